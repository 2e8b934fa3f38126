/-
  The abstract machine, proved once over the model.
-/
import Derived.Calls
import GoSem.ClaimData
import Derived.Orders
import Derived.Below
import Derived.Laws.Entries
import Derived.Laws.AppendOwn
import Derived.Tactics
import Derived.Laws.BytesString
import Derived.Lib.ConvBytes
set_option maxRecDepth 100000
set_option maxHeartbeats 40000000
set_option linter.unusedSimpArgs false
set_option linter.unusedVariables false
namespace Go.AM
inductive AV where
 | un
 | v (x:Value)
 | bl (b:Bool)
 | agg (cs:List AV)
 | tup (vs:List AV)
 | sl (xs:List (List AV))
 | dp (cs:List AV)
 | nl
 | p (b off:Nat)
 | own (b n:Nat)
 | ep (b n i off:Nat)
 | os (b n lo hi:Nat)
 | fn (f:FuncId) (caps:List AV)
 | mp (b:Nat)
inductive Blk where
 | box (cs:List AV)
 | row (e:TypeId) (xs:List (List AV)) (sh:Bool)
 | mp (es:List (AV × AV))
abbrev Heap:=List Blk
abbrev TS:=List (Nat × AV)
inductive TK where
 | scalar
 | int (k:IntKind)
 | str
 | bool
 | struct (offs:List Nat)
 | array (n:Nat) (elem:TypeId)
 | slice (elem:TypeId)
 | map (key elem:TypeId)
structure TI where
 kind:TK
 size:Nat
 bytes:Nat
 zero:List AV
def TI.isAgg (t:TI):Bool:=match t.kind with
 | .struct _|.array _ _=>true
 | _=>false
inductive Orc where
 | b (x:Bool)
 | i (n:Int)
 | el (cs:List AV)
 | call (lend:List Nat) (r:AV) (h':Heap)
 | calln (lend:List Nat) (r:AV) (h':Heap)
 | draw (l:List (Nat × List Orc))
def zhE:Value->AV
 | .slice none 0 0=>.nl
 | .bool b=>.bl b
 | .agg _=>.un
 | .tuple _=>.un
 | x=>.v x
def look (ts:TS) (t:Nat):AV:=match ts with
 | []=>.un
 | (k,x)::r=>match Nat.beq k t with
  | true=>x
  | false=>look r t
def ev (G:Nat->Option (List AV)) (ts:TS):Operand->AV
 | .tmp t=>look ts t
 | .const x=>zhE x
 | .func f=>.fn f []
 | .global g=>match G g with
  | some cs=>.dp cs
  | none=>.un
def put (ts:TS) (d:Option Tmp) (x:AV):TS:=match d with
 | some d=>(d,x)::ts
 | none=>ts
def zji (n:Nat) (x:AV):Option (List AV):=match n with
 | 1=>some [x]
 | _=>none
def zbo (n:Nat):AV->Option (List AV)
 | .agg cs=>match n with
  | 0=>none
  | n+1=>match Nat.beq cs.length (n+1) with
   | true=>some cs
   | false=>none
 | .tup _=>none
 | .un=>none
 | x=>zji n x
def mkv (t:TI) (cs:List AV):Option AV :=
 match t.isAgg with
 | true=>some (.agg cs)
 | false=>cs.head?
mutual
def frz (h:Heap):AV->AV
 | .un=>.un
 | .v x=>.v x
 | .bl b=>.v (.bool b)
 | .agg cs=>.agg (frzL h cs)
 | .tup vs=>.tup (frzL h vs)
 | .sl xs=>.sl xs
 | .dp cs=>.dp cs
 | .nl=>.sl []
 | .own b _=>match h[b]? with
  | some (.row _ xs _)=>.sl xs
  | _=>.un
 | .p _ _=>.un
 | .ep _ _ _ _=>.un
 | .os b _ lo hi=>match h[b]? with
  | some (.row _ xs _)=>.sl ((xs.take hi).drop lo)
  | _=>.un
 | .fn _ _=>.un
 | .mp _=>.un
def frzL (h:Heap):List AV->List AV
 | []=>[]
 | x::r=>frz h x::frzL h r
end
mutual
def frzO (h:Heap):AV->Prop
 | .agg cs=>zbd h cs
 | .tup vs=>zbd h vs
 | .own b n=>match h[b]? with
  | some (.row _ xs _)=>n=xs.length
  | _=>True
 | .os b n _ _=>match h[b]? with
  | some (.row _ xs _)=>n=xs.length
  | _=>True
 | _=>True
def zbd (h:Heap):List AV->Prop
 | []=>True
 | x::r=>frzO h x/\zbd h r
end
mutual
def frzM:AV->List Nat
 | .agg cs=>zaL cs
 | .tup vs=>zaL vs
 | .own b _=>[b]
 | .os b _ _ _=>[b]
 | _=>[]
def zaL:List AV->List Nat
 | []=>[]
 | x::r=>frzM x++zaL r
end
def zeb (h:Heap) (b:Nat):Heap:=match h[b]? with
 | some (.row e xs _)=>h.set b (.row e xs true)
 | _=>h
def share (h:Heap) (l:List Nat):Heap:=l.foldl zeb h
mutual
def ren (σ:Nat->Option Nat):AV->AV
 | .agg cs=>.agg (renL σ cs)
 | .tup vs=>.tup (renL σ vs)
 | .p b off=>match σ b with
  | some i=>.p i off
  | none=>.un
 | .own b n=>match σ b with
  | some i=>.own i n
  | none=>.un
 | .ep b n k off=>match σ b with
  | some i=>.ep i n k off
  | none=>.un
 | .os b n lo hi=>match σ b with
  | some i=>.os i n lo hi
  | none=>.un
 | .fn f caps=>.fn f (renL σ caps)
 | .mp b=>match σ b with
  | some i=>.mp i
  | none=>.un
 | x=>x
def renL (σ:Nat->Option Nat):List AV->List AV
 | []=>[]
 | x::r=>ren σ x::renL σ r
end
def zay (σ:Nat->Option Nat):Blk->Blk
 | .box cs=>.box (renL σ cs)
 | .row e xs sh=>.row e xs sh
 | .mp es=>.mp es
def argV (σ:Nat->Option Nat) (h:Heap):AV->AV
 | .p b off=>ren σ (.p b off)
 | .fn f caps=>ren σ (.fn f caps)
 | .mp b=>ren σ (.mp b)
 | .own b n=>match σ b with
  | some i=>.own i n
  | none=>frz h (.own b n)
 | .os b n lo hi=>match σ b with
  | some i=>.os i n lo hi
  | none=>frz h (.os b n lo hi)
 | x=>frz h x
def hide (σ:Nat->Option Nat):AV->AV
 | .own b n=>match σ b with
  | some _=>.un
  | none=>.own b n
 | .os b n lo hi=>match σ b with
  | some _=>.un
  | none=>.os b n lo hi
 | x=>x
def zld (σ:Nat->Option Nat) (h:Heap):AV->AV
 | .nl=>.nl
 | x=>argV σ h x
def idx (l:List Nat) (b:Nat):Option Nat:=match l with
 | []=>none
 | x::r=>match Nat.beq x b with
  | true=>some 0
  | false=>(idx r b).map (·+1)
def zey (lend:List Nat) (h:Heap):List Nat->Option Heap
 | []=>some []
 | b::r=>match h[b]?,zey lend h r with
  | some x,some y=>some (zay (idx lend) x::y)
  | _,_=>none
def back (lend:List Nat) (n:Nat) (i:Nat):Option Nat:=match lend[i]? with
 | some b=>some b
 | none=>some (n+(i - lend.length))
def zaZ {α:Type} (h:List α):List Nat->List α->List α
 | b::r,x::y=>zaZ (h.set b x) r y
 | _,_=>h
def zda:List Nat->Bool
 | []=>true
 | b::r=>(match idx r b with|none=>true|some _=>false)&&zda r
def frzQ (m:List Nat) (p q:Prop):Prop:=match m with
 | []=>q
 | _::_=>p/\q
def frzB (h:Heap) (cs:List AV):Option Prop:=match zaL cs with
 | []=>none
 | _::_=>some (zbd h cs)
def zah:Option Prop->Prop
 | none=>True
 | some q=>q
def allP:List Prop->Prop
 | []=>True
 | [q]=>q
 | q::r=>q/\allP r
structure OutG (α:Type) where
 o:Option Prop
 ts:α
 h:Heap
 os:List Orc
abbrev Out:=OutG TS
structure Env0 where
 P:Program
 T:TypeId->TI
 G:Nat->Option (List AV)
structure Env extends Env0 where
 C:FuncId->List AV->Heap->AV->Heap->Prop
def zmd (op:BinOp) (a b:Int):Option Bool:=match op with
 | .eql=>some (a==b)
 | .neq=>some (a != b)
 | .lss=>some (decide (a < b))
 | .leq=>some (decide (a<=b))
 | .gtr=>some (decide (b < a))
 | .geq=>some (decide (b<=a))
 | _=>none
def arith (op:BinOp) (a b:Int):Option Int:=match op with
 | .add=>some (a+b)
 | .sub=>some (a - b)
 | .mul=>some (a * b)
 | _=>none
def bitop (op:BinOp) (k:IntKind) (a b:Int):Option Int:=match op with
 | .and=>some (k.wrap (BitVec.ofInt k.bits a &&& BitVec.ofInt k.bits b).toNat)
 | .or=>some (k.wrap (BitVec.ofInt k.bits a ||| BitVec.ofInt k.bits b).toNat)
 | .xor=>some (k.wrap (BitVec.ofInt k.bits a ^^^ BitVec.ofInt k.bits b).toNat)
 | .andNot=>some (k.wrap (BitVec.ofInt k.bits a &&& ~~~(BitVec.ofInt k.bits b)).toNat)
 | _=>none
def zk2 (op:BinOp) (k:IntKind) (a b:Int):Option Int:=match op with
 | .shl=>some (k.wrap (a * 2 ^ (min b.toNat k.bits)))
 | .shr=>some (a.fdiv (2 ^ (min b.toNat k.bits)))
 | _=>none
def zcA:Value->Value->Option Bool
 | .int k a,.int k' b=>if k=k' then some (a==b) else none
 | .string a,.string b=>some (a==b)
 | .bool a,.bool b=>some (a==b)
 | _,_=>none
def zaM:List Value->List Value->Option Bool
 | [],[]=>some true
 | x::r,y::s=>match zcA x y,zaM r s with
  | some a,some b=>some (a&&b)
  | _,_=>none
 | _,_=>none
def scal:AV->Option Value
 | .v x=>some x
 | .bl b=>some (.bool b)
 | _=>none
def zcC:List AV->Option (List Value)
 | []=>some []
 | x::r=>match scal x,zcC r with
  | some a,some b=>some (a::b)
  | _,_=>none
inductive Shp where
 | int (k:IntKind)
 | str
 | bool
 | other
def shp:Value->Shp
 | .int k _=>.int k
 | .string _=>.str
 | .bool _=>.bool
 | _=>.other
structure StructEq (P:Program) (t:TypeId) (n:List Shp):Prop where
 guard:P.eqGuardType P.depth t=false
 eq:∀ (w:World) (xs ys:List Value) (r:Bool),xs.map shp=n->zaM xs ys=some r->(Op.equal t (.agg xs.toArray) (.agg ys.toArray)).run P w=.ok r w
def bool?:AV->Option Bool
 | .bl b=>some b
 | .v (.bool b)=>some b
 | _=>none
def fill (place:Nat->Option (Nat × Nat)) (cells:List AV):List (Nat × AV)->Option (List AV)
 | []=>some cells
 | (i,x)::rest=>match place i with
  | none=>none
  | some (off,size)=>match zbo size x with
   | none=>none
   | some cs=>if off+size<=cells.length then fill place (cells.take off++cs++cells.drop (off+size)) rest else none
def zdS (offs:List Nat) (size i:Nat):Option (Nat × Nat):=match offs[i]? with
 | some off=>some (off,((offs.drop (i+1)).headD size) - off)
 | none=>none
def zb8 (size:Nat):Nat->List AV->List (List AV)
 | 0,_=>[]
 | n+1,cs=>cs.take size::zb8 size n (cs.drop size)
def slOf (n:Nat) (xs:List (List AV)):AV:=match n with
 | 0=>.nl
 | _+1=>.sl xs
def repl (zero:List AV):Nat->List AV
 | 0=>[]
 | n+1=>zero++repl zero n
def zmE (op:BinOp) (a b:ByteArray):Option Bool:=match op with
 | .eql=>some (a.toList==b.toList)
 | .neq=>some (!(a.toList==b.toList))
 | .lss=>some (Op.bytesLess a.toList b.toList)
 | .leq=>some (Op.bytesLess a.toList b.toList || a.toList==b.toList)
 | .gtr=>some (!(Op.bytesLess a.toList b.toList || a.toList==b.toList))
 | .geq=>some (!(Op.bytesLess a.toList b.toList))
 | _=>none
def binop (E:Env) (op:BinOp) (t:TypeId) (x y:AV) (os:List Orc):Option (Option Prop × AV × List Orc) :=
 match x,y with
 | .v (.int k a),.v (.int k' b)=>match zk2 op k a b with
  | some c=>match os with
   | .i n::os=>some (some (0<=b/\c=n),.v (.int k n),os)
   | _=>none
  | none=>if k=k' then match zmd op a b with
   | some r=>some (none,.v (.bool r),os)
   | none=>match op,os with
    | .quo,.i n::os=>some (some (b≠0/\k.wrap (a.tdiv b)=n),.v (.int k n),os)
    | .rem,.i n::os=>some (some (b≠0/\a.tmod b=n),.v (.int k n),os)
    | op,.i n::os=>match arith op a b with
     | some c=>some (some (k.wrap c=n),.v (.int k n),os)
     | none=>match bitop op k a b with
      | some c=>some (some (c=n),.v (.int k n),os)
      | none=>none
    | _,_=>none
   else none
 | .v (.string a),.v (.string b)=>match zmE op a b with
  | some r=>some (none,.v (.bool r),os)
  | none=>none
 | .agg cs,.agg ds=>match zcC cs,zcC ds with
  | some xs,some ys=>match zaM xs ys,op with
   | some r,.eql=>some (some (StructEq E.P t (xs.map shp)),.v (.bool r),os)
   | some r,.neq=>some (some (StructEq E.P t (xs.map shp)),.v (.bool (!r)),os)
   | _,_=>none
  | _,_=>none
 | x,y=>match bool? x,bool? y with
  | some a,some b=>match (E.T t).kind,op with
   | .bool,.eql=>some (none,.v (.bool (a==b)),os)
   | .bool,.neq=>some (none,.v (.bool (!(a==b))),os)
   | _,_=>none
  | _,_=>none
def zkS (P:Program) (t:TypeId) (f:Nat):Option TypeId:=match P.underlying t with
 | some (.struct fs)=>(fs[f]?).map (·.type)
 | _=>none
def ziI:AV->Bool
 | .sl _|.nl=>true
 | _=>false
def zd6 (h:Heap):AV->Option (List (List AV))
 | .sl xs=>some xs
 | .nl=>some []
 | .own b _=>match h[b]? with
  | some (.row _ xs _)=>some xs
  | _=>none
 | .os b _ lo hi=>match h[b]? with
  | some (.row _ xs _)=>some ((xs.take hi).drop lo)
  | _=>none
 | _=>none
def zjc {α:Type} (E:Env) (f:FuncId) (args:List AV) (pt:AV->α) (h:Heap) (os:List Orc):Option (OutG α) :=
 match os with
 | .call lend r h'::os=>match zey lend (share h (zaL (args.map (hide (idx lend))))) lend,Nat.ble lend.length h'.length&&zda lend with
  | some hl,true =>
   some ⟨some (frzQ (zaL (args.map (hide (idx lend)))) (zbd h (args.map (hide (idx lend)))) (E.C f (args.map (argV (idx lend) h)) hl r h')),pt (ren (back lend h.length) r),
    zaZ (share h (zaL (args.map (hide (idx lend))))) lend ((h'.take lend.length).map (zay (back lend h.length)))++(h'.drop lend.length).map (zay (back lend h.length)),os⟩
  | _,_=>none
 | .calln lend r h'::os=>match zey lend (share h (zaL (args.map (hide (idx lend))))) lend,Nat.ble lend.length h'.length&&zda lend with
  | some hl,true =>
   some ⟨some (frzQ (zaL (args.map (hide (idx lend)))) (zbd h (args.map (hide (idx lend)))) (E.C f (args.map (zld (idx lend) h)) hl r h')),pt (ren (back lend h.length) r),
    zaZ (share h (zaL (args.map (hide (idx lend))))) lend ((h'.take lend.length).map (zay (back lend h.length)))++(h'.drop lend.length).map (zay (back lend h.length)),os⟩
  | _,_=>none
 | _=>none
structure AllLen (ys:List (List AV)) (n:Nat):Prop where
 all:∀ c∈ys,c.length=n
def zaF (xs:List (List AV)) (d:Nat) (ys:List (List AV)):List (List AV):=xs.take d++(ys++xs.drop (d+ys.length))
def append {α:Type} (E:Env) (t:TypeId) (x y:AV) (pt:AV->α) (h:Heap) (os:List Orc):Option (OutG α) :=
 match (E.T t).kind,zd6 h y with
 | .slice e,some ys=>match Nat.ble 1 (E.T e).bytes with
  | false=>none
  | true=>match x with
  | .nl=>some ⟨some (frzQ (frzM y) (frzO h y) (AllLen ys (E.T e).size/\ys.length * (E.T e).bytes<=140737488355328)),pt (.own h.length ys.length),h++[.row e ys false],os⟩
  | .own b n=>match h[b]? with
   | some (.row e' xs sh)=>if e=e' then
     some ⟨some (frzQ (frzM y) (frzO h y) (AllLen ys (E.T e).size/\n=xs.length/\(xs.length+ys.length) * (E.T e).bytes<=140737488355328)),pt (.own b (xs++ys).length),h.set b (.row e (xs++ys) sh),os⟩
    else none
   | _=>none
  | .os b n 0 hi=>match h[b]? with
   | some (.row e' xs false)=>if e=e' then
     some ⟨some (frzQ (frzM y) (frzO h y) (AllLen ys (E.T e).size/\n=xs.length/\hi+ys.length<=n)),pt (.os b n 0 (hi+ys.length)),h.set b (.row e (zaF xs hi ys) false),os⟩
    else none
   | _=>none
  | _=>none
 | _,_=>none
structure ElAt (xs:List (List AV)) (i:Int) (c:List AV) (n:Nat):Prop where
 pos:0<=i
 at_:xs[i.toNat]?=some c
 len:c.length=n
structure ArrAt (cs:List AV) (i:Int) (n:Nat) (c:List AV) (k:Nat):Prop where
 pos:0<=i
 lt:i.toNat < n
 at_:(cs.drop (i.toNat * k)).take k=c
 len:c.length=k
def u8c (b:UInt8):List AV:=[.v (.int .u8 b.toNat)]
def zdm (s:ByteArray):List (List AV):=s.data.toList.map u8c
structure ByteAt (s:ByteArray) (i n:Int):Prop where
 pos:0<=i
 at_:(s[i.toNat]?).map (fun b=>(b.toNat:Int))=some n
structure SubAt (xs:List (List AV)) (l u:Int) (k:Nat):Prop where
 pos:0<=l
 le:l<=u
 hi:u<=xs.length
 len:∀ c∈xs,c.length=k
structure OwnEl (xs:List (List AV)) (n i:Nat) (c:List AV):Prop where
 eq:n=xs.length
 at_:xs[i]?=some c
structure OwnAt (xs:List (List AV)) (n:Nat) (i:Int):Prop where
 eq:n=xs.length
 pos:0<=i
 lt:i.toNat < n
structure OwnCut (xs:List (List AV)) (n:Nat) (l0:Nat) (i u:Int):Prop where
 eq:n=xs.length
 pos:0<=i
 le:i<=u
 hi:u.toNat+l0<=n
def zjB (xs:List (List AV)) (d e s t:Nat):List (List AV):=zaF xs d (((xs.take t).drop s).take (e - d))
structure OsEl (xs:List (List AV)) (n lo hi:Nat) (i:Int):Prop where
 eq:n=xs.length
 pos:0<=i
 lt:i.toNat+lo < hi
def bnd (e:Operand->AV) (d:Int):Option Operand->Option Int
 | none=>some d
 | some a=>match e a with
  | .v (.int _ i)=>some i
  | _=>none
def cut0:Option Operand->Option Operand->Operand->AV
 | none,some (.const (.int _ 0)),.const (.int _ 0)=>.nl
 | _,_,_=>.un
def zcj (e:TI) (n:Nat):List (List AV):=List.replicate n (frzL [] e.zero)
def za5:AV->Option (Bool × List Value)
 | .agg cs=>match zcC cs with
  | some xs=>some (true,xs)
  | none=>none
 | x=>match scal x with
  | some y=>some (false,[y])
  | none=>none
def keyV (a:Bool) (xs:List Value):Value:=match a with
 | true=>.agg xs.toArray
 | false=>xs.headD (.tuple #[])
def zbx (k k':AV) (r:Bool):Prop:=∃ a xs ys,za5 k=some (a,xs)/\za5 k'=some (a,ys)/\zaM xs ys=some r
def zcS:List MapEntry->List Bool->Nat->Option (Nat × Value)
 | e::_,true::_,i=>some (i,e.val)
 | _::es,false::rs,i=>zcS es rs (i+1)
 | _,_,_=>none
structure KT (P:Program) (t:TypeId) (a:Bool) (ss:List Shp):Prop where
 ex:∃ kt et,P.underlying t=some (.map kt et)/\(∀ (e:Bool) (w:World) (xs:List Value),xs.map shp=ss->(Instr.checkKey e 10000 kt (keyV a xs)).run P w=.ok () w) /\
  (∀ (w:World) (xs:List Value) (l:List MapEntry) (rs:List Bool),xs.map shp=ss->rs.length=l.length->(∀ (i:Nat) (e:MapEntry) (r:Bool),l[i]?=some e->rs[i]?=some r->∃ ys,e.key=keyV a ys/\zaM xs ys=some r) ->
   (Instr.findKey kt (keyV a xs) l).run P w=.ok (zcS l rs 0) w)
structure KeyOK (P:Program) (t:TypeId) (k:AV):Prop where
 ex:∃ a xs,za5 k=some (a,xs)/\KT P t a (xs.map shp)
structure LookAt (es:List (AV × AV)) (k:AV) (r:Option AV):Prop where
 all:∀ p∈es,∃ b,zbx k p.1 b
 at_:∀ p∈es,zbx k p.1 true->r=some p.2
 some_:∀ x,r=some x->∃ p∈es,zbx k p.1 true
def blv:AV->AV
 | .bl b=>.v (.bool b)
 | x=>x
structure LookV (es:List (AV × AV)) (k z x:AV):Prop where
 ex:∃ r,LookAt es k r/\(x=r.getD z\/x=blv (r.getD z))
structure LookOk (es:List (AV × AV)) (k z x y:AV):Prop where
 ex:∃ r,LookAt es k r/\x=r.getD z/\y=.v (.bool r.isSome)
inductive PutAt (es:List (AV × AV)) (k v:AV) (es':List (AV × AV)):Prop
 | new:(∀ p∈es,zbx k p.1 false)->es'.Perm ((k,v)::es)->PutAt es k v es'
 | old (A B:List (AV × AV)) (k' x:AV):es=A++(k',x)::B->zbx k k' true->(∀ p∈A++B,zbx k p.1 false)->es'.Perm ((k,v)::(A++B))->PutAt es k v es'
def zb3 (ik:IntKind) (n:Int):List (AV × AV)->Bool
 | []=>true
 | (.v (.int k' m),_)::r=>match decide (k'=ik),decide (n < m) with
  | true,true=>zb3 ik n r
  | _,_=>false
 | _=>false
def insE (ik:IntKind) (n:Int) (v:AV):List (AV × AV)->Option (List (AV × AV))
 | []=>some [(.v (.int ik n),v)]
 | (.v (.int k' m),x)::r=>match decide (k'=ik),decide (n < m),decide (m < n) with
  | true,true,_=>match zb3 ik n r with
   | true=>some ((.v (.int ik n),v)::(.v (.int k' m),x)::r)
   | false=>none
  | true,false,true=>match insE ik n v r with
   | some r'=>some ((.v (.int k' m),x)::r')
   | none=>none
  | _,_,_=>none
 | _=>none
def zcY {α:Type} (E:Env) (t:TypeId) (m:AV) (k:Operand) (kv v:AV) (pt:AV->α) (h:Heap) (os:List Orc):Option (OutG α) :=
 match m with
 | .mp b=>match h[b]?,frzM v with
  | some (.mp es),[]=>match k with
   | .const (.int ik n)=>match insE ik n (frz [] v) es with
    | some es'=>some ⟨some (KeyOK E.P t (.v (.int ik n))),pt .un,h.set b (.mp es'),os⟩
    | none=>none
   | _=>match os with
    | .call [] .un [.mp es']::os=>some ⟨some (KeyOK E.P t (frz [] kv)/\PutAt es (frz [] kv) (frz [] v) es'),pt .un,h.set b (.mp es'),os⟩
    | _=>none
  | _,_=>none
 | _=>none
def zeR:List (List AV)->Option (List Int)
 | []=>some []
 | [.v (.int .u8 n)]::r=>match zeR r with
  | some ns=>some (n::ns)
  | none=>none
 | _=>none
def zfD (ns:List Int):ByteArray:=ns.foldl (fun r n=>r.push (UInt8.ofNat n.toNat)) ByteArray.empty
def zaf {α:Type} (E:Env) (o:Oper) (e:Operand->AV) (pt:AV->α) (h:Heap) (os:List Orc):Option (OutG α) :=
 match o.op with
 | .move x|.assign x=>some ⟨none,pt (e x),h,os⟩
 | .pick c a b=>match e c with
  | .bl t=>some ⟨none,pt (match t with|true=>e a|false=>e b),h,os⟩
  | .v (.bool t)=>match bool? (e a),bool? (e b) with
   | some x,some y=>some ⟨none,pt (.v (.bool (cond t x y))),h,os⟩
   | _,_=>match os with
    | .b d::os=>some ⟨some (t=d),pt (match d with|true=>e a|false=>e b),h,os⟩
    | _=>none
  | _=>none
 | .alloc t=>match (E.T t).zero with
  | []=>none
  | z=>some ⟨none,pt (.p h.length 0),h++[.box z],os⟩
 | .box t x=>match zbo (E.T t).size (e x) with
  | some cs=>some ⟨none,pt (.p h.length 0),h++[.box cs],os⟩
  | none=>none
 | .build t parts=>match (E.T t).kind with
  | .struct offs=>match fill (zdS offs (E.T t).size) (E.T t).zero (parts.toList.map fun (i,x)=>(i,e x)) with
   | some cs=>some ⟨none,pt (.agg cs),h,os⟩
   | none=>none
  | .array _ el=>match fill (fun i=>some (i * (E.T el).size,(E.T el).size)) (E.T t).zero (parts.toList.map fun (i,x)=>(i,e x)) with
   | some cs=>some ⟨none,pt (.agg cs),h,os⟩
   | none=>none
  | _=>none
 | .buildSlice t len parts=>match (E.T t).kind with
  | .slice el=>match fill (fun i=>some (i * (E.T el).size,(E.T el).size)) (repl (E.T el).zero len) (parts.toList.map fun (i,x)=>(i,e x)),Nat.ble (len * (E.T el).size) 16777216 with
   | some cs,true=>some ⟨frzB h cs,pt (slOf len (zb8 (E.T el).size len (frzL h cs))),share h (zaL cs),os⟩
   | _,_=>none
  | _=>none
 | .makeSlice t l c=>match (E.T t).kind,e l,e c with
  | .slice el,.v (.int _ n),.v (.int _ m)=>match (E.T el).zero with
   | [.bl z]=>some ⟨some (m=n/\1<=n/\n<=1000000000/\n.toNat * (E.T el).bytes<=140737488355328),pt (.own h.length n.toNat),h++[.row el (List.replicate n.toNat [.bl z]) false],os⟩
   | _=>none
  | _,_,_=>none
 | .load t x=>match e x with
  | .p b off=>match h[b]? with
   | some (.box cs)=>match mkv (E.T t) ((cs.drop off).take (E.T t).size),Nat.ble (off+(E.T t).size) cs.length with
    | some r,true=>some ⟨none,pt r,h,os⟩
    | _,_=>none
   | _=>none
  | .dp cs=>match mkv (E.T t) (cs.take (E.T t).size),Nat.ble (E.T t).size cs.length with
   | some r,true=>some ⟨none,pt r,h,os⟩
   | _,_=>none
  | .ep b n i off=>match h[b]?,os with
   | some (.row _ xs _),.el c::os=>match mkv (E.T t) ((c.drop off).take (E.T t).size),Nat.ble (off+(E.T t).size) c.length with
    | some r,true=>some ⟨some (OwnEl xs n i c),pt r,h,os⟩
    | _,_=>none
   | _,_=>none
  | _=>none
 | .store t x y=>match zbo (E.T t).size (e y) with
  | none=>none
  | some ys=>match e x with
   | .p b off=>match h[b]? with
    | some (.box cs)=>match Nat.ble (off+(E.T t).size) cs.length with
     | true=>some ⟨none,pt .un,h.set b (.box (cs.take off++ys++cs.drop (off+(E.T t).size))),os⟩
     | false=>none
    | _=>none
   | .ep b n i off=>match (share h (zaL ys))[b]?,os with
    | some (.row el xs false),.el c::os=>match Nat.ble (off+(E.T t).size) c.length with
     | true=>some ⟨some (zbd h ys/\OwnEl xs n i c),pt .un,(share h (zaL ys)).set b (.row el (xs.set i (c.take off++frzL h ys++c.drop (off+(E.T t).size))) false),os⟩
     | false=>none
    | _,_=>none
   | _=>none
 | .nilCheck x=>match e x with
  | .p b off=>some ⟨none,pt (.p b off),h,os⟩
  | .dp cs=>some ⟨none,pt (.dp cs),h,os⟩
  | .ep b n i off=>some ⟨none,pt (.ep b n i off),h,os⟩
  | .fn f caps=>some ⟨none,pt (.fn f caps),h,os⟩
  | _=>none
 | .binOp op t x y _=>match binop E op t (e x) (e y) os with
  | some (q,r,os)=>some ⟨q,pt r,h,os⟩
  | none=>none
 | .unOp .not _ x=>match e x with
  | .bl b=>some ⟨none,pt (.bl (!b)),h,os⟩
  | .v (.bool b)=>some ⟨none,pt (.v (.bool (!b))),h,os⟩
  | _=>none
 | .unOp .neg _ x=>match e x,os with
  | .v (.int k a),.i n::os=>some ⟨some (k.wrap (-a)=n),pt (.v (.int k n)),h,os⟩
  | _,_=>none
 | .unOp .xor _ x=>match e x,os with
  | .v (.int k a),.i n::os=>some ⟨some (k.wrap (BitVec.ofInt k.bits (if k.signed then -1 else k.max) ^^^ BitVec.ofInt k.bits a).toNat=n),pt (.v (.int k n)),h,os⟩
  | _,_=>none
 | .fieldAddr t x f=>match (E.T t).kind with
  | .struct offs=>match offs[f]?,e x with
   | some d,.p b off=>some ⟨none,pt (.p b (off+d)),h,os⟩
   | some d,.dp cs=>some ⟨none,pt (.dp (cs.drop d)),h,os⟩
   | some d,.ep b n i off=>some ⟨none,pt (.ep b n i (off+d)),h,os⟩
   | _,_=>none
  | _=>none
 | .field t x f=>match (E.T t).kind,e x with
  | .struct offs,.agg cs=>match offs[f]? with
   | some d=>match mkv (E.T o.type) ((cs.drop d).take (E.T o.type).size),Nat.ble (d+(E.T o.type).size) cs.length with
    | some r,true=>some ⟨some (zkS E.P t f=some o.type),pt r,h,os⟩
    | _,_=>none
   | none=>none
  | _,_=>none
 | .indexAddr t x ix=>match (E.T t).kind,e x,e ix with
  | .slice el,.sl xs,.v (.int _ i)=>match os with
   | .el c::os=>some ⟨some (ElAt xs i c (E.T el).size),pt (.dp c),h,os⟩
   | _=>none
  | .slice el,.own b n,.v (.int _ i)=>match h[b]? with
   | some (.row e xs _)=>if el=e then some ⟨some (OwnAt xs n i),pt (.ep b n i.toNat 0),h,os⟩ else none
   | _=>none
  | .slice el,.os b n lo hi,.v (.int _ i)=>match h[b]? with
   | some (.row e xs _)=>if el=e then some ⟨some (OsEl xs n lo hi i),pt (.ep b n (i.toNat+lo) 0),h,os⟩ else none
   | _=>none
  | .array n el,.dp cs,.v (.int _ i)=>match os with
   | .el c::os=>some ⟨some (ArrAt cs i n c (E.T el).size),pt (.dp c),h,os⟩
   | _=>none
  | .array n el,.p b off,.v (.int _ i)=>some ⟨some (0<=i/\i.toNat < n),pt (.p b (off+i.toNat * (E.T el).size)),h,os⟩
  | _,_,_=>none
 | .index t x ix=>match (E.T t).kind,e x,e ix with
  | .array n el,.agg cs,.v (.int _ i)=>match os with
   | .el c::os=>match mkv (E.T el) c with
    | some r=>some ⟨some (ArrAt cs i n c (E.T el).size),pt r,h,os⟩
    | none=>none
   | _=>none
  | .str,.v (.string s),.v (.int _ i)=>match os with
   | .i n::os=>some ⟨some (ByteAt s i n),pt (.v (.int .u8 n)),h,os⟩
   | _=>none
  | _,_,_=>none
 | .slice t x lo hi mx=>match (E.T t).kind,e x,mx with
  | .slice el,.sl xs,none =>
   match (match lo with|none=>some 0|some a=>match e a with|.v (.int _ i)=>some i|_=>none),
      (match hi with|none=>some (xs.length:Int)|some a=>match e a with|.v (.int _ i)=>some i|_=>none) with
   | some l,some u=>some ⟨some (SubAt xs l u (E.T el).size),pt (.sl ((xs.take u.toNat).drop l.toNat)),h,os⟩
   | _,_=>none
  | .slice el,.own b n,none=>match h[b]?,bnd e 0 lo,bnd e n hi with
   | some (.row e' xs _),some i,some u=>if el=e' then some ⟨some (OwnCut xs n 0 i u),pt (.os b n i.toNat u.toNat),h,os⟩ else none
   | _,_,_=>none
  | .slice el,.os b n l0 u0,none=>match h[b]?,bnd e 0 lo,bnd e (u0 - l0:Nat) hi with
   | some (.row e' xs _),some i,some u=>if el=e' then some ⟨some (OwnCut xs n l0 i u),pt (.os b n (i.toNat+l0) (u.toNat+l0)),h,os⟩ else none
   | _,_,_=>none
  | .slice el,.own b n,some m=>match h[b]?,bnd e 0 lo,hi.map e,e m with
   | some (.row e' xs _),some i,some (.v (.int _ u)),.v (.int _ mm)=>if el=e' then some ⟨some (OwnCut xs n 0 i u/\u<=mm/\mm.toNat<=n),pt (cut0 lo hi m),h,os⟩ else none
   | _,_,_,_=>none
  | .slice el,.os b n l0 u0,some m=>match h[b]?,bnd e 0 lo,hi.map e,e m with
   | some (.row e' xs _),some i,some (.v (.int _ u)),.v (.int _ mm)=>if el=e' then some ⟨some (OwnCut xs n l0 i u/\u<=mm/\mm.toNat+l0<=n),pt (cut0 lo hi m),h,os⟩ else none
   | _,_,_,_=>none
  | .slice _,x,some m=>match lo,hi.map e,e m,ziI x with
   | none,some (.v (.int _ 0)),.v (.int _ 0),true=>some ⟨none,pt .nl,h,os⟩
   | _,_,_,_=>none
  | _,_,_=>none
 | .makeMap _ none=>some ⟨none,pt (.mp h.length),h++[.mp []],os⟩
 | .insert t m k v=>zcY E t (e m) k (e k) (e v) pt h os
 | .mapUpdate t m k v=>zcY E t (e m) k (e k) (e v) pt h os
 | .lookup t m k ok=>match (E.T t).kind,e m with
  | .map _ el,.mp b=>match h[b]? with
   | some (.mp es)=>match (E.T el).zero,(E.T el).isAgg,ok,os with
    | [z],false,false,.el [x]::os=>some ⟨some (KeyOK E.P t (frz [] (e k))/\LookV es (frz [] (e k)) z x),pt x,h,os⟩
    | [z],false,true,.el [x,y]::os=>some ⟨some (KeyOK E.P t (frz [] (e k))/\LookOk es (frz [] (e k)) z x y),pt (.tup [x,y]),h,os⟩
    | _,_,_,_=>none
   | _=>none
  | _,_=>none
 | .extract x i=>match e x with
  | .tup vs=>match vs[i]? with
   | some r=>some ⟨none,pt r,h,os⟩
   | none=>none
  | _=>none
 | .makeFunc (.func f) first caps=>match first.toList with
  | []=>some ⟨none,pt (.fn f (caps.toList.map e)),h,os⟩
  | _=>none
 | .convert src t x=>match (E.T t).kind,e x,Nat.ble 1 (E.T src).size with
  | .int k,.v (.int _ a),true=>match os with
   | .i n::os=>some ⟨some (k.wrap a=n),pt (.v (.int k n)),h,os⟩
   | _=>none
  | .str,.sl xs,true=>match (E.T src).kind with
   | .slice el=>match (E.T el).kind,zeR xs with
    | .int .u8,some ns=>some ⟨none,pt (.v (.string (zfD ns))),h,os⟩
    | _,_=>none
   | _=>none
  | .slice el,.v (.string s),true=>match (E.T el).kind with
   | .int .u8=>some ⟨some (s.size<=1000000000000),pt (.sl (zdm s)),h,os⟩
   | _=>none
  | _,_,_=>none
 | .call { callee:=.builtin .max,args,.. }=>match args.toList with
  | [x,y]=>match e x,e y,os with
   | .v (.int k a),.v (.int _ b),.i n::os=>some ⟨some ((if b > a then b else a)=n),pt (.v (.int k n)),h,os⟩
   | _,_,_=>none
  | _=>none
 | .call { callee:=.builtin .min,args,.. }=>match args.toList with
  | [x,y]=>match e x,e y,os with
   | .v (.int k a),.v (.int _ b),.i n::os=>some ⟨some ((if b < a then b else a)=n),pt (.v (.int k n)),h,os⟩
   | _,_,_=>none
  | _=>none
 | .call { callee:=.builtin .len,args,argTypes }=>match args.toList,argTypes.toList with
  | [x],[t]=>match (E.T t).kind,e x with
   | .slice _,.sl xs=>some ⟨none,pt (.v (.int .i64 xs.length)),h,os⟩
   | .slice _,.nl=>some ⟨none,pt (.v (.int .i64 0)),h,os⟩
   | .slice _,.own b n=>match h[b]? with
    | some (.row _ xs _)=>some ⟨some (n=xs.length),pt (.v (.int .i64 n)),h,os⟩
    | _=>none
   | .slice _,.os b n lo hi=>match h[b]? with
    | some (.row _ xs _)=>some ⟨some (n=xs.length),pt (.v (.int .i64 (hi - lo:Nat))),h,os⟩
    | _=>none
   | .str,.v (.string s)=>some ⟨none,pt (.v (.int .i64 s.size)),h,os⟩
   | .map _ _,.mp b=>match h[b]? with
    | some (.mp es)=>some ⟨none,pt (.v (.int .i64 es.length)),h,os⟩
    | _=>none
   | _,_=>none
  | _,_=>none
 | .call { callee:=.builtin .copy,args,argTypes }=>match args.toList,argTypes.toList with
  | [x,y],[t,_]=>match (E.T t).kind,e x,e y with
   | .slice el,.os b n d dh,.os b' n' s sh=>match Nat.beq b b',h[b]? with
    | true,some (.row e' xs false)=>if el=e' then some ⟨some (n=xs.length/\n'=xs.length),pt .un,h.set b (.row el (zjB xs d dh s sh) false),os⟩ else none
    | _,_=>none
   | _,_,_=>none
  | _,_=>none
 | .call { callee:=.builtin .clear,args,argTypes }=>match args.toList,argTypes.toList with
  | [x],[t]=>match (E.T t).kind,e x with
   | .slice el,.os b n lo hi=>match h[b]? with
    | some (.row e' xs false)=>if el=e' then some ⟨some (n=xs.length),pt .un,h.set b (.row el (zaF xs lo (zcj (E.T el) (hi - lo))) false),os⟩ else none
    | _=>none
   | _,_=>none
  | _,_=>none
 | .call { callee:=.builtin .append,args,argTypes }=>match args.toList,argTypes.toList with
  | [x,y],[t,t']=>match Nat.beq t t' with
   | true=>append E t (e x) (e y) pt h os
   | false=>none
  | _,_=>none
 | .call { callee:=.value f,args,.. }=>match e f with
  | .fn f caps=>zjc E f (args.toList.map e++caps) pt h os
  | _=>none
 | _=>none
def zai (E:Env) (o:Oper) (ts:TS) (h:Heap) (os:List Orc):Option Out:=zaf E o (ev E.G ts) (put ts o.dst) h os
inductive It where
 | code (c:Code)
 | ops (all:List Oper) (rest:List Oper)
 | blk (id:Nat)
 | lp (c:Code)
structure Cfg where
 n:Nat
 todo:List It
 ts:TS
 h:Heap
def zao (n:Nat) (d:Option Tmp):Bool:=match d with
 | some d=>Nat.blt d n
 | none=>true
def zdo (id:Nat):List It->Option (List It)
 | []=>none
 | .blk i::k=>match Nat.beq i id with
  | true=>some k
  | false=>zdo id k
 | _::k=>zdo id k
def zbO (all:List Oper) (j:Nat):Option Tmp:=(all[j]?).bind (·.dst)
def zcN:AV:=.tup []
def zlZ (E:Env) (all:List Oper) (o:Oper) (ts:TS) (h:Heap) (os:List Orc):Option Out :=
 match o.guard with
 | none=>zai E o ts h os
 | some (j,want)=>match zbO all j with
  | none=>none
  | some d=>match look ts d with
   | .bl b=>match b==want with
    | true=>zai E o ts h os
    | false=>some ⟨none,put ts o.dst zcN,h,os⟩
   | .tup []=>some ⟨none,put ts o.dst zcN,h,os⟩
   | .v (.bool t)=>match os with
    | .b b::os=>match b==want with
     | true=>(zai E o ((d,.bl b)::ts) h os).map fun r=>{ r with o:=some (t=b/\zah r.o) }
     | false=>some ⟨some (t=b),put ((d,.bl b)::ts) o.dst zcN,h,os⟩
    | _=>none
   | _=>none
def zjh (ts:TS) (b:Bool):Operand->TS
 | .tmp d=>(d,.bl b)::ts
 | _=>ts
def evF (G:Nat->Option (List AV)) (L:Nat->AV):Operand->AV
 | .tmp t=>L t
 | .const x=>zhE x
 | .func f=>.fn f []
 | .global g=>match G g with
  | some cs=>.dp cs
  | none=>.un
def zaK (h:Heap) (b:Nat):Option (List AV):=match h[b]? with
 | some (.box cs)=>some cs
 | _=>none
def za4 (E:Env) (o:Oper) (e:Operand->AV):Option (List Nat):=match o.op with
 | .move _|.assign _|.pick ..|.build ..|.binOp ..|.unOp ..|.fieldAddr ..|.field ..|.index ..|.extract ..|.makeFunc ..|.convert ..|.nilCheck _=>some []
 | .load _ x=>match e x with
  | .p b _=>some [b]
  | .dp _=>some []
  | _=>none
 | .indexAddr _ x _=>match e x with
  | .own _ _=>none
  | .os _ _ _ _=>none
  | _=>some []
 | .slice _ x _ _ _=>match e x with
  | .own _ _=>none
  | .os _ _ _ _=>none
  | _=>some []
 | .call { callee:=.builtin .len,args,.. }=>match args.toList with
  | [x]=>match e x with
   | .own _ _=>none
   | .os _ _ _ _=>none
   | .mp _=>none
   | _=>some []
  | _=>none
 | .call { callee:=.builtin .max,.. }=>some []
 | .call { callee:=.builtin .min,.. }=>some []
 | .buildSlice t n parts=>match (E.T t).kind with
  | .slice el=>match fill (fun i=>some (i * (E.T el).size,(E.T el).size)) (repl (E.T el).zero n) (parts.toList.map fun (i,x)=>(i,e x)) with
   | some cs=>match zaL cs with
    | []=>some []
    | _=>none
   | none=>none
  | _=>none
 | _=>none
def zdr:List Orc->List Nat
 | []=>[]
 | .call l _ _::_=>l
 | .calln l _ _::_=>l
 | _::r=>zdr r
def zcV (o:Oper) (os:List Orc) (B:List Nat):Bool:=match B with
 | []=>true
 | _::_=>match o.op with
  | .store ..=>false
  | .call _=>B.all fun b=>!(zdr os).contains b
  | _=>true
def andO:Option Prop->Option Prop->Option Prop
 | none,x=>x
 | some p,x=>some (p/\zah x)
def gst (all:List Oper) (o:Oper) (L:Nat->AV) (os:List Orc):Option (Bool × Option Prop × List Orc) :=
 match o.guard with
 | none=>some (true,none,os)
 | some (j,want)=>match zbO all j with
  | none=>none
  | some d=>match L d with
   | .bl b=>some (b==want,none,os)
   | .tup []=>some (false,none,os)
   | .v (.bool t)=>match os with
    | .b b::os=>some (b==want,some (t=b),os)
    | _=>none
   | _=>none
def za3 (E:Env) (all:List Oper) (o:Oper) (L:Nat->AV) (h:Heap) (os:List Orc):Option (OutG AV) :=
 match gst all o L os with
 | some (true,q,os')=>(zaf E o (evF E.G L) id h os').map fun r=>⟨andO q r.o,r.ts,r.h,r.os⟩
 | some (false,q,os')=>some ⟨q,zcN,h,os'⟩
 | none=>none
def zdn (E:Env) (all:List Oper) (o:Oper) (L:Nat->AV) (os:List Orc):Option (List Nat) :=
 match gst all o L os with
 | some (true,_,_)=>za4 E o (evF E.G L)
 | some (false,_,_)=>some []
 | none=>none
def dep (ops:Array Oper) (i:Nat):Nat->Nat->Bool
 | 0,_=>false
 | f+1,j=>match ops[j]? with
  | some o=>o.after.toList.any fun e=>Region.binds .any e&&(Nat.beq e.on i || dep ops i f e.on)
  | none=>false
def memN (b:Nat):List Nat->Bool
 | []=>false
 | x::r=>match Nat.beq x b with
  | true=>true
  | false=>memN b r
def osAt (l:List (Nat × List Orc)) (i:Nat):List Orc:=match l with
 | []=>[]
 | (k,x)::r=>match Nat.beq k i with
  | true=>x
  | false=>osAt r i
def zd7 (all:List Oper) (done:List Nat):List Nat:=(List.range all.length).filter fun i=>!memN i done&&match all[i]? with
 | some o=>o.after.toList.all fun e=>!Region.binds .any e || memN e.on done
 | none=>false
def zdZ (o:Oper):Option (Nat × IntKind × Int):=match o.op,o.guard,o.dst with
 | .insert _ (.tmp m) (.const (.int k n)) _,none,none=>some (m,k,n)
 | _,_,_=>none
def zjS (all:List Oper) (done:List Nat) (i:Nat) (o:Oper):Bool:=match zdZ o with
 | none=>false
 | some (m,k,n)=>(List.range all.length).all fun j=>Nat.beq j i || memN j done || dep all.toArray i all.length j || match all[j]? with
  | some oj=>match zdZ oj with
   | some (m',k',n')=>Nat.beq m m'&&decide (k'=k)&&!decide (n=n')
   | none=>false
  | none=>true
def first (E:Env) (all:List Oper) (osl:List (Nat × List Orc)) (done:List Nat) (ts:TS) (h:Heap) (i:Nat):Bool :=
 match all[i]? with
 | none=>false
 | some o=>match zdn E all o (look ts) (osAt osl i) with
  | none=>zjS all done i o
  | some B=>B.all (fun b=>(zaK h b).isSome)&&(List.range all.length).all fun j=>Nat.beq j i || memN j done || (match all[j]? with
   | some oj=>o.apart all.toArray oj&&zcV oj (osAt osl j) B
   | none=>true) || dep all.toArray i all.length j
def zlR (E:Env) (all:List Oper) (osl:List (Nat × List Orc)) (done:List Nat) (ts:TS) (h:Heap) (r:Nat):List Nat->Option Nat
 | []=>none
 | s::rs=>(r::s::rs).find? (first E all osl done ts h)
def zfj (q:Option Prop) (l:List Prop × TS × Heap):List Prop × TS × Heap:=match q with
 | none=>l
 | some p=>(p::l.1,l.2)
def goD (E:Env) (all:List Oper) (osl:List (Nat × List Orc)) (n:Nat) (lv:List Nat->TS->Heap->Option (List (List Prop × TS × Heap))) (done:List Nat) (ts:TS) (h:Heap) (i:Nat):Option (List (List Prop × TS × Heap)) :=
 match all[i]? with
 | none=>none
 | some o=>match zao n o.dst,za3 E all o (look ts) h (osAt osl i) with
  | true,some out=>(lv (i::done) (put ts o.dst out.ts) out.h).map fun l=>l.map (zfj out.o)
  | _,_=>none
def allD (go:Nat->Option (List (List Prop × TS × Heap))):List Nat->Option (List (List Prop × TS × Heap))
 | []=>some []
 | i::r=>match go i,allD go r with
  | some a,some b=>some (a++b)
  | _,_=>none
def zbz (E:Env) (all:List Oper) (osl:List (Nat × List Orc)) (n:Nat):Nat->List Nat->TS->Heap->Option (List (List Prop × TS × Heap))
 | 0,done,ts,h=>match zd7 all done with
  | []=>some [([],ts,h)]
  | _=>none
 | f+1,done,ts,h=>match zd7 all done with
  | []=>some [([],ts,h)]
  | r::rs=>match zlR E all osl done ts h r rs with
   | some i=>goD E all osl n (zbz E all osl n f) done ts h i
   | none=>allD (goD E all osl n (zbz E all osl n f) done ts h) (r::rs)
def insK (k:Nat) (v:AV):TS->TS
 | []=>[(k,v)]
 | (j,x)::r=>match Nat.beq k j with
  | true=>(k,v)::r
  | false=>match Nat.blt k j with
   | true=>(k,v)::(j,x)::r
   | false=>(j,x)::insK k v r
def zhk:TS->TS
 | []=>[]
 | (k,v)::r=>insK k v (zhk r)
def zlW (ts:TS) (h:Heap):List (List Prop × TS × Heap)->Prop
 | []=>True
 | l::r=>(allP l.1/\zhk l.2.1=zhk ts/\l.2.2=h)/\zlW ts h r
def zlN (q:List Prop) (ts:TS) (h:Heap):List (List Prop × TS × Heap)->Prop
 | []=>allP q
 | l::r=>allP q/\zlW ts h (l::r)
def step (E:Env) (c:Cfg) (os:List Orc):Option (Option Prop × Cfg × List Orc) :=
 match c.todo with
 | []=>none
 | .blk _::k=>some (none,{ c with todo:=k },os)
 | .lp _::_=>none
 | .ops _ []::k=>some (none,{ c with todo:=k },os)
 | .ops all (o::r)::k=>match zao c.n o.dst,zlZ E all o c.ts c.h os with
  | true,some x=>some (x.o,⟨c.n,.ops all r::k,x.ts,x.h⟩,x.os)
  | _,_=>none
 | .code q::k=>match q with
  | .skip=>some (none,{ c with todo:=k },os)
  | .label _=>some (none,{ c with todo:=k },os)
  | .scope a=>some (none,{ c with todo:=.code a::k },os)
  | .loop a=>some (none,{ c with todo:=.lp a::k },os)
  | .seq a b=>some (none,{ c with todo:=.code a::.code b::k },os)
  | .block id a=>some (none,{ c with todo:=.code a::.blk id::k },os)
  | .region _ ops false=>some (none,{ c with todo:=.ops ops.toList ops.toList::k },os)
  | .region _ ops true=>match os with
   | .draw l::os=>match zbz E ops.toList l c.n ops.toList.length [] c.ts c.h,Nat.beq ops.toList.length ops.size with
    | some ((q,ts,h)::more),true=>some (some (zlN q ts h more),⟨c.n,k,ts,h⟩,os)
    | _,_=>none
   | _=>none
  | .exit id=>match zdo id k with
   | some k'=>some (none,{ c with todo:=k' },os)
   | none=>none
  | .cond x a b=>match ev E.G c.ts x with
   | .bl true=>some (none,{ c with todo:=.code a::k },os)
   | .bl false=>some (none,{ c with todo:=.code b::k },os)
   | .v (.bool t)=>match os with
    | .b true::os=>some (some (t=true),⟨c.n,.code a::k,zjh c.ts true x,c.h⟩,os)
    | .b false::os=>some (some (t=false),⟨c.n,.code b::k,zjh c.ts false x,c.h⟩,os)
    | _=>none
   | _=>none
  | _=>none
def run (E:Env):Nat->Cfg->List Orc->List Prop × Cfg × List Orc
 | 0,c,os=>([],c,os)
 | n+1,c,os=>match step E c os with
  | none=>([],c,os)
  | some (none,c',os')=>run E n c' os'
  | some (some q,c',os')=>match run E n c' os' with
   | (q',r)=>(q::q',r)
def zet:Code->List It->List (List It)
 | .seq a b,k=>zet a (.code b::k)++zet b k
 | .cond _ a b,k=>zet a k++zet b k
 | .block id a,k=>zet a (.blk id::k)
 | .scope a,k=>zet a k
 | .loop c,k=>(.lp c::k)::zet c (.lp c::k)
 | _,_=>[]
def za2 (m b:Nat):Option Nat:=match Nat.blt b m with
 | true=>some b
 | false=>none
def mask (live:List Nat) (m:Nat) (ts:TS):TS:=live.map fun t=>(t,ren (za2 m) (look ts t))
def cut (live:List Nat) (m:Nat) (c:Cfg):Cfg:=⟨c.n,c.todo,mask live m c.ts,(c.h.take m).map (zay (za2 m))⟩
def zbt:Nat->List AV->TS
 | _,[]=>[]
 | i,x::r=>(i,x)::zbt (i+1) r
def zhM (E:Env0) (ts:TS) (h:Heap):ResultVar->Option AV
 | .tmp t=>some (look ts t)
 | .cell a t=>match look ts a with
  | .p b off=>match h[b]? with
   | some (.box cs)=>match mkv (E.T t) ((cs.drop off).take (E.T t).size),Nat.ble (off+(E.T t).size) cs.length with
    | some r,true=>some r
    | _,_=>none
   | _=>none
  | _=>none
def zd8 (E:Env0) (ts:TS) (h:Heap):List ResultVar->Option (List AV)
 | []=>some []
 | x::r=>match zhM E ts h x,zd8 E ts h r with
  | some a,some b=>some (a::b)
  | _,_=>none
def retV (E:Env0) (ts:TS) (h:Heap) (l:List ResultVar):Option AV:=match zd8 E ts h l with
 | some [x]=>some x
 | some xs=>some (.tup xs)
 | none=>none
def Shut (m:Nat) (R:AV->Heap->Prop) (r:AV) (h:Heap):Prop :=
 frzO h r/\R (frz h r) (((share h (frzM r)).take m).map (zay (za2 m)))
end Go.AM
namespace Go.AM
open Go.RowKit
inductive RelD (w:World) (S:Addr->Prop):AV->Value->Prop
 | un (x:Value):RelD w S .un x
 | v (x:Value):x.oneCell'=true->RelD w S (.v x) x
 | bl (b:Bool):RelD w S (.bl b) (.bool b)
 | agg (cs:List AV) (vs:List Value):cs.length=vs.length->(∀ y∈vs,y.oneCell'=true)->(∀ (i:Nat) (x:AV) (y:Value),cs[i]?=some x->vs[i]?=some y->RelD w S x y)->RelD w S (.agg cs) (.agg vs.toArray)
 | tup (cs:List AV) (vs:List Value):cs.length=vs.length->(∀ (i:Nat) (x:AV) (y:Value),cs[i]?=some x->vs[i]?=some y->RelD w S x y)->RelD w S (.tup cs) (.tuple vs.toArray)
 | sl (xs:List (List AV)) (a:Option Addr) (cap g o size:Nat) (f:Nat->Value) :
   (xs≠[]->a=some ⟨g,o,none⟩)->xs.length<=cap->cap<=maxLen ->
   (∀ (i:Nat) (c:List AV),xs[i]?=some c->c.length=size) ->
   (∀ (i j:Nat) (c:List AV) (x:AV),xs[i]?=some c->c[j]?=some x->S ⟨g,o+(i * size+j),none⟩/\w.cell? ⟨g,o+(i * size+j),none⟩=some (f (i * size+j))/\(f (i * size+j)).oneCell'=true) ->
   (∀ (i j:Nat) (c:List AV) (x:AV),xs[i]?=some c->c[j]?=some x->RelD w S x (f (i * size+j))) ->
   RelD w S (.sl xs) (.slice a xs.length cap)
 | dp (cs:List AV) (g o:Nat) (f:Nat->Value) :
   (∀ (j:Nat) (x:AV),cs[j]?=some x->S ⟨g,o+j,none⟩/\w.cell? ⟨g,o+j,none⟩=some (f j)/\(f j).oneCell'=true) ->
   (∀ (j:Nat) (x:AV),cs[j]?=some x->RelD w S x (f j)) ->
   RelD w S (.dp cs) (.pointer (some ⟨g,o,none⟩))
theorem RelD.mono {w w':World} {S S':Addr->Prop} (hS:∀ a,S a->S' a) (hc:∀ a,S a->w'.cell? a=w.cell? a) {x:AV} {y:Value} (h:RelD w S x y):RelD w' S' x y:=by
 induction h with
 | un x=>exact .un x
 | v x ho=>exact .v x ho
 | bl b=>exact .bl b
 | agg cs vs hl ho _ ih=>exact .agg cs vs hl ho ih
 | tup cs vs hl _ ih=>exact .tup cs vs hl ih
 | sl xs a cap g o size f h1 h2 h3 h4 h5 _ ih =>
  exact .sl xs a cap g o size f h1 h2 h3 h4 (fun i j c x hi hj=>by
   obtain ⟨a1,a2,a3⟩:=h5 i j c x hi hj
   exact ⟨hS _ a1,(hc _ a1).trans a2,a3⟩) ih
 | dp cs g o f h1 _ ih =>
  exact .dp cs g o f (fun j x hj=>by
   obtain ⟨a1,a2,a3⟩:=h1 j x hj
   exact ⟨hS _ a1,(hc _ a1).trans a2,a3⟩) ih
inductive Con where
 | box (g:Nat)
 | nil (a:Option Addr)
 | row (g cap:Nat)
 | mp (g:Nat)
def Con.blk:Con->Option Nat
 | .box g=>some g
 | .nil _=>none
 | .row g _=>some g
 | .mp g=>some g
def Con.cur (n:Nat):Con->Option Value
 | .box _=>none
 | .nil a=>some (.slice a 0 0)
 | .row g cap=>some (.slice (some ⟨g,0,none⟩) n cap)
 | .mp _=>none
def OsAt (size lo hi:Nat) (k:Con) (y:Value):Prop:=match k with
 | .box _=>False
 | .nil _=>hi=lo/\∃ a,y=.slice a 0 0
 | .row g cap=>∃ a,y=.slice a (hi - lo) (cap - lo)/\(lo < cap->a=some ⟨g,lo * size,none⟩)
 | .mp _=>False
inductive RelV (T:TypeId->TI) (h:Heap) (β:List Con) (w:World) (S:Addr->Prop):AV->Value->Prop
 | d (x:AV) (y:Value):RelD w S x y->RelV T h β w S x y
 | agg (cs:List AV) (vs:List Value):cs.length=vs.length->(∀ y∈vs,y.oneCell'=true)->(∀ (i:Nat) (x:AV) (y:Value),cs[i]?=some x->vs[i]?=some y->RelV T h β w S x y)->RelV T h β w S (.agg cs) (.agg vs.toArray)
 | tup (cs:List AV) (vs:List Value):cs.length=vs.length->(∀ (i:Nat) (x:AV) (y:Value),cs[i]?=some x->vs[i]?=some y->RelV T h β w S x y)->RelV T h β w S (.tup cs) (.tuple vs.toArray)
 | nl (a:Option Addr):RelV T h β w S .nl (.slice a 0 0)
 | p (b off g:Nat):β[b]?=some (.box g)->RelV T h β w S (.p b off) (.pointer (some ⟨g,off,none⟩))
 | own (b n:Nat) (y:Value) (e:TypeId) (xs:List (List AV)) (sh:Bool):h[b]?=some (.row e xs sh)->n<=xs.length->(n=xs.length->(β[b]?).bind (Con.cur n)=some y)->y.oneCell'=true->RelV T h β w S (.own b n) y
 | ep (b n i off g:Nat) (e:TypeId) (xs:List (List AV)) (sh:Bool):h[b]?=some (.row e xs sh)->n<=xs.length->(n=xs.length->∃ cap,β[b]?=some (.row g cap))->RelV T h β w S (.ep b n i off) (.pointer (some ⟨g,i * (T e).size+off,none⟩))
 | os (b n lo hi:Nat) (y:Value) (e:TypeId) (xs:List (List AV)) (sh:Bool):h[b]?=some (.row e xs sh)->n<=xs.length->lo<=hi->hi<=n->y.oneCell'=true->(n=xs.length->∃ k,β[b]?=some k/\OsAt (T e).size lo hi k y)->RelV T h β w S (.os b n lo hi) y
 | fn (f:FuncId) (caps:List AV) (vs:List Value):caps.length=vs.length->(∀ (i:Nat) (x:AV) (y:Value),caps[i]?=some x->vs[i]?=some y->RelV T h β w S x y)->RelV T h β w S (.fn f caps) (.func (.func f) #[] vs.toArray)
 | mp (b g:Nat):β[b]?=some (.mp g)->RelV T h β w S (.mp b) (.map (some g))
def zbC (T:TypeId->TI) (w:World) (S:Addr->Prop) (e:TypeId) (xs:List (List AV)):Con->Prop
 | .box _=>False
 | .nil _=>xs=[]
 | .mp _=>False
 | .row g cap=>∃ cs:Array Value,w.heap[g]?=some (.cells cs e (0,0))/\xs.length<=cap/\0 < cap/\cap<=maxLen/\cs.size=cap * (T e).size /\
   (∀ (i:Nat) (c:List AV),xs[i]?=some c->c.length=(T e).size) /\
   (∀ (i j:Nat) (c:List AV) (x:AV),xs[i]?=some c->c[j]?=some x->∃ y,cs[i * (T e).size+j]?=some y/\RelD w S x y/\y.oneCell'=true)
def zdk (w:World) (S:Addr->Prop) (es:List (AV × AV)) (g:Nat):Prop:=∃ (l:List (AV × AV)) (ents:Array MapEntry),l.Perm es/\w.heap[g]?=some (.map ents l.length)/\ents.size=l.length /\
 ∀ (i:Nat) (k x:AV),l[i]?=some (k,x)->∃ (kv xv:Value),ents[i]?=some ⟨kv,xv,i⟩/\RelD w S k kv/\RelD w S x xv
structure Rel (E:Env0) (h:Heap) (β:List Con) (S:Addr->Prop) (w:World):Prop where
 len:β.length=h.length
 box:∀ (b:Nat) (cs:List AV),h[b]?=some (.box cs)->∃ (g:Nat) (vs:List Value) (t:TypeId),β[b]?=some (.box g)/\w.heap[g]?=some (.cells vs.toArray t (0,0))/\cs.length=vs.length /\
  ∀ (i:Nat) (x:AV) (y:Value),cs[i]?=some x->vs[i]?=some y->RelV E.T h β w S x y/\y.oneCell'=true
 row:∀ (b:Nat) (e:TypeId) (xs:List (List AV)) (sh:Bool),h[b]?=some (.row e xs sh)->∃ k,β[b]?=some k/\zbC E.T w S e xs k
 mp:∀ (b:Nat) (es:List (AV × AV)),h[b]?=some (.mp es)->∃ g,β[b]?=some (.mp g)/\zdk w S es g
 apart:∀ (b b':Nat) (k k':Con) (g:Nat),β[b]?=some k->β[b']?=some k'->k.blk=some g->k'.blk=some g->b=b'
 lt:∀ (b:Nat) (k:Con) (g:Nat),β[b]?=some k->k.blk=some g->g < w.heap.size
 stable:∀ a,S a->a.block < w.heap.size
 free:∀ (b:Nat) (k:Con) (g:Nat) (a:Addr),β[b]?=some k->k.blk=some g->S a->a.block=g->∃ e xs,h[b]?=some (.row e xs true)/\a.off < xs.length * (E.T e).size
 glob:∀ g cs,E.G g=some cs->RelD w S (.dp cs) (.pointer (some ⟨g,0,none⟩))
structure BelowD (B:Nat) (w w':World):Prop extends Below B w w' where
 drawn:w.drawn<=w'.drawn
theorem BelowD.refl (B:Nat) (w:World):BelowD B w w:=⟨Below.refl B w,Nat.le_refl _⟩
theorem BelowD.alloc {B:Nat} {a w:World} (h:BelowD B a w) (hB:B<=w.heap.size) (o:Obj):BelowD B a (w.alloc o):=⟨h.toBelow.alloc hB o,h.drawn⟩
theorem BelowD.drew {B:Nat} {a w:World} (h:BelowD B a w):BelowD B a w.drew:=⟨h.toBelow.drew,Nat.le_succ_of_le h.drawn⟩
structure Ext (h:Heap) (β:List Con) (S:Addr->Prop) (w:World) (h':Heap) (β':List Con) (S':Addr->Prop) (w':World):Prop where
 box:∀ (b:Nat) (cs:List AV),h[b]?=some (.box cs)->∃ cs',h'[b]?=some (.box cs')
 con:∀ (b g:Nat),β[b]?=some (.box g)->β'[b]?=some (.box g)
 row:∀ (b:Nat) (e:TypeId) (xs:List (List AV)) (sh:Bool),h[b]?=some (.row e xs sh)->∃ xs' sh',h'[b]?=some (.row e xs' sh')/\xs.length<=xs'.length/\(xs'.length=xs.length->β'[b]?=β[b]?)
 mp:∀ (b:Nat) (es:List (AV × AV)),h[b]?=some (.mp es)->∃ es',h'[b]?=some (.mp es'):=by
  intro b es hb;first|exact ⟨es,hb⟩|exact ⟨es,by rw [List.getElem?_append_left (List.getElem?_eq_some_iff.1 hb).1];exact hb⟩
 conm:∀ (b g:Nat),β[b]?=some (.mp g)->β'[b]?=some (.mp g):=by
  intro b g hb;first|exact hb|(rw [List.getElem?_append_left (List.getElem?_eq_some_iff.1 hb).1];exact hb)
 S_le:∀ a,S a->S' a
 S_cell:∀ a,S a->w'.cell? a=w.cell? a
 S_new:∀ a,S' a->S a\/w.heap.size<=a.block\/∃ (b:Nat) (k:Con),β[b]?=some k/\k.blk=some a.block
 os:w'.os=w.os
 tape:w'.tape=w.tape
 drawn:w.drawn<=w'.drawn
 output:w'.output=w.output
 size:w.heap.size<=w'.heap.size
 keep:∀ g,g < w.heap.size->(∀ (b:Nat) (k:Con),β[b]?=some k->k.blk≠some g)->w'.heap[g]?=w.heap[g]?
 new:∀ (b:Nat) (k:Con) (g:Nat),β'[b]?=some k->k.blk=some g->(∃ (b':Nat) (k':Con),β[b']?=some k'/\k'.blk=some g/\b'=b)\/w.heap.size<=g
theorem Ext.refl (h:Heap) (β:List Con) (S:Addr->Prop) (w:World):Ext h β S w h β S w where
 box:=fun _ cs hb=>⟨cs,hb⟩
 con:=fun _ _ h=>h
 row:=fun _ _ xs sh hb=>⟨xs,sh,hb,Nat.le_refl _,fun _=>rfl⟩
 S_le:=fun _ h=>h
 S_cell:=fun _ _=>rfl
 S_new:=fun _ h=>.inl h
 os:=rfl
 tape:=rfl
 drawn:=Nat.le_refl _
 output:=rfl
 size:=Nat.le_refl _
 keep:=fun _ _ _=>rfl
 new:=fun b k _ hb hk=>.inl ⟨b,k,hb,hk,rfl⟩
theorem Ext.trans {h h1 h2:Heap} {β β1 β2:List Con} {S S1 S2:Addr->Prop} {w w1 w2:World} (x:Ext h β S w h1 β1 S1 w1) (y:Ext h1 β1 S1 w1 h2 β2 S2 w2):Ext h β S w h2 β2 S2 w2 where
 box:=fun b cs hb=>by obtain ⟨cs1,h1⟩:=x.box b cs hb;exact y.box b cs1 h1
 con:=fun b g hb=>y.con b g (x.con b g hb)
 mp:=fun b es hb=>by obtain ⟨e1,h1⟩:=x.mp b es hb;exact y.mp b e1 h1
 conm:=fun b g hb=>y.conm b g (x.conm b g hb)
 row:=fun b e xs sh hb=>by
  obtain ⟨xs1,sh1,a1,a2,a3⟩:=x.row b e xs sh hb
  obtain ⟨xs2,sh2,b1,b2,b3⟩:=y.row b e xs1 sh1 a1
  exact ⟨xs2,sh2,b1,Nat.le_trans a2 b2,fun he=>(b3 (by omega)).trans (a3 (by omega))⟩
 S_le:=fun a ha=>y.S_le a (x.S_le a ha)
 S_cell:=fun a ha=>(y.S_cell a (x.S_le a ha)).trans (x.S_cell a ha)
 S_new:=fun a ha=>by
  rcases y.S_new a ha with h1|h1|⟨b,k,h1,h2⟩
  ·exact x.S_new a h1
  ·exact .inr (.inl (Nat.le_trans x.size h1))
  ·rcases x.new b k _ h1 h2 with ⟨b',k',c1,c2,_⟩|c
   ·exact .inr (.inr ⟨b',k',c1,c2⟩)
   ·exact .inr (.inl c)
 os:=y.os.trans x.os
 tape:=y.tape.trans x.tape
 drawn:=Nat.le_trans x.drawn y.drawn
 output:=y.output.trans x.output
 size:=Nat.le_trans x.size y.size
 keep:=fun g hg hne=>by
  rw [← x.keep g hg hne]
  refine y.keep g (Nat.lt_of_lt_of_le hg x.size) fun b k hb hk=>?_
  rcases x.new b k g hb hk with ⟨b',k',c1,c2,_⟩|c
  ·exact hne b' k' c1 c2
  ·omega
 new:=fun b k g hb hk=>by
  rcases y.new b k g hb hk with ⟨b',k',c1,c2,rfl⟩|c
  ·exact x.new b' k' g c1 c2
  ·exact .inr (Nat.le_trans x.size c)
theorem RelV.ext {T:TypeId->TI} {h h':Heap} {β β':List Con} {S S':Addr->Prop} {w w':World} (hx:Ext h β S w h' β' S' w') {x:AV} {y:Value} (hr:RelV T h β w S x y):RelV T h' β' w' S' x y:=by
 induction hr with
 | d x y hd=>exact .d x y (hd.mono hx.S_le hx.S_cell)
 | agg cs vs hl ho _ ih=>exact .agg cs vs hl ho ih
 | tup cs vs hl _ ih=>exact .tup cs vs hl ih
 | nl a=>exact .nl a
 | p b off g hb=>exact .p b off g (hx.con b g hb)
 | own b n y e xs sh hb hn hy ho =>
  obtain ⟨xs',sh',a1,a2,a3⟩:=hx.row b e xs sh hb
  exact .own b n y e xs' sh' a1 (by omega) (fun he=>by rw [a3 (by omega)];exact hy (by omega)) ho
 | ep b n i off g e xs sh hb hn hy =>
  obtain ⟨xs',sh',a1,a2,a3⟩:=hx.row b e xs sh hb
  exact .ep b n i off g e xs' sh' a1 (by omega) (fun he=>by rw [a3 (by omega)];exact hy (by omega))
 | os b n lo hi y e xs sh hb hn hl hh ho hy =>
  obtain ⟨xs',sh',a1,a2,a3⟩:=hx.row b e xs sh hb
  exact .os b n lo hi y e xs' sh' a1 (by omega) hl hh ho (fun he=>by rw [a3 (by omega)];exact hy (by omega))
 | fn f caps vs hl _ ih=>exact .fn f caps vs hl ih
 | mp b g hb=>exact .mp b g (hx.conm b g hb)
def zam (T:TypeId->TI) (h:Heap) (β:List Con) (w:World) (S:Addr->Prop) (ts:TS) (tmps:Array Value):Prop:=∀ t,RelV T h β w S (look ts t) (tmps.getD t undef)
theorem zbC.ext {T:TypeId->TI} {w w':World} {S S':Addr->Prop} {e:TypeId} {xs:List (List AV)} {k:Con} (hS:∀ a,S a->S' a) (hc:∀ a,S a->w'.cell? a=w.cell? a)
  (hg:∀ g,k.blk=some g->w'.heap[g]?=w.heap[g]?) (h:zbC T w S e xs k):zbC T w' S' e xs k:=by
 cases k with
 | box g=>exact h
 | nil a=>exact h
 | mp g=>exact h
 | row g cap =>
  obtain ⟨cs,h1,h2,h3,h4,h5,h6,h7⟩:=h
  exact ⟨cs,(hg g rfl).trans h1,h2,h3,h4,h5,h6,fun i j c x hi hj=>by
   obtain ⟨y,a1,a2,a3⟩:=h7 i j c x hi hj
   exact ⟨y,a1,a2.mono hS hc,a3⟩⟩
theorem zdk.ext {w w':World} {S S':Addr->Prop} {es:List (AV × AV)} {g:Nat} (hS:∀ a,S a->S' a) (hc:∀ a,S a->w'.cell? a=w.cell? a) (hg:w'.heap[g]?=w.heap[g]?) (h:zdk w S es g):zdk w' S' es g:=by
 obtain ⟨l,ents,h1,h2,h3,h4⟩:=h
 exact ⟨l,ents,h1,hg.trans h2,h3,fun i k x hi=>by
  obtain ⟨kv,xv,a1,a2,a3⟩:=h4 i k x hi
  exact ⟨kv,xv,a1,a2.mono hS hc,a3.mono hS hc⟩⟩
theorem Rel.con_of {E:Env0} {h:Heap} {β:List Con} {S:Addr->Prop} {w:World} (r:Rel E h β S w) {b:Nat} {k:Con} (hb:β[b]?=some k):∃ x,h[b]?=some x:=by
 have hl:b < β.length:=(List.getElem?_eq_some_iff.1 hb).1
 exact ⟨_,List.getElem?_eq_getElem (by rw [← r.len];exact hl)⟩
theorem Rel.own_os {E:Env0} {h:Heap} {β:List Con} {S:Addr->Prop} {w:World} (r:Rel E h β S w) {b n:Nat} {y:Value} (hr:RelV E.T h β w S (.own b n) y):RelV E.T h β w S (.os b n 0 n) y:=by
 cases hr with
 | d _ _ hd=>cases hd
 | own _ _ _ e xs sh hb hn hy ho =>
  refine .os b n 0 n y e xs sh hb hn (Nat.zero_le _) (Nat.le_refl _) ho fun he=>?_
  have:=hy he
  obtain ⟨k,hk,hrow⟩:=r.row b e xs sh hb
  rw [hk] at this
  refine ⟨k,hk,?_⟩
  cases k with
  | box _=>cases this
  | mp _=>cases this
  | nil a =>
   have hx:xs=[]:=hrow
   simp only [Option.bind_some,Con.cur,Option.some.injEq] at this
   exact ⟨by rw [he,hx];rfl,a,this.symm⟩
  | row g cap =>
   simp only [Option.bind_some,Con.cur,Option.some.injEq] at this
   exact ⟨some ⟨g,0,none⟩,by rw [← this];rfl,fun _=>by simp⟩
theorem getElem?_append_new {α:Type} (l:List α) (x:α):(l++[x])[l.length]?=some x:=by simp
theorem getElem?_append_old {α:Type} (l:List α) (x:α) {b:Nat} (h:b≠l.length):(l++[x])[b]?=l[b]?:=by
 by_cases hb:b < l.length
 ·rw [List.getElem?_append_left hb]
 ·rw [List.getElem?_eq_none (by simp;omega),List.getElem?_eq_none (by omega)]
theorem Rel.upd {E:Env0} {h h':Heap} {β β':List Con} {S S':Addr->Prop} {w w':World} (r:Rel E h β S w) (x:Ext h β S w h' β' S' w') (b0:Nat) (hlen:β'.length=h'.length)
  (hold:∀ b,b≠b0->h'[b]?=h[b]?/\β'[b]?=β[b]?/\∀ k g,β[b]?=some k->k.blk=some g->w'.heap[g]?=w.heap[g]?)
  (hbox:∀ cs,h'[b0]?=some (.box cs)->∃ (g:Nat) (vs:List Value) (t:TypeId),β'[b0]?=some (.box g)/\w'.heap[g]?=some (.cells vs.toArray t (0,0))/\cs.length=vs.length /\
   ∀ (i:Nat) (x:AV) (y:Value),cs[i]?=some x->vs[i]?=some y->RelV E.T h' β' w' S' x y/\y.oneCell'=true)
  (hrow:∀ e xs sh,h'[b0]?=some (.row e xs sh)->∃ k,β'[b0]?=some k/\zbC E.T w' S' e xs k)
  (hlt:∀ k g,β'[b0]?=some k->k.blk=some g->g < w'.heap.size/\∀ b k',b≠b0->β[b]?=some k'->k'.blk≠some g)
  (hst:∀ a,S' a->a.block < w'.heap.size)
  (hS:∀ a,S' a->S a\/∀ b k,b≠b0->β[b]?=some k->k.blk≠some a.block)
  (hfree:∀ k g a,β'[b0]?=some k->k.blk=some g->S' a->a.block=g->∃ e xs,h'[b0]?=some (.row e xs true)/\a.off < xs.length * (E.T e).size)
  (hmp:∀ es,h'[b0]?=some (.mp es)->∃ g,β'[b0]?=some (.mp g)/\zdk w' S' es g:=by (intro es hc;first|(rw [getElem?_append_new] at hc;cases hc)|(simp at hc;done)|simp_all)):Rel E h' β' S' w' where
 len:=hlen
 box:=fun b cs hb=>by
  by_cases e:b=b0
  ·subst e;exact hbox cs hb
  ·obtain ⟨a1,a2,a3⟩:=hold b e
   rw [a1] at hb
   obtain ⟨g,vs,t,c1,c2,c3,c4⟩:=r.box b cs hb
   exact ⟨g,vs,t,a2.trans c1,(a3 _ g c1 rfl).trans c2,c3,fun i u v hu hv=>⟨(c4 i u v hu hv).1.ext x,(c4 i u v hu hv).2⟩⟩
 row:=fun b e xs sh hb=>by
  by_cases e0:b=b0
  ·subst e0;exact hrow e xs sh hb
  ·obtain ⟨a1,a2,a3⟩:=hold b e0
   rw [a1] at hb
   obtain ⟨k,c1,c2⟩:=r.row b e xs sh hb
   exact ⟨k,a2.trans c1,c2.ext x.S_le x.S_cell fun g hg=>a3 k g c1 hg⟩
 mp:=fun b es hb=>by
  by_cases e0:b=b0
  ·subst e0;exact hmp es hb
  ·obtain ⟨a1,a2,a3⟩:=hold b e0
   rw [a1] at hb
   obtain ⟨g,c1,c2⟩:=r.mp b es hb
   exact ⟨g,a2.trans c1,c2.ext x.S_le x.S_cell (a3 _ g c1 rfl)⟩
 apart:=fun b b' k k' g hb hb' hk hk'=>by
  by_cases e:b=b0 <;> by_cases e':b'=b0
  ·rw [e,e']
  ·subst e
   rw [(hold b' e').2.1] at hb'
   exact absurd hk' ((hlt k g hb hk).2 b' k' e' hb')
  ·subst e'
   rw [(hold b e).2.1] at hb
   exact absurd hk ((hlt k' g hb' hk').2 b k e hb)
  ·rw [(hold b e).2.1] at hb
   rw [(hold b' e').2.1] at hb'
   exact r.apart b b' k k' g hb hb' hk hk'
 lt:=fun b k g hb hk=>by
  by_cases e:b=b0
  ·subst e;exact (hlt k g hb hk).1
  ·rw [(hold b e).2.1] at hb
   exact Nat.lt_of_lt_of_le (r.lt b k g hb hk) x.size
 stable:=hst
 free:=fun b k g a hb hk ha hg=>by
  by_cases e:b=b0
  ·subst e;exact hfree k g a hb hk ha hg
  ·rw [(hold b e).2.1] at hb
   rcases hS a ha with h1|h1
   ·obtain ⟨e',xs,c1,c2⟩:=r.free b k g a hb hk h1 hg
    exact ⟨e',xs,(hold b e).1.trans c1,c2⟩
   ·exact absurd (hg ▸ hk) (h1 b k e hb)
 glob:=fun g cs hg=>(r.glob g cs hg).mono x.S_le x.S_cell
theorem Ext.grow {E:Env0} {h:Heap} {β:List Con} {S S':Addr->Prop} {w w':World} (r:Rel E h β S w) (hb:BelowD w.heap.size w w') (hS:∀ a,S a->S' a)
  (hn:∀ a,S' a->S a\/w.heap.size<=a.block):Ext h β S w h β S' w' where
 box:=fun _ cs hb=>⟨cs,hb⟩
 con:=fun _ _ h=>h
 row:=fun _ _ xs sh hb=>⟨xs,sh,hb,Nat.le_refl _,fun _=>rfl⟩
 S_le:=hS
 S_cell:=fun a ha=>hb.cell (r.stable a ha)
 S_new:=fun a ha=>(hn a ha).imp id .inl
 os:=hb.os
 tape:=hb.tape
 drawn:=hb.drawn
 output:=hb.output
 size:=hb.size
 keep:=fun g hg _=>hb.block g hg
 new:=fun b k _ hb hk=>.inl ⟨b,k,hb,hk,rfl⟩
theorem Rel.grow {E:Env0} {h:Heap} {β:List Con} {S S':Addr->Prop} {w w':World} (r:Rel E h β S w) (hb:BelowD w.heap.size w w') (hS:∀ a,S a->S' a)
  (hn:∀ a,S' a->S a\/(w.heap.size<=a.block/\a.block < w'.heap.size)):Rel E h β S' w':=by
 have x:Ext h β S w h β S' w':=Ext.grow r hb hS fun a ha=>(hn a ha).imp id And.left
 refine r.upd x h.length r.len (fun b _=>⟨rfl,rfl,fun k g hk hg=>hb.block g (r.lt b k g hk hg)⟩) (by simp) (by simp) ?_ ?_ ?_ ?_
 ·intro k g hk _
  have:=(List.getElem?_eq_some_iff.1 hk).1
  rw [r.len] at this
  omega
 ·intro a ha
  rcases hn a ha with h1|⟨_,h1⟩
  ·exact Nat.lt_of_lt_of_le (r.stable a h1) hb.size
  ·exact h1
 ·intro a ha
  rcases hn a ha with h1|⟨h1,_⟩
  ·exact .inl h1
  ·refine .inr fun b k _ hk hg=>?_
   have:=r.lt b k _ hk hg
   omega
 ·intro k g a hk
  have:=(List.getElem?_eq_some_iff.1 hk).1
  rw [r.len] at this
  omega
theorem Rel.newBox {E:Env0} {h:Heap} {β:List Con} {S:Addr->Prop} {w:World} (r:Rel E h β S w) (cs:List AV) (vs:List Value) (t:TypeId) (hl:cs.length=vs.length)
  (hv:∀ (i:Nat) (x:AV) (y:Value),cs[i]?=some x->vs[i]?=some y->RelV E.T h β w S x y/\y.oneCell'=true) :
  Ext h β S w (h++[.box cs]) (β++[.box w.heap.size]) S (w.alloc (.cells vs.toArray t))/\Rel E (h++[.box cs]) (β++[.box w.heap.size]) S (w.alloc (.cells vs.toArray t)):=by
 have hbl:BelowD w.heap.size w (w.alloc (.cells vs.toArray t)):=(BelowD.refl _ _).alloc (Nat.le_refl _) _
 have x:Ext h β S w (h++[.box cs]) (β++[.box w.heap.size]) S (w.alloc (.cells vs.toArray t)):={
  box:=fun b cs' hb=>⟨cs',by rw [List.getElem?_append_left (List.getElem?_eq_some_iff.1 hb).1];exact hb⟩
  con:=fun b g hb=>by rw [List.getElem?_append_left (List.getElem?_eq_some_iff.1 hb).1];exact hb
  row:=fun b e xs sh hb=>by
   have hlt:=(List.getElem?_eq_some_iff.1 hb).1
   exact ⟨xs,sh,by rw [List.getElem?_append_left hlt];exact hb,Nat.le_refl _,fun _=>by rw [List.getElem?_append_left (by rw [r.len];exact hlt)]⟩
  S_le:=fun _ h=>h
  S_cell:=fun a ha=>hbl.cell (r.stable a ha)
  S_new:=fun _ h=>.inl h
  os:=hbl.os
  tape:=hbl.tape
  drawn:=hbl.drawn
  output:=hbl.output
  size:=hbl.size
  keep:=fun g hg _=>hbl.block g hg
  new:=fun b k g hb hk=>by
   by_cases e:b=β.length
   ·subst e
    rw [getElem?_append_new] at hb
    cases hb
    cases hk
    exact .inr (Nat.le_refl _)
   ·rw [getElem?_append_old _ _ e] at hb
    exact .inl ⟨b,k,hb,hk,rfl⟩ }
 refine ⟨x,r.upd x h.length (by simp [r.len]) ?_ ?_ ?_ ?_ ?_ ?_ ?_⟩
 ·intro b hb
  exact ⟨getElem?_append_old _ _ hb,getElem?_append_old _ _ (by rw [r.len];exact hb),fun k g hk hg=>hbl.block g (r.lt b k g hk hg)⟩
 ·intro cs' hc
  rw [getElem?_append_new] at hc
  cases hc
  refine ⟨w.heap.size,vs,t,by rw [← r.len,getElem?_append_new],heap_alloc_new w _,hl,fun i u y hu hy=>⟨(hv i u y hu hy).1.ext x,(hv i u y hu hy).2⟩⟩
 ·intro e xs sh hc
  rw [getElem?_append_new] at hc
  cases hc
 ·intro k g hk hg
  rw [← r.len,getElem?_append_new] at hk
  cases hk
  cases hg
  refine ⟨by simp,fun b k' _ hk' he=>?_⟩
  have:=r.lt b k' _ hk' he
  omega
 ·intro a ha
  exact Nat.lt_of_lt_of_le (r.stable a ha) hbl.size
 ·exact fun a ha=>.inl ha
 ·intro k g a hk hg ha he
  rw [← r.len,getElem?_append_new] at hk
  cases hk
  cases hg
  have:=r.stable a ha
  omega
structure Turn (h:Heap) (β:List Con) (S:Addr->Prop) (w:World) (b0:Nat) (B':Blk) (k k':Con) (S':Addr->Prop) (w':World):Prop where
 kb:β[b0]?=some k
 box:∀ cs,h[b0]?=some (.box cs)->(∃ cs',B'=.box cs')/\k'=k
 row:∀ e xs sh,h[b0]?=some (.row e xs sh)->∃ xs' sh',B'=.row e xs' sh'/\xs.length<=xs'.length/\(xs'.length=xs.length->k'=k)
 mp:∀ es,h[b0]?=some (.mp es)->(∃ es',B'=.mp es')/\k'=k:=by (intro es hc;simp_all)
 S_le:∀ a,S a->S' a
 S_cell:∀ a,S a->w'.cell? a=w.cell? a
 S_new:∀ a,S' a->S a\/w.heap.size<=a.block\/k.blk=some a.block
 S_lt:∀ a,S' a->a.block < w'.heap.size
 os:w'.os=w.os
 tape:w'.tape=w.tape
 drawn:w.drawn<=w'.drawn
 output:w'.output=w.output
 size:w.heap.size<=w'.heap.size
 keep:∀ g,g < w.heap.size->k.blk≠some g->w'.heap[g]?=w.heap[g]?
 own:∀ g,k'.blk=some g->(k.blk=some g\/w.heap.size<=g)/\g < w'.heap.size
theorem zaB {α:Type} {l:List α} {b:Nat} {x y:α} (h:l[b]?=some y):(l.set b x)[b]?=some x:=by
 rw [List.getElem?_set_self (List.getElem?_eq_some_iff.1 h).1]
theorem zaE {α:Type} {l:List α} {b c:Nat} {x:α} (h:c≠b):(l.set b x)[c]?=l[c]?:=by
 rw [List.getElem?_set_ne (Ne.symm h)]
theorem Rel.turnExt {E:Env0} {h:Heap} {β:List Con} {S S':Addr->Prop} {w w':World} {b0:Nat} {B B':Blk} {k k':Con} (r:Rel E h β S w) (hB:h[b0]?=some B)
  (t:Turn h β S w b0 B' k k' S' w'):Ext h β S w (h.set b0 B') (β.set b0 k') S' w' where
 box:=fun b cs hb=>by
  by_cases e:b=b0
  ·subst e
   obtain ⟨⟨cs',h1⟩,_⟩:=t.box cs hb
   exact ⟨cs',by rw [zaB hb,h1]⟩
  ·exact ⟨cs,by rw [zaE e];exact hb⟩
 con:=fun b g hb=>by
  by_cases e:b=b0
  ·subst e
   have hk:k=.box g:=by have:=t.kb;rw [hb] at this;cases this;rfl
   obtain ⟨x,hx⟩:=r.con_of hb
   cases x with
   | box cs=>rw [zaB hb,(t.box cs hx).2,hk]
   | row e xs sh =>
    obtain ⟨k1,c1,c2⟩:=r.row b e xs sh hx
    rw [hb] at c1
    cases c1
    exact c2.elim
   | mp es =>
    obtain ⟨g1,c1,_⟩:=r.mp b es hx
    rw [hb] at c1
    cases c1
  ·rw [zaE e];exact hb
 mp:=fun b es hb=>by
  by_cases e:b=b0
  ·subst e
   obtain ⟨⟨es',h1⟩,_⟩:=t.mp es hb
   exact ⟨es',by rw [zaB hb,h1]⟩
  ·exact ⟨es,by rw [zaE e];exact hb⟩
 conm:=fun b g hb=>by
  by_cases e:b=b0
  ·subst e
   have hk:k=.mp g:=by have:=t.kb;rw [hb] at this;cases this;rfl
   obtain ⟨x,hx⟩:=r.con_of hb
   cases x with
   | mp es=>rw [zaB hb,(t.mp es hx).2,hk]
   | box cs =>
    obtain ⟨g1,vs,ty,c1,_⟩:=r.box b cs hx
    rw [hb] at c1
    cases c1
   | row e xs sh =>
    obtain ⟨k1,c1,c2⟩:=r.row b e xs sh hx
    rw [hb] at c1
    cases c1
    exact c2.elim
  ·rw [zaE e];exact hb
 row:=fun b e xs sh hb=>by
  by_cases e0:b=b0
  ·subst e0
   obtain ⟨xs',sh',h1,h2,h3⟩:=t.row e xs sh hb
   exact ⟨xs',sh',by rw [zaB hb,h1],h2,fun he=>by rw [zaB t.kb,t.kb,h3 he]⟩
  ·exact ⟨xs,sh,by rw [zaE e0];exact hb,Nat.le_refl _,fun _=>by rw [zaE e0]⟩
 S_le:=t.S_le
 S_cell:=t.S_cell
 S_new:=fun a ha=>by
  rcases t.S_new a ha with h1|h1|h1
  ·exact .inl h1
  ·exact .inr (.inl h1)
  ·exact .inr (.inr ⟨b0,k,t.kb,h1⟩)
 os:=t.os
 tape:=t.tape
 drawn:=t.drawn
 output:=t.output
 size:=t.size
 keep:=fun g hg hne=>t.keep g hg (hne b0 k t.kb)
 new:=fun b k1 g hb hk=>by
  by_cases e:b=b0
  ·subst e
   rw [zaB t.kb] at hb
   cases hb
   rcases (t.own g hk).1 with h1|h1
   ·exact .inl ⟨b,k,t.kb,h1,rfl⟩
   ·exact .inr h1
  ·rw [zaE e] at hb
   exact .inl ⟨b,k1,hb,hk,rfl⟩
theorem Rel.turn {E:Env0} {h:Heap} {β:List Con} {S S':Addr->Prop} {w w':World} {b0:Nat} {B B':Blk} {k k':Con} (r:Rel E h β S w) (hB:h[b0]?=some B)
  (t:Turn h β S w b0 B' k k' S' w')
  (hbox:∀ cs,B'=.box cs->∃ (g:Nat) (vs:List Value) (t:TypeId),k'=.box g/\w'.heap[g]?=some (.cells vs.toArray t (0,0))/\cs.length=vs.length /\
   ∀ (i:Nat) (x:AV) (y:Value),cs[i]?=some x->vs[i]?=some y->RelV E.T (h.set b0 B') (β.set b0 k') w' S' x y/\y.oneCell'=true)
  (hrow:∀ e xs sh,B'=.row e xs sh->zbC E.T w' S' e xs k')
  (hfree:∀ g a,k'.blk=some g->S' a->a.block=g->∃ e xs,B'=.row e xs true/\a.off < xs.length * (E.T e).size)
  (hmp:∀ es,B'=.mp es->∃ g,k'=.mp g/\zdk w' S' es g:=by (intro es he;first|(cases he;done)|simp_all)) :
  Rel E (h.set b0 B') (β.set b0 k') S' w':=by
 have x:=r.turnExt hB t
 have hk:(β.set b0 k')[b0]?=some k':=zaB t.kb
 have hh:(h.set b0 B')[b0]?=some B':=zaB hB
 refine r.upd x b0 (by simp [r.len]) ?_ ?_ ?_ ?_ t.S_lt ?_ ?_ (fun es hc=>by
  rw [hh] at hc
  cases hc
  obtain ⟨g,c1,c2⟩:=hmp es rfl
  exact ⟨g,by rw [hk,c1],c2⟩)
 ·intro b e
  refine ⟨zaE e,zaE e,fun k1 g h1 h2=>t.keep g (r.lt b k1 g h1 h2) fun h3=>e (r.apart b b0 k1 k g h1 t.kb h2 h3)⟩
 ·intro cs hc
  rw [hh] at hc
  cases hc
  obtain ⟨g,vs,t',c1,c2,c3,c4⟩:=hbox cs rfl
  exact ⟨g,vs,t',by rw [hk,c1],c2,c3,c4⟩
 ·intro e xs sh hc
  rw [hh] at hc
  cases hc
  exact ⟨k',hk,hrow e xs sh rfl⟩
 ·intro k1 g h1 h2
  rw [hk] at h1
  cases h1
  refine ⟨(t.own g h2).2,fun b k2 e h3 h4=>?_⟩
  rcases (t.own g h2).1 with h5|h5
  ·exact e (r.apart b b0 k2 k g h3 t.kb h4 h5)
  ·have:=r.lt b k2 g h3 h4
   omega
 ·intro a ha
  rcases t.S_new a ha with h1|h1|h1
  ·exact .inl h1
  ·refine .inr fun b k1 _ h2 h3=>?_
   have:=r.lt b k1 _ h2 h3
   omega
  ·exact .inr fun b k1 e h2 h3=>e (r.apart b b0 k1 k _ h2 t.kb h3 h1)
 ·intro k1 g a h1 h2 h3 h4
  rw [hk] at h1
  cases h1
  obtain ⟨e,xs,c1,c2⟩:=hfree g a h2 h3 h4
  exact ⟨e,xs,by rw [hh,c1],c2⟩
theorem Rel.newRow {E:Env0} {h:Heap} {β:List Con} {S:Addr->Prop} {w w':World} (r:Rel E h β S w) (e:TypeId) (xs:List (List AV)) (sh:Bool) (k:Con) (hb:BelowD w.heap.size w w')
  (hk:∀ g,k.blk=some g->w.heap.size<=g/\g < w'.heap.size) (hrow:zbC E.T w' S e xs k) :
  Ext h β S w (h++[.row e xs sh]) (β++[k]) S w'/\Rel E (h++[.row e xs sh]) (β++[k]) S w':=by
 have x:Ext h β S w (h++[.row e xs sh]) (β++[k]) S w':={
  box:=fun b cs' hb=>⟨cs',by rw [List.getElem?_append_left (List.getElem?_eq_some_iff.1 hb).1];exact hb⟩
  con:=fun b g hb=>by rw [List.getElem?_append_left (List.getElem?_eq_some_iff.1 hb).1];exact hb
  row:=fun b e xs sh hb=>by
   have hlt:=(List.getElem?_eq_some_iff.1 hb).1
   exact ⟨xs,sh,by rw [List.getElem?_append_left hlt];exact hb,Nat.le_refl _,fun _=>by rw [List.getElem?_append_left (by rw [r.len];exact hlt)]⟩
  S_le:=fun _ h=>h
  S_cell:=fun a ha=>hb.cell (r.stable a ha)
  S_new:=fun _ h=>.inl h
  os:=hb.os
  tape:=hb.tape
  drawn:=hb.drawn
  output:=hb.output
  size:=hb.size
  keep:=fun g hg _=>hb.block g hg
  new:=fun b k1 g hb1 hk1=>by
   by_cases e:b=β.length
   ·subst e
    rw [getElem?_append_new] at hb1
    cases hb1
    exact .inr (hk g hk1).1
   ·rw [getElem?_append_old _ _ e] at hb1
    exact .inl ⟨b,k1,hb1,hk1,rfl⟩ }
 refine ⟨x,r.upd x h.length (by simp [r.len]) ?_ ?_ ?_ ?_ ?_ ?_ ?_⟩
 ·intro b hb1
  exact ⟨getElem?_append_old _ _ hb1,getElem?_append_old _ _ (by rw [r.len];exact hb1),fun k g hk hg=>hb.block g (r.lt b k g hk hg)⟩
 ·intro cs' hc
  rw [getElem?_append_new] at hc
  cases hc
 ·intro e xs sh hc
  rw [getElem?_append_new] at hc
  cases hc
  exact ⟨k,by rw [← r.len,getElem?_append_new],hrow⟩
 ·intro k1 g hk1 hg
  rw [← r.len,getElem?_append_new] at hk1
  cases hk1
  refine ⟨(hk g hg).2,fun b k' _ hk' he=>?_⟩
  have:=r.lt b k' _ hk' he
  have:=(hk g hg).1
  omega
 ·intro a ha
  exact Nat.lt_of_lt_of_le (r.stable a ha) hb.size
 ·exact fun a ha=>.inl ha
 ·intro k1 g a hk1 hg ha he
  rw [← r.len,getElem?_append_new] at hk1
  cases hk1
  have:=r.stable a ha
  have:=(hk g hg).1
  omega
theorem Rel.share {E:Env0} {h:Heap} {β:List Con} {S:Addr->Prop} {w:World} (r:Rel E h β S w) {b:Nat} {e:TypeId} {xs:List (List AV)} {sh:Bool} (hb:h[b]?=some (.row e xs sh)) :
  ∃ S',Ext h β S w (h.set b (.row e xs true)) β S' w/\Rel E (h.set b (.row e xs true)) β S' w /\
   ∀ k,β[b]?=some k->∀ y,k.cur xs.length=some y->RelD w S' (.sl xs) y:=by
 obtain ⟨k,hk,hr⟩:=r.row b e xs sh hb
 have hset:β.set b k=β:=by
  apply List.ext_getElem?
  intro i
  by_cases hi:i=b
  ·subst hi;rw [zaB hk,hk]
  ·rw [zaE hi]
 let S':Addr->Prop:=fun a=>S a\/(∃ g cap,k=.row g cap/\a.block=g/\a.off < xs.length * (E.T e).size)
 have t:Turn h β S w b (.row e xs true) k k S' w:={
  kb:=hk
  box:=fun cs hc=>by rw [hb] at hc;cases hc
  row:=fun e1 xs1 sh1 h1=>by rw [hb] at h1;cases h1;exact ⟨xs,true,rfl,Nat.le_refl _,fun _=>rfl⟩
  S_le:=fun a ha=>.inl ha
  S_cell:=fun _ _=>rfl
  S_new:=fun a ha=>by
   rcases ha with h1|⟨g,cap,h1,h2,_⟩
   ·exact .inl h1
   ·exact .inr (.inr (by rw [h1,h2];rfl))
  S_lt:=fun a ha=>by
   rcases ha with h1|⟨g,cap,h1,h2,_⟩
   ·exact r.stable a h1
   ·rw [h2];exact r.lt b k g hk (by rw [h1];rfl)
  os:=rfl
  tape:=rfl
  drawn:=Nat.le_refl _
  output:=rfl
  size:=Nat.le_refl _
  keep:=fun _ _ _=>rfl
  own:=fun g hg=>⟨.inl hg,r.lt b k g hk hg⟩ }
 have x:=r.turnExt hb t
 rw [hset] at x
 have hrel:Rel E (h.set b (.row e xs true)) β S' w:=by
  have:=r.turn hb t (fun cs hc=>by cases hc) (fun e1 xs1 sh1 h1=>by
   cases h1
   exact hr.ext (fun a ha=>.inl ha) (fun _ _=>rfl) (fun _ _=>rfl)) (fun g a hg ha hag=>by
    rcases ha with h1|⟨g',cap,h1,h2,h3⟩
    ·obtain ⟨e',xs',c1,c2⟩:=r.free b k g a hk hg h1 hag
     rw [hb] at c1
     cases c1
     exact ⟨e,xs,rfl,c2⟩
    ·exact ⟨e,xs,rfl,h3⟩)
  rwa [hset] at this
 refine ⟨S',x,hrel,fun k1 hk1 y hy=>?_⟩
 rw [hk] at hk1
 cases hk1
 cases k with
 | box g=>exact hr.elim
 | mp g=>exact hr.elim
 | nil a =>
  have hx:xs=[]:=hr
  subst hx
  cases hy
  exact .sl [] a 0 0 0 0 (fun _=>undef) (fun hn=>absurd rfl hn) (Nat.le_refl _) (Nat.zero_le _) (by simp) (by simp) (by simp)
 | row g cap =>
  obtain ⟨cs,h1,h2,h3,h4,h5,h6,h7⟩:=hr
  cases hy
  have hcell:∀ i j c x,xs[i]?=some c->c[j]?=some x->i * (E.T e).size+j < xs.length * (E.T e).size/\w.cell? ⟨g,0+(i * (E.T e).size+j),none⟩=cs[i * (E.T e).size+j]?:=by
   intro i j c x hi hj
   have hil:=(List.getElem?_eq_some_iff.1 hi).1
   have hjl:=(List.getElem?_eq_some_iff.1 hj).1
   rw [h6 i c hi] at hjl
   refine ⟨?_,by simp [World.cell?,h1]⟩
   calc i * (E.T e).size+j < i * (E.T e).size+(E.T e).size:=by omega
    _=(i+1) * (E.T e).size:=by rw [Nat.add_mul,Nat.one_mul]
    _<=xs.length * (E.T e).size:=Nat.mul_le_mul_right _ (by omega)
  refine .sl xs _ cap g 0 (E.T e).size (fun i=>(cs[i]?).getD undef) (fun _=>rfl) h2 h4 h6 ?_ ?_
  ·intro i j c x hi hj
   obtain ⟨a1,a2⟩:=hcell i j c x hi hj
   obtain ⟨y,b1,b2,b3⟩:=h7 i j c x hi hj
   exact ⟨.inr ⟨g,cap,rfl,rfl,by simpa using a1⟩,by rw [a2,b1];rfl,by rw [b1];exact b3⟩
  ·intro i j c x hi hj
   obtain ⟨y,b1,b2,b3⟩:=h7 i j c x hi hj
   rw [b1]
   exact b2.mono (fun a ha=>.inl ha) (fun _ _=>rfl)
end Go.AM
namespace Go.AM
open Go.RowKit
def zaJ (h:Heap) (b:Nat):Option (List (List AV)):=match h[b]? with
 | some (.row _ xs _)=>some xs
 | _=>none
theorem zhN {h:Heap} {b:Nat} {xs:List (List AV)} (hr:zaJ h b=some xs):∃ e sh,h[b]?=some (.row e xs sh):=by
 unfold zaJ at hr
 split at hr
 ·rename_i e ys sh he;cases hr;exact ⟨e,sh,he⟩
 ·cases hr
theorem zia (h:Heap) (b n:Nat):frz h (.own b n)=match zaJ h b with
 | some xs=>.sl xs
 | none=>.un:=by
 simp only [frz,zaJ]
 split <;> simp_all
theorem zjL (h:Heap) (b n lo hi:Nat):frz h (.os b n lo hi)=match zaJ h b with
 | some xs=>.sl ((xs.take hi).drop lo)
 | none=>.un:=by
 simp only [frz,zaJ]
 split <;> simp_all
theorem zgB (h:Heap) (b n lo hi:Nat):frzO h (.os b n lo hi)=match zaJ h b with
 | some xs=>n=xs.length
 | none=>True:=by
 simp only [frzO,zaJ]
 split <;> simp_all
theorem zfm (h:Heap) (b n:Nat):frzO h (.own b n)=match zaJ h b with
 | some xs=>n=xs.length
 | none=>True:=by
 simp only [frzO,zaJ]
 split <;> simp_all
mutual
theorem zmZ {h h':Heap} (hs:∀ b,zaJ h' b=zaJ h b):∀ x,frz h' x=frz h x
 | .un|.v _|.bl _|.sl _|.dp _|.nl|.p _ _|.ep _ _ _ _|.fn _ _|.mp _=>by simp [frz]
 | .agg cs=>by simp only [frz];rw [zev hs cs]
 | .tup cs=>by simp only [frz];rw [zev hs cs]
 | .own b n=>by rw [zia,zia,hs]
 | .os b n _ _=>by rw [zjL,zjL,hs]
theorem zev {h h':Heap} (hs:∀ b,zaJ h' b=zaJ h b):∀ l,frzL h' l=frzL h l
 | []=>by simp [frzL]
 | x::r=>by simp only [frzL];rw [zmZ hs x,zev hs r]
end
mutual
theorem zmj {h h':Heap} (hs:∀ b,zaJ h' b=zaJ h b):∀ x,frzO h' x=frzO h x
 | .un|.v _|.bl _|.sl _|.dp _|.nl|.p _ _|.ep _ _ _ _|.fn _ _|.mp _=>by simp [frzO]
 | .agg cs=>by simp only [frzO];rw [zdI hs cs]
 | .tup cs=>by simp only [frzO];rw [zdI hs cs]
 | .own b n=>by rw [zfm,zfm,hs]
 | .os b n _ _=>by rw [zgB,zgB,hs]
theorem zdI {h h':Heap} (hs:∀ b,zaJ h' b=zaJ h b):∀ l,zbd h' l=zbd h l
 | []=>by simp [zbd]
 | x::r=>by simp only [zbd];rw [zmj hs x,zdI hs r]
end
theorem zj8 (h:Heap) (c b:Nat):zaJ (zeb h c) b=zaJ h b:=by
 unfold zeb
 split
 ·rename_i e xs sh hc
  by_cases e0:b=c
  ·subst e0
   simp only [zaJ,zaB hc,hc]
  ·simp only [zaJ,zaE e0]
 ·rfl
theorem zkH (l:List Nat):∀ (h:Heap) (b:Nat),zaJ (share h l) b=zaJ h b:=by
 induction l with
 | nil=>intro h b;rfl
 | cons c l ih=>intro h b;simp only [share,List.foldl_cons] at ih ⊢;rw [ih,zj8]
theorem zgr (h:Heap) (l m:List Nat):share h (l++m)=share (share h l) m:=by simp [share,List.foldl_append]
def FrzOK (E:Env0) (h h':Heap) (β:List Con) (S:Addr->Prop) (w:World) (S':Addr->Prop):Prop :=
 Ext h β S w h' β S' w/\Rel E h' β S' w
theorem zaY {T:TypeId->TI} {h:Heap} {β:List Con} {w:World} {S:Addr->Prop} {x:AV} {y:Value} (hr:RelV T h β w S x y)
  (hx:match x with|.un|.v _|.bl _|.sl _|.dp _=>True|_=>False):RelD w S x y:=by
 cases hr with
 | d _ _ hd=>exact hd
 | agg=>exact hx.elim
 | tup=>exact hx.elim
 | nl=>exact hx.elim
 | p=>exact hx.elim
 | own=>exact hx.elim
 | ep=>exact hx.elim
 | os=>exact hx.elim
 | fn=>exact hx.elim
 | mp=>exact hx.elim
theorem RelV.agg_inv {T:TypeId->TI} {h:Heap} {β:List Con} {w:World} {S:Addr->Prop} {cs:List AV} {y:Value} (hr:RelV T h β w S (.agg cs) y) :
  ∃ vs:List Value,y=.agg vs.toArray/\cs.length=vs.length/\(∀ y∈vs,y.oneCell'=true)/\∀ (i:Nat) (x:AV) (y:Value),cs[i]?=some x->vs[i]?=some y->RelV T h β w S x y:=by
 cases hr with
 | d _ _ hd=>cases hd with|agg _ vs hl ho hv=>exact ⟨vs,rfl,hl,ho,fun i x y h1 h2=>.d _ _ (hv i x y h1 h2)⟩
 | agg _ vs hl ho hv=>exact ⟨vs,rfl,hl,ho,hv⟩
theorem RelV.tup_inv {T:TypeId->TI} {h:Heap} {β:List Con} {w:World} {S:Addr->Prop} {cs:List AV} {y:Value} (hr:RelV T h β w S (.tup cs) y) :
  ∃ vs:List Value,y=.tuple vs.toArray/\cs.length=vs.length/\∀ (i:Nat) (x:AV) (y:Value),cs[i]?=some x->vs[i]?=some y->RelV T h β w S x y:=by
 cases hr with
 | d _ _ hd=>cases hd with|tup _ vs hl hv=>exact ⟨vs,rfl,hl,fun i x y h1 h2=>.d _ _ (hv i x y h1 h2)⟩
 | tup _ vs hl hv=>exact ⟨vs,rfl,hl,hv⟩
theorem zby (h:Heap):∀ l,(frzL h l).length=l.length
 | []=>by simp [frzL]
 | x::r=>by simp [frzL,zby h r]
theorem RelD.part {w:World} {S:Addr->Prop} {xs:List (List AV)} {g n cap lo hi sz:Nat} {a:Option Addr} (hd:RelD w S (.sl xs) (.slice (some ⟨g,0,none⟩) n cap)) (hc:∀ c∈xs,c.length=sz) (hl:lo<=hi) (hh:hi<=xs.length)
  (ha:lo < cap->a=some ⟨g,lo * sz,none⟩):RelD w S (.sl ((xs.take hi).drop lo)) (.slice a (hi - lo) (cap - lo)):=by
 cases hd with
 | sl _ _ _ gg off size f f1 f2 f3 f4 f5 f6 =>
  have hlen:((xs.take hi).drop lo).length=hi - lo:=by simp;omega
  have hget:∀ (i:Nat) (c:List AV),((xs.take hi).drop lo)[i]?=some c->xs[lo+i]?=some c:=by
   intro i c hc
   rw [List.getElem?_drop,List.getElem?_take] at hc
   split at hc
   ·exact hc
   ·cases hc
  have hne:((xs.take hi).drop lo)≠[]->lo < hi:=by
   intro hn
   rcases Nat.lt_or_ge lo hi with h1|h1
   ·exact h1
   ·exact absurd (List.eq_nil_of_length_eq_zero (by omega)) hn
  have hx0:lo < hi->xs≠[]:=fun h1 e=>by rw [e] at hh;simp at hh;omega
  have hsz:xs≠[]->size=sz:=by
   intro hn
   obtain ⟨c,cs,rfl⟩:=List.exists_cons_of_ne_nil hn
   rw [← f4 0 c rfl]
   exact hc c (by simp)
  have hgg:xs≠[]->gg=g/\off=0:=fun hn=>by
   have:=f1 hn
   cases this
   exact ⟨rfl,rfl⟩
  rw [← hlen]
  refine .sl _ _ _ g (lo * sz) sz (fun k=>f (lo * sz+k)) ?_ (by omega) (by omega) (fun i c hi'=>hc c (List.mem_of_getElem? (hget i c hi'))) (fun i j c x hi' hj=>?_) (fun i j c x hi' hj=>?_)
  ·intro hn
   have:=hne hn
   exact ha (by omega)
  ·have hn1:xs≠[]:=fun e=>by have:=hget i c hi';rw [e] at this;simp at this
   have:=f5 _ j c x (hget i c hi') hj
   obtain ⟨e1,e2⟩:=hgg hn1
   rw [hsz hn1,e1,e2] at this
   rw [show lo * sz+(i * sz+j)=(lo+i) * sz+j by rw [Nat.add_mul];omega]
   simpa using this
  ·have hn1:xs≠[]:=fun e=>by have:=hget i c hi';rw [e] at this;simp at this
   have:=f6 _ j c x (hget i c hi') hj
   rw [hsz hn1] at this
   rw [show lo * sz+(i * sz+j)=(lo+i) * sz+j by rw [Nat.add_mul];omega]
   exact this
mutual
theorem zjK (E:Env0):∀ (x:AV) (h:Heap) (β:List Con) (S:Addr->Prop) (w:World) (y:Value),Rel E h β S w->RelV E.T h β w S x y->frzO h x ->
  ∃ S',FrzOK E h (share h (frzM x)) β S w S'/\RelD w S' (frz h x) y
 | .un,h,β,S,w,y,r,_,_=>⟨S,⟨Ext.refl _ _ _ _,r⟩,by simp only [frz];exact .un y⟩
 | .v _,h,β,S,w,y,r,hv,_=>⟨S,⟨Ext.refl _ _ _ _,r⟩,by simp only [frz];exact zaY hv trivial⟩
 | .bl _,h,β,S,w,y,r,hv,_=>⟨S,⟨Ext.refl _ _ _ _,r⟩,by
   have hv':=zaY hv trivial
   cases hv'
   simp only [frz]
   exact .v _ rfl⟩
 | .sl _,h,β,S,w,y,r,hv,_=>⟨S,⟨Ext.refl _ _ _ _,r⟩,by simp only [frz];exact zaY hv trivial⟩
 | .dp _,h,β,S,w,y,r,hv,_=>⟨S,⟨Ext.refl _ _ _ _,r⟩,by simp only [frz];exact zaY hv trivial⟩
 | .p _ _,h,β,S,w,y,r,_,_=>⟨S,⟨Ext.refl _ _ _ _,r⟩,by simp only [frz];exact .un y⟩
 | .ep _ _ _ _,h,β,S,w,y,r,_,_=>⟨S,⟨Ext.refl _ _ _ _,r⟩,by simp only [frz];exact .un y⟩
 | .fn _ _,h,β,S,w,y,r,_,_=>⟨S,⟨Ext.refl _ _ _ _,r⟩,by simp only [frz];exact .un y⟩
 | .mp _,h,β,S,w,y,r,_,_=>⟨S,⟨Ext.refl _ _ _ _,r⟩,by simp only [frz];exact .un y⟩
 | .nl,h,β,S,w,y,r,hv,_=>⟨S,⟨Ext.refl _ _ _ _,r⟩,by
   simp only [frz]
   cases hv with
   | d _ _ hd=>cases hd
   | nl a=>exact .sl [] a 0 0 0 0 (fun _=>undef) (fun hn=>absurd rfl hn) (Nat.le_refl _) (Nat.zero_le _) (by simp) (by simp) (by simp)⟩
 | .own b n,h,β,S,w,y,r,hv,ho=>by
   cases hv with
   | d _ _ hd=>cases hd
   | own _ _ _ e xs sh hb hn hy _ =>
    have hro:zaJ h b=some xs:=by simp [zaJ,hb]
    rw [zfm,hro] at ho
    obtain ⟨S',x1,x2,x3⟩:=r.share hb
    have hsh:share h (frzM (.own b n))=h.set b (.row e xs true):=by simp [frzM,share,zeb,hb]
    refine ⟨S',⟨by rw [hsh];exact x1,by rw [hsh];exact x2⟩,?_⟩
    rw [zia,hro]
    have hcur:=hy ho
    cases hk:β[b]? with
    | none=>rw [hk] at hcur;cases hcur
    | some k=>rw [hk] at hcur;exact x3 k hk y (by rw [← ho];exact hcur)
 | .os b n lo hi,h,β,S,w,y,r,hv,ho=>by
   cases hv with
   | d _ _ hd=>cases hd
   | os _ _ _ _ _ e xs sh hb hn hl hh _ hy =>
    have hro:zaJ h b=some xs:=by simp [zaJ,hb]
    rw [zgB,hro] at ho
    obtain ⟨S',x1,x2,x3⟩:=r.share hb
    have hsh:share h (frzM (.os b n lo hi))=h.set b (.row e xs true):=by simp [frzM,share,zeb,hb]
    refine ⟨S',⟨by rw [hsh];exact x1,by rw [hsh];exact x2⟩,?_⟩
    rw [zjL,hro]
    obtain ⟨k,hk,hat⟩:=hy ho
    obtain ⟨k',hk',hrow⟩:=r.row b e xs sh hb
    rw [hk] at hk'
    cases hk'
    cases k with
    | box _=>exact hat.elim
    | mp _=>exact hat.elim
    | nil a =>
     obtain ⟨h1,a',rfl⟩:=hat
     have hx0:xs=[]:=hrow
     subst hx0
     simp only [List.take_nil,List.drop_nil]
     exact .sl [] a' 0 0 0 0 (fun _=>undef) (fun hn=>absurd rfl hn) (Nat.le_refl _) (Nat.zero_le _) (by simp) (by simp) (by simp)
    | row g cap =>
     obtain ⟨a,rfl,ha⟩:=hat
     have hfull:=x3 _ hk _ rfl
     obtain ⟨_,_,_,_,_,_,q6,_⟩:=hrow
     exact hfull.part (fun c hc=>by
      obtain ⟨i,hi⟩:=List.getElem?_of_mem hc
      exact q6 i c hi) hl (by omega) ha
 | .agg cs,h,β,S,w,y,r,hv,ho=>by
   obtain ⟨vs,rfl,hl,h1c,hv⟩:=hv.agg_inv
   simp only [frzO] at ho
   obtain ⟨S',h1,h2⟩:=zdQ E cs h β S w vs r hl hv ho
   refine ⟨S',h1,?_⟩
   simp only [frz]
   exact .agg _ _ (by rw [zby];exact hl) h1c h2
 | .tup cs,h,β,S,w,y,r,hv,ho=>by
   obtain ⟨vs,rfl,hl,hv⟩:=hv.tup_inv
   simp only [frzO] at ho
   obtain ⟨S',h1,h2⟩:=zdQ E cs h β S w vs r hl hv ho
   refine ⟨S',h1,?_⟩
   simp only [frz]
   exact .tup _ _ (by rw [zby];exact hl) h2
theorem zdQ (E:Env0):∀ (l:List AV) (h:Heap) (β:List Con) (S:Addr->Prop) (w:World) (vs:List Value),Rel E h β S w->l.length=vs.length ->
  (∀ (i:Nat) (x:AV) (y:Value),l[i]?=some x->vs[i]?=some y->RelV E.T h β w S x y)->zbd h l ->
  ∃ S',FrzOK E h (share h (zaL l)) β S w S'/\∀ (i:Nat) (x:AV) (y:Value),(frzL h l)[i]?=some x->vs[i]?=some y->RelD w S' x y
 | [],h,β,S,w,vs,r,_,_,_=>⟨S,⟨Ext.refl _ _ _ _,r⟩,by simp [frzL]⟩
 | x::l,h,β,S,w,[],r,hl,_,_=>by simp at hl
 | x::l,h,β,S,w,v::vs,r,hl,hv,ho=>by
   simp only [zbd] at ho
   obtain ⟨S1,⟨e1,r1⟩,d1⟩:=zjK E x h β S w v r (hv 0 x v rfl rfl) ho.1
   have hs:=zkH (frzM x) h
   obtain ⟨S2,⟨e2,r2⟩,d2⟩:=zdQ E l (share h (frzM x)) β S1 w vs r1 (by simpa using hl) (fun i a b h1 h2=>(hv (i+1) a b (by simpa using h1) (by simpa using h2)).ext e1)
    (by rw [zdI hs];exact ho.2)
   rw [zev hs] at d2
   refine ⟨S2,⟨?_,?_⟩,?_⟩
   ·simp only [zaL];rw [zgr];exact e1.trans e2
   ·simp only [zaL];rw [zgr];exact r2
   ·intro i a b h1 h2
    cases i with
    | zero =>
     simp only [frzL,List.getElem?_cons_zero,Option.some.injEq] at h1 h2
     subst h1;subst h2
     exact d1.mono e2.S_le e2.S_cell
    | succ i =>
     simp only [frzL,List.getElem?_cons_succ] at h1 h2
     exact d2 i a b h1 h2
end
mutual
theorem zcT {h:Heap}:∀ (x:AV),frzM x=[]->frzO h x
 | .agg cs,hx=>by simp only [frzM] at hx;simp only [frzO];exact zbU cs hx
 | .tup cs,hx=>by simp only [frzM] at hx;simp only [frzO];exact zbU cs hx
 | .own b n,hx=>by simp [frzM] at hx
 | .os b n _ _,hx=>by simp [frzM] at hx
 | .un,_|.v _,_|.bl _,_|.sl _,_|.dp _,_|.nl,_|.p _ _,_|.ep _ _ _ _,_|.fn _ _,_|.mp _,_=>by simp [frzO]
theorem zbU {h:Heap}:∀ (l:List AV),zaL l=[]->zbd h l
 | [],_=>by simp [zbd]
 | x::r,hx=>by
  simp only [zaL,List.append_eq_nil_iff] at hx
  simp only [zbd]
  exact ⟨zcT x hx.1,zbU r hx.2⟩
end
theorem zjJ {h:Heap} {y:AV} {q:Prop} (hq:frzQ (frzM y) (frzO h y) q):frzO h y/\q:=by
 unfold frzQ at hq
 split at hq
 ·rename_i hm;exact ⟨zcT y hm,hq⟩
 ·exact hq
theorem zkU {h:Heap} {l:List AV} {q:Prop} (hq:frzQ (zaL l) (zbd h l) q):zbd h l/\q:=by
 unfold frzQ at hq
 split at hq
 ·rename_i hm;exact ⟨zbU l hm,hq⟩
 ·exact hq
theorem znC {h:Heap} {l:List AV} (hq:zah (frzB h l)):zbd h l:=by
 unfold frzB at hq
 split at hq
 ·rename_i hm;exact zbU l hm
 ·exact hq
end Go.AM
namespace Go.AM
open Go.RowKit
theorem zaW (g off n:Nat):(⟨g,off,none⟩:Addr).add n=⟨g,off+n,none⟩:=by
 unfold Addr.add
 split
 ·rename_i h;subst h;rfl
 ·rfl
def zOk:AV->Value->Bool
 | .nl,.slice none 0 0=>true
 | .bl b,.bool c=>b==c
 | .v (.int k a),.int k' b=>decide (k=k'/\a=b)
 | .v (.string s),.string t=>decide (s=t)
 | .v (.pointer none),.pointer none=>true
 | .v .nilFunc,.nilFunc=>true
 | .v .nilIface,.nilIface=>true
 | .v (.map none),.map none=>true
 | _,_=>false
theorem znU {T:TypeId->TI} {h:Heap} {β:List Con} {w:World} {S:Addr->Prop} {x:AV} {y:Value} (hz:zOk x y=true):RelV T h β w S x y/\y.oneCell'=true:=by
 unfold zOk at hz
 split at hz
 ·exact ⟨.nl none,rfl⟩
 ·simp only [beq_iff_eq] at hz;subst hz;exact ⟨.d _ _ (.bl _),rfl⟩
 ·simp only [decide_eq_true_eq] at hz;obtain ⟨rfl,rfl⟩:=hz;exact ⟨.d _ _ (.v _ rfl),rfl⟩
 ·simp only [decide_eq_true_eq] at hz;subst hz;exact ⟨.d _ _ (.v _ rfl),rfl⟩
 ·exact ⟨.d _ _ (.v _ rfl),rfl⟩
 ·exact ⟨.d _ _ (.v _ rfl),rfl⟩
 ·exact ⟨.d _ _ (.v _ rfl),rfl⟩
 ·exact ⟨.d _ _ (.v _ rfl),rfl⟩
 ·cases hz
def zOkL:List AV->List Value->Bool
 | [],[]=>true
 | x::r,y::s=>zOk x y&&zOkL r s
 | _,_=>false
theorem zbS {T:TypeId->TI} {h:Heap} {β:List Con} {w:World} {S:Addr->Prop}:∀ (l:List AV) (m:List Value),zOkL l m=true ->
  l.length=m.length/\∀ (i:Nat) (x:AV) (y:Value),l[i]?=some x->m[i]?=some y->RelV T h β w S x y/\y.oneCell'=true
 | [],[],_=>⟨rfl,by simp⟩
 | x::r,y::s,hz=>by
  simp only [zOkL,Bool.and_eq_true] at hz
  obtain ⟨h1,h2⟩:=zbS (T:=T) (h:=h) (β:=β) (w:=w) (S:=S) r s hz.2
  refine ⟨by simp [h1],fun i a b ha hb=>?_⟩
  cases i with
  | zero=>simp only [List.getElem?_cons_zero,Option.some.injEq] at ha hb;subst ha;subst hb;exact znU hz.1
  | succ i=>simp only [List.getElem?_cons_succ] at ha hb;exact h2 i a b ha hb
 | [],_::_,hz=>by cases hz
 | _::_,[],hz=>by cases hz
def zcD (P:Program) (size:Nat):List Nat->List Field->Bool
 | [],[]=>true
 | o::os,f::fs=>decide (o=f.offset)&&decide ((P.info? f.type).map (·.size)=some (os.headD size - o))&&decide (os.headD size - o≠0)&&zcD P size os fs
 | _,_=>false
def zce (P:Program) (T:TypeId->TI) (t:TypeId) (d:TypeDesc):Bool :=
 match (T t).kind,d with
 | .struct offs,.struct fs=>zcD P (T t).size offs fs.toList
 | .array n e,.array n' e'=>decide (n=n')&&decide (e=e')&&decide ((T e).size≠0)&&decide ((T t).size=n * (T e).size)
 | .slice e,.slice e'=>decide (e=e')&&decide ((T e).size≠0)&&decide ((T t).size=1)
 | .int k,.int k'=>decide (k=k')&&decide ((T t).size=1)
 | .str,.string=>decide ((T t).size=1)
 | .bool,.bool=>decide ((T t).size=1)
 | .map a b,.map a' b'=>decide (a=a')&&decide (b=b')&&decide ((T t).size=1)
 | .scalar,.struct _|.scalar,.array _ _=>false
 | .scalar,_=>decide ((T t).size=1)
 | _,_=>false
def tiOk (P:Program) (T:TypeId->TI) (t:TypeId):Bool :=
 match P.info? t,P.underlying t with
 | some i,some d =>
  decide (i.size=(T t).size)&&decide (i.bytes=(T t).bytes)&&decide ((T t).size≠0)&&decide ((T t).zero.length=(T t).size) &&
  (match i.zero with|some z=>zOkL (T t).zero z.cells.toList|none=>false) &&
  zce P T t d&&(match i.zero with|some (.agg _)=>(T t).isAgg|_=>!(T t).isAgg)
 | _,_=>false
def zan (E:Env0):Prop:=∀ t,tiOk E.P E.T t=true\/E.T t=⟨.scalar,0,0,[]⟩
structure TOk (P:Program) (T:TypeId->TI) (t:TypeId) (i:TypeInfo) (d:TypeDesc) (z:Value):Prop where
 info:P.info? t=some i
 und:P.underlying t=some d
 size:i.size=(T t).size
 bytes:i.bytes=(T t).bytes
 ne:(T t).size≠0
 zero:i.zero=some z
 zlen:(T t).zero.length=(T t).size
 zok:zOkL (T t).zero z.cells.toList=true
 kind:zce P T t d=true
 zagg:(match i.zero with|some (.agg _)=>(T t).isAgg|_=>!(T t).isAgg)=true
theorem zan.at_ {E:Env0} (ht:zan E) {t:TypeId} (hs:E.T t≠⟨.scalar,0,0,[]⟩):∃ i d z,TOk E.P E.T t i d z:=by
 have h:=(ht t).resolve_right hs
 unfold tiOk at h
 cases hi:E.P.info? t with
 | none=>simp [hi] at h
 | some i =>
  cases hd:E.P.underlying t with
  | none=>simp [hi,hd] at h
  | some d =>
   simp only [hi,hd,Bool.and_eq_true,decide_eq_true_eq] at h
   obtain ⟨⟨⟨⟨⟨⟨h1,h2⟩,h3⟩,h4⟩,h5⟩,h6⟩,h7⟩:=h
   cases hz:i.zero with
   | none=>simp [hz] at h5
   | some z =>
    simp only [hz] at h5 h7
    exact ⟨i,d,z,hi,hd,h1,h2,h3,hz,h4,h5,h6,by rw [hz];exact h7⟩
theorem TOk.isAgg {P:Program} {T:TypeId->TI} {t:TypeId} {i:TypeInfo} {d:TypeDesc} {z:Value} (h:TOk P T t i d z) (w:World):(isAgg t).run P w=.ok (T t).isAgg w:=by
 have hk:=h.kind
 unfold zce at hk
 simp only [Go.isAgg,Sem.run_bind,run_underlying h.und,Result.andThen_ok,TI.isAgg]
 cases hK:(T t).kind <;> cases d <;> simp_all
theorem TOk.size1 {P:Program} {T:TypeId->TI} {t:TypeId} {i:TypeInfo} {d:TypeDesc} {z:Value} (h:TOk P T t i d z) (ha:(T t).isAgg=false):(T t).size=1:=by
 have hk:=h.kind
 unfold zce at hk
 unfold TI.isAgg at ha
 cases hK:(T t).kind <;> cases d <;> simp_all
theorem TOk.sizeOf {P:Program} {T:TypeId->TI} {t:TypeId} {i:TypeInfo} {d:TypeDesc} {z:Value} (h:TOk P T t i d z) (w:World):(Go.sizeOf t).run P w=.ok (T t).size w:=by
 simp [Go.sizeOf,typeInfo,h.info,h.size]
theorem TOk.zeroValue {P:Program} {T:TypeId->TI} {t:TypeId} {i:TypeInfo} {d:TypeDesc} {z:Value} (h:TOk P T t i d z) (w:World):(Go.zeroValue t).run P w=.ok z w:=by
 simp [Go.zeroValue,typeInfo,h.info,h.zero]
def zcX (t:TI) (vs:List Value):Value:=match t.isAgg with
 | true=>.agg vs.toArray
 | false=>vs.headD undef
theorem zhO {P:Program} {T:TypeId->TI} {t:TypeId} {i:TypeInfo} {d:TypeDesc} {z:Value} (h:TOk P T t i d z) (w:World) (g off:Nat) (vs:List Value) (hl:vs.length=(T t).size)
  (hc:∀ (j:Nat) (y:Value),vs[j]?=some y->w.cell? ⟨g,off+j,none⟩=some y):(Instr.loadAt t (.pointer (some ⟨g,off,none⟩))).run P w=.ok (zcX (T t) vs) w:=by
 simp only [Instr.loadAt,Instr.sureAddr,loadVar,Sem.run_bind,Sem.run_pure,Result.andThen_ok,h.isAgg,Sem.run_ite]
 unfold zcX
 cases ha:(T t).isAgg with
 | true =>
  have:=run_loadCells_list (P:=P) w ⟨g,off,none⟩ vs (fun j y hj=>by rw [zaW];exact hc j y hj)
  simp only [if_true,Sem.run_bind,h.sizeOf,Result.andThen_ok,← hl,this,Sem.run_pure]
 | false =>
  have h1:=h.size1 ha
  rw [h1] at hl
  match vs,hl with
  | [v],_ =>
   have:=hc 0 v rfl
   simp only [Nat.add_zero] at this
   simp [this]
def zaD (cs:List Value) (off:Nat) (vs:List Value):List Value:=cs.take off++vs++cs.drop (off+vs.length)
theorem za7 (cs:List Value) (off:Nat) (vs:List Value) (h:off+vs.length<=cs.length):(zaD cs off vs).length=cs.length:=by
 simp [zaD];omega
theorem za8 {cs:List Value} {off:Nat} {vs:List Value} (h:off+vs.length<=cs.length) (i:Nat) :
  (zaD cs off vs)[i]?=if i < off then cs[i]? else if i < off+vs.length then vs[i - off]? else cs[i]?:=by
 unfold zaD
 have ht:(cs.take off).length=off:=by simp;omega
 rw [List.append_assoc]
 by_cases h1:i < off
 ·rw [if_pos h1,List.getElem?_append_left (by omega),List.getElem?_take,if_pos h1]
 ·rw [if_neg h1,List.getElem?_append_right (by omega),ht]
  by_cases h2:i < off+vs.length
  ·rw [if_pos h2,List.getElem?_append_left (by omega)]
  ·rw [if_neg h2,List.getElem?_append_right (by omega),List.getElem?_drop]
   congr 1
   omega
theorem zgk (cs:List Value) (off:Nat) (v:Value) (vs:List Value) (h:off+(vs.length+1)<=cs.length):zaD cs off (v::vs)=zaD (cs.set off v) (off+1) vs:=by
 apply List.ext_getElem?
 intro i
 rw [za8 (by simpa using h),za8 (by simp;omega)]
 by_cases h1:i < off
 ·rw [if_pos h1,if_pos (by omega),List.getElem?_set_ne (by omega)]
 ·by_cases h2:i=off
  ·subst h2
   rw [if_neg h1,if_pos (by simp),if_pos (by omega),List.getElem?_set_self (by omega)]
   simp
  ·rw [if_neg h1,if_neg (show ¬ i < off+1 by omega)]
   by_cases h3:i < off+1+vs.length
   ·rw [if_pos (show i < off+(v::vs).length by simp;omega),if_pos h3,show i - off=(i - (off+1))+1 by omega,List.getElem?_cons_succ]
   ·rw [if_neg (show ¬ i < off+(v::vs).length by simp;omega),if_neg h3,List.getElem?_set_ne (by omega)]
theorem zkb {P:Program} {w:World} {g off:Nat} {cs:List Value} {t:TypeId} {v:Value} (hg:w.heap[g]?=some (.cells cs.toArray t (0,0))) (ho:off < cs.length) (hv:v.oneCell'=true) :
  (store ⟨g,off,none⟩ v).run P w=.ok () (w.setCell ⟨g,off,none⟩ v):=by
 rw [run_store P w _ v _ hv]
 have h1:w.cell? ⟨g,off,none⟩=some cs[off]:=by simp [World.cell?,hg,List.getElem?_eq_getElem ho]
 have h2:w.frozen? ⟨g,off,none⟩=false:=by simp [World.frozen?,hg]
 simp [h1,h2]
theorem zkg {w:World} {g off:Nat} {cs:List Value} {t:TypeId} {v:Value} (hg:w.heap[g]?=some (.cells cs.toArray t (0,0))) :
  (w.setCell ⟨g,off,none⟩ v).heap[g]?=some (.cells (cs.set off v).toArray t (0,0)):=by
 simp [World.setCell,Array.getElem?_modify,hg]
structure Stored (w w':World) (g:Nat) (cs':List Value) (t:TypeId):Prop where
 heap:w'.heap[g]?=some (.cells cs'.toArray t (0,0))
 keep:∀ k,k≠g->w'.heap[k]?=w.heap[k]?
 size:w'.heap.size=w.heap.size
 os:w'.os=w.os
 tape:w'.tape=w.tape
 drawn:w.drawn<=w'.drawn
 output:w'.output=w.output
theorem zbF {P:Program}:∀ (vs:List Value) (i:Nat) (w:World) (g off:Nat) (cs:List Value) (t:TypeId),w.heap[g]?=some (.cells cs.toArray t (0,0))->off+i+vs.length<=cs.length ->
  (∀ v∈vs,v.oneCell'=true)->∃ w',(storeCells ⟨g,off,none⟩ vs i).run P w=.ok () w'/\Stored w w' g (zaD cs (off+i) vs) t
 | [],i,w,g,off,cs,t,hg,_,_=>⟨w,by simp [storeCells],by simpa [zaD] using hg,fun _ _=>rfl,rfl,rfl,rfl,Nat.le_refl _,rfl⟩
 | v::vs,i,w,g,off,cs,t,hg,hl,hv=>by
  simp only [List.length_cons] at hl
  have h1:=zkb (P:=P) (off:=off+i) hg (by omega) (hv v (by simp))
  obtain ⟨w',h2,h3⟩:=zbF (P:=P) vs (i+1) (w.setCell ⟨g,off+i,none⟩ v) g off (cs.set (off+i) v) t (zkg hg) (by simp;omega) (fun u hu=>hv u (by simp [hu]))
  refine ⟨w',?_,?_,?_,?_,?_,?_,?_,?_⟩
  ·simp only [storeCells,Sem.run_bind,zaW,h1,Result.andThen_ok,h2]
  ·rw [zgk cs _ v vs (by omega)];exact h3.heap
  ·intro k hk
   rw [h3.keep k hk]
   exact Below.heap_setCell w ⟨g,off+i,none⟩ v k hk
  ·rw [h3.size];simp [World.setCell]
  ·rw [h3.os];rfl
  ·rw [h3.tape];rfl
  ·exact h3.drawn
  ·rw [h3.output];rfl
def PW {α γ:Type} (R:α->γ->Prop) (l:List α) (m:List γ):Prop:=l.length=m.length/\∀ (i:Nat) (x:α) (y:γ),l[i]?=some x->m[i]?=some y->R x y
theorem PW.nil {α γ:Type} {R:α->γ->Prop}:PW R ([]:List α) ([]:List γ):=⟨rfl,by simp⟩
theorem PW.cons {α γ:Type} {R:α->γ->Prop} {x:α} {y:γ} {l:List α} {m:List γ} (h:R x y) (t:PW R l m):PW R (x::l) (y::m):=by
 refine ⟨by simp [t.1],fun i a b ha hb=>?_⟩
 cases i with
 | zero=>simp only [List.getElem?_cons_zero,Option.some.injEq] at ha hb;subst ha;subst hb;exact h
 | succ i=>simp only [List.getElem?_cons_succ] at ha hb;exact t.2 i a b ha hb
theorem PW.uncons {α γ:Type} {R:α->γ->Prop} {x:α} {y:γ} {l:List α} {m:List γ} (h:PW R (x::l) (y::m)):R x y/\PW R l m :=
 ⟨h.2 0 x y rfl rfl,by simpa using h.1,fun i a b ha hb=>h.2 (i+1) a b (by simpa using ha) (by simpa using hb)⟩
theorem PW.imp {α γ:Type} {R R':α->γ->Prop} {l:List α} {m:List γ} (h:PW R l m) (hi:∀ x y,R x y->R' x y):PW R' l m:=⟨h.1,fun i x y ha hb=>hi _ _ (h.2 i x y ha hb)⟩
theorem PW.append {α γ:Type} {R:α->γ->Prop} {l l':List α} {m m':List γ} (h:PW R l m) (h':PW R l' m'):PW R (l++l') (m++m'):=by
 refine ⟨by simp [h.1,h'.1],fun i a b ha hb=>?_⟩
 by_cases hi:i < l.length
 ·rw [List.getElem?_append_left hi] at ha
  rw [List.getElem?_append_left (by rw [← h.1];exact hi)] at hb
  exact h.2 i a b ha hb
 ·rw [List.getElem?_append_right (by omega)] at ha
  rw [List.getElem?_append_right (by rw [← h.1];omega),← h.1] at hb
  exact h'.2 _ a b ha hb
theorem PW.take {α γ:Type} {R:α->γ->Prop} {l:List α} {m:List γ} (h:PW R l m) (n:Nat):PW R (l.take n) (m.take n):=by
 refine ⟨by simp [h.1],fun i a b ha hb=>?_⟩
 rw [List.getElem?_take] at ha hb
 split at ha
 ·rename_i hi;rw [if_pos hi] at hb;exact h.2 i a b ha hb
 ·cases ha
theorem PW.drop {α γ:Type} {R:α->γ->Prop} {l:List α} {m:List γ} (h:PW R l m) (n:Nat):PW R (l.drop n) (m.drop n):=by
 refine ⟨by simp [h.1],fun i a b ha hb=>?_⟩
 rw [List.getElem?_drop] at ha hb
 exact h.2 _ a b ha hb
theorem PW.get {α γ:Type} {R:α->γ->Prop} {l:List α} {m:List γ} (h:PW R l m) {i:Nat} {x:α} (hi:l[i]?=some x):∃ y,m[i]?=some y/\R x y:=by
 have hl:=(List.getElem?_eq_some_iff.1 hi).1
 have hm:m[i]?=some (m[i]'(by rw [← h.1];exact hl)):=List.getElem?_eq_getElem _
 exact ⟨_,hm,h.2 i x _ hi hm⟩
def RelC (T:TypeId->TI) (h:Heap) (β:List Con) (w:World) (S:Addr->Prop) (x:AV) (y:Value):Prop:=RelV T h β w S x y/\y.oneCell'=true
theorem zmc {y:Value} (h:y.oneCell'=true):y.cells=#[y]:=by
 cases y <;> first|rfl|(simp [Value.oneCell'] at h)
def AV.isOne:AV->Prop
 | .un|.agg _|.tup _=>False
 | _=>True
theorem RelV.one {T:TypeId->TI} {h:Heap} {β:List Con} {w:World} {S:Addr->Prop} {x:AV} {y:Value} (hr:RelV T h β w S x y)
  (hx:x.isOne):y.oneCell'=true:=by
 cases hr with
 | d _ _ hd=>cases hd with
  | un=>exact hx.elim
  | v _ ho=>exact ho
  | bl=>rfl
  | agg=>exact hx.elim
  | tup=>exact hx.elim
  | sl=>rfl
  | dp=>rfl
 | agg=>exact hx.elim
 | tup=>exact hx.elim
 | nl=>rfl
 | p=>rfl
 | own _ _ _ _ _ _ _ _ _ ho=>exact ho
 | ep=>rfl
 | os _ _ _ _ _ _ _ _ _ _ _ _ ho=>exact ho
 | fn=>rfl
 | mp=>rfl
theorem zeJ {T:TypeId->TI} {h:Heap} {β:List Con} {w:World} {S:Addr->Prop} {x:AV} {y:Value} (hr:RelV T h β w S x y) {n:Nat} {cs:List AV} (hc:zbo n x=some cs) :
  cs.length=n/\PW (RelC T h β w S) cs y.cells.toList:=by
 have one:x.isOne->zji n x=some cs->cs.length=n/\PW (RelC T h β w S) cs y.cells.toList:=by
  intro hx hc
  unfold zji at hc
  split at hc
  ·cases hc
   have ho:=hr.one hx
   rw [zmc ho]
   exact ⟨rfl,PW.cons ⟨hr,ho⟩ PW.nil⟩
  ·cases hc
 cases x with
 | agg ds =>
  cases n with
  | zero=>simp [zbo] at hc
  | succ n =>
   simp only [zbo] at hc
   split at hc
   ·rename_i hn
    have hn:=Nat.eq_of_beq_eq_true hn
    cases hc
    obtain ⟨vs,rfl,hl,ho,hv⟩:=hr.agg_inv
    refine ⟨hn,hl,fun i a b ha hb=>⟨hv i a b ha hb,ho b (List.mem_of_getElem? hb)⟩⟩
   ·cases hc
 | un=>simp [zbo] at hc
 | tup=>simp [zbo] at hc
 | v _=>exact one trivial hc
 | bl _=>exact one trivial hc
 | sl _=>exact one trivial hc
 | dp _=>exact one trivial hc
 | nl=>exact one trivial hc
 | p _ _=>exact one trivial hc
 | own _ _=>exact one trivial hc
 | ep _ _ _ _=>exact one trivial hc
 | os _ _ _=>exact one trivial hc
 | fn _ _=>exact one trivial hc
 | mp _=>exact one trivial hc
theorem zlj {n:Nat} {x:AV} {cs:List AV} (hc:zbo n x=some cs):n≠0:=by
 rintro rfl
 cases x <;> simp [zbo,zji] at hc
theorem ziU (vs:List Value):∀ (k off:Nat) (cs:List Value),off+k+vs.length<=cs.length ->
  (vs.zipIdx k).foldl (fun (cs:Array Value) (x:Value × Nat)=>cs.setIfInBounds (off+x.2) x.1) cs.toArray=(zaD cs (off+k) vs).toArray:=by
 induction vs with
 | nil=>intro k off cs _;simp [zaD]
 | cons v vs ih =>
  intro k off cs h
  simp only [List.length_cons] at h
  rw [zgk cs (off+k) v vs (by omega)]
  simp only [List.zipIdx_cons,List.foldl_cons,List.setIfInBounds_toArray]
  rw [ih (k+1) off (cs.set (off+k) v) (by simp;omega)]
  rfl
theorem zgA {R:AV->Value->Prop} {T:TypeId->TI} {h:Heap} {β:List Con} {w:World} {S:Addr->Prop} (hR:R=RelC T h β w S) (place:Nat->Option (Nat × Nat)) :
  ∀ (parts:List (Nat × AV)) (parts':List (Nat × Value)) (cells out:List AV) (cells':List Value),PW (fun (x:Nat × AV) (y:Nat × Value)=>x.1=y.1/\RelV T h β w S x.2 y.2) parts parts' ->
   PW R cells cells'->fill place cells parts=some out->∃ out',Instr.fill place cells'.toArray parts'=some out'.toArray/\PW R out out'/\out.length=cells.length
 | [],[],cells,out,cells',_,hc,hf=>by
  simp only [fill,Option.some.injEq] at hf
  subst hf
  exact ⟨cells',rfl,hc,rfl⟩
 | [],_::_,_,_,_,hp,_,_=>by have:=hp.1;simp at this
 | _::_,[],_,_,_,hp,_,_=>by have:=hp.1;simp at this
 | (i,x)::rest,(i',y)::rest',cells,out,cells',hp,hc,hf=>by
  obtain ⟨⟨hi,hv⟩,hp'⟩:=hp.uncons
  simp only at hi hv
  subst hi
  simp only [fill] at hf
  cases hpl:place i with
  | none=>simp [hpl] at hf
  | some os =>
   obtain ⟨off,size⟩:=os
   simp only [hpl] at hf
   cases hcs:zbo size x with
   | none=>simp [hcs] at hf
   | some cs =>
    simp only [hcs] at hf
    split at hf
    ·rename_i hle
     obtain ⟨hlen,hpw⟩:=zeJ hv hcs
     have hyl:y.cells.toList.length=size:=by rw [← hpw.1,hlen]
     have hcl:cells'.length=cells.length:=hc.1.symm
     have hnew:PW R (cells.take off++cs++cells.drop (off+size)) (zaD cells' off y.cells.toList):=by
      unfold zaD
      rw [hyl,hR]
      rw [hR] at hc
      exact ((hc.take off).append hpw).append (hc.drop (off+size))
     obtain ⟨out',h1,h2,h3⟩:=zgA hR place rest rest' _ out _ hp' hnew hf
     refine ⟨out',?_,h2,by rw [h3];simp [hlen];omega⟩
     simp only [Instr.fill,hpl]
     rw [Array.length_toList] at hyl
     rw [if_neg (by simp [hyl];omega)]
     have hfo:=ziU y.cells.toList 0 off cells' (by simp [hyl];omega)
     rw [← h1]
     congr 1
     simp only [Nat.add_zero] at hfo
     rw [← hfo,← Array.foldl_toList,Array.toList_zipIdx]
    ·cases hf
end Go.AM
namespace Go.AM
open Go.RowKit
def Post (E:Env0) (h:Heap) (β:List Con) (S:Addr->Prop) (w:World) (R:AV->Heap->Prop):Ending->World->Prop:=fun e w' =>
 ∃ (r:AV) (h':Heap) (β':List Con) (S':Addr->Prop) (y:Value),e=.returned y/\R r h'/\Rel E h' β' S' w'/\Ext h β S w h' β' S' w'/\RelV E.T h' β' w' S' r y
def GoFn (P : Program) (f : FuncId) : Prop := ∃ fn, P.funcs[f]? = some fn ∧ (fn.name == "runtime.NumGoroutine") = false ∧ fn.body.isNone = false
def zhd (P:Program) (f:FuncId) (vs:Array Value) (w:World) (R:Ending->World->Prop):Prop :=
 (GoFn P f/\Calls P f vs w R)\/∃ y w',(callFunc f vs).run P w=.ok (.value y) w'/\R (.returned y) w'
theorem zhd.mono {P:Program} {f:FuncId} {vs:Array Value} {w:World} {R R':Ending->World->Prop} (h:zhd P f vs w R) (hr:∀ e w,R e w->R' e w):zhd P f vs w R':=by
 rcases h with ⟨h1,h2⟩|⟨y,w',h1,h2⟩
 ·exact .inl ⟨h1,h2.mono hr⟩
 ·exact .inr ⟨y,w',h1,hr _ _ h2⟩
def zbh (E:Env0) (f:FuncId) (args:List AV) (h:Heap) (R:AV->Heap->Prop):Prop :=
 ∀ (β:List Con) (S:Addr->Prop) (w:World) (vs:List Value),Rel E h β S w->PW (RelV E.T h β w S) args vs->zhd E.P f vs.toArray w (Post E h β S w R)
def zaa (E:Env0) (f:FuncId) (args:List AV) (h:Heap) (r:AV) (h':Heap):Prop:=zbh E f args h fun r' h''=>r'=r/\h''=h'
def mk (E:Env0):Env:={ E with C:=zaa E }
theorem zm9 {T:TypeId->TI} {h:Heap} {β:List Con} {w:World} {S:Addr->Prop} (x:Value):RelV T h β w S (zhE x) x:=by
 unfold zhE
 split
 ·exact .nl none
 ·exact .d _ _ (.bl _)
 ·exact .d _ _ (.un _)
 ·exact .d _ _ (.un _)
 ·rename_i h1 h2 h3 h4
  refine .d _ _ (.v _ ?_)
  cases x <;> first|rfl|exact absurd rfl (h3 _)|exact absurd rfl (h4 _)
theorem zap {E:Env0} {h:Heap} {β:List Con} {w:World} {S:Addr->Prop} {ts:TS} {tmps:Array Value} {ds:List Deferred} (r:Rel E h β S w) (rt:zam E.T h β w S ts tmps) (x:Operand) :
  RelV E.T h β w S (ev E.G ts x) (Act.eval ⟨tmps,ds⟩ x):=by
 cases x with
 | tmp t=>exact rt t
 | const v=>exact zm9 v
 | global g =>
  simp only [ev,Act.eval]
  split
  ·rename_i cs hg;exact .d _ _ (r.glob g cs hg)
  ·exact .d _ _ (.un _)
 | func f=>exact .fn f [] [] rfl (by simp)
theorem zam.put {T:TypeId->TI} {h:Heap} {β:List Con} {w:World} {S:Addr->Prop} {ts:TS} {tmps:Array Value} (rt:zam T h β w S ts tmps) {d:Option Tmp} {x:AV} {y:Value}
  (hd:zao tmps.size d=true) (hv:RelV T h β w S x y):zam T h β w S (AM.put ts d x) (Act.put ⟨tmps,[]⟩ d y).tmps:=by
 cases d with
 | none=>exact rt
 | some d =>
  intro t
  simp only [AM.put,Act.put,AM.look]
  have hlt:d < tmps.size:=by simpa [zao] using hd
  by_cases e:d=t
  ·subst e
   simp only [Nat.beq_refl]
   have:(tmps.setIfInBounds d y).getD d undef=y:=by simp [Array.getD,hlt]
   rw [this]
   exact hv
  ·have hb:Nat.beq d t=false:=by
    cases hh:Nat.beq d t with
    | false=>rfl
    | true=>exact absurd (Nat.eq_of_beq_eq_true hh) e
   rw [hb]
   have:(tmps.setIfInBounds d y).getD t undef=tmps.getD t undef:=by
    simp [Array.getD_eq_getD_getElem?,Array.getElem?_setIfInBounds_ne e]
   rw [this]
   exact rt t
theorem zam.ext {T:TypeId->TI} {h h':Heap} {β β':List Con} {S S':Addr->Prop} {w w':World} (hx:Ext h β S w h' β' S' w') {ts:TS} {tmps:Array Value} (rt:zam T h β w S ts tmps):zam T h' β' w' S' ts tmps :=
 fun t=>(rt t).ext hx
structure Goal (E:Env0) (h:Heap) (β:List Con) (S:Addr->Prop) (w:World) (tmps:Array Value) (out:Out) (K:Act->World->Prop):Prop where
 k:∀ (β':List Con) (S':Addr->Prop) (w':World) (tmps':Array Value),tmps'.size=tmps.size->Rel E out.h β' S' w'->Ext h β S w out.h β' S' w'->zam E.T out.h β' w' S' out.ts tmps'->K ⟨tmps',[]⟩ w'
theorem zbr (tmps:Array Value) (d:Option Tmp) (y:Value):(Act.put ⟨tmps,[]⟩ d y).tmps.size=tmps.size:=by
 cases d <;> simp [Act.put]
theorem za9 (tmps:Array Value) (d:Option Tmp) (y:Value):Act.put ⟨tmps,[]⟩ d y=⟨(Act.put ⟨tmps,[]⟩ d y).tmps,[]⟩:=by
 cases d <;> rfl
section
variable {E : Env0} {h : Heap} {β : List Con} {S : Addr -> Prop} {w : World} {tmps : Array Value} {ts : TS} {K : Act -> World -> Prop} {Q : Exit -> Act -> World -> Prop} {o : Oper} {os : List Orc}
theorem zbg (r:Rel E h β S w) (rt:zam E.T h β w S ts tmps) (hd:zao tmps.size o.dst=true) {out:Out} (g:Goal E h β S w tmps out K)
  {x:AV} {y:Value} {β':List Con} {S':Addr->Prop} {w':World} (hrun:(execOp (Act.eval ⟨tmps,[]⟩) o).run E.P w=.ok (.value y) w')
  (hts:out.ts=AM.put ts o.dst x) (r':Rel E out.h β' S' w') (e':Ext h β S w out.h β' S' w') (hv:RelV E.T out.h β' w' S' x y):o.wp E.P ⟨tmps,[]⟩ w K Q:=by
 unfold Oper.wp
 rw [hrun,Oper.upon_value,za9]
 refine g.k β' S' w' _ (zbr _ _ _) r' e' ?_
 rw [hts]
 exact (rt.ext e').put hd hv
theorem zak (r:Rel E h β S w) (rt:zam E.T h β w S ts tmps) (hd:zao tmps.size o.dst=true) {q:Option Prop} {x:AV} {os':List Orc} (g:Goal E h β S w tmps ⟨q,AM.put ts o.dst x,h,os'⟩ K)
  {y:Value} (hrun:(execOp (Act.eval ⟨tmps,[]⟩) o).run E.P w=.ok (.value y) w) (hv:RelV E.T h β w S x y):o.wp E.P ⟨tmps,[]⟩ w K Q :=
 zbg r rt hd g hrun rfl r (Ext.refl _ _ _ _) hv
end
end Go.AM
namespace Go.AM
open Go.RowKit
theorem mk_T (E:Env0):(mk E).T=E.T:=rfl
theorem mk_G (E:Env0):(mk E).G=E.G:=rfl
theorem mk_P (E:Env0):(mk E).P=E.P:=rfl
theorem zav {t:TI} (h:t.size≠0):t≠⟨.scalar,0,0,[]⟩:=by rintro rfl;simp at h
theorem zal {t:TI} (h:t.kind≠.scalar):t≠⟨.scalar,0,0,[]⟩:=by rintro rfl;simp at h
theorem zj1 {t:TI} {cs:List AV} {r:AV} (h:mkv t (cs.take t.size)=some r):t≠⟨.scalar,0,0,[]⟩:=by
 rintro rfl
 simp [mkv,TI.isAgg] at h
theorem zgE {T:TypeId->TI} {h:Heap} {β:List Con} {w:World} {S:Addr->Prop} {t:TI} {cs:List AV} {vs:List Value} {r:AV} (hm:mkv t cs=some r) (hp:PW (RelC T h β w S) cs vs) :
  RelV T h β w S r (zcX t vs):=by
 unfold mkv at hm
 unfold zcX
 cases ha:t.isAgg with
 | true =>
  simp only [ha,Option.some.injEq] at hm
  subst hm
  exact .agg _ _ hp.1 (fun y hy=>by
   obtain ⟨i,hi⟩:=List.getElem?_of_mem hy
   have hl:=(List.getElem?_eq_some_iff.1 hi).1
   have hc:cs[i]?=some (cs[i]'(by rw [hp.1];exact hl)):=List.getElem?_eq_getElem _
   exact (hp.2 i _ y hc hi).2) (fun i x y h1 h2=>(hp.2 i x y h1 h2).1)
 | false =>
  simp only [ha] at hm
  cases cs with
  | nil=>simp at hm
  | cons c cs =>
   simp only [List.head?_cons,Option.some.injEq] at hm
   subst hm
   cases vs with
   | nil=>have:=hp.1;simp at this
   | cons v vs=>exact hp.uncons.1.1
section
variable {E : Env0} {h : Heap} {β : List Con} {S : Addr -> Prop} {w : World} {tmps : Array Value} {ts : TS} {K : Act -> World -> Prop} {Q : Exit -> Act -> World -> Prop} {o : Oper} {os : List Orc} {out : Out}
theorem zgX {g:Nat} {vs:List Value} {t:TypeId} (hg:w.heap[g]?=some (.cells vs.toArray t (0,0))) (i:Nat):w.cell? ⟨g,i,none⟩=vs[i]?:=by simp [World.cell?,hg]
theorem znM (ht:zan E) (r:Rel E h β S w) (rt:zam E.T h β w S ts tmps) (hd:zao tmps.size o.dst=true) {t:TypeId} {x:Operand} (hop:o.op=.load t x)
  (hs:zai (mk E) o ts h os=some out) (ho:zah out.o) (g:Goal E h β S w tmps out K):o.wp E.P ⟨tmps,[]⟩ w K Q:=by
 have hx:=zap (ds:=[]) r rt x
 have fin:∀ (cs:List AV) (vs:List Value) (gg off:Nat) (res:AV) (q:Option Prop) (os':List Orc),out=⟨q,AM.put ts o.dst res,h,os'⟩->mkv (E.T t) (cs.take (E.T t).size)=some res->(E.T t).size<=cs.length ->
   PW (RelC E.T h β w S) cs vs->Act.eval ⟨tmps,[]⟩ x=.pointer (some ⟨gg,off,none⟩)->(∀ (j:Nat) (y:Value),vs[j]?=some y->w.cell? ⟨gg,off+j,none⟩=some y)->o.wp E.P ⟨tmps,[]⟩ w K Q:=by
  intro cs vs gg off res q os' hout hm hle hp hev hcell
  subst hout
  obtain ⟨i,d,z,tok⟩:=ht.at_ (zj1 hm)
  have hrun:=zhO tok w gg off (vs.take (E.T t).size) (by simp [← hp.1];omega) (fun j y hj=>by
   rw [List.getElem?_take] at hj
   split at hj
   ·exact hcell j y hj
   ·cases hj)
  refine zak r rt hd g (y:=zcX (E.T t) (vs.take (E.T t).size)) ?_ (zgE hm (hp.take _))
  simp only [execOp,hop,hev,Sem.run_bind,hrun,Result.andThen_ok,Sem.run_pure]
 simp only [zai,zaf,hop,mk_T,mk_G] at hs
 cases he:ev E.G ts x with
 | mp _=>simp [he] at hs
 | p b off =>
  simp only [he] at hs hx
  cases hb:h[b]? with
  | none=>simp [hb] at hs
  | some B =>
   cases B with
   | mp _=>simp [hb] at hs
   | row e xs sh=>simp [hb] at hs
   | box cs =>
    simp only [hb] at hs
    split at hs
    ·rename_i res h1 h2
     simp only [Option.some.injEq] at hs
     obtain ⟨gg,vs,t',c1,c2,c3,c4⟩:=r.box b cs hb
     generalize hev:Act.eval ⟨tmps,[]⟩ x=y at hx
     cases hx with
     | d _ _ hd=>cases hd
     | p _ _ g2 hbb =>
      rw [c1] at hbb
      cases hbb
      refine fin (cs.drop off) (vs.drop off) gg off res _ _ hs.symm h1 (by simp;have:=Nat.le_of_ble_eq_true h2;omega) (PW.drop ⟨c3,fun i x y h1 h2=>c4 i x y h1 h2⟩ off) hev ?_
      intro j y hj
      rw [zgX c2,← hj,List.getElem?_drop]
    ·cases hs
 | dp cs =>
  simp only [he] at hs hx
  split at hs
  ·rename_i res h1 h2
   simp only [Option.some.injEq] at hs
   generalize hev:Act.eval ⟨tmps,[]⟩ x=y at hx
   cases hx with
   | d _ _ hd =>
    cases hd with
    | dp _ gg off f f1 f2 =>
     have hle:=Nat.le_of_ble_eq_true h2
     refine fin cs ((List.range cs.length).map f) gg off res _ _ hs.symm h1 hle ⟨by simp,fun i x y hi hj=>?_⟩ hev ?_
     ·have hl:=(List.getElem?_eq_some_iff.1 hi).1
      simp [hl] at hj
      subst hj
      exact ⟨.d _ _ (f2 i x hi),(f1 i x hi).2.2⟩
     ·intro j y hj
      by_cases hl:j < cs.length
      ·simp [hl] at hj
       subst hj
       exact (f1 j _ (List.getElem?_eq_getElem hl)).2.1
      ·simp [hl] at hj
  ·cases hs
 | ep b n i off =>
  simp only [he] at hs hx
  cases hb:h[b]? with
  | none=>simp [hb] at hs
  | some B =>
   cases B with
   | mp _=>simp [hb] at hs
   | box cs=>simp [hb] at hs
   | row e xs sh =>
    cases os with
    | nil=>simp [hb] at hs
    | cons oc os' =>
     cases oc with
     | el c =>
      simp only [hb] at hs
      split at hs
      ·rename_i res h1 h2
       simp only [Option.some.injEq] at hs
       have hle:=Nat.le_of_ble_eq_true h2
       subst hs
       simp only [zah] at ho
       obtain ⟨hn,hxi⟩:=ho
       generalize hev:Act.eval ⟨tmps,[]⟩ x=y at hx
       cases hx with
       | d _ _ hd=>cases hd
       | ep _ _ _ _ gg e' xs' sh' hb' _ hy =>
        rw [hb] at hb'
        cases hb'
        obtain ⟨cap,k1⟩:=hy hn
        obtain ⟨k,k2,hrow⟩:=r.row b e xs sh hb
        rw [k1] at k2
        cases k2
        obtain ⟨cs,r1,r2,r3,r4,r5,r6,r7⟩:=hrow
        have hcl:c.length=(E.T e).size:=r6 i c hxi
        let f:Nat->Value:=fun j=>(cs[i * (E.T e).size+j]?).getD undef
        have hf:∀ j x,c[j]?=some x->w.cell? ⟨gg,i * (E.T e).size+j,none⟩=some (f j)/\RelC E.T h β w S x (f j):=by
         intro j x hj
         obtain ⟨y,y1,y2,y3⟩:=r7 i j c x hxi hj
         have:f j=y:=by simp [f,y1]
         rw [this]
         exact ⟨by simp [World.cell?,r1,y1],.d _ _ y2,y3⟩
        refine fin (c.drop off) (((List.range c.length).map f).drop off) gg (i * (E.T e).size+off) res _ _ rfl h1 (by simp;omega) (PW.drop ⟨by simp,fun k x y hi hj=>?_⟩ off) hev ?_
        ·have hl:=(List.getElem?_eq_some_iff.1 hi).1
         simp [hl] at hj
         subst hj
         exact (hf k x hi).2
        ·intro j y hj
         rw [List.getElem?_drop] at hj
         by_cases hl:off+j < c.length
         ·simp [hl] at hj
          subst hj
          rw [Nat.add_assoc]
          exact (hf _ _ (List.getElem?_eq_getElem hl)).1
         ·simp [hl] at hj
      ·cases hs
     | b _=>simp [hb] at hs
     | i _=>simp [hb] at hs
     | call _ _ _=>simp [hb] at hs
     | calln _ _ _=>simp [hb] at hs
     | draw _=>simp [hb] at hs
 | un=>simp [he] at hs
 | v _=>simp [he] at hs
 | bl _=>simp [he] at hs
 | agg _=>simp [he] at hs
 | tup _=>simp [he] at hs
 | sl _=>simp [he] at hs
 | nl=>simp [he] at hs
 | own _ _=>simp [he] at hs
 | fn _ _=>simp [he] at hs
 | os _ _ _=>simp [he] at hs
theorem op_box (ht:zan E) (r:Rel E h β S w) (rt:zam E.T h β w S ts tmps) (hd:zao tmps.size o.dst=true) {t:TypeId} {x:Operand} (hop:o.op=.box t x)
  (hs:zai (mk E) o ts h os=some out) (ho:zah out.o) (g:Goal E h β S w tmps out K):o.wp E.P ⟨tmps,[]⟩ w K Q:=by
 have hx:=zap (ds:=[]) r rt x
 simp only [zai,zaf,hop,mk_T,mk_G] at hs
 cases hc:zbo (E.T t).size (ev E.G ts x) with
 | none=>simp [hc] at hs
 | some cs =>
  simp only [hc,Option.some.injEq] at hs
  subst hs
  obtain ⟨h1,h2⟩:=zeJ hx hc
  obtain ⟨e1,r1⟩:=r.newBox cs (Act.eval ⟨tmps,[]⟩ x).cells.toList t h2.1 h2.2
  refine zbg r rt hd g (x:=.p h.length 0) (y:=.pointer (some ⟨w.heap.size,0,none⟩)) ?_ rfl r1 e1 (.p _ _ _ (by rw [← r.len,getElem?_append_new]))
  simp [execOp,hop,Instr.box,newVar,newRow]
theorem znb (ht:zan E) (r:Rel E h β S w) (rt:zam E.T h β w S ts tmps) (hd:zao tmps.size o.dst=true) {t:TypeId} (hop:o.op=.alloc t)
  (hs:zai (mk E) o ts h os=some out) (ho:zah out.o) (g:Goal E h β S w tmps out K):o.wp E.P ⟨tmps,[]⟩ w K Q:=by
 simp only [zai,zaf,hop,mk_T,mk_G] at hs
 split at hs
 ·cases hs
 ·rename_i hz
  simp only [Option.some.injEq] at hs
  subst hs
  have hne:E.T t≠⟨.scalar,0,0,[]⟩:=by rintro e;rw [e] at hz;simp at hz
  obtain ⟨i,d,z,tok⟩:=ht.at_ hne
  obtain ⟨z1,z2⟩:=zbS (T:=E.T) (h:=h) (β:=β) (w:=w) (S:=S) _ _ tok.zok
  obtain ⟨e1,r1⟩:=r.newBox (E.T t).zero z.cells.toList t z1 z2
  refine zbg r rt hd g (x:=.p h.length 0) (y:=.pointer (some ⟨w.heap.size,0,none⟩)) ?_ rfl r1 e1 (.p _ _ _ (by rw [← r.len,getElem?_append_new]))
  simp [execOp,hop,Instr.alloc,tok.zeroValue,newVar,newRow]
theorem zkI {P:Program} {T:TypeId->TI} {t:TypeId} {i:TypeInfo} {d:TypeDesc} {z:Value} (tok:TOk P T t i d z) (w:World) (g off:Nat) (cs:List Value) (u:TypeId) (y:Value)
  (hg:w.heap[g]?=some (.cells cs.toArray u (0,0))) (hl:y.cells.size=(T t).size) (hle:off+(T t).size<=cs.length) (h1:∀ v∈y.cells.toList,v.oneCell'=true) :
  ∃ w',(Instr.storeAt t (.pointer (some ⟨g,off,none⟩)) y).run P w=.ok () w'/\Stored w w' g (zaD cs off y.cells.toList) u:=by
 obtain ⟨w',h2,h3⟩:=zbF (P:=P) y.cells.toList 0 w g off cs u hg (by simp [hl];omega) h1
 refine ⟨w',?_,by simpa using h3⟩
 simp only [Instr.storeAt,Instr.sureAddr,storeVar,Sem.run_bind,Sem.run_pure,Result.andThen_ok,tok.sizeOf,hl,ne_eq,not_true_eq_false,if_false,Sem.run_ite,h2]
theorem zni (ht:zan E) (r:Rel E h β S w) (rt:zam E.T h β w S ts tmps) (hd:zao tmps.size o.dst=true) {t:TypeId} {x y:Operand} (hop:o.op=.store t x y)
  (hs:zai (mk E) o ts h os=some out) (ho:zah out.o) (g:Goal E h β S w tmps out K):o.wp E.P ⟨tmps,[]⟩ w K Q:=by
 have hx:=zap (ds:=[]) r rt x
 have hy:=zap (ds:=[]) r rt y
 simp only [zai,zaf,hop,mk_T,mk_G] at hs
 cases hc:zbo (E.T t).size (ev E.G ts y) with
 | none=>simp [hc] at hs
 | some ys =>
  simp only [hc] at hs
  obtain ⟨hyl,hyp⟩:=zeJ hy hc
  have hne:=zav (zlj hc)
  obtain ⟨i,d,z,tok⟩:=ht.at_ hne
  have hysz:(Act.eval ⟨tmps,[]⟩ y).cells.size=(E.T t).size:=by rw [← Array.length_toList,← hyp.1,hyl]
  have hy1:∀ v∈(Act.eval ⟨tmps,[]⟩ y).cells.toList,v.oneCell'=true:=fun v hv=>by
   obtain ⟨j,hj⟩:=List.getElem?_of_mem hv
   have hl:=(List.getElem?_eq_some_iff.1 hj).1
   exact (hyp.2 j _ v (List.getElem?_eq_getElem (by rw [hyp.1];exact hl)) hj).2
  have fin:∀ (gg off:Nat) (cs:List Value) (u:TypeId),Act.eval ⟨tmps,[]⟩ x=.pointer (some ⟨gg,off,none⟩)->w.heap[gg]?=some (.cells cs.toArray u (0,0))->off+(E.T t).size<=cs.length ->
    (∀ w',Stored w w' gg (zaD cs off (Act.eval ⟨tmps,[]⟩ y).cells.toList) u->out.ts=AM.put ts o.dst .un/\∃ β' S',Rel E out.h β' S' w'/\Ext h β S w out.h β' S' w')->o.wp E.P ⟨tmps,[]⟩ w K Q:=by
   intro gg off cs u hev hg hle hfin
   obtain ⟨w',hrun,hst⟩:=zkI tok w gg off cs u _ hg hysz hle hy1
   obtain ⟨hts,β',S',r',e'⟩:=hfin w' hst
   unfold Oper.wp
   have:(execOp (Act.eval ⟨tmps,[]⟩) o).run E.P w=.ok .skip w':=by simp only [execOp,hop,hev,Sem.run_bind,hrun,Result.andThen_ok,Sem.run_pure]
   rw [this,Oper.upon_skip,za9]
   refine g.k β' S' w' _ (zbr _ _ _) r' e' ?_
   rw [hts]
   exact (rt.ext e').put hd (.d _ _ (.un _))
  cases he:ev E.G ts x with
  | mp _=>simp [he] at hs
  | p b off =>
   simp only [he] at hs hx
   cases hb:h[b]? with
   | none=>simp [hb] at hs
   | some B =>
    cases B with
    | mp _=>simp [hb] at hs
    | row e xs sh=>simp [hb] at hs
    | box cs =>
     simp only [hb] at hs
     split at hs
     ·rename_i hle
      have hle:=Nat.le_of_ble_eq_true hle
      simp only [Option.some.injEq] at hs
      subst hs
      obtain ⟨gg,vs,u,c1,c2,c3,c4⟩:=r.box b cs hb
      generalize hev:Act.eval ⟨tmps,[]⟩ x=yy at hx
      cases hx with
      | d _ _ hd=>cases hd
      | p _ _ g2 hbb =>
       rw [c1] at hbb
       cases hbb
       refine fin gg off vs u hev c2 (by rw [← c3];exact hle) fun w' hst=>⟨rfl,?_⟩
       have hset:β.set b (.box gg)=β:=by
        apply List.ext_getElem?
        intro i
        by_cases hi:i=b
        ·subst hi;rw [zaB c1,c1]
        ·rw [zaE hi]
       have hS:∀ a,S a->a.block≠gg:=fun a ha e=>by
        obtain ⟨e1,xs1,h1,_⟩:=r.free b _ gg a c1 rfl ha e
        rw [hb] at h1
        cases h1
       have tn:Turn h β S w b (.box (cs.take off++ys++cs.drop (off+(E.T t).size))) (.box gg) (.box gg) S w':={
        kb:=c1
        box:=fun _ _=>⟨⟨_,rfl⟩,rfl⟩
        row:=fun e xs sh h1=>by rw [hb] at h1;cases h1
        S_le:=fun _ h=>h
        S_cell:=fun a ha=>World.cell?_of_block (hst.keep a.block (hS a ha))
        S_new:=fun _ h=>.inl h
        S_lt:=fun a ha=>by rw [hst.size];exact r.stable a ha
        os:=hst.os
        tape:=hst.tape
        drawn:=hst.drawn
        output:=hst.output
        size:=by rw [hst.size];exact Nat.le_refl _
        keep:=fun k _ hk=>hst.keep k (fun e=>hk (by rw [e];rfl))
        own:=fun k hk=>by
         cases hk
         exact ⟨.inl rfl,by rw [hst.size];exact r.lt b _ gg c1 rfl⟩ }
       have e1:=r.turnExt hb tn
       have r1:=r.turn hb tn (fun cs' hcs=>by
        cases hcs
        have hpw:PW (RelC E.T h β w S) (cs.take off++ys++cs.drop (off+(E.T t).size)) (zaD vs off (Act.eval ⟨tmps,[]⟩ y).cells.toList):=by
         unfold zaD
         rw [Array.length_toList,hysz]
         exact ((PW.take ⟨c3,c4⟩ off).append hyp).append (PW.drop ⟨c3,c4⟩ _)
        exact ⟨gg,_,u,rfl,hst.heap,hpw.1,fun i a b ha hb'=>⟨(hpw.2 i a b ha hb').1.ext e1,(hpw.2 i a b ha hb').2⟩⟩)
        (fun e xs sh h1=>by cases h1) (fun k a hk ha hka=>by cases hk;exact absurd hka (hS a ha))
       rw [hset] at e1 r1
       exact ⟨β,S,r1,e1⟩
     ·cases hs
  | ep b n i off =>
   simp only [he] at hs hx
   cases hb:(share h (zaL ys))[b]? with
   | none=>simp [hb] at hs
   | some B =>
    cases B with
    | mp _=>simp [hb] at hs
    | box cs=>simp [hb] at hs
    | row e xs sh =>
     cases sh with
     | true=>simp [hb] at hs
     | false =>
      cases os with
      | nil=>simp [hb] at hs
      | cons oc os' =>
       cases oc with
       | el c =>
        simp only [hb] at hs
        split at hs
        ·rename_i hle
         have hle:=Nat.le_of_ble_eq_true hle
         simp only [Option.some.injEq] at hs
         subst hs
         simp only [zah] at ho
         obtain ⟨ho1,hn,hxi⟩:=ho
         obtain ⟨S1,⟨e0,r0⟩,d0⟩:=zdQ E ys h β S w _ r hyp.1 (fun i x y h1 h2=>(hyp.2 i x y h1 h2).1) ho1
         have hx:=hx.ext e0
         generalize hev:Act.eval ⟨tmps,[]⟩ x=yy at hx
         cases hx with
         | d _ _ hd=>cases hd
         | ep _ _ _ _ gg e' xs' sh' hb' _ hyy =>
          rw [hb] at hb'
          cases hb'
          obtain ⟨cap,k1⟩:=hyy hn
          obtain ⟨k,k2,hrow⟩:=r0.row b e xs false hb
          rw [k1] at k2
          cases k2
          obtain ⟨cs,q1,q2,q3,q4,q5,q6,q7⟩:=hrow
          have hcl:c.length=(E.T e).size:=q6 i c hxi
          have hil:i < xs.length:=(List.getElem?_eq_some_iff.1 hxi).1
          have hfit:(i+1) * (E.T e).size<=cs.size:=by
           rw [q5];exact Nat.mul_le_mul_right _ (by omega)
          rw [Nat.add_mul,Nat.one_mul] at hfit
          refine fin gg (i * (E.T e).size+off) cs.toList e hev (by simpa using q1) (by simp;omega) fun w' hst=>⟨rfl,?_⟩
          have hset:β.set b (.row gg cap)=β:=by
           apply List.ext_getElem?
           intro i
           by_cases hi:i=b
           ·subst hi;rw [zaB k1,k1]
           ·rw [zaE hi]
          have hS:∀ a,S1 a->a.block≠gg:=fun a ha e2=>by
           obtain ⟨e1,xs1,h1,_⟩:=r0.free b _ gg a k1 rfl ha e2
           rw [hb] at h1
           cases h1
          have tn:Turn (share h (zaL ys)) β S1 w b (.row e (xs.set i (c.take off++frzL h ys++c.drop (off+(E.T t).size))) false) (.row gg cap) (.row gg cap) S1 w':={
           kb:=k1
           box:=fun cs1 h1=>by rw [hb] at h1;cases h1
           row:=fun e1 xs1 sh1 h1=>by
            rw [hb] at h1
            cases h1
            exact ⟨_,_,rfl,by simp,fun _=>rfl⟩
           S_le:=fun _ h=>h
           S_cell:=fun a ha=>World.cell?_of_block (hst.keep a.block (hS a ha))
           S_new:=fun _ h=>.inl h
           S_lt:=fun a ha=>by rw [hst.size];exact r0.stable a ha
           os:=hst.os
           tape:=hst.tape
           drawn:=hst.drawn
           output:=hst.output
           size:=by rw [hst.size];exact Nat.le_refl _
           keep:=fun k _ hk=>hst.keep k (fun e=>hk (by rw [e];rfl))
           own:=fun k hk=>by
            cases hk
            exact ⟨.inl rfl,by rw [hst.size];exact r0.lt b _ gg k1 rfl⟩ }
          have e1:=r0.turnExt hb tn
          have hDm:∀ {a:AV} {v:Value},RelD w S1 a v->RelD w' S1 a v:=fun hd=>hd.mono (fun _ h=>h) tn.S_cell
          have hfl:(frzL h ys).length=(E.T t).size:=by rw [zby,hyl]
          have hyl2:(Act.eval ⟨tmps,[]⟩ y).cells.toList.length=(E.T t).size:=by rw [Array.length_toList,hysz]
          have hov:=fun k=>za8 (cs:=cs.toList) (off:=i * (E.T e).size+off) (vs:=(Act.eval ⟨tmps,[]⟩ y).cells.toList) (by rw [hyl2];simp;omega) k
          have r1:=r0.turn hb tn (fun cs' hcs=>by cases hcs) (fun e2 xs2 sh2 h2=>by
           cases h2
           refine ⟨_,by rw [hst.heap],by simpa using q2,q3,q4,?_,?_,?_⟩
           ·simp only [List.size_toArray];rw [za7 _ _ _ (by rw [hyl2];simp;omega)];simpa using q5
           ·intro i' c' hi'
            by_cases e3:i'=i
            ·subst e3
             rw [List.getElem?_set_self hil] at hi'
             cases hi'
             simp [hfl];omega
            ·rw [List.getElem?_set_ne (Ne.symm e3)] at hi'
             exact q6 i' c' hi'
           ·intro i' j c' a hi' hj
            simp only [List.getElem?_toArray]
            rw [hov]
            by_cases e3:i'=i
            ·subst e3
             rw [List.getElem?_set_self hil] at hi'
             cases hi'
             by_cases j1:j < off
             ·rw [List.append_assoc,List.getElem?_append_left (by simp;omega),List.getElem?_take,if_pos j1] at hj
              obtain ⟨v,v1,v2,v3⟩:=q7 i' j c a hxi hj
              exact ⟨v,by rw [if_pos (by omega)];simpa using v1,hDm v2,v3⟩
             ·rw [List.append_assoc,List.getElem?_append_right (by simp;omega)] at hj
              have hto:(c.take off).length=off:=by simp;omega
              rw [hto] at hj
              rw [if_neg (by omega)]
              by_cases j2:j < off+(E.T t).size
              ·rw [List.getElem?_append_left (by rw [hfl];omega)] at hj
               rw [if_pos (by rw [hyl2];omega),show i' * (E.T e).size+j - (i' * (E.T e).size+off)=j - off by omega]
               have hyj:(Act.eval ⟨tmps,[]⟩ y).cells.toList[j - off]?=some ((Act.eval ⟨tmps,[]⟩ y).cells.toList[j - off]'(by rw [hyl2];omega)):=List.getElem?_eq_getElem _
               exact ⟨_,hyj,hDm (d0 _ a _ hj hyj),hy1 _ (List.mem_of_getElem? hyj)⟩
              ·rw [List.getElem?_append_right (by rw [hfl];omega),hfl,List.getElem?_drop] at hj
               rw [if_neg (by rw [hyl2];omega)]
               rw [show off+(E.T t).size+(j - off - (E.T t).size)=j by omega] at hj
               obtain ⟨v,v1,v2,v3⟩:=q7 i' j c a hxi hj
               exact ⟨v,by simpa using v1,hDm v2,v3⟩
            ·rw [List.getElem?_set_ne (Ne.symm e3)] at hi'
             obtain ⟨v,v1,v2,v3⟩:=q7 i' j c' a hi' hj
             have hjl:j < (E.T e).size:=by rw [← q6 i' c' hi'];exact (List.getElem?_eq_some_iff.1 hj).1
             refine ⟨v,?_,hDm v2,v3⟩
             rcases Nat.lt_or_gt_of_ne e3 with h4|h4
             ·have:(i'+1) * (E.T e).size<=i * (E.T e).size:=Nat.mul_le_mul_right _ (by omega)
              rw [Nat.add_mul,Nat.one_mul] at this
              rw [if_pos (by omega)];simpa using v1
             ·have:(i+1) * (E.T e).size<=i' * (E.T e).size:=Nat.mul_le_mul_right _ (by omega)
              rw [Nat.add_mul,Nat.one_mul] at this
              rw [if_neg (by omega),if_neg (by rw [hyl2];omega)];simpa using v1) (fun k a hk ha hka=>by cases hk;exact absurd hka (hS a ha))
          rw [hset] at e1 r1
          exact ⟨β,S1,r1,e0.trans e1⟩
        ·cases hs
       | b _=>simp [hb] at hs
       | i _=>simp [hb] at hs
       | call _ _ _=>simp [hb] at hs
       | calln _ _ _=>simp [hb] at hs
       | draw _=>simp [hb] at hs
  | un=>simp [he] at hs
  | v _=>simp [he] at hs
  | bl _=>simp [he] at hs
  | agg _=>simp [he] at hs
  | tup _=>simp [he] at hs
  | sl _=>simp [he] at hs
  | dp _=>simp [he] at hs
  | nl=>simp [he] at hs
  | own _ _=>simp [he] at hs
  | fn _ _=>simp [he] at hs
  | os _ _ _=>simp [he] at hs
end
end Go.AM
namespace Go.AM
open Go.RowKit
section
variable {E : Env0} {h : Heap} {β : List Con} {S : Addr -> Prop} {w : World} {tmps : Array Value} {ts : TS} {K : Act -> World -> Prop} {Q : Exit -> Act -> World -> Prop} {o : Oper} {os : List Orc} {out : Out}
theorem zdX {P:Program} {size:Nat}:∀ (offs:List Nat) (fs:List Field),zcD P size offs fs=true->offs.length=fs.length/\∀ (i off:Nat) (f:Field),offs[i]?=some off->fs[i]?=some f ->
  off=f.offset/\(P.info? f.type).map (·.size)=some ((offs.drop (i+1)).headD size - off)/\(offs.drop (i+1)).headD size - off≠0
 | [],[],_=>⟨rfl,by simp⟩
 | o::os,f::fs,hk=>by
  simp only [zcD,Bool.and_eq_true,decide_eq_true_eq] at hk
  obtain ⟨⟨⟨h1,h2⟩,h3⟩,h4⟩:=hk
  obtain ⟨g1,g2⟩:=zdX os fs h4
  refine ⟨by simp [g1],fun i off f' hi hf=>?_⟩
  cases i with
  | zero =>
   simp only [List.getElem?_cons_zero,Option.some.injEq] at hi hf
   subst hi;subst hf
   exact ⟨h1,by simpa using h2,by simpa using h3⟩
  | succ i =>
   simp only [List.getElem?_cons_succ] at hi hf
   simpa using g2 i off f' hi hf
 | [],_::_,hk=>by cases hk
 | _::_,[],hk=>by cases hk
theorem TOk.struct_ {P:Program} {T:TypeId->TI} {t:TypeId} {i:TypeInfo} {d:TypeDesc} {z:Value} (tok:TOk P T t i d z) {offs:List Nat} (hk:(T t).kind=.struct offs) :
  ∃ fs:Array Field,d=.struct fs/\zcD P (T t).size offs fs.toList=true:=by
 have:=tok.kind
 unfold zce at this
 rw [hk] at this
 cases d <;> simp at this
 exact ⟨_,rfl,this⟩
theorem TOk.slice_ {P:Program} {T:TypeId->TI} {t:TypeId} {i:TypeInfo} {d:TypeDesc} {z:Value} (tok:TOk P T t i d z) {e:TypeId} (hk:(T t).kind=.slice e) :
  d=.slice e/\(T e).size≠0:=by
 have:=tok.kind
 unfold zce at this
 rw [hk] at this
 cases d <;> simp at this
 obtain ⟨⟨rfl,h2⟩,_⟩:=this
 exact ⟨rfl,h2⟩
theorem TOk.array_ {P:Program} {T:TypeId->TI} {t:TypeId} {i:TypeInfo} {d:TypeDesc} {z:Value} (tok:TOk P T t i d z) {n:Nat} {e:TypeId} (hk:(T t).kind=.array n e) :
  d=.array n e/\(T e).size≠0/\(T t).size=n * (T e).size:=by
 have:=tok.kind
 unfold zce at this
 rw [hk] at this
 cases d <;> simp at this
 obtain ⟨⟨⟨rfl,rfl⟩,h2⟩,h3⟩:=this
 exact ⟨rfl,h2,h3⟩
theorem TOk.int_ {P:Program} {T:TypeId->TI} {t:TypeId} {i:TypeInfo} {d:TypeDesc} {z:Value} (tok:TOk P T t i d z) {k:IntKind} (hk:(T t).kind=.int k):d=.int k:=by
 have:=tok.kind
 unfold zce at this
 rw [hk] at this
 cases d <;> simp at this
 obtain ⟨rfl,_⟩:=this
 rfl
theorem TOk.str_ {P:Program} {T:TypeId->TI} {t:TypeId} {i:TypeInfo} {d:TypeDesc} {z:Value} (tok:TOk P T t i d z) (hk:(T t).kind=.str):d=.string:=by
 have:=tok.kind
 unfold zce at this
 rw [hk] at this
 cases d <;> simp at this
 rfl
theorem TOk.map_ {P:Program} {T:TypeId->TI} {t:TypeId} {i:TypeInfo} {d:TypeDesc} {z:Value} (tok:TOk P T t i d z) {a b:TypeId} (hk:(T t).kind=.map a b):d=.map a b:=by
 have:=tok.kind
 unfold zce at this
 rw [hk] at this
 cases d <;> simp at this
 obtain ⟨⟨rfl,rfl⟩,_⟩:=this
 rfl
theorem TOk.bool_ {P:Program} {T:TypeId->TI} {t:TypeId} {i:TypeInfo} {d:TypeDesc} {z:Value} (tok:TOk P T t i d z) (hk:(T t).kind=.bool):d=.bool:=by
 have:=tok.kind
 unfold zce at this
 rw [hk] at this
 cases d <;> simp at this
 rfl
theorem zgs {P:Program} {f:Field} {n:Nat} (h:(P.info? f.type).map (·.size)=some n) (w:World):(Go.sizeOf f.type).run P w=.ok n w:=by
 cases hi:P.info? f.type with
 | none=>simp [hi] at h
 | some i =>
  simp only [hi,Option.map_some,Option.some.injEq] at h
  simp [Go.sizeOf,typeInfo,hi,h]
theorem ziF {P:Program} {size:Nat} (w:World):∀ (fs:List Field) (offs:List Nat),zcD P size offs fs=true ->
  ∃ pl:List (Nat × Nat),(fs.mapM fun (f:Field)=>(do pure (f.offset,← Go.sizeOf f.type):Sem (Nat × Nat))).run P w=.ok pl w /\
   ∀ i,pl[i]?=zdS offs size i
 | [],[],_=>⟨[],by simp,by simp [zdS]⟩
 | [],_::_,hk=>by cases hk
 | _::_,[],hk=>by cases hk
 | f::fs,o::os,hk=>by
  simp only [zcD,Bool.and_eq_true,decide_eq_true_eq] at hk
  obtain ⟨⟨⟨h1,h2⟩,h3⟩,h4⟩:=hk
  obtain ⟨pl,p1,p2⟩:=ziF w fs os h4
  refine ⟨(f.offset,os.headD size - o)::pl,?_,fun i=>?_⟩
  ·simp only [List.mapM_cons,Sem.run_bind,zgs h2,Result.andThen_ok,Sem.run_pure,p1]
  ·cases i with
   | zero=>simp [zdS,h1]
   | succ i=>simp [p2 i,zdS]
theorem zj6 (r:Rel E h β S w) (rt:zam E.T h β w S ts tmps) (parts:List (Nat × Operand)) :
  PW (fun (x:Nat × AV) (y:Nat × Value)=>x.1=y.1/\RelV E.T h β w S x.2 y.2) (parts.map fun (x:Nat × Operand)=>(x.1,ev E.G ts x.2)) (parts.map fun (x:Nat × Operand)=>(x.1,Act.eval ⟨tmps,[]⟩ x.2)):=by
 refine ⟨by simp,fun i x y hx hy=>?_⟩
 simp only [List.getElem?_map,Option.map_eq_some_iff] at hx hy
 obtain ⟨p,h1,rfl⟩:=hx
 obtain ⟨q,h2,rfl⟩:=hy
 rw [h1] at h2
 cases h2
 exact ⟨rfl,zap r rt _⟩
theorem zgj {l:List AV} {m:List Value} (hp:PW (RelC E.T h β w S) l m):∀ y∈m,y.oneCell'=true:=fun y hy=>by
 obtain ⟨i,hi⟩:=List.getElem?_of_mem hy
 have hl:=(List.getElem?_eq_some_iff.1 hi).1
 exact (hp.2 i _ y (List.getElem?_eq_getElem (by rw [hp.1];exact hl)) hi).2
theorem znd (ht:zan E) (r:Rel E h β S w) (rt:zam E.T h β w S ts tmps) (hd:zao tmps.size o.dst=true) {t:TypeId} {parts:Array (Nat × Operand)} (hop:o.op=.build t parts)
  (hs:zai (mk E) o ts h os=some out) (ho:zah out.o) (g:Goal E h β S w tmps out K):o.wp E.P ⟨tmps,[]⟩ w K Q:=by
 simp only [zai,zaf,hop,mk_T,mk_G] at hs
 have hpw:=zj6 r rt parts.toList
 cases hk:(E.T t).kind with
 | map _ _=>simp [hk] at hs
 | struct offs =>
  simp only [hk] at hs
  split at hs
  ·rename_i cs hf
   simp only [Option.some.injEq] at hs
   subst hs
   obtain ⟨i,d,z,tok⟩:=ht.at_ (zal (by rw [hk];simp):E.T t≠_)
   obtain ⟨fs,rfl,hfs⟩:=tok.struct_ hk
   have hz:=zbS (T:=E.T) (h:=h) (β:=β) (w:=w) (S:=S) _ _ tok.zok
   obtain ⟨pl,p1,p2⟩:=ziF (P:=E.P) w fs.toList offs hfs
   obtain ⟨out',o1,o2,o3⟩:=zgA (R:=RelC E.T h β w S) rfl _ _ _ _ _ z.cells.toList hpw hz hf
   have hpl:zdS offs (E.T t).size=(fun i=>pl.toArray[i]?):=by
    funext i
    rw [List.getElem?_toArray,p2 i]
   rw [hpl] at o1
   refine zak r rt hd g (y:=.agg out'.toArray) ?_ (.agg _ _ o2.1 (zgj o2) (fun i x y h1 h2=>(o2.2 i x y h1 h2).1))
   simp only [execOp,hop,Instr.build,Sem.run_bind,tok.zeroValue,Result.andThen_ok,run_underlying tok.und,Array.mapM_eq_mapM_toList,Sem.run_map,p1,Array.toList_map,Sem.run_pure]
   rw [Array.toArray_toList] at o1
   rw [o1]
   simp
  ·cases hs
 | array n e =>
  simp only [hk] at hs
  split at hs
  ·rename_i cs hf
   simp only [Option.some.injEq] at hs
   subst hs
   obtain ⟨i,d,z,tok⟩:=ht.at_ (zal (by rw [hk];simp):E.T t≠_)
   obtain ⟨rfl,hes,hts⟩:=tok.array_ hk
   obtain ⟨i2,d2,z2,tok2⟩:=ht.at_ (zav hes)
   have hz:=zbS (T:=E.T) (h:=h) (β:=β) (w:=w) (S:=S) _ _ tok.zok
   obtain ⟨out',o1,o2,o3⟩:=zgA (R:=RelC E.T h β w S) rfl _ _ _ _ _ z.cells.toList hpw hz hf
   refine zak r rt hd g (y:=.agg out'.toArray) ?_ (.agg _ _ o2.1 (zgj o2) (fun i x y h1 h2=>(o2.2 i x y h1 h2).1))
   simp only [execOp,hop,Instr.build,Sem.run_bind,tok.zeroValue,Result.andThen_ok,run_underlying tok.und,tok2.sizeOf,Array.toList_map,Sem.run_pure]
   rw [Array.toArray_toList] at o1
   rw [o1]
   simp
  ·cases hs
 | scalar=>simp [hk] at hs
 | int _=>simp [hk] at hs
 | str=>simp [hk] at hs
 | bool=>simp [hk] at hs
 | slice _=>simp [hk] at hs
theorem zbT (size:Nat):∀ (n:Nat) (cs:List AV),(zb8 size n cs).length=n
 | 0,_=>rfl
 | n+1,cs=>by simp [zb8,zbT size n]
theorem zfh (size:Nat):∀ (n:Nat) (cs:List AV) (i:Nat),i < n->(zb8 size n cs)[i]?=some ((cs.drop (i * size)).take size)
 | 0,_,_,hi=>absurd hi (by omega)
 | n+1,cs,0,_=>by simp [zb8]
 | n+1,cs,i+1,hi=>by
  simp only [zb8,List.getElem?_cons_succ]
  rw [zfh size n _ i (by omega),List.drop_drop,Nat.add_mul,Nat.one_mul,Nat.add_comm]
theorem zdh (zero:List AV):∀ n,(repl zero n).length=n * zero.length
 | 0=>by simp [repl]
 | n+1=>by simp [repl,zdh zero n,Nat.add_mul];omega
theorem zj7 (zero:List AV):∀ (n i:Nat),i < n * zero.length->(repl zero n)[i]?=zero[i % zero.length]?
 | 0,i,hi=>by omega
 | n+1,i,hi=>by
  simp only [repl]
  by_cases h1:i < zero.length
  ·rw [List.getElem?_append_left h1,Nat.mod_eq_of_lt h1]
  ·have hm:i % zero.length=(i - zero.length) % zero.length:=Nat.mod_eq_sub_mod (by omega)
   rw [Nat.add_mul,Nat.one_mul] at hi
   rw [List.getElem?_append_right (by omega),zj7 zero n _ (by omega),hm]
theorem Rel.newData {E:Env0} {h:Heap} {β:List Con} {S:Addr->Prop} {w:World} (r:Rel E h β S w) (e:TypeId) (cs:List AV) (vs:List Value) (size n:Nat) (hl:cs.length=vs.length) (hn:vs.length=n * size) (hm:n<=maxLen)
  (hv:∀ (i:Nat) (x:AV) (y:Value),cs[i]?=some x->vs[i]?=some y->RelD w S x y/\y.oneCell'=true) :
  ∃ S',Ext h β S w h β S' (w.alloc (.cells vs.toArray e))/\Rel E h β S' (w.alloc (.cells vs.toArray e)) /\
   RelD (w.alloc (.cells vs.toArray e)) S' (.sl (zb8 size n cs)) (.slice (some ⟨w.heap.size,0,none⟩) n n):=by
 let w':=w.alloc (.cells vs.toArray e)
 let S':Addr->Prop:=fun a=>S a\/a.block=w.heap.size
 have hb:BelowD w.heap.size w w':=(BelowD.refl _ _).alloc (Nat.le_refl _) _
 have hsz:w'.heap.size=w.heap.size+1:=by simp [w']
 have hx:Ext h β S w h β S' w':=Ext.grow r hb (fun a ha=>.inl ha) (fun a ha=>ha.imp id fun e=>by omega)
 have hr:Rel E h β S' w':=r.grow hb (fun a ha=>.inl ha) (fun a ha=>ha.imp id fun e=>by omega)
 have hnew:w'.heap[w.heap.size]?=some (.cells vs.toArray e (0,0)):=heap_alloc_new w _
 refine ⟨S',hx,hr,?_⟩
 have key:∀ i j c x,(zb8 size n cs)[i]?=some c->c[j]?=some x->j < size/\i * size+j < vs.length/\cs[i * size+j]?=some x:=by
  intro i j c x hi hj
  have hin:i < n:=by have:=(List.getElem?_eq_some_iff.1 hi).1;rwa [zbT] at this
  rw [zfh size n cs i hin] at hi
  cases hi
  rw [List.getElem?_take] at hj
  split at hj
  ·rename_i hjs
   rw [List.getElem?_drop] at hj
   exact ⟨hjs,by rw [← hl];exact (List.getElem?_eq_some_iff.1 hj).1,hj⟩
  ·cases hj
 have hq:=RelD.sl (w:=w') (S:=S') (zb8 size n cs) (some ⟨w.heap.size,0,none⟩) n w.heap.size 0 size (fun k=>(vs[k]?).getD undef) (fun _=>rfl) (by rw [zbT];exact Nat.le_refl _) hm
  (fun i c hi=>by
   have hin:i < n:=by have:=(List.getElem?_eq_some_iff.1 hi).1;rwa [zbT] at this
   rw [zfh size n cs i hin] at hi
   cases hi
   have:(i+1) * size<=n * size:=Nat.mul_le_mul_right _ hin
   rw [Nat.add_mul,Nat.one_mul] at this
   simp
   omega)
  (fun i j c x hi hj=>by
   obtain ⟨k1,k2,k3⟩:=key i j c x hi hj
   have hvj:vs[i * size+j]?=some (vs[i * size+j]'k2):=List.getElem?_eq_getElem k2
   refine ⟨.inr rfl,?_,?_⟩
   ·rw [Nat.zero_add,zgX hnew,hvj];rfl
   ·rw [hvj];exact (hv _ _ _ k3 hvj).2)
  (fun i j c x hi hj=>by
   obtain ⟨k1,k2,k3⟩:=key i j c x hi hj
   have hvj:vs[i * size+j]?=some (vs[i * size+j]'k2):=List.getElem?_eq_getElem k2
   rw [hvj]
   exact (hv _ _ _ k3 hvj).1.mono hx.S_le hx.S_cell)
 rw [zbT] at hq
 exact hq
theorem zi7 (ht:zan E) (r:Rel E h β S w) (rt:zam E.T h β w S ts tmps) (hd:zao tmps.size o.dst=true) {t:TypeId} {n:Nat} {parts:Array (Nat × Operand)} (hop:o.op=.buildSlice t n parts)
  (hs:zai (mk E) o ts h os=some out) (ho:zah out.o) (g:Goal E h β S w tmps out K):o.wp E.P ⟨tmps,[]⟩ w K Q:=by
 simp only [zai,zaf,hop,mk_T,mk_G] at hs
 have hpw:=zj6 r rt parts.toList
 cases hk:(E.T t).kind with
 | map _ _=>simp [hk] at hs
 | slice e =>
  simp only [hk] at hs
  split at hs
  ·rename_i cs hf hle
   have hle:=Nat.le_of_ble_eq_true hle
   simp only [Option.some.injEq] at hs
   subst hs
   obtain ⟨i,d,z,tok⟩:=ht.at_ (zal (by rw [hk];simp):E.T t≠_)
   obtain ⟨rfl,hes⟩:=tok.slice_ hk
   obtain ⟨i2,d2,z2,tok2⟩:=ht.at_ (zav hes)
   obtain ⟨z1,z3⟩:=zbS (T:=E.T) (h:=h) (β:=β) (w:=w) (S:=S) _ _ tok2.zok
   have hzl:=tok2.zlen
   have hzs:z2.cells.size=(E.T e).size:=by rw [← Array.length_toList,← z1,hzl]
   let zs:List Value:=(List.range (n * (E.T e).size)).map fun k=>z2.cells[k % z2.cells.size]!
   have hz:PW (RelC E.T h β w S) (repl (E.T e).zero n) zs:=by
    refine ⟨by simp [zs,zdh,hzl],fun k x y hx hy=>?_⟩
    have hkl:k < n * (E.T e).size:=by have:=(List.getElem?_eq_some_iff.1 hx).1;rwa [zdh,hzl] at this
    rw [zj7 _ n k (by rw [hzl];exact hkl),hzl] at hx
    have hkm:k % (E.T e).size < z2.cells.size:=by rw [hzs];exact Nat.mod_lt _ (by omega)
    simp [zs,hkl] at hy
    rw [hzs] at hy
    rw [getElem!_pos z2.cells _ hkm] at hy
    refine z3 _ x y hx ?_
    rw [Array.getElem?_toList,Array.getElem?_eq_getElem hkm,hy]
   obtain ⟨out',o1,o2,o3⟩:=zgA (R:=RelC E.T h β w S) rfl _ _ _ _ _ zs hpw hz hf
   have hcl:cs.length=n * (E.T e).size:=by rw [o3,zdh,hzl]
   obtain ⟨S1,⟨e1,r1⟩,d1⟩:=zdQ E cs h β S w out' r o2.1 (fun i x y h1 h2=>(o2.2 i x y h1 h2).1) (znC ho)
   have hmax:n<=maxLen:=by
    have:n * 1<=n * (E.T e).size:=Nat.mul_le_mul_left _ (by omega)
    unfold maxLen
    omega
   obtain ⟨S2,e2,r2,d2⟩:=r1.newData e (frzL h cs) out' (E.T e).size n (by rw [zby];exact o2.1) (by rw [← o2.1,hcl]) hmax (fun i x y h1 h2=>⟨d1 i x y h1 h2,zgj o2 y (List.mem_of_getElem? h2)⟩)
   refine zbg r rt hd g (x:=slOf n (zb8 (E.T e).size n (frzL h cs))) (y:=.slice (some ⟨w.heap.size,0,none⟩) n n) ?_ rfl r2 (e1.trans e2) (by cases n with|zero=>exact .nl _|succ n=>exact .d _ _ d2)
   have hgt:¬ (n * (E.T e).size > 2 ^ 24):=by omega
   by_cases h0:n * (E.T e).size=0
   ·have harr:(Array.range (n * (E.T e).size)).map (fun k=>(#[]:Array Value)[k % (#[]:Array Value).size]!)=zs.toArray:=by simp [zs,h0]
    simp only [execOp,hop,Instr.buildSlice,Sem.run_bind,run_underlying tok.und,Result.andThen_ok,tok2.sizeOf,if_neg hgt,Sem.run_ite,if_pos h0,harr,Array.toList_map,o1,Sem.run_pure,newRow,run_newObj]
    simp
   ·have harr:(Array.range (n * (E.T e).size)).map (fun k=>z2.cells[k % z2.cells.size]!)=zs.toArray:=by
     apply Array.ext'
     simp [zs,Array.toList_map,Array.toList_range]
    simp only [execOp,hop,Instr.buildSlice,Sem.run_bind,run_underlying tok.und,Result.andThen_ok,tok2.sizeOf,if_neg hgt,Sem.run_ite,if_neg h0,tok2.zeroValue,harr,Array.toList_map,o1,Sem.run_pure,newRow,run_newObj]
    simp
  ·cases hs
 | scalar=>simp [hk] at hs
 | int _=>simp [hk] at hs
 | str=>simp [hk] at hs
 | bool=>simp [hk] at hs
 | struct _=>simp [hk] at hs
 | array _ _=>simp [hk] at hs
end
end Go.AM
namespace Go.AM
open Go.RowKit
section
variable {E : Env0} {h : Heap} {β : List Con} {S : Addr -> Prop} {w : World} {tmps : Array Value} {ts : TS} {K : Act -> World -> Prop} {Q : Exit -> Act -> World -> Prop} {o : Oper} {os : List Orc} {out : Out}
theorem RelV.v_inv {T:TypeId->TI} {x y:Value} (hr:RelV T h β w S (.v x) y):y=x:=by
 cases hr with
 | d _ _ hd=>cases hd with|v _ _=>rfl
theorem RelV.bl_inv {T:TypeId->TI} {b:Bool} {y:Value} (hr:RelV T h β w S (.bl b) y):y=.bool b:=by
 cases hr with
 | d _ _ hd=>cases hd with|bl _=>rfl
theorem RelV.bool_inv {T:TypeId->TI} {x:AV} {b:Bool} {y:Value} (hr:RelV T h β w S x y) (hb:bool? x=some b):y=.bool b:=by
 unfold bool? at hb
 split at hb
 ·cases hb;exact hr.bl_inv
 ·cases hb;exact hr.v_inv
 ·cases hb
theorem zbb {T:TypeId->TI} (b:Bool):RelV T h β w S (.v (.bool b)) (.bool b):=.d _ _ (.v _ rfl)
theorem zaP {T:TypeId->TI} (k:IntKind) (n:Int):RelV T h β w S (.v (.int k n)) (.int k n):=.d _ _ (.v _ rfl)
theorem zj2 (ht:zan E) (r:Rel E h β S w) (rt:zam E.T h β w S ts tmps) (hd:zao tmps.size o.dst=true) {t:TypeId} {x:Operand} {f:Nat} (hop:o.op=.fieldAddr t x f)
  (hs:zai (mk E) o ts h os=some out) (ho:zah out.o) (g:Goal E h β S w tmps out K):o.wp E.P ⟨tmps,[]⟩ w K Q:=by
 have hx:=zap (ds:=[]) r rt x
 simp only [zai,zaf,hop,mk_T,mk_G] at hs
 cases hk:(E.T t).kind with
 | map _ _=>simp [hk] at hs
 | struct offs =>
  simp only [hk] at hs
  obtain ⟨i,d,z,tok⟩:=ht.at_ (zal (by rw [hk];simp):E.T t≠_)
  obtain ⟨fs,rfl,hfs⟩:=tok.struct_ hk
  obtain ⟨hl,hget⟩:=zdX _ _ hfs
  have run:∀ (gg a d:Nat),offs[f]?=some d->Act.eval ⟨tmps,[]⟩ x=.pointer (some ⟨gg,a,none⟩)->(execOp (Act.eval ⟨tmps,[]⟩) o).run E.P w=.ok (.value (.pointer (some ⟨gg,a+d,none⟩))) w:=by
   intro gg a d hd1 hev
   have hfl:=(List.getElem?_eq_some_iff.1 hd1).1
   have hf:fs.toList[f]?=some (fs.toList[f]'(by rw [← hl];exact hfl)):=List.getElem?_eq_getElem _
   obtain ⟨q1,q2,q3⟩:=hget f d _ hd1 hf
   have hfa:fs[f]?=some (fs.toList[f]'(by rw [← hl];exact hfl)):=by rw [← Array.getElem?_toList];exact hf
   simp only [execOp,hop,Instr.fieldAt,Sem.run_bind,run_underlying tok.und,Result.andThen_ok,hfa,hev,Instr.sureAddr,Sem.run_pure,fieldPlace,zgs q2,if_neg q3,Sem.run_ite,zaW,← q1]
  split at hs
  ·rename_i d b off hof he
   simp only [Option.some.injEq] at hs
   subst hs
   rw [he] at hx
   generalize hev:Act.eval ⟨tmps,[]⟩ x=y at hx
   cases hx with
   | d _ _ hd=>cases hd
   | p _ _ gg hb=>exact zak r rt hd g (run gg off d hof hev) (.p _ _ _ hb)
  ·rename_i d cs hof he
   simp only [Option.some.injEq] at hs
   subst hs
   rw [he] at hx
   generalize hev:Act.eval ⟨tmps,[]⟩ x=y at hx
   cases hx with
   | d _ _ hd1=>cases hd1 with
    | dp _ gg off fv f1 f2 =>
     refine zak r rt hd g (run gg off d hof hev) (.d _ _ (.dp _ gg (off+d) (fun j=>fv (d+j)) (fun j x hj=>?_) (fun j x hj=>?_)))
     ·rw [List.getElem?_drop] at hj
      rw [Nat.add_assoc]
      exact f1 _ x hj
     ·rw [List.getElem?_drop] at hj
      exact f2 _ x hj
  ·rename_i d b n i off hof he
   simp only [Option.some.injEq] at hs
   subst hs
   rw [he] at hx
   generalize hev:Act.eval ⟨tmps,[]⟩ x=y at hx
   cases hx with
   | d _ _ hd=>cases hd
   | ep _ _ _ _ gg e xs sh hb hn hy =>
    refine zak r rt hd g (run gg _ d hof hev) ?_
    rw [Nat.add_assoc]
    exact .ep _ _ _ _ gg e xs sh hb hn hy
  ·cases hs
 | scalar=>simp [hk] at hs
 | int _=>simp [hk] at hs
 | str=>simp [hk] at hs
 | bool=>simp [hk] at hs
 | slice _=>simp [hk] at hs
 | array _ _=>simp [hk] at hs
theorem zd9 {P:Program} {T:TypeId->TI} {t:TypeId} {i:TypeInfo} {d:TypeDesc} {z:Value} (tok:TOk P T t i d z) (w:World) (vs:List Value) (off:Nat) (hle:off+(T t).size<=vs.length) :
  (part t vs.toArray off).run P w=.ok (zcX (T t) ((vs.drop off).take (T t).size)) w:=by
 simp only [part,Sem.run_bind,tok.isAgg,Result.andThen_ok,Sem.run_ite,zcX]
 cases ha:(T t).isAgg with
 | true =>
  simp only [if_true,Sem.run_bind,tok.sizeOf,Result.andThen_ok,Sem.run_pure]
  congr 2
  simp [List.extract_eq_take_drop]
 | false =>
  have h1:=tok.size1 ha
  have hl:off < vs.length:=by omega
  have e1:vs.toArray[off]?=some vs[off]:=by rw [List.getElem?_toArray];exact List.getElem?_eq_getElem hl
  have e2:((vs.drop off).take (T t).size).headD undef=vs[off]:=by rw [h1,List.drop_eq_getElem_cons hl];rfl
  rw [e2]
  simp only [Bool.false_eq_true,if_false,e1,Sem.run_pure]
theorem znf (ht:zan E) (r:Rel E h β S w) (rt:zam E.T h β w S ts tmps) (hd:zao tmps.size o.dst=true) {t:TypeId} {x:Operand} {f:Nat} (hop:o.op=.field t x f)
  (hs:zai (mk E) o ts h os=some out) (ho:zah out.o) (g:Goal E h β S w tmps out K):o.wp E.P ⟨tmps,[]⟩ w K Q:=by
 have hx:=zap (ds:=[]) r rt x
 simp only [zai,zaf,hop,mk_T,mk_G,mk_P] at hs
 cases hk:(E.T t).kind with
 | map _ _=>simp [hk] at hs
 | struct offs =>
  simp only [hk] at hs
  cases he:ev E.G ts x with
  | agg cs =>
   simp only [he] at hs hx
   cases hof:offs[f]? with
   | none=>simp [hof] at hs
   | some d =>
    simp only [hof] at hs
    split at hs
    ·rename_i res hm hle
     have hle:=Nat.le_of_ble_eq_true hle
     simp only [Option.some.injEq] at hs
     subst hs
     obtain ⟨i,dd,z,tok⟩:=ht.at_ (zal (by rw [hk];simp):E.T t≠_)
     obtain ⟨fs,rfl,hfs⟩:=tok.struct_ hk
     obtain ⟨hl,hget⟩:=zdX _ _ hfs
     obtain ⟨vs,hev,hvl,hv1,hvr⟩:=hx.agg_inv
     simp only [zah,zkS,tok.und] at ho
     cases hff:fs[f]? with
     | none=>simp [hff] at ho
     | some fl =>
      simp only [hff,Option.map_some,Option.some.injEq] at ho
      obtain ⟨q1,_,_⟩:=hget f d fl hof (by rw [Array.getElem?_toList];exact hff)
      obtain ⟨i2,d2,z2,tok2⟩:=ht.at_ (zj1 hm)
      have hrun:=zd9 tok2 w vs d (by rw [← hvl];exact hle)
      refine zak r rt hd g (y:=zcX (E.T o.type) ((vs.drop d).take (E.T o.type).size)) ?_ (zgE hm (((PW.drop ⟨hvl,fun i a b ha hb=>⟨hvr i a b ha hb,hv1 b (List.mem_of_getElem? hb)⟩⟩ d)).take _))
      simp only [execOp,hop,Instr.field,Sem.run_bind,run_underlying tok.und,Result.andThen_ok,hff,hev,asAgg,Sem.run_pure,ho,← q1,hrun]
    ·cases hs
  | _=>simp [he] at hs
 | scalar=>simp [hk] at hs
 | int _=>simp [hk] at hs
 | str=>simp [hk] at hs
 | bool=>simp [hk] at hs
 | slice _=>simp [hk] at hs
 | array _ _=>simp [hk] at hs
theorem zj3 (ht:zan E) (r:Rel E h β S w) (rt:zam E.T h β w S ts tmps) (hd:zao tmps.size o.dst=true) {t:TypeId} {x ix:Operand} (hop:o.op=.indexAddr t x ix)
  (hs:zai (mk E) o ts h os=some out) (ho:zah out.o) (g:Goal E h β S w tmps out K):o.wp E.P ⟨tmps,[]⟩ w K Q:=by
 have hx:=zap (ds:=[]) r rt x
 have hix:=zap (ds:=[]) r rt ix
 simp only [zai,zaf,hop,mk_T,mk_G,mk_P] at hs
 split at hs
 ·rename_i el xs k i hk he hi
  rw [he] at hx
  rw [hi] at hix
  have hev2:=hix.v_inv
  obtain ⟨ti,dd,z,tok⟩:=ht.at_ (zal (by rw [hk];simp):E.T t≠_)
  obtain ⟨rfl,hes⟩:=tok.slice_ hk
  obtain ⟨ti2,dd2,z2,tok2⟩:=ht.at_ (zav hes)
  split at hs
  ·rename_i c os'
   simp only [Option.some.injEq] at hs
   subst hs
   simp only [zah] at ho
   obtain ⟨h0,hc,hcl⟩:=ho
   have hil:=(List.getElem?_eq_some_iff.1 hc).1
   generalize hev:Act.eval ⟨tmps,[]⟩ x=y at hx
   cases hx with
   | d _ _ hd1=>cases hd1 with
    | sl _ a cap gg off size f f1 f2 f3 f4 f5 f6 =>
     have ha:=f1 (by intro e;rw [e] at hil;simp at hil)
     have hsz:size=(E.T el).size:=by rw [← f4 _ c hc];exact hcl
     refine zak r rt hd g (y:=.pointer (some ⟨gg,off+i.toNat * (E.T el).size,none⟩)) ?_ (.d _ _ (.dp _ gg (off+i.toNat * (E.T el).size) (fun j=>f (i.toNat * (E.T el).size+j)) (fun j x hj=>?_) (fun j x hj=>?_)))
     ·have hlt:0<=i/\i < (xs.length:Int):=by omega
      simp only [execOp,hop,Instr.indexAt,hev2,asIntOf,Sem.run_bind,Sem.run_pure,Result.andThen_ok,run_underlying tok.und,hev,ha,hlt,and_self,if_true,Sem.run_ite,tok2.sizeOf,zaW]
     ·have:=f5 _ j c x hc hj
      rw [hsz] at this
      rw [Nat.add_assoc]
      exact this
     ·have:=f6 _ j c x hc hj
      rw [hsz] at this
      exact this
  ·cases hs
 ·rename_i el b n k i hk he hi
  rw [he] at hx
  rw [hi] at hix
  have hev2:=hix.v_inv
  obtain ⟨ti,dd,z,tok⟩:=ht.at_ (zal (by rw [hk];simp):E.T t≠_)
  obtain ⟨rfl,hes⟩:=tok.slice_ hk
  obtain ⟨ti2,dd2,z2,tok2⟩:=ht.at_ (zav hes)
  cases hb:h[b]? with
  | none=>simp [hb] at hs
  | some B =>
   cases B with
   | mp _=>simp [hb] at hs
   | box cs=>simp [hb] at hs
   | row e xs sh =>
    simp only [hb] at hs
    split at hs
    ·rename_i hee
     subst hee
     simp only [Option.some.injEq] at hs
     subst hs
     simp only [zah] at ho
     obtain ⟨hn,h0,hlt⟩:=ho
     generalize hev:Act.eval ⟨tmps,[]⟩ x=y at hx
     cases hx with
     | d _ _ hd=>cases hd
     | own _ _ _ e' xs' sh' hb' hn' hy h1 =>
      rw [hb] at hb'
      cases hb'
      have hcur:=hy hn
      obtain ⟨kk,k1,hrow⟩:=r.row b el xs sh hb
      rw [k1] at hcur
      cases kk with
      | mp _=>exact hrow.elim
      | box _=>exact hrow.elim
      | nil a =>
       have:xs=[]:=hrow
       rw [this] at hn
       simp at hn
       omega
      | row gg cap =>
       simp only [Option.bind_some,Con.cur,Option.some.injEq] at hcur
       subst hcur
       refine zak r rt hd g (y:=.pointer (some ⟨gg,i.toNat * (E.T el).size+0,none⟩)) ?_ (.ep _ _ _ _ gg el xs sh hb (by omega) (fun _=>⟨cap,k1⟩))
       have hlt2:0<=i/\i < (n:Int):=by omega
       simp only [execOp,hop,Instr.indexAt,hev2,asIntOf,Sem.run_bind,Sem.run_pure,Result.andThen_ok,run_underlying tok.und,hev,hlt2,and_self,if_true,Sem.run_ite,tok2.sizeOf,zaW,Nat.zero_add,Nat.add_zero]
    ·cases hs
 ·rename_i el b n lo hh k i hk he hi
  rw [he] at hx
  rw [hi] at hix
  have hev2:=hix.v_inv
  obtain ⟨ti,dd,z,tok⟩:=ht.at_ (zal (by rw [hk];simp):E.T t≠_)
  obtain ⟨rfl,hes⟩:=tok.slice_ hk
  obtain ⟨ti2,dd2,z2,tok2⟩:=ht.at_ (zav hes)
  cases hb:h[b]? with
  | none=>simp [hb] at hs
  | some B =>
   cases B with
   | mp _=>simp [hb] at hs
   | box cs=>simp [hb] at hs
   | row e xs sh =>
    simp only [hb] at hs
    split at hs
    ·rename_i hee
     subst hee
     simp only [Option.some.injEq] at hs
     subst hs
     simp only [zah] at ho
     obtain ⟨hn,h0,hlt⟩:=ho
     generalize hev:Act.eval ⟨tmps,[]⟩ x=y at hx
     cases hx with
     | d _ _ hd=>cases hd
     | os _ _ _ _ _ e' xs' sh' hb' hn' hl hhn _ hy =>
      rw [hb] at hb'
      cases hb'
      obtain ⟨kk0,k0,hat⟩:=hy hn
      obtain ⟨kk,k1,hrow⟩:=r.row b el xs sh hb
      rw [k0] at k1
      cases k1
      cases kk0 with
      | mp _=>exact hrow.elim
      | box _=>exact hrow.elim
      | nil a =>
       have:xs=[]:=hrow
       rw [this] at hn
       simp at hn
       omega
      | row gg cap =>
       obtain ⟨a,rfl,ha⟩:=hat
       obtain ⟨_,_,hcap,_⟩:=hrow
       have ha:=ha (by omega)
       refine zak r rt hd g (y:=.pointer (some ⟨gg,(i.toNat+lo) * (E.T el).size+0,none⟩)) ?_ (.ep _ _ _ _ gg el xs sh hb (by omega) (fun _=>⟨cap,k0⟩))
       have hlt2:0<=i/\i < ((hh - lo:Nat):Int):=by omega
       simp only [execOp,hop,Instr.indexAt,hev2,asIntOf,Sem.run_bind,Sem.run_pure,Result.andThen_ok,run_underlying tok.und,hev,ha,hlt2,and_self,if_true,Sem.run_ite,tok2.sizeOf,zaW,Nat.add_zero,Nat.add_mul,Nat.add_comm (i.toNat * (E.T el).size)]
    ·cases hs
 ·rename_i n el cs k i hk he hi
  rw [he] at hx
  rw [hi] at hix
  have hev2:=hix.v_inv
  obtain ⟨ti,dd,z,tok⟩:=ht.at_ (zal (by rw [hk];simp):E.T t≠_)
  obtain ⟨rfl,hes,hts⟩:=tok.array_ hk
  obtain ⟨ti2,dd2,z2,tok2⟩:=ht.at_ (zav hes)
  split at hs
  ·rename_i c os'
   simp only [Option.some.injEq] at hs
   subst hs
   simp only [zah] at ho
   obtain ⟨h0,hlt,hc,hcl⟩:=ho
   generalize hev:Act.eval ⟨tmps,[]⟩ x=y at hx
   cases hx with
   | d _ _ hd1=>cases hd1 with
    | dp _ gg off f f1 f2 =>
     have hget:∀ j x,c[j]?=some x->cs[i.toNat * (E.T el).size+j]?=some x:=by
      intro j x hj
      rw [← hc,List.getElem?_take] at hj
      split at hj
      ·rwa [List.getElem?_drop] at hj
      ·cases hj
     refine zak r rt hd g (y:=.pointer (some ⟨gg,off+i.toNat * (E.T el).size,none⟩)) ?_ (.d _ _ (.dp _ gg (off+i.toNat * (E.T el).size) (fun j=>f (i.toNat * (E.T el).size+j)) (fun j x hj=>?_) (fun j x hj=>?_)))
     ·have hlt2:0<=i/\i < (n:Int):=by omega
      simp only [execOp,hop,Instr.indexAt,hev2,asIntOf,Sem.run_bind,Sem.run_pure,Result.andThen_ok,run_underlying tok.und,hev,Instr.sureAddr,hlt2,and_self,if_true,Sem.run_ite,tok2.sizeOf,zaW]
     ·rw [Nat.add_assoc]
      exact f1 _ x (hget j x hj)
     ·exact f2 _ x (hget j x hj)
  ·cases hs
 ·rename_i n el b off k i hk he hi
  rw [he] at hx
  rw [hi] at hix
  have hev2:=hix.v_inv
  obtain ⟨ti,dd,z,tok⟩:=ht.at_ (zal (by rw [hk];simp):E.T t≠_)
  obtain ⟨rfl,hes,hts⟩:=tok.array_ hk
  obtain ⟨ti2,dd2,z2,tok2⟩:=ht.at_ (zav hes)
  simp only [Option.some.injEq] at hs
  subst hs
  simp only [zah] at ho
  obtain ⟨h0,hlt⟩:=ho
  generalize hev:Act.eval ⟨tmps,[]⟩ x=y at hx
  cases hx with
  | d _ _ hd1=>cases hd1
  | p _ _ gg hb =>
   refine zak r rt hd g (y:=.pointer (some ⟨gg,off+i.toNat * (E.T el).size,none⟩)) ?_ (.p b _ gg hb)
   have hlt2:0<=i/\i < (n:Int):=by omega
   simp only [execOp,hop,Instr.indexAt,hev2,asIntOf,Sem.run_bind,Sem.run_pure,Result.andThen_ok,run_underlying tok.und,hev,Instr.sureAddr,hlt2,and_self,if_true,Sem.run_ite,tok2.sizeOf,zaW]
 ·cases hs
theorem zng (ht:zan E) (r:Rel E h β S w) (rt:zam E.T h β w S ts tmps) (hd:zao tmps.size o.dst=true) {t:TypeId} {x ix:Operand} (hop:o.op=.index t x ix)
  (hs:zai (mk E) o ts h os=some out) (ho:zah out.o) (g:Goal E h β S w tmps out K):o.wp E.P ⟨tmps,[]⟩ w K Q:=by
 have hx:=zap (ds:=[]) r rt x
 have hix:=zap (ds:=[]) r rt ix
 simp only [zai,zaf,hop,mk_T,mk_G,mk_P] at hs
 split at hs
 ·rename_i n el cs k i hk he hi
  rw [he] at hx
  rw [hi] at hix
  have hev2:=hix.v_inv
  obtain ⟨ti,dd,z,tok⟩:=ht.at_ (zal (by rw [hk];simp):E.T t≠_)
  obtain ⟨rfl,hes,hts⟩:=tok.array_ hk
  obtain ⟨ti2,dd2,z2,tok2⟩:=ht.at_ (zav hes)
  split at hs
  ·rename_i c os'
   split at hs
   ·rename_i res hm
    simp only [Option.some.injEq] at hs
    subst hs
    simp only [zah] at ho
    obtain ⟨h0,hlt,hc,hcl⟩:=ho
    obtain ⟨vs,hev,hvl,hv1,hvr⟩:=hx.agg_inv
    have hle:i.toNat * (E.T el).size+(E.T el).size<=vs.length:=by
     rw [← hvl]
     have:c.length<=cs.length - i.toNat * (E.T el).size:=by rw [← hc];simp;omega
     omega
    have hrun:=zd9 tok2 w vs (i.toNat * (E.T el).size) hle
    have hpw:PW (RelC E.T h β w S) c ((vs.drop (i.toNat * (E.T el).size)).take (E.T el).size):=by
     rw [← hc]
     exact ((PW.drop ⟨hvl,fun i a b ha hb=>⟨hvr i a b ha hb,hv1 b (List.mem_of_getElem? hb)⟩⟩ _)).take _
    refine zak r rt hd g (y:=zcX (E.T el) ((vs.drop (i.toNat * (E.T el).size)).take (E.T el).size)) ?_ (zgE hm hpw)
    have hlt2:0<=i/\i < (n:Int):=by omega
    simp only [execOp,hop,Instr.index,hev2,asIntOf,Sem.run_bind,Sem.run_pure,Result.andThen_ok,run_underlying tok.und,hev,hlt2,and_self,if_true,Sem.run_ite,tok2.sizeOf,hrun]
   ·cases hs
  ·cases hs
 ·rename_i s k i hk he hi
  rw [he] at hx
  rw [hi] at hix
  have hev:=hx.v_inv
  have hev2:=hix.v_inv
  obtain ⟨ti,dd,z,tok⟩:=ht.at_ (zal (by rw [hk];simp):E.T t≠_)
  have:=tok.str_ hk
  subst this
  split at hs
  ·rename_i n os'
   simp only [Option.some.injEq] at hs
   subst hs
   simp only [zah] at ho
   obtain ⟨h0,hb⟩:=ho
   refine zak r rt hd g (y:=.int .u8 n) ?_ (zaP _ _)
   cases hq:s[i.toNat]? with
   | none=>simp [hq] at hb
   | some b =>
    simp only [hq,Option.map_some,Option.some.injEq] at hb
    simp only [execOp,hop,Instr.index,hev2,asIntOf,Sem.run_bind,Sem.run_pure,Result.andThen_ok,run_underlying tok.und,hev,h0,if_true,hq,hb]
  ·cases hs
 ·cases hs
end
end Go.AM
namespace Go.AM
open Go.RowKit
section
variable {E : Env0} {h : Heap} {β : List Con} {S : Addr -> Prop} {w : World} {tmps : Array Value} {ts : TS} {K : Act -> World -> Prop} {Q : Exit -> Act -> World -> Prop} {o : Oper} {os : List Orc} {out : Out}
theorem zkZ (ht:zan E) (r:Rel E h β S w) (rt:zam E.T h β w S ts tmps) (hd:zao tmps.size o.dst=true) {x:Operand} (hop:o.op=.move x\/o.op=.assign x)
  (hs:zai (mk E) o ts h os=some out) (ho:zah out.o) (g:Goal E h β S w tmps out K):o.wp E.P ⟨tmps,[]⟩ w K Q:=by
 have hx:=zap (ds:=[]) r rt x
 rcases hop with hop|hop <;>
 ·simp only [zai,zaf,hop,mk_T,mk_G,Option.some.injEq] at hs
  subst hs
  exact zak r rt hd g (by simp only [execOp,hop,Sem.run_pure]) hx
theorem znN (ht:zan E) (r:Rel E h β S w) (rt:zam E.T h β w S ts tmps) (hd:zao tmps.size o.dst=true) {c a b:Operand} (hop:o.op=.pick c a b)
  (hs:zai (mk E) o ts h os=some out) (ho:zah out.o) (g:Goal E h β S w tmps out K):o.wp E.P ⟨tmps,[]⟩ w K Q:=by
 have hc:=zap (ds:=[]) r rt c
 have ha:=zap (ds:=[]) r rt a
 have hb:=zap (ds:=[]) r rt b
 have run:∀ t,Act.eval ⟨tmps,[]⟩ c=.bool t->(execOp (Act.eval ⟨tmps,[]⟩) o).run E.P w=.ok (.value (if t then Act.eval ⟨tmps,[]⟩ a else Act.eval ⟨tmps,[]⟩ b)) w:=by
  intro t he
  simp only [execOp,hop,he,asBool,Sem.run_bind,Sem.run_pure,Result.andThen_ok]
 simp only [zai,zaf,hop,mk_T,mk_G] at hs
 split at hs
 ·rename_i t he
  simp only [Option.some.injEq] at hs
  subst hs
  rw [he] at hc
  refine zak r rt hd g (run t hc.bl_inv) ?_
  cases t
  ·exact hb
  ·exact ha
 ·rename_i t he
  rw [he] at hc
  split at hs
  ·rename_i x y hx hy
   simp only [Option.some.injEq] at hs
   subst hs
   refine zak r rt hd g (run t hc.v_inv) ?_
   rw [ha.bool_inv hx,hb.bool_inv hy]
   cases t <;> exact zbb _
  ·split at hs
   ·rename_i d os'
    simp only [Option.some.injEq] at hs
    subst hs
    simp only [zah] at ho
    subst ho
    refine zak r rt hd g (run t hc.v_inv) ?_
    cases t
    ·exact hb
    ·exact ha
   ·cases hs
 ·cases hs
theorem zkF (ht:zan E) (r:Rel E h β S w) (rt:zam E.T h β w S ts tmps) (hd:zao tmps.size o.dst=true) {x:Operand} (hop:o.op=.nilCheck x)
  (hs:zai (mk E) o ts h os=some out) (ho:zah out.o) (g:Goal E h β S w tmps out K):o.wp E.P ⟨tmps,[]⟩ w K Q:=by
 have hx:=zap (ds:=[]) r rt x
 simp only [zai,zaf,hop,mk_T,mk_G] at hs
 split at hs
 ·rename_i b off he
  simp only [Option.some.injEq] at hs
  subst hs
  rw [he] at hx
  generalize hev:Act.eval ⟨tmps,[]⟩ x=y at hx
  refine zak r rt hd g (y:=y) ?_ hx
  cases hx with
  | d _ _ hd=>cases hd
  | p=>simp only [execOp,hop,hev,Sem.run_pure]
 ·rename_i cs he
  simp only [Option.some.injEq] at hs
  subst hs
  rw [he] at hx
  generalize hev:Act.eval ⟨tmps,[]⟩ x=y at hx
  refine zak r rt hd g (y:=y) ?_ hx
  cases hx with
  | d _ _ hd=>cases hd with|dp=>simp only [execOp,hop,hev,Sem.run_pure]
 ·rename_i b n i off he
  simp only [Option.some.injEq] at hs
  subst hs
  rw [he] at hx
  generalize hev:Act.eval ⟨tmps,[]⟩ x=y at hx
  refine zak r rt hd g (y:=y) ?_ hx
  cases hx with
  | d _ _ hd=>cases hd
  | ep=>simp only [execOp,hop,hev,Sem.run_pure]
 ·rename_i f caps he
  simp only [Option.some.injEq] at hs
  subst hs
  rw [he] at hx
  generalize hev:Act.eval ⟨tmps,[]⟩ x=y at hx
  refine zak r rt hd g (y:=y) ?_ hx
  cases hx with
  | d _ _ hd=>cases hd
  | fn=>simp only [execOp,hop,hev,Sem.run_pure]
 ·cases hs
theorem zlP (ht:zan E) (r:Rel E h β S w) (rt:zam E.T h β w S ts tmps) (hd:zao tmps.size o.dst=true) {x:Operand} {i:Nat} (hop:o.op=.extract x i)
  (hs:zai (mk E) o ts h os=some out) (ho:zah out.o) (g:Goal E h β S w tmps out K):o.wp E.P ⟨tmps,[]⟩ w K Q:=by
 have hx:=zap (ds:=[]) r rt x
 simp only [zai,zaf,hop,mk_T,mk_G] at hs
 split at hs
 ·rename_i vs he
  rw [he] at hx
  split at hs
  ·rename_i res hi
   simp only [Option.some.injEq] at hs
   subst hs
   obtain ⟨ys,hev,hl,hv⟩:=hx.tup_inv
   have hil:=(List.getElem?_eq_some_iff.1 hi).1
   have hy:ys[i]?=some (ys[i]'(by rw [← hl];exact hil)):=List.getElem?_eq_getElem _
   refine zak r rt hd g ?_ (hv i _ _ hi hy)
   have:ys.toArray[i]?=some (ys[i]'(by rw [← hl];exact hil)):=by rw [List.getElem?_toArray];exact hy
   simp only [execOp,hop,hev,Instr.extract,this,Sem.run_bind,Sem.run_pure,Result.andThen_ok]
  ·cases hs
 ·cases hs
theorem zkE (ht:zan E) (r:Rel E h β S w) (rt:zam E.T h β w S ts tmps) (hd:zao tmps.size o.dst=true) {f:FuncId} {first caps:Array Operand} (hop:o.op=.makeFunc (.func f) first caps)
  (hs:zai (mk E) o ts h os=some out) (ho:zah out.o) (g:Goal E h β S w tmps out K):o.wp E.P ⟨tmps,[]⟩ w K Q:=by
 simp only [zai,zaf,hop,mk_T,mk_G] at hs
 split at hs
 ·rename_i hf
  simp only [Option.some.injEq] at hs
  subst hs
  have hfe:first=#[]:=by apply Array.ext';exact hf
  refine zak r rt hd g (y:=.func (.func f) #[] (caps.toList.map (Act.eval ⟨tmps,[]⟩)).toArray) ?_ (.fn f _ _ (by simp) (fun i x y hx hy=>?_))
  ·simp only [execOp,hop,Instr.makeFunc,Sem.run_bind,Sem.run_pure,Result.andThen_ok,hfe,Array.map_empty]
   congr 3
   apply Array.ext'
   simp
  ·simp only [List.getElem?_map,Option.map_eq_some_iff] at hx hy
   obtain ⟨p,h1,rfl⟩:=hx
   obtain ⟨q,h2,rfl⟩:=hy
   rw [h1] at h2
   cases h2
   exact zap r rt _
 ·cases hs
theorem zhi:∀ {xs:List (List AV)} {ns:List Int},zeR xs=some ns->xs=ns.map fun n=>[.v (.int .u8 n)]
 | [],ns,h=>by simp only [zeR,Option.some.injEq] at h;subst h;rfl
 | x::r,ns,h=>by
  unfold zeR at h
  split at h
  ·simp_all
  ·rename_i n r' he
   injection he with he1 he2
   subst he1 he2
   split at h
   ·rename_i ns' hr
    simp only [Option.some.injEq] at h
    subst h
    rw [zhi hr];rfl
   ·cases h
  ·cases h
theorem zgW (w:World) (e:TypeId) (s:ByteArray):BelowD w.heap.size w (Lib.bytesWorld w e s) :=
 ⟨⟨by simp [Lib.bytesWorld,World.freeze,World.alloc,World.drew,-World.alloc_eq,-World.drew_eq],by simp [Lib.bytesWorld,World.freeze,World.alloc,World.drew,-World.alloc_eq,-World.drew_eq],by simp [Lib.bytesWorld,World.freeze,World.alloc,World.drew,-World.alloc_eq,-World.drew_eq],
  by rw [Lib.bytesWorld_size];omega,fun k hk=>Lib.bytesWorld_at_old w e s k hk⟩,by simp [Lib.bytesWorld,World.freeze,World.alloc,World.drew,-World.alloc_eq,-World.drew_eq]⟩
theorem Rel.newBytes {E:Env0} {h:Heap} {β:List Con} {S:Addr->Prop} {w:World} (r:Rel E h β S w) (e:TypeId) (s:ByteArray) (hs:s.size<=1000000000000) :
  ∃ S',Ext h β S w h β S' (Lib.bytesWorld w e s)/\Rel E h β S' (Lib.bytesWorld w e s)/\RelD (Lib.bytesWorld w e s) S' (.sl (zdm s)) (.slice (some ⟨w.heap.size,0,none⟩) s.size (grownCap w s.size 0 e)):=by
 let S':Addr->Prop:=fun a=>S a\/a.block=w.heap.size
 have hb:=zgW w e s
 have hsz:=Lib.bytesWorld_size w e s
 have hx:Ext h β S w h β S' (Lib.bytesWorld w e s):=Ext.grow r hb (fun a ha=>.inl ha) (fun a ha=>ha.imp id fun e=>by omega)
 have hr:Rel E h β S' (Lib.bytesWorld w e s):=r.grow hb (fun a ha=>.inl ha) (fun a ha=>ha.imp id fun e=>by omega)
 refine ⟨S',hx,hr,?_⟩
 have hlen:(zdm s).length=s.size:=by unfold zdm;rw [List.length_map,Array.length_toList];rfl
 have key:∀ i j c x,(zdm s)[i]?=some c->c[j]?=some x->j=0/\i < s.size/\x=.v (.int .u8 (s.data.toList.getD i 0).toNat):=by
  intro i j c x hi hj
  have hlt:i < s.size:=by rw [← hlen];exact (List.getElem?_eq_some_iff.1 hi).1
  have hlt2:i < s.data.toList.length:=by rw [Array.length_toList];exact hlt
  simp only [zdm,List.getElem?_map,List.getElem?_eq_getElem hlt2,Option.map_some,Option.some.injEq] at hi
  subst hi
  cases j with
  | succ j=>simp [u8c] at hj
  | zero =>
   simp only [u8c,List.getElem?_cons_zero,Option.some.injEq] at hj
   refine ⟨rfl,hlt,hj.symm.trans ?_⟩
   rw [List.getD_eq_getElem?_getD,List.getElem?_eq_getElem hlt2];rfl
 have hge:=grownCap_ge w s.size 0 e
 have hle:=grownCap_le_maxLen w s.size 0 e (by unfold maxLen;omega)
 have hq:=RelD.sl (w:=Lib.bytesWorld w e s) (S:=S') (zdm s) (some ⟨w.heap.size,0,none⟩) (grownCap w s.size 0 e) w.heap.size 0 1 (fun k=>.int .u8 (s.data.toList.getD k 0).toNat) (fun _=>rfl) (by rw [hlen];exact hge) hle
  (fun i c hi=>by
   simp only [zdm,List.getElem?_map,Option.map_eq_some_iff] at hi
   obtain ⟨b,_,rfl⟩:=hi
   rfl)
  (fun i j c x hi hj=>by
   obtain ⟨rfl,k2,_⟩:=key i j c x hi hj
   refine ⟨.inr rfl,?_,rfl⟩
   have:=Lib.bytesWorld_cell w e s i k2
   simpa using this)
  (fun i j c x hi hj=>by
   obtain ⟨rfl,k2,rfl⟩:=key i j c x hi hj
   simp only [Nat.mul_one,Nat.add_zero]
   exact .v _ rfl)
 rw [hlen] at hq
 exact hq
theorem zlO (ht:zan E) (r:Rel E h β S w) (rt:zam E.T h β w S ts tmps) (hd:zao tmps.size o.dst=true) {s t:TypeId} {x:Operand} (hop:o.op=.convert s t x)
  (hs:zai (mk E) o ts h os=some out) (ho:zah out.o) (g:Goal E h β S w tmps out K):o.wp E.P ⟨tmps,[]⟩ w K Q:=by
 have hx:=zap (ds:=[]) r rt x
 simp only [zai,zaf,hop,mk_T,mk_G] at hs
 split at hs
 ·rename_i k k' a hk he hle
  have hle:=Nat.le_of_ble_eq_true hle
  split at hs
  ·simp only [Option.some.injEq] at hs
   subst hs
   simp only [zah] at ho
   rw [he] at hx
   obtain ⟨ti,dd,z,tok⟩:=ht.at_ (zal (by rw [hk];simp):E.T t≠_)
   have:=tok.int_ hk
   subst this
   obtain ⟨ti2,dd2,z2,tok2⟩:=ht.at_ (zav (by omega):E.T s≠_)
   refine zak r rt hd g ?_ (zaP _ _)
   simp only [execOp,hop,convert,Sem.run_bind,run_underlying tok2.und,run_underlying tok.und,Result.andThen_ok,hx.v_inv,Conv.intToInt,Sem.run_pure,ho]
  ·cases hs
 ·rename_i xs hk he hle
  split at hs
  ·rename_i el hks
   split at hs
   ·rename_i ns hke hns
    simp only [Option.some.injEq] at hs
    subst hs
    rw [he] at hx
    obtain ⟨ti,dd,z,tok⟩:=ht.at_ (zal (by rw [hk];simp):E.T t≠_)
    have h1:=tok.str_ hk
    subst h1
    obtain ⟨ti2,dd2,z2,tok2⟩:=ht.at_ (zal (by rw [hks];simp):E.T s≠_)
    obtain ⟨h2,_⟩:=tok2.slice_ hks
    subst h2
    obtain ⟨ti3,dd3,z3,tok3⟩:=ht.at_ (zal (by rw [hke];simp):E.T el≠_)
    have h3:=tok3.int_ hke
    subst h3
    have hxs:=zhi hns
    generalize hev:Act.eval ⟨tmps,[]⟩ x=y at hx
    cases hx with
    | d _ _ hdd=>cases hdd with
     | sl _ a cap gg oo size f ha _ _ hs1 hs2 hs3 =>
      refine zak r rt hd g (y:=.string (zfD ns)) ?_ (.d _ _ (.v _ rfl))
      suffices hc:(convert s t (.slice a xs.length cap)).run E.P w=.ok (.string (zfD ns)) w by
       simp only [execOp,hop,hev,Sem.run_bind,hc,Result.andThen_ok,Sem.run_pure]
      rw [run_convert_bytes_string w s t el a _ cap tok2.und tok3.und tok.und]
      cases a with
      | none =>
       have hnil:xs=[]:=Classical.byContradiction fun hne=>by cases ha hne
       subst hnil
       cases ns with
       | nil=>rfl
       | cons n r=>simp at hxs
      | some a =>
       refine run_bytesToString w a xs.length cap ns ?_
       have hl:xs.length=(ns.map (Value.int .u8)).length:=by rw [hxs];simp
       rw [hl]
       refine run_loadCells_list w a _ fun j v hj=>?_
       have hne:xs≠[]:=by
        rintro rfl
        cases ns with
        | nil=>simp at hj
        | cons n r=>simp at hxs
       cases ha hne
       rw [List.getElem?_map] at hj
       cases hn:ns[j]? with
       | none=>rw [hn] at hj;simp at hj
       | some n =>
        rw [hn] at hj
        simp only [Option.map_some,Option.some.injEq] at hj
        have hx1:xs[j]?=some [.v (.int .u8 n)]:=by rw [hxs,List.getElem?_map,hn];rfl
        have hsz:=hs1 j _ hx1
        simp only [List.length_cons,List.length_nil] at hsz
        obtain ⟨_,q2,_⟩:=hs2 j 0 _ _ hx1 rfl
        have q3:=hs3 j 0 _ _ hx1 rfl
        rw [← hsz] at q2 q3
        simp only [Nat.zero_add,Nat.mul_one,Nat.add_zero] at q2 q3
        have q4:∀ y,RelD w S (.v (.int .u8 n)) y->y=.int .u8 n:=fun y h=>by cases h;rfl
        rw [zaW,q2,q4 _ q3,hj]
   ·cases hs
  ·cases hs
 ·rename_i el y hk he hle
  split at hs
  ·rename_i hke
   simp only [Option.some.injEq] at hs
   subst hs
   simp only [zah] at ho
   have hle:=Nat.le_of_ble_eq_true hle
   rw [he] at hx
   obtain ⟨ti,dd,z,tok⟩:=ht.at_ (zal (by rw [hk];simp):E.T t≠_)
   obtain ⟨h2,_⟩:=tok.slice_ hk
   subst h2
   obtain ⟨ti2,dd2,z2,tok2⟩:=ht.at_ (zav (by omega):E.T s≠_)
   obtain ⟨ti3,dd3,z3,tok3⟩:=ht.at_ (zal (by rw [hke];simp):E.T el≠_)
   have h3:=tok3.int_ hke
   subst h3
   obtain ⟨S2,e2,r2,d2⟩:=r.newBytes el y ho
   refine zbg r rt hd g (y:=.slice (some ⟨w.heap.size,0,none⟩) y.size (grownCap w y.size 0 el)) ?_ rfl r2 e2 (.d _ _ d2)
   simp only [execOp,hop,hx.v_inv,Sem.run_bind,Lib.run_convert_string_bytes w s t el y tok2.und tok.und tok3.und,Result.andThen_ok,Sem.run_pure]
  ·cases hs
 ·cases hs
theorem znO (ht:zan E) (r:Rel E h β S w) (rt:zam E.T h β w S ts tmps) (hd:zao tmps.size o.dst=true) {u:UnOp} {t:TypeId} {x:Operand} (hop:o.op=.unOp u t x)
  (hs:zai (mk E) o ts h os=some out) (ho:zah out.o) (g:Goal E h β S w tmps out K):o.wp E.P ⟨tmps,[]⟩ w K Q:=by
 have hx:=zap (ds:=[]) r rt x
 cases u with
 | not =>
  simp only [zai,zaf,hop,mk_T,mk_G] at hs
  split at hs
  ·rename_i b he
   simp only [Option.some.injEq] at hs
   subst hs
   rw [he] at hx
   exact zak r rt hd g (y:=.bool (!b)) (by simp only [execOp,hop,hx.bl_inv,Op.unary,Sem.run_bind,Sem.run_pure,Result.andThen_ok]) (.d _ _ (.bl _))
  ·rename_i b he
   simp only [Option.some.injEq] at hs
   subst hs
   rw [he] at hx
   exact zak r rt hd g (y:=.bool (!b)) (by simp only [execOp,hop,hx.v_inv,Op.unary,Sem.run_bind,Sem.run_pure,Result.andThen_ok]) (zbb _)
  ·cases hs
 | neg =>
  simp only [zai,zaf,hop,mk_T,mk_G] at hs
  split at hs
  ·rename_i k a n os' he
   simp only [Option.some.injEq] at hs
   subst hs
   simp only [zah] at ho
   rw [he] at hx
   have hw:k.wrap (0 - a)=n:=by rw [Int.zero_sub];exact ho
   exact zak r rt hd g (y:=.int k n) (by simp only [execOp,hop,hx.v_inv,Op.unary,Op.intArith,Sem.run_bind,Sem.run_pure,Result.andThen_ok,hw]) (zaP _ _)
  ·cases hs
 | xor =>
  simp only [zai,zaf,hop,mk_T,mk_G] at hs
  split at hs
  ·rename_i k a n os' he
   simp only [Option.some.injEq] at hs
   subst hs
   simp only [zah] at ho
   rw [he] at hx
   exact zak r rt hd g (y:=.int k n) (by simp only [execOp,hop,hx.v_inv,Op.unary,Op.intBits,Sem.run_bind,Sem.run_pure,Result.andThen_ok,ho]) (zaP _ _)
  ·cases hs
 | _=>simp [zai,zaf,hop] at hs
theorem op_max (ht:zan E) (r:Rel E h β S w) (rt:zam E.T h β w S ts tmps) (hd:zao tmps.size o.dst=true) {args:Array Operand} {tys:Array TypeId} (hop:o.op=.call { callee:=.builtin .max,args:=args,argTypes:=tys })
  (hs:zai (mk E) o ts h os=some out) (ho:zah out.o) (g:Goal E h β S w tmps out K):o.wp E.P ⟨tmps,[]⟩ w K Q:=by
 simp only [zai,zaf,hop,mk_T,mk_G] at hs
 split at hs
 ·rename_i x y hax
  have hae:args=#[x,y]:=by apply Array.ext';exact hax
  subst hae
  have hx:=zap (ds:=[]) r rt x
  have hy:=zap (ds:=[]) r rt y
  split at hs
  ·rename_i k a k' b n os' hex hey
   simp only [Option.some.injEq] at hs
   subst hs
   simp only [zah] at ho
   rw [hex] at hx
   rw [hey] at hy
   refine zak r rt hd g (y:=.int k n) ?_ (zaP _ _)
   simp [execOp,hop,resolve,invoke,builtin,Builtin.max_,Builtin.max2,hx.v_inv,hy.v_inv,ho]
  ·cases hs
 ·cases hs
theorem op_min (ht:zan E) (r:Rel E h β S w) (rt:zam E.T h β w S ts tmps) (hd:zao tmps.size o.dst=true) {args:Array Operand} {tys:Array TypeId} (hop:o.op=.call { callee:=.builtin .min,args:=args,argTypes:=tys })
  (hs:zai (mk E) o ts h os=some out) (ho:zah out.o) (g:Goal E h β S w tmps out K):o.wp E.P ⟨tmps,[]⟩ w K Q:=by
 simp only [zai,zaf,hop,mk_T,mk_G] at hs
 split at hs
 ·rename_i x y hax
  have hae:args=#[x,y]:=by apply Array.ext';exact hax
  subst hae
  have hx:=zap (ds:=[]) r rt x
  have hy:=zap (ds:=[]) r rt y
  split at hs
  ·rename_i k a k' b n os' hex hey
   simp only [Option.some.injEq] at hs
   subst hs
   simp only [zah] at ho
   rw [hex] at hx
   rw [hey] at hy
   refine zak r rt hd g (y:=.int k n) ?_ (zaP _ _)
   simp [execOp,hop,resolve,invoke,builtin,Builtin.min_,Builtin.min2,hx.v_inv,hy.v_inv,ho]
  ·cases hs
 ·cases hs
theorem op_len (ht:zan E) (r:Rel E h β S w) (rt:zam E.T h β w S ts tmps) (hd:zao tmps.size o.dst=true) {args:Array Operand} {tys:Array TypeId} (hop:o.op=.call { callee:=.builtin .len,args:=args,argTypes:=tys })
  (hs:zai (mk E) o ts h os=some out) (ho:zah out.o) (g:Goal E h β S w tmps out K):o.wp E.P ⟨tmps,[]⟩ w K Q:=by
 simp only [zai,zaf,hop,mk_T,mk_G] at hs
 split at hs
 ·rename_i x t hax hat
  have hae:args=#[x]:=by apply Array.ext';exact hax
  have hte:tys=#[t]:=by apply Array.ext';exact hat
  subst hae
  subst hte
  have hx:=zap (ds:=[]) r rt x
  split at hs
  ·rename_i xs hk he
   simp only [Option.some.injEq] at hs
   subst hs
   rw [he] at hx
   obtain ⟨ti,dd,z,tok⟩:=ht.at_ (zal (by rw [hk];simp):E.T t≠_)
   obtain ⟨rfl,_⟩:=tok.slice_ hk
   generalize hev:Act.eval ⟨tmps,[]⟩ x=y at hx
   cases hx with
   | d _ _ hd1=>cases hd1 with
    | sl _ a cap gg off size f _ _ _ _ _ _ =>
     refine zak r rt hd g (y:=.int .i64 xs.length) ?_ (zaP _ _)
     simp [execOp,hop,resolve,invoke,builtin,Builtin.len_,run_underlying tok.und,hev,goInt]
  ·rename_i hk he
   simp only [Option.some.injEq] at hs
   subst hs
   rw [he] at hx
   obtain ⟨ti,dd,z,tok⟩:=ht.at_ (zal (by rw [hk];simp):E.T t≠_)
   obtain ⟨rfl,_⟩:=tok.slice_ hk
   generalize hev:Act.eval ⟨tmps,[]⟩ x=y at hx
   cases hx with
   | d _ _ hd=>cases hd
   | nl a =>
    refine zak r rt hd g (y:=.int .i64 0) ?_ (zaP _ _)
    simp [execOp,hop,resolve,invoke,builtin,Builtin.len_,run_underlying tok.und,hev,goInt]
  ·rename_i b n hk he
   rw [he] at hx
   obtain ⟨ti,dd,z,tok⟩:=ht.at_ (zal (by rw [hk];simp):E.T t≠_)
   obtain ⟨rfl,_⟩:=tok.slice_ hk
   cases hb:h[b]? with
   | none=>simp [hb] at hs
   | some B =>
    cases B with
    | mp _=>simp [hb] at hs
    | box cs=>simp [hb] at hs
    | row e xs sh =>
     simp only [hb,Option.some.injEq] at hs
     subst hs
     simp only [zah] at ho
     generalize hev:Act.eval ⟨tmps,[]⟩ x=y at hx
     cases hx with
     | d _ _ hd=>cases hd
     | own _ _ _ e' xs' sh' hb' hn' hy h1 =>
      rw [hb] at hb'
      cases hb'
      have hcur:=hy ho
      obtain ⟨kk,k1,hrow⟩:=r.row b e xs sh hb
      rw [k1] at hcur
      refine zak r rt hd g (y:=.int .i64 n) ?_ (zaP _ _)
      cases kk with
      | mp _=>exact hrow.elim
      | box _=>exact hrow.elim
      | nil a =>
       have hx0:xs=[]:=hrow
       rw [hx0] at ho
       simp only [List.length_nil] at ho
       subst ho
       simp only [Option.bind_some,Con.cur,Option.some.injEq] at hcur
       subst hcur
       simp [execOp,hop,resolve,invoke,builtin,Builtin.len_,run_underlying tok.und,hev,goInt]
      | row gg cap =>
       simp only [Option.bind_some,Con.cur,Option.some.injEq] at hcur
       subst hcur
       simp [execOp,hop,resolve,invoke,builtin,Builtin.len_,run_underlying tok.und,hev,goInt]
  ·rename_i b n lo hh hk he
   rw [he] at hx
   obtain ⟨ti,dd,z,tok⟩:=ht.at_ (zal (by rw [hk];simp):E.T t≠_)
   obtain ⟨rfl,_⟩:=tok.slice_ hk
   cases hb:h[b]? with
   | none=>simp [hb] at hs
   | some B =>
    cases B with
    | mp _=>simp [hb] at hs
    | box cs=>simp [hb] at hs
    | row e xs sh =>
     simp only [hb,Option.some.injEq] at hs
     subst hs
     simp only [zah] at ho
     generalize hev:Act.eval ⟨tmps,[]⟩ x=y at hx
     cases hx with
     | d _ _ hd=>cases hd
     | os _ _ _ _ _ e' xs' sh' hb' hn' hl hhn _ hy =>
      rw [hb] at hb'
      cases hb'
      obtain ⟨kk0,k0,hat⟩:=hy ho
      refine zak r rt hd g (y:=.int .i64 (hh - lo:Nat)) ?_ (zaP _ _)
      cases kk0 with
      | mp _=>exact hat.elim
      | box _=>exact hat.elim
      | nil a =>
       obtain ⟨h1,a',rfl⟩:=hat
       subst h1
       simp [execOp,hop,resolve,invoke,builtin,Builtin.len_,run_underlying tok.und,hev,goInt]
      | row gg cap =>
       obtain ⟨a,rfl,_⟩:=hat
       simp [execOp,hop,resolve,invoke,builtin,Builtin.len_,run_underlying tok.und,hev,goInt]
  ·rename_i s hk he
   simp only [Option.some.injEq] at hs
   subst hs
   rw [he] at hx
   obtain ⟨ti,dd,z,tok⟩:=ht.at_ (zal (by rw [hk];simp):E.T t≠_)
   have:=tok.str_ hk
   subst this
   refine zak r rt hd g (y:=.int .i64 s.size) ?_ (zaP _ _)
   simp [execOp,hop,resolve,invoke,builtin,Builtin.len_,run_underlying tok.und,hx.v_inv,goInt]
  ·rename_i ka ke b hk he
   rw [he] at hx
   obtain ⟨ti,dd,z,tok⟩:=ht.at_ (zal (by rw [hk];simp):E.T t≠_)
   have:=tok.map_ hk
   subst this
   cases hb:h[b]? with
   | none=>simp [hb] at hs
   | some B =>
    cases B with
    | box cs=>simp [hb] at hs
    | row e xs sh=>simp [hb] at hs
    | mp es =>
     simp only [hb,Option.some.injEq] at hs
     subst hs
     generalize hev:Act.eval ⟨tmps,[]⟩ x=y at hx
     cases hx with
     | d _ _ hd=>cases hd
     | mp _ g1 hβ =>
      obtain ⟨g2,c1,l,ents,c2,c3,c4,_⟩:=r.mp b es hb
      rw [hβ] at c1
      cases c1
      refine zak r rt hd g (y:=.int .i64 es.length) ?_ (zaP _ _)
      simp [execOp,hop,resolve,invoke,builtin,Builtin.len_,run_underlying tok.und,hev,goInt,getObj,Sem.run,c3,c4,c2.length_eq]
  ·cases hs
 ·cases hs
theorem zaH {P:Program} (w:World) (k:IntKind) (i:Int) (y:Nat) (c:BoundsCode) (h0:0<=i) (h1:i<=y):(Instr.sliceBound (.int k i) y c).run P w=.ok i.toNat w:=by
 simp [Instr.sliceBound,asIntOf,h0,h1]
theorem zfe (r:Rel E h β S w) (rt:zam E.T h β w S ts tmps) {d n:Int} {x:Option Operand} (hb:bnd (ev E.G ts) d x=some n):(x=none/\n=d)\/∃ b k,x=some b/\Act.eval ⟨tmps,[]⟩ b=.int k n:=by
 cases x with
 | none=>simp only [bnd,Option.some.injEq] at hb;exact .inl ⟨rfl,hb.symm⟩
 | some b =>
  have hv:=zap (ds:=[]) r rt b
  simp only [bnd] at hb
  split at hb
  ·rename_i k i hbe
   cases hb
   rw [hbe] at hv
   exact .inr ⟨b,k,rfl,hv.v_inv⟩
  ·cases hb
theorem zir (r:Rel E h β S w) (rt:zam E.T h β w S ts tmps) {N C:Nat} {lo hi:Option Operand} {l u:Int} (hlo:bnd (ev E.G ts) 0 lo=some l) (hhi:bnd (ev E.G ts) (N:Nat) hi=some u) (h0:0<=l) (hlu:l<=u) (hc:u.toNat<=C) :
  (Instr.sliceBounds true N C (lo.map (Act.eval ⟨tmps,[]⟩)) (hi.map (Act.eval ⟨tmps,[]⟩)) none).run E.P w=.ok (l.toNat,u.toNat,C) w:=by
 rcases zfe r rt hhi with ⟨rfl,rfl⟩|⟨c,k',rfl,hcv⟩
 ·rcases zfe r rt hlo with ⟨rfl,rfl⟩|⟨b,k,rfl,hbv⟩
  ·simp [Instr.sliceBounds]
  ·have:=zaH (P:=E.P) w k l N .sliceB h0 (by omega)
   simp [Instr.sliceBounds,hbv,this]
 ·have h1:=zaH (P:=E.P) w k' u C .sliceAcap (by omega) (by omega)
  rcases zfe r rt hlo with ⟨rfl,rfl⟩|⟨b,k,rfl,hbv⟩
  ·simp [Instr.sliceBounds,hcv,h1]
  ·have:=zaH (P:=E.P) w k l u.toNat .sliceB h0 (by omega)
   simp [Instr.sliceBounds,hbv,hcv,h1,this]
theorem zhg (r:Rel E h β S w) (rt:zam E.T h β w S ts tmps) {N C:Nat} {lo hi:Option Operand} {m:Operand} {l u mm:Int} {k k1:IntKind} (hlo:bnd (ev E.G ts) 0 lo=some l) (hhi:hi.map (ev E.G ts)=some (.v (.int k1 u))) (hm:Act.eval ⟨tmps,[]⟩ m=.int k mm) (h0:0<=l) (hlu:l<=u) (hum:u<=mm) (hc:mm.toNat<=C) :
  (Instr.sliceBounds true N C (lo.map (Act.eval ⟨tmps,[]⟩)) (hi.map (Act.eval ⟨tmps,[]⟩)) (some (Act.eval ⟨tmps,[]⟩ m))).run E.P w=.ok (l.toNat,u.toNat,mm.toNat) w:=by
 have e1:=zaH (P:=E.P) w k mm C .slice3Acap (by omega) (by omega)
 cases hi with
 | none=>simp at hhi
 | some c =>
  simp only [Option.map_some,Option.some.injEq] at hhi
  have hv:=zap (ds:=[]) r rt c
  rw [hhi] at hv
  have hcv:=hv.v_inv
  have e2:=zaH (P:=E.P) w k1 u mm.toNat .slice3B (by omega) (by omega)
  rcases zfe r rt hlo with ⟨rfl,rfl⟩|⟨b,k2,rfl,hbv⟩
  ·simp [Instr.sliceBounds,hm,e1,hcv,e2]
  ·have e3:=zaH (P:=E.P) w k2 l u.toNat .slice3C h0 (by omega)
   simp [Instr.sliceBounds,hm,e1,hcv,e2,hbv,e3]
theorem zjD (r:Rel E h β S w) (rt:zam E.T h β w S ts tmps) {lo hi:Option Operand} {m:Operand} {l u mm:Int} {k k1:IntKind} (hlo:bnd (ev E.G ts) 0 lo=some l) (hhi:hi.map (ev E.G ts)=some (.v (.int k1 u))) (hm:ev E.G ts m=.v (.int k mm)) (a:Option Addr) :
  RelV E.T h β w S (cut0 lo hi m) (.slice a (u.toNat - l.toNat) (mm.toNat - l.toNat)):=by
 unfold cut0
 split
 ·rename_i k2 k3
  simp only [Option.map_some,Option.some.injEq,ev,zhE,AV.v.injEq,Value.int.injEq] at hhi hm
  simp only [bnd,Option.some.injEq] at hlo
  obtain ⟨_,rfl⟩:=hhi
  obtain ⟨_,rfl⟩:=hm
  subst hlo
  exact .nl a
 ·exact .d _ _ (.un _)
theorem OsAt.cut {size l0 u0:Nat} {k:Con} {y:Value} (hat:OsAt size l0 u0 k y) (i u:Nat) (hiu:i<=u) (n:Nat) (hu:u+l0<=n) (hn:∀ g cap,k=.row g cap->n<=cap) (hn0:∀ a,k=.nil a->n=0) :
  ∃ a len c,y=.slice a len c/\u<=c/\len=u0 - l0/\OsAt size (i+l0) (u+l0) k (.slice (if c=i then a else a.map (·.add (i * size))) (u - i) (c - i)):=by
 cases k with
 | mp _=>exact hat.elim
 | box _=>exact hat.elim
 | nil a0 =>
  obtain ⟨h1,a,rfl⟩:=hat
  have:=hn0 a0 rfl
  refine ⟨a,0,0,rfl,by omega,by omega,by omega,if (0:Nat)=i then a else a.map (·.add (i * size)),?_⟩
  have e1:u - i=0:=by omega
  have e2:(0:Nat) - i=0:=by omega
  rw [e1,e2]
 | row g cap =>
  obtain ⟨a,rfl,ha⟩:=hat
  have:=hn g cap rfl
  refine ⟨a,_,_,rfl,by omega,rfl,_,by congr 1 <;> omega,fun hl=>?_⟩
  rw [if_neg (by omega),ha (by omega),Option.map_some,zaW]
  congr 2
  rw [Nat.add_mul];omega
theorem znh (ht:zan E) (r:Rel E h β S w) (rt:zam E.T h β w S ts tmps) (hd:zao tmps.size o.dst=true) {t:TypeId} {x:Operand} {lo hi mx:Option Operand} (hop:o.op=.slice t x lo hi mx)
  (hs:zai (mk E) o ts h os=some out) (ho:zah out.o) (g:Goal E h β S w tmps out K):o.wp E.P ⟨tmps,[]⟩ w K Q:=by
 have hx:=zap (ds:=[]) r rt x
 simp only [zai,zaf,hop,mk_T,mk_G] at hs
 split at hs
 ·rename_i el xs hk he
  rw [he] at hx
  split at hs
  ·rename_i l u hlo hhi
   simp only [Option.some.injEq] at hs
   subst hs
   simp only [zah] at ho
   obtain ⟨h0,hlu,hu,hsize⟩:=ho
   obtain ⟨ti,dd,z,tok⟩:=ht.at_ (zal (by rw [hk];simp):E.T t≠_)
   obtain ⟨rfl,hes⟩:=tok.slice_ hk
   obtain ⟨ti2,dd2,z2,tok2⟩:=ht.at_ (zav hes)
   generalize hev:Act.eval ⟨tmps,[]⟩ x=y at hx
   cases hx with
   | d _ _ hd1=>cases hd1 with
    | sl _ a cap gg off size f f1 f2 f3 f4 f5 f6 =>
     have hbounds:(Instr.sliceBounds true xs.length cap (lo.map (Act.eval ⟨tmps,[]⟩)) (hi.map (Act.eval ⟨tmps,[]⟩)) none).run E.P w=.ok (l.toNat,u.toNat,cap) w:=by
      have fact:∀ (b:Operand) (n:Int),(match ev E.G ts b with|.v (.int _ i)=>some i|_=>none)=some n->∃ k,Act.eval ⟨tmps,[]⟩ b=.int k n:=by
       intro b n hb
       have hv:=zap (ds:=[]) r rt b
       split at hb
       ·rename_i k i hbe
        cases hb
        rw [hbe] at hv
        exact ⟨k,hv.v_inv⟩
       ·cases hb
      cases hi with
      | none =>
       simp only [Option.some.injEq] at hhi
       cases lo with
       | none =>
        simp only [Option.some.injEq] at hlo
        simp [Instr.sliceBounds,← hlo,← hhi]
       | some b =>
        obtain ⟨k,hb⟩:=fact b l hlo
        have:=zaH (P:=E.P) w k l xs.length .sliceB h0 (by omega)
        simp [Instr.sliceBounds,← hhi,hb,this]
      | some c =>
       obtain ⟨k',hc⟩:=fact c u hhi
       have h1:=zaH (P:=E.P) w k' u cap .sliceAcap (by omega) (by omega)
       cases lo with
       | none =>
        simp only [Option.some.injEq] at hlo
        simp [Instr.sliceBounds,← hlo,hc,h1]
       | some b =>
        obtain ⟨k,hb⟩:=fact b l hlo
        have:=zaH (P:=E.P) w k l u.toNat .sliceB h0 (by omega)
        simp [Instr.sliceBounds,hb,hc,h1,this]
     have hlen:((xs.take u.toNat).drop l.toNat).length=u.toNat - l.toNat:=by simp;omega
     have hget:∀ (i:Nat) (c:List AV),((xs.take u.toNat).drop l.toNat)[i]?=some c->xs[l.toNat+i]?=some c:=by
      intro i c hc
      rw [List.getElem?_drop,List.getElem?_take] at hc
      split at hc
      ·exact hc
      ·cases hc
     have hne:((xs.take u.toNat).drop l.toNat)≠[]->xs≠[]/\l.toNat < u.toNat:=by
      intro hn
      refine ⟨fun e=>hn (by simp [e]),?_⟩
      rcases Nat.lt_or_ge l.toNat u.toNat with h1|h1
      ·exact h1
      ·exact absurd (List.eq_nil_of_length_eq_zero (by omega)) hn
     have hsz:xs≠[]->size=(E.T el).size:=by
      intro hn
      obtain ⟨c,cs,rfl⟩:=List.exists_cons_of_ne_nil hn
      rw [← f4 0 c rfl]
      exact hsize c (by simp)
     refine zak r rt hd g (y:=.slice (if cap=l.toNat then a else a.map (·.add (l.toNat * (E.T el).size))) (u.toNat - l.toNat) (cap - l.toNat)) ?_ (.d _ _ ?_)
     ·simp only [execOp,hop,Instr.sliceAt,Sem.run_bind,run_underlying tok.und,Result.andThen_ok,Instr.slice,hev,hbounds,tok2.sizeOf,Sem.run_pure,Option.map_none]
     ·rw [← hlen]
      refine .sl _ _ _ gg (off+l.toNat * (E.T el).size) size (fun k=>f (l.toNat * size+k)) ?_ (by omega) (by omega) (fun i c hc=>f4 _ c (hget i c hc)) (fun i j c x hi' hj=>?_) (fun i j c x hi' hj=>?_)
      ·intro hn
       obtain ⟨hn1,hn2⟩:=hne hn
       rw [if_neg (by omega),f1 hn1,Option.map_some,zaW]
      ·have hn1:xs≠[]:=fun e=>by have:=hget i c hi';rw [e] at this;simp at this
       have:=f5 _ j c x (hget i c hi') hj
       rw [← hsz hn1]
       rw [show off+l.toNat * size+(i * size+j)=off+((l.toNat+i) * size+j) by rw [Nat.add_mul];omega,show l.toNat * size+(i * size+j)=(l.toNat+i) * size+j by rw [Nat.add_mul];omega]
       exact this
      ·have:=f6 _ j c x (hget i c hi') hj
       rw [show l.toNat * size+(i * size+j)=(l.toNat+i) * size+j by rw [Nat.add_mul];omega]
       exact this
  ·cases hs
 ·rename_i el b n hk he
  rw [he] at hx
  split at hs
  ·rename_i e' xs sh i u hb hlo hhi
   split at hs
   ·rename_i hee
    subst hee
    simp only [Option.some.injEq] at hs
    subst hs
    simp only [zah] at ho
    obtain ⟨hn,h0,hiu,hle⟩:=ho
    obtain ⟨ti,dd,z,tok⟩:=ht.at_ (zal (by rw [hk];simp):E.T t≠_)
    obtain ⟨rfl,hes⟩:=tok.slice_ hk
    obtain ⟨ti2,dd2,z2,tok2⟩:=ht.at_ (zav hes)
    generalize hev:Act.eval ⟨tmps,[]⟩ x=y at hx
    have hx':=r.own_os hx
    cases hx' with
    | d _ _ hd1=>cases hd1
    | os _ _ _ _ _ e2 xs2 sh2 hb2 hn2 hl2 hh2 _ hy =>
     rw [hb] at hb2
     cases hb2
     obtain ⟨kk,hkk,hat⟩:=hy hn
     obtain ⟨kk',hkk',hrow⟩:=r.row b el xs sh hb
     rw [hkk] at hkk'
     cases hkk'
     obtain ⟨a,len,c,rfl,huc,hlen,hnew⟩:=hat.cut i.toNat u.toNat (by omega) n hle (fun g cap e=>by subst e;obtain ⟨_,_,hcap,_⟩:=hrow;omega) (fun a e=>by subst e;have hx0:xs=[]:=hrow;rw [hn,hx0];rfl)
     have hbd:=zir r rt (N:=len) (C:=c) hlo (by rw [hlen];simpa using hhi) h0 hiu huc
     refine zak r rt hd g (y:=.slice (if c=i.toNat then a else a.map (·.add (i.toNat * (E.T el).size))) (u.toNat - i.toNat) (c - i.toNat)) ?_ (.os b n i.toNat u.toNat _ el xs sh hb (by omega) (by omega) (by omega) rfl (fun _=>⟨kk,hkk,by simpa using hnew⟩))
     simp only [execOp,hop,Instr.sliceAt,Sem.run_bind,run_underlying tok.und,Result.andThen_ok,Instr.slice,hev,hbd,tok2.sizeOf,Sem.run_pure,Option.map_none]
   ·cases hs
  ·cases hs
 ·rename_i el b n l0 u0 hk he
  rw [he] at hx
  split at hs
  ·rename_i e' xs sh i u hb hlo hhi
   split at hs
   ·rename_i hee
    subst hee
    simp only [Option.some.injEq] at hs
    subst hs
    simp only [zah] at ho
    obtain ⟨hn,h0,hiu,hle⟩:=ho
    obtain ⟨ti,dd,z,tok⟩:=ht.at_ (zal (by rw [hk];simp):E.T t≠_)
    obtain ⟨rfl,hes⟩:=tok.slice_ hk
    obtain ⟨ti2,dd2,z2,tok2⟩:=ht.at_ (zav hes)
    generalize hev:Act.eval ⟨tmps,[]⟩ x=y at hx
    cases hx with
    | d _ _ hd1=>cases hd1
    | os _ _ _ _ _ e2 xs2 sh2 hb2 hn2 hl2 hh2 _ hy =>
     rw [hb] at hb2
     cases hb2
     obtain ⟨kk,hkk,hat⟩:=hy hn
     obtain ⟨kk',hkk',hrow⟩:=r.row b el xs sh hb
     rw [hkk] at hkk'
     cases hkk'
     obtain ⟨a,len,c,rfl,huc,hlen,hnew⟩:=hat.cut i.toNat u.toNat (by omega) n hle (fun g cap e=>by subst e;obtain ⟨_,_,hcap,_⟩:=hrow;omega) (fun a e=>by subst e;have hx0:xs=[]:=hrow;rw [hn,hx0];rfl)
     have hbd:=zir r rt (N:=len) (C:=c) hlo (by rw [hlen];exact hhi) h0 hiu huc
     refine zak r rt hd g (y:=.slice (if c=i.toNat then a else a.map (·.add (i.toNat * (E.T el).size))) (u.toNat - i.toNat) (c - i.toNat)) ?_ (.os b n (i.toNat+l0) (u.toNat+l0) _ el xs sh hb (by omega) (by omega) (by omega) rfl (fun _=>⟨kk,hkk,hnew⟩))
     simp only [execOp,hop,Instr.sliceAt,Sem.run_bind,run_underlying tok.und,Result.andThen_ok,Instr.slice,hev,hbd,tok2.sizeOf,Sem.run_pure,Option.map_none]
   ·cases hs
  ·cases hs
 ·rename_i el b n m hk he
  rw [he] at hx
  split at hs
  ·rename_i e' xs sh i k1 u k mm hb hlo hhi hm
   split at hs
   ·rename_i hee
    subst hee
    simp only [Option.some.injEq] at hs
    subst hs
    simp only [zah] at ho
    obtain ⟨⟨hn,h0,hiu,hle⟩,hum,hmn⟩:=ho
    obtain ⟨ti,dd,z,tok⟩:=ht.at_ (zal (by rw [hk];simp):E.T t≠_)
    obtain ⟨rfl,hes⟩:=tok.slice_ hk
    obtain ⟨ti2,dd2,z2,tok2⟩:=ht.at_ (zav hes)
    have hmv:=zap (ds:=[]) r rt m
    rw [hm] at hmv
    generalize hev:Act.eval ⟨tmps,[]⟩ x=y at hx
    have hx':=r.own_os hx
    cases hx' with
    | d _ _ hd1=>cases hd1
    | os _ _ _ _ _ e2 xs2 sh2 hb2 hn2 hl2 hh2 _ hy =>
     rw [hb] at hb2
     cases hb2
     obtain ⟨kk,hkk,hat⟩:=hy hn
     obtain ⟨kk',hkk',hrow⟩:=r.row b el xs sh hb
     rw [hkk] at hkk'
     cases hkk'
     obtain ⟨a,len,c,rfl,huc,hlen,_⟩:=hat.cut 0 mm.toNat (by omega) n (by omega) (fun g cap e=>by subst e;obtain ⟨_,_,hcap,_⟩:=hrow;omega) (fun a e=>by subst e;have hx0:xs=[]:=hrow;rw [hn,hx0];rfl)
     have hbd:=zhg r rt (w:=w) (N:=len) (C:=c) hlo hhi hmv.v_inv h0 hiu hum huc
     refine zak r rt hd g (y:=.slice (if mm.toNat=i.toNat then a else a.map (·.add (i.toNat * (E.T el).size))) (u.toNat - i.toNat) (mm.toNat - i.toNat)) ?_ (zjD r rt hlo hhi hm _)
     simp only [execOp,hop,Instr.sliceAt,Sem.run_bind,run_underlying tok.und,Result.andThen_ok,Instr.slice,hev,Option.map_some,hbd,tok2.sizeOf,Sem.run_pure]
   ·cases hs
  ·cases hs
 ·rename_i el b n l0 u0 m hk he
  rw [he] at hx
  split at hs
  ·rename_i e' xs sh i k1 u k mm hb hlo hhi hm
   split at hs
   ·rename_i hee
    subst hee
    simp only [Option.some.injEq] at hs
    subst hs
    simp only [zah] at ho
    obtain ⟨⟨hn,h0,hiu,hle⟩,hum,hmn⟩:=ho
    obtain ⟨ti,dd,z,tok⟩:=ht.at_ (zal (by rw [hk];simp):E.T t≠_)
    obtain ⟨rfl,hes⟩:=tok.slice_ hk
    obtain ⟨ti2,dd2,z2,tok2⟩:=ht.at_ (zav hes)
    have hmv:=zap (ds:=[]) r rt m
    rw [hm] at hmv
    generalize hev:Act.eval ⟨tmps,[]⟩ x=y at hx
    cases hx with
    | d _ _ hd1=>cases hd1
    | os _ _ _ _ _ e2 xs2 sh2 hb2 hn2 hl2 hh2 _ hy =>
     rw [hb] at hb2
     cases hb2
     obtain ⟨kk,hkk,hat⟩:=hy hn
     obtain ⟨kk',hkk',hrow⟩:=r.row b el xs sh hb
     rw [hkk] at hkk'
     cases hkk'
     obtain ⟨a,len,c,rfl,huc,hlen,_⟩:=hat.cut 0 mm.toNat (by omega) n (by omega) (fun g cap e=>by subst e;obtain ⟨_,_,hcap,_⟩:=hrow;omega) (fun a e=>by subst e;have hx0:xs=[]:=hrow;rw [hn,hx0];rfl)
     have hbd:=zhg r rt (w:=w) (N:=len) (C:=c) hlo hhi hmv.v_inv h0 hiu hum huc
     refine zak r rt hd g (y:=.slice (if mm.toNat=i.toNat then a else a.map (·.add (i.toNat * (E.T el).size))) (u.toNat - i.toNat) (mm.toNat - i.toNat)) ?_ (zjD r rt hlo hhi hm _)
     simp only [execOp,hop,Instr.sliceAt,Sem.run_bind,run_underlying tok.und,Result.andThen_ok,Instr.slice,hev,Option.map_some,hbd,tok2.sizeOf,Sem.run_pure]
   ·cases hs
  ·cases hs
 ·rename_i el m hk _ _
  split at hs
  ·rename_i k0 k1 hhi hm hln
   simp only [Option.some.injEq] at hs
   subst hs
   obtain ⟨ti,dd,z,tok⟩:=ht.at_ (zal (by rw [hk];simp):E.T t≠_)
   obtain ⟨rfl,hes⟩:=tok.slice_ hk
   obtain ⟨ti2,dd2,z2,tok2⟩:=ht.at_ (zav hes)
   have hmv:=zap (ds:=[]) r rt m
   rw [hm] at hmv
   have hm':=hmv.v_inv
   cases hi with
   | none=>simp at hhi
   | some c =>
    simp only [Option.map_some,Option.some.injEq] at hhi
    have hcv:=zap (ds:=[]) r rt c
    rw [hhi] at hcv
    have hc':=hcv.v_inv
    have hsl:∃ a n cap,Act.eval ⟨tmps,[]⟩ x=.slice a n cap:=by
     generalize Act.eval ⟨tmps,[]⟩ x=y at hx
     cases hav:ev E.G ts x with
     | sl xs=>rw [hav] at hx;cases hx with|d _ _ hd1=>cases hd1 with|sl _ a cap _ _ _ _ _ _ _ _ _ _=>exact ⟨a,_,cap,rfl⟩
     | nl=>rw [hav] at hx;cases hx with
      | d _ _ hd1=>cases hd1
      | nl a=>exact ⟨a,0,0,rfl⟩
     | _=>rw [hav] at hln;simp [ziI] at hln
    obtain ⟨a,n,cap,hev⟩:=hsl
    have hb:(Instr.sliceBounds true n cap (none:Option Value) (some (.int k0 0)) (some (.int k1 0))).run E.P w=.ok (0,0,0) w:=by
     have e1:=zaH (P:=E.P) w k1 0 cap .slice3Acap (by omega) (by omega)
     have e2:=zaH (P:=E.P) w k0 0 0 .slice3B (by omega) (by omega)
     simp only [Int.toNat_zero] at e1 e2
     simp [Instr.sliceBounds,e1,e2]
    refine zak r rt hd g (y:=.slice a 0 0) ?_ (.nl a)
    simp only [execOp,hop,Instr.sliceAt,Sem.run_bind,run_underlying tok.und,Result.andThen_ok,Instr.slice,hev,Option.map_none,Option.map_some,hc',hm',hb,tok2.sizeOf,Sem.run_pure]
    simp
  ·cases hs
 ·cases hs
end
end Go.AM
namespace Go.AM
open Go.RowKit
section
variable {E : Env0} {h : Heap} {β : List Con} {S : Addr -> Prop} {w : World} {tmps : Array Value} {ts : TS} {K : Act -> World -> Prop} {Q : Exit -> Act -> World -> Prop} {o : Oper} {os : List Orc} {out : Out}
theorem znk {T:TypeId->TI} {x:AV} {v y:Value} (hr:RelV T h β w S x y) (hs:scal x=some v):y=v:=by
 unfold scal at hs
 split at hs
 ·cases hs;exact hr.v_inv
 ·cases hs;exact hr.bl_inv
 ·cases hs
theorem zgq {T:TypeId->TI}:∀ (cs:List AV) (vs xs:List Value),cs.length=vs.length->(∀ (i:Nat) (x:AV) (y:Value),cs[i]?=some x->vs[i]?=some y->RelV T h β w S x y)->zcC cs=some xs->vs=xs
 | [],[],xs,_,_,hs=>by cases hs;rfl
 | [],_::_,_,hl,_,_=>by simp at hl
 | _::_,[],_,hl,_,_=>by simp at hl
 | c::cs,v::vs,xs,hl,hr,hs=>by
  simp only [zcC] at hs
  split at hs
  ·rename_i a b h1 h2
   cases hs
   rw [znk (hr 0 c v rfl rfl) h1,zgq cs vs b (by simpa using hl) (fun i x y hx hy=>hr (i+1) x y (by simpa using hx) (by simpa using hy)) h2]
  ·cases hs
theorem zb0 (P:Program) (op:BinOp) (t:TypeId) (x y:Operand) (k k':IntKind) (a b:Int) (w:World):(eqGuard op t x y (.int k a) (.int k' b)).run P w=.ok () w:=by
 unfold eqGuard
 split <;> rfl
theorem zkt (P:Program) (op:BinOp) (t:TypeId) (x y:Operand) (a b:ByteArray) (w:World):(eqGuard op t x y (.string a) (.string b)).run P w=.ok () w:=by
 unfold eqGuard
 split <;> rfl
theorem zf2 (P:Program) (op:BinOp) (t:TypeId) (x y:Operand) (a b:Bool) (w:World):(eqGuard op t x y (.bool a) (.bool b)).run P w=.ok () w:=by
 unfold eqGuard
 split <;> rfl
theorem zgO (P:Program) (op:BinOp) (t:TypeId) (x y:Operand) (a b:Array Value) (w:World) (hg:P.eqGuardType P.depth t=false):(eqGuard op t x y (.agg a) (.agg b)).run P w=.ok () w:=by
 unfold eqGuard
 split <;> simp [hg]
theorem ze5 {P:Program} (w:World) {t:TypeId} (hu:P.underlying t=some .bool) (a b:Bool):(Op.equal t (.bool a) (.bool b)).run P w=.ok (a==b) w:=by
 unfold Op.equal Op.maxDepth
 unfold Op.equalIn
 simp only [Sem.run_bind,run_underlying hu,Result.andThen_ok,Sem.run_pure]
theorem znc (ht:zan E) (r:Rel E h β S w) (rt:zam E.T h β w S ts tmps) (hd:zao tmps.size o.dst=true) {op:BinOp} {t ty:TypeId} {x y:Operand} (hop:o.op=.binOp op t x y ty)
  (hs:zai (mk E) o ts h os=some out) (ho:zah out.o) (g:Goal E h β S w tmps out K):o.wp E.P ⟨tmps,[]⟩ w K Q:=by
 have hx:=zap (ds:=[]) r rt x
 have hy:=zap (ds:=[]) r rt y
 simp only [zai,zaf,hop,mk_T,mk_G] at hs
 split at hs
 ·rename_i q res os' hb
  simp only [Option.some.injEq] at hs
  subst hs
  simp only [zah] at ho
  unfold binop at hb
  split at hb
  ·rename_i k a k' b hxe hye
   rw [hxe] at hx
   rw [hye] at hy
   have hx':=hx.v_inv
   have hy':=hy.v_inv
   split at hb
   ·rename_i c hc
    split at hb
    ·cases hb
     refine zak r rt hd g ?_ (zaP _ _)
     unfold zk2 at hc
     have h0:¬ b < 0:=by have:=ho.1;omega
     split at hc <;> cases hc <;> simp [execOp,hop,hx',hy',zb0,binOp,Op.shift,h0,← ho.2]
    ·cases hb
   split at hb
   ·rename_i hkk
    subst hkk
    split at hb
    ·rename_i res' hc
     cases hb
     refine zak r rt hd g (y:=.bool res') ?_ (zbb _)
     unfold zmd at hc
     split at hc <;> cases hc <;> simp [execOp,hop,hx',hy',zb0,binOp,Op.intCmp]
    ·split at hb
     ·cases hb
      refine zak r rt hd g ?_ (zaP _ _)
      simp [execOp,hop,hx',hy',zb0,binOp,Op.intDiv,ho.1,ho.2]
     ·cases hb
      refine zak r rt hd g ?_ (zaP _ _)
      simp [execOp,hop,hx',hy',zb0,binOp,Op.intDiv,ho.1,ho.2]
     ·split at hb
      ·rename_i c hc
       cases hb
       refine zak r rt hd g ?_ (zaP _ _)
       unfold arith at hc
       split at hc <;> cases hc <;> simp [execOp,hop,hx',hy',zb0,binOp,Op.intArith,ho]
      ·split at hb
       ·rename_i c hc
        cases hb
        refine zak r rt hd g ?_ (zaP _ _)
        unfold bitop at hc
        split at hc <;> cases hc <;> simp [execOp,hop,hx',hy',zb0,binOp,Op.intBits,← ho]
       ·cases hb
     ·cases hb
   ·cases hb
  ·rename_i a b hxe hye
   rw [hxe] at hx
   rw [hye] at hy
   have hx':=hx.v_inv
   have hy':=hy.v_inv
   split at hb
   ·rename_i res' hc
    cases hb
    refine zak r rt hd g (y:=.bool res') ?_ (zbb _)
    unfold zmE at hc
    split at hc <;> cases hc <;> simp [execOp,hop,hx',hy',zkt,binOp,Op.stringOp]
   ·cases hb
  ·rename_i cs ds hxe hye
   rw [hxe] at hx
   rw [hye] at hy
   obtain ⟨vs,hev,hvl,hv1,hvr⟩:=hx.agg_inv
   obtain ⟨us,heu,hul,hu1,hur⟩:=hy.agg_inv
   split at hb
   ·rename_i xs ys hsx hsy
    have e1:=zgq cs vs xs hvl hvr hsx
    have e2:=zgq ds us ys hul hur hsy
    subst e1
    subst e2
    split at hb
    ·rename_i r' heq
     cases hb
     obtain ⟨hg,he⟩:=ho
     rw [mk_P] at hg
     have h1:=zgO E.P .eql t x y vs.toArray us.toArray w hg
     have h2:=he w vs us r' rfl heq
     rw [mk_P] at h2
     refine zak r rt hd g (y:=.bool r') ?_ (zbb _)
     simp [execOp,hop,hev,heu,h1,binOp,h2]
    ·rename_i r' heq
     cases hb
     obtain ⟨hg,he⟩:=ho
     rw [mk_P] at hg
     have h1:=zgO E.P .neq t x y vs.toArray us.toArray w hg
     have h2:=he w vs us r' rfl heq
     rw [mk_P] at h2
     refine zak r rt hd g (y:=.bool (!r')) ?_ (zbb _)
     simp [execOp,hop,hev,heu,h1,binOp,h2]
    ·cases hb
   ·cases hb
  ·split at hb
   ·rename_i a b hxb hyb
    have hx':=hx.bool_inv hxb
    have hy':=hy.bool_inv hyb
    split at hb
    ·rename_i hk
     rw [mk_T] at hk
     cases hb
     obtain ⟨ti,dd,z,tok⟩:=ht.at_ (zal (by rw [hk];simp):E.T t≠_)
     have:=tok.bool_ hk
     subst this
     refine zak r rt hd g (y:=.bool (a==b)) ?_ (zbb _)
     simp [execOp,hop,hx',hy',zf2,binOp,ze5 w tok.und]
    ·rename_i hk
     rw [mk_T] at hk
     cases hb
     obtain ⟨ti,dd,z,tok⟩:=ht.at_ (zal (by rw [hk];simp):E.T t≠_)
     have:=tok.bool_ hk
     subst this
     refine zak r rt hd g (y:=.bool (!(a==b))) ?_ (zbb _)
     simp [execOp,hop,hx',hy',zf2,binOp,ze5 w tok.und]
    ·cases hb
   ·cases hb
 ·cases hs
end
end Go.AM
