/-
  The abstract machine, proved once over the model.
-/
import Derived.Calls
import GoSem.ClaimData
import Derived.Orders
import Derived.Below
import Derived.Laws.Entries
import Derived.Laws.AppendOwn
import Derived.Tactics
import Derived.Laws.BytesString
import Derived.Lib.ConvBytes
set_option maxRecDepth 100000
set_option maxHeartbeats 40000000
set_option linter.unusedSimpArgs false
set_option linter.unusedVariables false
namespace Go.AM
abbrev yA:=@Option.some.injEq
abbrev yB:=@List.getElem?_eq_some_iff
abbrev yC:=@List.mem_of_getElem?
abbrev yD:=@Bool.eq_false_or_eq_true
abbrev yE:=@List.getElem?_eq_getElem
abbrev yF:=@List.mem_singleton
abbrev yG:=@List.length_map
abbrev yH:=@List.getElem?_append_left
abbrev yI:=@Nat.le_of_ble_eq_true
abbrev yJ:=@Nat.le_refl
abbrev yK:=@List.mem_append
abbrev yL:=@List.take_length
abbrev yM:=@List.getElem?_take
abbrev yN:=@Nat.eq_of_beq_eq_true
abbrev yO:=@List.mem_cons
abbrev yP:=@List.take_add_one
abbrev yQ:=@List.getElem?_of_mem
abbrev yR:=@Bool.and_eq_true
abbrev yS:=@List.getElem?_map
abbrev yT:=@List.map_cons
abbrev yU:=@Nat.mul_le_mul_right
abbrev yV:=@List.length_take
abbrev yW:=@Array.getElem?_toList
abbrev yX:=@List.getElem?_drop
abbrev yY:=@List.getElem?_append_right
abbrev yZ:=@List.getElem?_set_ne
abbrev yAA:=@Nat.add_mul
abbrev yAB:=@List.getElem?_cons_zero
abbrev yAC:=@Option.map_some
abbrev yAD:=@List.map_nil
abbrev yAE:=@List.not_mem_nil
abbrev yAF:=@List.getD_eq_getElem?_getD
abbrev yAG:=@List.drop_length
abbrev yAH:=@Option.map_eq_some_iff
abbrev yAI:=@List.getElem?_set_self
abbrev yAJ:=@List.drop_of_length_le
abbrev yAK:=@List.pairwise_cons
abbrev yAL:=@List.length_cons
abbrev yAM:=@Array.length_toList
abbrev yAN:=@List.getElem?_cons_succ
abbrev yAO:=@List.length_append
abbrev yAP:=@List.take_of_length_le
abbrev yAQ:=@List.eq_nil_of_length_eq_zero
abbrev yAR:=@List.map_append
abbrev yAS:=@List.length_nil
abbrev yAT:=@List.mem_map
abbrev yAU:=@Array.getD_eq_getD_getElem?
abbrev yAV:=@List.append_assoc
abbrev yAW:=@List.pairwise_iff_getElem
abbrev yAX:=@List.getElem?_eq_none
abbrev yAY:=@List.getElem?_toArray
abbrev yAZ:=@List.ext_getElem?
abbrev yAa:=@Nat.lt_of_lt_of_le
abbrev yAb:=@Nat.one_mul
abbrev yAc:=@Array.getElem?_eq_getElem
abbrev yAd:=@List.all_eq_true
abbrev yAe:=@Array.getElem?_eq_some_iff
abbrev yAf:=@List.drop_eq_getElem_cons
abbrev yAg:=@Nat.add_zero
abbrev yAh:=@Nat.zero_le
abbrev yAi:=@Nat.zero_add
abbrev yAj:=@Array.getElem?_eq_none
abbrev yAk:=@List.exists_cons_of_ne_nil
abbrev yAl:=@Option.bind_some
abbrev yAm:=@List.length_filter_le
abbrev yAn:=@Nat.beq_refl
abbrev yAo:=@Nat.mul_comm
abbrev yAp:=@Bool.or_eq_true
abbrev yAq:=@List.pairwise_append
abbrev yAr:=@List.length_filterMap_le
abbrev yAs:=@Array.toList_map
abbrev yAt:=@List.length_drop
inductive AV where
 | un
 | v (x:Value)
 | bl (b:Bool)
 | agg (cs:List AV)
 | tup (vs:List AV)
 | sl (xs:List (List AV))
 | dp (cs:List AV)
 | nl
 | p (b off:Nat)
 | own (b n:Nat)
 | ep (b n i off:Nat)
 | os (b n lo hi:Nat)
 | fn (f:FuncId) (caps:List AV)
 | mp (b:Nat)
inductive Blk where
 | box (cs:List AV)
 | row (e:TypeId) (xs:List (List AV)) (sh:Bool)
 | mp (es:List (AV × AV))
abbrev Heap:=List Blk
abbrev TS:=List (Nat × AV)
inductive TK where
 | scalar
 | int (k:IntKind)
 | str
 | bool
 | struct (offs:List Nat)
 | array (n:Nat) (elem:TypeId)
 | slice (elem:TypeId)
 | map (key elem:TypeId)
structure TI where
 kind:TK
 size:Nat
 bytes:Nat
 zero:List AV
def TI.isAgg (t:TI):Bool:=match t.kind with
 | .struct _|.array _ _=>true
 | _=>false
inductive Orc where
 | b (x:Bool)
 | i (n:Int)
 | el (cs:List AV)
 | call (lend:List Nat) (r:AV) (h':Heap)
 | calln (lend:List Nat) (r:AV) (h':Heap)
 | draw (l:List (Nat × List Orc))
def zps:Value->AV
 | .slice none 0 0=>.nl
 | .bool b=>.bl b
 | .agg _=>.un
 | .tuple _=>.un
 | x=>.v x
def look (ts:TS) (t:Nat):AV:=match ts with
 | []=>.un
 | (k,x)::r=>match Nat.beq k t with
  | true=>x
  | false=>look r t
def ev (G:Nat->Option (List AV)) (ts:TS):Operand->AV
 | .tmp t=>look ts t
 | .const x=>zps x
 | .func f=>.fn f []
 | .global g=>match G g with
  | some cs=>.dp cs
  | none=>.un
def put (ts:TS) (d:Option Tmp) (x:AV):TS:=match d with
 | some d=>(d,x)::ts
 | none=>ts
def zsb (n:Nat) (x:AV):Option (List AV):=match n with
 | 1=>some [x]
 | _=>none
def cellsOf (n:Nat):AV->Option (List AV)
 | .agg cs=>match n with
  | 0=>none
  | n+1=>match Nat.beq cs.length (n+1) with
   | true=>some cs
   | false=>none
 | .tup _=>none
 | .un=>none
 | x=>zsb n x
def mkv (t:TI) (cs:List AV):Option AV :=
 match t.isAgg with
 | true=>some (.agg cs)
 | false=>cs.head?
mutual
def frz (h:Heap):AV->AV
 | .un=>.un
 | .v x=>.v x
 | .bl b=>.v (.bool b)
 | .agg cs=>.agg (frzL h cs)
 | .tup vs=>.tup (frzL h vs)
 | .sl xs=>.sl xs
 | .dp cs=>.dp cs
 | .nl=>.sl []
 | .own b _=>match h[b]? with
  | some (.row _ xs _)=>.sl xs
  | _=>.un
 | .p _ _=>.un
 | .ep _ _ _ _=>.un
 | .os b _ lo hi=>match h[b]? with
  | some (.row _ xs _)=>.sl ((xs.take hi).drop lo)
  | _=>.un
 | .fn _ _=>.un
 | .mp _=>.un
def frzL (h:Heap):List AV->List AV
 | []=>[]
 | x::r=>frz h x::frzL h r
end
mutual
def frzO (h:Heap):AV->Prop
 | .agg cs=>zcK h cs
 | .tup vs=>zcK h vs
 | .own b n=>match h[b]? with
  | some (.row _ xs _)=>n=xs.length
  | _=>True
 | .os b n _ _=>match h[b]? with
  | some (.row _ xs _)=>n=xs.length
  | _=>True
 | _=>True
def zcK (h:Heap):List AV->Prop
 | []=>True
 | x::r=>frzO h x/\zcK h r
end
mutual
def frzM:AV->List Nat
 | .agg cs=>zbv cs
 | .tup vs=>zbv vs
 | .own b _=>[b]
 | .os b _ _ _=>[b]
 | _=>[]
def zbv:List AV->List Nat
 | []=>[]
 | x::r=>frzM x++zbv r
end
def zeQ (h:Heap) (b:Nat):Heap:=match h[b]? with
 | some (.row e xs _)=>h.set b (.row e xs true)
 | _=>h
def share (h:Heap) (l:List Nat):Heap:=l.foldl zeQ h
mutual
def ren (σ:Nat->Option Nat):AV->AV
 | .agg cs=>.agg (renL σ cs)
 | .tup vs=>.tup (renL σ vs)
 | .p b off=>match σ b with
  | some i=>.p i off
  | none=>.un
 | .own b n=>match σ b with
  | some i=>.own i n
  | none=>.un
 | .ep b n k off=>match σ b with
  | some i=>.ep i n k off
  | none=>.un
 | .os b n lo hi=>match σ b with
  | some i=>.os i n lo hi
  | none=>.un
 | .fn f caps=>.fn f (renL σ caps)
 | .mp b=>match σ b with
  | some i=>.mp i
  | none=>.un
 | x=>x
def renL (σ:Nat->Option Nat):List AV->List AV
 | []=>[]
 | x::r=>ren σ x::renL σ r
end
def zbf (σ:Nat->Option Nat):Blk->Blk
 | .box cs=>.box (renL σ cs)
 | .row e xs sh=>.row e xs sh
 | .mp es=>.mp es
def argV (σ:Nat->Option Nat) (h:Heap):AV->AV
 | .p b off=>ren σ (.p b off)
 | .fn f caps=>ren σ (.fn f caps)
 | .mp b=>ren σ (.mp b)
 | .own b n=>match σ b with
  | some i=>.own i n
  | none=>frz h (.own b n)
 | .os b n lo hi=>match σ b with
  | some i=>.os i n lo hi
  | none=>frz h (.os b n lo hi)
 | x=>frz h x
def hide (σ:Nat->Option Nat):AV->AV
 | .own b n=>match σ b with
  | some _=>.un
  | none=>.own b n
 | .os b n lo hi=>match σ b with
  | some _=>.un
  | none=>.os b n lo hi
 | x=>x
def zwp (σ:Nat->Option Nat) (h:Heap):AV->AV
 | .nl=>.nl
 | x=>argV σ h x
def idx (l:List Nat) (b:Nat):Option Nat:=match l with
 | []=>none
 | x::r=>match Nat.beq x b with
  | true=>some 0
  | false=>(idx r b).map (·+1)
def zjz (lend:List Nat) (h:Heap):List Nat->Option Heap
 | []=>some []
 | b::r=>match h[b]?,zjz lend h r with
  | some x,some y=>some (zbf (idx lend) x::y)
  | _,_=>none
def back (lend:List Nat) (n:Nat) (i:Nat):Option Nat:=match lend[i]? with
 | some b=>some b
 | none=>some (n+(i - lend.length))
def zcj {α:Type} (h:List α):List Nat->List α->List α
 | b::r,x::y=>zcj (h.set b x) r y
 | _,_=>h
def zgo:List Nat->Bool
 | []=>true
 | b::r=>(match idx r b with|none=>true|some _=>false)&&zgo r
def frzQ (m:List Nat) (p q:Prop):Prop:=match m with
 | []=>q
 | _::_=>p/\q
def frzB (h:Heap) (cs:List AV):Option Prop:=match zbv cs with
 | []=>none
 | _::_=>some (zcK h cs)
def zat:Option Prop->Prop
 | none=>True
 | some q=>q
def allP:List Prop->Prop
 | []=>True
 | [q]=>q
 | q::r=>q/\allP r
structure OutG (α:Type) where
 o:Option Prop
 ts:α
 h:Heap
 os:List Orc
abbrev Out:=OutG TS
structure Env0 where
 P:Program
 T:TypeId->TI
 G:Nat->Option (List AV)
structure Env extends Env0 where
 C:FuncId->List AV->Heap->AV->Heap->Prop
def zx1 (op:BinOp) (a b:Int):Option Bool:=match op with
 | .eql=>some (a==b)
 | .neq=>some (a != b)
 | .lss=>some (decide (a < b))
 | .leq=>some (decide (a<=b))
 | .gtr=>some (decide (b < a))
 | .geq=>some (decide (b<=a))
 | _=>none
def arith (op:BinOp) (a b:Int):Option Int:=match op with
 | .add=>some (a+b)
 | .sub=>some (a - b)
 | .mul=>some (a * b)
 | _=>none
def bitop (op:BinOp) (k:IntKind) (a b:Int):Option Int:=match op with
 | .and=>some (k.wrap (BitVec.ofInt k.bits a &&& BitVec.ofInt k.bits b).toNat)
 | .or=>some (k.wrap (BitVec.ofInt k.bits a ||| BitVec.ofInt k.bits b).toNat)
 | .xor=>some (k.wrap (BitVec.ofInt k.bits a ^^^ BitVec.ofInt k.bits b).toNat)
 | .andNot=>some (k.wrap (BitVec.ofInt k.bits a &&& ~~~(BitVec.ofInt k.bits b)).toNat)
 | _=>none
def zvC (op:BinOp) (k:IntKind) (a b:Int):Option Int:=match op with
 | .shl=>some (k.wrap (a * 2 ^ (min b.toNat k.bits)))
 | .shr=>some (a.fdiv (2 ^ (min b.toNat k.bits)))
 | _=>none
def zdp:Value->Value->Option Bool
 | .int k a,.int k' b=>if k=k' then some (a==b) else none
 | .string a,.string b=>some (a==b)
 | .bool a,.bool b=>some (a==b)
 | _,_=>none
def zbj:List Value->List Value->Option Bool
 | [],[]=>some true
 | x::r,y::s=>match zdp x y,zbj r s with
  | some a,some b=>some (a&&b)
  | _,_=>none
 | _,_=>none
def scal:AV->Option Value
 | .v x=>some x
 | .bl b=>some (.bool b)
 | _=>none
def zeZ:List AV->Option (List Value)
 | []=>some []
 | x::r=>match scal x,zeZ r with
  | some a,some b=>some (a::b)
  | _,_=>none
inductive Shp where
 | int (k:IntKind)
 | str
 | bool
 | other
def shp:Value->Shp
 | .int k _=>.int k
 | .string _=>.str
 | .bool _=>.bool
 | _=>.other
structure StructEq (P:Program) (t:TypeId) (n:List Shp):Prop where
 guard:P.eqGuardType P.depth t=false
 eq:∀ (w:World) (xs ys:List Value) (r:Bool),xs.map shp=n->zbj xs ys=some r->(Op.equal t (.agg xs.toArray) (.agg ys.toArray)).run P w=.ok r w
def bool?:AV->Option Bool
 | .bl b=>some b
 | .v (.bool b)=>some b
 | _=>none
def fill (place:Nat->Option (Nat × Nat)) (cells:List AV):List (Nat × AV)->Option (List AV)
 | []=>some cells
 | (i,x)::rest=>match place i with
  | none=>none
  | some (off,size)=>match cellsOf size x with
   | none=>none
   | some cs=>if off+size<=cells.length then fill place (cells.take off++cs++cells.drop (off+size)) rest else none
def zh5 (offs:List Nat) (size i:Nat):Option (Nat × Nat):=match offs[i]? with
 | some off=>some (off,((offs.drop (i+1)).headD size) - off)
 | none=>none
def zcC (size:Nat):Nat->List AV->List (List AV)
 | 0,_=>[]
 | n+1,cs=>cs.take size::zcC size n (cs.drop size)
def slOf (n:Nat) (xs:List (List AV)):AV:=match n with
 | 0=>.nl
 | _+1=>.sl xs
def repl (zero:List AV):Nat->List AV
 | 0=>[]
 | n+1=>zero++repl zero n
def zyN (op:BinOp) (a b:ByteArray):Option Bool:=match op with
 | .eql=>some (a.toList==b.toList)
 | .neq=>some (!(a.toList==b.toList))
 | .lss=>some (Op.bytesLess a.toList b.toList)
 | .leq=>some (Op.bytesLess a.toList b.toList || a.toList==b.toList)
 | .gtr=>some (!(Op.bytesLess a.toList b.toList || a.toList==b.toList))
 | .geq=>some (!(Op.bytesLess a.toList b.toList))
 | _=>none
def binop (E:Env) (op:BinOp) (t:TypeId) (x y:AV) (os:List Orc):Option (Option Prop × AV × List Orc) :=
 match x,y with
 | .v (.int k a),.v (.int k' b)=>match zvC op k a b with
  | some c=>match os with
   | .i n::os=>some (some (0<=b/\c=n),.v (.int k n),os)
   | _=>none
  | none=>if k=k' then match zx1 op a b with
   | some r=>some (none,.v (.bool r),os)
   | none=>match op,os with
    | .quo,.i n::os=>some (some (b≠0/\k.wrap (a.tdiv b)=n),.v (.int k n),os)
    | .rem,.i n::os=>some (some (b≠0/\a.tmod b=n),.v (.int k n),os)
    | op,.i n::os=>match arith op a b with
     | some c=>some (some (k.wrap c=n),.v (.int k n),os)
     | none=>match bitop op k a b with
      | some c=>some (some (c=n),.v (.int k n),os)
      | none=>none
    | _,_=>none
   else none
 | .v (.string a),.v (.string b)=>match zyN op a b with
  | some r=>some (none,.v (.bool r),os)
  | none=>none
 | .agg cs,.agg ds=>match zeZ cs,zeZ ds with
  | some xs,some ys=>match zbj xs ys,op with
   | some r,.eql=>some (some (StructEq E.P t (xs.map shp)),.v (.bool r),os)
   | some r,.neq=>some (some (StructEq E.P t (xs.map shp)),.v (.bool (!r)),os)
   | _,_=>none
  | _,_=>none
 | x,y=>match bool? x,bool? y with
  | some a,some b=>match (E.T t).kind,op with
   | .bool,.eql=>some (none,.v (.bool (a==b)),os)
   | .bool,.neq=>some (none,.v (.bool (!(a==b))),os)
   | _,_=>none
  | _,_=>none
def zvh (P:Program) (t:TypeId) (f:Nat):Option TypeId:=match P.underlying t with
 | some (.struct fs)=>(fs[f]?).map (·.type)
 | _=>none
def zrb:AV->Bool
 | .sl _|.nl=>true
 | _=>false
def ziA (h:Heap):AV->Option (List (List AV))
 | .sl xs=>some xs
 | .nl=>some []
 | .own b _=>match h[b]? with
  | some (.row _ xs _)=>some xs
  | _=>none
 | .os b _ lo hi=>match h[b]? with
  | some (.row _ xs _)=>some ((xs.take hi).drop lo)
  | _=>none
 | _=>none
def zr3 {α:Type} (E:Env) (f:FuncId) (args:List AV) (pt:AV->α) (h:Heap) (os:List Orc):Option (OutG α) :=
 match os with
 | .call lend r h'::os=>match zjz lend (share h (zbv (args.map (hide (idx lend))))) lend,Nat.ble lend.length h'.length&&zgo lend with
  | some hl,true =>
   some ⟨some (frzQ (zbv (args.map (hide (idx lend)))) (zcK h (args.map (hide (idx lend)))) (E.C f (args.map (argV (idx lend) h)) hl r h')),pt (ren (back lend h.length) r),
    zcj (share h (zbv (args.map (hide (idx lend))))) lend ((h'.take lend.length).map (zbf (back lend h.length)))++(h'.drop lend.length).map (zbf (back lend h.length)),os⟩
  | _,_=>none
 | .calln lend r h'::os=>match zjz lend (share h (zbv (args.map (hide (idx lend))))) lend,Nat.ble lend.length h'.length&&zgo lend with
  | some hl,true =>
   some ⟨some (frzQ (zbv (args.map (hide (idx lend)))) (zcK h (args.map (hide (idx lend)))) (E.C f (args.map (zwp (idx lend) h)) hl r h')),pt (ren (back lend h.length) r),
    zcj (share h (zbv (args.map (hide (idx lend))))) lend ((h'.take lend.length).map (zbf (back lend h.length)))++(h'.drop lend.length).map (zbf (back lend h.length)),os⟩
  | _,_=>none
 | _=>none
structure AllLen (ys:List (List AV)) (n:Nat):Prop where
 all:∀ c∈ys,c.length=n
def zee (xs:List (List AV)) (d:Nat) (ys:List (List AV)):List (List AV):=xs.take d++(ys++xs.drop (d+ys.length))
def append {α:Type} (E:Env) (t:TypeId) (x y:AV) (pt:AV->α) (h:Heap) (os:List Orc):Option (OutG α) :=
 match (E.T t).kind,ziA h y with
 | .slice e,some ys=>match Nat.ble 1 (E.T e).bytes with
  | false=>none
  | true=>match x with
  | .nl=>some ⟨some (frzQ (frzM y) (frzO h y) (AllLen ys (E.T e).size/\ys.length * (E.T e).bytes<=140737488355328)),pt (.own h.length ys.length),h++[.row e ys false],os⟩
  | .own b n=>match h[b]? with
   | some (.row e' xs sh)=>if e=e' then
     some ⟨some (frzQ (frzM y) (frzO h y) (AllLen ys (E.T e).size/\n=xs.length/\(xs.length+ys.length) * (E.T e).bytes<=140737488355328)),pt (.own b (xs++ys).length),h.set b (.row e (xs++ys) sh),os⟩
    else none
   | _=>none
  | .os b n 0 hi=>match h[b]? with
   | some (.row e' xs false)=>if e=e' then
     some ⟨some (frzQ (frzM y) (frzO h y) (AllLen ys (E.T e).size/\n=xs.length/\hi+ys.length<=n)),pt (.os b n 0 (hi+ys.length)),h.set b (.row e (zee xs hi ys) false),os⟩
    else none
   | _=>none
  | _=>none
 | _,_=>none
structure ElAt (xs:List (List AV)) (i:Int) (c:List AV) (n:Nat):Prop where
 pos:0<=i
 at_:xs[i.toNat]?=some c
 len:c.length=n
structure ArrAt (cs:List AV) (i:Int) (n:Nat) (c:List AV) (k:Nat):Prop where
 pos:0<=i
 lt:i.toNat < n
 at_:(cs.drop (i.toNat * k)).take k=c
 len:c.length=k
def u8c (b:UInt8):List AV:=[.v (.int .u8 b.toNat)]
def zgV (s:ByteArray):List (List AV):=s.data.toList.map u8c
structure ByteAt (s:ByteArray) (i n:Int):Prop where
 pos:0<=i
 at_:(s[i.toNat]?).map (fun b=>(b.toNat:Int))=some n
structure SubAt (xs:List (List AV)) (l u:Int) (k:Nat):Prop where
 pos:0<=l
 le:l<=u
 hi:u<=xs.length
 len:∀ c∈xs,c.length=k
structure OwnEl (xs:List (List AV)) (n i:Nat) (c:List AV):Prop where
 eq:n=xs.length
 at_:xs[i]?=some c
structure OwnAt (xs:List (List AV)) (n:Nat) (i:Int):Prop where
 eq:n=xs.length
 pos:0<=i
 lt:i.toNat < n
structure OwnCut (xs:List (List AV)) (n:Nat) (l0:Nat) (i u:Int):Prop where
 eq:n=xs.length
 pos:0<=i
 le:i<=u
 hi:u.toNat+l0<=n
def zsN (xs:List (List AV)) (d e s t:Nat):List (List AV):=zee xs d (((xs.take t).drop s).take (e - d))
structure OsEl (xs:List (List AV)) (n lo hi:Nat) (i:Int):Prop where
 eq:n=xs.length
 pos:0<=i
 lt:i.toNat+lo < hi
def bnd (e:Operand->AV) (d:Int):Option Operand->Option Int
 | none=>some d
 | some a=>match e a with
  | .v (.int _ i)=>some i
  | _=>none
def cut0:Option Operand->Option Operand->Operand->AV
 | none,some (.const (.int _ 0)),.const (.int _ 0)=>.nl
 | _,_,_=>.un
def zer (e:TI) (n:Nat):List (List AV):=List.replicate n (frzL [] e.zero)
def zcy:AV->Option (Bool × List Value)
 | .agg cs=>match zeZ cs with
  | some xs=>some (true,xs)
  | none=>none
 | x=>match scal x with
  | some y=>some (false,[y])
  | none=>none
def keyV (a:Bool) (xs:List Value):Value:=match a with
 | true=>.agg xs.toArray
 | false=>xs.headD (.tuple #[])
def zcA (k k':AV) (r:Bool):Prop:=∃ a xs ys,zcy k=some (a,xs)/\zcy k'=some (a,ys)/\zbj xs ys=some r
def zeV:List MapEntry->List Bool->Nat->Option (Nat × Value)
 | e::_,true::_,i=>some (i,e.val)
 | _::es,false::rs,i=>zeV es rs (i+1)
 | _,_,_=>none
structure KT (P:Program) (t:TypeId) (a:Bool) (ss:List Shp):Prop where
 ex:∃ kt et,P.underlying t=some (.map kt et)/\(∀ (e:Bool) (w:World) (xs:List Value),xs.map shp=ss->(Instr.checkKey e 10000 kt (keyV a xs)).run P w=.ok () w) /\
  (∀ (w:World) (xs:List Value) (l:List MapEntry) (rs:List Bool),xs.map shp=ss->rs.length=l.length->(∀ (i:Nat) (e:MapEntry) (r:Bool),l[i]?=some e->rs[i]?=some r->∃ ys,e.key=keyV a ys/\zbj xs ys=some r) ->
   (Instr.findKey kt (keyV a xs) l).run P w=.ok (zeV l rs 0) w)
structure KeyOK (P:Program) (t:TypeId) (k:AV):Prop where
 ex:∃ a xs,zcy k=some (a,xs)/\KT P t a (xs.map shp)
structure LookAt (es:List (AV × AV)) (k:AV) (r:Option AV):Prop where
 all:∀ p∈es,∃ b,zcA k p.1 b
 at_:∀ p∈es,zcA k p.1 true->r=some p.2
 some_:∀ x,r=some x->∃ p∈es,zcA k p.1 true
def blv:AV->AV
 | .bl b=>.v (.bool b)
 | x=>x
structure LookV (es:List (AV × AV)) (k z x:AV):Prop where
 ex:∃ r,LookAt es k r/\(x=r.getD z\/x=blv (r.getD z))
structure LookOk (es:List (AV × AV)) (k z x y:AV):Prop where
 ex:∃ r,LookAt es k r/\x=r.getD z/\y=.v (.bool r.isSome)
inductive PutAt (es:List (AV × AV)) (k v:AV) (es':List (AV × AV)):Prop
 | new:(∀ p∈es,zcA k p.1 false)->es'.Perm ((k,v)::es)->PutAt es k v es'
 | old (A B:List (AV × AV)) (k' x:AV):es=A++(k',x)::B->zcA k k' true->(∀ p∈A++B,zcA k p.1 false)->es'.Perm ((k,v)::(A++B))->PutAt es k v es'
def zea (ik:IntKind) (n:Int):List (AV × AV)->Bool
 | []=>true
 | (.v (.int k' m),_)::r=>match decide (k'=ik),decide (n < m) with
  | true,true=>zea ik n r
  | _,_=>false
 | _=>false
def insE (ik:IntKind) (n:Int) (v:AV):List (AV × AV)->Option (List (AV × AV))
 | []=>some [(.v (.int ik n),v)]
 | (.v (.int k' m),x)::r=>match decide (k'=ik),decide (n < m),decide (m < n) with
  | true,true,_=>match zea ik n r with
   | true=>some ((.v (.int ik n),v)::(.v (.int k' m),x)::r)
   | false=>none
  | true,false,true=>match insE ik n v r with
   | some r'=>some ((.v (.int k' m),x)::r')
   | none=>none
  | _,_,_=>none
 | _=>none
def zfE {α:Type} (E:Env) (t:TypeId) (m:AV) (k:Operand) (kv v:AV) (pt:AV->α) (h:Heap) (os:List Orc):Option (OutG α) :=
 match m with
 | .mp b=>match h[b]?,frzM v with
  | some (.mp es),[]=>match k with
   | .const (.int ik n)=>match insE ik n (frz [] v) es with
    | some es'=>some ⟨some (KeyOK E.P t (.v (.int ik n))),pt .un,h.set b (.mp es'),os⟩
    | none=>none
   | _=>match os with
    | .call [] .un [.mp es']::os=>some ⟨some (KeyOK E.P t (frz [] kv)/\PutAt es (frz [] kv) (frz [] v) es'),pt .un,h.set b (.mp es'),os⟩
    | _=>none
  | _,_=>none
 | _=>none
def zkh:List (List AV)->Option (List Int)
 | []=>some []
 | [.v (.int .u8 n)]::r=>match zkh r with
  | some ns=>some (n::ns)
  | none=>none
 | _=>none
def zxj (ns:List Int):ByteArray:=ns.foldl (fun r n=>r.push (UInt8.ofNat n.toNat)) ByteArray.empty
def zaj {α:Type} (E:Env) (o:Oper) (e:Operand->AV) (pt:AV->α) (h:Heap) (os:List Orc):Option (OutG α) :=
 match o.op with
 | .move x|.assign x=>some ⟨none,pt (e x),h,os⟩
 | .pick c a b=>match e c with
  | .bl t=>some ⟨none,pt (match t with|true=>e a|false=>e b),h,os⟩
  | .v (.bool t)=>match bool? (e a),bool? (e b) with
   | some x,some y=>some ⟨none,pt (.v (.bool (cond t x y))),h,os⟩
   | _,_=>match os with
    | .b d::os=>some ⟨some (t=d),pt (match d with|true=>e a|false=>e b),h,os⟩
    | _=>none
  | _=>none
 | .alloc t=>match (E.T t).zero with
  | []=>none
  | z=>some ⟨none,pt (.p h.length 0),h++[.box z],os⟩
 | .box t x=>match cellsOf (E.T t).size (e x) with
  | some cs=>some ⟨none,pt (.p h.length 0),h++[.box cs],os⟩
  | none=>none
 | .build t parts=>match (E.T t).kind with
  | .struct offs=>match fill (zh5 offs (E.T t).size) (E.T t).zero (parts.toList.map fun (i,x)=>(i,e x)) with
   | some cs=>some ⟨none,pt (.agg cs),h,os⟩
   | none=>none
  | .array _ el=>match fill (fun i=>some (i * (E.T el).size,(E.T el).size)) (E.T t).zero (parts.toList.map fun (i,x)=>(i,e x)) with
   | some cs=>some ⟨none,pt (.agg cs),h,os⟩
   | none=>none
  | _=>none
 | .buildSlice t len parts=>match (E.T t).kind with
  | .slice el=>match fill (fun i=>some (i * (E.T el).size,(E.T el).size)) (repl (E.T el).zero len) (parts.toList.map fun (i,x)=>(i,e x)),Nat.ble (len * (E.T el).size) 16777216 with
   | some cs,true=>some ⟨frzB h cs,pt (slOf len (zcC (E.T el).size len (frzL h cs))),share h (zbv cs),os⟩
   | _,_=>none
  | _=>none
 | .makeSlice t l c=>match (E.T t).kind,e l,e c with
  | .slice el,.v (.int _ n),.v (.int _ m)=>match (E.T el).zero with
   | [.bl z]=>some ⟨some (m=n/\1<=n/\n<=1000000000/\n.toNat * (E.T el).bytes<=140737488355328),pt (.own h.length n.toNat),h++[.row el (List.replicate n.toNat [.bl z]) false],os⟩
   | _=>none
  | _,_,_=>none
 | .load t x=>match e x with
  | .p b off=>match h[b]? with
   | some (.box cs)=>match mkv (E.T t) ((cs.drop off).take (E.T t).size),Nat.ble (off+(E.T t).size) cs.length with
    | some r,true=>some ⟨none,pt r,h,os⟩
    | _,_=>none
   | _=>none
  | .dp cs=>match mkv (E.T t) (cs.take (E.T t).size),Nat.ble (E.T t).size cs.length with
   | some r,true=>some ⟨none,pt r,h,os⟩
   | _,_=>none
  | .ep b n i off=>match h[b]?,os with
   | some (.row _ xs _),.el c::os=>match mkv (E.T t) ((c.drop off).take (E.T t).size),Nat.ble (off+(E.T t).size) c.length with
    | some r,true=>some ⟨some (OwnEl xs n i c),pt r,h,os⟩
    | _,_=>none
   | _,_=>none
  | _=>none
 | .store t x y=>match cellsOf (E.T t).size (e y) with
  | none=>none
  | some ys=>match e x with
   | .p b off=>match h[b]? with
    | some (.box cs)=>match Nat.ble (off+(E.T t).size) cs.length with
     | true=>some ⟨none,pt .un,h.set b (.box (cs.take off++ys++cs.drop (off+(E.T t).size))),os⟩
     | false=>none
    | _=>none
   | .ep b n i off=>match (share h (zbv ys))[b]?,os with
    | some (.row el xs false),.el c::os=>match Nat.ble (off+(E.T t).size) c.length with
     | true=>some ⟨some (zcK h ys/\OwnEl xs n i c),pt .un,(share h (zbv ys)).set b (.row el (xs.set i (c.take off++frzL h ys++c.drop (off+(E.T t).size))) false),os⟩
     | false=>none
    | _,_=>none
   | _=>none
 | .nilCheck x=>match e x with
  | .p b off=>some ⟨none,pt (.p b off),h,os⟩
  | .dp cs=>some ⟨none,pt (.dp cs),h,os⟩
  | .ep b n i off=>some ⟨none,pt (.ep b n i off),h,os⟩
  | .fn f caps=>some ⟨none,pt (.fn f caps),h,os⟩
  | _=>none
 | .binOp op t x y _=>match binop E op t (e x) (e y) os with
  | some (q,r,os)=>some ⟨q,pt r,h,os⟩
  | none=>none
 | .unOp .not _ x=>match e x with
  | .bl b=>some ⟨none,pt (.bl (!b)),h,os⟩
  | .v (.bool b)=>some ⟨none,pt (.v (.bool (!b))),h,os⟩
  | _=>none
 | .unOp .neg _ x=>match e x,os with
  | .v (.int k a),.i n::os=>some ⟨some (k.wrap (-a)=n),pt (.v (.int k n)),h,os⟩
  | _,_=>none
 | .unOp .xor _ x=>match e x,os with
  | .v (.int k a),.i n::os=>some ⟨some (k.wrap (BitVec.ofInt k.bits (if k.signed then -1 else k.max) ^^^ BitVec.ofInt k.bits a).toNat=n),pt (.v (.int k n)),h,os⟩
  | _,_=>none
 | .fieldAddr t x f=>match (E.T t).kind with
  | .struct offs=>match offs[f]?,e x with
   | some d,.p b off=>some ⟨none,pt (.p b (off+d)),h,os⟩
   | some d,.dp cs=>some ⟨none,pt (.dp (cs.drop d)),h,os⟩
   | some d,.ep b n i off=>some ⟨none,pt (.ep b n i (off+d)),h,os⟩
   | _,_=>none
  | _=>none
 | .field t x f=>match (E.T t).kind,e x with
  | .struct offs,.agg cs=>match offs[f]? with
   | some d=>match mkv (E.T o.type) ((cs.drop d).take (E.T o.type).size),Nat.ble (d+(E.T o.type).size) cs.length with
    | some r,true=>some ⟨some (zvh E.P t f=some o.type),pt r,h,os⟩
    | _,_=>none
   | none=>none
  | _,_=>none
 | .indexAddr t x ix=>match (E.T t).kind,e x,e ix with
  | .slice el,.sl xs,.v (.int _ i)=>match os with
   | .el c::os=>some ⟨some (ElAt xs i c (E.T el).size),pt (.dp c),h,os⟩
   | _=>none
  | .slice el,.own b n,.v (.int _ i)=>match h[b]? with
   | some (.row e xs _)=>if el=e then some ⟨some (OwnAt xs n i),pt (.ep b n i.toNat 0),h,os⟩ else none
   | _=>none
  | .slice el,.os b n lo hi,.v (.int _ i)=>match h[b]? with
   | some (.row e xs _)=>if el=e then some ⟨some (OsEl xs n lo hi i),pt (.ep b n (i.toNat+lo) 0),h,os⟩ else none
   | _=>none
  | .array n el,.dp cs,.v (.int _ i)=>match os with
   | .el c::os=>some ⟨some (ArrAt cs i n c (E.T el).size),pt (.dp c),h,os⟩
   | _=>none
  | .array n el,.p b off,.v (.int _ i)=>some ⟨some (0<=i/\i.toNat < n),pt (.p b (off+i.toNat * (E.T el).size)),h,os⟩
  | _,_,_=>none
 | .index t x ix=>match (E.T t).kind,e x,e ix with
  | .array n el,.agg cs,.v (.int _ i)=>match os with
   | .el c::os=>match mkv (E.T el) c with
    | some r=>some ⟨some (ArrAt cs i n c (E.T el).size),pt r,h,os⟩
    | none=>none
   | _=>none
  | .str,.v (.string s),.v (.int _ i)=>match os with
   | .i n::os=>some ⟨some (ByteAt s i n),pt (.v (.int .u8 n)),h,os⟩
   | _=>none
  | _,_,_=>none
 | .slice t x lo hi mx=>match (E.T t).kind,e x,mx with
  | .slice el,.sl xs,none =>
   match (match lo with|none=>some 0|some a=>match e a with|.v (.int _ i)=>some i|_=>none),
      (match hi with|none=>some (xs.length:Int)|some a=>match e a with|.v (.int _ i)=>some i|_=>none) with
   | some l,some u=>some ⟨some (SubAt xs l u (E.T el).size),pt (.sl ((xs.take u.toNat).drop l.toNat)),h,os⟩
   | _,_=>none
  | .slice el,.own b n,none=>match h[b]?,bnd e 0 lo,bnd e n hi with
   | some (.row e' xs _),some i,some u=>if el=e' then some ⟨some (OwnCut xs n 0 i u),pt (.os b n i.toNat u.toNat),h,os⟩ else none
   | _,_,_=>none
  | .slice el,.os b n l0 u0,none=>match h[b]?,bnd e 0 lo,bnd e (u0 - l0:Nat) hi with
   | some (.row e' xs _),some i,some u=>if el=e' then some ⟨some (OwnCut xs n l0 i u),pt (.os b n (i.toNat+l0) (u.toNat+l0)),h,os⟩ else none
   | _,_,_=>none
  | .slice el,.own b n,some m=>match h[b]?,bnd e 0 lo,hi.map e,e m with
   | some (.row e' xs _),some i,some (.v (.int _ u)),.v (.int _ mm)=>if el=e' then some ⟨some (OwnCut xs n 0 i u/\u<=mm/\mm.toNat<=n),pt (cut0 lo hi m),h,os⟩ else none
   | _,_,_,_=>none
  | .slice el,.os b n l0 u0,some m=>match h[b]?,bnd e 0 lo,hi.map e,e m with
   | some (.row e' xs _),some i,some (.v (.int _ u)),.v (.int _ mm)=>if el=e' then some ⟨some (OwnCut xs n l0 i u/\u<=mm/\mm.toNat+l0<=n),pt (cut0 lo hi m),h,os⟩ else none
   | _,_,_,_=>none
  | .slice _,x,some m=>match lo,hi.map e,e m,zrb x with
   | none,some (.v (.int _ 0)),.v (.int _ 0),true=>some ⟨none,pt .nl,h,os⟩
   | _,_,_,_=>none
  | _,_,_=>none
 | .makeMap _ none=>some ⟨none,pt (.mp h.length),h++[.mp []],os⟩
 | .insert t m k v=>zfE E t (e m) k (e k) (e v) pt h os
 | .mapUpdate t m k v=>zfE E t (e m) k (e k) (e v) pt h os
 | .lookup t m k ok=>match (E.T t).kind,e m with
  | .map _ el,.mp b=>match h[b]? with
   | some (.mp es)=>match (E.T el).zero,(E.T el).isAgg,ok,os with
    | [z],false,false,.el [x]::os=>some ⟨some (KeyOK E.P t (frz [] (e k))/\LookV es (frz [] (e k)) z x),pt x,h,os⟩
    | [z],false,true,.el [x,y]::os=>some ⟨some (KeyOK E.P t (frz [] (e k))/\LookOk es (frz [] (e k)) z x y),pt (.tup [x,y]),h,os⟩
    | _,_,_,_=>none
   | _=>none
  | _,_=>none
 | .extract x i=>match e x with
  | .tup vs=>match vs[i]? with
   | some r=>some ⟨none,pt r,h,os⟩
   | none=>none
  | _=>none
 | .makeFunc (.func f) first caps=>match first.toList with
  | []=>some ⟨none,pt (.fn f (caps.toList.map e)),h,os⟩
  | _=>none
 | .convert src t x=>match (E.T t).kind,e x,Nat.ble 1 (E.T src).size with
  | .int k,.v (.int _ a),true=>match os with
   | .i n::os=>some ⟨some (k.wrap a=n),pt (.v (.int k n)),h,os⟩
   | _=>none
  | .str,.sl xs,true=>match (E.T src).kind with
   | .slice el=>match (E.T el).kind,zkh xs with
    | .int .u8,some ns=>some ⟨none,pt (.v (.string (zxj ns))),h,os⟩
    | _,_=>none
   | _=>none
  | .slice el,.v (.string s),true=>match (E.T el).kind with
   | .int .u8=>some ⟨some (s.size<=1000000000000),pt (.sl (zgV s)),h,os⟩
   | _=>none
  | _,_,_=>none
 | .call { callee:=.builtin .max,args,.. }=>match args.toList with
  | [x,y]=>match e x,e y,os with
   | .v (.int k a),.v (.int _ b),.i n::os=>some ⟨some ((if b > a then b else a)=n),pt (.v (.int k n)),h,os⟩
   | _,_,_=>none
  | _=>none
 | .call { callee:=.builtin .min,args,.. }=>match args.toList with
  | [x,y]=>match e x,e y,os with
   | .v (.int k a),.v (.int _ b),.i n::os=>some ⟨some ((if b < a then b else a)=n),pt (.v (.int k n)),h,os⟩
   | _,_,_=>none
  | _=>none
 | .call { callee:=.builtin .len,args,argTypes }=>match args.toList,argTypes.toList with
  | [x],[t]=>match (E.T t).kind,e x with
   | .slice _,.sl xs=>some ⟨none,pt (.v (.int .i64 xs.length)),h,os⟩
   | .slice _,.nl=>some ⟨none,pt (.v (.int .i64 0)),h,os⟩
   | .slice _,.own b n=>match h[b]? with
    | some (.row _ xs _)=>some ⟨some (n=xs.length),pt (.v (.int .i64 n)),h,os⟩
    | _=>none
   | .slice _,.os b n lo hi=>match h[b]? with
    | some (.row _ xs _)=>some ⟨some (n=xs.length),pt (.v (.int .i64 (hi - lo:Nat))),h,os⟩
    | _=>none
   | .str,.v (.string s)=>some ⟨none,pt (.v (.int .i64 s.size)),h,os⟩
   | .map _ _,.mp b=>match h[b]? with
    | some (.mp es)=>some ⟨none,pt (.v (.int .i64 es.length)),h,os⟩
    | _=>none
   | _,_=>none
  | _,_=>none
 | .call { callee:=.builtin .copy,args,argTypes }=>match args.toList,argTypes.toList with
  | [x,y],[t,_]=>match (E.T t).kind,e x,e y with
   | .slice el,.os b n d dh,.os b' n' s sh=>match Nat.beq b b',h[b]? with
    | true,some (.row e' xs false)=>if el=e' then some ⟨some (n=xs.length/\n'=xs.length),pt .un,h.set b (.row el (zsN xs d dh s sh) false),os⟩ else none
    | _,_=>none
   | _,_,_=>none
  | _,_=>none
 | .call { callee:=.builtin .clear,args,argTypes }=>match args.toList,argTypes.toList with
  | [x],[t]=>match (E.T t).kind,e x with
   | .slice el,.os b n lo hi=>match h[b]? with
    | some (.row e' xs false)=>if el=e' then some ⟨some (n=xs.length),pt .un,h.set b (.row el (zee xs lo (zer (E.T el) (hi - lo))) false),os⟩ else none
    | _=>none
   | _,_=>none
  | _,_=>none
 | .call { callee:=.builtin .append,args,argTypes }=>match args.toList,argTypes.toList with
  | [x,y],[t,t']=>match Nat.beq t t' with
   | true=>append E t (e x) (e y) pt h os
   | false=>none
  | _,_=>none
 | .call { callee:=.value f,args,.. }=>match e f with
  | .fn f caps=>zr3 E f (args.toList.map e++caps) pt h os
  | _=>none
 | _=>none
def zau (E:Env) (o:Oper) (ts:TS) (h:Heap) (os:List Orc):Option Out:=zaj E o (ev E.G ts) (put ts o.dst) h os
inductive It where
 | code (c:Code)
 | ops (all:List Oper) (rest:List Oper)
 | blk (id:Nat)
 | lp (c:Code)
structure Cfg where
 n:Nat
 todo:List It
 ts:TS
 h:Heap
def zaR (n:Nat) (d:Option Tmp):Bool:=match d with
 | some d=>Nat.blt d n
 | none=>true
def zgZ (id:Nat):List It->Option (List It)
 | []=>none
 | .blk i::k=>match Nat.beq i id with
  | true=>some k
  | false=>zgZ id k
 | _::k=>zgZ id k
def zdG (all:List Oper) (j:Nat):Option Tmp:=(all[j]?).bind (·.dst)
def zfi:AV:=.tup []
def zxi (E:Env) (all:List Oper) (o:Oper) (ts:TS) (h:Heap) (os:List Orc):Option Out :=
 match o.guard with
 | none=>zau E o ts h os
 | some (j,want)=>match zdG all j with
  | none=>none
  | some d=>match look ts d with
   | .bl b=>match b==want with
    | true=>zau E o ts h os
    | false=>some ⟨none,put ts o.dst zfi,h,os⟩
   | .tup []=>some ⟨none,put ts o.dst zfi,h,os⟩
   | .v (.bool t)=>match os with
    | .b b::os=>match b==want with
     | true=>(zau E o ((d,.bl b)::ts) h os).map fun r=>{ r with o:=some (t=b/\zat r.o) }
     | false=>some ⟨some (t=b),put ((d,.bl b)::ts) o.dst zfi,h,os⟩
    | _=>none
   | _=>none
def zsa (ts:TS) (b:Bool):Operand->TS
 | .tmp d=>(d,.bl b)::ts
 | _=>ts
def evF (G:Nat->Option (List AV)) (L:Nat->AV):Operand->AV
 | .tmp t=>L t
 | .const x=>zps x
 | .func f=>.fn f []
 | .global g=>match G g with
  | some cs=>.dp cs
  | none=>.un
def zbD (h:Heap) (b:Nat):Option (List AV):=match h[b]? with
 | some (.box cs)=>some cs
 | _=>none
def zct (E:Env) (o:Oper) (e:Operand->AV):Option (List Nat):=match o.op with
 | .move _|.assign _|.pick ..|.build ..|.binOp ..|.unOp ..|.fieldAddr ..|.field ..|.index ..|.extract ..|.makeFunc ..|.convert ..|.nilCheck _=>some []
 | .load _ x=>match e x with
  | .p b _=>some [b]
  | .dp _=>some []
  | _=>none
 | .indexAddr _ x _=>match e x with
  | .own _ _=>none
  | .os _ _ _ _=>none
  | _=>some []
 | .slice _ x _ _ _=>match e x with
  | .own _ _=>none
  | .os _ _ _ _=>none
  | _=>some []
 | .call { callee:=.builtin .len,args,.. }=>match args.toList with
  | [x]=>match e x with
   | .own _ _=>none
   | .os _ _ _ _=>none
   | .mp _=>none
   | _=>some []
  | _=>none
 | .call { callee:=.builtin .max,.. }=>some []
 | .call { callee:=.builtin .min,.. }=>some []
 | .buildSlice t n parts=>match (E.T t).kind with
  | .slice el=>match fill (fun i=>some (i * (E.T el).size,(E.T el).size)) (repl (E.T el).zero n) (parts.toList.map fun (i,x)=>(i,e x)) with
   | some cs=>match zbv cs with
    | []=>some []
    | _=>none
   | none=>none
  | _=>none
 | _=>none
def zg4:List Orc->List Nat
 | []=>[]
 | .call l _ _::_=>l
 | .calln l _ _::_=>l
 | _::r=>zg4 r
def zfC (o:Oper) (os:List Orc) (B:List Nat):Bool:=match B with
 | []=>true
 | _::_=>match o.op with
  | .store ..=>false
  | .call _=>B.all fun b=>!(zg4 os).contains b
  | _=>true
def andO:Option Prop->Option Prop->Option Prop
 | none,x=>x
 | some p,x=>some (p/\zat x)
def gst (all:List Oper) (o:Oper) (L:Nat->AV) (os:List Orc):Option (Bool × Option Prop × List Orc) :=
 match o.guard with
 | none=>some (true,none,os)
 | some (j,want)=>match zdG all j with
  | none=>none
  | some d=>match L d with
   | .bl b=>some (b==want,none,os)
   | .tup []=>some (false,none,os)
   | .v (.bool t)=>match os with
    | .b b::os=>some (b==want,some (t=b),os)
    | _=>none
   | _=>none
def zcs (E:Env) (all:List Oper) (o:Oper) (L:Nat->AV) (h:Heap) (os:List Orc):Option (OutG AV) :=
 match gst all o L os with
 | some (true,q,os')=>(zaj E o (evF E.G L) id h os').map fun r=>⟨andO q r.o,r.ts,r.h,r.os⟩
 | some (false,q,os')=>some ⟨q,zfi,h,os'⟩
 | none=>none
def zgX (E:Env) (all:List Oper) (o:Oper) (L:Nat->AV) (os:List Orc):Option (List Nat) :=
 match gst all o L os with
 | some (true,_,_)=>zct E o (evF E.G L)
 | some (false,_,_)=>some []
 | none=>none
def dep (ops:Array Oper) (i:Nat):Nat->Nat->Bool
 | 0,_=>false
 | f+1,j=>match ops[j]? with
  | some o=>o.after.toList.any fun e=>Region.binds .any e&&(Nat.beq e.on i || dep ops i f e.on)
  | none=>false
def memN (b:Nat):List Nat->Bool
 | []=>false
 | x::r=>match Nat.beq x b with
  | true=>true
  | false=>memN b r
def osAt (l:List (Nat × List Orc)) (i:Nat):List Orc:=match l with
 | []=>[]
 | (k,x)::r=>match Nat.beq k i with
  | true=>x
  | false=>osAt r i
def ziD (all:List Oper) (done:List Nat):List Nat:=(List.range all.length).filter fun i=>!memN i done&&match all[i]? with
 | some o=>o.after.toList.all fun e=>!Region.binds .any e || memN e.on done
 | none=>false
def zil (o:Oper):Option (Nat × IntKind × Int):=match o.op,o.guard,o.dst with
 | .insert _ (.tmp m) (.const (.int k n)) _,none,none=>some (m,k,n)
 | _,_,_=>none
def ztf (all:List Oper) (done:List Nat) (i:Nat) (o:Oper):Bool:=match zil o with
 | none=>false
 | some (m,k,n)=>(List.range all.length).all fun j=>Nat.beq j i || memN j done || dep all.toArray i all.length j || match all[j]? with
  | some oj=>match zil oj with
   | some (m',k',n')=>Nat.beq m m'&&decide (k'=k)&&!decide (n=n')
   | none=>false
  | none=>true
def first (E:Env) (all:List Oper) (osl:List (Nat × List Orc)) (done:List Nat) (ts:TS) (h:Heap) (i:Nat):Bool :=
 match all[i]? with
 | none=>false
 | some o=>match zgX E all o (look ts) (osAt osl i) with
  | none=>ztf all done i o
  | some B=>B.all (fun b=>(zbD h b).isSome)&&(List.range all.length).all fun j=>Nat.beq j i || memN j done || (match all[j]? with
   | some oj=>o.apart all.toArray oj&&zfC oj (osAt osl j) B
   | none=>true) || dep all.toArray i all.length j
def zw4 (E:Env) (all:List Oper) (osl:List (Nat × List Orc)) (done:List Nat) (ts:TS) (h:Heap) (r:Nat):List Nat->Option Nat
 | []=>none
 | s::rs=>(r::s::rs).find? (first E all osl done ts h)
def zlr (q:Option Prop) (l:List Prop × TS × Heap):List Prop × TS × Heap:=match q with
 | none=>l
 | some p=>(p::l.1,l.2)
def goD (E:Env) (all:List Oper) (osl:List (Nat × List Orc)) (n:Nat) (lv:List Nat->TS->Heap->Option (List (List Prop × TS × Heap))) (done:List Nat) (ts:TS) (h:Heap) (i:Nat):Option (List (List Prop × TS × Heap)) :=
 match all[i]? with
 | none=>none
 | some o=>match zaR n o.dst,zcs E all o (look ts) h (osAt osl i) with
  | true,some out=>(lv (i::done) (put ts o.dst out.ts) out.h).map fun l=>l.map (zlr out.o)
  | _,_=>none
def allD (go:Nat->Option (List (List Prop × TS × Heap))):List Nat->Option (List (List Prop × TS × Heap))
 | []=>some []
 | i::r=>match go i,allD go r with
  | some a,some b=>some (a++b)
  | _,_=>none
def zdv (E:Env) (all:List Oper) (osl:List (Nat × List Orc)) (n:Nat):Nat->List Nat->TS->Heap->Option (List (List Prop × TS × Heap))
 | 0,done,ts,h=>match ziD all done with
  | []=>some [([],ts,h)]
  | _=>none
 | f+1,done,ts,h=>match ziD all done with
  | []=>some [([],ts,h)]
  | r::rs=>match zw4 E all osl done ts h r rs with
   | some i=>goD E all osl n (zdv E all osl n f) done ts h i
   | none=>allD (goD E all osl n (zdv E all osl n f) done ts h) (r::rs)
def insK (k:Nat) (v:AV):TS->TS
 | []=>[(k,v)]
 | (j,x)::r=>match Nat.beq k j with
  | true=>(k,v)::r
  | false=>match Nat.blt k j with
   | true=>(k,v)::(j,x)::r
   | false=>(j,x)::insK k v r
def zoX:TS->TS
 | []=>[]
 | (k,v)::r=>insK k v (zoX r)
def zxc (ts:TS) (h:Heap):List (List Prop × TS × Heap)->Prop
 | []=>True
 | l::r=>(allP l.1/\zoX l.2.1=zoX ts/\l.2.2=h)/\zxc ts h r
def zw0 (q:List Prop) (ts:TS) (h:Heap):List (List Prop × TS × Heap)->Prop
 | []=>allP q
 | l::r=>allP q/\zxc ts h (l::r)
def step (E:Env) (c:Cfg) (os:List Orc):Option (Option Prop × Cfg × List Orc) :=
 match c.todo with
 | []=>none
 | .blk _::k=>some (none,{ c with todo:=k },os)
 | .lp _::_=>none
 | .ops _ []::k=>some (none,{ c with todo:=k },os)
 | .ops all (o::r)::k=>match zaR c.n o.dst,zxi E all o c.ts c.h os with
  | true,some x=>some (x.o,⟨c.n,.ops all r::k,x.ts,x.h⟩,x.os)
  | _,_=>none
 | .code q::k=>match q with
  | .skip=>some (none,{ c with todo:=k },os)
  | .label _=>some (none,{ c with todo:=k },os)
  | .scope a=>some (none,{ c with todo:=.code a::k },os)
  | .loop a=>some (none,{ c with todo:=.lp a::k },os)
  | .seq a b=>some (none,{ c with todo:=.code a::.code b::k },os)
  | .block id a=>some (none,{ c with todo:=.code a::.blk id::k },os)
  | .region _ ops false=>some (none,{ c with todo:=.ops ops.toList ops.toList::k },os)
  | .region _ ops true=>match os with
   | .draw l::os=>match zdv E ops.toList l c.n ops.toList.length [] c.ts c.h,Nat.beq ops.toList.length ops.size with
    | some ((q,ts,h)::more),true=>some (some (zw0 q ts h more),⟨c.n,k,ts,h⟩,os)
    | _,_=>none
   | _=>none
  | .exit id=>match zgZ id k with
   | some k'=>some (none,{ c with todo:=k' },os)
   | none=>none
  | .cond x a b=>match ev E.G c.ts x with
   | .bl true=>some (none,{ c with todo:=.code a::k },os)
   | .bl false=>some (none,{ c with todo:=.code b::k },os)
   | .v (.bool t)=>match os with
    | .b true::os=>some (some (t=true),⟨c.n,.code a::k,zsa c.ts true x,c.h⟩,os)
    | .b false::os=>some (some (t=false),⟨c.n,.code b::k,zsa c.ts false x,c.h⟩,os)
    | _=>none
   | _=>none
  | _=>none
def run (E:Env):Nat->Cfg->List Orc->List Prop × Cfg × List Orc
 | 0,c,os=>([],c,os)
 | n+1,c,os=>match step E c os with
  | none=>([],c,os)
  | some (none,c',os')=>run E n c' os'
  | some (some q,c',os')=>match run E n c' os' with
   | (q',r)=>(q::q',r)
def zjr:Code->List It->List (List It)
 | .seq a b,k=>zjr a (.code b::k)++zjr b k
 | .cond _ a b,k=>zjr a k++zjr b k
 | .block id a,k=>zjr a (.blk id::k)
 | .scope a,k=>zjr a k
 | .loop c,k=>(.lp c::k)::zjr c (.lp c::k)
 | _,_=>[]
def zcr (m b:Nat):Option Nat:=match Nat.blt b m with
 | true=>some b
 | false=>none
def mask (live:List Nat) (m:Nat) (ts:TS):TS:=live.map fun t=>(t,ren (zcr m) (look ts t))
def cut (live:List Nat) (m:Nat) (c:Cfg):Cfg:=⟨c.n,c.todo,mask live m c.ts,(c.h.take m).map (zbf (zcr m))⟩
def zbV:Nat->List AV->TS
 | _,[]=>[]
 | i,x::r=>(i,x)::zbV (i+1) r
def zpy (E:Env0) (ts:TS) (h:Heap):ResultVar->Option AV
 | .tmp t=>some (look ts t)
 | .cell a t=>match look ts a with
  | .p b off=>match h[b]? with
   | some (.box cs)=>match mkv (E.T t) ((cs.drop off).take (E.T t).size),Nat.ble (off+(E.T t).size) cs.length with
    | some r,true=>some r
    | _,_=>none
   | _=>none
  | _=>none
def ziE (E:Env0) (ts:TS) (h:Heap):List ResultVar->Option (List AV)
 | []=>some []
 | x::r=>match zpy E ts h x,ziE E ts h r with
  | some a,some b=>some (a::b)
  | _,_=>none
def retV (E:Env0) (ts:TS) (h:Heap) (l:List ResultVar):Option AV:=match ziE E ts h l with
 | some [x]=>some x
 | some xs=>some (.tup xs)
 | none=>none
def Shut (m:Nat) (R:AV->Heap->Prop) (r:AV) (h:Heap):Prop :=
 frzO h r/\R (frz h r) (((share h (frzM r)).take m).map (zbf (zcr m)))
end Go.AM
namespace Go.AM
open Go.RowKit
inductive RelD (w:World) (S:Addr->Prop):AV->Value->Prop
 | un (x:Value):RelD w S .un x
 | v (x:Value):x.oneCell'=true->RelD w S (.v x) x
 | bl (b:Bool):RelD w S (.bl b) (.bool b)
 | agg (cs:List AV) (vs:List Value):cs.length=vs.length->(∀ y∈vs,y.oneCell'=true)->(∀ (i:Nat) (x:AV) (y:Value),cs[i]?=some x->vs[i]?=some y->RelD w S x y)->RelD w S (.agg cs) (.agg vs.toArray)
 | tup (cs:List AV) (vs:List Value):cs.length=vs.length->(∀ (i:Nat) (x:AV) (y:Value),cs[i]?=some x->vs[i]?=some y->RelD w S x y)->RelD w S (.tup cs) (.tuple vs.toArray)
 | sl (xs:List (List AV)) (a:Option Addr) (cap g o size:Nat) (f:Nat->Value) :
   (xs≠[]->a=some ⟨g,o,none⟩)->xs.length<=cap->cap<=maxLen ->
   (∀ (i:Nat) (c:List AV),xs[i]?=some c->c.length=size) ->
   (∀ (i j:Nat) (c:List AV) (x:AV),xs[i]?=some c->c[j]?=some x->S ⟨g,o+(i * size+j),none⟩/\w.cell? ⟨g,o+(i * size+j),none⟩=some (f (i * size+j))/\(f (i * size+j)).oneCell'=true) ->
   (∀ (i j:Nat) (c:List AV) (x:AV),xs[i]?=some c->c[j]?=some x->RelD w S x (f (i * size+j))) ->
   RelD w S (.sl xs) (.slice a xs.length cap)
 | dp (cs:List AV) (g o:Nat) (f:Nat->Value) :
   (∀ (j:Nat) (x:AV),cs[j]?=some x->S ⟨g,o+j,none⟩/\w.cell? ⟨g,o+j,none⟩=some (f j)/\(f j).oneCell'=true) ->
   (∀ (j:Nat) (x:AV),cs[j]?=some x->RelD w S x (f j)) ->
   RelD w S (.dp cs) (.pointer (some ⟨g,o,none⟩))
theorem RelD.mono {w w':World} {S S':Addr->Prop} (hS:∀ a,S a->S' a) (hc:∀ a,S a->w'.cell? a=w.cell? a) {x:AV} {y:Value} (h:RelD w S x y):RelD w' S' x y:=by
 induction h with
 | un x=>exact .un x
 | v x ho=>exact .v x ho
 | bl b=>exact .bl b
 | agg cs vs hl ho _ ih=>exact .agg cs vs hl ho ih
 | tup cs vs hl _ ih=>exact .tup cs vs hl ih
 | sl xs a cap g o size f h1 h2 h3 h4 h5 _ ih =>
  exact .sl xs a cap g o size f h1 h2 h3 h4 (fun i j c x hi hj=>by
   obtain ⟨a1,a2,a3⟩:=h5 i j c x hi hj
   exact ⟨hS _ a1,(hc _ a1).trans a2,a3⟩) ih
 | dp cs g o f h1 _ ih =>
  exact .dp cs g o f (fun j x hj=>by
   obtain ⟨a1,a2,a3⟩:=h1 j x hj
   exact ⟨hS _ a1,(hc _ a1).trans a2,a3⟩) ih
inductive Con where
 | box (g:Nat)
 | nil (a:Option Addr)
 | row (g cap:Nat)
 | mp (g:Nat)
def Con.blk:Con->Option Nat
 | .box g=>some g
 | .nil _=>none
 | .row g _=>some g
 | .mp g=>some g
def Con.cur (n:Nat):Con->Option Value
 | .box _=>none
 | .nil a=>some (.slice a 0 0)
 | .row g cap=>some (.slice (some ⟨g,0,none⟩) n cap)
 | .mp _=>none
def OsAt (size lo hi:Nat) (k:Con) (y:Value):Prop:=match k with
 | .box _=>False
 | .nil _=>hi=lo/\∃ a,y=.slice a 0 0
 | .row g cap=>∃ a,y=.slice a (hi - lo) (cap - lo)/\(lo < cap->a=some ⟨g,lo * size,none⟩)
 | .mp _=>False
inductive RelV (T:TypeId->TI) (h:Heap) (β:List Con) (w:World) (S:Addr->Prop):AV->Value->Prop
 | d (x:AV) (y:Value):RelD w S x y->RelV T h β w S x y
 | agg (cs:List AV) (vs:List Value):cs.length=vs.length->(∀ y∈vs,y.oneCell'=true)->(∀ (i:Nat) (x:AV) (y:Value),cs[i]?=some x->vs[i]?=some y->RelV T h β w S x y)->RelV T h β w S (.agg cs) (.agg vs.toArray)
 | tup (cs:List AV) (vs:List Value):cs.length=vs.length->(∀ (i:Nat) (x:AV) (y:Value),cs[i]?=some x->vs[i]?=some y->RelV T h β w S x y)->RelV T h β w S (.tup cs) (.tuple vs.toArray)
 | nl (a:Option Addr):RelV T h β w S .nl (.slice a 0 0)
 | p (b off g:Nat):β[b]?=some (.box g)->RelV T h β w S (.p b off) (.pointer (some ⟨g,off,none⟩))
 | own (b n:Nat) (y:Value) (e:TypeId) (xs:List (List AV)) (sh:Bool):h[b]?=some (.row e xs sh)->n<=xs.length->(n=xs.length->(β[b]?).bind (Con.cur n)=some y)->y.oneCell'=true->RelV T h β w S (.own b n) y
 | ep (b n i off g:Nat) (e:TypeId) (xs:List (List AV)) (sh:Bool):h[b]?=some (.row e xs sh)->n<=xs.length->(n=xs.length->∃ cap,β[b]?=some (.row g cap))->RelV T h β w S (.ep b n i off) (.pointer (some ⟨g,i * (T e).size+off,none⟩))
 | os (b n lo hi:Nat) (y:Value) (e:TypeId) (xs:List (List AV)) (sh:Bool):h[b]?=some (.row e xs sh)->n<=xs.length->lo<=hi->hi<=n->y.oneCell'=true->(n=xs.length->∃ k,β[b]?=some k/\OsAt (T e).size lo hi k y)->RelV T h β w S (.os b n lo hi) y
 | fn (f:FuncId) (caps:List AV) (vs:List Value):caps.length=vs.length->(∀ (i:Nat) (x:AV) (y:Value),caps[i]?=some x->vs[i]?=some y->RelV T h β w S x y)->RelV T h β w S (.fn f caps) (.func (.func f) #[] vs.toArray)
 | mp (b g:Nat):β[b]?=some (.mp g)->RelV T h β w S (.mp b) (.map (some g))
def zdM (T:TypeId->TI) (w:World) (S:Addr->Prop) (e:TypeId) (xs:List (List AV)):Con->Prop
 | .box _=>False
 | .nil _=>xs=[]
 | .mp _=>False
 | .row g cap=>∃ cs:Array Value,w.heap[g]?=some (.cells cs e (0,0))/\xs.length<=cap/\0 < cap/\cap<=maxLen/\cs.size=cap * (T e).size /\
   (∀ (i:Nat) (c:List AV),xs[i]?=some c->c.length=(T e).size) /\
   (∀ (i j:Nat) (c:List AV) (x:AV),xs[i]?=some c->c[j]?=some x->∃ y,cs[i * (T e).size+j]?=some y/\RelD w S x y/\y.oneCell'=true)
def zgT (w:World) (S:Addr->Prop) (es:List (AV × AV)) (g:Nat):Prop:=∃ (l:List (AV × AV)) (ents:Array MapEntry),l.Perm es/\w.heap[g]?=some (.map ents l.length)/\ents.size=l.length /\
 ∀ (i:Nat) (k x:AV),l[i]?=some (k,x)->∃ (kv xv:Value),ents[i]?=some ⟨kv,xv,i⟩/\RelD w S k kv/\RelD w S x xv
structure Rel (E:Env0) (h:Heap) (β:List Con) (S:Addr->Prop) (w:World):Prop where
 len:β.length=h.length
 box:∀ (b:Nat) (cs:List AV),h[b]?=some (.box cs)->∃ (g:Nat) (vs:List Value) (t:TypeId),β[b]?=some (.box g)/\w.heap[g]?=some (.cells vs.toArray t (0,0))/\cs.length=vs.length /\
  ∀ (i:Nat) (x:AV) (y:Value),cs[i]?=some x->vs[i]?=some y->RelV E.T h β w S x y/\y.oneCell'=true
 row:∀ (b:Nat) (e:TypeId) (xs:List (List AV)) (sh:Bool),h[b]?=some (.row e xs sh)->∃ k,β[b]?=some k/\zdM E.T w S e xs k
 mp:∀ (b:Nat) (es:List (AV × AV)),h[b]?=some (.mp es)->∃ g,β[b]?=some (.mp g)/\zgT w S es g
 apart:∀ (b b':Nat) (k k':Con) (g:Nat),β[b]?=some k->β[b']?=some k'->k.blk=some g->k'.blk=some g->b=b'
 lt:∀ (b:Nat) (k:Con) (g:Nat),β[b]?=some k->k.blk=some g->g < w.heap.size
 stable:∀ a,S a->a.block < w.heap.size
 free:∀ (b:Nat) (k:Con) (g:Nat) (a:Addr),β[b]?=some k->k.blk=some g->S a->a.block=g->∃ e xs,h[b]?=some (.row e xs true)/\a.off < xs.length * (E.T e).size
 glob:∀ g cs,E.G g=some cs->RelD w S (.dp cs) (.pointer (some ⟨g,0,none⟩))
structure BelowD (B:Nat) (w w':World):Prop extends Below B w w' where
 drawn:w.drawn<=w'.drawn
theorem BelowD.refl (B:Nat) (w:World):BelowD B w w:=⟨Below.refl B w,yJ _⟩
theorem BelowD.alloc {B:Nat} {a w:World} (h:BelowD B a w) (hB:B<=w.heap.size) (o:Obj):BelowD B a (w.alloc o):=⟨h.toBelow.alloc hB o,h.drawn⟩
theorem BelowD.drew {B:Nat} {a w:World} (h:BelowD B a w):BelowD B a w.drew:=⟨h.toBelow.drew,Nat.le_succ_of_le h.drawn⟩
structure Ext (h:Heap) (β:List Con) (S:Addr->Prop) (w:World) (h':Heap) (β':List Con) (S':Addr->Prop) (w':World):Prop where
 box:∀ (b:Nat) (cs:List AV),h[b]?=some (.box cs)->∃ cs',h'[b]?=some (.box cs')
 con:∀ (b g:Nat),β[b]?=some (.box g)->β'[b]?=some (.box g)
 row:∀ (b:Nat) (e:TypeId) (xs:List (List AV)) (sh:Bool),h[b]?=some (.row e xs sh)->∃ xs' sh',h'[b]?=some (.row e xs' sh')/\xs.length<=xs'.length/\(xs'.length=xs.length->β'[b]?=β[b]?)
 mp:∀ (b:Nat) (es:List (AV × AV)),h[b]?=some (.mp es)->∃ es',h'[b]?=some (.mp es'):=by
  intro b es hb;first|exact ⟨es,hb⟩|exact ⟨es,by rw [yH (yB.1 hb).1];exact hb⟩
 conm:∀ (b g:Nat),β[b]?=some (.mp g)->β'[b]?=some (.mp g):=by
  intro b g hb;first|exact hb|(rw [yH (yB.1 hb).1];exact hb)
 S_le:∀ a,S a->S' a
 S_cell:∀ a,S a->w'.cell? a=w.cell? a
 S_new:∀ a,S' a->S a\/w.heap.size<=a.block\/∃ (b:Nat) (k:Con),β[b]?=some k/\k.blk=some a.block
 os:w'.os=w.os
 tape:w'.tape=w.tape
 drawn:w.drawn<=w'.drawn
 output:w'.output=w.output
 size:w.heap.size<=w'.heap.size
 keep:∀ g,g < w.heap.size->(∀ (b:Nat) (k:Con),β[b]?=some k->k.blk≠some g)->w'.heap[g]?=w.heap[g]?
 new:∀ (b:Nat) (k:Con) (g:Nat),β'[b]?=some k->k.blk=some g->(∃ (b':Nat) (k':Con),β[b']?=some k'/\k'.blk=some g/\b'=b)\/w.heap.size<=g
theorem Ext.refl (h:Heap) (β:List Con) (S:Addr->Prop) (w:World):Ext h β S w h β S w where
 box:=fun _ cs hb=>⟨cs,hb⟩
 con:=fun _ _ h=>h
 row:=fun _ _ xs sh hb=>⟨xs,sh,hb,yJ _,fun _=>rfl⟩
 S_le:=fun _ h=>h
 S_cell:=fun _ _=>rfl
 S_new:=fun _ h=>.inl h
 os:=rfl
 tape:=rfl
 drawn:=yJ _
 output:=rfl
 size:=yJ _
 keep:=fun _ _ _=>rfl
 new:=fun b k _ hb hk=>.inl ⟨b,k,hb,hk,rfl⟩
theorem Ext.trans {h h1 h2:Heap} {β β1 β2:List Con} {S S1 S2:Addr->Prop} {w w1 w2:World} (x:Ext h β S w h1 β1 S1 w1) (y:Ext h1 β1 S1 w1 h2 β2 S2 w2):Ext h β S w h2 β2 S2 w2 where
 box:=fun b cs hb=>by obtain ⟨cs1,h1⟩:=x.box b cs hb;exact y.box b cs1 h1
 con:=fun b g hb=>y.con b g (x.con b g hb)
 mp:=fun b es hb=>by obtain ⟨e1,h1⟩:=x.mp b es hb;exact y.mp b e1 h1
 conm:=fun b g hb=>y.conm b g (x.conm b g hb)
 row:=fun b e xs sh hb=>by
  obtain ⟨xs1,sh1,a1,a2,a3⟩:=x.row b e xs sh hb
  obtain ⟨xs2,sh2,b1,b2,b3⟩:=y.row b e xs1 sh1 a1
  exact ⟨xs2,sh2,b1,Nat.le_trans a2 b2,fun he=>(b3 (by omega)).trans (a3 (by omega))⟩
 S_le:=fun a ha=>y.S_le a (x.S_le a ha)
 S_cell:=fun a ha=>(y.S_cell a (x.S_le a ha)).trans (x.S_cell a ha)
 S_new:=fun a ha=>by
  rcases y.S_new a ha with h1|h1|⟨b,k,h1,h2⟩
  ·exact x.S_new a h1
  ·exact .inr (.inl (Nat.le_trans x.size h1))
  ·rcases x.new b k _ h1 h2 with ⟨b',k',c1,c2,_⟩|c
   ·exact .inr (.inr ⟨b',k',c1,c2⟩)
   ·exact .inr (.inl c)
 os:=y.os.trans x.os
 tape:=y.tape.trans x.tape
 drawn:=Nat.le_trans x.drawn y.drawn
 output:=y.output.trans x.output
 size:=Nat.le_trans x.size y.size
 keep:=fun g hg hne=>by
  rw [← x.keep g hg hne]
  refine y.keep g (yAa hg x.size) fun b k hb hk=>?_
  rcases x.new b k g hb hk with ⟨b',k',c1,c2,_⟩|c
  ·exact hne b' k' c1 c2
  ·omega
 new:=fun b k g hb hk=>by
  rcases y.new b k g hb hk with ⟨b',k',c1,c2,rfl⟩|c
  ·exact x.new b' k' g c1 c2
  ·exact .inr (Nat.le_trans x.size c)
theorem RelV.ext {T:TypeId->TI} {h h':Heap} {β β':List Con} {S S':Addr->Prop} {w w':World} (hx:Ext h β S w h' β' S' w') {x:AV} {y:Value} (hr:RelV T h β w S x y):RelV T h' β' w' S' x y:=by
 induction hr with
 | d x y hd=>exact .d x y (hd.mono hx.S_le hx.S_cell)
 | agg cs vs hl ho _ ih=>exact .agg cs vs hl ho ih
 | tup cs vs hl _ ih=>exact .tup cs vs hl ih
 | nl a=>exact .nl a
 | p b off g hb=>exact .p b off g (hx.con b g hb)
 | own b n y e xs sh hb hn hy ho =>
  obtain ⟨xs',sh',a1,a2,a3⟩:=hx.row b e xs sh hb
  exact .own b n y e xs' sh' a1 (by omega) (fun he=>by rw [a3 (by omega)];exact hy (by omega)) ho
 | ep b n i off g e xs sh hb hn hy =>
  obtain ⟨xs',sh',a1,a2,a3⟩:=hx.row b e xs sh hb
  exact .ep b n i off g e xs' sh' a1 (by omega) (fun he=>by rw [a3 (by omega)];exact hy (by omega))
 | os b n lo hi y e xs sh hb hn hl hh ho hy =>
  obtain ⟨xs',sh',a1,a2,a3⟩:=hx.row b e xs sh hb
  exact .os b n lo hi y e xs' sh' a1 (by omega) hl hh ho (fun he=>by rw [a3 (by omega)];exact hy (by omega))
 | fn f caps vs hl _ ih=>exact .fn f caps vs hl ih
 | mp b g hb=>exact .mp b g (hx.conm b g hb)
def zaF (T:TypeId->TI) (h:Heap) (β:List Con) (w:World) (S:Addr->Prop) (ts:TS) (tmps:Array Value):Prop:=∀ t,RelV T h β w S (look ts t) (tmps.getD t undef)
theorem zdM.ext {T:TypeId->TI} {w w':World} {S S':Addr->Prop} {e:TypeId} {xs:List (List AV)} {k:Con} (hS:∀ a,S a->S' a) (hc:∀ a,S a->w'.cell? a=w.cell? a)
  (hg:∀ g,k.blk=some g->w'.heap[g]?=w.heap[g]?) (h:zdM T w S e xs k):zdM T w' S' e xs k:=by
 cases k with
 | box g=>exact h
 | nil a=>exact h
 | mp g=>exact h
 | row g cap =>
  obtain ⟨cs,h1,h2,h3,h4,h5,h6,h7⟩:=h
  exact ⟨cs,(hg g rfl).trans h1,h2,h3,h4,h5,h6,fun i j c x hi hj=>by
   obtain ⟨y,a1,a2,a3⟩:=h7 i j c x hi hj
   exact ⟨y,a1,a2.mono hS hc,a3⟩⟩
theorem zgT.ext {w w':World} {S S':Addr->Prop} {es:List (AV × AV)} {g:Nat} (hS:∀ a,S a->S' a) (hc:∀ a,S a->w'.cell? a=w.cell? a) (hg:w'.heap[g]?=w.heap[g]?) (h:zgT w S es g):zgT w' S' es g:=by
 obtain ⟨l,ents,h1,h2,h3,h4⟩:=h
 exact ⟨l,ents,h1,hg.trans h2,h3,fun i k x hi=>by
  obtain ⟨kv,xv,a1,a2,a3⟩:=h4 i k x hi
  exact ⟨kv,xv,a1,a2.mono hS hc,a3.mono hS hc⟩⟩
theorem Rel.con_of {E:Env0} {h:Heap} {β:List Con} {S:Addr->Prop} {w:World} (r:Rel E h β S w) {b:Nat} {k:Con} (hb:β[b]?=some k):∃ x,h[b]?=some x:=by
 have hl:b < β.length:=(yB.1 hb).1
 exact ⟨_,yE (by rw [← r.len];exact hl)⟩
theorem Rel.own_os {E:Env0} {h:Heap} {β:List Con} {S:Addr->Prop} {w:World} (r:Rel E h β S w) {b n:Nat} {y:Value} (hr:RelV E.T h β w S (.own b n) y):RelV E.T h β w S (.os b n 0 n) y:=by
 cases hr with
 | d _ _ hd=>cases hd
 | own _ _ _ e xs sh hb hn hy ho =>
  refine .os b n 0 n y e xs sh hb hn (yAh _) (yJ _) ho fun he=>?_
  have:=hy he
  obtain ⟨k,hk,hrow⟩:=r.row b e xs sh hb
  rw [hk] at this
  refine ⟨k,hk,?_⟩
  cases k with
  | box _=>cases this
  | mp _=>cases this
  | nil a =>
   have hx:xs=[]:=hrow
   simp only [yAl,Con.cur,yA] at this
   exact ⟨by rw [he,hx];rfl,a,this.symm⟩
  | row g cap =>
   simp only [yAl,Con.cur,yA] at this
   exact ⟨some ⟨g,0,none⟩,by rw [← this];rfl,fun _=>by simp⟩
theorem getElem?_append_new {α:Type} (l:List α) (x:α):(l++[x])[l.length]?=some x:=by simp
theorem getElem?_append_old {α:Type} (l:List α) (x:α) {b:Nat} (h:b≠l.length):(l++[x])[b]?=l[b]?:=by
 by_cases hb:b < l.length
 ·rw [yH hb]
 ·rw [yAX (by simp;omega),yAX (by omega)]
theorem Rel.upd {E:Env0} {h h':Heap} {β β':List Con} {S S':Addr->Prop} {w w':World} (r:Rel E h β S w) (x:Ext h β S w h' β' S' w') (b0:Nat) (hlen:β'.length=h'.length)
  (hold:∀ b,b≠b0->h'[b]?=h[b]?/\β'[b]?=β[b]?/\∀ k g,β[b]?=some k->k.blk=some g->w'.heap[g]?=w.heap[g]?)
  (hbox:∀ cs,h'[b0]?=some (.box cs)->∃ (g:Nat) (vs:List Value) (t:TypeId),β'[b0]?=some (.box g)/\w'.heap[g]?=some (.cells vs.toArray t (0,0))/\cs.length=vs.length /\
   ∀ (i:Nat) (x:AV) (y:Value),cs[i]?=some x->vs[i]?=some y->RelV E.T h' β' w' S' x y/\y.oneCell'=true)
  (hrow:∀ e xs sh,h'[b0]?=some (.row e xs sh)->∃ k,β'[b0]?=some k/\zdM E.T w' S' e xs k)
  (hlt:∀ k g,β'[b0]?=some k->k.blk=some g->g < w'.heap.size/\∀ b k',b≠b0->β[b]?=some k'->k'.blk≠some g)
  (hst:∀ a,S' a->a.block < w'.heap.size)
  (hS:∀ a,S' a->S a\/∀ b k,b≠b0->β[b]?=some k->k.blk≠some a.block)
  (hfree:∀ k g a,β'[b0]?=some k->k.blk=some g->S' a->a.block=g->∃ e xs,h'[b0]?=some (.row e xs true)/\a.off < xs.length * (E.T e).size)
  (hmp:∀ es,h'[b0]?=some (.mp es)->∃ g,β'[b0]?=some (.mp g)/\zgT w' S' es g:=by (intro es hc;first|(rw [getElem?_append_new] at hc;cases hc)|(simp at hc;done)|simp_all)):Rel E h' β' S' w' where
 len:=hlen
 box:=fun b cs hb=>by
  by_cases e:b=b0
  ·subst e;exact hbox cs hb
  ·obtain ⟨a1,a2,a3⟩:=hold b e
   rw [a1] at hb
   obtain ⟨g,vs,t,c1,c2,c3,c4⟩:=r.box b cs hb
   exact ⟨g,vs,t,a2.trans c1,(a3 _ g c1 rfl).trans c2,c3,fun i u v hu hv=>⟨(c4 i u v hu hv).1.ext x,(c4 i u v hu hv).2⟩⟩
 row:=fun b e xs sh hb=>by
  by_cases e0:b=b0
  ·subst e0;exact hrow e xs sh hb
  ·obtain ⟨a1,a2,a3⟩:=hold b e0
   rw [a1] at hb
   obtain ⟨k,c1,c2⟩:=r.row b e xs sh hb
   exact ⟨k,a2.trans c1,c2.ext x.S_le x.S_cell fun g hg=>a3 k g c1 hg⟩
 mp:=fun b es hb=>by
  by_cases e0:b=b0
  ·subst e0;exact hmp es hb
  ·obtain ⟨a1,a2,a3⟩:=hold b e0
   rw [a1] at hb
   obtain ⟨g,c1,c2⟩:=r.mp b es hb
   exact ⟨g,a2.trans c1,c2.ext x.S_le x.S_cell (a3 _ g c1 rfl)⟩
 apart:=fun b b' k k' g hb hb' hk hk'=>by
  by_cases e:b=b0 <;> by_cases e':b'=b0
  ·rw [e,e']
  ·subst e
   rw [(hold b' e').2.1] at hb'
   exact absurd hk' ((hlt k g hb hk).2 b' k' e' hb')
  ·subst e'
   rw [(hold b e).2.1] at hb
   exact absurd hk ((hlt k' g hb' hk').2 b k e hb)
  ·rw [(hold b e).2.1] at hb
   rw [(hold b' e').2.1] at hb'
   exact r.apart b b' k k' g hb hb' hk hk'
 lt:=fun b k g hb hk=>by
  by_cases e:b=b0
  ·subst e;exact (hlt k g hb hk).1
  ·rw [(hold b e).2.1] at hb
   exact yAa (r.lt b k g hb hk) x.size
 stable:=hst
 free:=fun b k g a hb hk ha hg=>by
  by_cases e:b=b0
  ·subst e;exact hfree k g a hb hk ha hg
  ·rw [(hold b e).2.1] at hb
   rcases hS a ha with h1|h1
   ·obtain ⟨e',xs,c1,c2⟩:=r.free b k g a hb hk h1 hg
    exact ⟨e',xs,(hold b e).1.trans c1,c2⟩
   ·exact absurd (hg ▸ hk) (h1 b k e hb)
 glob:=fun g cs hg=>(r.glob g cs hg).mono x.S_le x.S_cell
theorem Ext.grow {E:Env0} {h:Heap} {β:List Con} {S S':Addr->Prop} {w w':World} (r:Rel E h β S w) (hb:BelowD w.heap.size w w') (hS:∀ a,S a->S' a)
  (hn:∀ a,S' a->S a\/w.heap.size<=a.block):Ext h β S w h β S' w' where
 box:=fun _ cs hb=>⟨cs,hb⟩
 con:=fun _ _ h=>h
 row:=fun _ _ xs sh hb=>⟨xs,sh,hb,yJ _,fun _=>rfl⟩
 S_le:=hS
 S_cell:=fun a ha=>hb.cell (r.stable a ha)
 S_new:=fun a ha=>(hn a ha).imp id .inl
 os:=hb.os
 tape:=hb.tape
 drawn:=hb.drawn
 output:=hb.output
 size:=hb.size
 keep:=fun g hg _=>hb.block g hg
 new:=fun b k _ hb hk=>.inl ⟨b,k,hb,hk,rfl⟩
theorem Rel.grow {E:Env0} {h:Heap} {β:List Con} {S S':Addr->Prop} {w w':World} (r:Rel E h β S w) (hb:BelowD w.heap.size w w') (hS:∀ a,S a->S' a)
  (hn:∀ a,S' a->S a\/(w.heap.size<=a.block/\a.block < w'.heap.size)):Rel E h β S' w':=by
 have x:Ext h β S w h β S' w':=Ext.grow r hb hS fun a ha=>(hn a ha).imp id And.left
 refine r.upd x h.length r.len (fun b _=>⟨rfl,rfl,fun k g hk hg=>hb.block g (r.lt b k g hk hg)⟩) (by simp) (by simp) ?_ ?_ ?_ ?_
 ·intro k g hk _
  have:=(yB.1 hk).1
  rw [r.len] at this
  omega
 ·intro a ha
  rcases hn a ha with h1|⟨_,h1⟩
  ·exact yAa (r.stable a h1) hb.size
  ·exact h1
 ·intro a ha
  rcases hn a ha with h1|⟨h1,_⟩
  ·exact .inl h1
  ·refine .inr fun b k _ hk hg=>?_
   have:=r.lt b k _ hk hg
   omega
 ·intro k g a hk
  have:=(yB.1 hk).1
  rw [r.len] at this
  omega
theorem Rel.newBox {E:Env0} {h:Heap} {β:List Con} {S:Addr->Prop} {w:World} (r:Rel E h β S w) (cs:List AV) (vs:List Value) (t:TypeId) (hl:cs.length=vs.length)
  (hv:∀ (i:Nat) (x:AV) (y:Value),cs[i]?=some x->vs[i]?=some y->RelV E.T h β w S x y/\y.oneCell'=true) :
  Ext h β S w (h++[.box cs]) (β++[.box w.heap.size]) S (w.alloc (.cells vs.toArray t))/\Rel E (h++[.box cs]) (β++[.box w.heap.size]) S (w.alloc (.cells vs.toArray t)):=by
 have hbl:BelowD w.heap.size w (w.alloc (.cells vs.toArray t)):=(BelowD.refl _ _).alloc (yJ _) _
 have x:Ext h β S w (h++[.box cs]) (β++[.box w.heap.size]) S (w.alloc (.cells vs.toArray t)):={
  box:=fun b cs' hb=>⟨cs',by rw [yH (yB.1 hb).1];exact hb⟩
  con:=fun b g hb=>by rw [yH (yB.1 hb).1];exact hb
  row:=fun b e xs sh hb=>by
   have hlt:=(yB.1 hb).1
   exact ⟨xs,sh,by rw [yH hlt];exact hb,yJ _,fun _=>by rw [yH (by rw [r.len];exact hlt)]⟩
  S_le:=fun _ h=>h
  S_cell:=fun a ha=>hbl.cell (r.stable a ha)
  S_new:=fun _ h=>.inl h
  os:=hbl.os
  tape:=hbl.tape
  drawn:=hbl.drawn
  output:=hbl.output
  size:=hbl.size
  keep:=fun g hg _=>hbl.block g hg
  new:=fun b k g hb hk=>by
   by_cases e:b=β.length
   ·subst e
    rw [getElem?_append_new] at hb
    cases hb
    cases hk
    exact .inr (yJ _)
   ·rw [getElem?_append_old _ _ e] at hb
    exact .inl ⟨b,k,hb,hk,rfl⟩ }
 refine ⟨x,r.upd x h.length (by simp [r.len]) ?_ ?_ ?_ ?_ ?_ ?_ ?_⟩
 ·intro b hb
  exact ⟨getElem?_append_old _ _ hb,getElem?_append_old _ _ (by rw [r.len];exact hb),fun k g hk hg=>hbl.block g (r.lt b k g hk hg)⟩
 ·intro cs' hc
  rw [getElem?_append_new] at hc
  cases hc
  refine ⟨w.heap.size,vs,t,by rw [← r.len,getElem?_append_new],heap_alloc_new w _,hl,fun i u y hu hy=>⟨(hv i u y hu hy).1.ext x,(hv i u y hu hy).2⟩⟩
 ·intro e xs sh hc
  rw [getElem?_append_new] at hc
  cases hc
 ·intro k g hk hg
  rw [← r.len,getElem?_append_new] at hk
  cases hk
  cases hg
  refine ⟨by simp,fun b k' _ hk' he=>?_⟩
  have:=r.lt b k' _ hk' he
  omega
 ·intro a ha
  exact yAa (r.stable a ha) hbl.size
 ·exact fun a ha=>.inl ha
 ·intro k g a hk hg ha he
  rw [← r.len,getElem?_append_new] at hk
  cases hk
  cases hg
  have:=r.stable a ha
  omega
structure Turn (h:Heap) (β:List Con) (S:Addr->Prop) (w:World) (b0:Nat) (B':Blk) (k k':Con) (S':Addr->Prop) (w':World):Prop where
 kb:β[b0]?=some k
 box:∀ cs,h[b0]?=some (.box cs)->(∃ cs',B'=.box cs')/\k'=k
 row:∀ e xs sh,h[b0]?=some (.row e xs sh)->∃ xs' sh',B'=.row e xs' sh'/\xs.length<=xs'.length/\(xs'.length=xs.length->k'=k)
 mp:∀ es,h[b0]?=some (.mp es)->(∃ es',B'=.mp es')/\k'=k:=by (intro es hc;simp_all)
 S_le:∀ a,S a->S' a
 S_cell:∀ a,S a->w'.cell? a=w.cell? a
 S_new:∀ a,S' a->S a\/w.heap.size<=a.block\/k.blk=some a.block
 S_lt:∀ a,S' a->a.block < w'.heap.size
 os:w'.os=w.os
 tape:w'.tape=w.tape
 drawn:w.drawn<=w'.drawn
 output:w'.output=w.output
 size:w.heap.size<=w'.heap.size
 keep:∀ g,g < w.heap.size->k.blk≠some g->w'.heap[g]?=w.heap[g]?
 own:∀ g,k'.blk=some g->(k.blk=some g\/w.heap.size<=g)/\g < w'.heap.size
theorem zbq {α:Type} {l:List α} {b:Nat} {x y:α} (h:l[b]?=some y):(l.set b x)[b]?=some x:=by
 rw [yAI (yB.1 h).1]
theorem zbo {α:Type} {l:List α} {b c:Nat} {x:α} (h:c≠b):(l.set b x)[c]?=l[c]?:=by
 rw [yZ (Ne.symm h)]
theorem Rel.turnExt {E:Env0} {h:Heap} {β:List Con} {S S':Addr->Prop} {w w':World} {b0:Nat} {B B':Blk} {k k':Con} (r:Rel E h β S w) (hB:h[b0]?=some B)
  (t:Turn h β S w b0 B' k k' S' w'):Ext h β S w (h.set b0 B') (β.set b0 k') S' w' where
 box:=fun b cs hb=>by
  by_cases e:b=b0
  ·subst e
   obtain ⟨⟨cs',h1⟩,_⟩:=t.box cs hb
   exact ⟨cs',by rw [zbq hb,h1]⟩
  ·exact ⟨cs,by rw [zbo e];exact hb⟩
 con:=fun b g hb=>by
  by_cases e:b=b0
  ·subst e
   have hk:k=.box g:=by have:=t.kb;rw [hb] at this;cases this;rfl
   obtain ⟨x,hx⟩:=r.con_of hb
   cases x with
   | box cs=>rw [zbq hb,(t.box cs hx).2,hk]
   | row e xs sh =>
    obtain ⟨k1,c1,c2⟩:=r.row b e xs sh hx
    rw [hb] at c1
    cases c1
    exact c2.elim
   | mp es =>
    obtain ⟨g1,c1,_⟩:=r.mp b es hx
    rw [hb] at c1
    cases c1
  ·rw [zbo e];exact hb
 mp:=fun b es hb=>by
  by_cases e:b=b0
  ·subst e
   obtain ⟨⟨es',h1⟩,_⟩:=t.mp es hb
   exact ⟨es',by rw [zbq hb,h1]⟩
  ·exact ⟨es,by rw [zbo e];exact hb⟩
 conm:=fun b g hb=>by
  by_cases e:b=b0
  ·subst e
   have hk:k=.mp g:=by have:=t.kb;rw [hb] at this;cases this;rfl
   obtain ⟨x,hx⟩:=r.con_of hb
   cases x with
   | mp es=>rw [zbq hb,(t.mp es hx).2,hk]
   | box cs =>
    obtain ⟨g1,vs,ty,c1,_⟩:=r.box b cs hx
    rw [hb] at c1
    cases c1
   | row e xs sh =>
    obtain ⟨k1,c1,c2⟩:=r.row b e xs sh hx
    rw [hb] at c1
    cases c1
    exact c2.elim
  ·rw [zbo e];exact hb
 row:=fun b e xs sh hb=>by
  by_cases e0:b=b0
  ·subst e0
   obtain ⟨xs',sh',h1,h2,h3⟩:=t.row e xs sh hb
   exact ⟨xs',sh',by rw [zbq hb,h1],h2,fun he=>by rw [zbq t.kb,t.kb,h3 he]⟩
  ·exact ⟨xs,sh,by rw [zbo e0];exact hb,yJ _,fun _=>by rw [zbo e0]⟩
 S_le:=t.S_le
 S_cell:=t.S_cell
 S_new:=fun a ha=>by
  rcases t.S_new a ha with h1|h1|h1
  ·exact .inl h1
  ·exact .inr (.inl h1)
  ·exact .inr (.inr ⟨b0,k,t.kb,h1⟩)
 os:=t.os
 tape:=t.tape
 drawn:=t.drawn
 output:=t.output
 size:=t.size
 keep:=fun g hg hne=>t.keep g hg (hne b0 k t.kb)
 new:=fun b k1 g hb hk=>by
  by_cases e:b=b0
  ·subst e
   rw [zbq t.kb] at hb
   cases hb
   rcases (t.own g hk).1 with h1|h1
   ·exact .inl ⟨b,k,t.kb,h1,rfl⟩
   ·exact .inr h1
  ·rw [zbo e] at hb
   exact .inl ⟨b,k1,hb,hk,rfl⟩
theorem Rel.turn {E:Env0} {h:Heap} {β:List Con} {S S':Addr->Prop} {w w':World} {b0:Nat} {B B':Blk} {k k':Con} (r:Rel E h β S w) (hB:h[b0]?=some B)
  (t:Turn h β S w b0 B' k k' S' w')
  (hbox:∀ cs,B'=.box cs->∃ (g:Nat) (vs:List Value) (t:TypeId),k'=.box g/\w'.heap[g]?=some (.cells vs.toArray t (0,0))/\cs.length=vs.length /\
   ∀ (i:Nat) (x:AV) (y:Value),cs[i]?=some x->vs[i]?=some y->RelV E.T (h.set b0 B') (β.set b0 k') w' S' x y/\y.oneCell'=true)
  (hrow:∀ e xs sh,B'=.row e xs sh->zdM E.T w' S' e xs k')
  (hfree:∀ g a,k'.blk=some g->S' a->a.block=g->∃ e xs,B'=.row e xs true/\a.off < xs.length * (E.T e).size)
  (hmp:∀ es,B'=.mp es->∃ g,k'=.mp g/\zgT w' S' es g:=by (intro es he;first|(cases he;done)|simp_all)) :
  Rel E (h.set b0 B') (β.set b0 k') S' w':=by
 have x:=r.turnExt hB t
 have hk:(β.set b0 k')[b0]?=some k':=zbq t.kb
 have hh:(h.set b0 B')[b0]?=some B':=zbq hB
 refine r.upd x b0 (by simp [r.len]) ?_ ?_ ?_ ?_ t.S_lt ?_ ?_ (fun es hc=>by
  rw [hh] at hc
  cases hc
  obtain ⟨g,c1,c2⟩:=hmp es rfl
  exact ⟨g,by rw [hk,c1],c2⟩)
 ·intro b e
  refine ⟨zbo e,zbo e,fun k1 g h1 h2=>t.keep g (r.lt b k1 g h1 h2) fun h3=>e (r.apart b b0 k1 k g h1 t.kb h2 h3)⟩
 ·intro cs hc
  rw [hh] at hc
  cases hc
  obtain ⟨g,vs,t',c1,c2,c3,c4⟩:=hbox cs rfl
  exact ⟨g,vs,t',by rw [hk,c1],c2,c3,c4⟩
 ·intro e xs sh hc
  rw [hh] at hc
  cases hc
  exact ⟨k',hk,hrow e xs sh rfl⟩
 ·intro k1 g h1 h2
  rw [hk] at h1
  cases h1
  refine ⟨(t.own g h2).2,fun b k2 e h3 h4=>?_⟩
  rcases (t.own g h2).1 with h5|h5
  ·exact e (r.apart b b0 k2 k g h3 t.kb h4 h5)
  ·have:=r.lt b k2 g h3 h4
   omega
 ·intro a ha
  rcases t.S_new a ha with h1|h1|h1
  ·exact .inl h1
  ·refine .inr fun b k1 _ h2 h3=>?_
   have:=r.lt b k1 _ h2 h3
   omega
  ·exact .inr fun b k1 e h2 h3=>e (r.apart b b0 k1 k _ h2 t.kb h3 h1)
 ·intro k1 g a h1 h2 h3 h4
  rw [hk] at h1
  cases h1
  obtain ⟨e,xs,c1,c2⟩:=hfree g a h2 h3 h4
  exact ⟨e,xs,by rw [hh,c1],c2⟩
theorem Rel.newRow {E:Env0} {h:Heap} {β:List Con} {S:Addr->Prop} {w w':World} (r:Rel E h β S w) (e:TypeId) (xs:List (List AV)) (sh:Bool) (k:Con) (hb:BelowD w.heap.size w w')
  (hk:∀ g,k.blk=some g->w.heap.size<=g/\g < w'.heap.size) (hrow:zdM E.T w' S e xs k) :
  Ext h β S w (h++[.row e xs sh]) (β++[k]) S w'/\Rel E (h++[.row e xs sh]) (β++[k]) S w':=by
 have x:Ext h β S w (h++[.row e xs sh]) (β++[k]) S w':={
  box:=fun b cs' hb=>⟨cs',by rw [yH (yB.1 hb).1];exact hb⟩
  con:=fun b g hb=>by rw [yH (yB.1 hb).1];exact hb
  row:=fun b e xs sh hb=>by
   have hlt:=(yB.1 hb).1
   exact ⟨xs,sh,by rw [yH hlt];exact hb,yJ _,fun _=>by rw [yH (by rw [r.len];exact hlt)]⟩
  S_le:=fun _ h=>h
  S_cell:=fun a ha=>hb.cell (r.stable a ha)
  S_new:=fun _ h=>.inl h
  os:=hb.os
  tape:=hb.tape
  drawn:=hb.drawn
  output:=hb.output
  size:=hb.size
  keep:=fun g hg _=>hb.block g hg
  new:=fun b k1 g hb1 hk1=>by
   by_cases e:b=β.length
   ·subst e
    rw [getElem?_append_new] at hb1
    cases hb1
    exact .inr (hk g hk1).1
   ·rw [getElem?_append_old _ _ e] at hb1
    exact .inl ⟨b,k1,hb1,hk1,rfl⟩ }
 refine ⟨x,r.upd x h.length (by simp [r.len]) ?_ ?_ ?_ ?_ ?_ ?_ ?_⟩
 ·intro b hb1
  exact ⟨getElem?_append_old _ _ hb1,getElem?_append_old _ _ (by rw [r.len];exact hb1),fun k g hk hg=>hb.block g (r.lt b k g hk hg)⟩
 ·intro cs' hc
  rw [getElem?_append_new] at hc
  cases hc
 ·intro e xs sh hc
  rw [getElem?_append_new] at hc
  cases hc
  exact ⟨k,by rw [← r.len,getElem?_append_new],hrow⟩
 ·intro k1 g hk1 hg
  rw [← r.len,getElem?_append_new] at hk1
  cases hk1
  refine ⟨(hk g hg).2,fun b k' _ hk' he=>?_⟩
  have:=r.lt b k' _ hk' he
  have:=(hk g hg).1
  omega
 ·intro a ha
  exact yAa (r.stable a ha) hb.size
 ·exact fun a ha=>.inl ha
 ·intro k1 g a hk1 hg ha he
  rw [← r.len,getElem?_append_new] at hk1
  cases hk1
  have:=r.stable a ha
  have:=(hk g hg).1
  omega
theorem Rel.share {E:Env0} {h:Heap} {β:List Con} {S:Addr->Prop} {w:World} (r:Rel E h β S w) {b:Nat} {e:TypeId} {xs:List (List AV)} {sh:Bool} (hb:h[b]?=some (.row e xs sh)) :
  ∃ S',Ext h β S w (h.set b (.row e xs true)) β S' w/\Rel E (h.set b (.row e xs true)) β S' w /\
   ∀ k,β[b]?=some k->∀ y,k.cur xs.length=some y->RelD w S' (.sl xs) y:=by
 obtain ⟨k,hk,hr⟩:=r.row b e xs sh hb
 have hset:β.set b k=β:=by
  apply yAZ
  intro i
  by_cases hi:i=b
  ·subst hi;rw [zbq hk,hk]
  ·rw [zbo hi]
 let S':Addr->Prop:=fun a=>S a\/(∃ g cap,k=.row g cap/\a.block=g/\a.off < xs.length * (E.T e).size)
 have t:Turn h β S w b (.row e xs true) k k S' w:={
  kb:=hk
  box:=fun cs hc=>by rw [hb] at hc;cases hc
  row:=fun e1 xs1 sh1 h1=>by rw [hb] at h1;cases h1;exact ⟨xs,true,rfl,yJ _,fun _=>rfl⟩
  S_le:=fun a ha=>.inl ha
  S_cell:=fun _ _=>rfl
  S_new:=fun a ha=>by
   rcases ha with h1|⟨g,cap,h1,h2,_⟩
   ·exact .inl h1
   ·exact .inr (.inr (by rw [h1,h2];rfl))
  S_lt:=fun a ha=>by
   rcases ha with h1|⟨g,cap,h1,h2,_⟩
   ·exact r.stable a h1
   ·rw [h2];exact r.lt b k g hk (by rw [h1];rfl)
  os:=rfl
  tape:=rfl
  drawn:=yJ _
  output:=rfl
  size:=yJ _
  keep:=fun _ _ _=>rfl
  own:=fun g hg=>⟨.inl hg,r.lt b k g hk hg⟩ }
 have x:=r.turnExt hb t
 rw [hset] at x
 have hrel:Rel E (h.set b (.row e xs true)) β S' w:=by
  have:=r.turn hb t (fun cs hc=>by cases hc) (fun e1 xs1 sh1 h1=>by
   cases h1
   exact hr.ext (fun a ha=>.inl ha) (fun _ _=>rfl) (fun _ _=>rfl)) (fun g a hg ha hag=>by
    rcases ha with h1|⟨g',cap,h1,h2,h3⟩
    ·obtain ⟨e',xs',c1,c2⟩:=r.free b k g a hk hg h1 hag
     rw [hb] at c1
     cases c1
     exact ⟨e,xs,rfl,c2⟩
    ·exact ⟨e,xs,rfl,h3⟩)
  rwa [hset] at this
 refine ⟨S',x,hrel,fun k1 hk1 y hy=>?_⟩
 rw [hk] at hk1
 cases hk1
 cases k with
 | box g=>exact hr.elim
 | mp g=>exact hr.elim
 | nil a =>
  have hx:xs=[]:=hr
  subst hx
  cases hy
  exact .sl [] a 0 0 0 0 (fun _=>undef) (fun hn=>absurd rfl hn) (yJ _) (yAh _) (by simp) (by simp) (by simp)
 | row g cap =>
  obtain ⟨cs,h1,h2,h3,h4,h5,h6,h7⟩:=hr
  cases hy
  have hcell:∀ i j c x,xs[i]?=some c->c[j]?=some x->i * (E.T e).size+j < xs.length * (E.T e).size/\w.cell? ⟨g,0+(i * (E.T e).size+j),none⟩=cs[i * (E.T e).size+j]?:=by
   intro i j c x hi hj
   have hil:=(yB.1 hi).1
   have hjl:=(yB.1 hj).1
   rw [h6 i c hi] at hjl
   refine ⟨?_,by simp [World.cell?,h1]⟩
   calc i * (E.T e).size+j < i * (E.T e).size+(E.T e).size:=by omega
    _=(i+1) * (E.T e).size:=by rw [yAA,yAb]
    _<=xs.length * (E.T e).size:=yU _ (by omega)
  refine .sl xs _ cap g 0 (E.T e).size (fun i=>(cs[i]?).getD undef) (fun _=>rfl) h2 h4 h6 ?_ ?_
  ·intro i j c x hi hj
   obtain ⟨a1,a2⟩:=hcell i j c x hi hj
   obtain ⟨y,b1,b2,b3⟩:=h7 i j c x hi hj
   exact ⟨.inr ⟨g,cap,rfl,rfl,by simpa using a1⟩,by rw [a2,b1];rfl,by rw [b1];exact b3⟩
  ·intro i j c x hi hj
   obtain ⟨y,b1,b2,b3⟩:=h7 i j c x hi hj
   rw [b1]
   exact b2.mono (fun a ha=>.inl ha) (fun _ _=>rfl)
end Go.AM
namespace Go.AM
open Go.RowKit
def zbC (h:Heap) (b:Nat):Option (List (List AV)):=match h[b]? with
 | some (.row _ xs _)=>some xs
 | _=>none
theorem zpz {h:Heap} {b:Nat} {xs:List (List AV)} (hr:zbC h b=some xs):∃ e sh,h[b]?=some (.row e xs sh):=by
 unfold zbC at hr
 split at hr
 ·rename_i e ys sh he;cases hr;exact ⟨e,sh,he⟩
 ·cases hr
theorem zqp (h:Heap) (b n:Nat):frz h (.own b n)=match zbC h b with
 | some xs=>.sl xs
 | none=>.un:=by
 simp only [frz,zbC]
 split <;> simp_all
theorem zs7 (h:Heap) (b n lo hi:Nat):frz h (.os b n lo hi)=match zbC h b with
 | some xs=>.sl ((xs.take hi).drop lo)
 | none=>.un:=by
 simp only [frz,zbC]
 split <;> simp_all
theorem zny (h:Heap) (b n lo hi:Nat):frzO h (.os b n lo hi)=match zbC h b with
 | some xs=>n=xs.length
 | none=>True:=by
 simp only [frzO,zbC]
 split <;> simp_all
theorem zls (h:Heap) (b n:Nat):frzO h (.own b n)=match zbC h b with
 | some xs=>n=xs.length
 | none=>True:=by
 simp only [frzO,zbC]
 split <;> simp_all
mutual
theorem zzq {h h':Heap} (hs:∀ b,zbC h' b=zbC h b):∀ x,frz h' x=frz h x
 | .un|.v _|.bl _|.sl _|.dp _|.nl|.p _ _|.ep _ _ _ _|.fn _ _|.mp _=>by simp [frz]
 | .agg cs=>by simp only [frz];rw [zjt hs cs]
 | .tup cs=>by simp only [frz];rw [zjt hs cs]
 | .own b n=>by rw [zqp,zqp,hs]
 | .os b n _ _=>by rw [zs7,zs7,hs]
theorem zjt {h h':Heap} (hs:∀ b,zbC h' b=zbC h b):∀ l,frzL h' l=frzL h l
 | []=>by simp [frzL]
 | x::r=>by simp only [frzL];rw [zzq hs x,zjt hs r]
end
mutual
theorem zyh {h h':Heap} (hs:∀ b,zbC h' b=zbC h b):∀ x,frzO h' x=frzO h x
 | .un|.v _|.bl _|.sl _|.dp _|.nl|.p _ _|.ep _ _ _ _|.fn _ _|.mp _=>by simp [frzO]
 | .agg cs=>by simp only [frzO];rw [zhF hs cs]
 | .tup cs=>by simp only [frzO];rw [zhF hs cs]
 | .own b n=>by rw [zls,zls,hs]
 | .os b n _ _=>by rw [zny,zny,hs]
theorem zhF {h h':Heap} (hs:∀ b,zbC h' b=zbC h b):∀ l,zcK h' l=zcK h l
 | []=>by simp [zcK]
 | x::r=>by simp only [zcK];rw [zyh hs x,zhF hs r]
end
theorem ztD (h:Heap) (c b:Nat):zbC (zeQ h c) b=zbC h b:=by
 unfold zeQ
 split
 ·rename_i e xs sh hc
  by_cases e0:b=c
  ·subst e0
   simp only [zbC,zbq hc,hc]
  ·simp only [zbC,zbo e0]
 ·rfl
theorem zuZ (l:List Nat):∀ (h:Heap) (b:Nat),zbC (share h l) b=zbC h b:=by
 induction l with
 | nil=>intro h b;rfl
 | cons c l ih=>intro h b;simp only [share,List.foldl_cons] at ih ⊢;rw [ih,ztD]
theorem zng (h:Heap) (l m:List Nat):share h (l++m)=share (share h l) m:=by simp [share,List.foldl_append]
def FrzOK (E:Env0) (h h':Heap) (β:List Con) (S:Addr->Prop) (w:World) (S':Addr->Prop):Prop :=
 Ext h β S w h' β S' w/\Rel E h' β S' w
theorem zca {T:TypeId->TI} {h:Heap} {β:List Con} {w:World} {S:Addr->Prop} {x:AV} {y:Value} (hr:RelV T h β w S x y)
  (hx:match x with|.un|.v _|.bl _|.sl _|.dp _=>True|_=>False):RelD w S x y:=by
 cases hr with
 | d _ _ hd=>exact hd
 | agg=>exact hx.elim
 | tup=>exact hx.elim
 | nl=>exact hx.elim
 | p=>exact hx.elim
 | own=>exact hx.elim
 | ep=>exact hx.elim
 | os=>exact hx.elim
 | fn=>exact hx.elim
 | mp=>exact hx.elim
theorem RelV.agg_inv {T:TypeId->TI} {h:Heap} {β:List Con} {w:World} {S:Addr->Prop} {cs:List AV} {y:Value} (hr:RelV T h β w S (.agg cs) y) :
  ∃ vs:List Value,y=.agg vs.toArray/\cs.length=vs.length/\(∀ y∈vs,y.oneCell'=true)/\∀ (i:Nat) (x:AV) (y:Value),cs[i]?=some x->vs[i]?=some y->RelV T h β w S x y:=by
 cases hr with
 | d _ _ hd=>cases hd with|agg _ vs hl ho hv=>exact ⟨vs,rfl,hl,ho,fun i x y h1 h2=>.d _ _ (hv i x y h1 h2)⟩
 | agg _ vs hl ho hv=>exact ⟨vs,rfl,hl,ho,hv⟩
theorem RelV.tup_inv {T:TypeId->TI} {h:Heap} {β:List Con} {w:World} {S:Addr->Prop} {cs:List AV} {y:Value} (hr:RelV T h β w S (.tup cs) y) :
  ∃ vs:List Value,y=.tuple vs.toArray/\cs.length=vs.length/\∀ (i:Nat) (x:AV) (y:Value),cs[i]?=some x->vs[i]?=some y->RelV T h β w S x y:=by
 cases hr with
 | d _ _ hd=>cases hd with|tup _ vs hl hv=>exact ⟨vs,rfl,hl,fun i x y h1 h2=>.d _ _ (hv i x y h1 h2)⟩
 | tup _ vs hl hv=>exact ⟨vs,rfl,hl,hv⟩
theorem zcV (h:Heap):∀ l,(frzL h l).length=l.length
 | []=>by simp [frzL]
 | x::r=>by simp [frzL,zcV h r]
theorem RelD.part {w:World} {S:Addr->Prop} {xs:List (List AV)} {g n cap lo hi sz:Nat} {a:Option Addr} (hd:RelD w S (.sl xs) (.slice (some ⟨g,0,none⟩) n cap)) (hc:∀ c∈xs,c.length=sz) (hl:lo<=hi) (hh:hi<=xs.length)
  (ha:lo < cap->a=some ⟨g,lo * sz,none⟩):RelD w S (.sl ((xs.take hi).drop lo)) (.slice a (hi - lo) (cap - lo)):=by
 cases hd with
 | sl _ _ _ gg off size f f1 f2 f3 f4 f5 f6 =>
  have hlen:((xs.take hi).drop lo).length=hi - lo:=by simp;omega
  have hget:∀ (i:Nat) (c:List AV),((xs.take hi).drop lo)[i]?=some c->xs[lo+i]?=some c:=by
   intro i c hc
   rw [yX,yM] at hc
   split at hc
   ·exact hc
   ·cases hc
  have hne:((xs.take hi).drop lo)≠[]->lo < hi:=by
   intro hn
   rcases Nat.lt_or_ge lo hi with h1|h1
   ·exact h1
   ·exact absurd (yAQ (by omega)) hn
  have hx0:lo < hi->xs≠[]:=fun h1 e=>by rw [e] at hh;simp at hh;omega
  have hsz:xs≠[]->size=sz:=by
   intro hn
   obtain ⟨c,cs,rfl⟩:=yAk hn
   rw [← f4 0 c rfl]
   exact hc c (by simp)
  have hgg:xs≠[]->gg=g/\off=0:=fun hn=>by
   have:=f1 hn
   cases this
   exact ⟨rfl,rfl⟩
  rw [← hlen]
  refine .sl _ _ _ g (lo * sz) sz (fun k=>f (lo * sz+k)) ?_ (by omega) (by omega) (fun i c hi'=>hc c (yC (hget i c hi'))) (fun i j c x hi' hj=>?_) (fun i j c x hi' hj=>?_)
  ·intro hn
   have:=hne hn
   exact ha (by omega)
  ·have hn1:xs≠[]:=fun e=>by have:=hget i c hi';rw [e] at this;simp at this
   have:=f5 _ j c x (hget i c hi') hj
   obtain ⟨e1,e2⟩:=hgg hn1
   rw [hsz hn1,e1,e2] at this
   rw [show lo * sz+(i * sz+j)=(lo+i) * sz+j by rw [yAA];omega]
   simpa using this
  ·have hn1:xs≠[]:=fun e=>by have:=hget i c hi';rw [e] at this;simp at this
   have:=f6 _ j c x (hget i c hi') hj
   rw [hsz hn1] at this
   rw [show lo * sz+(i * sz+j)=(lo+i) * sz+j by rw [yAA];omega]
   exact this
mutual
theorem zo4 (E:Env0):∀ (x:AV) (h:Heap) (β:List Con) (S:Addr->Prop) (w:World) (y:Value),Rel E h β S w->RelV E.T h β w S x y->frzO h x ->
  ∃ S',FrzOK E h (share h (frzM x)) β S w S'/\RelD w S' (frz h x) y
 | .un,h,β,S,w,y,r,_,_=>⟨S,⟨Ext.refl _ _ _ _,r⟩,by simp only [frz];exact .un y⟩
 | .v _,h,β,S,w,y,r,hv,_=>⟨S,⟨Ext.refl _ _ _ _,r⟩,by simp only [frz];exact zca hv trivial⟩
 | .bl _,h,β,S,w,y,r,hv,_=>⟨S,⟨Ext.refl _ _ _ _,r⟩,by
   have hv':=zca hv trivial
   cases hv'
   simp only [frz]
   exact .v _ rfl⟩
 | .sl _,h,β,S,w,y,r,hv,_=>⟨S,⟨Ext.refl _ _ _ _,r⟩,by simp only [frz];exact zca hv trivial⟩
 | .dp _,h,β,S,w,y,r,hv,_=>⟨S,⟨Ext.refl _ _ _ _,r⟩,by simp only [frz];exact zca hv trivial⟩
 | .p _ _,h,β,S,w,y,r,_,_=>⟨S,⟨Ext.refl _ _ _ _,r⟩,by simp only [frz];exact .un y⟩
 | .ep _ _ _ _,h,β,S,w,y,r,_,_=>⟨S,⟨Ext.refl _ _ _ _,r⟩,by simp only [frz];exact .un y⟩
 | .fn _ _,h,β,S,w,y,r,_,_=>⟨S,⟨Ext.refl _ _ _ _,r⟩,by simp only [frz];exact .un y⟩
 | .mp _,h,β,S,w,y,r,_,_=>⟨S,⟨Ext.refl _ _ _ _,r⟩,by simp only [frz];exact .un y⟩
 | .nl,h,β,S,w,y,r,hv,_=>⟨S,⟨Ext.refl _ _ _ _,r⟩,by
   simp only [frz]
   cases hv with
   | d _ _ hd=>cases hd
   | nl a=>exact .sl [] a 0 0 0 0 (fun _=>undef) (fun hn=>absurd rfl hn) (yJ _) (yAh _) (by simp) (by simp) (by simp)⟩
 | .own b n,h,β,S,w,y,r,hv,ho=>by
   cases hv with
   | d _ _ hd=>cases hd
   | own _ _ _ e xs sh hb hn hy _ =>
    have hro:zbC h b=some xs:=by simp [zbC,hb]
    rw [zls,hro] at ho
    obtain ⟨S',x1,x2,x3⟩:=r.share hb
    have hsh:share h (frzM (.own b n))=h.set b (.row e xs true):=by simp [frzM,share,zeQ,hb]
    refine ⟨S',⟨by rw [hsh];exact x1,by rw [hsh];exact x2⟩,?_⟩
    rw [zqp,hro]
    have hcur:=hy ho
    cases hk:β[b]? with
    | none=>rw [hk] at hcur;cases hcur
    | some k=>rw [hk] at hcur;exact x3 k hk y (by rw [← ho];exact hcur)
 | .os b n lo hi,h,β,S,w,y,r,hv,ho=>by
   cases hv with
   | d _ _ hd=>cases hd
   | os _ _ _ _ _ e xs sh hb hn hl hh _ hy =>
    have hro:zbC h b=some xs:=by simp [zbC,hb]
    rw [zny,hro] at ho
    obtain ⟨S',x1,x2,x3⟩:=r.share hb
    have hsh:share h (frzM (.os b n lo hi))=h.set b (.row e xs true):=by simp [frzM,share,zeQ,hb]
    refine ⟨S',⟨by rw [hsh];exact x1,by rw [hsh];exact x2⟩,?_⟩
    rw [zs7,hro]
    obtain ⟨k,hk,hat⟩:=hy ho
    obtain ⟨k',hk',hrow⟩:=r.row b e xs sh hb
    rw [hk] at hk'
    cases hk'
    cases k with
    | box _=>exact hat.elim
    | mp _=>exact hat.elim
    | nil a =>
     obtain ⟨h1,a',rfl⟩:=hat
     have hx0:xs=[]:=hrow
     subst hx0
     simp only [List.take_nil,List.drop_nil]
     exact .sl [] a' 0 0 0 0 (fun _=>undef) (fun hn=>absurd rfl hn) (yJ _) (yAh _) (by simp) (by simp) (by simp)
    | row g cap =>
     obtain ⟨a,rfl,ha⟩:=hat
     have hfull:=x3 _ hk _ rfl
     obtain ⟨_,_,_,_,_,_,q6,_⟩:=hrow
     exact hfull.part (fun c hc=>by
      obtain ⟨i,hi⟩:=yQ hc
      exact q6 i c hi) hl (by omega) ha
 | .agg cs,h,β,S,w,y,r,hv,ho=>by
   obtain ⟨vs,rfl,hl,h1c,hv⟩:=hv.agg_inv
   simp only [frzO] at ho
   obtain ⟨S',h1,h2⟩:=zgq E cs h β S w vs r hl hv ho
   refine ⟨S',h1,?_⟩
   simp only [frz]
   exact .agg _ _ (by rw [zcV];exact hl) h1c h2
 | .tup cs,h,β,S,w,y,r,hv,ho=>by
   obtain ⟨vs,rfl,hl,hv⟩:=hv.tup_inv
   simp only [frzO] at ho
   obtain ⟨S',h1,h2⟩:=zgq E cs h β S w vs r hl hv ho
   refine ⟨S',h1,?_⟩
   simp only [frz]
   exact .tup _ _ (by rw [zcV];exact hl) h2
theorem zgq (E:Env0):∀ (l:List AV) (h:Heap) (β:List Con) (S:Addr->Prop) (w:World) (vs:List Value),Rel E h β S w->l.length=vs.length ->
  (∀ (i:Nat) (x:AV) (y:Value),l[i]?=some x->vs[i]?=some y->RelV E.T h β w S x y)->zcK h l ->
  ∃ S',FrzOK E h (share h (zbv l)) β S w S'/\∀ (i:Nat) (x:AV) (y:Value),(frzL h l)[i]?=some x->vs[i]?=some y->RelD w S' x y
 | [],h,β,S,w,vs,r,_,_,_=>⟨S,⟨Ext.refl _ _ _ _,r⟩,by simp [frzL]⟩
 | x::l,h,β,S,w,[],r,hl,_,_=>by simp at hl
 | x::l,h,β,S,w,v::vs,r,hl,hv,ho=>by
   simp only [zcK] at ho
   obtain ⟨S1,⟨e1,r1⟩,d1⟩:=zo4 E x h β S w v r (hv 0 x v rfl rfl) ho.1
   have hs:=zuZ (frzM x) h
   obtain ⟨S2,⟨e2,r2⟩,d2⟩:=zgq E l (share h (frzM x)) β S1 w vs r1 (by simpa using hl) (fun i a b h1 h2=>(hv (i+1) a b (by simpa using h1) (by simpa using h2)).ext e1)
    (by rw [zhF hs];exact ho.2)
   rw [zjt hs] at d2
   refine ⟨S2,⟨?_,?_⟩,?_⟩
   ·simp only [zbv];rw [zng];exact e1.trans e2
   ·simp only [zbv];rw [zng];exact r2
   ·intro i a b h1 h2
    cases i with
    | zero =>
     simp only [frzL,yAB,yA] at h1 h2
     subst h1;subst h2
     exact d1.mono e2.S_le e2.S_cell
    | succ i =>
     simp only [frzL,yAN] at h1 h2
     exact d2 i a b h1 h2
end
mutual
theorem zfx {h:Heap}:∀ (x:AV),frzM x=[]->frzO h x
 | .agg cs,hx=>by simp only [frzM] at hx;simp only [frzO];exact zdO cs hx
 | .tup cs,hx=>by simp only [frzM] at hx;simp only [frzO];exact zdO cs hx
 | .own b n,hx=>by simp [frzM] at hx
 | .os b n _ _,hx=>by simp [frzM] at hx
 | .un,_|.v _,_|.bl _,_|.sl _,_|.dp _,_|.nl,_|.p _ _,_|.ep _ _ _ _,_|.fn _ _,_|.mp _,_=>by simp [frzO]
theorem zdO {h:Heap}:∀ (l:List AV),zbv l=[]->zcK h l
 | [],_=>by simp [zcK]
 | x::r,hx=>by
  simp only [zbv,List.append_eq_nil_iff] at hx
  simp only [zcK]
  exact ⟨zfx x hx.1,zdO r hx.2⟩
end
theorem zs6 {h:Heap} {y:AV} {q:Prop} (hq:frzQ (frzM y) (frzO h y) q):frzO h y/\q:=by
 unfold frzQ at hq
 split at hq
 ·rename_i hm;exact ⟨zfx y hm,hq⟩
 ·exact hq
theorem zvm {h:Heap} {l:List AV} {q:Prop} (hq:frzQ (zbv l) (zcK h l) q):zcK h l/\q:=by
 unfold frzQ at hq
 split at hq
 ·rename_i hm;exact ⟨zdO l hm,hq⟩
 ·exact hq
theorem zvl {h:Heap} {l:List AV} (hq:zat (frzB h l)):zcK h l:=by
 unfold frzB at hq
 split at hq
 ·rename_i hm;exact zdO l hm
 ·exact hq
end Go.AM
namespace Go.AM
open Go.RowKit
theorem zc5 (g off n:Nat):(⟨g,off,none⟩:Addr).add n=⟨g,off+n,none⟩:=by
 unfold Addr.add
 split
 ·rename_i h;subst h;rfl
 ·rfl
def zOk:AV->Value->Bool
 | .nl,.slice none 0 0=>true
 | .bl b,.bool c=>b==c
 | .v (.int k a),.int k' b=>decide (k=k'/\a=b)
 | .v (.string s),.string t=>decide (s=t)
 | .v (.pointer none),.pointer none=>true
 | .v .nilFunc,.nilFunc=>true
 | .v .nilIface,.nilIface=>true
 | .v (.map none),.map none=>true
 | _,_=>false
theorem zBh {T:TypeId->TI} {h:Heap} {β:List Con} {w:World} {S:Addr->Prop} {x:AV} {y:Value} (hz:zOk x y=true):RelV T h β w S x y/\y.oneCell'=true:=by
 unfold zOk at hz
 split at hz
 ·exact ⟨.nl none,rfl⟩
 ·simp only [beq_iff_eq] at hz;subst hz;exact ⟨.d _ _ (.bl _),rfl⟩
 ·simp only [decide_eq_true_eq] at hz;obtain ⟨rfl,rfl⟩:=hz;exact ⟨.d _ _ (.v _ rfl),rfl⟩
 ·simp only [decide_eq_true_eq] at hz;subst hz;exact ⟨.d _ _ (.v _ rfl),rfl⟩
 ·exact ⟨.d _ _ (.v _ rfl),rfl⟩
 ·exact ⟨.d _ _ (.v _ rfl),rfl⟩
 ·exact ⟨.d _ _ (.v _ rfl),rfl⟩
 ·exact ⟨.d _ _ (.v _ rfl),rfl⟩
 ·cases hz
def zOkL:List AV->List Value->Bool
 | [],[]=>true
 | x::r,y::s=>zOk x y&&zOkL r s
 | _,_=>false
theorem zdK {T:TypeId->TI} {h:Heap} {β:List Con} {w:World} {S:Addr->Prop}:∀ (l:List AV) (m:List Value),zOkL l m=true ->
  l.length=m.length/\∀ (i:Nat) (x:AV) (y:Value),l[i]?=some x->m[i]?=some y->RelV T h β w S x y/\y.oneCell'=true
 | [],[],_=>⟨rfl,by simp⟩
 | x::r,y::s,hz=>by
  simp only [zOkL,yR] at hz
  obtain ⟨h1,h2⟩:=zdK (T:=T) (h:=h) (β:=β) (w:=w) (S:=S) r s hz.2
  refine ⟨by simp [h1],fun i a b ha hb=>?_⟩
  cases i with
  | zero=>simp only [yAB,yA] at ha hb;subst ha;subst hb;exact zBh hz.1
  | succ i=>simp only [yAN] at ha hb;exact h2 i a b ha hb
 | [],_::_,hz=>by cases hz
 | _::_,[],hz=>by cases hz
def ze2 (P:Program) (size:Nat):List Nat->List Field->Bool
 | [],[]=>true
 | o::os,f::fs=>decide (o=f.offset)&&decide ((P.info? f.type).map (·.size)=some (os.headD size - o))&&decide (os.headD size - o≠0)&&ze2 P size os fs
 | _,_=>false
def zej (P:Program) (T:TypeId->TI) (t:TypeId) (d:TypeDesc):Bool :=
 match (T t).kind,d with
 | .struct offs,.struct fs=>ze2 P (T t).size offs fs.toList
 | .array n e,.array n' e'=>decide (n=n')&&decide (e=e')&&decide ((T e).size≠0)&&decide ((T t).size=n * (T e).size)
 | .slice e,.slice e'=>decide (e=e')&&decide ((T e).size≠0)&&decide ((T t).size=1)
 | .int k,.int k'=>decide (k=k')&&decide ((T t).size=1)
 | .str,.string=>decide ((T t).size=1)
 | .bool,.bool=>decide ((T t).size=1)
 | .map a b,.map a' b'=>decide (a=a')&&decide (b=b')&&decide ((T t).size=1)
 | .scalar,.struct _|.scalar,.array _ _=>false
 | .scalar,_=>decide ((T t).size=1)
 | _,_=>false
def tiOk (P:Program) (T:TypeId->TI) (t:TypeId):Bool :=
 match P.info? t,P.underlying t with
 | some i,some d =>
  decide (i.size=(T t).size)&&decide (i.bytes=(T t).bytes)&&decide ((T t).size≠0)&&decide ((T t).zero.length=(T t).size) &&
  (match i.zero with|some z=>zOkL (T t).zero z.cells.toList|none=>false) &&
  zej P T t d&&(match i.zero with|some (.agg _)=>(T t).isAgg|_=>!(T t).isAgg)
 | _,_=>false
def zaH (E:Env0):Prop:=∀ t,tiOk E.P E.T t=true\/E.T t=⟨.scalar,0,0,[]⟩
structure TOk (P:Program) (T:TypeId->TI) (t:TypeId) (i:TypeInfo) (d:TypeDesc) (z:Value):Prop where
 info:P.info? t=some i
 und:P.underlying t=some d
 size:i.size=(T t).size
 bytes:i.bytes=(T t).bytes
 ne:(T t).size≠0
 zero:i.zero=some z
 zlen:(T t).zero.length=(T t).size
 zok:zOkL (T t).zero z.cells.toList=true
 kind:zej P T t d=true
 zagg:(match i.zero with|some (.agg _)=>(T t).isAgg|_=>!(T t).isAgg)=true
theorem zaH.at_ {E:Env0} (ht:zaH E) {t:TypeId} (hs:E.T t≠⟨.scalar,0,0,[]⟩):∃ i d z,TOk E.P E.T t i d z:=by
 have h:=(ht t).resolve_right hs
 unfold tiOk at h
 cases hi:E.P.info? t with
 | none=>simp [hi] at h
 | some i =>
  cases hd:E.P.underlying t with
  | none=>simp [hi,hd] at h
  | some d =>
   simp only [hi,hd,yR,decide_eq_true_eq] at h
   obtain ⟨⟨⟨⟨⟨⟨h1,h2⟩,h3⟩,h4⟩,h5⟩,h6⟩,h7⟩:=h
   cases hz:i.zero with
   | none=>simp [hz] at h5
   | some z =>
    simp only [hz] at h5 h7
    exact ⟨i,d,z,hi,hd,h1,h2,h3,hz,h4,h5,h6,by rw [hz];exact h7⟩
theorem TOk.isAgg {P:Program} {T:TypeId->TI} {t:TypeId} {i:TypeInfo} {d:TypeDesc} {z:Value} (h:TOk P T t i d z) (w:World):(isAgg t).run P w=.ok (T t).isAgg w:=by
 have hk:=h.kind
 unfold zej at hk
 simp only [Go.isAgg,Sem.run_bind,run_underlying h.und,Result.andThen_ok,TI.isAgg]
 cases hK:(T t).kind <;> cases d <;> simp_all
theorem TOk.size1 {P:Program} {T:TypeId->TI} {t:TypeId} {i:TypeInfo} {d:TypeDesc} {z:Value} (h:TOk P T t i d z) (ha:(T t).isAgg=false):(T t).size=1:=by
 have hk:=h.kind
 unfold zej at hk
 unfold TI.isAgg at ha
 cases hK:(T t).kind <;> cases d <;> simp_all
theorem TOk.sizeOf {P:Program} {T:TypeId->TI} {t:TypeId} {i:TypeInfo} {d:TypeDesc} {z:Value} (h:TOk P T t i d z) (w:World):(Go.sizeOf t).run P w=.ok (T t).size w:=by
 simp [Go.sizeOf,typeInfo,h.info,h.size]
theorem TOk.zeroValue {P:Program} {T:TypeId->TI} {t:TypeId} {i:TypeInfo} {d:TypeDesc} {z:Value} (h:TOk P T t i d z) (w:World):(Go.zeroValue t).run P w=.ok z w:=by
 simp [Go.zeroValue,typeInfo,h.info,h.zero]
def zfD (t:TI) (vs:List Value):Value:=match t.isAgg with
 | true=>.agg vs.toArray
 | false=>vs.headD undef
theorem zpB {P:Program} {T:TypeId->TI} {t:TypeId} {i:TypeInfo} {d:TypeDesc} {z:Value} (h:TOk P T t i d z) (w:World) (g off:Nat) (vs:List Value) (hl:vs.length=(T t).size)
  (hc:∀ (j:Nat) (y:Value),vs[j]?=some y->w.cell? ⟨g,off+j,none⟩=some y):(Instr.loadAt t (.pointer (some ⟨g,off,none⟩))).run P w=.ok (zfD (T t) vs) w:=by
 simp only [Instr.loadAt,Instr.sureAddr,loadVar,Sem.run_bind,Sem.run_pure,Result.andThen_ok,h.isAgg,Sem.run_ite]
 unfold zfD
 cases ha:(T t).isAgg with
 | true =>
  have:=run_loadCells_list (P:=P) w ⟨g,off,none⟩ vs (fun j y hj=>by rw [zc5];exact hc j y hj)
  simp only [if_true,Sem.run_bind,h.sizeOf,Result.andThen_ok,← hl,this,Sem.run_pure]
 | false =>
  have h1:=h.size1 ha
  rw [h1] at hl
  match vs,hl with
  | [v],_ =>
   have:=hc 0 v rfl
   simp only [yAg] at this
   simp [this]
def zco (cs:List Value) (off:Nat) (vs:List Value):List Value:=cs.take off++vs++cs.drop (off+vs.length)
theorem zgu (cs:List Value) (off:Nat) (vs:List Value) (h:off+vs.length<=cs.length):(zco cs off vs).length=cs.length:=by
 simp [zco];omega
theorem zeL {cs:List Value} {off:Nat} {vs:List Value} (h:off+vs.length<=cs.length) (i:Nat) :
  (zco cs off vs)[i]?=if i < off then cs[i]? else if i < off+vs.length then vs[i - off]? else cs[i]?:=by
 unfold zco
 have ht:(cs.take off).length=off:=by simp;omega
 rw [yAV]
 by_cases h1:i < off
 ·rw [if_pos h1,yH (by omega),yM,if_pos h1]
 ·rw [if_neg h1,yY (by omega),ht]
  by_cases h2:i < off+vs.length
  ·rw [if_pos h2,yH (by omega)]
  ·rw [if_neg h2,yY (by omega),yX]
   congr 1
   omega
theorem zm1 (cs:List Value) (off:Nat) (v:Value) (vs:List Value) (h:off+(vs.length+1)<=cs.length):zco cs off (v::vs)=zco (cs.set off v) (off+1) vs:=by
 apply yAZ
 intro i
 rw [zeL (by simpa using h),zeL (by simp;omega)]
 by_cases h1:i < off
 ·rw [if_pos h1,if_pos (by omega),yZ (by omega)]
 ·by_cases h2:i=off
  ·subst h2
   rw [if_neg h1,if_pos (by simp),if_pos (by omega),yAI (by omega)]
   simp
  ·rw [if_neg h1,if_neg (show ¬ i < off+1 by omega)]
   by_cases h3:i < off+1+vs.length
   ·rw [if_pos (show i < off+(v::vs).length by simp;omega),if_pos h3,show i - off=(i - (off+1))+1 by omega,yAN]
   ·rw [if_neg (show ¬ i < off+(v::vs).length by simp;omega),if_neg h3,yZ (by omega)]
theorem ztI {P:Program} {w:World} {g off:Nat} {cs:List Value} {t:TypeId} {v:Value} (hg:w.heap[g]?=some (.cells cs.toArray t (0,0))) (ho:off < cs.length) (hv:v.oneCell'=true) :
  (store ⟨g,off,none⟩ v).run P w=.ok () (w.setCell ⟨g,off,none⟩ v):=by
 rw [run_store P w _ v _ hv]
 have h1:w.cell? ⟨g,off,none⟩=some cs[off]:=by simp [World.cell?,hg,yE ho]
 have h2:w.frozen? ⟨g,off,none⟩=false:=by simp [World.frozen?,hg]
 simp [h1,h2]
theorem zt2 {w:World} {g off:Nat} {cs:List Value} {t:TypeId} {v:Value} (hg:w.heap[g]?=some (.cells cs.toArray t (0,0))) :
  (w.setCell ⟨g,off,none⟩ v).heap[g]?=some (.cells (cs.set off v).toArray t (0,0)):=by
 simp [World.setCell,Array.getElem?_modify,hg]
structure Stored (w w':World) (g:Nat) (cs':List Value) (t:TypeId):Prop where
 heap:w'.heap[g]?=some (.cells cs'.toArray t (0,0))
 keep:∀ k,k≠g->w'.heap[k]?=w.heap[k]?
 size:w'.heap.size=w.heap.size
 os:w'.os=w.os
 tape:w'.tape=w.tape
 drawn:w.drawn<=w'.drawn
 output:w'.output=w.output
theorem zew {P:Program}:∀ (vs:List Value) (i:Nat) (w:World) (g off:Nat) (cs:List Value) (t:TypeId),w.heap[g]?=some (.cells cs.toArray t (0,0))->off+i+vs.length<=cs.length ->
  (∀ v∈vs,v.oneCell'=true)->∃ w',(storeCells ⟨g,off,none⟩ vs i).run P w=.ok () w'/\Stored w w' g (zco cs (off+i) vs) t
 | [],i,w,g,off,cs,t,hg,_,_=>⟨w,by simp [storeCells],by simpa [zco] using hg,fun _ _=>rfl,rfl,rfl,rfl,yJ _,rfl⟩
 | v::vs,i,w,g,off,cs,t,hg,hl,hv=>by
  simp only [yAL] at hl
  have h1:=ztI (P:=P) (off:=off+i) hg (by omega) (hv v (by simp))
  obtain ⟨w',h2,h3⟩:=zew (P:=P) vs (i+1) (w.setCell ⟨g,off+i,none⟩ v) g off (cs.set (off+i) v) t (zt2 hg) (by simp;omega) (fun u hu=>hv u (by simp [hu]))
  refine ⟨w',?_,?_,?_,?_,?_,?_,?_,?_⟩
  ·simp only [storeCells,Sem.run_bind,zc5,h1,Result.andThen_ok,h2]
  ·rw [zm1 cs _ v vs (by omega)];exact h3.heap
  ·intro k hk
   rw [h3.keep k hk]
   exact Below.heap_setCell w ⟨g,off+i,none⟩ v k hk
  ·rw [h3.size];simp [World.setCell]
  ·rw [h3.os];rfl
  ·rw [h3.tape];rfl
  ·exact h3.drawn
  ·rw [h3.output];rfl
def PW {α γ:Type} (R:α->γ->Prop) (l:List α) (m:List γ):Prop:=l.length=m.length/\∀ (i:Nat) (x:α) (y:γ),l[i]?=some x->m[i]?=some y->R x y
theorem PW.nil {α γ:Type} {R:α->γ->Prop}:PW R ([]:List α) ([]:List γ):=⟨rfl,by simp⟩
theorem PW.cons {α γ:Type} {R:α->γ->Prop} {x:α} {y:γ} {l:List α} {m:List γ} (h:R x y) (t:PW R l m):PW R (x::l) (y::m):=by
 refine ⟨by simp [t.1],fun i a b ha hb=>?_⟩
 cases i with
 | zero=>simp only [yAB,yA] at ha hb;subst ha;subst hb;exact h
 | succ i=>simp only [yAN] at ha hb;exact t.2 i a b ha hb
theorem PW.uncons {α γ:Type} {R:α->γ->Prop} {x:α} {y:γ} {l:List α} {m:List γ} (h:PW R (x::l) (y::m)):R x y/\PW R l m :=
 ⟨h.2 0 x y rfl rfl,by simpa using h.1,fun i a b ha hb=>h.2 (i+1) a b (by simpa using ha) (by simpa using hb)⟩
theorem PW.imp {α γ:Type} {R R':α->γ->Prop} {l:List α} {m:List γ} (h:PW R l m) (hi:∀ x y,R x y->R' x y):PW R' l m:=⟨h.1,fun i x y ha hb=>hi _ _ (h.2 i x y ha hb)⟩
theorem PW.append {α γ:Type} {R:α->γ->Prop} {l l':List α} {m m':List γ} (h:PW R l m) (h':PW R l' m'):PW R (l++l') (m++m'):=by
 refine ⟨by simp [h.1,h'.1],fun i a b ha hb=>?_⟩
 by_cases hi:i < l.length
 ·rw [yH hi] at ha
  rw [yH (by rw [← h.1];exact hi)] at hb
  exact h.2 i a b ha hb
 ·rw [yY (by omega)] at ha
  rw [yY (by rw [← h.1];omega),← h.1] at hb
  exact h'.2 _ a b ha hb
theorem PW.take {α γ:Type} {R:α->γ->Prop} {l:List α} {m:List γ} (h:PW R l m) (n:Nat):PW R (l.take n) (m.take n):=by
 refine ⟨by simp [h.1],fun i a b ha hb=>?_⟩
 rw [yM] at ha hb
 split at ha
 ·rename_i hi;rw [if_pos hi] at hb;exact h.2 i a b ha hb
 ·cases ha
theorem PW.drop {α γ:Type} {R:α->γ->Prop} {l:List α} {m:List γ} (h:PW R l m) (n:Nat):PW R (l.drop n) (m.drop n):=by
 refine ⟨by simp [h.1],fun i a b ha hb=>?_⟩
 rw [yX] at ha hb
 exact h.2 _ a b ha hb
theorem PW.get {α γ:Type} {R:α->γ->Prop} {l:List α} {m:List γ} (h:PW R l m) {i:Nat} {x:α} (hi:l[i]?=some x):∃ y,m[i]?=some y/\R x y:=by
 have hl:=(yB.1 hi).1
 have hm:m[i]?=some (m[i]'(by rw [← h.1];exact hl)):=yE _
 exact ⟨_,hm,h.2 i x _ hi hm⟩
def RelC (T:TypeId->TI) (h:Heap) (β:List Con) (w:World) (S:Addr->Prop) (x:AV) (y:Value):Prop:=RelV T h β w S x y/\y.oneCell'=true
theorem zx0 {y:Value} (h:y.oneCell'=true):y.cells=#[y]:=by
 cases y <;> first|rfl|(simp [Value.oneCell'] at h)
def AV.isOne:AV->Prop
 | .un|.agg _|.tup _=>False
 | _=>True
theorem RelV.one {T:TypeId->TI} {h:Heap} {β:List Con} {w:World} {S:Addr->Prop} {x:AV} {y:Value} (hr:RelV T h β w S x y)
  (hx:x.isOne):y.oneCell'=true:=by
 cases hr with
 | d _ _ hd=>cases hd with
  | un=>exact hx.elim
  | v _ ho=>exact ho
  | bl=>rfl
  | agg=>exact hx.elim
  | tup=>exact hx.elim
  | sl=>rfl
  | dp=>rfl
 | agg=>exact hx.elim
 | tup=>exact hx.elim
 | nl=>rfl
 | p=>rfl
 | own _ _ _ _ _ _ _ _ _ ho=>exact ho
 | ep=>rfl
 | os _ _ _ _ _ _ _ _ _ _ _ _ ho=>exact ho
 | fn=>rfl
 | mp=>rfl
theorem zjJ {T:TypeId->TI} {h:Heap} {β:List Con} {w:World} {S:Addr->Prop} {x:AV} {y:Value} (hr:RelV T h β w S x y) {n:Nat} {cs:List AV} (hc:cellsOf n x=some cs) :
  cs.length=n/\PW (RelC T h β w S) cs y.cells.toList:=by
 have one:x.isOne->zsb n x=some cs->cs.length=n/\PW (RelC T h β w S) cs y.cells.toList:=by
  intro hx hc
  unfold zsb at hc
  split at hc
  ·cases hc
   have ho:=hr.one hx
   rw [zx0 ho]
   exact ⟨rfl,PW.cons ⟨hr,ho⟩ PW.nil⟩
  ·cases hc
 cases x with
 | agg ds =>
  cases n with
  | zero=>simp [cellsOf] at hc
  | succ n =>
   simp only [cellsOf] at hc
   split at hc
   ·rename_i hn
    have hn:=yN hn
    cases hc
    obtain ⟨vs,rfl,hl,ho,hv⟩:=hr.agg_inv
    refine ⟨hn,hl,fun i a b ha hb=>⟨hv i a b ha hb,ho b (yC hb)⟩⟩
   ·cases hc
 | un=>simp [cellsOf] at hc
 | tup=>simp [cellsOf] at hc
 | v _=>exact one trivial hc
 | bl _=>exact one trivial hc
 | sl _=>exact one trivial hc
 | dp _=>exact one trivial hc
 | nl=>exact one trivial hc
 | p _ _=>exact one trivial hc
 | own _ _=>exact one trivial hc
 | ep _ _ _ _=>exact one trivial hc
 | os _ _ _=>exact one trivial hc
 | fn _ _=>exact one trivial hc
 | mp _=>exact one trivial hc
theorem zwx {n:Nat} {x:AV} {cs:List AV} (hc:cellsOf n x=some cs):n≠0:=by
 rintro rfl
 cases x <;> simp [cellsOf,zsb] at hc
theorem zrG (vs:List Value):∀ (k off:Nat) (cs:List Value),off+k+vs.length<=cs.length ->
  (vs.zipIdx k).foldl (fun (cs:Array Value) (x:Value × Nat)=>cs.setIfInBounds (off+x.2) x.1) cs.toArray=(zco cs (off+k) vs).toArray:=by
 induction vs with
 | nil=>intro k off cs _;simp [zco]
 | cons v vs ih =>
  intro k off cs h
  simp only [yAL] at h
  rw [zm1 cs (off+k) v vs (by omega)]
  simp only [List.zipIdx_cons,List.foldl_cons,List.setIfInBounds_toArray]
  rw [ih (k+1) off (cs.set (off+k) v) (by simp;omega)]
  rfl
theorem zkp {R:AV->Value->Prop} {T:TypeId->TI} {h:Heap} {β:List Con} {w:World} {S:Addr->Prop} (hR:R=RelC T h β w S) (place:Nat->Option (Nat × Nat)) :
  ∀ (parts:List (Nat × AV)) (parts':List (Nat × Value)) (cells out:List AV) (cells':List Value),PW (fun (x:Nat × AV) (y:Nat × Value)=>x.1=y.1/\RelV T h β w S x.2 y.2) parts parts' ->
   PW R cells cells'->fill place cells parts=some out->∃ out',Instr.fill place cells'.toArray parts'=some out'.toArray/\PW R out out'/\out.length=cells.length
 | [],[],cells,out,cells',_,hc,hf=>by
  simp only [fill,yA] at hf
  subst hf
  exact ⟨cells',rfl,hc,rfl⟩
 | [],_::_,_,_,_,hp,_,_=>by have:=hp.1;simp at this
 | _::_,[],_,_,_,hp,_,_=>by have:=hp.1;simp at this
 | (i,x)::rest,(i',y)::rest',cells,out,cells',hp,hc,hf=>by
  obtain ⟨⟨hi,hv⟩,hp'⟩:=hp.uncons
  simp only at hi hv
  subst hi
  simp only [fill] at hf
  cases hpl:place i with
  | none=>simp [hpl] at hf
  | some os =>
   obtain ⟨off,size⟩:=os
   simp only [hpl] at hf
   cases hcs:cellsOf size x with
   | none=>simp [hcs] at hf
   | some cs =>
    simp only [hcs] at hf
    split at hf
    ·rename_i hle
     obtain ⟨hlen,hpw⟩:=zjJ hv hcs
     have hyl:y.cells.toList.length=size:=by rw [← hpw.1,hlen]
     have hcl:cells'.length=cells.length:=hc.1.symm
     have hnew:PW R (cells.take off++cs++cells.drop (off+size)) (zco cells' off y.cells.toList):=by
      unfold zco
      rw [hyl,hR]
      rw [hR] at hc
      exact ((hc.take off).append hpw).append (hc.drop (off+size))
     obtain ⟨out',h1,h2,h3⟩:=zkp hR place rest rest' _ out _ hp' hnew hf
     refine ⟨out',?_,h2,by rw [h3];simp [hlen];omega⟩
     simp only [Instr.fill,hpl]
     rw [yAM] at hyl
     rw [if_neg (by simp [hyl];omega)]
     have hfo:=zrG y.cells.toList 0 off cells' (by simp [hyl];omega)
     rw [← h1]
     congr 1
     simp only [yAg] at hfo
     rw [← hfo,← Array.foldl_toList,Array.toList_zipIdx]
    ·cases hf
end Go.AM
namespace Go.AM
open Go.RowKit
def Post (E:Env0) (h:Heap) (β:List Con) (S:Addr->Prop) (w:World) (R:AV->Heap->Prop):Ending->World->Prop:=fun e w' =>
 ∃ (r:AV) (h':Heap) (β':List Con) (S':Addr->Prop) (y:Value),e=.returned y/\R r h'/\Rel E h' β' S' w'/\Ext h β S w h' β' S' w'/\RelV E.T h' β' w' S' r y
def GoFn (P : Program) (f : FuncId) : Prop := ∃ fn, P.funcs[f]? = some fn ∧ (fn.name == "runtime.NumGoroutine") = false ∧ fn.body.isNone = false
def zoF (P:Program) (f:FuncId) (vs:Array Value) (w:World) (R:Ending->World->Prop):Prop :=
 (GoFn P f/\Calls P f vs w R)\/∃ y w',(callFunc f vs).run P w=.ok (.value y) w'/\R (.returned y) w'
theorem zoF.mono {P:Program} {f:FuncId} {vs:Array Value} {w:World} {R R':Ending->World->Prop} (h:zoF P f vs w R) (hr:∀ e w,R e w->R' e w):zoF P f vs w R':=by
 rcases h with ⟨h1,h2⟩|⟨y,w',h1,h2⟩
 ·exact .inl ⟨h1,h2.mono hr⟩
 ·exact .inr ⟨y,w',h1,hr _ _ h2⟩
def zbY (E:Env0) (f:FuncId) (args:List AV) (h:Heap) (R:AV->Heap->Prop):Prop :=
 ∀ (β:List Con) (S:Addr->Prop) (w:World) (vs:List Value),Rel E h β S w->PW (RelV E.T h β w S) args vs->zoF E.P f vs.toArray w (Post E h β S w R)
def zab (E:Env0) (f:FuncId) (args:List AV) (h:Heap) (r:AV) (h':Heap):Prop:=zbY E f args h fun r' h''=>r'=r/\h''=h'
def mk (E:Env0):Env:={ E with C:=zab E }
theorem zzE {T:TypeId->TI} {h:Heap} {β:List Con} {w:World} {S:Addr->Prop} (x:Value):RelV T h β w S (zps x) x:=by
 unfold zps
 split
 ·exact .nl none
 ·exact .d _ _ (.bl _)
 ·exact .d _ _ (.un _)
 ·exact .d _ _ (.un _)
 ·rename_i h1 h2 h3 h4
  refine .d _ _ (.v _ ?_)
  cases x <;> first|rfl|exact absurd rfl (h3 _)|exact absurd rfl (h4 _)
theorem zaV {E:Env0} {h:Heap} {β:List Con} {w:World} {S:Addr->Prop} {ts:TS} {tmps:Array Value} {ds:List Deferred} (r:Rel E h β S w) (rt:zaF E.T h β w S ts tmps) (x:Operand) :
  RelV E.T h β w S (ev E.G ts x) (Act.eval ⟨tmps,ds⟩ x):=by
 cases x with
 | tmp t=>exact rt t
 | const v=>exact zzE v
 | global g =>
  simp only [ev,Act.eval]
  split
  ·rename_i cs hg;exact .d _ _ (r.glob g cs hg)
  ·exact .d _ _ (.un _)
 | func f=>exact .fn f [] [] rfl (by simp)
theorem zaF.put {T:TypeId->TI} {h:Heap} {β:List Con} {w:World} {S:Addr->Prop} {ts:TS} {tmps:Array Value} (rt:zaF T h β w S ts tmps) {d:Option Tmp} {x:AV} {y:Value}
  (hd:zaR tmps.size d=true) (hv:RelV T h β w S x y):zaF T h β w S (AM.put ts d x) (Act.put ⟨tmps,[]⟩ d y).tmps:=by
 cases d with
 | none=>exact rt
 | some d =>
  intro t
  simp only [AM.put,Act.put,AM.look]
  have hlt:d < tmps.size:=by simpa [zaR] using hd
  by_cases e:d=t
  ·subst e
   simp only [yAn]
   have:(tmps.setIfInBounds d y).getD d undef=y:=by simp [Array.getD,hlt]
   rw [this]
   exact hv
  ·have hb:Nat.beq d t=false:=by
    cases hh:Nat.beq d t with
    | false=>rfl
    | true=>exact absurd (yN hh) e
   rw [hb]
   have:(tmps.setIfInBounds d y).getD t undef=tmps.getD t undef:=by
    simp [yAU,Array.getElem?_setIfInBounds_ne e]
   rw [this]
   exact rt t
theorem zaF.ext {T:TypeId->TI} {h h':Heap} {β β':List Con} {S S':Addr->Prop} {w w':World} (hx:Ext h β S w h' β' S' w') {ts:TS} {tmps:Array Value} (rt:zaF T h β w S ts tmps):zaF T h' β' w' S' ts tmps :=
 fun t=>(rt t).ext hx
structure Goal (E:Env0) (h:Heap) (β:List Con) (S:Addr->Prop) (w:World) (tmps:Array Value) (out:Out) (K:Act->World->Prop):Prop where
 k:∀ (β':List Con) (S':Addr->Prop) (w':World) (tmps':Array Value),tmps'.size=tmps.size->Rel E out.h β' S' w'->Ext h β S w out.h β' S' w'->zaF E.T out.h β' w' S' out.ts tmps'->K ⟨tmps',[]⟩ w'
theorem zcz (tmps:Array Value) (d:Option Tmp) (y:Value):(Act.put ⟨tmps,[]⟩ d y).tmps.size=tmps.size:=by
 cases d <;> simp [Act.put]
theorem zb3 (tmps:Array Value) (d:Option Tmp) (y:Value):Act.put ⟨tmps,[]⟩ d y=⟨(Act.put ⟨tmps,[]⟩ d y).tmps,[]⟩:=by
 cases d <;> rfl
section
variable {E : Env0} {h : Heap} {β : List Con} {S : Addr -> Prop} {w : World} {tmps : Array Value} {ts : TS} {K : Act -> World -> Prop} {Q : Exit -> Act -> World -> Prop} {o : Oper} {os : List Orc}
theorem zcQ (r:Rel E h β S w) (rt:zaF E.T h β w S ts tmps) (hd:zaR tmps.size o.dst=true) {out:Out} (g:Goal E h β S w tmps out K)
  {x:AV} {y:Value} {β':List Con} {S':Addr->Prop} {w':World} (hrun:(execOp (Act.eval ⟨tmps,[]⟩) o).run E.P w=.ok (.value y) w')
  (hts:out.ts=AM.put ts o.dst x) (r':Rel E out.h β' S' w') (e':Ext h β S w out.h β' S' w') (hv:RelV E.T out.h β' w' S' x y):o.wp E.P ⟨tmps,[]⟩ w K Q:=by
 unfold Oper.wp
 rw [hrun,Oper.upon_value,zb3]
 refine g.k β' S' w' _ (zcz _ _ _) r' e' ?_
 rw [hts]
 exact (rt.ext e').put hd hv
theorem zav (r:Rel E h β S w) (rt:zaF E.T h β w S ts tmps) (hd:zaR tmps.size o.dst=true) {q:Option Prop} {x:AV} {os':List Orc} (g:Goal E h β S w tmps ⟨q,AM.put ts o.dst x,h,os'⟩ K)
  {y:Value} (hrun:(execOp (Act.eval ⟨tmps,[]⟩) o).run E.P w=.ok (.value y) w) (hv:RelV E.T h β w S x y):o.wp E.P ⟨tmps,[]⟩ w K Q :=
 zcQ r rt hd g hrun rfl r (Ext.refl _ _ _ _) hv
end
end Go.AM
namespace Go.AM
open Go.RowKit
theorem mk_T (E:Env0):(mk E).T=E.T:=rfl
theorem mk_G (E:Env0):(mk E).G=E.G:=rfl
theorem mk_P (E:Env0):(mk E).P=E.P:=rfl
theorem za2 {t:TI} (h:t.size≠0):t≠⟨.scalar,0,0,[]⟩:=by rintro rfl;simp at h
theorem zax {t:TI} (h:t.kind≠.scalar):t≠⟨.scalar,0,0,[]⟩:=by rintro rfl;simp at h
theorem ztt {t:TI} {cs:List AV} {r:AV} (h:mkv t (cs.take t.size)=some r):t≠⟨.scalar,0,0,[]⟩:=by
 rintro rfl
 simp [mkv,TI.isAgg] at h
theorem znF {T:TypeId->TI} {h:Heap} {β:List Con} {w:World} {S:Addr->Prop} {t:TI} {cs:List AV} {vs:List Value} {r:AV} (hm:mkv t cs=some r) (hp:PW (RelC T h β w S) cs vs) :
  RelV T h β w S r (zfD t vs):=by
 unfold mkv at hm
 unfold zfD
 cases ha:t.isAgg with
 | true =>
  simp only [ha,yA] at hm
  subst hm
  exact .agg _ _ hp.1 (fun y hy=>by
   obtain ⟨i,hi⟩:=yQ hy
   have hl:=(yB.1 hi).1
   have hc:cs[i]?=some (cs[i]'(by rw [hp.1];exact hl)):=yE _
   exact (hp.2 i _ y hc hi).2) (fun i x y h1 h2=>(hp.2 i x y h1 h2).1)
 | false =>
  simp only [ha] at hm
  cases cs with
  | nil=>simp at hm
  | cons c cs =>
   simp only [List.head?_cons,yA] at hm
   subst hm
   cases vs with
   | nil=>have:=hp.1;simp at this
   | cons v vs=>exact hp.uncons.1.1
section
variable {E : Env0} {h : Heap} {β : List Con} {S : Addr -> Prop} {w : World} {tmps : Array Value} {ts : TS} {K : Act -> World -> Prop} {Q : Exit -> Act -> World -> Prop} {o : Oper} {os : List Orc} {out : Out}
theorem zoi {g:Nat} {vs:List Value} {t:TypeId} (hg:w.heap[g]?=some (.cells vs.toArray t (0,0))) (i:Nat):w.cell? ⟨g,i,none⟩=vs[i]?:=by simp [World.cell?,hg]
theorem zAS (ht:zaH E) (r:Rel E h β S w) (rt:zaF E.T h β w S ts tmps) (hd:zaR tmps.size o.dst=true) {t:TypeId} {x:Operand} (hop:o.op=.load t x)
  (hs:zau (mk E) o ts h os=some out) (ho:zat out.o) (g:Goal E h β S w tmps out K):o.wp E.P ⟨tmps,[]⟩ w K Q:=by
 have hx:=zaV (ds:=[]) r rt x
 have fin:∀ (cs:List AV) (vs:List Value) (gg off:Nat) (res:AV) (q:Option Prop) (os':List Orc),out=⟨q,AM.put ts o.dst res,h,os'⟩->mkv (E.T t) (cs.take (E.T t).size)=some res->(E.T t).size<=cs.length ->
   PW (RelC E.T h β w S) cs vs->Act.eval ⟨tmps,[]⟩ x=.pointer (some ⟨gg,off,none⟩)->(∀ (j:Nat) (y:Value),vs[j]?=some y->w.cell? ⟨gg,off+j,none⟩=some y)->o.wp E.P ⟨tmps,[]⟩ w K Q:=by
  intro cs vs gg off res q os' hout hm hle hp hev hcell
  subst hout
  obtain ⟨i,d,z,tok⟩:=ht.at_ (ztt hm)
  have hrun:=zpB tok w gg off (vs.take (E.T t).size) (by simp [← hp.1];omega) (fun j y hj=>by
   rw [yM] at hj
   split at hj
   ·exact hcell j y hj
   ·cases hj)
  refine zav r rt hd g (y:=zfD (E.T t) (vs.take (E.T t).size)) ?_ (znF hm (hp.take _))
  simp only [execOp,hop,hev,Sem.run_bind,hrun,Result.andThen_ok,Sem.run_pure]
 simp only [zau,zaj,hop,mk_T,mk_G] at hs
 cases he:ev E.G ts x with
 | mp _=>simp [he] at hs
 | p b off =>
  simp only [he] at hs hx
  cases hb:h[b]? with
  | none=>simp [hb] at hs
  | some B =>
   cases B with
   | mp _=>simp [hb] at hs
   | row e xs sh=>simp [hb] at hs
   | box cs =>
    simp only [hb] at hs
    split at hs
    ·rename_i res h1 h2
     simp only [yA] at hs
     obtain ⟨gg,vs,t',c1,c2,c3,c4⟩:=r.box b cs hb
     generalize hev:Act.eval ⟨tmps,[]⟩ x=y at hx
     cases hx with
     | d _ _ hd=>cases hd
     | p _ _ g2 hbb =>
      rw [c1] at hbb
      cases hbb
      refine fin (cs.drop off) (vs.drop off) gg off res _ _ hs.symm h1 (by simp;have:=yI h2;omega) (PW.drop ⟨c3,fun i x y h1 h2=>c4 i x y h1 h2⟩ off) hev ?_
      intro j y hj
      rw [zoi c2,← hj,yX]
    ·cases hs
 | dp cs =>
  simp only [he] at hs hx
  split at hs
  ·rename_i res h1 h2
   simp only [yA] at hs
   generalize hev:Act.eval ⟨tmps,[]⟩ x=y at hx
   cases hx with
   | d _ _ hd =>
    cases hd with
    | dp _ gg off f f1 f2 =>
     have hle:=yI h2
     refine fin cs ((List.range cs.length).map f) gg off res _ _ hs.symm h1 hle ⟨by simp,fun i x y hi hj=>?_⟩ hev ?_
     ·have hl:=(yB.1 hi).1
      simp [hl] at hj
      subst hj
      exact ⟨.d _ _ (f2 i x hi),(f1 i x hi).2.2⟩
     ·intro j y hj
      by_cases hl:j < cs.length
      ·simp [hl] at hj
       subst hj
       exact (f1 j _ (yE hl)).2.1
      ·simp [hl] at hj
  ·cases hs
 | ep b n i off =>
  simp only [he] at hs hx
  cases hb:h[b]? with
  | none=>simp [hb] at hs
  | some B =>
   cases B with
   | mp _=>simp [hb] at hs
   | box cs=>simp [hb] at hs
   | row e xs sh =>
    cases os with
    | nil=>simp [hb] at hs
    | cons oc os' =>
     cases oc with
     | el c =>
      simp only [hb] at hs
      split at hs
      ·rename_i res h1 h2
       simp only [yA] at hs
       have hle:=yI h2
       subst hs
       simp only [zat] at ho
       obtain ⟨hn,hxi⟩:=ho
       generalize hev:Act.eval ⟨tmps,[]⟩ x=y at hx
       cases hx with
       | d _ _ hd=>cases hd
       | ep _ _ _ _ gg e' xs' sh' hb' _ hy =>
        rw [hb] at hb'
        cases hb'
        obtain ⟨cap,k1⟩:=hy hn
        obtain ⟨k,k2,hrow⟩:=r.row b e xs sh hb
        rw [k1] at k2
        cases k2
        obtain ⟨cs,r1,r2,r3,r4,r5,r6,r7⟩:=hrow
        have hcl:c.length=(E.T e).size:=r6 i c hxi
        let f:Nat->Value:=fun j=>(cs[i * (E.T e).size+j]?).getD undef
        have hf:∀ j x,c[j]?=some x->w.cell? ⟨gg,i * (E.T e).size+j,none⟩=some (f j)/\RelC E.T h β w S x (f j):=by
         intro j x hj
         obtain ⟨y,y1,y2,y3⟩:=r7 i j c x hxi hj
         have:f j=y:=by simp [f,y1]
         rw [this]
         exact ⟨by simp [World.cell?,r1,y1],.d _ _ y2,y3⟩
        refine fin (c.drop off) (((List.range c.length).map f).drop off) gg (i * (E.T e).size+off) res _ _ rfl h1 (by simp;omega) (PW.drop ⟨by simp,fun k x y hi hj=>?_⟩ off) hev ?_
        ·have hl:=(yB.1 hi).1
         simp [hl] at hj
         subst hj
         exact (hf k x hi).2
        ·intro j y hj
         rw [yX] at hj
         by_cases hl:off+j < c.length
         ·simp [hl] at hj
          subst hj
          rw [Nat.add_assoc]
          exact (hf _ _ (yE hl)).1
         ·simp [hl] at hj
      ·cases hs
     | b _=>simp [hb] at hs
     | i _=>simp [hb] at hs
     | call _ _ _=>simp [hb] at hs
     | calln _ _ _=>simp [hb] at hs
     | draw _=>simp [hb] at hs
 | un=>simp [he] at hs
 | v _=>simp [he] at hs
 | bl _=>simp [he] at hs
 | agg _=>simp [he] at hs
 | tup _=>simp [he] at hs
 | sl _=>simp [he] at hs
 | nl=>simp [he] at hs
 | own _ _=>simp [he] at hs
 | fn _ _=>simp [he] at hs
 | os _ _ _=>simp [he] at hs
theorem op_box (ht:zaH E) (r:Rel E h β S w) (rt:zaF E.T h β w S ts tmps) (hd:zaR tmps.size o.dst=true) {t:TypeId} {x:Operand} (hop:o.op=.box t x)
  (hs:zau (mk E) o ts h os=some out) (ho:zat out.o) (g:Goal E h β S w tmps out K):o.wp E.P ⟨tmps,[]⟩ w K Q:=by
 have hx:=zaV (ds:=[]) r rt x
 simp only [zau,zaj,hop,mk_T,mk_G] at hs
 cases hc:cellsOf (E.T t).size (ev E.G ts x) with
 | none=>simp [hc] at hs
 | some cs =>
  simp only [hc,yA] at hs
  subst hs
  obtain ⟨h1,h2⟩:=zjJ hx hc
  obtain ⟨e1,r1⟩:=r.newBox cs (Act.eval ⟨tmps,[]⟩ x).cells.toList t h2.1 h2.2
  refine zcQ r rt hd g (x:=.p h.length 0) (y:=.pointer (some ⟨w.heap.size,0,none⟩)) ?_ rfl r1 e1 (.p _ _ _ (by rw [← r.len,getElem?_append_new]))
  simp [execOp,hop,Instr.box,newVar,newRow]
theorem zzG (ht:zaH E) (r:Rel E h β S w) (rt:zaF E.T h β w S ts tmps) (hd:zaR tmps.size o.dst=true) {t:TypeId} (hop:o.op=.alloc t)
  (hs:zau (mk E) o ts h os=some out) (ho:zat out.o) (g:Goal E h β S w tmps out K):o.wp E.P ⟨tmps,[]⟩ w K Q:=by
 simp only [zau,zaj,hop,mk_T,mk_G] at hs
 split at hs
 ·cases hs
 ·rename_i hz
  simp only [yA] at hs
  subst hs
  have hne:E.T t≠⟨.scalar,0,0,[]⟩:=by rintro e;rw [e] at hz;simp at hz
  obtain ⟨i,d,z,tok⟩:=ht.at_ hne
  obtain ⟨z1,z2⟩:=zdK (T:=E.T) (h:=h) (β:=β) (w:=w) (S:=S) _ _ tok.zok
  obtain ⟨e1,r1⟩:=r.newBox (E.T t).zero z.cells.toList t z1 z2
  refine zcQ r rt hd g (x:=.p h.length 0) (y:=.pointer (some ⟨w.heap.size,0,none⟩)) ?_ rfl r1 e1 (.p _ _ _ (by rw [← r.len,getElem?_append_new]))
  simp [execOp,hop,Instr.alloc,tok.zeroValue,newVar,newRow]
theorem zu0 {P:Program} {T:TypeId->TI} {t:TypeId} {i:TypeInfo} {d:TypeDesc} {z:Value} (tok:TOk P T t i d z) (w:World) (g off:Nat) (cs:List Value) (u:TypeId) (y:Value)
  (hg:w.heap[g]?=some (.cells cs.toArray u (0,0))) (hl:y.cells.size=(T t).size) (hle:off+(T t).size<=cs.length) (h1:∀ v∈y.cells.toList,v.oneCell'=true) :
  ∃ w',(Instr.storeAt t (.pointer (some ⟨g,off,none⟩)) y).run P w=.ok () w'/\Stored w w' g (zco cs off y.cells.toList) u:=by
 obtain ⟨w',h2,h3⟩:=zew (P:=P) y.cells.toList 0 w g off cs u hg (by simp [hl];omega) h1
 refine ⟨w',?_,by simpa using h3⟩
 simp only [Instr.storeAt,Instr.sureAddr,storeVar,Sem.run_bind,Sem.run_pure,Result.andThen_ok,tok.sizeOf,hl,ne_eq,not_true_eq_false,if_false,Sem.run_ite,h2]
theorem zzN (ht:zaH E) (r:Rel E h β S w) (rt:zaF E.T h β w S ts tmps) (hd:zaR tmps.size o.dst=true) {t:TypeId} {x y:Operand} (hop:o.op=.store t x y)
  (hs:zau (mk E) o ts h os=some out) (ho:zat out.o) (g:Goal E h β S w tmps out K):o.wp E.P ⟨tmps,[]⟩ w K Q:=by
 have hx:=zaV (ds:=[]) r rt x
 have hy:=zaV (ds:=[]) r rt y
 simp only [zau,zaj,hop,mk_T,mk_G] at hs
 cases hc:cellsOf (E.T t).size (ev E.G ts y) with
 | none=>simp [hc] at hs
 | some ys =>
  simp only [hc] at hs
  obtain ⟨hyl,hyp⟩:=zjJ hy hc
  have hne:=za2 (zwx hc)
  obtain ⟨i,d,z,tok⟩:=ht.at_ hne
  have hysz:(Act.eval ⟨tmps,[]⟩ y).cells.size=(E.T t).size:=by rw [← yAM,← hyp.1,hyl]
  have hy1:∀ v∈(Act.eval ⟨tmps,[]⟩ y).cells.toList,v.oneCell'=true:=fun v hv=>by
   obtain ⟨j,hj⟩:=yQ hv
   have hl:=(yB.1 hj).1
   exact (hyp.2 j _ v (yE (by rw [hyp.1];exact hl)) hj).2
  have fin:∀ (gg off:Nat) (cs:List Value) (u:TypeId),Act.eval ⟨tmps,[]⟩ x=.pointer (some ⟨gg,off,none⟩)->w.heap[gg]?=some (.cells cs.toArray u (0,0))->off+(E.T t).size<=cs.length ->
    (∀ w',Stored w w' gg (zco cs off (Act.eval ⟨tmps,[]⟩ y).cells.toList) u->out.ts=AM.put ts o.dst .un/\∃ β' S',Rel E out.h β' S' w'/\Ext h β S w out.h β' S' w')->o.wp E.P ⟨tmps,[]⟩ w K Q:=by
   intro gg off cs u hev hg hle hfin
   obtain ⟨w',hrun,hst⟩:=zu0 tok w gg off cs u _ hg hysz hle hy1
   obtain ⟨hts,β',S',r',e'⟩:=hfin w' hst
   unfold Oper.wp
   have:(execOp (Act.eval ⟨tmps,[]⟩) o).run E.P w=.ok .skip w':=by simp only [execOp,hop,hev,Sem.run_bind,hrun,Result.andThen_ok,Sem.run_pure]
   rw [this,Oper.upon_skip,zb3]
   refine g.k β' S' w' _ (zcz _ _ _) r' e' ?_
   rw [hts]
   exact (rt.ext e').put hd (.d _ _ (.un _))
  cases he:ev E.G ts x with
  | mp _=>simp [he] at hs
  | p b off =>
   simp only [he] at hs hx
   cases hb:h[b]? with
   | none=>simp [hb] at hs
   | some B =>
    cases B with
    | mp _=>simp [hb] at hs
    | row e xs sh=>simp [hb] at hs
    | box cs =>
     simp only [hb] at hs
     split at hs
     ·rename_i hle
      have hle:=yI hle
      simp only [yA] at hs
      subst hs
      obtain ⟨gg,vs,u,c1,c2,c3,c4⟩:=r.box b cs hb
      generalize hev:Act.eval ⟨tmps,[]⟩ x=yy at hx
      cases hx with
      | d _ _ hd=>cases hd
      | p _ _ g2 hbb =>
       rw [c1] at hbb
       cases hbb
       refine fin gg off vs u hev c2 (by rw [← c3];exact hle) fun w' hst=>⟨rfl,?_⟩
       have hset:β.set b (.box gg)=β:=by
        apply yAZ
        intro i
        by_cases hi:i=b
        ·subst hi;rw [zbq c1,c1]
        ·rw [zbo hi]
       have hS:∀ a,S a->a.block≠gg:=fun a ha e=>by
        obtain ⟨e1,xs1,h1,_⟩:=r.free b _ gg a c1 rfl ha e
        rw [hb] at h1
        cases h1
       have tn:Turn h β S w b (.box (cs.take off++ys++cs.drop (off+(E.T t).size))) (.box gg) (.box gg) S w':={
        kb:=c1
        box:=fun _ _=>⟨⟨_,rfl⟩,rfl⟩
        row:=fun e xs sh h1=>by rw [hb] at h1;cases h1
        S_le:=fun _ h=>h
        S_cell:=fun a ha=>World.cell?_of_block (hst.keep a.block (hS a ha))
        S_new:=fun _ h=>.inl h
        S_lt:=fun a ha=>by rw [hst.size];exact r.stable a ha
        os:=hst.os
        tape:=hst.tape
        drawn:=hst.drawn
        output:=hst.output
        size:=by rw [hst.size];exact yJ _
        keep:=fun k _ hk=>hst.keep k (fun e=>hk (by rw [e];rfl))
        own:=fun k hk=>by
         cases hk
         exact ⟨.inl rfl,by rw [hst.size];exact r.lt b _ gg c1 rfl⟩ }
       have e1:=r.turnExt hb tn
       have r1:=r.turn hb tn (fun cs' hcs=>by
        cases hcs
        have hpw:PW (RelC E.T h β w S) (cs.take off++ys++cs.drop (off+(E.T t).size)) (zco vs off (Act.eval ⟨tmps,[]⟩ y).cells.toList):=by
         unfold zco
         rw [yAM,hysz]
         exact ((PW.take ⟨c3,c4⟩ off).append hyp).append (PW.drop ⟨c3,c4⟩ _)
        exact ⟨gg,_,u,rfl,hst.heap,hpw.1,fun i a b ha hb'=>⟨(hpw.2 i a b ha hb').1.ext e1,(hpw.2 i a b ha hb').2⟩⟩)
        (fun e xs sh h1=>by cases h1) (fun k a hk ha hka=>by cases hk;exact absurd hka (hS a ha))
       rw [hset] at e1 r1
       exact ⟨β,S,r1,e1⟩
     ·cases hs
  | ep b n i off =>
   simp only [he] at hs hx
   cases hb:(share h (zbv ys))[b]? with
   | none=>simp [hb] at hs
   | some B =>
    cases B with
    | mp _=>simp [hb] at hs
    | box cs=>simp [hb] at hs
    | row e xs sh =>
     cases sh with
     | true=>simp [hb] at hs
     | false =>
      cases os with
      | nil=>simp [hb] at hs
      | cons oc os' =>
       cases oc with
       | el c =>
        simp only [hb] at hs
        split at hs
        ·rename_i hle
         have hle:=yI hle
         simp only [yA] at hs
         subst hs
         simp only [zat] at ho
         obtain ⟨ho1,hn,hxi⟩:=ho
         obtain ⟨S1,⟨e0,r0⟩,d0⟩:=zgq E ys h β S w _ r hyp.1 (fun i x y h1 h2=>(hyp.2 i x y h1 h2).1) ho1
         have hx:=hx.ext e0
         generalize hev:Act.eval ⟨tmps,[]⟩ x=yy at hx
         cases hx with
         | d _ _ hd=>cases hd
         | ep _ _ _ _ gg e' xs' sh' hb' _ hyy =>
          rw [hb] at hb'
          cases hb'
          obtain ⟨cap,k1⟩:=hyy hn
          obtain ⟨k,k2,hrow⟩:=r0.row b e xs false hb
          rw [k1] at k2
          cases k2
          obtain ⟨cs,q1,q2,q3,q4,q5,q6,q7⟩:=hrow
          have hcl:c.length=(E.T e).size:=q6 i c hxi
          have hil:i < xs.length:=(yB.1 hxi).1
          have hfit:(i+1) * (E.T e).size<=cs.size:=by
           rw [q5];exact yU _ (by omega)
          rw [yAA,yAb] at hfit
          refine fin gg (i * (E.T e).size+off) cs.toList e hev (by simpa using q1) (by simp;omega) fun w' hst=>⟨rfl,?_⟩
          have hset:β.set b (.row gg cap)=β:=by
           apply yAZ
           intro i
           by_cases hi:i=b
           ·subst hi;rw [zbq k1,k1]
           ·rw [zbo hi]
          have hS:∀ a,S1 a->a.block≠gg:=fun a ha e2=>by
           obtain ⟨e1,xs1,h1,_⟩:=r0.free b _ gg a k1 rfl ha e2
           rw [hb] at h1
           cases h1
          have tn:Turn (share h (zbv ys)) β S1 w b (.row e (xs.set i (c.take off++frzL h ys++c.drop (off+(E.T t).size))) false) (.row gg cap) (.row gg cap) S1 w':={
           kb:=k1
           box:=fun cs1 h1=>by rw [hb] at h1;cases h1
           row:=fun e1 xs1 sh1 h1=>by
            rw [hb] at h1
            cases h1
            exact ⟨_,_,rfl,by simp,fun _=>rfl⟩
           S_le:=fun _ h=>h
           S_cell:=fun a ha=>World.cell?_of_block (hst.keep a.block (hS a ha))
           S_new:=fun _ h=>.inl h
           S_lt:=fun a ha=>by rw [hst.size];exact r0.stable a ha
           os:=hst.os
           tape:=hst.tape
           drawn:=hst.drawn
           output:=hst.output
           size:=by rw [hst.size];exact yJ _
           keep:=fun k _ hk=>hst.keep k (fun e=>hk (by rw [e];rfl))
           own:=fun k hk=>by
            cases hk
            exact ⟨.inl rfl,by rw [hst.size];exact r0.lt b _ gg k1 rfl⟩ }
          have e1:=r0.turnExt hb tn
          have hDm:∀ {a:AV} {v:Value},RelD w S1 a v->RelD w' S1 a v:=fun hd=>hd.mono (fun _ h=>h) tn.S_cell
          have hfl:(frzL h ys).length=(E.T t).size:=by rw [zcV,hyl]
          have hyl2:(Act.eval ⟨tmps,[]⟩ y).cells.toList.length=(E.T t).size:=by rw [yAM,hysz]
          have hov:=fun k=>zeL (cs:=cs.toList) (off:=i * (E.T e).size+off) (vs:=(Act.eval ⟨tmps,[]⟩ y).cells.toList) (by rw [hyl2];simp;omega) k
          have r1:=r0.turn hb tn (fun cs' hcs=>by cases hcs) (fun e2 xs2 sh2 h2=>by
           cases h2
           refine ⟨_,by rw [hst.heap],by simpa using q2,q3,q4,?_,?_,?_⟩
           ·simp only [List.size_toArray];rw [zgu _ _ _ (by rw [hyl2];simp;omega)];simpa using q5
           ·intro i' c' hi'
            by_cases e3:i'=i
            ·subst e3
             rw [yAI hil] at hi'
             cases hi'
             simp [hfl];omega
            ·rw [yZ (Ne.symm e3)] at hi'
             exact q6 i' c' hi'
           ·intro i' j c' a hi' hj
            simp only [yAY]
            rw [hov]
            by_cases e3:i'=i
            ·subst e3
             rw [yAI hil] at hi'
             cases hi'
             by_cases j1:j < off
             ·rw [yAV,yH (by simp;omega),yM,if_pos j1] at hj
              obtain ⟨v,v1,v2,v3⟩:=q7 i' j c a hxi hj
              exact ⟨v,by rw [if_pos (by omega)];simpa using v1,hDm v2,v3⟩
             ·rw [yAV,yY (by simp;omega)] at hj
              have hto:(c.take off).length=off:=by simp;omega
              rw [hto] at hj
              rw [if_neg (by omega)]
              by_cases j2:j < off+(E.T t).size
              ·rw [yH (by rw [hfl];omega)] at hj
               rw [if_pos (by rw [hyl2];omega),show i' * (E.T e).size+j - (i' * (E.T e).size+off)=j - off by omega]
               have hyj:(Act.eval ⟨tmps,[]⟩ y).cells.toList[j - off]?=some ((Act.eval ⟨tmps,[]⟩ y).cells.toList[j - off]'(by rw [hyl2];omega)):=yE _
               exact ⟨_,hyj,hDm (d0 _ a _ hj hyj),hy1 _ (yC hyj)⟩
              ·rw [yY (by rw [hfl];omega),hfl,yX] at hj
               rw [if_neg (by rw [hyl2];omega)]
               rw [show off+(E.T t).size+(j - off - (E.T t).size)=j by omega] at hj
               obtain ⟨v,v1,v2,v3⟩:=q7 i' j c a hxi hj
               exact ⟨v,by simpa using v1,hDm v2,v3⟩
            ·rw [yZ (Ne.symm e3)] at hi'
             obtain ⟨v,v1,v2,v3⟩:=q7 i' j c' a hi' hj
             have hjl:j < (E.T e).size:=by rw [← q6 i' c' hi'];exact (yB.1 hj).1
             refine ⟨v,?_,hDm v2,v3⟩
             rcases Nat.lt_or_gt_of_ne e3 with h4|h4
             ·have:(i'+1) * (E.T e).size<=i * (E.T e).size:=yU _ (by omega)
              rw [yAA,yAb] at this
              rw [if_pos (by omega)];simpa using v1
             ·have:(i+1) * (E.T e).size<=i' * (E.T e).size:=yU _ (by omega)
              rw [yAA,yAb] at this
              rw [if_neg (by omega),if_neg (by rw [hyl2];omega)];simpa using v1) (fun k a hk ha hka=>by cases hk;exact absurd hka (hS a ha))
          rw [hset] at e1 r1
          exact ⟨β,S1,r1,e0.trans e1⟩
        ·cases hs
       | b _=>simp [hb] at hs
       | i _=>simp [hb] at hs
       | call _ _ _=>simp [hb] at hs
       | calln _ _ _=>simp [hb] at hs
       | draw _=>simp [hb] at hs
  | un=>simp [he] at hs
  | v _=>simp [he] at hs
  | bl _=>simp [he] at hs
  | agg _=>simp [he] at hs
  | tup _=>simp [he] at hs
  | sl _=>simp [he] at hs
  | dp _=>simp [he] at hs
  | nl=>simp [he] at hs
  | own _ _=>simp [he] at hs
  | fn _ _=>simp [he] at hs
  | os _ _ _=>simp [he] at hs
end
end Go.AM
namespace Go.AM
open Go.RowKit
section
variable {E : Env0} {h : Heap} {β : List Con} {S : Addr -> Prop} {w : World} {tmps : Array Value} {ts : TS} {K : Act -> World -> Prop} {Q : Exit -> Act -> World -> Prop} {o : Oper} {os : List Orc} {out : Out}
theorem zif {P:Program} {size:Nat}:∀ (offs:List Nat) (fs:List Field),ze2 P size offs fs=true->offs.length=fs.length/\∀ (i off:Nat) (f:Field),offs[i]?=some off->fs[i]?=some f ->
  off=f.offset/\(P.info? f.type).map (·.size)=some ((offs.drop (i+1)).headD size - off)/\(offs.drop (i+1)).headD size - off≠0
 | [],[],_=>⟨rfl,by simp⟩
 | o::os,f::fs,hk=>by
  simp only [ze2,yR,decide_eq_true_eq] at hk
  obtain ⟨⟨⟨h1,h2⟩,h3⟩,h4⟩:=hk
  obtain ⟨g1,g2⟩:=zif os fs h4
  refine ⟨by simp [g1],fun i off f' hi hf=>?_⟩
  cases i with
  | zero =>
   simp only [yAB,yA] at hi hf
   subst hi;subst hf
   exact ⟨h1,by simpa using h2,by simpa using h3⟩
  | succ i =>
   simp only [yAN] at hi hf
   simpa using g2 i off f' hi hf
 | [],_::_,hk=>by cases hk
 | _::_,[],hk=>by cases hk
theorem TOk.struct_ {P:Program} {T:TypeId->TI} {t:TypeId} {i:TypeInfo} {d:TypeDesc} {z:Value} (tok:TOk P T t i d z) {offs:List Nat} (hk:(T t).kind=.struct offs) :
  ∃ fs:Array Field,d=.struct fs/\ze2 P (T t).size offs fs.toList=true:=by
 have:=tok.kind
 unfold zej at this
 rw [hk] at this
 cases d <;> simp at this
 exact ⟨_,rfl,this⟩
theorem TOk.slice_ {P:Program} {T:TypeId->TI} {t:TypeId} {i:TypeInfo} {d:TypeDesc} {z:Value} (tok:TOk P T t i d z) {e:TypeId} (hk:(T t).kind=.slice e) :
  d=.slice e/\(T e).size≠0:=by
 have:=tok.kind
 unfold zej at this
 rw [hk] at this
 cases d <;> simp at this
 obtain ⟨⟨rfl,h2⟩,_⟩:=this
 exact ⟨rfl,h2⟩
theorem TOk.array_ {P:Program} {T:TypeId->TI} {t:TypeId} {i:TypeInfo} {d:TypeDesc} {z:Value} (tok:TOk P T t i d z) {n:Nat} {e:TypeId} (hk:(T t).kind=.array n e) :
  d=.array n e/\(T e).size≠0/\(T t).size=n * (T e).size:=by
 have:=tok.kind
 unfold zej at this
 rw [hk] at this
 cases d <;> simp at this
 obtain ⟨⟨⟨rfl,rfl⟩,h2⟩,h3⟩:=this
 exact ⟨rfl,h2,h3⟩
theorem TOk.int_ {P:Program} {T:TypeId->TI} {t:TypeId} {i:TypeInfo} {d:TypeDesc} {z:Value} (tok:TOk P T t i d z) {k:IntKind} (hk:(T t).kind=.int k):d=.int k:=by
 have:=tok.kind
 unfold zej at this
 rw [hk] at this
 cases d <;> simp at this
 obtain ⟨rfl,_⟩:=this
 rfl
theorem TOk.str_ {P:Program} {T:TypeId->TI} {t:TypeId} {i:TypeInfo} {d:TypeDesc} {z:Value} (tok:TOk P T t i d z) (hk:(T t).kind=.str):d=.string:=by
 have:=tok.kind
 unfold zej at this
 rw [hk] at this
 cases d <;> simp at this
 rfl
theorem TOk.map_ {P:Program} {T:TypeId->TI} {t:TypeId} {i:TypeInfo} {d:TypeDesc} {z:Value} (tok:TOk P T t i d z) {a b:TypeId} (hk:(T t).kind=.map a b):d=.map a b:=by
 have:=tok.kind
 unfold zej at this
 rw [hk] at this
 cases d <;> simp at this
 obtain ⟨⟨rfl,rfl⟩,_⟩:=this
 rfl
theorem TOk.bool_ {P:Program} {T:TypeId->TI} {t:TypeId} {i:TypeInfo} {d:TypeDesc} {z:Value} (tok:TOk P T t i d z) (hk:(T t).kind=.bool):d=.bool:=by
 have:=tok.kind
 unfold zej at this
 rw [hk] at this
 cases d <;> simp at this
 rfl
theorem znh {P:Program} {f:Field} {n:Nat} (h:(P.info? f.type).map (·.size)=some n) (w:World):(Go.sizeOf f.type).run P w=.ok n w:=by
 cases hi:P.info? f.type with
 | none=>simp [hi] at h
 | some i =>
  simp only [hi,yAC,yA] at h
  simp [Go.sizeOf,typeInfo,hi,h]
theorem zq6 {P:Program} {size:Nat} (w:World):∀ (fs:List Field) (offs:List Nat),ze2 P size offs fs=true ->
  ∃ pl:List (Nat × Nat),(fs.mapM fun (f:Field)=>(do pure (f.offset,← Go.sizeOf f.type):Sem (Nat × Nat))).run P w=.ok pl w /\
   ∀ i,pl[i]?=zh5 offs size i
 | [],[],_=>⟨[],by simp,by simp [zh5]⟩
 | [],_::_,hk=>by cases hk
 | _::_,[],hk=>by cases hk
 | f::fs,o::os,hk=>by
  simp only [ze2,yR,decide_eq_true_eq] at hk
  obtain ⟨⟨⟨h1,h2⟩,h3⟩,h4⟩:=hk
  obtain ⟨pl,p1,p2⟩:=zq6 w fs os h4
  refine ⟨(f.offset,os.headD size - o)::pl,?_,fun i=>?_⟩
  ·simp only [List.mapM_cons,Sem.run_bind,znh h2,Result.andThen_ok,Sem.run_pure,p1]
  ·cases i with
   | zero=>simp [zh5,h1]
   | succ i=>simp [p2 i,zh5]
theorem zou (r:Rel E h β S w) (rt:zaF E.T h β w S ts tmps) (parts:List (Nat × Operand)) :
  PW (fun (x:Nat × AV) (y:Nat × Value)=>x.1=y.1/\RelV E.T h β w S x.2 y.2) (parts.map fun (x:Nat × Operand)=>(x.1,ev E.G ts x.2)) (parts.map fun (x:Nat × Operand)=>(x.1,Act.eval ⟨tmps,[]⟩ x.2)):=by
 refine ⟨by simp,fun i x y hx hy=>?_⟩
 simp only [yS,yAH] at hx hy
 obtain ⟨p,h1,rfl⟩:=hx
 obtain ⟨q,h2,rfl⟩:=hy
 rw [h1] at h2
 cases h2
 exact ⟨rfl,zaV r rt _⟩
theorem zjC {l:List AV} {m:List Value} (hp:PW (RelC E.T h β w S) l m):∀ y∈m,y.oneCell'=true:=fun y hy=>by
 obtain ⟨i,hi⟩:=yQ hy
 have hl:=(yB.1 hi).1
 exact (hp.2 i _ y (yE (by rw [hp.1];exact hl)) hi).2
theorem zzI (ht:zaH E) (r:Rel E h β S w) (rt:zaF E.T h β w S ts tmps) (hd:zaR tmps.size o.dst=true) {t:TypeId} {parts:Array (Nat × Operand)} (hop:o.op=.build t parts)
  (hs:zau (mk E) o ts h os=some out) (ho:zat out.o) (g:Goal E h β S w tmps out K):o.wp E.P ⟨tmps,[]⟩ w K Q:=by
 simp only [zau,zaj,hop,mk_T,mk_G] at hs
 have hpw:=zou r rt parts.toList
 cases hk:(E.T t).kind with
 | map _ _=>simp [hk] at hs
 | struct offs =>
  simp only [hk] at hs
  split at hs
  ·rename_i cs hf
   simp only [yA] at hs
   subst hs
   obtain ⟨i,d,z,tok⟩:=ht.at_ (zax (by rw [hk];simp):E.T t≠_)
   obtain ⟨fs,rfl,hfs⟩:=tok.struct_ hk
   have hz:=zdK (T:=E.T) (h:=h) (β:=β) (w:=w) (S:=S) _ _ tok.zok
   obtain ⟨pl,p1,p2⟩:=zq6 (P:=E.P) w fs.toList offs hfs
   obtain ⟨out',o1,o2,o3⟩:=zkp (R:=RelC E.T h β w S) rfl _ _ _ _ _ z.cells.toList hpw hz hf
   have hpl:zh5 offs (E.T t).size=(fun i=>pl.toArray[i]?):=by
    funext i
    rw [yAY,p2 i]
   rw [hpl] at o1
   refine zav r rt hd g (y:=.agg out'.toArray) ?_ (.agg _ _ o2.1 (zjC o2) (fun i x y h1 h2=>(o2.2 i x y h1 h2).1))
   simp only [execOp,hop,Instr.build,Sem.run_bind,tok.zeroValue,Result.andThen_ok,run_underlying tok.und,Array.mapM_eq_mapM_toList,Sem.run_map,p1,yAs,Sem.run_pure]
   rw [Array.toArray_toList] at o1
   rw [o1]
   simp
  ·cases hs
 | array n e =>
  simp only [hk] at hs
  split at hs
  ·rename_i cs hf
   simp only [yA] at hs
   subst hs
   obtain ⟨i,d,z,tok⟩:=ht.at_ (zax (by rw [hk];simp):E.T t≠_)
   obtain ⟨rfl,hes,hts⟩:=tok.array_ hk
   obtain ⟨i2,d2,z2,tok2⟩:=ht.at_ (za2 hes)
   have hz:=zdK (T:=E.T) (h:=h) (β:=β) (w:=w) (S:=S) _ _ tok.zok
   obtain ⟨out',o1,o2,o3⟩:=zkp (R:=RelC E.T h β w S) rfl _ _ _ _ _ z.cells.toList hpw hz hf
   refine zav r rt hd g (y:=.agg out'.toArray) ?_ (.agg _ _ o2.1 (zjC o2) (fun i x y h1 h2=>(o2.2 i x y h1 h2).1))
   simp only [execOp,hop,Instr.build,Sem.run_bind,tok.zeroValue,Result.andThen_ok,run_underlying tok.und,tok2.sizeOf,yAs,Sem.run_pure]
   rw [Array.toArray_toList] at o1
   rw [o1]
   simp
  ·cases hs
 | scalar=>simp [hk] at hs
 | int _=>simp [hk] at hs
 | str=>simp [hk] at hs
 | bool=>simp [hk] at hs
 | slice _=>simp [hk] at hs
theorem zb2 (size:Nat):∀ (n:Nat) (cs:List AV),(zcC size n cs).length=n
 | 0,_=>rfl
 | n+1,cs=>by simp [zcC,zb2 size n]
theorem zfv (size:Nat):∀ (n:Nat) (cs:List AV) (i:Nat),i < n->(zcC size n cs)[i]?=some ((cs.drop (i * size)).take size)
 | 0,_,_,hi=>absurd hi (by omega)
 | n+1,cs,0,_=>by simp [zcC]
 | n+1,cs,i+1,hi=>by
  simp only [zcC,yAN]
  rw [zfv size n _ i (by omega),List.drop_drop,yAA,yAb,Nat.add_comm]
theorem zdm (zero:List AV):∀ n,(repl zero n).length=n * zero.length
 | 0=>by simp [repl]
 | n+1=>by simp [repl,zdm zero n,yAA];omega
theorem zov (zero:List AV):∀ (n i:Nat),i < n * zero.length->(repl zero n)[i]?=zero[i % zero.length]?
 | 0,i,hi=>by omega
 | n+1,i,hi=>by
  simp only [repl]
  by_cases h1:i < zero.length
  ·rw [yH h1,Nat.mod_eq_of_lt h1]
  ·have hm:i % zero.length=(i - zero.length) % zero.length:=Nat.mod_eq_sub_mod (by omega)
   rw [yAA,yAb] at hi
   rw [yY (by omega),zov zero n _ (by omega),hm]
theorem Rel.newData {E:Env0} {h:Heap} {β:List Con} {S:Addr->Prop} {w:World} (r:Rel E h β S w) (e:TypeId) (cs:List AV) (vs:List Value) (size n:Nat) (hl:cs.length=vs.length) (hn:vs.length=n * size) (hm:n<=maxLen)
  (hv:∀ (i:Nat) (x:AV) (y:Value),cs[i]?=some x->vs[i]?=some y->RelD w S x y/\y.oneCell'=true) :
  ∃ S',Ext h β S w h β S' (w.alloc (.cells vs.toArray e))/\Rel E h β S' (w.alloc (.cells vs.toArray e)) /\
   RelD (w.alloc (.cells vs.toArray e)) S' (.sl (zcC size n cs)) (.slice (some ⟨w.heap.size,0,none⟩) n n):=by
 let w':=w.alloc (.cells vs.toArray e)
 let S':Addr->Prop:=fun a=>S a\/a.block=w.heap.size
 have hb:BelowD w.heap.size w w':=(BelowD.refl _ _).alloc (yJ _) _
 have hsz:w'.heap.size=w.heap.size+1:=by simp [w']
 have hx:Ext h β S w h β S' w':=Ext.grow r hb (fun a ha=>.inl ha) (fun a ha=>ha.imp id fun e=>by omega)
 have hr:Rel E h β S' w':=r.grow hb (fun a ha=>.inl ha) (fun a ha=>ha.imp id fun e=>by omega)
 have hnew:w'.heap[w.heap.size]?=some (.cells vs.toArray e (0,0)):=heap_alloc_new w _
 refine ⟨S',hx,hr,?_⟩
 have key:∀ i j c x,(zcC size n cs)[i]?=some c->c[j]?=some x->j < size/\i * size+j < vs.length/\cs[i * size+j]?=some x:=by
  intro i j c x hi hj
  have hin:i < n:=by have:=(yB.1 hi).1;rwa [zb2] at this
  rw [zfv size n cs i hin] at hi
  cases hi
  rw [yM] at hj
  split at hj
  ·rename_i hjs
   rw [yX] at hj
   exact ⟨hjs,by rw [← hl];exact (yB.1 hj).1,hj⟩
  ·cases hj
 have hq:=RelD.sl (w:=w') (S:=S') (zcC size n cs) (some ⟨w.heap.size,0,none⟩) n w.heap.size 0 size (fun k=>(vs[k]?).getD undef) (fun _=>rfl) (by rw [zb2];exact yJ _) hm
  (fun i c hi=>by
   have hin:i < n:=by have:=(yB.1 hi).1;rwa [zb2] at this
   rw [zfv size n cs i hin] at hi
   cases hi
   have:(i+1) * size<=n * size:=yU _ hin
   rw [yAA,yAb] at this
   simp
   omega)
  (fun i j c x hi hj=>by
   obtain ⟨k1,k2,k3⟩:=key i j c x hi hj
   have hvj:vs[i * size+j]?=some (vs[i * size+j]'k2):=yE k2
   refine ⟨.inr rfl,?_,?_⟩
   ·rw [yAi,zoi hnew,hvj];rfl
   ·rw [hvj];exact (hv _ _ _ k3 hvj).2)
  (fun i j c x hi hj=>by
   obtain ⟨k1,k2,k3⟩:=key i j c x hi hj
   have hvj:vs[i * size+j]?=some (vs[i * size+j]'k2):=yE k2
   rw [hvj]
   exact (hv _ _ _ k3 hvj).1.mono hx.S_le hx.S_cell)
 rw [zb2] at hq
 exact hq
theorem zrR (ht:zaH E) (r:Rel E h β S w) (rt:zaF E.T h β w S ts tmps) (hd:zaR tmps.size o.dst=true) {t:TypeId} {n:Nat} {parts:Array (Nat × Operand)} (hop:o.op=.buildSlice t n parts)
  (hs:zau (mk E) o ts h os=some out) (ho:zat out.o) (g:Goal E h β S w tmps out K):o.wp E.P ⟨tmps,[]⟩ w K Q:=by
 simp only [zau,zaj,hop,mk_T,mk_G] at hs
 have hpw:=zou r rt parts.toList
 cases hk:(E.T t).kind with
 | map _ _=>simp [hk] at hs
 | slice e =>
  simp only [hk] at hs
  split at hs
  ·rename_i cs hf hle
   have hle:=yI hle
   simp only [yA] at hs
   subst hs
   obtain ⟨i,d,z,tok⟩:=ht.at_ (zax (by rw [hk];simp):E.T t≠_)
   obtain ⟨rfl,hes⟩:=tok.slice_ hk
   obtain ⟨i2,d2,z2,tok2⟩:=ht.at_ (za2 hes)
   obtain ⟨z1,z3⟩:=zdK (T:=E.T) (h:=h) (β:=β) (w:=w) (S:=S) _ _ tok2.zok
   have hzl:=tok2.zlen
   have hzs:z2.cells.size=(E.T e).size:=by rw [← yAM,← z1,hzl]
   let zs:List Value:=(List.range (n * (E.T e).size)).map fun k=>z2.cells[k % z2.cells.size]!
   have hz:PW (RelC E.T h β w S) (repl (E.T e).zero n) zs:=by
    refine ⟨by simp [zs,zdm,hzl],fun k x y hx hy=>?_⟩
    have hkl:k < n * (E.T e).size:=by have:=(yB.1 hx).1;rwa [zdm,hzl] at this
    rw [zov _ n k (by rw [hzl];exact hkl),hzl] at hx
    have hkm:k % (E.T e).size < z2.cells.size:=by rw [hzs];exact Nat.mod_lt _ (by omega)
    simp [zs,hkl] at hy
    rw [hzs] at hy
    rw [getElem!_pos z2.cells _ hkm] at hy
    refine z3 _ x y hx ?_
    rw [yW,yAc hkm,hy]
   obtain ⟨out',o1,o2,o3⟩:=zkp (R:=RelC E.T h β w S) rfl _ _ _ _ _ zs hpw hz hf
   have hcl:cs.length=n * (E.T e).size:=by rw [o3,zdm,hzl]
   obtain ⟨S1,⟨e1,r1⟩,d1⟩:=zgq E cs h β S w out' r o2.1 (fun i x y h1 h2=>(o2.2 i x y h1 h2).1) (zvl ho)
   have hmax:n<=maxLen:=by
    have:n * 1<=n * (E.T e).size:=Nat.mul_le_mul_left _ (by omega)
    unfold maxLen
    omega
   obtain ⟨S2,e2,r2,d2⟩:=r1.newData e (frzL h cs) out' (E.T e).size n (by rw [zcV];exact o2.1) (by rw [← o2.1,hcl]) hmax (fun i x y h1 h2=>⟨d1 i x y h1 h2,zjC o2 y (yC h2)⟩)
   refine zcQ r rt hd g (x:=slOf n (zcC (E.T e).size n (frzL h cs))) (y:=.slice (some ⟨w.heap.size,0,none⟩) n n) ?_ rfl r2 (e1.trans e2) (by cases n with|zero=>exact .nl _|succ n=>exact .d _ _ d2)
   have hgt:¬ (n * (E.T e).size > 2 ^ 24):=by omega
   by_cases h0:n * (E.T e).size=0
   ·have harr:(Array.range (n * (E.T e).size)).map (fun k=>(#[]:Array Value)[k % (#[]:Array Value).size]!)=zs.toArray:=by simp [zs,h0]
    simp only [execOp,hop,Instr.buildSlice,Sem.run_bind,run_underlying tok.und,Result.andThen_ok,tok2.sizeOf,if_neg hgt,Sem.run_ite,if_pos h0,harr,yAs,o1,Sem.run_pure,newRow,run_newObj]
    simp
   ·have harr:(Array.range (n * (E.T e).size)).map (fun k=>z2.cells[k % z2.cells.size]!)=zs.toArray:=by
     apply Array.ext'
     simp [zs,yAs,Array.toList_range]
    simp only [execOp,hop,Instr.buildSlice,Sem.run_bind,run_underlying tok.und,Result.andThen_ok,tok2.sizeOf,if_neg hgt,Sem.run_ite,if_neg h0,tok2.zeroValue,harr,yAs,o1,Sem.run_pure,newRow,run_newObj]
    simp
  ·cases hs
 | scalar=>simp [hk] at hs
 | int _=>simp [hk] at hs
 | str=>simp [hk] at hs
 | bool=>simp [hk] at hs
 | struct _=>simp [hk] at hs
 | array _ _=>simp [hk] at hs
end
end Go.AM
namespace Go.AM
open Go.RowKit
section
variable {E : Env0} {h : Heap} {β : List Con} {S : Addr -> Prop} {w : World} {tmps : Array Value} {ts : TS} {K : Act -> World -> Prop} {Q : Exit -> Act -> World -> Prop} {o : Oper} {os : List Orc} {out : Out}
theorem RelV.v_inv {T:TypeId->TI} {x y:Value} (hr:RelV T h β w S (.v x) y):y=x:=by
 cases hr with
 | d _ _ hd=>cases hd with|v _ _=>rfl
theorem RelV.bl_inv {T:TypeId->TI} {b:Bool} {y:Value} (hr:RelV T h β w S (.bl b) y):y=.bool b:=by
 cases hr with
 | d _ _ hd=>cases hd with|bl _=>rfl
theorem RelV.bool_inv {T:TypeId->TI} {x:AV} {b:Bool} {y:Value} (hr:RelV T h β w S x y) (hb:bool? x=some b):y=.bool b:=by
 unfold bool? at hb
 split at hb
 ·cases hb;exact hr.bl_inv
 ·cases hb;exact hr.v_inv
 ·cases hb
theorem zcF {T:TypeId->TI} (b:Bool):RelV T h β w S (.v (.bool b)) (.bool b):=.d _ _ (.v _ rfl)
theorem zbG {T:TypeId->TI} (k:IntKind) (n:Int):RelV T h β w S (.v (.int k n)) (.int k n):=.d _ _ (.v _ rfl)
theorem ztw (ht:zaH E) (r:Rel E h β S w) (rt:zaF E.T h β w S ts tmps) (hd:zaR tmps.size o.dst=true) {t:TypeId} {x:Operand} {f:Nat} (hop:o.op=.fieldAddr t x f)
  (hs:zau (mk E) o ts h os=some out) (ho:zat out.o) (g:Goal E h β S w tmps out K):o.wp E.P ⟨tmps,[]⟩ w K Q:=by
 have hx:=zaV (ds:=[]) r rt x
 simp only [zau,zaj,hop,mk_T,mk_G] at hs
 cases hk:(E.T t).kind with
 | map _ _=>simp [hk] at hs
 | struct offs =>
  simp only [hk] at hs
  obtain ⟨i,d,z,tok⟩:=ht.at_ (zax (by rw [hk];simp):E.T t≠_)
  obtain ⟨fs,rfl,hfs⟩:=tok.struct_ hk
  obtain ⟨hl,hget⟩:=zif _ _ hfs
  have run:∀ (gg a d:Nat),offs[f]?=some d->Act.eval ⟨tmps,[]⟩ x=.pointer (some ⟨gg,a,none⟩)->(execOp (Act.eval ⟨tmps,[]⟩) o).run E.P w=.ok (.value (.pointer (some ⟨gg,a+d,none⟩))) w:=by
   intro gg a d hd1 hev
   have hfl:=(yB.1 hd1).1
   have hf:fs.toList[f]?=some (fs.toList[f]'(by rw [← hl];exact hfl)):=yE _
   obtain ⟨q1,q2,q3⟩:=hget f d _ hd1 hf
   have hfa:fs[f]?=some (fs.toList[f]'(by rw [← hl];exact hfl)):=by rw [← yW];exact hf
   simp only [execOp,hop,Instr.fieldAt,Sem.run_bind,run_underlying tok.und,Result.andThen_ok,hfa,hev,Instr.sureAddr,Sem.run_pure,fieldPlace,znh q2,if_neg q3,Sem.run_ite,zc5,← q1]
  split at hs
  ·rename_i d b off hof he
   simp only [yA] at hs
   subst hs
   rw [he] at hx
   generalize hev:Act.eval ⟨tmps,[]⟩ x=y at hx
   cases hx with
   | d _ _ hd=>cases hd
   | p _ _ gg hb=>exact zav r rt hd g (run gg off d hof hev) (.p _ _ _ hb)
  ·rename_i d cs hof he
   simp only [yA] at hs
   subst hs
   rw [he] at hx
   generalize hev:Act.eval ⟨tmps,[]⟩ x=y at hx
   cases hx with
   | d _ _ hd1=>cases hd1 with
    | dp _ gg off fv f1 f2 =>
     refine zav r rt hd g (run gg off d hof hev) (.d _ _ (.dp _ gg (off+d) (fun j=>fv (d+j)) (fun j x hj=>?_) (fun j x hj=>?_)))
     ·rw [yX] at hj
      rw [Nat.add_assoc]
      exact f1 _ x hj
     ·rw [yX] at hj
      exact f2 _ x hj
  ·rename_i d b n i off hof he
   simp only [yA] at hs
   subst hs
   rw [he] at hx
   generalize hev:Act.eval ⟨tmps,[]⟩ x=y at hx
   cases hx with
   | d _ _ hd=>cases hd
   | ep _ _ _ _ gg e xs sh hb hn hy =>
    refine zav r rt hd g (run gg _ d hof hev) ?_
    rw [Nat.add_assoc]
    exact .ep _ _ _ _ gg e xs sh hb hn hy
  ·cases hs
 | scalar=>simp [hk] at hs
 | int _=>simp [hk] at hs
 | str=>simp [hk] at hs
 | bool=>simp [hk] at hs
 | slice _=>simp [hk] at hs
 | array _ _=>simp [hk] at hs
theorem ziG {P:Program} {T:TypeId->TI} {t:TypeId} {i:TypeInfo} {d:TypeDesc} {z:Value} (tok:TOk P T t i d z) (w:World) (vs:List Value) (off:Nat) (hle:off+(T t).size<=vs.length) :
  (part t vs.toArray off).run P w=.ok (zfD (T t) ((vs.drop off).take (T t).size)) w:=by
 simp only [part,Sem.run_bind,tok.isAgg,Result.andThen_ok,Sem.run_ite,zfD]
 cases ha:(T t).isAgg with
 | true =>
  simp only [if_true,Sem.run_bind,tok.sizeOf,Result.andThen_ok,Sem.run_pure]
  congr 2
  simp [List.extract_eq_take_drop]
 | false =>
  have h1:=tok.size1 ha
  have hl:off < vs.length:=by omega
  have e1:vs.toArray[off]?=some vs[off]:=by rw [yAY];exact yE hl
  have e2:((vs.drop off).take (T t).size).headD undef=vs[off]:=by rw [h1,yAf hl];rfl
  rw [e2]
  simp only [Bool.false_eq_true,if_false,e1,Sem.run_pure]
theorem zzK (ht:zaH E) (r:Rel E h β S w) (rt:zaF E.T h β w S ts tmps) (hd:zaR tmps.size o.dst=true) {t:TypeId} {x:Operand} {f:Nat} (hop:o.op=.field t x f)
  (hs:zau (mk E) o ts h os=some out) (ho:zat out.o) (g:Goal E h β S w tmps out K):o.wp E.P ⟨tmps,[]⟩ w K Q:=by
 have hx:=zaV (ds:=[]) r rt x
 simp only [zau,zaj,hop,mk_T,mk_G,mk_P] at hs
 cases hk:(E.T t).kind with
 | map _ _=>simp [hk] at hs
 | struct offs =>
  simp only [hk] at hs
  cases he:ev E.G ts x with
  | agg cs =>
   simp only [he] at hs hx
   cases hof:offs[f]? with
   | none=>simp [hof] at hs
   | some d =>
    simp only [hof] at hs
    split at hs
    ·rename_i res hm hle
     have hle:=yI hle
     simp only [yA] at hs
     subst hs
     obtain ⟨i,dd,z,tok⟩:=ht.at_ (zax (by rw [hk];simp):E.T t≠_)
     obtain ⟨fs,rfl,hfs⟩:=tok.struct_ hk
     obtain ⟨hl,hget⟩:=zif _ _ hfs
     obtain ⟨vs,hev,hvl,hv1,hvr⟩:=hx.agg_inv
     simp only [zat,zvh,tok.und] at ho
     cases hff:fs[f]? with
     | none=>simp [hff] at ho
     | some fl =>
      simp only [hff,yAC,yA] at ho
      obtain ⟨q1,_,_⟩:=hget f d fl hof (by rw [yW];exact hff)
      obtain ⟨i2,d2,z2,tok2⟩:=ht.at_ (ztt hm)
      have hrun:=ziG tok2 w vs d (by rw [← hvl];exact hle)
      refine zav r rt hd g (y:=zfD (E.T o.type) ((vs.drop d).take (E.T o.type).size)) ?_ (znF hm (((PW.drop ⟨hvl,fun i a b ha hb=>⟨hvr i a b ha hb,hv1 b (yC hb)⟩⟩ d)).take _))
      simp only [execOp,hop,Instr.field,Sem.run_bind,run_underlying tok.und,Result.andThen_ok,hff,hev,asAgg,Sem.run_pure,ho,← q1,hrun]
    ·cases hs
  | _=>simp [he] at hs
 | scalar=>simp [hk] at hs
 | int _=>simp [hk] at hs
 | str=>simp [hk] at hs
 | bool=>simp [hk] at hs
 | slice _=>simp [hk] at hs
 | array _ _=>simp [hk] at hs
theorem ztx (ht:zaH E) (r:Rel E h β S w) (rt:zaF E.T h β w S ts tmps) (hd:zaR tmps.size o.dst=true) {t:TypeId} {x ix:Operand} (hop:o.op=.indexAddr t x ix)
  (hs:zau (mk E) o ts h os=some out) (ho:zat out.o) (g:Goal E h β S w tmps out K):o.wp E.P ⟨tmps,[]⟩ w K Q:=by
 have hx:=zaV (ds:=[]) r rt x
 have hix:=zaV (ds:=[]) r rt ix
 simp only [zau,zaj,hop,mk_T,mk_G,mk_P] at hs
 split at hs
 ·rename_i el xs k i hk he hi
  rw [he] at hx
  rw [hi] at hix
  have hev2:=hix.v_inv
  obtain ⟨ti,dd,z,tok⟩:=ht.at_ (zax (by rw [hk];simp):E.T t≠_)
  obtain ⟨rfl,hes⟩:=tok.slice_ hk
  obtain ⟨ti2,dd2,z2,tok2⟩:=ht.at_ (za2 hes)
  split at hs
  ·rename_i c os'
   simp only [yA] at hs
   subst hs
   simp only [zat] at ho
   obtain ⟨h0,hc,hcl⟩:=ho
   have hil:=(yB.1 hc).1
   generalize hev:Act.eval ⟨tmps,[]⟩ x=y at hx
   cases hx with
   | d _ _ hd1=>cases hd1 with
    | sl _ a cap gg off size f f1 f2 f3 f4 f5 f6 =>
     have ha:=f1 (by intro e;rw [e] at hil;simp at hil)
     have hsz:size=(E.T el).size:=by rw [← f4 _ c hc];exact hcl
     refine zav r rt hd g (y:=.pointer (some ⟨gg,off+i.toNat * (E.T el).size,none⟩)) ?_ (.d _ _ (.dp _ gg (off+i.toNat * (E.T el).size) (fun j=>f (i.toNat * (E.T el).size+j)) (fun j x hj=>?_) (fun j x hj=>?_)))
     ·have hlt:0<=i/\i < (xs.length:Int):=by omega
      simp only [execOp,hop,Instr.indexAt,hev2,asIntOf,Sem.run_bind,Sem.run_pure,Result.andThen_ok,run_underlying tok.und,hev,ha,hlt,and_self,if_true,Sem.run_ite,tok2.sizeOf,zc5]
     ·have:=f5 _ j c x hc hj
      rw [hsz] at this
      rw [Nat.add_assoc]
      exact this
     ·have:=f6 _ j c x hc hj
      rw [hsz] at this
      exact this
  ·cases hs
 ·rename_i el b n k i hk he hi
  rw [he] at hx
  rw [hi] at hix
  have hev2:=hix.v_inv
  obtain ⟨ti,dd,z,tok⟩:=ht.at_ (zax (by rw [hk];simp):E.T t≠_)
  obtain ⟨rfl,hes⟩:=tok.slice_ hk
  obtain ⟨ti2,dd2,z2,tok2⟩:=ht.at_ (za2 hes)
  cases hb:h[b]? with
  | none=>simp [hb] at hs
  | some B =>
   cases B with
   | mp _=>simp [hb] at hs
   | box cs=>simp [hb] at hs
   | row e xs sh =>
    simp only [hb] at hs
    split at hs
    ·rename_i hee
     subst hee
     simp only [yA] at hs
     subst hs
     simp only [zat] at ho
     obtain ⟨hn,h0,hlt⟩:=ho
     generalize hev:Act.eval ⟨tmps,[]⟩ x=y at hx
     cases hx with
     | d _ _ hd=>cases hd
     | own _ _ _ e' xs' sh' hb' hn' hy h1 =>
      rw [hb] at hb'
      cases hb'
      have hcur:=hy hn
      obtain ⟨kk,k1,hrow⟩:=r.row b el xs sh hb
      rw [k1] at hcur
      cases kk with
      | mp _=>exact hrow.elim
      | box _=>exact hrow.elim
      | nil a =>
       have:xs=[]:=hrow
       rw [this] at hn
       simp at hn
       omega
      | row gg cap =>
       simp only [yAl,Con.cur,yA] at hcur
       subst hcur
       refine zav r rt hd g (y:=.pointer (some ⟨gg,i.toNat * (E.T el).size+0,none⟩)) ?_ (.ep _ _ _ _ gg el xs sh hb (by omega) (fun _=>⟨cap,k1⟩))
       have hlt2:0<=i/\i < (n:Int):=by omega
       simp only [execOp,hop,Instr.indexAt,hev2,asIntOf,Sem.run_bind,Sem.run_pure,Result.andThen_ok,run_underlying tok.und,hev,hlt2,and_self,if_true,Sem.run_ite,tok2.sizeOf,zc5,yAi,yAg]
    ·cases hs
 ·rename_i el b n lo hh k i hk he hi
  rw [he] at hx
  rw [hi] at hix
  have hev2:=hix.v_inv
  obtain ⟨ti,dd,z,tok⟩:=ht.at_ (zax (by rw [hk];simp):E.T t≠_)
  obtain ⟨rfl,hes⟩:=tok.slice_ hk
  obtain ⟨ti2,dd2,z2,tok2⟩:=ht.at_ (za2 hes)
  cases hb:h[b]? with
  | none=>simp [hb] at hs
  | some B =>
   cases B with
   | mp _=>simp [hb] at hs
   | box cs=>simp [hb] at hs
   | row e xs sh =>
    simp only [hb] at hs
    split at hs
    ·rename_i hee
     subst hee
     simp only [yA] at hs
     subst hs
     simp only [zat] at ho
     obtain ⟨hn,h0,hlt⟩:=ho
     generalize hev:Act.eval ⟨tmps,[]⟩ x=y at hx
     cases hx with
     | d _ _ hd=>cases hd
     | os _ _ _ _ _ e' xs' sh' hb' hn' hl hhn _ hy =>
      rw [hb] at hb'
      cases hb'
      obtain ⟨kk0,k0,hat⟩:=hy hn
      obtain ⟨kk,k1,hrow⟩:=r.row b el xs sh hb
      rw [k0] at k1
      cases k1
      cases kk0 with
      | mp _=>exact hrow.elim
      | box _=>exact hrow.elim
      | nil a =>
       have:xs=[]:=hrow
       rw [this] at hn
       simp at hn
       omega
      | row gg cap =>
       obtain ⟨a,rfl,ha⟩:=hat
       obtain ⟨_,_,hcap,_⟩:=hrow
       have ha:=ha (by omega)
       refine zav r rt hd g (y:=.pointer (some ⟨gg,(i.toNat+lo) * (E.T el).size+0,none⟩)) ?_ (.ep _ _ _ _ gg el xs sh hb (by omega) (fun _=>⟨cap,k0⟩))
       have hlt2:0<=i/\i < ((hh - lo:Nat):Int):=by omega
       simp only [execOp,hop,Instr.indexAt,hev2,asIntOf,Sem.run_bind,Sem.run_pure,Result.andThen_ok,run_underlying tok.und,hev,ha,hlt2,and_self,if_true,Sem.run_ite,tok2.sizeOf,zc5,yAg,yAA,Nat.add_comm (i.toNat * (E.T el).size)]
    ·cases hs
 ·rename_i n el cs k i hk he hi
  rw [he] at hx
  rw [hi] at hix
  have hev2:=hix.v_inv
  obtain ⟨ti,dd,z,tok⟩:=ht.at_ (zax (by rw [hk];simp):E.T t≠_)
  obtain ⟨rfl,hes,hts⟩:=tok.array_ hk
  obtain ⟨ti2,dd2,z2,tok2⟩:=ht.at_ (za2 hes)
  split at hs
  ·rename_i c os'
   simp only [yA] at hs
   subst hs
   simp only [zat] at ho
   obtain ⟨h0,hlt,hc,hcl⟩:=ho
   generalize hev:Act.eval ⟨tmps,[]⟩ x=y at hx
   cases hx with
   | d _ _ hd1=>cases hd1 with
    | dp _ gg off f f1 f2 =>
     have hget:∀ j x,c[j]?=some x->cs[i.toNat * (E.T el).size+j]?=some x:=by
      intro j x hj
      rw [← hc,yM] at hj
      split at hj
      ·rwa [yX] at hj
      ·cases hj
     refine zav r rt hd g (y:=.pointer (some ⟨gg,off+i.toNat * (E.T el).size,none⟩)) ?_ (.d _ _ (.dp _ gg (off+i.toNat * (E.T el).size) (fun j=>f (i.toNat * (E.T el).size+j)) (fun j x hj=>?_) (fun j x hj=>?_)))
     ·have hlt2:0<=i/\i < (n:Int):=by omega
      simp only [execOp,hop,Instr.indexAt,hev2,asIntOf,Sem.run_bind,Sem.run_pure,Result.andThen_ok,run_underlying tok.und,hev,Instr.sureAddr,hlt2,and_self,if_true,Sem.run_ite,tok2.sizeOf,zc5]
     ·rw [Nat.add_assoc]
      exact f1 _ x (hget j x hj)
     ·exact f2 _ x (hget j x hj)
  ·cases hs
 ·rename_i n el b off k i hk he hi
  rw [he] at hx
  rw [hi] at hix
  have hev2:=hix.v_inv
  obtain ⟨ti,dd,z,tok⟩:=ht.at_ (zax (by rw [hk];simp):E.T t≠_)
  obtain ⟨rfl,hes,hts⟩:=tok.array_ hk
  obtain ⟨ti2,dd2,z2,tok2⟩:=ht.at_ (za2 hes)
  simp only [yA] at hs
  subst hs
  simp only [zat] at ho
  obtain ⟨h0,hlt⟩:=ho
  generalize hev:Act.eval ⟨tmps,[]⟩ x=y at hx
  cases hx with
  | d _ _ hd1=>cases hd1
  | p _ _ gg hb =>
   refine zav r rt hd g (y:=.pointer (some ⟨gg,off+i.toNat * (E.T el).size,none⟩)) ?_ (.p b _ gg hb)
   have hlt2:0<=i/\i < (n:Int):=by omega
   simp only [execOp,hop,Instr.indexAt,hev2,asIntOf,Sem.run_bind,Sem.run_pure,Result.andThen_ok,run_underlying tok.und,hev,Instr.sureAddr,hlt2,and_self,if_true,Sem.run_ite,tok2.sizeOf,zc5]
 ·cases hs
theorem zzL (ht:zaH E) (r:Rel E h β S w) (rt:zaF E.T h β w S ts tmps) (hd:zaR tmps.size o.dst=true) {t:TypeId} {x ix:Operand} (hop:o.op=.index t x ix)
  (hs:zau (mk E) o ts h os=some out) (ho:zat out.o) (g:Goal E h β S w tmps out K):o.wp E.P ⟨tmps,[]⟩ w K Q:=by
 have hx:=zaV (ds:=[]) r rt x
 have hix:=zaV (ds:=[]) r rt ix
 simp only [zau,zaj,hop,mk_T,mk_G,mk_P] at hs
 split at hs
 ·rename_i n el cs k i hk he hi
  rw [he] at hx
  rw [hi] at hix
  have hev2:=hix.v_inv
  obtain ⟨ti,dd,z,tok⟩:=ht.at_ (zax (by rw [hk];simp):E.T t≠_)
  obtain ⟨rfl,hes,hts⟩:=tok.array_ hk
  obtain ⟨ti2,dd2,z2,tok2⟩:=ht.at_ (za2 hes)
  split at hs
  ·rename_i c os'
   split at hs
   ·rename_i res hm
    simp only [yA] at hs
    subst hs
    simp only [zat] at ho
    obtain ⟨h0,hlt,hc,hcl⟩:=ho
    obtain ⟨vs,hev,hvl,hv1,hvr⟩:=hx.agg_inv
    have hle:i.toNat * (E.T el).size+(E.T el).size<=vs.length:=by
     rw [← hvl]
     have:c.length<=cs.length - i.toNat * (E.T el).size:=by rw [← hc];simp;omega
     omega
    have hrun:=ziG tok2 w vs (i.toNat * (E.T el).size) hle
    have hpw:PW (RelC E.T h β w S) c ((vs.drop (i.toNat * (E.T el).size)).take (E.T el).size):=by
     rw [← hc]
     exact ((PW.drop ⟨hvl,fun i a b ha hb=>⟨hvr i a b ha hb,hv1 b (yC hb)⟩⟩ _)).take _
    refine zav r rt hd g (y:=zfD (E.T el) ((vs.drop (i.toNat * (E.T el).size)).take (E.T el).size)) ?_ (znF hm hpw)
    have hlt2:0<=i/\i < (n:Int):=by omega
    simp only [execOp,hop,Instr.index,hev2,asIntOf,Sem.run_bind,Sem.run_pure,Result.andThen_ok,run_underlying tok.und,hev,hlt2,and_self,if_true,Sem.run_ite,tok2.sizeOf,hrun]
   ·cases hs
  ·cases hs
 ·rename_i s k i hk he hi
  rw [he] at hx
  rw [hi] at hix
  have hev:=hx.v_inv
  have hev2:=hix.v_inv
  obtain ⟨ti,dd,z,tok⟩:=ht.at_ (zax (by rw [hk];simp):E.T t≠_)
  have:=tok.str_ hk
  subst this
  split at hs
  ·rename_i n os'
   simp only [yA] at hs
   subst hs
   simp only [zat] at ho
   obtain ⟨h0,hb⟩:=ho
   refine zav r rt hd g (y:=.int .u8 n) ?_ (zbG _ _)
   cases hq:s[i.toNat]? with
   | none=>simp [hq] at hb
   | some b =>
    simp only [hq,yAC,yA] at hb
    simp only [execOp,hop,Instr.index,hev2,asIntOf,Sem.run_bind,Sem.run_pure,Result.andThen_ok,run_underlying tok.und,hev,h0,if_true,hq,hb]
  ·cases hs
 ·cases hs
end
end Go.AM
namespace Go.AM
open Go.RowKit
section
variable {E : Env0} {h : Heap} {β : List Con} {S : Addr -> Prop} {w : World} {tmps : Array Value} {ts : TS} {K : Act -> World -> Prop} {Q : Exit -> Act -> World -> Prop} {o : Oper} {os : List Orc} {out : Out}
theorem zvw (ht:zaH E) (r:Rel E h β S w) (rt:zaF E.T h β w S ts tmps) (hd:zaR tmps.size o.dst=true) {x:Operand} (hop:o.op=.move x\/o.op=.assign x)
  (hs:zau (mk E) o ts h os=some out) (ho:zat out.o) (g:Goal E h β S w tmps out K):o.wp E.P ⟨tmps,[]⟩ w K Q:=by
 have hx:=zaV (ds:=[]) r rt x
 rcases hop with hop|hop <;>
 ·simp only [zau,zaj,hop,mk_T,mk_G,yA] at hs
  subst hs
  exact zav r rt hd g (by simp only [execOp,hop,Sem.run_pure]) hx
theorem zAT (ht:zaH E) (r:Rel E h β S w) (rt:zaF E.T h β w S ts tmps) (hd:zaR tmps.size o.dst=true) {c a b:Operand} (hop:o.op=.pick c a b)
  (hs:zau (mk E) o ts h os=some out) (ho:zat out.o) (g:Goal E h β S w tmps out K):o.wp E.P ⟨tmps,[]⟩ w K Q:=by
 have hc:=zaV (ds:=[]) r rt c
 have ha:=zaV (ds:=[]) r rt a
 have hb:=zaV (ds:=[]) r rt b
 have run:∀ t,Act.eval ⟨tmps,[]⟩ c=.bool t->(execOp (Act.eval ⟨tmps,[]⟩) o).run E.P w=.ok (.value (if t then Act.eval ⟨tmps,[]⟩ a else Act.eval ⟨tmps,[]⟩ b)) w:=by
  intro t he
  simp only [execOp,hop,he,asBool,Sem.run_bind,Sem.run_pure,Result.andThen_ok]
 simp only [zau,zaj,hop,mk_T,mk_G] at hs
 split at hs
 ·rename_i t he
  simp only [yA] at hs
  subst hs
  rw [he] at hc
  refine zav r rt hd g (run t hc.bl_inv) ?_
  cases t
  ·exact hb
  ·exact ha
 ·rename_i t he
  rw [he] at hc
  split at hs
  ·rename_i x y hx hy
   simp only [yA] at hs
   subst hs
   refine zav r rt hd g (run t hc.v_inv) ?_
   rw [ha.bool_inv hx,hb.bool_inv hy]
   cases t <;> exact zcF _
  ·split at hs
   ·rename_i d os'
    simp only [yA] at hs
    subst hs
    simp only [zat] at ho
    subst ho
    refine zav r rt hd g (run t hc.v_inv) ?_
    cases t
    ·exact hb
    ·exact ha
   ·cases hs
 ·cases hs
theorem zuX (ht:zaH E) (r:Rel E h β S w) (rt:zaF E.T h β w S ts tmps) (hd:zaR tmps.size o.dst=true) {x:Operand} (hop:o.op=.nilCheck x)
  (hs:zau (mk E) o ts h os=some out) (ho:zat out.o) (g:Goal E h β S w tmps out K):o.wp E.P ⟨tmps,[]⟩ w K Q:=by
 have hx:=zaV (ds:=[]) r rt x
 simp only [zau,zaj,hop,mk_T,mk_G] at hs
 split at hs
 ·rename_i b off he
  simp only [yA] at hs
  subst hs
  rw [he] at hx
  generalize hev:Act.eval ⟨tmps,[]⟩ x=y at hx
  refine zav r rt hd g (y:=y) ?_ hx
  cases hx with
  | d _ _ hd=>cases hd
  | p=>simp only [execOp,hop,hev,Sem.run_pure]
 ·rename_i cs he
  simp only [yA] at hs
  subst hs
  rw [he] at hx
  generalize hev:Act.eval ⟨tmps,[]⟩ x=y at hx
  refine zav r rt hd g (y:=y) ?_ hx
  cases hx with
  | d _ _ hd=>cases hd with|dp=>simp only [execOp,hop,hev,Sem.run_pure]
 ·rename_i b n i off he
  simp only [yA] at hs
  subst hs
  rw [he] at hx
  generalize hev:Act.eval ⟨tmps,[]⟩ x=y at hx
  refine zav r rt hd g (y:=y) ?_ hx
  cases hx with
  | d _ _ hd=>cases hd
  | ep=>simp only [execOp,hop,hev,Sem.run_pure]
 ·rename_i f caps he
  simp only [yA] at hs
  subst hs
  rw [he] at hx
  generalize hev:Act.eval ⟨tmps,[]⟩ x=y at hx
  refine zav r rt hd g (y:=y) ?_ hx
  cases hx with
  | d _ _ hd=>cases hd
  | fn=>simp only [execOp,hop,hev,Sem.run_pure]
 ·cases hs
theorem zw2 (ht:zaH E) (r:Rel E h β S w) (rt:zaF E.T h β w S ts tmps) (hd:zaR tmps.size o.dst=true) {x:Operand} {i:Nat} (hop:o.op=.extract x i)
  (hs:zau (mk E) o ts h os=some out) (ho:zat out.o) (g:Goal E h β S w tmps out K):o.wp E.P ⟨tmps,[]⟩ w K Q:=by
 have hx:=zaV (ds:=[]) r rt x
 simp only [zau,zaj,hop,mk_T,mk_G] at hs
 split at hs
 ·rename_i vs he
  rw [he] at hx
  split at hs
  ·rename_i res hi
   simp only [yA] at hs
   subst hs
   obtain ⟨ys,hev,hl,hv⟩:=hx.tup_inv
   have hil:=(yB.1 hi).1
   have hy:ys[i]?=some (ys[i]'(by rw [← hl];exact hil)):=yE _
   refine zav r rt hd g ?_ (hv i _ _ hi hy)
   have:ys.toArray[i]?=some (ys[i]'(by rw [← hl];exact hil)):=by rw [yAY];exact hy
   simp only [execOp,hop,hev,Instr.extract,this,Sem.run_bind,Sem.run_pure,Result.andThen_ok]
  ·cases hs
 ·cases hs
theorem zuW (ht:zaH E) (r:Rel E h β S w) (rt:zaF E.T h β w S ts tmps) (hd:zaR tmps.size o.dst=true) {f:FuncId} {first caps:Array Operand} (hop:o.op=.makeFunc (.func f) first caps)
  (hs:zau (mk E) o ts h os=some out) (ho:zat out.o) (g:Goal E h β S w tmps out K):o.wp E.P ⟨tmps,[]⟩ w K Q:=by
 simp only [zau,zaj,hop,mk_T,mk_G] at hs
 split at hs
 ·rename_i hf
  simp only [yA] at hs
  subst hs
  have hfe:first=#[]:=by apply Array.ext';exact hf
  refine zav r rt hd g (y:=.func (.func f) #[] (caps.toList.map (Act.eval ⟨tmps,[]⟩)).toArray) ?_ (.fn f _ _ (by simp) (fun i x y hx hy=>?_))
  ·simp only [execOp,hop,Instr.makeFunc,Sem.run_bind,Sem.run_pure,Result.andThen_ok,hfe,Array.map_empty]
   congr 3
   apply Array.ext'
   simp
  ·simp only [yS,yAH] at hx hy
   obtain ⟨p,h1,rfl⟩:=hx
   obtain ⟨q,h2,rfl⟩:=hy
   rw [h1] at h2
   cases h2
   exact zaV r rt _
 ·cases hs
theorem zoP:∀ {xs:List (List AV)} {ns:List Int},zkh xs=some ns->xs=ns.map fun n=>[.v (.int .u8 n)]
 | [],ns,h=>by simp only [zkh,yA] at h;subst h;rfl
 | x::r,ns,h=>by
  unfold zkh at h
  split at h
  ·simp_all
  ·rename_i n r' he
   injection he with he1 he2
   subst he1 he2
   split at h
   ·rename_i ns' hr
    simp only [yA] at h
    subst h
    rw [zoP hr];rfl
   ·cases h
  ·cases h
theorem zoe (w:World) (e:TypeId) (s:ByteArray):BelowD w.heap.size w (Lib.bytesWorld w e s) :=
 ⟨⟨by simp [Lib.bytesWorld,World.freeze,World.alloc,World.drew,-World.alloc_eq,-World.drew_eq],by simp [Lib.bytesWorld,World.freeze,World.alloc,World.drew,-World.alloc_eq,-World.drew_eq],by simp [Lib.bytesWorld,World.freeze,World.alloc,World.drew,-World.alloc_eq,-World.drew_eq],
  by rw [Lib.bytesWorld_size];omega,fun k hk=>Lib.bytesWorld_at_old w e s k hk⟩,by simp [Lib.bytesWorld,World.freeze,World.alloc,World.drew,-World.alloc_eq,-World.drew_eq]⟩
theorem Rel.newBytes {E:Env0} {h:Heap} {β:List Con} {S:Addr->Prop} {w:World} (r:Rel E h β S w) (e:TypeId) (s:ByteArray) (hs:s.size<=1000000000000) :
  ∃ S',Ext h β S w h β S' (Lib.bytesWorld w e s)/\Rel E h β S' (Lib.bytesWorld w e s)/\RelD (Lib.bytesWorld w e s) S' (.sl (zgV s)) (.slice (some ⟨w.heap.size,0,none⟩) s.size (grownCap w s.size 0 e)):=by
 let S':Addr->Prop:=fun a=>S a\/a.block=w.heap.size
 have hb:=zoe w e s
 have hsz:=Lib.bytesWorld_size w e s
 have hx:Ext h β S w h β S' (Lib.bytesWorld w e s):=Ext.grow r hb (fun a ha=>.inl ha) (fun a ha=>ha.imp id fun e=>by omega)
 have hr:Rel E h β S' (Lib.bytesWorld w e s):=r.grow hb (fun a ha=>.inl ha) (fun a ha=>ha.imp id fun e=>by omega)
 refine ⟨S',hx,hr,?_⟩
 have hlen:(zgV s).length=s.size:=by unfold zgV;rw [yG,yAM];rfl
 have key:∀ i j c x,(zgV s)[i]?=some c->c[j]?=some x->j=0/\i < s.size/\x=.v (.int .u8 (s.data.toList.getD i 0).toNat):=by
  intro i j c x hi hj
  have hlt:i < s.size:=by rw [← hlen];exact (yB.1 hi).1
  have hlt2:i < s.data.toList.length:=by rw [yAM];exact hlt
  simp only [zgV,yS,yE hlt2,yAC,yA] at hi
  subst hi
  cases j with
  | succ j=>simp [u8c] at hj
  | zero =>
   simp only [u8c,yAB,yA] at hj
   refine ⟨rfl,hlt,hj.symm.trans ?_⟩
   rw [yAF,yE hlt2];rfl
 have hge:=grownCap_ge w s.size 0 e
 have hle:=grownCap_le_maxLen w s.size 0 e (by unfold maxLen;omega)
 have hq:=RelD.sl (w:=Lib.bytesWorld w e s) (S:=S') (zgV s) (some ⟨w.heap.size,0,none⟩) (grownCap w s.size 0 e) w.heap.size 0 1 (fun k=>.int .u8 (s.data.toList.getD k 0).toNat) (fun _=>rfl) (by rw [hlen];exact hge) hle
  (fun i c hi=>by
   simp only [zgV,yS,yAH] at hi
   obtain ⟨b,_,rfl⟩:=hi
   rfl)
  (fun i j c x hi hj=>by
   obtain ⟨rfl,k2,_⟩:=key i j c x hi hj
   refine ⟨.inr rfl,?_,rfl⟩
   have:=Lib.bytesWorld_cell w e s i k2
   simpa using this)
  (fun i j c x hi hj=>by
   obtain ⟨rfl,k2,rfl⟩:=key i j c x hi hj
   simp only [Nat.mul_one,yAg]
   exact .v _ rfl)
 rw [hlen] at hq
 exact hq
theorem zw1 (ht:zaH E) (r:Rel E h β S w) (rt:zaF E.T h β w S ts tmps) (hd:zaR tmps.size o.dst=true) {s t:TypeId} {x:Operand} (hop:o.op=.convert s t x)
  (hs:zau (mk E) o ts h os=some out) (ho:zat out.o) (g:Goal E h β S w tmps out K):o.wp E.P ⟨tmps,[]⟩ w K Q:=by
 have hx:=zaV (ds:=[]) r rt x
 simp only [zau,zaj,hop,mk_T,mk_G] at hs
 split at hs
 ·rename_i k k' a hk he hle
  have hle:=yI hle
  split at hs
  ·simp only [yA] at hs
   subst hs
   simp only [zat] at ho
   rw [he] at hx
   obtain ⟨ti,dd,z,tok⟩:=ht.at_ (zax (by rw [hk];simp):E.T t≠_)
   have:=tok.int_ hk
   subst this
   obtain ⟨ti2,dd2,z2,tok2⟩:=ht.at_ (za2 (by omega):E.T s≠_)
   refine zav r rt hd g ?_ (zbG _ _)
   simp only [execOp,hop,convert,Sem.run_bind,run_underlying tok2.und,run_underlying tok.und,Result.andThen_ok,hx.v_inv,Conv.intToInt,Sem.run_pure,ho]
  ·cases hs
 ·rename_i xs hk he hle
  split at hs
  ·rename_i el hks
   split at hs
   ·rename_i ns hke hns
    simp only [yA] at hs
    subst hs
    rw [he] at hx
    obtain ⟨ti,dd,z,tok⟩:=ht.at_ (zax (by rw [hk];simp):E.T t≠_)
    have h1:=tok.str_ hk
    subst h1
    obtain ⟨ti2,dd2,z2,tok2⟩:=ht.at_ (zax (by rw [hks];simp):E.T s≠_)
    obtain ⟨h2,_⟩:=tok2.slice_ hks
    subst h2
    obtain ⟨ti3,dd3,z3,tok3⟩:=ht.at_ (zax (by rw [hke];simp):E.T el≠_)
    have h3:=tok3.int_ hke
    subst h3
    have hxs:=zoP hns
    generalize hev:Act.eval ⟨tmps,[]⟩ x=y at hx
    cases hx with
    | d _ _ hdd=>cases hdd with
     | sl _ a cap gg oo size f ha _ _ hs1 hs2 hs3 =>
      refine zav r rt hd g (y:=.string (zxj ns)) ?_ (.d _ _ (.v _ rfl))
      suffices hc:(convert s t (.slice a xs.length cap)).run E.P w=.ok (.string (zxj ns)) w by
       simp only [execOp,hop,hev,Sem.run_bind,hc,Result.andThen_ok,Sem.run_pure]
      rw [run_convert_bytes_string w s t el a _ cap tok2.und tok3.und tok.und]
      cases a with
      | none =>
       have hnil:xs=[]:=Classical.byContradiction fun hne=>by cases ha hne
       subst hnil
       cases ns with
       | nil=>rfl
       | cons n r=>simp at hxs
      | some a =>
       refine run_bytesToString w a xs.length cap ns ?_
       have hl:xs.length=(ns.map (Value.int .u8)).length:=by rw [hxs];simp
       rw [hl]
       refine run_loadCells_list w a _ fun j v hj=>?_
       have hne:xs≠[]:=by
        rintro rfl
        cases ns with
        | nil=>simp at hj
        | cons n r=>simp at hxs
       cases ha hne
       rw [yS] at hj
       cases hn:ns[j]? with
       | none=>rw [hn] at hj;simp at hj
       | some n =>
        rw [hn] at hj
        simp only [yAC,yA] at hj
        have hx1:xs[j]?=some [.v (.int .u8 n)]:=by rw [hxs,yS,hn];rfl
        have hsz:=hs1 j _ hx1
        simp only [yAL,yAS] at hsz
        obtain ⟨_,q2,_⟩:=hs2 j 0 _ _ hx1 rfl
        have q3:=hs3 j 0 _ _ hx1 rfl
        rw [← hsz] at q2 q3
        simp only [yAi,Nat.mul_one,yAg] at q2 q3
        have q4:∀ y,RelD w S (.v (.int .u8 n)) y->y=.int .u8 n:=fun y h=>by cases h;rfl
        rw [zc5,q2,q4 _ q3,hj]
   ·cases hs
  ·cases hs
 ·rename_i el y hk he hle
  split at hs
  ·rename_i hke
   simp only [yA] at hs
   subst hs
   simp only [zat] at ho
   have hle:=yI hle
   rw [he] at hx
   obtain ⟨ti,dd,z,tok⟩:=ht.at_ (zax (by rw [hk];simp):E.T t≠_)
   obtain ⟨h2,_⟩:=tok.slice_ hk
   subst h2
   obtain ⟨ti2,dd2,z2,tok2⟩:=ht.at_ (za2 (by omega):E.T s≠_)
   obtain ⟨ti3,dd3,z3,tok3⟩:=ht.at_ (zax (by rw [hke];simp):E.T el≠_)
   have h3:=tok3.int_ hke
   subst h3
   obtain ⟨S2,e2,r2,d2⟩:=r.newBytes el y ho
   refine zcQ r rt hd g (y:=.slice (some ⟨w.heap.size,0,none⟩) y.size (grownCap w y.size 0 el)) ?_ rfl r2 e2 (.d _ _ d2)
   simp only [execOp,hop,hx.v_inv,Sem.run_bind,Lib.run_convert_string_bytes w s t el y tok2.und tok.und tok3.und,Result.andThen_ok,Sem.run_pure]
  ·cases hs
 ·cases hs
theorem zAU (ht:zaH E) (r:Rel E h β S w) (rt:zaF E.T h β w S ts tmps) (hd:zaR tmps.size o.dst=true) {u:UnOp} {t:TypeId} {x:Operand} (hop:o.op=.unOp u t x)
  (hs:zau (mk E) o ts h os=some out) (ho:zat out.o) (g:Goal E h β S w tmps out K):o.wp E.P ⟨tmps,[]⟩ w K Q:=by
 have hx:=zaV (ds:=[]) r rt x
 cases u with
 | not =>
  simp only [zau,zaj,hop,mk_T,mk_G] at hs
  split at hs
  ·rename_i b he
   simp only [yA] at hs
   subst hs
   rw [he] at hx
   exact zav r rt hd g (y:=.bool (!b)) (by simp only [execOp,hop,hx.bl_inv,Op.unary,Sem.run_bind,Sem.run_pure,Result.andThen_ok]) (.d _ _ (.bl _))
  ·rename_i b he
   simp only [yA] at hs
   subst hs
   rw [he] at hx
   exact zav r rt hd g (y:=.bool (!b)) (by simp only [execOp,hop,hx.v_inv,Op.unary,Sem.run_bind,Sem.run_pure,Result.andThen_ok]) (zcF _)
  ·cases hs
 | neg =>
  simp only [zau,zaj,hop,mk_T,mk_G] at hs
  split at hs
  ·rename_i k a n os' he
   simp only [yA] at hs
   subst hs
   simp only [zat] at ho
   rw [he] at hx
   have hw:k.wrap (0 - a)=n:=by rw [Int.zero_sub];exact ho
   exact zav r rt hd g (y:=.int k n) (by simp only [execOp,hop,hx.v_inv,Op.unary,Op.intArith,Sem.run_bind,Sem.run_pure,Result.andThen_ok,hw]) (zbG _ _)
  ·cases hs
 | xor =>
  simp only [zau,zaj,hop,mk_T,mk_G] at hs
  split at hs
  ·rename_i k a n os' he
   simp only [yA] at hs
   subst hs
   simp only [zat] at ho
   rw [he] at hx
   exact zav r rt hd g (y:=.int k n) (by simp only [execOp,hop,hx.v_inv,Op.unary,Op.intBits,Sem.run_bind,Sem.run_pure,Result.andThen_ok,ho]) (zbG _ _)
  ·cases hs
 | _=>simp [zau,zaj,hop] at hs
theorem op_max (ht:zaH E) (r:Rel E h β S w) (rt:zaF E.T h β w S ts tmps) (hd:zaR tmps.size o.dst=true) {args:Array Operand} {tys:Array TypeId} (hop:o.op=.call { callee:=.builtin .max,args:=args,argTypes:=tys })
  (hs:zau (mk E) o ts h os=some out) (ho:zat out.o) (g:Goal E h β S w tmps out K):o.wp E.P ⟨tmps,[]⟩ w K Q:=by
 simp only [zau,zaj,hop,mk_T,mk_G] at hs
 split at hs
 ·rename_i x y hax
  have hae:args=#[x,y]:=by apply Array.ext';exact hax
  subst hae
  have hx:=zaV (ds:=[]) r rt x
  have hy:=zaV (ds:=[]) r rt y
  split at hs
  ·rename_i k a k' b n os' hex hey
   simp only [yA] at hs
   subst hs
   simp only [zat] at ho
   rw [hex] at hx
   rw [hey] at hy
   refine zav r rt hd g (y:=.int k n) ?_ (zbG _ _)
   simp [execOp,hop,resolve,invoke,builtin,Builtin.max_,Builtin.max2,hx.v_inv,hy.v_inv,ho]
  ·cases hs
 ·cases hs
theorem op_min (ht:zaH E) (r:Rel E h β S w) (rt:zaF E.T h β w S ts tmps) (hd:zaR tmps.size o.dst=true) {args:Array Operand} {tys:Array TypeId} (hop:o.op=.call { callee:=.builtin .min,args:=args,argTypes:=tys })
  (hs:zau (mk E) o ts h os=some out) (ho:zat out.o) (g:Goal E h β S w tmps out K):o.wp E.P ⟨tmps,[]⟩ w K Q:=by
 simp only [zau,zaj,hop,mk_T,mk_G] at hs
 split at hs
 ·rename_i x y hax
  have hae:args=#[x,y]:=by apply Array.ext';exact hax
  subst hae
  have hx:=zaV (ds:=[]) r rt x
  have hy:=zaV (ds:=[]) r rt y
  split at hs
  ·rename_i k a k' b n os' hex hey
   simp only [yA] at hs
   subst hs
   simp only [zat] at ho
   rw [hex] at hx
   rw [hey] at hy
   refine zav r rt hd g (y:=.int k n) ?_ (zbG _ _)
   simp [execOp,hop,resolve,invoke,builtin,Builtin.min_,Builtin.min2,hx.v_inv,hy.v_inv,ho]
  ·cases hs
 ·cases hs
theorem op_len (ht:zaH E) (r:Rel E h β S w) (rt:zaF E.T h β w S ts tmps) (hd:zaR tmps.size o.dst=true) {args:Array Operand} {tys:Array TypeId} (hop:o.op=.call { callee:=.builtin .len,args:=args,argTypes:=tys })
  (hs:zau (mk E) o ts h os=some out) (ho:zat out.o) (g:Goal E h β S w tmps out K):o.wp E.P ⟨tmps,[]⟩ w K Q:=by
 simp only [zau,zaj,hop,mk_T,mk_G] at hs
 split at hs
 ·rename_i x t hax hat
  have hae:args=#[x]:=by apply Array.ext';exact hax
  have hte:tys=#[t]:=by apply Array.ext';exact hat
  subst hae
  subst hte
  have hx:=zaV (ds:=[]) r rt x
  split at hs
  ·rename_i xs hk he
   simp only [yA] at hs
   subst hs
   rw [he] at hx
   obtain ⟨ti,dd,z,tok⟩:=ht.at_ (zax (by rw [hk];simp):E.T t≠_)
   obtain ⟨rfl,_⟩:=tok.slice_ hk
   generalize hev:Act.eval ⟨tmps,[]⟩ x=y at hx
   cases hx with
   | d _ _ hd1=>cases hd1 with
    | sl _ a cap gg off size f _ _ _ _ _ _ =>
     refine zav r rt hd g (y:=.int .i64 xs.length) ?_ (zbG _ _)
     simp [execOp,hop,resolve,invoke,builtin,Builtin.len_,run_underlying tok.und,hev,goInt]
  ·rename_i hk he
   simp only [yA] at hs
   subst hs
   rw [he] at hx
   obtain ⟨ti,dd,z,tok⟩:=ht.at_ (zax (by rw [hk];simp):E.T t≠_)
   obtain ⟨rfl,_⟩:=tok.slice_ hk
   generalize hev:Act.eval ⟨tmps,[]⟩ x=y at hx
   cases hx with
   | d _ _ hd=>cases hd
   | nl a =>
    refine zav r rt hd g (y:=.int .i64 0) ?_ (zbG _ _)
    simp [execOp,hop,resolve,invoke,builtin,Builtin.len_,run_underlying tok.und,hev,goInt]
  ·rename_i b n hk he
   rw [he] at hx
   obtain ⟨ti,dd,z,tok⟩:=ht.at_ (zax (by rw [hk];simp):E.T t≠_)
   obtain ⟨rfl,_⟩:=tok.slice_ hk
   cases hb:h[b]? with
   | none=>simp [hb] at hs
   | some B =>
    cases B with
    | mp _=>simp [hb] at hs
    | box cs=>simp [hb] at hs
    | row e xs sh =>
     simp only [hb,yA] at hs
     subst hs
     simp only [zat] at ho
     generalize hev:Act.eval ⟨tmps,[]⟩ x=y at hx
     cases hx with
     | d _ _ hd=>cases hd
     | own _ _ _ e' xs' sh' hb' hn' hy h1 =>
      rw [hb] at hb'
      cases hb'
      have hcur:=hy ho
      obtain ⟨kk,k1,hrow⟩:=r.row b e xs sh hb
      rw [k1] at hcur
      refine zav r rt hd g (y:=.int .i64 n) ?_ (zbG _ _)
      cases kk with
      | mp _=>exact hrow.elim
      | box _=>exact hrow.elim
      | nil a =>
       have hx0:xs=[]:=hrow
       rw [hx0] at ho
       simp only [yAS] at ho
       subst ho
       simp only [yAl,Con.cur,yA] at hcur
       subst hcur
       simp [execOp,hop,resolve,invoke,builtin,Builtin.len_,run_underlying tok.und,hev,goInt]
      | row gg cap =>
       simp only [yAl,Con.cur,yA] at hcur
       subst hcur
       simp [execOp,hop,resolve,invoke,builtin,Builtin.len_,run_underlying tok.und,hev,goInt]
  ·rename_i b n lo hh hk he
   rw [he] at hx
   obtain ⟨ti,dd,z,tok⟩:=ht.at_ (zax (by rw [hk];simp):E.T t≠_)
   obtain ⟨rfl,_⟩:=tok.slice_ hk
   cases hb:h[b]? with
   | none=>simp [hb] at hs
   | some B =>
    cases B with
    | mp _=>simp [hb] at hs
    | box cs=>simp [hb] at hs
    | row e xs sh =>
     simp only [hb,yA] at hs
     subst hs
     simp only [zat] at ho
     generalize hev:Act.eval ⟨tmps,[]⟩ x=y at hx
     cases hx with
     | d _ _ hd=>cases hd
     | os _ _ _ _ _ e' xs' sh' hb' hn' hl hhn _ hy =>
      rw [hb] at hb'
      cases hb'
      obtain ⟨kk0,k0,hat⟩:=hy ho
      refine zav r rt hd g (y:=.int .i64 (hh - lo:Nat)) ?_ (zbG _ _)
      cases kk0 with
      | mp _=>exact hat.elim
      | box _=>exact hat.elim
      | nil a =>
       obtain ⟨h1,a',rfl⟩:=hat
       subst h1
       simp [execOp,hop,resolve,invoke,builtin,Builtin.len_,run_underlying tok.und,hev,goInt]
      | row gg cap =>
       obtain ⟨a,rfl,_⟩:=hat
       simp [execOp,hop,resolve,invoke,builtin,Builtin.len_,run_underlying tok.und,hev,goInt]
  ·rename_i s hk he
   simp only [yA] at hs
   subst hs
   rw [he] at hx
   obtain ⟨ti,dd,z,tok⟩:=ht.at_ (zax (by rw [hk];simp):E.T t≠_)
   have:=tok.str_ hk
   subst this
   refine zav r rt hd g (y:=.int .i64 s.size) ?_ (zbG _ _)
   simp [execOp,hop,resolve,invoke,builtin,Builtin.len_,run_underlying tok.und,hx.v_inv,goInt]
  ·rename_i ka ke b hk he
   rw [he] at hx
   obtain ⟨ti,dd,z,tok⟩:=ht.at_ (zax (by rw [hk];simp):E.T t≠_)
   have:=tok.map_ hk
   subst this
   cases hb:h[b]? with
   | none=>simp [hb] at hs
   | some B =>
    cases B with
    | box cs=>simp [hb] at hs
    | row e xs sh=>simp [hb] at hs
    | mp es =>
     simp only [hb,yA] at hs
     subst hs
     generalize hev:Act.eval ⟨tmps,[]⟩ x=y at hx
     cases hx with
     | d _ _ hd=>cases hd
     | mp _ g1 hβ =>
      obtain ⟨g2,c1,l,ents,c2,c3,c4,_⟩:=r.mp b es hb
      rw [hβ] at c1
      cases c1
      refine zav r rt hd g (y:=.int .i64 es.length) ?_ (zbG _ _)
      simp [execOp,hop,resolve,invoke,builtin,Builtin.len_,run_underlying tok.und,hev,goInt,getObj,Sem.run,c3,c4,c2.length_eq]
  ·cases hs
 ·cases hs
theorem zby {P:Program} (w:World) (k:IntKind) (i:Int) (y:Nat) (c:BoundsCode) (h0:0<=i) (h1:i<=y):(Instr.sliceBound (.int k i) y c).run P w=.ok i.toNat w:=by
 simp [Instr.sliceBound,asIntOf,h0,h1]
theorem zll (r:Rel E h β S w) (rt:zaF E.T h β w S ts tmps) {d n:Int} {x:Option Operand} (hb:bnd (ev E.G ts) d x=some n):(x=none/\n=d)\/∃ b k,x=some b/\Act.eval ⟨tmps,[]⟩ b=.int k n:=by
 cases x with
 | none=>simp only [bnd,yA] at hb;exact .inl ⟨rfl,hb.symm⟩
 | some b =>
  have hv:=zaV (ds:=[]) r rt b
  simp only [bnd] at hb
  split at hb
  ·rename_i k i hbe
   cases hb
   rw [hbe] at hv
   exact .inr ⟨b,k,rfl,hv.v_inv⟩
  ·cases hb
theorem zqJ (r:Rel E h β S w) (rt:zaF E.T h β w S ts tmps) {N C:Nat} {lo hi:Option Operand} {l u:Int} (hlo:bnd (ev E.G ts) 0 lo=some l) (hhi:bnd (ev E.G ts) (N:Nat) hi=some u) (h0:0<=l) (hlu:l<=u) (hc:u.toNat<=C) :
  (Instr.sliceBounds true N C (lo.map (Act.eval ⟨tmps,[]⟩)) (hi.map (Act.eval ⟨tmps,[]⟩)) none).run E.P w=.ok (l.toNat,u.toNat,C) w:=by
 rcases zll r rt hhi with ⟨rfl,rfl⟩|⟨c,k',rfl,hcv⟩
 ·rcases zll r rt hlo with ⟨rfl,rfl⟩|⟨b,k,rfl,hbv⟩
  ·simp [Instr.sliceBounds]
  ·have:=zby (P:=E.P) w k l N .sliceB h0 (by omega)
   simp [Instr.sliceBounds,hbv,this]
 ·have h1:=zby (P:=E.P) w k' u C .sliceAcap (by omega) (by omega)
  rcases zll r rt hlo with ⟨rfl,rfl⟩|⟨b,k,rfl,hbv⟩
  ·simp [Instr.sliceBounds,hcv,h1]
  ·have:=zby (P:=E.P) w k l u.toNat .sliceB h0 (by omega)
   simp [Instr.sliceBounds,hbv,hcv,h1,this]
theorem zoL (r:Rel E h β S w) (rt:zaF E.T h β w S ts tmps) {N C:Nat} {lo hi:Option Operand} {m:Operand} {l u mm:Int} {k k1:IntKind} (hlo:bnd (ev E.G ts) 0 lo=some l) (hhi:hi.map (ev E.G ts)=some (.v (.int k1 u))) (hm:Act.eval ⟨tmps,[]⟩ m=.int k mm) (h0:0<=l) (hlu:l<=u) (hum:u<=mm) (hc:mm.toNat<=C) :
  (Instr.sliceBounds true N C (lo.map (Act.eval ⟨tmps,[]⟩)) (hi.map (Act.eval ⟨tmps,[]⟩)) (some (Act.eval ⟨tmps,[]⟩ m))).run E.P w=.ok (l.toNat,u.toNat,mm.toNat) w:=by
 have e1:=zby (P:=E.P) w k mm C .slice3Acap (by omega) (by omega)
 cases hi with
 | none=>simp at hhi
 | some c =>
  simp only [yAC,yA] at hhi
  have hv:=zaV (ds:=[]) r rt c
  rw [hhi] at hv
  have hcv:=hv.v_inv
  have e2:=zby (P:=E.P) w k1 u mm.toNat .slice3B (by omega) (by omega)
  rcases zll r rt hlo with ⟨rfl,rfl⟩|⟨b,k2,rfl,hbv⟩
  ·simp [Instr.sliceBounds,hm,e1,hcv,e2]
  ·have e3:=zby (P:=E.P) w k2 l u.toNat .slice3C h0 (by omega)
   simp [Instr.sliceBounds,hm,e1,hcv,e2,hbv,e3]
theorem zsO (r:Rel E h β S w) (rt:zaF E.T h β w S ts tmps) {lo hi:Option Operand} {m:Operand} {l u mm:Int} {k k1:IntKind} (hlo:bnd (ev E.G ts) 0 lo=some l) (hhi:hi.map (ev E.G ts)=some (.v (.int k1 u))) (hm:ev E.G ts m=.v (.int k mm)) (a:Option Addr) :
  RelV E.T h β w S (cut0 lo hi m) (.slice a (u.toNat - l.toNat) (mm.toNat - l.toNat)):=by
 unfold cut0
 split
 ·rename_i k2 k3
  simp only [yAC,yA,ev,zps,AV.v.injEq,Value.int.injEq] at hhi hm
  simp only [bnd,yA] at hlo
  obtain ⟨_,rfl⟩:=hhi
  obtain ⟨_,rfl⟩:=hm
  subst hlo
  exact .nl a
 ·exact .d _ _ (.un _)
theorem OsAt.cut {size l0 u0:Nat} {k:Con} {y:Value} (hat:OsAt size l0 u0 k y) (i u:Nat) (hiu:i<=u) (n:Nat) (hu:u+l0<=n) (hn:∀ g cap,k=.row g cap->n<=cap) (hn0:∀ a,k=.nil a->n=0) :
  ∃ a len c,y=.slice a len c/\u<=c/\len=u0 - l0/\OsAt size (i+l0) (u+l0) k (.slice (if c=i then a else a.map (·.add (i * size))) (u - i) (c - i)):=by
 cases k with
 | mp _=>exact hat.elim
 | box _=>exact hat.elim
 | nil a0 =>
  obtain ⟨h1,a,rfl⟩:=hat
  have:=hn0 a0 rfl
  refine ⟨a,0,0,rfl,by omega,by omega,by omega,if (0:Nat)=i then a else a.map (·.add (i * size)),?_⟩
  have e1:u - i=0:=by omega
  have e2:(0:Nat) - i=0:=by omega
  rw [e1,e2]
 | row g cap =>
  obtain ⟨a,rfl,ha⟩:=hat
  have:=hn g cap rfl
  refine ⟨a,_,_,rfl,by omega,rfl,_,by congr 1 <;> omega,fun hl=>?_⟩
  rw [if_neg (by omega),ha (by omega),yAC,zc5]
  congr 2
  rw [yAA];omega
theorem zzM (ht:zaH E) (r:Rel E h β S w) (rt:zaF E.T h β w S ts tmps) (hd:zaR tmps.size o.dst=true) {t:TypeId} {x:Operand} {lo hi mx:Option Operand} (hop:o.op=.slice t x lo hi mx)
  (hs:zau (mk E) o ts h os=some out) (ho:zat out.o) (g:Goal E h β S w tmps out K):o.wp E.P ⟨tmps,[]⟩ w K Q:=by
 have hx:=zaV (ds:=[]) r rt x
 simp only [zau,zaj,hop,mk_T,mk_G] at hs
 split at hs
 ·rename_i el xs hk he
  rw [he] at hx
  split at hs
  ·rename_i l u hlo hhi
   simp only [yA] at hs
   subst hs
   simp only [zat] at ho
   obtain ⟨h0,hlu,hu,hsize⟩:=ho
   obtain ⟨ti,dd,z,tok⟩:=ht.at_ (zax (by rw [hk];simp):E.T t≠_)
   obtain ⟨rfl,hes⟩:=tok.slice_ hk
   obtain ⟨ti2,dd2,z2,tok2⟩:=ht.at_ (za2 hes)
   generalize hev:Act.eval ⟨tmps,[]⟩ x=y at hx
   cases hx with
   | d _ _ hd1=>cases hd1 with
    | sl _ a cap gg off size f f1 f2 f3 f4 f5 f6 =>
     have hbounds:(Instr.sliceBounds true xs.length cap (lo.map (Act.eval ⟨tmps,[]⟩)) (hi.map (Act.eval ⟨tmps,[]⟩)) none).run E.P w=.ok (l.toNat,u.toNat,cap) w:=by
      have fact:∀ (b:Operand) (n:Int),(match ev E.G ts b with|.v (.int _ i)=>some i|_=>none)=some n->∃ k,Act.eval ⟨tmps,[]⟩ b=.int k n:=by
       intro b n hb
       have hv:=zaV (ds:=[]) r rt b
       split at hb
       ·rename_i k i hbe
        cases hb
        rw [hbe] at hv
        exact ⟨k,hv.v_inv⟩
       ·cases hb
      cases hi with
      | none =>
       simp only [yA] at hhi
       cases lo with
       | none =>
        simp only [yA] at hlo
        simp [Instr.sliceBounds,← hlo,← hhi]
       | some b =>
        obtain ⟨k,hb⟩:=fact b l hlo
        have:=zby (P:=E.P) w k l xs.length .sliceB h0 (by omega)
        simp [Instr.sliceBounds,← hhi,hb,this]
      | some c =>
       obtain ⟨k',hc⟩:=fact c u hhi
       have h1:=zby (P:=E.P) w k' u cap .sliceAcap (by omega) (by omega)
       cases lo with
       | none =>
        simp only [yA] at hlo
        simp [Instr.sliceBounds,← hlo,hc,h1]
       | some b =>
        obtain ⟨k,hb⟩:=fact b l hlo
        have:=zby (P:=E.P) w k l u.toNat .sliceB h0 (by omega)
        simp [Instr.sliceBounds,hb,hc,h1,this]
     have hlen:((xs.take u.toNat).drop l.toNat).length=u.toNat - l.toNat:=by simp;omega
     have hget:∀ (i:Nat) (c:List AV),((xs.take u.toNat).drop l.toNat)[i]?=some c->xs[l.toNat+i]?=some c:=by
      intro i c hc
      rw [yX,yM] at hc
      split at hc
      ·exact hc
      ·cases hc
     have hne:((xs.take u.toNat).drop l.toNat)≠[]->xs≠[]/\l.toNat < u.toNat:=by
      intro hn
      refine ⟨fun e=>hn (by simp [e]),?_⟩
      rcases Nat.lt_or_ge l.toNat u.toNat with h1|h1
      ·exact h1
      ·exact absurd (yAQ (by omega)) hn
     have hsz:xs≠[]->size=(E.T el).size:=by
      intro hn
      obtain ⟨c,cs,rfl⟩:=yAk hn
      rw [← f4 0 c rfl]
      exact hsize c (by simp)
     refine zav r rt hd g (y:=.slice (if cap=l.toNat then a else a.map (·.add (l.toNat * (E.T el).size))) (u.toNat - l.toNat) (cap - l.toNat)) ?_ (.d _ _ ?_)
     ·simp only [execOp,hop,Instr.sliceAt,Sem.run_bind,run_underlying tok.und,Result.andThen_ok,Instr.slice,hev,hbounds,tok2.sizeOf,Sem.run_pure,Option.map_none]
     ·rw [← hlen]
      refine .sl _ _ _ gg (off+l.toNat * (E.T el).size) size (fun k=>f (l.toNat * size+k)) ?_ (by omega) (by omega) (fun i c hc=>f4 _ c (hget i c hc)) (fun i j c x hi' hj=>?_) (fun i j c x hi' hj=>?_)
      ·intro hn
       obtain ⟨hn1,hn2⟩:=hne hn
       rw [if_neg (by omega),f1 hn1,yAC,zc5]
      ·have hn1:xs≠[]:=fun e=>by have:=hget i c hi';rw [e] at this;simp at this
       have:=f5 _ j c x (hget i c hi') hj
       rw [← hsz hn1]
       rw [show off+l.toNat * size+(i * size+j)=off+((l.toNat+i) * size+j) by rw [yAA];omega,show l.toNat * size+(i * size+j)=(l.toNat+i) * size+j by rw [yAA];omega]
       exact this
      ·have:=f6 _ j c x (hget i c hi') hj
       rw [show l.toNat * size+(i * size+j)=(l.toNat+i) * size+j by rw [yAA];omega]
       exact this
  ·cases hs
 ·rename_i el b n hk he
  rw [he] at hx
  split at hs
  ·rename_i e' xs sh i u hb hlo hhi
   split at hs
   ·rename_i hee
    subst hee
    simp only [yA] at hs
    subst hs
    simp only [zat] at ho
    obtain ⟨hn,h0,hiu,hle⟩:=ho
    obtain ⟨ti,dd,z,tok⟩:=ht.at_ (zax (by rw [hk];simp):E.T t≠_)
    obtain ⟨rfl,hes⟩:=tok.slice_ hk
    obtain ⟨ti2,dd2,z2,tok2⟩:=ht.at_ (za2 hes)
    generalize hev:Act.eval ⟨tmps,[]⟩ x=y at hx
    have hx':=r.own_os hx
    cases hx' with
    | d _ _ hd1=>cases hd1
    | os _ _ _ _ _ e2 xs2 sh2 hb2 hn2 hl2 hh2 _ hy =>
     rw [hb] at hb2
     cases hb2
     obtain ⟨kk,hkk,hat⟩:=hy hn
     obtain ⟨kk',hkk',hrow⟩:=r.row b el xs sh hb
     rw [hkk] at hkk'
     cases hkk'
     obtain ⟨a,len,c,rfl,huc,hlen,hnew⟩:=hat.cut i.toNat u.toNat (by omega) n hle (fun g cap e=>by subst e;obtain ⟨_,_,hcap,_⟩:=hrow;omega) (fun a e=>by subst e;have hx0:xs=[]:=hrow;rw [hn,hx0];rfl)
     have hbd:=zqJ r rt (N:=len) (C:=c) hlo (by rw [hlen];simpa using hhi) h0 hiu huc
     refine zav r rt hd g (y:=.slice (if c=i.toNat then a else a.map (·.add (i.toNat * (E.T el).size))) (u.toNat - i.toNat) (c - i.toNat)) ?_ (.os b n i.toNat u.toNat _ el xs sh hb (by omega) (by omega) (by omega) rfl (fun _=>⟨kk,hkk,by simpa using hnew⟩))
     simp only [execOp,hop,Instr.sliceAt,Sem.run_bind,run_underlying tok.und,Result.andThen_ok,Instr.slice,hev,hbd,tok2.sizeOf,Sem.run_pure,Option.map_none]
   ·cases hs
  ·cases hs
 ·rename_i el b n l0 u0 hk he
  rw [he] at hx
  split at hs
  ·rename_i e' xs sh i u hb hlo hhi
   split at hs
   ·rename_i hee
    subst hee
    simp only [yA] at hs
    subst hs
    simp only [zat] at ho
    obtain ⟨hn,h0,hiu,hle⟩:=ho
    obtain ⟨ti,dd,z,tok⟩:=ht.at_ (zax (by rw [hk];simp):E.T t≠_)
    obtain ⟨rfl,hes⟩:=tok.slice_ hk
    obtain ⟨ti2,dd2,z2,tok2⟩:=ht.at_ (za2 hes)
    generalize hev:Act.eval ⟨tmps,[]⟩ x=y at hx
    cases hx with
    | d _ _ hd1=>cases hd1
    | os _ _ _ _ _ e2 xs2 sh2 hb2 hn2 hl2 hh2 _ hy =>
     rw [hb] at hb2
     cases hb2
     obtain ⟨kk,hkk,hat⟩:=hy hn
     obtain ⟨kk',hkk',hrow⟩:=r.row b el xs sh hb
     rw [hkk] at hkk'
     cases hkk'
     obtain ⟨a,len,c,rfl,huc,hlen,hnew⟩:=hat.cut i.toNat u.toNat (by omega) n hle (fun g cap e=>by subst e;obtain ⟨_,_,hcap,_⟩:=hrow;omega) (fun a e=>by subst e;have hx0:xs=[]:=hrow;rw [hn,hx0];rfl)
     have hbd:=zqJ r rt (N:=len) (C:=c) hlo (by rw [hlen];exact hhi) h0 hiu huc
     refine zav r rt hd g (y:=.slice (if c=i.toNat then a else a.map (·.add (i.toNat * (E.T el).size))) (u.toNat - i.toNat) (c - i.toNat)) ?_ (.os b n (i.toNat+l0) (u.toNat+l0) _ el xs sh hb (by omega) (by omega) (by omega) rfl (fun _=>⟨kk,hkk,hnew⟩))
     simp only [execOp,hop,Instr.sliceAt,Sem.run_bind,run_underlying tok.und,Result.andThen_ok,Instr.slice,hev,hbd,tok2.sizeOf,Sem.run_pure,Option.map_none]
   ·cases hs
  ·cases hs
 ·rename_i el b n m hk he
  rw [he] at hx
  split at hs
  ·rename_i e' xs sh i k1 u k mm hb hlo hhi hm
   split at hs
   ·rename_i hee
    subst hee
    simp only [yA] at hs
    subst hs
    simp only [zat] at ho
    obtain ⟨⟨hn,h0,hiu,hle⟩,hum,hmn⟩:=ho
    obtain ⟨ti,dd,z,tok⟩:=ht.at_ (zax (by rw [hk];simp):E.T t≠_)
    obtain ⟨rfl,hes⟩:=tok.slice_ hk
    obtain ⟨ti2,dd2,z2,tok2⟩:=ht.at_ (za2 hes)
    have hmv:=zaV (ds:=[]) r rt m
    rw [hm] at hmv
    generalize hev:Act.eval ⟨tmps,[]⟩ x=y at hx
    have hx':=r.own_os hx
    cases hx' with
    | d _ _ hd1=>cases hd1
    | os _ _ _ _ _ e2 xs2 sh2 hb2 hn2 hl2 hh2 _ hy =>
     rw [hb] at hb2
     cases hb2
     obtain ⟨kk,hkk,hat⟩:=hy hn
     obtain ⟨kk',hkk',hrow⟩:=r.row b el xs sh hb
     rw [hkk] at hkk'
     cases hkk'
     obtain ⟨a,len,c,rfl,huc,hlen,_⟩:=hat.cut 0 mm.toNat (by omega) n (by omega) (fun g cap e=>by subst e;obtain ⟨_,_,hcap,_⟩:=hrow;omega) (fun a e=>by subst e;have hx0:xs=[]:=hrow;rw [hn,hx0];rfl)
     have hbd:=zoL r rt (w:=w) (N:=len) (C:=c) hlo hhi hmv.v_inv h0 hiu hum huc
     refine zav r rt hd g (y:=.slice (if mm.toNat=i.toNat then a else a.map (·.add (i.toNat * (E.T el).size))) (u.toNat - i.toNat) (mm.toNat - i.toNat)) ?_ (zsO r rt hlo hhi hm _)
     simp only [execOp,hop,Instr.sliceAt,Sem.run_bind,run_underlying tok.und,Result.andThen_ok,Instr.slice,hev,yAC,hbd,tok2.sizeOf,Sem.run_pure]
   ·cases hs
  ·cases hs
 ·rename_i el b n l0 u0 m hk he
  rw [he] at hx
  split at hs
  ·rename_i e' xs sh i k1 u k mm hb hlo hhi hm
   split at hs
   ·rename_i hee
    subst hee
    simp only [yA] at hs
    subst hs
    simp only [zat] at ho
    obtain ⟨⟨hn,h0,hiu,hle⟩,hum,hmn⟩:=ho
    obtain ⟨ti,dd,z,tok⟩:=ht.at_ (zax (by rw [hk];simp):E.T t≠_)
    obtain ⟨rfl,hes⟩:=tok.slice_ hk
    obtain ⟨ti2,dd2,z2,tok2⟩:=ht.at_ (za2 hes)
    have hmv:=zaV (ds:=[]) r rt m
    rw [hm] at hmv
    generalize hev:Act.eval ⟨tmps,[]⟩ x=y at hx
    cases hx with
    | d _ _ hd1=>cases hd1
    | os _ _ _ _ _ e2 xs2 sh2 hb2 hn2 hl2 hh2 _ hy =>
     rw [hb] at hb2
     cases hb2
     obtain ⟨kk,hkk,hat⟩:=hy hn
     obtain ⟨kk',hkk',hrow⟩:=r.row b el xs sh hb
     rw [hkk] at hkk'
     cases hkk'
     obtain ⟨a,len,c,rfl,huc,hlen,_⟩:=hat.cut 0 mm.toNat (by omega) n (by omega) (fun g cap e=>by subst e;obtain ⟨_,_,hcap,_⟩:=hrow;omega) (fun a e=>by subst e;have hx0:xs=[]:=hrow;rw [hn,hx0];rfl)
     have hbd:=zoL r rt (w:=w) (N:=len) (C:=c) hlo hhi hmv.v_inv h0 hiu hum huc
     refine zav r rt hd g (y:=.slice (if mm.toNat=i.toNat then a else a.map (·.add (i.toNat * (E.T el).size))) (u.toNat - i.toNat) (mm.toNat - i.toNat)) ?_ (zsO r rt hlo hhi hm _)
     simp only [execOp,hop,Instr.sliceAt,Sem.run_bind,run_underlying tok.und,Result.andThen_ok,Instr.slice,hev,yAC,hbd,tok2.sizeOf,Sem.run_pure]
   ·cases hs
  ·cases hs
 ·rename_i el m hk _ _
  split at hs
  ·rename_i k0 k1 hhi hm hln
   simp only [yA] at hs
   subst hs
   obtain ⟨ti,dd,z,tok⟩:=ht.at_ (zax (by rw [hk];simp):E.T t≠_)
   obtain ⟨rfl,hes⟩:=tok.slice_ hk
   obtain ⟨ti2,dd2,z2,tok2⟩:=ht.at_ (za2 hes)
   have hmv:=zaV (ds:=[]) r rt m
   rw [hm] at hmv
   have hm':=hmv.v_inv
   cases hi with
   | none=>simp at hhi
   | some c =>
    simp only [yAC,yA] at hhi
    have hcv:=zaV (ds:=[]) r rt c
    rw [hhi] at hcv
    have hc':=hcv.v_inv
    have hsl:∃ a n cap,Act.eval ⟨tmps,[]⟩ x=.slice a n cap:=by
     generalize Act.eval ⟨tmps,[]⟩ x=y at hx
     cases hav:ev E.G ts x with
     | sl xs=>rw [hav] at hx;cases hx with|d _ _ hd1=>cases hd1 with|sl _ a cap _ _ _ _ _ _ _ _ _ _=>exact ⟨a,_,cap,rfl⟩
     | nl=>rw [hav] at hx;cases hx with
      | d _ _ hd1=>cases hd1
      | nl a=>exact ⟨a,0,0,rfl⟩
     | _=>rw [hav] at hln;simp [zrb] at hln
    obtain ⟨a,n,cap,hev⟩:=hsl
    have hb:(Instr.sliceBounds true n cap (none:Option Value) (some (.int k0 0)) (some (.int k1 0))).run E.P w=.ok (0,0,0) w:=by
     have e1:=zby (P:=E.P) w k1 0 cap .slice3Acap (by omega) (by omega)
     have e2:=zby (P:=E.P) w k0 0 0 .slice3B (by omega) (by omega)
     simp only [Int.toNat_zero] at e1 e2
     simp [Instr.sliceBounds,e1,e2]
    refine zav r rt hd g (y:=.slice a 0 0) ?_ (.nl a)
    simp only [execOp,hop,Instr.sliceAt,Sem.run_bind,run_underlying tok.und,Result.andThen_ok,Instr.slice,hev,Option.map_none,yAC,hc',hm',hb,tok2.sizeOf,Sem.run_pure]
    simp
  ·cases hs
 ·cases hs
end
end Go.AM
namespace Go.AM
open Go.RowKit
section
variable {E : Env0} {h : Heap} {β : List Con} {S : Addr -> Prop} {w : World} {tmps : Array Value} {ts : TS} {K : Act -> World -> Prop} {Q : Exit -> Act -> World -> Prop} {o : Oper} {os : List Orc} {out : Out}
theorem zzV {T:TypeId->TI} {x:AV} {v y:Value} (hr:RelV T h β w S x y) (hs:scal x=some v):y=v:=by
 unfold scal at hs
 split at hs
 ·cases hs;exact hr.v_inv
 ·cases hs;exact hr.bl_inv
 ·cases hs
theorem zne {T:TypeId->TI}:∀ (cs:List AV) (vs xs:List Value),cs.length=vs.length->(∀ (i:Nat) (x:AV) (y:Value),cs[i]?=some x->vs[i]?=some y->RelV T h β w S x y)->zeZ cs=some xs->vs=xs
 | [],[],xs,_,_,hs=>by cases hs;rfl
 | [],_::_,_,hl,_,_=>by simp at hl
 | _::_,[],_,hl,_,_=>by simp at hl
 | c::cs,v::vs,xs,hl,hr,hs=>by
  simp only [zeZ] at hs
  split at hs
  ·rename_i a b h1 h2
   cases hs
   rw [zzV (hr 0 c v rfl rfl) h1,zne cs vs b (by simpa using hl) (fun i x y hx hy=>hr (i+1) x y (by simpa using hx) (by simpa using hy)) h2]
  ·cases hs
theorem zd7 (P:Program) (op:BinOp) (t:TypeId) (x y:Operand) (k k':IntKind) (a b:Int) (w:World):(eqGuard op t x y (.int k a) (.int k' b)).run P w=.ok () w:=by
 unfold eqGuard
 split <;> rfl
theorem zuD (P:Program) (op:BinOp) (t:TypeId) (x y:Operand) (a b:ByteArray) (w:World):(eqGuard op t x y (.string a) (.string b)).run P w=.ok () w:=by
 unfold eqGuard
 split <;> rfl
theorem zmD (P:Program) (op:BinOp) (t:TypeId) (x y:Operand) (a b:Bool) (w:World):(eqGuard op t x y (.bool a) (.bool b)).run P w=.ok () w:=by
 unfold eqGuard
 split <;> rfl
theorem zn0 (P:Program) (op:BinOp) (t:TypeId) (x y:Operand) (a b:Array Value) (w:World) (hg:P.eqGuardType P.depth t=false):(eqGuard op t x y (.agg a) (.agg b)).run P w=.ok () w:=by
 unfold eqGuard
 split <;> simp [hg]
theorem zkE {P:Program} (w:World) {t:TypeId} (hu:P.underlying t=some .bool) (a b:Bool):(Op.equal t (.bool a) (.bool b)).run P w=.ok (a==b) w:=by
 unfold Op.equal Op.maxDepth
 unfold Op.equalIn
 simp only [Sem.run_bind,run_underlying hu,Result.andThen_ok,Sem.run_pure]
theorem zzH (ht:zaH E) (r:Rel E h β S w) (rt:zaF E.T h β w S ts tmps) (hd:zaR tmps.size o.dst=true) {op:BinOp} {t ty:TypeId} {x y:Operand} (hop:o.op=.binOp op t x y ty)
  (hs:zau (mk E) o ts h os=some out) (ho:zat out.o) (g:Goal E h β S w tmps out K):o.wp E.P ⟨tmps,[]⟩ w K Q:=by
 have hx:=zaV (ds:=[]) r rt x
 have hy:=zaV (ds:=[]) r rt y
 simp only [zau,zaj,hop,mk_T,mk_G] at hs
 split at hs
 ·rename_i q res os' hb
  simp only [yA] at hs
  subst hs
  simp only [zat] at ho
  unfold binop at hb
  split at hb
  ·rename_i k a k' b hxe hye
   rw [hxe] at hx
   rw [hye] at hy
   have hx':=hx.v_inv
   have hy':=hy.v_inv
   split at hb
   ·rename_i c hc
    split at hb
    ·cases hb
     refine zav r rt hd g ?_ (zbG _ _)
     unfold zvC at hc
     have h0:¬ b < 0:=by have:=ho.1;omega
     split at hc <;> cases hc <;> simp [execOp,hop,hx',hy',zd7,binOp,Op.shift,h0,← ho.2]
    ·cases hb
   split at hb
   ·rename_i hkk
    subst hkk
    split at hb
    ·rename_i res' hc
     cases hb
     refine zav r rt hd g (y:=.bool res') ?_ (zcF _)
     unfold zx1 at hc
     split at hc <;> cases hc <;> simp [execOp,hop,hx',hy',zd7,binOp,Op.intCmp]
    ·split at hb
     ·cases hb
      refine zav r rt hd g ?_ (zbG _ _)
      simp [execOp,hop,hx',hy',zd7,binOp,Op.intDiv,ho.1,ho.2]
     ·cases hb
      refine zav r rt hd g ?_ (zbG _ _)
      simp [execOp,hop,hx',hy',zd7,binOp,Op.intDiv,ho.1,ho.2]
     ·split at hb
      ·rename_i c hc
       cases hb
       refine zav r rt hd g ?_ (zbG _ _)
       unfold arith at hc
       split at hc <;> cases hc <;> simp [execOp,hop,hx',hy',zd7,binOp,Op.intArith,ho]
      ·split at hb
       ·rename_i c hc
        cases hb
        refine zav r rt hd g ?_ (zbG _ _)
        unfold bitop at hc
        split at hc <;> cases hc <;> simp [execOp,hop,hx',hy',zd7,binOp,Op.intBits,← ho]
       ·cases hb
     ·cases hb
   ·cases hb
  ·rename_i a b hxe hye
   rw [hxe] at hx
   rw [hye] at hy
   have hx':=hx.v_inv
   have hy':=hy.v_inv
   split at hb
   ·rename_i res' hc
    cases hb
    refine zav r rt hd g (y:=.bool res') ?_ (zcF _)
    unfold zyN at hc
    split at hc <;> cases hc <;> simp [execOp,hop,hx',hy',zuD,binOp,Op.stringOp]
   ·cases hb
  ·rename_i cs ds hxe hye
   rw [hxe] at hx
   rw [hye] at hy
   obtain ⟨vs,hev,hvl,hv1,hvr⟩:=hx.agg_inv
   obtain ⟨us,heu,hul,hu1,hur⟩:=hy.agg_inv
   split at hb
   ·rename_i xs ys hsx hsy
    have e1:=zne cs vs xs hvl hvr hsx
    have e2:=zne ds us ys hul hur hsy
    subst e1
    subst e2
    split at hb
    ·rename_i r' heq
     cases hb
     obtain ⟨hg,he⟩:=ho
     rw [mk_P] at hg
     have h1:=zn0 E.P .eql t x y vs.toArray us.toArray w hg
     have h2:=he w vs us r' rfl heq
     rw [mk_P] at h2
     refine zav r rt hd g (y:=.bool r') ?_ (zcF _)
     simp [execOp,hop,hev,heu,h1,binOp,h2]
    ·rename_i r' heq
     cases hb
     obtain ⟨hg,he⟩:=ho
     rw [mk_P] at hg
     have h1:=zn0 E.P .neq t x y vs.toArray us.toArray w hg
     have h2:=he w vs us r' rfl heq
     rw [mk_P] at h2
     refine zav r rt hd g (y:=.bool (!r')) ?_ (zcF _)
     simp [execOp,hop,hev,heu,h1,binOp,h2]
    ·cases hb
   ·cases hb
  ·split at hb
   ·rename_i a b hxb hyb
    have hx':=hx.bool_inv hxb
    have hy':=hy.bool_inv hyb
    split at hb
    ·rename_i hk
     rw [mk_T] at hk
     cases hb
     obtain ⟨ti,dd,z,tok⟩:=ht.at_ (zax (by rw [hk];simp):E.T t≠_)
     have:=tok.bool_ hk
     subst this
     refine zav r rt hd g (y:=.bool (a==b)) ?_ (zcF _)
     simp [execOp,hop,hx',hy',zmD,binOp,zkE w tok.und]
    ·rename_i hk
     rw [mk_T] at hk
     cases hb
     obtain ⟨ti,dd,z,tok⟩:=ht.at_ (zax (by rw [hk];simp):E.T t≠_)
     have:=tok.bool_ hk
     subst this
     refine zav r rt hd g (y:=.bool (!(a==b))) ?_ (zcF _)
     simp [execOp,hop,hx',hy',zmD,binOp,zkE w tok.und]
    ·cases hb
   ·cases hb
 ·cases hs
end
end Go.AM
