/-
  Contracts of the program's functions, part 3.
-/
import Derived.Test.YtoclpkdefddfbaaGreatDoorCkC
import Derived.Laws.Externs
import Derived.Lib.Bytealg
import Derived.WideKeyRuns
import Derived.Laws.IdiomRangeMap
import Derived.Maps.RangeRun
import Derived.Lib.Strings
set_option linter.unusedSimpArgs false
set_option linter.unusedVariables false
namespace Go.AM
set_option maxRecDepth 100000
set_option maxHeartbeats 1000000
set_option linter.unusedSimpArgs false
set_option linter.unusedVariables false
structure FsOk (n:Nat) (frs:List Fr):Prop where
 len:frs.length+n≤1000000
 cols:∀ f∈frs,zad f.cols
 vals:∀ f∈frs,∀ v∈f.vals,v.small
structure TbOk (tb:List Tb):Prop where
 len:zad tb
 cols:∀ x∈tb,zad x.sch.cols
 rows:∀ x∈tb,x.rows.length≤1000
 vals:∀ x∈tb,∀ r∈x.rows,∀ v∈r.vals,v.small
theorem FsOk.short {n:Nat} {frs:List Fr} (h:FsOk n frs):zad frs:=by have:=h.len;simp only [zad];omega
theorem FsOk.wrap {n:Nat} {frs:List Fr} (h:FsOk n frs):IntKind.i64.wrap ((((frs.map Fr.cells).length:Nat):Int) - 1)=pm1 frs.length:=zuO _ _ h.short
theorem FsOk.less {n:Nat} {frs:List Fr} (h:FsOk (n+1) frs):FsOk n frs:=⟨by have:=h.len;omega,h.cols,h.vals⟩
def rtqF (f:X→Int × Int) (cond:Int) (e:X) (q:Qy) (frs:List Fr) (tb:List Tb):Int × Int :=
 bif !(zap tb q.frm).snd then
  (0,3)
 else
  rtqL f cond e q (zas frs (zap tb q.frm).1 []) tb q.items 0 (1)
def zol (f:X→Int × Int) (e:X) (frs:List Fr) (tb:List Tb):Int × Int :=
 bif !zcP e then
  (0,17)
 else
  bif e.kind==1 then
   (e.val.kind,0)
  else
   bif e.kind==2 then
    bif !(zaX frs e.table e.name).snd.snd then
     (0,3)
    else
     ((rCol frs e.table e.name).type,0)
   else
    rtyL f e frs tb e.args 0 ([])
def zoa (tq:Int × Int) (e:X) (frs:List Fr) (tb:List Tb):Int × Int :=
 bif !zcP e then
  (0,17)
 else
  bif e.kind==1 then
   (e.val.kind,0)
  else
   bif e.kind==2 then
    bif !(zaX frs e.table e.name).snd.snd then
     (0,3)
    else
     ((rCol frs e.table e.name).type,0)
   else
    (tq.fst,tq.snd)
end Go.AM
namespace Go.AM
set_option maxRecDepth 100000
set_option maxHeartbeats 1000000
set_option linter.unusedSimpArgs false
set_option linter.unusedVariables false
theorem zaQ {α:Type} {l:List α} (h:Few l):zad l:=by simp only [Few] at h;simp only [zad];omega
def zh0 (f:X→Int × Int):List X→Int
 | []=>rcond0
 | x::_=>zmp f x
abbrev rIns (frs:List Fr) (tb:List Tb) (q:Qy):List Fr:=zas frs (zap tb q.frm).1 []
def zc0:Nat→X→List Fr→List Tb→Int × Int
 | 0,_,_,_=>(0,0)
 | n+1,e,frs,tb=>match e.sub with
  | []=>zol (fun x=>zc0 n x frs tb) e frs tb
  | q::_=>zoa (rtqF (fun x=>zc0 n x (rIns frs tb q) tb) (zh0 (fun x=>zc0 n x (rIns frs tb q) tb) q.wh) e q frs tb) e frs tb
theorem zgW (tb:List Tb) (n:Str):∀ (l:List Tb) (i:Nat),(∀ x∈l,zad x.sch.cols)→zad (ziY tb n l i).1.cols
 | [],i,_=>by simp [ziY]
 | x::r,i,h=>by
  simp only [ziY,Bool.cond_eq_ite]
  split
  ·exact h x (by simp)
  ·exact zgW tb n r _ (fun y hy=>h y (by simp [hy]))
theorem FsOk.ins {n:Nat} {frs:List Fr} (h:FsOk (n+1) frs) {tb:List Tb} (ht:TbOk tb) (q:Qy):FsOk n (rIns frs tb q):=by
 refine ⟨by have:=h.len;simp [zas];omega,fun f hf=>?_,fun f hf=>?_⟩
 ·simp only [zas,List.mem_append,List.mem_singleton] at hf
  rcases hf with hf|rfl
  ·exact h.cols f hf
  ·exact zgW tb q.frm tb 0 ht.cols
 ·simp only [zas,List.mem_append,List.mem_singleton] at hf
  rcases hf with hf|rfl
  ·exact h.vals f hf
  ·intro v hv;cases hv
end Go.AM
namespace Go.AM
set_option maxRecDepth 100000
set_option maxHeartbeats 1000000
set_option linter.unusedSimpArgs false
set_option linter.unusedVariables false
theorem zkD {p:Prop} (h:p:=by first|assumption|exact hh.1|exact hw2.1|exact (ze6 _).1|omega|exact (zis _ _ _ (by assumption) (ze6 _) (by omega)).2):p:=h
abbrev uv (n:Int):AV:=.v (.int .u64 n)
theorem zjq {T:TypeId→TI} {h:Heap} {β:List Con} {w:World} {S:Addr→Prop} {x:Value} {l:List AV} {vs:List Value} (hp:PW (RelV T h β w S) (.v x::l) vs):∃ r,vs=x::r∧PW (RelV T h β w S) l r:=by
 cases vs with
 | nil=>have:=hp.1;simp at this
 | cons y r =>
  have h1:=hp.2 0 _ _ rfl rfl
  exact ⟨r,by rw [h1.v_inv],hp.uncons.2⟩
def zc5 (a b c:Int):Int × Int:=((a+b+c) % 18446744073709551616,(a+b+c) / 18446744073709551616)
theorem zf0 (a b c:Int) (ha:0≤a) (hb:0≤b) (hc:0≤c∧c≤1):zac E0 S.math_bits_Add64 [uv a,uv b,uv c] [] (.tup [uv (zc5 a b c).1,uv (zc5 a b c).2]) []:=by
 intro β S w vs r hp
 obtain ⟨v1,rfl,hp1⟩:=zjq hp
 obtain ⟨v2,rfl,hp2⟩:=zjq hp1
 obtain ⟨v3,rfl,hp3⟩:=zjq hp2
 have h0:v3=[]:=List.eq_nil_of_length_eq_zero (by have:=hp3.1;simpa using this.symm)
 subst h0
 refine .inr ⟨.tuple [.int .u64 (zc5 a b c).1,.int .u64 (zc5 a b c).2].toArray,w,?_,?_⟩
 ·have h1:=run_callFunc_extern (e:=add64Entry) At.math_bits_Add64 kr kr kr kr #[.int .u64 a,.int .u64 b,.int .u64 c] w
  rw [run_add64 a b c ha hb hc.1 hc.2] at h1
  exact h1
 ·refine ⟨_,_,β,S,_,rfl,⟨rfl,rfl⟩,r,Ext.refl _ _ _ _,.tup _ _ rfl fun i x y hx hy=>?_⟩
  match i with
  | 0=>cases hx;cases hy;exact zbz _ _
  | 1=>cases hx;cases hy;exact zbz _ _
  | i+2=>cases hx
abbrev U64 (n:Int):Prop:=0≤n∧n < 18446744073709551616
theorem wrapU (n:Int):IntKind.u64.wrap n=n % 18446744073709551616:=by simp [IntKind.wrap,IntKind.bits,IntKind.signed]
theorem ze6 (n:Int):U64 (IntKind.u64.wrap n):=by rw [wrapU];simp only [U64];omega
theorem zis (a b c:Int) (ha:U64 a) (hb:U64 b) (hc:0≤c∧c≤1):U64 (zc5 a b c).1∧0≤(zc5 a b c).2∧(zc5 a b c).2≤1:=by
 simp only [U64,zc5] at *;omega
noncomputable def L_sumL (l:List Int) (i:Nat) (high low:Int):Cfg:=zar B.arith_Sum 0 [(4,uv high),(5,uv low),(11,isl l),(12,iv ((l.map fun n=>[iv n]).length:Nat)),(13,iv (i:Nat))] []
def sumL (l:List Int):List (Int)→Nat→(Int)→(Int)→Int × Bool
 | [],i,high,low =>
  bif high != IntKind.u64.wrap ((IntKind.i64.wrap low).fdiv (2 ^ min (Int.toNat 63) IntKind.i64.bits)) then
   (0,false)
  else
   (IntKind.i64.wrap low,true)
 | x::r,i,high,low =>
  sumL l r (i+1) ((zc5 high (IntKind.u64.wrap (x.fdiv (2 ^ min (Int.toNat 63) IntKind.i64.bits))) (zc5 low (IntKind.u64.wrap x) 0).snd).fst) ((zc5 low (IntKind.u64.wrap x) 0).fst)
theorem zqk (l:List Int) (hl:zad l):∀ (kk i:Nat) (high low:Int),i+kk=(l).length→U64 high→U64 low→Good E0 B.arith_Sum [] (L_sumL l i high low) (Shut 0 fun r h=>r=(.tup [iv (sumL l ((l).drop i) i high low).1,bv (sumL l ((l).drop i) i high low).2])∧h=[]):=by
 intro kk
 induction kk with
 | zero =>
  intro i high low hi hh hw2
  have h0:decide (((i:Nat):Int) < (((l.map fun n=>[iv n]).length:Nat):Int))=false:=by simp;omega
  have e0:(l).drop i=[]:=List.drop_of_length_le (by omega)
  rw [e0]
  simp only [sumL]
  refine zaa ?_
  cases h1:high != IntKind.u64.wrap ((IntKind.i64.wrap low).fdiv (2 ^ min (Int.toNat 63) IntKind.i64.bits))
  ·exact wkr [sb h0,si (e:=IntKind.i64.wrap low) rfl,sx (.i ((IntKind.i64.wrap low).fdiv ((2:Int) ^ min (Int.toNat (63:Int)) IntKind.i64.bits))) (show (0:Int)≤(63:Int)∧((IntKind.i64.wrap low).fdiv ((2:Int) ^ min (Int.toNat (63:Int)) IntKind.i64.bits):Int)=(IntKind.i64.wrap low).fdiv ((2:Int) ^ min (Int.toNat (63:Int)) IntKind.i64.bits) from ⟨(by simp_all),rfl⟩),si (e:=IntKind.u64.wrap ((IntKind.i64.wrap low).fdiv (2 ^ min (Int.toNat 63) IntKind.i64.bits))) rfl,sb h1] kr
  ·exact wkr [sb h0,si (e:=IntKind.i64.wrap low) rfl,sx (.i ((IntKind.i64.wrap low).fdiv ((2:Int) ^ min (Int.toNat (63:Int)) IntKind.i64.bits))) (show (0:Int)≤(63:Int)∧((IntKind.i64.wrap low).fdiv ((2:Int) ^ min (Int.toNat (63:Int)) IntKind.i64.bits):Int)=(IntKind.i64.wrap low).fdiv ((2:Int) ^ min (Int.toNat (63:Int)) IntKind.i64.bits) from ⟨(by simp_all),rfl⟩),si (e:=IntKind.u64.wrap ((IntKind.i64.wrap low).fdiv (2 ^ min (Int.toNat 63) IntKind.i64.bits))) rfl,sb h1] kr
 | succ kk ih =>
  intro i high low hi hh hw2
  obtain ⟨x,hx⟩:=zay (l:=l) (i:=i) (by omega)
  have h0:decide (((i:Nat):Int) < (((l.map fun n=>[iv n]).length:Nat):Int))=true:=by simp;omega
  have hw:=zao i (by first|omega|(simp only [zad,Few] at *;omega))
  rw [zaN hx]
  simp only [sumL]
  refine zaa ?_
  exact wkl [sb h0,se (zah (fun n=>[iv n]) hx rfl),si (e:=IntKind.u64.wrap x) rfl,sc (zf0 low (IntKind.u64.wrap x) 0 zkD zkD zkD),sx (.i (x.fdiv ((2:Int) ^ min (Int.toNat (63:Int)) IntKind.i64.bits))) (show (0:Int)≤(63:Int)∧(x.fdiv ((2:Int) ^ min (Int.toNat (63:Int)) IntKind.i64.bits):Int)=x.fdiv ((2:Int) ^ min (Int.toNat (63:Int)) IntKind.i64.bits) from ⟨(by simp_all),rfl⟩),si (e:=IntKind.u64.wrap (x.fdiv (2 ^ min (Int.toNat 63) IntKind.i64.bits))) rfl,sc (zf0 high (IntKind.u64.wrap (x.fdiv (2 ^ min (Int.toNat 63) IntKind.i64.bits))) ((zc5 low (IntKind.u64.wrap x) 0).snd) zkD zkD zkD),si hw] [4,5,11,12,13] 0 kr (ih (i+1) ((zc5 high (IntKind.u64.wrap (x.fdiv (2 ^ min (Int.toNat 63) IntKind.i64.bits))) (zc5 low (IntKind.u64.wrap x) 0).snd).fst) ((zc5 low (IntKind.u64.wrap x) 0).fst) (by omega) (by first|assumption|exact (zis _ _ _ (by assumption) (ze6 _) (by first|omega|exact (zis _ _ _ (by assumption) (ze6 _) (by omega)).2)).1) (by first|assumption|exact (zis _ _ _ (by assumption) (ze6 _) (by first|omega|exact (zis _ _ _ (by assumption) (ze6 _) (by omega)).2)).1))
def aSum (l:List Int):Int × Bool :=
 sumL l l 0 0 (0)
theorem zk4 (l:List Int) (hl:zad l):zac E0 S.arith_Sum [isl l] [] (.tup [iv (aSum l).1,bv (aSum l).2]) []:=by
 unfold aSum
 exact wkc At.arith_Sum [] [4,5,11,12,13] 0 kr (by have ih:=zqk l hl l.length 0 0 0 (by simp) (by simp only [U64];omega) (by simp only [U64];omega);exact ih)
noncomputable def zgo (its:List V) (i:Nat) (l:List Int):Cfg:=zar B.evaluate_sum 0 [(2,.p 0 0),(4,.own 1 l.length),(9,vsl its),(10,iv ((its.map V.cells).length:Nat)),(11,iv (i:Nat))] [.box [iv 0,iv 0,sv ⟨#[]⟩],.row Ty.int64 (l.map fun n=>[iv n]) false]
def zf6 (its:List V):List (V)→Nat→(List Int)→V × Int
 | [],i,l =>
  bif !(aSum l).snd then
   (V.mk 0 0 (ByteArray.mk #[]),6)
  else
   (V.mk 1 (aSum l).fst (ByteArray.mk #[]),0)
 | x::r,i,l =>
  zf6 its r (i+1) (l++[x.int])
theorem zpp (its:List V) (hl:zad its):∀ (kk i:Nat) (l:List Int),i+kk=(its).length→l.length≤i→Good E0 B.evaluate_sum [] (zgo its i l) (Shut 0 fun r h=>r=(.tup [(zf6 its ((its).drop i) i l).1.av,iv (zf6 its ((its).drop i) i l).2])∧h=[]):=by
 intro kk
 induction kk with
 | zero =>
  intro i l hi ho
  have h0:decide (((i:Nat):Int) < (((its.map V.cells).length:Nat):Int))=false:=by simp;omega
  have e0:(its).drop i=[]:=List.drop_of_length_le (by omega)
  rw [e0]
  simp only [zf6]
  refine zaa ?_
  cases h1:!(aSum l).snd
  ·exact wkr [sb h0,skx (l.length=(List.map (fun n=>[iv n]) l).length∧True) [] (zk4 l (by first|assumption|(simp only [zad] at *;omega))),sb h1,sc (zbb ((aSum l).fst))] kr
  ·exact wkr [sb h0,skx (l.length=(List.map (fun n=>[iv n]) l).length∧True) [] (zk4 l (by first|assumption|(simp only [zad] at *;omega))),sb h1] kr
 | succ kk ih =>
  intro i l hi ho
  obtain ⟨x,hx⟩:=zay (l:=its) (i:=i) (by omega)
  have h0:decide (((i:Nat):Int) < (((its.map V.cells).length:Nat):Int))=true:=by simp;omega
  have hw:=zao i (by first|omega|(simp only [zad,Few] at *;omega))
  rw [zaN hx]
  simp only [zf6]
  refine zaa ?_
  exact wkl (c':=(Cfg.mk (zgo its (i+1) (l++[x.int])).n (zgo its (i+1) (l++[x.int])).todo [(2,AV.p 0 0),(4,AV.own 1 (List.map (fun n=>[iv n]) l++[[iv x.int]]).length),(9,AV.sl (List.map V.cells its)),(10,iv (↑(List.map V.cells its).length:Int)),(11,iv (↑(i+1):Int))] [Blk.box [iv 0,iv 0,sv (ByteArray.mk #[])],Blk.row Ty.int64 (List.map (fun n=>[iv n]) l++[[iv x.int]]) false])) [sb h0,se (zah V.cells hx rfl),sqx (AllLen [[iv x.int]] 1∧l.length=(List.map (fun n=>[iv n]) l).length∧(((List.map (fun n=>[iv n]) l).length+[[iv x.int]].length) * 8).le 140737488355328),si hw] [2,4,9,10,11] 2 kr (zat (show ([(2,AV.p 0 0),(4,AV.own 1 (List.map (fun n=>[iv n]) l++[[iv x.int]]).length),(9,AV.sl (List.map V.cells its)),(10,iv (↑(List.map V.cells its).length:Int)),(11,iv (↑(i+1):Int))]:TS)=[(2,AV.p 0 0),(4,AV.own 1 (l++[x.int]).length),(9,AV.sl (List.map V.cells its)),(10,iv (↑(List.map V.cells its).length:Int)),(11,iv (↑(i+1):Int))] by first|rfl|(simp;done)|(simp [X.cells,Qy.cells,V.cells,Col.cells,Rw.cells,Tb.cells,Fr.cells,Sch.cells,Tp.cells,Pl.cells,xCol,xLit,xBin,xNeg];done)) (show ([Blk.box [iv 0,iv 0,sv (ByteArray.mk #[])],Blk.row Ty.int64 (List.map (fun n=>[iv n]) l++[[iv x.int]]) false]:Heap)=[Blk.box [iv 0,iv 0,sv (ByteArray.mk #[])],Blk.row Ty.int64 (List.map (fun n=>[iv n]) (l++[x.int])) false] by first|rfl|(simp;done)|(simp [X.cells,Qy.cells,V.cells,Col.cells,Rw.cells,Tb.cells,Fr.cells,Sch.cells,Tp.cells,Pl.cells,xCol,xLit,xBin,xNeg];done)) (ih (i+1) (l++[x.int]) (by omega) (by first|assumption|(simp;done)|(simp;omega)|omega|(simp at *;omega))))
def eSum (its:List V):V × Int :=
 zf6 its its 0 ([])
theorem zm3 (its:List V) (hl:zad its):zac E0 S.evaluate_sum [vsl its] [] (.tup [(eSum its).1.av,iv (eSum its).2]) []:=by
 unfold eSum
 exact wkc At.evaluate_sum (c':=(Cfg.mk (zgo its 0 []).n (zgo its 0 []).todo [(2,AV.p 0 0),(4,AV.nl),(9,AV.sl (List.map V.cells its)),(10,iv (↑(List.map V.cells its).length:Int)),(11,iv 0)] [Blk.box [iv 0,iv 0,sv (ByteArray.mk #[])]])) [] [2,4,9,10,11] 1 kr (zfm (c':=zgo its 0 []) 4 Ty.int64 [2,4,9,10,11] 2 kr kr kr (by have ih:=zpp its hl its.length 0 ([]) (by simp) (by simp);exact ih))
end Go.AM
namespace Go.AM
set_option maxRecDepth 100000
set_option maxHeartbeats 1000000
set_option linter.unusedSimpArgs false
set_option linter.unusedVariables false
noncomputable def L_minL (l:List V) (i:Nat) (m:V):Cfg:=zar B.slices_MinFunc_Value 0 [(0,vsl l),(1,.fn S.value_Compare []),(4,.p 0 0),(5,.p 1 0),(6,iv (i:Nat))] [.box [iv 0,iv 0,sv ⟨#[]⟩],.box m.cells]
def minL (l:List V):List (V)→Nat→(V)→V
 | [],i,m =>
  m
 | x::r,i,m =>
  bif decide (cmpV x m < 0) then
   minL l r (i+1) (x)
  else
   minL l r (i+1) (m)
theorem zqh (l:List V) (hl:zad l):∀ (kk i:Nat) (m:V),i+kk=(l).length→Good E0 B.slices_MinFunc_Value [] (L_minL l i m) (Shut 0 fun r h=>r=((minL l ((l).drop i) i m).av)∧h=[]):=by
 intro kk
 induction kk with
 | zero =>
  intro i m hi
  have h0:decide (((i:Nat):Int) < (((l.map V.cells).length:Nat):Int))=false:=by simp;omega
  have e0:(l).drop i=[]:=List.drop_of_length_le (by omega)
  rw [e0]
  simp only [minL]
  refine zaa ?_
  exact wkr [sb h0] kr
 | succ kk ih =>
  intro i m hi
  obtain ⟨x,hx⟩:=zay (l:=l) (i:=i) (by omega)
  have h0:decide (((i:Nat):Int) < (((l.map V.cells).length:Nat):Int))=true:=by simp;omega
  have hw:=zao i (by first|omega|(simp only [zad,Few] at *;omega))
  rw [zaN hx]
  simp only [minL]
  refine zaa ?_
  cases h1:decide (cmpV x m < 0)
  ·exact wkl [sb h0,sd [(3,[se (zah V.cells hx rfl)]),(6,[sc (zcN x m)])],sb h1,si hw] [0,1,4,5,6] 2 kr (ih (i+1) m (by omega) )
  ·exact wkl [sb h0,sd [(3,[se (zah V.cells hx rfl)]),(6,[sc (zcN x m)])],sb h1,se (zah V.cells hx rfl),si hw] [0,1,4,5,6] 2 kr (ih (i+1) x (by omega) )
def minV (l:List V):V :=
 minL l (l.drop 1) 1 (l.headD V.null)
theorem zhA (l:List V) (hl:zad l) (hy:l[0]?=some (l.headD V.null)) (hn:decide (((((l.map V.cells).length:Nat):Int)) < 1)=false):zac E0 S.slices_MinFunc_Value [vsl l,.fn S.value_Compare []] [] ((minV l).av) []:=by
 unfold minV
 exact wkc At.slices_MinFunc_Value [sb hn,se (zah V.cells hy rfl)] [0,1,4,5,6] 2 kr (by have hlt:=zcj hy;have ih:=zqh l hl (l.length - 1) 1 (l.headD V.null) (by omega);exact ih)
noncomputable def L_maxL (l:List V) (i:Nat) (m:V):Cfg:=zar B.slices_MaxFunc_Value 0 [(0,vsl l),(1,.fn S.value_Compare []),(4,.p 0 0),(5,.p 1 0),(6,iv (i:Nat))] [.box [iv 0,iv 0,sv ⟨#[]⟩],.box m.cells]
def maxL (l:List V):List (V)→Nat→(V)→V
 | [],i,m =>
  m
 | x::r,i,m =>
  bif decide (0 < cmpV x m) then
   maxL l r (i+1) (x)
  else
   maxL l r (i+1) (m)
theorem zp3 (l:List V) (hl:zad l):∀ (kk i:Nat) (m:V),i+kk=(l).length→Good E0 B.slices_MaxFunc_Value [] (L_maxL l i m) (Shut 0 fun r h=>r=((maxL l ((l).drop i) i m).av)∧h=[]):=by
 intro kk
 induction kk with
 | zero =>
  intro i m hi
  have h0:decide (((i:Nat):Int) < (((l.map V.cells).length:Nat):Int))=false:=by simp;omega
  have e0:(l).drop i=[]:=List.drop_of_length_le (by omega)
  rw [e0]
  simp only [maxL]
  refine zaa ?_
  exact wkr [sb h0] kr
 | succ kk ih =>
  intro i m hi
  obtain ⟨x,hx⟩:=zay (l:=l) (i:=i) (by omega)
  have h0:decide (((i:Nat):Int) < (((l.map V.cells).length:Nat):Int))=true:=by simp;omega
  have hw:=zao i (by first|omega|(simp only [zad,Few] at *;omega))
  rw [zaN hx]
  simp only [maxL]
  refine zaa ?_
  cases h1:decide (0 < cmpV x m)
  ·exact wkl [sb h0,sd [(3,[se (zah V.cells hx rfl)]),(6,[sc (zcN x m)])],sb h1,si hw] [0,1,4,5,6] 2 kr (ih (i+1) m (by omega) )
  ·exact wkl [sb h0,sd [(3,[se (zah V.cells hx rfl)]),(6,[sc (zcN x m)])],sb h1,se (zah V.cells hx rfl),si hw] [0,1,4,5,6] 2 kr (ih (i+1) x (by omega) )
def maxV (l:List V):V :=
 maxL l (l.drop 1) 1 (l.headD V.null)
theorem zhM (l:List V) (hl:zad l) (hy:l[0]?=some (l.headD V.null)) (hn:decide (((((l.map V.cells).length:Nat):Int)) < 1)=false):zac E0 S.slices_MaxFunc_Value [vsl l,.fn S.value_Compare []] [] ((maxV l).av) []:=by
 unfold maxV
 exact wkc At.slices_MaxFunc_Value [sb hn,se (zah V.cells hy rfl)] [0,1,4,5,6] 2 kr (by have hlt:=zcj hy;have ih:=zp3 l hl (l.length - 1) 1 (l.headD V.null) (by omega);exact ih)
def zj2 (f:X→V × Int) (x:X):Bool × Int :=
 bif (f x).snd==0 then
  bif !zcy (f x).fst then
   (false,5)
  else
   (zs5 (f x).fst,(f x).snd)
 else
  (false,(f x).snd)
theorem zjx (f:X→V × Int) (x:X) (r:List X) (frs:List Fr) (tb:List Tb) (hf:Pure S.evaluate_Value [x.av,fsl frs,tsl tb] (.tup [(f x).1.av,iv (f x).2])) (hs:(f x).1.small):zac E0 S.evaluate_True [xsl (x::r),fsl frs,tsl tb] [] (.tup [bv (zj2 f x).1,iv (zj2 f x).2]) []:=by
 unfold zj2
 cases h1:(f x).snd==0
 ·exact wk At.evaluate_True [sb (rfl:false=false),se (zbv (l:=x::r) (i:=0) (x:=x) rfl),sc hf,sb h1,sb h1] kr
 ·cases h2:!zcy (f x).fst
  ·exact wk At.evaluate_True [sb (rfl:false=false),se (zbv (l:=x::r) (i:=0) (x:=x) rfl),sc hf,sg h1,sc (zbe ((f x).fst) (by first|assumption|omega|(simp;done)|(simp;omega))),sb h2,sg h1,sc (zmP ((f x).fst))] kr
  ·exact wk At.evaluate_True [sb (rfl:false=false),se (zbv (l:=x::r) (i:=0) (x:=x) rfl),sc hf,sg h1,sc (zbe ((f x).fst) (by first|assumption|omega|(simp;done)|(simp;omega))),sb h2,sb (rfl:false=false)] kr
def zoA :Bool × Int :=
 (true,0)
theorem zjD  (frs:List Fr) (tb:List Tb):zac E0 S.evaluate_True [xsl [],fsl frs,tsl tb] [] (.tup [bv zoA.1,iv zoA.2]) []:=by
 exact wk At.evaluate_True [sb (rfl:true=true)] kr
noncomputable def clC (frs:List Fr):Cfg:=(upto (mk E0) (List.range 40) 0 3000 ⟨B.slices_Clone_Frame.ntmps,[.code (B.slices_Clone_Frame.body.getD .skip)],zb4 0 [fsl frs],[]⟩ []).2
theorem zvh (frs:List Fr) (hl:zad frs):Good E0 B.slices_Clone_Frame [] (zdH (clC frs) false) (fun r h=>r=.own 0 frs.length∧h=[.row Ty.Frame (frs.map Fr.cells) false]):=by
 exact zik E0ok mix0 3000 (y:=AV.own (0:Nat) (List.map Fr.cells frs).length) (H:=[Blk.row Ty.Frame (List.map Fr.cells frs) false]) [sb (rfl:false=false),sq (show AllLen (List.map Fr.cells frs) (4:Nat)∧((List.map Fr.cells frs).length * (72:Nat)).le (140737488355328:Nat) by first|assumption|(simp;done)|(simp;omega)|omega|rfl|(refine ⟨⟨by simp⟩,?_⟩;first|(simp;done)|(simp;omega)|omega)|(refine ⟨⟨by simp⟩,?_,?_⟩ <;> first|(simp;done)|(simp;omega)|omega))] kr (⟨by first|rfl|(simp;done),rfl⟩)
theorem zvX:Good E0 B.slices_Clone_Frame [] (zdH (clC []) true) (fun r h=>r=.nl∧h=[]):=by
 exact zik E0ok mix0 3000 (y:=AV.nl) (H:=[]) [sb (rfl:true=true)] kr (⟨rfl,rfl⟩)
end Go.AM
namespace Go.AM
set_option maxRecDepth 100000
set_option maxHeartbeats 1000000
set_option linter.unusedSimpArgs false
set_option linter.unusedVariables false
theorem zc8 (frs:List Fr) (hl:zad frs):zac E0 S.slices_Clone_Frame [fsl frs] [] (.own 0 frs.length) [.row Ty.Frame (frs.map Fr.cells) false]:=by
 refine zbO At.slices_Clone_Frame rfl kr (Nat.le_of_ble_eq_true kr) (zd5 E0ok mix0 3000 [] (List.range 40) 0 (c':=clC frs) kr kr (zlo E0ok (xs:=frs.map Fr.cells) (e:=true) kr fun b hb=>?_))
 cases b with
 | false=>exact zvh frs hl
 | true =>
  cases frs with
  | nil=>exact zhJ Ty.Frame zvX ⟨rfl,rfl⟩
  | cons x r=>exact absurd (hb (by simp)) (by simp)
def zav (frs:List Fr) (t:Tb) (v:List V):(List Fr) :=
 frs++[Fr.mk t.sch.name false t.sch.cols v]
theorem za6 (frs:List Fr) (t:Tb) (v:List V) (hl:zad frs):zac E0 S.evaluate_inside [fsl frs,t.av,vsl v] [] (fsl (zav frs t v)) []:=by
 unfold zav
 exact (by (try simp only [X.av,Qy.av,V.av,Tb.av,Sch.av,Pl.av,xsl,fsl,vsl,tsl,List.map_append,List.map_cons,List.map_nil,V.cells,Col.cells,Rw.cells,Tb.cells,Fr.cells,Sch.cells,Pl.cells,za7,zaO,zaU,zaS,za0,X.cells,Qy.cells,X.args_mk,X.sub_mk,Qy.items_mk,Qy.wh_mk,xCol,xLit,xBin,xNeg]);exact wk At.evaluate_inside [sqx ((List.map Fr.cells frs++[[sv t.sch.name,bv false,AV.sl (List.map Col.cells t.sch.cols),AV.sl (List.map V.cells v)]]).length=(List.map Fr.cells frs++[[sv t.sch.name,bv false,AV.sl (List.map Col.cells t.sch.cols),AV.sl (List.map V.cells v)]]).length),sd [(1,[sc (zc8 frs (by first|assumption|omega|(simp;done)|(simp;omega)))]),(11,[sqx (AllLen [[sv t.sch.name,bv false,AV.sl (List.map Col.cells t.sch.cols),AV.sl (List.map V.cells v)]] 4∧frs.length=(List.map Fr.cells frs).length∧(((List.map Fr.cells frs).length+[[sv t.sch.name,bv false,AV.sl (List.map Col.cells t.sch.cols),AV.sl (List.map V.cells v)]].length) * 72).le 140737488355328)])]] kr)
end Go.AM
namespace Go.AM
set_option maxRecDepth 100000
set_option maxHeartbeats 1000000
set_option linter.unusedSimpArgs false
set_option linter.unusedVariables false
theorem zsj {p:Prop} (h:p:=by first|assumption|(simp;done)|(simp;omega)|omega|(simp at *;omega)):p:=h
abbrev AH (q:Qy) (tb:List Tb) (e:X) (n:Nat) (its:List V):Heap:=[.box [iv (n:Nat)],.box q.cells,.box [tsl tb],.box e.cells,.box [.own 5 its.length],.row Ty.Value (its.map V.cells) false]
noncomputable def zkj (f:X→V × Int) (q:Qy) (w:List Fr) (tb:List Tb) (e:X) (n:Nat) (its0:List V) (i:Nat) (its:List V):Cfg:=zar B.evaluate_aggregate_c1 0 [(1,fsl w),(4,.p 2 0),(5,.p 3 0),(6,.p 4 0),(17,xsl q.items),(18,iv ((zab q.items).length:Nat)),(19,iv (i:Nat))] (AH q tb e (n+1) its)
def aggI (f:X→V × Int) (q:Qy) (w:List Fr) (tb:List Tb) (e:X) (n:Nat) (its0:List V):List (X)→Nat→(List V)→Int × (List V)
 | [],i,its =>
  (0,its)
 | x::r,i,its =>
  bif (f x).snd != 0 then
   ((f x).snd,its)
  else
   bif (f x).fst.kind==0 then
    aggI f q w tb e n its0 r (i+1) (its)
   else
    bif e.kind==10 then
     bif (f x).fst.kind != 1 then
      (5,its)
     else
      aggI f q w tb e n its0 r (i+1) (its++[(f x).fst])
    else
     aggI f q w tb e n its0 r (i+1) (its++[(f x).fst])
theorem zqH (f:X→V × Int) (q:Qy) (w:List Fr) (tb:List Tb) (e:X) (n:Nat) (its0:List V) (hl:q.items.length≤1000) (hi0:its0.length≤2000000) (hf:∀ x∈q.items,Pure S.evaluate_Value [x.av,fsl w,tsl tb] (.tup [(f x).1.av,iv (f x).2])):∀ (kk i:Nat) (its:List V),i+kk=(q.items).length→its.length≤its0.length+i→Good E0 B.evaluate_aggregate_c1 (AH q tb e n its0) (zkj f q w tb e n its0 i its) (Shut 6 fun r h=>r=(iv (aggI f q w tb e n its0 ((q.items).drop i) i its).1)∧h=(AH q tb e (n+1) (aggI f q w tb e n its0 ((q.items).drop i) i its).2)):=by
 intro kk
 induction kk with
 | zero =>
  intro i its hi ho
  have h0:decide (((i:Nat):Int) < (((zab q.items).length:Nat):Int))=false:=by simp;omega
  have e0:(q.items).drop i=[]:=List.drop_of_length_le (by omega)
  rw [e0]
  simp only [aggI]
  refine zaa ?_
  exact wkr [sb h0] kr
 | succ kk ih =>
  intro i its hi ho
  obtain ⟨x,hx⟩:=zay (l:=q.items) (i:=i) (by omega)
  have h0:decide (((i:Nat):Int) < (((zab q.items).length:Nat):Int))=true:=by simp;omega
  have hw:=zao i (by first|omega|(simp only [zad,Few] at *;omega))
  have hfx:=hf x (List.mem_of_getElem? hx)
  rw [zaN hx]
  simp only [aggI]
  refine zaa ?_
  cases h1:(f x).snd != 0
  ·cases h2:(f x).fst.kind==0
   ·cases h3:e.kind==10
    ·exact wkl (c':=(Cfg.mk (zkj f q w tb e n its0 (i+1) (its++[(f x).fst])).n (zkj f q w tb e n its0 (i+1) (its++[(f x).fst])).todo [(1,AV.sl (List.map Fr.cells w)),(4,AV.p 2 0),(5,AV.p 3 0),(6,AV.p 4 0),(17,AV.sl (zab q.items)),(18,iv (↑(zab q.items).length:Int)),(19,iv (↑(i+1):Int))] [Blk.box [iv (↑(n+1):Int)],Blk.box [bv q.star,AV.sl (zab q.items),sv q.frm,AV.sl (zab q.wh)],Blk.box [AV.sl (List.map Tb.cells tb)],Blk.box [iv e.kind,iv e.op,bv e.not,iv e.val.kind,iv e.val.int,sv e.val.text,sv e.table,sv e.name,AV.sl (zab e.args),AV.sl (zaf e.sub)],Blk.box [AV.own 5 (List.map V.cells its++[[iv (f x).fst.kind,iv (f x).fst.int,sv (f x).fst.text]]).length],Blk.row Ty.Value (List.map V.cells its++[[iv (f x).fst.kind,iv (f x).fst.int,sv (f x).fst.text]]) false])) [sb h0,se (zbv hx),sc hfx,sb h1,sc (zae ((f x).fst)),sb h2,sb h3,sqx (AllLen [[iv (f x).fst.kind,iv (f x).fst.int,sv (f x).fst.text]] 3∧its.length=(List.map V.cells its).length∧(((List.map V.cells its).length+[[iv (f x).fst.kind,iv (f x).fst.int,sv (f x).fst.text]].length) * 32).le 140737488355328),si hw] [1,4,5,6,17,18,19] 6 kr (zat (show ([(1,AV.sl (List.map Fr.cells w)),(4,AV.p 2 0),(5,AV.p 3 0),(6,AV.p 4 0),(17,AV.sl (zab q.items)),(18,iv (↑(zab q.items).length:Int)),(19,iv (↑(i+1):Int))]:TS)=[(1,AV.sl (List.map Fr.cells w)),(4,AV.p 2 0),(5,AV.p 3 0),(6,AV.p 4 0),(17,AV.sl (zab q.items)),(18,iv (↑(zab q.items).length:Int)),(19,iv (↑(i+1):Int))] by first|rfl|(simp;done)|(simp [X.cells,Qy.cells,V.cells,Col.cells,Rw.cells,Tb.cells,Fr.cells,Sch.cells,Tp.cells,Pl.cells,xCol,xLit,xBin,xNeg];done)) (show ([Blk.box [iv (↑(n+1):Int)],Blk.box [bv q.star,AV.sl (zab q.items),sv q.frm,AV.sl (zab q.wh)],Blk.box [AV.sl (List.map Tb.cells tb)],Blk.box [iv e.kind,iv e.op,bv e.not,iv e.val.kind,iv e.val.int,sv e.val.text,sv e.table,sv e.name,AV.sl (zab e.args),AV.sl (zaf e.sub)],Blk.box [AV.own 5 (List.map V.cells its++[[iv (f x).fst.kind,iv (f x).fst.int,sv (f x).fst.text]]).length],Blk.row Ty.Value (List.map V.cells its++[[iv (f x).fst.kind,iv (f x).fst.int,sv (f x).fst.text]]) false]:Heap)=[Blk.box [iv (↑(n+1):Int)],Blk.box [bv q.star,AV.sl (zab q.items),sv q.frm,AV.sl (zab q.wh)],Blk.box [AV.sl (List.map Tb.cells tb)],Blk.box [iv e.kind,iv e.op,bv e.not,iv e.val.kind,iv e.val.int,sv e.val.text,sv e.table,sv e.name,AV.sl (zab e.args),AV.sl (zaf e.sub)],Blk.box [AV.own 5 (its++[(f x).fst]).length],Blk.row Ty.Value (List.map V.cells (its++[(f x).fst])) false] by first|rfl|(simp;done)|(simp [X.cells,Qy.cells,V.cells,Col.cells,Rw.cells,Tb.cells,Fr.cells,Sch.cells,Tp.cells,Pl.cells,xCol,xLit,xBin,xNeg];done)) (ih (i+1) (its++[(f x).fst]) (by omega) zsj))
    ·cases h4:(f x).fst.kind != 1
     ·exact wkl (c':=(Cfg.mk (zkj f q w tb e n its0 (i+1) (its++[(f x).fst])).n (zkj f q w tb e n its0 (i+1) (its++[(f x).fst])).todo [(1,AV.sl (List.map Fr.cells w)),(4,AV.p 2 0),(5,AV.p 3 0),(6,AV.p 4 0),(17,AV.sl (zab q.items)),(18,iv (↑(zab q.items).length:Int)),(19,iv (↑(i+1):Int))] [Blk.box [iv (↑(n+1):Int)],Blk.box [bv q.star,AV.sl (zab q.items),sv q.frm,AV.sl (zab q.wh)],Blk.box [AV.sl (List.map Tb.cells tb)],Blk.box [iv e.kind,iv e.op,bv e.not,iv e.val.kind,iv e.val.int,sv e.val.text,sv e.table,sv e.name,AV.sl (zab e.args),AV.sl (zaf e.sub)],Blk.box [AV.own 5 (List.map V.cells its++[[iv (f x).fst.kind,iv (f x).fst.int,sv (f x).fst.text]]).length],Blk.row Ty.Value (List.map V.cells its++[[iv (f x).fst.kind,iv (f x).fst.int,sv (f x).fst.text]]) false])) [sb h0,se (zbv hx),sc hfx,sb h1,sc (zae ((f x).fst)),sb h2,sg h3,sb h4,sqx (AllLen [[iv (f x).fst.kind,iv (f x).fst.int,sv (f x).fst.text]] 3∧its.length=(List.map V.cells its).length∧(((List.map V.cells its).length+[[iv (f x).fst.kind,iv (f x).fst.int,sv (f x).fst.text]].length) * 32).le 140737488355328),si hw] [1,4,5,6,17,18,19] 6 kr (zat (show ([(1,AV.sl (List.map Fr.cells w)),(4,AV.p 2 0),(5,AV.p 3 0),(6,AV.p 4 0),(17,AV.sl (zab q.items)),(18,iv (↑(zab q.items).length:Int)),(19,iv (↑(i+1):Int))]:TS)=[(1,AV.sl (List.map Fr.cells w)),(4,AV.p 2 0),(5,AV.p 3 0),(6,AV.p 4 0),(17,AV.sl (zab q.items)),(18,iv (↑(zab q.items).length:Int)),(19,iv (↑(i+1):Int))] by first|rfl|(simp;done)|(simp [X.cells,Qy.cells,V.cells,Col.cells,Rw.cells,Tb.cells,Fr.cells,Sch.cells,Tp.cells,Pl.cells,xCol,xLit,xBin,xNeg];done)) (show ([Blk.box [iv (↑(n+1):Int)],Blk.box [bv q.star,AV.sl (zab q.items),sv q.frm,AV.sl (zab q.wh)],Blk.box [AV.sl (List.map Tb.cells tb)],Blk.box [iv e.kind,iv e.op,bv e.not,iv e.val.kind,iv e.val.int,sv e.val.text,sv e.table,sv e.name,AV.sl (zab e.args),AV.sl (zaf e.sub)],Blk.box [AV.own 5 (List.map V.cells its++[[iv (f x).fst.kind,iv (f x).fst.int,sv (f x).fst.text]]).length],Blk.row Ty.Value (List.map V.cells its++[[iv (f x).fst.kind,iv (f x).fst.int,sv (f x).fst.text]]) false]:Heap)=[Blk.box [iv (↑(n+1):Int)],Blk.box [bv q.star,AV.sl (zab q.items),sv q.frm,AV.sl (zab q.wh)],Blk.box [AV.sl (List.map Tb.cells tb)],Blk.box [iv e.kind,iv e.op,bv e.not,iv e.val.kind,iv e.val.int,sv e.val.text,sv e.table,sv e.name,AV.sl (zab e.args),AV.sl (zaf e.sub)],Blk.box [AV.own 5 (its++[(f x).fst]).length],Blk.row Ty.Value (List.map V.cells (its++[(f x).fst])) false] by first|rfl|(simp;done)|(simp [X.cells,Qy.cells,V.cells,Col.cells,Rw.cells,Tb.cells,Fr.cells,Sch.cells,Tp.cells,Pl.cells,xCol,xLit,xBin,xNeg];done)) (ih (i+1) (its++[(f x).fst]) (by omega) zsj))
     ·exact wkr [sb h0,se (zbv hx),sc hfx,sb h1,sc (zae ((f x).fst)),sb h2,sg h3,sb h4] kr
   ·exact wkl [sb h0,se (zbv hx),sc hfx,sb h1,sc (zae ((f x).fst)),sb h2,si hw] [1,4,5,6,17,18,19] 6 kr (ih (i+1) its (by omega) zsj)
  ·exact wkr [sb h0,se (zbv hx),sc hfx,sb h1] kr
def aggC (f:X→V × Int) (q:Qy) (w:List Fr) (tb:List Tb) (e:X) (n:Nat) (its:List V):Int × (List V) :=
 aggI f q w tb e n its q.items 0 (its)
theorem zg5 (f:X→V × Int) (q:Qy) (w:List Fr) (tb:List Tb) (e:X) (n:Nat) (its:List V) (rw:Rw) (hl:q.items.length≤1000) (hi0:its.length≤2000000) (hwn:IntKind.i64.wrap (((n:Nat):Int)+1)=((n+1:Nat):Int)) (hf:∀ x∈q.items,Pure S.evaluate_Value [x.av,fsl w,tsl tb] (.tup [(f x).1.av,iv (f x).2])):zac E0 S.evaluate_aggregate_c1 [.agg (Rw.cells rw),fsl w,.p 0 0,.p 1 0,.p 2 0,.p 3 0,.p 4 0] (AH q tb e n its) (iv (aggC f q w tb e n its).1) (AH q tb e (n+1) (aggC f q w tb e n its).2):=by
 unfold aggC
 exact wkc At.evaluate_aggregate_c1 [si hwn] [1,4,5,6,17,18,19] 6 kr (by have ih:=zqH f q w tb e n its hl hi0 hf q.items.length 0 its (by simp) (by simp);exact ih)
end Go.AM
namespace Go.AM
set_option maxRecDepth 100000
set_option maxHeartbeats 1000000
set_option linter.unusedSimpArgs false
set_option linter.unusedVariables false
theorem zhN {p:Prop} (h:p:=by first|assumption|omega|(simp;done)|(simp;omega)):p:=h
theorem zhP {p:Prop} (h:p:=by first|omega|(have:=hgl x its;omega)):p:=h
noncomputable def L_selA (tr:Rw→Bool × Int) (g:Rw→List V→Int × List V) (q:Qy) (frs:List Fr) (tb:List Tb) (e:X) (t:Tb) (n0:Nat) (its0:List V) (i:Nat) (n:Nat) (its:List V):Cfg:=zar B.evaluate_selected 0 [(1,fsl frs),(2,tsl tb),(3,.fn S.evaluate_aggregate_c1 [.p 0 0,.p 1 0,.p 2 0,.p 3 0,.p 4 0]),(4,.p 6 0),(9,.p 7 0),(26,.sl (t.rows.map Rw.cells)),(27,iv ((t.rows.map Rw.cells).length:Nat)),(28,iv (i:Nat))] (AH q tb e n its++[.box q.cells,.box t.cells])
def selA (tr:Rw→Bool × Int) (g:Rw→List V→Int × List V) (q:Qy) (frs:List Fr) (tb:List Tb) (e:X) (t:Tb) (n0:Nat) (its0:List V):List (Rw)→Nat→(Nat)→(List V)→Int × Nat × (List V)
 | [],i,n,its =>
  (0,n,its)
 | x::r,i,n,its =>
  bif (tr x).snd==0 then
   bif (tr x).fst then
    bif (g x its).fst != 0 then
     ((g x its).fst,n+1,(g x its).snd)
    else
     selA tr g q frs tb e t n0 its0 r (i+1) (n+1) ((g x its).snd)
   else
    bif (tr x).snd != 0 then
     ((tr x).snd,n,its)
    else
     selA tr g q frs tb e t n0 its0 r (i+1) n (its)
  else
   bif (tr x).snd != 0 then
    ((tr x).snd,n,its)
   else
    selA tr g q frs tb e t n0 its0 r (i+1) n (its)
theorem zqw (tr:Rw→Bool × Int) (g:Rw→List V→Int × List V) (q:Qy) (frs:List Fr) (tb:List Tb) (e:X) (t:Tb) (n0:Nat) (its0:List V) (hfr:zad frs) (hrows:t.rows.length≤1000) (hn0:n0≤1000) (hi0:its0.length≤1000) (hgl:∀ (r:Rw) (its:List V),(g r its).2.length≤its.length+1000) (hT:∀ r∈t.rows,Pure S.evaluate_True [xsl q.wh,fsl (zav frs t r.vals),tsl tb] (.tup [bv (tr r).1,iv (tr r).2])) (hC:∀ r∈t.rows,∀ (n:Nat) (its:List V),n≤1000000→its.length≤2000000→zac E0 S.evaluate_aggregate_c1 [.agg (Rw.cells r),fsl (zav frs t r.vals),.p 0 0,.p 1 0,.p 2 0,.p 3 0,.p 4 0] (AH q tb e n its) (iv (g r its).1) (AH q tb e (n+1) (g r its).2)):∀ (kk i:Nat) (n:Nat) (its:List V),i+kk=(t.rows).length→n≤n0+i→its.length≤its0.length+1000 * i→Good E0 B.evaluate_selected (AH q tb e n0 its0) (L_selA tr g q frs tb e t n0 its0 i n its) (Shut 6 fun r h=>r=(iv (selA tr g q frs tb e t n0 its0 ((t.rows).drop i) i n its).1)∧h=(AH q tb e (selA tr g q frs tb e t n0 its0 ((t.rows).drop i) i n its).2.1 (selA tr g q frs tb e t n0 its0 ((t.rows).drop i) i n its).2.2)):=by
 intro kk
 induction kk with
 | zero =>
  intro i n its hi hn hi2
  have h0:decide (((i:Nat):Int) < (((t.rows.map Rw.cells).length:Nat):Int))=false:=by simp;omega
  have e0:(t.rows).drop i=[]:=List.drop_of_length_le (by omega)
  rw [e0]
  simp only [selA]
  refine zaa ?_
  exact wkr [sb h0] kr
 | succ kk ih =>
  intro i n its hi hn hi2
  obtain ⟨x,hx⟩:=zay (l:=t.rows) (i:=i) (by omega)
  have h0:decide (((i:Nat):Int) < (((t.rows.map Rw.cells).length:Nat):Int))=true:=by simp;omega
  have hw:=zao i (by first|omega|(simp only [zad,Few] at *;omega))
  have hTx:=hT x (List.mem_of_getElem? hx);have hCx:=hC x (List.mem_of_getElem? hx) n its (by omega) (by omega)
  rw [zaN hx]
  simp only [selA]
  refine zaa ?_
  cases h1:(tr x).snd==0
  ·cases h2:(tr x).snd != 0
   ·exact wkl [sb h0,se (zah Rw.cells hx rfl),sc (za6 frs t x.vals zhN),sc hTx,sb h1,sb h2,si hw] [1,2,3,4,9,26,27,28] 8 kr (ih (i+1) n its (by omega) zhP zhP)
   ·exact wkr [sb h0,se (zah Rw.cells hx rfl),sc (za6 frs t x.vals zhN),sc hTx,sb h1,sb h2] kr
  ·cases h3:(tr x).fst
   ·cases h4:(tr x).snd != 0
    ·exact wkl [sb h0,se (zah Rw.cells hx rfl),sc (za6 frs t x.vals zhN),sc hTx,sg h1,sb h3,sb h4,si hw] [1,2,3,4,9,26,27,28] 8 kr (ih (i+1) n its (by omega) zhP zhP)
    ·exact wkr [sb h0,se (zah Rw.cells hx rfl),sc (za6 frs t x.vals zhN),sc hTx,sg h1,sb h3,sb h4] kr
   ·cases h5:(g x its).fst != 0
    ·exact wkl [sb h0,se (zah Rw.cells hx rfl),sc (za6 frs t x.vals zhN),sc hTx,sg h1,sb h3,sl [0,1,2,3,4,5] hCx,sb h5,si hw] [1,2,3,4,9,26,27,28] 8 kr (ih (i+1) (n+1) ((g x its).snd) (by omega) zhP zhP)
    ·exact wkr [sb h0,se (zah Rw.cells hx rfl),sc (za6 frs t x.vals zhN),sc hTx,sg h1,sb h3,sl [0,1,2,3,4,5] hCx,sb h5] kr
end Go.AM
namespace Go.AM
set_option maxRecDepth 100000
set_option maxHeartbeats 1000000
set_option linter.unusedSimpArgs false
set_option linter.unusedVariables false
theorem zgR {p:Prop} (h:p:=by first|assumption|exact head0 (by assumption)|exact len1 (by assumption)):p:=h
def zmM (tr:Rw→Bool × Int) (g:Rw→List V→Int × List V) (q:Qy) (frs:List Fr) (tb:List Tb) (e:X) (t:Tb) (n0:Nat) (its0:List V):Int × Nat × (List V) :=
 selA tr g q frs tb e t n0 its0 t.rows 0 n0 (its0)
theorem zhL (tr:Rw→Bool × Int) (g:Rw→List V→Int × List V) (q:Qy) (frs:List Fr) (tb:List Tb) (e:X) (t:Tb) (n0:Nat) (its0:List V) (hfind:Pure S.evaluate_find [tsl tb,sv q.frm] (.tup [t.av,bv true])) (hfr:zad frs) (hrows:t.rows.length≤1000) (hn0:n0≤1000) (hi0:its0.length≤1000) (hgl:∀ (r:Rw) (its:List V),(g r its).2.length≤its.length+1000) (hT:∀ r∈t.rows,Pure S.evaluate_True [xsl q.wh,fsl (zav frs t r.vals),tsl tb] (.tup [bv (tr r).1,iv (tr r).2])) (hC:∀ r∈t.rows,∀ (n:Nat) (its:List V),n≤1000000→its.length≤2000000→zac E0 S.evaluate_aggregate_c1 [.agg (Rw.cells r),fsl (zav frs t r.vals),.p 0 0,.p 1 0,.p 2 0,.p 3 0,.p 4 0] (AH q tb e n its) (iv (g r its).1) (AH q tb e (n+1) (g r its).2)):zac E0 S.evaluate_selected [q.av,fsl frs,tsl tb,.fn S.evaluate_aggregate_c1 [.p 0 0,.p 1 0,.p 2 0,.p 3 0,.p 4 0]] (AH q tb e n0 its0) (iv (zmM tr g q frs tb e t n0 its0).1) (AH q tb e (zmM tr g q frs tb e t n0 its0).2.1 (zmM tr g q frs tb e t n0 its0).2.2):=by
 unfold zmM
 exact wkc At.evaluate_selected [sc hfind,sb (rfl:false=false)] [1,2,3,4,9,26,27,28] 8 kr (zqw tr g q frs tb e t n0 its0 hfr hrows hn0 hi0 hgl hT hC t.rows.length 0 n0 its0 (by simp) (by simp) (by simp))
def zsA (q:Qy) (frs:List Fr) (tb:List Tb) (e:X) (n0:Nat) (its0:List V):Int × Nat × (List V) :=
 (3,n0,its0)
theorem zhq (q:Qy) (frs:List Fr) (tb:List Tb) (e:X) (n0:Nat) (its0:List V) (hfind:Pure S.evaluate_find [tsl tb,sv q.frm] (.tup [Tb.zero.av,bv false])):zac E0 S.evaluate_selected [q.av,fsl frs,tsl tb,.fn S.evaluate_aggregate_c1 [.p 0 0,.p 1 0,.p 2 0,.p 3 0,.p 4 0]] (AH q tb e n0 its0) (iv (zsA q frs tb e n0 its0).1) (AH q tb e (zsA q frs tb e n0 its0).2.1 (zsA q frs tb e n0 its0).2.2):=by
 exact wk At.evaluate_selected [sc hfind,sb (rfl:true=true)] kr
noncomputable def zgl (e:X) (q:Qy) (frs:List Fr) (tb:List Tb):Cfg:=(upto (mk E0) (List.range 100) 6 3000 ⟨B.evaluate_aggregate.ntmps,[.code (B.evaluate_aggregate.body.getD .skip)],zb4 0 [e.av,fsl frs,tsl tb],[]⟩ [.el q.cells]).2
noncomputable def aggCfg (e:X) (q:Qy) (frs:List Fr) (tb:List Tb):Cfg:=cut (List.range 100) 7 ⟨(zgl e q frs tb).n,(zgl e q frs tb).todo,(zgl e q frs tb).ts,((zgl e q frs tb).h++[Blk.row Ty.Value [] false]).set 5 (.box (([AV.nl]:List AV).set 0 (.own (zgl e q frs tb).h.length 0)))⟩
theorem agg_to {e:X} {q:Qy} {frs:List Fr} {tb:List Tb} {R:AV→Heap→Prop} (hq:e.sub[0]?=some q) (hg:Good E0 B.evaluate_aggregate [] (aggCfg e q frs tb) (Shut 0 R)):zb7 E0 S.evaluate_aggregate [e.av,fsl frs,tsl tb] [] R :=
 wkc (c':=zgl e q frs tb) At.evaluate_aggregate [se (zaR hq)] (List.range 100) 6 kr
  (ze5 (cs:=[AV.nl]) 5 0 Ty.Value (List.range 100) 7 kr kr kr rfl hg)
theorem head0 {l:List V} (h:(((l.length:Nat):Int)==0)=false):l[0]?=some (l.headD V.null):=by
 cases l with
 | nil=>simp at h
 | cons x r=>rfl
theorem len1 {l:List V} (h:(((l.length:Nat):Int)==0)=false):decide ((((l.map V.cells).length:Nat):Int) < 1)=false:=by
 cases l with
 | nil=>simp at h
 | cons x r=>simp;omega
def eAgg (sel:Int × Nat × List V) (e:X):V × Int :=
 bif sel.1 != 0 then (V.null,sel.1)
 else bif e.kind==8 then (⟨2,if decide (0 < ((sel.2.1:Nat):Int)) then 1 else 0,⟨#[]⟩⟩,0)
 else bif e.kind==9 then (⟨1,(sel.2.1:Nat),⟨#[]⟩⟩,0)
 else bif ((sel.2.2.length:Nat):Int)==0 then (V.null,0)
 else bif e.kind==10 then eSum sel.2.2
 else bif e.kind==11 then (minV sel.2.2,0)
 else (maxV sel.2.2,0)
theorem c_agg (sel:Int × Nat × List V) (e:X) (q:Qy) (frs:List Fr) (tb:List Tb) (hq:e.sub[0]?=some q) (hlen:zad sel.2.2) (hsel:zac E0 S.evaluate_selected [q.av,fsl frs,tsl tb,.fn S.evaluate_aggregate_c1 [.p 0 0,.p 1 0,.p 2 0,.p 3 0,.p 4 0]] (AH q tb e 0 []) (iv sel.1) (AH q tb e sel.2.1 sel.2.2)):zac E0 S.evaluate_aggregate [e.av,fsl frs,tsl tb] [] (.tup [(eAgg sel e).1.av,iv (eAgg sel e).2]) []:=by
 refine agg_to hq ?_
 unfold eAgg
 cases h1:sel.fst != 0
 ·cases h2:e.kind==8
  ·cases h3:e.kind==9
   ·cases h4:(sel.snd.snd.length:Int)==0
    ·cases h5:e.kind==10
     ·cases h6:e.kind==11
      ·exact wkr [sl [4,3,1,0,5,6] hsel,sb h1,sb h2,sb h3,sqx (sel.snd.snd.length=(List.map V.cells sel.snd.snd).length),sb h4,sb h5,sb h6,skx (sel.snd.snd.length=(List.map V.cells sel.snd.snd).length∧True∧True) [] (zhM sel.snd.snd zgR zgR zgR)] kr
      ·exact wkr [sl [4,3,1,0,5,6] hsel,sb h1,sb h2,sb h3,sqx (sel.snd.snd.length=(List.map V.cells sel.snd.snd).length),sb h4,sb h5,sb h6,skx (sel.snd.snd.length=(List.map V.cells sel.snd.snd).length∧True∧True) [] (zhA sel.snd.snd zgR zgR zgR)] kr
     ·exact wkr [sl [4,3,1,0,5,6] hsel,sb h1,sb h2,sb h3,sqx (sel.snd.snd.length=(List.map V.cells sel.snd.snd).length),sb h4,sb h5,skx (sel.snd.snd.length=(List.map V.cells sel.snd.snd).length∧True) [] (zm3 sel.snd.snd zgR)] kr
    ·exact wkr [sl [4,3,1,0,5,6] hsel,sb h1,sb h2,sb h3,sqx (sel.snd.snd.length=(List.map V.cells sel.snd.snd).length),sb h4] kr
   ·exact wkr [sl [4,3,1,0,5,6] hsel,sb h1,sb h2,sb h3,sc (zbb ((sel.snd.fst:Int)))] kr
  ·exact wkr [sl [4,3,1,0,5,6] hsel,sb h1,sb h2,sc (zbF (decide (0 < (sel.snd.fst:Int))))] kr
 ·exact wkr [sl [4,3,1,0,5,6] hsel,sb h1] kr
end Go.AM
namespace Go.AM
set_option maxRecDepth 100000
set_option maxHeartbeats 1000000
set_option linter.unusedSimpArgs false
set_option linter.unusedVariables false
theorem zbo {p:Prop} (h:p:=by first|assumption|exact hfo.short|exact hfo.cols|exact hfo.wrap|exact zvG (by assumption)|exact zus (by assumption)|(simp_all;done)|(simp at *;omega)):p:=h
theorem ziJ (frs:List Fr) (q n:Str) (k:Nat) (f:Fr) (els:Int × Int × Bool):∀ (c:List Col) (j:Nat),zc7 frs q n k f els c j=bif decide (0≤idxF (fun c=>colC c n) c j) then (pm1 (k+1),idxF (fun c=>colC c n) c j,true) else els
 | [],j=>by simp [zc7,idxF]
 | x::r,j=>by
  rcases Bool.eq_false_or_eq_true (x.name.toList==n.toList) with h|h
  ·simp [zc7,idxF,colC,h]
  ·have ih:=ziJ frs q n k f els r (j+1)
   simp only [colC] at ih
   simp only [zc7,idxF,colC,h,cond_false]
   exact ih
theorem zq5 (frs:List Fr) (q n:Str):∀ k,sres frs q n k=rres frs q n k
 | 0=>rfl
 | k+1=>by simp only [sres,rres,ziJ,zq5 frs q n k]
theorem zdZ (frs:List Fr) (q n:Str):zbw frs q n=zaX frs q n:=zq5 frs q n _
theorem zl8 (frs:List Fr) (q n:Str) (h:(!(zbw frs q n).2.2)=false):ElAt (frs.map Fr.cells) (zbw frs q n).1 (rFr frs q n).cells 4:=by
 rw [zdZ] at h ⊢;exact el_rFr frs q n (by simpa using h)
theorem zvG {frs:List Fr} {q n:Str} (h:(!(zbw frs q n).2.2)=false):decide ((zbw frs q n).2.1 < 0)=false:=by
 rw [zdZ] at h ⊢
 obtain ⟨i,j,e,_⟩:=zfg (by simpa using h:(zaX frs q n).2.2=true)
 rw [e];simp
theorem zus {l:List V} {k:Int} (h:decide ((((l.map V.cells).length:Nat):Int)≤k)=false):k < l.length:=by simp at h;omega
noncomputable def zkM (f:X→V × Int) (op:List V→V × Int) (e:X) (frs:List Fr) (tb:List Tb) (i:Nat) (out:List V):Cfg:=zar B.evaluate_Value 0 [(1,fsl frs),(2,tsl tb),(3,.p 0 0),(6,.p 1 0),(11,.own 2 out.length),(73,xsl e.args),(74,iv ((zab e.args).length:Nat)),(75,iv (i:Nat))] [.box e.cells,.box [iv 0,iv 0,sv ⟨#[]⟩],.row Ty.Value (out.map V.cells) false]
def evL (f:X→V × Int) (op:List V→V × Int) (e:X) (frs:List Fr) (tb:List Tb):List (X)→Nat→(List V)→V × Int
 | [],i,out =>
  ((op out).fst,(op out).snd)
 | x::r,i,out =>
  bif (f x).snd != 0 then
   (V.mk 0 0 (ByteArray.mk #[]),(f x).snd)
  else
   evL f op e frs tb r (i+1) (out++[(f x).fst])
theorem zsM (f:X→V × Int) (op:List V→V × Int) (e:X) (frs:List Fr) (tb:List Tb) (hl:Few e.args) (hf:∀ x∈e.args,Pure S.evaluate_Value [x.av,fsl frs,tsl tb] (.tup [(f x).1.av,iv (f x).2])) (hfg:∀ x∈e.args,(f x).1.Good) (hop:∀ l:List V,l.length=e.args.length→(∀ v∈l,v.Good)→Pure S.evaluate_operation [e.av,vsl l] (.tup [(op l).1.av,iv (op l).2])):∀ (kk i:Nat) (out:List V),i+kk=(e.args).length→(out.length=i)→(∀ v∈out,v.Good)→Good E0 B.evaluate_Value [] (zkM f op e frs tb i out) (Shut 0 fun r h=>r=(.tup [(evL f op e frs tb ((e.args).drop i) i out).1.av,iv (evL f op e frs tb ((e.args).drop i) i out).2])∧h=[]):=by
 intro kk
 induction kk with
 | zero =>
  intro i out hi ho hg
  have h0:decide (((i:Nat):Int) < (((zab e.args).length:Nat):Int))=false:=by simp;omega
  have e0:(e.args).drop i=[]:=List.drop_of_length_le (by omega)
  rw [e0]
  simp only [evL]
  refine zaa ?_
  exact wkr [sb h0,skx ((True∧True∧True∧True∧True∧True∧True∧True∧True∧True∧True)∧out.length=(List.map V.cells out).length∧True) [] (hop out (by first|assumption|omega) (by first|assumption|omega))] kr
 | succ kk ih =>
  intro i out hi ho hg
  obtain ⟨x,hx⟩:=zay (l:=e.args) (i:=i) (by omega)
  have h0:decide (((i:Nat):Int) < (((zab e.args).length:Nat):Int))=true:=by simp;omega
  have hw:=zao i (by first|omega|(simp only [zad,Few] at *;omega))
  have hfx:=hf x (List.mem_of_getElem? hx);have hgx:=hfg x (List.mem_of_getElem? hx);have hlen:out.length≤1000:=by have:=zcj hx;simp only [Few] at hl;omega
  rw [zaN hx]
  simp only [evL]
  refine zaa ?_
  cases h1:(f x).snd != 0
  ·exact wkl (c':=(Cfg.mk (zkM f op e frs tb (i+1) (out++[(f x).fst])).n (zkM f op e frs tb (i+1) (out++[(f x).fst])).todo [(1,AV.sl (List.map Fr.cells frs)),(2,AV.sl (List.map Tb.cells tb)),(3,AV.p 0 0),(6,AV.p 1 0),(11,AV.own 2 (List.map V.cells out++[[iv (f x).fst.kind,iv (f x).fst.int,sv (f x).fst.text]]).length),(73,AV.sl (zab e.args)),(74,iv (↑(zab e.args).length:Int)),(75,iv (↑(i+1):Int))] [Blk.box [iv e.kind,iv e.op,bv e.not,iv e.val.kind,iv e.val.int,sv e.val.text,sv e.table,sv e.name,AV.sl (zab e.args),AV.sl (zaf e.sub)],Blk.box [iv 0,iv 0,sv (ByteArray.mk #[])],Blk.row Ty.Value (List.map V.cells out++[[iv (f x).fst.kind,iv (f x).fst.int,sv (f x).fst.text]]) false])) [sb h0,se (zbv hx),sc hfx,sb h1,sqx (AllLen [[iv (f x).fst.kind,iv (f x).fst.int,sv (f x).fst.text]] 3∧out.length=(List.map V.cells out).length∧(((List.map V.cells out).length+[[iv (f x).fst.kind,iv (f x).fst.int,sv (f x).fst.text]].length) * 32).le 140737488355328),si hw] [1,2,3,6,11,73,74,75] 3 kr (zat (show ([(1,AV.sl (List.map Fr.cells frs)),(2,AV.sl (List.map Tb.cells tb)),(3,AV.p 0 0),(6,AV.p 1 0),(11,AV.own 2 (List.map V.cells out++[[iv (f x).fst.kind,iv (f x).fst.int,sv (f x).fst.text]]).length),(73,AV.sl (zab e.args)),(74,iv (↑(zab e.args).length:Int)),(75,iv (↑(i+1):Int))]:TS)=[(1,AV.sl (List.map Fr.cells frs)),(2,AV.sl (List.map Tb.cells tb)),(3,AV.p 0 0),(6,AV.p 1 0),(11,AV.own 2 (out++[(f x).fst]).length),(73,AV.sl (zab e.args)),(74,iv (↑(zab e.args).length:Int)),(75,iv (↑(i+1):Int))] by first|rfl|(simp;done)|(simp [X.cells,Qy.cells,V.cells,Col.cells,Rw.cells,Tb.cells,Fr.cells,Sch.cells,Tp.cells,Pl.cells,xCol,xLit,xBin,xNeg];done)) (show ([Blk.box [iv e.kind,iv e.op,bv e.not,iv e.val.kind,iv e.val.int,sv e.val.text,sv e.table,sv e.name,AV.sl (zab e.args),AV.sl (zaf e.sub)],Blk.box [iv 0,iv 0,sv (ByteArray.mk #[])],Blk.row Ty.Value (List.map V.cells out++[[iv (f x).fst.kind,iv (f x).fst.int,sv (f x).fst.text]]) false]:Heap)=[Blk.box [iv e.kind,iv e.op,bv e.not,iv e.val.kind,iv e.val.int,sv e.val.text,sv e.table,sv e.name,AV.sl (zab e.args),AV.sl (zaf e.sub)],Blk.box [iv 0,iv 0,sv (ByteArray.mk #[])],Blk.row Ty.Value (List.map V.cells (out++[(f x).fst])) false] by first|rfl|(simp;done)|(simp [X.cells,Qy.cells,V.cells,Col.cells,Rw.cells,Tb.cells,Fr.cells,Sch.cells,Tp.cells,Pl.cells,xCol,xLit,xBin,xNeg];done)) (ih (i+1) (out++[(f x).fst]) (by omega) (by first|assumption|(simp;omega)|exact fun v hv=>(List.mem_append.1 hv).elim (hg v) fun h=>by simp only [List.mem_singleton] at h;exact h ▸ hgx) (by first|assumption|(simp;omega)|exact fun v hv=>(List.mem_append.1 hv).elim (hg v) fun h=>by simp only [List.mem_singleton] at h;exact h ▸ hgx)))
  ·exact wkr [sb h0,se (zbv hx),sc hfx,sb h1] kr
structure OpKind (e:X):Prop where
 fok:zco e=true
 k1:e.kind≠1
 k2:e.kind≠2
 k8:¬(8≤e.kind∧e.kind≤12)
def valF (f:X→V × Int) (op:List V→V × Int) (agg:V × Int) (e:X) (frs:List Fr) (tb:List Tb):V × Int :=
 bif !zco e then
  (V.mk 0 0 (ByteArray.mk #[]),17)
 else
  bif e.kind==1 then
   (e.val,0)
  else
   bif e.kind==2 then
    bif !(zbw frs e.table e.name).snd.snd then
     (V.mk 0 0 (ByteArray.mk #[]),3)
    else
     bif decide ((↑(List.map V.cells (rFr frs e.table e.name).vals).length:Int)≤(zbw frs e.table e.name).snd.fst) then
      (V.mk 0 0 (ByteArray.mk #[]),17)
     else
      (zaG (rFr frs e.table e.name).vals (zbw frs e.table e.name).snd.fst,0)
   else
    bif e.kind==8 then
     (agg.fst,agg.snd)
    else
     bif e.kind==9 then
      (agg.fst,agg.snd)
     else
      bif e.kind==10 then
       (agg.fst,agg.snd)
      else
       bif e.kind==11 then
        (agg.fst,agg.snd)
       else
        bif e.kind==12 then
         (agg.fst,agg.snd)
        else
         evL f op e frs tb e.args 0 ([])
theorem zjj (f:X→V × Int) (op:List V→V × Int) (agg:V × Int) (e:X) (frs:List Fr) (tb:List Tb) (n:Nat) (hfo:FsOk n frs) (hl:Few e.args) (hf:∀ x∈e.args,Pure S.evaluate_Value [x.av,fsl frs,tsl tb] (.tup [(f x).1.av,iv (f x).2])) (hfg:∀ x∈e.args,(f x).1.Good) (hop:OpKind e→∀ l:List V,l.length=e.args.length→(∀ v∈l,v.Good)→Pure S.evaluate_operation [e.av,vsl l] (.tup [(op l).1.av,iv (op l).2])) (hagg:zco e=true→8≤e.kind→e.kind≤12→Pure S.evaluate_aggregate [e.av,fsl frs,tsl tb] (.tup [agg.1.av,iv agg.2])):zac E0 S.evaluate_Value [e.av,fsl frs,tsl tb] [] (.tup [(valF f op agg e frs tb).1.av,iv (valF f op agg e frs tb).2]) []:=by
 unfold valF
 cases h1:!zco e
 ·cases h2:e.kind==1
  ·cases h3:e.kind==2
   ·cases h4:e.kind==8
    ·cases h5:e.kind==9
     ·cases h6:e.kind==10
      ·cases h7:e.kind==11
       ·cases h8:e.kind==12
        ·exact wkc At.evaluate_Value (c':=(Cfg.mk (zkM f op e frs tb 0 []).n (zkM f op e frs tb 0 []).todo [(1,AV.sl (List.map Fr.cells frs)),(2,AV.sl (List.map Tb.cells tb)),(3,AV.p 0 0),(6,AV.p 1 0),(11,AV.nl),(73,AV.sl (zab e.args)),(74,iv (↑(zab e.args).length:Int)),(75,iv 0)] [Blk.box [iv e.kind,iv e.op,bv e.not,iv e.val.kind,iv e.val.int,sv e.val.text,sv e.table,sv e.name,AV.sl (zab e.args),AV.sl (zaf e.sub)],Blk.box [iv 0,iv 0,sv (ByteArray.mk #[])]])) [sc (zbd e),sb h1,sb h2,sb h3,sb h4,sb h5,sb h6,sb h7,sb h8] [1,2,3,6,11,73,74,75] 2 kr (zfm (c':=zkM f op e frs tb 0 []) 11 Ty.Value [1,2,3,6,11,73,74,75] 3 kr kr kr (zsM f op e frs tb hl hf hfg (hop ⟨by simpa using h1,by simpa using h2,by simpa using h3,by simp at *;omega⟩) e.args.length 0 ([]) (by simp) (by simp) (by simp)))
        ·exact wk At.evaluate_Value [sc (zbd e),sb h1,sb h2,sb h3,sb h4,sb h5,sb h6,sb h7,sb h8,sc (hagg zbo zbo zbo)] kr
       ·exact wk At.evaluate_Value [sc (zbd e),sb h1,sb h2,sb h3,sb h4,sb h5,sb h6,sb h7,sc (hagg zbo zbo zbo)] kr
      ·exact wk At.evaluate_Value [sc (zbd e),sb h1,sb h2,sb h3,sb h4,sb h5,sb h6,sc (hagg zbo zbo zbo)] kr
     ·exact wk At.evaluate_Value [sc (zbd e),sb h1,sb h2,sb h3,sb h4,sb h5,sc (hagg zbo zbo zbo)] kr
    ·exact wk At.evaluate_Value [sc (zbd e),sb h1,sb h2,sb h3,sb h4,sc (hagg zbo zbo zbo)] kr
   ·cases h9:!(zbw frs e.table e.name).snd.snd
    ·cases h10:decide ((↑(List.map V.cells (rFr frs e.table e.name).vals).length:Int)≤(zbw frs e.table e.name).snd.fst)
     ·exact wk At.evaluate_Value [sc (zbd e),sb h1,sb h2,sb h3,sc (zdo frs e.table e.name zbo zbo zbo),sb h9,se (zl8 frs e.table e.name zbo),sb h10,se (zl8 frs e.table e.name zbo),se (zdX ((rFr frs e.table e.name).vals) ((zbw frs e.table e.name).snd.fst) zbo zbo)] kr
     ·exact wk At.evaluate_Value [sc (zbd e),sb h1,sb h2,sb h3,sc (zdo frs e.table e.name zbo zbo zbo),sb h9,se (zl8 frs e.table e.name zbo),sb h10] kr
    ·exact wk At.evaluate_Value [sc (zbd e),sb h1,sb h2,sb h3,sc (zdo frs e.table e.name zbo zbo zbo),sb h9] kr
  ·exact wk At.evaluate_Value [sc (zbd e),sb h1,sb h2] kr
 ·exact wk At.evaluate_Value [sc (zbd e),sb h1] kr
end Go.AM
namespace Go.AM
set_option maxRecDepth 100000
set_option maxHeartbeats 1000000
set_option linter.unusedSimpArgs false
set_option linter.unusedVariables false
theorem zfS {k o:Int} {xs:List X} (h:za3 k o xs=true):((k=1∨k=2)∧xs.length=0)∨((k=3∨k=4∨k=6)∧xs.length=1)∨(k=5∧xs.length=2∧1≤o∧o≤13)∨(k=7∧xs.length=3):=by
 simp only [za3,Bool.cond_eq_ite,zbs] at h
 simp at h
 repeat' split at h
 all_goals simp_all
 all_goals omega
theorem zfR {k o:Int} {xs:List X} {qs:List Qy} {it wh:List X} (hq:qs≠[]) (h:zaE k o xs qs it wh=true):xs.length=0∧qs.length=1∧wh.length≤1∧(((k=8∨k=9)∧it.length=0)∨((k=10∨k=11∨k=12)∧it.length=1)):=by
 simp only [zaE,Bool.cond_eq_ite,zbs,zed] at h
 simp [hq] at h
 obtain ⟨h1,h2,h3,h4,h5,h6,h7,h⟩:=h
 repeat' split at h
 all_goals simp_all
 all_goals omega
def eOp (e:X) (l:List V):V × Int:=match l with
 | [a]=>if e.kind=6 then zlr e.op e.not a else if e.kind=3 then zsc e.op e.not a else zr2 e.op e.not a
 | [a,b]=>zko e.op e.not a b
 | [a,b,c]=>zl7 e.op e.not a b c
 | _=>(V.null,0)
theorem OpKind.cases {e:X} (h:OpKind e):e.sub=[]∧(((e.kind=3∨e.kind=4∨e.kind=6)∧e.args.length=1)∨(e.kind=5∧e.args.length=2∧1≤e.op∧e.op≤13)∨(e.kind=7∧e.args.length=3)):=by
 have hf:=h.fok
 have k1:=h.k1
 have k2:=h.k2
 have k8:=h.k8
 unfold zco at hf
 cases hs:e.sub with
 | nil =>
  rw [hs] at hf
  have:=zfS hf
  refine ⟨rfl,?_⟩
  omega
 | cons q r =>
  rw [hs] at hf
  have:=(zfR (by simp) hf).2.2.2
  omega
theorem zqs (e:X) (h:OpKind e) (l:List V) (hl:l.length=e.args.length) (hg:∀ v∈l,v.Good):Pure S.evaluate_operation [e.av,vsl l] (.tup [(eOp e l).1.av,iv (eOp e l).2]):=by
 obtain ⟨hs,hk⟩:=h.cases
 cases e with
 | mk k o nt val tn nm xs qs =>
  simp only [X.sub_mk,X.kind_mk,X.op_mk,X.args_mk] at hs hk hl
  subst hs
  match l,hl,hg with
  | [],hl,_=>simp at hl;omega
  | [a],hl,hg =>
   have ha:=(hg a (by simp)).small
   simp only [List.length_cons,List.length_nil] at hl
   have:k=3∨k=4∨k=6:=by omega
   rcases this with rfl|rfl|rfl
   ·exact zf8 o nt a val tn nm xs [] ha
   ·exact zf4 o nt a val tn nm xs []
   ·exact ze9 o nt a val tn nm xs []
  | [a,b],hl,hg =>
   simp only [List.length_cons,List.length_nil] at hl
   obtain ⟨rfl,ho⟩:k=5∧1≤o∧o≤13:=by omega
   exact zgc o nt a b val tn nm xs [] (hg a (by simp)).small (hg b (by simp)).small ho
  | [a,b,c],hl,hg =>
   simp only [List.length_cons,List.length_nil] at hl
   obtain rfl:k=7:=by omega
   exact zgf o nt a b c val tn nm xs []
  | a::b::c::d::r,hl,_=>simp only [List.length_cons] at hl;omega
def rowI (f:X→V × Int) (k:Int):List X→List V→Int × List V
 | [],its=>(0,its)
 | x::r,its=>bif (f x).2 != 0 then ((f x).2,its) else bif (f x).1.kind==0 then rowI f k r its else bif k==10&&(f x).1.kind != 1 then (5,its) else rowI f k r (its++[(f x).1])
theorem zq4 (f:X→V × Int) (q:Qy) (w:List Fr) (tb:List Tb) (e:X) (n:Nat) (its0:List V):∀ (l:List X) (i:Nat) (its:List V),aggI f q w tb e n its0 l i its=rowI f e.kind l its
 | [],_,_=>rfl
 | x::r,i,its=>by
  simp only [aggI,rowI,zq4 f q w tb e n its0 r]
  cases (f x).2 != 0 <;> cases (f x).1.kind==0 <;> cases e.kind==10 <;> simp
theorem ziA (f:X→V × Int) (k:Int):∀ (l:List X) (its:List V),(rowI f k l its).2.length≤its.length+l.length
 | [],its=>by simp [rowI]
 | x::r,its=>by
  have h1:=ziA f k r its
  have h2:=ziA f k r (its++[(f x).1])
  simp only [List.length_append,List.length_cons,List.length_nil] at h2
  simp only [rowI,Bool.cond_eq_ite,List.length_cons]
  repeat' split
  all_goals (try simp only);omega
theorem zlA {P:V→Prop} (f:X→V × Int) (k:Int):∀ (l:List X) (its:List V),(∀ x∈l,P (f x).1)→(∀ v∈its,P v)→∀ v∈(rowI f k l its).2,P v
 | [],its,_,h=>h
 | x::r,its,hx,h=>by
  simp only [rowI,Bool.cond_eq_ite]
  have hr:∀ y∈r,P (f y).1:=fun y hy=>hx y (by simp [hy])
  repeat' split
  ·exact h
  ·exact zlA f k r its hr h
  ·exact h
  ·exact zlA f k r _ hr fun v hv=>(List.mem_append.1 hv).elim (h v) fun hv=>by simp only [List.mem_singleton] at hv;exact hv ▸ hx x (by simp)
def selR (tr:Rw→Bool × Int) (g:Rw→List V→Int × List V):List Rw→Nat→List V→Int × Nat × List V
 | [],n,its=>(0,n,its)
 | r::l,n,its=>bif (tr r).2 != 0 then ((tr r).2,n,its) else bif (tr r).1 then (bif (g r its).1 != 0 then ((g r its).1,n+1,(g r its).2) else selR tr g l (n+1) (g r its).2) else selR tr g l n its
theorem zq6 (tr:Rw→Bool × Int) (g:Rw→List V→Int × List V) (q:Qy) (frs:List Fr) (tb:List Tb) (e:X) (t:Tb) (n0:Nat) (its0:List V):∀ (l:List Rw) (i n:Nat) (its:List V),selA tr g q frs tb e t n0 its0 l i n its=selR tr g l n its
 | [],_,_,_=>rfl
 | r::l,i,n,its=>by
  simp only [selA,selR,zq6 tr g q frs tb e t n0 its0 l,bne]
  cases (tr r).2==0 <;> cases (tr r).1 <;> simp
theorem zll (tr:Rw→Bool × Int) (g:Rw→List V→Int × List V) (m:Nat) (hg:∀ r its,(g r its).2.length≤its.length+m):∀ (l:List Rw) (n:Nat) (its:List V),(selR tr g l n its).2.2.length≤its.length+m * l.length
 | [],n,its=>by simp [selR]
 | r::l,n,its=>by
  have h1:=zll tr g m hg l n its
  have h2:=zll tr g m hg l (n+1) (g r its).2
  have h3:=hg r its
  simp only [selR,Bool.cond_eq_ite,List.length_cons,Nat.mul_add]
  repeat' split
  all_goals (try simp only);omega
theorem zi0 {P:V→Prop} (tr:Rw→Bool × Int) (g:Rw→List V→Int × List V):∀ (l:List Rw) (n:Nat) (its:List V),(∀ r∈l,∀ its,(∀ v∈its,P v)→∀ v∈(g r its).2,P v)→(∀ v∈its,P v)→∀ v∈(selR tr g l n its).2.2,P v
 | [],n,its,_,h=>h
 | r::l,n,its,hg,h=>by
  have hl:∀ r∈l,∀ its,(∀ v∈its,P v)→∀ v∈(g r its).2,P v:=fun y hy=>hg y (by simp [hy])
  simp only [selR,Bool.cond_eq_ite]
  repeat' split
  ·exact h
  ·exact hg r (by simp) its h
  ·exact zi0 tr g l _ _ hl (hg r (by simp) its h)
  ·exact zi0 tr g l _ _ hl h
def zb3 (f:X→V × Int):List X→Bool × Int
 | []=>zoA
 | x::_=>zj2 f x
def zhl (F:List Fr→X→V × Int) (e:X) (frs:List Fr) (tb:List Tb):V × Int:=match e.sub with
 | []=>(V.null,0)
 | q::_=>match zbU tb q.frm with
  | none=>eAgg (3,0,[]) e
  | some t=>eAgg (selR (fun r=>zb3 (F (zav frs t r.vals)) q.wh) (fun r its=>rowI (F (zav frs t r.vals)) e.kind q.items its) t.rows 0 []) e
def eval:Nat→X→List Fr→List Tb→V × Int
 | 0,_,_,_=>(V.null,0)
 | n+1,e,frs,tb=>valF (fun x=>eval n x frs tb) (eOp e) (zhl (fun w x=>eval n x w tb) e frs tb) e frs tb
/- ### values are valid -/
theorem zjG (c:Bool):V.Good ⟨2,if c=true then 1 else 0,⟨#[]⟩⟩:=by
 cases c
 ·exact zew (n:=0) (by decide)
 ·exact zew (n:=1) (by decide)
theorem gc1 {α:Type} (c:Bool) {a b:V × α} (ha:a.1.Good) (hb:b.1.Good):(bif c then a else b).1.Good:=by cases c <;> assumption
theorem gc0 (c:Bool) {a b:V} (ha:a.Good) (hb:b.Good):(bif c then a else b).Good:=by cases c <;> assumption
theorem ic1 (c:Bool) {a b:Int × Bool} (ha:I64 a.1) (hb:I64 b.1):I64 (bif c then a else b).1:=by cases c <;> assumption
theorem zjQ (op:Int) (a b:V):(vCmp op a b).1.Good:=by
 unfold vCmp;repeat' (first|apply gc1|exact zaj|exact zjG _)
theorem ziv (a b:V):(zd8 a b).Good:=by
 unfold zd8;repeat' (first|apply gc0|exact zaj|exact zjG _)
theorem zno (a b:V):(land a b).1.Good:=by
 unfold land;repeat' (first|apply gc1|exact zaj|exact ziv _ _)
theorem znq (a:V) (ha:a.Good):(lnot a).1.Good:=by
 unfold lnot;repeat' (first|apply gc1|exact zaj|exact ha|exact zjG _)
theorem zuf (a b:V):(lor a b).1.Good:=by
 unfold lor;repeat' (first|exact znq _ (ziv _ _)|exact zaj|apply gc1)
theorem zfp (v:V) (ok:Bool) (h:v.Good):(zcA v ok).1.Good:=by
 unfold zcA;repeat' (first|apply gc1|exact zaj|exact h)
theorem aAdd_i (a b:Int):I64 (aAdd a b).1:=by
 unfold aAdd;repeat' (first|apply ic1|exact zcY _|exact ⟨by decide,by decide⟩)
theorem aSub_i (a b:Int):I64 (aSub a b).1:=by
 unfold aSub;repeat' (first|apply ic1|exact zcY _|exact ⟨by decide,by decide⟩)
theorem aMul_i (a b:Int):I64 (aMul a b).1:=by
 unfold aMul;repeat' (first|apply ic1|exact zcY _|exact ⟨by decide,by decide⟩)
theorem aDiv_i (a b:Int):I64 (aDiv a b).1:=by
 unfold aDiv;repeat' (first|apply ic1|exact zcY _|exact ⟨by decide,by decide⟩)
theorem aMod_i (a b:Int) (ha:I64 a):I64 (aMod a b).1:=by
 have h:I64 (a.tmod b):=by
  have h0:=Int.natAbs_tmod a b
  have h1:=Nat.mod_le a.natAbs b.natAbs
  have h2:a < 0→a.tmod b≤0:=fun h=>by
   have h3:=Int.tmod_nonneg b (show 0≤-a by omega)
   rw [Int.neg_tmod] at h3;omega
  simp only [I64] at *
  omega
 unfold aMod;repeat' (first|apply ic1|exact h|exact ⟨by decide,by decide⟩)
theorem zlf (op:Int) (a b:V) (ha:a.Good):(zdA op a b).1.Good:=by
 unfold zdA
 repeat' (first|apply gc1|exact zaj|exact zbS (aAdd_i _ _)|exact zbS (aSub_i _ _)|exact zbS (aMul_i _ _)|exact zbS (aDiv_i _ _)|exact zbS (aMod_i _ _ ha.i64)|exact zbS ⟨by decide,by decide⟩)
theorem zuj (e:X) (l:List V) (hg:∀ v∈l,v.Good):(eOp e l).1.Good:=by
 match l,hg with
 | [],_=>exact zaj
 | [a],hg =>
  have ha:=hg a (by simp)
  simp only [eOp]
  split
  ·exact zjG _
  split
  ·exact zfp _ _ (znq _ ha)
  ·exact zlf _ _ _ (zbS ⟨by decide,by decide⟩)
 | [a,b],hg =>
  have ha:=hg a (by simp)
  simp only [eOp,zko]
  repeat' (first|exact zfp _ _ (zno _ _)|exact zfp _ _ (zuf _ _)|exact zjQ _ _ _|exact zlf _ _ _ ha|apply gc1)
 | [a,b,c],hg =>
  simp only [eOp,zl7,zdy]
  repeat' (first|exact zaj|exact zfp _ _ (zno _ _)|apply gc1)
 | a::b::c::d::r,_=>exact zaj
theorem zly {P:V→Prop} (l0:List V):∀ (l:List V) (i:Nat) (m:V),(∀ v∈l,P v)→P m→P (minL l0 l i m)
 | [],_,_,_,h=>h
 | x::r,i,m,hl,h=>by
  simp only [minL,Bool.cond_eq_ite]
  split
  ·exact zly l0 r _ _ (fun v hv=>hl v (by simp [hv])) (hl x (by simp))
  ·exact zly l0 r _ _ (fun v hv=>hl v (by simp [hv])) h
theorem zls {P:V→Prop} (l0:List V):∀ (l:List V) (i:Nat) (m:V),(∀ v∈l,P v)→P m→P (maxL l0 l i m)
 | [],_,_,_,h=>h
 | x::r,i,m,hl,h=>by
  simp only [maxL,Bool.cond_eq_ite]
  split
  ·exact zls l0 r _ _ (fun v hv=>hl v (by simp [hv])) (hl x (by simp))
  ·exact zls l0 r _ _ (fun v hv=>hl v (by simp [hv])) h
theorem zoD {P:V→Prop} {l:List V} (h:∀ v∈l,P v) (h0:P V.null):P (minV l) :=
 zly l _ _ _ (fun v hv=>h v (List.mem_of_mem_drop hv)) (by cases l with|nil=>exact h0|cons x r=>exact h x (by simp))
theorem zoN {P:V→Prop} {l:List V} (h:∀ v∈l,P v) (h0:P V.null):P (maxV l) :=
 zls l _ _ _ (fun v hv=>h v (List.mem_of_mem_drop hv)) (by cases l with|nil=>exact h0|cons x r=>exact h x (by simp))
theorem ztF (l0:List Int):∀ (l:List Int) (i:Nat) (a b:Int),I64 (sumL l0 l i a b).1
 | [],i,a,b=>by
  simp only [sumL]
  repeat' (first|apply ic1|exact zcY _|exact ⟨by decide,by decide⟩)
 | x::r,i,a,b=>by simp only [sumL];exact ztF l0 r _ _ _
theorem zpc (its:List V):∀ (c:List V) (i:Nat) (l:List Int),zf6 its c i l=bif !(aSum (l++c.map V.int)).2 then (V.null,6) else (⟨1,(aSum (l++c.map V.int)).1,⟨#[]⟩⟩,0)
 | [],i,l=>by simp [zf6,V.null]
 | x::r,i,l=>by simp only [zf6,List.map_cons];rw [zpc its r];simp
theorem zrb (its:List V):eSum its=bif !(aSum (its.map V.int)).2 then (V.null,6) else (⟨1,(aSum (its.map V.int)).1,⟨#[]⟩⟩,0):=by
 unfold eSum;rw [zpc];simp
theorem ztA (its:List V):(eSum its).1.Good:=by
 rw [zrb]
 exact gc1 _ zaj (zbS (ztF _ _ _ _ _))
theorem znk (sel:Int × Nat × List V) (e:X) (hn:sel.2.1≤1000000) (h:∀ v∈sel.2.2,v.Good):(eAgg sel e).1.Good:=by
 unfold eAgg
 have hb:V.Good ⟨2,if decide (0 < ((sel.2.1:Nat):Int)) then 1 else 0,⟨#[]⟩⟩:=zjG _
 repeat' (first|exact zaj|exact hb|exact zbS ⟨by omega,by omega⟩|exact ztA _|exact zoD h zaj|exact zoN h zaj|apply gc1)
theorem zpd (tr:Rw→Bool × Int) (g:Rw→List V→Int × List V):∀ (l:List Rw) (n:Nat) (its:List V),(selR tr g l n its).2.1≤n+l.length
 | [],n,its=>by simp [selR]
 | r::l,n,its=>by
  have h1:=zpd tr g l n its
  have h2:=zpd tr g l (n+1) (g r its).2
  simp only [selR,Bool.cond_eq_ite,List.length_cons]
  repeat' split
  all_goals (try simp only);omega
abbrev FsG (frs:List Fr):Prop:=∀ f∈frs,∀ v∈f.vals,v.Good
structure TbG (tb:List Tb):Prop where
 vals:∀ x∈tb,∀ r∈x.rows,∀ v∈r.vals,v.Good
 rows:∀ x∈tb,x.rows.length≤1000
theorem FsG.ins {frs:List Fr} (h:FsG frs) {t:Tb} {v:List V} (hv:∀ x∈v,x.Good):FsG (zav frs t v):=fun f hf=>by
 simp only [zav,List.mem_append,List.mem_singleton] at hf
 rcases hf with hf|rfl
 ·exact h f hf
 ·exact hv
theorem zdC {tb:List Tb} {n:Str} {t:Tb} (h:zbU tb n=some t):t∈tb:=List.mem_of_find?_eq_some h
theorem zrJ {F:List Fr→X→V × Int} {n:Nat} {e:X} {frs:List Fr} {tb:List Tb} (he:XOk (n+1) e) (hf:FsG frs) (ht:TbG tb) (hF:∀ w x,XOk n x→FsG w→(F w x).1.Good):(zhl F e frs tb).1.Good:=by
 unfold zhl
 split
 ·exact zaj
 ·rename_i q r hs
  obtain ⟨_,_,_,hsub⟩:=he
  obtain ⟨h1,h2,h3⟩:=hsub q (by rw [hs];simp)
  split
  ·exact znk _ _ (by simp) (fun v hv=>by cases hv)
  ·rename_i t hfd
   have htm:=zdC hfd
   refine znk _ _ ?_ ?_
   ·have:=zpd (fun r=>zb3 (F (zav frs t r.vals)) q.wh) (fun r its=>rowI (F (zav frs t r.vals)) e.kind q.items its) t.rows 0 []
    have:=ht.rows t htm
    omega
   ·refine zi0 _ _ _ _ _ (fun r hr its hi=>zlA _ _ _ _ (fun x hx=>hF _ x (h2 x hx) (hf.ins (ht.vals t htm r hr))) hi) (fun v hv=>by cases hv)
theorem zpH (f:X→V × Int) (op:List V→V × Int) (e:X) (frs:List Fr) (tb:List Tb) (hop:∀ l,(∀ v∈l,v.Good)→(op l).1.Good):∀ (l:List X) (i:Nat) (out:List V),(∀ x∈l,(f x).1.Good)→(∀ v∈out,v.Good)→(evL f op e frs tb l i out).1.Good
 | [],i,out,_,h=>hop out h
 | x::r,i,out,hl,h=>by
  simp only [evL]
  exact gc1 _ zaj (zpH f op e frs tb hop r _ _ (fun y hy=>hl y (by simp [hy])) fun v hv=>(List.mem_append.1 hv).elim (h v) fun h=>by simp only [List.mem_singleton] at h;exact h ▸ hl x (by simp))
theorem ztr {P:V→Prop} {l:List V} (h:∀ v∈l,P v) (h0:P V.null) (k:Int):P (zaG l k):=by
 unfold zaG
 rw [List.getD_eq_getElem?_getD]
 cases hk:l[k.toNat]? with
 | none=>exact h0
 | some v=>exact h v (List.mem_of_getElem? hk)
theorem zvq (frs:List Fr) (q n:Str):rFr frs q n∈frs∨rFr frs q n=zbc:=by
 unfold rFr
 rw [List.getD_eq_getElem?_getD]
 cases hk:frs[(zaX frs q n).1.toNat]? with
 | none=>exact .inr rfl
 | some v=>exact .inl (List.mem_of_getElem? hk)
theorem zcW:∀ (n:Nat) (e:X) (frs:List Fr) (tb:List Tb),XOk n e→FsG frs→TbG tb→(eval n e frs tb).1.Good
 | 0,e,frs,tb,h,_,_=>h.elim
 | n+1,e,frs,tb,h,hf,ht=>by
  have hA:=zrJ (F:=fun w x=>eval n x w tb) h hf ht (fun w x hx hw=>zcW n x w tb hx hw ht)
  obtain ⟨h1,h2,h3,h4⟩:=h
  have hv:∀ v∈(rFr frs e.table e.name).vals,v.Good:=by
   rcases zvq frs e.table e.name with h|h
   ·exact hf _ h
   ·rw [h];intro v hv;cases hv
  simp only [eval,valF]
  repeat' (first|exact zaj|exact h1|exact hA|exact ztr hv zaj _|exact zpH _ _ _ _ _ (fun l hl=>zuj e l hl) _ _ _ (fun x hx=>zcW n x frs tb (h3 x hx) hf ht) (fun v hv=>by cases hv)|apply gc1)
end Go.AM
namespace Go.AM
set_option maxRecDepth 100000
set_option maxHeartbeats 1000000
set_option linter.unusedSimpArgs false
set_option linter.unusedVariables false
theorem FsOk.eins {n:Nat} {frs:List Fr} (h:FsOk (n+1) frs) {t:Tb} (hc:zad t.sch.cols) {v:List V} (hv:∀ x∈v,x.Good):FsOk n (zav frs t v):=by
 refine ⟨by have:=h.len;simp [zav];omega,fun f hf=>?_,fun f hf=>?_⟩
 ·simp only [zav,List.mem_append,List.mem_singleton] at hf
  rcases hf with hf|rfl
  ·exact h.cols f hf
  ·exact hc
 ·simp only [zav,List.mem_append,List.mem_singleton] at hf
  rcases hf with hf|rfl
  ·exact h.vals f hf
  ·exact fun x hx=>(hv x hx).small
theorem zpe {f:X→V × Int} {wh:List X} {frs:List Fr} {tb:List Tb} (hf:∀ x∈wh,Pure S.evaluate_Value [x.av,fsl frs,tsl tb] (.tup [(f x).1.av,iv (f x).2])) (hg:∀ x∈wh,(f x).1.Good):Pure S.evaluate_True [xsl wh,fsl frs,tsl tb] (.tup [bv (zb3 f wh).1,iv (zb3 f wh).2]):=by
 cases wh with
 | nil=>exact zjD frs tb
 | cons x r=>exact zjx f x r frs tb (hf x (by simp)) (hg x (by simp)).small
theorem zmA {e:X} (h:zco e=true) (h8:8≤e.kind) (h12:e.kind≤12):∃ q,e.sub=[q]:=by
 unfold zco at h
 cases hs:e.sub with
 | nil=>rw [hs] at h;have:=zfS h;omega
 | cons q r =>
  rw [hs] at h
  have:=(zfR (by simp) h).2.1
  cases r with
  | nil=>exact ⟨q,rfl⟩
  | cons x y=>simp at this
theorem zr3 {F:List Fr→X→V × Int} {n:Nat} {q:Qy} {frs:List Fr} {tb:List Tb} {e:X} {t:Tb} (hfd:zbU tb q.frm=some t) (hfo:FsOk (n+1) frs) (hto:TbOk tb) (hfg:FsG frs) (htg:TbG tb) (hi:Few q.items)
  (hF:∀ w,FsOk n w→FsG w→∀ x,(x∈q.items∨x∈q.wh)→Pure S.evaluate_Value [x.av,fsl w,tsl tb] (.tup [(F w x).1.av,iv (F w x).2])∧(F w x).1.Good) :
  zac E0 S.evaluate_selected [q.av,fsl frs,tsl tb,.fn S.evaluate_aggregate_c1 [.p 0 0,.p 1 0,.p 2 0,.p 3 0,.p 4 0]] (AH q tb e 0 [])
   (iv (selR (fun r=>zb3 (F (zav frs t r.vals)) q.wh) (fun r its=>rowI (F (zav frs t r.vals)) e.kind q.items its) t.rows 0 []).1)
   (AH q tb e (selR (fun r=>zb3 (F (zav frs t r.vals)) q.wh) (fun r its=>rowI (F (zav frs t r.vals)) e.kind q.items its) t.rows 0 []).2.1 (selR (fun r=>zb3 (F (zav frs t r.vals)) q.wh) (fun r its=>rowI (F (zav frs t r.vals)) e.kind q.items its) t.rows 0 []).2.2):=by
 have htm:=zdC hfd
 have hin:∀ r∈t.rows,FsOk n (zav frs t r.vals)∧FsG (zav frs t r.vals):=fun r hr=>⟨hfo.eins (hto.cols t htm) (htg.vals t htm r hr),hfg.ins (htg.vals t htm r hr)⟩
 have h:=zhL (fun r=>zb3 (F (zav frs t r.vals)) q.wh) (fun r its=>rowI (F (zav frs t r.vals)) e.kind q.items its) q frs tb e t 0 [] (zfE tb q.frm hto.len t hfd) hfo.short (hto.rows t htm) (by simp) (by simp)
  (fun r its=>by have:=ziA (F (zav frs t r.vals)) e.kind q.items its;simp only [Few] at hi;omega)
  (fun r hr=>zpe (fun x hx=>(hF _ (hin r hr).1 (hin r hr).2 x (.inr hx)).1) (fun x hx=>(hF _ (hin r hr).1 (hin r hr).2 x (.inr hx)).2))
  (fun r hr n its hn hl=>by
   have h:=zg5 (F (zav frs t r.vals)) q (zav frs t r.vals) tb e n its r hi hl (by rw [IntKind.wrap_i64];omega) (fun x hx=>(hF _ (hin r hr).1 (hin r hr).2 x (.inl hx)).1)
   simp only [aggC,zq4] at h
   exact h)
 simp only [zmM,zq6] at h
 exact h
theorem zqm {F:List Fr→X→V × Int} {n:Nat} {e:X} {frs:List Fr} {tb:List Tb} (he:XOk (n+1) e) (hs:∃ q,e.sub=[q]) (hfo:FsOk (n+1) frs) (hto:TbOk tb) (hfg:FsG frs) (htg:TbG tb)
  (hF:∀ w,FsOk n w→FsG w→∀ x,XOk n x→Pure S.evaluate_Value [x.av,fsl w,tsl tb] (.tup [(F w x).1.av,iv (F w x).2])∧(F w x).1.Good):Pure S.evaluate_aggregate [e.av,fsl frs,tsl tb] (.tup [(zhl F e frs tb).1.av,iv (zhl F e frs tb).2]):=by
 obtain ⟨q,hq⟩:=hs
 obtain ⟨_,_,_,h4⟩:=he
 obtain ⟨h5,h6,h7⟩:=h4 q (by rw [hq];simp)
 have hq0:e.sub[0]?=some q:=by rw [hq];rfl
 unfold zhl
 rw [hq]
 simp only
 cases hfd:zbU tb q.frm with
 | none=>exact c_agg (3,0,[]) e q frs tb hq0 (by simp) (zhq q frs tb e 0 [] (zfJ tb q.frm hto.len hfd))
 | some t =>
  have htm:=zdC hfd
  refine c_agg _ e q frs tb hq0 ?_ (zr3 hfd hfo hto hfg htg h5.1.few fun w hw hg x hx=>hF w hw hg x (hx.elim (h6 x) (h7 x)))
  have hl:=zll (fun r=>zb3 (F (zav frs t r.vals)) q.wh) (fun r its=>rowI (F (zav frs t r.vals)) e.kind q.items its) 1000 (fun r its=>by have:=ziA (F (zav frs t r.vals)) e.kind q.items its;simp only [Thin] at h5;omega) t.rows 0 []
  have hr:=hto.rows t htm
  simp only [zad]
  simp only [List.length_nil] at hl
  have:1000 * t.rows.length≤1000 * 1000:=Nat.mul_le_mul_left _ hr
  omega
theorem ze8:∀ (n:Nat) (e:X) (frs:List Fr) (tb:List Tb),XOk n e→FsOk n frs→FsG frs→TbOk tb→TbG tb→Pure S.evaluate_Value [e.av,fsl frs,tsl tb] (.tup [(eval n e frs tb).1.av,iv (eval n e frs tb).2])
 | 0,e,frs,tb,h,_,_,_,_=>h.elim
 | n+1,e,frs,tb,h,hf,hg,ht,htg=>by
  have hA:=@zqm (fun w x=>eval n x w tb) n e frs tb h
  obtain ⟨_,h2,h3,_⟩:=id h
  exact zjj (fun x=>eval n x frs tb) (eOp e) (zhl (fun w x=>eval n x w tb) e frs tb) e frs tb (n+1) hf h2.1.few (fun x hx=>ze8 n x frs tb (h3 x hx) hf.less hg ht htg) (fun x hx=>zcW n x frs tb (h3 x hx) hg htg)
   (fun ho l hl hl2=>zqs e ho l hl hl2)
   (fun hfm h8 h12=>hA (zmA hfm h8 h12) hf ht hg htg fun w hw hwg x hx=>⟨ze8 n x w tb hx hw hwg ht htg,zcW n x w tb hx hwg htg⟩)
end Go.AM
namespace Go.AM
set_option maxRecDepth 100000
set_option maxHeartbeats 1000000
set_option linter.unusedSimpArgs false
set_option linter.unusedVariables false
theorem zgH {p:Prop} (h:p:=by first|assumption|omega|(simp;done)|(simp;omega)):p:=h
noncomputable def clCV (l:List V):Cfg:=(upto (mk E0) (List.range 40) 0 3000 ⟨B.slices_Clone_Value.ntmps,[.code (B.slices_Clone_Value.body.getD .skip)],zb4 0 [vsl l],[]⟩ []).2
theorem zuv (l:List V) (hl:zad l):Good E0 B.slices_Clone_Value [] (zdH (clCV l) false) (fun r h=>r=.own 0 l.length∧h=[.row Ty.Value (l.map V.cells) false]):=by
 exact zik E0ok mix0 3000 (y:=AV.own 0 (List.map V.cells l).length) (H:=[Blk.row Ty.Value (List.map V.cells l) false]) [sb (rfl:false=false),sqx (AllLen (List.map V.cells l) 3∧((List.map V.cells l).length * 32).le 140737488355328)] kr (⟨by simp,rfl⟩)
theorem zur:Good E0 B.slices_Clone_Value [] (zdH (clCV []) true) (fun r h=>r=.nl∧h=[]):=by
 exact zik E0ok mix0 3000 (y:=AV.nl) (H:=[]) [sb (rfl:true=true)] kr (⟨rfl,rfl⟩)
theorem zc9 (l:List V) (hl:zad l):zac E0 S.slices_Clone_Value [vsl l] [] (.own 0 l.length) [.row Ty.Value (l.map V.cells) false]:=by
 refine zbO At.slices_Clone_Value rfl kr (Nat.le_of_ble_eq_true kr) (zd5 E0ok mix0 3000 [] (List.range 40) 0 (c':=clCV l) kr kr (zlo E0ok (xs:=l.map V.cells) (e:=true) kr fun b hb=>?_))
 cases b with
 | false=>exact zuv l hl
 | true =>
  cases l with
  | nil=>exact zhJ Ty.Value zur ⟨rfl,rfl⟩
  | cons x r=>exact absurd (hb (by simp)) (by simp)
abbrev vrow (v:List V):List AV:=[vsl v]
abbrev RH (q:Qy) (tb:List Tb) (out:List (List V)):Heap:=[.box q.cells,.box [.own 2 out.length],.row Ty.LValue (out.map vrow) false,.box [tsl tb]]
noncomputable def zin (f:X→V × Int) (q:Qy) (w:List Fr) (tb:List Tb) (out:List (List V)) (i:Nat) (row:List V):Cfg:=zar B.evaluate_Rows_c1 0 [(1,fsl w),(3,.p 1 0),(4,.p 3 0),(8,.own 4 row.length),(22,xsl q.items),(23,iv ((zab q.items).length:Nat)),(24,iv (i:Nat))] (RH q tb out++[.row Ty.Value (row.map V.cells) false])
def rowL (f:X→V × Int) (q:Qy) (w:List Fr) (tb:List Tb) (out:List (List V)):List (X)→Nat→(List V)→Int × (List (List V))
 | [],i,row =>
  (0,out++[row])
 | x::r,i,row =>
  bif (f x).snd != 0 then
   ((f x).snd,out)
  else
   rowL f q w tb out r (i+1) (row++[(f x).fst])
theorem zqM (f:X→V × Int) (q:Qy) (w:List Fr) (tb:List Tb) (out:List (List V)) (hl:q.items.length≤1000) (hout:out.length≤2000000) (hf:∀ x∈q.items,Pure S.evaluate_Value [x.av,fsl w,tsl tb] (.tup [(f x).1.av,iv (f x).2])):∀ (kk i:Nat) (row:List V),i+kk=(q.items).length→(row.length≤i)→Good E0 B.evaluate_Rows_c1 (RH q tb out) (zin f q w tb out i row) (Shut 4 fun r h=>r=(iv (rowL f q w tb out ((q.items).drop i) i row).1)∧h=(RH q tb (rowL f q w tb out ((q.items).drop i) i row).2)):=by
 intro kk
 induction kk with
 | zero =>
  intro i row hi ho
  have h0:decide (((i:Nat):Int) < (((zab q.items).length:Nat):Int))=false:=by simp;omega
  have e0:(q.items).drop i=[]:=List.drop_of_length_le (by omega)
  rw [e0]
  simp only [rowL]
  refine zaa ?_
  exact wkrS (y:=iv 0) (H:=[Blk.box [bv q.star,AV.sl (zab q.items),sv q.frm,AV.sl (zab q.wh)],Blk.box [AV.own 2 (List.map vrow out++[[AV.sl (List.map V.cells row)]]).length],Blk.row Ty.LValue (List.map vrow out++[[AV.sl (List.map V.cells row)]]) false,Blk.box [AV.sl (List.map Tb.cells tb)]]) [sb h0,sqx (row.length=(List.map V.cells row).length∧True),sqx (AllLen [[AV.sl (List.map V.cells row)]] 1∧out.length=(List.map vrow out).length∧(((List.map vrow out).length+[[AV.sl (List.map V.cells row)]].length) * 24).le 140737488355328)] kr ⟨by first|rfl|(simp;done)|(simp [X.cells,Qy.cells,V.cells,Col.cells,Rw.cells,Tb.cells,Fr.cells,Sch.cells,Tp.cells,Pl.cells,xCol,xLit,xBin,xNeg];done),by first|rfl|(simp;done)|(simp [X.cells,Qy.cells,V.cells,Col.cells,Rw.cells,Tb.cells,Fr.cells,Sch.cells,Tp.cells,Pl.cells,xCol,xLit,xBin,xNeg];done)⟩
 | succ kk ih =>
  intro i row hi ho
  obtain ⟨x,hx⟩:=zay (l:=q.items) (i:=i) (by omega)
  have h0:decide (((i:Nat):Int) < (((zab q.items).length:Nat):Int))=true:=by simp;omega
  have hw:=zao i (by first|omega|(simp only [zad,Few] at *;omega))
  have hfx:=hf x (List.mem_of_getElem? hx);have hrl:row.length≤1000:=by have:=zcj hx;omega
  rw [zaN hx]
  simp only [rowL]
  refine zaa ?_
  cases h1:(f x).snd != 0
  ·exact wkl (c':=(Cfg.mk (zin f q w tb out (i+1) (row++[(f x).fst])).n (zin f q w tb out (i+1) (row++[(f x).fst])).todo [(1,AV.sl (List.map Fr.cells w)),(3,AV.p 1 0),(4,AV.p 3 0),(8,AV.own 4 (List.map V.cells row++[[iv (f x).fst.kind,iv (f x).fst.int,sv (f x).fst.text]]).length),(22,AV.sl (zab q.items)),(23,iv (↑(zab q.items).length:Int)),(24,iv (↑(i+1):Int))] [Blk.box [bv q.star,AV.sl (zab q.items),sv q.frm,AV.sl (zab q.wh)],Blk.box [AV.own 2 out.length],Blk.row Ty.LValue (List.map vrow out) false,Blk.box [AV.sl (List.map Tb.cells tb)],Blk.row Ty.Value (List.map V.cells row++[[iv (f x).fst.kind,iv (f x).fst.int,sv (f x).fst.text]]) false])) [sb h0,se (zbv hx),sc hfx,sb h1,sqx (AllLen [[iv (f x).fst.kind,iv (f x).fst.int,sv (f x).fst.text]] 3∧row.length=(List.map V.cells row).length∧(((List.map V.cells row).length+[[iv (f x).fst.kind,iv (f x).fst.int,sv (f x).fst.text]].length) * 32).le 140737488355328),si hw] [1,3,4,8,22,23,24] 5 kr (zat (show ([(1,AV.sl (List.map Fr.cells w)),(3,AV.p 1 0),(4,AV.p 3 0),(8,AV.own 4 (List.map V.cells row++[[iv (f x).fst.kind,iv (f x).fst.int,sv (f x).fst.text]]).length),(22,AV.sl (zab q.items)),(23,iv (↑(zab q.items).length:Int)),(24,iv (↑(i+1):Int))]:TS)=[(1,AV.sl (List.map Fr.cells w)),(3,AV.p 1 0),(4,AV.p 3 0),(8,AV.own 4 (row++[(f x).fst]).length),(22,AV.sl (zab q.items)),(23,iv (↑(zab q.items).length:Int)),(24,iv (↑(i+1):Int))] by first|rfl|(simp;done)|(simp [X.cells,Qy.cells,V.cells,Col.cells,Rw.cells,Tb.cells,Fr.cells,Sch.cells,Tp.cells,Pl.cells,xCol,xLit,xBin,xNeg];done)) (show ([Blk.box [bv q.star,AV.sl (zab q.items),sv q.frm,AV.sl (zab q.wh)],Blk.box [AV.own 2 out.length],Blk.row Ty.LValue (List.map vrow out) false,Blk.box [AV.sl (List.map Tb.cells tb)],Blk.row Ty.Value (List.map V.cells row++[[iv (f x).fst.kind,iv (f x).fst.int,sv (f x).fst.text]]) false]:Heap)=[Blk.box [bv q.star,AV.sl (zab q.items),sv q.frm,AV.sl (zab q.wh)],Blk.box [AV.own 2 out.length],Blk.row Ty.LValue (List.map vrow out) false,Blk.box [AV.sl (List.map Tb.cells tb)],Blk.row Ty.Value (List.map V.cells (row++[(f x).fst])) false] by first|rfl|(simp;done)|(simp [X.cells,Qy.cells,V.cells,Col.cells,Rw.cells,Tb.cells,Fr.cells,Sch.cells,Tp.cells,Pl.cells,xCol,xLit,xBin,xNeg];done)) (ih (i+1) (row++[(f x).fst]) (by omega) (by first|assumption|(simp;done)|(simp;omega)|omega|(simp at *;omega))))
  ·exact wkr [sb h0,se (zbv hx),sc hfx,sb h1] kr
def rowC (f:X→V × Int) (q:Qy) (w:List Fr) (tb:List Tb) (rw:Rw) (out:List (List V)):Int × (List (List V)) :=
 bif q.star then
  (0,out++[rw.vals])
 else
  rowL f q w tb out q.items 0 ([])
theorem zjH (f:X→V × Int) (q:Qy) (w:List Fr) (tb:List Tb) (rw:Rw) (out:List (List V)) (hl:q.items.length≤1000) (hv:zad rw.vals) (hout:out.length≤2000000) (hf:∀ x∈q.items,Pure S.evaluate_Value [x.av,fsl w,tsl tb] (.tup [(f x).1.av,iv (f x).2])):zac E0 S.evaluate_Rows_c1 [.agg (Rw.cells rw),fsl w,.p 0 0,.p 1 0,.p 3 0] (RH q tb out) (iv (rowC f q w tb rw out).1) (RH q tb (rowC f q w tb rw out).2):=by
 unfold rowC
 cases h1:q.star
 ·exact wkc At.evaluate_Rows_c1 (c':=(Cfg.mk (zin f q w tb out 0 []).n (zin f q w tb out 0 []).todo [(1,AV.sl (List.map Fr.cells w)),(3,AV.p 1 0),(4,AV.p 3 0),(8,AV.nl),(22,AV.sl (zab q.items)),(23,iv (↑(zab q.items).length:Int)),(24,iv 0)] [Blk.box [bv q.star,AV.sl (zab q.items),sv q.frm,AV.sl (zab q.wh)],Blk.box [AV.own 2 out.length],Blk.row Ty.LValue (List.map vrow out) false,Blk.box [AV.sl (List.map Tb.cells tb)]])) [sb h1] [1,3,4,8,22,23,24] 4 kr (zfm (c':=zin f q w tb out 0 []) 8 Ty.Value [1,3,4,8,22,23,24] 5 kr kr kr (zqM f q w tb out hl hout hf q.items.length 0 ([]) (by simp) (by simp)))
 ·exact wkS At.evaluate_Rows_c1 (y:=iv 0) (H:=[Blk.box [bv q.star,AV.sl (zab q.items),sv q.frm,AV.sl (zab q.wh)],Blk.box [AV.own 2 (List.map vrow out++[[AV.sl (List.map V.cells rw.vals)]]).length],Blk.row Ty.LValue (List.map vrow out++[[AV.sl (List.map V.cells rw.vals)]]) false,Blk.box [AV.sl (List.map Tb.cells tb)]]) [sb h1,sd [(3,[sc (zc9 rw.vals zgH)]),(4,[sqx (rw.vals.length=(List.map V.cells rw.vals).length∧True)]),(5,[sqx (AllLen [[AV.sl (List.map V.cells rw.vals)]] 1∧out.length=(List.map vrow out).length∧(((List.map vrow out).length+[[AV.sl (List.map V.cells rw.vals)]].length) * 24).le 140737488355328)])]] kr ⟨by first|rfl|(simp;done)|(simp [X.cells,Qy.cells,V.cells,Col.cells,Rw.cells,Tb.cells,Fr.cells,Sch.cells,Tp.cells,Pl.cells,xCol,xLit,xBin,xNeg];done),by first|rfl|(simp;done)|(simp [X.cells,Qy.cells,V.cells,Col.cells,Rw.cells,Tb.cells,Fr.cells,Sch.cells,Tp.cells,Pl.cells,xCol,xLit,xBin,xNeg];done)⟩
noncomputable def L_selB (tr:Rw→Bool × Int) (g:Rw→List (List V)→Int × List (List V)) (q:Qy) (frs:List Fr) (tb:List Tb) (t:Tb) (out0:List (List V)) (i:Nat) (out:List (List V)):Cfg:=zar B.evaluate_selected 0 [(1,fsl frs),(2,tsl tb),(3,.fn S.evaluate_Rows_c1 [.p 0 0,.p 1 0,.p 3 0]),(4,.p 4 0),(9,.p 5 0),(26,.sl (t.rows.map Rw.cells)),(27,iv ((t.rows.map Rw.cells).length:Nat)),(28,iv (i:Nat))] (RH q tb out++[.box q.cells,.box t.cells])
def selB (tr:Rw→Bool × Int) (g:Rw→List (List V)→Int × List (List V)) (q:Qy) (frs:List Fr) (tb:List Tb) (t:Tb) (out0:List (List V)):List (Rw)→Nat→(List (List V))→Int × (List (List V))
 | [],i,out =>
  (0,out)
 | x::r,i,out =>
  bif (tr x).snd==0 then
   bif (tr x).fst then
    bif (g x out).fst != 0 then
     ((g x out).fst,(g x out).snd)
    else
     selB tr g q frs tb t out0 r (i+1) ((g x out).snd)
   else
    bif (tr x).snd != 0 then
     ((tr x).snd,out)
    else
     selB tr g q frs tb t out0 r (i+1) (out)
  else
   bif (tr x).snd != 0 then
    ((tr x).snd,out)
   else
    selB tr g q frs tb t out0 r (i+1) (out)
theorem zqQ (tr:Rw→Bool × Int) (g:Rw→List (List V)→Int × List (List V)) (q:Qy) (frs:List Fr) (tb:List Tb) (t:Tb) (out0:List (List V)) (hfr:zad frs) (hrows:t.rows.length≤1000) (hi0:out0.length≤1000) (hgl:∀ (r:Rw) (out:List (List V)),(g r out).2.length≤out.length+1) (hT:∀ r∈t.rows,Pure S.evaluate_True [xsl q.wh,fsl (zav frs t r.vals),tsl tb] (.tup [bv (tr r).1,iv (tr r).2])) (hC:∀ r∈t.rows,∀ (out:List (List V)),out.length≤2000000→zac E0 S.evaluate_Rows_c1 [.agg (Rw.cells r),fsl (zav frs t r.vals),.p 0 0,.p 1 0,.p 3 0] (RH q tb out) (iv (g r out).1) (RH q tb (g r out).2)):∀ (kk i:Nat) (out:List (List V)),i+kk=(t.rows).length→(out.length≤out0.length+i)→Good E0 B.evaluate_selected (RH q tb out0) (L_selB tr g q frs tb t out0 i out) (Shut 4 fun r h=>r=(iv (selB tr g q frs tb t out0 ((t.rows).drop i) i out).1)∧h=(RH q tb (selB tr g q frs tb t out0 ((t.rows).drop i) i out).2)):=by
 intro kk
 induction kk with
 | zero =>
  intro i out hi hi2
  have h0:decide (((i:Nat):Int) < (((t.rows.map Rw.cells).length:Nat):Int))=false:=by simp;omega
  have e0:(t.rows).drop i=[]:=List.drop_of_length_le (by omega)
  rw [e0]
  simp only [selB]
  refine zaa ?_
  exact wkr [sb h0] kr
 | succ kk ih =>
  intro i out hi hi2
  obtain ⟨x,hx⟩:=zay (l:=t.rows) (i:=i) (by omega)
  have h0:decide (((i:Nat):Int) < (((t.rows.map Rw.cells).length:Nat):Int))=true:=by simp;omega
  have hw:=zao i (by first|omega|(simp only [zad,Few] at *;omega))
  have hTx:=hT x (List.mem_of_getElem? hx);have hCx:=hC x (List.mem_of_getElem? hx) out (by omega)
  rw [zaN hx]
  simp only [selB]
  refine zaa ?_
  cases h1:(tr x).snd==0
  ·cases h2:(tr x).snd != 0
   ·exact wkl [sb h0,se (zah Rw.cells hx rfl),sc (za6 frs t x.vals zgH),sc hTx,sb h1,sb h2,si hw] [1,2,3,4,9,26,27,28] 6 kr (ih (i+1) out (by omega) (by first|omega|(have:=hgl x out;omega)))
   ·exact wkr [sb h0,se (zah Rw.cells hx rfl),sc (za6 frs t x.vals zgH),sc hTx,sb h1,sb h2] kr
  ·cases h3:(tr x).fst
   ·cases h4:(tr x).snd != 0
    ·exact wkl [sb h0,se (zah Rw.cells hx rfl),sc (za6 frs t x.vals zgH),sc hTx,sg h1,sb h3,sb h4,si hw] [1,2,3,4,9,26,27,28] 6 kr (ih (i+1) out (by omega) (by first|omega|(have:=hgl x out;omega)))
    ·exact wkr [sb h0,se (zah Rw.cells hx rfl),sc (za6 frs t x.vals zgH),sc hTx,sg h1,sb h3,sb h4] kr
   ·cases h5:(g x out).fst != 0
    ·exact wkl [sb h0,se (zah Rw.cells hx rfl),sc (za6 frs t x.vals zgH),sc hTx,sg h1,sb h3,sl [0,1,2,3] hCx,sb h5,si hw] [1,2,3,4,9,26,27,28] 6 kr (ih (i+1) ((g x out).snd) (by omega) (by first|omega|(have:=hgl x out;omega)))
    ·exact wkr [sb h0,se (zah Rw.cells hx rfl),sc (za6 frs t x.vals zgH),sc hTx,sg h1,sb h3,sl [0,1,2,3] hCx,sb h5] kr
def zn7 (tr:Rw→Bool × Int) (g:Rw→List (List V)→Int × List (List V)) (q:Qy) (frs:List Fr) (tb:List Tb) (t:Tb) (out0:List (List V)):Int × (List (List V)) :=
 selB tr g q frs tb t out0 t.rows 0 (out0)
theorem zg7 (tr:Rw→Bool × Int) (g:Rw→List (List V)→Int × List (List V)) (q:Qy) (frs:List Fr) (tb:List Tb) (t:Tb) (out0:List (List V)) (hfind:Pure S.evaluate_find [tsl tb,sv q.frm] (.tup [t.av,bv true])) (hfr:zad frs) (hrows:t.rows.length≤1000) (hi0:out0.length≤1000) (hgl:∀ (r:Rw) (out:List (List V)),(g r out).2.length≤out.length+1) (hT:∀ r∈t.rows,Pure S.evaluate_True [xsl q.wh,fsl (zav frs t r.vals),tsl tb] (.tup [bv (tr r).1,iv (tr r).2])) (hC:∀ r∈t.rows,∀ (out:List (List V)),out.length≤2000000→zac E0 S.evaluate_Rows_c1 [.agg (Rw.cells r),fsl (zav frs t r.vals),.p 0 0,.p 1 0,.p 3 0] (RH q tb out) (iv (g r out).1) (RH q tb (g r out).2)):zac E0 S.evaluate_selected [q.av,fsl frs,tsl tb,.fn S.evaluate_Rows_c1 [.p 0 0,.p 1 0,.p 3 0]] (RH q tb out0) (iv (zn7 tr g q frs tb t out0).1) (RH q tb (zn7 tr g q frs tb t out0).2):=by
 unfold zn7
 exact wkc At.evaluate_selected [sc hfind,sb (rfl:false=false)] [1,2,3,4,9,26,27,28] 6 kr (zqQ tr g q frs tb t out0 hfr hrows hi0 hgl hT hC t.rows.length 0 out0 (by simp) (by simp))
def ztk (q:Qy) (frs:List Fr) (tb:List Tb) (out0:List (List V)):Int × (List (List V)) :=
 (3,out0)
theorem zg4 (q:Qy) (frs:List Fr) (tb:List Tb) (out0:List (List V)) (hfind:Pure S.evaluate_find [tsl tb,sv q.frm] (.tup [Tb.zero.av,bv false])):zac E0 S.evaluate_selected [q.av,fsl frs,tsl tb,.fn S.evaluate_Rows_c1 [.p 0 0,.p 1 0,.p 3 0]] (RH q tb out0) (iv (ztk q frs tb out0).1) (RH q tb (ztk q frs tb out0).2):=by
 exact wk At.evaluate_selected [sc hfind,sb (rfl:true=true)] kr
noncomputable def ze4 (q:Qy) (frs:List Fr) (tb:List Tb):Cfg:=(upto (mk E0) (List.range 100) 3 3000 ⟨B.evaluate_Rows.ntmps,[.code (B.evaluate_Rows.body.getD .skip)],zb4 0 [q.av,fsl frs,tsl tb],[]⟩ []).2
noncomputable def zvV (q:Qy) (frs:List Fr) (tb:List Tb):Cfg:=cut (List.range 100) 4 ⟨(ze4 q frs tb).n,(ze4 q frs tb).todo,(ze4 q frs tb).ts,((ze4 q frs tb).h++[Blk.row Ty.LValue [] false]).set 2 (.box (([AV.nl]:List AV).set 0 (.own (ze4 q frs tb).h.length 0)))⟩
theorem zu7 {q:Qy} {frs:List Fr} {tb:List Tb} {R:AV→Heap→Prop} (hg:Good E0 B.evaluate_Rows [] (zvV q frs tb) (Shut 0 R)):zb7 E0 S.evaluate_Rows [q.av,fsl frs,tsl tb] [] R :=
 wkc (c':=ze4 q frs tb) At.evaluate_Rows [] (List.range 100) 3 kr
  (ze5 (cs:=[AV.nl]) 2 0 Ty.LValue (List.range 100) 4 kr kr kr rfl hg)
def zd7 (sel:Int × List (List V)):List (List V) × Int:=bif sel.1 != 0 then ([],sel.1) else (sel.2,0)
theorem ztP (sel:Int × List (List V)) (q:Qy) (frs:List Fr) (tb:List Tb) (hsel:zac E0 S.evaluate_selected [q.av,fsl frs,tsl tb,.fn S.evaluate_Rows_c1 [.p 0 0,.p 1 0,.p 3 0]] (RH q tb []) (iv sel.1) (RH q tb sel.2)):zac E0 S.evaluate_Rows [q.av,fsl frs,tsl tb] [] (.tup [.sl ((zd7 sel).1.map vrow),iv (zd7 sel).2]) []:=by
 refine zu7 ?_
 unfold zd7
 cases h1:sel.fst != 0
 ·exact wkr [sqx (sel.2.length=(List.map vrow sel.snd).length∧True∧True),sl [0,2,3,1] hsel,sb h1] kr
 ·exact wkr [sl [0,2,3,1] hsel,sb h1] kr
end Go.AM
namespace Go.AM
set_option maxRecDepth 100000
set_option maxHeartbeats 1000000
set_option linter.unusedSimpArgs false
set_option linter.unusedVariables false
def zcs (f:X→V × Int):List X→Int × List V
 | []=>(0,[])
 | x::r=>bif (f x).2 != 0 then ((f x).2,[]) else bif (zcs f r).1 != 0 then ((zcs f r).1,[]) else (0,(f x).1::(zcs f r).2)
theorem zq0 (f:X→V × Int) (q:Qy) (w:List Fr) (tb:List Tb) (out:List (List V)):∀ (l:List X) (i:Nat) (row:List V),rowL f q w tb out l i row=bif (zcs f l).1 != 0 then ((zcs f l).1,out) else (0,out++[row++(zcs f l).2])
 | [],i,row=>by simp [rowL,zcs]
 | x::r,i,row=>by
  simp only [rowL,zcs,zq0 f q w tb out r]
  cases h:(f x).2 != 0
  ·cases h2:(zcs f r).1 != 0
   ·simp
   ·simp [h2]
  ·simp only [cond_true,h]
def rowV (f:X→V × Int) (q:Qy) (r:Rw):Int × List V:=bif q.star then (0,r.vals) else zcs f q.items
theorem zu2 (f:X→V × Int) (q:Qy) (w:List Fr) (tb:List Tb) (r:Rw) (out:List (List V)):rowC f q w tb r out=bif (rowV f q r).1 != 0 then ((rowV f q r).1,out) else (0,out++[(rowV f q r).2]):=by
 unfold rowC rowV
 cases q.star
 ·simp only [cond_false,zq0,List.nil_append]
 ·rfl
def zcg (tr:Rw→Bool × Int) (rv:Rw→Int × List V):List Rw→List (List V)→Int × List (List V)
 | [],out=>(0,out)
 | r::l,out=>bif (tr r).2 != 0 then ((tr r).2,out) else bif (tr r).1 then (bif (rv r).1 != 0 then ((rv r).1,out) else zcg tr rv l (out++[(rv r).2])) else zcg tr rv l out
theorem zry (tr:Rw→Bool × Int) (rv:Rw→Int × List V) (q:Qy) (frs:List Fr) (tb:List Tb) (t:Tb) (out0:List (List V)):∀ (l:List Rw) (i:Nat) (out:List (List V)),selB tr (fun r out=>bif (rv r).1 != 0 then ((rv r).1,out) else (0,out++[(rv r).2])) q frs tb t out0 l i out=zcg tr rv l out
 | [],_,_=>rfl
 | r::l,i,out=>by
  have ih:=zry tr rv q frs tb t out0 l
  simp only [selB,zcg,ih]
  have h0:((0:Int)==0)=true:=rfl
  cases h1:(tr r).2==0 <;> cases h2:(tr r).1 <;> cases h3:(rv r).1==0 <;> simp only [bne,h0,h1,h2,h3,Bool.not_true,Bool.not_false,cond_true,cond_false]
def zdt (n:Nat) (q:Qy) (frs:List Fr) (tb:List Tb):List (List V) × Int:=match zbU tb q.frm with
 | none=>([],3)
 | some t=>zd7 (zcg (fun r=>zb3 (fun x=>eval n x (zav frs t r.vals) tb) q.wh) (fun r=>rowV (fun x=>eval n x (zav frs t r.vals) tb) q r) t.rows [])
structure QOk (n:Nat) (q:Qy):Prop where
 few:Few q.items
 items:∀ x∈q.items,XOk n x
 wh:∀ x∈q.wh,XOk n x
theorem zst {n:Nat} {q:Qy} {frs:List Fr} {tb:List Tb} (hq:QOk n q) (hfo:FsOk (n+1) frs) (hto:TbOk tb) (hfg:FsG frs) (htg:TbG tb) (hv:∀ x∈tb,∀ r∈x.rows,zad r.vals) :
  Pure S.evaluate_Rows [q.av,fsl frs,tsl tb] (.tup [.sl ((zdt n q frs tb).1.map vrow),iv (zdt n q frs tb).2]):=by
 unfold zdt
 cases hfd:zbU tb q.frm with
 | none=>exact ztP (3,[]) q frs tb (zg4 q frs tb [] (zfJ tb q.frm hto.len hfd))
 | some t =>
  have htm:=zdC hfd
  have hin:∀ r∈t.rows,FsOk n (zav frs t r.vals)∧FsG (zav frs t r.vals):=fun r hr=>⟨hfo.eins (hto.cols t htm) (htg.vals t htm r hr),hfg.ins (htg.vals t htm r hr)⟩
  have h:=zg7 (fun r=>zb3 (fun x=>eval n x (zav frs t r.vals) tb) q.wh) (fun r out=>bif (rowV (fun x=>eval n x (zav frs t r.vals) tb) q r).1 != 0 then ((rowV (fun x=>eval n x (zav frs t r.vals) tb) q r).1,out) else (0,out++[(rowV (fun x=>eval n x (zav frs t r.vals) tb) q r).2])) q frs tb t [] (zfE tb q.frm hto.len t hfd) hfo.short (hto.rows t htm) (by simp)
   (fun r out=>by cases (rowV (fun x=>eval n x (zav frs t r.vals) tb) q r).1 != 0 <;> simp)
   (fun r hr=>zpe (fun x hx=>ze8 n x _ tb (hq.wh x hx) (hin r hr).1 (hin r hr).2 hto htg) (fun x hx=>zcW n x _ tb (hq.wh x hx) (hin r hr).2 htg))
   (fun r hr out hl=>by
    have h:=zjH (fun x=>eval n x (zav frs t r.vals) tb) q (zav frs t r.vals) tb r out hq.few (hv t htm r hr) hl (fun x hx=>ze8 n x _ tb (hq.items x hx) (hin r hr).1 (hin r hr).2 hto htg)
    rw [zu2] at h
    exact h)
  simp only [zn7,zry] at h
  exact ztP _ q frs tb h
end Go.AM
namespace Go.AM
set_option maxRecDepth 100000
set_option maxHeartbeats 1000000
set_option linter.unusedSimpArgs false
set_option linter.unusedVariables false
theorem zmf {p:Prop} (h:p:=by first|assumption|(simp;done)|(simp at *;omega)):p:=h
def cmpB (a b:Str):Int:=Lib.compareBytes a.data.toList b.data.toList
theorem zcZ (a b:Str):zac E0 S.internal_bytealg_abigen_runtime_cmpstring [sv a,sv b] [] (iv (cmpB a b)) []:=by
 intro β S w vs r hp
 obtain ⟨v1,rfl,hp1⟩:=zjq hp
 obtain ⟨v2,rfl,hp2⟩:=zjq hp1
 have h0:v2=[]:=List.eq_nil_of_length_eq_zero (by have:=hp2.1;simpa using this.symm)
 subst h0
 refine .inr ⟨.int .i64 (cmpB a b),w,?_,?_⟩
 ·have h1:=run_callFunc_extern (e:=Extern.BytealgCompare.compare) At.internal_bytealg_abigen_runtime_cmpstring kr kr kr kr #[.string a,.string b] w
  rw [Lib.run_compareString] at h1
  exact h1
 ·exact ⟨_,_,β,S,_,rfl,⟨rfl,rfl⟩,r,Ext.refl _ _ _ _,zbz _ _⟩
def zss (a b:Str):Int :=
 cmpB a b
theorem zek (a b:Str) :zac E0 S.internal_bytealg_CompareString [sv a,sv b] [] (iv (zss a b)) []:=by
 exact wk At.internal_bytealg_CompareString [sc (zcZ a b)] kr
def zsG (a b:Str):Int :=
 zss a b
theorem zkZ (a b:Str) :zac E0 S.strings_Compare [sv a,sv b] [] (iv (zsG a b)) []:=by
 exact wk At.strings_Compare [sc (zek a b)] kr
def rCmp (a b:V):Int :=
 bif a.kind != b.kind then
  bif decide (a.kind < b.kind) then
   -1
  else
   1
 else
  bif a.int != b.int then
   bif decide (a.int < b.int) then
    -1
   else
    1
  else
   zsG a.text b.text
theorem zh2 (a b:V) :zac E0 S.ref1_Compare [a.av,b.av] [] (iv (rCmp a b)) []:=by
 unfold rCmp
 cases h1:a.kind != b.kind
 ·cases h2:a.int != b.int
  ·exact wk At.ref1_Compare [sb h1,sb h2,sc (zkZ a.text b.text)] kr
  ·cases h3:decide (a.int < b.int)
   ·exact wk At.ref1_Compare [sb h1,sb h2,sb h3] kr
   ·exact wk At.ref1_Compare [sb h1,sb h2,sb h3] kr
 ·cases h4:decide (a.kind < b.kind)
  ·exact wk At.ref1_Compare [sb h1,sb h4] kr
  ·exact wk At.ref1_Compare [sb h1,sb h4] kr
noncomputable def zuX (a b:List V) (i:Nat) :Cfg:=zar B.ref1_CompareRows 0 [(0,vsl a),(1,vsl b),(5,iv (i:Nat))] []
def zfF (a b:List V):List (V)→Nat→Int
 | [],i =>
  bif decide ((↑(List.map V.cells a).length:Int) < (↑(List.map V.cells b).length:Int)) then
   -1
  else
   bif decide ((↑(List.map V.cells b).length:Int) < (↑(List.map V.cells a).length:Int)) then
    1
   else
    0
 | x::r,i =>
  bif decide ((i:Int) < (↑(List.map V.cells b).length:Int)) then
   bif rCmp x (zaG b (i:Int)) != 0 then
    rCmp x (zaG b (i:Int))
   else
    zfF a b r (i+1)
  else
   bif decide ((↑(List.map V.cells a).length:Int) < (↑(List.map V.cells b).length:Int)) then
    -1
   else
    bif decide ((↑(List.map V.cells b).length:Int) < (↑(List.map V.cells a).length:Int)) then
     1
    else
     0
theorem zn0 (a b:List V) (ha:zad a) (hb:zad b):∀ (kk i:Nat),i+kk=(a).length→Good E0 B.ref1_CompareRows [] (zuX a b i ) (Shut 0 fun r h=>r=(iv (zfF a b ((a).drop i) i ))∧h=[]):=by
 intro kk
 induction kk with
 | zero =>
  intro i  hi
  have h0:decide (((i:Nat):Int) < (((a.map V.cells).length:Nat):Int))=false:=by simp;omega
  have e0:(a).drop i=[]:=List.drop_of_length_le (by omega)
  rw [e0]
  simp only [zfF]
  refine zaa ?_
  cases h1:decide ((↑(List.map V.cells a).length:Int) < (↑(List.map V.cells b).length:Int))
  ·cases h2:decide ((↑(List.map V.cells b).length:Int) < (↑(List.map V.cells a).length:Int))
   ·exact wkr [sb h0,sb h1,sb h2] kr
   ·exact wkr [sb h0,sb h1,sb h2] kr
  ·exact wkr [sb h0,sb h1] kr
 | succ kk ih =>
  intro i  hi
  obtain ⟨x,hx⟩:=zay (l:=a) (i:=i) (by omega)
  have h0:decide (((i:Nat):Int) < (((a.map V.cells).length:Nat):Int))=true:=by simp;omega
  have hw:=zao i (by first|omega|(simp only [zad,Few] at *;omega))
  rw [zaN hx]
  simp only [zfF]
  refine zaa ?_
  cases h1:decide ((i:Int) < (↑(List.map V.cells b).length:Int))
  ·cases h2:decide ((↑(List.map V.cells a).length:Int) < (↑(List.map V.cells b).length:Int))
   ·cases h3:decide ((↑(List.map V.cells b).length:Int) < (↑(List.map V.cells a).length:Int))
    ·exact wkr [sg h0,sb h1,sb h2,sb h3] kr
    ·exact wkr [sg h0,sb h1,sb h2,sb h3] kr
   ·exact wkr [sg h0,sb h1,sb h2] kr
  ·cases h4:rCmp x (zaG b (i:Int)) != 0
   ·exact wkl [sg h0,sb h1,sd [(2,[se (zah V.cells hx rfl)]),(6,[se (zdX b ((i:Int)) zmf zmf)]),(8,[sc (zh2 x (zaG b (i:Int)))])],sb h4,si hw] [0,1,5] 0 kr (ih (i+1) (by omega) )
   ·exact wkr [sg h0,sb h1,sd [(2,[se (zah V.cells hx rfl)]),(6,[se (zdX b ((i:Int)) zmf zmf)]),(8,[sc (zh2 x (zaG b (i:Int)))])],sb h4] kr
def zfn (a b:List V):Int :=
 zfF a b a (0)
theorem zju (a b:List V) (ha:zad a) (hb:zad b):zac E0 S.ref1_CompareRows [vsl a,vsl b] [] (iv (zfn a b)) []:=by
 unfold zfn
 exact wkc At.ref1_CompareRows [] [0,1,5] 0 kr (zn0 a b ha hb a.length 0 (by simp))
end Go.AM
namespace Go.AM
set_option maxRecDepth 100000
set_option maxHeartbeats 1000000
set_option linter.unusedSimpArgs false
set_option linter.unusedVariables false
noncomputable def zsP (fn:Func) (args:List AV) (h:Heap) (m:Nat):Cfg:=(upto (mk E0) (List.range 40) m 3000 ⟨fn.ntmps,[.code (fn.body.getD .skip)],zb4 0 args,h⟩ []).2
structure Lk where
 fst:Str
 snd:Str
def Lk.cells (l:Lk):List AV:=[sv l.fst,sv l.snd]
abbrev Lk.av (l:Lk):AV:=.agg l.cells
@[simp] theorem Lk.cells_length (x:Lk):x.cells.length=2:=rfl
structure Im where
 trig:Str
 row:Int
 old:List V
 new:List V
def Im.cells (x:Im):List AV:=[sv x.trig,iv x.row,vsl x.old,vsl x.new]
abbrev Im.av (x:Im):AV:=.agg x.cells
@[simp] theorem Im.cells_length (x:Im):x.cells.length=4:=rfl
abbrev zcb (n:Int):List AV:=[iv n]
abbrev Room (l:List Int):Prop:=l.length≤17592186044416
theorem zsC (l:List Col) (hl:zad l):Good E0 B.slices_Clone_Column [] (zdH (zsP B.slices_Clone_Column [.sl (l.map Col.cells)] [] 0) false) (fun r h=>r=.own 0 l.length∧h=[.row Ty.Column (l.map Col.cells) false]) :=
 zik E0ok mix0 3000 (y:=AV.own 0 (List.map Col.cells l).length) (H:=[Blk.row Ty.Column (List.map Col.cells l) false]) [sb (rfl:false=false),sqx (AllLen (List.map Col.cells l) 4∧((List.map Col.cells l).length * 32).le 140737488355328)] kr (⟨by simp,rfl⟩)
theorem zsQ:Good E0 B.slices_Clone_Column [] (zdH (zsP B.slices_Clone_Column [.sl []] [] 0) true) (fun r h=>r=.nl∧h=[]) :=
 zik E0ok mix0 3000 (y:=AV.nl) (H:=[]) [sb (rfl:true=true)] kr (⟨rfl,rfl⟩)
theorem zhX (l:List Col) (hl:zad l):zac E0 S.slices_Clone_Column [.sl (l.map Col.cells)] [] (.own 0 l.length) [.row Ty.Column (l.map Col.cells) false]:=by
 refine zbO At.slices_Clone_Column rfl kr (Nat.le_of_ble_eq_true kr) (zd5 E0ok mix0 3000 [] (List.range 40) 0 (c':=zsP B.slices_Clone_Column [.sl (l.map Col.cells)] [] 0) kr kr (zlo E0ok (xs:=l.map Col.cells) (e:=true) kr fun b hb=>?_))
 cases b with
 | false=>exact zsC l hl
 | true =>
  cases l with
  | nil=>exact zhJ Ty.Column zsQ ⟨rfl,rfl⟩
  | cons x r=>exact absurd (hb (by simp)) (by simp)
def lkIx (l:List Lk) (v:Lk):List (Lk)→Nat→Int
 | [],i =>
  -1
 | x::r,i =>
  bif v.fst==x.fst&&(v.snd==x.snd&&true) then
   (i:Int)
  else
   lkIx l v r (i+1)
def zvb (l:List Lk) (v:Lk):Int :=
 lkIx l v l (0)
def lkHas (l:List Lk) (v:Lk):Bool :=
 decide ((0:Int)≤zvb l v)
def oPrec (l:List Lk) (a b:Str):Bool :=
 lkHas l (Lk.mk a b)
end Go.AM
namespace Go.AM
set_option maxRecDepth 100000
set_option maxHeartbeats 1000000
set_option linter.unusedSimpArgs false
set_option linter.unusedVariables false
def blk (its:List Im) (l:List Lk) (i k:Nat):Bool:=k != i&&match its[k]?,its[i]? with
 | some y,some x=>oPrec l y.trig x.trig
 | _,_=>false
end Go.AM
namespace Go.AM
set_option maxRecDepth 100000
set_option maxHeartbeats 1000000
set_option linter.unusedSimpArgs false
set_option linter.unusedVariables false
def zjv:Se:=⟨⟨#[]⟩,.mk 0 0 false ⟨0,0,⟨#[]⟩⟩ ⟨#[]⟩ ⟨#[]⟩ [] []⟩
def Ac.set0 (a:Ac):Se:=a.sets.headD zjv
theorem zmX {α:Type} (p:α→Bool):∀ (l:List α) (i:Nat),idxF p l i < ((i+l.length:Nat):Int)∨idxF p l i=-1
 | [],i=>.inr rfl
 | x::r,i=>by
  simp only [idxF]
  cases p x
  ·rcases zmX p r (i+1) with h|h
   ·exact .inl (by simp only [List.length_cons];simpa [Nat.add_assoc,Nat.add_comm 1] using h)
   ·exact .inr h
  ·exact .inl (by simp only [List.length_cons,cond_true];omega)
structure NwOk (nw:List V):Prop where
 len:nw.length≤1000
 good:∀ v∈nw,v.Good
theorem NwOk.short {nw:List V} (h:NwOk nw):zad nw:=by have:=h.len;simp only [zad];omega
structure TrOk (n:Nat) (t:Tg):Prop where
 acts:zad t.acts
 sets:∀ a∈t.acts,XOk n a.set0.ex
 when_:∀ x∈t.when_,XOk n x
end Go.AM
namespace Go.AM
set_option maxRecDepth 100000
set_option maxHeartbeats 1000000
set_option linter.unusedSimpArgs false
set_option linter.unusedVariables false
abbrev zb2 (s:Str):List AV:=[sv s]
@[simp] theorem cellsQ_app (a b:List Qy):zaf (a++b)=zaf a++zaf b:=by simp [zdN]
def XSh:Nat→X→Prop
 | 0,_=>False
 | n+1,e=>(zad e.args∧zad e.sub)∧(∀ x∈e.args,XSh n x)∧∀ q∈e.sub,(zad q.items∧zad q.wh)∧(∀ x∈q.items,XSh n x)∧∀ x∈q.wh,XSh n x
theorem XOk.sh:∀ {n:Nat} {e:X},XOk n e→XSh n e
 | 0,_,h=>h.elim
 | _+1,_,⟨_,h2,h3,h4⟩=>⟨⟨h2.1.short,h2.2.short⟩,fun x hx=>(h3 x hx).sh,fun q hq=>⟨⟨(h4 q hq).1.1.short,(h4 q hq).1.2.short⟩,fun x hx=>((h4 q hq).2.1 x hx).sh,fun x hx=>((h4 q hq).2.2 x hx).sh⟩⟩
structure QW (n:Nat) (q:Qy):Prop where
 items:Few q.items
 wh:Few q.wh
 hi:∀ x∈q.items,XOk n x
 hw:∀ x∈q.wh,XOk n x
structure QSh (n:Nat) (q:Qy):Prop where
 items:zad q.items
 wh:zad q.wh
 hi:∀ x∈q.items,XSh n x
 hw:∀ x∈q.wh,XSh n x
theorem QW.sh {n:Nat} {q:Qy} (h:QW n q):QSh n q:=⟨zaQ h.items,zaQ h.wh,fun x hx=>(h.hi x hx).sh,fun x hx=>(h.hw x hx).sh⟩
end Go.AM
namespace Go.AM
set_option maxRecDepth 100000
set_option maxHeartbeats 1000000
set_option linter.unusedSimpArgs false
set_option linter.unusedVariables false
abbrev zaH (r:List X):List AV:=[.sl (zab r)]
structure AcOk (n:Nat) (a:Ac):Prop where
 rows:Few a.rows
 row:∀ r∈a.rows,Few r∧∀ x∈r,XOk n x
 query:Few a.query
 qs:∀ q∈a.query,QW n q
 sets:Few a.sets
 set:∀ s∈a.sets,XOk n s.ex
 wh:Few a.wh
 w:∀ x∈a.wh,XOk n x
structure AcSh (n:Nat) (a:Ac):Prop where
 rows:zad a.rows
 row:∀ r∈a.rows,zad r∧∀ x∈r,XSh n x
 query:zad a.query
 qs:∀ q∈a.query,QSh n q
 sets:zad a.sets
 set:∀ s∈a.sets,XSh n s.ex
 wh:zad a.wh
 w:∀ x∈a.wh,XSh n x
theorem AcOk.sh {n:Nat} {a:Ac} (h:AcOk n a):AcSh n a :=
 ⟨zaQ h.rows,fun r hr=>⟨zaQ (h.row r hr).1,fun x hx=>((h.row r hr).2 x hx).sh⟩,zaQ h.query,fun q hq=>(h.qs q hq).sh,zaQ h.sets,fun s hs=>(h.set s hs).sh,zaQ h.wh,fun x hx=>(h.w x hx).sh⟩
structure TgOk (n:Nat) (t:Tg):Prop where
 of:Few t.of
 prec:Few t.prec
 foll:Few t.foll
 rank:Few t.rank
 whens:Few t.when_
 when_:∀ x∈t.when_,XOk n x
 acts:Few t.acts
 act:∀ a∈t.acts,AcOk n a
structure TgSh (n:Nat) (t:Tg):Prop where
 of:zad t.of
 prec:zad t.prec
 foll:zad t.foll
 rank:zad t.rank
 whens:zad t.when_
 when_:∀ x∈t.when_,XSh n x
 acts:zad t.acts
 act:∀ a∈t.acts,AcSh n a
theorem TgOk.sh {n:Nat} {t:Tg} (h:TgOk n t):TgSh n t :=
 ⟨zaQ h.of,zaQ h.prec,zaQ h.foll,zaQ h.rank,zaQ h.whens,fun x hx=>(h.when_ x hx).sh,zaQ h.acts,fun a ha=>(h.act a ha).sh⟩
end Go.AM
namespace Go.AM
set_option maxRecDepth 100000
set_option maxHeartbeats 1000000
set_option linter.unusedSimpArgs false
set_option linter.unusedVariables false
theorem sH8_2 {p:Prop} (h:p:=by first|assumption|omega|(simp;done)|(simp;omega)):p:=h
noncomputable def L_stIx (l:List Str) (v:Str) (i:Nat) :Cfg:=zar B.slices_Index_string 0 [(0,.sl (l.map zb2)),(1,sv v),(7,iv ((l.map zb2).length:Nat)),(8,iv (i:Nat))] []
def stIx (l:List Str) (v:Str):List (Str)→Nat→Int
 | [],i =>
  -1
 | x::r,i =>
  bif ByteArray.toList v==ByteArray.toList x then
   (i:Int)
  else
   stIx l v r (i+1)
theorem zqj (l:List Str) (v:Str) (hl:zad l):∀ (kk i:Nat),i+kk=(l).length→Good E0 B.slices_Index_string [] (L_stIx l v i ) (Shut 0 fun r h=>r=(iv (stIx l v ((l).drop i) i ))∧h=[]):=by
 intro kk
 induction kk with
 | zero =>
  intro i  hi
  have h0:decide (((i:Nat):Int) < (((l.map zb2).length:Nat):Int))=false:=by simp;omega
  have e0:(l).drop i=[]:=List.drop_of_length_le (by omega)
  rw [e0]
  simp only [stIx]
  refine zaa ?_
  exact wkr [sb h0] kr
 | succ kk ih =>
  intro i  hi
  obtain ⟨x,hx⟩:=zay (l:=l) (i:=i) (by omega)
  have h0:decide (((i:Nat):Int) < (((l.map zb2).length:Nat):Int))=true:=by simp;omega
  have hw:=zao i (by first|omega|(simp only [zad,Few] at *;omega))
  rw [zaN hx]
  simp only [stIx]
  refine zaa ?_
  cases h1:ByteArray.toList v==ByteArray.toList x
  ·exact wkl [sb h0,se (zah zb2 hx rfl),sb h1,si hw] [0,1,7,8] 0 kr (ih (i+1) (by omega) )
  ·exact wkr [sb h0,se (zah zb2 hx rfl),sb h1] kr
def zgn (l:List Str) (v:Str):Int :=
 stIx l v l (0)
theorem zid (l:List Str) (v:Str) (hl:zad l):zac E0 S.slices_Index_string [ssl l,sv v] [] (iv (zgn l v)) []:=by
 unfold zgn
 exact wkc At.slices_Index_string [] [0,1,7,8] 0 kr (zqj l v hl l.length 0 (by simp))
def hasS (l:List Str) (v:Str):Bool :=
 decide ((0:Int)≤zgn l v)
theorem zgL (l:List Str) (v:Str) (hl:zad l):zac E0 S.slices_Contains_string [ssl l,sv v] [] (bv (hasS l v)) []:=by
 exact wk At.slices_Contains_string [sc (zid l v sH8_2)] kr
end Go.AM
namespace Go.AM
set_option maxRecDepth 100000
set_option maxHeartbeats 1000000
set_option linter.unusedSimpArgs false
set_option linter.unusedVariables false
theorem zv1 (l:List Int) (h:(l.take 500).length≤500):Tp.cells ⟨l.take 500,0,h⟩=[.sl (((l.map fun n=>[iv n]).take 500).drop 0),iv 0]:=by simp [Tp.cells,List.map_take]
theorem zp6 (l:List Int):∃ (t:Tp),zac E0 S.world_New [isl l] [] (.p 0 0) [.box t.cells]:=by
 cases h1:decide ((500:Int) < (((l.map fun n=>[iv n]).length:Nat):Int))
 ·exact ⟨⟨l,0,by simp at h1;omega⟩,wkK At.world_New [sb h1] kr⟩
 ·refine ⟨⟨l.take 500,0,by simp;omega⟩,?_⟩
  rw [zv1]
  exact wkK At.world_New [sb h1,sq (show SubAt (l.map fun n=>[iv n]) 0 500 1 from ⟨by decide,by decide,by simpa using Int.le_of_lt (by simpa using h1),by simp⟩)] kr
structure FsT (frs:List Fr):Prop where
 len:frs.length≤900
 rows:∀ f∈frs,zcU f.cols f.vals
 few:∀ f∈frs,Few f.cols
def schT:Sch:=⟨⟨#[116]⟩,[⟨⟨#[105,100]⟩,1,true,true⟩,⟨⟨#[110]⟩,1,false,false⟩,⟨⟨#[98]⟩,2,false,false⟩,⟨⟨#[115]⟩,3,false,false⟩]⟩
theorem zrn:zaA ⟨#[116]⟩=schT:=by kernel_rfl
theorem zu9:SchOk schT:=zgu (by simp [zal,schT])
def zvK (n:Int):V :=
 V.mk 1 n (ByteArray.mk #[])
theorem zcL (n:Int) :zac E0 S.ref1_Number [iv n] [] ((zvK n).av) []:=by
 exact wk At.ref1_Number [] kr
def zpr:Sch:=⟨⟨#[108,111,103]⟩,[⟨⟨#[110]⟩,1,false,false⟩,⟨⟨#[115]⟩,3,false,false⟩]⟩
theorem znJ:zaA ⟨#[108,111,103]⟩=zpr:=by kernel_rfl
end Go.AM
namespace Go.AM
set_option maxRecDepth 100000
set_option maxHeartbeats 1000000
set_option linter.unusedSimpArgs false
set_option linter.unusedVariables false
/- known -/
@[simp] theorem ba_self (s:Str):(s==s)=true:=by
 cases s with
 | mk d =>
  have h:(d==d)=true:=by simp
  exact h
noncomputable def L_eqV (l:List V) (i:Nat) :Cfg:=zar B.slices_Equal_Value 0 [(0,vsl l),(1,vsl l),(12,iv ((l.map V.cells).length:Nat)),(13,iv (i:Nat))] []
theorem zeK (l:List V) (hl:zad l) (i:Nat)  (hi:i≤(l).length) (hI:True):(True)∧(decide ((((l).length:Nat):Int) < (((l.map V.cells).length:Nat):Int))=false)∧∀ R,Good E0 B.slices_Equal_Value [] (L_eqV l (l).length ) R→Good E0 B.slices_Equal_Value [] (L_eqV l i ) R:=by
 obtain ⟨kk,hk⟩:∃ kk,i+kk=(l).length:=⟨(l).length - i,by omega⟩
 induction kk generalizing i  hI with
 | zero =>
  have e0:i=(l).length:=by omega
  subst e0
  exact ⟨hI,by simp,fun R hg=>hg⟩
 | succ kk ih =>
  obtain ⟨x,hx⟩:=zay (l:=l) (i:=i) (by omega)
  have h0:decide (((i:Nat):Int) < (((l.map V.cells).length:Nat):Int))=true:=by simp;omega
  have hw:IntKind.i64.wrap (((i:Nat):Int)+1)=((i+1:Nat):Int):=zao i (by first|omega|(simp only [zad,Few] at *;omega))
  cases h1:!(x.kind==x.kind&&(x.int==x.int&&(x.text==x.text&&true)))
  ·obtain ⟨qZ,xZ,gZ⟩:=ih (i+1) (by omega) (by first|trivial|assumption|(simp;done)|omega|(simp;omega)|(simp at *;omega)) (by omega);exact ⟨qZ,xZ,fun R hg=>zaa (wkl [sb h0,sd [(2,[se (zah V.cells hx rfl)]),(6,[se (zah V.cells hx rfl)]),(8,[sq zbG])],sb h1,si hw] [0,1,12,13] 0 kr (gZ R hg))⟩
  ·exact False.elim (by simp at *)
theorem ziw (l:List V) (hl:zad l):∃ (r:Bool),r=true∧zac E0 S.slices_Equal_Value [vsl l,vsl l] [] (bv r) []:=by
 cases h1:(↑(List.map V.cells l).length:Int) != (↑(List.map V.cells l).length:Int)
 ·obtain ⟨q2,q2_1,g2⟩:=zeK l (by first|assumption|omega|(simp;done)|(simp;omega)) 0 (by first|assumption|omega|(simp;done)|(simp;omega)) (by first|assumption|omega|(simp;done)|(simp;omega))
  exact ⟨true,by first|rfl|(exfalso;simp at *;done),wkc At.slices_Equal_Value [sb h1] [0,1,12,13] 0 kr (g2 _ (zaa (wkr [sb q2_1] kr)))⟩
 ·exact ⟨false,by first|rfl|(exfalso;simp at *;done),wk At.slices_Equal_Value [sb h1] kr⟩
theorem TgOk.tr {n:Nat} {t:Tg} (h:TgOk (n+1) t):TrOk (n+1) t:=by
 refine ⟨zaQ h.acts,fun a ha=>?_,h.when_⟩
 have h1:=(h.act a ha).set
 unfold Ac.set0
 cases hs:a.sets with
 | nil=>exact ⟨zaj,⟨by simp [zjv],by simp [zjv]⟩,fun x hx=>by simp [zjv] at hx,fun q hq=>by simp [zjv] at hq⟩
 | cons x r=>rw [hs] at h1;exact h1 x (by simp)
end Go.AM
namespace Go.AM
set_option maxRecDepth 100000
set_option maxHeartbeats 1000000
set_option linter.unusedSimpArgs false
set_option linter.unusedVariables false
theorem zmg {s:Str} {i:Int} (h:0≤i∧i < ((s.size:Nat):Int)):∃ c:UInt8,ByteAt s i ((c.toNat:Nat):Int):=by
 obtain ⟨n,rfl⟩:=Int.eq_ofNat_of_zero_le h.1
 have hlt:n < s.size:=by omega
 exact ⟨s[n],⟨by omega,by simp [hlt]⟩⟩
abbrev acc (k:Int) (a:Ac):List AV:=[iv k,sv a.table,.sl (a.rows.map zaH),.sl (zaf a.query),.sl (a.sets.map Se.cells),.sl (zab a.wh),sv a.text]
end Go.AM
namespace Go.AM
set_option maxRecDepth 100000
set_option maxHeartbeats 1000000
set_option linter.unusedSimpArgs false
set_option linter.unusedVariables false
def Col.tr (c:Col):Col:=⟨c.name,c.type,false,false⟩
def trTb (n:Str) (s:Sch):Tb:=⟨⟨n,s.cols.map Col.tr⟩,1,[]⟩
end Go.AM
namespace Go.AM
set_option maxRecDepth 100000
set_option maxHeartbeats 1000000
set_option linter.unusedSimpArgs false
set_option linter.unusedVariables false
def AtI {α:Type} (l:List α) (i:Int) (x:α):Prop:=0≤i∧l[i.toNat]?=some x
theorem zit {α:Type} {l:List α} {i:Int} (h:0≤i∧i < ((l.length:Nat):Int)):∃ x,AtI l i x :=
 ⟨l[i.toNat]'(by omega),h.1,List.getElem?_eq_getElem (by omega)⟩
theorem zcF {α:Type} (f:α→List AV) {l:List α} {i:Int} {x:α} (h:AtI l i x) {n:Nat} (hn:(f x).length=n):ElAt (l.map f) i (f x) n :=
 ⟨h.1,by simp [h.2],hn⟩
end Go.AM
namespace Go.AM
set_option maxRecDepth 100000
set_option linter.unusedSimpArgs false
set_option linter.unusedVariables false
def AcSet (a:Ac):Prop:=a.kind=5→∃ s,a.sets=[s]
theorem TbOk.tr {tb:List Tb} {s:Sch} {tr:List Tb} (h:TbOk tb) (hl:tb.length≤1000) (hs:zad s.cols) (ht:tr.length≤2∧∀ x∈tr,∃ n,x=trTb n s):TbOk (tb++tr):=by
 refine ⟨by have:=ht.1;simp only [zad,List.length_append];omega,fun x hx=>?_,fun x hx=>?_,fun x hx=>?_⟩ <;> rcases List.mem_append.mp hx with hx|hx
 ·exact h.cols x hx
 ·obtain ⟨n,rfl⟩:=ht.2 x hx
  simpa [trTb] using hs
 ·exact h.rows x hx
 ·obtain ⟨n,rfl⟩:=ht.2 x hx
  simp [trTb]
 ·exact h.vals x hx
 ·obtain ⟨n,rfl⟩:=ht.2 x hx
  intro r hr
  cases hr
end Go.AM
namespace Go.AM
open Go.RowKit
set_option linter.unusedSimpArgs false
set_option linter.unusedVariables false
theorem zpP {xs:List Value} {s:Shp} (h:xs.map shp=[s]):∃ x,xs=[x]∧shp x=s:=by
 cases xs with
 | nil=>simp at h
 | cons x r =>
  cases r with
  | nil=>simp at h;exact ⟨x,rfl,h⟩
  | cons _ _=>simp at h
theorem znd {d:TypeDesc} {k:Value} (hs:∀ (y:Value) (r:Bool),zc4 k y=some r→Instr.sameNow d k y=some r):∀ (l:List MapEntry) (rs:List Bool) (n:Nat),rs.length=l.length →
  (∀ (i:Nat) (e:MapEntry) (r:Bool),l[i]?=some e→rs[i]?=some r→∃ ys,e.key=keyV false ys∧zbi [k] ys=some r)→Instr.findNow d k l n=some (zeb l rs n)
 | [],[],_,_,_=>rfl
 | [],_::_,_,h,_=>by simp at h
 | _::_,[],_,h,_=>by simp at h
 | e::l,r::rs,n,hl,hall=>by
  obtain ⟨ys,h1,h2⟩:=hall 0 e r rfl rfl
  have h3:Instr.sameNow d k e.key=some r:=by
   cases ys with
   | nil=>simp [zbi] at h2
   | cons y ys =>
    simp only [zbi] at h2
    split at h2
    ·rename_i a b q1 q2
     cases ys with
     | cons _ _=>simp [zbi] at q2
     | nil =>
      simp [zbi] at q2
      subst q2
      simp only [Bool.and_true,Option.some.injEq] at h2
      subst h2
      rw [h1]
      exact hs _ _ q1
    ·cases h2
  have ih:=znd hs l rs (n+1) (by simpa using hl) (fun i e r hi hr=>hall (i+1) e r (by simpa using hi) (by simpa using hr))
  unfold Instr.findNow
  rw [h3]
  cases r
  ·exact ih
  ·rfl
theorem ztn {P:Program} {t kt et:TypeId} {ik:IntKind} (hu:P.underlying t=some (.map kt et)) (hk:P.underlying kt=some (.int ik)) (n:Int):KeyOK P t (.v (.int ik n)):=by
 refine ⟨⟨false,[.int ik n],rfl,⟨⟨kt,et,hu,fun e w xs hx=>?_,fun w xs l rs hx hl hall=>?_⟩⟩⟩⟩
 ·obtain ⟨x,rfl,h⟩:=zpP hx
  obtain ⟨a,rfl⟩:=zre h
  exact MapKept.run_checkKey hk (by simp [MapKept.IsKey,keyV]) e 9999
 ·obtain ⟨x,rfl,h⟩:=zpP hx
  obtain ⟨a,rfl⟩:=zre h
  refine MapKept.run_findKey hk (znd (fun y r hy=>?_) l rs 0 hl hall)
  simp only [keyV,List.headD_cons] at hy ⊢
  cases y <;> simp [zc4] at hy
  obtain ⟨rfl,rfl⟩:=hy
  simp [Instr.sameNow]
theorem zla {E:Env0} (ht:zaL E) (em:Bool) (d:Nat) (w:World):∀ (fs:List Field) (px xs:List Value),flat E.T px.length fs (xs.map shp)=true →
  (forIn (m:=Sem) fs () fun f _=>do
   if f.name ≠ "_" then Instr.checkKey em (d + 1) f.type (← part f.type (px ++ xs).toArray f.offset)
   pure (ForInStep.yield ())).run E.P w=.ok () w
 | [],px,xs,hf=>by simp
 | f::fs,px,[],hf=>by simp [flat] at hf
 | f::fs,px,x::xs,hf=>by
  simp only [List.map_cons,flat,Bool.and_eq_true,bne_iff_ne] at hf
  obtain ⟨⟨⟨hn,ho⟩,hs⟩,hrest⟩:=hf
  have ho:=Nat.eq_of_beq_eq_true ho
  obtain ⟨hsz,hagg,hne⟩:=zms hs
  obtain ⟨i,dd,z,tok⟩:=ht.at_ hne
  have p1:=zgE tok w (px++x::xs) f.offset (by rw [hsz,ho];simp)
  rw [hsz,ho] at p1
  simp only [List.drop_left,List.take_succ_cons,List.take_zero,zeE,hagg,List.headD_cons] at p1
  have p2:(Instr.checkKey em (d+1) f.type x).run E.P w=.ok () w:=by
   cases x <;> simp [shp,zkB] at hs
   all_goals
    split at hs
    ·rename_i hk
     first
     | (have:=tok.bool_ hk;subst this;exact MapKept.run_checkKey tok.und (by simp [MapKept.IsKey]) em d)
     | (have:=tok.int_ hk;subst this;unfold Instr.checkKey;simp [run_underlying tok.und])
     | (have:=tok.str_ hk;subst this;exact MapKept.run_checkKey tok.und (by simp [MapKept.IsKey]) em d)
    ·cases hs
  have ih:=zla ht em d w fs (px++[x]) xs (by simpa using hrest)
  simp only [List.append_assoc,List.singleton_append] at ih
  simp only [List.forIn_cons,Sem.run_bind,hn,ne_eq,not_false_eq_true,if_true,ho,p1,p2,Result.andThen_ok,Sem.run_pure]
  exact ih
theorem zkm {P:Program} {kt:TypeId} {ss:List Shp} (hq:StructEq P kt ss) (w:World) {xs:List Value} (hx:xs.map shp=ss):∀ (l:List MapEntry) (rs:List Bool) (n:Nat),rs.length=l.length →
  (∀ (i:Nat) (e:MapEntry) (r:Bool),l[i]?=some e→rs[i]?=some r→∃ ys,e.key=keyV true ys∧zbi xs ys=some r)→(Instr.findAsking kt (.agg xs.toArray) l n).run P w=.ok (zeb l rs n) w
 | [],[],_,_,_=>by simp [Instr.findAsking,zeb]
 | [],_::_,_,h,_=>by simp at h
 | _::_,[],_,h,_=>by simp at h
 | e::l,r::rs,n,hl,hall=>by
  obtain ⟨ys,h1,h2⟩:=hall 0 e r rfl rfl
  have ih:=zkm hq w hx l rs (n+1) (by simpa using hl) (fun i e r hi hr=>hall (i+1) e r (by simpa using hi) (by simpa using hr))
  have h3:=hq.eq w xs ys r hx h2
  simp only [Instr.findAsking,Sem.run_bind,h1,keyV,h3,Result.andThen_ok]
  cases r
  ·simpa [zeb] using ih
  ·simp [zeb]
theorem zpq {E:Env0} (ht:zaL E) {t kt et:TypeId} {fs:Array Field} {ss:List Shp} (hu:E.P.underlying t=some (.map kt et)) (hk:E.P.underlying kt=some (.struct fs)) (hf:flat E.T 0 fs.toList ss=true) (hq:StructEq E.P kt ss) {cs:List AV} {xs:List Value}
  (hc:zee cs=some xs) (hs:xs.map shp=ss):KeyOK E.P t (.agg cs):=by
 refine ⟨⟨true,xs,by simp [zcf,hc],⟨⟨kt,et,hu,fun e w us hx=>?_,fun w us l rs hx hl hall=>?_⟩⟩⟩⟩
 ·have h1:=zla ht e 9998 w fs.toList [] us (by rw [hx,hs];exact hf)
  simp only [List.nil_append] at h1
  show (Instr.checkKey e 10000 kt (.agg us.toArray)).run E.P w=.ok () w
  unfold Instr.checkKey
  simp only [Sem.run_bind,run_underlying hk,Result.andThen_ok]
  rw [← Array.forIn_toList]
  have h2:∀ r:Result Unit,r=.ok () w→(r.andThen fun a w'=>(pure ():Sem Unit).run E.P w')=.ok () w:=by
   rintro _ rfl
   rfl
  exact h2 _ h1
 ·show (Instr.findKey kt (.agg us.toArray) l).run E.P w=_
  rw [run_findKey_eq w (by rw [hk]) _ l]
  exact zkm hq w (by rw [hx,hs]) l rs 0 hl hall
end Go.AM
namespace Go.AM
open Go.RowKit
set_option linter.unusedSimpArgs false
set_option linter.unusedVariables false
def zor (E:Env0) (h0:Heap) (β0:List Con) (S0:Addr→Prop) (w0:World) (fn:Func) (RR:Ending→World→Prop) (c:Cfg):Prop :=
 ∀ (β:List Con) (S:Addr→Prop) (w:World) (tmps:Array Value),tmps.size=c.n→Ext h0 β0 S0 w0 c.h β S w→Rel E c.h β S w→zaJ E.T c.h β w S c.ts tmps→kont E.P c.todo (bodyPost E.P fn RR) .normal ⟨tmps,[]⟩ w
theorem zpi {E:Env0} (ht:zaL E) (hm:E.P.follows .mixedOrders=true) {h0:Heap} {β0:List Con} {S0:Addr→Prop} {w0:World} {fn:Func} {RR:Ending→World→Prop} {c c':Cfg} {os os':List Orc} {q:Option Prop} (hs:step (mk E) c os=some (q,c',os')) (hq:zaq q) (hg:zor E h0 β0 S0 w0 fn RR c'):zor E h0 β0 S0 w0 fn RR c:=by
 intro β S w tmps hn x0 r rt
 obtain ⟨n,todo,ts,h⟩:=c
 simp only at hn x0 r rt ⊢
 unfold step at hs
 simp only at hs
 cases todo with
 | nil=>cases hs
 | cons it k =>
  cases it with
  | blk id =>
   simp only [Option.some.injEq,Prod.mk.injEq] at hs
   obtain ⟨_,rfl,_⟩:=hs
   exact hg β S w tmps hn x0 r rt
  | lp cc=>cases hs
  | ops all rest =>
   cases rest with
   | nil =>
    simp only [Option.some.injEq,Prod.mk.injEq] at hs
    obtain ⟨_,rfl,_⟩:=hs
    exact hg β S w tmps hn x0 r rt
   | cons o rest =>
    simp only at hs
    split at hs
    ·rename_i x hdst hx
     simp only [Option.some.injEq,Prod.mk.injEq] at hs
     obtain ⟨rfl,rfl,_⟩:=hs
     have hd:zaT tmps.size o.dst=true:=by rw [hn];exact hdst
     simp only [kont,Exit.then]
     refine wpList_step fun K hK=>?_
     have:=zpu (Q:=kont E.P k (bodyPost E.P fn RR)) (K:=K) ht r rt hd hx hq ⟨fun β' S' w' tmps' hsz r' e' rt'=>hK _ _ ?_⟩
     ·exact this
     ·have:=hg β' S' w' tmps' (by rw [hsz];exact hn) (x0.trans e') r' rt'
      simp only [kont,Exit.then] at this
      exact this
    ·cases hs
  | code cc =>
   simp only [kont,Exit.then]
   cases cc with
   | skip =>
    simp only [Option.some.injEq,Prod.mk.injEq] at hs
    obtain ⟨_,rfl,_⟩:=hs
    exact wp_skip (hg β S w tmps hn x0 r rt)
   | label l =>
    simp only [Option.some.injEq,Prod.mk.injEq] at hs
    obtain ⟨_,rfl,_⟩:=hs
    exact wp_label (hg β S w tmps hn x0 r rt)
   | scope a =>
    simp only [Option.some.injEq,Prod.mk.injEq] at hs
    obtain ⟨_,rfl,_⟩:=hs
    refine wp_scope_straight (wp_mono (hg β S w tmps hn x0 r rt) fun e a w he=>?_)
    cases e with
    | goto l=>exact zep k l a w he
    | _=>exact he
   | loop a =>
    simp only [Option.some.injEq,Prod.mk.injEq] at hs
    obtain ⟨_,rfl,_⟩:=hs
    exact zmm (hg β S w tmps hn x0 r rt)
   | seq a b =>
    simp only [Option.some.injEq,Prod.mk.injEq] at hs
    obtain ⟨_,rfl,_⟩:=hs
    refine wp_seq (wp_mono (hg β S w tmps hn x0 r rt) fun e a w he=>?_)
    cases e <;> exact he
   | block id a =>
    simp only [Option.some.injEq,Prod.mk.injEq] at hs
    obtain ⟨_,rfl,_⟩:=hs
    refine wp_block (wp_mono (hg β S w tmps hn x0 r rt) fun e a w he=>?_)
    cases e <;> exact he
   | region id ops draw =>
    cases draw with
    | true =>
     simp only at hs
     split at hs
     ·rename_i l os1
      split at hs
      ·rename_i qs ts1 h1 hlv hsz
       simp only [Option.some.injEq,Prod.mk.injEq] at hs
       obtain ⟨rfl,rfl,_⟩:=hs
       simp only [zaq] at hq
       exact zrw ht hm (Nat.eq_of_beq_eq_true hsz) hlv hq hn x0 r rt (fun β' S' w' tmps' hn' x' r' rt'=>hg β' S' w' tmps' hn' x' r' rt')
      ·cases hs
     ·cases hs
    | false =>
     simp only [Option.some.injEq,Prod.mk.injEq] at hs
     obtain ⟨_,rfl,_⟩:=hs
     have:=hg β S w tmps hn x0 r rt
     simp only [kont,Exit.then] at this
     exact wp_region_list this
   | exit id =>
    simp only at hs
    split at hs
    ·rename_i k' hk
     simp only [Option.some.injEq,Prod.mk.injEq] at hs
     obtain ⟨_,rfl,_⟩:=hs
     exact wp_exit (zem k k' _ _ hk (hg β S w tmps hn x0 r rt))
    ·cases hs
   | cond x a b =>
    have hx:=zaY (ds:=[]) r rt x
    have lit:∀ bb,Act.eval ⟨tmps,[]⟩ x=.bool bb→zaJ E.T h β w S (zoq ts bb x) tmps:=by
     intro bb he
     cases x with
     | tmp d=>exact rt.lit he
     | _=>exact rt
    simp only at hs
    split at hs
    ·rename_i he
     simp only [mk_G] at he
     rw [he] at hx
     simp only [Option.some.injEq,Prod.mk.injEq] at hs
     obtain ⟨_,rfl,_⟩:=hs
     exact wp_cond_true hx.bl_inv (hg β S w tmps hn x0 r rt)
    ·rename_i he
     simp only [mk_G] at he
     rw [he] at hx
     simp only [Option.some.injEq,Prod.mk.injEq] at hs
     obtain ⟨_,rfl,_⟩:=hs
     exact wp_cond_false hx.bl_inv (hg β S w tmps hn x0 r rt)
    ·rename_i t he
     simp only [mk_G] at he
     rw [he] at hx
     split at hs
     ·simp only [Option.some.injEq,Prod.mk.injEq] at hs
      obtain ⟨rfl,rfl,_⟩:=hs
      simp only [zaq] at hq
      subst hq
      exact wp_cond_true hx.v_inv (hg β S w tmps hn x0 r (lit _ hx.v_inv))
     ·simp only [Option.some.injEq,Prod.mk.injEq] at hs
      obtain ⟨rfl,rfl,_⟩:=hs
      simp only [zaq] at hq
      subst hq
      exact wp_cond_false hx.v_inv (hg β S w tmps hn x0 r (lit _ hx.v_inv))
     ·cases hs
    ·cases hs
   | _=>cases hs
theorem zmO {E:Env0} (ht:zaL E) (hm:E.P.follows .mixedOrders=true) {h0:Heap} {β0:List Con} {S0:Addr→Prop} {w0:World} {fn:Func} {RR:Ending→World→Prop}:∀ (n:Nat) (c:Cfg) (os:List Orc),allP (run (mk E) n c os).1→zor E h0 β0 S0 w0 fn RR (run (mk E) n c os).2.1→zor E h0 β0 S0 w0 fn RR c
 | 0,c,os,_,hg=>hg
 | n+1,c,os,hq,hg=>by
  unfold run at hq hg
  cases hs:step (mk E) c os with
  | none=>simp only [hs] at hg;exact hg
  | some x =>
   obtain ⟨q,c',os'⟩:=x
   cases q with
   | none =>
    simp only [hs] at hq hg
    exact zpi ht hm hs trivial (zmO ht hm n c' os' hq hg)
   | some q =>
    simp only [hs] at hq hg
    obtain ⟨h1,h2⟩:=zj3 hq
    exact zpi ht hm hs h1 (zmO ht hm n c' os' h2 hg)
structure Foreign (gs:List Nat) (β:List Con) (S:Addr→Prop) (w0 w:World):Prop where
 new:∀ g∈gs,w0.heap.size≤g
 lt:∀ g∈gs,g < w.heap.size
 apart:∀ g∈gs,∀ (b:Nat) (k:Con),β[b]?=some k→k.blk≠some g
 sep:∀ g∈gs,∀ a,S a→a.block≠g
theorem Foreign.ext {gs:List Nat} {h h':Heap} {β β':List Con} {S S':Addr→Prop} {w0 w w':World} (f:Foreign gs β S w0 w) (x:Ext h β S w h' β' S' w'):Foreign gs β' S' w0 w'∧∀ g∈gs,w'.heap[g]?=w.heap[g]? :=
 ⟨⟨f.new,fun g hg=>Nat.lt_of_lt_of_le (f.lt g hg) x.size,fun g hg b k hb hk=>by
  rcases x.new b k g hb hk with ⟨b',k',h1,h2,_⟩|h1
  ·exact f.apart g hg b' k' h1 h2
  ·have:=f.lt g hg;omega,fun g hg a ha he=>by
  rcases x.S_new a ha with h1|h1|⟨b,k,h1,h2⟩
  ·exact f.sep g hg a h1 he
  ·have:=f.lt g hg;omega
  ·exact f.apart g hg b k h1 (by rw [h2,he])⟩,fun g hg=>x.keep g (f.lt g hg) (f.apart g hg)⟩
def zbP (E:Env0) (fn:Func) (h0:Heap) (gs:List Nat) (F:(Addr→Prop)→World→Prop) (c:Cfg) (R:AV→Heap→Prop):Prop :=
 ∀ (β0:List Con) (S0:Addr→Prop) (w0:World) (β:List Con) (S:Addr→Prop) (w:World) (tmps:Array Value),β0.length=h0.length→tmps.size=c.n→Ext h0 β0 S0 w0 c.h β S w→Rel E c.h β S w→zaJ E.T c.h β w S c.ts tmps→Foreign gs β S w0 w→F S w →
  kont E.P c.todo (bodyPost E.P fn (Post E h0 β0 S0 w0 R)) .normal ⟨tmps,[]⟩ w
def Only (gs:List Nat) (F:(Addr→Prop)→World→Prop):Prop:=∀ (S S':Addr→Prop) (w w':World),(∀ a,S a→S' a)→(∀ a,S a→w'.cell? a=w.cell? a)→(∀ g∈gs,w'.heap[g]?=w.heap[g]?)→F S w→F S' w'
theorem zpb {E:Env0} {fn:Func} {h0:Heap} {gs:List Nat} {F:(Addr→Prop)→World→Prop} {c:Cfg} {R:AV→Heap→Prop} (hg:Good E fn h0 c R):zbP E fn h0 gs F c R :=
 fun β0 S0 w0 β S w tmps hb hn x r rt _ _=>hg β0 S0 w0 β S w tmps hb hn x r rt
theorem zjp {E:Env0} (ht:zaL E) (hm:E.P.follows .mixedOrders=true) {fn:Func} {h0:Heap} {gs:List Nat} {F:(Addr→Prop)→World→Prop} (hF:Only gs F) {R:AV→Heap→Prop} (n:Nat) {c:Cfg} (os:List Orc) (hq:allP (run (mk E) n c os).1) (hg:zbP E fn h0 gs F (run (mk E) n c os).2.1 R):zbP E fn h0 gs F c R :=
 fun β0 S0 w0 β S w tmps hb hn x r rt hf hw=>zmO ht hm (h0:=c.h) (β0:=β) (S0:=S) (w0:=w) n c os hq (fun β' S' w' tmps' hn' x' r' rt' =>
  hg β0 S0 w0 β' S' w' tmps' hb hn' (x.trans x') r' rt' (hf.ext x').1 (hF S S' w w' x'.S_le x'.S_cell (hf.ext x').2 hw)) β S w tmps hn (Ext.refl _ _ _ _) r rt
theorem zs4 {E:Env0} {fn:Func} {R:AV→Heap→Prop} {h0:Heap} {gs:List Nat} {F:(Addr→Prop)→World→Prop} {c:Cfg} (live:List Nat) (m:Nat) (hm:h0.length≤m) (hg:zbP E fn h0 gs F (cut live m c) R):zbP E fn h0 gs F c R:=by
 intro β0 S0 w0 β S w tmps hb0 hn x0 r rt hf hw
 obtain ⟨r1,hv⟩:=r.first m
 refine hg β0 S0 w0 (β.take m) S w tmps hb0 hn (x0.first r hm hb0) r1 (fun t=>?_) ⟨hf.new,hf.lt,fun g hg b k hb=>?_,hf.sep⟩ hw
 ·rcases zhh m c.ts live t with h1|h1
  ·simp only [cut];rw [h1];exact .d _ _ (.un _)
  ·simp only [cut];rw [h1];exact hv _ _ (rt t)
 ·rw [List.getElem?_take] at hb
  split at hb
  ·exact hf.apart g hg b k hb
  ·cases hb
theorem zu0 {E:Env0} (ht:zaL E) (hmix:E.P.follows .mixedOrders=true) {fn:Func} {R:AV→Heap→Prop} {h0:Heap} {gs:List Nat} {F:(Addr→Prop)→World→Prop} (hF:Only gs F) {c c':Cfg} (n:Nat) (os:List Orc) (live:List Nat) (m:Nat) {q:List Prop}
  (hm:Nat.ble h0.length m=true) (hq0:(run (mk E) n c os).1=q) (hc:cut live m (run (mk E) n c os).2.1=c') (hq:allP q) (hg:zbP E fn h0 gs F c' R):zbP E fn h0 gs F c R:=by
 subst hq0
 subst hc
 exact zjp ht hmix hF n os hq (zs4 live m (Nat.le_of_ble_eq_true hm) hg)
structure Touch (g:Nat) (w w':World):Prop where
 os:w'.os=w.os
 tape:w'.tape=w.tape
 output:w'.output=w.output
 size:w'.heap.size=w.heap.size
 other:∀ b,b≠g→w'.heap[b]?=w.heap[b]?
theorem Touch.cell {g:Nat} {w w':World} (t:Touch g w w') {a:Addr} (ha:a.block≠g):w'.cell? a=w.cell? a:=World.cell?_of_block (t.other a.block ha)
theorem Ext.touch {h0 h:Heap} {β0 β:List Con} {S0 S:Addr→Prop} {w0 w w':World} {gs:List Nat} {g:Nat} (x:Ext h0 β0 S0 w0 h β S w) (t:Touch g w w') (f:Foreign gs β S w0 w) (hg:g∈gs):Ext h0 β0 S0 w0 h β S w' where
 box:=x.box
 con:=x.con
 row:=x.row
 mp:=x.mp
 conm:=x.conm
 S_le:=x.S_le
 S_cell:=fun a ha=>(t.cell (f.sep g hg a (x.S_le a ha))).trans (x.S_cell a ha)
 S_new:=x.S_new
 os:=t.os.trans x.os
 tape:=t.tape.trans x.tape
 output:=t.output.trans x.output
 size:=by rw [t.size];exact x.size
 keep:=fun b hb hne=>(t.other b (by have:=f.new g hg;omega)).trans (x.keep b hb hne)
 new:=x.new
theorem RelV.cells {T:TypeId→TI} {h:Heap} {β:List Con} {S:Addr→Prop} {w w':World} (hc:∀ a,S a→w'.cell? a=w.cell? a) {x:AV} {y:Value} (hr:RelV T h β w S x y):RelV T h β w' S x y:=by
 induction hr with
 | d x y hd=>exact .d x y (hd.mono (fun _ h=>h) hc)
 | agg cs vs hl ho _ ih=>exact .agg cs vs hl ho ih
 | tup cs vs hl _ ih=>exact .tup cs vs hl ih
 | nl a=>exact .nl a
 | p b off g hb=>exact .p b off g hb
 | own b n y e xs sh hb hn hy ho=>exact .own b n y e xs sh hb hn hy ho
 | ep b n i off g e xs sh hb hn hy=>exact .ep b n i off g e xs sh hb hn hy
 | os b n lo hi y e xs sh hb hn hl hh ho hy=>exact .os b n lo hi y e xs sh hb hn hl hh ho hy
 | fn f caps vs hl _ ih=>exact .fn f caps vs hl ih
 | mp b g hb=>exact .mp b g hb
theorem Rel.touch {E:Env0} {h:Heap} {β:List Con} {S:Addr→Prop} {w0 w w':World} {gs:List Nat} {g:Nat} (r:Rel E h β S w) (t:Touch g w w') (f:Foreign gs β S w0 w) (hg:g∈gs):Rel E h β S w' where
 len:=r.len
 box:=fun b cs hb=>by
  obtain ⟨q,vs,ty,h1,h2,h3,h4⟩:=r.box b cs hb
  exact ⟨q,vs,ty,h1,(t.other q fun e=>f.apart g hg b _ h1 (by rw [← e];rfl)).trans h2,h3,fun i x y hx hy=>⟨(h4 i x y hx hy).1.cells fun a ha=>t.cell (f.sep g hg a ha),(h4 i x y hx hy).2⟩⟩
 row:=fun b e xs sh hb=>by
  obtain ⟨k,h1,h2⟩:=r.row b e xs sh hb
  exact ⟨k,h1,h2.ext (fun _ h=>h) (fun a ha=>t.cell (f.sep g hg a ha)) fun q hq=>t.other q fun e=>f.apart g hg b k h1 (by rw [hq,e])⟩
 mp:=fun b es hb=>by
  obtain ⟨k,h1,h2⟩:=r.mp b es hb
  exact ⟨k,h1,h2.ext (fun _ h=>h) (fun a ha=>t.cell (f.sep g hg a ha)) (t.other k fun e=>f.apart g hg b _ h1 (by rw [← e];rfl))⟩
 apart:=r.apart
 lt:=fun b k q h1 h2=>by rw [t.size];exact r.lt b k q h1 h2
 stable:=fun a ha=>by rw [t.size];exact r.stable a ha
 free:=r.free
 glob:=fun q cs hq=>(r.glob q cs hq).mono (fun _ h=>h) fun a ha=>t.cell (f.sep g hg a ha)
theorem zaJ.touch {E:Env0} {h:Heap} {β:List Con} {S:Addr→Prop} {w0 w w':World} {gs:List Nat} {g:Nat} {ts:TS} {tmps:Array Value} (rt:zaJ E.T h β w S ts tmps) (t:Touch g w w') (f:Foreign gs β S w0 w) (hg:g∈gs):zaJ E.T h β w' S ts tmps :=
 fun q=>(rt q).cells fun a ha=>t.cell (f.sep g hg a ha)
theorem Foreign.touch {gs:List Nat} {β:List Con} {S:Addr→Prop} {w0 w w':World} {g:Nat} (f:Foreign gs β S w0 w) (t:Touch g w w'):Foreign gs β S w0 w':=⟨f.new,fun q hq=>by rw [t.size];exact f.lt q hq,f.apart,f.sep⟩
/-! ### 'for k, v := range m' -/
def zhc (L:List (AV × AV)) (seen:Array Nat):List (AV × AV):=((List.range L.length).filter fun i=>!seen.contains i).filterMap fun i=>L[i]?
def ItF (gm gi:Nat) (l:List (AV × AV)) (cur:Option (AV × AV)) (S:Addr→Prop) (w:World):Prop:=∃ (L:List (AV × AV)) (ents:Array MapEntry) (seen:Array Nat) (c0:Nat),
 w.heap[gm]?=some (.map ents L.length)∧ents.size=L.length∧(∀ (i:Nat) (k x:AV),L[i]?=some (k,x)→∃ (kv xv:Value),ents[i]?=some ⟨kv,xv,i⟩∧RelD w S k kv∧RelD w S x xv) ∧
 w.heap[gi]?=some (.mapIter (some gm) L.length seen c0)∧L.length≤c0∧l.Perm (zhc L seen) ∧
 ∀ p,cur=some p→∃ (s':Array Nat) (i:Nat),seen=s'.push i∧L[i]?=some p∧c0=L.length
theorem zlv (gm gi:Nat) (l:List (AV × AV)) (cur:Option (AV × AV)):Only [gm,gi] (ItF gm gi l cur):=by
 intro S S' w w' hS hc hg ⟨L,ents,seen,c0,h1,h2,h3,h4,h5,h6,h7⟩
 exact ⟨L,ents,seen,c0,(hg gm (by simp)).trans h1,h2,fun i k x hi=>by
  obtain ⟨kv,xv,a1,a2,a3⟩:=h3 i k x hi
  exact ⟨kv,xv,a1,a2.mono hS hc,a3.mono hS hc⟩,(hg gi (by simp)).trans h4,h5,h6,h7⟩
theorem zmc {α:Type} (L:List α):∀ n:Nat,(List.range n).filterMap (fun i=>L[i]?)=L.take n
 | 0=>by simp
 | n+1=>by
  rw [List.range_succ,List.filterMap_append,zmc L n,List.take_add_one]
  congr 1
theorem zsL (L:List (AV × AV)):zhc L #[]=L:=by
 unfold zhc
 have:(List.range L.length).filter (fun i=>!(#[]:Array Nat).contains i)=List.range L.length:=by simp
 rw [this,zmc,List.take_length]
theorem zrZ {E:Env0} {fn:Func} {h0 h:Heap} {all r:List Oper} {o:Oper} {k:List It} {n:Nat} {ts:TS} {R:AV→Heap→Prop} {t kt et:TypeId} {tm b d:Nat} {es:List (AV × AV)} (live:List Nat) (hop:o.op=.range t (.tmp tm)) (hgd:o.guard=none) (hd:o.dst=some d) (hdn:d < n)
  (ht:E.P.underlying t=some (.map kt et)) (hm:look ts tm=.mp b) (hb:h[b]?=some (.mp es)) (hb0:Nat.ble h0.length b=true)
  (H:∀ gm gi,zbP E fn h0 [gm,gi] (ItF gm gi es none) ⟨n,.ops all r::k,(d,.v (.pointer (some ⟨gi,0,none⟩)))::mask live b ts,(h.take b).map (zbr (zck b))⟩ R):Good E fn h0 ⟨n,.ops all (o::r)::k,ts,h⟩ R:=by
 intro β0 S0 w0 β S w tmps hβ hn x0 r0 rt
 have hb0:=Nat.le_of_ble_eq_true hb0
 simp only at hn x0 r0 rt
 obtain ⟨gm,c1,L,ents,c2,c3,c4,c5⟩:=r0.mp b es hb
 have hmv:=rt tm
 rw [hm] at hmv
 generalize hev:tmps.getD tm undef=mv at hmv
 cases hmv with
 | d _ _ hd=>cases hd
 | mp _ g' c1' =>
 rw [c1] at c1'
 cases c1'
 have hgl:gm < w.heap.size:=r0.lt b _ gm c1 rfl
 have hbl:Below w.heap.size w (w.alloc (.mapIter (some gm) L.length #[] L.length)):=(Below.refl _ _).alloc (Nat.le_refl _) _
 have x1:Ext h β S w h β S (w.alloc (.mapIter (some gm) L.length #[] L.length)):=Ext.grow r0 hbl (fun _ h=>h) (fun _ h=>.inl h)
 have r1:Rel E h β S (w.alloc (.mapIter (some gm) L.length #[] L.length)):=r0.grow hbl (fun _ h=>h) (fun _ h=>.inl h)
 obtain ⟨r2,hv2⟩:=r1.first b
 have hno:∀ a,S a→a.block≠gm:=by
  intro a ha hag
  obtain ⟨e,xs,h1,_⟩:=r0.free b _ gm a c1 rfl ha hag
  rw [hb] at h1
  cases h1
 simp only [kont,Exit.then]
 refine wpList_step fun K hK=>?_
 show wpG E.P all.toArray o ⟨tmps,[]⟩ w K _
 unfold wpG
 rw [if_pos (by simp [Region.wanted,hgd])]
 unfold Oper.wp
 have hrun:(execOp (Act.eval ⟨tmps,[]⟩) o).run E.P w=.ok (.value (.pointer (some ⟨w.heap.size,0,none⟩))) (w.alloc (.mapIter (some gm) L.length #[] L.length)):=by
  simp only [execOp,hop,Act.eval,hev,run_range_map w t kt et gm ents L.length ht c3,Sem.run_bind,Result.andThen_ok,Sem.run_pure]
 rw [hrun,Oper.upon_value,zb5]
 refine hK _ _ ?_
 have rt2:zaJ E.T ((h.take b).map (zbr (zck b))) (β.take b) (w.alloc (.mapIter (some gm) L.length #[] L.length)) S (mask live b ts) tmps:=fun q=>by
  rcases zhh b ts live q with h1|h1
  ·rw [h1];exact .d _ _ (.un _)
  ·rw [h1];exact hv2 _ _ ((rt q).ext x1)
 have rt3:=rt2.put (d:=some d) (x:=.v (.pointer (some ⟨w.heap.size,0,none⟩))) (y:=.pointer (some ⟨w.heap.size,0,none⟩)) (by simp only [zaT];exact Nat.ble_eq_true_of_le (by rw [hn];exact hdn)) (.d _ _ (.v _ rfl))
 have hsz:(w.alloc (.mapIter (some gm) L.length #[] L.length)).heap.size=w.heap.size+1:=by
  show (w.heap.push _).size=_
  simp
 have hfor:Foreign [gm,w.heap.size] (β.take b) S w0 (w.alloc (.mapIter (some gm) L.length #[] L.length)):=by
  refine ⟨fun g hg=>?_,fun g hg=>?_,fun g hg b' k' hb' hk'=>?_,fun g hg a ha=>?_⟩
  ·rcases List.mem_cons.1 hg with rfl|hg
   ·rcases x0.new b _ g c1 rfl with ⟨b',k',h1,_,h2⟩|h1
    ·subst h2
     have:=(List.getElem?_eq_some_iff.1 h1).1
     omega
    ·exact h1
   ·simp only [List.mem_singleton] at hg;subst hg;exact x0.size
  ·rw [hsz]
   rcases List.mem_cons.1 hg with rfl|hg
   ·omega
   ·simp only [List.mem_singleton] at hg;omega
  ·rw [List.getElem?_take] at hb'
   split at hb'
   ·rename_i hlt
    rcases List.mem_cons.1 hg with rfl|hg
    ·have:=r0.apart b' b k' _ g hb' c1 hk' rfl
     omega
    ·simp only [List.mem_singleton] at hg
     subst hg
     have:=r0.lt b' k' _ hb' hk'
     omega
   ·cases hb'
  ·rcases List.mem_cons.1 hg with rfl|hg
   ·exact hno a ha
   ·simp only [List.mem_singleton] at hg
    have:=r0.stable a ha
    omega
 have hit:ItF gm w.heap.size es none S (w.alloc (.mapIter (some gm) L.length #[] L.length)):=by
  refine ⟨L,ents,#[],L.length,(hbl.block gm hgl).trans c3,c4,fun i k x hi=>?_,heap_alloc_new w _,Nat.le_refl _,by rw [zsL];exact c2.symm,by simp⟩
  obtain ⟨kv,xv,a1,a2,a3⟩:=c5 i k x hi
  exact ⟨kv,xv,a1,a2.mono (fun _ h=>h) x1.S_cell,a3.mono (fun _ h=>h) x1.S_cell⟩
 have:=H gm w.heap.size β0 S0 w0 (β.take b) S _ _ hβ (by rw [zcx];exact hn) ((x0.trans x1).first r1 hb0 hβ) r2 rt3 hfor hit
 simp only [kont,Exit.then] at this
 rw [hd]
 exact this
theorem ztl {L:List (AV × AV)} {seen:Array Nat} {i:Nat} {p:AV × AV} (hi:L[i]?=some p) (hs:seen.contains i=false):(zhc L seen).Perm (p::zhc L (seen.push i)):=by
 have hil:=(List.getElem?_eq_some_iff.1 hi).1
 have hF:((List.range L.length).filter fun j=>!seen.contains j).Perm (i::(List.range L.length).filter fun j=>!(seen.push i).contains j):=by
  have hm:i∈(List.range L.length).filter fun j=>!seen.contains j:=by
   rw [List.mem_filter]
   exact ⟨List.mem_range.2 hil,by rw [hs];rfl⟩
  have h1:=List.perm_cons_erase hm
  have hn:((List.range L.length).filter fun j=>!seen.contains j).Nodup:=List.nodup_range.filter _
  rw [hn.erase_eq_filter,List.filter_filter] at h1
  refine h1.trans (.of_eq (congrArg _ ?_))
  apply List.filter_congr
  intro j _
  rw [contains_push]
  cases seen.contains j <;> cases hji:(j==i) <;> simp [bne,hji]
 have:=hF.filterMap fun j=>L[j]?
 rw [List.filterMap_cons_some hi] at this
 exact this
theorem zmD {α:Type}:∀ (l:List α) (j:Nat) (p:α),l[j]?=some p→l.Perm (p::l.eraseIdx j)
 | [],j,p,h=>by simp at h
 | a::l,0,p,h=>by simp at h;subst h;exact .refl _
 | a::l,j+1,p,h=>by
  have:=zmD l j p (by simpa using h)
  exact (this.cons a).trans (.swap _ _ _)
theorem zjV {L:List (AV × AV)} {ents:Array MapEntry} {w:World} {S:Addr→Prop} (hl:ents.size=L.length) (h3:∀ (i:Nat) (k x:AV),L[i]?=some (k,x)→∃ (kv xv:Value),ents[i]?=some ⟨kv,xv,i⟩∧RelD w S k kv∧RelD w S x xv) :
  (∀ e∈ents.toList,ents[e.born]?=some e∧e.born < L.length)∧(ents.toList.map (·.born)).Nodup:=by
 have at_:∀ (i:Nat) (e:MapEntry),ents[i]?=some e→e.born=i∧i < L.length:=by
  intro i e he
  have hi:i < L.length:=by rw [← hl];exact (Array.getElem?_eq_some_iff.1 he).1
  obtain ⟨kv,xv,e1,_⟩:=h3 i L[i].1 L[i].2 (List.getElem?_eq_getElem hi)
  rw [he] at e1
  cases e1
  exact ⟨rfl,hi⟩
 refine ⟨fun e he=>?_,?_⟩
 ·obtain ⟨i,hi⟩:=List.getElem?_of_mem he
  rw [Array.getElem?_toList] at hi
  obtain ⟨h1,h2⟩:=at_ i e hi
  rw [h1]
  exact ⟨hi,h2⟩
 ·have:ents.toList.map (·.born)=List.range L.length:=by
   apply List.ext_getElem?
   intro i
   rw [List.getElem?_map,Array.getElem?_toList]
   by_cases hi:i < L.length
   ·have h5:ents[i]?=some (ents[i]'(by omega)):=Array.getElem?_eq_getElem (by omega)
    rw [h5,Option.map_some,(at_ i _ h5).1,List.getElem?_range hi]
   ·rw [Array.getElem?_eq_none (by omega),List.getElem?_eq_none (by simp;omega)]
    rfl
  rw [this]
  exact List.nodup_range
theorem ztj {w w1:World} {g:Nat} {o:Obj} (h:w1=w∨w1=w.drew):Touch g w (ChangeMaps.setBlock w1 g o):=by
 rcases h with rfl|rfl
 ·exact ⟨rfl,rfl,rfl,by simp [ChangeMaps.setBlock],fun b hb=>by simp [ChangeMaps.setBlock,Ne.symm hb]⟩
 ·have hd:∀ v:World,v.drew.heap=v.heap:=fun _=>rfl
  exact ⟨rfl,rfl,rfl,by simp [ChangeMaps.setBlock,hd],fun b hb=>by simp [ChangeMaps.setBlock,hd,Ne.symm hb]⟩
theorem zsY {E:Env0} {fn:Func} {h0 h:Heap} {all r:List Oper} {o:Oper} {k:List It} {n:Nat} {ts:TS} {R:AV→Heap→Prop} {gm gi ti d:Nat} {l:List (AV × AV)} {cur:Option (AV × AV)} (hop:o.op=.next (.tmp ti) false) (hgd:o.guard=none) (hd:o.dst=some d) (hdn:d < n)
  (hm:look ts ti=.v (.pointer (some ⟨gi,0,none⟩)))
  (H0:l=[]→zbP E fn h0 [gm,gi] (ItF gm gi [] none) ⟨n,.ops all r::k,(d,.tup [.bl false])::ts,h⟩ R)
  (H1:∀ (j:Nat) (kx x:AV),l[j]?=some (kx,x)→zbP E fn h0 [gm,gi] (ItF gm gi (l.eraseIdx j) (some (kx,x))) ⟨n,.ops all r::k,(d,.tup [.bl true,kx,x])::ts,h⟩ R) :
  zbP E fn h0 [gm,gi] (ItF gm gi l cur) ⟨n,.ops all (o::r)::k,ts,h⟩ R:=by
 intro β0 S0 w0 β S w tmps hβ hn x0 r0 rt hf ⟨L,ents,seen,c0,h1,h2,h3,h4,h5,h6,h7⟩
 simp only at hn x0 r0 rt
 have hmv:=rt ti
 rw [hm] at hmv
 have hev:=hmv.v_inv
 obtain ⟨hb1,hb2⟩:=zjV h2 h3
 have hne:gm≠gi:=by
  rintro rfl
  rw [h1] at h4
  cases h4
 simp only [kont,Exit.then]
 refine wpList_step fun K hK=>?_
 show wpG E.P all.toArray o ⟨tmps,[]⟩ w K _
 unfold wpG
 rw [if_pos (by simp [Region.wanted,hgd])]
 unfold Oper.wp
 have hdd:zaT tmps.size (some d)=true:=by simp only [zaT];exact Nat.ble_eq_true_of_le (by rw [hn];exact hdn)
 rcases run_next_at (P:=E.P) w o.type gi gm L.length c0 seen ents L.length h4 h1 (fun x hx=>(hb1 x hx).2) h5 with ⟨hz,hrun⟩|⟨e,he,w1,hw1,hrun⟩
 ·have hrun':(execOp (Act.eval ⟨tmps,[]⟩) o).run E.P w=.ok (.value (.tuple #[.bool false])) w:=by
   simp only [execOp,hop,Act.eval,hev,hrun,Sem.run_bind,Result.andThen_ok,Sem.run_pure]
  rw [hrun',Oper.upon_value,zb5]
  refine hK _ _ ?_
  have hall:=all_seen ents seen hz
  have hnil:zhc L seen=[]:=by
   unfold zhc
   have:((List.range L.length).filter fun i=>!seen.contains i)=[]:=by
    rw [List.filter_eq_nil_iff]
    intro i hi
    have hi:=List.mem_range.1 hi
    obtain ⟨kv,xv,e1,_⟩:=h3 i L[i].1 L[i].2 (List.getElem?_eq_getElem hi)
    have:=hall _ (Array.mem_toList_iff.2 (Array.mem_of_getElem? e1))
    simp only at this
    rw [this]
    decide
   rw [this]
   rfl
  rw [hnil] at h6
  have hl:=h6.eq_nil
  have:=H0 hl β0 S0 w0 β S w _ hβ (by rw [zcx];exact hn) x0 r0 (rt.put (d:=some d) (x:=.tup [.bl false]) (y:=.tuple #[.bool false]) hdd (.d _ _ (.tup [.bl false] [.bool false] rfl (fun i p q hp hq=>by
   cases i with
   | zero=>simp at hp hq;subst hp;subst hq;exact .bl _
   | succ i=>simp at hp)))) hf ⟨L,ents,seen,c0,h1,h2,h3,h4,h5,by rw [hnil],by simp⟩
  simp only [kont,Exit.then] at this
  rw [hd]
  exact this
 ·have hrun':(execOp (Act.eval ⟨tmps,[]⟩) o).run E.P w=.ok (.value (.tuple #[.bool true,e.key,e.val])) (ChangeMaps.setBlock w1 gi (.mapIter (some gm) L.length (seen.push e.born) L.length)):=by
   simp only [execOp,hop,Act.eval,hev,hrun,Sem.run_bind,Result.andThen_ok,Sem.run_pure]
  rw [hrun',Oper.upon_value,zb5]
  refine hK _ _ ?_
  obtain ⟨hem,hes⟩:=mem_left he
  obtain ⟨hei,hel⟩:=hb1 e hem
  have hLi:L[e.born]?=some L[e.born]:=List.getElem?_eq_getElem hel
  obtain ⟨kv,xv,e1,e2,e3⟩:=h3 e.born L[e.born].1 L[e.born].2 hLi
  rw [hei] at e1
  have hstep:=ztl hLi hes
  have hmem:L[e.born]∈l:=h6.mem_iff.2 (hstep.mem_iff.2 (by simp))
  obtain ⟨j,hj⟩:=List.getElem?_of_mem hmem
  have hperm:(l.eraseIdx j).Perm (zhc L (seen.push e.born)):=by
   have:=(zmD l j _ hj).symm.trans (h6.trans hstep)
   exact this.cons_inv
  have t:Touch gi w (ChangeMaps.setBlock w1 gi (.mapIter (some gm) L.length (seen.push e.born) L.length)):=ztj hw1
  have hg:gi∈[gm,gi]:=by simp
  have hcell:∀ a,S a→(ChangeMaps.setBlock w1 gi (.mapIter (some gm) L.length (seen.push e.born) L.length)).cell? a=w.cell? a:=fun a ha=>t.cell (hf.sep gi hg a ha)
  have hkk:e.key=kv∧e.val=xv:=by
   have h9:e=⟨kv,xv,e.born⟩:=by injection e1
   exact ⟨congrArg MapEntry.key h9,congrArg MapEntry.val h9⟩
  have rt2:=(rt.touch (E:=E) t hf hg).put (d:=some d) (x:=.tup [.bl true,L[e.born].1,L[e.born].2]) (y:=.tuple #[.bool true,e.key,e.val]) hdd (.d _ _ (.tup [.bl true,L[e.born].1,L[e.born].2] [.bool true,e.key,e.val] rfl (fun i p q hp hq=>by
   match i,hp,hq with
   | 0,hp,hq=>simp at hp hq;subst hp;subst hq;exact .bl _
   | 1,hp,hq=>simp at hp hq;subst hp;subst hq;rw [hkk.1];exact e2.mono (fun _ h=>h) hcell
   | 2,hp,hq=>simp at hp hq;subst hp;subst hq;rw [hkk.2];exact e3.mono (fun _ h=>h) hcell
   | i+3,hp,hq=>simp at hp)))
  have hit:ItF gm gi (l.eraseIdx j) (some (L[e.born].1,L[e.born].2)) S (ChangeMaps.setBlock w1 gi (.mapIter (some gm) L.length (seen.push e.born) L.length)):=by
   refine ⟨L,ents,seen.push e.born,L.length,(t.other gm hne).trans h1,h2,fun i k x hi=>?_,?_,Nat.le_refl _,hperm,fun p hp=>⟨seen,e.born,rfl,by rw [hLi];exact hp,rfl⟩⟩
   ·obtain ⟨kv,xv,a1,a2,a3⟩:=h3 i k x hi
    exact ⟨kv,xv,a1,a2.mono (fun _ h=>h) hcell,a3.mono (fun _ h=>h) hcell⟩
   ·have hlt:gi < w1.heap.size:=by
     have:=(Array.getElem?_eq_some_iff.1 h4).1
     rcases hw1 with rfl|rfl <;> exact this
    simp [ChangeMaps.setBlock,hlt]
  have:=H1 j L[e.born].1 L[e.born].2 hj β0 S0 w0 β S _ _ hβ (by rw [zcx];exact hn) (x0.touch t hf hg) (r0.touch t hf hg) rt2 (hf.touch t) hit
  simp only [kont,Exit.then] at this
  rw [hd]
  exact this
theorem zqE {E:Env0} {fn:Func} {h0 h:Heap} {all r:List Oper} {o:Oper} {k:List It} {n:Nat} {ts:TS} {R:AV→Heap→Prop} {gm gi ti d:Nat} {l:List (AV × AV)} {kx x:AV} (hop:o.op=.entry (.tmp ti)) (hgd:o.guard=none) (hd:o.dst=some d) (hdn:d < n)
  (hm:look ts ti=.v (.pointer (some ⟨gi,0,none⟩)))
  (H:zbP E fn h0 [gm,gi] (ItF gm gi l (some (kx,x))) ⟨n,.ops all r::k,(d,.tup [kx,x])::ts,h⟩ R) :
  zbP E fn h0 [gm,gi] (ItF gm gi l (some (kx,x))) ⟨n,.ops all (o::r)::k,ts,h⟩ R:=by
 intro β0 S0 w0 β S w tmps hβ hn x0 r0 rt hf hw
 have hw0:=hw
 obtain ⟨L,ents,seen,c0,h1,h2,h3,h4,h5,h6,h7⟩:=hw
 simp only at hn x0 r0 rt
 have hmv:=rt ti
 rw [hm] at hmv
 have hev:=hmv.v_inv
 obtain ⟨hb1,hb2⟩:=zjV h2 h3
 obtain ⟨s',i,rfl,hi,rfl⟩:=h7 _ rfl
 obtain ⟨kv,xv,e1,e2,e3⟩:=h3 i kx x hi
 simp only [kont,Exit.then]
 refine wpList_step fun K hK=>?_
 show wpG E.P all.toArray o ⟨tmps,[]⟩ w K _
 unfold wpG
 rw [if_pos (by simp [Region.wanted,hgd])]
 unfold Oper.wp
 have hrun:=run_entry_at (P:=E.P) w gi gm L.length s' ents L.length ⟨kv,xv,i⟩ h4 h1 (Array.mem_toList_iff.2 (Array.mem_of_getElem? e1)) hb2
 have hrun':(execOp (Act.eval ⟨tmps,[]⟩) o).run E.P w=.ok (.value (.tuple #[kv,xv])) w:=by
  simp only [execOp,hop,Act.eval,hev,hrun,Sem.run_bind,Result.andThen_ok,Sem.run_pure]
 rw [hrun',Oper.upon_value,zb5]
 refine hK _ _ ?_
 have:=H β0 S0 w0 β S w _ hβ (by rw [zcx];exact hn) x0 r0 (rt.put (d:=some d) (x:=.tup [kx,x]) (y:=.tuple #[kv,xv]) (by simp only [zaT];exact Nat.ble_eq_true_of_le (by rw [hn];exact hdn)) (.d _ _ (.tup [kx,x] [kv,xv] rfl (fun i p q hp hq=>by
  match i,hp,hq with
  | 0,hp,hq=>simp at hp hq;subst hp;subst hq;exact e2
  | 1,hp,hq=>simp at hp hq;subst hp;subst hq;exact e3
  | i+2,hp,hq=>simp at hp)))) hf hw0
 simp only [kont,Exit.then] at this
 rw [hd]
 exact this
end Go.AM
namespace Go.AM
theorem zbk (n:Int):KeyOK E0.P Ty.M_int_bool (iv n):=ztn (kt:=Ty.int) (et:=Ty.bool) kr kr n
theorem zdf (a b:Int) (c:Str):KeyOK E0.P Ty.M_Value_bool (.agg [iv a,iv b,sv c]) :=
 zpq E0ok (kt:=Ty.Value) (et:=Ty.bool) (fs:=E0.P.fieldsOf Ty.Value) kr kr kr zbG rfl rfl
end Go.AM
namespace Go.AM
set_option linter.unusedSimpArgs false
set_option linter.unusedVariables false
noncomputable def zgq (fn:Func) (args:List AV) (h:Heap):Cfg:=⟨fn.ntmps,[.code (fn.body.getD .skip)],zb4 0 args,h⟩
def itp (gi:Nat):AV:=.v (.pointer (some ⟨gi,0,none⟩))
noncomputable def zot (h0:Heap) (c:Cfg) (os:List Orc) (b:Nat):Option (List Prop × TypeId × List (AV × AV)):=match run (mk E0) 3000 c os with
 | (q,⟨n,.ops _ (o::_)::_,ts,h⟩,_)=>match o.op,o.guard,o.dst with
  | .range t (.tmp tm),none,some d=>match look ts tm,Nat.blt d n,Nat.ble h0.length b with
   | .mp b',true,true=>match Nat.beq b' b,h[b]? with
    | true,some (.mp es)=>some (q,t,es)
    | _,_=>none
   | _,_,_=>none
  | _,_,_=>none
 | _=>none
noncomputable def rngK (c:Cfg) (os:List Orc) (live:List Nat) (b gi:Nat):Cfg:=match run (mk E0) 3000 c os with
 | (_,⟨n,.ops all (o::r)::k,ts,h⟩,_)=>⟨n,.ops all r::k,(o.dst.getD 0,itp gi)::mask live b ts,(h.take b).map (zbr (zck b))⟩
 | (_,c',_)=>c'
theorem wkRl {fn:Func} {h0:Heap} {c:Cfg} {R:AV→Heap→Prop} {t kt et:TypeId} {es:List (AV × AV)} (l:List St) (live:List Nat) (b:Nat) (hu:zot h0 c (orcs l) b=some (zbI l,t,es)) (ht:E0.P.underlying t=some (.map kt et))
  (hg:∀ gm gi,zbP E0 fn h0 [gm,gi] (ItF gm gi es none) (rngK c (orcs l) live b gi) R):Good E0 fn h0 c R:=by
 unfold zot at hu
 unfold rngK at hg
 split at hu
 ·rename_i q n all o r k ts h os' hrun
  split at hu
  ·rename_i t' tm d hop hgd hd
   split at hu
   ·rename_i b' hm hdn hb0
    split at hu
    ·rename_i es' hbb hb
     simp only [Option.some.injEq,Prod.mk.injEq] at hu
     obtain ⟨rfl,rfl,rfl⟩:=hu
     have:=Nat.eq_of_beq_eq_true hbb
     subst this
     refine zim E0ok mix0 3000 c (orcs l) (by rw [hrun];exact zbp l) ?_
     rw [hrun]
     refine zrZ live hop hgd hd (Nat.le_of_ble_eq_true hdn) ht hm hb hb0 fun gm gi=>?_
     have:=hg gm gi
     rw [hrun] at this
     simp only [hd,Option.getD_some] at this
     exact this
    ·cases hu
   ·cases hu
  ·cases hu
 ·cases hu
def fnOk (fn : Func) (args : List AV) : Bool := fn.body.isSome && !(fn.name == "runtime.NumGoroutine") && Nat.ble args.length fn.ntmps
theorem wkR {f:FuncId} {fn:Func} {args:List AV} {h:Heap} {R:AV→Heap→Prop} {t kt et:TypeId} {es:List (AV × AV)} (hf:E0.P.funcs[f]?=some fn) (l:List St) (live:List Nat) (b:Nat) (hok:fnOk fn args=true) (hu:zot h (zgq fn args h) (orcs l) b=some (zbI l,t,es)) (ht:E0.P.underlying t=some (.map kt et))
  (hg:∀ gm gi,zbP E0 fn h [gm,gi] (ItF gm gi es none) (rngK (zgq fn args h) (orcs l) live b gi) (Shut h.length R)):zb7 E0 f args h R:=by
 simp only [fnOk,Bool.and_eq_true,Bool.not_eq_true',Option.isSome_iff_exists] at hok
 obtain ⟨⟨⟨c,hb⟩,hn⟩,ha⟩:=hok
 have h1:=wkRl l live b hu ht hg
 have:zgq fn args h=⟨fn.ntmps,[.code c],zb4 0 args,h⟩:=by simp [zgq,hb]
 rw [this] at h1
 exact zd0 (zbO hf hb hn (Nat.le_of_ble_eq_true ha) h1)
theorem wkFl {fn:Func} {R:AV→Heap→Prop} {h0:Heap} {c c':Cfg} {gm gi:Nat} {es:List (AV × AV)} {cur:Option (AV × AV)} (l:List St) (live:List Nat) (m:Nat) (hu:ziV h0 live m c (orcs l)=some (zbI l,c')) (hg:zbP E0 fn h0 [gm,gi] (ItF gm gi es cur) c' R):zbP E0 fn h0 [gm,gi] (ItF gm gi es cur) c R:=by
 unfold ziV at hu
 split at hu
 ·rename_i hm
  have hu:=Option.some.inj hu
  unfold upto at hu
  have h1:(run (mk E0) 3000 c (orcs l)).1=zbI l:=congrArg Prod.fst hu
  have h2:cut live m (run (mk E0) 3000 c (orcs l)).2.1=c':=congrArg Prod.snd hu
  exact zu0 E0ok mix0 (zlv _ _ _ _) 3000 (orcs l) live m hm h1 h2 (zbp l) hg
 ·cases hu
theorem zkd {E:Env0} {fn:Func} {h0:Heap} {gs:List Nat} {F:(Addr→Prop)→World→Prop} {c:Cfg} {R:AV→Heap→Prop} (hg:zbP E fn h0 gs F (zig c) R):zbP E fn h0 gs F c R:=by
 unfold zig at hg
 split at hg
 ·rename_i b k hk
  obtain ⟨n,todo,ts,h⟩:=c
  simp only at hk
  subst hk
  intro β0 S0 w0 β S w tmps hb0 hn x0 r rt hf hw
  have:=hg β0 S0 w0 β S w tmps hb0 hn x0 r rt hf hw
  simp only [kont,Exit.then] at this ⊢
  refine zlU (wp_mono this fun e a w he=>?_)
  cases e <;> exact he
 ·exact hg
noncomputable def nxtOk (c:Cfg) (os:List Orc):Option (List Prop × AV):=match run (mk E0) 3000 c os with
 | (q,⟨n,.ops _ (o::_)::_,ts,_⟩,_)=>match o.op,o.guard,o.dst with
  | .next (.tmp ti) false,none,some d=>match Nat.blt d n with
   | true=>some (q,look ts ti)
   | false=>none
  | _,_,_=>none
 | _=>none
noncomputable def nxtK (c:Cfg) (os:List Orc) (v:AV):Cfg:=match run (mk E0) 3000 c os with
 | (_,⟨n,.ops all (o::r)::k,ts,h⟩,_)=>⟨n,.ops all r::k,(o.dst.getD 0,v)::ts,h⟩
 | (_,c',_)=>c'
theorem wkN {fn:Func} {h0:Heap} {c:Cfg} {R:AV→Heap→Prop} {gm gi:Nat} {es:List (AV × AV)} {cur:Option (AV × AV)} (l:List St) (hu:nxtOk c (orcs l)=some (zbI l,itp gi))
  (H0:es=[]→zbP E0 fn h0 [gm,gi] (ItF gm gi [] none) (nxtK c (orcs l) (.tup [.bl false])) R)
  (H1:∀ (j:Nat) (kx x:AV),es[j]?=some (kx,x)→zbP E0 fn h0 [gm,gi] (ItF gm gi (es.eraseIdx j) (some (kx,x))) (nxtK c (orcs l) (.tup [.bl true,kx,x])) R):zbP E0 fn h0 [gm,gi] (ItF gm gi es cur) c R:=by
 unfold nxtOk at hu
 unfold nxtK at H0 H1
 split at hu
 ·rename_i q n all o r k ts h os' hrun
  split at hu
  ·rename_i ti d hop hgd hd
   split at hu
   ·rename_i hdn
    simp only [Option.some.injEq,Prod.mk.injEq] at hu
    obtain ⟨rfl,hm⟩:=hu
    refine zjp E0ok mix0 (zlv _ _ _ _) 3000 (orcs l) (by rw [hrun];exact zbp l) ?_
    rw [hrun] at H0 H1 ⊢
    simp only [hd,Option.getD_some] at H0 H1
    exact zsY hop hgd hd (Nat.le_of_ble_eq_true hdn) hm H0 H1
   ·cases hu
  ·cases hu
 ·cases hu
noncomputable def entOk (c:Cfg) (os:List Orc):Option (List Prop × AV):=match run (mk E0) 3000 c os with
 | (q,⟨n,.ops _ (o::_)::_,ts,_⟩,_)=>match o.op,o.guard,o.dst with
  | .entry (.tmp ti),none,some d=>match Nat.blt d n with
   | true=>some (q,look ts ti)
   | false=>none
  | _,_,_=>none
 | _=>none
theorem wkE2 {fn:Func} {h0:Heap} {c:Cfg} {R:AV→Heap→Prop} {gm gi:Nat} {es:List (AV × AV)} {kx x:AV} (l:List St) (hu:entOk c (orcs l)=some (zbI l,itp gi))
  (H:zbP E0 fn h0 [gm,gi] (ItF gm gi es (some (kx,x))) (nxtK c (orcs l) (.tup [kx,x])) R):zbP E0 fn h0 [gm,gi] (ItF gm gi es (some (kx,x))) c R:=by
 unfold entOk at hu
 unfold nxtK at H
 split at hu
 ·rename_i q n all o r k ts h os' hrun
  split at hu
  ·rename_i ti d hop hgd hd
   split at hu
   ·rename_i hdn
    simp only [Option.some.injEq,Prod.mk.injEq] at hu
    obtain ⟨rfl,hm⟩:=hu
    refine zjp E0ok mix0 (zlv _ _ _ _) 3000 (orcs l) (by rw [hrun];exact zbp l) ?_
    rw [hrun] at H ⊢
    simp only [hd,Option.getD_some] at H
    exact zqE hop hgd hd (Nat.le_of_ble_eq_true hdn) hm H
   ·cases hu
  ·cases hu
 ·cases hu
theorem wkRF {f:FuncId} {fn:Func} {args:List AV} {h:Heap} {R:AV→Heap→Prop} {kt et:TypeId} {es:List (AV × AV)} (L:Nat→Cfg) (t:TypeId) (hf:E0.P.funcs[f]?=some fn) (l:List St) (live:List Nat) (b:Nat) (l2:List St) (live2:List Nat) (m:Nat) (hok:fnOk fn args=true) (hu:zot h (zgq fn args h) (orcs l) b=some (zbI l,t,es)) (ht:E0.P.underlying t=some (.map kt et))
  (hk:∀ gi,ziV h live2 m (rngK (zgq fn args h) (orcs l) live b gi) (orcs l2)=some (zbI l2,L gi))
  (hg:∀ gm gi,zbP E0 fn h [gm,gi] (ItF gm gi es none) (L gi) (Shut h.length R)):zb7 E0 f args h R :=
 wkR hf l live b hok hu ht fun gm gi=>wkFl l2 live2 m (hk gi) (hg gm gi)
end Go.AM
namespace Go.AM
set_option maxRecDepth 100000
set_option maxHeartbeats 1000000
set_option linter.unusedSimpArgs false
set_option linter.unusedVariables false
def itE (p:Int × Bool):AV × AV:=(iv p.1,bv p.2)
noncomputable def zlT (u:Int) (gi:Nat):Cfg:=zar B.syntax_bare 0 [(37,itp gi),(1,iv u)] []
noncomputable def zvN (u:Int) (gi:Nat) (p:Int × Bool):Cfg:=nxtK (nxtK (zig (zlT u gi)) (orcs []) (.tup [.bl true,iv p.1,bv p.2])) (orcs []) (.tup [iv p.1,bv p.2])
def andI (a b:Int):Int:=IntKind.i64.wrap (↑(BitVec.ofInt IntKind.i64.bits a &&& BitVec.ofInt IntKind.i64.bits b).toNat:Int)
def okP (u:Int) (p:Int × Bool):Bool:=bif andI u p.1==0 then p.2 else true
theorem at_itE {L:List (Int × Bool)} {j:Nat} {kx x:AV} (h:(L.map itE)[j]?=some (kx,x)):∃ p,L[j]?=some p∧kx=iv p.1∧x=bv p.2:=by
 rw [List.getElem?_map,Option.map_eq_some_iff] at h
 obtain ⟨p,h1,h2⟩:=h
 cases h2
 exact ⟨p,h1,rfl,rfl⟩
theorem zns {α:Type} (f:α→Bool):∀ (l:List α) (j:Nat) (p:α),l[j]?=some p→l.all f=(f p&&(l.eraseIdx j).all f)
 | [],j,p,h=>by simp at h
 | a::l,0,p,h=>by simp at h;subst h;rfl
 | a::l,j+1,p,h=>by
  have:=zns f l j p (by simpa using h)
  simp only [List.all_cons,this,List.eraseIdx_cons_succ]
  cases f a <;> cases f p <;> rfl
theorem znH {α β:Type} (f:α→β):∀ (l:List α) (j:Nat),(l.map f).eraseIdx j=(l.eraseIdx j).map f
 | [],_=>rfl
 | a::l,0=>rfl
 | a::l,j+1=>by simp [znH f l j]
theorem zk9 (u:Int):∀ (n:Nat) (L:List (Int × Bool)) (cur:Option (AV × AV)) (gm gi:Nat),L.length=n→zbP E0 B.syntax_bare [] [gm,gi] (ItF gm gi (L.map itE) cur) (zlT u gi) (Shut 0 fun r h=>r=bv (L.all (okP u))∧h=[]):=by
 intro n
 induction n with
 | zero =>
  intro L cur gm gi hL
  cases L with
  | cons _ _=>simp at hL
  | nil=>exact zkd (wkN [] kr (fun _=>zpb (wkr [] kr)) (fun j kx x hj=>by simp at hj))
 | succ n ih =>
  intro L cur gm gi hL
  refine zkd (wkN [] kr (fun h0=>?_) (fun j kx x hj=>?_))
  ·cases L with
   | nil=>simp at hL
   | cons _ _=>simp at h0
  ·obtain ⟨p,hp,rfl,rfl⟩:=at_itE hj
   rw [znH]
   have hj2:j < L.length:=(List.getElem?_eq_some_iff.1 hp).1
   have hlen:(L.eraseIdx j).length=n:=by rw [List.length_eraseIdx,if_pos hj2];omega
   have ih:=ih (L.eraseIdx j) (some (iv p.1,bv p.2)) gm gi hlen
   rw [zns (okP u) L j p hp]
   refine wkE2 [] kr ?_
   show zbP E0 B.syntax_bare [] [gm,gi] _ (zvN u gi p) _
   cases h1:andI u p.1==0
   ·have e:okP u p=true:=by unfold okP;rw [h1];rfl
    rw [e,Bool.true_and]
    exact wkFl [si (e:=andI u p.1) rfl,sb h1] [37,1] 0 kr ih
   ·cases h2:!p.2
    ·have e:okP u p=true:=by unfold okP;rw [h1];simpa using h2
     rw [e,Bool.true_and]
     exact wkFl [si (e:=andI u p.1) rfl,sg h1,sb h2] [37,1] 0 kr ih
    ·have e:okP u p=false:=by unfold okP;rw [h1];simpa using h2
     rw [e,Bool.false_and]
     exact zpb (wkr [si (e:=andI u p.1) rfl,sg h1,sb h2] kr)
def zi1 (e:X) (z:Bool):List (Int × Bool):=[(1,e.op==0),(2,!e.not),(4,e.val.kind==0&&(e.val.int==0&&(e.val.text==ByteArray.mk #[]&&true))),(8,z),(16,((zab e.args).length:Int)==0),(32,((zaf e.sub).length:Int)==0)]
def zil (e:X):Bool:=bif ByteArray.toList e.table==(ByteArray.mk #[]).toList then ByteArray.toList e.name==(ByteArray.mk #[]).toList else false
def zbC (e:X) (u:Int):Bool:=(zi1 e (zil e)).all (okP u)
theorem zsk (e:X) (u:Int) (h1:(ByteArray.toList e.table==(ByteArray.mk #[]).toList)=false):zb7 E0 S.syntax_bare [e.av,iv u] [] (fun r h=>r=bv ((zi1 e false).all (okP u))∧h=[]):=by
 exact wkRF (es:=(zi1 e false).map itE) (zlT u) Ty.M_int_bool At.syntax_bare [sd [(12,[sq zbG]),(18,[sb h1]),(19,[sb h1]),(20,[sb h1]),(21,[sb h1]),(4,[sq (zbk 1)]),(8,[sq (zbk 2)]),(13,[sq (zbk 4)]),(22,[sq (zbk 8)]),(27,[sq (zbk 16)]),(32,[sq (zbk 32)])]] [1] 1 [] [37,1] 0 (kt:=Ty.int) (et:=Ty.bool) kr kr kr (fun gi=>by kernel_rfl) fun gm gi=>(zk9 u 6 (zi1 e false) none gm gi rfl)
theorem zs3 (e:X) (u:Int) (h1:(ByteArray.toList e.table==(ByteArray.mk #[]).toList)=true):zb7 E0 S.syntax_bare [e.av,iv u] [] (fun r h=>r=bv ((zi1 e (zil e)).all (okP u))∧h=[]):=by
 exact wkRF (es:=(zi1 e (zil e)).map itE) (zlT u) Ty.M_int_bool At.syntax_bare [sd [(12,[sq zbG]),(18,[sg h1]),(19,[sg h1]),(20,[sg h1]),(4,[sq (zbk 1)]),(8,[sq (zbk 2)]),(13,[sq (zbk 4)]),(22,[sq (zbk 8)]),(27,[sq (zbk 16)]),(32,[sq (zbk 32)])]] [1] 1 [] [37,1] 0 (kt:=Ty.int) (et:=Ty.bool) kr kr kr (fun gi=>by kernel_rfl) fun gm gi=>(zk9 u 6 (zi1 e (zil e)) none gm gi rfl)
theorem zaI (e:X) (u:Int):zac E0 S.syntax_bare [e.av,iv u] [] (bv (zbC e u)) []:=by
 cases h1:ByteArray.toList e.table==(ByteArray.mk #[]).toList
 ·have:zil e=false:=by unfold zil;rw [h1];rfl
  unfold zbC
  rw [this]
  exact zsk e u h1
 ·exact zs3 e u h1
end Go.AM
namespace Go.AM
set_option maxRecDepth 100000
set_option maxHeartbeats 1000000
set_option linter.unusedSimpArgs false
set_option linter.unusedVariables false
theorem zml {p:Prop} (h:p:=by first|exact (zng s (by assumption)).symm|exact (zmG s (by assumption)).symm|exact (zqL (by assumption) (by assumption)).symm|exact zuC (by assumption) (by assumption) (by assumption) (by assumption) (by assumption) (by assumption)|(have h:=(by assumption:_∧List.all _ okC=false);rw [znl h.2];exact h.1)):p:=h
theorem ziD {p:Prop} (h:p:=by exact zcK hI hx (by simp only [okC];simp only [*];simp)):p:=h
theorem zn8 {p:Prop} (h:p:=by exact ⟨rfl,zb0 hx (by simp only [okC];simp only [*];rfl)⟩):p:=h
def okC (c:UInt8):Bool:=decide (97≤((c.toNat:Nat):Int))&&decide (((c.toNat:Nat):Int)≤122) || (decide (48≤((c.toNat:Nat):Int))&&decide (((c.toNat:Nat):Int)≤57)) || ((c.toNat:Nat):Int)==95
def zaP (s:Str):Bool:=decide (1≤s.data.toList.length)&&decide (s.data.toList.length≤12)&&decide (97≤(s.data.toList.getD 0 0).toNat)&&s.data.toList.all okC
theorem zgZ (s:Str):s.size=s.data.toList.length:=Array.length_toList.symm
theorem zng (s:Str) (h:decide (((s.size:Nat):Int) < 1)=true):zaP s=false:=by
 rw [zgZ] at h;simp only [decide_eq_true_eq] at h;simp only [zaP,Bool.and_eq_false_iff,decide_eq_false_iff_not];omega
theorem zmG (s:Str) (h:decide ((12:Int) < ((s.size:Nat):Int))=true):zaP s=false:=by
 rw [zgZ] at h;simp only [decide_eq_true_eq] at h;simp only [zaP,Bool.and_eq_false_iff,decide_eq_false_iff_not];omega
theorem zcK {α:Type} {f:α→Bool} {l:List α} {i:Nat} {x:α} (h:(l.take i).all f=true) (hx:l[i]?=some x) (hf:f x=true):(l.take (i+1)).all f=true:=by
 rw [List.take_add_one,hx,List.all_append,h];simp [hf]
theorem zb0 {α:Type} {f:α→Bool} {l:List α} {i:Nat} {x:α} (hx:l[i]?=some x) (hf:f x=false):l.all f=false:=by
 rw [Bool.eq_false_iff];intro h;rw [List.all_eq_true] at h
 rw [h x (List.mem_of_getElem? hx)] at hf;simp at hf
noncomputable def L_vp (s:Str) (i:Nat) :Cfg:=zar B.schema_ValidName 0 [(0,sv s),(19,.sl (s.data.toList.map u8c)),(20,iv ((s.data.toList.map u8c).length:Nat)),(21,iv (i:Nat))] []
theorem zft (s:Str) (hs:decide ((12:Int) < ((s.size:Nat):Int))=false) (i:Nat)  (hi:i≤(s.data.toList).length) (hI:(s.data.toList.take i).all okC=true):(((s.data.toList.take (s.data.toList).length).all okC=true)∧(decide ((((s.data.toList).length:Nat):Int) < (((s.data.toList.map u8c).length:Nat):Int))=false)∧∀ R,Good E0 B.schema_ValidName [] (L_vp s (s.data.toList).length ) R→Good E0 B.schema_ValidName [] (L_vp s i ) R)∨(∃ (r:Bool),(r=false∧s.data.toList.all okC=false)∧Good E0 B.schema_ValidName [] (L_vp s i ) (Shut 0 fun rZ hZ=>rZ=(bv r)∧hZ=[])):=by
 obtain ⟨kk,hk⟩:∃ kk,i+kk=(s.data.toList).length:=⟨(s.data.toList).length - i,by omega⟩
 induction kk generalizing i  with
 | zero =>
  have e0:i=(s.data.toList).length:=by omega
  subst e0
  exact .inl ⟨hI,by simp,fun R hg=>hg⟩
 | succ kk ih =>
  obtain ⟨x,hx⟩:=zay (l:=s.data.toList) (i:=i) (by omega)
  have h0:decide (((i:Nat):Int) < (((s.data.toList.map u8c).length:Nat):Int))=true:=by (simp only [List.length_map,decide_eq_true_eq];omega)
  have hw:IntKind.i64.wrap (((i:Nat):Int)+1)=((i+1:Nat):Int):=zao i (by (simp only [decide_eq_false_iff_not,zgZ] at hs;omega))
  let p_1:List St:=[sb h0,se (zah u8c hx rfl)]
  let p_2:List St:=[sb h0,se (zah u8c hx rfl)]
  cases h1:decide (97≤(x.toNat:Int))
  ·cases h2:decide (48≤(x.toNat:Int))
   ·cases h3:(x.toNat:Int)==95
    ·exact .inr ⟨false,zn8,zaa (wkr (p_1++[sb h1,sb h2,sb h3]) kr)⟩
    ·exact (ih (i+1) (by omega) ziD (by omega)).elim (fun ⟨qZ,xZ,gZ⟩=>.inl ⟨qZ,xZ,fun R hg=>zaa (wkl (p_1++[sb h1,sb h2,sb h3,si hw]) [0,19,20,21] 0 kr (gZ R hg))⟩) (fun ⟨rY,pZ,gZ⟩=>.inr ⟨rY,pZ,zaa (wkl (p_2++[sb h1,sb h2,sb h3,si hw]) [0,19,20,21] 0 kr gZ)⟩)
   ·cases h4:decide ((x.toNat:Int)≤57)
    ·cases h5:(x.toNat:Int)==95
     ·exact .inr ⟨false,zn8,zaa (wkr (p_1++[sb h1,sg h2,sb h4,sb h5]) kr)⟩
     ·exact (ih (i+1) (by omega) ziD (by omega)).elim (fun ⟨qZ,xZ,gZ⟩=>.inl ⟨qZ,xZ,fun R hg=>zaa (wkl (p_1++[sb h1,sg h2,sb h4,sb h5,si hw]) [0,19,20,21] 0 kr (gZ R hg))⟩) (fun ⟨rY,pZ,gZ⟩=>.inr ⟨rY,pZ,zaa (wkl (p_2++[sb h1,sg h2,sb h4,sb h5,si hw]) [0,19,20,21] 0 kr gZ)⟩)
    ·exact (ih (i+1) (by omega) ziD (by omega)).elim (fun ⟨qZ,xZ,gZ⟩=>.inl ⟨qZ,xZ,fun R hg=>zaa (wkl (p_1++[sb h1,sg h2,sb h4,si hw]) [0,19,20,21] 0 kr (gZ R hg))⟩) (fun ⟨rY,pZ,gZ⟩=>.inr ⟨rY,pZ,zaa (wkl (p_2++[sb h1,sg h2,sb h4,si hw]) [0,19,20,21] 0 kr gZ)⟩)
  ·cases h6:decide ((x.toNat:Int)≤122)
   ·cases h7:decide (48≤(x.toNat:Int))
    ·cases h8:(x.toNat:Int)==95
     ·exact .inr ⟨false,zn8,zaa (wkr (p_1++[sg h1,sb h6,sb h7,sb h8]) kr)⟩
     ·exact (ih (i+1) (by omega) ziD (by omega)).elim (fun ⟨qZ,xZ,gZ⟩=>.inl ⟨qZ,xZ,fun R hg=>zaa (wkl (p_1++[sg h1,sb h6,sb h7,sb h8,si hw]) [0,19,20,21] 0 kr (gZ R hg))⟩) (fun ⟨rY,pZ,gZ⟩=>.inr ⟨rY,pZ,zaa (wkl (p_2++[sg h1,sb h6,sb h7,sb h8,si hw]) [0,19,20,21] 0 kr gZ)⟩)
    ·cases h9:decide ((x.toNat:Int)≤57)
     ·cases h10:(x.toNat:Int)==95
      ·exact .inr ⟨false,zn8,zaa (wkr (p_1++[sg h1,sb h6,sg h7,sb h9,sb h10]) kr)⟩
      ·exact (ih (i+1) (by omega) ziD (by omega)).elim (fun ⟨qZ,xZ,gZ⟩=>.inl ⟨qZ,xZ,fun R hg=>zaa (wkl (p_1++[sg h1,sb h6,sg h7,sb h9,sb h10,si hw]) [0,19,20,21] 0 kr (gZ R hg))⟩) (fun ⟨rY,pZ,gZ⟩=>.inr ⟨rY,pZ,zaa (wkl (p_2++[sg h1,sb h6,sg h7,sb h9,sb h10,si hw]) [0,19,20,21] 0 kr gZ)⟩)
     ·exact (ih (i+1) (by omega) ziD (by omega)).elim (fun ⟨qZ,xZ,gZ⟩=>.inl ⟨qZ,xZ,fun R hg=>zaa (wkl (p_1++[sg h1,sb h6,sg h7,sb h9,si hw]) [0,19,20,21] 0 kr (gZ R hg))⟩) (fun ⟨rY,pZ,gZ⟩=>.inr ⟨rY,pZ,zaa (wkl (p_2++[sg h1,sb h6,sg h7,sb h9,si hw]) [0,19,20,21] 0 kr gZ)⟩)
   ·exact (ih (i+1) (by omega) ziD (by omega)).elim (fun ⟨qZ,xZ,gZ⟩=>.inl ⟨qZ,xZ,fun R hg=>zaa (wkl (p_1++[sg h1,sb h6,si hw]) [0,19,20,21] 0 kr (gZ R hg))⟩) (fun ⟨rY,pZ,gZ⟩=>.inr ⟨rY,pZ,zaa (wkl (p_2++[sg h1,sb h6,si hw]) [0,19,20,21] 0 kr gZ)⟩)
theorem zlR {s:Str} {c:UInt8} (h:ByteAt s 0 ((c.toNat:Nat):Int)):s.data.toList.getD 0 0=c:=by
 obtain ⟨_,h1⟩:=h
 rw [Option.map_eq_some_iff] at h1
 obtain ⟨b,hb,e⟩:=h1
 have hc:b=c:=UInt8.toNat_inj.1 (by omega)
 subst hc
 have hb2:s[(0:Nat)]?=some b:=hb
 by_cases h:0 < s.size
 ·rw [getElem?_pos s 0 h,Option.some.injEq] at hb2
  have h2:0 < s.data.size:=h
  rw [List.getD_eq_getElem?_getD,Array.getElem?_toList,Array.getElem?_eq_getElem h2]
  exact hb2
 ·rw [getElem?_neg s 0 h] at hb2;simp at hb2
theorem zqL {s:Str} {c:UInt8} (h:ByteAt s 0 ((c.toNat:Nat):Int)) (h1:decide (((c.toNat:Nat):Int) < 97)=true):zaP s=false:=by
 have:=zlR h
 simp only [zaP,this,Bool.and_eq_false_iff,decide_eq_false_iff_not];simp at h1;omega
theorem znl {s:Str} (h:s.data.toList.all okC=false):zaP s=false:=by simp [zaP,h]
theorem zuC {s:Str} {c d:UInt8} (h1:decide (((s.size:Nat):Int) < 1)=false) (h2:decide ((12:Int) < ((s.size:Nat):Int))=false) (h:ByteAt s 0 ((c.toNat:Nat):Int)) (h3:decide (((c.toNat:Nat):Int) < 97)=false) (h4:(s.data.toList.take s.data.toList.length).all okC=true) (h5:ByteAt s 0 ((d.toNat:Nat):Int)):(((d.toNat:Nat):Int) != 95)=zaP s:=by
 have e1:=zlR h
 have e2:=zlR h5
 rw [List.take_length] at h4
 subst e2
 rw [zgZ] at h1 h2
 rw [← e1] at h3
 simp only [decide_eq_false_iff_not] at h1 h2 h3
 have a1:decide (1≤s.data.toList.length)=true:=by simp only [decide_eq_true_eq];omega
 have a2:decide (s.data.toList.length≤12)=true:=by simp only [decide_eq_true_eq];omega
 have a3:decide (97≤(s.data.toList.getD 0 0).toNat)=true:=by simp only [decide_eq_true_eq];omega
 simp only [zaP,a1,a2,a3,h4,Bool.and_true,bne_iff_ne,ne_eq];omega
theorem zkf (s:Str) :∃ (r:Bool),r=zaP s∧zac E0 S.schema_ValidName [sv s] [] (bv r) []:=by
 cases h1:decide ((↑(ByteArray.size s):Int) < 1)
 ·cases h2:decide (12 < (↑(ByteArray.size s):Int))
  ·obtain ⟨c3,b3⟩:=zmg (s:=s) (i:=(0:Int)) (by first|omega|(simp only [decide_eq_false_iff_not,decide_eq_true_eq] at *;omega))
   cases h4:decide ((c3.toNat:Int) < 97)
   ·let p_1:List St:=[sg h1,sg h2,sy b3,sb h4,sqx ((ByteArray.size s).le 1000000000000)]
    rcases zft s (by first|assumption|omega|(simp;done)|(simp;omega)) 0 (by first|assumption|omega|(simp;done)|(simp;omega)) (by first|assumption|omega|(simp;done)|(simp;omega)) with ⟨q5,q5_1,g5⟩|⟨r5_0,p5_0,g5⟩
    ·exact ⟨(c3.toNat:Int) != (95:Int),zml,wkc At.schema_ValidName p_1 [0,19,20,21] 0 kr (g5 _ (zaa (wkr [sb q5_1,sy b3] kr)))⟩
    ·exact ⟨r5_0,zml,wkc At.schema_ValidName p_1 [0,19,20,21] 0 kr (g5)⟩
   ·exact ⟨false,zml,wk At.schema_ValidName [sg h1,sg h2,sy b3,sb h4] kr⟩
  ·exact ⟨false,zml,wk At.schema_ValidName [sg h1,sb h2] kr⟩
 ·exact ⟨false,zml,wk At.schema_ValidName [sb h1] kr⟩
theorem zan (s:Str):zac E0 S.schema_ValidName [sv s] [] (bv (zaP s)) []:=by
 obtain ⟨r,rfl,h⟩:=zkf s
 exact h
end Go.AM
namespace Go.AM
set_option maxRecDepth 100000
set_option maxHeartbeats 1000000
set_option linter.unusedSimpArgs false
set_option linter.unusedVariables false
theorem zcD {p:Prop} (h:p:=by first|exact (zuD (by assumption)).symm|(rw [zuJ (by assumption) (by assumption)];clear hq hq2;generalize (e.kind==8)=k8 at *;generalize (e.kind==9)=k9 at *;subst_vars;simp only [zki,cond_false,cond_true,Bool.or_self,Bool.or_false,Bool.true_or,Bool.false_or,Bool.or_true,Bool.true_and,Bool.false_and,Bool.and_true,Bool.and_false, *])):p:=h
theorem zfr {p:Prop} (h:p:=by first|assumption|omega|exact List.mem_of_getElem? (by assumption)|(simp only [bne_eq_false_iff_eq,zed] at *;omega)):p:=h
theorem zi5 {p:Prop} (h:p:=by (simp only [zix,zg1, *];simp_all)):p:=h
abbrev sINS:Str:=⟨#[73,78,83,69,82,84,69,68]⟩
abbrev sDEL:Str:=⟨#[68,69,76,69,84,69,68]⟩
abbrev sNW:Str:=⟨#[78,69,87]⟩
abbrev sOL:Str:=⟨#[79,76,68]⟩
abbrev sNo:Str:=⟨#[]⟩
def zcT (s:Str):Bool:=zaP s || s.toList==sINS.toList || s.toList==sDEL.toList
theorem zmH (s:Str) :∃ (r:Bool),r=zcT s∧zac E0 S.syntax_source [sv s] [] (bv r) []:=by
 cases h1:zaP s
 ·let p_1:List St:=[sc (zan s),sg h1]
  cases h2:ByteArray.toList s==(ByteArray.mk #[73,78,83,69,82,84,69,68]).toList
  ·exact ⟨ByteArray.toList s==(ByteArray.mk #[(68:UInt8),(69:UInt8),(76:UInt8),(69:UInt8),(84:UInt8),(69:UInt8),(68:UInt8)]).toList,(by (simp only [zcT, *];simp)),wk At.syntax_source (p_1++[sg h2]) kr⟩
  ·exact ⟨true,(by (simp only [zcT, *];simp)),wk At.syntax_source (p_1++[sb h2]) kr⟩
 ·exact ⟨true,(by (simp only [zcT, *];simp)),wk At.syntax_source [sc (zan s),sb h1] kr⟩
theorem za2 (s:Str):zac E0 S.syntax_source [sv s] [] (bv (zcT s)) []:=by
 obtain ⟨r,rfl,h⟩:=zmH s
 exact h
def zg1 (s:Str):Bool:=s.toList==sNo.toList || s.toList==sNW.toList || s.toList==sOL.toList || s.toList==sINS.toList || s.toList==sDEL.toList || zaP s
def zix (e:X):Bool:=zg1 e.table&&zaP e.name
theorem zmJ (e:X) :∃ (r:Bool),r=zix e∧zac E0 S.syntax_column [e.av] [] (bv r) []:=by
 cases h1:ByteArray.toList e.table==(ByteArray.mk #[]).toList
 ·cases h2:ByteArray.toList e.table==(ByteArray.mk #[78,69,87]).toList
  ·cases h3:ByteArray.toList e.table==(ByteArray.mk #[79,76,68]).toList
   ·cases h4:ByteArray.toList e.table==(ByteArray.mk #[73,78,83,69,82,84,69,68]).toList
    ·cases h5:ByteArray.toList e.table==(ByteArray.mk #[68,69,76,69,84,69,68]).toList
     ·let p_1:List St:=[sb h1,sb h2,sb h3,sb h4,sb h5,sc (zan e.table)]
      cases h6:!zaP e.table
      ·exact ⟨zaP e.name,zi5,wk At.syntax_column (p_1++[sb h6,sc (zan e.name)]) kr⟩
      ·exact ⟨false,zi5,wk At.syntax_column (p_1++[sb h6]) kr⟩
     ·exact ⟨zaP e.name,zi5,wk At.syntax_column [sb h1,sb h2,sb h3,sb h4,sb h5,sc (zan e.name)] kr⟩
    ·exact ⟨zaP e.name,zi5,wk At.syntax_column [sb h1,sb h2,sb h3,sb h4,sc (zan e.name)] kr⟩
   ·exact ⟨zaP e.name,zi5,wk At.syntax_column [sb h1,sb h2,sb h3,sc (zan e.name)] kr⟩
  ·exact ⟨zaP e.name,zi5,wk At.syntax_column [sb h1,sb h2,sc (zan e.name)] kr⟩
 ·exact ⟨zaP e.name,zi5,wk At.syntax_column [sb h1,sc (zan e.name)] kr⟩
theorem zma (e:X):zac E0 S.syntax_column [e.av] [] (bv (zix e)) []:=by
 obtain ⟨r,rfl,h⟩:=zmJ e
 exact h
def argN (k:Int):Int:=bif k==3 || k==4 || k==6 then 1 else bif k==5 then 2 else bif k==7 then 3 else -1
theorem zjC (k:Int) :∃ (r:Int),r=argN k∧zac E0 S.syntax_arguments [iv k] [] (iv r) []:=by
 cases h1:k==3
 ·cases h2:k==4
  ·cases h3:k==6
   ·cases h4:k==5
    ·cases h5:k==7
     ·exact ⟨-1,(by (simp only [argN, *];rfl)),wk At.syntax_arguments [sb h1,sb h2,sb h3,sb h4,sb h5] kr⟩
     ·exact ⟨3,(by (simp only [argN, *];rfl)),wk At.syntax_arguments [sb h1,sb h2,sb h3,sb h4,sb h5] kr⟩
    ·exact ⟨2,(by (simp only [argN, *];rfl)),wk At.syntax_arguments [sb h1,sb h2,sb h3,sb h4] kr⟩
   ·exact ⟨1,(by (simp only [argN, *];rfl)),wk At.syntax_arguments [sb h1,sb h2,sb h3] kr⟩
  ·exact ⟨1,(by (simp only [argN, *];rfl)),wk At.syntax_arguments [sb h1,sb h2] kr⟩
 ·exact ⟨1,(by (simp only [argN, *];rfl)),wk At.syntax_arguments [sb h1] kr⟩
theorem zb1 (k:Int):zac E0 S.syntax_arguments [iv k] [] (iv (argN k)) []:=by
 obtain ⟨r,rfl,h⟩:=zjC k
 exact h
theorem zhD (e:X) (b:Bool) (h:zac E0 S.syntax_ValidExpr [e.av] [] (bv b) []):∃ (r:Bool),r=!b∧zac E0 S.syntax_validExprs_c1 [e.av] [] (bv r) []:=by
 exact ⟨!b,(by rfl),wk At.syntax_validExprs_c1 [sc h] kr⟩
theorem zhy (e:X) (b:Bool) (h:zac E0 S.syntax_ValidExpr [e.av] [] (bv b) []):zac E0 S.syntax_validExprs_c1 [e.av] [] (bv (!b)) []:=by
 obtain ⟨r,rfl,h⟩:=zhD e b h
 exact h
theorem notT {b:Bool} (h:(!b)=false):b=true:=by simpa using h
theorem notF {b:Bool} (h:(!b)=true):b=false:=by simpa using h
noncomputable def zs1 (l:List X) (f:X→Bool) (i:Nat) :Cfg:=zar B.slices_IndexFunc_Expr_199 0 [(0,xsl l),(1,.fn S.syntax_validExprs_c1 []),(7,iv ((zab l).length:Nat)),(8,iv (i:Nat))] []
theorem zds (l:List X) (f:X→Bool) (hl:zad l) (hf:∀ x∈l,Pure S.syntax_ValidExpr [x.av] (bv (f x))) (i:Nat)  (hi:i≤(l).length) (hI:(l.take i).all f=true):(((l.take (l).length).all f=true)∧(decide ((((l).length:Nat):Int) < (((zab l).length:Nat):Int))=false)∧∀ R,Good E0 B.slices_IndexFunc_Expr_199 [] (zs1 l f (l).length ) R→Good E0 B.slices_IndexFunc_Expr_199 [] (zs1 l f i ) R)∨(∃ (r:Int),(decide (0≤r)=true∧l.all f=false)∧Good E0 B.slices_IndexFunc_Expr_199 [] (zs1 l f i ) (Shut 0 fun rZ hZ=>rZ=(iv r)∧hZ=[])):=by
 obtain ⟨kk,hk⟩:∃ kk,i+kk=(l).length:=⟨(l).length - i,by omega⟩
 induction kk generalizing i  with
 | zero =>
  have e0:i=(l).length:=by omega
  subst e0
  exact .inl ⟨hI,by simp,fun R hg=>hg⟩
 | succ kk ih =>
  obtain ⟨x,hx⟩:=zay (l:=l) (i:=i) (by omega)
  have h0:decide (((i:Nat):Int) < (((zab l).length:Nat):Int))=true:=by simp;omega
  have hw:IntKind.i64.wrap (((i:Nat):Int)+1)=((i+1:Nat):Int):=zao i (by first|omega|(simp only [zad,Few] at *;omega))
  have hfx:=zhy x (f x) (hf x (List.mem_of_getElem? hx))
  cases h1:!f x
  ·exact (ih (i+1) (by omega) (by exact zcK hI hx (notT (by assumption))) (by omega)).elim (fun ⟨qZ,xZ,gZ⟩=>.inl ⟨qZ,xZ,fun R hg=>zaa (wkl [sb h0,se (zbv hx),sc hfx,sb h1,si hw] [0,1,7,8] 0 kr (gZ R hg))⟩) (fun ⟨rY,pZ,gZ⟩=>.inr ⟨rY,pZ,zaa (wkl [sb h0,se (zbv hx),sc hfx,sb h1,si hw] [0,1,7,8] 0 kr gZ)⟩)
  ·exact .inr ⟨(i:Int),(by exact ⟨by simp,zb0 hx (notF (by assumption))⟩),zaa (wkr [sb h0,se (zbv hx),sc hfx,sb h1] kr)⟩
theorem c_ixE (l:List X) (f:X→Bool) (hl:zad l) (hf:∀ x∈l,Pure S.syntax_ValidExpr [x.av] (bv (f x))):∃ (r:Int),decide (0≤r)=!l.all f∧zac E0 S.slices_IndexFunc_Expr_199 [xsl l,.fn S.syntax_validExprs_c1 []] [] (iv r) []:=by
 rcases zds l f (by first|assumption|omega|(simp;done)|(simp;omega)) hf 0 (by first|assumption|omega|(simp;done)|(simp;omega)) (by first|assumption|omega|(simp;done)|(simp;omega)) with ⟨q1,q1_1,g1⟩|⟨r1_0,p1_0,g1⟩
 ·exact ⟨-1,(by first|(have h:=(by assumption:List.all (List.take _ _) _=true);rw [List.take_length] at h;rw [h];rfl)|(have h:=(by assumption:_∧List.all _ _=false);rw [h.1,h.2];rfl)),wkc At.slices_IndexFunc_Expr_199 [] [0,1,7,8] 0 kr (g1 _ (zaa (wkr [sb q1_1] kr)))⟩
 ·exact ⟨r1_0,(by first|(have h:=(by assumption:List.all (List.take _ _) _=true);rw [List.take_length] at h;rw [h];rfl)|(have h:=(by assumption:_∧List.all _ _=false);rw [h.1,h.2];rfl)),wkc At.slices_IndexFunc_Expr_199 [] [0,1,7,8] 0 kr (g1)⟩
theorem c_cfE (l:List X) (f:X→Bool) (hi:∃ r:Int,decide (0≤r)=(!l.all f)∧zac E0 S.slices_IndexFunc_Expr_199 [xsl l,.fn S.syntax_validExprs_c1 []] [] (iv r) []):∃ (r:Bool),r=!l.all f∧zac E0 S.slices_ContainsFunc_Expr_175 [xsl l,.fn S.syntax_validExprs_c1 []] [] (bv r) []:=by
 obtain ⟨r1,q1,c1⟩:=hi
 exact ⟨decide ((0:Int)≤r1),(by assumption),wk At.slices_ContainsFunc_Expr_175 [sc c1] kr⟩
theorem c_vxs (l:List X) (f:X→Bool) (hc:zac E0 S.slices_ContainsFunc_Expr_175 [xsl l,.fn S.syntax_validExprs_c1 []] [] (bv (!l.all f)) []):∃ (r:Bool),r=l.all f∧zac E0 S.syntax_validExprs [xsl l] [] (bv r) []:=by
 exact ⟨!!l.all f,(by first|rfl|(simp;done)),wk At.syntax_validExprs [sc hc] kr⟩
theorem zeU (l:List X) (f:X→Bool) (hl:zad l) (hf:∀ x∈l,Pure S.syntax_ValidExpr [x.av] (bv (f x))):zac E0 S.syntax_validExprs [xsl l] [] (bv (l.all f)) []:=by
 obtain ⟨r,rfl,h⟩:=c_cfE l f (c_ixE l f hl hf)
 obtain ⟨r,rfl,h⟩:=c_vxs l f h
 exact h
def zki (f:X→Bool) (k8 k9:Bool) (q:Qy):Bool:=(q.star==k8)&&(((zab q.items).length:Int)==bif k8 || k9 then 0 else 1)&&zcT q.frm&&decide (((zab q.wh).length:Int)≤1)&&q.items.all f&&q.wh.all f
def zcV (f:X→Bool) (e:X):Bool:=match e.sub with
 | [q]=>zki f (e.kind==8) (e.kind==9) q
 | _=>false
theorem zuD {f:X→Bool} {e:X} (h:(((zaf e.sub).length:Int) != 1)=true):zcV f e=false:=by
 unfold zcV
 split
 ·rename_i h2;rw [h2] at h;simp at h
 ·rfl
theorem zuJ {f:X→Bool} {e:X} {q:Qy} (h:(((zaf e.sub).length:Int) != 1)=false) (h2:e.sub[0]?=some q):zcV f e=zki f (e.kind==8) (e.kind==9) q:=by
 have h3:e.sub=[q]:=by
  cases hs:e.sub with
  | nil=>rw [hs] at h2;simp at h2
  | cons a r =>
   rw [hs] at h2 h;simp at h2;subst h2
   cases r with
   | nil=>rfl
   | cons b r=>simp at h;omega
 unfold zcV;rw [h3]
theorem zm4 (e:X) (f:X→Bool) (hq:∀ q∈e.sub,zac E0 S.syntax_validExprs [xsl q.items] [] (bv (q.items.all f)) []) (hq2:∀ q∈e.sub,zac E0 S.syntax_validExprs [xsl q.wh] [] (bv (q.wh.all f)) []):∃ (r:Bool),r=zcV f e∧zac E0 S.syntax_inner [e.av] [] (bv r) []:=by
 cases h1:(↑(zaf e.sub).length:Int) != 1
 ·obtain ⟨x2,e2⟩:=zay (l:=e.sub) (i:=0) zfr
  cases h3:e.kind==8
  ·cases h4:e.kind==9
   ·cases h5:x2.star==(e.kind==8)
    ·exact ⟨false,zcD,wk At.syntax_inner [sb h1,se (zaR e2),sg h3,sb h4,sb h5] kr⟩
    ·cases h6:(↑(zab x2.items).length:Int)==1
     ·exact ⟨false,zcD,wk At.syntax_inner [sb h1,se (zaR e2),sg h3,sb h4,sg h5,sb h6] kr⟩
     ·cases h7:zcT x2.frm
      ·exact ⟨false,zcD,wk At.syntax_inner [sb h1,se (zaR e2),sg h3,sb h4,sg h5,sg h6,sc (za2 x2.frm),sb h7] kr⟩
      ·cases h8:decide ((↑(zab x2.wh).length:Int)≤1)
       ·exact ⟨false,zcD,wk At.syntax_inner [sb h1,se (zaR e2),sg h3,sb h4,sg h5,sg h6,sc (za2 x2.frm),sg h7,sb h8] kr⟩
       ·cases h9:x2.items.all f
        ·exact ⟨false,zcD,wk At.syntax_inner [sb h1,se (zaR e2),sg h3,sb h4,sg h5,sg h6,sc (za2 x2.frm),sg h7,sg h8,sc (hq x2 zfr),sb h9] kr⟩
        ·exact ⟨x2.wh.all f,zcD,wk At.syntax_inner [sb h1,se (zaR e2),sg h3,sb h4,sg h5,sg h6,sc (za2 x2.frm),sg h7,sg h8,sc (hq x2 zfr),sg h9,sc (hq2 x2 zfr)] kr⟩
   ·cases h10:x2.star==(e.kind==8)
    ·exact ⟨false,zcD,wk At.syntax_inner [sb h1,se (zaR e2),sg h3,sb h4,sb h10] kr⟩
    ·cases h11:(↑(zab x2.items).length:Int)==0
     ·exact ⟨false,zcD,wk At.syntax_inner [sb h1,se (zaR e2),sg h3,sb h4,sg h10,sb h11] kr⟩
     ·cases h12:zcT x2.frm
      ·exact ⟨false,zcD,wk At.syntax_inner [sb h1,se (zaR e2),sg h3,sb h4,sg h10,sg h11,sc (za2 x2.frm),sb h12] kr⟩
      ·cases h13:decide ((↑(zab x2.wh).length:Int)≤1)
       ·exact ⟨false,zcD,wk At.syntax_inner [sb h1,se (zaR e2),sg h3,sb h4,sg h10,sg h11,sc (za2 x2.frm),sg h12,sb h13] kr⟩
       ·cases h14:x2.items.all f
        ·exact ⟨false,zcD,wk At.syntax_inner [sb h1,se (zaR e2),sg h3,sb h4,sg h10,sg h11,sc (za2 x2.frm),sg h12,sg h13,sc (hq x2 zfr),sb h14] kr⟩
        ·exact ⟨x2.wh.all f,zcD,wk At.syntax_inner [sb h1,se (zaR e2),sg h3,sb h4,sg h10,sg h11,sc (za2 x2.frm),sg h12,sg h13,sc (hq x2 zfr),sg h14,sc (hq2 x2 zfr)] kr⟩
  ·cases h15:x2.star==(e.kind==8)
   ·exact ⟨false,zcD,wk At.syntax_inner [sb h1,se (zaR e2),sb h3,sb h15] kr⟩
   ·cases h16:(↑(zab x2.items).length:Int)==0
    ·exact ⟨false,zcD,wk At.syntax_inner [sb h1,se (zaR e2),sb h3,sg h15,sb h16] kr⟩
    ·cases h17:zcT x2.frm
     ·exact ⟨false,zcD,wk At.syntax_inner [sb h1,se (zaR e2),sb h3,sg h15,sg h16,sc (za2 x2.frm),sb h17] kr⟩
     ·cases h18:decide ((↑(zab x2.wh).length:Int)≤1)
      ·exact ⟨false,zcD,wk At.syntax_inner [sb h1,se (zaR e2),sb h3,sg h15,sg h16,sc (za2 x2.frm),sg h17,sb h18] kr⟩
      ·cases h19:x2.items.all f
       ·exact ⟨false,zcD,wk At.syntax_inner [sb h1,se (zaR e2),sb h3,sg h15,sg h16,sc (za2 x2.frm),sg h17,sg h18,sc (hq x2 zfr),sb h19] kr⟩
       ·exact ⟨x2.wh.all f,zcD,wk At.syntax_inner [sb h1,se (zaR e2),sb h3,sg h15,sg h16,sc (za2 x2.frm),sg h17,sg h18,sc (hq x2 zfr),sg h19,sc (hq2 x2 zfr)] kr⟩
 ·exact ⟨false,zcD,wk At.syntax_inner [sb h1] kr⟩
end Go.AM
namespace Go.AM
set_option maxRecDepth 100000
set_option maxHeartbeats 1000000
set_option linter.unusedSimpArgs false
set_option linter.unusedVariables false
theorem zbQ {p:Prop} (h:p:=by (clear hva hin;simp only [vXF,zec,cond_true,cond_false,Bool.or_true,Bool.or_false,Bool.true_or,Bool.false_or,Bool.or_self, *])):p:=h
def zec (f:X→Bool) (e:X):Bool:=bif ((zab e.args).length:Int)==argN e.kind then e.args.all f else false
def vXF (f:X→Bool) (e:X):Bool :=
 bif e.kind==1 then (bif zbC e 4 then (bif zaM e.val then !(bif e.val.kind==1 then decide (e.val.int < 0) else false) else false) else false)
 else bif e.kind==2 then (bif zbC e 8 then zix e else false)
 else bif e.kind==8 || e.kind==9 || e.kind==10 || e.kind==11 || e.kind==12 then (bif zbC e 32 then zcV f e else false)
 else bif e.kind==5 then (bif decide (e.op < 1) then false else bif decide (13 < e.op) then false else bif !zbC e 17 then false else zec f e)
 else bif e.kind==6 then (bif !zbC e 18 then false else zec f e)
 else bif !zbC e 16 then false else zec f e
theorem zjE (e:X) (f:X→Bool) (hs:e.val.small) (hva:zac E0 S.syntax_validExprs [xsl e.args] [] (bv (e.args.all f)) []) (hin:zac E0 S.syntax_inner [e.av] [] (bv (zcV f e)) []):∃ (r:Bool),r=vXF f e∧zac E0 S.syntax_ValidExpr [e.av] [] (bv r) []:=by
 cases h1:e.kind==1
 ·cases h2:e.kind==2
  ·cases h3:e.kind==8
   ·cases h4:e.kind==9
    ·cases h5:e.kind==10
     ·cases h6:e.kind==11
      ·cases h7:e.kind==12
       ·cases h8:e.kind==5
        ·cases h9:e.kind==6
         ·cases h10:!zbC e 16
          ·cases h11:(↑(zab e.args).length:Int)==argN e.kind
           ·exact ⟨false,zbQ,wk At.syntax_ValidExpr [sb h1,sb h2,sb h3,sb h4,sb h5,sb h6,sb h7,sb h8,sb h9,sc (zaI e 16),sb h10,sd [(5,[sc (zb1 e.kind)]),(8,[sb h11]),(9,[sb h11]),(10,[sb h11]),(11,[sb h11])]] kr⟩
           ·exact ⟨bif (↑(zab e.args).length:Int)==argN e.kind then e.args.all f else false,zbQ,wk At.syntax_ValidExpr [sb h1,sb h2,sb h3,sb h4,sb h5,sb h6,sb h7,sb h8,sb h9,sc (zaI e 16),sb h10,sd [(5,[sc (zb1 e.kind)]),(8,[sg h11]),(9,[sg h11]),(10,[so h11 (sc hva)])]] kr⟩
          ·exact ⟨false,zbQ,wk At.syntax_ValidExpr [sb h1,sb h2,sb h3,sb h4,sb h5,sb h6,sb h7,sb h8,sb h9,sc (zaI e 16),sb h10] kr⟩
         ·cases h12:!zbC e 18
          ·cases h13:(↑(zab e.args).length:Int)==argN e.kind
           ·exact ⟨false,zbQ,wk At.syntax_ValidExpr [sb h1,sb h2,sb h3,sb h4,sb h5,sb h6,sb h7,sb h8,sb h9,sc (zaI e 18),sb h12,sd [(5,[sc (zb1 e.kind)]),(8,[sb h13]),(9,[sb h13]),(10,[sb h13]),(11,[sb h13])]] kr⟩
           ·exact ⟨bif (↑(zab e.args).length:Int)==argN e.kind then e.args.all f else false,zbQ,wk At.syntax_ValidExpr [sb h1,sb h2,sb h3,sb h4,sb h5,sb h6,sb h7,sb h8,sb h9,sc (zaI e 18),sb h12,sd [(5,[sc (zb1 e.kind)]),(8,[sg h13]),(9,[sg h13]),(10,[so h13 (sc hva)])]] kr⟩
          ·exact ⟨false,zbQ,wk At.syntax_ValidExpr [sb h1,sb h2,sb h3,sb h4,sb h5,sb h6,sb h7,sb h8,sb h9,sc (zaI e 18),sb h12] kr⟩
        ·cases h14:decide (e.op < 1)
         ·cases h15:decide (13 < e.op)
          ·cases h16:!zbC e 17
           ·cases h17:(↑(zab e.args).length:Int)==argN e.kind
            ·exact ⟨false,zbQ,wk At.syntax_ValidExpr [sb h1,sb h2,sb h3,sb h4,sb h5,sb h6,sb h7,sb h8,sg h14,sg h15,sc (zaI e 17),sb h16,sd [(5,[sc (zb1 e.kind)]),(8,[sb h17]),(9,[sb h17]),(10,[sb h17]),(11,[sb h17])]] kr⟩
            ·exact ⟨bif (↑(zab e.args).length:Int)==argN e.kind then e.args.all f else false,zbQ,wk At.syntax_ValidExpr [sb h1,sb h2,sb h3,sb h4,sb h5,sb h6,sb h7,sb h8,sg h14,sg h15,sc (zaI e 17),sb h16,sd [(5,[sc (zb1 e.kind)]),(8,[sg h17]),(9,[sg h17]),(10,[so h17 (sc hva)])]] kr⟩
           ·exact ⟨false,zbQ,wk At.syntax_ValidExpr [sb h1,sb h2,sb h3,sb h4,sb h5,sb h6,sb h7,sb h8,sg h14,sg h15,sc (zaI e 17),sb h16] kr⟩
          ·exact ⟨false,zbQ,wk At.syntax_ValidExpr [sb h1,sb h2,sb h3,sb h4,sb h5,sb h6,sb h7,sb h8,sg h14,sb h15] kr⟩
         ·exact ⟨false,zbQ,wk At.syntax_ValidExpr [sb h1,sb h2,sb h3,sb h4,sb h5,sb h6,sb h7,sb h8,sb h14] kr⟩
       ·cases h18:zbC e 32
        ·exact ⟨false,zbQ,wk At.syntax_ValidExpr [sb h1,sb h2,sb h3,sb h4,sb h5,sb h6,sb h7,sc (zaI e 32),sb h18] kr⟩
        ·exact ⟨zcV f e,zbQ,wk At.syntax_ValidExpr [sb h1,sb h2,sb h3,sb h4,sb h5,sb h6,sb h7,sc (zaI e 32),sg h18,sc hin] kr⟩
      ·cases h19:zbC e 32
       ·exact ⟨false,zbQ,wk At.syntax_ValidExpr [sb h1,sb h2,sb h3,sb h4,sb h5,sb h6,sc (zaI e 32),sb h19] kr⟩
       ·exact ⟨zcV f e,zbQ,wk At.syntax_ValidExpr [sb h1,sb h2,sb h3,sb h4,sb h5,sb h6,sc (zaI e 32),sg h19,sc hin] kr⟩
     ·cases h20:zbC e 32
      ·exact ⟨false,zbQ,wk At.syntax_ValidExpr [sb h1,sb h2,sb h3,sb h4,sb h5,sc (zaI e 32),sb h20] kr⟩
      ·exact ⟨zcV f e,zbQ,wk At.syntax_ValidExpr [sb h1,sb h2,sb h3,sb h4,sb h5,sc (zaI e 32),sg h20,sc hin] kr⟩
    ·cases h21:zbC e 32
     ·exact ⟨false,zbQ,wk At.syntax_ValidExpr [sb h1,sb h2,sb h3,sb h4,sc (zaI e 32),sb h21] kr⟩
     ·exact ⟨zcV f e,zbQ,wk At.syntax_ValidExpr [sb h1,sb h2,sb h3,sb h4,sc (zaI e 32),sg h21,sc hin] kr⟩
   ·cases h22:zbC e 32
    ·exact ⟨false,zbQ,wk At.syntax_ValidExpr [sb h1,sb h2,sb h3,sc (zaI e 32),sb h22] kr⟩
    ·exact ⟨zcV f e,zbQ,wk At.syntax_ValidExpr [sb h1,sb h2,sb h3,sc (zaI e 32),sg h22,sc hin] kr⟩
  ·cases h23:zbC e 8
   ·exact ⟨false,zbQ,wk At.syntax_ValidExpr [sb h1,sb h2,sc (zaI e 8),sb h23] kr⟩
   ·exact ⟨zix e,zbQ,wk At.syntax_ValidExpr [sb h1,sb h2,sc (zaI e 8),sg h23,sc (zma e)] kr⟩
 ·cases h24:zbC e 4
  ·exact ⟨false,zbQ,wk At.syntax_ValidExpr [sb h1,sc (zaI e 4),sb h24] kr⟩
  ·cases h25:zaM e.val
   ·exact ⟨false,zbQ,wk At.syntax_ValidExpr [sb h1,sc (zaI e 4),sg h24,sc (zcM e.val (by first|assumption|omega|(simp;done)|(simp;omega))),sb h25] kr⟩
   ·cases h26:e.val.kind==1
    ·exact ⟨!false,zbQ,wk At.syntax_ValidExpr [sb h1,sc (zaI e 4),sg h24,sc (zcM e.val (by first|assumption|omega|(simp;done)|(simp;omega))),sg h25,sb h26] kr⟩
    ·exact ⟨!decide (e.val.int < (0:Int)),zbQ,wk At.syntax_ValidExpr [sb h1,sc (zaI e 4),sg h24,sc (zcM e.val (by first|assumption|omega|(simp;done)|(simp;omega))),sg h25,sg h26] kr⟩
def vX:Nat→X→Bool
 | 0,_=>false
 | n+1,e=>vXF (vX n) e
theorem zcp:∀ (n:Nat) (e:X),XOk n e→Pure S.syntax_ValidExpr [e.av] (bv (vX n e))
 | 0,_,h=>h.elim
 | n+1,e,⟨hg,ha,hx,hs⟩=>by
  obtain ⟨r,rfl,h⟩:=zm4 e (vX n) (fun q hq=>zeU _ _ (Thin.short (hs q hq).1.1) fun x h'=>zcp n x ((hs q hq).2.1 x h')) (fun q hq=>zeU _ _ (Thin.short (hs q hq).1.2) fun x h'=>zcp n x ((hs q hq).2.2 x h'))
  obtain ⟨r,rfl,h⟩:=zjE e (vX n) hg.small (zeU _ _ (Thin.short ha.1) fun x h'=>zcp n x (hx x h')) h
  exact h
theorem zg3 {n:Nat} {l:List X} (hf:zad l) (h:∀ x∈l,XOk n x):zac E0 S.syntax_validExprs [xsl l] [] (bv (l.all (vX n))) []:=zeU l _ hf fun x hx=>zcp n x (h x hx)
def zcE (f:X→Bool) (l:List X):Bool:=bif decide (((zab l).length:Int)≤1) then l.all f else false
theorem zjs (l:List X) (f:X→Bool) (h:zac E0 S.syntax_validExprs [xsl l] [] (bv (l.all f)) []):∃ (r:Bool),r=zcE f l∧zac E0 S.syntax_condition [xsl l] [] (bv r) []:=by
 cases h1:decide ((↑(zab l).length:Int)≤1)
 ·exact ⟨false,(by (clear h;simp only [zcE,cond_true,cond_false, *])),wk At.syntax_condition [sb h1] kr⟩
 ·exact ⟨l.all f,(by (clear h;simp only [zcE,cond_true,cond_false, *])),wk At.syntax_condition [sg h1,sc h] kr⟩
theorem zfG {n:Nat} {l:List X} (hf:zad l) (h:∀ x∈l,XOk n x):zac E0 S.syntax_condition [xsl l] [] (bv (zcE (vX n) l)) []:=by
 obtain ⟨r,rfl,h⟩:=zjs l (vX n) (zg3 hf h)
 exact h
end Go.AM
namespace Go.AM
set_option maxRecDepth 100000
set_option maxHeartbeats 1000000
set_option linter.unusedSimpArgs false
set_option linter.unusedVariables false
theorem PrefOk.good {cols:List Col} {vals:List V} (h:zcU cols vals):∀ v∈vals,v.Good:=fun v hv=>by
 obtain ⟨k,hk,hkv⟩:=List.mem_iff_getElem.1 hv
 have hl:=h.len
 obtain ⟨c,hc⟩:=zay (l:=cols) (i:=k) (by omega)
 exact (h.at_ k c v hc (by rw [← hkv];simp)).good
theorem FsT.ok {frs:List Fr} (h:FsT frs) (n:Nat) (hn:n≤900000):FsOk n frs :=
 ⟨by have:=h.len;omega,fun f hf=>zaQ (h.few f hf),fun f hf v hv=>((h.rows f hf).good v hv).small⟩
theorem FsT.g {frs:List Fr} (h:FsT frs):FsG frs:=fun f hf v hv=>(h.rows f hf).good v hv
theorem StoreOk.tbOk {l:List Tb} (h:StoreOk l):TbOk l :=
 ⟨by have:=h.len;simp only [zad];omega,fun x hx=>(h.tabs x hx).2.short,fun x hx=>(h.tabs x hx).1.len,fun x hx r hr v hv=>(((h.tabs x hx).1.rows r hr).good v hv).small⟩
theorem StoreOk.tbG {l:List Tb} (h:StoreOk l):TbG l :=
 ⟨fun x hx r hr v hv=>((h.tabs x hx).1.rows r hr).good v hv,fun x hx=>(h.tabs x hx).1.len⟩
theorem zo7 (n:Nat) (hn:n≤1000):FsOk n []:=⟨by simp;omega,fun f hf=>(by cases hf),fun f hf=>(by cases hf)⟩
theorem zrs:FsG []:=fun f hf=>by cases hf
end Go.AM
namespace Go.AM
set_option maxRecDepth 100000
set_option maxHeartbeats 1000000
set_option linter.unusedSimpArgs false
set_option linter.unusedVariables false
/- ### the order of values -/
theorem zjM (a:ByteArray):a.toList=a.data.toList:=Lib.toList_data a
theorem znc {a b:Str} (h:a.toList=b.toList):a=b:=by
 rw [zjM,zjM] at h
 cases a;cases b;simp at h;rw [h]
theorem zks {a b:Int} (h:a < b):cmpI a b=-1:=by simp [cmpI,h]
theorem zkI {a b:Int} (h:a=b):cmpI a b=0:=by simp [cmpI,h]
theorem zkt {a b:Int} (h:b < a):cmpI a b=1:=by
 have:¬ a < b:=by omega
 simp [cmpI,h,this]
/- ### least and greatest items -/
/- ### sums -/
end Go.AM
namespace Go.AM
set_option maxRecDepth 100000
set_option maxHeartbeats 1000000
set_option linter.unusedSimpArgs false
set_option linter.unusedVariables false
abbrev frIn (frs:List Fr) (s:Sch):List Fr:=frs++[⟨s.name,false,s.cols,[]⟩]
abbrev xA (k o:Int) (nt:Bool) (l:List X):X:=X.mk k o nt ⟨0,0,⟨#[]⟩⟩ ⟨#[]⟩ ⟨#[]⟩ l []
abbrev xQ (k:Int) (st:Bool) (it:List X) (f:Str) (wh:List X):X:=X.mk k 0 false ⟨0,0,⟨#[]⟩⟩ ⟨#[]⟩ ⟨#[]⟩ [] [Qy.mk st it f wh]
def ColT (frs:List Fr) (w:Int) (x:X):Prop:=∃ (i:Nat) (f:Fr) (c:Col) (a:Str),frs[i]?=some f∧c∈f.cols∧c.type=w∧x=xCol a c.name∧(a=f.name∨(a=⟨#[]⟩∧f.strict=false∧i+1=frs.length))
def BinT (op w' w:Int):Prop:=(1≤op∧op≤2∧w'=2∧w=2)∨(3≤op∧op≤8∧w=2)∨(9≤op∧op≤13∧w'=1∧w=1)
def QryT (k w:Int) (st:Bool) (m:Nat):Prop:=(k=8∧w=2∧st=true∧m=0)∨(k=9∧w=1∧st=false∧m=0)∨(10≤k∧k≤12∧w=1∧st=false∧m=1)
inductive XT (tbs:List Sch):Nat→List Fr→Int→X→Prop
 | lit {n:Nat} {frs:List Fr} {w:Int} {v:V}:v.Good→(v.kind=0∨v.kind=w)→(v.kind=1→0≤v.int)→XT tbs (n+1) frs w (xLit v)
 | col {n:Nat} {frs:List Fr} {w:Int} {x:X}:ColT frs w x→XT tbs (n+1) frs w x
 | un {n:Nat} {frs:List Fr} {k w:Int} {a:X}:(k=3∧w=2∨k=4∧w=1)→XT tbs n frs w a→XT tbs (n+1) frs w (xA k 0 false [a])
 | isn {n:Nat} {frs:List Fr} {w:Int} {nt:Bool} {a:X}:XT tbs n frs w a→XT tbs (n+1) frs 2 (xA 6 0 nt [a])
 | bin {n:Nat} {frs:List Fr} {op w' w:Int} {a b:X}:BinT op w' w→XT tbs n frs w' a→XT tbs n frs w' b→XT tbs (n+1) frs w (xA 5 op false [a,b])
 | btw {n:Nat} {frs:List Fr} {a b c:X}:XT tbs n frs 1 a→XT tbs n frs 1 b→XT tbs n frs 1 c→XT tbs (n+1) frs 2 (xA 7 0 false [a,b,c])
 | qry {n:Nat} {frs:List Fr} {k w:Int} {st:Bool} {it wh:List X} {s:Sch}:s∈tbs→QryT k w st it.length→wh.length≤1→(∀ x∈it,XT tbs n (frIn frs s) 1 x)→(∀ x∈wh,XT tbs n (frIn frs s) 2 x)→XT tbs (n+1) frs w (xQ k st it s.name wh)
theorem ColT.is {frs:List Fr} {w:Int} {x:X} (h:ColT frs w x):zog x:=by
 obtain ⟨i,f,c,a,_,_,_,h,_⟩:=h
 exact ⟨a,c.name,h⟩
theorem XT.ok {tbs:List Sch} {n:Nat} {frs:List Fr} {w:Int} {e:X} (h:XT tbs n frs w e):XOk n e:=by
 induction h with
 | lit h _ _=>exact zu1 h
 | col h=>exact zq7 h.is
 | un _ _ ih=>exact xok_1 ih
 | isn _ ih=>exact xok_1 ih
 | bin _ _ _ i1 i2=>exact xok_2 i1 i2
 | btw _ _ _ i1 i2 i3=>exact xok_3 i1 i2 i3
 | @qry n frs k w st it wh s hs hq hw _ _ i1 i2 =>
  refine xok_q ?_ i1 i2 hw
  rcases hq with ⟨_,_,_,h⟩|⟨_,_,_,h⟩|⟨_,_,_,_,h⟩ <;> simp [Thin,h]
theorem XT.mono {tbs:List Sch} {n:Nat} {frs:List Fr} {w:Int} {e:X} (h:XT tbs n frs w e):XT tbs (n+1) frs w e:=by
 induction h with
 | lit h h2 h3=>exact .lit h h2 h3
 | col h=>exact .col h
 | un h _ ih=>exact .un h ih
 | isn _ ih=>exact .isn ih
 | bin h _ _ i1 i2=>exact .bin h i1 i2
 | btw _ _ _ i1 i2 i3=>exact .btw i1 i2 i3
 | qry hs hq hw _ _ i1 i2=>exact .qry hs hq hw i1 i2
theorem XT.le {tbs:List Sch} {n m:Nat} {frs:List Fr} {w:Int} {e:X} (h:XT tbs n frs w e) (hm:n≤m):XT tbs m frs w e:=by
 induction hm with
 | refl=>exact h
 | step _ ih=>exact ih.mono
structure EnvT (G:Str→List Col):Prop where
 name:∀ n c,c∈G n→zaP c.name=true
 at_:∀ n (i:Nat) c,(G n)[i]?=some c→idxF (fun x=>colC x c.name) (G n) 0=(i:Int)
structure FsT' (G:Str→List Col) (frs:List Fr):Prop where
 cols:∀ f∈frs,f.cols=G f.name
 qual:∀ f∈frs,zg1 f.name=true
 ne:∀ f∈frs,f.name≠⟨#[]⟩
structure TbE (G:Str→List Col) (tbs:List Sch) (tb:List Tb):Prop where
 cols:∀ s∈tbs,s.cols=G s.name
 src:∀ s∈tbs,zcT s.name=true
 get:∀ s∈tbs,zap tb s.name=(s,true)
theorem zvR {s:Str} (h:zcT s=true):zg1 s=true∧s≠⟨#[]⟩:=by
 have h0:zcT ⟨#[]⟩=false:=by kernel_rfl
 refine ⟨?_,fun e=>by subst e;rw [h0] at h;cases h⟩
 simp only [zcT,Bool.or_eq_true] at h
 simp only [zg1,Bool.or_eq_true]
 rcases h with (h|h)|h
 ·exact .inr h
 ·exact .inl (.inl (.inr h))
 ·exact .inl (.inr h)
theorem FsT'.ins {G:Str→List Col} {tbs:List Sch} {tb:List Tb} {frs:List Fr} (h:FsT' G frs) (ht:TbE G tbs tb) {s:Sch} (hs:s∈tbs):FsT' G (frIn frs s):=by
 have h1:=zvR (ht.src s hs)
 refine ⟨fun f hf=>?_,fun f hf=>?_,fun f hf=>?_⟩ <;> simp only [List.mem_append,List.mem_singleton] at hf <;> rcases hf with hf|rfl
 ·exact h.cols f hf
 ·exact ht.cols s hs
 ·exact h.qual f hf
 ·exact h1.1
 ·exact h.ne f hf
 ·exact h1.2
theorem zdm (frs:List Fr) (s:Sch):zas frs s []=frIn frs s:=by cases s;rfl
theorem zt6 {G:Str→List Col} (hG:EnvT G) {frs:List Fr} (hf:FsT' G frs) {a n:Str} {c:Col} {i:Nat} {f:Fr} (hi:frs[i]?=some f) (hc:c∈f.cols) (hn:c.name=n) (ha:a=f.name∨(a=⟨#[]⟩∧f.strict=false∧i+1=frs.length)):∀ k,i < k→k≤frs.length→∃ (j m:Nat) (g:Fr),rres frs a n k=((j:Int),(m:Int),true)∧frs[j]?=some g∧g.cols[m]?=some c:=by
 intro k
 induction k with
 | zero=>intro h;omega
 | succ k ih =>
  intro h1 h2
  have hx:=zna (l:=frs) (k:=k) zbc (by omega)
  generalize hg:frs.getD k zbc=g at hx
  have hgm:=List.mem_of_getElem? hx
  have hhit:c∈g.cols→zc7 frs a n k g (rres frs a n k) g.cols 0=((k:Int),idxF (fun x=>colC x n) g.cols 0,true)∧∃ m:Nat,idxF (fun x=>colC x n) g.cols 0=(m:Int)∧g.cols[m]?=some c:=fun hcg=>by
   obtain ⟨m,hm⟩:=List.getElem?_of_mem hcg
   have e:idxF (fun x=>colC x n) g.cols 0=(m:Int):=by
    have:=hG.at_ g.name m c (by rw [← hf.cols g hgm];exact hm)
    rw [hn,← hf.cols g hgm] at this;exact this
   refine ⟨?_,m,e,hm⟩
   rw [ziJ,e]
   have e1:decide ((0:Int)≤(m:Int))=true:=by simp
   have e2:pm1 (k+1)=(k:Int):=by simp [pm1]
   rw [e1,e2];rfl
  have hfin:c∈g.cols→∃ (j m:Nat) (g':Fr),zc7 frs a n k g (rres frs a n k) g.cols 0=((j:Int),(m:Int),true)∧frs[j]?=some g'∧g'.cols[m]?=some c:=fun hcg=>by
   obtain ⟨q1,m,q2,q3⟩:=hhit hcg
   exact ⟨k,m,g,by rw [q1,q2],hx,q3⟩
  have hsame:k=i→c∈g.cols:=fun e=>by
   subst e
   rw [hi,Option.some.injEq] at hx
   exact hx ▸ hc
  simp only [rres,hg]
  rcases ha with rfl|⟨rfl,h3,h4⟩
  ·have e0:(ByteArray.toList f.name==(ByteArray.mk #[]).toList)=false:=by
    cases hb:ByteArray.toList f.name==(ByteArray.mk #[]).toList
    ·rfl
    ·exact absurd (znc (by simpa using hb)) (hf.ne f (List.mem_of_getElem? hi))
   rw [e0,cond_false]
   cases hb:ByteArray.toList g.name==ByteArray.toList f.name
   ·simp only [Bool.not_false,cond_true]
    refine ih ?_ (by omega)
    rcases Nat.lt_or_ge i k with h|h
    ·exact h
    ·exfalso
     have e:k=i:=by omega
     subst e
     rw [hi,Option.some.injEq] at hx
     subst hx
     simp at hb
   ·simp only [Bool.not_true,cond_false]
    refine hfin ?_
    rw [hf.cols g hgm,znc (by simpa using hb:g.name.toList=f.name.toList),← hf.cols f (List.mem_of_getElem? hi)]
    exact hc
  ·have e0:(ByteArray.toList (⟨#[]⟩:Str)==(ByteArray.mk #[]).toList)=true:=by simp
   have e1:k=i:=by omega
   have hgf:g=f:=by
    have:=hx;rw [e1,hi,Option.some.injEq] at this;exact this.symm
   rw [e0,cond_true,hgf,h3,cond_false,← hgf]
   exact hfin (hsame e1)
theorem ColT.res {G:Str→List Col} (hG:EnvT G) {frs:List Fr} (hf:FsT' G frs) {w:Int} {x:X} (h:ColT frs w x):∃ a n,x=xCol a n∧(zaX frs a n).2.2=true∧(rCol frs a n).type=w∧zg1 a=true∧zaP n=true:=by
 obtain ⟨i,f,c,a,hi,hc,hw,rfl,ha⟩:=h
 obtain ⟨j,m,g,e,h1,h2⟩:=zt6 hG hf hi hc rfl ha frs.length (List.getElem?_eq_some_iff.1 hi).1 (Nat.le_refl _)
 have e':zaX frs a c.name=((j:Int),(m:Int),true):=e
 refine ⟨a,c.name,rfl,by rw [e'],?_,?_,hG.name f.name c (by rw [← hf.cols f (List.mem_of_getElem? hi)];exact hc)⟩
 ·have e1:rFr frs a c.name=g:=by simp [rFr,e',List.getD_eq_getElem?_getD,h1]
  have e2:rCol frs a c.name=c:=by simp [rCol,e1,e',List.getD_eq_getElem?_getD,h2]
  rw [e2,hw]
 ·rcases ha with rfl|⟨rfl,_,_⟩
  ·exact hf.qual f (List.mem_of_getElem? hi)
  ·kernel_rfl
end Go.AM
namespace Go.AM
set_option maxRecDepth 100000
set_option maxHeartbeats 1000000
set_option linter.unusedSimpArgs false
set_option linter.unusedVariables false
theorem zsf {p:Prop} (h:p:=by first|(have h:=nm_end (by assumption);unfold zeB;rw [h,show decide (8 < ((List.map zb2 l).length:Int))=false by assumption];rfl)|(have h:=‹_∧nmL [] _=false›;unfold zeB;rw [h.1,h.2];cases decide (8 < ((List.map zb2 l).length:Int)) <;> rfl)|(unfold zeB;rw [show decide (8 < ((List.map zb2 l).length:Int))=true by assumption];rfl)):p:=h
theorem zoj {p:Prop} (h:p:=by first|assumption|omega|(simp;done)|exact ⟨by simp,by simp⟩|(have h9:=And.left ‹_=List.map Se.col _∧List.all _ _=true›;rw [h9];simp only [zad,List.length_map,List.length_take] at *;omega)):p:=h
theorem zkO {p:Prop} (h:p:=by first|assumption|omega|(simp;done)|(simp;omega)):p:=h
theorem zl6 {p:Prop} (h:p:=by (clear ha hb;simp only [qyB,cond_true,cond_false, *])):p:=h
def qyB (f:X→Bool) (q:Qy):Bool:=bif !(q.star==(((zab q.items).length:Int)==0)) then false else bif decide (8 < ((zab q.items).length:Int)) then false else bif zcT q.frm then (bif q.items.all f then zcE f q.wh else false) else false
theorem zjh (q:Qy) (f:X→Bool) (ha:zac E0 S.syntax_validExprs [xsl q.items] [] (bv (q.items.all f)) []) (hb:zac E0 S.syntax_condition [xsl q.wh] [] (bv (zcE f q.wh)) []):∃ (r:Bool),r=qyB f q∧zac E0 S.syntax_ValidQuery [q.av] [] (bv r) []:=by
 cases h1:!q.star==((↑(zab q.items).length:Int)==0)
 ·cases h2:decide (8 < (↑(zab q.items).length:Int))
  ·cases h3:zcT q.frm
   ·exact ⟨false,zl6,wk At.syntax_ValidQuery [sg h1,sb h2,sc (za2 q.frm),sb h3] kr⟩
   ·cases h4:q.items.all f
    ·exact ⟨false,zl6,wk At.syntax_ValidQuery [sg h1,sb h2,sc (za2 q.frm),sg h3,sc ha,sb h4] kr⟩
    ·exact ⟨zcE f q.wh,zl6,wk At.syntax_ValidQuery [sg h1,sb h2,sc (za2 q.frm),sg h3,sc ha,sg h4,sc hb] kr⟩
  ·exact ⟨false,zl6,wk At.syntax_ValidQuery [sg h1,sb h2] kr⟩
 ·exact ⟨false,zl6,wk At.syntax_ValidQuery [sb h1] kr⟩
theorem zjl {n:Nat} {q:Qy} (h:QW n q):zac E0 S.syntax_ValidQuery [q.av] [] (bv (qyB (vX n) q)) []:=by
 obtain ⟨r,rfl,h⟩:=zjh q (vX n) (zg3 (zaQ h.items) h.hi) (zfG (zaQ h.wh) h.hw)
 exact h
def zcz (f:X→Bool) (l:List X):Bool:=bif decide (((zab l).length:Int) < 1) then true else bif decide (6 < ((zab l).length:Int)) then true else !l.all f
theorem ziu (l:List X) (f:X→Bool) (ha:zac E0 S.syntax_validExprs [xsl l] [] (bv (l.all f)) []):∃ (r:Bool),r=zcz f l∧zac E0 S.syntax_validRows_c1 [xsl l] [] (bv r) []:=by
 cases h1:decide ((↑(zab l).length:Int) < 1)
 ·cases h2:decide (6 < (↑(zab l).length:Int))
  ·exact ⟨!l.all f,(by (clear ha;simp only [zcz,cond_true,cond_false, *])),wk At.syntax_validRows_c1 [sg h1,sg h2,sc ha] kr⟩
  ·exact ⟨true,(by (clear ha;simp only [zcz,cond_true,cond_false, *])),wk At.syntax_validRows_c1 [sg h1,sb h2] kr⟩
 ·exact ⟨true,(by (clear ha;simp only [zcz,cond_true,cond_false, *])),wk At.syntax_validRows_c1 [sb h1] kr⟩
theorem zm1 {n:Nat} {l:List X} (hl:zad l) (h:∀ x∈l,XOk n x):zac E0 S.syntax_validRows_c1 [xsl l] [] (bv (zcz (vX n) l)) []:=by
 obtain ⟨r,rfl,h⟩:=ziu l (vX n) (zg3 hl h)
 exact h
noncomputable def zsg (l:List (List X)) (f:X→Bool) (i:Nat) :Cfg:=zar B.slices_IndexFunc_Expr 0 [(0,.sl (l.map zaH)),(1,.fn S.syntax_validRows_c1 []),(7,iv ((l.map zaH).length:Nat)),(8,iv (i:Nat))] []
theorem zdU (l:List (List X)) (f:X→Bool) (hl:zad l) (hf:∀ x∈l,Pure S.syntax_validRows_c1 [xsl x] (bv (zcz f x))) (i:Nat)  (hi:i≤(l).length) (hI:(l.take i).all (fun r=>!zcz f r)=true):(((l.take (l).length).all (fun r=>!zcz f r)=true)∧(decide ((((l).length:Nat):Int) < (((l.map zaH).length:Nat):Int))=false)∧∀ R,Good E0 B.slices_IndexFunc_Expr [] (zsg l f (l).length ) R→Good E0 B.slices_IndexFunc_Expr [] (zsg l f i ) R)∨(∃ (r:Int),(decide (0≤r)=true∧l.all (fun r=>!zcz f r)=false)∧Good E0 B.slices_IndexFunc_Expr [] (zsg l f i ) (Shut 0 fun rZ hZ=>rZ=(iv r)∧hZ=[])):=by
 obtain ⟨kk,hk⟩:∃ kk,i+kk=(l).length:=⟨(l).length - i,by omega⟩
 induction kk generalizing i  with
 | zero =>
  have e0:i=(l).length:=by omega
  subst e0
  exact .inl ⟨hI,by simp,fun R hg=>hg⟩
 | succ kk ih =>
  obtain ⟨x,hx⟩:=zay (l:=l) (i:=i) (by omega)
  have h0:decide (((i:Nat):Int) < (((l.map zaH).length:Nat):Int))=true:=by simp;omega
  have hw:IntKind.i64.wrap (((i:Nat):Int)+1)=((i+1:Nat):Int):=zao i (by first|omega|(simp only [zad,Few] at *;omega))
  have hfx:=hf x (List.mem_of_getElem? hx)
  let p_1:List St:=[sb h0,se (zah zaH hx rfl),sc hfx]
  cases h1:zcz f x
  ·exact (ih (i+1) (by omega) (by exact zcK hI hx (by simp only [*];rfl)) (by omega)).elim (fun ⟨qZ,xZ,gZ⟩=>.inl ⟨qZ,xZ,fun R hg=>zaa (wkl (p_1++[sb h1,si hw]) [0,1,7,8] 0 kr (gZ R hg))⟩) (fun ⟨rY,pZ,gZ⟩=>.inr ⟨rY,pZ,zaa (wkl [sb h0,se (zah zaH hx rfl),sc hfx,sb h1,si hw] [0,1,7,8] 0 kr gZ)⟩)
  ·exact .inr ⟨(i:Int),(by exact ⟨by simp,zb0 hx (by simp only [*];rfl)⟩),zaa (wkr (p_1++[sb h1]) kr)⟩
theorem c_ixR (l:List (List X)) (f:X→Bool) (hl:zad l) (hf:∀ x∈l,Pure S.syntax_validRows_c1 [xsl x] (bv (zcz f x))):∃ (r:Int),decide (0≤r)=!l.all (fun r=>!zcz f r)∧zac E0 S.slices_IndexFunc_Expr [.sl (l.map zaH),.fn S.syntax_validRows_c1 []] [] (iv r) []:=by
 rcases zdU l f zkO hf 0 zkO zkO with ⟨q1,q1_1,g1⟩|⟨r1_0,p1_0,g1⟩
 ·exact ⟨-1,(by first|(have h:=(by assumption:List.all (List.take _ _) _=true);rw [List.take_length] at h;rw [h];rfl)|(have h:=(by assumption:_∧List.all _ _=false);rw [h.1,h.2];rfl)),wkc At.slices_IndexFunc_Expr [] [0,1,7,8] 0 kr (g1 _ (zaa (wkr [sb q1_1] kr)))⟩
 ·exact ⟨r1_0,(by first|(have h:=(by assumption:List.all (List.take _ _) _=true);rw [List.take_length] at h;rw [h];rfl)|(have h:=(by assumption:_∧List.all _ _=false);rw [h.1,h.2];rfl)),wkc At.slices_IndexFunc_Expr [] [0,1,7,8] 0 kr (g1)⟩
theorem c_cfR (l:List (List X)) (b:Bool) (hi:∃ r:Int,decide (0≤r)=b∧zac E0 S.slices_IndexFunc_Expr [.sl (l.map zaH),.fn S.syntax_validRows_c1 []] [] (iv r) []):∃ (r:Bool),r=b∧zac E0 S.slices_ContainsFunc_Expr [.sl (l.map zaH),.fn S.syntax_validRows_c1 []] [] (bv r) []:=by
 obtain ⟨r1,q1,c1⟩:=hi
 exact ⟨decide ((0:Int)≤r1),(by assumption),wk At.slices_ContainsFunc_Expr [sc c1] kr⟩
def zea (f:X→Bool) (l:List (List X)):Bool:=bif decide (((l.map zaH).length:Int)≤8) then l.all (fun r=>!zcz f r) else false
theorem zjS (l:List (List X)) (f:X→Bool) (hi:zac E0 S.slices_ContainsFunc_Expr [.sl (l.map zaH),.fn S.syntax_validRows_c1 []] [] (bv (!l.all (fun r=>!zcz f r))) []):∃ (r:Bool),r=zea f l∧zac E0 S.syntax_validRows [.sl (l.map zaH)] [] (bv r) []:=by
 cases h1:decide ((↑(List.map zaH l).length:Int)≤8)
 ·exact ⟨false,(by (clear hi;simp only [zea,cond_true,cond_false,Bool.not_not, *])),wk At.syntax_validRows [sb h1] kr⟩
 ·exact ⟨!!l.all fun r=>!zcz f r,(by (clear hi;simp only [zea,cond_true,cond_false,Bool.not_not, *])),wk At.syntax_validRows [sg h1,sc hi] kr⟩
theorem zjJ {n:Nat} {l:List (List X)} (hl:zad l) (h:∀ r∈l,Few r∧∀ x∈r,XOk n x):zac E0 S.syntax_validRows [.sl (l.map zaH)] [] (bv (zea (vX n) l)) []:=by
 obtain ⟨r,rfl,h⟩:=c_cfR l _ (c_ixR l (vX n) hl fun x hx=>zm1 (zaQ (h x hx).1) (h x hx).2)
 obtain ⟨r,rfl,h⟩:=zjS l (vX n) h
 exact h
def nmL:List Str→List Str→Bool
 | _,[]=>true
 | pre,s::r=>bif !zaP s then false else bif hasS pre s then false else nmL (pre++[s]) r
def zeB (l:List Str):Bool:=bif decide (8 < ((l.map zb2).length:Int)) then false else nmL [] l
theorem zvQ {l:List Str} {i:Nat} {x:Str} (h:nmL [] l=nmL (l.take i) (l.drop i)) (hx:l[i]?=some x) (h1:(!zaP x)=false) (h2:hasS (l.take i) x=false):nmL [] l=nmL (l.take (i+1)) (l.drop (i+1)):=by
 obtain ⟨hi,e⟩:=List.getElem?_eq_some_iff.1 hx
 rw [h,List.drop_eq_getElem_cons hi,e]
 simp only [nmL,h1,h2,cond_false]
 rw [List.take_add_one,hx];rfl
theorem zlS {l:List Str} {i:Nat} {x:Str} (h:nmL [] l=nmL (l.take i) (l.drop i)) (hx:l[i]?=some x) (h1:(!zaP x)=true∨hasS (l.take i) x=true):nmL [] l=false:=by
 obtain ⟨hi,e⟩:=List.getElem?_eq_some_iff.1 hx
 rw [h,List.drop_eq_getElem_cons hi,e]
 rcases h1 with h1|h1
 ·simp only [nmL,h1,cond_true]
 ·simp only [nmL,h1,cond_true];cases !zaP x <;> rfl
theorem nm_end {l:List Str} (h:nmL [] l=nmL (l.take l.length) (l.drop l.length)):nmL [] l=true:=by
 rw [h,List.drop_length];rfl
noncomputable def L_nm (l:List Str) (i:Nat) :Cfg:=zar B.syntax_names 0 [(0,ssl l),(8,ssl l),(9,iv ((l.map zb2).length:Nat)),(10,iv (i:Nat))] []
theorem zg9 (l:List Str) (hl:zad l) (i:Nat)  (hi:i≤(l).length) (hI:nmL [] l=nmL (l.take i) (l.drop i)):((nmL [] l=nmL (l.take (l).length) (l.drop (l).length))∧(decide ((((l).length:Nat):Int) < (((l.map zb2).length:Nat):Int))=false)∧∀ R,Good E0 B.syntax_names [] (L_nm l (l).length ) R→Good E0 B.syntax_names [] (L_nm l i ) R)∨(∃ (r:Bool),(r=false∧nmL [] l=false)∧Good E0 B.syntax_names [] (L_nm l i ) (Shut 0 fun rZ hZ=>rZ=(bv r)∧hZ=[])):=by
 obtain ⟨kk,hk⟩:∃ kk,i+kk=(l).length:=⟨(l).length - i,by omega⟩
 induction kk generalizing i  with
 | zero =>
  have e0:i=(l).length:=by omega
  subst e0
  exact .inl ⟨hI,by simp,fun R hg=>hg⟩
 | succ kk ih =>
  obtain ⟨x,hx⟩:=zay (l:=l) (i:=i) (by omega)
  have h0:decide (((i:Nat):Int) < (((l.map zb2).length:Nat):Int))=true:=by simp;omega
  have hw:IntKind.i64.wrap (((i:Nat):Int)+1)=((i+1:Nat):Int):=zao i (by first|omega|(simp only [zad,Few] at *;omega))
  have hc:zac E0 S.slices_Contains_string [.sl ((l.map zb2).take i),sv x] [] (bv (hasS (l.take i) x)) []:=by
   rw [← List.map_take];exact zgL (l.take i) x (by simp only [zad,List.length_take] at *;omega)
  let p_1:List St:=[sb h0,se (zah (fun s=>[sv s]) hx rfl),sc (zan x)]
  cases h1:!zaP x
  ·let p_2:List St:=p_1++[sg h1,sqx (SubAt (List.map (fun s=>[sv s]) l) 0 (i:Int) 1),sc hc]
   cases h2:hasS (List.take i l) x
   ·exact (ih (i+1) (by omega) (by exact zvQ hI hx (by assumption) (by assumption)) (by omega)).elim (fun ⟨qZ,xZ,gZ⟩=>.inl ⟨qZ,xZ,fun R hg=>zaa (wkl (p_2++[sb h2,si hw]) [0,8,9,10] 0 kr (gZ R hg))⟩) (fun ⟨rY,pZ,gZ⟩=>.inr ⟨rY,pZ,zaa (wkl [sb h0,se (zah (fun s=>[sv s]) hx rfl),sc (zan x),sg h1,sqx (SubAt (List.map (fun s=>[sv s]) l) 0 (i:Int) 1),sc hc,sb h2,si hw] [0,8,9,10] 0 kr gZ)⟩)
   ·exact .inr ⟨false,(by first|exact ⟨rfl,zlS hI hx (.inl (by assumption))⟩|exact ⟨rfl,zlS hI hx (.inr (by assumption))⟩),zaa (wkr (p_2++[sb h2]) kr)⟩
  ·exact .inr ⟨false,(by first|exact ⟨rfl,zlS hI hx (.inl (by assumption))⟩|exact ⟨rfl,zlS hI hx (.inr (by assumption))⟩),zaa (wkr (p_1++[sb h1]) kr)⟩
theorem zmY (l:List Str) (hl:zad l):∃ (r:Bool),r=zeB l∧zac E0 S.syntax_names [ssl l] [] (bv r) []:=by
 cases h1:decide (8 < (↑(List.map (fun s=>[sv s]) l).length:Int))
 ·rcases zg9 l zkO 0 zkO zkO with ⟨q2,q2_1,g2⟩|⟨r2_0,p2_0,g2⟩
  ·exact ⟨true,zsf,wkc At.syntax_names [sb h1] [0,8,9,10] 0 kr (g2 _ (zaa (wkr [sb q2_1] kr)))⟩
  ·exact ⟨r2_0,zsf,wkc At.syntax_names [sb h1] [0,8,9,10] 0 kr (g2)⟩
 ·exact ⟨false,zsf,wk At.syntax_names [sb h1] kr⟩
theorem zm6 (l:List Str) (hl:zad l):zac E0 S.syntax_names [ssl l] [] (bv (zeB l)) []:=by
 obtain ⟨r,rfl,h⟩:=zmY l hl
 exact h
def zdr (f:X→Bool) (l:List Se):Bool:=bif l.all (fun s=>f s.ex) then zeB (l.map Se.col) else false
noncomputable def L_vs (l:List Se) (f:X→Bool) (i:Nat) (cs:List Str):Cfg:=zar B.syntax_validSets 0 [(3,.own 0 cs.length),(6,.sl (l.map Se.cells)),(7,iv ((l.map Se.cells).length:Nat)),(8,iv (i:Nat))] [.row Ty.string (cs.map zb2) false]
theorem zfH (l:List Se) (f:X→Bool) (hl:zad l) (hf:∀ x∈l,Pure S.syntax_ValidExpr [x.ex.av] (bv (f x.ex))) (i:Nat) (cs:List Str) (hi:i≤(l).length) (hI:cs=(l.take i).map Se.col∧(l.take i).all (fun s=>f s.ex)=true):(∃ (cs':List Str),(cs'=(l.take (l).length).map Se.col∧(l.take (l).length).all (fun s=>f s.ex)=true)∧(decide ((((l).length:Nat):Int) < (((l.map Se.cells).length:Nat):Int))=false)∧∀ R,Good E0 B.syntax_validSets [] (L_vs l f (l).length cs') R→Good E0 B.syntax_validSets [] (L_vs l f i cs) R)∨(∃ (r:Bool),(r=false∧l.all (fun s=>f s.ex)=false)∧Good E0 B.syntax_validSets [] (L_vs l f i cs) (Shut 0 fun rZ hZ=>rZ=(bv r)∧hZ=[])):=by
 obtain ⟨kk,hk⟩:∃ kk,i+kk=(l).length:=⟨(l).length - i,by omega⟩
 induction kk generalizing i cs with
 | zero =>
  have e0:i=(l).length:=by omega
  subst e0
  exact .inl ⟨cs,hI,by simp,fun R hg=>hg⟩
 | succ kk ih =>
  obtain ⟨x,hx⟩:=zay (l:=l) (i:=i) (by omega)
  have h0:decide (((i:Nat):Int) < (((l.map Se.cells).length:Nat):Int))=true:=by simp;omega
  have hw:IntKind.i64.wrap (((i:Nat):Int)+1)=((i+1:Nat):Int):=zao i (by first|omega|(simp only [zad,Few] at *;omega))
  have hfx:=hf x (List.mem_of_getElem? hx)
  have hcl:cs.length≤1000000000:=by rw [hI.1];simp only [zad,List.length_map,List.length_take] at *;omega
  let p_1:List St:=[sb h0,se (zah Se.cells hx rfl),sqx (AllLen [[sv x.col]] 1∧cs.length=(List.map zb2 cs).length∧(((List.map zb2 cs).length+[[sv x.col]].length) * 16).le 140737488355328),sc hfx]
  cases h1:!f x.ex
  ·exact (ih (i+1) (cs++[x.col]) (by omega) (by exact ⟨by rw [hI.1,List.take_add_one,hx];simp,zcK hI.2 hx (notT (by assumption))⟩) (by omega)).elim (fun ⟨csZ,qZ,xZ,gZ⟩=>.inl ⟨csZ,qZ,xZ,fun R hg=>zaa (wkl (p_1++[sb h1,si hw]) [3,6,7,8] 1 kr (zat (show ([(3,AV.own 0 (List.map zb2 cs++[[sv x.col]]).length),(6,AV.sl (List.map Se.cells l)),(7,iv (↑(List.map Se.cells l).length:Int)),(8,iv (↑(i+1):Int))]:TS)=_ by first|rfl|(simp;done)|(simp [X.cells,Qy.cells,V.cells,Col.cells,Rw.cells,Tb.cells,Fr.cells,Sch.cells,Tp.cells,Pl.cells,xCol,xLit,xBin,xNeg,Ac.cells,Se.cells];done)) (show ([Blk.row Ty.string (List.map zb2 cs++[[sv x.col]]) false]:Heap)=_ by first|rfl|(simp;done)|(simp [X.cells,Qy.cells,V.cells,Col.cells,Rw.cells,Tb.cells,Fr.cells,Sch.cells,Tp.cells,Pl.cells,xCol,xLit,xBin,xNeg,Ac.cells,Se.cells];done)) (gZ R hg)))⟩) (fun ⟨rY,pZ,gZ⟩=>.inr ⟨rY,pZ,zaa (wkl [sb h0,se (zah Se.cells hx rfl),sqx (AllLen [[sv x.col]] 1∧cs.length=(List.map zb2 cs).length∧(((List.map zb2 cs).length+[[sv x.col]].length) * 16).le 140737488355328),sc hfx,sb h1,si hw] [3,6,7,8] 1 kr (zat (show ([(3,AV.own 0 (List.map zb2 cs++[[sv x.col]]).length),(6,AV.sl (List.map Se.cells l)),(7,iv (↑(List.map Se.cells l).length:Int)),(8,iv (↑(i+1):Int))]:TS)=_ by first|rfl|(simp;done)|(simp [X.cells,Qy.cells,V.cells,Col.cells,Rw.cells,Tb.cells,Fr.cells,Sch.cells,Tp.cells,Pl.cells,xCol,xLit,xBin,xNeg,Ac.cells,Se.cells];done)) (show ([Blk.row Ty.string (List.map zb2 cs++[[sv x.col]]) false]:Heap)=_ by first|rfl|(simp;done)|(simp [X.cells,Qy.cells,V.cells,Col.cells,Rw.cells,Tb.cells,Fr.cells,Sch.cells,Tp.cells,Pl.cells,xCol,xLit,xBin,xNeg,Ac.cells,Se.cells];done)) gZ))⟩)
  ·exact .inr ⟨false,(by exact ⟨rfl,zb0 hx (notF (by assumption))⟩),zaa (wkr (p_1++[sb h1]) kr)⟩
theorem zjA (l:List Se) (f:X→Bool) (hl:zad l) (hf:∀ x∈l,Pure S.syntax_ValidExpr [x.ex.av] (bv (f x.ex))):∃ (r:Bool),r=zdr f l∧zac E0 S.syntax_validSets [.sl (l.map Se.cells)] [] (bv r) []:=by
 rcases zfH l f zoj hf 0 ([]) zoj zoj with ⟨cs1,q1,q1_1,g1⟩|⟨r1_0,p1_0,g1⟩
 ·exact ⟨zeB cs1,(by first|(have h:=‹_=List.map Se.col _∧List.all _ _=true›;obtain ⟨h7,h8⟩:=h;rw [List.take_length] at h7 h8;rw [h7];unfold zdr;rw [h8];rfl)|(have h:=‹_∧List.all _ _=false›;unfold zdr;rw [h.1,h.2];rfl)),wkcN At.syntax_validSets [] [3,6,7,8] 0 [(.ot 3 Ty.string,1)] kr (g1 _ (zaa (wkr [sb q1_1,skx (cs1.length=(List.map zb2 cs1).length∧True) [] (zm6 cs1 zoj)] kr)))⟩
 ·exact ⟨r1_0,(by first|(have h:=‹_=List.map Se.col _∧List.all _ _=true›;obtain ⟨h7,h8⟩:=h;rw [List.take_length] at h7 h8;rw [h7];unfold zdr;rw [h8];rfl)|(have h:=‹_∧List.all _ _=false›;unfold zdr;rw [h.1,h.2];rfl)),wkcN At.syntax_validSets [] [3,6,7,8] 0 [(.ot 3 Ty.string,1)] kr (g1)⟩
theorem zjZ {n:Nat} {l:List Se} (hl:zad l) (h:∀ s∈l,XOk n s.ex):zac E0 S.syntax_validSets [.sl (l.map Se.cells)] [] (bv (zdr (vX n) l)) []:=by
 obtain ⟨r,rfl,h⟩:=zjA l (vX n) hl fun s hs=>zcp n s.ex (h s hs)
 exact h
end Go.AM
namespace Go.AM
set_option maxRecDepth 100000
set_option maxHeartbeats 1000000
set_option linter.unusedSimpArgs false
set_option linter.unusedVariables false
theorem zgg {p:Prop} (h:p:=by (first|rw [← qy0_eq (by assumption)]|skip);(clear hr hs hw hq;simp only [zsV,cond_true,cond_false, *])):p:=h
theorem zi3 {p:Prop} (h:p:=by (clear hr hs hw hq;simp only [zs2,cond_true,cond_false, *])):p:=h
theorem zkJ {p:Prop} (h:p:=by (clear hr hs hw hq;simp only [zrU,cond_true,cond_false, *])):p:=h
abbrev zoh (a:Ac):Bool:=decide (0 < ((a.rows.map zaH).length:Int))
abbrev zrS (a:Ac):Bool:=decide (0 < ((zaf a.query).length:Int))
abbrev zsn (a:Ac):Bool:=decide (0 < ((a.sets.map Se.cells).length:Int))
abbrev hasW_ (a:Ac):Bool:=decide (0 < ((zab a.wh).length:Int))
abbrev noT_ (a:Ac):Bool:=a.text.toList==sNo.toList
abbrev eqRQ (a:Ac):Bool:=zoh a==zrS a
def qy0 (f:X→Bool) (a:Ac):Bool:=match a.query with
 | q::_=>qyB f q
 | []=>false
theorem qy0_eq {f:X→Bool} {a:Ac} {q:Qy} (h:a.query[0]?=some q):qy0 f a=qyB f q:=by
 unfold qy0
 cases hq:a.query with
 | nil=>rw [hq] at h;simp at h
 | cons x r=>rw [hq] at h;simp at h;subst h;rfl
def zsV (f:X→Bool) (a:Ac):Bool:=bif !zaP a.table then false else bif eqRQ a then false else bif zsn a then false else bif hasW_ a then false else bif !noT_ a then false else bif zea f a.rows then (bif zoh a then true else bif ((zaf a.query).length:Int)==1 then qy0 f a else false) else false
def zs2 (f:X→Bool) (a:Ac):Bool:=bif zaP a.table then (bif !zoh a then (bif !zrS a then (bif zsn a then (bif !!noT_ a then (bif zdr f a.sets then zcE f a.wh else false) else false) else false) else false) else false) else false
def zrU (f:X→Bool) (a:Ac):Bool:=bif zaP a.table then (bif !zoh a then (bif !zrS a then (bif !zsn a then (bif !!noT_ a then zcE f a.wh else false) else false) else false) else false) else false
theorem zgX (a:Ac) (f:X→Bool) (hr:zac E0 S.syntax_validRows [.sl (a.rows.map zaH)] [] (bv (zea f a.rows)) []) (hs:zac E0 S.syntax_validSets [.sl (a.sets.map Se.cells)] [] (bv (zdr f a.sets)) []) (hw:zac E0 S.syntax_condition [xsl a.wh] [] (bv (zcE f a.wh)) []) (hq:∀ q∈a.query,zac E0 S.syntax_ValidQuery [q.av] [] (bv (qyB f q)) []):∃ (r:Bool),r=zsV f a∧zac E0 S.syntax_ValidAction [.agg (acc 1 a)] [] (bv r) []:=by
 cases h1:!zaP a.table
 ·cases h2:decide (0 < (↑(List.map zaH a.rows).length:Int))==decide (0 < (↑(zaf a.query).length:Int))
  ·cases h3:decide (0 < (↑(List.map Se.cells a.sets).length:Int))
   ·cases h4:decide (0 < (↑(zab a.wh).length:Int))
    ·cases h5:!ByteArray.toList a.text==(ByteArray.mk #[]).toList
     ·cases h6:zea f a.rows
      ·exact ⟨false,zgg,wk At.syntax_ValidAction [sd [],sc (zan a.table),sb (rfl:true=true),sg h1,sg h2,sg h3,sg h4,sb h5,sc hr,sb h6] kr⟩
      ·cases h7:decide (0 < (↑(List.map zaH a.rows).length:Int))
       ·cases h8:(↑(zaf a.query).length:Int)==1
        ·exact ⟨false,zgg,wk At.syntax_ValidAction [sd [],sc (zan a.table),sb (rfl:true=true),sg h1,sg h2,sg h3,sg h4,sb h5,sc hr,sg h6,sg h7,sb h8] kr⟩
        ·obtain ⟨x9,e9⟩:=zay (l:=a.query) (i:=0) (by first|assumption|omega|exact List.mem_of_getElem? (by assumption)|(simp only [beq_iff_eq,zed] at *;omega))
         exact ⟨qyB f x9,zgg,wk At.syntax_ValidAction [sd [],sc (zan a.table),sb (rfl:true=true),sg h1,sg h2,sg h3,sg h4,sb h5,sc hr,sg h6,sg h7,sg h8,se (zaR e9),sc (hq x9 (by first|assumption|omega|exact List.mem_of_getElem? (by assumption)|(simp only [beq_iff_eq,zed] at *;omega)))] kr⟩
       ·exact ⟨true,zgg,wk At.syntax_ValidAction [sd [],sc (zan a.table),sb (rfl:true=true),sg h1,sg h2,sg h3,sg h4,sb h5,sc hr,sg h6,sb h7] kr⟩
     ·exact ⟨false,zgg,wk At.syntax_ValidAction [sd [],sc (zan a.table),sb (rfl:true=true),sg h1,sg h2,sg h3,sg h4,sb h5] kr⟩
    ·exact ⟨false,zgg,wk At.syntax_ValidAction [sd [],sc (zan a.table),sb (rfl:true=true),sg h1,sg h2,sg h3,sb h4] kr⟩
   ·exact ⟨false,zgg,wk At.syntax_ValidAction [sd [],sc (zan a.table),sb (rfl:true=true),sg h1,sg h2,sb h3] kr⟩
  ·exact ⟨false,zgg,wk At.syntax_ValidAction [sd [],sc (zan a.table),sb (rfl:true=true),sg h1,sb h2] kr⟩
 ·exact ⟨false,zgg,wk At.syntax_ValidAction [sd [],sc (zan a.table),sb (rfl:true=true),sb h1] kr⟩
theorem zgB (a:Ac) (f:X→Bool) (hr:zac E0 S.syntax_validRows [.sl (a.rows.map zaH)] [] (bv (zea f a.rows)) []) (hs:zac E0 S.syntax_validSets [.sl (a.sets.map Se.cells)] [] (bv (zdr f a.sets)) []) (hw:zac E0 S.syntax_condition [xsl a.wh] [] (bv (zcE f a.wh)) []) (hq:∀ q∈a.query,zac E0 S.syntax_ValidQuery [q.av] [] (bv (qyB f q)) []):∃ (r:Bool),r=zs2 f a∧zac E0 S.syntax_ValidAction [.agg (acc 2 a)] [] (bv r) []:=by
 cases h1:zaP a.table
 ·exact ⟨false,zi3,wk At.syntax_ValidAction [sd [],sc (zan a.table),sb (rfl:false=false),sb (rfl:true=true),sb h1] kr⟩
 ·cases h2:!decide (0 < (↑(List.map zaH a.rows).length:Int))
  ·exact ⟨false,zi3,wk At.syntax_ValidAction [sd [],sc (zan a.table),sb (rfl:false=false),sb (rfl:true=true),sg h1,sb h2] kr⟩
  ·cases h3:!decide (0 < (↑(zaf a.query).length:Int))
   ·exact ⟨false,zi3,wk At.syntax_ValidAction [sd [],sc (zan a.table),sb (rfl:false=false),sb (rfl:true=true),sg h1,sg h2,sb h3] kr⟩
   ·cases h4:decide (0 < (↑(List.map Se.cells a.sets).length:Int))
    ·exact ⟨false,zi3,wk At.syntax_ValidAction [sd [],sc (zan a.table),sb (rfl:false=false),sb (rfl:true=true),sg h1,sg h2,sg h3,sb h4] kr⟩
    ·cases h5:!!ByteArray.toList a.text==(ByteArray.mk #[]).toList
     ·exact ⟨false,zi3,wk At.syntax_ValidAction [sd [],sc (zan a.table),sb (rfl:false=false),sb (rfl:true=true),sg h1,sg h2,sg h3,sg h4,sb h5] kr⟩
     ·cases h6:zdr f a.sets
      ·exact ⟨false,zi3,wk At.syntax_ValidAction [sd [],sc (zan a.table),sb (rfl:false=false),sb (rfl:true=true),sg h1,sg h2,sg h3,sg h4,sg h5,sc hs,sb h6] kr⟩
      ·exact ⟨zcE f a.wh,zi3,wk At.syntax_ValidAction [sd [],sc (zan a.table),sb (rfl:false=false),sb (rfl:true=true),sg h1,sg h2,sg h3,sg h4,sg h5,sc hs,sg h6,sc hw] kr⟩
theorem zgO (a:Ac) (f:X→Bool) (hr:zac E0 S.syntax_validRows [.sl (a.rows.map zaH)] [] (bv (zea f a.rows)) []) (hs:zac E0 S.syntax_validSets [.sl (a.sets.map Se.cells)] [] (bv (zdr f a.sets)) []) (hw:zac E0 S.syntax_condition [xsl a.wh] [] (bv (zcE f a.wh)) []) (hq:∀ q∈a.query,zac E0 S.syntax_ValidQuery [q.av] [] (bv (qyB f q)) []):∃ (r:Bool),r=zrU f a∧zac E0 S.syntax_ValidAction [.agg (acc 3 a)] [] (bv r) []:=by
 cases h1:zaP a.table
 ·exact ⟨false,zkJ,wk At.syntax_ValidAction [sd [],sc (zan a.table),sb (rfl:false=false),sb (rfl:false=false),sb (rfl:true=true),sb h1] kr⟩
 ·cases h2:!decide (0 < (↑(List.map zaH a.rows).length:Int))
  ·exact ⟨false,zkJ,wk At.syntax_ValidAction [sd [],sc (zan a.table),sb (rfl:false=false),sb (rfl:false=false),sb (rfl:true=true),sg h1,sb h2] kr⟩
  ·cases h3:!decide (0 < (↑(zaf a.query).length:Int))
   ·exact ⟨false,zkJ,wk At.syntax_ValidAction [sd [],sc (zan a.table),sb (rfl:false=false),sb (rfl:false=false),sb (rfl:true=true),sg h1,sg h2,sb h3] kr⟩
   ·cases h4:!decide (0 < (↑(List.map Se.cells a.sets).length:Int))
    ·exact ⟨false,zkJ,wk At.syntax_ValidAction [sd [],sc (zan a.table),sb (rfl:false=false),sb (rfl:false=false),sb (rfl:true=true),sg h1,sg h2,sg h3,sb h4] kr⟩
    ·cases h5:!!ByteArray.toList a.text==(ByteArray.mk #[]).toList
     ·exact ⟨false,zkJ,wk At.syntax_ValidAction [sd [],sc (zan a.table),sb (rfl:false=false),sb (rfl:false=false),sb (rfl:true=true),sg h1,sg h2,sg h3,sg h4,sb h5] kr⟩
     ·exact ⟨zcE f a.wh,zkJ,wk At.syntax_ValidAction [sd [],sc (zan a.table),sb (rfl:false=false),sb (rfl:false=false),sb (rfl:true=true),sg h1,sg h2,sg h3,sg h4,sg h5,sc hw] kr⟩
def actB (f:X→Bool) (a:Ac):Bool:=bif a.kind==1 then zsV f a else bif a.kind==2 then zs2 f a else zrU f a
theorem ziG {n:Nat} {a:Ac} (h:AcOk n a) (hk:1≤a.kind∧a.kind≤3):zac E0 S.syntax_ValidAction [a.av] [] (bv (actB (vX n) a)) []:=by
 have h1:=zjJ (zaQ h.rows) h.row
 have h2:=zjZ (zaQ h.sets) h.set
 have h3:=zfG (zaQ h.wh) h.w
 have h4:∀ q∈a.query,zac E0 S.syntax_ValidQuery [q.av] [] (bv (qyB (vX n) q)) []:=fun q hq=>zjl (h.qs q hq)
 have hk:a.kind=1∨a.kind=2∨a.kind=3:=by omega
 rcases hk with hk|hk|hk
 ·obtain ⟨r,rfl,h5⟩:=zgX a (vX n) h1 h2 h3 h4
  have e:a.av=.agg (acc 1 a):=by rw [← hk];rfl
  rw [e];unfold actB;rw [hk];exact h5
 ·obtain ⟨r,rfl,h5⟩:=zgB a (vX n) h1 h2 h3 h4
  have e:a.av=.agg (acc 2 a):=by rw [← hk];rfl
  rw [e];unfold actB;rw [hk];exact h5
 ·obtain ⟨r,rfl,h5⟩:=zgO a (vX n) h1 h2 h3 h4
  have e:a.av=.agg (acc 3 a):=by rw [← hk];rfl
  rw [e];unfold actB;rw [hk];exact h5
end Go.AM
