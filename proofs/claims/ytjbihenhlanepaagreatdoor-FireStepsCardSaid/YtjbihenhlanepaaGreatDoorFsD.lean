/-
  Contracts of the program's functions, part 3.
-/
import Derived.Test.YtjbihenhlanepaaGreatDoorFsC
import Derived.Laws.Externs
import Derived.Lib.Bytealg
import Derived.WideKeyRuns
set_option linter.unusedSimpArgs false
set_option linter.unusedVariables false
namespace Go.AM
set_option maxRecDepth 100000
set_option maxHeartbeats 1000000
set_option linter.unusedSimpArgs false
set_option linter.unusedVariables false
structure FsOk (n:Nat) (frs:List Fr):Prop where
 len:frs.length+n≤1000000
 cols:∀ f∈frs,zac f.cols
 vals:∀ f∈frs,∀ v∈f.vals,v.small
structure TbOk (tb:List Tb):Prop where
 len:zac tb
 cols:∀ x∈tb,zac x.sch.cols
 rows:∀ x∈tb,x.rows.length≤1000
 vals:∀ x∈tb,∀ r∈x.rows,∀ v∈r.vals,v.small
theorem FsOk.short {n:Nat} {frs:List Fr} (h:FsOk n frs):zac frs:=by have:=h.len;simp only [zac];omega
theorem FsOk.wrap {n:Nat} {frs:List Fr} (h:FsOk n frs):IntKind.i64.wrap ((((frs.map Fr.cells).length:Nat):Int) - 1)=pm1 frs.length:=zvG _ _ h.short
theorem FsOk.less {n:Nat} {frs:List Fr} (h:FsOk (n+1) frs):FsOk n frs:=⟨by have:=h.len;omega,h.cols,h.vals⟩
end Go.AM
namespace Go.AM
set_option maxRecDepth 100000
set_option maxHeartbeats 1000000
set_option linter.unusedSimpArgs false
set_option linter.unusedVariables false
theorem zaP {α:Type} {l:List α} (h:Few l):zac l:=by simp only [Few] at h;simp only [zac];omega
abbrev rIns (frs:List Fr) (tb:List Tb) (q:Qy):List Fr:=za3 frs (zcw tb q.frm).1 []
theorem zjQ (tb:List Tb) (n:Str):∀ (l:List Tb) (i:Nat),(∀ x∈l,zac x.sch.cols)→zac (ziR tb n l i).1.cols
 | [],i,_=>by simp [ziR]
 | x::r,i,h=>by
  simp only [ziR,Bool.cond_eq_ite]
  split
  ·exact h x (by simp)
  ·exact zjQ tb n r _ (fun y hy=>h y (by simp [hy]))
theorem FsOk.ins {n:Nat} {frs:List Fr} (h:FsOk (n+1) frs) {tb:List Tb} (ht:TbOk tb) (q:Qy):FsOk n (rIns frs tb q):=by
 refine ⟨by have:=h.len;simp [za3];omega,fun f hf=>?_,fun f hf=>?_⟩
 ·simp only [za3,List.mem_append,List.mem_singleton] at hf
  rcases hf with hf|rfl
  ·exact h.cols f hf
  ·exact zjQ tb q.frm tb 0 ht.cols
 ·simp only [za3,List.mem_append,List.mem_singleton] at hf
  rcases hf with hf|rfl
  ·exact h.vals f hf
  ·intro v hv;cases hv
end Go.AM
namespace Go.AM
set_option maxRecDepth 100000
set_option maxHeartbeats 1000000
set_option linter.unusedSimpArgs false
set_option linter.unusedVariables false
theorem zlp {p:Prop} (h:p:=by first|assumption|exact hh.1|exact hw2.1|exact (zfu _).1|omega|exact (zh8 _ _ _ (by assumption) (zfu _) (by omega)).2):p:=h
abbrev uv (n:Int):AV:=.v (.int .u64 n)
theorem zqB {T:TypeId→TI} {h:Heap} {β:List Con} {w:World} {S:Addr→Prop} {x:Value} {l:List AV} {vs:List Value} (hp:PW (RelV T h β w S) (.v x::l) vs):∃ r,vs=x::r∧PW (RelV T h β w S) l r:=by
 cases vs with
 | nil=>have:=hp.1;simp at this
 | cons y r =>
  have h1:=hp.2 0 _ _ rfl rfl
  exact ⟨r,by rw [h1.v_inv],hp.uncons.2⟩
def zde (a b c:Int):Int × Int:=((a+b+c) % 18446744073709551616,(a+b+c) / 18446744073709551616)
theorem zge (a b c:Int) (ha:0≤a) (hb:0≤b) (hc:0≤c∧c≤1):zaa E0 S.math_bits_Add64 [uv a,uv b,uv c] [] (.tup [uv (zde a b c).1,uv (zde a b c).2]) []:=by
 intro β S w vs r hp
 obtain ⟨v1,rfl,hp1⟩:=zqB hp
 obtain ⟨v2,rfl,hp2⟩:=zqB hp1
 obtain ⟨v3,rfl,hp3⟩:=zqB hp2
 have h0:v3=[]:=List.eq_nil_of_length_eq_zero (by have:=hp3.1;simpa using this.symm)
 subst h0
 refine .inr ⟨.tuple [.int .u64 (zde a b c).1,.int .u64 (zde a b c).2].toArray,w,?_,?_⟩
 ·have h1:=run_callFunc_extern (e:=add64Entry) At.math_bits_Add64 kr kr kr kr #[.int .u64 a,.int .u64 b,.int .u64 c] w
  rw [run_add64 a b c ha hb hc.1 hc.2] at h1
  exact h1
 ·refine ⟨_,_,β,S,_,rfl,⟨rfl,rfl⟩,r,Ext.refl _ _ _ _,.tup _ _ rfl fun i x y hx hy=>?_⟩
  match i with
  | 0=>cases hx;cases hy;exact zbx _ _
  | 1=>cases hx;cases hy;exact zbx _ _
  | i+2=>cases hx
abbrev U64 (n:Int):Prop:=0≤n∧n < 18446744073709551616
theorem wrapU (n:Int):IntKind.u64.wrap n=n % 18446744073709551616:=by simp [IntKind.wrap,IntKind.bits,IntKind.signed]
theorem zfu (n:Int):U64 (IntKind.u64.wrap n):=by rw [wrapU];simp only [U64];omega
theorem zh8 (a b c:Int) (ha:U64 a) (hb:U64 b) (hc:0≤c∧c≤1):U64 (zde a b c).1∧0≤(zde a b c).2∧(zde a b c).2≤1:=by
 simp only [U64,zde] at *;omega
noncomputable def L_sumL (l:List Int) (i:Nat) (high low:Int):Cfg:=zal B.arith_Sum 0 [(4,uv high),(5,uv low),(11,isl l),(12,iv ((l.map fun n=>[iv n]).length:Nat)),(13,iv (i:Nat))] []
def sumL (l:List Int):List (Int)→Nat→(Int)→(Int)→Int × Bool
 | [],i,high,low =>
  bif high != IntKind.u64.wrap ((IntKind.i64.wrap low).fdiv (2 ^ min (Int.toNat 63) IntKind.i64.bits)) then
   (0,false)
  else
   (IntKind.i64.wrap low,true)
 | x::r,i,high,low =>
  sumL l r (i+1) ((zde high (IntKind.u64.wrap (x.fdiv (2 ^ min (Int.toNat 63) IntKind.i64.bits))) (zde low (IntKind.u64.wrap x) 0).snd).fst) ((zde low (IntKind.u64.wrap x) 0).fst)
theorem zrm (l:List Int) (hl:zac l):∀ (kk i:Nat) (high low:Int),i+kk=(l).length→U64 high→U64 low→Good E0 B.arith_Sum [] (L_sumL l i high low) (Shut 0 fun r h=>r=(.tup [iv (sumL l ((l).drop i) i high low).1,bv (sumL l ((l).drop i) i high low).2])∧h=[]):=by
 intro kk
 induction kk with
 | zero =>
  intro i high low hi hh hw2
  have h0:decide (((i:Nat):Int) < (((l.map fun n=>[iv n]).length:Nat):Int))=false:=by simp;omega
  have e0:(l).drop i=[]:=List.drop_of_length_le (by omega)
  rw [e0]
  simp only [sumL]
  refine zab ?_
  cases h1:high != IntKind.u64.wrap ((IntKind.i64.wrap low).fdiv (2 ^ min (Int.toNat 63) IntKind.i64.bits))
  ·exact wkr [sb h0,si (e:=IntKind.i64.wrap low) rfl,sx (.i ((IntKind.i64.wrap low).fdiv ((2:Int) ^ min (Int.toNat (63:Int)) IntKind.i64.bits))) (show (0:Int)≤(63:Int)∧((IntKind.i64.wrap low).fdiv ((2:Int) ^ min (Int.toNat (63:Int)) IntKind.i64.bits):Int)=(IntKind.i64.wrap low).fdiv ((2:Int) ^ min (Int.toNat (63:Int)) IntKind.i64.bits) from ⟨(by simp_all),rfl⟩),si (e:=IntKind.u64.wrap ((IntKind.i64.wrap low).fdiv (2 ^ min (Int.toNat 63) IntKind.i64.bits))) rfl,sb h1] kr
  ·exact wkr [sb h0,si (e:=IntKind.i64.wrap low) rfl,sx (.i ((IntKind.i64.wrap low).fdiv ((2:Int) ^ min (Int.toNat (63:Int)) IntKind.i64.bits))) (show (0:Int)≤(63:Int)∧((IntKind.i64.wrap low).fdiv ((2:Int) ^ min (Int.toNat (63:Int)) IntKind.i64.bits):Int)=(IntKind.i64.wrap low).fdiv ((2:Int) ^ min (Int.toNat (63:Int)) IntKind.i64.bits) from ⟨(by simp_all),rfl⟩),si (e:=IntKind.u64.wrap ((IntKind.i64.wrap low).fdiv (2 ^ min (Int.toNat 63) IntKind.i64.bits))) rfl,sb h1] kr
 | succ kk ih =>
  intro i high low hi hh hw2
  obtain ⟨x,hx⟩:=zav (l:=l) (i:=i) (by omega)
  have h0:decide (((i:Nat):Int) < (((l.map fun n=>[iv n]).length:Nat):Int))=true:=by simp;omega
  have hw:=zak i (by first|omega|(simp only [zac,Few] at *;omega))
  rw [zaR hx]
  simp only [sumL]
  refine zab ?_
  exact wkl [sb h0,se (zaf (fun n=>[iv n]) hx rfl),si (e:=IntKind.u64.wrap x) rfl,sc (zge low (IntKind.u64.wrap x) 0 zlp zlp zlp),sx (.i (x.fdiv ((2:Int) ^ min (Int.toNat (63:Int)) IntKind.i64.bits))) (show (0:Int)≤(63:Int)∧(x.fdiv ((2:Int) ^ min (Int.toNat (63:Int)) IntKind.i64.bits):Int)=x.fdiv ((2:Int) ^ min (Int.toNat (63:Int)) IntKind.i64.bits) from ⟨(by simp_all),rfl⟩),si (e:=IntKind.u64.wrap (x.fdiv (2 ^ min (Int.toNat 63) IntKind.i64.bits))) rfl,sc (zge high (IntKind.u64.wrap (x.fdiv (2 ^ min (Int.toNat 63) IntKind.i64.bits))) ((zde low (IntKind.u64.wrap x) 0).snd) zlp zlp zlp),si hw] [4,5,11,12,13] 0 kr (ih (i+1) ((zde high (IntKind.u64.wrap (x.fdiv (2 ^ min (Int.toNat 63) IntKind.i64.bits))) (zde low (IntKind.u64.wrap x) 0).snd).fst) ((zde low (IntKind.u64.wrap x) 0).fst) (by omega) (by first|assumption|exact (zh8 _ _ _ (by assumption) (zfu _) (by first|omega|exact (zh8 _ _ _ (by assumption) (zfu _) (by omega)).2)).1) (by first|assumption|exact (zh8 _ _ _ (by assumption) (zfu _) (by first|omega|exact (zh8 _ _ _ (by assumption) (zfu _) (by omega)).2)).1))
def aSum (l:List Int):Int × Bool :=
 sumL l l 0 0 (0)
theorem zlO (l:List Int) (hl:zac l):zaa E0 S.arith_Sum [isl l] [] (.tup [iv (aSum l).1,bv (aSum l).2]) []:=by
 unfold aSum
 exact wkc At.arith_Sum [] [4,5,11,12,13] 0 kr (by have ih:=zrm l hl l.length 0 0 0 (by simp) (by simp only [U64];omega) (by simp only [U64];omega);exact ih)
noncomputable def zgx (its:List V) (i:Nat) (l:List Int):Cfg:=zal B.evaluate_sum 0 [(2,.p 0 0),(4,.own 1 l.length),(9,vsl its),(10,iv ((its.map V.cells).length:Nat)),(11,iv (i:Nat))] [.box [iv 0,iv 0,sv ⟨#[]⟩],.row Ty.int64 (l.map fun n=>[iv n]) false]
def zgj (its:List V):List (V)→Nat→(List Int)→V × Int
 | [],i,l =>
  bif !(aSum l).snd then
   (V.mk 0 0 (ByteArray.mk #[]),6)
  else
   (V.mk 1 (aSum l).fst (ByteArray.mk #[]),0)
 | x::r,i,l =>
  zgj its r (i+1) (l++[x.int])
theorem zpT (its:List V) (hl:zac its):∀ (kk i:Nat) (l:List Int),i+kk=(its).length→l.length≤i→Good E0 B.evaluate_sum [] (zgx its i l) (Shut 0 fun r h=>r=(.tup [(zgj its ((its).drop i) i l).1.av,iv (zgj its ((its).drop i) i l).2])∧h=[]):=by
 intro kk
 induction kk with
 | zero =>
  intro i l hi ho
  have h0:decide (((i:Nat):Int) < (((its.map V.cells).length:Nat):Int))=false:=by simp;omega
  have e0:(its).drop i=[]:=List.drop_of_length_le (by omega)
  rw [e0]
  simp only [zgj]
  refine zab ?_
  cases h1:!(aSum l).snd
  ·exact wkr [sb h0,skx (l.length=(List.map (fun n=>[iv n]) l).length∧True) [] (zlO l (by first|assumption|(simp only [zac] at *;omega))),sb h1,sc (za1 ((aSum l).fst))] kr
  ·exact wkr [sb h0,skx (l.length=(List.map (fun n=>[iv n]) l).length∧True) [] (zlO l (by first|assumption|(simp only [zac] at *;omega))),sb h1] kr
 | succ kk ih =>
  intro i l hi ho
  obtain ⟨x,hx⟩:=zav (l:=its) (i:=i) (by omega)
  have h0:decide (((i:Nat):Int) < (((its.map V.cells).length:Nat):Int))=true:=by simp;omega
  have hw:=zak i (by first|omega|(simp only [zac,Few] at *;omega))
  rw [zaR hx]
  simp only [zgj]
  refine zab ?_
  exact wkl (c':=(Cfg.mk (zgx its (i+1) (l++[x.int])).n (zgx its (i+1) (l++[x.int])).todo [(2,AV.p 0 0),(4,AV.own 1 (List.map (fun n=>[iv n]) l++[[iv x.int]]).length),(9,AV.sl (List.map V.cells its)),(10,iv (↑(List.map V.cells its).length:Int)),(11,iv (↑(i+1):Int))] [Blk.box [iv 0,iv 0,sv (ByteArray.mk #[])],Blk.row Ty.int64 (List.map (fun n=>[iv n]) l++[[iv x.int]]) false])) [sb h0,se (zaf V.cells hx rfl),sqx (AllLen [[iv x.int]] 1∧l.length=(List.map (fun n=>[iv n]) l).length∧(((List.map (fun n=>[iv n]) l).length+[[iv x.int]].length) * 8).le 140737488355328),si hw] [2,4,9,10,11] 2 kr (zan (show ([(2,AV.p 0 0),(4,AV.own 1 (List.map (fun n=>[iv n]) l++[[iv x.int]]).length),(9,AV.sl (List.map V.cells its)),(10,iv (↑(List.map V.cells its).length:Int)),(11,iv (↑(i+1):Int))]:TS)=[(2,AV.p 0 0),(4,AV.own 1 (l++[x.int]).length),(9,AV.sl (List.map V.cells its)),(10,iv (↑(List.map V.cells its).length:Int)),(11,iv (↑(i+1):Int))] by first|rfl|(simp;done)|(simp [X.cells,Qy.cells,V.cells,Col.cells,Rw.cells,Tb.cells,Fr.cells,Sch.cells,Tp.cells,Pl.cells,xCol,xLit,xBin,xNeg];done)) (show ([Blk.box [iv 0,iv 0,sv (ByteArray.mk #[])],Blk.row Ty.int64 (List.map (fun n=>[iv n]) l++[[iv x.int]]) false]:Heap)=[Blk.box [iv 0,iv 0,sv (ByteArray.mk #[])],Blk.row Ty.int64 (List.map (fun n=>[iv n]) (l++[x.int])) false] by first|rfl|(simp;done)|(simp [X.cells,Qy.cells,V.cells,Col.cells,Rw.cells,Tb.cells,Fr.cells,Sch.cells,Tp.cells,Pl.cells,xCol,xLit,xBin,xNeg];done)) (ih (i+1) (l++[x.int]) (by omega) (by first|assumption|(simp;done)|(simp;omega)|omega|(simp at *;omega))))
def eSum (its:List V):V × Int :=
 zgj its its 0 ([])
theorem znM (its:List V) (hl:zac its):zaa E0 S.evaluate_sum [vsl its] [] (.tup [(eSum its).1.av,iv (eSum its).2]) []:=by
 unfold eSum
 exact wkc At.evaluate_sum (c':=(Cfg.mk (zgx its 0 []).n (zgx its 0 []).todo [(2,AV.p 0 0),(4,AV.nl),(9,AV.sl (List.map V.cells its)),(10,iv (↑(List.map V.cells its).length:Int)),(11,iv 0)] [Blk.box [iv 0,iv 0,sv (ByteArray.mk #[])]])) [] [2,4,9,10,11] 1 kr (zbb (c':=zgx its 0 []) 4 Ty.int64 [2,4,9,10,11] 2 kr kr kr (by have ih:=zpT its hl its.length 0 ([]) (by simp) (by simp);exact ih))
end Go.AM
namespace Go.AM
set_option maxRecDepth 100000
set_option maxHeartbeats 1000000
set_option linter.unusedSimpArgs false
set_option linter.unusedVariables false
noncomputable def L_minL (l:List V) (i:Nat) (m:V):Cfg:=zal B.slices_MinFunc_Value 0 [(0,vsl l),(1,.fn S.value_Compare []),(4,.p 0 0),(5,.p 1 0),(6,iv (i:Nat))] [.box [iv 0,iv 0,sv ⟨#[]⟩],.box m.cells]
def minL (l:List V):List (V)→Nat→(V)→V
 | [],i,m =>
  m
 | x::r,i,m =>
  bif decide (cmpV x m < 0) then
   minL l r (i+1) (x)
  else
   minL l r (i+1) (m)
theorem zqJ (l:List V) (hl:zac l):∀ (kk i:Nat) (m:V),i+kk=(l).length→Good E0 B.slices_MinFunc_Value [] (L_minL l i m) (Shut 0 fun r h=>r=((minL l ((l).drop i) i m).av)∧h=[]):=by
 intro kk
 induction kk with
 | zero =>
  intro i m hi
  have h0:decide (((i:Nat):Int) < (((l.map V.cells).length:Nat):Int))=false:=by simp;omega
  have e0:(l).drop i=[]:=List.drop_of_length_le (by omega)
  rw [e0]
  simp only [minL]
  refine zab ?_
  exact wkr [sb h0] kr
 | succ kk ih =>
  intro i m hi
  obtain ⟨x,hx⟩:=zav (l:=l) (i:=i) (by omega)
  have h0:decide (((i:Nat):Int) < (((l.map V.cells).length:Nat):Int))=true:=by simp;omega
  have hw:=zak i (by first|omega|(simp only [zac,Few] at *;omega))
  rw [zaR hx]
  simp only [minL]
  refine zab ?_
  cases h1:decide (cmpV x m < 0)
  ·exact wkl [sb h0,sd [(3,[se (zaf V.cells hx rfl)]),(6,[sc (zcN x m)])],sb h1,si hw] [0,1,4,5,6] 2 kr (ih (i+1) m (by omega) )
  ·exact wkl [sb h0,sd [(3,[se (zaf V.cells hx rfl)]),(6,[sc (zcN x m)])],sb h1,se (zaf V.cells hx rfl),si hw] [0,1,4,5,6] 2 kr (ih (i+1) x (by omega) )
def minV (l:List V):V :=
 minL l (l.drop 1) 1 (l.headD V.null)
theorem zhU (l:List V) (hl:zac l) (hy:l[0]?=some (l.headD V.null)) (hn:decide (((((l.map V.cells).length:Nat):Int)) < 1)=false):zaa E0 S.slices_MinFunc_Value [vsl l,.fn S.value_Compare []] [] ((minV l).av) []:=by
 unfold minV
 exact wkc At.slices_MinFunc_Value [sb hn,se (zaf V.cells hy rfl)] [0,1,4,5,6] 2 kr (by have hlt:=zee hy;have ih:=zqJ l hl (l.length - 1) 1 (l.headD V.null) (by omega);exact ih)
noncomputable def L_maxL (l:List V) (i:Nat) (m:V):Cfg:=zal B.slices_MaxFunc_Value 0 [(0,vsl l),(1,.fn S.value_Compare []),(4,.p 0 0),(5,.p 1 0),(6,iv (i:Nat))] [.box [iv 0,iv 0,sv ⟨#[]⟩],.box m.cells]
def maxL (l:List V):List (V)→Nat→(V)→V
 | [],i,m =>
  m
 | x::r,i,m =>
  bif decide (0 < cmpV x m) then
   maxL l r (i+1) (x)
  else
   maxL l r (i+1) (m)
theorem zq1 (l:List V) (hl:zac l):∀ (kk i:Nat) (m:V),i+kk=(l).length→Good E0 B.slices_MaxFunc_Value [] (L_maxL l i m) (Shut 0 fun r h=>r=((maxL l ((l).drop i) i m).av)∧h=[]):=by
 intro kk
 induction kk with
 | zero =>
  intro i m hi
  have h0:decide (((i:Nat):Int) < (((l.map V.cells).length:Nat):Int))=false:=by simp;omega
  have e0:(l).drop i=[]:=List.drop_of_length_le (by omega)
  rw [e0]
  simp only [maxL]
  refine zab ?_
  exact wkr [sb h0] kr
 | succ kk ih =>
  intro i m hi
  obtain ⟨x,hx⟩:=zav (l:=l) (i:=i) (by omega)
  have h0:decide (((i:Nat):Int) < (((l.map V.cells).length:Nat):Int))=true:=by simp;omega
  have hw:=zak i (by first|omega|(simp only [zac,Few] at *;omega))
  rw [zaR hx]
  simp only [maxL]
  refine zab ?_
  cases h1:decide (0 < cmpV x m)
  ·exact wkl [sb h0,sd [(3,[se (zaf V.cells hx rfl)]),(6,[sc (zcN x m)])],sb h1,si hw] [0,1,4,5,6] 2 kr (ih (i+1) m (by omega) )
  ·exact wkl [sb h0,sd [(3,[se (zaf V.cells hx rfl)]),(6,[sc (zcN x m)])],sb h1,se (zaf V.cells hx rfl),si hw] [0,1,4,5,6] 2 kr (ih (i+1) x (by omega) )
def maxV (l:List V):V :=
 maxL l (l.drop 1) 1 (l.headD V.null)
theorem zhC (l:List V) (hl:zac l) (hy:l[0]?=some (l.headD V.null)) (hn:decide (((((l.map V.cells).length:Nat):Int)) < 1)=false):zaa E0 S.slices_MaxFunc_Value [vsl l,.fn S.value_Compare []] [] ((maxV l).av) []:=by
 unfold maxV
 exact wkc At.slices_MaxFunc_Value [sb hn,se (zaf V.cells hy rfl)] [0,1,4,5,6] 2 kr (by have hlt:=zee hy;have ih:=zq1 l hl (l.length - 1) 1 (l.headD V.null) (by omega);exact ih)
def znm (f:X→V × Int) (x:X):Bool × Int :=
 bif (f x).snd==0 then
  bif !zcR (f x).fst then
   (false,5)
  else
   (ztI (f x).fst,(f x).snd)
 else
  (false,(f x).snd)
theorem zjV (f:X→V × Int) (x:X) (r:List X) (frs:List Fr) (tb:List Tb) (hf:Pure S.evaluate_Value [x.av,fsl frs,tsl tb] (.tup [(f x).1.av,iv (f x).2])) (hs:(f x).1.small):zaa E0 S.evaluate_True [xsl (x::r),fsl frs,tsl tb] [] (.tup [bv (znm f x).1,iv (znm f x).2]) []:=by
 unfold znm
 cases h1:(f x).snd==0
 ·exact wk At.evaluate_True [sb (rfl:false=false),se (zcC (l:=x::r) (i:=0) (x:=x) rfl),sc hf,sb h1,sb h1] kr
 ·cases h2:!zcR (f x).fst
  ·exact wk At.evaluate_True [sb (rfl:false=false),se (zcC (l:=x::r) (i:=0) (x:=x) rfl),sc hf,sg h1,sc (za2 ((f x).fst) (by first|assumption|omega|(simp;done)|(simp;omega))),sb h2,sg h1,sc (znO ((f x).fst))] kr
  ·exact wk At.evaluate_True [sb (rfl:false=false),se (zcC (l:=x::r) (i:=0) (x:=x) rfl),sc hf,sg h1,sc (za2 ((f x).fst) (by first|assumption|omega|(simp;done)|(simp;omega))),sb h2,sb (rfl:false=false)] kr
def zqt :Bool × Int :=
 (true,0)
theorem zcj  (frs:List Fr) (tb:List Tb):zaa E0 S.evaluate_True [xsl [],fsl frs,tsl tb] [] (.tup [bv zqt.1,iv zqt.2]) []:=by
 exact wk At.evaluate_True [sb (rfl:true=true)] kr
noncomputable def clC (frs:List Fr):Cfg:=(upto (mk E0) (List.range 40) 0 3000 ⟨B.slices_Clone_Frame.ntmps,[.code (B.slices_Clone_Frame.body.getD .skip)],zbZ 0 [fsl frs],[]⟩ []).2
theorem zwt (frs:List Fr) (hl:zac frs):Good E0 B.slices_Clone_Frame [] (zbs (clC frs) false) (fun r h=>r=.own 0 frs.length∧h=[.row Ty.Frame (frs.map Fr.cells) false]):=by
 exact zcm E0ok mix0 3000 (y:=AV.own (0:Nat) (List.map Fr.cells frs).length) (H:=[Blk.row Ty.Frame (List.map Fr.cells frs) false]) [sb (rfl:false=false),sq (show AllLen (List.map Fr.cells frs) (4:Nat)∧((List.map Fr.cells frs).length * (72:Nat)).le (140737488355328:Nat) by first|assumption|(simp;done)|(simp;omega)|omega|rfl|(refine ⟨⟨by simp⟩,?_⟩;first|(simp;done)|(simp;omega)|omega)|(refine ⟨⟨by simp⟩,?_,?_⟩ <;> first|(simp;done)|(simp;omega)|omega))] kr (⟨by first|rfl|(simp;done),rfl⟩)
theorem zwK:Good E0 B.slices_Clone_Frame [] (zbs (clC []) true) (fun r h=>r=.nl∧h=[]):=by
 exact zcm E0ok mix0 3000 (y:=AV.nl) (H:=[]) [sb (rfl:true=true)] kr (⟨rfl,rfl⟩)
end Go.AM
namespace Go.AM
set_option maxRecDepth 100000
set_option maxHeartbeats 1000000
set_option linter.unusedSimpArgs false
set_option linter.unusedVariables false
theorem zeL (frs:List Fr) (hl:zac frs):zaa E0 S.slices_Clone_Frame [fsl frs] [] (.own 0 frs.length) [.row Ty.Frame (frs.map Fr.cells) false]:=by
 refine zaN At.slices_Clone_Frame rfl kr (Nat.le_of_ble_eq_true kr) (zcb E0ok mix0 3000 [] (List.range 40) 0 (c':=clC frs) kr kr (zei E0ok (xs:=frs.map Fr.cells) (e:=true) kr fun b hb=>?_))
 cases b with
 | false=>exact zwt frs hl
 | true =>
  cases frs with
  | nil=>exact zcv Ty.Frame zwK ⟨rfl,rfl⟩
  | cons x r=>exact absurd (hb (by simp)) (by simp)
def zaF (frs:List Fr) (t:Tb) (v:List V):(List Fr) :=
 frs++[Fr.mk t.sch.name false t.sch.cols v]
theorem zb3 (frs:List Fr) (t:Tb) (v:List V) (hl:zac frs):zaa E0 S.evaluate_inside [fsl frs,t.av,vsl v] [] (fsl (zaF frs t v)) []:=by
 unfold zaF
 exact (by (try simp only [X.av,Qy.av,V.av,Tb.av,Sch.av,Pl.av,xsl,fsl,vsl,tsl,List.map_append,List.map_cons,List.map_nil,V.cells,Col.cells,Rw.cells,Tb.cells,Fr.cells,Sch.cells,Pl.cells,zaW,zaI,zaO,zaM,zaT,X.cells,Qy.cells,X.args_mk,X.sub_mk,Qy.items_mk,Qy.wh_mk,xCol,xLit,xBin,xNeg]);exact wk At.evaluate_inside [sqx ((List.map Fr.cells frs++[[sv t.sch.name,bv false,AV.sl (List.map Col.cells t.sch.cols),AV.sl (List.map V.cells v)]]).length=(List.map Fr.cells frs++[[sv t.sch.name,bv false,AV.sl (List.map Col.cells t.sch.cols),AV.sl (List.map V.cells v)]]).length),sd [(1,[sc (zeL frs (by first|assumption|omega|(simp;done)|(simp;omega)))]),(11,[sqx (AllLen [[sv t.sch.name,bv false,AV.sl (List.map Col.cells t.sch.cols),AV.sl (List.map V.cells v)]] 4∧frs.length=(List.map Fr.cells frs).length∧(((List.map Fr.cells frs).length+[[sv t.sch.name,bv false,AV.sl (List.map Col.cells t.sch.cols),AV.sl (List.map V.cells v)]].length) * 72).le 140737488355328)])]] kr)
end Go.AM
namespace Go.AM
set_option maxRecDepth 100000
set_option maxHeartbeats 1000000
set_option linter.unusedSimpArgs false
set_option linter.unusedVariables false
theorem zsn {p:Prop} (h:p:=by first|assumption|(simp;done)|(simp;omega)|omega|(simp at *;omega)):p:=h
abbrev AH (q:Qy) (tb:List Tb) (e:X) (n:Nat) (its:List V):Heap:=[.box [iv (n:Nat)],.box q.cells,.box [tsl tb],.box e.cells,.box [.own 5 its.length],.row Ty.Value (its.map V.cells) false]
noncomputable def zkC (f:X→V × Int) (q:Qy) (w:List Fr) (tb:List Tb) (e:X) (n:Nat) (its0:List V) (i:Nat) (its:List V):Cfg:=zal B.evaluate_aggregate_c1 0 [(1,fsl w),(4,.p 2 0),(5,.p 3 0),(6,.p 4 0),(17,xsl q.items),(18,iv ((zad q.items).length:Nat)),(19,iv (i:Nat))] (AH q tb e (n+1) its)
def aggI (f:X→V × Int) (q:Qy) (w:List Fr) (tb:List Tb) (e:X) (n:Nat) (its0:List V):List (X)→Nat→(List V)→Int × (List V)
 | [],i,its =>
  (0,its)
 | x::r,i,its =>
  bif (f x).snd != 0 then
   ((f x).snd,its)
  else
   bif (f x).fst.kind==0 then
    aggI f q w tb e n its0 r (i+1) (its)
   else
    bif e.kind==10 then
     bif (f x).fst.kind != 1 then
      (5,its)
     else
      aggI f q w tb e n its0 r (i+1) (its++[(f x).fst])
    else
     aggI f q w tb e n its0 r (i+1) (its++[(f x).fst])
theorem zrr (f:X→V × Int) (q:Qy) (w:List Fr) (tb:List Tb) (e:X) (n:Nat) (its0:List V) (hl:q.items.length≤1000) (hi0:its0.length≤2000000) (hf:∀ x∈q.items,Pure S.evaluate_Value [x.av,fsl w,tsl tb] (.tup [(f x).1.av,iv (f x).2])):∀ (kk i:Nat) (its:List V),i+kk=(q.items).length→its.length≤its0.length+i→Good E0 B.evaluate_aggregate_c1 (AH q tb e n its0) (zkC f q w tb e n its0 i its) (Shut 6 fun r h=>r=(iv (aggI f q w tb e n its0 ((q.items).drop i) i its).1)∧h=(AH q tb e (n+1) (aggI f q w tb e n its0 ((q.items).drop i) i its).2)):=by
 intro kk
 induction kk with
 | zero =>
  intro i its hi ho
  have h0:decide (((i:Nat):Int) < (((zad q.items).length:Nat):Int))=false:=by simp;omega
  have e0:(q.items).drop i=[]:=List.drop_of_length_le (by omega)
  rw [e0]
  simp only [aggI]
  refine zab ?_
  exact wkr [sb h0] kr
 | succ kk ih =>
  intro i its hi ho
  obtain ⟨x,hx⟩:=zav (l:=q.items) (i:=i) (by omega)
  have h0:decide (((i:Nat):Int) < (((zad q.items).length:Nat):Int))=true:=by simp;omega
  have hw:=zak i (by first|omega|(simp only [zac,Few] at *;omega))
  have hfx:=hf x (List.mem_of_getElem? hx)
  rw [zaR hx]
  simp only [aggI]
  refine zab ?_
  cases h1:(f x).snd != 0
  ·cases h2:(f x).fst.kind==0
   ·cases h3:e.kind==10
    ·exact wkl (c':=(Cfg.mk (zkC f q w tb e n its0 (i+1) (its++[(f x).fst])).n (zkC f q w tb e n its0 (i+1) (its++[(f x).fst])).todo [(1,AV.sl (List.map Fr.cells w)),(4,AV.p 2 0),(5,AV.p 3 0),(6,AV.p 4 0),(17,AV.sl (zad q.items)),(18,iv (↑(zad q.items).length:Int)),(19,iv (↑(i+1):Int))] [Blk.box [iv (↑(n+1):Int)],Blk.box [bv q.star,AV.sl (zad q.items),sv q.frm,AV.sl (zad q.wh)],Blk.box [AV.sl (List.map Tb.cells tb)],Blk.box [iv e.kind,iv e.op,bv e.not,iv e.val.kind,iv e.val.int,sv e.val.text,sv e.table,sv e.name,AV.sl (zad e.args),AV.sl (zag e.sub)],Blk.box [AV.own 5 (List.map V.cells its++[[iv (f x).fst.kind,iv (f x).fst.int,sv (f x).fst.text]]).length],Blk.row Ty.Value (List.map V.cells its++[[iv (f x).fst.kind,iv (f x).fst.int,sv (f x).fst.text]]) false])) [sb h0,se (zcC hx),sc hfx,sb h1,sc (zae ((f x).fst)),sb h2,sb h3,sqx (AllLen [[iv (f x).fst.kind,iv (f x).fst.int,sv (f x).fst.text]] 3∧its.length=(List.map V.cells its).length∧(((List.map V.cells its).length+[[iv (f x).fst.kind,iv (f x).fst.int,sv (f x).fst.text]].length) * 32).le 140737488355328),si hw] [1,4,5,6,17,18,19] 6 kr (zan (show ([(1,AV.sl (List.map Fr.cells w)),(4,AV.p 2 0),(5,AV.p 3 0),(6,AV.p 4 0),(17,AV.sl (zad q.items)),(18,iv (↑(zad q.items).length:Int)),(19,iv (↑(i+1):Int))]:TS)=[(1,AV.sl (List.map Fr.cells w)),(4,AV.p 2 0),(5,AV.p 3 0),(6,AV.p 4 0),(17,AV.sl (zad q.items)),(18,iv (↑(zad q.items).length:Int)),(19,iv (↑(i+1):Int))] by first|rfl|(simp;done)|(simp [X.cells,Qy.cells,V.cells,Col.cells,Rw.cells,Tb.cells,Fr.cells,Sch.cells,Tp.cells,Pl.cells,xCol,xLit,xBin,xNeg];done)) (show ([Blk.box [iv (↑(n+1):Int)],Blk.box [bv q.star,AV.sl (zad q.items),sv q.frm,AV.sl (zad q.wh)],Blk.box [AV.sl (List.map Tb.cells tb)],Blk.box [iv e.kind,iv e.op,bv e.not,iv e.val.kind,iv e.val.int,sv e.val.text,sv e.table,sv e.name,AV.sl (zad e.args),AV.sl (zag e.sub)],Blk.box [AV.own 5 (List.map V.cells its++[[iv (f x).fst.kind,iv (f x).fst.int,sv (f x).fst.text]]).length],Blk.row Ty.Value (List.map V.cells its++[[iv (f x).fst.kind,iv (f x).fst.int,sv (f x).fst.text]]) false]:Heap)=[Blk.box [iv (↑(n+1):Int)],Blk.box [bv q.star,AV.sl (zad q.items),sv q.frm,AV.sl (zad q.wh)],Blk.box [AV.sl (List.map Tb.cells tb)],Blk.box [iv e.kind,iv e.op,bv e.not,iv e.val.kind,iv e.val.int,sv e.val.text,sv e.table,sv e.name,AV.sl (zad e.args),AV.sl (zag e.sub)],Blk.box [AV.own 5 (its++[(f x).fst]).length],Blk.row Ty.Value (List.map V.cells (its++[(f x).fst])) false] by first|rfl|(simp;done)|(simp [X.cells,Qy.cells,V.cells,Col.cells,Rw.cells,Tb.cells,Fr.cells,Sch.cells,Tp.cells,Pl.cells,xCol,xLit,xBin,xNeg];done)) (ih (i+1) (its++[(f x).fst]) (by omega) zsn))
    ·cases h4:(f x).fst.kind != 1
     ·exact wkl (c':=(Cfg.mk (zkC f q w tb e n its0 (i+1) (its++[(f x).fst])).n (zkC f q w tb e n its0 (i+1) (its++[(f x).fst])).todo [(1,AV.sl (List.map Fr.cells w)),(4,AV.p 2 0),(5,AV.p 3 0),(6,AV.p 4 0),(17,AV.sl (zad q.items)),(18,iv (↑(zad q.items).length:Int)),(19,iv (↑(i+1):Int))] [Blk.box [iv (↑(n+1):Int)],Blk.box [bv q.star,AV.sl (zad q.items),sv q.frm,AV.sl (zad q.wh)],Blk.box [AV.sl (List.map Tb.cells tb)],Blk.box [iv e.kind,iv e.op,bv e.not,iv e.val.kind,iv e.val.int,sv e.val.text,sv e.table,sv e.name,AV.sl (zad e.args),AV.sl (zag e.sub)],Blk.box [AV.own 5 (List.map V.cells its++[[iv (f x).fst.kind,iv (f x).fst.int,sv (f x).fst.text]]).length],Blk.row Ty.Value (List.map V.cells its++[[iv (f x).fst.kind,iv (f x).fst.int,sv (f x).fst.text]]) false])) [sb h0,se (zcC hx),sc hfx,sb h1,sc (zae ((f x).fst)),sb h2,sg h3,sb h4,sqx (AllLen [[iv (f x).fst.kind,iv (f x).fst.int,sv (f x).fst.text]] 3∧its.length=(List.map V.cells its).length∧(((List.map V.cells its).length+[[iv (f x).fst.kind,iv (f x).fst.int,sv (f x).fst.text]].length) * 32).le 140737488355328),si hw] [1,4,5,6,17,18,19] 6 kr (zan (show ([(1,AV.sl (List.map Fr.cells w)),(4,AV.p 2 0),(5,AV.p 3 0),(6,AV.p 4 0),(17,AV.sl (zad q.items)),(18,iv (↑(zad q.items).length:Int)),(19,iv (↑(i+1):Int))]:TS)=[(1,AV.sl (List.map Fr.cells w)),(4,AV.p 2 0),(5,AV.p 3 0),(6,AV.p 4 0),(17,AV.sl (zad q.items)),(18,iv (↑(zad q.items).length:Int)),(19,iv (↑(i+1):Int))] by first|rfl|(simp;done)|(simp [X.cells,Qy.cells,V.cells,Col.cells,Rw.cells,Tb.cells,Fr.cells,Sch.cells,Tp.cells,Pl.cells,xCol,xLit,xBin,xNeg];done)) (show ([Blk.box [iv (↑(n+1):Int)],Blk.box [bv q.star,AV.sl (zad q.items),sv q.frm,AV.sl (zad q.wh)],Blk.box [AV.sl (List.map Tb.cells tb)],Blk.box [iv e.kind,iv e.op,bv e.not,iv e.val.kind,iv e.val.int,sv e.val.text,sv e.table,sv e.name,AV.sl (zad e.args),AV.sl (zag e.sub)],Blk.box [AV.own 5 (List.map V.cells its++[[iv (f x).fst.kind,iv (f x).fst.int,sv (f x).fst.text]]).length],Blk.row Ty.Value (List.map V.cells its++[[iv (f x).fst.kind,iv (f x).fst.int,sv (f x).fst.text]]) false]:Heap)=[Blk.box [iv (↑(n+1):Int)],Blk.box [bv q.star,AV.sl (zad q.items),sv q.frm,AV.sl (zad q.wh)],Blk.box [AV.sl (List.map Tb.cells tb)],Blk.box [iv e.kind,iv e.op,bv e.not,iv e.val.kind,iv e.val.int,sv e.val.text,sv e.table,sv e.name,AV.sl (zad e.args),AV.sl (zag e.sub)],Blk.box [AV.own 5 (its++[(f x).fst]).length],Blk.row Ty.Value (List.map V.cells (its++[(f x).fst])) false] by first|rfl|(simp;done)|(simp [X.cells,Qy.cells,V.cells,Col.cells,Rw.cells,Tb.cells,Fr.cells,Sch.cells,Tp.cells,Pl.cells,xCol,xLit,xBin,xNeg];done)) (ih (i+1) (its++[(f x).fst]) (by omega) zsn))
     ·exact wkr [sb h0,se (zcC hx),sc hfx,sb h1,sc (zae ((f x).fst)),sb h2,sg h3,sb h4] kr
   ·exact wkl [sb h0,se (zcC hx),sc hfx,sb h1,sc (zae ((f x).fst)),sb h2,si hw] [1,4,5,6,17,18,19] 6 kr (ih (i+1) its (by omega) zsn)
  ·exact wkr [sb h0,se (zcC hx),sc hfx,sb h1] kr
def aggC (f:X→V × Int) (q:Qy) (w:List Fr) (tb:List Tb) (e:X) (n:Nat) (its:List V):Int × (List V) :=
 aggI f q w tb e n its q.items 0 (its)
theorem zhg (f:X→V × Int) (q:Qy) (w:List Fr) (tb:List Tb) (e:X) (n:Nat) (its:List V) (rw:Rw) (hl:q.items.length≤1000) (hi0:its.length≤2000000) (hwn:IntKind.i64.wrap (((n:Nat):Int)+1)=((n+1:Nat):Int)) (hf:∀ x∈q.items,Pure S.evaluate_Value [x.av,fsl w,tsl tb] (.tup [(f x).1.av,iv (f x).2])):zaa E0 S.evaluate_aggregate_c1 [.agg (Rw.cells rw),fsl w,.p 0 0,.p 1 0,.p 2 0,.p 3 0,.p 4 0] (AH q tb e n its) (iv (aggC f q w tb e n its).1) (AH q tb e (n+1) (aggC f q w tb e n its).2):=by
 unfold aggC
 exact wkc At.evaluate_aggregate_c1 [si hwn] [1,4,5,6,17,18,19] 6 kr (by have ih:=zrr f q w tb e n its hl hi0 hf q.items.length 0 its (by simp) (by simp);exact ih)
end Go.AM
namespace Go.AM
set_option maxRecDepth 100000
set_option maxHeartbeats 1000000
set_option linter.unusedSimpArgs false
set_option linter.unusedVariables false
theorem zie {p:Prop} (h:p:=by first|assumption|omega|(simp;done)|(simp;omega)):p:=h
theorem ziH {p:Prop} (h:p:=by first|omega|(have:=hgl x its;omega)):p:=h
noncomputable def L_selA (tr:Rw→Bool × Int) (g:Rw→List V→Int × List V) (q:Qy) (frs:List Fr) (tb:List Tb) (e:X) (t:Tb) (n0:Nat) (its0:List V) (i:Nat) (n:Nat) (its:List V):Cfg:=zal B.evaluate_selected 0 [(1,fsl frs),(2,tsl tb),(3,.fn S.evaluate_aggregate_c1 [.p 0 0,.p 1 0,.p 2 0,.p 3 0,.p 4 0]),(4,.p 6 0),(9,.p 7 0),(26,.sl (t.rows.map Rw.cells)),(27,iv ((t.rows.map Rw.cells).length:Nat)),(28,iv (i:Nat))] (AH q tb e n its++[.box q.cells,.box t.cells])
def selA (tr:Rw→Bool × Int) (g:Rw→List V→Int × List V) (q:Qy) (frs:List Fr) (tb:List Tb) (e:X) (t:Tb) (n0:Nat) (its0:List V):List (Rw)→Nat→(Nat)→(List V)→Int × Nat × (List V)
 | [],i,n,its =>
  (0,n,its)
 | x::r,i,n,its =>
  bif (tr x).snd==0 then
   bif (tr x).fst then
    bif (g x its).fst != 0 then
     ((g x its).fst,n+1,(g x its).snd)
    else
     selA tr g q frs tb e t n0 its0 r (i+1) (n+1) ((g x its).snd)
   else
    bif (tr x).snd != 0 then
     ((tr x).snd,n,its)
    else
     selA tr g q frs tb e t n0 its0 r (i+1) n (its)
  else
   bif (tr x).snd != 0 then
    ((tr x).snd,n,its)
   else
    selA tr g q frs tb e t n0 its0 r (i+1) n (its)
theorem zq9 (tr:Rw→Bool × Int) (g:Rw→List V→Int × List V) (q:Qy) (frs:List Fr) (tb:List Tb) (e:X) (t:Tb) (n0:Nat) (its0:List V) (hfr:zac frs) (hrows:t.rows.length≤1000) (hn0:n0≤1000) (hi0:its0.length≤1000) (hgl:∀ (r:Rw) (its:List V),(g r its).2.length≤its.length+1000) (hT:∀ r∈t.rows,Pure S.evaluate_True [xsl q.wh,fsl (zaF frs t r.vals),tsl tb] (.tup [bv (tr r).1,iv (tr r).2])) (hC:∀ r∈t.rows,∀ (n:Nat) (its:List V),n≤1000000→its.length≤2000000→zaa E0 S.evaluate_aggregate_c1 [.agg (Rw.cells r),fsl (zaF frs t r.vals),.p 0 0,.p 1 0,.p 2 0,.p 3 0,.p 4 0] (AH q tb e n its) (iv (g r its).1) (AH q tb e (n+1) (g r its).2)):∀ (kk i:Nat) (n:Nat) (its:List V),i+kk=(t.rows).length→n≤n0+i→its.length≤its0.length+1000 * i→Good E0 B.evaluate_selected (AH q tb e n0 its0) (L_selA tr g q frs tb e t n0 its0 i n its) (Shut 6 fun r h=>r=(iv (selA tr g q frs tb e t n0 its0 ((t.rows).drop i) i n its).1)∧h=(AH q tb e (selA tr g q frs tb e t n0 its0 ((t.rows).drop i) i n its).2.1 (selA tr g q frs tb e t n0 its0 ((t.rows).drop i) i n its).2.2)):=by
 intro kk
 induction kk with
 | zero =>
  intro i n its hi hn hi2
  have h0:decide (((i:Nat):Int) < (((t.rows.map Rw.cells).length:Nat):Int))=false:=by simp;omega
  have e0:(t.rows).drop i=[]:=List.drop_of_length_le (by omega)
  rw [e0]
  simp only [selA]
  refine zab ?_
  exact wkr [sb h0] kr
 | succ kk ih =>
  intro i n its hi hn hi2
  obtain ⟨x,hx⟩:=zav (l:=t.rows) (i:=i) (by omega)
  have h0:decide (((i:Nat):Int) < (((t.rows.map Rw.cells).length:Nat):Int))=true:=by simp;omega
  have hw:=zak i (by first|omega|(simp only [zac,Few] at *;omega))
  have hTx:=hT x (List.mem_of_getElem? hx);have hCx:=hC x (List.mem_of_getElem? hx) n its (by omega) (by omega)
  rw [zaR hx]
  simp only [selA]
  refine zab ?_
  cases h1:(tr x).snd==0
  ·cases h2:(tr x).snd != 0
   ·exact wkl [sb h0,se (zaf Rw.cells hx rfl),sc (zb3 frs t x.vals zie),sc hTx,sb h1,sb h2,si hw] [1,2,3,4,9,26,27,28] 8 kr (ih (i+1) n its (by omega) ziH ziH)
   ·exact wkr [sb h0,se (zaf Rw.cells hx rfl),sc (zb3 frs t x.vals zie),sc hTx,sb h1,sb h2] kr
  ·cases h3:(tr x).fst
   ·cases h4:(tr x).snd != 0
    ·exact wkl [sb h0,se (zaf Rw.cells hx rfl),sc (zb3 frs t x.vals zie),sc hTx,sg h1,sb h3,sb h4,si hw] [1,2,3,4,9,26,27,28] 8 kr (ih (i+1) n its (by omega) ziH ziH)
    ·exact wkr [sb h0,se (zaf Rw.cells hx rfl),sc (zb3 frs t x.vals zie),sc hTx,sg h1,sb h3,sb h4] kr
   ·cases h5:(g x its).fst != 0
    ·exact wkl [sb h0,se (zaf Rw.cells hx rfl),sc (zb3 frs t x.vals zie),sc hTx,sg h1,sb h3,sl [0,1,2,3,4,5] hCx,sb h5,si hw] [1,2,3,4,9,26,27,28] 8 kr (ih (i+1) (n+1) ((g x its).snd) (by omega) ziH ziH)
    ·exact wkr [sb h0,se (zaf Rw.cells hx rfl),sc (zb3 frs t x.vals zie),sc hTx,sg h1,sb h3,sl [0,1,2,3,4,5] hCx,sb h5] kr
end Go.AM
namespace Go.AM
set_option maxRecDepth 100000
set_option maxHeartbeats 1000000
set_option linter.unusedSimpArgs false
set_option linter.unusedVariables false
theorem zgK {p:Prop} (h:p:=by first|assumption|exact head0 (by assumption)|exact len1 (by assumption)):p:=h
def zmH (tr:Rw→Bool × Int) (g:Rw→List V→Int × List V) (q:Qy) (frs:List Fr) (tb:List Tb) (e:X) (t:Tb) (n0:Nat) (its0:List V):Int × Nat × (List V) :=
 selA tr g q frs tb e t n0 its0 t.rows 0 n0 (its0)
theorem zhB (tr:Rw→Bool × Int) (g:Rw→List V→Int × List V) (q:Qy) (frs:List Fr) (tb:List Tb) (e:X) (t:Tb) (n0:Nat) (its0:List V) (hfind:Pure S.evaluate_find [tsl tb,sv q.frm] (.tup [t.av,bv true])) (hfr:zac frs) (hrows:t.rows.length≤1000) (hn0:n0≤1000) (hi0:its0.length≤1000) (hgl:∀ (r:Rw) (its:List V),(g r its).2.length≤its.length+1000) (hT:∀ r∈t.rows,Pure S.evaluate_True [xsl q.wh,fsl (zaF frs t r.vals),tsl tb] (.tup [bv (tr r).1,iv (tr r).2])) (hC:∀ r∈t.rows,∀ (n:Nat) (its:List V),n≤1000000→its.length≤2000000→zaa E0 S.evaluate_aggregate_c1 [.agg (Rw.cells r),fsl (zaF frs t r.vals),.p 0 0,.p 1 0,.p 2 0,.p 3 0,.p 4 0] (AH q tb e n its) (iv (g r its).1) (AH q tb e (n+1) (g r its).2)):zaa E0 S.evaluate_selected [q.av,fsl frs,tsl tb,.fn S.evaluate_aggregate_c1 [.p 0 0,.p 1 0,.p 2 0,.p 3 0,.p 4 0]] (AH q tb e n0 its0) (iv (zmH tr g q frs tb e t n0 its0).1) (AH q tb e (zmH tr g q frs tb e t n0 its0).2.1 (zmH tr g q frs tb e t n0 its0).2.2):=by
 unfold zmH
 exact wkc At.evaluate_selected [sc hfind,sb (rfl:false=false)] [1,2,3,4,9,26,27,28] 8 kr (zq9 tr g q frs tb e t n0 its0 hfr hrows hn0 hi0 hgl hT hC t.rows.length 0 n0 its0 (by simp) (by simp) (by simp))
def zsM (q:Qy) (frs:List Fr) (tb:List Tb) (e:X) (n0:Nat) (its0:List V):Int × Nat × (List V) :=
 (3,n0,its0)
theorem zhO (q:Qy) (frs:List Fr) (tb:List Tb) (e:X) (n0:Nat) (its0:List V) (hfind:Pure S.evaluate_find [tsl tb,sv q.frm] (.tup [Tb.zero.av,bv false])):zaa E0 S.evaluate_selected [q.av,fsl frs,tsl tb,.fn S.evaluate_aggregate_c1 [.p 0 0,.p 1 0,.p 2 0,.p 3 0,.p 4 0]] (AH q tb e n0 its0) (iv (zsM q frs tb e n0 its0).1) (AH q tb e (zsM q frs tb e n0 its0).2.1 (zsM q frs tb e n0 its0).2.2):=by
 exact wk At.evaluate_selected [sc hfind,sb (rfl:true=true)] kr
noncomputable def zgC (e:X) (q:Qy) (frs:List Fr) (tb:List Tb):Cfg:=(upto (mk E0) (List.range 100) 6 3000 ⟨B.evaluate_aggregate.ntmps,[.code (B.evaluate_aggregate.body.getD .skip)],zbZ 0 [e.av,fsl frs,tsl tb],[]⟩ [.el q.cells]).2
noncomputable def aggCfg (e:X) (q:Qy) (frs:List Fr) (tb:List Tb):Cfg:=cut (List.range 100) 7 ⟨(zgC e q frs tb).n,(zgC e q frs tb).todo,(zgC e q frs tb).ts,((zgC e q frs tb).h++[Blk.row Ty.Value [] false]).set 5 (.box (([AV.nl]:List AV).set 0 (.own (zgC e q frs tb).h.length 0)))⟩
theorem agg_to {e:X} {q:Qy} {frs:List Fr} {tb:List Tb} {R:AV→Heap→Prop} (hq:e.sub[0]?=some q) (hg:Good E0 B.evaluate_aggregate [] (aggCfg e q frs tb) (Shut 0 R)):zbI E0 S.evaluate_aggregate [e.av,fsl frs,tsl tb] [] R :=
 wkc (c':=zgC e q frs tb) At.evaluate_aggregate [se (zaV hq)] (List.range 100) 6 kr
  (zdN (cs:=[AV.nl]) 5 0 Ty.Value (List.range 100) 7 kr kr kr rfl hg)
theorem head0 {l:List V} (h:(((l.length:Nat):Int)==0)=false):l[0]?=some (l.headD V.null):=by
 cases l with
 | nil=>simp at h
 | cons x r=>rfl
theorem len1 {l:List V} (h:(((l.length:Nat):Int)==0)=false):decide ((((l.map V.cells).length:Nat):Int) < 1)=false:=by
 cases l with
 | nil=>simp at h
 | cons x r=>simp;omega
def eAgg (sel:Int × Nat × List V) (e:X):V × Int :=
 bif sel.1 != 0 then (V.null,sel.1)
 else bif e.kind==8 then (⟨2,if decide (0 < ((sel.2.1:Nat):Int)) then 1 else 0,⟨#[]⟩⟩,0)
 else bif e.kind==9 then (⟨1,(sel.2.1:Nat),⟨#[]⟩⟩,0)
 else bif ((sel.2.2.length:Nat):Int)==0 then (V.null,0)
 else bif e.kind==10 then eSum sel.2.2
 else bif e.kind==11 then (minV sel.2.2,0)
 else (maxV sel.2.2,0)
theorem c_agg (sel:Int × Nat × List V) (e:X) (q:Qy) (frs:List Fr) (tb:List Tb) (hq:e.sub[0]?=some q) (hlen:zac sel.2.2) (hsel:zaa E0 S.evaluate_selected [q.av,fsl frs,tsl tb,.fn S.evaluate_aggregate_c1 [.p 0 0,.p 1 0,.p 2 0,.p 3 0,.p 4 0]] (AH q tb e 0 []) (iv sel.1) (AH q tb e sel.2.1 sel.2.2)):zaa E0 S.evaluate_aggregate [e.av,fsl frs,tsl tb] [] (.tup [(eAgg sel e).1.av,iv (eAgg sel e).2]) []:=by
 refine agg_to hq ?_
 unfold eAgg
 cases h1:sel.fst != 0
 ·cases h2:e.kind==8
  ·cases h3:e.kind==9
   ·cases h4:(sel.snd.snd.length:Int)==0
    ·cases h5:e.kind==10
     ·cases h6:e.kind==11
      ·exact wkr [sl [4,3,1,0,5,6] hsel,sb h1,sb h2,sb h3,sqx (sel.snd.snd.length=(List.map V.cells sel.snd.snd).length),sb h4,sb h5,sb h6,skx (sel.snd.snd.length=(List.map V.cells sel.snd.snd).length∧True∧True) [] (zhC sel.snd.snd zgK zgK zgK)] kr
      ·exact wkr [sl [4,3,1,0,5,6] hsel,sb h1,sb h2,sb h3,sqx (sel.snd.snd.length=(List.map V.cells sel.snd.snd).length),sb h4,sb h5,sb h6,skx (sel.snd.snd.length=(List.map V.cells sel.snd.snd).length∧True∧True) [] (zhU sel.snd.snd zgK zgK zgK)] kr
     ·exact wkr [sl [4,3,1,0,5,6] hsel,sb h1,sb h2,sb h3,sqx (sel.snd.snd.length=(List.map V.cells sel.snd.snd).length),sb h4,sb h5,skx (sel.snd.snd.length=(List.map V.cells sel.snd.snd).length∧True) [] (znM sel.snd.snd zgK)] kr
    ·exact wkr [sl [4,3,1,0,5,6] hsel,sb h1,sb h2,sb h3,sqx (sel.snd.snd.length=(List.map V.cells sel.snd.snd).length),sb h4] kr
   ·exact wkr [sl [4,3,1,0,5,6] hsel,sb h1,sb h2,sb h3,sc (za1 ((sel.snd.fst:Int)))] kr
  ·exact wkr [sl [4,3,1,0,5,6] hsel,sb h1,sb h2,sc (zbu (decide (0 < (sel.snd.fst:Int))))] kr
 ·exact wkr [sl [4,3,1,0,5,6] hsel,sb h1] kr
end Go.AM
namespace Go.AM
set_option maxRecDepth 100000
set_option maxHeartbeats 1000000
set_option linter.unusedSimpArgs false
set_option linter.unusedVariables false
theorem zbj {p:Prop} (h:p:=by first|assumption|exact hfo.short|exact hfo.cols|exact hfo.wrap|exact zwD (by assumption)|exact zvH (by assumption)|(simp_all;done)|(simp at *;omega)):p:=h
theorem zlV (frs:List Fr) (q n:Str) (k:Nat) (f:Fr) (els:Int × Int × Bool):∀ (c:List Col) (j:Nat),zdP frs q n k f els c j=bif decide (0≤idxF (fun c=>colC c n) c j) then (pm1 (k+1),idxF (fun c=>colC c n) c j,true) else els
 | [],j=>by simp [zdP,idxF]
 | x::r,j=>by
  rcases Bool.eq_false_or_eq_true (x.name.toList==n.toList) with h|h
  ·simp [zdP,idxF,colC,h]
  ·have ih:=zlV frs q n k f els r (j+1)
   simp only [colC] at ih
   simp only [zdP,idxF,colC,h,cond_false]
   exact ih
theorem zrK (frs:List Fr) (q n:Str):∀ k,sres frs q n k=rres frs q n k
 | 0=>rfl
 | k+1=>by simp only [sres,rres,zlV,zrK frs q n k]
theorem zlC (frs:List Fr) (q n:Str):zbM frs q n=zbN frs q n:=zrK frs q n _
theorem zqb (frs:List Fr) (q n:Str) (h:(!(zbM frs q n).2.2)=false):ElAt (frs.map Fr.cells) (zbM frs q n).1 (rFr frs q n).cells 4:=by
 rw [zlC] at h ⊢;exact el_rFr frs q n (by simpa using h)
theorem zwD {frs:List Fr} {q n:Str} (h:(!(zbM frs q n).2.2)=false):decide ((zbM frs q n).2.1 < 0)=false:=by
 rw [zlC] at h ⊢
 obtain ⟨i,j,e,_⟩:=zlQ (by simpa using h:(zbN frs q n).2.2=true)
 rw [e];simp
theorem zvH {l:List V} {k:Int} (h:decide ((((l.map V.cells).length:Nat):Int)≤k)=false):k < l.length:=by simp at h;omega
noncomputable def zk1 (f:X→V × Int) (op:List V→V × Int) (e:X) (frs:List Fr) (tb:List Tb) (i:Nat) (out:List V):Cfg:=zal B.evaluate_Value 0 [(1,fsl frs),(2,tsl tb),(3,.p 0 0),(6,.p 1 0),(11,.own 2 out.length),(73,xsl e.args),(74,iv ((zad e.args).length:Nat)),(75,iv (i:Nat))] [.box e.cells,.box [iv 0,iv 0,sv ⟨#[]⟩],.row Ty.Value (out.map V.cells) false]
def evL (f:X→V × Int) (op:List V→V × Int) (e:X) (frs:List Fr) (tb:List Tb):List (X)→Nat→(List V)→V × Int
 | [],i,out =>
  ((op out).fst,(op out).snd)
 | x::r,i,out =>
  bif (f x).snd != 0 then
   (V.mk 0 0 (ByteArray.mk #[]),(f x).snd)
  else
   evL f op e frs tb r (i+1) (out++[(f x).fst])
theorem zr8 (f:X→V × Int) (op:List V→V × Int) (e:X) (frs:List Fr) (tb:List Tb) (hl:Few e.args) (hf:∀ x∈e.args,Pure S.evaluate_Value [x.av,fsl frs,tsl tb] (.tup [(f x).1.av,iv (f x).2])) (hfg:∀ x∈e.args,(f x).1.Good) (hop:∀ l:List V,l.length=e.args.length→(∀ v∈l,v.Good)→Pure S.evaluate_operation [e.av,vsl l] (.tup [(op l).1.av,iv (op l).2])):∀ (kk i:Nat) (out:List V),i+kk=(e.args).length→(out.length=i)→(∀ v∈out,v.Good)→Good E0 B.evaluate_Value [] (zk1 f op e frs tb i out) (Shut 0 fun r h=>r=(.tup [(evL f op e frs tb ((e.args).drop i) i out).1.av,iv (evL f op e frs tb ((e.args).drop i) i out).2])∧h=[]):=by
 intro kk
 induction kk with
 | zero =>
  intro i out hi ho hg
  have h0:decide (((i:Nat):Int) < (((zad e.args).length:Nat):Int))=false:=by simp;omega
  have e0:(e.args).drop i=[]:=List.drop_of_length_le (by omega)
  rw [e0]
  simp only [evL]
  refine zab ?_
  exact wkr [sb h0,skx ((True∧True∧True∧True∧True∧True∧True∧True∧True∧True∧True)∧out.length=(List.map V.cells out).length∧True) [] (hop out (by first|assumption|omega) (by first|assumption|omega))] kr
 | succ kk ih =>
  intro i out hi ho hg
  obtain ⟨x,hx⟩:=zav (l:=e.args) (i:=i) (by omega)
  have h0:decide (((i:Nat):Int) < (((zad e.args).length:Nat):Int))=true:=by simp;omega
  have hw:=zak i (by first|omega|(simp only [zac,Few] at *;omega))
  have hfx:=hf x (List.mem_of_getElem? hx);have hgx:=hfg x (List.mem_of_getElem? hx);have hlen:out.length≤1000:=by have:=zee hx;simp only [Few] at hl;omega
  rw [zaR hx]
  simp only [evL]
  refine zab ?_
  cases h1:(f x).snd != 0
  ·exact wkl (c':=(Cfg.mk (zk1 f op e frs tb (i+1) (out++[(f x).fst])).n (zk1 f op e frs tb (i+1) (out++[(f x).fst])).todo [(1,AV.sl (List.map Fr.cells frs)),(2,AV.sl (List.map Tb.cells tb)),(3,AV.p 0 0),(6,AV.p 1 0),(11,AV.own 2 (List.map V.cells out++[[iv (f x).fst.kind,iv (f x).fst.int,sv (f x).fst.text]]).length),(73,AV.sl (zad e.args)),(74,iv (↑(zad e.args).length:Int)),(75,iv (↑(i+1):Int))] [Blk.box [iv e.kind,iv e.op,bv e.not,iv e.val.kind,iv e.val.int,sv e.val.text,sv e.table,sv e.name,AV.sl (zad e.args),AV.sl (zag e.sub)],Blk.box [iv 0,iv 0,sv (ByteArray.mk #[])],Blk.row Ty.Value (List.map V.cells out++[[iv (f x).fst.kind,iv (f x).fst.int,sv (f x).fst.text]]) false])) [sb h0,se (zcC hx),sc hfx,sb h1,sqx (AllLen [[iv (f x).fst.kind,iv (f x).fst.int,sv (f x).fst.text]] 3∧out.length=(List.map V.cells out).length∧(((List.map V.cells out).length+[[iv (f x).fst.kind,iv (f x).fst.int,sv (f x).fst.text]].length) * 32).le 140737488355328),si hw] [1,2,3,6,11,73,74,75] 3 kr (zan (show ([(1,AV.sl (List.map Fr.cells frs)),(2,AV.sl (List.map Tb.cells tb)),(3,AV.p 0 0),(6,AV.p 1 0),(11,AV.own 2 (List.map V.cells out++[[iv (f x).fst.kind,iv (f x).fst.int,sv (f x).fst.text]]).length),(73,AV.sl (zad e.args)),(74,iv (↑(zad e.args).length:Int)),(75,iv (↑(i+1):Int))]:TS)=[(1,AV.sl (List.map Fr.cells frs)),(2,AV.sl (List.map Tb.cells tb)),(3,AV.p 0 0),(6,AV.p 1 0),(11,AV.own 2 (out++[(f x).fst]).length),(73,AV.sl (zad e.args)),(74,iv (↑(zad e.args).length:Int)),(75,iv (↑(i+1):Int))] by first|rfl|(simp;done)|(simp [X.cells,Qy.cells,V.cells,Col.cells,Rw.cells,Tb.cells,Fr.cells,Sch.cells,Tp.cells,Pl.cells,xCol,xLit,xBin,xNeg];done)) (show ([Blk.box [iv e.kind,iv e.op,bv e.not,iv e.val.kind,iv e.val.int,sv e.val.text,sv e.table,sv e.name,AV.sl (zad e.args),AV.sl (zag e.sub)],Blk.box [iv 0,iv 0,sv (ByteArray.mk #[])],Blk.row Ty.Value (List.map V.cells out++[[iv (f x).fst.kind,iv (f x).fst.int,sv (f x).fst.text]]) false]:Heap)=[Blk.box [iv e.kind,iv e.op,bv e.not,iv e.val.kind,iv e.val.int,sv e.val.text,sv e.table,sv e.name,AV.sl (zad e.args),AV.sl (zag e.sub)],Blk.box [iv 0,iv 0,sv (ByteArray.mk #[])],Blk.row Ty.Value (List.map V.cells (out++[(f x).fst])) false] by first|rfl|(simp;done)|(simp [X.cells,Qy.cells,V.cells,Col.cells,Rw.cells,Tb.cells,Fr.cells,Sch.cells,Tp.cells,Pl.cells,xCol,xLit,xBin,xNeg];done)) (ih (i+1) (out++[(f x).fst]) (by omega) (by first|assumption|(simp;omega)|exact fun v hv=>(List.mem_append.1 hv).elim (hg v) fun h=>by simp only [List.mem_singleton] at h;exact h ▸ hgx) (by first|assumption|(simp;omega)|exact fun v hv=>(List.mem_append.1 hv).elim (hg v) fun h=>by simp only [List.mem_singleton] at h;exact h ▸ hgx)))
  ·exact wkr [sb h0,se (zcC hx),sc hfx,sb h1] kr
structure OpKind (e:X):Prop where
 fok:zfT e=true
 k1:e.kind≠1
 k2:e.kind≠2
 k8:¬(8≤e.kind∧e.kind≤12)
def valF (f:X→V × Int) (op:List V→V × Int) (agg:V × Int) (e:X) (frs:List Fr) (tb:List Tb):V × Int :=
 bif !zfT e then
  (V.mk 0 0 (ByteArray.mk #[]),17)
 else
  bif e.kind==1 then
   (e.val,0)
  else
   bif e.kind==2 then
    bif !(zbM frs e.table e.name).snd.snd then
     (V.mk 0 0 (ByteArray.mk #[]),3)
    else
     bif decide ((↑(List.map V.cells (rFr frs e.table e.name).vals).length:Int)≤(zbM frs e.table e.name).snd.fst) then
      (V.mk 0 0 (ByteArray.mk #[]),17)
     else
      (zaB (rFr frs e.table e.name).vals (zbM frs e.table e.name).snd.fst,0)
   else
    bif e.kind==8 then
     (agg.fst,agg.snd)
    else
     bif e.kind==9 then
      (agg.fst,agg.snd)
     else
      bif e.kind==10 then
       (agg.fst,agg.snd)
      else
       bif e.kind==11 then
        (agg.fst,agg.snd)
       else
        bif e.kind==12 then
         (agg.fst,agg.snd)
        else
         evL f op e frs tb e.args 0 ([])
theorem zjP (f:X→V × Int) (op:List V→V × Int) (agg:V × Int) (e:X) (frs:List Fr) (tb:List Tb) (n:Nat) (hfo:FsOk n frs) (hl:Few e.args) (hf:∀ x∈e.args,Pure S.evaluate_Value [x.av,fsl frs,tsl tb] (.tup [(f x).1.av,iv (f x).2])) (hfg:∀ x∈e.args,(f x).1.Good) (hop:OpKind e→∀ l:List V,l.length=e.args.length→(∀ v∈l,v.Good)→Pure S.evaluate_operation [e.av,vsl l] (.tup [(op l).1.av,iv (op l).2])) (hagg:zfT e=true→8≤e.kind→e.kind≤12→Pure S.evaluate_aggregate [e.av,fsl frs,tsl tb] (.tup [agg.1.av,iv agg.2])):zaa E0 S.evaluate_Value [e.av,fsl frs,tsl tb] [] (.tup [(valF f op agg e frs tb).1.av,iv (valF f op agg e frs tb).2]) []:=by
 unfold valF
 cases h1:!zfT e
 ·cases h2:e.kind==1
  ·cases h3:e.kind==2
   ·cases h4:e.kind==8
    ·cases h5:e.kind==9
     ·cases h6:e.kind==10
      ·cases h7:e.kind==11
       ·cases h8:e.kind==12
        ·exact wkc At.evaluate_Value (c':=(Cfg.mk (zk1 f op e frs tb 0 []).n (zk1 f op e frs tb 0 []).todo [(1,AV.sl (List.map Fr.cells frs)),(2,AV.sl (List.map Tb.cells tb)),(3,AV.p 0 0),(6,AV.p 1 0),(11,AV.nl),(73,AV.sl (zad e.args)),(74,iv (↑(zad e.args).length:Int)),(75,iv 0)] [Blk.box [iv e.kind,iv e.op,bv e.not,iv e.val.kind,iv e.val.int,sv e.val.text,sv e.table,sv e.name,AV.sl (zad e.args),AV.sl (zag e.sub)],Blk.box [iv 0,iv 0,sv (ByteArray.mk #[])]])) [sc (zbo e),sb h1,sb h2,sb h3,sb h4,sb h5,sb h6,sb h7,sb h8] [1,2,3,6,11,73,74,75] 2 kr (zbb (c':=zk1 f op e frs tb 0 []) 11 Ty.Value [1,2,3,6,11,73,74,75] 3 kr kr kr (zr8 f op e frs tb hl hf hfg (hop ⟨by simpa using h1,by simpa using h2,by simpa using h3,by simp at *;omega⟩) e.args.length 0 ([]) (by simp) (by simp) (by simp)))
        ·exact wk At.evaluate_Value [sc (zbo e),sb h1,sb h2,sb h3,sb h4,sb h5,sb h6,sb h7,sb h8,sc (hagg zbj zbj zbj)] kr
       ·exact wk At.evaluate_Value [sc (zbo e),sb h1,sb h2,sb h3,sb h4,sb h5,sb h6,sb h7,sc (hagg zbj zbj zbj)] kr
      ·exact wk At.evaluate_Value [sc (zbo e),sb h1,sb h2,sb h3,sb h4,sb h5,sb h6,sc (hagg zbj zbj zbj)] kr
     ·exact wk At.evaluate_Value [sc (zbo e),sb h1,sb h2,sb h3,sb h4,sb h5,sc (hagg zbj zbj zbj)] kr
    ·exact wk At.evaluate_Value [sc (zbo e),sb h1,sb h2,sb h3,sb h4,sc (hagg zbj zbj zbj)] kr
   ·cases h9:!(zbM frs e.table e.name).snd.snd
    ·cases h10:decide ((↑(List.map V.cells (rFr frs e.table e.name).vals).length:Int)≤(zbM frs e.table e.name).snd.fst)
     ·exact wk At.evaluate_Value [sc (zbo e),sb h1,sb h2,sb h3,sc (zeX frs e.table e.name zbj zbj zbj),sb h9,se (zqb frs e.table e.name zbj),sb h10,se (zqb frs e.table e.name zbj),se (zfR ((rFr frs e.table e.name).vals) ((zbM frs e.table e.name).snd.fst) zbj zbj)] kr
     ·exact wk At.evaluate_Value [sc (zbo e),sb h1,sb h2,sb h3,sc (zeX frs e.table e.name zbj zbj zbj),sb h9,se (zqb frs e.table e.name zbj),sb h10] kr
    ·exact wk At.evaluate_Value [sc (zbo e),sb h1,sb h2,sb h3,sc (zeX frs e.table e.name zbj zbj zbj),sb h9] kr
  ·exact wk At.evaluate_Value [sc (zbo e),sb h1,sb h2] kr
 ·exact wk At.evaluate_Value [sc (zbo e),sb h1] kr
end Go.AM
namespace Go.AM
set_option maxRecDepth 100000
set_option maxHeartbeats 1000000
set_option linter.unusedSimpArgs false
set_option linter.unusedVariables false
theorem zjz {k o:Int} {xs:List X} (h:zaU k o xs=true):((k=1∨k=2)∧xs.length=0)∨((k=3∨k=4∨k=6)∧xs.length=1)∨(k=5∧xs.length=2∧1≤o∧o≤13)∨(k=7∧xs.length=3):=by
 simp only [zaU,Bool.cond_eq_ite,zf7] at h
 simp at h
 repeat' split at h
 all_goals simp_all
 all_goals omega
theorem zjB {k o:Int} {xs:List X} {qs:List Qy} {it wh:List X} (hq:qs≠[]) (h:zay k o xs qs it wh=true):xs.length=0∧qs.length=1∧wh.length≤1∧(((k=8∨k=9)∧it.length=0)∨((k=10∨k=11∨k=12)∧it.length=1)):=by
 simp only [zay,Bool.cond_eq_ite,zf7,zef] at h
 simp [hq] at h
 obtain ⟨h1,h2,h3,h4,h5,h6,h7,h⟩:=h
 repeat' split at h
 all_goals simp_all
 all_goals omega
def eOp (e:X) (l:List V):V × Int:=match l with
 | [a]=>if e.kind=6 then zlZ e.op e.not a else if e.kind=3 then ztl e.op e.not a else zs1 e.op e.not a
 | [a,b]=>zmu e.op e.not a b
 | [a,b,c]=>zoP e.op e.not a b c
 | _=>(V.null,0)
theorem OpKind.cases {e:X} (h:OpKind e):e.sub=[]∧(((e.kind=3∨e.kind=4∨e.kind=6)∧e.args.length=1)∨(e.kind=5∧e.args.length=2∧1≤e.op∧e.op≤13)∨(e.kind=7∧e.args.length=3)):=by
 have hf:=h.fok
 have k1:=h.k1
 have k2:=h.k2
 have k8:=h.k8
 unfold zfT at hf
 cases hs:e.sub with
 | nil =>
  rw [hs] at hf
  have:=zjz hf
  refine ⟨rfl,?_⟩
  omega
 | cons q r =>
  rw [hs] at hf
  have:=(zjB (by simp) hf).2.2.2
  omega
theorem zrg (e:X) (h:OpKind e) (l:List V) (hl:l.length=e.args.length) (hg:∀ v∈l,v.Good):Pure S.evaluate_operation [e.av,vsl l] (.tup [(eOp e l).1.av,iv (eOp e l).2]):=by
 obtain ⟨hs,hk⟩:=h.cases
 cases e with
 | mk k o nt val tn nm xs qs =>
  simp only [X.sub_mk,X.kind_mk,X.op_mk,X.args_mk] at hs hk hl
  subst hs
  match l,hl,hg with
  | [],hl,_=>simp at hl;omega
  | [a],hl,hg =>
   have ha:=(hg a (by simp)).small
   simp only [List.length_cons,List.length_nil] at hl
   have:k=3∨k=4∨k=6:=by omega
   rcases this with rfl|rfl|rfl
   ·exact zgw o nt a val tn nm xs [] ha
   ·exact zgn o nt a val tn nm xs []
   ·exact zfB o nt a val tn nm xs []
  | [a,b],hl,hg =>
   simp only [List.length_cons,List.length_nil] at hl
   obtain ⟨rfl,ho⟩:k=5∧1≤o∧o≤13:=by omega
   exact zgu o nt a b val tn nm xs [] (hg a (by simp)).small (hg b (by simp)).small ho
  | [a,b,c],hl,hg =>
   simp only [List.length_cons,List.length_nil] at hl
   obtain rfl:k=7:=by omega
   exact zgk o nt a b c val tn nm xs []
  | a::b::c::d::r,hl,_=>simp only [List.length_cons] at hl;omega
def rowI (f:X→V × Int) (k:Int):List X→List V→Int × List V
 | [],its=>(0,its)
 | x::r,its=>bif (f x).2 != 0 then ((f x).2,its) else bif (f x).1.kind==0 then rowI f k r its else bif k==10&&(f x).1.kind != 1 then (5,its) else rowI f k r (its++[(f x).1])
theorem zrJ (f:X→V × Int) (q:Qy) (w:List Fr) (tb:List Tb) (e:X) (n:Nat) (its0:List V):∀ (l:List X) (i:Nat) (its:List V),aggI f q w tb e n its0 l i its=rowI f e.kind l its
 | [],_,_=>rfl
 | x::r,i,its=>by
  simp only [aggI,rowI,zrJ f q w tb e n its0 r]
  cases (f x).2 != 0 <;> cases (f x).1.kind==0 <;> cases e.kind==10 <;> simp
theorem ziL (f:X→V × Int) (k:Int):∀ (l:List X) (its:List V),(rowI f k l its).2.length≤its.length+l.length
 | [],its=>by simp [rowI]
 | x::r,its=>by
  have h1:=ziL f k r its
  have h2:=ziL f k r (its++[(f x).1])
  simp only [List.length_append,List.length_cons,List.length_nil] at h2
  simp only [rowI,Bool.cond_eq_ite,List.length_cons]
  repeat' split
  all_goals (try simp only);omega
theorem zlR {P:V→Prop} (f:X→V × Int) (k:Int):∀ (l:List X) (its:List V),(∀ x∈l,P (f x).1)→(∀ v∈its,P v)→∀ v∈(rowI f k l its).2,P v
 | [],its,_,h=>h
 | x::r,its,hx,h=>by
  simp only [rowI,Bool.cond_eq_ite]
  have hr:∀ y∈r,P (f y).1:=fun y hy=>hx y (by simp [hy])
  repeat' split
  ·exact h
  ·exact zlR f k r its hr h
  ·exact h
  ·exact zlR f k r _ hr fun v hv=>(List.mem_append.1 hv).elim (h v) fun hv=>by simp only [List.mem_singleton] at hv;exact hv ▸ hx x (by simp)
def selR (tr:Rw→Bool × Int) (g:Rw→List V→Int × List V):List Rw→Nat→List V→Int × Nat × List V
 | [],n,its=>(0,n,its)
 | r::l,n,its=>bif (tr r).2 != 0 then ((tr r).2,n,its) else bif (tr r).1 then (bif (g r its).1 != 0 then ((g r its).1,n+1,(g r its).2) else selR tr g l (n+1) (g r its).2) else selR tr g l n its
theorem zrL (tr:Rw→Bool × Int) (g:Rw→List V→Int × List V) (q:Qy) (frs:List Fr) (tb:List Tb) (e:X) (t:Tb) (n0:Nat) (its0:List V):∀ (l:List Rw) (i n:Nat) (its:List V),selA tr g q frs tb e t n0 its0 l i n its=selR tr g l n its
 | [],_,_,_=>rfl
 | r::l,i,n,its=>by
  simp only [selA,selR,zrL tr g q frs tb e t n0 its0 l,bne]
  cases (tr r).2==0 <;> cases (tr r).1 <;> simp
theorem zmd (tr:Rw→Bool × Int) (g:Rw→List V→Int × List V) (m:Nat) (hg:∀ r its,(g r its).2.length≤its.length+m):∀ (l:List Rw) (n:Nat) (its:List V),(selR tr g l n its).2.2.length≤its.length+m * l.length
 | [],n,its=>by simp [selR]
 | r::l,n,its=>by
  have h1:=zmd tr g m hg l n its
  have h2:=zmd tr g m hg l (n+1) (g r its).2
  have h3:=hg r its
  simp only [selR,Bool.cond_eq_ite,List.length_cons,Nat.mul_add]
  repeat' split
  all_goals (try simp only);omega
theorem zl0 {P:V→Prop} (tr:Rw→Bool × Int) (g:Rw→List V→Int × List V):∀ (l:List Rw) (n:Nat) (its:List V),(∀ r∈l,∀ its,(∀ v∈its,P v)→∀ v∈(g r its).2,P v)→(∀ v∈its,P v)→∀ v∈(selR tr g l n its).2.2,P v
 | [],n,its,_,h=>h
 | r::l,n,its,hg,h=>by
  have hl:∀ r∈l,∀ its,(∀ v∈its,P v)→∀ v∈(g r its).2,P v:=fun y hy=>hg y (by simp [hy])
  simp only [selR,Bool.cond_eq_ite]
  repeat' split
  ·exact h
  ·exact hg r (by simp) its h
  ·exact zl0 tr g l _ _ hl (hg r (by simp) its h)
  ·exact zl0 tr g l _ _ hl h
def zcz (f:X→V × Int):List X→Bool × Int
 | []=>zqt
 | x::_=>znm f x
def zfM (F:List Fr→X→V × Int) (e:X) (frs:List Fr) (tb:List Tb):V × Int:=match e.sub with
 | []=>(V.null,0)
 | q::_=>match zbV tb q.frm with
  | none=>eAgg (3,0,[]) e
  | some t=>eAgg (selR (fun r=>zcz (F (zaF frs t r.vals)) q.wh) (fun r its=>rowI (F (zaF frs t r.vals)) e.kind q.items its) t.rows 0 []) e
def eval:Nat→X→List Fr→List Tb→V × Int
 | 0,_,_,_=>(V.null,0)
 | n+1,e,frs,tb=>valF (fun x=>eval n x frs tb) (eOp e) (zfM (fun w x=>eval n x w tb) e frs tb) e frs tb
/- ### values are valid -/
theorem zjS (c:Bool):V.Good ⟨2,if c=true then 1 else 0,⟨#[]⟩⟩:=by
 cases c
 ·exact zet (n:=0) (by decide)
 ·exact zet (n:=1) (by decide)
theorem gc1 {α:Type} (c:Bool) {a b:V × α} (ha:a.1.Good) (hb:b.1.Good):(bif c then a else b).1.Good:=by cases c <;> assumption
theorem gc0 (c:Bool) {a b:V} (ha:a.Good) (hb:b.Good):(bif c then a else b).Good:=by cases c <;> assumption
theorem ic1 (c:Bool) {a b:Int × Bool} (ha:I64 a.1) (hb:I64 b.1):I64 (bif c then a else b).1:=by cases c <;> assumption
theorem ztL (op:Int) (a b:V):(vCmp op a b).1.Good:=by
 unfold vCmp;repeat' (first|apply gc1|exact zaD|exact zjS _)
theorem zm5 (a b:V):(zfG a b).Good:=by
 unfold zfG;repeat' (first|apply gc0|exact zaD|exact zjS _)
theorem zn2 (a b:V):(land a b).1.Good:=by
 unfold land;repeat' (first|apply gc1|exact zaD|exact zm5 _ _)
theorem zor (a:V) (ha:a.Good):(lnot a).1.Good:=by
 unfold lnot;repeat' (first|apply gc1|exact zaD|exact ha|exact zjS _)
theorem zve (a b:V):(lor a b).1.Good:=by
 unfold lor;repeat' (first|exact zor _ (zm5 _ _)|exact zaD|apply gc1)
theorem zfO (v:V) (ok:Bool) (h:v.Good):(zc3 v ok).1.Good:=by
 unfold zc3;repeat' (first|apply gc1|exact zaD|exact h)
theorem aAdd_i (a b:Int):I64 (aAdd a b).1:=by
 unfold aAdd;repeat' (first|apply ic1|exact zcW _|exact ⟨by decide,by decide⟩)
theorem aSub_i (a b:Int):I64 (aSub a b).1:=by
 unfold aSub;repeat' (first|apply ic1|exact zcW _|exact ⟨by decide,by decide⟩)
theorem aMul_i (a b:Int):I64 (aMul a b).1:=by
 unfold aMul;repeat' (first|apply ic1|exact zcW _|exact ⟨by decide,by decide⟩)
theorem aDiv_i (a b:Int):I64 (aDiv a b).1:=by
 unfold aDiv;repeat' (first|apply ic1|exact zcW _|exact ⟨by decide,by decide⟩)
theorem aMod_i (a b:Int) (ha:I64 a):I64 (aMod a b).1:=by
 have h:I64 (a.tmod b):=by
  have h0:=Int.natAbs_tmod a b
  have h1:=Nat.mod_le a.natAbs b.natAbs
  have h2:a < 0→a.tmod b≤0:=fun h=>by
   have h3:=Int.tmod_nonneg b (show 0≤-a by omega)
   rw [Int.neg_tmod] at h3;omega
  simp only [I64] at *
  omega
 unfold aMod;repeat' (first|apply ic1|exact h|exact ⟨by decide,by decide⟩)
theorem zlz (op:Int) (a b:V) (ha:a.Good):(zfc op a b).1.Good:=by
 unfold zfc
 repeat' (first|apply gc1|exact zaD|exact zbw (aAdd_i _ _)|exact zbw (aSub_i _ _)|exact zbw (aMul_i _ _)|exact zbw (aDiv_i _ _)|exact zbw (aMod_i _ _ ha.i64)|exact zbw ⟨by decide,by decide⟩)
theorem zvz (e:X) (l:List V) (hg:∀ v∈l,v.Good):(eOp e l).1.Good:=by
 match l,hg with
 | [],_=>exact zaD
 | [a],hg =>
  have ha:=hg a (by simp)
  simp only [eOp]
  split
  ·exact zjS _
  split
  ·exact zfO _ _ (zor _ ha)
  ·exact zlz _ _ _ (zbw ⟨by decide,by decide⟩)
 | [a,b],hg =>
  have ha:=hg a (by simp)
  simp only [eOp,zmu]
  repeat' (first|exact zfO _ _ (zn2 _ _)|exact zfO _ _ (zve _ _)|exact ztL _ _ _|exact zlz _ _ _ ha|apply gc1)
 | [a,b,c],hg =>
  simp only [eOp,zoP,zft]
  repeat' (first|exact zaD|exact zfO _ _ (zn2 _ _)|apply gc1)
 | a::b::c::d::r,_=>exact zaD
theorem zl6 {P:V→Prop} (l0:List V):∀ (l:List V) (i:Nat) (m:V),(∀ v∈l,P v)→P m→P (minL l0 l i m)
 | [],_,_,_,h=>h
 | x::r,i,m,hl,h=>by
  simp only [minL,Bool.cond_eq_ite]
  split
  ·exact zl6 l0 r _ _ (fun v hv=>hl v (by simp [hv])) (hl x (by simp))
  ·exact zl6 l0 r _ _ (fun v hv=>hl v (by simp [hv])) h
theorem zme {P:V→Prop} (l0:List V):∀ (l:List V) (i:Nat) (m:V),(∀ v∈l,P v)→P m→P (maxL l0 l i m)
 | [],_,_,_,h=>h
 | x::r,i,m,hl,h=>by
  simp only [maxL,Bool.cond_eq_ite]
  split
  ·exact zme l0 r _ _ (fun v hv=>hl v (by simp [hv])) (hl x (by simp))
  ·exact zme l0 r _ _ (fun v hv=>hl v (by simp [hv])) h
theorem zvu {P:V→Prop} {l:List V} (h:∀ v∈l,P v) (h0:P V.null):P (minV l) :=
 zl6 l _ _ _ (fun v hv=>h v (List.mem_of_mem_drop hv)) (by cases l with|nil=>exact h0|cons x r=>exact h x (by simp))
theorem zvb {P:V→Prop} {l:List V} (h:∀ v∈l,P v) (h0:P V.null):P (maxV l) :=
 zme l _ _ _ (fun v hv=>h v (List.mem_of_mem_drop hv)) (by cases l with|nil=>exact h0|cons x r=>exact h x (by simp))
theorem ztT (l0:List Int):∀ (l:List Int) (i:Nat) (a b:Int),I64 (sumL l0 l i a b).1
 | [],i,a,b=>by
  simp only [sumL]
  repeat' (first|apply ic1|exact zcW _|exact ⟨by decide,by decide⟩)
 | x::r,i,a,b=>by simp only [sumL];exact ztT l0 r _ _ _
theorem zqd (its:List V):∀ (c:List V) (i:Nat) (l:List Int),zgj its c i l=bif !(aSum (l++c.map V.int)).2 then (V.null,6) else (⟨1,(aSum (l++c.map V.int)).1,⟨#[]⟩⟩,0)
 | [],i,l=>by simp [zgj,V.null]
 | x::r,i,l=>by simp only [zgj,List.map_cons];rw [zqd its r];simp
theorem zwe (its:List V):eSum its=bif !(aSum (its.map V.int)).2 then (V.null,6) else (⟨1,(aSum (its.map V.int)).1,⟨#[]⟩⟩,0):=by
 unfold eSum;rw [zqd];simp
theorem ztO (its:List V):(eSum its).1.Good:=by
 rw [zwe]
 exact gc1 _ zaD (zbw (ztT _ _ _ _ _))
theorem znP (sel:Int × Nat × List V) (e:X) (hn:sel.2.1≤1000000) (h:∀ v∈sel.2.2,v.Good):(eAgg sel e).1.Good:=by
 unfold eAgg
 have hb:V.Good ⟨2,if decide (0 < ((sel.2.1:Nat):Int)) then 1 else 0,⟨#[]⟩⟩:=zjS _
 repeat' (first|exact zaD|exact hb|exact zbw ⟨by omega,by omega⟩|exact ztO _|exact zvu h zaD|exact zvb h zaD|apply gc1)
theorem zpR (tr:Rw→Bool × Int) (g:Rw→List V→Int × List V):∀ (l:List Rw) (n:Nat) (its:List V),(selR tr g l n its).2.1≤n+l.length
 | [],n,its=>by simp [selR]
 | r::l,n,its=>by
  have h1:=zpR tr g l n its
  have h2:=zpR tr g l (n+1) (g r its).2
  simp only [selR,Bool.cond_eq_ite,List.length_cons]
  repeat' split
  all_goals (try simp only);omega
abbrev FsG (frs:List Fr):Prop:=∀ f∈frs,∀ v∈f.vals,v.Good
structure TbG (tb:List Tb):Prop where
 vals:∀ x∈tb,∀ r∈x.rows,∀ v∈r.vals,v.Good
 rows:∀ x∈tb,x.rows.length≤1000
theorem FsG.ins {frs:List Fr} (h:FsG frs) {t:Tb} {v:List V} (hv:∀ x∈v,x.Good):FsG (zaF frs t v):=fun f hf=>by
 simp only [zaF,List.mem_append,List.mem_singleton] at hf
 rcases hf with hf|rfl
 ·exact h f hf
 ·exact hv
theorem zkI {tb:List Tb} {n:Str} {t:Tb} (h:zbV tb n=some t):t∈tb:=List.mem_of_find?_eq_some h
theorem ztc {F:List Fr→X→V × Int} {n:Nat} {e:X} {frs:List Fr} {tb:List Tb} (he:XOk (n+1) e) (hf:FsG frs) (ht:TbG tb) (hF:∀ w x,XOk n x→FsG w→(F w x).1.Good):(zfM F e frs tb).1.Good:=by
 unfold zfM
 split
 ·exact zaD
 ·rename_i q r hs
  obtain ⟨_,_,_,hsub⟩:=he
  obtain ⟨h1,h2,h3⟩:=hsub q (by rw [hs];simp)
  split
  ·exact znP _ _ (by simp) (fun v hv=>by cases hv)
  ·rename_i t hfd
   have htm:=zkI hfd
   refine znP _ _ ?_ ?_
   ·have:=zpR (fun r=>zcz (F (zaF frs t r.vals)) q.wh) (fun r its=>rowI (F (zaF frs t r.vals)) e.kind q.items its) t.rows 0 []
    have:=ht.rows t htm
    omega
   ·refine zl0 _ _ _ _ _ (fun r hr its hi=>zlR _ _ _ _ (fun x hx=>hF _ x (h2 x hx) (hf.ins (ht.vals t htm r hr))) hi) (fun v hv=>by cases hv)
theorem zpx (f:X→V × Int) (op:List V→V × Int) (e:X) (frs:List Fr) (tb:List Tb) (hop:∀ l,(∀ v∈l,v.Good)→(op l).1.Good):∀ (l:List X) (i:Nat) (out:List V),(∀ x∈l,(f x).1.Good)→(∀ v∈out,v.Good)→(evL f op e frs tb l i out).1.Good
 | [],i,out,_,h=>hop out h
 | x::r,i,out,hl,h=>by
  simp only [evL]
  exact gc1 _ zaD (zpx f op e frs tb hop r _ _ (fun y hy=>hl y (by simp [hy])) fun v hv=>(List.mem_append.1 hv).elim (h v) fun h=>by simp only [List.mem_singleton] at h;exact h ▸ hl x (by simp))
theorem zuK {P:V→Prop} {l:List V} (h:∀ v∈l,P v) (h0:P V.null) (k:Int):P (zaB l k):=by
 unfold zaB
 rw [List.getD_eq_getElem?_getD]
 cases hk:l[k.toNat]? with
 | none=>exact h0
 | some v=>exact h v (List.mem_of_getElem? hk)
theorem zwd (frs:List Fr) (q n:Str):rFr frs q n∈frs∨rFr frs q n=za6:=by
 unfold rFr
 rw [List.getD_eq_getElem?_getD]
 cases hk:frs[(zbN frs q n).1.toNat]? with
 | none=>exact .inr rfl
 | some v=>exact .inl (List.mem_of_getElem? hk)
theorem zdF:∀ (n:Nat) (e:X) (frs:List Fr) (tb:List Tb),XOk n e→FsG frs→TbG tb→(eval n e frs tb).1.Good
 | 0,e,frs,tb,h,_,_=>h.elim
 | n+1,e,frs,tb,h,hf,ht=>by
  have hA:=ztc (F:=fun w x=>eval n x w tb) h hf ht (fun w x hx hw=>zdF n x w tb hx hw ht)
  obtain ⟨h1,h2,h3,h4⟩:=h
  have hv:∀ v∈(rFr frs e.table e.name).vals,v.Good:=by
   rcases zwd frs e.table e.name with h|h
   ·exact hf _ h
   ·rw [h];intro v hv;cases hv
  simp only [eval,valF]
  repeat' (first|exact zaD|exact h1|exact hA|exact zuK hv zaD _|exact zpx _ _ _ _ _ (fun l hl=>zvz e l hl) _ _ _ (fun x hx=>zdF n x frs tb (h3 x hx) hf ht) (fun v hv=>by cases hv)|apply gc1)
end Go.AM
namespace Go.AM
set_option maxRecDepth 100000
set_option maxHeartbeats 1000000
set_option linter.unusedSimpArgs false
set_option linter.unusedVariables false
theorem FsOk.eins {n:Nat} {frs:List Fr} (h:FsOk (n+1) frs) {t:Tb} (hc:zac t.sch.cols) {v:List V} (hv:∀ x∈v,x.Good):FsOk n (zaF frs t v):=by
 refine ⟨by have:=h.len;simp [zaF];omega,fun f hf=>?_,fun f hf=>?_⟩
 ·simp only [zaF,List.mem_append,List.mem_singleton] at hf
  rcases hf with hf|rfl
  ·exact h.cols f hf
  ·exact hc
 ·simp only [zaF,List.mem_append,List.mem_singleton] at hf
  rcases hf with hf|rfl
  ·exact h.vals f hf
  ·exact fun x hx=>(hv x hx).small
theorem zuo {f:X→V × Int} {wh:List X} {frs:List Fr} {tb:List Tb} (hf:∀ x∈wh,Pure S.evaluate_Value [x.av,fsl frs,tsl tb] (.tup [(f x).1.av,iv (f x).2])) (hg:∀ x∈wh,(f x).1.Good):Pure S.evaluate_True [xsl wh,fsl frs,tsl tb] (.tup [bv (zcz f wh).1,iv (zcz f wh).2]):=by
 cases wh with
 | nil=>exact zcj frs tb
 | cons x r=>exact zjV f x r frs tb (hf x (by simp)) (hg x (by simp)).small
theorem zs5 {e:X} (h:zfT e=true) (h8:8≤e.kind) (h12:e.kind≤12):∃ q,e.sub=[q]:=by
 unfold zfT at h
 cases hs:e.sub with
 | nil=>rw [hs] at h;have:=zjz h;omega
 | cons q r =>
  rw [hs] at h
  have:=(zjB (by simp) h).2.1
  cases r with
  | nil=>exact ⟨q,rfl⟩
  | cons x y=>simp at this
theorem zsD {F:List Fr→X→V × Int} {n:Nat} {q:Qy} {frs:List Fr} {tb:List Tb} {e:X} {t:Tb} (hfd:zbV tb q.frm=some t) (hfo:FsOk (n+1) frs) (hto:TbOk tb) (hfg:FsG frs) (htg:TbG tb) (hi:Few q.items)
  (hF:∀ w,FsOk n w→FsG w→∀ x,(x∈q.items∨x∈q.wh)→Pure S.evaluate_Value [x.av,fsl w,tsl tb] (.tup [(F w x).1.av,iv (F w x).2])∧(F w x).1.Good) :
  zaa E0 S.evaluate_selected [q.av,fsl frs,tsl tb,.fn S.evaluate_aggregate_c1 [.p 0 0,.p 1 0,.p 2 0,.p 3 0,.p 4 0]] (AH q tb e 0 [])
   (iv (selR (fun r=>zcz (F (zaF frs t r.vals)) q.wh) (fun r its=>rowI (F (zaF frs t r.vals)) e.kind q.items its) t.rows 0 []).1)
   (AH q tb e (selR (fun r=>zcz (F (zaF frs t r.vals)) q.wh) (fun r its=>rowI (F (zaF frs t r.vals)) e.kind q.items its) t.rows 0 []).2.1 (selR (fun r=>zcz (F (zaF frs t r.vals)) q.wh) (fun r its=>rowI (F (zaF frs t r.vals)) e.kind q.items its) t.rows 0 []).2.2):=by
 have htm:=zkI hfd
 have hin:∀ r∈t.rows,FsOk n (zaF frs t r.vals)∧FsG (zaF frs t r.vals):=fun r hr=>⟨hfo.eins (hto.cols t htm) (htg.vals t htm r hr),hfg.ins (htg.vals t htm r hr)⟩
 have h:=zhB (fun r=>zcz (F (zaF frs t r.vals)) q.wh) (fun r its=>rowI (F (zaF frs t r.vals)) e.kind q.items its) q frs tb e t 0 [] (zj8 tb q.frm hto.len t hfd) hfo.short (hto.rows t htm) (by simp) (by simp)
  (fun r its=>by have:=ziL (F (zaF frs t r.vals)) e.kind q.items its;simp only [Few] at hi;omega)
  (fun r hr=>zuo (fun x hx=>(hF _ (hin r hr).1 (hin r hr).2 x (.inr hx)).1) (fun x hx=>(hF _ (hin r hr).1 (hin r hr).2 x (.inr hx)).2))
  (fun r hr n its hn hl=>by
   have h:=zhg (F (zaF frs t r.vals)) q (zaF frs t r.vals) tb e n its r hi hl (by rw [IntKind.wrap_i64];omega) (fun x hx=>(hF _ (hin r hr).1 (hin r hr).2 x (.inl hx)).1)
   simp only [aggC,zrJ] at h
   exact h)
 simp only [zmH,zrL] at h
 exact h
theorem zqL {F:List Fr→X→V × Int} {n:Nat} {e:X} {frs:List Fr} {tb:List Tb} (he:XOk (n+1) e) (hs:∃ q,e.sub=[q]) (hfo:FsOk (n+1) frs) (hto:TbOk tb) (hfg:FsG frs) (htg:TbG tb)
  (hF:∀ w,FsOk n w→FsG w→∀ x,XOk n x→Pure S.evaluate_Value [x.av,fsl w,tsl tb] (.tup [(F w x).1.av,iv (F w x).2])∧(F w x).1.Good):Pure S.evaluate_aggregate [e.av,fsl frs,tsl tb] (.tup [(zfM F e frs tb).1.av,iv (zfM F e frs tb).2]):=by
 obtain ⟨q,hq⟩:=hs
 obtain ⟨_,_,_,h4⟩:=he
 obtain ⟨h5,h6,h7⟩:=h4 q (by rw [hq];simp)
 have hq0:e.sub[0]?=some q:=by rw [hq];rfl
 unfold zfM
 rw [hq]
 simp only
 cases hfd:zbV tb q.frm with
 | none=>exact c_agg (3,0,[]) e q frs tb hq0 (by simp) (zhO q frs tb e 0 [] (zj2 tb q.frm hto.len hfd))
 | some t =>
  have htm:=zkI hfd
  refine c_agg _ e q frs tb hq0 ?_ (zsD hfd hfo hto hfg htg h5.1.few fun w hw hg x hx=>hF w hw hg x (hx.elim (h6 x) (h7 x)))
  have hl:=zmd (fun r=>zcz (F (zaF frs t r.vals)) q.wh) (fun r its=>rowI (F (zaF frs t r.vals)) e.kind q.items its) 1000 (fun r its=>by have:=ziL (F (zaF frs t r.vals)) e.kind q.items its;simp only [Thin] at h5;omega) t.rows 0 []
  have hr:=hto.rows t htm
  simp only [zac]
  simp only [List.length_nil] at hl
  have:1000 * t.rows.length≤1000 * 1000:=Nat.mul_le_mul_left _ hr
  omega
theorem zfn:∀ (n:Nat) (e:X) (frs:List Fr) (tb:List Tb),XOk n e→FsOk n frs→FsG frs→TbOk tb→TbG tb→Pure S.evaluate_Value [e.av,fsl frs,tsl tb] (.tup [(eval n e frs tb).1.av,iv (eval n e frs tb).2])
 | 0,e,frs,tb,h,_,_,_,_=>h.elim
 | n+1,e,frs,tb,h,hf,hg,ht,htg=>by
  have hA:=@zqL (fun w x=>eval n x w tb) n e frs tb h
  obtain ⟨_,h2,h3,_⟩:=id h
  exact zjP (fun x=>eval n x frs tb) (eOp e) (zfM (fun w x=>eval n x w tb) e frs tb) e frs tb (n+1) hf h2.1.few (fun x hx=>zfn n x frs tb (h3 x hx) hf.less hg ht htg) (fun x hx=>zdF n x frs tb (h3 x hx) hg htg)
   (fun ho l hl hl2=>zrg e ho l hl hl2)
   (fun hfm h8 h12=>hA (zs5 hfm h8 h12) hf ht hg htg fun w hw hwg x hx=>⟨zfn n x w tb hx hw hwg ht htg,zdF n x w tb hx hwg htg⟩)
end Go.AM
namespace Go.AM
set_option maxRecDepth 100000
set_option maxHeartbeats 1000000
set_option linter.unusedSimpArgs false
set_option linter.unusedVariables false
noncomputable def clCV (l:List V):Cfg:=(upto (mk E0) (List.range 40) 0 3000 ⟨B.slices_Clone_Value.ntmps,[.code (B.slices_Clone_Value.body.getD .skip)],zbZ 0 [vsl l],[]⟩ []).2
theorem zvr (l:List V) (hl:zac l):Good E0 B.slices_Clone_Value [] (zbs (clCV l) false) (fun r h=>r=.own 0 l.length∧h=[.row Ty.Value (l.map V.cells) false]):=by
 exact zcm E0ok mix0 3000 (y:=AV.own 0 (List.map V.cells l).length) (H:=[Blk.row Ty.Value (List.map V.cells l) false]) [sb (rfl:false=false),sqx (AllLen (List.map V.cells l) 3∧((List.map V.cells l).length * 32).le 140737488355328)] kr (⟨by simp,rfl⟩)
theorem zvm:Good E0 B.slices_Clone_Value [] (zbs (clCV []) true) (fun r h=>r=.nl∧h=[]):=by
 exact zcm E0ok mix0 3000 (y:=AV.nl) (H:=[]) [sb (rfl:true=true)] kr (⟨rfl,rfl⟩)
theorem zap (l:List V) (hl:zac l):zaa E0 S.slices_Clone_Value [vsl l] [] (.own 0 l.length) [.row Ty.Value (l.map V.cells) false]:=by
 refine zaN At.slices_Clone_Value rfl kr (Nat.le_of_ble_eq_true kr) (zcb E0ok mix0 3000 [] (List.range 40) 0 (c':=clCV l) kr kr (zei E0ok (xs:=l.map V.cells) (e:=true) kr fun b hb=>?_))
 cases b with
 | false=>exact zvr l hl
 | true =>
  cases l with
  | nil=>exact zcv Ty.Value zvm ⟨rfl,rfl⟩
  | cons x r=>exact absurd (hb (by simp)) (by simp)
abbrev vrow (v:List V):List AV:=[vsl v]
def eRows (sel:Int × List (List V)):List (List V) × Int:=bif sel.1 != 0 then ([],sel.1) else (sel.2,0)
end Go.AM
namespace Go.AM
set_option maxRecDepth 100000
set_option maxHeartbeats 1000000
set_option linter.unusedSimpArgs false
set_option linter.unusedVariables false
def zmG (f:X→V × Int):List X→Int × List V
 | []=>(0,[])
 | x::r=>bif (f x).2 != 0 then ((f x).2,[]) else bif (zmG f r).1 != 0 then ((zmG f r).1,[]) else (0,(f x).1::(zmG f r).2)
def rowV (f:X→V × Int) (q:Qy) (r:Rw):Int × List V:=bif q.star then (0,r.vals) else zmG f q.items
def zny (tr:Rw→Bool × Int) (rv:Rw→Int × List V):List Rw→List (List V)→Int × List (List V)
 | [],out=>(0,out)
 | r::l,out=>bif (tr r).2 != 0 then ((tr r).2,out) else bif (tr r).1 then (bif (rv r).1 != 0 then ((rv r).1,out) else zny tr rv l (out++[(rv r).2])) else zny tr rv l out
def zvE (n:Nat) (q:Qy) (frs:List Fr) (tb:List Tb):List (List V) × Int:=match zbV tb q.frm with
 | none=>([],3)
 | some t=>eRows (zny (fun r=>zcz (fun x=>eval n x (zaF frs t r.vals) tb) q.wh) (fun r=>rowV (fun x=>eval n x (zaF frs t r.vals) tb) q r) t.rows [])
structure QOk (n:Nat) (q:Qy):Prop where
 few:Few q.items
 items:∀ x∈q.items,XOk n x
 wh:∀ x∈q.wh,XOk n x
end Go.AM
namespace Go.AM
set_option maxRecDepth 100000
set_option maxHeartbeats 1000000
set_option linter.unusedSimpArgs false
set_option linter.unusedVariables false
def cmpB (a b:Str):Int:=Lib.compareBytes a.data.toList b.data.toList
def cmpB2 (a b:Str):Int :=
 cmpB a b
def cmpB3 (a b:Str):Int :=
 cmpB2 a b
def rCmp (a b:V):Int :=
 bif a.kind != b.kind then
  bif decide (a.kind < b.kind) then
   -1
  else
   1
 else
  bif a.int != b.int then
   bif decide (a.int < b.int) then
    -1
   else
    1
  else
   cmpB3 a.text b.text
def zjZ (a b:List V):List (V)→Nat→Int
 | [],i =>
  bif decide ((↑(List.map V.cells a).length:Int) < (↑(List.map V.cells b).length:Int)) then
   -1
  else
   bif decide ((↑(List.map V.cells b).length:Int) < (↑(List.map V.cells a).length:Int)) then
    1
   else
    0
 | x::r,i =>
  bif decide ((i:Int) < (↑(List.map V.cells b).length:Int)) then
   bif rCmp x (zaB b (i:Int)) != 0 then
    rCmp x (zaB b (i:Int))
   else
    zjZ a b r (i+1)
  else
   bif decide ((↑(List.map V.cells a).length:Int) < (↑(List.map V.cells b).length:Int)) then
    -1
   else
    bif decide ((↑(List.map V.cells b).length:Int) < (↑(List.map V.cells a).length:Int)) then
     1
    else
     0
def zk9 (a b:List V):Int :=
 zjZ a b a (0)
end Go.AM
namespace Go.AM
set_option maxRecDepth 100000
set_option maxHeartbeats 1000000
set_option linter.unusedSimpArgs false
set_option linter.unusedVariables false
theorem zpa {p:Prop} (h:p:=by first|assumption|omega|(simp;done)|(simp only [Room,List.length_drop,List.length_take] at *;omega)):p:=h
theorem zpf {p:Prop} (h:p:=by first|rfl|(rw [List.take_of_length_le (by simp)];simp;done)|(simp;done)):p:=h
theorem zoV {p:Prop} (h:p:=by first|assumption|omega|(simp;done)|(simp;omega)):p:=h
noncomputable def zcF (fn:Func) (args:List AV) (h:Heap) (m:Nat):Cfg:=(upto (mk E0) (List.range 40) m 3000 ⟨fn.ntmps,[.code (fn.body.getD .skip)],zbZ 0 args,h⟩ []).2
structure Lk where
 fst:Str
 snd:Str
def Lk.cells (l:Lk):List AV:=[sv l.fst,sv l.snd]
abbrev Lk.av (l:Lk):AV:=.agg l.cells
@[simp] theorem Lk.cells_length (x:Lk):x.cells.length=2:=rfl
structure Im where
 trig:Str
 row:Int
 old:List V
 new:List V
def Im.cells (x:Im):List AV:=[sv x.trig,iv x.row,vsl x.old,vsl x.new]
abbrev Im.av (x:Im):AV:=.agg x.cells
@[simp] theorem Im.cells_length (x:Im):x.cells.length=4:=rfl
theorem zp2:StructEq E0.P Ty.Link [.str,.str] :=
 ztZ E0ok (fs:=E0.P.fieldsOf Ty.Link) kr kr kr kr
abbrev za0 (n:Int):List AV:=[iv n]
theorem zq3 (l:List Tg) (hl:zac l):Good E0 B.slices_Clone_Trigger [] (zbs (zcF B.slices_Clone_Trigger [.sl (l.map Tg.cells)] [] 0) false) (fun r h=>r=.own 0 l.length∧h=[.row Ty.Trigger (l.map Tg.cells) false]) :=
 zcm E0ok mix0 3000 (y:=AV.own 0 (List.map Tg.cells l).length) (H:=[Blk.row Ty.Trigger (List.map Tg.cells l) false]) [sb (rfl:false=false),sqx (AllLen (List.map Tg.cells l) 11∧((List.map Tg.cells l).length * 200).le 140737488355328)] kr (⟨by simp,rfl⟩)
theorem zq2:Good E0 B.slices_Clone_Trigger [] (zbs (zcF B.slices_Clone_Trigger [.sl []] [] 0) true) (fun r h=>r=.nl∧h=[]) :=
 zcm E0ok mix0 3000 (y:=AV.nl) (H:=[]) [sb (rfl:true=true)] kr (⟨rfl,rfl⟩)
theorem zhI (l:List Tg) (hl:zac l):zaa E0 S.slices_Clone_Trigger [.sl (l.map Tg.cells)] [] (.own 0 l.length) [.row Ty.Trigger (l.map Tg.cells) false]:=by
 refine zaN At.slices_Clone_Trigger rfl kr (Nat.le_of_ble_eq_true kr) (zcb E0ok mix0 3000 [] (List.range 40) 0 (c':=zcF B.slices_Clone_Trigger [.sl (l.map Tg.cells)] [] 0) kr kr (zei E0ok (xs:=l.map Tg.cells) (e:=true) kr fun b hb=>?_))
 cases b with
 | false=>exact zq3 l hl
 | true =>
  cases l with
  | nil=>exact zcv Ty.Trigger zq2 ⟨rfl,rfl⟩
  | cons x r=>exact absurd (hb (by simp)) (by simp)
abbrev Room (l:List Int):Prop:=l.length≤17592186044416
theorem zv8 (l:List Int) (hl:Room l):Good E0 B.slices_Clone_int [] (zbs (zcF B.slices_Clone_int [.sl (l.map za0)] [] 0) false) (fun r h=>r=.own 0 l.length∧h=[.row Ty.int (l.map za0) false]) :=
 zcm E0ok mix0 3000 (y:=AV.own 0 (List.map za0 l).length) (H:=[Blk.row Ty.int (List.map za0 l) false]) [sb (rfl:false=false),sqx (AllLen (List.map za0 l) 1∧((List.map za0 l).length * 8).le 140737488355328)] kr (⟨by simp,rfl⟩)
theorem zwI:Good E0 B.slices_Clone_int [] (zbs (zcF B.slices_Clone_int [.sl []] [] 0) true) (fun r h=>r=.nl∧h=[]) :=
 zcm E0ok mix0 3000 (y:=AV.nl) (H:=[]) [sb (rfl:true=true)] kr (⟨rfl,rfl⟩)
theorem zaK (l:List Int) (hl:Room l):zaa E0 S.slices_Clone_int [.sl (l.map za0)] [] (.own 0 l.length) [.row Ty.int (l.map za0) false]:=by
 refine zaN At.slices_Clone_int rfl kr (Nat.le_of_ble_eq_true kr) (zcb E0ok mix0 3000 [] (List.range 40) 0 (c':=zcF B.slices_Clone_int [.sl (l.map za0)] [] 0) kr kr (zei E0ok (xs:=l.map za0) (e:=true) kr fun b hb=>?_))
 cases b with
 | false=>exact zv8 l hl
 | true =>
  cases l with
  | nil=>exact zcv Ty.int zwI ⟨rfl,rfl⟩
  | cons x r=>exact absurd (hb (by simp)) (by simp)
theorem zsJ (l:List Col) (hl:zac l):Good E0 B.slices_Clone_Column [] (zbs (zcF B.slices_Clone_Column [.sl (l.map Col.cells)] [] 0) false) (fun r h=>r=.own 0 l.length∧h=[.row Ty.Column (l.map Col.cells) false]) :=
 zcm E0ok mix0 3000 (y:=AV.own 0 (List.map Col.cells l).length) (H:=[Blk.row Ty.Column (List.map Col.cells l) false]) [sb (rfl:false=false),sqx (AllLen (List.map Col.cells l) 4∧((List.map Col.cells l).length * 32).le 140737488355328)] kr (⟨by simp,rfl⟩)
theorem ztr:Good E0 B.slices_Clone_Column [] (zbs (zcF B.slices_Clone_Column [.sl []] [] 0) true) (fun r h=>r=.nl∧h=[]) :=
 zcm E0ok mix0 3000 (y:=AV.nl) (H:=[]) [sb (rfl:true=true)] kr (⟨rfl,rfl⟩)
theorem zat (l:List Col) (hl:zac l):zaa E0 S.slices_Clone_Column [.sl (l.map Col.cells)] [] (.own 0 l.length) [.row Ty.Column (l.map Col.cells) false]:=by
 refine zaN At.slices_Clone_Column rfl kr (Nat.le_of_ble_eq_true kr) (zcb E0ok mix0 3000 [] (List.range 40) 0 (c':=zcF B.slices_Clone_Column [.sl (l.map Col.cells)] [] 0) kr kr (zei E0ok (xs:=l.map Col.cells) (e:=true) kr fun b hb=>?_))
 cases b with
 | false=>exact zsJ l hl
 | true =>
  cases l with
  | nil=>exact zcv Ty.Column ztr ⟨rfl,rfl⟩
  | cons x r=>exact absurd (hb (by simp)) (by simp)
noncomputable def L_lkIx (l:List Lk) (v:Lk) (i:Nat) :Cfg:=zal B.slices_Index_Link 0 [(0,.sl (l.map Lk.cells)),(3,.p 0 0),(7,iv ((l.map Lk.cells).length:Nat)),(8,iv (i:Nat))] [.box v.cells]
def lkIx (l:List Lk) (v:Lk):List (Lk)→Nat→Int
 | [],i =>
  -1
 | x::r,i =>
  bif v.fst==x.fst&&(v.snd==x.snd&&true) then
   (i:Int)
  else
   lkIx l v r (i+1)
theorem zqW (l:List Lk) (v:Lk) (hl:zac l):∀ (kk i:Nat),i+kk=(l).length→Good E0 B.slices_Index_Link [] (L_lkIx l v i ) (Shut 0 fun r h=>r=(iv (lkIx l v ((l).drop i) i ))∧h=[]):=by
 intro kk
 induction kk with
 | zero =>
  intro i  hi
  have h0:decide (((i:Nat):Int) < (((l.map Lk.cells).length:Nat):Int))=false:=by simp;omega
  have e0:(l).drop i=[]:=List.drop_of_length_le (by omega)
  rw [e0]
  simp only [lkIx]
  refine zab ?_
  exact wkr [sb h0] kr
 | succ kk ih =>
  intro i  hi
  obtain ⟨x,hx⟩:=zav (l:=l) (i:=i) (by omega)
  have h0:decide (((i:Nat):Int) < (((l.map Lk.cells).length:Nat):Int))=true:=by simp;omega
  have hw:=zak i (by first|omega|(simp only [zac,Few] at *;omega))
  rw [zaR hx]
  simp only [lkIx]
  refine zab ?_
  cases h1:v.fst==x.fst&&(v.snd==x.snd&&true)
  ·exact wkl [sb h0,sd [(3,[se (zaf Lk.cells hx rfl)]),(5,[sq zp2])],sb h1,si hw] [0,3,7,8] 1 kr (ih (i+1) (by omega) )
  ·exact wkr [sb h0,sd [(3,[se (zaf Lk.cells hx rfl)]),(5,[sq zp2])],sb h1] kr
def znz (l:List Lk) (v:Lk):Int :=
 lkIx l v l (0)
theorem zjJ (l:List Lk) (v:Lk) (hl:zac l):zaa E0 S.slices_Index_Link [.sl (l.map Lk.cells),v.av] [] (iv (znz l v)) []:=by
 unfold znz
 exact wkc At.slices_Index_Link [] [0,3,7,8] 1 kr (zqW l v hl l.length 0 (by simp))
def lkHas (l:List Lk) (v:Lk):Bool :=
 decide ((0:Int)≤znz l v)
theorem zhF (l:List Lk) (v:Lk) (hl:zac l):zaa E0 S.slices_Contains_Link [.sl (l.map Lk.cells),v.av] [] (bv (lkHas l v)) []:=by
 exact wk At.slices_Contains_Link [sc (zjJ l v zoV)] kr
def zk8 (l:List Lk) (a b:Str):Bool :=
 lkHas l (Lk.mk a b)
theorem zgQ (l:List Lk) (a b:Str) (hl:zac l):zaa E0 S.order_Precedes [.sl (l.map Lk.cells),sv a,sv b] [] (bv (zk8 l a b)) []:=by
 exact wk At.order_Precedes [sc (zhF l (Lk.mk a b) zoV)] kr
theorem zuj (ps:List Int) (h:((((ps.map za0).length:Nat):Int)==0)=false):ElAt (ps.map fun n=>[iv n]) 0 [iv (ps.headD 0)] 1:=by
 cases ps with
 | nil=>simp at h
 | cons p r=>exact ⟨by decide,rfl,rfl⟩
def pkC0 (n:Int) (ps:List Int):Int × (List Int) :=
 (0,ps)
theorem c_pkC0 (n:Int) (ps:List Int) (hl:Room ps) (hA:decide (n < (2:Int))=true):zaa E0 S.pick_Choose [iv n,isl ps] [] (.tup [iv (pkC0 n ps).1,isl (pkC0 n ps).2]) []:=by
 exact wk At.pick_Choose [sqx (True∧ps.length=(List.map za0 ps).length∧True),sb hA,sc (zaK ps zoV)] kr
def pkC1 (n:Int) (ps:List Int):Int × (List Int) :=
 (0,ps)
theorem c_pkC1 (n:Int) (ps:List Int) (hl:Room ps) (hA:decide (n < (2:Int))=false) (hB:((((ps.map fun n=>[iv n]).length:Nat):Int)==0)=true):zaa E0 S.pick_Choose [iv n,isl ps] [] (.tup [iv (pkC1 n ps).1,isl (pkC1 n ps).2]) []:=by
 exact wk At.pick_Choose [sqx (True∧ps.length=(List.map za0 ps).length∧True),sg hA,sb hB,sc (zaK ps zoV)] kr
def pkC2 (n:Int) (ps:List Int):Int × (List Int) :=
 bif decide ((ps.headD 0).tmod n < 0) then
  (IntKind.i64.wrap ((ps.headD 0).tmod n+n),List.drop 1 (List.take (List.map (fun n=>[iv n]) ps).length ps))
 else
  ((ps.headD 0).tmod n,List.drop 1 (List.take (List.map (fun n=>[iv n]) ps).length ps))
theorem c_pkC2 (n:Int) (ps:List Int) (hl:Room ps) (hA:decide (n < (2:Int))=false) (hB:((((ps.map fun n=>[iv n]).length:Nat):Int)==0)=false) (hs:SubAt (ps.map fun n=>[iv n]) 1 (((ps.map fun n=>[iv n]).length:Nat):Int) 1):zaa E0 S.pick_Choose [iv n,isl ps] [] (.tup [iv (pkC2 n ps).1,isl (pkC2 n ps).2]) []:=by
 unfold pkC2
 cases h1:decide ((ps.headD 0).tmod n < 0)
 ·exact (by (try simp only [X.av,Qy.av,V.av,Tb.av,Sch.av,Pl.av,xsl,fsl,vsl,tsl,List.map_append,List.map_cons,List.map_nil,V.cells,Col.cells,Rw.cells,Tb.cells,Fr.cells,Sch.cells,Pl.cells,zaW,zaI,zaO,zaM,zaT,X.cells,Qy.cells,X.args_mk,X.sub_mk,Qy.items_mk,Qy.wh_mk,xCol,xLit,xBin,xNeg]);exact wk At.pick_Choose [sqx (True∧(List.drop 1 (List.take (List.map (fun n=>[iv n]) ps).length ps)).length=(List.map za0 (List.drop 1 (List.take (List.map (fun n=>[iv n]) ps).length ps))).length∧True),sg hA,sb hB,se (zuj ps zpa),sx (.i ((ps.headD (0:Int)).tmod n)) (show n≠(0:Int)∧((ps.headD (0:Int)).tmod n:Int)=(ps.headD (0:Int)).tmod n from ⟨(by simp at hA;omega),rfl⟩),sb h1,sqx (SubAt (List.map (fun n=>[iv n]) ps) 1 (↑(List.map (fun n=>[iv n]) ps).length:Int) 1),sc (conv (args:=[AV.sl (List.drop (Int.toNat 1) (List.take (↑(List.map (fun n=>[iv n]) ps).length:Int).toNat (List.map (fun n=>[iv n]) ps)))]) (hl:=[]) (zaK (List.drop 1 (List.take (List.map (fun n=>[iv n]) ps).length ps)) zpa) zpf zpf)] kr)
 ·exact (by (try simp only [X.av,Qy.av,V.av,Tb.av,Sch.av,Pl.av,xsl,fsl,vsl,tsl,List.map_append,List.map_cons,List.map_nil,V.cells,Col.cells,Rw.cells,Tb.cells,Fr.cells,Sch.cells,Pl.cells,zaW,zaI,zaO,zaM,zaT,X.cells,Qy.cells,X.args_mk,X.sub_mk,Qy.items_mk,Qy.wh_mk,xCol,xLit,xBin,xNeg]);exact wk At.pick_Choose [sqx (True∧(List.drop 1 (List.take (List.map (fun n=>[iv n]) ps).length ps)).length=(List.map za0 (List.drop 1 (List.take (List.map (fun n=>[iv n]) ps).length ps))).length∧True),sg hA,sb hB,se (zuj ps zpa),sx (.i ((ps.headD (0:Int)).tmod n)) (show n≠(0:Int)∧((ps.headD (0:Int)).tmod n:Int)=(ps.headD (0:Int)).tmod n from ⟨(by simp at hA;omega),rfl⟩),sb h1,si (e:=IntKind.i64.wrap ((ps.headD 0).tmod n+n)) rfl,sqx (SubAt (List.map (fun n=>[iv n]) ps) 1 (↑(List.map (fun n=>[iv n]) ps).length:Int) 1),sc (conv (args:=[AV.sl (List.drop (Int.toNat 1) (List.take (↑(List.map (fun n=>[iv n]) ps).length:Int).toNat (List.map (fun n=>[iv n]) ps)))]) (hl:=[]) (zaK (List.drop 1 (List.take (List.map (fun n=>[iv n]) ps).length ps)) zpa) zpf zpf)] kr)
def zbf (n:Int) (ps:List Int):Int × List Int:=bif decide (n < 2) then (0,ps) else match ps with
 | []=>(0,[])
 | p::r=>(bif decide (p.tmod n < 0) then IntKind.i64.wrap (p.tmod n+n) else p.tmod n,r)
theorem zeg (n:Int) (ps:List Int) (hl:Room ps):zaa E0 S.pick_Choose [iv n,isl ps] [] (.tup [iv (zbf n ps).1,isl (zbf n ps).2]) []:=by
 unfold zbf
 cases h1:decide (n < (2:Int))
 ·cases ps with
  | nil=>exact c_pkC1 n [] hl h1 rfl
  | cons p r =>
   have hz:((((p::r).length:Nat):Int)==0)=false:=by simp;omega
   have h:=c_pkC2 n (p::r) hl h1 (by rw [List.length_map];exact hz) ⟨by decide,by simp;omega,by simp,by simp⟩
   have e:pkC2 n (p::r)=(bif decide (p.tmod n < 0) then IntKind.i64.wrap (p.tmod n+n) else p.tmod n,r):=by
    unfold pkC2
    simp only [List.headD_cons,List.length_map,hz,h1]
    by_cases hq:p.tmod n < 0 <;> simp [hq]
   rw [e] at h
   exact h
 ·exact c_pkC0 n ps hl h1
end Go.AM
namespace Go.AM
set_option maxRecDepth 100000
set_option maxHeartbeats 1000000
set_option linter.unusedSimpArgs false
set_option linter.unusedVariables false
theorem zi9 {p:Prop} (h:p:=by first|assumption|omega|(intro k hk;omega)|(simp;done)|(simp at *;omega)):p:=h
noncomputable def zi5 (its:List Im) (l:List Lk) (i:Nat) (out:List Int):Cfg:=zal B.pick_Eligible 0 [(0,.sl (its.map Im.cells)),(1,.sl (l.map Lk.cells)),(5,.own 0 out.length),(10,.sl (its.map Im.cells)),(11,iv ((its.map Im.cells).length:Nat)),(12,iv (i:Nat))] [.row Ty.int (out.map fun n=>[iv n]) false]
def blk (its:List Im) (l:List Lk) (i k:Nat):Bool:=k != i&&match its[k]?,its[i]? with
 | some y,some x=>zk8 l y.trig x.trig
 | _,_=>false
def zea (its:List Im) (l:List Lk) (i:Nat):Bool:=(List.range its.length).all fun k=>!blk its l i k
theorem zuH {its:List Im} {l:List Lk} {i k:Nat} {x y:Im} (hx:its[i]?=some x) (hy:its[k]?=some y):blk its l i k=(((k:Nat):Int) != ((i:Nat):Int)&&zk8 l y.trig x.trig):=by
 unfold blk
 rw [hx,hy]
 have e:(k != i)=(((k:Nat):Int) != ((i:Nat):Int)):=by
  rw [Bool.eq_iff_iff,bne_iff_ne,bne_iff_ne];omega
 rw [e]
noncomputable def L_elI (its:List Im) (l:List Lk) (io:Nat) (out:List Int) (xo:Im) (i:Nat) :Cfg:=zal B.pick_Eligible 1 [(0,.sl (its.map Im.cells)),(1,.sl (l.map Lk.cells)),(5,.own 0 out.length),(6,iv (io:Nat)),(7,.p 1 0),(10,.sl (its.map Im.cells)),(11,iv ((its.map Im.cells).length:Nat)),(12,iv (io:Nat)),(17,.sl (its.map Im.cells)),(18,iv ((its.map Im.cells).length:Nat)),(19,iv (i:Nat))] [.row Ty.int (out.map fun n=>[iv n]) false,.box xo.cells]
theorem zgi (its:List Im) (l:List Lk) (io:Nat) (out:List Int) (xo:Im) (hl:zac l) (hxo:its[io]?=some xo) (hn:zac its) (i:Nat)  (hi:i≤(its).length) (hI:∀ k,k < i→blk its l io k=false):∃ (i':Nat) ,(∀ k,k < i'→blk its l io k=false)∧(decide (((i':Nat):Int) < (((its.map Im.cells).length:Nat):Int))=true→(((i':Nat):Int) != ((io:Nat):Int))=true)∧(∀ y:Im,its[i']?=some y→decide (((i':Nat):Int) < (((its.map Im.cells).length:Nat):Int))=true→zk8 l y.trig xo.trig=true)∧∀ R,Good E0 B.pick_Eligible [] (L_elI its l io out xo i' ) R→Good E0 B.pick_Eligible [] (L_elI its l io out xo i ) R:=by
 obtain ⟨kk,hk⟩:∃ kk,i+kk=(its).length:=⟨(its).length - i,by omega⟩
 induction kk generalizing i  with
 | zero =>
  have e0:i=(its).length:=by omega
  subst e0
  exact ⟨(its).length,hI,by simp,by simp,fun R hg=>hg⟩
 | succ kk ih =>
  obtain ⟨x,hx⟩:=zav (l:=its) (i:=i) (by omega)
  have h0:decide (((i:Nat):Int) < (((its.map Im.cells).length:Nat):Int))=true:=by simp;omega
  have hw:IntKind.i64.wrap (((i:Nat):Int)+1)=((i+1:Nat):Int):=zak i (by first|omega|(simp only [zac,Few] at *;omega))
  have hbe:=zuH (l:=l) hxo hx
  cases hb:blk its l io i with
  | true =>
   rw [hb] at hbe
   have hbe:=hbe.symm
   simp only [Bool.and_eq_true] at hbe
   exact ⟨i,hI,fun _=>hbe.1,fun y hy _=>(by rw [hx] at hy;cases hy;exact hbe.2),fun R hg=>hg⟩
  | false =>
  have hnb:(((i:Nat):Int) != ((io:Nat):Int))=true→zk8 l x.trig xo.trig=false:=fun h=>by rw [hb,h] at hbe;simpa using hbe.symm
  cases h1:(i:Int) != (io:Int)
  ·obtain ⟨ixZ,qZ,xaZ,xbZ,gZ⟩:=ih (i+1) (by omega) (by intro k hk;by_cases hki:k=i;(rw [hki];exact hb);exact hI k (by omega)) (by omega);exact ⟨ixZ,qZ,xaZ,xbZ,fun R hg=>zab (wkl [sb h0,se (zaf Im.cells hx rfl),sb h1,si hw] [0,1,5,6,7,10,11,12,17,18,19] 2 kr (gZ R hg))⟩
  ·obtain ⟨ixZ,qZ,xaZ,xbZ,gZ⟩:=ih (i+1) (by omega) (by intro k hk;by_cases hki:k=i;(rw [hki];exact hb);exact hI k (by omega)) (by omega);exact ⟨ixZ,qZ,xaZ,xbZ,fun R hg=>zab (wkl [sb h0,se (zaf Im.cells hx rfl),sg h1,sc (zgQ l x.trig xo.trig (by first|assumption|omega|(simp;done)|(simp;omega))),sb (hnb h1),si hw] [0,1,5,6,7,10,11,12,17,18,19] 2 kr (gZ R hg))⟩
def zas (its:List Im) (l:List Lk) (n:Nat):List Int:=((List.range n).filter (zea its l)).map fun (k:Nat)=>(k:Int)
theorem zkn (its:List Im) (l:List Lk) (n:Nat):(zas its l n).length≤n:=by
 unfold zas
 rw [List.length_map]
 exact Nat.le_trans (List.length_filter_le _ _) (by simp)
theorem zec (its:List Im) (l:List Lk) (n:Nat):zas its l (n+1)=zas its l n++(bif zea its l n then [(n:Int)] else []):=by
 unfold zas
 rw [List.range_succ,List.filter_append,List.map_append]
 simp only [List.filter_cons,List.filter_nil]
 cases zea its l n <;> rfl
theorem zrG {its:List Im} {l:List Lk} {i:Nat} (h:∀ k,k < its.length→blk its l i k=false):zea its l i=true:=by
 unfold zea
 rw [List.all_eq_true]
 intro k hk
 rw [h k (by simpa using hk)];rfl
theorem zm4 {its:List Im} {l:List Lk} {i k:Nat} {x y:Im} (hx:its[i]?=some x) (hy:its[k]?=some y) (h1:(((k:Nat):Int) != ((i:Nat):Int))=true) (h2:zk8 l y.trig x.trig=true):zea its l i=false:=by
 have h:blk its l i k=true:=by rw [zuH hx hy,h1,h2];rfl
 unfold zea
 rw [List.all_eq_false]
 exact ⟨k,by simp;exact zee hy,by rw [h];simp⟩
theorem zgs (its:List Im) (l:List Lk) (hl:zac l) (hn:zac its) (i:Nat) (out:List Int) (hi:i≤(its).length) (hI:out=zas its l i):∃ (out':List Int),(out'=zas its l (its).length)∧(decide ((((its).length:Nat):Int) < (((its.map Im.cells).length:Nat):Int))=false)∧∀ R,Good E0 B.pick_Eligible [] (zi5 its l (its).length out') R→Good E0 B.pick_Eligible [] (zi5 its l i out) R:=by
 obtain ⟨kk,hk⟩:∃ kk,i+kk=(its).length:=⟨(its).length - i,by omega⟩
 induction kk generalizing i out with
 | zero =>
  have e0:i=(its).length:=by omega
  subst e0
  exact ⟨out,hI,by simp,fun R hg=>hg⟩
 | succ kk ih =>
  obtain ⟨x,hx⟩:=zav (l:=its) (i:=i) (by omega)
  have h0:decide (((i:Nat):Int) < (((its.map Im.cells).length:Nat):Int))=true:=by simp;omega
  have hw:IntKind.i64.wrap (((i:Nat):Int)+1)=((i+1:Nat):Int):=zak i (by first|omega|(simp only [zac,Few] at *;omega))
  have hol:out.length≤i:=by rw [hI];exact zkn its l i
  obtain ⟨i1,q1,q1_1,q1_2,g1⟩:=zgi its l i out x zi9 zi9 zi9 0 zi9 zi9
  cases h2:decide ((i1:Int) < (↑(List.map Im.cells its).length:Int))
  ·obtain ⟨outZ,qZ,xZ,gZ⟩:=ih (i+1) (out++[(i:Int)]) (by omega) (by first|(rw [zec,zrG (fun k hk=>q1 k (by simp at h2;omega)),hI];rfl)|(rw [zec,zm4 hx e3 (q1_1 h2) (q1_2 _ e3 h2),hI];simp)) (by omega);exact ⟨outZ,qZ,xZ,fun R hg=>zab (wkl [sb h0,se (zaf Im.cells hx rfl)] [0,1,5,6,7,10,11,12,17,18,19] 2 kr (g1 _ (zab (wkl (c':=(Cfg.mk (zi5 its l (i+1) (out++[(i:Int)])).n (zi5 its l (i+1) (out++[(i:Int)])).todo [(0,AV.sl (List.map Im.cells its)),(1,AV.sl (List.map Lk.cells l)),(5,AV.own 0 (List.map (fun n=>[iv n]) out++[[iv (i:Int)]]).length),(10,AV.sl (List.map Im.cells its)),(11,iv (↑(List.map Im.cells its).length:Int)),(12,iv (↑(i+1):Int))] [Blk.row Ty.int (List.map (fun n=>[iv n]) out++[[iv (i:Int)]]) false])) [sb h2,sqx (AllLen [[iv (i:Int)]] 1∧out.length=(List.map (fun n=>[iv n]) out).length∧(((List.map (fun n=>[iv n]) out).length+[[iv (i:Int)]].length) * 8).le 140737488355328),si hw] [0,1,5,10,11,12] 1 kr (zan (show ([(0,AV.sl (List.map Im.cells its)),(1,AV.sl (List.map Lk.cells l)),(5,AV.own 0 (List.map (fun n=>[iv n]) out++[[iv (i:Int)]]).length),(10,AV.sl (List.map Im.cells its)),(11,iv (↑(List.map Im.cells its).length:Int)),(12,iv (↑(i+1):Int))]:TS)=[(0,AV.sl (List.map Im.cells its)),(1,AV.sl (List.map Lk.cells l)),(5,AV.own 0 (out++[(i:Int)]).length),(10,AV.sl (List.map Im.cells its)),(11,iv (↑(List.map Im.cells its).length:Int)),(12,iv (↑(i+1):Int))] by first|rfl|(simp;done)|(simp [X.cells,Qy.cells,V.cells,Col.cells,Rw.cells,Tb.cells,Fr.cells,Sch.cells,Tp.cells,Pl.cells,xCol,xLit,xBin,xNeg];done)) (show ([Blk.row Ty.int (List.map (fun n=>[iv n]) out++[[iv (i:Int)]]) false]:Heap)=[Blk.row Ty.int (List.map (fun n=>[iv n]) (out++[(i:Int)])) false] by first|rfl|(simp;done)|(simp [X.cells,Qy.cells,V.cells,Col.cells,Rw.cells,Tb.cells,Fr.cells,Sch.cells,Tp.cells,Pl.cells,xCol,xLit,xBin,xNeg];done)) (gZ R hg))))))⟩
  ·obtain ⟨x3,e3⟩:=zav (l:=its) (i:=i1) zi9
   obtain ⟨outZ,qZ,xZ,gZ⟩:=ih (i+1) out (by omega) (by first|(rw [zec,zrG (fun k hk=>q1 k (by simp at h2;omega)),hI];rfl)|(rw [zec,zm4 hx e3 (q1_1 h2) (q1_2 _ e3 h2),hI];simp)) (by omega);exact ⟨outZ,qZ,xZ,fun R hg=>zab (wkl [sb h0,se (zaf Im.cells hx rfl)] [0,1,5,6,7,10,11,12,17,18,19] 2 kr (g1 _ (zab (wkl [sb h2,se (zaf Im.cells e3 rfl),sg (q1_1 h2),sc (zgQ l x3.trig x.trig zi9),sb (q1_2 x3 e3 h2),si hw] [0,1,5,10,11,12] 1 kr (gZ R hg)))))⟩
theorem ztn (its:List Im) (l:List Lk) (hl:zac l) (hn:zac its):∃ (r:List Int),r=zas its l its.length∧zaa E0 S.pick_Eligible [.sl (its.map Im.cells),.sl (l.map Lk.cells)] [] (isl r) []:=by
 obtain ⟨out1,q1,q1_1,g1⟩:=zgs its l (by first|assumption|rfl|omega) (by first|assumption|rfl|omega) 0 ([]) (by first|assumption|rfl|omega) (by first|assumption|rfl|omega)
 exact ⟨out1,by first|assumption|trivial|(simp;done)|omega|(simp;omega)|(simp at *;omega),wkc At.pick_Eligible (c':=(Cfg.mk (zi5 its l 0 []).n (zi5 its l 0 []).todo [(0,AV.sl (List.map Im.cells its)),(1,AV.sl (List.map Lk.cells l)),(5,AV.nl),(10,AV.sl (List.map Im.cells its)),(11,iv (↑(List.map Im.cells its).length:Int)),(12,iv 0)] [])) [] [0,1,5,10,11,12] 0 kr (zbb (c':=zi5 its l 0 []) 5 Ty.int [0,1,5,10,11,12] 1 kr kr kr (g1 _ (zab (wkr [sqx (out1.length=(List.map (fun n=>[iv n]) out1).length),sb q1_1] kr))))⟩
theorem zcT (its:List Im) (l:List Lk) (hl:zac l) (hn:zac its):zaa E0 S.pick_Eligible [.sl (its.map Im.cells),.sl (l.map Lk.cells)] [] (isl (zas its l its.length)) []:=by
 obtain ⟨r,rfl,h⟩:=ztn its l hl hn
 exact h
def zbm (its:List Im) (l:List Lk) (ps:List Int):Nat:=((List.range its.length).filter (zea its l)).getD (zbf (((((zas its l its.length).map fun n=>[iv n]).length:Nat):Int)) ps).1.toNat 0
theorem zrb (n:Nat) (ps:List Int) (hn:0 < n) (hs:n≤1000000000):0≤(zbf n ps).1∧(zbf n ps).1 < n:=by
 unfold zbf
 by_cases h2:(n:Int) < 2
 ·rw [decide_eq_true h2,cond_true];omega
 ·rw [decide_eq_false h2,cond_false]
  cases ps with
  | nil=>simp;omega
  | cons p r =>
   have h1:=Int.tmod_lt_of_pos p (show (0:Int) < n by omega)
   have h3:-(n:Int) < p.tmod n:=by
    have:=Int.tmod_lt_of_pos (-p) (show (0:Int) < n by omega)
    rw [Int.neg_tmod] at this;omega
   by_cases hq:p.tmod n < 0
   ·simp only [hq,decide_true,cond_true]
    rw [IntKind.wrap_i64];omega
   ·simp only [hq,decide_false,cond_false];omega
theorem zuB (its:List Im) (l:List Lk) (ps:List Int) (h:0 < its.length):zbm its l ps < its.length:=by
 unfold zbm
 rw [List.getD_eq_getElem?_getD]
 cases hx:((List.range its.length).filter (zea its l))[(zbf (((((zas its l its.length).map fun n=>[iv n]).length:Nat):Int)) ps).1.toNat]? with
 | none=>exact h
 | some x =>
  have:=List.mem_of_getElem? hx
  rw [List.mem_filter,List.mem_range] at this
  exact this.1
theorem zlk (its:List Im) (l:List Lk) (ps:List Int) (hn:zac its) (h:(((((zas its l its.length).map fun n=>[iv n]).length:Nat):Int)==0)=false) :
  ElAt ((zas its l its.length).map fun n=>[iv n]) (zbf (((((zas its l its.length).map fun n=>[iv n]).length:Nat):Int)) ps).1 [iv ((zbm its l ps:Nat):Int)] 1:=by
 have h0:0 < (zas its l its.length).length:=by
  rw [List.length_map] at h
  have:((zas its l its.length).length:Int)≠0:=by simpa using h
  omega
 have hl:=zkn its l its.length
 have hp:=zrb (zas its l its.length).length ps h0 (by simp only [zac] at hn;omega)
 refine ⟨by rw [List.length_map];exact hp.1,?_,rfl⟩
 unfold zbm
 simp only [List.length_map] at *
 have he:zas its l its.length=((List.range its.length).filter (zea its l)).map fun (k:Nat)=>(k:Int):=rfl
 have hle:(zas its l its.length).length=((List.range its.length).filter (zea its l)).length:=by rw [he,List.length_map]
 rw [List.getElem?_map]
 have hk:(zbf ((zas its l its.length).length:Nat) ps).1.toNat < ((List.range its.length).filter (zea its l)).length:=by rw [← hle];omega
 generalize (zbf ((zas its l its.length).length:Nat) ps).1.toNat=q at hk
 rw [he,List.getElem?_map,List.getElem?_eq_getElem hk,List.getD_eq_getElem?_getD,List.getElem?_eq_getElem hk]
 rfl
end Go.AM
namespace Go.AM
set_option maxRecDepth 100000
set_option maxHeartbeats 1000000
set_option linter.unusedSimpArgs false
set_option linter.unusedVariables false
theorem zc0 {p:Prop} (h:p:=by first|assumption|omega|(simp;done)|(simp;omega)):p:=h
theorem zvo (xs:List (List AV)) (n k i:Nat) (hn:n=xs.length) (hz:((((i:Nat):Int)==((i+1:Nat):Int)))=false) (hA:OwnCut xs n 0 ((i:Nat):Int) ((i+1:Nat):Int)∧((i+1:Nat):Int)≤((k - 0:Nat):Int)∧((k - 0:Nat):Int).toNat≤n) (hB:OwnCut xs n 0 0 ((i:Nat):Int)) (hC:OwnCut xs n 0 ((i+1:Nat):Int) ((k - 0:Nat):Int)) (hD:n=xs.length∧AllLen (List.drop (((i+1:Nat):Int)).toNat (List.take (((k - 0:Nat):Int)).toNat xs)) 11∧n=xs.length∧(((i:Nat):Int).toNat+(List.drop (((i+1:Nat):Int)).toNat (List.take (((k - 0:Nat):Int)).toNat xs)).length)≤n) (hE:n=(zbq xs i (List.drop (((i+1:Nat):Int)).toNat (List.take (((k - 0:Nat):Int)).toNat xs))).length) (hF:OwnCut (zbq xs i (List.drop (((i+1:Nat):Int)).toNat (List.take (((k - 0:Nat):Int)).toNat xs))) n 0 ((((((i:Nat):Int).toNat+(List.drop (((i+1:Nat):Int)).toNat (List.take (((k - 0:Nat):Int)).toNat xs)).length) - 0:Nat)):Int) ((k - 0:Nat):Int)):∃ (m:Nat) (ys:List (List AV)),(m=(((i:Nat):Int).toNat+(List.drop (((i+1:Nat):Int)).toNat (List.take (((k - 0:Nat):Int)).toNat xs)).length)∧ys=zbq (zbq xs i (List.drop (((i+1:Nat):Int)).toNat (List.take (((k - 0:Nat):Int)).toNat xs))) ((((i:Nat):Int).toNat+(List.drop (((i+1:Nat):Int)).toNat (List.take (((k - 0:Nat):Int)).toNat xs)).length) - 0) (List.replicate (((k - 0:Nat):Int).toNat - (((((i:Nat):Int).toNat+(List.drop (((i+1:Nat):Int)).toNat (List.take (((k - 0:Nat):Int)).toNat xs)).length) - 0:Nat):Int).toNat) (frzL [] (E0.T Ty.Trigger).zero)))∧zaa E0 S.slices_Delete_Trigger [.os 0 n 0 k,iv i,iv ((i+1:Nat):Int)] [.row Ty.Trigger xs false] (.os 0 n 0 m) [.row Ty.Trigger ys false]:=by
 exact ⟨(i:Int).toNat+0+(List.drop ((↑(i+1):Int).toNat+0) (List.take ((↑(k - 0):Int).toNat+0) xs)).length,zbq (zbq xs i (List.drop ((↑(i+1):Int).toNat+0) (List.take ((↑(k - 0):Int).toNat+0) xs))) ((i:Int).toNat+0+(List.drop ((↑(i+1):Int).toNat+0) (List.take ((↑(k - 0):Int).toNat+0) xs)).length - 0) (List.replicate ((↑(k - 0):Int).toNat+0 - ((↑((i:Int).toNat+0+(List.drop ((↑(i+1):Int).toNat+0) (List.take ((↑(k - 0):Int).toNat+0) xs)).length - 0):Int).toNat+0)) (frzL [] (E0.T Ty.Trigger).zero)),by exact ⟨rfl,rfl⟩,wkK At.slices_Delete_Trigger [sqx (n=xs.length),sqx (OwnCut xs n 0 (i:Int) (↑(i+1):Int)∧((↑(k - 0):Int) - (↑(i+1):Int)).NonNeg∧((↑(k - 0):Int).toNat+0).le n),sb hz,sqx (n=xs.length),sdp [(2,[sqx (OwnCut xs n 0 0 (i:Int))]),(5,[sqx (OwnCut xs n 0 (↑(i+1):Int) (↑(k - 0):Int))]),(6,[sqx (n=xs.length∧AllLen (List.drop ((↑(i+1):Int).toNat+0) (List.take ((↑(k - 0):Int).toNat+0) xs)) 11∧n=xs.length∧((i:Int).toNat+0+(List.drop ((↑(i+1):Int).toNat+0) (List.take ((↑(k - 0):Int).toNat+0) xs)).length).le n)])] [[5,2,6]] [(0,AV.os 0 n 0 ((i:Int).toNat+0+(List.drop ((↑(i+1):Int).toNat+0) (List.take ((↑(k - 0):Int).toNat+0) xs)).length)),(1,iv (i:Int)),(2,iv (↑(i+1):Int)),(6,AV.nl),(7,iv (↑(k - 0):Int)),(8,AV.os 0 n 0 k),(9,iv (i:Int)),(10,iv (↑(i+1):Int)),(11,AV.os 0 n 0 k),(12,iv (↑(k - 0):Int)),(13,AV.un),(14,iv (i:Int)),(15,iv (↑(i+1):Int)),(16,AV.bl false),(18,AV.os 0 n 0 k),(19,iv (↑(k - 0):Int)),(20,AV.os 0 n 0 k),(21,iv (i:Int)),(22,AV.os 0 n 0 ((i:Int).toNat+0)),(23,AV.os 0 n 0 k),(24,iv (↑(i+1):Int)),(25,AV.os 0 n ((↑(i+1):Int).toNat+0) ((↑(k - 0):Int).toNat+0)),(26,AV.os 0 n 0 ((i:Int).toNat+0+(List.drop ((↑(i+1):Int).toNat+0) (List.take ((↑(k - 0):Int).toNat+0) xs)).length))] [Blk.row Ty.Trigger (zbq xs i (List.drop ((↑(i+1):Int).toNat+0) (List.take ((↑(k - 0):Int).toNat+0) xs))) false],sqx (n=(zbq xs i (List.drop ((↑(i+1):Int).toNat+0) (List.take ((↑(k - 0):Int).toNat+0) xs))).length),sqx (OwnCut (zbq xs i (List.drop ((↑(i+1):Int).toNat+0) (List.take ((↑(k - 0):Int).toNat+0) xs))) n 0 (↑((i:Int).toNat+0+(List.drop ((↑(i+1):Int).toNat+0) (List.take ((↑(k - 0):Int).toNat+0) xs)).length - 0):Int) (↑(k - 0):Int)),sqx (n=(zbq xs i (List.drop ((↑(i+1):Int).toNat+0) (List.take ((↑(k - 0):Int).toNat+0) xs))).length)] kr⟩
theorem zpB {α:Type} {l:List α} {i k:Nat} (hi:i < k) (hk:k≤l.length):(l.take k).eraseIdx i=l.take i++(l.take k).drop (i+1):=by
 rw [List.eraseIdx_eq_take_drop_succ,List.take_take,Nat.min_eq_left (by omega)]
theorem zdU (cur:List Tg) (rest:List (List AV)) (n i:Nat) (hn:n=(cur.map Tg.cells++rest).length) (hi:i < cur.length) (hr:∀ c∈rest,c.length=11):∃ (rest':List (List AV)),(n=((cur.eraseIdx i).map Tg.cells++rest').length∧∀ c∈rest',c.length=11) ∧
  zaa E0 S.slices_Delete_Trigger [.os 0 n 0 cur.length,iv i,iv ((i+1:Nat):Int)] [.row Ty.Trigger (cur.map Tg.cells++rest) false] (.os 0 n 0 (cur.eraseIdx i).length) [.row Ty.Trigger ((cur.eraseIdx i).map Tg.cells++rest') false]:=by
 obtain ⟨k,hk⟩:∃ k,k=cur.length:=⟨_,rfl⟩
 obtain ⟨xs,hxs⟩:∃ xs,xs=cur.map Tg.cells++rest:=⟨_,rfl⟩
 have hxl:∀ c∈xs,c.length=11:=fun c hc=>by
  rw [hxs,List.mem_append,List.mem_map] at hc
  rcases hc with ⟨x,_,rfl⟩|hc
  ·rfl
  ·exact hr c hc
 rw [← hxs] at hn
 have hkn:k≤n:=by rw [hn,hxs,hk];simp
 have hz:((((i:Nat):Int)==((i+1:Nat):Int)))=false:=by rw [beq_eq_false_iff_ne];omega
 have hc0:=zvo xs n k i hn hz
 have e1:(List.drop (((i+1:Nat):Int)).toNat (List.take (((k - 0:Nat):Int)).toNat xs))=(xs.take k).drop (i+1):=by simp
 rw [e1] at hc0
 generalize hPe:(xs.take k).drop (i+1)=P at hc0
 have hPl:P.length=k - (i+1):=by rw [← hPe];simp;omega
 rw [← hk] at hi
 have hM:((i:Nat):Int).toNat+P.length=k - 1:=by rw [hPl];simp;omega
 rw [hM] at hc0
 have hlx:(zbq xs i P).length=n:=by rw [zeK (by rw [hPl];omega),hn]
 have hPc:∀ c∈P,c.length=11:=fun c hc=>hxl c (by rw [← hPe] at hc;exact List.mem_of_mem_take (List.mem_of_mem_drop hc))
 have hYt:(zbq xs i P).take (k - 1)=(xs.take k).eraseIdx i:=by
  rw [zpB hi (by omega),hPe]
  unfold zbq
  rw [← List.append_assoc,List.take_append_of_le_length (by simp;omega),List.take_of_length_le (by simp;omega)]
 have hYc:∀ c∈zbq xs i P,c.length=11:=fun c hc=>by
  unfold zbq at hc
  simp only [List.mem_append] at hc
  rcases hc with hc|hc|hc
  ·exact hxl c (List.mem_of_mem_take hc)
  ·exact hPc c hc
  ·exact hxl c (List.mem_of_mem_drop hc)
 generalize hYe:zbq xs i P=Y at *
 obtain ⟨m,ys,⟨hm,hy⟩,hc⟩:=hc0 ⟨⟨hn,by omega,by omega,by simp;omega⟩,by omega,by simp;omega⟩ ⟨hn,by omega,by omega,by simp;omega⟩ ⟨hn,by omega,by omega,by simp;omega⟩ ⟨hn,⟨hPc⟩,hn,by omega⟩ hlx.symm ⟨hlx.symm,by omega,by omega,by simp;omega⟩
 have hz1:((k - 0:Nat):Int).toNat - ((k - 1 - 0:Nat):Int).toNat=1:=by simp;omega
 rw [hz1] at hy
 have hyl:ys.length=n:=by rw [hy,zeK (by simp;omega),hlx]
 have hz11:(frzL [] (E0.T Ty.Trigger).zero).length=11:=by rw [zci];kernel_rfl
 have hyc:∀ c∈ys,c.length=11:=fun c hc=>by
  rw [hy] at hc
  unfold zbq at hc
  simp only [List.mem_append,List.mem_replicate] at hc
  rcases hc with hc|hc|hc
  ·exact hYc c (List.mem_of_mem_take hc)
  ·rw [hc.2];exact hz11
  ·exact hYc c (List.mem_of_mem_drop hc)
 have hyt:ys.take (k - 1)=(cur.eraseIdx i).map Tg.cells:=by
  have h1:ys.take (k - 1)=Y.take (k - 1):=by
   rw [hy]
   unfold zbq
   rw [Nat.sub_zero,List.take_append_of_le_length (by simp;omega),List.take_take,Nat.min_self]
  have e2:xs.take k=cur.map Tg.cells:=by rw [hxs,hk];exact List.take_left' (by simp)
  rw [h1,hYt,e2,List.eraseIdx_eq_take_drop_succ,List.eraseIdx_eq_take_drop_succ,List.map_append,List.map_take,List.map_drop]
 have hel:(cur.eraseIdx i).length=k - 1:=by rw [List.length_eraseIdx,if_pos (by omega),hk]
 have hyd:ys=(cur.eraseIdx i).map Tg.cells++ys.drop (k - 1):=by rw [← hyt,List.take_append_drop]
 refine ⟨ys.drop (k - 1),⟨by rw [← hyd,hyl],fun c hc=>hyc c (List.mem_of_mem_drop hc)⟩,?_⟩
 rw [← hyd,hel,← hm,← hxs,← hk]
 exact hc
theorem zsp (l:List V) (hl:zac l):Good E0 B.slices_Clone_Value [.row Ty.Value (l.map V.cells) false] (zbs (zcF B.slices_Clone_Value [.own 0 l.length] [.row Ty.Value (l.map V.cells) false] 1) false) (fun r h=>r=.own 1 l.length∧h=[.row Ty.Value (l.map V.cells) false,.row Ty.Value (l.map V.cells) false]) :=
 zcm E0ok mix0 3000 (y:=AV.own 1 (List.map V.cells l).length) (H:=[Blk.row Ty.Value (List.map V.cells l) false,Blk.row Ty.Value (List.map V.cells l) false]) [sb (rfl:false=false),sq (show l.length=(List.map V.cells l).length∧AllLen (List.map V.cells l) 3∧((List.map V.cells l).length * 32).le 140737488355328 from ⟨by simp,⟨by simp⟩,by simp;omega⟩)] kr (⟨by simp,rfl⟩)
theorem zst:Good E0 B.slices_Clone_Value [.row Ty.Value [] false] (zbs (zcF B.slices_Clone_Value [.own 0 0] [.row Ty.Value [] false] 1) true) (fun r h=>r=.nl∧h=[.row Ty.Value [] false]) :=
 zcm E0ok mix0 3000 (y:=AV.nl) (H:=[.row Ty.Value [] false]) [sb (rfl:true=true)] kr (⟨rfl,rfl⟩)
theorem zbT (l:List V) (hl:zac l):zaa E0 S.slices_Clone_Value [.own 0 l.length] [.row Ty.Value (l.map V.cells) false] (.own 1 l.length) [.row Ty.Value (l.map V.cells) false,.row Ty.Value (l.map V.cells) false]:=by
 refine zaN At.slices_Clone_Value rfl kr (Nat.le_of_ble_eq_true kr) (zcb E0ok mix0 3000 [] (List.range 40) 1 (c':=zcF B.slices_Clone_Value [.own 0 l.length] [.row Ty.Value (l.map V.cells) false] 1) kr kr (zuN E0ok (xs:=l.map V.cells) (n:=l.length) (e:=true) kr (by simp) fun b hb=>?_))
 cases b with
 | false=>exact zsp l hl
 | true =>
  cases l with
  | nil=>exact zcv Ty.Value zst ⟨rfl,rfl⟩
  | cons x r=>exact absurd (hb (by simp)) (by simp)
def zaS (t:Tg) (s:Sch) (a b:List V):(List Fr) :=
 bif !t.each then
  []
 else
  bif t.event==2 then
   bif t.event==1 then
    [Fr.mk (ByteArray.mk #[79,76,68]) true s.cols a,Fr.mk (ByteArray.mk #[78,69,87]) true s.cols b]
   else
    [Fr.mk (ByteArray.mk #[79,76,68]) true s.cols a,Fr.mk (ByteArray.mk #[78,69,87]) true s.cols b]
  else
   bif t.event==3 then
    bif t.event==1 then
     [Fr.mk (ByteArray.mk #[79,76,68]) true s.cols a,Fr.mk (ByteArray.mk #[78,69,87]) true s.cols b]
    else
     [Fr.mk (ByteArray.mk #[79,76,68]) true s.cols a]
   else
    bif t.event==1 then
     [Fr.mk (ByteArray.mk #[78,69,87]) true s.cols b]
    else
     []
theorem zbP (t:Tg) (s:Sch) (a b:List V) (hs:zac s.cols) (ha:zac a) (hb:zac b):zaa E0 S.trigger_Frames [t.av,s.av,vsl a,.own 0 b.length] [.row Ty.Value (b.map V.cells) false] (fsl (zaS t s a b)) [.row Ty.Value (b.map V.cells) false]:=by
 unfold zaS
 cases h1:!t.each
 ·cases h2:t.event==2
  ·cases h3:t.event==3
   ·cases h4:t.event==1
    ·exact wk At.trigger_Frames [sb h1,sg h2,sb h3,sg h4,sb h2] kr
    ·exact (by (try simp only [X.av,Qy.av,V.av,Tb.av,Sch.av,Pl.av,xsl,fsl,vsl,tsl,List.map_append,List.map_cons,List.map_nil,V.cells,Col.cells,Rw.cells,Tb.cells,Fr.cells,Sch.cells,Pl.cells,zaW,zaI,zaO,zaM,zaT,X.cells,Qy.cells,X.args_mk,X.sub_mk,Qy.items_mk,Qy.wh_mk,xCol,xLit,xBin,xNeg]);exact wk At.trigger_Frames [sqx (1=1),sb h1,sg h2,sb h3,sb h4,sc (zat s.cols zc0),sl [0] (zbT b zc0),sqx (True∧True∧s.cols.length=(List.map Col.cells s.cols).length∧b.length=(List.map V.cells b).length∧True),sqx (AllLen [[sv (ByteArray.mk #[78,69,87]),bv true,AV.sl (List.map Col.cells s.cols),AV.sl (List.map V.cells b)]] 4∧Nat.le 72 140737488355328)] kr)
   ·cases h5:t.event==1
    ·exact (by (try simp only [X.av,Qy.av,V.av,Tb.av,Sch.av,Pl.av,xsl,fsl,vsl,tsl,List.map_append,List.map_cons,List.map_nil,V.cells,Col.cells,Rw.cells,Tb.cells,Fr.cells,Sch.cells,Pl.cells,zaW,zaI,zaO,zaM,zaT,X.cells,Qy.cells,X.args_mk,X.sub_mk,Qy.items_mk,Qy.wh_mk,xCol,xLit,xBin,xNeg]);exact wk At.trigger_Frames [sqx (1=1),sb h1,sg h2,sb h3,sc (zat s.cols zc0),sc (zap a zc0),sqx (True∧True∧s.cols.length=(List.map Col.cells s.cols).length∧a.length=(List.map V.cells a).length∧True),sqx (AllLen [[sv (ByteArray.mk #[79,76,68]),bv true,AV.sl (List.map Col.cells s.cols),AV.sl (List.map V.cells a)]] 4∧Nat.le 72 140737488355328),sg h5,sb h2] kr)
    ·exact (by (try simp only [X.av,Qy.av,V.av,Tb.av,Sch.av,Pl.av,xsl,fsl,vsl,tsl,List.map_append,List.map_cons,List.map_nil,V.cells,Col.cells,Rw.cells,Tb.cells,Fr.cells,Sch.cells,Pl.cells,zaW,zaI,zaO,zaM,zaT,X.cells,Qy.cells,X.args_mk,X.sub_mk,Qy.items_mk,Qy.wh_mk,xCol,xLit,xBin,xNeg]);exact wk At.trigger_Frames [sqx (2=2),sb h1,sg h2,sb h3,sc (zat s.cols zc0),sc (zap a zc0),sqx (True∧True∧s.cols.length=(List.map Col.cells s.cols).length∧a.length=(List.map V.cells a).length∧True),sqx (AllLen [[sv (ByteArray.mk #[79,76,68]),bv true,AV.sl (List.map Col.cells s.cols),AV.sl (List.map V.cells a)]] 4∧Nat.le 72 140737488355328),sb h5,sc (zat s.cols zc0),sl [0] (zbT b zc0),sqx (True∧True∧s.cols.length=(List.map Col.cells s.cols).length∧b.length=(List.map V.cells b).length∧True),sqx (AllLen [[sv (ByteArray.mk #[78,69,87]),bv true,AV.sl (List.map Col.cells s.cols),AV.sl (List.map V.cells b)]] 4∧1=1∧Nat.le 144 140737488355328)] kr)
  ·cases h6:t.event==1
   ·exact (by (try simp only [X.av,Qy.av,V.av,Tb.av,Sch.av,Pl.av,xsl,fsl,vsl,tsl,List.map_append,List.map_cons,List.map_nil,V.cells,Col.cells,Rw.cells,Tb.cells,Fr.cells,Sch.cells,Pl.cells,zaW,zaI,zaO,zaM,zaT,X.cells,Qy.cells,X.args_mk,X.sub_mk,Qy.items_mk,Qy.wh_mk,xCol,xLit,xBin,xNeg]);exact wk At.trigger_Frames [sqx (2=2),sb h1,sb h2,sc (zat s.cols zc0),sc (zap a zc0),sqx (True∧True∧s.cols.length=(List.map Col.cells s.cols).length∧a.length=(List.map V.cells a).length∧True),sqx (AllLen [[sv (ByteArray.mk #[79,76,68]),bv true,AV.sl (List.map Col.cells s.cols),AV.sl (List.map V.cells a)]] 4∧Nat.le 72 140737488355328),sg h6,sb h2,sc (zat s.cols zc0),sl [0] (zbT b zc0),sqx (True∧True∧s.cols.length=(List.map Col.cells s.cols).length∧b.length=(List.map V.cells b).length∧True),sqx (AllLen [[sv (ByteArray.mk #[78,69,87]),bv true,AV.sl (List.map Col.cells s.cols),AV.sl (List.map V.cells b)]] 4∧1=1∧Nat.le 144 140737488355328)] kr)
   ·exact (by (try simp only [X.av,Qy.av,V.av,Tb.av,Sch.av,Pl.av,xsl,fsl,vsl,tsl,List.map_append,List.map_cons,List.map_nil,V.cells,Col.cells,Rw.cells,Tb.cells,Fr.cells,Sch.cells,Pl.cells,zaW,zaI,zaO,zaM,zaT,X.cells,Qy.cells,X.args_mk,X.sub_mk,Qy.items_mk,Qy.wh_mk,xCol,xLit,xBin,xNeg]);exact wk At.trigger_Frames [sqx (2=2),sb h1,sb h2,sc (zat s.cols zc0),sc (zap a zc0),sqx (True∧True∧s.cols.length=(List.map Col.cells s.cols).length∧a.length=(List.map V.cells a).length∧True),sqx (AllLen [[sv (ByteArray.mk #[79,76,68]),bv true,AV.sl (List.map Col.cells s.cols),AV.sl (List.map V.cells a)]] 4∧Nat.le 72 140737488355328),sb h6,sc (zat s.cols zc0),sl [0] (zbT b zc0),sqx (True∧True∧s.cols.length=(List.map Col.cells s.cols).length∧b.length=(List.map V.cells b).length∧True),sqx (AllLen [[sv (ByteArray.mk #[78,69,87]),bv true,AV.sl (List.map Col.cells s.cols),AV.sl (List.map V.cells b)]] 4∧1=1∧Nat.le 144 140737488355328)] kr)
 ·exact wk At.trigger_Frames [sb h1] kr
end Go.AM
namespace Go.AM
set_option maxRecDepth 100000
set_option maxHeartbeats 1000000
set_option linter.unusedSimpArgs false
set_option linter.unusedVariables false
theorem zct {p:Prop} (h:p:=by first|assumption|omega|(simp;done)|(simp;omega)):p:=h
theorem zd8 {p:Prop} (h:p:=by first|assumption|omega|(simp at h2 h4;omega)):p:=h
abbrev RB (s:Sch) (old new:List V) (tb:List Tb):Heap:=[.box [sv s.name,.sl (s.cols.map Col.cells),vsl old,.own 1 new.length,tsl tb],.row Ty.Value (new.map V.cells) false]
def zkj:Se:=⟨⟨#[]⟩,.mk 0 0 false ⟨0,0,⟨#[]⟩⟩ ⟨#[]⟩ ⟨#[]⟩ [] []⟩
def Ac.set0 (a:Ac):Se:=a.sets.headD zkj
theorem zfp (a:Ac) (h:(((((a.sets.map Se.cells).length:Nat):Int)) != 1)=false):ElAt (a.sets.map Se.cells) 0 (Se.cells a.set0) 11:=by
 unfold Ac.set0
 cases hs:a.sets with
 | nil=>rw [hs] at h;simp at h
 | cons p r=>exact ⟨by decide,rfl,rfl⟩
def zcS (f:X→V × Int) (a:Ac) (fr:List Fr) (s:Sch) (old new:List V) (tb:List Tb):Int × (List V) :=
 bif (↑(List.map Se.cells a.sets).length:Int) != 1 then
  (17,new)
 else
  bif decide (idxF (fun c=>colC c a.set0.col) s.cols 0 < 0) then
   (3,new)
  else
   bif (f a.set0.ex).snd != 0 then
    ((f a.set0.ex).snd,new)
   else
    bif (new.length:Int) != (↑(List.map Col.cells s.cols).length:Int) then
     (17,new)
    else
     (0,new.set (idxF (fun c=>colC c a.set0.col) s.cols 0).toNat (f a.set0.ex).fst)
theorem zgH (f:X→V × Int) (a:Ac) (fr:List Fr) (s:Sch) (old new:List V) (tb:List Tb) (hs:zac s.cols) (hlt:idxF (fun c=>colC c a.set0.col) s.cols 0 < (s.cols.length:Int)) (hf:Pure S.evaluate_Value [a.set0.ex.av,fsl fr,tsl tb] (.tup [(f a.set0.ex).1.av,iv (f a.set0.ex).2])):zaa E0 S.before_row_set [.p 0 0,a.av,fsl fr] (RB s old new tb) (iv (zcS f a fr s old new tb).1) (RB s old (zcS f a fr s old new tb).2 tb):=by
 unfold zcS
 cases h1:(↑(List.map Se.cells a.sets).length:Int) != 1
 ·cases h2:decide (idxF (fun c=>colC c a.set0.col) s.cols 0 < 0)
  ·cases h3:(f a.set0.ex).snd != 0
   ·cases h4:(new.length:Int) != (↑(List.map Col.cells s.cols).length:Int)
    ·obtain ⟨x5,e5⟩:=zav (l:=new) (i:=(idxF (fun c=>colC c a.set0.col) s.cols 0).toNat) zd8
     exact wkS At.before_row_set (y:=iv 0) (H:=[Blk.box [sv s.name,AV.sl (List.map Col.cells s.cols),AV.sl (List.map V.cells old),AV.own 1 new.length,AV.sl (List.map Tb.cells tb)],Blk.row Ty.Value ((List.map V.cells new).set (idxF (fun c=>colC c a.set0.col) s.cols 0).toNat [iv (f a.set0.ex).fst.kind,iv (f a.set0.ex).fst.int,sv (f a.set0.ex).fst.text]) false]) [sb h1,sd [(6,[se (zfp a zd8)]),(9,[sc (zbi s a.set0.col zd8)])],sb h2,sdm [(2,[se (zfp a zd8)]),(10,[sc hf])] 0 [(0,AV.p 0 0),(1,AV.agg [iv a.kind,sv a.table,AV.sl (List.map (fun r=>[AV.sl (zad r)]) a.rows),AV.sl (zag a.query),AV.sl (List.map Se.cells a.sets),AV.sl (zad a.wh),sv a.text]),(2,AV.sl (List.map Fr.cells fr)),(4,AV.p 2 0),(6,iv 0),(7,iv (idxF (fun c=>colC c a.set0.col) s.cols 0)),(8,AV.p 3 0),(9,iv (f a.set0.ex).snd),(10,AV.p 2 4),(11,AV.sl (List.map Se.cells a.sets)),(12,iv (↑(List.map Se.cells a.sets).length:Int)),(13,AV.bl false),(14,AV.p 0 0),(15,AV.p 0 0),(16,AV.p 0 0),(17,AV.agg [sv s.name,AV.sl (List.map Col.cells s.cols)]),(18,AV.p 2 4),(19,AV.sl (List.map Se.cells a.sets)),(20,AV.dp [sv a.set0.col,iv a.set0.ex.kind,iv a.set0.ex.op,bv a.set0.ex.not,iv a.set0.ex.val.kind,iv a.set0.ex.val.int,sv a.set0.ex.val.text,sv a.set0.ex.table,sv a.set0.ex.name,AV.sl (zad a.set0.ex.args),AV.sl (zag a.set0.ex.sub)]),(21,AV.dp [sv a.set0.col,iv a.set0.ex.kind,iv a.set0.ex.op,bv a.set0.ex.not,iv a.set0.ex.val.kind,iv a.set0.ex.val.int,sv a.set0.ex.val.text,sv a.set0.ex.table,sv a.set0.ex.name,AV.sl (zad a.set0.ex.args),AV.sl (zag a.set0.ex.sub)]),(22,sv a.set0.col),(23,iv (idxF (fun c=>colC c a.set0.col) s.cols 0)),(24,iv (idxF (fun c=>colC c a.set0.col) s.cols 0)),(25,AV.bl false),(26,AV.tup [AV.agg [iv (f a.set0.ex).fst.kind,iv (f a.set0.ex).fst.int,sv (f a.set0.ex).fst.text],iv (f a.set0.ex).snd]),(27,AV.p 2 4),(28,AV.sl (List.map Se.cells a.sets)),(29,AV.dp [sv a.set0.col,iv a.set0.ex.kind,iv a.set0.ex.op,bv a.set0.ex.not,iv a.set0.ex.val.kind,iv a.set0.ex.val.int,sv a.set0.ex.val.text,sv a.set0.ex.table,sv a.set0.ex.name,AV.sl (zad a.set0.ex.args),AV.sl (zag a.set0.ex.sub)]),(30,AV.dp [iv a.set0.ex.kind,iv a.set0.ex.op,bv a.set0.ex.not,iv a.set0.ex.val.kind,iv a.set0.ex.val.int,sv a.set0.ex.val.text,sv a.set0.ex.table,sv a.set0.ex.name,AV.sl (zad a.set0.ex.args),AV.sl (zag a.set0.ex.sub)]),(31,AV.agg [iv a.set0.ex.kind,iv a.set0.ex.op,bv a.set0.ex.not,iv a.set0.ex.val.kind,iv a.set0.ex.val.int,sv a.set0.ex.val.text,sv a.set0.ex.table,sv a.set0.ex.name,AV.sl (zad a.set0.ex.args),AV.sl (zag a.set0.ex.sub)]),(32,AV.sl (List.map Fr.cells fr)),(33,AV.p 0 0),(34,AV.p 0 0),(35,AV.p 0 4),(36,AV.sl (List.map Tb.cells tb)),(37,AV.tup [AV.agg [iv (f a.set0.ex).fst.kind,iv (f a.set0.ex).fst.int,sv (f a.set0.ex).fst.text],iv (f a.set0.ex).snd]),(38,AV.agg [iv (f a.set0.ex).fst.kind,iv (f a.set0.ex).fst.int,sv (f a.set0.ex).fst.text]),(39,iv (f a.set0.ex).snd)] [Blk.box [sv s.name,AV.sl (List.map Col.cells s.cols),AV.sl (List.map V.cells old),AV.own 1 new.length,AV.sl (List.map Tb.cells tb)],Blk.row Ty.Value (List.map V.cells new) false,Blk.box [iv a.kind,sv a.table,AV.sl (List.map (fun r=>[AV.sl (zad r)]) a.rows),AV.sl (zag a.query),AV.sl (List.map Se.cells a.sets),AV.sl (zad a.wh),sv a.text],Blk.box [iv (f a.set0.ex).fst.kind,iv (f a.set0.ex).fst.int,sv (f a.set0.ex).fst.text]],sb h3,sd [(4,[sqx (new.length=(List.map V.cells new).length)])],sb h4,sd [(6,[sqx (OwnAt (List.map V.cells new) new.length (idxF (fun c=>colC c a.set0.col) s.cols 0))]),(7,[sx (.el x5.cells) (And.intro (owed (p:=True∧True∧True∧True)) (zdx V.cells (n:=new.length) (by simp) e5))])]] kr ⟨by first|rfl|(simp [List.map_set];done)|(simp [List.map_set];rfl),by first|rfl|(simp [List.map_set];done)|(simp [List.map_set];rfl)⟩
    ·exact wk At.before_row_set [sb h1,sd [(6,[se (zfp a zd8)]),(9,[sc (zbi s a.set0.col zd8)])],sb h2,sdm [(2,[se (zfp a zd8)]),(10,[sc hf])] 0 [(0,AV.p 0 0),(1,AV.agg [iv a.kind,sv a.table,AV.sl (List.map (fun r=>[AV.sl (zad r)]) a.rows),AV.sl (zag a.query),AV.sl (List.map Se.cells a.sets),AV.sl (zad a.wh),sv a.text]),(2,AV.sl (List.map Fr.cells fr)),(4,AV.p 2 0),(6,iv 0),(7,iv (idxF (fun c=>colC c a.set0.col) s.cols 0)),(8,AV.p 3 0),(9,iv (f a.set0.ex).snd),(10,AV.p 2 4),(11,AV.sl (List.map Se.cells a.sets)),(12,iv (↑(List.map Se.cells a.sets).length:Int)),(13,AV.bl false),(14,AV.p 0 0),(15,AV.p 0 0),(16,AV.p 0 0),(17,AV.agg [sv s.name,AV.sl (List.map Col.cells s.cols)]),(18,AV.p 2 4),(19,AV.sl (List.map Se.cells a.sets)),(20,AV.dp [sv a.set0.col,iv a.set0.ex.kind,iv a.set0.ex.op,bv a.set0.ex.not,iv a.set0.ex.val.kind,iv a.set0.ex.val.int,sv a.set0.ex.val.text,sv a.set0.ex.table,sv a.set0.ex.name,AV.sl (zad a.set0.ex.args),AV.sl (zag a.set0.ex.sub)]),(21,AV.dp [sv a.set0.col,iv a.set0.ex.kind,iv a.set0.ex.op,bv a.set0.ex.not,iv a.set0.ex.val.kind,iv a.set0.ex.val.int,sv a.set0.ex.val.text,sv a.set0.ex.table,sv a.set0.ex.name,AV.sl (zad a.set0.ex.args),AV.sl (zag a.set0.ex.sub)]),(22,sv a.set0.col),(23,iv (idxF (fun c=>colC c a.set0.col) s.cols 0)),(24,iv (idxF (fun c=>colC c a.set0.col) s.cols 0)),(25,AV.bl false),(26,AV.tup [AV.agg [iv (f a.set0.ex).fst.kind,iv (f a.set0.ex).fst.int,sv (f a.set0.ex).fst.text],iv (f a.set0.ex).snd]),(27,AV.p 2 4),(28,AV.sl (List.map Se.cells a.sets)),(29,AV.dp [sv a.set0.col,iv a.set0.ex.kind,iv a.set0.ex.op,bv a.set0.ex.not,iv a.set0.ex.val.kind,iv a.set0.ex.val.int,sv a.set0.ex.val.text,sv a.set0.ex.table,sv a.set0.ex.name,AV.sl (zad a.set0.ex.args),AV.sl (zag a.set0.ex.sub)]),(30,AV.dp [iv a.set0.ex.kind,iv a.set0.ex.op,bv a.set0.ex.not,iv a.set0.ex.val.kind,iv a.set0.ex.val.int,sv a.set0.ex.val.text,sv a.set0.ex.table,sv a.set0.ex.name,AV.sl (zad a.set0.ex.args),AV.sl (zag a.set0.ex.sub)]),(31,AV.agg [iv a.set0.ex.kind,iv a.set0.ex.op,bv a.set0.ex.not,iv a.set0.ex.val.kind,iv a.set0.ex.val.int,sv a.set0.ex.val.text,sv a.set0.ex.table,sv a.set0.ex.name,AV.sl (zad a.set0.ex.args),AV.sl (zag a.set0.ex.sub)]),(32,AV.sl (List.map Fr.cells fr)),(33,AV.p 0 0),(34,AV.p 0 0),(35,AV.p 0 4),(36,AV.sl (List.map Tb.cells tb)),(37,AV.tup [AV.agg [iv (f a.set0.ex).fst.kind,iv (f a.set0.ex).fst.int,sv (f a.set0.ex).fst.text],iv (f a.set0.ex).snd]),(38,AV.agg [iv (f a.set0.ex).fst.kind,iv (f a.set0.ex).fst.int,sv (f a.set0.ex).fst.text]),(39,iv (f a.set0.ex).snd)] [Blk.box [sv s.name,AV.sl (List.map Col.cells s.cols),AV.sl (List.map V.cells old),AV.own 1 new.length,AV.sl (List.map Tb.cells tb)],Blk.row Ty.Value (List.map V.cells new) false,Blk.box [iv a.kind,sv a.table,AV.sl (List.map (fun r=>[AV.sl (zad r)]) a.rows),AV.sl (zag a.query),AV.sl (List.map Se.cells a.sets),AV.sl (zad a.wh),sv a.text],Blk.box [iv (f a.set0.ex).fst.kind,iv (f a.set0.ex).fst.int,sv (f a.set0.ex).fst.text]],sb h3,sd [(4,[sqx (new.length=(List.map V.cells new).length)])],sb h4] kr
   ·exact wk At.before_row_set [sb h1,sd [(6,[se (zfp a zd8)]),(9,[sc (zbi s a.set0.col zd8)])],sb h2,sdm [(2,[se (zfp a zd8)]),(10,[sc hf])] 0 [(0,AV.p 0 0),(1,AV.agg [iv a.kind,sv a.table,AV.sl (List.map (fun r=>[AV.sl (zad r)]) a.rows),AV.sl (zag a.query),AV.sl (List.map Se.cells a.sets),AV.sl (zad a.wh),sv a.text]),(2,AV.sl (List.map Fr.cells fr)),(4,AV.p 2 0),(6,iv 0),(7,iv (idxF (fun c=>colC c a.set0.col) s.cols 0)),(8,AV.p 3 0),(9,iv (f a.set0.ex).snd),(10,AV.p 2 4),(11,AV.sl (List.map Se.cells a.sets)),(12,iv (↑(List.map Se.cells a.sets).length:Int)),(13,AV.bl false),(14,AV.p 0 0),(15,AV.p 0 0),(16,AV.p 0 0),(17,AV.agg [sv s.name,AV.sl (List.map Col.cells s.cols)]),(18,AV.p 2 4),(19,AV.sl (List.map Se.cells a.sets)),(20,AV.dp [sv a.set0.col,iv a.set0.ex.kind,iv a.set0.ex.op,bv a.set0.ex.not,iv a.set0.ex.val.kind,iv a.set0.ex.val.int,sv a.set0.ex.val.text,sv a.set0.ex.table,sv a.set0.ex.name,AV.sl (zad a.set0.ex.args),AV.sl (zag a.set0.ex.sub)]),(21,AV.dp [sv a.set0.col,iv a.set0.ex.kind,iv a.set0.ex.op,bv a.set0.ex.not,iv a.set0.ex.val.kind,iv a.set0.ex.val.int,sv a.set0.ex.val.text,sv a.set0.ex.table,sv a.set0.ex.name,AV.sl (zad a.set0.ex.args),AV.sl (zag a.set0.ex.sub)]),(22,sv a.set0.col),(23,iv (idxF (fun c=>colC c a.set0.col) s.cols 0)),(24,iv (idxF (fun c=>colC c a.set0.col) s.cols 0)),(25,AV.bl false),(26,AV.tup [AV.agg [iv (f a.set0.ex).fst.kind,iv (f a.set0.ex).fst.int,sv (f a.set0.ex).fst.text],iv (f a.set0.ex).snd]),(27,AV.p 2 4),(28,AV.sl (List.map Se.cells a.sets)),(29,AV.dp [sv a.set0.col,iv a.set0.ex.kind,iv a.set0.ex.op,bv a.set0.ex.not,iv a.set0.ex.val.kind,iv a.set0.ex.val.int,sv a.set0.ex.val.text,sv a.set0.ex.table,sv a.set0.ex.name,AV.sl (zad a.set0.ex.args),AV.sl (zag a.set0.ex.sub)]),(30,AV.dp [iv a.set0.ex.kind,iv a.set0.ex.op,bv a.set0.ex.not,iv a.set0.ex.val.kind,iv a.set0.ex.val.int,sv a.set0.ex.val.text,sv a.set0.ex.table,sv a.set0.ex.name,AV.sl (zad a.set0.ex.args),AV.sl (zag a.set0.ex.sub)]),(31,AV.agg [iv a.set0.ex.kind,iv a.set0.ex.op,bv a.set0.ex.not,iv a.set0.ex.val.kind,iv a.set0.ex.val.int,sv a.set0.ex.val.text,sv a.set0.ex.table,sv a.set0.ex.name,AV.sl (zad a.set0.ex.args),AV.sl (zag a.set0.ex.sub)]),(32,AV.sl (List.map Fr.cells fr)),(33,AV.p 0 0),(34,AV.p 0 0),(35,AV.p 0 4),(36,AV.sl (List.map Tb.cells tb)),(37,AV.tup [AV.agg [iv (f a.set0.ex).fst.kind,iv (f a.set0.ex).fst.int,sv (f a.set0.ex).fst.text],iv (f a.set0.ex).snd]),(38,AV.agg [iv (f a.set0.ex).fst.kind,iv (f a.set0.ex).fst.int,sv (f a.set0.ex).fst.text]),(39,iv (f a.set0.ex).snd)] [Blk.box [sv s.name,AV.sl (List.map Col.cells s.cols),AV.sl (List.map V.cells old),AV.own 1 new.length,AV.sl (List.map Tb.cells tb)],Blk.row Ty.Value (List.map V.cells new) false,Blk.box [iv a.kind,sv a.table,AV.sl (List.map (fun r=>[AV.sl (zad r)]) a.rows),AV.sl (zag a.query),AV.sl (List.map Se.cells a.sets),AV.sl (zad a.wh),sv a.text],Blk.box [iv (f a.set0.ex).fst.kind,iv (f a.set0.ex).fst.int,sv (f a.set0.ex).fst.text]],sb h3] kr
  ·exact wk At.before_row_set [sb h1,sd [(6,[se (zfp a zd8)]),(9,[sc (zbi s a.set0.col zd8)])],sb h2] kr
 ·exact wk At.before_row_set [sb h1] kr
theorem znq {α:Type} (p:α→Bool):∀ (l:List α) (i:Nat),idxF p l i < ((i+l.length:Nat):Int)∨idxF p l i=-1
 | [],i=>.inr rfl
 | x::r,i=>by
  simp only [idxF]
  cases p x
  ·rcases znq p r (i+1) with h|h
   ·exact .inl (by simp only [List.length_cons];simpa [Nat.add_assoc,Nat.add_comm 1] using h)
   ·exact .inr h
  ·exact .inl (by simp only [List.length_cons,cond_true];omega)
theorem zwl (s:Sch) (n:Str):idxF (fun c=>colC c n) s.cols 0 < (s.cols.length:Int):=by
 rcases znq (fun c=>colC c n) s.cols 0 with h|h
 ·simpa using h
 ·omega
noncomputable def zwh (f:List V→X→V × Int) (I:List V→Prop) (t:Tg) (s:Sch) (old:List V) (tb:List Tb) (new0:List V) (i:Nat) (nw:List V):Cfg:=zal B.before_row_fire 0 [(0,.p 0 0),(3,.p 2 0),(42,.sl (t.acts.map Ac.cells)),(43,iv ((t.acts.map Ac.cells).length:Nat)),(44,iv (i:Nat))] (RB s old nw tb++[.box t.cells])
def zhn (f:List V→X→V × Int) (I:List V→Prop) (t:Tg) (s:Sch) (old:List V) (tb:List Tb) (new0:List V):List (Ac)→Nat→(List V)→Int × (List V)
 | [],i,nw =>
  (0,nw)
 | x::r,i,nw =>
  bif x.kind==4 then
   (12,nw)
  else
   bif x.kind==5 then
    bif (zcS (f nw) x (zaS t s old nw) s old nw tb).fst != 0 then
     ((zcS (f nw) x (zaS t s old nw) s old nw tb).fst,(zcS (f nw) x (zaS t s old nw) s old nw tb).snd)
    else
     zhn f I t s old tb new0 r (i+1) ((zcS (f nw) x (zaS t s old nw) s old nw tb).snd)
   else
    (17,nw)
theorem zpW (f:List V→X→V × Int) (I:List V→Prop) (t:Tg) (s:Sch) (old:List V) (tb:List Tb) (new0:List V) (hs:zac s.cols) (ho:zac old) (hIs:∀ nw,I nw→zac nw) (hf:∀ nw,I nw→∀ a∈t.acts,Pure S.evaluate_Value [a.set0.ex.av,fsl (zaS t s old nw),tsl tb] (.tup [(f nw a.set0.ex).1.av,iv (f nw a.set0.ex).2])) (hI:∀ nw,I nw→∀ a∈t.acts,I (zcS (f nw) a (zaS t s old nw) s old nw tb).2) (hla:zac t.acts):∀ (kk i:Nat) (nw:List V),i+kk=(t.acts).length→(I nw)→Good E0 B.before_row_fire (RB s old new0 tb) (zwh f I t s old tb new0 i nw) (Shut 2 fun r h=>r=(iv (zhn f I t s old tb new0 ((t.acts).drop i) i nw).1)∧h=(RB s old (zhn f I t s old tb new0 ((t.acts).drop i) i nw).2 tb)):=by
 intro kk
 induction kk with
 | zero =>
  intro i nw hi hv
  have h0:decide (((i:Nat):Int) < (((t.acts.map Ac.cells).length:Nat):Int))=false:=by simp;omega
  have e0:(t.acts).drop i=[]:=List.drop_of_length_le (by omega)
  rw [e0]
  simp only [zhn]
  refine zab ?_
  exact wkr [sb h0] kr
 | succ kk ih =>
  intro i nw hi hv
  obtain ⟨x,hx⟩:=zav (l:=t.acts) (i:=i) (by omega)
  have h0:decide (((i:Nat):Int) < (((t.acts.map Ac.cells).length:Nat):Int))=true:=by simp;omega
  have hw:=zak i (by first|omega|(simp only [zac,Few] at *;omega))
  have hfx:=hf nw hv x (List.mem_of_getElem? hx)
  have hns:=hIs nw hv
  have hlx:=zwl s x.set0.col
  rw [zaR hx]
  simp only [zhn]
  refine zab ?_
  cases h1:x.kind==4
  ·cases h2:x.kind==5
   ·exact wkr [sb h0,se (zaf Ac.cells hx rfl),sb h1,sb h2,sb (rfl:true=true)] kr
   ·cases h3:(zcS (f nw) x (zaS t s old nw) s old nw tb).fst != 0
    ·exact wkl [sb h0,se (zaf Ac.cells hx rfl),sb h1,sb h2,sd [(15,[sl [1] (zbP t s old nw zct zct zct)]),(16,[sl [0,1] (zgH (f nw) x (zaS t s old nw) s old nw tb zct zct hfx)])],sb h3,si hw] [0,3,42,43,44] 3 kr (ih (i+1) ((zcS (f nw) x (zaS t s old nw) s old nw tb).snd) (by omega) (by first|assumption|exact hI nw hv x (List.mem_of_getElem? hx)))
    ·exact wkr [sb h0,se (zaf Ac.cells hx rfl),sb h1,sb h2,sd [(15,[sl [1] (zbP t s old nw zct zct zct)]),(16,[sl [0,1] (zgH (f nw) x (zaS t s old nw) s old nw tb zct zct hfx)])],sb h3] kr
  ·exact wkr [sb h0,se (zaf Ac.cells hx rfl),sb h1,sb (rfl:true=true)] kr
def fire (tr:List V→Bool × Int) (f:List V→X→V × Int) (I:List V→Prop) (t:Tg) (s:Sch) (old nw:List V) (tb:List Tb):Int × (List V) :=
 bif (tr nw).snd != 0 then
  ((tr nw).snd,nw)
 else
  bif !(tr nw).fst then
   ((tr nw).snd,nw)
  else
   zhn f I t s old tb nw t.acts 0 (nw)
theorem c_fire (tr:List V→Bool × Int) (f:List V→X→V × Int) (I:List V→Prop) (t:Tg) (s:Sch) (old nw:List V) (tb:List Tb) (hs:zac s.cols) (ho:zac old) (hIs:∀ nw,I nw→zac nw) (hf:∀ nw,I nw→∀ a∈t.acts,Pure S.evaluate_Value [a.set0.ex.av,fsl (zaS t s old nw),tsl tb] (.tup [(f nw a.set0.ex).1.av,iv (f nw a.set0.ex).2])) (hI:∀ nw,I nw→∀ a∈t.acts,I (zcS (f nw) a (zaS t s old nw) s old nw tb).2) (hla:zac t.acts) (hT:Pure S.evaluate_True [xsl t.when_,fsl (zaS t s old nw),tsl tb] (.tup [bv (tr nw).1,iv (tr nw).2])) (hv:I nw) (hns:zac nw):zaa E0 S.before_row_fire [.p 0 0,t.av] (RB s old nw tb) (iv (fire tr f I t s old nw tb).1) (RB s old (fire tr f I t s old nw tb).2 tb):=by
 unfold fire
 cases h1:(tr nw).snd != 0
 ·cases h2:!(tr nw).fst
  ·exact wkc At.before_row_fire [sd [(15,[sl [1] (zbP t s old nw zct zct zct)]),(20,[sc hT])],sg h1,sb h2] [0,3,42,43,44] 3 kr (zpW f I t s old tb nw hs ho hIs hf hI hla t.acts.length 0 nw (by simp) hv)
  ·exact wk At.before_row_fire [sd [(15,[sl [1] (zbP t s old nw zct zct zct)]),(20,[sc hT])],sg h1,sb h2] kr
 ·exact wk At.before_row_fire [sd [(15,[sl [1] (zbP t s old nw zct zct zct)]),(20,[sc hT])],sb h1] kr
structure NwOk (nw:List V):Prop where
 len:nw.length≤1000
 good:∀ v∈nw,v.Good
theorem NwOk.short {nw:List V} (h:NwOk nw):zac nw:=by have:=h.len;simp only [zac];omega
theorem zqV {t:Tg} {s:Sch} {a b:List V}:(zaS t s a b).length≤2∧∀ f∈zaS t s a b,f.cols=s.cols∧(f.vals=a∨f.vals=b):=by
 unfold zaS
 cases t.each <;> cases t.event==2 <;> cases t.event==3 <;> cases t.event==1 <;> simp
theorem zjg {t:Tg} {s:Sch} {a b:List V} (hs:Few s.cols) (ha:NwOk a) (hb:NwOk b) (N:Nat) (hN:N≤900000):FsOk N (zaS t s a b)∧FsG (zaS t s a b):=by
 obtain ⟨h1,h2⟩:=zqV (t:=t) (s:=s) (a:=a) (b:=b)
 have hv:∀ f∈zaS t s a b,∀ v∈f.vals,v.Good:=fun f hf v hv=>by
  rcases (h2 f hf).2 with e|e <;> rw [e] at hv
  ·exact ha.good v hv
  ·exact hb.good v hv
 exact ⟨⟨by omega,fun f hf=>by rw [(h2 f hf).1];simp only [Few] at hs;simp only [zac];omega,fun f hf v h=>(hv f hf v h).small⟩,hv⟩
theorem bif2 {α β:Type} {P:β→Prop} {c:Bool} {x y:α × β} (hx:P x.2) (hy:P y.2):P (cond c x y).2:=by cases c <;> assumption
theorem zog {f:X→V × Int} {a:Ac} {fr:List Fr} {s:Sch} {old nw:List V} {tb:List Tb} (h:NwOk nw) (hf:(f a.set0.ex).1.Good):NwOk (zcS f a fr s old nw tb).2:=by
 have hset:∀ i,NwOk (nw.set i (f a.set0.ex).1):=fun i=>⟨by rw [List.length_set];exact h.len,fun v hv=>(List.mem_or_eq_of_mem_set hv).elim (h.good v) fun e=>e ▸ hf⟩
 unfold zcS
 repeat' first|exact h|exact hset _|refine bif2 (P:=NwOk) ?_ ?_
structure TrOk (n:Nat) (t:Tg):Prop where
 acts:zac t.acts
 sets:∀ a∈t.acts,XOk n a.set0.ex
 when_:∀ x∈t.when_,XOk n x
def zb9 (n:Nat) (t:Tg) (s:Sch) (old nw:List V) (tb:List Tb):Int × List V :=
 fire (fun nw=>zcz (fun x=>eval n x (zaS t s old nw) tb) t.when_) (fun nw x=>eval n x (zaS t s old nw) tb) NwOk t s old nw tb
theorem zpK {f:List V→X→V × Int} {t:Tg} {s:Sch} {old:List V} {tb:List Tb} {new0:List V} (hI:∀ nw,NwOk nw→∀ a∈t.acts,NwOk (zcS (f nw) a (zaS t s old nw) s old nw tb).2):∀ (l:List Ac) (i:Nat) (nw:List V),(∀ a∈l,a∈t.acts)→NwOk nw→NwOk (zhn f NwOk t s old tb new0 l i nw).2
 | [],_,_,_,h=>h
 | x::r,i,nw,hm,h=>by
  have h1:=hI nw h x (hm x (by simp))
  have h2:=fun j nw h=>zpK (new0:=new0) hI r j nw (fun a ha=>hm a (by simp [ha])) h
  unfold zhn
  repeat' first|exact h|exact h1|exact h2 _ _ h|exact h2 _ _ h1|refine bif2 (P:=NwOk) ?_ ?_
theorem zu1 {n:Nat} {t:Tg} {s:Sch} {old nw:List V} {tb:List Tb} (hn:n≤900000) (ht:TrOk n t) (hs:Few s.cols) (ho:NwOk old) (hw:NwOk nw) (htg:TbG tb):NwOk (zb9 n t s old nw tb).2:=by
 unfold zb9 fire
 have h:=zpK (f:=fun nw x=>eval n x (zaS t s old nw) tb) (t:=t) (s:=s) (old:=old) (tb:=tb) (new0:=nw) (fun nw h a ha=>zog h (zdF n _ _ tb (ht.sets a ha) (zjg hs ho h n hn).2 htg)) t.acts 0 nw (fun a ha=>ha) hw
 repeat' first|exact hw|exact h|refine bif2 (P:=NwOk) ?_ ?_
theorem zcY (n:Nat) (t:Tg) (s:Sch) (old nw:List V) (tb:List Tb) (hn:n≤900000) (ht:TrOk n t) (hs:Few s.cols) (ho:NwOk old) (hw:NwOk nw) (hto:TbOk tb) (htg:TbG tb) :
  zaa E0 S.before_row_fire [.p 0 0,t.av] (RB s old nw tb) (iv (zb9 n t s old nw tb).1) (RB s old (zb9 n t s old nw tb).2 tb):=by
 have hss:zac s.cols:=by simp only [Few] at hs;simp only [zac];omega
 have hfr:∀ nw,NwOk nw→FsOk n (zaS t s old nw)∧FsG (zaS t s old nw):=fun nw h=>zjg hs ho h n hn
 exact c_fire (fun nw=>zcz (fun x=>eval n x (zaS t s old nw) tb) t.when_) (fun nw x=>eval n x (zaS t s old nw) tb) NwOk t s old nw tb hss ho.short (fun _ h=>h.short)
  (fun nw h a ha=>zfn n _ _ tb (ht.sets a ha) (hfr nw h).1 (hfr nw h).2 hto htg)
  (fun nw h a ha=>zog h (zdF n _ _ tb (ht.sets a ha) (hfr nw h).2 htg)) ht.acts
  (zuo (fun x hx=>zfn n x _ tb (ht.when_ x hx) (hfr nw hw).1 (hfr nw hw).2 hto htg) (fun x hx=>zdF n x _ tb (ht.when_ x hx) (hfr nw hw).2 htg)) hw hw.short
end Go.AM
namespace Go.AM
set_option maxRecDepth 100000
set_option maxHeartbeats 1000000
set_option linter.unusedSimpArgs false
set_option linter.unusedVariables false
theorem zcX {p:Prop} (h:p:=by first|assumption|(rw [List.length_eraseIdx,if_pos hcb];omega)|exact (by assumption:n=_∧_).1|exact (by assumption:n=_∧_).2|exact Nat.le_trans (List.length_eraseIdx_le _ _) hc|exact fun t ht=>hT t (List.mem_of_mem_eraseIdx ht)|exact zu1 hN hTx hs ho hw0 htg|exact znE hp|(simp only [List.length_append,List.length_cons,List.length_nil];omega)|omega):p:=h
theorem zaG {p:Prop} (h:p:=by first|assumption|omega|(simp;done)|(simp;omega)):p:=h
abbrev RH5 (s:Sch) (old nw:List V) (tb:List Tb) (cur:List Tg) (rest:List (List AV)) (ch:List Int):Heap:=[.box s.cells,.row Ty.Value (nw.map V.cells) false,.box [sv s.name,.sl (s.cols.map Col.cells),vsl old,.own 1 nw.length,tsl tb],.row Ty.Trigger (cur.map Tg.cells++rest) false,.row Ty.int (ch.map fun n=>[iv n]) false]
noncomputable def zc1 (N:Nat) (l:List Lk) (s:Sch) (old:List V) (tb:List Tb) (k:Nat) (cur:List Tg) (rest:List (List AV)) (n:Nat) (nw:List V) (ps ch:List Int):Cfg:=zal B.before_Row 0 [(1,.sl (l.map Lk.cells)),(6,isl ps),(18,.p 2 0),(19,.os 3 n 0 cur.length),(20,.own 4 ch.length)] (RH5 s old nw tb cur rest ch)
def imOf (t:Tg):Im:=⟨t.name,0,[],[]⟩
theorem ztD {cur:List Tg} {i:Nat} {x:Tg} {its:List Im} (hx:cur[i]?=some x) (h:its=(cur.take i).map imOf):its++[⟨x.name,0,[],[]⟩]=(cur.take (i+1)).map imOf:=by
 rw [List.take_add_one,hx,List.map_append,h];rfl
noncomputable def zbv (l:List Lk) (s:Sch) (old:List V) (tb:List Tb) (cur:List Tg) (rest:List (List AV)) (n:Nat) (nw:List V) (ps ch:List Int) (i:Nat) (its:List Im):Cfg:=zal B.before_Row 1 [(1,.sl (l.map Lk.cells)),(6,isl ps),(18,.p 2 0),(19,.os 3 n 0 cur.length),(20,.own 4 ch.length),(21,.own 5 its.length),(41,.os 3 n 0 cur.length),(42,iv (cur.length - 0:Nat)),(43,iv (i:Nat))] (RH5 s old nw tb cur rest ch++[.row Ty.Item (its.map Im.cells) false])
theorem zwu (l:List Lk) (s:Sch) (old:List V) (tb:List Tb) (cur:List Tg) (rest:List (List AV)) (n:Nat) (nw:List V) (ps ch:List Int) (hn:n=(cur.map Tg.cells++rest).length) (hc:zac cur) (i:Nat) (its:List Im) (hi:i≤((cur.length - 0))) (hI:its=(cur.take i).map imOf):∃ (its':List Im),(its'=(cur.take ((cur.length - 0))).map imOf)∧(decide (((((cur.length - 0)):Nat):Int) < ((((cur.length - 0)):Nat):Int))=false)∧∀ R,Good E0 B.before_Row [] (zbv l s old tb cur rest n nw ps ch ((cur.length - 0)) its') R→Good E0 B.before_Row [] (zbv l s old tb cur rest n nw ps ch i its) R:=by
 obtain ⟨kk,hk⟩:∃ kk,i+kk=((cur.length - 0)):=⟨((cur.length - 0)) - i,by omega⟩
 induction kk generalizing i its with
 | zero =>
  have e0:i=((cur.length - 0)):=by omega
  subst e0
  exact ⟨its,hI,by simp,fun R hg=>hg⟩
 | succ kk ih =>
  have h0:decide (((i:Nat):Int) < ((((cur.length - 0)):Nat):Int))=true:=by simp;omega
  have hw:IntKind.i64.wrap (((i:Nat):Int)+1)=((i+1:Nat):Int):=zak i (by first|omega|(simp only [zac,Few] at *;omega))
  obtain ⟨x,hx⟩:=zav (l:=cur) (i:=i) (by omega)
  have he:OwnEl (cur.map Tg.cells++rest) n i x.cells:=⟨hn,by rw [List.getElem?_append_left (by simp;omega)];simp [hx]⟩
  have ho:OsEl (cur.map Tg.cells++rest) n 0 cur.length ((i:Nat):Int):=⟨hn,by omega,by simp;omega⟩
  have hil:its.length≤1000000000:=by rw [hI];simp;simp only [zac] at hc;omega
  obtain ⟨itsZ,qZ,xZ,gZ⟩:=ih (i+1) (its++[Im.mk x.name 0 [] []]) (by omega) (by exact ztD hx hI) (by omega);exact ⟨itsZ,qZ,xZ,fun R hg=>zab (wkl (c':=(Cfg.mk (zbv l s old tb cur rest n nw ps ch (i+1) (its++[Im.mk x.name 0 [] []])).n (zbv l s old tb cur rest n nw ps ch (i+1) (its++[Im.mk x.name 0 [] []])).todo [(1,AV.sl (List.map Lk.cells l)),(6,AV.sl (List.map (fun n=>[iv n]) ps)),(18,AV.p 2 0),(19,AV.os 3 n 0 cur.length),(20,AV.own 4 ch.length),(21,AV.own 5 (List.map Im.cells its++[[sv x.name,iv 0,AV.sl [],AV.sl []]]).length),(41,AV.os 3 n 0 cur.length),(42,iv (↑(cur.length - 0):Int)),(43,iv (↑(i+1):Int))] [Blk.box [sv s.name,AV.sl (List.map Col.cells s.cols)],Blk.row Ty.Value (List.map V.cells nw) false,Blk.box [sv s.name,AV.sl (List.map Col.cells s.cols),AV.sl (List.map V.cells old),AV.own 1 nw.length,AV.sl (List.map Tb.cells tb)],Blk.row Ty.Trigger (List.map Tg.cells cur++rest) false,Blk.row Ty.int (List.map (fun n=>[iv n]) ch) false,Blk.row Ty.Item (List.map Im.cells its++[[sv x.name,iv 0,AV.sl [],AV.sl []]]) false])) [sb h0,sqx (OsEl (List.map Tg.cells cur++rest) n 0 cur.length (i:Int)),sx (.el x.cells) he,sqx (AllLen [[sv x.name,iv 0,AV.sl [],AV.sl []]] 4∧its.length=(List.map Im.cells its).length∧(((List.map Im.cells its).length+[[sv x.name,iv 0,AV.sl [],AV.sl []]].length) * 72).le 140737488355328),si hw] [1,6,18,19,20,21,41,42,43] 6 kr (zan (show ([(1,AV.sl (List.map Lk.cells l)),(6,AV.sl (List.map (fun n=>[iv n]) ps)),(18,AV.p 2 0),(19,AV.os 3 n 0 cur.length),(20,AV.own 4 ch.length),(21,AV.own 5 (List.map Im.cells its++[[sv x.name,iv 0,AV.sl [],AV.sl []]]).length),(41,AV.os 3 n 0 cur.length),(42,iv (↑(cur.length - 0):Int)),(43,iv (↑(i+1):Int))]:TS)=[(1,AV.sl (List.map Lk.cells l)),(6,AV.sl (List.map (fun n=>[iv n]) ps)),(18,AV.p 2 0),(19,AV.os 3 n 0 cur.length),(20,AV.own 4 ch.length),(21,AV.own 5 (its++[Im.mk x.name 0 [] []]).length),(41,AV.os 3 n 0 cur.length),(42,iv (↑(cur.length - 0):Int)),(43,iv (↑(i+1):Int))] by first|rfl|(simp;done)|(simp [X.cells,Qy.cells,V.cells,Col.cells,Rw.cells,Tb.cells,Fr.cells,Sch.cells,Tp.cells,Pl.cells,xCol,xLit,xBin,xNeg,Im.cells,Lk.cells];done)) (show ([Blk.box [sv s.name,AV.sl (List.map Col.cells s.cols)],Blk.row Ty.Value (List.map V.cells nw) false,Blk.box [sv s.name,AV.sl (List.map Col.cells s.cols),AV.sl (List.map V.cells old),AV.own 1 nw.length,AV.sl (List.map Tb.cells tb)],Blk.row Ty.Trigger (List.map Tg.cells cur++rest) false,Blk.row Ty.int (List.map (fun n=>[iv n]) ch) false,Blk.row Ty.Item (List.map Im.cells its++[[sv x.name,iv 0,AV.sl [],AV.sl []]]) false]:Heap)=[Blk.box [sv s.name,AV.sl (List.map Col.cells s.cols)],Blk.row Ty.Value (List.map V.cells nw) false,Blk.box [sv s.name,AV.sl (List.map Col.cells s.cols),AV.sl (List.map V.cells old),AV.own 1 nw.length,AV.sl (List.map Tb.cells tb)],Blk.row Ty.Trigger (List.map Tg.cells cur++rest) false,Blk.row Ty.int (List.map (fun n=>[iv n]) ch) false,Blk.row Ty.Item (List.map Im.cells (its++[Im.mk x.name 0 [] []])) false] by first|rfl|(simp;done)|(simp [X.cells,Qy.cells,V.cells,Col.cells,Rw.cells,Tb.cells,Fr.cells,Sch.cells,Tp.cells,Pl.cells,xCol,xLit,xBin,xNeg,Im.cells,Lk.cells];done)) (gZ R hg)))⟩
theorem zgZ (l:List Lk) (s:Sch) (old:List V) (tb:List Tb) (cur:List Tg) (rest:List (List AV)) (n:Nat) (nw:List V) (ps ch:List Int) (hn:n=(cur.map Tg.cells++rest).length) (hc:zac cur) :
  (decide (((cur.length - 0:Nat):Int) < ((cur.length - 0:Nat):Int))=false)∧∀ R,Good E0 B.before_Row [] (zbv l s old tb cur rest n nw ps ch (cur.length - 0) (cur.map imOf)) R→Good E0 B.before_Row [] (zbv l s old tb cur rest n nw ps ch 0 []) R:=by
 obtain ⟨its,h1,h2,h3⟩:=zwu l s old tb cur rest n nw ps ch hn hc 0 [] (by omega) (by simp)
 have e:cur.take (cur.length - 0)=cur:=List.take_of_length_le (by omega)
 rw [e] at h1
 subst h1
 exact ⟨h2,h3⟩
def zbk:Tg:=⟨⟨#[]⟩,⟨#[]⟩,false,0,[],false,[],[],[],[],[]⟩
abbrev pl (cur:List Tg) (l:List Lk) (ps:List Int):Nat:=zbm (cur.map imOf) l ps
theorem znE {n:Int} {ps:List Int} (h:Room ps):Room (zbf n ps).2:=by
 unfold zbf
 cases decide (n < 2)
 ·cases ps with
  | nil=>simp
  | cons p r=>simp only [Room,List.length_cons] at h;simp only [cond_false,Room];omega
 ·exact h
def brow (N:Nat) (l:List Lk) (s:Sch) (old:List V) (tb:List Tb):Nat→(List Tg)→(List V)→(List Int)→(List Int)→(List V) × (List Int) × (List Int) × Int
 | 0,cur,nw,ps,ch =>
  (nw,ps,ch,0)
 | k+1,cur,nw,ps,ch =>
  bif (↑(List.map (fun n=>[iv n]) (zas (List.map imOf cur) l (List.map imOf cur).length)).length:Int)==0 then
   ([],[],[],17)
  else
   bif decide (1 < (↑(List.map (fun n=>[iv n]) (zas (List.map imOf cur) l (List.map imOf cur).length)).length:Int)) then
    bif (zb9 N (cur.getD (pl cur l ps) zbk) s old nw tb).fst != 0 then
     ([],[],[],(zb9 N (cur.getD (pl cur l ps) zbk) s old nw tb).fst)
    else
     brow N l s old tb k (cur.eraseIdx (zbm (List.map imOf cur) l ps)) ((zb9 N (cur.getD (pl cur l ps) zbk) s old nw tb).snd) ((zbf (↑(List.map (fun n=>[iv n]) (zas (List.map imOf cur) l (List.map imOf cur).length)).length:Int) ps).snd) (ch++[(↑(List.map (fun n=>[iv n]) (zas (List.map imOf cur) l (List.map imOf cur).length)).length:Int)])
   else
    bif (zb9 N (cur.getD (pl cur l ps) zbk) s old nw tb).fst != 0 then
     ([],[],[],(zb9 N (cur.getD (pl cur l ps) zbk) s old nw tb).fst)
    else
     brow N l s old tb k (cur.eraseIdx (zbm (List.map imOf cur) l ps)) ((zb9 N (cur.getD (pl cur l ps) zbk) s old nw tb).snd) ((zbf (↑(List.map (fun n=>[iv n]) (zas (List.map imOf cur) l (List.map imOf cur).length)).length:Int) ps).snd) (ch)
theorem zqM (N:Nat) (l:List Lk) (s:Sch) (old:List V) (tb:List Tb) (hN:N≤900000) (hl:zac l) (hs:Few s.cols) (ho:NwOk old) (hto:TbOk tb) (htg:TbG tb):∀ (k:Nat) (cur:List Tg) (rest:List (List AV)) (n:Nat) (nw:List V) (ps ch:List Int),k≤1000000000→(cur.length=k)→(n=(cur.map Tg.cells++rest).length)→(∀ c∈rest,c.length=11)→(zac cur)→(∀ t∈cur,TrOk N t)→(NwOk nw)→(Room ps)→(ch.length+k≤1000000000)→Good E0 B.before_Row [] (zc1 N l s old tb k cur rest n nw ps ch) (Shut 0 fun r h=>r=(.tup [vsl (brow N l s old tb k cur nw ps ch).1,isl (brow N l s old tb k cur nw ps ch).2.1,isl (brow N l s old tb k cur nw ps ch).2.2.1,iv (brow N l s old tb k cur nw ps ch).2.2.2])∧h=[]):=by
 intro k
 induction k with
 | zero =>
  intro cur rest n nw ps ch hk hk0 hn hr hc hT hw0 hp hch
  have hcl:decide ((0:Int) < ((cur.length - 0:Nat):Int))=false:=by rw [decide_eq_false_iff_not];omega
  simp only [brow]
  refine zab ?_
  exact wkr [sqx (nw.length=(List.map V.cells nw).length∧True∧ch.length=(List.map (fun n=>[iv n]) ch).length∧True∧True),sqx (n=(List.map Tg.cells cur++rest).length),sb hcl] kr
 | succ k ih =>
  intro cur rest n nw ps ch hk hk0 hn hr hc hT hw0 hp hch
  have h0:decide ((0:Int) < ((k+1:Nat):Int))=true:=by first|(simp;done)|(simp;omega)
  have hw:=zkN k (by omega)
  have hcl:decide ((0:Int) < ((cur.length - 0:Nat):Int))=true:=by rw [decide_eq_true_iff];omega
  have hcb:zbm (cur.map imOf) l ps < cur.length:=by have:=zuB (cur.map imOf) l ps (by simp;omega);simpa using this
  have hso:zac (cur.map imOf):=by simp only [zac,List.length_map] at *;exact hc
  have hos:OsEl (cur.map Tg.cells++rest) n 0 cur.length ((pl cur l ps:Nat):Int):=⟨hn,by omega,by simp;omega⟩
  have hge:cur[pl cur l ps]?=some (cur.getD (pl cur l ps) zbk):=by rw [List.getD_eq_getElem?_getD,List.getElem?_eq_getElem hcb];rfl
  have hoe:OwnEl (cur.map Tg.cells++rest) n (pl cur l ps) (cur.getD (pl cur l ps) zbk).cells:=⟨hn,by rw [List.getElem?_append_left (by rw [List.length_map];exact hcb),List.getElem?_map,hge];rfl⟩
  have hTx:TrOk N (cur.getD (pl cur l ps) zbk):=hT _ (List.mem_of_getElem? hge)
  simp only [brow]
  refine zab ?_
  obtain ⟨q1,g1⟩:=zgZ l s old tb cur rest n nw ps ch zaG zaG
  cases h2:(↑(List.map (fun n=>[iv n]) (zas (List.map imOf cur) l (List.map imOf cur).length)).length:Int)==0
  ·cases h3:decide (1 < (↑(List.map (fun n=>[iv n]) (zas (List.map imOf cur) l (List.map imOf cur).length)).length:Int))
   ·cases h4:(zb9 N (cur.getD (pl cur l ps) zbk) s old nw tb).fst != 0
    ·obtain ⟨rest5,q5,c5⟩:=(zdU cur rest n (zbm (List.map imOf cur) l ps) zaG zaG zaG)
     exact wkl (c':=(Cfg.mk (zbv l s old tb cur rest n nw ps ch 0 []).n (zbv l s old tb cur rest n nw ps ch 0 []).todo [(1,AV.sl (List.map Lk.cells l)),(6,AV.sl (List.map (fun n=>[iv n]) ps)),(18,AV.p 2 0),(19,AV.os 3 n 0 cur.length),(20,AV.own 4 ch.length),(21,AV.nl),(41,AV.os 3 n 0 cur.length),(42,iv (↑(cur.length - 0):Int)),(43,iv 0)] [Blk.box [sv s.name,AV.sl (List.map Col.cells s.cols)],Blk.row Ty.Value (List.map V.cells nw) false,Blk.box [sv s.name,AV.sl (List.map Col.cells s.cols),AV.sl (List.map V.cells old),AV.own 1 nw.length,AV.sl (List.map Tb.cells tb)],Blk.row Ty.Trigger (List.map Tg.cells cur++rest) false,Blk.row Ty.int (List.map (fun n=>[iv n]) ch) false])) [sqx (n=(List.map Tg.cells cur++rest).length),sb hcl,sqx (n=(List.map Tg.cells cur++rest).length)] [1,6,18,19,20,21,41,42,43] 5 kr (zbb (c':=zbv l s old tb cur rest n nw ps ch 0 []) 21 Ty.Item [1,6,18,19,20,21,41,42,43] 6 kr kr kr (g1 _ (zab (wkl [sb q1,skx ((List.map imOf cur).length=(List.map Im.cells (List.map imOf cur)).length∧True∧True) [] (zcT (List.map imOf cur) l zaG zaG),sb h2,sc (zeg ((↑(List.map (fun n=>[iv n]) (zas (List.map imOf cur) l (List.map imOf cur).length)).length:Int)) ps zaG),sb h3,se (zlk (List.map imOf cur) l ps zaG zaG),sqx (OsEl (List.map Tg.cells cur++rest) n 0 cur.length (↑(zbm (List.map imOf cur) l ps):Int)),sx (.el ((cur.getD (pl cur l ps) zbk).cells)) hoe,sl [2,1] (zcY N (cur.getD (pl cur l ps) zbk) s old nw tb hN zaG zaG zaG zaG zaG zaG),sb h4,si (zcG (t:=(↑(zbm (List.map imOf cur) l ps):Int)+1) (n:=zbm (List.map imOf cur) l ps+1) (by omega) (by omega)),sl [3] c5] [1,6,18,19,20] 5 kr (ih (cur.eraseIdx (zbm (List.map imOf cur) l ps)) rest5 n ((zb9 N (cur.getD (pl cur l ps) zbk) s old nw tb).snd) ((zbf (↑(List.map (fun n=>[iv n]) (zas (List.map imOf cur) l (List.map imOf cur).length)).length:Int) ps).snd) ch (by omega) zcX zcX zcX zcX zcX zcX zcX zcX)))))
    ·exact wkl (c':=(Cfg.mk (zbv l s old tb cur rest n nw ps ch 0 []).n (zbv l s old tb cur rest n nw ps ch 0 []).todo [(1,AV.sl (List.map Lk.cells l)),(6,AV.sl (List.map (fun n=>[iv n]) ps)),(18,AV.p 2 0),(19,AV.os 3 n 0 cur.length),(20,AV.own 4 ch.length),(21,AV.nl),(41,AV.os 3 n 0 cur.length),(42,iv (↑(cur.length - 0):Int)),(43,iv 0)] [Blk.box [sv s.name,AV.sl (List.map Col.cells s.cols)],Blk.row Ty.Value (List.map V.cells nw) false,Blk.box [sv s.name,AV.sl (List.map Col.cells s.cols),AV.sl (List.map V.cells old),AV.own 1 nw.length,AV.sl (List.map Tb.cells tb)],Blk.row Ty.Trigger (List.map Tg.cells cur++rest) false,Blk.row Ty.int (List.map (fun n=>[iv n]) ch) false])) [sqx (n=(List.map Tg.cells cur++rest).length),sb hcl,sqx (n=(List.map Tg.cells cur++rest).length)] [1,6,18,19,20,21,41,42,43] 5 kr (zbb (c':=zbv l s old tb cur rest n nw ps ch 0 []) 21 Ty.Item [1,6,18,19,20,21,41,42,43] 6 kr kr kr (g1 _ (zab (wkr [sb q1,skx ((List.map imOf cur).length=(List.map Im.cells (List.map imOf cur)).length∧True∧True) [] (zcT (List.map imOf cur) l zaG zaG),sb h2,sc (zeg ((↑(List.map (fun n=>[iv n]) (zas (List.map imOf cur) l (List.map imOf cur).length)).length:Int)) ps zaG),sb h3,se (zlk (List.map imOf cur) l ps zaG zaG),sqx (OsEl (List.map Tg.cells cur++rest) n 0 cur.length (↑(zbm (List.map imOf cur) l ps):Int)),sx (.el ((cur.getD (pl cur l ps) zbk).cells)) hoe,sl [2,1] (zcY N (cur.getD (pl cur l ps) zbk) s old nw tb hN zaG zaG zaG zaG zaG zaG),sb h4] kr))))
   ·cases h6:(zb9 N (cur.getD (pl cur l ps) zbk) s old nw tb).fst != 0
    ·obtain ⟨rest7,q7,c7⟩:=(zdU cur rest n (zbm (List.map imOf cur) l ps) zaG zaG zaG)
     exact wkl (c':=(Cfg.mk (zbv l s old tb cur rest n nw ps ch 0 []).n (zbv l s old tb cur rest n nw ps ch 0 []).todo [(1,AV.sl (List.map Lk.cells l)),(6,AV.sl (List.map (fun n=>[iv n]) ps)),(18,AV.p 2 0),(19,AV.os 3 n 0 cur.length),(20,AV.own 4 ch.length),(21,AV.nl),(41,AV.os 3 n 0 cur.length),(42,iv (↑(cur.length - 0):Int)),(43,iv 0)] [Blk.box [sv s.name,AV.sl (List.map Col.cells s.cols)],Blk.row Ty.Value (List.map V.cells nw) false,Blk.box [sv s.name,AV.sl (List.map Col.cells s.cols),AV.sl (List.map V.cells old),AV.own 1 nw.length,AV.sl (List.map Tb.cells tb)],Blk.row Ty.Trigger (List.map Tg.cells cur++rest) false,Blk.row Ty.int (List.map (fun n=>[iv n]) ch) false])) [sqx (n=(List.map Tg.cells cur++rest).length),sb hcl,sqx (n=(List.map Tg.cells cur++rest).length)] [1,6,18,19,20,21,41,42,43] 5 kr (zbb (c':=zbv l s old tb cur rest n nw ps ch 0 []) 21 Ty.Item [1,6,18,19,20,21,41,42,43] 6 kr kr kr (g1 _ (zab (wkl (c':=(Cfg.mk (zc1 N l s old tb k (cur.eraseIdx (zbm (List.map imOf cur) l ps)) rest7 n (zb9 N (cur.getD (pl cur l ps) zbk) s old nw tb).snd (zbf (↑(List.map (fun n=>[iv n]) (zas (List.map imOf cur) l (List.map imOf cur).length)).length:Int) ps).snd (ch++[(↑(List.map (fun n=>[iv n]) (zas (List.map imOf cur) l (List.map imOf cur).length)).length:Int)])).n (zc1 N l s old tb k (cur.eraseIdx (zbm (List.map imOf cur) l ps)) rest7 n (zb9 N (cur.getD (pl cur l ps) zbk) s old nw tb).snd (zbf (↑(List.map (fun n=>[iv n]) (zas (List.map imOf cur) l (List.map imOf cur).length)).length:Int) ps).snd (ch++[(↑(List.map (fun n=>[iv n]) (zas (List.map imOf cur) l (List.map imOf cur).length)).length:Int)])).todo [(1,AV.sl (List.map Lk.cells l)),(6,AV.sl (List.map (fun n=>[iv n]) (zbf (↑(List.map (fun n=>[iv n]) (zas (List.map imOf cur) l (List.map imOf cur).length)).length:Int) ps).snd)),(18,AV.p 2 0),(19,AV.os 3 n 0 (cur.eraseIdx (zbm (List.map imOf cur) l ps)).length),(20,AV.own 4 (List.map (fun n=>[iv n]) ch++[[iv (↑(List.map (fun n=>[iv n]) (zas (List.map imOf cur) l (List.map imOf cur).length)).length:Int)]]).length)] [Blk.box [sv s.name,AV.sl (List.map Col.cells s.cols)],Blk.row Ty.Value (List.map V.cells (zb9 N (cur.getD (pl cur l ps) zbk) s old nw tb).snd) false,Blk.box [sv s.name,AV.sl (List.map Col.cells s.cols),AV.sl (List.map V.cells old),AV.own 1 (zb9 N (cur.getD (pl cur l ps) zbk) s old nw tb).snd.length,AV.sl (List.map Tb.cells tb)],Blk.row Ty.Trigger (List.map Tg.cells (cur.eraseIdx (zbm (List.map imOf cur) l ps))++rest7) false,Blk.row Ty.int (List.map (fun n=>[iv n]) ch++[[iv (↑(List.map (fun n=>[iv n]) (zas (List.map imOf cur) l (List.map imOf cur).length)).length:Int)]]) false])) [sb q1,skx ((List.map imOf cur).length=(List.map Im.cells (List.map imOf cur)).length∧True∧True) [] (zcT (List.map imOf cur) l zaG zaG),sb h2,sc (zeg ((↑(List.map (fun n=>[iv n]) (zas (List.map imOf cur) l (List.map imOf cur).length)).length:Int)) ps zaG),sb h3,sqx (AllLen [[iv (↑(List.map (fun n=>[iv n]) (zas (List.map imOf cur) l (List.map imOf cur).length)).length:Int)]] 1∧ch.length=(List.map (fun n=>[iv n]) ch).length∧(((List.map (fun n=>[iv n]) ch).length+[[iv (↑(List.map (fun n=>[iv n]) (zas (List.map imOf cur) l (List.map imOf cur).length)).length:Int)]].length) * 8).le 140737488355328),se (zlk (List.map imOf cur) l ps zaG zaG),sqx (OsEl (List.map Tg.cells cur++rest) n 0 cur.length (↑(zbm (List.map imOf cur) l ps):Int)),sx (.el ((cur.getD (pl cur l ps) zbk).cells)) hoe,sl [2,1] (zcY N (cur.getD (pl cur l ps) zbk) s old nw tb hN zaG zaG zaG zaG zaG zaG),sb h6,si (zcG (t:=(↑(zbm (List.map imOf cur) l ps):Int)+1) (n:=zbm (List.map imOf cur) l ps+1) (by omega) (by omega)),sl [3] c7] [1,6,18,19,20] 5 kr (zan (show ([(1,AV.sl (List.map Lk.cells l)),(6,AV.sl (List.map (fun n=>[iv n]) (zbf (↑(List.map (fun n=>[iv n]) (zas (List.map imOf cur) l (List.map imOf cur).length)).length:Int) ps).snd)),(18,AV.p 2 0),(19,AV.os 3 n 0 (cur.eraseIdx (zbm (List.map imOf cur) l ps)).length),(20,AV.own 4 (List.map (fun n=>[iv n]) ch++[[iv (↑(List.map (fun n=>[iv n]) (zas (List.map imOf cur) l (List.map imOf cur).length)).length:Int)]]).length)]:TS)=[(1,AV.sl (List.map Lk.cells l)),(6,AV.sl (List.map (fun n=>[iv n]) (zbf (↑(List.map (fun n=>[iv n]) (zas (List.map imOf cur) l (List.map imOf cur).length)).length:Int) ps).snd)),(18,AV.p 2 0),(19,AV.os 3 n 0 (cur.eraseIdx (zbm (List.map imOf cur) l ps)).length),(20,AV.own 4 (ch++[(↑(List.map (fun n=>[iv n]) (zas (List.map imOf cur) l (List.map imOf cur).length)).length:Int)]).length)] by first|rfl|(simp;done)|(simp [X.cells,Qy.cells,V.cells,Col.cells,Rw.cells,Tb.cells,Fr.cells,Sch.cells,Tp.cells,Pl.cells,xCol,xLit,xBin,xNeg,Im.cells,Lk.cells];done)) (show ([Blk.box [sv s.name,AV.sl (List.map Col.cells s.cols)],Blk.row Ty.Value (List.map V.cells (zb9 N (cur.getD (pl cur l ps) zbk) s old nw tb).snd) false,Blk.box [sv s.name,AV.sl (List.map Col.cells s.cols),AV.sl (List.map V.cells old),AV.own 1 (zb9 N (cur.getD (pl cur l ps) zbk) s old nw tb).snd.length,AV.sl (List.map Tb.cells tb)],Blk.row Ty.Trigger (List.map Tg.cells (cur.eraseIdx (zbm (List.map imOf cur) l ps))++rest7) false,Blk.row Ty.int (List.map (fun n=>[iv n]) ch++[[iv (↑(List.map (fun n=>[iv n]) (zas (List.map imOf cur) l (List.map imOf cur).length)).length:Int)]]) false]:Heap)=[Blk.box [sv s.name,AV.sl (List.map Col.cells s.cols)],Blk.row Ty.Value (List.map V.cells (zb9 N (cur.getD (pl cur l ps) zbk) s old nw tb).snd) false,Blk.box [sv s.name,AV.sl (List.map Col.cells s.cols),AV.sl (List.map V.cells old),AV.own 1 (zb9 N (cur.getD (pl cur l ps) zbk) s old nw tb).snd.length,AV.sl (List.map Tb.cells tb)],Blk.row Ty.Trigger (List.map Tg.cells (cur.eraseIdx (zbm (List.map imOf cur) l ps))++rest7) false,Blk.row Ty.int (List.map (fun n=>[iv n]) (ch++[(↑(List.map (fun n=>[iv n]) (zas (List.map imOf cur) l (List.map imOf cur).length)).length:Int)])) false] by first|rfl|(simp;done)|(simp [X.cells,Qy.cells,V.cells,Col.cells,Rw.cells,Tb.cells,Fr.cells,Sch.cells,Tp.cells,Pl.cells,xCol,xLit,xBin,xNeg,Im.cells,Lk.cells];done)) (ih (cur.eraseIdx (zbm (List.map imOf cur) l ps)) rest7 n ((zb9 N (cur.getD (pl cur l ps) zbk) s old nw tb).snd) ((zbf (↑(List.map (fun n=>[iv n]) (zas (List.map imOf cur) l (List.map imOf cur).length)).length:Int) ps).snd) (ch++[(↑(List.map (fun n=>[iv n]) (zas (List.map imOf cur) l (List.map imOf cur).length)).length:Int)]) (by omega) zcX zcX zcX zcX zcX zcX zcX zcX))))))
    ·exact wkl (c':=(Cfg.mk (zbv l s old tb cur rest n nw ps ch 0 []).n (zbv l s old tb cur rest n nw ps ch 0 []).todo [(1,AV.sl (List.map Lk.cells l)),(6,AV.sl (List.map (fun n=>[iv n]) ps)),(18,AV.p 2 0),(19,AV.os 3 n 0 cur.length),(20,AV.own 4 ch.length),(21,AV.nl),(41,AV.os 3 n 0 cur.length),(42,iv (↑(cur.length - 0):Int)),(43,iv 0)] [Blk.box [sv s.name,AV.sl (List.map Col.cells s.cols)],Blk.row Ty.Value (List.map V.cells nw) false,Blk.box [sv s.name,AV.sl (List.map Col.cells s.cols),AV.sl (List.map V.cells old),AV.own 1 nw.length,AV.sl (List.map Tb.cells tb)],Blk.row Ty.Trigger (List.map Tg.cells cur++rest) false,Blk.row Ty.int (List.map (fun n=>[iv n]) ch) false])) [sqx (n=(List.map Tg.cells cur++rest).length),sb hcl,sqx (n=(List.map Tg.cells cur++rest).length)] [1,6,18,19,20,21,41,42,43] 5 kr (zbb (c':=zbv l s old tb cur rest n nw ps ch 0 []) 21 Ty.Item [1,6,18,19,20,21,41,42,43] 6 kr kr kr (g1 _ (zab (wkr [sb q1,skx ((List.map imOf cur).length=(List.map Im.cells (List.map imOf cur)).length∧True∧True) [] (zcT (List.map imOf cur) l zaG zaG),sb h2,sc (zeg ((↑(List.map (fun n=>[iv n]) (zas (List.map imOf cur) l (List.map imOf cur).length)).length:Int)) ps zaG),sb h3,sqx (AllLen [[iv (↑(List.map (fun n=>[iv n]) (zas (List.map imOf cur) l (List.map imOf cur).length)).length:Int)]] 1∧ch.length=(List.map (fun n=>[iv n]) ch).length∧(((List.map (fun n=>[iv n]) ch).length+[[iv (↑(List.map (fun n=>[iv n]) (zas (List.map imOf cur) l (List.map imOf cur).length)).length:Int)]].length) * 8).le 140737488355328),se (zlk (List.map imOf cur) l ps zaG zaG),sqx (OsEl (List.map Tg.cells cur++rest) n 0 cur.length (↑(zbm (List.map imOf cur) l ps):Int)),sx (.el ((cur.getD (pl cur l ps) zbk).cells)) hoe,sl [2,1] (zcY N (cur.getD (pl cur l ps) zbk) s old nw tb hN zaG zaG zaG zaG zaG zaG),sb h6] kr))))
  ·exact wkl (c':=(Cfg.mk (zbv l s old tb cur rest n nw ps ch 0 []).n (zbv l s old tb cur rest n nw ps ch 0 []).todo [(1,AV.sl (List.map Lk.cells l)),(6,AV.sl (List.map (fun n=>[iv n]) ps)),(18,AV.p 2 0),(19,AV.os 3 n 0 cur.length),(20,AV.own 4 ch.length),(21,AV.nl),(41,AV.os 3 n 0 cur.length),(42,iv (↑(cur.length - 0):Int)),(43,iv 0)] [Blk.box [sv s.name,AV.sl (List.map Col.cells s.cols)],Blk.row Ty.Value (List.map V.cells nw) false,Blk.box [sv s.name,AV.sl (List.map Col.cells s.cols),AV.sl (List.map V.cells old),AV.own 1 nw.length,AV.sl (List.map Tb.cells tb)],Blk.row Ty.Trigger (List.map Tg.cells cur++rest) false,Blk.row Ty.int (List.map (fun n=>[iv n]) ch) false])) [sqx (n=(List.map Tg.cells cur++rest).length),sb hcl,sqx (n=(List.map Tg.cells cur++rest).length)] [1,6,18,19,20,21,41,42,43] 5 kr (zbb (c':=zbv l s old tb cur rest n nw ps ch 0 []) 21 Ty.Item [1,6,18,19,20,21,41,42,43] 6 kr kr kr (g1 _ (zab (wkr [sb q1,skx ((List.map imOf cur).length=(List.map Im.cells (List.map imOf cur)).length∧True∧True) [] (zcT (List.map imOf cur) l zaG zaG),sb h2] kr))))
def bRow (N:Nat) (ts:List Tg) (l:List Lk) (s:Sch) (old new:List V) (tb:List Tb) (ps:List Int):(List V) × (List Int) × (List Int) × Int :=
 brow N l s old tb ts.length ts new ps ([])
theorem zj7 (N:Nat) (ts:List Tg) (l:List Lk) (s:Sch) (old new:List V) (tb:List Tb) (ps:List Int) (hN:N≤900000) (hl:zac l) (hs:Few s.cols) (hss:zac s.cols) (ho:NwOk old) (hto:TbOk tb) (htg:TbG tb) (hts:zac ts) (hT:∀ t∈ts,TrOk N t) (hw0:NwOk new) (hws:zac new) (hp:Room ps):zaa E0 S.before_Row [.sl (ts.map Tg.cells),.sl (l.map Lk.cells),s.av,vsl old,vsl new,tsl tb,isl ps] [] (.tup [vsl (bRow N ts l s old new tb ps).1,isl (bRow N ts l s old new tb ps).2.1,isl (bRow N ts l s old new tb ps).2.2.1,iv (bRow N ts l s old new tb ps).2.2.2]) []:=by
 unfold bRow
 exact wkc At.before_Row (c':=(Cfg.mk (zc1 N l s old tb 0 ts [] ts.length new ps []).n (zc1 N l s old tb 0 ts [] ts.length new ps []).todo [(1,AV.sl (List.map Lk.cells l)),(6,AV.own 4 ps.length),(18,AV.p 2 0),(19,AV.own 3 ts.length),(20,AV.nl)] [Blk.box [sv s.name,AV.sl (List.map Col.cells s.cols)],Blk.row Ty.Value (List.map V.cells new) false,Blk.box [sv s.name,AV.sl (List.map Col.cells s.cols),AV.sl (List.map V.cells old),AV.own 1 new.length,AV.sl (List.map Tb.cells tb)],Blk.row Ty.Trigger (List.map Tg.cells ts) false,Blk.row Ty.int (List.map za0 ps) false])) [sd [(3,[sc (zap new zaG)])],sc (zhI ts zaG),sc (zaK ps zaG)] [1,6,18,19,20] 5 kr (zlK (c':=(Cfg.mk (zc1 N l s old tb 0 ts [] ts.length new ps []).n (zc1 N l s old tb 0 ts [] ts.length new ps []).todo [(1,AV.sl (List.map Lk.cells l)),(6,AV.sl (List.map za0 ps)),(18,AV.p 2 0),(19,AV.own 3 ts.length),(20,AV.nl)] [Blk.box [sv s.name,AV.sl (List.map Col.cells s.cols)],Blk.row Ty.Value (List.map V.cells new) false,Blk.box [sv s.name,AV.sl (List.map Col.cells s.cols),AV.sl (List.map V.cells old),AV.own 1 new.length,AV.sl (List.map Tb.cells tb)],Blk.row Ty.Trigger (List.map Tg.cells ts) false])) (v:=AV.own 4 ps.length) (q:=ps.length=(List.map za0 ps).length) 6 [1,6,18,19,20] 4 kr kr owed kr kr (zmK (c':=(Cfg.mk (zc1 N l s old tb 0 ts [] ts.length new ps []).n (zc1 N l s old tb 0 ts [] ts.length new ps []).todo [(1,AV.sl (List.map Lk.cells l)),(6,AV.sl (List.map za0 ps)),(18,AV.p 2 0),(19,AV.os 3 ts.length 0 ts.length),(20,AV.nl)] [Blk.box [sv s.name,AV.sl (List.map Col.cells s.cols)],Blk.row Ty.Value (List.map V.cells new) false,Blk.box [sv s.name,AV.sl (List.map Col.cells s.cols),AV.sl (List.map V.cells old),AV.own 1 new.length,AV.sl (List.map Tb.cells tb)],Blk.row Ty.Trigger (List.map Tg.cells ts) false])) 19 3 ts.length [1,6,18,19,20] 4 kr kr kr (zbb (c':=(Cfg.mk (zc1 N l s old tb 0 ts [] ts.length new ps []).n (zc1 N l s old tb 0 ts [] ts.length new ps []).todo [(1,AV.sl (List.map Lk.cells l)),(6,AV.sl (List.map za0 ps)),(18,AV.p 2 0),(19,AV.os 3 ts.length 0 ts.length),(20,AV.own 4 0)] [Blk.box [sv s.name,AV.sl (List.map Col.cells s.cols)],Blk.row Ty.Value (List.map V.cells new) false,Blk.box [sv s.name,AV.sl (List.map Col.cells s.cols),AV.sl (List.map V.cells old),AV.own 1 new.length,AV.sl (List.map Tb.cells tb)],Blk.row Ty.Trigger (List.map Tg.cells ts) false,Blk.row Ty.int [] false])) 20 Ty.int [1,6,18,19,20] 5 kr kr kr (zan (show ([(1,AV.sl (List.map Lk.cells l)),(6,AV.sl (List.map za0 ps)),(18,AV.p 2 0),(19,AV.os 3 ts.length 0 ts.length),(20,AV.own 4 0)]:TS)=[(1,AV.sl (List.map Lk.cells l)),(6,AV.sl (List.map (fun n=>[iv n]) ps)),(18,AV.p 2 0),(19,AV.os 3 ts.length 0 ts.length),(20,AV.own 4 0)] by first|rfl|(simp;done)|(simp [X.cells,Qy.cells,V.cells,Col.cells,Rw.cells,Tb.cells,Fr.cells,Sch.cells,Tp.cells,Pl.cells,xCol,xLit,xBin,xNeg,Im.cells,Lk.cells];done)) (show ([Blk.box [sv s.name,AV.sl (List.map Col.cells s.cols)],Blk.row Ty.Value (List.map V.cells new) false,Blk.box [sv s.name,AV.sl (List.map Col.cells s.cols),AV.sl (List.map V.cells old),AV.own 1 new.length,AV.sl (List.map Tb.cells tb)],Blk.row Ty.Trigger (List.map Tg.cells ts) false,Blk.row Ty.int [] false]:Heap)=[Blk.box [sv s.name,AV.sl (List.map Col.cells s.cols)],Blk.row Ty.Value (List.map V.cells new) false,Blk.box [sv s.name,AV.sl (List.map Col.cells s.cols),AV.sl (List.map V.cells old),AV.own 1 new.length,AV.sl (List.map Tb.cells tb)],Blk.row Ty.Trigger (List.map Tg.cells ts++[]) false,Blk.row Ty.int [] false] by first|rfl|(simp;done)|(simp [X.cells,Qy.cells,V.cells,Col.cells,Rw.cells,Tb.cells,Fr.cells,Sch.cells,Tp.cells,Pl.cells,xCol,xLit,xBin,xNeg,Im.cells,Lk.cells];done)) (zqM N l s old tb hN hl hs ho hto htg ts.length ts ([]) ts.length new ps ([]) hts rfl (by simp) (by simp) hts hT hw0 hp (by simpa using hts))))))
end Go.AM
namespace Go.AM
set_option maxRecDepth 100000
set_option maxHeartbeats 1000000
set_option linter.unusedSimpArgs false
set_option linter.unusedVariables false
theorem zfE {p:Prop} (h:p:=by first|assumption|omega|(simp;done)|(simp;omega)):p:=h
abbrev zaX (s:Str):List AV:=[sv s]
theorem zsA (l:List Str) (hl:zac l):Good E0 B.slices_Clone_string [] (zbs (zcF B.slices_Clone_string [.sl (l.map zaX)] [] 0) false) (fun r h=>r=.own 0 l.length∧h=[.row Ty.string (l.map zaX) false]) :=
 zcm E0ok mix0 3000 (y:=AV.own 0 (List.map zaX l).length) (H:=[Blk.row Ty.string (List.map zaX l) false]) [sb (rfl:false=false),sqx (AllLen (List.map zaX l) 1∧((List.map zaX l).length * 16).le 140737488355328)] kr (⟨by simp,rfl⟩)
theorem zsl:Good E0 B.slices_Clone_string [] (zbs (zcF B.slices_Clone_string [.sl []] [] 0) true) (fun r h=>r=.nl∧h=[]) :=
 zcm E0ok mix0 3000 (y:=AV.nl) (H:=[]) [sb (rfl:true=true)] kr (⟨rfl,rfl⟩)
theorem zc5 (l:List Str) (hl:zac l):zaa E0 S.slices_Clone_string [.sl (l.map zaX)] [] (.own 0 l.length) [.row Ty.string (l.map zaX) false]:=by
 refine zaN At.slices_Clone_string rfl kr (Nat.le_of_ble_eq_true kr) (zcb E0ok mix0 3000 [] (List.range 40) 0 (c':=zcF B.slices_Clone_string [.sl (l.map zaX)] [] 0) kr kr (zei E0ok (xs:=l.map zaX) (e:=true) kr fun b hb=>?_))
 cases b with
 | false=>exact zsA l hl
 | true =>
  cases l with
  | nil=>exact zcv Ty.string zsl ⟨rfl,rfl⟩
  | cons x r=>exact absurd (hb (by simp)) (by simp)
theorem zuT (l:List Rk) (hl:zac l):Good E0 B.slices_Clone_Rank [] (zbs (zcF B.slices_Clone_Rank [.sl (l.map Rk.cells)] [] 0) false) (fun r h=>r=.own 0 l.length∧h=[.row Ty.Rank (l.map Rk.cells) false]) :=
 zcm E0ok mix0 3000 (y:=AV.own 0 (List.map Rk.cells l).length) (H:=[Blk.row Ty.Rank (List.map Rk.cells l) false]) [sb (rfl:false=false),sqx (AllLen (List.map Rk.cells l) 4∧((List.map Rk.cells l).length * 48).le 140737488355328)] kr (⟨by simp,rfl⟩)
theorem zu9:Good E0 B.slices_Clone_Rank [] (zbs (zcF B.slices_Clone_Rank [.sl []] [] 0) true) (fun r h=>r=.nl∧h=[]) :=
 zcm E0ok mix0 3000 (y:=AV.nl) (H:=[]) [sb (rfl:true=true)] kr (⟨rfl,rfl⟩)
theorem zjG (l:List Rk) (hl:zac l):zaa E0 S.slices_Clone_Rank [.sl (l.map Rk.cells)] [] (.own 0 l.length) [.row Ty.Rank (l.map Rk.cells) false]:=by
 refine zaN At.slices_Clone_Rank rfl kr (Nat.le_of_ble_eq_true kr) (zcb E0ok mix0 3000 [] (List.range 40) 0 (c':=zcF B.slices_Clone_Rank [.sl (l.map Rk.cells)] [] 0) kr kr (zei E0ok (xs:=l.map Rk.cells) (e:=true) kr fun b hb=>?_))
 cases b with
 | false=>exact zuT l hl
 | true =>
  cases l with
  | nil=>exact zcv Ty.Rank zu9 ⟨rfl,rfl⟩
  | cons x r=>exact absurd (hb (by simp)) (by simp)
@[simp] theorem cellsQ_app (a b:List Qy):zag (a++b)=zag a++zag b:=by simp [zdM]
noncomputable def zjm (l:List X) (i:Nat) (out:List X):Cfg:=zal B.deep_list_api_Expr 0 [(1,.fn S.deep_Expr []),(5,.own 0 out.length),(8,.sl (zad l)),(9,iv ((zad l).length:Nat)),(10,iv (i:Nat))] [.row Ty.Expr (zad out) false]
theorem zeV (l:List X) (hl:zac l) (hf:∀ x∈l,zaa E0 S.deep_Expr [x.av] [] x.av []) (i:Nat) (out:List X) (hi:i≤(l).length) (hI:out=l.take i):∃ (out':List X),(out'=l.take (l).length)∧(decide ((((l).length:Nat):Int) < (((zad l).length:Nat):Int))=false)∧∀ R,Good E0 B.deep_list_api_Expr [] (zjm l (l).length out') R→Good E0 B.deep_list_api_Expr [] (zjm l i out) R:=by
 obtain ⟨kk,hk⟩:∃ kk,i+kk=(l).length:=⟨(l).length - i,by omega⟩
 induction kk generalizing i out with
 | zero =>
  have e0:i=(l).length:=by omega
  subst e0
  exact ⟨out,hI,by simp,fun R hg=>hg⟩
 | succ kk ih =>
  obtain ⟨x,hx⟩:=zav (l:=l) (i:=i) (by omega)
  have h0:decide (((i:Nat):Int) < (((zad l).length:Nat):Int))=true:=by simp;omega
  have hw:IntKind.i64.wrap (((i:Nat):Int)+1)=((i+1:Nat):Int):=zak i (by first|omega|(simp only [zac,Few] at *;omega))
  have hfx:=hf x (List.mem_of_getElem? hx)
  have ho:out.length≤1000000000:=by rw [hI,List.length_take];simp only [zac] at hl;omega
  obtain ⟨outZ,qZ,xZ,gZ⟩:=ih (i+1) (out++[x]) (by omega) (by rw [List.take_add_one,hx,hI];rfl) (by omega);exact ⟨outZ,qZ,xZ,fun R hg=>zab (wkl (c':=(Cfg.mk (zjm l (i+1) (out++[x])).n (zjm l (i+1) (out++[x])).todo [(1,AV.fn S.deep_Expr []),(5,AV.own 0 (zad out++[[iv x.kind,iv x.op,bv x.not,iv x.val.kind,iv x.val.int,sv x.val.text,sv x.table,sv x.name,AV.sl (zad x.args),AV.sl (zag x.sub)]]).length),(8,AV.sl (zad l)),(9,iv (↑(zad l).length:Int)),(10,iv (↑(i+1):Int))] [Blk.row Ty.Expr (zad out++[[iv x.kind,iv x.op,bv x.not,iv x.val.kind,iv x.val.int,sv x.val.text,sv x.table,sv x.name,AV.sl (zad x.args),AV.sl (zag x.sub)]]) false])) [sb h0,se (zcC hx),sc hfx,sqx (AllLen [[iv x.kind,iv x.op,bv x.not,iv x.val.kind,iv x.val.int,sv x.val.text,sv x.table,sv x.name,AV.sl (zad x.args),AV.sl (zag x.sub)]] 10∧out.length=(zad out).length∧(((zad out).length+[[iv x.kind,iv x.op,bv x.not,iv x.val.kind,iv x.val.int,sv x.val.text,sv x.table,sv x.name,AV.sl (zad x.args),AV.sl (zag x.sub)]].length) * 136).le 140737488355328),si hw] [1,5,8,9,10] 1 kr (zan (show ([(1,AV.fn S.deep_Expr []),(5,AV.own 0 (zad out++[[iv x.kind,iv x.op,bv x.not,iv x.val.kind,iv x.val.int,sv x.val.text,sv x.table,sv x.name,AV.sl (zad x.args),AV.sl (zag x.sub)]]).length),(8,AV.sl (zad l)),(9,iv (↑(zad l).length:Int)),(10,iv (↑(i+1):Int))]:TS)=[(1,AV.fn S.deep_Expr []),(5,AV.own 0 (out++[x]).length),(8,AV.sl (zad l)),(9,iv (↑(zad l).length:Int)),(10,iv (↑(i+1):Int))] by first|rfl|(simp;done)|(simp [X.cells,Qy.cells,V.cells,Col.cells,Rw.cells,Tb.cells,Fr.cells,Sch.cells,Tp.cells,Pl.cells,xCol,xLit,xBin,xNeg,Im.cells,Lk.cells];done)) (show ([Blk.row Ty.Expr (zad out++[[iv x.kind,iv x.op,bv x.not,iv x.val.kind,iv x.val.int,sv x.val.text,sv x.table,sv x.name,AV.sl (zad x.args),AV.sl (zag x.sub)]]) false]:Heap)=[Blk.row Ty.Expr (zad (out++[x])) false] by first|rfl|(simp;done)|(simp [X.cells,Qy.cells,V.cells,Col.cells,Rw.cells,Tb.cells,Fr.cells,Sch.cells,Tp.cells,Pl.cells,xCol,xLit,xBin,xNeg,Im.cells,Lk.cells];done)) (gZ R hg)))⟩
theorem zi8 (l:List X) (hl:zac l) (hf:∀ x∈l,zaa E0 S.deep_Expr [x.av] [] x.av []):∃ (r:List X),r=l∧zaa E0 S.deep_list_api_Expr [.sl (zad l),.fn S.deep_Expr []] [] (.sl (zad r)) []:=by
 obtain ⟨out1,q1,q1_1,g1⟩:=zeV l (by first|assumption|rfl|omega) (by first|assumption|rfl|omega) 0 ([]) (by first|assumption|rfl|omega) (by first|assumption|rfl|omega)
 exact ⟨out1,by first|assumption|(rw [List.take_length] at *;assumption),wkc At.deep_list_api_Expr (c':=(Cfg.mk (zjm l 0 []).n (zjm l 0 []).todo [(1,AV.fn S.deep_Expr []),(5,AV.nl),(8,AV.sl (zad l)),(9,iv (↑(zad l).length:Int)),(10,iv 0)] [])) [] [1,5,8,9,10] 0 kr (zbb (c':=zjm l 0 []) 5 Ty.Expr [1,5,8,9,10] 1 kr kr kr (g1 _ (zab (wkr [sqx (out1.length=(zad out1).length),sb q1_1] kr))))⟩
theorem ze7 (l:List X) (hl:zac l) (hf:∀ x∈l,zaa E0 S.deep_Expr [x.av] [] x.av []):zaa E0 S.deep_list_api_Expr [.sl (zad l),.fn S.deep_Expr []] [] (.sl (zad l)) []:=by
 obtain ⟨r,rfl,h⟩:=zi8 l hl hf
 exact h
noncomputable def ziM (l:List Qy) (i:Nat) (out:List Qy):Cfg:=zal B.deep_list_api_Query 0 [(1,.fn S.deep_Query []),(5,.own 0 out.length),(8,.sl (zag l)),(9,iv ((zag l).length:Nat)),(10,iv (i:Nat))] [.row Ty.Query (zag out) false]
theorem zex (l:List Qy) (hl:zac l) (hf:∀ x∈l,zaa E0 S.deep_Query [x.av] [] x.av []) (i:Nat) (out:List Qy) (hi:i≤(l).length) (hI:out=l.take i):∃ (out':List Qy),(out'=l.take (l).length)∧(decide ((((l).length:Nat):Int) < (((zag l).length:Nat):Int))=false)∧∀ R,Good E0 B.deep_list_api_Query [] (ziM l (l).length out') R→Good E0 B.deep_list_api_Query [] (ziM l i out) R:=by
 obtain ⟨kk,hk⟩:∃ kk,i+kk=(l).length:=⟨(l).length - i,by omega⟩
 induction kk generalizing i out with
 | zero =>
  have e0:i=(l).length:=by omega
  subst e0
  exact ⟨out,hI,by simp,fun R hg=>hg⟩
 | succ kk ih =>
  obtain ⟨x,hx⟩:=zav (l:=l) (i:=i) (by omega)
  have h0:decide (((i:Nat):Int) < (((zag l).length:Nat):Int))=true:=by simp;omega
  have hw:IntKind.i64.wrap (((i:Nat):Int)+1)=((i+1:Nat):Int):=zak i (by first|omega|(simp only [zac,Few] at *;omega))
  have hfx:=hf x (List.mem_of_getElem? hx)
  have ho:out.length≤1000000000:=by rw [hI,List.length_take];simp only [zac] at hl;omega
  obtain ⟨outZ,qZ,xZ,gZ⟩:=ih (i+1) (out++[x]) (by omega) (by rw [List.take_add_one,hx,hI];rfl) (by omega);exact ⟨outZ,qZ,xZ,fun R hg=>zab (wkl (c':=(Cfg.mk (ziM l (i+1) (out++[x])).n (ziM l (i+1) (out++[x])).todo [(1,AV.fn S.deep_Query []),(5,AV.own 0 (zag out++[[bv x.star,AV.sl (zad x.items),sv x.frm,AV.sl (zad x.wh)]]).length),(8,AV.sl (zag l)),(9,iv (↑(zag l).length:Int)),(10,iv (↑(i+1):Int))] [Blk.row Ty.Query (zag out++[[bv x.star,AV.sl (zad x.items),sv x.frm,AV.sl (zad x.wh)]]) false])) [sb h0,se (zaV hx),sc hfx,sqx (AllLen [[bv x.star,AV.sl (zad x.items),sv x.frm,AV.sl (zad x.wh)]] 4∧out.length=(zag out).length∧(((zag out).length+[[bv x.star,AV.sl (zad x.items),sv x.frm,AV.sl (zad x.wh)]].length) * 72).le 140737488355328),si hw] [1,5,8,9,10] 1 kr (zan (show ([(1,AV.fn S.deep_Query []),(5,AV.own 0 (zag out++[[bv x.star,AV.sl (zad x.items),sv x.frm,AV.sl (zad x.wh)]]).length),(8,AV.sl (zag l)),(9,iv (↑(zag l).length:Int)),(10,iv (↑(i+1):Int))]:TS)=[(1,AV.fn S.deep_Query []),(5,AV.own 0 (out++[x]).length),(8,AV.sl (zag l)),(9,iv (↑(zag l).length:Int)),(10,iv (↑(i+1):Int))] by first|rfl|(simp;done)|(simp [X.cells,Qy.cells,V.cells,Col.cells,Rw.cells,Tb.cells,Fr.cells,Sch.cells,Tp.cells,Pl.cells,xCol,xLit,xBin,xNeg,Im.cells,Lk.cells];done)) (show ([Blk.row Ty.Query (zag out++[[bv x.star,AV.sl (zad x.items),sv x.frm,AV.sl (zad x.wh)]]) false]:Heap)=[Blk.row Ty.Query (zag (out++[x])) false] by first|rfl|(simp;done)|(simp [X.cells,Qy.cells,V.cells,Col.cells,Rw.cells,Tb.cells,Fr.cells,Sch.cells,Tp.cells,Pl.cells,xCol,xLit,xBin,xNeg,Im.cells,Lk.cells];done)) (gZ R hg)))⟩
theorem zis (l:List Qy) (hl:zac l) (hf:∀ x∈l,zaa E0 S.deep_Query [x.av] [] x.av []):∃ (r:List Qy),r=l∧zaa E0 S.deep_list_api_Query [.sl (zag l),.fn S.deep_Query []] [] (.sl (zag r)) []:=by
 obtain ⟨out1,q1,q1_1,g1⟩:=zex l (by first|assumption|rfl|omega) (by first|assumption|rfl|omega) 0 ([]) (by first|assumption|rfl|omega) (by first|assumption|rfl|omega)
 exact ⟨out1,by first|assumption|(rw [List.take_length] at *;assumption),wkc At.deep_list_api_Query (c':=(Cfg.mk (ziM l 0 []).n (ziM l 0 []).todo [(1,AV.fn S.deep_Query []),(5,AV.nl),(8,AV.sl (zag l)),(9,iv (↑(zag l).length:Int)),(10,iv 0)] [])) [] [1,5,8,9,10] 0 kr (zbb (c':=ziM l 0 []) 5 Ty.Query [1,5,8,9,10] 1 kr kr kr (g1 _ (zab (wkr [sqx (out1.length=(zag out1).length),sb q1_1] kr))))⟩
theorem zep (l:List Qy) (hl:zac l) (hf:∀ x∈l,zaa E0 S.deep_Query [x.av] [] x.av []):zaa E0 S.deep_list_api_Query [.sl (zag l),.fn S.deep_Query []] [] (.sl (zag l)) []:=by
 obtain ⟨r,rfl,h⟩:=zis l hl hf
 exact h
theorem zpH (l:List X) (hl:zac l) (hf:∀ x∈l,zaa E0 S.deep_Expr [x.av] [] x.av []):∃ (r:List X),r=l∧zaa E0 S.deep_Exprs [xsl l] [] (xsl r) []:=by
 exact ⟨l,by rfl,wk At.deep_Exprs [sc (ze7 l zfE zfE)] kr⟩
theorem zdH (l:List X) (hl:zac l) (hf:∀ x∈l,zaa E0 S.deep_Expr [x.av] [] x.av []):zaa E0 S.deep_Exprs [xsl l] [] (xsl l) []:=by
 obtain ⟨r,rfl,h⟩:=zpH l hl hf
 exact h
theorem zkl (q:Qy) (hl:zac q.items) (hl2:zac q.wh) (hf:∀ x∈q.items,zaa E0 S.deep_Expr [x.av] [] x.av []) (hf2:∀ x∈q.wh,zaa E0 S.deep_Expr [x.av] [] x.av []):∃ (r:Qy),r=q∧zaa E0 S.deep_Query [q.av] [] r.av []:=by
 exact ⟨q,by rfl,wk At.deep_Query [sd [(2,[sc (zdH q.items zfE zfE)]),(5,[sc (zdH q.wh zfE zfE)])]] kr⟩
theorem zre (e:X) (hl:zac e.args) (hl2:zac e.sub) (hf:∀ x∈e.args,zaa E0 S.deep_Expr [x.av] [] x.av []) (hf2:∀ x∈e.sub,zaa E0 S.deep_Query [x.av] [] x.av []):∃ (r:X),r=e∧zaa E0 S.deep_Expr [e.av] [] r.av []:=by
 exact ⟨e,by rfl,wk At.deep_Expr [sd [(2,[sc (ze7 e.args zfE zfE)]),(5,[sc (zep e.sub zfE zfE)])]] kr⟩
def XSh:Nat→X→Prop
 | 0,_=>False
 | n+1,e=>(zac e.args∧zac e.sub)∧(∀ x∈e.args,XSh n x)∧∀ q∈e.sub,(zac q.items∧zac q.wh)∧(∀ x∈q.items,XSh n x)∧∀ x∈q.wh,XSh n x
theorem XOk.sh:∀ {n:Nat} {e:X},XOk n e→XSh n e
 | 0,_,h=>h.elim
 | _+1,_,⟨_,h2,h3,h4⟩=>⟨⟨h2.1.short,h2.2.short⟩,fun x hx=>(h3 x hx).sh,fun q hq=>⟨⟨(h4 q hq).1.1.short,(h4 q hq).1.2.short⟩,fun x hx=>((h4 q hq).2.1 x hx).sh,fun x hx=>((h4 q hq).2.2 x hx).sh⟩⟩
theorem zbD:∀ (n:Nat) (e:X),XSh n e→zaa E0 S.deep_Expr [e.av] [] e.av []
 | 0,_,h=>h.elim
 | n+1,e,h=>by
  obtain ⟨h2,h3,h4⟩:=h
  obtain ⟨r,rfl,hr⟩:=zre e h2.1 h2.2 (fun x hx=>zbD n x (h3 x hx)) (fun q hq=>by
   obtain ⟨r,rfl,hr⟩:=zkl q (h4 q hq).1.1 (h4 q hq).1.2 (fun x hx=>zbD n x ((h4 q hq).2.1 x hx)) (fun x hx=>zbD n x ((h4 q hq).2.2 x hx))
   exact hr)
  exact hr
structure QW (n:Nat) (q:Qy):Prop where
 items:Few q.items
 wh:Few q.wh
 hi:∀ x∈q.items,XOk n x
 hw:∀ x∈q.wh,XOk n x
structure QSh (n:Nat) (q:Qy):Prop where
 items:zac q.items
 wh:zac q.wh
 hi:∀ x∈q.items,XSh n x
 hw:∀ x∈q.wh,XSh n x
theorem QW.sh {n:Nat} {q:Qy} (h:QW n q):QSh n q:=⟨zaP h.items,zaP h.wh,fun x hx=>(h.hi x hx).sh,fun x hx=>(h.hw x hx).sh⟩
theorem zmo (n:Nat) (q:Qy) (h:QSh n q):zaa E0 S.deep_Query [q.av] [] q.av []:=by
 obtain ⟨r,rfl,hr⟩:=zkl q h.items h.wh (fun x hx=>zbD n x (h.hi x hx)) (fun x hx=>zbD n x (h.hw x hx))
 exact hr
end Go.AM
namespace Go.AM
set_option maxRecDepth 100000
set_option maxHeartbeats 1000000
set_option linter.unusedSimpArgs false
set_option linter.unusedVariables false
theorem zhj {p:Prop} (h:p:=by first|assumption|omega|(simp;done)|(simp;omega)):p:=h
abbrev zaE (r:List X):List AV:=[.sl (zad r)]
theorem zsN (s:Se) (hf:zaa E0 S.deep_Expr [s.ex.av] [] s.ex.av []):∃ (r:Se),r=s∧zaa E0 S.deep_set [.agg s.cells] [] (.agg r.cells) []:=by
 exact ⟨s,by rfl,wk At.deep_set [sd [(4,[sc hf])]] kr⟩
theorem zsW (n:Nat) (s:Se) (h:XSh n s.ex):zaa E0 S.deep_set [.agg s.cells] [] (.agg s.cells) []:=by
 obtain ⟨r,rfl,hr⟩:=zsN s (zbD n s.ex h)
 exact hr
noncomputable def zjl (l:List (List X)) (i:Nat) (out:List (List X)):Cfg:=zal B.deep_list_Lapi_Expr 0 [(1,.fn S.deep_Exprs []),(5,.own 0 out.length),(8,.sl ((l).map zaE)),(9,iv (((l).map zaE).length:Nat)),(10,iv (i:Nat))] [.row Ty.LExpr ((out).map zaE) false]
theorem zez (l:List (List X)) (hl:zac l) (hf:∀ x∈l,zaa E0 S.deep_Exprs [xsl x] [] (xsl x) []) (i:Nat) (out:List (List X)) (hi:i≤(l).length) (hI:out=l.take i):∃ (out':List (List X)),(out'=l.take (l).length)∧(decide ((((l).length:Nat):Int) < ((((l).map zaE).length:Nat):Int))=false)∧∀ R,Good E0 B.deep_list_Lapi_Expr [] (zjl l (l).length out') R→Good E0 B.deep_list_Lapi_Expr [] (zjl l i out) R:=by
 obtain ⟨kk,hk⟩:∃ kk,i+kk=(l).length:=⟨(l).length - i,by omega⟩
 induction kk generalizing i out with
 | zero =>
  have e0:i=(l).length:=by omega
  subst e0
  exact ⟨out,hI,by simp,fun R hg=>hg⟩
 | succ kk ih =>
  obtain ⟨x,hx⟩:=zav (l:=l) (i:=i) (by omega)
  have h0:decide (((i:Nat):Int) < ((((l).map zaE).length:Nat):Int))=true:=by simp;omega
  have hw:IntKind.i64.wrap (((i:Nat):Int)+1)=((i+1:Nat):Int):=zak i (by first|omega|(simp only [zac,Few] at *;omega))
  have hfx:=hf x (List.mem_of_getElem? hx)
  have ho:out.length≤1000000000:=by rw [hI,List.length_take];simp only [zac] at hl;omega
  obtain ⟨outZ,qZ,xZ,gZ⟩:=ih (i+1) (out++[x]) (by omega) (by rw [List.take_add_one,hx,hI];rfl) (by omega);exact ⟨outZ,qZ,xZ,fun R hg=>zab (wkl (c':=(Cfg.mk (zjl l (i+1) (out++[x])).n (zjl l (i+1) (out++[x])).todo [(1,AV.fn S.deep_Exprs []),(5,AV.own 0 (List.map zaE out++[[AV.sl (zad x)]]).length),(8,AV.sl (List.map zaE l)),(9,iv (↑(List.map zaE l).length:Int)),(10,iv (↑(i+1):Int))] [Blk.row Ty.LExpr (List.map zaE out++[[AV.sl (zad x)]]) false])) [sb h0,se (zaf zaE hx rfl),sc hfx,sqx (AllLen [[AV.sl (zad x)]] 1∧out.length=(List.map zaE out).length∧(((List.map zaE out).length+[[AV.sl (zad x)]].length) * 24).le 140737488355328),si hw] [1,5,8,9,10] 1 kr (zan (show ([(1,AV.fn S.deep_Exprs []),(5,AV.own 0 (List.map zaE out++[[AV.sl (zad x)]]).length),(8,AV.sl (List.map zaE l)),(9,iv (↑(List.map zaE l).length:Int)),(10,iv (↑(i+1):Int))]:TS)=[(1,AV.fn S.deep_Exprs []),(5,AV.own 0 (out++[x]).length),(8,AV.sl (List.map zaE l)),(9,iv (↑(List.map zaE l).length:Int)),(10,iv (↑(i+1):Int))] by first|rfl|(simp;done)|(simp [X.cells,Qy.cells,V.cells,Col.cells,Rw.cells,Tb.cells,Fr.cells,Sch.cells,Tp.cells,Pl.cells,xCol,xLit,xBin,xNeg,Im.cells,Lk.cells,Ac.cells,Se.cells,Tg.cells];done)) (show ([Blk.row Ty.LExpr (List.map zaE out++[[AV.sl (zad x)]]) false]:Heap)=[Blk.row Ty.LExpr (List.map zaE (out++[x])) false] by first|rfl|(simp;done)|(simp [X.cells,Qy.cells,V.cells,Col.cells,Rw.cells,Tb.cells,Fr.cells,Sch.cells,Tp.cells,Pl.cells,xCol,xLit,xBin,xNeg,Im.cells,Lk.cells,Ac.cells,Se.cells,Tg.cells];done)) (gZ R hg)))⟩
theorem zih (l:List (List X)) (hl:zac l) (hf:∀ x∈l,zaa E0 S.deep_Exprs [xsl x] [] (xsl x) []):∃ (r:List (List X)),r=l∧zaa E0 S.deep_list_Lapi_Expr [.sl ((l).map zaE),.fn S.deep_Exprs []] [] (.sl ((r).map zaE)) []:=by
 obtain ⟨out1,q1,q1_1,g1⟩:=zez l (by first|assumption|rfl|omega) (by first|assumption|rfl|omega) 0 ([]) (by first|assumption|rfl|omega) (by first|assumption|rfl|omega)
 exact ⟨out1,by first|assumption|(rw [List.take_length] at *;assumption),wkc At.deep_list_Lapi_Expr (c':=(Cfg.mk (zjl l 0 []).n (zjl l 0 []).todo [(1,AV.fn S.deep_Exprs []),(5,AV.nl),(8,AV.sl (List.map zaE l)),(9,iv (↑(List.map zaE l).length:Int)),(10,iv 0)] [])) [] [1,5,8,9,10] 0 kr (zbb (c':=zjl l 0 []) 5 Ty.LExpr [1,5,8,9,10] 1 kr kr kr (g1 _ (zab (wkr [sqx (out1.length=(List.map zaE out1).length),sb q1_1] kr))))⟩
theorem ziB (l:List (List X)) (hl:zac l) (hf:∀ x∈l,zaa E0 S.deep_Exprs [xsl x] [] (xsl x) []):zaa E0 S.deep_list_Lapi_Expr [.sl ((l).map zaE),.fn S.deep_Exprs []] [] (.sl ((l).map zaE)) []:=by
 obtain ⟨r,rfl,h⟩:=zih l hl hf
 exact h
noncomputable def zjq (l:List Se) (i:Nat) (out:List Se):Cfg:=zal B.deep_list_api_Set 0 [(1,.fn S.deep_set []),(5,.own 0 out.length),(8,.sl ((l).map Se.cells)),(9,iv (((l).map Se.cells).length:Nat)),(10,iv (i:Nat))] [.row Ty.Set ((out).map Se.cells) false]
theorem zff (l:List Se) (hl:zac l) (hf:∀ x∈l,zaa E0 S.deep_set [.agg x.cells] [] (.agg x.cells) []) (i:Nat) (out:List Se) (hi:i≤(l).length) (hI:out=l.take i):∃ (out':List Se),(out'=l.take (l).length)∧(decide ((((l).length:Nat):Int) < ((((l).map Se.cells).length:Nat):Int))=false)∧∀ R,Good E0 B.deep_list_api_Set [] (zjq l (l).length out') R→Good E0 B.deep_list_api_Set [] (zjq l i out) R:=by
 obtain ⟨kk,hk⟩:∃ kk,i+kk=(l).length:=⟨(l).length - i,by omega⟩
 induction kk generalizing i out with
 | zero =>
  have e0:i=(l).length:=by omega
  subst e0
  exact ⟨out,hI,by simp,fun R hg=>hg⟩
 | succ kk ih =>
  obtain ⟨x,hx⟩:=zav (l:=l) (i:=i) (by omega)
  have h0:decide (((i:Nat):Int) < ((((l).map Se.cells).length:Nat):Int))=true:=by simp;omega
  have hw:IntKind.i64.wrap (((i:Nat):Int)+1)=((i+1:Nat):Int):=zak i (by first|omega|(simp only [zac,Few] at *;omega))
  have hfx:=hf x (List.mem_of_getElem? hx)
  have ho:out.length≤1000000000:=by rw [hI,List.length_take];simp only [zac] at hl;omega
  obtain ⟨outZ,qZ,xZ,gZ⟩:=ih (i+1) (out++[x]) (by omega) (by rw [List.take_add_one,hx,hI];rfl) (by omega);exact ⟨outZ,qZ,xZ,fun R hg=>zab (wkl (c':=(Cfg.mk (zjq l (i+1) (out++[x])).n (zjq l (i+1) (out++[x])).todo [(1,AV.fn S.deep_set []),(5,AV.own 0 (List.map Se.cells out++[[sv x.col,iv x.ex.kind,iv x.ex.op,bv x.ex.not,iv x.ex.val.kind,iv x.ex.val.int,sv x.ex.val.text,sv x.ex.table,sv x.ex.name,AV.sl (zad x.ex.args),AV.sl (zag x.ex.sub)]]).length),(8,AV.sl (List.map Se.cells l)),(9,iv (↑(List.map Se.cells l).length:Int)),(10,iv (↑(i+1):Int))] [Blk.row Ty.Set (List.map Se.cells out++[[sv x.col,iv x.ex.kind,iv x.ex.op,bv x.ex.not,iv x.ex.val.kind,iv x.ex.val.int,sv x.ex.val.text,sv x.ex.table,sv x.ex.name,AV.sl (zad x.ex.args),AV.sl (zag x.ex.sub)]]) false])) [sb h0,se (zaf Se.cells hx rfl),sc hfx,sqx (AllLen [[sv x.col,iv x.ex.kind,iv x.ex.op,bv x.ex.not,iv x.ex.val.kind,iv x.ex.val.int,sv x.ex.val.text,sv x.ex.table,sv x.ex.name,AV.sl (zad x.ex.args),AV.sl (zag x.ex.sub)]] 11∧out.length=(List.map Se.cells out).length∧(((List.map Se.cells out).length+[[sv x.col,iv x.ex.kind,iv x.ex.op,bv x.ex.not,iv x.ex.val.kind,iv x.ex.val.int,sv x.ex.val.text,sv x.ex.table,sv x.ex.name,AV.sl (zad x.ex.args),AV.sl (zag x.ex.sub)]].length) * 152).le 140737488355328),si hw] [1,5,8,9,10] 1 kr (zan (show ([(1,AV.fn S.deep_set []),(5,AV.own 0 (List.map Se.cells out++[[sv x.col,iv x.ex.kind,iv x.ex.op,bv x.ex.not,iv x.ex.val.kind,iv x.ex.val.int,sv x.ex.val.text,sv x.ex.table,sv x.ex.name,AV.sl (zad x.ex.args),AV.sl (zag x.ex.sub)]]).length),(8,AV.sl (List.map Se.cells l)),(9,iv (↑(List.map Se.cells l).length:Int)),(10,iv (↑(i+1):Int))]:TS)=[(1,AV.fn S.deep_set []),(5,AV.own 0 (out++[x]).length),(8,AV.sl (List.map Se.cells l)),(9,iv (↑(List.map Se.cells l).length:Int)),(10,iv (↑(i+1):Int))] by first|rfl|(simp;done)|(simp [X.cells,Qy.cells,V.cells,Col.cells,Rw.cells,Tb.cells,Fr.cells,Sch.cells,Tp.cells,Pl.cells,xCol,xLit,xBin,xNeg,Im.cells,Lk.cells,Ac.cells,Se.cells,Tg.cells];done)) (show ([Blk.row Ty.Set (List.map Se.cells out++[[sv x.col,iv x.ex.kind,iv x.ex.op,bv x.ex.not,iv x.ex.val.kind,iv x.ex.val.int,sv x.ex.val.text,sv x.ex.table,sv x.ex.name,AV.sl (zad x.ex.args),AV.sl (zag x.ex.sub)]]) false]:Heap)=[Blk.row Ty.Set (List.map Se.cells (out++[x])) false] by first|rfl|(simp;done)|(simp [X.cells,Qy.cells,V.cells,Col.cells,Rw.cells,Tb.cells,Fr.cells,Sch.cells,Tp.cells,Pl.cells,xCol,xLit,xBin,xNeg,Im.cells,Lk.cells,Ac.cells,Se.cells,Tg.cells];done)) (gZ R hg)))⟩
theorem zjL (l:List Se) (hl:zac l) (hf:∀ x∈l,zaa E0 S.deep_set [.agg x.cells] [] (.agg x.cells) []):∃ (r:List Se),r=l∧zaa E0 S.deep_list_api_Set [.sl ((l).map Se.cells),.fn S.deep_set []] [] (.sl ((r).map Se.cells)) []:=by
 obtain ⟨out1,q1,q1_1,g1⟩:=zff l (by first|assumption|rfl|omega) (by first|assumption|rfl|omega) 0 ([]) (by first|assumption|rfl|omega) (by first|assumption|rfl|omega)
 exact ⟨out1,by first|assumption|(rw [List.take_length] at *;assumption),wkc At.deep_list_api_Set (c':=(Cfg.mk (zjq l 0 []).n (zjq l 0 []).todo [(1,AV.fn S.deep_set []),(5,AV.nl),(8,AV.sl (List.map Se.cells l)),(9,iv (↑(List.map Se.cells l).length:Int)),(10,iv 0)] [])) [] [1,5,8,9,10] 0 kr (zbb (c':=zjq l 0 []) 5 Ty.Set [1,5,8,9,10] 1 kr kr kr (g1 _ (zab (wkr [sqx (out1.length=(List.map Se.cells out1).length),sb q1_1] kr))))⟩
theorem zjO (l:List Se) (hl:zac l) (hf:∀ x∈l,zaa E0 S.deep_set [.agg x.cells] [] (.agg x.cells) []):zaa E0 S.deep_list_api_Set [.sl ((l).map Se.cells),.fn S.deep_set []] [] (.sl ((l).map Se.cells)) []:=by
 obtain ⟨r,rfl,h⟩:=zjL l hl hf
 exact h
structure AcOk (n:Nat) (a:Ac):Prop where
 rows:Few a.rows
 row:∀ r∈a.rows,Few r∧∀ x∈r,XOk n x
 query:Few a.query
 qs:∀ q∈a.query,QW n q
 sets:Few a.sets
 set:∀ s∈a.sets,XOk n s.ex
 wh:Few a.wh
 w:∀ x∈a.wh,XOk n x
structure AcSh (n:Nat) (a:Ac):Prop where
 rows:zac a.rows
 row:∀ r∈a.rows,zac r∧∀ x∈r,XSh n x
 query:zac a.query
 qs:∀ q∈a.query,QSh n q
 sets:zac a.sets
 set:∀ s∈a.sets,XSh n s.ex
 wh:zac a.wh
 w:∀ x∈a.wh,XSh n x
theorem AcOk.sh {n:Nat} {a:Ac} (h:AcOk n a):AcSh n a :=
 ⟨zaP h.rows,fun r hr=>⟨zaP (h.row r hr).1,fun x hx=>((h.row r hr).2 x hx).sh⟩,zaP h.query,fun q hq=>(h.qs q hq).sh,zaP h.sets,fun s hs=>(h.set s hs).sh,zaP h.wh,fun x hx=>(h.w x hx).sh⟩
def RowsCp (l:List (List X)):Prop:=∀ x∈l,zaa E0 S.deep_Exprs [xsl x] [] (xsl x) []
theorem zoI (n:Nat) (a:Ac) (h:AcSh n a) (h1:zac a.rows) (h2:zac a.query) (h3:zac a.sets) (h4:zac a.wh) (hr:RowsCp a.rows) (hq:∀ x∈a.query,zaa E0 S.deep_Query [x.av] [] x.av []) (hs:∀ x∈a.sets,zaa E0 S.deep_set [.agg x.cells] [] (.agg x.cells) []) (hw:∀ x∈a.wh,zaa E0 S.deep_Expr [x.av] [] x.av []):∃ (r:Ac),r=a∧zaa E0 S.deep_Action [a.av] [] r.av []:=by
 exact ⟨a,by rfl,wk At.deep_Action [sd [(2,[sc (ziB a.rows (by first|assumption|exact hr) (by first|assumption|exact hr))]),(5,[sc (zep a.query (by first|assumption|exact hr) (by first|assumption|exact hr))]),(8,[sc (zjO a.sets (by first|assumption|exact hr) (by first|assumption|exact hr))]),(11,[sc (zdH a.wh (by first|assumption|exact hr) (by first|assumption|exact hr))])]] kr⟩
theorem zou (n:Nat) (a:Ac) (h:AcSh n a):zaa E0 S.deep_Action [a.av] [] a.av []:=by
 obtain ⟨r,rfl,hr⟩:=zoI n a h h.rows h.query h.sets h.wh
  (fun x hx=>zdH x (h.row x hx).1 fun y hy=>zbD n y ((h.row x hx).2 y hy))
  (fun q hq=>zmo n q (h.qs q hq)) (fun s hs=>zsW n s (h.set s hs)) (fun x hx=>zbD n x (h.w x hx))
 exact hr
noncomputable def zjo (l:List Ac) (i:Nat) (out:List Ac):Cfg:=zal B.deep_list_api_Action 0 [(1,.fn S.deep_Action []),(5,.own 0 out.length),(8,.sl ((l).map Ac.cells)),(9,iv (((l).map Ac.cells).length:Nat)),(10,iv (i:Nat))] [.row Ty.Action ((out).map Ac.cells) false]
theorem zej (l:List Ac) (hl:zac l) (hf:∀ x∈l,zaa E0 S.deep_Action [.agg x.cells] [] (.agg x.cells) []) (i:Nat) (out:List Ac) (hi:i≤(l).length) (hI:out=l.take i):∃ (out':List Ac),(out'=l.take (l).length)∧(decide ((((l).length:Nat):Int) < ((((l).map Ac.cells).length:Nat):Int))=false)∧∀ R,Good E0 B.deep_list_api_Action [] (zjo l (l).length out') R→Good E0 B.deep_list_api_Action [] (zjo l i out) R:=by
 obtain ⟨kk,hk⟩:∃ kk,i+kk=(l).length:=⟨(l).length - i,by omega⟩
 induction kk generalizing i out with
 | zero =>
  have e0:i=(l).length:=by omega
  subst e0
  exact ⟨out,hI,by simp,fun R hg=>hg⟩
 | succ kk ih =>
  obtain ⟨x,hx⟩:=zav (l:=l) (i:=i) (by omega)
  have h0:decide (((i:Nat):Int) < ((((l).map Ac.cells).length:Nat):Int))=true:=by simp;omega
  have hw:IntKind.i64.wrap (((i:Nat):Int)+1)=((i+1:Nat):Int):=zak i (by first|omega|(simp only [zac,Few] at *;omega))
  have hfx:=hf x (List.mem_of_getElem? hx)
  have ho:out.length≤1000000000:=by rw [hI,List.length_take];simp only [zac] at hl;omega
  obtain ⟨outZ,qZ,xZ,gZ⟩:=ih (i+1) (out++[x]) (by omega) (by rw [List.take_add_one,hx,hI];rfl) (by omega);exact ⟨outZ,qZ,xZ,fun R hg=>zab (wkl (c':=(Cfg.mk (zjo l (i+1) (out++[x])).n (zjo l (i+1) (out++[x])).todo [(1,AV.fn S.deep_Action []),(5,AV.own 0 (List.map Ac.cells out++[[iv x.kind,sv x.table,AV.sl (List.map (fun r=>[AV.sl (zad r)]) x.rows),AV.sl (zag x.query),AV.sl (List.map Se.cells x.sets),AV.sl (zad x.wh),sv x.text]]).length),(8,AV.sl (List.map Ac.cells l)),(9,iv (↑(List.map Ac.cells l).length:Int)),(10,iv (↑(i+1):Int))] [Blk.row Ty.Action (List.map Ac.cells out++[[iv x.kind,sv x.table,AV.sl (List.map (fun r=>[AV.sl (zad r)]) x.rows),AV.sl (zag x.query),AV.sl (List.map Se.cells x.sets),AV.sl (zad x.wh),sv x.text]]) false])) [sb h0,se (zaf Ac.cells hx rfl),sc hfx,sqx (AllLen [[iv x.kind,sv x.table,AV.sl (List.map (fun r=>[AV.sl (zad r)]) x.rows),AV.sl (zag x.query),AV.sl (List.map Se.cells x.sets),AV.sl (zad x.wh),sv x.text]] 7∧out.length=(List.map Ac.cells out).length∧(((List.map Ac.cells out).length+[[iv x.kind,sv x.table,AV.sl (List.map (fun r=>[AV.sl (zad r)]) x.rows),AV.sl (zag x.query),AV.sl (List.map Se.cells x.sets),AV.sl (zad x.wh),sv x.text]].length) * 136).le 140737488355328),si hw] [1,5,8,9,10] 1 kr (zan (show ([(1,AV.fn S.deep_Action []),(5,AV.own 0 (List.map Ac.cells out++[[iv x.kind,sv x.table,AV.sl (List.map (fun r=>[AV.sl (zad r)]) x.rows),AV.sl (zag x.query),AV.sl (List.map Se.cells x.sets),AV.sl (zad x.wh),sv x.text]]).length),(8,AV.sl (List.map Ac.cells l)),(9,iv (↑(List.map Ac.cells l).length:Int)),(10,iv (↑(i+1):Int))]:TS)=[(1,AV.fn S.deep_Action []),(5,AV.own 0 (out++[x]).length),(8,AV.sl (List.map Ac.cells l)),(9,iv (↑(List.map Ac.cells l).length:Int)),(10,iv (↑(i+1):Int))] by first|rfl|(simp;done)|(simp [X.cells,Qy.cells,V.cells,Col.cells,Rw.cells,Tb.cells,Fr.cells,Sch.cells,Tp.cells,Pl.cells,xCol,xLit,xBin,xNeg,Im.cells,Lk.cells,Ac.cells,Se.cells,Tg.cells];done)) (show ([Blk.row Ty.Action (List.map Ac.cells out++[[iv x.kind,sv x.table,AV.sl (List.map (fun r=>[AV.sl (zad r)]) x.rows),AV.sl (zag x.query),AV.sl (List.map Se.cells x.sets),AV.sl (zad x.wh),sv x.text]]) false]:Heap)=[Blk.row Ty.Action (List.map Ac.cells (out++[x])) false] by first|rfl|(simp;done)|(simp [X.cells,Qy.cells,V.cells,Col.cells,Rw.cells,Tb.cells,Fr.cells,Sch.cells,Tp.cells,Pl.cells,xCol,xLit,xBin,xNeg,Im.cells,Lk.cells,Ac.cells,Se.cells,Tg.cells];done)) (gZ R hg)))⟩
theorem zhM (l:List Ac) (hl:zac l) (hf:∀ x∈l,zaa E0 S.deep_Action [.agg x.cells] [] (.agg x.cells) []):∃ (r:List Ac),r=l∧zaa E0 S.deep_list_api_Action [.sl ((l).map Ac.cells),.fn S.deep_Action []] [] (.sl ((r).map Ac.cells)) []:=by
 obtain ⟨out1,q1,q1_1,g1⟩:=zej l (by first|assumption|rfl|omega) (by first|assumption|rfl|omega) 0 ([]) (by first|assumption|rfl|omega) (by first|assumption|rfl|omega)
 exact ⟨out1,by first|assumption|(rw [List.take_length] at *;assumption),wkc At.deep_list_api_Action (c':=(Cfg.mk (zjo l 0 []).n (zjo l 0 []).todo [(1,AV.fn S.deep_Action []),(5,AV.nl),(8,AV.sl (List.map Ac.cells l)),(9,iv (↑(List.map Ac.cells l).length:Int)),(10,iv 0)] [])) [] [1,5,8,9,10] 0 kr (zbb (c':=zjo l 0 []) 5 Ty.Action [1,5,8,9,10] 1 kr kr kr (g1 _ (zab (wkr [sqx (out1.length=(List.map Ac.cells out1).length),sb q1_1] kr))))⟩
theorem zhD (l:List Ac) (hl:zac l) (hf:∀ x∈l,zaa E0 S.deep_Action [.agg x.cells] [] (.agg x.cells) []):zaa E0 S.deep_list_api_Action [.sl ((l).map Ac.cells),.fn S.deep_Action []] [] (.sl ((l).map Ac.cells)) []:=by
 obtain ⟨r,rfl,h⟩:=zhM l hl hf
 exact h
structure TgOk (n:Nat) (t:Tg):Prop where
 of:Few t.of
 prec:Few t.prec
 foll:Few t.foll
 rank:Few t.rank
 whens:Few t.when_
 when_:∀ x∈t.when_,XOk n x
 acts:Few t.acts
 act:∀ a∈t.acts,AcOk n a
structure TgSh (n:Nat) (t:Tg):Prop where
 of:zac t.of
 prec:zac t.prec
 foll:zac t.foll
 rank:zac t.rank
 whens:zac t.when_
 when_:∀ x∈t.when_,XSh n x
 acts:zac t.acts
 act:∀ a∈t.acts,AcSh n a
theorem TgOk.sh {n:Nat} {t:Tg} (h:TgOk n t):TgSh n t :=
 ⟨zaP h.of,zaP h.prec,zaP h.foll,zaP h.rank,zaP h.whens,fun x hx=>(h.when_ x hx).sh,zaP h.acts,fun a ha=>(h.act a ha).sh⟩
theorem znI (n:Nat) (t:Tg) (h1:zac t.of) (h2:zac t.prec) (h3:zac t.foll) (h4:zac t.rank) (h5:zac t.when_) (h6:zac t.acts) (hw:∀ x∈t.when_,zaa E0 S.deep_Expr [x.av] [] x.av []) (ha:∀ x∈t.acts,zaa E0 S.deep_Action [.agg x.cells] [] (.agg x.cells) []):∃ (r:Tg),r=t∧zaa E0 S.deep_Trigger [t.av] [] r.av []:=by
 exact ⟨t,by rfl,wk At.deep_Trigger [sqx (True∧True∧True∧True∧t.of.length=(List.map zaX t.of).length∧True∧t.prec.length=(List.map zaX t.prec).length∧t.foll.length=(List.map zaX t.foll).length∧t.rank.length=(List.map Rk.cells t.rank).length∧True∧True∧True),sd [(2,[sc (zc5 t.of zhj)]),(5,[sc (zc5 t.prec zhj)]),(8,[sc (zc5 t.foll zhj)]),(11,[sc (zjG t.rank zhj)])],sd [(2,[sc (zdH t.when_ zhj zhj)]),(5,[sc (zhD t.acts zhj zhj)])]] kr⟩
theorem zfq (n:Nat) (t:Tg) (h:TgSh n t):zaa E0 S.deep_Trigger [t.av] [] t.av []:=by
 obtain ⟨r,rfl,hr⟩:=znI n t h.of h.prec h.foll h.rank h.whens h.acts
  (fun x hx=>zbD n x (h.when_ x hx)) (fun a ha=>zou n a (h.act a ha))
 exact hr
end Go.AM
namespace Go.AM
set_option maxRecDepth 100000
set_option maxHeartbeats 1000000
set_option linter.unusedSimpArgs false
set_option linter.unusedVariables false
theorem zhu {p:Prop} (h:p:=by rw [List.take_add_one,hx,List.filter_append,← hI];clear hI;simp only [Option.toList_some,List.filter_cons,List.filter_nil,appl,cond_true,cond_false,if_true, *] <;> try simp):p:=h
theorem zfK {p:Prop} (h:p:=by first|assumption|omega|(simp;done)|(simp;omega)):p:=h
theorem zhp {p:Prop} (h:p:=by first|assumption|exact hTx|omega):p:=h
noncomputable def L_stIx (l:List Str) (v:Str) (i:Nat) :Cfg:=zal B.slices_Index_string 0 [(0,.sl (l.map zaX)),(1,sv v),(7,iv ((l.map zaX).length:Nat)),(8,iv (i:Nat))] []
def stIx (l:List Str) (v:Str):List (Str)→Nat→Int
 | [],i =>
  -1
 | x::r,i =>
  bif ByteArray.toList v==ByteArray.toList x then
   (i:Int)
  else
   stIx l v r (i+1)
theorem zqR (l:List Str) (v:Str) (hl:zac l):∀ (kk i:Nat),i+kk=(l).length→Good E0 B.slices_Index_string [] (L_stIx l v i ) (Shut 0 fun r h=>r=(iv (stIx l v ((l).drop i) i ))∧h=[]):=by
 intro kk
 induction kk with
 | zero =>
  intro i  hi
  have h0:decide (((i:Nat):Int) < (((l.map zaX).length:Nat):Int))=false:=by simp;omega
  have e0:(l).drop i=[]:=List.drop_of_length_le (by omega)
  rw [e0]
  simp only [stIx]
  refine zab ?_
  exact wkr [sb h0] kr
 | succ kk ih =>
  intro i  hi
  obtain ⟨x,hx⟩:=zav (l:=l) (i:=i) (by omega)
  have h0:decide (((i:Nat):Int) < (((l.map zaX).length:Nat):Int))=true:=by simp;omega
  have hw:=zak i (by first|omega|(simp only [zac,Few] at *;omega))
  rw [zaR hx]
  simp only [stIx]
  refine zab ?_
  cases h1:ByteArray.toList v==ByteArray.toList x
  ·exact wkl [sb h0,se (zaf zaX hx rfl),sb h1,si hw] [0,1,7,8] 0 kr (ih (i+1) (by omega) )
  ·exact wkr [sb h0,se (zaf zaX hx rfl),sb h1] kr
def znD (l:List Str) (v:Str):Int :=
 stIx l v l (0)
theorem zit (l:List Str) (v:Str) (hl:zac l):zaa E0 S.slices_Index_string [ssl l,sv v] [] (iv (znD l v)) []:=by
 unfold znD
 exact wkc At.slices_Index_string [] [0,1,7,8] 0 kr (zqR l v hl l.length 0 (by simp))
def hasS (l:List Str) (v:Str):Bool :=
 decide ((0:Int)≤znD l v)
theorem zdy (l:List Str) (v:Str) (hl:zac l):zaa E0 S.slices_Contains_string [ssl l,sv v] [] (bv (hasS l v)) []:=by
 exact wk At.slices_Contains_string [sc (zit l v zfK)] kr
def hasC (v:Str) (l:List Str):Bool :=
 hasS l v
theorem zd2 (v:Str) (l:List Str) (hl:zac l):zaa E0 S.before_Applicable_c1 [sv v,.p 0 0] [.box [ssl l]] (bv (hasC v l)) [.box [ssl l]]:=by
 exact wk At.before_Applicable_c1 [sc (zdy l v zfK)] kr
noncomputable def L_ofIx (l s:List Str) (i:Nat) :Cfg:=zal B.slices_IndexFunc_string 0 [(0,ssl l),(1,.fn S.before_Applicable_c1 [.p 0 0]),(7,iv ((l.map zaX).length:Nat)),(8,iv (i:Nat))] [.box [ssl s]]
def ofIx (l s:List Str):List (Str)→Nat→Int
 | [],i =>
  -1
 | x::r,i =>
  bif hasC x s then
   (i:Int)
  else
   ofIx l s r (i+1)
theorem zq8 (l s:List Str) (hl:zac l) (hs:zac s):∀ (kk i:Nat),i+kk=(l).length→Good E0 B.slices_IndexFunc_string [.box [ssl s]] (L_ofIx l s i ) (Shut 1 fun r h=>r=(iv (ofIx l s ((l).drop i) i ))∧h=[.box [ssl s]]):=by
 intro kk
 induction kk with
 | zero =>
  intro i  hi
  have h0:decide (((i:Nat):Int) < (((l.map zaX).length:Nat):Int))=false:=by simp;omega
  have e0:(l).drop i=[]:=List.drop_of_length_le (by omega)
  rw [e0]
  simp only [ofIx]
  refine zab ?_
  exact wkr [sb h0] kr
 | succ kk ih =>
  intro i  hi
  obtain ⟨x,hx⟩:=zav (l:=l) (i:=i) (by omega)
  have h0:decide (((i:Nat):Int) < (((l.map zaX).length:Nat):Int))=true:=by simp;omega
  have hw:=zak i (by first|omega|(simp only [zac,Few] at *;omega))
  rw [zaR hx]
  simp only [ofIx]
  refine zab ?_
  cases h1:hasC x s
  ·exact wkl [sb h0,se (zaf (fun s=>[sv s]) hx rfl),sl [0] (zd2 x s zfK),sb h1,si hw] [0,1,7,8] 1 kr (ih (i+1) (by omega) )
  ·exact wkr [sb h0,se (zaf (fun s=>[sv s]) hx rfl),sl [0] (zd2 x s zfK),sb h1] kr
def znr (l s:List Str):Int :=
 ofIx l s l (0)
theorem zgt (l s:List Str) (hl:zac l) (hs:zac s):zaa E0 S.slices_IndexFunc_string [ssl l,.fn S.before_Applicable_c1 [.p 0 0]] [.box [ssl s]] (iv (znr l s)) [.box [ssl s]]:=by
 unfold znr
 exact wkc At.slices_IndexFunc_string [] [0,1,7,8] 1 kr (zq8 l s hl hs l.length 0 (by simp))
def zr9 (l s:List Str):Bool :=
 decide ((0:Int)≤znr l s)
theorem zbE (l s:List Str) (hl:zac l) (hs:zac s):zaa E0 S.slices_ContainsFunc_string [ssl l,.fn S.before_Applicable_c1 [.p 0 0]] [.box [ssl s]] (bv (zr9 l s)) [.box [ssl s]]:=by
 exact wk At.slices_ContainsFunc_string [sl [0] (zgt l s zfK zfK)] kr
def appl (table:Str) (ev:Int) (asg:List Str) (each:Bool) (t:Tg):Bool :=
 bif !t.before then false else bif !t.table.toList==table.toList then false else bif t.event != ev then false else bif !t.each==each then false else bif ev != 2 then true else bif (((t.of.map zaX).length:Nat):Int)==0 then true else zr9 t.of asg
noncomputable def zeP (N:Nat) (ts:List Tg) (table:Str) (ev:Int) (asg:List Str) (each:Bool) (i:Nat) (out:List Tg):Cfg:=zal B.before_Applicable 0 [(1,sv table),(2,iv ev),(4,bv each),(8,.p 0 0),(11,.own 1 out.length),(15,.sl (ts.map Tg.cells)),(16,iv ((ts.map Tg.cells).length:Nat)),(17,iv (i:Nat))] [.box [ssl asg],.row Ty.Trigger (out.map Tg.cells) false]
theorem zfd (N:Nat) (ts:List Tg) (table:Str) (ev:Int) (asg:List Str) (each:Bool) (hl:zac ts) (hs:zac asg) (hT:∀ t∈ts,TgSh N t) (i:Nat) (out:List Tg) (hi:i≤(ts).length) (hI:out=(ts.take i).filter (appl table ev asg each)):∃ (out':List Tg),(out'=(ts.take (ts).length).filter (appl table ev asg each))∧(decide ((((ts).length:Nat):Int) < (((ts.map Tg.cells).length:Nat):Int))=false)∧∀ R,Good E0 B.before_Applicable [] (zeP N ts table ev asg each (ts).length out') R→Good E0 B.before_Applicable [] (zeP N ts table ev asg each i out) R:=by
 obtain ⟨kk,hk⟩:∃ kk,i+kk=(ts).length:=⟨(ts).length - i,by omega⟩
 induction kk generalizing i out with
 | zero =>
  have e0:i=(ts).length:=by omega
  subst e0
  exact ⟨out,hI,by simp,fun R hg=>hg⟩
 | succ kk ih =>
  obtain ⟨x,hx⟩:=zav (l:=ts) (i:=i) (by omega)
  have h0:decide (((i:Nat):Int) < (((ts.map Tg.cells).length:Nat):Int))=true:=by simp;omega
  have hw:IntKind.i64.wrap (((i:Nat):Int)+1)=((i+1:Nat):Int):=zak i (by first|omega|(simp only [zac,Few] at *;omega))
  have hTx:=hT x (List.mem_of_getElem? hx)
  have hof:=hTx.of
  have ho:out.length≤1000000000:=by
   rw [hI];refine Nat.le_trans (List.length_filter_le _ _) ?_;rw [List.length_take];simp only [zac] at hl;omega
  cases h1:!x.before
  ·cases h2:!ByteArray.toList x.table==ByteArray.toList table
   ·cases h3:x.event != ev
    ·cases h4:!x.each==each
     ·cases h5:ev != 2
      ·cases h6:(↑(List.map (fun s=>[sv s]) x.of).length:Int)==0
       ·cases h7:zr9 x.of asg
        ·obtain ⟨outZ,qZ,xZ,gZ⟩:=ih (i+1) out (by omega) zhu (by omega);exact ⟨outZ,qZ,xZ,fun R hg=>zab (wkl [sb h0,se (zaf Tg.cells hx rfl),sg h1,sg h2,sg h3,sb h4,sl [0] (zbE x.of asg zhp zhp),sg h5,sg h6,sb h7,si hw] [1,2,4,8,11,15,16,17] 2 kr (gZ R hg))⟩
        ·obtain ⟨outZ,qZ,xZ,gZ⟩:=ih (i+1) (out++[x]) (by omega) zhu (by omega);exact ⟨outZ,qZ,xZ,fun R hg=>zab (wkl (c':=(Cfg.mk (zeP N ts table ev asg each (i+1) (out++[x])).n (zeP N ts table ev asg each (i+1) (out++[x])).todo [(1,sv table),(2,iv ev),(4,bv each),(8,AV.p 0 0),(11,AV.own 1 (List.map Tg.cells out++[[sv x.name,sv x.table,bv x.before,iv x.event,AV.sl (List.map (fun s=>[sv s]) x.of),bv x.each,AV.sl (List.map (fun s=>[sv s]) x.prec),AV.sl (List.map (fun s=>[sv s]) x.foll),AV.sl (List.map Rk.cells x.rank),AV.sl (zad x.when_),AV.sl (List.map Ac.cells x.acts)]]).length),(15,AV.sl (List.map Tg.cells ts)),(16,iv (↑(List.map Tg.cells ts).length:Int)),(17,iv (↑(i+1):Int))] [Blk.box [AV.sl (List.map (fun s=>[sv s]) asg)],Blk.row Ty.Trigger (List.map Tg.cells out++[[sv x.name,sv x.table,bv x.before,iv x.event,AV.sl (List.map (fun s=>[sv s]) x.of),bv x.each,AV.sl (List.map (fun s=>[sv s]) x.prec),AV.sl (List.map (fun s=>[sv s]) x.foll),AV.sl (List.map Rk.cells x.rank),AV.sl (zad x.when_),AV.sl (List.map Ac.cells x.acts)]]) false])) [sb h0,se (zaf Tg.cells hx rfl),sg h1,sg h2,sg h3,sb h4,sl [0] (zbE x.of asg zhp zhp),sg h5,sg h6,sb h7,sc (zfq N x hTx),sqx (AllLen [[sv x.name,sv x.table,bv x.before,iv x.event,AV.sl (List.map (fun s=>[sv s]) x.of),bv x.each,AV.sl (List.map (fun s=>[sv s]) x.prec),AV.sl (List.map (fun s=>[sv s]) x.foll),AV.sl (List.map Rk.cells x.rank),AV.sl (zad x.when_),AV.sl (List.map Ac.cells x.acts)]] 11∧out.length=(List.map Tg.cells out).length∧(((List.map Tg.cells out).length+[[sv x.name,sv x.table,bv x.before,iv x.event,AV.sl (List.map (fun s=>[sv s]) x.of),bv x.each,AV.sl (List.map (fun s=>[sv s]) x.prec),AV.sl (List.map (fun s=>[sv s]) x.foll),AV.sl (List.map Rk.cells x.rank),AV.sl (zad x.when_),AV.sl (List.map Ac.cells x.acts)]].length) * 200).le 140737488355328),si hw] [1,2,4,8,11,15,16,17] 2 kr (zan (show ([(1,sv table),(2,iv ev),(4,bv each),(8,AV.p 0 0),(11,AV.own 1 (List.map Tg.cells out++[[sv x.name,sv x.table,bv x.before,iv x.event,AV.sl (List.map (fun s=>[sv s]) x.of),bv x.each,AV.sl (List.map (fun s=>[sv s]) x.prec),AV.sl (List.map (fun s=>[sv s]) x.foll),AV.sl (List.map Rk.cells x.rank),AV.sl (zad x.when_),AV.sl (List.map Ac.cells x.acts)]]).length),(15,AV.sl (List.map Tg.cells ts)),(16,iv (↑(List.map Tg.cells ts).length:Int)),(17,iv (↑(i+1):Int))]:TS)=[(1,sv table),(2,iv ev),(4,bv each),(8,AV.p 0 0),(11,AV.own 1 (out++[x]).length),(15,AV.sl (List.map Tg.cells ts)),(16,iv (↑(List.map Tg.cells ts).length:Int)),(17,iv (↑(i+1):Int))] by first|rfl|(simp;done)|(simp [X.cells,Qy.cells,V.cells,Col.cells,Rw.cells,Tb.cells,Fr.cells,Sch.cells,Tp.cells,Pl.cells,xCol,xLit,xBin,xNeg,Tg.cells];done)) (show ([Blk.box [AV.sl (List.map (fun s=>[sv s]) asg)],Blk.row Ty.Trigger (List.map Tg.cells out++[[sv x.name,sv x.table,bv x.before,iv x.event,AV.sl (List.map (fun s=>[sv s]) x.of),bv x.each,AV.sl (List.map (fun s=>[sv s]) x.prec),AV.sl (List.map (fun s=>[sv s]) x.foll),AV.sl (List.map Rk.cells x.rank),AV.sl (zad x.when_),AV.sl (List.map Ac.cells x.acts)]]) false]:Heap)=[Blk.box [AV.sl (List.map (fun s=>[sv s]) asg)],Blk.row Ty.Trigger (List.map Tg.cells (out++[x])) false] by first|rfl|(simp;done)|(simp [X.cells,Qy.cells,V.cells,Col.cells,Rw.cells,Tb.cells,Fr.cells,Sch.cells,Tp.cells,Pl.cells,xCol,xLit,xBin,xNeg,Tg.cells];done)) (gZ R hg)))⟩
       ·obtain ⟨outZ,qZ,xZ,gZ⟩:=ih (i+1) (out++[x]) (by omega) zhu (by omega);exact ⟨outZ,qZ,xZ,fun R hg=>zab (wkl (c':=(Cfg.mk (zeP N ts table ev asg each (i+1) (out++[x])).n (zeP N ts table ev asg each (i+1) (out++[x])).todo [(1,sv table),(2,iv ev),(4,bv each),(8,AV.p 0 0),(11,AV.own 1 (List.map Tg.cells out++[[sv x.name,sv x.table,bv x.before,iv x.event,AV.sl (List.map (fun s=>[sv s]) x.of),bv x.each,AV.sl (List.map (fun s=>[sv s]) x.prec),AV.sl (List.map (fun s=>[sv s]) x.foll),AV.sl (List.map Rk.cells x.rank),AV.sl (zad x.when_),AV.sl (List.map Ac.cells x.acts)]]).length),(15,AV.sl (List.map Tg.cells ts)),(16,iv (↑(List.map Tg.cells ts).length:Int)),(17,iv (↑(i+1):Int))] [Blk.box [AV.sl (List.map (fun s=>[sv s]) asg)],Blk.row Ty.Trigger (List.map Tg.cells out++[[sv x.name,sv x.table,bv x.before,iv x.event,AV.sl (List.map (fun s=>[sv s]) x.of),bv x.each,AV.sl (List.map (fun s=>[sv s]) x.prec),AV.sl (List.map (fun s=>[sv s]) x.foll),AV.sl (List.map Rk.cells x.rank),AV.sl (zad x.when_),AV.sl (List.map Ac.cells x.acts)]]) false])) [sb h0,se (zaf Tg.cells hx rfl),sg h1,sg h2,sg h3,sb h4,sl [0] (zbE x.of asg zhp zhp),sg h5,sb h6,sc (zfq N x hTx),sqx (AllLen [[sv x.name,sv x.table,bv x.before,iv x.event,AV.sl (List.map (fun s=>[sv s]) x.of),bv x.each,AV.sl (List.map (fun s=>[sv s]) x.prec),AV.sl (List.map (fun s=>[sv s]) x.foll),AV.sl (List.map Rk.cells x.rank),AV.sl (zad x.when_),AV.sl (List.map Ac.cells x.acts)]] 11∧out.length=(List.map Tg.cells out).length∧(((List.map Tg.cells out).length+[[sv x.name,sv x.table,bv x.before,iv x.event,AV.sl (List.map (fun s=>[sv s]) x.of),bv x.each,AV.sl (List.map (fun s=>[sv s]) x.prec),AV.sl (List.map (fun s=>[sv s]) x.foll),AV.sl (List.map Rk.cells x.rank),AV.sl (zad x.when_),AV.sl (List.map Ac.cells x.acts)]].length) * 200).le 140737488355328),si hw] [1,2,4,8,11,15,16,17] 2 kr (zan (show ([(1,sv table),(2,iv ev),(4,bv each),(8,AV.p 0 0),(11,AV.own 1 (List.map Tg.cells out++[[sv x.name,sv x.table,bv x.before,iv x.event,AV.sl (List.map (fun s=>[sv s]) x.of),bv x.each,AV.sl (List.map (fun s=>[sv s]) x.prec),AV.sl (List.map (fun s=>[sv s]) x.foll),AV.sl (List.map Rk.cells x.rank),AV.sl (zad x.when_),AV.sl (List.map Ac.cells x.acts)]]).length),(15,AV.sl (List.map Tg.cells ts)),(16,iv (↑(List.map Tg.cells ts).length:Int)),(17,iv (↑(i+1):Int))]:TS)=[(1,sv table),(2,iv ev),(4,bv each),(8,AV.p 0 0),(11,AV.own 1 (out++[x]).length),(15,AV.sl (List.map Tg.cells ts)),(16,iv (↑(List.map Tg.cells ts).length:Int)),(17,iv (↑(i+1):Int))] by first|rfl|(simp;done)|(simp [X.cells,Qy.cells,V.cells,Col.cells,Rw.cells,Tb.cells,Fr.cells,Sch.cells,Tp.cells,Pl.cells,xCol,xLit,xBin,xNeg,Tg.cells];done)) (show ([Blk.box [AV.sl (List.map (fun s=>[sv s]) asg)],Blk.row Ty.Trigger (List.map Tg.cells out++[[sv x.name,sv x.table,bv x.before,iv x.event,AV.sl (List.map (fun s=>[sv s]) x.of),bv x.each,AV.sl (List.map (fun s=>[sv s]) x.prec),AV.sl (List.map (fun s=>[sv s]) x.foll),AV.sl (List.map Rk.cells x.rank),AV.sl (zad x.when_),AV.sl (List.map Ac.cells x.acts)]]) false]:Heap)=[Blk.box [AV.sl (List.map (fun s=>[sv s]) asg)],Blk.row Ty.Trigger (List.map Tg.cells (out++[x])) false] by first|rfl|(simp;done)|(simp [X.cells,Qy.cells,V.cells,Col.cells,Rw.cells,Tb.cells,Fr.cells,Sch.cells,Tp.cells,Pl.cells,xCol,xLit,xBin,xNeg,Tg.cells];done)) (gZ R hg)))⟩
      ·obtain ⟨outZ,qZ,xZ,gZ⟩:=ih (i+1) (out++[x]) (by omega) zhu (by omega);exact ⟨outZ,qZ,xZ,fun R hg=>zab (wkl (c':=(Cfg.mk (zeP N ts table ev asg each (i+1) (out++[x])).n (zeP N ts table ev asg each (i+1) (out++[x])).todo [(1,sv table),(2,iv ev),(4,bv each),(8,AV.p 0 0),(11,AV.own 1 (List.map Tg.cells out++[[sv x.name,sv x.table,bv x.before,iv x.event,AV.sl (List.map (fun s=>[sv s]) x.of),bv x.each,AV.sl (List.map (fun s=>[sv s]) x.prec),AV.sl (List.map (fun s=>[sv s]) x.foll),AV.sl (List.map Rk.cells x.rank),AV.sl (zad x.when_),AV.sl (List.map Ac.cells x.acts)]]).length),(15,AV.sl (List.map Tg.cells ts)),(16,iv (↑(List.map Tg.cells ts).length:Int)),(17,iv (↑(i+1):Int))] [Blk.box [AV.sl (List.map (fun s=>[sv s]) asg)],Blk.row Ty.Trigger (List.map Tg.cells out++[[sv x.name,sv x.table,bv x.before,iv x.event,AV.sl (List.map (fun s=>[sv s]) x.of),bv x.each,AV.sl (List.map (fun s=>[sv s]) x.prec),AV.sl (List.map (fun s=>[sv s]) x.foll),AV.sl (List.map Rk.cells x.rank),AV.sl (zad x.when_),AV.sl (List.map Ac.cells x.acts)]]) false])) [sb h0,se (zaf Tg.cells hx rfl),sg h1,sg h2,sg h3,sb h4,sl [0] (zbE x.of asg zhp zhp),sb h5,sc (zfq N x hTx),sqx (AllLen [[sv x.name,sv x.table,bv x.before,iv x.event,AV.sl (List.map (fun s=>[sv s]) x.of),bv x.each,AV.sl (List.map (fun s=>[sv s]) x.prec),AV.sl (List.map (fun s=>[sv s]) x.foll),AV.sl (List.map Rk.cells x.rank),AV.sl (zad x.when_),AV.sl (List.map Ac.cells x.acts)]] 11∧out.length=(List.map Tg.cells out).length∧(((List.map Tg.cells out).length+[[sv x.name,sv x.table,bv x.before,iv x.event,AV.sl (List.map (fun s=>[sv s]) x.of),bv x.each,AV.sl (List.map (fun s=>[sv s]) x.prec),AV.sl (List.map (fun s=>[sv s]) x.foll),AV.sl (List.map Rk.cells x.rank),AV.sl (zad x.when_),AV.sl (List.map Ac.cells x.acts)]].length) * 200).le 140737488355328),si hw] [1,2,4,8,11,15,16,17] 2 kr (zan (show ([(1,sv table),(2,iv ev),(4,bv each),(8,AV.p 0 0),(11,AV.own 1 (List.map Tg.cells out++[[sv x.name,sv x.table,bv x.before,iv x.event,AV.sl (List.map (fun s=>[sv s]) x.of),bv x.each,AV.sl (List.map (fun s=>[sv s]) x.prec),AV.sl (List.map (fun s=>[sv s]) x.foll),AV.sl (List.map Rk.cells x.rank),AV.sl (zad x.when_),AV.sl (List.map Ac.cells x.acts)]]).length),(15,AV.sl (List.map Tg.cells ts)),(16,iv (↑(List.map Tg.cells ts).length:Int)),(17,iv (↑(i+1):Int))]:TS)=[(1,sv table),(2,iv ev),(4,bv each),(8,AV.p 0 0),(11,AV.own 1 (out++[x]).length),(15,AV.sl (List.map Tg.cells ts)),(16,iv (↑(List.map Tg.cells ts).length:Int)),(17,iv (↑(i+1):Int))] by first|rfl|(simp;done)|(simp [X.cells,Qy.cells,V.cells,Col.cells,Rw.cells,Tb.cells,Fr.cells,Sch.cells,Tp.cells,Pl.cells,xCol,xLit,xBin,xNeg,Tg.cells];done)) (show ([Blk.box [AV.sl (List.map (fun s=>[sv s]) asg)],Blk.row Ty.Trigger (List.map Tg.cells out++[[sv x.name,sv x.table,bv x.before,iv x.event,AV.sl (List.map (fun s=>[sv s]) x.of),bv x.each,AV.sl (List.map (fun s=>[sv s]) x.prec),AV.sl (List.map (fun s=>[sv s]) x.foll),AV.sl (List.map Rk.cells x.rank),AV.sl (zad x.when_),AV.sl (List.map Ac.cells x.acts)]]) false]:Heap)=[Blk.box [AV.sl (List.map (fun s=>[sv s]) asg)],Blk.row Ty.Trigger (List.map Tg.cells (out++[x])) false] by first|rfl|(simp;done)|(simp [X.cells,Qy.cells,V.cells,Col.cells,Rw.cells,Tb.cells,Fr.cells,Sch.cells,Tp.cells,Pl.cells,xCol,xLit,xBin,xNeg,Tg.cells];done)) (gZ R hg)))⟩
     ·obtain ⟨outZ,qZ,xZ,gZ⟩:=ih (i+1) out (by omega) zhu (by omega);exact ⟨outZ,qZ,xZ,fun R hg=>zab (wkl [sb h0,se (zaf Tg.cells hx rfl),sg h1,sg h2,sg h3,sb h4,si hw] [1,2,4,8,11,15,16,17] 2 kr (gZ R hg))⟩
    ·obtain ⟨outZ,qZ,xZ,gZ⟩:=ih (i+1) out (by omega) zhu (by omega);exact ⟨outZ,qZ,xZ,fun R hg=>zab (wkl [sb h0,se (zaf Tg.cells hx rfl),sg h1,sg h2,sb h3,si hw] [1,2,4,8,11,15,16,17] 2 kr (gZ R hg))⟩
   ·obtain ⟨outZ,qZ,xZ,gZ⟩:=ih (i+1) out (by omega) zhu (by omega);exact ⟨outZ,qZ,xZ,fun R hg=>zab (wkl [sb h0,se (zaf Tg.cells hx rfl),sg h1,sb h2,si hw] [1,2,4,8,11,15,16,17] 2 kr (gZ R hg))⟩
  ·obtain ⟨outZ,qZ,xZ,gZ⟩:=ih (i+1) out (by omega) zhu (by omega);exact ⟨outZ,qZ,xZ,fun R hg=>zab (wkl [sb h0,se (zaf Tg.cells hx rfl),sb h1,si hw] [1,2,4,8,11,15,16,17] 2 kr (gZ R hg))⟩
theorem zjN (N:Nat) (ts:List Tg) (table:Str) (ev:Int) (asg:List Str) (each:Bool) (hl:zac ts) (hs:zac asg) (hT:∀ t∈ts,TgSh N t):∃ (out:List Tg),out=ts.filter (appl table ev asg each)∧zaa E0 S.before_Applicable [.sl (ts.map Tg.cells),sv table,iv ev,ssl asg,bv each] [] (.sl (out.map Tg.cells)) []:=by
 obtain ⟨out1,q1,q1_1,g1⟩:=zfd N ts table ev asg each zfK zfK hT 0 ([]) zfK zfK
 exact ⟨out1,by rw [List.take_length] at *;assumption,wkc At.before_Applicable (c':=(Cfg.mk (zeP N ts table ev asg each 0 []).n (zeP N ts table ev asg each 0 []).todo [(1,sv table),(2,iv ev),(4,bv each),(8,AV.p 0 0),(11,AV.nl),(15,AV.sl (List.map Tg.cells ts)),(16,iv (↑(List.map Tg.cells ts).length:Int)),(17,iv 0)] [Blk.box [AV.sl (List.map (fun s=>[sv s]) asg)]])) [] [1,2,4,8,11,15,16,17] 1 kr (zbb (c':=zeP N ts table ev asg each 0 []) 11 Ty.Trigger [1,2,4,8,11,15,16,17] 2 kr kr kr (g1 _ (zab (wkr [sqx (out1.length=(List.map Tg.cells out1).length),sb q1_1] kr))))⟩
theorem zfh (N:Nat) (ts:List Tg) (table:Str) (ev:Int) (asg:List Str) (each:Bool) (hl:zac ts) (hs:zac asg) (hT:∀ t∈ts,TgSh N t):zaa E0 S.before_Applicable [.sl (ts.map Tg.cells),sv table,iv ev,ssl asg,bv each] [] (.sl ((ts.filter (appl table ev asg each)).map Tg.cells)) []:=by
 obtain ⟨out,rfl,h⟩:=zjN N ts table ev asg each hl hs hT
 exact h
end Go.AM
namespace Go.AM
set_option maxRecDepth 100000
set_option maxHeartbeats 1000000
set_option linter.unusedSimpArgs false
set_option linter.unusedVariables false
theorem zwn (l:List Int) (h:(l.take 500).length≤500):Tp.cells ⟨l.take 500,0,h⟩=[.sl (((l.map fun n=>[iv n]).take 500).drop 0),iv 0]:=by simp [Tp.cells,List.map_take]
theorem zrn (l:List Int):∃ (t:Tp),zaa E0 S.world_New [isl l] [] (.p 0 0) [.box t.cells]:=by
 cases h1:decide ((500:Int) < (((l.map fun n=>[iv n]).length:Nat):Int))
 ·exact ⟨⟨l,0,by simp at h1;omega⟩,wkK At.world_New [sb h1] kr⟩
 ·refine ⟨⟨l.take 500,0,by simp;omega⟩,?_⟩
  rw [zwn]
  exact wkK At.world_New [sb h1,sq (show SubAt (l.map fun n=>[iv n]) 0 500 1 from ⟨by decide,by decide,by simpa using Int.le_of_lt (by simpa using h1),by simp⟩)] kr
structure FsT (frs:List Fr):Prop where
 len:frs.length≤900
 rows:∀ f∈frs,zbU f.cols f.vals
 few:∀ f∈frs,Few f.cols
def zbA (n:Int):V :=
 V.mk 1 n (ByteArray.mk #[])
theorem zcL (n:Int) :zaa E0 S.ref1_Number [iv n] [] ((zbA n).av) []:=by
 exact wk At.ref1_Number [] kr
def zar:Sch:=⟨⟨#[108,111,103]⟩,[⟨⟨#[110]⟩,1,false,false⟩,⟨⟨#[115]⟩,3,false,false⟩]⟩
theorem zt5:zjk ⟨#[108,111,103]⟩=zar:=by kernel_rfl
theorem zjC:zaa E0 S.world_Schema [sv ⟨#[108,111,103]⟩] [] zar.av []:=by
 have:=zfv ⟨#[108,111,103]⟩ zcK
 rw [zt5] at this;exact this
end Go.AM
namespace Go.AM
set_option maxRecDepth 100000
set_option maxHeartbeats 1000000
set_option linter.unusedSimpArgs false
set_option linter.unusedVariables false
/- known -/
@[simp] theorem ba_self (s:Str):(s==s)=true:=by
 cases s with
 | mk d =>
  have h:(d==d)=true:=by simp
  exact h
noncomputable def L_eqV (l:List V) (i:Nat) :Cfg:=zal B.slices_Equal_Value 0 [(0,vsl l),(1,vsl l),(12,iv ((l.map V.cells).length:Nat)),(13,iv (i:Nat))] []
theorem zeU (l:List V) (hl:zac l) (i:Nat)  (hi:i≤(l).length) (hI:True):(True)∧(decide ((((l).length:Nat):Int) < (((l.map V.cells).length:Nat):Int))=false)∧∀ R,Good E0 B.slices_Equal_Value [] (L_eqV l (l).length ) R→Good E0 B.slices_Equal_Value [] (L_eqV l i ) R:=by
 obtain ⟨kk,hk⟩:∃ kk,i+kk=(l).length:=⟨(l).length - i,by omega⟩
 induction kk generalizing i  hI with
 | zero =>
  have e0:i=(l).length:=by omega
  subst e0
  exact ⟨hI,by simp,fun R hg=>hg⟩
 | succ kk ih =>
  obtain ⟨x,hx⟩:=zav (l:=l) (i:=i) (by omega)
  have h0:decide (((i:Nat):Int) < (((l.map V.cells).length:Nat):Int))=true:=by simp;omega
  have hw:IntKind.i64.wrap (((i:Nat):Int)+1)=((i+1:Nat):Int):=zak i (by first|omega|(simp only [zac,Few] at *;omega))
  cases h1:!(x.kind==x.kind&&(x.int==x.int&&(x.text==x.text&&true)))
  ·obtain ⟨qZ,xZ,gZ⟩:=ih (i+1) (by omega) (by first|trivial|assumption|(simp;done)|omega|(simp;omega)|(simp at *;omega)) (by omega);exact ⟨qZ,xZ,fun R hg=>zab (wkl [sb h0,sd [(2,[se (zaf V.cells hx rfl)]),(6,[se (zaf V.cells hx rfl)]),(8,[sq za9])],sb h1,si hw] [0,1,12,13] 0 kr (gZ R hg))⟩
  ·exact False.elim (by simp at *)
theorem zi0 (l:List V) (hl:zac l):∃ (r:Bool),r=true∧zaa E0 S.slices_Equal_Value [vsl l,vsl l] [] (bv r) []:=by
 cases h1:(↑(List.map V.cells l).length:Int) != (↑(List.map V.cells l).length:Int)
 ·obtain ⟨q2,q2_1,g2⟩:=zeU l (by first|assumption|omega|(simp;done)|(simp;omega)) 0 (by first|assumption|omega|(simp;done)|(simp;omega)) (by first|assumption|omega|(simp;done)|(simp;omega))
  exact ⟨true,by first|rfl|(exfalso;simp at *;done),wkc At.slices_Equal_Value [sb h1] [0,1,12,13] 0 kr (g2 _ (zab (wkr [sb q2_1] kr)))⟩
 ·exact ⟨false,by first|rfl|(exfalso;simp at *;done),wk At.slices_Equal_Value [sb h1] kr⟩
theorem TgOk.tr {n:Nat} {t:Tg} (h:TgOk (n+1) t):TrOk (n+1) t:=by
 refine ⟨zaP h.acts,fun a ha=>?_,h.when_⟩
 have h1:=(h.act a ha).set
 unfold Ac.set0
 cases hs:a.sets with
 | nil=>exact ⟨zaD,⟨by simp [zkj],by simp [zkj]⟩,fun x hx=>by simp [zkj] at hx,fun q hq=>by simp [zkj] at hq⟩
 | cons x r=>rw [hs] at h1;exact h1 x (by simp)
end Go.AM
namespace Go.AM
set_option maxRecDepth 100000
set_option maxHeartbeats 1000000
set_option linter.unusedSimpArgs false
set_option linter.unusedVariables false
theorem byteAt {s:Str} {i:Int} (h:0≤i∧i < ((s.size:Nat):Int)):∃ c:UInt8,ByteAt s i ((c.toNat:Nat):Int):=by
 obtain ⟨n,rfl⟩:=Int.eq_ofNat_of_zero_le h.1
 have hlt:n < s.size:=by omega
 exact ⟨s[n],⟨by omega,by simp [hlt]⟩⟩
abbrev acc (k:Int) (a:Ac):List AV:=[iv k,sv a.table,.sl (a.rows.map zaE),.sl (zag a.query),.sl (a.sets.map Se.cells),.sl (zad a.wh),sv a.text]
end Go.AM
namespace Go.AM
set_option maxRecDepth 100000
set_option maxHeartbeats 1000000
set_option linter.unusedSimpArgs false
set_option linter.unusedVariables false
def Col.tr (c:Col):Col:=⟨c.name,c.type,false,false⟩
def trTb (n:Str) (s:Sch):Tb:=⟨⟨n,s.cols.map Col.tr⟩,1,[]⟩
end Go.AM
namespace Go.AM
set_option maxRecDepth 100000
set_option maxHeartbeats 1000000
set_option linter.unusedSimpArgs false
set_option linter.unusedVariables false
def AtI {α:Type} (l:List α) (i:Int) (x:α):Prop:=0≤i∧l[i.toNat]?=some x
theorem zuv {α:Type} {l:List α} {i:Int} (h:0≤i∧i < ((l.length:Nat):Int)):∃ x,AtI l i x :=
 ⟨l[i.toNat]'(by omega),h.1,List.getElem?_eq_getElem (by omega)⟩
theorem znS {α:Type} (f:α→List AV) {l:List α} {i:Int} {x:α} (h:AtI l i x) {n:Nat} (hn:(f x).length=n):ElAt (l.map f) i (f x) n :=
 ⟨h.1,by simp [h.2],hn⟩
end Go.AM
namespace Go.AM
set_option maxRecDepth 100000
set_option linter.unusedSimpArgs false
set_option linter.unusedVariables false
def AcSet (a:Ac):Prop:=a.kind=5→∃ s,a.sets=[s]
theorem TbOk.tr {tb:List Tb} {s:Sch} {tr:List Tb} (h:TbOk tb) (hl:tb.length≤1000) (hs:zac s.cols) (ht:tr.length≤2∧∀ x∈tr,∃ n,x=trTb n s):TbOk (tb++tr):=by
 refine ⟨by have:=ht.1;simp only [zac,List.length_append];omega,fun x hx=>?_,fun x hx=>?_,fun x hx=>?_⟩ <;> rcases List.mem_append.mp hx with hx|hx
 ·exact h.cols x hx
 ·obtain ⟨n,rfl⟩:=ht.2 x hx
  simpa [trTb] using hs
 ·exact h.rows x hx
 ·obtain ⟨n,rfl⟩:=ht.2 x hx
  simp [trTb]
 ·exact h.vals x hx
 ·obtain ⟨n,rfl⟩:=ht.2 x hx
  intro r hr
  cases hr
end Go.AM
namespace Go.AM
open Go.RowKit
set_option linter.unusedSimpArgs false
set_option linter.unusedVariables false
theorem zqp {xs:List Value} {s:Shp} (h:xs.map shp=[s]):∃ x,xs=[x]∧shp x=s:=by
 cases xs with
 | nil=>simp at h
 | cons x r =>
  cases r with
  | nil=>simp at h;exact ⟨x,rfl,h⟩
  | cons _ _=>simp at h
theorem zof {d:TypeDesc} {k:Value} (hs:∀ (y:Value) (r:Bool),zdp k y=some r→Instr.sameNow d k y=some r):∀ (l:List MapEntry) (rs:List Bool) (n:Nat),rs.length=l.length →
  (∀ (i:Nat) (e:MapEntry) (r:Bool),l[i]?=some e→rs[i]?=some r→∃ ys,e.key=keyV false ys∧zbd [k] ys=some r)→Instr.findNow d k l n=some (zd6 l rs n)
 | [],[],_,_,_=>rfl
 | [],_::_,_,h,_=>by simp at h
 | _::_,[],_,h,_=>by simp at h
 | e::l,r::rs,n,hl,hall=>by
  obtain ⟨ys,h1,h2⟩:=hall 0 e r rfl rfl
  have h3:Instr.sameNow d k e.key=some r:=by
   cases ys with
   | nil=>simp [zbd] at h2
   | cons y ys =>
    simp only [zbd] at h2
    split at h2
    ·rename_i a b q1 q2
     cases ys with
     | cons _ _=>simp [zbd] at q2
     | nil =>
      simp [zbd] at q2
      subst q2
      simp only [Bool.and_true,Option.some.injEq] at h2
      subst h2
      rw [h1]
      exact hs _ _ q1
    ·cases h2
  have ih:=zof hs l rs (n+1) (by simpa using hl) (fun i e r hi hr=>hall (i+1) e r (by simpa using hi) (by simpa using hr))
  unfold Instr.findNow
  rw [h3]
  cases r
  ·exact ih
  ·rfl
theorem zty {P:Program} {t kt et:TypeId} {ik:IntKind} (hu:P.underlying t=some (.map kt et)) (hk:P.underlying kt=some (.int ik)) (n:Int):KeyOK P t (.v (.int ik n)):=by
 refine ⟨⟨false,[.int ik n],rfl,⟨⟨kt,et,hu,fun e w xs hx=>?_,fun w xs l rs hx hl hall=>?_⟩⟩⟩⟩
 ·obtain ⟨x,rfl,h⟩:=zqp hx
  obtain ⟨a,rfl⟩:=zrz h
  exact MapKept.run_checkKey hk (by simp [MapKept.IsKey,keyV]) e 9999
 ·obtain ⟨x,rfl,h⟩:=zqp hx
  obtain ⟨a,rfl⟩:=zrz h
  refine MapKept.run_findKey hk (zof (fun y r hy=>?_) l rs 0 hl hall)
  simp only [keyV,List.headD_cons] at hy ⊢
  cases y <;> simp [zdp] at hy
  obtain ⟨rfl,rfl⟩:=hy
  simp [Instr.sameNow]
theorem zlF {E:Env0} (ht:zaC E) (em:Bool) (d:Nat) (w:World):∀ (fs:List Field) (px xs:List Value),flat E.T px.length fs (xs.map shp)=true →
  (forIn (m:=Sem) fs () fun f _=>do
   if f.name ≠ "_" then Instr.checkKey em (d + 1) f.type (← part f.type (px ++ xs).toArray f.offset)
   pure (ForInStep.yield ())).run E.P w=.ok () w
 | [],px,xs,hf=>by simp
 | f::fs,px,[],hf=>by simp [flat] at hf
 | f::fs,px,x::xs,hf=>by
  simp only [List.map_cons,flat,Bool.and_eq_true,bne_iff_ne] at hf
  obtain ⟨⟨⟨hn,ho⟩,hs⟩,hrest⟩:=hf
  have ho:=Nat.eq_of_beq_eq_true ho
  obtain ⟨hsz,hagg,hne⟩:=zm8 hs
  obtain ⟨i,dd,z,tok⟩:=ht.at_ hne
  have p1:=zg8 tok w (px++x::xs) f.offset (by rw [hsz,ho];simp)
  rw [hsz,ho] at p1
  simp only [List.drop_left,List.take_succ_cons,List.take_zero,ze2,hagg,List.headD_cons] at p1
  have p2:(Instr.checkKey em (d+1) f.type x).run E.P w=.ok () w:=by
   cases x <;> simp [shp,zk4] at hs
   all_goals
    split at hs
    ·rename_i hk
     first
     | (have:=tok.bool_ hk;subst this;exact MapKept.run_checkKey tok.und (by simp [MapKept.IsKey]) em d)
     | (have:=tok.int_ hk;subst this;unfold Instr.checkKey;simp [run_underlying tok.und])
     | (have:=tok.str_ hk;subst this;exact MapKept.run_checkKey tok.und (by simp [MapKept.IsKey]) em d)
    ·cases hs
  have ih:=zlF ht em d w fs (px++[x]) xs (by simpa using hrest)
  simp only [List.append_assoc,List.singleton_append] at ih
  simp only [List.forIn_cons,Sem.run_bind,hn,ne_eq,not_false_eq_true,if_true,ho,p1,p2,Result.andThen_ok,Sem.run_pure]
  exact ih
theorem zkm {P:Program} {kt:TypeId} {ss:List Shp} (hq:StructEq P kt ss) (w:World) {xs:List Value} (hx:xs.map shp=ss):∀ (l:List MapEntry) (rs:List Bool) (n:Nat),rs.length=l.length →
  (∀ (i:Nat) (e:MapEntry) (r:Bool),l[i]?=some e→rs[i]?=some r→∃ ys,e.key=keyV true ys∧zbd xs ys=some r)→(Instr.findAsking kt (.agg xs.toArray) l n).run P w=.ok (zd6 l rs n) w
 | [],[],_,_,_=>by simp [Instr.findAsking,zd6]
 | [],_::_,_,h,_=>by simp at h
 | _::_,[],_,h,_=>by simp at h
 | e::l,r::rs,n,hl,hall=>by
  obtain ⟨ys,h1,h2⟩:=hall 0 e r rfl rfl
  have ih:=zkm hq w hx l rs (n+1) (by simpa using hl) (fun i e r hi hr=>hall (i+1) e r (by simpa using hi) (by simpa using hr))
  have h3:=hq.eq w xs ys r hx h2
  simp only [Instr.findAsking,Sem.run_bind,h1,keyV,h3,Result.andThen_ok]
  cases r
  ·simpa [zd6] using ih
  ·simp [zd6]
theorem zpJ {E:Env0} (ht:zaC E) {t kt et:TypeId} {fs:Array Field} {ss:List Shp} (hu:E.P.underlying t=some (.map kt et)) (hk:E.P.underlying kt=some (.struct fs)) (hf:flat E.T 0 fs.toList ss=true) (hq:StructEq E.P kt ss) {cs:List AV} {xs:List Value}
  (hc:zd7 cs=some xs) (hs:xs.map shp=ss):KeyOK E.P t (.agg cs):=by
 refine ⟨⟨true,xs,by simp [zcg,hc],⟨⟨kt,et,hu,fun e w us hx=>?_,fun w us l rs hx hl hall=>?_⟩⟩⟩⟩
 ·have h1:=zlF ht e 9998 w fs.toList [] us (by rw [hx,hs];exact hf)
  simp only [List.nil_append] at h1
  show (Instr.checkKey e 10000 kt (.agg us.toArray)).run E.P w=.ok () w
  unfold Instr.checkKey
  simp only [Sem.run_bind,run_underlying hk,Result.andThen_ok]
  rw [← Array.forIn_toList]
  have h2:∀ r:Result Unit,r=.ok () w→(r.andThen fun a w'=>(pure ():Sem Unit).run E.P w')=.ok () w:=by
   rintro _ rfl
   rfl
  exact h2 _ h1
 ·show (Instr.findKey kt (.agg us.toArray) l).run E.P w=_
  rw [run_findKey_eq w (by rw [hk]) _ l]
  exact zkm hq w (by rw [hx,hs]) l rs 0 hl hall
end Go.AM
