/-
  Contracts of the program's functions, part 4.
-/
import Derived.Test.YtenlehhclknogaaGreatDoorPartD
namespace Go.AM
set_option maxRecDepth 100000
set_option maxHeartbeats 1000000
set_option linter.unusedSimpArgs false
set_option linter.unusedVariables false
theorem zg2 {p:Prop} (h:p:=by rw [List.take_add_one,hx,List.filter_append,← hI];clear hI;simp only [Option.toList_some,List.filter_cons,List.filter_nil,appl,cond_true,cond_false,if_true, *] <;> try simp):p:=h
theorem zft {p:Prop} (h:p:=by first|assumption|omega|(simp;done)|(simp;omega)):p:=h
theorem zg7 {p:Prop} (h:p:=by first|assumption|exact hTx|omega):p:=h
noncomputable def L_stIx (l:List Str) (v:Str) (i:Nat) :Cfg:=zaw B.slices_Index_string 0 [(0,.sl (l.map zaU)),(1,sv v),(7,iv ((l.map zaU).length:Nat)),(8,iv (i:Nat))] []
def stIx (l:List Str) (v:Str):List (Str)→Nat→Int
 | [],i =>
  -1
 | x::r,i =>
  bif ByteArray.toList v==ByteArray.toList x then
   (i:Int)
  else
   stIx l v r (i+1)
theorem zof (l:List Str) (v:Str) (hl:zae l):∀ (kk i:Nat),i+kk=(l).length→Good E0 B.slices_Index_string [] (L_stIx l v i ) (Shut 0 fun r h=>r=(iv (stIx l v ((l).drop i) i ))∧h=[]):=by
 intro kk
 induction kk with
 | zero =>
  intro i  hi
  have h0:decide (((i:Nat):Int) < (((l.map zaU).length:Nat):Int))=false:=by simp;omega
  have e0:(l).drop i=[]:=List.drop_of_length_le (by omega)
  rw [e0]
  simp only [stIx]
  refine zab ?_
  exact wkr [sb h0] kr
 | succ kk ih =>
  intro i  hi
  obtain ⟨x,hx⟩:=zay (l:=l) (i:=i) (by omega)
  have h0:decide (((i:Nat):Int) < (((l.map zaU).length:Nat):Int))=true:=by simp;omega
  have hw:=zas i (by first|omega|(simp only [zae,Few] at *;omega))
  rw [zbB hx]
  simp only [stIx]
  refine zab ?_
  cases h1:ByteArray.toList v==ByteArray.toList x
  ·exact wkl [sb h0,se (zaj zaU hx rfl),sb h1,si hw] [0,1,7,8] 0 kr (ih (i+1) (by omega) )
  ·exact wkr [sb h0,se (zaj zaU hx rfl),sb h1] kr
def zlG (l:List Str) (v:Str):Int :=
 stIx l v l (0)
theorem zh5 (l:List Str) (v:Str) (hl:zae l):zac E0 S.slices_Index_string [ssl l,sv v] [] (iv (zlG l v)) []:=by
 unfold zlG
 exact wkc At.slices_Index_string [] [0,1,7,8] 0 kr (zof l v hl l.length 0 (by simp))
def hasS (l:List Str) (v:Str):Bool :=
 decide ((0:Int)≤zlG l v)
theorem zgD (l:List Str) (v:Str) (hl:zae l):zac E0 S.slices_Contains_string [ssl l,sv v] [] (bv (hasS l v)) []:=by
 exact wk At.slices_Contains_string [sc (zh5 l v zft)] kr
def hasC (v:Str) (l:List Str):Bool :=
 hasS l v
theorem zdJ (v:Str) (l:List Str) (hl:zae l):zac E0 S.before_Applicable_c1 [sv v,.p 0 0] [.box [ssl l]] (bv (hasC v l)) [.box [ssl l]]:=by
 exact wk At.before_Applicable_c1 [sc (zgD l v zft)] kr
noncomputable def L_ofIx (l s:List Str) (i:Nat) :Cfg:=zaw B.slices_IndexFunc_string 0 [(0,ssl l),(1,.fn S.before_Applicable_c1 [.p 0 0]),(7,iv ((l.map zaU).length:Nat)),(8,iv (i:Nat))] [.box [ssl s]]
def ofIx (l s:List Str):List (Str)→Nat→Int
 | [],i =>
  -1
 | x::r,i =>
  bif hasC x s then
   (i:Int)
  else
   ofIx l s r (i+1)
theorem zom (l s:List Str) (hl:zae l) (hs:zae s):∀ (kk i:Nat),i+kk=(l).length→Good E0 B.slices_IndexFunc_string [.box [ssl s]] (L_ofIx l s i ) (Shut 1 fun r h=>r=(iv (ofIx l s ((l).drop i) i ))∧h=[.box [ssl s]]):=by
 intro kk
 induction kk with
 | zero =>
  intro i  hi
  have h0:decide (((i:Nat):Int) < (((l.map zaU).length:Nat):Int))=false:=by simp;omega
  have e0:(l).drop i=[]:=List.drop_of_length_le (by omega)
  rw [e0]
  simp only [ofIx]
  refine zab ?_
  exact wkr [sb h0] kr
 | succ kk ih =>
  intro i  hi
  obtain ⟨x,hx⟩:=zay (l:=l) (i:=i) (by omega)
  have h0:decide (((i:Nat):Int) < (((l.map zaU).length:Nat):Int))=true:=by simp;omega
  have hw:=zas i (by first|omega|(simp only [zae,Few] at *;omega))
  rw [zbB hx]
  simp only [ofIx]
  refine zab ?_
  cases h1:hasC x s
  ·exact wkl [sb h0,se (zaj (fun s=>[sv s]) hx rfl),sl [0] (zdJ x s zft),sb h1,si hw] [0,1,7,8] 1 kr (ih (i+1) (by omega) )
  ·exact wkr [sb h0,se (zaj (fun s=>[sv s]) hx rfl),sl [0] (zdJ x s zft),sb h1] kr
def zlB (l s:List Str):Int :=
 ofIx l s l (0)
theorem zf1 (l s:List Str) (hl:zae l) (hs:zae s):zac E0 S.slices_IndexFunc_string [ssl l,.fn S.before_Applicable_c1 [.p 0 0]] [.box [ssl s]] (iv (zlB l s)) [.box [ssl s]]:=by
 unfold zlB
 exact wkc At.slices_IndexFunc_string [] [0,1,7,8] 1 kr (zom l s hl hs l.length 0 (by simp))
def zpR (l s:List Str):Bool :=
 decide ((0:Int)≤zlB l s)
theorem zbM (l s:List Str) (hl:zae l) (hs:zae s):zac E0 S.slices_ContainsFunc_string [ssl l,.fn S.before_Applicable_c1 [.p 0 0]] [.box [ssl s]] (bv (zpR l s)) [.box [ssl s]]:=by
 exact wk At.slices_ContainsFunc_string [sl [0] (zf1 l s zft zft)] kr
def appl (table:Str) (ev:Int) (asg:List Str) (each:Bool) (t:Tg):Bool :=
 bif !t.before then false else bif !t.table.toList==table.toList then false else bif t.event != ev then false else bif !t.each==each then false else bif ev != 2 then true else bif (((t.of.map zaU).length:Nat):Int)==0 then true else zpR t.of asg
noncomputable def zeM (N:Nat) (ts:List Tg) (table:Str) (ev:Int) (asg:List Str) (each:Bool) (i:Nat) (out:List Tg):Cfg:=zaw B.before_Applicable 0 [(1,sv table),(2,iv ev),(4,bv each),(8,.p 0 0),(11,.own 1 out.length),(15,.sl (ts.map Tg.cells)),(16,iv ((ts.map Tg.cells).length:Nat)),(17,iv (i:Nat))] [.box [ssl asg],.row Ty.Trigger (out.map Tg.cells) false]
theorem ze3 (N:Nat) (ts:List Tg) (table:Str) (ev:Int) (asg:List Str) (each:Bool) (hl:zae ts) (hs:zae asg) (hT:∀ t∈ts,TgSh N t) (i:Nat) (out:List Tg) (hi:i≤(ts).length) (hI:out=(ts.take i).filter (appl table ev asg each)):∃ (out':List Tg),(out'=(ts.take (ts).length).filter (appl table ev asg each))∧(decide ((((ts).length:Nat):Int) < (((ts.map Tg.cells).length:Nat):Int))=false)∧∀ R,Good E0 B.before_Applicable [] (zeM N ts table ev asg each (ts).length out') R→Good E0 B.before_Applicable [] (zeM N ts table ev asg each i out) R:=by
 obtain ⟨kk,hk⟩:∃ kk,i+kk=(ts).length:=⟨(ts).length - i,by omega⟩
 induction kk generalizing i out with
 | zero =>
  have e0:i=(ts).length:=by omega
  subst e0
  exact ⟨out,hI,by simp,fun R hg=>hg⟩
 | succ kk ih =>
  obtain ⟨x,hx⟩:=zay (l:=ts) (i:=i) (by omega)
  have h0:decide (((i:Nat):Int) < (((ts.map Tg.cells).length:Nat):Int))=true:=by simp;omega
  have hw:IntKind.i64.wrap (((i:Nat):Int)+1)=((i+1:Nat):Int):=zas i (by first|omega|(simp only [zae,Few] at *;omega))
  have hTx:=hT x (List.mem_of_getElem? hx)
  have hof:=hTx.of
  have ho:out.length≤1000000000:=by
   rw [hI];refine Nat.le_trans (List.length_filter_le _ _) ?_;rw [List.length_take];simp only [zae] at hl;omega
  cases h1:!x.before
  ·cases h2:!ByteArray.toList x.table==ByteArray.toList table
   ·cases h3:x.event != ev
    ·cases h4:!x.each==each
     ·cases h5:ev != 2
      ·cases h6:(↑(List.map (fun s=>[sv s]) x.of).length:Int)==0
       ·cases h7:zpR x.of asg
        ·obtain ⟨outZ,qZ,xZ,gZ⟩:=ih (i+1) out (by omega) zg2 (by omega);exact ⟨outZ,qZ,xZ,fun R hg=>zab (wkl [sb h0,se (zaj Tg.cells hx rfl),sg h1,sg h2,sg h3,sb h4,sl [0] (zbM x.of asg zg7 zg7),sg h5,sg h6,sb h7,si hw] [1,2,4,8,11,15,16,17] 2 kr (gZ R hg))⟩
        ·obtain ⟨outZ,qZ,xZ,gZ⟩:=ih (i+1) (out++[x]) (by omega) zg2 (by omega);exact ⟨outZ,qZ,xZ,fun R hg=>zab (wkl (c':=(Cfg.mk (zeM N ts table ev asg each (i+1) (out++[x])).n (zeM N ts table ev asg each (i+1) (out++[x])).todo [(1,sv table),(2,iv ev),(4,bv each),(8,AV.p 0 0),(11,AV.own 1 (List.map Tg.cells out++[[sv x.name,sv x.table,bv x.before,iv x.event,AV.sl (List.map (fun s=>[sv s]) x.of),bv x.each,AV.sl (List.map (fun s=>[sv s]) x.prec),AV.sl (List.map (fun s=>[sv s]) x.foll),AV.sl (List.map Rk.cells x.rank),AV.sl (zaa x.when_),AV.sl (List.map Ac.cells x.acts)]]).length),(15,AV.sl (List.map Tg.cells ts)),(16,iv (↑(List.map Tg.cells ts).length:Int)),(17,iv (↑(i+1):Int))] [Blk.box [AV.sl (List.map (fun s=>[sv s]) asg)],Blk.row Ty.Trigger (List.map Tg.cells out++[[sv x.name,sv x.table,bv x.before,iv x.event,AV.sl (List.map (fun s=>[sv s]) x.of),bv x.each,AV.sl (List.map (fun s=>[sv s]) x.prec),AV.sl (List.map (fun s=>[sv s]) x.foll),AV.sl (List.map Rk.cells x.rank),AV.sl (zaa x.when_),AV.sl (List.map Ac.cells x.acts)]]) false])) [sb h0,se (zaj Tg.cells hx rfl),sg h1,sg h2,sg h3,sb h4,sl [0] (zbM x.of asg zg7 zg7),sg h5,sg h6,sb h7,sc (zff N x hTx),sqx (AllLen [[sv x.name,sv x.table,bv x.before,iv x.event,AV.sl (List.map (fun s=>[sv s]) x.of),bv x.each,AV.sl (List.map (fun s=>[sv s]) x.prec),AV.sl (List.map (fun s=>[sv s]) x.foll),AV.sl (List.map Rk.cells x.rank),AV.sl (zaa x.when_),AV.sl (List.map Ac.cells x.acts)]] 11∧out.length=(List.map Tg.cells out).length∧(((List.map Tg.cells out).length+[[sv x.name,sv x.table,bv x.before,iv x.event,AV.sl (List.map (fun s=>[sv s]) x.of),bv x.each,AV.sl (List.map (fun s=>[sv s]) x.prec),AV.sl (List.map (fun s=>[sv s]) x.foll),AV.sl (List.map Rk.cells x.rank),AV.sl (zaa x.when_),AV.sl (List.map Ac.cells x.acts)]].length) * 200).le 140737488355328),si hw] [1,2,4,8,11,15,16,17] 2 kr (zao (show ([(1,sv table),(2,iv ev),(4,bv each),(8,AV.p 0 0),(11,AV.own 1 (List.map Tg.cells out++[[sv x.name,sv x.table,bv x.before,iv x.event,AV.sl (List.map (fun s=>[sv s]) x.of),bv x.each,AV.sl (List.map (fun s=>[sv s]) x.prec),AV.sl (List.map (fun s=>[sv s]) x.foll),AV.sl (List.map Rk.cells x.rank),AV.sl (zaa x.when_),AV.sl (List.map Ac.cells x.acts)]]).length),(15,AV.sl (List.map Tg.cells ts)),(16,iv (↑(List.map Tg.cells ts).length:Int)),(17,iv (↑(i+1):Int))]:TS)=[(1,sv table),(2,iv ev),(4,bv each),(8,AV.p 0 0),(11,AV.own 1 (out++[x]).length),(15,AV.sl (List.map Tg.cells ts)),(16,iv (↑(List.map Tg.cells ts).length:Int)),(17,iv (↑(i+1):Int))] by first|rfl|(simp;done)|(simp [X.cells,Qy.cells,V.cells,Col.cells,Rw.cells,Tb.cells,Fr.cells,Sch.cells,Tp.cells,Pl.cells,xCol,xLit,xBin,xNeg,Tg.cells];done)) (show ([Blk.box [AV.sl (List.map (fun s=>[sv s]) asg)],Blk.row Ty.Trigger (List.map Tg.cells out++[[sv x.name,sv x.table,bv x.before,iv x.event,AV.sl (List.map (fun s=>[sv s]) x.of),bv x.each,AV.sl (List.map (fun s=>[sv s]) x.prec),AV.sl (List.map (fun s=>[sv s]) x.foll),AV.sl (List.map Rk.cells x.rank),AV.sl (zaa x.when_),AV.sl (List.map Ac.cells x.acts)]]) false]:Heap)=[Blk.box [AV.sl (List.map (fun s=>[sv s]) asg)],Blk.row Ty.Trigger (List.map Tg.cells (out++[x])) false] by first|rfl|(simp;done)|(simp [X.cells,Qy.cells,V.cells,Col.cells,Rw.cells,Tb.cells,Fr.cells,Sch.cells,Tp.cells,Pl.cells,xCol,xLit,xBin,xNeg,Tg.cells];done)) (gZ R hg)))⟩
       ·obtain ⟨outZ,qZ,xZ,gZ⟩:=ih (i+1) (out++[x]) (by omega) zg2 (by omega);exact ⟨outZ,qZ,xZ,fun R hg=>zab (wkl (c':=(Cfg.mk (zeM N ts table ev asg each (i+1) (out++[x])).n (zeM N ts table ev asg each (i+1) (out++[x])).todo [(1,sv table),(2,iv ev),(4,bv each),(8,AV.p 0 0),(11,AV.own 1 (List.map Tg.cells out++[[sv x.name,sv x.table,bv x.before,iv x.event,AV.sl (List.map (fun s=>[sv s]) x.of),bv x.each,AV.sl (List.map (fun s=>[sv s]) x.prec),AV.sl (List.map (fun s=>[sv s]) x.foll),AV.sl (List.map Rk.cells x.rank),AV.sl (zaa x.when_),AV.sl (List.map Ac.cells x.acts)]]).length),(15,AV.sl (List.map Tg.cells ts)),(16,iv (↑(List.map Tg.cells ts).length:Int)),(17,iv (↑(i+1):Int))] [Blk.box [AV.sl (List.map (fun s=>[sv s]) asg)],Blk.row Ty.Trigger (List.map Tg.cells out++[[sv x.name,sv x.table,bv x.before,iv x.event,AV.sl (List.map (fun s=>[sv s]) x.of),bv x.each,AV.sl (List.map (fun s=>[sv s]) x.prec),AV.sl (List.map (fun s=>[sv s]) x.foll),AV.sl (List.map Rk.cells x.rank),AV.sl (zaa x.when_),AV.sl (List.map Ac.cells x.acts)]]) false])) [sb h0,se (zaj Tg.cells hx rfl),sg h1,sg h2,sg h3,sb h4,sl [0] (zbM x.of asg zg7 zg7),sg h5,sb h6,sc (zff N x hTx),sqx (AllLen [[sv x.name,sv x.table,bv x.before,iv x.event,AV.sl (List.map (fun s=>[sv s]) x.of),bv x.each,AV.sl (List.map (fun s=>[sv s]) x.prec),AV.sl (List.map (fun s=>[sv s]) x.foll),AV.sl (List.map Rk.cells x.rank),AV.sl (zaa x.when_),AV.sl (List.map Ac.cells x.acts)]] 11∧out.length=(List.map Tg.cells out).length∧(((List.map Tg.cells out).length+[[sv x.name,sv x.table,bv x.before,iv x.event,AV.sl (List.map (fun s=>[sv s]) x.of),bv x.each,AV.sl (List.map (fun s=>[sv s]) x.prec),AV.sl (List.map (fun s=>[sv s]) x.foll),AV.sl (List.map Rk.cells x.rank),AV.sl (zaa x.when_),AV.sl (List.map Ac.cells x.acts)]].length) * 200).le 140737488355328),si hw] [1,2,4,8,11,15,16,17] 2 kr (zao (show ([(1,sv table),(2,iv ev),(4,bv each),(8,AV.p 0 0),(11,AV.own 1 (List.map Tg.cells out++[[sv x.name,sv x.table,bv x.before,iv x.event,AV.sl (List.map (fun s=>[sv s]) x.of),bv x.each,AV.sl (List.map (fun s=>[sv s]) x.prec),AV.sl (List.map (fun s=>[sv s]) x.foll),AV.sl (List.map Rk.cells x.rank),AV.sl (zaa x.when_),AV.sl (List.map Ac.cells x.acts)]]).length),(15,AV.sl (List.map Tg.cells ts)),(16,iv (↑(List.map Tg.cells ts).length:Int)),(17,iv (↑(i+1):Int))]:TS)=[(1,sv table),(2,iv ev),(4,bv each),(8,AV.p 0 0),(11,AV.own 1 (out++[x]).length),(15,AV.sl (List.map Tg.cells ts)),(16,iv (↑(List.map Tg.cells ts).length:Int)),(17,iv (↑(i+1):Int))] by first|rfl|(simp;done)|(simp [X.cells,Qy.cells,V.cells,Col.cells,Rw.cells,Tb.cells,Fr.cells,Sch.cells,Tp.cells,Pl.cells,xCol,xLit,xBin,xNeg,Tg.cells];done)) (show ([Blk.box [AV.sl (List.map (fun s=>[sv s]) asg)],Blk.row Ty.Trigger (List.map Tg.cells out++[[sv x.name,sv x.table,bv x.before,iv x.event,AV.sl (List.map (fun s=>[sv s]) x.of),bv x.each,AV.sl (List.map (fun s=>[sv s]) x.prec),AV.sl (List.map (fun s=>[sv s]) x.foll),AV.sl (List.map Rk.cells x.rank),AV.sl (zaa x.when_),AV.sl (List.map Ac.cells x.acts)]]) false]:Heap)=[Blk.box [AV.sl (List.map (fun s=>[sv s]) asg)],Blk.row Ty.Trigger (List.map Tg.cells (out++[x])) false] by first|rfl|(simp;done)|(simp [X.cells,Qy.cells,V.cells,Col.cells,Rw.cells,Tb.cells,Fr.cells,Sch.cells,Tp.cells,Pl.cells,xCol,xLit,xBin,xNeg,Tg.cells];done)) (gZ R hg)))⟩
      ·obtain ⟨outZ,qZ,xZ,gZ⟩:=ih (i+1) (out++[x]) (by omega) zg2 (by omega);exact ⟨outZ,qZ,xZ,fun R hg=>zab (wkl (c':=(Cfg.mk (zeM N ts table ev asg each (i+1) (out++[x])).n (zeM N ts table ev asg each (i+1) (out++[x])).todo [(1,sv table),(2,iv ev),(4,bv each),(8,AV.p 0 0),(11,AV.own 1 (List.map Tg.cells out++[[sv x.name,sv x.table,bv x.before,iv x.event,AV.sl (List.map (fun s=>[sv s]) x.of),bv x.each,AV.sl (List.map (fun s=>[sv s]) x.prec),AV.sl (List.map (fun s=>[sv s]) x.foll),AV.sl (List.map Rk.cells x.rank),AV.sl (zaa x.when_),AV.sl (List.map Ac.cells x.acts)]]).length),(15,AV.sl (List.map Tg.cells ts)),(16,iv (↑(List.map Tg.cells ts).length:Int)),(17,iv (↑(i+1):Int))] [Blk.box [AV.sl (List.map (fun s=>[sv s]) asg)],Blk.row Ty.Trigger (List.map Tg.cells out++[[sv x.name,sv x.table,bv x.before,iv x.event,AV.sl (List.map (fun s=>[sv s]) x.of),bv x.each,AV.sl (List.map (fun s=>[sv s]) x.prec),AV.sl (List.map (fun s=>[sv s]) x.foll),AV.sl (List.map Rk.cells x.rank),AV.sl (zaa x.when_),AV.sl (List.map Ac.cells x.acts)]]) false])) [sb h0,se (zaj Tg.cells hx rfl),sg h1,sg h2,sg h3,sb h4,sl [0] (zbM x.of asg zg7 zg7),sb h5,sc (zff N x hTx),sqx (AllLen [[sv x.name,sv x.table,bv x.before,iv x.event,AV.sl (List.map (fun s=>[sv s]) x.of),bv x.each,AV.sl (List.map (fun s=>[sv s]) x.prec),AV.sl (List.map (fun s=>[sv s]) x.foll),AV.sl (List.map Rk.cells x.rank),AV.sl (zaa x.when_),AV.sl (List.map Ac.cells x.acts)]] 11∧out.length=(List.map Tg.cells out).length∧(((List.map Tg.cells out).length+[[sv x.name,sv x.table,bv x.before,iv x.event,AV.sl (List.map (fun s=>[sv s]) x.of),bv x.each,AV.sl (List.map (fun s=>[sv s]) x.prec),AV.sl (List.map (fun s=>[sv s]) x.foll),AV.sl (List.map Rk.cells x.rank),AV.sl (zaa x.when_),AV.sl (List.map Ac.cells x.acts)]].length) * 200).le 140737488355328),si hw] [1,2,4,8,11,15,16,17] 2 kr (zao (show ([(1,sv table),(2,iv ev),(4,bv each),(8,AV.p 0 0),(11,AV.own 1 (List.map Tg.cells out++[[sv x.name,sv x.table,bv x.before,iv x.event,AV.sl (List.map (fun s=>[sv s]) x.of),bv x.each,AV.sl (List.map (fun s=>[sv s]) x.prec),AV.sl (List.map (fun s=>[sv s]) x.foll),AV.sl (List.map Rk.cells x.rank),AV.sl (zaa x.when_),AV.sl (List.map Ac.cells x.acts)]]).length),(15,AV.sl (List.map Tg.cells ts)),(16,iv (↑(List.map Tg.cells ts).length:Int)),(17,iv (↑(i+1):Int))]:TS)=[(1,sv table),(2,iv ev),(4,bv each),(8,AV.p 0 0),(11,AV.own 1 (out++[x]).length),(15,AV.sl (List.map Tg.cells ts)),(16,iv (↑(List.map Tg.cells ts).length:Int)),(17,iv (↑(i+1):Int))] by first|rfl|(simp;done)|(simp [X.cells,Qy.cells,V.cells,Col.cells,Rw.cells,Tb.cells,Fr.cells,Sch.cells,Tp.cells,Pl.cells,xCol,xLit,xBin,xNeg,Tg.cells];done)) (show ([Blk.box [AV.sl (List.map (fun s=>[sv s]) asg)],Blk.row Ty.Trigger (List.map Tg.cells out++[[sv x.name,sv x.table,bv x.before,iv x.event,AV.sl (List.map (fun s=>[sv s]) x.of),bv x.each,AV.sl (List.map (fun s=>[sv s]) x.prec),AV.sl (List.map (fun s=>[sv s]) x.foll),AV.sl (List.map Rk.cells x.rank),AV.sl (zaa x.when_),AV.sl (List.map Ac.cells x.acts)]]) false]:Heap)=[Blk.box [AV.sl (List.map (fun s=>[sv s]) asg)],Blk.row Ty.Trigger (List.map Tg.cells (out++[x])) false] by first|rfl|(simp;done)|(simp [X.cells,Qy.cells,V.cells,Col.cells,Rw.cells,Tb.cells,Fr.cells,Sch.cells,Tp.cells,Pl.cells,xCol,xLit,xBin,xNeg,Tg.cells];done)) (gZ R hg)))⟩
     ·obtain ⟨outZ,qZ,xZ,gZ⟩:=ih (i+1) out (by omega) zg2 (by omega);exact ⟨outZ,qZ,xZ,fun R hg=>zab (wkl [sb h0,se (zaj Tg.cells hx rfl),sg h1,sg h2,sg h3,sb h4,si hw] [1,2,4,8,11,15,16,17] 2 kr (gZ R hg))⟩
    ·obtain ⟨outZ,qZ,xZ,gZ⟩:=ih (i+1) out (by omega) zg2 (by omega);exact ⟨outZ,qZ,xZ,fun R hg=>zab (wkl [sb h0,se (zaj Tg.cells hx rfl),sg h1,sg h2,sb h3,si hw] [1,2,4,8,11,15,16,17] 2 kr (gZ R hg))⟩
   ·obtain ⟨outZ,qZ,xZ,gZ⟩:=ih (i+1) out (by omega) zg2 (by omega);exact ⟨outZ,qZ,xZ,fun R hg=>zab (wkl [sb h0,se (zaj Tg.cells hx rfl),sg h1,sb h2,si hw] [1,2,4,8,11,15,16,17] 2 kr (gZ R hg))⟩
  ·obtain ⟨outZ,qZ,xZ,gZ⟩:=ih (i+1) out (by omega) zg2 (by omega);exact ⟨outZ,qZ,xZ,fun R hg=>zab (wkl [sb h0,se (zaj Tg.cells hx rfl),sb h1,si hw] [1,2,4,8,11,15,16,17] 2 kr (gZ R hg))⟩
theorem ziY (N:Nat) (ts:List Tg) (table:Str) (ev:Int) (asg:List Str) (each:Bool) (hl:zae ts) (hs:zae asg) (hT:∀ t∈ts,TgSh N t):∃ (out:List Tg),out=ts.filter (appl table ev asg each)∧zac E0 S.before_Applicable [.sl (ts.map Tg.cells),sv table,iv ev,ssl asg,bv each] [] (.sl (out.map Tg.cells)) []:=by
 obtain ⟨out1,q1,q1_1,g1⟩:=ze3 N ts table ev asg each zft zft hT 0 ([]) zft zft
 exact ⟨out1,by rw [List.take_length] at *;assumption,wkc At.before_Applicable (c':=(Cfg.mk (zeM N ts table ev asg each 0 []).n (zeM N ts table ev asg each 0 []).todo [(1,sv table),(2,iv ev),(4,bv each),(8,AV.p 0 0),(11,AV.nl),(15,AV.sl (List.map Tg.cells ts)),(16,iv (↑(List.map Tg.cells ts).length:Int)),(17,iv 0)] [Blk.box [AV.sl (List.map (fun s=>[sv s]) asg)]])) [] [1,2,4,8,11,15,16,17] 1 kr (za6 (c':=zeM N ts table ev asg each 0 []) 11 Ty.Trigger [1,2,4,8,11,15,16,17] 2 kr kr kr (g1 _ (zab (wkr [sqx (out1.length=(List.map Tg.cells out1).length),sb q1_1] kr))))⟩
theorem ziV (N:Nat) (ts:List Tg) (table:Str) (ev:Int) (asg:List Str) (each:Bool) (hl:zae ts) (hs:zae asg) (hT:∀ t∈ts,TgSh N t):zac E0 S.before_Applicable [.sl (ts.map Tg.cells),sv table,iv ev,ssl asg,bv each] [] (.sl ((ts.filter (appl table ev asg each)).map Tg.cells)) []:=by
 obtain ⟨out,rfl,h⟩:=ziY N ts table ev asg each hl hs hT
 exact h
end Go.AM
namespace Go.AM
set_option maxRecDepth 100000
set_option maxHeartbeats 1000000
set_option linter.unusedSimpArgs false
set_option linter.unusedVariables false
theorem zrR (l:List Int) (h:(l.take 500).length≤500):Tp.cells ⟨l.take 500,0,h⟩=[.sl (((l.map fun n=>[iv n]).take 500).drop 0),iv 0]:=by simp [Tp.cells,List.map_take]
theorem zol (l:List Int):∃ (t:Tp),zac E0 S.world_New [isl l] [] (.p 0 0) [.box t.cells]:=by
 cases h1:decide ((500:Int) < (((l.map fun n=>[iv n]).length:Nat):Int))
 ·exact ⟨⟨l,0,by simp at h1;omega⟩,wkK At.world_New [sb h1] kr⟩
 ·refine ⟨⟨l.take 500,0,by simp;omega⟩,?_⟩
  rw [zrR]
  exact wkK At.world_New [sb h1,sq (show SubAt (l.map fun n=>[iv n]) 0 500 1 from ⟨by decide,by decide,by simpa using Int.le_of_lt (by simpa using h1),by simp⟩)] kr
structure FsT (frs:List Fr):Prop where
 len:frs.length≤900
 rows:∀ f∈frs,zg8 f.cols f.vals
 few:∀ f∈frs,Few f.cols
def schT:Sch:=⟨⟨#[116]⟩,[⟨⟨#[105,100]⟩,1,true,true⟩,⟨⟨#[110]⟩,1,false,false⟩,⟨⟨#[98]⟩,2,false,false⟩,⟨⟨#[115]⟩,3,false,false⟩]⟩
theorem zr4:zam ⟨#[116]⟩=schT:=by kernel_rfl
theorem zsb:SchOk schT:=zd5 (by simp [zan,schT])
def zrI (n:Int):V :=
 V.mk 1 n (ByteArray.mk #[])
theorem ziK (n:Int) :zac E0 S.ref1_Number [iv n] [] ((zrI n).av) []:=by
 exact wk At.ref1_Number [] kr
def zjG:Sch:=⟨⟨#[108,111,103]⟩,[⟨⟨#[110]⟩,1,false,false⟩,⟨⟨#[115]⟩,3,false,false⟩]⟩
theorem zqz:zam ⟨#[108,111,103]⟩=zjG:=by kernel_rfl
end Go.AM
namespace Go.AM
set_option maxRecDepth 100000
set_option maxHeartbeats 1000000
set_option linter.unusedSimpArgs false
set_option linter.unusedVariables false
/- known -/
@[simp] theorem ba_self (s:Str):(s==s)=true:=by
 cases s with
 | mk d =>
  have h:(d==d)=true:=by simp
  exact h
def setA (c:Str) (e:X):Ac :=
 Ac.mk 5 (ByteArray.mk #[]) [] [] [Se.mk c e] [] (ByteArray.mk #[])
theorem zcp (c:Str) (e:X) :zac E0 S.law20_set [sv c,e.av] [] ((setA c e).av) []:=by
 unfold setA
 exact (by (try simp only [X.av,Qy.av,V.av,Tb.av,Sch.av,Pl.av,xsl,fsl,vsl,tsl,List.map_append,List.map_cons,List.map_nil,V.cells,Col.cells,Rw.cells,Tb.cells,Fr.cells,Sch.cells,Pl.cells,zaJ,zai,zal,zaq,zau,X.cells,Qy.cells,X.args_mk,X.sub_mk,Qy.items_mk,Qy.wh_mk,xCol,xLit,xBin,xNeg,Im.cells,Lk.cells,Ac.cells,Se.cells,Tg.cells,setA]);exact wk At.law20_set [] kr)
noncomputable def L_eqV (l:List V) (i:Nat) :Cfg:=zaw B.slices_Equal_Value 0 [(0,vsl l),(1,vsl l),(12,iv ((l.map V.cells).length:Nat)),(13,iv (i:Nat))] []
theorem zeJ (l:List V) (hl:zae l) (i:Nat)  (hi:i≤(l).length) (hI:True):(True)∧(decide ((((l).length:Nat):Int) < (((l.map V.cells).length:Nat):Int))=false)∧∀ R,Good E0 B.slices_Equal_Value [] (L_eqV l (l).length ) R→Good E0 B.slices_Equal_Value [] (L_eqV l i ) R:=by
 obtain ⟨kk,hk⟩:∃ kk,i+kk=(l).length:=⟨(l).length - i,by omega⟩
 induction kk generalizing i  hI with
 | zero =>
  have e0:i=(l).length:=by omega
  subst e0
  exact ⟨hI,by simp,fun R hg=>hg⟩
 | succ kk ih =>
  obtain ⟨x,hx⟩:=zay (l:=l) (i:=i) (by omega)
  have h0:decide (((i:Nat):Int) < (((l.map V.cells).length:Nat):Int))=true:=by simp;omega
  have hw:IntKind.i64.wrap (((i:Nat):Int)+1)=((i+1:Nat):Int):=zas i (by first|omega|(simp only [zae,Few] at *;omega))
  cases h1:!(x.kind==x.kind&&(x.int==x.int&&(x.text==x.text&&true)))
  ·obtain ⟨qZ,xZ,gZ⟩:=ih (i+1) (by omega) (by first|trivial|assumption|(simp;done)|omega|(simp;omega)|(simp at *;omega)) (by omega);exact ⟨qZ,xZ,fun R hg=>zab (wkl [sb h0,sd [(2,[se (zaj V.cells hx rfl)]),(6,[se (zaj V.cells hx rfl)]),(8,[sq zaM])],sb h1,si hw] [0,1,12,13] 0 kr (gZ R hg))⟩
  ·exact False.elim (by simp at *)
theorem zii (l:List V) (hl:zae l):∃ (r:Bool),r=true∧zac E0 S.slices_Equal_Value [vsl l,vsl l] [] (bv r) []:=by
 cases h1:(↑(List.map V.cells l).length:Int) != (↑(List.map V.cells l).length:Int)
 ·obtain ⟨q2,q2_1,g2⟩:=zeJ l (by first|assumption|omega|(simp;done)|(simp;omega)) 0 (by first|assumption|omega|(simp;done)|(simp;omega)) (by first|assumption|omega|(simp;done)|(simp;omega))
  exact ⟨true,by first|rfl|(exfalso;simp at *;done),wkc At.slices_Equal_Value [sb h1] [0,1,12,13] 0 kr (g2 _ (zab (wkr [sb q2_1] kr)))⟩
 ·exact ⟨false,by first|rfl|(exfalso;simp at *;done),wk At.slices_Equal_Value [sb h1] kr⟩
def exK:X:=xBin 9 (xCol ⟨#[78,69,87]⟩ ⟨#[110]⟩) (xNum 1)
def tgK:Tg:=⟨⟨#[97]⟩,⟨#[108,111,103]⟩,true,1,[],true,[],[],[],[],[setA ⟨#[110]⟩ exK]⟩
def rowK:List V:=[⟨1,4,⟨#[]⟩⟩,⟨0,0,⟨#[]⟩⟩]
def newK:List V:=[⟨1,5,⟨#[]⟩⟩,⟨0,0,⟨#[]⟩⟩]
theorem zpf:bRow 7 [tgK] [] zjG [] rowK [] []=(newK,[],[],0):=by kernel_rfl
theorem zpV:[tgK].filter (appl ⟨#[108,111,103]⟩ 1 [] true)=[tgK]:=by kernel_rfl
theorem zp9:TgOk 7 tgK:=by
 refine ⟨by simp [tgK],by simp [tgK],by simp [tgK],by simp [tgK],by simp [tgK],by simp [tgK],by simp [tgK],?_⟩
 simp only [tgK,List.mem_singleton,forall_eq]
 refine ⟨by simp [setA],by simp [setA],by simp [setA],by simp [setA],by simp [setA],?_,by simp [setA],by simp [setA]⟩
 simp only [setA,List.mem_singleton,forall_eq]
 exact zdS (zec ⟨_,_,rfl⟩) (zcF (by omega) (by omega))
theorem TgOk.tr {n:Nat} {t:Tg} (h:TgOk (n+1) t):TrOk (n+1) t:=by
 refine ⟨zaI h.acts,fun a ha=>?_,h.when_⟩
 have h1:=(h.act a ha).set
 unfold Ac.set0
 cases hs:a.sets with
 | nil=>exact ⟨zaP,⟨by simp [zeQ],by simp [zeQ]⟩,fun x hx=>by simp [zeQ] at hx,fun q hq=>by simp [zeQ] at hq⟩
 | cons x r=>rw [hs] at h1;exact h1 x (by simp)
theorem zsk:NwOk rowK:=⟨by decide,fun v hv=>by
 simp only [rowK,List.mem_cons,List.not_mem_nil,or_false] at hv
 rcases hv with rfl|rfl
 ·exact zbq (by decide)
 ·exact zaP⟩
theorem zrs:TbOk []:=⟨by decide,fun _ h=>by simp at h,fun _ h=>by simp at h,fun _ h=>by simp at h⟩
theorem zsg:TbG []:=⟨fun _ h=>by simp at h,fun _ h=>by simp at h⟩
theorem ziX:zac E0 S.before_Row [.sl ([tgK].map Tg.cells),.sl [],zjG.av,.sl [],vsl rowK,.sl [],.sl []] [] (.tup [vsl newK,isl [],isl [],iv 0]) []:=by
 have h:=zjp 7 [tgK] [] zjG [] rowK [] [] (by decide) (by decide) (by decide) (by decide) ⟨by decide,fun v hv=>by simp at hv⟩ zrs zsg (by decide) (fun t ht=>by simp only [List.mem_singleton] at ht;exact ht ▸ zp9.tr) zsk (by decide) (by decide)
 rw [zpf] at h
 exact h
theorem zfR:zac E0 S.before_Applicable [.sl ([tgK].map Tg.cells),sv ⟨#[108,111,103]⟩,iv 1,.sl [],bv true] [] (.sl ([tgK].map Tg.cells)) []:=by
 have h:=ziV 7 [tgK] ⟨#[108,111,103]⟩ 1 [] true (by decide) (by decide) (fun t ht=>by simp only [List.mem_singleton] at ht;exact ht ▸ zp9.sh)
 rw [zpV] at h
 exact h
theorem zfz:zac E0 S.slices_Equal_Value [vsl newK,vsl newK] [] (bv true) []:=by
 obtain ⟨r,rfl,h⟩:=zii newK (by decide)
 exact h
theorem zmd  :∃ (r:Bool),r=true∧zac E0 S.law20_known [] [] (bv r) []:=by
 exact ⟨(↑(List.map Tg.cells [tgK]).length:Int)==(1:Int),by rfl,(by (try simp only [X.av,Qy.av,V.av,Tb.av,Sch.av,Pl.av,xsl,fsl,vsl,tsl,List.map_append,List.map_cons,List.map_nil,V.cells,Col.cells,Rw.cells,Tb.cells,Fr.cells,Sch.cells,Pl.cells,zaJ,zai,zal,zaq,zau,X.cells,Qy.cells,X.args_mk,X.sub_mk,Qy.items_mk,Qy.wh_mk,xCol,xLit,xBin,xNeg,Im.cells,Lk.cells,Ac.cells,Se.cells,Tg.cells,setA]);exact wk At.law20_known [sc (zbj (ByteArray.mk #[108,111,103]) (by first|assumption|exact zdj|omega)),sc (zaL (ByteArray.mk #[78,69,87]) (ByteArray.mk #[110])),sc (zaX 1 (by first|assumption|exact zdj|omega)),sc (zaB 9 (xCol (ByteArray.mk #[78,69,87]) (ByteArray.mk #[110])) (xNum 1)),sc (zcp (ByteArray.mk #[110]) (xBin 9 (xCol (ByteArray.mk #[78,69,87]) (ByteArray.mk #[110])) (xNum 1))),sd [(3,[sc (ziK 4)]),(6,[sc ziX])],sg (rfl:true=true),sc (ziK 5),sc zfz,sg (rfl:true=true),sc zfR] kr)⟩
theorem ziL:zac E0 S.law20_known [] [] (bv true) []:=by
 obtain ⟨r,rfl,h⟩:=zmd
 exact h
end Go.AM
namespace Go.AM
set_option maxRecDepth 100000
set_option maxHeartbeats 1000000
set_option linter.unusedSimpArgs false
set_option linter.unusedVariables false
theorem zaE {p:Prop} (h:p:=by first|assumption|omega|(simp;done)|(simp;omega)):p:=h
theorem zcx {p:Prop} (h:p:=by first|trivial|assumption|(simp;done)|omega|(simp;omega)|(simp at *;omega)):p:=h
theorem zh3 {p:Prop} (h:p:=by first|assumption|omega|exact List.mem_of_getElem? (by assumption)|(simp;done)|(simp;omega)|(simp only [beq_eq_false_iff_ne,ne_eq,ziR,zdP,List.length_map,decide_eq_false_iff_not,decide_eq_true_eq] at *;omega)):p:=h
theorem zgu {p:Prop} (h:p:=by first|omega|(simp only [zae,Few] at *;omega)):p:=h
theorem zm6 {p:Prop} (h:p:=by first|omega|(simp only [decide_eq_false_iff_not,decide_eq_true_eq] at *;omega)):p:=h
theorem zno {s:Str} {i:Int} (h:0≤i∧i < ((s.size:Nat):Int)):∃ c:UInt8,ByteAt s i ((c.toNat:Nat):Int):=by
 obtain ⟨n,rfl⟩:=Int.eq_ofNat_of_zero_le h.1
 have hlt:n < s.size:=by omega
 exact ⟨s[n],⟨by omega,by simp [hlt]⟩⟩
theorem ziP (c:Int) :∃ (r:Bool),zac E0 S.ref4_Letter [.v (.int .u8 c)] [] (bv r) []:=by
 cases h1:decide (97≤c)
 ·exact ⟨false,wk At.ref4_Letter [sb h1] kr⟩
 ·exact ⟨decide (c≤(122:Int)),wk At.ref4_Letter [sg h1] kr⟩
theorem zmS (c:Int) :∃ (r:Bool),zac E0 S.ref4_Digit [.v (.int .u8 c)] [] (bv r) []:=by
 cases h1:decide (48≤c)
 ·exact ⟨false,wk At.ref4_Digit [sb h1] kr⟩
 ·exact ⟨decide (c≤(57:Int)),wk At.ref4_Digit [sg h1] kr⟩
noncomputable def L_vn (s:Str) (i:Nat) :Cfg:=zaw B.ref4_ValidName 0 [(0,sv s),(3,iv (i:Nat))] []
theorem zgb (s:Str) (hs:decide ((12:Int) < ((s.size:Nat):Int))=false) (i:Nat)  (hi:i≤(s.size)) (hI:True):((True)∧(decide ((((s.size):Nat):Int) < (((s.size):Nat):Int))=false)∧∀ R,Good E0 B.ref4_ValidName [] (L_vn s s.size ) R→Good E0 B.ref4_ValidName [] (L_vn s i ) R)∨(∃ (r:Bool),Good E0 B.ref4_ValidName [] (L_vn s i ) (Shut 0 fun rZ hZ=>rZ=(bv r)∧hZ=[])):=by
 obtain ⟨kk,hk⟩:∃ kk,i+kk=(s.size):=⟨(s.size) - i,by omega⟩
 induction kk generalizing i  hI with
 | zero =>
  have e0:i=(s.size):=by omega
  subst e0
  exact .inl ⟨hI,by simp,fun R hg=>hg⟩
 | succ kk ih =>
  have h0:decide (((i:Nat):Int) < (((s.size):Nat):Int))=true:=by simp;omega
  have hw:IntKind.i64.wrap (((i:Nat):Int)+1)=((i+1:Nat):Int):=zas i (by (simp only [decide_eq_false_iff_not] at hs;omega))
  obtain ⟨c1,b1⟩:=zno (s:=s) (i:=(i:Int)) zm6
  obtain ⟨r2,c2⟩:=(ziP ((c1.toNat:Int)))
  cases h3:!r2
  ·exact (ih (i+1) (by omega) zcx (by omega)).elim (fun ⟨qZ,xZ,gZ⟩=>.inl ⟨qZ,xZ,fun R hg=>zab (wkl [sb h0,sy b1,sc c2,sb h3,si hw] [0,3] 0 kr (gZ R hg))⟩) (fun ⟨rY,gZ⟩=>.inr ⟨rY,zab (wkl [sb h0,sy b1,sc c2,sb h3,si hw] [0,3] 0 kr gZ)⟩)
  ·obtain ⟨r4,c4⟩:=(zmS ((c1.toNat:Int)))
   let p_1:List St:=[sb h0,sy b1,sc c2,sg h3,sy b1,sc c4]
   let p_2:List St:=[sb h0,sy b1,sc c2,sg h3,sy b1,sc c4]
   cases h5:!r4
   ·exact (ih (i+1) (by omega) zcx (by omega)).elim (fun ⟨qZ,xZ,gZ⟩=>.inl ⟨qZ,xZ,fun R hg=>zab (wkl (p_1++[sb h5,si hw]) [0,3] 0 kr (gZ R hg))⟩) (fun ⟨rY,gZ⟩=>.inr ⟨rY,zab (wkl (p_2++[sb h5,si hw]) [0,3] 0 kr gZ)⟩)
   ·cases h6:(c1.toNat:Int) != 95
    ·exact (ih (i+1) (by omega) zcx (by omega)).elim (fun ⟨qZ,xZ,gZ⟩=>.inl ⟨qZ,xZ,fun R hg=>zab (wkl (p_1++[sg h5,sy b1,sb h6,si hw]) [0,3] 0 kr (gZ R hg))⟩) (fun ⟨rY,gZ⟩=>.inr ⟨rY,zab (wkl (p_2++[sg h5,sy b1,sb h6,si hw]) [0,3] 0 kr gZ)⟩)
    ·exact .inr ⟨false,zab (wkr (p_1++[sg h5,sy b1,sb h6]) kr)⟩
theorem zax (s:Str) :∃ (r:Bool),zac E0 S.ref4_ValidName [sv s] [] (bv r) []:=by
 cases h1:decide ((↑(ByteArray.size s):Int) < 1)
 ·cases h2:decide (12 < (↑(ByteArray.size s):Int))
  ·obtain ⟨c3,b3⟩:=zno (s:=s) (i:=(0:Int)) zm6
   obtain ⟨r4,c4⟩:=(ziP ((c3.toNat:Int)))
   cases h5:!r4
   ·rcases zgb s zaE 0 zaE zaE with ⟨q6,q6_1,g6⟩|⟨r6_0,g6⟩
    ·exact ⟨true,wkc At.ref4_ValidName [sg h1,sg h2,sy b3,sc c4,sb h5] [0,3] 0 kr (g6 _ (zab (wkr [sb q6_1] kr)))⟩
    ·exact ⟨r6_0,wkc At.ref4_ValidName [sg h1,sg h2,sy b3,sc c4,sb h5] [0,3] 0 kr (g6)⟩
   ·exact ⟨false,wk At.ref4_ValidName [sg h1,sg h2,sy b3,sc c4,sb h5] kr⟩
  ·exact ⟨false,wk At.ref4_ValidName [sg h1,sb h2] kr⟩
 ·exact ⟨false,wk At.ref4_ValidName [sb h1] kr⟩
noncomputable def L_rv (v:V) (i:Nat) :Cfg:=zaw B.ref1_Valid 0 [(1,.p 0 0),(3,iv (i:Nat))] [.box [iv v.kind,iv v.int,sv v.text]]
theorem zhW (v:V) (hs:decide ((64:Int) < ((v.text.size:Nat):Int))=false) (i:Nat)  (hi:i≤(v.text.size)) (hI:True):((True)∧(decide ((((v.text.size):Nat):Int) < (((v.text.size):Nat):Int))=false)∧∀ R,Good E0 B.ref1_Valid [] (L_rv v v.text.size ) R→Good E0 B.ref1_Valid [] (L_rv v i ) R)∨(∃ (r:Bool),Good E0 B.ref1_Valid [] (L_rv v i ) (Shut 0 fun rZ hZ=>rZ=(bv r)∧hZ=[])):=by
 obtain ⟨kk,hk⟩:∃ kk,i+kk=(v.text.size):=⟨(v.text.size) - i,by omega⟩
 induction kk generalizing i  hI with
 | zero =>
  have e0:i=(v.text.size):=by omega
  subst e0
  exact .inl ⟨hI,by simp,fun R hg=>hg⟩
 | succ kk ih =>
  have h0:decide (((i:Nat):Int) < (((v.text.size):Nat):Int))=true:=by simp;omega
  have hw:IntKind.i64.wrap (((i:Nat):Int)+1)=((i+1:Nat):Int):=zas i (by (simp only [decide_eq_false_iff_not] at hs;omega))
  obtain ⟨c1,b1⟩:=zno (s:=v.text) (i:=(i:Int)) zm6
  cases h2:decide ((c1.toNat:Int) < 32)
  ·cases h3:decide (126 < (c1.toNat:Int))
   ·exact (ih (i+1) (by omega) zcx (by omega)).elim (fun ⟨qZ,xZ,gZ⟩=>.inl ⟨qZ,xZ,fun R hg=>zab (wkl [sb h0,sy b1,sg h2,sy b1,sb h3,si hw] [1,3] 1 kr (gZ R hg))⟩) (fun ⟨rY,gZ⟩=>.inr ⟨rY,zab (wkl [sb h0,sy b1,sg h2,sy b1,sb h3,si hw] [1,3] 1 kr gZ)⟩)
   ·exact .inr ⟨false,zab (wkr [sb h0,sy b1,sg h2,sy b1,sb h3] kr)⟩
  ·exact .inr ⟨false,zab (wkr [sb h0,sy b1,sb h2] kr)⟩
theorem zda (v:V) :∃ (r:Bool),zac E0 S.ref1_Valid [v.av] [] (bv r) []:=by
 cases h1:v.kind==0
 ·cases h2:v.kind==1
  ·cases h3:v.kind==2
   ·cases h4:v.kind==3
    ·exact ⟨false,wk At.ref1_Valid [sb h1,sb h2,sb h3,sb h4] kr⟩
    ·cases h5:v.int != 0
     ·cases h6:decide (64 < (↑(ByteArray.size v.text):Int))
      ·let p_1:List St:=[sb h1,sb h2,sb h3,sb h4,sg h5,sb h6]
       rcases zhW v zaE 0 zaE zaE with ⟨q7,q7_1,g7⟩|⟨r7_0,g7⟩
       ·exact ⟨true,wkc At.ref1_Valid p_1 [1,3] 1 kr (g7 _ (zab (wkr [sb q7_1] kr)))⟩
       ·exact ⟨r7_0,wkc At.ref1_Valid p_1 [1,3] 1 kr (g7)⟩
      ·exact ⟨false,wk At.ref1_Valid [sb h1,sb h2,sb h3,sb h4,sg h5,sb h6] kr⟩
     ·exact ⟨false,wk At.ref1_Valid [sb h1,sb h2,sb h3,sb h4,sb h5] kr⟩
   ·cases h8:v.int==0
    ·cases h9:v.int==1
     ·exact ⟨false,wk At.ref1_Valid [sb h1,sb h2,sb h3,sg h8,sb h9] kr⟩
     ·exact ⟨ByteArray.toList v.text==(ByteArray.mk #[]).toList,wk At.ref1_Valid [sb h1,sb h2,sb h3,sg h8,sg h9] kr⟩
    ·exact ⟨ByteArray.toList v.text==(ByteArray.mk #[]).toList,wk At.ref1_Valid [sb h1,sb h2,sb h3,sb h8] kr⟩
  ·exact ⟨ByteArray.toList v.text==(ByteArray.mk #[]).toList,wk At.ref1_Valid [sb h1,sb h2] kr⟩
 ·cases h10:v.int==0
  ·exact ⟨false,wk At.ref1_Valid [sb h1,sb h10] kr⟩
  ·exact ⟨ByteArray.toList v.text==(ByteArray.mk #[]).toList,wk At.ref1_Valid [sb h1,sg h10] kr⟩
theorem zdU (e:X) :∃ (r:Bool),zac E0 S.ref11_plain [e.av] [] (bv r) []:=by
 cases h1:e.val.kind==0&&(e.val.int==0&&(e.val.text==ByteArray.mk #[]&&true))
 ·exact ⟨false,wk At.ref11_plain [sq zaM,sb h1] kr⟩
 ·cases h2:ByteArray.toList e.table==(ByteArray.mk #[]).toList
  ·exact ⟨false,wk At.ref11_plain [sq zaM,sg h1,sb h2] kr⟩
  ·exact ⟨ByteArray.toList e.name==(ByteArray.mk #[]).toList,wk At.ref11_plain [sq zaM,sg h1,sg h2] kr⟩
theorem zcG (s:Str) :∃ (r:Bool),zac E0 S.ref11_source [sv s] [] (bv r) []:=by
 obtain ⟨r1,c1⟩:=(zax s)
 rcases (Bool.eq_false_or_eq_true r1).symm with h2|h2
 ·cases h3:ByteArray.toList s==(ByteArray.mk #[73,78,83,69,82,84,69,68]).toList
  ·exact ⟨ByteArray.toList s==(ByteArray.mk #[(68:UInt8),(69:UInt8),(76:UInt8),(69:UInt8),(84:UInt8),(69:UInt8),(68:UInt8)]).toList,wk At.ref11_source [sc c1,sg h2,sg h3] kr⟩
  ·exact ⟨true,wk At.ref11_source [sc c1,sg h2,sb h3] kr⟩
 ·exact ⟨true,wk At.ref11_source [sc c1,sb h2] kr⟩
abbrev VxOk (x:X):Prop:=∃ b:Bool,zac E0 S.ref11_ValidExpr [x.av] [] (bv b) []
abbrev VlOk (l:List X):Prop:=∃ b:Bool,zac E0 S.ref11_all [xsl l] [] (bv b) []
noncomputable def L_al (l:List X) (i:Nat) :Cfg:=zaw B.ref11_all 0 [(5,xsl l),(6,iv ((zaa l).length:Nat)),(7,iv (i:Nat))] []
theorem ziu (l:List X) (hl:zae l) (hv:∀ x∈l,VxOk x) (i:Nat)  (hi:i≤(l).length) (hI:True):((True)∧(decide ((((l).length:Nat):Int) < (((zaa l).length:Nat):Int))=false)∧∀ R,Good E0 B.ref11_all [] (L_al l (l).length ) R→Good E0 B.ref11_all [] (L_al l i ) R)∨(∃ (r:Bool),Good E0 B.ref11_all [] (L_al l i ) (Shut 0 fun rZ hZ=>rZ=(bv r)∧hZ=[])):=by
 obtain ⟨kk,hk⟩:∃ kk,i+kk=(l).length:=⟨(l).length - i,by omega⟩
 induction kk generalizing i  hI with
 | zero =>
  have e0:i=(l).length:=by omega
  subst e0
  exact .inl ⟨hI,by simp,fun R hg=>hg⟩
 | succ kk ih =>
  obtain ⟨x,hx⟩:=zay (l:=l) (i:=i) (by omega)
  have h0:decide (((i:Nat):Int) < (((zaa l).length:Nat):Int))=true:=by simp;omega
  have hw:IntKind.i64.wrap (((i:Nat):Int)+1)=((i+1:Nat):Int):=zas i zgu
  have hvx:=hv x (List.mem_of_getElem? hx)
  obtain ⟨b1,c1⟩:=hvx
  cases h2:!b1
  ·exact (ih (i+1) (by omega) zcx (by omega)).elim (fun ⟨qZ,xZ,gZ⟩=>.inl ⟨qZ,xZ,fun R hg=>zab (wkl [sb h0,se (zbr hx),sc c1,sb h2,si hw] [5,6,7] 0 kr (gZ R hg))⟩) (fun ⟨rY,gZ⟩=>.inr ⟨rY,zab (wkl [sb h0,se (zbr hx),sc c1,sb h2,si hw] [5,6,7] 0 kr gZ)⟩)
  ·exact .inr ⟨false,zab (wkr [sb h0,se (zbr hx),sc c1,sb h2] kr)⟩
theorem zfx (l:List X) (hl:zae l) (hv:∀ x∈l,VxOk x):∃ (r:Bool),zac E0 S.ref11_all [xsl l] [] (bv r) []:=by
 rcases ziu l zaE zaE 0 zaE zaE with ⟨q1,q1_1,g1⟩|⟨r1_0,g1⟩
 ·exact ⟨true,wkc At.ref11_all [] [5,6,7] 0 kr (g1 _ (zab (wkr [sb q1_1] kr)))⟩
 ·exact ⟨r1_0,wkc At.ref11_all [] [5,6,7] 0 kr (g1)⟩
noncomputable def L_vx (e:X) (i:Nat) :Cfg:=zaw B.ref11_ValidExpr 0 [(1,.p 0 0),(99,.sl (zad e.sub)),(100,iv ((zad e.sub).length:Nat)),(101,iv (i:Nat))] [.box e.cells]
theorem zbW (e:X) (hs:zae e.sub) (hq:∀ q∈e.sub,VlOk q.items∧VlOk q.wh) (i:Nat)  (hi:i≤(e.sub).length) (hI:True):((True)∧(decide ((((e.sub).length:Nat):Int) < (((zad e.sub).length:Nat):Int))=false)∧∀ R,Good E0 B.ref11_ValidExpr [] (L_vx e (e.sub).length ) R→Good E0 B.ref11_ValidExpr [] (L_vx e i ) R)∨(∃ (r:Bool),Good E0 B.ref11_ValidExpr [] (L_vx e i ) (Shut 0 fun rZ hZ=>rZ=(bv r)∧hZ=[])):=by
 obtain ⟨kk,hk⟩:∃ kk,i+kk=(e.sub).length:=⟨(e.sub).length - i,by omega⟩
 induction kk generalizing i  hI with
 | zero =>
  have e0:i=(e.sub).length:=by omega
  subst e0
  exact .inl ⟨hI,by simp,fun R hg=>hg⟩
 | succ kk ih =>
  obtain ⟨x,hx⟩:=zay (l:=e.sub) (i:=i) (by omega)
  have h0:decide (((i:Nat):Int) < (((zad e.sub).length:Nat):Int))=true:=by simp;omega
  have hw:IntKind.i64.wrap (((i:Nat):Int)+1)=((i+1:Nat):Int):=zas i zgu
  have hi1:=(hq x (List.mem_of_getElem? hx)).1;have hi2:=(hq x (List.mem_of_getElem? hx)).2
  cases h1:!x.star==(e.kind==8)
  ·obtain ⟨r2,c2⟩:=(zcG x.frm)
   cases h3:!r2
   ·obtain ⟨b4,c4⟩:=hi1
    let p_1:List St:=[sb h0,se (zaV hx),sg h1,sc c2,sg h3,sc c4]
    cases h5:!b4
    ·obtain ⟨b6,c6⟩:=hi2
     cases h7:!b6
     ·exact (ih (i+1) (by omega) zcx (by omega)).elim (fun ⟨qZ,xZ,gZ⟩=>.inl ⟨qZ,xZ,fun R hg=>zab (wkl (p_1++[sg h5,sc c6,sb h7,si hw]) [1,99,100,101] 1 kr (gZ R hg))⟩) (fun ⟨rY,gZ⟩=>.inr ⟨rY,zab (wkl [sb h0,se (zaV hx),sg h1,sc c2,sg h3,sc c4,sg h5,sc c6,sb h7,si hw] [1,99,100,101] 1 kr gZ)⟩)
     ·exact .inr ⟨false,zab (wkr (p_1++[sg h5,sc c6,sb h7]) kr)⟩
    ·exact .inr ⟨false,zab (wkr (p_1++[sb h5]) kr)⟩
   ·exact .inr ⟨false,zab (wkr [sb h0,se (zaV hx),sg h1,sc c2,sb h3] kr)⟩
  ·exact .inr ⟨false,zab (wkr [sb h0,se (zaV hx),sb h1] kr)⟩
theorem zj7 (e:X) (hs:zae e.sub) (ha:∃ b:Bool,zac E0 S.ref11_all [xsl e.args] [] (bv b) []) (hq:∀ q∈e.sub,VlOk q.items∧VlOk q.wh):∃ (r:Bool),zac E0 S.ref11_ValidExpr [e.av] [] (bv r) []:=by
 cases h1:!zjQ e
 ·cases h2:e.kind != 5
  ·let p_1:List St:=[sc (zbi e),sg h1,sb h2]
   cases h3:e.kind != 6
   ·cases h4:e.kind==1
    ·cases h5:e.kind==2
     ·obtain ⟨r6,c6⟩:=(zdU e)
      cases h7:!r6
      ·obtain ⟨b8,c8⟩:=ha
       let p_2:List St:=p_1++[sb h3,sb h4,sb h5,sc c6,sg h7,sc c8]
       cases h9:!b8
       ·rcases zbW e zaE zaE 0 zaE zaE with ⟨q10,q10_1,g10⟩|⟨r10_0,g10⟩
        ·exact ⟨true,wkc At.ref11_ValidExpr (p_2++[sb h9]) [1,99,100,101] 1 kr (g10 _ (zab (wkr [sb q10_1] kr)))⟩
        ·exact ⟨r10_0,wkc At.ref11_ValidExpr (p_2++[sb h9]) [1,99,100,101] 1 kr (g10)⟩
       ·exact ⟨false,wk At.ref11_ValidExpr (p_2++[sb h9]) kr⟩
      ·exact ⟨false,wk At.ref11_ValidExpr (p_1++[sb h3,sb h4,sb h5,sc c6,sb h7]) kr⟩
     ·cases h11:ByteArray.toList e.table==(ByteArray.mk #[]).toList
      ·obtain ⟨r12,c12⟩:=(zcG e.table)
       rcases (Bool.eq_false_or_eq_true r12).symm with h13|h13
       ·let p_3:List St:=p_1++[sb h3,sb h4,sb h5,sg h11,sc c12,sg h13]
        cases h14:ByteArray.toList e.table==(ByteArray.mk #[78,69,87]).toList
        ·cases h15:ByteArray.toList e.table==(ByteArray.mk #[79,76,68]).toList
         ·exact ⟨false,wk At.ref11_ValidExpr (p_3++[sg h14,sb h15]) kr⟩
         ·obtain ⟨r16,c16⟩:=(zax e.name)
          rcases (Bool.eq_false_or_eq_true r16).symm with h17|h17
          ·exact ⟨false,wk At.ref11_ValidExpr (p_3++[sg h14,sg h15,sc c16,sb h17]) kr⟩
          ·exact ⟨e.val.kind==(0:Int)&&(e.val.int==(0:Int)&&(e.val.text==ByteArray.mk #[]&&true)),wk At.ref11_ValidExpr (p_3++[sg h14,sg h15,sc c16,sg h17,sq zaM]) kr⟩
        ·obtain ⟨r18,c18⟩:=(zax e.name)
         rcases (Bool.eq_false_or_eq_true r18).symm with h19|h19
         ·exact ⟨false,wk At.ref11_ValidExpr (p_3++[sb h14,sc c18,sb h19]) kr⟩
         ·exact ⟨e.val.kind==(0:Int)&&(e.val.int==(0:Int)&&(e.val.text==ByteArray.mk #[]&&true)),wk At.ref11_ValidExpr (p_3++[sb h14,sc c18,sg h19,sq zaM]) kr⟩
       ·obtain ⟨r20,c20⟩:=(zax e.name)
        let p_4:List St:=p_1++[sb h3,sb h4,sb h5,sg h11,sc c12,sb h13,sc c20]
        rcases (Bool.eq_false_or_eq_true r20).symm with h21|h21
        ·exact ⟨false,wk At.ref11_ValidExpr (p_4++[sb h21]) kr⟩
        ·exact ⟨e.val.kind==(0:Int)&&(e.val.int==(0:Int)&&(e.val.text==ByteArray.mk #[]&&true)),wk At.ref11_ValidExpr (p_4++[sg h21,sq zaM]) kr⟩
      ·obtain ⟨r22,c22⟩:=(zax e.name)
       rcases (Bool.eq_false_or_eq_true r22).symm with h23|h23
       ·exact ⟨false,wk At.ref11_ValidExpr (p_1++[sb h3,sb h4,sb h5,sb h11,sc c22,sb h23]) kr⟩
       ·exact ⟨e.val.kind==(0:Int)&&(e.val.int==(0:Int)&&(e.val.text==ByteArray.mk #[]&&true)),wk At.ref11_ValidExpr (p_1++[sb h3,sb h4,sb h5,sb h11,sc c22,sg h23,sq zaM]) kr⟩
    ·obtain ⟨r24,c24⟩:=(zda e.val)
     rcases (Bool.eq_false_or_eq_true r24).symm with h25|h25
     ·exact ⟨false,wk At.ref11_ValidExpr (p_1++[sb h3,sb h4,sc c24,sb h25]) kr⟩
     ·cases h26:e.val.kind != 1
      ·cases h27:decide (0≤e.val.int)
       ·exact ⟨false,wk At.ref11_ValidExpr (p_1++[sb h3,sb h4,sc c24,sg h25,sg h26,sb h27]) kr⟩
       ·let p_5:List St:=p_1++[sb h3,sb h4,sc c24,sg h25,sg h26,sg h27]
        cases h28:ByteArray.toList e.table==(ByteArray.mk #[]).toList
        ·exact ⟨false,wk At.ref11_ValidExpr (p_5++[sb h28]) kr⟩
        ·exact ⟨ByteArray.toList e.name==(ByteArray.mk #[]).toList,wk At.ref11_ValidExpr (p_5++[sg h28]) kr⟩
      ·cases h29:ByteArray.toList e.table==(ByteArray.mk #[]).toList
       ·exact ⟨false,wk At.ref11_ValidExpr (p_1++[sb h3,sb h4,sc c24,sg h25,sb h26,sb h29]) kr⟩
       ·exact ⟨ByteArray.toList e.name==(ByteArray.mk #[]).toList,wk At.ref11_ValidExpr (p_1++[sb h3,sb h4,sc c24,sg h25,sb h26,sg h29]) kr⟩
   ·cases h30:e.not
    ·cases h31:e.kind==1
     ·cases h32:e.kind==2
      ·obtain ⟨r33,c33⟩:=(zdU e)
       cases h34:!r33
       ·obtain ⟨b35,c35⟩:=ha
        let p_6:List St:=p_1++[sg h3,sb h30,sb h31,sb h32,sc c33,sg h34,sc c35]
        cases h36:!b35
        ·rcases zbW e zaE zaE 0 zaE zaE with ⟨q37,q37_1,g37⟩|⟨r37_0,g37⟩
         ·exact ⟨true,wkc At.ref11_ValidExpr (p_6++[sb h36]) [1,99,100,101] 1 kr (g37 _ (zab (wkr [sb q37_1] kr)))⟩
         ·exact ⟨r37_0,wkc At.ref11_ValidExpr (p_6++[sb h36]) [1,99,100,101] 1 kr (g37)⟩
        ·exact ⟨false,wk At.ref11_ValidExpr (p_6++[sb h36]) kr⟩
       ·exact ⟨false,wk At.ref11_ValidExpr (p_1++[sg h3,sb h30,sb h31,sb h32,sc c33,sb h34]) kr⟩
      ·cases h38:ByteArray.toList e.table==(ByteArray.mk #[]).toList
       ·obtain ⟨r39,c39⟩:=(zcG e.table)
        let p_7:List St:=p_1++[sg h3,sb h30,sb h31,sb h32,sg h38,sc c39]
        rcases (Bool.eq_false_or_eq_true r39).symm with h40|h40
        ·cases h41:ByteArray.toList e.table==(ByteArray.mk #[78,69,87]).toList
         ·cases h42:ByteArray.toList e.table==(ByteArray.mk #[79,76,68]).toList
          ·exact ⟨false,wk At.ref11_ValidExpr (p_7++[sg h40,sg h41,sb h42]) kr⟩
          ·obtain ⟨r43,c43⟩:=(zax e.name)
           rcases (Bool.eq_false_or_eq_true r43).symm with h44|h44
           ·exact ⟨false,wk At.ref11_ValidExpr (p_7++[sg h40,sg h41,sg h42,sc c43,sb h44]) kr⟩
           ·exact ⟨e.val.kind==(0:Int)&&(e.val.int==(0:Int)&&(e.val.text==ByteArray.mk #[]&&true)),wk At.ref11_ValidExpr (p_7++[sg h40,sg h41,sg h42,sc c43,sg h44,sq zaM]) kr⟩
         ·obtain ⟨r45,c45⟩:=(zax e.name)
          rcases (Bool.eq_false_or_eq_true r45).symm with h46|h46
          ·exact ⟨false,wk At.ref11_ValidExpr (p_7++[sg h40,sb h41,sc c45,sb h46]) kr⟩
          ·exact ⟨e.val.kind==(0:Int)&&(e.val.int==(0:Int)&&(e.val.text==ByteArray.mk #[]&&true)),wk At.ref11_ValidExpr (p_7++[sg h40,sb h41,sc c45,sg h46,sq zaM]) kr⟩
        ·obtain ⟨r47,c47⟩:=(zax e.name)
         rcases (Bool.eq_false_or_eq_true r47).symm with h48|h48
         ·exact ⟨false,wk At.ref11_ValidExpr (p_7++[sb h40,sc c47,sb h48]) kr⟩
         ·exact ⟨e.val.kind==(0:Int)&&(e.val.int==(0:Int)&&(e.val.text==ByteArray.mk #[]&&true)),wk At.ref11_ValidExpr (p_7++[sb h40,sc c47,sg h48,sq zaM]) kr⟩
       ·obtain ⟨r49,c49⟩:=(zax e.name)
        let p_8:List St:=p_1++[sg h3,sb h30,sb h31,sb h32,sb h38,sc c49]
        rcases (Bool.eq_false_or_eq_true r49).symm with h50|h50
        ·exact ⟨false,wk At.ref11_ValidExpr (p_8++[sb h50]) kr⟩
        ·exact ⟨e.val.kind==(0:Int)&&(e.val.int==(0:Int)&&(e.val.text==ByteArray.mk #[]&&true)),wk At.ref11_ValidExpr (p_8++[sg h50,sq zaM]) kr⟩
     ·obtain ⟨r51,c51⟩:=(zda e.val)
      rcases (Bool.eq_false_or_eq_true r51).symm with h52|h52
      ·exact ⟨false,wk At.ref11_ValidExpr (p_1++[sg h3,sb h30,sb h31,sc c51,sb h52]) kr⟩
      ·cases h53:e.val.kind != 1
       ·let p_9:List St:=p_1++[sg h3,sb h30,sb h31,sc c51,sg h52,sg h53]
        cases h54:decide (0≤e.val.int)
        ·exact ⟨false,wk At.ref11_ValidExpr (p_9++[sb h54]) kr⟩
        ·cases h55:ByteArray.toList e.table==(ByteArray.mk #[]).toList
         ·exact ⟨false,wk At.ref11_ValidExpr (p_9++[sg h54,sb h55]) kr⟩
         ·exact ⟨ByteArray.toList e.name==(ByteArray.mk #[]).toList,wk At.ref11_ValidExpr (p_9++[sg h54,sg h55]) kr⟩
       ·let p_10:List St:=p_1++[sg h3,sb h30,sb h31,sc c51,sg h52,sb h53]
        cases h56:ByteArray.toList e.table==(ByteArray.mk #[]).toList
        ·exact ⟨false,wk At.ref11_ValidExpr (p_10++[sb h56]) kr⟩
        ·exact ⟨ByteArray.toList e.name==(ByteArray.mk #[]).toList,wk At.ref11_ValidExpr (p_10++[sg h56]) kr⟩
    ·exact ⟨false,wk At.ref11_ValidExpr (p_1++[sg h3,sb h30]) kr⟩
  ·let p_11:List St:=[sc (zbi e),sg h1,sg h2]
   cases h57:e.op != 0
   ·cases h58:e.kind != 6
    ·cases h59:e.kind==1
     ·cases h60:e.kind==2
      ·obtain ⟨r61,c61⟩:=(zdU e)
       let p_12:List St:=p_11++[sg h57,sb h58,sb h59,sb h60,sc c61]
       cases h62:!r61
       ·obtain ⟨b63,c63⟩:=ha
        cases h64:!b63
        ·rcases zbW e zaE zaE 0 zaE zaE with ⟨q65,q65_1,g65⟩|⟨r65_0,g65⟩
         ·exact ⟨true,wkc At.ref11_ValidExpr (p_12++[sg h62,sc c63,sb h64]) [1,99,100,101] 1 kr (g65 _ (zab (wkr [sb q65_1] kr)))⟩
         ·exact ⟨r65_0,wkc At.ref11_ValidExpr (p_12++[sg h62,sc c63,sb h64]) [1,99,100,101] 1 kr (g65)⟩
        ·exact ⟨false,wk At.ref11_ValidExpr (p_12++[sg h62,sc c63,sb h64]) kr⟩
       ·exact ⟨false,wk At.ref11_ValidExpr (p_12++[sb h62]) kr⟩
      ·cases h66:ByteArray.toList e.table==(ByteArray.mk #[]).toList
       ·obtain ⟨r67,c67⟩:=(zcG e.table)
        let p_13:List St:=p_11++[sg h57,sb h58,sb h59,sb h60,sg h66,sc c67]
        rcases (Bool.eq_false_or_eq_true r67).symm with h68|h68
        ·cases h69:ByteArray.toList e.table==(ByteArray.mk #[78,69,87]).toList
         ·cases h70:ByteArray.toList e.table==(ByteArray.mk #[79,76,68]).toList
          ·exact ⟨false,wk At.ref11_ValidExpr (p_13++[sg h68,sg h69,sb h70]) kr⟩
          ·obtain ⟨r71,c71⟩:=(zax e.name)
           rcases (Bool.eq_false_or_eq_true r71).symm with h72|h72
           ·exact ⟨false,wk At.ref11_ValidExpr (p_13++[sg h68,sg h69,sg h70,sc c71,sb h72]) kr⟩
           ·exact ⟨e.val.kind==(0:Int)&&(e.val.int==(0:Int)&&(e.val.text==ByteArray.mk #[]&&true)),wk At.ref11_ValidExpr (p_13++[sg h68,sg h69,sg h70,sc c71,sg h72,sq zaM]) kr⟩
         ·obtain ⟨r73,c73⟩:=(zax e.name)
          rcases (Bool.eq_false_or_eq_true r73).symm with h74|h74
          ·exact ⟨false,wk At.ref11_ValidExpr (p_13++[sg h68,sb h69,sc c73,sb h74]) kr⟩
          ·exact ⟨e.val.kind==(0:Int)&&(e.val.int==(0:Int)&&(e.val.text==ByteArray.mk #[]&&true)),wk At.ref11_ValidExpr (p_13++[sg h68,sb h69,sc c73,sg h74,sq zaM]) kr⟩
        ·obtain ⟨r75,c75⟩:=(zax e.name)
         rcases (Bool.eq_false_or_eq_true r75).symm with h76|h76
         ·exact ⟨false,wk At.ref11_ValidExpr (p_13++[sb h68,sc c75,sb h76]) kr⟩
         ·exact ⟨e.val.kind==(0:Int)&&(e.val.int==(0:Int)&&(e.val.text==ByteArray.mk #[]&&true)),wk At.ref11_ValidExpr (p_13++[sb h68,sc c75,sg h76,sq zaM]) kr⟩
       ·obtain ⟨r77,c77⟩:=(zax e.name)
        let p_14:List St:=p_11++[sg h57,sb h58,sb h59,sb h60,sb h66,sc c77]
        rcases (Bool.eq_false_or_eq_true r77).symm with h78|h78
        ·exact ⟨false,wk At.ref11_ValidExpr (p_14++[sb h78]) kr⟩
        ·exact ⟨e.val.kind==(0:Int)&&(e.val.int==(0:Int)&&(e.val.text==ByteArray.mk #[]&&true)),wk At.ref11_ValidExpr (p_14++[sg h78,sq zaM]) kr⟩
     ·obtain ⟨r79,c79⟩:=(zda e.val)
      rcases (Bool.eq_false_or_eq_true r79).symm with h80|h80
      ·exact ⟨false,wk At.ref11_ValidExpr (p_11++[sg h57,sb h58,sb h59,sc c79,sb h80]) kr⟩
      ·let p_15:List St:=p_11++[sg h57,sb h58,sb h59,sc c79,sg h80]
       cases h81:e.val.kind != 1
       ·cases h82:decide (0≤e.val.int)
        ·exact ⟨false,wk At.ref11_ValidExpr (p_15++[sg h81,sb h82]) kr⟩
        ·cases h83:ByteArray.toList e.table==(ByteArray.mk #[]).toList
         ·exact ⟨false,wk At.ref11_ValidExpr (p_15++[sg h81,sg h82,sb h83]) kr⟩
         ·exact ⟨ByteArray.toList e.name==(ByteArray.mk #[]).toList,wk At.ref11_ValidExpr (p_15++[sg h81,sg h82,sg h83]) kr⟩
       ·cases h84:ByteArray.toList e.table==(ByteArray.mk #[]).toList
        ·exact ⟨false,wk At.ref11_ValidExpr (p_15++[sb h81,sb h84]) kr⟩
        ·exact ⟨ByteArray.toList e.name==(ByteArray.mk #[]).toList,wk At.ref11_ValidExpr (p_15++[sb h81,sg h84]) kr⟩
    ·cases h85:e.not
     ·cases h86:e.kind==1
      ·cases h87:e.kind==2
       ·obtain ⟨r88,c88⟩:=(zdU e)
        let p_16:List St:=p_11++[sg h57,sg h58,sb h85,sb h86,sb h87,sc c88]
        cases h89:!r88
        ·obtain ⟨b90,c90⟩:=ha
         cases h91:!b90
         ·rcases zbW e zaE zaE 0 zaE zaE with ⟨q92,q92_1,g92⟩|⟨r92_0,g92⟩
          ·exact ⟨true,wkc At.ref11_ValidExpr (p_16++[sg h89,sc c90,sb h91]) [1,99,100,101] 1 kr (g92 _ (zab (wkr [sb q92_1] kr)))⟩
          ·exact ⟨r92_0,wkc At.ref11_ValidExpr (p_16++[sg h89,sc c90,sb h91]) [1,99,100,101] 1 kr (g92)⟩
         ·exact ⟨false,wk At.ref11_ValidExpr (p_16++[sg h89,sc c90,sb h91]) kr⟩
        ·exact ⟨false,wk At.ref11_ValidExpr (p_16++[sb h89]) kr⟩
       ·let p_17:List St:=p_11++[sg h57,sg h58,sb h85,sb h86,sb h87]
        cases h93:ByteArray.toList e.table==(ByteArray.mk #[]).toList
        ·obtain ⟨r94,c94⟩:=(zcG e.table)
         rcases (Bool.eq_false_or_eq_true r94).symm with h95|h95
         ·cases h96:ByteArray.toList e.table==(ByteArray.mk #[78,69,87]).toList
          ·cases h97:ByteArray.toList e.table==(ByteArray.mk #[79,76,68]).toList
           ·exact ⟨false,wk At.ref11_ValidExpr (p_17++[sg h93,sc c94,sg h95,sg h96,sb h97]) kr⟩
           ·obtain ⟨r98,c98⟩:=(zax e.name)
            let p_18:List St:=p_17++[sg h93,sc c94,sg h95,sg h96,sg h97,sc c98]
            rcases (Bool.eq_false_or_eq_true r98).symm with h99|h99
            ·exact ⟨false,wk At.ref11_ValidExpr (p_18++[sb h99]) kr⟩
            ·exact ⟨e.val.kind==(0:Int)&&(e.val.int==(0:Int)&&(e.val.text==ByteArray.mk #[]&&true)),wk At.ref11_ValidExpr (p_18++[sg h99,sq zaM]) kr⟩
          ·obtain ⟨r100,c100⟩:=(zax e.name)
           let p_19:List St:=p_17++[sg h93,sc c94,sg h95,sb h96,sc c100]
           rcases (Bool.eq_false_or_eq_true r100).symm with h101|h101
           ·exact ⟨false,wk At.ref11_ValidExpr (p_19++[sb h101]) kr⟩
           ·exact ⟨e.val.kind==(0:Int)&&(e.val.int==(0:Int)&&(e.val.text==ByteArray.mk #[]&&true)),wk At.ref11_ValidExpr (p_19++[sg h101,sq zaM]) kr⟩
         ·obtain ⟨r102,c102⟩:=(zax e.name)
          rcases (Bool.eq_false_or_eq_true r102).symm with h103|h103
          ·exact ⟨false,wk At.ref11_ValidExpr (p_17++[sg h93,sc c94,sb h95,sc c102,sb h103]) kr⟩
          ·exact ⟨e.val.kind==(0:Int)&&(e.val.int==(0:Int)&&(e.val.text==ByteArray.mk #[]&&true)),wk At.ref11_ValidExpr (p_17++[sg h93,sc c94,sb h95,sc c102,sg h103,sq zaM]) kr⟩
        ·obtain ⟨r104,c104⟩:=(zax e.name)
         rcases (Bool.eq_false_or_eq_true r104).symm with h105|h105
         ·exact ⟨false,wk At.ref11_ValidExpr (p_17++[sb h93,sc c104,sb h105]) kr⟩
         ·exact ⟨e.val.kind==(0:Int)&&(e.val.int==(0:Int)&&(e.val.text==ByteArray.mk #[]&&true)),wk At.ref11_ValidExpr (p_17++[sb h93,sc c104,sg h105,sq zaM]) kr⟩
      ·obtain ⟨r106,c106⟩:=(zda e.val)
       let p_20:List St:=p_11++[sg h57,sg h58,sb h85,sb h86,sc c106]
       rcases (Bool.eq_false_or_eq_true r106).symm with h107|h107
       ·exact ⟨false,wk At.ref11_ValidExpr (p_20++[sb h107]) kr⟩
       ·cases h108:e.val.kind != 1
        ·cases h109:decide (0≤e.val.int)
         ·exact ⟨false,wk At.ref11_ValidExpr (p_20++[sg h107,sg h108,sb h109]) kr⟩
         ·cases h110:ByteArray.toList e.table==(ByteArray.mk #[]).toList
          ·exact ⟨false,wk At.ref11_ValidExpr (p_20++[sg h107,sg h108,sg h109,sb h110]) kr⟩
          ·exact ⟨ByteArray.toList e.name==(ByteArray.mk #[]).toList,wk At.ref11_ValidExpr (p_20++[sg h107,sg h108,sg h109,sg h110]) kr⟩
        ·cases h111:ByteArray.toList e.table==(ByteArray.mk #[]).toList
         ·exact ⟨false,wk At.ref11_ValidExpr (p_20++[sg h107,sb h108,sb h111]) kr⟩
         ·exact ⟨ByteArray.toList e.name==(ByteArray.mk #[]).toList,wk At.ref11_ValidExpr (p_20++[sg h107,sb h108,sg h111]) kr⟩
     ·exact ⟨false,wk At.ref11_ValidExpr (p_11++[sg h57,sg h58,sb h85]) kr⟩
   ·exact ⟨false,wk At.ref11_ValidExpr (p_11++[sb h57]) kr⟩
 ·exact ⟨false,wk At.ref11_ValidExpr [sc (zbi e),sb h1] kr⟩
theorem vxOk:∀ (n:Nat) (e:X),XOk n e→VxOk e
 | 0,_,h=>h.elim
 | n+1,e,⟨_,ha,hx,hs⟩=>zj7 e (Thin.short ha.2) (zfx _ (Thin.short ha.1) fun x h=>vxOk n x (hx x h)) fun q h =>
   ⟨zfx _ (Thin.short (hs q h).1.1) fun x h'=>vxOk n x ((hs q h).2.1 x h'),zfx _ (Thin.short (hs q h).1.2) fun x h'=>vxOk n x ((hs q h).2.2 x h')⟩
theorem vlOk {n:Nat} {l:List X} (hf:Few l) (h:∀ x∈l,XOk n x):VlOk l:=zfx l (zaI hf) fun x hx=>vxOk n x (h x hx)
theorem zjk (q:Qy) (hqa:∃ b:Bool,zac E0 S.ref11_all [xsl q.items] [] (bv b) []) (hqb:∃ b:Bool,zac E0 S.ref11_all [xsl q.wh] [] (bv b) []):∃ (r:Bool),zac E0 S.ref11_ValidQuery [q.av] [] (bv r) []:=by
 obtain ⟨r1,c1⟩:=(zcG q.frm)
 cases h2:!r1
 ·cases h3:decide (1 < (↑(zaa q.wh).length:Int))
  ·cases h4:decide (8 < (↑(zaa q.items).length:Int))
   ·cases h5:!q.star==((↑(zaa q.items).length:Int)==0)
    ·obtain ⟨b6,c6⟩:=hqa
     let p_1:List St:=[sc c1,sg h2,sg h3,sg h4,sb h5,sc c6]
     rcases (Bool.eq_false_or_eq_true b6).symm with h7|h7
     ·exact ⟨false,wk At.ref11_ValidQuery (p_1++[sb h7]) kr⟩
     ·obtain ⟨b8,c8⟩:=hqb
      exact ⟨b8,wk At.ref11_ValidQuery (p_1++[sg h7,sc c8]) kr⟩
    ·exact ⟨false,wk At.ref11_ValidQuery [sc c1,sg h2,sg h3,sg h4,sb h5] kr⟩
   ·exact ⟨false,wk At.ref11_ValidQuery [sc c1,sg h2,sg h3,sb h4] kr⟩
  ·exact ⟨false,wk At.ref11_ValidQuery [sc c1,sg h2,sb h3] kr⟩
 ·exact ⟨false,wk At.ref11_ValidQuery [sc c1,sb h2] kr⟩
noncomputable def L_vi (a:Ac) (i:Nat) :Cfg:=zaw B.ref11_validInsert 0 [(1,.p 0 0),(27,.sl (a.rows.map zaF)),(28,iv ((a.rows.map zaF).length:Nat)),(29,iv (i:Nat))] [.box a.cells]
theorem zfh (a:Ac) (hs:zae a.rows) (hr:∀ r∈a.rows,VlOk r) (i:Nat)  (hi:i≤(a.rows).length) (hI:True):((True)∧(decide ((((a.rows).length:Nat):Int) < (((a.rows.map zaF).length:Nat):Int))=false)∧∀ R,Good E0 B.ref11_validInsert [] (L_vi a (a.rows).length ) R→Good E0 B.ref11_validInsert [] (L_vi a i ) R)∨(∃ (r:Bool),Good E0 B.ref11_validInsert [] (L_vi a i ) (Shut 0 fun rZ hZ=>rZ=(bv r)∧hZ=[])):=by
 obtain ⟨kk,hk⟩:∃ kk,i+kk=(a.rows).length:=⟨(a.rows).length - i,by omega⟩
 induction kk generalizing i  hI with
 | zero =>
  have e0:i=(a.rows).length:=by omega
  subst e0
  exact .inl ⟨hI,by simp,fun R hg=>hg⟩
 | succ kk ih =>
  obtain ⟨x,hx⟩:=zay (l:=a.rows) (i:=i) (by omega)
  have h0:decide (((i:Nat):Int) < (((a.rows.map zaF).length:Nat):Int))=true:=by simp;omega
  have hw:IntKind.i64.wrap (((i:Nat):Int)+1)=((i+1:Nat):Int):=zas i zgu
  have hi1:=hr x (List.mem_of_getElem? hx)
  let p_1:List St:=[sb h0,se (zaj zaF hx rfl)]
  cases h1:decide ((↑(zaa x).length:Int) < 1)
  ·cases h2:decide (6 < (↑(zaa x).length:Int))
   ·obtain ⟨b3,c3⟩:=hi1
    cases h4:!b3
    ·exact (ih (i+1) (by omega) zcx (by omega)).elim (fun ⟨qZ,xZ,gZ⟩=>.inl ⟨qZ,xZ,fun R hg=>zab (wkl (p_1++[sg h1,sg h2,sc c3,sb h4,si hw]) [1,27,28,29] 1 kr (gZ R hg))⟩) (fun ⟨rY,gZ⟩=>.inr ⟨rY,zab (wkl [sb h0,se (zaj zaF hx rfl),sg h1,sg h2,sc c3,sb h4,si hw] [1,27,28,29] 1 kr gZ)⟩)
    ·exact .inr ⟨false,zab (wkr (p_1++[sg h1,sg h2,sc c3,sb h4]) kr)⟩
   ·exact .inr ⟨false,zab (wkr (p_1++[sg h1,sb h2]) kr)⟩
  ·exact .inr ⟨false,zab (wkr (p_1++[sb h1]) kr)⟩
theorem ziW (a:Ac) (hs:zae a.rows) (hr:∀ r∈a.rows,VlOk r) (hq:∀ q∈a.query,∃ b:Bool,zac E0 S.ref11_ValidQuery [q.av] [] (bv b) []):∃ (r:Bool),zac E0 S.ref11_validInsert [a.av] [] (bv r) []:=by
 cases h1:decide (1 < (↑(zad a.query).length:Int))
 ·cases h2:((↑(zad a.query).length:Int)==1)==decide (0 < (↑(List.map (fun r=>[AV.sl (zaa r)]) a.rows).length:Int))
  ·cases h3:decide (8 < (↑(List.map (fun r=>[AV.sl (zaa r)]) a.rows).length:Int))
   ·rcases zfh a zh3 zh3 0 zh3 zh3 with ⟨q4,q4_1,g4⟩|⟨r4_0,g4⟩
    ·cases h5:(↑(zad a.query).length:Int)==0
     ·obtain ⟨x6,e6⟩:=zay (l:=a.query) (i:=0) zh3
      obtain ⟨b7,c7⟩:=(hq x6 zh3)
      exact ⟨b7,wkc At.ref11_validInsert [sg h1,sg h2,sb h3] [1,27,28,29] 1 kr (g4 _ (zab (wkr [sb q4_1,sg h5,se (zaV e6),sc c7] kr)))⟩
     ·exact ⟨true,wkc At.ref11_validInsert [sg h1,sg h2,sb h3] [1,27,28,29] 1 kr (g4 _ (zab (wkr [sb q4_1,sb h5] kr)))⟩
    ·exact ⟨r4_0,wkc At.ref11_validInsert [sg h1,sg h2,sb h3] [1,27,28,29] 1 kr (g4)⟩
   ·exact ⟨false,wk At.ref11_validInsert [sg h1,sg h2,sb h3] kr⟩
  ·exact ⟨false,wk At.ref11_validInsert [sg h1,sb h2] kr⟩
 ·exact ⟨false,wk At.ref11_validInsert [sb h1] kr⟩
theorem zl7 {α:Type} (f:α→List AV) {l:List α} {x:α} {n j m:Nat} (hx:(l.take n)[j]?=some x) (hc:(f x).length=m):ElAt ((l.map f).take n) ((j:Nat):Int) (f x) m:=by
 rw [← List.map_take]
 exact zaj f hx hc
noncomputable def zpM (l:List Se) (io:Nat) (y:Se) (i:Nat) :Cfg:=zaw B.ref11_validSets 1 [(0,.sl (l.map Se.cells)),(4,.p 0 0),(7,.sl (l.map Se.cells)),(8,iv ((l.map Se.cells).length:Nat)),(9,iv (io:Nat)),(26,.sl ((l.map Se.cells).take io)),(27,iv (((l.map Se.cells).take io).length:Nat)),(28,iv (i:Nat))] [.box y.cells]
theorem zfA (l:List Se) (io:Nat) (y:Se) (hl:zae l) (i:Nat)  (hi:i≤((l.take io)).length) (hI:True):((True)∧(decide (((((l.take io)).length:Nat):Int) < ((((l.map Se.cells).take io).length:Nat):Int))=false)∧∀ R,Good E0 B.ref11_validSets [] (zpM l io y ((l.take io)).length ) R→Good E0 B.ref11_validSets [] (zpM l io y i ) R)∨(∃ (r:Bool),Good E0 B.ref11_validSets [] (zpM l io y i ) (Shut 0 fun rZ hZ=>rZ=(bv r)∧hZ=[])):=by
 obtain ⟨kk,hk⟩:∃ kk,i+kk=((l.take io)).length:=⟨((l.take io)).length - i,by omega⟩
 induction kk generalizing i  hI with
 | zero =>
  have e0:i=((l.take io)).length:=by omega
  subst e0
  exact .inl ⟨hI,by simp,fun R hg=>hg⟩
 | succ kk ih =>
  obtain ⟨x,hx⟩:=zay (l:=(l.take io)) (i:=i) (by omega)
  have h0:decide (((i:Nat):Int) < ((((l.map Se.cells).take io).length:Nat):Int))=true:=by simp at *;omega
  have hw:IntKind.i64.wrap (((i:Nat):Int)+1)=((i+1:Nat):Int):=zas i (by simp only [zae] at hl;simp at hk;omega)
  have hxe:=zl7 Se.cells hx rfl
  cases h1:ByteArray.toList x.col==ByteArray.toList y.col
  ·exact (ih (i+1) (by omega) zcx (by omega)).elim (fun ⟨qZ,xZ,gZ⟩=>.inl ⟨qZ,xZ,fun R hg=>zab (wkl [sb h0,se hxe,sb h1,si hw] [0,4,7,8,9,26,27,28] 1 kr (gZ R hg))⟩) (fun ⟨rY,gZ⟩=>.inr ⟨rY,zab (wkl [sb h0,se hxe,sb h1,si hw] [0,4,7,8,9,26,27,28] 1 kr gZ)⟩)
  ·exact .inr ⟨false,zab (wkr [sb h0,se hxe,sb h1] kr)⟩
noncomputable def zpC (l:List Se) (i:Nat) :Cfg:=zaw B.ref11_validSets 0 [(0,.sl (l.map Se.cells)),(7,.sl (l.map Se.cells)),(8,iv ((l.map Se.cells).length:Nat)),(9,iv (i:Nat))] []
theorem zfL (l:List Se) (hl:zae l) (hv:∀ s∈l,VxOk s.ex) (i:Nat)  (hi:i≤(l).length) (hI:True):((True)∧(decide ((((l).length:Nat):Int) < (((l.map Se.cells).length:Nat):Int))=false)∧∀ R,Good E0 B.ref11_validSets [] (zpC l (l).length ) R→Good E0 B.ref11_validSets [] (zpC l i ) R)∨(∃ (r:Bool),Good E0 B.ref11_validSets [] (zpC l i ) (Shut 0 fun rZ hZ=>rZ=(bv r)∧hZ=[])):=by
 obtain ⟨kk,hk⟩:∃ kk,i+kk=(l).length:=⟨(l).length - i,by omega⟩
 induction kk generalizing i  hI with
 | zero =>
  have e0:i=(l).length:=by omega
  subst e0
  exact .inl ⟨hI,by simp,fun R hg=>hg⟩
 | succ kk ih =>
  obtain ⟨x,hx⟩:=zay (l:=l) (i:=i) (by omega)
  have h0:decide (((i:Nat):Int) < (((l.map Se.cells).length:Nat):Int))=true:=by simp;omega
  have hw:IntKind.i64.wrap (((i:Nat):Int)+1)=((i+1:Nat):Int):=zas i zgu
  have hi1:=hv x (List.mem_of_getElem? hx)
  obtain ⟨r1,c1⟩:=(zax x.col)
  let p_1:List St:=[sb h0,se (zaj Se.cells hx rfl),sc c1]
  cases h2:!r1
  ·obtain ⟨b3,c3⟩:=hi1
   cases h4:!b3
   ·let p_2:List St:=p_1++[sg h2,sc c3,sb h4,sqx (SubAt (List.map Se.cells l) 0 (i:Int) 11)]
    rcases zfA l i x zaE 0 zaE zaE with ⟨q5,q5_1,g5⟩|⟨r5_0,g5⟩
    ·exact (ih (i+1) (by omega) zcx (by omega)).elim (fun ⟨qZ,xZ,gZ⟩=>.inl ⟨qZ,xZ,fun R hg=>zab (wkl p_2 [0,4,7,8,9,26,27,28] 1 kr (g5 _ (zab (wkl [sb q5_1,si hw] [0,7,8,9] 0 kr (gZ R hg)))))⟩) (fun ⟨rY,gZ⟩=>.inr ⟨rY,zab (wkl [sb h0,se (zaj Se.cells hx rfl),sc c1,sg h2,sc c3,sb h4,sqx (SubAt (List.map Se.cells l) 0 (i:Int) 11)] [0,4,7,8,9,26,27,28] 1 kr (g5 _ (zab (wkl [sb q5_1,si hw] [0,7,8,9] 0 kr gZ))))⟩)
    ·exact .inr ⟨r5_0,zab (wkl p_2 [0,4,7,8,9,26,27,28] 1 kr g5)⟩
   ·exact .inr ⟨false,zab (wkr (p_1++[sg h2,sc c3,sb h4]) kr)⟩
  ·exact .inr ⟨false,zab (wkr (p_1++[sb h2]) kr)⟩
theorem zj5 (l:List Se) (hl:zae l) (hv:∀ s∈l,VxOk s.ex):∃ (r:Bool),zac E0 S.ref11_validSets [.sl (l.map Se.cells)] [] (bv r) []:=by
 rcases zfL l zaE zaE 0 zaE zaE with ⟨q1,q1_1,g1⟩|⟨r1_0,g1⟩
 ·exact ⟨true,wkc At.ref11_validSets [] [0,7,8,9] 0 kr (g1 _ (zab (wkr [sb q1_1] kr)))⟩
 ·exact ⟨r1_0,wkc At.ref11_validSets [] [0,7,8,9] 0 kr (g1)⟩
noncomputable def zp0 (l:List Str) (io:Nat) (y:Str) (i:Nat) :Cfg:=zaw B.ref11_names 1 [(0,ssl l),(4,sv y),(10,ssl l),(11,iv ((l.map zaU).length:Nat)),(12,iv (io:Nat)),(22,.sl ((l.map zaU).take io)),(23,iv (((l.map zaU).take io).length:Nat)),(24,iv (i:Nat))] []
theorem zgT (l:List Str) (io:Nat) (y:Str) (hl:zae l) (i:Nat)  (hi:i≤((l.take io)).length) (hI:True):((True)∧(decide (((((l.take io)).length:Nat):Int) < ((((l.map zaU).take io).length:Nat):Int))=false)∧∀ R,Good E0 B.ref11_names [] (zp0 l io y ((l.take io)).length ) R→Good E0 B.ref11_names [] (zp0 l io y i ) R)∨(∃ (r:Bool),Good E0 B.ref11_names [] (zp0 l io y i ) (Shut 0 fun rZ hZ=>rZ=(bv r)∧hZ=[])):=by
 obtain ⟨kk,hk⟩:∃ kk,i+kk=((l.take io)).length:=⟨((l.take io)).length - i,by omega⟩
 induction kk generalizing i  hI with
 | zero =>
  have e0:i=((l.take io)).length:=by omega
  subst e0
  exact .inl ⟨hI,by simp,fun R hg=>hg⟩
 | succ kk ih =>
  obtain ⟨x,hx⟩:=zay (l:=(l.take io)) (i:=i) (by omega)
  have h0:decide (((i:Nat):Int) < ((((l.map zaU).take io).length:Nat):Int))=true:=by simp at *;omega
  have hw:IntKind.i64.wrap (((i:Nat):Int)+1)=((i+1:Nat):Int):=zas i (by simp only [zae] at hl;simp at hk;omega)
  have hxe:=zl7 zaU hx rfl
  cases h1:ByteArray.toList x==ByteArray.toList y
  ·exact (ih (i+1) (by omega) zcx (by omega)).elim (fun ⟨qZ,xZ,gZ⟩=>.inl ⟨qZ,xZ,fun R hg=>zab (wkl [sb h0,se hxe,sb h1,si hw] [0,4,10,11,12,22,23,24] 0 kr (gZ R hg))⟩) (fun ⟨rY,gZ⟩=>.inr ⟨rY,zab (wkl [sb h0,se hxe,sb h1,si hw] [0,4,10,11,12,22,23,24] 0 kr gZ)⟩)
  ·exact .inr ⟨false,zab (wkr [sb h0,se hxe,sb h1] kr)⟩
noncomputable def zpK (l:List Str) (i:Nat) :Cfg:=zaw B.ref11_names 0 [(0,ssl l),(10,ssl l),(11,iv ((l.map zaU).length:Nat)),(12,iv (i:Nat))] []
theorem zgO (l:List Str) (hl:zae l) (i:Nat)  (hi:i≤(l).length) (hI:True):((True)∧(decide ((((l).length:Nat):Int) < (((l.map zaU).length:Nat):Int))=false)∧∀ R,Good E0 B.ref11_names [] (zpK l (l).length ) R→Good E0 B.ref11_names [] (zpK l i ) R)∨(∃ (r:Bool),Good E0 B.ref11_names [] (zpK l i ) (Shut 0 fun rZ hZ=>rZ=(bv r)∧hZ=[])):=by
 obtain ⟨kk,hk⟩:∃ kk,i+kk=(l).length:=⟨(l).length - i,by omega⟩
 induction kk generalizing i  hI with
 | zero =>
  have e0:i=(l).length:=by omega
  subst e0
  exact .inl ⟨hI,by simp,fun R hg=>hg⟩
 | succ kk ih =>
  obtain ⟨x,hx⟩:=zay (l:=l) (i:=i) (by omega)
  have h0:decide (((i:Nat):Int) < (((l.map zaU).length:Nat):Int))=true:=by simp;omega
  have hw:IntKind.i64.wrap (((i:Nat):Int)+1)=((i+1:Nat):Int):=zas i zgu
  obtain ⟨r1,c1⟩:=(zax x)
  let p_1:List St:=[sb h0,se (zaj (fun s=>[sv s]) hx rfl),sc c1]
  cases h2:!r1
  ·let p_2:List St:=p_1++[sb h2,sqx (SubAt (List.map (fun s=>[sv s]) l) 0 (i:Int) 1)]
   rcases zgT l i x zaE 0 zaE zaE with ⟨q3,q3_1,g3⟩|⟨r3_0,g3⟩
   ·exact (ih (i+1) (by omega) zcx (by omega)).elim (fun ⟨qZ,xZ,gZ⟩=>.inl ⟨qZ,xZ,fun R hg=>zab (wkl p_2 [0,4,10,11,12,22,23,24] 0 kr (g3 _ (zab (wkl [sb q3_1,si hw] [0,10,11,12] 0 kr (gZ R hg)))))⟩) (fun ⟨rY,gZ⟩=>.inr ⟨rY,zab (wkl [sb h0,se (zaj (fun s=>[sv s]) hx rfl),sc c1,sb h2,sqx (SubAt (List.map (fun s=>[sv s]) l) 0 (i:Int) 1)] [0,4,10,11,12,22,23,24] 0 kr (g3 _ (zab (wkl [sb q3_1,si hw] [0,10,11,12] 0 kr gZ))))⟩)
   ·exact .inr ⟨r3_0,zab (wkl p_2 [0,4,10,11,12,22,23,24] 0 kr g3)⟩
  ·exact .inr ⟨false,zab (wkr (p_1++[sb h2]) kr)⟩
theorem zcM (l:List Str) (hl:zae l):∃ (r:Bool),zac E0 S.ref11_names [ssl l] [] (bv r) []:=by
 cases h1:decide (8 < (↑(List.map (fun s=>[sv s]) l).length:Int))
 ·rcases zgO l zaE 0 zaE zaE with ⟨q2,q2_1,g2⟩|⟨r2_0,g2⟩
  ·exact ⟨true,wkc At.ref11_names [sb h1] [0,10,11,12] 0 kr (g2 _ (zab (wkr [sb q2_1] kr)))⟩
  ·exact ⟨r2_0,wkc At.ref11_names [sb h1] [0,10,11,12] 0 kr (g2)⟩
 ·exact ⟨false,wk At.ref11_names [sb h1] kr⟩
theorem vqOk {n:Nat} {q:Qy} (h:QW n q):∃ b:Bool,zac E0 S.ref11_ValidQuery [q.av] [] (bv b) []:=zjk q (vlOk h.items h.hi) (vlOk h.wh h.hw)
abbrev acc (k:Int) (a:Ac):List AV:=[iv k,sv a.table,.sl (a.rows.map zaF),.sl (zad a.query),.sl (a.sets.map Se.cells),.sl (zaa a.wh),sv a.text]
theorem zgQ (a:Ac) (hw:∃ b:Bool,zac E0 S.ref11_all [xsl a.wh] [] (bv b) []) (hi:∃ b:Bool,zac E0 S.ref11_validInsert [.agg (acc 1 a)] [] (bv b) []) (hs:∃ b:Bool,zac E0 S.ref11_validSets [.sl (a.sets.map Se.cells)] [] (bv b) []):∃ (r:Bool),zac E0 S.ref11_ValidAction [.agg (acc 1 a)] [] (bv r) []:=by
 cases h1:!(1==5)==(ByteArray.toList a.table==(ByteArray.mk #[]).toList)
 ·cases h2:!ByteArray.toList a.table==(ByteArray.mk #[]).toList
  ·let p_1:List St:=[sg (rfl:false=false),sg h1,sb h2,sg (rfl:true=true)]
   cases h3:!ByteArray.toList a.text==(ByteArray.mk #[]).toList
   ·let p_2:List St:=p_1++[sb h3,sb (rfl:false=false),sg (rfl:true=true),sg (rfl:true=true)]
    cases h4:decide (0 < (↑(List.map Se.cells a.sets).length:Int))
    ·let p_3:List St:=p_2++[sg h4,sg (rfl:true=true),sg (rfl:true=true)]
     cases h5:decide (0 < (↑(zaa a.wh).length:Int))
     ·cases h6:decide (1 < (↑(zaa a.wh).length:Int))
      ·obtain ⟨b7,c7⟩:=hw
       cases h8:!b7
       ·obtain ⟨b9,c9⟩:=hi
        exact ⟨b9,wk At.ref11_ValidAction (p_3++[sb h5,sg h6,sc c7,sb h8,sb (rfl:true=true),sc c9]) kr⟩
       ·exact ⟨false,wk At.ref11_ValidAction (p_3++[sb h5,sg h6,sc c7,sb h8]) kr⟩
      ·exact ⟨false,wk At.ref11_ValidAction (p_3++[sb h5,sb h6]) kr⟩
     ·exact ⟨false,wk At.ref11_ValidAction (p_3++[sb h5]) kr⟩
    ·exact ⟨false,wk At.ref11_ValidAction (p_2++[sb h4]) kr⟩
   ·exact ⟨false,wk At.ref11_ValidAction (p_1++[sb h3]) kr⟩
  ·obtain ⟨r10,c10⟩:=(zax a.table)
   let p_4:List St:=[sg (rfl:false=false),sg h1,sg h2,sc c10]
   cases h11:!r10
   ·cases h12:!ByteArray.toList a.text==(ByteArray.mk #[]).toList
    ·let p_5:List St:=p_4++[sg h11,sg (rfl:true=true),sb h12,sb (rfl:false=false),sg (rfl:true=true),sg (rfl:true=true)]
     cases h13:decide (0 < (↑(List.map Se.cells a.sets).length:Int))
     ·let p_6:List St:=p_5++[sg h13,sg (rfl:true=true),sg (rfl:true=true)]
      cases h14:decide (0 < (↑(zaa a.wh).length:Int))
      ·cases h15:decide (1 < (↑(zaa a.wh).length:Int))
       ·obtain ⟨b16,c16⟩:=hw
        cases h17:!b16
        ·obtain ⟨b18,c18⟩:=hi
         exact ⟨b18,wk At.ref11_ValidAction (p_6++[sb h14,sg h15,sc c16,sb h17,sb (rfl:true=true),sc c18]) kr⟩
        ·exact ⟨false,wk At.ref11_ValidAction (p_6++[sb h14,sg h15,sc c16,sb h17]) kr⟩
       ·exact ⟨false,wk At.ref11_ValidAction (p_6++[sb h14,sb h15]) kr⟩
      ·exact ⟨false,wk At.ref11_ValidAction (p_6++[sb h14]) kr⟩
     ·exact ⟨false,wk At.ref11_ValidAction (p_5++[sb h13]) kr⟩
    ·exact ⟨false,wk At.ref11_ValidAction (p_4++[sg h11,sg (rfl:true=true),sb h12]) kr⟩
   ·exact ⟨false,wk At.ref11_ValidAction (p_4++[sb h11]) kr⟩
 ·exact ⟨false,wk At.ref11_ValidAction [sg (rfl:false=false),sb h1] kr⟩
theorem zgV (a:Ac) (hw:∃ b:Bool,zac E0 S.ref11_all [xsl a.wh] [] (bv b) []) (hi:∃ b:Bool,zac E0 S.ref11_validInsert [.agg (acc 2 a)] [] (bv b) []) (hs:∃ b:Bool,zac E0 S.ref11_validSets [.sl (a.sets.map Se.cells)] [] (bv b) []):∃ (r:Bool),zac E0 S.ref11_ValidAction [.agg (acc 2 a)] [] (bv r) []:=by
 cases h1:!(2==5)==(ByteArray.toList a.table==(ByteArray.mk #[]).toList)
 ·cases h2:!ByteArray.toList a.table==(ByteArray.mk #[]).toList
  ·let p_1:List St:=[sg (rfl:false=false),sg h1,sb h2,sg (rfl:true=true)]
   cases h3:!ByteArray.toList a.text==(ByteArray.mk #[]).toList
   ·let p_2:List St:=p_1++[sb h3,sg (rfl:true=true),si (e:=IntKind.i64.wrap ((↑(List.map zaF a.rows).length:Int)+(↑(zad a.query).length:Int))) rfl]
    cases h4:decide (0 < IntKind.i64.wrap ((↑(List.map zaF a.rows).length:Int)+(↑(zad a.query).length:Int)))
    ·let p_3:List St:=p_2++[sg h4,sb (rfl:false=false),sb (rfl:false=false)]
     cases h5:decide (1 < (↑(zaa a.wh).length:Int))
     ·obtain ⟨b6,c6⟩:=hw
      cases h7:!b6
      ·let p_4:List St:=p_3++[sg h5,sc c6,sb h7,sb (rfl:false=false),sb (rfl:true=true)]
       cases h8:decide (1≤(↑(List.map Se.cells a.sets).length:Int))
       ·exact ⟨false,wk At.ref11_ValidAction (p_4++[sb h8]) kr⟩
       ·cases h9:decide ((↑(List.map Se.cells a.sets).length:Int)≤8)
        ·exact ⟨false,wk At.ref11_ValidAction (p_4++[sg h8,sb h9]) kr⟩
        ·obtain ⟨b10,c10⟩:=hs
         exact ⟨b10,wk At.ref11_ValidAction (p_4++[sg h8,sg h9,sc c10]) kr⟩
      ·exact ⟨false,wk At.ref11_ValidAction (p_3++[sg h5,sc c6,sb h7]) kr⟩
     ·exact ⟨false,wk At.ref11_ValidAction (p_3++[sb h5]) kr⟩
    ·exact ⟨false,wk At.ref11_ValidAction (p_2++[sb h4]) kr⟩
   ·exact ⟨false,wk At.ref11_ValidAction (p_1++[sb h3]) kr⟩
  ·obtain ⟨r11,c11⟩:=(zax a.table)
   let p_5:List St:=[sg (rfl:false=false),sg h1,sg h2,sc c11]
   cases h12:!r11
   ·cases h13:!ByteArray.toList a.text==(ByteArray.mk #[]).toList
    ·let p_6:List St:=p_5++[sg h12,sg (rfl:true=true),sb h13,sg (rfl:true=true),si (e:=IntKind.i64.wrap ((↑(List.map zaF a.rows).length:Int)+(↑(zad a.query).length:Int))) rfl]
     cases h14:decide (0 < IntKind.i64.wrap ((↑(List.map zaF a.rows).length:Int)+(↑(zad a.query).length:Int)))
     ·let p_7:List St:=p_6++[sg h14,sb (rfl:false=false),sb (rfl:false=false)]
      cases h15:decide (1 < (↑(zaa a.wh).length:Int))
      ·obtain ⟨b16,c16⟩:=hw
       cases h17:!b16
       ·let p_8:List St:=p_7++[sg h15,sc c16,sb h17,sb (rfl:false=false),sb (rfl:true=true)]
        cases h18:decide (1≤(↑(List.map Se.cells a.sets).length:Int))
        ·exact ⟨false,wk At.ref11_ValidAction (p_8++[sb h18]) kr⟩
        ·cases h19:decide ((↑(List.map Se.cells a.sets).length:Int)≤8)
         ·exact ⟨false,wk At.ref11_ValidAction (p_8++[sg h18,sb h19]) kr⟩
         ·obtain ⟨b20,c20⟩:=hs
          exact ⟨b20,wk At.ref11_ValidAction (p_8++[sg h18,sg h19,sc c20]) kr⟩
       ·exact ⟨false,wk At.ref11_ValidAction (p_7++[sg h15,sc c16,sb h17]) kr⟩
      ·exact ⟨false,wk At.ref11_ValidAction (p_7++[sb h15]) kr⟩
     ·exact ⟨false,wk At.ref11_ValidAction (p_6++[sb h14]) kr⟩
    ·exact ⟨false,wk At.ref11_ValidAction (p_5++[sg h12,sg (rfl:true=true),sb h13]) kr⟩
   ·exact ⟨false,wk At.ref11_ValidAction (p_5++[sb h12]) kr⟩
 ·exact ⟨false,wk At.ref11_ValidAction [sg (rfl:false=false),sb h1] kr⟩
theorem zgI (a:Ac) (hw:∃ b:Bool,zac E0 S.ref11_all [xsl a.wh] [] (bv b) []) (hi:∃ b:Bool,zac E0 S.ref11_validInsert [.agg (acc 3 a)] [] (bv b) []) (hs:∃ b:Bool,zac E0 S.ref11_validSets [.sl (a.sets.map Se.cells)] [] (bv b) []):∃ (r:Bool),zac E0 S.ref11_ValidAction [.agg (acc 3 a)] [] (bv r) []:=by
 cases h1:!(3==5)==(ByteArray.toList a.table==(ByteArray.mk #[]).toList)
 ·cases h2:!ByteArray.toList a.table==(ByteArray.mk #[]).toList
  ·let p_1:List St:=[sg (rfl:false=false),sg h1,sb h2,sg (rfl:true=true)]
   cases h3:!ByteArray.toList a.text==(ByteArray.mk #[]).toList
   ·let p_2:List St:=p_1++[sb h3,sg (rfl:true=true),si (e:=IntKind.i64.wrap ((↑(List.map zaF a.rows).length:Int)+(↑(zad a.query).length:Int))) rfl]
    cases h4:decide (0 < IntKind.i64.wrap ((↑(List.map zaF a.rows).length:Int)+(↑(zad a.query).length:Int)))
    ·let p_3:List St:=p_2++[sg h4,sg (rfl:true=true),sg (rfl:true=true)]
     cases h5:decide (0 < (↑(List.map Se.cells a.sets).length:Int))
     ·let p_4:List St:=p_3++[sg h5,sg (rfl:true=true),sb (rfl:false=false)]
      cases h6:decide (1 < (↑(zaa a.wh).length:Int))
      ·obtain ⟨b7,c7⟩:=hw
       cases h8:!b7
       ·exact ⟨true,wk At.ref11_ValidAction (p_4++[sg h6,sc c7,sb h8,sb (rfl:false=false),sb (rfl:false=false),sb (rfl:true=true)]) kr⟩
       ·exact ⟨false,wk At.ref11_ValidAction (p_4++[sg h6,sc c7,sb h8]) kr⟩
      ·exact ⟨false,wk At.ref11_ValidAction (p_4++[sb h6]) kr⟩
     ·exact ⟨false,wk At.ref11_ValidAction (p_3++[sb h5]) kr⟩
    ·exact ⟨false,wk At.ref11_ValidAction (p_2++[sb h4]) kr⟩
   ·exact ⟨false,wk At.ref11_ValidAction (p_1++[sb h3]) kr⟩
  ·obtain ⟨r9,c9⟩:=(zax a.table)
   let p_5:List St:=[sg (rfl:false=false),sg h1,sg h2,sc c9]
   cases h10:!r9
   ·cases h11:!ByteArray.toList a.text==(ByteArray.mk #[]).toList
    ·let p_6:List St:=p_5++[sg h10,sg (rfl:true=true),sb h11,sg (rfl:true=true),si (e:=IntKind.i64.wrap ((↑(List.map zaF a.rows).length:Int)+(↑(zad a.query).length:Int))) rfl]
     cases h12:decide (0 < IntKind.i64.wrap ((↑(List.map zaF a.rows).length:Int)+(↑(zad a.query).length:Int)))
     ·let p_7:List St:=p_6++[sg h12,sg (rfl:true=true),sg (rfl:true=true)]
      cases h13:decide (0 < (↑(List.map Se.cells a.sets).length:Int))
      ·let p_8:List St:=p_7++[sg h13,sg (rfl:true=true),sb (rfl:false=false)]
       cases h14:decide (1 < (↑(zaa a.wh).length:Int))
       ·obtain ⟨b15,c15⟩:=hw
        cases h16:!b15
        ·exact ⟨true,wk At.ref11_ValidAction (p_8++[sg h14,sc c15,sb h16,sb (rfl:false=false),sb (rfl:false=false),sb (rfl:true=true)]) kr⟩
        ·exact ⟨false,wk At.ref11_ValidAction (p_8++[sg h14,sc c15,sb h16]) kr⟩
       ·exact ⟨false,wk At.ref11_ValidAction (p_8++[sb h14]) kr⟩
      ·exact ⟨false,wk At.ref11_ValidAction (p_7++[sb h13]) kr⟩
     ·exact ⟨false,wk At.ref11_ValidAction (p_6++[sb h12]) kr⟩
    ·exact ⟨false,wk At.ref11_ValidAction (p_5++[sg h10,sg (rfl:true=true),sb h11]) kr⟩
   ·exact ⟨false,wk At.ref11_ValidAction (p_5++[sb h10]) kr⟩
 ·exact ⟨false,wk At.ref11_ValidAction [sg (rfl:false=false),sb h1] kr⟩
theorem zgJ (a:Ac) (hw:∃ b:Bool,zac E0 S.ref11_all [xsl a.wh] [] (bv b) []) (hi:∃ b:Bool,zac E0 S.ref11_validInsert [.agg (acc 4 a)] [] (bv b) []) (hs:∃ b:Bool,zac E0 S.ref11_validSets [.sl (a.sets.map Se.cells)] [] (bv b) []):∃ (r:Bool),zac E0 S.ref11_ValidAction [.agg (acc 4 a)] [] (bv r) []:=by
 cases h1:!true==(ByteArray.toList a.table==(ByteArray.mk #[]).toList)
 ·cases h2:!ByteArray.toList a.table==(ByteArray.mk #[]).toList
  ·let p_1:List St:=[sb (rfl:true=true),sg h1,sb h2,sb (rfl:false=false),sg (rfl:true=true),si (e:=IntKind.i64.wrap ((↑(List.map zaF a.rows).length:Int)+(↑(zad a.query).length:Int))) rfl]
   cases h3:decide (0 < IntKind.i64.wrap ((↑(List.map zaF a.rows).length:Int)+(↑(zad a.query).length:Int)))
   ·let p_2:List St:=p_1++[sg h3,sg (rfl:true=true),sg (rfl:true=true)]
    cases h4:decide (0 < (↑(List.map Se.cells a.sets).length:Int))
    ·let p_3:List St:=p_2++[sg h4,sg (rfl:true=true),sg (rfl:true=true)]
     cases h5:decide (0 < (↑(zaa a.wh).length:Int))
     ·cases h6:decide (1 < (↑(zaa a.wh).length:Int))
      ·obtain ⟨b7,c7⟩:=hw
       cases h8:!b7
       ·obtain ⟨r9,c9⟩:=(zda (V.mk 3 0 a.text))
        exact ⟨r9,wk At.ref11_ValidAction (p_3++[sb h5,sg h6,sc c7,sb h8,sb (rfl:false=false),sb (rfl:false=false),sb (rfl:false=false),sb (rfl:true=true),sc c9]) kr⟩
       ·exact ⟨false,wk At.ref11_ValidAction (p_3++[sb h5,sg h6,sc c7,sb h8]) kr⟩
      ·exact ⟨false,wk At.ref11_ValidAction (p_3++[sb h5,sb h6]) kr⟩
     ·exact ⟨false,wk At.ref11_ValidAction (p_3++[sb h5]) kr⟩
    ·exact ⟨false,wk At.ref11_ValidAction (p_2++[sb h4]) kr⟩
   ·exact ⟨false,wk At.ref11_ValidAction (p_1++[sb h3]) kr⟩
  ·obtain ⟨r10,c10⟩:=(zax a.table)
   let p_4:List St:=[sb (rfl:true=true),sg h1,sg h2,sc c10]
   cases h11:!r10
   ·let p_5:List St:=p_4++[sg h11,sb (rfl:false=false),sg (rfl:true=true),si (e:=IntKind.i64.wrap ((↑(List.map zaF a.rows).length:Int)+(↑(zad a.query).length:Int))) rfl]
    cases h12:decide (0 < IntKind.i64.wrap ((↑(List.map zaF a.rows).length:Int)+(↑(zad a.query).length:Int)))
    ·let p_6:List St:=p_5++[sg h12,sg (rfl:true=true),sg (rfl:true=true)]
     cases h13:decide (0 < (↑(List.map Se.cells a.sets).length:Int))
     ·let p_7:List St:=p_6++[sg h13,sg (rfl:true=true),sg (rfl:true=true)]
      cases h14:decide (0 < (↑(zaa a.wh).length:Int))
      ·cases h15:decide (1 < (↑(zaa a.wh).length:Int))
       ·obtain ⟨b16,c16⟩:=hw
        cases h17:!b16
        ·obtain ⟨r18,c18⟩:=(zda (V.mk 3 0 a.text))
         exact ⟨r18,wk At.ref11_ValidAction (p_7++[sb h14,sg h15,sc c16,sb h17,sb (rfl:false=false),sb (rfl:false=false),sb (rfl:false=false),sb (rfl:true=true),sc c18]) kr⟩
        ·exact ⟨false,wk At.ref11_ValidAction (p_7++[sb h14,sg h15,sc c16,sb h17]) kr⟩
       ·exact ⟨false,wk At.ref11_ValidAction (p_7++[sb h14,sb h15]) kr⟩
      ·exact ⟨false,wk At.ref11_ValidAction (p_7++[sb h14]) kr⟩
     ·exact ⟨false,wk At.ref11_ValidAction (p_6++[sb h13]) kr⟩
    ·exact ⟨false,wk At.ref11_ValidAction (p_5++[sb h12]) kr⟩
   ·exact ⟨false,wk At.ref11_ValidAction (p_4++[sb h11]) kr⟩
 ·exact ⟨false,wk At.ref11_ValidAction [sb (rfl:true=true),sb h1] kr⟩
theorem zgS (a:Ac) (hw:∃ b:Bool,zac E0 S.ref11_all [xsl a.wh] [] (bv b) []) (hi:∃ b:Bool,zac E0 S.ref11_validInsert [.agg (acc 5 a)] [] (bv b) []) (hs:∃ b:Bool,zac E0 S.ref11_validSets [.sl (a.sets.map Se.cells)] [] (bv b) []):∃ (r:Bool),zac E0 S.ref11_ValidAction [.agg (acc 5 a)] [] (bv r) []:=by
 cases h1:!(5==5)==(ByteArray.toList a.table==(ByteArray.mk #[]).toList)
 ·cases h2:!ByteArray.toList a.table==(ByteArray.mk #[]).toList
  ·let p_1:List St:=[sg (rfl:false=false),sg h1,sb h2,sg (rfl:true=true)]
   cases h3:!ByteArray.toList a.text==(ByteArray.mk #[]).toList
   ·let p_2:List St:=p_1++[sb h3,sg (rfl:true=true),si (e:=IntKind.i64.wrap ((↑(List.map zaF a.rows).length:Int)+(↑(zad a.query).length:Int))) rfl]
    cases h4:decide (0 < IntKind.i64.wrap ((↑(List.map zaF a.rows).length:Int)+(↑(zad a.query).length:Int)))
    ·let p_3:List St:=p_2++[sg h4,sg (rfl:true=true),sb (rfl:false=false),sg (rfl:true=true),sg (rfl:true=true)]
     cases h5:decide (0 < (↑(zaa a.wh).length:Int))
     ·cases h6:decide (1 < (↑(zaa a.wh).length:Int))
      ·obtain ⟨b7,c7⟩:=hw
       cases h8:!b7
       ·let p_4:List St:=p_3++[sb h5,sg h6,sc c7,sb h8,sb (rfl:false=false),sb (rfl:false=false),sb (rfl:false=false),sb (rfl:false=false),sb (rfl:true=true)]
        cases h9:(↑(List.map Se.cells a.sets).length:Int)==1
        ·exact ⟨false,wk At.ref11_ValidAction (p_4++[sb h9]) kr⟩
        ·obtain ⟨b10,c10⟩:=hs
         exact ⟨b10,wk At.ref11_ValidAction (p_4++[sg h9,sc c10]) kr⟩
       ·exact ⟨false,wk At.ref11_ValidAction (p_3++[sb h5,sg h6,sc c7,sb h8]) kr⟩
      ·exact ⟨false,wk At.ref11_ValidAction (p_3++[sb h5,sb h6]) kr⟩
     ·exact ⟨false,wk At.ref11_ValidAction (p_3++[sb h5]) kr⟩
    ·exact ⟨false,wk At.ref11_ValidAction (p_2++[sb h4]) kr⟩
   ·exact ⟨false,wk At.ref11_ValidAction (p_1++[sb h3]) kr⟩
  ·obtain ⟨r11,c11⟩:=(zax a.table)
   let p_5:List St:=[sg (rfl:false=false),sg h1,sg h2,sc c11]
   cases h12:!r11
   ·cases h13:!ByteArray.toList a.text==(ByteArray.mk #[]).toList
    ·let p_6:List St:=p_5++[sg h12,sg (rfl:true=true),sb h13,sg (rfl:true=true),si (e:=IntKind.i64.wrap ((↑(List.map zaF a.rows).length:Int)+(↑(zad a.query).length:Int))) rfl]
     cases h14:decide (0 < IntKind.i64.wrap ((↑(List.map zaF a.rows).length:Int)+(↑(zad a.query).length:Int)))
     ·let p_7:List St:=p_6++[sg h14,sg (rfl:true=true),sb (rfl:false=false),sg (rfl:true=true),sg (rfl:true=true)]
      cases h15:decide (0 < (↑(zaa a.wh).length:Int))
      ·cases h16:decide (1 < (↑(zaa a.wh).length:Int))
       ·obtain ⟨b17,c17⟩:=hw
        cases h18:!b17
        ·let p_8:List St:=p_7++[sb h15,sg h16,sc c17,sb h18,sb (rfl:false=false),sb (rfl:false=false),sb (rfl:false=false),sb (rfl:false=false),sb (rfl:true=true)]
         cases h19:(↑(List.map Se.cells a.sets).length:Int)==1
         ·exact ⟨false,wk At.ref11_ValidAction (p_8++[sb h19]) kr⟩
         ·obtain ⟨b20,c20⟩:=hs
          exact ⟨b20,wk At.ref11_ValidAction (p_8++[sg h19,sc c20]) kr⟩
        ·exact ⟨false,wk At.ref11_ValidAction (p_7++[sb h15,sg h16,sc c17,sb h18]) kr⟩
       ·exact ⟨false,wk At.ref11_ValidAction (p_7++[sb h15,sb h16]) kr⟩
      ·exact ⟨false,wk At.ref11_ValidAction (p_7++[sb h15]) kr⟩
     ·exact ⟨false,wk At.ref11_ValidAction (p_6++[sb h14]) kr⟩
    ·exact ⟨false,wk At.ref11_ValidAction (p_5++[sg h12,sg (rfl:true=true),sb h13]) kr⟩
   ·exact ⟨false,wk At.ref11_ValidAction (p_5++[sb h12]) kr⟩
 ·exact ⟨false,wk At.ref11_ValidAction [sg (rfl:false=false),sb h1] kr⟩
theorem zgK (a:Ac) (n1:(a.kind==1)=false) (n2:(a.kind==2)=false) (n3:(a.kind==3)=false) (n4:(a.kind==4)=false) (n5:(a.kind==5)=false) (m1:(a.kind != 1)=true) (m2:(a.kind != 2)=true) (m3:(a.kind != 3)=true) (m4:(a.kind != 4)=true) (m5:(a.kind != 5)=true) (hw:∃ b:Bool,zac E0 S.ref11_all [xsl a.wh] [] (bv b) []):∃ (r:Bool),zac E0 S.ref11_ValidAction [a.av] [] (bv r) []:=by
 cases h1:!(a.kind==5)==(ByteArray.toList a.table==(ByteArray.mk #[]).toList)
 ·cases h2:!ByteArray.toList a.table==(ByteArray.mk #[]).toList
  ·cases h3:!ByteArray.toList a.text==(ByteArray.mk #[]).toList
   ·let p_1:List St:=[sg n4,sg h1,sb h2,sg m4,sb h3,sg m1,si (e:=IntKind.i64.wrap ((↑(List.map (fun r=>[AV.sl (zaa r)]) a.rows).length:Int)+(↑(zad a.query).length:Int))) rfl]
    cases h4:decide (0 < IntKind.i64.wrap ((↑(List.map (fun r=>[AV.sl (zaa r)]) a.rows).length:Int)+(↑(zad a.query).length:Int)))
    ·cases h5:decide (0 < (↑(List.map Se.cells a.sets).length:Int))
     ·let p_2:List St:=p_1++[sg h4,sg m2,sg m5,sg h5,sg m2,sg m3]
      cases h6:decide (0 < (↑(zaa a.wh).length:Int))
      ·cases h7:decide (1 < (↑(zaa a.wh).length:Int))
       ·obtain ⟨b8,c8⟩:=hw
        cases h9:!b8
        ·exact ⟨false,wk At.ref11_ValidAction (p_2++[sb h6,sg h7,sc c8,sb h9,sb n1,sb n2,sb n3,sb n4,sb n5]) kr⟩
        ·exact ⟨false,wk At.ref11_ValidAction (p_2++[sb h6,sg h7,sc c8,sb h9]) kr⟩
       ·exact ⟨false,wk At.ref11_ValidAction (p_2++[sb h6,sb h7]) kr⟩
      ·exact ⟨false,wk At.ref11_ValidAction (p_2++[sb h6]) kr⟩
     ·exact ⟨false,wk At.ref11_ValidAction (p_1++[sg h4,sg m2,sg m5,sb h5]) kr⟩
    ·exact ⟨false,wk At.ref11_ValidAction (p_1++[sb h4]) kr⟩
   ·exact ⟨false,wk At.ref11_ValidAction [sg n4,sg h1,sb h2,sg m4,sb h3] kr⟩
  ·obtain ⟨r10,c10⟩:=(zax a.table)
   cases h11:!r10
   ·let p_3:List St:=[sg n4,sg h1,sg h2,sc c10,sg h11,sg m4]
    cases h12:!ByteArray.toList a.text==(ByteArray.mk #[]).toList
    ·let p_4:List St:=p_3++[sb h12,sg m1,si (e:=IntKind.i64.wrap ((↑(List.map (fun r=>[AV.sl (zaa r)]) a.rows).length:Int)+(↑(zad a.query).length:Int))) rfl]
     cases h13:decide (0 < IntKind.i64.wrap ((↑(List.map (fun r=>[AV.sl (zaa r)]) a.rows).length:Int)+(↑(zad a.query).length:Int)))
     ·cases h14:decide (0 < (↑(List.map Se.cells a.sets).length:Int))
      ·let p_5:List St:=p_4++[sg h13,sg m2,sg m5,sg h14,sg m2,sg m3]
       cases h15:decide (0 < (↑(zaa a.wh).length:Int))
       ·cases h16:decide (1 < (↑(zaa a.wh).length:Int))
        ·obtain ⟨b17,c17⟩:=hw
         cases h18:!b17
         ·exact ⟨false,wk At.ref11_ValidAction (p_5++[sb h15,sg h16,sc c17,sb h18,sb n1,sb n2,sb n3,sb n4,sb n5]) kr⟩
         ·exact ⟨false,wk At.ref11_ValidAction (p_5++[sb h15,sg h16,sc c17,sb h18]) kr⟩
        ·exact ⟨false,wk At.ref11_ValidAction (p_5++[sb h15,sb h16]) kr⟩
       ·exact ⟨false,wk At.ref11_ValidAction (p_5++[sb h15]) kr⟩
      ·exact ⟨false,wk At.ref11_ValidAction (p_4++[sg h13,sg m2,sg m5,sb h14]) kr⟩
     ·exact ⟨false,wk At.ref11_ValidAction (p_4++[sb h13]) kr⟩
    ·exact ⟨false,wk At.ref11_ValidAction (p_3++[sb h12]) kr⟩
   ·exact ⟨false,wk At.ref11_ValidAction [sg n4,sg h1,sg h2,sc c10,sb h11] kr⟩
 ·exact ⟨false,wk At.ref11_ValidAction [sg n4,sb h1] kr⟩
theorem zi3 (a:Ac) (hw:∃ b:Bool,zac E0 S.ref11_all [xsl a.wh] [] (bv b) []) (hi:∃ b:Bool,zac E0 S.ref11_validInsert [a.av] [] (bv b) []) (hs:∃ b:Bool,zac E0 S.ref11_validSets [.sl (a.sets.map Se.cells)] [] (bv b) []):∃ (r:Bool),zac E0 S.ref11_ValidAction [a.av] [] (bv r) []:=by
 cases a with
 | mk k tb rows query sets wh text =>
  by_cases h1:k=1
  ·subst h1;exact zgQ _ hw hi hs
  by_cases h2:k=2
  ·subst h2;exact zgV _ hw hi hs
  by_cases h3:k=3
  ·subst h3;exact zgI _ hw hi hs
  by_cases h4:k=4
  ·subst h4;exact zgJ _ hw hi hs
  by_cases h5:k=5
  ·subst h5;exact zgS _ hw hi hs
  exact zgK _ (by simp [h1]) (by simp [h2]) (by simp [h3]) (by simp [h4]) (by simp [h5]) (by simp [h1]) (by simp [h2]) (by simp [h3]) (by simp [h4]) (by simp [h5]) hw
noncomputable def zpF (t:Tg) (i:Nat) :Cfg:=zaw B.ref11_ValidTrigger 1 [(1,.p 0 0),(112,.sl (t.acts.map Ac.cells)),(113,iv ((t.acts.map Ac.cells).length:Nat)),(114,iv (i:Nat))] [.box t.cells]
theorem zeN (t:Tg) (h5:zae t.acts) (ha:∀ a∈t.acts,∃ b:Bool,zac E0 S.ref11_ValidAction [a.av] [] (bv b) []) (i:Nat)  (hi:i≤(t.acts).length) (hI:True):((True)∧(decide ((((t.acts).length:Nat):Int) < (((t.acts.map Ac.cells).length:Nat):Int))=false)∧∀ R,Good E0 B.ref11_ValidTrigger [] (zpF t (t.acts).length ) R→Good E0 B.ref11_ValidTrigger [] (zpF t i ) R)∨(∃ (r:Bool),Good E0 B.ref11_ValidTrigger [] (zpF t i ) (Shut 0 fun rZ hZ=>rZ=(bv r)∧hZ=[])):=by
 obtain ⟨kk,hk⟩:∃ kk,i+kk=(t.acts).length:=⟨(t.acts).length - i,by omega⟩
 induction kk generalizing i  hI with
 | zero =>
  have e0:i=(t.acts).length:=by omega
  subst e0
  exact .inl ⟨hI,by simp,fun R hg=>hg⟩
 | succ kk ih =>
  obtain ⟨x,hx⟩:=zay (l:=t.acts) (i:=i) (by omega)
  have h0:decide (((i:Nat):Int) < (((t.acts.map Ac.cells).length:Nat):Int))=true:=by simp;omega
  have hw:IntKind.i64.wrap (((i:Nat):Int)+1)=((i+1:Nat):Int):=zas i zgu
  have hxa:=ha x (List.mem_of_getElem? hx)
  obtain ⟨b1,c1⟩:=hxa
  let p_1:List St:=[sb h0,se (zaj Ac.cells hx rfl),sc c1]
  let p_2:List St:=[sb h0,se (zaj Ac.cells hx rfl),sc c1]
  cases h2:!b1
  ·cases h3:t.before
   ·cases h4:x.kind==5
    ·exact (ih (i+1) (by omega) zcx (by omega)).elim (fun ⟨qZ,xZ,gZ⟩=>.inl ⟨qZ,xZ,fun R hg=>zab (wkl (p_1++[sg h2,sb h3,sb h4,si hw]) [1,112,113,114] 1 kr (gZ R hg))⟩) (fun ⟨rY,gZ⟩=>.inr ⟨rY,zab (wkl (p_2++[sg h2,sb h3,sb h4,si hw]) [1,112,113,114] 1 kr gZ)⟩)
    ·exact .inr ⟨false,zab (wkr (p_1++[sg h2,sb h3,sg h4,sb (congrArg Bool.not h3)]) kr)⟩
   ·cases h5:x.kind != 4
    ·cases h6:x.kind==5
     ·exact (ih (i+1) (by omega) zcx (by omega)).elim (fun ⟨qZ,xZ,gZ⟩=>.inl ⟨qZ,xZ,fun R hg=>zab (wkl (p_1++[sg h2,sg h3,sb h5,sb h6,si hw]) [1,112,113,114] 1 kr (gZ R hg))⟩) (fun ⟨rY,gZ⟩=>.inr ⟨rY,zab (wkl (p_2++[sg h2,sg h3,sb h5,sb h6,si hw]) [1,112,113,114] 1 kr gZ)⟩)
     ·let p_3:List St:=p_1++[sg h2,sg h3,sb h5,sg h6,sg (congrArg Bool.not h3)]
      cases h7:!t.each
      ·cases h8:t.event==3
       ·exact (ih (i+1) (by omega) zcx (by omega)).elim (fun ⟨qZ,xZ,gZ⟩=>.inl ⟨qZ,xZ,fun R hg=>zab (wkl (p_3++[sg h7,sb h8,si hw]) [1,112,113,114] 1 kr (gZ R hg))⟩) (fun ⟨rY,gZ⟩=>.inr ⟨rY,zab (wkl (p_2++[sg h2,sg h3,sb h5,sg h6,sg (congrArg Bool.not h3),sg h7,sb h8,si hw]) [1,112,113,114] 1 kr gZ)⟩)
       ·exact .inr ⟨false,zab (wkr (p_3++[sg h7,sb h8]) kr)⟩
      ·exact .inr ⟨false,zab (wkr (p_3++[sb h7]) kr)⟩
    ·cases h9:!x.kind==5
     ·let p_4:List St:=p_1++[sg h2,sg h3,sg h5,sg h9,sg (znO h9),sg (congrArg Bool.not h3)]
      cases h10:!t.each
      ·cases h11:t.event==3
       ·exact (ih (i+1) (by omega) zcx (by omega)).elim (fun ⟨qZ,xZ,gZ⟩=>.inl ⟨qZ,xZ,fun R hg=>zab (wkl (p_4++[sg h10,sb h11,si hw]) [1,112,113,114] 1 kr (gZ R hg))⟩) (fun ⟨rY,gZ⟩=>.inr ⟨rY,zab (wkl (p_2++[sg h2,sg h3,sg h5,sg h9,sg (znO h9),sg (congrArg Bool.not h3),sg h10,sb h11,si hw]) [1,112,113,114] 1 kr gZ)⟩)
       ·exact .inr ⟨false,zab (wkr (p_4++[sg h10,sb h11]) kr)⟩
      ·exact .inr ⟨false,zab (wkr (p_4++[sb h10]) kr)⟩
     ·exact .inr ⟨false,zab (wkr (p_1++[sg h2,sg h3,sg h5,sb h9]) kr)⟩
  ·exact .inr ⟨false,zab (wkr (p_1++[sb h2]) kr)⟩
noncomputable def zmQ (t:Tg) (i:Nat) :Cfg:=zaw B.ref11_ValidTrigger 0 [(1,.p 0 0),(84,.sl (t.rank.map Rk.cells)),(85,iv ((t.rank.map Rk.cells).length:Nat)),(86,iv (i:Nat))] [.box t.cells]
theorem zeq (t:Tg) (h4:zae t.rank) (i:Nat)  (hi:i≤(t.rank).length) (hI:True):((True)∧(decide ((((t.rank).length:Nat):Int) < (((t.rank.map Rk.cells).length:Nat):Int))=false)∧∀ R,Good E0 B.ref11_ValidTrigger [] (zmQ t (t.rank).length ) R→Good E0 B.ref11_ValidTrigger [] (zmQ t i ) R)∨(∃ (r:Bool),Good E0 B.ref11_ValidTrigger [] (zmQ t i ) (Shut 0 fun rZ hZ=>rZ=(bv r)∧hZ=[])):=by
 obtain ⟨kk,hk⟩:∃ kk,i+kk=(t.rank).length:=⟨(t.rank).length - i,by omega⟩
 induction kk generalizing i  hI with
 | zero =>
  have e0:i=(t.rank).length:=by omega
  subst e0
  exact .inl ⟨hI,by simp,fun R hg=>hg⟩
 | succ kk ih =>
  obtain ⟨x,hx⟩:=zay (l:=t.rank) (i:=i) (by omega)
  have h0:decide (((i:Nat):Int) < (((t.rank.map Rk.cells).length:Nat):Int))=true:=by simp;omega
  have hw:IntKind.i64.wrap (((i:Nat):Int)+1)=((i+1:Nat):Int):=zas i zgu
  obtain ⟨r1,c1⟩:=(zax x.table)
  let p_1:List St:=[sb h0,se (zaj Rk.cells hx rfl),sc c1]
  cases h2:!r1
  ·obtain ⟨r3,c3⟩:=(zax x.col)
   cases h4:!r3
   ·cases h5:x.low==-9223372036854775808
    ·cases h6:x.high==-9223372036854775808
     ·exact (ih (i+1) (by omega) zcx (by omega)).elim (fun ⟨qZ,xZ,gZ⟩=>.inl ⟨qZ,xZ,fun R hg=>zab (wkl (p_1++[sg h2,sc c3,sg h4,sg h5,sb h6,si hw]) [1,84,85,86] 1 kr (gZ R hg))⟩) (fun ⟨rY,gZ⟩=>.inr ⟨rY,zab (wkl [sb h0,se (zaj Rk.cells hx rfl),sc c1,sg h2,sc c3,sg h4,sg h5,sb h6,si hw] [1,84,85,86] 1 kr gZ)⟩)
     ·exact .inr ⟨false,zab (wkr (p_1++[sg h2,sc c3,sg h4,sg h5,sb h6]) kr)⟩
    ·exact .inr ⟨false,zab (wkr (p_1++[sg h2,sc c3,sg h4,sb h5]) kr)⟩
   ·exact .inr ⟨false,zab (wkr (p_1++[sg h2,sc c3,sb h4]) kr)⟩
  ·exact .inr ⟨false,zab (wkr (p_1++[sb h2]) kr)⟩
theorem zbA (t:Tg) (ha:∀ a∈t.acts,∃ b:Bool,zac E0 S.ref11_ValidAction [a.av] [] (bv b) []) (hsr:zae t.rank) (hsa:zae t.acts):∃ (r:Bool),Good E0 B.ref11_ValidTrigger [] (zmQ t 0) (Shut 0 fun rZ hZ=>rZ=(bv r)∧hZ=[]):=by
  rcases zeq t zaE 0 zaE zaE with ⟨q1,q1_1,g1⟩|⟨r1_0,g1⟩
  ·rcases zeN t zaE zaE 0 zaE zaE with ⟨q2,q2_1,g2⟩|⟨r2_0,g2⟩
   ·cases h3:decide (1≤(↑(List.map Ac.cells t.acts).length:Int))
    ·exact ⟨false,wkl [] [1,84,85,86] 1 kr (g1 _ (zab (wkl [sb q1_1] [1,112,113,114] 1 kr (g2 _ (zab (wkr [sb q2_1,sb h3] kr))))))⟩
    ·exact ⟨decide ((↑(List.map Ac.cells t.acts).length:Int)≤(4:Int)),wkl [] [1,84,85,86] 1 kr (g1 _ (zab (wkl [sb q1_1] [1,112,113,114] 1 kr (g2 _ (zab (wkr [sb q2_1,sg h3] kr))))))⟩
   ·exact ⟨r2_0,wkl [] [1,84,85,86] 1 kr (g1 _ (zab (wkl [sb q1_1] [1,112,113,114] 1 kr g2)))⟩
  ·exact ⟨r1_0,wkl [] [1,84,85,86] 1 kr (g1)⟩
theorem zin (t:Tg) (hw:∃ b:Bool,zac E0 S.ref11_all [xsl t.when_] [] (bv b) []) (ha:∀ a∈t.acts,∃ b:Bool,zac E0 S.ref11_ValidAction [a.av] [] (bv b) []) (h1:zae t.of) (h2:zae t.prec) (h3:zae t.foll) (h4:zae t.rank) (h5:zae t.acts):∃ (r:Bool),zac E0 S.ref11_ValidTrigger [t.av] [] (bv r) []:=by
 obtain ⟨r1,c1⟩:=(zax t.name)
 cases h2:!r1
 ·obtain ⟨r3,c3⟩:=(zax t.table)
  cases h4:!r3
  ·cases h5:decide (t.event < 1)
   ·cases h6:decide (3 < t.event)
    ·let p_1:List St:=[sc c1,sg h2,sc c3,sg h4,sg h5,sg h6]
     cases h7:t.event != 2
     ·obtain ⟨r8,c8⟩:=(zcM t.of zaE)
      cases h9:!r8
      ·obtain ⟨r10,c10⟩:=(zcM t.prec zaE)
       cases h11:!r10
       ·obtain ⟨r12,c12⟩:=(zcM t.foll zaE)
        let p_2:List St:=p_1++[sb h7,sc c8,sg h9,sc c10,sg h11,sc c12]
        cases h13:!r12
        ·cases h14:decide (1 < (↑(List.map Rk.cells t.rank).length:Int))
         ·cases h15:t.before
          ·cases h16:decide (1 < (↑(zaa t.when_).length:Int))
           ·obtain ⟨b17,c17⟩:=hw
            let p_3:List St:=p_2++[sg h13,sg h14,sb h15,sg h16,sc c17]
            cases h18:!b17
            ·obtain ⟨r19_0,g19⟩:=zbA t zaE zaE zaE
             exact ⟨r19_0,wkc At.ref11_ValidTrigger (p_3++[sb h18]) [1,84,85,86] 1 kr (g19)⟩
            ·exact ⟨false,wk At.ref11_ValidTrigger (p_3++[sb h18]) kr⟩
           ·exact ⟨false,wk At.ref11_ValidTrigger (p_2++[sg h13,sg h14,sb h15,sb h16]) kr⟩
          ·cases h20:decide (0 < (↑(List.map Rk.cells t.rank).length:Int))
           ·cases h21:decide (1 < (↑(zaa t.when_).length:Int))
            ·obtain ⟨b22,c22⟩:=hw
             let p_4:List St:=p_2++[sg h13,sg h14,sg h15,sg h20,sg h21,sc c22]
             cases h23:!b22
             ·obtain ⟨r24_0,g24⟩:=zbA t zaE zaE zaE
              exact ⟨r24_0,wkc At.ref11_ValidTrigger (p_4++[sb h23]) [1,84,85,86] 1 kr (g24)⟩
             ·exact ⟨false,wk At.ref11_ValidTrigger (p_4++[sb h23]) kr⟩
            ·exact ⟨false,wk At.ref11_ValidTrigger (p_2++[sg h13,sg h14,sg h15,sg h20,sb h21]) kr⟩
           ·exact ⟨false,wk At.ref11_ValidTrigger (p_2++[sg h13,sg h14,sg h15,sb h20]) kr⟩
         ·exact ⟨false,wk At.ref11_ValidTrigger (p_2++[sg h13,sb h14]) kr⟩
        ·exact ⟨false,wk At.ref11_ValidTrigger (p_2++[sb h13]) kr⟩
       ·exact ⟨false,wk At.ref11_ValidTrigger (p_1++[sb h7,sc c8,sg h9,sc c10,sb h11]) kr⟩
      ·exact ⟨false,wk At.ref11_ValidTrigger (p_1++[sb h7,sc c8,sb h9]) kr⟩
     ·cases h25:decide (0 < (↑(List.map (fun s=>[sv s]) t.of).length:Int))
      ·obtain ⟨r26,c26⟩:=(zcM t.of zaE)
       cases h27:!r26
       ·obtain ⟨r28,c28⟩:=(zcM t.prec zaE)
        cases h29:!r28
        ·obtain ⟨r30,c30⟩:=(zcM t.foll zaE)
         let p_5:List St:=p_1++[sg h7,sb h25,sc c26,sg h27,sc c28,sg h29,sc c30]
         cases h31:!r30
         ·cases h32:decide (1 < (↑(List.map Rk.cells t.rank).length:Int))
          ·cases h33:t.before
           ·cases h34:decide (1 < (↑(zaa t.when_).length:Int))
            ·obtain ⟨b35,c35⟩:=hw
             let p_6:List St:=p_5++[sg h31,sg h32,sb h33,sg h34,sc c35]
             cases h36:!b35
             ·obtain ⟨r37_0,g37⟩:=zbA t zaE zaE zaE
              exact ⟨r37_0,wkc At.ref11_ValidTrigger (p_6++[sb h36]) [1,84,85,86] 1 kr (g37)⟩
             ·exact ⟨false,wk At.ref11_ValidTrigger (p_6++[sb h36]) kr⟩
            ·exact ⟨false,wk At.ref11_ValidTrigger (p_5++[sg h31,sg h32,sb h33,sb h34]) kr⟩
           ·cases h38:decide (0 < (↑(List.map Rk.cells t.rank).length:Int))
            ·cases h39:decide (1 < (↑(zaa t.when_).length:Int))
             ·obtain ⟨b40,c40⟩:=hw
              let p_7:List St:=p_5++[sg h31,sg h32,sg h33,sg h38,sg h39,sc c40]
              cases h41:!b40
              ·obtain ⟨r42_0,g42⟩:=zbA t zaE zaE zaE
               exact ⟨r42_0,wkc At.ref11_ValidTrigger (p_7++[sb h41]) [1,84,85,86] 1 kr (g42)⟩
              ·exact ⟨false,wk At.ref11_ValidTrigger (p_7++[sb h41]) kr⟩
             ·exact ⟨false,wk At.ref11_ValidTrigger (p_5++[sg h31,sg h32,sg h33,sg h38,sb h39]) kr⟩
            ·exact ⟨false,wk At.ref11_ValidTrigger (p_5++[sg h31,sg h32,sg h33,sb h38]) kr⟩
          ·exact ⟨false,wk At.ref11_ValidTrigger (p_5++[sg h31,sb h32]) kr⟩
         ·exact ⟨false,wk At.ref11_ValidTrigger (p_5++[sb h31]) kr⟩
        ·exact ⟨false,wk At.ref11_ValidTrigger (p_1++[sg h7,sb h25,sc c26,sg h27,sc c28,sb h29]) kr⟩
       ·exact ⟨false,wk At.ref11_ValidTrigger (p_1++[sg h7,sb h25,sc c26,sb h27]) kr⟩
      ·exact ⟨false,wk At.ref11_ValidTrigger (p_1++[sg h7,sb h25]) kr⟩
    ·exact ⟨false,wk At.ref11_ValidTrigger [sc c1,sg h2,sc c3,sg h4,sg h5,sb h6] kr⟩
   ·exact ⟨false,wk At.ref11_ValidTrigger [sc c1,sg h2,sc c3,sg h4,sb h5] kr⟩
  ·exact ⟨false,wk At.ref11_ValidTrigger [sc c1,sg h2,sc c3,sb h4] kr⟩
 ·exact ⟨false,wk At.ref11_ValidTrigger [sc c1,sb h2] kr⟩
theorem vaOk {n:Nat} {a:Ac} (h:AcOk n a):∃ b:Bool,zac E0 S.ref11_ValidAction [a.av] [] (bv b) [] :=
 zi3 a (vlOk h.wh h.w) (ziW a (zaI h.rows) (fun r hr=>vlOk (h.row r hr).1 (h.row r hr).2) fun q hq=>vqOk (h.qs q hq)) (zj5 _ (zaI h.sets) fun s hs=>vxOk n _ (h.set s hs))
theorem vtOk {n:Nat} {t:Tg} (h:TgOk n t):∃ b:Bool,zac E0 S.ref11_ValidTrigger [t.av] [] (bv b) [] :=
 zin t (vlOk h.whens h.when_) (fun a ha=>vaOk (h.act a ha)) (zaI h.of) (zaI h.prec) (zaI h.foll) (zaI h.rank) (zaI h.acts)
end Go.AM
namespace Go.AM
set_option maxRecDepth 100000
set_option maxHeartbeats 1000000
set_option linter.unusedSimpArgs false
set_option linter.unusedVariables false
theorem zcb {p:Prop} (h:p:=by first|assumption|omega|(simp;done)|(simp;omega)):p:=h
theorem zhD {p:Prop} (h:p:=by first|(simp;done)|(simp;exact ⟨_,rfl⟩)|(simp;exact ⟨⟨_,rfl⟩,⟨_,rfl⟩⟩)):p:=h
theorem zhz {p:Prop} (h:p:=by first|assumption|(simp [zae];done)|(simp only [zae] at *;omega)):p:=h
theorem znj {p:Prop} (h:p:=by first|trivial|assumption|(simp;done)|omega|(simp;omega)|(simp at *;omega)):p:=h
theorem zlt {p:Prop} (h:p:=by first|omega|(simp only [zae,Few] at *;omega)):p:=h
noncomputable def L_fd (s:Sch) (n:Str) (i:Nat) :Cfg:=zaw B.ref4_Find 0 [(1,sv n),(8,.sl (s.cols.map Col.cells)),(9,iv ((s.cols.map Col.cells).length:Nat)),(10,iv (i:Nat))] [.box s.cells]
theorem zih (s:Sch) (n:Str) (h:zae s.cols) (i:Nat)  (hi:i≤(s.cols).length) (hI:True):((True)∧(decide ((((s.cols).length:Nat):Int) < (((s.cols.map Col.cells).length:Nat):Int))=false)∧∀ R,Good E0 B.ref4_Find [] (L_fd s n (s.cols).length ) R→Good E0 B.ref4_Find [] (L_fd s n i ) R)∨(∃ (r:Int),(-1≤r∧r < s.cols.length)∧Good E0 B.ref4_Find [] (L_fd s n i ) (Shut 0 fun rZ hZ=>rZ=(iv r)∧hZ=[])):=by
 obtain ⟨kk,hk⟩:∃ kk,i+kk=(s.cols).length:=⟨(s.cols).length - i,by omega⟩
 induction kk generalizing i  hI with
 | zero =>
  have e0:i=(s.cols).length:=by omega
  subst e0
  exact .inl ⟨hI,by simp,fun R hg=>hg⟩
 | succ kk ih =>
  obtain ⟨x,hx⟩:=zay (l:=s.cols) (i:=i) (by omega)
  have h0:decide (((i:Nat):Int) < (((s.cols.map Col.cells).length:Nat):Int))=true:=by simp;omega
  have hw:IntKind.i64.wrap (((i:Nat):Int)+1)=((i+1:Nat):Int):=zas i zlt
  let p_1:List St:=[sb h0,se (zaj Col.cells hx rfl)]
  cases h1:ByteArray.toList x.name==ByteArray.toList n
  ·exact (ih (i+1) (by omega) znj (by omega)).elim (fun ⟨qZ,xZ,gZ⟩=>.inl ⟨qZ,xZ,fun R hg=>zab (wkl (p_1++[sb h1,si hw]) [1,8,9,10] 1 kr (gZ R hg))⟩) (fun ⟨rY,pZ,gZ⟩=>.inr ⟨rY,pZ,zab (wkl [sb h0,se (zaj Col.cells hx rfl),sb h1,si hw] [1,8,9,10] 1 kr gZ)⟩)
  ·exact .inr ⟨(i:Int),(by (have:=(List.getElem?_eq_some_iff.mp hx).1;omega)),zab (wkr (p_1++[sb h1]) kr)⟩
theorem zdo (s:Sch) (n:Str) (h:zae s.cols):∃ (r:Int),(-1≤r∧r < s.cols.length)∧zac E0 S.ref4_Find [s.av,sv n] [] (iv r) []:=by
 rcases zih s n zcb 0 zcb zcb with ⟨q1,q1_1,g1⟩|⟨r1_0,p1_0,g1⟩
 ·exact ⟨-1,(by first|assumption|omega),wkc At.ref4_Find [] [1,8,9,10] 1 kr (g1 _ (zab (wkr [sb q1_1] kr)))⟩
 ·exact ⟨r1_0,(by first|assumption|omega),wkc At.ref4_Find [] [1,8,9,10] 1 kr (g1)⟩
noncomputable def L_cr0 :Cfg:=zaw B.ref17_copyRows 0 [(3,.nl),(6,.sl []),(7,iv 0),(8,iv 0)] []
theorem zfS :True∧∀ R,Good E0 B.ref17_copyRows [] (L_cr0 ) R→Good E0 B.ref17_copyRows [] (L_cr0 ) R:=⟨trivial,fun _ h=>h⟩
theorem zkB (_u:Unit) :∃ (r:List Rw),r=[]∧zac E0 S.ref17_copyRows [.sl []] [] (.sl (r.map Rw.cells)) []:=by
 obtain ⟨q1,g1⟩:=zfS
 exact ⟨[],(by first|assumption|trivial|(simp;done)|omega|(simp;omega)|(simp at *;omega)),wkc At.ref17_copyRows [] [3,6,7,8] 0 kr (g1 _ (zab (wkr [sb (rfl:false=false)] kr)))⟩
theorem zkx:zac E0 S.ref17_copyRows [.sl []] [] (.sl []) []:=by
 obtain ⟨r,rfl,h⟩:=zkB ()
 exact h
def Col.tr (c:Col):Col:=⟨c.name,c.type,false,false⟩
def trTb (n:Str) (s:Sch):Tb:=⟨⟨n,s.cols.map Col.tr⟩,1,[]⟩
noncomputable def L_tr (n:Str) (s:Sch) (i:Nat) (cs:List Col):Cfg:=zaw B.ref17_transition 0 [(2,.sl []),(6,.p 1 0),(7,.p 2 0),(16,.sl (s.cols.map Col.cells)),(17,iv ((s.cols.map Col.cells).length:Nat)),(18,iv (i:Nat))] [.box s.cells,.box [sv ⟨#[]⟩,.nl,iv 0,.nl],.box [sv n,.own 3 cs.length,iv 1,.sl []],.row Ty.Column (cs.map Col.cells) false]
theorem zfC (n:Str) (s:Sch) (h:zae s.cols) (i:Nat) (cs:List Col) (hi:i≤(s.cols).length) (hI:cs=(s.cols.take i).map Col.tr):∃ (cs':List Col),(cs'=(s.cols.take (s.cols).length).map Col.tr)∧(decide ((((s.cols).length:Nat):Int) < (((s.cols.map Col.cells).length:Nat):Int))=false)∧∀ R,Good E0 B.ref17_transition [] (L_tr n s (s.cols).length cs') R→Good E0 B.ref17_transition [] (L_tr n s i cs) R:=by
 obtain ⟨kk,hk⟩:∃ kk,i+kk=(s.cols).length:=⟨(s.cols).length - i,by omega⟩
 induction kk generalizing i cs with
 | zero =>
  have e0:i=(s.cols).length:=by omega
  subst e0
  exact ⟨cs,hI,by simp,fun R hg=>hg⟩
 | succ kk ih =>
  obtain ⟨x,hx⟩:=zay (l:=s.cols) (i:=i) (by omega)
  have h0:decide (((i:Nat):Int) < (((s.cols.map Col.cells).length:Nat):Int))=true:=by simp;omega
  have hw:IntKind.i64.wrap (((i:Nat):Int)+1)=((i+1:Nat):Int):=zas i zlt
  have hcl:cs.length≤1000000000:=by rw [hI];simp only [zae,List.length_map,List.length_take] at *;omega
  obtain ⟨csZ,qZ,xZ,gZ⟩:=ih (i+1) (cs++[Col.mk x.name x.type false false]) (by omega) (by first|(simp [hI,List.take_add_one,hx,Col.tr];done)|(simp;done)) (by omega);exact ⟨csZ,qZ,xZ,fun R hg=>zab (wkl [sb h0,se (zaj Col.cells hx rfl),sqx (AllLen [[sv x.name,iv x.type,bv false,bv false]] 4∧cs.length=(List.map Col.cells cs).length∧(((List.map Col.cells cs).length+[[sv x.name,iv x.type,bv false,bv false]].length) * 32).le 140737488355328),si hw] [2,6,7,16,17,18] 4 kr (zao (show ([(2,AV.sl []),(6,AV.p 1 0),(7,AV.p 2 0),(16,AV.sl (List.map Col.cells s.cols)),(17,iv (↑(List.map Col.cells s.cols).length:Int)),(18,iv (↑(i+1):Int))]:TS)=[(2,AV.sl []),(6,AV.p 1 0),(7,AV.p 2 0),(16,AV.sl (List.map Col.cells s.cols)),(17,iv (↑(List.map Col.cells s.cols).length:Int)),(18,iv (↑(i+1):Int))] by first|rfl|(simp;done)|(simp [X.cells,Qy.cells,V.cells,Col.cells,Rw.cells,Tb.cells,Fr.cells,Sch.cells,Tp.cells,Pl.cells,xCol,xLit,xBin,xNeg,Im.cells,Lk.cells,Ac.cells,Se.cells,Tg.cells,Rk.cells];done)) (show ([Blk.box [sv s.name,AV.sl (List.map Col.cells s.cols)],Blk.box [sv (ByteArray.mk #[]),AV.nl,iv 0,AV.nl],Blk.box [sv n,AV.own 3 (List.map Col.cells cs++[[sv x.name,iv x.type,bv false,bv false]]).length,iv 1,AV.sl []],Blk.row Ty.Column (List.map Col.cells cs++[[sv x.name,iv x.type,bv false,bv false]]) false]:Heap)=[Blk.box [sv s.name,AV.sl (List.map Col.cells s.cols)],Blk.box [sv (ByteArray.mk #[]),AV.nl,iv 0,AV.nl],Blk.box [sv n,AV.own 3 (cs++[Col.mk x.name x.type false false]).length,iv 1,AV.sl []],Blk.row Ty.Column (List.map Col.cells (cs++[Col.mk x.name x.type false false])) false] by first|rfl|(simp;done)|(simp [X.cells,Qy.cells,V.cells,Col.cells,Rw.cells,Tb.cells,Fr.cells,Sch.cells,Tp.cells,Pl.cells,xCol,xLit,xBin,xNeg,Im.cells,Lk.cells,Ac.cells,Se.cells,Tg.cells,Rk.cells];done)) (gZ R hg)))⟩
theorem zjx (n:Str) (s:Sch) (h:zae s.cols):∃ (r:Tb),r=trTb n s∧zac E0 S.ref17_transition [sv n,s.av,.sl []] [] r.av []:=by
 obtain ⟨cs1,q1,q1_1,g1⟩:=zfC n s zcb 0 ([]) zcb zcb
 exact ⟨Tb.mk (Sch.mk n cs1) 1 [],(by (subst_vars;simp [trTb])),wkcN At.ref17_transition [sc zkx] [2,6,7,16,17,18] 3 [(.ob 2 1 Ty.Column,4)] kr (g1 _ (zab (wkr [sqx (True∧cs1.length=(List.map Col.cells cs1).length∧True∧True∧True),sb q1_1,sb (rfl:false=false)] kr)))⟩
theorem zcN (n:Str) (s:Sch) (h:zae s.cols):zac E0 S.ref17_transition [sv n,s.av,.sl []] [] (trTb n s).av []:=by
 obtain ⟨r,rfl,h⟩:=zjx n s h
 exact h
noncomputable def L_tr0 (t:Tg) (s:Sch):Cfg:=zaw B.ref17_Transitions 0 [(3,.p 0 0),(4,.p 1 0),(5,.p 2 0),(7,.nl),(8,.nl),(18,.sl []),(19,iv 0),(20,iv 0)] [.box t.cells,.box s.cells,.box [sv ⟨#[]⟩,.sl [],.sl [],.sl []]]
theorem ze2 (t:Tg) (s:Sch):True∧∀ R,Good E0 B.ref17_Transitions [] (L_tr0 t s) R→Good E0 B.ref17_Transitions [] (L_tr0 t s) R:=⟨trivial,fun _ h=>h⟩
theorem ze6 (t:Tg) (s:Sch) (h:zae s.cols):∃ (r:List Tb),(r.length≤2∧∀ x∈r,∃ n,x=trTb n s)∧zac E0 S.ref17_Transitions [t.av,s.av,.agg [sv ⟨#[]⟩,.sl [],.sl [],.sl []]] [] (tsl r) []:=by
 cases h1:t.before
 ·cases h2:t.each
  ·obtain ⟨q3,g3⟩:=ze2 t (s)
   cases h4:t.event==1
   ·cases h5:t.event==3
    ·let p_1:List St:=[sb (rfl:false=false),sb h4,sb h5]
     cases h6:t.event==2
     ·exact ⟨[],zhD,wkc At.ref17_Transitions [sg h1,sb h2] [3,4,5,7,8,18,19,20] 3 kr (g3 _ (zab (wkr (p_1++[sb h6]) kr)))⟩
     ·exact ⟨[trTb (ByteArray.mk #[68,69,76,69,84,69,68]) s,trTb (ByteArray.mk #[73,78,83,69,82,84,69,68]) s],zhD,wkc At.ref17_Transitions [sg h1,sb h2] [3,4,5,7,8,18,19,20] 3 kr (g3 _ (zab (wkrS (y:=AV.sl [[sv (trTb (ByteArray.mk #[68,69,76,69,84,69,68]) s).sch.name,AV.sl (List.map Col.cells (trTb (ByteArray.mk #[68,69,76,69,84,69,68]) s).sch.cols),iv (trTb (ByteArray.mk #[68,69,76,69,84,69,68]) s).next,AV.sl []],[sv (trTb (ByteArray.mk #[73,78,83,69,82,84,69,68]) s).sch.name,AV.sl (List.map Col.cells (trTb (ByteArray.mk #[73,78,83,69,82,84,69,68]) s).sch.cols),iv (trTb (ByteArray.mk #[73,78,83,69,82,84,69,68]) s).next,AV.sl []]]) (H:=[]) (p_1++[sb h6,sd [(2,[sc (zcN (ByteArray.mk #[68,69,76,69,84,69,68]) s zcb)]),(5,[sc (zcN (ByteArray.mk #[73,78,83,69,82,84,69,68]) s zcb)])]]) kr ⟨by first|rfl|(simp;done)|(simp [X.cells,Qy.cells,V.cells,Col.cells,Rw.cells,Tb.cells,Fr.cells,Sch.cells,Tp.cells,Pl.cells,xCol,xLit,xBin,xNeg,Im.cells,Lk.cells,Ac.cells,Se.cells,Tg.cells,Rk.cells];done),by first|rfl|(simp;done)|(simp [X.cells,Qy.cells,V.cells,Col.cells,Rw.cells,Tb.cells,Fr.cells,Sch.cells,Tp.cells,Pl.cells,xCol,xLit,xBin,xNeg,Im.cells,Lk.cells,Ac.cells,Se.cells,Tg.cells,Rk.cells];done)⟩)))⟩
    ·exact ⟨[trTb (ByteArray.mk #[68,69,76,69,84,69,68]) s],zhD,wkc At.ref17_Transitions [sg h1,sb h2] [3,4,5,7,8,18,19,20] 3 kr (g3 _ (zab (wkrS (y:=AV.sl [[sv (trTb (ByteArray.mk #[68,69,76,69,84,69,68]) s).sch.name,AV.sl (List.map Col.cells (trTb (ByteArray.mk #[68,69,76,69,84,69,68]) s).sch.cols),iv (trTb (ByteArray.mk #[68,69,76,69,84,69,68]) s).next,AV.sl []]]) (H:=[]) [sb (rfl:false=false),sb h4,sb h5,sc (zcN (ByteArray.mk #[68,69,76,69,84,69,68]) s zcb)] kr ⟨by first|rfl|(simp;done)|(simp [X.cells,Qy.cells,V.cells,Col.cells,Rw.cells,Tb.cells,Fr.cells,Sch.cells,Tp.cells,Pl.cells,xCol,xLit,xBin,xNeg,Im.cells,Lk.cells,Ac.cells,Se.cells,Tg.cells,Rk.cells];done),by first|rfl|(simp;done)|(simp [X.cells,Qy.cells,V.cells,Col.cells,Rw.cells,Tb.cells,Fr.cells,Sch.cells,Tp.cells,Pl.cells,xCol,xLit,xBin,xNeg,Im.cells,Lk.cells,Ac.cells,Se.cells,Tg.cells,Rk.cells];done)⟩)))⟩
   ·exact ⟨[trTb (ByteArray.mk #[73,78,83,69,82,84,69,68]) s],zhD,wkc At.ref17_Transitions [sg h1,sb h2] [3,4,5,7,8,18,19,20] 3 kr (g3 _ (zab (wkrS (y:=AV.sl [[sv (trTb (ByteArray.mk #[73,78,83,69,82,84,69,68]) s).sch.name,AV.sl (List.map Col.cells (trTb (ByteArray.mk #[73,78,83,69,82,84,69,68]) s).sch.cols),iv (trTb (ByteArray.mk #[73,78,83,69,82,84,69,68]) s).next,AV.sl []]]) (H:=[]) [sb (rfl:false=false),sb h4,sc (zcN (ByteArray.mk #[73,78,83,69,82,84,69,68]) s zcb)] kr ⟨by first|rfl|(simp;done)|(simp [X.cells,Qy.cells,V.cells,Col.cells,Rw.cells,Tb.cells,Fr.cells,Sch.cells,Tp.cells,Pl.cells,xCol,xLit,xBin,xNeg,Im.cells,Lk.cells,Ac.cells,Se.cells,Tg.cells,Rk.cells];done),by first|rfl|(simp;done)|(simp [X.cells,Qy.cells,V.cells,Col.cells,Rw.cells,Tb.cells,Fr.cells,Sch.cells,Tp.cells,Pl.cells,xCol,xLit,xBin,xNeg,Im.cells,Lk.cells,Ac.cells,Se.cells,Tg.cells,Rk.cells];done)⟩)))⟩
  ·exact ⟨[],zhD,wk At.ref17_Transitions [sg h1,sb h2] kr⟩
 ·exact ⟨[],zhD,wk At.ref17_Transitions [sb h1] kr⟩
theorem zoo (a b:List Tb) (ha:zae a) (hb:zae b):∃ (r:List (List AV)),r=a.map Tb.cells++b.map Tb.cells∧zac E0 S.ref17_All [tsl a,tsl b] [] (.sl r) []:=by
 exact ⟨List.map Tb.cells a++List.map Tb.cells b,(by rfl),wk At.ref17_All [sqx ((List.map Tb.cells a++List.map Tb.cells b).length=(List.map Tb.cells a++List.map Tb.cells b).length),sqx (AllLen (List.map Tb.cells a) 4∧((List.map Tb.cells a).length * 72).le 140737488355328),sqx (AllLen (List.map Tb.cells b) 4∧(List.map Tb.cells a).length=(List.map Tb.cells a).length∧(((List.map Tb.cells a).length+(List.map Tb.cells b).length) * 72).le 140737488355328)] kr⟩
theorem znZ (a b:List Tb) (ha:zae a) (hb:zae b):zac E0 S.ref17_All [tsl a,tsl b] [] (tsl (a++b)) []:=by
 obtain ⟨r,rfl,h⟩:=zoo a b ha hb
 show zac E0 S.ref17_All [tsl a,tsl b] [] (.sl ((a++b).map Tb.cells)) []
 rw [List.map_append]
 exact h
noncomputable def L_tyS (q:Qy) (s:Sch) (inn:List Fr) (tb:List Tb) (i:Nat) (is:List Int):Cfg:=zaw B.ref14_Types 0 [(2,tsl tb),(3,.p 0 0),(10,fsl inn),(11,.own 2 is.length),(34,.sl (s.cols.map Col.cells)),(35,iv ((s.cols.map Col.cells).length:Nat)),(36,iv (i:Nat))] [.box q.cells,.box s.cells,.row Ty.int (is.map fun n=>[iv n]) false]
theorem zgL (q:Qy) (s:Sch) (inn:List Fr) (tb:List Tb) (hs:zae s.cols) (i:Nat) (is:List Int) (hi:i≤(s.cols).length) (hI:is.length=i):∃ (is':List Int),(is'.length=(s.cols).length)∧(decide ((((s.cols).length:Nat):Int) < (((s.cols.map Col.cells).length:Nat):Int))=false)∧∀ R,Good E0 B.ref14_Types [] (L_tyS q s inn tb (s.cols).length is') R→Good E0 B.ref14_Types [] (L_tyS q s inn tb i is) R:=by
 obtain ⟨kk,hk⟩:∃ kk,i+kk=(s.cols).length:=⟨(s.cols).length - i,by omega⟩
 induction kk generalizing i is with
 | zero =>
  have e0:i=(s.cols).length:=by omega
  subst e0
  exact ⟨is,hI,by simp,fun R hg=>hg⟩
 | succ kk ih =>
  obtain ⟨x,hx⟩:=zay (l:=s.cols) (i:=i) (by omega)
  have h0:decide (((i:Nat):Int) < (((s.cols.map Col.cells).length:Nat):Int))=true:=by simp;omega
  have hw:IntKind.i64.wrap (((i:Nat):Int)+1)=((i+1:Nat):Int):=zas i zlt
  have hil:is.length≤1000000000:=by simp only [zae] at hs;omega
  obtain ⟨isZ,qZ,xZ,gZ⟩:=ih (i+1) (is++[x.type]) (by omega) znj (by omega);exact ⟨isZ,qZ,xZ,fun R hg=>zab (wkl [sb h0,se (zaj Col.cells hx rfl),sqx (AllLen [[iv x.type]] 1∧is.length=(List.map (fun n=>[iv n]) is).length∧(((List.map (fun n=>[iv n]) is).length+[[iv x.type]].length) * 8).le 140737488355328),si hw] [2,3,10,11,34,35,36] 3 kr (zao (show ([(2,AV.sl (List.map Tb.cells tb)),(3,AV.p 0 0),(10,AV.sl (List.map Fr.cells inn)),(11,AV.own 2 (List.map (fun n=>[iv n]) is++[[iv x.type]]).length),(34,AV.sl (List.map Col.cells s.cols)),(35,iv (↑(List.map Col.cells s.cols).length:Int)),(36,iv (↑(i+1):Int))]:TS)=[(2,AV.sl (List.map Tb.cells tb)),(3,AV.p 0 0),(10,AV.sl (List.map Fr.cells inn)),(11,AV.own 2 (is++[x.type]).length),(34,AV.sl (List.map Col.cells s.cols)),(35,iv (↑(List.map Col.cells s.cols).length:Int)),(36,iv (↑(i+1):Int))] by first|rfl|(simp;done)|(simp [X.cells,Qy.cells,V.cells,Col.cells,Rw.cells,Tb.cells,Fr.cells,Sch.cells,Tp.cells,Pl.cells,xCol,xLit,xBin,xNeg,Im.cells,Lk.cells,Ac.cells,Se.cells,Tg.cells,Rk.cells];done)) (show ([Blk.box [bv q.star,AV.sl (zaa q.items),sv q.frm,AV.sl (zaa q.wh)],Blk.box [sv s.name,AV.sl (List.map Col.cells s.cols)],Blk.row Ty.int (List.map (fun n=>[iv n]) is++[[iv x.type]]) false]:Heap)=[Blk.box [bv q.star,AV.sl (zaa q.items),sv q.frm,AV.sl (zaa q.wh)],Blk.box [sv s.name,AV.sl (List.map Col.cells s.cols)],Blk.row Ty.int (List.map (fun n=>[iv n]) (is++[x.type])) false] by first|rfl|(simp;done)|(simp [X.cells,Qy.cells,V.cells,Col.cells,Rw.cells,Tb.cells,Fr.cells,Sch.cells,Tp.cells,Pl.cells,xCol,xLit,xBin,xNeg,Im.cells,Lk.cells,Ac.cells,Se.cells,Tg.cells,Rk.cells];done)) (gZ R hg)))⟩
noncomputable def zpY (q:Qy) (s:Sch) (inn:List Fr) (tb:List Tb) (f:X→Int × Int) (i:Nat) (is:List Int):Cfg:=zaw B.ref14_Types 1 [(2,tsl tb),(3,.p 0 0),(10,fsl inn),(11,.own 2 is.length),(47,xsl q.items),(48,iv ((zaa q.items).length:Nat)),(49,iv (i:Nat))] [.box q.cells,.box s.cells,.row Ty.int (is.map fun n=>[iv n]) false]
theorem zgX (q:Qy) (s:Sch) (inn:List Fr) (tb:List Tb) (f:X→Int × Int) (hs:zae q.items) (hf:∀ x∈q.items,Pure S.ref14_Type [x.av,fsl inn,tsl tb] (.tup [iv (f x).1,iv (f x).2])) (i:Nat) (is:List Int) (hi:i≤(q.items).length) (hI:is.length=i):(∃ (is':List Int),(is'.length=(q.items).length)∧(decide ((((q.items).length:Nat):Int) < (((zaa q.items).length:Nat):Int))=false)∧∀ R,Good E0 B.ref14_Types [] (zpY q s inn tb f (q.items).length is') R→Good E0 B.ref14_Types [] (zpY q s inn tb f i is) R)∨(∃ (r:List Int) (e:Int),zae r∧Good E0 B.ref14_Types [] (zpY q s inn tb f i is) (Shut 0 fun rZ hZ=>rZ=(.tup [isl r,iv e])∧hZ=[])):=by
 obtain ⟨kk,hk⟩:∃ kk,i+kk=(q.items).length:=⟨(q.items).length - i,by omega⟩
 induction kk generalizing i is with
 | zero =>
  have e0:i=(q.items).length:=by omega
  subst e0
  exact .inl ⟨is,hI,by simp,fun R hg=>hg⟩
 | succ kk ih =>
  obtain ⟨x,hx⟩:=zay (l:=q.items) (i:=i) (by omega)
  have h0:decide (((i:Nat):Int) < (((zaa q.items).length:Nat):Int))=true:=by simp;omega
  have hw:IntKind.i64.wrap (((i:Nat):Int)+1)=((i+1:Nat):Int):=zas i zlt
  have hil:is.length≤1000000000:=by simp only [zae] at hs;omega
  have hfx:=hf x (List.mem_of_getElem? hx)
  cases h1:(f x).snd != 0
  ·exact (ih (i+1) (is++[(f x).fst]) (by omega) znj (by omega)).elim (fun ⟨isZ,qZ,xZ,gZ⟩=>.inl ⟨isZ,qZ,xZ,fun R hg=>zab (wkl [sb h0,se (zbr hx),sc hfx,sb h1,sqx (AllLen [[iv (f x).fst]] 1∧is.length=(List.map (fun n=>[iv n]) is).length∧(((List.map (fun n=>[iv n]) is).length+[[iv (f x).fst]].length) * 8).le 140737488355328),si hw] [2,3,10,11,47,48,49] 3 kr (zao (show ([(2,AV.sl (List.map Tb.cells tb)),(3,AV.p 0 0),(10,AV.sl (List.map Fr.cells inn)),(11,AV.own 2 (List.map (fun n=>[iv n]) is++[[iv (f x).fst]]).length),(47,AV.sl (zaa q.items)),(48,iv (↑(zaa q.items).length:Int)),(49,iv (↑(i+1):Int))]:TS)=[(2,AV.sl (List.map Tb.cells tb)),(3,AV.p 0 0),(10,AV.sl (List.map Fr.cells inn)),(11,AV.own 2 (is++[(f x).fst]).length),(47,AV.sl (zaa q.items)),(48,iv (↑(zaa q.items).length:Int)),(49,iv (↑(i+1):Int))] by first|rfl|(simp;done)|(simp [X.cells,Qy.cells,V.cells,Col.cells,Rw.cells,Tb.cells,Fr.cells,Sch.cells,Tp.cells,Pl.cells,xCol,xLit,xBin,xNeg,Im.cells,Lk.cells,Ac.cells,Se.cells,Tg.cells,Rk.cells];done)) (show ([Blk.box [bv q.star,AV.sl (zaa q.items),sv q.frm,AV.sl (zaa q.wh)],Blk.box [sv s.name,AV.sl (List.map Col.cells s.cols)],Blk.row Ty.int (List.map (fun n=>[iv n]) is++[[iv (f x).fst]]) false]:Heap)=[Blk.box [bv q.star,AV.sl (zaa q.items),sv q.frm,AV.sl (zaa q.wh)],Blk.box [sv s.name,AV.sl (List.map Col.cells s.cols)],Blk.row Ty.int (List.map (fun n=>[iv n]) (is++[(f x).fst])) false] by first|rfl|(simp;done)|(simp [X.cells,Qy.cells,V.cells,Col.cells,Rw.cells,Tb.cells,Fr.cells,Sch.cells,Tp.cells,Pl.cells,xCol,xLit,xBin,xNeg,Im.cells,Lk.cells,Ac.cells,Se.cells,Tg.cells,Rk.cells];done)) (gZ R hg)))⟩) (fun ⟨rY,eY,pZ,gZ⟩=>.inr ⟨rY,eY,pZ,zab (wkl [sb h0,se (zbr hx),sc hfx,sb h1,sqx (AllLen [[iv (f x).fst]] 1∧is.length=(List.map (fun n=>[iv n]) is).length∧(((List.map (fun n=>[iv n]) is).length+[[iv (f x).fst]].length) * 8).le 140737488355328),si hw] [2,3,10,11,47,48,49] 3 kr (zao (show ([(2,AV.sl (List.map Tb.cells tb)),(3,AV.p 0 0),(10,AV.sl (List.map Fr.cells inn)),(11,AV.own 2 (List.map (fun n=>[iv n]) is++[[iv (f x).fst]]).length),(47,AV.sl (zaa q.items)),(48,iv (↑(zaa q.items).length:Int)),(49,iv (↑(i+1):Int))]:TS)=[(2,AV.sl (List.map Tb.cells tb)),(3,AV.p 0 0),(10,AV.sl (List.map Fr.cells inn)),(11,AV.own 2 (is++[(f x).fst]).length),(47,AV.sl (zaa q.items)),(48,iv (↑(zaa q.items).length:Int)),(49,iv (↑(i+1):Int))] by first|rfl|(simp;done)|(simp [X.cells,Qy.cells,V.cells,Col.cells,Rw.cells,Tb.cells,Fr.cells,Sch.cells,Tp.cells,Pl.cells,xCol,xLit,xBin,xNeg,Im.cells,Lk.cells,Ac.cells,Se.cells,Tg.cells,Rk.cells];done)) (show ([Blk.box [bv q.star,AV.sl (zaa q.items),sv q.frm,AV.sl (zaa q.wh)],Blk.box [sv s.name,AV.sl (List.map Col.cells s.cols)],Blk.row Ty.int (List.map (fun n=>[iv n]) is++[[iv (f x).fst]]) false]:Heap)=[Blk.box [bv q.star,AV.sl (zaa q.items),sv q.frm,AV.sl (zaa q.wh)],Blk.box [sv s.name,AV.sl (List.map Col.cells s.cols)],Blk.row Ty.int (List.map (fun n=>[iv n]) (is++[(f x).fst])) false] by first|rfl|(simp;done)|(simp [X.cells,Qy.cells,V.cells,Col.cells,Rw.cells,Tb.cells,Fr.cells,Sch.cells,Tp.cells,Pl.cells,xCol,xLit,xBin,xNeg,Im.cells,Lk.cells,Ac.cells,Se.cells,Tg.cells,Rk.cells];done)) gZ))⟩)
  ·exact .inr ⟨[],(f x).snd,(by (simp [zae];done)),zab (wkr [sb h0,se (zbr hx),sc hfx,sb h1] kr)⟩
theorem zmb (q:Qy) (frs:List Fr) (tb:List Tb) (f:X→Int × Int) (c:Int) (h1:zae frs) (h2:zae tb) (h3:∀ x∈tb,zae x.sch.cols) (hs:zae q.items) (hsc:zae (zaK tb q.frm).1.cols) (hf:∀ x∈q.items,Pure S.ref14_Type [x.av,fsl (zb1 frs (zaK tb q.frm).1 []),tsl tb] (.tup [iv (f x).1,iv (f x).2])) (hc:Pure S.ref14_Condition [xsl q.wh,fsl (zb1 frs (zaK tb q.frm).1 []),tsl tb] (iv c)):∃ (r:List Int) (e:Int),zae r∧zac E0 S.ref14_Types [q.av,fsl frs,tsl tb] [] (.tup [isl r,iv e]) []:=by
 let p_1:List St:=[sc (zbO tb q.frm zcb zcb)]
 cases h1:!(zaK tb q.frm).snd
 ·let p_2:List St:=p_1++[sb h1,sc (zfj frs ((zaK tb q.frm).fst) ([]) zcb)]
  cases h2:q.star
  ·rcases zgX q ((zaK tb q.frm).fst) (zb1 frs (zaK tb q.frm).fst []) tb f zcb hf 0 ([]) zcb zcb with ⟨is3,q3,q3_1,g3⟩|⟨r3_0,r3_1,p3_0,g3⟩
   ·cases h4:c != 0
    ·exact ⟨is3,0,zhz,wkcN At.ref14_Types (p_2++[sb h2]) [2,3,10,11,47,48,49] 2 [(.ot 11 Ty.int,3)] kr (g3 _ (zab (wkr [sqx (is3.length=(List.map (fun n=>[iv n]) is3).length∧True∧True),sb q3_1,sc hc,sb h4] kr)))⟩
    ·exact ⟨[],c,zhz,wkcN At.ref14_Types (p_2++[sb h2]) [2,3,10,11,47,48,49] 2 [(.ot 11 Ty.int,3)] kr (g3 _ (zab (wkr [sb q3_1,sc hc,sb h4] kr)))⟩
   ·exact ⟨r3_0,r3_1,zhz,wkcN At.ref14_Types (p_2++[sb h2]) [2,3,10,11,47,48,49] 2 [(.ot 11 Ty.int,3)] kr (g3)⟩
  ·obtain ⟨is5,q5,q5_1,g5⟩:=zgL q ((zaK tb q.frm).fst) (zb1 frs (zaK tb q.frm).fst []) tb zcb 0 ([]) zcb zcb
   cases h6:c != 0
   ·exact ⟨is5,0,zhz,wkcN At.ref14_Types (p_2++[sb h2]) [2,3,10,11,34,35,36] 2 [(.ot 11 Ty.int,3)] kr (g5 _ (zab (wkr [sqx (is5.length=(List.map (fun n=>[iv n]) is5).length∧True∧True),sb q5_1,sc hc,sb h6] kr)))⟩
   ·exact ⟨[],c,zhz,wkcN At.ref14_Types (p_2++[sb h2]) [2,3,10,11,34,35,36] 2 [(.ot 11 Ty.int,3)] kr (g5 _ (zab (wkr [sb q5_1,sc hc,sb h6] kr)))⟩
 ·exact ⟨[],3,zhz,wk At.ref14_Types (p_1++[sb h1]) kr⟩
end Go.AM
namespace Go.AM
set_option maxRecDepth 100000
set_option maxHeartbeats 1000000
set_option linter.unusedSimpArgs false
set_option linter.unusedVariables false
theorem zbP {p:Prop} (h:p:=by first|assumption|omega|exact hca _ (by assumption)|(simp;done)|(simp;omega)):p:=h
theorem zbI {p:Prop} (h:p:=by first|assumption|omega|(simp;done)|(simp;omega)):p:=h
theorem zeD {p:Prop} (h:p:=by first|assumption|omega|(simp only [bne_eq_false_iff_eq,zdP,List.length_map] at *;omega)):p:=h
theorem zfH {p:Prop} (h:p:=by first|trivial|assumption|(simp;done)|omega|(simp;omega)|(simp at *;omega)):p:=h
theorem zey {p:Prop} (h:p:=by first|assumption|exact zeC _ _ _ 0 h3):p:=h
theorem zfB {p:Prop} (h:p:=by first|omega|(simp only [zae,Few] at *;omega)):p:=h
theorem znr {p:Prop} (h:p:=by first|omega|(simp only [decide_eq_false_iff_not,decide_eq_true_eq] at *;omega)):p:=h
def AtI {α:Type} (l:List α) (i:Int) (x:α):Prop:=0≤i∧l[i.toNat]?=some x
theorem zjK {α:Type} {l:List α} {i:Int} (h:0≤i∧i < ((l.length:Nat):Int)):∃ x,AtI l i x :=
 ⟨l[i.toNat]'(by omega),h.1,List.getElem?_eq_getElem (by omega)⟩
theorem zcE {α:Type} (f:α→List AV) {l:List α} {i:Int} {x:α} (h:AtI l i x) {n:Nat} (hn:(f x).length=n):ElAt (l.map f) i (f x) n :=
 ⟨h.1,by simp [h.2],hn⟩
abbrev TyOk (x:X) (frs:List Fr) (tb:List Tb):Prop:=∃ t e:Int,zac E0 S.ref14_Type [x.av,fsl frs,tsl tb] [] (.tup [iv t,iv e]) []
theorem zcU (a b:Int) :∃ (r:Bool),zac E0 S.ref14_Assignable [iv a,iv b] [] (bv r) []:=by
 exact ⟨zgg b a,wk At.ref14_Assignable [sc (zbU b a)] kr⟩
theorem zgP (a:Ac) (s0:Se) (s:Sch) (frs:List Fr) (tb:List Tb) (hs:zae s.cols) (ht:∃ t e:Int,zac E0 S.ref14_Type [s0.ex.av,fsl frs,tsl tb] [] (.tup [iv t,iv e]) []):∃ (r:Int),zac E0 S.ref17_checkAction [.agg [iv 5,sv a.table,.sl (a.rows.map zaF),.sl (zad a.query),.sl [s0.cells],.sl (zaa a.wh),sv a.text],s.av,fsl frs,tsl tb] [] (iv r) []:=by
 obtain ⟨r1,q1,c1⟩:=(zdo s s0.col zbI)
 cases h2:decide (r1 < 0)
 ·obtain ⟨t3,e3,c3⟩:=ht
  cases h4:e3 != 0
  ·obtain ⟨x5,e5⟩:=zjK (l:=s.cols) (i:=r1) znr
   obtain ⟨r6,c6⟩:=(zcU x5.type t3)
   let p_1:List St:=[sb (rfl:false=false),sb (rfl:true=true),sd [(3,[se (xs:=[[sv s0.col,iv s0.ex.kind,iv s0.ex.op,bv s0.ex.not,iv s0.ex.val.kind,iv s0.ex.val.int,sv s0.ex.val.text,sv s0.ex.table,sv s0.ex.name,AV.sl (zaa s0.ex.args),AV.sl (zad s0.ex.sub)]]) (i:=0) (c:=[sv s0.col,iv s0.ex.kind,iv s0.ex.op,bv s0.ex.not,iv s0.ex.val.kind,iv s0.ex.val.int,sv s0.ex.val.text,sv s0.ex.table,sv s0.ex.name,AV.sl (zaa s0.ex.args),AV.sl (zad s0.ex.sub)]) (n:=11) ⟨by decide,rfl,rfl⟩]),(6,[sc c1])],sb h2,se (xs:=[[sv s0.col,iv s0.ex.kind,iv s0.ex.op,bv s0.ex.not,iv s0.ex.val.kind,iv s0.ex.val.int,sv s0.ex.val.text,sv s0.ex.table,sv s0.ex.name,AV.sl (zaa s0.ex.args),AV.sl (zad s0.ex.sub)]]) (i:=0) (c:=[sv s0.col,iv s0.ex.kind,iv s0.ex.op,bv s0.ex.not,iv s0.ex.val.kind,iv s0.ex.val.int,sv s0.ex.val.text,sv s0.ex.table,sv s0.ex.name,AV.sl (zaa s0.ex.args),AV.sl (zad s0.ex.sub)]) (n:=11) ⟨by decide,rfl,rfl⟩,sc c3,sb h4,se (zcE Col.cells e5 rfl),sc c6]
   cases h7:!r6
   ·exact ⟨0,wk At.ref17_checkAction (p_1++[sb h7]) kr⟩
   ·exact ⟨5,wk At.ref17_checkAction (p_1++[sb h7]) kr⟩
  ·exact ⟨e3,wk At.ref17_checkAction [sb (rfl:false=false),sb (rfl:true=true),sd [(3,[se (xs:=[[sv s0.col,iv s0.ex.kind,iv s0.ex.op,bv s0.ex.not,iv s0.ex.val.kind,iv s0.ex.val.int,sv s0.ex.val.text,sv s0.ex.table,sv s0.ex.name,AV.sl (zaa s0.ex.args),AV.sl (zad s0.ex.sub)]]) (i:=0) (c:=[sv s0.col,iv s0.ex.kind,iv s0.ex.op,bv s0.ex.not,iv s0.ex.val.kind,iv s0.ex.val.int,sv s0.ex.val.text,sv s0.ex.table,sv s0.ex.name,AV.sl (zaa s0.ex.args),AV.sl (zad s0.ex.sub)]) (n:=11) ⟨by decide,rfl,rfl⟩]),(6,[sc c1])],sb h2,se (xs:=[[sv s0.col,iv s0.ex.kind,iv s0.ex.op,bv s0.ex.not,iv s0.ex.val.kind,iv s0.ex.val.int,sv s0.ex.val.text,sv s0.ex.table,sv s0.ex.name,AV.sl (zaa s0.ex.args),AV.sl (zad s0.ex.sub)]]) (i:=0) (c:=[sv s0.col,iv s0.ex.kind,iv s0.ex.op,bv s0.ex.not,iv s0.ex.val.kind,iv s0.ex.val.int,sv s0.ex.val.text,sv s0.ex.table,sv s0.ex.name,AV.sl (zaa s0.ex.args),AV.sl (zad s0.ex.sub)]) (n:=11) ⟨by decide,rfl,rfl⟩,sc c3,sb h4] kr⟩
 ·exact ⟨3,wk At.ref17_checkAction [sb (rfl:false=false),sb (rfl:true=true),sd [(3,[se (xs:=[[sv s0.col,iv s0.ex.kind,iv s0.ex.op,bv s0.ex.not,iv s0.ex.val.kind,iv s0.ex.val.int,sv s0.ex.val.text,sv s0.ex.table,sv s0.ex.name,AV.sl (zaa s0.ex.args),AV.sl (zad s0.ex.sub)]]) (i:=0) (c:=[sv s0.col,iv s0.ex.kind,iv s0.ex.op,bv s0.ex.not,iv s0.ex.val.kind,iv s0.ex.val.int,sv s0.ex.val.text,sv s0.ex.table,sv s0.ex.name,AV.sl (zaa s0.ex.args),AV.sl (zad s0.ex.sub)]) (n:=11) ⟨by decide,rfl,rfl⟩]),(6,[sc c1])],sb h2] kr⟩
theorem zgW (a:Ac) (s:Sch) (frs:List Fr) (tb:List Tb) (h5:(a.kind==5)=false) (hc:∃ e:Int,zac E0 S.ref16_Check [a.av,fsl frs,tsl tb] [] (iv e) []):∃ (r:Int),zac E0 S.ref17_checkAction [a.av,s.av,fsl frs,tsl tb] [] (iv r) []:=by
 cases h1:a.kind==4
 ·obtain ⟨e2,c2⟩:=hc
  exact ⟨e2,wk At.ref17_checkAction [sb h1,sb h5,sc c2] kr⟩
 ·exact ⟨0,wk At.ref17_checkAction [sb h1] kr⟩
noncomputable def zpL (a:Ac) (s:Sch) (frs:List Fr) (tb:List Tb) (io:Nat) (y:List X) (i:Nat) :Cfg:=zaw B.ref16_checkInsert 1 [(2,fsl frs),(3,tsl tb),(4,.p 0 0),(5,.p 1 0),(22,.sl (a.rows.map zaF)),(23,iv ((a.rows.map zaF).length:Nat)),(24,iv (io:Nat)),(34,xsl y),(35,iv ((zaa y).length:Nat)),(36,iv (i:Nat))] [.box a.cells,.box s.cells]
theorem zeY (a:Ac) (s:Sch) (frs:List Fr) (tb:List Tb) (io:Nat) (y:List X) (hy:zae y) (hty:∀ x∈y,TyOk x frs tb) (hlen:y.length=s.cols.length) (i:Nat)  (hi:i≤(y).length) (hI:True):((True)∧(decide ((((y).length:Nat):Int) < (((zaa y).length:Nat):Int))=false)∧∀ R,Good E0 B.ref16_checkInsert [] (zpL a s frs tb io y (y).length ) R→Good E0 B.ref16_checkInsert [] (zpL a s frs tb io y i ) R)∨(∃ (r:Int),Good E0 B.ref16_checkInsert [] (zpL a s frs tb io y i ) (Shut 0 fun rZ hZ=>rZ=(iv r)∧hZ=[])):=by
 obtain ⟨kk,hk⟩:∃ kk,i+kk=(y).length:=⟨(y).length - i,by omega⟩
 induction kk generalizing i  hI with
 | zero =>
  have e0:i=(y).length:=by omega
  subst e0
  exact .inl ⟨hI,by simp,fun R hg=>hg⟩
 | succ kk ih =>
  obtain ⟨x,hx⟩:=zay (l:=y) (i:=i) (by omega)
  have h0:decide (((i:Nat):Int) < (((zaa y).length:Nat):Int))=true:=by simp;omega
  have hw:IntKind.i64.wrap (((i:Nat):Int)+1)=((i+1:Nat):Int):=zas i zfB
  have hx1:=hty x (List.mem_of_getElem? hx)
  obtain ⟨t1,e1,c1⟩:=hx1
  cases h2:e1 != 0
  ·obtain ⟨x3,e3⟩:=zay (l:=s.cols) (i:=i) zbI
   obtain ⟨r4,c4⟩:=(zcU x3.type t1)
   let p_1:List St:=[sb h0,se (zbr hx),sc c1,sb h2,se (zaj Col.cells e3 rfl),sc c4]
   cases h5:!r4
   ·exact (ih (i+1) (by omega) zfH (by omega)).elim (fun ⟨qZ,xZ,gZ⟩=>.inl ⟨qZ,xZ,fun R hg=>zab (wkl (p_1++[sb h5,si hw]) [2,3,4,5,22,23,24,34,35,36] 2 kr (gZ R hg))⟩) (fun ⟨rY,gZ⟩=>.inr ⟨rY,zab (wkl [sb h0,se (zbr hx),sc c1,sb h2,se (zaj Col.cells e3 rfl),sc c4,sb h5,si hw] [2,3,4,5,22,23,24,34,35,36] 2 kr gZ)⟩)
   ·exact .inr ⟨5,zab (wkr (p_1++[sb h5]) kr)⟩
  ·exact .inr ⟨e1,zab (wkr [sb h0,se (zbr hx),sc c1,sb h2] kr)⟩
noncomputable def zpx (a:Ac) (s:Sch) (frs:List Fr) (tb:List Tb) (i:Nat) :Cfg:=zaw B.ref16_checkInsert 0 [(2,fsl frs),(3,tsl tb),(4,.p 0 0),(5,.p 1 0),(22,.sl (a.rows.map zaF)),(23,iv ((a.rows.map zaF).length:Nat)),(24,iv (i:Nat))] [.box a.cells,.box s.cells]
theorem zeX (a:Ac) (s:Sch) (frs:List Fr) (tb:List Tb) (hs:zae s.cols) (hr:zae a.rows) (hty:∀ r∈a.rows,zae r∧∀ x∈r,TyOk x frs tb) (i:Nat)  (hi:i≤(a.rows).length) (hI:True):((True)∧(decide ((((a.rows).length:Nat):Int) < (((a.rows.map zaF).length:Nat):Int))=false)∧∀ R,Good E0 B.ref16_checkInsert [] (zpx a s frs tb (a.rows).length ) R→Good E0 B.ref16_checkInsert [] (zpx a s frs tb i ) R)∨(∃ (r:Int),Good E0 B.ref16_checkInsert [] (zpx a s frs tb i ) (Shut 0 fun rZ hZ=>rZ=(iv r)∧hZ=[])):=by
 obtain ⟨kk,hk⟩:∃ kk,i+kk=(a.rows).length:=⟨(a.rows).length - i,by omega⟩
 induction kk generalizing i  hI with
 | zero =>
  have e0:i=(a.rows).length:=by omega
  subst e0
  exact .inl ⟨hI,by simp,fun R hg=>hg⟩
 | succ kk ih =>
  obtain ⟨x,hx⟩:=zay (l:=a.rows) (i:=i) (by omega)
  have h0:decide (((i:Nat):Int) < (((a.rows.map zaF).length:Nat):Int))=true:=by simp;omega
  have hw:IntKind.i64.wrap (((i:Nat):Int)+1)=((i+1:Nat):Int):=zas i zfB
  have hx1:=(hty x (List.mem_of_getElem? hx)).1;have hx2:=(hty x (List.mem_of_getElem? hx)).2
  let p_1:List St:=[sb h0,se (zaj zaF hx rfl)]
  cases h1:(↑(zaa x).length:Int) != (↑(List.map Col.cells s.cols).length:Int)
  ·rcases zeY a s frs tb i x zeD zeD zeD 0 zeD zeD with ⟨q2,q2_1,g2⟩|⟨r2_0,g2⟩
   ·exact (ih (i+1) (by omega) zfH (by omega)).elim (fun ⟨qZ,xZ,gZ⟩=>.inl ⟨qZ,xZ,fun R hg=>zab (wkl (p_1++[sb h1]) [2,3,4,5,22,23,24,34,35,36] 2 kr (g2 _ (zab (wkl [sb q2_1,si hw] [2,3,4,5,22,23,24] 2 kr (gZ R hg)))))⟩) (fun ⟨rY,gZ⟩=>.inr ⟨rY,zab (wkl [sb h0,se (zaj zaF hx rfl),sb h1] [2,3,4,5,22,23,24,34,35,36] 2 kr (g2 _ (zab (wkl [sb q2_1,si hw] [2,3,4,5,22,23,24] 2 kr gZ))))⟩)
   ·exact .inr ⟨r2_0,zab (wkl (p_1++[sb h1]) [2,3,4,5,22,23,24,34,35,36] 2 kr g2)⟩
  ·exact .inr ⟨5,zab (wkr (p_1++[sb h1]) kr)⟩
noncomputable def zoU (a:Ac) (s:Sch) (frs:List Fr) (tb:List Tb) (io:Nat) (y:List Int) (i:Nat) :Cfg:=zaw B.ref16_checkInsert 3 [(2,fsl frs),(3,tsl tb),(5,.p 1 0),(63,.sl (zad a.query)),(64,iv ((zad a.query).length:Nat)),(65,iv (io:Nat)),(85,isl y),(86,iv ((y.map fun n=>[iv n]).length:Nat)),(87,iv (i:Nat))] [.box a.cells,.box s.cells]
theorem zeU (a:Ac) (s:Sch) (frs:List Fr) (tb:List Tb) (io:Nat) (y:List Int) (hy:zae y) (hlen:y.length=s.cols.length) (i:Nat)  (hi:i≤(y).length) (hI:True):((True)∧(decide ((((y).length:Nat):Int) < (((y.map fun n=>[iv n]).length:Nat):Int))=false)∧∀ R,Good E0 B.ref16_checkInsert [] (zoU a s frs tb io y (y).length ) R→Good E0 B.ref16_checkInsert [] (zoU a s frs tb io y i ) R)∨(∃ (r:Int),Good E0 B.ref16_checkInsert [] (zoU a s frs tb io y i ) (Shut 0 fun rZ hZ=>rZ=(iv r)∧hZ=[])):=by
 obtain ⟨kk,hk⟩:∃ kk,i+kk=(y).length:=⟨(y).length - i,by omega⟩
 induction kk generalizing i  hI with
 | zero =>
  have e0:i=(y).length:=by omega
  subst e0
  exact .inl ⟨hI,by simp,fun R hg=>hg⟩
 | succ kk ih =>
  obtain ⟨x,hx⟩:=zay (l:=y) (i:=i) (by omega)
  have h0:decide (((i:Nat):Int) < (((y.map fun n=>[iv n]).length:Nat):Int))=true:=by simp;omega
  have hw:IntKind.i64.wrap (((i:Nat):Int)+1)=((i+1:Nat):Int):=zas i zfB
  obtain ⟨x1,e1⟩:=zay (l:=s.cols) (i:=i) zbI
  obtain ⟨r2,c2⟩:=(zcU x1.type x)
  let p_1:List St:=[sb h0,se (zaj (fun n=>[iv n]) hx rfl),se (zaj Col.cells e1 rfl),sc c2]
  cases h3:!r2
  ·exact (ih (i+1) (by omega) zfH (by omega)).elim (fun ⟨qZ,xZ,gZ⟩=>.inl ⟨qZ,xZ,fun R hg=>zab (wkl (p_1++[sb h3,si hw]) [2,3,5,63,64,65,85,86,87] 2 kr (gZ R hg))⟩) (fun ⟨rY,gZ⟩=>.inr ⟨rY,zab (wkl [sb h0,se (zaj (fun n=>[iv n]) hx rfl),se (zaj Col.cells e1 rfl),sc c2,sb h3,si hw] [2,3,5,63,64,65,85,86,87] 2 kr gZ)⟩)
  ·exact .inr ⟨5,zab (wkr (p_1++[sb h3]) kr)⟩
noncomputable def zpJ (a:Ac) (s:Sch) (frs:List Fr) (tb:List Tb) (i:Nat) :Cfg:=zaw B.ref16_checkInsert 2 [(2,fsl frs),(3,tsl tb),(5,.p 1 0),(63,.sl (zad a.query)),(64,iv ((zad a.query).length:Nat)),(65,iv (i:Nat))] [.box a.cells,.box s.cells]
theorem zeW (a:Ac) (s:Sch) (frs:List Fr) (tb:List Tb) (hs:zae s.cols) (hq:zae a.query) (hty:∀ q∈a.query,∃ (r:List Int) (e:Int),zae r∧zac E0 S.ref14_Types [q.av,fsl frs,tsl tb] [] (.tup [isl r,iv e]) []) (i:Nat)  (hi:i≤(a.query).length) (hI:True):((True)∧(decide ((((a.query).length:Nat):Int) < (((zad a.query).length:Nat):Int))=false)∧∀ R,Good E0 B.ref16_checkInsert [] (zpJ a s frs tb (a.query).length ) R→Good E0 B.ref16_checkInsert [] (zpJ a s frs tb i ) R)∨(∃ (r:Int),Good E0 B.ref16_checkInsert [] (zpJ a s frs tb i ) (Shut 0 fun rZ hZ=>rZ=(iv r)∧hZ=[])):=by
 obtain ⟨kk,hk⟩:∃ kk,i+kk=(a.query).length:=⟨(a.query).length - i,by omega⟩
 induction kk generalizing i  hI with
 | zero =>
  have e0:i=(a.query).length:=by omega
  subst e0
  exact .inl ⟨hI,by simp,fun R hg=>hg⟩
 | succ kk ih =>
  obtain ⟨x,hx⟩:=zay (l:=a.query) (i:=i) (by omega)
  have h0:decide (((i:Nat):Int) < (((zad a.query).length:Nat):Int))=true:=by simp;omega
  have hw:IntKind.i64.wrap (((i:Nat):Int)+1)=((i+1:Nat):Int):=zas i zfB
  have hx1:=hty x (List.mem_of_getElem? hx)
  obtain ⟨r1,e1,q1,c1⟩:=hx1
  cases h2:e1 != 0
  ·cases h3:(↑(List.map (fun n=>[iv n]) r1).length:Int) != (↑(List.map Col.cells s.cols).length:Int)
   ·rcases zeU a s frs tb i r1 zeD zeD 0 zeD zeD with ⟨q4,q4_1,g4⟩|⟨r4_0,g4⟩
    ·exact (ih (i+1) (by omega) zfH (by omega)).elim (fun ⟨qZ,xZ,gZ⟩=>.inl ⟨qZ,xZ,fun R hg=>zab (wkl [sb h0,se (zaV hx),sc c1,sb h2,sb h3] [2,3,5,63,64,65,85,86,87] 2 kr (g4 _ (zab (wkl [sb q4_1,si hw] [2,3,5,63,64,65] 2 kr (gZ R hg)))))⟩) (fun ⟨rY,gZ⟩=>.inr ⟨rY,zab (wkl [sb h0,se (zaV hx),sc c1,sb h2,sb h3] [2,3,5,63,64,65,85,86,87] 2 kr (g4 _ (zab (wkl [sb q4_1,si hw] [2,3,5,63,64,65] 2 kr gZ))))⟩)
    ·exact .inr ⟨r4_0,zab (wkl [sb h0,se (zaV hx),sc c1,sb h2,sb h3] [2,3,5,63,64,65,85,86,87] 2 kr g4)⟩
   ·exact .inr ⟨5,zab (wkr [sb h0,se (zaV hx),sc c1,sb h2,sb h3] kr)⟩
  ·exact .inr ⟨e1,zab (wkr [sb h0,se (zaV hx),sc c1,sb h2] kr)⟩
theorem zi7 (a:Ac) (s:Sch) (frs:List Fr) (tb:List Tb) (hs:zae s.cols) (hr:zae a.rows) (hq:zae a.query) (hty:∀ r∈a.rows,zae r∧∀ x∈r,TyOk x frs tb) (htq:∀ q∈a.query,∃ (r:List Int) (e:Int),zae r∧zac E0 S.ref14_Types [q.av,fsl frs,tsl tb] [] (.tup [isl r,iv e]) []):∃ (r:Int),zac E0 S.ref16_checkInsert [a.av,s.av,fsl frs,tsl tb] [] (iv r) []:=by
 rcases zeX a s frs tb zbI zbI zbI 0 zbI zbI with ⟨q1,q1_1,g1⟩|⟨r1_0,g1⟩
 ·rcases zeW a s frs tb zbI zbI zbI 0 zbI zbI with ⟨q2,q2_1,g2⟩|⟨r2_0,g2⟩
  ·exact ⟨0,wkc At.ref16_checkInsert [] [2,3,4,5,22,23,24] 2 kr (g1 _ (zab (wkl [sb q1_1] [2,3,5,63,64,65] 2 kr (g2 _ (zab (wkr [sb q2_1] kr))))))⟩
  ·exact ⟨r2_0,wkc At.ref16_checkInsert [] [2,3,4,5,22,23,24] 2 kr (g1 _ (zab (wkl [sb q1_1] [2,3,5,63,64,65] 2 kr g2)))⟩
 ·exact ⟨r1_0,wkc At.ref16_checkInsert [] [2,3,4,5,22,23,24] 2 kr (g1)⟩
theorem zmk (a:Ac) (h:∃ b:Bool,zac E0 S.ref11_ValidAction [a.av] [] (bv b) []):∃ (r:Bool),zac E0 S.ref16_sound [a.av] [] (bv r) []:=by
 cases h1:decide (1≤a.kind)
 ·exact ⟨false,wk At.ref16_sound [sb h1] kr⟩
 ·cases h2:decide (a.kind≤3)
  ·exact ⟨false,wk At.ref16_sound [sg h1,sb h2] kr⟩
  ·obtain ⟨b3,c3⟩:=h
   exact ⟨b3,wk At.ref16_sound [sg h1,sg h2,sc c3] kr⟩
noncomputable def zoV (a:Ac) (s:Sch) (inn:List Fr) (tb:List Tb) (i:Nat) :Cfg:=zaw B.ref16_Check 0 [(2,tsl tb),(3,.p 0 0),(7,.p 1 0),(9,fsl inn),(39,.sl (a.sets.map Se.cells)),(40,iv ((a.sets.map Se.cells).length:Nat)),(41,iv (i:Nat))] [.box a.cells,.box s.cells]
theorem zgU (a:Ac) (s:Sch) (inn:List Fr) (tb:List Tb) (hs:zae s.cols) (hsl:zae a.sets) (hty:∀ x∈a.sets,TyOk x.ex inn tb) (i:Nat)  (hi:i≤(a.sets).length) (hI:True):((True)∧(decide ((((a.sets).length:Nat):Int) < (((a.sets.map Se.cells).length:Nat):Int))=false)∧∀ R,Good E0 B.ref16_Check [] (zoV a s inn tb (a.sets).length ) R→Good E0 B.ref16_Check [] (zoV a s inn tb i ) R)∨(∃ (r:Int),Good E0 B.ref16_Check [] (zoV a s inn tb i ) (Shut 0 fun rZ hZ=>rZ=(iv r)∧hZ=[])):=by
 obtain ⟨kk,hk⟩:∃ kk,i+kk=(a.sets).length:=⟨(a.sets).length - i,by omega⟩
 induction kk generalizing i  hI with
 | zero =>
  have e0:i=(a.sets).length:=by omega
  subst e0
  exact .inl ⟨hI,by simp,fun R hg=>hg⟩
 | succ kk ih =>
  obtain ⟨x,hx⟩:=zay (l:=a.sets) (i:=i) (by omega)
  have h0:decide (((i:Nat):Int) < (((a.sets.map Se.cells).length:Nat):Int))=true:=by simp;omega
  have hw:IntKind.i64.wrap (((i:Nat):Int)+1)=((i+1:Nat):Int):=zas i zfB
  have hx1:=hty x (List.mem_of_getElem? hx)
  obtain ⟨r1,q1,c1⟩:=(zdo s x.col zbI)
  cases h2:decide (r1 < 0)
  ·obtain ⟨t3,e3,c3⟩:=hx1
   cases h4:e3 != 0
   ·obtain ⟨x5,e5⟩:=zjK (l:=s.cols) (i:=r1) znr
    obtain ⟨r6,c6⟩:=(zcU x5.type t3)
    let p_1:List St:=[sb h0,se (zaj Se.cells hx rfl),sc c1,sb h2,sc c3,sb h4,se (zcE Col.cells e5 rfl),sc c6]
    cases h7:!r6
    ·exact (ih (i+1) (by omega) zfH (by omega)).elim (fun ⟨qZ,xZ,gZ⟩=>.inl ⟨qZ,xZ,fun R hg=>zab (wkl (p_1++[sb h7,si hw]) [2,3,7,9,39,40,41] 2 kr (gZ R hg))⟩) (fun ⟨rY,gZ⟩=>.inr ⟨rY,zab (wkl [sb h0,se (zaj Se.cells hx rfl),sc c1,sb h2,sc c3,sb h4,se (zcE Col.cells e5 rfl),sc c6,sb h7,si hw] [2,3,7,9,39,40,41] 2 kr gZ)⟩)
    ·exact .inr ⟨5,zab (wkr (p_1++[sb h7]) kr)⟩
   ·exact .inr ⟨e3,zab (wkr [sb h0,se (zaj Se.cells hx rfl),sc c1,sb h2,sc c3,sb h4] kr)⟩
  ·exact .inr ⟨3,zab (wkr [sb h0,se (zaj Se.cells hx rfl),sc c1,sb h2] kr)⟩
theorem zmi (a:Ac) (frs:List Fr) (tb:List Tb) (hsd:∃ b:Bool,zac E0 S.ref16_sound [a.av] [] (bv b) []) (h1:zae frs) (h2:zae tb) (h3:∀ x∈tb,zae x.sch.cols) (hs:zae (zaK tb a.table).1.cols) (hsl:zae a.sets) (hins:∃ e:Int,zac E0 S.ref16_checkInsert [a.av,(zaK tb a.table).1.av,fsl frs,tsl tb] [] (iv e) []) (hty:∀ x∈a.sets,TyOk x.ex (zb1 frs (zaK tb a.table).1 []) tb) (hc:∃ e:Int,zac E0 S.ref14_Condition [xsl a.wh,fsl (zb1 frs (zaK tb a.table).1 []),tsl tb] [] (iv e) []):∃ (r:Int),zac E0 S.ref16_Check [a.av,fsl frs,tsl tb] [] (iv r) []:=by
 obtain ⟨b1,c1⟩:=hsd
 cases h2:!b1
 ·let p_1:List St:=[sc c1,sb h2,sc (zbO tb a.table zbI zbI)]
  cases h3:!(zaK tb a.table).snd
  ·cases h4:a.kind==1
   ·let p_2:List St:=p_1++[sb h3,sb h4,sc (zfj frs ((zaK tb a.table).fst) ([]) zbI)]
    rcases zgU a ((zaK tb a.table).fst) (zb1 frs (zaK tb a.table).fst []) tb zbI zbI zbI 0 zbI zbI with ⟨q5,q5_1,g5⟩|⟨r5_0,g5⟩
    ·obtain ⟨e6,c6⟩:=hc
     exact ⟨e6,wkc At.ref16_Check p_2 [2,3,7,9,39,40,41] 2 kr (g5 _ (zab (wkr [sb q5_1,sc c6] kr)))⟩
    ·exact ⟨r5_0,wkc At.ref16_Check p_2 [2,3,7,9,39,40,41] 2 kr (g5)⟩
   ·obtain ⟨e7,c7⟩:=hins
    exact ⟨e7,wk At.ref16_Check (p_1++[sb h3,sb h4,sc c7]) kr⟩
  ·exact ⟨3,wk At.ref16_Check (p_1++[sb h3]) kr⟩
 ·exact ⟨17,wk At.ref16_Check [sc c1,sb h2] kr⟩
noncomputable def zps (t:Tg) (s:Sch) (tb:List Tb) (i:Nat) :Cfg:=zaw B.ref17_Check 0 [(1,tsl tb),(2,.p 0 0),(5,.p 1 0),(33,.sl (t.of.map zaU)),(34,iv ((t.of.map zaU).length:Nat)),(35,iv (i:Nat))] [.box t.cells,.box s.cells]
theorem zgZ (t:Tg) (s:Sch) (tb:List Tb) (hs:zae s.cols) (hl:zae t.of) (i:Nat)  (hi:i≤(t.of).length) (hI:True):((True)∧(decide ((((t.of).length:Nat):Int) < (((t.of.map zaU).length:Nat):Int))=false)∧∀ R,Good E0 B.ref17_Check [] (zps t s tb (t.of).length ) R→Good E0 B.ref17_Check [] (zps t s tb i ) R)∨(∃ (r:Int),Good E0 B.ref17_Check [] (zps t s tb i ) (Shut 0 fun rZ hZ=>rZ=(iv r)∧hZ=[])):=by
 obtain ⟨kk,hk⟩:∃ kk,i+kk=(t.of).length:=⟨(t.of).length - i,by omega⟩
 induction kk generalizing i  hI with
 | zero =>
  have e0:i=(t.of).length:=by omega
  subst e0
  exact .inl ⟨hI,by simp,fun R hg=>hg⟩
 | succ kk ih =>
  obtain ⟨x,hx⟩:=zay (l:=t.of) (i:=i) (by omega)
  have h0:decide (((i:Nat):Int) < (((t.of.map zaU).length:Nat):Int))=true:=by simp;omega
  have hw:IntKind.i64.wrap (((i:Nat):Int)+1)=((i+1:Nat):Int):=zas i zfB
  obtain ⟨r1,q1,c1⟩:=(zdo s x zbI)
  let p_1:List St:=[sb h0,se (zaj zaU hx rfl),sc c1]
  cases h2:decide (r1 < 0)
  ·exact (ih (i+1) (by omega) zfH (by omega)).elim (fun ⟨qZ,xZ,gZ⟩=>.inl ⟨qZ,xZ,fun R hg=>zab (wkl (p_1++[sb h2,si hw]) [1,2,5,33,34,35] 2 kr (gZ R hg))⟩) (fun ⟨rY,gZ⟩=>.inr ⟨rY,zab (wkl [sb h0,se (zaj zaU hx rfl),sc c1,sb h2,si hw] [1,2,5,33,34,35] 2 kr gZ)⟩)
  ·exact .inr ⟨3,zab (wkr (p_1++[sb h2]) kr)⟩
noncomputable def zo3 (t:Tg) (s:Sch) (tb:List Tb) (i:Nat) :Cfg:=zaw B.ref17_Check 1 [(1,tsl tb),(2,.p 0 0),(5,.p 1 0),(45,.sl (t.rank.map Rk.cells)),(46,iv ((t.rank.map Rk.cells).length:Nat)),(47,iv (i:Nat))] [.box t.cells,.box s.cells]
theorem zgY (t:Tg) (s:Sch) (tb:List Tb) (h2:zae tb) (h3:∀ x∈tb,zae x.sch.cols) (hl:zae t.rank) (i:Nat)  (hi:i≤(t.rank).length) (hI:True):((True)∧(decide ((((t.rank).length:Nat):Int) < (((t.rank.map Rk.cells).length:Nat):Int))=false)∧∀ R,Good E0 B.ref17_Check [] (zo3 t s tb (t.rank).length ) R→Good E0 B.ref17_Check [] (zo3 t s tb i ) R)∨(∃ (r:Int),Good E0 B.ref17_Check [] (zo3 t s tb i ) (Shut 0 fun rZ hZ=>rZ=(iv r)∧hZ=[])):=by
 obtain ⟨kk,hk⟩:∃ kk,i+kk=(t.rank).length:=⟨(t.rank).length - i,by omega⟩
 induction kk generalizing i  hI with
 | zero =>
  have e0:i=(t.rank).length:=by omega
  subst e0
  exact .inl ⟨hI,by simp,fun R hg=>hg⟩
 | succ kk ih =>
  obtain ⟨x,hx⟩:=zay (l:=t.rank) (i:=i) (by omega)
  have h0:decide (((i:Nat):Int) < (((t.rank.map Rk.cells).length:Nat):Int))=true:=by simp;omega
  have hw:IntKind.i64.wrap (((i:Nat):Int)+1)=((i+1:Nat):Int):=zas i zfB
  obtain ⟨r1,q1,c1⟩:=(zdo ((zaK tb x.table).fst) x.col zey)
  cases h2:!(zaK tb x.table).snd
  ·cases h3:decide (r1 < 0)
   ·obtain ⟨x4,e4⟩:=zjK (l:=(zaK tb x.table).fst.cols) (i:=r1) znr
    let p_1:List St:=[sb h0,se (zaj Rk.cells hx rfl),sc (zbO tb x.table zey zey),sc c1,sg h2,sb h3,se (zcE Col.cells e4 rfl)]
    cases h5:x4.type != 1
    ·exact (ih (i+1) (by omega) zfH (by omega)).elim (fun ⟨qZ,xZ,gZ⟩=>.inl ⟨qZ,xZ,fun R hg=>zab (wkl (p_1++[sb h5,si hw]) [1,2,5,45,46,47] 2 kr (gZ R hg))⟩) (fun ⟨rY,gZ⟩=>.inr ⟨rY,zab (wkl [sb h0,se (zaj Rk.cells hx rfl),sc (zbO tb x.table zey zey),sc c1,sg h2,sb h3,se (zcE Col.cells e4 rfl),sb h5,si hw] [1,2,5,45,46,47] 2 kr gZ)⟩)
    ·exact .inr ⟨5,zab (wkr (p_1++[sb h5]) kr)⟩
   ·exact .inr ⟨3,zab (wkr [sb h0,se (zaj Rk.cells hx rfl),sc (zbO tb x.table zey zey),sc c1,sg h2,sb h3] kr)⟩
  ·exact .inr ⟨3,zab (wkr [sb h0,se (zaj Rk.cells hx rfl),sc (zbO tb x.table zey zey),sc c1,sb h2] kr)⟩
noncomputable def zpp (t:Tg) (s:Sch) (frs:List Fr) (all:List Tb) (i:Nat) :Cfg:=zaw B.ref17_Check 2 [(5,.p 1 0),(14,fsl frs),(15,tsl all),(94,.sl (t.acts.map Ac.cells)),(95,iv ((t.acts.map Ac.cells).length:Nat)),(96,iv (i:Nat))] [.box t.cells,.box s.cells]
theorem zgM (t:Tg) (s:Sch) (frs:List Fr) (all:List Tb) (hl:zae t.acts) (ha:∀ a∈t.acts,∃ e:Int,zac E0 S.ref17_checkAction [a.av,s.av,fsl frs,tsl all] [] (iv e) []) (i:Nat)  (hi:i≤(t.acts).length) (hI:True):((True)∧(decide ((((t.acts).length:Nat):Int) < (((t.acts.map Ac.cells).length:Nat):Int))=false)∧∀ R,Good E0 B.ref17_Check [] (zpp t s frs all (t.acts).length ) R→Good E0 B.ref17_Check [] (zpp t s frs all i ) R)∨(∃ (r:Int),Good E0 B.ref17_Check [] (zpp t s frs all i ) (Shut 0 fun rZ hZ=>rZ=(iv r)∧hZ=[])):=by
 obtain ⟨kk,hk⟩:∃ kk,i+kk=(t.acts).length:=⟨(t.acts).length - i,by omega⟩
 induction kk generalizing i  hI with
 | zero =>
  have e0:i=(t.acts).length:=by omega
  subst e0
  exact .inl ⟨hI,by simp,fun R hg=>hg⟩
 | succ kk ih =>
  obtain ⟨x,hx⟩:=zay (l:=t.acts) (i:=i) (by omega)
  have h0:decide (((i:Nat):Int) < (((t.acts.map Ac.cells).length:Nat):Int))=true:=by simp;omega
  have hw:IntKind.i64.wrap (((i:Nat):Int)+1)=((i+1:Nat):Int):=zas i zfB
  have hx1:=ha x (List.mem_of_getElem? hx)
  obtain ⟨e1,c1⟩:=hx1
  let p_1:List St:=[sb h0,se (zaj Ac.cells hx rfl),sc c1]
  cases h2:e1 != 0
  ·exact (ih (i+1) (by omega) zfH (by omega)).elim (fun ⟨qZ,xZ,gZ⟩=>.inl ⟨qZ,xZ,fun R hg=>zab (wkl (p_1++[sb h2,si hw]) [5,14,15,94,95,96] 2 kr (gZ R hg))⟩) (fun ⟨rY,gZ⟩=>.inr ⟨rY,zab (wkl [sb h0,se (zaj Ac.cells hx rfl),sc c1,sb h2,si hw] [5,14,15,94,95,96] 2 kr gZ)⟩)
  ·exact .inr ⟨e1,zab (wkr (p_1++[sb h2]) kr)⟩
theorem zmm (t:Tg) (tb:List Tb) (hvt:∃ b:Bool,zac E0 S.ref11_ValidTrigger [t.av] [] (bv b) []) (h2:zae tb) (h3:∀ x∈tb,zae x.sch.cols) (hs:zae (zaK tb t.table).1.cols) (ho:zae t.of) (hr:zae t.rank) (hacs:zae t.acts) (hcw:∀ (tr:List Tb),(tr.length≤2∧∀ x∈tr,∃ n,x=trTb n (zaK tb t.table).1)→∃ e:Int,zac E0 S.ref14_Condition [xsl t.when_,fsl (zck t (zaK tb t.table).1 [] []),tsl (tb++tr)] [] (iv e) []) (hca:∀ (tr:List Tb),(tr.length≤2∧∀ x∈tr,∃ n,x=trTb n (zaK tb t.table).1)→∀ a∈t.acts,∃ e:Int,zac E0 S.ref17_checkAction [a.av,(zaK tb t.table).1.av,fsl (zck t (zaK tb t.table).1 [] []),tsl (tb++tr)] [] (iv e) []):∃ (r:Int),zac E0 S.ref17_Check [t.av,tsl tb] [] (iv r) []:=by
 obtain ⟨b1,c1⟩:=hvt
 cases h2:!b1
 ·let p_1:List St:=[sc c1,sb h2,sc (zbO tb t.table zbP zbP)]
  cases h3:!(zaK tb t.table).snd
  ·rcases zgZ t ((zaK tb t.table).fst) tb zbP zbP 0 zbP zbP with ⟨q4,q4_1,g4⟩|⟨r4_0,g4⟩
   ·rcases zgY t ((zaK tb t.table).fst) tb zbP zbP zbP 0 zbP zbP with ⟨q5,q5_1,g5⟩|⟨r5_0,g5⟩
    ·obtain ⟨r6,q6,c6⟩:=(ze6 t ((zaK tb t.table).fst) zbP)
     obtain ⟨e7,c7⟩:=(hcw r6 zbP)
     let p_2:List St:=[sb q5_1,sc (zhy t ((zaK tb t.table).fst) ([]) ([]) zbP zbP zbP),sc c6,sc (znZ tb r6 zbP zbP),sc c7]
     cases h8:e7 != 0
     ·rcases zgM t ((zaK tb t.table).fst) (zck t (zaK tb t.table).fst [] []) (tb++r6) zbP zbP 0 zbP zbP with ⟨q9,q9_1,g9⟩|⟨r9_0,g9⟩
      ·exact ⟨0,wkc At.ref17_Check (p_1++[sb h3]) [1,2,5,33,34,35] 2 kr (g4 _ (zab (wkl [sb q4_1] [1,2,5,45,46,47] 2 kr (g5 _ (zab (wkl (p_2++[sb h8]) [5,14,15,94,95,96] 2 kr (g9 _ (zab (wkr [sb q9_1] kr)))))))))⟩
      ·exact ⟨r9_0,wkc At.ref17_Check (p_1++[sb h3]) [1,2,5,33,34,35] 2 kr (g4 _ (zab (wkl [sb q4_1] [1,2,5,45,46,47] 2 kr (g5 _ (zab (wkl (p_2++[sb h8]) [5,14,15,94,95,96] 2 kr g9))))))⟩
     ·exact ⟨e7,wkc At.ref17_Check (p_1++[sb h3]) [1,2,5,33,34,35] 2 kr (g4 _ (zab (wkl [sb q4_1] [1,2,5,45,46,47] 2 kr (g5 _ (zab (wkr (p_2++[sb h8]) kr))))))⟩
    ·exact ⟨r5_0,wkc At.ref17_Check (p_1++[sb h3]) [1,2,5,33,34,35] 2 kr (g4 _ (zab (wkl [sb q4_1] [1,2,5,45,46,47] 2 kr g5)))⟩
   ·exact ⟨r4_0,wkc At.ref17_Check (p_1++[sb h3]) [1,2,5,33,34,35] 2 kr (g4)⟩
  ·exact ⟨3,wk At.ref17_Check (p_1++[sb h3]) kr⟩
 ·exact ⟨17,wk At.ref17_Check [sc c1,sb h2] kr⟩
end Go.AM
namespace Go.AM
set_option maxRecDepth 100000
set_option linter.unusedSimpArgs false
set_option linter.unusedVariables false
theorem tyOk {n:Nat} {x:X} {frs:List Fr} {tb:List Tb} (h:XOk n x) (hf:FsOk n frs) (ht:TbOk tb):TyOk x frs tb:=⟨_,_,zgr n x frs tb h hf ht⟩
theorem zp2 {n:Nat} {l:List X} {frs:List Fr} {tb:List Tb} (h:∀ x∈l,XOk n x) (hf:FsOk n frs) (ht:TbOk tb):∃ e:Int,zac E0 S.ref14_Condition [xsl l,fsl frs,tsl tb] [] (iv e) [] :=
 ⟨_,zhn (f:=fun x=>zfX n x frs tb) fun x hx=>zgr n x frs tb (h x hx) hf ht⟩
theorem zdg {tb:List Tb} (ht:TbOk tb) (m:Str):zae (zaK tb m).1.cols:=zeC tb m tb 0 ht.cols
theorem zrK {n:Nat} {q:Qy} {frs:List Fr} {tb:List Tb} (h:QW n q) (hf:FsOk (n+1) frs) (ht:TbOk tb):∃ (r:List Int) (e:Int),zae r∧zac E0 S.ref14_Types [q.av,fsl frs,tsl tb] [] (.tup [isl r,iv e]) [] :=
 zmb q frs tb (fun x=>zfX n x (rIns frs tb q) tb) _ hf.short ht.len ht.cols (zaI h.items) (zdg ht q.frm) (fun x hx=>zgr n x _ tb (h.hi x hx) (hf.ins ht q) ht) (zhn fun x hx=>zgr n x _ tb (h.hw x hx) (hf.ins ht q) ht)
theorem insOk {n:Nat} {a:Ac} {s:Sch} {frs:List Fr} {tb:List Tb} (h:AcOk n a) (hs:zae s.cols) (hf:FsOk (n+1) frs) (ht:TbOk tb):∃ e:Int,zac E0 S.ref16_checkInsert [a.av,s.av,fsl frs,tsl tb] [] (iv e) [] :=
 zi7 a s frs tb hs (zaI h.rows) (zaI h.query) (fun r hr=>⟨zaI (h.row r hr).1,fun x hx=>tyOk ((h.row r hr).2 x hx) hf.less ht⟩) (fun q hq=>zrK (h.qs q hq) hf ht)
theorem chkOk {n:Nat} {a:Ac} {frs:List Fr} {tb:List Tb} (h:AcOk n a) (hf:FsOk (n+1) frs) (ht:TbOk tb):∃ e:Int,zac E0 S.ref16_Check [a.av,fsl frs,tsl tb] [] (iv e) [] :=
 zmi a frs tb (zmk a (vaOk h)) hf.short ht.len ht.cols (zdg ht a.table) (zaI h.sets) (insOk h (zdg ht a.table) hf ht) (fun s hs=>tyOk (h.set s hs) (hf.ins ht (Qy.mk false [] a.table [])) ht) (zp2 h.w (hf.ins ht (Qy.mk false [] a.table [])) ht)
def zmz (a:Ac):Prop:=a.kind=5→∃ s,a.sets=[s]
theorem actOk {n:Nat} {a:Ac} {s:Sch} {frs:List Fr} {tb:List Tb} (h:AcOk n a) (hset:zmz a) (hs:zae s.cols) (hf:FsOk (n+1) frs) (ht:TbOk tb):∃ e:Int,zac E0 S.ref17_checkAction [a.av,s.av,fsl frs,tsl tb] [] (iv e) []:=by
 by_cases h5:a.kind=5
 ·obtain ⟨s0,hs0⟩:=hset h5
  cases a with
  | mk k tbn rows query sets wh text =>
   subst hs0
   subst h5
   exact zgP ⟨5,tbn,rows,query,[s0],wh,text⟩ s0 s frs tb hs (tyOk (h.set s0 (by simp)) hf.less ht)
 ·exact zgW a s frs tb (by simpa using h5) (chkOk h hf ht)
theorem TbOk.tr {tb:List Tb} {s:Sch} {tr:List Tb} (h:TbOk tb) (hl:tb.length≤1000) (hs:zae s.cols) (ht:tr.length≤2∧∀ x∈tr,∃ n,x=trTb n s):TbOk (tb++tr):=by
 refine ⟨by have:=ht.1;simp only [zae,List.length_append];omega,fun x hx=>?_,fun x hx=>?_,fun x hx=>?_⟩ <;> rcases List.mem_append.mp hx with hx|hx
 ·exact h.cols x hx
 ·obtain ⟨n,rfl⟩:=ht.2 x hx
  simpa [trTb] using hs
 ·exact h.rows x hx
 ·obtain ⟨n,rfl⟩:=ht.2 x hx
  simp [trTb]
 ·exact h.vals x hx
 ·obtain ⟨n,rfl⟩:=ht.2 x hx
  intro r hr
  cases hr
theorem frOk1 {n:Nat} {l:List Fr} {s:Sch} (hs:zae s.cols) (hn:n≤1000) (hl:l.length≤2) (h:∀ f∈l,f.cols=s.cols∧f.vals=[]):FsOk n l :=
 ⟨by omega,fun f hf=>by rw [(h f hf).1];exact hs,fun f hf v hv=>by rw [(h f hf).2] at hv;cases hv⟩
theorem frOk {n:Nat} (t:Tg) {s:Sch} (hs:zae s.cols) (hn:n≤1000):FsOk n (zck t s [] []):=by
 unfold zck
 cases t.each <;> cases t.event==2 <;> cases t.event==3 <;> cases t.event==1 <;> exact frOk1 hs hn (by simp) (by simp [zdq])
theorem zsj {n:Nat} {t:Tg} {tb:List Tb} (h:TgOk n t) (hset:∀ a∈t.acts,zmz a) (ht:TbOk tb) (hl:tb.length≤1000) (hn:n < 1000):∃ r:Int,zac E0 S.ref17_Check [t.av,tsl tb] [] (iv r) [] :=
 zmm t tb (vtOk h) ht.len ht.cols (zdg ht t.table) (zaI h.of) (zaI h.rank) (zaI h.acts)
  (fun tr htr=>zp2 h.when_ (frOk t (zdg ht t.table) (by omega)) (ht.tr hl (zdg ht t.table) htr))
  (fun tr htr a ha=>actOk (h.act a ha) (hset a ha) (zdg ht t.table) (frOk t (zdg ht t.table) (by omega)) (ht.tr hl (zdg ht t.table) htr))
end Go.AM
namespace Go.AM
structure InsI (l:List Lk) (x:Lk) (i:Nat) (out:List Lk) (done:Bool):Prop where
 nd:out.Nodup
 sub:∀ z∈out,z=x∨z∈l.take i
 sup:∀ z∈l.take i,z=x∨z∈out
 dn:x∈out↔done=true
theorem zfM {α:Type}:∀ (l m:List α),l.Nodup→(∀ x∈l,x∈m)→l.length≤m.length
 | [],_,_,_=>by simp
 | x::r,m,hn,hs=>by
  haveI:DecidableEq α:=fun a b=>Classical.propDecidable (a=b)
  rw [List.nodup_cons] at hn
  have hx:x∈m:=hs x (by simp)
  have h1:=zfM r (m.erase x) hn.2 fun y hy=>(List.mem_erase_of_ne (by rintro rfl;exact hn.1 hy)).2 (hs y (by simp [hy]))
  rw [List.length_erase_of_mem hx] at h1
  have h2:=List.length_pos_of_mem hx
  simp only [List.length_cons]
  omega
theorem zoJ {a b:Str} (h:(a==b)=true):a=b:=by
 cases a with
 | mk a=>cases b with
  | mk b =>
   have h':(a==b)=true:=h
   rw [eq_of_beq h']
theorem zrH (s:Str):(s==s)=true:=by
 cases s with
 | mk d =>
  have h:(d==d)=true:=by simp
  exact h
theorem lk_eq {x u:Lk} (h:(!(x.fst==u.fst&&(x.snd==u.snd&&true)))=false):x=u:=by
 simp only [Bool.not_eq_false',Bool.and_eq_true,and_true] at h
 cases x;cases u
 simp only at h
 rw [zoJ h.1,zoJ h.2]
theorem lk_ne {x u:Lk} (h:(!(x.fst==u.fst&&(x.snd==u.snd&&true)))=true):x≠u:=by
 rintro rfl;simp [zrH] at h
theorem zep {l:List Lk} {i:Nat} {x:Lk} (hx:l[i]?=some x) (z:Lk):z∈l.take (i+1)↔z∈l.take i∨z=x:=by
 rw [List.take_add_one,hx];simp
theorem zlA {l:List Lk} (hn:l.Nodup) {i:Nat} {x:Lk} (hx:l[i]?=some x):x ∉ l.take i:=by
 intro h
 obtain ⟨j,hj,hje⟩:=List.mem_iff_getElem.mp h
 obtain ⟨hi,hie⟩:=List.getElem?_eq_some_iff.mp hx
 simp only [List.length_take] at hj
 rw [List.getElem_take] at hje
 have h2:=hn
 unfold List.Nodup at h2
 rw [List.pairwise_iff_getElem] at h2
 exact h2 j i (by omega) hi (by omega) (hje.trans hie.symm)
theorem InsI.len {l:List Lk} {u:Lk} {i:Nat} {out:List Lk} {d:Bool} (h:InsI l u i out d):out.length≤i+1:=by
 have:=zfM out (u::l.take i) h.nd fun z hz=>by simpa using h.sub z hz
 simp only [List.length_cons,List.length_take] at this
 omega
theorem InsI.s1 {l:List Lk} {u x:Lk} {i:Nat} {out:List Lk} {d:Bool} (h:InsI l u i out d) (hx:l[i]?=some x) (e:(!(x.fst==u.fst&&(x.snd==u.snd&&true)))=false):InsI l u (i+1) out d:=by
 obtain rfl:=lk_eq e
 refine ⟨h.nd,fun z hz=>?_,fun z hz=>?_,h.dn⟩
 ·rcases h.sub z hz with h1|h1
  ·exact .inl h1
  ·exact .inr ((zep hx z).2 (.inl h1))
 ·rcases (zep hx z).1 hz with h1|h1
  ·exact h.sup z h1
  ·exact .inl h1
theorem InsI.s2 {l:List Lk} {u x:Lk} {i:Nat} {out:List Lk} {d:Bool} (h:InsI l u i out d) (hn:l.Nodup) (hx:l[i]?=some x) (e:(!(x.fst==u.fst&&(x.snd==u.snd&&true)))=true):InsI l u (i+1) (out++[x]) d:=by
 have hne:=lk_ne e
 refine ⟨?_,fun z hz=>?_,fun z hz=>?_,?_⟩
 ·refine List.nodup_append.2 ⟨h.nd,by simp,fun a ha b hb=>?_⟩
  simp only [List.mem_singleton] at hb
  subst hb
  rintro rfl
  rcases h.sub a ha with h1|h1
  ·exact hne h1
  ·exact zlA hn hx h1
 ·simp only [List.mem_append,List.mem_singleton] at hz
  rcases hz with hz|hz
  ·rcases h.sub z hz with h1|h1
   ·exact .inl h1
   ·exact .inr ((zep hx z).2 (.inl h1))
  ·exact .inr ((zep hx z).2 (.inr hz))
 ·simp only [List.mem_append,List.mem_singleton]
  rcases (zep hx z).1 hz with h1|h1
  ·rcases h.sup z h1 with h2|h2
   ·exact .inl h2
   ·exact .inr (.inl h2)
  ·exact .inr (.inr h1)
 ·simp only [List.mem_append,List.mem_singleton]
  rw [← h.dn]
  exact ⟨fun h1=>h1.resolve_right fun h2=>hne h2.symm,.inl⟩
theorem InsI.add {l:List Lk} {u:Lk} {i:Nat} {out:List Lk} {d:Bool} (h:InsI l u i out d) (e:(!d)=true):InsI l u i (out++[u]) true:=by
 have hnu:u ∉ out:=fun hu=>by have:=h.dn.1 hu;subst this;simp at e
 refine ⟨?_,fun z hz=>?_,fun z hz=>?_,by simp⟩
 ·refine List.nodup_append.2 ⟨h.nd,by simp,fun a ha b hb=>?_⟩
  simp only [List.mem_singleton] at hb
  subst hb
  rintro rfl
  exact hnu ha
 ·simp only [List.mem_append,List.mem_singleton] at hz
  rcases hz with hz|hz
  ·exact h.sub z hz
  ·exact .inl hz
 ·simp only [List.mem_append,List.mem_singleton]
  rcases h.sup z hz with h2|h2
  ·exact .inl h2
  ·exact .inr (.inl h2)
theorem InsI.both {l:List Lk} {u:Lk} {i:Nat} {out:List Lk} {d:Bool} (h:InsI l u i out d):InsI l u i out d∧out.length≤i+1:=⟨h,h.len⟩
structure InsR (l:List Lk) (u:Lk) (r:List Lk):Prop where
 nd:r.Nodup
 sub:∀ z∈r,z=u∨z∈l
 sup:∀ z∈l,z∈r
theorem InsI.done {l:List Lk} {u:Lk} {out:List Lk} {d:Bool} (h:InsI l u l.length out d) (e:(!d)=false):InsR l u out:=by
 have hd:d=true:=by simpa using e
 have hu:=h.dn.2 hd
 refine ⟨h.nd,fun z hz=>by simpa using h.sub z hz,fun z hz=>?_⟩
 rcases h.sup z (by simpa using hz) with rfl|h1
 ·exact hu
 ·exact h1
theorem InsI.end_ {l:List Lk} {u:Lk} {out:List Lk} {d:Bool} (h:InsI l u l.length out d) (e:(!d)=true):InsR l u (out++[u]):=(h.add e).done rfl
structure LkN (N:List Str) (l:List Lk):Prop where
 nd:l.Nodup
 mem:∀ z∈l,z.fst∈N∧z.snd∈N
theorem InsR.lk {N:List Str} {l:List Lk} {u:Lk} {r:List Lk} (h:InsR l u r) (hl:LkN N l) (h1:u.fst∈N) (h2:u.snd∈N):LkN N r :=
 ⟨h.nd,fun z hz=>by rcases h.sub z hz with rfl|hz;exact ⟨h1,h2⟩;exact hl.mem z hz⟩
theorem zmW {α β:Type} (f:α→List β) (k:Nat) (hf:∀ a,(f a).length=k):∀ l:List α,(l.flatMap f).length=l.length * k
 | []=>by simp
 | a::r=>by rw [List.flatMap_cons,List.length_append,hf,zmW f k hf r,List.length_cons,Nat.add_mul];omega
theorem LkN.len {N:List Str} {l:List Lk} (h:LkN N l):l.length≤N.length * N.length:=by
 have h1:=zfM l (N.flatMap fun a=>N.map fun b=>⟨a,b⟩) h.nd fun z hz=>by
  simp only [List.mem_flatMap,List.mem_map]
  exact ⟨z.fst,(h.mem z hz).1,z.snd,(h.mem z hz).2,by cases z;rfl⟩
 have h2:(N.flatMap fun a=>N.map fun b=>(⟨a,b⟩:Lk)).length=N.length * N.length:=by
  exact zmW _ _ (fun a=>by simp) N
 omega
end Go.AM
namespace Go.AM
set_option maxRecDepth 100000
set_option maxHeartbeats 1000000
set_option linter.unusedSimpArgs false
set_option linter.unusedVariables false
theorem zhG {p:Prop} (h:p:=by first|exact (hI.1.s1 hx (by assumption)).both|exact (hI.1.s2 hn hx (by assumption)).both|exact ((hI.1.add (by assumption)).s1 hx (by assumption)).both|exact ((hI.1.add (by assumption)).s2 hn hx (by assumption)).both):p:=h
theorem zb3 {p:Prop} (h:p:=by first|assumption|omega|(simp;done)|(simp;omega)):p:=h
theorem zgE {p:Prop} (h:p:=by first|trivial|assumption|(simp;done)|omega|(simp;omega)|(simp at *;omega)):p:=h
theorem zhE {p:Prop} (h:p:=by first|assumption|exact ⟨h,fun _ hz=>hz⟩|(simp;done)):p:=h
theorem zlv {p:Prop} (h:p:=by first|assumption|(simp;done)|exact ⟨⟨by simp,by simp,by simp,by simp⟩,by simp⟩):p:=h
theorem zhu {p:Prop} (h:p:=by first|omega|(simp only [zae,Few] at *;omega)):p:=h
abbrev lsl (l:List Lk):AV:=.sl (l.map Lk.cells)
theorem zhx (a b:Lk) :∃ (r:Bool),zac E0 S.ref18_before [a.av,b.av] [] (bv r) []:=by
 cases h1:Op.bytesLess (ByteArray.toList a.fst) (ByteArray.toList b.fst)
 ·cases h2:ByteArray.toList a.fst==ByteArray.toList b.fst
  ·exact ⟨false,wk At.ref18_before [sg h1,sb h2] kr⟩
  ·exact ⟨Op.bytesLess (ByteArray.toList a.snd) (ByteArray.toList b.snd),wk At.ref18_before [sg h1,sg h2] kr⟩
 ·exact ⟨true,wk At.ref18_before [sb h1] kr⟩
noncomputable def L_pr (l:List Lk) (a b:Str) (i:Nat) :Cfg:=zaw B.ref18_Precedes 0 [(1,sv a),(2,sv b),(9,lsl l),(10,iv ((l.map Lk.cells).length:Nat)),(11,iv (i:Nat))] []
theorem zgi (l:List Lk) (a b:Str) (hl:zae l) (i:Nat)  (hi:i≤(l).length) (hI:True):((True)∧(decide ((((l).length:Nat):Int) < (((l.map Lk.cells).length:Nat):Int))=false)∧∀ R,Good E0 B.ref18_Precedes [] (L_pr l a b (l).length ) R→Good E0 B.ref18_Precedes [] (L_pr l a b i ) R)∨(∃ (r:Bool),Good E0 B.ref18_Precedes [] (L_pr l a b i ) (Shut 0 fun rZ hZ=>rZ=(bv r)∧hZ=[])):=by
 obtain ⟨kk,hk⟩:∃ kk,i+kk=(l).length:=⟨(l).length - i,by omega⟩
 induction kk generalizing i  hI with
 | zero =>
  have e0:i=(l).length:=by omega
  subst e0
  exact .inl ⟨hI,by simp,fun R hg=>hg⟩
 | succ kk ih =>
  obtain ⟨x,hx⟩:=zay (l:=l) (i:=i) (by omega)
  have h0:decide (((i:Nat):Int) < (((l.map Lk.cells).length:Nat):Int))=true:=by simp;omega
  have hw:IntKind.i64.wrap (((i:Nat):Int)+1)=((i+1:Nat):Int):=zas i zhu
  let p_1:List St:=[sb h0,se (zaj Lk.cells hx rfl)]
  let p_2:List St:=[sb h0,se (zaj Lk.cells hx rfl)]
  cases h1:ByteArray.toList x.fst==ByteArray.toList a
  ·exact (ih (i+1) (by omega) zgE (by omega)).elim (fun ⟨qZ,xZ,gZ⟩=>.inl ⟨qZ,xZ,fun R hg=>zab (wkl (p_1++[sb h1,si hw]) [1,2,9,10,11] 0 kr (gZ R hg))⟩) (fun ⟨rY,gZ⟩=>.inr ⟨rY,zab (wkl (p_2++[sb h1,si hw]) [1,2,9,10,11] 0 kr gZ)⟩)
  ·cases h2:ByteArray.toList x.snd==ByteArray.toList b
   ·exact (ih (i+1) (by omega) zgE (by omega)).elim (fun ⟨qZ,xZ,gZ⟩=>.inl ⟨qZ,xZ,fun R hg=>zab (wkl (p_1++[sg h1,sb h2,si hw]) [1,2,9,10,11] 0 kr (gZ R hg))⟩) (fun ⟨rY,gZ⟩=>.inr ⟨rY,zab (wkl (p_2++[sg h1,sb h2,si hw]) [1,2,9,10,11] 0 kr gZ)⟩)
   ·exact .inr ⟨true,zab (wkr (p_1++[sg h1,sb h2]) kr)⟩
theorem zkq (l:List Lk) (a b:Str) (hl:zae l):∃ (r:Bool),zac E0 S.ref18_Precedes [lsl l,sv a,sv b] [] (bv r) []:=by
 rcases zgi l a b zb3 0 zb3 zb3 with ⟨q1,q1_1,g1⟩|⟨r1_0,g1⟩
 ·exact ⟨false,wkc At.ref18_Precedes [] [1,2,9,10,11] 0 kr (g1 _ (zab (wkr [sb q1_1] kr)))⟩
 ·exact ⟨r1_0,wkc At.ref18_Precedes [] [1,2,9,10,11] 0 kr (g1)⟩
noncomputable def zoS (l:List Lk) (io:Nat) (y:Lk) (i:Nat) :Cfg:=zaw B.ref18_Valid 1 [(0,lsl l),(4,.p 0 0),(7,lsl l),(8,iv ((l.map Lk.cells).length:Nat)),(9,iv (io:Nat)),(33,lsl l),(34,iv ((l.map Lk.cells).length:Nat)),(35,iv (i:Nat))] [.box y.cells]
theorem zdG (l:List Lk) (io:Nat) (y:Lk) (hl:zae l) (i:Nat)  (hi:i≤(l).length) (hI:True):((True)∧(decide ((((l).length:Nat):Int) < (((l.map Lk.cells).length:Nat):Int))=false)∧∀ R,Good E0 B.ref18_Valid [] (zoS l io y (l).length ) R→Good E0 B.ref18_Valid [] (zoS l io y i ) R)∨(∃ (r:Bool),Good E0 B.ref18_Valid [] (zoS l io y i ) (Shut 0 fun rZ hZ=>rZ=(bv r)∧hZ=[])):=by
 obtain ⟨kk,hk⟩:∃ kk,i+kk=(l).length:=⟨(l).length - i,by omega⟩
 induction kk generalizing i  hI with
 | zero =>
  have e0:i=(l).length:=by omega
  subst e0
  exact .inl ⟨hI,by simp,fun R hg=>hg⟩
 | succ kk ih =>
  obtain ⟨x,hx⟩:=zay (l:=l) (i:=i) (by omega)
  have h0:decide (((i:Nat):Int) < (((l.map Lk.cells).length:Nat):Int))=true:=by simp;omega
  have hw:IntKind.i64.wrap (((i:Nat):Int)+1)=((i+1:Nat):Int):=zas i zhu
  let p_1:List St:=[sb h0,se (zaj Lk.cells hx rfl)]
  let p_2:List St:=[sb h0,se (zaj Lk.cells hx rfl)]
  cases h1:ByteArray.toList y.snd==ByteArray.toList x.fst
  ·exact (ih (i+1) (by omega) zgE (by omega)).elim (fun ⟨qZ,xZ,gZ⟩=>.inl ⟨qZ,xZ,fun R hg=>zab (wkl (p_1++[sb h1,si hw]) [0,4,7,8,9,33,34,35] 1 kr (gZ R hg))⟩) (fun ⟨rY,gZ⟩=>.inr ⟨rY,zab (wkl (p_2++[sb h1,si hw]) [0,4,7,8,9,33,34,35] 1 kr gZ)⟩)
  ·obtain ⟨r2,c2⟩:=(zkq l y.fst x.snd zb3)
   cases h3:!r2
   ·exact (ih (i+1) (by omega) zgE (by omega)).elim (fun ⟨qZ,xZ,gZ⟩=>.inl ⟨qZ,xZ,fun R hg=>zab (wkl (p_1++[sg h1,sc c2,sb h3,si hw]) [0,4,7,8,9,33,34,35] 1 kr (gZ R hg))⟩) (fun ⟨rY,gZ⟩=>.inr ⟨rY,zab (wkl (p_2++[sg h1,sc c2,sb h3,si hw]) [0,4,7,8,9,33,34,35] 1 kr gZ)⟩)
   ·exact .inr ⟨false,zab (wkr (p_1++[sg h1,sc c2,sb h3]) kr)⟩
noncomputable def L_va (l:List Lk) (i:Nat) :Cfg:=zaw B.ref18_Valid 0 [(0,lsl l),(7,lsl l),(8,iv ((l.map Lk.cells).length:Nat)),(9,iv (i:Nat))] []
theorem zhl (l:List Lk) (hl:zae l) (i:Nat)  (hi:i≤(l).length) (hI:True):((True)∧(decide ((((l).length:Nat):Int) < (((l.map Lk.cells).length:Nat):Int))=false)∧∀ R,Good E0 B.ref18_Valid [] (L_va l (l).length ) R→Good E0 B.ref18_Valid [] (L_va l i ) R)∨(∃ (r:Bool),Good E0 B.ref18_Valid [] (L_va l i ) (Shut 0 fun rZ hZ=>rZ=(bv r)∧hZ=[])):=by
 obtain ⟨kk,hk⟩:∃ kk,i+kk=(l).length:=⟨(l).length - i,by omega⟩
 induction kk generalizing i  hI with
 | zero =>
  have e0:i=(l).length:=by omega
  subst e0
  exact .inl ⟨hI,by simp,fun R hg=>hg⟩
 | succ kk ih =>
  obtain ⟨x,hx⟩:=zay (l:=l) (i:=i) (by omega)
  have h0:decide (((i:Nat):Int) < (((l.map Lk.cells).length:Nat):Int))=true:=by simp;omega
  have hw:IntKind.i64.wrap (((i:Nat):Int)+1)=((i+1:Nat):Int):=zas i zhu
  let p_1:List St:=[sb h0,se (zaj Lk.cells hx rfl)]
  let p_2:List St:=[sb h0,se (zaj Lk.cells hx rfl)]
  cases h1:ByteArray.toList x.fst==ByteArray.toList x.snd
  ·cases h2:decide (0 < (i:Int))
   ·let p_3:List St:=p_1++[sd [(6,[sg h1]),(7,[sg h1]),(8,[sg h1]),(9,[sb h2]),(10,[sb h2]),(11,[sb h2]),(12,[sb h2]),(13,[sb h2]),(14,[sb h2]),(15,[sb h2]),(16,[sb h2]),(17,[so h1 (sb h2)])]]
    cases h3:bif ByteArray.toList x.fst==ByteArray.toList x.snd then true else false
    ·rcases zdG l i x zb3 0 zb3 zb3 with ⟨q4,q4_1,g4⟩|⟨r4_0,g4⟩
     ·exact (ih (i+1) (by omega) zgE (by omega)).elim (fun ⟨qZ,xZ,gZ⟩=>.inl ⟨qZ,xZ,fun R hg=>zab (wkl (p_3++[sb h3]) [0,4,7,8,9,33,34,35] 1 kr (g4 _ (zab (wkl [sb q4_1,si hw] [0,7,8,9] 0 kr (gZ R hg)))))⟩) (fun ⟨rY,gZ⟩=>.inr ⟨rY,zab (wkl (p_2++[sd [(6,[sg h1]),(7,[sg h1]),(8,[sg h1]),(9,[sb h2]),(10,[sb h2]),(11,[sb h2]),(12,[sb h2]),(13,[sb h2]),(14,[sb h2]),(15,[sb h2]),(16,[sb h2]),(17,[so h1 (sb h2)])],sb h3]) [0,4,7,8,9,33,34,35] 1 kr (g4 _ (zab (wkl [sb q4_1,si hw] [0,7,8,9] 0 kr gZ))))⟩)
     ·exact .inr ⟨r4_0,zab (wkl (p_3++[sb h3]) [0,4,7,8,9,33,34,35] 1 kr g4)⟩
    ·exact .inr ⟨false,zab (wkr (p_3++[sb h3]) kr)⟩
   ·obtain ⟨x5,e5⟩:=zjK (l:=l) (i:=IntKind.i64.wrap ((i:Int) - (1:Int))) (by (have:=(List.getElem?_eq_some_iff.mp hx).1;simp only [zae] at hl;simp only [decide_eq_true_eq,IntKind.wrap_i64] at *;omega))
    obtain ⟨r6,c6⟩:=(zhx x5 x)
    let p_4:List St:=p_1++[sd [(6,[sg h1]),(7,[sg h1]),(8,[sg h1]),(9,[sg h2]),(10,[sg h2]),(11,[so h2 (si (e:=IntKind.i64.wrap ((i:Int) - 1)) rfl)]),(12,[so h2 (se (zcE Lk.cells e5 rfl))]),(13,[sg h2]),(14,[sg h2]),(15,[so h2 (sc c6)]),(16,[sg h2]),(17,[sg h1])]]
    cases h7:bif ByteArray.toList x.fst==ByteArray.toList x.snd then true else bif decide (0 < (i:Int)) then !r6 else false
    ·rcases zdG l i x zb3 0 zb3 zb3 with ⟨q8,q8_1,g8⟩|⟨r8_0,g8⟩
     ·exact (ih (i+1) (by omega) zgE (by omega)).elim (fun ⟨qZ,xZ,gZ⟩=>.inl ⟨qZ,xZ,fun R hg=>zab (wkl (p_4++[sb h7]) [0,4,7,8,9,33,34,35] 1 kr (g8 _ (zab (wkl [sb q8_1,si hw] [0,7,8,9] 0 kr (gZ R hg)))))⟩) (fun ⟨rY,gZ⟩=>.inr ⟨rY,zab (wkl (p_2++[sd [(6,[sg h1]),(7,[sg h1]),(8,[sg h1]),(9,[sg h2]),(10,[sg h2]),(11,[so h2 (si (e:=IntKind.i64.wrap ((i:Int) - 1)) rfl)]),(12,[so h2 (se (zcE Lk.cells e5 rfl))]),(13,[sg h2]),(14,[sg h2]),(15,[so h2 (sc c6)]),(16,[sg h2]),(17,[sg h1])],sb h7]) [0,4,7,8,9,33,34,35] 1 kr (g8 _ (zab (wkl [sb q8_1,si hw] [0,7,8,9] 0 kr gZ))))⟩)
     ·exact .inr ⟨r8_0,zab (wkl (p_4++[sb h7]) [0,4,7,8,9,33,34,35] 1 kr g8)⟩
    ·exact .inr ⟨false,zab (wkr (p_4++[sb h7]) kr)⟩
  ·exact .inr ⟨false,zab (wkr (p_1++[sd [(6,[sb h1]),(7,[sb h1]),(8,[sb h1]),(17,[sb h1]),(18,[sb h1])]]) kr)⟩
theorem ziJ (l:List Lk) (hl:zae l):∃ (r:Bool),zac E0 S.ref18_Valid [lsl l] [] (bv r) []:=by
 rcases zhl l zb3 0 zb3 zb3 with ⟨q1,q1_1,g1⟩|⟨r1_0,g1⟩
 ·exact ⟨true,wkc At.ref18_Valid [] [0,7,8,9] 0 kr (g1 _ (zab (wkr [sb q1_1] kr)))⟩
 ·exact ⟨r1_0,wkc At.ref18_Valid [] [0,7,8,9] 0 kr (g1)⟩
noncomputable def L_is (l:List Lk) (u:Lk) (i:Nat) (out:List Lk) (done:Bool):Cfg:=zaw B.ref18_insert 0 [(3,.p 0 0),(5,.own 1 out.length),(6,bv done),(9,lsl l),(10,iv ((l.map Lk.cells).length:Nat)),(11,iv (i:Nat))] [.box u.cells,.row Ty.Link (out.map Lk.cells) false]
theorem zgR (l:List Lk) (u:Lk) (hl:zae l) (hn:l.Nodup) (i:Nat) (out:List Lk) (done:Bool) (hi:i≤(l).length) (hI:InsI l u i out done∧out.length≤i+1):∃ (out':List Lk) (done':Bool),(InsI l u (l).length out' done'∧out'.length≤(l).length+1)∧(decide ((((l).length:Nat):Int) < (((l.map Lk.cells).length:Nat):Int))=false)∧∀ R,Good E0 B.ref18_insert [] (L_is l u (l).length out' done') R→Good E0 B.ref18_insert [] (L_is l u i out done) R:=by
 obtain ⟨kk,hk⟩:∃ kk,i+kk=(l).length:=⟨(l).length - i,by omega⟩
 induction kk generalizing i out done with
 | zero =>
  have e0:i=(l).length:=by omega
  subst e0
  exact ⟨out,done,hI,by simp,fun R hg=>hg⟩
 | succ kk ih =>
  obtain ⟨x,hx⟩:=zay (l:=l) (i:=i) (by omega)
  have h0:decide (((i:Nat):Int) < (((l.map Lk.cells).length:Nat):Int))=true:=by simp;omega
  have hw:IntKind.i64.wrap (((i:Nat):Int)+1)=((i+1:Nat):Int):=zas i zhu
  have hol:out.length≤1000000000:=by have:=hI.2;simp only [zae] at hl;omega
  let p_1:List St:=[sb h0,se (zaj Lk.cells hx rfl)]
  cases h1:!done
  ·cases h2:!(x.fst==u.fst&&(x.snd==u.snd&&true))
   ·obtain ⟨outZ,doneZ,qZ,xZ,gZ⟩:=ih (i+1) out done (by omega) zhG (by omega);exact ⟨outZ,doneZ,qZ,xZ,fun R hg=>zab (wkl (p_1++[sb h1,sq zd6,sb h2,si hw]) [3,5,6,9,10,11] 2 kr (gZ R hg))⟩
   ·obtain ⟨outZ,doneZ,qZ,xZ,gZ⟩:=ih (i+1) (out++[x]) done (by omega) zhG (by omega);exact ⟨outZ,doneZ,qZ,xZ,fun R hg=>zab (wkl (p_1++[sb h1,sq zd6,sb h2,sqx (AllLen [[sv x.fst,sv x.snd]] 2∧out.length=(List.map Lk.cells out).length∧(((List.map Lk.cells out).length+[[sv x.fst,sv x.snd]].length) * 32).le 140737488355328),si hw]) [3,5,6,9,10,11] 2 kr (zao (show ([(3,AV.p 0 0),(5,AV.own 1 (List.map Lk.cells out++[[sv x.fst,sv x.snd]]).length),(6,bv done),(9,AV.sl (List.map Lk.cells l)),(10,iv (↑(List.map Lk.cells l).length:Int)),(11,iv (↑(i+1):Int))]:TS)=[(3,AV.p 0 0),(5,AV.own 1 (out++[x]).length),(6,bv done),(9,AV.sl (List.map Lk.cells l)),(10,iv (↑(List.map Lk.cells l).length:Int)),(11,iv (↑(i+1):Int))] by first|rfl|(simp;done)|(simp [X.cells,Qy.cells,V.cells,Col.cells,Rw.cells,Tb.cells,Fr.cells,Sch.cells,Tp.cells,Pl.cells,xCol,xLit,xBin,xNeg,Im.cells,Lk.cells,Ac.cells,Se.cells,Tg.cells,Rk.cells];done)) (show ([Blk.box [sv u.fst,sv u.snd],Blk.row Ty.Link (List.map Lk.cells out++[[sv x.fst,sv x.snd]]) false]:Heap)=[Blk.box [sv u.fst,sv u.snd],Blk.row Ty.Link (List.map Lk.cells (out++[x])) false] by first|rfl|(simp;done)|(simp [X.cells,Qy.cells,V.cells,Col.cells,Rw.cells,Tb.cells,Fr.cells,Sch.cells,Tp.cells,Pl.cells,xCol,xLit,xBin,xNeg,Im.cells,Lk.cells,Ac.cells,Se.cells,Tg.cells,Rk.cells];done)) (gZ R hg)))⟩
  ·obtain ⟨r3,c3⟩:=(zhx x u)
   cases h4:!r3
   ·cases h5:!(x.fst==u.fst&&(x.snd==u.snd&&true))
    ·obtain ⟨outZ,doneZ,qZ,xZ,gZ⟩:=ih (i+1) out done (by omega) zhG (by omega);exact ⟨outZ,doneZ,qZ,xZ,fun R hg=>zab (wkl (p_1++[sg h1,sc c3,sb h4,sq zd6,sb h5,si hw]) [3,5,6,9,10,11] 2 kr (gZ R hg))⟩
    ·obtain ⟨outZ,doneZ,qZ,xZ,gZ⟩:=ih (i+1) (out++[x]) done (by omega) zhG (by omega);exact ⟨outZ,doneZ,qZ,xZ,fun R hg=>zab (wkl (p_1++[sg h1,sc c3,sb h4,sq zd6,sb h5,sqx (AllLen [[sv x.fst,sv x.snd]] 2∧out.length=(List.map Lk.cells out).length∧(((List.map Lk.cells out).length+[[sv x.fst,sv x.snd]].length) * 32).le 140737488355328),si hw]) [3,5,6,9,10,11] 2 kr (zao (show ([(3,AV.p 0 0),(5,AV.own 1 (List.map Lk.cells out++[[sv x.fst,sv x.snd]]).length),(6,bv done),(9,AV.sl (List.map Lk.cells l)),(10,iv (↑(List.map Lk.cells l).length:Int)),(11,iv (↑(i+1):Int))]:TS)=[(3,AV.p 0 0),(5,AV.own 1 (out++[x]).length),(6,bv done),(9,AV.sl (List.map Lk.cells l)),(10,iv (↑(List.map Lk.cells l).length:Int)),(11,iv (↑(i+1):Int))] by first|rfl|(simp;done)|(simp [X.cells,Qy.cells,V.cells,Col.cells,Rw.cells,Tb.cells,Fr.cells,Sch.cells,Tp.cells,Pl.cells,xCol,xLit,xBin,xNeg,Im.cells,Lk.cells,Ac.cells,Se.cells,Tg.cells,Rk.cells];done)) (show ([Blk.box [sv u.fst,sv u.snd],Blk.row Ty.Link (List.map Lk.cells out++[[sv x.fst,sv x.snd]]) false]:Heap)=[Blk.box [sv u.fst,sv u.snd],Blk.row Ty.Link (List.map Lk.cells (out++[x])) false] by first|rfl|(simp;done)|(simp [X.cells,Qy.cells,V.cells,Col.cells,Rw.cells,Tb.cells,Fr.cells,Sch.cells,Tp.cells,Pl.cells,xCol,xLit,xBin,xNeg,Im.cells,Lk.cells,Ac.cells,Se.cells,Tg.cells,Rk.cells];done)) (gZ R hg)))⟩
   ·let p_2:List St:=p_1++[sg h1,sc c3,sb h4,sqx (AllLen [[sv u.fst,sv u.snd]] 2∧out.length=(List.map Lk.cells out).length∧(((List.map Lk.cells out).length+[[sv u.fst,sv u.snd]].length) * 32).le 140737488355328),sq zd6]
    cases h6:!(x.fst==u.fst&&(x.snd==u.snd&&true))
    ·obtain ⟨outZ,doneZ,qZ,xZ,gZ⟩:=ih (i+1) (out++[u]) true (by omega) zhG (by omega);exact ⟨outZ,doneZ,qZ,xZ,fun R hg=>zab (wklN (p_2++[sb h6,si hw]) [3,5,6,9,10,11] 2 [(.bl 6,2)] kr (zao (show ([(3,AV.p 0 0),(5,AV.own 1 (List.map Lk.cells out++[[sv u.fst,sv u.snd]]).length),(6,bv true),(9,AV.sl (List.map Lk.cells l)),(10,iv (↑(List.map Lk.cells l).length:Int)),(11,iv (↑(i+1):Int))]:TS)=[(3,AV.p 0 0),(5,AV.own 1 (out++[u]).length),(6,bv true),(9,AV.sl (List.map Lk.cells l)),(10,iv (↑(List.map Lk.cells l).length:Int)),(11,iv (↑(i+1):Int))] by first|rfl|(simp;done)|(simp [X.cells,Qy.cells,V.cells,Col.cells,Rw.cells,Tb.cells,Fr.cells,Sch.cells,Tp.cells,Pl.cells,xCol,xLit,xBin,xNeg,Im.cells,Lk.cells,Ac.cells,Se.cells,Tg.cells,Rk.cells];done)) (show ([Blk.box [sv u.fst,sv u.snd],Blk.row Ty.Link (List.map Lk.cells out++[[sv u.fst,sv u.snd]]) false]:Heap)=[Blk.box [sv u.fst,sv u.snd],Blk.row Ty.Link (List.map Lk.cells (out++[u])) false] by first|rfl|(simp;done)|(simp [X.cells,Qy.cells,V.cells,Col.cells,Rw.cells,Tb.cells,Fr.cells,Sch.cells,Tp.cells,Pl.cells,xCol,xLit,xBin,xNeg,Im.cells,Lk.cells,Ac.cells,Se.cells,Tg.cells,Rk.cells];done)) (gZ R hg)))⟩
    ·obtain ⟨outZ,doneZ,qZ,xZ,gZ⟩:=ih (i+1) (out++[u]++[x]) true (by omega) zhG (by omega);exact ⟨outZ,doneZ,qZ,xZ,fun R hg=>zab (wklN (p_2++[sb h6,sqx (AllLen [[sv x.fst,sv x.snd]] 2∧(List.map Lk.cells out++[[sv u.fst,sv u.snd]]).length=(List.map Lk.cells out++[[sv u.fst,sv u.snd]]).length∧(((List.map Lk.cells out++[[sv u.fst,sv u.snd]]).length+[[sv x.fst,sv x.snd]].length) * 32).le 140737488355328),si hw]) [3,5,6,9,10,11] 2 [(.bl 6,2)] kr (zao (show ([(3,AV.p 0 0),(5,AV.own 1 (List.map Lk.cells out++[[sv u.fst,sv u.snd]]++[[sv x.fst,sv x.snd]]).length),(6,bv true),(9,AV.sl (List.map Lk.cells l)),(10,iv (↑(List.map Lk.cells l).length:Int)),(11,iv (↑(i+1):Int))]:TS)=[(3,AV.p 0 0),(5,AV.own 1 (out++[u]++[x]).length),(6,bv true),(9,AV.sl (List.map Lk.cells l)),(10,iv (↑(List.map Lk.cells l).length:Int)),(11,iv (↑(i+1):Int))] by first|rfl|(simp;done)|(simp [X.cells,Qy.cells,V.cells,Col.cells,Rw.cells,Tb.cells,Fr.cells,Sch.cells,Tp.cells,Pl.cells,xCol,xLit,xBin,xNeg,Im.cells,Lk.cells,Ac.cells,Se.cells,Tg.cells,Rk.cells];done)) (show ([Blk.box [sv u.fst,sv u.snd],Blk.row Ty.Link (List.map Lk.cells out++[[sv u.fst,sv u.snd]]++[[sv x.fst,sv x.snd]]) false]:Heap)=[Blk.box [sv u.fst,sv u.snd],Blk.row Ty.Link (List.map Lk.cells (out++[u]++[x])) false] by first|rfl|(simp;done)|(simp [X.cells,Qy.cells,V.cells,Col.cells,Rw.cells,Tb.cells,Fr.cells,Sch.cells,Tp.cells,Pl.cells,xCol,xLit,xBin,xNeg,Im.cells,Lk.cells,Ac.cells,Se.cells,Tg.cells,Rk.cells];done)) (gZ R hg)))⟩
theorem zfb (l:List Lk) (u:Lk) (hl:zae l) (hn:l.Nodup):∃ (r:List Lk),InsR l u r∧zac E0 S.ref18_insert [lsl l,u.av] [] (lsl r) []:=by
 obtain ⟨out1,done1,q1,q1_1,g1⟩:=zgR l u zlv zlv 0 ([]) false zlv zlv
 cases h2:!done1
 ·exact ⟨out1,(by first|exact InsI.done (And.left (by assumption)) (by assumption)|exact InsI.end_ (And.left (by assumption)) (by assumption)),wkcN At.ref18_insert [] [3,5,6,9,10,11] 1 [(.bl 6,1),(.ot 5 Ty.Link,2)] kr (g1 _ (zab (wkr [sqx (out1.length=(List.map Lk.cells out1).length),sb q1_1,sb h2] kr)))⟩
 ·exact ⟨out1++[u],(by first|exact InsI.done (And.left (by assumption)) (by assumption)|exact InsI.end_ (And.left (by assumption)) (by assumption)),wkcN At.ref18_insert [] [3,5,6,9,10,11] 1 [(.bl 6,1),(.ot 5 Ty.Link,2)] kr (g1 _ (zab (wkrS (y:=AV.sl (List.map Lk.cells out1++[[sv u.fst,sv u.snd]])) (H:=[]) [sqx ((List.map Lk.cells out1++[[sv u.fst,sv u.snd]]).length=(List.map Lk.cells out1++[[sv u.fst,sv u.snd]]).length),sb q1_1,sb h2,sqx (AllLen [[sv u.fst,sv u.snd]] 2∧out1.length=(List.map Lk.cells out1).length∧(((List.map Lk.cells out1).length+[[sv u.fst,sv u.snd]].length) * 32).le 140737488355328)] kr ⟨by first|rfl|(simp;done)|(simp [X.cells,Qy.cells,V.cells,Col.cells,Rw.cells,Tb.cells,Fr.cells,Sch.cells,Tp.cells,Pl.cells,xCol,xLit,xBin,xNeg,Im.cells,Lk.cells,Ac.cells,Se.cells,Tg.cells,Rk.cells];done),by first|rfl|(simp;done)|(simp [X.cells,Qy.cells,V.cells,Col.cells,Rw.cells,Tb.cells,Fr.cells,Sch.cells,Tp.cells,Pl.cells,xCol,xLit,xBin,xNeg,Im.cells,Lk.cells,Ac.cells,Se.cells,Tg.cells,Rk.cells];done)⟩)))⟩
noncomputable def L_cl (l:List Lk):Cfg:=zaw B.ref18_closure 0 [(0,lsl l)] []
abbrev zdX (N:List Str) (l out:List Lk):Prop:=LkN N out∧∀ z∈l,z∈out
theorem zdX.short {N:List Str} {l out:List Lk} (h:zdX N l out) (hN:N.length≤1000):zae out:=by
 have h1:=h.1.len
 have h2:=Nat.mul_le_mul hN hN
 simp only [zae];omega
theorem zdX.ins {N:List Str} {l out:List Lk} {a b:Lk} {i j:Nat} {r:List Lk} (h:zdX N l out) (hl:LkN N l) (hx:l[i]?=some a) (hy:l[j]?=some b) (hr:InsR out ⟨a.fst,b.snd⟩ r):zdX N l r :=
 ⟨hr.lk h.1 (hl.mem a (List.mem_of_getElem? hx)).1 (hl.mem b (List.mem_of_getElem? hy)).2,fun z hz=>hr.sup z (h.2 z hz)⟩
noncomputable def L_clI (l:List Lk) (N:List Str) (io:Nat) (a:Lk) (i:Nat) (out:List Lk):Cfg:=zaw B.ref18_closure 2 [(0,lsl l),(3,lsl out),(5,.p 0 0),(9,lsl l),(10,iv ((l.map Lk.cells).length:Nat)),(11,iv (io:Nat)),(15,lsl l),(16,iv ((l.map Lk.cells).length:Nat)),(17,iv (i:Nat))] [.box a.cells]
theorem zgj (l:List Lk) (N:List Str) (io:Nat) (a:Lk) (hN:N.length≤1000) (h:LkN N l) (hs:zae l) (ha:l[io]?=some a) (i:Nat) (out:List Lk) (hi:i≤(l).length) (hI:zdX N l out):∃ (out':List Lk),(zdX N l out')∧(decide ((((l).length:Nat):Int) < (((l.map Lk.cells).length:Nat):Int))=false)∧∀ R,Good E0 B.ref18_closure [] (L_clI l N io a (l).length out') R→Good E0 B.ref18_closure [] (L_clI l N io a i out) R:=by
 obtain ⟨kk,hk⟩:∃ kk,i+kk=(l).length:=⟨(l).length - i,by omega⟩
 induction kk generalizing i out with
 | zero =>
  have e0:i=(l).length:=by omega
  subst e0
  exact ⟨out,hI,by simp,fun R hg=>hg⟩
 | succ kk ih =>
  obtain ⟨x,hx⟩:=zay (l:=l) (i:=i) (by omega)
  have h0:decide (((i:Nat):Int) < (((l.map Lk.cells).length:Nat):Int))=true:=by simp;omega
  have hw:IntKind.i64.wrap (((i:Nat):Int)+1)=((i+1:Nat):Int):=zas i zhu
  have hol:=hI.short hN;have hon:=hI.1.nd
  let p_1:List St:=[sb h0,se (zaj Lk.cells hx rfl)]
  cases h1:ByteArray.toList a.snd==ByteArray.toList x.fst
  ·obtain ⟨outZ,qZ,xZ,gZ⟩:=ih (i+1) out (by omega) (by first|exact hI|exact hI.ins h ha hx (by assumption)) (by omega);exact ⟨outZ,qZ,xZ,fun R hg=>zab (wkl (p_1++[sb h1,si hw]) [0,3,5,9,10,11,15,16,17] 1 kr (gZ R hg))⟩
  ·obtain ⟨r2,q2,c2⟩:=(zfb out (Lk.mk a.fst x.snd) zb3 zb3)
   obtain ⟨outZ,qZ,xZ,gZ⟩:=ih (i+1) r2 (by omega) (by first|exact hI|exact hI.ins h ha hx (by assumption)) (by omega);exact ⟨outZ,qZ,xZ,fun R hg=>zab (wkl (p_1++[sb h1,sc c2,si hw]) [0,3,5,9,10,11,15,16,17] 1 kr (gZ R hg))⟩
noncomputable def L_clO (l:List Lk) (N:List Str) (i:Nat) (out:List Lk):Cfg:=zaw B.ref18_closure 1 [(0,lsl l),(3,lsl out),(9,lsl l),(10,iv ((l.map Lk.cells).length:Nat)),(11,iv (i:Nat))] []
theorem zf0 (l:List Lk) (N:List Str) (hN:N.length≤1000) (h:LkN N l) (hs:zae l) (i:Nat) (out:List Lk) (hi:i≤(l).length) (hI:zdX N l out):∃ (out':List Lk),(zdX N l out')∧(decide ((((l).length:Nat):Int) < (((l.map Lk.cells).length:Nat):Int))=false)∧∀ R,Good E0 B.ref18_closure [] (L_clO l N (l).length out') R→Good E0 B.ref18_closure [] (L_clO l N i out) R:=by
 obtain ⟨kk,hk⟩:∃ kk,i+kk=(l).length:=⟨(l).length - i,by omega⟩
 induction kk generalizing i out with
 | zero =>
  have e0:i=(l).length:=by omega
  subst e0
  exact ⟨out,hI,by simp,fun R hg=>hg⟩
 | succ kk ih =>
  obtain ⟨x,hx⟩:=zay (l:=l) (i:=i) (by omega)
  have h0:decide (((i:Nat):Int) < (((l.map Lk.cells).length:Nat):Int))=true:=by simp;omega
  have hw:IntKind.i64.wrap (((i:Nat):Int)+1)=((i+1:Nat):Int):=zas i zhu
  obtain ⟨out1,q1,q1_1,g1⟩:=zgj l N i x hN zb3 zb3 zb3 0 out zb3 zb3
  obtain ⟨outZ,qZ,xZ,gZ⟩:=ih (i+1) out1 (by omega) zgE (by omega);exact ⟨outZ,qZ,xZ,fun R hg=>zab (wkl [sb h0,se (zaj Lk.cells hx rfl)] [0,3,5,9,10,11,15,16,17] 1 kr (g1 _ (zab (wkl [sb q1_1,si hw] [0,3,9,10,11] 0 kr (gZ R hg)))))⟩
theorem zhw (l:List Lk) (N:List Str) (hN:N.length≤1000) (h:LkN N l) (hs:zae l) (ihl:∀ l':List Lk,zdX N l l'→(((((l'.map Lk.cells).length:Nat):Int)==(((l.map Lk.cells).length:Nat):Int))=false)→∃ r,LkN N r∧Good E0 B.ref18_closure [] (L_cl l') (Shut 0 fun rZ hZ=>rZ=lsl r∧hZ=[])):∃ (r:List Lk),LkN N r∧Good E0 B.ref18_closure [] (zlq (L_cl l)) (Shut 0 fun rZ hZ=>rZ=(lsl r)∧hZ=[]):=by
  obtain ⟨out1,q1,q1_1,g1⟩:=zf0 l N hN zhE zhE 0 l zhE zhE
  cases h2:(↑(List.map Lk.cells out1).length:Int)==(↑(List.map Lk.cells l).length:Int)
  ·obtain ⟨r3_0,p3_0,g3⟩:=ihl out1 zhE zhE
   exact ⟨r3_0,(by first|assumption|exact And.left (by assumption)),wkl [] [0,3,9,10,11] 0 kr (g1 _ (zab (wkl [sb q1_1,sb h2] [0] 0 kr g3)))⟩
  ·exact ⟨out1,(by first|assumption|exact And.left (by assumption)),wkl [] [0,3,9,10,11] 0 kr (g1 _ (zab (wkr [sb q1_1,sb h2] kr)))⟩
theorem zgh (N:List Str) (hN:N.length≤1000):∀ (k:Nat) (l:List Lk),N.length * N.length - l.length≤k→LkN N l→∃ r,LkN N r∧Good E0 B.ref18_closure [] (L_cl l) (Shut 0 fun rZ hZ=>rZ=lsl r∧hZ=[]):=by
 intro k
 induction k with
 | zero =>
  intro l hk h
  have hs:zae l:=zdX.short (N:=N) (l:=l) ⟨h,fun _ hz=>hz⟩ hN
  obtain ⟨r,hr,hg⟩:=zhw l N hN h hs fun l' h' hne=>by
   exfalso
   have h1:=zfM l l' h.nd h'.2
   have h2:=h'.1.len
   simp only [List.length_map,beq_eq_false_iff_ne,ne_eq,Int.natCast_inj] at hne
   omega
  exact ⟨r,hr,zab hg⟩
 | succ k ih =>
  intro l hk h
  have hs:zae l:=zdX.short (N:=N) (l:=l) ⟨h,fun _ hz=>hz⟩ hN
  obtain ⟨r,hr,hg⟩:=zhw l N hN h hs fun l' h' hne=>ih l' (by
   have h1:=zfM l l' h.nd h'.2
   have h2:=h'.1.len
   simp only [List.length_map,beq_eq_false_iff_ne,ne_eq,Int.natCast_inj] at hne
   omega) h'.1
  exact ⟨r,hr,zab hg⟩
theorem zly (l:List Lk) (N:List Str) (hN:N.length≤1000) (h:LkN N l):∃ (r:List Lk),LkN N r∧zac E0 S.ref18_closure [lsl l] [] (lsl r) []:=by
 obtain ⟨r1_0,p1_0,g1⟩:=zgh N hN (?k) l (by first|assumption|exact Nat.le_refl _) (by first|assumption|exact Nat.le_refl _)
 exact ⟨r1_0,(by first|assumption|trivial|(simp;done)|omega|(simp;omega)|(simp at *;omega)),wkc At.ref18_closure [] [0] 0 kr (g1)⟩
end Go.AM
namespace Go.AM
set_option maxRecDepth 100000
set_option maxHeartbeats 1000000
set_option linter.unusedSimpArgs false
set_option linter.unusedVariables false
theorem zc7 {p:Prop} (h:p:=by first|assumption|omega|exact LkN.short (by assumption) hN):p:=h
theorem zk2 {p:Prop} (h:p:=by first|assumption|omega|(simp;done)|(simp;omega)):p:=h
theorem zmL (N:List Str):LkN N []:=⟨by simp,by simp⟩
theorem LkN.short {N:List Str} {l:List Lk} (h:LkN N l) (hN:N.length≤1000):zae l:=by
 have h1:=h.len
 have h2:=Nat.mul_le_mul hN hN
 simp only [zae];omega
noncomputable def zhc (l:List Lk) (n:Str) (ps fs:List Str) (N:List Str) (i:Nat) (out:List Lk):Cfg:=zaw B.ref18_Add 0 [(1,sv n),(3,ssl fs),(10,lsl out),(20,ssl ps),(21,iv ((ps.map zaU).length:Nat)),(22,iv (i:Nat))] [.row Ty.Link (l.map Lk.cells) true]
theorem zhM (l:List Lk) (n:Str) (ps fs:List Str) (N:List Str) (hN:N.length≤1000) (hn:n∈N) (hp:zae ps) (hps:∀ s∈ps,s∈N) (i:Nat) (out:List Lk) (hi:i≤(ps).length) (hI:LkN N out):∃ (out':List Lk),(LkN N out')∧(decide ((((ps).length:Nat):Int) < (((ps.map zaU).length:Nat):Int))=false)∧∀ R,Good E0 B.ref18_Add [] (zhc l n ps fs N (ps).length out') R→Good E0 B.ref18_Add [] (zhc l n ps fs N i out) R:=by
 obtain ⟨kk,hk⟩:∃ kk,i+kk=(ps).length:=⟨(ps).length - i,by omega⟩
 induction kk generalizing i out with
 | zero =>
  have e0:i=(ps).length:=by omega
  subst e0
  exact ⟨out,hI,by simp,fun R hg=>hg⟩
 | succ kk ih =>
  obtain ⟨x,hx⟩:=zay (l:=ps) (i:=i) (by omega)
  have h0:decide (((i:Nat):Int) < (((ps.map zaU).length:Nat):Int))=true:=by simp;omega
  have hw:IntKind.i64.wrap (((i:Nat):Int)+1)=((i+1:Nat):Int):=zas i (by first|omega|(simp only [zae,Few] at *;omega))
  have hol:=hI.short hN;have hon:=hI.nd
  obtain ⟨r1,q1,c1⟩:=(zfb out (Lk.mk n x) zk2 zk2)
  obtain ⟨outZ,qZ,xZ,gZ⟩:=ih (i+1) r1 (by omega) (by exact InsR.lk (by assumption) hI hn (hps _ (List.mem_of_getElem? hx))) (by omega);exact ⟨outZ,qZ,xZ,fun R hg=>zab (wkl [sb h0,se (zaj (fun s=>[sv s]) hx rfl),sc c1,si hw] [1,3,10,20,21,22] 1 kr (gZ R hg))⟩
noncomputable def L_adF (l:List Lk) (n:Str) (fs:List Str) (N:List Str) (i:Nat) (out:List Lk):Cfg:=zaw B.ref18_Add 1 [(1,sv n),(10,lsl out),(32,ssl fs),(33,iv ((fs.map zaU).length:Nat)),(34,iv (i:Nat))] [.row Ty.Link (l.map Lk.cells) true]
theorem zh4 (l:List Lk) (n:Str) (fs:List Str) (N:List Str) (hN:N.length≤1000) (hn:n∈N) (hf:zae fs) (hfs:∀ s∈fs,s∈N) (i:Nat) (out:List Lk) (hi:i≤(fs).length) (hI:LkN N out):∃ (out':List Lk),(LkN N out')∧(decide ((((fs).length:Nat):Int) < (((fs.map zaU).length:Nat):Int))=false)∧∀ R,Good E0 B.ref18_Add [] (L_adF l n fs N (fs).length out') R→Good E0 B.ref18_Add [] (L_adF l n fs N i out) R:=by
 obtain ⟨kk,hk⟩:∃ kk,i+kk=(fs).length:=⟨(fs).length - i,by omega⟩
 induction kk generalizing i out with
 | zero =>
  have e0:i=(fs).length:=by omega
  subst e0
  exact ⟨out,hI,by simp,fun R hg=>hg⟩
 | succ kk ih =>
  obtain ⟨x,hx⟩:=zay (l:=fs) (i:=i) (by omega)
  have h0:decide (((i:Nat):Int) < (((fs.map zaU).length:Nat):Int))=true:=by simp;omega
  have hw:IntKind.i64.wrap (((i:Nat):Int)+1)=((i+1:Nat):Int):=zas i (by first|omega|(simp only [zae,Few] at *;omega))
  have hol:=hI.short hN;have hon:=hI.nd
  obtain ⟨r1,q1,c1⟩:=(zfb out (Lk.mk x n) zk2 zk2)
  obtain ⟨outZ,qZ,xZ,gZ⟩:=ih (i+1) r1 (by omega) (by exact InsR.lk (by assumption) hI (hfs _ (List.mem_of_getElem? hx)) hn) (by omega);exact ⟨outZ,qZ,xZ,fun R hg=>zab (wkl [sb h0,se (zaj (fun s=>[sv s]) hx rfl),sc c1,si hw] [1,10,32,33,34] 1 kr (gZ R hg))⟩
theorem zoi (l:List Lk) (n:Str) (ps fs:List Str) (N:List Str) (hN:N.length≤1000) (h:LkN N l) (hl:zae l) (hn:n∈N) (hp:zae ps) (hf:zae fs) (hps:∀ s∈ps,s∈N) (hfs:∀ s∈fs,s∈N):∃ (r:List Lk) (e:Int),LkN N r∧zac E0 S.ref18_Add [lsl l,sv n,ssl ps,ssl fs] [] (.tup [lsl r,iv e]) []:=by
 obtain ⟨r1,c1⟩:=(ziJ l zc7)
 cases h2:!r1
 ·obtain ⟨out3,q3,q3_1,g3⟩:=zhM l n ps fs N hN zc7 zc7 zc7 0 l zc7 zc7
  obtain ⟨out4,q4,q4_1,g4⟩:=zh4 l n fs N hN zc7 zc7 zc7 0 out3 zc7 zc7
  obtain ⟨r5,q5,c5⟩:=(zly out4 N hN zc7)
  obtain ⟨r6,c6⟩:=(ziJ r5 zc7)
  cases h7:!r6
  ·exact ⟨r5,0,by first|exact zmL N|assumption,wkc At.ref18_Add (c':=(Cfg.mk (zhc l n ps fs N 0 l).n (zhc l n ps fs N 0 l).todo [(1,sv n),(3,AV.sl (List.map (fun s=>[sv s]) fs)),(10,AV.own 0 (List.map Lk.cells l).length),(20,AV.sl (List.map (fun s=>[sv s]) ps)),(21,iv (↑(List.map (fun s=>[sv s]) ps).length:Int)),(22,iv 0)] [Blk.row Ty.Link (List.map Lk.cells l) false])) [sc c1,sb h2,sqx (AllLen (List.map Lk.cells l) 2∧((List.map Lk.cells l).length * 32).le 140737488355328)] [1,3,10,20,21,22] 1 kr (zfu (c':=zhc l n ps fs N 0 l) (v:=AV.own 0 (List.map Lk.cells l).length) (q:=(List.map Lk.cells l).length=(List.map Lk.cells l).length) 10 [1,3,10,20,21,22] 1 kr kr owed kr kr (g3 _ (zab (wkl [sb q3_1] [1,10,32,33,34] 1 kr (g4 _ (zab (wkr [sb q4_1,sc c5,sc c6,sb h7] kr)))))))⟩
  ·exact ⟨[],13,by first|exact zmL N|assumption,wkc At.ref18_Add (c':=(Cfg.mk (zhc l n ps fs N 0 l).n (zhc l n ps fs N 0 l).todo [(1,sv n),(3,AV.sl (List.map (fun s=>[sv s]) fs)),(10,AV.own 0 (List.map Lk.cells l).length),(20,AV.sl (List.map (fun s=>[sv s]) ps)),(21,iv (↑(List.map (fun s=>[sv s]) ps).length:Int)),(22,iv 0)] [Blk.row Ty.Link (List.map Lk.cells l) false])) [sc c1,sb h2,sqx (AllLen (List.map Lk.cells l) 2∧((List.map Lk.cells l).length * 32).le 140737488355328)] [1,3,10,20,21,22] 1 kr (zfu (c':=zhc l n ps fs N 0 l) (v:=AV.own 0 (List.map Lk.cells l).length) (q:=(List.map Lk.cells l).length=(List.map Lk.cells l).length) 10 [1,3,10,20,21,22] 1 kr kr owed kr kr (g3 _ (zab (wkl [sb q3_1] [1,10,32,33,34] 1 kr (g4 _ (zab (wkr [sb q4_1,sc c5,sc c6,sb h7] kr)))))))⟩
 ·exact ⟨[],17,by first|exact zmL N|assumption,wk At.ref18_Add [sc c1,sb h2] kr⟩
end Go.AM
namespace Go.AM
set_option maxRecDepth 100000
noncomputable def litC (fn:Func) (n:Nat):Cfg:=(upto (mk E0) (List.range 40) 0 n ⟨fn.ntmps,[.code (fn.body.getD .skip)],zb6 0 [],[]⟩ []).2
theorem lit_at:zmE E0 (litC B.world_Schemas 21)=some (Ty.Schema,3,(zan.map Sch.cells).flatten):=by kernel_rfl
theorem lit_h:(litC B.world_Schemas 21).h=[]:=by kernel_rfl
theorem lit_b:frzB [] (zan.map Sch.cells).flatten=none:=by kernel_rfl
theorem lit_m:zbY (zan.map Sch.cells).flatten=[]:=by kernel_rfl
theorem lit_c:zcs (E0.T Ty.Schema).size 3 (frzL [] (zan.map Sch.cells).flatten)=zan.map Sch.cells:=by kernel_rfl
theorem lit_up:upto (mk E0) (List.range 40) 0 21 ⟨(B.world_Schemas).ntmps,[.code ((B.world_Schemas).body.getD .skip)],zb6 0 [],[]⟩ (orcs [])=(zbH [],litC B.world_Schemas 21):=by kernel_rfl
theorem zrX:finK (mk E0) B.world_Schemas 3000 (zhV (litC B.world_Schemas 21) Ty.Schema 3 (zan.map Sch.cells)) (orcs [])=some (zbH [],AV.own 0 3,[Blk.row Ty.Schema (zan.map Sch.cells) false]):=by kernel_rfl
theorem zrf:B.world_Schemas.body=some (B.world_Schemas.body.getD .skip):=by kernel_rfl
theorem zqX : (B.world_Schemas.name == "runtime.NumGoroutine") = false := by kernel_rfl
theorem litAll {f : FuncId} {fn : Func} {y : AV} {H : Heap} {c : Cfg} {e : TypeId} {n N : Nat} {cs : List AV} {xs : List (List AV)} (hf : E0.P.funcs[f]? = some fn) (hb : fn.body = some (fn.body.getD .skip)) (hname : (fn.name == "runtime.NumGoroutine") = false)
  (hu:upto (mk E0) (List.range 40) 0 N ⟨fn.ntmps,[.code (fn.body.getD .skip)],zb6 0 [],[]⟩ (orcs [])=(zbH [],c))
  (h1:zmE E0 c=some (e,n,cs)) (h2:0 < n) (h3:c.h=[]) (h4:frzB [] cs=none) (h5:zbY cs=[]) (h6:zcs (E0.T e).size n (frzL [] cs)=xs)
  (he:finK (mk E0) fn 3000 (zhV c e n xs) (orcs [])=some (zbH [],y,H)):zac E0 f [] [] y H:=by
 refine za4 hf hb hname (by simp) ?_
 refine zcT E0ok mix0 N [] (List.range 40) 0 rfl hu ?_
 refine zri E0ok h1 h2 (by rw [h3];exact h4) h5 ?_
 rw [h3,h6]
 exact zct E0ok mix0 3000 [] he ⟨rfl,rfl⟩
theorem zj8:zac E0 S.world_Schemas [] [] (.own 0 3) [.row Ty.Schema (zan.map Sch.cells) false] :=
 @litAll S.world_Schemas B.world_Schemas (.own 0 3) [Blk.row Ty.Schema (zan.map Sch.cells) false] (litC B.world_Schemas 21) Ty.Schema 3 21 (zan.map Sch.cells).flatten (zan.map Sch.cells) At.world_Schemas zrf zqX lit_up lit_at (by decide) lit_h lit_b lit_m lit_c zrX
end Go.AM
namespace Go.AM
set_option maxRecDepth 100000
set_option maxHeartbeats 1000000
set_option linter.unusedSimpArgs false
set_option linter.unusedVariables false
theorem zdL {p:Prop} (h:p:=by first|assumption|omega|(simp;done)|(simp;omega)):p:=h
theorem znw {p:Prop} (h:p:=by first|exact hI|(refine ⟨by simp at *;omega,fun s hs=>?_⟩;simp only [List.mem_append,List.mem_singleton] at hs;rcases hs with hs|rfl;exact hI.2 s hs;exact List.mem_map.2 ⟨x,List.mem_of_getElem? hx,rfl⟩)):p:=h
theorem zk3 {p:Prop} (h:p:=by first|assumption|exact ⟨rfl,by simp⟩|omega):p:=h
def zpE (k:Nat):Str:=([⟨#[116]⟩,⟨#[117]⟩,⟨#[108,111,103]⟩]:List Str).getD k ⟨#[]⟩
theorem zr1 (k:Nat) (h:(k:Int) < 3):ElAt [[sv ⟨#[116]⟩],[sv ⟨#[117]⟩],[sv ⟨#[108,111,103]⟩]] (k:Int) [sv (zpE k)] 1:=by
 have:k=0∨k=1∨k=2:=by omega
 rcases this with rfl|rfl|rfl <;> exact ⟨by decide,rfl,rfl⟩
def TabN (w:Str):Prop:=w=⟨#[116]⟩∨w=⟨#[117]⟩∨w=⟨#[108,111,103]⟩
theorem zsh {k:Nat} (h:(k:Int) < 3):TabN (zpE k):=by
 have:k=0∨k=1∨k=2:=by omega
 rcases this with rfl|rfl|rfl
 ·exact .inl rfl
 ·exact .inr (.inl rfl)
 ·exact .inr (.inr rfl)
theorem zb2 (t:Tp) :∃ (w:Str) (t':Tp),TabN w∧zac E0 S.world_Tape_Table [.p 0 0] [.box t.cells] (sv w) [.box t'.cells]:=by
 obtain ⟨a1,t1,q1,c1⟩:=(zaf t 3 zdL)
 exact ⟨zpE a1,t1,by exact zsh (by omega),wk At.world_Tape_Table [sl [0] c1,se (zr1 a1 zdL)] kr⟩
def schU:Sch:=⟨⟨#[117]⟩,[⟨⟨#[105,100]⟩,1,true,true⟩,⟨⟨#[110]⟩,1,true,false⟩,⟨⟨#[109]⟩,1,false,false⟩]⟩
theorem zrP:zam ⟨#[117]⟩=schU:=by kernel_rfl
theorem zbm {w:Str} (h:TabN w):SchOk (zam w):=by
 rcases h with rfl|rfl|rfl
 ·rw [zr4];exact zsb
 ·rw [zrP];exact zd5 (by simp [zan,schU])
 ·rw [zqz];exact zd5 (by simp [zan,zjG])
noncomputable def L_nm (t0:Tp) (l:List Tg) (i:Nat) (u:Tp) (out:List Str):Cfg:=zaw B.world_Tape_named 0 [(0,.p 0 0),(5,.own 1 out.length),(8,.sl (l.map Tg.cells)),(9,iv ((l.map Tg.cells).length:Nat)),(10,iv (i:Nat))] [.box u.cells,.row Ty.string (out.map zaU) false]
theorem zfJ (t0:Tp) (l:List Tg) (hl:zae l) (i:Nat) (u:Tp) (out:List Str) (hi:i≤(l).length) (hI:out.length≤8∧∀ s∈out,s∈l.map Tg.name):∃ (u':Tp) (out':List Str),(out'.length≤8∧∀ s∈out',s∈l.map Tg.name)∧(decide ((((l).length:Nat):Int) < (((l.map Tg.cells).length:Nat):Int))=false)∧∀ R,Good E0 B.world_Tape_named [.box t0.cells] (L_nm t0 l (l).length u' out') R→Good E0 B.world_Tape_named [.box t0.cells] (L_nm t0 l i u out) R:=by
 obtain ⟨kk,hk⟩:∃ kk,i+kk=(l).length:=⟨(l).length - i,by omega⟩
 induction kk generalizing i u out with
 | zero =>
  have e0:i=(l).length:=by omega
  subst e0
  exact ⟨u,out,hI,by simp,fun R hg=>hg⟩
 | succ kk ih =>
  obtain ⟨x,hx⟩:=zay (l:=l) (i:=i) (by omega)
  have h0:decide (((i:Nat):Int) < (((l.map Tg.cells).length:Nat):Int))=true:=by simp;omega
  have hw:IntKind.i64.wrap (((i:Nat):Int)+1)=((i+1:Nat):Int):=zas i (by first|omega|(simp only [zae,Few] at *;omega))
  obtain ⟨b1,t1,c1⟩:=(zah u 4 zdL)
  rcases (Bool.eq_false_or_eq_true b1).symm with h2|h2
  ·obtain ⟨uZ,outZ,qZ,xZ,gZ⟩:=ih (i+1) t1 out (by omega) znw (by omega);exact ⟨uZ,outZ,qZ,xZ,fun R hg=>zab (wkl [sb h0,se (zaj Tg.cells hx rfl),sl [0] c1,sb h2,si hw] [0,5,8,9,10] 2 kr (gZ R hg))⟩
  ·cases h3:decide ((out.length:Int) < 8)
   ·obtain ⟨uZ,outZ,qZ,xZ,gZ⟩:=ih (i+1) t1 out (by omega) znw (by omega);exact ⟨uZ,outZ,qZ,xZ,fun R hg=>zab (wkl [sb h0,se (zaj Tg.cells hx rfl),sl [0] c1,sg h2,sqx (out.length=(List.map zaU out).length),sb h3,si hw] [0,5,8,9,10] 2 kr (gZ R hg))⟩
   ·obtain ⟨uZ,outZ,qZ,xZ,gZ⟩:=ih (i+1) t1 (out++[x.name]) (by omega) znw (by omega);exact ⟨uZ,outZ,qZ,xZ,fun R hg=>zab (wkl (c':=(Cfg.mk (L_nm t0 l (i+1) t1 (out++[x.name])).n (L_nm t0 l (i+1) t1 (out++[x.name])).todo [(0,AV.p 0 0),(5,AV.own 1 (List.map zaU out++[[sv x.name]]).length),(8,AV.sl (List.map Tg.cells l)),(9,iv (↑(List.map Tg.cells l).length:Int)),(10,iv (↑(i+1):Int))] [Blk.box [AV.sl (List.map (fun n=>[iv n]) t1.l),iv (t1.pos:Int)],Blk.row Ty.string (List.map zaU out++[[sv x.name]]) false])) [sb h0,se (zaj Tg.cells hx rfl),sl [0] c1,sg h2,sqx (out.length=(List.map zaU out).length),sb h3,sqx (AllLen [[sv x.name]] 1∧out.length=(List.map zaU out).length∧(((List.map zaU out).length+[[sv x.name]].length) * 16).le 140737488355328),si hw] [0,5,8,9,10] 2 kr (zao (show ([(0,AV.p 0 0),(5,AV.own 1 (List.map zaU out++[[sv x.name]]).length),(8,AV.sl (List.map Tg.cells l)),(9,iv (↑(List.map Tg.cells l).length:Int)),(10,iv (↑(i+1):Int))]:TS)=[(0,AV.p 0 0),(5,AV.own 1 (out++[x.name]).length),(8,AV.sl (List.map Tg.cells l)),(9,iv (↑(List.map Tg.cells l).length:Int)),(10,iv (↑(i+1):Int))] by first|rfl|(simp;done)|(simp [X.cells,Qy.cells,V.cells,Col.cells,Rw.cells,Tb.cells,Fr.cells,Sch.cells,Tp.cells,Pl.cells,xCol,xLit,xBin,xNeg,Im.cells,Lk.cells,Ac.cells,Se.cells,Tg.cells,Rk.cells];done)) (show ([Blk.box [AV.sl (List.map (fun n=>[iv n]) t1.l),iv (t1.pos:Int)],Blk.row Ty.string (List.map zaU out++[[sv x.name]]) false]:Heap)=[Blk.box t1.cells,Blk.row Ty.string (List.map zaU (out++[x.name])) false] by first|rfl|(simp;done)|(simp [X.cells,Qy.cells,V.cells,Col.cells,Rw.cells,Tb.cells,Fr.cells,Sch.cells,Tp.cells,Pl.cells,xCol,xLit,xBin,xNeg,Im.cells,Lk.cells,Ac.cells,Se.cells,Tg.cells,Rk.cells];done)) (gZ R hg)))⟩
theorem zb0 (t:Tp) (l:List Tg) (hl:zae l):∃ (r:List Str) (t':Tp),(r.length≤8∧∀ s∈r,s∈l.map Tg.name)∧zac E0 S.world_Tape_named [.p 0 0,.sl (l.map Tg.cells)] [.box t.cells] (ssl r) [.box t'.cells]:=by
 obtain ⟨u1,out1,q1,q1_1,g1⟩:=zfJ t l (by first|assumption|omega|exact ⟨by simp,by simp⟩) 0 t ([]) (by first|assumption|omega|exact ⟨by simp,by simp⟩) (by first|assumption|omega|exact ⟨by simp,by simp⟩)
 exact ⟨out1,u1,by first|assumption|trivial|(simp;done)|omega|(simp;omega)|(simp at *;omega),wkc At.world_Tape_named (c':=(Cfg.mk (L_nm t l 0 t []).n (L_nm t l 0 t []).todo [(0,AV.p 0 0),(5,AV.nl),(8,AV.sl (List.map Tg.cells l)),(9,iv (↑(List.map Tg.cells l).length:Int)),(10,iv 0)] [Blk.box [AV.sl (List.map (fun n=>[iv n]) t.l),iv (t.pos:Int)]])) [] [0,5,8,9,10] 1 kr (za6 (c':=L_nm t l 0 t []) 5 Ty.string [0,5,8,9,10] 2 kr kr kr (g1 _ (zab (wkr [sqx (out1.length=(List.map zaU out1).length),sb q1_1] kr))))⟩
noncomputable def L_sv (s:Sch) (i:Nat) (keys:Int):Cfg:=zaw B.ref4_Valid 0 [(1,.p 0 0),(3,iv keys),(23,.sl (s.cols.map Col.cells)),(24,iv ((s.cols.map Col.cells).length:Nat)),(25,iv (i:Nat))] [.box s.cells]
theorem zh2 (s:Sch) (h:zae s.cols) (i:Nat) (keys:Int) (hi:i≤(s.cols).length) (hI:True):(∃ (keys':Int),(True)∧(decide ((((s.cols).length:Nat):Int) < (((s.cols.map Col.cells).length:Nat):Int))=false)∧∀ R,Good E0 B.ref4_Valid [] (L_sv s (s.cols).length keys') R→Good E0 B.ref4_Valid [] (L_sv s i keys) R)∨(∃ (r:Bool),Good E0 B.ref4_Valid [] (L_sv s i keys) (Shut 0 fun rZ hZ=>rZ=(bv r)∧hZ=[])):=by
 obtain ⟨kk,hk⟩:∃ kk,i+kk=(s.cols).length:=⟨(s.cols).length - i,by omega⟩
 induction kk generalizing i keys hI with
 | zero =>
  have e0:i=(s.cols).length:=by omega
  subst e0
  exact .inl ⟨keys,hI,by simp,fun R hg=>hg⟩
 | succ kk ih =>
  obtain ⟨x,hx⟩:=zay (l:=s.cols) (i:=i) (by omega)
  have h0:decide (((i:Nat):Int) < (((s.cols.map Col.cells).length:Nat):Int))=true:=by simp;omega
  have hw:IntKind.i64.wrap (((i:Nat):Int)+1)=((i+1:Nat):Int):=zas i (by first|omega|(simp only [zae,Few] at *;omega))
  obtain ⟨r1,c1⟩:=(zax x.name)
  cases h2:!r1
  ·cases h3:decide (x.type < 1)
   ·cases h4:decide (3 < x.type)
    ·cases h5:x.key
     ·obtain ⟨r6,q6,c6⟩:=(zdo s x.name zdL)
      cases h7:r6 != (i:Int)
      ·exact (ih (i+1) keys (by omega) (by first|trivial|assumption|(simp;done)|omega|(simp;omega)|(simp at *;omega)) (by omega)).elim (fun ⟨keysZ,qZ,xZ,gZ⟩=>.inl ⟨keysZ,qZ,xZ,fun R hg=>zab (wkl [sb h0,se (zaj Col.cells hx rfl),sc c1,sg h2,sg h3,sg h4,sb h5,sc c6,sb h7,sb h5,si hw] [1,3,23,24,25] 1 kr (gZ R hg))⟩) (fun ⟨rY,gZ⟩=>.inr ⟨rY,zab (wkl [sb h0,se (zaj Col.cells hx rfl),sc c1,sg h2,sg h3,sg h4,sb h5,sc c6,sb h7,sb h5,si hw] [1,3,23,24,25] 1 kr gZ)⟩)
      ·exact .inr ⟨false,zab (wkr [sb h0,se (zaj Col.cells hx rfl),sc c1,sg h2,sg h3,sg h4,sb h5,sc c6,sb h7] kr)⟩
     ·cases h8:!x.notNull
      ·obtain ⟨r9,q9,c9⟩:=(zdo s x.name zdL)
       cases h10:r9 != (i:Int)
       ·exact (ih (i+1) (IntKind.i64.wrap (keys+1)) (by omega) (by first|trivial|assumption|(simp;done)|omega|(simp;omega)|(simp at *;omega)) (by omega)).elim (fun ⟨keysZ,qZ,xZ,gZ⟩=>.inl ⟨keysZ,qZ,xZ,fun R hg=>zab (wkl [sb h0,se (zaj Col.cells hx rfl),sc c1,sg h2,sg h3,sg h4,sg h5,sg h8,sc c9,sb h10,sb h5,si (e:=IntKind.i64.wrap (keys+1)) rfl,si hw] [1,3,23,24,25] 1 kr (gZ R hg))⟩) (fun ⟨rY,gZ⟩=>.inr ⟨rY,zab (wkl [sb h0,se (zaj Col.cells hx rfl),sc c1,sg h2,sg h3,sg h4,sg h5,sg h8,sc c9,sb h10,sb h5,si (e:=IntKind.i64.wrap (keys+1)) rfl,si hw] [1,3,23,24,25] 1 kr gZ)⟩)
       ·exact .inr ⟨false,zab (wkr [sb h0,se (zaj Col.cells hx rfl),sc c1,sg h2,sg h3,sg h4,sg h5,sg h8,sc c9,sb h10] kr)⟩
      ·exact .inr ⟨false,zab (wkr [sb h0,se (zaj Col.cells hx rfl),sc c1,sg h2,sg h3,sg h4,sg h5,sb h8] kr)⟩
    ·exact .inr ⟨false,zab (wkr [sb h0,se (zaj Col.cells hx rfl),sc c1,sg h2,sg h3,sb h4] kr)⟩
   ·exact .inr ⟨false,zab (wkr [sb h0,se (zaj Col.cells hx rfl),sc c1,sg h2,sb h3] kr)⟩
  ·exact .inr ⟨false,zab (wkr [sb h0,se (zaj Col.cells hx rfl),sc c1,sb h2] kr)⟩
theorem znm (s:Sch) (h:zae s.cols):∃ (r:Bool),zac E0 S.ref4_Valid [s.av] [] (bv r) []:=by
 obtain ⟨r1,c1⟩:=(zax s.name)
 cases h2:!r1
 ·cases h3:decide ((↑(List.map Col.cells s.cols).length:Int) < 1)
  ·cases h4:decide (6 < (↑(List.map Col.cells s.cols).length:Int))
   ·rcases zh2 s zdL 0 0 zdL zdL with ⟨keys5,q5,q5_1,g5⟩|⟨r5_0,g5⟩
    ·exact ⟨decide (keys5≤(1:Int)),wkc At.ref4_Valid [sc c1,sg h2,sg h3,sb h4] [1,3,23,24,25] 1 kr (g5 _ (zab (wkr [sb q5_1] kr)))⟩
    ·exact ⟨r5_0,wkc At.ref4_Valid [sc c1,sg h2,sg h3,sb h4] [1,3,23,24,25] 1 kr (g5)⟩
   ·exact ⟨false,wk At.ref4_Valid [sc c1,sg h2,sg h3,sb h4] kr⟩
  ·exact ⟨false,wk At.ref4_Valid [sc c1,sg h2,sb h3] kr⟩
 ·exact ⟨false,wk At.ref4_Valid [sc c1,sb h2] kr⟩
abbrev Bare (x:Tb):Prop:=x.rows=[]∧zae x.sch.cols
theorem zpb (s:Sch) (h:zae s.cols):∃ (x:Tb) (e:Int),Bare x∧zac E0 S.ref6_New [s.av] [] (.tup [x.av,iv e]) []:=by
 obtain ⟨r1,c1⟩:=(znm s zdL)
 cases h2:!r1
 ·exact ⟨Tb.mk s 1 [],0,by first|exact ⟨rfl,h⟩|exact ⟨rfl,by simp⟩,wk At.ref6_New [sqx ((True∧(List.map Col.cells s.cols).length=(List.map Col.cells s.cols).length∧True∧True∧True)∧True∧True),sc c1,sb h2,sqx (AllLen (List.map Col.cells s.cols) 4∧((List.map Col.cells s.cols).length * 32).le 140737488355328)] kr⟩
 ·exact ⟨Tb.mk (Sch.mk (ByteArray.mk #[]) []) 0 [],17,by first|exact ⟨rfl,h⟩|exact ⟨rfl,by simp⟩,wk At.ref6_New [sc c1,sb h2] kr⟩
noncomputable def L_tb  (i:Nat) (out:List Tb):Cfg:=zaw B.world_tablesOf 0 [(3,.own 0 out.length),(12,.sl (zan.map Sch.cells)),(13,iv ((zan.map Sch.cells).length:Nat)),(14,iv (i:Nat))] [.row Ty.Table (out.map Tb.cells) false]
theorem zge  (hc:∀ s∈zan,zae s.cols) (hs:zae zan) (i:Nat) (out:List Tb) (hi:i≤(zan).length) (hI:out.length=i∧∀ x∈out,Bare x):∃ (out':List Tb),(out'.length=(zan).length∧∀ x∈out',Bare x)∧(decide ((((zan).length:Nat):Int) < (((zan.map Sch.cells).length:Nat):Int))=false)∧∀ R,Good E0 B.world_tablesOf [] (L_tb  (zan).length out') R→Good E0 B.world_tablesOf [] (L_tb  i out) R:=by
 obtain ⟨kk,hk⟩:∃ kk,i+kk=(zan).length:=⟨(zan).length - i,by omega⟩
 induction kk generalizing i out with
 | zero =>
  have e0:i=(zan).length:=by omega
  subst e0
  exact ⟨out,hI,by simp,fun R hg=>hg⟩
 | succ kk ih =>
  obtain ⟨x,hx⟩:=zay (l:=zan) (i:=i) (by omega)
  have h0:decide (((i:Nat):Int) < (((zan.map Sch.cells).length:Nat):Int))=true:=by simp;omega
  have hw:IntKind.i64.wrap (((i:Nat):Int)+1)=((i+1:Nat):Int):=zas i (by first|omega|(simp only [zae,Few] at *;omega))
  have hxs:=hc x (List.mem_of_getElem? hx)
  have hol:out.length≤1000000000:=by have:=hI.1;simp only [zae] at hs;omega
  obtain ⟨x1,e1,q1,c1⟩:=(zpb x zdL)
  obtain ⟨outZ,qZ,xZ,gZ⟩:=ih (i+1) (out++[x1]) (by omega) (by (refine ⟨by simp;omega,fun z hz=>?_⟩;simp only [List.mem_append,List.mem_singleton] at hz;rcases hz with hz|rfl;exact hI.2 z hz;assumption)) (by omega);exact ⟨outZ,qZ,xZ,fun R hg=>zab (wkl (c':=(Cfg.mk (L_tb (i+1) (out++[x1])).n (L_tb (i+1) (out++[x1])).todo [(3,AV.own 0 (List.map Tb.cells out++[[sv x1.sch.name,AV.sl (List.map Col.cells x1.sch.cols),iv x1.next,AV.sl (List.map Rw.cells x1.rows)]]).length),(12,AV.sl (List.map Sch.cells zan)),(13,iv (↑(List.map Sch.cells zan).length:Int)),(14,iv (↑(i+1):Int))] [Blk.row Ty.Table (List.map Tb.cells out++[[sv x1.sch.name,AV.sl (List.map Col.cells x1.sch.cols),iv x1.next,AV.sl (List.map Rw.cells x1.rows)]]) false])) [sb h0,se (zaj Sch.cells hx rfl),sc c1,sqx (AllLen [[sv x1.sch.name,AV.sl (List.map Col.cells x1.sch.cols),iv x1.next,AV.sl (List.map Rw.cells x1.rows)]] 4∧out.length=(List.map Tb.cells out).length∧(((List.map Tb.cells out).length+[[sv x1.sch.name,AV.sl (List.map Col.cells x1.sch.cols),iv x1.next,AV.sl (List.map Rw.cells x1.rows)]].length) * 72).le 140737488355328),si hw] [3,12,13,14] 1 kr (zao (show ([(3,AV.own 0 (List.map Tb.cells out++[[sv x1.sch.name,AV.sl (List.map Col.cells x1.sch.cols),iv x1.next,AV.sl (List.map Rw.cells x1.rows)]]).length),(12,AV.sl (List.map Sch.cells zan)),(13,iv (↑(List.map Sch.cells zan).length:Int)),(14,iv (↑(i+1):Int))]:TS)=[(3,AV.own 0 (out++[x1]).length),(12,AV.sl (List.map Sch.cells zan)),(13,iv (↑(List.map Sch.cells zan).length:Int)),(14,iv (↑(i+1):Int))] by first|rfl|(simp;done)|(simp [X.cells,Qy.cells,V.cells,Col.cells,Rw.cells,Tb.cells,Fr.cells,Sch.cells,Tp.cells,Pl.cells,xCol,xLit,xBin,xNeg,Im.cells,Lk.cells,Ac.cells,Se.cells,Tg.cells,Rk.cells];done)) (show ([Blk.row Ty.Table (List.map Tb.cells out++[[sv x1.sch.name,AV.sl (List.map Col.cells x1.sch.cols),iv x1.next,AV.sl (List.map Rw.cells x1.rows)]]) false]:Heap)=[Blk.row Ty.Table (List.map Tb.cells (out++[x1])) false] by first|rfl|(simp;done)|(simp [X.cells,Qy.cells,V.cells,Col.cells,Rw.cells,Tb.cells,Fr.cells,Sch.cells,Tp.cells,Pl.cells,xCol,xLit,xBin,xNeg,Im.cells,Lk.cells,Ac.cells,Se.cells,Tg.cells,Rk.cells];done)) (gZ R hg)))⟩
theorem zks  (hc:∀ s∈zan,zae s.cols) (hs:zae zan):∃ (out:List Tb),(out.length=zan.length∧∀ x∈out,Bare x)∧zac E0 S.world_tablesOf [.sl []] [] (tsl out) []:=by
 obtain ⟨out1,q1,q1_1,g1⟩:=zge zk3 zk3 0 ([]) zk3 zk3
 exact ⟨out1,by first|assumption|trivial|(simp;done)|omega|(simp;omega)|(simp at *;omega),wkc At.world_tablesOf (c':=(Cfg.mk (L_tb 0 []).n (L_tb 0 []).todo [(3,AV.nl),(12,AV.sl (List.map Sch.cells zan)),(13,iv (↑(List.map Sch.cells zan).length:Int)),(14,iv 0)] [])) [sb (rfl:false=false),sc zdr] [3,12,13,14] 0 kr (za6 (c':=L_tb 0 []) 3 Ty.Table [3,12,13,14] 1 kr kr kr (g1 _ (zab (wkr [sqx (out1.length=(List.map Tb.cells out1).length),sb (rfl:false=false)] kr))))⟩
end Go.AM
namespace Go.AM
set_option maxRecDepth 100000
set_option maxHeartbeats 1000000
set_option linter.unusedSimpArgs false
set_option linter.unusedVariables false
theorem zeu {p:Prop} (h:p:=by first|assumption|omega|(simp;done)|exact trFew hfw (by assumption)|exact And.left (by assumption)|exact ⟨by simp [zan],by simp [zan],fun x hx=>(zd5 hx).few⟩):p:=h
theorem frFew (g:Tg) {s:Sch} (hs:Few s.cols) (a b:List V):(zck g s a b).length≤2∧∀ f∈zck g s a b,Few f.cols:=by
 unfold zck
 cases g.each <;> cases g.event==2 <;> cases g.event==3 <;> cases g.event==1 <;> simp [hs]
theorem trFew {s:Sch} {r:List Tb} (hs:Few s.cols) (h:r.length≤2∧∀ x∈r,∃ n,x=trTb n s):∀ x∈r,Few x.sch.cols:=fun x hx=>by
 obtain ⟨n,rfl⟩:=h.2 x hx
 simpa [trTb,Few] using hs
theorem zrB {g:Tg} {s:Sch} {ss:List Sch} {a b:List V} (hs:Few s.cols) (h:3≤ss.length∧ss.length≤5∧∀ x∈ss,Few x.cols):(Pl.mk (zck g s a b) ss).OkN 4 :=
 ⟨by have:=(frFew g hs a b).1;simp only;omega,(frFew g hs a b).2,fun h0=>by simp only at h0;rw [h0] at h;simp at h,by simp only [Few];omega,h.2.2⟩
noncomputable def L_pl (g:Tg) (s:Sch) (frs:List Fr) (tr:List Tb) (i:Nat) (ss:List Sch):Cfg:=zaw B.world_place 0 [(2,.p 1 0),(4,.p 4 0),(18,tsl tr),(19,iv ((tr.map Tb.cells).length:Nat)),(20,iv (i:Nat))] [.box g.cells,.box [.nl,.nl],.box s.cells,.row Ty.Schema (ss.map Sch.cells) false,.box [fsl frs,.own 3 ss.length]]
theorem zhi (g:Tg) (s:Sch) (frs:List Fr) (tr:List Tb) (hl:tr.length≤2) (hf:∀ x∈tr,Few x.sch.cols) (i:Nat) (ss:List Sch) (hi:i≤(tr).length) (hI:3≤ss.length∧ss.length≤3+i∧∀ x∈ss,Few x.cols):∃ (ss':List Sch),(3≤ss'.length∧ss'.length≤3+(tr).length∧∀ x∈ss',Few x.cols)∧(decide ((((tr).length:Nat):Int) < (((tr.map Tb.cells).length:Nat):Int))=false)∧∀ R,Good E0 B.world_place [] (L_pl g s frs tr (tr).length ss') R→Good E0 B.world_place [] (L_pl g s frs tr i ss) R:=by
 obtain ⟨kk,hk⟩:∃ kk,i+kk=(tr).length:=⟨(tr).length - i,by omega⟩
 induction kk generalizing i ss with
 | zero =>
  have e0:i=(tr).length:=by omega
  subst e0
  exact ⟨ss,hI,by simp,fun R hg=>hg⟩
 | succ kk ih =>
  obtain ⟨x,hx⟩:=zay (l:=tr) (i:=i) (by omega)
  have h0:decide (((i:Nat):Int) < (((tr.map Tb.cells).length:Nat):Int))=true:=by simp;omega
  have hw:IntKind.i64.wrap (((i:Nat):Int)+1)=((i+1:Nat):Int):=zas i (by first|omega|(simp only [zae,Few] at *;omega))
  have hsl:ss.length≤5:=by omega
  obtain ⟨ssZ,qZ,xZ,gZ⟩:=ih (i+1) (ss++[x.sch]) (by omega) (by (refine ⟨by simp;omega,by simp;omega,fun z hz=>?_⟩;simp only [List.mem_append,List.mem_singleton] at hz;rcases hz with hz|rfl;exact hI.2.2 z hz;exact hf x (List.mem_of_getElem? hx))) (by omega);exact ⟨ssZ,qZ,xZ,fun R hg=>zab (wkl [sb h0,se (zaj Tb.cells hx rfl),sqx (AllLen [[sv x.sch.name,AV.sl (List.map Col.cells x.sch.cols)]] 2∧ss.length=(List.map Sch.cells ss).length∧(((List.map Sch.cells ss).length+[[sv x.sch.name,AV.sl (List.map Col.cells x.sch.cols)]].length) * 40).le 140737488355328),si hw] [2,4,18,19,20] 5 kr (zao (show ([(2,AV.p 1 0),(4,AV.p 4 0),(18,AV.sl (List.map Tb.cells tr)),(19,iv (↑(List.map Tb.cells tr).length:Int)),(20,iv (↑(i+1):Int))]:TS)=[(2,AV.p 1 0),(4,AV.p 4 0),(18,AV.sl (List.map Tb.cells tr)),(19,iv (↑(List.map Tb.cells tr).length:Int)),(20,iv (↑(i+1):Int))] by first|rfl|(simp;done)|(simp [X.cells,Qy.cells,V.cells,Col.cells,Rw.cells,Tb.cells,Fr.cells,Sch.cells,Tp.cells,Pl.cells,xCol,xLit,xBin,xNeg,Im.cells,Lk.cells,Ac.cells,Se.cells,Tg.cells,Rk.cells];done)) (show ([Blk.box [sv g.name,sv g.table,bv g.before,iv g.event,AV.sl (List.map (fun s=>[sv s]) g.of),bv g.each,AV.sl (List.map (fun s=>[sv s]) g.prec),AV.sl (List.map (fun s=>[sv s]) g.foll),AV.sl (List.map Rk.cells g.rank),AV.sl (zaa g.when_),AV.sl (List.map Ac.cells g.acts)],Blk.box [AV.nl,AV.nl],Blk.box [sv s.name,AV.sl (List.map Col.cells s.cols)],Blk.row Ty.Schema (List.map Sch.cells ss++[[sv x.sch.name,AV.sl (List.map Col.cells x.sch.cols)]]) false,Blk.box [AV.sl (List.map Fr.cells frs),AV.own 3 (List.map Sch.cells ss++[[sv x.sch.name,AV.sl (List.map Col.cells x.sch.cols)]]).length]]:Heap)=[Blk.box [sv g.name,sv g.table,bv g.before,iv g.event,AV.sl (List.map (fun s=>[sv s]) g.of),bv g.each,AV.sl (List.map (fun s=>[sv s]) g.prec),AV.sl (List.map (fun s=>[sv s]) g.foll),AV.sl (List.map Rk.cells g.rank),AV.sl (zaa g.when_),AV.sl (List.map Ac.cells g.acts)],Blk.box [AV.nl,AV.nl],Blk.box [sv s.name,AV.sl (List.map Col.cells s.cols)],Blk.row Ty.Schema (List.map Sch.cells (ss++[x.sch])) false,Blk.box [AV.sl (List.map Fr.cells frs),AV.own 3 (ss++[x.sch]).length]] by first|rfl|(simp;done)|(simp [X.cells,Qy.cells,V.cells,Col.cells,Rw.cells,Tb.cells,Fr.cells,Sch.cells,Tp.cells,Pl.cells,xCol,xLit,xBin,xNeg,Im.cells,Lk.cells,Ac.cells,Se.cells,Tg.cells,Rk.cells];done)) (gZ R hg)))⟩
theorem zmo (g:Tg) (hsh:zae zan) (hfw:Few (zam g.table).cols) (hs:zae (zam g.table).cols) (hS:zac E0 S.world_Schemas [] [] (.own 0 3) [.row Ty.Schema (zan.map Sch.cells) false]):∃ (p:Pl),p.OkN 4∧zac E0 S.world_place [g.av] [] p.av []:=by
 obtain ⟨r1,q1,c1⟩:=(ze6 g (zam g.table) zeu)
 obtain ⟨ss2,q2,q2_1,g2⟩:=zhi g (zam g.table) (zck g (zam g.table) [] []) r1 zeu zeu 0 zan zeu zeu
 exact ⟨Pl.mk (zck g (zam g.table) [] []) ss2,(by exact zrB hfw ⟨by omega,by omega,by simp_all⟩),wkc At.world_place [sc (zbj g.table zeu),sc (zhy g (zam g.table) ([]) ([]) zeu zeu zeu),sc hS,sc c1] [2,4,18,19,20] 5 kr (g2 _ (zab (wkr [sqx (True∧ss2.length=(List.map Sch.cells ss2).length∧True),sb q2_1] kr)))⟩
theorem zbV (g:Tg) (h:TabN g.table):∃ p:Pl,p.OkN 4∧zac E0 S.world_place [g.av] [] p.av [] :=
 zmo g zdj (zbm h).few (zaI (zbm h).few) zj8
def nmAt (k:Nat):Str:=([⟨#[110]⟩,⟨#[109]⟩]:List Str).getD k ⟨#[]⟩
theorem zfq (k:Nat) (h:(k:Int) < 2):ElAt [[sv ⟨#[110]⟩],[sv ⟨#[109]⟩]] (k:Int) [sv (nmAt k)] 1:=by
 have:k=0∨k=1:=by omega
 rcases this with rfl|rfl <;> exact ⟨by decide,rfl,rfl⟩
def tuAt (k:Nat):Str:=([⟨#[116]⟩,⟨#[117]⟩]:List Str).getD k ⟨#[]⟩
theorem zjU (k:Nat) (h:(k:Int) < 2):ElAt [[sv ⟨#[116]⟩],[sv ⟨#[117]⟩]] (k:Int) [sv (tuAt k)] 1:=by
 have:k=0∨k=1:=by omega
 rcases this with rfl|rfl <;> exact ⟨by decide,rfl,rfl⟩
def xBtw (c:Str) (lo hi:Int):X :=
 X.mk 7 0 false (V.mk 0 0 (ByteArray.mk #[])) (ByteArray.mk #[]) (ByteArray.mk #[]) [xCol (ByteArray.mk #[]) c,xNum lo,xNum hi] []
theorem zdt (c:Str) (lo hi:Int) (h1:-9223372036854775808 < lo) (h2:-9223372036854775808 < hi):zac E0 S.world_Between [sv c,iv lo,iv hi] [] ((xBtw c lo hi).av) []:=by
 unfold xBtw
 exact (by (try simp only [X.av,Qy.av,V.av,Tb.av,Sch.av,Pl.av,xsl,fsl,vsl,tsl,List.map_append,List.map_cons,List.map_nil,V.cells,Col.cells,Rw.cells,Tb.cells,Fr.cells,Sch.cells,Pl.cells,zaJ,zai,zal,zaq,zau,X.cells,Qy.cells,X.args_mk,X.sub_mk,Qy.items_mk,Qy.wh_mk,xCol,xLit,xBin,xNeg,Im.cells,Lk.cells,Ac.cells,Se.cells,Tg.cells,Rk.cells]);exact wk At.world_Between [sc (zaL (ByteArray.mk #[]) c),sc (zaX lo (by first|assumption|omega|(simp;done)|(simp;omega))),sc (zaX hi (by first|assumption|omega|(simp;done)|(simp;omega)))] kr)
structure GenOk (x:Tg):Prop where
 ok:TgOk 6 x
 set:∀ a∈x.acts,zmz a
structure CertOk (x x':Tg):Prop where
 gen:GenOk x→GenOk x'
 name:x'.name=x.name
 table:x'.table=x.table
 prec:x'.prec=x.prec
 foll:x'.foll=x.foll
theorem zcI {n:Nat} (a b:Str):XOk (n+1) (xCol a b):=⟨zaP,⟨by simp [xCol,Few],by simp [xCol,Few]⟩,by simp [xCol],by simp [xCol]⟩
end Go.AM
