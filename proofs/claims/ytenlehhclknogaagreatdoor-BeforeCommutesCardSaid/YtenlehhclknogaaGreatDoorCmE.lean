/-
  Contracts of the program's functions, part 4.
-/
import Derived.Test.YtenlehhclknogaaGreatDoorCmD
set_option linter.unusedSimpArgs false
set_option linter.unusedVariables false
namespace Go.AM
set_option maxRecDepth 100000
set_option maxHeartbeats 1000000
set_option linter.unusedSimpArgs false
set_option linter.unusedVariables false
theorem zhC {p:Prop} (h:p:=by first|assumption|omega|(simp;done)|(simp;omega)):p:=h
abbrev zaG (r:List X):List AV:=[.sl (zaa r)]
theorem zqn (s:Se) (hf:zac E0 S.deep_Expr [s.ex.av] [] s.ex.av []):∃ (r:Se),r=s∧zac E0 S.deep_set [.agg s.cells] [] (.agg r.cells) []:=by
 exact ⟨s,by rfl,wk At.deep_set [sd [(4,[sc hf])]] kr⟩
theorem zqH (n:Nat) (s:Se) (h:XSh n s.ex):zac E0 S.deep_set [.agg s.cells] [] (.agg s.cells) []:=by
 obtain ⟨r,rfl,hr⟩:=zqn s (zbT n s.ex h)
 exact hr
noncomputable def zi2 (l:List (List X)) (i:Nat) (out:List (List X)):Cfg:=zav B.deep_list_Lapi_Expr 0 [(1,.fn S.deep_Exprs []),(5,.own 0 out.length),(8,.sl ((l).map zaG)),(9,iv (((l).map zaG).length:Nat)),(10,iv (i:Nat))] [.row Ty.LExpr ((out).map zaG) false]
theorem zeu (l:List (List X)) (hl:zae l) (hf:∀ x∈l,zac E0 S.deep_Exprs [xsl x] [] (xsl x) []) (i:Nat) (out:List (List X)) (hi:i≤(l).length) (hI:out=l.take i):∃ (out':List (List X)),(out'=l.take (l).length)∧(decide ((((l).length:Nat):Int) < ((((l).map zaG).length:Nat):Int))=false)∧∀ R,Good E0 B.deep_list_Lapi_Expr [] (zi2 l (l).length out') R→Good E0 B.deep_list_Lapi_Expr [] (zi2 l i out) R:=by
 obtain ⟨kk,hk⟩:∃ kk,i+kk=(l).length:=⟨(l).length - i,by omega⟩
 induction kk generalizing i out with
 | zero =>
  have e0:i=(l).length:=by omega
  subst e0
  exact ⟨out,hI,by simp,fun R hg=>hg⟩
 | succ kk ih =>
  obtain ⟨x,hx⟩:=zay (l:=l) (i:=i) (by omega)
  have h0:decide (((i:Nat):Int) < ((((l).map zaG).length:Nat):Int))=true:=by simp;omega
  have hw:IntKind.i64.wrap (((i:Nat):Int)+1)=((i+1:Nat):Int):=zap i (by first|omega|(simp only [zae,Few] at *;omega))
  have hfx:=hf x (List.mem_of_getElem? hx)
  have ho:out.length≤1000000000:=by rw [hI,List.length_take];simp only [zae] at hl;omega
  obtain ⟨outZ,qZ,xZ,gZ⟩:=ih (i+1) (out++[x]) (by omega) (by rw [List.take_add_one,hx,hI];rfl) (by omega);exact ⟨outZ,qZ,xZ,fun R hg=>zab (wkl (c':=(Cfg.mk (zi2 l (i+1) (out++[x])).n (zi2 l (i+1) (out++[x])).todo [(1,AV.fn S.deep_Exprs []),(5,AV.own 0 (List.map zaG out++[[AV.sl (zaa x)]]).length),(8,AV.sl (List.map zaG l)),(9,iv (↑(List.map zaG l).length:Int)),(10,iv (↑(i+1):Int))] [Blk.row Ty.LExpr (List.map zaG out++[[AV.sl (zaa x)]]) false])) [sb h0,se (zah zaG hx rfl),sc hfx,sqx (AllLen [[AV.sl (zaa x)]] 1∧out.length=(List.map zaG out).length∧(((List.map zaG out).length+[[AV.sl (zaa x)]].length) * 24).le 140737488355328),si hw] [1,5,8,9,10] 1 kr (zan (show ([(1,AV.fn S.deep_Exprs []),(5,AV.own 0 (List.map zaG out++[[AV.sl (zaa x)]]).length),(8,AV.sl (List.map zaG l)),(9,iv (↑(List.map zaG l).length:Int)),(10,iv (↑(i+1):Int))]:TS)=[(1,AV.fn S.deep_Exprs []),(5,AV.own 0 (out++[x]).length),(8,AV.sl (List.map zaG l)),(9,iv (↑(List.map zaG l).length:Int)),(10,iv (↑(i+1):Int))] by first|rfl|(simp;done)|(simp [X.cells,Qy.cells,V.cells,Col.cells,Rw.cells,Tb.cells,Fr.cells,Sch.cells,Tp.cells,Pl.cells,xCol,xLit,xBin,xNeg,Im.cells,Lk.cells,Ac.cells,Se.cells,Tg.cells];done)) (show ([Blk.row Ty.LExpr (List.map zaG out++[[AV.sl (zaa x)]]) false]:Heap)=[Blk.row Ty.LExpr (List.map zaG (out++[x])) false] by first|rfl|(simp;done)|(simp [X.cells,Qy.cells,V.cells,Col.cells,Rw.cells,Tb.cells,Fr.cells,Sch.cells,Tp.cells,Pl.cells,xCol,xLit,xBin,xNeg,Im.cells,Lk.cells,Ac.cells,Se.cells,Tg.cells];done)) (gZ R hg)))⟩
theorem zif (l:List (List X)) (hl:zae l) (hf:∀ x∈l,zac E0 S.deep_Exprs [xsl x] [] (xsl x) []):∃ (r:List (List X)),r=l∧zac E0 S.deep_list_Lapi_Expr [.sl ((l).map zaG),.fn S.deep_Exprs []] [] (.sl ((r).map zaG)) []:=by
 obtain ⟨out1,q1,q1_1,g1⟩:=zeu l (by first|assumption|rfl|omega) (by first|assumption|rfl|omega) 0 ([]) (by first|assumption|rfl|omega) (by first|assumption|rfl|omega)
 exact ⟨out1,by first|assumption|(rw [List.take_length] at *;assumption),wkc At.deep_list_Lapi_Expr (c':=(Cfg.mk (zi2 l 0 []).n (zi2 l 0 []).todo [(1,AV.fn S.deep_Exprs []),(5,AV.nl),(8,AV.sl (List.map zaG l)),(9,iv (↑(List.map zaG l).length:Int)),(10,iv 0)] [])) [] [1,5,8,9,10] 0 kr (za7 (c':=zi2 l 0 []) 5 Ty.LExpr [1,5,8,9,10] 1 kr kr kr (g1 _ (zab (wkr [sqx (out1.length=(List.map zaG out1).length),sb q1_1] kr))))⟩
theorem zin (l:List (List X)) (hl:zae l) (hf:∀ x∈l,zac E0 S.deep_Exprs [xsl x] [] (xsl x) []):zac E0 S.deep_list_Lapi_Expr [.sl ((l).map zaG),.fn S.deep_Exprs []] [] (.sl ((l).map zaG)) []:=by
 obtain ⟨r,rfl,h⟩:=zif l hl hf
 exact h
noncomputable def ziO (l:List Se) (i:Nat) (out:List Se):Cfg:=zav B.deep_list_api_Set 0 [(1,.fn S.deep_set []),(5,.own 0 out.length),(8,.sl ((l).map Se.cells)),(9,iv (((l).map Se.cells).length:Nat)),(10,iv (i:Nat))] [.row Ty.Set ((out).map Se.cells) false]
theorem zfb (l:List Se) (hl:zae l) (hf:∀ x∈l,zac E0 S.deep_set [.agg x.cells] [] (.agg x.cells) []) (i:Nat) (out:List Se) (hi:i≤(l).length) (hI:out=l.take i):∃ (out':List Se),(out'=l.take (l).length)∧(decide ((((l).length:Nat):Int) < ((((l).map Se.cells).length:Nat):Int))=false)∧∀ R,Good E0 B.deep_list_api_Set [] (ziO l (l).length out') R→Good E0 B.deep_list_api_Set [] (ziO l i out) R:=by
 obtain ⟨kk,hk⟩:∃ kk,i+kk=(l).length:=⟨(l).length - i,by omega⟩
 induction kk generalizing i out with
 | zero =>
  have e0:i=(l).length:=by omega
  subst e0
  exact ⟨out,hI,by simp,fun R hg=>hg⟩
 | succ kk ih =>
  obtain ⟨x,hx⟩:=zay (l:=l) (i:=i) (by omega)
  have h0:decide (((i:Nat):Int) < ((((l).map Se.cells).length:Nat):Int))=true:=by simp;omega
  have hw:IntKind.i64.wrap (((i:Nat):Int)+1)=((i+1:Nat):Int):=zap i (by first|omega|(simp only [zae,Few] at *;omega))
  have hfx:=hf x (List.mem_of_getElem? hx)
  have ho:out.length≤1000000000:=by rw [hI,List.length_take];simp only [zae] at hl;omega
  obtain ⟨outZ,qZ,xZ,gZ⟩:=ih (i+1) (out++[x]) (by omega) (by rw [List.take_add_one,hx,hI];rfl) (by omega);exact ⟨outZ,qZ,xZ,fun R hg=>zab (wkl (c':=(Cfg.mk (ziO l (i+1) (out++[x])).n (ziO l (i+1) (out++[x])).todo [(1,AV.fn S.deep_set []),(5,AV.own 0 (List.map Se.cells out++[[sv x.col,iv x.ex.kind,iv x.ex.op,bv x.ex.not,iv x.ex.val.kind,iv x.ex.val.int,sv x.ex.val.text,sv x.ex.table,sv x.ex.name,AV.sl (zaa x.ex.args),AV.sl (zad x.ex.sub)]]).length),(8,AV.sl (List.map Se.cells l)),(9,iv (↑(List.map Se.cells l).length:Int)),(10,iv (↑(i+1):Int))] [Blk.row Ty.Set (List.map Se.cells out++[[sv x.col,iv x.ex.kind,iv x.ex.op,bv x.ex.not,iv x.ex.val.kind,iv x.ex.val.int,sv x.ex.val.text,sv x.ex.table,sv x.ex.name,AV.sl (zaa x.ex.args),AV.sl (zad x.ex.sub)]]) false])) [sb h0,se (zah Se.cells hx rfl),sc hfx,sqx (AllLen [[sv x.col,iv x.ex.kind,iv x.ex.op,bv x.ex.not,iv x.ex.val.kind,iv x.ex.val.int,sv x.ex.val.text,sv x.ex.table,sv x.ex.name,AV.sl (zaa x.ex.args),AV.sl (zad x.ex.sub)]] 11∧out.length=(List.map Se.cells out).length∧(((List.map Se.cells out).length+[[sv x.col,iv x.ex.kind,iv x.ex.op,bv x.ex.not,iv x.ex.val.kind,iv x.ex.val.int,sv x.ex.val.text,sv x.ex.table,sv x.ex.name,AV.sl (zaa x.ex.args),AV.sl (zad x.ex.sub)]].length) * 152).le 140737488355328),si hw] [1,5,8,9,10] 1 kr (zan (show ([(1,AV.fn S.deep_set []),(5,AV.own 0 (List.map Se.cells out++[[sv x.col,iv x.ex.kind,iv x.ex.op,bv x.ex.not,iv x.ex.val.kind,iv x.ex.val.int,sv x.ex.val.text,sv x.ex.table,sv x.ex.name,AV.sl (zaa x.ex.args),AV.sl (zad x.ex.sub)]]).length),(8,AV.sl (List.map Se.cells l)),(9,iv (↑(List.map Se.cells l).length:Int)),(10,iv (↑(i+1):Int))]:TS)=[(1,AV.fn S.deep_set []),(5,AV.own 0 (out++[x]).length),(8,AV.sl (List.map Se.cells l)),(9,iv (↑(List.map Se.cells l).length:Int)),(10,iv (↑(i+1):Int))] by first|rfl|(simp;done)|(simp [X.cells,Qy.cells,V.cells,Col.cells,Rw.cells,Tb.cells,Fr.cells,Sch.cells,Tp.cells,Pl.cells,xCol,xLit,xBin,xNeg,Im.cells,Lk.cells,Ac.cells,Se.cells,Tg.cells];done)) (show ([Blk.row Ty.Set (List.map Se.cells out++[[sv x.col,iv x.ex.kind,iv x.ex.op,bv x.ex.not,iv x.ex.val.kind,iv x.ex.val.int,sv x.ex.val.text,sv x.ex.table,sv x.ex.name,AV.sl (zaa x.ex.args),AV.sl (zad x.ex.sub)]]) false]:Heap)=[Blk.row Ty.Set (List.map Se.cells (out++[x])) false] by first|rfl|(simp;done)|(simp [X.cells,Qy.cells,V.cells,Col.cells,Rw.cells,Tb.cells,Fr.cells,Sch.cells,Tp.cells,Pl.cells,xCol,xLit,xBin,xNeg,Im.cells,Lk.cells,Ac.cells,Se.cells,Tg.cells];done)) (gZ R hg)))⟩
theorem zjD (l:List Se) (hl:zae l) (hf:∀ x∈l,zac E0 S.deep_set [.agg x.cells] [] (.agg x.cells) []):∃ (r:List Se),r=l∧zac E0 S.deep_list_api_Set [.sl ((l).map Se.cells),.fn S.deep_set []] [] (.sl ((r).map Se.cells)) []:=by
 obtain ⟨out1,q1,q1_1,g1⟩:=zfb l (by first|assumption|rfl|omega) (by first|assumption|rfl|omega) 0 ([]) (by first|assumption|rfl|omega) (by first|assumption|rfl|omega)
 exact ⟨out1,by first|assumption|(rw [List.take_length] at *;assumption),wkc At.deep_list_api_Set (c':=(Cfg.mk (ziO l 0 []).n (ziO l 0 []).todo [(1,AV.fn S.deep_set []),(5,AV.nl),(8,AV.sl (List.map Se.cells l)),(9,iv (↑(List.map Se.cells l).length:Int)),(10,iv 0)] [])) [] [1,5,8,9,10] 0 kr (za7 (c':=ziO l 0 []) 5 Ty.Set [1,5,8,9,10] 1 kr kr kr (g1 _ (zab (wkr [sqx (out1.length=(List.map Se.cells out1).length),sb q1_1] kr))))⟩
theorem zjr (l:List Se) (hl:zae l) (hf:∀ x∈l,zac E0 S.deep_set [.agg x.cells] [] (.agg x.cells) []):zac E0 S.deep_list_api_Set [.sl ((l).map Se.cells),.fn S.deep_set []] [] (.sl ((l).map Se.cells)) []:=by
 obtain ⟨r,rfl,h⟩:=zjD l hl hf
 exact h
structure AcOk (n:Nat) (a:Ac):Prop where
 rows:Few a.rows
 row:∀ r∈a.rows,Few r∧∀ x∈r,XOk n x
 query:Few a.query
 qs:∀ q∈a.query,QW n q
 sets:Few a.sets
 set:∀ s∈a.sets,XOk n s.ex
 wh:Few a.wh
 w:∀ x∈a.wh,XOk n x
structure AcSh (n:Nat) (a:Ac):Prop where
 rows:zae a.rows
 row:∀ r∈a.rows,zae r∧∀ x∈r,XSh n x
 query:zae a.query
 qs:∀ q∈a.query,QSh n q
 sets:zae a.sets
 set:∀ s∈a.sets,XSh n s.ex
 wh:zae a.wh
 w:∀ x∈a.wh,XSh n x
theorem AcOk.sh {n:Nat} {a:Ac} (h:AcOk n a):AcSh n a :=
 ⟨zaK h.rows,fun r hr=>⟨zaK (h.row r hr).1,fun x hx=>((h.row r hr).2 x hx).sh⟩,zaK h.query,fun q hq=>(h.qs q hq).sh,zaK h.sets,fun s hs=>(h.set s hs).sh,zaK h.wh,fun x hx=>(h.w x hx).sh⟩
def RowsCp (l:List (List X)):Prop:=∀ x∈l,zac E0 S.deep_Exprs [xsl x] [] (xsl x) []
theorem znd (n:Nat) (a:Ac) (h:AcSh n a) (h1:zae a.rows) (h2:zae a.query) (h3:zae a.sets) (h4:zae a.wh) (hr:RowsCp a.rows) (hq:∀ x∈a.query,zac E0 S.deep_Query [x.av] [] x.av []) (hs:∀ x∈a.sets,zac E0 S.deep_set [.agg x.cells] [] (.agg x.cells) []) (hw:∀ x∈a.wh,zac E0 S.deep_Expr [x.av] [] x.av []):∃ (r:Ac),r=a∧zac E0 S.deep_Action [a.av] [] r.av []:=by
 exact ⟨a,by rfl,wk At.deep_Action [sd [(2,[sc (zin a.rows (by first|assumption|exact hr) (by first|assumption|exact hr))]),(5,[sc (zeo a.query (by first|assumption|exact hr) (by first|assumption|exact hr))]),(8,[sc (zjr a.sets (by first|assumption|exact hr) (by first|assumption|exact hr))]),(11,[sc (zdJ a.wh (by first|assumption|exact hr) (by first|assumption|exact hr))])]] kr⟩
theorem zne (n:Nat) (a:Ac) (h:AcSh n a):zac E0 S.deep_Action [a.av] [] a.av []:=by
 obtain ⟨r,rfl,hr⟩:=znd n a h h.rows h.query h.sets h.wh
  (fun x hx=>zdJ x (h.row x hx).1 fun y hy=>zbT n y ((h.row x hx).2 y hy))
  (fun q hq=>zlR n q (h.qs q hq)) (fun s hs=>zqH n s (h.set s hs)) (fun x hx=>zbT n x (h.w x hx))
 exact hr
noncomputable def ziY (l:List Ac) (i:Nat) (out:List Ac):Cfg:=zav B.deep_list_api_Action 0 [(1,.fn S.deep_Action []),(5,.own 0 out.length),(8,.sl ((l).map Ac.cells)),(9,iv (((l).map Ac.cells).length:Nat)),(10,iv (i:Nat))] [.row Ty.Action ((out).map Ac.cells) false]
theorem zee (l:List Ac) (hl:zae l) (hf:∀ x∈l,zac E0 S.deep_Action [.agg x.cells] [] (.agg x.cells) []) (i:Nat) (out:List Ac) (hi:i≤(l).length) (hI:out=l.take i):∃ (out':List Ac),(out'=l.take (l).length)∧(decide ((((l).length:Nat):Int) < ((((l).map Ac.cells).length:Nat):Int))=false)∧∀ R,Good E0 B.deep_list_api_Action [] (ziY l (l).length out') R→Good E0 B.deep_list_api_Action [] (ziY l i out) R:=by
 obtain ⟨kk,hk⟩:∃ kk,i+kk=(l).length:=⟨(l).length - i,by omega⟩
 induction kk generalizing i out with
 | zero =>
  have e0:i=(l).length:=by omega
  subst e0
  exact ⟨out,hI,by simp,fun R hg=>hg⟩
 | succ kk ih =>
  obtain ⟨x,hx⟩:=zay (l:=l) (i:=i) (by omega)
  have h0:decide (((i:Nat):Int) < ((((l).map Ac.cells).length:Nat):Int))=true:=by simp;omega
  have hw:IntKind.i64.wrap (((i:Nat):Int)+1)=((i+1:Nat):Int):=zap i (by first|omega|(simp only [zae,Few] at *;omega))
  have hfx:=hf x (List.mem_of_getElem? hx)
  have ho:out.length≤1000000000:=by rw [hI,List.length_take];simp only [zae] at hl;omega
  obtain ⟨outZ,qZ,xZ,gZ⟩:=ih (i+1) (out++[x]) (by omega) (by rw [List.take_add_one,hx,hI];rfl) (by omega);exact ⟨outZ,qZ,xZ,fun R hg=>zab (wkl (c':=(Cfg.mk (ziY l (i+1) (out++[x])).n (ziY l (i+1) (out++[x])).todo [(1,AV.fn S.deep_Action []),(5,AV.own 0 (List.map Ac.cells out++[[iv x.kind,sv x.table,AV.sl (List.map (fun r=>[AV.sl (zaa r)]) x.rows),AV.sl (zad x.query),AV.sl (List.map Se.cells x.sets),AV.sl (zaa x.wh),sv x.text]]).length),(8,AV.sl (List.map Ac.cells l)),(9,iv (↑(List.map Ac.cells l).length:Int)),(10,iv (↑(i+1):Int))] [Blk.row Ty.Action (List.map Ac.cells out++[[iv x.kind,sv x.table,AV.sl (List.map (fun r=>[AV.sl (zaa r)]) x.rows),AV.sl (zad x.query),AV.sl (List.map Se.cells x.sets),AV.sl (zaa x.wh),sv x.text]]) false])) [sb h0,se (zah Ac.cells hx rfl),sc hfx,sqx (AllLen [[iv x.kind,sv x.table,AV.sl (List.map (fun r=>[AV.sl (zaa r)]) x.rows),AV.sl (zad x.query),AV.sl (List.map Se.cells x.sets),AV.sl (zaa x.wh),sv x.text]] 7∧out.length=(List.map Ac.cells out).length∧(((List.map Ac.cells out).length+[[iv x.kind,sv x.table,AV.sl (List.map (fun r=>[AV.sl (zaa r)]) x.rows),AV.sl (zad x.query),AV.sl (List.map Se.cells x.sets),AV.sl (zaa x.wh),sv x.text]].length) * 136).le 140737488355328),si hw] [1,5,8,9,10] 1 kr (zan (show ([(1,AV.fn S.deep_Action []),(5,AV.own 0 (List.map Ac.cells out++[[iv x.kind,sv x.table,AV.sl (List.map (fun r=>[AV.sl (zaa r)]) x.rows),AV.sl (zad x.query),AV.sl (List.map Se.cells x.sets),AV.sl (zaa x.wh),sv x.text]]).length),(8,AV.sl (List.map Ac.cells l)),(9,iv (↑(List.map Ac.cells l).length:Int)),(10,iv (↑(i+1):Int))]:TS)=[(1,AV.fn S.deep_Action []),(5,AV.own 0 (out++[x]).length),(8,AV.sl (List.map Ac.cells l)),(9,iv (↑(List.map Ac.cells l).length:Int)),(10,iv (↑(i+1):Int))] by first|rfl|(simp;done)|(simp [X.cells,Qy.cells,V.cells,Col.cells,Rw.cells,Tb.cells,Fr.cells,Sch.cells,Tp.cells,Pl.cells,xCol,xLit,xBin,xNeg,Im.cells,Lk.cells,Ac.cells,Se.cells,Tg.cells];done)) (show ([Blk.row Ty.Action (List.map Ac.cells out++[[iv x.kind,sv x.table,AV.sl (List.map (fun r=>[AV.sl (zaa r)]) x.rows),AV.sl (zad x.query),AV.sl (List.map Se.cells x.sets),AV.sl (zaa x.wh),sv x.text]]) false]:Heap)=[Blk.row Ty.Action (List.map Ac.cells (out++[x])) false] by first|rfl|(simp;done)|(simp [X.cells,Qy.cells,V.cells,Col.cells,Rw.cells,Tb.cells,Fr.cells,Sch.cells,Tp.cells,Pl.cells,xCol,xLit,xBin,xNeg,Im.cells,Lk.cells,Ac.cells,Se.cells,Tg.cells];done)) (gZ R hg)))⟩
theorem zhG (l:List Ac) (hl:zae l) (hf:∀ x∈l,zac E0 S.deep_Action [.agg x.cells] [] (.agg x.cells) []):∃ (r:List Ac),r=l∧zac E0 S.deep_list_api_Action [.sl ((l).map Ac.cells),.fn S.deep_Action []] [] (.sl ((r).map Ac.cells)) []:=by
 obtain ⟨out1,q1,q1_1,g1⟩:=zee l (by first|assumption|rfl|omega) (by first|assumption|rfl|omega) 0 ([]) (by first|assumption|rfl|omega) (by first|assumption|rfl|omega)
 exact ⟨out1,by first|assumption|(rw [List.take_length] at *;assumption),wkc At.deep_list_api_Action (c':=(Cfg.mk (ziY l 0 []).n (ziY l 0 []).todo [(1,AV.fn S.deep_Action []),(5,AV.nl),(8,AV.sl (List.map Ac.cells l)),(9,iv (↑(List.map Ac.cells l).length:Int)),(10,iv 0)] [])) [] [1,5,8,9,10] 0 kr (za7 (c':=ziY l 0 []) 5 Ty.Action [1,5,8,9,10] 1 kr kr kr (g1 _ (zab (wkr [sqx (out1.length=(List.map Ac.cells out1).length),sb q1_1] kr))))⟩
theorem zhL (l:List Ac) (hl:zae l) (hf:∀ x∈l,zac E0 S.deep_Action [.agg x.cells] [] (.agg x.cells) []):zac E0 S.deep_list_api_Action [.sl ((l).map Ac.cells),.fn S.deep_Action []] [] (.sl ((l).map Ac.cells)) []:=by
 obtain ⟨r,rfl,h⟩:=zhG l hl hf
 exact h
structure TgOk (n:Nat) (t:Tg):Prop where
 of:Few t.of
 prec:Few t.prec
 foll:Few t.foll
 rank:Few t.rank
 whens:Few t.when_
 when_:∀ x∈t.when_,XOk n x
 acts:Few t.acts
 act:∀ a∈t.acts,AcOk n a
structure TgSh (n:Nat) (t:Tg):Prop where
 of:zae t.of
 prec:zae t.prec
 foll:zae t.foll
 rank:zae t.rank
 whens:zae t.when_
 when_:∀ x∈t.when_,XSh n x
 acts:zae t.acts
 act:∀ a∈t.acts,AcSh n a
theorem TgOk.sh {n:Nat} {t:Tg} (h:TgOk n t):TgSh n t :=
 ⟨zaK h.of,zaK h.prec,zaK h.foll,zaK h.rank,zaK h.whens,fun x hx=>(h.when_ x hx).sh,zaK h.acts,fun a ha=>(h.act a ha).sh⟩
theorem zmm (n:Nat) (t:Tg) (h1:zae t.of) (h2:zae t.prec) (h3:zae t.foll) (h4:zae t.rank) (h5:zae t.when_) (h6:zae t.acts) (hw:∀ x∈t.when_,zac E0 S.deep_Expr [x.av] [] x.av []) (ha:∀ x∈t.acts,zac E0 S.deep_Action [.agg x.cells] [] (.agg x.cells) []):∃ (r:Tg),r=t∧zac E0 S.deep_Trigger [t.av] [] r.av []:=by
 exact ⟨t,by rfl,wk At.deep_Trigger [sqx (True∧True∧True∧True∧t.of.length=(List.map zaW t.of).length∧True∧t.prec.length=(List.map zaW t.prec).length∧t.foll.length=(List.map zaW t.foll).length∧t.rank.length=(List.map Rk.cells t.rank).length∧True∧True∧True),sd [(2,[sc (zdi t.of zhC)]),(5,[sc (zdi t.prec zhC)]),(8,[sc (zdi t.foll zhC)]),(11,[sc (zjE t.rank zhC)])],sd [(2,[sc (zdJ t.when_ zhC zhC)]),(5,[sc (zhL t.acts zhC zhC)])]] kr⟩
theorem zfm (n:Nat) (t:Tg) (h:TgSh n t):zac E0 S.deep_Trigger [t.av] [] t.av []:=by
 obtain ⟨r,rfl,hr⟩:=zmm n t h.of h.prec h.foll h.rank h.whens h.acts
  (fun x hx=>zbT n x (h.when_ x hx)) (fun a ha=>zne n a (h.act a ha))
 exact hr
end Go.AM
namespace Go.AM
set_option maxRecDepth 100000
set_option maxHeartbeats 1000000
set_option linter.unusedSimpArgs false
set_option linter.unusedVariables false
theorem zho {p:Prop} (h:p:=by rw [List.take_add_one,hx,List.filter_append,← hI];clear hI;simp only [Option.toList_some,List.filter_cons,List.filter_nil,appl,cond_true,cond_false,if_true, *] <;> try simp):p:=h
theorem zfC {p:Prop} (h:p:=by first|assumption|omega|(simp;done)|(simp;omega)):p:=h
theorem zhu {p:Prop} (h:p:=by first|assumption|exact hTx|omega):p:=h
noncomputable def L_stIx (l:List Str) (v:Str) (i:Nat) :Cfg:=zav B.slices_Index_string 0 [(0,.sl (l.map zaW)),(1,sv v),(7,iv ((l.map zaW).length:Nat)),(8,iv (i:Nat))] []
def stIx (l:List Str) (v:Str):List (Str)→Nat→Int
 | [],i =>
  -1
 | x::r,i =>
  bif ByteArray.toList v==ByteArray.toList x then
   (i:Int)
  else
   stIx l v r (i+1)
theorem zpa (l:List Str) (v:Str) (hl:zae l):∀ (kk i:Nat),i+kk=(l).length→Good E0 B.slices_Index_string [] (L_stIx l v i ) (Shut 0 fun r h=>r=(iv (stIx l v ((l).drop i) i ))∧h=[]):=by
 intro kk
 induction kk with
 | zero =>
  intro i  hi
  have h0:decide (((i:Nat):Int) < (((l.map zaW).length:Nat):Int))=false:=by simp;omega
  have e0:(l).drop i=[]:=List.drop_of_length_le (by omega)
  rw [e0]
  simp only [stIx]
  refine zab ?_
  exact wkr [sb h0] kr
 | succ kk ih =>
  intro i  hi
  obtain ⟨x,hx⟩:=zay (l:=l) (i:=i) (by omega)
  have h0:decide (((i:Nat):Int) < (((l.map zaW).length:Nat):Int))=true:=by simp;omega
  have hw:=zap i (by first|omega|(simp only [zae,Few] at *;omega))
  rw [zbH hx]
  simp only [stIx]
  refine zab ?_
  cases h1:ByteArray.toList v==ByteArray.toList x
  ·exact wkl [sb h0,se (zah zaW hx rfl),sb h1,si hw] [0,1,7,8] 0 kr (ih (i+1) (by omega) )
  ·exact wkr [sb h0,se (zah zaW hx rfl),sb h1] kr
def zmr (l:List Str) (v:Str):Int :=
 stIx l v l (0)
theorem zh9 (l:List Str) (v:Str) (hl:zae l):zac E0 S.slices_Index_string [ssl l,sv v] [] (iv (zmr l v)) []:=by
 unfold zmr
 exact wkc At.slices_Index_string [] [0,1,7,8] 0 kr (zpa l v hl l.length 0 (by simp))
def hasS (l:List Str) (v:Str):Bool :=
 decide ((0:Int)≤zmr l v)
theorem zgN (l:List Str) (v:Str) (hl:zae l):zac E0 S.slices_Contains_string [ssl l,sv v] [] (bv (hasS l v)) []:=by
 exact wk At.slices_Contains_string [sc (zh9 l v zfC)] kr
def hasC (v:Str) (l:List Str):Bool :=
 hasS l v
theorem zdV (v:Str) (l:List Str) (hl:zae l):zac E0 S.before_Applicable_c1 [sv v,.p 0 0] [.box [ssl l]] (bv (hasC v l)) [.box [ssl l]]:=by
 exact wk At.before_Applicable_c1 [sc (zgN l v zfC)] kr
noncomputable def L_ofIx (l s:List Str) (i:Nat) :Cfg:=zav B.slices_IndexFunc_string 0 [(0,ssl l),(1,.fn S.before_Applicable_c1 [.p 0 0]),(7,iv ((l.map zaW).length:Nat)),(8,iv (i:Nat))] [.box [ssl s]]
def ofIx (l s:List Str):List (Str)→Nat→Int
 | [],i =>
  -1
 | x::r,i =>
  bif hasC x s then
   (i:Int)
  else
   ofIx l s r (i+1)
theorem zpd (l s:List Str) (hl:zae l) (hs:zae s):∀ (kk i:Nat),i+kk=(l).length→Good E0 B.slices_IndexFunc_string [.box [ssl s]] (L_ofIx l s i ) (Shut 1 fun r h=>r=(iv (ofIx l s ((l).drop i) i ))∧h=[.box [ssl s]]):=by
 intro kk
 induction kk with
 | zero =>
  intro i  hi
  have h0:decide (((i:Nat):Int) < (((l.map zaW).length:Nat):Int))=false:=by simp;omega
  have e0:(l).drop i=[]:=List.drop_of_length_le (by omega)
  rw [e0]
  simp only [ofIx]
  refine zab ?_
  exact wkr [sb h0] kr
 | succ kk ih =>
  intro i  hi
  obtain ⟨x,hx⟩:=zay (l:=l) (i:=i) (by omega)
  have h0:decide (((i:Nat):Int) < (((l.map zaW).length:Nat):Int))=true:=by simp;omega
  have hw:=zap i (by first|omega|(simp only [zae,Few] at *;omega))
  rw [zbH hx]
  simp only [ofIx]
  refine zab ?_
  cases h1:hasC x s
  ·exact wkl [sb h0,se (zah (fun s=>[sv s]) hx rfl),sl [0] (zdV x s zfC),sb h1,si hw] [0,1,7,8] 1 kr (ih (i+1) (by omega) )
  ·exact wkr [sb h0,se (zah (fun s=>[sv s]) hx rfl),sl [0] (zdV x s zfC),sb h1] kr
def zmz (l s:List Str):Int :=
 ofIx l s l (0)
theorem zgC (l s:List Str) (hl:zae l) (hs:zae s):zac E0 S.slices_IndexFunc_string [ssl l,.fn S.before_Applicable_c1 [.p 0 0]] [.box [ssl s]] (iv (zmz l s)) [.box [ssl s]]:=by
 unfold zmz
 exact wkc At.slices_IndexFunc_string [] [0,1,7,8] 1 kr (zpd l s hl hs l.length 0 (by simp))
def zqD (l s:List Str):Bool :=
 decide ((0:Int)≤zmz l s)
theorem zbP (l s:List Str) (hl:zae l) (hs:zae s):zac E0 S.slices_ContainsFunc_string [ssl l,.fn S.before_Applicable_c1 [.p 0 0]] [.box [ssl s]] (bv (zqD l s)) [.box [ssl s]]:=by
 exact wk At.slices_ContainsFunc_string [sl [0] (zgC l s zfC zfC)] kr
def appl (table:Str) (ev:Int) (asg:List Str) (each:Bool) (t:Tg):Bool :=
 bif !t.before then false else bif !t.table.toList==table.toList then false else bif t.event != ev then false else bif !t.each==each then false else bif ev != 2 then true else bif (((t.of.map zaW).length:Nat):Int)==0 then true else zqD t.of asg
noncomputable def zeB (N:Nat) (ts:List Tg) (table:Str) (ev:Int) (asg:List Str) (each:Bool) (i:Nat) (out:List Tg):Cfg:=zav B.before_Applicable 0 [(1,sv table),(2,iv ev),(4,bv each),(8,.p 0 0),(11,.own 1 out.length),(15,.sl (ts.map Tg.cells)),(16,iv ((ts.map Tg.cells).length:Nat)),(17,iv (i:Nat))] [.box [ssl asg],.row Ty.Trigger (out.map Tg.cells) false]
theorem zfc (N:Nat) (ts:List Tg) (table:Str) (ev:Int) (asg:List Str) (each:Bool) (hl:zae ts) (hs:zae asg) (hT:∀ t∈ts,TgSh N t) (i:Nat) (out:List Tg) (hi:i≤(ts).length) (hI:out=(ts.take i).filter (appl table ev asg each)):∃ (out':List Tg),(out'=(ts.take (ts).length).filter (appl table ev asg each))∧(decide ((((ts).length:Nat):Int) < (((ts.map Tg.cells).length:Nat):Int))=false)∧∀ R,Good E0 B.before_Applicable [] (zeB N ts table ev asg each (ts).length out') R→Good E0 B.before_Applicable [] (zeB N ts table ev asg each i out) R:=by
 obtain ⟨kk,hk⟩:∃ kk,i+kk=(ts).length:=⟨(ts).length - i,by omega⟩
 induction kk generalizing i out with
 | zero =>
  have e0:i=(ts).length:=by omega
  subst e0
  exact ⟨out,hI,by simp,fun R hg=>hg⟩
 | succ kk ih =>
  obtain ⟨x,hx⟩:=zay (l:=ts) (i:=i) (by omega)
  have h0:decide (((i:Nat):Int) < (((ts.map Tg.cells).length:Nat):Int))=true:=by simp;omega
  have hw:IntKind.i64.wrap (((i:Nat):Int)+1)=((i+1:Nat):Int):=zap i (by first|omega|(simp only [zae,Few] at *;omega))
  have hTx:=hT x (List.mem_of_getElem? hx)
  have hof:=hTx.of
  have ho:out.length≤1000000000:=by
   rw [hI];refine Nat.le_trans (List.length_filter_le _ _) ?_;rw [List.length_take];simp only [zae] at hl;omega
  cases h1:!x.before
  ·cases h2:!ByteArray.toList x.table==ByteArray.toList table
   ·cases h3:x.event != ev
    ·cases h4:!x.each==each
     ·cases h5:ev != 2
      ·cases h6:(↑(List.map (fun s=>[sv s]) x.of).length:Int)==0
       ·cases h7:zqD x.of asg
        ·obtain ⟨outZ,qZ,xZ,gZ⟩:=ih (i+1) out (by omega) zho (by omega);exact ⟨outZ,qZ,xZ,fun R hg=>zab (wkl [sb h0,se (zah Tg.cells hx rfl),sg h1,sg h2,sg h3,sb h4,sl [0] (zbP x.of asg zhu zhu),sg h5,sg h6,sb h7,si hw] [1,2,4,8,11,15,16,17] 2 kr (gZ R hg))⟩
        ·obtain ⟨outZ,qZ,xZ,gZ⟩:=ih (i+1) (out++[x]) (by omega) zho (by omega);exact ⟨outZ,qZ,xZ,fun R hg=>zab (wkl (c':=(Cfg.mk (zeB N ts table ev asg each (i+1) (out++[x])).n (zeB N ts table ev asg each (i+1) (out++[x])).todo [(1,sv table),(2,iv ev),(4,bv each),(8,AV.p 0 0),(11,AV.own 1 (List.map Tg.cells out++[[sv x.name,sv x.table,bv x.before,iv x.event,AV.sl (List.map (fun s=>[sv s]) x.of),bv x.each,AV.sl (List.map (fun s=>[sv s]) x.prec),AV.sl (List.map (fun s=>[sv s]) x.foll),AV.sl (List.map Rk.cells x.rank),AV.sl (zaa x.when_),AV.sl (List.map Ac.cells x.acts)]]).length),(15,AV.sl (List.map Tg.cells ts)),(16,iv (↑(List.map Tg.cells ts).length:Int)),(17,iv (↑(i+1):Int))] [Blk.box [AV.sl (List.map (fun s=>[sv s]) asg)],Blk.row Ty.Trigger (List.map Tg.cells out++[[sv x.name,sv x.table,bv x.before,iv x.event,AV.sl (List.map (fun s=>[sv s]) x.of),bv x.each,AV.sl (List.map (fun s=>[sv s]) x.prec),AV.sl (List.map (fun s=>[sv s]) x.foll),AV.sl (List.map Rk.cells x.rank),AV.sl (zaa x.when_),AV.sl (List.map Ac.cells x.acts)]]) false])) [sb h0,se (zah Tg.cells hx rfl),sg h1,sg h2,sg h3,sb h4,sl [0] (zbP x.of asg zhu zhu),sg h5,sg h6,sb h7,sc (zfm N x hTx),sqx (AllLen [[sv x.name,sv x.table,bv x.before,iv x.event,AV.sl (List.map (fun s=>[sv s]) x.of),bv x.each,AV.sl (List.map (fun s=>[sv s]) x.prec),AV.sl (List.map (fun s=>[sv s]) x.foll),AV.sl (List.map Rk.cells x.rank),AV.sl (zaa x.when_),AV.sl (List.map Ac.cells x.acts)]] 11∧out.length=(List.map Tg.cells out).length∧(((List.map Tg.cells out).length+[[sv x.name,sv x.table,bv x.before,iv x.event,AV.sl (List.map (fun s=>[sv s]) x.of),bv x.each,AV.sl (List.map (fun s=>[sv s]) x.prec),AV.sl (List.map (fun s=>[sv s]) x.foll),AV.sl (List.map Rk.cells x.rank),AV.sl (zaa x.when_),AV.sl (List.map Ac.cells x.acts)]].length) * 200).le 140737488355328),si hw] [1,2,4,8,11,15,16,17] 2 kr (zan (show ([(1,sv table),(2,iv ev),(4,bv each),(8,AV.p 0 0),(11,AV.own 1 (List.map Tg.cells out++[[sv x.name,sv x.table,bv x.before,iv x.event,AV.sl (List.map (fun s=>[sv s]) x.of),bv x.each,AV.sl (List.map (fun s=>[sv s]) x.prec),AV.sl (List.map (fun s=>[sv s]) x.foll),AV.sl (List.map Rk.cells x.rank),AV.sl (zaa x.when_),AV.sl (List.map Ac.cells x.acts)]]).length),(15,AV.sl (List.map Tg.cells ts)),(16,iv (↑(List.map Tg.cells ts).length:Int)),(17,iv (↑(i+1):Int))]:TS)=[(1,sv table),(2,iv ev),(4,bv each),(8,AV.p 0 0),(11,AV.own 1 (out++[x]).length),(15,AV.sl (List.map Tg.cells ts)),(16,iv (↑(List.map Tg.cells ts).length:Int)),(17,iv (↑(i+1):Int))] by first|rfl|(simp;done)|(simp [X.cells,Qy.cells,V.cells,Col.cells,Rw.cells,Tb.cells,Fr.cells,Sch.cells,Tp.cells,Pl.cells,xCol,xLit,xBin,xNeg,Tg.cells];done)) (show ([Blk.box [AV.sl (List.map (fun s=>[sv s]) asg)],Blk.row Ty.Trigger (List.map Tg.cells out++[[sv x.name,sv x.table,bv x.before,iv x.event,AV.sl (List.map (fun s=>[sv s]) x.of),bv x.each,AV.sl (List.map (fun s=>[sv s]) x.prec),AV.sl (List.map (fun s=>[sv s]) x.foll),AV.sl (List.map Rk.cells x.rank),AV.sl (zaa x.when_),AV.sl (List.map Ac.cells x.acts)]]) false]:Heap)=[Blk.box [AV.sl (List.map (fun s=>[sv s]) asg)],Blk.row Ty.Trigger (List.map Tg.cells (out++[x])) false] by first|rfl|(simp;done)|(simp [X.cells,Qy.cells,V.cells,Col.cells,Rw.cells,Tb.cells,Fr.cells,Sch.cells,Tp.cells,Pl.cells,xCol,xLit,xBin,xNeg,Tg.cells];done)) (gZ R hg)))⟩
       ·obtain ⟨outZ,qZ,xZ,gZ⟩:=ih (i+1) (out++[x]) (by omega) zho (by omega);exact ⟨outZ,qZ,xZ,fun R hg=>zab (wkl (c':=(Cfg.mk (zeB N ts table ev asg each (i+1) (out++[x])).n (zeB N ts table ev asg each (i+1) (out++[x])).todo [(1,sv table),(2,iv ev),(4,bv each),(8,AV.p 0 0),(11,AV.own 1 (List.map Tg.cells out++[[sv x.name,sv x.table,bv x.before,iv x.event,AV.sl (List.map (fun s=>[sv s]) x.of),bv x.each,AV.sl (List.map (fun s=>[sv s]) x.prec),AV.sl (List.map (fun s=>[sv s]) x.foll),AV.sl (List.map Rk.cells x.rank),AV.sl (zaa x.when_),AV.sl (List.map Ac.cells x.acts)]]).length),(15,AV.sl (List.map Tg.cells ts)),(16,iv (↑(List.map Tg.cells ts).length:Int)),(17,iv (↑(i+1):Int))] [Blk.box [AV.sl (List.map (fun s=>[sv s]) asg)],Blk.row Ty.Trigger (List.map Tg.cells out++[[sv x.name,sv x.table,bv x.before,iv x.event,AV.sl (List.map (fun s=>[sv s]) x.of),bv x.each,AV.sl (List.map (fun s=>[sv s]) x.prec),AV.sl (List.map (fun s=>[sv s]) x.foll),AV.sl (List.map Rk.cells x.rank),AV.sl (zaa x.when_),AV.sl (List.map Ac.cells x.acts)]]) false])) [sb h0,se (zah Tg.cells hx rfl),sg h1,sg h2,sg h3,sb h4,sl [0] (zbP x.of asg zhu zhu),sg h5,sb h6,sc (zfm N x hTx),sqx (AllLen [[sv x.name,sv x.table,bv x.before,iv x.event,AV.sl (List.map (fun s=>[sv s]) x.of),bv x.each,AV.sl (List.map (fun s=>[sv s]) x.prec),AV.sl (List.map (fun s=>[sv s]) x.foll),AV.sl (List.map Rk.cells x.rank),AV.sl (zaa x.when_),AV.sl (List.map Ac.cells x.acts)]] 11∧out.length=(List.map Tg.cells out).length∧(((List.map Tg.cells out).length+[[sv x.name,sv x.table,bv x.before,iv x.event,AV.sl (List.map (fun s=>[sv s]) x.of),bv x.each,AV.sl (List.map (fun s=>[sv s]) x.prec),AV.sl (List.map (fun s=>[sv s]) x.foll),AV.sl (List.map Rk.cells x.rank),AV.sl (zaa x.when_),AV.sl (List.map Ac.cells x.acts)]].length) * 200).le 140737488355328),si hw] [1,2,4,8,11,15,16,17] 2 kr (zan (show ([(1,sv table),(2,iv ev),(4,bv each),(8,AV.p 0 0),(11,AV.own 1 (List.map Tg.cells out++[[sv x.name,sv x.table,bv x.before,iv x.event,AV.sl (List.map (fun s=>[sv s]) x.of),bv x.each,AV.sl (List.map (fun s=>[sv s]) x.prec),AV.sl (List.map (fun s=>[sv s]) x.foll),AV.sl (List.map Rk.cells x.rank),AV.sl (zaa x.when_),AV.sl (List.map Ac.cells x.acts)]]).length),(15,AV.sl (List.map Tg.cells ts)),(16,iv (↑(List.map Tg.cells ts).length:Int)),(17,iv (↑(i+1):Int))]:TS)=[(1,sv table),(2,iv ev),(4,bv each),(8,AV.p 0 0),(11,AV.own 1 (out++[x]).length),(15,AV.sl (List.map Tg.cells ts)),(16,iv (↑(List.map Tg.cells ts).length:Int)),(17,iv (↑(i+1):Int))] by first|rfl|(simp;done)|(simp [X.cells,Qy.cells,V.cells,Col.cells,Rw.cells,Tb.cells,Fr.cells,Sch.cells,Tp.cells,Pl.cells,xCol,xLit,xBin,xNeg,Tg.cells];done)) (show ([Blk.box [AV.sl (List.map (fun s=>[sv s]) asg)],Blk.row Ty.Trigger (List.map Tg.cells out++[[sv x.name,sv x.table,bv x.before,iv x.event,AV.sl (List.map (fun s=>[sv s]) x.of),bv x.each,AV.sl (List.map (fun s=>[sv s]) x.prec),AV.sl (List.map (fun s=>[sv s]) x.foll),AV.sl (List.map Rk.cells x.rank),AV.sl (zaa x.when_),AV.sl (List.map Ac.cells x.acts)]]) false]:Heap)=[Blk.box [AV.sl (List.map (fun s=>[sv s]) asg)],Blk.row Ty.Trigger (List.map Tg.cells (out++[x])) false] by first|rfl|(simp;done)|(simp [X.cells,Qy.cells,V.cells,Col.cells,Rw.cells,Tb.cells,Fr.cells,Sch.cells,Tp.cells,Pl.cells,xCol,xLit,xBin,xNeg,Tg.cells];done)) (gZ R hg)))⟩
      ·obtain ⟨outZ,qZ,xZ,gZ⟩:=ih (i+1) (out++[x]) (by omega) zho (by omega);exact ⟨outZ,qZ,xZ,fun R hg=>zab (wkl (c':=(Cfg.mk (zeB N ts table ev asg each (i+1) (out++[x])).n (zeB N ts table ev asg each (i+1) (out++[x])).todo [(1,sv table),(2,iv ev),(4,bv each),(8,AV.p 0 0),(11,AV.own 1 (List.map Tg.cells out++[[sv x.name,sv x.table,bv x.before,iv x.event,AV.sl (List.map (fun s=>[sv s]) x.of),bv x.each,AV.sl (List.map (fun s=>[sv s]) x.prec),AV.sl (List.map (fun s=>[sv s]) x.foll),AV.sl (List.map Rk.cells x.rank),AV.sl (zaa x.when_),AV.sl (List.map Ac.cells x.acts)]]).length),(15,AV.sl (List.map Tg.cells ts)),(16,iv (↑(List.map Tg.cells ts).length:Int)),(17,iv (↑(i+1):Int))] [Blk.box [AV.sl (List.map (fun s=>[sv s]) asg)],Blk.row Ty.Trigger (List.map Tg.cells out++[[sv x.name,sv x.table,bv x.before,iv x.event,AV.sl (List.map (fun s=>[sv s]) x.of),bv x.each,AV.sl (List.map (fun s=>[sv s]) x.prec),AV.sl (List.map (fun s=>[sv s]) x.foll),AV.sl (List.map Rk.cells x.rank),AV.sl (zaa x.when_),AV.sl (List.map Ac.cells x.acts)]]) false])) [sb h0,se (zah Tg.cells hx rfl),sg h1,sg h2,sg h3,sb h4,sl [0] (zbP x.of asg zhu zhu),sb h5,sc (zfm N x hTx),sqx (AllLen [[sv x.name,sv x.table,bv x.before,iv x.event,AV.sl (List.map (fun s=>[sv s]) x.of),bv x.each,AV.sl (List.map (fun s=>[sv s]) x.prec),AV.sl (List.map (fun s=>[sv s]) x.foll),AV.sl (List.map Rk.cells x.rank),AV.sl (zaa x.when_),AV.sl (List.map Ac.cells x.acts)]] 11∧out.length=(List.map Tg.cells out).length∧(((List.map Tg.cells out).length+[[sv x.name,sv x.table,bv x.before,iv x.event,AV.sl (List.map (fun s=>[sv s]) x.of),bv x.each,AV.sl (List.map (fun s=>[sv s]) x.prec),AV.sl (List.map (fun s=>[sv s]) x.foll),AV.sl (List.map Rk.cells x.rank),AV.sl (zaa x.when_),AV.sl (List.map Ac.cells x.acts)]].length) * 200).le 140737488355328),si hw] [1,2,4,8,11,15,16,17] 2 kr (zan (show ([(1,sv table),(2,iv ev),(4,bv each),(8,AV.p 0 0),(11,AV.own 1 (List.map Tg.cells out++[[sv x.name,sv x.table,bv x.before,iv x.event,AV.sl (List.map (fun s=>[sv s]) x.of),bv x.each,AV.sl (List.map (fun s=>[sv s]) x.prec),AV.sl (List.map (fun s=>[sv s]) x.foll),AV.sl (List.map Rk.cells x.rank),AV.sl (zaa x.when_),AV.sl (List.map Ac.cells x.acts)]]).length),(15,AV.sl (List.map Tg.cells ts)),(16,iv (↑(List.map Tg.cells ts).length:Int)),(17,iv (↑(i+1):Int))]:TS)=[(1,sv table),(2,iv ev),(4,bv each),(8,AV.p 0 0),(11,AV.own 1 (out++[x]).length),(15,AV.sl (List.map Tg.cells ts)),(16,iv (↑(List.map Tg.cells ts).length:Int)),(17,iv (↑(i+1):Int))] by first|rfl|(simp;done)|(simp [X.cells,Qy.cells,V.cells,Col.cells,Rw.cells,Tb.cells,Fr.cells,Sch.cells,Tp.cells,Pl.cells,xCol,xLit,xBin,xNeg,Tg.cells];done)) (show ([Blk.box [AV.sl (List.map (fun s=>[sv s]) asg)],Blk.row Ty.Trigger (List.map Tg.cells out++[[sv x.name,sv x.table,bv x.before,iv x.event,AV.sl (List.map (fun s=>[sv s]) x.of),bv x.each,AV.sl (List.map (fun s=>[sv s]) x.prec),AV.sl (List.map (fun s=>[sv s]) x.foll),AV.sl (List.map Rk.cells x.rank),AV.sl (zaa x.when_),AV.sl (List.map Ac.cells x.acts)]]) false]:Heap)=[Blk.box [AV.sl (List.map (fun s=>[sv s]) asg)],Blk.row Ty.Trigger (List.map Tg.cells (out++[x])) false] by first|rfl|(simp;done)|(simp [X.cells,Qy.cells,V.cells,Col.cells,Rw.cells,Tb.cells,Fr.cells,Sch.cells,Tp.cells,Pl.cells,xCol,xLit,xBin,xNeg,Tg.cells];done)) (gZ R hg)))⟩
     ·obtain ⟨outZ,qZ,xZ,gZ⟩:=ih (i+1) out (by omega) zho (by omega);exact ⟨outZ,qZ,xZ,fun R hg=>zab (wkl [sb h0,se (zah Tg.cells hx rfl),sg h1,sg h2,sg h3,sb h4,si hw] [1,2,4,8,11,15,16,17] 2 kr (gZ R hg))⟩
    ·obtain ⟨outZ,qZ,xZ,gZ⟩:=ih (i+1) out (by omega) zho (by omega);exact ⟨outZ,qZ,xZ,fun R hg=>zab (wkl [sb h0,se (zah Tg.cells hx rfl),sg h1,sg h2,sb h3,si hw] [1,2,4,8,11,15,16,17] 2 kr (gZ R hg))⟩
   ·obtain ⟨outZ,qZ,xZ,gZ⟩:=ih (i+1) out (by omega) zho (by omega);exact ⟨outZ,qZ,xZ,fun R hg=>zab (wkl [sb h0,se (zah Tg.cells hx rfl),sg h1,sb h2,si hw] [1,2,4,8,11,15,16,17] 2 kr (gZ R hg))⟩
  ·obtain ⟨outZ,qZ,xZ,gZ⟩:=ih (i+1) out (by omega) zho (by omega);exact ⟨outZ,qZ,xZ,fun R hg=>zab (wkl [sb h0,se (zah Tg.cells hx rfl),sb h1,si hw] [1,2,4,8,11,15,16,17] 2 kr (gZ R hg))⟩
theorem zjF (N:Nat) (ts:List Tg) (table:Str) (ev:Int) (asg:List Str) (each:Bool) (hl:zae ts) (hs:zae asg) (hT:∀ t∈ts,TgSh N t):∃ (out:List Tg),out=ts.filter (appl table ev asg each)∧zac E0 S.before_Applicable [.sl (ts.map Tg.cells),sv table,iv ev,ssl asg,bv each] [] (.sl (out.map Tg.cells)) []:=by
 obtain ⟨out1,q1,q1_1,g1⟩:=zfc N ts table ev asg each zfC zfC hT 0 ([]) zfC zfC
 exact ⟨out1,by rw [List.take_length] at *;assumption,wkc At.before_Applicable (c':=(Cfg.mk (zeB N ts table ev asg each 0 []).n (zeB N ts table ev asg each 0 []).todo [(1,sv table),(2,iv ev),(4,bv each),(8,AV.p 0 0),(11,AV.nl),(15,AV.sl (List.map Tg.cells ts)),(16,iv (↑(List.map Tg.cells ts).length:Int)),(17,iv 0)] [Blk.box [AV.sl (List.map (fun s=>[sv s]) asg)]])) [] [1,2,4,8,11,15,16,17] 1 kr (za7 (c':=zeB N ts table ev asg each 0 []) 11 Ty.Trigger [1,2,4,8,11,15,16,17] 2 kr kr kr (g1 _ (zab (wkr [sqx (out1.length=(List.map Tg.cells out1).length),sb q1_1] kr))))⟩
theorem zjs (N:Nat) (ts:List Tg) (table:Str) (ev:Int) (asg:List Str) (each:Bool) (hl:zae ts) (hs:zae asg) (hT:∀ t∈ts,TgSh N t):zac E0 S.before_Applicable [.sl (ts.map Tg.cells),sv table,iv ev,ssl asg,bv each] [] (.sl ((ts.filter (appl table ev asg each)).map Tg.cells)) []:=by
 obtain ⟨out,rfl,h⟩:=zjF N ts table ev asg each hl hs hT
 exact h
end Go.AM
namespace Go.AM
set_option maxRecDepth 100000
set_option maxHeartbeats 1000000
set_option linter.unusedSimpArgs false
set_option linter.unusedVariables false
theorem ztv (l:List Int) (h:(l.take 500).length≤500):Tp.cells ⟨l.take 500,0,h⟩=[.sl (((l.map fun n=>[iv n]).take 500).drop 0),iv 0]:=by simp [Tp.cells,List.map_take]
theorem zo5 (l:List Int):∃ (t:Tp),zac E0 S.world_New [isl l] [] (.p 0 0) [.box t.cells]:=by
 cases h1:decide ((500:Int) < (((l.map fun n=>[iv n]).length:Nat):Int))
 ·exact ⟨⟨l,0,by simp at h1;omega⟩,wkK At.world_New [sb h1] kr⟩
 ·refine ⟨⟨l.take 500,0,by simp;omega⟩,?_⟩
  rw [ztv]
  exact wkK At.world_New [sb h1,sq (show SubAt (l.map fun n=>[iv n]) 0 500 1 from ⟨by decide,by decide,by simpa using Int.le_of_lt (by simpa using h1),by simp⟩)] kr
structure FsT (frs:List Fr):Prop where
 len:frs.length≤900
 rows:∀ f∈frs,zhp f.cols f.vals
 few:∀ f∈frs,Few f.cols
def schT:Sch:=⟨⟨#[116]⟩,[⟨⟨#[105,100]⟩,1,true,true⟩,⟨⟨#[110]⟩,1,false,false⟩,⟨⟨#[98]⟩,2,false,false⟩,⟨⟨#[115]⟩,3,false,false⟩]⟩
theorem ztl:zam ⟨#[116]⟩=schT:=by kernel_rfl
theorem ztA:SchOk schT:=zel (by simp [zao,schT])
def ztb (n:Int):V :=
 V.mk 1 n (ByteArray.mk #[])
theorem zjg (n:Int) :zac E0 S.ref1_Number [iv n] [] ((ztb n).av) []:=by
 exact wk At.ref1_Number [] kr
def zjX:Sch:=⟨⟨#[108,111,103]⟩,[⟨⟨#[110]⟩,1,false,false⟩,⟨⟨#[115]⟩,3,false,false⟩]⟩
theorem zrW:zam ⟨#[108,111,103]⟩=zjX:=by kernel_rfl
end Go.AM
namespace Go.AM
set_option maxRecDepth 100000
set_option maxHeartbeats 1000000
set_option linter.unusedSimpArgs false
set_option linter.unusedVariables false
/- known -/
@[simp] theorem ba_self (s:Str):(s==s)=true:=by
 cases s with
 | mk d =>
  have h:(d==d)=true:=by simp
  exact h
def setA (c:Str) (e:X):Ac :=
 Ac.mk 5 (ByteArray.mk #[]) [] [] [Se.mk c e] [] (ByteArray.mk #[])
theorem zcp (c:Str) (e:X) :zac E0 S.law20_set [sv c,e.av] [] ((setA c e).av) []:=by
 unfold setA
 exact (by (try simp only [X.av,Qy.av,V.av,Tb.av,Sch.av,Pl.av,xsl,fsl,vsl,tsl,List.map_append,List.map_cons,List.map_nil,V.cells,Col.cells,Rw.cells,Tb.cells,Fr.cells,Sch.cells,Pl.cells,zaH,zaj,zal,zar,zau,X.cells,Qy.cells,X.args_mk,X.sub_mk,Qy.items_mk,Qy.wh_mk,xCol,xLit,xBin,xNeg,Im.cells,Lk.cells,Ac.cells,Se.cells,Tg.cells,setA]);exact wk At.law20_set [] kr)
noncomputable def L_eqV (l:List V) (i:Nat) :Cfg:=zav B.slices_Equal_Value 0 [(0,vsl l),(1,vsl l),(12,iv ((l.map V.cells).length:Nat)),(13,iv (i:Nat))] []
theorem ze2 (l:List V) (hl:zae l) (i:Nat)  (hi:i≤(l).length) (hI:True):(True)∧(decide ((((l).length:Nat):Int) < (((l.map V.cells).length:Nat):Int))=false)∧∀ R,Good E0 B.slices_Equal_Value [] (L_eqV l (l).length ) R→Good E0 B.slices_Equal_Value [] (L_eqV l i ) R:=by
 obtain ⟨kk,hk⟩:∃ kk,i+kk=(l).length:=⟨(l).length - i,by omega⟩
 induction kk generalizing i  hI with
 | zero =>
  have e0:i=(l).length:=by omega
  subst e0
  exact ⟨hI,by simp,fun R hg=>hg⟩
 | succ kk ih =>
  obtain ⟨x,hx⟩:=zay (l:=l) (i:=i) (by omega)
  have h0:decide (((i:Nat):Int) < (((l.map V.cells).length:Nat):Int))=true:=by simp;omega
  have hw:IntKind.i64.wrap (((i:Nat):Int)+1)=((i+1:Nat):Int):=zap i (by first|omega|(simp only [zae,Few] at *;omega))
  cases h1:!(x.kind==x.kind&&(x.int==x.int&&(x.text==x.text&&true)))
  ·obtain ⟨qZ,xZ,gZ⟩:=ih (i+1) (by omega) (by first|trivial|assumption|(simp;done)|omega|(simp;omega)|(simp at *;omega)) (by omega);exact ⟨qZ,xZ,fun R hg=>zab (wkl [sb h0,sd [(2,[se (zah V.cells hx rfl)]),(6,[se (zah V.cells hx rfl)]),(8,[sq zaR])],sb h1,si hw] [0,1,12,13] 0 kr (gZ R hg))⟩
  ·exact False.elim (by simp at *)
theorem ze1 (l:List V) (hl:zae l):∃ (r:Bool),r=true∧zac E0 S.slices_Equal_Value [vsl l,vsl l] [] (bv r) []:=by
 cases h1:(↑(List.map V.cells l).length:Int) != (↑(List.map V.cells l).length:Int)
 ·obtain ⟨q2,q2_1,g2⟩:=ze2 l (by first|assumption|omega|(simp;done)|(simp;omega)) 0 (by first|assumption|omega|(simp;done)|(simp;omega)) (by first|assumption|omega|(simp;done)|(simp;omega))
  exact ⟨true,by first|rfl|(exfalso;simp at *;done),wkc At.slices_Equal_Value [sb h1] [0,1,12,13] 0 kr (g2 _ (zab (wkr [sb q2_1] kr)))⟩
 ·exact ⟨false,by first|rfl|(exfalso;simp at *;done),wk At.slices_Equal_Value [sb h1] kr⟩
def exK:X:=xBin 9 (xCol ⟨#[78,69,87]⟩ ⟨#[110]⟩) (xNum 1)
def tgK:Tg:=⟨⟨#[97]⟩,⟨#[108,111,103]⟩,true,1,[],true,[],[],[],[],[setA ⟨#[110]⟩ exK]⟩
def rowK:List V:=[⟨1,4,⟨#[]⟩⟩,⟨0,0,⟨#[]⟩⟩]
def newK:List V:=[⟨1,5,⟨#[]⟩⟩,⟨0,0,⟨#[]⟩⟩]
theorem zqp:bRow 7 [tgK] [] zjX [] rowK [] []=(newK,[],[],0):=by kernel_rfl
theorem zq2:[tgK].filter (appl ⟨#[108,111,103]⟩ 1 [] true)=[tgK]:=by kernel_rfl
theorem zrs:TgOk 7 tgK:=by
 refine ⟨by simp [tgK],by simp [tgK],by simp [tgK],by simp [tgK],by simp [tgK],by simp [tgK],by simp [tgK],?_⟩
 simp only [tgK,List.mem_singleton,forall_eq]
 refine ⟨by simp [setA],by simp [setA],by simp [setA],by simp [setA],by simp [setA],?_,by simp [setA],by simp [setA]⟩
 simp only [setA,List.mem_singleton,forall_eq]
 exact zd5 (zep ⟨_,_,rfl⟩) (zcM (by omega) (by omega))
theorem TgOk.tr {n:Nat} {t:Tg} (h:TgOk (n+1) t):TrOk (n+1) t:=by
 refine ⟨zaK h.acts,fun a ha=>?_,h.when_⟩
 have h1:=(h.act a ha).set
 unfold Ac.set0
 cases hs:a.sets with
 | nil=>exact ⟨zaS,⟨by simp [zeP],by simp [zeP]⟩,fun x hx=>by simp [zeP] at hx,fun q hq=>by simp [zeP] at hq⟩
 | cons x r=>rw [hs] at h1;exact h1 x (by simp)
theorem zs6:NwOk rowK:=⟨by decide,fun v hv=>by
 simp only [rowK,List.mem_cons,List.not_mem_nil,or_false] at hv
 rcases hv with rfl|rfl
 ·exact zbv (by decide)
 ·exact zaS⟩
theorem zsD:TbOk []:=⟨by decide,fun _ h=>by simp at h,fun _ h=>by simp at h,fun _ h=>by simp at h⟩
theorem zsW:TbG []:=⟨fun _ h=>by simp at h,fun _ h=>by simp at h⟩
theorem zjC:zac E0 S.before_Row [.sl ([tgK].map Tg.cells),.sl [],zjX.av,.sl [],vsl rowK,.sl [],.sl []] [] (.tup [vsl newK,isl [],isl [],iv 0]) []:=by
 have h:=zjQ 7 [tgK] [] zjX [] rowK [] [] (by decide) (by decide) (by decide) (by decide) ⟨by decide,fun v hv=>by simp at hv⟩ zsD zsW (by decide) (fun t ht=>by simp only [List.mem_singleton] at ht;exact ht ▸ zrs.tr) zs6 (by decide) (by decide)
 rw [zqp] at h
 exact h
theorem zgb:zac E0 S.before_Applicable [.sl ([tgK].map Tg.cells),sv ⟨#[108,111,103]⟩,iv 1,.sl [],bv true] [] (.sl ([tgK].map Tg.cells)) []:=by
 have h:=zjs 7 [tgK] ⟨#[108,111,103]⟩ 1 [] true (by decide) (by decide) (fun t ht=>by simp only [List.mem_singleton] at ht;exact ht ▸ zrs.sh)
 rw [zq2] at h
 exact h
theorem zfR:zac E0 S.slices_Equal_Value [vsl newK,vsl newK] [] (bv true) []:=by
 obtain ⟨r,rfl,h⟩:=ze1 newK (by decide)
 exact h
theorem zna  :∃ (r:Bool),r=true∧zac E0 S.law20_known [] [] (bv r) []:=by
 exact ⟨(↑(List.map Tg.cells [tgK]).length:Int)==(1:Int),by rfl,(by (try simp only [X.av,Qy.av,V.av,Tb.av,Sch.av,Pl.av,xsl,fsl,vsl,tsl,List.map_append,List.map_cons,List.map_nil,V.cells,Col.cells,Rw.cells,Tb.cells,Fr.cells,Sch.cells,Pl.cells,zaH,zaj,zal,zar,zau,X.cells,Qy.cells,X.args_mk,X.sub_mk,Qy.items_mk,Qy.wh_mk,xCol,xLit,xBin,xNeg,Im.cells,Lk.cells,Ac.cells,Se.cells,Tg.cells,setA]);exact wk At.law20_known [sc (zbq (ByteArray.mk #[108,111,103]) (by first|assumption|exact zdv|omega)),sc (zaN (ByteArray.mk #[78,69,87]) (ByteArray.mk #[110])),sc (za0 1 (by first|assumption|exact zdv|omega)),sc (zaB 9 (xCol (ByteArray.mk #[78,69,87]) (ByteArray.mk #[110])) (xNum 1)),sc (zcp (ByteArray.mk #[110]) (xBin 9 (xCol (ByteArray.mk #[78,69,87]) (ByteArray.mk #[110])) (xNum 1))),sd [(3,[sc (zjg 4)]),(6,[sc zjC])],sg (rfl:true=true),sc (zjg 5),sc zfR,sg (rfl:true=true),sc zgb] kr)⟩
theorem zni:zac E0 S.law20_known [] [] (bv true) []:=by
 obtain ⟨r,rfl,h⟩:=zna
 exact h
end Go.AM
namespace Go.AM
set_option maxRecDepth 100000
set_option maxHeartbeats 1000000
set_option linter.unusedSimpArgs false
set_option linter.unusedVariables false
theorem zaE {p:Prop} (h:p:=by first|assumption|omega|(simp;done)|(simp;omega)):p:=h
theorem zcA {p:Prop} (h:p:=by first|trivial|assumption|(simp;done)|omega|(simp;omega)|(simp at *;omega)):p:=h
theorem ziC {p:Prop} (h:p:=by first|assumption|omega|exact List.mem_of_getElem? (by assumption)|(simp;done)|(simp;omega)|(simp only [beq_eq_false_iff_ne,ne_eq,zjl,zd6,List.length_map,decide_eq_false_iff_not,decide_eq_true_eq] at *;omega)):p:=h
theorem zgL {p:Prop} (h:p:=by first|omega|(simp only [zae,Few] at *;omega)):p:=h
theorem zoj {p:Prop} (h:p:=by first|omega|(simp only [decide_eq_false_iff_not,decide_eq_true_eq] at *;omega)):p:=h
theorem zoF {s:Str} {i:Int} (h:0≤i∧i < ((s.size:Nat):Int)):∃ c:UInt8,ByteAt s i ((c.toNat:Nat):Int):=by
 obtain ⟨n,rfl⟩:=Int.eq_ofNat_of_zero_le h.1
 have hlt:n < s.size:=by omega
 exact ⟨s[n],⟨by omega,by simp [hlt]⟩⟩
theorem zjm (c:Int) :∃ (r:Bool),zac E0 S.ref4_Letter [.v (.int .u8 c)] [] (bv r) []:=by
 cases h1:decide (97≤c)
 ·exact ⟨false,wk At.ref4_Letter [sb h1] kr⟩
 ·exact ⟨decide (c≤(122:Int)),wk At.ref4_Letter [sg h1] kr⟩
theorem zof (c:Int) :∃ (r:Bool),zac E0 S.ref4_Digit [.v (.int .u8 c)] [] (bv r) []:=by
 cases h1:decide (48≤c)
 ·exact ⟨false,wk At.ref4_Digit [sb h1] kr⟩
 ·exact ⟨decide (c≤(57:Int)),wk At.ref4_Digit [sg h1] kr⟩
noncomputable def L_vn (s:Str) (i:Nat) :Cfg:=zav B.ref4_ValidName 0 [(0,sv s),(3,iv (i:Nat))] []
theorem zgh (s:Str) (hs:decide ((12:Int) < ((s.size:Nat):Int))=false) (i:Nat)  (hi:i≤(s.size)) (hI:True):((True)∧(decide ((((s.size):Nat):Int) < (((s.size):Nat):Int))=false)∧∀ R,Good E0 B.ref4_ValidName [] (L_vn s s.size ) R→Good E0 B.ref4_ValidName [] (L_vn s i ) R)∨(∃ (r:Bool),Good E0 B.ref4_ValidName [] (L_vn s i ) (Shut 0 fun rZ hZ=>rZ=(bv r)∧hZ=[])):=by
 obtain ⟨kk,hk⟩:∃ kk,i+kk=(s.size):=⟨(s.size) - i,by omega⟩
 induction kk generalizing i  hI with
 | zero =>
  have e0:i=(s.size):=by omega
  subst e0
  exact .inl ⟨hI,by simp,fun R hg=>hg⟩
 | succ kk ih =>
  have h0:decide (((i:Nat):Int) < (((s.size):Nat):Int))=true:=by simp;omega
  have hw:IntKind.i64.wrap (((i:Nat):Int)+1)=((i+1:Nat):Int):=zap i (by (simp only [decide_eq_false_iff_not] at hs;omega))
  obtain ⟨c1,b1⟩:=zoF (s:=s) (i:=(i:Int)) zoj
  obtain ⟨r2,c2⟩:=(zjm ((c1.toNat:Int)))
  cases h3:!r2
  ·exact (ih (i+1) (by omega) zcA (by omega)).elim (fun ⟨qZ,xZ,gZ⟩=>.inl ⟨qZ,xZ,fun R hg=>zab (wkl [sb h0,sy b1,sc c2,sb h3,si hw] [0,3] 0 kr (gZ R hg))⟩) (fun ⟨rY,gZ⟩=>.inr ⟨rY,zab (wkl [sb h0,sy b1,sc c2,sb h3,si hw] [0,3] 0 kr gZ)⟩)
  ·obtain ⟨r4,c4⟩:=(zof ((c1.toNat:Int)))
   let p_1:List St:=[sb h0,sy b1,sc c2,sg h3,sy b1,sc c4]
   let p_2:List St:=[sb h0,sy b1,sc c2,sg h3,sy b1,sc c4]
   cases h5:!r4
   ·exact (ih (i+1) (by omega) zcA (by omega)).elim (fun ⟨qZ,xZ,gZ⟩=>.inl ⟨qZ,xZ,fun R hg=>zab (wkl (p_1++[sb h5,si hw]) [0,3] 0 kr (gZ R hg))⟩) (fun ⟨rY,gZ⟩=>.inr ⟨rY,zab (wkl (p_2++[sb h5,si hw]) [0,3] 0 kr gZ)⟩)
   ·cases h6:(c1.toNat:Int) != 95
    ·exact (ih (i+1) (by omega) zcA (by omega)).elim (fun ⟨qZ,xZ,gZ⟩=>.inl ⟨qZ,xZ,fun R hg=>zab (wkl (p_1++[sg h5,sy b1,sb h6,si hw]) [0,3] 0 kr (gZ R hg))⟩) (fun ⟨rY,gZ⟩=>.inr ⟨rY,zab (wkl (p_2++[sg h5,sy b1,sb h6,si hw]) [0,3] 0 kr gZ)⟩)
    ·exact .inr ⟨false,zab (wkr (p_1++[sg h5,sy b1,sb h6]) kr)⟩
theorem zax (s:Str) :∃ (r:Bool),zac E0 S.ref4_ValidName [sv s] [] (bv r) []:=by
 cases h1:decide ((↑(ByteArray.size s):Int) < 1)
 ·cases h2:decide (12 < (↑(ByteArray.size s):Int))
  ·obtain ⟨c3,b3⟩:=zoF (s:=s) (i:=(0:Int)) zoj
   obtain ⟨r4,c4⟩:=(zjm ((c3.toNat:Int)))
   cases h5:!r4
   ·rcases zgh s zaE 0 zaE zaE with ⟨q6,q6_1,g6⟩|⟨r6_0,g6⟩
    ·exact ⟨true,wkc At.ref4_ValidName [sg h1,sg h2,sy b3,sc c4,sb h5] [0,3] 0 kr (g6 _ (zab (wkr [sb q6_1] kr)))⟩
    ·exact ⟨r6_0,wkc At.ref4_ValidName [sg h1,sg h2,sy b3,sc c4,sb h5] [0,3] 0 kr (g6)⟩
   ·exact ⟨false,wk At.ref4_ValidName [sg h1,sg h2,sy b3,sc c4,sb h5] kr⟩
  ·exact ⟨false,wk At.ref4_ValidName [sg h1,sb h2] kr⟩
 ·exact ⟨false,wk At.ref4_ValidName [sb h1] kr⟩
noncomputable def L_rv (v:V) (i:Nat) :Cfg:=zav B.ref1_Valid 0 [(1,.p 0 0),(3,iv (i:Nat))] [.box [iv v.kind,iv v.int,sv v.text]]
theorem zh0 (v:V) (hs:decide ((64:Int) < ((v.text.size:Nat):Int))=false) (i:Nat)  (hi:i≤(v.text.size)) (hI:True):((True)∧(decide ((((v.text.size):Nat):Int) < (((v.text.size):Nat):Int))=false)∧∀ R,Good E0 B.ref1_Valid [] (L_rv v v.text.size ) R→Good E0 B.ref1_Valid [] (L_rv v i ) R)∨(∃ (r:Bool),Good E0 B.ref1_Valid [] (L_rv v i ) (Shut 0 fun rZ hZ=>rZ=(bv r)∧hZ=[])):=by
 obtain ⟨kk,hk⟩:∃ kk,i+kk=(v.text.size):=⟨(v.text.size) - i,by omega⟩
 induction kk generalizing i  hI with
 | zero =>
  have e0:i=(v.text.size):=by omega
  subst e0
  exact .inl ⟨hI,by simp,fun R hg=>hg⟩
 | succ kk ih =>
  have h0:decide (((i:Nat):Int) < (((v.text.size):Nat):Int))=true:=by simp;omega
  have hw:IntKind.i64.wrap (((i:Nat):Int)+1)=((i+1:Nat):Int):=zap i (by (simp only [decide_eq_false_iff_not] at hs;omega))
  obtain ⟨c1,b1⟩:=zoF (s:=v.text) (i:=(i:Int)) zoj
  cases h2:decide ((c1.toNat:Int) < 32)
  ·cases h3:decide (126 < (c1.toNat:Int))
   ·exact (ih (i+1) (by omega) zcA (by omega)).elim (fun ⟨qZ,xZ,gZ⟩=>.inl ⟨qZ,xZ,fun R hg=>zab (wkl [sb h0,sy b1,sg h2,sy b1,sb h3,si hw] [1,3] 1 kr (gZ R hg))⟩) (fun ⟨rY,gZ⟩=>.inr ⟨rY,zab (wkl [sb h0,sy b1,sg h2,sy b1,sb h3,si hw] [1,3] 1 kr gZ)⟩)
   ·exact .inr ⟨false,zab (wkr [sb h0,sy b1,sg h2,sy b1,sb h3] kr)⟩
  ·exact .inr ⟨false,zab (wkr [sb h0,sy b1,sb h2] kr)⟩
theorem zdj (v:V) :∃ (r:Bool),zac E0 S.ref1_Valid [v.av] [] (bv r) []:=by
 cases h1:v.kind==0
 ·cases h2:v.kind==1
  ·cases h3:v.kind==2
   ·cases h4:v.kind==3
    ·exact ⟨false,wk At.ref1_Valid [sb h1,sb h2,sb h3,sb h4] kr⟩
    ·cases h5:v.int != 0
     ·cases h6:decide (64 < (↑(ByteArray.size v.text):Int))
      ·let p_1:List St:=[sb h1,sb h2,sb h3,sb h4,sg h5,sb h6]
       rcases zh0 v zaE 0 zaE zaE with ⟨q7,q7_1,g7⟩|⟨r7_0,g7⟩
       ·exact ⟨true,wkc At.ref1_Valid p_1 [1,3] 1 kr (g7 _ (zab (wkr [sb q7_1] kr)))⟩
       ·exact ⟨r7_0,wkc At.ref1_Valid p_1 [1,3] 1 kr (g7)⟩
      ·exact ⟨false,wk At.ref1_Valid [sb h1,sb h2,sb h3,sb h4,sg h5,sb h6] kr⟩
     ·exact ⟨false,wk At.ref1_Valid [sb h1,sb h2,sb h3,sb h4,sb h5] kr⟩
   ·cases h8:v.int==0
    ·cases h9:v.int==1
     ·exact ⟨false,wk At.ref1_Valid [sb h1,sb h2,sb h3,sg h8,sb h9] kr⟩
     ·exact ⟨ByteArray.toList v.text==(ByteArray.mk #[]).toList,wk At.ref1_Valid [sb h1,sb h2,sb h3,sg h8,sg h9] kr⟩
    ·exact ⟨ByteArray.toList v.text==(ByteArray.mk #[]).toList,wk At.ref1_Valid [sb h1,sb h2,sb h3,sb h8] kr⟩
  ·exact ⟨ByteArray.toList v.text==(ByteArray.mk #[]).toList,wk At.ref1_Valid [sb h1,sb h2] kr⟩
 ·cases h10:v.int==0
  ·exact ⟨false,wk At.ref1_Valid [sb h1,sb h10] kr⟩
  ·exact ⟨ByteArray.toList v.text==(ByteArray.mk #[]).toList,wk At.ref1_Valid [sb h1,sg h10] kr⟩
theorem zd9 (e:X) :∃ (r:Bool),zac E0 S.ref11_plain [e.av] [] (bv r) []:=by
 cases h1:e.val.kind==0&&(e.val.int==0&&(e.val.text==ByteArray.mk #[]&&true))
 ·exact ⟨false,wk At.ref11_plain [sq zaR,sb h1] kr⟩
 ·cases h2:ByteArray.toList e.table==(ByteArray.mk #[]).toList
  ·exact ⟨false,wk At.ref11_plain [sq zaR,sg h1,sb h2] kr⟩
  ·exact ⟨ByteArray.toList e.name==(ByteArray.mk #[]).toList,wk At.ref11_plain [sq zaR,sg h1,sg h2] kr⟩
theorem zcK (s:Str) :∃ (r:Bool),zac E0 S.ref11_source [sv s] [] (bv r) []:=by
 obtain ⟨r1,c1⟩:=(zax s)
 rcases (Bool.eq_false_or_eq_true r1).symm with h2|h2
 ·cases h3:ByteArray.toList s==(ByteArray.mk #[73,78,83,69,82,84,69,68]).toList
  ·exact ⟨ByteArray.toList s==(ByteArray.mk #[(68:UInt8),(69:UInt8),(76:UInt8),(69:UInt8),(84:UInt8),(69:UInt8),(68:UInt8)]).toList,wk At.ref11_source [sc c1,sg h2,sg h3] kr⟩
  ·exact ⟨true,wk At.ref11_source [sc c1,sg h2,sb h3] kr⟩
 ·exact ⟨true,wk At.ref11_source [sc c1,sb h2] kr⟩
abbrev VxOk (x:X):Prop:=∃ b:Bool,zac E0 S.ref11_ValidExpr [x.av] [] (bv b) []
abbrev VlOk (l:List X):Prop:=∃ b:Bool,zac E0 S.ref11_all [xsl l] [] (bv b) []
noncomputable def L_al (l:List X) (i:Nat) :Cfg:=zav B.ref11_all 0 [(5,xsl l),(6,iv ((zaa l).length:Nat)),(7,iv (i:Nat))] []
theorem ziD (l:List X) (hl:zae l) (hv:∀ x∈l,VxOk x) (i:Nat)  (hi:i≤(l).length) (hI:True):((True)∧(decide ((((l).length:Nat):Int) < (((zaa l).length:Nat):Int))=false)∧∀ R,Good E0 B.ref11_all [] (L_al l (l).length ) R→Good E0 B.ref11_all [] (L_al l i ) R)∨(∃ (r:Bool),Good E0 B.ref11_all [] (L_al l i ) (Shut 0 fun rZ hZ=>rZ=(bv r)∧hZ=[])):=by
 obtain ⟨kk,hk⟩:∃ kk,i+kk=(l).length:=⟨(l).length - i,by omega⟩
 induction kk generalizing i  hI with
 | zero =>
  have e0:i=(l).length:=by omega
  subst e0
  exact .inl ⟨hI,by simp,fun R hg=>hg⟩
 | succ kk ih =>
  obtain ⟨x,hx⟩:=zay (l:=l) (i:=i) (by omega)
  have h0:decide (((i:Nat):Int) < (((zaa l).length:Nat):Int))=true:=by simp;omega
  have hw:IntKind.i64.wrap (((i:Nat):Int)+1)=((i+1:Nat):Int):=zap i zgL
  have hvx:=hv x (List.mem_of_getElem? hx)
  obtain ⟨b1,c1⟩:=hvx
  cases h2:!b1
  ·exact (ih (i+1) (by omega) zcA (by omega)).elim (fun ⟨qZ,xZ,gZ⟩=>.inl ⟨qZ,xZ,fun R hg=>zab (wkl [sb h0,se (zbn hx),sc c1,sb h2,si hw] [5,6,7] 0 kr (gZ R hg))⟩) (fun ⟨rY,gZ⟩=>.inr ⟨rY,zab (wkl [sb h0,se (zbn hx),sc c1,sb h2,si hw] [5,6,7] 0 kr gZ)⟩)
  ·exact .inr ⟨false,zab (wkr [sb h0,se (zbn hx),sc c1,sb h2] kr)⟩
theorem zfG (l:List X) (hl:zae l) (hv:∀ x∈l,VxOk x):∃ (r:Bool),zac E0 S.ref11_all [xsl l] [] (bv r) []:=by
 rcases ziD l zaE zaE 0 zaE zaE with ⟨q1,q1_1,g1⟩|⟨r1_0,g1⟩
 ·exact ⟨true,wkc At.ref11_all [] [5,6,7] 0 kr (g1 _ (zab (wkr [sb q1_1] kr)))⟩
 ·exact ⟨r1_0,wkc At.ref11_all [] [5,6,7] 0 kr (g1)⟩
noncomputable def L_vx (e:X) (i:Nat) :Cfg:=zav B.ref11_ValidExpr 0 [(1,.p 0 0),(99,.sl (zad e.sub)),(100,iv ((zad e.sub).length:Nat)),(101,iv (i:Nat))] [.box e.cells]
theorem zb2 (e:X) (hs:zae e.sub) (hq:∀ q∈e.sub,VlOk q.items∧VlOk q.wh) (i:Nat)  (hi:i≤(e.sub).length) (hI:True):((True)∧(decide ((((e.sub).length:Nat):Int) < (((zad e.sub).length:Nat):Int))=false)∧∀ R,Good E0 B.ref11_ValidExpr [] (L_vx e (e.sub).length ) R→Good E0 B.ref11_ValidExpr [] (L_vx e i ) R)∨(∃ (r:Bool),Good E0 B.ref11_ValidExpr [] (L_vx e i ) (Shut 0 fun rZ hZ=>rZ=(bv r)∧hZ=[])):=by
 obtain ⟨kk,hk⟩:∃ kk,i+kk=(e.sub).length:=⟨(e.sub).length - i,by omega⟩
 induction kk generalizing i  hI with
 | zero =>
  have e0:i=(e.sub).length:=by omega
  subst e0
  exact .inl ⟨hI,by simp,fun R hg=>hg⟩
 | succ kk ih =>
  obtain ⟨x,hx⟩:=zay (l:=e.sub) (i:=i) (by omega)
  have h0:decide (((i:Nat):Int) < (((zad e.sub).length:Nat):Int))=true:=by simp;omega
  have hw:IntKind.i64.wrap (((i:Nat):Int)+1)=((i+1:Nat):Int):=zap i zgL
  have hi1:=(hq x (List.mem_of_getElem? hx)).1;have hi2:=(hq x (List.mem_of_getElem? hx)).2
  cases h1:!x.star==(e.kind==8)
  ·obtain ⟨r2,c2⟩:=(zcK x.frm)
   cases h3:!r2
   ·obtain ⟨b4,c4⟩:=hi1
    let p_1:List St:=[sb h0,se (zaX hx),sg h1,sc c2,sg h3,sc c4]
    cases h5:!b4
    ·obtain ⟨b6,c6⟩:=hi2
     cases h7:!b6
     ·exact (ih (i+1) (by omega) zcA (by omega)).elim (fun ⟨qZ,xZ,gZ⟩=>.inl ⟨qZ,xZ,fun R hg=>zab (wkl (p_1++[sg h5,sc c6,sb h7,si hw]) [1,99,100,101] 1 kr (gZ R hg))⟩) (fun ⟨rY,gZ⟩=>.inr ⟨rY,zab (wkl [sb h0,se (zaX hx),sg h1,sc c2,sg h3,sc c4,sg h5,sc c6,sb h7,si hw] [1,99,100,101] 1 kr gZ)⟩)
     ·exact .inr ⟨false,zab (wkr (p_1++[sg h5,sc c6,sb h7]) kr)⟩
    ·exact .inr ⟨false,zab (wkr (p_1++[sb h5]) kr)⟩
   ·exact .inr ⟨false,zab (wkr [sb h0,se (zaX hx),sg h1,sc c2,sb h3] kr)⟩
  ·exact .inr ⟨false,zab (wkr [sb h0,se (zaX hx),sb h1] kr)⟩
theorem zkK (e:X) (hs:zae e.sub) (ha:∃ b:Bool,zac E0 S.ref11_all [xsl e.args] [] (bv b) []) (hq:∀ q∈e.sub,VlOk q.items∧VlOk q.wh):∃ (r:Bool),zac E0 S.ref11_ValidExpr [e.av] [] (bv r) []:=by
 cases h1:!zkx e
 ·cases h2:e.kind != 5
  ·let p_1:List St:=[sc (zbp e),sg h1,sb h2]
   cases h3:e.kind != 6
   ·cases h4:e.kind==1
    ·cases h5:e.kind==2
     ·obtain ⟨r6,c6⟩:=(zd9 e)
      cases h7:!r6
      ·obtain ⟨b8,c8⟩:=ha
       let p_2:List St:=p_1++[sb h3,sb h4,sb h5,sc c6,sg h7,sc c8]
       cases h9:!b8
       ·rcases zb2 e zaE zaE 0 zaE zaE with ⟨q10,q10_1,g10⟩|⟨r10_0,g10⟩
        ·exact ⟨true,wkc At.ref11_ValidExpr (p_2++[sb h9]) [1,99,100,101] 1 kr (g10 _ (zab (wkr [sb q10_1] kr)))⟩
        ·exact ⟨r10_0,wkc At.ref11_ValidExpr (p_2++[sb h9]) [1,99,100,101] 1 kr (g10)⟩
       ·exact ⟨false,wk At.ref11_ValidExpr (p_2++[sb h9]) kr⟩
      ·exact ⟨false,wk At.ref11_ValidExpr (p_1++[sb h3,sb h4,sb h5,sc c6,sb h7]) kr⟩
     ·cases h11:ByteArray.toList e.table==(ByteArray.mk #[]).toList
      ·obtain ⟨r12,c12⟩:=(zcK e.table)
       rcases (Bool.eq_false_or_eq_true r12).symm with h13|h13
       ·let p_3:List St:=p_1++[sb h3,sb h4,sb h5,sg h11,sc c12,sg h13]
        cases h14:ByteArray.toList e.table==(ByteArray.mk #[78,69,87]).toList
        ·cases h15:ByteArray.toList e.table==(ByteArray.mk #[79,76,68]).toList
         ·exact ⟨false,wk At.ref11_ValidExpr (p_3++[sg h14,sb h15]) kr⟩
         ·obtain ⟨r16,c16⟩:=(zax e.name)
          rcases (Bool.eq_false_or_eq_true r16).symm with h17|h17
          ·exact ⟨false,wk At.ref11_ValidExpr (p_3++[sg h14,sg h15,sc c16,sb h17]) kr⟩
          ·exact ⟨e.val.kind==(0:Int)&&(e.val.int==(0:Int)&&(e.val.text==ByteArray.mk #[]&&true)),wk At.ref11_ValidExpr (p_3++[sg h14,sg h15,sc c16,sg h17,sq zaR]) kr⟩
        ·obtain ⟨r18,c18⟩:=(zax e.name)
         rcases (Bool.eq_false_or_eq_true r18).symm with h19|h19
         ·exact ⟨false,wk At.ref11_ValidExpr (p_3++[sb h14,sc c18,sb h19]) kr⟩
         ·exact ⟨e.val.kind==(0:Int)&&(e.val.int==(0:Int)&&(e.val.text==ByteArray.mk #[]&&true)),wk At.ref11_ValidExpr (p_3++[sb h14,sc c18,sg h19,sq zaR]) kr⟩
       ·obtain ⟨r20,c20⟩:=(zax e.name)
        let p_4:List St:=p_1++[sb h3,sb h4,sb h5,sg h11,sc c12,sb h13,sc c20]
        rcases (Bool.eq_false_or_eq_true r20).symm with h21|h21
        ·exact ⟨false,wk At.ref11_ValidExpr (p_4++[sb h21]) kr⟩
        ·exact ⟨e.val.kind==(0:Int)&&(e.val.int==(0:Int)&&(e.val.text==ByteArray.mk #[]&&true)),wk At.ref11_ValidExpr (p_4++[sg h21,sq zaR]) kr⟩
      ·obtain ⟨r22,c22⟩:=(zax e.name)
       rcases (Bool.eq_false_or_eq_true r22).symm with h23|h23
       ·exact ⟨false,wk At.ref11_ValidExpr (p_1++[sb h3,sb h4,sb h5,sb h11,sc c22,sb h23]) kr⟩
       ·exact ⟨e.val.kind==(0:Int)&&(e.val.int==(0:Int)&&(e.val.text==ByteArray.mk #[]&&true)),wk At.ref11_ValidExpr (p_1++[sb h3,sb h4,sb h5,sb h11,sc c22,sg h23,sq zaR]) kr⟩
    ·obtain ⟨r24,c24⟩:=(zdj e.val)
     rcases (Bool.eq_false_or_eq_true r24).symm with h25|h25
     ·exact ⟨false,wk At.ref11_ValidExpr (p_1++[sb h3,sb h4,sc c24,sb h25]) kr⟩
     ·cases h26:e.val.kind != 1
      ·cases h27:decide (0≤e.val.int)
       ·exact ⟨false,wk At.ref11_ValidExpr (p_1++[sb h3,sb h4,sc c24,sg h25,sg h26,sb h27]) kr⟩
       ·let p_5:List St:=p_1++[sb h3,sb h4,sc c24,sg h25,sg h26,sg h27]
        cases h28:ByteArray.toList e.table==(ByteArray.mk #[]).toList
        ·exact ⟨false,wk At.ref11_ValidExpr (p_5++[sb h28]) kr⟩
        ·exact ⟨ByteArray.toList e.name==(ByteArray.mk #[]).toList,wk At.ref11_ValidExpr (p_5++[sg h28]) kr⟩
      ·cases h29:ByteArray.toList e.table==(ByteArray.mk #[]).toList
       ·exact ⟨false,wk At.ref11_ValidExpr (p_1++[sb h3,sb h4,sc c24,sg h25,sb h26,sb h29]) kr⟩
       ·exact ⟨ByteArray.toList e.name==(ByteArray.mk #[]).toList,wk At.ref11_ValidExpr (p_1++[sb h3,sb h4,sc c24,sg h25,sb h26,sg h29]) kr⟩
   ·cases h30:e.not
    ·cases h31:e.kind==1
     ·cases h32:e.kind==2
      ·obtain ⟨r33,c33⟩:=(zd9 e)
       cases h34:!r33
       ·obtain ⟨b35,c35⟩:=ha
        let p_6:List St:=p_1++[sg h3,sb h30,sb h31,sb h32,sc c33,sg h34,sc c35]
        cases h36:!b35
        ·rcases zb2 e zaE zaE 0 zaE zaE with ⟨q37,q37_1,g37⟩|⟨r37_0,g37⟩
         ·exact ⟨true,wkc At.ref11_ValidExpr (p_6++[sb h36]) [1,99,100,101] 1 kr (g37 _ (zab (wkr [sb q37_1] kr)))⟩
         ·exact ⟨r37_0,wkc At.ref11_ValidExpr (p_6++[sb h36]) [1,99,100,101] 1 kr (g37)⟩
        ·exact ⟨false,wk At.ref11_ValidExpr (p_6++[sb h36]) kr⟩
       ·exact ⟨false,wk At.ref11_ValidExpr (p_1++[sg h3,sb h30,sb h31,sb h32,sc c33,sb h34]) kr⟩
      ·cases h38:ByteArray.toList e.table==(ByteArray.mk #[]).toList
       ·obtain ⟨r39,c39⟩:=(zcK e.table)
        let p_7:List St:=p_1++[sg h3,sb h30,sb h31,sb h32,sg h38,sc c39]
        rcases (Bool.eq_false_or_eq_true r39).symm with h40|h40
        ·cases h41:ByteArray.toList e.table==(ByteArray.mk #[78,69,87]).toList
         ·cases h42:ByteArray.toList e.table==(ByteArray.mk #[79,76,68]).toList
          ·exact ⟨false,wk At.ref11_ValidExpr (p_7++[sg h40,sg h41,sb h42]) kr⟩
          ·obtain ⟨r43,c43⟩:=(zax e.name)
           rcases (Bool.eq_false_or_eq_true r43).symm with h44|h44
           ·exact ⟨false,wk At.ref11_ValidExpr (p_7++[sg h40,sg h41,sg h42,sc c43,sb h44]) kr⟩
           ·exact ⟨e.val.kind==(0:Int)&&(e.val.int==(0:Int)&&(e.val.text==ByteArray.mk #[]&&true)),wk At.ref11_ValidExpr (p_7++[sg h40,sg h41,sg h42,sc c43,sg h44,sq zaR]) kr⟩
         ·obtain ⟨r45,c45⟩:=(zax e.name)
          rcases (Bool.eq_false_or_eq_true r45).symm with h46|h46
          ·exact ⟨false,wk At.ref11_ValidExpr (p_7++[sg h40,sb h41,sc c45,sb h46]) kr⟩
          ·exact ⟨e.val.kind==(0:Int)&&(e.val.int==(0:Int)&&(e.val.text==ByteArray.mk #[]&&true)),wk At.ref11_ValidExpr (p_7++[sg h40,sb h41,sc c45,sg h46,sq zaR]) kr⟩
        ·obtain ⟨r47,c47⟩:=(zax e.name)
         rcases (Bool.eq_false_or_eq_true r47).symm with h48|h48
         ·exact ⟨false,wk At.ref11_ValidExpr (p_7++[sb h40,sc c47,sb h48]) kr⟩
         ·exact ⟨e.val.kind==(0:Int)&&(e.val.int==(0:Int)&&(e.val.text==ByteArray.mk #[]&&true)),wk At.ref11_ValidExpr (p_7++[sb h40,sc c47,sg h48,sq zaR]) kr⟩
       ·obtain ⟨r49,c49⟩:=(zax e.name)
        let p_8:List St:=p_1++[sg h3,sb h30,sb h31,sb h32,sb h38,sc c49]
        rcases (Bool.eq_false_or_eq_true r49).symm with h50|h50
        ·exact ⟨false,wk At.ref11_ValidExpr (p_8++[sb h50]) kr⟩
        ·exact ⟨e.val.kind==(0:Int)&&(e.val.int==(0:Int)&&(e.val.text==ByteArray.mk #[]&&true)),wk At.ref11_ValidExpr (p_8++[sg h50,sq zaR]) kr⟩
     ·obtain ⟨r51,c51⟩:=(zdj e.val)
      rcases (Bool.eq_false_or_eq_true r51).symm with h52|h52
      ·exact ⟨false,wk At.ref11_ValidExpr (p_1++[sg h3,sb h30,sb h31,sc c51,sb h52]) kr⟩
      ·cases h53:e.val.kind != 1
       ·let p_9:List St:=p_1++[sg h3,sb h30,sb h31,sc c51,sg h52,sg h53]
        cases h54:decide (0≤e.val.int)
        ·exact ⟨false,wk At.ref11_ValidExpr (p_9++[sb h54]) kr⟩
        ·cases h55:ByteArray.toList e.table==(ByteArray.mk #[]).toList
         ·exact ⟨false,wk At.ref11_ValidExpr (p_9++[sg h54,sb h55]) kr⟩
         ·exact ⟨ByteArray.toList e.name==(ByteArray.mk #[]).toList,wk At.ref11_ValidExpr (p_9++[sg h54,sg h55]) kr⟩
       ·let p_10:List St:=p_1++[sg h3,sb h30,sb h31,sc c51,sg h52,sb h53]
        cases h56:ByteArray.toList e.table==(ByteArray.mk #[]).toList
        ·exact ⟨false,wk At.ref11_ValidExpr (p_10++[sb h56]) kr⟩
        ·exact ⟨ByteArray.toList e.name==(ByteArray.mk #[]).toList,wk At.ref11_ValidExpr (p_10++[sg h56]) kr⟩
    ·exact ⟨false,wk At.ref11_ValidExpr (p_1++[sg h3,sb h30]) kr⟩
  ·let p_11:List St:=[sc (zbp e),sg h1,sg h2]
   cases h57:e.op != 0
   ·cases h58:e.kind != 6
    ·cases h59:e.kind==1
     ·cases h60:e.kind==2
      ·obtain ⟨r61,c61⟩:=(zd9 e)
       let p_12:List St:=p_11++[sg h57,sb h58,sb h59,sb h60,sc c61]
       cases h62:!r61
       ·obtain ⟨b63,c63⟩:=ha
        cases h64:!b63
        ·rcases zb2 e zaE zaE 0 zaE zaE with ⟨q65,q65_1,g65⟩|⟨r65_0,g65⟩
         ·exact ⟨true,wkc At.ref11_ValidExpr (p_12++[sg h62,sc c63,sb h64]) [1,99,100,101] 1 kr (g65 _ (zab (wkr [sb q65_1] kr)))⟩
         ·exact ⟨r65_0,wkc At.ref11_ValidExpr (p_12++[sg h62,sc c63,sb h64]) [1,99,100,101] 1 kr (g65)⟩
        ·exact ⟨false,wk At.ref11_ValidExpr (p_12++[sg h62,sc c63,sb h64]) kr⟩
       ·exact ⟨false,wk At.ref11_ValidExpr (p_12++[sb h62]) kr⟩
      ·cases h66:ByteArray.toList e.table==(ByteArray.mk #[]).toList
       ·obtain ⟨r67,c67⟩:=(zcK e.table)
        let p_13:List St:=p_11++[sg h57,sb h58,sb h59,sb h60,sg h66,sc c67]
        rcases (Bool.eq_false_or_eq_true r67).symm with h68|h68
        ·cases h69:ByteArray.toList e.table==(ByteArray.mk #[78,69,87]).toList
         ·cases h70:ByteArray.toList e.table==(ByteArray.mk #[79,76,68]).toList
          ·exact ⟨false,wk At.ref11_ValidExpr (p_13++[sg h68,sg h69,sb h70]) kr⟩
          ·obtain ⟨r71,c71⟩:=(zax e.name)
           rcases (Bool.eq_false_or_eq_true r71).symm with h72|h72
           ·exact ⟨false,wk At.ref11_ValidExpr (p_13++[sg h68,sg h69,sg h70,sc c71,sb h72]) kr⟩
           ·exact ⟨e.val.kind==(0:Int)&&(e.val.int==(0:Int)&&(e.val.text==ByteArray.mk #[]&&true)),wk At.ref11_ValidExpr (p_13++[sg h68,sg h69,sg h70,sc c71,sg h72,sq zaR]) kr⟩
         ·obtain ⟨r73,c73⟩:=(zax e.name)
          rcases (Bool.eq_false_or_eq_true r73).symm with h74|h74
          ·exact ⟨false,wk At.ref11_ValidExpr (p_13++[sg h68,sb h69,sc c73,sb h74]) kr⟩
          ·exact ⟨e.val.kind==(0:Int)&&(e.val.int==(0:Int)&&(e.val.text==ByteArray.mk #[]&&true)),wk At.ref11_ValidExpr (p_13++[sg h68,sb h69,sc c73,sg h74,sq zaR]) kr⟩
        ·obtain ⟨r75,c75⟩:=(zax e.name)
         rcases (Bool.eq_false_or_eq_true r75).symm with h76|h76
         ·exact ⟨false,wk At.ref11_ValidExpr (p_13++[sb h68,sc c75,sb h76]) kr⟩
         ·exact ⟨e.val.kind==(0:Int)&&(e.val.int==(0:Int)&&(e.val.text==ByteArray.mk #[]&&true)),wk At.ref11_ValidExpr (p_13++[sb h68,sc c75,sg h76,sq zaR]) kr⟩
       ·obtain ⟨r77,c77⟩:=(zax e.name)
        let p_14:List St:=p_11++[sg h57,sb h58,sb h59,sb h60,sb h66,sc c77]
        rcases (Bool.eq_false_or_eq_true r77).symm with h78|h78
        ·exact ⟨false,wk At.ref11_ValidExpr (p_14++[sb h78]) kr⟩
        ·exact ⟨e.val.kind==(0:Int)&&(e.val.int==(0:Int)&&(e.val.text==ByteArray.mk #[]&&true)),wk At.ref11_ValidExpr (p_14++[sg h78,sq zaR]) kr⟩
     ·obtain ⟨r79,c79⟩:=(zdj e.val)
      rcases (Bool.eq_false_or_eq_true r79).symm with h80|h80
      ·exact ⟨false,wk At.ref11_ValidExpr (p_11++[sg h57,sb h58,sb h59,sc c79,sb h80]) kr⟩
      ·let p_15:List St:=p_11++[sg h57,sb h58,sb h59,sc c79,sg h80]
       cases h81:e.val.kind != 1
       ·cases h82:decide (0≤e.val.int)
        ·exact ⟨false,wk At.ref11_ValidExpr (p_15++[sg h81,sb h82]) kr⟩
        ·cases h83:ByteArray.toList e.table==(ByteArray.mk #[]).toList
         ·exact ⟨false,wk At.ref11_ValidExpr (p_15++[sg h81,sg h82,sb h83]) kr⟩
         ·exact ⟨ByteArray.toList e.name==(ByteArray.mk #[]).toList,wk At.ref11_ValidExpr (p_15++[sg h81,sg h82,sg h83]) kr⟩
       ·cases h84:ByteArray.toList e.table==(ByteArray.mk #[]).toList
        ·exact ⟨false,wk At.ref11_ValidExpr (p_15++[sb h81,sb h84]) kr⟩
        ·exact ⟨ByteArray.toList e.name==(ByteArray.mk #[]).toList,wk At.ref11_ValidExpr (p_15++[sb h81,sg h84]) kr⟩
    ·cases h85:e.not
     ·cases h86:e.kind==1
      ·cases h87:e.kind==2
       ·obtain ⟨r88,c88⟩:=(zd9 e)
        let p_16:List St:=p_11++[sg h57,sg h58,sb h85,sb h86,sb h87,sc c88]
        cases h89:!r88
        ·obtain ⟨b90,c90⟩:=ha
         cases h91:!b90
         ·rcases zb2 e zaE zaE 0 zaE zaE with ⟨q92,q92_1,g92⟩|⟨r92_0,g92⟩
          ·exact ⟨true,wkc At.ref11_ValidExpr (p_16++[sg h89,sc c90,sb h91]) [1,99,100,101] 1 kr (g92 _ (zab (wkr [sb q92_1] kr)))⟩
          ·exact ⟨r92_0,wkc At.ref11_ValidExpr (p_16++[sg h89,sc c90,sb h91]) [1,99,100,101] 1 kr (g92)⟩
         ·exact ⟨false,wk At.ref11_ValidExpr (p_16++[sg h89,sc c90,sb h91]) kr⟩
        ·exact ⟨false,wk At.ref11_ValidExpr (p_16++[sb h89]) kr⟩
       ·let p_17:List St:=p_11++[sg h57,sg h58,sb h85,sb h86,sb h87]
        cases h93:ByteArray.toList e.table==(ByteArray.mk #[]).toList
        ·obtain ⟨r94,c94⟩:=(zcK e.table)
         rcases (Bool.eq_false_or_eq_true r94).symm with h95|h95
         ·cases h96:ByteArray.toList e.table==(ByteArray.mk #[78,69,87]).toList
          ·cases h97:ByteArray.toList e.table==(ByteArray.mk #[79,76,68]).toList
           ·exact ⟨false,wk At.ref11_ValidExpr (p_17++[sg h93,sc c94,sg h95,sg h96,sb h97]) kr⟩
           ·obtain ⟨r98,c98⟩:=(zax e.name)
            let p_18:List St:=p_17++[sg h93,sc c94,sg h95,sg h96,sg h97,sc c98]
            rcases (Bool.eq_false_or_eq_true r98).symm with h99|h99
            ·exact ⟨false,wk At.ref11_ValidExpr (p_18++[sb h99]) kr⟩
            ·exact ⟨e.val.kind==(0:Int)&&(e.val.int==(0:Int)&&(e.val.text==ByteArray.mk #[]&&true)),wk At.ref11_ValidExpr (p_18++[sg h99,sq zaR]) kr⟩
          ·obtain ⟨r100,c100⟩:=(zax e.name)
           let p_19:List St:=p_17++[sg h93,sc c94,sg h95,sb h96,sc c100]
           rcases (Bool.eq_false_or_eq_true r100).symm with h101|h101
           ·exact ⟨false,wk At.ref11_ValidExpr (p_19++[sb h101]) kr⟩
           ·exact ⟨e.val.kind==(0:Int)&&(e.val.int==(0:Int)&&(e.val.text==ByteArray.mk #[]&&true)),wk At.ref11_ValidExpr (p_19++[sg h101,sq zaR]) kr⟩
         ·obtain ⟨r102,c102⟩:=(zax e.name)
          rcases (Bool.eq_false_or_eq_true r102).symm with h103|h103
          ·exact ⟨false,wk At.ref11_ValidExpr (p_17++[sg h93,sc c94,sb h95,sc c102,sb h103]) kr⟩
          ·exact ⟨e.val.kind==(0:Int)&&(e.val.int==(0:Int)&&(e.val.text==ByteArray.mk #[]&&true)),wk At.ref11_ValidExpr (p_17++[sg h93,sc c94,sb h95,sc c102,sg h103,sq zaR]) kr⟩
        ·obtain ⟨r104,c104⟩:=(zax e.name)
         rcases (Bool.eq_false_or_eq_true r104).symm with h105|h105
         ·exact ⟨false,wk At.ref11_ValidExpr (p_17++[sb h93,sc c104,sb h105]) kr⟩
         ·exact ⟨e.val.kind==(0:Int)&&(e.val.int==(0:Int)&&(e.val.text==ByteArray.mk #[]&&true)),wk At.ref11_ValidExpr (p_17++[sb h93,sc c104,sg h105,sq zaR]) kr⟩
      ·obtain ⟨r106,c106⟩:=(zdj e.val)
       let p_20:List St:=p_11++[sg h57,sg h58,sb h85,sb h86,sc c106]
       rcases (Bool.eq_false_or_eq_true r106).symm with h107|h107
       ·exact ⟨false,wk At.ref11_ValidExpr (p_20++[sb h107]) kr⟩
       ·cases h108:e.val.kind != 1
        ·cases h109:decide (0≤e.val.int)
         ·exact ⟨false,wk At.ref11_ValidExpr (p_20++[sg h107,sg h108,sb h109]) kr⟩
         ·cases h110:ByteArray.toList e.table==(ByteArray.mk #[]).toList
          ·exact ⟨false,wk At.ref11_ValidExpr (p_20++[sg h107,sg h108,sg h109,sb h110]) kr⟩
          ·exact ⟨ByteArray.toList e.name==(ByteArray.mk #[]).toList,wk At.ref11_ValidExpr (p_20++[sg h107,sg h108,sg h109,sg h110]) kr⟩
        ·cases h111:ByteArray.toList e.table==(ByteArray.mk #[]).toList
         ·exact ⟨false,wk At.ref11_ValidExpr (p_20++[sg h107,sb h108,sb h111]) kr⟩
         ·exact ⟨ByteArray.toList e.name==(ByteArray.mk #[]).toList,wk At.ref11_ValidExpr (p_20++[sg h107,sb h108,sg h111]) kr⟩
     ·exact ⟨false,wk At.ref11_ValidExpr (p_11++[sg h57,sg h58,sb h85]) kr⟩
   ·exact ⟨false,wk At.ref11_ValidExpr (p_11++[sb h57]) kr⟩
 ·exact ⟨false,wk At.ref11_ValidExpr [sc (zbp e),sb h1] kr⟩
theorem vxOk:∀ (n:Nat) (e:X),XOk n e→VxOk e
 | 0,_,h=>h.elim
 | n+1,e,⟨_,ha,hx,hs⟩=>zkK e (Thin.short ha.2) (zfG _ (Thin.short ha.1) fun x h=>vxOk n x (hx x h)) fun q h =>
   ⟨zfG _ (Thin.short (hs q h).1.1) fun x h'=>vxOk n x ((hs q h).2.1 x h'),zfG _ (Thin.short (hs q h).1.2) fun x h'=>vxOk n x ((hs q h).2.2 x h')⟩
theorem vlOk {n:Nat} {l:List X} (hf:Few l) (h:∀ x∈l,XOk n x):VlOk l:=zfG l (zaK hf) fun x hx=>vxOk n x (h x hx)
theorem zkf (q:Qy) (hqa:∃ b:Bool,zac E0 S.ref11_all [xsl q.items] [] (bv b) []) (hqb:∃ b:Bool,zac E0 S.ref11_all [xsl q.wh] [] (bv b) []):∃ (r:Bool),zac E0 S.ref11_ValidQuery [q.av] [] (bv r) []:=by
 obtain ⟨r1,c1⟩:=(zcK q.frm)
 cases h2:!r1
 ·cases h3:decide (1 < (↑(zaa q.wh).length:Int))
  ·cases h4:decide (8 < (↑(zaa q.items).length:Int))
   ·cases h5:!q.star==((↑(zaa q.items).length:Int)==0)
    ·obtain ⟨b6,c6⟩:=hqa
     let p_1:List St:=[sc c1,sg h2,sg h3,sg h4,sb h5,sc c6]
     rcases (Bool.eq_false_or_eq_true b6).symm with h7|h7
     ·exact ⟨false,wk At.ref11_ValidQuery (p_1++[sb h7]) kr⟩
     ·obtain ⟨b8,c8⟩:=hqb
      exact ⟨b8,wk At.ref11_ValidQuery (p_1++[sg h7,sc c8]) kr⟩
    ·exact ⟨false,wk At.ref11_ValidQuery [sc c1,sg h2,sg h3,sg h4,sb h5] kr⟩
   ·exact ⟨false,wk At.ref11_ValidQuery [sc c1,sg h2,sg h3,sb h4] kr⟩
  ·exact ⟨false,wk At.ref11_ValidQuery [sc c1,sg h2,sb h3] kr⟩
 ·exact ⟨false,wk At.ref11_ValidQuery [sc c1,sb h2] kr⟩
noncomputable def L_vi (a:Ac) (i:Nat) :Cfg:=zav B.ref11_validInsert 0 [(1,.p 0 0),(27,.sl (a.rows.map zaG)),(28,iv ((a.rows.map zaG).length:Nat)),(29,iv (i:Nat))] [.box a.cells]
theorem zfp (a:Ac) (hs:zae a.rows) (hr:∀ r∈a.rows,VlOk r) (i:Nat)  (hi:i≤(a.rows).length) (hI:True):((True)∧(decide ((((a.rows).length:Nat):Int) < (((a.rows.map zaG).length:Nat):Int))=false)∧∀ R,Good E0 B.ref11_validInsert [] (L_vi a (a.rows).length ) R→Good E0 B.ref11_validInsert [] (L_vi a i ) R)∨(∃ (r:Bool),Good E0 B.ref11_validInsert [] (L_vi a i ) (Shut 0 fun rZ hZ=>rZ=(bv r)∧hZ=[])):=by
 obtain ⟨kk,hk⟩:∃ kk,i+kk=(a.rows).length:=⟨(a.rows).length - i,by omega⟩
 induction kk generalizing i  hI with
 | zero =>
  have e0:i=(a.rows).length:=by omega
  subst e0
  exact .inl ⟨hI,by simp,fun R hg=>hg⟩
 | succ kk ih =>
  obtain ⟨x,hx⟩:=zay (l:=a.rows) (i:=i) (by omega)
  have h0:decide (((i:Nat):Int) < (((a.rows.map zaG).length:Nat):Int))=true:=by simp;omega
  have hw:IntKind.i64.wrap (((i:Nat):Int)+1)=((i+1:Nat):Int):=zap i zgL
  have hi1:=hr x (List.mem_of_getElem? hx)
  let p_1:List St:=[sb h0,se (zah zaG hx rfl)]
  cases h1:decide ((↑(zaa x).length:Int) < 1)
  ·cases h2:decide (6 < (↑(zaa x).length:Int))
   ·obtain ⟨b3,c3⟩:=hi1
    cases h4:!b3
    ·exact (ih (i+1) (by omega) zcA (by omega)).elim (fun ⟨qZ,xZ,gZ⟩=>.inl ⟨qZ,xZ,fun R hg=>zab (wkl (p_1++[sg h1,sg h2,sc c3,sb h4,si hw]) [1,27,28,29] 1 kr (gZ R hg))⟩) (fun ⟨rY,gZ⟩=>.inr ⟨rY,zab (wkl [sb h0,se (zah zaG hx rfl),sg h1,sg h2,sc c3,sb h4,si hw] [1,27,28,29] 1 kr gZ)⟩)
    ·exact .inr ⟨false,zab (wkr (p_1++[sg h1,sg h2,sc c3,sb h4]) kr)⟩
   ·exact .inr ⟨false,zab (wkr (p_1++[sg h1,sb h2]) kr)⟩
  ·exact .inr ⟨false,zab (wkr (p_1++[sb h1]) kr)⟩
theorem zjp (a:Ac) (hs:zae a.rows) (hr:∀ r∈a.rows,VlOk r) (hq:∀ q∈a.query,∃ b:Bool,zac E0 S.ref11_ValidQuery [q.av] [] (bv b) []):∃ (r:Bool),zac E0 S.ref11_validInsert [a.av] [] (bv r) []:=by
 cases h1:decide (1 < (↑(zad a.query).length:Int))
 ·cases h2:((↑(zad a.query).length:Int)==1)==decide (0 < (↑(List.map (fun r=>[AV.sl (zaa r)]) a.rows).length:Int))
  ·cases h3:decide (8 < (↑(List.map (fun r=>[AV.sl (zaa r)]) a.rows).length:Int))
   ·rcases zfp a ziC ziC 0 ziC ziC with ⟨q4,q4_1,g4⟩|⟨r4_0,g4⟩
    ·cases h5:(↑(zad a.query).length:Int)==0
     ·obtain ⟨x6,e6⟩:=zay (l:=a.query) (i:=0) ziC
      obtain ⟨b7,c7⟩:=(hq x6 ziC)
      exact ⟨b7,wkc At.ref11_validInsert [sg h1,sg h2,sb h3] [1,27,28,29] 1 kr (g4 _ (zab (wkr [sb q4_1,sg h5,se (zaX e6),sc c7] kr)))⟩
     ·exact ⟨true,wkc At.ref11_validInsert [sg h1,sg h2,sb h3] [1,27,28,29] 1 kr (g4 _ (zab (wkr [sb q4_1,sb h5] kr)))⟩
    ·exact ⟨r4_0,wkc At.ref11_validInsert [sg h1,sg h2,sb h3] [1,27,28,29] 1 kr (g4)⟩
   ·exact ⟨false,wk At.ref11_validInsert [sg h1,sg h2,sb h3] kr⟩
  ·exact ⟨false,wk At.ref11_validInsert [sg h1,sb h2] kr⟩
 ·exact ⟨false,wk At.ref11_validInsert [sb h1] kr⟩
theorem zmY {α:Type} (f:α→List AV) {l:List α} {x:α} {n j m:Nat} (hx:(l.take n)[j]?=some x) (hc:(f x).length=m):ElAt ((l.map f).take n) ((j:Nat):Int) (f x) m:=by
 rw [← List.map_take]
 exact zah f hx hc
noncomputable def zqC (l:List Se) (io:Nat) (y:Se) (i:Nat) :Cfg:=zav B.ref11_validSets 1 [(0,.sl (l.map Se.cells)),(4,.p 0 0),(7,.sl (l.map Se.cells)),(8,iv ((l.map Se.cells).length:Nat)),(9,iv (io:Nat)),(26,.sl ((l.map Se.cells).take io)),(27,iv (((l.map Se.cells).take io).length:Nat)),(28,iv (i:Nat))] [.box y.cells]
theorem zf1 (l:List Se) (io:Nat) (y:Se) (hl:zae l) (i:Nat)  (hi:i≤((l.take io)).length) (hI:True):((True)∧(decide (((((l.take io)).length:Nat):Int) < ((((l.map Se.cells).take io).length:Nat):Int))=false)∧∀ R,Good E0 B.ref11_validSets [] (zqC l io y ((l.take io)).length ) R→Good E0 B.ref11_validSets [] (zqC l io y i ) R)∨(∃ (r:Bool),Good E0 B.ref11_validSets [] (zqC l io y i ) (Shut 0 fun rZ hZ=>rZ=(bv r)∧hZ=[])):=by
 obtain ⟨kk,hk⟩:∃ kk,i+kk=((l.take io)).length:=⟨((l.take io)).length - i,by omega⟩
 induction kk generalizing i  hI with
 | zero =>
  have e0:i=((l.take io)).length:=by omega
  subst e0
  exact .inl ⟨hI,by simp,fun R hg=>hg⟩
 | succ kk ih =>
  obtain ⟨x,hx⟩:=zay (l:=(l.take io)) (i:=i) (by omega)
  have h0:decide (((i:Nat):Int) < ((((l.map Se.cells).take io).length:Nat):Int))=true:=by simp at *;omega
  have hw:IntKind.i64.wrap (((i:Nat):Int)+1)=((i+1:Nat):Int):=zap i (by simp only [zae] at hl;simp at hk;omega)
  have hxe:=zmY Se.cells hx rfl
  cases h1:ByteArray.toList x.col==ByteArray.toList y.col
  ·exact (ih (i+1) (by omega) zcA (by omega)).elim (fun ⟨qZ,xZ,gZ⟩=>.inl ⟨qZ,xZ,fun R hg=>zab (wkl [sb h0,se hxe,sb h1,si hw] [0,4,7,8,9,26,27,28] 1 kr (gZ R hg))⟩) (fun ⟨rY,gZ⟩=>.inr ⟨rY,zab (wkl [sb h0,se hxe,sb h1,si hw] [0,4,7,8,9,26,27,28] 1 kr gZ)⟩)
  ·exact .inr ⟨false,zab (wkr [sb h0,se hxe,sb h1] kr)⟩
noncomputable def zqV (l:List Se) (i:Nat) :Cfg:=zav B.ref11_validSets 0 [(0,.sl (l.map Se.cells)),(7,.sl (l.map Se.cells)),(8,iv ((l.map Se.cells).length:Nat)),(9,iv (i:Nat))] []
theorem zfM (l:List Se) (hl:zae l) (hv:∀ s∈l,VxOk s.ex) (i:Nat)  (hi:i≤(l).length) (hI:True):((True)∧(decide ((((l).length:Nat):Int) < (((l.map Se.cells).length:Nat):Int))=false)∧∀ R,Good E0 B.ref11_validSets [] (zqV l (l).length ) R→Good E0 B.ref11_validSets [] (zqV l i ) R)∨(∃ (r:Bool),Good E0 B.ref11_validSets [] (zqV l i ) (Shut 0 fun rZ hZ=>rZ=(bv r)∧hZ=[])):=by
 obtain ⟨kk,hk⟩:∃ kk,i+kk=(l).length:=⟨(l).length - i,by omega⟩
 induction kk generalizing i  hI with
 | zero =>
  have e0:i=(l).length:=by omega
  subst e0
  exact .inl ⟨hI,by simp,fun R hg=>hg⟩
 | succ kk ih =>
  obtain ⟨x,hx⟩:=zay (l:=l) (i:=i) (by omega)
  have h0:decide (((i:Nat):Int) < (((l.map Se.cells).length:Nat):Int))=true:=by simp;omega
  have hw:IntKind.i64.wrap (((i:Nat):Int)+1)=((i+1:Nat):Int):=zap i zgL
  have hi1:=hv x (List.mem_of_getElem? hx)
  obtain ⟨r1,c1⟩:=(zax x.col)
  let p_1:List St:=[sb h0,se (zah Se.cells hx rfl),sc c1]
  cases h2:!r1
  ·obtain ⟨b3,c3⟩:=hi1
   cases h4:!b3
   ·let p_2:List St:=p_1++[sg h2,sc c3,sb h4,sqx (SubAt (List.map Se.cells l) 0 (i:Int) 11)]
    rcases zf1 l i x zaE 0 zaE zaE with ⟨q5,q5_1,g5⟩|⟨r5_0,g5⟩
    ·exact (ih (i+1) (by omega) zcA (by omega)).elim (fun ⟨qZ,xZ,gZ⟩=>.inl ⟨qZ,xZ,fun R hg=>zab (wkl p_2 [0,4,7,8,9,26,27,28] 1 kr (g5 _ (zab (wkl [sb q5_1,si hw] [0,7,8,9] 0 kr (gZ R hg)))))⟩) (fun ⟨rY,gZ⟩=>.inr ⟨rY,zab (wkl [sb h0,se (zah Se.cells hx rfl),sc c1,sg h2,sc c3,sb h4,sqx (SubAt (List.map Se.cells l) 0 (i:Int) 11)] [0,4,7,8,9,26,27,28] 1 kr (g5 _ (zab (wkl [sb q5_1,si hw] [0,7,8,9] 0 kr gZ))))⟩)
    ·exact .inr ⟨r5_0,zab (wkl p_2 [0,4,7,8,9,26,27,28] 1 kr g5)⟩
   ·exact .inr ⟨false,zab (wkr (p_1++[sg h2,sc c3,sb h4]) kr)⟩
  ·exact .inr ⟨false,zab (wkr (p_1++[sb h2]) kr)⟩
theorem zkI (l:List Se) (hl:zae l) (hv:∀ s∈l,VxOk s.ex):∃ (r:Bool),zac E0 S.ref11_validSets [.sl (l.map Se.cells)] [] (bv r) []:=by
 rcases zfM l zaE zaE 0 zaE zaE with ⟨q1,q1_1,g1⟩|⟨r1_0,g1⟩
 ·exact ⟨true,wkc At.ref11_validSets [] [0,7,8,9] 0 kr (g1 _ (zab (wkr [sb q1_1] kr)))⟩
 ·exact ⟨r1_0,wkc At.ref11_validSets [] [0,7,8,9] 0 kr (g1)⟩
noncomputable def zqI (l:List Str) (io:Nat) (y:Str) (i:Nat) :Cfg:=zav B.ref11_names 1 [(0,ssl l),(4,sv y),(10,ssl l),(11,iv ((l.map zaW).length:Nat)),(12,iv (io:Nat)),(22,.sl ((l.map zaW).take io)),(23,iv (((l.map zaW).take io).length:Nat)),(24,iv (i:Nat))] []
theorem zg4 (l:List Str) (io:Nat) (y:Str) (hl:zae l) (i:Nat)  (hi:i≤((l.take io)).length) (hI:True):((True)∧(decide (((((l.take io)).length:Nat):Int) < ((((l.map zaW).take io).length:Nat):Int))=false)∧∀ R,Good E0 B.ref11_names [] (zqI l io y ((l.take io)).length ) R→Good E0 B.ref11_names [] (zqI l io y i ) R)∨(∃ (r:Bool),Good E0 B.ref11_names [] (zqI l io y i ) (Shut 0 fun rZ hZ=>rZ=(bv r)∧hZ=[])):=by
 obtain ⟨kk,hk⟩:∃ kk,i+kk=((l.take io)).length:=⟨((l.take io)).length - i,by omega⟩
 induction kk generalizing i  hI with
 | zero =>
  have e0:i=((l.take io)).length:=by omega
  subst e0
  exact .inl ⟨hI,by simp,fun R hg=>hg⟩
 | succ kk ih =>
  obtain ⟨x,hx⟩:=zay (l:=(l.take io)) (i:=i) (by omega)
  have h0:decide (((i:Nat):Int) < ((((l.map zaW).take io).length:Nat):Int))=true:=by simp at *;omega
  have hw:IntKind.i64.wrap (((i:Nat):Int)+1)=((i+1:Nat):Int):=zap i (by simp only [zae] at hl;simp at hk;omega)
  have hxe:=zmY zaW hx rfl
  cases h1:ByteArray.toList x==ByteArray.toList y
  ·exact (ih (i+1) (by omega) zcA (by omega)).elim (fun ⟨qZ,xZ,gZ⟩=>.inl ⟨qZ,xZ,fun R hg=>zab (wkl [sb h0,se hxe,sb h1,si hw] [0,4,10,11,12,22,23,24] 0 kr (gZ R hg))⟩) (fun ⟨rY,gZ⟩=>.inr ⟨rY,zab (wkl [sb h0,se hxe,sb h1,si hw] [0,4,10,11,12,22,23,24] 0 kr gZ)⟩)
  ·exact .inr ⟨false,zab (wkr [sb h0,se hxe,sb h1] kr)⟩
noncomputable def zqJ (l:List Str) (i:Nat) :Cfg:=zav B.ref11_names 0 [(0,ssl l),(10,ssl l),(11,iv ((l.map zaW).length:Nat)),(12,iv (i:Nat))] []
theorem zhh (l:List Str) (hl:zae l) (i:Nat)  (hi:i≤(l).length) (hI:True):((True)∧(decide ((((l).length:Nat):Int) < (((l.map zaW).length:Nat):Int))=false)∧∀ R,Good E0 B.ref11_names [] (zqJ l (l).length ) R→Good E0 B.ref11_names [] (zqJ l i ) R)∨(∃ (r:Bool),Good E0 B.ref11_names [] (zqJ l i ) (Shut 0 fun rZ hZ=>rZ=(bv r)∧hZ=[])):=by
 obtain ⟨kk,hk⟩:∃ kk,i+kk=(l).length:=⟨(l).length - i,by omega⟩
 induction kk generalizing i  hI with
 | zero =>
  have e0:i=(l).length:=by omega
  subst e0
  exact .inl ⟨hI,by simp,fun R hg=>hg⟩
 | succ kk ih =>
  obtain ⟨x,hx⟩:=zay (l:=l) (i:=i) (by omega)
  have h0:decide (((i:Nat):Int) < (((l.map zaW).length:Nat):Int))=true:=by simp;omega
  have hw:IntKind.i64.wrap (((i:Nat):Int)+1)=((i+1:Nat):Int):=zap i zgL
  obtain ⟨r1,c1⟩:=(zax x)
  let p_1:List St:=[sb h0,se (zah (fun s=>[sv s]) hx rfl),sc c1]
  cases h2:!r1
  ·let p_2:List St:=p_1++[sb h2,sqx (SubAt (List.map (fun s=>[sv s]) l) 0 (i:Int) 1)]
   rcases zg4 l i x zaE 0 zaE zaE with ⟨q3,q3_1,g3⟩|⟨r3_0,g3⟩
   ·exact (ih (i+1) (by omega) zcA (by omega)).elim (fun ⟨qZ,xZ,gZ⟩=>.inl ⟨qZ,xZ,fun R hg=>zab (wkl p_2 [0,4,10,11,12,22,23,24] 0 kr (g3 _ (zab (wkl [sb q3_1,si hw] [0,10,11,12] 0 kr (gZ R hg)))))⟩) (fun ⟨rY,gZ⟩=>.inr ⟨rY,zab (wkl [sb h0,se (zah (fun s=>[sv s]) hx rfl),sc c1,sb h2,sqx (SubAt (List.map (fun s=>[sv s]) l) 0 (i:Int) 1)] [0,4,10,11,12,22,23,24] 0 kr (g3 _ (zab (wkl [sb q3_1,si hw] [0,10,11,12] 0 kr gZ))))⟩)
   ·exact .inr ⟨r3_0,zab (wkl p_2 [0,4,10,11,12,22,23,24] 0 kr g3)⟩
  ·exact .inr ⟨false,zab (wkr (p_1++[sb h2]) kr)⟩
theorem zcT (l:List Str) (hl:zae l):∃ (r:Bool),zac E0 S.ref11_names [ssl l] [] (bv r) []:=by
 cases h1:decide (8 < (↑(List.map (fun s=>[sv s]) l).length:Int))
 ·rcases zhh l zaE 0 zaE zaE with ⟨q2,q2_1,g2⟩|⟨r2_0,g2⟩
  ·exact ⟨true,wkc At.ref11_names [sb h1] [0,10,11,12] 0 kr (g2 _ (zab (wkr [sb q2_1] kr)))⟩
  ·exact ⟨r2_0,wkc At.ref11_names [sb h1] [0,10,11,12] 0 kr (g2)⟩
 ·exact ⟨false,wk At.ref11_names [sb h1] kr⟩
theorem vqOk {n:Nat} {q:Qy} (h:QW n q):∃ b:Bool,zac E0 S.ref11_ValidQuery [q.av] [] (bv b) []:=zkf q (vlOk h.items h.hi) (vlOk h.wh h.hw)
abbrev acc (k:Int) (a:Ac):List AV:=[iv k,sv a.table,.sl (a.rows.map zaG),.sl (zad a.query),.sl (a.sets.map Se.cells),.sl (zaa a.wh),sv a.text]
theorem zg6 (a:Ac) (hw:∃ b:Bool,zac E0 S.ref11_all [xsl a.wh] [] (bv b) []) (hi:∃ b:Bool,zac E0 S.ref11_validInsert [.agg (acc 1 a)] [] (bv b) []) (hs:∃ b:Bool,zac E0 S.ref11_validSets [.sl (a.sets.map Se.cells)] [] (bv b) []):∃ (r:Bool),zac E0 S.ref11_ValidAction [.agg (acc 1 a)] [] (bv r) []:=by
 cases h1:!(1==5)==(ByteArray.toList a.table==(ByteArray.mk #[]).toList)
 ·cases h2:!ByteArray.toList a.table==(ByteArray.mk #[]).toList
  ·let p_1:List St:=[sg (rfl:false=false),sg h1,sb h2,sg (rfl:true=true)]
   cases h3:!ByteArray.toList a.text==(ByteArray.mk #[]).toList
   ·let p_2:List St:=p_1++[sb h3,sb (rfl:false=false),sg (rfl:true=true),sg (rfl:true=true)]
    cases h4:decide (0 < (↑(List.map Se.cells a.sets).length:Int))
    ·let p_3:List St:=p_2++[sg h4,sg (rfl:true=true),sg (rfl:true=true)]
     cases h5:decide (0 < (↑(zaa a.wh).length:Int))
     ·cases h6:decide (1 < (↑(zaa a.wh).length:Int))
      ·obtain ⟨b7,c7⟩:=hw
       cases h8:!b7
       ·obtain ⟨b9,c9⟩:=hi
        exact ⟨b9,wk At.ref11_ValidAction (p_3++[sb h5,sg h6,sc c7,sb h8,sb (rfl:true=true),sc c9]) kr⟩
       ·exact ⟨false,wk At.ref11_ValidAction (p_3++[sb h5,sg h6,sc c7,sb h8]) kr⟩
      ·exact ⟨false,wk At.ref11_ValidAction (p_3++[sb h5,sb h6]) kr⟩
     ·exact ⟨false,wk At.ref11_ValidAction (p_3++[sb h5]) kr⟩
    ·exact ⟨false,wk At.ref11_ValidAction (p_2++[sb h4]) kr⟩
   ·exact ⟨false,wk At.ref11_ValidAction (p_1++[sb h3]) kr⟩
  ·obtain ⟨r10,c10⟩:=(zax a.table)
   let p_4:List St:=[sg (rfl:false=false),sg h1,sg h2,sc c10]
   cases h11:!r10
   ·cases h12:!ByteArray.toList a.text==(ByteArray.mk #[]).toList
    ·let p_5:List St:=p_4++[sg h11,sg (rfl:true=true),sb h12,sb (rfl:false=false),sg (rfl:true=true),sg (rfl:true=true)]
     cases h13:decide (0 < (↑(List.map Se.cells a.sets).length:Int))
     ·let p_6:List St:=p_5++[sg h13,sg (rfl:true=true),sg (rfl:true=true)]
      cases h14:decide (0 < (↑(zaa a.wh).length:Int))
      ·cases h15:decide (1 < (↑(zaa a.wh).length:Int))
       ·obtain ⟨b16,c16⟩:=hw
        cases h17:!b16
        ·obtain ⟨b18,c18⟩:=hi
         exact ⟨b18,wk At.ref11_ValidAction (p_6++[sb h14,sg h15,sc c16,sb h17,sb (rfl:true=true),sc c18]) kr⟩
        ·exact ⟨false,wk At.ref11_ValidAction (p_6++[sb h14,sg h15,sc c16,sb h17]) kr⟩
       ·exact ⟨false,wk At.ref11_ValidAction (p_6++[sb h14,sb h15]) kr⟩
      ·exact ⟨false,wk At.ref11_ValidAction (p_6++[sb h14]) kr⟩
     ·exact ⟨false,wk At.ref11_ValidAction (p_5++[sb h13]) kr⟩
    ·exact ⟨false,wk At.ref11_ValidAction (p_4++[sg h11,sg (rfl:true=true),sb h12]) kr⟩
   ·exact ⟨false,wk At.ref11_ValidAction (p_4++[sb h11]) kr⟩
 ·exact ⟨false,wk At.ref11_ValidAction [sg (rfl:false=false),sb h1] kr⟩
theorem zg2 (a:Ac) (hw:∃ b:Bool,zac E0 S.ref11_all [xsl a.wh] [] (bv b) []) (hi:∃ b:Bool,zac E0 S.ref11_validInsert [.agg (acc 2 a)] [] (bv b) []) (hs:∃ b:Bool,zac E0 S.ref11_validSets [.sl (a.sets.map Se.cells)] [] (bv b) []):∃ (r:Bool),zac E0 S.ref11_ValidAction [.agg (acc 2 a)] [] (bv r) []:=by
 cases h1:!(2==5)==(ByteArray.toList a.table==(ByteArray.mk #[]).toList)
 ·cases h2:!ByteArray.toList a.table==(ByteArray.mk #[]).toList
  ·let p_1:List St:=[sg (rfl:false=false),sg h1,sb h2,sg (rfl:true=true)]
   cases h3:!ByteArray.toList a.text==(ByteArray.mk #[]).toList
   ·let p_2:List St:=p_1++[sb h3,sg (rfl:true=true),si (e:=IntKind.i64.wrap ((↑(List.map zaG a.rows).length:Int)+(↑(zad a.query).length:Int))) rfl]
    cases h4:decide (0 < IntKind.i64.wrap ((↑(List.map zaG a.rows).length:Int)+(↑(zad a.query).length:Int)))
    ·let p_3:List St:=p_2++[sg h4,sb (rfl:false=false),sb (rfl:false=false)]
     cases h5:decide (1 < (↑(zaa a.wh).length:Int))
     ·obtain ⟨b6,c6⟩:=hw
      cases h7:!b6
      ·let p_4:List St:=p_3++[sg h5,sc c6,sb h7,sb (rfl:false=false),sb (rfl:true=true)]
       cases h8:decide (1≤(↑(List.map Se.cells a.sets).length:Int))
       ·exact ⟨false,wk At.ref11_ValidAction (p_4++[sb h8]) kr⟩
       ·cases h9:decide ((↑(List.map Se.cells a.sets).length:Int)≤8)
        ·exact ⟨false,wk At.ref11_ValidAction (p_4++[sg h8,sb h9]) kr⟩
        ·obtain ⟨b10,c10⟩:=hs
         exact ⟨b10,wk At.ref11_ValidAction (p_4++[sg h8,sg h9,sc c10]) kr⟩
      ·exact ⟨false,wk At.ref11_ValidAction (p_3++[sg h5,sc c6,sb h7]) kr⟩
     ·exact ⟨false,wk At.ref11_ValidAction (p_3++[sb h5]) kr⟩
    ·exact ⟨false,wk At.ref11_ValidAction (p_2++[sb h4]) kr⟩
   ·exact ⟨false,wk At.ref11_ValidAction (p_1++[sb h3]) kr⟩
  ·obtain ⟨r11,c11⟩:=(zax a.table)
   let p_5:List St:=[sg (rfl:false=false),sg h1,sg h2,sc c11]
   cases h12:!r11
   ·cases h13:!ByteArray.toList a.text==(ByteArray.mk #[]).toList
    ·let p_6:List St:=p_5++[sg h12,sg (rfl:true=true),sb h13,sg (rfl:true=true),si (e:=IntKind.i64.wrap ((↑(List.map zaG a.rows).length:Int)+(↑(zad a.query).length:Int))) rfl]
     cases h14:decide (0 < IntKind.i64.wrap ((↑(List.map zaG a.rows).length:Int)+(↑(zad a.query).length:Int)))
     ·let p_7:List St:=p_6++[sg h14,sb (rfl:false=false),sb (rfl:false=false)]
      cases h15:decide (1 < (↑(zaa a.wh).length:Int))
      ·obtain ⟨b16,c16⟩:=hw
       cases h17:!b16
       ·let p_8:List St:=p_7++[sg h15,sc c16,sb h17,sb (rfl:false=false),sb (rfl:true=true)]
        cases h18:decide (1≤(↑(List.map Se.cells a.sets).length:Int))
        ·exact ⟨false,wk At.ref11_ValidAction (p_8++[sb h18]) kr⟩
        ·cases h19:decide ((↑(List.map Se.cells a.sets).length:Int)≤8)
         ·exact ⟨false,wk At.ref11_ValidAction (p_8++[sg h18,sb h19]) kr⟩
         ·obtain ⟨b20,c20⟩:=hs
          exact ⟨b20,wk At.ref11_ValidAction (p_8++[sg h18,sg h19,sc c20]) kr⟩
       ·exact ⟨false,wk At.ref11_ValidAction (p_7++[sg h15,sc c16,sb h17]) kr⟩
      ·exact ⟨false,wk At.ref11_ValidAction (p_7++[sb h15]) kr⟩
     ·exact ⟨false,wk At.ref11_ValidAction (p_6++[sb h14]) kr⟩
    ·exact ⟨false,wk At.ref11_ValidAction (p_5++[sg h12,sg (rfl:true=true),sb h13]) kr⟩
   ·exact ⟨false,wk At.ref11_ValidAction (p_5++[sb h12]) kr⟩
 ·exact ⟨false,wk At.ref11_ValidAction [sg (rfl:false=false),sb h1] kr⟩
theorem zhk (a:Ac) (hw:∃ b:Bool,zac E0 S.ref11_all [xsl a.wh] [] (bv b) []) (hi:∃ b:Bool,zac E0 S.ref11_validInsert [.agg (acc 3 a)] [] (bv b) []) (hs:∃ b:Bool,zac E0 S.ref11_validSets [.sl (a.sets.map Se.cells)] [] (bv b) []):∃ (r:Bool),zac E0 S.ref11_ValidAction [.agg (acc 3 a)] [] (bv r) []:=by
 cases h1:!(3==5)==(ByteArray.toList a.table==(ByteArray.mk #[]).toList)
 ·cases h2:!ByteArray.toList a.table==(ByteArray.mk #[]).toList
  ·let p_1:List St:=[sg (rfl:false=false),sg h1,sb h2,sg (rfl:true=true)]
   cases h3:!ByteArray.toList a.text==(ByteArray.mk #[]).toList
   ·let p_2:List St:=p_1++[sb h3,sg (rfl:true=true),si (e:=IntKind.i64.wrap ((↑(List.map zaG a.rows).length:Int)+(↑(zad a.query).length:Int))) rfl]
    cases h4:decide (0 < IntKind.i64.wrap ((↑(List.map zaG a.rows).length:Int)+(↑(zad a.query).length:Int)))
    ·let p_3:List St:=p_2++[sg h4,sg (rfl:true=true),sg (rfl:true=true)]
     cases h5:decide (0 < (↑(List.map Se.cells a.sets).length:Int))
     ·let p_4:List St:=p_3++[sg h5,sg (rfl:true=true),sb (rfl:false=false)]
      cases h6:decide (1 < (↑(zaa a.wh).length:Int))
      ·obtain ⟨b7,c7⟩:=hw
       cases h8:!b7
       ·exact ⟨true,wk At.ref11_ValidAction (p_4++[sg h6,sc c7,sb h8,sb (rfl:false=false),sb (rfl:false=false),sb (rfl:true=true)]) kr⟩
       ·exact ⟨false,wk At.ref11_ValidAction (p_4++[sg h6,sc c7,sb h8]) kr⟩
      ·exact ⟨false,wk At.ref11_ValidAction (p_4++[sb h6]) kr⟩
     ·exact ⟨false,wk At.ref11_ValidAction (p_3++[sb h5]) kr⟩
    ·exact ⟨false,wk At.ref11_ValidAction (p_2++[sb h4]) kr⟩
   ·exact ⟨false,wk At.ref11_ValidAction (p_1++[sb h3]) kr⟩
  ·obtain ⟨r9,c9⟩:=(zax a.table)
   let p_5:List St:=[sg (rfl:false=false),sg h1,sg h2,sc c9]
   cases h10:!r9
   ·cases h11:!ByteArray.toList a.text==(ByteArray.mk #[]).toList
    ·let p_6:List St:=p_5++[sg h10,sg (rfl:true=true),sb h11,sg (rfl:true=true),si (e:=IntKind.i64.wrap ((↑(List.map zaG a.rows).length:Int)+(↑(zad a.query).length:Int))) rfl]
     cases h12:decide (0 < IntKind.i64.wrap ((↑(List.map zaG a.rows).length:Int)+(↑(zad a.query).length:Int)))
     ·let p_7:List St:=p_6++[sg h12,sg (rfl:true=true),sg (rfl:true=true)]
      cases h13:decide (0 < (↑(List.map Se.cells a.sets).length:Int))
      ·let p_8:List St:=p_7++[sg h13,sg (rfl:true=true),sb (rfl:false=false)]
       cases h14:decide (1 < (↑(zaa a.wh).length:Int))
       ·obtain ⟨b15,c15⟩:=hw
        cases h16:!b15
        ·exact ⟨true,wk At.ref11_ValidAction (p_8++[sg h14,sc c15,sb h16,sb (rfl:false=false),sb (rfl:false=false),sb (rfl:true=true)]) kr⟩
        ·exact ⟨false,wk At.ref11_ValidAction (p_8++[sg h14,sc c15,sb h16]) kr⟩
       ·exact ⟨false,wk At.ref11_ValidAction (p_8++[sb h14]) kr⟩
      ·exact ⟨false,wk At.ref11_ValidAction (p_7++[sb h13]) kr⟩
     ·exact ⟨false,wk At.ref11_ValidAction (p_6++[sb h12]) kr⟩
    ·exact ⟨false,wk At.ref11_ValidAction (p_5++[sg h10,sg (rfl:true=true),sb h11]) kr⟩
   ·exact ⟨false,wk At.ref11_ValidAction (p_5++[sb h10]) kr⟩
 ·exact ⟨false,wk At.ref11_ValidAction [sg (rfl:false=false),sb h1] kr⟩
theorem zg3 (a:Ac) (hw:∃ b:Bool,zac E0 S.ref11_all [xsl a.wh] [] (bv b) []) (hi:∃ b:Bool,zac E0 S.ref11_validInsert [.agg (acc 4 a)] [] (bv b) []) (hs:∃ b:Bool,zac E0 S.ref11_validSets [.sl (a.sets.map Se.cells)] [] (bv b) []):∃ (r:Bool),zac E0 S.ref11_ValidAction [.agg (acc 4 a)] [] (bv r) []:=by
 cases h1:!true==(ByteArray.toList a.table==(ByteArray.mk #[]).toList)
 ·cases h2:!ByteArray.toList a.table==(ByteArray.mk #[]).toList
  ·let p_1:List St:=[sb (rfl:true=true),sg h1,sb h2,sb (rfl:false=false),sg (rfl:true=true),si (e:=IntKind.i64.wrap ((↑(List.map zaG a.rows).length:Int)+(↑(zad a.query).length:Int))) rfl]
   cases h3:decide (0 < IntKind.i64.wrap ((↑(List.map zaG a.rows).length:Int)+(↑(zad a.query).length:Int)))
   ·let p_2:List St:=p_1++[sg h3,sg (rfl:true=true),sg (rfl:true=true)]
    cases h4:decide (0 < (↑(List.map Se.cells a.sets).length:Int))
    ·let p_3:List St:=p_2++[sg h4,sg (rfl:true=true),sg (rfl:true=true)]
     cases h5:decide (0 < (↑(zaa a.wh).length:Int))
     ·cases h6:decide (1 < (↑(zaa a.wh).length:Int))
      ·obtain ⟨b7,c7⟩:=hw
       cases h8:!b7
       ·obtain ⟨r9,c9⟩:=(zdj (V.mk 3 0 a.text))
        exact ⟨r9,wk At.ref11_ValidAction (p_3++[sb h5,sg h6,sc c7,sb h8,sb (rfl:false=false),sb (rfl:false=false),sb (rfl:false=false),sb (rfl:true=true),sc c9]) kr⟩
       ·exact ⟨false,wk At.ref11_ValidAction (p_3++[sb h5,sg h6,sc c7,sb h8]) kr⟩
      ·exact ⟨false,wk At.ref11_ValidAction (p_3++[sb h5,sb h6]) kr⟩
     ·exact ⟨false,wk At.ref11_ValidAction (p_3++[sb h5]) kr⟩
    ·exact ⟨false,wk At.ref11_ValidAction (p_2++[sb h4]) kr⟩
   ·exact ⟨false,wk At.ref11_ValidAction (p_1++[sb h3]) kr⟩
  ·obtain ⟨r10,c10⟩:=(zax a.table)
   let p_4:List St:=[sb (rfl:true=true),sg h1,sg h2,sc c10]
   cases h11:!r10
   ·let p_5:List St:=p_4++[sg h11,sb (rfl:false=false),sg (rfl:true=true),si (e:=IntKind.i64.wrap ((↑(List.map zaG a.rows).length:Int)+(↑(zad a.query).length:Int))) rfl]
    cases h12:decide (0 < IntKind.i64.wrap ((↑(List.map zaG a.rows).length:Int)+(↑(zad a.query).length:Int)))
    ·let p_6:List St:=p_5++[sg h12,sg (rfl:true=true),sg (rfl:true=true)]
     cases h13:decide (0 < (↑(List.map Se.cells a.sets).length:Int))
     ·let p_7:List St:=p_6++[sg h13,sg (rfl:true=true),sg (rfl:true=true)]
      cases h14:decide (0 < (↑(zaa a.wh).length:Int))
      ·cases h15:decide (1 < (↑(zaa a.wh).length:Int))
       ·obtain ⟨b16,c16⟩:=hw
        cases h17:!b16
        ·obtain ⟨r18,c18⟩:=(zdj (V.mk 3 0 a.text))
         exact ⟨r18,wk At.ref11_ValidAction (p_7++[sb h14,sg h15,sc c16,sb h17,sb (rfl:false=false),sb (rfl:false=false),sb (rfl:false=false),sb (rfl:true=true),sc c18]) kr⟩
        ·exact ⟨false,wk At.ref11_ValidAction (p_7++[sb h14,sg h15,sc c16,sb h17]) kr⟩
       ·exact ⟨false,wk At.ref11_ValidAction (p_7++[sb h14,sb h15]) kr⟩
      ·exact ⟨false,wk At.ref11_ValidAction (p_7++[sb h14]) kr⟩
     ·exact ⟨false,wk At.ref11_ValidAction (p_6++[sb h13]) kr⟩
    ·exact ⟨false,wk At.ref11_ValidAction (p_5++[sb h12]) kr⟩
   ·exact ⟨false,wk At.ref11_ValidAction (p_4++[sb h11]) kr⟩
 ·exact ⟨false,wk At.ref11_ValidAction [sb (rfl:true=true),sb h1] kr⟩
theorem zhn (a:Ac) (hw:∃ b:Bool,zac E0 S.ref11_all [xsl a.wh] [] (bv b) []) (hi:∃ b:Bool,zac E0 S.ref11_validInsert [.agg (acc 5 a)] [] (bv b) []) (hs:∃ b:Bool,zac E0 S.ref11_validSets [.sl (a.sets.map Se.cells)] [] (bv b) []):∃ (r:Bool),zac E0 S.ref11_ValidAction [.agg (acc 5 a)] [] (bv r) []:=by
 cases h1:!(5==5)==(ByteArray.toList a.table==(ByteArray.mk #[]).toList)
 ·cases h2:!ByteArray.toList a.table==(ByteArray.mk #[]).toList
  ·let p_1:List St:=[sg (rfl:false=false),sg h1,sb h2,sg (rfl:true=true)]
   cases h3:!ByteArray.toList a.text==(ByteArray.mk #[]).toList
   ·let p_2:List St:=p_1++[sb h3,sg (rfl:true=true),si (e:=IntKind.i64.wrap ((↑(List.map zaG a.rows).length:Int)+(↑(zad a.query).length:Int))) rfl]
    cases h4:decide (0 < IntKind.i64.wrap ((↑(List.map zaG a.rows).length:Int)+(↑(zad a.query).length:Int)))
    ·let p_3:List St:=p_2++[sg h4,sg (rfl:true=true),sb (rfl:false=false),sg (rfl:true=true),sg (rfl:true=true)]
     cases h5:decide (0 < (↑(zaa a.wh).length:Int))
     ·cases h6:decide (1 < (↑(zaa a.wh).length:Int))
      ·obtain ⟨b7,c7⟩:=hw
       cases h8:!b7
       ·let p_4:List St:=p_3++[sb h5,sg h6,sc c7,sb h8,sb (rfl:false=false),sb (rfl:false=false),sb (rfl:false=false),sb (rfl:false=false),sb (rfl:true=true)]
        cases h9:(↑(List.map Se.cells a.sets).length:Int)==1
        ·exact ⟨false,wk At.ref11_ValidAction (p_4++[sb h9]) kr⟩
        ·obtain ⟨b10,c10⟩:=hs
         exact ⟨b10,wk At.ref11_ValidAction (p_4++[sg h9,sc c10]) kr⟩
       ·exact ⟨false,wk At.ref11_ValidAction (p_3++[sb h5,sg h6,sc c7,sb h8]) kr⟩
      ·exact ⟨false,wk At.ref11_ValidAction (p_3++[sb h5,sb h6]) kr⟩
     ·exact ⟨false,wk At.ref11_ValidAction (p_3++[sb h5]) kr⟩
    ·exact ⟨false,wk At.ref11_ValidAction (p_2++[sb h4]) kr⟩
   ·exact ⟨false,wk At.ref11_ValidAction (p_1++[sb h3]) kr⟩
  ·obtain ⟨r11,c11⟩:=(zax a.table)
   let p_5:List St:=[sg (rfl:false=false),sg h1,sg h2,sc c11]
   cases h12:!r11
   ·cases h13:!ByteArray.toList a.text==(ByteArray.mk #[]).toList
    ·let p_6:List St:=p_5++[sg h12,sg (rfl:true=true),sb h13,sg (rfl:true=true),si (e:=IntKind.i64.wrap ((↑(List.map zaG a.rows).length:Int)+(↑(zad a.query).length:Int))) rfl]
     cases h14:decide (0 < IntKind.i64.wrap ((↑(List.map zaG a.rows).length:Int)+(↑(zad a.query).length:Int)))
     ·let p_7:List St:=p_6++[sg h14,sg (rfl:true=true),sb (rfl:false=false),sg (rfl:true=true),sg (rfl:true=true)]
      cases h15:decide (0 < (↑(zaa a.wh).length:Int))
      ·cases h16:decide (1 < (↑(zaa a.wh).length:Int))
       ·obtain ⟨b17,c17⟩:=hw
        cases h18:!b17
        ·let p_8:List St:=p_7++[sb h15,sg h16,sc c17,sb h18,sb (rfl:false=false),sb (rfl:false=false),sb (rfl:false=false),sb (rfl:false=false),sb (rfl:true=true)]
         cases h19:(↑(List.map Se.cells a.sets).length:Int)==1
         ·exact ⟨false,wk At.ref11_ValidAction (p_8++[sb h19]) kr⟩
         ·obtain ⟨b20,c20⟩:=hs
          exact ⟨b20,wk At.ref11_ValidAction (p_8++[sg h19,sc c20]) kr⟩
        ·exact ⟨false,wk At.ref11_ValidAction (p_7++[sb h15,sg h16,sc c17,sb h18]) kr⟩
       ·exact ⟨false,wk At.ref11_ValidAction (p_7++[sb h15,sb h16]) kr⟩
      ·exact ⟨false,wk At.ref11_ValidAction (p_7++[sb h15]) kr⟩
     ·exact ⟨false,wk At.ref11_ValidAction (p_6++[sb h14]) kr⟩
    ·exact ⟨false,wk At.ref11_ValidAction (p_5++[sg h12,sg (rfl:true=true),sb h13]) kr⟩
   ·exact ⟨false,wk At.ref11_ValidAction (p_5++[sb h12]) kr⟩
 ·exact ⟨false,wk At.ref11_ValidAction [sg (rfl:false=false),sb h1] kr⟩
theorem zhj (a:Ac) (n1:(a.kind==1)=false) (n2:(a.kind==2)=false) (n3:(a.kind==3)=false) (n4:(a.kind==4)=false) (n5:(a.kind==5)=false) (m1:(a.kind != 1)=true) (m2:(a.kind != 2)=true) (m3:(a.kind != 3)=true) (m4:(a.kind != 4)=true) (m5:(a.kind != 5)=true) (hw:∃ b:Bool,zac E0 S.ref11_all [xsl a.wh] [] (bv b) []):∃ (r:Bool),zac E0 S.ref11_ValidAction [a.av] [] (bv r) []:=by
 cases h1:!(a.kind==5)==(ByteArray.toList a.table==(ByteArray.mk #[]).toList)
 ·cases h2:!ByteArray.toList a.table==(ByteArray.mk #[]).toList
  ·cases h3:!ByteArray.toList a.text==(ByteArray.mk #[]).toList
   ·let p_1:List St:=[sg n4,sg h1,sb h2,sg m4,sb h3,sg m1,si (e:=IntKind.i64.wrap ((↑(List.map (fun r=>[AV.sl (zaa r)]) a.rows).length:Int)+(↑(zad a.query).length:Int))) rfl]
    cases h4:decide (0 < IntKind.i64.wrap ((↑(List.map (fun r=>[AV.sl (zaa r)]) a.rows).length:Int)+(↑(zad a.query).length:Int)))
    ·cases h5:decide (0 < (↑(List.map Se.cells a.sets).length:Int))
     ·let p_2:List St:=p_1++[sg h4,sg m2,sg m5,sg h5,sg m2,sg m3]
      cases h6:decide (0 < (↑(zaa a.wh).length:Int))
      ·cases h7:decide (1 < (↑(zaa a.wh).length:Int))
       ·obtain ⟨b8,c8⟩:=hw
        cases h9:!b8
        ·exact ⟨false,wk At.ref11_ValidAction (p_2++[sb h6,sg h7,sc c8,sb h9,sb n1,sb n2,sb n3,sb n4,sb n5]) kr⟩
        ·exact ⟨false,wk At.ref11_ValidAction (p_2++[sb h6,sg h7,sc c8,sb h9]) kr⟩
       ·exact ⟨false,wk At.ref11_ValidAction (p_2++[sb h6,sb h7]) kr⟩
      ·exact ⟨false,wk At.ref11_ValidAction (p_2++[sb h6]) kr⟩
     ·exact ⟨false,wk At.ref11_ValidAction (p_1++[sg h4,sg m2,sg m5,sb h5]) kr⟩
    ·exact ⟨false,wk At.ref11_ValidAction (p_1++[sb h4]) kr⟩
   ·exact ⟨false,wk At.ref11_ValidAction [sg n4,sg h1,sb h2,sg m4,sb h3] kr⟩
  ·obtain ⟨r10,c10⟩:=(zax a.table)
   cases h11:!r10
   ·let p_3:List St:=[sg n4,sg h1,sg h2,sc c10,sg h11,sg m4]
    cases h12:!ByteArray.toList a.text==(ByteArray.mk #[]).toList
    ·let p_4:List St:=p_3++[sb h12,sg m1,si (e:=IntKind.i64.wrap ((↑(List.map (fun r=>[AV.sl (zaa r)]) a.rows).length:Int)+(↑(zad a.query).length:Int))) rfl]
     cases h13:decide (0 < IntKind.i64.wrap ((↑(List.map (fun r=>[AV.sl (zaa r)]) a.rows).length:Int)+(↑(zad a.query).length:Int)))
     ·cases h14:decide (0 < (↑(List.map Se.cells a.sets).length:Int))
      ·let p_5:List St:=p_4++[sg h13,sg m2,sg m5,sg h14,sg m2,sg m3]
       cases h15:decide (0 < (↑(zaa a.wh).length:Int))
       ·cases h16:decide (1 < (↑(zaa a.wh).length:Int))
        ·obtain ⟨b17,c17⟩:=hw
         cases h18:!b17
         ·exact ⟨false,wk At.ref11_ValidAction (p_5++[sb h15,sg h16,sc c17,sb h18,sb n1,sb n2,sb n3,sb n4,sb n5]) kr⟩
         ·exact ⟨false,wk At.ref11_ValidAction (p_5++[sb h15,sg h16,sc c17,sb h18]) kr⟩
        ·exact ⟨false,wk At.ref11_ValidAction (p_5++[sb h15,sb h16]) kr⟩
       ·exact ⟨false,wk At.ref11_ValidAction (p_5++[sb h15]) kr⟩
      ·exact ⟨false,wk At.ref11_ValidAction (p_4++[sg h13,sg m2,sg m5,sb h14]) kr⟩
     ·exact ⟨false,wk At.ref11_ValidAction (p_4++[sb h13]) kr⟩
    ·exact ⟨false,wk At.ref11_ValidAction (p_3++[sb h12]) kr⟩
   ·exact ⟨false,wk At.ref11_ValidAction [sg n4,sg h1,sg h2,sc c10,sb h11] kr⟩
 ·exact ⟨false,wk At.ref11_ValidAction [sg n4,sb h1] kr⟩
theorem zjx (a:Ac) (hw:∃ b:Bool,zac E0 S.ref11_all [xsl a.wh] [] (bv b) []) (hi:∃ b:Bool,zac E0 S.ref11_validInsert [a.av] [] (bv b) []) (hs:∃ b:Bool,zac E0 S.ref11_validSets [.sl (a.sets.map Se.cells)] [] (bv b) []):∃ (r:Bool),zac E0 S.ref11_ValidAction [a.av] [] (bv r) []:=by
 cases a with
 | mk k tb rows query sets wh text =>
  by_cases h1:k=1
  ·subst h1;exact zg6 _ hw hi hs
  by_cases h2:k=2
  ·subst h2;exact zg2 _ hw hi hs
  by_cases h3:k=3
  ·subst h3;exact zhk _ hw hi hs
  by_cases h4:k=4
  ·subst h4;exact zg3 _ hw hi hs
  by_cases h5:k=5
  ·subst h5;exact zhn _ hw hi hs
  exact zhj _ (by simp [h1]) (by simp [h2]) (by simp [h3]) (by simp [h4]) (by simp [h5]) (by simp [h1]) (by simp [h2]) (by simp [h3]) (by simp [h4]) (by simp [h5]) hw
noncomputable def zra (t:Tg) (i:Nat) :Cfg:=zav B.ref11_ValidTrigger 1 [(1,.p 0 0),(112,.sl (t.acts.map Ac.cells)),(113,iv ((t.acts.map Ac.cells).length:Nat)),(114,iv (i:Nat))] [.box t.cells]
theorem zeM (t:Tg) (h5:zae t.acts) (ha:∀ a∈t.acts,∃ b:Bool,zac E0 S.ref11_ValidAction [a.av] [] (bv b) []) (i:Nat)  (hi:i≤(t.acts).length) (hI:True):((True)∧(decide ((((t.acts).length:Nat):Int) < (((t.acts.map Ac.cells).length:Nat):Int))=false)∧∀ R,Good E0 B.ref11_ValidTrigger [] (zra t (t.acts).length ) R→Good E0 B.ref11_ValidTrigger [] (zra t i ) R)∨(∃ (r:Bool),Good E0 B.ref11_ValidTrigger [] (zra t i ) (Shut 0 fun rZ hZ=>rZ=(bv r)∧hZ=[])):=by
 obtain ⟨kk,hk⟩:∃ kk,i+kk=(t.acts).length:=⟨(t.acts).length - i,by omega⟩
 induction kk generalizing i  hI with
 | zero =>
  have e0:i=(t.acts).length:=by omega
  subst e0
  exact .inl ⟨hI,by simp,fun R hg=>hg⟩
 | succ kk ih =>
  obtain ⟨x,hx⟩:=zay (l:=t.acts) (i:=i) (by omega)
  have h0:decide (((i:Nat):Int) < (((t.acts.map Ac.cells).length:Nat):Int))=true:=by simp;omega
  have hw:IntKind.i64.wrap (((i:Nat):Int)+1)=((i+1:Nat):Int):=zap i zgL
  have hxa:=ha x (List.mem_of_getElem? hx)
  obtain ⟨b1,c1⟩:=hxa
  let p_1:List St:=[sb h0,se (zah Ac.cells hx rfl),sc c1]
  let p_2:List St:=[sb h0,se (zah Ac.cells hx rfl),sc c1]
  cases h2:!b1
  ·cases h3:t.before
   ·cases h4:x.kind==5
    ·exact (ih (i+1) (by omega) zcA (by omega)).elim (fun ⟨qZ,xZ,gZ⟩=>.inl ⟨qZ,xZ,fun R hg=>zab (wkl (p_1++[sg h2,sb h3,sb h4,si hw]) [1,112,113,114] 1 kr (gZ R hg))⟩) (fun ⟨rY,gZ⟩=>.inr ⟨rY,zab (wkl (p_2++[sg h2,sb h3,sb h4,si hw]) [1,112,113,114] 1 kr gZ)⟩)
    ·exact .inr ⟨false,zab (wkr (p_1++[sg h2,sb h3,sg h4,sb (congrArg Bool.not h3)]) kr)⟩
   ·cases h5:x.kind != 4
    ·cases h6:x.kind==5
     ·exact (ih (i+1) (by omega) zcA (by omega)).elim (fun ⟨qZ,xZ,gZ⟩=>.inl ⟨qZ,xZ,fun R hg=>zab (wkl (p_1++[sg h2,sg h3,sb h5,sb h6,si hw]) [1,112,113,114] 1 kr (gZ R hg))⟩) (fun ⟨rY,gZ⟩=>.inr ⟨rY,zab (wkl (p_2++[sg h2,sg h3,sb h5,sb h6,si hw]) [1,112,113,114] 1 kr gZ)⟩)
     ·let p_3:List St:=p_1++[sg h2,sg h3,sb h5,sg h6,sg (congrArg Bool.not h3)]
      cases h7:!t.each
      ·cases h8:t.event==3
       ·exact (ih (i+1) (by omega) zcA (by omega)).elim (fun ⟨qZ,xZ,gZ⟩=>.inl ⟨qZ,xZ,fun R hg=>zab (wkl (p_3++[sg h7,sb h8,si hw]) [1,112,113,114] 1 kr (gZ R hg))⟩) (fun ⟨rY,gZ⟩=>.inr ⟨rY,zab (wkl (p_2++[sg h2,sg h3,sb h5,sg h6,sg (congrArg Bool.not h3),sg h7,sb h8,si hw]) [1,112,113,114] 1 kr gZ)⟩)
       ·exact .inr ⟨false,zab (wkr (p_3++[sg h7,sb h8]) kr)⟩
      ·exact .inr ⟨false,zab (wkr (p_3++[sb h7]) kr)⟩
    ·cases h9:!x.kind==5
     ·let p_4:List St:=p_1++[sg h2,sg h3,sg h5,sg h9,sg (zoN h9),sg (congrArg Bool.not h3)]
      cases h10:!t.each
      ·cases h11:t.event==3
       ·exact (ih (i+1) (by omega) zcA (by omega)).elim (fun ⟨qZ,xZ,gZ⟩=>.inl ⟨qZ,xZ,fun R hg=>zab (wkl (p_4++[sg h10,sb h11,si hw]) [1,112,113,114] 1 kr (gZ R hg))⟩) (fun ⟨rY,gZ⟩=>.inr ⟨rY,zab (wkl (p_2++[sg h2,sg h3,sg h5,sg h9,sg (zoN h9),sg (congrArg Bool.not h3),sg h10,sb h11,si hw]) [1,112,113,114] 1 kr gZ)⟩)
       ·exact .inr ⟨false,zab (wkr (p_4++[sg h10,sb h11]) kr)⟩
      ·exact .inr ⟨false,zab (wkr (p_4++[sb h10]) kr)⟩
     ·exact .inr ⟨false,zab (wkr (p_1++[sg h2,sg h3,sg h5,sb h9]) kr)⟩
  ·exact .inr ⟨false,zab (wkr (p_1++[sb h2]) kr)⟩
noncomputable def zns (t:Tg) (i:Nat) :Cfg:=zav B.ref11_ValidTrigger 0 [(1,.p 0 0),(84,.sl (t.rank.map Rk.cells)),(85,iv ((t.rank.map Rk.cells).length:Nat)),(86,iv (i:Nat))] [.box t.cells]
theorem ze0 (t:Tg) (h4:zae t.rank) (i:Nat)  (hi:i≤(t.rank).length) (hI:True):((True)∧(decide ((((t.rank).length:Nat):Int) < (((t.rank.map Rk.cells).length:Nat):Int))=false)∧∀ R,Good E0 B.ref11_ValidTrigger [] (zns t (t.rank).length ) R→Good E0 B.ref11_ValidTrigger [] (zns t i ) R)∨(∃ (r:Bool),Good E0 B.ref11_ValidTrigger [] (zns t i ) (Shut 0 fun rZ hZ=>rZ=(bv r)∧hZ=[])):=by
 obtain ⟨kk,hk⟩:∃ kk,i+kk=(t.rank).length:=⟨(t.rank).length - i,by omega⟩
 induction kk generalizing i  hI with
 | zero =>
  have e0:i=(t.rank).length:=by omega
  subst e0
  exact .inl ⟨hI,by simp,fun R hg=>hg⟩
 | succ kk ih =>
  obtain ⟨x,hx⟩:=zay (l:=t.rank) (i:=i) (by omega)
  have h0:decide (((i:Nat):Int) < (((t.rank.map Rk.cells).length:Nat):Int))=true:=by simp;omega
  have hw:IntKind.i64.wrap (((i:Nat):Int)+1)=((i+1:Nat):Int):=zap i zgL
  obtain ⟨r1,c1⟩:=(zax x.table)
  let p_1:List St:=[sb h0,se (zah Rk.cells hx rfl),sc c1]
  cases h2:!r1
  ·obtain ⟨r3,c3⟩:=(zax x.col)
   cases h4:!r3
   ·cases h5:x.low==-9223372036854775808
    ·cases h6:x.high==-9223372036854775808
     ·exact (ih (i+1) (by omega) zcA (by omega)).elim (fun ⟨qZ,xZ,gZ⟩=>.inl ⟨qZ,xZ,fun R hg=>zab (wkl (p_1++[sg h2,sc c3,sg h4,sg h5,sb h6,si hw]) [1,84,85,86] 1 kr (gZ R hg))⟩) (fun ⟨rY,gZ⟩=>.inr ⟨rY,zab (wkl [sb h0,se (zah Rk.cells hx rfl),sc c1,sg h2,sc c3,sg h4,sg h5,sb h6,si hw] [1,84,85,86] 1 kr gZ)⟩)
     ·exact .inr ⟨false,zab (wkr (p_1++[sg h2,sc c3,sg h4,sg h5,sb h6]) kr)⟩
    ·exact .inr ⟨false,zab (wkr (p_1++[sg h2,sc c3,sg h4,sb h5]) kr)⟩
   ·exact .inr ⟨false,zab (wkr (p_1++[sg h2,sc c3,sb h4]) kr)⟩
  ·exact .inr ⟨false,zab (wkr (p_1++[sb h2]) kr)⟩
theorem zbG (t:Tg) (ha:∀ a∈t.acts,∃ b:Bool,zac E0 S.ref11_ValidAction [a.av] [] (bv b) []) (hsr:zae t.rank) (hsa:zae t.acts):∃ (r:Bool),Good E0 B.ref11_ValidTrigger [] (zns t 0) (Shut 0 fun rZ hZ=>rZ=(bv r)∧hZ=[]):=by
  rcases ze0 t zaE 0 zaE zaE with ⟨q1,q1_1,g1⟩|⟨r1_0,g1⟩
  ·rcases zeM t zaE zaE 0 zaE zaE with ⟨q2,q2_1,g2⟩|⟨r2_0,g2⟩
   ·cases h3:decide (1≤(↑(List.map Ac.cells t.acts).length:Int))
    ·exact ⟨false,wkl [] [1,84,85,86] 1 kr (g1 _ (zab (wkl [sb q1_1] [1,112,113,114] 1 kr (g2 _ (zab (wkr [sb q2_1,sb h3] kr))))))⟩
    ·exact ⟨decide ((↑(List.map Ac.cells t.acts).length:Int)≤(4:Int)),wkl [] [1,84,85,86] 1 kr (g1 _ (zab (wkl [sb q1_1] [1,112,113,114] 1 kr (g2 _ (zab (wkr [sb q2_1,sg h3] kr))))))⟩
   ·exact ⟨r2_0,wkl [] [1,84,85,86] 1 kr (g1 _ (zab (wkl [sb q1_1] [1,112,113,114] 1 kr g2)))⟩
  ·exact ⟨r1_0,wkl [] [1,84,85,86] 1 kr (g1)⟩
theorem zjb (t:Tg) (hw:∃ b:Bool,zac E0 S.ref11_all [xsl t.when_] [] (bv b) []) (ha:∀ a∈t.acts,∃ b:Bool,zac E0 S.ref11_ValidAction [a.av] [] (bv b) []) (h1:zae t.of) (h2:zae t.prec) (h3:zae t.foll) (h4:zae t.rank) (h5:zae t.acts):∃ (r:Bool),zac E0 S.ref11_ValidTrigger [t.av] [] (bv r) []:=by
 obtain ⟨r1,c1⟩:=(zax t.name)
 cases h2:!r1
 ·obtain ⟨r3,c3⟩:=(zax t.table)
  cases h4:!r3
  ·cases h5:decide (t.event < 1)
   ·cases h6:decide (3 < t.event)
    ·let p_1:List St:=[sc c1,sg h2,sc c3,sg h4,sg h5,sg h6]
     cases h7:t.event != 2
     ·obtain ⟨r8,c8⟩:=(zcT t.of zaE)
      cases h9:!r8
      ·obtain ⟨r10,c10⟩:=(zcT t.prec zaE)
       cases h11:!r10
       ·obtain ⟨r12,c12⟩:=(zcT t.foll zaE)
        let p_2:List St:=p_1++[sb h7,sc c8,sg h9,sc c10,sg h11,sc c12]
        cases h13:!r12
        ·cases h14:decide (1 < (↑(List.map Rk.cells t.rank).length:Int))
         ·cases h15:t.before
          ·cases h16:decide (1 < (↑(zaa t.when_).length:Int))
           ·obtain ⟨b17,c17⟩:=hw
            let p_3:List St:=p_2++[sg h13,sg h14,sb h15,sg h16,sc c17]
            cases h18:!b17
            ·obtain ⟨r19_0,g19⟩:=zbG t zaE zaE zaE
             exact ⟨r19_0,wkc At.ref11_ValidTrigger (p_3++[sb h18]) [1,84,85,86] 1 kr (g19)⟩
            ·exact ⟨false,wk At.ref11_ValidTrigger (p_3++[sb h18]) kr⟩
           ·exact ⟨false,wk At.ref11_ValidTrigger (p_2++[sg h13,sg h14,sb h15,sb h16]) kr⟩
          ·cases h20:decide (0 < (↑(List.map Rk.cells t.rank).length:Int))
           ·cases h21:decide (1 < (↑(zaa t.when_).length:Int))
            ·obtain ⟨b22,c22⟩:=hw
             let p_4:List St:=p_2++[sg h13,sg h14,sg h15,sg h20,sg h21,sc c22]
             cases h23:!b22
             ·obtain ⟨r24_0,g24⟩:=zbG t zaE zaE zaE
              exact ⟨r24_0,wkc At.ref11_ValidTrigger (p_4++[sb h23]) [1,84,85,86] 1 kr (g24)⟩
             ·exact ⟨false,wk At.ref11_ValidTrigger (p_4++[sb h23]) kr⟩
            ·exact ⟨false,wk At.ref11_ValidTrigger (p_2++[sg h13,sg h14,sg h15,sg h20,sb h21]) kr⟩
           ·exact ⟨false,wk At.ref11_ValidTrigger (p_2++[sg h13,sg h14,sg h15,sb h20]) kr⟩
         ·exact ⟨false,wk At.ref11_ValidTrigger (p_2++[sg h13,sb h14]) kr⟩
        ·exact ⟨false,wk At.ref11_ValidTrigger (p_2++[sb h13]) kr⟩
       ·exact ⟨false,wk At.ref11_ValidTrigger (p_1++[sb h7,sc c8,sg h9,sc c10,sb h11]) kr⟩
      ·exact ⟨false,wk At.ref11_ValidTrigger (p_1++[sb h7,sc c8,sb h9]) kr⟩
     ·cases h25:decide (0 < (↑(List.map (fun s=>[sv s]) t.of).length:Int))
      ·obtain ⟨r26,c26⟩:=(zcT t.of zaE)
       cases h27:!r26
       ·obtain ⟨r28,c28⟩:=(zcT t.prec zaE)
        cases h29:!r28
        ·obtain ⟨r30,c30⟩:=(zcT t.foll zaE)
         let p_5:List St:=p_1++[sg h7,sb h25,sc c26,sg h27,sc c28,sg h29,sc c30]
         cases h31:!r30
         ·cases h32:decide (1 < (↑(List.map Rk.cells t.rank).length:Int))
          ·cases h33:t.before
           ·cases h34:decide (1 < (↑(zaa t.when_).length:Int))
            ·obtain ⟨b35,c35⟩:=hw
             let p_6:List St:=p_5++[sg h31,sg h32,sb h33,sg h34,sc c35]
             cases h36:!b35
             ·obtain ⟨r37_0,g37⟩:=zbG t zaE zaE zaE
              exact ⟨r37_0,wkc At.ref11_ValidTrigger (p_6++[sb h36]) [1,84,85,86] 1 kr (g37)⟩
             ·exact ⟨false,wk At.ref11_ValidTrigger (p_6++[sb h36]) kr⟩
            ·exact ⟨false,wk At.ref11_ValidTrigger (p_5++[sg h31,sg h32,sb h33,sb h34]) kr⟩
           ·cases h38:decide (0 < (↑(List.map Rk.cells t.rank).length:Int))
            ·cases h39:decide (1 < (↑(zaa t.when_).length:Int))
             ·obtain ⟨b40,c40⟩:=hw
              let p_7:List St:=p_5++[sg h31,sg h32,sg h33,sg h38,sg h39,sc c40]
              cases h41:!b40
              ·obtain ⟨r42_0,g42⟩:=zbG t zaE zaE zaE
               exact ⟨r42_0,wkc At.ref11_ValidTrigger (p_7++[sb h41]) [1,84,85,86] 1 kr (g42)⟩
              ·exact ⟨false,wk At.ref11_ValidTrigger (p_7++[sb h41]) kr⟩
             ·exact ⟨false,wk At.ref11_ValidTrigger (p_5++[sg h31,sg h32,sg h33,sg h38,sb h39]) kr⟩
            ·exact ⟨false,wk At.ref11_ValidTrigger (p_5++[sg h31,sg h32,sg h33,sb h38]) kr⟩
          ·exact ⟨false,wk At.ref11_ValidTrigger (p_5++[sg h31,sb h32]) kr⟩
         ·exact ⟨false,wk At.ref11_ValidTrigger (p_5++[sb h31]) kr⟩
        ·exact ⟨false,wk At.ref11_ValidTrigger (p_1++[sg h7,sb h25,sc c26,sg h27,sc c28,sb h29]) kr⟩
       ·exact ⟨false,wk At.ref11_ValidTrigger (p_1++[sg h7,sb h25,sc c26,sb h27]) kr⟩
      ·exact ⟨false,wk At.ref11_ValidTrigger (p_1++[sg h7,sb h25]) kr⟩
    ·exact ⟨false,wk At.ref11_ValidTrigger [sc c1,sg h2,sc c3,sg h4,sg h5,sb h6] kr⟩
   ·exact ⟨false,wk At.ref11_ValidTrigger [sc c1,sg h2,sc c3,sg h4,sb h5] kr⟩
  ·exact ⟨false,wk At.ref11_ValidTrigger [sc c1,sg h2,sc c3,sb h4] kr⟩
 ·exact ⟨false,wk At.ref11_ValidTrigger [sc c1,sb h2] kr⟩
theorem vaOk {n:Nat} {a:Ac} (h:AcOk n a):∃ b:Bool,zac E0 S.ref11_ValidAction [a.av] [] (bv b) [] :=
 zjx a (vlOk h.wh h.w) (zjp a (zaK h.rows) (fun r hr=>vlOk (h.row r hr).1 (h.row r hr).2) fun q hq=>vqOk (h.qs q hq)) (zkI _ (zaK h.sets) fun s hs=>vxOk n _ (h.set s hs))
theorem vtOk {n:Nat} {t:Tg} (h:TgOk n t):∃ b:Bool,zac E0 S.ref11_ValidTrigger [t.av] [] (bv b) [] :=
 zjb t (vlOk h.whens h.when_) (fun a ha=>vaOk (h.act a ha)) (zaK h.of) (zaK h.prec) (zaK h.foll) (zaK h.rank) (zaK h.acts)
end Go.AM
namespace Go.AM
set_option maxRecDepth 100000
set_option maxHeartbeats 1000000
set_option linter.unusedSimpArgs false
set_option linter.unusedVariables false
theorem zcc {p:Prop} (h:p:=by first|assumption|omega|(simp;done)|(simp;omega)):p:=h
theorem zii {p:Prop} (h:p:=by first|(simp;done)|(simp;exact ⟨_,rfl⟩)|(simp;exact ⟨⟨_,rfl⟩,⟨_,rfl⟩⟩)):p:=h
theorem zhX {p:Prop} (h:p:=by first|assumption|(simp [zae];done)|(simp only [zae] at *;omega)):p:=h
theorem zn1 {p:Prop} (h:p:=by first|trivial|assumption|(simp;done)|omega|(simp;omega)|(simp at *;omega)):p:=h
theorem zma {p:Prop} (h:p:=by first|omega|(simp only [zae,Few] at *;omega)):p:=h
noncomputable def L_fd (s:Sch) (n:Str) (i:Nat) :Cfg:=zav B.ref4_Find 0 [(1,sv n),(8,.sl (s.cols.map Col.cells)),(9,iv ((s.cols.map Col.cells).length:Nat)),(10,iv (i:Nat))] [.box s.cells]
theorem ziI (s:Sch) (n:Str) (h:zae s.cols) (i:Nat)  (hi:i≤(s.cols).length) (hI:True):((True)∧(decide ((((s.cols).length:Nat):Int) < (((s.cols.map Col.cells).length:Nat):Int))=false)∧∀ R,Good E0 B.ref4_Find [] (L_fd s n (s.cols).length ) R→Good E0 B.ref4_Find [] (L_fd s n i ) R)∨(∃ (r:Int),(-1≤r∧r < s.cols.length)∧Good E0 B.ref4_Find [] (L_fd s n i ) (Shut 0 fun rZ hZ=>rZ=(iv r)∧hZ=[])):=by
 obtain ⟨kk,hk⟩:∃ kk,i+kk=(s.cols).length:=⟨(s.cols).length - i,by omega⟩
 induction kk generalizing i  hI with
 | zero =>
  have e0:i=(s.cols).length:=by omega
  subst e0
  exact .inl ⟨hI,by simp,fun R hg=>hg⟩
 | succ kk ih =>
  obtain ⟨x,hx⟩:=zay (l:=s.cols) (i:=i) (by omega)
  have h0:decide (((i:Nat):Int) < (((s.cols.map Col.cells).length:Nat):Int))=true:=by simp;omega
  have hw:IntKind.i64.wrap (((i:Nat):Int)+1)=((i+1:Nat):Int):=zap i zma
  let p_1:List St:=[sb h0,se (zah Col.cells hx rfl)]
  cases h1:ByteArray.toList x.name==ByteArray.toList n
  ·exact (ih (i+1) (by omega) zn1 (by omega)).elim (fun ⟨qZ,xZ,gZ⟩=>.inl ⟨qZ,xZ,fun R hg=>zab (wkl (p_1++[sb h1,si hw]) [1,8,9,10] 1 kr (gZ R hg))⟩) (fun ⟨rY,pZ,gZ⟩=>.inr ⟨rY,pZ,zab (wkl [sb h0,se (zah Col.cells hx rfl),sb h1,si hw] [1,8,9,10] 1 kr gZ)⟩)
  ·exact .inr ⟨(i:Int),(by (have:=(List.getElem?_eq_some_iff.mp hx).1;omega)),zab (wkr (p_1++[sb h1]) kr)⟩
theorem zdz (s:Sch) (n:Str) (h:zae s.cols):∃ (r:Int),(-1≤r∧r < s.cols.length)∧zac E0 S.ref4_Find [s.av,sv n] [] (iv r) []:=by
 rcases ziI s n zcc 0 zcc zcc with ⟨q1,q1_1,g1⟩|⟨r1_0,p1_0,g1⟩
 ·exact ⟨-1,(by first|assumption|omega),wkc At.ref4_Find [] [1,8,9,10] 1 kr (g1 _ (zab (wkr [sb q1_1] kr)))⟩
 ·exact ⟨r1_0,(by first|assumption|omega),wkc At.ref4_Find [] [1,8,9,10] 1 kr (g1)⟩
noncomputable def L_cr0 :Cfg:=zav B.ref17_copyRows 0 [(3,.nl),(6,.sl []),(7,iv 0),(8,iv 0)] []
theorem zf5 :True∧∀ R,Good E0 B.ref17_copyRows [] (L_cr0 ) R→Good E0 B.ref17_copyRows [] (L_cr0 ) R:=⟨trivial,fun _ h=>h⟩
theorem zk8 (_u:Unit) :∃ (r:List Rw),r=[]∧zac E0 S.ref17_copyRows [.sl []] [] (.sl (r.map Rw.cells)) []:=by
 obtain ⟨q1,g1⟩:=zf5
 exact ⟨[],(by first|assumption|trivial|(simp;done)|omega|(simp;omega)|(simp at *;omega)),wkc At.ref17_copyRows [] [3,6,7,8] 0 kr (g1 _ (zab (wkr [sb (rfl:false=false)] kr)))⟩
theorem zk4:zac E0 S.ref17_copyRows [.sl []] [] (.sl []) []:=by
 obtain ⟨r,rfl,h⟩:=zk8 ()
 exact h
def Col.tr (c:Col):Col:=⟨c.name,c.type,false,false⟩
def trTb (n:Str) (s:Sch):Tb:=⟨⟨n,s.cols.map Col.tr⟩,1,[]⟩
noncomputable def L_tr (n:Str) (s:Sch) (i:Nat) (cs:List Col):Cfg:=zav B.ref17_transition 0 [(2,.sl []),(6,.p 1 0),(7,.p 2 0),(16,.sl (s.cols.map Col.cells)),(17,iv ((s.cols.map Col.cells).length:Nat)),(18,iv (i:Nat))] [.box s.cells,.box [sv ⟨#[]⟩,.nl,iv 0,.nl],.box [sv n,.own 3 cs.length,iv 1,.sl []],.row Ty.Column (cs.map Col.cells) false]
theorem zf2 (n:Str) (s:Sch) (h:zae s.cols) (i:Nat) (cs:List Col) (hi:i≤(s.cols).length) (hI:cs=(s.cols.take i).map Col.tr):∃ (cs':List Col),(cs'=(s.cols.take (s.cols).length).map Col.tr)∧(decide ((((s.cols).length:Nat):Int) < (((s.cols.map Col.cells).length:Nat):Int))=false)∧∀ R,Good E0 B.ref17_transition [] (L_tr n s (s.cols).length cs') R→Good E0 B.ref17_transition [] (L_tr n s i cs) R:=by
 obtain ⟨kk,hk⟩:∃ kk,i+kk=(s.cols).length:=⟨(s.cols).length - i,by omega⟩
 induction kk generalizing i cs with
 | zero =>
  have e0:i=(s.cols).length:=by omega
  subst e0
  exact ⟨cs,hI,by simp,fun R hg=>hg⟩
 | succ kk ih =>
  obtain ⟨x,hx⟩:=zay (l:=s.cols) (i:=i) (by omega)
  have h0:decide (((i:Nat):Int) < (((s.cols.map Col.cells).length:Nat):Int))=true:=by simp;omega
  have hw:IntKind.i64.wrap (((i:Nat):Int)+1)=((i+1:Nat):Int):=zap i zma
  have hcl:cs.length≤1000000000:=by rw [hI];simp only [zae,List.length_map,List.length_take] at *;omega
  obtain ⟨csZ,qZ,xZ,gZ⟩:=ih (i+1) (cs++[Col.mk x.name x.type false false]) (by omega) (by first|(simp [hI,List.take_add_one,hx,Col.tr];done)|(simp;done)) (by omega);exact ⟨csZ,qZ,xZ,fun R hg=>zab (wkl [sb h0,se (zah Col.cells hx rfl),sqx (AllLen [[sv x.name,iv x.type,bv false,bv false]] 4∧cs.length=(List.map Col.cells cs).length∧(((List.map Col.cells cs).length+[[sv x.name,iv x.type,bv false,bv false]].length) * 32).le 140737488355328),si hw] [2,6,7,16,17,18] 4 kr (zan (show ([(2,AV.sl []),(6,AV.p 1 0),(7,AV.p 2 0),(16,AV.sl (List.map Col.cells s.cols)),(17,iv (↑(List.map Col.cells s.cols).length:Int)),(18,iv (↑(i+1):Int))]:TS)=[(2,AV.sl []),(6,AV.p 1 0),(7,AV.p 2 0),(16,AV.sl (List.map Col.cells s.cols)),(17,iv (↑(List.map Col.cells s.cols).length:Int)),(18,iv (↑(i+1):Int))] by first|rfl|(simp;done)|(simp [X.cells,Qy.cells,V.cells,Col.cells,Rw.cells,Tb.cells,Fr.cells,Sch.cells,Tp.cells,Pl.cells,xCol,xLit,xBin,xNeg,Im.cells,Lk.cells,Ac.cells,Se.cells,Tg.cells,Rk.cells];done)) (show ([Blk.box [sv s.name,AV.sl (List.map Col.cells s.cols)],Blk.box [sv (ByteArray.mk #[]),AV.nl,iv 0,AV.nl],Blk.box [sv n,AV.own 3 (List.map Col.cells cs++[[sv x.name,iv x.type,bv false,bv false]]).length,iv 1,AV.sl []],Blk.row Ty.Column (List.map Col.cells cs++[[sv x.name,iv x.type,bv false,bv false]]) false]:Heap)=[Blk.box [sv s.name,AV.sl (List.map Col.cells s.cols)],Blk.box [sv (ByteArray.mk #[]),AV.nl,iv 0,AV.nl],Blk.box [sv n,AV.own 3 (cs++[Col.mk x.name x.type false false]).length,iv 1,AV.sl []],Blk.row Ty.Column (List.map Col.cells (cs++[Col.mk x.name x.type false false])) false] by first|rfl|(simp;done)|(simp [X.cells,Qy.cells,V.cells,Col.cells,Rw.cells,Tb.cells,Fr.cells,Sch.cells,Tp.cells,Pl.cells,xCol,xLit,xBin,xNeg,Im.cells,Lk.cells,Ac.cells,Se.cells,Tg.cells,Rk.cells];done)) (gZ R hg)))⟩
theorem zjI (n:Str) (s:Sch) (h:zae s.cols):∃ (r:Tb),r=trTb n s∧zac E0 S.ref17_transition [sv n,s.av,.sl []] [] r.av []:=by
 obtain ⟨cs1,q1,q1_1,g1⟩:=zf2 n s zcc 0 ([]) zcc zcc
 exact ⟨Tb.mk (Sch.mk n cs1) 1 [],(by (subst_vars;simp [trTb])),wkcN At.ref17_transition [sc zk4] [2,6,7,16,17,18] 3 [(.ob 2 1 Ty.Column,4)] kr (g1 _ (zab (wkr [sqx (True∧cs1.length=(List.map Col.cells cs1).length∧True∧True∧True),sb q1_1,sb (rfl:false=false)] kr)))⟩
theorem zc3 (n:Str) (s:Sch) (h:zae s.cols):zac E0 S.ref17_transition [sv n,s.av,.sl []] [] (trTb n s).av []:=by
 obtain ⟨r,rfl,h⟩:=zjI n s h
 exact h
noncomputable def L_tr0 (t:Tg) (s:Sch):Cfg:=zav B.ref17_Transitions 0 [(3,.p 0 0),(4,.p 1 0),(5,.p 2 0),(7,.nl),(8,.nl),(18,.sl []),(19,iv 0),(20,iv 0)] [.box t.cells,.box s.cells,.box [sv ⟨#[]⟩,.sl [],.sl [],.sl []]]
theorem ze4 (t:Tg) (s:Sch):True∧∀ R,Good E0 B.ref17_Transitions [] (L_tr0 t s) R→Good E0 B.ref17_Transitions [] (L_tr0 t s) R:=⟨trivial,fun _ h=>h⟩
theorem zfg (t:Tg) (s:Sch) (h:zae s.cols):∃ (r:List Tb),(r.length≤2∧∀ x∈r,∃ n,x=trTb n s)∧zac E0 S.ref17_Transitions [t.av,s.av,.agg [sv ⟨#[]⟩,.sl [],.sl [],.sl []]] [] (tsl r) []:=by
 cases h1:t.before
 ·cases h2:t.each
  ·obtain ⟨q3,g3⟩:=ze4 t (s)
   cases h4:t.event==1
   ·cases h5:t.event==3
    ·let p_1:List St:=[sb (rfl:false=false),sb h4,sb h5]
     cases h6:t.event==2
     ·exact ⟨[],zii,wkc At.ref17_Transitions [sg h1,sb h2] [3,4,5,7,8,18,19,20] 3 kr (g3 _ (zab (wkr (p_1++[sb h6]) kr)))⟩
     ·exact ⟨[trTb (ByteArray.mk #[68,69,76,69,84,69,68]) s,trTb (ByteArray.mk #[73,78,83,69,82,84,69,68]) s],zii,wkc At.ref17_Transitions [sg h1,sb h2] [3,4,5,7,8,18,19,20] 3 kr (g3 _ (zab (wkrS (y:=AV.sl [[sv (trTb (ByteArray.mk #[68,69,76,69,84,69,68]) s).sch.name,AV.sl (List.map Col.cells (trTb (ByteArray.mk #[68,69,76,69,84,69,68]) s).sch.cols),iv (trTb (ByteArray.mk #[68,69,76,69,84,69,68]) s).next,AV.sl []],[sv (trTb (ByteArray.mk #[73,78,83,69,82,84,69,68]) s).sch.name,AV.sl (List.map Col.cells (trTb (ByteArray.mk #[73,78,83,69,82,84,69,68]) s).sch.cols),iv (trTb (ByteArray.mk #[73,78,83,69,82,84,69,68]) s).next,AV.sl []]]) (H:=[]) (p_1++[sb h6,sd [(2,[sc (zc3 (ByteArray.mk #[68,69,76,69,84,69,68]) s zcc)]),(5,[sc (zc3 (ByteArray.mk #[73,78,83,69,82,84,69,68]) s zcc)])]]) kr ⟨by first|rfl|(simp;done)|(simp [X.cells,Qy.cells,V.cells,Col.cells,Rw.cells,Tb.cells,Fr.cells,Sch.cells,Tp.cells,Pl.cells,xCol,xLit,xBin,xNeg,Im.cells,Lk.cells,Ac.cells,Se.cells,Tg.cells,Rk.cells];done),by first|rfl|(simp;done)|(simp [X.cells,Qy.cells,V.cells,Col.cells,Rw.cells,Tb.cells,Fr.cells,Sch.cells,Tp.cells,Pl.cells,xCol,xLit,xBin,xNeg,Im.cells,Lk.cells,Ac.cells,Se.cells,Tg.cells,Rk.cells];done)⟩)))⟩
    ·exact ⟨[trTb (ByteArray.mk #[68,69,76,69,84,69,68]) s],zii,wkc At.ref17_Transitions [sg h1,sb h2] [3,4,5,7,8,18,19,20] 3 kr (g3 _ (zab (wkrS (y:=AV.sl [[sv (trTb (ByteArray.mk #[68,69,76,69,84,69,68]) s).sch.name,AV.sl (List.map Col.cells (trTb (ByteArray.mk #[68,69,76,69,84,69,68]) s).sch.cols),iv (trTb (ByteArray.mk #[68,69,76,69,84,69,68]) s).next,AV.sl []]]) (H:=[]) [sb (rfl:false=false),sb h4,sb h5,sc (zc3 (ByteArray.mk #[68,69,76,69,84,69,68]) s zcc)] kr ⟨by first|rfl|(simp;done)|(simp [X.cells,Qy.cells,V.cells,Col.cells,Rw.cells,Tb.cells,Fr.cells,Sch.cells,Tp.cells,Pl.cells,xCol,xLit,xBin,xNeg,Im.cells,Lk.cells,Ac.cells,Se.cells,Tg.cells,Rk.cells];done),by first|rfl|(simp;done)|(simp [X.cells,Qy.cells,V.cells,Col.cells,Rw.cells,Tb.cells,Fr.cells,Sch.cells,Tp.cells,Pl.cells,xCol,xLit,xBin,xNeg,Im.cells,Lk.cells,Ac.cells,Se.cells,Tg.cells,Rk.cells];done)⟩)))⟩
   ·exact ⟨[trTb (ByteArray.mk #[73,78,83,69,82,84,69,68]) s],zii,wkc At.ref17_Transitions [sg h1,sb h2] [3,4,5,7,8,18,19,20] 3 kr (g3 _ (zab (wkrS (y:=AV.sl [[sv (trTb (ByteArray.mk #[73,78,83,69,82,84,69,68]) s).sch.name,AV.sl (List.map Col.cells (trTb (ByteArray.mk #[73,78,83,69,82,84,69,68]) s).sch.cols),iv (trTb (ByteArray.mk #[73,78,83,69,82,84,69,68]) s).next,AV.sl []]]) (H:=[]) [sb (rfl:false=false),sb h4,sc (zc3 (ByteArray.mk #[73,78,83,69,82,84,69,68]) s zcc)] kr ⟨by first|rfl|(simp;done)|(simp [X.cells,Qy.cells,V.cells,Col.cells,Rw.cells,Tb.cells,Fr.cells,Sch.cells,Tp.cells,Pl.cells,xCol,xLit,xBin,xNeg,Im.cells,Lk.cells,Ac.cells,Se.cells,Tg.cells,Rk.cells];done),by first|rfl|(simp;done)|(simp [X.cells,Qy.cells,V.cells,Col.cells,Rw.cells,Tb.cells,Fr.cells,Sch.cells,Tp.cells,Pl.cells,xCol,xLit,xBin,xNeg,Im.cells,Lk.cells,Ac.cells,Se.cells,Tg.cells,Rk.cells];done)⟩)))⟩
  ·exact ⟨[],zii,wk At.ref17_Transitions [sg h1,sb h2] kr⟩
 ·exact ⟨[],zii,wk At.ref17_Transitions [sb h1] kr⟩
theorem zpw (a b:List Tb) (ha:zae a) (hb:zae b):∃ (r:List (List AV)),r=a.map Tb.cells++b.map Tb.cells∧zac E0 S.ref17_All [tsl a,tsl b] [] (.sl r) []:=by
 exact ⟨List.map Tb.cells a++List.map Tb.cells b,(by rfl),wk At.ref17_All [sqx ((List.map Tb.cells a++List.map Tb.cells b).length=(List.map Tb.cells a++List.map Tb.cells b).length),sqx (AllLen (List.map Tb.cells a) 4∧((List.map Tb.cells a).length * 72).le 140737488355328),sqx (AllLen (List.map Tb.cells b) 4∧(List.map Tb.cells a).length=(List.map Tb.cells a).length∧(((List.map Tb.cells a).length+(List.map Tb.cells b).length) * 72).le 140737488355328)] kr⟩
theorem zo3 (a b:List Tb) (ha:zae a) (hb:zae b):zac E0 S.ref17_All [tsl a,tsl b] [] (tsl (a++b)) []:=by
 obtain ⟨r,rfl,h⟩:=zpw a b ha hb
 show zac E0 S.ref17_All [tsl a,tsl b] [] (.sl ((a++b).map Tb.cells)) []
 rw [List.map_append]
 exact h
noncomputable def L_tyS (q:Qy) (s:Sch) (inn:List Fr) (tb:List Tb) (i:Nat) (is:List Int):Cfg:=zav B.ref14_Types 0 [(2,tsl tb),(3,.p 0 0),(10,fsl inn),(11,.own 2 is.length),(34,.sl (s.cols.map Col.cells)),(35,iv ((s.cols.map Col.cells).length:Nat)),(36,iv (i:Nat))] [.box q.cells,.box s.cells,.row Ty.int (is.map fun n=>[iv n]) false]
theorem zhi (q:Qy) (s:Sch) (inn:List Fr) (tb:List Tb) (hs:zae s.cols) (i:Nat) (is:List Int) (hi:i≤(s.cols).length) (hI:is.length=i):∃ (is':List Int),(is'.length=(s.cols).length)∧(decide ((((s.cols).length:Nat):Int) < (((s.cols.map Col.cells).length:Nat):Int))=false)∧∀ R,Good E0 B.ref14_Types [] (L_tyS q s inn tb (s.cols).length is') R→Good E0 B.ref14_Types [] (L_tyS q s inn tb i is) R:=by
 obtain ⟨kk,hk⟩:∃ kk,i+kk=(s.cols).length:=⟨(s.cols).length - i,by omega⟩
 induction kk generalizing i is with
 | zero =>
  have e0:i=(s.cols).length:=by omega
  subst e0
  exact ⟨is,hI,by simp,fun R hg=>hg⟩
 | succ kk ih =>
  obtain ⟨x,hx⟩:=zay (l:=s.cols) (i:=i) (by omega)
  have h0:decide (((i:Nat):Int) < (((s.cols.map Col.cells).length:Nat):Int))=true:=by simp;omega
  have hw:IntKind.i64.wrap (((i:Nat):Int)+1)=((i+1:Nat):Int):=zap i zma
  have hil:is.length≤1000000000:=by simp only [zae] at hs;omega
  obtain ⟨isZ,qZ,xZ,gZ⟩:=ih (i+1) (is++[x.type]) (by omega) zn1 (by omega);exact ⟨isZ,qZ,xZ,fun R hg=>zab (wkl [sb h0,se (zah Col.cells hx rfl),sqx (AllLen [[iv x.type]] 1∧is.length=(List.map (fun n=>[iv n]) is).length∧(((List.map (fun n=>[iv n]) is).length+[[iv x.type]].length) * 8).le 140737488355328),si hw] [2,3,10,11,34,35,36] 3 kr (zan (show ([(2,AV.sl (List.map Tb.cells tb)),(3,AV.p 0 0),(10,AV.sl (List.map Fr.cells inn)),(11,AV.own 2 (List.map (fun n=>[iv n]) is++[[iv x.type]]).length),(34,AV.sl (List.map Col.cells s.cols)),(35,iv (↑(List.map Col.cells s.cols).length:Int)),(36,iv (↑(i+1):Int))]:TS)=[(2,AV.sl (List.map Tb.cells tb)),(3,AV.p 0 0),(10,AV.sl (List.map Fr.cells inn)),(11,AV.own 2 (is++[x.type]).length),(34,AV.sl (List.map Col.cells s.cols)),(35,iv (↑(List.map Col.cells s.cols).length:Int)),(36,iv (↑(i+1):Int))] by first|rfl|(simp;done)|(simp [X.cells,Qy.cells,V.cells,Col.cells,Rw.cells,Tb.cells,Fr.cells,Sch.cells,Tp.cells,Pl.cells,xCol,xLit,xBin,xNeg,Im.cells,Lk.cells,Ac.cells,Se.cells,Tg.cells,Rk.cells];done)) (show ([Blk.box [bv q.star,AV.sl (zaa q.items),sv q.frm,AV.sl (zaa q.wh)],Blk.box [sv s.name,AV.sl (List.map Col.cells s.cols)],Blk.row Ty.int (List.map (fun n=>[iv n]) is++[[iv x.type]]) false]:Heap)=[Blk.box [bv q.star,AV.sl (zaa q.items),sv q.frm,AV.sl (zaa q.wh)],Blk.box [sv s.name,AV.sl (List.map Col.cells s.cols)],Blk.row Ty.int (List.map (fun n=>[iv n]) (is++[x.type])) false] by first|rfl|(simp;done)|(simp [X.cells,Qy.cells,V.cells,Col.cells,Rw.cells,Tb.cells,Fr.cells,Sch.cells,Tp.cells,Pl.cells,xCol,xLit,xBin,xNeg,Im.cells,Lk.cells,Ac.cells,Se.cells,Tg.cells,Rk.cells];done)) (gZ R hg)))⟩
noncomputable def zq6 (q:Qy) (s:Sch) (inn:List Fr) (tb:List Tb) (f:X→Int × Int) (i:Nat) (is:List Int):Cfg:=zav B.ref14_Types 1 [(2,tsl tb),(3,.p 0 0),(10,fsl inn),(11,.own 2 is.length),(47,xsl q.items),(48,iv ((zaa q.items).length:Nat)),(49,iv (i:Nat))] [.box q.cells,.box s.cells,.row Ty.int (is.map fun n=>[iv n]) false]
theorem zhl (q:Qy) (s:Sch) (inn:List Fr) (tb:List Tb) (f:X→Int × Int) (hs:zae q.items) (hf:∀ x∈q.items,Pure S.ref14_Type [x.av,fsl inn,tsl tb] (.tup [iv (f x).1,iv (f x).2])) (i:Nat) (is:List Int) (hi:i≤(q.items).length) (hI:is.length=i):(∃ (is':List Int),(is'.length=(q.items).length)∧(decide ((((q.items).length:Nat):Int) < (((zaa q.items).length:Nat):Int))=false)∧∀ R,Good E0 B.ref14_Types [] (zq6 q s inn tb f (q.items).length is') R→Good E0 B.ref14_Types [] (zq6 q s inn tb f i is) R)∨(∃ (r:List Int) (e:Int),zae r∧Good E0 B.ref14_Types [] (zq6 q s inn tb f i is) (Shut 0 fun rZ hZ=>rZ=(.tup [isl r,iv e])∧hZ=[])):=by
 obtain ⟨kk,hk⟩:∃ kk,i+kk=(q.items).length:=⟨(q.items).length - i,by omega⟩
 induction kk generalizing i is with
 | zero =>
  have e0:i=(q.items).length:=by omega
  subst e0
  exact .inl ⟨is,hI,by simp,fun R hg=>hg⟩
 | succ kk ih =>
  obtain ⟨x,hx⟩:=zay (l:=q.items) (i:=i) (by omega)
  have h0:decide (((i:Nat):Int) < (((zaa q.items).length:Nat):Int))=true:=by simp;omega
  have hw:IntKind.i64.wrap (((i:Nat):Int)+1)=((i+1:Nat):Int):=zap i zma
  have hil:is.length≤1000000000:=by simp only [zae] at hs;omega
  have hfx:=hf x (List.mem_of_getElem? hx)
  cases h1:(f x).snd != 0
  ·exact (ih (i+1) (is++[(f x).fst]) (by omega) zn1 (by omega)).elim (fun ⟨isZ,qZ,xZ,gZ⟩=>.inl ⟨isZ,qZ,xZ,fun R hg=>zab (wkl [sb h0,se (zbn hx),sc hfx,sb h1,sqx (AllLen [[iv (f x).fst]] 1∧is.length=(List.map (fun n=>[iv n]) is).length∧(((List.map (fun n=>[iv n]) is).length+[[iv (f x).fst]].length) * 8).le 140737488355328),si hw] [2,3,10,11,47,48,49] 3 kr (zan (show ([(2,AV.sl (List.map Tb.cells tb)),(3,AV.p 0 0),(10,AV.sl (List.map Fr.cells inn)),(11,AV.own 2 (List.map (fun n=>[iv n]) is++[[iv (f x).fst]]).length),(47,AV.sl (zaa q.items)),(48,iv (↑(zaa q.items).length:Int)),(49,iv (↑(i+1):Int))]:TS)=[(2,AV.sl (List.map Tb.cells tb)),(3,AV.p 0 0),(10,AV.sl (List.map Fr.cells inn)),(11,AV.own 2 (is++[(f x).fst]).length),(47,AV.sl (zaa q.items)),(48,iv (↑(zaa q.items).length:Int)),(49,iv (↑(i+1):Int))] by first|rfl|(simp;done)|(simp [X.cells,Qy.cells,V.cells,Col.cells,Rw.cells,Tb.cells,Fr.cells,Sch.cells,Tp.cells,Pl.cells,xCol,xLit,xBin,xNeg,Im.cells,Lk.cells,Ac.cells,Se.cells,Tg.cells,Rk.cells];done)) (show ([Blk.box [bv q.star,AV.sl (zaa q.items),sv q.frm,AV.sl (zaa q.wh)],Blk.box [sv s.name,AV.sl (List.map Col.cells s.cols)],Blk.row Ty.int (List.map (fun n=>[iv n]) is++[[iv (f x).fst]]) false]:Heap)=[Blk.box [bv q.star,AV.sl (zaa q.items),sv q.frm,AV.sl (zaa q.wh)],Blk.box [sv s.name,AV.sl (List.map Col.cells s.cols)],Blk.row Ty.int (List.map (fun n=>[iv n]) (is++[(f x).fst])) false] by first|rfl|(simp;done)|(simp [X.cells,Qy.cells,V.cells,Col.cells,Rw.cells,Tb.cells,Fr.cells,Sch.cells,Tp.cells,Pl.cells,xCol,xLit,xBin,xNeg,Im.cells,Lk.cells,Ac.cells,Se.cells,Tg.cells,Rk.cells];done)) (gZ R hg)))⟩) (fun ⟨rY,eY,pZ,gZ⟩=>.inr ⟨rY,eY,pZ,zab (wkl [sb h0,se (zbn hx),sc hfx,sb h1,sqx (AllLen [[iv (f x).fst]] 1∧is.length=(List.map (fun n=>[iv n]) is).length∧(((List.map (fun n=>[iv n]) is).length+[[iv (f x).fst]].length) * 8).le 140737488355328),si hw] [2,3,10,11,47,48,49] 3 kr (zan (show ([(2,AV.sl (List.map Tb.cells tb)),(3,AV.p 0 0),(10,AV.sl (List.map Fr.cells inn)),(11,AV.own 2 (List.map (fun n=>[iv n]) is++[[iv (f x).fst]]).length),(47,AV.sl (zaa q.items)),(48,iv (↑(zaa q.items).length:Int)),(49,iv (↑(i+1):Int))]:TS)=[(2,AV.sl (List.map Tb.cells tb)),(3,AV.p 0 0),(10,AV.sl (List.map Fr.cells inn)),(11,AV.own 2 (is++[(f x).fst]).length),(47,AV.sl (zaa q.items)),(48,iv (↑(zaa q.items).length:Int)),(49,iv (↑(i+1):Int))] by first|rfl|(simp;done)|(simp [X.cells,Qy.cells,V.cells,Col.cells,Rw.cells,Tb.cells,Fr.cells,Sch.cells,Tp.cells,Pl.cells,xCol,xLit,xBin,xNeg,Im.cells,Lk.cells,Ac.cells,Se.cells,Tg.cells,Rk.cells];done)) (show ([Blk.box [bv q.star,AV.sl (zaa q.items),sv q.frm,AV.sl (zaa q.wh)],Blk.box [sv s.name,AV.sl (List.map Col.cells s.cols)],Blk.row Ty.int (List.map (fun n=>[iv n]) is++[[iv (f x).fst]]) false]:Heap)=[Blk.box [bv q.star,AV.sl (zaa q.items),sv q.frm,AV.sl (zaa q.wh)],Blk.box [sv s.name,AV.sl (List.map Col.cells s.cols)],Blk.row Ty.int (List.map (fun n=>[iv n]) (is++[(f x).fst])) false] by first|rfl|(simp;done)|(simp [X.cells,Qy.cells,V.cells,Col.cells,Rw.cells,Tb.cells,Fr.cells,Sch.cells,Tp.cells,Pl.cells,xCol,xLit,xBin,xNeg,Im.cells,Lk.cells,Ac.cells,Se.cells,Tg.cells,Rk.cells];done)) gZ))⟩)
  ·exact .inr ⟨[],(f x).snd,(by (simp [zae];done)),zab (wkr [sb h0,se (zbn hx),sc hfx,sb h1] kr)⟩
theorem zm1 (q:Qy) (frs:List Fr) (tb:List Tb) (f:X→Int × Int) (c:Int) (h1:zae frs) (h2:zae tb) (h3:∀ x∈tb,zae x.sch.cols) (hs:zae q.items) (hsc:zae (zaL tb q.frm).1.cols) (hf:∀ x∈q.items,Pure S.ref14_Type [x.av,fsl (zb3 frs (zaL tb q.frm).1 []),tsl tb] (.tup [iv (f x).1,iv (f x).2])) (hc:Pure S.ref14_Condition [xsl q.wh,fsl (zb3 frs (zaL tb q.frm).1 []),tsl tb] (iv c)):∃ (r:List Int) (e:Int),zae r∧zac E0 S.ref14_Types [q.av,fsl frs,tsl tb] [] (.tup [isl r,iv e]) []:=by
 let p_1:List St:=[sc (zbS tb q.frm zcc zcc)]
 cases h1:!(zaL tb q.frm).snd
 ·let p_2:List St:=p_1++[sb h1,sc (zfs frs ((zaL tb q.frm).fst) ([]) zcc)]
  cases h2:q.star
  ·rcases zhl q ((zaL tb q.frm).fst) (zb3 frs (zaL tb q.frm).fst []) tb f zcc hf 0 ([]) zcc zcc with ⟨is3,q3,q3_1,g3⟩|⟨r3_0,r3_1,p3_0,g3⟩
   ·cases h4:c != 0
    ·exact ⟨is3,0,zhX,wkcN At.ref14_Types (p_2++[sb h2]) [2,3,10,11,47,48,49] 2 [(.ot 11 Ty.int,3)] kr (g3 _ (zab (wkr [sqx (is3.length=(List.map (fun n=>[iv n]) is3).length∧True∧True),sb q3_1,sc hc,sb h4] kr)))⟩
    ·exact ⟨[],c,zhX,wkcN At.ref14_Types (p_2++[sb h2]) [2,3,10,11,47,48,49] 2 [(.ot 11 Ty.int,3)] kr (g3 _ (zab (wkr [sb q3_1,sc hc,sb h4] kr)))⟩
   ·exact ⟨r3_0,r3_1,zhX,wkcN At.ref14_Types (p_2++[sb h2]) [2,3,10,11,47,48,49] 2 [(.ot 11 Ty.int,3)] kr (g3)⟩
  ·obtain ⟨is5,q5,q5_1,g5⟩:=zhi q ((zaL tb q.frm).fst) (zb3 frs (zaL tb q.frm).fst []) tb zcc 0 ([]) zcc zcc
   cases h6:c != 0
   ·exact ⟨is5,0,zhX,wkcN At.ref14_Types (p_2++[sb h2]) [2,3,10,11,34,35,36] 2 [(.ot 11 Ty.int,3)] kr (g5 _ (zab (wkr [sqx (is5.length=(List.map (fun n=>[iv n]) is5).length∧True∧True),sb q5_1,sc hc,sb h6] kr)))⟩
   ·exact ⟨[],c,zhX,wkcN At.ref14_Types (p_2++[sb h2]) [2,3,10,11,34,35,36] 2 [(.ot 11 Ty.int,3)] kr (g5 _ (zab (wkr [sb q5_1,sc hc,sb h6] kr)))⟩
 ·exact ⟨[],3,zhX,wk At.ref14_Types (p_1++[sb h1]) kr⟩
end Go.AM
namespace Go.AM
set_option maxRecDepth 100000
set_option maxHeartbeats 1000000
set_option linter.unusedSimpArgs false
set_option linter.unusedVariables false
theorem zbU {p:Prop} (h:p:=by first|assumption|omega|exact hca _ (by assumption)|(simp;done)|(simp;omega)):p:=h
theorem zbO {p:Prop} (h:p:=by first|assumption|omega|(simp;done)|(simp;omega)):p:=h
theorem zeK {p:Prop} (h:p:=by first|assumption|omega|(simp only [bne_eq_false_iff_eq,zd6,List.length_map] at *;omega)):p:=h
theorem zfW {p:Prop} (h:p:=by first|trivial|assumption|(simp;done)|omega|(simp;omega)|(simp at *;omega)):p:=h
theorem zeV {p:Prop} (h:p:=by first|assumption|exact zeL _ _ _ 0 h3):p:=h
theorem zfU {p:Prop} (h:p:=by first|omega|(simp only [zae,Few] at *;omega)):p:=h
theorem zog {p:Prop} (h:p:=by first|omega|(simp only [decide_eq_false_iff_not,decide_eq_true_eq] at *;omega)):p:=h
def AtI {α:Type} (l:List α) (i:Int) (x:α):Prop:=0≤i∧l[i.toNat]?=some x
theorem zkm {α:Type} {l:List α} {i:Int} (h:0≤i∧i < ((l.length:Nat):Int)):∃ x,AtI l i x :=
 ⟨l[i.toNat]'(by omega),h.1,List.getElem?_eq_getElem (by omega)⟩
theorem zcI {α:Type} (f:α→List AV) {l:List α} {i:Int} {x:α} (h:AtI l i x) {n:Nat} (hn:(f x).length=n):ElAt (l.map f) i (f x) n :=
 ⟨h.1,by simp [h.2],hn⟩
abbrev TyOk (x:X) (frs:List Fr) (tb:List Tb):Prop:=∃ t e:Int,zac E0 S.ref14_Type [x.av,fsl frs,tsl tb] [] (.tup [iv t,iv e]) []
theorem zcW (a b:Int) :∃ (r:Bool),zac E0 S.ref14_Assignable [iv a,iv b] [] (bv r) []:=by
 exact ⟨zgA b a,wk At.ref14_Assignable [sc (zbX b a)] kr⟩
theorem zhd (a:Ac) (s0:Se) (s:Sch) (frs:List Fr) (tb:List Tb) (hs:zae s.cols) (ht:∃ t e:Int,zac E0 S.ref14_Type [s0.ex.av,fsl frs,tsl tb] [] (.tup [iv t,iv e]) []):∃ (r:Int),zac E0 S.ref17_checkAction [.agg [iv 5,sv a.table,.sl (a.rows.map zaG),.sl (zad a.query),.sl [s0.cells],.sl (zaa a.wh),sv a.text],s.av,fsl frs,tsl tb] [] (iv r) []:=by
 obtain ⟨r1,q1,c1⟩:=(zdz s s0.col zbO)
 cases h2:decide (r1 < 0)
 ·obtain ⟨t3,e3,c3⟩:=ht
  cases h4:e3 != 0
  ·obtain ⟨x5,e5⟩:=zkm (l:=s.cols) (i:=r1) zog
   obtain ⟨r6,c6⟩:=(zcW x5.type t3)
   let p_1:List St:=[sb (rfl:false=false),sb (rfl:true=true),sd [(3,[se (xs:=[[sv s0.col,iv s0.ex.kind,iv s0.ex.op,bv s0.ex.not,iv s0.ex.val.kind,iv s0.ex.val.int,sv s0.ex.val.text,sv s0.ex.table,sv s0.ex.name,AV.sl (zaa s0.ex.args),AV.sl (zad s0.ex.sub)]]) (i:=0) (c:=[sv s0.col,iv s0.ex.kind,iv s0.ex.op,bv s0.ex.not,iv s0.ex.val.kind,iv s0.ex.val.int,sv s0.ex.val.text,sv s0.ex.table,sv s0.ex.name,AV.sl (zaa s0.ex.args),AV.sl (zad s0.ex.sub)]) (n:=11) ⟨by decide,rfl,rfl⟩]),(6,[sc c1])],sb h2,se (xs:=[[sv s0.col,iv s0.ex.kind,iv s0.ex.op,bv s0.ex.not,iv s0.ex.val.kind,iv s0.ex.val.int,sv s0.ex.val.text,sv s0.ex.table,sv s0.ex.name,AV.sl (zaa s0.ex.args),AV.sl (zad s0.ex.sub)]]) (i:=0) (c:=[sv s0.col,iv s0.ex.kind,iv s0.ex.op,bv s0.ex.not,iv s0.ex.val.kind,iv s0.ex.val.int,sv s0.ex.val.text,sv s0.ex.table,sv s0.ex.name,AV.sl (zaa s0.ex.args),AV.sl (zad s0.ex.sub)]) (n:=11) ⟨by decide,rfl,rfl⟩,sc c3,sb h4,se (zcI Col.cells e5 rfl),sc c6]
   cases h7:!r6
   ·exact ⟨0,wk At.ref17_checkAction (p_1++[sb h7]) kr⟩
   ·exact ⟨5,wk At.ref17_checkAction (p_1++[sb h7]) kr⟩
  ·exact ⟨e3,wk At.ref17_checkAction [sb (rfl:false=false),sb (rfl:true=true),sd [(3,[se (xs:=[[sv s0.col,iv s0.ex.kind,iv s0.ex.op,bv s0.ex.not,iv s0.ex.val.kind,iv s0.ex.val.int,sv s0.ex.val.text,sv s0.ex.table,sv s0.ex.name,AV.sl (zaa s0.ex.args),AV.sl (zad s0.ex.sub)]]) (i:=0) (c:=[sv s0.col,iv s0.ex.kind,iv s0.ex.op,bv s0.ex.not,iv s0.ex.val.kind,iv s0.ex.val.int,sv s0.ex.val.text,sv s0.ex.table,sv s0.ex.name,AV.sl (zaa s0.ex.args),AV.sl (zad s0.ex.sub)]) (n:=11) ⟨by decide,rfl,rfl⟩]),(6,[sc c1])],sb h2,se (xs:=[[sv s0.col,iv s0.ex.kind,iv s0.ex.op,bv s0.ex.not,iv s0.ex.val.kind,iv s0.ex.val.int,sv s0.ex.val.text,sv s0.ex.table,sv s0.ex.name,AV.sl (zaa s0.ex.args),AV.sl (zad s0.ex.sub)]]) (i:=0) (c:=[sv s0.col,iv s0.ex.kind,iv s0.ex.op,bv s0.ex.not,iv s0.ex.val.kind,iv s0.ex.val.int,sv s0.ex.val.text,sv s0.ex.table,sv s0.ex.name,AV.sl (zaa s0.ex.args),AV.sl (zad s0.ex.sub)]) (n:=11) ⟨by decide,rfl,rfl⟩,sc c3,sb h4] kr⟩
 ·exact ⟨3,wk At.ref17_checkAction [sb (rfl:false=false),sb (rfl:true=true),sd [(3,[se (xs:=[[sv s0.col,iv s0.ex.kind,iv s0.ex.op,bv s0.ex.not,iv s0.ex.val.kind,iv s0.ex.val.int,sv s0.ex.val.text,sv s0.ex.table,sv s0.ex.name,AV.sl (zaa s0.ex.args),AV.sl (zad s0.ex.sub)]]) (i:=0) (c:=[sv s0.col,iv s0.ex.kind,iv s0.ex.op,bv s0.ex.not,iv s0.ex.val.kind,iv s0.ex.val.int,sv s0.ex.val.text,sv s0.ex.table,sv s0.ex.name,AV.sl (zaa s0.ex.args),AV.sl (zad s0.ex.sub)]) (n:=11) ⟨by decide,rfl,rfl⟩]),(6,[sc c1])],sb h2] kr⟩
theorem zhf (a:Ac) (s:Sch) (frs:List Fr) (tb:List Tb) (h5:(a.kind==5)=false) (hc:∃ e:Int,zac E0 S.ref16_Check [a.av,fsl frs,tsl tb] [] (iv e) []):∃ (r:Int),zac E0 S.ref17_checkAction [a.av,s.av,fsl frs,tsl tb] [] (iv r) []:=by
 cases h1:a.kind==4
 ·obtain ⟨e2,c2⟩:=hc
  exact ⟨e2,wk At.ref17_checkAction [sb h1,sb h5,sc c2] kr⟩
 ·exact ⟨0,wk At.ref17_checkAction [sb h1] kr⟩
noncomputable def zpZ (a:Ac) (s:Sch) (frs:List Fr) (tb:List Tb) (io:Nat) (y:List X) (i:Nat) :Cfg:=zav B.ref16_checkInsert 1 [(2,fsl frs),(3,tsl tb),(4,.p 0 0),(5,.p 1 0),(22,.sl (a.rows.map zaG)),(23,iv ((a.rows.map zaG).length:Nat)),(24,iv (io:Nat)),(34,xsl y),(35,iv ((zaa y).length:Nat)),(36,iv (i:Nat))] [.box a.cells,.box s.cells]
theorem ze8 (a:Ac) (s:Sch) (frs:List Fr) (tb:List Tb) (io:Nat) (y:List X) (hy:zae y) (hty:∀ x∈y,TyOk x frs tb) (hlen:y.length=s.cols.length) (i:Nat)  (hi:i≤(y).length) (hI:True):((True)∧(decide ((((y).length:Nat):Int) < (((zaa y).length:Nat):Int))=false)∧∀ R,Good E0 B.ref16_checkInsert [] (zpZ a s frs tb io y (y).length ) R→Good E0 B.ref16_checkInsert [] (zpZ a s frs tb io y i ) R)∨(∃ (r:Int),Good E0 B.ref16_checkInsert [] (zpZ a s frs tb io y i ) (Shut 0 fun rZ hZ=>rZ=(iv r)∧hZ=[])):=by
 obtain ⟨kk,hk⟩:∃ kk,i+kk=(y).length:=⟨(y).length - i,by omega⟩
 induction kk generalizing i  hI with
 | zero =>
  have e0:i=(y).length:=by omega
  subst e0
  exact .inl ⟨hI,by simp,fun R hg=>hg⟩
 | succ kk ih =>
  obtain ⟨x,hx⟩:=zay (l:=y) (i:=i) (by omega)
  have h0:decide (((i:Nat):Int) < (((zaa y).length:Nat):Int))=true:=by simp;omega
  have hw:IntKind.i64.wrap (((i:Nat):Int)+1)=((i+1:Nat):Int):=zap i zfU
  have hx1:=hty x (List.mem_of_getElem? hx)
  obtain ⟨t1,e1,c1⟩:=hx1
  cases h2:e1 != 0
  ·obtain ⟨x3,e3⟩:=zay (l:=s.cols) (i:=i) zbO
   obtain ⟨r4,c4⟩:=(zcW x3.type t1)
   let p_1:List St:=[sb h0,se (zbn hx),sc c1,sb h2,se (zah Col.cells e3 rfl),sc c4]
   cases h5:!r4
   ·exact (ih (i+1) (by omega) zfW (by omega)).elim (fun ⟨qZ,xZ,gZ⟩=>.inl ⟨qZ,xZ,fun R hg=>zab (wkl (p_1++[sb h5,si hw]) [2,3,4,5,22,23,24,34,35,36] 2 kr (gZ R hg))⟩) (fun ⟨rY,gZ⟩=>.inr ⟨rY,zab (wkl [sb h0,se (zbn hx),sc c1,sb h2,se (zah Col.cells e3 rfl),sc c4,sb h5,si hw] [2,3,4,5,22,23,24,34,35,36] 2 kr gZ)⟩)
   ·exact .inr ⟨5,zab (wkr (p_1++[sb h5]) kr)⟩
  ·exact .inr ⟨e1,zab (wkr [sb h0,se (zbn hx),sc c1,sb h2] kr)⟩
noncomputable def zq1 (a:Ac) (s:Sch) (frs:List Fr) (tb:List Tb) (i:Nat) :Cfg:=zav B.ref16_checkInsert 0 [(2,fsl frs),(3,tsl tb),(4,.p 0 0),(5,.p 1 0),(22,.sl (a.rows.map zaG)),(23,iv ((a.rows.map zaG).length:Nat)),(24,iv (i:Nat))] [.box a.cells,.box s.cells]
theorem ze9 (a:Ac) (s:Sch) (frs:List Fr) (tb:List Tb) (hs:zae s.cols) (hr:zae a.rows) (hty:∀ r∈a.rows,zae r∧∀ x∈r,TyOk x frs tb) (i:Nat)  (hi:i≤(a.rows).length) (hI:True):((True)∧(decide ((((a.rows).length:Nat):Int) < (((a.rows.map zaG).length:Nat):Int))=false)∧∀ R,Good E0 B.ref16_checkInsert [] (zq1 a s frs tb (a.rows).length ) R→Good E0 B.ref16_checkInsert [] (zq1 a s frs tb i ) R)∨(∃ (r:Int),Good E0 B.ref16_checkInsert [] (zq1 a s frs tb i ) (Shut 0 fun rZ hZ=>rZ=(iv r)∧hZ=[])):=by
 obtain ⟨kk,hk⟩:∃ kk,i+kk=(a.rows).length:=⟨(a.rows).length - i,by omega⟩
 induction kk generalizing i  hI with
 | zero =>
  have e0:i=(a.rows).length:=by omega
  subst e0
  exact .inl ⟨hI,by simp,fun R hg=>hg⟩
 | succ kk ih =>
  obtain ⟨x,hx⟩:=zay (l:=a.rows) (i:=i) (by omega)
  have h0:decide (((i:Nat):Int) < (((a.rows.map zaG).length:Nat):Int))=true:=by simp;omega
  have hw:IntKind.i64.wrap (((i:Nat):Int)+1)=((i+1:Nat):Int):=zap i zfU
  have hx1:=(hty x (List.mem_of_getElem? hx)).1;have hx2:=(hty x (List.mem_of_getElem? hx)).2
  let p_1:List St:=[sb h0,se (zah zaG hx rfl)]
  cases h1:(↑(zaa x).length:Int) != (↑(List.map Col.cells s.cols).length:Int)
  ·rcases ze8 a s frs tb i x zeK zeK zeK 0 zeK zeK with ⟨q2,q2_1,g2⟩|⟨r2_0,g2⟩
   ·exact (ih (i+1) (by omega) zfW (by omega)).elim (fun ⟨qZ,xZ,gZ⟩=>.inl ⟨qZ,xZ,fun R hg=>zab (wkl (p_1++[sb h1]) [2,3,4,5,22,23,24,34,35,36] 2 kr (g2 _ (zab (wkl [sb q2_1,si hw] [2,3,4,5,22,23,24] 2 kr (gZ R hg)))))⟩) (fun ⟨rY,gZ⟩=>.inr ⟨rY,zab (wkl [sb h0,se (zah zaG hx rfl),sb h1] [2,3,4,5,22,23,24,34,35,36] 2 kr (g2 _ (zab (wkl [sb q2_1,si hw] [2,3,4,5,22,23,24] 2 kr gZ))))⟩)
   ·exact .inr ⟨r2_0,zab (wkl (p_1++[sb h1]) [2,3,4,5,22,23,24,34,35,36] 2 kr g2)⟩
  ·exact .inr ⟨5,zab (wkr (p_1++[sb h1]) kr)⟩
noncomputable def zqc (a:Ac) (s:Sch) (frs:List Fr) (tb:List Tb) (io:Nat) (y:List Int) (i:Nat) :Cfg:=zav B.ref16_checkInsert 3 [(2,fsl frs),(3,tsl tb),(5,.p 1 0),(63,.sl (zad a.query)),(64,iv ((zad a.query).length:Nat)),(65,iv (io:Nat)),(85,isl y),(86,iv ((y.map fun n=>[iv n]).length:Nat)),(87,iv (i:Nat))] [.box a.cells,.box s.cells]
theorem zfa (a:Ac) (s:Sch) (frs:List Fr) (tb:List Tb) (io:Nat) (y:List Int) (hy:zae y) (hlen:y.length=s.cols.length) (i:Nat)  (hi:i≤(y).length) (hI:True):((True)∧(decide ((((y).length:Nat):Int) < (((y.map fun n=>[iv n]).length:Nat):Int))=false)∧∀ R,Good E0 B.ref16_checkInsert [] (zqc a s frs tb io y (y).length ) R→Good E0 B.ref16_checkInsert [] (zqc a s frs tb io y i ) R)∨(∃ (r:Int),Good E0 B.ref16_checkInsert [] (zqc a s frs tb io y i ) (Shut 0 fun rZ hZ=>rZ=(iv r)∧hZ=[])):=by
 obtain ⟨kk,hk⟩:∃ kk,i+kk=(y).length:=⟨(y).length - i,by omega⟩
 induction kk generalizing i  hI with
 | zero =>
  have e0:i=(y).length:=by omega
  subst e0
  exact .inl ⟨hI,by simp,fun R hg=>hg⟩
 | succ kk ih =>
  obtain ⟨x,hx⟩:=zay (l:=y) (i:=i) (by omega)
  have h0:decide (((i:Nat):Int) < (((y.map fun n=>[iv n]).length:Nat):Int))=true:=by simp;omega
  have hw:IntKind.i64.wrap (((i:Nat):Int)+1)=((i+1:Nat):Int):=zap i zfU
  obtain ⟨x1,e1⟩:=zay (l:=s.cols) (i:=i) zbO
  obtain ⟨r2,c2⟩:=(zcW x1.type x)
  let p_1:List St:=[sb h0,se (zah (fun n=>[iv n]) hx rfl),se (zah Col.cells e1 rfl),sc c2]
  cases h3:!r2
  ·exact (ih (i+1) (by omega) zfW (by omega)).elim (fun ⟨qZ,xZ,gZ⟩=>.inl ⟨qZ,xZ,fun R hg=>zab (wkl (p_1++[sb h3,si hw]) [2,3,5,63,64,65,85,86,87] 2 kr (gZ R hg))⟩) (fun ⟨rY,gZ⟩=>.inr ⟨rY,zab (wkl [sb h0,se (zah (fun n=>[iv n]) hx rfl),se (zah Col.cells e1 rfl),sc c2,sb h3,si hw] [2,3,5,63,64,65,85,86,87] 2 kr gZ)⟩)
  ·exact .inr ⟨5,zab (wkr (p_1++[sb h3]) kr)⟩
noncomputable def zqr (a:Ac) (s:Sch) (frs:List Fr) (tb:List Tb) (i:Nat) :Cfg:=zav B.ref16_checkInsert 2 [(2,fsl frs),(3,tsl tb),(5,.p 1 0),(63,.sl (zad a.query)),(64,iv ((zad a.query).length:Nat)),(65,iv (i:Nat))] [.box a.cells,.box s.cells]
theorem zfd (a:Ac) (s:Sch) (frs:List Fr) (tb:List Tb) (hs:zae s.cols) (hq:zae a.query) (hty:∀ q∈a.query,∃ (r:List Int) (e:Int),zae r∧zac E0 S.ref14_Types [q.av,fsl frs,tsl tb] [] (.tup [isl r,iv e]) []) (i:Nat)  (hi:i≤(a.query).length) (hI:True):((True)∧(decide ((((a.query).length:Nat):Int) < (((zad a.query).length:Nat):Int))=false)∧∀ R,Good E0 B.ref16_checkInsert [] (zqr a s frs tb (a.query).length ) R→Good E0 B.ref16_checkInsert [] (zqr a s frs tb i ) R)∨(∃ (r:Int),Good E0 B.ref16_checkInsert [] (zqr a s frs tb i ) (Shut 0 fun rZ hZ=>rZ=(iv r)∧hZ=[])):=by
 obtain ⟨kk,hk⟩:∃ kk,i+kk=(a.query).length:=⟨(a.query).length - i,by omega⟩
 induction kk generalizing i  hI with
 | zero =>
  have e0:i=(a.query).length:=by omega
  subst e0
  exact .inl ⟨hI,by simp,fun R hg=>hg⟩
 | succ kk ih =>
  obtain ⟨x,hx⟩:=zay (l:=a.query) (i:=i) (by omega)
  have h0:decide (((i:Nat):Int) < (((zad a.query).length:Nat):Int))=true:=by simp;omega
  have hw:IntKind.i64.wrap (((i:Nat):Int)+1)=((i+1:Nat):Int):=zap i zfU
  have hx1:=hty x (List.mem_of_getElem? hx)
  obtain ⟨r1,e1,q1,c1⟩:=hx1
  cases h2:e1 != 0
  ·cases h3:(↑(List.map (fun n=>[iv n]) r1).length:Int) != (↑(List.map Col.cells s.cols).length:Int)
   ·rcases zfa a s frs tb i r1 zeK zeK 0 zeK zeK with ⟨q4,q4_1,g4⟩|⟨r4_0,g4⟩
    ·exact (ih (i+1) (by omega) zfW (by omega)).elim (fun ⟨qZ,xZ,gZ⟩=>.inl ⟨qZ,xZ,fun R hg=>zab (wkl [sb h0,se (zaX hx),sc c1,sb h2,sb h3] [2,3,5,63,64,65,85,86,87] 2 kr (g4 _ (zab (wkl [sb q4_1,si hw] [2,3,5,63,64,65] 2 kr (gZ R hg)))))⟩) (fun ⟨rY,gZ⟩=>.inr ⟨rY,zab (wkl [sb h0,se (zaX hx),sc c1,sb h2,sb h3] [2,3,5,63,64,65,85,86,87] 2 kr (g4 _ (zab (wkl [sb q4_1,si hw] [2,3,5,63,64,65] 2 kr gZ))))⟩)
    ·exact .inr ⟨r4_0,zab (wkl [sb h0,se (zaX hx),sc c1,sb h2,sb h3] [2,3,5,63,64,65,85,86,87] 2 kr g4)⟩
   ·exact .inr ⟨5,zab (wkr [sb h0,se (zaX hx),sc c1,sb h2,sb h3] kr)⟩
  ·exact .inr ⟨e1,zab (wkr [sb h0,se (zaX hx),sc c1,sb h2] kr)⟩
theorem zjv (a:Ac) (s:Sch) (frs:List Fr) (tb:List Tb) (hs:zae s.cols) (hr:zae a.rows) (hq:zae a.query) (hty:∀ r∈a.rows,zae r∧∀ x∈r,TyOk x frs tb) (htq:∀ q∈a.query,∃ (r:List Int) (e:Int),zae r∧zac E0 S.ref14_Types [q.av,fsl frs,tsl tb] [] (.tup [isl r,iv e]) []):∃ (r:Int),zac E0 S.ref16_checkInsert [a.av,s.av,fsl frs,tsl tb] [] (iv r) []:=by
 rcases ze9 a s frs tb zbO zbO zbO 0 zbO zbO with ⟨q1,q1_1,g1⟩|⟨r1_0,g1⟩
 ·rcases zfd a s frs tb zbO zbO zbO 0 zbO zbO with ⟨q2,q2_1,g2⟩|⟨r2_0,g2⟩
  ·exact ⟨0,wkc At.ref16_checkInsert [] [2,3,4,5,22,23,24] 2 kr (g1 _ (zab (wkl [sb q1_1] [2,3,5,63,64,65] 2 kr (g2 _ (zab (wkr [sb q2_1] kr))))))⟩
  ·exact ⟨r2_0,wkc At.ref16_checkInsert [] [2,3,4,5,22,23,24] 2 kr (g1 _ (zab (wkl [sb q1_1] [2,3,5,63,64,65] 2 kr g2)))⟩
 ·exact ⟨r1_0,wkc At.ref16_checkInsert [] [2,3,4,5,22,23,24] 2 kr (g1)⟩
theorem zm2 (a:Ac) (h:∃ b:Bool,zac E0 S.ref11_ValidAction [a.av] [] (bv b) []):∃ (r:Bool),zac E0 S.ref16_sound [a.av] [] (bv r) []:=by
 cases h1:decide (1≤a.kind)
 ·exact ⟨false,wk At.ref16_sound [sb h1] kr⟩
 ·cases h2:decide (a.kind≤3)
  ·exact ⟨false,wk At.ref16_sound [sg h1,sb h2] kr⟩
  ·obtain ⟨b3,c3⟩:=h
   exact ⟨b3,wk At.ref16_sound [sg h1,sg h2,sc c3] kr⟩
noncomputable def zqT (a:Ac) (s:Sch) (inn:List Fr) (tb:List Tb) (i:Nat) :Cfg:=zav B.ref16_Check 0 [(2,tsl tb),(3,.p 0 0),(7,.p 1 0),(9,fsl inn),(39,.sl (a.sets.map Se.cells)),(40,iv ((a.sets.map Se.cells).length:Nat)),(41,iv (i:Nat))] [.box a.cells,.box s.cells]
theorem zhb (a:Ac) (s:Sch) (inn:List Fr) (tb:List Tb) (hs:zae s.cols) (hsl:zae a.sets) (hty:∀ x∈a.sets,TyOk x.ex inn tb) (i:Nat)  (hi:i≤(a.sets).length) (hI:True):((True)∧(decide ((((a.sets).length:Nat):Int) < (((a.sets.map Se.cells).length:Nat):Int))=false)∧∀ R,Good E0 B.ref16_Check [] (zqT a s inn tb (a.sets).length ) R→Good E0 B.ref16_Check [] (zqT a s inn tb i ) R)∨(∃ (r:Int),Good E0 B.ref16_Check [] (zqT a s inn tb i ) (Shut 0 fun rZ hZ=>rZ=(iv r)∧hZ=[])):=by
 obtain ⟨kk,hk⟩:∃ kk,i+kk=(a.sets).length:=⟨(a.sets).length - i,by omega⟩
 induction kk generalizing i  hI with
 | zero =>
  have e0:i=(a.sets).length:=by omega
  subst e0
  exact .inl ⟨hI,by simp,fun R hg=>hg⟩
 | succ kk ih =>
  obtain ⟨x,hx⟩:=zay (l:=a.sets) (i:=i) (by omega)
  have h0:decide (((i:Nat):Int) < (((a.sets.map Se.cells).length:Nat):Int))=true:=by simp;omega
  have hw:IntKind.i64.wrap (((i:Nat):Int)+1)=((i+1:Nat):Int):=zap i zfU
  have hx1:=hty x (List.mem_of_getElem? hx)
  obtain ⟨r1,q1,c1⟩:=(zdz s x.col zbO)
  cases h2:decide (r1 < 0)
  ·obtain ⟨t3,e3,c3⟩:=hx1
   cases h4:e3 != 0
   ·obtain ⟨x5,e5⟩:=zkm (l:=s.cols) (i:=r1) zog
    obtain ⟨r6,c6⟩:=(zcW x5.type t3)
    let p_1:List St:=[sb h0,se (zah Se.cells hx rfl),sc c1,sb h2,sc c3,sb h4,se (zcI Col.cells e5 rfl),sc c6]
    cases h7:!r6
    ·exact (ih (i+1) (by omega) zfW (by omega)).elim (fun ⟨qZ,xZ,gZ⟩=>.inl ⟨qZ,xZ,fun R hg=>zab (wkl (p_1++[sb h7,si hw]) [2,3,7,9,39,40,41] 2 kr (gZ R hg))⟩) (fun ⟨rY,gZ⟩=>.inr ⟨rY,zab (wkl [sb h0,se (zah Se.cells hx rfl),sc c1,sb h2,sc c3,sb h4,se (zcI Col.cells e5 rfl),sc c6,sb h7,si hw] [2,3,7,9,39,40,41] 2 kr gZ)⟩)
    ·exact .inr ⟨5,zab (wkr (p_1++[sb h7]) kr)⟩
   ·exact .inr ⟨e3,zab (wkr [sb h0,se (zah Se.cells hx rfl),sc c1,sb h2,sc c3,sb h4] kr)⟩
  ·exact .inr ⟨3,zab (wkr [sb h0,se (zah Se.cells hx rfl),sc c1,sb h2] kr)⟩
theorem znh (a:Ac) (frs:List Fr) (tb:List Tb) (hsd:∃ b:Bool,zac E0 S.ref16_sound [a.av] [] (bv b) []) (h1:zae frs) (h2:zae tb) (h3:∀ x∈tb,zae x.sch.cols) (hs:zae (zaL tb a.table).1.cols) (hsl:zae a.sets) (hins:∃ e:Int,zac E0 S.ref16_checkInsert [a.av,(zaL tb a.table).1.av,fsl frs,tsl tb] [] (iv e) []) (hty:∀ x∈a.sets,TyOk x.ex (zb3 frs (zaL tb a.table).1 []) tb) (hc:∃ e:Int,zac E0 S.ref14_Condition [xsl a.wh,fsl (zb3 frs (zaL tb a.table).1 []),tsl tb] [] (iv e) []):∃ (r:Int),zac E0 S.ref16_Check [a.av,fsl frs,tsl tb] [] (iv r) []:=by
 obtain ⟨b1,c1⟩:=hsd
 cases h2:!b1
 ·let p_1:List St:=[sc c1,sb h2,sc (zbS tb a.table zbO zbO)]
  cases h3:!(zaL tb a.table).snd
  ·cases h4:a.kind==1
   ·let p_2:List St:=p_1++[sb h3,sb h4,sc (zfs frs ((zaL tb a.table).fst) ([]) zbO)]
    rcases zhb a ((zaL tb a.table).fst) (zb3 frs (zaL tb a.table).fst []) tb zbO zbO zbO 0 zbO zbO with ⟨q5,q5_1,g5⟩|⟨r5_0,g5⟩
    ·obtain ⟨e6,c6⟩:=hc
     exact ⟨e6,wkc At.ref16_Check p_2 [2,3,7,9,39,40,41] 2 kr (g5 _ (zab (wkr [sb q5_1,sc c6] kr)))⟩
    ·exact ⟨r5_0,wkc At.ref16_Check p_2 [2,3,7,9,39,40,41] 2 kr (g5)⟩
   ·obtain ⟨e7,c7⟩:=hins
    exact ⟨e7,wk At.ref16_Check (p_1++[sb h3,sb h4,sc c7]) kr⟩
  ·exact ⟨3,wk At.ref16_Check (p_1++[sb h3]) kr⟩
 ·exact ⟨17,wk At.ref16_Check [sc c1,sb h2] kr⟩
noncomputable def zq3 (t:Tg) (s:Sch) (tb:List Tb) (i:Nat) :Cfg:=zav B.ref17_Check 0 [(1,tsl tb),(2,.p 0 0),(5,.p 1 0),(33,.sl (t.of.map zaW)),(34,iv ((t.of.map zaW).length:Nat)),(35,iv (i:Nat))] [.box t.cells,.box s.cells]
theorem zg7 (t:Tg) (s:Sch) (tb:List Tb) (hs:zae s.cols) (hl:zae t.of) (i:Nat)  (hi:i≤(t.of).length) (hI:True):((True)∧(decide ((((t.of).length:Nat):Int) < (((t.of.map zaW).length:Nat):Int))=false)∧∀ R,Good E0 B.ref17_Check [] (zq3 t s tb (t.of).length ) R→Good E0 B.ref17_Check [] (zq3 t s tb i ) R)∨(∃ (r:Int),Good E0 B.ref17_Check [] (zq3 t s tb i ) (Shut 0 fun rZ hZ=>rZ=(iv r)∧hZ=[])):=by
 obtain ⟨kk,hk⟩:∃ kk,i+kk=(t.of).length:=⟨(t.of).length - i,by omega⟩
 induction kk generalizing i  hI with
 | zero =>
  have e0:i=(t.of).length:=by omega
  subst e0
  exact .inl ⟨hI,by simp,fun R hg=>hg⟩
 | succ kk ih =>
  obtain ⟨x,hx⟩:=zay (l:=t.of) (i:=i) (by omega)
  have h0:decide (((i:Nat):Int) < (((t.of.map zaW).length:Nat):Int))=true:=by simp;omega
  have hw:IntKind.i64.wrap (((i:Nat):Int)+1)=((i+1:Nat):Int):=zap i zfU
  obtain ⟨r1,q1,c1⟩:=(zdz s x zbO)
  let p_1:List St:=[sb h0,se (zah zaW hx rfl),sc c1]
  cases h2:decide (r1 < 0)
  ·exact (ih (i+1) (by omega) zfW (by omega)).elim (fun ⟨qZ,xZ,gZ⟩=>.inl ⟨qZ,xZ,fun R hg=>zab (wkl (p_1++[sb h2,si hw]) [1,2,5,33,34,35] 2 kr (gZ R hg))⟩) (fun ⟨rY,gZ⟩=>.inr ⟨rY,zab (wkl [sb h0,se (zah zaW hx rfl),sc c1,sb h2,si hw] [1,2,5,33,34,35] 2 kr gZ)⟩)
  ·exact .inr ⟨3,zab (wkr (p_1++[sb h2]) kr)⟩
noncomputable def zqS (t:Tg) (s:Sch) (tb:List Tb) (i:Nat) :Cfg:=zav B.ref17_Check 1 [(1,tsl tb),(2,.p 0 0),(5,.p 1 0),(45,.sl (t.rank.map Rk.cells)),(46,iv ((t.rank.map Rk.cells).length:Nat)),(47,iv (i:Nat))] [.box t.cells,.box s.cells]
theorem zhg (t:Tg) (s:Sch) (tb:List Tb) (h2:zae tb) (h3:∀ x∈tb,zae x.sch.cols) (hl:zae t.rank) (i:Nat)  (hi:i≤(t.rank).length) (hI:True):((True)∧(decide ((((t.rank).length:Nat):Int) < (((t.rank.map Rk.cells).length:Nat):Int))=false)∧∀ R,Good E0 B.ref17_Check [] (zqS t s tb (t.rank).length ) R→Good E0 B.ref17_Check [] (zqS t s tb i ) R)∨(∃ (r:Int),Good E0 B.ref17_Check [] (zqS t s tb i ) (Shut 0 fun rZ hZ=>rZ=(iv r)∧hZ=[])):=by
 obtain ⟨kk,hk⟩:∃ kk,i+kk=(t.rank).length:=⟨(t.rank).length - i,by omega⟩
 induction kk generalizing i  hI with
 | zero =>
  have e0:i=(t.rank).length:=by omega
  subst e0
  exact .inl ⟨hI,by simp,fun R hg=>hg⟩
 | succ kk ih =>
  obtain ⟨x,hx⟩:=zay (l:=t.rank) (i:=i) (by omega)
  have h0:decide (((i:Nat):Int) < (((t.rank.map Rk.cells).length:Nat):Int))=true:=by simp;omega
  have hw:IntKind.i64.wrap (((i:Nat):Int)+1)=((i+1:Nat):Int):=zap i zfU
  obtain ⟨r1,q1,c1⟩:=(zdz ((zaL tb x.table).fst) x.col zeV)
  cases h2:!(zaL tb x.table).snd
  ·cases h3:decide (r1 < 0)
   ·obtain ⟨x4,e4⟩:=zkm (l:=(zaL tb x.table).fst.cols) (i:=r1) zog
    let p_1:List St:=[sb h0,se (zah Rk.cells hx rfl),sc (zbS tb x.table zeV zeV),sc c1,sg h2,sb h3,se (zcI Col.cells e4 rfl)]
    cases h5:x4.type != 1
    ·exact (ih (i+1) (by omega) zfW (by omega)).elim (fun ⟨qZ,xZ,gZ⟩=>.inl ⟨qZ,xZ,fun R hg=>zab (wkl (p_1++[sb h5,si hw]) [1,2,5,45,46,47] 2 kr (gZ R hg))⟩) (fun ⟨rY,gZ⟩=>.inr ⟨rY,zab (wkl [sb h0,se (zah Rk.cells hx rfl),sc (zbS tb x.table zeV zeV),sc c1,sg h2,sb h3,se (zcI Col.cells e4 rfl),sb h5,si hw] [1,2,5,45,46,47] 2 kr gZ)⟩)
    ·exact .inr ⟨5,zab (wkr (p_1++[sb h5]) kr)⟩
   ·exact .inr ⟨3,zab (wkr [sb h0,se (zah Rk.cells hx rfl),sc (zbS tb x.table zeV zeV),sc c1,sg h2,sb h3] kr)⟩
  ·exact .inr ⟨3,zab (wkr [sb h0,se (zah Rk.cells hx rfl),sc (zbS tb x.table zeV zeV),sc c1,sb h2] kr)⟩
noncomputable def zqa (t:Tg) (s:Sch) (frs:List Fr) (all:List Tb) (i:Nat) :Cfg:=zav B.ref17_Check 2 [(5,.p 1 0),(14,fsl frs),(15,tsl all),(94,.sl (t.acts.map Ac.cells)),(95,iv ((t.acts.map Ac.cells).length:Nat)),(96,iv (i:Nat))] [.box t.cells,.box s.cells]
theorem zha (t:Tg) (s:Sch) (frs:List Fr) (all:List Tb) (hl:zae t.acts) (ha:∀ a∈t.acts,∃ e:Int,zac E0 S.ref17_checkAction [a.av,s.av,fsl frs,tsl all] [] (iv e) []) (i:Nat)  (hi:i≤(t.acts).length) (hI:True):((True)∧(decide ((((t.acts).length:Nat):Int) < (((t.acts.map Ac.cells).length:Nat):Int))=false)∧∀ R,Good E0 B.ref17_Check [] (zqa t s frs all (t.acts).length ) R→Good E0 B.ref17_Check [] (zqa t s frs all i ) R)∨(∃ (r:Int),Good E0 B.ref17_Check [] (zqa t s frs all i ) (Shut 0 fun rZ hZ=>rZ=(iv r)∧hZ=[])):=by
 obtain ⟨kk,hk⟩:∃ kk,i+kk=(t.acts).length:=⟨(t.acts).length - i,by omega⟩
 induction kk generalizing i  hI with
 | zero =>
  have e0:i=(t.acts).length:=by omega
  subst e0
  exact .inl ⟨hI,by simp,fun R hg=>hg⟩
 | succ kk ih =>
  obtain ⟨x,hx⟩:=zay (l:=t.acts) (i:=i) (by omega)
  have h0:decide (((i:Nat):Int) < (((t.acts.map Ac.cells).length:Nat):Int))=true:=by simp;omega
  have hw:IntKind.i64.wrap (((i:Nat):Int)+1)=((i+1:Nat):Int):=zap i zfU
  have hx1:=ha x (List.mem_of_getElem? hx)
  obtain ⟨e1,c1⟩:=hx1
  let p_1:List St:=[sb h0,se (zah Ac.cells hx rfl),sc c1]
  cases h2:e1 != 0
  ·exact (ih (i+1) (by omega) zfW (by omega)).elim (fun ⟨qZ,xZ,gZ⟩=>.inl ⟨qZ,xZ,fun R hg=>zab (wkl (p_1++[sb h2,si hw]) [5,14,15,94,95,96] 2 kr (gZ R hg))⟩) (fun ⟨rY,gZ⟩=>.inr ⟨rY,zab (wkl [sb h0,se (zah Ac.cells hx rfl),sc c1,sb h2,si hw] [5,14,15,94,95,96] 2 kr gZ)⟩)
  ·exact .inr ⟨e1,zab (wkr (p_1++[sb h2]) kr)⟩
theorem zm3 (t:Tg) (tb:List Tb) (hvt:∃ b:Bool,zac E0 S.ref11_ValidTrigger [t.av] [] (bv b) []) (h2:zae tb) (h3:∀ x∈tb,zae x.sch.cols) (hs:zae (zaL tb t.table).1.cols) (ho:zae t.of) (hr:zae t.rank) (hacs:zae t.acts) (hcw:∀ (tr:List Tb),(tr.length≤2∧∀ x∈tr,∃ n,x=trTb n (zaL tb t.table).1)→∃ e:Int,zac E0 S.ref14_Condition [xsl t.when_,fsl (zco t (zaL tb t.table).1 [] []),tsl (tb++tr)] [] (iv e) []) (hca:∀ (tr:List Tb),(tr.length≤2∧∀ x∈tr,∃ n,x=trTb n (zaL tb t.table).1)→∀ a∈t.acts,∃ e:Int,zac E0 S.ref17_checkAction [a.av,(zaL tb t.table).1.av,fsl (zco t (zaL tb t.table).1 [] []),tsl (tb++tr)] [] (iv e) []):∃ (r:Int),zac E0 S.ref17_Check [t.av,tsl tb] [] (iv r) []:=by
 obtain ⟨b1,c1⟩:=hvt
 cases h2:!b1
 ·let p_1:List St:=[sc c1,sb h2,sc (zbS tb t.table zbU zbU)]
  cases h3:!(zaL tb t.table).snd
  ·rcases zg7 t ((zaL tb t.table).fst) tb zbU zbU 0 zbU zbU with ⟨q4,q4_1,g4⟩|⟨r4_0,g4⟩
   ·rcases zhg t ((zaL tb t.table).fst) tb zbU zbU zbU 0 zbU zbU with ⟨q5,q5_1,g5⟩|⟨r5_0,g5⟩
    ·obtain ⟨r6,q6,c6⟩:=(zfg t ((zaL tb t.table).fst) zbU)
     obtain ⟨e7,c7⟩:=(hcw r6 zbU)
     let p_2:List St:=[sb q5_1,sc (zh7 t ((zaL tb t.table).fst) ([]) ([]) zbU zbU zbU),sc c6,sc (zo3 tb r6 zbU zbU),sc c7]
     cases h8:e7 != 0
     ·rcases zha t ((zaL tb t.table).fst) (zco t (zaL tb t.table).fst [] []) (tb++r6) zbU zbU 0 zbU zbU with ⟨q9,q9_1,g9⟩|⟨r9_0,g9⟩
      ·exact ⟨0,wkc At.ref17_Check (p_1++[sb h3]) [1,2,5,33,34,35] 2 kr (g4 _ (zab (wkl [sb q4_1] [1,2,5,45,46,47] 2 kr (g5 _ (zab (wkl (p_2++[sb h8]) [5,14,15,94,95,96] 2 kr (g9 _ (zab (wkr [sb q9_1] kr)))))))))⟩
      ·exact ⟨r9_0,wkc At.ref17_Check (p_1++[sb h3]) [1,2,5,33,34,35] 2 kr (g4 _ (zab (wkl [sb q4_1] [1,2,5,45,46,47] 2 kr (g5 _ (zab (wkl (p_2++[sb h8]) [5,14,15,94,95,96] 2 kr g9))))))⟩
     ·exact ⟨e7,wkc At.ref17_Check (p_1++[sb h3]) [1,2,5,33,34,35] 2 kr (g4 _ (zab (wkl [sb q4_1] [1,2,5,45,46,47] 2 kr (g5 _ (zab (wkr (p_2++[sb h8]) kr))))))⟩
    ·exact ⟨r5_0,wkc At.ref17_Check (p_1++[sb h3]) [1,2,5,33,34,35] 2 kr (g4 _ (zab (wkl [sb q4_1] [1,2,5,45,46,47] 2 kr g5)))⟩
   ·exact ⟨r4_0,wkc At.ref17_Check (p_1++[sb h3]) [1,2,5,33,34,35] 2 kr (g4)⟩
  ·exact ⟨3,wk At.ref17_Check (p_1++[sb h3]) kr⟩
 ·exact ⟨17,wk At.ref17_Check [sc c1,sb h2] kr⟩
end Go.AM
namespace Go.AM
set_option maxRecDepth 100000
set_option linter.unusedSimpArgs false
set_option linter.unusedVariables false
theorem tyOk {n:Nat} {x:X} {frs:List Fr} {tb:List Tb} (h:XOk n x) (hf:FsOk n frs) (ht:TbOk tb):TyOk x frs tb:=⟨_,_,zgY n x frs tb h hf ht⟩
theorem zrH {n:Nat} {l:List X} {frs:List Fr} {tb:List Tb} (h:∀ x∈l,XOk n x) (hf:FsOk n frs) (ht:TbOk tb):∃ e:Int,zac E0 S.ref14_Condition [xsl l,fsl frs,tsl tb] [] (iv e) [] :=
 ⟨_,zhH (f:=fun x=>zgv n x frs tb) fun x hx=>zgY n x frs tb (h x hx) hf ht⟩
theorem zdq {tb:List Tb} (ht:TbOk tb) (m:Str):zae (zaL tb m).1.cols:=zeL tb m tb 0 ht.cols
theorem ztF {n:Nat} {q:Qy} {frs:List Fr} {tb:List Tb} (h:QW n q) (hf:FsOk (n+1) frs) (ht:TbOk tb):∃ (r:List Int) (e:Int),zae r∧zac E0 S.ref14_Types [q.av,fsl frs,tsl tb] [] (.tup [isl r,iv e]) [] :=
 zm1 q frs tb (fun x=>zgv n x (rIns frs tb q) tb) _ hf.short ht.len ht.cols (zaK h.items) (zdq ht q.frm) (fun x hx=>zgY n x _ tb (h.hi x hx) (hf.ins ht q) ht) (zhH fun x hx=>zgY n x _ tb (h.hw x hx) (hf.ins ht q) ht)
theorem insOk {n:Nat} {a:Ac} {s:Sch} {frs:List Fr} {tb:List Tb} (h:AcOk n a) (hs:zae s.cols) (hf:FsOk (n+1) frs) (ht:TbOk tb):∃ e:Int,zac E0 S.ref16_checkInsert [a.av,s.av,fsl frs,tsl tb] [] (iv e) [] :=
 zjv a s frs tb hs (zaK h.rows) (zaK h.query) (fun r hr=>⟨zaK (h.row r hr).1,fun x hx=>tyOk ((h.row r hr).2 x hx) hf.less ht⟩) (fun q hq=>ztF (h.qs q hq) hf ht)
theorem chkOk {n:Nat} {a:Ac} {frs:List Fr} {tb:List Tb} (h:AcOk n a) (hf:FsOk (n+1) frs) (ht:TbOk tb):∃ e:Int,zac E0 S.ref16_Check [a.av,fsl frs,tsl tb] [] (iv e) [] :=
 znh a frs tb (zm2 a (vaOk h)) hf.short ht.len ht.cols (zdq ht a.table) (zaK h.sets) (insOk h (zdq ht a.table) hf ht) (fun s hs=>tyOk (h.set s hs) (hf.ins ht (Qy.mk false [] a.table [])) ht) (zrH h.w (hf.ins ht (Qy.mk false [] a.table [])) ht)
def znl (a:Ac):Prop:=a.kind=5→∃ s,a.sets=[s]
theorem actOk {n:Nat} {a:Ac} {s:Sch} {frs:List Fr} {tb:List Tb} (h:AcOk n a) (hset:znl a) (hs:zae s.cols) (hf:FsOk (n+1) frs) (ht:TbOk tb):∃ e:Int,zac E0 S.ref17_checkAction [a.av,s.av,fsl frs,tsl tb] [] (iv e) []:=by
 by_cases h5:a.kind=5
 ·obtain ⟨s0,hs0⟩:=hset h5
  cases a with
  | mk k tbn rows query sets wh text =>
   subst hs0
   subst h5
   exact zhd ⟨5,tbn,rows,query,[s0],wh,text⟩ s0 s frs tb hs (tyOk (h.set s0 (by simp)) hf.less ht)
 ·exact zhf a s frs tb (by simpa using h5) (chkOk h hf ht)
theorem TbOk.tr {tb:List Tb} {s:Sch} {tr:List Tb} (h:TbOk tb) (hl:tb.length≤1000) (hs:zae s.cols) (ht:tr.length≤2∧∀ x∈tr,∃ n,x=trTb n s):TbOk (tb++tr):=by
 refine ⟨by have:=ht.1;simp only [zae,List.length_append];omega,fun x hx=>?_,fun x hx=>?_,fun x hx=>?_⟩ <;> rcases List.mem_append.mp hx with hx|hx
 ·exact h.cols x hx
 ·obtain ⟨n,rfl⟩:=ht.2 x hx
  simpa [trTb] using hs
 ·exact h.rows x hx
 ·obtain ⟨n,rfl⟩:=ht.2 x hx
  simp [trTb]
 ·exact h.vals x hx
 ·obtain ⟨n,rfl⟩:=ht.2 x hx
  intro r hr
  cases hr
theorem frOk1 {n:Nat} {l:List Fr} {s:Sch} (hs:zae s.cols) (hn:n≤1000) (hl:l.length≤2) (h:∀ f∈l,f.cols=s.cols∧f.vals=[]):FsOk n l :=
 ⟨by omega,fun f hf=>by rw [(h f hf).1];exact hs,fun f hf v hv=>by rw [(h f hf).2] at hv;cases hv⟩
theorem frOk {n:Nat} (t:Tg) {s:Sch} (hs:zae s.cols) (hn:n≤1000):FsOk n (zco t s [] []):=by
 unfold zco
 cases t.each <;> cases t.event==2 <;> cases t.event==3 <;> cases t.event==1 <;> exact frOk1 hs hn (by simp) (by simp [zdF])
theorem zs3 {n:Nat} {t:Tg} {tb:List Tb} (h:TgOk n t) (hset:∀ a∈t.acts,znl a) (ht:TbOk tb) (hl:tb.length≤1000) (hn:n < 1000):∃ r:Int,zac E0 S.ref17_Check [t.av,tsl tb] [] (iv r) [] :=
 zm3 t tb (vtOk h) ht.len ht.cols (zdq ht t.table) (zaK h.of) (zaK h.rank) (zaK h.acts)
  (fun tr htr=>zrH h.when_ (frOk t (zdq ht t.table) (by omega)) (ht.tr hl (zdq ht t.table) htr))
  (fun tr htr a ha=>actOk (h.act a ha) (hset a ha) (zdq ht t.table) (frOk t (zdq ht t.table) (by omega)) (ht.tr hl (zdq ht t.table) htr))
end Go.AM
namespace Go.AM
structure InsI (l:List Lk) (x:Lk) (i:Nat) (out:List Lk) (done:Bool):Prop where
 nd:out.Nodup
 sub:∀ z∈out,z=x∨z∈l.take i
 sup:∀ z∈l.take i,z=x∨z∈out
 dn:x∈out↔done=true
theorem zf0 {α:Type}:∀ (l m:List α),l.Nodup→(∀ x∈l,x∈m)→l.length≤m.length
 | [],_,_,_=>by simp
 | x::r,m,hn,hs=>by
  haveI:DecidableEq α:=fun a b=>Classical.propDecidable (a=b)
  rw [List.nodup_cons] at hn
  have hx:x∈m:=hs x (by simp)
  have h1:=zf0 r (m.erase x) hn.2 fun y hy=>(List.mem_erase_of_ne (by rintro rfl;exact hn.1 hy)).2 (hs y (by simp [hy]))
  rw [List.length_erase_of_mem hx] at h1
  have h2:=List.length_pos_of_mem hx
  simp only [List.length_cons]
  omega
theorem zpF {a b:Str} (h:(a==b)=true):a=b:=by
 cases a with
 | mk a=>cases b with
  | mk b =>
   have h':(a==b)=true:=h
   rw [eq_of_beq h']
theorem ztU (s:Str):(s==s)=true:=by
 cases s with
 | mk d =>
  have h:(d==d)=true:=by simp
  exact h
theorem lk_eq {x u:Lk} (h:(!(x.fst==u.fst&&(x.snd==u.snd&&true)))=false):x=u:=by
 simp only [Bool.not_eq_false',Bool.and_eq_true,and_true] at h
 cases x;cases u
 simp only at h
 rw [zpF h.1,zpF h.2]
theorem lk_ne {x u:Lk} (h:(!(x.fst==u.fst&&(x.snd==u.snd&&true)))=true):x≠u:=by
 rintro rfl;simp [ztU] at h
theorem zeX {l:List Lk} {i:Nat} {x:Lk} (hx:l[i]?=some x) (z:Lk):z∈l.take (i+1)↔z∈l.take i∨z=x:=by
 rw [List.take_add_one,hx];simp
theorem zmx {l:List Lk} (hn:l.Nodup) {i:Nat} {x:Lk} (hx:l[i]?=some x):x ∉ l.take i:=by
 intro h
 obtain ⟨j,hj,hje⟩:=List.mem_iff_getElem.mp h
 obtain ⟨hi,hie⟩:=List.getElem?_eq_some_iff.mp hx
 simp only [List.length_take] at hj
 rw [List.getElem_take] at hje
 have h2:=hn
 unfold List.Nodup at h2
 rw [List.pairwise_iff_getElem] at h2
 exact h2 j i (by omega) hi (by omega) (hje.trans hie.symm)
theorem InsI.len {l:List Lk} {u:Lk} {i:Nat} {out:List Lk} {d:Bool} (h:InsI l u i out d):out.length≤i+1:=by
 have:=zf0 out (u::l.take i) h.nd fun z hz=>by simpa using h.sub z hz
 simp only [List.length_cons,List.length_take] at this
 omega
theorem InsI.s1 {l:List Lk} {u x:Lk} {i:Nat} {out:List Lk} {d:Bool} (h:InsI l u i out d) (hx:l[i]?=some x) (e:(!(x.fst==u.fst&&(x.snd==u.snd&&true)))=false):InsI l u (i+1) out d:=by
 obtain rfl:=lk_eq e
 refine ⟨h.nd,fun z hz=>?_,fun z hz=>?_,h.dn⟩
 ·rcases h.sub z hz with h1|h1
  ·exact .inl h1
  ·exact .inr ((zeX hx z).2 (.inl h1))
 ·rcases (zeX hx z).1 hz with h1|h1
  ·exact h.sup z h1
  ·exact .inl h1
theorem InsI.s2 {l:List Lk} {u x:Lk} {i:Nat} {out:List Lk} {d:Bool} (h:InsI l u i out d) (hn:l.Nodup) (hx:l[i]?=some x) (e:(!(x.fst==u.fst&&(x.snd==u.snd&&true)))=true):InsI l u (i+1) (out++[x]) d:=by
 have hne:=lk_ne e
 refine ⟨?_,fun z hz=>?_,fun z hz=>?_,?_⟩
 ·refine List.nodup_append.2 ⟨h.nd,by simp,fun a ha b hb=>?_⟩
  simp only [List.mem_singleton] at hb
  subst hb
  rintro rfl
  rcases h.sub a ha with h1|h1
  ·exact hne h1
  ·exact zmx hn hx h1
 ·simp only [List.mem_append,List.mem_singleton] at hz
  rcases hz with hz|hz
  ·rcases h.sub z hz with h1|h1
   ·exact .inl h1
   ·exact .inr ((zeX hx z).2 (.inl h1))
  ·exact .inr ((zeX hx z).2 (.inr hz))
 ·simp only [List.mem_append,List.mem_singleton]
  rcases (zeX hx z).1 hz with h1|h1
  ·rcases h.sup z h1 with h2|h2
   ·exact .inl h2
   ·exact .inr (.inl h2)
  ·exact .inr (.inr h1)
 ·simp only [List.mem_append,List.mem_singleton]
  rw [← h.dn]
  exact ⟨fun h1=>h1.resolve_right fun h2=>hne h2.symm,.inl⟩
theorem InsI.add {l:List Lk} {u:Lk} {i:Nat} {out:List Lk} {d:Bool} (h:InsI l u i out d) (e:(!d)=true):InsI l u i (out++[u]) true:=by
 have hnu:u ∉ out:=fun hu=>by have:=h.dn.1 hu;subst this;simp at e
 refine ⟨?_,fun z hz=>?_,fun z hz=>?_,by simp⟩
 ·refine List.nodup_append.2 ⟨h.nd,by simp,fun a ha b hb=>?_⟩
  simp only [List.mem_singleton] at hb
  subst hb
  rintro rfl
  exact hnu ha
 ·simp only [List.mem_append,List.mem_singleton] at hz
  rcases hz with hz|hz
  ·exact h.sub z hz
  ·exact .inl hz
 ·simp only [List.mem_append,List.mem_singleton]
  rcases h.sup z hz with h2|h2
  ·exact .inl h2
  ·exact .inr (.inl h2)
theorem InsI.both {l:List Lk} {u:Lk} {i:Nat} {out:List Lk} {d:Bool} (h:InsI l u i out d):InsI l u i out d∧out.length≤i+1:=⟨h,h.len⟩
structure InsR (l:List Lk) (u:Lk) (r:List Lk):Prop where
 nd:r.Nodup
 sub:∀ z∈r,z=u∨z∈l
 sup:∀ z∈l,z∈r
theorem InsI.done {l:List Lk} {u:Lk} {out:List Lk} {d:Bool} (h:InsI l u l.length out d) (e:(!d)=false):InsR l u out:=by
 have hd:d=true:=by simpa using e
 have hu:=h.dn.2 hd
 refine ⟨h.nd,fun z hz=>by simpa using h.sub z hz,fun z hz=>?_⟩
 rcases h.sup z (by simpa using hz) with rfl|h1
 ·exact hu
 ·exact h1
theorem InsI.end_ {l:List Lk} {u:Lk} {out:List Lk} {d:Bool} (h:InsI l u l.length out d) (e:(!d)=true):InsR l u (out++[u]):=(h.add e).done rfl
structure LkN (N:List Str) (l:List Lk):Prop where
 nd:l.Nodup
 mem:∀ z∈l,z.fst∈N∧z.snd∈N
theorem InsR.lk {N:List Str} {l:List Lk} {u:Lk} {r:List Lk} (h:InsR l u r) (hl:LkN N l) (h1:u.fst∈N) (h2:u.snd∈N):LkN N r :=
 ⟨h.nd,fun z hz=>by rcases h.sub z hz with rfl|hz;exact ⟨h1,h2⟩;exact hl.mem z hz⟩
theorem zoB {α β:Type} (f:α→List β) (k:Nat) (hf:∀ a,(f a).length=k):∀ l:List α,(l.flatMap f).length=l.length * k
 | []=>by simp
 | a::r=>by rw [List.flatMap_cons,List.length_append,hf,zoB f k hf r,List.length_cons,Nat.add_mul];omega
theorem LkN.len {N:List Str} {l:List Lk} (h:LkN N l):l.length≤N.length * N.length:=by
 have h1:=zf0 l (N.flatMap fun a=>N.map fun b=>⟨a,b⟩) h.nd fun z hz=>by
  simp only [List.mem_flatMap,List.mem_map]
  exact ⟨z.fst,(h.mem z hz).1,z.snd,(h.mem z hz).2,by cases z;rfl⟩
 have h2:(N.flatMap fun a=>N.map fun b=>(⟨a,b⟩:Lk)).length=N.length * N.length:=by
  exact zoB _ _ (fun a=>by simp) N
 omega
end Go.AM
namespace Go.AM
set_option maxRecDepth 100000
set_option maxHeartbeats 1000000
set_option linter.unusedSimpArgs false
set_option linter.unusedVariables false
theorem zij {p:Prop} (h:p:=by first|exact (hI.1.s1 hx (by assumption)).both|exact (hI.1.s2 hn hx (by assumption)).both|exact ((hI.1.add (by assumption)).s1 hx (by assumption)).both|exact ((hI.1.add (by assumption)).s2 hn hx (by assumption)).both):p:=h
theorem zb6 {p:Prop} (h:p:=by first|assumption|omega|(simp;done)|(simp;omega)):p:=h
theorem zgH {p:Prop} (h:p:=by first|trivial|assumption|(simp;done)|omega|(simp;omega)|(simp at *;omega)):p:=h
theorem zik {p:Prop} (h:p:=by first|assumption|exact ⟨h,fun _ hz=>hz⟩|(simp;done)):p:=h
theorem zlx {p:Prop} (h:p:=by first|assumption|(simp;done)|exact ⟨⟨by simp,by simp,by simp,by simp⟩,by simp⟩):p:=h
theorem zhT {p:Prop} (h:p:=by first|omega|(simp only [zae,Few] at *;omega)):p:=h
abbrev lsl (l:List Lk):AV:=.sl (l.map Lk.cells)
theorem ziq (a b:Lk) :∃ (r:Bool),zac E0 S.ref18_before [a.av,b.av] [] (bv r) []:=by
 cases h1:Op.bytesLess (ByteArray.toList a.fst) (ByteArray.toList b.fst)
 ·cases h2:ByteArray.toList a.fst==ByteArray.toList b.fst
  ·exact ⟨false,wk At.ref18_before [sg h1,sb h2] kr⟩
  ·exact ⟨Op.bytesLess (ByteArray.toList a.snd) (ByteArray.toList b.snd),wk At.ref18_before [sg h1,sg h2] kr⟩
 ·exact ⟨true,wk At.ref18_before [sb h1] kr⟩
noncomputable def L_pr (l:List Lk) (a b:Str) (i:Nat) :Cfg:=zav B.ref18_Precedes 0 [(1,sv a),(2,sv b),(9,lsl l),(10,iv ((l.map Lk.cells).length:Nat)),(11,iv (i:Nat))] []
theorem zgx (l:List Lk) (a b:Str) (hl:zae l) (i:Nat)  (hi:i≤(l).length) (hI:True):((True)∧(decide ((((l).length:Nat):Int) < (((l.map Lk.cells).length:Nat):Int))=false)∧∀ R,Good E0 B.ref18_Precedes [] (L_pr l a b (l).length ) R→Good E0 B.ref18_Precedes [] (L_pr l a b i ) R)∨(∃ (r:Bool),Good E0 B.ref18_Precedes [] (L_pr l a b i ) (Shut 0 fun rZ hZ=>rZ=(bv r)∧hZ=[])):=by
 obtain ⟨kk,hk⟩:∃ kk,i+kk=(l).length:=⟨(l).length - i,by omega⟩
 induction kk generalizing i  hI with
 | zero =>
  have e0:i=(l).length:=by omega
  subst e0
  exact .inl ⟨hI,by simp,fun R hg=>hg⟩
 | succ kk ih =>
  obtain ⟨x,hx⟩:=zay (l:=l) (i:=i) (by omega)
  have h0:decide (((i:Nat):Int) < (((l.map Lk.cells).length:Nat):Int))=true:=by simp;omega
  have hw:IntKind.i64.wrap (((i:Nat):Int)+1)=((i+1:Nat):Int):=zap i zhT
  let p_1:List St:=[sb h0,se (zah Lk.cells hx rfl)]
  let p_2:List St:=[sb h0,se (zah Lk.cells hx rfl)]
  cases h1:ByteArray.toList x.fst==ByteArray.toList a
  ·exact (ih (i+1) (by omega) zgH (by omega)).elim (fun ⟨qZ,xZ,gZ⟩=>.inl ⟨qZ,xZ,fun R hg=>zab (wkl (p_1++[sb h1,si hw]) [1,2,9,10,11] 0 kr (gZ R hg))⟩) (fun ⟨rY,gZ⟩=>.inr ⟨rY,zab (wkl (p_2++[sb h1,si hw]) [1,2,9,10,11] 0 kr gZ)⟩)
  ·cases h2:ByteArray.toList x.snd==ByteArray.toList b
   ·exact (ih (i+1) (by omega) zgH (by omega)).elim (fun ⟨qZ,xZ,gZ⟩=>.inl ⟨qZ,xZ,fun R hg=>zab (wkl (p_1++[sg h1,sb h2,si hw]) [1,2,9,10,11] 0 kr (gZ R hg))⟩) (fun ⟨rY,gZ⟩=>.inr ⟨rY,zab (wkl (p_2++[sg h1,sb h2,si hw]) [1,2,9,10,11] 0 kr gZ)⟩)
   ·exact .inr ⟨true,zab (wkr (p_1++[sg h1,sb h2]) kr)⟩
theorem zlh (l:List Lk) (a b:Str) (hl:zae l):∃ (r:Bool),zac E0 S.ref18_Precedes [lsl l,sv a,sv b] [] (bv r) []:=by
 rcases zgx l a b zb6 0 zb6 zb6 with ⟨q1,q1_1,g1⟩|⟨r1_0,g1⟩
 ·exact ⟨false,wkc At.ref18_Precedes [] [1,2,9,10,11] 0 kr (g1 _ (zab (wkr [sb q1_1] kr)))⟩
 ·exact ⟨r1_0,wkc At.ref18_Precedes [] [1,2,9,10,11] 0 kr (g1)⟩
noncomputable def zqd (l:List Lk) (io:Nat) (y:Lk) (i:Nat) :Cfg:=zav B.ref18_Valid 1 [(0,lsl l),(4,.p 0 0),(7,lsl l),(8,iv ((l.map Lk.cells).length:Nat)),(9,iv (io:Nat)),(33,lsl l),(34,iv ((l.map Lk.cells).length:Nat)),(35,iv (i:Nat))] [.box y.cells]
theorem zdU (l:List Lk) (io:Nat) (y:Lk) (hl:zae l) (i:Nat)  (hi:i≤(l).length) (hI:True):((True)∧(decide ((((l).length:Nat):Int) < (((l.map Lk.cells).length:Nat):Int))=false)∧∀ R,Good E0 B.ref18_Valid [] (zqd l io y (l).length ) R→Good E0 B.ref18_Valid [] (zqd l io y i ) R)∨(∃ (r:Bool),Good E0 B.ref18_Valid [] (zqd l io y i ) (Shut 0 fun rZ hZ=>rZ=(bv r)∧hZ=[])):=by
 obtain ⟨kk,hk⟩:∃ kk,i+kk=(l).length:=⟨(l).length - i,by omega⟩
 induction kk generalizing i  hI with
 | zero =>
  have e0:i=(l).length:=by omega
  subst e0
  exact .inl ⟨hI,by simp,fun R hg=>hg⟩
 | succ kk ih =>
  obtain ⟨x,hx⟩:=zay (l:=l) (i:=i) (by omega)
  have h0:decide (((i:Nat):Int) < (((l.map Lk.cells).length:Nat):Int))=true:=by simp;omega
  have hw:IntKind.i64.wrap (((i:Nat):Int)+1)=((i+1:Nat):Int):=zap i zhT
  let p_1:List St:=[sb h0,se (zah Lk.cells hx rfl)]
  let p_2:List St:=[sb h0,se (zah Lk.cells hx rfl)]
  cases h1:ByteArray.toList y.snd==ByteArray.toList x.fst
  ·exact (ih (i+1) (by omega) zgH (by omega)).elim (fun ⟨qZ,xZ,gZ⟩=>.inl ⟨qZ,xZ,fun R hg=>zab (wkl (p_1++[sb h1,si hw]) [0,4,7,8,9,33,34,35] 1 kr (gZ R hg))⟩) (fun ⟨rY,gZ⟩=>.inr ⟨rY,zab (wkl (p_2++[sb h1,si hw]) [0,4,7,8,9,33,34,35] 1 kr gZ)⟩)
  ·obtain ⟨r2,c2⟩:=(zlh l y.fst x.snd zb6)
   cases h3:!r2
   ·exact (ih (i+1) (by omega) zgH (by omega)).elim (fun ⟨qZ,xZ,gZ⟩=>.inl ⟨qZ,xZ,fun R hg=>zab (wkl (p_1++[sg h1,sc c2,sb h3,si hw]) [0,4,7,8,9,33,34,35] 1 kr (gZ R hg))⟩) (fun ⟨rY,gZ⟩=>.inr ⟨rY,zab (wkl (p_2++[sg h1,sc c2,sb h3,si hw]) [0,4,7,8,9,33,34,35] 1 kr gZ)⟩)
   ·exact .inr ⟨false,zab (wkr (p_1++[sg h1,sc c2,sb h3]) kr)⟩
noncomputable def L_va (l:List Lk) (i:Nat) :Cfg:=zav B.ref18_Valid 0 [(0,lsl l),(7,lsl l),(8,iv ((l.map Lk.cells).length:Nat)),(9,iv (i:Nat))] []
theorem zhE (l:List Lk) (hl:zae l) (i:Nat)  (hi:i≤(l).length) (hI:True):((True)∧(decide ((((l).length:Nat):Int) < (((l.map Lk.cells).length:Nat):Int))=false)∧∀ R,Good E0 B.ref18_Valid [] (L_va l (l).length ) R→Good E0 B.ref18_Valid [] (L_va l i ) R)∨(∃ (r:Bool),Good E0 B.ref18_Valid [] (L_va l i ) (Shut 0 fun rZ hZ=>rZ=(bv r)∧hZ=[])):=by
 obtain ⟨kk,hk⟩:∃ kk,i+kk=(l).length:=⟨(l).length - i,by omega⟩
 induction kk generalizing i  hI with
 | zero =>
  have e0:i=(l).length:=by omega
  subst e0
  exact .inl ⟨hI,by simp,fun R hg=>hg⟩
 | succ kk ih =>
  obtain ⟨x,hx⟩:=zay (l:=l) (i:=i) (by omega)
  have h0:decide (((i:Nat):Int) < (((l.map Lk.cells).length:Nat):Int))=true:=by simp;omega
  have hw:IntKind.i64.wrap (((i:Nat):Int)+1)=((i+1:Nat):Int):=zap i zhT
  let p_1:List St:=[sb h0,se (zah Lk.cells hx rfl)]
  let p_2:List St:=[sb h0,se (zah Lk.cells hx rfl)]
  cases h1:ByteArray.toList x.fst==ByteArray.toList x.snd
  ·cases h2:decide (0 < (i:Int))
   ·let p_3:List St:=p_1++[sd [(6,[sg h1]),(7,[sg h1]),(8,[sg h1]),(9,[sb h2]),(10,[sb h2]),(11,[sb h2]),(12,[sb h2]),(13,[sb h2]),(14,[sb h2]),(15,[sb h2]),(16,[sb h2]),(17,[so h1 (sb h2)])]]
    cases h3:bif ByteArray.toList x.fst==ByteArray.toList x.snd then true else false
    ·rcases zdU l i x zb6 0 zb6 zb6 with ⟨q4,q4_1,g4⟩|⟨r4_0,g4⟩
     ·exact (ih (i+1) (by omega) zgH (by omega)).elim (fun ⟨qZ,xZ,gZ⟩=>.inl ⟨qZ,xZ,fun R hg=>zab (wkl (p_3++[sb h3]) [0,4,7,8,9,33,34,35] 1 kr (g4 _ (zab (wkl [sb q4_1,si hw] [0,7,8,9] 0 kr (gZ R hg)))))⟩) (fun ⟨rY,gZ⟩=>.inr ⟨rY,zab (wkl (p_2++[sd [(6,[sg h1]),(7,[sg h1]),(8,[sg h1]),(9,[sb h2]),(10,[sb h2]),(11,[sb h2]),(12,[sb h2]),(13,[sb h2]),(14,[sb h2]),(15,[sb h2]),(16,[sb h2]),(17,[so h1 (sb h2)])],sb h3]) [0,4,7,8,9,33,34,35] 1 kr (g4 _ (zab (wkl [sb q4_1,si hw] [0,7,8,9] 0 kr gZ))))⟩)
     ·exact .inr ⟨r4_0,zab (wkl (p_3++[sb h3]) [0,4,7,8,9,33,34,35] 1 kr g4)⟩
    ·exact .inr ⟨false,zab (wkr (p_3++[sb h3]) kr)⟩
   ·obtain ⟨x5,e5⟩:=zkm (l:=l) (i:=IntKind.i64.wrap ((i:Int) - (1:Int))) (by (have:=(List.getElem?_eq_some_iff.mp hx).1;simp only [zae] at hl;simp only [decide_eq_true_eq,IntKind.wrap_i64] at *;omega))
    obtain ⟨r6,c6⟩:=(ziq x5 x)
    let p_4:List St:=p_1++[sd [(6,[sg h1]),(7,[sg h1]),(8,[sg h1]),(9,[sg h2]),(10,[sg h2]),(11,[so h2 (si (e:=IntKind.i64.wrap ((i:Int) - 1)) rfl)]),(12,[so h2 (se (zcI Lk.cells e5 rfl))]),(13,[sg h2]),(14,[sg h2]),(15,[so h2 (sc c6)]),(16,[sg h2]),(17,[sg h1])]]
    cases h7:bif ByteArray.toList x.fst==ByteArray.toList x.snd then true else bif decide (0 < (i:Int)) then !r6 else false
    ·rcases zdU l i x zb6 0 zb6 zb6 with ⟨q8,q8_1,g8⟩|⟨r8_0,g8⟩
     ·exact (ih (i+1) (by omega) zgH (by omega)).elim (fun ⟨qZ,xZ,gZ⟩=>.inl ⟨qZ,xZ,fun R hg=>zab (wkl (p_4++[sb h7]) [0,4,7,8,9,33,34,35] 1 kr (g8 _ (zab (wkl [sb q8_1,si hw] [0,7,8,9] 0 kr (gZ R hg)))))⟩) (fun ⟨rY,gZ⟩=>.inr ⟨rY,zab (wkl (p_2++[sd [(6,[sg h1]),(7,[sg h1]),(8,[sg h1]),(9,[sg h2]),(10,[sg h2]),(11,[so h2 (si (e:=IntKind.i64.wrap ((i:Int) - 1)) rfl)]),(12,[so h2 (se (zcI Lk.cells e5 rfl))]),(13,[sg h2]),(14,[sg h2]),(15,[so h2 (sc c6)]),(16,[sg h2]),(17,[sg h1])],sb h7]) [0,4,7,8,9,33,34,35] 1 kr (g8 _ (zab (wkl [sb q8_1,si hw] [0,7,8,9] 0 kr gZ))))⟩)
     ·exact .inr ⟨r8_0,zab (wkl (p_4++[sb h7]) [0,4,7,8,9,33,34,35] 1 kr g8)⟩
    ·exact .inr ⟨false,zab (wkr (p_4++[sb h7]) kr)⟩
  ·exact .inr ⟨false,zab (wkr (p_1++[sd [(6,[sb h1]),(7,[sb h1]),(8,[sb h1]),(17,[sb h1]),(18,[sb h1])]]) kr)⟩
theorem zjk (l:List Lk) (hl:zae l):∃ (r:Bool),zac E0 S.ref18_Valid [lsl l] [] (bv r) []:=by
 rcases zhE l zb6 0 zb6 zb6 with ⟨q1,q1_1,g1⟩|⟨r1_0,g1⟩
 ·exact ⟨true,wkc At.ref18_Valid [] [0,7,8,9] 0 kr (g1 _ (zab (wkr [sb q1_1] kr)))⟩
 ·exact ⟨r1_0,wkc At.ref18_Valid [] [0,7,8,9] 0 kr (g1)⟩
noncomputable def L_is (l:List Lk) (u:Lk) (i:Nat) (out:List Lk) (done:Bool):Cfg:=zav B.ref18_insert 0 [(3,.p 0 0),(5,.own 1 out.length),(6,bv done),(9,lsl l),(10,iv ((l.map Lk.cells).length:Nat)),(11,iv (i:Nat))] [.box u.cells,.row Ty.Link (out.map Lk.cells) false]
theorem zg5 (l:List Lk) (u:Lk) (hl:zae l) (hn:l.Nodup) (i:Nat) (out:List Lk) (done:Bool) (hi:i≤(l).length) (hI:InsI l u i out done∧out.length≤i+1):∃ (out':List Lk) (done':Bool),(InsI l u (l).length out' done'∧out'.length≤(l).length+1)∧(decide ((((l).length:Nat):Int) < (((l.map Lk.cells).length:Nat):Int))=false)∧∀ R,Good E0 B.ref18_insert [] (L_is l u (l).length out' done') R→Good E0 B.ref18_insert [] (L_is l u i out done) R:=by
 obtain ⟨kk,hk⟩:∃ kk,i+kk=(l).length:=⟨(l).length - i,by omega⟩
 induction kk generalizing i out done with
 | zero =>
  have e0:i=(l).length:=by omega
  subst e0
  exact ⟨out,done,hI,by simp,fun R hg=>hg⟩
 | succ kk ih =>
  obtain ⟨x,hx⟩:=zay (l:=l) (i:=i) (by omega)
  have h0:decide (((i:Nat):Int) < (((l.map Lk.cells).length:Nat):Int))=true:=by simp;omega
  have hw:IntKind.i64.wrap (((i:Nat):Int)+1)=((i+1:Nat):Int):=zap i zhT
  have hol:out.length≤1000000000:=by have:=hI.2;simp only [zae] at hl;omega
  let p_1:List St:=[sb h0,se (zah Lk.cells hx rfl)]
  cases h1:!done
  ·cases h2:!(x.fst==u.fst&&(x.snd==u.snd&&true))
   ·obtain ⟨outZ,doneZ,qZ,xZ,gZ⟩:=ih (i+1) out done (by omega) zij (by omega);exact ⟨outZ,doneZ,qZ,xZ,fun R hg=>zab (wkl (p_1++[sb h1,sq zeb,sb h2,si hw]) [3,5,6,9,10,11] 2 kr (gZ R hg))⟩
   ·obtain ⟨outZ,doneZ,qZ,xZ,gZ⟩:=ih (i+1) (out++[x]) done (by omega) zij (by omega);exact ⟨outZ,doneZ,qZ,xZ,fun R hg=>zab (wkl (p_1++[sb h1,sq zeb,sb h2,sqx (AllLen [[sv x.fst,sv x.snd]] 2∧out.length=(List.map Lk.cells out).length∧(((List.map Lk.cells out).length+[[sv x.fst,sv x.snd]].length) * 32).le 140737488355328),si hw]) [3,5,6,9,10,11] 2 kr (zan (show ([(3,AV.p 0 0),(5,AV.own 1 (List.map Lk.cells out++[[sv x.fst,sv x.snd]]).length),(6,bv done),(9,AV.sl (List.map Lk.cells l)),(10,iv (↑(List.map Lk.cells l).length:Int)),(11,iv (↑(i+1):Int))]:TS)=[(3,AV.p 0 0),(5,AV.own 1 (out++[x]).length),(6,bv done),(9,AV.sl (List.map Lk.cells l)),(10,iv (↑(List.map Lk.cells l).length:Int)),(11,iv (↑(i+1):Int))] by first|rfl|(simp;done)|(simp [X.cells,Qy.cells,V.cells,Col.cells,Rw.cells,Tb.cells,Fr.cells,Sch.cells,Tp.cells,Pl.cells,xCol,xLit,xBin,xNeg,Im.cells,Lk.cells,Ac.cells,Se.cells,Tg.cells,Rk.cells];done)) (show ([Blk.box [sv u.fst,sv u.snd],Blk.row Ty.Link (List.map Lk.cells out++[[sv x.fst,sv x.snd]]) false]:Heap)=[Blk.box [sv u.fst,sv u.snd],Blk.row Ty.Link (List.map Lk.cells (out++[x])) false] by first|rfl|(simp;done)|(simp [X.cells,Qy.cells,V.cells,Col.cells,Rw.cells,Tb.cells,Fr.cells,Sch.cells,Tp.cells,Pl.cells,xCol,xLit,xBin,xNeg,Im.cells,Lk.cells,Ac.cells,Se.cells,Tg.cells,Rk.cells];done)) (gZ R hg)))⟩
  ·obtain ⟨r3,c3⟩:=(ziq x u)
   cases h4:!r3
   ·cases h5:!(x.fst==u.fst&&(x.snd==u.snd&&true))
    ·obtain ⟨outZ,doneZ,qZ,xZ,gZ⟩:=ih (i+1) out done (by omega) zij (by omega);exact ⟨outZ,doneZ,qZ,xZ,fun R hg=>zab (wkl (p_1++[sg h1,sc c3,sb h4,sq zeb,sb h5,si hw]) [3,5,6,9,10,11] 2 kr (gZ R hg))⟩
    ·obtain ⟨outZ,doneZ,qZ,xZ,gZ⟩:=ih (i+1) (out++[x]) done (by omega) zij (by omega);exact ⟨outZ,doneZ,qZ,xZ,fun R hg=>zab (wkl (p_1++[sg h1,sc c3,sb h4,sq zeb,sb h5,sqx (AllLen [[sv x.fst,sv x.snd]] 2∧out.length=(List.map Lk.cells out).length∧(((List.map Lk.cells out).length+[[sv x.fst,sv x.snd]].length) * 32).le 140737488355328),si hw]) [3,5,6,9,10,11] 2 kr (zan (show ([(3,AV.p 0 0),(5,AV.own 1 (List.map Lk.cells out++[[sv x.fst,sv x.snd]]).length),(6,bv done),(9,AV.sl (List.map Lk.cells l)),(10,iv (↑(List.map Lk.cells l).length:Int)),(11,iv (↑(i+1):Int))]:TS)=[(3,AV.p 0 0),(5,AV.own 1 (out++[x]).length),(6,bv done),(9,AV.sl (List.map Lk.cells l)),(10,iv (↑(List.map Lk.cells l).length:Int)),(11,iv (↑(i+1):Int))] by first|rfl|(simp;done)|(simp [X.cells,Qy.cells,V.cells,Col.cells,Rw.cells,Tb.cells,Fr.cells,Sch.cells,Tp.cells,Pl.cells,xCol,xLit,xBin,xNeg,Im.cells,Lk.cells,Ac.cells,Se.cells,Tg.cells,Rk.cells];done)) (show ([Blk.box [sv u.fst,sv u.snd],Blk.row Ty.Link (List.map Lk.cells out++[[sv x.fst,sv x.snd]]) false]:Heap)=[Blk.box [sv u.fst,sv u.snd],Blk.row Ty.Link (List.map Lk.cells (out++[x])) false] by first|rfl|(simp;done)|(simp [X.cells,Qy.cells,V.cells,Col.cells,Rw.cells,Tb.cells,Fr.cells,Sch.cells,Tp.cells,Pl.cells,xCol,xLit,xBin,xNeg,Im.cells,Lk.cells,Ac.cells,Se.cells,Tg.cells,Rk.cells];done)) (gZ R hg)))⟩
   ·let p_2:List St:=p_1++[sg h1,sc c3,sb h4,sqx (AllLen [[sv u.fst,sv u.snd]] 2∧out.length=(List.map Lk.cells out).length∧(((List.map Lk.cells out).length+[[sv u.fst,sv u.snd]].length) * 32).le 140737488355328),sq zeb]
    cases h6:!(x.fst==u.fst&&(x.snd==u.snd&&true))
    ·obtain ⟨outZ,doneZ,qZ,xZ,gZ⟩:=ih (i+1) (out++[u]) true (by omega) zij (by omega);exact ⟨outZ,doneZ,qZ,xZ,fun R hg=>zab (wklN (p_2++[sb h6,si hw]) [3,5,6,9,10,11] 2 [(.bl 6,2)] kr (zan (show ([(3,AV.p 0 0),(5,AV.own 1 (List.map Lk.cells out++[[sv u.fst,sv u.snd]]).length),(6,bv true),(9,AV.sl (List.map Lk.cells l)),(10,iv (↑(List.map Lk.cells l).length:Int)),(11,iv (↑(i+1):Int))]:TS)=[(3,AV.p 0 0),(5,AV.own 1 (out++[u]).length),(6,bv true),(9,AV.sl (List.map Lk.cells l)),(10,iv (↑(List.map Lk.cells l).length:Int)),(11,iv (↑(i+1):Int))] by first|rfl|(simp;done)|(simp [X.cells,Qy.cells,V.cells,Col.cells,Rw.cells,Tb.cells,Fr.cells,Sch.cells,Tp.cells,Pl.cells,xCol,xLit,xBin,xNeg,Im.cells,Lk.cells,Ac.cells,Se.cells,Tg.cells,Rk.cells];done)) (show ([Blk.box [sv u.fst,sv u.snd],Blk.row Ty.Link (List.map Lk.cells out++[[sv u.fst,sv u.snd]]) false]:Heap)=[Blk.box [sv u.fst,sv u.snd],Blk.row Ty.Link (List.map Lk.cells (out++[u])) false] by first|rfl|(simp;done)|(simp [X.cells,Qy.cells,V.cells,Col.cells,Rw.cells,Tb.cells,Fr.cells,Sch.cells,Tp.cells,Pl.cells,xCol,xLit,xBin,xNeg,Im.cells,Lk.cells,Ac.cells,Se.cells,Tg.cells,Rk.cells];done)) (gZ R hg)))⟩
    ·obtain ⟨outZ,doneZ,qZ,xZ,gZ⟩:=ih (i+1) (out++[u]++[x]) true (by omega) zij (by omega);exact ⟨outZ,doneZ,qZ,xZ,fun R hg=>zab (wklN (p_2++[sb h6,sqx (AllLen [[sv x.fst,sv x.snd]] 2∧(List.map Lk.cells out++[[sv u.fst,sv u.snd]]).length=(List.map Lk.cells out++[[sv u.fst,sv u.snd]]).length∧(((List.map Lk.cells out++[[sv u.fst,sv u.snd]]).length+[[sv x.fst,sv x.snd]].length) * 32).le 140737488355328),si hw]) [3,5,6,9,10,11] 2 [(.bl 6,2)] kr (zan (show ([(3,AV.p 0 0),(5,AV.own 1 (List.map Lk.cells out++[[sv u.fst,sv u.snd]]++[[sv x.fst,sv x.snd]]).length),(6,bv true),(9,AV.sl (List.map Lk.cells l)),(10,iv (↑(List.map Lk.cells l).length:Int)),(11,iv (↑(i+1):Int))]:TS)=[(3,AV.p 0 0),(5,AV.own 1 (out++[u]++[x]).length),(6,bv true),(9,AV.sl (List.map Lk.cells l)),(10,iv (↑(List.map Lk.cells l).length:Int)),(11,iv (↑(i+1):Int))] by first|rfl|(simp;done)|(simp [X.cells,Qy.cells,V.cells,Col.cells,Rw.cells,Tb.cells,Fr.cells,Sch.cells,Tp.cells,Pl.cells,xCol,xLit,xBin,xNeg,Im.cells,Lk.cells,Ac.cells,Se.cells,Tg.cells,Rk.cells];done)) (show ([Blk.box [sv u.fst,sv u.snd],Blk.row Ty.Link (List.map Lk.cells out++[[sv u.fst,sv u.snd]]++[[sv x.fst,sv x.snd]]) false]:Heap)=[Blk.box [sv u.fst,sv u.snd],Blk.row Ty.Link (List.map Lk.cells (out++[u]++[x])) false] by first|rfl|(simp;done)|(simp [X.cells,Qy.cells,V.cells,Col.cells,Rw.cells,Tb.cells,Fr.cells,Sch.cells,Tp.cells,Pl.cells,xCol,xLit,xBin,xNeg,Im.cells,Lk.cells,Ac.cells,Se.cells,Tg.cells,Rk.cells];done)) (gZ R hg)))⟩
theorem zfk (l:List Lk) (u:Lk) (hl:zae l) (hn:l.Nodup):∃ (r:List Lk),InsR l u r∧zac E0 S.ref18_insert [lsl l,u.av] [] (lsl r) []:=by
 obtain ⟨out1,done1,q1,q1_1,g1⟩:=zg5 l u zlx zlx 0 ([]) false zlx zlx
 cases h2:!done1
 ·exact ⟨out1,(by first|exact InsI.done (And.left (by assumption)) (by assumption)|exact InsI.end_ (And.left (by assumption)) (by assumption)),wkcN At.ref18_insert [] [3,5,6,9,10,11] 1 [(.bl 6,1),(.ot 5 Ty.Link,2)] kr (g1 _ (zab (wkr [sqx (out1.length=(List.map Lk.cells out1).length),sb q1_1,sb h2] kr)))⟩
 ·exact ⟨out1++[u],(by first|exact InsI.done (And.left (by assumption)) (by assumption)|exact InsI.end_ (And.left (by assumption)) (by assumption)),wkcN At.ref18_insert [] [3,5,6,9,10,11] 1 [(.bl 6,1),(.ot 5 Ty.Link,2)] kr (g1 _ (zab (wkrS (y:=AV.sl (List.map Lk.cells out1++[[sv u.fst,sv u.snd]])) (H:=[]) [sqx ((List.map Lk.cells out1++[[sv u.fst,sv u.snd]]).length=(List.map Lk.cells out1++[[sv u.fst,sv u.snd]]).length),sb q1_1,sb h2,sqx (AllLen [[sv u.fst,sv u.snd]] 2∧out1.length=(List.map Lk.cells out1).length∧(((List.map Lk.cells out1).length+[[sv u.fst,sv u.snd]].length) * 32).le 140737488355328)] kr ⟨by first|rfl|(simp;done)|(simp [X.cells,Qy.cells,V.cells,Col.cells,Rw.cells,Tb.cells,Fr.cells,Sch.cells,Tp.cells,Pl.cells,xCol,xLit,xBin,xNeg,Im.cells,Lk.cells,Ac.cells,Se.cells,Tg.cells,Rk.cells];done),by first|rfl|(simp;done)|(simp [X.cells,Qy.cells,V.cells,Col.cells,Rw.cells,Tb.cells,Fr.cells,Sch.cells,Tp.cells,Pl.cells,xCol,xLit,xBin,xNeg,Im.cells,Lk.cells,Ac.cells,Se.cells,Tg.cells,Rk.cells];done)⟩)))⟩
noncomputable def L_cl (l:List Lk):Cfg:=zav B.ref18_closure 0 [(0,lsl l)] []
abbrev zd8 (N:List Str) (l out:List Lk):Prop:=LkN N out∧∀ z∈l,z∈out
theorem zd8.short {N:List Str} {l out:List Lk} (h:zd8 N l out) (hN:N.length≤1000):zae out:=by
 have h1:=h.1.len
 have h2:=Nat.mul_le_mul hN hN
 simp only [zae];omega
theorem zd8.ins {N:List Str} {l out:List Lk} {a b:Lk} {i j:Nat} {r:List Lk} (h:zd8 N l out) (hl:LkN N l) (hx:l[i]?=some a) (hy:l[j]?=some b) (hr:InsR out ⟨a.fst,b.snd⟩ r):zd8 N l r :=
 ⟨hr.lk h.1 (hl.mem a (List.mem_of_getElem? hx)).1 (hl.mem b (List.mem_of_getElem? hy)).2,fun z hz=>hr.sup z (h.2 z hz)⟩
noncomputable def L_clI (l:List Lk) (N:List Str) (io:Nat) (a:Lk) (i:Nat) (out:List Lk):Cfg:=zav B.ref18_closure 2 [(0,lsl l),(3,lsl out),(5,.p 0 0),(9,lsl l),(10,iv ((l.map Lk.cells).length:Nat)),(11,iv (io:Nat)),(15,lsl l),(16,iv ((l.map Lk.cells).length:Nat)),(17,iv (i:Nat))] [.box a.cells]
theorem zgs (l:List Lk) (N:List Str) (io:Nat) (a:Lk) (hN:N.length≤1000) (h:LkN N l) (hs:zae l) (ha:l[io]?=some a) (i:Nat) (out:List Lk) (hi:i≤(l).length) (hI:zd8 N l out):∃ (out':List Lk),(zd8 N l out')∧(decide ((((l).length:Nat):Int) < (((l.map Lk.cells).length:Nat):Int))=false)∧∀ R,Good E0 B.ref18_closure [] (L_clI l N io a (l).length out') R→Good E0 B.ref18_closure [] (L_clI l N io a i out) R:=by
 obtain ⟨kk,hk⟩:∃ kk,i+kk=(l).length:=⟨(l).length - i,by omega⟩
 induction kk generalizing i out with
 | zero =>
  have e0:i=(l).length:=by omega
  subst e0
  exact ⟨out,hI,by simp,fun R hg=>hg⟩
 | succ kk ih =>
  obtain ⟨x,hx⟩:=zay (l:=l) (i:=i) (by omega)
  have h0:decide (((i:Nat):Int) < (((l.map Lk.cells).length:Nat):Int))=true:=by simp;omega
  have hw:IntKind.i64.wrap (((i:Nat):Int)+1)=((i+1:Nat):Int):=zap i zhT
  have hol:=hI.short hN;have hon:=hI.1.nd
  let p_1:List St:=[sb h0,se (zah Lk.cells hx rfl)]
  cases h1:ByteArray.toList a.snd==ByteArray.toList x.fst
  ·obtain ⟨outZ,qZ,xZ,gZ⟩:=ih (i+1) out (by omega) (by first|exact hI|exact hI.ins h ha hx (by assumption)) (by omega);exact ⟨outZ,qZ,xZ,fun R hg=>zab (wkl (p_1++[sb h1,si hw]) [0,3,5,9,10,11,15,16,17] 1 kr (gZ R hg))⟩
  ·obtain ⟨r2,q2,c2⟩:=(zfk out (Lk.mk a.fst x.snd) zb6 zb6)
   obtain ⟨outZ,qZ,xZ,gZ⟩:=ih (i+1) r2 (by omega) (by first|exact hI|exact hI.ins h ha hx (by assumption)) (by omega);exact ⟨outZ,qZ,xZ,fun R hg=>zab (wkl (p_1++[sb h1,sc c2,si hw]) [0,3,5,9,10,11,15,16,17] 1 kr (gZ R hg))⟩
noncomputable def L_clO (l:List Lk) (N:List Str) (i:Nat) (out:List Lk):Cfg:=zav B.ref18_closure 1 [(0,lsl l),(3,lsl out),(9,lsl l),(10,iv ((l.map Lk.cells).length:Nat)),(11,iv (i:Nat))] []
theorem zgm (l:List Lk) (N:List Str) (hN:N.length≤1000) (h:LkN N l) (hs:zae l) (i:Nat) (out:List Lk) (hi:i≤(l).length) (hI:zd8 N l out):∃ (out':List Lk),(zd8 N l out')∧(decide ((((l).length:Nat):Int) < (((l.map Lk.cells).length:Nat):Int))=false)∧∀ R,Good E0 B.ref18_closure [] (L_clO l N (l).length out') R→Good E0 B.ref18_closure [] (L_clO l N i out) R:=by
 obtain ⟨kk,hk⟩:∃ kk,i+kk=(l).length:=⟨(l).length - i,by omega⟩
 induction kk generalizing i out with
 | zero =>
  have e0:i=(l).length:=by omega
  subst e0
  exact ⟨out,hI,by simp,fun R hg=>hg⟩
 | succ kk ih =>
  obtain ⟨x,hx⟩:=zay (l:=l) (i:=i) (by omega)
  have h0:decide (((i:Nat):Int) < (((l.map Lk.cells).length:Nat):Int))=true:=by simp;omega
  have hw:IntKind.i64.wrap (((i:Nat):Int)+1)=((i+1:Nat):Int):=zap i zhT
  obtain ⟨out1,q1,q1_1,g1⟩:=zgs l N i x hN zb6 zb6 zb6 0 out zb6 zb6
  obtain ⟨outZ,qZ,xZ,gZ⟩:=ih (i+1) out1 (by omega) zgH (by omega);exact ⟨outZ,qZ,xZ,fun R hg=>zab (wkl [sb h0,se (zah Lk.cells hx rfl)] [0,3,5,9,10,11,15,16,17] 1 kr (g1 _ (zab (wkl [sb q1_1,si hw] [0,3,9,10,11] 0 kr (gZ R hg)))))⟩
theorem zim (l:List Lk) (N:List Str) (hN:N.length≤1000) (h:LkN N l) (hs:zae l) (ihl:∀ l':List Lk,zd8 N l l'→(((((l'.map Lk.cells).length:Nat):Int)==(((l.map Lk.cells).length:Nat):Int))=false)→∃ r,LkN N r∧Good E0 B.ref18_closure [] (L_cl l') (Shut 0 fun rZ hZ=>rZ=lsl r∧hZ=[])):∃ (r:List Lk),LkN N r∧Good E0 B.ref18_closure [] (zlK (L_cl l)) (Shut 0 fun rZ hZ=>rZ=(lsl r)∧hZ=[]):=by
  obtain ⟨out1,q1,q1_1,g1⟩:=zgm l N hN zik zik 0 l zik zik
  cases h2:(↑(List.map Lk.cells out1).length:Int)==(↑(List.map Lk.cells l).length:Int)
  ·obtain ⟨r3_0,p3_0,g3⟩:=ihl out1 zik zik
   exact ⟨r3_0,(by first|assumption|exact And.left (by assumption)),wkl [] [0,3,9,10,11] 0 kr (g1 _ (zab (wkl [sb q1_1,sb h2] [0] 0 kr g3)))⟩
  ·exact ⟨out1,(by first|assumption|exact And.left (by assumption)),wkl [] [0,3,9,10,11] 0 kr (g1 _ (zab (wkr [sb q1_1,sb h2] kr)))⟩
theorem zgo (N:List Str) (hN:N.length≤1000):∀ (k:Nat) (l:List Lk),N.length * N.length - l.length≤k→LkN N l→∃ r,LkN N r∧Good E0 B.ref18_closure [] (L_cl l) (Shut 0 fun rZ hZ=>rZ=lsl r∧hZ=[]):=by
 intro k
 induction k with
 | zero =>
  intro l hk h
  have hs:zae l:=zd8.short (N:=N) (l:=l) ⟨h,fun _ hz=>hz⟩ hN
  obtain ⟨r,hr,hg⟩:=zim l N hN h hs fun l' h' hne=>by
   exfalso
   have h1:=zf0 l l' h.nd h'.2
   have h2:=h'.1.len
   simp only [List.length_map,beq_eq_false_iff_ne,ne_eq,Int.natCast_inj] at hne
   omega
  exact ⟨r,hr,zab hg⟩
 | succ k ih =>
  intro l hk h
  have hs:zae l:=zd8.short (N:=N) (l:=l) ⟨h,fun _ hz=>hz⟩ hN
  obtain ⟨r,hr,hg⟩:=zim l N hN h hs fun l' h' hne=>ih l' (by
   have h1:=zf0 l l' h.nd h'.2
   have h2:=h'.1.len
   simp only [List.length_map,beq_eq_false_iff_ne,ne_eq,Int.natCast_inj] at hne
   omega) h'.1
  exact ⟨r,hr,zab hg⟩
theorem zlu (l:List Lk) (N:List Str) (hN:N.length≤1000) (h:LkN N l):∃ (r:List Lk),LkN N r∧zac E0 S.ref18_closure [lsl l] [] (lsl r) []:=by
 obtain ⟨r1_0,p1_0,g1⟩:=zgo N hN (?k) l (by first|assumption|exact Nat.le_refl _) (by first|assumption|exact Nat.le_refl _)
 exact ⟨r1_0,(by first|assumption|trivial|(simp;done)|omega|(simp;omega)|(simp at *;omega)),wkc At.ref18_closure [] [0] 0 kr (g1)⟩
end Go.AM
namespace Go.AM
set_option maxRecDepth 100000
set_option maxHeartbeats 1000000
set_option linter.unusedSimpArgs false
set_option linter.unusedVariables false
theorem zde {p:Prop} (h:p:=by first|assumption|omega|exact LkN.short (by assumption) hN):p:=h
theorem zlr {p:Prop} (h:p:=by first|assumption|omega|(simp;done)|(simp;omega)):p:=h
theorem znE (N:List Str):LkN N []:=⟨by simp,by simp⟩
theorem LkN.short {N:List Str} {l:List Lk} (h:LkN N l) (hN:N.length≤1000):zae l:=by
 have h1:=h.len
 have h2:=Nat.mul_le_mul hN hN
 simp only [zae];omega
noncomputable def zhr (l:List Lk) (n:Str) (ps fs:List Str) (N:List Str) (i:Nat) (out:List Lk):Cfg:=zav B.ref18_Add 0 [(1,sv n),(3,ssl fs),(10,lsl out),(20,ssl ps),(21,iv ((ps.map zaW).length:Nat)),(22,iv (i:Nat))] [.row Ty.Link (l.map Lk.cells) true]
theorem zio (l:List Lk) (n:Str) (ps fs:List Str) (N:List Str) (hN:N.length≤1000) (hn:n∈N) (hp:zae ps) (hps:∀ s∈ps,s∈N) (i:Nat) (out:List Lk) (hi:i≤(ps).length) (hI:LkN N out):∃ (out':List Lk),(LkN N out')∧(decide ((((ps).length:Nat):Int) < (((ps.map zaW).length:Nat):Int))=false)∧∀ R,Good E0 B.ref18_Add [] (zhr l n ps fs N (ps).length out') R→Good E0 B.ref18_Add [] (zhr l n ps fs N i out) R:=by
 obtain ⟨kk,hk⟩:∃ kk,i+kk=(ps).length:=⟨(ps).length - i,by omega⟩
 induction kk generalizing i out with
 | zero =>
  have e0:i=(ps).length:=by omega
  subst e0
  exact ⟨out,hI,by simp,fun R hg=>hg⟩
 | succ kk ih =>
  obtain ⟨x,hx⟩:=zay (l:=ps) (i:=i) (by omega)
  have h0:decide (((i:Nat):Int) < (((ps.map zaW).length:Nat):Int))=true:=by simp;omega
  have hw:IntKind.i64.wrap (((i:Nat):Int)+1)=((i+1:Nat):Int):=zap i (by first|omega|(simp only [zae,Few] at *;omega))
  have hol:=hI.short hN;have hon:=hI.nd
  obtain ⟨r1,q1,c1⟩:=(zfk out (Lk.mk n x) zlr zlr)
  obtain ⟨outZ,qZ,xZ,gZ⟩:=ih (i+1) r1 (by omega) (by exact InsR.lk (by assumption) hI hn (hps _ (List.mem_of_getElem? hx))) (by omega);exact ⟨outZ,qZ,xZ,fun R hg=>zab (wkl [sb h0,se (zah (fun s=>[sv s]) hx rfl),sc c1,si hw] [1,3,10,20,21,22] 1 kr (gZ R hg))⟩
noncomputable def L_adF (l:List Lk) (n:Str) (fs:List Str) (N:List Str) (i:Nat) (out:List Lk):Cfg:=zav B.ref18_Add 1 [(1,sv n),(10,lsl out),(32,ssl fs),(33,iv ((fs.map zaW).length:Nat)),(34,iv (i:Nat))] [.row Ty.Link (l.map Lk.cells) true]
theorem zir (l:List Lk) (n:Str) (fs:List Str) (N:List Str) (hN:N.length≤1000) (hn:n∈N) (hf:zae fs) (hfs:∀ s∈fs,s∈N) (i:Nat) (out:List Lk) (hi:i≤(fs).length) (hI:LkN N out):∃ (out':List Lk),(LkN N out')∧(decide ((((fs).length:Nat):Int) < (((fs.map zaW).length:Nat):Int))=false)∧∀ R,Good E0 B.ref18_Add [] (L_adF l n fs N (fs).length out') R→Good E0 B.ref18_Add [] (L_adF l n fs N i out) R:=by
 obtain ⟨kk,hk⟩:∃ kk,i+kk=(fs).length:=⟨(fs).length - i,by omega⟩
 induction kk generalizing i out with
 | zero =>
  have e0:i=(fs).length:=by omega
  subst e0
  exact ⟨out,hI,by simp,fun R hg=>hg⟩
 | succ kk ih =>
  obtain ⟨x,hx⟩:=zay (l:=fs) (i:=i) (by omega)
  have h0:decide (((i:Nat):Int) < (((fs.map zaW).length:Nat):Int))=true:=by simp;omega
  have hw:IntKind.i64.wrap (((i:Nat):Int)+1)=((i+1:Nat):Int):=zap i (by first|omega|(simp only [zae,Few] at *;omega))
  have hol:=hI.short hN;have hon:=hI.nd
  obtain ⟨r1,q1,c1⟩:=(zfk out (Lk.mk x n) zlr zlr)
  obtain ⟨outZ,qZ,xZ,gZ⟩:=ih (i+1) r1 (by omega) (by exact InsR.lk (by assumption) hI (hfs _ (List.mem_of_getElem? hx)) hn) (by omega);exact ⟨outZ,qZ,xZ,fun R hg=>zab (wkl [sb h0,se (zah (fun s=>[sv s]) hx rfl),sc c1,si hw] [1,10,32,33,34] 1 kr (gZ R hg))⟩
theorem zph (l:List Lk) (n:Str) (ps fs:List Str) (N:List Str) (hN:N.length≤1000) (h:LkN N l) (hl:zae l) (hn:n∈N) (hp:zae ps) (hf:zae fs) (hps:∀ s∈ps,s∈N) (hfs:∀ s∈fs,s∈N):∃ (r:List Lk) (e:Int),LkN N r∧zac E0 S.ref18_Add [lsl l,sv n,ssl ps,ssl fs] [] (.tup [lsl r,iv e]) []:=by
 obtain ⟨r1,c1⟩:=(zjk l zde)
 cases h2:!r1
 ·obtain ⟨out3,q3,q3_1,g3⟩:=zio l n ps fs N hN zde zde zde 0 l zde zde
  obtain ⟨out4,q4,q4_1,g4⟩:=zir l n fs N hN zde zde zde 0 out3 zde zde
  obtain ⟨r5,q5,c5⟩:=(zlu out4 N hN zde)
  obtain ⟨r6,c6⟩:=(zjk r5 zde)
  cases h7:!r6
  ·exact ⟨r5,0,by first|exact znE N|assumption,wkc At.ref18_Add (c':=(Cfg.mk (zhr l n ps fs N 0 l).n (zhr l n ps fs N 0 l).todo [(1,sv n),(3,AV.sl (List.map (fun s=>[sv s]) fs)),(10,AV.own 0 (List.map Lk.cells l).length),(20,AV.sl (List.map (fun s=>[sv s]) ps)),(21,iv (↑(List.map (fun s=>[sv s]) ps).length:Int)),(22,iv 0)] [Blk.row Ty.Link (List.map Lk.cells l) false])) [sc c1,sb h2,sqx (AllLen (List.map Lk.cells l) 2∧((List.map Lk.cells l).length * 32).le 140737488355328)] [1,3,10,20,21,22] 1 kr (zfE (c':=zhr l n ps fs N 0 l) (v:=AV.own 0 (List.map Lk.cells l).length) (q:=(List.map Lk.cells l).length=(List.map Lk.cells l).length) 10 [1,3,10,20,21,22] 1 kr kr owed kr kr (g3 _ (zab (wkl [sb q3_1] [1,10,32,33,34] 1 kr (g4 _ (zab (wkr [sb q4_1,sc c5,sc c6,sb h7] kr)))))))⟩
  ·exact ⟨[],13,by first|exact znE N|assumption,wkc At.ref18_Add (c':=(Cfg.mk (zhr l n ps fs N 0 l).n (zhr l n ps fs N 0 l).todo [(1,sv n),(3,AV.sl (List.map (fun s=>[sv s]) fs)),(10,AV.own 0 (List.map Lk.cells l).length),(20,AV.sl (List.map (fun s=>[sv s]) ps)),(21,iv (↑(List.map (fun s=>[sv s]) ps).length:Int)),(22,iv 0)] [Blk.row Ty.Link (List.map Lk.cells l) false])) [sc c1,sb h2,sqx (AllLen (List.map Lk.cells l) 2∧((List.map Lk.cells l).length * 32).le 140737488355328)] [1,3,10,20,21,22] 1 kr (zfE (c':=zhr l n ps fs N 0 l) (v:=AV.own 0 (List.map Lk.cells l).length) (q:=(List.map Lk.cells l).length=(List.map Lk.cells l).length) 10 [1,3,10,20,21,22] 1 kr kr owed kr kr (g3 _ (zab (wkl [sb q3_1] [1,10,32,33,34] 1 kr (g4 _ (zab (wkr [sb q4_1,sc c5,sc c6,sb h7] kr)))))))⟩
 ·exact ⟨[],17,by first|exact znE N|assumption,wk At.ref18_Add [sc c1,sb h2] kr⟩
end Go.AM
namespace Go.AM
set_option maxRecDepth 100000
noncomputable def litC (fn:Func) (n:Nat):Cfg:=(upto (mk E0) (List.range 40) 0 n ⟨fn.ntmps,[.code (fn.body.getD .skip)],zb0 0 [],[]⟩ []).2
theorem lit_at:zno E0 (litC B.world_Schemas 21)=some (Ty.Schema,3,(zao.map Sch.cells).flatten):=by kernel_rfl
theorem lit_h:(litC B.world_Schemas 21).h=[]:=by kernel_rfl
theorem lit_b:frzB [] (zao.map Sch.cells).flatten=none:=by kernel_rfl
theorem lit_m:zbY (zao.map Sch.cells).flatten=[]:=by kernel_rfl
theorem lit_c:zcu (E0.T Ty.Schema).size 3 (frzL [] (zao.map Sch.cells).flatten)=zao.map Sch.cells:=by kernel_rfl
theorem lit_up:upto (mk E0) (List.range 40) 0 21 ⟨(B.world_Schemas).ntmps,[.code ((B.world_Schemas).body.getD .skip)],zb0 0 [],[]⟩ (orcs [])=(zbD [],litC B.world_Schemas 21):=by kernel_rfl
theorem ztE:finK (mk E0) B.world_Schemas 3000 (zie (litC B.world_Schemas 21) Ty.Schema 3 (zao.map Sch.cells)) (orcs [])=some (zbD [],AV.own 0 3,[Blk.row Ty.Schema (zao.map Sch.cells) false]):=by kernel_rfl
theorem zsi:B.world_Schemas.body=some (B.world_Schemas.body.getD .skip):=by kernel_rfl
theorem zss : (B.world_Schemas.name == "runtime.NumGoroutine") = false := by kernel_rfl
theorem litAll {f : FuncId} {fn : Func} {y : AV} {H : Heap} {c : Cfg} {e : TypeId} {n N : Nat} {cs : List AV} {xs : List (List AV)} (hf : E0.P.funcs[f]? = some fn) (hb : fn.body = some (fn.body.getD .skip)) (hname : (fn.name == "runtime.NumGoroutine") = false)
  (hu:upto (mk E0) (List.range 40) 0 N ⟨fn.ntmps,[.code (fn.body.getD .skip)],zb0 0 [],[]⟩ (orcs [])=(zbD [],c))
  (h1:zno E0 c=some (e,n,cs)) (h2:0 < n) (h3:c.h=[]) (h4:frzB [] cs=none) (h5:zbY cs=[]) (h6:zcu (E0.T e).size n (frzL [] cs)=xs)
  (he:finK (mk E0) fn 3000 (zie c e n xs) (orcs [])=some (zbD [],y,H)):zac E0 f [] [] y H:=by
 refine za2 hf hb hname (by simp) ?_
 refine zc5 E0ok mix0 N [] (List.range 40) 0 rfl hu ?_
 refine zsr E0ok h1 h2 (by rw [h3];exact h4) h5 ?_
 rw [h3,h6]
 exact zct E0ok mix0 3000 [] he ⟨rfl,rfl⟩
theorem zkH:zac E0 S.world_Schemas [] [] (.own 0 3) [.row Ty.Schema (zao.map Sch.cells) false] :=
 @litAll S.world_Schemas B.world_Schemas (.own 0 3) [Blk.row Ty.Schema (zao.map Sch.cells) false] (litC B.world_Schemas 21) Ty.Schema 3 21 (zao.map Sch.cells).flatten (zao.map Sch.cells) At.world_Schemas zsi zss lit_up lit_at (by decide) lit_h lit_b lit_m lit_c ztE
end Go.AM
