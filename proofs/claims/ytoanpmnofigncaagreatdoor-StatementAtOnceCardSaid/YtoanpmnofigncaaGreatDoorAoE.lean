/-
  Contracts of the program's functions, part 4.
-/
import Derived.Test.YtoanpmnofigncaaGreatDoorAoD
import Derived.Lib.Strings
set_option maxRecDepth 100000
set_option maxHeartbeats 40000000
set_option linter.unusedSimpArgs false
set_option linter.unusedVariables false
namespace Go.AM
theorem zt2 {tb:List Tb} {n:Str} {x:Tb} (h:AtI tb (idxF (fun t=>zan t n) tb 0) x):zaG tb n=(x.sch,true):=by
 obtain ⟨h0,h1⟩:=h
 rw [zcV]
 rcases zdz (fun t=>zan t n) tb 0 with ⟨h2,_⟩|⟨j,y,h2,h3,h4⟩
 ·omega
 ·rw [h2] at h1
  have:((0+j:Nat):Int).toNat=j:=by omega
  rw [this,h3] at h1
  cases h1
  unfold zaJ;rw [h4]
theorem zt1 {tb:List Tb} {n:Str} (h:decide (idxF (fun t=>zan t n) tb 0 < 0)=true):zaG tb n=(⟨⟨#[]⟩,[]⟩,false):=by
 rw [zcV]
 rcases zdz (fun t=>zan t n) tb 0 with ⟨_,h2⟩|⟨j,y,h2,h3,h4⟩
 ·unfold zaJ;rw [h2]
 ·simp only [decide_eq_true_eq] at h;omega
theorem zBv {tb:List Tb} {n:Str} (h:decide (idxF (fun t=>zan t n) tb 0 < 0)=false):0<=idxF (fun t=>zan t n) tb 0/\idxF (fun t=>zan t n) tb 0 < ((tb.length:Nat):Int):=by
 simp only [decide_eq_false_iff_not] at h
 have:=zvw (fun t=>zan t n) tb 0
 exact ⟨by omega,by rcases this with h|h <;> omega⟩
theorem zgY (t:Tb) (n:Str) :zab E0 S.Cj [.agg t.cells,.p 0 0] [.box [sv n]] (bv (zan t n)) [.box [sv n]]:=by
 exact wk At.Cj [] kr
noncomputable def zsg (tb:List Tb) (n:Str) (i:Nat):Cfg:=zag B.Ag 0 [(0,.sl (tb.map Tb.cells)),(1,.fn S.Cj [.p 0 0]),(7,iv ((tb.map Tb.cells).length:Nat)),(8,iv (i:Nat))] [.box [sv n]]
theorem zuJ (tb:List Tb) (n:Str) (hl:zac tb):∀ (k i:Nat),i+k=tb.length->Good E0 B.Ag [.box [sv n]] (zsg tb n i) (Shut 1 fun r h=>r=iv (idxF (fun t=>zan t n) (tb.drop i) i)/\h=[.box [sv n]]):=by
 intro k
 induction k with
 | zero =>
  intro i hi
  refine zaa ?_
  have h0:decide ((i:Int) < (((tb.map Tb.cells).length:Nat):Int))=false:=by simp;omega
  have e0:tb.drop i=[]:=List.drop_of_length_le Zo
  rw [e0]
  exact zeJ E0ok mix0 3000 (y:=AV.v (Value.int IntKind.i64 (-1:Int))) (H:=[Blk.box [AV.v (Value.string n)]]) [sb h0] kr (⟨rfl,rfl⟩)
 | succ k ih =>
  intro i hi
  have ih:=ih (i+1) Zo
  obtain ⟨x,hx⟩:=za4 (l:=tb) (i:=i) Zo
  have h0:decide ((i:Int) < (((tb.map Tb.cells).length:Nat):Int))=true:=by simp;omega
  have hw:=zaL i Zo
  rw [zam hx]
  simp only [idxF]
  refine zaa ?_
  cases h1:zan x n
  ·exact zc9 E0ok mix0 3000 (c':=zsg tb n (i+(1:Nat))) [sb h0,se (zae Tb.cells hx rfl),sl [(0:Nat)] (zgY x n),sb h1,si hw] [0,1,7,8] 1 kr kr (by simpa only [cond_true,cond_false,h1] using ih)
  ·exact zeJ E0ok mix0 3000 (y:=AV.v (Value.int IntKind.i64 (i:Int))) (H:=[Blk.box [AV.v (Value.string n)]]) [sb h0,se (zae Tb.cells hx rfl),sl [(0:Nat)] (zgY x n),sb h1] kr (⟨by simp only [cond_true,cond_false,h1],rfl⟩)
theorem zz5 (tb:List Tb) (n:Str) (hl:zac tb):zab E0 S.Ag [.sl (tb.map Tb.cells),.fn S.Cj [.p 0 0]] [.box [sv n]] (iv (idxF (fun t=>zan t n) tb 0)) [.box [sv n]]:=by
 exact zfX E0ok mix0 At.Ag rfl kr kr 3000 (c':=zsg tb n (0:Nat)) [] [0,1,7,8] 1 kr kr (by simpa using zuJ tb n hl tb.length 0 Zs)
theorem zpS (tb:List Tb) (n:Str) (h2:zac tb) (h3:∀ x∈tb,zac x.sch.cols) (hix:zab E0 S.Ag [.sl (tb.map Tb.cells),.fn S.Cj [.p 0 0]] [.box [sv n]] (iv (idxF (fun t=>zan t n) tb 0)) [.box [sv n]]):∃ (s:Sch) (b:Bool),(s,b)=zaG tb n/\zab E0 S.CX [tsl tb,sv n] [] (.tup [s.av,bv b]) []:=by
 cases h1:decide (idxF (fun t=>zan t n) tb 0 < 0)
 ·obtain ⟨x2,e2⟩:=zjH (l:=tb) (i:=idxF (fun t=>zan t n) tb (0:Nat)) (by exact zBv ‹_›)
  exact ⟨x2.sch,true,(by first|exact (zt2 ‹_›).symm|exact (zt1 ‹_›).symm),wk At.CX [sqx ((True/\x2.sch.cols.length=(List.map Col.cells x2.sch.cols).length/\True)/\True/\True),sl [0] hix,sb h1,se (zdb Tb.cells e2 rfl),sc (zc6 x2.sch.cols (by first|assumption|exact h3 _ (List.mem_of_getElem? (And.right ‹AtI _ _ _›))))] kr⟩
 ·exact ⟨Sch.mk Zs0 [],false,(by first|exact (zt2 ‹_›).symm|exact (zt1 ‹_›).symm),wk At.CX [sl [0] hix,sb h1] kr⟩
theorem zqb (tb:List Tb) (n:Str) (h2:zac tb) (h3:∀ x∈tb,zac x.sch.cols):zab E0 S.CX [tsl tb,sv n] [] (.tup [(zaG tb n).1.av,bv (zaG tb n).2]) []:=by
 obtain ⟨s,b,h,h2⟩:=zpS tb n h2 h3 (zz5 tb n h2)
 rw [← h];exact h2
theorem zsv (fr:List Fr) (s:Sch) (v:List V) (h2:zac fr):∃ (r:List Fr),r=zat fr s v/\zab E0 S.Dt [fsl fr,s.av,vsl v] [] (fsl r) []:=by
 exact ⟨fr++[Fr.mk s.name false s.cols v],Zr,(by (try simp only [zsl,xCol,xLit,xBin,xNeg,Ac.cells,Se.cells]);exact wk At.Dt [sqx ((List.map Fr.cells fr++[[sv s.name,bv false,ZC s.cols,vsl v]]).length=(List.map Fr.cells fr++[[sv s.name,bv false,ZC s.cols,vsl v]]).length),sd [(1,[sc (zfe fr (by first|assumption|omega|(simp;done)|(simp;omega)))]),(9,[sqA (List.map Fr.cells fr) [[sv s.name,bv false,ZC s.cols,vsl v]] fr.length 4 72])]] kr)⟩
theorem zhP (fr:List Fr) (s:Sch) (v:List V) (h2:zac fr):zab E0 S.Dt [fsl fr,s.av,vsl v] [] (fsl (zat fr s v)) []:=by
 obtain ⟨r,rfl,h⟩:=zsv fr s v h2
 exact h
theorem zzp {p:Prop} (h:p:=by first|assumption|omega|(simp;done)|(simp;omega)):p:=h
def tgt (a:Ac) (b:Bool) (tb:List Tb):Sch × Int :=
 bif !b then
  (Sch.mk Zs0 [],17)
 else
  bif !(zaG tb a.table).snd then
   (Sch.mk Zs0 [],3)
  else
   ((zaG tb a.table).fst,0)
theorem ztf (a:Ac) (b:Bool) (tb:List Tb) (hk1:decide (a.kind < (1:Int))=false) (hk2:decide ((3:Int) < a.kind)=false) (h2:zac tb) (h3:∀ x∈tb,zac x.sch.cols) (hv:zab E0 S.Ah [a.av] [] (bv b) []):zab E0 S.By [a.av,tsl tb] [] (.tup [(tgt a b tb).1.av,iv (tgt a b tb).2]) []:=by
 unfold tgt
 cases h1:!b
 ·let p_1:List St:=[sg hk1,sg hk2,sc hv,sb h1,sc (zqb tb a.table zzp zzp)]
  cases h2:!(zaG tb a.table).snd
  ·exact wk At.By (p_1++[sb h2]) kr
  ·exact wk At.By (p_1++[sb h2]) kr
 ·exact wk At.By [sg hk1,sg hk2,sc hv,sb h1] kr
theorem zme {p:Prop} (h:p:=by first|assumption|(simp only [decide_eq_false_iff_not,Int.not_lt,Int.not_le] at *;omega)):p:=h
structure Pr where
 id:Int
 old:List V
 nw:List V
def Pr.cells (p:Pr):List AV:=[iv p.id,vsl p.old,vsl p.nw]
@[simp] theorem Pr.cells_length (x:Pr):x.cells.length=3:=rfl
structure Ch where
 ins:List (List V)
 del:List Int
 upd:List Pr
def Ch.cells (c:Ch):List AV:=[.sl (c.ins.map vrow),isl c.del,.sl (c.upd.map Pr.cells)]
abbrev Ch.av (c:Ch):AV:=.agg c.cells
abbrev ch0:Ch:=⟨[],[],[]⟩
theorem zfT (t:Tb) (a:Ac) :zab E0 S.Bs [.agg t.cells,.p 0 0] [.box a.cells] (bv (zan t a.table)) [.box a.cells]:=by
 exact wk At.Bs [] kr
noncomputable def zsf (tb:List Tb) (a:Ac) (i:Nat):Cfg:=zag B.Ag 0 [(0,.sl (tb.map Tb.cells)),(1,.fn S.Bs [.p 0 0]),(7,iv ((tb.map Tb.cells).length:Nat)),(8,iv (i:Nat))] [.box a.cells]
theorem zuI (tb:List Tb) (a:Ac) (hl:zac tb):∀ (k i:Nat),i+k=tb.length->Good E0 B.Ag [.box a.cells] (zsf tb a i) (Shut 1 fun r h=>r=iv (idxF (fun t=>zan t a.table) (tb.drop i) i)/\h=[.box a.cells]):=by
 intro k
 induction k with
 | zero =>
  intro i hi
  refine zaa ?_
  have h0:decide ((i:Int) < (((tb.map Tb.cells).length:Nat):Int))=false:=by simp;omega
  have e0:tb.drop i=[]:=List.drop_of_length_le Zo
  rw [e0]
  exact zeJ E0ok mix0 3000 (y:=AV.v (Value.int IntKind.i64 (-1:Int))) (H:=[Blk.box a.cells]) [sb h0] kr (⟨rfl,rfl⟩)
 | succ k ih =>
  intro i hi
  have ih:=ih (i+1) Zo
  obtain ⟨x,hx⟩:=za4 (l:=tb) (i:=i) Zo
  have h0:decide ((i:Int) < (((tb.map Tb.cells).length:Nat):Int))=true:=by simp;omega
  have hw:=zaL i Zo
  rw [zam hx]
  simp only [idxF]
  refine zaa ?_
  cases h1:zan x a.table
  ·exact zc9 E0ok mix0 3000 (c':=zsf tb a (i+(1:Nat))) [sb h0,se (zae Tb.cells hx rfl),sl [(0:Nat)] (zfT x a),sb h1,si hw] [0,1,7,8] 1 kr kr (by simpa only [cond_true,cond_false,h1] using ih)
  ·exact zeJ E0ok mix0 3000 (y:=AV.v (Value.int IntKind.i64 (i:Int))) (H:=[Blk.box a.cells]) [sb h0,se (zae Tb.cells hx rfl),sl [(0:Nat)] (zfT x a),sb h1] kr (⟨by simp only [cond_true,cond_false,h1],rfl⟩)
theorem znD (tb:List Tb) (a:Ac) (hl:zac tb):zab E0 S.Ag [.sl (tb.map Tb.cells),.fn S.Bs [.p 0 0]] [.box a.cells] (iv (idxF (fun t=>zan t a.table) tb 0)) [.box a.cells]:=by
 exact zfX E0ok mix0 At.Ag rfl kr kr 3000 (c':=zsf tb a (0:Nat)) [] [0,1,7,8] 1 kr kr (by simpa using zuI tb a hl tb.length 0 Zs)
noncomputable def L_asgL (f:X->V × Int) (a:Ac) (s:Sch) (frs:List Fr) (tb:List Tb) (i:Nat) (out:List V):Cfg:=zag B.Bw 0 [(3,fsl frs),(4,tsl tb),(6,.p 1 0),(12,.own 2 out.length),(21,.sl (a.sets.map Se.cells)),(22,iv ((a.sets.map Se.cells).length:Nat)),(23,iv (i:Nat))] [.box a.cells,.box s.cells,.row Ty.Value (out.map V.cells) false]
def asgL (f:X->V × Int) (a:Ac) (s:Sch) (frs:List Fr) (tb:List Tb):List (Se)->Nat->(List V)->(List V) × Int
 | [],i,out =>
  (out,0)
 | x::r,i,out =>
  bif decide (idxF (fun c=>colC c x.col) s.cols 0 < 0) then
   ([],3)
  else
   bif (f x.ex).snd != 0 then
    ([],(f x.ex).snd)
   else
    bif decide ((out.length:Int)<=idxF (fun c=>colC c x.col) s.cols 0) then
     ([],17)
    else
     asgL f a s frs tb r (i+1) (out.set (idxF (fun c=>colC c x.col) s.cols 0).toNat (f x.ex).fst)
theorem Zcv5 {p:Prop} (h:p:=by first|rfl|(simp;done)|(simp [X.cells,Qy.cells,V.cells,Col.cells,Rw.cells,Tb.cells,Fr.cells,Sch.cells,Tp.cells,Pl.cells,xCol,xLit,xBin,xNeg,Ac.cells,Se.cells,Pr.cells,Ch.cells];done)):p:=h
theorem zuF (f:X->V × Int) (a:Ac) (s:Sch) (frs:List Fr) (tb:List Tb) (hs:zac s.cols) (hl:zac a.sets) (hf:∀ x∈a.sets,Pure S.Aj [x.ex.av,fsl frs,tsl tb] (.tup [(f x.ex).1.av,iv (f x.ex).2])):∀ (kk i:Nat) (out:List V),i+kk=(a.sets).length->Good E0 B.Bw [] (L_asgL f a s frs tb i out) (Shut 0 fun r h=>r=(.tup [vsl (asgL f a s frs tb ((a.sets).drop i) i out).1,iv (asgL f a s frs tb ((a.sets).drop i) i out).2])/\h=[]):=by
 intro kk
 induction kk with
 | zero =>
  intro i out hi
  have h0:decide (((i:Nat):Int) < (((a.sets.map Se.cells).length:Nat):Int))=false:=by simp;omega
  have e0:(a.sets).drop i=[]:=List.drop_of_length_le Zo
  rw [e0]
  simp only [asgL]
  refine zaa ?_
  exact wkr [sqx (out.length=(List.map V.cells out).length/\True/\True),sb h0] kr
 | succ kk ih =>
  intro i out hi
  obtain ⟨x,hx⟩:=za4 (l:=a.sets) (i:=i) Zo
  have h0:decide (((i:Nat):Int) < (((a.sets.map Se.cells).length:Nat):Int))=true:=by simp;omega
  have hw:=zaL i (by first|omega|(simp only [zac,Few] at *;omega))
  have hfx:=hf x (List.mem_of_getElem? hx)
  rw [zam hx]
  simp only [asgL]
  refine zaa ?_
  cases h1:decide (idxF (fun c=>colC c x.col) s.cols 0 < 0)
  ·cases h2:(f x.ex).snd != 0
   ·cases h3:decide ((out.length:Int)<=idxF (fun c=>colC c x.col) s.cols 0)
    ·obtain ⟨x4,e4⟩:=za4 (l:=out) (i:=(idxF (fun c=>colC c x.col) s.cols 0).toNat) zme
     exact wkl [sb h0,se (zae Se.cells hx rfl),sc (zbU s x.col zme),sb h1,sc hfx,sb h2,sqx (out.length=(List.map V.cells out).length),sb h3,sqx (OwnAt (List.map V.cells out) out.length (idxF (fun c=>colC c x.col) s.cols 0)),sx (.el x4.cells) (And.intro (owed (p:=True/\True/\True/\True)) (zdQ V.cells (n:=out.length) Zs e4)),si hw] [3,4,6,12,21,22,23] 3 kr (zaA (show ([(3,fsl frs),(4,tsl tb),(6,AV.p 1 0),(12,AV.own 2 out.length),(21,ZE a.sets),(22,iv (↑(List.map Se.cells a.sets).length:Int)),(23,iv (↑(i+1):Int))]:TS)=_ from Zcv5) (show ([Blk.box [iv a.kind,sv a.table,AV.sl (List.map (fun r=>[AV.sl (zad r)]) a.rows),AV.sl (zah a.query),ZE a.sets,AV.sl (zad a.wh),sv a.text],Blk.box s.cells,Blk.row Ty.Value ((List.map V.cells out).set (idxF (fun c=>colC c x.col) s.cols 0).toNat [iv (f x.ex).fst.kind,iv (f x.ex).fst.int,sv (f x.ex).fst.text]) false]:Heap)=_ from Zcv5) (ih (i+1) (out.set (idxF (fun c=>colC c x.col) s.cols 0).toNat (f x.ex).fst) Zo ))
    ·exact wkr [sb h0,se (zae Se.cells hx rfl),sc (zbU s x.col zme),sb h1,sc hfx,sb h2,sqx (out.length=(List.map V.cells out).length),sb h3] kr
   ·exact wkr [sb h0,se (zae Se.cells hx rfl),sc (zbU s x.col zme),sb h1,sc hfx,sb h2] kr
  ·exact wkr [sb h0,se (zae Se.cells hx rfl),sc (zbU s x.col zme),sb h1] kr
def asgn (f:X->V × Int) (a:Ac) (s:Sch) (row:List V) (frs:List Fr) (tb:List Tb):(List V) × Int :=
 asgL f a s frs tb a.sets 0 (row)
theorem zjL (f:X->V × Int) (a:Ac) (s:Sch) (row:List V) (frs:List Fr) (tb:List Tb) (hr:zac row) (hs:zac s.cols) (hl:zac a.sets) (hf:∀ x∈a.sets,Pure S.Aj [x.ex.av,fsl frs,tsl tb] (.tup [(f x.ex).1.av,iv (f x.ex).2])):zab E0 S.Bw [a.av,s.av,vsl row,fsl frs,tsl tb] [] (.tup [vsl (asgn f a s row frs tb).1,iv (asgn f a s row frs tb).2]) []:=by
 unfold asgn
 exact wkc At.Bw [sc (zaS row (by first|assumption|omega|(simp;done)|(simp;omega)))] [3,4,6,12,21,22,23] 3 kr (by have ih:=zuF f a s frs tb hs hl hf a.sets.length 0 row Zs;exact ih)
theorem zph {p:Prop} (h:p:=by first|assumption|(simp;done)|(simp;omega)|omega|(simp at *;omega)):p:=h
noncomputable def L_cndD (tr:Rw->Bool × Int) (a:Ac) (s:Sch) (frs:List Fr) (tb:List Tb) (t:Tb) (i:Nat) (del:List Int):Cfg:=zag B.Ai 0 [(1,fsl frs),(2,tsl tb),(3,.p 0 0),(6,.p 1 0),(8,.p 2 0),(12,.p 3 0),(55,.sl (t.rows.map Rw.cells)),(56,iv ((t.rows.map Rw.cells).length:Nat)),(57,iv (i:Nat))] [.box a.cells,.box [.nl,.nl,.nl],.box s.cells,.box [.nl,.own 4 del.length,.nl],.row Ty.int (del.map zaN) false]
def cndD (tr:Rw->Bool × Int) (a:Ac) (s:Sch) (frs:List Fr) (tb:List Tb) (t:Tb):List (Rw)->Nat->(List Int)->Ch × Int
 | [],i,del =>
  (Ch.mk [] del [],0)
 | x::r,i,del =>
  bif (tr x).snd != 0 then
   (Ch.mk [] [] [],(tr x).snd)
  else
   bif !(tr x).fst then
    cndD tr a s frs tb t r (i+1) (del)
   else
    cndD tr a s frs tb t r (i+1) (del++[x.id])
theorem Zcv4 {p:Prop} (h:p:=by first|rfl|(simp;done)|(simp [X.cells,Qy.cells,V.cells,Col.cells,Rw.cells,Tb.cells,Fr.cells,Sch.cells,Tp.cells,Pl.cells,xCol,xLit,xBin,xNeg,Ac.cells,Se.cells,Pr.cells,Ch.cells,Rw.cells];done)):p:=h
theorem zuG (tr:Rw->Bool × Int) (a:Ac) (s:Sch) (frs:List Fr) (tb:List Tb) (t:Tb) (h3:zac frs) (hk:(a.kind==3)=true) (hl:zac t.rows) (ht:∀ r∈t.rows,Pure S.AD [xsl a.wh,fsl (zat frs s r.vals),tsl tb] (.tup [bv (tr r).1,iv (tr r).2])):∀ (kk i:Nat) (del:List Int),i+kk=(t.rows).length->(del.length<=i)->Good E0 B.Ai [] (L_cndD tr a s frs tb t i del) (Shut 0 fun r h=>r=(.tup [(cndD tr a s frs tb t ((t.rows).drop i) i del).1.av,iv (cndD tr a s frs tb t ((t.rows).drop i) i del).2])/\h=[]):=by
 intro kk
 induction kk with
 | zero =>
  intro i del hi ho
  have h0:decide (((i:Nat):Int) < (((t.rows.map Rw.cells).length:Nat):Int))=false:=by simp;omega
  have e0:(t.rows).drop i=[]:=List.drop_of_length_le Zo
  rw [e0]
  simp only [cndD]
  refine zaa ?_
  exact wkr [sqx ((True/\del.length=(List.map zaN del).length/\True/\True)/\True/\True),sb h0] kr
 | succ kk ih =>
  intro i del hi ho
  obtain ⟨x,hx⟩:=za4 (l:=t.rows) (i:=i) Zo
  have h0:decide (((i:Nat):Int) < (((t.rows.map Rw.cells).length:Nat):Int))=true:=by simp;omega
  have hw:=zaL i (by first|omega|(simp only [zac,Few] at *;omega))
  have hfx:=ht x (List.mem_of_getElem? hx)
  rw [zam hx]
  simp only [cndD]
  refine zaa ?_
  let p_1:List St:=[sb h0,se (zae Rw.cells hx rfl),sc (zhP frs s x.vals (by first|assumption|omega|(simp;done)|(simp;omega))),sc hfx]
  cases h1:(tr x).snd != 0
  ·cases h2:!(tr x).fst
   ·exact wkl (p_1++[sb h1,sb h2,sb hk,sqA (List.map zaN del) [[iv x.id]] del.length 1 8,si hw]) [1,2,3,6,8,12,55,56,57] 5 kr (zaA rfl (show ([Blk.box [iv a.kind,sv a.table,AV.sl (List.map (fun r=>[AV.sl (zad r)]) a.rows),AV.sl (zah a.query),ZE a.sets,AV.sl (zad a.wh),sv a.text],Blk.box [AV.nl,AV.nl,AV.nl],Blk.box s.cells,Blk.box [AV.nl,AV.own 4 (List.map zaN del++[[iv x.id]]).length,AV.nl],Blk.row Ty.int (List.map zaN del++[[iv x.id]]) false]:Heap)=_ from Zcv4) (ih (i+1) (del++[x.id]) Zo zph))
   ·exact wkl (p_1++[sb h1,sb h2,si hw]) [1,2,3,6,8,12,55,56,57] 5 kr (ih (i+1) del Zo zph)
  ·exact wkr (p_1++[sb h1]) kr
noncomputable def L_cndU (tr:Rw->Bool × Int) (ag:Rw->List V × Int) (a:Ac) (s:Sch) (frs:List Fr) (tb:List Tb) (t:Tb) (i:Nat) (upd:List Pr):Cfg:=zag B.Ai 0 [(1,fsl frs),(2,tsl tb),(3,.p 0 0),(6,.p 1 0),(8,.p 2 0),(12,.p 3 0),(55,.sl (t.rows.map Rw.cells)),(56,iv ((t.rows.map Rw.cells).length:Nat)),(57,iv (i:Nat))] [.box a.cells,.box [.nl,.nl,.nl],.box s.cells,.box [.nl,.nl,.own 4 upd.length],.row Ty.Pair (upd.map Pr.cells) false]
def cndU (tr:Rw->Bool × Int) (ag:Rw->List V × Int) (a:Ac) (s:Sch) (frs:List Fr) (tb:List Tb) (t:Tb):List (Rw)->Nat->(List Pr)->Ch × Int
 | [],i,upd =>
  (Ch.mk [] [] upd,0)
 | x::r,i,upd =>
  bif (tr x).snd != 0 then
   (Ch.mk [] [] [],(tr x).snd)
  else
   bif !(tr x).fst then
    cndU tr ag a s frs tb t r (i+1) (upd)
   else
    bif (ag x).snd != 0 then
     (Ch.mk [] [] [],(ag x).snd)
    else
     cndU tr ag a s frs tb t r (i+1) (upd++[Pr.mk x.id x.vals (ag x).fst])
theorem zuH (tr:Rw->Bool × Int) (ag:Rw->List V × Int) (a:Ac) (s:Sch) (frs:List Fr) (tb:List Tb) (t:Tb) (h3:zac frs) (hk:(a.kind==3)=false) (hl:zac t.rows) (hv:∀ r∈t.rows,zac r.vals) (ht:∀ r∈t.rows,Pure S.AD [xsl a.wh,fsl (zat frs s r.vals),tsl tb] (.tup [bv (tr r).1,iv (tr r).2])) (hag:∀ r∈t.rows,Pure S.Bw [a.av,s.av,vsl r.vals,fsl (zat frs s r.vals),tsl tb] (.tup [vsl (ag r).1,iv (ag r).2])):∀ (kk i:Nat) (upd:List Pr),i+kk=(t.rows).length->(upd.length<=i)->Good E0 B.Ai [] (L_cndU tr ag a s frs tb t i upd) (Shut 0 fun r h=>r=(.tup [(cndU tr ag a s frs tb t ((t.rows).drop i) i upd).1.av,iv (cndU tr ag a s frs tb t ((t.rows).drop i) i upd).2])/\h=[]):=by
 intro kk
 induction kk with
 | zero =>
  intro i upd hi ho
  have h0:decide (((i:Nat):Int) < (((t.rows.map Rw.cells).length:Nat):Int))=false:=by simp;omega
  have e0:(t.rows).drop i=[]:=List.drop_of_length_le Zo
  rw [e0]
  simp only [cndU]
  refine zaa ?_
  exact wkr [sqx ((True/\True/\upd.length=(List.map Pr.cells upd).length/\True)/\True/\True),sb h0] kr
 | succ kk ih =>
  intro i upd hi ho
  obtain ⟨x,hx⟩:=za4 (l:=t.rows) (i:=i) Zo
  have h0:decide (((i:Nat):Int) < (((t.rows.map Rw.cells).length:Nat):Int))=true:=by simp;omega
  have hw:=zaL i (by first|omega|(simp only [zac,Few] at *;omega))
  have hfx:=ht x (List.mem_of_getElem? hx);have hgx:=hag x (List.mem_of_getElem? hx);have hvx:=hv x (List.mem_of_getElem? hx)
  rw [zam hx]
  simp only [cndU]
  refine zaa ?_
  let p_1:List St:=[sb h0,se (zae Rw.cells hx rfl),sc (zhP frs s x.vals (by first|assumption|omega|(simp;done)|(simp;omega))),sc hfx]
  cases h1:(tr x).snd != 0
  ·cases h2:!(tr x).fst
   ·cases h3:(ag x).snd != 0
    ·exact wkl (p_1++[sb h1,sb h2,sb hk,sc hgx,sb h3,sd [(6,[sc (zaS x.vals (by first|assumption|omega|(simp;done)|(simp;omega)))]),(9,[sqx (True/\x.vals.length=(List.map V.cells x.vals).length/\True/\True)]),(10,[sqA (List.map Pr.cells upd) [[iv x.id,vsl x.vals,AV.sl (List.map V.cells (ag x).fst)]] upd.length 3 56])],si hw]) [1,2,3,6,8,12,55,56,57] 5 kr (zaA rfl (show ([Blk.box [iv a.kind,sv a.table,AV.sl (List.map (fun r=>[AV.sl (zad r)]) a.rows),AV.sl (zah a.query),ZE a.sets,AV.sl (zad a.wh),sv a.text],Blk.box [AV.nl,AV.nl,AV.nl],Blk.box s.cells,Blk.box [AV.nl,AV.nl,AV.own 4 (List.map Pr.cells upd++[[iv x.id,vsl x.vals,AV.sl (List.map V.cells (ag x).fst)]]).length],Blk.row Ty.Pair (List.map Pr.cells upd++[[iv x.id,vsl x.vals,AV.sl (List.map V.cells (ag x).fst)]]) false]:Heap)=_ from Zcv4) (ih (i+1) (upd++[Pr.mk x.id x.vals (ag x).fst]) Zo zph))
    ·exact wkr (p_1++[sb h1,sb h2,sb hk,sc hgx,sb h3]) kr
   ·exact wkl (p_1++[sb h1,sb h2,si hw]) [1,2,3,6,8,12,55,56,57] 5 kr (ih (i+1) upd Zo zph)
  ·exact wkr (p_1++[sb h1]) kr
def zzz:Tb:=⟨⟨⟨#[]⟩,[]⟩,0,[]⟩
def tabC (tb:List Tb) (n:Str):Tb:=(zaJ tb n).getD zzz
theorem zmG (tb:List Tb) (n:Str) (h:decide (idxF (fun t=>zan t n) tb 0 < 0)=false):ElAt (tb.map Tb.cells) (idxF (fun t=>zan t n) tb 0) (tabC tb n).cells 4:=by
 simp only [decide_eq_false_iff_not] at h
 rcases zdz (fun t=>zan t n) tb 0 with ⟨h2,_⟩|⟨j,y,h2,h3,h4⟩
 ·omega
 ·have e:tabC tb n=y:=by unfold tabC zaJ;rw [h4];rfl
  rw [e,h2]
  have:((0+j:Nat):Int)=(j:Int):=by omega
  rw [this];exact zae Tb.cells h3 rfl
def zwV (a:Ac) (s:Sch) (e:Int):Ch × Int :=
 (Ch.mk [] [] [],e)
theorem zld (a:Ac) (s:Sch) (e:Int) (frs:List Fr) (tb:List Tb) (he:(e != 0)=true) (hv:zab E0 S.By [a.av,tsl tb] [] (.tup [s.av,iv e]) []):zab E0 S.Ai [a.av,fsl frs,tsl tb] [] (.tup [(zwV a s e).1.av,iv (zwV a s e).2]) []:=by
 exact wk At.Ai [sc hv,sb he] kr
def zoy (tr:Rw->Bool × Int) (a:Ac) (s:Sch) (frs:List Fr) (tb:List Tb):Ch × Int :=
 cndD tr a s frs tb (tabC tb a.table) (tabC tb a.table).rows 0 ([])
theorem zlc (tr:Rw->Bool × Int) (a:Ac) (s:Sch) (frs:List Fr) (tb:List Tb) (hk1:(a.kind==1)=false) (hk3:(a.kind==3)=true) (h2:zac tb) (h3:zac frs) (hv:zab E0 S.By [a.av,tsl tb] [] (.tup [s.av,iv 0]) []) (hix:zab E0 S.Ag [.sl (tb.map Tb.cells),.fn S.Bs [.p 0 0]] [.box a.cells] (iv (idxF (fun t=>zan t a.table) tb 0)) [.box a.cells]) (hn:decide (idxF (fun t=>zan t a.table) tb 0 < 0)=false) (hl:zac (tabC tb a.table).rows) (ht:∀ r∈(tabC tb a.table).rows,Pure S.AD [xsl a.wh,fsl (zat frs s r.vals),tsl tb] (.tup [bv (tr r).1,iv (tr r).2])):zab E0 S.Ai [a.av,fsl frs,tsl tb] [] (.tup [(zoy tr a s frs tb).1.av,iv (zoy tr a s frs tb).2]) []:=by
 unfold zoy
 exact wkcN At.Ai [sc hv,sb Zf,sb hk1,sl [0] hix,se (zmG tb a.table (by first|assumption|omega|(simp;done)|(simp;omega)))] [1,2,3,6,8,12,55,56,57] 4 [(.ob 3 1 Ty.int,5)] kr (by have ih:=zuG tr a s frs tb (tabC tb a.table) h3 hk3 hl ht (tabC tb a.table).rows.length 0 ([]) Zs Zs;exact ih)
def zoz (tr:Rw->Bool × Int) (ag:Rw->List V × Int) (a:Ac) (s:Sch) (frs:List Fr) (tb:List Tb):Ch × Int :=
 cndU tr ag a s frs tb (tabC tb a.table) (tabC tb a.table).rows 0 ([])
theorem zlf (tr:Rw->Bool × Int) (ag:Rw->List V × Int) (a:Ac) (s:Sch) (frs:List Fr) (tb:List Tb) (hk1:(a.kind==1)=false) (hk3:(a.kind==3)=false) (h2:zac tb) (h3:zac frs) (hv:zab E0 S.By [a.av,tsl tb] [] (.tup [s.av,iv 0]) []) (hix:zab E0 S.Ag [.sl (tb.map Tb.cells),.fn S.Bs [.p 0 0]] [.box a.cells] (iv (idxF (fun t=>zan t a.table) tb 0)) [.box a.cells]) (hn:decide (idxF (fun t=>zan t a.table) tb 0 < 0)=false) (hl:zac (tabC tb a.table).rows) (hvl:∀ r∈(tabC tb a.table).rows,zac r.vals) (ht:∀ r∈(tabC tb a.table).rows,Pure S.AD [xsl a.wh,fsl (zat frs s r.vals),tsl tb] (.tup [bv (tr r).1,iv (tr r).2])) (hag:∀ r∈(tabC tb a.table).rows,Pure S.Bw [a.av,s.av,vsl r.vals,fsl (zat frs s r.vals),tsl tb] (.tup [vsl (ag r).1,iv (ag r).2])):zab E0 S.Ai [a.av,fsl frs,tsl tb] [] (.tup [(zoz tr ag a s frs tb).1.av,iv (zoz tr ag a s frs tb).2]) []:=by
 unfold zoz
 exact wkcN At.Ai [sc hv,sb Zf,sb hk1,sl [0] hix,se (zmG tb a.table (by first|assumption|omega|(simp;done)|(simp;omega)))] [1,2,3,6,8,12,55,56,57] 4 [(.ob 3 2 Ty.Pair,5)] kr (by have ih:=zuH tr ag a s frs tb (tabC tb a.table) h3 hk3 hl hvl ht hag (tabC tb a.table).rows.length 0 ([]) Zs Zs;exact ih)
theorem ztN {p:Prop} (h:p:=by first|assumption|omega|(simp only [bne_eq_false_iff_eq,zbK,List.length_map] at *;omega)|(simp;done)|exact ⟨by simp,rfl⟩):p:=h
theorem ztO {p:Prop} (h:p:=by have h:=‹((((zad x).length:Nat):Int) != _)=false›;simp at h;omega):p:=h
abbrev PEv (f:X->V × Int) (x:X) (frs:List Fr) (tb:List Tb):Prop:=Pure S.Aj [x.av,fsl frs,tsl tb] (.tup [(f x).1.av,iv (f x).2])
def zbk (f:X->V × Int):List X->List V->List V × Int
 | [],acc=>(acc,0)
 | x::r,acc=>bif (f x).2 != 0 then ([],(f x).2) else zbk f r (acc++[(f x).1])
def insL (f:X->V × Int) (n:Nat):List (List X)->List (List V)->List (List V) × Int
 | [],acc=>(acc,0)
 | y::r,acc=>bif y.length != n then ([],5) else bif (zbk f y []).2 != 0 then ([],(zbk f y []).2) else insL f n r (acc++[(zbk f y []).1])
theorem zq2 {f:X->V × Int} {l:List X} {i:Nat} {x:X} {acc:List V} (h:zbk f l []=zbk f (l.drop i) acc) (hx:l[i]?=some x) (h1:((f x).2 != 0)=false):zbk f l []=zbk f (l.drop (i+1)) (acc++[(f x).1]):=by
 obtain ⟨hi,e⟩:=List.getElem?_eq_some_iff.1 hx
 rw [h,List.drop_eq_getElem_cons hi,e]
 simp only [zbk,h1,cond_false]
theorem zt9 {f:X->V × Int} {l:List X} {i:Nat} {x:X} {acc:List V} (h:zbk f l []=zbk f (l.drop i) acc) (hx:l[i]?=some x) (h1:((f x).2 != 0)=true):(f x).2≠0/\zbk f l []=([],(f x).2):=by
 obtain ⟨hi,e⟩:=List.getElem?_eq_some_iff.1 hx
 rw [h,List.drop_eq_getElem_cons hi,e]
 exact ⟨by simpa using h1,by simp only [zbk,h1,cond_true]⟩
theorem zua {f:X->V × Int} {l:List X} {acc:List V} (h:zbk f l []=zbk f (l.drop l.length) acc):zbk f l []=(acc,0):=by
 rw [h,List.drop_length];rfl
theorem ztc {f:X->V × Int} {n:Nat} {l:List (List X)} {i:Nat} {x:List X} {acc:List (List V)} {v:List V} (h:insL f n l []=insL f n (l.drop i) acc) (hx:l[i]?=some x) (h1:x.length=n) (h2:zbk f x []=(v,0)):insL f n l []=insL f n (l.drop (i+1)) (acc++[v]):=by
 obtain ⟨hi,e⟩:=List.getElem?_eq_some_iff.1 hx
 rw [h,List.drop_eq_getElem_cons hi,e]
 have h8:(x.length != n)=false:=by simpa using h1
 simp only [insL,h8,h2,cond_false];rfl
theorem zmO {f:X->V × Int} {n:Nat} {l:List (List X)} {i:Nat} {x:List X} {acc:List (List V)} (h:insL f n l []=insL f n (l.drop i) acc) (hx:l[i]?=some x) (h1:x.length≠n):insL f n l []=([],5):=by
 obtain ⟨hi,e⟩:=List.getElem?_eq_some_iff.1 hx
 rw [h,List.drop_eq_getElem_cons hi,e]
 have h9:(x.length != n)=true:=by simpa using h1
 simp only [insL,h9,cond_true]
theorem zmN {f:X->V × Int} {n:Nat} {l:List (List X)} {i:Nat} {x:List X} {acc:List (List V)} {c:Int} {v:List V} (h:insL f n l []=insL f n (l.drop i) acc) (hx:l[i]?=some x) (h1:x.length=n) (h2:zbk f x []=(v,c)) (hc:c≠0):insL f n l []=([],c):=by
 obtain ⟨hi,e⟩:=List.getElem?_eq_some_iff.1 hx
 rw [h,List.drop_eq_getElem_cons hi,e]
 have h8:(x.length != n)=false:=by simpa using h1
 have h9:(c != 0)=true:=by simpa using hc
 simp only [insL,h8,h9,h2,cond_true,cond_false]
theorem zBz {f:X->V × Int} {n:Nat} {l:List (List X)} {acc:List (List V)} (h:insL f n l []=insL f n (l.drop l.length) acc):insL f n l []=(acc,0):=by
 rw [h,List.drop_length];rfl
noncomputable def zv9 (a:Ac) (s:Sch) (frs:List Fr) (tb:List Tb) (f:X->V × Int) (io:Nat) (y:List X) (out:List (List V)) (i:Nat) (row:List V):Cfg:=zag B.Ax 1 [(2,fsl frs),(3,tsl tb),(4,.p 0 0),(5,.p 1 0),(10,.own 2 out.length),(13,.own 3 row.length),(23,.sl (a.rows.map zaE)),(24,iv ((a.rows.map zaE).length:Nat)),(25,iv (io:Nat)),(35,xsl y),(36,iv ((zad y).length:Nat)),(37,iv (i:Nat))] [.box a.cells,.box s.cells,.row Ty.LValue (out.map vrow) false,.row Ty.Value (row.map V.cells) false]
theorem zie (a:Ac) (s:Sch) (frs:List Fr) (tb:List Tb) (f:X->V × Int) (io:Nat) (y:List X) (out:List (List V)) (hy:zac y) (hf:∀ x∈y,PEv f x frs tb) (i:Nat) (row:List V) (hi:i<=(y).length) (hI:row.length<=i/\zbk f y []=zbk f (y.drop i) row):(∃ (row':List V),(row'.length<=(y).length/\zbk f y []=zbk f (y.drop (y).length) row')/\(decide ((((y).length:Nat):Int) < (((zad y).length:Nat):Int))=false)/\∀ R,Good E0 B.Ax [] (zv9 a s frs tb f io y out (y).length row') R->Good E0 B.Ax [] (zv9 a s frs tb f io y out i row) R)\/(∃ (r:List (List V)) (c:Int),(r=[]/\c≠0/\zbk f y []=([],c))/\Good E0 B.Ax [] (zv9 a s frs tb f io y out i row) (Shut 0 fun rZ hZ=>rZ=(.tup [.sl (r.map vrow),iv c])/\hZ=[])):=by
 have hk:=hi;revert i row;refine zlp ((y).length) (fun i hlt ih row hi hI _=>?_)
 obtain ⟨x,hx,h0,hw⟩:=zlq (l:=y) ((zad y).length) hlt
 have hx1:=hf x (List.mem_of_getElem? hx);have hrl:row.length<=1000000000:=by have:=hI.1;simp only [zac] at hy;omega
 cases h1:(f x).snd != 0
 ·exact (ih (row++[(f x).fst]) Zo (by exact ⟨by have:=hI.1;simp;omega,zq2 hI.2 hx ‹_›⟩) Zo).elim (fun ⟨rowZ,qZ,xZ,gZ⟩=>.inl ⟨rowZ,qZ,xZ,fun R hg=>zaa (wkl [sb h0,se (zbt hx),sc hx1,sb h1,sqA (List.map V.cells row) [[iv (f x).fst.kind,iv (f x).fst.int,sv (f x).fst.text]] row.length 3 32,si hw] [2,3,4,5,10,13,23,24,25,35,36,37] 4 kr (zaw 13 3 (List.map V.cells row++[[iv (f x).fst.kind,iv (f x).fst.int,sv (f x).fst.text]]) (gZ R hg) (he:=Zcv4) (hm:=Zcv4)))⟩) (fun ⟨rY,cY,pZ,gZ⟩=>.inr ⟨rY,cY,pZ,zaa (wkl [sb h0,se (zbt hx),sc hx1,sb h1,sqA (List.map V.cells row) [[iv (f x).fst.kind,iv (f x).fst.int,sv (f x).fst.text]] row.length 3 32,si hw] [2,3,4,5,10,13,23,24,25,35,36,37] 4 kr (zaw 13 3 (List.map V.cells row++[[iv (f x).fst.kind,iv (f x).fst.int,sv (f x).fst.text]]) gZ (he:=Zcv4) (hm:=Zcv4)))⟩)
 ·exact .inr ⟨[],(f x).snd,(by exact ⟨rfl,zt9 hI.2 hx ‹_›⟩),zaa (wkr [sb h0,se (zbt hx),sc hx1,sb h1] kr)⟩
noncomputable def zwb (a:Ac) (s:Sch) (frs:List Fr) (tb:List Tb) (f:X->V × Int) (i:Nat) (out:List (List V)):Cfg:=zag B.Ax 0 [(2,fsl frs),(3,tsl tb),(4,.p 0 0),(5,.p 1 0),(10,.own 2 out.length),(23,.sl (a.rows.map zaE)),(24,iv ((a.rows.map zaE).length:Nat)),(25,iv (i:Nat))] [.box a.cells,.box s.cells,.row Ty.LValue (out.map vrow) false]
theorem zd0 (a:Ac) (s:Sch) (frs:List Fr) (tb:List Tb) (f:X->V × Int) (hs:zac s.cols) (hr:zac a.rows) (hf:∀ r∈a.rows,zac r/\∀ x∈r,PEv f x frs tb) (i:Nat) (out:List (List V)) (hi:i<=(a.rows).length) (hI:out.length<=i/\insL f s.cols.length a.rows []=insL f s.cols.length (a.rows.drop i) out):(∃ (out':List (List V)),(out'.length<=(a.rows).length/\insL f s.cols.length a.rows []=insL f s.cols.length (a.rows.drop (a.rows).length) out')/\(decide ((((a.rows).length:Nat):Int) < (((a.rows.map zaE).length:Nat):Int))=false)/\∀ R,Good E0 B.Ax [] (zwb a s frs tb f (a.rows).length out') R->Good E0 B.Ax [] (zwb a s frs tb f i out) R)\/(∃ (r:List (List V)) (c:Int),(r=[]/\c≠0/\insL f s.cols.length a.rows []=([],c))/\Good E0 B.Ax [] (zwb a s frs tb f i out) (Shut 0 fun rZ hZ=>rZ=(.tup [.sl (r.map vrow),iv c])/\hZ=[])):=by
 have hk:=hi;revert i out;refine zlp ((a.rows).length) (fun i hlt ih out hi hI _=>?_)
 obtain ⟨x,hx,h0,hw⟩:=zlq (l:=a.rows) ((a.rows.map zaE).length) hlt
 have hx1:=(hf x (List.mem_of_getElem? hx)).1;have hx2:=(hf x (List.mem_of_getElem? hx)).2;have hol:out.length<=1000000000:=by have:=hI.1;simp only [zac] at hr;omega
 cases h1:(↑(zad x).length:Int) != (↑(List.map Col.cells s.cols).length:Int)
 ·rcases zie a s frs tb f i x out ztN hx2 0 ([]) ztN ztN with ⟨row2,q2,q2_1,g2⟩|⟨r2_0,r2_1,p2_0,g2⟩
  ·exact (ih (out++[row2]) Zo (by exact ⟨by have:=hI.1;simp;omega,ztc hI.2 hx ztO (zua (And.right ‹_<=_/\zbk f x []=_›))⟩) Zo).elim (fun ⟨outZ,qZ,xZ,gZ⟩=>.inl ⟨outZ,qZ,xZ,fun R hg=>zaa (wklN [sb h0,se (zae zaE hx rfl),sb h1] [2,3,4,5,10,13,23,24,25,35,36,37] 3 [(.ot 13 Ty.Value,4)] kr (g2 _ (zaa (wkl [sb q2_1,sqx (row2.length=(List.map V.cells row2).length/\True),sqA (List.map vrow out) [[vsl row2]] out.length 1 24,si hw] [2,3,4,5,10,23,24,25] 3 kr (zaw 10 2 (List.map vrow out++[[vsl row2]]) (gZ R hg) (he:=Zcv4) (hm:=Zcv4))))))⟩) (fun ⟨rY,cY,pZ,gZ⟩=>.inr ⟨rY,cY,pZ,zaa (wklN [sb h0,se (zae zaE hx rfl),sb h1] [2,3,4,5,10,13,23,24,25,35,36,37] 3 [(.ot 13 Ty.Value,4)] kr (g2 _ (zaa (wkl [sb q2_1,sqx (row2.length=(List.map V.cells row2).length/\True),sqA (List.map vrow out) [[vsl row2]] out.length 1 24,si hw] [2,3,4,5,10,23,24,25] 3 kr (zaw 10 2 (List.map vrow out++[[vsl row2]]) gZ (he:=Zcv4) (hm:=Zcv4))))))⟩)
  ·exact .inr ⟨r2_0,r2_1,(by first|exact ⟨rfl,by omega,zmO hI.2 hx (by have h:=‹((((zad x).length:Nat):Int) != _)=true›;simp at h;omega)⟩|exact ⟨(And.left ‹_=[]/\_≠(0:Int)/\_›),(And.right ‹_=[]/\_≠(0:Int)/\_›).1,zmN hI.2 hx ztO (And.right ‹_=[]/\_≠(0:Int)/\_›).2 (And.right ‹_=[]/\_≠(0:Int)/\_›).1⟩),zaa (wklN [sb h0,se (zae zaE hx rfl),sb h1] [2,3,4,5,10,13,23,24,25,35,36,37] 3 [(.ot 13 Ty.Value,4)] kr g2)⟩
 ·exact .inr ⟨[],5,(by first|exact ⟨rfl,by omega,zmO hI.2 hx (by have h:=‹((((zad x).length:Nat):Int) != _)=true›;simp at h;omega)⟩|exact ⟨(And.left ‹_=[]/\_≠(0:Int)/\_›),(And.right ‹_=[]/\_≠(0:Int)/\_›).1,zmN hI.2 hx ztO (And.right ‹_=[]/\_≠(0:Int)/\_›).2 (And.right ‹_=[]/\_≠(0:Int)/\_›).1⟩),zaa (wkr [sb h0,se (zae zaE hx rfl),sb h1] kr)⟩
theorem zh7 {p:Prop} (h:p:=by first|assumption|(simp only [zac] at *;omega)|exact ⟨Nat.le_refl _,rfl⟩|exact inq0 ‹_› hr|(simp;done)):p:=h
theorem zh8 {p:Prop} (h:p:=by first|assumption|omega|(simp;done)|(simp;omega)):p:=h
theorem ztP {p:Prop} (h:p:=by first|exact zp1 ‹_› ‹_›|exact zs7 ‹_› ‹_›|exact zs6 ‹_›):p:=h
def wid (v:List V) (s:Sch):Bool :=
 (↑(List.map V.cells v).length:Int) != (↑(List.map Col.cells s.cols).length:Int)
theorem znb (v:List V) (s:Sch) :zab E0 S.B2 [vsl v,.p 0 0] [.box s.cells] (bv (wid v s)) [.box s.cells]:=by
 exact wk At.B2 [] kr
def okW (s:Sch) (v:List V):Bool:=!wid v s
noncomputable def zwh (l:List (List V)) (s:Sch) (i:Nat) :Cfg:=zag B.An 0 [(0,.sl (l.map vrow)),(1,.fn S.B2 [.p 0 0]),(7,iv ((l.map vrow).length:Nat)),(8,iv (i:Nat))] [.box s.cells]
theorem zef (l:List (List V)) (s:Sch) (hl:zac l) (i:Nat)  (hi:i<=(l).length) (hI:(l.take i).all (okW s)=true):(((l.take (l).length).all (okW s)=true)/\(decide ((((l).length:Nat):Int) < (((l.map vrow).length:Nat):Int))=false)/\∀ R,Good E0 B.An [.box s.cells] (zwh l s (l).length ) R->Good E0 B.An [.box s.cells] (zwh l s i ) R)\/(∃ (r:Int),(decide (0<=r)=true/\l.all (okW s)=false)/\Good E0 B.An [.box s.cells] (zwh l s i ) (Shut 1 fun rZ hZ=>rZ=(iv r)/\hZ=[.box s.cells])):=by
 have hk:=hi;revert i;refine zlp ((l).length) (fun i hlt ih hi hI _=>?_)
 obtain ⟨x,hx,h0,hw⟩:=zlq (l:=l) ((l.map vrow).length) hlt
 let p_1:List St:=[sb h0,se (zae vrow hx rfl),sl [0] (znb x s)]
 cases h1:wid x s
 ·exact zie2 (ih Zo (by exact zfU hI hx (by unfold okW;rw [show wid x s=false by assumption];rfl)) Zo) fun R gY=>zaa (wkl (p_1++[sb h1,si hw]) [0,1,7,8] 1 kr gY)
 ·exact .inr ⟨(i:Int),(by exact ⟨by simp,zhG hx (by unfold okW;rw [show wid x s=true by assumption];rfl)⟩),zaa (wkr (p_1++[sb h1]) kr)⟩
theorem zih (l:List (List V)) (s:Sch) (hl:zac l):∃ (r:Int),decide (0<=r)=!l.all (okW s)/\zab E0 S.An [.sl (l.map vrow),.fn S.B2 [.p 0 0]] [.box s.cells] (iv r) [.box s.cells]:=by
 rcases zef l s zh8 0 zh8 zh8 with ⟨q1,q1_1,g1⟩|⟨r1_0,p1_0,g1⟩
 ·exact ⟨-1,(by first|(have h:=(by assumption:List.all (List.take _ _) _=true);rw [List.take_length] at h;rw [h];rfl)|(have h:=(by assumption:_/\List.all _ _=false);rw [h.1,h.2];rfl)),wkc At.An [] [0,1,7,8] 1 kr (g1 _ (zaa (wkr [sb q1_1] kr)))⟩
 ·exact ⟨r1_0,(by first|(have h:=(by assumption:List.all (List.take _ _) _=true);rw [List.take_length] at h;rw [h];rfl)|(have h:=(by assumption:_/\List.all _ _=false);rw [h.1,h.2];rfl)),wkc At.An [] [0,1,7,8] 1 kr (g1)⟩
theorem c_cfW (l:List (List V)) (s:Sch) (hl:zac l):∃ (r:Bool),r=!l.all (okW s)/\zab E0 S.A2 [.sl (l.map vrow),.fn S.B2 [.p 0 0]] [.box s.cells] (bv r) [.box s.cells]:=by
 obtain ⟨r1,q1,c1⟩:=(zih l s zh8)
 exact ⟨decide ((0:Int)<=r1),‹_›,wk At.A2 [sl [0] c1] kr⟩
theorem zb8 (l:List (List V)) (s:Sch) (hl:zac l):zab E0 S.A2 [.sl (l.map vrow),.fn S.B2 [.p 0 0]] [.box s.cells] (bv (!l.all (okW s))) [.box s.cells]:=by
 obtain ⟨r,rfl,h⟩:=c_cfW l s hl
 exact h
abbrev PRw (g:Qy->List (List V) × Int) (q:Qy) (frs:List Fr) (tb:List Tb):Prop:=Pure S.Bz [q.av,fsl frs,tsl tb] (.tup [.sl ((g q).1.map vrow),iv (g q).2])
def insQ (g:Qy->List (List V) × Int) (s:Sch):List Qy->List (List V)->List (List V) × Int
 | [],acc=>(acc,0)
 | q::r,acc=>bif (g q).2 != 0 then ([],(g q).2) else bif !(g q).1.all (okW s) then ([],5) else insQ g s r (acc++(g q).1)
theorem zqE {g:Qy->List (List V) × Int} {s:Sch} {l:List Qy} {i:Nat} {x:Qy} {acc a0:List (List V)} (h:insQ g s l a0=insQ g s (l.drop i) acc) (hx:l[i]?=some x) (h1:((g x).2 != 0)=false) (h2:(!(g x).1.all (okW s))=false):insQ g s l a0=insQ g s (l.drop (i+1)) (acc++(g x).1):=by
 obtain ⟨hi,e⟩:=List.getElem?_eq_some_iff.1 hx
 rw [h,List.drop_eq_getElem_cons hi,e]
 simp only [insQ,h1,h2,cond_false]
theorem zks {g:Qy->List (List V) × Int} {s:Sch} {l:List Qy} {i:Nat} {x:Qy} {acc a0:List (List V)} (h:insQ g s l a0=insQ g s (l.drop i) acc) (hx:l[i]?=some x) (h1:((g x).2 != 0)=true):(g x).2≠0/\insQ g s l a0=([],(g x).2):=by
 obtain ⟨hi,e⟩:=List.getElem?_eq_some_iff.1 hx
 rw [h,List.drop_eq_getElem_cons hi,e]
 exact ⟨by simpa using h1,by simp only [insQ,h1,cond_true]⟩
theorem znN {g:Qy->List (List V) × Int} {s:Sch} {l:List Qy} {i:Nat} {x:Qy} {acc a0:List (List V)} (h:insQ g s l a0=insQ g s (l.drop i) acc) (hx:l[i]?=some x) (h1:((g x).2 != 0)=false) (h2:(!(g x).1.all (okW s))=true):(5:Int)≠0/\insQ g s l a0=([],5):=by
 obtain ⟨hi,e⟩:=List.getElem?_eq_some_iff.1 hx
 rw [h,List.drop_eq_getElem_cons hi,e]
 exact ⟨by omega,by simp only [insQ,h1,h2,cond_true,cond_false]⟩
theorem zAq {g:Qy->List (List V) × Int} {s:Sch} {l:List Qy} {acc a0:List (List V)} (h:insQ g s l a0=insQ g s (l.drop l.length) acc):insQ g s l a0=(acc,0):=by
 rw [h,List.drop_length];rfl
def bndQ (i:Nat):Nat:=1000000+100000 * i
theorem zqo {i k m:Nat} (h:k<=bndQ i) (h2:m<=100000):k+m<=bndQ (i+1):=by unfold bndQ at *;omega
theorem zvj {i k m:Nat} (h:k<=bndQ i) (h2:m<=100000) (hi:i<=1000):k+m<=1000000000:=by unfold bndQ at *;omega
theorem bndQ_0 {k m:Nat} (h:k<=m) (h2:m<=1000000):k<=bndQ 0:=by unfold bndQ;omega
abbrev insA (f:X->V × Int) (s:Sch) (a:Ac):List (List V):=(insL f s.cols.length a.rows []).1
noncomputable def zwa (a:Ac) (s:Sch) (frs:List Fr) (tb:List Tb) (f:X->V × Int) (g:Qy->List (List V) × Int) (i:Nat) (out:List (List V)):Cfg:=zag B.Ax 2 [(2,fsl frs),(3,tsl tb),(5,.p 1 0),(10,.own 2 out.length),(62,.sl (zah a.query)),(63,iv ((zah a.query).length:Nat)),(64,iv (i:Nat))] [.box a.cells,.box s.cells,.row Ty.LValue (out.map vrow) false]
theorem zdZ (a:Ac) (s:Sch) (frs:List Fr) (tb:List Tb) (f:X->V × Int) (g:Qy->List (List V) × Int) (hf:∀ r∈a.rows,zac r/\∀ x∈r,PEv f x frs tb) (hq:a.query.length<=1000) (hg:∀ q∈a.query,(g q).1.length<=100000/\PRw g q frs tb) (i:Nat) (out:List (List V)) (hi:i<=(a.query).length) (hI:out.length<=bndQ i/\insQ g s a.query (insA f s a)=insQ g s (a.query.drop i) out):(∃ (out':List (List V)),(out'.length<=bndQ (a.query).length/\insQ g s a.query (insA f s a)=insQ g s (a.query.drop (a.query).length) out')/\(decide ((((a.query).length:Nat):Int) < (((zah a.query).length:Nat):Int))=false)/\∀ R,Good E0 B.Ax [] (zwa a s frs tb f g (a.query).length out') R->Good E0 B.Ax [] (zwa a s frs tb f g i out) R)\/(∃ (r:List (List V)) (c:Int),(r=[]/\c≠0/\insQ g s a.query (insA f s a)=([],c))/\Good E0 B.Ax [] (zwa a s frs tb f g i out) (Shut 0 fun rZ hZ=>rZ=(.tup [.sl (r.map vrow),iv c])/\hZ=[])):=by
 have hk:=hi;revert i out;refine zlp ((a.query).length) (fun i hlt ih out hi hI _=>?_)
 obtain ⟨x,hx,h0,hw⟩:=zlq (l:=a.query) ((zah a.query).length) hlt
 have hx0:=(hg x (List.mem_of_getElem? hx)).1;have hx1:zac (g x).1:=(by simp only [zac];omega);have hx2:=(hg x (List.mem_of_getElem? hx)).2;have hil:i < a.query.length:=(List.getElem?_eq_some_iff.1 hx).1;have hol:out.length+(g x).1.length<=1000000000:=zvj hI.1 hx0 Zo
 cases h1:(g x).snd != 0
 ·cases h2:!(g x).fst.all (okW s)
  ·exact (ih (out++(g x).fst) Zo (by exact ⟨by rw [List.length_append];exact zqo hI.1 (hg x (List.mem_of_getElem? hx)).1,zqE hI.2 hx ‹_› ‹_›⟩) Zo).elim (fun ⟨outZ,qZ,xZ,gZ⟩=>.inl ⟨outZ,qZ,xZ,fun R hg=>zaa (wkl [sb h0,se (zaB hx),sc hx2,sb h1,sl [1] (zb8 ((g x).fst) s zh8),sb h2,sqx (AllLen (List.map vrow (g x).fst) 1/\out.length=(List.map vrow out).length/\(((List.map vrow out).length+(List.map vrow (g x).fst).length) * 24).le 140737488355328),si hw] [2,3,5,10,62,63,64] 3 kr (zaw 10 2 (List.map vrow out++List.map vrow (g x).fst) (gZ R hg) (he:=Zcv4) (hm:=Zcv4)))⟩) (fun ⟨rY,cY,pZ,gZ⟩=>.inr ⟨rY,cY,pZ,zaa (wkl [sb h0,se (zaB hx),sc hx2,sb h1,sl [1] (zb8 ((g x).fst) s zh8),sb h2,sqx (AllLen (List.map vrow (g x).fst) 1/\out.length=(List.map vrow out).length/\(((List.map vrow out).length+(List.map vrow (g x).fst).length) * 24).le 140737488355328),si hw] [2,3,5,10,62,63,64] 3 kr (zaw 10 2 (List.map vrow out++List.map vrow (g x).fst) gZ (he:=Zcv4) (hm:=Zcv4)))⟩)
  ·exact .inr ⟨[],5,(by first|exact ⟨rfl,zks hI.2 hx ‹_›⟩|exact ⟨rfl,znN hI.2 hx ‹_› ‹_›⟩),zaa (wkr [sb h0,se (zaB hx),sc hx2,sb h1,sl [1] (zb8 ((g x).fst) s zh8),sb h2] kr)⟩
 ·exact .inr ⟨[],(g x).snd,(by first|exact ⟨rfl,zks hI.2 hx ‹_›⟩|exact ⟨rfl,znN hI.2 hx ‹_› ‹_›⟩),zaa (wkr [sb h0,se (zaB hx),sc hx2,sb h1] kr)⟩
def insB (f:X->V × Int) (g:Qy->List (List V) × Int) (s:Sch) (a:Ac):List (List V) × Int :=
 bif (insL f s.cols.length a.rows []).2 != 0 then ([],(insL f s.cols.length a.rows []).2) else insQ g s a.query (insL f s.cols.length a.rows []).1
section
variable {f : X -> V × Int} {g : Qy -> List (List V) × Int} {s : Sch} {a : Ac} {out1 out2 r : List (List V)} {c : Int}
theorem zp0 (q1:out1.length<=a.rows.length/\insL f s.cols.length a.rows []=insL f s.cols.length (a.rows.drop a.rows.length) out1):insA f s a=out1/\(insL f s.cols.length a.rows []).2=0:=by
 have h:=zBz q1.2
 unfold insA;rw [h];exact ⟨rfl,rfl⟩
theorem inq0 (q1:out1.length<=a.rows.length/\insL f s.cols.length a.rows []=insL f s.cols.length (a.rows.drop a.rows.length) out1) (hr:a.rows.length<=1000000):out1.length<=bndQ 0/\insQ g s a.query (insA f s a)=insQ g s (a.query.drop 0) out1 :=
 ⟨bndQ_0 q1.1 hr,by rw [(zp0 q1).1];rfl⟩
theorem zp1 (q1:out1.length<=a.rows.length/\insL f s.cols.length a.rows []=insL f s.cols.length (a.rows.drop a.rows.length) out1) (q2:out2.length<=bndQ a.query.length/\insQ g s a.query (insA f s a)=insQ g s (a.query.drop a.query.length) out2):(out2,0)=insB f g s a:=by
 have h:=zAq q2.2
 unfold insA at h
 unfold insB;rw [(zp0 q1).2,h];rfl
theorem zs7 (q1:out1.length<=a.rows.length/\insL f s.cols.length a.rows []=insL f s.cols.length (a.rows.drop a.rows.length) out1) (h:r=[]/\c≠0/\insQ g s a.query (insA f s a)=([],c)):(r,c)=insB f g s a:=by
 obtain ⟨h1,h2,h3⟩:=h
 unfold insA at h3
 unfold insB;rw [(zp0 q1).2,h3,h1];rfl
theorem zs6 (h:r=[]/\c≠0/\insL f s.cols.length a.rows []=([],c)):(r,c)=insB f g s a:=by
 obtain ⟨h1,h2,h3⟩:=h
 have h4:(c != 0)=true:=by simpa using h2
 unfold insB;rw [h3,h1];simp only [h4,cond_true]
end
theorem zpP (a:Ac) (s:Sch) (frs:List Fr) (tb:List Tb) (f:X->V × Int) (g:Qy->List (List V) × Int) (hs:zac s.cols) (hr:a.rows.length<=1000000) (hf:∀ r∈a.rows,zac r/\∀ x∈r,PEv f x frs tb) (hq:a.query.length<=1000) (hg:∀ q∈a.query,(g q).1.length<=100000/\PRw g q frs tb):∃ (r:List (List V)) (c:Int),(r,c)=insB f g s a/\zab E0 S.Ax [a.av,s.av,fsl frs,tsl tb] [] (.tup [.sl (r.map vrow),iv c]) []:=by
 rcases zd0 a s frs tb f zh7 zh7 hf 0 ([]) zh7 zh7 with ⟨out1,q1,q1_1,g1⟩|⟨r1_0,r1_1,p1_0,g1⟩
 ·rcases zdZ a s frs tb f g hf zh7 hg 0 out1 zh7 zh7 with ⟨out2,q2,q2_1,g2⟩|⟨r2_0,r2_1,p2_0,g2⟩
  ·exact ⟨out2,0,ztP,wkcN At.Ax [] [2,3,4,5,10,23,24,25] 2 [(.ot 10 Ty.LValue,3)] kr (g1 _ (zaa (wkl [sb q1_1] [2,3,5,10,62,63,64] 3 kr (g2 _ (zaa (wkr [sqx (out2.length=(List.map vrow out2).length/\True/\True),sb q2_1] kr))))))⟩
  ·exact ⟨r2_0,r2_1,ztP,wkcN At.Ax [] [2,3,4,5,10,23,24,25] 2 [(.ot 10 Ty.LValue,3)] kr (g1 _ (zaa (wkl [sb q1_1] [2,3,5,10,62,63,64] 3 kr g2)))⟩
 ·exact ⟨r1_0,r1_1,ztP,wkcN At.Ax [] [2,3,4,5,10,23,24,25] 2 [(.ot 10 Ty.LValue,3)] kr (g1)⟩
theorem zp5 (a:Ac) (s:Sch) (frs:List Fr) (tb:List Tb) (f:X->V × Int) (g:Qy->List (List V) × Int) (hs:zac s.cols) (hr:a.rows.length<=1000000) (hf:∀ r∈a.rows,zac r/\∀ x∈r,PEv f x frs tb) (hq:a.query.length<=1000) (hg:∀ q∈a.query,(g q).1.length<=100000/\PRw g q frs tb):zab E0 S.Ax [a.av,s.av,fsl frs,tsl tb] [] (.tup [.sl ((insB f g s a).1.map vrow),iv (insB f g s a).2]) []:=by
 obtain ⟨r,c,h,h2⟩:=zpP a s frs tb f g hs hr hf hq hg
 rw [← h];exact h2
def zmA (ib:List (List V) × Int) (a:Ac):Ch × Int :=
 bif ib.snd != 0 then
  (Ch.mk [] [] [],ib.snd)
 else
  (Ch.mk ib.fst [] [],0)
theorem zle (ib:List (List V) × Int) (a:Ac) (s:Sch) (frs:List Fr) (tb:List Tb) (hk1:(a.kind==1)=true) (hv:zab E0 S.By [a.av,tsl tb] [] (.tup [s.av,iv 0]) []) (hi:Pure S.Ax [a.av,s.av,fsl frs,tsl tb] (.tup [.sl (ib.1.map vrow),iv ib.2])):zab E0 S.Ai [a.av,fsl frs,tsl tb] [] (.tup [(zmA ib a).1.av,iv (zmA ib a).2]) []:=by
 unfold zmA
 let p_1:List St:=[sc hv,sb Zf,sb hk1,sc hi]
 cases h1:ib.snd != 0
 ·exact wk At.Ai (p_1++[sb h1]) kr
 ·exact wk At.Ai (p_1++[sb h1]) kr
theorem zmf {p:Prop} (h:p:=by first|exact (zq1 s ‹_›).symm|exact (zpG s ‹_›).symm|exact (zzG ‹_› ‹_›).symm|exact zzH ‹_› ‹_› ‹_› ‹_› ‹_›|(have h:=(by assumption:_/\List.all _ okC=false);rw [zq0 h.2];exact h.1)):p:=h
theorem ztQ {p:Prop} (h:p:=by exact zfU hI (zmz ‹_›) (by first|exact zBJ ‹_›|exact zBI ‹_›|exact zBK ‹_›)):p:=h
theorem zmz {s:Str} {i:Nat} {c:UInt8} (h:ByteAt s ((i:Nat):Int) ((c.toNat:Nat):Int)):s.data.toList[i]?=some c:=by
 obtain ⟨_,h1⟩:=h
 rw [Option.map_eq_some_iff] at h1
 obtain ⟨b,hb,e⟩:=h1
 have hc:b=c:=UInt8.toNat_inj.1 Zo
 subst hc
 have hb2:s[i]?=some b:=by simpa using hb
 by_cases h:i < s.size
 ·rw [getElem?_pos s i h,Option.some.injEq] at hb2
  have h2:i < s.data.size:=h
  rw [Array.getElem?_toList,Array.getElem?_eq_getElem h2]
  exact congrArg some hb2
 ·rw [getElem?_neg s i h] at hb2;simp at hb2
def letR (c:Int):Bool:=bif decide (97<=c) then decide (c<=122) else false
def digR (c:Int):Bool:=bif decide (48<=c) then decide (c<=57) else false
theorem zrd (c:Int) :∃ (r:Bool),r=letR c/\zab E0 S.C4 [.v (.int .u8 c)] [] (bv r) []:=by
 cases h1:decide (97<=c)
 ·exact ⟨false,(by (simp only [letR,cond_true,cond_false, *])),wk At.C4 [sb h1] kr⟩
 ·exact ⟨decide (c<=(122:Int)),(by (simp only [letR,cond_true,cond_false, *])),wk At.C4 [sg h1] kr⟩
theorem zgO (c:Int):zab E0 S.C4 [.v (.int .u8 c)] [] (bv (letR c)) []:=by
 obtain ⟨r,rfl,h⟩:=zrd c
 exact h
theorem zsD (c:Int) :∃ (r:Bool),r=digR c/\zab E0 S.Db [.v (.int .u8 c)] [] (bv r) []:=by
 cases h1:decide (48<=c)
 ·exact ⟨false,(by (simp only [digR,cond_true,cond_false, *])),wk At.Db [sb h1] kr⟩
 ·exact ⟨decide (c<=(57:Int)),(by (simp only [digR,cond_true,cond_false, *])),wk At.Db [sg h1] kr⟩
theorem ztj (c:Int):zab E0 S.Db [.v (.int .u8 c)] [] (bv (digR c)) []:=by
 obtain ⟨r,rfl,h⟩:=zsD c
 exact h
theorem zBJ {c:UInt8} (h:(!letR ((c.toNat:Nat):Int))=false):okC c=true:=by
 simp only [letR,okC] at *;cases h1:decide (97<=((c.toNat:Nat):Int)) <;> simp_all
theorem zBI {c:UInt8} (h:(!digR ((c.toNat:Nat):Int))=false):okC c=true:=by
 simp only [digR,okC] at *;cases h1:decide (48<=((c.toNat:Nat):Int)) <;> simp_all
theorem zBK {c:UInt8} (h:(((c.toNat:Nat):Int) != 95)=false):okC c=true:=by
 simp only [okC];simp at h;simp [h]
theorem okC_no {c:UInt8} (h1:(!letR ((c.toNat:Nat):Int))=true) (h2:(!digR ((c.toNat:Nat):Int))=true) (h3:(((c.toNat:Nat):Int) != 95)=true):okC c=false:=by
 simp only [letR,digR,okC] at *
 cases h4:decide (97<=((c.toNat:Nat):Int)) <;> cases h5:decide (48<=((c.toNat:Nat):Int)) <;> simp_all
noncomputable def zwt (s:Str) (i:Nat) :Cfg:=zag B.Au 0 [(0,sv s),(3,iv (i:Nat))] []
theorem zgT (s:Str) (hs:decide ((12:Int) < ((s.size:Nat):Int))=false) (i:Nat)  (hi:i<=(s.size)) (hI:(s.data.toList.take i).all okC=true):(((s.data.toList.take s.size).all okC=true)/\(decide ((((s.size):Nat):Int) < (((s.size):Nat):Int))=false)/\∀ R,Good E0 B.Au [] (zwt s s.size ) R->Good E0 B.Au [] (zwt s i ) R)\/(∃ (r:Bool),(r=false/\s.data.toList.all okC=false)/\Good E0 B.Au [] (zwt s i ) (Shut 0 fun rZ hZ=>rZ=(bv r)/\hZ=[])):=by
 have hk:=hi;revert i;refine zlp s.size (fun i hlt ih hi hI _=>?_)
 have h0:decide (((i:Nat):Int) < (((s.size):Nat):Int))=true:=by simp;omega
 have hw:IntKind.i64.wrap (((i:Nat):Int)+1)=((i+1:Nat):Int):=zaL i (by (simp only [decide_eq_false_iff_not] at hs;omega))
 obtain ⟨c1,b1⟩:=zol (s:=s) (i:=(i:Int)) (by first|omega|(simp only [decide_eq_false_iff_not,decide_eq_true_eq] at *;omega))
 let p_1:List St:=[sb h0,sy b1,sc (zgO ((c1.toNat:Int)))]
 let p_2:List St:=[sb h0,sy b1,sc (zgO ((c1.toNat:Int)))]
 cases h2:!letR (c1.toNat:Int)
 ·exact zie2 (ih Zo ztQ Zo) fun R gY=>zaa (wkl (p_1++[sb h2,si hw]) [0,3] 0 kr gY)
 ·let p_3:List St:=p_1++[sg h2,sy b1,sc (ztj ((c1.toNat:Int)))]
  cases h3:!digR (c1.toNat:Int)
  ·exact zie2 (ih Zo ztQ Zo) fun R gY=>zaa (wkl (p_3++[sb h3,si hw]) [0,3] 0 kr gY)
  ·cases h4:(c1.toNat:Int) != 95
   ·exact zie2 (ih Zo ztQ Zo) fun R gY=>zaa (wkl (p_3++[sg h3,sy b1,sb h4,si hw]) [0,3] 0 kr gY)
   ·exact .inr ⟨false,(by exact ⟨rfl,zhG (zmz ‹_›) (okC_no ‹_› ‹_› ‹_›)⟩),zaa (wkr (p_3++[sg h3,sy b1,sb h4]) kr)⟩
theorem zzG {s:Str} {c:UInt8} (h:ByteAt s 0 ((c.toNat:Nat):Int)) (h1:(!letR ((c.toNat:Nat):Int))=true):zaD s=false:=by
 have e:=zoj h
 cases hv:zaD s
 ·rfl
 ·exfalso
  simp only [zaD,Bool.and_eq_true,decide_eq_true_eq] at hv
  obtain ⟨⟨⟨a1,a2⟩,a3⟩,a4⟩:=hv
  rw [e] at a3
  have a5:okC c=true:=by
   rw [List.all_eq_true] at a4
   apply a4
   rw [← e]
   have:s.data.toList.getD 0 0=s.data.toList[0]'Zo:=by rw [List.getD_eq_getElem?_getD,List.getElem?_eq_getElem Zo];rfl
   rw [this];exact List.getElem_mem _
  simp only [letR,okC] at *
  cases h4:decide (97<=((c.toNat:Nat):Int)) <;> simp_all <;> omega
theorem zzH {s:Str} {c:UInt8} (h1:decide (((s.size:Nat):Int) < 1)=false) (h2:decide ((12:Int) < ((s.size:Nat):Int))=false) (h:ByteAt s 0 ((c.toNat:Nat):Int)) (h3:(!letR ((c.toNat:Nat):Int))=false) (h4:(s.data.toList.take s.size).all okC=true):true=zaD s:=by
 have e1:=zoj h
 rw [zib] at h1 h2 h4
 rw [List.take_length] at h4
 have h5:97<=c.toNat:=by
  simp only [letR] at h3
  cases h6:decide (97<=((c.toNat:Nat):Int))
  ·rw [h6] at h3;simp at h3
  ·simp only [decide_eq_true_eq] at h6;omega
 simp only [decide_eq_false_iff_not] at h1 h2
 have a1:decide (1<=s.data.toList.length)=true:=by simp only [decide_eq_true_eq];omega
 have a2:decide (s.data.toList.length<=12)=true:=by simp only [decide_eq_true_eq];omega
 have a3:decide (97<=(s.data.toList.getD 0 0).toNat)=true:=by simp only [decide_eq_true_eq];rw [e1];exact h5
 simp only [zaD,a1,a2,a3,h4,Bool.and_true]
theorem znF (s:Str) :∃ (r:Bool),r=zaD s/\zab E0 S.Au [sv s] [] (bv r) []:=by
 cases h1:decide ((↑(ByteArray.size s):Int) < 1)
 ·cases h2:decide (12 < (↑(ByteArray.size s):Int))
  ·obtain ⟨c3,b3⟩:=zol (s:=s) (i:=(0:Int)) (by first|omega|(simp only [decide_eq_false_iff_not,decide_eq_true_eq] at *;omega))
   let p_1:List St:=[sg h1,sg h2,sy b3,sc (zgO ((c3.toNat:Int)))]
   cases h4:!letR (c3.toNat:Int)
   ·rcases zgT s (by first|assumption|omega|(simp;done)|(simp;omega)) 0 (by first|assumption|omega|(simp;done)|(simp;omega)) (by first|assumption|omega|(simp;done)|(simp;omega)) with ⟨q5,q5_1,g5⟩|⟨r5_0,p5_0,g5⟩
    ·exact ⟨true,zmf,wkc At.Au (p_1++[sb h4]) [0,3] 0 kr (g5 _ (zaa (wkr [sb q5_1] kr)))⟩
    ·exact ⟨r5_0,zmf,wkc At.Au (p_1++[sb h4]) [0,3] 0 kr (g5)⟩
   ·exact ⟨false,zmf,wk At.Au (p_1++[sb h4]) kr⟩
  ·exact ⟨false,zmf,wk At.Au [sg h1,sb h2] kr⟩
 ·exact ⟨false,zmf,wk At.Au [sb h1] kr⟩
theorem zcj (s:Str):zab E0 S.Au [sv s] [] (bv (zaD s)) []:=by
 obtain ⟨r,rfl,h⟩:=znF s
 exact h
theorem zdU {p:Prop} (h:p:=by first|exact (show Int from n)|assumption|(simp only [zv0];omega)|(simp only [Pos];omega)|omega|exact ⟨by omega,rfl⟩|exact zAr (And.right ‹_/\keyC _=_›)|exact ⟨by simp;omega,RowsV.nil (by rw [ztw ‹_›];omega),by rw [ztw ‹_›];omega⟩):p:=h
theorem zdv {p:Prop} (h:p:=by first|assumption|trivial|omega|exact (fun _ r hr=>absurd hr Zs)|(simp;done)):p:=h
theorem ztR {p:Prop} (h:p:=by first|exact zdo.step hI hx (fun h=>by cases h)|exact zdo.step hI hx (zsY ‹_›)|exact zdo.step hI hx (fresh3 ‹_›)):p:=h
theorem zpi {p:Prop} (h:p:=by first|assumption|(simp;done)|exact ⟨rfl,fun _ h=>absurd h Zs⟩):p:=h
theorem zpj {p:Prop} (h:p:=by first|assumption|(have hk':key < (s.cols.length:Int):=hko;omega)):p:=h
theorem zpk {p:Prop} (h:p:=by first|assumption|omega|(simp;done)|(simp;omega)):p:=h
def keyL:List Col->Nat->Int->Int
 | [],_,k=>k
 | c::r,i,k=>keyL r (i+1) (bif c.key then (i:Int) else k)
abbrev keyC (s:Sch):Int:=keyL s.cols 0 (-1)
theorem zqG {l:List Col} {i:Nat} {k:Int} {x:Col} {z:Int} (h:z=keyL (l.drop i) i k) (hx:l[i]?=some x):z=keyL (l.drop (i+1)) (i+1) (bif x.key then (i:Int) else k):=by
 obtain ⟨hi,e⟩:=List.getElem?_eq_some_iff.1 hx
 rw [h,List.drop_eq_getElem_cons hi,e];rfl
theorem zoY {l:List Col} {i:Nat} {k:Int} {x:Col} {z:Int} (h:z=keyL (l.drop i) i k) (hx:l[i]?=some x) (hk:x.key=true):z=keyL (l.drop (i+1)) (i+1) (i:Int):=by
 have:=zqG h hx;rwa [hk] at this
theorem zoX {l:List Col} {i:Nat} {k:Int} {x:Col} {z:Int} (h:z=keyL (l.drop i) i k) (hx:l[i]?=some x) (hk:x.key=false):z=keyL (l.drop (i+1)) (i+1) k:=by
 have:=zqG h hx;rwa [hk] at this
theorem zAr {l:List Col} {k:Int} {z:Int} (h:z=keyL (l.drop l.length) l.length k):k=z:=by
 rw [List.drop_length] at h;exact h.symm
structure RowsV (s:Sch) (next:Int) (rows:List Rw):Prop where
 fit:zhE s rows
 asc:rows.Pairwise fun a b=>a.id < b.id
 ids:∀ r∈rows,1<=r.id/\r.id < next
 keys:0<=keyC s->rows.Pairwise fun a b=>zao a.vals (keyC s)≠zao b.vals (keyC s)
 pos:1<=next
theorem RowsV.nil {s:Sch} {next:Int} (h:1<=next):RowsV s next []:=⟨fun _ h=>(by cases h),.nil,fun _ h=>(by cases h),fun _=>.nil,h⟩
theorem RowsV.more {s:Sch} {next m:Int} {rows:List Rw} (h:RowsV s next rows) (hm:next<=m):RowsV s m rows:=⟨h.fit,h.asc,fun r hr=>⟨(h.ids r hr).1,by have:=(h.ids r hr).2;omega⟩,h.keys,by have:=h.pos;omega⟩
theorem RowsV.push {s:Sch} {next m:Int} {rows:List Rw} {v:List V} (h:RowsV s next rows) (hv:zde s.cols v) (hf:∀ r∈rows,keyC s < 0\/zao r.vals (keyC s)≠zao v (keyC s)) (hm:next < m):RowsV s m (rows++[⟨next,v⟩]):=by
 refine ⟨h.fit.push hv,?_,?_,?_,by have:=h.pos;omega⟩
 ·rw [List.pairwise_append];exact ⟨h.asc,by simp,fun a ha b hb=>by simp only [List.mem_singleton] at hb;subst hb;exact (h.ids a ha).2⟩
 ·intro r hr
  rcases List.mem_append.1 hr with hr|hr
  ·have:=h.ids r hr;omega
  ·simp only [List.mem_singleton] at hr;subst hr;have:=h.pos;simp only;omega
 ·intro hk
  rw [List.pairwise_append];exact ⟨h.keys hk,by simp,fun a ha b hb=>by simp only [List.mem_singleton] at hb;subst hb;exact (hf a ha).resolve_left Zo⟩
theorem veq_of {a b:V} (h:(!(a.kind==b.kind&&(a.int==b.int&&(a.text==b.text&&true))))=true):a≠b:=by
 rintro rfl;simp at h
def zdo (key:Int) (rv:List V) (rows:List Rw):Prop:=∀ r∈rows,key < 0\/zao r.vals key≠zao rv key
theorem zdo.step {key:Int} {rv:List V} {rows:List Rw} {i:Nat} {x:Rw} {f g:Bool} (h:f=true->zdo key rv (rows.take i)) (hx:rows[i]?=some x) (hg:g=true->f=true/\(key < 0\/zao x.vals key≠zao rv key)):g=true->zdo key rv (rows.take (i+1)):=by
 intro hg1 r hr
 rw [List.take_add_one,hx] at hr
 rcases List.mem_append.1 hr with hr|hr
 ·exact h (hg hg1).1 r hr
 ·simp at hr;subst hr;exact (hg hg1).2
theorem zsY {key:Int} {rv xv:List V} {f:Bool} (h2:decide (key < 0)=false) (hg:(bif f then bif decide (key < 0) then true else !((zao xv key).kind==(zao rv key).kind&&((zao xv key).int==(zao rv key).int&&((zao xv key).text==(zao rv key).text&&true))) else false)=true):f=true/\(key < 0\/zao xv key≠zao rv key):=by
 cases f
 ·simp at hg
 ·refine ⟨rfl,.inr (veq_of ?_)⟩;rw [h2] at hg;simpa using hg
theorem fresh3 {key:Int} {P:Prop} {f:Bool} (h2:decide (key < 0)=true) (hg:(bif f then true else false)=true):f=true/\(key < 0\/P):=by
 cases f
 ·simp at hg
 ·exact ⟨rfl,.inl (by simpa using h2)⟩
theorem zvC {n:Int} {a b:Nat} (ha:(a:Int) < 2) (hb:(b:Int) < 2) (hn:1<=n/\n<=1000000):n < IntKind.i64.wrap (n+IntKind.i64.wrap (1+IntKind.i64.wrap ((a:Int) * (b:Int))))/\IntKind.i64.wrap (n+IntKind.i64.wrap (1+IntKind.i64.wrap ((a:Int) * (b:Int))))<=n+2:=by
 have e:(a:Int) * (b:Int)=0\/(a:Int) * (b:Int)=1:=by
  have:a=0\/a=1:=by omega
  have:b=0\/b=1:=by omega
  rcases ‹a=0\/a=1› with rfl|rfl <;> rcases ‹b=0\/b=1› with rfl|rfl <;> simp
 rcases e with e|e <;> rw [e] <;> simp only [IntKind.wrap_i64] <;> omega
noncomputable def L_tvK (t0:Tp) (s:Sch) (n:Int) (u:Tp) (next:Int) (i:Nat) (key:Int):Cfg:=zag B.AH 0 [(0,.p 0 0),(2,iv n),(4,.p 1 0),(6,.p 2 0),(7,.p 3 0),(8,iv key),(22,.sl (s.cols.map Col.cells)),(23,iv ((s.cols.map Col.cells).length:Nat)),(24,iv (i:Nat))] [.box u.cells,.box s.cells,.box zT,.box [sv s.name,.sl (s.cols.map Col.cells),iv next,.nl]]
theorem zfJ (t0:Tp) (s:Sch) (n:Int) (u:Tp) (next:Int) (hs:Few s.cols) (i:Nat) (key:Int) (hi:i<=(s.cols).length) (hI:key < (i:Int)/\keyC s=keyL (s.cols.drop i) i key):∃ (key':Int),(key' < ((s.cols).length:Int)/\keyC s=keyL (s.cols.drop (s.cols).length) (s.cols).length key')/\(decide ((((s.cols).length:Nat):Int) < (((s.cols.map Col.cells).length:Nat):Int))=false)/\∀ R,Good E0 B.AH [.box t0.cells] (L_tvK t0 s n u next (s.cols).length key') R->Good E0 B.AH [.box t0.cells] (L_tvK t0 s n u next i key) R:=by
 have hk:=hi;revert i key;refine zlp ((s.cols).length) (fun i hlt ih key hi hI _=>?_)
 obtain ⟨x,hx,h0,hw⟩:=zlq (l:=s.cols) ((s.cols.map Col.cells).length) hlt
 let p_1:List St:=[sb h0,se (zae Col.cells hx rfl)]
 cases h1:x.key
 ·exact Zih (ih key Zo (by first|exact ⟨by omega,zoY hI.2 hx ‹_›⟩|exact ⟨by omega,zoX hI.2 hx ‹_›⟩) Zo) fun R gY=>zaa (wkl (p_1++[sb h1,si hw]) [0,2,4,6,7,8,22,23,24] 4 kr gY)
 ·exact Zih (ih ((i:Int)) Zo (by first|exact ⟨by omega,zoY hI.2 hx ‹_›⟩|exact ⟨by omega,zoX hI.2 hx ‹_›⟩) Zo) fun R gY=>zaa (wkl (p_1++[sb h1,si hw]) [0,2,4,6,7,8,22,23,24] 4 kr gY)
noncomputable def L_tvR (t0:Tp) (s:Sch) (key:Int) (k:Nat) (u:Tp) (next:Int) (rows:List Rw):Cfg:=zag B.AH 1 [(0,.p 0 0),(4,.p 1 0),(6,.p 2 0),(7,.p 3 0),(8,iv key),(11,iv (k:Nat))] [.box u.cells,.box s.cells,.box zT,.box [sv s.name,.sl (s.cols.map Col.cells),iv next,.own 4 rows.length],.row Ty.Row (rows.map Rw.cells) false]
noncomputable def L_tvI (t0:Tp) (s:Sch) (key:Int) (k:Nat) (u:Tp) (next:Int) (rows:List Rw) (rv:List V) (i:Nat) (fresh:Bool):Cfg:=zag B.AH 2 [(0,.p 0 0),(4,.p 1 0),(6,.p 2 0),(7,.p 3 0),(8,iv key),(11,iv (k+1:Nat)),(12,vsl rv),(13,bv fresh),(45,.own 4 rows.length),(46,iv (rows.length:Nat)),(47,iv (i:Nat))] [.box u.cells,.box s.cells,.box zT,.box [sv s.name,.sl (s.cols.map Col.cells),iv next,.own 4 rows.length],.row Ty.Row (rows.map Rw.cells) false]
theorem zfI (t0:Tp) (s:Sch) (key:Int) (k:Nat) (u:Tp) (next:Int) (rows:List Rw) (rv:List V) (hko:zv0 s.cols.length key) (hr:Few rows) (hrs:zhE s rows) (hrv:zde s.cols rv) (i:Nat) (fresh:Bool) (hi:i<=(rows).length) (hI:fresh=true->zdo key rv (rows.take i)):∃ (fresh':Bool),(fresh'=true->zdo key rv (rows.take (rows).length))/\(decide ((((rows).length:Nat):Int) < (((rows).length:Nat):Int))=false)/\∀ R,Good E0 B.AH [.box t0.cells] (L_tvI t0 s key k u next rows rv (rows).length fresh') R->Good E0 B.AH [.box t0.cells] (L_tvI t0 s key k u next rows rv i fresh) R:=by
 have hk:=hi;revert i fresh;refine zlp ((rows).length) (fun i hlt ih fresh hi hI _=>?_)
 obtain ⟨x,hx,h0,hw⟩:=zlq (l:=rows) ((rows).length) hlt
 have hvl:=hrv.len;have hxl:=hrs.len hx;have ho:OwnAt (rows.map Rw.cells) rows.length ((i:Nat):Int):=⟨by simp,by omega,by have:=zbu hx;simp;omega⟩
 let p_1:List St:=[sb h0,sqx (OwnAt (List.map Rw.cells rows) rows.length (i:Int)),sx (.el x.cells) (zdQ Rw.cells (n:=rows.length) Zs hx)]
 rcases (Bool.eq_false_or_eq_true fresh).symm with h1|h1
 ·exact Zih (ih false Zo ztR Zo) fun R gY=>zaa (wklN (p_1++[sd [(2,[sb h1]),(3,[sb h1]),(4,[sb h1]),(15,[sb h1]),(16,[sb h1])],si hw]) [0,4,6,7,8,11,12,13,45,46,47] 5 [(.bl 13,5)] kr gY)
 ·cases h2:decide (key < 0)
  ·exact Zih (ih (bif fresh then bif decide (key < 0) then true else !((zao x.vals key).kind==(zao rv key).kind&&((zao x.vals key).int==(zao rv key).int&&((zao x.vals key).text==(zao rv key).text&&true))) else false) Zo ztR Zo) fun R gY=>zaa (wkl (p_1++[sd [(2,[sg h1]),(3,[sg h1]),(4,[sg h1]),(5,[sg h2]),(6,[sg h2]),(7,[sg h2]),(8,[so h2 (se (zcB x.vals key zpj zpj))]),(9,[sg h2]),(10,[sg h2]),(11,[sg h2]),(12,[so h2 (se (zcB rv key zpj zpj))]),(13,[sg h2]),(14,[so h2 (sq za3)]),(15,[sg h1])],si hw]) [0,4,6,7,8,11,12,13,45,46,47] 5 kr gY)
  ·exact Zih (ih (bif fresh then true else false) Zo ztR Zo) fun R gY=>zaa (wkl (p_1++[sd [(2,[sg h1]),(3,[sg h1]),(4,[sg h1]),(5,[sb h2]),(6,[sb h2]),(7,[sb h2]),(8,[sb h2]),(9,[sb h2]),(10,[sb h2]),(11,[sb h2]),(12,[sb h2]),(13,[sb h2]),(14,[sb h2]),(15,[so h1 (sb h2)])],si hw]) [0,4,6,7,8,11,12,13,45,46,47] 5 kr gY)
theorem zw9 {s:Sch} {key:Int} {rv:List V} {rows:List Rw} (hk:key=keyC s) (h:zdo key rv (rows.take rows.length)):∀ r∈rows,keyC s < 0\/zao r.vals (keyC s)≠zao rv (keyC s):=by
 subst hk;rw [List.take_length] at h;exact h
theorem zvT {s:Sch} {next n:Int} {rows:List Rw} {k a b:Nat} (hI:((rows.length+(k+1):Nat):Int)<=n/\RowsV s next rows/\next+2 * ((k+1:Nat):Int)<=3000) (ha:(a:Int) < 2) (hb:(b:Int) < 2):((rows.length+k:Nat):Int)<=n/\RowsV s (IntKind.i64.wrap (next+IntKind.i64.wrap (1+IntKind.i64.wrap ((a:Int) * (b:Int))))) rows/\IntKind.i64.wrap (next+IntKind.i64.wrap (1+IntKind.i64.wrap ((a:Int) * (b:Int))))+2 * ((k:Nat):Int)<=3000:=by
 have h:=zvC (n:=next) ha hb ⟨hI.2.1.pos,by omega⟩
 exact ⟨by omega,hI.2.1.more Zo,by omega⟩
theorem zvU {s:Sch} {key next n:Int} {rows:List Rw} {v:List V} {k a b:Nat} (hI:((rows.length+(k+1):Nat):Int)<=n/\RowsV s next rows/\next+2 * ((k+1:Nat):Int)<=3000) (hkc:key=keyC s) (hv:zde s.cols v) (hf:zdo key v (rows.take rows.length)) (ha:(a:Int) < 2) (hb:(b:Int) < 2):(((rows++[Rw.mk next v]).length+k:Nat):Int)<=n/\RowsV s (IntKind.i64.wrap (next+IntKind.i64.wrap (1+IntKind.i64.wrap ((a:Int) * (b:Int))))) (rows++[⟨next,v⟩])/\IntKind.i64.wrap (next+IntKind.i64.wrap (1+IntKind.i64.wrap ((a:Int) * (b:Int))))+2 * ((k:Nat):Int)<=3000:=by
 have h:=zvC (n:=next) ha hb ⟨hI.2.1.pos,by omega⟩
 exact ⟨by simp;omega,hI.2.1.push hv (zw9 hkc hf) Zo,by omega⟩
theorem zfK (t0:Tp) (s:Sch) (key:Int) (n:Int) (hn9:n<=900) (hk:zv0 s.cols.length key) (hkc:key=keyC s) (hs:SchOk s) (k:Nat) (u:Tp) (next:Int) (rows:List Rw) (hi:k<=1000000000) (hI:((rows.length+k:Nat):Int)<=n/\RowsV s next rows/\next+2 * (k:Int)<=3000):∃ (u':Tp) (next':Int) (rows':List Rw),(((rows'.length+0:Nat):Int)<=n/\RowsV s next' rows'/\next'+2 * (0:Int)<=3000)/\(decide ((0:Int) < ((0:Nat):Int))=false)/\∀ R,Good E0 B.AH [.box t0.cells] (L_tvR t0 s key 0 u' next' rows') R->Good E0 B.AH [.box t0.cells] (L_tvR t0 s key k u next rows) R:=by
 induction k generalizing u next rows with
 | zero=>exact ⟨u,next,rows,hI,by decide,fun R hg=>hg⟩
 | succ k ih =>
  have h0:decide ((0:Int) < (((k+1):Nat):Int))=true:=by first|(simp;done)|(simp;omega)
  have hw:IntKind.i64.wrap (((k+1:Nat):Int) - 1)=((k:Nat):Int):=zmt k Zo
  have hR:=hI.2.1.fit;have hsh:=hs.short;have hco:=hs.cols;have hfw:Few rows:=by simp only [Few];omega
  obtain ⟨r1,t1,q1,c1⟩:=(zn8 u s zdv zdv)
  obtain ⟨zsY,q2,q2_1,g2⟩:=zfI t0 s key k t1 next rows r1 zdv zdv zdv zdv 0 true zdv zdv
  let p_1:List St:=[sb h0,sl [0] c1,sqx (rows.length=(List.map Rw.cells rows).length)]
  rcases (Bool.eq_false_or_eq_true zsY).symm with h3|h3
  ·obtain ⟨a4,t4,q4,c4⟩:=(zai t1 2 zdv)
   obtain ⟨a5,t5,q5,c5⟩:=(zai t4 2 zdv)
   obtain ⟨uZ,nextZ,rowsZ,qZ,xZ,gZ⟩:=ih t5 (IntKind.i64.wrap (next+IntKind.i64.wrap (1+IntKind.i64.wrap ((a4:Int) * (a5:Int))))) rows Zo (by first|exact zvT hI ‹_› ‹_›|exact zvU hI hkc ‹_› (‹_=true->zdo _ _ _› ‹_›) ‹_› ‹_›);exact ⟨uZ,nextZ,rowsZ,qZ,xZ,fun R hg=>zaa (wklN p_1 [0,4,6,7,8,11,12,13,45,46,47] 5 [(.bl 13,5)] kr (g2 _ (zaa (wkl [sb q2_1,sb h3,sd [(3,[sl [0] c4]),(5,[sl [0] c5]),(6,[si (e:=IntKind.i64.wrap ((a4:Int) * (a5:Int))) rfl]),(7,[si (e:=IntKind.i64.wrap (1+IntKind.i64.wrap ((a4:Int) * (a5:Int)))) rfl]),(8,[si (e:=IntKind.i64.wrap (next+IntKind.i64.wrap (1+IntKind.i64.wrap ((a4:Int) * (a5:Int))))) rfl])],si hw] [0,4,6,7,8,11] 5 kr (gZ R hg)))))⟩
  ·obtain ⟨a6,t6,q6,c6⟩:=(zai t1 2 zdv)
   obtain ⟨a7,t7,q7,c7⟩:=(zai t6 2 zdv)
   obtain ⟨uZ,nextZ,rowsZ,qZ,xZ,gZ⟩:=ih t7 (IntKind.i64.wrap (next+IntKind.i64.wrap (1+IntKind.i64.wrap ((a6:Int) * (a7:Int))))) (rows++[Rw.mk next r1]) Zo (by first|exact zvT hI ‹_› ‹_›|exact zvU hI hkc ‹_› (‹_=true->zdo _ _ _› ‹_›) ‹_› ‹_›);exact ⟨uZ,nextZ,rowsZ,qZ,xZ,fun R hg=>zaa (wklN p_1 [0,4,6,7,8,11,12,13,45,46,47] 5 [(.bl 13,5)] kr (g2 _ (zaa (wkl [sb q2_1,sb h3,sqA (List.map Rw.cells rows) [[iv next,vsl r1]] rows.length 2 32,sd [(3,[sl [0] c6]),(5,[sl [0] c7]),(6,[si (e:=IntKind.i64.wrap ((a6:Int) * (a7:Int))) rfl]),(7,[si (e:=IntKind.i64.wrap (1+IntKind.i64.wrap ((a6:Int) * (a7:Int)))) rfl]),(8,[si (e:=IntKind.i64.wrap (next+IntKind.i64.wrap (1+IntKind.i64.wrap ((a6:Int) * (a7:Int))))) rfl])],si hw] [0,4,6,7,8,11] 5 kr (zaA rfl (show ([Blk.box [AV.sl (List.map (fun n=>[iv n]) t7.l),iv (t7.pos:Int)],Blk.box s.cells,Blk.box [sv Zs0,AV.nl,iv 0,AV.nl],Blk.box [sv s.name,ZC s.cols,iv (IntKind.i64.wrap (next+IntKind.i64.wrap (1+IntKind.i64.wrap ((a6:Int) * (a7:Int))))),AV.own 4 (List.map Rw.cells rows++[[iv next,vsl r1]]).length],Blk.row Ty.Row (List.map Rw.cells rows++[[iv next,vsl r1]]) false]:Heap)=_ from Zcv4) (gZ R hg))))))⟩
theorem ztw {a:Nat} (ha:(a:Int) < 3):IntKind.i64.wrap (1+(a:Int))=1+(a:Int):=by rw [IntKind.wrap_i64];omega
theorem zix (t:Tp) (s:Sch) (n:Int) (hs:SchOk s) (hf:Few s.cols) (hn:0<=n/\n<=900) (hw:IntKind.i64.wrap (n+1)=n+1):∃ (rows:List Rw) (next:Int) (t':Tp),((rows.length:Int)<=n/\RowsV s next rows/\next<=3000)/\zab E0 S.AH [.p 0 0,s.av,iv n] [.box t.cells] (Tb.av ⟨s,next,rows⟩) [.box t'.cells]:=by
 obtain ⟨a1,t1,q1,c1⟩:=(zai t 3 zdU)
 obtain ⟨key2,q2,q2_1,g2⟩:=zfJ t s n t1 (IntKind.i64.wrap (1+(a1:Int))) zdU 0 (-1) zdU zdU
 obtain ⟨a3,t3,q3,c3⟩:=(zai t1 (n+1) zdU)
 obtain ⟨u4,next4,rows4,q4,q4_1,g4⟩:=zfK t s key2 n zdU zdU zdU zdU a3 t3 (IntKind.i64.wrap (1+(a1:Int))) ([]) zdU zdU
 exact ⟨rows4,next4,u4,(by exact ⟨by omega,(‹_/\RowsV _ _ _/\_›).2.1,by omega⟩),wkc At.AH [sdm [(2,[sl [0] c1]),(3,[si (e:=IntKind.i64.wrap (1+(a1:Int))) rfl])] 0 [(0,AV.p 0 0),(1,AV.agg s.cells),(2,iv n),(4,AV.p 1 0),(6,AV.p 2 0),(7,AV.p 3 0),(16,AV.agg s.cells),(17,AV.p 0 0),(18,iv (a1:Int)),(19,iv (IntKind.i64.wrap (1+(a1:Int)))),(20,AV.agg [sv s.name,ZC s.cols,iv (IntKind.i64.wrap (1+(a1:Int))),AV.nl])] [Blk.box [AV.sl (List.map (fun n=>[iv n]) t1.l),iv (t1.pos:Int)],Blk.box s.cells,Blk.box [sv Zs0,AV.nl,iv 0,AV.nl],Blk.box [sv s.name,ZC s.cols,iv (IntKind.i64.wrap (1+(a1:Int))),AV.nl]]] [0,2,4,6,7,8,22,23,24] 4 kr (g2 _ (zaa (wklN [sb q2_1,si hw,sl [0] c3] [0,4,6,7,8,11] 4 [(.ob 3 3 Ty.Row,5)] kr (g4 _ (zaa (wkr [sqx (True/\True/\True/\rows4.length=(List.map Rw.cells rows4).length/\True),sb Zf] kr))))))⟩
structure StoreV (n:Int) (l:List Tb):Prop where
 schs:l.map Tb.sch=zaj
 rows:∀ t∈l,RowsV t.sch t.next t.rows
 next:∀ t∈l,t.next<=3000
 len:∀ t∈l,(t.rows.length:Int)<=n
structure StoreP (n:Int) (i:Nat) (l:List Tb):Prop where
 schs:l.map Tb.sch=zaj.take i
 tabs:∀ t∈l,RowsV t.sch t.next t.rows/\t.next<=3000/\(t.rows.length:Int)<=n
theorem StoreP.push {n:Int} {i:Nat} {l:List Tb} {x:Sch} {nx:Int} {rs:List Rw} (h:StoreP n i l) (hx:zaj[i]?=some x) (ht:(rs.length:Int)<=n/\RowsV x nx rs/\nx<=3000):StoreP n (i+1) (l++[⟨x,nx,rs⟩]) :=
 ⟨by rw [List.map_append,h.schs,List.take_add_one,hx];rfl,fun t hm=>(List.mem_append.1 hm).elim (h.tabs t) fun h=>by simp only [List.mem_singleton] at h;subst h;exact ⟨ht.2.1,ht.2.2,ht.1⟩⟩
theorem StoreP.all {n:Int} {l:List Tb} (h:StoreP n zaj.length l):StoreV n l :=
 ⟨by rw [h.schs,List.take_length],fun t ht=>(h.tabs t ht).1,fun t ht=>(h.tabs t ht).2.1,fun t ht=>(h.tabs t ht).2.2⟩
theorem StoreV.ok {n:Int} {l:List Tb} (h:StoreV n l) (hn:n<=1000:=by decide):StoreOk l :=
 ⟨by have:=congrArg List.length h.schs;simp [zaj] at this;omega,fun t ht=>⟨⟨(h.rows t ht).fit,by have:=h.len t ht;omega⟩,zh9 (by rw [← h.schs];exact List.mem_map_of_mem ht)⟩⟩
noncomputable def L_stV (t0:Tp) (n:Int) (i:Nat) (u:Tp) (out:List Tb):Cfg:=zag B.BB 0 [(0,.p 0 0),(1,iv n),(5,.own 1 out.length),(8,.sl (zaj.map Sch.cells)),(9,iv ((zaj.map Sch.cells).length:Nat)),(10,iv (i:Nat))] [.box u.cells,.row Ty.Table (out.map Tb.cells) false]
theorem zf9 (t0:Tp) (n:Int) (hs:zac zaj) (hn:0<=n/\n<=900) (i:Nat) (u:Tp) (out:List Tb) (hi:i<=(zaj).length) (hI:StoreP n i out):∃ (u':Tp) (out':List Tb),(StoreP n (zaj).length out')/\(decide ((((zaj).length:Nat):Int) < (((zaj.map Sch.cells).length:Nat):Int))=false)/\∀ R,Good E0 B.BB [.box t0.cells] (L_stV t0 n (zaj).length u' out') R->Good E0 B.BB [.box t0.cells] (L_stV t0 n i u out) R:=by
 have hk:=hi;revert i u out;refine zlp ((zaj).length) (fun i hlt ih u out hi hI _=>?_)
 obtain ⟨x,hx,h0,hw⟩:=zlq (l:=zaj) ((zaj.map Sch.cells).length) hlt
 have hsx:=zh9 (List.mem_of_getElem? hx);have hfx:=hsx.few;have hl0:out.length=(zaj.take i).length:=by rw [← hI.schs];simp
 have hlen:out.length<=10:=by rw [hl0];simp only [List.length_take,zaj,List.length_cons,List.length_nil];omega
 have hw1:IntKind.i64.wrap (n+1)=n+1:=by rw [IntKind.wrap_i64];omega
 obtain ⟨rows1,next1,t1,q1,c1⟩:=(zix u x n zpk zpk zpk zpk)
 obtain ⟨uZ,outZ,qZ,xZ,gZ⟩:=ih t1 (out++[Tb.mk x next1 rows1]) Zo (by exact hI.push hx ‹_›) Zo;exact ⟨uZ,outZ,qZ,xZ,fun R hg=>zaa (wkl [sb h0,se (zae Sch.cells hx rfl),sl [0] c1,sqA (List.map Tb.cells out) [[sv x.name,ZC x.cols,iv next1,ZW rows1]] out.length 4 72,si hw] [0,1,5,8,9,10] 2 kr (zaw 5 1 (List.map Tb.cells out++[[sv x.name,ZC x.cols,iv next1,ZW rows1]]) (gZ R hg) (he:=Zcv4) (hm:=Zcv4)))⟩
theorem zkg (t:Tp) (n:Int) (hs:zac zaj) (hn:0<=n/\n<=900):∃ (r:List Tb) (t':Tp),StoreV n r/\zab E0 S.BB [.p 0 0,iv n] [.box t.cells] (tsl r) [.box t'.cells]:=by
 obtain ⟨u1,out1,q1,q1_1,g1⟩:=zf9 t n zpi zpi 0 t ([]) zpi zpi
 exact ⟨out1,u1,(by exact StoreP.all ‹_›),wkcN At.BB [sc zfg] [0,1,5,8,9,10] 1 [(.ot 5 Ty.Table,2)] kr (g1 _ (zaa (wkr [sqx (out1.length=(List.map Tb.cells out1).length),sb Zf] kr)))⟩
def XFl:Nat->X->Prop
 | 0,_=>False
 | n+1,e=>e.val.Good/\Thin 3 e.args/\e.sub=[]/\∀ x∈e.args,XFl n x
theorem XFl.ok:∀ {n:Nat} {e:X},XFl n e->XOk n e
 | 0,_,h=>h.elim
 | n+1,e,⟨h1,h2,h3,h4⟩=>⟨h1,⟨h2,by rw [h3];simp⟩,fun x hx=>(h4 x hx).ok,fun q hq=>by rw [h3] at hq;cases hq⟩
theorem XFl.mono:∀ {n:Nat} {e:X},XFl n e->XFl (n+1) e
 | 0,_,h=>h.elim
 | n+1,e,⟨h1,h2,h3,h4⟩=>⟨h1,h2,h3,fun x hx=>(h4 x hx).mono⟩
def insI:Nat->List Int->List Int
 | 0,l=>l
 | k+1,l=>bif decide (l.getD (k+1) 0 < l.getD k 0) then insI k ((l.set (k+1) (l.getD k 0)).set k (l.getD (k+1) 0)) else l
theorem zta:∀ (k:Nat) (l:List Int),(insI k l).length=l.length
 | 0,_=>rfl
 | k+1,l=>by
  unfold insI
  cases decide (l.getD (k+1) 0 < l.getD k 0)
  ·rfl
  ·rw [cond_true,zta];simp
def srtI:Nat->Nat->List Int->List Int
 | 0,_,l=>l
 | m+1,i,l=>srtI m (i+1) (insI i l)
def srt1 (l:List Int):List Int:=srtI (l.length - 1) 1 l
theorem zt3:∀ (m i:Nat) (l:List Int),(srtI m i l).length=l.length
 | 0,_,_=>rfl
 | m+1,i,l=>by unfold srtI;rw [zt3,zta]
@[simp] theorem srt1_len (l:List Int):(srt1 l).length=l.length:=zt3 _ _ _
structure InsI (l:List Lk) (x:Lk) (i:Nat) (out:List Lk) (done:Bool):Prop where
 nd:out.Nodup
 sub:∀ z∈out,z=x\/z∈l.take i
 sup:∀ z∈l.take i,z=x\/z∈out
 dn:x∈out↔done=true
theorem zl6 {α:Type}:∀ (l m:List α),l.Nodup->(∀ x∈l,x∈m)->l.length<=m.length
 | [],_,_,_=>by simp
 | x::r,m,hn,hs=>by
  haveI:DecidableEq α:=fun a b=>Classical.propDecidable (a=b)
  rw [List.nodup_cons] at hn
  have hx:x∈m:=hs x Zs
  have h1:=zl6 r (m.erase x) hn.2 fun y hy=>(List.mem_erase_of_ne (by rintro rfl;exact hn.1 hy)).2 (hs y (by simp [hy]))
  rw [List.length_erase_of_mem hx] at h1
  have h2:=List.length_pos_of_mem hx
  simp only [List.length_cons]
  omega
theorem zvR {a b:Str} (h:(a==b)=true):a=b:=by
 cases a with
 | mk a=>cases b with
  | mk b =>
   have h':(a==b)=true:=h
   rw [eq_of_beq h']
theorem zB7 (s:Str):(s==s)=true:=by
 cases s with
 | mk d =>
  have h:(d==d)=true:=by simp
  exact h
theorem lk_eq {x u:Lk} (h:(!(x.fst==u.fst&&(x.snd==u.snd&&true)))=false):x=u:=by
 simp only [Bool.not_eq_false',Bool.and_eq_true,and_true] at h
 cases x;cases u
 simp only at h
 rw [zvR h.1,zvR h.2]
theorem lk_ne {x u:Lk} (h:(!(x.fst==u.fst&&(x.snd==u.snd&&true)))=true):x≠u:=by
 rintro rfl;simp [zB7] at h
theorem zft {l:List Lk} {i:Nat} {x:Lk} (hx:l[i]?=some x) (z:Lk):z∈l.take (i+1)↔z∈l.take i\/z=x:=by
 rw [List.take_add_one,hx];simp
theorem zqg {l:List Lk} (hn:l.Nodup) {i:Nat} {x:Lk} (hx:l[i]?=some x):x ∉ l.take i:=by
 intro h
 obtain ⟨j,hj,hje⟩:=List.mem_iff_getElem.mp h
 obtain ⟨hi,hie⟩:=List.getElem?_eq_some_iff.mp hx
 simp only [List.length_take] at hj
 rw [List.getElem_take] at hje
 have h2:=hn
 unfold List.Nodup at h2
 rw [List.pairwise_iff_getElem] at h2
 exact h2 j i Zo hi Zo (hje.trans hie.symm)
theorem InsI.len {l:List Lk} {u:Lk} {i:Nat} {out:List Lk} {d:Bool} (h:InsI l u i out d):out.length<=i+1:=by
 have:=zl6 out (u::l.take i) h.nd fun z hz=>by simpa using h.sub z hz
 simp only [List.length_cons,List.length_take] at this
 omega
theorem InsI.s1 {l:List Lk} {u x:Lk} {i:Nat} {out:List Lk} {d:Bool} (h:InsI l u i out d) (hx:l[i]?=some x) (e:(!(x.fst==u.fst&&(x.snd==u.snd&&true)))=false):InsI l u (i+1) out d:=by
 obtain rfl:=lk_eq e
 refine ⟨h.nd,fun z hz=>?_,fun z hz=>?_,h.dn⟩
 ·rcases h.sub z hz with h1|h1
  ·exact .inl h1
  ·exact .inr ((zft hx z).2 (.inl h1))
 ·rcases (zft hx z).1 hz with h1|h1
  ·exact h.sup z h1
  ·exact .inl h1
theorem InsI.s2 {l:List Lk} {u x:Lk} {i:Nat} {out:List Lk} {d:Bool} (h:InsI l u i out d) (hn:l.Nodup) (hx:l[i]?=some x) (e:(!(x.fst==u.fst&&(x.snd==u.snd&&true)))=true):InsI l u (i+1) (out++[x]) d:=by
 have hne:=lk_ne e
 refine ⟨?_,fun z hz=>?_,fun z hz=>?_,?_⟩
 ·refine List.nodup_append.2 ⟨h.nd,by simp,fun a ha b hb=>?_⟩
  simp only [List.mem_singleton] at hb
  subst hb
  rintro rfl
  rcases h.sub a ha with h1|h1
  ·exact hne h1
  ·exact zqg hn hx h1
 ·simp only [List.mem_append,List.mem_singleton] at hz
  rcases hz with hz|hz
  ·rcases h.sub z hz with h1|h1
   ·exact .inl h1
   ·exact .inr ((zft hx z).2 (.inl h1))
  ·exact .inr ((zft hx z).2 (.inr hz))
 ·simp only [List.mem_append,List.mem_singleton]
  rcases (zft hx z).1 hz with h1|h1
  ·rcases h.sup z h1 with h2|h2
   ·exact .inl h2
   ·exact .inr (.inl h2)
  ·exact .inr (.inr h1)
 ·simp only [List.mem_append,List.mem_singleton]
  rw [← h.dn]
  exact ⟨fun h1=>h1.resolve_right fun h2=>hne h2.symm,.inl⟩
theorem InsI.add {l:List Lk} {u:Lk} {i:Nat} {out:List Lk} {d:Bool} (h:InsI l u i out d) (e:(!d)=true):InsI l u i (out++[u]) true:=by
 have hnu:u ∉ out:=fun hu=>by have:=h.dn.1 hu;subst this;simp at e
 refine ⟨?_,fun z hz=>?_,fun z hz=>?_,by simp⟩
 ·refine List.nodup_append.2 ⟨h.nd,by simp,fun a ha b hb=>?_⟩
  simp only [List.mem_singleton] at hb
  subst hb
  rintro rfl
  exact hnu ha
 ·simp only [List.mem_append,List.mem_singleton] at hz
  rcases hz with hz|hz
  ·exact h.sub z hz
  ·exact .inl hz
 ·simp only [List.mem_append,List.mem_singleton]
  rcases h.sup z hz with h2|h2
  ·exact .inl h2
  ·exact .inr (.inl h2)
structure InsR (l:List Lk) (u:Lk) (r:List Lk):Prop where
 nd:r.Nodup
 sub:∀ z∈r,z=u\/z∈l
 sup:∀ z∈l,z∈r
theorem InsI.done {l:List Lk} {u:Lk} {out:List Lk} {d:Bool} (h:InsI l u l.length out d) (e:(!d)=false):InsR l u out:=by
 have hd:d=true:=by simpa using e
 have hu:=h.dn.2 hd
 refine ⟨h.nd,fun z hz=>by simpa using h.sub z hz,fun z hz=>?_⟩
 rcases h.sup z (by simpa using hz) with rfl|h1
 ·exact hu
 ·exact h1
structure LkN (N:List Str) (l:List Lk):Prop where
 nd:l.Nodup
 mem:∀ z∈l,z.fst∈N/\z.snd∈N
theorem InsR.lk {N:List Str} {l:List Lk} {u:Lk} {r:List Lk} (h:InsR l u r) (hl:LkN N l) (h1:u.fst∈N) (h2:u.snd∈N):LkN N r :=
 ⟨h.nd,fun z hz=>by rcases h.sub z hz with rfl|hz;exact ⟨h1,h2⟩;exact hl.mem z hz⟩
theorem zsX {α β:Type} (f:α->List β) (k:Nat) (hf:∀ a,(f a).length=k):∀ l:List α,(l.flatMap f).length=l.length * k
 | []=>by simp
 | a::r=>by rw [List.flatMap_cons,List.length_append,hf,zsX f k hf r,List.length_cons,Nat.add_mul];omega
theorem LkN.len {N:List Str} {l:List Lk} (h:LkN N l):l.length<=N.length * N.length:=by
 have h1:=zl6 l (N.flatMap fun a=>N.map fun b=>⟨a,b⟩) h.nd fun z hz=>by
  simp only [List.mem_flatMap,List.mem_map]
  exact ⟨z.fst,(h.mem z hz).1,z.snd,(h.mem z hz).2,by cases z;rfl⟩
 have h2:(N.flatMap fun a=>N.map fun b=>(⟨a,b⟩:Lk)).length=N.length * N.length:=by
  exact zsX _ _ (fun a=>by simp) N
 omega
abbrev zoc (N:List Str) (l out:List Lk):Prop:=LkN N out/\∀ z∈l,z∈out
theorem zoc.short {N:List Str} {l out:List Lk} (h:zoc N l out) (hN:N.length<=1000):zac out:=by
 have h1:=h.1.len
 have h2:=Nat.mul_le_mul hN hN
 simp only [zac];omega
theorem zoc.ins {N:List Str} {l out:List Lk} {a b:Lk} {i j:Nat} {r:List Lk} (h:zoc N l out) (hl:LkN N l) (hx:l[i]?=some a) (hy:l[j]?=some b) (hr:InsR out ⟨a.fst,b.snd⟩ r):zoc N l r :=
 ⟨hr.lk h.1 (hl.mem a (List.mem_of_getElem? hx)).1 (hl.mem b (List.mem_of_getElem? hy)).2,fun z hz=>hr.sup z (h.2 z hz)⟩
theorem LkN.short {N:List Str} {l:List Lk} (h:LkN N l) (hN:N.length<=1000):zac l:=by
 have h1:=h.len
 have h2:=Nat.mul_le_mul hN hN
 simp only [zac];omega
theorem zzo {p:Prop} (h:p:=by first|assumption|omega|(simp;done)|(simp;omega)):p:=h
def zx8 (k:Nat):Str:=([⟨#[116]⟩,⟨#[117]⟩,⟨#[108,111,103]⟩]:List Str).getD k ⟨#[]⟩
theorem zBo (k:Nat) (h:(k:Int) < 3):ElAt [[sv ⟨#[116]⟩],[sv ⟨#[117]⟩],[sv ⟨#[108,111,103]⟩]] (k:Int) [sv (zx8 k)] 1:=by
 have:k=0\/k=1\/k=2:=by omega
 rcases this with rfl|rfl|rfl <;> exact ⟨by decide,rfl,rfl⟩
def TabN (w:Str):Prop:=w=⟨#[116]⟩\/w=⟨#[117]⟩\/w=⟨#[108,111,103]⟩
theorem zB9 {k:Nat} (h:(k:Int) < 3):TabN (zx8 k):=by
 have:k=0\/k=1\/k=2:=by omega
 rcases this with rfl|rfl|rfl
 ·exact .inl rfl
 ·exact .inr (.inl rfl)
 ·exact .inr (.inr rfl)
theorem zmx (t:Tp) :∃ (w:Str) (t':Tp),TabN w/\zab E0 S.Dd [.p 0 0] [.box t.cells] (sv w) [.box t'.cells]:=by
 obtain ⟨a1,t1,q1,c1⟩:=(zai t 3 zzo)
 exact ⟨zx8 a1,t1,by exact zB9 Zo,wk At.Dd [sl [0] c1,se (zBo a1 zzo)] kr⟩
def schU:Sch:=⟨⟨#[117]⟩,[⟨⟨#[105,100]⟩,1,true,true⟩,⟨⟨#[110]⟩,1,true,false⟩,⟨⟨#[109]⟩,1,false,false⟩]⟩
theorem zvJ:zav ⟨#[117]⟩=schU:=by kernel_rfl
theorem zdB {w:Str} (h:TabN w):SchOk (zav w):=by
 rcases h with rfl|rfl|rfl
 ·rw [zvI];exact zB4
 ·rw [zvJ];exact zh9 (by simp [zaj,schU])
 ·rw [zmj];exact zh9 (by simp [zaj,zeo])
structure GenOk (x:Tg):Prop where
 ok:TgOk 6 x
 set:∀ a∈x.acts,AcSet a
structure CertOk (x x':Tg):Prop where
 gen:GenOk x->GenOk x'
 name:x'.name=x.name
 table:x'.table=x.table
 prec:x'.prec=x.prec
 foll:x'.foll=x.foll
theorem zx6 (l:List Fr) (h:l.length<=1000/\0 < l.length):SubAt (l.map Fr.cells) (IntKind.i64.wrap ((((l.map Fr.cells).length:Nat):Int) - 1)) (((l.map Fr.cells).length:Nat):Int) 4:=by
 have h1:IntKind.i64.wrap ((((l.map Fr.cells).length:Nat):Int) - 1)=((l.length:Nat):Int) - 1:=by rw [IntKind.wrap_i64];simp;omega
 rw [h1]
 refine ⟨by omega,by simp;omega,by simp,?_⟩
 simp
structure SetsOk (i:Nat) (sets:List Se):Prop where
 len:sets.length<=i
 ex:∀ s∈sets,XOk 5 s.ex
 two:i<=2
theorem SetsOk.push {i:Nat} {sets:List Se} {c:Str} {e:X} (h:SetsOk i sets) (hi:i < 2) (he:XOk 4 e):SetsOk (i+1) (sets++[⟨c,e⟩]) :=
 ⟨by have:=h.len;simp;omega,fun s hs=>by
  simp only [List.mem_append,List.mem_singleton] at hs
  rcases hs with hs|rfl
  ·exact h.ex s hs
  ·exact he.le Zo,by omega⟩
theorem zyM (s:Int × List (List V)):(zew s).1.length<=s.2.length:=by
 unfold zew;cases s.1 != 0 <;> simp
theorem zi7 {tr:Rw->Bool × Int} {rv:Rw->Int × List V}:∀ (l:List Rw) (out:List (List V)),(za2 tr rv l out).2.length<=out.length+l.length
 | [],out=>by simp [za2]
 | r::l,out=>by
  have h1:=zi7 (tr:=tr) (rv:=rv) l out
  have h2:=zi7 (tr:=tr) (rv:=rv) l (out++[(rv r).2])
  simp only [za2]
  cases (tr r).2 != 0 <;> cases (tr r).1 <;> cases (rv r).1 != 0 <;> simp at * <;> omega
theorem zlF {n:Nat} {q:Qy} {frs:List Fr} {tb:List Tb} (h:TbOk tb):(zbm n q frs tb).1.length<=1000:=by
 unfold zbm
 cases hf:zaJ tb q.frm with
 | none=>simp
 | some t =>
  have h1:=h.rows t (zcJ hf)
  have h2:=zyM (za2 (fun r=>zaU (fun x=>eval n x (zas frs t r.vals) tb) q.wh) (fun r=>rowV (fun x=>eval n x (zas frs t r.vals) tb) q r) t.rows [])
  have h3:=zi7 (tr:=fun r=>zaU (fun x=>eval n x (zas frs t r.vals) tb) q.wh) (rv:=fun r=>rowV (fun x=>eval n x (zas frs t r.vals) tb) q r) t.rows []
  simp only [List.length_nil] at h3
  simp only;omega
structure DmlIn (n:Nat) (a:Ac) (frs:List Fr) (tb:List Tb):Prop where
 ac:AcOk n a
 kd:1<=a.kind/\a.kind<=3
 fo:FsOk (n+1) frs
 fg:FsG frs
 to:TbOk tb
 tg:TbG tb
 tv:∀ x∈tb,∀ r∈x.rows,zac r.vals
theorem zpE {tb:List Tb} {n:Str} (h:(zaG tb n).2=true):zaJ tb n=some (tabC tb n)/\(zaG tb n).1=(tabC tb n).sch/\tabC tb n∈tb/\decide (idxF (fun t=>zan t n) tb 0 < 0)=false:=by
 rw [zcV] at h ⊢
 cases hf:zaJ tb n with
 | none=>rw [hf] at h;cases h
 | some t =>
  have e:tabC tb n=t:=by unfold tabC;rw [hf];rfl
  refine ⟨by rw [e],by rw [e],by rw [e];exact zcJ hf,?_⟩
  rcases zdz (fun t=>zan t n) tb 0 with ⟨_,h2⟩|⟨j,y,h2,h3,h4⟩
  ·unfold zaJ at hf;rw [h2] at hf;cases hf
  ·rw [h2];simp
theorem tgt_ok {a:Ac} {b:Bool} {tb:List Tb} (h:((tgt a b tb).2 != 0)=false):b=true/\(zaG tb a.table).2=true/\(tgt a b tb).1=(tabC tb a.table).sch/\(tgt a b tb).2=0:=by
 unfold tgt at h ⊢
 cases b
 ·simp at h
 ·cases h2:(zaG tb a.table).2
  ·rw [h2] at h;simp at h
  ·refine ⟨rfl,rfl,?_,rfl⟩
   simp only [Bool.not_true,cond_false]
   exact (zpE h2).2.1
abbrev evI (n:Nat) (frs:List Fr) (s:Sch) (tb:List Tb) (r:Rw):X->V × Int:=fun x=>eval n x (zat frs s r.vals) tb
def cTr (n:Nat) (a:Ac) (frs:List Fr) (s:Sch) (tb:List Tb) (r:Rw):Bool × Int:=zaU (evI n frs s tb r) a.wh
def cAg (n:Nat) (a:Ac) (frs:List Fr) (s:Sch) (tb:List Tb) (r:Rw):List V × Int:=asgn (evI n frs s tb r) a s r.vals (zat frs s r.vals) tb
def cIns (n:Nat) (a:Ac) (frs:List Fr) (s:Sch) (tb:List Tb):List (List V) × Int:=insB (fun x=>eval n x frs tb) (fun q=>zbm n q frs tb) s a
def zaq (n:Nat) (a:Ac) (frs:List Fr) (tb:List Tb):Ch × Int :=
 bif (tgt a (actB (vX n) a) tb).2 != 0 then zwV a (tgt a (actB (vX n) a) tb).1 (tgt a (actB (vX n) a) tb).2
 else bif a.kind==1 then zmA (cIns n a frs (tabC tb a.table).sch tb) a
 else bif a.kind==3 then zoy (cTr n a frs (tabC tb a.table).sch tb) a (tabC tb a.table).sch frs tb
 else zoz (cTr n a frs (tabC tb a.table).sch tb) (cAg n a frs (tabC tb a.table).sch tb) a (tabC tb a.table).sch frs tb
section
variable {n : Nat} {a : Ac} {frs : List Fr} {tb : List Tb}
theorem DmlIn.target (h:DmlIn n a frs tb):zab E0 S.By [a.av,tsl tb] [] (.tup [(tgt a (actB (vX n) a) tb).1.av,iv (tgt a (actB (vX n) a) tb).2]) []:=by
 have hk:=h.kd
 exact ztf a (actB (vX n) a) tb Zp Zp h.to.len h.to.cols (zkv h.ac hk)
theorem DmlIn.ins (h:DmlIn n a frs tb) {t:Tb} (ht:t∈tb) {r:Rw} (hr:r∈t.rows):FsOk n (zat frs t.sch r.vals)/\FsG (zat frs t.sch r.vals) :=
 ⟨h.fo.eins (t:=t) (h.to.cols t ht) (h.tg.vals t ht r hr),h.fg.ins (t:=t) (h.tg.vals t ht r hr)⟩
theorem zyq (h:DmlIn n a frs tb):Pure S.Ai [a.av,fsl frs,tsl tb] (.tup [(zaq n a frs tb).1.av,iv (zaq n a frs tb).2]):=by
 have ht:=h.target
 unfold zaq
 cases h0:(tgt a (actB (vX n) a) tb).2 != 0
 ·obtain ⟨hb,hs,he,hc⟩:=tgt_ok h0
  rw [he,hc] at ht
  obtain ⟨h1,h2,h3,h4⟩:=zpE hs
  have hfs:zac frs:=h.fo.short
  have hcol:=h.to.cols _ h3
  have hrw:zac (tabC tb a.table).rows:=by have:=h.to.rows _ h3;simp only [zac];omega
  have htr:∀ r∈(tabC tb a.table).rows,Pure S.AD [xsl a.wh,fsl (zat frs (tabC tb a.table).sch r.vals),tsl tb] (.tup [bv (cTr n a frs (tabC tb a.table).sch tb r).1,iv (cTr n a frs (tabC tb a.table).sch tb r).2]):=fun r hr =>
   zoo (fun x hx=>zdx n x _ tb (h.ac.w x hx) (h.ins h3 hr).1 (h.ins h3 hr).2 h.to h.tg) (fun x hx=>zbH n x _ tb (h.ac.w x hx) (h.ins h3 hr).2 h.tg)
  simp only [cond_false]
  cases k1:a.kind==1
  ·simp only [cond_false]
   cases k3:a.kind==3
   ·simp only [cond_false]
    exact zlf _ _ a (tabC tb a.table).sch frs tb k1 k3 h.to.len hfs ht (znD tb a h.to.len) h4 hrw (h.tv _ h3) htr fun r hr =>
     zjL _ a _ r.vals _ tb (h.tv _ h3 r hr) hcol (zaM h.ac.sets) fun x hx=>zdx n x.ex _ tb (h.ac.set x hx) (h.ins h3 hr).1 (h.ins h3 hr).2 h.to h.tg
   ·simp only [cond_true]
    exact zlc _ a (tabC tb a.table).sch frs tb k1 k3 h.to.len hfs ht (znD tb a h.to.len) h4 hrw htr
  ·simp only [cond_true]
   have hr:=h.ac.rows
   have hq:=h.ac.query
   exact zle _ a (tabC tb a.table).sch frs tb k1 ht (zp5 a _ frs tb _ _ hcol (by simp only [Few] at hr;omega) (fun r hr=>⟨zaM (h.ac.row r hr).1,fun x hx=>zdx n x frs tb ((h.ac.row r hr).2 x hx) h.fo.less h.fg h.to h.tg⟩) hq fun q hq =>
    ⟨by have:=zlF (n:=n) (q:=q) (frs:=frs) h.to;omega,zoq ⟨(h.ac.qs q hq).items,(h.ac.qs q hq).hi,(h.ac.qs q hq).hw⟩ h.fo h.to h.fg h.tg h.tv⟩)
 ·simp only [cond_true]
  exact zld a _ _ frs tb h0 ht
end
theorem wkcK {f:FuncId} {fn:Func} {args:List AV} {h:Heap} {R:AV->Heap->Prop} {c':Cfg} (hf:E0.P.funcs[f]?=some fn) (l:List St) (live:List Nat) (m:Nat) (hu:zkW fn args h live m (orcs l)=some (zbl l,c'))
  (hg:Good E0 fn h c' R):zbG E0 f args h R:=by
 unfold zkW at hu
 split at hu
 ·rename_i c hb hn ha hm
  exact zyT E0ok mix0 hf hb hn ha 3000 l live m hm (Option.some.inj hu) hg
 ·cases hu
theorem zyd {f:FuncId} {fn:Func} {args:List AV} {h:Heap} {R:AV->Heap->Prop} {c':Cfg} (hf:E0.P.funcs[f]?=some fn) (l:List St) (live:List Nat) (m:Nat) (k:List (Ct × Nat)) (hu:zpF fn args h live m k (orcs l)=some (zbl l,c'))
  (hg:Good E0 fn h c' R):zbG E0 f args h R:=by
 unfold zpF at hu
 split at hu
 ·rename_i q c1 h1
  unfold zkW at h1
  split at h1
  ·rename_i c hb hn ha hm
   obtain ⟨q2,h2⟩:=zjE hu
   have h3:=zbb l
   have h4:allP q:=by
    rw [h2] at h3
    exact (zd3 h3).1
   exact za6 hf hb hn (Nat.le_of_ble_eq_true ha) (zmq hm (Option.some.inj h1) h4 (zoC hu h3 hg))
  ·cases h1
 ·cases hu
theorem wkrK {fn:Func} {h0:Heap} {c:Cfg} {r:AV} {H:Heap} (l:List St) (hfin:finK (mk E0) fn 3000 c (orcs l)=some (zbl l,r,H)):Good E0 fn h0 c (fun y h=>y=r/\h=H) :=
 zdY E0ok mix0 3000 l hfin ⟨rfl,rfl⟩
theorem zkQ {p:Prop} (h:p:=by first|assumption|(simp only [zac] at *;omega)|exact ⟨Nat.le_refl _,rfl⟩|exact inq0 ‹_› hr|(simp;done)):p:=h
theorem zkR {p:Prop} (h:p:=by first|assumption|rfl|exact ⟨Nat.zero_le _,rfl⟩|omega):p:=h
theorem insD1 {f:X->V × Int} {g:Qy->List (List V) × Int} {s:Sch} {a:Ac} {r:List (List V)} {c:Int} (h0:(insB f g s a).2=0) (h:r=[]/\c≠0/\insL f s.cols.length a.rows []=([],c)):False:=by
 have h1:=zs6 (g:=g) (r:=r) (c:=c) h
 rw [← h1] at h0;exact h.2.1 h0
theorem insD2 {f:X->V × Int} {g:Qy->List (List V) × Int} {s:Sch} {a:Ac} {out1 r:List (List V)} {c:Int} (h0:(insB f g s a).2=0) (q1:out1.length<=a.rows.length/\insL f s.cols.length a.rows []=insL f s.cols.length (a.rows.drop a.rows.length) out1) (h:r=[]/\c≠0/\insQ g s a.query (insA f s a)=([],c)):False:=by
 have h1:=zs7 (r:=r) (c:=c) q1 h
 rw [← h1] at h0;exact h.2.1 h0
theorem insD3 {f:X->V × Int} {g:Qy->List (List V) × Int} {s:Sch} {a:Ac} {r:List (List V)} (h:(r,(0:Int))=insB f g s a):r=(insB f g s a).1:=by rw [← h]
theorem zop (a:Ac) (s:Sch) (frs:List Fr) (tb:List Tb) (f:X->V × Int) (g:Qy->List (List V) × Int) (h0:(insB f g s a).2=0) (hs:zac s.cols) (hr:a.rows.length<=1000000) (hf:∀ r∈a.rows,zac r/\∀ x∈r,PEv f x frs tb) (hq:a.query.length<=1000) (hg:∀ q∈a.query,(g q).1.length<=100000/\PRw g q frs tb):∃ (out:List (List V)),out=(insB f g s a).1/\zab E0 S.Ax [a.av,s.av,fsl frs,tsl tb] [] (.tup [.own 2 out.length,iv 0]) [.box a.cells,.box s.cells,.row Ty.LValue (out.map vrow) false]:=by
 rcases zd0 a s frs tb f zkQ zkQ hf 0 ([]) zkQ zkQ with ⟨out1,q1,q1_1,g1⟩|⟨r1_0,r1_1,p1_0,g1⟩
 ·rcases zdZ a s frs tb f g hf zkQ hg 0 out1 zkQ zkQ with ⟨out2,q2,q2_1,g2⟩|⟨r2_0,r2_1,p2_0,g2⟩
  ·exact ⟨out2,(by exact insD3 (zp1 ‹_› ‹_›)),zyd At.Ax [] [2,3,4,5,10,23,24,25] 2 [(.ot 10 Ty.LValue,3)] kr (g1 _ (zaa (wkl [sb q1_1] [2,3,5,10,62,63,64] 3 kr (g2 _ (zaa (wkrK [sb q2_1] kr))))))⟩
  ·exact (insD2 h0 q1 p2_0).elim
 ·exact (insD1 h0 p1_0).elim
theorem zwJ (a:Ac) (s:Sch) (frs:List Fr) (tb:List Tb) (out:List (List V)) (hk1:(a.kind==1)=true) (hv:zab E0 S.By [a.av,tsl tb] [] (.tup [s.av,iv 0]) []) (hi:zab E0 S.Ax [a.av,s.av,fsl frs,tsl tb] [] (.tup [.own 2 out.length,iv 0]) [.box a.cells,.box s.cells,.row Ty.LValue (out.map vrow) false]):∃ (o2:List (List V)),o2=out/\zab E0 S.Ai [a.av,fsl frs,tsl tb] [] (.tup [.agg [.own 5 o2.length,.nl,.nl],iv 0]) [.box a.cells,.box [.own 5 o2.length,.nl,.nl],.box s.cells,.box a.cells,.box s.cells,.row Ty.LValue (o2.map vrow) false]:=by
 exact ⟨out,Zr,wkK At.Ai [sc hv,sb Zf,sb hk1,sc hi,sb Zf] kr⟩
abbrev updQ (tr:Rw->Bool × Int) (ag:Rw->List V × Int) (l:List Rw):List Pr:=[]++(l.filter fun r=>(tr r).1).map fun (r:Rw)=>(⟨r.id,r.vals,(ag r).1⟩:Pr)
theorem zzC {tr:Rw->Bool × Int} {ag:Rw->List V × Int} {l:List Rw} {u:List Pr} {i:Nat} {x:Rw} (h:u.length<=i/\u=updQ tr ag (l.take i)) (hx:l[i]?=some x) (h1:(!(tr x).1)=true):u.length<=i+1/\u=updQ tr ag (l.take (i+1)):=by
 have h2:(tr x).1=false:=by simpa using h1
 refine ⟨by omega,?_⟩
 rw [h.2,List.take_add_one,hx];simp [updQ,h2]
theorem zzD {tr:Rw->Bool × Int} {ag:Rw->List V × Int} {l:List Rw} {u:List Pr} {i:Nat} {x:Rw} (h:u.length<=i/\u=updQ tr ag (l.take i)) (hx:l[i]?=some x) (h1:(!(tr x).1)=false):(u++[(⟨x.id,x.vals,(ag x).1⟩:Pr)]).length<=i+1/\u++[(⟨x.id,x.vals,(ag x).1⟩:Pr)]=updQ tr ag (l.take (i+1)):=by
 have h2:(tr x).1=true:=by simpa using h1
 refine ⟨by simp;omega,?_⟩
 rw [h.2,List.take_add_one,hx];simp [updQ,h2]
noncomputable def L_cqL (tr:Rw->Bool × Int) (ag:Rw->List V × Int) (a:Ac) (s:Sch) (frs:List Fr) (tb:List Tb) (t:Tb) (i:Nat) (upd:List Pr):Cfg:=zag B.Ai 0 [(1,fsl frs),(2,tsl tb),(3,.p 0 0),(6,.p 1 0),(8,.p 2 0),(12,.p 3 0),(55,.sl (t.rows.map Rw.cells)),(56,iv ((t.rows.map Rw.cells).length:Nat)),(57,iv (i:Nat))] [.box a.cells,.box [.nl,.nl,.nl],.box s.cells,.box [.nl,.nl,.own 4 upd.length],.row Ty.Pair (upd.map Pr.cells) false]
theorem zgR (tr:Rw->Bool × Int) (ag:Rw->List V × Int) (a:Ac) (s:Sch) (frs:List Fr) (tb:List Tb) (t:Tb) (h3:zac frs) (hk3:(a.kind==3)=false) (hl:zac t.rows) (hv:∀ r∈t.rows,zac r.vals) (ht:∀ r∈t.rows,Pure S.AD [xsl a.wh,fsl (zat frs s r.vals),tsl tb] (.tup [bv (tr r).1,iv 0])) (hag:∀ r∈t.rows,(!(tr r).1)=false->Pure S.Bw [a.av,s.av,vsl r.vals,fsl (zat frs s r.vals),tsl tb] (.tup [vsl (ag r).1,iv 0])) (i:Nat) (upd:List Pr) (hi:i<=(t.rows).length) (hI:upd.length<=i/\upd=updQ tr ag (t.rows.take i)):∃ (upd':List Pr),(upd'.length<=(t.rows).length/\upd'=updQ tr ag (t.rows.take (t.rows).length))/\(decide ((((t.rows).length:Nat):Int) < (((t.rows.map Rw.cells).length:Nat):Int))=false)/\∀ R,Good E0 B.Ai [] (L_cqL tr ag a s frs tb t (t.rows).length upd') R->Good E0 B.Ai [] (L_cqL tr ag a s frs tb t i upd) R:=by
 have hk:=hi;revert i upd;refine zlp ((t.rows).length) (fun i hlt ih upd hi hI _=>?_)
 obtain ⟨x,hx,h0,hw⟩:=zlq (l:=t.rows) ((t.rows.map Rw.cells).length) hlt
 have hm:=List.mem_of_getElem? hx;have hfx:=ht x hm;have hga:=hag x hm;have hvx:=hv x hm;have ho:upd.length<=1000000000:=(by have:=hI.1;simp only [zac] at hl;omega)
 let p_1:List St:=[sb h0,se (zae Rw.cells hx rfl),sc (zhP frs s x.vals (by first|assumption|omega|(simp;done)|(simp;omega))),sc hfx,sb Zf]
 cases h1:!(tr x).fst
 ·exact Zih (ih (upd++[Pr.mk x.id x.vals (ag x).fst]) Zo (by first|exact zzC hI hx ‹_›|exact zzD hI hx ‹_›) Zo) fun R gY=>zaa (wkl (p_1++[sb h1,sb hk3,sc (hga (by first|assumption|omega|(simp;done)|(simp;omega))),sb Zf,sd [(6,[sc (zaS x.vals (by first|assumption|omega|(simp;done)|(simp;omega)))]),(9,[sqx (True/\x.vals.length=(List.map V.cells x.vals).length/\True/\True)]),(10,[sqA (List.map Pr.cells upd) [[iv x.id,vsl x.vals,AV.sl (List.map V.cells (ag x).fst)]] upd.length 3 56])],si hw]) [1,2,3,6,8,12,55,56,57] 5 kr (zaA rfl (show ([Blk.box [iv a.kind,sv a.table,AV.sl (List.map (fun r=>[AV.sl (zad r)]) a.rows),AV.sl (zah a.query),ZE a.sets,AV.sl (zad a.wh),sv a.text],Blk.box [AV.nl,AV.nl,AV.nl],Blk.box s.cells,Blk.box [AV.nl,AV.nl,AV.own 4 (List.map Pr.cells upd++[[iv x.id,vsl x.vals,AV.sl (List.map V.cells (ag x).fst)]]).length],Blk.row Ty.Pair (List.map Pr.cells upd++[[iv x.id,vsl x.vals,AV.sl (List.map V.cells (ag x).fst)]]) false]:Heap)=_ from Zcv4) gY))
 ·exact Zih (ih upd Zo (by first|exact zzC hI hx ‹_›|exact zzD hI hx ‹_›) Zo) fun R gY=>zaa (wkl (p_1++[sb h1,si hw]) [1,2,3,6,8,12,55,56,57] 5 kr gY)
theorem zwK (tr:Rw->Bool × Int) (ag:Rw->List V × Int) (a:Ac) (s:Sch) (frs:List Fr) (tb:List Tb) (hk1:(a.kind==1)=false) (hk3:(a.kind==3)=false) (h2:zac tb) (h3:zac frs) (hv:zab E0 S.By [a.av,tsl tb] [] (.tup [s.av,iv 0]) []) (hix:zab E0 S.Ag [.sl (tb.map Tb.cells),.fn S.Bs [.p 0 0]] [.box a.cells] (iv (idxF (fun t=>zan t a.table) tb 0)) [.box a.cells]) (hn:decide (idxF (fun t=>zan t a.table) tb 0 < 0)=false) (hl:zac (tabC tb a.table).rows) (hvl:∀ r∈(tabC tb a.table).rows,zac r.vals) (ht:∀ r∈(tabC tb a.table).rows,Pure S.AD [xsl a.wh,fsl (zat frs s r.vals),tsl tb] (.tup [bv (tr r).1,iv 0])) (hag:∀ r∈(tabC tb a.table).rows,(!(tr r).1)=false->Pure S.Bw [a.av,s.av,vsl r.vals,fsl (zat frs s r.vals),tsl tb] (.tup [vsl (ag r).1,iv 0])):∃ (upd:List Pr),upd=updQ tr ag (tabC tb a.table).rows/\zab E0 S.Ai [a.av,fsl frs,tsl tb] [] (.tup [.agg [.nl,.nl,.own 4 upd.length],iv 0]) [.box a.cells,.box [.nl,.nl,.own 4 upd.length],.box s.cells,.box [.nl,.nl,.own 4 upd.length],.row Ty.Pair (upd.map Pr.cells) false]:=by
 obtain ⟨upd1,q1,q1_1,g1⟩:=zgR tr ag a s frs tb (tabC tb a.table) zkR zkR zkR zkR ht hag 0 ([]) zkR zkR
 exact ⟨upd1,(by (have hq:=And.right ‹_/\_›;rw [List.take_length] at hq;exact hq)),zyd At.Ai [sc hv,sb Zf,sb hk1,sl [0] hix,se (zmG tb a.table zkR)] [1,2,3,6,8,12,55,56,57] 4 [(.ob 3 2 Ty.Pair,5)] kr (g1 _ (zaa (wkrK [sb q1_1] kr)))⟩
/- ### the order of values -/
theorem zc8 (a:ByteArray):a.toList=a.data.toList:=Lib.toList_data a
theorem zj2 {a b:Str} (h:a.toList=b.toList):a=b:=by
 rw [zc8,zc8] at h
 cases a;cases b;simp at h;rw [h]
theorem zmD {a b:Int} (h:a < b):cmpI a b=-1:=by simp [cmpI,h]
theorem zmB {a b:Int} (h:a=b):cmpI a b=0:=by simp [cmpI,h]
theorem zmC {a b:Int} (h:b < a):cmpI a b=1:=by
 have:¬ a < b:=by omega
 simp [cmpI,h,this]
/- ### least and greatest items -/
/- ### sums -/
abbrev frIn (frs:List Fr) (s:Sch):List Fr:=frs++[⟨s.name,false,s.cols,[]⟩]
abbrev xA (k o:Int) (nt:Bool) (l:List X):X:=X.mk k o nt ⟨0,0,⟨#[]⟩⟩ ⟨#[]⟩ ⟨#[]⟩ l []
abbrev xQ (k:Int) (st:Bool) (it:List X) (f:Str) (wh:List X):X:=X.mk k 0 false ⟨0,0,⟨#[]⟩⟩ ⟨#[]⟩ ⟨#[]⟩ [] [Qy.mk st it f wh]
def ColT (frs:List Fr) (w:Int) (x:X):Prop:=∃ (i:Nat) (f:Fr) (c:Col) (a:Str),frs[i]?=some f/\c∈f.cols/\c.type=w/\x=xCol a c.name/\(a=f.name\/(a=⟨#[]⟩/\f.strict=false/\i+1=frs.length))
def BinT (op w' w:Int):Prop:=(1<=op/\op<=2/\w'=2/\w=2)\/(3<=op/\op<=8/\w=2)\/(9<=op/\op<=13/\w'=1/\w=1)
def QryT (k w:Int) (st:Bool) (m:Nat):Prop:=(k=8/\w=2/\st=true/\m=0)\/(k=9/\w=1/\st=false/\m=0)\/(10<=k/\k<=12/\w=1/\st=false/\m=1)
inductive XT (tbs:List Sch):Nat->List Fr->Int->X->Prop
 | lit {n:Nat} {frs:List Fr} {w:Int} {v:V}:v.Good->(v.kind=0\/v.kind=w)->(v.kind=1->0<=v.int)->XT tbs (n+1) frs w (xLit v)
 | col {n:Nat} {frs:List Fr} {w:Int} {x:X}:ColT frs w x->XT tbs (n+1) frs w x
 | un {n:Nat} {frs:List Fr} {k w:Int} {a:X}:(k=3/\w=2\/k=4/\w=1)->XT tbs n frs w a->XT tbs (n+1) frs w (xA k 0 false [a])
 | isn {n:Nat} {frs:List Fr} {w:Int} {nt:Bool} {a:X}:XT tbs n frs w a->XT tbs (n+1) frs 2 (xA 6 0 nt [a])
 | bin {n:Nat} {frs:List Fr} {op w' w:Int} {a b:X}:BinT op w' w->XT tbs n frs w' a->XT tbs n frs w' b->XT tbs (n+1) frs w (xA 5 op false [a,b])
 | btw {n:Nat} {frs:List Fr} {a b c:X}:XT tbs n frs 1 a->XT tbs n frs 1 b->XT tbs n frs 1 c->XT tbs (n+1) frs 2 (xA 7 0 false [a,b,c])
 | qry {n:Nat} {frs:List Fr} {k w:Int} {st:Bool} {it wh:List X} {s:Sch}:s∈tbs->QryT k w st it.length->wh.length<=1->(∀ x∈it,XT tbs n (frIn frs s) 1 x)->(∀ x∈wh,XT tbs n (frIn frs s) 2 x)->XT tbs (n+1) frs w (xQ k st it s.name wh)
theorem ColT.is {frs:List Fr} {w:Int} {x:X} (h:ColT frs w x):zrz x:=by
 obtain ⟨i,f,c,a,_,_,_,h,_⟩:=h
 exact ⟨a,c.name,h⟩
theorem XT.ok {tbs:List Sch} {n:Nat} {frs:List Fr} {w:Int} {e:X} (h:XT tbs n frs w e):XOk n e:=by
 induction h with
 | lit h _ _=>exact zql h
 | col h=>exact zCf h.is
 | un _ _ ih=>exact xok_1 ih
 | isn _ ih=>exact xok_1 ih
 | bin _ _ _ i1 i2=>exact xok_2 i1 i2
 | btw _ _ _ i1 i2 i3=>exact xok_3 i1 i2 i3
 | @qry n frs k w st it wh s hs hq hw _ _ i1 i2 =>
  refine xok_q ?_ i1 i2 hw
  rcases hq with ⟨_,_,_,h⟩|⟨_,_,_,h⟩|⟨_,_,_,_,h⟩ <;> simp [Thin,h]
theorem XT.mono {tbs:List Sch} {n:Nat} {frs:List Fr} {w:Int} {e:X} (h:XT tbs n frs w e):XT tbs (n+1) frs w e:=by
 induction h with
 | lit h h2 h3=>exact .lit h h2 h3
 | col h=>exact .col h
 | un h _ ih=>exact .un h ih
 | isn _ ih=>exact .isn ih
 | bin h _ _ i1 i2=>exact .bin h i1 i2
 | btw _ _ _ i1 i2 i3=>exact .btw i1 i2 i3
 | qry hs hq hw _ _ i1 i2=>exact .qry hs hq hw i1 i2
theorem XT.le {tbs:List Sch} {n m:Nat} {frs:List Fr} {w:Int} {e:X} (h:XT tbs n frs w e) (hm:n<=m):XT tbs m frs w e:=by
 induction hm with
 | refl=>exact h
 | step _ ih=>exact ih.mono
structure EnvT (G:Str->List Col):Prop where
 name:∀ n c,c∈G n->zaD c.name=true
 at_:∀ n (i:Nat) c,(G n)[i]?=some c->idxF (fun x=>colC x c.name) (G n) 0=(i:Int)
structure FsT' (G:Str->List Col) (frs:List Fr):Prop where
 cols:∀ f∈frs,f.cols=G f.name
 qual:∀ f∈frs,zem f.name=true
 ne:∀ f∈frs,f.name≠⟨#[]⟩
structure TbE (G:Str->List Col) (tbs:List Sch) (tb:List Tb):Prop where
 cols:∀ s∈tbs,s.cols=G s.name
 src:∀ s∈tbs,zbQ s.name=true
 get:∀ s∈tbs,zaG tb s.name=(s,true)
theorem zAP {s:Str} (h:zaD s=true):s≠⟨#[]⟩:=fun e=>by subst e;exact absurd h Zd
theorem zB6 {s:Str} (h:zbQ s=true):zem s=true/\s≠⟨#[]⟩:=by
 have h0:zbQ ⟨#[]⟩=false:=by kernel_rfl
 refine ⟨?_,fun e=>by subst e;rw [h0] at h;cases h⟩
 simp only [zbQ,Bool.or_eq_true] at h
 simp only [zem,Bool.or_eq_true]
 rcases h with (h|h)|h
 ·exact .inr h
 ·exact .inl (.inl (.inr h))
 ·exact .inl (.inr h)
theorem FsT'.ins {G:Str->List Col} {tbs:List Sch} {tb:List Tb} {frs:List Fr} (h:FsT' G frs) (ht:TbE G tbs tb) {s:Sch} (hs:s∈tbs):FsT' G (frIn frs s):=by
 have h1:=zB6 (ht.src s hs)
 refine ⟨fun f hf=>?_,fun f hf=>?_,fun f hf=>?_⟩ <;> simp only [List.mem_append,List.mem_singleton] at hf <;> rcases hf with hf|rfl
 ·exact h.cols f hf
 ·exact ht.cols s hs
 ·exact h.qual f hf
 ·exact h1.1
 ·exact h.ne f hf
 ·exact h1.2
theorem zAL {G:Str->List Col} (hG:EnvT G) {frs:List Fr} (hf:FsT' G frs) {a n:Str} {c:Col} {i:Nat} {f:Fr} (hi:frs[i]?=some f) (hc:c∈f.cols) (hn:c.name=n) (ha:a=f.name\/(a=⟨#[]⟩/\f.strict=false/\i+1=frs.length)):∀ k,i < k->k<=frs.length->∃ (j m:Nat) (g:Fr),rres frs a n k=((j:Int),(m:Int),true)/\frs[j]?=some g/\g.cols[m]?=some c:=by
 intro k
 induction k with
 | zero=>intro h;omega
 | succ k ih =>
  intro h1 h2
  have hx:=zmK (l:=frs) (k:=k) zaP Zo
  generalize hg:frs.getD k zaP=g at hx
  have hgm:=List.mem_of_getElem? hx
  have hhit:c∈g.cols->zcu frs a n k g (rres frs a n k) g.cols 0=((k:Int),idxF (fun x=>colC x n) g.cols 0,true)/\∃ m:Nat,idxF (fun x=>colC x n) g.cols 0=(m:Int)/\g.cols[m]?=some c:=fun hcg=>by
   obtain ⟨m,hm⟩:=List.getElem?_of_mem hcg
   have e:idxF (fun x=>colC x n) g.cols 0=(m:Int):=by
    have:=hG.at_ g.name m c (by rw [← hf.cols g hgm];exact hm)
    rw [hn,← hf.cols g hgm] at this;exact this
   refine ⟨?_,m,e,hm⟩
   rw [zkF,e]
   have e1:decide ((0:Int)<=(m:Int))=true:=by simp
   have e2:pm1 (k+1)=(k:Int):=by simp [pm1]
   rw [e1,e2];rfl
  have hfin:c∈g.cols->∃ (j m:Nat) (g':Fr),zcu frs a n k g (rres frs a n k) g.cols 0=((j:Int),(m:Int),true)/\frs[j]?=some g'/\g'.cols[m]?=some c:=fun hcg=>by
   obtain ⟨q1,m,q2,q3⟩:=hhit hcg
   exact ⟨k,m,g,by rw [q1,q2],hx,q3⟩
  have hsame:k=i->c∈g.cols:=fun e=>by
   subst e
   rw [hi,Option.some.injEq] at hx
   exact hx ▸ hc
  simp only [rres,hg]
  rcases ha with rfl|⟨rfl,h3,h4⟩
  ·have e0:(ByteArray.toList f.name==Zs0.toList)=false:=by
    cases hb:ByteArray.toList f.name==Zs0.toList
    ·rfl
    ·exact absurd (zj2 (by simpa using hb)) (hf.ne f (List.mem_of_getElem? hi))
   rw [e0,cond_false]
   cases hb:ByteArray.toList g.name==ByteArray.toList f.name
   ·simp only [Bool.not_false,cond_true]
    refine ih ?_ Zo
    rcases Nat.lt_or_ge i k with h|h
    ·exact h
    ·exfalso
     have e:k=i:=by omega
     subst e
     rw [hi,Option.some.injEq] at hx
     subst hx
     simp at hb
   ·simp only [Bool.not_true,cond_false]
    refine hfin ?_
    rw [hf.cols g hgm,zj2 (by simpa using hb:g.name.toList=f.name.toList),← hf.cols f (List.mem_of_getElem? hi)]
    exact hc
  ·have e0:(ByteArray.toList (⟨#[]⟩:Str)==Zs0.toList)=true:=by simp
   have e1:k=i:=by omega
   have hgf:g=f:=by
    have:=hx;rw [e1,hi,Option.some.injEq] at this;exact this.symm
   rw [e0,cond_true,hgf,h3,cond_false,← hgf]
   exact hfin (hsame e1)
theorem ColT.res {G:Str->List Col} (hG:EnvT G) {frs:List Fr} (hf:FsT' G frs) {w:Int} {x:X} (h:ColT frs w x):∃ a n,x=xCol a n/\(zaF frs a n).2.2=true/\(rCol frs a n).type=w/\zem a=true/\zaD n=true:=by
 obtain ⟨i,f,c,a,hi,hc,hw,rfl,ha⟩:=h
 obtain ⟨j,m,g,e,h1,h2⟩:=zAL hG hf hi hc rfl ha frs.length (List.getElem?_eq_some_iff.1 hi).1 (Nat.le_refl _)
 have e':zaF frs a c.name=((j:Int),(m:Int),true):=e
 refine ⟨a,c.name,rfl,by rw [e'],?_,?_,hG.name f.name c (by rw [← hf.cols f (List.mem_of_getElem? hi)];exact hc)⟩
 ·have e1:rFr frs a c.name=g:=by simp [rFr,e',List.getD_eq_getElem?_getD,h1]
  have e2:rCol frs a c.name=c:=by simp [rCol,e1,e',List.getD_eq_getElem?_getD,h2]
  rw [e2,hw]
 ·rcases ha with rfl|⟨rfl,_,_⟩
  ·exact hf.qual f (List.mem_of_getElem? hi)
  ·kernel_rfl
section
variable {n : Nat} {a : Ac} {frs : List Fr} {tb : List Tb}
end
abbrev sN:Str:=⟨#[110]⟩
theorem zzV (v:V):zbv (xLit v) 4=true:=by kernel_rfl
theorem zzU (a b:Str):zbv (xCol a b) 8=true:=by kernel_rfl
theorem zyl (k:Int) (l:List X):zbv (xA k 0 false l) 16=true:=by kernel_rfl
theorem bare_5 (o:Int) (l:List X):zbv (xA 5 o false l) 17=true:=by kernel_rfl
theorem bare_6 (nt:Bool) (l:List X):zbv (xA 6 0 nt l) 18=true:=by kernel_rfl
theorem bare_Q (k:Int) (st:Bool) (it:List X) (f:Str) (wh:List X):zbv (xQ k st it f wh) 32=true:=by kernel_rfl
section
variable {G : Str -> List Col} {tbs : List Sch} {tb : List Tb} {n : Nat} {frs : List Fr} {w : Int} {e : X}
theorem XT.vx (hG:EnvT G) (ht:TbE G tbs tb) (h:XT tbs n frs w e):FsT' G frs->vX n e=true:=by
 induction h with
 | @lit n frs w v hg _ hi =>
  intro _
  have h1:(!(bif v.kind==1 then decide (v.int < 0) else false))=true:=by
   cases hk:v.kind==1
   ·rfl
   ·have:=hi (by simpa using hk)
    simp;omega
  show (bif zbv (xLit v) 4 then (bif zaW v then !(bif v.kind==1 then decide (v.int < 0) else false) else false) else false)=true
  rw [zzV,hg.valid,h1];rfl
 | @col n frs w x h =>
  intro hf
  obtain ⟨a,b,rfl,_,_,h1,h2⟩:=h.res hG hf
  show (bif zbv (xCol a b) 8 then zkn (xCol a b) else false)=true
  have h3:zkn (xCol a b)=true:=by show (zem a&&zaD b)=true;rw [h1,h2];rfl
  rw [zzU,h3];rfl
 | @un n frs k w a hk _ ih =>
  intro hf
  have h0:=ih hf
  have h1:zeu (vX n) (xA k 0 false [a])=true:=by
   rcases hk with ⟨rfl,_⟩|⟨rfl,_⟩ <;> (show (bif _ then (vX n a&&true) else false)=true;rw [h0];rfl)
  have h2:=zyl k [a]
  rcases hk with ⟨rfl,_⟩|⟨rfl,_⟩ <;> (show (bif !zbv _ 16 then false else zeu (vX n) _)=true;rw [h2,h1];rfl)
 | @isn n frs w nt a _ ih =>
  intro hf
  have h1:zeu (vX n) (xA 6 0 nt [a])=true:=by show (bif _ then (vX n a&&true) else false)=true;rw [ih hf];rfl
  show (bif !zbv _ 18 then false else zeu (vX n) _)=true
  rw [bare_6,h1];rfl
 | @bin n frs op w' w a b hb _ _ i1 i2 =>
  intro hf
  have h1:zeu (vX n) (xA 5 op false [a,b])=true:=by show (bif _ then (vX n a&&(vX n b&&true)) else false)=true;rw [i1 hf,i2 hf];rfl
  have h2:decide (op < 1)=false/\decide (13 < op)=false:=by
   rcases hb with h|h|h <;> simp <;> omega
  show (bif decide (op < 1) then false else bif decide (13 < op) then false else bif !zbv _ 17 then false else zeu (vX n) _)=true
  rw [h2.1,h2.2,bare_5,h1];rfl
 | @btw n frs a b c _ _ _ i1 i2 i3 =>
  intro hf
  have h1:zeu (vX n) (xA 7 0 false [a,b,c])=true:=by show (bif _ then (vX n a&&(vX n b&&(vX n c&&true))) else false)=true;rw [i1 hf,i2 hf,i3 hf];rfl
  show (bif !zbv _ 16 then false else zeu (vX n) _)=true
  rw [zyl,h1];rfl
 | @qry n frs k w st it wh s hs hq hw _ _ i1 i2 =>
  intro hf
  have hfi:=hf.ins ht hs
  have h1:it.all (vX n)=true:=List.all_eq_true.2 fun x hx=>i1 x hx hfi
  have h2:wh.all (vX n)=true:=List.all_eq_true.2 fun x hx=>i2 x hx hfi
  have h3:zcU (vX n) (xQ k st it s.name wh)=true:=by
   show zlN (vX n) (k==8) (k==9) (Qy.mk st it s.name wh)=true
   simp only [zlN,Qy.star_mk,Qy.items_mk,Qy.frm_mk,Qy.wh_mk,zbK,h1,h2,ht.src s hs,Bool.and_true]
   have h4:decide ((wh.length:Int)<=1)=true:=by simp;omega
   rw [h4]
   rcases hq with ⟨rfl,_,rfl,h⟩|⟨rfl,_,rfl,h⟩|⟨h5,h6,_,rfl,h⟩
   ·rw [h];rfl
   ·rw [h];rfl
   ·have hk:k=10\/k=11\/k=12:=by omega
    rw [h]
    rcases hk with rfl|rfl|rfl <;> rfl
  have hk:k=8\/k=9\/k=10\/k=11\/k=12:=by rcases hq with h|h|h <;> omega
  have h4:=bare_Q k st it s.name wh
  rcases hk with rfl|rfl|rfl|rfl|rfl <;> (show (bif zbv _ 32 then zcU (vX n) _ else false)=true;rw [h4,h3];rfl)
theorem zm4 {k op:Int} {nt:Bool} {l:List X} (h:(k=3\/k=4\/k=6)/\l.length=1\/k=5/\l.length=2/\1<=op/\op<=13\/k=7/\l.length=3):zcI (xA k op nt l)=true:=by
 show zfs k op l=true
 rcases h with ⟨rfl|rfl|rfl,h⟩|⟨rfl,h,h1,h2⟩|⟨rfl,h⟩ <;> simp [zfs,h]
 all_goals omega
theorem zB5 {k:Int} {st:Bool} {it wh:List X} {f:Str} (hq:QryT k w st it.length) (hw:wh.length<=1):zcI (xQ k st it f wh)=true:=by
 show zdX k 0 [] [Qy.mk st it f wh] st it wh=true
 have hkk:k=8\/k=9\/k=10\/k=11\/k=12:=by rcases hq with h|h|h <;> omega
 have h0:decide ((wh.length:Int)<=1)=true:=by simp;omega
 rcases hq with ⟨rfl,_,rfl,h⟩|⟨rfl,_,rfl,h⟩|⟨h1,h2,_,rfl,h⟩
 ·simp [zdX,h];omega
 ·simp [zdX,h];omega
 ·rcases hkk with rfl|rfl|rfl|rfl|rfl <;> first|omega|(simp [zdX,h];omega)
end
section
variable {G : Str -> List Col} {tbs : List Sch} {tb : List Tb} {n : Nat} {frs : List Fr} {w : Int} {e : X}
abbrev OpK (k:Int):Prop:=k=3\/k=4\/k=5\/k=6\/k=7
end
theorem zaY {p:Prop} (h:p:=by first|exact zvZ ‹_› Zo Zo|exact .lit zaH (.inl rfl) (fun h=>by simp at h)|exact zqm ‹_› ‹_›|exact .col ((by assumption:_=true->ColT _ _ _) ‹_›)|exact xt_qW ‹_› ‹_› (by first|rfl|(simp;omega)|(rw [IntKind.wrap_i64];simp;omega))|exact xt_2W ‹_› ‹_›|exact xt_neg ‹_› ‹_›|exact zoa ‹_› (opAt_r ‹_›) ‹_› ‹_›):p:=h
theorem zaV {p:Prop} (h:p:=by first|assumption|(simp;done)|omega|(rw [IntKind.wrap_i64];omega)):p:=h
theorem zdG {p:Prop} (h:p:=by first|exact zvZ ‹_› Zo Zo|exact .lit zaH (.inl rfl) (fun h=>by simp at h)|exact zqm ‹_› ‹_›|exact .col ((by assumption:_=true->ColT _ _ _) ‹_›)):p:=h
theorem zpq {p:Prop} (h:p:=by first|exact .un (.inl ⟨rfl,rfl⟩) ‹_›|exact .isn ‹_›|exact .btw ‹_› ‹_› ‹_›|exact zzN Zo ‹_› ‹_›|exact zzL Zo ‹_› ‹_›|exact zzN (by rw [IntKind.wrap_i64];omega) ‹_› ‹_›|exact zzL (by rw [IntKind.wrap_i64];omega) ‹_› ‹_›):p:=h
theorem zr5 {p:Prop} (h:p:=by first|exact .qry (it:=[]) (List.mem_of_getElem? ‹_›) (qryT_0 hk ‹_›) Zs (by exact xt0) (by first|exact xt0|exact xt1 ‹_›)|exact .qry (it:=[_]) (List.mem_of_getElem? ‹_›) (qryT_1 hk ‹_›) Zs (by exact xt1 ‹_›) (by first|exact xt0|exact xt1 ‹_›)):p:=h
theorem zr6 {p:Prop} (h:p:=by exact ⟨by (try simp only [List.length_append,List.length_cons,List.length_nil]);omega,by first|exact hI.2|exact hI.2.app (zyG hfi hx ‹_›)|exact (hI.2.app (zyG hfi hx ‹_›)).app (colT_u hfi hx ‹_› ‹_› ‹_› hfl)⟩):p:=h
theorem ziO {p:Prop} (h:p:=by first|assumption|exact ⟨_,_,by assumption,rfl⟩|(simp;done)|omega|(simp only [List.length_map] at *;omega)):p:=h
theorem zmZ {p:Prop} (h:p:=by first|assumption|exact ⟨by simp,zyK _ _⟩|exact zBT ‹_› Zo|omega):p:=h
theorem zm0 {p:Prop} (h:p:=by first|assumption|(simp;done)|omega|exact ⟨by simp only [Few] at hfx;omega,hI.2⟩):p:=h
theorem zdV {p:Prop} (h:p:=by first|assumption|(simp;done)|omega):p:=h
theorem zmh {p:Prop} (h:p:=by first|assumption|omega|(simp;done)|(simp;omega)):p:=h
def zgb (frs:List Fr) (w:Int) (l:List X):Prop:=∀ x∈l,ColT frs w x
theorem zgb.app {frs:List Fr} {w:Int} {l:List X} {x:X} (h:zgb frs w l) (hx:ColT frs w x):zgb frs w (l++[x]):=fun y hy=>(List.mem_append.1 hy).elim (h y) fun h=>by simp only [List.mem_singleton] at h;exact h ▸ hx
theorem zyG {frs:List Fr} {w:Int} {io i:Nat} {f:Fr} {c:Col} (hf:frs[io]?=some f) (hx:f.cols[i]?=some c) (hw:(c.type != w)=false):ColT frs w (xCol f.name c.name) :=
 ⟨io,f,c,f.name,hf,List.mem_of_getElem? hx,by simpa using hw,rfl,.inl rfl⟩
theorem colT_u {frs:List Fr} {w:Int} {io i:Nat} {f:Fr} {c:Col} (hf:frs[io]?=some f) (hx:f.cols[i]?=some c) (hw:(c.type != w)=false) (hs:(!f.strict)=true) (he:((io:Int)==IntKind.i64.wrap (((frs.map Fr.cells).length:Int) - 1))=true) (hl:frs.length<=1000):ColT frs w (xCol ⟨#[]⟩ c.name) :=
 ⟨io,f,c,⟨#[]⟩,hf,List.mem_of_getElem? hx,by simpa using hw,rfl,.inr ⟨rfl,by simpa using hs,by rw [IntKind.wrap_i64] at he;simp at he;omega⟩⟩
noncomputable def zvc (t0:Tp) (p:Pl) (w:Int) (i:Nat) (l:List X):Cfg:=zag B.Az 0 [(0,.p 0 0),(2,iv w),(4,.p 1 0),(6,.p 2 0),(8,.own 3 l.length),(14,fsl p.frs),(15,iv ((p.frs.map Fr.cells).length:Nat)),(16,iv (i:Nat))] [.box t0.cells,.box p.cells,.box zX,.row Ty.Expr (zad l) false]
noncomputable def zvb (t0:Tp) (p:Pl) (w:Int) (io:Nat) (f:Fr) (i:Nat) (l:List X):Cfg:=zag B.Az 1 [(0,.p 0 0),(2,iv w),(4,.p 1 0),(6,.p 2 0),(8,.own 3 l.length),(9,iv (io:Nat)),(10,.p 4 0),(14,fsl p.frs),(15,iv ((p.frs.map Fr.cells).length:Nat)),(16,iv (io:Nat)),(22,.sl (f.cols.map Col.cells)),(23,iv ((f.cols.map Col.cells).length:Nat)),(24,iv (i:Nat))] [.box t0.cells,.box p.cells,.box zX,.row Ty.Expr (zad l) false,.box f.cells]
theorem ze4 (t0:Tp) (p:Pl) (w:Int) (io:Nat) (f:Fr) (hl:Few f.cols) (hio:io<=1000) (hfi:p.frs[io]?=some f) (hfl:p.frs.length<=1000) (i:Nat) (l:List X) (hi:i<=(f.cols).length) (hI:l.length+2 * (f.cols.length - i)<=2000 * (io+1)/\zgb p.frs w l):∃ (l':List X),(l'.length+2 * (f.cols.length - (f.cols).length)<=2000 * (io+1)/\zgb p.frs w l')/\(decide ((((f.cols).length:Nat):Int) < (((f.cols.map Col.cells).length:Nat):Int))=false)/\∀ R,Good E0 B.Az [.box t0.cells] (zvb t0 p w io f (f.cols).length l') R->Good E0 B.Az [.box t0.cells] (zvb t0 p w io f i l) R:=by
 have hk:=hi;revert i l;refine zlp ((f.cols).length) (fun i hlt ih l hi hI _=>?_)
 obtain ⟨x,hx,h0,hw⟩:=zlq (l:=f.cols) ((f.cols.map Col.cells).length) hlt
 have hil:=zbu hx;have hlen:l.length<=2002000:=by omega
 let p_1:List St:=[sb h0,se (zae Col.cells hx rfl)]
 cases h1:x.type != w
 ·let p_2:List St:=p_1++[sb h1,sc (zi3 f.name x.name),sqA (zad l) [[iv (xCol f.name x.name).kind,iv (xCol f.name x.name).op,bv (xCol f.name x.name).not,iv (xCol f.name x.name).val.kind,iv (xCol f.name x.name).val.int,sv (xCol f.name x.name).val.text,sv (xCol f.name x.name).table,sv (xCol f.name x.name).name,AV.sl (zad []),AV.sl (zah [])]] l.length 10 136]
  cases h2:!f.strict
  ·exact Zih (ih (l++[xCol f.name x.name]) Zo zr6 Zo) fun R gY=>zaa (wkl (p_2++[sb h2,si hw]) [0,2,4,6,8,9,10,14,15,16,22,23,24] 5 kr (zaw 8 3 (zad l++[(xCol f.name x.name).cells]) gY (he:=Zcv2) (hm:=Zcv2)))
  ·let p_3:List St:=p_2++[sg h2,si (e:=IntKind.i64.wrap ((↑(List.map Fr.cells p.frs).length:Int) - 1)) rfl]
   cases h3:(io:Int)==IntKind.i64.wrap ((↑(List.map Fr.cells p.frs).length:Int) - 1)
   ·exact Zih (ih (l++[xCol f.name x.name]) Zo zr6 Zo) fun R gY=>zaa (wkl (p_3++[sb h3,si hw]) [0,2,4,6,8,9,10,14,15,16,22,23,24] 5 kr (zaw 8 3 (zad l++[(xCol f.name x.name).cells]) gY (he:=Zcv2) (hm:=Zcv2)))
   ·exact Zih (ih (l++[xCol f.name x.name]++[xCol Zs0 x.name]) Zo zr6 Zo) fun R gY=>zaa (wkl (p_3++[sb h3,sc (zi3 Zs0 x.name),sqA (zad l++[(xCol f.name x.name).cells]) [(xCol Zs0 x.name).cells] ((zad l++[(xCol f.name x.name).cells]).length) 10 136,si hw]) [0,2,4,6,8,9,10,14,15,16,22,23,24] 5 kr (zaw 8 3 (zad l++[(xCol f.name x.name).cells]++[(xCol Zs0 x.name).cells]) gY (he:=Zcv2) (hm:=Zcv2)))
 ·exact Zih (ih l Zo zr6 Zo) fun R gY=>zaa (wkl (p_1++[sb h1,si hw]) [0,2,4,6,8,9,10,14,15,16,22,23,24] 5 kr gY)
theorem ze5 (t0:Tp) (p:Pl) (w:Int) (hf:Few p.frs) (hc:∀ f∈p.frs,Few f.cols) (i:Nat) (l:List X) (hi:i<=(p.frs).length) (hI:l.length<=2000 * i/\zgb p.frs w l):∃ (l':List X),(l'.length<=2000 * (p.frs).length/\zgb p.frs w l')/\(decide ((((p.frs).length:Nat):Int) < (((p.frs.map Fr.cells).length:Nat):Int))=false)/\∀ R,Good E0 B.Az [.box t0.cells] (zvc t0 p w (p.frs).length l') R->Good E0 B.Az [.box t0.cells] (zvc t0 p w i l) R:=by
 have hk:=hi;revert i l;refine zlp ((p.frs).length) (fun i hlt ih l hi hI _=>?_)
 obtain ⟨x,hx,h0,hw⟩:=zlq (l:=p.frs) ((p.frs.map Fr.cells).length) hlt
 have hfx:=hc x (List.mem_of_getElem? hx);have hix:i<=1000:=by simp only [Few] at hf;omega
 obtain ⟨l1,q1,q1_1,g1⟩:=ze4 t0 p w i x zm0 zm0 zm0 zm0 0 l zm0 zm0
 exact Zih (ih l1 Zo (by first|trivial|assumption|(simp;done)|omega|(simp;omega)|(simp at *;omega)) Zo) fun R gY=>zaa (wkl [sb h0,se (zae Fr.cells hx rfl)] [0,2,4,6,8,9,10,14,15,16,22,23,24] 5 kr (g1 _ (zaa (wkl [sb q1_1,si hw] [0,2,4,6,8,14,15,16] 4 kr gY))))
theorem zyK (frs:List Fr) (w:Int):zgb frs w []:=fun _ h=>by cases h
theorem zco (t:Tp) (p:Pl) (w:Int) (hf:Few p.frs) (hc:∀ f∈p.frs,Few f.cols):∃ (x:X) (ok:Bool) (t':Tp),(ok=true->ColT p.frs w x)/\zab E0 S.Az [.p 0 0,p.av,iv w] [.box t.cells] (.tup [x.av,bv ok]) [.box t'.cells]:=by
 obtain ⟨l1,q1,q1_1,g1⟩:=ze5 t p w zmZ zmZ 0 ([]) zmZ zmZ
 let p_1:List St:=[sb q1_1,sqx (l1.length=(zad l1).length)]
 cases h2:(l1.length:Int)==0
 ·obtain ⟨a3,t3,q3,c3⟩:=(zai t ((l1.length:Int)) zmZ)
  obtain ⟨x4,e4⟩:=za4 (l:=l1) (i:=(a3:Int).toNat) zmZ
  exact ⟨x4,true,t3,(by first|(simp;done)|exact fun _=>(‹_/\zgb _ _ _›).2 _ (List.mem_of_getElem? ‹_›)),wkcN At.Az [] [0,2,4,6,8,14,15,16] 3 [(.ot 8 Ty.Expr,4)] kr (g1 _ (zaa (wkr (p_1++[sb h2,sqx (l1.length=(zad l1).length),sl [0] c3,sqx (OwnAt (zad l1) l1.length (a3:Int)),sx (.el x4.cells) (zBS (n:=l1.length) Zs e4)]) kr)))⟩
 ·exact ⟨X.mk 0 0 false (V.mk 0 0 Zs0) Zs0 Zs0 [] [],false,t,(by first|(simp;done)|exact fun _=>(‹_/\zgb _ _ _›).2 _ (List.mem_of_getElem? ‹_›)),wkcN At.Az [] [0,2,4,6,8,14,15,16] 3 [(.ot 8 Ty.Expr,4)] kr (g1 _ (zaa (wkr (p_1++[sb h2]) kr)))⟩
section
variable {tbs : List Sch} {n : Nat} {frs : List Fr} {w : Int} {a b : X}
theorem zpK {a:Int} (h:-9223372036854775808 < a) (h2:a<=9223372036854775807):XT tbs (n+2) frs 1 (xNum a):=by
 unfold xNum
 cases hd:decide (a < 0)
 ·simp only [decide_eq_false_iff_not] at hd
  exact .lit (zbI ⟨by omega,by omega⟩) (.inr rfl) (fun _=>by show (0:Int)<=a;omega)
 ·simp only [decide_eq_true_eq] at hd
  have hw:IntKind.i64.wrap (-a)=-a:=by rw [IntKind.wrap_i64];omega
  exact .un (.inr ⟨rfl,rfl⟩) (.lit (zbI (zcY _)) (.inr rfl) (fun _=>by show (0:Int)<=IntKind.i64.wrap (-a);omega))
theorem zvZ {a:Int} (hw:(w==1)=true) (h:-9223372036854775808 < a) (h2:a<=9223372036854775807):XT tbs (n+2) frs w (xNum a):=by
 rw [show w=1 by simpa using hw];exact zpK h h2
theorem zqm {v:V} (hw:(w==1)=false) (h:v.kind=zbz w/\v.Good):XT tbs (n+1) frs w (xLit v):=by
 have h1:w≠1:=by simpa using hw
 refine .lit h.2 ?_ fun h2=>?_
 ·rw [h.1];unfold zbz;split
  ·exact .inr rfl
  ·exact .inl rfl
 ·exfalso;rw [h.1] at h2;unfold zbz at h2;split at h2 <;> omega
theorem zoa {op:Int} (hw:(w==1)=true) (ho:9<=op/\op<=13) (ha:XT tbs n frs w a) (hb:XT tbs n frs w b):XT tbs (n+1) frs w (xA 5 op false [a,b]):=by
 have e:w=1:=by simpa using hw
 subst e
 exact .bin (.inr (.inr ⟨ho.1,ho.2,rfl,rfl⟩)) ha hb
theorem xt_neg (hw:(w==1)=true) (ha:XT tbs n frs w a):XT tbs (n+1) frs w (xA 4 0 false [a]):=by
 have e:w=1:=by simpa using hw
 subst e
 exact .un (.inr ⟨rfl,rfl⟩) ha
theorem zzL {op w':Int} (ho:3<=op/\op<=8) (ha:XT tbs n frs w' a) (hb:XT tbs n frs w' b):XT tbs (n+1) frs 2 (xA 5 op false [a,b]):=.bin (.inr (.inl ⟨ho.1,ho.2,rfl⟩)) ha hb
theorem zzN {op:Int} (ho:1<=op/\op<=2) (ha:XT tbs n frs 2 a) (hb:XT tbs n frs 2 b):XT tbs (n+1) frs 2 (xA 5 op false [a,b]):=.bin (.inl ⟨ho.1,ho.2,rfl,rfl⟩) ha hb
theorem xt_qW {k:Int} (hw:(w==1)=true) (h:XT tbs n frs (bif k==8 then 2 else 1) a) (hk:(k==8)=false):XT tbs n frs w a:=by
 rw [show w=1 by simpa using hw];rw [hk] at h;exact h
theorem xt_2W (hw:(w==2)=true) (h:XT tbs n frs 2 a):XT tbs n frs w a:=by
 rw [show w=2 by simpa using hw];exact h
theorem opAt_r {k:Nat} (h:(k:Int) < 6):9<=opAt k/\opAt k<=13:=by
 have h:k=0\/k=1\/k=2\/k=3\/k=4\/k=5:=by omega
 rcases h with rfl|rfl|rfl|rfl|rfl|rfl <;> decide
theorem qryT_0 {k:Int} (h:8<=k/\k<=12) (h2:decide (10<=k)=false):QryT k (bif k==8 then 2 else 1) (k==8) 0:=by
 simp only [decide_eq_false_iff_not] at h2
 have:k=8\/k=9:=by omega
 rcases this with rfl|rfl
 ·exact .inl ⟨rfl,rfl,rfl,rfl⟩
 ·exact .inr (.inl ⟨rfl,rfl,rfl,rfl⟩)
theorem qryT_1 {k:Int} (h:8<=k/\k<=12) (h2:decide (10<=k)=true):QryT k (bif k==8 then 2 else 1) (k==8) 1:=by
 simp only [decide_eq_true_eq] at h2
 have:k=10\/k=11\/k=12:=by omega
 rcases this with rfl|rfl|rfl <;> exact .inr (.inr ⟨by omega,by omega,rfl,rfl,rfl⟩)
theorem xt0 {s:Sch} {w:Int}:∀ x∈([]:List X),XT tbs n (frIn frs s) w x:=fun x hx=>by cases hx
theorem xt1 {s:Sch} {w:Int} (h:XT tbs n (frIn frs s) w a):∀ x∈[a],XT tbs n (frIn frs s) w x:=fun x hx=>by simp only [List.mem_singleton] at hx;exact hx ▸ h
end
def PIn (p pi:Pl):Prop:=∃ (k:Nat) (s:Sch),p.tbs[k]?=some s/\pi=plIn p s
abbrev RecT (n m:Nat) (d:Int):Prop:=∀ (t:Tp) (p:Pl) (w:Int),p.OkN n->∃ (e:X) (t':Tp),XT p.tbs m p.frs w e/\zab E0 S.Aa [.p 0 0,p.av,iv w,iv d] [.box t.cells] e.av [.box t'.cells]
theorem zst (t:Tp) (p:Pl) (m:Nat) (d:Int) (hf:∀ (t:Tp) (w:Int),∃ (e:X) (t':Tp),XT p.tbs m p.frs w e/\zab E0 S.Aa [.p 0 0,p.av,iv w,iv (IntKind.i64.wrap (d - 1))] [.box t.cells] e.av [.box t'.cells]):∃ (x:X) (t':Tp),XT p.tbs (m+1) p.frs 2 x/\zab E0 S.A6 [.p 0 0,p.av,iv d] [.box t.cells] x.av [.box t'.cells]:=by
 obtain ⟨a1,t1,q1,c1⟩:=(zai t 3 zmh)
 obtain ⟨a2,t2,q2,c2⟩:=(zai t1 6 zmh)
 let p_1:List St:=[sl [0] c1,si (e:=IntKind.i64.wrap (1+(a1:Int))) rfl,sl [0] c2]
 cases h3:(a2:Int)==0
 ·cases h4:(a2:Int)==1
  ·cases h5:(a2:Int)==2
   ·cases h6:(a2:Int)==3
    ·obtain ⟨a7,t7,q7,c7⟩:=(zai t2 6 zmh)
     obtain ⟨e8,t8,q8,c8⟩:=(hf t7 (IntKind.i64.wrap (1+(a1:Int))))
     obtain ⟨e9,t9,q9,c9⟩:=(hf t8 (IntKind.i64.wrap (1+(a1:Int))))
     exact ⟨xBin (IntKind.i64.wrap (3+(a7:Int))) e8 e9,t9,zpq,wk At.A6 (p_1++[sb h3,sb h4,sb h5,sb h6,sd [(7,[si (e:=IntKind.i64.wrap (d - 1)) rfl]),(13,[si (e:=IntKind.i64.wrap (d - 1)) rfl]),(1,[sl [0] c7]),(2,[si (e:=IntKind.i64.wrap (3+(a7:Int))) rfl]),(8,[sl [0] c8]),(14,[sl [0] c9]),(15,[sc (zbL (IntKind.i64.wrap (3+(a7:Int))) e8 e9)])]]) kr⟩
    ·obtain ⟨e10,t10,q10,c10⟩:=(hf t2 1)
     obtain ⟨e11,t11,q11,c11⟩:=(hf t10 1)
     obtain ⟨e12,t12,q12,c12⟩:=(hf t11 1)
     exact ⟨X.mk 7 0 false (V.mk 0 0 Zs0) Zs0 Zs0 [e10,e11,e12] [],t12,zpq,(by (try simp only [zsl,xCol,xLit,xBin,xNeg]);exact wk At.A6 (p_1++[sb h3,sb h4,sb h5,sb h6,sd [(3,[si (e:=IntKind.i64.wrap (d - 1)) rfl]),(8,[si (e:=IntKind.i64.wrap (d - 1)) rfl]),(13,[si (e:=IntKind.i64.wrap (d - 1)) rfl]),(4,[sl [0] c10]),(9,[sl [0] c11]),(14,[sl [0] c12])]]) kr)⟩
   ·obtain ⟨b13,t13,c13⟩:=(zal t2 2 zmh)
    obtain ⟨e14,t14,q14,c14⟩:=(hf t13 (IntKind.i64.wrap (1+(a1:Int))))
    exact ⟨X.mk 6 0 b13 (V.mk 0 0 Zs0) Zs0 Zs0 [e14] [],t14,zpq,(by (try simp only [zsl,xCol,xLit,xBin,xNeg]);exact wk At.A6 (p_1++[sb h3,sb h4,sb h5,sd [(6,[si (e:=IntKind.i64.wrap (d - 1)) rfl]),(1,[sl [0] c13]),(7,[sl [0] c14])]]) kr)⟩
  ·obtain ⟨a15,t15,q15,c15⟩:=(zai t2 2 zmh)
   obtain ⟨e16,t16,q16,c16⟩:=(hf t15 2)
   obtain ⟨e17,t17,q17,c17⟩:=(hf t16 2)
   exact ⟨xBin (IntKind.i64.wrap (1+(a15:Int))) e16 e17,t17,zpq,wk At.A6 (p_1++[sb h3,sb h4,sd [(6,[si (e:=IntKind.i64.wrap (d - 1)) rfl]),(11,[si (e:=IntKind.i64.wrap (d - 1)) rfl]),(1,[sl [0] c15]),(2,[si (e:=IntKind.i64.wrap (1+(a15:Int))) rfl]),(7,[sl [0] c16]),(12,[sl [0] c17]),(13,[sc (zbL (IntKind.i64.wrap (1+(a15:Int))) e16 e17)])]]) kr⟩
 ·obtain ⟨e18,t18,q18,c18⟩:=(hf t2 2)
  exact ⟨X.mk 3 0 false (V.mk 0 0 Zs0) Zs0 Zs0 [e18] [],t18,zpq,(by (try simp only [zsl,xCol,xLit,xBin,xNeg]);exact wk At.A6 (p_1++[sb h3,si (e:=IntKind.i64.wrap (d - 1)) rfl,sl [0] c18]) kr)⟩
theorem zz7 (t:Tp) (p:Pl) (kind:Int) (m:Nat) (d:Int) (hk:8<=kind/\kind<=12) (hps:Pos (((p.tbs.map Sch.cells).length:Nat):Int)) (hpf:zac p.frs) (hf1:∀ (t:Tp) (pi:Pl) (w:Int),PIn p pi->∃ (e:X) (t':Tp),XT p.tbs m pi.frs w e/\zab E0 S.Aa [.p 0 0,pi.av,iv w,iv (IntKind.i64.wrap (d - 1))] [.box t.cells] e.av [.box t'.cells]) (hf2:∀ (t:Tp) (pi:Pl) (w:Int),PIn p pi->∃ (e:X) (t':Tp),XT p.tbs m pi.frs w e/\zab E0 S.Aa [.p 0 0,pi.av,iv w,iv (IntKind.i64.wrap (d - 2))] [.box t.cells] e.av [.box t'.cells]):∃ (x:X) (t':Tp),XT p.tbs (m+1) p.frs (bif kind==8 then 2 else 1) x/\zab E0 S.BS [.p 0 0,p.av,iv kind,iv d] [.box t.cells] x.av [.box t'.cells]:=by
 obtain ⟨a1,t1,q1,c1⟩:=(zai t ((↑(List.map Sch.cells p.tbs).length:Int)) ziO)
 obtain ⟨x2,e2⟩:=za4 (l:=p.tbs) (i:=a1) ziO
 let p_1:List St:=[sdm [(6,[sl [0] c1]),(7,[se (zae Sch.cells e2 rfl)])] 0 [(0,AV.p 0 0),(1,AV.agg [fsl p.frs,ZS p.tbs]),(2,iv kind),(3,iv d),(5,AV.p 1 0),(8,AV.p 2 0),(9,AV.p 3 0),(12,AV.p 1 1),(13,ZS p.tbs),(14,AV.p 0 0),(15,AV.p 1 1),(16,ZS p.tbs),(17,iv (↑(List.map Sch.cells p.tbs).length:Int)),(18,iv (a1:Int)),(19,AV.dp [sv x2.name,ZC x2.cols]),(20,AV.agg [sv x2.name,ZC x2.cols])] [Blk.box [AV.sl (List.map (fun n=>[iv n]) t1.l),iv (t1.pos:Int)],Blk.box [fsl p.frs,ZS p.tbs],Blk.box [iv 0,iv 0,AV.bl false,iv 0,iv 0,sv Zs0,sv Zs0,sv Zs0,AV.nl,AV.nl],Blk.box [sv x2.name,ZC x2.cols]],sc (zf2 p x2 ziO)]
 cases h3:decide (10<=kind)
 ·obtain ⟨b4,t4,c4⟩:=(zal t1 3 ziO)
  cases h5:!b4
  ·exact ⟨X.mk kind (0:Int) false (V.mk (0:Int) (0:Int) Zs0) Zs0 Zs0 [] [Qy.mk (kind==(8:Int)) [] x2.name []],t4,zr5,(by (try simp only [zsl,xCol,xLit,xBin,xNeg]);exact wk At.BS (p_1++[sb h3,sl [0] c4,sb h5]) kr)⟩
  ·obtain ⟨e6,t6,q6,c6⟩:=(hf1 t4 (plIn p x2) 2 ziO)
   exact ⟨X.mk kind (0:Int) false (V.mk (0:Int) (0:Int) Zs0) Zs0 Zs0 [] [Qy.mk (kind==(8:Int)) [] x2.name [e6]],t6,zr5,(by (try simp only [zsl,xCol,xLit,xBin,xNeg]);exact wk At.BS (p_1++[sb h3,sl [0] c4,sb h5,si (e:=IntKind.i64.wrap (d - 1)) rfl,sl [0] c6]) kr)⟩
 ·obtain ⟨e7,t7,q7,c7⟩:=(hf2 t1 (plIn p x2) 1 ziO)
  obtain ⟨b8,t8,c8⟩:=(zal t7 3 ziO)
  let p_2:List St:=p_1++[sb h3,si (e:=IntKind.i64.wrap (d - 2)) rfl,sl [0] c7,sl [0] c8]
  cases h9:!b8
  ·exact ⟨X.mk kind (0:Int) false (V.mk (0:Int) (0:Int) Zs0) Zs0 Zs0 [] [Qy.mk (kind==(8:Int)) [e7] x2.name []],t8,zr5,(by (try simp only [zsl,xCol,xLit,xBin,xNeg]);exact wk At.BS (p_2++[sb h9]) kr)⟩
  ·obtain ⟨e10,t10,q10,c10⟩:=(hf1 t8 (plIn p x2) 2 ziO)
   exact ⟨X.mk kind (0:Int) false (V.mk (0:Int) (0:Int) Zs0) Zs0 Zs0 [] [Qy.mk (kind==(8:Int)) [e7] x2.name [e10]],t10,zr5,(by (try simp only [zsl,xCol,xLit,xBin,xNeg]);exact wk At.BS (p_2++[sb h9,si (e:=IntKind.i64.wrap (d - 1)) rfl,sl [0] c10]) kr)⟩
theorem zsq (t:Tp) (p:Pl) (w:Int) (d:Int) (hd:decide (d<=(0:Int))=true) (hd2:decide ((0:Int) < d)=false) (hcol:∀ (t:Tp) (w:Int),∃ (x:X) (ok:Bool) (t':Tp),(ok=true->ColT p.frs w x)/\zab E0 S.Az [.p 0 0,p.av,iv w] [.box t.cells] (.tup [x.av,bv ok]) [.box t'.cells]):∃ (x:X) (t':Tp),XT p.tbs 2 p.frs w x/\zab E0 S.Aa [.p 0 0,p.av,iv w,iv d] [.box t.cells] x.av [.box t'.cells]:=by
 obtain ⟨a1,t1,q1,c1⟩:=(zai t 6 zdV)
 cases h2:decide (4<=(a1:Int))
 ·obtain ⟨x3,ok3,t3,q3,c3⟩:=(hcol t1 w)
  rcases (Bool.eq_false_or_eq_true ok3).symm with h4|h4
  ·obtain ⟨b5,t5,c5⟩:=(zal t3 8 zdV)
   let p_1:List St:=[sl [0] c1,sb h2,sb hd,sl [0] c3,sb h4,sl [0] c5]
   rcases (Bool.eq_false_or_eq_true b5).symm with h6|h6
   ·cases h7:w==1
    ·obtain ⟨v8,t8,q8,c8⟩:=(zaQ t5 w)
     exact ⟨xLit v8,t8,zdG,wk At.Aa (p_1++[sb h6,sb h7,sl [0] c8,sc (zaO v8)]) kr⟩
    ·obtain ⟨a9,t9,q9,c9⟩:=(zaX t5)
     exact ⟨xNum a9,t9,zdG,wk At.Aa (p_1++[sb h6,sb h7,sl [0] c9,sc (zbM a9 zdV)]) kr⟩
   ·exact ⟨xLit (V.mk 0 0 Zs0),t5,zdG,wk At.Aa (p_1++[sb h6,sc (zaO (V.mk 0 0 Zs0))]) kr⟩
  ·obtain ⟨b10,t10,c10⟩:=(zal t3 3 zdV)
   let p_2:List St:=[sl [0] c1,sb h2,sb hd,sl [0] c3,sg h4,sl [0] c10]
   cases h11:!b10
   ·obtain ⟨b12,t12,c12⟩:=(zal t10 8 zdV)
    rcases (Bool.eq_false_or_eq_true b12).symm with h13|h13
    ·cases h14:w==1
     ·obtain ⟨v15,t15,q15,c15⟩:=(zaQ t12 w)
      exact ⟨xLit v15,t15,zdG,wk At.Aa (p_2++[sb h11,sl [0] c12,sb h13,sb h14,sl [0] c15,sc (zaO v15)]) kr⟩
     ·obtain ⟨a16,t16,q16,c16⟩:=(zaX t12)
      exact ⟨xNum a16,t16,zdG,wk At.Aa (p_2++[sb h11,sl [0] c12,sb h13,sb h14,sl [0] c16,sc (zbM a16 zdV)]) kr⟩
    ·exact ⟨xLit (V.mk 0 0 Zs0),t12,zdG,wk At.Aa (p_2++[sb h11,sl [0] c12,sb h13,sc (zaO (V.mk 0 0 Zs0))]) kr⟩
   ·exact ⟨x3,t10,zdG,wk At.Aa (p_2++[sb h11]) kr⟩
 ·obtain ⟨x17,ok17,t17,q17,c17⟩:=(hcol t1 w)
  let p_3:List St:=[sl [0] c1,sg h2,sb hd2,sb hd,sl [0] c17]
  rcases (Bool.eq_false_or_eq_true ok17).symm with h18|h18
  ·obtain ⟨b19,t19,c19⟩:=(zal t17 8 zdV)
   rcases (Bool.eq_false_or_eq_true b19).symm with h20|h20
   ·cases h21:w==1
    ·obtain ⟨v22,t22,q22,c22⟩:=(zaQ t19 w)
     exact ⟨xLit v22,t22,zdG,wk At.Aa (p_3++[sb h18,sl [0] c19,sb h20,sb h21,sl [0] c22,sc (zaO v22)]) kr⟩
    ·obtain ⟨a23,t23,q23,c23⟩:=(zaX t19)
     exact ⟨xNum a23,t23,zdG,wk At.Aa (p_3++[sb h18,sl [0] c19,sb h20,sb h21,sl [0] c23,sc (zbM a23 zdV)]) kr⟩
   ·exact ⟨xLit (V.mk 0 0 Zs0),t19,zdG,wk At.Aa (p_3++[sb h18,sl [0] c19,sb h20,sc (zaO (V.mk 0 0 Zs0))]) kr⟩
  ·obtain ⟨b24,t24,c24⟩:=(zal t17 3 zdV)
   cases h25:!b24
   ·obtain ⟨b26,t26,c26⟩:=(zal t24 8 zdV)
    let p_4:List St:=p_3++[sg h18,sl [0] c24,sb h25,sl [0] c26]
    rcases (Bool.eq_false_or_eq_true b26).symm with h27|h27
    ·cases h28:w==1
     ·obtain ⟨v29,t29,q29,c29⟩:=(zaQ t26 w)
      exact ⟨xLit v29,t29,zdG,wk At.Aa (p_4++[sb h27,sb h28,sl [0] c29,sc (zaO v29)]) kr⟩
     ·obtain ⟨a30,t30,q30,c30⟩:=(zaX t26)
      exact ⟨xNum a30,t30,zdG,wk At.Aa (p_4++[sb h27,sb h28,sl [0] c30,sc (zbM a30 zdV)]) kr⟩
    ·exact ⟨xLit (V.mk 0 0 Zs0),t26,zdG,wk At.Aa (p_4++[sb h27,sc (zaO (V.mk 0 0 Zs0))]) kr⟩
   ·exact ⟨x17,t24,zdG,wk At.Aa (p_3++[sg h18,sl [0] c24,sb h25]) kr⟩
theorem zz1 (t:Tp) (p:Pl) (w:Int) (d:Int) (m:Nat) (hd:decide (d<=(0:Int))=false) (hd2:decide ((0:Int) < d)=true) (hcol:∀ (t:Tp) (w:Int),∃ (x:X) (ok:Bool) (t':Tp),(ok=true->ColT p.frs w x)/\zab E0 S.Az [.p 0 0,p.av,iv w] [.box t.cells] (.tup [x.av,bv ok]) [.box t'.cells]) (hf1:∀ (t:Tp) (w:Int),∃ (e:X) (t':Tp),XT p.tbs (m+1) p.frs w e/\zab E0 S.Aa [.p 0 0,p.av,iv w,iv (IntKind.i64.wrap (d - 1))] [.box t.cells] e.av [.box t'.cells]) (hq:∀ (t:Tp) (k:Int),8<=k/\k<=12->∃ (e:X) (t':Tp),XT p.tbs (m+2) p.frs (bif k==8 then 2 else 1) e/\zab E0 S.BS [.p 0 0,p.av,iv k,iv d] [.box t.cells] e.av [.box t'.cells]) (hcd:∀ (t:Tp),∃ (e:X) (t':Tp),XT p.tbs (m+2) p.frs 2 e/\zab E0 S.A6 [.p 0 0,p.av,iv d] [.box t.cells] e.av [.box t'.cells]):∃ (x:X) (t':Tp),XT p.tbs (m+2) p.frs w x/\zab E0 S.Aa [.p 0 0,p.av,iv w,iv d] [.box t.cells] x.av [.box t'.cells]:=by
 obtain ⟨a1,t1,q1,c1⟩:=(zai t 6 zaV)
 cases h2:decide (4<=(a1:Int))
 ·cases h3:decide (3<=(a1:Int))
  ·cases h4:w==1
   ·cases h5:w==2
    ·obtain ⟨v6,t6,q6,c6⟩:=(zaQ t1 w)
     exact ⟨xLit v6,t6,zaY,wk At.Aa [sl [0] c1,sb h2,sg hd,sb h3,sb h4,sb h5,sb h4,sb h5,sl [0] c6,sc (zaO v6)] kr⟩
    ·let p_1:List St:=[sl [0] c1,sb h2,sg hd,sb h3,sb h4,sg h5]
     cases h7:(a1:Int)==0
     ·obtain ⟨e8,t8,q8,c8⟩:=(hcd t1)
      exact ⟨e8,t8,zaY,wk At.Aa (p_1++[sb h7,sb h4,sb h5,sl [0] c8]) kr⟩
     ·cases h9:decide (0 < (↑(List.map Sch.cells p.tbs).length:Int))
      ·obtain ⟨e10,t10,q10,c10⟩:=(hcd t1)
       exact ⟨e10,t10,zaY,wk At.Aa (p_1++[sg h7,sb h9,sb h4,sb h5,sl [0] c10]) kr⟩
      ·obtain ⟨b11,t11,c11⟩:=(zal t1 2 zaV)
       rcases (Bool.eq_false_or_eq_true b11).symm with h12|h12
       ·obtain ⟨e13,t13,q13,c13⟩:=(hcd t11)
        exact ⟨e13,t13,zaY,wk At.Aa (p_1++[sg h7,sg h9,sl [0] c11,sb h12,sb h4,sb h5,sl [0] c13]) kr⟩
       ·obtain ⟨e14,t14,q14,c14⟩:=(hq t11 8 zaV)
        exact ⟨e14,t14,zaY,wk At.Aa (p_1++[sg h7,sg h9,sl [0] c11,sb h12,sl [0] c14]) kr⟩
   ·cases h15:(a1:Int)==0
    ·let p_2:List St:=[sl [0] c1,sb h2,sg hd,sb h3,sg h4,sb h15]
     cases h16:w==2
     ·obtain ⟨b17,t17,c17⟩:=(zal t1 6 zaV)
      rcases (Bool.eq_false_or_eq_true b17).symm with h18|h18
      ·obtain ⟨a19,t19,q19,c19⟩:=(zai t17 6 zaV)
       obtain ⟨e20,t20,q20,c20⟩:=(hf1 t19 w)
       obtain ⟨e21,t21,q21,c21⟩:=(hf1 t20 w)
       exact ⟨xBin (opAt a19) e20 e21,t21,zaY,wk At.Aa (p_2++[sb h16,sb h4,sl [0] c17,sb h18,sd [(9,[si (e:=IntKind.i64.wrap (d - 1)) rfl]),(15,[si (e:=IntKind.i64.wrap (d - 1)) rfl]),(2,[sl [0] c19]),(3,[se (zgw a19 zaV)]),(10,[sl [0] c20]),(16,[sl [0] c21]),(17,[sc (zbL (opAt a19) e20 e21)])]]) kr⟩
      ·obtain ⟨e22,t22,q22,c22⟩:=(hf1 t17 w)
       exact ⟨X.mk 4 0 false (V.mk 0 0 Zs0) Zs0 Zs0 [e22] [],t22,zaY,(by (try simp only [zsl,xCol,xLit,xBin,xNeg]);exact wk At.Aa (p_2++[sb h16,sb h4,sl [0] c17,sb h18,si (e:=IntKind.i64.wrap (d - 1)) rfl,sl [0] c22]) kr)⟩
     ·obtain ⟨b23,t23,c23⟩:=(zal t1 6 zaV)
      rcases (Bool.eq_false_or_eq_true b23).symm with h24|h24
      ·obtain ⟨a25,t25,q25,c25⟩:=(zai t23 6 zaV)
       obtain ⟨e26,t26,q26,c26⟩:=(hf1 t25 w)
       obtain ⟨e27,t27,q27,c27⟩:=(hf1 t26 w)
       exact ⟨xBin (opAt a25) e26 e27,t27,zaY,wk At.Aa (p_2++[sg h16,sb h15,sb h4,sl [0] c23,sb h24,sd [(9,[si (e:=IntKind.i64.wrap (d - 1)) rfl]),(15,[si (e:=IntKind.i64.wrap (d - 1)) rfl]),(2,[sl [0] c25]),(3,[se (zgw a25 zaV)]),(10,[sl [0] c26]),(16,[sl [0] c27]),(17,[sc (zbL (opAt a25) e26 e27)])]]) kr⟩
      ·obtain ⟨e28,t28,q28,c28⟩:=(hf1 t23 w)
       exact ⟨X.mk 4 0 false (V.mk 0 0 Zs0) Zs0 Zs0 [e28] [],t28,zaY,(by (try simp only [zsl,xCol,xLit,xBin,xNeg]);exact wk At.Aa (p_2++[sg h16,sb h15,sb h4,sl [0] c23,sb h24,si (e:=IntKind.i64.wrap (d - 1)) rfl,sl [0] c28]) kr)⟩
    ·let p_3:List St:=[sl [0] c1,sb h2,sg hd,sb h3,sg h4,sg h15]
     cases h29:decide (0 < (↑(List.map Sch.cells p.tbs).length:Int))
     ·cases h30:w==2
      ·obtain ⟨b31,t31,c31⟩:=(zal t1 6 zaV)
       rcases (Bool.eq_false_or_eq_true b31).symm with h32|h32
       ·obtain ⟨a33,t33,q33,c33⟩:=(zai t31 6 zaV)
        obtain ⟨e34,t34,q34,c34⟩:=(hf1 t33 w)
        obtain ⟨e35,t35,q35,c35⟩:=(hf1 t34 w)
        exact ⟨xBin (opAt a33) e34 e35,t35,zaY,wk At.Aa (p_3++[sb h29,sb h30,sb h4,sl [0] c31,sb h32,sd [(9,[si (e:=IntKind.i64.wrap (d - 1)) rfl]),(15,[si (e:=IntKind.i64.wrap (d - 1)) rfl]),(2,[sl [0] c33]),(3,[se (zgw a33 zaV)]),(10,[sl [0] c34]),(16,[sl [0] c35]),(17,[sc (zbL (opAt a33) e34 e35)])]]) kr⟩
       ·obtain ⟨e36,t36,q36,c36⟩:=(hf1 t31 w)
        exact ⟨X.mk 4 0 false (V.mk 0 0 Zs0) Zs0 Zs0 [e36] [],t36,zaY,(by (try simp only [zsl,xCol,xLit,xBin,xNeg]);exact wk At.Aa (p_3++[sb h29,sb h30,sb h4,sl [0] c31,sb h32,si (e:=IntKind.i64.wrap (d - 1)) rfl,sl [0] c36]) kr)⟩
      ·obtain ⟨b37,t37,c37⟩:=(zal t1 6 zaV)
       let p_4:List St:=p_3++[sb h29,sg h30,sg h15,sb h29,sb h4,sl [0] c37]
       rcases (Bool.eq_false_or_eq_true b37).symm with h38|h38
       ·obtain ⟨a39,t39,q39,c39⟩:=(zai t37 6 zaV)
        obtain ⟨e40,t40,q40,c40⟩:=(hf1 t39 w)
        obtain ⟨e41,t41,q41,c41⟩:=(hf1 t40 w)
        exact ⟨xBin (opAt a39) e40 e41,t41,zaY,wk At.Aa (p_4++[sb h38,sd [(9,[si (e:=IntKind.i64.wrap (d - 1)) rfl]),(15,[si (e:=IntKind.i64.wrap (d - 1)) rfl]),(2,[sl [0] c39]),(3,[se (zgw a39 zaV)]),(10,[sl [0] c40]),(16,[sl [0] c41]),(17,[sc (zbL (opAt a39) e40 e41)])]]) kr⟩
       ·obtain ⟨e42,t42,q42,c42⟩:=(hf1 t37 w)
        exact ⟨X.mk 4 0 false (V.mk 0 0 Zs0) Zs0 Zs0 [e42] [],t42,zaY,(by (try simp only [zsl,xCol,xLit,xBin,xNeg]);exact wk At.Aa (p_4++[sb h38,si (e:=IntKind.i64.wrap (d - 1)) rfl,sl [0] c42]) kr)⟩
     ·obtain ⟨a43,t43,q43,c43⟩:=(zai t1 4 zaV)
      obtain ⟨e44,t44,q44,c44⟩:=(hq t43 (IntKind.i64.wrap (9+(a43:Int))) zaV)
      exact ⟨e44,t44,zaY,wk At.Aa (p_3++[sb h29,sd [(3,[sl [0] c43]),(4,[si (e:=IntKind.i64.wrap (9+(a43:Int))) rfl]),(6,[sl [0] c44])]]) kr⟩
  ·obtain ⟨x45,ok45,t45,q45,c45⟩:=(hcol t1 w)
   let p_5:List St:=[sl [0] c1,sb h2,sg hd,sb h3,sl [0] c45]
   rcases (Bool.eq_false_or_eq_true ok45).symm with h46|h46
   ·obtain ⟨b47,t47,c47⟩:=(zal t45 8 zaV)
    rcases (Bool.eq_false_or_eq_true b47).symm with h48|h48
    ·cases h49:w==1
     ·obtain ⟨v50,t50,q50,c50⟩:=(zaQ t47 w)
      exact ⟨xLit v50,t50,zaY,wk At.Aa (p_5++[sb h46,sl [0] c47,sb h48,sb h49,sl [0] c50,sc (zaO v50)]) kr⟩
     ·obtain ⟨a51,t51,q51,c51⟩:=(zaX t47)
      exact ⟨xNum a51,t51,zaY,wk At.Aa (p_5++[sb h46,sl [0] c47,sb h48,sb h49,sl [0] c51,sc (zbM a51 zaV)]) kr⟩
    ·exact ⟨xLit (V.mk 0 0 Zs0),t47,zaY,wk At.Aa (p_5++[sb h46,sl [0] c47,sb h48,sc (zaO (V.mk 0 0 Zs0))]) kr⟩
   ·obtain ⟨b52,t52,c52⟩:=(zal t45 3 zaV)
    cases h53:!b52
    ·obtain ⟨b54,t54,c54⟩:=(zal t52 8 zaV)
     let p_6:List St:=p_5++[sg h46,sl [0] c52,sb h53,sl [0] c54]
     rcases (Bool.eq_false_or_eq_true b54).symm with h55|h55
     ·cases h56:w==1
      ·obtain ⟨v57,t57,q57,c57⟩:=(zaQ t54 w)
       exact ⟨xLit v57,t57,zaY,wk At.Aa (p_6++[sb h55,sb h56,sl [0] c57,sc (zaO v57)]) kr⟩
      ·obtain ⟨a58,t58,q58,c58⟩:=(zaX t54)
       exact ⟨xNum a58,t58,zaY,wk At.Aa (p_6++[sb h55,sb h56,sl [0] c58,sc (zbM a58 zaV)]) kr⟩
     ·exact ⟨xLit (V.mk 0 0 Zs0),t54,zaY,wk At.Aa (p_6++[sb h55,sc (zaO (V.mk 0 0 Zs0))]) kr⟩
    ·exact ⟨x45,t52,zaY,wk At.Aa (p_5++[sg h46,sl [0] c52,sb h53]) kr⟩
 ·obtain ⟨a59,t59,q59,c59⟩:=(zai t1 4 zaV)
  let p_7:List St:=[sl [0] c1,sg h2,sb hd2,sl [0] c59,sg hd]
  cases h60:decide (3<=(a59:Int))
  ·cases h61:w==1
   ·cases h62:w==2
    ·obtain ⟨v63,t63,q63,c63⟩:=(zaQ t59 w)
     exact ⟨xLit v63,t63,zaY,wk At.Aa (p_7++[sb h60,sb h61,sb h62,sb h61,sb h62,sl [0] c63,sc (zaO v63)]) kr⟩
    ·cases h64:(a59:Int)==0
     ·obtain ⟨e65,t65,q65,c65⟩:=(hcd t59)
      exact ⟨e65,t65,zaY,wk At.Aa (p_7++[sb h60,sb h61,sg h62,sb h64,sb h61,sb h62,sl [0] c65]) kr⟩
     ·cases h66:decide (0 < (↑(List.map Sch.cells p.tbs).length:Int))
      ·obtain ⟨e67,t67,q67,c67⟩:=(hcd t59)
       exact ⟨e67,t67,zaY,wk At.Aa (p_7++[sb h60,sb h61,sg h62,sg h64,sb h66,sb h61,sb h62,sl [0] c67]) kr⟩
      ·obtain ⟨b68,t68,c68⟩:=(zal t59 2 zaV)
       let p_8:List St:=p_7++[sb h60,sb h61,sg h62,sg h64,sg h66,sl [0] c68]
       rcases (Bool.eq_false_or_eq_true b68).symm with h69|h69
       ·obtain ⟨e70,t70,q70,c70⟩:=(hcd t68)
        exact ⟨e70,t70,zaY,wk At.Aa (p_8++[sb h69,sb h61,sb h62,sl [0] c70]) kr⟩
       ·obtain ⟨e71,t71,q71,c71⟩:=(hq t68 8 zaV)
        exact ⟨e71,t71,zaY,wk At.Aa (p_8++[sb h69,sl [0] c71]) kr⟩
   ·cases h72:(a59:Int)==0
    ·cases h73:w==2
     ·obtain ⟨b74,t74,c74⟩:=(zal t59 6 zaV)
      let p_9:List St:=p_7++[sb h60,sg h61,sb h72,sb h73,sb h61,sl [0] c74]
      rcases (Bool.eq_false_or_eq_true b74).symm with h75|h75
      ·obtain ⟨a76,t76,q76,c76⟩:=(zai t74 6 zaV)
       obtain ⟨e77,t77,q77,c77⟩:=(hf1 t76 w)
       obtain ⟨e78,t78,q78,c78⟩:=(hf1 t77 w)
       exact ⟨xBin (opAt a76) e77 e78,t78,zaY,wk At.Aa (p_9++[sb h75,sd [(9,[si (e:=IntKind.i64.wrap (d - 1)) rfl]),(15,[si (e:=IntKind.i64.wrap (d - 1)) rfl]),(2,[sl [0] c76]),(3,[se (zgw a76 zaV)]),(10,[sl [0] c77]),(16,[sl [0] c78]),(17,[sc (zbL (opAt a76) e77 e78)])]]) kr⟩
      ·obtain ⟨e79,t79,q79,c79⟩:=(hf1 t74 w)
       exact ⟨X.mk 4 0 false (V.mk 0 0 Zs0) Zs0 Zs0 [e79] [],t79,zaY,(by (try simp only [zsl,xCol,xLit,xBin,xNeg]);exact wk At.Aa (p_9++[sb h75,si (e:=IntKind.i64.wrap (d - 1)) rfl,sl [0] c79]) kr)⟩
     ·obtain ⟨b80,t80,c80⟩:=(zal t59 6 zaV)
      let p_10:List St:=p_7++[sb h60,sg h61,sb h72,sg h73,sb h72,sb h61,sl [0] c80]
      rcases (Bool.eq_false_or_eq_true b80).symm with h81|h81
      ·obtain ⟨a82,t82,q82,c82⟩:=(zai t80 6 zaV)
       obtain ⟨e83,t83,q83,c83⟩:=(hf1 t82 w)
       obtain ⟨e84,t84,q84,c84⟩:=(hf1 t83 w)
       exact ⟨xBin (opAt a82) e83 e84,t84,zaY,wk At.Aa (p_10++[sb h81,sd [(9,[si (e:=IntKind.i64.wrap (d - 1)) rfl]),(15,[si (e:=IntKind.i64.wrap (d - 1)) rfl]),(2,[sl [0] c82]),(3,[se (zgw a82 zaV)]),(10,[sl [0] c83]),(16,[sl [0] c84]),(17,[sc (zbL (opAt a82) e83 e84)])]]) kr⟩
      ·obtain ⟨e85,t85,q85,c85⟩:=(hf1 t80 w)
       exact ⟨X.mk 4 0 false (V.mk 0 0 Zs0) Zs0 Zs0 [e85] [],t85,zaY,(by (try simp only [zsl,xCol,xLit,xBin,xNeg]);exact wk At.Aa (p_10++[sb h81,si (e:=IntKind.i64.wrap (d - 1)) rfl,sl [0] c85]) kr)⟩
    ·cases h86:decide (0 < (↑(List.map Sch.cells p.tbs).length:Int))
     ·cases h87:w==2
      ·obtain ⟨b88,t88,c88⟩:=(zal t59 6 zaV)
       let p_11:List St:=p_7++[sb h60,sg h61,sg h72,sb h86,sb h87,sb h61,sl [0] c88]
       rcases (Bool.eq_false_or_eq_true b88).symm with h89|h89
       ·obtain ⟨a90,t90,q90,c90⟩:=(zai t88 6 zaV)
        obtain ⟨e91,t91,q91,c91⟩:=(hf1 t90 w)
        obtain ⟨e92,t92,q92,c92⟩:=(hf1 t91 w)
        exact ⟨xBin (opAt a90) e91 e92,t92,zaY,wk At.Aa (p_11++[sb h89,sd [(9,[si (e:=IntKind.i64.wrap (d - 1)) rfl]),(15,[si (e:=IntKind.i64.wrap (d - 1)) rfl]),(2,[sl [0] c90]),(3,[se (zgw a90 zaV)]),(10,[sl [0] c91]),(16,[sl [0] c92]),(17,[sc (zbL (opAt a90) e91 e92)])]]) kr⟩
       ·obtain ⟨e93,t93,q93,c93⟩:=(hf1 t88 w)
        exact ⟨X.mk 4 0 false (V.mk 0 0 Zs0) Zs0 Zs0 [e93] [],t93,zaY,(by (try simp only [zsl,xCol,xLit,xBin,xNeg]);exact wk At.Aa (p_11++[sb h89,si (e:=IntKind.i64.wrap (d - 1)) rfl,sl [0] c93]) kr)⟩
      ·obtain ⟨b94,t94,c94⟩:=(zal t59 6 zaV)
       let p_12:List St:=p_7++[sb h60,sg h61,sg h72,sb h86,sg h87,sg h72,sb h86,sb h61,sl [0] c94]
       rcases (Bool.eq_false_or_eq_true b94).symm with h95|h95
       ·obtain ⟨a96,t96,q96,c96⟩:=(zai t94 6 zaV)
        obtain ⟨e97,t97,q97,c97⟩:=(hf1 t96 w)
        obtain ⟨e98,t98,q98,c98⟩:=(hf1 t97 w)
        exact ⟨xBin (opAt a96) e97 e98,t98,zaY,wk At.Aa (p_12++[sb h95,sd [(9,[si (e:=IntKind.i64.wrap (d - 1)) rfl]),(15,[si (e:=IntKind.i64.wrap (d - 1)) rfl]),(2,[sl [0] c96]),(3,[se (zgw a96 zaV)]),(10,[sl [0] c97]),(16,[sl [0] c98]),(17,[sc (zbL (opAt a96) e97 e98)])]]) kr⟩
       ·obtain ⟨e99,t99,q99,c99⟩:=(hf1 t94 w)
        exact ⟨X.mk 4 0 false (V.mk 0 0 Zs0) Zs0 Zs0 [e99] [],t99,zaY,(by (try simp only [zsl,xCol,xLit,xBin,xNeg]);exact wk At.Aa (p_12++[sb h95,si (e:=IntKind.i64.wrap (d - 1)) rfl,sl [0] c99]) kr)⟩
     ·obtain ⟨a100,t100,q100,c100⟩:=(zai t59 4 zaV)
      obtain ⟨e101,t101,q101,c101⟩:=(hq t100 (IntKind.i64.wrap (9+(a100:Int))) zaV)
      exact ⟨e101,t101,zaY,wk At.Aa (p_7++[sb h60,sg h61,sg h72,sb h86,sd [(3,[sl [0] c100]),(4,[si (e:=IntKind.i64.wrap (9+(a100:Int))) rfl]),(6,[sl [0] c101])]]) kr⟩
  ·obtain ⟨x102,ok102,t102,q102,c102⟩:=(hcol t59 w)
   rcases (Bool.eq_false_or_eq_true ok102).symm with h103|h103
   ·obtain ⟨b104,t104,c104⟩:=(zal t102 8 zaV)
    let p_13:List St:=p_7++[sb h60,sl [0] c102,sb h103,sl [0] c104]
    rcases (Bool.eq_false_or_eq_true b104).symm with h105|h105
    ·cases h106:w==1
     ·obtain ⟨v107,t107,q107,c107⟩:=(zaQ t104 w)
      exact ⟨xLit v107,t107,zaY,wk At.Aa (p_13++[sb h105,sb h106,sl [0] c107,sc (zaO v107)]) kr⟩
     ·obtain ⟨a108,t108,q108,c108⟩:=(zaX t104)
      exact ⟨xNum a108,t108,zaY,wk At.Aa (p_13++[sb h105,sb h106,sl [0] c108,sc (zbM a108 zaV)]) kr⟩
    ·exact ⟨xLit (V.mk 0 0 Zs0),t104,zaY,wk At.Aa (p_13++[sb h105,sc (zaO (V.mk 0 0 Zs0))]) kr⟩
   ·obtain ⟨b109,t109,c109⟩:=(zal t102 3 zaV)
    let p_14:List St:=p_7++[sb h60,sl [0] c102,sg h103,sl [0] c109]
    cases h110:!b109
    ·obtain ⟨b111,t111,c111⟩:=(zal t109 8 zaV)
     rcases (Bool.eq_false_or_eq_true b111).symm with h112|h112
     ·cases h113:w==1
      ·obtain ⟨v114,t114,q114,c114⟩:=(zaQ t111 w)
       exact ⟨xLit v114,t114,zaY,wk At.Aa (p_14++[sb h110,sl [0] c111,sb h112,sb h113,sl [0] c114,sc (zaO v114)]) kr⟩
      ·obtain ⟨a115,t115,q115,c115⟩:=(zaX t111)
       exact ⟨xNum a115,t115,zaY,wk At.Aa (p_14++[sb h110,sl [0] c111,sb h112,sb h113,sl [0] c115,sc (zbM a115 zaV)]) kr⟩
     ·exact ⟨xLit (V.mk 0 0 Zs0),t111,zaY,wk At.Aa (p_14++[sb h110,sl [0] c111,sb h112,sc (zaO (V.mk 0 0 Zs0))]) kr⟩
    ·exact ⟨x102,t109,zaY,wk At.Aa (p_14++[sb h110]) kr⟩
theorem zpO:∀ (n:Nat),n<=500->RecT n (n+2) (dpt n)
 | 0,_,t,p,w,hp=>zsq t p w _ Zd Zd fun t w=>zco t p w hp.few1 hp.cols
 | 1,_,t,p,w,hp=>by
  obtain ⟨e,t',h,hc⟩:=zsq t p w (dpt 1) Zd Zd fun t w=>zco t p w hp.few1 hp.cols
  exact ⟨e,t',h.mono,hc⟩
 | n+2,hn,t,p,w,hp=>by
  have h1:=zpO (n+1) Zo
  have h2:=zpO n Zo
  have e1:=dpt1 n Zo
  have e2:=dpt2 n Zo
  have hf1:RecT (n+1) (n+3) (IntKind.i64.wrap (dpt (n+2) - 1)):=by rw [e1];exact h1
  have hf2:RecT (n+1) (n+3) (IntKind.i64.wrap (dpt (n+2) - 2)):=by
   rw [e2]
   intro t p w hp
   obtain ⟨e,t',h,hc⟩:=h2 t p w hp.less
   exact ⟨e,t',h.mono,hc⟩
  exact zz1 t p w (dpt (n+2)) (n+2) (by simp only [dpt];simp;omega) (by simp only [dpt];simp;omega) (fun t w=>zco t p w hp.few1 hp.cols) (fun t w=>hf1 t p w hp.less)
   (fun t k hk=>zz7 t p k (n+3) (dpt (n+2)) hk hp.pos hp.short (fun t pi w ⟨k,s,hs,e⟩=>e ▸ hf1 t (plIn p s) w (hp.ins hs)) (fun t pi w ⟨k,s,hs,e⟩=>e ▸ hf2 t (plIn p s) w (hp.ins hs))) (fun t=>zst t p (n+3) (dpt (n+2)) (fun t w=>hf1 t p w hp.less))
theorem zeE {p:Prop} (h:p:=by first|assumption|exact hp.pos|omega|exact hp.ins ‹_›|(simp [plIn];done)|(simp at *;omega)|exact hp.short|exact zqr):p:=h
theorem zpr {p:Prop} (h:p:=by first|assumption|omega|(simp only [Few,List.length_drop,List.length_take];omega)|exact fun f hf=>hp.cols f (List.mem_of_mem_take (List.mem_of_mem_drop hf))|(simp;done)):p:=h
theorem zxV {p:Prop} (h:p:=by first|exact ze9 hI hx ‹_›|exact ze9 hI hx (cpKey hkey hx ‹_› ((by assumption:_=true->ColT _ _ _) ‹_›) Zs Zo Zo hM)):p:=h
structure Deep (M:Nat):Prop where
 ge:3<=M
def zc1 (tbs:List Sch) (M:Nat) (frs:List Fr) (cols:List Col) (i:Nat) (its:List X):Prop:=its.length=i/\∀ (j:Nat) (c:Col) (x:X),cols[j]?=some c->its[j]?=some x->XT tbs M frs c.type x
section
variable {tbs : List Sch} {M : Nat} {frs : List Fr} {cols : List Col} {i : Nat} {its : List X} {c : Col} {e e0 : X}
theorem zqr:zc1 tbs M frs cols 0 []:=⟨rfl,fun j c x _ h=>by simp at h⟩
theorem ze9 (h:zc1 tbs M frs cols i its) (hx:cols[i]?=some c) (he:XT tbs M frs c.type e):zc1 tbs M frs cols (i+1) (its++[e]):=by
 refine ⟨by simp [h.1],fun j c' x hc hj=>?_⟩
 by_cases hk:j < its.length
 ·rw [List.getElem?_append_left hk] at hj
  exact h.2 j c' x hc hj
 ·have h1:=h.1
  have h2:=zbu hj
  simp only [List.length_append,List.length_cons,List.length_nil] at h2
  have:j=i:=by omega
  subst this
  rw [hx] at hc;cases hc
  rw [List.getElem?_append_right Zo] at hj
  have h3:j - its.length=0:=by omega
  rw [h3] at hj
  simp only [List.getElem?_cons_zero,Option.some.injEq] at hj
  exact hj ▸ he
theorem zyE {k:Nat} {w:Int} {x:X} (h:ColT (frs.drop k) w x):ColT frs w x:=by
 obtain ⟨j,f,c,a,h1,h2,h3,h4,h5⟩:=h
 rw [List.getElem?_drop] at h1
 refine ⟨k+j,f,c,a,h1,h2,h3,h4,h5.imp id fun ⟨q1,q2,q3⟩=>⟨q1,q2,?_⟩⟩
 rw [List.length_drop] at q3;have:=zbu h1;omega
theorem zyF {k n:Nat} {w:Int} {x:X} (hn:n=frs.length) (h:ColT ((frs.take n).drop k) w x):ColT frs w x:=by
 rw [List.take_of_length_le Zo] at h;exact zyE h
theorem cpKey {s:Sch} {x:X} {n k:Nat} {a:Int} (hs:∀ c∈s.cols,c.key=true->c.type=1) (hx:s.cols[i]?=some c) (hk:c.key=true) (hc:ColT ((frs.take n).drop k) 1 x) (hn:n=frs.length) (h:-9223372036854775808 < a) (h2:a<=9223372036854775807) (hM:Deep M):XT tbs M frs c.type (xA 5 9 false [x,xNum a]):=by
 rw [hs c (List.mem_of_getElem? hx) hk]
 exact (zoa (n:=2) rfl ⟨by omega,by omega⟩ (.col (zyF hn hc)) (zpK h h2)).le hM.ge
end
noncomputable def L_cpT (t0:Tp) (p pi:Pl) (s f:Sch) (d:Int) (M k:Nat) (i:Nat) (u:Tp) (its:List X):Cfg:=zag B.Br 0 [(0,.p 0 0),(3,iv d),(8,.p 3 0),(10,.p 5 0),(11,.p 6 0),(33,.sl (s.cols.map Col.cells)),(34,iv ((s.cols.map Col.cells).length:Nat)),(35,iv (i:Nat))] [.box u.cells,.box p.cells,.box s.cells,.box [.bl false,.nl,sv ⟨#[]⟩,.nl],.box f.cells,.box pi.cells,.box [.bl false,.own 7 its.length,sv f.name,.nl],.row Ty.Expr (zad its) false]
theorem Zcv3 {p:Prop} (h:p:=by first|rfl|(simp;done)|(simp [X.cells,Qy.cells,V.cells,Col.cells,Rw.cells,Tb.cells,Fr.cells,Sch.cells,Tp.cells,Pl.cells,xCol,xLit,xBin,xNeg,Im.cells,Lk.cells,Ac.cells,Se.cells,Tg.cells,Rk.cells];done)):p:=h
theorem zfS (t0:Tp) (p pi:Pl) (s f:Sch) (d:Int) (M k:Nat) (hp:pi.OkN k) (hs:Few s.cols) (hfr:pi.frs≠[]) (hkey:∀ c∈s.cols,c.key=true->c.type=1) (hM:Deep M) (hcol:∀ (t:Tp) (p:Pl) (w:Int),Few p.frs->(∀ f∈p.frs,Few f.cols)->∃ (x:X) (ok:Bool) (t':Tp),(ok=true->ColT p.frs w x)/\zab E0 S.Az [.p 0 0,p.av,iv w] [.box t.cells] (.tup [x.av,bv ok]) [.box t'.cells]) (hE:∀ (t:Tp) (p:Pl) (w:Int),p.OkN k->∃ (e:X) (t':Tp),XT p.tbs M p.frs w e/\zab E0 S.Aa [.p 0 0,p.av,iv w,iv d] [.box t.cells] e.av [.box t'.cells]) (i:Nat) (u:Tp) (its:List X) (hi:i<=(s.cols).length) (hI:zc1 pi.tbs M pi.frs s.cols i its):∃ (u':Tp) (its':List X),(zc1 pi.tbs M pi.frs s.cols (s.cols).length its')/\(decide ((((s.cols).length:Nat):Int) < (((s.cols.map Col.cells).length:Nat):Int))=false)/\∀ R,Good E0 B.Br [.box t0.cells] (L_cpT t0 p pi s f d M k (s.cols).length u' its') R->Good E0 B.Br [.box t0.cells] (L_cpT t0 p pi s f d M k i u its) R:=by
 have hk:=hi;revert i u its;refine zlp ((s.cols).length) (fun i hlt ih u its hi hI _=>?_)
 obtain ⟨x,hx,h0,hw⟩:=zlq (l:=s.cols) ((s.cols.map Col.cells).length) hlt
 have hfl:pi.frs.length<=1000/\0 < pi.frs.length:=⟨by have:=hp.frs;omega,List.length_pos_iff.2 hfr⟩
 have hil:its.length<=1000:=by have:=hI.1;simp only [Few] at hs;omega
 have hsa:=zx6 pi.frs hfl
 obtain ⟨e1,t1,q1,c1⟩:=(hE u pi x.type zpr)
 let p_1:List St:=[sb h0,se (zae Col.cells hx rfl),sl [0] c1]
 cases h2:x.key
 ·obtain ⟨uZ,itsZ,qZ,xZ,gZ⟩:=ih t1 (its++[e1]) Zo zxV Zo;exact ⟨uZ,itsZ,qZ,xZ,fun R hg=>zaa (wkl (p_1++[sb h2,sqA (zad its) [e1.cells] its.length 10 136,si hw]) [0,3,8,10,11,33,34,35] 8 kr (zaA rfl (show ([Blk.box [AV.sl (List.map (fun n=>[iv n]) t1.l),iv (t1.pos:Int)],Blk.box [fsl p.frs,ZS p.tbs],Blk.box s.cells,Blk.box [AV.bl false,AV.nl,sv Zs0,AV.nl],Blk.box f.cells,Blk.box [fsl pi.frs,ZS pi.tbs],Blk.box [AV.bl false,AV.own 7 (zad its++[e1.cells]).length,sv f.name,AV.nl],Blk.row Ty.Expr (zad its++[e1.cells]) false]:Heap)=_ from Zcv3) (gZ R hg)))⟩
 ·obtain ⟨x3,ok3,t3,q3,c3⟩:=(hcol t1 (Pl.mk (List.drop (IntKind.i64.wrap ((↑(List.map Fr.cells pi.frs).length:Int) - 1)).toNat (List.take (List.map Fr.cells pi.frs).length pi.frs)) []) 1 zpr zpr)
  let p_2:List St:=p_1++[sb h2,si (e:=IntKind.i64.wrap ((↑(List.map Fr.cells pi.frs).length:Int) - 1)) rfl,sqx (SubAt (List.map Fr.cells pi.frs) (IntKind.i64.wrap ((↑(List.map Fr.cells pi.frs).length:Int) - 1)) (↑(List.map Fr.cells pi.frs).length:Int) 4),sl [0] (conv (args:=[AV.p 0 0,AV.agg [AV.sl (List.drop (IntKind.i64.wrap ((↑(List.map Fr.cells pi.frs).length:Int) - 1)).toNat (List.take (↑(List.map Fr.cells pi.frs).length:Int).toNat (List.map Fr.cells pi.frs))),AV.sl []],iv 1]) (hl:=[Blk.box [AV.sl (List.map (fun n=>[iv n]) t1.l),iv (t1.pos:Int)]]) c3 (by first|(simp;done)|(simp [Pl.cells,Tp.cells,List.map_drop,List.map_take,List.take_of_length_le];done)|rfl) (by first|(simp;done)|(simp [Pl.cells,Tp.cells,List.map_drop,List.map_take,List.take_of_length_le];done)|rfl))]
  rcases (Bool.eq_false_or_eq_true ok3).symm with h4|h4
  ·obtain ⟨uZ,itsZ,qZ,xZ,gZ⟩:=ih t3 (its++[e1]) Zo zxV Zo;exact ⟨uZ,itsZ,qZ,xZ,fun R hg=>zaa (wkl (p_2++[sb h4,sqA (zad its) [e1.cells] its.length 10 136,si hw]) [0,3,8,10,11,33,34,35] 8 kr (zaA rfl (show ([Blk.box [AV.sl (List.map (fun n=>[iv n]) t3.l),iv (t3.pos:Int)],Blk.box [fsl p.frs,ZS p.tbs],Blk.box s.cells,Blk.box [AV.bl false,AV.nl,sv Zs0,AV.nl],Blk.box f.cells,Blk.box [fsl pi.frs,ZS pi.tbs],Blk.box [AV.bl false,AV.own 7 (zad its++[e1.cells]).length,sv f.name,AV.nl],Blk.row Ty.Expr (zad its++[e1.cells]) false]:Heap)=_ from Zcv3) (gZ R hg)))⟩
  ·obtain ⟨a5,t5,q5,c5⟩:=(zai t3 20 zpr)
   obtain ⟨uZ,itsZ,qZ,xZ,gZ⟩:=ih t5 (its++[xBin 9 x3 (xNum (↑(10+a5):Int))]) Zo zxV Zo;exact ⟨uZ,itsZ,qZ,xZ,fun R hg=>zaa (wkl (p_2++[sb h4,sd [(2,[sl [0] c5]),(3,[si (zbB (t:=10+(a5:Int)) (n:=10+a5) Zo Zo)]),(4,[sc (zbM ((↑(10+a5):Int)) zpr)]),(5,[sc (zbL 9 x3 (xNum (↑(10+a5):Int)))])],sqA (zad its) [(xBin 9 x3 (xNum (↑(10+a5):Int))).cells] its.length 10 136,si hw]) [0,3,8,10,11,33,34,35] 8 kr (zaA rfl (show ([Blk.box [AV.sl (List.map (fun n=>[iv n]) t5.l),iv (t5.pos:Int)],Blk.box [fsl p.frs,ZS p.tbs],Blk.box s.cells,Blk.box [AV.bl false,AV.nl,sv Zs0,AV.nl],Blk.box f.cells,Blk.box [fsl pi.frs,ZS pi.tbs],Blk.box [AV.bl false,AV.own 7 (zad its++[(xBin 9 x3 (xNum (↑(10+a5):Int))).cells]).length,sv f.name,AV.nl],Blk.row Ty.Expr (zad its++[(xBin 9 x3 (xNum (↑(10+a5):Int))).cells]) false]:Heap)=_ from Zcv3) (gZ R hg)))⟩
inductive QyT (tbs:List Sch) (M:Nat) (frs:List Fr) (s:Sch):Qy->Prop
 | mk {f:Sch} {its wh:List X}:f∈tbs->zc1 tbs M (frIn frs f) s.cols s.cols.length its->wh.length<=1->(∀ x∈wh,XT tbs M (frIn frs f) 2 x)->QyT tbs M frs s (Qy.mk false its f.name wh)
theorem zjz (t:Tp) (p:Pl) (s:Sch) (d:Int) (M k:Nat) (hp:p.OkN (k+1)) (hs:Few s.cols) (hkey:∀ c∈s.cols,c.key=true->c.type=1) (hM:Deep M) (hcol:∀ (t:Tp) (p:Pl) (w:Int),Few p.frs->(∀ f∈p.frs,Few f.cols)->∃ (x:X) (ok:Bool) (t':Tp),(ok=true->ColT p.frs w x)/\zab E0 S.Az [.p 0 0,p.av,iv w] [.box t.cells] (.tup [x.av,bv ok]) [.box t'.cells]) (hE:∀ (t:Tp) (p:Pl) (w:Int),p.OkN k->∃ (e:X) (t':Tp),XT p.tbs M p.frs w e/\zab E0 S.Aa [.p 0 0,p.av,iv w,iv d] [.box t.cells] e.av [.box t'.cells]):∃ (qy:Qy) (t':Tp),QyT p.tbs M p.frs s qy/\zab E0 S.Br [.p 0 0,p.av,s.av,iv d] [.box t.cells] qy.av [.box t'.cells]:=by
 obtain ⟨a1,t1,q1,c1⟩:=(zai t ((↑(List.map Sch.cells p.tbs).length:Int)) zeE)
 obtain ⟨x2,e2⟩:=za4 (l:=p.tbs) (i:=a1) zeE
 obtain ⟨u3,its3,q3,q3_1,g3⟩:=zfS t p (plIn p x2) s x2 d M k zeE zeE zeE zeE hM zeE hE 0 t1 ([]) zeE zeE
 obtain ⟨b4,t4,c4⟩:=(zal u3 2 zeE)
 let p_1:List St:=[sdm [(6,[sl [0] c1]),(7,[se (zae Sch.cells e2 rfl)])] 0 [(0,AV.p 0 0),(1,AV.agg [fsl p.frs,ZS p.tbs]),(2,AV.agg [sv s.name,ZC s.cols]),(3,iv d),(5,AV.p 1 0),(6,AV.p 2 0),(8,AV.p 3 0),(9,AV.p 4 0),(17,AV.p 1 1),(18,ZS p.tbs),(19,AV.p 0 0),(20,AV.p 1 1),(21,ZS p.tbs),(22,iv (↑(List.map Sch.cells p.tbs).length:Int)),(23,iv (a1:Int)),(24,AV.dp [sv x2.name,ZC x2.cols]),(25,AV.agg [sv x2.name,ZC x2.cols])] [Blk.box [AV.sl (List.map (fun n=>[iv n]) t1.l),iv (t1.pos:Int)],Blk.box [fsl p.frs,ZS p.tbs],Blk.box [sv s.name,ZC s.cols],Blk.box [AV.bl false,AV.nl,sv Zs0,AV.nl],Blk.box [sv x2.name,ZC x2.cols]],sc (zf2 p x2 zeE)]
 let p_2:List St:=[sqx (True/\its3.length=(zad its3).length/\True/\True/\True),sb q3_1,sl [0] c4]
 rcases (Bool.eq_false_or_eq_true b4).symm with h5|h5
 ·exact ⟨Qy.mk false its3 x2.name [],t4,(by exact .mk (List.mem_of_getElem? ‹_›) ‹_› Zs (by first|exact xt0|exact xt1 ‹_›)),wkcN At.Br p_1 [0,3,8,10,11,33,34,35] 7 [(.ob 6 1 Ty.Expr,8)] kr (g3 _ (zaa (wkr (p_2++[sb h5]) kr)))⟩
 ·obtain ⟨e6,t6,q6,c6⟩:=(hE t4 (plIn p x2) 2 zeE)
  exact ⟨Qy.mk false its3 x2.name [e6],t6,(by exact .mk (List.mem_of_getElem? ‹_›) ‹_› Zs (by first|exact xt0|exact xt1 ‹_›)),wkcN At.Br p_1 [0,3,8,10,11,33,34,35] 7 [(.ob 6 1 Ty.Expr,8)] kr (g3 _ (zaa (wkrS (y:=AV.agg [bv false,AV.sl (zad its3),sv x2.name,AV.sl [e6.cells]]) (H:=[Blk.box [AV.sl (List.map (fun n=>[iv n]) t6.l),iv (t6.pos:Int)]]) (p_2++[sb h5,sl [0] c6]) kr ⟨Zcv3,Zcv3⟩)))⟩
theorem zgo {p:Prop} (h:p:=by first|assumption|omega|exact hI.push ‹_› (lt2 ‹_› ‹_›) ‹_› ‹_›|exact hI.push ‹_› (lt2 ‹_› ‹_›) ‹_› (zzM ‹_› ‹_› Zo Zo Zo hM)|(simp;done)):p:=h
theorem zps {p:Prop} (h:p:=by first|exact ze9 hI hx ‹_›|exact zyI hI hx ‹_› ‹_› hM|exact zyJ hI hx ‹_› (by have hq:=hI.1;simp only [List.length_append,List.length_cons,List.length_nil,zbK];rw [IntKind.wrap_i64];omega) Zo Zo hM):p:=h
theorem zkO {p:Prop} (h:p:=by first|assumption|exact zzR hk hsm hI (by first|exact hI.some0 ‹_›|exact hI.some1 hf ‹_›) Zs (by first|exact xt0|exact xt1 ‹_›)):p:=h
theorem zm1 {p:Prop} (h:p:=by first|assumption|omega|(simp;done)|(simp;omega)):p:=h
theorem zr7 {p:Prop} (h:p:=by first|assumption|omega|exact zqr|(simp;done)):p:=h
abbrev zsh (k:Int) (n:Str):List AV:=[iv k,sv n,.nl,.nl,.nl,.nl,sv ⟨#[]⟩]
theorem zzK {n:Nat} (h:n<=1000):(IntKind.i64.wrap (((n+1:Nat):Int) - 1)).toNat=n:=by
 rw [IntKind.wrap_i64];omega
theorem zsQ (xs:List X) (c:List AV) (h:xs.length<=1000):OwnEl (zad xs++[c]) (zad xs++[c]).length (IntKind.i64.wrap ((((zad xs++[c]).length:Nat):Int) - 1)).toNat c:=by
 have h1:(zad xs++[c]).length=xs.length+1:=by simp
 refine ⟨rfl,?_⟩
 rw [h1,zzK h]
 simp
theorem modOkT {a n:Nat} (h:0 < n):0<=((a:Nat):Int).tmod ((n:Nat):Int)/\((a:Nat):Int).tmod ((n:Nat):Int) < ((n:Nat):Int) :=
 ⟨Int.tmod_nonneg _ Zo,Int.tmod_lt_of_pos _ Zo⟩
theorem zvx {n:Nat} {p:Pl} {s:Sch} (h:p.OkN (n+1)) (hs:Few s.cols):(plIn p s).OkN n:=by
 refine ⟨by have:=h.frs;simp [plIn];omega,fun f hf=>?_,h.ne,h.few,h.tcols⟩
 simp only [plIn,List.mem_append,List.mem_singleton] at hf
 rcases hf with hf|rfl
 ·exact h.cols f hf
 ·exact hs
theorem zAI {w:Str} (h:TabN w):Pos ((((zav w).cols.map Col.cells).length:Nat):Int):=by
 have h1:=(zdB h).few
 have h2:=List.length_pos_iff.2 (zdB h).ne
 simp only [Few] at h1
 rw [List.length_map]
 exact ⟨by omega,by omega⟩
section
variable {tbs : List Sch} {M : Nat} {frs : List Fr} {cols : List Col} {i n : Nat} {its : List X} {c : Col} {e e0 : X}
theorem zyJ (h:zc1 tbs M frs cols i its) (hx:cols[i]?=some c) (ht:(c.type==1)=true) (hn:n=i) {a:Int} (h1:-9223372036854775808 < a) (h2:a<=9223372036854775807) (hM:Deep M):zc1 tbs M frs cols (i+1) ((its++[e0]).set n (xNum a)):=by
 have e1:(its++[e0]).set n (xNum a)=its++[xNum a]:=by
  rw [List.set_append_right _ _ (by have:=h.1;omega),hn,h.1];simp
 rw [e1]
 exact ze9 h hx (by rw [show c.type=1 by simpa using ht];exact (zpK (n:=0) h1 h2).le (Nat.le_trans Zo hM.ge))
theorem zyI (h:zc1 tbs M frs cols i its) (hx:cols[i]?=some c) (ht:(c.type==1)=false) {v:V} (hv:v.kind=zbz c.type/\v.Good) (hM:Deep M):zc1 tbs M frs cols (i+1) (its++[xLit v]) :=
 ze9 h hx ((zqm (n:=0) ht hv).le (Nat.le_trans Zo hM.ge))
end
noncomputable def L_ctC (t0:Tp) (p pi:Pl) (s:Sch) (kd:Int) (rows:List (List X)) (kq:Nat) (d:Int) (M k:Nat) (i:Nat) (u:Tp) (xs:List X):Cfg:=zag B.Ap 1 [(0,.p 0 0),(2,iv d),(4,.p 1 0),(6,.p 2 0),(7,.p 3 0),(8,.p 4 0),(9,.p 5 0),(10,iv (kq:Nat)),(11,.own 7 xs.length),(52,.sl (s.cols.map Col.cells)),(53,iv ((s.cols.map Col.cells).length:Nat)),(54,iv (i:Nat))] [.box u.cells,.box p.cells,.box (zsh 0 ⟨#[]⟩),.box s.cells,.box pi.cells,.box [iv kd,sv s.name,.own 6 rows.length,.nl,.nl,.nl,sv ⟨#[]⟩],.row Ty.LExpr (rows.map zaE) false,.row Ty.Expr (zad xs) false]
theorem Zcv6 {p:Prop} (h:p:=by first|rfl|(simp;done)|(simp [zbh,List.map_set,Tp.cells,X.cells,Pl.cells,Sch.cells,xCol,xLit,xBin,xNeg];done)):p:=h
theorem zfP (t0:Tp) (p pi:Pl) (s:Sch) (kd:Int) (rows:List (List X)) (kq:Nat) (d:Int) (M k:Nat) (hp:p.OkN k) (hs:Few s.cols) (hM:Deep M) (hE:∀ (t:Tp) (p:Pl) (w:Int),p.OkN k->∃ (e:X) (t':Tp),XT p.tbs M p.frs w e/\zab E0 S.Aa [.p 0 0,p.av,iv w,iv d] [.box t.cells] e.av [.box t'.cells]) (i:Nat) (u:Tp) (xs:List X) (hi:i<=(s.cols).length) (hI:zc1 p.tbs M p.frs s.cols i xs):∃ (u':Tp) (xs':List X),(zc1 p.tbs M p.frs s.cols (s.cols).length xs')/\(decide ((((s.cols).length:Nat):Int) < (((s.cols.map Col.cells).length:Nat):Int))=false)/\∀ R,Good E0 B.Ap [.box t0.cells] (L_ctC t0 p pi s kd rows kq d M k (s.cols).length u' xs') R->Good E0 B.Ap [.box t0.cells] (L_ctC t0 p pi s kd rows kq d M k i u xs) R:=by
 have hk:=hi;revert i u xs;refine zlp ((s.cols).length) (fun i hlt ih u xs hi hI _=>?_)
 obtain ⟨x,hx,h0,hw⟩:=zlq (l:=s.cols) ((s.cols.map Col.cells).length) hlt
 have hil:xs.length<=1000:=by have:=hI.1;simp only [Few] at hs;omega
 have hwx:IntKind.i64.wrap ((xs.length:Nat):Int)=((xs.length:Nat):Int):=by rw [IntKind.wrap_i64];omega
 let p_1:List St:=[sb h0,se (zae Col.cells hx rfl)]
 cases h1:x.key
 ·obtain ⟨b2,t2,c2⟩:=(zal u 3 zm1)
  rcases (Bool.eq_false_or_eq_true b2).symm with h3|h3
  ·obtain ⟨e4,t4,q4,c4⟩:=(hE t2 p x.type zm1)
   obtain ⟨uZ,xsZ,qZ,xZ,gZ⟩:=ih t4 (xs++[e4]) Zo zps Zo;exact ⟨uZ,xsZ,qZ,xZ,fun R hg=>zaa (wkl (p_1++[sg h1,sl [0] c2,sb h3,sl [0] c4,sqA (zad xs) [e4.cells] xs.length 10 136,si hw]) [0,2,4,6,7,8,9,10,11,52,53,54] 8 kr (zaw 11 7 (zad xs++[e4.cells]) (gZ R hg) (he:=Zcv6) (hm:=Zcv6)))⟩
  ·obtain ⟨v5,t5,q5,c5⟩:=(zaQ t2 x.type)
   let p_2:List St:=p_1++[sg h1,sl [0] c2,sb h3,sl [0] c5,sc (zaO v5),sqA (zad xs) [[iv (xLit v5).kind,iv (xLit v5).op,bv (xLit v5).not,iv (xLit v5).val.kind,iv (xLit v5).val.int,sv (xLit v5).val.text,sv (xLit v5).table,sv (xLit v5).name,AV.sl (zad []),AV.sl (zah [])]] xs.length 10 136]
   cases h6:x.type==1
   ·obtain ⟨uZ,xsZ,qZ,xZ,gZ⟩:=ih t5 (xs++[xLit v5]) Zo zps Zo;exact ⟨uZ,xsZ,qZ,xZ,fun R hg=>zaa (wkl (p_2++[sb h6,si hw]) [0,2,4,6,7,8,9,10,11,52,53,54] 8 kr (zaw 11 7 (zad xs++[(xLit v5).cells]) (gZ R hg) (he:=Zcv6) (hm:=Zcv6)))⟩
   ·obtain ⟨a7,t7,q7,c7⟩:=(zaX t5)
    obtain ⟨uZ,xsZ,qZ,xZ,gZ⟩:=ih t7 ((xs++[xLit v5]).set (IntKind.i64.wrap ((↑(zad xs++[(xLit v5).cells]).length:Int) - 1)).toNat (xNum a7)) Zo zps Zo;exact ⟨uZ,xsZ,qZ,xZ,fun R hg=>zaa (wkl (p_2++[sb h6,sqx ((zad xs++[(xLit v5).cells]).length=(zad xs++[(xLit v5).cells]).length),si (e:=IntKind.i64.wrap ((↑(zad xs++[(xLit v5).cells]).length:Int) - 1)) rfl,sl [0] c7,sc (zbM a7 zm1),sqx (OwnAt (zad xs++[(xLit v5).cells]) (zad xs++[(xLit v5).cells]).length (IntKind.i64.wrap ((↑(zad xs++[(xLit v5).cells]).length:Int) - 1))),sx (.el ((xLit v5).cells)) (And.intro (owed (p:=True/\True/\True/\True/\True/\True/\True/\True/\True/\True/\True)) (zsQ xs ((xLit v5).cells) zm1)),si hw]) [0,2,4,6,7,8,9,10,11,52,53,54] 8 kr (zaA (show ([(0,AV.p 0 0),(2,iv d),(4,AV.p 1 0),(6,AV.p 2 0),(7,AV.p 3 0),(8,AV.p 4 0),(9,AV.p 5 0),(10,iv (kq:Int)),(11,AV.own 7 (zad xs++[(xLit v5).cells]).length),(52,ZC s.cols),(53,iv (↑(List.map Col.cells s.cols).length:Int)),(54,iv (↑(i+1):Int))]:TS)=_ from Zcv6) (show ([Blk.box [AV.sl (List.map (fun n=>[iv n]) t7.l),iv (t7.pos:Int)],Blk.box [fsl p.frs,ZS p.tbs],Blk.box [iv 0,sv Zs0,AV.nl,AV.nl,AV.nl,AV.nl,sv Zs0],Blk.box s.cells,Blk.box [fsl pi.frs,ZS pi.tbs],Blk.box [iv kd,sv s.name,AV.own 6 rows.length,AV.nl,AV.nl,AV.nl,sv Zs0],Blk.row Ty.LExpr (List.map zaE rows) false,Blk.row Ty.Expr ((zad xs++[(xLit v5).cells]).set (IntKind.i64.wrap ((↑(zad xs++[(xLit v5).cells]).length:Int) - 1)).toNat (xNum a7).cells) false]:Heap)=_ from Zcv6) (gZ R hg)))⟩
 ·obtain ⟨v8,t8,q8,c8⟩:=(zaQ u x.type)
  let p_3:List St:=p_1++[sb h1,sl [0] c8,sc (zaO v8),sqA (zad xs) [[iv (xLit v8).kind,iv (xLit v8).op,bv (xLit v8).not,iv (xLit v8).val.kind,iv (xLit v8).val.int,sv (xLit v8).val.text,sv (xLit v8).table,sv (xLit v8).name,AV.sl (zad []),AV.sl (zah [])]] xs.length 10 136]
  cases h9:x.type==1
  ·obtain ⟨uZ,xsZ,qZ,xZ,gZ⟩:=ih t8 (xs++[xLit v8]) Zo zps Zo;exact ⟨uZ,xsZ,qZ,xZ,fun R hg=>zaa (wkl (p_3++[sb h9,si hw]) [0,2,4,6,7,8,9,10,11,52,53,54] 8 kr (zaw 11 7 (zad xs++[(xLit v8).cells]) (gZ R hg) (he:=Zcv6) (hm:=Zcv6)))⟩
  ·obtain ⟨a10,t10,q10,c10⟩:=(zaX t8)
   obtain ⟨uZ,xsZ,qZ,xZ,gZ⟩:=ih t10 ((xs++[xLit v8]).set (IntKind.i64.wrap ((↑(zad xs++[(xLit v8).cells]).length:Int) - 1)).toNat (xNum a10)) Zo zps Zo;exact ⟨uZ,xsZ,qZ,xZ,fun R hg=>zaa (wkl (p_3++[sb h9,sqx ((zad xs++[(xLit v8).cells]).length=(zad xs++[(xLit v8).cells]).length),si (e:=IntKind.i64.wrap ((↑(zad xs++[(xLit v8).cells]).length:Int) - 1)) rfl,sl [0] c10,sc (zbM a10 zm1),sqx (OwnAt (zad xs++[(xLit v8).cells]) (zad xs++[(xLit v8).cells]).length (IntKind.i64.wrap ((↑(zad xs++[(xLit v8).cells]).length:Int) - 1))),sx (.el ((xLit v8).cells)) (And.intro (owed (p:=True/\True/\True/\True/\True/\True/\True/\True/\True/\True/\True)) (zsQ xs ((xLit v8).cells) zm1)),si hw]) [0,2,4,6,7,8,9,10,11,52,53,54] 8 kr (zaA (show ([(0,AV.p 0 0),(2,iv d),(4,AV.p 1 0),(6,AV.p 2 0),(7,AV.p 3 0),(8,AV.p 4 0),(9,AV.p 5 0),(10,iv (kq:Int)),(11,AV.own 7 (zad xs++[(xLit v8).cells]).length),(52,ZC s.cols),(53,iv (↑(List.map Col.cells s.cols).length:Int)),(54,iv (↑(i+1):Int))]:TS)=_ from Zcv6) (show ([Blk.box [AV.sl (List.map (fun n=>[iv n]) t10.l),iv (t10.pos:Int)],Blk.box [fsl p.frs,ZS p.tbs],Blk.box [iv 0,sv Zs0,AV.nl,AV.nl,AV.nl,AV.nl,sv Zs0],Blk.box s.cells,Blk.box [fsl pi.frs,ZS pi.tbs],Blk.box [iv kd,sv s.name,AV.own 6 rows.length,AV.nl,AV.nl,AV.nl,sv Zs0],Blk.row Ty.LExpr (List.map zaE rows) false,Blk.row Ty.Expr ((zad xs++[(xLit v8).cells]).set (IntKind.i64.wrap ((↑(zad xs++[(xLit v8).cells]).length:Int) - 1)).toNat (xNum a10).cells) false]:Heap)=_ from Zcv6) (gZ R hg)))⟩
def ziy (tbs:List Sch) (M:Nat) (frs:List Fr) (s:Sch) (rows:List (List X)):Prop:=∀ r∈rows,zc1 tbs M frs s.cols s.cols.length r
theorem zxH {tbs:List Sch} {M:Nat} {frs:List Fr} {s:Sch} {rows:List (List X)} {k:Nat} {xs:List X} (h:rows.length+(k+1)<=3/\1<=rows.length+(k+1)/\ziy tbs M frs s rows) (hx:zc1 tbs M frs s.cols s.cols.length xs) :
  (rows++[xs]).length+k<=3/\1<=(rows++[xs]).length+k/\ziy tbs M frs s (rows++[xs]) :=
 ⟨by have:=h.1;simp;omega,by simp;omega,fun r hr=>by
  simp only [List.mem_append,List.mem_singleton] at hr
  rcases hr with hr|rfl
  ·exact h.2.2 r hr
  ·exact hx⟩
noncomputable def L_ctR (t0:Tp) (p pi:Pl) (s:Sch) (kd:Int) (d:Int) (M kk2:Nat) (k:Nat) (u:Tp) (rows:List (List X)):Cfg:=zag B.Ap 0 [(0,.p 0 0),(2,iv d),(4,.p 1 0),(6,.p 2 0),(7,.p 3 0),(8,.p 4 0),(9,.p 5 0),(10,iv (k:Nat))] [.box u.cells,.box p.cells,.box (zsh 0 ⟨#[]⟩),.box s.cells,.box pi.cells,.box [iv kd,sv s.name,.own 6 rows.length,.nl,.nl,.nl,sv ⟨#[]⟩],.row Ty.LExpr (rows.map zaE) false]
theorem zfQ (t0:Tp) (p pi:Pl) (s:Sch) (kd:Int) (d:Int) (M kk2:Nat) (hE:∀ (t:Tp) (p:Pl) (w:Int),p.OkN kk2->∃ (e:X) (t':Tp),XT p.tbs M p.frs w e/\zab E0 S.Aa [.p 0 0,p.av,iv w,iv d] [.box t.cells] e.av [.box t'.cells]) (hp:p.OkN kk2) (hs:SchOk s) (hM:Deep M) (k:Nat) (u:Tp) (rows:List (List X)) (hi:k<=1000000000) (hI:rows.length+k<=3/\1<=rows.length+k/\ziy p.tbs M p.frs s rows):∃ (u':Tp) (rows':List (List X)),(rows'.length+0<=3/\1<=rows'.length+0/\ziy p.tbs M p.frs s rows')/\(decide ((0:Int) < ((0:Nat):Int))=false)/\∀ R,Good E0 B.Ap [.box t0.cells] (L_ctR t0 p pi s kd d M kk2 0 u' rows') R->Good E0 B.Ap [.box t0.cells] (L_ctR t0 p pi s kd d M kk2 k u rows) R:=by
 induction k generalizing u rows with
 | zero=>exact ⟨u,rows,hI,by decide,fun R hg=>hg⟩
 | succ k ih =>
  have h0:decide ((0:Int) < (((k+1):Nat):Int))=true:=by first|(simp;done)|(simp;omega)
  have hw:IntKind.i64.wrap (((k+1:Nat):Int) - 1)=((k:Nat):Int):=zmt k Zo
  have hss:=hs.few;have hrl:rows.length<=3:=by omega
  obtain ⟨u1,xs1,q1,q1_1,g1⟩:=zfP t0 p pi s kd rows (k+1) d M kk2 hp zr7 hM zr7 0 u ([]) zr7 zr7
  obtain ⟨uZ,rowsZ,qZ,xZ,gZ⟩:=ih u1 (rows++[xs1]) Zo (by exact zxH hI ‹_›);exact ⟨uZ,rowsZ,qZ,xZ,fun R hg=>zaa (wklN [sb h0] [0,2,4,6,7,8,9,10,11,52,53,54] 7 [(.ot 11 Ty.Expr,8)] kr (g1 _ (zaa (wkl [sb q1_1,sqx (xs1.length=(zad xs1).length/\True),sqA (List.map zaE rows) [[AV.sl (zad xs1)]] rows.length 1 24,si hw] [0,2,4,6,7,8,9,10] 7 kr (zaA rfl (show ([Blk.box [AV.sl (List.map (fun n=>[iv n]) u1.l),iv (u1.pos:Int)],Blk.box [fsl p.frs,ZS p.tbs],Blk.box [iv 0,sv Zs0,AV.nl,AV.nl,AV.nl,AV.nl,sv Zs0],Blk.box s.cells,Blk.box [fsl pi.frs,ZS pi.tbs],Blk.box [iv kd,sv s.name,AV.own 6 (List.map zaE rows++[[AV.sl (zad xs1)]]).length,AV.nl,AV.nl,AV.nl,sv Zs0],Blk.row Ty.LExpr (List.map zaE rows++[[AV.sl (zad xs1)]]) false]:Heap)=_ from Zcv3) (gZ R hg))))))⟩
noncomputable def zwz (d:Int) (p pi:Pl) (s:Sch) (kd:Int) (first i:Nat) (u:Tp) (sets:List Se):Cfg:=zag B.Ap 2 [(0,.p 0 0),(2,iv d),(6,.p 2 0),(7,.p 3 0),(8,.p 4 0),(9,.p 5 0),(14,iv (first:Nat)),(15,iv (i:Nat))] [.box u.cells,.box p.cells,.box (zsh 0 ⟨#[]⟩),.box s.cells,.box pi.cells,.box [iv kd,sv s.name,.nl,.nl,.own 6 sets.length,.nl,sv ⟨#[]⟩],.row Ty.Set (sets.map Se.cells) false]
structure SetsT (tbs:List Sch) (M:Nat) (frs:List Fr) (s:Sch) (first i:Nat) (sets:List Se):Prop where
 len:sets.length=i
 at_:∀ (j:Nat) (x:Se),sets[j]?=some x->∃ c:Col,s.cols[(first+j) % s.cols.length]?=some c/\x.col=c.name/\XT tbs M (frIn frs s) c.type x.ex
 two:i<=2
 lim:i<=s.cols.length
inductive ActT (tbs:List Sch) (M:Nat) (frs:List Fr):Ac->Prop
 | rows {s:Sch} {rows:List (List X)}:s∈zaj->1<=rows.length->rows.length<=3->ziy tbs M frs s rows->ActT tbs M frs (Ac.mk 1 s.name rows [] [] [] ⟨#[]⟩)
 | copy {s:Sch} {q:Qy}:s∈zaj->QyT tbs M frs s q->ActT tbs M frs (Ac.mk 1 s.name [] [q] [] [] ⟨#[]⟩)
 | upd {s:Sch} {first i:Nat} {sets:List Se} {wh:List X}:s∈zaj->1<=i->SetsT tbs M frs s first i sets->wh.length<=1->(∀ x∈wh,XT tbs M (frIn frs s) 2 x)->ActT tbs M frs (Ac.mk 2 s.name [] [] sets wh ⟨#[]⟩)
 | del {s:Sch} {wh:List X}:s∈zaj->wh.length<=1->(∀ x∈wh,XT tbs M (frIn frs s) 2 x)->ActT tbs M frs (Ac.mk 3 s.name [] [] [] wh ⟨#[]⟩)
section
variable {tbs : List Sch} {M : Nat} {frs : List Fr} {s : Sch} {first i : Nat} {sets : List Se} {e : X} {cc : Col} {z : Int}
theorem SetsT.push (h:SetsT tbs M frs s first i sets) (hi:decide ((i:Int) < (((s.cols.map Col.cells).length:Nat):Int))=true) (h2:i < 2) (hc:AtI s.cols (((first+i:Nat):Int).tmod (((s.cols.map Col.cells).length:Nat):Int)) cc) (he:XT tbs M (frIn frs s) cc.type e):SetsT tbs M frs s first (i+1) (sets++[⟨cc.name,e⟩]):=by
 simp only [decide_eq_true_eq,List.length_map] at hi
 refine ⟨by simp [h.len],fun j x hj=>?_,by omega,by omega⟩
 by_cases hk:j < sets.length
 ·rw [List.getElem?_append_left hk] at hj
  exact h.at_ j x hj
 ·have h3:=zbu hj
  have h4:=h.len
  simp only [List.length_append,List.length_cons,List.length_nil] at h3
  have:j=i:=by omega
  subst this
  rw [List.getElem?_append_right Zo,show j - sets.length=0 by omega] at hj
  simp only [List.getElem?_cons_zero,Option.some.injEq] at hj
  subst hj
  refine ⟨cc,?_,rfl,he⟩
  have h5:=hc.2
  rw [List.length_map] at h5
  have h6:(((first+j:Nat):Int).tmod ((s.cols.length:Nat):Int)).toNat=(first+j) % s.cols.length:=by
   rw [← Int.ofNat_tmod];exact Int.toNat_natCast _
  rwa [h6] at h5
theorem zzM {k:Nat} {a:Int} (ht:(cc.type==1)=true) (hc:AtI s.cols z cc) (hk:9<=(k:Int)/\(k:Int)<=13) (h1:-9223372036854775808 < a) (h2:a<=9223372036854775807) (hM:Deep M):XT tbs M (frIn frs s) cc.type (xA 5 (k:Int) false [xCol ⟨#[]⟩ cc.name,xNum a]):=by
 have e1:cc.type=1:=by simpa using ht
 rw [e1]
 refine (zoa (n:=2) rfl hk (.col ⟨frs.length,⟨s.name,false,s.cols,[]⟩,cc,⟨#[]⟩,?_,List.mem_of_getElem? hc.2,e1,rfl,.inr ⟨rfl,rfl,by simp⟩⟩) (zpK h1 h2)).le hM.ge
 simp
theorem SetsT.some0 (h:SetsT tbs M frs s first i sets) {a:Nat} (hi:decide ((i:Int) < ((1+a:Nat):Int))=false):1<=i:=by simp only [decide_eq_false_iff_not] at hi;omega
theorem SetsT.some1 (h:SetsT tbs M frs s first i sets) (hf:first < s.cols.length) (hi:decide ((i:Int) < (((s.cols.map Col.cells).length:Nat):Int))=false):1<=i:=by simp only [decide_eq_false_iff_not,List.length_map] at hi;omega
theorem zzR {kd:Int} {wh:List X} (hk:kd=2) (hs:s∈zaj) (hI:SetsT tbs M frs s first i sets) (h1:1<=i) (hw:wh.length<=1) (hx:∀ x∈wh,XT tbs M (frIn frs s) 2 x):ActT tbs M frs (Ac.mk kd s.name [] [] sets wh ⟨#[]⟩):=by
 subst hk;exact .upd hs h1 hI hw hx
theorem lt2 {i a:Nat} (h:decide ((i:Int) < ((1+a:Nat):Int))=true) (ha:(a:Int) < 2):i < 2:=by simp only [decide_eq_true_eq] at h;omega
end
theorem zwU (d:Int) (M k:Nat) (t0:Tp) (p pi:Pl) (s:Sch) (kd:Int) (first i:Nat) (u:Tp) (sets:List Se) (hsm:s∈zaj) (hs:Few s.cols) (hss:zac s.cols) (hpi:pi.OkN k) (hpf:pi=plIn p s) (hM:Deep M) (hE:∀ (t:Tp) (w:Int),∃ (e:X) (t':Tp),XT p.tbs M (frIn p.frs s) w e/\zab E0 S.Aa [.p 0 0,pi.av,iv w,iv d] [.box t.cells] e.av [.box t'.cells]) (hk:kd=2) (hf:first < s.cols.length) (hf2:s.cols.length<=1000) (hI:SetsT p.tbs M p.frs s first i sets) (hi2:i<=2) (hsl:sets.length<=2) (ihl:∀ (u':Tp) (sets':List Se),SetsT p.tbs M p.frs s first (i+1) sets'->∃ (r:Ac) (t':Tp),ActT p.tbs M p.frs r/\Good E0 B.Ap [.box t0.cells] (zwz d p pi s kd first (i+1) u' sets') (Shut 1 fun rZ hZ=>rZ=r.av/\hZ=[.box t'.cells])):∃ (r:Ac) (t':Tp),ActT p.tbs M p.frs r/\Good E0 B.Ap [.box t0.cells] (zj3 (zwz d p pi s kd first i u sets)) (Shut 1 fun rZ hZ=>rZ=(r.av)/\hZ=[.box t'.cells]):=by
  obtain ⟨a1,t1,q1,c1⟩:=(zai u 2 zgo)
  cases h2:decide ((i:Int) < (↑(1+a1):Int))
  ·obtain ⟨b3,t3,c3⟩:=(zal t1 4 zgo)
   cases h4:!b3
   ·exact ⟨Ac.mk kd s.name [] [] sets [] Zs0,t3,zkO,wkr [sqx (True/\True/\True/\True/\sets.length=(List.map Se.cells sets).length/\True/\True/\True),sl [0] c1,si (zbB (t:=1+(a1:Int)) (n:=1+a1) Zo Zo),sb h2,sl [0] c3,sb h4] kr⟩
   ·obtain ⟨e5,t5,q5,c5⟩:=(hE t3 2)
    exact ⟨Ac.mk kd s.name [] [] sets [e5] Zs0,t5,zkO,wkrS (y:=AV.agg [iv kd,sv s.name,AV.sl [],AV.sl [],ZE sets,AV.sl [e5.cells],sv Zs0]) (H:=[Blk.box [AV.sl (List.map (fun n=>[iv n]) t5.l),iv (t5.pos:Int)]]) [sqx (True/\True/\True/\True/\sets.length=(List.map Se.cells sets).length/\True/\True/\True),sl [0] c1,si (zbB (t:=1+(a1:Int)) (n:=1+a1) Zo Zo),sb h2,sl [0] c3,sb h4,sl [0] c5] kr ⟨Zcv3,Zcv3⟩⟩
  ·cases h6:decide ((i:Int) < (↑(List.map Col.cells s.cols).length:Int))
   ·obtain ⟨b7,t7,c7⟩:=(zal t1 4 zgo)
    cases h8:!b7
    ·exact ⟨Ac.mk kd s.name [] [] sets [] Zs0,t7,zkO,wkr [sqx (True/\True/\True/\True/\sets.length=(List.map Se.cells sets).length/\True/\True/\True),sl [0] c1,si (zbB (t:=1+(a1:Int)) (n:=1+a1) Zo Zo),sg h2,sb h6,sl [0] c7,sb h8] kr⟩
    ·obtain ⟨e9,t9,q9,c9⟩:=(hE t7 2)
     exact ⟨Ac.mk kd s.name [] [] sets [e9] Zs0,t9,zkO,wkrS (y:=AV.agg [iv kd,sv s.name,AV.sl [],AV.sl [],ZE sets,AV.sl [e9.cells],sv Zs0]) (H:=[Blk.box [AV.sl (List.map (fun n=>[iv n]) t9.l),iv (t9.pos:Int)]]) [sqx (True/\True/\True/\True/\sets.length=(List.map Se.cells sets).length/\True/\True/\True),sl [0] c1,si (zbB (t:=1+(a1:Int)) (n:=1+a1) Zo Zo),sg h2,sb h6,sl [0] c7,sb h8,sl [0] c9] kr ⟨Zcv3,Zcv3⟩⟩
   ·obtain ⟨x10,e10⟩:=zjH (l:=s.cols) (i:=(↑(first+i):Int).tmod (↑(List.map Col.cells s.cols).length:Int)) (by (rw [List.length_map];exact modOkT Zo))
    obtain ⟨e11,t11,q11,c11⟩:=(hE t1 x10.type)
    cases h12:x10.type==1
    ·obtain ⟨r13_0,r13_1,p13_0,g13⟩:=ihl t11 (sets++[Se.mk x10.name e11]) zgo
     exact ⟨r13_0,r13_1,zkO,wkl [sl [0] c1,si (zbB (t:=1+(a1:Int)) (n:=1+a1) Zo Zo),sg h2,sb h6,sd [(4,[si (zbB (t:=(first:Int)+(i:Int)) (n:=first+i) Zo Zo)]),(8,[sx (.i ((↑(first+i):Int).tmod (↑(List.map Col.cells s.cols).length:Int))) (show (↑(List.map Col.cells s.cols).length:Int)≠(0:Int)/\((↑(first+i):Int).tmod (↑(List.map Col.cells s.cols).length:Int):Int)=(↑(first+i):Int).tmod (↑(List.map Col.cells s.cols).length:Int) from ⟨(by rw [List.length_map];omega),rfl⟩)]),(9,[se (zdb Col.cells e10 rfl)])],sdm [(7,[sl [0] c11])] 0 [(0,AV.p 0 0),(2,iv d),(6,AV.p 2 0),(7,AV.p 3 0),(8,AV.p 4 0),(9,AV.p 5 0),(14,iv (first:Int)),(15,iv (i:Int)),(16,AV.p 7 0),(17,AV.p 8 0),(107,iv (i:Int)),(108,AV.p 0 0),(109,iv (a1:Int)),(110,iv (↑(1+a1):Int)),(111,bv (decide ((i:Int) < (↑(1+a1):Int)))),(112,AV.bl true),(113,iv (i:Int)),(114,AV.p 3 1),(115,ZC s.cols),(116,iv (↑(List.map Col.cells s.cols).length:Int)),(117,bv (decide ((i:Int) < (↑(List.map Col.cells s.cols).length:Int)))),(118,AV.bl true),(121,AV.p 3 1),(122,ZC s.cols),(123,iv (first:Int)),(124,iv (i:Int)),(125,iv (↑(first+i):Int)),(126,AV.p 3 1),(127,ZC s.cols),(128,iv (↑(List.map Col.cells s.cols).length:Int)),(129,iv ((↑(first+i):Int).tmod (↑(List.map Col.cells s.cols).length:Int))),(130,AV.dp x10.cells),(131,AV.agg x10.cells),(132,AV.p 7 0),(133,sv x10.name),(134,AV.p 0 0),(135,AV.agg [fsl pi.frs,ZS pi.tbs]),(136,AV.p 7 1),(137,iv x10.type),(138,iv d),(139,AV.agg e11.cells),(140,AV.agg (sv x10.name::e11.cells))] [Blk.box [AV.sl (List.map (fun n=>[iv n]) t11.l),iv (t11.pos:Int)],Blk.box [fsl p.frs,ZS p.tbs],Blk.box [iv 0,sv Zs0,AV.nl,AV.nl,AV.nl,AV.nl,sv Zs0],Blk.box s.cells,Blk.box [fsl pi.frs,ZS pi.tbs],Blk.box [iv kd,sv s.name,AV.nl,AV.nl,AV.own 6 sets.length,AV.nl,sv Zs0],Blk.row Ty.Set (List.map Se.cells sets) false,Blk.box x10.cells,Blk.box (sv x10.name::e11.cells)],sb h12,sqA (List.map Se.cells sets) [(sv x10.name::e11.cells)] sets.length 11 152,si (zbB (t:=(i:Int)+1) (n:=i+1) Zo Zo)] [0,2,6,7,8,9,14,15] 7 kr (zaA rfl (show ([Blk.box [AV.sl (List.map (fun n=>[iv n]) t11.l),iv (t11.pos:Int)],Blk.box [fsl p.frs,ZS p.tbs],Blk.box [iv 0,sv Zs0,AV.nl,AV.nl,AV.nl,AV.nl,sv Zs0],Blk.box s.cells,Blk.box [fsl pi.frs,ZS pi.tbs],Blk.box [iv kd,sv s.name,AV.nl,AV.nl,AV.own 6 (List.map Se.cells sets++[(sv x10.name::e11.cells)]).length,AV.nl,sv Zs0],Blk.row Ty.Set (List.map Se.cells sets++[(sv x10.name::e11.cells)]) false]:Heap)=_ from Zcv3) g13)⟩
    ·obtain ⟨b14,t14,c14⟩:=(zal t11 2 zgo)
     rcases (Bool.eq_false_or_eq_true b14).symm with h15|h15
     ·obtain ⟨r16_0,r16_1,p16_0,g16⟩:=ihl t14 (sets++[Se.mk x10.name e11]) zgo
      exact ⟨r16_0,r16_1,zkO,wkl [sl [0] c1,si (zbB (t:=1+(a1:Int)) (n:=1+a1) Zo Zo),sg h2,sb h6,sd [(4,[si (zbB (t:=(first:Int)+(i:Int)) (n:=first+i) Zo Zo)]),(8,[sx (.i ((↑(first+i):Int).tmod (↑(List.map Col.cells s.cols).length:Int))) (show (↑(List.map Col.cells s.cols).length:Int)≠(0:Int)/\((↑(first+i):Int).tmod (↑(List.map Col.cells s.cols).length:Int):Int)=(↑(first+i):Int).tmod (↑(List.map Col.cells s.cols).length:Int) from ⟨(by rw [List.length_map];omega),rfl⟩)]),(9,[se (zdb Col.cells e10 rfl)])],sdm [(7,[sl [0] c11])] 0 [(0,AV.p 0 0),(2,iv d),(6,AV.p 2 0),(7,AV.p 3 0),(8,AV.p 4 0),(9,AV.p 5 0),(14,iv (first:Int)),(15,iv (i:Int)),(16,AV.p 7 0),(17,AV.p 8 0),(107,iv (i:Int)),(108,AV.p 0 0),(109,iv (a1:Int)),(110,iv (↑(1+a1):Int)),(111,bv (decide ((i:Int) < (↑(1+a1):Int)))),(112,AV.bl true),(113,iv (i:Int)),(114,AV.p 3 1),(115,ZC s.cols),(116,iv (↑(List.map Col.cells s.cols).length:Int)),(117,bv (decide ((i:Int) < (↑(List.map Col.cells s.cols).length:Int)))),(118,AV.bl true),(121,AV.p 3 1),(122,ZC s.cols),(123,iv (first:Int)),(124,iv (i:Int)),(125,iv (↑(first+i):Int)),(126,AV.p 3 1),(127,ZC s.cols),(128,iv (↑(List.map Col.cells s.cols).length:Int)),(129,iv ((↑(first+i):Int).tmod (↑(List.map Col.cells s.cols).length:Int))),(130,AV.dp x10.cells),(131,AV.agg x10.cells),(132,AV.p 7 0),(133,sv x10.name),(134,AV.p 0 0),(135,AV.agg [fsl pi.frs,ZS pi.tbs]),(136,AV.p 7 1),(137,iv x10.type),(138,iv d),(139,AV.agg e11.cells),(140,AV.agg (sv x10.name::e11.cells))] [Blk.box [AV.sl (List.map (fun n=>[iv n]) t11.l),iv (t11.pos:Int)],Blk.box [fsl p.frs,ZS p.tbs],Blk.box [iv 0,sv Zs0,AV.nl,AV.nl,AV.nl,AV.nl,sv Zs0],Blk.box s.cells,Blk.box [fsl pi.frs,ZS pi.tbs],Blk.box [iv kd,sv s.name,AV.nl,AV.nl,AV.own 6 sets.length,AV.nl,sv Zs0],Blk.row Ty.Set (List.map Se.cells sets) false,Blk.box x10.cells,Blk.box (sv x10.name::e11.cells)],sg h12,sl [0] c14,sb h15,sqA (List.map Se.cells sets) [(sv x10.name::e11.cells)] sets.length 11 152,si (zbB (t:=(i:Int)+1) (n:=i+1) Zo Zo)] [0,2,6,7,8,9,14,15] 7 kr (zaA rfl (show ([Blk.box [AV.sl (List.map (fun n=>[iv n]) t14.l),iv (t14.pos:Int)],Blk.box [fsl p.frs,ZS p.tbs],Blk.box [iv 0,sv Zs0,AV.nl,AV.nl,AV.nl,AV.nl,sv Zs0],Blk.box s.cells,Blk.box [fsl pi.frs,ZS pi.tbs],Blk.box [iv kd,sv s.name,AV.nl,AV.nl,AV.own 6 (List.map Se.cells sets++[(sv x10.name::e11.cells)]).length,AV.nl,sv Zs0],Blk.row Ty.Set (List.map Se.cells sets++[(sv x10.name::e11.cells)]) false]:Heap)=_ from Zcv3) g16)⟩
     ·obtain ⟨a17,t17,q17,c17⟩:=(zai t14 2 zgo)
      obtain ⟨a18,t18,q18,c18⟩:=(zai t17 4 zgo)
      obtain ⟨r19_0,r19_1,p19_0,g19⟩:=ihl t18 (sets++[Se.mk x10.name (xBin (↑(9+a17):Int) (xCol Zs0 x10.name) (xNum (a18:Int)))]) zgo
      exact ⟨r19_0,r19_1,zkO,wkl [sl [0] c1,si (zbB (t:=1+(a1:Int)) (n:=1+a1) Zo Zo),sg h2,sb h6,sd [(4,[si (zbB (t:=(first:Int)+(i:Int)) (n:=first+i) Zo Zo)]),(8,[sx (.i ((↑(first+i):Int).tmod (↑(List.map Col.cells s.cols).length:Int))) (show (↑(List.map Col.cells s.cols).length:Int)≠(0:Int)/\((↑(first+i):Int).tmod (↑(List.map Col.cells s.cols).length:Int):Int)=(↑(first+i):Int).tmod (↑(List.map Col.cells s.cols).length:Int) from ⟨(by rw [List.length_map];omega),rfl⟩)]),(9,[se (zdb Col.cells e10 rfl)])],sdm [(7,[sl [0] c11])] 0 [(0,AV.p 0 0),(2,iv d),(6,AV.p 2 0),(7,AV.p 3 0),(8,AV.p 4 0),(9,AV.p 5 0),(14,iv (first:Int)),(15,iv (i:Int)),(16,AV.p 7 0),(17,AV.p 8 0),(107,iv (i:Int)),(108,AV.p 0 0),(109,iv (a1:Int)),(110,iv (↑(1+a1):Int)),(111,bv (decide ((i:Int) < (↑(1+a1):Int)))),(112,AV.bl true),(113,iv (i:Int)),(114,AV.p 3 1),(115,ZC s.cols),(116,iv (↑(List.map Col.cells s.cols).length:Int)),(117,bv (decide ((i:Int) < (↑(List.map Col.cells s.cols).length:Int)))),(118,AV.bl true),(121,AV.p 3 1),(122,ZC s.cols),(123,iv (first:Int)),(124,iv (i:Int)),(125,iv (↑(first+i):Int)),(126,AV.p 3 1),(127,ZC s.cols),(128,iv (↑(List.map Col.cells s.cols).length:Int)),(129,iv ((↑(first+i):Int).tmod (↑(List.map Col.cells s.cols).length:Int))),(130,AV.dp x10.cells),(131,AV.agg x10.cells),(132,AV.p 7 0),(133,sv x10.name),(134,AV.p 0 0),(135,AV.agg [fsl pi.frs,ZS pi.tbs]),(136,AV.p 7 1),(137,iv x10.type),(138,iv d),(139,AV.agg e11.cells),(140,AV.agg (sv x10.name::e11.cells))] [Blk.box [AV.sl (List.map (fun n=>[iv n]) t11.l),iv (t11.pos:Int)],Blk.box [fsl p.frs,ZS p.tbs],Blk.box [iv 0,sv Zs0,AV.nl,AV.nl,AV.nl,AV.nl,sv Zs0],Blk.box s.cells,Blk.box [fsl pi.frs,ZS pi.tbs],Blk.box [iv kd,sv s.name,AV.nl,AV.nl,AV.own 6 sets.length,AV.nl,sv Zs0],Blk.row Ty.Set (List.map Se.cells sets) false,Blk.box x10.cells,Blk.box (sv x10.name::e11.cells)],sg h12,sl [0] c14,sb h15,sd [(1,[sl [0] c17]),(2,[si (zbB (t:=9+(a17:Int)) (n:=9+a17) Zo Zo)]),(5,[sc (zi3 Zs0 x10.name)]),(7,[sl [0] c18]),(8,[sc (zbM ((a18:Int)) zgo)]),(9,[sc (zbL ((↑(9+a17):Int)) (xCol Zs0 x10.name) (xNum (a18:Int)))])],sqA (List.map Se.cells sets) [(sv x10.name::(xBin (↑(9+a17):Int) (xCol Zs0 x10.name) (xNum (a18:Int))).cells)] sets.length 11 152,si (zbB (t:=(i:Int)+1) (n:=i+1) Zo Zo)] [0,2,6,7,8,9,14,15] 7 kr (zaA rfl (show ([Blk.box [AV.sl (List.map (fun n=>[iv n]) t18.l),iv (t18.pos:Int)],Blk.box [fsl p.frs,ZS p.tbs],Blk.box [iv 0,sv Zs0,AV.nl,AV.nl,AV.nl,AV.nl,sv Zs0],Blk.box s.cells,Blk.box [fsl pi.frs,ZS pi.tbs],Blk.box [iv kd,sv s.name,AV.nl,AV.nl,AV.own 6 (List.map Se.cells sets++[(sv x10.name::(xBin (↑(9+a17):Int) (xCol Zs0 x10.name) (xNum (a18:Int))).cells)]).length,AV.nl,sv Zs0],Blk.row Ty.Set (List.map Se.cells sets++[(sv x10.name::(xBin (↑(9+a17):Int) (xCol Zs0 x10.name) (xNum (a18:Int))).cells)]) false]:Heap)=_ from Zcv3) g19)⟩
theorem zbV {p:Prop} (h:p:=by first|assumption|omega|exact (zdB ‹_›).few|exact zdB ‹_›|exact zdW ‹_›|exact zBA ‹_›|exact hp.short|exact zvx hp (zdB ‹_›).few|exact fun t w'=>hE t (plIn p _) w' (zvx hp (zdB ‹_›).few)|exact zAI ‹_›|exact zzw|rfl|exact eq_of_beq ‹_›|exact ⟨by simp only [List.length_nil];omega,by simp only [List.length_nil];omega,by simp [ziy]⟩|(simp only [List.length_map] at *;omega)|(simp;done)):p:=h
theorem zpt {p:Prop} (h:p:=by first|assumption|exact zyh ‹_› ‹_› ‹_›|exact zyg ‹_› ‹_› ‹_›|exact zzQ ‹_› ‹_› ‹_› Zs (by first|exact xt0|exact xt1 ‹_›) Zo):p:=h
theorem zfR (d:Int) (M k:Nat) (t0:Tp) (p pi:Pl) (s:Sch) (kd:Int) (first i:Nat) (u:Tp) (sets:List Se) (hsm:s∈zaj) (hs:Few s.cols) (hpi:pi.OkN k) (hpf:pi=plIn p s) (hM:Deep M) (hE:∀ (t:Tp) (w:Int),∃ (e:X) (t':Tp),XT p.tbs M (frIn p.frs s) w e/\zab E0 S.Aa [.p 0 0,pi.av,iv w,iv d] [.box t.cells] e.av [.box t'.cells]) (hk:kd=2) (hf:first < s.cols.length) (hI:SetsT p.tbs M p.frs s first i sets) :
  ∃ (r:Ac) (t':Tp),ActT p.tbs M p.frs r/\Good E0 B.Ap [.box t0.cells] (zwz d p pi s kd first i u sets) (Shut 1 fun rZ hZ=>rZ=r.av/\hZ=[.box t'.cells]):=by
 obtain ⟨q,hq⟩:∃ q,i+q=3:=⟨3 - i,by have:=hI.two;omega⟩
 induction q generalizing i u sets with
 | zero=>have:=hI.two;omega
 | succ q ih =>
  obtain ⟨r,t',hr,hg⟩:=zwU d M k t0 p pi s kd first i u sets hsm hs (zaM hs) hpi hpf hM hE hk hf hs hI hI.two (by have:=hI.len;have:=hI.two;omega) fun u' sets' h'=>ih (i+1) u' sets' h' Zo
  exact ⟨r,t',hr,zaa hg⟩
theorem zdW {w:Str} (h:TabN w):zav w∈zaj:=by
 rcases h with rfl|rfl|rfl
 ·rw [zvI];simp [zaj,schT]
 ·rw [zvJ];simp [zaj,schU]
 ·rw [zmj];simp [zaj,zeo]
theorem zzw {tbs:List Sch} {M:Nat} {frs:List Fr} {s:Sch} {first:Nat}:SetsT tbs M frs s first 0 []:=⟨rfl,fun j x h=>by simp at h,by omega,by omega⟩
theorem zBA {w:Str} (h:TabN w):∀ c∈(zav w).cols,c.key=true->c.type=1:=by
 have h0:∀ s∈zaj,∀ c∈s.cols,c.key=true->c.type=1:=by simp [zaj]
 exact h0 _ (zdW h)
section
variable {tbs : List Sch} {M : Nat} {frs : List Fr} {w : Str} {kd : Int}
theorem zyh {rows:List (List X)} (hw:TabN w) (hk:(kd==1)=true) (h:rows.length+0<=3/\1<=rows.length+0/\ziy tbs M frs (zav w) rows):ActT tbs M frs (Ac.mk kd (zav w).name rows [] [] [] ⟨#[]⟩):=by
 rw [show kd=1 by simpa using hk];exact .rows (zdW hw) Zo Zo h.2.2
theorem zyg {q:Qy} (hw:TabN w) (hk:(kd==1)=true) (h:QyT tbs M frs (zav w) q):ActT tbs M frs (Ac.mk kd (zav w).name [] [q] [] [] ⟨#[]⟩):=by
 rw [show kd=1 by simpa using hk];exact .copy (zdW hw) h
theorem zzQ {wh:List X} (hw:TabN w) (h1:(kd==1)=false) (h2:(kd==2)=false) (h:wh.length<=1) (hx:∀ x∈wh,XT tbs M (frIn frs (zav w)) 2 x) (hr:1<=kd/\kd<=3):ActT tbs M frs (Ac.mk kd (zav w).name [] [] [] wh ⟨#[]⟩):=by
 have e1:kd≠1:=by simpa using h1
 have e2:kd≠2:=by simpa using h2
 rw [show kd=3 by omega];exact .del (zdW hw) h hx
end
theorem zjx (t:Tp) (p:Pl) (d:Int) (M k:Nat) (hp:p.OkN (k+1)) (hpk:p.OkN k) (hsh:zac zaj) (hM:Deep M) (hcol:∀ (t:Tp) (p:Pl) (w:Int),Few p.frs->(∀ f∈p.frs,Few f.cols)->∃ (x:X) (ok:Bool) (t':Tp),(ok=true->ColT p.frs w x)/\zab E0 S.Az [.p 0 0,p.av,iv w] [.box t.cells] (.tup [x.av,bv ok]) [.box t'.cells]) (hE:∀ (t:Tp) (p:Pl) (w:Int),p.OkN k->∃ (e:X) (t':Tp),XT p.tbs M p.frs w e/\zab E0 S.Aa [.p 0 0,p.av,iv w,iv d] [.box t.cells] e.av [.box t'.cells]):∃ (r:Ac) (t':Tp),ActT p.tbs M p.frs r/\zab E0 S.Ap [.p 0 0,p.av,iv d] [.box t.cells] r.av [.box t'.cells]:=by
 obtain ⟨w1,t1,q1,c1⟩:=(zmx t)
 obtain ⟨a2,t2,q2,c2⟩:=(zai t1 3 zbV)
 let p_1:List St:=[sl [0] c1,sc (zjR w1 zbV),sc (zf2 p (zav w1) zbV),sdm [(1,[sl [0] c2]),(2,[si (zbB (t:=1+(a2:Int)) (n:=1+a2) Zo Zo)])] 0 [(0,AV.p 0 0),(1,AV.agg [fsl p.frs,ZS p.tbs]),(2,iv d),(4,AV.p 1 0),(6,AV.p 2 0),(7,AV.p 3 0),(8,AV.p 4 0),(9,AV.p 5 0),(18,AV.p 0 0),(19,sv w1),(20,AV.agg [sv (zav w1).name,AV.sl (List.map Col.cells (zav w1).cols)]),(21,AV.agg [fsl p.frs,ZS p.tbs]),(22,AV.agg [sv (zav w1).name,AV.sl (List.map Col.cells (zav w1).cols)]),(23,AV.agg [AV.sl (List.map Fr.cells (plIn p (zav w1)).frs),AV.sl (List.map Sch.cells (plIn p (zav w1)).tbs)]),(24,AV.p 0 0),(25,iv (a2:Int)),(26,iv (↑(1+a2):Int)),(27,AV.p 3 0),(28,sv (zav w1).name),(29,AV.agg [iv (↑(1+a2):Int),sv (zav w1).name,AV.nl,AV.nl,AV.nl,AV.nl,sv Zs0])] [Blk.box [AV.sl (List.map (fun n=>[iv n]) t2.l),iv (t2.pos:Int)],Blk.box [fsl p.frs,ZS p.tbs],Blk.box [iv 0,sv Zs0,AV.nl,AV.nl,AV.nl,AV.nl,sv Zs0],Blk.box [sv (zav w1).name,AV.sl (List.map Col.cells (zav w1).cols)],Blk.box [AV.sl (List.map Fr.cells (plIn p (zav w1)).frs),AV.sl (List.map Sch.cells (plIn p (zav w1)).tbs)],Blk.box [iv (↑(1+a2):Int),sv (zav w1).name,AV.nl,AV.nl,AV.nl,AV.nl,sv Zs0]]]
 cases h3:(↑(1+a2):Int)==1
 ·cases h4:(↑(1+a2):Int)==2
  ·obtain ⟨b5,t5,c5⟩:=(zal t2 4 zbV)
   cases h6:!b5
   ·exact ⟨Ac.mk (↑(1+a2):Int) (zav w1).name [] [] [] [] Zs0,t5,zpt,wk At.Ap (p_1++[sb h3,sb h4,sl [0] c5,sb h6]) kr⟩
   ·obtain ⟨e7,t7,q7,c7⟩:=(hE t5 (plIn p (zav w1)) 2 zbV)
    exact ⟨Ac.mk (↑(1+a2):Int) (zav w1).name [] [] [] [e7] Zs0,t7,zpt,(by (try simp only [Ac.av,Ac.cells,zei,ze8,zgf,zg4]);exact wk At.Ap (p_1++[sb h3,sb h4,sl [0] c5,sb h6,sl [0] c7]) kr)⟩
  ·obtain ⟨a8,t8,q8,c8⟩:=(zai t2 ((↑(List.map Col.cells (zav w1).cols).length:Int)) zbV)
   obtain ⟨r9_0,r9_1,p9_0,g9⟩:=zfR d M k t p (plIn p (zav w1)) (zav w1) ((↑(1+a2):Int)) a8 0 t8 ([]) zbV zbV zbV zbV hM zbV zbV zbV zbV
   exact ⟨r9_0,r9_1,zpt,wkcN At.Ap (p_1++[sb h3,sb h4,sl [0] c8]) [0,2,6,7,8,9,14,15] 6 [(.ob 5 4 Ty.Set,7)] kr (g9)⟩
 ·obtain ⟨b10,t10,c10⟩:=(zal t2 4 zbV)
  rcases (Bool.eq_false_or_eq_true b10).symm with h11|h11
  ·obtain ⟨a12,t12,q12,c12⟩:=(zai t10 3 zbV)
   obtain ⟨u13,rows13,q13,q13_1,g13⟩:=zfQ t p (plIn p (zav w1)) (zav w1) ((↑(1+a2):Int)) d M k hE zbV zbV zbV (1+a12) t12 ([]) zbV zbV
   exact ⟨Ac.mk (↑(1+a2):Int) (zav w1).name rows13 [] [] [] Zs0,u13,zpt,wkcN At.Ap (p_1++[sb h3,sl [0] c10,sb h11,sl [0] c12,si (zbB (t:=1+(a12:Int)) (n:=1+a12) Zo Zo)]) [0,2,4,6,7,8,9,10] 6 [(.ob 5 2 Ty.LExpr,7)] kr (g13 _ (zaa (wkr [sqx (True/\True/\rows13.length=(List.map zaE rows13).length/\True/\True/\True/\True/\True),sb Zf] kr)))⟩
  ·obtain ⟨qy14,t14,q14,c14⟩:=(zjz t10 p (zav w1) d M k hp zbV zbV hM zbV zbV)
   exact ⟨Ac.mk (↑(1+a2):Int) (zav w1).name [] [qy14] [] [] Zs0,t14,zpt,(by (try simp only [Ac.av,Ac.cells,zei,ze8,zgf,zg4]);exact wk At.Ap (p_1++[sb h3,sl [0] c10,sb h11,sl [0] c14]) kr)⟩
theorem zhz {α:Type} {p:α->Bool} {l:List α} {i:Nat} {x:α} {z:Int} (h:z=idxF p (l.drop i) i) (hx:l[i]?=some x) (hp:p x=false):z=idxF p (l.drop (i+1)) (i+1):=by
 rw [zam hx] at h;rw [h];simp only [idxF,hp,cond_false]
theorem zjK {α:Type} {p:α->Bool} {l:List α} {i:Nat} {x:α} {z:Int} (h:z=idxF p (l.drop i) i) (hx:l[i]?=some x) (hp:p x=true):((i:Nat):Int)=z:=by
 rw [zam hx] at h;rw [h];simp only [idxF,hp,cond_true]
theorem zds {α:Type} {p:α->Bool} {l:List α} {z:Int} (h:z=idxF p (l.drop l.length) l.length):-1=z:=by
 rw [List.drop_length] at h;rw [h];rfl
noncomputable def zv7 (tb:List Tb) (n:Str) (i:Nat) :Cfg:=zag B.B5 0 [(1,sv n),(7,.sl (tb.map Tb.cells)),(8,iv ((tb.map Tb.cells).length:Nat)),(9,iv (i:Nat))] []
theorem zkd (tb:List Tb) (n:Str) (hl:zac tb) (i:Nat)  (hi:i<=(tb).length) (hI:idxF (fun t=>zan t n) tb 0=idxF (fun t=>zan t n) (tb.drop i) i):((idxF (fun t=>zan t n) tb 0=idxF (fun t=>zan t n) (tb.drop (tb).length) (tb).length)/\(decide ((((tb).length:Nat):Int) < (((tb.map Tb.cells).length:Nat):Int))=false)/\∀ R,Good E0 B.B5 [] (zv7 tb n (tb).length ) R->Good E0 B.B5 [] (zv7 tb n i ) R)\/(∃ (r:Int),r=idxF (fun t=>zan t n) tb 0/\Good E0 B.B5 [] (zv7 tb n i ) (Shut 0 fun rZ hZ=>rZ=(iv r)/\hZ=[])):=by
 have hk:=hi;revert i;refine zlp ((tb).length) (fun i hlt ih hi hI _=>?_)
 obtain ⟨x,hx,h0,hw⟩:=zlq (l:=tb) ((tb.map Tb.cells).length) hlt
 let p_1:List St:=[sb h0,se (zae Tb.cells hx rfl)]
 cases h1:ByteArray.toList x.sch.name==ByteArray.toList n
 ·exact zie2 (ih Zo (by exact zhz hI hx ‹_›) Zo) fun R gY=>zaa (wkl (p_1++[sb h1,si hw]) [1,7,8,9] 0 kr gY)
 ·exact .inr ⟨(i:Int),(by exact zjK hI hx ‹_›),zaa (wkr (p_1++[sb h1]) kr)⟩
theorem zup (tb:List Tb) (n:Str) (hl:zac tb):∃ (r:Int),r=idxF (fun t=>zan t n) tb 0/\zab E0 S.B5 [tsl tb,sv n] [] (iv r) []:=by
 rcases zkd tb n Za 0 Za Za with ⟨q1,q1_1,g1⟩|⟨r1_0,p1_0,g1⟩
 ·exact ⟨-1,(by first|assumption|exact zds ‹_›),wkc At.B5 [] [1,7,8,9] 0 kr (g1 _ (zaa (wkr [sb q1_1] kr)))⟩
 ·exact ⟨r1_0,(by first|assumption|exact zds ‹_›),wkc At.B5 [] [1,7,8,9] 0 kr (g1)⟩
theorem zuP (tb:List Tb) (n:Str) (hl:zac tb):zab E0 S.B5 [tsl tb,sv n] [] (iv (idxF (fun t=>zan t n) tb 0)) []:=by
 obtain ⟨r,rfl,h⟩:=zup tb n hl
 exact h
abbrev acD (w:Str) (x:X):Ac:=⟨3,w,[],[],[],[x],⟨#[]⟩⟩
abbrev acU (w:Str) (c:Str) (v x:X):Ac:=⟨2,w,[],[],[⟨c,v⟩],[x],⟨#[]⟩⟩
abbrev xOne:X:=xLit ⟨1,1,⟨#[]⟩⟩
abbrev xNotE (e:X):X:=X.mk 3 0 false ⟨0,0,⟨#[]⟩⟩ ⟨#[]⟩ ⟨#[]⟩ [e] []
abbrev xNulE (e:X):X:=X.mk 6 0 false ⟨0,0,⟨#[]⟩⟩ ⟨#[]⟩ ⟨#[]⟩ [e] []
abbrev tcEs (e:X):List X:=[e,xNotE e,xNulE e]
def tcD (m:List Tb) (w:Str) (e:X) (j:Nat):Ch × Int:=zaq (bif j==0 then 5 else 6) (acD w ((tcEs e).getD j e)) [] m
def tcU (m:List Tb) (w:Str) (e:X) (j:Nat):Ch × Int:=zaq (bif j==0 then 5 else 6) (acU w sN xOne ((tcEs e).getD j e)) [] m
theorem zls {n:Int} {m:List Tb} (h:StoreV n m):zac m:=by have:=congrArg List.length h.schs;simp [zaj] at this;simp only [zac];omega
structure TcOk (cd cu:Ch × Int):Prop where
 code:cd.2=cu.2
 ids:cu.1.upd.map Pr.id=cd.1.del
 len:cd.1.del.length<=900
abbrev tcAll (m:List Tb) (w:Str) (e:X) (i:Nat):List Int:=(List.range i).flatMap (fun j=>(tcD m w e j).1.del)
structure TcIn (m:List Tb) (w:Str) (e:X):Prop where
 cd:∀ j x,(tcEs e)[j]?=some x->Pure S.Ai [(acD w x).av,fsl [],tsl m] (.tup [(tcD m w e j).1.av,iv (tcD m w e j).2])
 cu:∀ j x,(tcEs e)[j]?=some x->Pure S.Ai [(acU w sN xOne x).av,fsl [],tsl m] (.tup [(tcU m w e j).1.av,iv (tcU m w e j).2])
 ok:∀ j,j < 3->TcOk (tcD m w e j) (tcU m w e j)
 fin:(∀ j,j < 3->(tcD m w e j).2=0)->srt1 (tcAll m w e 3)=(tabC m w).rows.map Rw.id/\(tcAll m w e 3).length<=12
 tab:decide (idxF (fun t=>zan t w) m 0 < 0)=false
 rows:(tabC m w).rows.length<=1000
theorem TcOk.eq {cd cu:Ch × Int} (h:TcOk cd cu) {ids:List Int} (hi:ids.length<=cu.1.upd.length/\ids=(cu.1.upd.take cu.1.upd.length).map Pr.id):ids=cd.1.del:=by
 rw [hi.2,List.take_length];exact h.ids
/- ### sorting -/
/- ### the tables -/
theorem zqU {n:Int} {m:List Tb} {w:Str} (h:StoreV n m) (hw:TabN w):decide (idxF (fun t=>zan t w) m 0 < 0)=false/\tabC m w∈m/\(tabC m w).sch=zav w/\(zaG m w).2=true:=by
 have hs:=h.schs
 match m,hs with
 | [a,b,c],hs =>
  simp only [List.map_cons,List.map_nil,zaj,List.cons.injEq,and_true] at hs
  obtain ⟨h1,h2,h3⟩:=hs
  have key:∀ t,t∈[a,b,c]->zaJ [a,b,c] w=some t->t.sch=zav w->decide (idxF (fun t=>zan t w) [a,b,c] 0 < 0)=false/\tabC [a,b,c] w∈[a,b,c]/\(tabC [a,b,c] w).sch=zav w/\(zaG [a,b,c] w).2=true:=fun t ht hf hsch=>by
   have hr:(zaG [a,b,c] w).2=true:=by rw [zcV,hf]
   obtain ⟨k1,k2,k3,k4⟩:=zpE hr
   rw [hf] at k1
   rw [← Option.some.inj k1]
   exact ⟨k4,ht,hsch,hr⟩
  rcases hw with rfl|rfl|rfl
  ·have e1:zan a ⟨#[116]⟩=false:=by unfold zan;rw [h1];kernel_rfl
   have e2:zan b ⟨#[116]⟩=true:=by unfold zan;rw [h2];kernel_rfl
   exact key b Zs (by simp [zaJ,e1,e2]) (by rw [h2];kernel_rfl)
  ·have e1:zan a ⟨#[117]⟩=false:=by unfold zan;rw [h1];kernel_rfl
   have e2:zan b ⟨#[117]⟩=false:=by unfold zan;rw [h2];kernel_rfl
   have e3:zan c ⟨#[117]⟩=true:=by unfold zan;rw [h3];kernel_rfl
   exact key c Zs (by simp [zaJ,e1,e2,e3]) (by rw [h3];kernel_rfl)
  ·have e1:zan a ⟨#[108,111,103]⟩=true:=by unfold zan;rw [h1];kernel_rfl
   exact key a Zs (by simp [zaJ,e1]) (by rw [h1];kernel_rfl)
 | [],hs=>simp [zaj] at hs
 | [a],hs=>simp [zaj] at hs
 | [a,b],hs=>simp [zaj] at hs
 | a::b::c::d::r,hs=>simp [zaj] at hs
theorem StoreV.short {n:Int} {m:List Tb} (h:StoreV n m) (hn:n<=1000):∀ x∈m,∀ r∈x.rows,zac r.vals:=fun x hx r hr=>by
 have h1:=((h.rows x hx).fit r hr).len
 have h2:=((h.ok hn).tabs x hx).2.few
 have h3:r.vals.length=x.sch.cols.length:=h1
 simp only [zac,Few] at *;omega
theorem zsM {n:Int} {k:Nat} {a:Ac} {m:List Tb} (h:StoreV n m) (hn:n<=1000) (hk:k<=900) (ha:AcOk k a) (h1:1<=a.kind/\a.kind<=3):DmlIn k a [] m :=
 ⟨ha,h1,zAg (k+1) Zo,zBt,(h.ok hn).tbOk,(h.ok hn).tbG,h.short hn⟩
/- ### the codes -/
/- ### three values -/
end Go.AM
