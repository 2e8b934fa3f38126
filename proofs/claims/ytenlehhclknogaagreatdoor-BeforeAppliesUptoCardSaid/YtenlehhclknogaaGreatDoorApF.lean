/-
  Contracts of the program's functions, part 5.
-/
import Derived.Test.YtenlehhclknogaaGreatDoorApE
import Derived.Carry
import Derived.ChangeSame
import Derived.Lib.LaidU8
import Derived.FnData
import Derived.ChangeArms
set_option linter.unusedSimpArgs false
set_option linter.unusedVariables false
namespace Go.AM
set_option maxRecDepth 100000
set_option maxHeartbeats 1000000
set_option linter.unusedSimpArgs false
set_option linter.unusedVariables false
theorem zd7 {p:Prop} (h:p:=by first|assumption|omega|(simp;done)|(simp;omega)):p:=h
theorem znQ {p:Prop} (h:p:=by first|exact hI|(refine ⟨by simp at *;omega,fun s hs=>?_⟩;simp only [List.mem_append,List.mem_singleton] at hs;rcases hs with hs|rfl;exact hI.2 s hs;exact List.mem_map.2 ⟨x,List.mem_of_getElem? hx,rfl⟩)):p:=h
theorem zlz {p:Prop} (h:p:=by first|assumption|exact ⟨rfl,by simp⟩|omega):p:=h
def zpj (k:Nat):Str:=([⟨#[116]⟩,⟨#[117]⟩,⟨#[108,111,103]⟩]:List Str).getD k ⟨#[]⟩
theorem zsI (k:Nat) (h:(k:Int) < 3):ElAt [[sv ⟨#[116]⟩],[sv ⟨#[117]⟩],[sv ⟨#[108,111,103]⟩]] (k:Int) [sv (zpj k)] 1:=by
 have:k=0∨k=1∨k=2:=by omega
 rcases this with rfl|rfl|rfl <;> exact ⟨by decide,rfl,rfl⟩
def TabN (w:Str):Prop:=w=⟨#[116]⟩∨w=⟨#[117]⟩∨w=⟨#[108,111,103]⟩
theorem zsx {k:Nat} (h:(k:Int) < 3):TabN (zpj k):=by
 have:k=0∨k=1∨k=2:=by omega
 rcases this with rfl|rfl|rfl
 ·exact .inl rfl
 ·exact .inr (.inl rfl)
 ·exact .inr (.inr rfl)
theorem zca (t:Tp) :∃ (w:Str) (t':Tp),TabN w∧zac E0 S.world_Tape_Table [.p 0 0] [.box t.cells] (sv w) [.box t'.cells]:=by
 obtain ⟨a1,t1,q1,c1⟩:=(zaf t 3 zd7)
 exact ⟨zpj a1,t1,by exact zsx (by omega),wk At.world_Tape_Table [sl [0] c1,se (zsI a1 zd7)] kr⟩
def schU:Sch:=⟨⟨#[117]⟩,[⟨⟨#[105,100]⟩,1,true,true⟩,⟨⟨#[110]⟩,1,true,false⟩,⟨⟨#[109]⟩,1,false,false⟩]⟩
theorem zsc:zak ⟨#[117]⟩=schU:=by kernel_rfl
theorem zcB {w:Str} (h:TabN w):SchOk (zak w):=by
 rcases h with rfl|rfl|rfl
 ·rw [zsH];exact zrT
 ·rw [zsc];exact zgQ (by simp [zau,schU])
 ·rw [zqL];exact zgQ (by simp [zau,zjw])
noncomputable def L_nm (t0:Tp) (l:List Tg) (i:Nat) (u:Tp) (out:List Str):Cfg:=zat B.world_Tape_named 0 [(0,.p 0 0),(5,.own 1 out.length),(8,.sl (l.map Tg.cells)),(9,iv ((l.map Tg.cells).length:Nat)),(10,iv (i:Nat))] [.box u.cells,.row Ty.string (out.map zaU) false]
theorem zfI (t0:Tp) (l:List Tg) (hl:zad l) (i:Nat) (u:Tp) (out:List Str) (hi:i≤(l).length) (hI:out.length≤8∧∀ s∈out,s∈l.map Tg.name):∃ (u':Tp) (out':List Str),(out'.length≤8∧∀ s∈out',s∈l.map Tg.name)∧(decide ((((l).length:Nat):Int) < (((l.map Tg.cells).length:Nat):Int))=false)∧∀ R,Good E0 B.world_Tape_named [.box t0.cells] (L_nm t0 l (l).length u' out') R→Good E0 B.world_Tape_named [.box t0.cells] (L_nm t0 l i u out) R:=by
 obtain ⟨kk,hk⟩:∃ kk,i+kk=(l).length:=⟨(l).length - i,by omega⟩
 induction kk generalizing i u out with
 | zero =>
  have e0:i=(l).length:=by omega
  subst e0
  exact ⟨u,out,hI,by simp,fun R hg=>hg⟩
 | succ kk ih =>
  obtain ⟨x,hx⟩:=zax (l:=l) (i:=i) (by omega)
  have h0:decide (((i:Nat):Int) < (((l.map Tg.cells).length:Nat):Int))=true:=by simp;omega
  have hw:IntKind.i64.wrap (((i:Nat):Int)+1)=((i+1:Nat):Int):=zao i (by first|omega|(simp only [zad,Few] at *;omega))
  obtain ⟨b1,t1,c1⟩:=(zaj u 4 zd7)
  rcases (Bool.eq_false_or_eq_true b1).symm with h2|h2
  ·obtain ⟨uZ,outZ,qZ,xZ,gZ⟩:=ih (i+1) t1 out (by omega) znQ (by omega);exact ⟨uZ,outZ,qZ,xZ,fun R hg=>zaa (wkl [sb h0,se (zah Tg.cells hx rfl),sl [0] c1,sb h2,si hw] [0,5,8,9,10] 2 kr (gZ R hg))⟩
  ·cases h3:decide ((out.length:Int) < 8)
   ·obtain ⟨uZ,outZ,qZ,xZ,gZ⟩:=ih (i+1) t1 out (by omega) znQ (by omega);exact ⟨uZ,outZ,qZ,xZ,fun R hg=>zaa (wkl [sb h0,se (zah Tg.cells hx rfl),sl [0] c1,sg h2,sqx (out.length=(List.map zaU out).length),sb h3,si hw] [0,5,8,9,10] 2 kr (gZ R hg))⟩
   ·obtain ⟨uZ,outZ,qZ,xZ,gZ⟩:=ih (i+1) t1 (out++[x.name]) (by omega) znQ (by omega);exact ⟨uZ,outZ,qZ,xZ,fun R hg=>zaa (wkl (c':=(Cfg.mk (L_nm t0 l (i+1) t1 (out++[x.name])).n (L_nm t0 l (i+1) t1 (out++[x.name])).todo [(0,AV.p 0 0),(5,AV.own 1 (List.map zaU out++[[sv x.name]]).length),(8,AV.sl (List.map Tg.cells l)),(9,iv (↑(List.map Tg.cells l).length:Int)),(10,iv (↑(i+1):Int))] [Blk.box [AV.sl (List.map (fun n=>[iv n]) t1.l),iv (t1.pos:Int)],Blk.row Ty.string (List.map zaU out++[[sv x.name]]) false])) [sb h0,se (zah Tg.cells hx rfl),sl [0] c1,sg h2,sqx (out.length=(List.map zaU out).length),sb h3,sqx (AllLen [[sv x.name]] 1∧out.length=(List.map zaU out).length∧(((List.map zaU out).length+[[sv x.name]].length) * 16).le 140737488355328),si hw] [0,5,8,9,10] 2 kr (zav (show ([(0,AV.p 0 0),(5,AV.own 1 (List.map zaU out++[[sv x.name]]).length),(8,AV.sl (List.map Tg.cells l)),(9,iv (↑(List.map Tg.cells l).length:Int)),(10,iv (↑(i+1):Int))]:TS)=[(0,AV.p 0 0),(5,AV.own 1 (out++[x.name]).length),(8,AV.sl (List.map Tg.cells l)),(9,iv (↑(List.map Tg.cells l).length:Int)),(10,iv (↑(i+1):Int))] by first|rfl|(simp;done)|(simp [X.cells,Qy.cells,V.cells,Col.cells,Rw.cells,Tb.cells,Fr.cells,Sch.cells,Tp.cells,Pl.cells,xCol,xLit,xBin,xNeg,Im.cells,Lk.cells,Ac.cells,Se.cells,Tg.cells,Rk.cells];done)) (show ([Blk.box [AV.sl (List.map (fun n=>[iv n]) t1.l),iv (t1.pos:Int)],Blk.row Ty.string (List.map zaU out++[[sv x.name]]) false]:Heap)=[Blk.box t1.cells,Blk.row Ty.string (List.map zaU (out++[x.name])) false] by first|rfl|(simp;done)|(simp [X.cells,Qy.cells,V.cells,Col.cells,Rw.cells,Tb.cells,Fr.cells,Sch.cells,Tp.cells,Pl.cells,xCol,xLit,xBin,xNeg,Im.cells,Lk.cells,Ac.cells,Se.cells,Tg.cells,Rk.cells];done)) (gZ R hg)))⟩
theorem zcb (t:Tp) (l:List Tg) (hl:zad l):∃ (r:List Str) (t':Tp),(r.length≤8∧∀ s∈r,s∈l.map Tg.name)∧zac E0 S.world_Tape_named [.p 0 0,.sl (l.map Tg.cells)] [.box t.cells] (ssl r) [.box t'.cells]:=by
 obtain ⟨u1,out1,q1,q1_1,g1⟩:=zfI t l (by first|assumption|omega|exact ⟨by simp,by simp⟩) 0 t ([]) (by first|assumption|omega|exact ⟨by simp,by simp⟩) (by first|assumption|omega|exact ⟨by simp,by simp⟩)
 exact ⟨out1,u1,by first|assumption|trivial|(simp;done)|omega|(simp;omega)|(simp at *;omega),wkc At.world_Tape_named (c':=(Cfg.mk (L_nm t l 0 t []).n (L_nm t l 0 t []).todo [(0,AV.p 0 0),(5,AV.nl),(8,AV.sl (List.map Tg.cells l)),(9,iv (↑(List.map Tg.cells l).length:Int)),(10,iv 0)] [Blk.box [AV.sl (List.map (fun n=>[iv n]) t.l),iv (t.pos:Int)]])) [] [0,5,8,9,10] 1 kr (za9 (c':=L_nm t l 0 t []) 5 Ty.string [0,5,8,9,10] 2 kr kr kr (g1 _ (zaa (wkr [sqx (out1.length=(List.map zaU out1).length),sb q1_1] kr))))⟩
noncomputable def L_sv (s:Sch) (i:Nat) (keys:Int):Cfg:=zat B.ref4_Valid 0 [(1,.p 0 0),(3,iv keys),(23,.sl (s.cols.map Col.cells)),(24,iv ((s.cols.map Col.cells).length:Nat)),(25,iv (i:Nat))] [.box s.cells]
theorem zhS (s:Sch) (h:zad s.cols) (i:Nat) (keys:Int) (hi:i≤(s.cols).length) (hI:True):(∃ (keys':Int),(True)∧(decide ((((s.cols).length:Nat):Int) < (((s.cols.map Col.cells).length:Nat):Int))=false)∧∀ R,Good E0 B.ref4_Valid [] (L_sv s (s.cols).length keys') R→Good E0 B.ref4_Valid [] (L_sv s i keys) R)∨(∃ (r:Bool),Good E0 B.ref4_Valid [] (L_sv s i keys) (Shut 0 fun rZ hZ=>rZ=(bv r)∧hZ=[])):=by
 obtain ⟨kk,hk⟩:∃ kk,i+kk=(s.cols).length:=⟨(s.cols).length - i,by omega⟩
 induction kk generalizing i keys hI with
 | zero =>
  have e0:i=(s.cols).length:=by omega
  subst e0
  exact .inl ⟨keys,hI,by simp,fun R hg=>hg⟩
 | succ kk ih =>
  obtain ⟨x,hx⟩:=zax (l:=s.cols) (i:=i) (by omega)
  have h0:decide (((i:Nat):Int) < (((s.cols.map Col.cells).length:Nat):Int))=true:=by simp;omega
  have hw:IntKind.i64.wrap (((i:Nat):Int)+1)=((i+1:Nat):Int):=zao i (by first|omega|(simp only [zad,Few] at *;omega))
  obtain ⟨r1,c1⟩:=(zaw x.name)
  cases h2:!r1
  ·cases h3:decide (x.type < 1)
   ·cases h4:decide (3 < x.type)
    ·cases h5:x.key
     ·obtain ⟨r6,q6,c6⟩:=(zdK s x.name zd7)
      cases h7:r6 != (i:Int)
      ·exact (ih (i+1) keys (by omega) (by first|trivial|assumption|(simp;done)|omega|(simp;omega)|(simp at *;omega)) (by omega)).elim (fun ⟨keysZ,qZ,xZ,gZ⟩=>.inl ⟨keysZ,qZ,xZ,fun R hg=>zaa (wkl [sb h0,se (zah Col.cells hx rfl),sc c1,sg h2,sg h3,sg h4,sb h5,sc c6,sb h7,sb h5,si hw] [1,3,23,24,25] 1 kr (gZ R hg))⟩) (fun ⟨rY,gZ⟩=>.inr ⟨rY,zaa (wkl [sb h0,se (zah Col.cells hx rfl),sc c1,sg h2,sg h3,sg h4,sb h5,sc c6,sb h7,sb h5,si hw] [1,3,23,24,25] 1 kr gZ)⟩)
      ·exact .inr ⟨false,zaa (wkr [sb h0,se (zah Col.cells hx rfl),sc c1,sg h2,sg h3,sg h4,sb h5,sc c6,sb h7] kr)⟩
     ·cases h8:!x.notNull
      ·obtain ⟨r9,q9,c9⟩:=(zdK s x.name zd7)
       cases h10:r9 != (i:Int)
       ·exact (ih (i+1) (IntKind.i64.wrap (keys+1)) (by omega) (by first|trivial|assumption|(simp;done)|omega|(simp;omega)|(simp at *;omega)) (by omega)).elim (fun ⟨keysZ,qZ,xZ,gZ⟩=>.inl ⟨keysZ,qZ,xZ,fun R hg=>zaa (wkl [sb h0,se (zah Col.cells hx rfl),sc c1,sg h2,sg h3,sg h4,sg h5,sg h8,sc c9,sb h10,sb h5,si (e:=IntKind.i64.wrap (keys+1)) rfl,si hw] [1,3,23,24,25] 1 kr (gZ R hg))⟩) (fun ⟨rY,gZ⟩=>.inr ⟨rY,zaa (wkl [sb h0,se (zah Col.cells hx rfl),sc c1,sg h2,sg h3,sg h4,sg h5,sg h8,sc c9,sb h10,sb h5,si (e:=IntKind.i64.wrap (keys+1)) rfl,si hw] [1,3,23,24,25] 1 kr gZ)⟩)
       ·exact .inr ⟨false,zaa (wkr [sb h0,se (zah Col.cells hx rfl),sc c1,sg h2,sg h3,sg h4,sg h5,sg h8,sc c9,sb h10] kr)⟩
      ·exact .inr ⟨false,zaa (wkr [sb h0,se (zah Col.cells hx rfl),sc c1,sg h2,sg h3,sg h4,sg h5,sb h8] kr)⟩
    ·exact .inr ⟨false,zaa (wkr [sb h0,se (zah Col.cells hx rfl),sc c1,sg h2,sg h3,sb h4] kr)⟩
   ·exact .inr ⟨false,zaa (wkr [sb h0,se (zah Col.cells hx rfl),sc c1,sg h2,sb h3] kr)⟩
  ·exact .inr ⟨false,zaa (wkr [sb h0,se (zah Col.cells hx rfl),sc c1,sb h2] kr)⟩
theorem znf (s:Sch) (h:zad s.cols):∃ (r:Bool),zac E0 S.ref4_Valid [s.av] [] (bv r) []:=by
 obtain ⟨r1,c1⟩:=(zaw s.name)
 cases h2:!r1
 ·cases h3:decide ((↑(List.map Col.cells s.cols).length:Int) < 1)
  ·cases h4:decide (6 < (↑(List.map Col.cells s.cols).length:Int))
   ·rcases zhS s zd7 0 0 zd7 zd7 with ⟨keys5,q5,q5_1,g5⟩|⟨r5_0,g5⟩
    ·exact ⟨decide (keys5≤(1:Int)),wkc At.ref4_Valid [sc c1,sg h2,sg h3,sb h4] [1,3,23,24,25] 1 kr (g5 _ (zaa (wkr [sb q5_1] kr)))⟩
    ·exact ⟨r5_0,wkc At.ref4_Valid [sc c1,sg h2,sg h3,sb h4] [1,3,23,24,25] 1 kr (g5)⟩
   ·exact ⟨false,wk At.ref4_Valid [sc c1,sg h2,sg h3,sb h4] kr⟩
  ·exact ⟨false,wk At.ref4_Valid [sc c1,sg h2,sb h3] kr⟩
 ·exact ⟨false,wk At.ref4_Valid [sc c1,sb h2] kr⟩
abbrev Bare (x:Tb):Prop:=x.rows=[]∧zad x.sch.cols
theorem zpu (s:Sch) (h:zad s.cols):∃ (x:Tb) (e:Int),Bare x∧zac E0 S.ref6_New [s.av] [] (.tup [x.av,iv e]) []:=by
 obtain ⟨r1,c1⟩:=(znf s zd7)
 cases h2:!r1
 ·exact ⟨Tb.mk s 1 [],0,by first|exact ⟨rfl,h⟩|exact ⟨rfl,by simp⟩,wk At.ref6_New [sqx ((True∧(List.map Col.cells s.cols).length=(List.map Col.cells s.cols).length∧True∧True∧True)∧True∧True),sc c1,sb h2,sqx (AllLen (List.map Col.cells s.cols) 4∧((List.map Col.cells s.cols).length * 32).le 140737488355328)] kr⟩
 ·exact ⟨Tb.mk (Sch.mk (ByteArray.mk #[]) []) 0 [],17,by first|exact ⟨rfl,h⟩|exact ⟨rfl,by simp⟩,wk At.ref6_New [sc c1,sb h2] kr⟩
noncomputable def L_tb  (i:Nat) (out:List Tb):Cfg:=zat B.world_tablesOf 0 [(3,.own 0 out.length),(12,.sl (zau.map Sch.cells)),(13,iv ((zau.map Sch.cells).length:Nat)),(14,iv (i:Nat))] [.row Ty.Table (out.map Tb.cells) false]
theorem zgw  (hc:∀ s∈zau,zad s.cols) (hs:zad zau) (i:Nat) (out:List Tb) (hi:i≤(zau).length) (hI:out.length=i∧∀ x∈out,Bare x):∃ (out':List Tb),(out'.length=(zau).length∧∀ x∈out',Bare x)∧(decide ((((zau).length:Nat):Int) < (((zau.map Sch.cells).length:Nat):Int))=false)∧∀ R,Good E0 B.world_tablesOf [] (L_tb  (zau).length out') R→Good E0 B.world_tablesOf [] (L_tb  i out) R:=by
 obtain ⟨kk,hk⟩:∃ kk,i+kk=(zau).length:=⟨(zau).length - i,by omega⟩
 induction kk generalizing i out with
 | zero =>
  have e0:i=(zau).length:=by omega
  subst e0
  exact ⟨out,hI,by simp,fun R hg=>hg⟩
 | succ kk ih =>
  obtain ⟨x,hx⟩:=zax (l:=zau) (i:=i) (by omega)
  have h0:decide (((i:Nat):Int) < (((zau.map Sch.cells).length:Nat):Int))=true:=by simp;omega
  have hw:IntKind.i64.wrap (((i:Nat):Int)+1)=((i+1:Nat):Int):=zao i (by first|omega|(simp only [zad,Few] at *;omega))
  have hxs:=hc x (List.mem_of_getElem? hx)
  have hol:out.length≤1000000000:=by have:=hI.1;simp only [zad] at hs;omega
  obtain ⟨x1,e1,q1,c1⟩:=(zpu x zd7)
  obtain ⟨outZ,qZ,xZ,gZ⟩:=ih (i+1) (out++[x1]) (by omega) (by (refine ⟨by simp;omega,fun z hz=>?_⟩;simp only [List.mem_append,List.mem_singleton] at hz;rcases hz with hz|rfl;exact hI.2 z hz;assumption)) (by omega);exact ⟨outZ,qZ,xZ,fun R hg=>zaa (wkl (c':=(Cfg.mk (L_tb (i+1) (out++[x1])).n (L_tb (i+1) (out++[x1])).todo [(3,AV.own 0 (List.map Tb.cells out++[[sv x1.sch.name,AV.sl (List.map Col.cells x1.sch.cols),iv x1.next,AV.sl (List.map Rw.cells x1.rows)]]).length),(12,AV.sl (List.map Sch.cells zau)),(13,iv (↑(List.map Sch.cells zau).length:Int)),(14,iv (↑(i+1):Int))] [Blk.row Ty.Table (List.map Tb.cells out++[[sv x1.sch.name,AV.sl (List.map Col.cells x1.sch.cols),iv x1.next,AV.sl (List.map Rw.cells x1.rows)]]) false])) [sb h0,se (zah Sch.cells hx rfl),sc c1,sqx (AllLen [[sv x1.sch.name,AV.sl (List.map Col.cells x1.sch.cols),iv x1.next,AV.sl (List.map Rw.cells x1.rows)]] 4∧out.length=(List.map Tb.cells out).length∧(((List.map Tb.cells out).length+[[sv x1.sch.name,AV.sl (List.map Col.cells x1.sch.cols),iv x1.next,AV.sl (List.map Rw.cells x1.rows)]].length) * 72).le 140737488355328),si hw] [3,12,13,14] 1 kr (zav (show ([(3,AV.own 0 (List.map Tb.cells out++[[sv x1.sch.name,AV.sl (List.map Col.cells x1.sch.cols),iv x1.next,AV.sl (List.map Rw.cells x1.rows)]]).length),(12,AV.sl (List.map Sch.cells zau)),(13,iv (↑(List.map Sch.cells zau).length:Int)),(14,iv (↑(i+1):Int))]:TS)=[(3,AV.own 0 (out++[x1]).length),(12,AV.sl (List.map Sch.cells zau)),(13,iv (↑(List.map Sch.cells zau).length:Int)),(14,iv (↑(i+1):Int))] by first|rfl|(simp;done)|(simp [X.cells,Qy.cells,V.cells,Col.cells,Rw.cells,Tb.cells,Fr.cells,Sch.cells,Tp.cells,Pl.cells,xCol,xLit,xBin,xNeg,Im.cells,Lk.cells,Ac.cells,Se.cells,Tg.cells,Rk.cells];done)) (show ([Blk.row Ty.Table (List.map Tb.cells out++[[sv x1.sch.name,AV.sl (List.map Col.cells x1.sch.cols),iv x1.next,AV.sl (List.map Rw.cells x1.rows)]]) false]:Heap)=[Blk.row Ty.Table (List.map Tb.cells (out++[x1])) false] by first|rfl|(simp;done)|(simp [X.cells,Qy.cells,V.cells,Col.cells,Rw.cells,Tb.cells,Fr.cells,Sch.cells,Tp.cells,Pl.cells,xCol,xLit,xBin,xNeg,Im.cells,Lk.cells,Ac.cells,Se.cells,Tg.cells,Rk.cells];done)) (gZ R hg)))⟩
theorem zkN  (hc:∀ s∈zau,zad s.cols) (hs:zad zau):∃ (out:List Tb),(out.length=zau.length∧∀ x∈out,Bare x)∧zac E0 S.world_tablesOf [.sl []] [] (tsl out) []:=by
 obtain ⟨out1,q1,q1_1,g1⟩:=zgw zlz zlz 0 ([]) zlz zlz
 exact ⟨out1,by first|assumption|trivial|(simp;done)|omega|(simp;omega)|(simp at *;omega),wkc At.world_tablesOf (c':=(Cfg.mk (L_tb 0 []).n (L_tb 0 []).todo [(3,AV.nl),(12,AV.sl (List.map Sch.cells zau)),(13,iv (↑(List.map Sch.cells zau).length:Int)),(14,iv 0)] [])) [sb (rfl:false=false),sc zhw] [3,12,13,14] 0 kr (za9 (c':=L_tb 0 []) 3 Ty.Table [3,12,13,14] 1 kr kr kr (g1 _ (zaa (wkr [sqx (out1.length=(List.map Tb.cells out1).length),sb (rfl:false=false)] kr))))⟩
end Go.AM
namespace Go.AM
set_option maxRecDepth 100000
set_option maxHeartbeats 1000000
set_option linter.unusedSimpArgs false
set_option linter.unusedVariables false
theorem zeH {p:Prop} (h:p:=by first|assumption|omega|(simp;done)|exact trFew hfw (by assumption)|exact And.left (by assumption)|exact ⟨by simp [zau],by simp [zau],fun x hx=>(zgQ hx).few⟩):p:=h
theorem frFew (g:Tg) {s:Sch} (hs:Few s.cols) (a b:List V):(zcx g s a b).length≤2∧∀ f∈zcx g s a b,Few f.cols:=by
 unfold zcx
 cases g.each <;> cases g.event==2 <;> cases g.event==3 <;> cases g.event==1 <;> simp [hs]
theorem trFew {s:Sch} {r:List Tb} (hs:Few s.cols) (h:r.length≤2∧∀ x∈r,∃ n,x=trTb n s):∀ x∈r,Few x.sch.cols:=fun x hx=>by
 obtain ⟨n,rfl⟩:=h.2 x hx
 simpa [trTb,Few] using hs
theorem zsy {g:Tg} {s:Sch} {ss:List Sch} {a b:List V} (hs:Few s.cols) (h:3≤ss.length∧ss.length≤5∧∀ x∈ss,Few x.cols):(Pl.mk (zcx g s a b) ss).OkN 4 :=
 ⟨by have:=(frFew g hs a b).1;simp only;omega,(frFew g hs a b).2,fun h0=>by simp only at h0;rw [h0] at h;simp at h,by simp only [Few];omega,h.2.2⟩
noncomputable def L_pl (g:Tg) (s:Sch) (frs:List Fr) (tr:List Tb) (i:Nat) (ss:List Sch):Cfg:=zat B.world_place 0 [(2,.p 1 0),(4,.p 4 0),(18,tsl tr),(19,iv ((tr.map Tb.cells).length:Nat)),(20,iv (i:Nat))] [.box g.cells,.box [.nl,.nl],.box s.cells,.row Ty.Schema (ss.map Sch.cells) false,.box [fsl frs,.own 3 ss.length]]
theorem zhz (g:Tg) (s:Sch) (frs:List Fr) (tr:List Tb) (hl:tr.length≤2) (hf:∀ x∈tr,Few x.sch.cols) (i:Nat) (ss:List Sch) (hi:i≤(tr).length) (hI:3≤ss.length∧ss.length≤3+i∧∀ x∈ss,Few x.cols):∃ (ss':List Sch),(3≤ss'.length∧ss'.length≤3+(tr).length∧∀ x∈ss',Few x.cols)∧(decide ((((tr).length:Nat):Int) < (((tr.map Tb.cells).length:Nat):Int))=false)∧∀ R,Good E0 B.world_place [] (L_pl g s frs tr (tr).length ss') R→Good E0 B.world_place [] (L_pl g s frs tr i ss) R:=by
 obtain ⟨kk,hk⟩:∃ kk,i+kk=(tr).length:=⟨(tr).length - i,by omega⟩
 induction kk generalizing i ss with
 | zero =>
  have e0:i=(tr).length:=by omega
  subst e0
  exact ⟨ss,hI,by simp,fun R hg=>hg⟩
 | succ kk ih =>
  obtain ⟨x,hx⟩:=zax (l:=tr) (i:=i) (by omega)
  have h0:decide (((i:Nat):Int) < (((tr.map Tb.cells).length:Nat):Int))=true:=by simp;omega
  have hw:IntKind.i64.wrap (((i:Nat):Int)+1)=((i+1:Nat):Int):=zao i (by first|omega|(simp only [zad,Few] at *;omega))
  have hsl:ss.length≤5:=by omega
  obtain ⟨ssZ,qZ,xZ,gZ⟩:=ih (i+1) (ss++[x.sch]) (by omega) (by (refine ⟨by simp;omega,by simp;omega,fun z hz=>?_⟩;simp only [List.mem_append,List.mem_singleton] at hz;rcases hz with hz|rfl;exact hI.2.2 z hz;exact hf x (List.mem_of_getElem? hx))) (by omega);exact ⟨ssZ,qZ,xZ,fun R hg=>zaa (wkl [sb h0,se (zah Tb.cells hx rfl),sqx (AllLen [[sv x.sch.name,AV.sl (List.map Col.cells x.sch.cols)]] 2∧ss.length=(List.map Sch.cells ss).length∧(((List.map Sch.cells ss).length+[[sv x.sch.name,AV.sl (List.map Col.cells x.sch.cols)]].length) * 40).le 140737488355328),si hw] [2,4,18,19,20] 5 kr (zav (show ([(2,AV.p 1 0),(4,AV.p 4 0),(18,AV.sl (List.map Tb.cells tr)),(19,iv (↑(List.map Tb.cells tr).length:Int)),(20,iv (↑(i+1):Int))]:TS)=[(2,AV.p 1 0),(4,AV.p 4 0),(18,AV.sl (List.map Tb.cells tr)),(19,iv (↑(List.map Tb.cells tr).length:Int)),(20,iv (↑(i+1):Int))] by first|rfl|(simp;done)|(simp [X.cells,Qy.cells,V.cells,Col.cells,Rw.cells,Tb.cells,Fr.cells,Sch.cells,Tp.cells,Pl.cells,xCol,xLit,xBin,xNeg,Im.cells,Lk.cells,Ac.cells,Se.cells,Tg.cells,Rk.cells];done)) (show ([Blk.box [sv g.name,sv g.table,bv g.before,iv g.event,AV.sl (List.map (fun s=>[sv s]) g.of),bv g.each,AV.sl (List.map (fun s=>[sv s]) g.prec),AV.sl (List.map (fun s=>[sv s]) g.foll),AV.sl (List.map Rk.cells g.rank),AV.sl (zab g.when_),AV.sl (List.map Ac.cells g.acts)],Blk.box [AV.nl,AV.nl],Blk.box [sv s.name,AV.sl (List.map Col.cells s.cols)],Blk.row Ty.Schema (List.map Sch.cells ss++[[sv x.sch.name,AV.sl (List.map Col.cells x.sch.cols)]]) false,Blk.box [AV.sl (List.map Fr.cells frs),AV.own 3 (List.map Sch.cells ss++[[sv x.sch.name,AV.sl (List.map Col.cells x.sch.cols)]]).length]]:Heap)=[Blk.box [sv g.name,sv g.table,bv g.before,iv g.event,AV.sl (List.map (fun s=>[sv s]) g.of),bv g.each,AV.sl (List.map (fun s=>[sv s]) g.prec),AV.sl (List.map (fun s=>[sv s]) g.foll),AV.sl (List.map Rk.cells g.rank),AV.sl (zab g.when_),AV.sl (List.map Ac.cells g.acts)],Blk.box [AV.nl,AV.nl],Blk.box [sv s.name,AV.sl (List.map Col.cells s.cols)],Blk.row Ty.Schema (List.map Sch.cells (ss++[x.sch])) false,Blk.box [AV.sl (List.map Fr.cells frs),AV.own 3 (ss++[x.sch]).length]] by first|rfl|(simp;done)|(simp [X.cells,Qy.cells,V.cells,Col.cells,Rw.cells,Tb.cells,Fr.cells,Sch.cells,Tp.cells,Pl.cells,xCol,xLit,xBin,xNeg,Im.cells,Lk.cells,Ac.cells,Se.cells,Tg.cells,Rk.cells];done)) (gZ R hg)))⟩
theorem zmF (g:Tg) (hsh:zad zau) (hfw:Few (zak g.table).cols) (hs:zad (zak g.table).cols) (hS:zac E0 S.world_Schemas [] [] (.own 0 3) [.row Ty.Schema (zau.map Sch.cells) false]):∃ (p:Pl),p.OkN 4∧zac E0 S.world_place [g.av] [] p.av []:=by
 obtain ⟨r1,q1,c1⟩:=(zfk g (zak g.table) zeH)
 obtain ⟨ss2,q2,q2_1,g2⟩:=zhz g (zak g.table) (zcx g (zak g.table) [] []) r1 zeH zeH 0 zau zeH zeH
 exact ⟨Pl.mk (zcx g (zak g.table) [] []) ss2,(by exact zsy hfw ⟨by omega,by omega,by simp_all⟩),wkc At.world_place [sc (zbE g.table zeH),sc (zic g (zak g.table) ([]) ([]) zeH zeH zeH),sc hS,sc c1] [2,4,18,19,20] 5 kr (g2 _ (zaa (wkr [sqx (True∧ss2.length=(List.map Sch.cells ss2).length∧True),sb q2_1] kr)))⟩
theorem zb5 (g:Tg) (h:TabN g.table):∃ p:Pl,p.OkN 4∧zac E0 S.world_place [g.av] [] p.av [] :=
 zmF g zeh (zcB h).few (zaK (zcB h).few) zkz
def nmAt (k:Nat):Str:=([⟨#[110]⟩,⟨#[109]⟩]:List Str).getD k ⟨#[]⟩
theorem zfy (k:Nat) (h:(k:Int) < 2):ElAt [[sv ⟨#[110]⟩],[sv ⟨#[109]⟩]] (k:Int) [sv (nmAt k)] 1:=by
 have:k=0∨k=1:=by omega
 rcases this with rfl|rfl <;> exact ⟨by decide,rfl,rfl⟩
def tuAt (k:Nat):Str:=([⟨#[116]⟩,⟨#[117]⟩]:List Str).getD k ⟨#[]⟩
theorem zkg (k:Nat) (h:(k:Int) < 2):ElAt [[sv ⟨#[116]⟩],[sv ⟨#[117]⟩]] (k:Int) [sv (tuAt k)] 1:=by
 have:k=0∨k=1:=by omega
 rcases this with rfl|rfl <;> exact ⟨by decide,rfl,rfl⟩
def xBtw (c:Str) (lo hi:Int):X :=
 X.mk 7 0 false (V.mk 0 0 (ByteArray.mk #[])) (ByteArray.mk #[]) (ByteArray.mk #[]) [xCol (ByteArray.mk #[]) c,xNum lo,xNum hi] []
theorem zdS (c:Str) (lo hi:Int) (h1:-9223372036854775808 < lo) (h2:-9223372036854775808 < hi):zac E0 S.world_Between [sv c,iv lo,iv hi] [] ((xBtw c lo hi).av) []:=by
 unfold xBtw
 exact (by (try simp only [X.av,Qy.av,V.av,Tb.av,Sch.av,Pl.av,xsl,fsl,vsl,tsl,List.map_append,List.map_cons,List.map_nil,V.cells,Col.cells,Rw.cells,Tb.cells,Fr.cells,Sch.cells,Pl.cells,zaJ,zam,zaq,zan,zar,X.cells,Qy.cells,X.args_mk,X.sub_mk,Qy.items_mk,Qy.wh_mk,xCol,xLit,xBin,xNeg,Im.cells,Lk.cells,Ac.cells,Se.cells,Tg.cells,Rk.cells]);exact wk At.world_Between [sc (zaM (ByteArray.mk #[]) c),sc (zaZ lo (by first|assumption|omega|(simp;done)|(simp;omega))),sc (zaZ hi (by first|assumption|omega|(simp;done)|(simp;omega)))] kr)
structure GenOk (x:Tg):Prop where
 ok:TgOk 6 x
 set:∀ a∈x.acts,zmO a
structure CertOk (x x':Tg):Prop where
 gen:GenOk x→GenOk x'
 name:x'.name=x.name
 table:x'.table=x.table
 prec:x'.prec=x.prec
 foll:x'.foll=x.foll
theorem zcZ {n:Nat} (a b:Str):XOk (n+1) (xCol a b):=⟨zaW,⟨by simp [xCol,Few],by simp [xCol,Few]⟩,by simp [xCol],by simp [xCol]⟩
end Go.AM
namespace Go.AM
set_option maxRecDepth 100000
set_option maxHeartbeats 1000000
set_option linter.unusedSimpArgs false
set_option linter.unusedVariables false
theorem zd9 {p:Prop} (h:p:=by first|assumption|exact hp.pos|omega|exact hp.ins (by assumption)|(simp [plIn];done)|(simp at *;omega)|exact hp.short|exact ⟨rfl,by simp⟩):p:=h
theorem zjx {p:Prop} (h:p:=by first|assumption|omega|(simp only [Few,List.length_drop,List.length_take];omega)|exact fun f hf=>hp.cols f (List.mem_of_mem_take (List.mem_of_mem_drop hf))|(simp;done)):p:=h
theorem znK {p:Prop} (h:p:=by (refine ⟨by simp;omega,fun z hz=>?_⟩;simp only [List.mem_append,List.mem_singleton] at hz;rcases hz with hz|rfl;exact hI.2 z hz;first|exact XOk.le (by assumption) (by omega)|exact (zej (n:=2) (zey ((by assumption:_→zeG _) (by assumption))) (zcV (by omega) (by omega))).le (by omega))):p:=h
theorem zqj (l:List Fr) (h:l.length≤1000∧0 < l.length):SubAt (l.map Fr.cells) (IntKind.i64.wrap ((((l.map Fr.cells).length:Nat):Int) - 1)) (((l.map Fr.cells).length:Nat):Int) 4:=by
 have h1:IntKind.i64.wrap ((((l.map Fr.cells).length:Nat):Int) - 1)=((l.length:Nat):Int) - 1:=by rw [IntKind.wrap_i64];simp;omega
 rw [h1]
 refine ⟨by omega,by simp;omega,by simp,?_⟩
 simp
noncomputable def L_cp (t0:Tp) (p pi:Pl) (s f:Sch) (i:Nat) (u:Tp) (its:List X):Cfg:=zat B.world_Tape_copies 0 [(0,.p 0 0),(3,iv 1),(8,.p 3 0),(10,.p 5 0),(11,.p 6 0),(33,.sl (s.cols.map Col.cells)),(34,iv ((s.cols.map Col.cells).length:Nat)),(35,iv (i:Nat))] [.box u.cells,.box p.cells,.box s.cells,.box [.bl false,.nl,sv ⟨#[]⟩,.nl],.box f.cells,.box pi.cells,.box [.bl false,.own 7 its.length,sv f.name,.nl],.row Ty.Expr (zab its) false]
theorem zfv (t0:Tp) (p pi:Pl) (s f:Sch) (hp:pi.OkN 2) (hs:Few s.cols) (hfr:pi.frs≠[]) (i:Nat) (u:Tp) (its:List X) (hi:i≤(s.cols).length) (hI:its.length=i∧∀ x∈its,XOk 5 x):∃ (u':Tp) (its':List X),(its'.length=(s.cols).length∧∀ x∈its',XOk 5 x)∧(decide ((((s.cols).length:Nat):Int) < (((s.cols.map Col.cells).length:Nat):Int))=false)∧∀ R,Good E0 B.world_Tape_copies [.box t0.cells] (L_cp t0 p pi s f (s.cols).length u' its') R→Good E0 B.world_Tape_copies [.box t0.cells] (L_cp t0 p pi s f i u its) R:=by
 obtain ⟨kk,hk⟩:∃ kk,i+kk=(s.cols).length:=⟨(s.cols).length - i,by omega⟩
 induction kk generalizing i u its with
 | zero =>
  have e0:i=(s.cols).length:=by omega
  subst e0
  exact ⟨u,its,hI,by simp,fun R hg=>hg⟩
 | succ kk ih =>
  obtain ⟨x,hx⟩:=zax (l:=s.cols) (i:=i) (by omega)
  have h0:decide (((i:Nat):Int) < (((s.cols.map Col.cells).length:Nat):Int))=true:=by simp;omega
  have hw:IntKind.i64.wrap (((i:Nat):Int)+1)=((i+1:Nat):Int):=zao i (by first|omega|(simp only [zad,Few] at *;omega))
  have hfl:pi.frs.length≤1000∧0 < pi.frs.length:=⟨by have:=hp.frs;omega,List.length_pos_iff.2 hfr⟩
  have hil:its.length≤1000:=by have:=hI.1;simp only [Few] at hs;omega
  have hsa:=zqj pi.frs hfl
  obtain ⟨e1,t1,q1,c1⟩:=(zaE u pi x.type zjx)
  let p_1:List St:=[sb h0,se (zah Col.cells hx rfl),sl [0] c1]
  cases h2:x.key
  ·obtain ⟨uZ,itsZ,qZ,xZ,gZ⟩:=ih (i+1) t1 (its++[e1]) (by omega) znK (by omega);exact ⟨uZ,itsZ,qZ,xZ,fun R hg=>zaa (wkl (p_1++[sb h2,sqx (AllLen [[iv e1.kind,iv e1.op,bv e1.not,iv e1.val.kind,iv e1.val.int,sv e1.val.text,sv e1.table,sv e1.name,AV.sl (zab e1.args),AV.sl (zae e1.sub)]] 10∧its.length=(zab its).length∧(((zab its).length+[[iv e1.kind,iv e1.op,bv e1.not,iv e1.val.kind,iv e1.val.int,sv e1.val.text,sv e1.table,sv e1.name,AV.sl (zab e1.args),AV.sl (zae e1.sub)]].length) * 136).le 140737488355328),si hw]) [0,3,8,10,11,33,34,35] 8 kr (zav (show ([(0,AV.p 0 0),(3,iv 1),(8,AV.p 3 0),(10,AV.p 5 0),(11,AV.p 6 0),(33,AV.sl (List.map Col.cells s.cols)),(34,iv (↑(List.map Col.cells s.cols).length:Int)),(35,iv (↑(i+1):Int))]:TS)=[(0,AV.p 0 0),(3,iv 1),(8,AV.p 3 0),(10,AV.p 5 0),(11,AV.p 6 0),(33,AV.sl (List.map Col.cells s.cols)),(34,iv (↑(List.map Col.cells s.cols).length:Int)),(35,iv (↑(i+1):Int))] by first|rfl|(simp;done)|(simp [X.cells,Qy.cells,V.cells,Col.cells,Rw.cells,Tb.cells,Fr.cells,Sch.cells,Tp.cells,Pl.cells,xCol,xLit,xBin,xNeg,Im.cells,Lk.cells,Ac.cells,Se.cells,Tg.cells,Rk.cells];done)) (show ([Blk.box [AV.sl (List.map (fun n=>[iv n]) t1.l),iv (t1.pos:Int)],Blk.box [AV.sl (List.map Fr.cells p.frs),AV.sl (List.map Sch.cells p.tbs)],Blk.box [sv s.name,AV.sl (List.map Col.cells s.cols)],Blk.box [AV.bl false,AV.nl,sv (ByteArray.mk #[]),AV.nl],Blk.box [sv f.name,AV.sl (List.map Col.cells f.cols)],Blk.box [AV.sl (List.map Fr.cells pi.frs),AV.sl (List.map Sch.cells pi.tbs)],Blk.box [AV.bl false,AV.own 7 (zab its++[[iv e1.kind,iv e1.op,bv e1.not,iv e1.val.kind,iv e1.val.int,sv e1.val.text,sv e1.table,sv e1.name,AV.sl (zab e1.args),AV.sl (zae e1.sub)]]).length,sv f.name,AV.nl],Blk.row Ty.Expr (zab its++[[iv e1.kind,iv e1.op,bv e1.not,iv e1.val.kind,iv e1.val.int,sv e1.val.text,sv e1.table,sv e1.name,AV.sl (zab e1.args),AV.sl (zae e1.sub)]]) false]:Heap)=[Blk.box t1.cells,Blk.box [AV.sl (List.map Fr.cells p.frs),AV.sl (List.map Sch.cells p.tbs)],Blk.box [sv s.name,AV.sl (List.map Col.cells s.cols)],Blk.box [AV.bl false,AV.nl,sv (ByteArray.mk #[]),AV.nl],Blk.box [sv f.name,AV.sl (List.map Col.cells f.cols)],Blk.box [AV.sl (List.map Fr.cells pi.frs),AV.sl (List.map Sch.cells pi.tbs)],Blk.box [AV.bl false,AV.own 7 (its++[e1]).length,sv f.name,AV.nl],Blk.row Ty.Expr (zab (its++[e1])) false] by first|rfl|(simp;done)|(simp [X.cells,Qy.cells,V.cells,Col.cells,Rw.cells,Tb.cells,Fr.cells,Sch.cells,Tp.cells,Pl.cells,xCol,xLit,xBin,xNeg,Im.cells,Lk.cells,Ac.cells,Se.cells,Tg.cells,Rk.cells];done)) (gZ R hg)))⟩
  ·obtain ⟨x3,ok3,t3,q3,c3⟩:=(zbY t1 (Pl.mk (List.drop (IntKind.i64.wrap ((↑(List.map Fr.cells pi.frs).length:Int) - 1)).toNat (List.take (List.map Fr.cells pi.frs).length pi.frs)) []) 1 zjx zjx)
   let p_2:List St:=p_1++[sb h2,si (e:=IntKind.i64.wrap ((↑(List.map Fr.cells pi.frs).length:Int) - 1)) rfl,sqx (SubAt (List.map Fr.cells pi.frs) (IntKind.i64.wrap ((↑(List.map Fr.cells pi.frs).length:Int) - 1)) (↑(List.map Fr.cells pi.frs).length:Int) 4),sl [0] (conv (args:=[AV.p 0 0,AV.agg [AV.sl (List.drop (IntKind.i64.wrap ((↑(List.map Fr.cells pi.frs).length:Int) - 1)).toNat (List.take (↑(List.map Fr.cells pi.frs).length:Int).toNat (List.map Fr.cells pi.frs))),AV.sl []],iv 1]) (hl:=[Blk.box [AV.sl (List.map (fun n=>[iv n]) t1.l),iv (t1.pos:Int)]]) c3 (by first|(simp;done)|(simp [Pl.cells,Tp.cells,List.map_drop,List.map_take,List.take_of_length_le];done)|rfl) (by first|(simp;done)|(simp [Pl.cells,Tp.cells,List.map_drop,List.map_take,List.take_of_length_le];done)|rfl))]
   rcases (Bool.eq_false_or_eq_true ok3).symm with h4|h4
   ·obtain ⟨uZ,itsZ,qZ,xZ,gZ⟩:=ih (i+1) t3 (its++[e1]) (by omega) znK (by omega);exact ⟨uZ,itsZ,qZ,xZ,fun R hg=>zaa (wkl (p_2++[sb h4,sqx (AllLen [[iv e1.kind,iv e1.op,bv e1.not,iv e1.val.kind,iv e1.val.int,sv e1.val.text,sv e1.table,sv e1.name,AV.sl (zab e1.args),AV.sl (zae e1.sub)]] 10∧its.length=(zab its).length∧(((zab its).length+[[iv e1.kind,iv e1.op,bv e1.not,iv e1.val.kind,iv e1.val.int,sv e1.val.text,sv e1.table,sv e1.name,AV.sl (zab e1.args),AV.sl (zae e1.sub)]].length) * 136).le 140737488355328),si hw]) [0,3,8,10,11,33,34,35] 8 kr (zav (show ([(0,AV.p 0 0),(3,iv 1),(8,AV.p 3 0),(10,AV.p 5 0),(11,AV.p 6 0),(33,AV.sl (List.map Col.cells s.cols)),(34,iv (↑(List.map Col.cells s.cols).length:Int)),(35,iv (↑(i+1):Int))]:TS)=[(0,AV.p 0 0),(3,iv 1),(8,AV.p 3 0),(10,AV.p 5 0),(11,AV.p 6 0),(33,AV.sl (List.map Col.cells s.cols)),(34,iv (↑(List.map Col.cells s.cols).length:Int)),(35,iv (↑(i+1):Int))] by first|rfl|(simp;done)|(simp [X.cells,Qy.cells,V.cells,Col.cells,Rw.cells,Tb.cells,Fr.cells,Sch.cells,Tp.cells,Pl.cells,xCol,xLit,xBin,xNeg,Im.cells,Lk.cells,Ac.cells,Se.cells,Tg.cells,Rk.cells];done)) (show ([Blk.box [AV.sl (List.map (fun n=>[iv n]) t3.l),iv (t3.pos:Int)],Blk.box [AV.sl (List.map Fr.cells p.frs),AV.sl (List.map Sch.cells p.tbs)],Blk.box [sv s.name,AV.sl (List.map Col.cells s.cols)],Blk.box [AV.bl false,AV.nl,sv (ByteArray.mk #[]),AV.nl],Blk.box [sv f.name,AV.sl (List.map Col.cells f.cols)],Blk.box [AV.sl (List.map Fr.cells pi.frs),AV.sl (List.map Sch.cells pi.tbs)],Blk.box [AV.bl false,AV.own 7 (zab its++[[iv e1.kind,iv e1.op,bv e1.not,iv e1.val.kind,iv e1.val.int,sv e1.val.text,sv e1.table,sv e1.name,AV.sl (zab e1.args),AV.sl (zae e1.sub)]]).length,sv f.name,AV.nl],Blk.row Ty.Expr (zab its++[[iv e1.kind,iv e1.op,bv e1.not,iv e1.val.kind,iv e1.val.int,sv e1.val.text,sv e1.table,sv e1.name,AV.sl (zab e1.args),AV.sl (zae e1.sub)]]) false]:Heap)=[Blk.box t3.cells,Blk.box [AV.sl (List.map Fr.cells p.frs),AV.sl (List.map Sch.cells p.tbs)],Blk.box [sv s.name,AV.sl (List.map Col.cells s.cols)],Blk.box [AV.bl false,AV.nl,sv (ByteArray.mk #[]),AV.nl],Blk.box [sv f.name,AV.sl (List.map Col.cells f.cols)],Blk.box [AV.sl (List.map Fr.cells pi.frs),AV.sl (List.map Sch.cells pi.tbs)],Blk.box [AV.bl false,AV.own 7 (its++[e1]).length,sv f.name,AV.nl],Blk.row Ty.Expr (zab (its++[e1])) false] by first|rfl|(simp;done)|(simp [X.cells,Qy.cells,V.cells,Col.cells,Rw.cells,Tb.cells,Fr.cells,Sch.cells,Tp.cells,Pl.cells,xCol,xLit,xBin,xNeg,Im.cells,Lk.cells,Ac.cells,Se.cells,Tg.cells,Rk.cells];done)) (gZ R hg)))⟩
   ·obtain ⟨a5,t5,q5,c5⟩:=(zaf t3 20 zjx)
    obtain ⟨uZ,itsZ,qZ,xZ,gZ⟩:=ih (i+1) t5 (its++[xBin 9 x3 (xNum (↑(10+a5):Int))]) (by omega) znK (by omega);exact ⟨uZ,itsZ,qZ,xZ,fun R hg=>zaa (wkl (p_2++[sb h4,sd [(2,[sl [0] c5]),(3,[si (zaY (t:=10+(a5:Int)) (n:=10+a5) (by omega) (by omega))]),(4,[sc (zaZ ((↑(10+a5):Int)) zjx)]),(5,[sc (zaA 9 x3 (xNum (↑(10+a5):Int)))])],sqx (AllLen [[iv (xBin 9 x3 (xNum (↑(10+a5):Int))).kind,iv (xBin 9 x3 (xNum (↑(10+a5):Int))).op,bv (xBin 9 x3 (xNum (↑(10+a5):Int))).not,iv (xBin 9 x3 (xNum (↑(10+a5):Int))).val.kind,iv (xBin 9 x3 (xNum (↑(10+a5):Int))).val.int,sv (xBin 9 x3 (xNum (↑(10+a5):Int))).val.text,sv (xBin 9 x3 (xNum (↑(10+a5):Int))).table,sv (xBin 9 x3 (xNum (↑(10+a5):Int))).name,AV.sl (zab [x3,xNum (↑(10+a5):Int)]),AV.sl (zae [])]] 10∧its.length=(zab its).length∧(((zab its).length+[[iv (xBin 9 x3 (xNum (↑(10+a5):Int))).kind,iv (xBin 9 x3 (xNum (↑(10+a5):Int))).op,bv (xBin 9 x3 (xNum (↑(10+a5):Int))).not,iv (xBin 9 x3 (xNum (↑(10+a5):Int))).val.kind,iv (xBin 9 x3 (xNum (↑(10+a5):Int))).val.int,sv (xBin 9 x3 (xNum (↑(10+a5):Int))).val.text,sv (xBin 9 x3 (xNum (↑(10+a5):Int))).table,sv (xBin 9 x3 (xNum (↑(10+a5):Int))).name,AV.sl (zab [x3,xNum (↑(10+a5):Int)]),AV.sl (zae [])]].length) * 136).le 140737488355328),si hw]) [0,3,8,10,11,33,34,35] 8 kr (zav (show ([(0,AV.p 0 0),(3,iv 1),(8,AV.p 3 0),(10,AV.p 5 0),(11,AV.p 6 0),(33,AV.sl (List.map Col.cells s.cols)),(34,iv (↑(List.map Col.cells s.cols).length:Int)),(35,iv (↑(i+1):Int))]:TS)=[(0,AV.p 0 0),(3,iv 1),(8,AV.p 3 0),(10,AV.p 5 0),(11,AV.p 6 0),(33,AV.sl (List.map Col.cells s.cols)),(34,iv (↑(List.map Col.cells s.cols).length:Int)),(35,iv (↑(i+1):Int))] by first|rfl|(simp;done)|(simp [X.cells,Qy.cells,V.cells,Col.cells,Rw.cells,Tb.cells,Fr.cells,Sch.cells,Tp.cells,Pl.cells,xCol,xLit,xBin,xNeg,Im.cells,Lk.cells,Ac.cells,Se.cells,Tg.cells,Rk.cells];done)) (show ([Blk.box [AV.sl (List.map (fun n=>[iv n]) t5.l),iv (t5.pos:Int)],Blk.box [AV.sl (List.map Fr.cells p.frs),AV.sl (List.map Sch.cells p.tbs)],Blk.box [sv s.name,AV.sl (List.map Col.cells s.cols)],Blk.box [AV.bl false,AV.nl,sv (ByteArray.mk #[]),AV.nl],Blk.box [sv f.name,AV.sl (List.map Col.cells f.cols)],Blk.box [AV.sl (List.map Fr.cells pi.frs),AV.sl (List.map Sch.cells pi.tbs)],Blk.box [AV.bl false,AV.own 7 (zab its++[[iv (xBin 9 x3 (xNum (↑(10+a5):Int))).kind,iv (xBin 9 x3 (xNum (↑(10+a5):Int))).op,bv (xBin 9 x3 (xNum (↑(10+a5):Int))).not,iv (xBin 9 x3 (xNum (↑(10+a5):Int))).val.kind,iv (xBin 9 x3 (xNum (↑(10+a5):Int))).val.int,sv (xBin 9 x3 (xNum (↑(10+a5):Int))).val.text,sv (xBin 9 x3 (xNum (↑(10+a5):Int))).table,sv (xBin 9 x3 (xNum (↑(10+a5):Int))).name,AV.sl (zab [x3,xNum (↑(10+a5):Int)]),AV.sl (zae [])]]).length,sv f.name,AV.nl],Blk.row Ty.Expr (zab its++[[iv (xBin 9 x3 (xNum (↑(10+a5):Int))).kind,iv (xBin 9 x3 (xNum (↑(10+a5):Int))).op,bv (xBin 9 x3 (xNum (↑(10+a5):Int))).not,iv (xBin 9 x3 (xNum (↑(10+a5):Int))).val.kind,iv (xBin 9 x3 (xNum (↑(10+a5):Int))).val.int,sv (xBin 9 x3 (xNum (↑(10+a5):Int))).val.text,sv (xBin 9 x3 (xNum (↑(10+a5):Int))).table,sv (xBin 9 x3 (xNum (↑(10+a5):Int))).name,AV.sl (zab [x3,xNum (↑(10+a5):Int)]),AV.sl (zae [])]]) false]:Heap)=[Blk.box t5.cells,Blk.box [AV.sl (List.map Fr.cells p.frs),AV.sl (List.map Sch.cells p.tbs)],Blk.box [sv s.name,AV.sl (List.map Col.cells s.cols)],Blk.box [AV.bl false,AV.nl,sv (ByteArray.mk #[]),AV.nl],Blk.box [sv f.name,AV.sl (List.map Col.cells f.cols)],Blk.box [AV.sl (List.map Fr.cells pi.frs),AV.sl (List.map Sch.cells pi.tbs)],Blk.box [AV.bl false,AV.own 7 (its++[xBin 9 x3 (xNum (↑(10+a5):Int))]).length,sv f.name,AV.nl],Blk.row Ty.Expr (zab (its++[xBin 9 x3 (xNum (↑(10+a5):Int))])) false] by first|rfl|(simp;done)|(simp [X.cells,Qy.cells,V.cells,Col.cells,Rw.cells,Tb.cells,Fr.cells,Sch.cells,Tp.cells,Pl.cells,xCol,xLit,xBin,xNeg,Im.cells,Lk.cells,Ac.cells,Se.cells,Tg.cells,Rk.cells];done)) (gZ R hg)))⟩
theorem qwA {st:Bool} {nm:Str} {its:List X} {k:Nat} (h:its.length=k∧∀ x∈its,XOk 5 x) (hk:k≤1000):QW 5 (Qy.mk st its nm []):=⟨by simp only [Few,Qy.items_mk];omega,by simp [Few],h.2,by simp⟩
theorem qwB {st:Bool} {nm:Str} {its:List X} {k:Nat} {e:X} (h:its.length=k∧∀ x∈its,XOk 5 x) (hk:k≤1000) (he:XOk 4 e):QW 5 (Qy.mk st its nm [e]):=⟨by simp only [Few,Qy.items_mk];omega,by simp [Few],h.2,by
 simp only [Qy.wh_mk,List.mem_singleton,forall_eq]
 exact he.le (by omega)⟩
theorem zjg (t:Tp) (p:Pl) (s:Sch) (hp:p.OkN 3) (hs:Few s.cols):∃ (qy:Qy) (t':Tp),QW 5 qy∧zac E0 S.world_Tape_copies [.p 0 0,p.av,s.av,iv 1] [.box t.cells] qy.av [.box t'.cells]:=by
 obtain ⟨a1,t1,q1,c1⟩:=(zaf t ((↑(List.map Sch.cells p.tbs).length:Int)) zd9)
 obtain ⟨x2,e2⟩:=zax (l:=p.tbs) (i:=a1) zd9
 obtain ⟨u3,its3,q3,q3_1,g3⟩:=zfv t p (plIn p x2) s x2 zd9 zd9 zd9 0 t1 ([]) zd9 zd9
 obtain ⟨b4,t4,c4⟩:=(zaj u3 2 zd9)
 let p_1:List St:=[sdm [(6,[sl [0] c1]),(7,[se (zah Sch.cells e2 rfl)])] 0 [(0,AV.p 0 0),(1,AV.agg [AV.sl (List.map Fr.cells p.frs),AV.sl (List.map Sch.cells p.tbs)]),(2,AV.agg [sv s.name,AV.sl (List.map Col.cells s.cols)]),(3,iv 1),(5,AV.p 1 0),(6,AV.p 2 0),(8,AV.p 3 0),(9,AV.p 4 0),(17,AV.p 1 1),(18,AV.sl (List.map Sch.cells p.tbs)),(19,AV.p 0 0),(20,AV.p 1 1),(21,AV.sl (List.map Sch.cells p.tbs)),(22,iv (↑(List.map Sch.cells p.tbs).length:Int)),(23,iv (a1:Int)),(24,AV.dp [sv x2.name,AV.sl (List.map Col.cells x2.cols)]),(25,AV.agg [sv x2.name,AV.sl (List.map Col.cells x2.cols)])] [Blk.box [AV.sl (List.map (fun n=>[iv n]) t1.l),iv (t1.pos:Int)],Blk.box [AV.sl (List.map Fr.cells p.frs),AV.sl (List.map Sch.cells p.tbs)],Blk.box [sv s.name,AV.sl (List.map Col.cells s.cols)],Blk.box [AV.bl false,AV.nl,sv (ByteArray.mk #[]),AV.nl],Blk.box [sv x2.name,AV.sl (List.map Col.cells x2.cols)]],sc (zbR p x2 zd9)]
 let p_2:List St:=[sqx (True∧its3.length=(zab its3).length∧True∧True∧True),sb q3_1,sl [0] c4]
 rcases (Bool.eq_false_or_eq_true b4).symm with h5|h5
 ·exact ⟨Qy.mk false its3 x2.name [],t4,(by first|exact qwA (by assumption) (by simpa [Few] using hs)|exact qwB (by assumption) (by simpa [Few] using hs) (by assumption)),wkcN At.world_Tape_copies p_1 [0,3,8,10,11,33,34,35] 7 [(.ob 6 1 Ty.Expr,8)] kr (g3 _ (zaa (wkr (p_2++[sb h5]) kr)))⟩
 ·obtain ⟨e6,t6,q6,c6⟩:=(zaE t4 (plIn p x2) 2 zd9)
  exact ⟨Qy.mk false its3 x2.name [e6],t6,(by first|exact qwA (by assumption) (by simpa [Few] using hs)|exact qwB (by assumption) (by simpa [Few] using hs) (by assumption)),wkcN At.world_Tape_copies p_1 [0,3,8,10,11,33,34,35] 7 [(.ob 6 1 Ty.Expr,8)] kr (g3 _ (zaa (wkrS (y:=AV.agg [bv false,AV.sl (zab its3),sv x2.name,AV.sl [[iv e6.kind,iv e6.op,bv e6.not,iv e6.val.kind,iv e6.val.int,sv e6.val.text,sv e6.table,sv e6.name,AV.sl (zab e6.args),AV.sl (zae e6.sub)]]]) (H:=[Blk.box [AV.sl (List.map (fun n=>[iv n]) t6.l),iv (t6.pos:Int)]]) (p_2++[sb h5,sl [0] c6]) kr ⟨by first|rfl|(simp;done)|(simp [X.cells,Qy.cells,V.cells,Col.cells,Rw.cells,Tb.cells,Fr.cells,Sch.cells,Tp.cells,Pl.cells,xCol,xLit,xBin,xNeg,Im.cells,Lk.cells,Ac.cells,Se.cells,Tg.cells,Rk.cells];done),by first|rfl|(simp;done)|(simp [X.cells,Qy.cells,V.cells,Col.cells,Rw.cells,Tb.cells,Fr.cells,Sch.cells,Tp.cells,Pl.cells,xCol,xLit,xBin,xNeg,Im.cells,Lk.cells,Ac.cells,Se.cells,Tg.cells,Rk.cells];done)⟩)))⟩
end Go.AM
namespace Go.AM
set_option maxRecDepth 100000
set_option maxHeartbeats 1000000
set_option linter.unusedSimpArgs false
set_option linter.unusedVariables false
theorem zci {p:Prop} (h:p:=by first|assumption|omega|exact hp.less|exact (zcB (by assumption)).few|exact zcB (by assumption)|exact hp.short|exact zqv hp (zcB (by assumption)).few|exact zpb (by assumption)|exact ⟨by simp,by simp,by simp⟩|exact ⟨by simp;omega,by simp⟩|(simp only [List.length_map] at *;omega)|(simp;done)):p:=h
theorem zdt {p:Prop} (h:p:=by first|assumption|omega|exact hI.push (by simp only [decide_eq_true_eq] at *;omega) (by assumption)|exact hI.push (by simp only [decide_eq_true_eq] at *;omega) ((zej (n:=2) (zcZ _ _) (zcV (by omega) (by omega))).le (by omega))|(simp;done)):p:=h
theorem zjP {p:Prop} (h:p:=by first|exact zkR hI (by assumption)|exact zkR hI (zcW (And.right (by assumption)))|exact zsp (zkR hI (zcW (n:=3) (And.right (by assumption)))) ((zcV (n:=2) (by omega) (by omega)))):p:=h
theorem zjE {p:Prop} (h:p:=by first|assumption|exact acIns (by assumption) (by omega)|exact acCp (by assumption) (by omega)|exact zqs (by omega)|exact acDel1 (by assumption) (by omega)):p:=h
theorem zgJ {p:Prop} (h:p:=by first|assumption|exact acUp hI hk|exact acUp1 hI hk (by assumption)):p:=h
theorem zim {p:Prop} (h:p:=by first|assumption|omega|(simp;done)|(simp;omega)):p:=h
theorem zlV {p:Prop} (h:p:=by first|assumption|omega|exact ⟨rfl,by simp⟩|(simp;done)):p:=h
abbrev zpY (k:Int) (n:Str):List AV:=[iv k,sv n,.nl,.nl,.nl,.nl,sv ⟨#[]⟩]
theorem zkR {xs:List X} {i:Nat} {e:X} (h:xs.length=i∧∀ x∈xs,XOk 5 x) (he:XOk 4 e):(xs++[e]).length=i+1∧∀ x∈xs++[e],XOk 5 x :=
 ⟨by simp;omega,fun x hx=>by
  simp only [List.mem_append,List.mem_singleton] at hx
  rcases hx with hx|rfl
  ·exact h.2 x hx
  ·exact he.le (by omega)⟩
theorem zsp {xs:List X} {i k:Nat} {e:X} (h:xs.length=i∧∀ x∈xs,XOk 5 x) (he:XOk 4 e):(xs.set k e).length=i∧∀ x∈xs.set k e,XOk 5 x :=
 ⟨by simp;omega,fun x hx=>by
  rcases List.mem_or_eq_of_mem_set hx with hx|rfl
  ·exact h.2 x hx
  ·exact he.le (by omega)⟩
theorem zri {n:Nat} (h:n≤1000):(IntKind.i64.wrap (((n+1:Nat):Int) - 1)).toNat=n:=by
 rw [IntKind.wrap_i64];omega
theorem zoV (xs:List X) (c:List AV) (h:xs.length≤1000):OwnEl (zab xs++[c]) (zab xs++[c]).length (IntKind.i64.wrap ((((zab xs++[c]).length:Nat):Int) - 1)).toNat c:=by
 have h1:(zab xs++[c]).length=xs.length+1:=by simp
 refine ⟨rfl,?_⟩
 rw [h1,zri h]
 simp
noncomputable def L_chC (t0:Tp) (p pi:Pl) (s:Sch) (kd:Int) (rows:List (List X)) (kq:Nat) (i:Nat) (u:Tp) (xs:List X):Cfg:=zat B.world_Tape_Change 1 [(0,.p 0 0),(2,iv 1),(4,.p 1 0),(6,.p 2 0),(7,.p 3 0),(8,.p 4 0),(9,.p 5 0),(10,iv (kq:Nat)),(11,.own 7 xs.length),(52,.sl (s.cols.map Col.cells)),(53,iv ((s.cols.map Col.cells).length:Nat)),(54,iv (i:Nat))] [.box u.cells,.box p.cells,.box (zpY 0 ⟨#[]⟩),.box s.cells,.box pi.cells,.box [iv kd,sv s.name,.own 6 rows.length,.nl,.nl,.nl,sv ⟨#[]⟩],.row Ty.LExpr (rows.map zaF) false,.row Ty.Expr (zab xs) false]
theorem zfc (t0:Tp) (p pi:Pl) (s:Sch) (kd:Int) (rows:List (List X)) (kq:Nat) (hp:p.OkN 2) (hs:Few s.cols) (i:Nat) (u:Tp) (xs:List X) (hi:i≤(s.cols).length) (hI:xs.length=i∧∀ x∈xs,XOk 5 x):∃ (u':Tp) (xs':List X),(xs'.length=(s.cols).length∧∀ x∈xs',XOk 5 x)∧(decide ((((s.cols).length:Nat):Int) < (((s.cols.map Col.cells).length:Nat):Int))=false)∧∀ R,Good E0 B.world_Tape_Change [.box t0.cells] (L_chC t0 p pi s kd rows kq (s.cols).length u' xs') R→Good E0 B.world_Tape_Change [.box t0.cells] (L_chC t0 p pi s kd rows kq i u xs) R:=by
 obtain ⟨kk,hk⟩:∃ kk,i+kk=(s.cols).length:=⟨(s.cols).length - i,by omega⟩
 induction kk generalizing i u xs with
 | zero =>
  have e0:i=(s.cols).length:=by omega
  subst e0
  exact ⟨u,xs,hI,by simp,fun R hg=>hg⟩
 | succ kk ih =>
  obtain ⟨x,hx⟩:=zax (l:=s.cols) (i:=i) (by omega)
  have h0:decide (((i:Nat):Int) < (((s.cols.map Col.cells).length:Nat):Int))=true:=by simp;omega
  have hw:IntKind.i64.wrap (((i:Nat):Int)+1)=((i+1:Nat):Int):=zao i (by first|omega|(simp only [zad,Few] at *;omega))
  have hil:xs.length≤1000:=by have:=hI.1;simp only [Few] at hs;omega
  have hwx:IntKind.i64.wrap ((xs.length:Nat):Int)=((xs.length:Nat):Int):=by rw [IntKind.wrap_i64];omega
  let p_1:List St:=[sb h0,se (zah Col.cells hx rfl)]
  cases h1:x.key
  ·obtain ⟨b2,t2,c2⟩:=(zaj u 3 zim)
   rcases (Bool.eq_false_or_eq_true b2).symm with h3|h3
   ·obtain ⟨e4,t4,q4,c4⟩:=(zaE t2 p x.type zim)
    obtain ⟨uZ,xsZ,qZ,xZ,gZ⟩:=ih (i+1) t4 (xs++[e4]) (by omega) zjP (by omega);exact ⟨uZ,xsZ,qZ,xZ,fun R hg=>zaa (wkl (p_1++[sg h1,sl [0] c2,sb h3,sl [0] c4,sqx (AllLen [[iv e4.kind,iv e4.op,bv e4.not,iv e4.val.kind,iv e4.val.int,sv e4.val.text,sv e4.table,sv e4.name,AV.sl (zab e4.args),AV.sl (zae e4.sub)]] 10∧xs.length=(zab xs).length∧(((zab xs).length+[[iv e4.kind,iv e4.op,bv e4.not,iv e4.val.kind,iv e4.val.int,sv e4.val.text,sv e4.table,sv e4.name,AV.sl (zab e4.args),AV.sl (zae e4.sub)]].length) * 136).le 140737488355328),si hw]) [0,2,4,6,7,8,9,10,11,52,53,54] 8 kr (zav (show ([(0,AV.p 0 0),(2,iv 1),(4,AV.p 1 0),(6,AV.p 2 0),(7,AV.p 3 0),(8,AV.p 4 0),(9,AV.p 5 0),(10,iv (kq:Int)),(11,AV.own 7 (zab xs++[[iv e4.kind,iv e4.op,bv e4.not,iv e4.val.kind,iv e4.val.int,sv e4.val.text,sv e4.table,sv e4.name,AV.sl (zab e4.args),AV.sl (zae e4.sub)]]).length),(52,AV.sl (List.map Col.cells s.cols)),(53,iv (↑(List.map Col.cells s.cols).length:Int)),(54,iv (↑(i+1):Int))]:TS)=_ by first|rfl|(simp;done)|(simp [za0,List.map_set,Tp.cells,X.cells,Pl.cells,Sch.cells,xCol,xLit,xBin,xNeg];done)) (show ([Blk.box [AV.sl (List.map (fun n=>[iv n]) t4.l),iv (t4.pos:Int)],Blk.box [AV.sl (List.map Fr.cells p.frs),AV.sl (List.map Sch.cells p.tbs)],Blk.box [iv 0,sv (ByteArray.mk #[]),AV.nl,AV.nl,AV.nl,AV.nl,sv (ByteArray.mk #[])],Blk.box [sv s.name,AV.sl (List.map Col.cells s.cols)],Blk.box [AV.sl (List.map Fr.cells pi.frs),AV.sl (List.map Sch.cells pi.tbs)],Blk.box [iv kd,sv s.name,AV.own 6 rows.length,AV.nl,AV.nl,AV.nl,sv (ByteArray.mk #[])],Blk.row Ty.LExpr (List.map zaF rows) false,Blk.row Ty.Expr (zab xs++[[iv e4.kind,iv e4.op,bv e4.not,iv e4.val.kind,iv e4.val.int,sv e4.val.text,sv e4.table,sv e4.name,AV.sl (zab e4.args),AV.sl (zae e4.sub)]]) false]:Heap)=_ by first|rfl|(simp;done)|(simp [za0,List.map_set,Tp.cells,X.cells,Pl.cells,Sch.cells,xCol,xLit,xBin,xNeg];done)) (gZ R hg)))⟩
   ·obtain ⟨v5,t5,q5,c5⟩:=(za1 t2 x.type)
    let p_2:List St:=p_1++[sg h1,sl [0] c2,sb h3,sl [0] c5,sc (zaS v5),sqx (AllLen [[iv (xLit v5).kind,iv (xLit v5).op,bv (xLit v5).not,iv (xLit v5).val.kind,iv (xLit v5).val.int,sv (xLit v5).val.text,sv (xLit v5).table,sv (xLit v5).name,AV.sl (zab []),AV.sl (zae [])]] 10∧xs.length=(zab xs).length∧(((zab xs).length+[[iv (xLit v5).kind,iv (xLit v5).op,bv (xLit v5).not,iv (xLit v5).val.kind,iv (xLit v5).val.int,sv (xLit v5).val.text,sv (xLit v5).table,sv (xLit v5).name,AV.sl (zab []),AV.sl (zae [])]].length) * 136).le 140737488355328)]
    cases h6:x.type==1
    ·obtain ⟨uZ,xsZ,qZ,xZ,gZ⟩:=ih (i+1) t5 (xs++[xLit v5]) (by omega) zjP (by omega);exact ⟨uZ,xsZ,qZ,xZ,fun R hg=>zaa (wkl (p_2++[sb h6,si hw]) [0,2,4,6,7,8,9,10,11,52,53,54] 8 kr (zav (show ([(0,AV.p 0 0),(2,iv 1),(4,AV.p 1 0),(6,AV.p 2 0),(7,AV.p 3 0),(8,AV.p 4 0),(9,AV.p 5 0),(10,iv (kq:Int)),(11,AV.own 7 (zab xs++[[iv (xLit v5).kind,iv (xLit v5).op,bv (xLit v5).not,iv (xLit v5).val.kind,iv (xLit v5).val.int,sv (xLit v5).val.text,sv (xLit v5).table,sv (xLit v5).name,AV.sl (zab []),AV.sl (zae [])]]).length),(52,AV.sl (List.map Col.cells s.cols)),(53,iv (↑(List.map Col.cells s.cols).length:Int)),(54,iv (↑(i+1):Int))]:TS)=_ by first|rfl|(simp;done)|(simp [za0,List.map_set,Tp.cells,X.cells,Pl.cells,Sch.cells,xCol,xLit,xBin,xNeg];done)) (show ([Blk.box [AV.sl (List.map (fun n=>[iv n]) t5.l),iv (t5.pos:Int)],Blk.box [AV.sl (List.map Fr.cells p.frs),AV.sl (List.map Sch.cells p.tbs)],Blk.box [iv 0,sv (ByteArray.mk #[]),AV.nl,AV.nl,AV.nl,AV.nl,sv (ByteArray.mk #[])],Blk.box [sv s.name,AV.sl (List.map Col.cells s.cols)],Blk.box [AV.sl (List.map Fr.cells pi.frs),AV.sl (List.map Sch.cells pi.tbs)],Blk.box [iv kd,sv s.name,AV.own 6 rows.length,AV.nl,AV.nl,AV.nl,sv (ByteArray.mk #[])],Blk.row Ty.LExpr (List.map zaF rows) false,Blk.row Ty.Expr (zab xs++[[iv (xLit v5).kind,iv (xLit v5).op,bv (xLit v5).not,iv (xLit v5).val.kind,iv (xLit v5).val.int,sv (xLit v5).val.text,sv (xLit v5).table,sv (xLit v5).name,AV.sl (zab []),AV.sl (zae [])]]) false]:Heap)=_ by first|rfl|(simp;done)|(simp [za0,List.map_set,Tp.cells,X.cells,Pl.cells,Sch.cells,xCol,xLit,xBin,xNeg];done)) (gZ R hg)))⟩
    ·obtain ⟨a7,t7,q7,c7⟩:=(zaX t5)
     obtain ⟨uZ,xsZ,qZ,xZ,gZ⟩:=ih (i+1) t7 ((xs++[xLit v5]).set (IntKind.i64.wrap ((↑(zab xs++[[iv (xLit v5).kind,iv (xLit v5).op,bv (xLit v5).not,iv (xLit v5).val.kind,iv (xLit v5).val.int,sv (xLit v5).val.text,sv (xLit v5).table,sv (xLit v5).name,AV.sl (zab []),AV.sl (zae [])]]).length:Int) - 1)).toNat (xNum a7)) (by omega) zjP (by omega);exact ⟨uZ,xsZ,qZ,xZ,fun R hg=>zaa (wkl (p_2++[sb h6,sqx ((zab xs++[[iv (xLit v5).kind,iv (xLit v5).op,bv (xLit v5).not,iv (xLit v5).val.kind,iv (xLit v5).val.int,sv (xLit v5).val.text,sv (xLit v5).table,sv (xLit v5).name,AV.sl (zab []),AV.sl (zae [])]]).length=(zab xs++[[iv (xLit v5).kind,iv (xLit v5).op,bv (xLit v5).not,iv (xLit v5).val.kind,iv (xLit v5).val.int,sv (xLit v5).val.text,sv (xLit v5).table,sv (xLit v5).name,AV.sl (zab []),AV.sl (zae [])]]).length),si (e:=IntKind.i64.wrap ((↑(zab xs++[[iv (xLit v5).kind,iv (xLit v5).op,bv (xLit v5).not,iv (xLit v5).val.kind,iv (xLit v5).val.int,sv (xLit v5).val.text,sv (xLit v5).table,sv (xLit v5).name,AV.sl (zab []),AV.sl (zae [])]]).length:Int) - 1)) rfl,sl [0] c7,sc (zaZ a7 zim),sqx (OwnAt (zab xs++[[iv (xLit v5).kind,iv (xLit v5).op,bv (xLit v5).not,iv (xLit v5).val.kind,iv (xLit v5).val.int,sv (xLit v5).val.text,sv (xLit v5).table,sv (xLit v5).name,AV.sl (zab []),AV.sl (zae [])]]) (zab xs++[[iv (xLit v5).kind,iv (xLit v5).op,bv (xLit v5).not,iv (xLit v5).val.kind,iv (xLit v5).val.int,sv (xLit v5).val.text,sv (xLit v5).table,sv (xLit v5).name,AV.sl (zab []),AV.sl (zae [])]]).length (IntKind.i64.wrap ((↑(zab xs++[[iv (xLit v5).kind,iv (xLit v5).op,bv (xLit v5).not,iv (xLit v5).val.kind,iv (xLit v5).val.int,sv (xLit v5).val.text,sv (xLit v5).table,sv (xLit v5).name,AV.sl (zab []),AV.sl (zae [])]]).length:Int) - 1))),sx (.el ([iv (xLit v5).kind,iv (xLit v5).op,bv (xLit v5).not,iv (xLit v5).val.kind,iv (xLit v5).val.int,sv (xLit v5).val.text,sv (xLit v5).table,sv (xLit v5).name,AV.sl (zab []),AV.sl (zae [])])) (And.intro (owed (p:=True∧True∧True∧True∧True∧True∧True∧True∧True∧True∧True)) (zoV xs ([iv (xLit v5).kind,iv (xLit v5).op,bv (xLit v5).not,iv (xLit v5).val.kind,iv (xLit v5).val.int,sv (xLit v5).val.text,sv (xLit v5).table,sv (xLit v5).name,AV.sl (zab []),AV.sl (zae [])]) zim)),si hw]) [0,2,4,6,7,8,9,10,11,52,53,54] 8 kr (zav (show ([(0,AV.p 0 0),(2,iv 1),(4,AV.p 1 0),(6,AV.p 2 0),(7,AV.p 3 0),(8,AV.p 4 0),(9,AV.p 5 0),(10,iv (kq:Int)),(11,AV.own 7 (zab xs++[[iv (xLit v5).kind,iv (xLit v5).op,bv (xLit v5).not,iv (xLit v5).val.kind,iv (xLit v5).val.int,sv (xLit v5).val.text,sv (xLit v5).table,sv (xLit v5).name,AV.sl (zab []),AV.sl (zae [])]]).length),(52,AV.sl (List.map Col.cells s.cols)),(53,iv (↑(List.map Col.cells s.cols).length:Int)),(54,iv (↑(i+1):Int))]:TS)=_ by first|rfl|(simp;done)|(simp [za0,List.map_set,Tp.cells,X.cells,Pl.cells,Sch.cells,xCol,xLit,xBin,xNeg];done)) (show ([Blk.box [AV.sl (List.map (fun n=>[iv n]) t7.l),iv (t7.pos:Int)],Blk.box [AV.sl (List.map Fr.cells p.frs),AV.sl (List.map Sch.cells p.tbs)],Blk.box [iv 0,sv (ByteArray.mk #[]),AV.nl,AV.nl,AV.nl,AV.nl,sv (ByteArray.mk #[])],Blk.box [sv s.name,AV.sl (List.map Col.cells s.cols)],Blk.box [AV.sl (List.map Fr.cells pi.frs),AV.sl (List.map Sch.cells pi.tbs)],Blk.box [iv kd,sv s.name,AV.own 6 rows.length,AV.nl,AV.nl,AV.nl,sv (ByteArray.mk #[])],Blk.row Ty.LExpr (List.map zaF rows) false,Blk.row Ty.Expr ((zab xs++[[iv (xLit v5).kind,iv (xLit v5).op,bv (xLit v5).not,iv (xLit v5).val.kind,iv (xLit v5).val.int,sv (xLit v5).val.text,sv (xLit v5).table,sv (xLit v5).name,AV.sl (zab []),AV.sl (zae [])]]).set (IntKind.i64.wrap ((↑(zab xs++[[iv (xLit v5).kind,iv (xLit v5).op,bv (xLit v5).not,iv (xLit v5).val.kind,iv (xLit v5).val.int,sv (xLit v5).val.text,sv (xLit v5).table,sv (xLit v5).name,AV.sl (zab []),AV.sl (zae [])]]).length:Int) - 1)).toNat [iv (xNum a7).kind,iv (xNum a7).op,bv (xNum a7).not,iv (xNum a7).val.kind,iv (xNum a7).val.int,sv (xNum a7).val.text,sv (xNum a7).table,sv (xNum a7).name,AV.sl (zab (xNum a7).args),AV.sl (zae (xNum a7).sub)]) false]:Heap)=_ by first|rfl|(simp;done)|(simp [za0,List.map_set,Tp.cells,X.cells,Pl.cells,Sch.cells,xCol,xLit,xBin,xNeg];done)) (gZ R hg)))⟩
  ·obtain ⟨v8,t8,q8,c8⟩:=(za1 u x.type)
   let p_3:List St:=p_1++[sb h1,sl [0] c8,sc (zaS v8),sqx (AllLen [[iv (xLit v8).kind,iv (xLit v8).op,bv (xLit v8).not,iv (xLit v8).val.kind,iv (xLit v8).val.int,sv (xLit v8).val.text,sv (xLit v8).table,sv (xLit v8).name,AV.sl (zab []),AV.sl (zae [])]] 10∧xs.length=(zab xs).length∧(((zab xs).length+[[iv (xLit v8).kind,iv (xLit v8).op,bv (xLit v8).not,iv (xLit v8).val.kind,iv (xLit v8).val.int,sv (xLit v8).val.text,sv (xLit v8).table,sv (xLit v8).name,AV.sl (zab []),AV.sl (zae [])]].length) * 136).le 140737488355328)]
   cases h9:x.type==1
   ·obtain ⟨uZ,xsZ,qZ,xZ,gZ⟩:=ih (i+1) t8 (xs++[xLit v8]) (by omega) zjP (by omega);exact ⟨uZ,xsZ,qZ,xZ,fun R hg=>zaa (wkl (p_3++[sb h9,si hw]) [0,2,4,6,7,8,9,10,11,52,53,54] 8 kr (zav (show ([(0,AV.p 0 0),(2,iv 1),(4,AV.p 1 0),(6,AV.p 2 0),(7,AV.p 3 0),(8,AV.p 4 0),(9,AV.p 5 0),(10,iv (kq:Int)),(11,AV.own 7 (zab xs++[[iv (xLit v8).kind,iv (xLit v8).op,bv (xLit v8).not,iv (xLit v8).val.kind,iv (xLit v8).val.int,sv (xLit v8).val.text,sv (xLit v8).table,sv (xLit v8).name,AV.sl (zab []),AV.sl (zae [])]]).length),(52,AV.sl (List.map Col.cells s.cols)),(53,iv (↑(List.map Col.cells s.cols).length:Int)),(54,iv (↑(i+1):Int))]:TS)=_ by first|rfl|(simp;done)|(simp [za0,List.map_set,Tp.cells,X.cells,Pl.cells,Sch.cells,xCol,xLit,xBin,xNeg];done)) (show ([Blk.box [AV.sl (List.map (fun n=>[iv n]) t8.l),iv (t8.pos:Int)],Blk.box [AV.sl (List.map Fr.cells p.frs),AV.sl (List.map Sch.cells p.tbs)],Blk.box [iv 0,sv (ByteArray.mk #[]),AV.nl,AV.nl,AV.nl,AV.nl,sv (ByteArray.mk #[])],Blk.box [sv s.name,AV.sl (List.map Col.cells s.cols)],Blk.box [AV.sl (List.map Fr.cells pi.frs),AV.sl (List.map Sch.cells pi.tbs)],Blk.box [iv kd,sv s.name,AV.own 6 rows.length,AV.nl,AV.nl,AV.nl,sv (ByteArray.mk #[])],Blk.row Ty.LExpr (List.map zaF rows) false,Blk.row Ty.Expr (zab xs++[[iv (xLit v8).kind,iv (xLit v8).op,bv (xLit v8).not,iv (xLit v8).val.kind,iv (xLit v8).val.int,sv (xLit v8).val.text,sv (xLit v8).table,sv (xLit v8).name,AV.sl (zab []),AV.sl (zae [])]]) false]:Heap)=_ by first|rfl|(simp;done)|(simp [za0,List.map_set,Tp.cells,X.cells,Pl.cells,Sch.cells,xCol,xLit,xBin,xNeg];done)) (gZ R hg)))⟩
   ·obtain ⟨a10,t10,q10,c10⟩:=(zaX t8)
    obtain ⟨uZ,xsZ,qZ,xZ,gZ⟩:=ih (i+1) t10 ((xs++[xLit v8]).set (IntKind.i64.wrap ((↑(zab xs++[[iv (xLit v8).kind,iv (xLit v8).op,bv (xLit v8).not,iv (xLit v8).val.kind,iv (xLit v8).val.int,sv (xLit v8).val.text,sv (xLit v8).table,sv (xLit v8).name,AV.sl (zab []),AV.sl (zae [])]]).length:Int) - 1)).toNat (xNum a10)) (by omega) zjP (by omega);exact ⟨uZ,xsZ,qZ,xZ,fun R hg=>zaa (wkl (p_3++[sb h9,sqx ((zab xs++[[iv (xLit v8).kind,iv (xLit v8).op,bv (xLit v8).not,iv (xLit v8).val.kind,iv (xLit v8).val.int,sv (xLit v8).val.text,sv (xLit v8).table,sv (xLit v8).name,AV.sl (zab []),AV.sl (zae [])]]).length=(zab xs++[[iv (xLit v8).kind,iv (xLit v8).op,bv (xLit v8).not,iv (xLit v8).val.kind,iv (xLit v8).val.int,sv (xLit v8).val.text,sv (xLit v8).table,sv (xLit v8).name,AV.sl (zab []),AV.sl (zae [])]]).length),si (e:=IntKind.i64.wrap ((↑(zab xs++[[iv (xLit v8).kind,iv (xLit v8).op,bv (xLit v8).not,iv (xLit v8).val.kind,iv (xLit v8).val.int,sv (xLit v8).val.text,sv (xLit v8).table,sv (xLit v8).name,AV.sl (zab []),AV.sl (zae [])]]).length:Int) - 1)) rfl,sl [0] c10,sc (zaZ a10 zim),sqx (OwnAt (zab xs++[[iv (xLit v8).kind,iv (xLit v8).op,bv (xLit v8).not,iv (xLit v8).val.kind,iv (xLit v8).val.int,sv (xLit v8).val.text,sv (xLit v8).table,sv (xLit v8).name,AV.sl (zab []),AV.sl (zae [])]]) (zab xs++[[iv (xLit v8).kind,iv (xLit v8).op,bv (xLit v8).not,iv (xLit v8).val.kind,iv (xLit v8).val.int,sv (xLit v8).val.text,sv (xLit v8).table,sv (xLit v8).name,AV.sl (zab []),AV.sl (zae [])]]).length (IntKind.i64.wrap ((↑(zab xs++[[iv (xLit v8).kind,iv (xLit v8).op,bv (xLit v8).not,iv (xLit v8).val.kind,iv (xLit v8).val.int,sv (xLit v8).val.text,sv (xLit v8).table,sv (xLit v8).name,AV.sl (zab []),AV.sl (zae [])]]).length:Int) - 1))),sx (.el ([iv (xLit v8).kind,iv (xLit v8).op,bv (xLit v8).not,iv (xLit v8).val.kind,iv (xLit v8).val.int,sv (xLit v8).val.text,sv (xLit v8).table,sv (xLit v8).name,AV.sl (zab []),AV.sl (zae [])])) (And.intro (owed (p:=True∧True∧True∧True∧True∧True∧True∧True∧True∧True∧True)) (zoV xs ([iv (xLit v8).kind,iv (xLit v8).op,bv (xLit v8).not,iv (xLit v8).val.kind,iv (xLit v8).val.int,sv (xLit v8).val.text,sv (xLit v8).table,sv (xLit v8).name,AV.sl (zab []),AV.sl (zae [])]) zim)),si hw]) [0,2,4,6,7,8,9,10,11,52,53,54] 8 kr (zav (show ([(0,AV.p 0 0),(2,iv 1),(4,AV.p 1 0),(6,AV.p 2 0),(7,AV.p 3 0),(8,AV.p 4 0),(9,AV.p 5 0),(10,iv (kq:Int)),(11,AV.own 7 (zab xs++[[iv (xLit v8).kind,iv (xLit v8).op,bv (xLit v8).not,iv (xLit v8).val.kind,iv (xLit v8).val.int,sv (xLit v8).val.text,sv (xLit v8).table,sv (xLit v8).name,AV.sl (zab []),AV.sl (zae [])]]).length),(52,AV.sl (List.map Col.cells s.cols)),(53,iv (↑(List.map Col.cells s.cols).length:Int)),(54,iv (↑(i+1):Int))]:TS)=_ by first|rfl|(simp;done)|(simp [za0,List.map_set,Tp.cells,X.cells,Pl.cells,Sch.cells,xCol,xLit,xBin,xNeg];done)) (show ([Blk.box [AV.sl (List.map (fun n=>[iv n]) t10.l),iv (t10.pos:Int)],Blk.box [AV.sl (List.map Fr.cells p.frs),AV.sl (List.map Sch.cells p.tbs)],Blk.box [iv 0,sv (ByteArray.mk #[]),AV.nl,AV.nl,AV.nl,AV.nl,sv (ByteArray.mk #[])],Blk.box [sv s.name,AV.sl (List.map Col.cells s.cols)],Blk.box [AV.sl (List.map Fr.cells pi.frs),AV.sl (List.map Sch.cells pi.tbs)],Blk.box [iv kd,sv s.name,AV.own 6 rows.length,AV.nl,AV.nl,AV.nl,sv (ByteArray.mk #[])],Blk.row Ty.LExpr (List.map zaF rows) false,Blk.row Ty.Expr ((zab xs++[[iv (xLit v8).kind,iv (xLit v8).op,bv (xLit v8).not,iv (xLit v8).val.kind,iv (xLit v8).val.int,sv (xLit v8).val.text,sv (xLit v8).table,sv (xLit v8).name,AV.sl (zab []),AV.sl (zae [])]]).set (IntKind.i64.wrap ((↑(zab xs++[[iv (xLit v8).kind,iv (xLit v8).op,bv (xLit v8).not,iv (xLit v8).val.kind,iv (xLit v8).val.int,sv (xLit v8).val.text,sv (xLit v8).table,sv (xLit v8).name,AV.sl (zab []),AV.sl (zae [])]]).length:Int) - 1)).toNat [iv (xNum a10).kind,iv (xNum a10).op,bv (xNum a10).not,iv (xNum a10).val.kind,iv (xNum a10).val.int,sv (xNum a10).val.text,sv (xNum a10).table,sv (xNum a10).name,AV.sl (zab (xNum a10).args),AV.sl (zae (xNum a10).sub)]) false]:Heap)=_ by first|rfl|(simp;done)|(simp [za0,List.map_set,Tp.cells,X.cells,Pl.cells,Sch.cells,xCol,xLit,xBin,xNeg];done)) (gZ R hg)))⟩
theorem zrO {rows:List (List X)} {k m:Nat} {xs:List X} (h:rows.length+(k+1)≤3∧∀ r∈rows,Few r∧∀ x∈r,XOk 5 x) (hm:m≤1000) (hx:xs.length=m∧∀ x∈xs,XOk 5 x) :
  (rows++[xs]).length+k≤3∧∀ r∈rows++[xs],Few r∧∀ x∈r,XOk 5 x :=
 ⟨by have:=h.1;simp;omega,fun r hr=>by
  simp only [List.mem_append,List.mem_singleton] at hr
  rcases hr with hr|rfl
  ·exact h.2 r hr
  ·exact ⟨by simp only [Few];omega,hx.2⟩⟩
noncomputable def L_chR (t0:Tp) (p pi:Pl) (s:Sch) (kd:Int) (k:Nat) (u:Tp) (rows:List (List X)):Cfg:=zat B.world_Tape_Change 0 [(0,.p 0 0),(2,iv 1),(4,.p 1 0),(6,.p 2 0),(7,.p 3 0),(8,.p 4 0),(9,.p 5 0),(10,iv (k:Nat))] [.box u.cells,.box p.cells,.box (zpY 0 ⟨#[]⟩),.box s.cells,.box pi.cells,.box [iv kd,sv s.name,.own 6 rows.length,.nl,.nl,.nl,sv ⟨#[]⟩],.row Ty.LExpr (rows.map zaF) false]
theorem zfg (t0:Tp) (p pi:Pl) (s:Sch) (kd:Int) (hp:p.OkN 2) (hs:SchOk s) (k:Nat) (u:Tp) (rows:List (List X)) (hi:k≤1000000000) (hI:rows.length+k≤3∧∀ r∈rows,Few r∧∀ x∈r,XOk 5 x):∃ (u':Tp) (rows':List (List X)),(rows'.length+0≤3∧∀ r∈rows',Few r∧∀ x∈r,XOk 5 x)∧(decide ((0:Int) < ((0:Nat):Int))=false)∧∀ R,Good E0 B.world_Tape_Change [.box t0.cells] (L_chR t0 p pi s kd 0 u' rows') R→Good E0 B.world_Tape_Change [.box t0.cells] (L_chR t0 p pi s kd k u rows) R:=by
 induction k generalizing u rows with
 | zero=>exact ⟨u,rows,hI,by decide,fun R hg=>hg⟩
 | succ k ih =>
  have h0:decide ((0:Int) < (((k+1):Nat):Int))=true:=by first|(simp;done)|(simp;omega)
  have hw:IntKind.i64.wrap (((k+1:Nat):Int) - 1)=((k:Nat):Int):=zfW k (by omega)
  have hss:=hs.few;have hrl:rows.length≤3:=by omega
  obtain ⟨u1,xs1,q1,q1_1,g1⟩:=zfc t0 p pi s kd rows (k+1) zlV zlV 0 u ([]) zlV zlV
  obtain ⟨uZ,rowsZ,qZ,xZ,gZ⟩:=ih u1 (rows++[xs1]) (by omega) (by exact zrO hI hss (by assumption));exact ⟨uZ,rowsZ,qZ,xZ,fun R hg=>zaa (wklN [sb h0] [0,2,4,6,7,8,9,10,11,52,53,54] 7 [(.ot 11 Ty.Expr,8)] kr (g1 _ (zaa (wkl [sb q1_1,sqx (xs1.length=(zab xs1).length∧True),sqx (AllLen [[AV.sl (zab xs1)]] 1∧rows.length=(List.map zaF rows).length∧(((List.map zaF rows).length+[[AV.sl (zab xs1)]].length) * 24).le 140737488355328),si hw] [0,2,4,6,7,8,9,10] 7 kr (zav rfl (show ([Blk.box [AV.sl (List.map (fun n=>[iv n]) u1.l),iv (u1.pos:Int)],Blk.box [AV.sl (List.map Fr.cells p.frs),AV.sl (List.map Sch.cells p.tbs)],Blk.box [iv 0,sv (ByteArray.mk #[]),AV.nl,AV.nl,AV.nl,AV.nl,sv (ByteArray.mk #[])],Blk.box [sv s.name,AV.sl (List.map Col.cells s.cols)],Blk.box [AV.sl (List.map Fr.cells pi.frs),AV.sl (List.map Sch.cells pi.tbs)],Blk.box [iv kd,sv s.name,AV.own 6 (List.map zaF rows++[[AV.sl (zab xs1)]]).length,AV.nl,AV.nl,AV.nl,sv (ByteArray.mk #[])],Blk.row Ty.LExpr (List.map zaF rows++[[AV.sl (zab xs1)]]) false]:Heap)=_ by first|rfl|(simp;done)|(simp [X.cells,Qy.cells,V.cells,Col.cells,Rw.cells,Tb.cells,Fr.cells,Sch.cells,Tp.cells,Pl.cells,xCol,xLit,xBin,xNeg,Im.cells,Lk.cells,Ac.cells,Se.cells,Tg.cells,Rk.cells];done)) (gZ R hg))))))⟩
noncomputable def L_up (p pi:Pl) (s:Sch) (kd:Int) (first i:Nat) (u:Tp) (sets:List Se):Cfg:=zat B.world_Tape_Change 2 [(0,.p 0 0),(2,iv 1),(6,.p 2 0),(7,.p 3 0),(8,.p 4 0),(9,.p 5 0),(14,iv (first:Nat)),(15,iv (i:Nat))] [.box u.cells,.box p.cells,.box (zpY 0 ⟨#[]⟩),.box s.cells,.box pi.cells,.box [iv kd,sv s.name,.nl,.nl,.own 6 sets.length,.nl,sv ⟨#[]⟩],.row Ty.Set (sets.map Se.cells) false]
structure SetsOk (i:Nat) (sets:List Se):Prop where
 len:sets.length≤i
 ex:∀ s∈sets,XOk 5 s.ex
 two:i≤2
theorem SetsOk.push {i:Nat} {sets:List Se} {c:Str} {e:X} (h:SetsOk i sets) (hi:i < 2) (he:XOk 4 e):SetsOk (i+1) (sets++[⟨c,e⟩]) :=
 ⟨by have:=h.len;simp;omega,fun s hs=>by
  simp only [List.mem_append,List.mem_singleton] at hs
  rcases hs with hs|rfl
  ·exact h.ex s hs
  ·exact he.le (by omega),by omega⟩
theorem acUp {i:Nat} {sets:List Se} {kd:Int} {nm tx:Str} (h:SetsOk i sets) (hk:kd≠5):AcOk 5 (Ac.mk kd nm [] [] sets [] tx)∧(Ac.mk kd nm [] [] sets [] tx).kind≠5 :=
 ⟨⟨by simp [Few],by simp,by simp [Few],by simp,by have:=h.len;have:=h.two;simp only [Few];omega,h.ex,by simp [Few],by simp⟩,hk⟩
theorem acUp1 {i:Nat} {sets:List Se} {kd:Int} {nm tx:Str} {e:X} (h:SetsOk i sets) (hk:kd≠5) (he:XOk 4 e):AcOk 5 (Ac.mk kd nm [] [] sets [e] tx)∧(Ac.mk kd nm [] [] sets [e] tx).kind≠5 :=
 ⟨⟨by simp [Few],by simp,by simp [Few],by simp,by have:=h.len;have:=h.two;simp only [Few];omega,h.ex,by simp [Few],by simpa using he.le (by omega)⟩,hk⟩
theorem modOk {a n:Nat} (h:0 < n):0≤((a:Nat):Int).tmod ((n:Nat):Int)∧((a:Nat):Int).tmod ((n:Nat):Int) < ((n:Nat):Int) :=
 ⟨Int.tmod_nonneg _ (by omega),Int.tmod_lt_of_pos _ (by omega)⟩
theorem zqZ (t0:Tp) (p pi:Pl) (s:Sch) (kd:Int) (first i:Nat) (u:Tp) (sets:List Se) (hs:Few s.cols) (hss:zad s.cols) (hpi:pi.OkN 2) (hk:kd≠5) (hf:first < s.cols.length) (hf2:s.cols.length≤1000) (hI:SetsOk i sets) (hi2:i≤2) (hsl:sets.length≤2) (ihl:∀ (u':Tp) (sets':List Se),SetsOk (i+1) sets'→∃ (r:Ac) (t':Tp),(AcOk 5 r∧r.kind≠5)∧Good E0 B.world_Tape_Change [.box t0.cells] (L_up p pi s kd first (i+1) u' sets') (Shut 1 fun rZ hZ=>rZ=r.av∧hZ=[.box t'.cells])):∃ (r:Ac) (t':Tp),(AcOk 5 r∧r.kind≠5)∧Good E0 B.world_Tape_Change [.box t0.cells] (zlP (L_up p pi s kd first i u sets)) (Shut 1 fun rZ hZ=>rZ=(r.av)∧hZ=[.box t'.cells]):=by
  obtain ⟨a1,t1,q1,c1⟩:=(zaf u 2 zdt)
  cases h2:decide ((i:Int) < (↑(1+a1):Int))
  ·obtain ⟨b3,t3,c3⟩:=(zaj t1 4 zdt)
   cases h4:!b3
   ·exact ⟨Ac.mk kd s.name [] [] sets [] (ByteArray.mk #[]),t3,zgJ,wkr [sqx (True∧True∧True∧True∧sets.length=(List.map Se.cells sets).length∧True∧True∧True),sl [0] c1,si (zaY (t:=1+(a1:Int)) (n:=1+a1) (by omega) (by omega)),sb h2,sl [0] c3,sb h4] kr⟩
   ·obtain ⟨e5,t5,q5,c5⟩:=(zaE t3 pi 2 zdt)
    exact ⟨Ac.mk kd s.name [] [] sets [e5] (ByteArray.mk #[]),t5,zgJ,wkrS (y:=AV.agg [iv kd,sv s.name,AV.sl [],AV.sl [],AV.sl (List.map Se.cells sets),AV.sl [[iv e5.kind,iv e5.op,bv e5.not,iv e5.val.kind,iv e5.val.int,sv e5.val.text,sv e5.table,sv e5.name,AV.sl (zab e5.args),AV.sl (zae e5.sub)]],sv (ByteArray.mk #[])]) (H:=[Blk.box [AV.sl (List.map (fun n=>[iv n]) t5.l),iv (t5.pos:Int)]]) [sqx (True∧True∧True∧True∧sets.length=(List.map Se.cells sets).length∧True∧True∧True),sl [0] c1,si (zaY (t:=1+(a1:Int)) (n:=1+a1) (by omega) (by omega)),sb h2,sl [0] c3,sb h4,sl [0] c5] kr ⟨by first|rfl|(simp;done)|(simp [X.cells,Qy.cells,V.cells,Col.cells,Rw.cells,Tb.cells,Fr.cells,Sch.cells,Tp.cells,Pl.cells,xCol,xLit,xBin,xNeg,Im.cells,Lk.cells,Ac.cells,Se.cells,Tg.cells,Rk.cells];done),by first|rfl|(simp;done)|(simp [X.cells,Qy.cells,V.cells,Col.cells,Rw.cells,Tb.cells,Fr.cells,Sch.cells,Tp.cells,Pl.cells,xCol,xLit,xBin,xNeg,Im.cells,Lk.cells,Ac.cells,Se.cells,Tg.cells,Rk.cells];done)⟩⟩
  ·cases h6:decide ((i:Int) < (↑(List.map Col.cells s.cols).length:Int))
   ·obtain ⟨b7,t7,c7⟩:=(zaj t1 4 zdt)
    cases h8:!b7
    ·exact ⟨Ac.mk kd s.name [] [] sets [] (ByteArray.mk #[]),t7,zgJ,wkr [sqx (True∧True∧True∧True∧sets.length=(List.map Se.cells sets).length∧True∧True∧True),sl [0] c1,si (zaY (t:=1+(a1:Int)) (n:=1+a1) (by omega) (by omega)),sg h2,sb h6,sl [0] c7,sb h8] kr⟩
    ·obtain ⟨e9,t9,q9,c9⟩:=(zaE t7 pi 2 zdt)
     exact ⟨Ac.mk kd s.name [] [] sets [e9] (ByteArray.mk #[]),t9,zgJ,wkrS (y:=AV.agg [iv kd,sv s.name,AV.sl [],AV.sl [],AV.sl (List.map Se.cells sets),AV.sl [[iv e9.kind,iv e9.op,bv e9.not,iv e9.val.kind,iv e9.val.int,sv e9.val.text,sv e9.table,sv e9.name,AV.sl (zab e9.args),AV.sl (zae e9.sub)]],sv (ByteArray.mk #[])]) (H:=[Blk.box [AV.sl (List.map (fun n=>[iv n]) t9.l),iv (t9.pos:Int)]]) [sqx (True∧True∧True∧True∧sets.length=(List.map Se.cells sets).length∧True∧True∧True),sl [0] c1,si (zaY (t:=1+(a1:Int)) (n:=1+a1) (by omega) (by omega)),sg h2,sb h6,sl [0] c7,sb h8,sl [0] c9] kr ⟨by first|rfl|(simp;done)|(simp [X.cells,Qy.cells,V.cells,Col.cells,Rw.cells,Tb.cells,Fr.cells,Sch.cells,Tp.cells,Pl.cells,xCol,xLit,xBin,xNeg,Im.cells,Lk.cells,Ac.cells,Se.cells,Tg.cells,Rk.cells];done),by first|rfl|(simp;done)|(simp [X.cells,Qy.cells,V.cells,Col.cells,Rw.cells,Tb.cells,Fr.cells,Sch.cells,Tp.cells,Pl.cells,xCol,xLit,xBin,xNeg,Im.cells,Lk.cells,Ac.cells,Se.cells,Tg.cells,Rk.cells];done)⟩⟩
   ·obtain ⟨x10,e10⟩:=zjF (l:=s.cols) (i:=(↑(first+i):Int).tmod (↑(List.map Col.cells s.cols).length:Int)) (by (rw [List.length_map];exact modOk (by omega)))
    obtain ⟨e11,t11,q11,c11⟩:=(zaE t1 pi x10.type zdt)
    cases h12:x10.type==1
    ·obtain ⟨r13_0,r13_1,p13_0,g13⟩:=ihl t11 (sets++[Se.mk x10.name e11]) zdt
     exact ⟨r13_0,r13_1,zgJ,wkl [sl [0] c1,si (zaY (t:=1+(a1:Int)) (n:=1+a1) (by omega) (by omega)),sg h2,sb h6,sd [(4,[si (zaY (t:=(first:Int)+(i:Int)) (n:=first+i) (by omega) (by omega))]),(8,[sx (.i ((↑(first+i):Int).tmod (↑(List.map Col.cells s.cols).length:Int))) (show (↑(List.map Col.cells s.cols).length:Int)≠(0:Int)∧((↑(first+i):Int).tmod (↑(List.map Col.cells s.cols).length:Int):Int)=(↑(first+i):Int).tmod (↑(List.map Col.cells s.cols).length:Int) from ⟨(by rw [List.length_map];omega),rfl⟩)]),(9,[se (zcT Col.cells e10 rfl)])],sdm [(7,[sl [0] c11])] 0 [(0,AV.p 0 0),(2,iv 1),(6,AV.p 2 0),(7,AV.p 3 0),(8,AV.p 4 0),(9,AV.p 5 0),(14,iv (first:Int)),(15,iv (i:Int)),(16,AV.p 7 0),(17,AV.p 8 0),(107,iv (i:Int)),(108,AV.p 0 0),(109,iv (a1:Int)),(110,iv (↑(1+a1):Int)),(111,bv (decide ((i:Int) < (↑(1+a1):Int)))),(112,AV.bl true),(113,iv (i:Int)),(114,AV.p 3 1),(115,AV.sl (List.map Col.cells s.cols)),(116,iv (↑(List.map Col.cells s.cols).length:Int)),(117,bv (decide ((i:Int) < (↑(List.map Col.cells s.cols).length:Int)))),(118,AV.bl true),(121,AV.p 3 1),(122,AV.sl (List.map Col.cells s.cols)),(123,iv (first:Int)),(124,iv (i:Int)),(125,iv (↑(first+i):Int)),(126,AV.p 3 1),(127,AV.sl (List.map Col.cells s.cols)),(128,iv (↑(List.map Col.cells s.cols).length:Int)),(129,iv ((↑(first+i):Int).tmod (↑(List.map Col.cells s.cols).length:Int))),(130,AV.dp [sv x10.name,iv x10.type,bv x10.notNull,bv x10.key]),(131,AV.agg [sv x10.name,iv x10.type,bv x10.notNull,bv x10.key]),(132,AV.p 7 0),(133,sv x10.name),(134,AV.p 0 0),(135,AV.agg [AV.sl (List.map Fr.cells pi.frs),AV.sl (List.map Sch.cells pi.tbs)]),(136,AV.p 7 1),(137,iv x10.type),(138,iv 1),(139,AV.agg [iv e11.kind,iv e11.op,bv e11.not,iv e11.val.kind,iv e11.val.int,sv e11.val.text,sv e11.table,sv e11.name,AV.sl (zab e11.args),AV.sl (zae e11.sub)]),(140,AV.agg [sv x10.name,iv e11.kind,iv e11.op,bv e11.not,iv e11.val.kind,iv e11.val.int,sv e11.val.text,sv e11.table,sv e11.name,AV.sl (zab e11.args),AV.sl (zae e11.sub)])] [Blk.box [AV.sl (List.map (fun n=>[iv n]) t11.l),iv (t11.pos:Int)],Blk.box [AV.sl (List.map Fr.cells p.frs),AV.sl (List.map Sch.cells p.tbs)],Blk.box [iv 0,sv (ByteArray.mk #[]),AV.nl,AV.nl,AV.nl,AV.nl,sv (ByteArray.mk #[])],Blk.box [sv s.name,AV.sl (List.map Col.cells s.cols)],Blk.box [AV.sl (List.map Fr.cells pi.frs),AV.sl (List.map Sch.cells pi.tbs)],Blk.box [iv kd,sv s.name,AV.nl,AV.nl,AV.own 6 sets.length,AV.nl,sv (ByteArray.mk #[])],Blk.row Ty.Set (List.map Se.cells sets) false,Blk.box [sv x10.name,iv x10.type,bv x10.notNull,bv x10.key],Blk.box [sv x10.name,iv e11.kind,iv e11.op,bv e11.not,iv e11.val.kind,iv e11.val.int,sv e11.val.text,sv e11.table,sv e11.name,AV.sl (zab e11.args),AV.sl (zae e11.sub)]],sb h12,sqx (AllLen [[sv x10.name,iv e11.kind,iv e11.op,bv e11.not,iv e11.val.kind,iv e11.val.int,sv e11.val.text,sv e11.table,sv e11.name,AV.sl (zab e11.args),AV.sl (zae e11.sub)]] 11∧sets.length=(List.map Se.cells sets).length∧(((List.map Se.cells sets).length+[[sv x10.name,iv e11.kind,iv e11.op,bv e11.not,iv e11.val.kind,iv e11.val.int,sv e11.val.text,sv e11.table,sv e11.name,AV.sl (zab e11.args),AV.sl (zae e11.sub)]].length) * 152).le 140737488355328),si (zaY (t:=(i:Int)+1) (n:=i+1) (by omega) (by omega))] [0,2,6,7,8,9,14,15] 7 kr (zav rfl (show ([Blk.box [AV.sl (List.map (fun n=>[iv n]) t11.l),iv (t11.pos:Int)],Blk.box [AV.sl (List.map Fr.cells p.frs),AV.sl (List.map Sch.cells p.tbs)],Blk.box [iv 0,sv (ByteArray.mk #[]),AV.nl,AV.nl,AV.nl,AV.nl,sv (ByteArray.mk #[])],Blk.box [sv s.name,AV.sl (List.map Col.cells s.cols)],Blk.box [AV.sl (List.map Fr.cells pi.frs),AV.sl (List.map Sch.cells pi.tbs)],Blk.box [iv kd,sv s.name,AV.nl,AV.nl,AV.own 6 (List.map Se.cells sets++[[sv x10.name,iv e11.kind,iv e11.op,bv e11.not,iv e11.val.kind,iv e11.val.int,sv e11.val.text,sv e11.table,sv e11.name,AV.sl (zab e11.args),AV.sl (zae e11.sub)]]).length,AV.nl,sv (ByteArray.mk #[])],Blk.row Ty.Set (List.map Se.cells sets++[[sv x10.name,iv e11.kind,iv e11.op,bv e11.not,iv e11.val.kind,iv e11.val.int,sv e11.val.text,sv e11.table,sv e11.name,AV.sl (zab e11.args),AV.sl (zae e11.sub)]]) false]:Heap)=_ by first|rfl|(simp;done)|(simp [X.cells,Qy.cells,V.cells,Col.cells,Rw.cells,Tb.cells,Fr.cells,Sch.cells,Tp.cells,Pl.cells,xCol,xLit,xBin,xNeg,Im.cells,Lk.cells,Ac.cells,Se.cells,Tg.cells,Rk.cells];done)) g13)⟩
    ·obtain ⟨b14,t14,c14⟩:=(zaj t11 2 zdt)
     rcases (Bool.eq_false_or_eq_true b14).symm with h15|h15
     ·obtain ⟨r16_0,r16_1,p16_0,g16⟩:=ihl t14 (sets++[Se.mk x10.name e11]) zdt
      exact ⟨r16_0,r16_1,zgJ,wkl [sl [0] c1,si (zaY (t:=1+(a1:Int)) (n:=1+a1) (by omega) (by omega)),sg h2,sb h6,sd [(4,[si (zaY (t:=(first:Int)+(i:Int)) (n:=first+i) (by omega) (by omega))]),(8,[sx (.i ((↑(first+i):Int).tmod (↑(List.map Col.cells s.cols).length:Int))) (show (↑(List.map Col.cells s.cols).length:Int)≠(0:Int)∧((↑(first+i):Int).tmod (↑(List.map Col.cells s.cols).length:Int):Int)=(↑(first+i):Int).tmod (↑(List.map Col.cells s.cols).length:Int) from ⟨(by rw [List.length_map];omega),rfl⟩)]),(9,[se (zcT Col.cells e10 rfl)])],sdm [(7,[sl [0] c11])] 0 [(0,AV.p 0 0),(2,iv 1),(6,AV.p 2 0),(7,AV.p 3 0),(8,AV.p 4 0),(9,AV.p 5 0),(14,iv (first:Int)),(15,iv (i:Int)),(16,AV.p 7 0),(17,AV.p 8 0),(107,iv (i:Int)),(108,AV.p 0 0),(109,iv (a1:Int)),(110,iv (↑(1+a1):Int)),(111,bv (decide ((i:Int) < (↑(1+a1):Int)))),(112,AV.bl true),(113,iv (i:Int)),(114,AV.p 3 1),(115,AV.sl (List.map Col.cells s.cols)),(116,iv (↑(List.map Col.cells s.cols).length:Int)),(117,bv (decide ((i:Int) < (↑(List.map Col.cells s.cols).length:Int)))),(118,AV.bl true),(121,AV.p 3 1),(122,AV.sl (List.map Col.cells s.cols)),(123,iv (first:Int)),(124,iv (i:Int)),(125,iv (↑(first+i):Int)),(126,AV.p 3 1),(127,AV.sl (List.map Col.cells s.cols)),(128,iv (↑(List.map Col.cells s.cols).length:Int)),(129,iv ((↑(first+i):Int).tmod (↑(List.map Col.cells s.cols).length:Int))),(130,AV.dp [sv x10.name,iv x10.type,bv x10.notNull,bv x10.key]),(131,AV.agg [sv x10.name,iv x10.type,bv x10.notNull,bv x10.key]),(132,AV.p 7 0),(133,sv x10.name),(134,AV.p 0 0),(135,AV.agg [AV.sl (List.map Fr.cells pi.frs),AV.sl (List.map Sch.cells pi.tbs)]),(136,AV.p 7 1),(137,iv x10.type),(138,iv 1),(139,AV.agg [iv e11.kind,iv e11.op,bv e11.not,iv e11.val.kind,iv e11.val.int,sv e11.val.text,sv e11.table,sv e11.name,AV.sl (zab e11.args),AV.sl (zae e11.sub)]),(140,AV.agg [sv x10.name,iv e11.kind,iv e11.op,bv e11.not,iv e11.val.kind,iv e11.val.int,sv e11.val.text,sv e11.table,sv e11.name,AV.sl (zab e11.args),AV.sl (zae e11.sub)])] [Blk.box [AV.sl (List.map (fun n=>[iv n]) t11.l),iv (t11.pos:Int)],Blk.box [AV.sl (List.map Fr.cells p.frs),AV.sl (List.map Sch.cells p.tbs)],Blk.box [iv 0,sv (ByteArray.mk #[]),AV.nl,AV.nl,AV.nl,AV.nl,sv (ByteArray.mk #[])],Blk.box [sv s.name,AV.sl (List.map Col.cells s.cols)],Blk.box [AV.sl (List.map Fr.cells pi.frs),AV.sl (List.map Sch.cells pi.tbs)],Blk.box [iv kd,sv s.name,AV.nl,AV.nl,AV.own 6 sets.length,AV.nl,sv (ByteArray.mk #[])],Blk.row Ty.Set (List.map Se.cells sets) false,Blk.box [sv x10.name,iv x10.type,bv x10.notNull,bv x10.key],Blk.box [sv x10.name,iv e11.kind,iv e11.op,bv e11.not,iv e11.val.kind,iv e11.val.int,sv e11.val.text,sv e11.table,sv e11.name,AV.sl (zab e11.args),AV.sl (zae e11.sub)]],sg h12,sl [0] c14,sb h15,sqx (AllLen [[sv x10.name,iv e11.kind,iv e11.op,bv e11.not,iv e11.val.kind,iv e11.val.int,sv e11.val.text,sv e11.table,sv e11.name,AV.sl (zab e11.args),AV.sl (zae e11.sub)]] 11∧sets.length=(List.map Se.cells sets).length∧(((List.map Se.cells sets).length+[[sv x10.name,iv e11.kind,iv e11.op,bv e11.not,iv e11.val.kind,iv e11.val.int,sv e11.val.text,sv e11.table,sv e11.name,AV.sl (zab e11.args),AV.sl (zae e11.sub)]].length) * 152).le 140737488355328),si (zaY (t:=(i:Int)+1) (n:=i+1) (by omega) (by omega))] [0,2,6,7,8,9,14,15] 7 kr (zav rfl (show ([Blk.box [AV.sl (List.map (fun n=>[iv n]) t14.l),iv (t14.pos:Int)],Blk.box [AV.sl (List.map Fr.cells p.frs),AV.sl (List.map Sch.cells p.tbs)],Blk.box [iv 0,sv (ByteArray.mk #[]),AV.nl,AV.nl,AV.nl,AV.nl,sv (ByteArray.mk #[])],Blk.box [sv s.name,AV.sl (List.map Col.cells s.cols)],Blk.box [AV.sl (List.map Fr.cells pi.frs),AV.sl (List.map Sch.cells pi.tbs)],Blk.box [iv kd,sv s.name,AV.nl,AV.nl,AV.own 6 (List.map Se.cells sets++[[sv x10.name,iv e11.kind,iv e11.op,bv e11.not,iv e11.val.kind,iv e11.val.int,sv e11.val.text,sv e11.table,sv e11.name,AV.sl (zab e11.args),AV.sl (zae e11.sub)]]).length,AV.nl,sv (ByteArray.mk #[])],Blk.row Ty.Set (List.map Se.cells sets++[[sv x10.name,iv e11.kind,iv e11.op,bv e11.not,iv e11.val.kind,iv e11.val.int,sv e11.val.text,sv e11.table,sv e11.name,AV.sl (zab e11.args),AV.sl (zae e11.sub)]]) false]:Heap)=_ by first|rfl|(simp;done)|(simp [X.cells,Qy.cells,V.cells,Col.cells,Rw.cells,Tb.cells,Fr.cells,Sch.cells,Tp.cells,Pl.cells,xCol,xLit,xBin,xNeg,Im.cells,Lk.cells,Ac.cells,Se.cells,Tg.cells,Rk.cells];done)) g16)⟩
     ·obtain ⟨a17,t17,q17,c17⟩:=(zaf t14 2 zdt)
      obtain ⟨a18,t18,q18,c18⟩:=(zaf t17 4 zdt)
      obtain ⟨r19_0,r19_1,p19_0,g19⟩:=ihl t18 (sets++[Se.mk x10.name (xBin (↑(9+a17):Int) (xCol (ByteArray.mk #[]) x10.name) (xNum (a18:Int)))]) zdt
      exact ⟨r19_0,r19_1,zgJ,wkl [sl [0] c1,si (zaY (t:=1+(a1:Int)) (n:=1+a1) (by omega) (by omega)),sg h2,sb h6,sd [(4,[si (zaY (t:=(first:Int)+(i:Int)) (n:=first+i) (by omega) (by omega))]),(8,[sx (.i ((↑(first+i):Int).tmod (↑(List.map Col.cells s.cols).length:Int))) (show (↑(List.map Col.cells s.cols).length:Int)≠(0:Int)∧((↑(first+i):Int).tmod (↑(List.map Col.cells s.cols).length:Int):Int)=(↑(first+i):Int).tmod (↑(List.map Col.cells s.cols).length:Int) from ⟨(by rw [List.length_map];omega),rfl⟩)]),(9,[se (zcT Col.cells e10 rfl)])],sdm [(7,[sl [0] c11])] 0 [(0,AV.p 0 0),(2,iv 1),(6,AV.p 2 0),(7,AV.p 3 0),(8,AV.p 4 0),(9,AV.p 5 0),(14,iv (first:Int)),(15,iv (i:Int)),(16,AV.p 7 0),(17,AV.p 8 0),(107,iv (i:Int)),(108,AV.p 0 0),(109,iv (a1:Int)),(110,iv (↑(1+a1):Int)),(111,bv (decide ((i:Int) < (↑(1+a1):Int)))),(112,AV.bl true),(113,iv (i:Int)),(114,AV.p 3 1),(115,AV.sl (List.map Col.cells s.cols)),(116,iv (↑(List.map Col.cells s.cols).length:Int)),(117,bv (decide ((i:Int) < (↑(List.map Col.cells s.cols).length:Int)))),(118,AV.bl true),(121,AV.p 3 1),(122,AV.sl (List.map Col.cells s.cols)),(123,iv (first:Int)),(124,iv (i:Int)),(125,iv (↑(first+i):Int)),(126,AV.p 3 1),(127,AV.sl (List.map Col.cells s.cols)),(128,iv (↑(List.map Col.cells s.cols).length:Int)),(129,iv ((↑(first+i):Int).tmod (↑(List.map Col.cells s.cols).length:Int))),(130,AV.dp [sv x10.name,iv x10.type,bv x10.notNull,bv x10.key]),(131,AV.agg [sv x10.name,iv x10.type,bv x10.notNull,bv x10.key]),(132,AV.p 7 0),(133,sv x10.name),(134,AV.p 0 0),(135,AV.agg [AV.sl (List.map Fr.cells pi.frs),AV.sl (List.map Sch.cells pi.tbs)]),(136,AV.p 7 1),(137,iv x10.type),(138,iv 1),(139,AV.agg [iv e11.kind,iv e11.op,bv e11.not,iv e11.val.kind,iv e11.val.int,sv e11.val.text,sv e11.table,sv e11.name,AV.sl (zab e11.args),AV.sl (zae e11.sub)]),(140,AV.agg [sv x10.name,iv e11.kind,iv e11.op,bv e11.not,iv e11.val.kind,iv e11.val.int,sv e11.val.text,sv e11.table,sv e11.name,AV.sl (zab e11.args),AV.sl (zae e11.sub)])] [Blk.box [AV.sl (List.map (fun n=>[iv n]) t11.l),iv (t11.pos:Int)],Blk.box [AV.sl (List.map Fr.cells p.frs),AV.sl (List.map Sch.cells p.tbs)],Blk.box [iv 0,sv (ByteArray.mk #[]),AV.nl,AV.nl,AV.nl,AV.nl,sv (ByteArray.mk #[])],Blk.box [sv s.name,AV.sl (List.map Col.cells s.cols)],Blk.box [AV.sl (List.map Fr.cells pi.frs),AV.sl (List.map Sch.cells pi.tbs)],Blk.box [iv kd,sv s.name,AV.nl,AV.nl,AV.own 6 sets.length,AV.nl,sv (ByteArray.mk #[])],Blk.row Ty.Set (List.map Se.cells sets) false,Blk.box [sv x10.name,iv x10.type,bv x10.notNull,bv x10.key],Blk.box [sv x10.name,iv e11.kind,iv e11.op,bv e11.not,iv e11.val.kind,iv e11.val.int,sv e11.val.text,sv e11.table,sv e11.name,AV.sl (zab e11.args),AV.sl (zae e11.sub)]],sg h12,sl [0] c14,sb h15,sd [(1,[sl [0] c17]),(2,[si (zaY (t:=9+(a17:Int)) (n:=9+a17) (by omega) (by omega))]),(5,[sc (zaM (ByteArray.mk #[]) x10.name)]),(7,[sl [0] c18]),(8,[sc (zaZ ((a18:Int)) zdt)]),(9,[sc (zaA ((↑(9+a17):Int)) (xCol (ByteArray.mk #[]) x10.name) (xNum (a18:Int)))])],sqx (AllLen [[sv x10.name,iv (xBin (↑(9+a17):Int) (xCol (ByteArray.mk #[]) x10.name) (xNum (a18:Int))).kind,iv (xBin (↑(9+a17):Int) (xCol (ByteArray.mk #[]) x10.name) (xNum (a18:Int))).op,bv (xBin (↑(9+a17):Int) (xCol (ByteArray.mk #[]) x10.name) (xNum (a18:Int))).not,iv (xBin (↑(9+a17):Int) (xCol (ByteArray.mk #[]) x10.name) (xNum (a18:Int))).val.kind,iv (xBin (↑(9+a17):Int) (xCol (ByteArray.mk #[]) x10.name) (xNum (a18:Int))).val.int,sv (xBin (↑(9+a17):Int) (xCol (ByteArray.mk #[]) x10.name) (xNum (a18:Int))).val.text,sv (xBin (↑(9+a17):Int) (xCol (ByteArray.mk #[]) x10.name) (xNum (a18:Int))).table,sv (xBin (↑(9+a17):Int) (xCol (ByteArray.mk #[]) x10.name) (xNum (a18:Int))).name,AV.sl (zab [xCol (ByteArray.mk #[]) x10.name,xNum (a18:Int)]),AV.sl (zae [])]] 11∧sets.length=(List.map Se.cells sets).length∧(((List.map Se.cells sets).length+[[sv x10.name,iv (xBin (↑(9+a17):Int) (xCol (ByteArray.mk #[]) x10.name) (xNum (a18:Int))).kind,iv (xBin (↑(9+a17):Int) (xCol (ByteArray.mk #[]) x10.name) (xNum (a18:Int))).op,bv (xBin (↑(9+a17):Int) (xCol (ByteArray.mk #[]) x10.name) (xNum (a18:Int))).not,iv (xBin (↑(9+a17):Int) (xCol (ByteArray.mk #[]) x10.name) (xNum (a18:Int))).val.kind,iv (xBin (↑(9+a17):Int) (xCol (ByteArray.mk #[]) x10.name) (xNum (a18:Int))).val.int,sv (xBin (↑(9+a17):Int) (xCol (ByteArray.mk #[]) x10.name) (xNum (a18:Int))).val.text,sv (xBin (↑(9+a17):Int) (xCol (ByteArray.mk #[]) x10.name) (xNum (a18:Int))).table,sv (xBin (↑(9+a17):Int) (xCol (ByteArray.mk #[]) x10.name) (xNum (a18:Int))).name,AV.sl (zab [xCol (ByteArray.mk #[]) x10.name,xNum (a18:Int)]),AV.sl (zae [])]].length) * 152).le 140737488355328),si (zaY (t:=(i:Int)+1) (n:=i+1) (by omega) (by omega))] [0,2,6,7,8,9,14,15] 7 kr (zav rfl (show ([Blk.box [AV.sl (List.map (fun n=>[iv n]) t18.l),iv (t18.pos:Int)],Blk.box [AV.sl (List.map Fr.cells p.frs),AV.sl (List.map Sch.cells p.tbs)],Blk.box [iv 0,sv (ByteArray.mk #[]),AV.nl,AV.nl,AV.nl,AV.nl,sv (ByteArray.mk #[])],Blk.box [sv s.name,AV.sl (List.map Col.cells s.cols)],Blk.box [AV.sl (List.map Fr.cells pi.frs),AV.sl (List.map Sch.cells pi.tbs)],Blk.box [iv kd,sv s.name,AV.nl,AV.nl,AV.own 6 (List.map Se.cells sets++[[sv x10.name,iv (xBin (↑(9+a17):Int) (xCol (ByteArray.mk #[]) x10.name) (xNum (a18:Int))).kind,iv (xBin (↑(9+a17):Int) (xCol (ByteArray.mk #[]) x10.name) (xNum (a18:Int))).op,bv (xBin (↑(9+a17):Int) (xCol (ByteArray.mk #[]) x10.name) (xNum (a18:Int))).not,iv (xBin (↑(9+a17):Int) (xCol (ByteArray.mk #[]) x10.name) (xNum (a18:Int))).val.kind,iv (xBin (↑(9+a17):Int) (xCol (ByteArray.mk #[]) x10.name) (xNum (a18:Int))).val.int,sv (xBin (↑(9+a17):Int) (xCol (ByteArray.mk #[]) x10.name) (xNum (a18:Int))).val.text,sv (xBin (↑(9+a17):Int) (xCol (ByteArray.mk #[]) x10.name) (xNum (a18:Int))).table,sv (xBin (↑(9+a17):Int) (xCol (ByteArray.mk #[]) x10.name) (xNum (a18:Int))).name,AV.sl (zab [xCol (ByteArray.mk #[]) x10.name,xNum (a18:Int)]),AV.sl (zae [])]]).length,AV.nl,sv (ByteArray.mk #[])],Blk.row Ty.Set (List.map Se.cells sets++[[sv x10.name,iv (xBin (↑(9+a17):Int) (xCol (ByteArray.mk #[]) x10.name) (xNum (a18:Int))).kind,iv (xBin (↑(9+a17):Int) (xCol (ByteArray.mk #[]) x10.name) (xNum (a18:Int))).op,bv (xBin (↑(9+a17):Int) (xCol (ByteArray.mk #[]) x10.name) (xNum (a18:Int))).not,iv (xBin (↑(9+a17):Int) (xCol (ByteArray.mk #[]) x10.name) (xNum (a18:Int))).val.kind,iv (xBin (↑(9+a17):Int) (xCol (ByteArray.mk #[]) x10.name) (xNum (a18:Int))).val.int,sv (xBin (↑(9+a17):Int) (xCol (ByteArray.mk #[]) x10.name) (xNum (a18:Int))).val.text,sv (xBin (↑(9+a17):Int) (xCol (ByteArray.mk #[]) x10.name) (xNum (a18:Int))).table,sv (xBin (↑(9+a17):Int) (xCol (ByteArray.mk #[]) x10.name) (xNum (a18:Int))).name,AV.sl (zab [xCol (ByteArray.mk #[]) x10.name,xNum (a18:Int)]),AV.sl (zae [])]]) false]:Heap)=_ by first|rfl|(simp;done)|(simp [X.cells,Qy.cells,V.cells,Col.cells,Rw.cells,Tb.cells,Fr.cells,Sch.cells,Tp.cells,Pl.cells,xCol,xLit,xBin,xNeg,Im.cells,Lk.cells,Ac.cells,Se.cells,Tg.cells,Rk.cells];done)) g19)⟩
theorem ze9 (t0:Tp) (p pi:Pl) (s:Sch) (kd:Int) (first i:Nat) (u:Tp) (sets:List Se) (hs:Few s.cols) (hpi:pi.OkN 2) (hk:kd≠5) (hf:first < s.cols.length) (hI:SetsOk i sets) :
  ∃ (r:Ac) (t':Tp),(AcOk 5 r∧r.kind≠5)∧Good E0 B.world_Tape_Change [.box t0.cells] (L_up p pi s kd first i u sets) (Shut 1 fun rZ hZ=>rZ=r.av∧hZ=[.box t'.cells]):=by
 obtain ⟨k,hk2⟩:∃ k,i+k=3:=⟨3 - i,by have:=hI.two;omega⟩
 induction k generalizing i u sets with
 | zero=>have:=hI.two;omega
 | succ k ih =>
  obtain ⟨r,t',hr,hg⟩:=zqZ t0 p pi s kd first i u sets hs (zaK hs) hpi hk hf hs hI hI.two (by have:=hI.len;have:=hI.two;omega) fun u' sets' h'=>ih (i+1) u' sets' h' (by omega)
  exact ⟨r,t',hr,zaa hg⟩
theorem acIns {rows:List (List X)} {kd:Int} {nm tx:Str} (h:rows.length+0≤3∧∀ r∈rows,Few r∧∀ x∈r,XOk 5 x) (hk:kd≠5):AcOk 5 (Ac.mk kd nm rows [] [] [] tx)∧(Ac.mk kd nm rows [] [] [] tx).kind≠5 :=
 ⟨⟨by have:=h.1;simp only [Few];omega,h.2,by simp [Few],by simp,by simp [Few],by simp,by simp [Few],by simp⟩,hk⟩
theorem acCp {q:Qy} {kd:Int} {nm tx:Str} (h:QW 5 q) (hk:kd≠5):AcOk 5 (Ac.mk kd nm [] [q] [] [] tx)∧(Ac.mk kd nm [] [q] [] [] tx).kind≠5 :=
 ⟨⟨by simp [Few],by simp,by simp [Few],by simpa using h,by simp [Few],by simp,by simp [Few],by simp⟩,hk⟩
theorem zqs {kd:Int} {nm tx:Str} (hk:kd≠5):AcOk 5 (Ac.mk kd nm [] [] [] [] tx)∧(Ac.mk kd nm [] [] [] [] tx).kind≠5 :=
 ⟨⟨by simp [Few],by simp,by simp [Few],by simp,by simp [Few],by simp,by simp [Few],by simp⟩,hk⟩
theorem acDel1 {kd:Int} {nm tx:Str} {e:X} (h:XOk 4 e) (hk:kd≠5):AcOk 5 (Ac.mk kd nm [] [] [] [e] tx)∧(Ac.mk kd nm [] [] [] [e] tx).kind≠5 :=
 ⟨⟨by simp [Few],by simp,by simp [Few],by simp,by simp [Few],by simp,by simp [Few],by simpa using h.le (by omega)⟩,hk⟩
theorem zqv {n:Nat} {p:Pl} {s:Sch} (h:p.OkN (n+1)) (hs:Few s.cols):(plIn p s).OkN n:=by
 refine ⟨by have:=h.frs;simp [plIn];omega,fun f hf=>?_,h.ne,h.few,h.tcols⟩
 simp only [plIn,List.mem_append,List.mem_singleton] at hf
 rcases hf with hf|rfl
 ·exact h.cols f hf
 ·exact hs
theorem zpb {w:Str} (h:TabN w):Pos ((((zak w).cols.map Col.cells).length:Nat):Int):=by
 have h1:=(zcB h).few
 have h2:=List.length_pos_iff.2 (zcB h).ne
 simp only [Few] at h1
 rw [List.length_map]
 exact ⟨by omega,by omega⟩
theorem zbh (t:Tp) (p:Pl) (hp:p.OkN 3) (hsh:zad zau):∃ (r:Ac) (t':Tp),(AcOk 5 r∧r.kind≠5)∧zac E0 S.world_Tape_Change [.p 0 0,p.av,iv 1] [.box t.cells] r.av [.box t'.cells]:=by
 obtain ⟨w1,t1,q1,c1⟩:=(zca t)
 obtain ⟨a2,t2,q2,c2⟩:=(zaf t1 3 zci)
 let p_1:List St:=[sl [0] c1,sc (zbE w1 zci),sc (zbR p (zak w1) zci),sdm [(1,[sl [0] c2]),(2,[si (zaY (t:=1+(a2:Int)) (n:=1+a2) (by omega) (by omega))])] 0 [(0,AV.p 0 0),(1,AV.agg [AV.sl (List.map Fr.cells p.frs),AV.sl (List.map Sch.cells p.tbs)]),(2,iv 1),(4,AV.p 1 0),(6,AV.p 2 0),(7,AV.p 3 0),(8,AV.p 4 0),(9,AV.p 5 0),(18,AV.p 0 0),(19,sv w1),(20,AV.agg [sv (zak w1).name,AV.sl (List.map Col.cells (zak w1).cols)]),(21,AV.agg [AV.sl (List.map Fr.cells p.frs),AV.sl (List.map Sch.cells p.tbs)]),(22,AV.agg [sv (zak w1).name,AV.sl (List.map Col.cells (zak w1).cols)]),(23,AV.agg [AV.sl (List.map Fr.cells (plIn p (zak w1)).frs),AV.sl (List.map Sch.cells (plIn p (zak w1)).tbs)]),(24,AV.p 0 0),(25,iv (a2:Int)),(26,iv (↑(1+a2):Int)),(27,AV.p 3 0),(28,sv (zak w1).name),(29,AV.agg [iv (↑(1+a2):Int),sv (zak w1).name,AV.nl,AV.nl,AV.nl,AV.nl,sv (ByteArray.mk #[])])] [Blk.box [AV.sl (List.map (fun n=>[iv n]) t2.l),iv (t2.pos:Int)],Blk.box [AV.sl (List.map Fr.cells p.frs),AV.sl (List.map Sch.cells p.tbs)],Blk.box [iv 0,sv (ByteArray.mk #[]),AV.nl,AV.nl,AV.nl,AV.nl,sv (ByteArray.mk #[])],Blk.box [sv (zak w1).name,AV.sl (List.map Col.cells (zak w1).cols)],Blk.box [AV.sl (List.map Fr.cells (plIn p (zak w1)).frs),AV.sl (List.map Sch.cells (plIn p (zak w1)).tbs)],Blk.box [iv (↑(1+a2):Int),sv (zak w1).name,AV.nl,AV.nl,AV.nl,AV.nl,sv (ByteArray.mk #[])]]]
 cases h3:(↑(1+a2):Int)==1
 ·cases h4:(↑(1+a2):Int)==2
  ·obtain ⟨b5,t5,c5⟩:=(zaj t2 4 zci)
   cases h6:!b5
   ·exact ⟨Ac.mk (↑(1+a2):Int) (zak w1).name [] [] [] [] (ByteArray.mk #[]),t5,zjE,wk At.world_Tape_Change (p_1++[sb h3,sb h4,sl [0] c5,sb h6]) kr⟩
   ·obtain ⟨e7,t7,q7,c7⟩:=(zaE t5 (plIn p (zak w1)) 2 zci)
    exact ⟨Ac.mk (↑(1+a2):Int) (zak w1).name [] [] [] [e7] (ByteArray.mk #[]),t7,zjE,(by (try simp only [Ac.av,Ac.cells,zam,zaq,zan,zar]);exact wk At.world_Tape_Change (p_1++[sb h3,sb h4,sl [0] c5,sb h6,sl [0] c7]) kr)⟩
  ·obtain ⟨a8,t8,q8,c8⟩:=(zaf t2 ((↑(List.map Col.cells (zak w1).cols).length:Int)) zci)
   obtain ⟨r9_0,r9_1,p9_0,g9⟩:=ze9 t p (plIn p (zak w1)) (zak w1) ((↑(1+a2):Int)) a8 0 t8 ([]) zci zci zci zci zci
   exact ⟨r9_0,r9_1,zjE,wkcN At.world_Tape_Change (p_1++[sb h3,sb h4,sl [0] c8]) [0,2,6,7,8,9,14,15] 6 [(.ob 5 4 Ty.Set,7)] kr (g9)⟩
 ·obtain ⟨b10,t10,c10⟩:=(zaj t2 4 zci)
  rcases (Bool.eq_false_or_eq_true b10).symm with h11|h11
  ·obtain ⟨a12,t12,q12,c12⟩:=(zaf t10 3 zci)
   obtain ⟨u13,rows13,q13,q13_1,g13⟩:=zfg t p (plIn p (zak w1)) (zak w1) ((↑(1+a2):Int)) zci zci (1+a12) t12 ([]) zci zci
   exact ⟨Ac.mk (↑(1+a2):Int) (zak w1).name rows13 [] [] [] (ByteArray.mk #[]),u13,zjE,wkcN At.world_Tape_Change (p_1++[sb h3,sl [0] c10,sb h11,sl [0] c12,si (zaY (t:=1+(a12:Int)) (n:=1+a12) (by omega) (by omega))]) [0,2,4,6,7,8,9,10] 6 [(.ob 5 2 Ty.LExpr,7)] kr (g13 _ (zaa (wkr [sqx (True∧True∧rows13.length=(List.map zaF rows13).length∧True∧True∧True∧True∧True),sb (rfl:false=false)] kr)))⟩
  ·obtain ⟨qy14,t14,q14,c14⟩:=(zjg t10 p (zak w1) zci zci)
   exact ⟨Ac.mk (↑(1+a2):Int) (zak w1).name [] [qy14] [] [] (ByteArray.mk #[]),t14,zjE,(by (try simp only [Ac.av,Ac.cells,zam,zaq,zan,zar]);exact wk At.world_Tape_Change (p_1++[sb h3,sl [0] c10,sb h11,sl [0] c14]) kr)⟩
end Go.AM
namespace Go.AM
set_option maxRecDepth 100000
set_option maxHeartbeats 1000000
set_option linter.unusedSimpArgs false
set_option linter.unusedVariables false
theorem za6 {p:Prop} (h:p:=by first|exact actC (by assumption)|exact act0 (by decide)|exact act5 (XOk.le (by assumption) (by omega))|exact actW (by decide) (XOk.le (zej (n:=3) (zcZ _ _) (by first|exact zcW (zbt ⟨by omega,by omega⟩)|exact zey ((by assumption:_→zeG _) (by assumption)))) (by omega))|exact actS (by decide) (XOk.le (zej (n:=2) (zcZ _ _) (zcV (by omega) (by omega))) (by omega))|exact zmR (by decide) (XOk.le (zej (n:=2) (zcZ _ _) (zcV (by omega) (by omega))) (by omega)) (XOk.le (zpN (n:=2) (zcZ _ _) (zcV (by omega) (by omega)) (zcV (by omega) (by omega))) (by omega))|exact zmR (by decide) (XOk.le (n:=3) (by first|exact zcW (zbt ⟨by omega,by omega⟩)|exact zey ((by assumption:_→zeG _) (by assumption))) (by omega)) (XOk.le (zej (n:=3) (zcZ _ _) (zcZ _ _)) (by omega))|exact zmR (by decide) (XOk.le (n:=3) (by first|exact zcW (zbt ⟨by omega,by omega⟩)|exact zey ((by assumption:_→zeG _) (by assumption))) (by omega)) (zej (n:=5) (XOk.le (zej (n:=3) (zcZ _ _) (zcZ _ _)) (by omega)) (by assumption))|exact actR (by decide) (XOk.le (n:=3) (by first|exact zcW (zbt ⟨by omega,by omega⟩)|exact zey ((by assumption:_→zeG _) (by assumption))) (by omega)) (XOk.le (zcW (n:=3) hnm) (by omega))):p:=h
theorem zap {p:Prop} (h:p:=by first|assumption|omega|exact hp.less|exact hp.few1|exact hp.cols|exact hp.short|exact hp.less.less|exact zqv hp (zcB (tuN (by assumption))).few|(simp only [List.length_map] at *;omega)|(simp;done)):p:=h
def ActQ (r:Ac):Prop:=AcOk 6 r∧zmO r
theorem tuN {a:Nat} (h:(a:Int) < 2):TabN (tuAt a):=by
 have:a=0∨a=1:=by omega
 rcases this with rfl|rfl
 ·exact .inl rfl
 ·exact .inr (.inl rfl)
theorem AcOk.le {n m:Nat} {a:Ac} (h:AcOk n a) (hm:n≤m):AcOk m a :=
 ⟨h.rows,fun r hr=>⟨(h.row r hr).1,fun x hx=>((h.row r hr).2 x hx).le hm⟩,h.query,fun q hq=>⟨(h.qs q hq).items,(h.qs q hq).wh,fun x hx=>((h.qs q hq).hi x hx).le hm,fun x hx=>((h.qs q hq).hw x hx).le hm⟩,h.sets,fun s hs=>(h.set s hs).le hm,h.wh,fun x hx=>(h.w x hx).le hm⟩
theorem actC {a:Ac} (h:AcOk 5 a∧a.kind≠5):ActQ a:=⟨h.1.le (by omega),fun h5=>absurd h5 h.2⟩
theorem act0 {k:Int} {nm tx:Str} (hk:k≠5):ActQ (Ac.mk k nm [] [] [] [] tx):=actC (zqs hk)
theorem actW {k:Int} {nm tx:Str} {w:X} (hk:k≠5) (hw:XOk 6 w):ActQ (Ac.mk k nm [] [] [] [w] tx) :=
 ⟨⟨by simp [Few],by simp,by simp [Few],by simp,by simp [Few],by simp,by simp [Few],by simpa using hw⟩,fun h=>absurd h hk⟩
theorem actS {k:Int} {nm tx c:Str} {e:X} (hk:k≠5) (he:XOk 6 e):ActQ (Ac.mk k nm [] [] [⟨c,e⟩] [] tx) :=
 ⟨⟨by simp [Few],by simp,by simp [Few],by simp,by simp [Few],by simpa using he,by simp [Few],by simp⟩,fun h=>absurd h hk⟩
theorem zmR {k:Int} {nm tx c:Str} {e w:X} (hk:k≠5) (he:XOk 6 e) (hw:XOk 6 w):ActQ (Ac.mk k nm [] [] [⟨c,e⟩] [w] tx) :=
 ⟨⟨by simp [Few],by simp,by simp [Few],by simp,by simp [Few],by simpa using he,by simp [Few],by simpa using hw⟩,fun h=>absurd h hk⟩
theorem actR {k:Int} {nm tx:Str} {a b:X} (hk:k≠5) (ha:XOk 6 a) (hb:XOk 6 b):ActQ (Ac.mk k nm [[a,b]] [] [] [] tx) :=
 ⟨⟨by simp [Few],by
  intro r hr
  simp only [List.mem_singleton] at hr
  subst hr
  refine ⟨by simp [Few],fun x hx=>?_⟩
  simp only [List.mem_cons,List.not_mem_nil,or_false] at hx
  rcases hx with rfl|rfl <;> assumption,by simp [Few],by simp,by simp [Few],by simp,by simp [Few],by simp⟩,fun h=>absurd h hk⟩
theorem act5 {nm tx c:Str} {e:X} (he:XOk 6 e):ActQ (Ac.mk 5 nm [] [] [⟨c,e⟩] [] tx) :=
 ⟨⟨by simp [Few],by simp,by simp [Few],by simp,by simp [Few],by simpa using he,by simp [Few],by simp⟩,fun _=>⟨_,rfl⟩⟩
theorem zjr (t:Tp) (x:Tg) (s:Sch) (p:Pl) (hp:p.OkN 4) (hs:Few s.cols) (hpos:Pos (((s.cols.map Col.cells).length:Nat):Int)) (hsh:zad zau) (hnm:V.Good ⟨3,0,x.name⟩):∃ (r:Ac) (t':Tp),ActQ r∧zac E0 S.world_Tape_action [.p 0 0,x.av,s.av,p.av] [.box t.cells] r.av [.box t'.cells]:=by
 obtain ⟨b1,t1,c1⟩:=(zaj t 9 zap)
 rcases (Bool.eq_false_or_eq_true b1).symm with h2|h2
 ·cases h3:x.before
  ·obtain ⟨a4,t4,q4,c4⟩:=(zaf t1 5 zap)
   obtain ⟨x5,ok5,t5,q5,c5⟩:=(zbY t4 (Pl.mk p.frs []) 1 zap zap)
   let p_1:List St:=[sl [0] c1,sg h2,sb h3,sb h3,sl [0] c4,sc (zaS (V.mk 1 (a4:Int) (ByteArray.mk #[]))),sl [0] c5]
   rcases (Bool.eq_false_or_eq_true ok5).symm with h6|h6
   ·obtain ⟨a7,t7,q7,c7⟩:=(zaf t5 7 zap)
    cases h8:(a7:Int)==0
    ·cases h9:(a7:Int)==1
     ·cases h10:(a7:Int)==2
      ·let p_2:List St:=p_1++[sb h6,sl [0] c7,sb h8,sb h9,sb h10]
       cases h11:(a7:Int)==3
       ·cases h12:(a7:Int)==4
        ·obtain ⟨r13,t13,q13,c13⟩:=(zbh t7 p zap zap)
         exact ⟨r13,t13,za6,wk At.world_Tape_action (p_2++[sb h11,sb h12,sl [0] c13]) kr⟩
        ·obtain ⟨w14,t14,q14,c14⟩:=(zca t7)
         exact ⟨Ac.mk 3 w14 [] [] [] [xBin 5 (xCol (ByteArray.mk #[]) (ByteArray.mk #[110])) (xLit (V.mk 1 (a4:Int) (ByteArray.mk #[])))] (ByteArray.mk #[]),t14,za6,(by (try simp only [Ac.av,Ac.cells,List.map_cons,List.map_nil,Se.cells,zam,zaq,zan,zar]);exact wk At.world_Tape_action (p_2++[sb h11,sb h12,sd [(1,[sl [0] c14]),(2,[sc (zaM (ByteArray.mk #[]) (ByteArray.mk #[110]))]),(4,[sc (zaA 5 (xCol (ByteArray.mk #[]) (ByteArray.mk #[110])) (xLit (V.mk 1 (a4:Int) (ByteArray.mk #[]))))])]]) kr)⟩
       ·cases h15:x.each
        ·obtain ⟨r16,t16,q16,c16⟩:=(zbh t7 p zap zap)
         exact ⟨r16,t16,za6,wk At.world_Tape_action (p_2++[sb h11,sb h15,sl [0] c16]) kr⟩
        ·cases h17:!ByteArray.toList x.table==(ByteArray.mk #[108,111,103]).toList
         ·obtain ⟨r18,t18,q18,c18⟩:=(zbh t7 p zap zap)
          exact ⟨r18,t18,za6,wk At.world_Tape_action (p_2++[sb h11,sg h15,sb h17,sl [0] c18]) kr⟩
         ·cases h19:x.event==3
          ·obtain ⟨a20,t20,q20,c20⟩:=(zaf t7 2 zap)
           obtain ⟨b21,t21,c21⟩:=(zaj t20 3 zap)
           let p_3:List St:=p_2++[sb h11,sg h15,sb h17,sb h19,sl [0] c20,se (zkg a20 zap),sc (zaM (ByteArray.mk #[]) (ByteArray.mk #[105,100])),sc (zaM (ByteArray.mk #[78,69,87]) (ByteArray.mk #[105,100])),sc (zaA 3 (xCol (ByteArray.mk #[]) (ByteArray.mk #[105,100])) (xCol (ByteArray.mk #[78,69,87]) (ByteArray.mk #[105,100]))),sl [0] c21]
           rcases (Bool.eq_false_or_eq_true b21).symm with h22|h22
           ·exact ⟨Ac.mk 2 (tuAt a20) [] [] [Se.mk (ByteArray.mk #[110]) (xLit (V.mk 1 (a4:Int) (ByteArray.mk #[])))] [xBin 3 (xCol (ByteArray.mk #[]) (ByteArray.mk #[105,100])) (xCol (ByteArray.mk #[78,69,87]) (ByteArray.mk #[105,100]))] (ByteArray.mk #[]),t21,za6,(by (try simp only [Ac.av,Ac.cells,List.map_cons,List.map_nil,Se.cells,zam,zaq,zan,zar]);exact wk At.world_Tape_action (p_3++[sb h22]) kr)⟩
           ·obtain ⟨e23,t23,q23,c23⟩:=(zbJ t21 (plIn p (zak (tuAt a20))) 2 zap)
            exact ⟨Ac.mk 2 (tuAt a20) [] [] [Se.mk (ByteArray.mk #[110]) (xLit (V.mk 1 (a4:Int) (ByteArray.mk #[])))] [xBin 2 (xBin 3 (xCol (ByteArray.mk #[]) (ByteArray.mk #[105,100])) (xCol (ByteArray.mk #[78,69,87]) (ByteArray.mk #[105,100]))) e23] (ByteArray.mk #[]),t23,za6,(by (try simp only [Ac.av,Ac.cells,List.map_cons,List.map_nil,Se.cells,zam,zaq,zan,zar]);exact wk At.world_Tape_action (p_3++[sb h22,sd [(4,[sc (zbE (tuAt a20) zap)]),(5,[sc (zbR p (zak (tuAt a20)) zap)]),(6,[sl [0] c23]),(7,[sc (zaA 2 (xBin 3 (xCol (ByteArray.mk #[]) (ByteArray.mk #[105,100])) (xCol (ByteArray.mk #[78,69,87]) (ByteArray.mk #[105,100]))) e23)])]]) kr)⟩
          ·obtain ⟨a24,t24,q24,c24⟩:=(zaf t7 2 zap)
           obtain ⟨b25,t25,c25⟩:=(zaj t24 3 zap)
           let p_4:List St:=p_2++[sb h11,sg h15,sb h17,sb h19,sl [0] c24,se (zkg a24 zap),sc (zaM (ByteArray.mk #[]) (ByteArray.mk #[105,100])),sc (zaM (ByteArray.mk #[79,76,68]) (ByteArray.mk #[105,100])),sc (zaA 3 (xCol (ByteArray.mk #[]) (ByteArray.mk #[105,100])) (xCol (ByteArray.mk #[79,76,68]) (ByteArray.mk #[105,100]))),sl [0] c25]
           rcases (Bool.eq_false_or_eq_true b25).symm with h26|h26
           ·exact ⟨Ac.mk 2 (tuAt a24) [] [] [Se.mk (ByteArray.mk #[110]) (xLit (V.mk 1 (a4:Int) (ByteArray.mk #[])))] [xBin 3 (xCol (ByteArray.mk #[]) (ByteArray.mk #[105,100])) (xCol (ByteArray.mk #[79,76,68]) (ByteArray.mk #[105,100]))] (ByteArray.mk #[]),t25,za6,(by (try simp only [Ac.av,Ac.cells,List.map_cons,List.map_nil,Se.cells,zam,zaq,zan,zar]);exact wk At.world_Tape_action (p_4++[sb h26]) kr)⟩
           ·obtain ⟨e27,t27,q27,c27⟩:=(zbJ t25 (plIn p (zak (tuAt a24))) 2 zap)
            exact ⟨Ac.mk 2 (tuAt a24) [] [] [Se.mk (ByteArray.mk #[110]) (xLit (V.mk 1 (a4:Int) (ByteArray.mk #[])))] [xBin 2 (xBin 3 (xCol (ByteArray.mk #[]) (ByteArray.mk #[105,100])) (xCol (ByteArray.mk #[79,76,68]) (ByteArray.mk #[105,100]))) e27] (ByteArray.mk #[]),t27,za6,(by (try simp only [Ac.av,Ac.cells,List.map_cons,List.map_nil,Se.cells,zam,zaq,zan,zar]);exact wk At.world_Tape_action (p_4++[sb h26,sd [(4,[sc (zbE (tuAt a24) zap)]),(5,[sc (zbR p (zak (tuAt a24)) zap)]),(6,[sl [0] c27]),(7,[sc (zaA 2 (xBin 3 (xCol (ByteArray.mk #[]) (ByteArray.mk #[105,100])) (xCol (ByteArray.mk #[79,76,68]) (ByteArray.mk #[105,100]))) e27)])]]) kr)⟩
      ·obtain ⟨a28,t28,q28,c28⟩:=(zaf t7 2 zap)
       obtain ⟨a29,t29,q29,c29⟩:=(zaf t28 2 zap)
       obtain ⟨a30,t30,q30,c30⟩:=(zaf t29 3 zap)
       obtain ⟨a31,t31,q31,c31⟩:=(zaX t30)
       exact ⟨Ac.mk 2 (ByteArray.mk #[117]) [] [] [Se.mk (nmAt a28) (xBin (↑(9+a29):Int) (xCol (ByteArray.mk #[]) (nmAt a28)) (xNum (↑(1+a30):Int)))] [xBtw (nmAt a28) a31 9] (ByteArray.mk #[]),t31,za6,(by (try simp only [Ac.av,Ac.cells,List.map_cons,List.map_nil,Se.cells,zam,zaq,zan,zar]);exact wk At.world_Tape_action (p_1++[sb h6,sl [0] c7,sb h8,sb h9,sb h10,sl [0] c28,se (zfy a28 zap),sl [0] c29,si (zaY (t:=9+(a29:Int)) (n:=9+a29) (by omega) (by omega)),sc (zaM (ByteArray.mk #[]) (nmAt a28)),sl [0] c30,si (zaY (t:=1+(a30:Int)) (n:=1+a30) (by omega) (by omega)),sc (zaZ ((↑(1+a30):Int)) zap),sc (zaA ((↑(9+a29):Int)) (xCol (ByteArray.mk #[]) (nmAt a28)) (xNum (↑(1+a30):Int))),sl [0] c31,sc (zdS (nmAt a28) a31 9 zap zap)]) kr)⟩
     ·obtain ⟨a32,t32,q32,c32⟩:=(zaf t7 2 zap)
      obtain ⟨a33,t33,q33,c33⟩:=(zaf t32 2 zap)
      obtain ⟨a34,t34,q34,c34⟩:=(zaf t33 2 zap)
      obtain ⟨a35,t35,q35,c35⟩:=(zaf t34 3 zap)
      exact ⟨Ac.mk 2 (ByteArray.mk #[117]) [] [] [Se.mk (nmAt a32) (xBin (↑(9+a33):Int) (xCol (ByteArray.mk #[]) (nmAt a34)) (xNum (↑(1+a35):Int)))] [] (ByteArray.mk #[]),t35,za6,(by (try simp only [Ac.av,Ac.cells,List.map_cons,List.map_nil,Se.cells,zam,zaq,zan,zar]);exact wk At.world_Tape_action (p_1++[sb h6,sl [0] c7,sb h8,sb h9,sd [(2,[sl [0] c32]),(3,[se (zfy a32 zap)]),(6,[sl [0] c33]),(7,[si (zaY (t:=9+(a33:Int)) (n:=9+a33) (by omega) (by omega))]),(10,[sl [0] c34]),(11,[se (zfy a34 zap)]),(13,[sc (zaM (ByteArray.mk #[]) (nmAt a34))]),(15,[sl [0] c35]),(16,[si (zaY (t:=1+(a35:Int)) (n:=1+a35) (by omega) (by omega))]),(17,[sc (zaZ ((↑(1+a35):Int)) zap)]),(18,[sc (zaA ((↑(9+a33):Int)) (xCol (ByteArray.mk #[]) (nmAt a34)) (xNum (↑(1+a35):Int)))])]]) kr)⟩
    ·exact ⟨Ac.mk 1 (ByteArray.mk #[108,111,103]) [[xLit (V.mk 1 (a4:Int) (ByteArray.mk #[])),xLit (V.mk 3 0 x.name)]] [] [] [] (ByteArray.mk #[]),t7,za6,(by (try simp only [Ac.av,Ac.cells,List.map_cons,List.map_nil,Se.cells,zam,zaq,zan,zar]);exact wk At.world_Tape_action (p_1++[sb h6,sl [0] c7,sb h8,sd [(4,[sc (zaS (V.mk 3 0 x.name))])]]) kr)⟩
   ·obtain ⟨b36,t36,c36⟩:=(zaj t5 2 zap)
    rcases (Bool.eq_false_or_eq_true b36).symm with h37|h37
    ·obtain ⟨a38,t38,q38,c38⟩:=(zaf t36 7 zap)
     let p_5:List St:=p_1++[sg h6,sl [0] c36,sb h37,sl [0] c38]
     cases h39:(a38:Int)==0
     ·cases h40:(a38:Int)==1
      ·cases h41:(a38:Int)==2
       ·cases h42:(a38:Int)==3
        ·cases h43:(a38:Int)==4
         ·obtain ⟨r44,t44,q44,c44⟩:=(zbh t38 p zap zap)
          exact ⟨r44,t44,za6,wk At.world_Tape_action (p_5++[sb h39,sb h40,sb h41,sb h42,sb h43,sl [0] c44]) kr⟩
         ·obtain ⟨w45,t45,q45,c45⟩:=(zca t38)
          exact ⟨Ac.mk 3 w45 [] [] [] [xBin 5 (xCol (ByteArray.mk #[]) (ByteArray.mk #[110])) (xLit (V.mk 1 (a4:Int) (ByteArray.mk #[])))] (ByteArray.mk #[]),t45,za6,(by (try simp only [Ac.av,Ac.cells,List.map_cons,List.map_nil,Se.cells,zam,zaq,zan,zar]);exact wk At.world_Tape_action (p_5++[sb h39,sb h40,sb h41,sb h42,sb h43,sd [(1,[sl [0] c45]),(2,[sc (zaM (ByteArray.mk #[]) (ByteArray.mk #[110]))]),(4,[sc (zaA 5 (xCol (ByteArray.mk #[]) (ByteArray.mk #[110])) (xLit (V.mk 1 (a4:Int) (ByteArray.mk #[]))))])]]) kr)⟩
        ·cases h46:x.each
         ·obtain ⟨r47,t47,q47,c47⟩:=(zbh t38 p zap zap)
          exact ⟨r47,t47,za6,wk At.world_Tape_action (p_5++[sb h39,sb h40,sb h41,sb h42,sb h46,sl [0] c47]) kr⟩
         ·let p_6:List St:=p_5++[sb h39,sb h40,sb h41,sb h42,sg h46]
          cases h48:!ByteArray.toList x.table==(ByteArray.mk #[108,111,103]).toList
          ·obtain ⟨r49,t49,q49,c49⟩:=(zbh t38 p zap zap)
           exact ⟨r49,t49,za6,wk At.world_Tape_action (p_6++[sb h48,sl [0] c49]) kr⟩
          ·cases h50:x.event==3
           ·obtain ⟨a51,t51,q51,c51⟩:=(zaf t38 2 zap)
            obtain ⟨b52,t52,c52⟩:=(zaj t51 3 zap)
            let p_7:List St:=p_6++[sb h48,sb h50,sl [0] c51,se (zkg a51 zap),sc (zaM (ByteArray.mk #[]) (ByteArray.mk #[105,100])),sc (zaM (ByteArray.mk #[78,69,87]) (ByteArray.mk #[105,100])),sc (zaA 3 (xCol (ByteArray.mk #[]) (ByteArray.mk #[105,100])) (xCol (ByteArray.mk #[78,69,87]) (ByteArray.mk #[105,100]))),sl [0] c52]
            rcases (Bool.eq_false_or_eq_true b52).symm with h53|h53
            ·exact ⟨Ac.mk 2 (tuAt a51) [] [] [Se.mk (ByteArray.mk #[110]) (xLit (V.mk 1 (a4:Int) (ByteArray.mk #[])))] [xBin 3 (xCol (ByteArray.mk #[]) (ByteArray.mk #[105,100])) (xCol (ByteArray.mk #[78,69,87]) (ByteArray.mk #[105,100]))] (ByteArray.mk #[]),t52,za6,(by (try simp only [Ac.av,Ac.cells,List.map_cons,List.map_nil,Se.cells,zam,zaq,zan,zar]);exact wk At.world_Tape_action (p_7++[sb h53]) kr)⟩
            ·obtain ⟨e54,t54,q54,c54⟩:=(zbJ t52 (plIn p (zak (tuAt a51))) 2 zap)
             exact ⟨Ac.mk 2 (tuAt a51) [] [] [Se.mk (ByteArray.mk #[110]) (xLit (V.mk 1 (a4:Int) (ByteArray.mk #[])))] [xBin 2 (xBin 3 (xCol (ByteArray.mk #[]) (ByteArray.mk #[105,100])) (xCol (ByteArray.mk #[78,69,87]) (ByteArray.mk #[105,100]))) e54] (ByteArray.mk #[]),t54,za6,(by (try simp only [Ac.av,Ac.cells,List.map_cons,List.map_nil,Se.cells,zam,zaq,zan,zar]);exact wk At.world_Tape_action (p_7++[sb h53,sd [(4,[sc (zbE (tuAt a51) zap)]),(5,[sc (zbR p (zak (tuAt a51)) zap)]),(6,[sl [0] c54]),(7,[sc (zaA 2 (xBin 3 (xCol (ByteArray.mk #[]) (ByteArray.mk #[105,100])) (xCol (ByteArray.mk #[78,69,87]) (ByteArray.mk #[105,100]))) e54)])]]) kr)⟩
           ·obtain ⟨a55,t55,q55,c55⟩:=(zaf t38 2 zap)
            obtain ⟨b56,t56,c56⟩:=(zaj t55 3 zap)
            let p_8:List St:=p_6++[sb h48,sb h50,sl [0] c55,se (zkg a55 zap),sc (zaM (ByteArray.mk #[]) (ByteArray.mk #[105,100])),sc (zaM (ByteArray.mk #[79,76,68]) (ByteArray.mk #[105,100])),sc (zaA 3 (xCol (ByteArray.mk #[]) (ByteArray.mk #[105,100])) (xCol (ByteArray.mk #[79,76,68]) (ByteArray.mk #[105,100]))),sl [0] c56]
            rcases (Bool.eq_false_or_eq_true b56).symm with h57|h57
            ·exact ⟨Ac.mk 2 (tuAt a55) [] [] [Se.mk (ByteArray.mk #[110]) (xLit (V.mk 1 (a4:Int) (ByteArray.mk #[])))] [xBin 3 (xCol (ByteArray.mk #[]) (ByteArray.mk #[105,100])) (xCol (ByteArray.mk #[79,76,68]) (ByteArray.mk #[105,100]))] (ByteArray.mk #[]),t56,za6,(by (try simp only [Ac.av,Ac.cells,List.map_cons,List.map_nil,Se.cells,zam,zaq,zan,zar]);exact wk At.world_Tape_action (p_8++[sb h57]) kr)⟩
            ·obtain ⟨e58,t58,q58,c58⟩:=(zbJ t56 (plIn p (zak (tuAt a55))) 2 zap)
             exact ⟨Ac.mk 2 (tuAt a55) [] [] [Se.mk (ByteArray.mk #[110]) (xLit (V.mk 1 (a4:Int) (ByteArray.mk #[])))] [xBin 2 (xBin 3 (xCol (ByteArray.mk #[]) (ByteArray.mk #[105,100])) (xCol (ByteArray.mk #[79,76,68]) (ByteArray.mk #[105,100]))) e58] (ByteArray.mk #[]),t58,za6,(by (try simp only [Ac.av,Ac.cells,List.map_cons,List.map_nil,Se.cells,zam,zaq,zan,zar]);exact wk At.world_Tape_action (p_8++[sb h57,sd [(4,[sc (zbE (tuAt a55) zap)]),(5,[sc (zbR p (zak (tuAt a55)) zap)]),(6,[sl [0] c58]),(7,[sc (zaA 2 (xBin 3 (xCol (ByteArray.mk #[]) (ByteArray.mk #[105,100])) (xCol (ByteArray.mk #[79,76,68]) (ByteArray.mk #[105,100]))) e58)])]]) kr)⟩
       ·obtain ⟨a59,t59,q59,c59⟩:=(zaf t38 2 zap)
        obtain ⟨a60,t60,q60,c60⟩:=(zaf t59 2 zap)
        obtain ⟨a61,t61,q61,c61⟩:=(zaf t60 3 zap)
        obtain ⟨a62,t62,q62,c62⟩:=(zaX t61)
        exact ⟨Ac.mk 2 (ByteArray.mk #[117]) [] [] [Se.mk (nmAt a59) (xBin (↑(9+a60):Int) (xCol (ByteArray.mk #[]) (nmAt a59)) (xNum (↑(1+a61):Int)))] [xBtw (nmAt a59) a62 9] (ByteArray.mk #[]),t62,za6,(by (try simp only [Ac.av,Ac.cells,List.map_cons,List.map_nil,Se.cells,zam,zaq,zan,zar]);exact wk At.world_Tape_action (p_5++[sb h39,sb h40,sb h41,sl [0] c59,se (zfy a59 zap),sl [0] c60,si (zaY (t:=9+(a60:Int)) (n:=9+a60) (by omega) (by omega)),sc (zaM (ByteArray.mk #[]) (nmAt a59)),sl [0] c61,si (zaY (t:=1+(a61:Int)) (n:=1+a61) (by omega) (by omega)),sc (zaZ ((↑(1+a61):Int)) zap),sc (zaA ((↑(9+a60):Int)) (xCol (ByteArray.mk #[]) (nmAt a59)) (xNum (↑(1+a61):Int))),sl [0] c62,sc (zdS (nmAt a59) a62 9 zap zap)]) kr)⟩
      ·obtain ⟨a63,t63,q63,c63⟩:=(zaf t38 2 zap)
       obtain ⟨a64,t64,q64,c64⟩:=(zaf t63 2 zap)
       obtain ⟨a65,t65,q65,c65⟩:=(zaf t64 2 zap)
       obtain ⟨a66,t66,q66,c66⟩:=(zaf t65 3 zap)
       exact ⟨Ac.mk 2 (ByteArray.mk #[117]) [] [] [Se.mk (nmAt a63) (xBin (↑(9+a64):Int) (xCol (ByteArray.mk #[]) (nmAt a65)) (xNum (↑(1+a66):Int)))] [] (ByteArray.mk #[]),t66,za6,(by (try simp only [Ac.av,Ac.cells,List.map_cons,List.map_nil,Se.cells,zam,zaq,zan,zar]);exact wk At.world_Tape_action (p_5++[sb h39,sb h40,sd [(2,[sl [0] c63]),(3,[se (zfy a63 zap)]),(6,[sl [0] c64]),(7,[si (zaY (t:=9+(a64:Int)) (n:=9+a64) (by omega) (by omega))]),(10,[sl [0] c65]),(11,[se (zfy a65 zap)]),(13,[sc (zaM (ByteArray.mk #[]) (nmAt a65))]),(15,[sl [0] c66]),(16,[si (zaY (t:=1+(a66:Int)) (n:=1+a66) (by omega) (by omega))]),(17,[sc (zaZ ((↑(1+a66):Int)) zap)]),(18,[sc (zaA ((↑(9+a64):Int)) (xCol (ByteArray.mk #[]) (nmAt a65)) (xNum (↑(1+a66):Int)))])]]) kr)⟩
     ·exact ⟨Ac.mk 1 (ByteArray.mk #[108,111,103]) [[xLit (V.mk 1 (a4:Int) (ByteArray.mk #[])),xLit (V.mk 3 0 x.name)]] [] [] [] (ByteArray.mk #[]),t38,za6,(by (try simp only [Ac.av,Ac.cells,List.map_cons,List.map_nil,Se.cells,zam,zaq,zan,zar]);exact wk At.world_Tape_action (p_5++[sb h39,sd [(4,[sc (zaS (V.mk 3 0 x.name))])]]) kr)⟩
    ·obtain ⟨a67,t67,q67,c67⟩:=(zaf t36 7 zap)
     let p_9:List St:=p_1++[sg h6,sl [0] c36,sb h37,sl [0] c67]
     cases h68:(a67:Int)==0
     ·cases h69:(a67:Int)==1
      ·cases h70:(a67:Int)==2
       ·cases h71:(a67:Int)==3
        ·cases h72:(a67:Int)==4
         ·obtain ⟨r73,t73,q73,c73⟩:=(zbh t67 p zap zap)
          exact ⟨r73,t73,za6,wk At.world_Tape_action (p_9++[sb h68,sb h69,sb h70,sb h71,sb h72,sl [0] c73]) kr⟩
         ·obtain ⟨w74,t74,q74,c74⟩:=(zca t67)
          exact ⟨Ac.mk 3 w74 [] [] [] [xBin 5 (xCol (ByteArray.mk #[]) (ByteArray.mk #[110])) x5] (ByteArray.mk #[]),t74,za6,(by (try simp only [Ac.av,Ac.cells,List.map_cons,List.map_nil,Se.cells,zam,zaq,zan,zar]);exact wk At.world_Tape_action (p_9++[sb h68,sb h69,sb h70,sb h71,sb h72,sd [(1,[sl [0] c74]),(2,[sc (zaM (ByteArray.mk #[]) (ByteArray.mk #[110]))]),(4,[sc (zaA 5 (xCol (ByteArray.mk #[]) (ByteArray.mk #[110])) x5)])]]) kr)⟩
        ·cases h75:x.each
         ·obtain ⟨r76,t76,q76,c76⟩:=(zbh t67 p zap zap)
          exact ⟨r76,t76,za6,wk At.world_Tape_action (p_9++[sb h68,sb h69,sb h70,sb h71,sb h75,sl [0] c76]) kr⟩
         ·let p_10:List St:=p_9++[sb h68,sb h69,sb h70,sb h71,sg h75]
          cases h77:!ByteArray.toList x.table==(ByteArray.mk #[108,111,103]).toList
          ·obtain ⟨r78,t78,q78,c78⟩:=(zbh t67 p zap zap)
           exact ⟨r78,t78,za6,wk At.world_Tape_action (p_10++[sb h77,sl [0] c78]) kr⟩
          ·cases h79:x.event==3
           ·obtain ⟨a80,t80,q80,c80⟩:=(zaf t67 2 zap)
            obtain ⟨b81,t81,c81⟩:=(zaj t80 3 zap)
            let p_11:List St:=p_10++[sb h77,sb h79,sl [0] c80,se (zkg a80 zap),sc (zaM (ByteArray.mk #[]) (ByteArray.mk #[105,100])),sc (zaM (ByteArray.mk #[78,69,87]) (ByteArray.mk #[105,100])),sc (zaA 3 (xCol (ByteArray.mk #[]) (ByteArray.mk #[105,100])) (xCol (ByteArray.mk #[78,69,87]) (ByteArray.mk #[105,100]))),sl [0] c81]
            rcases (Bool.eq_false_or_eq_true b81).symm with h82|h82
            ·exact ⟨Ac.mk 2 (tuAt a80) [] [] [Se.mk (ByteArray.mk #[110]) x5] [xBin 3 (xCol (ByteArray.mk #[]) (ByteArray.mk #[105,100])) (xCol (ByteArray.mk #[78,69,87]) (ByteArray.mk #[105,100]))] (ByteArray.mk #[]),t81,za6,(by (try simp only [Ac.av,Ac.cells,List.map_cons,List.map_nil,Se.cells,zam,zaq,zan,zar]);exact wk At.world_Tape_action (p_11++[sb h82]) kr)⟩
            ·obtain ⟨e83,t83,q83,c83⟩:=(zbJ t81 (plIn p (zak (tuAt a80))) 2 zap)
             exact ⟨Ac.mk 2 (tuAt a80) [] [] [Se.mk (ByteArray.mk #[110]) x5] [xBin 2 (xBin 3 (xCol (ByteArray.mk #[]) (ByteArray.mk #[105,100])) (xCol (ByteArray.mk #[78,69,87]) (ByteArray.mk #[105,100]))) e83] (ByteArray.mk #[]),t83,za6,(by (try simp only [Ac.av,Ac.cells,List.map_cons,List.map_nil,Se.cells,zam,zaq,zan,zar]);exact wk At.world_Tape_action (p_11++[sb h82,sd [(4,[sc (zbE (tuAt a80) zap)]),(5,[sc (zbR p (zak (tuAt a80)) zap)]),(6,[sl [0] c83]),(7,[sc (zaA 2 (xBin 3 (xCol (ByteArray.mk #[]) (ByteArray.mk #[105,100])) (xCol (ByteArray.mk #[78,69,87]) (ByteArray.mk #[105,100]))) e83)])]]) kr)⟩
           ·obtain ⟨a84,t84,q84,c84⟩:=(zaf t67 2 zap)
            obtain ⟨b85,t85,c85⟩:=(zaj t84 3 zap)
            let p_12:List St:=p_10++[sb h77,sb h79,sl [0] c84,se (zkg a84 zap),sc (zaM (ByteArray.mk #[]) (ByteArray.mk #[105,100])),sc (zaM (ByteArray.mk #[79,76,68]) (ByteArray.mk #[105,100])),sc (zaA 3 (xCol (ByteArray.mk #[]) (ByteArray.mk #[105,100])) (xCol (ByteArray.mk #[79,76,68]) (ByteArray.mk #[105,100]))),sl [0] c85]
            rcases (Bool.eq_false_or_eq_true b85).symm with h86|h86
            ·exact ⟨Ac.mk 2 (tuAt a84) [] [] [Se.mk (ByteArray.mk #[110]) x5] [xBin 3 (xCol (ByteArray.mk #[]) (ByteArray.mk #[105,100])) (xCol (ByteArray.mk #[79,76,68]) (ByteArray.mk #[105,100]))] (ByteArray.mk #[]),t85,za6,(by (try simp only [Ac.av,Ac.cells,List.map_cons,List.map_nil,Se.cells,zam,zaq,zan,zar]);exact wk At.world_Tape_action (p_12++[sb h86]) kr)⟩
            ·obtain ⟨e87,t87,q87,c87⟩:=(zbJ t85 (plIn p (zak (tuAt a84))) 2 zap)
             exact ⟨Ac.mk 2 (tuAt a84) [] [] [Se.mk (ByteArray.mk #[110]) x5] [xBin 2 (xBin 3 (xCol (ByteArray.mk #[]) (ByteArray.mk #[105,100])) (xCol (ByteArray.mk #[79,76,68]) (ByteArray.mk #[105,100]))) e87] (ByteArray.mk #[]),t87,za6,(by (try simp only [Ac.av,Ac.cells,List.map_cons,List.map_nil,Se.cells,zam,zaq,zan,zar]);exact wk At.world_Tape_action (p_12++[sb h86,sd [(4,[sc (zbE (tuAt a84) zap)]),(5,[sc (zbR p (zak (tuAt a84)) zap)]),(6,[sl [0] c87]),(7,[sc (zaA 2 (xBin 3 (xCol (ByteArray.mk #[]) (ByteArray.mk #[105,100])) (xCol (ByteArray.mk #[79,76,68]) (ByteArray.mk #[105,100]))) e87)])]]) kr)⟩
       ·obtain ⟨a88,t88,q88,c88⟩:=(zaf t67 2 zap)
        obtain ⟨a89,t89,q89,c89⟩:=(zaf t88 2 zap)
        obtain ⟨a90,t90,q90,c90⟩:=(zaf t89 3 zap)
        obtain ⟨a91,t91,q91,c91⟩:=(zaX t90)
        exact ⟨Ac.mk 2 (ByteArray.mk #[117]) [] [] [Se.mk (nmAt a88) (xBin (↑(9+a89):Int) (xCol (ByteArray.mk #[]) (nmAt a88)) (xNum (↑(1+a90):Int)))] [xBtw (nmAt a88) a91 9] (ByteArray.mk #[]),t91,za6,(by (try simp only [Ac.av,Ac.cells,List.map_cons,List.map_nil,Se.cells,zam,zaq,zan,zar]);exact wk At.world_Tape_action (p_9++[sb h68,sb h69,sb h70,sl [0] c88,se (zfy a88 zap),sl [0] c89,si (zaY (t:=9+(a89:Int)) (n:=9+a89) (by omega) (by omega)),sc (zaM (ByteArray.mk #[]) (nmAt a88)),sl [0] c90,si (zaY (t:=1+(a90:Int)) (n:=1+a90) (by omega) (by omega)),sc (zaZ ((↑(1+a90):Int)) zap),sc (zaA ((↑(9+a89):Int)) (xCol (ByteArray.mk #[]) (nmAt a88)) (xNum (↑(1+a90):Int))),sl [0] c91,sc (zdS (nmAt a88) a91 9 zap zap)]) kr)⟩
      ·obtain ⟨a92,t92,q92,c92⟩:=(zaf t67 2 zap)
       obtain ⟨a93,t93,q93,c93⟩:=(zaf t92 2 zap)
       obtain ⟨a94,t94,q94,c94⟩:=(zaf t93 2 zap)
       obtain ⟨a95,t95,q95,c95⟩:=(zaf t94 3 zap)
       exact ⟨Ac.mk 2 (ByteArray.mk #[117]) [] [] [Se.mk (nmAt a92) (xBin (↑(9+a93):Int) (xCol (ByteArray.mk #[]) (nmAt a94)) (xNum (↑(1+a95):Int)))] [] (ByteArray.mk #[]),t95,za6,(by (try simp only [Ac.av,Ac.cells,List.map_cons,List.map_nil,Se.cells,zam,zaq,zan,zar]);exact wk At.world_Tape_action (p_9++[sb h68,sb h69,sd [(2,[sl [0] c92]),(3,[se (zfy a92 zap)]),(6,[sl [0] c93]),(7,[si (zaY (t:=9+(a93:Int)) (n:=9+a93) (by omega) (by omega))]),(10,[sl [0] c94]),(11,[se (zfy a94 zap)]),(13,[sc (zaM (ByteArray.mk #[]) (nmAt a94))]),(15,[sl [0] c95]),(16,[si (zaY (t:=1+(a95:Int)) (n:=1+a95) (by omega) (by omega))]),(17,[sc (zaZ ((↑(1+a95):Int)) zap)]),(18,[sc (zaA ((↑(9+a93):Int)) (xCol (ByteArray.mk #[]) (nmAt a94)) (xNum (↑(1+a95):Int)))])]]) kr)⟩
     ·exact ⟨Ac.mk 1 (ByteArray.mk #[108,111,103]) [[x5,xLit (V.mk 3 0 x.name)]] [] [] [] (ByteArray.mk #[]),t67,za6,(by (try simp only [Ac.av,Ac.cells,List.map_cons,List.map_nil,Se.cells,zam,zaq,zan,zar]);exact wk At.world_Tape_action (p_9++[sb h68,sd [(4,[sc (zaS (V.mk 3 0 x.name))])]]) kr)⟩
  ·cases h96:!x.each
   ·cases h97:x.event==3
    ·obtain ⟨a98,t98,q98,c98⟩:=(zaf t1 ((↑(List.map Col.cells s.cols).length:Int)) zap)
     obtain ⟨x99,e99⟩:=zax (l:=s.cols) (i:=a98) zap
     obtain ⟨e100,t100,q100,c100⟩:=(zaE t98 p x99.type zap)
     exact ⟨Ac.mk 5 (ByteArray.mk #[]) [] [] [Se.mk x99.name e100] [] (ByteArray.mk #[]),t100,za6,(by (try simp only [Ac.av,Ac.cells,List.map_cons,List.map_nil,Se.cells,zam,zaq,zan,zar]);exact wk At.world_Tape_action [sl [0] c1,sg h2,sg h3,sg h96,sb h97,sb h3,sdm [(6,[sl [0] c98]),(7,[se (zah Col.cells e99 rfl)])] 0 [(0,AV.p 0 0),(1,AV.agg [sv x.name,sv x.table,bv x.before,iv x.event,AV.sl (List.map (fun s=>[sv s]) x.of),bv x.each,AV.sl (List.map (fun s=>[sv s]) x.prec),AV.sl (List.map (fun s=>[sv s]) x.foll),AV.sl (List.map Rk.cells x.rank),AV.sl (zab x.when_),AV.sl (List.map Ac.cells x.acts)]),(2,AV.agg [sv s.name,AV.sl (List.map Col.cells s.cols)]),(3,AV.agg [AV.sl (List.map Fr.cells p.frs),AV.sl (List.map Sch.cells p.tbs)]),(5,AV.p 1 0),(6,AV.p 2 0),(7,AV.p 3 0),(8,AV.p 4 0),(9,AV.p 5 0),(17,AV.p 0 0),(18,bv b1),(19,AV.bl false),(20,AV.p 1 2),(21,bv x.before),(22,AV.bl true),(23,AV.p 1 5),(24,bv x.each),(25,bv !x.each),(26,AV.bl false),(27,AV.p 1 3),(28,iv x.event),(29,bv (x.event==3)),(30,bv (x.event==3)),(31,bv (x.event==3)),(32,AV.bl false),(36,AV.p 1 2),(37,AV.bl true),(38,AV.p 2 1),(39,AV.sl (List.map Col.cells s.cols)),(40,AV.p 0 0),(41,AV.p 2 1),(42,AV.sl (List.map Col.cells s.cols)),(43,iv (↑(List.map Col.cells s.cols).length:Int)),(44,iv (a98:Int)),(45,AV.dp [sv x99.name,iv x99.type,bv x99.notNull,bv x99.key]),(46,AV.agg [sv x99.name,iv x99.type,bv x99.notNull,bv x99.key])] [Blk.box [AV.sl (List.map (fun n=>[iv n]) t98.l),iv (t98.pos:Int)],Blk.box [sv x.name,sv x.table,bv x.before,iv x.event,AV.sl (List.map (fun s=>[sv s]) x.of),bv x.each,AV.sl (List.map (fun s=>[sv s]) x.prec),AV.sl (List.map (fun s=>[sv s]) x.foll),AV.sl (List.map Rk.cells x.rank),AV.sl (zab x.when_),AV.sl (List.map Ac.cells x.acts)],Blk.box [sv s.name,AV.sl (List.map Col.cells s.cols)],Blk.box [AV.sl (List.map Fr.cells p.frs),AV.sl (List.map Sch.cells p.tbs)],Blk.box [iv 0,sv (ByteArray.mk #[]),AV.nl,AV.nl,AV.nl,AV.nl,sv (ByteArray.mk #[])],Blk.box [sv x99.name,iv x99.type,bv x99.notNull,bv x99.key]],sd [(6,[sl [0] c100])]] kr)⟩
    ·obtain ⟨w101,t101,q101,c101⟩:=(zdm t1)
     exact ⟨Ac.mk 4 (ByteArray.mk #[]) [] [] [] [] w101,t101,za6,wk At.world_Tape_action [sl [0] c1,sg h2,sg h3,sg h96,sb h97,sl [0] c101] kr⟩
   ·obtain ⟨w102,t102,q102,c102⟩:=(zdm t1)
    exact ⟨Ac.mk 4 (ByteArray.mk #[]) [] [] [] [] w102,t102,za6,wk At.world_Tape_action [sl [0] c1,sg h2,sg h3,sb h96,sl [0] c102] kr⟩
 ·obtain ⟨w103,t103,q103,c103⟩:=(zdm t1)
  exact ⟨Ac.mk 4 (ByteArray.mk #[]) [] [] [] [] w103,t103,za6,wk At.world_Tape_action [sl [0] c1,sb h2,sl [0] c103] kr⟩
end Go.AM
namespace Go.AM
set_option maxRecDepth 100000
set_option maxHeartbeats 1000000
set_option linter.unusedSimpArgs false
set_option linter.unusedVariables false
theorem zlm {p:Prop} (h:p:=by first|exact trigQ w1 w2 w3 (by simp [Few]) w4 w5 (few3 (by assumption)) (And.right (by assumption))|exact trigQ w1 w2 w3 (by simp [Few]) (by simp [Few]) (by simp) (by simp [Few]) (fun a ha=>by simp only [List.mem_singleton] at ha;subst ha;assumption)):p:=h
theorem zeY {p:Prop} (h:p:=by first|assumption|omega|(rw [IntKind.wrap_i64];omega)|(simp;done)):p:=h
theorem zly {p:Prop} (h:p:=by first|exact certA _ _ _ _ _ _ _ _ _ _|exact certB _ _ _ _ _ _ _ _ _ _ _ _ _ _|exact certC _ _ _ _ _ _ _ _ _ _ _ _ _ _ _ _ _ (by omega) (by rw [IntKind.wrap_i64];omega) (by omega)):p:=h
theorem zgO {p:Prop} (h:p:=by first|assumption|omega|exact ⟨by simp;omega,by simp⟩|(simp;done)):p:=h
theorem zjV {p:Prop} (h:p:=by first|assumption|omega|(simp;done)|(simp;omega)):p:=h
abbrev trBx (b:Nat) (nm tb:Str) (bf:Bool) (ev:Int) (off:List Str) (ea:Bool) (pc fo:List Str) (wh:List X) (n:Nat):List AV:=[sv nm,sv tb,bv bf,iv ev,ssl off,bv ea,ssl pc,ssl fo,.nl,.sl (zab wh),.own b n]
abbrev trBox (nm tb:Str) (bf:Bool) (ev:Int) (off:List Str) (ea:Bool) (pc fo:List Str) (wh:List X) (n:Nat):List AV:=trBx 5 nm tb bf ev off ea pc fo wh n
def trD (k1 k2:Bool) (nm tb:Str) (bf:Bool) (ev:Int) (off:List Str) (ea:Bool) (pc fo:List Str) (wh:List X) (n:Nat) (ra:Rk) (a:Ac):List AV:=match k1 with
 | false=>trBx 2 nm tb bf ev off ea pc fo wh n
 | true=>match k2 with
  | false=>[sv nm,sv tb,bv bf,iv ev,ssl off,bv ea,ssl pc,ssl fo,.sl [ra.cells],.sl (zab wh),.own 2 n]
  | true=>[sv nm,sv tb,bv bf,iv ev,ssl off,.bl false,ssl pc,ssl fo,.sl [ra.cells],.nl,.sl [a.cells]]
def zm5 (nm tb:Str) (bf:Bool) (ev:Int) (off:List Str) (ea:Bool) (pc fo:List Str) (wh:List X) (n:Nat) (cs:List AV):Prop:=∃ (k1 k2:Bool) (ra:Rk) (a:Ac),cs=trD k1 k2 nm tb bf ev off ea pc fo wh n ra a∧ActQ a
theorem actAb:ActQ (Ac.mk 4 ⟨#[]⟩ [] [] [] [] ⟨#[]⟩):=act0 (by decide)
theorem certA (nm tb:Str) (bf:Bool) (ev:Int) (off:List Str) (ea:Bool) (pc fo:List Str) (wh:List X) (n:Nat):zm5 nm tb bf ev off ea pc fo wh n (trBx 2 nm tb bf ev off ea pc fo wh n):=⟨false,false,⟨⟨#[]⟩,⟨#[]⟩,0,0⟩,_,rfl,actAb⟩
theorem certB (nm tb:Str) (bf:Bool) (ev:Int) (off:List Str) (ea:Bool) (pc fo:List Str) (wh:List X) (n:Nat) (a b:Str) (lo hi:Int):zm5 nm tb bf ev off ea pc fo wh n [sv nm,sv tb,bv bf,iv ev,ssl off,bv ea,ssl pc,ssl fo,.sl [[sv a,sv b,iv lo,iv hi]],.sl (zab wh),.own 2 n]:=⟨true,false,⟨a,b,lo,hi⟩,_,rfl,actAb⟩
theorem certC (nm tb:Str) (bf:Bool) (ev:Int) (off:List Str) (ea:Bool) (pc fo:List Str) (wh:List X) (n:Nat) (a b tbn c:Str) (lo hi m:Int) (h1:-9223372036854775808 < lo∧lo≤9223372036854775807) (h2:-9223372036854775808 < hi∧hi≤9223372036854775807) (h3:-9223372036854775808 < m∧m≤9223372036854775807) :
  zm5 nm tb bf ev off ea pc fo wh n [sv nm,sv tb,bv bf,iv ev,ssl off,.bl false,ssl pc,ssl fo,.sl [[sv a,sv b,iv lo,iv hi]],.nl,.sl [Ac.cells ⟨2,tbn,[],[],[⟨c,xBin 10 (xCol ⟨#[]⟩ c) (xNum m)⟩],[xBtw c lo hi],⟨#[]⟩⟩]] :=
 ⟨true,true,⟨a,b,lo,hi⟩,_,rfl,zmR (by decide) (XOk.le (zej (n:=2) (zcZ _ _) (zcV h3.1 h3.2)) (by omega)) (XOk.le (zpN (n:=2) (zcZ _ _) (zcV h1.1 h1.2) (zcV h2.1 h2.2)) (by omega))⟩
theorem zlX (t:Tp) (nm tb:Str) (bf:Bool) (ev:Int) (off:List Str) (ea:Bool) (pc fo:List Str) (wh:List X) (acts:List Ac) (sh:Bool) :∃ (cs:List AV) (t':Tp),zm5 nm tb bf ev off ea pc fo wh acts.length cs∧zac E0 S.world_Tape_certify [.p 0 0,.p 1 0] [.box t.cells,.box (trBx 2 nm tb bf ev off ea pc fo wh acts.length),.row Ty.Action (acts.map Ac.cells) sh] (.tup []) [.box t'.cells,.box cs,.row Ty.Action (acts.map Ac.cells) sh]:=by
 rcases (Bool.eq_false_or_eq_true bf).symm with h1|h1
 ·obtain ⟨b2,t2,c2⟩:=(zaj t 3 zeY)
  cases h3:!b2
  ·obtain ⟨a4,t4,q4,c4⟩:=(zaf t2 2 zeY)
   obtain ⟨a5,t5,q5,c5⟩:=(zaX t4)
   obtain ⟨a6,t6,q6,c6⟩:=(zaf t5 12 zeY)
   obtain ⟨b7,t7,c7⟩:=(zaj t6 2 zeY)
   let p_1:List St:=[sg h1,sl [0] c2,sb h3,sl [0] c4,se (zfy a4 zeY),sl [0] c5,sl [0] c6,si (e:=IntKind.i64.wrap (a5+(a6:Int))) rfl,sl [0] c7]
   rcases (Bool.eq_false_or_eq_true b7).symm with h8|h8
   ·obtain ⟨a9,t9,q9,c9⟩:=(zaf t7 3 zeY)
    exact ⟨[sv nm,sv tb,bv bf,iv ev,AV.sl (List.map (fun s=>[sv s]) off),AV.bl false,AV.sl (List.map (fun s=>[sv s]) pc),AV.sl (List.map (fun s=>[sv s]) fo),AV.sl [[sv (ByteArray.mk #[117]),sv (nmAt a4),iv a5,iv (IntKind.i64.wrap (a5+(a6:Int)))]],AV.nl,AV.sl [[iv 2,sv (ByteArray.mk #[117]),AV.sl [],AV.sl [],AV.sl [[sv (nmAt a4),iv (xBin 10 (xCol (ByteArray.mk #[]) (nmAt a4)) (xNum (↑(1+a9):Int))).kind,iv (xBin 10 (xCol (ByteArray.mk #[]) (nmAt a4)) (xNum (↑(1+a9):Int))).op,bv (xBin 10 (xCol (ByteArray.mk #[]) (nmAt a4)) (xNum (↑(1+a9):Int))).not,iv (xBin 10 (xCol (ByteArray.mk #[]) (nmAt a4)) (xNum (↑(1+a9):Int))).val.kind,iv (xBin 10 (xCol (ByteArray.mk #[]) (nmAt a4)) (xNum (↑(1+a9):Int))).val.int,sv (xBin 10 (xCol (ByteArray.mk #[]) (nmAt a4)) (xNum (↑(1+a9):Int))).val.text,sv (xBin 10 (xCol (ByteArray.mk #[]) (nmAt a4)) (xNum (↑(1+a9):Int))).table,sv (xBin 10 (xCol (ByteArray.mk #[]) (nmAt a4)) (xNum (↑(1+a9):Int))).name,AV.sl (zab [xCol (ByteArray.mk #[]) (nmAt a4),xNum (↑(1+a9):Int)]),AV.sl (zae [])]],AV.sl [[iv (xBtw (nmAt a4) a5 (IntKind.i64.wrap (a5+(a6:Int)))).kind,iv (xBtw (nmAt a4) a5 (IntKind.i64.wrap (a5+(a6:Int)))).op,bv (xBtw (nmAt a4) a5 (IntKind.i64.wrap (a5+(a6:Int)))).not,iv (xBtw (nmAt a4) a5 (IntKind.i64.wrap (a5+(a6:Int)))).val.kind,iv (xBtw (nmAt a4) a5 (IntKind.i64.wrap (a5+(a6:Int)))).val.int,sv (xBtw (nmAt a4) a5 (IntKind.i64.wrap (a5+(a6:Int)))).val.text,sv (xBtw (nmAt a4) a5 (IntKind.i64.wrap (a5+(a6:Int)))).table,sv (xBtw (nmAt a4) a5 (IntKind.i64.wrap (a5+(a6:Int)))).name,AV.sl (zab [xCol (ByteArray.mk #[]) (nmAt a4),xNum a5,xNum (IntKind.i64.wrap (a5+(a6:Int)))]),AV.sl (zae [])]],sv (ByteArray.mk #[])]]],t9,zly,(by (try simp only [false_and]);exact wkE At.world_Tape_certify (p_1++[sb h8,sd [(17,[se (xs:=[[sv (ByteArray.mk #[117]),sv (nmAt a4),iv a5,iv (IntKind.i64.wrap (a5+(a6:Int)))]]) (i:=0) (c:=[sv (ByteArray.mk #[117]),sv (nmAt a4),iv a5,iv (IntKind.i64.wrap (a5+(a6:Int)))]) (n:=4) ⟨by decide,rfl,rfl⟩]),(3,[sc (zaM (ByteArray.mk #[]) (nmAt a4))]),(5,[sl [0] c9]),(6,[si (zaY (t:=1+(a9:Int)) (n:=1+a9) (by omega) (by omega))]),(7,[sc (zaZ ((↑(1+a9):Int)) zeY)]),(8,[sc (zaA 10 (xCol (ByteArray.mk #[]) (nmAt a4)) (xNum (↑(1+a9):Int)))]),(20,[sc (zdS (nmAt a4) a5 (IntKind.i64.wrap (a5+(a6:Int))) zeY zeY)])]]) kr)⟩
   ·exact ⟨[sv nm,sv tb,bv bf,iv ev,AV.sl (List.map (fun s=>[sv s]) off),bv ea,AV.sl (List.map (fun s=>[sv s]) pc),AV.sl (List.map (fun s=>[sv s]) fo),AV.sl [[sv (ByteArray.mk #[117]),sv (nmAt a4),iv a5,iv (IntKind.i64.wrap (a5+(a6:Int)))]],AV.sl (zab wh),AV.own 2 acts.length],t7,zly,(by (try simp only [false_and]);exact wk At.world_Tape_certify (p_1++[sb h8]) kr)⟩
  ·exact ⟨[sv nm,sv tb,bv bf,iv ev,AV.sl (List.map (fun s=>[sv s]) off),bv ea,AV.sl (List.map (fun s=>[sv s]) pc),AV.sl (List.map (fun s=>[sv s]) fo),AV.nl,AV.sl (zab wh),AV.own 2 acts.length],t2,zly,(by (try simp only [false_and]);exact wk At.world_Tape_certify [sg h1,sl [0] c2,sb h3] kr)⟩
 ·exact ⟨[sv nm,sv tb,bv bf,iv ev,AV.sl (List.map (fun s=>[sv s]) off),bv ea,AV.sl (List.map (fun s=>[sv s]) pc),AV.sl (List.map (fun s=>[sv s]) fo),AV.nl,AV.sl (zab wh),AV.own 2 acts.length],t,zly,(by (try simp only [false_and]);exact wk At.world_Tape_certify [sb h1] kr)⟩
theorem zf8 (t:Tp) (nm tb:Str) (bf:Bool) (ev:Int) (off:List Str) (ea:Bool) (pc fo:List Str) (wh:List X) (acts:List Ac) (sh:Bool):∃ (kka kkb:Bool) (ra:Rk) (a:Ac) (t':Tp),ActQ a∧zac E0 S.world_Tape_certify [.p 0 0,.p 1 0] [.box t.cells,.box (trBx 2 nm tb bf ev off ea pc fo wh acts.length),.row Ty.Action (acts.map Ac.cells) sh] (.tup []) [.box t'.cells,.box (trD kka kkb nm tb bf ev off ea pc fo wh acts.length ra a),.row Ty.Action (acts.map Ac.cells) sh]:=by
 obtain ⟨cs,t',⟨k1,k2,ra,a,rfl,h⟩,hc⟩:=zlX t nm tb bf ev off ea pc fo wh acts sh
 exact ⟨k1,k2,ra,a,t',h,hc⟩
abbrev trZero:List AV:=[sv ⟨#[]⟩,sv ⟨#[]⟩,.bl false,iv 0,.nl,.bl false,.nl,.nl,.nl,.nl,.nl]
noncomputable def L_ta (t0:Tp) (nm tb:Str) (bf:Bool) (ev:Int) (off:List Str) (ea:Bool) (pc fo:List Str) (wh:List X) (s:Sch) (p:Pl) (k:Nat) (u:Tp) (acts:List Ac) (sh:Bool):Cfg:=zat B.world_Tape_Trigger 0 [(0,.p 0 0),(6,.p 1 0),(7,.p 2 0),(8,.p 3 0),(9,.p 4 0),(10,iv (k:Nat))] [.box u.cells,.box trZero,.box (trBox nm tb bf ev off ea pc fo wh acts.length),.box s.cells,.box p.cells,.row Ty.Action (acts.map Ac.cells) sh]
theorem zfd (t0:Tp) (nm tb:Str) (bf:Bool) (ev:Int) (off:List Str) (ea:Bool) (pc fo:List Str) (wh:List X) (s:Sch) (p:Pl) (hp:p.OkN 4) (hs:Few s.cols) (hpos:Pos (((s.cols.map Col.cells).length:Nat):Int)) (hsh:zad zau) (hnm:V.Good ⟨3,0,nm⟩) (k:Nat) (u:Tp) (acts:List Ac) (sh:Bool) (hi:k≤1000000000) (hI:acts.length+k≤3∧∀ a∈acts,ActQ a):∃ (u':Tp) (acts':List Ac) (sh':Bool),(acts'.length+0≤3∧∀ a∈acts',ActQ a)∧(decide ((0:Int) < ((0:Nat):Int))=false)∧∀ R,Good E0 B.world_Tape_Trigger [.box t0.cells] (L_ta t0 nm tb bf ev off ea pc fo wh s p 0 u' acts' sh') R→Good E0 B.world_Tape_Trigger [.box t0.cells] (L_ta t0 nm tb bf ev off ea pc fo wh s p k u acts sh) R:=by
 induction k generalizing u acts sh with
 | zero=>exact ⟨u,acts,sh,hI,by decide,fun R hg=>hg⟩
 | succ k ih =>
  have h0:decide ((0:Int) < (((k+1):Nat):Int))=true:=by first|(simp;done)|(simp;omega)
  have hw:IntKind.i64.wrap (((k+1:Nat):Int) - 1)=((k:Nat):Int):=zfW k (by omega)
  obtain ⟨r1,t1,q1,c1⟩:=(zjr u (Tg.mk nm tb bf ev off ea pc fo [] wh acts) s p zjV zjV zjV zjV zjV)
  obtain ⟨uZ,actsZ,shZ,qZ,xZ,gZ⟩:=ih t1 (acts++[r1]) true (by omega) (by (refine ⟨by simp;omega,fun z hz=>?_⟩;simp only [List.mem_append,List.mem_singleton] at hz;rcases hz with hz|rfl;exact hI.2 z hz;assumption));exact ⟨uZ,actsZ,shZ,qZ,xZ,fun R hg=>zaa (wkl [sb h0,sd [(6,[skx (True∧(True∧True∧True∧True∧True∧True∧True∧True∧True∧True∧acts.length=(List.map Ac.cells acts).length∧True)∧(True∧True∧True)∧(True∧True∧True)∧True) [0] c1]),(8,[sqx (AllLen [[iv r1.kind,sv r1.table,AV.sl (List.map (fun r=>[AV.sl (zab r)]) r1.rows),AV.sl (zae r1.query),AV.sl (List.map Se.cells r1.sets),AV.sl (zab r1.wh),sv r1.text]] 7∧acts.length=(List.map Ac.cells acts).length∧(((List.map Ac.cells acts).length+[[iv r1.kind,sv r1.table,AV.sl (List.map (fun r=>[AV.sl (zab r)]) r1.rows),AV.sl (zae r1.query),AV.sl (List.map Se.cells r1.sets),AV.sl (zab r1.wh),sv r1.text]].length) * 136).le 140737488355328)])],si hw] [0,6,7,8,9,10] 6 kr (zav (show ([(0,AV.p 0 0),(6,AV.p 1 0),(7,AV.p 2 0),(8,AV.p 3 0),(9,AV.p 4 0),(10,iv (k:Int))]:TS)=[(0,AV.p 0 0),(6,AV.p 1 0),(7,AV.p 2 0),(8,AV.p 3 0),(9,AV.p 4 0),(10,iv (k:Int))] by first|rfl|(simp only [List.map_append,List.map_cons,List.map_nil,List.length_append,List.length_map,List.length_cons,List.length_nil];rfl)) (show ([Blk.box [AV.sl (List.map (fun n=>[iv n]) t1.l),iv (t1.pos:Int)],Blk.box [sv (ByteArray.mk #[]),sv (ByteArray.mk #[]),AV.bl false,iv 0,AV.nl,AV.bl false,AV.nl,AV.nl,AV.nl,AV.nl,AV.nl],Blk.box [sv nm,sv tb,bv bf,iv ev,AV.sl (List.map (fun s=>[sv s]) off),bv ea,AV.sl (List.map (fun s=>[sv s]) pc),AV.sl (List.map (fun s=>[sv s]) fo),AV.nl,AV.sl (zab wh),AV.own 5 (List.map Ac.cells acts++[[iv r1.kind,sv r1.table,AV.sl (List.map (fun r=>[AV.sl (zab r)]) r1.rows),AV.sl (zae r1.query),AV.sl (List.map Se.cells r1.sets),AV.sl (zab r1.wh),sv r1.text]]).length],Blk.box [sv s.name,AV.sl (List.map Col.cells s.cols)],Blk.box [AV.sl (List.map Fr.cells p.frs),AV.sl (List.map Sch.cells p.tbs)],Blk.row Ty.Action (List.map Ac.cells acts++[[iv r1.kind,sv r1.table,AV.sl (List.map (fun r=>[AV.sl (zab r)]) r1.rows),AV.sl (zae r1.query),AV.sl (List.map Se.cells r1.sets),AV.sl (zab r1.wh),sv r1.text]]) true]:Heap)=[Blk.box t1.cells,Blk.box [sv (ByteArray.mk #[]),sv (ByteArray.mk #[]),AV.bl false,iv 0,AV.nl,AV.bl false,AV.nl,AV.nl,AV.nl,AV.nl,AV.nl],Blk.box [sv nm,sv tb,bv bf,iv ev,AV.sl (List.map (fun s=>[sv s]) off),bv ea,AV.sl (List.map (fun s=>[sv s]) pc),AV.sl (List.map (fun s=>[sv s]) fo),AV.nl,AV.sl (zab wh),AV.own 5 (acts++[r1]).length],Blk.box [sv s.name,AV.sl (List.map Col.cells s.cols)],Blk.box [AV.sl (List.map Fr.cells p.frs),AV.sl (List.map Sch.cells p.tbs)],Blk.row Ty.Action (List.map Ac.cells (acts++[r1])) true] by first|rfl|(simp only [List.map_append,List.map_cons,List.map_nil,List.length_append,List.length_map,List.length_cons,List.length_nil];rfl)) (gZ R hg)))⟩
structure TrigQ (nm tb:Str) (pc fo:List Str) (r:Tg):Prop where
 gen:GenOk r
 name:r.name=nm
 table:r.table=tb
 prec:r.prec=pc
 foll:r.foll=fo
theorem trigQ {nm tb:Str} {bf:Bool} {ev:Int} {off:List Str} {ea:Bool} {pc fo:List Str} {rk:List Rk} {wh:List X} {acts:List Ac} (h1:Few off) (h2:Few pc) (h3:Few fo) (h4:Few rk) (h5:Few wh) (h6:∀ x∈wh,XOk 6 x) (h7:Few acts) (h8:∀ a∈acts,ActQ a):TrigQ nm tb pc fo (Tg.mk nm tb bf ev off ea pc fo rk wh acts) :=
 ⟨⟨⟨h1,h2,h3,h4,h5,h6,h7,fun a ha=>(h8 a ha).1⟩,fun a ha=>(h8 a ha).2⟩,rfl,rfl,rfl,rfl⟩
theorem few3 {α:Type} {l:List α} {p:Prop} (h:l.length+0≤3∧p):Few l:=by simp only [Few];omega
theorem zas (t0:Tp) (nm tb:Str) (bf:Bool) (ev:Int) (off:List Str) (ea:Bool) (pc fo:List Str) (wh:List X) (s:Sch) (p:Pl) (k:Nat) (u:Tp) (hp:p.OkN 4) (hs:Few s.cols) (hpos:Pos (((s.cols.map Col.cells).length:Nat):Int)) (hsh:zad zau) (hnm:V.Good ⟨3,0,nm⟩) (hk:k≤3) (w1:Few off) (w2:Few pc) (w3:Few fo) (w4:Few wh) (w5:∀ x∈wh,XOk 6 x):∃ (r:Tg) (t':Tp),TrigQ nm tb pc fo r∧Good E0 B.world_Tape_Trigger [.box t0.cells] (L_ta t0 nm tb bf ev off ea pc fo wh s p k u [] false) (Shut 1 fun rZ hZ=>rZ=(r.av)∧hZ=[.box t'.cells]):=by
  obtain ⟨u1,acts1,sh1,q1,q1_1,g1⟩:=zfd t0 nm tb bf ev off ea pc fo wh s p zgO zgO zgO zgO zgO k u ([]) false zgO zgO
  obtain ⟨kka2,kkb2,ra2,a2,t2,q2,c2⟩:=(zf8 u1 nm tb bf ev off ea pc fo wh acts1 sh1)
  cases kka2
  ·let p_1:List St:=[sqx (True∧True∧True∧True∧True∧True∧True∧True∧True∧True∧acts1.length=(List.map Ac.cells acts1).length∧True),sb (rfl:false=false),sl [0,2,5] c2]
   cases kkb2
   ·exact ⟨Tg.mk nm tb bf ev off ea pc fo [] wh acts1,t2,zlm,wkl [] [0,6,7,8,9,10] 6 kr (g1 _ (zaa (wkr p_1 kr)))⟩
   ·exact ⟨Tg.mk nm tb bf ev off ea pc fo [] wh acts1,t2,zlm,wkl [] [0,6,7,8,9,10] 6 kr (g1 _ (zaa (wkr p_1 kr)))⟩
  ·cases kkb2
   ·exact ⟨Tg.mk nm tb bf ev off ea pc fo [ra2] wh acts1,t2,zlm,wkl [] [0,6,7,8,9,10] 6 kr (g1 _ (zaa (wkrS (y:=AV.agg [sv nm,sv tb,bv bf,iv ev,AV.sl (List.map (fun s=>[sv s]) off),bv ea,AV.sl (List.map (fun s=>[sv s]) pc),AV.sl (List.map (fun s=>[sv s]) fo),AV.sl [[sv ra2.table,sv ra2.col,iv ra2.low,iv ra2.high]],AV.sl (zab wh),AV.sl (List.map Ac.cells acts1)]) (H:=[Blk.box [AV.sl (List.map (fun n=>[iv n]) t2.l),iv (t2.pos:Int)]]) [sqx (True∧True∧True∧True∧True∧True∧True∧True∧True∧True∧acts1.length=(List.map Ac.cells acts1).length∧True),sb (rfl:false=false),sl [0,2,5] c2] kr ⟨by first|rfl|(simp;done)|(simp [X.cells,Qy.cells,V.cells,Col.cells,Rw.cells,Tb.cells,Fr.cells,Sch.cells,Tp.cells,Pl.cells,xCol,xLit,xBin,xNeg,Im.cells,Lk.cells,Ac.cells,Se.cells,Tg.cells,Rk.cells];done),by first|rfl|(simp;done)|(simp [X.cells,Qy.cells,V.cells,Col.cells,Rw.cells,Tb.cells,Fr.cells,Sch.cells,Tp.cells,Pl.cells,xCol,xLit,xBin,xNeg,Im.cells,Lk.cells,Ac.cells,Se.cells,Tg.cells,Rk.cells];done)⟩)))⟩
   ·exact ⟨Tg.mk nm tb bf ev off false pc fo [ra2] [] [a2],t2,zlm,wkl [] [0,6,7,8,9,10] 6 kr (g1 _ (zaa (wkrS (y:=AV.agg [sv nm,sv tb,bv bf,iv ev,AV.sl (List.map (fun s=>[sv s]) off),bv false,AV.sl (List.map (fun s=>[sv s]) pc),AV.sl (List.map (fun s=>[sv s]) fo),AV.sl [[sv ra2.table,sv ra2.col,iv ra2.low,iv ra2.high]],AV.sl [],AV.sl [[iv a2.kind,sv a2.table,AV.sl (List.map (fun r=>[AV.sl (zab r)]) a2.rows),AV.sl (zae a2.query),AV.sl (List.map Se.cells a2.sets),AV.sl (zab a2.wh),sv a2.text]]]) (H:=[Blk.box [AV.sl (List.map (fun n=>[iv n]) t2.l),iv (t2.pos:Int)]]) [sb (rfl:false=false),sl [0,2,5] c2] kr ⟨by first|rfl|(simp;done)|(simp [X.cells,Qy.cells,V.cells,Col.cells,Rw.cells,Tb.cells,Fr.cells,Sch.cells,Tp.cells,Pl.cells,xCol,xLit,xBin,xNeg,Im.cells,Lk.cells,Ac.cells,Se.cells,Tg.cells,Rk.cells];done),by first|rfl|(simp;done)|(simp [X.cells,Qy.cells,V.cells,Col.cells,Rw.cells,Tb.cells,Fr.cells,Sch.cells,Tp.cells,Pl.cells,xCol,xLit,xBin,xNeg,Im.cells,Lk.cells,Ac.cells,Se.cells,Tg.cells,Rk.cells];done)⟩)))⟩
end Go.AM
namespace Go.AM
set_option maxRecDepth 100000
set_option maxHeartbeats 1000000
set_option linter.unusedSimpArgs false
set_option linter.unusedVariables false
theorem zag {p:Prop} (h:p:=by first|assumption|omega|exact (zcB (by assumption)).few|exact zpb (by assumption)|exact Pl.OkN.less (Pl.OkN.less (by assumption))|exact all0|exact all1 (XOk.le (n:=4) (by assumption) (by omega))|(simp only [List.length_map] at *;omega)|(simp [Few];done)):p:=h
theorem zcw {p:Prop} (h:p:=by first|exact trX (by assumption) (by assumption) no0 no0|exact trX (by assumption) (by assumption) (And.right (by assumption)) no0|exact trX (by assumption) (by assumption) no0 (And.right (by assumption))):p:=h
structure TrX (name:Str) (l:List Tg) (r:Tg):Prop where
 gen:GenOk r
 name:r.name=name
 table:TabN r.table
 prec:∀ z∈r.prec,z∈l.map Tg.name
 foll:∀ z∈r.foll,z∈l.map Tg.name
theorem trX {nm tb:Str} {pc fo:List Str} {l:List Tg} {r:Tg} (h:TrigQ nm tb pc fo r) (ht:TabN tb) (h1:∀ z∈pc,z∈l.map Tg.name) (h2:∀ z∈fo,z∈l.map Tg.name):TrX nm l r :=
 ⟨h.gen,h.name,by rw [h.table];exact ht,by rw [h.prec];exact h1,by rw [h.foll];exact h2⟩
theorem no0 {l:List Tg}:∀ z∈([]:List Str),z∈l.map Tg.name:=fun _ h=>by cases h
theorem ziA (t:Tp) (name:Str) (l:List Tg) (hl:zad l) (hsh:zad zau) (hnm:V.Good ⟨3,0,name⟩):∃ (r:Tg) (t':Tp),TrX name l r∧zac E0 S.world_Tape_Trigger [.p 0 0,sv name,.sl (l.map Tg.cells)] [.box t.cells] r.av [.box t'.cells]:=by
 obtain ⟨w1,t1,q1,c1⟩:=(zca t)
 obtain ⟨a2,t2,q2,c2⟩:=(zaf t1 3 zag)
 obtain ⟨b3,t3,c3⟩:=(zaj t2 2 zag)
 obtain ⟨b4,t4,c4⟩:=(zaj t3 4 zag)
 let p_1:List St:=[sl [0] c1,sl [0] c2,si (zaY (t:=1+(a2:Int)) (n:=1+a2) (by omega) (by omega)),sl [0] c3,sl [0] c4,sc (zbE w1 zag)]
 cases h5:(↑(1+a2):Int)==2
 ·obtain ⟨a6,t6,q6,c6⟩:=(zaf t4 3 zag)
  cases h7:(a6:Int)==0
  ·cases h8:(a6:Int)==1
   ·obtain ⟨p9,q9,c9⟩:=(zb5 (Tg.mk name w1 b4 (↑(1+a2):Int) [] b3 [] [] [] [] []) zag)
    obtain ⟨b10,t10,c10⟩:=(zaj t6 3 zag)
    let p_2:List St:=p_1++[sb h5,sl [0] c6,sb h7,sb h8,sc c9,sl [0] c10]
    rcases (Bool.eq_false_or_eq_true b10).symm with h11|h11
    ·obtain ⟨a12,t12,q12,c12⟩:=(zaf t10 2 zag)
     obtain ⟨r13_0,r13_1,p13_0,g13⟩:=zas t name w1 b4 ((↑(1+a2):Int)) ([]) b3 ([]) ([]) ([]) (zak w1) p9 (1+a12) t12 zag zag zag zag zag zag zag zag zag zag zag
     exact ⟨r13_0,r13_1,zcw,wkcN At.world_Tape_Trigger (p_2++[sb h11,sl [0] c12,si (zaY (t:=1+(a12:Int)) (n:=1+a12) (by omega) (by omega))]) [0,6,7,8,9,10] 5 [(.nl 2 4,5),(.nl 2 6,5),(.nl 2 7,5),(.nl 2 9,5),(.ob 2 10 Ty.Action,6)] kr (g13)⟩
    ·obtain ⟨e14,t14,q14,c14⟩:=(zaE t10 p9 2 zag)
     obtain ⟨a15,t15,q15,c15⟩:=(zaf t14 2 zag)
     obtain ⟨r16_0,r16_1,p16_0,g16⟩:=zas t name w1 b4 ((↑(1+a2):Int)) ([]) b3 ([]) ([]) ([e14]) (zak w1) p9 (1+a15) t15 zag zag zag zag zag zag zag zag zag zag zag
     exact ⟨r16_0,r16_1,zcw,wkcN At.world_Tape_Trigger (p_2++[sb h11,sl [0] c14,sl [0] c15,si (zaY (t:=1+(a15:Int)) (n:=1+a15) (by omega) (by omega))]) [0,6,7,8,9,10] 5 [(.nl 2 4,5),(.nl 2 6,5),(.nl 2 7,5),(.ob 2 10 Ty.Action,6)] kr (zav (show ([(0,AV.p 0 0),(6,AV.p 1 0),(7,AV.p 2 0),(8,AV.p 3 0),(9,AV.p 4 0),(10,iv (↑(1+a15):Int))]:TS)=[(0,AV.p 0 0),(6,AV.p 1 0),(7,AV.p 2 0),(8,AV.p 3 0),(9,AV.p 4 0),(10,iv (↑(1+a15):Int))] by first|rfl|(simp;done)|(simp [X.cells,Qy.cells,V.cells,Col.cells,Rw.cells,Tb.cells,Fr.cells,Sch.cells,Tp.cells,Pl.cells,xCol,xLit,xBin,xNeg,Im.cells,Lk.cells,Ac.cells,Se.cells,Tg.cells,Rk.cells];done)) (show ([Blk.box [AV.sl (List.map (fun n=>[iv n]) t15.l),iv (t15.pos:Int)],Blk.box [sv (ByteArray.mk #[]),sv (ByteArray.mk #[]),AV.bl false,iv 0,AV.nl,AV.bl false,AV.nl,AV.nl,AV.nl,AV.nl,AV.nl],Blk.box [sv name,sv w1,bv b4,iv (↑(1+a2):Int),AV.sl [],bv b3,AV.sl [],AV.sl [],AV.nl,AV.sl [[iv e14.kind,iv e14.op,bv e14.not,iv e14.val.kind,iv e14.val.int,sv e14.val.text,sv e14.table,sv e14.name,AV.sl (zab e14.args),AV.sl (zae e14.sub)]],AV.own 5 0],Blk.box [sv (zak w1).name,AV.sl (List.map Col.cells (zak w1).cols)],Blk.box [AV.sl (List.map Fr.cells p9.frs),AV.sl (List.map Sch.cells p9.tbs)],Blk.row Ty.Action [] false]:Heap)=[Blk.box t15.cells,Blk.box [sv (ByteArray.mk #[]),sv (ByteArray.mk #[]),AV.bl false,iv 0,AV.nl,AV.bl false,AV.nl,AV.nl,AV.nl,AV.nl,AV.nl],Blk.box [sv name,sv w1,bv b4,iv (↑(1+a2):Int),AV.sl [],bv b3,AV.sl [],AV.sl [],AV.nl,AV.sl (zab [e14]),AV.own 5 0],Blk.box [sv (zak w1).name,AV.sl (List.map Col.cells (zak w1).cols)],Blk.box [AV.sl (List.map Fr.cells p9.frs),AV.sl (List.map Sch.cells p9.tbs)],Blk.row Ty.Action [] false] by first|rfl|(simp;done)|(simp [X.cells,Qy.cells,V.cells,Col.cells,Rw.cells,Tb.cells,Fr.cells,Sch.cells,Tp.cells,Pl.cells,xCol,xLit,xBin,xNeg,Im.cells,Lk.cells,Ac.cells,Se.cells,Tg.cells,Rk.cells];done)) g16)⟩
   ·obtain ⟨r17,t17,q17,c17⟩:=(zcb t6 l zag)
    obtain ⟨p18,q18,c18⟩:=(zb5 (Tg.mk name w1 b4 (↑(1+a2):Int) [] b3 [] r17 [] [] []) zag)
    obtain ⟨b19,t19,c19⟩:=(zaj t17 3 zag)
    let p_3:List St:=p_1++[sb h5,sl [0] c6,sb h7,sb h8,sl [0] c17,sc c18,sl [0] c19]
    rcases (Bool.eq_false_or_eq_true b19).symm with h20|h20
    ·obtain ⟨a21,t21,q21,c21⟩:=(zaf t19 2 zag)
     obtain ⟨r22_0,r22_1,p22_0,g22⟩:=zas t name w1 b4 ((↑(1+a2):Int)) ([]) b3 ([]) r17 ([]) (zak w1) p18 (1+a21) t21 zag zag zag zag zag zag zag zag zag zag zag
     exact ⟨r22_0,r22_1,zcw,wkcN At.world_Tape_Trigger (p_3++[sb h20,sl [0] c21,si (zaY (t:=1+(a21:Int)) (n:=1+a21) (by omega) (by omega))]) [0,6,7,8,9,10] 5 [(.nl 2 4,5),(.nl 2 6,5),(.nl 2 9,5),(.ob 2 10 Ty.Action,6)] kr (g22)⟩
    ·obtain ⟨e23,t23,q23,c23⟩:=(zaE t19 p18 2 zag)
     obtain ⟨a24,t24,q24,c24⟩:=(zaf t23 2 zag)
     obtain ⟨r25_0,r25_1,p25_0,g25⟩:=zas t name w1 b4 ((↑(1+a2):Int)) ([]) b3 ([]) r17 ([e23]) (zak w1) p18 (1+a24) t24 zag zag zag zag zag zag zag zag zag zag zag
     exact ⟨r25_0,r25_1,zcw,wkcN At.world_Tape_Trigger (p_3++[sb h20,sl [0] c23,sl [0] c24,si (zaY (t:=1+(a24:Int)) (n:=1+a24) (by omega) (by omega))]) [0,6,7,8,9,10] 5 [(.nl 2 4,5),(.nl 2 6,5),(.ob 2 10 Ty.Action,6)] kr (zav (show ([(0,AV.p 0 0),(6,AV.p 1 0),(7,AV.p 2 0),(8,AV.p 3 0),(9,AV.p 4 0),(10,iv (↑(1+a24):Int))]:TS)=[(0,AV.p 0 0),(6,AV.p 1 0),(7,AV.p 2 0),(8,AV.p 3 0),(9,AV.p 4 0),(10,iv (↑(1+a24):Int))] by first|rfl|(simp;done)|(simp [X.cells,Qy.cells,V.cells,Col.cells,Rw.cells,Tb.cells,Fr.cells,Sch.cells,Tp.cells,Pl.cells,xCol,xLit,xBin,xNeg,Im.cells,Lk.cells,Ac.cells,Se.cells,Tg.cells,Rk.cells];done)) (show ([Blk.box [AV.sl (List.map (fun n=>[iv n]) t24.l),iv (t24.pos:Int)],Blk.box [sv (ByteArray.mk #[]),sv (ByteArray.mk #[]),AV.bl false,iv 0,AV.nl,AV.bl false,AV.nl,AV.nl,AV.nl,AV.nl,AV.nl],Blk.box [sv name,sv w1,bv b4,iv (↑(1+a2):Int),AV.sl [],bv b3,AV.sl [],AV.sl (List.map (fun s=>[sv s]) r17),AV.nl,AV.sl [[iv e23.kind,iv e23.op,bv e23.not,iv e23.val.kind,iv e23.val.int,sv e23.val.text,sv e23.table,sv e23.name,AV.sl (zab e23.args),AV.sl (zae e23.sub)]],AV.own 5 0],Blk.box [sv (zak w1).name,AV.sl (List.map Col.cells (zak w1).cols)],Blk.box [AV.sl (List.map Fr.cells p18.frs),AV.sl (List.map Sch.cells p18.tbs)],Blk.row Ty.Action [] false]:Heap)=[Blk.box t24.cells,Blk.box [sv (ByteArray.mk #[]),sv (ByteArray.mk #[]),AV.bl false,iv 0,AV.nl,AV.bl false,AV.nl,AV.nl,AV.nl,AV.nl,AV.nl],Blk.box [sv name,sv w1,bv b4,iv (↑(1+a2):Int),AV.sl [],bv b3,AV.sl [],AV.sl (List.map (fun s=>[sv s]) r17),AV.nl,AV.sl (zab [e23]),AV.own 5 0],Blk.box [sv (zak w1).name,AV.sl (List.map Col.cells (zak w1).cols)],Blk.box [AV.sl (List.map Fr.cells p18.frs),AV.sl (List.map Sch.cells p18.tbs)],Blk.row Ty.Action [] false] by first|rfl|(simp;done)|(simp [X.cells,Qy.cells,V.cells,Col.cells,Rw.cells,Tb.cells,Fr.cells,Sch.cells,Tp.cells,Pl.cells,xCol,xLit,xBin,xNeg,Im.cells,Lk.cells,Ac.cells,Se.cells,Tg.cells,Rk.cells];done)) g25)⟩
  ·obtain ⟨r26,t26,q26,c26⟩:=(zcb t6 l zag)
   obtain ⟨p27,q27,c27⟩:=(zb5 (Tg.mk name w1 b4 (↑(1+a2):Int) [] b3 r26 [] [] [] []) zag)
   obtain ⟨b28,t28,c28⟩:=(zaj t26 3 zag)
   let p_4:List St:=p_1++[sb h5,sl [0] c6,sb h7,sl [0] c26,sc c27,sl [0] c28]
   rcases (Bool.eq_false_or_eq_true b28).symm with h29|h29
   ·obtain ⟨a30,t30,q30,c30⟩:=(zaf t28 2 zag)
    obtain ⟨r31_0,r31_1,p31_0,g31⟩:=zas t name w1 b4 ((↑(1+a2):Int)) ([]) b3 r26 ([]) ([]) (zak w1) p27 (1+a30) t30 zag zag zag zag zag zag zag zag zag zag zag
    exact ⟨r31_0,r31_1,zcw,wkcN At.world_Tape_Trigger (p_4++[sb h29,sl [0] c30,si (zaY (t:=1+(a30:Int)) (n:=1+a30) (by omega) (by omega))]) [0,6,7,8,9,10] 5 [(.nl 2 4,5),(.nl 2 7,5),(.nl 2 9,5),(.ob 2 10 Ty.Action,6)] kr (g31)⟩
   ·obtain ⟨e32,t32,q32,c32⟩:=(zaE t28 p27 2 zag)
    obtain ⟨a33,t33,q33,c33⟩:=(zaf t32 2 zag)
    obtain ⟨r34_0,r34_1,p34_0,g34⟩:=zas t name w1 b4 ((↑(1+a2):Int)) ([]) b3 r26 ([]) ([e32]) (zak w1) p27 (1+a33) t33 zag zag zag zag zag zag zag zag zag zag zag
    exact ⟨r34_0,r34_1,zcw,wkcN At.world_Tape_Trigger (p_4++[sb h29,sl [0] c32,sl [0] c33,si (zaY (t:=1+(a33:Int)) (n:=1+a33) (by omega) (by omega))]) [0,6,7,8,9,10] 5 [(.nl 2 4,5),(.nl 2 7,5),(.ob 2 10 Ty.Action,6)] kr (zav (show ([(0,AV.p 0 0),(6,AV.p 1 0),(7,AV.p 2 0),(8,AV.p 3 0),(9,AV.p 4 0),(10,iv (↑(1+a33):Int))]:TS)=[(0,AV.p 0 0),(6,AV.p 1 0),(7,AV.p 2 0),(8,AV.p 3 0),(9,AV.p 4 0),(10,iv (↑(1+a33):Int))] by first|rfl|(simp;done)|(simp [X.cells,Qy.cells,V.cells,Col.cells,Rw.cells,Tb.cells,Fr.cells,Sch.cells,Tp.cells,Pl.cells,xCol,xLit,xBin,xNeg,Im.cells,Lk.cells,Ac.cells,Se.cells,Tg.cells,Rk.cells];done)) (show ([Blk.box [AV.sl (List.map (fun n=>[iv n]) t33.l),iv (t33.pos:Int)],Blk.box [sv (ByteArray.mk #[]),sv (ByteArray.mk #[]),AV.bl false,iv 0,AV.nl,AV.bl false,AV.nl,AV.nl,AV.nl,AV.nl,AV.nl],Blk.box [sv name,sv w1,bv b4,iv (↑(1+a2):Int),AV.sl [],bv b3,AV.sl (List.map (fun s=>[sv s]) r26),AV.sl [],AV.nl,AV.sl [[iv e32.kind,iv e32.op,bv e32.not,iv e32.val.kind,iv e32.val.int,sv e32.val.text,sv e32.table,sv e32.name,AV.sl (zab e32.args),AV.sl (zae e32.sub)]],AV.own 5 0],Blk.box [sv (zak w1).name,AV.sl (List.map Col.cells (zak w1).cols)],Blk.box [AV.sl (List.map Fr.cells p27.frs),AV.sl (List.map Sch.cells p27.tbs)],Blk.row Ty.Action [] false]:Heap)=[Blk.box t33.cells,Blk.box [sv (ByteArray.mk #[]),sv (ByteArray.mk #[]),AV.bl false,iv 0,AV.nl,AV.bl false,AV.nl,AV.nl,AV.nl,AV.nl,AV.nl],Blk.box [sv name,sv w1,bv b4,iv (↑(1+a2):Int),AV.sl [],bv b3,AV.sl (List.map (fun s=>[sv s]) r26),AV.sl [],AV.nl,AV.sl (zab [e32]),AV.own 5 0],Blk.box [sv (zak w1).name,AV.sl (List.map Col.cells (zak w1).cols)],Blk.box [AV.sl (List.map Fr.cells p27.frs),AV.sl (List.map Sch.cells p27.tbs)],Blk.row Ty.Action [] false] by first|rfl|(simp;done)|(simp [X.cells,Qy.cells,V.cells,Col.cells,Rw.cells,Tb.cells,Fr.cells,Sch.cells,Tp.cells,Pl.cells,xCol,xLit,xBin,xNeg,Im.cells,Lk.cells,Ac.cells,Se.cells,Tg.cells,Rk.cells];done)) g34)⟩
 ·obtain ⟨b35,t35,c35⟩:=(zaj t4 2 zag)
  rcases (Bool.eq_false_or_eq_true b35).symm with h36|h36
  ·obtain ⟨a37,t37,q37,c37⟩:=(zaf t35 3 zag)
   let p_5:List St:=p_1++[sg h5,sl [0] c35,sb h36,sl [0] c37]
   cases h38:(a37:Int)==0
   ·cases h39:(a37:Int)==1
    ·obtain ⟨p40,q40,c40⟩:=(zb5 (Tg.mk name w1 b4 (↑(1+a2):Int) [] b3 [] [] [] [] []) zag)
     obtain ⟨b41,t41,c41⟩:=(zaj t37 3 zag)
     rcases (Bool.eq_false_or_eq_true b41).symm with h42|h42
     ·obtain ⟨a43,t43,q43,c43⟩:=(zaf t41 2 zag)
      obtain ⟨r44_0,r44_1,p44_0,g44⟩:=zas t name w1 b4 ((↑(1+a2):Int)) ([]) b3 ([]) ([]) ([]) (zak w1) p40 (1+a43) t43 zag zag zag zag zag zag zag zag zag zag zag
      exact ⟨r44_0,r44_1,zcw,wkcN At.world_Tape_Trigger (p_5++[sb h38,sb h39,sc c40,sl [0] c41,sb h42,sl [0] c43,si (zaY (t:=1+(a43:Int)) (n:=1+a43) (by omega) (by omega))]) [0,6,7,8,9,10] 5 [(.nl 2 4,5),(.nl 2 6,5),(.nl 2 7,5),(.nl 2 9,5),(.ob 2 10 Ty.Action,6)] kr (g44)⟩
     ·obtain ⟨e45,t45,q45,c45⟩:=(zaE t41 p40 2 zag)
      obtain ⟨a46,t46,q46,c46⟩:=(zaf t45 2 zag)
      obtain ⟨r47_0,r47_1,p47_0,g47⟩:=zas t name w1 b4 ((↑(1+a2):Int)) ([]) b3 ([]) ([]) ([e45]) (zak w1) p40 (1+a46) t46 zag zag zag zag zag zag zag zag zag zag zag
      exact ⟨r47_0,r47_1,zcw,wkcN At.world_Tape_Trigger (p_5++[sb h38,sb h39,sc c40,sl [0] c41,sb h42,sl [0] c45,sl [0] c46,si (zaY (t:=1+(a46:Int)) (n:=1+a46) (by omega) (by omega))]) [0,6,7,8,9,10] 5 [(.nl 2 4,5),(.nl 2 6,5),(.nl 2 7,5),(.ob 2 10 Ty.Action,6)] kr (zav (show ([(0,AV.p 0 0),(6,AV.p 1 0),(7,AV.p 2 0),(8,AV.p 3 0),(9,AV.p 4 0),(10,iv (↑(1+a46):Int))]:TS)=[(0,AV.p 0 0),(6,AV.p 1 0),(7,AV.p 2 0),(8,AV.p 3 0),(9,AV.p 4 0),(10,iv (↑(1+a46):Int))] by first|rfl|(simp;done)|(simp [X.cells,Qy.cells,V.cells,Col.cells,Rw.cells,Tb.cells,Fr.cells,Sch.cells,Tp.cells,Pl.cells,xCol,xLit,xBin,xNeg,Im.cells,Lk.cells,Ac.cells,Se.cells,Tg.cells,Rk.cells];done)) (show ([Blk.box [AV.sl (List.map (fun n=>[iv n]) t46.l),iv (t46.pos:Int)],Blk.box [sv (ByteArray.mk #[]),sv (ByteArray.mk #[]),AV.bl false,iv 0,AV.nl,AV.bl false,AV.nl,AV.nl,AV.nl,AV.nl,AV.nl],Blk.box [sv name,sv w1,bv b4,iv (↑(1+a2):Int),AV.sl [],bv b3,AV.sl [],AV.sl [],AV.nl,AV.sl [[iv e45.kind,iv e45.op,bv e45.not,iv e45.val.kind,iv e45.val.int,sv e45.val.text,sv e45.table,sv e45.name,AV.sl (zab e45.args),AV.sl (zae e45.sub)]],AV.own 5 0],Blk.box [sv (zak w1).name,AV.sl (List.map Col.cells (zak w1).cols)],Blk.box [AV.sl (List.map Fr.cells p40.frs),AV.sl (List.map Sch.cells p40.tbs)],Blk.row Ty.Action [] false]:Heap)=[Blk.box t46.cells,Blk.box [sv (ByteArray.mk #[]),sv (ByteArray.mk #[]),AV.bl false,iv 0,AV.nl,AV.bl false,AV.nl,AV.nl,AV.nl,AV.nl,AV.nl],Blk.box [sv name,sv w1,bv b4,iv (↑(1+a2):Int),AV.sl [],bv b3,AV.sl [],AV.sl [],AV.nl,AV.sl (zab [e45]),AV.own 5 0],Blk.box [sv (zak w1).name,AV.sl (List.map Col.cells (zak w1).cols)],Blk.box [AV.sl (List.map Fr.cells p40.frs),AV.sl (List.map Sch.cells p40.tbs)],Blk.row Ty.Action [] false] by first|rfl|(simp;done)|(simp [X.cells,Qy.cells,V.cells,Col.cells,Rw.cells,Tb.cells,Fr.cells,Sch.cells,Tp.cells,Pl.cells,xCol,xLit,xBin,xNeg,Im.cells,Lk.cells,Ac.cells,Se.cells,Tg.cells,Rk.cells];done)) g47)⟩
    ·obtain ⟨r48,t48,q48,c48⟩:=(zcb t37 l zag)
     obtain ⟨p49,q49,c49⟩:=(zb5 (Tg.mk name w1 b4 (↑(1+a2):Int) [] b3 [] r48 [] [] []) zag)
     obtain ⟨b50,t50,c50⟩:=(zaj t48 3 zag)
     let p_6:List St:=p_5++[sb h38,sb h39,sl [0] c48,sc c49,sl [0] c50]
     rcases (Bool.eq_false_or_eq_true b50).symm with h51|h51
     ·obtain ⟨a52,t52,q52,c52⟩:=(zaf t50 2 zag)
      obtain ⟨r53_0,r53_1,p53_0,g53⟩:=zas t name w1 b4 ((↑(1+a2):Int)) ([]) b3 ([]) r48 ([]) (zak w1) p49 (1+a52) t52 zag zag zag zag zag zag zag zag zag zag zag
      exact ⟨r53_0,r53_1,zcw,wkcN At.world_Tape_Trigger (p_6++[sb h51,sl [0] c52,si (zaY (t:=1+(a52:Int)) (n:=1+a52) (by omega) (by omega))]) [0,6,7,8,9,10] 5 [(.nl 2 4,5),(.nl 2 6,5),(.nl 2 9,5),(.ob 2 10 Ty.Action,6)] kr (g53)⟩
     ·obtain ⟨e54,t54,q54,c54⟩:=(zaE t50 p49 2 zag)
      obtain ⟨a55,t55,q55,c55⟩:=(zaf t54 2 zag)
      obtain ⟨r56_0,r56_1,p56_0,g56⟩:=zas t name w1 b4 ((↑(1+a2):Int)) ([]) b3 ([]) r48 ([e54]) (zak w1) p49 (1+a55) t55 zag zag zag zag zag zag zag zag zag zag zag
      exact ⟨r56_0,r56_1,zcw,wkcN At.world_Tape_Trigger (p_6++[sb h51,sl [0] c54,sl [0] c55,si (zaY (t:=1+(a55:Int)) (n:=1+a55) (by omega) (by omega))]) [0,6,7,8,9,10] 5 [(.nl 2 4,5),(.nl 2 6,5),(.ob 2 10 Ty.Action,6)] kr (zav (show ([(0,AV.p 0 0),(6,AV.p 1 0),(7,AV.p 2 0),(8,AV.p 3 0),(9,AV.p 4 0),(10,iv (↑(1+a55):Int))]:TS)=[(0,AV.p 0 0),(6,AV.p 1 0),(7,AV.p 2 0),(8,AV.p 3 0),(9,AV.p 4 0),(10,iv (↑(1+a55):Int))] by first|rfl|(simp;done)|(simp [X.cells,Qy.cells,V.cells,Col.cells,Rw.cells,Tb.cells,Fr.cells,Sch.cells,Tp.cells,Pl.cells,xCol,xLit,xBin,xNeg,Im.cells,Lk.cells,Ac.cells,Se.cells,Tg.cells,Rk.cells];done)) (show ([Blk.box [AV.sl (List.map (fun n=>[iv n]) t55.l),iv (t55.pos:Int)],Blk.box [sv (ByteArray.mk #[]),sv (ByteArray.mk #[]),AV.bl false,iv 0,AV.nl,AV.bl false,AV.nl,AV.nl,AV.nl,AV.nl,AV.nl],Blk.box [sv name,sv w1,bv b4,iv (↑(1+a2):Int),AV.sl [],bv b3,AV.sl [],AV.sl (List.map (fun s=>[sv s]) r48),AV.nl,AV.sl [[iv e54.kind,iv e54.op,bv e54.not,iv e54.val.kind,iv e54.val.int,sv e54.val.text,sv e54.table,sv e54.name,AV.sl (zab e54.args),AV.sl (zae e54.sub)]],AV.own 5 0],Blk.box [sv (zak w1).name,AV.sl (List.map Col.cells (zak w1).cols)],Blk.box [AV.sl (List.map Fr.cells p49.frs),AV.sl (List.map Sch.cells p49.tbs)],Blk.row Ty.Action [] false]:Heap)=[Blk.box t55.cells,Blk.box [sv (ByteArray.mk #[]),sv (ByteArray.mk #[]),AV.bl false,iv 0,AV.nl,AV.bl false,AV.nl,AV.nl,AV.nl,AV.nl,AV.nl],Blk.box [sv name,sv w1,bv b4,iv (↑(1+a2):Int),AV.sl [],bv b3,AV.sl [],AV.sl (List.map (fun s=>[sv s]) r48),AV.nl,AV.sl (zab [e54]),AV.own 5 0],Blk.box [sv (zak w1).name,AV.sl (List.map Col.cells (zak w1).cols)],Blk.box [AV.sl (List.map Fr.cells p49.frs),AV.sl (List.map Sch.cells p49.tbs)],Blk.row Ty.Action [] false] by first|rfl|(simp;done)|(simp [X.cells,Qy.cells,V.cells,Col.cells,Rw.cells,Tb.cells,Fr.cells,Sch.cells,Tp.cells,Pl.cells,xCol,xLit,xBin,xNeg,Im.cells,Lk.cells,Ac.cells,Se.cells,Tg.cells,Rk.cells];done)) g56)⟩
   ·obtain ⟨r57,t57,q57,c57⟩:=(zcb t37 l zag)
    obtain ⟨p58,q58,c58⟩:=(zb5 (Tg.mk name w1 b4 (↑(1+a2):Int) [] b3 r57 [] [] [] []) zag)
    obtain ⟨b59,t59,c59⟩:=(zaj t57 3 zag)
    let p_7:List St:=p_5++[sb h38,sl [0] c57,sc c58,sl [0] c59]
    rcases (Bool.eq_false_or_eq_true b59).symm with h60|h60
    ·obtain ⟨a61,t61,q61,c61⟩:=(zaf t59 2 zag)
     obtain ⟨r62_0,r62_1,p62_0,g62⟩:=zas t name w1 b4 ((↑(1+a2):Int)) ([]) b3 r57 ([]) ([]) (zak w1) p58 (1+a61) t61 zag zag zag zag zag zag zag zag zag zag zag
     exact ⟨r62_0,r62_1,zcw,wkcN At.world_Tape_Trigger (p_7++[sb h60,sl [0] c61,si (zaY (t:=1+(a61:Int)) (n:=1+a61) (by omega) (by omega))]) [0,6,7,8,9,10] 5 [(.nl 2 4,5),(.nl 2 7,5),(.nl 2 9,5),(.ob 2 10 Ty.Action,6)] kr (g62)⟩
    ·obtain ⟨e63,t63,q63,c63⟩:=(zaE t59 p58 2 zag)
     obtain ⟨a64,t64,q64,c64⟩:=(zaf t63 2 zag)
     obtain ⟨r65_0,r65_1,p65_0,g65⟩:=zas t name w1 b4 ((↑(1+a2):Int)) ([]) b3 r57 ([]) ([e63]) (zak w1) p58 (1+a64) t64 zag zag zag zag zag zag zag zag zag zag zag
     exact ⟨r65_0,r65_1,zcw,wkcN At.world_Tape_Trigger (p_7++[sb h60,sl [0] c63,sl [0] c64,si (zaY (t:=1+(a64:Int)) (n:=1+a64) (by omega) (by omega))]) [0,6,7,8,9,10] 5 [(.nl 2 4,5),(.nl 2 7,5),(.ob 2 10 Ty.Action,6)] kr (zav (show ([(0,AV.p 0 0),(6,AV.p 1 0),(7,AV.p 2 0),(8,AV.p 3 0),(9,AV.p 4 0),(10,iv (↑(1+a64):Int))]:TS)=[(0,AV.p 0 0),(6,AV.p 1 0),(7,AV.p 2 0),(8,AV.p 3 0),(9,AV.p 4 0),(10,iv (↑(1+a64):Int))] by first|rfl|(simp;done)|(simp [X.cells,Qy.cells,V.cells,Col.cells,Rw.cells,Tb.cells,Fr.cells,Sch.cells,Tp.cells,Pl.cells,xCol,xLit,xBin,xNeg,Im.cells,Lk.cells,Ac.cells,Se.cells,Tg.cells,Rk.cells];done)) (show ([Blk.box [AV.sl (List.map (fun n=>[iv n]) t64.l),iv (t64.pos:Int)],Blk.box [sv (ByteArray.mk #[]),sv (ByteArray.mk #[]),AV.bl false,iv 0,AV.nl,AV.bl false,AV.nl,AV.nl,AV.nl,AV.nl,AV.nl],Blk.box [sv name,sv w1,bv b4,iv (↑(1+a2):Int),AV.sl [],bv b3,AV.sl (List.map (fun s=>[sv s]) r57),AV.sl [],AV.nl,AV.sl [[iv e63.kind,iv e63.op,bv e63.not,iv e63.val.kind,iv e63.val.int,sv e63.val.text,sv e63.table,sv e63.name,AV.sl (zab e63.args),AV.sl (zae e63.sub)]],AV.own 5 0],Blk.box [sv (zak w1).name,AV.sl (List.map Col.cells (zak w1).cols)],Blk.box [AV.sl (List.map Fr.cells p58.frs),AV.sl (List.map Sch.cells p58.tbs)],Blk.row Ty.Action [] false]:Heap)=[Blk.box t64.cells,Blk.box [sv (ByteArray.mk #[]),sv (ByteArray.mk #[]),AV.bl false,iv 0,AV.nl,AV.bl false,AV.nl,AV.nl,AV.nl,AV.nl,AV.nl],Blk.box [sv name,sv w1,bv b4,iv (↑(1+a2):Int),AV.sl [],bv b3,AV.sl (List.map (fun s=>[sv s]) r57),AV.sl [],AV.nl,AV.sl (zab [e63]),AV.own 5 0],Blk.box [sv (zak w1).name,AV.sl (List.map Col.cells (zak w1).cols)],Blk.box [AV.sl (List.map Fr.cells p58.frs),AV.sl (List.map Sch.cells p58.tbs)],Blk.row Ty.Action [] false] by first|rfl|(simp;done)|(simp [X.cells,Qy.cells,V.cells,Col.cells,Rw.cells,Tb.cells,Fr.cells,Sch.cells,Tp.cells,Pl.cells,xCol,xLit,xBin,xNeg,Im.cells,Lk.cells,Ac.cells,Se.cells,Tg.cells,Rk.cells];done)) g65)⟩
  ·obtain ⟨a66,t66,q66,c66⟩:=(zaf t35 ((↑(List.map Col.cells (zak w1).cols).length:Int)) zag)
   obtain ⟨x67,e67⟩:=zax (l:=(zak w1).cols) (i:=a66) zag
   obtain ⟨a68,t68,q68,c68⟩:=(zaf t66 3 zag)
   let p_8:List St:=p_1++[sg h5,sl [0] c35,sb h36,sd [(6,[sl [0] c66]),(7,[se (zah Col.cells e67 rfl)])],sl [0] c68]
   cases h69:(a68:Int)==0
   ·cases h70:(a68:Int)==1
    ·obtain ⟨p71,q71,c71⟩:=(zb5 (Tg.mk name w1 b4 (↑(1+a2):Int) [x67.name] b3 [] [] [] [] []) zag)
     obtain ⟨b72,t72,c72⟩:=(zaj t68 3 zag)
     rcases (Bool.eq_false_or_eq_true b72).symm with h73|h73
     ·obtain ⟨a74,t74,q74,c74⟩:=(zaf t72 2 zag)
      obtain ⟨r75_0,r75_1,p75_0,g75⟩:=zas t name w1 b4 ((↑(1+a2):Int)) ([x67.name]) b3 ([]) ([]) ([]) (zak w1) p71 (1+a74) t74 zag zag zag zag zag zag zag zag zag zag zag
      exact ⟨r75_0,r75_1,zcw,wkcN At.world_Tape_Trigger (p_8++[sb h69,sb h70,sc c71,sl [0] c72,sb h73,sl [0] c74,si (zaY (t:=1+(a74:Int)) (n:=1+a74) (by omega) (by omega))]) [0,6,7,8,9,10] 5 [(.nl 2 6,5),(.nl 2 7,5),(.nl 2 9,5),(.ob 2 10 Ty.Action,6)] kr (g75)⟩
     ·obtain ⟨e76,t76,q76,c76⟩:=(zaE t72 p71 2 zag)
      obtain ⟨a77,t77,q77,c77⟩:=(zaf t76 2 zag)
      obtain ⟨r78_0,r78_1,p78_0,g78⟩:=zas t name w1 b4 ((↑(1+a2):Int)) ([x67.name]) b3 ([]) ([]) ([e76]) (zak w1) p71 (1+a77) t77 zag zag zag zag zag zag zag zag zag zag zag
      exact ⟨r78_0,r78_1,zcw,wkcN At.world_Tape_Trigger (p_8++[sb h69,sb h70,sc c71,sl [0] c72,sb h73,sl [0] c76,sl [0] c77,si (zaY (t:=1+(a77:Int)) (n:=1+a77) (by omega) (by omega))]) [0,6,7,8,9,10] 5 [(.nl 2 6,5),(.nl 2 7,5),(.ob 2 10 Ty.Action,6)] kr (zav (show ([(0,AV.p 0 0),(6,AV.p 1 0),(7,AV.p 2 0),(8,AV.p 3 0),(9,AV.p 4 0),(10,iv (↑(1+a77):Int))]:TS)=[(0,AV.p 0 0),(6,AV.p 1 0),(7,AV.p 2 0),(8,AV.p 3 0),(9,AV.p 4 0),(10,iv (↑(1+a77):Int))] by first|rfl|(simp;done)|(simp [X.cells,Qy.cells,V.cells,Col.cells,Rw.cells,Tb.cells,Fr.cells,Sch.cells,Tp.cells,Pl.cells,xCol,xLit,xBin,xNeg,Im.cells,Lk.cells,Ac.cells,Se.cells,Tg.cells,Rk.cells];done)) (show ([Blk.box [AV.sl (List.map (fun n=>[iv n]) t77.l),iv (t77.pos:Int)],Blk.box [sv (ByteArray.mk #[]),sv (ByteArray.mk #[]),AV.bl false,iv 0,AV.nl,AV.bl false,AV.nl,AV.nl,AV.nl,AV.nl,AV.nl],Blk.box [sv name,sv w1,bv b4,iv (↑(1+a2):Int),AV.sl [[sv x67.name]],bv b3,AV.sl [],AV.sl [],AV.nl,AV.sl [[iv e76.kind,iv e76.op,bv e76.not,iv e76.val.kind,iv e76.val.int,sv e76.val.text,sv e76.table,sv e76.name,AV.sl (zab e76.args),AV.sl (zae e76.sub)]],AV.own 5 0],Blk.box [sv (zak w1).name,AV.sl (List.map Col.cells (zak w1).cols)],Blk.box [AV.sl (List.map Fr.cells p71.frs),AV.sl (List.map Sch.cells p71.tbs)],Blk.row Ty.Action [] false]:Heap)=[Blk.box t77.cells,Blk.box [sv (ByteArray.mk #[]),sv (ByteArray.mk #[]),AV.bl false,iv 0,AV.nl,AV.bl false,AV.nl,AV.nl,AV.nl,AV.nl,AV.nl],Blk.box [sv name,sv w1,bv b4,iv (↑(1+a2):Int),AV.sl [[sv x67.name]],bv b3,AV.sl [],AV.sl [],AV.nl,AV.sl (zab [e76]),AV.own 5 0],Blk.box [sv (zak w1).name,AV.sl (List.map Col.cells (zak w1).cols)],Blk.box [AV.sl (List.map Fr.cells p71.frs),AV.sl (List.map Sch.cells p71.tbs)],Blk.row Ty.Action [] false] by first|rfl|(simp;done)|(simp [X.cells,Qy.cells,V.cells,Col.cells,Rw.cells,Tb.cells,Fr.cells,Sch.cells,Tp.cells,Pl.cells,xCol,xLit,xBin,xNeg,Im.cells,Lk.cells,Ac.cells,Se.cells,Tg.cells,Rk.cells];done)) g78)⟩
    ·obtain ⟨r79,t79,q79,c79⟩:=(zcb t68 l zag)
     obtain ⟨p80,q80,c80⟩:=(zb5 (Tg.mk name w1 b4 (↑(1+a2):Int) [x67.name] b3 [] r79 [] [] []) zag)
     obtain ⟨b81,t81,c81⟩:=(zaj t79 3 zag)
     let p_9:List St:=p_8++[sb h69,sb h70,sl [0] c79,sc c80,sl [0] c81]
     rcases (Bool.eq_false_or_eq_true b81).symm with h82|h82
     ·obtain ⟨a83,t83,q83,c83⟩:=(zaf t81 2 zag)
      obtain ⟨r84_0,r84_1,p84_0,g84⟩:=zas t name w1 b4 ((↑(1+a2):Int)) ([x67.name]) b3 ([]) r79 ([]) (zak w1) p80 (1+a83) t83 zag zag zag zag zag zag zag zag zag zag zag
      exact ⟨r84_0,r84_1,zcw,wkcN At.world_Tape_Trigger (p_9++[sb h82,sl [0] c83,si (zaY (t:=1+(a83:Int)) (n:=1+a83) (by omega) (by omega))]) [0,6,7,8,9,10] 5 [(.nl 2 6,5),(.nl 2 9,5),(.ob 2 10 Ty.Action,6)] kr (g84)⟩
     ·obtain ⟨e85,t85,q85,c85⟩:=(zaE t81 p80 2 zag)
      obtain ⟨a86,t86,q86,c86⟩:=(zaf t85 2 zag)
      obtain ⟨r87_0,r87_1,p87_0,g87⟩:=zas t name w1 b4 ((↑(1+a2):Int)) ([x67.name]) b3 ([]) r79 ([e85]) (zak w1) p80 (1+a86) t86 zag zag zag zag zag zag zag zag zag zag zag
      exact ⟨r87_0,r87_1,zcw,wkcN At.world_Tape_Trigger (p_9++[sb h82,sl [0] c85,sl [0] c86,si (zaY (t:=1+(a86:Int)) (n:=1+a86) (by omega) (by omega))]) [0,6,7,8,9,10] 5 [(.nl 2 6,5),(.ob 2 10 Ty.Action,6)] kr (zav (show ([(0,AV.p 0 0),(6,AV.p 1 0),(7,AV.p 2 0),(8,AV.p 3 0),(9,AV.p 4 0),(10,iv (↑(1+a86):Int))]:TS)=[(0,AV.p 0 0),(6,AV.p 1 0),(7,AV.p 2 0),(8,AV.p 3 0),(9,AV.p 4 0),(10,iv (↑(1+a86):Int))] by first|rfl|(simp;done)|(simp [X.cells,Qy.cells,V.cells,Col.cells,Rw.cells,Tb.cells,Fr.cells,Sch.cells,Tp.cells,Pl.cells,xCol,xLit,xBin,xNeg,Im.cells,Lk.cells,Ac.cells,Se.cells,Tg.cells,Rk.cells];done)) (show ([Blk.box [AV.sl (List.map (fun n=>[iv n]) t86.l),iv (t86.pos:Int)],Blk.box [sv (ByteArray.mk #[]),sv (ByteArray.mk #[]),AV.bl false,iv 0,AV.nl,AV.bl false,AV.nl,AV.nl,AV.nl,AV.nl,AV.nl],Blk.box [sv name,sv w1,bv b4,iv (↑(1+a2):Int),AV.sl [[sv x67.name]],bv b3,AV.sl [],AV.sl (List.map (fun s=>[sv s]) r79),AV.nl,AV.sl [[iv e85.kind,iv e85.op,bv e85.not,iv e85.val.kind,iv e85.val.int,sv e85.val.text,sv e85.table,sv e85.name,AV.sl (zab e85.args),AV.sl (zae e85.sub)]],AV.own 5 0],Blk.box [sv (zak w1).name,AV.sl (List.map Col.cells (zak w1).cols)],Blk.box [AV.sl (List.map Fr.cells p80.frs),AV.sl (List.map Sch.cells p80.tbs)],Blk.row Ty.Action [] false]:Heap)=[Blk.box t86.cells,Blk.box [sv (ByteArray.mk #[]),sv (ByteArray.mk #[]),AV.bl false,iv 0,AV.nl,AV.bl false,AV.nl,AV.nl,AV.nl,AV.nl,AV.nl],Blk.box [sv name,sv w1,bv b4,iv (↑(1+a2):Int),AV.sl [[sv x67.name]],bv b3,AV.sl [],AV.sl (List.map (fun s=>[sv s]) r79),AV.nl,AV.sl (zab [e85]),AV.own 5 0],Blk.box [sv (zak w1).name,AV.sl (List.map Col.cells (zak w1).cols)],Blk.box [AV.sl (List.map Fr.cells p80.frs),AV.sl (List.map Sch.cells p80.tbs)],Blk.row Ty.Action [] false] by first|rfl|(simp;done)|(simp [X.cells,Qy.cells,V.cells,Col.cells,Rw.cells,Tb.cells,Fr.cells,Sch.cells,Tp.cells,Pl.cells,xCol,xLit,xBin,xNeg,Im.cells,Lk.cells,Ac.cells,Se.cells,Tg.cells,Rk.cells];done)) g87)⟩
   ·obtain ⟨r88,t88,q88,c88⟩:=(zcb t68 l zag)
    obtain ⟨p89,q89,c89⟩:=(zb5 (Tg.mk name w1 b4 (↑(1+a2):Int) [x67.name] b3 r88 [] [] [] []) zag)
    obtain ⟨b90,t90,c90⟩:=(zaj t88 3 zag)
    let p_10:List St:=p_8++[sb h69,sl [0] c88,sc c89,sl [0] c90]
    rcases (Bool.eq_false_or_eq_true b90).symm with h91|h91
    ·obtain ⟨a92,t92,q92,c92⟩:=(zaf t90 2 zag)
     obtain ⟨r93_0,r93_1,p93_0,g93⟩:=zas t name w1 b4 ((↑(1+a2):Int)) ([x67.name]) b3 r88 ([]) ([]) (zak w1) p89 (1+a92) t92 zag zag zag zag zag zag zag zag zag zag zag
     exact ⟨r93_0,r93_1,zcw,wkcN At.world_Tape_Trigger (p_10++[sb h91,sl [0] c92,si (zaY (t:=1+(a92:Int)) (n:=1+a92) (by omega) (by omega))]) [0,6,7,8,9,10] 5 [(.nl 2 7,5),(.nl 2 9,5),(.ob 2 10 Ty.Action,6)] kr (g93)⟩
    ·obtain ⟨e94,t94,q94,c94⟩:=(zaE t90 p89 2 zag)
     obtain ⟨a95,t95,q95,c95⟩:=(zaf t94 2 zag)
     obtain ⟨r96_0,r96_1,p96_0,g96⟩:=zas t name w1 b4 ((↑(1+a2):Int)) ([x67.name]) b3 r88 ([]) ([e94]) (zak w1) p89 (1+a95) t95 zag zag zag zag zag zag zag zag zag zag zag
     exact ⟨r96_0,r96_1,zcw,wkcN At.world_Tape_Trigger (p_10++[sb h91,sl [0] c94,sl [0] c95,si (zaY (t:=1+(a95:Int)) (n:=1+a95) (by omega) (by omega))]) [0,6,7,8,9,10] 5 [(.nl 2 7,5),(.ob 2 10 Ty.Action,6)] kr (zav (show ([(0,AV.p 0 0),(6,AV.p 1 0),(7,AV.p 2 0),(8,AV.p 3 0),(9,AV.p 4 0),(10,iv (↑(1+a95):Int))]:TS)=[(0,AV.p 0 0),(6,AV.p 1 0),(7,AV.p 2 0),(8,AV.p 3 0),(9,AV.p 4 0),(10,iv (↑(1+a95):Int))] by first|rfl|(simp;done)|(simp [X.cells,Qy.cells,V.cells,Col.cells,Rw.cells,Tb.cells,Fr.cells,Sch.cells,Tp.cells,Pl.cells,xCol,xLit,xBin,xNeg,Im.cells,Lk.cells,Ac.cells,Se.cells,Tg.cells,Rk.cells];done)) (show ([Blk.box [AV.sl (List.map (fun n=>[iv n]) t95.l),iv (t95.pos:Int)],Blk.box [sv (ByteArray.mk #[]),sv (ByteArray.mk #[]),AV.bl false,iv 0,AV.nl,AV.bl false,AV.nl,AV.nl,AV.nl,AV.nl,AV.nl],Blk.box [sv name,sv w1,bv b4,iv (↑(1+a2):Int),AV.sl [[sv x67.name]],bv b3,AV.sl (List.map (fun s=>[sv s]) r88),AV.sl [],AV.nl,AV.sl [[iv e94.kind,iv e94.op,bv e94.not,iv e94.val.kind,iv e94.val.int,sv e94.val.text,sv e94.table,sv e94.name,AV.sl (zab e94.args),AV.sl (zae e94.sub)]],AV.own 5 0],Blk.box [sv (zak w1).name,AV.sl (List.map Col.cells (zak w1).cols)],Blk.box [AV.sl (List.map Fr.cells p89.frs),AV.sl (List.map Sch.cells p89.tbs)],Blk.row Ty.Action [] false]:Heap)=[Blk.box t95.cells,Blk.box [sv (ByteArray.mk #[]),sv (ByteArray.mk #[]),AV.bl false,iv 0,AV.nl,AV.bl false,AV.nl,AV.nl,AV.nl,AV.nl,AV.nl],Blk.box [sv name,sv w1,bv b4,iv (↑(1+a2):Int),AV.sl [[sv x67.name]],bv b3,AV.sl (List.map (fun s=>[sv s]) r88),AV.sl [],AV.nl,AV.sl (zab [e94]),AV.own 5 0],Blk.box [sv (zak w1).name,AV.sl (List.map Col.cells (zak w1).cols)],Blk.box [AV.sl (List.map Fr.cells p89.frs),AV.sl (List.map Sch.cells p89.tbs)],Blk.row Ty.Action [] false] by first|rfl|(simp;done)|(simp [X.cells,Qy.cells,V.cells,Col.cells,Rw.cells,Tb.cells,Fr.cells,Sch.cells,Tp.cells,Pl.cells,xCol,xLit,xBin,xNeg,Im.cells,Lk.cells,Ac.cells,Se.cells,Tg.cells,Rk.cells];done)) g96)⟩
end Go.AM
namespace Go.AM
set_option maxRecDepth 100000
set_option maxHeartbeats 1000000
set_option linter.unusedSimpArgs false
set_option linter.unusedVariables false
theorem zdd {p:Prop} (h:p:=by first|assumption|exact TrX.gen (by assumption)|exact hI.2.2|exact TrX.nameMem (by assumption) hll|exact (TrX.gen (by assumption)).ok.prec|exact (TrX.gen (by assumption)).ok.foll|exact (TrX.inN (by assumption) hI.2.1).1|exact (TrX.inN (by assumption) hI.2.1).2|omega):p:=h
theorem zjI {p:Prop} (h:p:=by first|assumption|exact zrQ|exact ⟨by simp;omega,⟨by simp,by simp⟩,zmW _⟩|(rw [IntKind.wrap_i64];omega)|(simp only [Pos];omega)|omega):p:=h
theorem zn8 {p:Prop} (h:p:=by first|exact ⟨by omega,hI.2⟩|exact ⟨by simp;omega,hI.2.1.push (by assumption) hll,by assumption⟩):p:=h
def zes (i:Nat):Str:=zbd.getD i ⟨#[]⟩
theorem zqm (i:Nat) (h:(i:Int) < 8):ArrAt (zbd.map sv) i 8 [sv (zes i)] 1:=by
 have:i=0∨i=1∨i=2∨i=3∨i=4∨i=5∨i=6∨i=7:=by omega
 rcases this with rfl|rfl|rfl|rfl|rfl|rfl|rfl|rfl <;> exact ⟨by decide,by decide,rfl,rfl⟩
theorem zpT {i:Nat} (h:i < 8):zes i∈zbd:=by
 have:i=0∨i=1∨i=2∨i=3∨i=4∨i=5∨i=6∨i=7:=by omega
 rcases this with rfl|rfl|rfl|rfl|rfl|rfl|rfl|rfl <;> simp [zes,zbd]
theorem zoK {i:Nat} (h:i < 8):V.Good ⟨3,0,zes i⟩:=by
 have:i=0∨i=1∨i=2∨i=3∨i=4∨i=5∨i=6∨i=7:=by omega
 rcases this with rfl|rfl|rfl|rfl|rfl|rfl|rfl|rfl <;> exact ⟨by kernel_rfl,by decide,by decide⟩
abbrev BareL (tb:List Tb):Prop:=tb.length=zau.length∧∀ x∈tb,Bare x
theorem zqP {tb:List Tb} (h:BareL tb):TbOk tb∧tb.length≤1000:=by
 have hl:tb.length=3:=h.1
 refine ⟨⟨by simp only [zad];omega,fun x hx=>(h.2 x hx).2,fun x hx=>by rw [(h.2 x hx).1];simp,fun x hx r hr=>by rw [(h.2 x hx).1] at hr;cases hr⟩,by omega⟩
theorem zmA (t:Tg) (tb:List Tb) (h:GenOk t) (ht:BareL tb):∃ (e:Int),zac E0 S.ref17_Check [t.av,tsl tb] [] (iv e) [] :=
 zsF h.ok h.set (zqP ht).1 (zqP ht).2 (by decide)
theorem zoz (l:List Lk) (n:Str) (ps fs:List Str) (h:LkN zbd l) (hn:n∈zbd) (hp:Few ps) (hf:Few fs) (hps:∀ s∈ps,s∈zbd) (hfs:∀ s∈fs,s∈zbd):∃ (r:List Lk) (e:Int),LkN zbd r∧zac E0 S.ref18_Add [lsl l,sv n,ssl ps,ssl fs] [] (.tup [lsl r,iv e]) [] :=
 zog l n ps fs zbd (by decide) h (h.short (by decide)) hn (zaK hp) (zaK hf) hps hfs
structure TrsI (l:List Tg):Prop where
 gen:∀ x∈l,GenOk x
 names:∀ x∈l,x.name∈zbd
theorem TrX.nameMem {l:List Tg} {r:Tg} (h:TrX (zes l.length) l r) (hl:l.length < 8):r.name∈zbd:=by rw [h.name];exact zpT hl
theorem TrX.inN {nm:Str} {l:List Tg} {r:Tg} (h:TrX nm l r) (hl:TrsI l):(∀ s∈r.prec,s∈zbd)∧∀ s∈r.foll,s∈zbd:=by
 refine ⟨fun s hs=>?_,fun s hs=>?_⟩
 ·obtain ⟨x,hx,rfl⟩:=List.mem_map.1 (h.prec s hs)
  exact hl.names x hx
 ·obtain ⟨x,hx,rfl⟩:=List.mem_map.1 (h.foll s hs)
  exact hl.names x hx
theorem TrsI.push {l:List Tg} {r:Tg} (h:TrsI l) (hr:TrX (zes l.length) l r) (hl:l.length < 8):TrsI (l++[r]) :=
 ⟨fun x hx=>by
  simp only [List.mem_append,List.mem_singleton] at hx
  rcases hx with hx|rfl
  ·exact h.gen x hx
  ·exact hr.gen,fun x hx=>by
  simp only [List.mem_append,List.mem_singleton] at hx
  rcases hx with hx|rfl
  ·exact h.names x hx
  ·exact hr.nameMem hl⟩
noncomputable def L_tg (t0:Tp) (k:Nat) (u:Tp) (l:List Tg) (o:List Lk) (sh:Bool):Cfg:=zat B.world_Tape_Triggers 0 [(0,.p 0 0),(6,.own 1 l.length),(7,lsl o),(8,iv (k:Nat))] [.box u.cells,.row Ty.Trigger (l.map Tg.cells) sh]
theorem zeS (t0:Tp) (hsh:zad zau) (hc:∀ s∈zau,zad s.cols) (k:Nat) (u:Tp) (l:List Tg) (o:List Lk) (sh:Bool) (hi:k≤1000000000) (hI:l.length+k≤8∧TrsI l∧LkN zbd o):∃ (u':Tp) (l':List Tg) (o':List Lk) (sh':Bool),(l'.length+0≤8∧TrsI l'∧LkN zbd o')∧(decide ((0:Int) < ((0:Nat):Int))=false)∧∀ R,Good E0 B.world_Tape_Triggers [.box t0.cells] (L_tg t0 0 u' l' o' sh') R→Good E0 B.world_Tape_Triggers [.box t0.cells] (L_tg t0 k u l o sh) R:=by
 induction k generalizing u l o sh with
 | zero=>exact ⟨u,l,o,sh,hI,by decide,fun R hg=>hg⟩
 | succ k ih =>
  have h0:decide ((0:Int) < (((k+1):Nat):Int))=true:=by first|(simp;done)|(simp;omega)
  have hw:IntKind.i64.wrap (((k+1:Nat):Int) - 1)=((k:Nat):Int):=zfW k (by omega)
  have hll:l.length < 8:=by omega
  have hls:zad l:=by (simp only [zad];omega)
  have hgn:=zoK hll
  obtain ⟨r1,t1,q1,c1⟩:=(ziA u (zes l.length) l zdd zdd zdd)
  obtain ⟨out2,q2,c2⟩:=(zkN zdd zdd)
  obtain ⟨e3,c3⟩:=(zmA r1 out2 zdd zdd)
  let p_1:List St:=[sb h0,sqx (l.length=(List.map Tg.cells l).length),sa (zqm l.length zdd),skx (True∧True∧l.length=(List.map Tg.cells l).length∧True) [0] c1,sd [(1,[sc c2]),(2,[sc c3])]]
  cases h4:e3 != 0
  ·obtain ⟨r5,e5,q5,c5⟩:=(zoz o r1.name r1.prec r1.foll zdd zdd zdd zdd zdd zdd)
   cases h6:e5==0
   ·obtain ⟨uZ,lZ,oZ,shZ,qZ,xZ,gZ⟩:=ih t1 l o true (by omega) zn8;exact ⟨uZ,lZ,oZ,shZ,qZ,xZ,fun R hg=>zaa (wkl (p_1++[sb h4,sc c5,sb h6,si hw]) [0,6,7,8] 2 kr (gZ R hg))⟩
   ·obtain ⟨uZ,lZ,oZ,shZ,qZ,xZ,gZ⟩:=ih t1 (l++[r1]) r5 true (by omega) zn8;exact ⟨uZ,lZ,oZ,shZ,qZ,xZ,fun R hg=>zaa (wkl (p_1++[sb h4,sc c5,sb h6,sqx (AllLen [[sv r1.name,sv r1.table,bv r1.before,iv r1.event,AV.sl (List.map (fun s=>[sv s]) r1.of),bv r1.each,AV.sl (List.map (fun s=>[sv s]) r1.prec),AV.sl (List.map (fun s=>[sv s]) r1.foll),AV.sl (List.map Rk.cells r1.rank),AV.sl (zab r1.when_),AV.sl (List.map Ac.cells r1.acts)]] 11∧l.length=(List.map Tg.cells l).length∧(((List.map Tg.cells l).length+[[sv r1.name,sv r1.table,bv r1.before,iv r1.event,AV.sl (List.map (fun s=>[sv s]) r1.of),bv r1.each,AV.sl (List.map (fun s=>[sv s]) r1.prec),AV.sl (List.map (fun s=>[sv s]) r1.foll),AV.sl (List.map Rk.cells r1.rank),AV.sl (zab r1.when_),AV.sl (List.map Ac.cells r1.acts)]].length) * 200).le 140737488355328),si hw]) [0,6,7,8] 2 kr (zav (show ([(0,AV.p 0 0),(6,AV.own 1 (List.map Tg.cells l++[[sv r1.name,sv r1.table,bv r1.before,iv r1.event,AV.sl (List.map (fun s=>[sv s]) r1.of),bv r1.each,AV.sl (List.map (fun s=>[sv s]) r1.prec),AV.sl (List.map (fun s=>[sv s]) r1.foll),AV.sl (List.map Rk.cells r1.rank),AV.sl (zab r1.when_),AV.sl (List.map Ac.cells r1.acts)]]).length),(7,AV.sl (List.map Lk.cells r5)),(8,iv (k:Int))]:TS)=[(0,AV.p 0 0),(6,AV.own 1 (l++[r1]).length),(7,AV.sl (List.map Lk.cells r5)),(8,iv (k:Int))] by first|rfl|(simp only [List.map_append,List.map_cons,List.map_nil,List.length_append,List.length_map,List.length_cons,List.length_nil] <;> rfl)) (show ([Blk.box [AV.sl (List.map (fun n=>[iv n]) t1.l),iv (t1.pos:Int)],Blk.row Ty.Trigger (List.map Tg.cells l++[[sv r1.name,sv r1.table,bv r1.before,iv r1.event,AV.sl (List.map (fun s=>[sv s]) r1.of),bv r1.each,AV.sl (List.map (fun s=>[sv s]) r1.prec),AV.sl (List.map (fun s=>[sv s]) r1.foll),AV.sl (List.map Rk.cells r1.rank),AV.sl (zab r1.when_),AV.sl (List.map Ac.cells r1.acts)]]) true]:Heap)=[Blk.box t1.cells,Blk.row Ty.Trigger (List.map Tg.cells (l++[r1])) true] by first|rfl|(simp only [List.map_append,List.map_cons,List.map_nil,List.length_append,List.length_map,List.length_cons,List.length_nil] <;> rfl)) (gZ R hg)))⟩
  ·obtain ⟨uZ,lZ,oZ,shZ,qZ,xZ,gZ⟩:=ih t1 l o true (by omega) zn8;exact ⟨uZ,lZ,oZ,shZ,qZ,xZ,fun R hg=>zaa (wkl (p_1++[sb h4,si hw]) [0,6,7,8] 2 kr (gZ R hg))⟩
structure TrsQ (l:List Tg) (o:List Lk):Prop where
 len:l.length≤8
 trs:TrsI l
 ord:LkN zbd o
theorem trsQ {l:List Tg} {o:List Lk} (h:l.length+0≤8∧TrsI l∧LkN zbd o):TrsQ l o:=⟨by have:=h.1;omega,h.2.1,h.2.2⟩
theorem zrQ:∀ s∈zau,zad s.cols:=fun s hs=>zaK (zgQ hs).few
theorem zid (t:Tp) (n:Int) (hn:0≤n∧n≤8) (hsh:zad zau) (hw:IntKind.i64.wrap (n+1)=n+1):∃ (l:List Tg) (o:List Lk) (t':Tp),TrsQ l o∧zac E0 S.world_Tape_Triggers [.p 0 0,iv n] [.box t.cells] (.tup [.sl (l.map Tg.cells),lsl o]) [.box t'.cells]:=by
 obtain ⟨a1,t1,q1,c1⟩:=(zaf t (n+1) zjI)
 obtain ⟨u2,l2,o2,sh2,q2,q2_1,g2⟩:=zeS t zjI zjI a1 t1 ([]) ([]) false zjI zjI
 exact ⟨l2,o2,u2,(by exact trsQ (by assumption)),wkcN At.world_Tape_Triggers [si hw,sl [0] c1,sqx True] [0,6,7,8] 1 [(.fz 7,1),(.ot 6 Ty.Trigger,2)] kr (g2 _ (zaa (wkr [sqx (l2.length=(List.map Tg.cells l2).length∧True∧True),sb (rfl:false=false)] kr)))⟩
theorem ziq (t:Tp) (n:Int) (hn:0≤n∧n≤8):∃ (l:List Tg) (o:List Lk) (t':Tp),TrsQ l o∧zac E0 S.world_Tape_Triggers [.p 0 0,iv n] [.box t.cells] (.tup [.sl (l.map Tg.cells),lsl o]) [.box t'.cells] :=
 zid t n hn zeh (by rw [IntKind.wrap_i64];omega)
end Go.AM
namespace Go.AM
set_option maxRecDepth 100000
set_option maxHeartbeats 1000000
set_option linter.unusedSimpArgs false
set_option linter.unusedVariables false
structure BTrig (tb:Str) (ev:Int) (x:Tg):Prop where
 before:x.before=true
 table:x.table=tb
 event:x.event=ev
 each:x.each=true
 of:x.of=[]
 whens:Few x.when_
 when_:∀ z∈x.when_,XOk 5 z
 acts:∃ a,x.acts=[a]∧(a=Ac.mk 4 ⟨#[]⟩ [] [] [] [] ⟨#[]⟩∨∃ c e,a=setA c e∧XOk 5 e)
end Go.AM
namespace Go.AM
set_option maxRecDepth 100000
set_option maxHeartbeats 1000000
set_option linter.unusedSimpArgs false
set_option linter.unusedVariables false
structure BTrs (tb:Str) (ev:Int) (r:List Tg) (o:List Lk):Prop where
 len:r.length≤8
 trs:∀ x∈r,BTrig tb ev x
 ord:LkN zbd o
end Go.AM
namespace Go.AM
set_option maxRecDepth 100000
set_option maxHeartbeats 1000000
set_option linter.unusedSimpArgs false
set_option linter.unusedVariables false
theorem zdG {p:Prop} (h:p:=by first|assumption|(have:=TrsQ.len (by assumption);simp only [zad];omega)|exact trsSh (by assumption)|exact fun t ht=>(trsSh (by assumption) t ht).of|exact fun t ht=>(hrt t ht).of|exact ⟨by simp,by simp⟩|omega|(simp;done)):p:=h
theorem zfO {p:Prop} (h:p:=by first|assumption|(simp only [Pos];omega)|omega|(simp;done)):p:=h
theorem trsSh {l:List Tg} {o:List Lk} (h:TrsQ l o):∀ t∈l,TgSh 6 t:=fun t ht=>(h.trs.gen t ht).ok.sh
noncomputable def L_baL (raw:List Tg) (table:Str) (ev:Int) (asg:List Str) (each:Bool) (l2:List Tg) (i:Nat) (u:Tp):Cfg:=zat B.law20_BeforeApplies 0 [(0,.sl (raw.map Tg.cells)),(1,sv table),(2,iv ev),(3,ssl asg),(4,bv each),(13,.p 0 0),(14,.sl (l2.map Tg.cells)),(16,iv (i:Nat))] [.box u.cells]
theorem zeB (raw:List Tg) (table:Str) (ev:Int) (asg:List Str) (each:Bool) (l2:List Tg) (hl2:zad l2) (ht:∀ t∈l2,TgSh 6 t) (ho2:∀ t∈l2,zad t.of) (i:Nat) (u:Tp) (hi:i≤(4)) (hI:True):∃ (u':Tp),(True)∧(decide ((((4):Nat):Int) < (((4):Nat):Int))=false)∧∀ R,Good E0 B.law20_BeforeApplies [] (L_baL raw table ev asg each l2 4 u') R→Good E0 B.law20_BeforeApplies [] (L_baL raw table ev asg each l2 i u) R:=by
 obtain ⟨kk,hk⟩:∃ kk,i+kk=(4):=⟨(4) - i,by omega⟩
 induction kk generalizing i u hI with
 | zero =>
  have e0:i=(4):=by omega
  subst e0
  exact ⟨u,hI,by simp,fun R hg=>hg⟩
 | succ kk ih =>
  have h0:decide (((i:Nat):Int) < (((4):Nat):Int))=true:=by simp;omega
  have hw:IntKind.i64.wrap (((i:Nat):Int)+1)=((i+1:Nat):Int):=zao i (by first|omega|(simp only [zad,Few] at *;omega))
  obtain ⟨w1,t1,q1,c1⟩:=(zca u)
  obtain ⟨a2,t2,q2,c2⟩:=(zaf t1 3 zfO)
  obtain ⟨w3,t3,c3⟩:=(zgc t2)
  obtain ⟨w4,t4,c4⟩:=(zgc t3)
  obtain ⟨b5,t5,c5⟩:=(zaj t4 2 zfO)
  obtain ⟨uZ,qZ,xZ,gZ⟩:=ih (i+1) t5 (by omega) (by first|trivial|assumption|(simp;done)|omega|(simp;omega)|(simp at *;omega)) (by omega);exact ⟨uZ,qZ,xZ,fun R hg=>zaa (wkl [sb h0,sl [0] c1,sl [0] c2,si (zaY (t:=1+(a2:Int)) (n:=1+a2) (by omega) (by omega)),sl [0] c3,sl [0] c4,sl [0] c5,sc (zdN 6 l2 w1 ((↑(1+a2):Int)) ([w3,w4]) b5 zfO zfO ht),sc (zfU l2 w1 ((↑(1+a2):Int)) ([w3,w4]) b5 zfO zfO zfO),sc (zeU 6 l2 (appl w1 (↑(1+a2):Int) [w3,w4] b5) zfO ht),sb (rfl:false=false),si hw] [0,1,2,3,4,13,14,16] 1 kr (gZ R hg))⟩
theorem zoU (N:Nat) (raw:List Tg) (table:Str) (ev:Int) (asg:List Str) (each:Bool) (l:List Int) (hsh:zad zau) (hr:zad raw) (hrt:∀ t∈raw,TgSh N t) (ha:zad asg):∃ (r:Bool),r=true∧zac E0 S.law20_BeforeApplies [.sl (raw.map Tg.cells),sv table,iv ev,ssl asg,bv each,isl l] [] (bv r) []:=by
 obtain ⟨t1,c1⟩:=(zoR l)
 obtain ⟨l2,o2,t2,q2,c2⟩:=(ziq t1 8 zdG)
 obtain ⟨u3,q3,q3_1,g3⟩:=zeB raw table ev asg each l2 zdG zdG zdG 0 t2 zdG zdG
 exact ⟨true,(by rfl),wkc At.law20_BeforeApplies [sc c1,sl [0] c2] [0,1,2,3,4,13,14,16] 1 kr (g3 _ (zaa (wkr [sb (rfl:false=false),sc (zdN N raw table ev asg each zdG zdG hrt),sc (zfU raw table ev asg each zdG zdG zdG),sc (zeU N raw (appl table ev asg each) zdG hrt),so (rfl:true=true) (sc zmH)] kr)))⟩
end Go.AM
namespace Go.AM
open Go.RowKit
set_option linter.unusedSimpArgs false
set_option linter.unusedVariables false
abbrev old (W:World):Addr→Prop:=fun a=>a.block < W.heap.size
theorem zo0 {W:World} {a:Addr} {v:Value} (h:W.cell? a=some v):a.block < W.heap.size:=by
 unfold World.cell? at h
 cases hb:W.heap[a.block]? with
 | none=>rw [hb] at h;cases h
 | some o=>exact (Array.getElem?_eq_some_iff.1 hb).1
theorem relD_strs {W:World} {g:Nat} (l:List Str) (h:∀ (j:Nat) (s:Str),l[j]?=some s→W.cell? ⟨g,j,none⟩=some (.string s)):RelD W (old W) (.dp (l.map sv)) (.pointer (some ⟨g,0,none⟩)):=by
 refine .dp _ g 0 (fun j=>.string (l.getD j ⟨#[]⟩)) (fun j x hx=>?_) (fun j x hx=>?_)
 ·simp only [List.getElem?_map,Option.map_eq_some_iff] at hx
  obtain ⟨s,hs,rfl⟩:=hx
  have hc:=h j s hs
  rw [Nat.zero_add]
  refine ⟨zo0 hc,?_,rfl⟩
  rw [hc,List.getD_eq_getElem?_getD,hs];rfl
 ·simp only [List.getElem?_map,Option.map_eq_some_iff] at hx
  obtain ⟨s,hs,rfl⟩:=hx
  have:l.getD j ⟨#[]⟩=s:=by rw [List.getD_eq_getElem?_getD,hs];rfl
  simp only [this]
  exact .v _ rfl
theorem zrH {s:ByteArray} {l:List UInt8} (h:s.data.toList=l):s=zbN l:=by
 cases s with
 | mk d=>simp only [zbN];congr;rw [← h]
theorem laid_strs {P:Program} {W:World} {n:String} {g:Nat} {t e:TypeId} {k:Nat} {l:List (List UInt8)} (hr:Lib.VarReads P W n (.agg (l.map fun b=>.lit (.string b)))) (hg:P.globalNamed n=some g) (hty:(P.globals[g]?).map (·.type)=some t)
  (ht:P.underlying t=some (.array k e)) (he:P.underlying e=some .string) (hc:P.cellsOf e=1) (hk:l.length=k):∀ (j:Nat) (s:Str),(l.map zbN)[j]?=some s→W.cell? ⟨g,j,none⟩=some (.string s):=by
 intro j s hs
 obtain ⟨g',t',cs,fuel,p,h1,h2,h3,h4⟩:=hr
 obtain rfl:g'=g:=Option.some.inj (h1.symm.trans hg)
 obtain rfl:t'=t:=Option.some.inj (h2.symm.trans hty)
 simp only [List.getElem?_map,Option.map_eq_some_iff] at hs
 obtain ⟨b,hb,rfl⟩:=hs
 have hj:=zhi hb
 obtain ⟨f',d,q,hd,hq⟩:=Lib.array_elem ht h4 j (by omega)
 simp only [List.getElem?_map,hb,Option.map_some,Option.some.injEq] at hd
 subst hd
 obtain ⟨s,e1,e2,_⟩:=DataW.trod_string he hq
 rw [World.var?_cell h1 h3]
 rw [hc,Nat.mul_one] at e1
 have e3:cs.toList[j]?=some (.string s):=by
  have:=congrArg (·[0]?) e1
  simpa [List.getElem?_take,List.getElem?_drop] using this
 have e4:s=zbN b:=zrH (by simp only [Prod.mk.injEq,DataW.lit.injEq,Lit.string.injEq] at e2;exact e2.1.symm)
 rw [← e4]
 simpa using e3
theorem oneCell_ok {P:Program} {w:World} {r:Reach} {b:Nat} {u:TypeId} {y:Value} (h:Cell.okWide P w r b u y):y.oneCell'=true:=by
 have h2:∀ y,Cell.ok P w r b u y→y.oneCell'=true:=by
  intro y h
  unfold Cell.ok at h
  split at h <;> first|rfl|exact h.elim
 unfold Cell.okWide at h
 split at h <;> first|rfl|exact h2 _ h
theorem calls_of {f:FuncId} {args:List AV} {b:Bool} (h:zac E0 f args [] (bv b) []) (hgo:GoFn E0.P f) {W:World} {vs:List Value} (hglob:∀ g cs,globs g=some cs→RelD W (old W) (.dp cs) (.pointer (some ⟨g,0,none⟩))) (hargs:PW (RelV E0.T [] [] W (old W)) args vs) :
  Calls E0.P f vs.toArray W fun e W'=>e=.returned (.bool b)∧Below W.heap.size W W':=by
 have hrel:Rel E0 [] [] (old W) W:=⟨rfl,fun b cs hb=>by simp at hb,fun b e xs sh hb=>by simp at hb,fun b b' k k' g hb=>by simp at hb,fun b k g hb=>by simp at hb,fun a ha=>ha,fun b k g a hb=>by simp at hb,hglob⟩
 obtain ⟨fn,hf1,hf2,hf3⟩:=hgo
 have hp:∀ e W',Post E0 [] [] (old W) W (fun r' h''=>r'=bv b∧h''=[]) e W'→e=.returned (.bool b)∧Below W.heap.size W W':=by
  rintro e W' ⟨r,h',β',S',y,rfl,⟨rfl,rfl⟩,_,ex,rv⟩
  refine ⟨?_,ex.os,ex.tape,ex.output,ex.size,fun k hk=>ex.keep k hk fun b' k' hb=>by simp at hb⟩
  rw [rv.v_inv]
 rcases h [] (old W) W vs hrel hargs with ⟨_,hc⟩|⟨y,w',hrun,_⟩
 ·exact hc.mono hp
 ·exfalso
  simp only [callFunc,Sem.run_bind,Sem.run_pure,Result.andThen_ok,run_program,hf1,hf2,hf3,Bool.false_eq_true,if_false] at hrun
  cases hrun
end Go.AM
namespace Go.AM
open Go.RowKit Go.ChangeShapes
set_option linter.unusedSimpArgs false
set_option linter.unusedVariables false
structure RD (W:World) (xs:List AV) (cs:List Value):Prop where
 len:xs.length=cs.length
 at_:∀ (i:Nat) (a:AV) (v:Value),xs[i]?=some a→cs[i]?=some v→v.oneCell'=true∧RelD W (old W) a v
theorem RD.one {W:World} {a:AV} {v:Value} (h1:v.oneCell'=true) (h:RelD W (old W) a v):RD W [a] [v] :=
 ⟨rfl,fun i x y hx hy=>by
  cases i with
  | zero=>cases hx;cases hy;exact ⟨h1,h⟩
  | succ i=>simp at hx⟩
theorem RD.fin {W:World} {cs:List Value} {o:Nat} (h:cs.length=o):RD W [] (cs.drop o):=⟨by simp [h],fun i a v ha=>by simp at ha⟩
theorem RD.app {W:World} {a b:List AV} {cs:List Value} {o l:Nat} (h0:RD W a ((cs.drop o).take l)) (hl:a.length=l) (h1:RD W b (cs.drop (o+l))):RD W (a++b) (cs.drop o):=by
 have e0:=h0.len
 have e1:=h1.len
 simp only [List.length_take,List.length_drop] at e0 e1
 refine ⟨by simp only [List.length_append,List.length_drop];omega,fun i x v hx hv=>?_⟩
 by_cases hi:i < l
 ·rw [List.getElem?_append_left (by omega)] at hx
  exact h0.at_ i x v hx (by rw [List.getElem?_take,if_pos hi];exact hv)
 ·rw [List.getElem?_append_right (by omega)] at hx
  refine h1.at_ (i - a.length) x v hx ?_
  rw [List.getElem?_drop] at hv ⊢
  rw [← hv]
  congr 1
  omega
theorem RD.all {W:World} {a:List AV} {cs:List Value} (h:RD W a (cs.drop 0)):RD W a cs:=by simpa using h
section
variable {H : Type} {enc : TypeId × Value → H}
structure Bulk (bk:DataW H→Nat):Prop where
 len:∀ es sp,es.length≤bk (.slice es sp)
 el:∀ es sp,∀ d∈es,bk d≤bk (.slice es sp)
 part:∀ ps,∀ d∈ps,bk d≤bk (.agg ps)
abbrev zdI:Nat:=1048576
def Rdr (enc:TypeId × Value→H) (bk:DataW H→Nat) (W:World) (n:Nat) (t:TypeId) {T:Type} (cells:T→List AV) (ok:T→Prop):Prop :=
 ∀ (cs:List Value) (x:DataW H × List MemPlace),DataW.trod enc E0.P W 0 (fun _=>true) true n t cs=some x→bk x.1≤zdI→∃ y:T,ok y∧RD W (cells y) cs
variable {bk : DataW H → Nat} {W : World} {n : Nat} {t : TypeId}
theorem Rdr.mono {T:Type} {cells:T→List AV} {ok ok':T→Prop} (h:Rdr enc bk W n t cells ok) (hm:∀ y,ok y→ok' y):Rdr enc bk W n t cells ok':=fun cs x hx hb=>by
 obtain ⟨y,h1,h2⟩:=h cs x hx hb
 exact ⟨y,hm y h1,h2⟩
theorem zgB (hu:E0.P.underlying t=some (.int .i64)):Rdr enc bk W n t (fun k:Int=>[iv k]) (fun _=>True):=fun cs x hx _=>by
 obtain ⟨k,rfl,_,_⟩:=DataW.trod_int hu hx
 exact ⟨k,trivial,.one rfl (.v _ rfl)⟩
theorem zlJ (hu:E0.P.underlying t=some .bool):Rdr enc bk W n t (fun k:Bool=>[bv k]) (fun _=>True):=fun cs x hx _=>by
 obtain ⟨k,rfl,_⟩:=DataW.trod_bool hu hx
 exact ⟨k,trivial,.one rfl (.v _ rfl)⟩
theorem zdA (hu:E0.P.underlying t=some .string):Rdr enc bk W n t (fun k:Str=>[sv k]) (fun _=>True):=fun cs x hx _=>by
 obtain ⟨k,rfl,_⟩:=DataW.trod_string hu hx
 exact ⟨k,trivial,.one rfl (.v _ rfl)⟩
theorem zkI {α:Type} {Q:Nat→α→Prop}:∀ (len:Nat),(∀ i,i < len→∃ y,Q i y)→∃ l:List α,l.length=len∧∀ i y,l[i]?=some y→Q i y
 | 0,_=>⟨[],rfl,fun i y h=>by simp at h⟩
 | len+1,h=>by
  obtain ⟨l,hl,hq⟩:=zkI len fun i hi=>h i (by omega)
  obtain ⟨y,hy⟩:=h len (by omega)
  refine ⟨l++[y],by simp [hl],fun i z hz=>?_⟩
  by_cases hi:i < l.length
  ·rw [List.getElem?_append_left hi] at hz
   exact hq i z hz
  ·rw [List.getElem?_append_right (by omega)] at hz
   have:i - l.length=0:=by
    cases hk:i - l.length with
    | zero=>rfl
    | succ k=>rw [hk] at hz;simp at hz
   rw [this] at hz
   cases hz
   rw [show i=len by omega]
   exact hy
theorem zsz {a:Addr} {i:Nat} {v:Value} (h:W.cell? (a.add i)=some v) (hs:i=0):a.spot=none:=by
 subst hs
 simp only [Addr.add,if_pos] at h
 unfold World.cell? at h
 split at h
 ·cases hs:a.spot with
  | none=>rfl
  | some x=>rw [hs] at h;simp at h
 ·cases h
theorem znt (b o p:Nat):(⟨b,o,none⟩:Addr).add p=⟨b,o+p,none⟩:=by
 unfold Addr.add
 split
 ·rename_i h;subst h;rfl
 ·rfl
theorem zss {a:Addr} {p q:Nat} (hs:a.spot=none):(a.add p).add q=⟨a.block,a.off+(p+q),none⟩:=by
 obtain ⟨b,o,s⟩:=a
 change s=none at hs
 subst hs
 rw [znt,znt,Nat.add_assoc]
theorem zn4 {base:Nat} {a:Addr} {sz:Nat} {cs:List Value} (h:W.cells? base a sz=some cs):cs.length=sz∧∀ j v,cs[j]?=some v→W.cell? (a.add j)=some v:=by
 unfold World.cells? at h
 split at h
 ·have h1:=mapM_some_length h
  refine ⟨by simpa using h1,fun j v hj=>?_⟩
  have hj2:j < sz:=by
   have:=(List.getElem?_eq_some_iff.1 hj).1
   simp at h1
   omega
  have:=mapM_some_get h j j (by simp [hj2])
  rw [this,hj]
 ·cases h
theorem zbZ {e:TypeId} {T:Type} {cells:T→List AV} {ok:T→Prop} {sz:Nat} (hbk:Bulk bk) (hu:E0.P.underlying t=some (.slice e)) (hc:E0.P.cellsOf e=sz) (hz:0 < sz) (hsz:∀ y,(cells y).length=sz) (he:∀ m,m < n→Rdr enc bk W m e cells ok) :
  Rdr enc bk W n t (fun l:List T=>[.sl (l.map cells)]) (fun l=>l.length≤zdI∧∀ y∈l,ok y):=fun cs x hx hb=>by
 rcases DataW.trod_slice hu hx with ⟨rfl,_⟩|⟨a,len,cap,elems,rest,m,rfl,rfl,rfl,_,hl,hm,hlen,hel,_,_⟩
 ·exact ⟨[],⟨by simp,by simp⟩,.one rfl (RelD.sl [] none 0 0 0 1 (fun _=>.int .i64 0) (fun h=>absurd rfl h) (Nat.le_refl _) (by decide) (fun i c h=>by simp at h) (fun i j c x h=>by simp at h) (fun i j c x h=>by simp at h))⟩
 ·simp only at hb
  have hlb:=Nat.le_trans (hbk.len (elems.map (·.1)) (rest.map (·.1))) hb
  rw [List.length_map,hlen] at hlb
  rw [hc] at hel
  have key:∀ i,i < len→∃ y:T,ok y∧∃ ci,W.cells? 0 (a.add (i * sz)) sz=some ci∧RD W (cells y) ci:=fun i hi=>by
   have h1:=hel i hi
   rw [List.getElem?_eq_getElem (by omega)] at h1
   simp only [Option.bind_eq_some_iff] at h1
   obtain ⟨ci,h2,h3⟩:=h1
   have h4:bk (elems[i]'(by omega)).1≤zdI:=Nat.le_trans (hbk.el _ _ _ (List.mem_map_of_mem (List.getElem_mem (by omega)))) hb
   obtain ⟨y,h5,h6⟩:=he m (by omega) ci _ h3 h4
   exact ⟨y,h5,ci,h2,h6⟩
  obtain ⟨l,hll,hq⟩:=zkI len key
  have hcell:∀ (i j:Nat) (y:T) (x:AV),l[i]?=some y→(cells y)[j]?=some x→∃ v,W.cell? ⟨a.block,a.off+(i * sz+j),none⟩=some v∧v.oneCell'=true∧RelD W (old W) x v∧a.spot=none:=fun i j y x hy hxj=>by
   obtain ⟨_,ci,h1,h2⟩:=hq i y hy
   obtain ⟨h3,h4⟩:=zn4 h1
   have hjl:j < ci.length:=by
    have:=(List.getElem?_eq_some_iff.1 hxj).1
    rw [← h2.len];exact this
   have h5:=List.getElem?_eq_getElem hjl
   have h6:=h2.at_ j x _ hxj h5
   have h7:=h4 j _ h5
   obtain ⟨_,c0,g1,g2⟩:=hq 0 (l[0]'(by have:=(List.getElem?_eq_some_iff.1 hy).1;omega)) (List.getElem?_eq_getElem _)
   obtain ⟨g3,g4⟩:=zn4 g1
   have g5:=g4 0 _ (List.getElem?_eq_getElem (by omega))
   have hs:a.spot=none:=by
    have:(a.add (0 * sz)).spot=none:=zsz g5 rfl
    simpa [Addr.add] using this
   have e:(a.add (i * sz)).add j=⟨a.block,a.off+(i * sz+j),none⟩:=zss hs
   rw [e] at h7
   exact ⟨_,h7,h6.1,h6.2,hs⟩
  refine ⟨l,⟨by rw [hll];exact hlb,fun y hy=>?_⟩,.one rfl ?_⟩
  ·obtain ⟨i,hi⟩:=List.getElem?_of_mem hy
   exact (hq i y hi).1
  ·have hlm:(l.map cells).length=len:=by rw [List.length_map,hll]
   have:=RelD.sl (w:=W) (S:=old W) (l.map cells) (some a) cap a.block a.off sz (fun k=>(W.cell? ⟨a.block,a.off+k,none⟩).getD (.int .i64 0)) (fun hne=>?_) (by rw [hlm];exact hl) hm (fun i c hi=>?_) (fun i j c x hi hj=>?_) (fun i j c x hi hj=>?_)
   ·rw [hlm] at this
    exact this
   ·cases hlc:l with
    | nil=>rw [hlc] at hne;exact absurd rfl hne
    | cons y r =>
     have h0:l[0]?=some y:=by rw [hlc];rfl
     have hzl:0 < (cells y).length:=by rw [hsz];exact hz
     obtain ⟨_,_,_,_,hs⟩:=hcell 0 0 y _ h0 (List.getElem?_eq_getElem hzl)
     cases a
     simp only at hs
     subst hs
     rfl
   ·simp only [List.getElem?_map,Option.map_eq_some_iff] at hi
    obtain ⟨y,_,rfl⟩:=hi
    exact hsz y
   ·simp only [List.getElem?_map,Option.map_eq_some_iff] at hi
    obtain ⟨y,hy,rfl⟩:=hi
    obtain ⟨v,h1,h2,_,_⟩:=hcell i j y x hy hj
    refine ⟨zo0 h1,?_,?_⟩
    ·rw [h1];rfl
    ·rw [h1];exact h2
   ·simp only [List.getElem?_map,Option.map_eq_some_iff] at hi
    obtain ⟨y,hy,rfl⟩:=hi
    obtain ⟨v,h1,_,h3,_⟩:=hcell i j y x hy hj
    rw [h1];exact h3
theorem zcN {fs:Array Field} {L:List (TypeId × Nat × Nat)} {cs:List Value} {x:DataW H × List MemPlace} (hbk:Bulk bk) (hu:E0.P.underlying t=some (.struct fs)) (hL:fs.toList.map (fun f=>(f.type,f.offset,E0.P.cellsOf f.type))=L)
  (hx:DataW.trod enc E0.P W 0 (fun _=>true) true n t cs=some x) (hb:bk x.1≤zdI) :
  cs.length=E0.P.cellsOf t∧∃ m,n=m+1∧∀ (i:Nat) (ty:TypeId) (o l:Nat),L[i]?=some (ty,o,l)→∃ y:DataW H × List MemPlace,DataW.trod enc E0.P W 0 (fun _=>true) true m ty ((cs.drop o).take l)=some y∧bk y.1≤zdI:=by
 obtain ⟨xs,m,rfl,rfl,hl,hxs,hf⟩:=DataW.trod_struct hu hx
 refine ⟨hl,m,rfl,fun i ty o l hi=>?_⟩
 rw [← hL,List.getElem?_map] at hi
 simp only [Option.map_eq_some_iff,Prod.mk.injEq] at hi
 obtain ⟨f,hf2,rfl,rfl,rfl⟩:=hi
 have hfi:fs[i]?=some f:=by simpa using hf2
 have h1:=hf i f hfi
 have hil:i < xs.length:=by
  rw [hxs]
  exact (Array.getElem?_eq_some_iff.1 hfi).1
 rw [List.getElem?_eq_getElem hil] at h1
 exact ⟨_,h1,Nat.le_trans (hbk.part _ _ (List.mem_map_of_mem (List.getElem_mem hil))) hb⟩
end
end Go.AM
namespace Go.AM
open Go.RowKit Go.ChangeShapes
set_option maxRecDepth 100000
set_option linter.unusedSimpArgs false
set_option linter.unusedVariables false
theorem XSh.succ:∀ {n:Nat} {e:X},XSh n e→XSh (n+1) e
 | 0,_,h=>h.elim
 | _+1,_,⟨h1,h2,h3⟩=>⟨h1,fun x hx=>(h2 x hx).succ,fun q hq=>⟨(h3 q hq).1,fun x hx=>((h3 q hq).2.1 x hx).succ,fun x hx=>((h3 q hq).2.2 x hx).succ⟩⟩
theorem XSh.le {n m:Nat} {e:X} (h:XSh n e) (hm:n≤m):XSh m e:=by
 induction hm with
 | refl=>exact h
 | step _ ih=>exact ih.succ
theorem QSh.le {n m:Nat} {q:Qy} (h:QSh n q) (hm:n≤m):QSh m q:=⟨h.items,h.wh,fun x hx=>(h.hi x hx).le hm,fun x hx=>(h.hw x hx).le hm⟩
theorem zcY {α:Type} {l:List α} (h:l.length≤zdI):zad l:=by simp only [zad,zdI] at *;omega
section
variable {H : Type} {enc : TypeId × Value → H} {bk : DataW H → Nat} {W : World}
theorem zrY (hbk:Bulk bk) {n:Nat}:Rdr enc bk W n Ty.Value V.cells (fun _=>True):=fun cs x hx hb=>by
 obtain ⟨hl,m,rfl,hf⟩:=zcN hbk (fs:=E0.P.fieldsOf Ty.Value) kr (L:=[(3,0,1),(2,1,1),(9,2,1)]) kr hx hb
 rw [(by kernel_rfl:E0.P.cellsOf Ty.Value=3)] at hl
 obtain ⟨y0,h0,b0⟩:=hf 0 _ _ _ rfl
 obtain ⟨k,_,r0⟩:=zgB (bk:=bk) kr _ _ h0 b0
 obtain ⟨y1,h1,b1⟩:=hf 1 _ _ _ rfl
 obtain ⟨i,_,r1⟩:=zgB (bk:=bk) kr _ _ h1 b1
 obtain ⟨y2,h2,b2⟩:=hf 2 _ _ _ rfl
 obtain ⟨s,_,r2⟩:=zdA (bk:=bk) kr _ _ h2 b2
 exact ⟨⟨k,i,s⟩,trivial,.all (.app r0 rfl (.app r1 rfl (.app r2 rfl (.fin hl))))⟩
theorem rdRank (hbk:Bulk bk) {n:Nat}:Rdr enc bk W n Ty.Rank Rk.cells (fun _=>True):=fun cs x hx hb=>by
 obtain ⟨hl,m,rfl,hf⟩:=zcN hbk (fs:=E0.P.fieldsOf Ty.Rank) kr (L:=[(9,0,1),(9,1,1),(2,2,1),(2,3,1)]) kr hx hb
 rw [(by kernel_rfl:E0.P.cellsOf Ty.Rank=4)] at hl
 obtain ⟨y0,h0,b0⟩:=hf 0 _ _ _ rfl
 obtain ⟨a,_,r0⟩:=zdA (bk:=bk) kr _ _ h0 b0
 obtain ⟨y1,h1,b1⟩:=hf 1 _ _ _ rfl
 obtain ⟨b,_,r1⟩:=zdA (bk:=bk) kr _ _ h1 b1
 obtain ⟨y2,h2,b2⟩:=hf 2 _ _ _ rfl
 obtain ⟨c,_,r2⟩:=zgB (bk:=bk) kr _ _ h2 b2
 obtain ⟨y3,h3,b3⟩:=hf 3 _ _ _ rfl
 obtain ⟨d,_,r3⟩:=zgB (bk:=bk) kr _ _ h3 b3
 exact ⟨⟨a,b,c,d⟩,trivial,.all (.app r0 rfl (.app r1 rfl (.app r2 rfl (.app r3 rfl (.fin hl)))))⟩
theorem zrt (hbk:Bulk bk) (n:Nat) (ih:∀ k,k < n→Rdr enc bk W k Ty.Expr X.cells (XSh k)∧Rdr enc bk W k Ty.Query Qy.cells (QSh k)):Rdr enc bk W n Ty.Expr X.cells (XSh n):=fun cs x hx hb=>by
 obtain ⟨hl,m,rfl,hf⟩:=zcN hbk (fs:=E0.P.fieldsOf Ty.Expr) kr (L:=[(3,0,1),(3,1,1),(4,2,1),(52,3,3),(9,6,1),(9,7,1),(37,8,1),(58,9,1)]) kr hx hb
 rw [(by kernel_rfl:E0.P.cellsOf Ty.Expr=10)] at hl
 obtain ⟨y0,h0,b0⟩:=hf 0 _ _ _ rfl
 obtain ⟨k,_,r0⟩:=zgB (bk:=bk) kr _ _ h0 b0
 obtain ⟨y1,h1,b1⟩:=hf 1 _ _ _ rfl
 obtain ⟨o,_,r1⟩:=zgB (bk:=bk) kr _ _ h1 b1
 obtain ⟨y2,h2,b2⟩:=hf 2 _ _ _ rfl
 obtain ⟨nt,_,r2⟩:=zlJ (bk:=bk) kr _ _ h2 b2
 obtain ⟨y3,h3,b3⟩:=hf 3 _ _ _ rfl
 obtain ⟨v,_,r3⟩:=zrY hbk _ _ h3 b3
 obtain ⟨y4,h4,b4⟩:=hf 4 _ _ _ rfl
 obtain ⟨tb,_,r4⟩:=zdA (bk:=bk) kr _ _ h4 b4
 obtain ⟨y5,h5,b5⟩:=hf 5 _ _ _ rfl
 obtain ⟨nm,_,r5⟩:=zdA (bk:=bk) kr _ _ h5 b5
 obtain ⟨y6,h6,b6⟩:=hf 6 _ _ _ rfl
 obtain ⟨l,hk6,r6⟩:=zbZ (e:=Ty.Expr) (sz:=10) hbk kr kr (by decide) (fun _=>rfl) (fun k hk=>((ih k (by omega)).1).mono (ok':=XSh m) fun y hy=>hy.le (by omega)) _ _ h6 b6
 simp only [← za0] at r6
 obtain ⟨y7,h7,b7⟩:=hf 7 _ _ _ rfl
 obtain ⟨u,hk7,r7⟩:=zbZ (e:=Ty.Query) (sz:=4) hbk kr kr (by decide) (fun _=>rfl) (fun k hk=>((ih k (by omega)).2).mono (ok':=QSh m) fun y hy=>hy.le (by omega)) _ _ h7 b7
 simp only [← zdf] at r7
 exact ⟨X.mk k o nt v tb nm l u,⟨⟨zcY hk6.1,zcY hk7.1⟩,hk6.2,fun q hq=>⟨⟨(hk7.2 q hq).items,(hk7.2 q hq).wh⟩,(hk7.2 q hq).hi,(hk7.2 q hq).hw⟩⟩,.all (.app r0 rfl (.app r1 rfl (.app r2 rfl (.app r3 rfl (.app r4 rfl (.app r5 rfl (.app r6 rfl (.app r7 rfl (.fin hl)))))))))⟩
theorem zrd (hbk:Bulk bk) (n:Nat) (ih:∀ k,k < n→Rdr enc bk W k Ty.Expr X.cells (XSh k)∧Rdr enc bk W k Ty.Query Qy.cells (QSh k)):Rdr enc bk W n Ty.Query Qy.cells (QSh n):=fun cs x hx hb=>by
 obtain ⟨hl,m,rfl,hf⟩:=zcN hbk (fs:=E0.P.fieldsOf Ty.Query) kr (L:=[(4,0,1),(37,1,1),(9,2,1),(37,3,1)]) kr hx hb
 rw [(by kernel_rfl:E0.P.cellsOf Ty.Query=4)] at hl
 obtain ⟨y0,h0,b0⟩:=hf 0 _ _ _ rfl
 obtain ⟨st,_,r0⟩:=zlJ (bk:=bk) kr _ _ h0 b0
 obtain ⟨y1,h1,b1⟩:=hf 1 _ _ _ rfl
 obtain ⟨l,hk1,r1⟩:=zbZ (e:=Ty.Expr) (sz:=10) hbk kr kr (by decide) (fun _=>rfl) (fun k hk=>((ih k (by omega)).1).mono (ok':=XSh m) fun y hy=>hy.le (by omega)) _ _ h1 b1
 simp only [← za0] at r1
 obtain ⟨y2,h2,b2⟩:=hf 2 _ _ _ rfl
 obtain ⟨f,_,r2⟩:=zdA (bk:=bk) kr _ _ h2 b2
 obtain ⟨y3,h3,b3⟩:=hf 3 _ _ _ rfl
 obtain ⟨w,hk3,r3⟩:=zbZ (e:=Ty.Expr) (sz:=10) hbk kr kr (by decide) (fun _=>rfl) (fun k hk=>((ih k (by omega)).1).mono (ok':=XSh m) fun y hy=>hy.le (by omega)) _ _ h3 b3
 simp only [← za0] at r3
 exact ⟨Qy.mk st l f w,⟨zcY hk1.1,zcY hk3.1,fun x hx=>(hk1.2 x hx).succ,fun x hx=>(hk3.2 x hx).succ⟩,.all (.app r0 rfl (.app r1 rfl (.app r2 rfl (.app r3 rfl (.fin hl)))))⟩
theorem rdXQ (hbk:Bulk bk):∀ n:Nat,Rdr enc bk W n Ty.Expr X.cells (XSh n)∧Rdr enc bk W n Ty.Query Qy.cells (QSh n):=fun n=>by
 induction n using Nat.strongRecOn with
 | ind n ih=>exact ⟨zrt hbk n ih,zrd hbk n ih⟩
theorem rdSet (hbk:Bulk bk) {n N:Nat} (hN:n≤N):Rdr enc bk W n Ty.Set Se.cells (fun s=>XSh N s.ex):=fun cs x hx hb=>by
 obtain ⟨hl,m,rfl,hf⟩:=zcN hbk (fs:=E0.P.fieldsOf Ty.Set) kr (L:=[(9,0,1),(63,1,10)]) kr hx hb
 rw [(by kernel_rfl:E0.P.cellsOf Ty.Set=11)] at hl
 obtain ⟨y0,h0,b0⟩:=hf 0 _ _ _ rfl
 obtain ⟨c,_,r0⟩:=zdA (bk:=bk) kr _ _ h0 b0
 obtain ⟨y1,h1,b1⟩:=hf 1 _ _ _ rfl
 obtain ⟨e,he,r1⟩:=((rdXQ hbk m).1.mono (ok':=XSh N) fun y hy=>hy.le (by omega)) _ _ h1 b1
 exact ⟨⟨c,e⟩,he,.all (.app r0 rfl (.app r1 rfl (.fin hl)))⟩
theorem zrr (hbk:Bulk bk) {n N:Nat} (hN:n≤N):Rdr enc bk W n Ty.Action Ac.cells (AcSh N):=fun cs x hx hb=>by
 obtain ⟨hl,m,rfl,hf⟩:=zcN hbk (fs:=E0.P.fieldsOf Ty.Action) kr (L:=[(3,0,1),(9,1,1),(57,2,1),(58,3,1),(59,4,1),(37,5,1),(9,6,1)]) kr hx hb
 rw [(by kernel_rfl:E0.P.cellsOf Ty.Action=7)] at hl
 obtain ⟨y0,h0,b0⟩:=hf 0 _ _ _ rfl
 obtain ⟨k,_,r0⟩:=zgB (bk:=bk) kr _ _ h0 b0
 obtain ⟨y1,h1,b1⟩:=hf 1 _ _ _ rfl
 obtain ⟨tb,_,r1⟩:=zdA (bk:=bk) kr _ _ h1 b1
 obtain ⟨y2,h2,b2⟩:=hf 2 _ _ _ rfl
 obtain ⟨rows,hk2,r2⟩:=zbZ (e:=Ty.LExpr) (sz:=1) hbk kr kr (by decide) (fun _=>rfl) (fun j hj=>zbZ (n:=j) (e:=Ty.Expr) (sz:=10) hbk kr kr (by decide) (fun _=>rfl) fun k hk=>((rdXQ hbk k).1).mono (ok':=XSh N) fun y hy=>hy.le (by omega)) _ _ h2 b2
 simp only [← za0] at r2
 obtain ⟨y3,h3,b3⟩:=hf 3 _ _ _ rfl
 obtain ⟨qs,hk3,r3⟩:=zbZ (e:=Ty.Query) (sz:=4) hbk kr kr (by decide) (fun _=>rfl) (fun k hk=>((rdXQ hbk k).2).mono (ok':=QSh N) fun y hy=>hy.le (by omega)) _ _ h3 b3
 simp only [← zdf] at r3
 obtain ⟨y4,h4,b4⟩:=hf 4 _ _ _ rfl
 obtain ⟨ss,hk4,r4⟩:=zbZ (e:=Ty.Set) (sz:=11) hbk kr kr (by decide) (fun _=>rfl) (fun k hk=>rdSet (N:=N) hbk (by omega)) _ _ h4 b4
 obtain ⟨y5,h5,b5⟩:=hf 5 _ _ _ rfl
 obtain ⟨wh,hk5,r5⟩:=zbZ (e:=Ty.Expr) (sz:=10) hbk kr kr (by decide) (fun _=>rfl) (fun k hk=>((rdXQ hbk k).1).mono (ok':=XSh N) fun y hy=>hy.le (by omega)) _ _ h5 b5
 simp only [← za0] at r5
 obtain ⟨y6,h6,b6⟩:=hf 6 _ _ _ rfl
 obtain ⟨tx,_,r6⟩:=zdA (bk:=bk) kr _ _ h6 b6
 exact ⟨⟨k,tb,rows,qs,ss,wh,tx⟩,⟨zcY hk2.1,fun r hr=>⟨zcY (hk2.2 r hr).1,(hk2.2 r hr).2⟩,zcY hk3.1,hk3.2,zcY hk4.1,hk4.2,zcY hk5.1,hk5.2⟩,.all (.app r0 rfl (.app r1 rfl (.app r2 rfl (.app r3 rfl (.app r4 rfl (.app r5 rfl (.app r6 rfl (.fin hl))))))))⟩
theorem zqN (hbk:Bulk bk) {n N:Nat} (hN:n≤N):Rdr enc bk W n Ty.Trigger Tg.cells (TgSh N):=fun cs x hx hb=>by
 obtain ⟨hl,m,rfl,hf⟩:=zcN hbk (fs:=E0.P.fieldsOf Ty.Trigger) kr (L:=[(9,0,1),(9,1,1),(4,2,1),(3,3,1),(35,4,1),(4,5,1),(35,6,1),(35,7,1),(36,8,1),(37,9,1),(38,10,1)]) kr hx hb
 rw [(by kernel_rfl:E0.P.cellsOf Ty.Trigger=11)] at hl
 obtain ⟨y0,h0,b0⟩:=hf 0 _ _ _ rfl
 obtain ⟨nm,_,r0⟩:=zdA (bk:=bk) kr _ _ h0 b0
 obtain ⟨y1,h1,b1⟩:=hf 1 _ _ _ rfl
 obtain ⟨tb,_,r1⟩:=zdA (bk:=bk) kr _ _ h1 b1
 obtain ⟨y2,h2,b2⟩:=hf 2 _ _ _ rfl
 obtain ⟨bf,_,r2⟩:=zlJ (bk:=bk) kr _ _ h2 b2
 obtain ⟨y3,h3,b3⟩:=hf 3 _ _ _ rfl
 obtain ⟨ev,_,r3⟩:=zgB (bk:=bk) kr _ _ h3 b3
 obtain ⟨y4,h4,b4⟩:=hf 4 _ _ _ rfl
 obtain ⟨of,hk4,r4⟩:=zbZ (e:=Ty.string) (sz:=1) hbk kr kr (by decide) (fun _=>rfl) (fun _ _=>zdA kr) _ _ h4 b4
 obtain ⟨y5,h5,b5⟩:=hf 5 _ _ _ rfl
 obtain ⟨ea,_,r5⟩:=zlJ (bk:=bk) kr _ _ h5 b5
 obtain ⟨y6,h6,b6⟩:=hf 6 _ _ _ rfl
 obtain ⟨pr,hk6,r6⟩:=zbZ (e:=Ty.string) (sz:=1) hbk kr kr (by decide) (fun _=>rfl) (fun _ _=>zdA kr) _ _ h6 b6
 obtain ⟨y7,h7,b7⟩:=hf 7 _ _ _ rfl
 obtain ⟨fo,hk7,r7⟩:=zbZ (e:=Ty.string) (sz:=1) hbk kr kr (by decide) (fun _=>rfl) (fun _ _=>zdA kr) _ _ h7 b7
 obtain ⟨y8,h8,b8⟩:=hf 8 _ _ _ rfl
 obtain ⟨rk,hk8,r8⟩:=zbZ (e:=Ty.Rank) (sz:=4) hbk kr kr (by decide) (fun _=>rfl) (fun _ _=>rdRank hbk) _ _ h8 b8
 obtain ⟨y9,h9,b9⟩:=hf 9 _ _ _ rfl
 obtain ⟨wn,hk9,r9⟩:=zbZ (e:=Ty.Expr) (sz:=10) hbk kr kr (by decide) (fun _=>rfl) (fun k hk=>((rdXQ hbk k).1).mono (ok':=XSh N) fun y hy=>hy.le (by omega)) _ _ h9 b9
 simp only [← za0] at r9
 obtain ⟨y10,h10,b10⟩:=hf 10 _ _ _ rfl
 obtain ⟨ac,hk10,r10⟩:=zbZ (e:=Ty.Action) (sz:=7) hbk kr kr (by decide) (fun _=>rfl) (fun k hk=>zrr (N:=N) hbk (by omega)) _ _ h10 b10
 exact ⟨⟨nm,tb,bf,ev,of,ea,pr,fo,rk,wn,ac⟩,⟨zcY hk4.1,zcY hk6.1,zcY hk7.1,zcY hk8.1,zcY hk9.1,hk9.2,zcY hk10.1,hk10.2⟩,.all (.app r0 rfl (.app r1 rfl (.app r2 rfl (.app r3 rfl (.app r4 rfl (.app r5 rfl (.app r6 rfl (.app r7 rfl (.app r8 rfl (.app r9 rfl (.app r10 rfl (.fin hl))))))))))))⟩
theorem rdTriggers (hbk:Bulk bk) {n:Nat}:Rdr enc bk W n Ty.LTrigger (fun l:List Tg=>[.sl (l.map Tg.cells)]) (fun l=>l.length≤zdI∧∀ t∈l,TgSh n t) :=
 zbZ (e:=Ty.Trigger) (sz:=11) hbk kr kr (by decide) (fun _=>rfl) fun k hk=>zqN hbk (by omega)
theorem rdStrs (hbk:Bulk bk) {n:Nat}:Rdr enc bk W n Ty.Lstring (fun l:List Str=>[ssl l]) (fun l=>l.length≤zdI∧∀ t∈l,True) :=
 zbZ (e:=Ty.string) (sz:=1) hbk kr kr (by decide) (fun _=>rfl) fun _ _=>zdA kr
theorem rdInts (hbk:Bulk bk) {n:Nat}:Rdr enc bk W n Ty.Lint (fun l:List Int=>[isl l]) (fun l=>l.length≤zdI∧∀ t∈l,True) :=
 zbZ (e:=Ty.int) (sz:=1) hbk kr kr (by decide) (fun _=>rfl) fun _ _=>zgB kr
end
end Go.AM
