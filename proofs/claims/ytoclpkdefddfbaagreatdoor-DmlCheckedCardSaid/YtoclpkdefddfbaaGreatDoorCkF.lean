/-
  Contracts of the program's functions, part 5.
-/
import Derived.Test.YtoclpkdefddfbaaGreatDoorCkE
set_option linter.unusedSimpArgs false
set_option linter.unusedVariables false
namespace Go.AM
set_option maxRecDepth 100000
set_option maxHeartbeats 1000000
set_option linter.unusedSimpArgs false
set_option linter.unusedVariables false
def zff (frs:List Fr) (w:Int) (l:List X):Prop:=∀ x∈l,ColT frs w x
theorem zff.app {frs:List Fr} {w:Int} {l:List X} {x:X} (h:zff frs w l) (hx:ColT frs w x):zff frs w (l++[x]):=fun y hy=>(List.mem_append.1 hy).elim (h y) fun h=>by simp only [List.mem_singleton] at h;exact h ▸ hx
theorem zfO {frs:List Fr} {w:Int} {io i:Nat} {f:Fr} {c:Col} (hf:frs[io]?=some f) (hx:f.cols[i]?=some c) (hw:(c.type != w)=false):ColT frs w (xCol f.name c.name) :=
 ⟨io,f,c,f.name,hf,List.mem_of_getElem? hx,by simpa using hw,rfl,.inl rfl⟩
theorem zmy {frs:List Fr} {w:Int} {io i:Nat} {f:Fr} {c:Col} (hf:frs[io]?=some f) (hx:f.cols[i]?=some c) (hw:(c.type != w)=false) (hs:(!f.strict)=true) (he:((io:Int)==IntKind.i64.wrap (((frs.map Fr.cells).length:Int) - 1))=true) (hl:frs.length≤1000):ColT frs w (xCol ⟨#[]⟩ c.name) :=
 ⟨io,f,c,⟨#[]⟩,hf,List.mem_of_getElem? hx,by simpa using hw,rfl,.inr ⟨rfl,by simpa using hs,by rw [IntKind.wrap_i64] at he;simp at he;omega⟩⟩
noncomputable def zrf (t0:Tp) (p:Pl) (w:Int) (i:Nat) (l:List X):Cfg:=zar B.world_Tape_column 0 [(0,.p 0 0),(2,iv w),(4,.p 1 0),(6,.p 2 0),(8,.own 3 l.length),(14,fsl p.frs),(15,iv ((p.frs.map Fr.cells).length:Nat)),(16,iv (i:Nat))] [.box t0.cells,.box p.cells,.box zX,.row Ty.Expr (zab l) false]
noncomputable def zqZ (t0:Tp) (p:Pl) (w:Int) (io:Nat) (f:Fr) (i:Nat) (l:List X):Cfg:=zar B.world_Tape_column 1 [(0,.p 0 0),(2,iv w),(4,.p 1 0),(6,.p 2 0),(8,.own 3 l.length),(9,iv (io:Nat)),(10,.p 4 0),(14,fsl p.frs),(15,iv ((p.frs.map Fr.cells).length:Nat)),(16,iv (io:Nat)),(22,.sl (f.cols.map Col.cells)),(23,iv ((f.cols.map Col.cells).length:Nat)),(24,iv (i:Nat))] [.box t0.cells,.box p.cells,.box zX,.row Ty.Expr (zab l) false,.box f.cells]
theorem zex (t0:Tp) (p:Pl) (w:Int) (io:Nat) (f:Fr) (hl:Few f.cols) (hio:io≤1000) (hfi:p.frs[io]?=some f) (hfl:p.frs.length≤1000) (i:Nat) (l:List X) (hi:i≤(f.cols).length) (hI:l.length+2 * (f.cols.length - i)≤2000 * (io+1)∧zff p.frs w l):∃ (l':List X),(l'.length+2 * (f.cols.length - (f.cols).length)≤2000 * (io+1)∧zff p.frs w l')∧(decide ((((f.cols).length:Nat):Int) < (((f.cols.map Col.cells).length:Nat):Int))=false)∧∀ R,Good E0 B.world_Tape_column [.box t0.cells] (zqZ t0 p w io f (f.cols).length l') R→Good E0 B.world_Tape_column [.box t0.cells] (zqZ t0 p w io f i l) R:=by
 obtain ⟨kk,hk⟩:∃ kk,i+kk=(f.cols).length:=⟨(f.cols).length - i,by omega⟩
 induction kk generalizing i l with
 | zero =>
  have e0:i=(f.cols).length:=by omega
  subst e0
  exact ⟨l,hI,by simp,fun R hg=>hg⟩
 | succ kk ih =>
  obtain ⟨x,hx⟩:=zay (l:=f.cols) (i:=i) (by omega)
  have h0:decide (((i:Nat):Int) < (((f.cols.map Col.cells).length:Nat):Int))=true:=by simp;omega
  have hw:IntKind.i64.wrap (((i:Nat):Int)+1)=((i+1:Nat):Int):=zao i (by first|omega|(simp only [zad,Few] at *;omega))
  have hil:=zcj hx;have hlen:l.length≤2002000:=by omega
  let p_1:List St:=[sb h0,se (zah Col.cells hx rfl)]
  cases h1:x.type != w
  ·let p_2:List St:=p_1++[sb h1,sc (zd2 f.name x.name),sqx (AllLen [[iv (xCol f.name x.name).kind,iv (xCol f.name x.name).op,bv (xCol f.name x.name).not,iv (xCol f.name x.name).val.kind,iv (xCol f.name x.name).val.int,sv (xCol f.name x.name).val.text,sv (xCol f.name x.name).table,sv (xCol f.name x.name).name,AV.sl (zab []),AV.sl (zaf [])]] 10∧l.length=(zab l).length∧(((zab l).length+[[iv (xCol f.name x.name).kind,iv (xCol f.name x.name).op,bv (xCol f.name x.name).not,iv (xCol f.name x.name).val.kind,iv (xCol f.name x.name).val.int,sv (xCol f.name x.name).val.text,sv (xCol f.name x.name).table,sv (xCol f.name x.name).name,AV.sl (zab []),AV.sl (zaf [])]].length) * 136).le 140737488355328)]
   cases h2:!f.strict
   ·obtain ⟨lZ,qZ,xZ,gZ⟩:=ih (i+1) (l++[xCol f.name x.name]) (by omega) (by exact ⟨by (try simp only [List.length_append,List.length_cons,List.length_nil]);omega,by first|exact hI.2|exact hI.2.app (zfO hfi hx (by assumption))|exact (hI.2.app (zfO hfi hx (by assumption))).app (zmy hfi hx (by assumption) (by assumption) (by assumption) hfl)⟩) (by omega);exact ⟨lZ,qZ,xZ,fun R hg=>zaa (wkl (p_2++[sb h2,si hw]) [0,2,4,6,8,9,10,14,15,16,22,23,24] 5 kr (zat (show ([(0,AV.p 0 0),(2,iv w),(4,AV.p 1 0),(6,AV.p 2 0),(8,AV.own 3 (zab l++[[iv (xCol f.name x.name).kind,iv (xCol f.name x.name).op,bv (xCol f.name x.name).not,iv (xCol f.name x.name).val.kind,iv (xCol f.name x.name).val.int,sv (xCol f.name x.name).val.text,sv (xCol f.name x.name).table,sv (xCol f.name x.name).name,AV.sl (zab []),AV.sl (zaf [])]]).length),(9,iv (io:Int)),(10,AV.p 4 0),(14,AV.sl (List.map Fr.cells p.frs)),(15,iv (↑(List.map Fr.cells p.frs).length:Int)),(16,iv (io:Int)),(22,AV.sl (List.map Col.cells f.cols)),(23,iv (↑(List.map Col.cells f.cols).length:Int)),(24,iv (↑(i+1):Int))]:TS)=_ by first|rfl|(simp;done)|(simp [X.cells,Qy.cells,V.cells,Col.cells,Rw.cells,Tb.cells,Fr.cells,Sch.cells,Tp.cells,Pl.cells,xCol,xLit,xBin,xNeg];done)) (show ([Blk.box [AV.sl (List.map (fun n=>[iv n]) t0.l),iv (t0.pos:Int)],Blk.box [AV.sl (List.map Fr.cells p.frs),AV.sl (List.map Sch.cells p.tbs)],Blk.box [iv 0,iv 0,AV.bl false,iv 0,iv 0,sv (ByteArray.mk #[]),sv (ByteArray.mk #[]),sv (ByteArray.mk #[]),AV.nl,AV.nl],Blk.row Ty.Expr (zab l++[[iv (xCol f.name x.name).kind,iv (xCol f.name x.name).op,bv (xCol f.name x.name).not,iv (xCol f.name x.name).val.kind,iv (xCol f.name x.name).val.int,sv (xCol f.name x.name).val.text,sv (xCol f.name x.name).table,sv (xCol f.name x.name).name,AV.sl (zab []),AV.sl (zaf [])]]) false,Blk.box [sv f.name,bv f.strict,AV.sl (List.map Col.cells f.cols),AV.sl (List.map V.cells f.vals)]]:Heap)=_ by first|rfl|(simp;done)|(simp [X.cells,Qy.cells,V.cells,Col.cells,Rw.cells,Tb.cells,Fr.cells,Sch.cells,Tp.cells,Pl.cells,xCol,xLit,xBin,xNeg];done)) (gZ R hg)))⟩
   ·let p_3:List St:=p_2++[sg h2,si (e:=IntKind.i64.wrap ((↑(List.map Fr.cells p.frs).length:Int) - 1)) rfl]
    cases h3:(io:Int)==IntKind.i64.wrap ((↑(List.map Fr.cells p.frs).length:Int) - 1)
    ·obtain ⟨lZ,qZ,xZ,gZ⟩:=ih (i+1) (l++[xCol f.name x.name]) (by omega) (by exact ⟨by (try simp only [List.length_append,List.length_cons,List.length_nil]);omega,by first|exact hI.2|exact hI.2.app (zfO hfi hx (by assumption))|exact (hI.2.app (zfO hfi hx (by assumption))).app (zmy hfi hx (by assumption) (by assumption) (by assumption) hfl)⟩) (by omega);exact ⟨lZ,qZ,xZ,fun R hg=>zaa (wkl (p_3++[sb h3,si hw]) [0,2,4,6,8,9,10,14,15,16,22,23,24] 5 kr (zat (show ([(0,AV.p 0 0),(2,iv w),(4,AV.p 1 0),(6,AV.p 2 0),(8,AV.own 3 (zab l++[[iv (xCol f.name x.name).kind,iv (xCol f.name x.name).op,bv (xCol f.name x.name).not,iv (xCol f.name x.name).val.kind,iv (xCol f.name x.name).val.int,sv (xCol f.name x.name).val.text,sv (xCol f.name x.name).table,sv (xCol f.name x.name).name,AV.sl (zab []),AV.sl (zaf [])]]).length),(9,iv (io:Int)),(10,AV.p 4 0),(14,AV.sl (List.map Fr.cells p.frs)),(15,iv (↑(List.map Fr.cells p.frs).length:Int)),(16,iv (io:Int)),(22,AV.sl (List.map Col.cells f.cols)),(23,iv (↑(List.map Col.cells f.cols).length:Int)),(24,iv (↑(i+1):Int))]:TS)=_ by first|rfl|(simp;done)|(simp [X.cells,Qy.cells,V.cells,Col.cells,Rw.cells,Tb.cells,Fr.cells,Sch.cells,Tp.cells,Pl.cells,xCol,xLit,xBin,xNeg];done)) (show ([Blk.box [AV.sl (List.map (fun n=>[iv n]) t0.l),iv (t0.pos:Int)],Blk.box [AV.sl (List.map Fr.cells p.frs),AV.sl (List.map Sch.cells p.tbs)],Blk.box [iv 0,iv 0,AV.bl false,iv 0,iv 0,sv (ByteArray.mk #[]),sv (ByteArray.mk #[]),sv (ByteArray.mk #[]),AV.nl,AV.nl],Blk.row Ty.Expr (zab l++[[iv (xCol f.name x.name).kind,iv (xCol f.name x.name).op,bv (xCol f.name x.name).not,iv (xCol f.name x.name).val.kind,iv (xCol f.name x.name).val.int,sv (xCol f.name x.name).val.text,sv (xCol f.name x.name).table,sv (xCol f.name x.name).name,AV.sl (zab []),AV.sl (zaf [])]]) false,Blk.box [sv f.name,bv f.strict,AV.sl (List.map Col.cells f.cols),AV.sl (List.map V.cells f.vals)]]:Heap)=_ by first|rfl|(simp;done)|(simp [X.cells,Qy.cells,V.cells,Col.cells,Rw.cells,Tb.cells,Fr.cells,Sch.cells,Tp.cells,Pl.cells,xCol,xLit,xBin,xNeg];done)) (gZ R hg)))⟩
    ·obtain ⟨lZ,qZ,xZ,gZ⟩:=ih (i+1) (l++[xCol f.name x.name]++[xCol (ByteArray.mk #[]) x.name]) (by omega) (by exact ⟨by (try simp only [List.length_append,List.length_cons,List.length_nil]);omega,by first|exact hI.2|exact hI.2.app (zfO hfi hx (by assumption))|exact (hI.2.app (zfO hfi hx (by assumption))).app (zmy hfi hx (by assumption) (by assumption) (by assumption) hfl)⟩) (by omega);exact ⟨lZ,qZ,xZ,fun R hg=>zaa (wkl (p_3++[sb h3,sc (zd2 (ByteArray.mk #[]) x.name),sqx (AllLen [[iv (xCol (ByteArray.mk #[]) x.name).kind,iv (xCol (ByteArray.mk #[]) x.name).op,bv (xCol (ByteArray.mk #[]) x.name).not,iv (xCol (ByteArray.mk #[]) x.name).val.kind,iv (xCol (ByteArray.mk #[]) x.name).val.int,sv (xCol (ByteArray.mk #[]) x.name).val.text,sv (xCol (ByteArray.mk #[]) x.name).table,sv (xCol (ByteArray.mk #[]) x.name).name,AV.sl (zab []),AV.sl (zaf [])]] 10∧(zab l++[[iv (xCol f.name x.name).kind,iv (xCol f.name x.name).op,bv (xCol f.name x.name).not,iv (xCol f.name x.name).val.kind,iv (xCol f.name x.name).val.int,sv (xCol f.name x.name).val.text,sv (xCol f.name x.name).table,sv (xCol f.name x.name).name,AV.sl (zab []),AV.sl (zaf [])]]).length=(zab l++[[iv (xCol f.name x.name).kind,iv (xCol f.name x.name).op,bv (xCol f.name x.name).not,iv (xCol f.name x.name).val.kind,iv (xCol f.name x.name).val.int,sv (xCol f.name x.name).val.text,sv (xCol f.name x.name).table,sv (xCol f.name x.name).name,AV.sl (zab []),AV.sl (zaf [])]]).length∧(((zab l++[[iv (xCol f.name x.name).kind,iv (xCol f.name x.name).op,bv (xCol f.name x.name).not,iv (xCol f.name x.name).val.kind,iv (xCol f.name x.name).val.int,sv (xCol f.name x.name).val.text,sv (xCol f.name x.name).table,sv (xCol f.name x.name).name,AV.sl (zab []),AV.sl (zaf [])]]).length+[[iv (xCol (ByteArray.mk #[]) x.name).kind,iv (xCol (ByteArray.mk #[]) x.name).op,bv (xCol (ByteArray.mk #[]) x.name).not,iv (xCol (ByteArray.mk #[]) x.name).val.kind,iv (xCol (ByteArray.mk #[]) x.name).val.int,sv (xCol (ByteArray.mk #[]) x.name).val.text,sv (xCol (ByteArray.mk #[]) x.name).table,sv (xCol (ByteArray.mk #[]) x.name).name,AV.sl (zab []),AV.sl (zaf [])]].length) * 136).le 140737488355328),si hw]) [0,2,4,6,8,9,10,14,15,16,22,23,24] 5 kr (zat (show ([(0,AV.p 0 0),(2,iv w),(4,AV.p 1 0),(6,AV.p 2 0),(8,AV.own 3 (zab l++[[iv (xCol f.name x.name).kind,iv (xCol f.name x.name).op,bv (xCol f.name x.name).not,iv (xCol f.name x.name).val.kind,iv (xCol f.name x.name).val.int,sv (xCol f.name x.name).val.text,sv (xCol f.name x.name).table,sv (xCol f.name x.name).name,AV.sl (zab []),AV.sl (zaf [])]]++[[iv (xCol (ByteArray.mk #[]) x.name).kind,iv (xCol (ByteArray.mk #[]) x.name).op,bv (xCol (ByteArray.mk #[]) x.name).not,iv (xCol (ByteArray.mk #[]) x.name).val.kind,iv (xCol (ByteArray.mk #[]) x.name).val.int,sv (xCol (ByteArray.mk #[]) x.name).val.text,sv (xCol (ByteArray.mk #[]) x.name).table,sv (xCol (ByteArray.mk #[]) x.name).name,AV.sl (zab []),AV.sl (zaf [])]]).length),(9,iv (io:Int)),(10,AV.p 4 0),(14,AV.sl (List.map Fr.cells p.frs)),(15,iv (↑(List.map Fr.cells p.frs).length:Int)),(16,iv (io:Int)),(22,AV.sl (List.map Col.cells f.cols)),(23,iv (↑(List.map Col.cells f.cols).length:Int)),(24,iv (↑(i+1):Int))]:TS)=_ by first|rfl|(simp;done)|(simp [X.cells,Qy.cells,V.cells,Col.cells,Rw.cells,Tb.cells,Fr.cells,Sch.cells,Tp.cells,Pl.cells,xCol,xLit,xBin,xNeg];done)) (show ([Blk.box [AV.sl (List.map (fun n=>[iv n]) t0.l),iv (t0.pos:Int)],Blk.box [AV.sl (List.map Fr.cells p.frs),AV.sl (List.map Sch.cells p.tbs)],Blk.box [iv 0,iv 0,AV.bl false,iv 0,iv 0,sv (ByteArray.mk #[]),sv (ByteArray.mk #[]),sv (ByteArray.mk #[]),AV.nl,AV.nl],Blk.row Ty.Expr (zab l++[[iv (xCol f.name x.name).kind,iv (xCol f.name x.name).op,bv (xCol f.name x.name).not,iv (xCol f.name x.name).val.kind,iv (xCol f.name x.name).val.int,sv (xCol f.name x.name).val.text,sv (xCol f.name x.name).table,sv (xCol f.name x.name).name,AV.sl (zab []),AV.sl (zaf [])]]++[[iv (xCol (ByteArray.mk #[]) x.name).kind,iv (xCol (ByteArray.mk #[]) x.name).op,bv (xCol (ByteArray.mk #[]) x.name).not,iv (xCol (ByteArray.mk #[]) x.name).val.kind,iv (xCol (ByteArray.mk #[]) x.name).val.int,sv (xCol (ByteArray.mk #[]) x.name).val.text,sv (xCol (ByteArray.mk #[]) x.name).table,sv (xCol (ByteArray.mk #[]) x.name).name,AV.sl (zab []),AV.sl (zaf [])]]) false,Blk.box [sv f.name,bv f.strict,AV.sl (List.map Col.cells f.cols),AV.sl (List.map V.cells f.vals)]]:Heap)=_ by first|rfl|(simp;done)|(simp [X.cells,Qy.cells,V.cells,Col.cells,Rw.cells,Tb.cells,Fr.cells,Sch.cells,Tp.cells,Pl.cells,xCol,xLit,xBin,xNeg];done)) (gZ R hg)))⟩
  ·obtain ⟨lZ,qZ,xZ,gZ⟩:=ih (i+1) l (by omega) (by exact ⟨by (try simp only [List.length_append,List.length_cons,List.length_nil]);omega,by first|exact hI.2|exact hI.2.app (zfO hfi hx (by assumption))|exact (hI.2.app (zfO hfi hx (by assumption))).app (zmy hfi hx (by assumption) (by assumption) (by assumption) hfl)⟩) (by omega);exact ⟨lZ,qZ,xZ,fun R hg=>zaa (wkl (p_1++[sb h1,si hw]) [0,2,4,6,8,9,10,14,15,16,22,23,24] 5 kr (gZ R hg))⟩
theorem zey (t0:Tp) (p:Pl) (w:Int) (hf:Few p.frs) (hc:∀ f∈p.frs,Few f.cols) (i:Nat) (l:List X) (hi:i≤(p.frs).length) (hI:l.length≤2000 * i∧zff p.frs w l):∃ (l':List X),(l'.length≤2000 * (p.frs).length∧zff p.frs w l')∧(decide ((((p.frs).length:Nat):Int) < (((p.frs.map Fr.cells).length:Nat):Int))=false)∧∀ R,Good E0 B.world_Tape_column [.box t0.cells] (zrf t0 p w (p.frs).length l') R→Good E0 B.world_Tape_column [.box t0.cells] (zrf t0 p w i l) R:=by
 obtain ⟨kk,hk⟩:∃ kk,i+kk=(p.frs).length:=⟨(p.frs).length - i,by omega⟩
 induction kk generalizing i l with
 | zero =>
  have e0:i=(p.frs).length:=by omega
  subst e0
  exact ⟨l,hI,by simp,fun R hg=>hg⟩
 | succ kk ih =>
  obtain ⟨x,hx⟩:=zay (l:=p.frs) (i:=i) (by omega)
  have h0:decide (((i:Nat):Int) < (((p.frs.map Fr.cells).length:Nat):Int))=true:=by simp;omega
  have hw:IntKind.i64.wrap (((i:Nat):Int)+1)=((i+1:Nat):Int):=zao i (by first|omega|(simp only [zad,Few] at *;omega))
  have hfx:=hc x (List.mem_of_getElem? hx);have hix:i≤1000:=by simp only [Few] at hf;omega
  obtain ⟨l1,q1,q1_1,g1⟩:=zex t0 p w i x (by first|assumption|(simp;done)|omega|exact ⟨by simp only [Few] at hfx;omega,hI.2⟩) (by first|assumption|(simp;done)|omega|exact ⟨by simp only [Few] at hfx;omega,hI.2⟩) (by first|assumption|(simp;done)|omega|exact ⟨by simp only [Few] at hfx;omega,hI.2⟩) (by first|assumption|(simp;done)|omega|exact ⟨by simp only [Few] at hfx;omega,hI.2⟩) 0 l (by first|assumption|(simp;done)|omega|exact ⟨by simp only [Few] at hfx;omega,hI.2⟩) (by first|assumption|(simp;done)|omega|exact ⟨by simp only [Few] at hfx;omega,hI.2⟩)
  obtain ⟨lZ,qZ,xZ,gZ⟩:=ih (i+1) l1 (by omega) (by first|trivial|assumption|(simp;done)|omega|(simp;omega)|(simp at *;omega)) (by omega);exact ⟨lZ,qZ,xZ,fun R hg=>zaa (wkl [sb h0,se (zah Fr.cells hx rfl)] [0,2,4,6,8,9,10,14,15,16,22,23,24] 5 kr (g1 _ (zaa (wkl [sb q1_1,si hw] [0,2,4,6,8,14,15,16] 4 kr (gZ R hg)))))⟩
theorem zeq (frs:List Fr) (w:Int):zff frs w []:=fun _ h=>by cases h
theorem zcn (t:Tp) (p:Pl) (w:Int) (hf:Few p.frs) (hc:∀ f∈p.frs,Few f.cols):∃ (x:X) (ok:Bool) (t':Tp),(ok=true→ColT p.frs w x)∧zac E0 S.world_Tape_column [.p 0 0,p.av,iv w] [.box t.cells] (.tup [x.av,bv ok]) [.box t'.cells]:=by
 obtain ⟨l1,q1,q1_1,g1⟩:=zey t p w (by first|assumption|exact ⟨by simp,zeq _ _⟩|exact zgh (by assumption) (by omega)|omega) (by first|assumption|exact ⟨by simp,zeq _ _⟩|exact zgh (by assumption) (by omega)|omega) 0 ([]) (by first|assumption|exact ⟨by simp,zeq _ _⟩|exact zgh (by assumption) (by omega)|omega) (by first|assumption|exact ⟨by simp,zeq _ _⟩|exact zgh (by assumption) (by omega)|omega)
 let p_1:List St:=[sb q1_1,sqx (l1.length=(zab l1).length)]
 cases h2:(l1.length:Int)==0
 ·obtain ⟨a3,t3,q3,c3⟩:=(zak t ((l1.length:Int)) (by first|assumption|exact ⟨by simp,zeq _ _⟩|exact zgh (by assumption) (by omega)|omega))
  obtain ⟨x4,e4⟩:=zay (l:=l1) (i:=(a3:Int).toNat) (by first|assumption|exact ⟨by simp,zeq _ _⟩|exact zgh (by assumption) (by omega)|omega)
  exact ⟨x4,true,t3,(by first|(simp;done)|exact fun _=>(‹_∧zff _ _ _›).2 _ (List.mem_of_getElem? (by assumption))),wkcN At.world_Tape_column [] [0,2,4,6,8,14,15,16] 3 [(.ot 8 Ty.Expr,4)] kr (g1 _ (zaa (wkr (p_1++[sb h2,sqx (l1.length=(zab l1).length),sl [0] c3,sqx (OwnAt (zab l1) l1.length (a3:Int)),sx (.el x4.cells) (zv3 (n:=l1.length) (by simp) e4)]) kr)))⟩
 ·exact ⟨X.mk 0 0 false (V.mk 0 0 (ByteArray.mk #[])) (ByteArray.mk #[]) (ByteArray.mk #[]) [] [],false,t,(by first|(simp;done)|exact fun _=>(‹_∧zff _ _ _›).2 _ (List.mem_of_getElem? (by assumption))),wkcN At.world_Tape_column [] [0,2,4,6,8,14,15,16] 3 [(.ot 8 Ty.Expr,4)] kr (g1 _ (zaa (wkr (p_1++[sb h2]) kr)))⟩
section
variable {tbs : List Sch} {n : Nat} {frs : List Fr} {w : Int} {a b : X}
theorem zmB {a:Int} (h:-9223372036854775808 < a) (h2:a≤9223372036854775807):XT tbs (n+2) frs 1 (xNum a):=by
 unfold xNum
 cases hd:decide (a < 0)
 ·simp only [decide_eq_false_iff_not] at hd
  exact .lit (zbS ⟨by omega,by omega⟩) (.inr rfl) (fun _=>by show (0:Int)≤a;omega)
 ·simp only [decide_eq_true_eq] at hd
  have hw:IntKind.i64.wrap (-a)=-a:=by rw [IntKind.wrap_i64];omega
  exact .un (.inr ⟨rfl,rfl⟩) (.lit (zbS (zcY _)) (.inr rfl) (fun _=>by show (0:Int)≤IntKind.i64.wrap (-a);omega))
theorem zaz {a:Int} (hw:(w==1)=true) (h:-9223372036854775808 < a) (h2:a≤9223372036854775807):XT tbs (n+2) frs w (xNum a):=by
 rw [show w=1 by simpa using hw];exact zmB h h2
theorem zax {v:V} (hw:(w==1)=false) (h:v.kind=zbD w∧v.Good):XT tbs (n+1) frs w (xLit v):=by
 have h1:w≠1:=by simpa using hw
 refine .lit h.2 ?_ fun h2=>?_
 ·rw [h.1];unfold zbD;split
  ·exact .inr rfl
  ·exact .inl rfl
 ·exfalso;rw [h.1] at h2;unfold zbD at h2;split at h2 <;> omega
theorem zaD {op:Int} (hw:(w==1)=true) (ho:9≤op∧op≤13) (ha:XT tbs n frs w a) (hb:XT tbs n frs w b):XT tbs (n+1) frs w (xA 5 op false [a,b]):=by
 have e:w=1:=by simpa using hw
 subst e
 exact .bin (.inr (.inr ⟨ho.1,ho.2,rfl,rfl⟩)) ha hb
theorem zaW (hw:(w==1)=true) (ha:XT tbs n frs w a):XT tbs (n+1) frs w (xA 4 0 false [a]):=by
 have e:w=1:=by simpa using hw
 subst e
 exact .un (.inr ⟨rfl,rfl⟩) ha
theorem zdW {op w':Int} (ho:3≤op∧op≤8) (ha:XT tbs n frs w' a) (hb:XT tbs n frs w' b):XT tbs (n+1) frs 2 (xA 5 op false [a,b]):=.bin (.inr (.inl ⟨ho.1,ho.2,rfl⟩)) ha hb
theorem zdT {op:Int} (ho:1≤op∧op≤2) (ha:XT tbs n frs 2 a) (hb:XT tbs n frs 2 b):XT tbs (n+1) frs 2 (xA 5 op false [a,b]):=.bin (.inl ⟨ho.1,ho.2,rfl,rfl⟩) ha hb
theorem zba {k:Int} (hw:(w==1)=true) (h:XT tbs n frs (bif k==8 then 2 else 1) a) (hk:(k==8)=false):XT tbs n frs w a:=by
 rw [show w=1 by simpa using hw];rw [hk] at h;exact h
theorem za9 (hw:(w==2)=true) (h:XT tbs n frs 2 a):XT tbs n frs w a:=by
 rw [show w=2 by simpa using hw];exact h
theorem zaV {k:Nat} (h:(k:Int) < 6):9≤opAt k∧opAt k≤13:=by
 have h:k=0∨k=1∨k=2∨k=3∨k=4∨k=5:=by omega
 rcases h with rfl|rfl|rfl|rfl|rfl|rfl <;> decide
theorem zlN {k:Int} (h:8≤k∧k≤12) (h2:decide (10≤k)=false):QryT k (bif k==8 then 2 else 1) (k==8) 0:=by
 simp only [decide_eq_false_iff_not] at h2
 have:k=8∨k=9:=by omega
 rcases this with rfl|rfl
 ·exact .inl ⟨rfl,rfl,rfl,rfl⟩
 ·exact .inr (.inl ⟨rfl,rfl,rfl,rfl⟩)
theorem zmI {k:Int} (h:8≤k∧k≤12) (h2:decide (10≤k)=true):QryT k (bif k==8 then 2 else 1) (k==8) 1:=by
 simp only [decide_eq_true_eq] at h2
 have:k=10∨k=11∨k=12:=by omega
 rcases this with rfl|rfl|rfl <;> exact .inr (.inr ⟨by omega,by omega,rfl,rfl,rfl⟩)
theorem xt0 {s:Sch} {w:Int}:∀ x∈([]:List X),XT tbs n (frIn frs s) w x:=fun x hx=>by cases hx
theorem xt1 {s:Sch} {w:Int} (h:XT tbs n (frIn frs s) w a):∀ x∈[a],XT tbs n (frIn frs s) w x:=fun x hx=>by simp only [List.mem_singleton] at hx;exact hx ▸ h
end
def PIn (p pi:Pl):Prop:=∃ (k:Nat) (s:Sch),p.tbs[k]?=some s∧pi=plIn p s
abbrev RecT (n m:Nat) (d:Int):Prop:=∀ (t:Tp) (p:Pl) (w:Int),p.OkN n→∃ (e:X) (t':Tp),XT p.tbs m p.frs w e∧zac E0 S.world_Tape_Expr [.p 0 0,p.av,iv w,iv d] [.box t.cells] e.av [.box t'.cells]
theorem zpS (t:Tp) (p:Pl) (m:Nat) (d:Int) (hf:∀ (t:Tp) (w:Int),∃ (e:X) (t':Tp),XT p.tbs m p.frs w e∧zac E0 S.world_Tape_Expr [.p 0 0,p.av,iv w,iv (IntKind.i64.wrap (d - 1))] [.box t.cells] e.av [.box t'.cells]):∃ (x:X) (t':Tp),XT p.tbs (m+1) p.frs 2 x∧zac E0 S.world_Tape_condition [.p 0 0,p.av,iv d] [.box t.cells] x.av [.box t'.cells]:=by
 obtain ⟨a1,t1,q1,c1⟩:=(zak t 3 (by first|assumption|omega|(simp;done)|(simp;omega)))
 obtain ⟨a2,t2,q2,c2⟩:=(zak t1 6 (by first|assumption|omega|(simp;done)|(simp;omega)))
 let p_1:List St:=[sl [0] c1,si (e:=IntKind.i64.wrap (1+(a1:Int))) rfl,sl [0] c2]
 cases h3:(a2:Int)==0
 ·cases h4:(a2:Int)==1
  ·cases h5:(a2:Int)==2
   ·cases h6:(a2:Int)==3
    ·obtain ⟨a7,t7,q7,c7⟩:=(zak t2 6 (by first|assumption|omega|(simp;done)|(simp;omega)))
     obtain ⟨e8,t8,q8,c8⟩:=(hf t7 (IntKind.i64.wrap (1+(a1:Int))))
     obtain ⟨e9,t9,q9,c9⟩:=(hf t8 (IntKind.i64.wrap (1+(a1:Int))))
     exact ⟨xBin (IntKind.i64.wrap (3+(a7:Int))) e8 e9,t9,(by first|exact .un (.inl ⟨rfl,rfl⟩) (by assumption)|exact .isn (by assumption)|exact .btw (by assumption) (by assumption) (by assumption)|exact zdT (by omega) (by assumption) (by assumption)|exact zdW (by omega) (by assumption) (by assumption)|exact zdT (by rw [IntKind.wrap_i64];omega) (by assumption) (by assumption)|exact zdW (by rw [IntKind.wrap_i64];omega) (by assumption) (by assumption)),wk At.world_Tape_condition (p_1++[sb h3,sb h4,sb h5,sb h6,sd [(7,[si (e:=IntKind.i64.wrap (d - 1)) rfl]),(13,[si (e:=IntKind.i64.wrap (d - 1)) rfl]),(1,[sl [0] c7]),(2,[si (e:=IntKind.i64.wrap (3+(a7:Int))) rfl]),(8,[sl [0] c8]),(14,[sl [0] c9]),(15,[sc (zbL (IntKind.i64.wrap (3+(a7:Int))) e8 e9)])]]) kr⟩
    ·obtain ⟨e10,t10,q10,c10⟩:=(hf t2 1)
     obtain ⟨e11,t11,q11,c11⟩:=(hf t10 1)
     obtain ⟨e12,t12,q12,c12⟩:=(hf t11 1)
     exact ⟨X.mk 7 0 false (V.mk 0 0 (ByteArray.mk #[])) (ByteArray.mk #[]) (ByteArray.mk #[]) [e10,e11,e12] [],t12,(by first|exact .un (.inl ⟨rfl,rfl⟩) (by assumption)|exact .isn (by assumption)|exact .btw (by assumption) (by assumption) (by assumption)|exact zdT (by omega) (by assumption) (by assumption)|exact zdW (by omega) (by assumption) (by assumption)|exact zdT (by rw [IntKind.wrap_i64];omega) (by assumption) (by assumption)|exact zdW (by rw [IntKind.wrap_i64];omega) (by assumption) (by assumption)),(by (try simp only [X.av,Qy.av,V.av,Tb.av,Sch.av,Pl.av,xsl,fsl,vsl,tsl,List.map_append,List.map_cons,List.map_nil,V.cells,Col.cells,Rw.cells,Tb.cells,Fr.cells,Sch.cells,Pl.cells,za7,zaO,zaU,zaS,za0,X.cells,Qy.cells,X.args_mk,X.sub_mk,Qy.items_mk,Qy.wh_mk,xCol,xLit,xBin,xNeg]);exact wk At.world_Tape_condition (p_1++[sb h3,sb h4,sb h5,sb h6,sd [(3,[si (e:=IntKind.i64.wrap (d - 1)) rfl]),(8,[si (e:=IntKind.i64.wrap (d - 1)) rfl]),(13,[si (e:=IntKind.i64.wrap (d - 1)) rfl]),(4,[sl [0] c10]),(9,[sl [0] c11]),(14,[sl [0] c12])]]) kr)⟩
   ·obtain ⟨b13,t13,c13⟩:=(zam t2 2 (by first|assumption|omega|(simp;done)|(simp;omega)))
    obtain ⟨e14,t14,q14,c14⟩:=(hf t13 (IntKind.i64.wrap (1+(a1:Int))))
    exact ⟨X.mk 6 0 b13 (V.mk 0 0 (ByteArray.mk #[])) (ByteArray.mk #[]) (ByteArray.mk #[]) [e14] [],t14,(by first|exact .un (.inl ⟨rfl,rfl⟩) (by assumption)|exact .isn (by assumption)|exact .btw (by assumption) (by assumption) (by assumption)|exact zdT (by omega) (by assumption) (by assumption)|exact zdW (by omega) (by assumption) (by assumption)|exact zdT (by rw [IntKind.wrap_i64];omega) (by assumption) (by assumption)|exact zdW (by rw [IntKind.wrap_i64];omega) (by assumption) (by assumption)),(by (try simp only [X.av,Qy.av,V.av,Tb.av,Sch.av,Pl.av,xsl,fsl,vsl,tsl,List.map_append,List.map_cons,List.map_nil,V.cells,Col.cells,Rw.cells,Tb.cells,Fr.cells,Sch.cells,Pl.cells,za7,zaO,zaU,zaS,za0,X.cells,Qy.cells,X.args_mk,X.sub_mk,Qy.items_mk,Qy.wh_mk,xCol,xLit,xBin,xNeg]);exact wk At.world_Tape_condition (p_1++[sb h3,sb h4,sb h5,sd [(6,[si (e:=IntKind.i64.wrap (d - 1)) rfl]),(1,[sl [0] c13]),(7,[sl [0] c14])]]) kr)⟩
  ·obtain ⟨a15,t15,q15,c15⟩:=(zak t2 2 (by first|assumption|omega|(simp;done)|(simp;omega)))
   obtain ⟨e16,t16,q16,c16⟩:=(hf t15 2)
   obtain ⟨e17,t17,q17,c17⟩:=(hf t16 2)
   exact ⟨xBin (IntKind.i64.wrap (1+(a15:Int))) e16 e17,t17,(by first|exact .un (.inl ⟨rfl,rfl⟩) (by assumption)|exact .isn (by assumption)|exact .btw (by assumption) (by assumption) (by assumption)|exact zdT (by omega) (by assumption) (by assumption)|exact zdW (by omega) (by assumption) (by assumption)|exact zdT (by rw [IntKind.wrap_i64];omega) (by assumption) (by assumption)|exact zdW (by rw [IntKind.wrap_i64];omega) (by assumption) (by assumption)),wk At.world_Tape_condition (p_1++[sb h3,sb h4,sd [(6,[si (e:=IntKind.i64.wrap (d - 1)) rfl]),(11,[si (e:=IntKind.i64.wrap (d - 1)) rfl]),(1,[sl [0] c15]),(2,[si (e:=IntKind.i64.wrap (1+(a15:Int))) rfl]),(7,[sl [0] c16]),(12,[sl [0] c17]),(13,[sc (zbL (IntKind.i64.wrap (1+(a15:Int))) e16 e17)])]]) kr⟩
 ·obtain ⟨e18,t18,q18,c18⟩:=(hf t2 2)
  exact ⟨X.mk 3 0 false (V.mk 0 0 (ByteArray.mk #[])) (ByteArray.mk #[]) (ByteArray.mk #[]) [e18] [],t18,(by first|exact .un (.inl ⟨rfl,rfl⟩) (by assumption)|exact .isn (by assumption)|exact .btw (by assumption) (by assumption) (by assumption)|exact zdT (by omega) (by assumption) (by assumption)|exact zdW (by omega) (by assumption) (by assumption)|exact zdT (by rw [IntKind.wrap_i64];omega) (by assumption) (by assumption)|exact zdW (by rw [IntKind.wrap_i64];omega) (by assumption) (by assumption)),(by (try simp only [X.av,Qy.av,V.av,Tb.av,Sch.av,Pl.av,xsl,fsl,vsl,tsl,List.map_append,List.map_cons,List.map_nil,V.cells,Col.cells,Rw.cells,Tb.cells,Fr.cells,Sch.cells,Pl.cells,za7,zaO,zaU,zaS,za0,X.cells,Qy.cells,X.args_mk,X.sub_mk,Qy.items_mk,Qy.wh_mk,xCol,xLit,xBin,xNeg]);exact wk At.world_Tape_condition (p_1++[sb h3,si (e:=IntKind.i64.wrap (d - 1)) rfl,sl [0] c18]) kr)⟩
theorem zuZ (t:Tp) (p:Pl) (kind:Int) (m:Nat) (d:Int) (hk:8≤kind∧kind≤12) (hps:Pos (((p.tbs.map Sch.cells).length:Nat):Int)) (hpf:zad p.frs) (hf1:∀ (t:Tp) (pi:Pl) (w:Int),PIn p pi→∃ (e:X) (t':Tp),XT p.tbs m pi.frs w e∧zac E0 S.world_Tape_Expr [.p 0 0,pi.av,iv w,iv (IntKind.i64.wrap (d - 1))] [.box t.cells] e.av [.box t'.cells]) (hf2:∀ (t:Tp) (pi:Pl) (w:Int),PIn p pi→∃ (e:X) (t':Tp),XT p.tbs m pi.frs w e∧zac E0 S.world_Tape_Expr [.p 0 0,pi.av,iv w,iv (IntKind.i64.wrap (d - 2))] [.box t.cells] e.av [.box t'.cells]):∃ (x:X) (t':Tp),XT p.tbs (m+1) p.frs (bif kind==8 then 2 else 1) x∧zac E0 S.world_Tape_query [.p 0 0,p.av,iv kind,iv d] [.box t.cells] x.av [.box t'.cells]:=by
 obtain ⟨a1,t1,q1,c1⟩:=(zak t ((↑(List.map Sch.cells p.tbs).length:Int)) (by first|assumption|exact ⟨_,_,by assumption,rfl⟩|(simp;done)|omega|(simp only [List.length_map] at *;omega)))
 obtain ⟨x2,e2⟩:=zay (l:=p.tbs) (i:=a1) (by first|assumption|exact ⟨_,_,by assumption,rfl⟩|(simp;done)|omega|(simp only [List.length_map] at *;omega))
 let p_1:List St:=[sdm [(6,[sl [0] c1]),(7,[se (zah Sch.cells e2 rfl)])] 0 [(0,AV.p 0 0),(1,AV.agg [AV.sl (List.map Fr.cells p.frs),AV.sl (List.map Sch.cells p.tbs)]),(2,iv kind),(3,iv d),(5,AV.p 1 0),(8,AV.p 2 0),(9,AV.p 3 0),(12,AV.p 1 1),(13,AV.sl (List.map Sch.cells p.tbs)),(14,AV.p 0 0),(15,AV.p 1 1),(16,AV.sl (List.map Sch.cells p.tbs)),(17,iv (↑(List.map Sch.cells p.tbs).length:Int)),(18,iv (a1:Int)),(19,AV.dp [sv x2.name,AV.sl (List.map Col.cells x2.cols)]),(20,AV.agg [sv x2.name,AV.sl (List.map Col.cells x2.cols)])] [Blk.box [AV.sl (List.map (fun n=>[iv n]) t1.l),iv (t1.pos:Int)],Blk.box [AV.sl (List.map Fr.cells p.frs),AV.sl (List.map Sch.cells p.tbs)],Blk.box [iv 0,iv 0,AV.bl false,iv 0,iv 0,sv (ByteArray.mk #[]),sv (ByteArray.mk #[]),sv (ByteArray.mk #[]),AV.nl,AV.nl],Blk.box [sv x2.name,AV.sl (List.map Col.cells x2.cols)]],sc (zfa p x2 (by first|assumption|exact ⟨_,_,by assumption,rfl⟩|(simp;done)|omega|(simp only [List.length_map] at *;omega)))]
 cases h3:decide (10≤kind)
 ·obtain ⟨b4,t4,c4⟩:=(zam t1 3 (by first|assumption|exact ⟨_,_,by assumption,rfl⟩|(simp;done)|omega|(simp only [List.length_map] at *;omega)))
  cases h5:!b4
  ·exact ⟨X.mk kind (0:Int) false (V.mk (0:Int) (0:Int) (ByteArray.mk #[])) (ByteArray.mk #[]) (ByteArray.mk #[]) [] [Qy.mk (kind==(8:Int)) [] x2.name []],t4,(by first|exact .qry (it:=[]) (List.mem_of_getElem? (by assumption)) (zlN hk (by assumption)) (by simp) (by exact xt0) (by first|exact xt0|exact xt1 (by assumption))|exact .qry (it:=[_]) (List.mem_of_getElem? (by assumption)) (zmI hk (by assumption)) (by simp) (by exact xt1 (by assumption)) (by first|exact xt0|exact xt1 (by assumption))),(by (try simp only [X.av,Qy.av,V.av,Tb.av,Sch.av,Pl.av,xsl,fsl,vsl,tsl,List.map_append,List.map_cons,List.map_nil,V.cells,Col.cells,Rw.cells,Tb.cells,Fr.cells,Sch.cells,Pl.cells,za7,zaO,zaU,zaS,za0,X.cells,Qy.cells,X.args_mk,X.sub_mk,Qy.items_mk,Qy.wh_mk,xCol,xLit,xBin,xNeg]);exact wk At.world_Tape_query (p_1++[sb h3,sl [0] c4,sb h5]) kr)⟩
  ·obtain ⟨e6,t6,q6,c6⟩:=(hf1 t4 (plIn p x2) 2 (by first|assumption|exact ⟨_,_,by assumption,rfl⟩|(simp;done)|omega|(simp only [List.length_map] at *;omega)))
   exact ⟨X.mk kind (0:Int) false (V.mk (0:Int) (0:Int) (ByteArray.mk #[])) (ByteArray.mk #[]) (ByteArray.mk #[]) [] [Qy.mk (kind==(8:Int)) [] x2.name [e6]],t6,(by first|exact .qry (it:=[]) (List.mem_of_getElem? (by assumption)) (zlN hk (by assumption)) (by simp) (by exact xt0) (by first|exact xt0|exact xt1 (by assumption))|exact .qry (it:=[_]) (List.mem_of_getElem? (by assumption)) (zmI hk (by assumption)) (by simp) (by exact xt1 (by assumption)) (by first|exact xt0|exact xt1 (by assumption))),(by (try simp only [X.av,Qy.av,V.av,Tb.av,Sch.av,Pl.av,xsl,fsl,vsl,tsl,List.map_append,List.map_cons,List.map_nil,V.cells,Col.cells,Rw.cells,Tb.cells,Fr.cells,Sch.cells,Pl.cells,za7,zaO,zaU,zaS,za0,X.cells,Qy.cells,X.args_mk,X.sub_mk,Qy.items_mk,Qy.wh_mk,xCol,xLit,xBin,xNeg]);exact wk At.world_Tape_query (p_1++[sb h3,sl [0] c4,sb h5,si (e:=IntKind.i64.wrap (d - 1)) rfl,sl [0] c6]) kr)⟩
 ·obtain ⟨e7,t7,q7,c7⟩:=(hf2 t1 (plIn p x2) 1 (by first|assumption|exact ⟨_,_,by assumption,rfl⟩|(simp;done)|omega|(simp only [List.length_map] at *;omega)))
  obtain ⟨b8,t8,c8⟩:=(zam t7 3 (by first|assumption|exact ⟨_,_,by assumption,rfl⟩|(simp;done)|omega|(simp only [List.length_map] at *;omega)))
  let p_2:List St:=p_1++[sb h3,si (e:=IntKind.i64.wrap (d - 2)) rfl,sl [0] c7,sl [0] c8]
  cases h9:!b8
  ·exact ⟨X.mk kind (0:Int) false (V.mk (0:Int) (0:Int) (ByteArray.mk #[])) (ByteArray.mk #[]) (ByteArray.mk #[]) [] [Qy.mk (kind==(8:Int)) [e7] x2.name []],t8,(by first|exact .qry (it:=[]) (List.mem_of_getElem? (by assumption)) (zlN hk (by assumption)) (by simp) (by exact xt0) (by first|exact xt0|exact xt1 (by assumption))|exact .qry (it:=[_]) (List.mem_of_getElem? (by assumption)) (zmI hk (by assumption)) (by simp) (by exact xt1 (by assumption)) (by first|exact xt0|exact xt1 (by assumption))),(by (try simp only [X.av,Qy.av,V.av,Tb.av,Sch.av,Pl.av,xsl,fsl,vsl,tsl,List.map_append,List.map_cons,List.map_nil,V.cells,Col.cells,Rw.cells,Tb.cells,Fr.cells,Sch.cells,Pl.cells,za7,zaO,zaU,zaS,za0,X.cells,Qy.cells,X.args_mk,X.sub_mk,Qy.items_mk,Qy.wh_mk,xCol,xLit,xBin,xNeg]);exact wk At.world_Tape_query (p_2++[sb h9]) kr)⟩
  ·obtain ⟨e10,t10,q10,c10⟩:=(hf1 t8 (plIn p x2) 2 (by first|assumption|exact ⟨_,_,by assumption,rfl⟩|(simp;done)|omega|(simp only [List.length_map] at *;omega)))
   exact ⟨X.mk kind (0:Int) false (V.mk (0:Int) (0:Int) (ByteArray.mk #[])) (ByteArray.mk #[]) (ByteArray.mk #[]) [] [Qy.mk (kind==(8:Int)) [e7] x2.name [e10]],t10,(by first|exact .qry (it:=[]) (List.mem_of_getElem? (by assumption)) (zlN hk (by assumption)) (by simp) (by exact xt0) (by first|exact xt0|exact xt1 (by assumption))|exact .qry (it:=[_]) (List.mem_of_getElem? (by assumption)) (zmI hk (by assumption)) (by simp) (by exact xt1 (by assumption)) (by first|exact xt0|exact xt1 (by assumption))),(by (try simp only [X.av,Qy.av,V.av,Tb.av,Sch.av,Pl.av,xsl,fsl,vsl,tsl,List.map_append,List.map_cons,List.map_nil,V.cells,Col.cells,Rw.cells,Tb.cells,Fr.cells,Sch.cells,Pl.cells,za7,zaO,zaU,zaS,za0,X.cells,Qy.cells,X.args_mk,X.sub_mk,Qy.items_mk,Qy.wh_mk,xCol,xLit,xBin,xNeg]);exact wk At.world_Tape_query (p_2++[sb h9,si (e:=IntKind.i64.wrap (d - 1)) rfl,sl [0] c10]) kr)⟩
theorem zpJ (t:Tp) (p:Pl) (w:Int) (d:Int) (hd:decide (d≤(0:Int))=true) (hd2:decide ((0:Int) < d)=false) (hcol:∀ (t:Tp) (w:Int),∃ (x:X) (ok:Bool) (t':Tp),(ok=true→ColT p.frs w x)∧zac E0 S.world_Tape_column [.p 0 0,p.av,iv w] [.box t.cells] (.tup [x.av,bv ok]) [.box t'.cells]):∃ (x:X) (t':Tp),XT p.tbs 2 p.frs w x∧zac E0 S.world_Tape_Expr [.p 0 0,p.av,iv w,iv d] [.box t.cells] x.av [.box t'.cells]:=by
 obtain ⟨a1,t1,q1,c1⟩:=(zak t 6 (by first|assumption|(simp;done)|omega))
 cases h2:decide (4≤(a1:Int))
 ·obtain ⟨x3,ok3,t3,q3,c3⟩:=(hcol t1 w)
  rcases (Bool.eq_false_or_eq_true ok3).symm with h4|h4
  ·obtain ⟨b5,t5,c5⟩:=(zam t3 8 (by first|assumption|(simp;done)|omega))
   let p_1:List St:=[sl [0] c1,sb h2,sb hd,sl [0] c3,sb h4,sl [0] c5]
   rcases (Bool.eq_false_or_eq_true b5).symm with h6|h6
   ·cases h7:w==1
    ·obtain ⟨v8,t8,q8,c8⟩:=(zaZ t5 w)
     exact ⟨xLit v8,t8,(by first|exact zaz (by assumption) (by omega) (by omega)|exact .lit zaj (.inl rfl) (fun h=>by simp at h)|exact zax (by assumption) (by assumption)|exact .col ((by assumption:_=true→ColT _ _ _) (by assumption))),wk At.world_Tape_Expr (p_1++[sb h6,sb h7,sl [0] c8,sc (za1 v8)]) kr⟩
    ·obtain ⟨a9,t9,q9,c9⟩:=(za8 t5)
     exact ⟨xNum a9,t9,(by first|exact zaz (by assumption) (by omega) (by omega)|exact .lit zaj (.inl rfl) (fun h=>by simp at h)|exact zax (by assumption) (by assumption)|exact .col ((by assumption:_=true→ColT _ _ _) (by assumption))),wk At.world_Tape_Expr (p_1++[sb h6,sb h7,sl [0] c9,sc (zbM a9 (by first|assumption|(simp;done)|omega))]) kr⟩
   ·exact ⟨xLit (V.mk 0 0 (ByteArray.mk #[])),t5,(by first|exact zaz (by assumption) (by omega) (by omega)|exact .lit zaj (.inl rfl) (fun h=>by simp at h)|exact zax (by assumption) (by assumption)|exact .col ((by assumption:_=true→ColT _ _ _) (by assumption))),wk At.world_Tape_Expr (p_1++[sb h6,sc (za1 (V.mk 0 0 (ByteArray.mk #[])))]) kr⟩
  ·obtain ⟨b10,t10,c10⟩:=(zam t3 3 (by first|assumption|(simp;done)|omega))
   let p_2:List St:=[sl [0] c1,sb h2,sb hd,sl [0] c3,sg h4,sl [0] c10]
   cases h11:!b10
   ·obtain ⟨b12,t12,c12⟩:=(zam t10 8 (by first|assumption|(simp;done)|omega))
    rcases (Bool.eq_false_or_eq_true b12).symm with h13|h13
    ·cases h14:w==1
     ·obtain ⟨v15,t15,q15,c15⟩:=(zaZ t12 w)
      exact ⟨xLit v15,t15,(by first|exact zaz (by assumption) (by omega) (by omega)|exact .lit zaj (.inl rfl) (fun h=>by simp at h)|exact zax (by assumption) (by assumption)|exact .col ((by assumption:_=true→ColT _ _ _) (by assumption))),wk At.world_Tape_Expr (p_2++[sb h11,sl [0] c12,sb h13,sb h14,sl [0] c15,sc (za1 v15)]) kr⟩
     ·obtain ⟨a16,t16,q16,c16⟩:=(za8 t12)
      exact ⟨xNum a16,t16,(by first|exact zaz (by assumption) (by omega) (by omega)|exact .lit zaj (.inl rfl) (fun h=>by simp at h)|exact zax (by assumption) (by assumption)|exact .col ((by assumption:_=true→ColT _ _ _) (by assumption))),wk At.world_Tape_Expr (p_2++[sb h11,sl [0] c12,sb h13,sb h14,sl [0] c16,sc (zbM a16 (by first|assumption|(simp;done)|omega))]) kr⟩
    ·exact ⟨xLit (V.mk 0 0 (ByteArray.mk #[])),t12,(by first|exact zaz (by assumption) (by omega) (by omega)|exact .lit zaj (.inl rfl) (fun h=>by simp at h)|exact zax (by assumption) (by assumption)|exact .col ((by assumption:_=true→ColT _ _ _) (by assumption))),wk At.world_Tape_Expr (p_2++[sb h11,sl [0] c12,sb h13,sc (za1 (V.mk 0 0 (ByteArray.mk #[])))]) kr⟩
   ·exact ⟨x3,t10,(by first|exact zaz (by assumption) (by omega) (by omega)|exact .lit zaj (.inl rfl) (fun h=>by simp at h)|exact zax (by assumption) (by assumption)|exact .col ((by assumption:_=true→ColT _ _ _) (by assumption))),wk At.world_Tape_Expr (p_2++[sb h11]) kr⟩
 ·obtain ⟨x17,ok17,t17,q17,c17⟩:=(hcol t1 w)
  let p_3:List St:=[sl [0] c1,sg h2,sb hd2,sb hd,sl [0] c17]
  rcases (Bool.eq_false_or_eq_true ok17).symm with h18|h18
  ·obtain ⟨b19,t19,c19⟩:=(zam t17 8 (by first|assumption|(simp;done)|omega))
   rcases (Bool.eq_false_or_eq_true b19).symm with h20|h20
   ·cases h21:w==1
    ·obtain ⟨v22,t22,q22,c22⟩:=(zaZ t19 w)
     exact ⟨xLit v22,t22,(by first|exact zaz (by assumption) (by omega) (by omega)|exact .lit zaj (.inl rfl) (fun h=>by simp at h)|exact zax (by assumption) (by assumption)|exact .col ((by assumption:_=true→ColT _ _ _) (by assumption))),wk At.world_Tape_Expr (p_3++[sb h18,sl [0] c19,sb h20,sb h21,sl [0] c22,sc (za1 v22)]) kr⟩
    ·obtain ⟨a23,t23,q23,c23⟩:=(za8 t19)
     exact ⟨xNum a23,t23,(by first|exact zaz (by assumption) (by omega) (by omega)|exact .lit zaj (.inl rfl) (fun h=>by simp at h)|exact zax (by assumption) (by assumption)|exact .col ((by assumption:_=true→ColT _ _ _) (by assumption))),wk At.world_Tape_Expr (p_3++[sb h18,sl [0] c19,sb h20,sb h21,sl [0] c23,sc (zbM a23 (by first|assumption|(simp;done)|omega))]) kr⟩
   ·exact ⟨xLit (V.mk 0 0 (ByteArray.mk #[])),t19,(by first|exact zaz (by assumption) (by omega) (by omega)|exact .lit zaj (.inl rfl) (fun h=>by simp at h)|exact zax (by assumption) (by assumption)|exact .col ((by assumption:_=true→ColT _ _ _) (by assumption))),wk At.world_Tape_Expr (p_3++[sb h18,sl [0] c19,sb h20,sc (za1 (V.mk 0 0 (ByteArray.mk #[])))]) kr⟩
  ·obtain ⟨b24,t24,c24⟩:=(zam t17 3 (by first|assumption|(simp;done)|omega))
   cases h25:!b24
   ·obtain ⟨b26,t26,c26⟩:=(zam t24 8 (by first|assumption|(simp;done)|omega))
    let p_4:List St:=p_3++[sg h18,sl [0] c24,sb h25,sl [0] c26]
    rcases (Bool.eq_false_or_eq_true b26).symm with h27|h27
    ·cases h28:w==1
     ·obtain ⟨v29,t29,q29,c29⟩:=(zaZ t26 w)
      exact ⟨xLit v29,t29,(by first|exact zaz (by assumption) (by omega) (by omega)|exact .lit zaj (.inl rfl) (fun h=>by simp at h)|exact zax (by assumption) (by assumption)|exact .col ((by assumption:_=true→ColT _ _ _) (by assumption))),wk At.world_Tape_Expr (p_4++[sb h27,sb h28,sl [0] c29,sc (za1 v29)]) kr⟩
     ·obtain ⟨a30,t30,q30,c30⟩:=(za8 t26)
      exact ⟨xNum a30,t30,(by first|exact zaz (by assumption) (by omega) (by omega)|exact .lit zaj (.inl rfl) (fun h=>by simp at h)|exact zax (by assumption) (by assumption)|exact .col ((by assumption:_=true→ColT _ _ _) (by assumption))),wk At.world_Tape_Expr (p_4++[sb h27,sb h28,sl [0] c30,sc (zbM a30 (by first|assumption|(simp;done)|omega))]) kr⟩
    ·exact ⟨xLit (V.mk 0 0 (ByteArray.mk #[])),t26,(by first|exact zaz (by assumption) (by omega) (by omega)|exact .lit zaj (.inl rfl) (fun h=>by simp at h)|exact zax (by assumption) (by assumption)|exact .col ((by assumption:_=true→ColT _ _ _) (by assumption))),wk At.world_Tape_Expr (p_4++[sb h27,sc (za1 (V.mk 0 0 (ByteArray.mk #[])))]) kr⟩
   ·exact ⟨x17,t24,(by first|exact zaz (by assumption) (by omega) (by omega)|exact .lit zaj (.inl rfl) (fun h=>by simp at h)|exact zax (by assumption) (by assumption)|exact .col ((by assumption:_=true→ColT _ _ _) (by assumption))),wk At.world_Tape_Expr (p_3++[sg h18,sl [0] c24,sb h25]) kr⟩
theorem zuw (t:Tp) (p:Pl) (w:Int) (d:Int) (m:Nat) (hd:decide (d≤(0:Int))=false) (hd2:decide ((0:Int) < d)=true) (hcol:∀ (t:Tp) (w:Int),∃ (x:X) (ok:Bool) (t':Tp),(ok=true→ColT p.frs w x)∧zac E0 S.world_Tape_column [.p 0 0,p.av,iv w] [.box t.cells] (.tup [x.av,bv ok]) [.box t'.cells]) (hf1:∀ (t:Tp) (w:Int),∃ (e:X) (t':Tp),XT p.tbs (m+1) p.frs w e∧zac E0 S.world_Tape_Expr [.p 0 0,p.av,iv w,iv (IntKind.i64.wrap (d - 1))] [.box t.cells] e.av [.box t'.cells]) (hq:∀ (t:Tp) (k:Int),8≤k∧k≤12→∃ (e:X) (t':Tp),XT p.tbs (m+2) p.frs (bif k==8 then 2 else 1) e∧zac E0 S.world_Tape_query [.p 0 0,p.av,iv k,iv d] [.box t.cells] e.av [.box t'.cells]) (hcd:∀ (t:Tp),∃ (e:X) (t':Tp),XT p.tbs (m+2) p.frs 2 e∧zac E0 S.world_Tape_condition [.p 0 0,p.av,iv d] [.box t.cells] e.av [.box t'.cells]):∃ (x:X) (t':Tp),XT p.tbs (m+2) p.frs w x∧zac E0 S.world_Tape_Expr [.p 0 0,p.av,iv w,iv d] [.box t.cells] x.av [.box t'.cells]:=by
 obtain ⟨a1,t1,q1,c1⟩:=(zak t 6 (by first|assumption|(simp;done)|omega|(rw [IntKind.wrap_i64];omega)))
 cases h2:decide (4≤(a1:Int))
 ·cases h3:decide (3≤(a1:Int))
  ·cases h4:w==1
   ·cases h5:w==2
    ·obtain ⟨v6,t6,q6,c6⟩:=(zaZ t1 w)
     exact ⟨xLit v6,t6,(by first|exact zaz (by assumption) (by omega) (by omega)|exact .lit zaj (.inl rfl) (fun h=>by simp at h)|exact zax (by assumption) (by assumption)|exact .col ((by assumption:_=true→ColT _ _ _) (by assumption))|exact zba (by assumption) (by assumption) (by first|rfl|(simp;omega)|(rw [IntKind.wrap_i64];simp;omega))|exact za9 (by assumption) (by assumption)|exact zaW (by assumption) (by assumption)|exact zaD (by assumption) (zaV (by assumption)) (by assumption) (by assumption)),wk At.world_Tape_Expr [sl [0] c1,sb h2,sg hd,sb h3,sb h4,sb h5,sb h4,sb h5,sl [0] c6,sc (za1 v6)] kr⟩
    ·let p_1:List St:=[sl [0] c1,sb h2,sg hd,sb h3,sb h4,sg h5]
     cases h7:(a1:Int)==0
     ·obtain ⟨e8,t8,q8,c8⟩:=(hcd t1)
      exact ⟨e8,t8,(by first|exact zaz (by assumption) (by omega) (by omega)|exact .lit zaj (.inl rfl) (fun h=>by simp at h)|exact zax (by assumption) (by assumption)|exact .col ((by assumption:_=true→ColT _ _ _) (by assumption))|exact zba (by assumption) (by assumption) (by first|rfl|(simp;omega)|(rw [IntKind.wrap_i64];simp;omega))|exact za9 (by assumption) (by assumption)|exact zaW (by assumption) (by assumption)|exact zaD (by assumption) (zaV (by assumption)) (by assumption) (by assumption)),wk At.world_Tape_Expr (p_1++[sb h7,sb h4,sb h5,sl [0] c8]) kr⟩
     ·cases h9:decide (0 < (↑(List.map Sch.cells p.tbs).length:Int))
      ·obtain ⟨e10,t10,q10,c10⟩:=(hcd t1)
       exact ⟨e10,t10,(by first|exact zaz (by assumption) (by omega) (by omega)|exact .lit zaj (.inl rfl) (fun h=>by simp at h)|exact zax (by assumption) (by assumption)|exact .col ((by assumption:_=true→ColT _ _ _) (by assumption))|exact zba (by assumption) (by assumption) (by first|rfl|(simp;omega)|(rw [IntKind.wrap_i64];simp;omega))|exact za9 (by assumption) (by assumption)|exact zaW (by assumption) (by assumption)|exact zaD (by assumption) (zaV (by assumption)) (by assumption) (by assumption)),wk At.world_Tape_Expr (p_1++[sg h7,sb h9,sb h4,sb h5,sl [0] c10]) kr⟩
      ·obtain ⟨b11,t11,c11⟩:=(zam t1 2 (by first|assumption|(simp;done)|omega|(rw [IntKind.wrap_i64];omega)))
       rcases (Bool.eq_false_or_eq_true b11).symm with h12|h12
       ·obtain ⟨e13,t13,q13,c13⟩:=(hcd t11)
        exact ⟨e13,t13,(by first|exact zaz (by assumption) (by omega) (by omega)|exact .lit zaj (.inl rfl) (fun h=>by simp at h)|exact zax (by assumption) (by assumption)|exact .col ((by assumption:_=true→ColT _ _ _) (by assumption))|exact zba (by assumption) (by assumption) (by first|rfl|(simp;omega)|(rw [IntKind.wrap_i64];simp;omega))|exact za9 (by assumption) (by assumption)|exact zaW (by assumption) (by assumption)|exact zaD (by assumption) (zaV (by assumption)) (by assumption) (by assumption)),wk At.world_Tape_Expr (p_1++[sg h7,sg h9,sl [0] c11,sb h12,sb h4,sb h5,sl [0] c13]) kr⟩
       ·obtain ⟨e14,t14,q14,c14⟩:=(hq t11 8 (by first|assumption|(simp;done)|omega|(rw [IntKind.wrap_i64];omega)))
        exact ⟨e14,t14,(by first|exact zaz (by assumption) (by omega) (by omega)|exact .lit zaj (.inl rfl) (fun h=>by simp at h)|exact zax (by assumption) (by assumption)|exact .col ((by assumption:_=true→ColT _ _ _) (by assumption))|exact zba (by assumption) (by assumption) (by first|rfl|(simp;omega)|(rw [IntKind.wrap_i64];simp;omega))|exact za9 (by assumption) (by assumption)|exact zaW (by assumption) (by assumption)|exact zaD (by assumption) (zaV (by assumption)) (by assumption) (by assumption)),wk At.world_Tape_Expr (p_1++[sg h7,sg h9,sl [0] c11,sb h12,sl [0] c14]) kr⟩
   ·cases h15:(a1:Int)==0
    ·let p_2:List St:=[sl [0] c1,sb h2,sg hd,sb h3,sg h4,sb h15]
     cases h16:w==2
     ·obtain ⟨b17,t17,c17⟩:=(zam t1 6 (by first|assumption|(simp;done)|omega|(rw [IntKind.wrap_i64];omega)))
      rcases (Bool.eq_false_or_eq_true b17).symm with h18|h18
      ·obtain ⟨a19,t19,q19,c19⟩:=(zak t17 6 (by first|assumption|(simp;done)|omega|(rw [IntKind.wrap_i64];omega)))
       obtain ⟨e20,t20,q20,c20⟩:=(hf1 t19 w)
       obtain ⟨e21,t21,q21,c21⟩:=(hf1 t20 w)
       exact ⟨xBin (opAt a19) e20 e21,t21,(by first|exact zaz (by assumption) (by omega) (by omega)|exact .lit zaj (.inl rfl) (fun h=>by simp at h)|exact zax (by assumption) (by assumption)|exact .col ((by assumption:_=true→ColT _ _ _) (by assumption))|exact zba (by assumption) (by assumption) (by first|rfl|(simp;omega)|(rw [IntKind.wrap_i64];simp;omega))|exact za9 (by assumption) (by assumption)|exact zaW (by assumption) (by assumption)|exact zaD (by assumption) (zaV (by assumption)) (by assumption) (by assumption)),wk At.world_Tape_Expr (p_2++[sb h16,sb h4,sl [0] c17,sb h18,sd [(9,[si (e:=IntKind.i64.wrap (d - 1)) rfl]),(15,[si (e:=IntKind.i64.wrap (d - 1)) rfl]),(2,[sl [0] c19]),(3,[se (zfA a19 (by first|assumption|(simp;done)|omega|(rw [IntKind.wrap_i64];omega)))]),(10,[sl [0] c20]),(16,[sl [0] c21]),(17,[sc (zbL (opAt a19) e20 e21)])]]) kr⟩
      ·obtain ⟨e22,t22,q22,c22⟩:=(hf1 t17 w)
       exact ⟨X.mk 4 0 false (V.mk 0 0 (ByteArray.mk #[])) (ByteArray.mk #[]) (ByteArray.mk #[]) [e22] [],t22,(by first|exact zaz (by assumption) (by omega) (by omega)|exact .lit zaj (.inl rfl) (fun h=>by simp at h)|exact zax (by assumption) (by assumption)|exact .col ((by assumption:_=true→ColT _ _ _) (by assumption))|exact zba (by assumption) (by assumption) (by first|rfl|(simp;omega)|(rw [IntKind.wrap_i64];simp;omega))|exact za9 (by assumption) (by assumption)|exact zaW (by assumption) (by assumption)|exact zaD (by assumption) (zaV (by assumption)) (by assumption) (by assumption)),(by (try simp only [X.av,Qy.av,V.av,Tb.av,Sch.av,Pl.av,xsl,fsl,vsl,tsl,List.map_append,List.map_cons,List.map_nil,V.cells,Col.cells,Rw.cells,Tb.cells,Fr.cells,Sch.cells,Pl.cells,za7,zaO,zaU,zaS,za0,X.cells,Qy.cells,X.args_mk,X.sub_mk,Qy.items_mk,Qy.wh_mk,xCol,xLit,xBin,xNeg]);exact wk At.world_Tape_Expr (p_2++[sb h16,sb h4,sl [0] c17,sb h18,si (e:=IntKind.i64.wrap (d - 1)) rfl,sl [0] c22]) kr)⟩
     ·obtain ⟨b23,t23,c23⟩:=(zam t1 6 (by first|assumption|(simp;done)|omega|(rw [IntKind.wrap_i64];omega)))
      rcases (Bool.eq_false_or_eq_true b23).symm with h24|h24
      ·obtain ⟨a25,t25,q25,c25⟩:=(zak t23 6 (by first|assumption|(simp;done)|omega|(rw [IntKind.wrap_i64];omega)))
       obtain ⟨e26,t26,q26,c26⟩:=(hf1 t25 w)
       obtain ⟨e27,t27,q27,c27⟩:=(hf1 t26 w)
       exact ⟨xBin (opAt a25) e26 e27,t27,(by first|exact zaz (by assumption) (by omega) (by omega)|exact .lit zaj (.inl rfl) (fun h=>by simp at h)|exact zax (by assumption) (by assumption)|exact .col ((by assumption:_=true→ColT _ _ _) (by assumption))|exact zba (by assumption) (by assumption) (by first|rfl|(simp;omega)|(rw [IntKind.wrap_i64];simp;omega))|exact za9 (by assumption) (by assumption)|exact zaW (by assumption) (by assumption)|exact zaD (by assumption) (zaV (by assumption)) (by assumption) (by assumption)),wk At.world_Tape_Expr (p_2++[sg h16,sb h15,sb h4,sl [0] c23,sb h24,sd [(9,[si (e:=IntKind.i64.wrap (d - 1)) rfl]),(15,[si (e:=IntKind.i64.wrap (d - 1)) rfl]),(2,[sl [0] c25]),(3,[se (zfA a25 (by first|assumption|(simp;done)|omega|(rw [IntKind.wrap_i64];omega)))]),(10,[sl [0] c26]),(16,[sl [0] c27]),(17,[sc (zbL (opAt a25) e26 e27)])]]) kr⟩
      ·obtain ⟨e28,t28,q28,c28⟩:=(hf1 t23 w)
       exact ⟨X.mk 4 0 false (V.mk 0 0 (ByteArray.mk #[])) (ByteArray.mk #[]) (ByteArray.mk #[]) [e28] [],t28,(by first|exact zaz (by assumption) (by omega) (by omega)|exact .lit zaj (.inl rfl) (fun h=>by simp at h)|exact zax (by assumption) (by assumption)|exact .col ((by assumption:_=true→ColT _ _ _) (by assumption))|exact zba (by assumption) (by assumption) (by first|rfl|(simp;omega)|(rw [IntKind.wrap_i64];simp;omega))|exact za9 (by assumption) (by assumption)|exact zaW (by assumption) (by assumption)|exact zaD (by assumption) (zaV (by assumption)) (by assumption) (by assumption)),(by (try simp only [X.av,Qy.av,V.av,Tb.av,Sch.av,Pl.av,xsl,fsl,vsl,tsl,List.map_append,List.map_cons,List.map_nil,V.cells,Col.cells,Rw.cells,Tb.cells,Fr.cells,Sch.cells,Pl.cells,za7,zaO,zaU,zaS,za0,X.cells,Qy.cells,X.args_mk,X.sub_mk,Qy.items_mk,Qy.wh_mk,xCol,xLit,xBin,xNeg]);exact wk At.world_Tape_Expr (p_2++[sg h16,sb h15,sb h4,sl [0] c23,sb h24,si (e:=IntKind.i64.wrap (d - 1)) rfl,sl [0] c28]) kr)⟩
    ·let p_3:List St:=[sl [0] c1,sb h2,sg hd,sb h3,sg h4,sg h15]
     cases h29:decide (0 < (↑(List.map Sch.cells p.tbs).length:Int))
     ·cases h30:w==2
      ·obtain ⟨b31,t31,c31⟩:=(zam t1 6 (by first|assumption|(simp;done)|omega|(rw [IntKind.wrap_i64];omega)))
       rcases (Bool.eq_false_or_eq_true b31).symm with h32|h32
       ·obtain ⟨a33,t33,q33,c33⟩:=(zak t31 6 (by first|assumption|(simp;done)|omega|(rw [IntKind.wrap_i64];omega)))
        obtain ⟨e34,t34,q34,c34⟩:=(hf1 t33 w)
        obtain ⟨e35,t35,q35,c35⟩:=(hf1 t34 w)
        exact ⟨xBin (opAt a33) e34 e35,t35,(by first|exact zaz (by assumption) (by omega) (by omega)|exact .lit zaj (.inl rfl) (fun h=>by simp at h)|exact zax (by assumption) (by assumption)|exact .col ((by assumption:_=true→ColT _ _ _) (by assumption))|exact zba (by assumption) (by assumption) (by first|rfl|(simp;omega)|(rw [IntKind.wrap_i64];simp;omega))|exact za9 (by assumption) (by assumption)|exact zaW (by assumption) (by assumption)|exact zaD (by assumption) (zaV (by assumption)) (by assumption) (by assumption)),wk At.world_Tape_Expr (p_3++[sb h29,sb h30,sb h4,sl [0] c31,sb h32,sd [(9,[si (e:=IntKind.i64.wrap (d - 1)) rfl]),(15,[si (e:=IntKind.i64.wrap (d - 1)) rfl]),(2,[sl [0] c33]),(3,[se (zfA a33 (by first|assumption|(simp;done)|omega|(rw [IntKind.wrap_i64];omega)))]),(10,[sl [0] c34]),(16,[sl [0] c35]),(17,[sc (zbL (opAt a33) e34 e35)])]]) kr⟩
       ·obtain ⟨e36,t36,q36,c36⟩:=(hf1 t31 w)
        exact ⟨X.mk 4 0 false (V.mk 0 0 (ByteArray.mk #[])) (ByteArray.mk #[]) (ByteArray.mk #[]) [e36] [],t36,(by first|exact zaz (by assumption) (by omega) (by omega)|exact .lit zaj (.inl rfl) (fun h=>by simp at h)|exact zax (by assumption) (by assumption)|exact .col ((by assumption:_=true→ColT _ _ _) (by assumption))|exact zba (by assumption) (by assumption) (by first|rfl|(simp;omega)|(rw [IntKind.wrap_i64];simp;omega))|exact za9 (by assumption) (by assumption)|exact zaW (by assumption) (by assumption)|exact zaD (by assumption) (zaV (by assumption)) (by assumption) (by assumption)),(by (try simp only [X.av,Qy.av,V.av,Tb.av,Sch.av,Pl.av,xsl,fsl,vsl,tsl,List.map_append,List.map_cons,List.map_nil,V.cells,Col.cells,Rw.cells,Tb.cells,Fr.cells,Sch.cells,Pl.cells,za7,zaO,zaU,zaS,za0,X.cells,Qy.cells,X.args_mk,X.sub_mk,Qy.items_mk,Qy.wh_mk,xCol,xLit,xBin,xNeg]);exact wk At.world_Tape_Expr (p_3++[sb h29,sb h30,sb h4,sl [0] c31,sb h32,si (e:=IntKind.i64.wrap (d - 1)) rfl,sl [0] c36]) kr)⟩
      ·obtain ⟨b37,t37,c37⟩:=(zam t1 6 (by first|assumption|(simp;done)|omega|(rw [IntKind.wrap_i64];omega)))
       let p_4:List St:=p_3++[sb h29,sg h30,sg h15,sb h29,sb h4,sl [0] c37]
       rcases (Bool.eq_false_or_eq_true b37).symm with h38|h38
       ·obtain ⟨a39,t39,q39,c39⟩:=(zak t37 6 (by first|assumption|(simp;done)|omega|(rw [IntKind.wrap_i64];omega)))
        obtain ⟨e40,t40,q40,c40⟩:=(hf1 t39 w)
        obtain ⟨e41,t41,q41,c41⟩:=(hf1 t40 w)
        exact ⟨xBin (opAt a39) e40 e41,t41,(by first|exact zaz (by assumption) (by omega) (by omega)|exact .lit zaj (.inl rfl) (fun h=>by simp at h)|exact zax (by assumption) (by assumption)|exact .col ((by assumption:_=true→ColT _ _ _) (by assumption))|exact zba (by assumption) (by assumption) (by first|rfl|(simp;omega)|(rw [IntKind.wrap_i64];simp;omega))|exact za9 (by assumption) (by assumption)|exact zaW (by assumption) (by assumption)|exact zaD (by assumption) (zaV (by assumption)) (by assumption) (by assumption)),wk At.world_Tape_Expr (p_4++[sb h38,sd [(9,[si (e:=IntKind.i64.wrap (d - 1)) rfl]),(15,[si (e:=IntKind.i64.wrap (d - 1)) rfl]),(2,[sl [0] c39]),(3,[se (zfA a39 (by first|assumption|(simp;done)|omega|(rw [IntKind.wrap_i64];omega)))]),(10,[sl [0] c40]),(16,[sl [0] c41]),(17,[sc (zbL (opAt a39) e40 e41)])]]) kr⟩
       ·obtain ⟨e42,t42,q42,c42⟩:=(hf1 t37 w)
        exact ⟨X.mk 4 0 false (V.mk 0 0 (ByteArray.mk #[])) (ByteArray.mk #[]) (ByteArray.mk #[]) [e42] [],t42,(by first|exact zaz (by assumption) (by omega) (by omega)|exact .lit zaj (.inl rfl) (fun h=>by simp at h)|exact zax (by assumption) (by assumption)|exact .col ((by assumption:_=true→ColT _ _ _) (by assumption))|exact zba (by assumption) (by assumption) (by first|rfl|(simp;omega)|(rw [IntKind.wrap_i64];simp;omega))|exact za9 (by assumption) (by assumption)|exact zaW (by assumption) (by assumption)|exact zaD (by assumption) (zaV (by assumption)) (by assumption) (by assumption)),(by (try simp only [X.av,Qy.av,V.av,Tb.av,Sch.av,Pl.av,xsl,fsl,vsl,tsl,List.map_append,List.map_cons,List.map_nil,V.cells,Col.cells,Rw.cells,Tb.cells,Fr.cells,Sch.cells,Pl.cells,za7,zaO,zaU,zaS,za0,X.cells,Qy.cells,X.args_mk,X.sub_mk,Qy.items_mk,Qy.wh_mk,xCol,xLit,xBin,xNeg]);exact wk At.world_Tape_Expr (p_4++[sb h38,si (e:=IntKind.i64.wrap (d - 1)) rfl,sl [0] c42]) kr)⟩
     ·obtain ⟨a43,t43,q43,c43⟩:=(zak t1 4 (by first|assumption|(simp;done)|omega|(rw [IntKind.wrap_i64];omega)))
      obtain ⟨e44,t44,q44,c44⟩:=(hq t43 (IntKind.i64.wrap (9+(a43:Int))) (by first|assumption|(simp;done)|omega|(rw [IntKind.wrap_i64];omega)))
      exact ⟨e44,t44,(by first|exact zaz (by assumption) (by omega) (by omega)|exact .lit zaj (.inl rfl) (fun h=>by simp at h)|exact zax (by assumption) (by assumption)|exact .col ((by assumption:_=true→ColT _ _ _) (by assumption))|exact zba (by assumption) (by assumption) (by first|rfl|(simp;omega)|(rw [IntKind.wrap_i64];simp;omega))|exact za9 (by assumption) (by assumption)|exact zaW (by assumption) (by assumption)|exact zaD (by assumption) (zaV (by assumption)) (by assumption) (by assumption)),wk At.world_Tape_Expr (p_3++[sb h29,sd [(3,[sl [0] c43]),(4,[si (e:=IntKind.i64.wrap (9+(a43:Int))) rfl]),(6,[sl [0] c44])]]) kr⟩
  ·obtain ⟨x45,ok45,t45,q45,c45⟩:=(hcol t1 w)
   let p_5:List St:=[sl [0] c1,sb h2,sg hd,sb h3,sl [0] c45]
   rcases (Bool.eq_false_or_eq_true ok45).symm with h46|h46
   ·obtain ⟨b47,t47,c47⟩:=(zam t45 8 (by first|assumption|(simp;done)|omega|(rw [IntKind.wrap_i64];omega)))
    rcases (Bool.eq_false_or_eq_true b47).symm with h48|h48
    ·cases h49:w==1
     ·obtain ⟨v50,t50,q50,c50⟩:=(zaZ t47 w)
      exact ⟨xLit v50,t50,(by first|exact zaz (by assumption) (by omega) (by omega)|exact .lit zaj (.inl rfl) (fun h=>by simp at h)|exact zax (by assumption) (by assumption)|exact .col ((by assumption:_=true→ColT _ _ _) (by assumption))|exact zba (by assumption) (by assumption) (by first|rfl|(simp;omega)|(rw [IntKind.wrap_i64];simp;omega))|exact za9 (by assumption) (by assumption)|exact zaW (by assumption) (by assumption)|exact zaD (by assumption) (zaV (by assumption)) (by assumption) (by assumption)),wk At.world_Tape_Expr (p_5++[sb h46,sl [0] c47,sb h48,sb h49,sl [0] c50,sc (za1 v50)]) kr⟩
     ·obtain ⟨a51,t51,q51,c51⟩:=(za8 t47)
      exact ⟨xNum a51,t51,(by first|exact zaz (by assumption) (by omega) (by omega)|exact .lit zaj (.inl rfl) (fun h=>by simp at h)|exact zax (by assumption) (by assumption)|exact .col ((by assumption:_=true→ColT _ _ _) (by assumption))|exact zba (by assumption) (by assumption) (by first|rfl|(simp;omega)|(rw [IntKind.wrap_i64];simp;omega))|exact za9 (by assumption) (by assumption)|exact zaW (by assumption) (by assumption)|exact zaD (by assumption) (zaV (by assumption)) (by assumption) (by assumption)),wk At.world_Tape_Expr (p_5++[sb h46,sl [0] c47,sb h48,sb h49,sl [0] c51,sc (zbM a51 (by first|assumption|(simp;done)|omega|(rw [IntKind.wrap_i64];omega)))]) kr⟩
    ·exact ⟨xLit (V.mk 0 0 (ByteArray.mk #[])),t47,(by first|exact zaz (by assumption) (by omega) (by omega)|exact .lit zaj (.inl rfl) (fun h=>by simp at h)|exact zax (by assumption) (by assumption)|exact .col ((by assumption:_=true→ColT _ _ _) (by assumption))|exact zba (by assumption) (by assumption) (by first|rfl|(simp;omega)|(rw [IntKind.wrap_i64];simp;omega))|exact za9 (by assumption) (by assumption)|exact zaW (by assumption) (by assumption)|exact zaD (by assumption) (zaV (by assumption)) (by assumption) (by assumption)),wk At.world_Tape_Expr (p_5++[sb h46,sl [0] c47,sb h48,sc (za1 (V.mk 0 0 (ByteArray.mk #[])))]) kr⟩
   ·obtain ⟨b52,t52,c52⟩:=(zam t45 3 (by first|assumption|(simp;done)|omega|(rw [IntKind.wrap_i64];omega)))
    cases h53:!b52
    ·obtain ⟨b54,t54,c54⟩:=(zam t52 8 (by first|assumption|(simp;done)|omega|(rw [IntKind.wrap_i64];omega)))
     let p_6:List St:=p_5++[sg h46,sl [0] c52,sb h53,sl [0] c54]
     rcases (Bool.eq_false_or_eq_true b54).symm with h55|h55
     ·cases h56:w==1
      ·obtain ⟨v57,t57,q57,c57⟩:=(zaZ t54 w)
       exact ⟨xLit v57,t57,(by first|exact zaz (by assumption) (by omega) (by omega)|exact .lit zaj (.inl rfl) (fun h=>by simp at h)|exact zax (by assumption) (by assumption)|exact .col ((by assumption:_=true→ColT _ _ _) (by assumption))|exact zba (by assumption) (by assumption) (by first|rfl|(simp;omega)|(rw [IntKind.wrap_i64];simp;omega))|exact za9 (by assumption) (by assumption)|exact zaW (by assumption) (by assumption)|exact zaD (by assumption) (zaV (by assumption)) (by assumption) (by assumption)),wk At.world_Tape_Expr (p_6++[sb h55,sb h56,sl [0] c57,sc (za1 v57)]) kr⟩
      ·obtain ⟨a58,t58,q58,c58⟩:=(za8 t54)
       exact ⟨xNum a58,t58,(by first|exact zaz (by assumption) (by omega) (by omega)|exact .lit zaj (.inl rfl) (fun h=>by simp at h)|exact zax (by assumption) (by assumption)|exact .col ((by assumption:_=true→ColT _ _ _) (by assumption))|exact zba (by assumption) (by assumption) (by first|rfl|(simp;omega)|(rw [IntKind.wrap_i64];simp;omega))|exact za9 (by assumption) (by assumption)|exact zaW (by assumption) (by assumption)|exact zaD (by assumption) (zaV (by assumption)) (by assumption) (by assumption)),wk At.world_Tape_Expr (p_6++[sb h55,sb h56,sl [0] c58,sc (zbM a58 (by first|assumption|(simp;done)|omega|(rw [IntKind.wrap_i64];omega)))]) kr⟩
     ·exact ⟨xLit (V.mk 0 0 (ByteArray.mk #[])),t54,(by first|exact zaz (by assumption) (by omega) (by omega)|exact .lit zaj (.inl rfl) (fun h=>by simp at h)|exact zax (by assumption) (by assumption)|exact .col ((by assumption:_=true→ColT _ _ _) (by assumption))|exact zba (by assumption) (by assumption) (by first|rfl|(simp;omega)|(rw [IntKind.wrap_i64];simp;omega))|exact za9 (by assumption) (by assumption)|exact zaW (by assumption) (by assumption)|exact zaD (by assumption) (zaV (by assumption)) (by assumption) (by assumption)),wk At.world_Tape_Expr (p_6++[sb h55,sc (za1 (V.mk 0 0 (ByteArray.mk #[])))]) kr⟩
    ·exact ⟨x45,t52,(by first|exact zaz (by assumption) (by omega) (by omega)|exact .lit zaj (.inl rfl) (fun h=>by simp at h)|exact zax (by assumption) (by assumption)|exact .col ((by assumption:_=true→ColT _ _ _) (by assumption))|exact zba (by assumption) (by assumption) (by first|rfl|(simp;omega)|(rw [IntKind.wrap_i64];simp;omega))|exact za9 (by assumption) (by assumption)|exact zaW (by assumption) (by assumption)|exact zaD (by assumption) (zaV (by assumption)) (by assumption) (by assumption)),wk At.world_Tape_Expr (p_5++[sg h46,sl [0] c52,sb h53]) kr⟩
 ·obtain ⟨a59,t59,q59,c59⟩:=(zak t1 4 (by first|assumption|(simp;done)|omega|(rw [IntKind.wrap_i64];omega)))
  let p_7:List St:=[sl [0] c1,sg h2,sb hd2,sl [0] c59,sg hd]
  cases h60:decide (3≤(a59:Int))
  ·cases h61:w==1
   ·cases h62:w==2
    ·obtain ⟨v63,t63,q63,c63⟩:=(zaZ t59 w)
     exact ⟨xLit v63,t63,(by first|exact zaz (by assumption) (by omega) (by omega)|exact .lit zaj (.inl rfl) (fun h=>by simp at h)|exact zax (by assumption) (by assumption)|exact .col ((by assumption:_=true→ColT _ _ _) (by assumption))|exact zba (by assumption) (by assumption) (by first|rfl|(simp;omega)|(rw [IntKind.wrap_i64];simp;omega))|exact za9 (by assumption) (by assumption)|exact zaW (by assumption) (by assumption)|exact zaD (by assumption) (zaV (by assumption)) (by assumption) (by assumption)),wk At.world_Tape_Expr (p_7++[sb h60,sb h61,sb h62,sb h61,sb h62,sl [0] c63,sc (za1 v63)]) kr⟩
    ·cases h64:(a59:Int)==0
     ·obtain ⟨e65,t65,q65,c65⟩:=(hcd t59)
      exact ⟨e65,t65,(by first|exact zaz (by assumption) (by omega) (by omega)|exact .lit zaj (.inl rfl) (fun h=>by simp at h)|exact zax (by assumption) (by assumption)|exact .col ((by assumption:_=true→ColT _ _ _) (by assumption))|exact zba (by assumption) (by assumption) (by first|rfl|(simp;omega)|(rw [IntKind.wrap_i64];simp;omega))|exact za9 (by assumption) (by assumption)|exact zaW (by assumption) (by assumption)|exact zaD (by assumption) (zaV (by assumption)) (by assumption) (by assumption)),wk At.world_Tape_Expr (p_7++[sb h60,sb h61,sg h62,sb h64,sb h61,sb h62,sl [0] c65]) kr⟩
     ·cases h66:decide (0 < (↑(List.map Sch.cells p.tbs).length:Int))
      ·obtain ⟨e67,t67,q67,c67⟩:=(hcd t59)
       exact ⟨e67,t67,(by first|exact zaz (by assumption) (by omega) (by omega)|exact .lit zaj (.inl rfl) (fun h=>by simp at h)|exact zax (by assumption) (by assumption)|exact .col ((by assumption:_=true→ColT _ _ _) (by assumption))|exact zba (by assumption) (by assumption) (by first|rfl|(simp;omega)|(rw [IntKind.wrap_i64];simp;omega))|exact za9 (by assumption) (by assumption)|exact zaW (by assumption) (by assumption)|exact zaD (by assumption) (zaV (by assumption)) (by assumption) (by assumption)),wk At.world_Tape_Expr (p_7++[sb h60,sb h61,sg h62,sg h64,sb h66,sb h61,sb h62,sl [0] c67]) kr⟩
      ·obtain ⟨b68,t68,c68⟩:=(zam t59 2 (by first|assumption|(simp;done)|omega|(rw [IntKind.wrap_i64];omega)))
       let p_8:List St:=p_7++[sb h60,sb h61,sg h62,sg h64,sg h66,sl [0] c68]
       rcases (Bool.eq_false_or_eq_true b68).symm with h69|h69
       ·obtain ⟨e70,t70,q70,c70⟩:=(hcd t68)
        exact ⟨e70,t70,(by first|exact zaz (by assumption) (by omega) (by omega)|exact .lit zaj (.inl rfl) (fun h=>by simp at h)|exact zax (by assumption) (by assumption)|exact .col ((by assumption:_=true→ColT _ _ _) (by assumption))|exact zba (by assumption) (by assumption) (by first|rfl|(simp;omega)|(rw [IntKind.wrap_i64];simp;omega))|exact za9 (by assumption) (by assumption)|exact zaW (by assumption) (by assumption)|exact zaD (by assumption) (zaV (by assumption)) (by assumption) (by assumption)),wk At.world_Tape_Expr (p_8++[sb h69,sb h61,sb h62,sl [0] c70]) kr⟩
       ·obtain ⟨e71,t71,q71,c71⟩:=(hq t68 8 (by first|assumption|(simp;done)|omega|(rw [IntKind.wrap_i64];omega)))
        exact ⟨e71,t71,(by first|exact zaz (by assumption) (by omega) (by omega)|exact .lit zaj (.inl rfl) (fun h=>by simp at h)|exact zax (by assumption) (by assumption)|exact .col ((by assumption:_=true→ColT _ _ _) (by assumption))|exact zba (by assumption) (by assumption) (by first|rfl|(simp;omega)|(rw [IntKind.wrap_i64];simp;omega))|exact za9 (by assumption) (by assumption)|exact zaW (by assumption) (by assumption)|exact zaD (by assumption) (zaV (by assumption)) (by assumption) (by assumption)),wk At.world_Tape_Expr (p_8++[sb h69,sl [0] c71]) kr⟩
   ·cases h72:(a59:Int)==0
    ·cases h73:w==2
     ·obtain ⟨b74,t74,c74⟩:=(zam t59 6 (by first|assumption|(simp;done)|omega|(rw [IntKind.wrap_i64];omega)))
      let p_9:List St:=p_7++[sb h60,sg h61,sb h72,sb h73,sb h61,sl [0] c74]
      rcases (Bool.eq_false_or_eq_true b74).symm with h75|h75
      ·obtain ⟨a76,t76,q76,c76⟩:=(zak t74 6 (by first|assumption|(simp;done)|omega|(rw [IntKind.wrap_i64];omega)))
       obtain ⟨e77,t77,q77,c77⟩:=(hf1 t76 w)
       obtain ⟨e78,t78,q78,c78⟩:=(hf1 t77 w)
       exact ⟨xBin (opAt a76) e77 e78,t78,(by first|exact zaz (by assumption) (by omega) (by omega)|exact .lit zaj (.inl rfl) (fun h=>by simp at h)|exact zax (by assumption) (by assumption)|exact .col ((by assumption:_=true→ColT _ _ _) (by assumption))|exact zba (by assumption) (by assumption) (by first|rfl|(simp;omega)|(rw [IntKind.wrap_i64];simp;omega))|exact za9 (by assumption) (by assumption)|exact zaW (by assumption) (by assumption)|exact zaD (by assumption) (zaV (by assumption)) (by assumption) (by assumption)),wk At.world_Tape_Expr (p_9++[sb h75,sd [(9,[si (e:=IntKind.i64.wrap (d - 1)) rfl]),(15,[si (e:=IntKind.i64.wrap (d - 1)) rfl]),(2,[sl [0] c76]),(3,[se (zfA a76 (by first|assumption|(simp;done)|omega|(rw [IntKind.wrap_i64];omega)))]),(10,[sl [0] c77]),(16,[sl [0] c78]),(17,[sc (zbL (opAt a76) e77 e78)])]]) kr⟩
      ·obtain ⟨e79,t79,q79,c79⟩:=(hf1 t74 w)
       exact ⟨X.mk 4 0 false (V.mk 0 0 (ByteArray.mk #[])) (ByteArray.mk #[]) (ByteArray.mk #[]) [e79] [],t79,(by first|exact zaz (by assumption) (by omega) (by omega)|exact .lit zaj (.inl rfl) (fun h=>by simp at h)|exact zax (by assumption) (by assumption)|exact .col ((by assumption:_=true→ColT _ _ _) (by assumption))|exact zba (by assumption) (by assumption) (by first|rfl|(simp;omega)|(rw [IntKind.wrap_i64];simp;omega))|exact za9 (by assumption) (by assumption)|exact zaW (by assumption) (by assumption)|exact zaD (by assumption) (zaV (by assumption)) (by assumption) (by assumption)),(by (try simp only [X.av,Qy.av,V.av,Tb.av,Sch.av,Pl.av,xsl,fsl,vsl,tsl,List.map_append,List.map_cons,List.map_nil,V.cells,Col.cells,Rw.cells,Tb.cells,Fr.cells,Sch.cells,Pl.cells,za7,zaO,zaU,zaS,za0,X.cells,Qy.cells,X.args_mk,X.sub_mk,Qy.items_mk,Qy.wh_mk,xCol,xLit,xBin,xNeg]);exact wk At.world_Tape_Expr (p_9++[sb h75,si (e:=IntKind.i64.wrap (d - 1)) rfl,sl [0] c79]) kr)⟩
     ·obtain ⟨b80,t80,c80⟩:=(zam t59 6 (by first|assumption|(simp;done)|omega|(rw [IntKind.wrap_i64];omega)))
      let p_10:List St:=p_7++[sb h60,sg h61,sb h72,sg h73,sb h72,sb h61,sl [0] c80]
      rcases (Bool.eq_false_or_eq_true b80).symm with h81|h81
      ·obtain ⟨a82,t82,q82,c82⟩:=(zak t80 6 (by first|assumption|(simp;done)|omega|(rw [IntKind.wrap_i64];omega)))
       obtain ⟨e83,t83,q83,c83⟩:=(hf1 t82 w)
       obtain ⟨e84,t84,q84,c84⟩:=(hf1 t83 w)
       exact ⟨xBin (opAt a82) e83 e84,t84,(by first|exact zaz (by assumption) (by omega) (by omega)|exact .lit zaj (.inl rfl) (fun h=>by simp at h)|exact zax (by assumption) (by assumption)|exact .col ((by assumption:_=true→ColT _ _ _) (by assumption))|exact zba (by assumption) (by assumption) (by first|rfl|(simp;omega)|(rw [IntKind.wrap_i64];simp;omega))|exact za9 (by assumption) (by assumption)|exact zaW (by assumption) (by assumption)|exact zaD (by assumption) (zaV (by assumption)) (by assumption) (by assumption)),wk At.world_Tape_Expr (p_10++[sb h81,sd [(9,[si (e:=IntKind.i64.wrap (d - 1)) rfl]),(15,[si (e:=IntKind.i64.wrap (d - 1)) rfl]),(2,[sl [0] c82]),(3,[se (zfA a82 (by first|assumption|(simp;done)|omega|(rw [IntKind.wrap_i64];omega)))]),(10,[sl [0] c83]),(16,[sl [0] c84]),(17,[sc (zbL (opAt a82) e83 e84)])]]) kr⟩
      ·obtain ⟨e85,t85,q85,c85⟩:=(hf1 t80 w)
       exact ⟨X.mk 4 0 false (V.mk 0 0 (ByteArray.mk #[])) (ByteArray.mk #[]) (ByteArray.mk #[]) [e85] [],t85,(by first|exact zaz (by assumption) (by omega) (by omega)|exact .lit zaj (.inl rfl) (fun h=>by simp at h)|exact zax (by assumption) (by assumption)|exact .col ((by assumption:_=true→ColT _ _ _) (by assumption))|exact zba (by assumption) (by assumption) (by first|rfl|(simp;omega)|(rw [IntKind.wrap_i64];simp;omega))|exact za9 (by assumption) (by assumption)|exact zaW (by assumption) (by assumption)|exact zaD (by assumption) (zaV (by assumption)) (by assumption) (by assumption)),(by (try simp only [X.av,Qy.av,V.av,Tb.av,Sch.av,Pl.av,xsl,fsl,vsl,tsl,List.map_append,List.map_cons,List.map_nil,V.cells,Col.cells,Rw.cells,Tb.cells,Fr.cells,Sch.cells,Pl.cells,za7,zaO,zaU,zaS,za0,X.cells,Qy.cells,X.args_mk,X.sub_mk,Qy.items_mk,Qy.wh_mk,xCol,xLit,xBin,xNeg]);exact wk At.world_Tape_Expr (p_10++[sb h81,si (e:=IntKind.i64.wrap (d - 1)) rfl,sl [0] c85]) kr)⟩
    ·cases h86:decide (0 < (↑(List.map Sch.cells p.tbs).length:Int))
     ·cases h87:w==2
      ·obtain ⟨b88,t88,c88⟩:=(zam t59 6 (by first|assumption|(simp;done)|omega|(rw [IntKind.wrap_i64];omega)))
       let p_11:List St:=p_7++[sb h60,sg h61,sg h72,sb h86,sb h87,sb h61,sl [0] c88]
       rcases (Bool.eq_false_or_eq_true b88).symm with h89|h89
       ·obtain ⟨a90,t90,q90,c90⟩:=(zak t88 6 (by first|assumption|(simp;done)|omega|(rw [IntKind.wrap_i64];omega)))
        obtain ⟨e91,t91,q91,c91⟩:=(hf1 t90 w)
        obtain ⟨e92,t92,q92,c92⟩:=(hf1 t91 w)
        exact ⟨xBin (opAt a90) e91 e92,t92,(by first|exact zaz (by assumption) (by omega) (by omega)|exact .lit zaj (.inl rfl) (fun h=>by simp at h)|exact zax (by assumption) (by assumption)|exact .col ((by assumption:_=true→ColT _ _ _) (by assumption))|exact zba (by assumption) (by assumption) (by first|rfl|(simp;omega)|(rw [IntKind.wrap_i64];simp;omega))|exact za9 (by assumption) (by assumption)|exact zaW (by assumption) (by assumption)|exact zaD (by assumption) (zaV (by assumption)) (by assumption) (by assumption)),wk At.world_Tape_Expr (p_11++[sb h89,sd [(9,[si (e:=IntKind.i64.wrap (d - 1)) rfl]),(15,[si (e:=IntKind.i64.wrap (d - 1)) rfl]),(2,[sl [0] c90]),(3,[se (zfA a90 (by first|assumption|(simp;done)|omega|(rw [IntKind.wrap_i64];omega)))]),(10,[sl [0] c91]),(16,[sl [0] c92]),(17,[sc (zbL (opAt a90) e91 e92)])]]) kr⟩
       ·obtain ⟨e93,t93,q93,c93⟩:=(hf1 t88 w)
        exact ⟨X.mk 4 0 false (V.mk 0 0 (ByteArray.mk #[])) (ByteArray.mk #[]) (ByteArray.mk #[]) [e93] [],t93,(by first|exact zaz (by assumption) (by omega) (by omega)|exact .lit zaj (.inl rfl) (fun h=>by simp at h)|exact zax (by assumption) (by assumption)|exact .col ((by assumption:_=true→ColT _ _ _) (by assumption))|exact zba (by assumption) (by assumption) (by first|rfl|(simp;omega)|(rw [IntKind.wrap_i64];simp;omega))|exact za9 (by assumption) (by assumption)|exact zaW (by assumption) (by assumption)|exact zaD (by assumption) (zaV (by assumption)) (by assumption) (by assumption)),(by (try simp only [X.av,Qy.av,V.av,Tb.av,Sch.av,Pl.av,xsl,fsl,vsl,tsl,List.map_append,List.map_cons,List.map_nil,V.cells,Col.cells,Rw.cells,Tb.cells,Fr.cells,Sch.cells,Pl.cells,za7,zaO,zaU,zaS,za0,X.cells,Qy.cells,X.args_mk,X.sub_mk,Qy.items_mk,Qy.wh_mk,xCol,xLit,xBin,xNeg]);exact wk At.world_Tape_Expr (p_11++[sb h89,si (e:=IntKind.i64.wrap (d - 1)) rfl,sl [0] c93]) kr)⟩
      ·obtain ⟨b94,t94,c94⟩:=(zam t59 6 (by first|assumption|(simp;done)|omega|(rw [IntKind.wrap_i64];omega)))
       let p_12:List St:=p_7++[sb h60,sg h61,sg h72,sb h86,sg h87,sg h72,sb h86,sb h61,sl [0] c94]
       rcases (Bool.eq_false_or_eq_true b94).symm with h95|h95
       ·obtain ⟨a96,t96,q96,c96⟩:=(zak t94 6 (by first|assumption|(simp;done)|omega|(rw [IntKind.wrap_i64];omega)))
        obtain ⟨e97,t97,q97,c97⟩:=(hf1 t96 w)
        obtain ⟨e98,t98,q98,c98⟩:=(hf1 t97 w)
        exact ⟨xBin (opAt a96) e97 e98,t98,(by first|exact zaz (by assumption) (by omega) (by omega)|exact .lit zaj (.inl rfl) (fun h=>by simp at h)|exact zax (by assumption) (by assumption)|exact .col ((by assumption:_=true→ColT _ _ _) (by assumption))|exact zba (by assumption) (by assumption) (by first|rfl|(simp;omega)|(rw [IntKind.wrap_i64];simp;omega))|exact za9 (by assumption) (by assumption)|exact zaW (by assumption) (by assumption)|exact zaD (by assumption) (zaV (by assumption)) (by assumption) (by assumption)),wk At.world_Tape_Expr (p_12++[sb h95,sd [(9,[si (e:=IntKind.i64.wrap (d - 1)) rfl]),(15,[si (e:=IntKind.i64.wrap (d - 1)) rfl]),(2,[sl [0] c96]),(3,[se (zfA a96 (by first|assumption|(simp;done)|omega|(rw [IntKind.wrap_i64];omega)))]),(10,[sl [0] c97]),(16,[sl [0] c98]),(17,[sc (zbL (opAt a96) e97 e98)])]]) kr⟩
       ·obtain ⟨e99,t99,q99,c99⟩:=(hf1 t94 w)
        exact ⟨X.mk 4 0 false (V.mk 0 0 (ByteArray.mk #[])) (ByteArray.mk #[]) (ByteArray.mk #[]) [e99] [],t99,(by first|exact zaz (by assumption) (by omega) (by omega)|exact .lit zaj (.inl rfl) (fun h=>by simp at h)|exact zax (by assumption) (by assumption)|exact .col ((by assumption:_=true→ColT _ _ _) (by assumption))|exact zba (by assumption) (by assumption) (by first|rfl|(simp;omega)|(rw [IntKind.wrap_i64];simp;omega))|exact za9 (by assumption) (by assumption)|exact zaW (by assumption) (by assumption)|exact zaD (by assumption) (zaV (by assumption)) (by assumption) (by assumption)),(by (try simp only [X.av,Qy.av,V.av,Tb.av,Sch.av,Pl.av,xsl,fsl,vsl,tsl,List.map_append,List.map_cons,List.map_nil,V.cells,Col.cells,Rw.cells,Tb.cells,Fr.cells,Sch.cells,Pl.cells,za7,zaO,zaU,zaS,za0,X.cells,Qy.cells,X.args_mk,X.sub_mk,Qy.items_mk,Qy.wh_mk,xCol,xLit,xBin,xNeg]);exact wk At.world_Tape_Expr (p_12++[sb h95,si (e:=IntKind.i64.wrap (d - 1)) rfl,sl [0] c99]) kr)⟩
     ·obtain ⟨a100,t100,q100,c100⟩:=(zak t59 4 (by first|assumption|(simp;done)|omega|(rw [IntKind.wrap_i64];omega)))
      obtain ⟨e101,t101,q101,c101⟩:=(hq t100 (IntKind.i64.wrap (9+(a100:Int))) (by first|assumption|(simp;done)|omega|(rw [IntKind.wrap_i64];omega)))
      exact ⟨e101,t101,(by first|exact zaz (by assumption) (by omega) (by omega)|exact .lit zaj (.inl rfl) (fun h=>by simp at h)|exact zax (by assumption) (by assumption)|exact .col ((by assumption:_=true→ColT _ _ _) (by assumption))|exact zba (by assumption) (by assumption) (by first|rfl|(simp;omega)|(rw [IntKind.wrap_i64];simp;omega))|exact za9 (by assumption) (by assumption)|exact zaW (by assumption) (by assumption)|exact zaD (by assumption) (zaV (by assumption)) (by assumption) (by assumption)),wk At.world_Tape_Expr (p_7++[sb h60,sg h61,sg h72,sb h86,sd [(3,[sl [0] c100]),(4,[si (e:=IntKind.i64.wrap (9+(a100:Int))) rfl]),(6,[sl [0] c101])]]) kr⟩
  ·obtain ⟨x102,ok102,t102,q102,c102⟩:=(hcol t59 w)
   rcases (Bool.eq_false_or_eq_true ok102).symm with h103|h103
   ·obtain ⟨b104,t104,c104⟩:=(zam t102 8 (by first|assumption|(simp;done)|omega|(rw [IntKind.wrap_i64];omega)))
    let p_13:List St:=p_7++[sb h60,sl [0] c102,sb h103,sl [0] c104]
    rcases (Bool.eq_false_or_eq_true b104).symm with h105|h105
    ·cases h106:w==1
     ·obtain ⟨v107,t107,q107,c107⟩:=(zaZ t104 w)
      exact ⟨xLit v107,t107,(by first|exact zaz (by assumption) (by omega) (by omega)|exact .lit zaj (.inl rfl) (fun h=>by simp at h)|exact zax (by assumption) (by assumption)|exact .col ((by assumption:_=true→ColT _ _ _) (by assumption))|exact zba (by assumption) (by assumption) (by first|rfl|(simp;omega)|(rw [IntKind.wrap_i64];simp;omega))|exact za9 (by assumption) (by assumption)|exact zaW (by assumption) (by assumption)|exact zaD (by assumption) (zaV (by assumption)) (by assumption) (by assumption)),wk At.world_Tape_Expr (p_13++[sb h105,sb h106,sl [0] c107,sc (za1 v107)]) kr⟩
     ·obtain ⟨a108,t108,q108,c108⟩:=(za8 t104)
      exact ⟨xNum a108,t108,(by first|exact zaz (by assumption) (by omega) (by omega)|exact .lit zaj (.inl rfl) (fun h=>by simp at h)|exact zax (by assumption) (by assumption)|exact .col ((by assumption:_=true→ColT _ _ _) (by assumption))|exact zba (by assumption) (by assumption) (by first|rfl|(simp;omega)|(rw [IntKind.wrap_i64];simp;omega))|exact za9 (by assumption) (by assumption)|exact zaW (by assumption) (by assumption)|exact zaD (by assumption) (zaV (by assumption)) (by assumption) (by assumption)),wk At.world_Tape_Expr (p_13++[sb h105,sb h106,sl [0] c108,sc (zbM a108 (by first|assumption|(simp;done)|omega|(rw [IntKind.wrap_i64];omega)))]) kr⟩
    ·exact ⟨xLit (V.mk 0 0 (ByteArray.mk #[])),t104,(by first|exact zaz (by assumption) (by omega) (by omega)|exact .lit zaj (.inl rfl) (fun h=>by simp at h)|exact zax (by assumption) (by assumption)|exact .col ((by assumption:_=true→ColT _ _ _) (by assumption))|exact zba (by assumption) (by assumption) (by first|rfl|(simp;omega)|(rw [IntKind.wrap_i64];simp;omega))|exact za9 (by assumption) (by assumption)|exact zaW (by assumption) (by assumption)|exact zaD (by assumption) (zaV (by assumption)) (by assumption) (by assumption)),wk At.world_Tape_Expr (p_13++[sb h105,sc (za1 (V.mk 0 0 (ByteArray.mk #[])))]) kr⟩
   ·obtain ⟨b109,t109,c109⟩:=(zam t102 3 (by first|assumption|(simp;done)|omega|(rw [IntKind.wrap_i64];omega)))
    let p_14:List St:=p_7++[sb h60,sl [0] c102,sg h103,sl [0] c109]
    cases h110:!b109
    ·obtain ⟨b111,t111,c111⟩:=(zam t109 8 (by first|assumption|(simp;done)|omega|(rw [IntKind.wrap_i64];omega)))
     rcases (Bool.eq_false_or_eq_true b111).symm with h112|h112
     ·cases h113:w==1
      ·obtain ⟨v114,t114,q114,c114⟩:=(zaZ t111 w)
       exact ⟨xLit v114,t114,(by first|exact zaz (by assumption) (by omega) (by omega)|exact .lit zaj (.inl rfl) (fun h=>by simp at h)|exact zax (by assumption) (by assumption)|exact .col ((by assumption:_=true→ColT _ _ _) (by assumption))|exact zba (by assumption) (by assumption) (by first|rfl|(simp;omega)|(rw [IntKind.wrap_i64];simp;omega))|exact za9 (by assumption) (by assumption)|exact zaW (by assumption) (by assumption)|exact zaD (by assumption) (zaV (by assumption)) (by assumption) (by assumption)),wk At.world_Tape_Expr (p_14++[sb h110,sl [0] c111,sb h112,sb h113,sl [0] c114,sc (za1 v114)]) kr⟩
      ·obtain ⟨a115,t115,q115,c115⟩:=(za8 t111)
       exact ⟨xNum a115,t115,(by first|exact zaz (by assumption) (by omega) (by omega)|exact .lit zaj (.inl rfl) (fun h=>by simp at h)|exact zax (by assumption) (by assumption)|exact .col ((by assumption:_=true→ColT _ _ _) (by assumption))|exact zba (by assumption) (by assumption) (by first|rfl|(simp;omega)|(rw [IntKind.wrap_i64];simp;omega))|exact za9 (by assumption) (by assumption)|exact zaW (by assumption) (by assumption)|exact zaD (by assumption) (zaV (by assumption)) (by assumption) (by assumption)),wk At.world_Tape_Expr (p_14++[sb h110,sl [0] c111,sb h112,sb h113,sl [0] c115,sc (zbM a115 (by first|assumption|(simp;done)|omega|(rw [IntKind.wrap_i64];omega)))]) kr⟩
     ·exact ⟨xLit (V.mk 0 0 (ByteArray.mk #[])),t111,(by first|exact zaz (by assumption) (by omega) (by omega)|exact .lit zaj (.inl rfl) (fun h=>by simp at h)|exact zax (by assumption) (by assumption)|exact .col ((by assumption:_=true→ColT _ _ _) (by assumption))|exact zba (by assumption) (by assumption) (by first|rfl|(simp;omega)|(rw [IntKind.wrap_i64];simp;omega))|exact za9 (by assumption) (by assumption)|exact zaW (by assumption) (by assumption)|exact zaD (by assumption) (zaV (by assumption)) (by assumption) (by assumption)),wk At.world_Tape_Expr (p_14++[sb h110,sl [0] c111,sb h112,sc (za1 (V.mk 0 0 (ByteArray.mk #[])))]) kr⟩
    ·exact ⟨x102,t109,(by first|exact zaz (by assumption) (by omega) (by omega)|exact .lit zaj (.inl rfl) (fun h=>by simp at h)|exact zax (by assumption) (by assumption)|exact .col ((by assumption:_=true→ColT _ _ _) (by assumption))|exact zba (by assumption) (by assumption) (by first|rfl|(simp;omega)|(rw [IntKind.wrap_i64];simp;omega))|exact za9 (by assumption) (by assumption)|exact zaW (by assumption) (by assumption)|exact zaD (by assumption) (zaV (by assumption)) (by assumption) (by assumption)),wk At.world_Tape_Expr (p_14++[sb h110]) kr⟩
theorem zmU:∀ (n:Nat),n≤500→RecT n (n+2) (dpt n)
 | 0,_,t,p,w,hp=>zpJ t p w _ (by decide) (by decide) fun t w=>zcn t p w hp.few1 hp.cols
 | 1,_,t,p,w,hp=>by
  obtain ⟨e,t',h,hc⟩:=zpJ t p w (dpt 1) (by decide) (by decide) fun t w=>zcn t p w hp.few1 hp.cols
  exact ⟨e,t',h.mono,hc⟩
 | n+2,hn,t,p,w,hp=>by
  have h1:=zmU (n+1) (by omega)
  have h2:=zmU n (by omega)
  have e1:=dpt1 n (by omega)
  have e2:=dpt2 n (by omega)
  have hf1:RecT (n+1) (n+3) (IntKind.i64.wrap (dpt (n+2) - 1)):=by rw [e1];exact h1
  have hf2:RecT (n+1) (n+3) (IntKind.i64.wrap (dpt (n+2) - 2)):=by
   rw [e2]
   intro t p w hp
   obtain ⟨e,t',h,hc⟩:=h2 t p w hp.less
   exact ⟨e,t',h.mono,hc⟩
  exact zuw t p w (dpt (n+2)) (n+2) (by simp only [dpt];simp;omega) (by simp only [dpt];simp;omega) (fun t w=>zcn t p w hp.few1 hp.cols) (fun t w=>hf1 t p w hp.less)
   (fun t k hk=>zuZ t p k (n+3) (dpt (n+2)) hk hp.pos hp.short (fun t pi w ⟨k,s,hs,e⟩=>e ▸ hf1 t (plIn p s) w (hp.ins hs)) (fun t pi w ⟨k,s,hs,e⟩=>e ▸ hf2 t (plIn p s) w (hp.ins hs))) (fun t=>zpS t p (n+3) (dpt (n+2)) (fun t w=>hf1 t p w hp.less))
end Go.AM
namespace Go.AM
set_option maxRecDepth 100000
set_option maxHeartbeats 1000000
set_option linter.unusedSimpArgs false
set_option linter.unusedVariables false
structure Deep (M:Nat):Prop where
 ge:3≤M
def zcS (tbs:List Sch) (M:Nat) (frs:List Fr) (cols:List Col) (i:Nat) (its:List X):Prop:=its.length=i∧∀ (j:Nat) (c:Col) (x:X),cols[j]?=some c→its[j]?=some x→XT tbs M frs c.type x
section
variable {tbs : List Sch} {M : Nat} {frs : List Fr} {cols : List Col} {i : Nat} {its : List X} {c : Col} {e e0 : X}
theorem zbH:zcS tbs M frs cols 0 []:=⟨rfl,fun j c x _ h=>by simp at h⟩
theorem zbN (h:zcS tbs M frs cols i its) (hx:cols[i]?=some c) (he:XT tbs M frs c.type e):zcS tbs M frs cols (i+1) (its++[e]):=by
 refine ⟨by simp [h.1],fun j c' x hc hj=>?_⟩
 by_cases hk:j < its.length
 ·rw [List.getElem?_append_left hk] at hj
  exact h.2 j c' x hc hj
 ·have h1:=h.1
  have h2:=zcj hj
  simp only [List.length_append,List.length_cons,List.length_nil] at h2
  have:j=i:=by omega
  subst this
  rw [hx] at hc;cases hc
  rw [List.getElem?_append_right (by omega)] at hj
  have h3:j - its.length=0:=by omega
  rw [h3] at hj
  simp only [List.getElem?_cons_zero,Option.some.injEq] at hj
  exact hj ▸ he
theorem ztd {k:Nat} {w:Int} {x:X} (h:ColT (frs.drop k) w x):ColT frs w x:=by
 obtain ⟨j,f,c,a,h1,h2,h3,h4,h5⟩:=h
 rw [List.getElem?_drop] at h1
 refine ⟨k+j,f,c,a,h1,h2,h3,h4,h5.imp id fun ⟨q1,q2,q3⟩=>⟨q1,q2,?_⟩⟩
 rw [List.length_drop] at q3;have:=zcj h1;omega
theorem ztG {k n:Nat} {w:Int} {x:X} (hn:n=frs.length) (h:ColT ((frs.take n).drop k) w x):ColT frs w x:=by
 rw [List.take_of_length_le (by omega)] at h;exact ztd h
theorem zrL {s:Sch} {x:X} {n k:Nat} {a:Int} (hs:∀ c∈s.cols,c.key=true→c.type=1) (hx:s.cols[i]?=some c) (hk:c.key=true) (hc:ColT ((frs.take n).drop k) 1 x) (hn:n=frs.length) (h:-9223372036854775808 < a) (h2:a≤9223372036854775807) (hM:Deep M):XT tbs M frs c.type (xA 5 9 false [x,xNum a]):=by
 rw [hs c (List.mem_of_getElem? hx) hk]
 exact (zaD (n:=2) rfl ⟨by omega,by omega⟩ (.col (ztG hn hc)) (zmB h h2)).le hM.ge
end
noncomputable def L_cpT (t0:Tp) (p pi:Pl) (s f:Sch) (d:Int) (M k:Nat) (i:Nat) (u:Tp) (its:List X):Cfg:=zar B.world_Tape_copies 0 [(0,.p 0 0),(3,iv d),(8,.p 3 0),(10,.p 5 0),(11,.p 6 0),(33,.sl (s.cols.map Col.cells)),(34,iv ((s.cols.map Col.cells).length:Nat)),(35,iv (i:Nat))] [.box u.cells,.box p.cells,.box s.cells,.box [.bl false,.nl,sv ⟨#[]⟩,.nl],.box f.cells,.box pi.cells,.box [.bl false,.own 7 its.length,sv f.name,.nl],.row Ty.Expr (zab its) false]
theorem zeZ (t0:Tp) (p pi:Pl) (s f:Sch) (d:Int) (M k:Nat) (hp:pi.OkN k) (hs:Few s.cols) (hfr:pi.frs≠[]) (hkey:∀ c∈s.cols,c.key=true→c.type=1) (hM:Deep M) (hcol:∀ (t:Tp) (p:Pl) (w:Int),Few p.frs→(∀ f∈p.frs,Few f.cols)→∃ (x:X) (ok:Bool) (t':Tp),(ok=true→ColT p.frs w x)∧zac E0 S.world_Tape_column [.p 0 0,p.av,iv w] [.box t.cells] (.tup [x.av,bv ok]) [.box t'.cells]) (hE:∀ (t:Tp) (p:Pl) (w:Int),p.OkN k→∃ (e:X) (t':Tp),XT p.tbs M p.frs w e∧zac E0 S.world_Tape_Expr [.p 0 0,p.av,iv w,iv d] [.box t.cells] e.av [.box t'.cells]) (i:Nat) (u:Tp) (its:List X) (hi:i≤(s.cols).length) (hI:zcS pi.tbs M pi.frs s.cols i its):∃ (u':Tp) (its':List X),(zcS pi.tbs M pi.frs s.cols (s.cols).length its')∧(decide ((((s.cols).length:Nat):Int) < (((s.cols.map Col.cells).length:Nat):Int))=false)∧∀ R,Good E0 B.world_Tape_copies [.box t0.cells] (L_cpT t0 p pi s f d M k (s.cols).length u' its') R→Good E0 B.world_Tape_copies [.box t0.cells] (L_cpT t0 p pi s f d M k i u its) R:=by
 obtain ⟨kk,hk⟩:∃ kk,i+kk=(s.cols).length:=⟨(s.cols).length - i,by omega⟩
 induction kk generalizing i u its with
 | zero =>
  have e0:i=(s.cols).length:=by omega
  subst e0
  exact ⟨u,its,hI,by simp,fun R hg=>hg⟩
 | succ kk ih =>
  obtain ⟨x,hx⟩:=zay (l:=s.cols) (i:=i) (by omega)
  have h0:decide (((i:Nat):Int) < (((s.cols.map Col.cells).length:Nat):Int))=true:=by simp;omega
  have hw:IntKind.i64.wrap (((i:Nat):Int)+1)=((i+1:Nat):Int):=zao i (by first|omega|(simp only [zad,Few] at *;omega))
  have hfl:pi.frs.length≤1000∧0 < pi.frs.length:=⟨by have:=hp.frs;omega,List.length_pos_iff.2 hfr⟩
  have hil:its.length≤1000:=by have:=hI.1;simp only [Few] at hs;omega
  have hsa:=zr1 pi.frs hfl
  obtain ⟨e1,t1,q1,c1⟩:=(hE u pi x.type (by first|assumption|omega|(simp only [Few,List.length_drop,List.length_take];omega)|exact fun f hf=>hp.cols f (List.mem_of_mem_take (List.mem_of_mem_drop hf))|(simp;done)))
  let p_1:List St:=[sb h0,se (zah Col.cells hx rfl),sl [0] c1]
  cases h2:x.key
  ·obtain ⟨uZ,itsZ,qZ,xZ,gZ⟩:=ih (i+1) t1 (its++[e1]) (by omega) (by first|exact zbN hI hx (by assumption)|exact zbN hI hx (zrL hkey hx (by assumption) ((by assumption:_=true→ColT _ _ _) (by assumption)) (by simp) (by omega) (by omega) hM)) (by omega);exact ⟨uZ,itsZ,qZ,xZ,fun R hg=>zaa (wkl (p_1++[sb h2,sqx (AllLen [[iv e1.kind,iv e1.op,bv e1.not,iv e1.val.kind,iv e1.val.int,sv e1.val.text,sv e1.table,sv e1.name,AV.sl (zab e1.args),AV.sl (zaf e1.sub)]] 10∧its.length=(zab its).length∧(((zab its).length+[[iv e1.kind,iv e1.op,bv e1.not,iv e1.val.kind,iv e1.val.int,sv e1.val.text,sv e1.table,sv e1.name,AV.sl (zab e1.args),AV.sl (zaf e1.sub)]].length) * 136).le 140737488355328),si hw]) [0,3,8,10,11,33,34,35] 8 kr (zat rfl (show ([Blk.box [AV.sl (List.map (fun n=>[iv n]) t1.l),iv (t1.pos:Int)],Blk.box [AV.sl (List.map Fr.cells p.frs),AV.sl (List.map Sch.cells p.tbs)],Blk.box [sv s.name,AV.sl (List.map Col.cells s.cols)],Blk.box [AV.bl false,AV.nl,sv (ByteArray.mk #[]),AV.nl],Blk.box [sv f.name,AV.sl (List.map Col.cells f.cols)],Blk.box [AV.sl (List.map Fr.cells pi.frs),AV.sl (List.map Sch.cells pi.tbs)],Blk.box [AV.bl false,AV.own 7 (zab its++[[iv e1.kind,iv e1.op,bv e1.not,iv e1.val.kind,iv e1.val.int,sv e1.val.text,sv e1.table,sv e1.name,AV.sl (zab e1.args),AV.sl (zaf e1.sub)]]).length,sv f.name,AV.nl],Blk.row Ty.Expr (zab its++[[iv e1.kind,iv e1.op,bv e1.not,iv e1.val.kind,iv e1.val.int,sv e1.val.text,sv e1.table,sv e1.name,AV.sl (zab e1.args),AV.sl (zaf e1.sub)]]) false]:Heap)=_ by first|rfl|(simp;done)|(simp [X.cells,Qy.cells,V.cells,Col.cells,Rw.cells,Tb.cells,Fr.cells,Sch.cells,Tp.cells,Pl.cells,xCol,xLit,xBin,xNeg,Im.cells,Lk.cells,Ac.cells,Se.cells,Tg.cells,Rk.cells];done)) (gZ R hg)))⟩
  ·obtain ⟨x3,ok3,t3,q3,c3⟩:=(hcol t1 (Pl.mk (List.drop (IntKind.i64.wrap ((↑(List.map Fr.cells pi.frs).length:Int) - 1)).toNat (List.take (List.map Fr.cells pi.frs).length pi.frs)) []) 1 (by first|assumption|omega|(simp only [Few,List.length_drop,List.length_take];omega)|exact fun f hf=>hp.cols f (List.mem_of_mem_take (List.mem_of_mem_drop hf))|(simp;done)) (by first|assumption|omega|(simp only [Few,List.length_drop,List.length_take];omega)|exact fun f hf=>hp.cols f (List.mem_of_mem_take (List.mem_of_mem_drop hf))|(simp;done)))
   let p_2:List St:=p_1++[sb h2,si (e:=IntKind.i64.wrap ((↑(List.map Fr.cells pi.frs).length:Int) - 1)) rfl,sqx (SubAt (List.map Fr.cells pi.frs) (IntKind.i64.wrap ((↑(List.map Fr.cells pi.frs).length:Int) - 1)) (↑(List.map Fr.cells pi.frs).length:Int) 4),sl [0] (conv (args:=[AV.p 0 0,AV.agg [AV.sl (List.drop (IntKind.i64.wrap ((↑(List.map Fr.cells pi.frs).length:Int) - 1)).toNat (List.take (↑(List.map Fr.cells pi.frs).length:Int).toNat (List.map Fr.cells pi.frs))),AV.sl []],iv 1]) (hl:=[Blk.box [AV.sl (List.map (fun n=>[iv n]) t1.l),iv (t1.pos:Int)]]) c3 (by first|(simp;done)|(simp [Pl.cells,Tp.cells,List.map_drop,List.map_take,List.take_of_length_le];done)|rfl) (by first|(simp;done)|(simp [Pl.cells,Tp.cells,List.map_drop,List.map_take,List.take_of_length_le];done)|rfl))]
   rcases (Bool.eq_false_or_eq_true ok3).symm with h4|h4
   ·obtain ⟨uZ,itsZ,qZ,xZ,gZ⟩:=ih (i+1) t3 (its++[e1]) (by omega) (by first|exact zbN hI hx (by assumption)|exact zbN hI hx (zrL hkey hx (by assumption) ((by assumption:_=true→ColT _ _ _) (by assumption)) (by simp) (by omega) (by omega) hM)) (by omega);exact ⟨uZ,itsZ,qZ,xZ,fun R hg=>zaa (wkl (p_2++[sb h4,sqx (AllLen [[iv e1.kind,iv e1.op,bv e1.not,iv e1.val.kind,iv e1.val.int,sv e1.val.text,sv e1.table,sv e1.name,AV.sl (zab e1.args),AV.sl (zaf e1.sub)]] 10∧its.length=(zab its).length∧(((zab its).length+[[iv e1.kind,iv e1.op,bv e1.not,iv e1.val.kind,iv e1.val.int,sv e1.val.text,sv e1.table,sv e1.name,AV.sl (zab e1.args),AV.sl (zaf e1.sub)]].length) * 136).le 140737488355328),si hw]) [0,3,8,10,11,33,34,35] 8 kr (zat rfl (show ([Blk.box [AV.sl (List.map (fun n=>[iv n]) t3.l),iv (t3.pos:Int)],Blk.box [AV.sl (List.map Fr.cells p.frs),AV.sl (List.map Sch.cells p.tbs)],Blk.box [sv s.name,AV.sl (List.map Col.cells s.cols)],Blk.box [AV.bl false,AV.nl,sv (ByteArray.mk #[]),AV.nl],Blk.box [sv f.name,AV.sl (List.map Col.cells f.cols)],Blk.box [AV.sl (List.map Fr.cells pi.frs),AV.sl (List.map Sch.cells pi.tbs)],Blk.box [AV.bl false,AV.own 7 (zab its++[[iv e1.kind,iv e1.op,bv e1.not,iv e1.val.kind,iv e1.val.int,sv e1.val.text,sv e1.table,sv e1.name,AV.sl (zab e1.args),AV.sl (zaf e1.sub)]]).length,sv f.name,AV.nl],Blk.row Ty.Expr (zab its++[[iv e1.kind,iv e1.op,bv e1.not,iv e1.val.kind,iv e1.val.int,sv e1.val.text,sv e1.table,sv e1.name,AV.sl (zab e1.args),AV.sl (zaf e1.sub)]]) false]:Heap)=_ by first|rfl|(simp;done)|(simp [X.cells,Qy.cells,V.cells,Col.cells,Rw.cells,Tb.cells,Fr.cells,Sch.cells,Tp.cells,Pl.cells,xCol,xLit,xBin,xNeg,Im.cells,Lk.cells,Ac.cells,Se.cells,Tg.cells,Rk.cells];done)) (gZ R hg)))⟩
   ·obtain ⟨a5,t5,q5,c5⟩:=(zak t3 20 (by first|assumption|omega|(simp only [Few,List.length_drop,List.length_take];omega)|exact fun f hf=>hp.cols f (List.mem_of_mem_take (List.mem_of_mem_drop hf))|(simp;done)))
    obtain ⟨uZ,itsZ,qZ,xZ,gZ⟩:=ih (i+1) t5 (its++[xBin 9 x3 (xNum (↑(10+a5):Int))]) (by omega) (by first|exact zbN hI hx (by assumption)|exact zbN hI hx (zrL hkey hx (by assumption) ((by assumption:_=true→ColT _ _ _) (by assumption)) (by simp) (by omega) (by omega) hM)) (by omega);exact ⟨uZ,itsZ,qZ,xZ,fun R hg=>zaa (wkl (p_2++[sb h4,sd [(2,[sl [0] c5]),(3,[si (zcm (t:=10+(a5:Int)) (n:=10+a5) (by omega) (by omega))]),(4,[sc (zbM ((↑(10+a5):Int)) (by first|assumption|omega|(simp only [Few,List.length_drop,List.length_take];omega)|exact fun f hf=>hp.cols f (List.mem_of_mem_take (List.mem_of_mem_drop hf))|(simp;done)))]),(5,[sc (zbL 9 x3 (xNum (↑(10+a5):Int)))])],sqx (AllLen [[iv (xBin 9 x3 (xNum (↑(10+a5):Int))).kind,iv (xBin 9 x3 (xNum (↑(10+a5):Int))).op,bv (xBin 9 x3 (xNum (↑(10+a5):Int))).not,iv (xBin 9 x3 (xNum (↑(10+a5):Int))).val.kind,iv (xBin 9 x3 (xNum (↑(10+a5):Int))).val.int,sv (xBin 9 x3 (xNum (↑(10+a5):Int))).val.text,sv (xBin 9 x3 (xNum (↑(10+a5):Int))).table,sv (xBin 9 x3 (xNum (↑(10+a5):Int))).name,AV.sl (zab [x3,xNum (↑(10+a5):Int)]),AV.sl (zaf [])]] 10∧its.length=(zab its).length∧(((zab its).length+[[iv (xBin 9 x3 (xNum (↑(10+a5):Int))).kind,iv (xBin 9 x3 (xNum (↑(10+a5):Int))).op,bv (xBin 9 x3 (xNum (↑(10+a5):Int))).not,iv (xBin 9 x3 (xNum (↑(10+a5):Int))).val.kind,iv (xBin 9 x3 (xNum (↑(10+a5):Int))).val.int,sv (xBin 9 x3 (xNum (↑(10+a5):Int))).val.text,sv (xBin 9 x3 (xNum (↑(10+a5):Int))).table,sv (xBin 9 x3 (xNum (↑(10+a5):Int))).name,AV.sl (zab [x3,xNum (↑(10+a5):Int)]),AV.sl (zaf [])]].length) * 136).le 140737488355328),si hw]) [0,3,8,10,11,33,34,35] 8 kr (zat rfl (show ([Blk.box [AV.sl (List.map (fun n=>[iv n]) t5.l),iv (t5.pos:Int)],Blk.box [AV.sl (List.map Fr.cells p.frs),AV.sl (List.map Sch.cells p.tbs)],Blk.box [sv s.name,AV.sl (List.map Col.cells s.cols)],Blk.box [AV.bl false,AV.nl,sv (ByteArray.mk #[]),AV.nl],Blk.box [sv f.name,AV.sl (List.map Col.cells f.cols)],Blk.box [AV.sl (List.map Fr.cells pi.frs),AV.sl (List.map Sch.cells pi.tbs)],Blk.box [AV.bl false,AV.own 7 (zab its++[[iv (xBin 9 x3 (xNum (↑(10+a5):Int))).kind,iv (xBin 9 x3 (xNum (↑(10+a5):Int))).op,bv (xBin 9 x3 (xNum (↑(10+a5):Int))).not,iv (xBin 9 x3 (xNum (↑(10+a5):Int))).val.kind,iv (xBin 9 x3 (xNum (↑(10+a5):Int))).val.int,sv (xBin 9 x3 (xNum (↑(10+a5):Int))).val.text,sv (xBin 9 x3 (xNum (↑(10+a5):Int))).table,sv (xBin 9 x3 (xNum (↑(10+a5):Int))).name,AV.sl (zab [x3,xNum (↑(10+a5):Int)]),AV.sl (zaf [])]]).length,sv f.name,AV.nl],Blk.row Ty.Expr (zab its++[[iv (xBin 9 x3 (xNum (↑(10+a5):Int))).kind,iv (xBin 9 x3 (xNum (↑(10+a5):Int))).op,bv (xBin 9 x3 (xNum (↑(10+a5):Int))).not,iv (xBin 9 x3 (xNum (↑(10+a5):Int))).val.kind,iv (xBin 9 x3 (xNum (↑(10+a5):Int))).val.int,sv (xBin 9 x3 (xNum (↑(10+a5):Int))).val.text,sv (xBin 9 x3 (xNum (↑(10+a5):Int))).table,sv (xBin 9 x3 (xNum (↑(10+a5):Int))).name,AV.sl (zab [x3,xNum (↑(10+a5):Int)]),AV.sl (zaf [])]]) false]:Heap)=_ by first|rfl|(simp;done)|(simp [X.cells,Qy.cells,V.cells,Col.cells,Rw.cells,Tb.cells,Fr.cells,Sch.cells,Tp.cells,Pl.cells,xCol,xLit,xBin,xNeg,Im.cells,Lk.cells,Ac.cells,Se.cells,Tg.cells,Rk.cells];done)) (gZ R hg)))⟩
inductive QyT (tbs:List Sch) (M:Nat) (frs:List Fr) (s:Sch):Qy→Prop
 | mk {f:Sch} {its wh:List X}:f∈tbs→zcS tbs M (frIn frs f) s.cols s.cols.length its→wh.length≤1→(∀ x∈wh,XT tbs M (frIn frs f) 2 x)→QyT tbs M frs s (Qy.mk false its f.name wh)
theorem zhF (t:Tp) (p:Pl) (s:Sch) (d:Int) (M k:Nat) (hp:p.OkN (k+1)) (hs:Few s.cols) (hkey:∀ c∈s.cols,c.key=true→c.type=1) (hM:Deep M) (hcol:∀ (t:Tp) (p:Pl) (w:Int),Few p.frs→(∀ f∈p.frs,Few f.cols)→∃ (x:X) (ok:Bool) (t':Tp),(ok=true→ColT p.frs w x)∧zac E0 S.world_Tape_column [.p 0 0,p.av,iv w] [.box t.cells] (.tup [x.av,bv ok]) [.box t'.cells]) (hE:∀ (t:Tp) (p:Pl) (w:Int),p.OkN k→∃ (e:X) (t':Tp),XT p.tbs M p.frs w e∧zac E0 S.world_Tape_Expr [.p 0 0,p.av,iv w,iv d] [.box t.cells] e.av [.box t'.cells]):∃ (qy:Qy) (t':Tp),QyT p.tbs M p.frs s qy∧zac E0 S.world_Tape_copies [.p 0 0,p.av,s.av,iv d] [.box t.cells] qy.av [.box t'.cells]:=by
 obtain ⟨a1,t1,q1,c1⟩:=(zak t ((↑(List.map Sch.cells p.tbs).length:Int)) (by first|assumption|exact hp.pos|omega|exact hp.ins (by assumption)|(simp [plIn];done)|(simp at *;omega)|exact hp.short|exact zbH))
 obtain ⟨x2,e2⟩:=zay (l:=p.tbs) (i:=a1) (by first|assumption|exact hp.pos|omega|exact hp.ins (by assumption)|(simp [plIn];done)|(simp at *;omega)|exact hp.short|exact zbH)
 obtain ⟨u3,its3,q3,q3_1,g3⟩:=zeZ t p (plIn p x2) s x2 d M k (by first|assumption|exact hp.pos|omega|exact hp.ins (by assumption)|(simp [plIn];done)|(simp at *;omega)|exact hp.short|exact zbH) (by first|assumption|exact hp.pos|omega|exact hp.ins (by assumption)|(simp [plIn];done)|(simp at *;omega)|exact hp.short|exact zbH) (by first|assumption|exact hp.pos|omega|exact hp.ins (by assumption)|(simp [plIn];done)|(simp at *;omega)|exact hp.short|exact zbH) (by first|assumption|exact hp.pos|omega|exact hp.ins (by assumption)|(simp [plIn];done)|(simp at *;omega)|exact hp.short|exact zbH) hM (by first|assumption|exact hp.pos|omega|exact hp.ins (by assumption)|(simp [plIn];done)|(simp at *;omega)|exact hp.short|exact zbH) hE 0 t1 ([]) (by first|assumption|exact hp.pos|omega|exact hp.ins (by assumption)|(simp [plIn];done)|(simp at *;omega)|exact hp.short|exact zbH) (by first|assumption|exact hp.pos|omega|exact hp.ins (by assumption)|(simp [plIn];done)|(simp at *;omega)|exact hp.short|exact zbH)
 obtain ⟨b4,t4,c4⟩:=(zam u3 2 (by first|assumption|exact hp.pos|omega|exact hp.ins (by assumption)|(simp [plIn];done)|(simp at *;omega)|exact hp.short|exact zbH))
 let p_1:List St:=[sdm [(6,[sl [0] c1]),(7,[se (zah Sch.cells e2 rfl)])] 0 [(0,AV.p 0 0),(1,AV.agg [AV.sl (List.map Fr.cells p.frs),AV.sl (List.map Sch.cells p.tbs)]),(2,AV.agg [sv s.name,AV.sl (List.map Col.cells s.cols)]),(3,iv d),(5,AV.p 1 0),(6,AV.p 2 0),(8,AV.p 3 0),(9,AV.p 4 0),(17,AV.p 1 1),(18,AV.sl (List.map Sch.cells p.tbs)),(19,AV.p 0 0),(20,AV.p 1 1),(21,AV.sl (List.map Sch.cells p.tbs)),(22,iv (↑(List.map Sch.cells p.tbs).length:Int)),(23,iv (a1:Int)),(24,AV.dp [sv x2.name,AV.sl (List.map Col.cells x2.cols)]),(25,AV.agg [sv x2.name,AV.sl (List.map Col.cells x2.cols)])] [Blk.box [AV.sl (List.map (fun n=>[iv n]) t1.l),iv (t1.pos:Int)],Blk.box [AV.sl (List.map Fr.cells p.frs),AV.sl (List.map Sch.cells p.tbs)],Blk.box [sv s.name,AV.sl (List.map Col.cells s.cols)],Blk.box [AV.bl false,AV.nl,sv (ByteArray.mk #[]),AV.nl],Blk.box [sv x2.name,AV.sl (List.map Col.cells x2.cols)]],sc (zfa p x2 (by first|assumption|exact hp.pos|omega|exact hp.ins (by assumption)|(simp [plIn];done)|(simp at *;omega)|exact hp.short|exact zbH))]
 let p_2:List St:=[sqx (True∧its3.length=(zab its3).length∧True∧True∧True),sb q3_1,sl [0] c4]
 rcases (Bool.eq_false_or_eq_true b4).symm with h5|h5
 ·exact ⟨Qy.mk false its3 x2.name [],t4,(by exact .mk (List.mem_of_getElem? (by assumption)) (by assumption) (by simp) (by first|exact xt0|exact xt1 (by assumption))),wkcN At.world_Tape_copies p_1 [0,3,8,10,11,33,34,35] 7 [(.ob 6 1 Ty.Expr,8)] kr (g3 _ (zaa (wkr (p_2++[sb h5]) kr)))⟩
 ·obtain ⟨e6,t6,q6,c6⟩:=(hE t4 (plIn p x2) 2 (by first|assumption|exact hp.pos|omega|exact hp.ins (by assumption)|(simp [plIn];done)|(simp at *;omega)|exact hp.short|exact zbH))
  exact ⟨Qy.mk false its3 x2.name [e6],t6,(by exact .mk (List.mem_of_getElem? (by assumption)) (by assumption) (by simp) (by first|exact xt0|exact xt1 (by assumption))),wkcN At.world_Tape_copies p_1 [0,3,8,10,11,33,34,35] 7 [(.ob 6 1 Ty.Expr,8)] kr (g3 _ (zaa (wkrS (y:=AV.agg [bv false,AV.sl (zab its3),sv x2.name,AV.sl [[iv e6.kind,iv e6.op,bv e6.not,iv e6.val.kind,iv e6.val.int,sv e6.val.text,sv e6.table,sv e6.name,AV.sl (zab e6.args),AV.sl (zaf e6.sub)]]]) (H:=[Blk.box [AV.sl (List.map (fun n=>[iv n]) t6.l),iv (t6.pos:Int)]]) (p_2++[sb h5,sl [0] c6]) kr ⟨by first|rfl|(simp;done)|(simp [X.cells,Qy.cells,V.cells,Col.cells,Rw.cells,Tb.cells,Fr.cells,Sch.cells,Tp.cells,Pl.cells,xCol,xLit,xBin,xNeg,Im.cells,Lk.cells,Ac.cells,Se.cells,Tg.cells,Rk.cells];done),by first|rfl|(simp;done)|(simp [X.cells,Qy.cells,V.cells,Col.cells,Rw.cells,Tb.cells,Fr.cells,Sch.cells,Tp.cells,Pl.cells,xCol,xLit,xBin,xNeg,Im.cells,Lk.cells,Ac.cells,Se.cells,Tg.cells,Rk.cells];done)⟩)))⟩
end Go.AM
namespace Go.AM
set_option maxRecDepth 100000
set_option maxHeartbeats 1000000
set_option linter.unusedSimpArgs false
set_option linter.unusedVariables false
abbrev zpg (k:Int) (n:Str):List AV:=[iv k,sv n,.nl,.nl,.nl,.nl,sv ⟨#[]⟩]
theorem zty {n:Nat} (h:n≤1000):(IntKind.i64.wrap (((n+1:Nat):Int) - 1)).toNat=n:=by
 rw [IntKind.wrap_i64];omega
theorem zpU (xs:List X) (c:List AV) (h:xs.length≤1000):OwnEl (zab xs++[c]) (zab xs++[c]).length (IntKind.i64.wrap ((((zab xs++[c]).length:Nat):Int) - 1)).toNat c:=by
 have h1:(zab xs++[c]).length=xs.length+1:=by simp
 refine ⟨rfl,?_⟩
 rw [h1,zty h]
 simp
theorem modOkT {a n:Nat} (h:0 < n):0≤((a:Nat):Int).tmod ((n:Nat):Int)∧((a:Nat):Int).tmod ((n:Nat):Int) < ((n:Nat):Int) :=
 ⟨Int.tmod_nonneg _ (by omega),Int.tmod_lt_of_pos _ (by omega)⟩
theorem zaF {n:Nat} {p:Pl} {s:Sch} (h:p.OkN (n+1)) (hs:Few s.cols):(plIn p s).OkN n:=by
 refine ⟨by have:=h.frs;simp [plIn];omega,fun f hf=>?_,h.ne,h.few,h.tcols⟩
 simp only [plIn,List.mem_append,List.mem_singleton] at hf
 rcases hf with hf|rfl
 ·exact h.cols f hf
 ·exact hs
theorem zbf {w:Str} (h:TabN w):Pos ((((zaA w).cols.map Col.cells).length:Nat):Int):=by
 have h1:=(zag h).few
 have h2:=List.length_pos_iff.2 (zag h).ne
 simp only [Few] at h1
 rw [List.length_map]
 exact ⟨by omega,by omega⟩
section
variable {tbs : List Sch} {M : Nat} {frs : List Fr} {cols : List Col} {i n : Nat} {its : List X} {c : Col} {e e0 : X}
theorem zfK (h:zcS tbs M frs cols i its) (hx:cols[i]?=some c) (ht:(c.type==1)=true) (hn:n=i) {a:Int} (h1:-9223372036854775808 < a) (h2:a≤9223372036854775807) (hM:Deep M):zcS tbs M frs cols (i+1) ((its++[e0]).set n (xNum a)):=by
 have e1:(its++[e0]).set n (xNum a)=its++[xNum a]:=by
  rw [List.set_append_right _ _ (by have:=h.1;omega),hn,h.1];simp
 rw [e1]
 exact zbN h hx (by rw [show c.type=1 by simpa using ht];exact (zmB (n:=0) h1 h2).le (Nat.le_trans (by omega) hM.ge))
theorem zfP (h:zcS tbs M frs cols i its) (hx:cols[i]?=some c) (ht:(c.type==1)=false) {v:V} (hv:v.kind=zbD c.type∧v.Good) (hM:Deep M):zcS tbs M frs cols (i+1) (its++[xLit v]) :=
 zbN h hx ((zax (n:=0) ht hv).le (Nat.le_trans (by omega) hM.ge))
end
noncomputable def L_ctC (t0:Tp) (p pi:Pl) (s:Sch) (kd:Int) (rows:List (List X)) (kq:Nat) (d:Int) (M k:Nat) (i:Nat) (u:Tp) (xs:List X):Cfg:=zar B.world_Tape_Change 1 [(0,.p 0 0),(2,iv d),(4,.p 1 0),(6,.p 2 0),(7,.p 3 0),(8,.p 4 0),(9,.p 5 0),(10,iv (kq:Nat)),(11,.own 7 xs.length),(52,.sl (s.cols.map Col.cells)),(53,iv ((s.cols.map Col.cells).length:Nat)),(54,iv (i:Nat))] [.box u.cells,.box p.cells,.box (zpg 0 ⟨#[]⟩),.box s.cells,.box pi.cells,.box [iv kd,sv s.name,.own 6 rows.length,.nl,.nl,.nl,sv ⟨#[]⟩],.row Ty.LExpr (rows.map zaH) false,.row Ty.Expr (zab xs) false]
theorem zeY (t0:Tp) (p pi:Pl) (s:Sch) (kd:Int) (rows:List (List X)) (kq:Nat) (d:Int) (M k:Nat) (hp:p.OkN k) (hs:Few s.cols) (hM:Deep M) (hE:∀ (t:Tp) (p:Pl) (w:Int),p.OkN k→∃ (e:X) (t':Tp),XT p.tbs M p.frs w e∧zac E0 S.world_Tape_Expr [.p 0 0,p.av,iv w,iv d] [.box t.cells] e.av [.box t'.cells]) (i:Nat) (u:Tp) (xs:List X) (hi:i≤(s.cols).length) (hI:zcS p.tbs M p.frs s.cols i xs):∃ (u':Tp) (xs':List X),(zcS p.tbs M p.frs s.cols (s.cols).length xs')∧(decide ((((s.cols).length:Nat):Int) < (((s.cols.map Col.cells).length:Nat):Int))=false)∧∀ R,Good E0 B.world_Tape_Change [.box t0.cells] (L_ctC t0 p pi s kd rows kq d M k (s.cols).length u' xs') R→Good E0 B.world_Tape_Change [.box t0.cells] (L_ctC t0 p pi s kd rows kq d M k i u xs) R:=by
 obtain ⟨kk,hk⟩:∃ kk,i+kk=(s.cols).length:=⟨(s.cols).length - i,by omega⟩
 induction kk generalizing i u xs with
 | zero =>
  have e0:i=(s.cols).length:=by omega
  subst e0
  exact ⟨u,xs,hI,by simp,fun R hg=>hg⟩
 | succ kk ih =>
  obtain ⟨x,hx⟩:=zay (l:=s.cols) (i:=i) (by omega)
  have h0:decide (((i:Nat):Int) < (((s.cols.map Col.cells).length:Nat):Int))=true:=by simp;omega
  have hw:IntKind.i64.wrap (((i:Nat):Int)+1)=((i+1:Nat):Int):=zao i (by first|omega|(simp only [zad,Few] at *;omega))
  have hil:xs.length≤1000:=by have:=hI.1;simp only [Few] at hs;omega
  have hwx:IntKind.i64.wrap ((xs.length:Nat):Int)=((xs.length:Nat):Int):=by rw [IntKind.wrap_i64];omega
  let p_1:List St:=[sb h0,se (zah Col.cells hx rfl)]
  cases h1:x.key
  ·obtain ⟨b2,t2,c2⟩:=(zam u 3 (by first|assumption|omega|(simp;done)|(simp;omega)))
   rcases (Bool.eq_false_or_eq_true b2).symm with h3|h3
   ·obtain ⟨e4,t4,q4,c4⟩:=(hE t2 p x.type (by first|assumption|omega|(simp;done)|(simp;omega)))
    obtain ⟨uZ,xsZ,qZ,xZ,gZ⟩:=ih (i+1) t4 (xs++[e4]) (by omega) (by first|exact zbN hI hx (by assumption)|exact zfP hI hx (by assumption) (by assumption) hM|exact zfK hI hx (by assumption) (by have hq:=hI.1;simp only [List.length_append,List.length_cons,List.length_nil,zbs];rw [IntKind.wrap_i64];omega) (by omega) (by omega) hM) (by omega);exact ⟨uZ,xsZ,qZ,xZ,fun R hg=>zaa (wkl (p_1++[sg h1,sl [0] c2,sb h3,sl [0] c4,sqx (AllLen [[iv e4.kind,iv e4.op,bv e4.not,iv e4.val.kind,iv e4.val.int,sv e4.val.text,sv e4.table,sv e4.name,AV.sl (zab e4.args),AV.sl (zaf e4.sub)]] 10∧xs.length=(zab xs).length∧(((zab xs).length+[[iv e4.kind,iv e4.op,bv e4.not,iv e4.val.kind,iv e4.val.int,sv e4.val.text,sv e4.table,sv e4.name,AV.sl (zab e4.args),AV.sl (zaf e4.sub)]].length) * 136).le 140737488355328),si hw]) [0,2,4,6,7,8,9,10,11,52,53,54] 8 kr (zat (show ([(0,AV.p 0 0),(2,iv d),(4,AV.p 1 0),(6,AV.p 2 0),(7,AV.p 3 0),(8,AV.p 4 0),(9,AV.p 5 0),(10,iv (kq:Int)),(11,AV.own 7 (zab xs++[[iv e4.kind,iv e4.op,bv e4.not,iv e4.val.kind,iv e4.val.int,sv e4.val.text,sv e4.table,sv e4.name,AV.sl (zab e4.args),AV.sl (zaf e4.sub)]]).length),(52,AV.sl (List.map Col.cells s.cols)),(53,iv (↑(List.map Col.cells s.cols).length:Int)),(54,iv (↑(i+1):Int))]:TS)=_ by first|rfl|(simp;done)|(simp [zbq,List.map_set,Tp.cells,X.cells,Pl.cells,Sch.cells,xCol,xLit,xBin,xNeg];done)) (show ([Blk.box [AV.sl (List.map (fun n=>[iv n]) t4.l),iv (t4.pos:Int)],Blk.box [AV.sl (List.map Fr.cells p.frs),AV.sl (List.map Sch.cells p.tbs)],Blk.box [iv 0,sv (ByteArray.mk #[]),AV.nl,AV.nl,AV.nl,AV.nl,sv (ByteArray.mk #[])],Blk.box [sv s.name,AV.sl (List.map Col.cells s.cols)],Blk.box [AV.sl (List.map Fr.cells pi.frs),AV.sl (List.map Sch.cells pi.tbs)],Blk.box [iv kd,sv s.name,AV.own 6 rows.length,AV.nl,AV.nl,AV.nl,sv (ByteArray.mk #[])],Blk.row Ty.LExpr (List.map zaH rows) false,Blk.row Ty.Expr (zab xs++[[iv e4.kind,iv e4.op,bv e4.not,iv e4.val.kind,iv e4.val.int,sv e4.val.text,sv e4.table,sv e4.name,AV.sl (zab e4.args),AV.sl (zaf e4.sub)]]) false]:Heap)=_ by first|rfl|(simp;done)|(simp [zbq,List.map_set,Tp.cells,X.cells,Pl.cells,Sch.cells,xCol,xLit,xBin,xNeg];done)) (gZ R hg)))⟩
   ·obtain ⟨v5,t5,q5,c5⟩:=(zaZ t2 x.type)
    let p_2:List St:=p_1++[sg h1,sl [0] c2,sb h3,sl [0] c5,sc (za1 v5),sqx (AllLen [[iv (xLit v5).kind,iv (xLit v5).op,bv (xLit v5).not,iv (xLit v5).val.kind,iv (xLit v5).val.int,sv (xLit v5).val.text,sv (xLit v5).table,sv (xLit v5).name,AV.sl (zab []),AV.sl (zaf [])]] 10∧xs.length=(zab xs).length∧(((zab xs).length+[[iv (xLit v5).kind,iv (xLit v5).op,bv (xLit v5).not,iv (xLit v5).val.kind,iv (xLit v5).val.int,sv (xLit v5).val.text,sv (xLit v5).table,sv (xLit v5).name,AV.sl (zab []),AV.sl (zaf [])]].length) * 136).le 140737488355328)]
    cases h6:x.type==1
    ·obtain ⟨uZ,xsZ,qZ,xZ,gZ⟩:=ih (i+1) t5 (xs++[xLit v5]) (by omega) (by first|exact zbN hI hx (by assumption)|exact zfP hI hx (by assumption) (by assumption) hM|exact zfK hI hx (by assumption) (by have hq:=hI.1;simp only [List.length_append,List.length_cons,List.length_nil,zbs];rw [IntKind.wrap_i64];omega) (by omega) (by omega) hM) (by omega);exact ⟨uZ,xsZ,qZ,xZ,fun R hg=>zaa (wkl (p_2++[sb h6,si hw]) [0,2,4,6,7,8,9,10,11,52,53,54] 8 kr (zat (show ([(0,AV.p 0 0),(2,iv d),(4,AV.p 1 0),(6,AV.p 2 0),(7,AV.p 3 0),(8,AV.p 4 0),(9,AV.p 5 0),(10,iv (kq:Int)),(11,AV.own 7 (zab xs++[[iv (xLit v5).kind,iv (xLit v5).op,bv (xLit v5).not,iv (xLit v5).val.kind,iv (xLit v5).val.int,sv (xLit v5).val.text,sv (xLit v5).table,sv (xLit v5).name,AV.sl (zab []),AV.sl (zaf [])]]).length),(52,AV.sl (List.map Col.cells s.cols)),(53,iv (↑(List.map Col.cells s.cols).length:Int)),(54,iv (↑(i+1):Int))]:TS)=_ by first|rfl|(simp;done)|(simp [zbq,List.map_set,Tp.cells,X.cells,Pl.cells,Sch.cells,xCol,xLit,xBin,xNeg];done)) (show ([Blk.box [AV.sl (List.map (fun n=>[iv n]) t5.l),iv (t5.pos:Int)],Blk.box [AV.sl (List.map Fr.cells p.frs),AV.sl (List.map Sch.cells p.tbs)],Blk.box [iv 0,sv (ByteArray.mk #[]),AV.nl,AV.nl,AV.nl,AV.nl,sv (ByteArray.mk #[])],Blk.box [sv s.name,AV.sl (List.map Col.cells s.cols)],Blk.box [AV.sl (List.map Fr.cells pi.frs),AV.sl (List.map Sch.cells pi.tbs)],Blk.box [iv kd,sv s.name,AV.own 6 rows.length,AV.nl,AV.nl,AV.nl,sv (ByteArray.mk #[])],Blk.row Ty.LExpr (List.map zaH rows) false,Blk.row Ty.Expr (zab xs++[[iv (xLit v5).kind,iv (xLit v5).op,bv (xLit v5).not,iv (xLit v5).val.kind,iv (xLit v5).val.int,sv (xLit v5).val.text,sv (xLit v5).table,sv (xLit v5).name,AV.sl (zab []),AV.sl (zaf [])]]) false]:Heap)=_ by first|rfl|(simp;done)|(simp [zbq,List.map_set,Tp.cells,X.cells,Pl.cells,Sch.cells,xCol,xLit,xBin,xNeg];done)) (gZ R hg)))⟩
    ·obtain ⟨a7,t7,q7,c7⟩:=(za8 t5)
     obtain ⟨uZ,xsZ,qZ,xZ,gZ⟩:=ih (i+1) t7 ((xs++[xLit v5]).set (IntKind.i64.wrap ((↑(zab xs++[[iv (xLit v5).kind,iv (xLit v5).op,bv (xLit v5).not,iv (xLit v5).val.kind,iv (xLit v5).val.int,sv (xLit v5).val.text,sv (xLit v5).table,sv (xLit v5).name,AV.sl (zab []),AV.sl (zaf [])]]).length:Int) - 1)).toNat (xNum a7)) (by omega) (by first|exact zbN hI hx (by assumption)|exact zfP hI hx (by assumption) (by assumption) hM|exact zfK hI hx (by assumption) (by have hq:=hI.1;simp only [List.length_append,List.length_cons,List.length_nil,zbs];rw [IntKind.wrap_i64];omega) (by omega) (by omega) hM) (by omega);exact ⟨uZ,xsZ,qZ,xZ,fun R hg=>zaa (wkl (p_2++[sb h6,sqx ((zab xs++[[iv (xLit v5).kind,iv (xLit v5).op,bv (xLit v5).not,iv (xLit v5).val.kind,iv (xLit v5).val.int,sv (xLit v5).val.text,sv (xLit v5).table,sv (xLit v5).name,AV.sl (zab []),AV.sl (zaf [])]]).length=(zab xs++[[iv (xLit v5).kind,iv (xLit v5).op,bv (xLit v5).not,iv (xLit v5).val.kind,iv (xLit v5).val.int,sv (xLit v5).val.text,sv (xLit v5).table,sv (xLit v5).name,AV.sl (zab []),AV.sl (zaf [])]]).length),si (e:=IntKind.i64.wrap ((↑(zab xs++[[iv (xLit v5).kind,iv (xLit v5).op,bv (xLit v5).not,iv (xLit v5).val.kind,iv (xLit v5).val.int,sv (xLit v5).val.text,sv (xLit v5).table,sv (xLit v5).name,AV.sl (zab []),AV.sl (zaf [])]]).length:Int) - 1)) rfl,sl [0] c7,sc (zbM a7 (by first|assumption|omega|(simp;done)|(simp;omega))),sqx (OwnAt (zab xs++[[iv (xLit v5).kind,iv (xLit v5).op,bv (xLit v5).not,iv (xLit v5).val.kind,iv (xLit v5).val.int,sv (xLit v5).val.text,sv (xLit v5).table,sv (xLit v5).name,AV.sl (zab []),AV.sl (zaf [])]]) (zab xs++[[iv (xLit v5).kind,iv (xLit v5).op,bv (xLit v5).not,iv (xLit v5).val.kind,iv (xLit v5).val.int,sv (xLit v5).val.text,sv (xLit v5).table,sv (xLit v5).name,AV.sl (zab []),AV.sl (zaf [])]]).length (IntKind.i64.wrap ((↑(zab xs++[[iv (xLit v5).kind,iv (xLit v5).op,bv (xLit v5).not,iv (xLit v5).val.kind,iv (xLit v5).val.int,sv (xLit v5).val.text,sv (xLit v5).table,sv (xLit v5).name,AV.sl (zab []),AV.sl (zaf [])]]).length:Int) - 1))),sx (.el ([iv (xLit v5).kind,iv (xLit v5).op,bv (xLit v5).not,iv (xLit v5).val.kind,iv (xLit v5).val.int,sv (xLit v5).val.text,sv (xLit v5).table,sv (xLit v5).name,AV.sl (zab []),AV.sl (zaf [])])) (And.intro (owed (p:=True∧True∧True∧True∧True∧True∧True∧True∧True∧True∧True)) (zpU xs ([iv (xLit v5).kind,iv (xLit v5).op,bv (xLit v5).not,iv (xLit v5).val.kind,iv (xLit v5).val.int,sv (xLit v5).val.text,sv (xLit v5).table,sv (xLit v5).name,AV.sl (zab []),AV.sl (zaf [])]) (by first|assumption|omega|(simp;done)|(simp;omega)))),si hw]) [0,2,4,6,7,8,9,10,11,52,53,54] 8 kr (zat (show ([(0,AV.p 0 0),(2,iv d),(4,AV.p 1 0),(6,AV.p 2 0),(7,AV.p 3 0),(8,AV.p 4 0),(9,AV.p 5 0),(10,iv (kq:Int)),(11,AV.own 7 (zab xs++[[iv (xLit v5).kind,iv (xLit v5).op,bv (xLit v5).not,iv (xLit v5).val.kind,iv (xLit v5).val.int,sv (xLit v5).val.text,sv (xLit v5).table,sv (xLit v5).name,AV.sl (zab []),AV.sl (zaf [])]]).length),(52,AV.sl (List.map Col.cells s.cols)),(53,iv (↑(List.map Col.cells s.cols).length:Int)),(54,iv (↑(i+1):Int))]:TS)=_ by first|rfl|(simp;done)|(simp [zbq,List.map_set,Tp.cells,X.cells,Pl.cells,Sch.cells,xCol,xLit,xBin,xNeg];done)) (show ([Blk.box [AV.sl (List.map (fun n=>[iv n]) t7.l),iv (t7.pos:Int)],Blk.box [AV.sl (List.map Fr.cells p.frs),AV.sl (List.map Sch.cells p.tbs)],Blk.box [iv 0,sv (ByteArray.mk #[]),AV.nl,AV.nl,AV.nl,AV.nl,sv (ByteArray.mk #[])],Blk.box [sv s.name,AV.sl (List.map Col.cells s.cols)],Blk.box [AV.sl (List.map Fr.cells pi.frs),AV.sl (List.map Sch.cells pi.tbs)],Blk.box [iv kd,sv s.name,AV.own 6 rows.length,AV.nl,AV.nl,AV.nl,sv (ByteArray.mk #[])],Blk.row Ty.LExpr (List.map zaH rows) false,Blk.row Ty.Expr ((zab xs++[[iv (xLit v5).kind,iv (xLit v5).op,bv (xLit v5).not,iv (xLit v5).val.kind,iv (xLit v5).val.int,sv (xLit v5).val.text,sv (xLit v5).table,sv (xLit v5).name,AV.sl (zab []),AV.sl (zaf [])]]).set (IntKind.i64.wrap ((↑(zab xs++[[iv (xLit v5).kind,iv (xLit v5).op,bv (xLit v5).not,iv (xLit v5).val.kind,iv (xLit v5).val.int,sv (xLit v5).val.text,sv (xLit v5).table,sv (xLit v5).name,AV.sl (zab []),AV.sl (zaf [])]]).length:Int) - 1)).toNat [iv (xNum a7).kind,iv (xNum a7).op,bv (xNum a7).not,iv (xNum a7).val.kind,iv (xNum a7).val.int,sv (xNum a7).val.text,sv (xNum a7).table,sv (xNum a7).name,AV.sl (zab (xNum a7).args),AV.sl (zaf (xNum a7).sub)]) false]:Heap)=_ by first|rfl|(simp;done)|(simp [zbq,List.map_set,Tp.cells,X.cells,Pl.cells,Sch.cells,xCol,xLit,xBin,xNeg];done)) (gZ R hg)))⟩
  ·obtain ⟨v8,t8,q8,c8⟩:=(zaZ u x.type)
   let p_3:List St:=p_1++[sb h1,sl [0] c8,sc (za1 v8),sqx (AllLen [[iv (xLit v8).kind,iv (xLit v8).op,bv (xLit v8).not,iv (xLit v8).val.kind,iv (xLit v8).val.int,sv (xLit v8).val.text,sv (xLit v8).table,sv (xLit v8).name,AV.sl (zab []),AV.sl (zaf [])]] 10∧xs.length=(zab xs).length∧(((zab xs).length+[[iv (xLit v8).kind,iv (xLit v8).op,bv (xLit v8).not,iv (xLit v8).val.kind,iv (xLit v8).val.int,sv (xLit v8).val.text,sv (xLit v8).table,sv (xLit v8).name,AV.sl (zab []),AV.sl (zaf [])]].length) * 136).le 140737488355328)]
   cases h9:x.type==1
   ·obtain ⟨uZ,xsZ,qZ,xZ,gZ⟩:=ih (i+1) t8 (xs++[xLit v8]) (by omega) (by first|exact zbN hI hx (by assumption)|exact zfP hI hx (by assumption) (by assumption) hM|exact zfK hI hx (by assumption) (by have hq:=hI.1;simp only [List.length_append,List.length_cons,List.length_nil,zbs];rw [IntKind.wrap_i64];omega) (by omega) (by omega) hM) (by omega);exact ⟨uZ,xsZ,qZ,xZ,fun R hg=>zaa (wkl (p_3++[sb h9,si hw]) [0,2,4,6,7,8,9,10,11,52,53,54] 8 kr (zat (show ([(0,AV.p 0 0),(2,iv d),(4,AV.p 1 0),(6,AV.p 2 0),(7,AV.p 3 0),(8,AV.p 4 0),(9,AV.p 5 0),(10,iv (kq:Int)),(11,AV.own 7 (zab xs++[[iv (xLit v8).kind,iv (xLit v8).op,bv (xLit v8).not,iv (xLit v8).val.kind,iv (xLit v8).val.int,sv (xLit v8).val.text,sv (xLit v8).table,sv (xLit v8).name,AV.sl (zab []),AV.sl (zaf [])]]).length),(52,AV.sl (List.map Col.cells s.cols)),(53,iv (↑(List.map Col.cells s.cols).length:Int)),(54,iv (↑(i+1):Int))]:TS)=_ by first|rfl|(simp;done)|(simp [zbq,List.map_set,Tp.cells,X.cells,Pl.cells,Sch.cells,xCol,xLit,xBin,xNeg];done)) (show ([Blk.box [AV.sl (List.map (fun n=>[iv n]) t8.l),iv (t8.pos:Int)],Blk.box [AV.sl (List.map Fr.cells p.frs),AV.sl (List.map Sch.cells p.tbs)],Blk.box [iv 0,sv (ByteArray.mk #[]),AV.nl,AV.nl,AV.nl,AV.nl,sv (ByteArray.mk #[])],Blk.box [sv s.name,AV.sl (List.map Col.cells s.cols)],Blk.box [AV.sl (List.map Fr.cells pi.frs),AV.sl (List.map Sch.cells pi.tbs)],Blk.box [iv kd,sv s.name,AV.own 6 rows.length,AV.nl,AV.nl,AV.nl,sv (ByteArray.mk #[])],Blk.row Ty.LExpr (List.map zaH rows) false,Blk.row Ty.Expr (zab xs++[[iv (xLit v8).kind,iv (xLit v8).op,bv (xLit v8).not,iv (xLit v8).val.kind,iv (xLit v8).val.int,sv (xLit v8).val.text,sv (xLit v8).table,sv (xLit v8).name,AV.sl (zab []),AV.sl (zaf [])]]) false]:Heap)=_ by first|rfl|(simp;done)|(simp [zbq,List.map_set,Tp.cells,X.cells,Pl.cells,Sch.cells,xCol,xLit,xBin,xNeg];done)) (gZ R hg)))⟩
   ·obtain ⟨a10,t10,q10,c10⟩:=(za8 t8)
    obtain ⟨uZ,xsZ,qZ,xZ,gZ⟩:=ih (i+1) t10 ((xs++[xLit v8]).set (IntKind.i64.wrap ((↑(zab xs++[[iv (xLit v8).kind,iv (xLit v8).op,bv (xLit v8).not,iv (xLit v8).val.kind,iv (xLit v8).val.int,sv (xLit v8).val.text,sv (xLit v8).table,sv (xLit v8).name,AV.sl (zab []),AV.sl (zaf [])]]).length:Int) - 1)).toNat (xNum a10)) (by omega) (by first|exact zbN hI hx (by assumption)|exact zfP hI hx (by assumption) (by assumption) hM|exact zfK hI hx (by assumption) (by have hq:=hI.1;simp only [List.length_append,List.length_cons,List.length_nil,zbs];rw [IntKind.wrap_i64];omega) (by omega) (by omega) hM) (by omega);exact ⟨uZ,xsZ,qZ,xZ,fun R hg=>zaa (wkl (p_3++[sb h9,sqx ((zab xs++[[iv (xLit v8).kind,iv (xLit v8).op,bv (xLit v8).not,iv (xLit v8).val.kind,iv (xLit v8).val.int,sv (xLit v8).val.text,sv (xLit v8).table,sv (xLit v8).name,AV.sl (zab []),AV.sl (zaf [])]]).length=(zab xs++[[iv (xLit v8).kind,iv (xLit v8).op,bv (xLit v8).not,iv (xLit v8).val.kind,iv (xLit v8).val.int,sv (xLit v8).val.text,sv (xLit v8).table,sv (xLit v8).name,AV.sl (zab []),AV.sl (zaf [])]]).length),si (e:=IntKind.i64.wrap ((↑(zab xs++[[iv (xLit v8).kind,iv (xLit v8).op,bv (xLit v8).not,iv (xLit v8).val.kind,iv (xLit v8).val.int,sv (xLit v8).val.text,sv (xLit v8).table,sv (xLit v8).name,AV.sl (zab []),AV.sl (zaf [])]]).length:Int) - 1)) rfl,sl [0] c10,sc (zbM a10 (by first|assumption|omega|(simp;done)|(simp;omega))),sqx (OwnAt (zab xs++[[iv (xLit v8).kind,iv (xLit v8).op,bv (xLit v8).not,iv (xLit v8).val.kind,iv (xLit v8).val.int,sv (xLit v8).val.text,sv (xLit v8).table,sv (xLit v8).name,AV.sl (zab []),AV.sl (zaf [])]]) (zab xs++[[iv (xLit v8).kind,iv (xLit v8).op,bv (xLit v8).not,iv (xLit v8).val.kind,iv (xLit v8).val.int,sv (xLit v8).val.text,sv (xLit v8).table,sv (xLit v8).name,AV.sl (zab []),AV.sl (zaf [])]]).length (IntKind.i64.wrap ((↑(zab xs++[[iv (xLit v8).kind,iv (xLit v8).op,bv (xLit v8).not,iv (xLit v8).val.kind,iv (xLit v8).val.int,sv (xLit v8).val.text,sv (xLit v8).table,sv (xLit v8).name,AV.sl (zab []),AV.sl (zaf [])]]).length:Int) - 1))),sx (.el ([iv (xLit v8).kind,iv (xLit v8).op,bv (xLit v8).not,iv (xLit v8).val.kind,iv (xLit v8).val.int,sv (xLit v8).val.text,sv (xLit v8).table,sv (xLit v8).name,AV.sl (zab []),AV.sl (zaf [])])) (And.intro (owed (p:=True∧True∧True∧True∧True∧True∧True∧True∧True∧True∧True)) (zpU xs ([iv (xLit v8).kind,iv (xLit v8).op,bv (xLit v8).not,iv (xLit v8).val.kind,iv (xLit v8).val.int,sv (xLit v8).val.text,sv (xLit v8).table,sv (xLit v8).name,AV.sl (zab []),AV.sl (zaf [])]) (by first|assumption|omega|(simp;done)|(simp;omega)))),si hw]) [0,2,4,6,7,8,9,10,11,52,53,54] 8 kr (zat (show ([(0,AV.p 0 0),(2,iv d),(4,AV.p 1 0),(6,AV.p 2 0),(7,AV.p 3 0),(8,AV.p 4 0),(9,AV.p 5 0),(10,iv (kq:Int)),(11,AV.own 7 (zab xs++[[iv (xLit v8).kind,iv (xLit v8).op,bv (xLit v8).not,iv (xLit v8).val.kind,iv (xLit v8).val.int,sv (xLit v8).val.text,sv (xLit v8).table,sv (xLit v8).name,AV.sl (zab []),AV.sl (zaf [])]]).length),(52,AV.sl (List.map Col.cells s.cols)),(53,iv (↑(List.map Col.cells s.cols).length:Int)),(54,iv (↑(i+1):Int))]:TS)=_ by first|rfl|(simp;done)|(simp [zbq,List.map_set,Tp.cells,X.cells,Pl.cells,Sch.cells,xCol,xLit,xBin,xNeg];done)) (show ([Blk.box [AV.sl (List.map (fun n=>[iv n]) t10.l),iv (t10.pos:Int)],Blk.box [AV.sl (List.map Fr.cells p.frs),AV.sl (List.map Sch.cells p.tbs)],Blk.box [iv 0,sv (ByteArray.mk #[]),AV.nl,AV.nl,AV.nl,AV.nl,sv (ByteArray.mk #[])],Blk.box [sv s.name,AV.sl (List.map Col.cells s.cols)],Blk.box [AV.sl (List.map Fr.cells pi.frs),AV.sl (List.map Sch.cells pi.tbs)],Blk.box [iv kd,sv s.name,AV.own 6 rows.length,AV.nl,AV.nl,AV.nl,sv (ByteArray.mk #[])],Blk.row Ty.LExpr (List.map zaH rows) false,Blk.row Ty.Expr ((zab xs++[[iv (xLit v8).kind,iv (xLit v8).op,bv (xLit v8).not,iv (xLit v8).val.kind,iv (xLit v8).val.int,sv (xLit v8).val.text,sv (xLit v8).table,sv (xLit v8).name,AV.sl (zab []),AV.sl (zaf [])]]).set (IntKind.i64.wrap ((↑(zab xs++[[iv (xLit v8).kind,iv (xLit v8).op,bv (xLit v8).not,iv (xLit v8).val.kind,iv (xLit v8).val.int,sv (xLit v8).val.text,sv (xLit v8).table,sv (xLit v8).name,AV.sl (zab []),AV.sl (zaf [])]]).length:Int) - 1)).toNat [iv (xNum a10).kind,iv (xNum a10).op,bv (xNum a10).not,iv (xNum a10).val.kind,iv (xNum a10).val.int,sv (xNum a10).val.text,sv (xNum a10).table,sv (xNum a10).name,AV.sl (zab (xNum a10).args),AV.sl (zaf (xNum a10).sub)]) false]:Heap)=_ by first|rfl|(simp;done)|(simp [zbq,List.map_set,Tp.cells,X.cells,Pl.cells,Sch.cells,xCol,xLit,xBin,xNeg];done)) (gZ R hg)))⟩
def zby (tbs:List Sch) (M:Nat) (frs:List Fr) (s:Sch) (rows:List (List X)):Prop:=∀ r∈rows,zcS tbs M frs s.cols s.cols.length r
theorem zsR {tbs:List Sch} {M:Nat} {frs:List Fr} {s:Sch} {rows:List (List X)} {k:Nat} {xs:List X} (h:rows.length+(k+1)≤3∧1≤rows.length+(k+1)∧zby tbs M frs s rows) (hx:zcS tbs M frs s.cols s.cols.length xs) :
  (rows++[xs]).length+k≤3∧1≤(rows++[xs]).length+k∧zby tbs M frs s (rows++[xs]) :=
 ⟨by have:=h.1;simp;omega,by simp;omega,fun r hr=>by
  simp only [List.mem_append,List.mem_singleton] at hr
  rcases hr with hr|rfl
  ·exact h.2.2 r hr
  ·exact hx⟩
noncomputable def L_ctR (t0:Tp) (p pi:Pl) (s:Sch) (kd:Int) (d:Int) (M kk2:Nat) (k:Nat) (u:Tp) (rows:List (List X)):Cfg:=zar B.world_Tape_Change 0 [(0,.p 0 0),(2,iv d),(4,.p 1 0),(6,.p 2 0),(7,.p 3 0),(8,.p 4 0),(9,.p 5 0),(10,iv (k:Nat))] [.box u.cells,.box p.cells,.box (zpg 0 ⟨#[]⟩),.box s.cells,.box pi.cells,.box [iv kd,sv s.name,.own 6 rows.length,.nl,.nl,.nl,sv ⟨#[]⟩],.row Ty.LExpr (rows.map zaH) false]
theorem ze0 (t0:Tp) (p pi:Pl) (s:Sch) (kd:Int) (d:Int) (M kk2:Nat) (hE:∀ (t:Tp) (p:Pl) (w:Int),p.OkN kk2→∃ (e:X) (t':Tp),XT p.tbs M p.frs w e∧zac E0 S.world_Tape_Expr [.p 0 0,p.av,iv w,iv d] [.box t.cells] e.av [.box t'.cells]) (hp:p.OkN kk2) (hs:SchOk s) (hM:Deep M) (k:Nat) (u:Tp) (rows:List (List X)) (hi:k≤1000000000) (hI:rows.length+k≤3∧1≤rows.length+k∧zby p.tbs M p.frs s rows):∃ (u':Tp) (rows':List (List X)),(rows'.length+0≤3∧1≤rows'.length+0∧zby p.tbs M p.frs s rows')∧(decide ((0:Int) < ((0:Nat):Int))=false)∧∀ R,Good E0 B.world_Tape_Change [.box t0.cells] (L_ctR t0 p pi s kd d M kk2 0 u' rows') R→Good E0 B.world_Tape_Change [.box t0.cells] (L_ctR t0 p pi s kd d M kk2 k u rows) R:=by
 induction k generalizing u rows with
 | zero=>exact ⟨u,rows,hI,by decide,fun R hg=>hg⟩
 | succ k ih =>
  have h0:decide ((0:Int) < (((k+1):Nat):Int))=true:=by first|(simp;done)|(simp;omega)
  have hw:IntKind.i64.wrap (((k+1:Nat):Int) - 1)=((k:Nat):Int):=zjO k (by omega)
  have hss:=hs.few;have hrl:rows.length≤3:=by omega
  obtain ⟨u1,xs1,q1,q1_1,g1⟩:=zeY t0 p pi s kd rows (k+1) d M kk2 hp (by first|assumption|omega|exact zbH|(simp;done)) hM (by first|assumption|omega|exact zbH|(simp;done)) 0 u ([]) (by first|assumption|omega|exact zbH|(simp;done)) (by first|assumption|omega|exact zbH|(simp;done))
  obtain ⟨uZ,rowsZ,qZ,xZ,gZ⟩:=ih u1 (rows++[xs1]) (by omega) (by exact zsR hI (by assumption));exact ⟨uZ,rowsZ,qZ,xZ,fun R hg=>zaa (wklN [sb h0] [0,2,4,6,7,8,9,10,11,52,53,54] 7 [(.ot 11 Ty.Expr,8)] kr (g1 _ (zaa (wkl [sb q1_1,sqx (xs1.length=(zab xs1).length∧True),sqx (AllLen [[AV.sl (zab xs1)]] 1∧rows.length=(List.map zaH rows).length∧(((List.map zaH rows).length+[[AV.sl (zab xs1)]].length) * 24).le 140737488355328),si hw] [0,2,4,6,7,8,9,10] 7 kr (zat rfl (show ([Blk.box [AV.sl (List.map (fun n=>[iv n]) u1.l),iv (u1.pos:Int)],Blk.box [AV.sl (List.map Fr.cells p.frs),AV.sl (List.map Sch.cells p.tbs)],Blk.box [iv 0,sv (ByteArray.mk #[]),AV.nl,AV.nl,AV.nl,AV.nl,sv (ByteArray.mk #[])],Blk.box [sv s.name,AV.sl (List.map Col.cells s.cols)],Blk.box [AV.sl (List.map Fr.cells pi.frs),AV.sl (List.map Sch.cells pi.tbs)],Blk.box [iv kd,sv s.name,AV.own 6 (List.map zaH rows++[[AV.sl (zab xs1)]]).length,AV.nl,AV.nl,AV.nl,sv (ByteArray.mk #[])],Blk.row Ty.LExpr (List.map zaH rows++[[AV.sl (zab xs1)]]) false]:Heap)=_ by first|rfl|(simp;done)|(simp [X.cells,Qy.cells,V.cells,Col.cells,Rw.cells,Tb.cells,Fr.cells,Sch.cells,Tp.cells,Pl.cells,xCol,xLit,xBin,xNeg,Im.cells,Lk.cells,Ac.cells,Se.cells,Tg.cells,Rk.cells];done)) (gZ R hg))))))⟩
noncomputable def zrE (d:Int) (p pi:Pl) (s:Sch) (kd:Int) (first i:Nat) (u:Tp) (sets:List Se):Cfg:=zar B.world_Tape_Change 2 [(0,.p 0 0),(2,iv d),(6,.p 2 0),(7,.p 3 0),(8,.p 4 0),(9,.p 5 0),(14,iv (first:Nat)),(15,iv (i:Nat))] [.box u.cells,.box p.cells,.box (zpg 0 ⟨#[]⟩),.box s.cells,.box pi.cells,.box [iv kd,sv s.name,.nl,.nl,.own 6 sets.length,.nl,sv ⟨#[]⟩],.row Ty.Set (sets.map Se.cells) false]
structure SetsT (tbs:List Sch) (M:Nat) (frs:List Fr) (s:Sch) (first i:Nat) (sets:List Se):Prop where
 len:sets.length=i
 at_:∀ (j:Nat) (x:Se),sets[j]?=some x→∃ c:Col,s.cols[(first+j) % s.cols.length]?=some c∧x.col=c.name∧XT tbs M (frIn frs s) c.type x.ex
 two:i≤2
 lim:i≤s.cols.length
inductive ActT (tbs:List Sch) (M:Nat) (frs:List Fr):Ac→Prop
 | rows {s:Sch} {rows:List (List X)}:s∈zal→1≤rows.length→rows.length≤3→zby tbs M frs s rows→ActT tbs M frs (Ac.mk 1 s.name rows [] [] [] ⟨#[]⟩)
 | copy {s:Sch} {q:Qy}:s∈zal→QyT tbs M frs s q→ActT tbs M frs (Ac.mk 1 s.name [] [q] [] [] ⟨#[]⟩)
 | upd {s:Sch} {first i:Nat} {sets:List Se} {wh:List X}:s∈zal→1≤i→SetsT tbs M frs s first i sets→wh.length≤1→(∀ x∈wh,XT tbs M (frIn frs s) 2 x)→ActT tbs M frs (Ac.mk 2 s.name [] [] sets wh ⟨#[]⟩)
 | del {s:Sch} {wh:List X}:s∈zal→wh.length≤1→(∀ x∈wh,XT tbs M (frIn frs s) 2 x)→ActT tbs M frs (Ac.mk 3 s.name [] [] [] wh ⟨#[]⟩)
section
variable {tbs : List Sch} {M : Nat} {frs : List Fr} {s : Sch} {first i : Nat} {sets : List Se} {e : X} {cc : Col} {z : Int}
theorem SetsT.push (h:SetsT tbs M frs s first i sets) (hi:decide ((i:Int) < (((s.cols.map Col.cells).length:Nat):Int))=true) (h2:i < 2) (hc:AtI s.cols (((first+i:Nat):Int).tmod (((s.cols.map Col.cells).length:Nat):Int)) cc) (he:XT tbs M (frIn frs s) cc.type e):SetsT tbs M frs s first (i+1) (sets++[⟨cc.name,e⟩]):=by
 simp only [decide_eq_true_eq,List.length_map] at hi
 refine ⟨by simp [h.len],fun j x hj=>?_,by omega,by omega⟩
 by_cases hk:j < sets.length
 ·rw [List.getElem?_append_left hk] at hj
  exact h.at_ j x hj
 ·have h3:=zcj hj
  have h4:=h.len
  simp only [List.length_append,List.length_cons,List.length_nil] at h3
  have:j=i:=by omega
  subst this
  rw [List.getElem?_append_right (by omega),show j - sets.length=0 by omega] at hj
  simp only [List.getElem?_cons_zero,Option.some.injEq] at hj
  subst hj
  refine ⟨cc,?_,rfl,he⟩
  have h5:=hc.2
  rw [List.length_map] at h5
  have h6:(((first+j:Nat):Int).tmod ((s.cols.length:Nat):Int)).toNat=(first+j) % s.cols.length:=by
   rw [← Int.ofNat_tmod];exact Int.toNat_natCast _
  rwa [h6] at h5
theorem zcG {k:Nat} {a:Int} (ht:(cc.type==1)=true) (hc:AtI s.cols z cc) (hk:9≤(k:Int)∧(k:Int)≤13) (h1:-9223372036854775808 < a) (h2:a≤9223372036854775807) (hM:Deep M):XT tbs M (frIn frs s) cc.type (xA 5 (k:Int) false [xCol ⟨#[]⟩ cc.name,xNum a]):=by
 have e1:cc.type=1:=by simpa using ht
 rw [e1]
 refine (zaD (n:=2) rfl hk (.col ⟨frs.length,⟨s.name,false,s.cols,[]⟩,cc,⟨#[]⟩,?_,List.mem_of_getElem? hc.2,e1,rfl,.inr ⟨rfl,rfl,by simp⟩⟩) (zmB h1 h2)).le hM.ge
 simp
theorem SetsT.some0 (h:SetsT tbs M frs s first i sets) {a:Nat} (hi:decide ((i:Int) < ((1+a:Nat):Int))=false):1≤i:=by simp only [decide_eq_false_iff_not] at hi;omega
theorem SetsT.some1 (h:SetsT tbs M frs s first i sets) (hf:first < s.cols.length) (hi:decide ((i:Int) < (((s.cols.map Col.cells).length:Nat):Int))=false):1≤i:=by simp only [decide_eq_false_iff_not,List.length_map] at hi;omega
theorem zef {kd:Int} {wh:List X} (hk:kd=2) (hs:s∈zal) (hI:SetsT tbs M frs s first i sets) (h1:1≤i) (hw:wh.length≤1) (hx:∀ x∈wh,XT tbs M (frIn frs s) 2 x):ActT tbs M frs (Ac.mk kd s.name [] [] sets wh ⟨#[]⟩):=by
 subst hk;exact .upd hs h1 hI hw hx
theorem lt2 {i a:Nat} (h:decide ((i:Int) < ((1+a:Nat):Int))=true) (ha:(a:Int) < 2):i < 2:=by simp only [decide_eq_true_eq] at h;omega
end
theorem zrM (d:Int) (M k:Nat) (t0:Tp) (p pi:Pl) (s:Sch) (kd:Int) (first i:Nat) (u:Tp) (sets:List Se) (hsm:s∈zal) (hs:Few s.cols) (hss:zad s.cols) (hpi:pi.OkN k) (hpf:pi=plIn p s) (hM:Deep M) (hE:∀ (t:Tp) (w:Int),∃ (e:X) (t':Tp),XT p.tbs M (frIn p.frs s) w e∧zac E0 S.world_Tape_Expr [.p 0 0,pi.av,iv w,iv d] [.box t.cells] e.av [.box t'.cells]) (hk:kd=2) (hf:first < s.cols.length) (hf2:s.cols.length≤1000) (hI:SetsT p.tbs M p.frs s first i sets) (hi2:i≤2) (hsl:sets.length≤2) (ihl:∀ (u':Tp) (sets':List Se),SetsT p.tbs M p.frs s first (i+1) sets'→∃ (r:Ac) (t':Tp),ActT p.tbs M p.frs r∧Good E0 B.world_Tape_Change [.box t0.cells] (zrE d p pi s kd first (i+1) u' sets') (Shut 1 fun rZ hZ=>rZ=r.av∧hZ=[.box t'.cells])):∃ (r:Ac) (t':Tp),ActT p.tbs M p.frs r∧Good E0 B.world_Tape_Change [.box t0.cells] (zig (zrE d p pi s kd first i u sets)) (Shut 1 fun rZ hZ=>rZ=(r.av)∧hZ=[.box t'.cells]):=by
  obtain ⟨a1,t1,q1,c1⟩:=(zak u 2 (by first|assumption|omega|exact hI.push (by assumption) (lt2 (by assumption) (by assumption)) (by assumption) (by assumption)|exact hI.push (by assumption) (lt2 (by assumption) (by assumption)) (by assumption) (zcG (by assumption) (by assumption) (by omega) (by omega) (by omega) hM)|(simp;done)))
  cases h2:decide ((i:Int) < (↑(1+a1):Int))
  ·obtain ⟨b3,t3,c3⟩:=(zam t1 4 (by first|assumption|omega|exact hI.push (by assumption) (lt2 (by assumption) (by assumption)) (by assumption) (by assumption)|exact hI.push (by assumption) (lt2 (by assumption) (by assumption)) (by assumption) (zcG (by assumption) (by assumption) (by omega) (by omega) (by omega) hM)|(simp;done)))
   cases h4:!b3
   ·exact ⟨Ac.mk kd s.name [] [] sets [] (ByteArray.mk #[]),t3,(by first|assumption|exact zef hk hsm hI (by first|exact hI.some0 (by assumption)|exact hI.some1 hf (by assumption)) (by simp) (by first|exact xt0|exact xt1 (by assumption))),wkr [sqx (True∧True∧True∧True∧sets.length=(List.map Se.cells sets).length∧True∧True∧True),sl [0] c1,si (zcm (t:=1+(a1:Int)) (n:=1+a1) (by omega) (by omega)),sb h2,sl [0] c3,sb h4] kr⟩
   ·obtain ⟨e5,t5,q5,c5⟩:=(hE t3 2)
    exact ⟨Ac.mk kd s.name [] [] sets [e5] (ByteArray.mk #[]),t5,(by first|assumption|exact zef hk hsm hI (by first|exact hI.some0 (by assumption)|exact hI.some1 hf (by assumption)) (by simp) (by first|exact xt0|exact xt1 (by assumption))),wkrS (y:=AV.agg [iv kd,sv s.name,AV.sl [],AV.sl [],AV.sl (List.map Se.cells sets),AV.sl [[iv e5.kind,iv e5.op,bv e5.not,iv e5.val.kind,iv e5.val.int,sv e5.val.text,sv e5.table,sv e5.name,AV.sl (zab e5.args),AV.sl (zaf e5.sub)]],sv (ByteArray.mk #[])]) (H:=[Blk.box [AV.sl (List.map (fun n=>[iv n]) t5.l),iv (t5.pos:Int)]]) [sqx (True∧True∧True∧True∧sets.length=(List.map Se.cells sets).length∧True∧True∧True),sl [0] c1,si (zcm (t:=1+(a1:Int)) (n:=1+a1) (by omega) (by omega)),sb h2,sl [0] c3,sb h4,sl [0] c5] kr ⟨by first|rfl|(simp;done)|(simp [X.cells,Qy.cells,V.cells,Col.cells,Rw.cells,Tb.cells,Fr.cells,Sch.cells,Tp.cells,Pl.cells,xCol,xLit,xBin,xNeg,Im.cells,Lk.cells,Ac.cells,Se.cells,Tg.cells,Rk.cells];done),by first|rfl|(simp;done)|(simp [X.cells,Qy.cells,V.cells,Col.cells,Rw.cells,Tb.cells,Fr.cells,Sch.cells,Tp.cells,Pl.cells,xCol,xLit,xBin,xNeg,Im.cells,Lk.cells,Ac.cells,Se.cells,Tg.cells,Rk.cells];done)⟩⟩
  ·cases h6:decide ((i:Int) < (↑(List.map Col.cells s.cols).length:Int))
   ·obtain ⟨b7,t7,c7⟩:=(zam t1 4 (by first|assumption|omega|exact hI.push (by assumption) (lt2 (by assumption) (by assumption)) (by assumption) (by assumption)|exact hI.push (by assumption) (lt2 (by assumption) (by assumption)) (by assumption) (zcG (by assumption) (by assumption) (by omega) (by omega) (by omega) hM)|(simp;done)))
    cases h8:!b7
    ·exact ⟨Ac.mk kd s.name [] [] sets [] (ByteArray.mk #[]),t7,(by first|assumption|exact zef hk hsm hI (by first|exact hI.some0 (by assumption)|exact hI.some1 hf (by assumption)) (by simp) (by first|exact xt0|exact xt1 (by assumption))),wkr [sqx (True∧True∧True∧True∧sets.length=(List.map Se.cells sets).length∧True∧True∧True),sl [0] c1,si (zcm (t:=1+(a1:Int)) (n:=1+a1) (by omega) (by omega)),sg h2,sb h6,sl [0] c7,sb h8] kr⟩
    ·obtain ⟨e9,t9,q9,c9⟩:=(hE t7 2)
     exact ⟨Ac.mk kd s.name [] [] sets [e9] (ByteArray.mk #[]),t9,(by first|assumption|exact zef hk hsm hI (by first|exact hI.some0 (by assumption)|exact hI.some1 hf (by assumption)) (by simp) (by first|exact xt0|exact xt1 (by assumption))),wkrS (y:=AV.agg [iv kd,sv s.name,AV.sl [],AV.sl [],AV.sl (List.map Se.cells sets),AV.sl [[iv e9.kind,iv e9.op,bv e9.not,iv e9.val.kind,iv e9.val.int,sv e9.val.text,sv e9.table,sv e9.name,AV.sl (zab e9.args),AV.sl (zaf e9.sub)]],sv (ByteArray.mk #[])]) (H:=[Blk.box [AV.sl (List.map (fun n=>[iv n]) t9.l),iv (t9.pos:Int)]]) [sqx (True∧True∧True∧True∧sets.length=(List.map Se.cells sets).length∧True∧True∧True),sl [0] c1,si (zcm (t:=1+(a1:Int)) (n:=1+a1) (by omega) (by omega)),sg h2,sb h6,sl [0] c7,sb h8,sl [0] c9] kr ⟨by first|rfl|(simp;done)|(simp [X.cells,Qy.cells,V.cells,Col.cells,Rw.cells,Tb.cells,Fr.cells,Sch.cells,Tp.cells,Pl.cells,xCol,xLit,xBin,xNeg,Im.cells,Lk.cells,Ac.cells,Se.cells,Tg.cells,Rk.cells];done),by first|rfl|(simp;done)|(simp [X.cells,Qy.cells,V.cells,Col.cells,Rw.cells,Tb.cells,Fr.cells,Sch.cells,Tp.cells,Pl.cells,xCol,xLit,xBin,xNeg,Im.cells,Lk.cells,Ac.cells,Se.cells,Tg.cells,Rk.cells];done)⟩⟩
   ·obtain ⟨x10,e10⟩:=zit (l:=s.cols) (i:=(↑(first+i):Int).tmod (↑(List.map Col.cells s.cols).length:Int)) (by (rw [List.length_map];exact modOkT (by omega)))
    obtain ⟨e11,t11,q11,c11⟩:=(hE t1 x10.type)
    cases h12:x10.type==1
    ·obtain ⟨r13_0,r13_1,p13_0,g13⟩:=ihl t11 (sets++[Se.mk x10.name e11]) (by first|assumption|omega|exact hI.push (by assumption) (lt2 (by assumption) (by assumption)) (by assumption) (by assumption)|exact hI.push (by assumption) (lt2 (by assumption) (by assumption)) (by assumption) (zcG (by assumption) (by assumption) (by omega) (by omega) (by omega) hM)|(simp;done))
     exact ⟨r13_0,r13_1,(by first|assumption|exact zef hk hsm hI (by first|exact hI.some0 (by assumption)|exact hI.some1 hf (by assumption)) (by simp) (by first|exact xt0|exact xt1 (by assumption))),wkl [sl [0] c1,si (zcm (t:=1+(a1:Int)) (n:=1+a1) (by omega) (by omega)),sg h2,sb h6,sd [(4,[si (zcm (t:=(first:Int)+(i:Int)) (n:=first+i) (by omega) (by omega))]),(8,[sx (.i ((↑(first+i):Int).tmod (↑(List.map Col.cells s.cols).length:Int))) (show (↑(List.map Col.cells s.cols).length:Int)≠(0:Int)∧((↑(first+i):Int).tmod (↑(List.map Col.cells s.cols).length:Int):Int)=(↑(first+i):Int).tmod (↑(List.map Col.cells s.cols).length:Int) from ⟨(by rw [List.length_map];omega),rfl⟩)]),(9,[se (zcF Col.cells e10 rfl)])],sdm [(7,[sl [0] c11])] 0 [(0,AV.p 0 0),(2,iv d),(6,AV.p 2 0),(7,AV.p 3 0),(8,AV.p 4 0),(9,AV.p 5 0),(14,iv (first:Int)),(15,iv (i:Int)),(16,AV.p 7 0),(17,AV.p 8 0),(107,iv (i:Int)),(108,AV.p 0 0),(109,iv (a1:Int)),(110,iv (↑(1+a1):Int)),(111,bv (decide ((i:Int) < (↑(1+a1):Int)))),(112,AV.bl true),(113,iv (i:Int)),(114,AV.p 3 1),(115,AV.sl (List.map Col.cells s.cols)),(116,iv (↑(List.map Col.cells s.cols).length:Int)),(117,bv (decide ((i:Int) < (↑(List.map Col.cells s.cols).length:Int)))),(118,AV.bl true),(121,AV.p 3 1),(122,AV.sl (List.map Col.cells s.cols)),(123,iv (first:Int)),(124,iv (i:Int)),(125,iv (↑(first+i):Int)),(126,AV.p 3 1),(127,AV.sl (List.map Col.cells s.cols)),(128,iv (↑(List.map Col.cells s.cols).length:Int)),(129,iv ((↑(first+i):Int).tmod (↑(List.map Col.cells s.cols).length:Int))),(130,AV.dp [sv x10.name,iv x10.type,bv x10.notNull,bv x10.key]),(131,AV.agg [sv x10.name,iv x10.type,bv x10.notNull,bv x10.key]),(132,AV.p 7 0),(133,sv x10.name),(134,AV.p 0 0),(135,AV.agg [AV.sl (List.map Fr.cells pi.frs),AV.sl (List.map Sch.cells pi.tbs)]),(136,AV.p 7 1),(137,iv x10.type),(138,iv d),(139,AV.agg [iv e11.kind,iv e11.op,bv e11.not,iv e11.val.kind,iv e11.val.int,sv e11.val.text,sv e11.table,sv e11.name,AV.sl (zab e11.args),AV.sl (zaf e11.sub)]),(140,AV.agg [sv x10.name,iv e11.kind,iv e11.op,bv e11.not,iv e11.val.kind,iv e11.val.int,sv e11.val.text,sv e11.table,sv e11.name,AV.sl (zab e11.args),AV.sl (zaf e11.sub)])] [Blk.box [AV.sl (List.map (fun n=>[iv n]) t11.l),iv (t11.pos:Int)],Blk.box [AV.sl (List.map Fr.cells p.frs),AV.sl (List.map Sch.cells p.tbs)],Blk.box [iv 0,sv (ByteArray.mk #[]),AV.nl,AV.nl,AV.nl,AV.nl,sv (ByteArray.mk #[])],Blk.box [sv s.name,AV.sl (List.map Col.cells s.cols)],Blk.box [AV.sl (List.map Fr.cells pi.frs),AV.sl (List.map Sch.cells pi.tbs)],Blk.box [iv kd,sv s.name,AV.nl,AV.nl,AV.own 6 sets.length,AV.nl,sv (ByteArray.mk #[])],Blk.row Ty.Set (List.map Se.cells sets) false,Blk.box [sv x10.name,iv x10.type,bv x10.notNull,bv x10.key],Blk.box [sv x10.name,iv e11.kind,iv e11.op,bv e11.not,iv e11.val.kind,iv e11.val.int,sv e11.val.text,sv e11.table,sv e11.name,AV.sl (zab e11.args),AV.sl (zaf e11.sub)]],sb h12,sqx (AllLen [[sv x10.name,iv e11.kind,iv e11.op,bv e11.not,iv e11.val.kind,iv e11.val.int,sv e11.val.text,sv e11.table,sv e11.name,AV.sl (zab e11.args),AV.sl (zaf e11.sub)]] 11∧sets.length=(List.map Se.cells sets).length∧(((List.map Se.cells sets).length+[[sv x10.name,iv e11.kind,iv e11.op,bv e11.not,iv e11.val.kind,iv e11.val.int,sv e11.val.text,sv e11.table,sv e11.name,AV.sl (zab e11.args),AV.sl (zaf e11.sub)]].length) * 152).le 140737488355328),si (zcm (t:=(i:Int)+1) (n:=i+1) (by omega) (by omega))] [0,2,6,7,8,9,14,15] 7 kr (zat rfl (show ([Blk.box [AV.sl (List.map (fun n=>[iv n]) t11.l),iv (t11.pos:Int)],Blk.box [AV.sl (List.map Fr.cells p.frs),AV.sl (List.map Sch.cells p.tbs)],Blk.box [iv 0,sv (ByteArray.mk #[]),AV.nl,AV.nl,AV.nl,AV.nl,sv (ByteArray.mk #[])],Blk.box [sv s.name,AV.sl (List.map Col.cells s.cols)],Blk.box [AV.sl (List.map Fr.cells pi.frs),AV.sl (List.map Sch.cells pi.tbs)],Blk.box [iv kd,sv s.name,AV.nl,AV.nl,AV.own 6 (List.map Se.cells sets++[[sv x10.name,iv e11.kind,iv e11.op,bv e11.not,iv e11.val.kind,iv e11.val.int,sv e11.val.text,sv e11.table,sv e11.name,AV.sl (zab e11.args),AV.sl (zaf e11.sub)]]).length,AV.nl,sv (ByteArray.mk #[])],Blk.row Ty.Set (List.map Se.cells sets++[[sv x10.name,iv e11.kind,iv e11.op,bv e11.not,iv e11.val.kind,iv e11.val.int,sv e11.val.text,sv e11.table,sv e11.name,AV.sl (zab e11.args),AV.sl (zaf e11.sub)]]) false]:Heap)=_ by first|rfl|(simp;done)|(simp [X.cells,Qy.cells,V.cells,Col.cells,Rw.cells,Tb.cells,Fr.cells,Sch.cells,Tp.cells,Pl.cells,xCol,xLit,xBin,xNeg,Im.cells,Lk.cells,Ac.cells,Se.cells,Tg.cells,Rk.cells];done)) g13)⟩
    ·obtain ⟨b14,t14,c14⟩:=(zam t11 2 (by first|assumption|omega|exact hI.push (by assumption) (lt2 (by assumption) (by assumption)) (by assumption) (by assumption)|exact hI.push (by assumption) (lt2 (by assumption) (by assumption)) (by assumption) (zcG (by assumption) (by assumption) (by omega) (by omega) (by omega) hM)|(simp;done)))
     rcases (Bool.eq_false_or_eq_true b14).symm with h15|h15
     ·obtain ⟨r16_0,r16_1,p16_0,g16⟩:=ihl t14 (sets++[Se.mk x10.name e11]) (by first|assumption|omega|exact hI.push (by assumption) (lt2 (by assumption) (by assumption)) (by assumption) (by assumption)|exact hI.push (by assumption) (lt2 (by assumption) (by assumption)) (by assumption) (zcG (by assumption) (by assumption) (by omega) (by omega) (by omega) hM)|(simp;done))
      exact ⟨r16_0,r16_1,(by first|assumption|exact zef hk hsm hI (by first|exact hI.some0 (by assumption)|exact hI.some1 hf (by assumption)) (by simp) (by first|exact xt0|exact xt1 (by assumption))),wkl [sl [0] c1,si (zcm (t:=1+(a1:Int)) (n:=1+a1) (by omega) (by omega)),sg h2,sb h6,sd [(4,[si (zcm (t:=(first:Int)+(i:Int)) (n:=first+i) (by omega) (by omega))]),(8,[sx (.i ((↑(first+i):Int).tmod (↑(List.map Col.cells s.cols).length:Int))) (show (↑(List.map Col.cells s.cols).length:Int)≠(0:Int)∧((↑(first+i):Int).tmod (↑(List.map Col.cells s.cols).length:Int):Int)=(↑(first+i):Int).tmod (↑(List.map Col.cells s.cols).length:Int) from ⟨(by rw [List.length_map];omega),rfl⟩)]),(9,[se (zcF Col.cells e10 rfl)])],sdm [(7,[sl [0] c11])] 0 [(0,AV.p 0 0),(2,iv d),(6,AV.p 2 0),(7,AV.p 3 0),(8,AV.p 4 0),(9,AV.p 5 0),(14,iv (first:Int)),(15,iv (i:Int)),(16,AV.p 7 0),(17,AV.p 8 0),(107,iv (i:Int)),(108,AV.p 0 0),(109,iv (a1:Int)),(110,iv (↑(1+a1):Int)),(111,bv (decide ((i:Int) < (↑(1+a1):Int)))),(112,AV.bl true),(113,iv (i:Int)),(114,AV.p 3 1),(115,AV.sl (List.map Col.cells s.cols)),(116,iv (↑(List.map Col.cells s.cols).length:Int)),(117,bv (decide ((i:Int) < (↑(List.map Col.cells s.cols).length:Int)))),(118,AV.bl true),(121,AV.p 3 1),(122,AV.sl (List.map Col.cells s.cols)),(123,iv (first:Int)),(124,iv (i:Int)),(125,iv (↑(first+i):Int)),(126,AV.p 3 1),(127,AV.sl (List.map Col.cells s.cols)),(128,iv (↑(List.map Col.cells s.cols).length:Int)),(129,iv ((↑(first+i):Int).tmod (↑(List.map Col.cells s.cols).length:Int))),(130,AV.dp [sv x10.name,iv x10.type,bv x10.notNull,bv x10.key]),(131,AV.agg [sv x10.name,iv x10.type,bv x10.notNull,bv x10.key]),(132,AV.p 7 0),(133,sv x10.name),(134,AV.p 0 0),(135,AV.agg [AV.sl (List.map Fr.cells pi.frs),AV.sl (List.map Sch.cells pi.tbs)]),(136,AV.p 7 1),(137,iv x10.type),(138,iv d),(139,AV.agg [iv e11.kind,iv e11.op,bv e11.not,iv e11.val.kind,iv e11.val.int,sv e11.val.text,sv e11.table,sv e11.name,AV.sl (zab e11.args),AV.sl (zaf e11.sub)]),(140,AV.agg [sv x10.name,iv e11.kind,iv e11.op,bv e11.not,iv e11.val.kind,iv e11.val.int,sv e11.val.text,sv e11.table,sv e11.name,AV.sl (zab e11.args),AV.sl (zaf e11.sub)])] [Blk.box [AV.sl (List.map (fun n=>[iv n]) t11.l),iv (t11.pos:Int)],Blk.box [AV.sl (List.map Fr.cells p.frs),AV.sl (List.map Sch.cells p.tbs)],Blk.box [iv 0,sv (ByteArray.mk #[]),AV.nl,AV.nl,AV.nl,AV.nl,sv (ByteArray.mk #[])],Blk.box [sv s.name,AV.sl (List.map Col.cells s.cols)],Blk.box [AV.sl (List.map Fr.cells pi.frs),AV.sl (List.map Sch.cells pi.tbs)],Blk.box [iv kd,sv s.name,AV.nl,AV.nl,AV.own 6 sets.length,AV.nl,sv (ByteArray.mk #[])],Blk.row Ty.Set (List.map Se.cells sets) false,Blk.box [sv x10.name,iv x10.type,bv x10.notNull,bv x10.key],Blk.box [sv x10.name,iv e11.kind,iv e11.op,bv e11.not,iv e11.val.kind,iv e11.val.int,sv e11.val.text,sv e11.table,sv e11.name,AV.sl (zab e11.args),AV.sl (zaf e11.sub)]],sg h12,sl [0] c14,sb h15,sqx (AllLen [[sv x10.name,iv e11.kind,iv e11.op,bv e11.not,iv e11.val.kind,iv e11.val.int,sv e11.val.text,sv e11.table,sv e11.name,AV.sl (zab e11.args),AV.sl (zaf e11.sub)]] 11∧sets.length=(List.map Se.cells sets).length∧(((List.map Se.cells sets).length+[[sv x10.name,iv e11.kind,iv e11.op,bv e11.not,iv e11.val.kind,iv e11.val.int,sv e11.val.text,sv e11.table,sv e11.name,AV.sl (zab e11.args),AV.sl (zaf e11.sub)]].length) * 152).le 140737488355328),si (zcm (t:=(i:Int)+1) (n:=i+1) (by omega) (by omega))] [0,2,6,7,8,9,14,15] 7 kr (zat rfl (show ([Blk.box [AV.sl (List.map (fun n=>[iv n]) t14.l),iv (t14.pos:Int)],Blk.box [AV.sl (List.map Fr.cells p.frs),AV.sl (List.map Sch.cells p.tbs)],Blk.box [iv 0,sv (ByteArray.mk #[]),AV.nl,AV.nl,AV.nl,AV.nl,sv (ByteArray.mk #[])],Blk.box [sv s.name,AV.sl (List.map Col.cells s.cols)],Blk.box [AV.sl (List.map Fr.cells pi.frs),AV.sl (List.map Sch.cells pi.tbs)],Blk.box [iv kd,sv s.name,AV.nl,AV.nl,AV.own 6 (List.map Se.cells sets++[[sv x10.name,iv e11.kind,iv e11.op,bv e11.not,iv e11.val.kind,iv e11.val.int,sv e11.val.text,sv e11.table,sv e11.name,AV.sl (zab e11.args),AV.sl (zaf e11.sub)]]).length,AV.nl,sv (ByteArray.mk #[])],Blk.row Ty.Set (List.map Se.cells sets++[[sv x10.name,iv e11.kind,iv e11.op,bv e11.not,iv e11.val.kind,iv e11.val.int,sv e11.val.text,sv e11.table,sv e11.name,AV.sl (zab e11.args),AV.sl (zaf e11.sub)]]) false]:Heap)=_ by first|rfl|(simp;done)|(simp [X.cells,Qy.cells,V.cells,Col.cells,Rw.cells,Tb.cells,Fr.cells,Sch.cells,Tp.cells,Pl.cells,xCol,xLit,xBin,xNeg,Im.cells,Lk.cells,Ac.cells,Se.cells,Tg.cells,Rk.cells];done)) g16)⟩
     ·obtain ⟨a17,t17,q17,c17⟩:=(zak t14 2 (by first|assumption|omega|exact hI.push (by assumption) (lt2 (by assumption) (by assumption)) (by assumption) (by assumption)|exact hI.push (by assumption) (lt2 (by assumption) (by assumption)) (by assumption) (zcG (by assumption) (by assumption) (by omega) (by omega) (by omega) hM)|(simp;done)))
      obtain ⟨a18,t18,q18,c18⟩:=(zak t17 4 (by first|assumption|omega|exact hI.push (by assumption) (lt2 (by assumption) (by assumption)) (by assumption) (by assumption)|exact hI.push (by assumption) (lt2 (by assumption) (by assumption)) (by assumption) (zcG (by assumption) (by assumption) (by omega) (by omega) (by omega) hM)|(simp;done)))
      obtain ⟨r19_0,r19_1,p19_0,g19⟩:=ihl t18 (sets++[Se.mk x10.name (xBin (↑(9+a17):Int) (xCol (ByteArray.mk #[]) x10.name) (xNum (a18:Int)))]) (by first|assumption|omega|exact hI.push (by assumption) (lt2 (by assumption) (by assumption)) (by assumption) (by assumption)|exact hI.push (by assumption) (lt2 (by assumption) (by assumption)) (by assumption) (zcG (by assumption) (by assumption) (by omega) (by omega) (by omega) hM)|(simp;done))
      exact ⟨r19_0,r19_1,(by first|assumption|exact zef hk hsm hI (by first|exact hI.some0 (by assumption)|exact hI.some1 hf (by assumption)) (by simp) (by first|exact xt0|exact xt1 (by assumption))),wkl [sl [0] c1,si (zcm (t:=1+(a1:Int)) (n:=1+a1) (by omega) (by omega)),sg h2,sb h6,sd [(4,[si (zcm (t:=(first:Int)+(i:Int)) (n:=first+i) (by omega) (by omega))]),(8,[sx (.i ((↑(first+i):Int).tmod (↑(List.map Col.cells s.cols).length:Int))) (show (↑(List.map Col.cells s.cols).length:Int)≠(0:Int)∧((↑(first+i):Int).tmod (↑(List.map Col.cells s.cols).length:Int):Int)=(↑(first+i):Int).tmod (↑(List.map Col.cells s.cols).length:Int) from ⟨(by rw [List.length_map];omega),rfl⟩)]),(9,[se (zcF Col.cells e10 rfl)])],sdm [(7,[sl [0] c11])] 0 [(0,AV.p 0 0),(2,iv d),(6,AV.p 2 0),(7,AV.p 3 0),(8,AV.p 4 0),(9,AV.p 5 0),(14,iv (first:Int)),(15,iv (i:Int)),(16,AV.p 7 0),(17,AV.p 8 0),(107,iv (i:Int)),(108,AV.p 0 0),(109,iv (a1:Int)),(110,iv (↑(1+a1):Int)),(111,bv (decide ((i:Int) < (↑(1+a1):Int)))),(112,AV.bl true),(113,iv (i:Int)),(114,AV.p 3 1),(115,AV.sl (List.map Col.cells s.cols)),(116,iv (↑(List.map Col.cells s.cols).length:Int)),(117,bv (decide ((i:Int) < (↑(List.map Col.cells s.cols).length:Int)))),(118,AV.bl true),(121,AV.p 3 1),(122,AV.sl (List.map Col.cells s.cols)),(123,iv (first:Int)),(124,iv (i:Int)),(125,iv (↑(first+i):Int)),(126,AV.p 3 1),(127,AV.sl (List.map Col.cells s.cols)),(128,iv (↑(List.map Col.cells s.cols).length:Int)),(129,iv ((↑(first+i):Int).tmod (↑(List.map Col.cells s.cols).length:Int))),(130,AV.dp [sv x10.name,iv x10.type,bv x10.notNull,bv x10.key]),(131,AV.agg [sv x10.name,iv x10.type,bv x10.notNull,bv x10.key]),(132,AV.p 7 0),(133,sv x10.name),(134,AV.p 0 0),(135,AV.agg [AV.sl (List.map Fr.cells pi.frs),AV.sl (List.map Sch.cells pi.tbs)]),(136,AV.p 7 1),(137,iv x10.type),(138,iv d),(139,AV.agg [iv e11.kind,iv e11.op,bv e11.not,iv e11.val.kind,iv e11.val.int,sv e11.val.text,sv e11.table,sv e11.name,AV.sl (zab e11.args),AV.sl (zaf e11.sub)]),(140,AV.agg [sv x10.name,iv e11.kind,iv e11.op,bv e11.not,iv e11.val.kind,iv e11.val.int,sv e11.val.text,sv e11.table,sv e11.name,AV.sl (zab e11.args),AV.sl (zaf e11.sub)])] [Blk.box [AV.sl (List.map (fun n=>[iv n]) t11.l),iv (t11.pos:Int)],Blk.box [AV.sl (List.map Fr.cells p.frs),AV.sl (List.map Sch.cells p.tbs)],Blk.box [iv 0,sv (ByteArray.mk #[]),AV.nl,AV.nl,AV.nl,AV.nl,sv (ByteArray.mk #[])],Blk.box [sv s.name,AV.sl (List.map Col.cells s.cols)],Blk.box [AV.sl (List.map Fr.cells pi.frs),AV.sl (List.map Sch.cells pi.tbs)],Blk.box [iv kd,sv s.name,AV.nl,AV.nl,AV.own 6 sets.length,AV.nl,sv (ByteArray.mk #[])],Blk.row Ty.Set (List.map Se.cells sets) false,Blk.box [sv x10.name,iv x10.type,bv x10.notNull,bv x10.key],Blk.box [sv x10.name,iv e11.kind,iv e11.op,bv e11.not,iv e11.val.kind,iv e11.val.int,sv e11.val.text,sv e11.table,sv e11.name,AV.sl (zab e11.args),AV.sl (zaf e11.sub)]],sg h12,sl [0] c14,sb h15,sd [(1,[sl [0] c17]),(2,[si (zcm (t:=9+(a17:Int)) (n:=9+a17) (by omega) (by omega))]),(5,[sc (zd2 (ByteArray.mk #[]) x10.name)]),(7,[sl [0] c18]),(8,[sc (zbM ((a18:Int)) (by first|assumption|omega|exact hI.push (by assumption) (lt2 (by assumption) (by assumption)) (by assumption) (by assumption)|exact hI.push (by assumption) (lt2 (by assumption) (by assumption)) (by assumption) (zcG (by assumption) (by assumption) (by omega) (by omega) (by omega) hM)|(simp;done)))]),(9,[sc (zbL ((↑(9+a17):Int)) (xCol (ByteArray.mk #[]) x10.name) (xNum (a18:Int)))])],sqx (AllLen [[sv x10.name,iv (xBin (↑(9+a17):Int) (xCol (ByteArray.mk #[]) x10.name) (xNum (a18:Int))).kind,iv (xBin (↑(9+a17):Int) (xCol (ByteArray.mk #[]) x10.name) (xNum (a18:Int))).op,bv (xBin (↑(9+a17):Int) (xCol (ByteArray.mk #[]) x10.name) (xNum (a18:Int))).not,iv (xBin (↑(9+a17):Int) (xCol (ByteArray.mk #[]) x10.name) (xNum (a18:Int))).val.kind,iv (xBin (↑(9+a17):Int) (xCol (ByteArray.mk #[]) x10.name) (xNum (a18:Int))).val.int,sv (xBin (↑(9+a17):Int) (xCol (ByteArray.mk #[]) x10.name) (xNum (a18:Int))).val.text,sv (xBin (↑(9+a17):Int) (xCol (ByteArray.mk #[]) x10.name) (xNum (a18:Int))).table,sv (xBin (↑(9+a17):Int) (xCol (ByteArray.mk #[]) x10.name) (xNum (a18:Int))).name,AV.sl (zab [xCol (ByteArray.mk #[]) x10.name,xNum (a18:Int)]),AV.sl (zaf [])]] 11∧sets.length=(List.map Se.cells sets).length∧(((List.map Se.cells sets).length+[[sv x10.name,iv (xBin (↑(9+a17):Int) (xCol (ByteArray.mk #[]) x10.name) (xNum (a18:Int))).kind,iv (xBin (↑(9+a17):Int) (xCol (ByteArray.mk #[]) x10.name) (xNum (a18:Int))).op,bv (xBin (↑(9+a17):Int) (xCol (ByteArray.mk #[]) x10.name) (xNum (a18:Int))).not,iv (xBin (↑(9+a17):Int) (xCol (ByteArray.mk #[]) x10.name) (xNum (a18:Int))).val.kind,iv (xBin (↑(9+a17):Int) (xCol (ByteArray.mk #[]) x10.name) (xNum (a18:Int))).val.int,sv (xBin (↑(9+a17):Int) (xCol (ByteArray.mk #[]) x10.name) (xNum (a18:Int))).val.text,sv (xBin (↑(9+a17):Int) (xCol (ByteArray.mk #[]) x10.name) (xNum (a18:Int))).table,sv (xBin (↑(9+a17):Int) (xCol (ByteArray.mk #[]) x10.name) (xNum (a18:Int))).name,AV.sl (zab [xCol (ByteArray.mk #[]) x10.name,xNum (a18:Int)]),AV.sl (zaf [])]].length) * 152).le 140737488355328),si (zcm (t:=(i:Int)+1) (n:=i+1) (by omega) (by omega))] [0,2,6,7,8,9,14,15] 7 kr (zat rfl (show ([Blk.box [AV.sl (List.map (fun n=>[iv n]) t18.l),iv (t18.pos:Int)],Blk.box [AV.sl (List.map Fr.cells p.frs),AV.sl (List.map Sch.cells p.tbs)],Blk.box [iv 0,sv (ByteArray.mk #[]),AV.nl,AV.nl,AV.nl,AV.nl,sv (ByteArray.mk #[])],Blk.box [sv s.name,AV.sl (List.map Col.cells s.cols)],Blk.box [AV.sl (List.map Fr.cells pi.frs),AV.sl (List.map Sch.cells pi.tbs)],Blk.box [iv kd,sv s.name,AV.nl,AV.nl,AV.own 6 (List.map Se.cells sets++[[sv x10.name,iv (xBin (↑(9+a17):Int) (xCol (ByteArray.mk #[]) x10.name) (xNum (a18:Int))).kind,iv (xBin (↑(9+a17):Int) (xCol (ByteArray.mk #[]) x10.name) (xNum (a18:Int))).op,bv (xBin (↑(9+a17):Int) (xCol (ByteArray.mk #[]) x10.name) (xNum (a18:Int))).not,iv (xBin (↑(9+a17):Int) (xCol (ByteArray.mk #[]) x10.name) (xNum (a18:Int))).val.kind,iv (xBin (↑(9+a17):Int) (xCol (ByteArray.mk #[]) x10.name) (xNum (a18:Int))).val.int,sv (xBin (↑(9+a17):Int) (xCol (ByteArray.mk #[]) x10.name) (xNum (a18:Int))).val.text,sv (xBin (↑(9+a17):Int) (xCol (ByteArray.mk #[]) x10.name) (xNum (a18:Int))).table,sv (xBin (↑(9+a17):Int) (xCol (ByteArray.mk #[]) x10.name) (xNum (a18:Int))).name,AV.sl (zab [xCol (ByteArray.mk #[]) x10.name,xNum (a18:Int)]),AV.sl (zaf [])]]).length,AV.nl,sv (ByteArray.mk #[])],Blk.row Ty.Set (List.map Se.cells sets++[[sv x10.name,iv (xBin (↑(9+a17):Int) (xCol (ByteArray.mk #[]) x10.name) (xNum (a18:Int))).kind,iv (xBin (↑(9+a17):Int) (xCol (ByteArray.mk #[]) x10.name) (xNum (a18:Int))).op,bv (xBin (↑(9+a17):Int) (xCol (ByteArray.mk #[]) x10.name) (xNum (a18:Int))).not,iv (xBin (↑(9+a17):Int) (xCol (ByteArray.mk #[]) x10.name) (xNum (a18:Int))).val.kind,iv (xBin (↑(9+a17):Int) (xCol (ByteArray.mk #[]) x10.name) (xNum (a18:Int))).val.int,sv (xBin (↑(9+a17):Int) (xCol (ByteArray.mk #[]) x10.name) (xNum (a18:Int))).val.text,sv (xBin (↑(9+a17):Int) (xCol (ByteArray.mk #[]) x10.name) (xNum (a18:Int))).table,sv (xBin (↑(9+a17):Int) (xCol (ByteArray.mk #[]) x10.name) (xNum (a18:Int))).name,AV.sl (zab [xCol (ByteArray.mk #[]) x10.name,xNum (a18:Int)]),AV.sl (zaf [])]]) false]:Heap)=_ by first|rfl|(simp;done)|(simp [X.cells,Qy.cells,V.cells,Col.cells,Rw.cells,Tb.cells,Fr.cells,Sch.cells,Tp.cells,Pl.cells,xCol,xLit,xBin,xNeg,Im.cells,Lk.cells,Ac.cells,Se.cells,Tg.cells,Rk.cells];done)) g19)⟩
end Go.AM
namespace Go.AM
set_option maxRecDepth 100000
set_option maxHeartbeats 1000000
set_option linter.unusedSimpArgs false
set_option linter.unusedVariables false
theorem zeX (d:Int) (M k:Nat) (t0:Tp) (p pi:Pl) (s:Sch) (kd:Int) (first i:Nat) (u:Tp) (sets:List Se) (hsm:s∈zal) (hs:Few s.cols) (hpi:pi.OkN k) (hpf:pi=plIn p s) (hM:Deep M) (hE:∀ (t:Tp) (w:Int),∃ (e:X) (t':Tp),XT p.tbs M (frIn p.frs s) w e∧zac E0 S.world_Tape_Expr [.p 0 0,pi.av,iv w,iv d] [.box t.cells] e.av [.box t'.cells]) (hk:kd=2) (hf:first < s.cols.length) (hI:SetsT p.tbs M p.frs s first i sets) :
  ∃ (r:Ac) (t':Tp),ActT p.tbs M p.frs r∧Good E0 B.world_Tape_Change [.box t0.cells] (zrE d p pi s kd first i u sets) (Shut 1 fun rZ hZ=>rZ=r.av∧hZ=[.box t'.cells]):=by
 obtain ⟨q,hq⟩:∃ q,i+q=3:=⟨3 - i,by have:=hI.two;omega⟩
 induction q generalizing i u sets with
 | zero=>have:=hI.two;omega
 | succ q ih =>
  obtain ⟨r,t',hr,hg⟩:=zrM d M k t0 p pi s kd first i u sets hsm hs (zaQ hs) hpi hpf hM hE hk hf hs hI hI.two (by have:=hI.len;have:=hI.two;omega) fun u' sets' h'=>ih (i+1) u' sets' h' (by omega)
  exact ⟨r,t',hr,zaa hg⟩
theorem zaC {w:Str} (h:TabN w):zaA w∈zal:=by
 rcases h with rfl|rfl|rfl
 ·rw [zrn];simp [zal,schT]
 ·rw [zqV];simp [zal,schU]
 ·rw [znJ];simp [zal,zpr]
theorem za4 {tbs:List Sch} {M:Nat} {frs:List Fr} {s:Sch} {first:Nat}:SetsT tbs M frs s first 0 []:=⟨rfl,fun j x h=>by simp at h,by omega,by omega⟩
theorem zbn {w:Str} (h:TabN w):∀ c∈(zaA w).cols,c.key=true→c.type=1:=by
 have h0:∀ s∈zal,∀ c∈s.cols,c.key=true→c.type=1:=by simp [zal]
 exact h0 _ (zaC h)
section
variable {tbs : List Sch} {M : Nat} {frs : List Fr} {w : Str} {kd : Int}
theorem zfB {rows:List (List X)} (hw:TabN w) (hk:(kd==1)=true) (h:rows.length+0≤3∧1≤rows.length+0∧zby tbs M frs (zaA w) rows):ActT tbs M frs (Ac.mk kd (zaA w).name rows [] [] [] ⟨#[]⟩):=by
 rw [show kd=1 by simpa using hk];exact .rows (zaC hw) (by omega) (by omega) h.2.2
theorem zfI {q:Qy} (hw:TabN w) (hk:(kd==1)=true) (h:QyT tbs M frs (zaA w) q):ActT tbs M frs (Ac.mk kd (zaA w).name [] [q] [] [] ⟨#[]⟩):=by
 rw [show kd=1 by simpa using hk];exact .copy (zaC hw) h
theorem zgM {wh:List X} (hw:TabN w) (h1:(kd==1)=false) (h2:(kd==2)=false) (h:wh.length≤1) (hx:∀ x∈wh,XT tbs M (frIn frs (zaA w)) 2 x) (hr:1≤kd∧kd≤3):ActT tbs M frs (Ac.mk kd (zaA w).name [] [] [] wh ⟨#[]⟩):=by
 have e1:kd≠1:=by simpa using h1
 have e2:kd≠2:=by simpa using h2
 rw [show kd=3 by omega];exact .del (zaC hw) h hx
end
theorem zhp (t:Tp) (p:Pl) (d:Int) (M k:Nat) (hp:p.OkN (k+1)) (hpk:p.OkN k) (hsh:zad zal) (hM:Deep M) (hcol:∀ (t:Tp) (p:Pl) (w:Int),Few p.frs→(∀ f∈p.frs,Few f.cols)→∃ (x:X) (ok:Bool) (t':Tp),(ok=true→ColT p.frs w x)∧zac E0 S.world_Tape_column [.p 0 0,p.av,iv w] [.box t.cells] (.tup [x.av,bv ok]) [.box t'.cells]) (hE:∀ (t:Tp) (p:Pl) (w:Int),p.OkN k→∃ (e:X) (t':Tp),XT p.tbs M p.frs w e∧zac E0 S.world_Tape_Expr [.p 0 0,p.av,iv w,iv d] [.box t.cells] e.av [.box t'.cells]):∃ (r:Ac) (t':Tp),ActT p.tbs M p.frs r∧zac E0 S.world_Tape_Change [.p 0 0,p.av,iv d] [.box t.cells] r.av [.box t'.cells]:=by
 obtain ⟨w1,t1,q1,c1⟩:=(zj0 t)
 obtain ⟨a2,t2,q2,c2⟩:=(zak t1 3 (by first|assumption|omega|exact (zag (by assumption)).few|exact zag (by assumption)|exact zaC (by assumption)|exact zbn (by assumption)|exact hp.short|exact zaF hp (zag (by assumption)).few|exact fun t w'=>hE t (plIn p _) w' (zaF hp (zag (by assumption)).few)|exact zbf (by assumption)|exact za4|rfl|exact eq_of_beq (by assumption)|exact ⟨by simp only [List.length_nil];omega,by simp only [List.length_nil];omega,by simp [zby]⟩|(simp only [List.length_map] at *;omega)|(simp;done)))
 let p_1:List St:=[sl [0] c1,sc (zir w1 (by first|assumption|omega|exact (zag (by assumption)).few|exact zag (by assumption)|exact zaC (by assumption)|exact zbn (by assumption)|exact hp.short|exact zaF hp (zag (by assumption)).few|exact fun t w'=>hE t (plIn p _) w' (zaF hp (zag (by assumption)).few)|exact zbf (by assumption)|exact za4|rfl|exact eq_of_beq (by assumption)|exact ⟨by simp only [List.length_nil];omega,by simp only [List.length_nil];omega,by simp [zby]⟩|(simp only [List.length_map] at *;omega)|(simp;done))),sc (zfa p (zaA w1) (by first|assumption|omega|exact (zag (by assumption)).few|exact zag (by assumption)|exact zaC (by assumption)|exact zbn (by assumption)|exact hp.short|exact zaF hp (zag (by assumption)).few|exact fun t w'=>hE t (plIn p _) w' (zaF hp (zag (by assumption)).few)|exact zbf (by assumption)|exact za4|rfl|exact eq_of_beq (by assumption)|exact ⟨by simp only [List.length_nil];omega,by simp only [List.length_nil];omega,by simp [zby]⟩|(simp only [List.length_map] at *;omega)|(simp;done))),sdm [(1,[sl [0] c2]),(2,[si (zcm (t:=1+(a2:Int)) (n:=1+a2) (by omega) (by omega))])] 0 [(0,AV.p 0 0),(1,AV.agg [AV.sl (List.map Fr.cells p.frs),AV.sl (List.map Sch.cells p.tbs)]),(2,iv d),(4,AV.p 1 0),(6,AV.p 2 0),(7,AV.p 3 0),(8,AV.p 4 0),(9,AV.p 5 0),(18,AV.p 0 0),(19,sv w1),(20,AV.agg [sv (zaA w1).name,AV.sl (List.map Col.cells (zaA w1).cols)]),(21,AV.agg [AV.sl (List.map Fr.cells p.frs),AV.sl (List.map Sch.cells p.tbs)]),(22,AV.agg [sv (zaA w1).name,AV.sl (List.map Col.cells (zaA w1).cols)]),(23,AV.agg [AV.sl (List.map Fr.cells (plIn p (zaA w1)).frs),AV.sl (List.map Sch.cells (plIn p (zaA w1)).tbs)]),(24,AV.p 0 0),(25,iv (a2:Int)),(26,iv (↑(1+a2):Int)),(27,AV.p 3 0),(28,sv (zaA w1).name),(29,AV.agg [iv (↑(1+a2):Int),sv (zaA w1).name,AV.nl,AV.nl,AV.nl,AV.nl,sv (ByteArray.mk #[])])] [Blk.box [AV.sl (List.map (fun n=>[iv n]) t2.l),iv (t2.pos:Int)],Blk.box [AV.sl (List.map Fr.cells p.frs),AV.sl (List.map Sch.cells p.tbs)],Blk.box [iv 0,sv (ByteArray.mk #[]),AV.nl,AV.nl,AV.nl,AV.nl,sv (ByteArray.mk #[])],Blk.box [sv (zaA w1).name,AV.sl (List.map Col.cells (zaA w1).cols)],Blk.box [AV.sl (List.map Fr.cells (plIn p (zaA w1)).frs),AV.sl (List.map Sch.cells (plIn p (zaA w1)).tbs)],Blk.box [iv (↑(1+a2):Int),sv (zaA w1).name,AV.nl,AV.nl,AV.nl,AV.nl,sv (ByteArray.mk #[])]]]
 cases h3:(↑(1+a2):Int)==1
 ·cases h4:(↑(1+a2):Int)==2
  ·obtain ⟨b5,t5,c5⟩:=(zam t2 4 (by first|assumption|omega|exact (zag (by assumption)).few|exact zag (by assumption)|exact zaC (by assumption)|exact zbn (by assumption)|exact hp.short|exact zaF hp (zag (by assumption)).few|exact fun t w'=>hE t (plIn p _) w' (zaF hp (zag (by assumption)).few)|exact zbf (by assumption)|exact za4|rfl|exact eq_of_beq (by assumption)|exact ⟨by simp only [List.length_nil];omega,by simp only [List.length_nil];omega,by simp [zby]⟩|(simp only [List.length_map] at *;omega)|(simp;done)))
   cases h6:!b5
   ·exact ⟨Ac.mk (↑(1+a2):Int) (zaA w1).name [] [] [] [] (ByteArray.mk #[]),t5,(by first|assumption|exact zfB (by assumption) (by assumption) (by assumption)|exact zfI (by assumption) (by assumption) (by assumption)|exact zgM (by assumption) (by assumption) (by assumption) (by simp) (by first|exact xt0|exact xt1 (by assumption)) (by omega)),wk At.world_Tape_Change (p_1++[sb h3,sb h4,sl [0] c5,sb h6]) kr⟩
   ·obtain ⟨e7,t7,q7,c7⟩:=(hE t5 (plIn p (zaA w1)) 2 (by first|assumption|omega|exact (zag (by assumption)).few|exact zag (by assumption)|exact zaC (by assumption)|exact zbn (by assumption)|exact hp.short|exact zaF hp (zag (by assumption)).few|exact fun t w'=>hE t (plIn p _) w' (zaF hp (zag (by assumption)).few)|exact zbf (by assumption)|exact za4|rfl|exact eq_of_beq (by assumption)|exact ⟨by simp only [List.length_nil];omega,by simp only [List.length_nil];omega,by simp [zby]⟩|(simp only [List.length_map] at *;omega)|(simp;done)))
    exact ⟨Ac.mk (↑(1+a2):Int) (zaA w1).name [] [] [] [e7] (ByteArray.mk #[]),t7,(by first|assumption|exact zfB (by assumption) (by assumption) (by assumption)|exact zfI (by assumption) (by assumption) (by assumption)|exact zgM (by assumption) (by assumption) (by assumption) (by simp) (by first|exact xt0|exact xt1 (by assumption)) (by omega)),(by (try simp only [Ac.av,Ac.cells,zaO,zaU,zaS,za0]);exact wk At.world_Tape_Change (p_1++[sb h3,sb h4,sl [0] c5,sb h6,sl [0] c7]) kr)⟩
  ·obtain ⟨a8,t8,q8,c8⟩:=(zak t2 ((↑(List.map Col.cells (zaA w1).cols).length:Int)) (by first|assumption|omega|exact (zag (by assumption)).few|exact zag (by assumption)|exact zaC (by assumption)|exact zbn (by assumption)|exact hp.short|exact zaF hp (zag (by assumption)).few|exact fun t w'=>hE t (plIn p _) w' (zaF hp (zag (by assumption)).few)|exact zbf (by assumption)|exact za4|rfl|exact eq_of_beq (by assumption)|exact ⟨by simp only [List.length_nil];omega,by simp only [List.length_nil];omega,by simp [zby]⟩|(simp only [List.length_map] at *;omega)|(simp;done)))
   obtain ⟨r9_0,r9_1,p9_0,g9⟩:=zeX d M k t p (plIn p (zaA w1)) (zaA w1) ((↑(1+a2):Int)) a8 0 t8 ([]) (by first|assumption|omega|exact (zag (by assumption)).few|exact zag (by assumption)|exact zaC (by assumption)|exact zbn (by assumption)|exact hp.short|exact zaF hp (zag (by assumption)).few|exact fun t w'=>hE t (plIn p _) w' (zaF hp (zag (by assumption)).few)|exact zbf (by assumption)|exact za4|rfl|exact eq_of_beq (by assumption)|exact ⟨by simp only [List.length_nil];omega,by simp only [List.length_nil];omega,by simp [zby]⟩|(simp only [List.length_map] at *;omega)|(simp;done)) (by first|assumption|omega|exact (zag (by assumption)).few|exact zag (by assumption)|exact zaC (by assumption)|exact zbn (by assumption)|exact hp.short|exact zaF hp (zag (by assumption)).few|exact fun t w'=>hE t (plIn p _) w' (zaF hp (zag (by assumption)).few)|exact zbf (by assumption)|exact za4|rfl|exact eq_of_beq (by assumption)|exact ⟨by simp only [List.length_nil];omega,by simp only [List.length_nil];omega,by simp [zby]⟩|(simp only [List.length_map] at *;omega)|(simp;done)) (by first|assumption|omega|exact (zag (by assumption)).few|exact zag (by assumption)|exact zaC (by assumption)|exact zbn (by assumption)|exact hp.short|exact zaF hp (zag (by assumption)).few|exact fun t w'=>hE t (plIn p _) w' (zaF hp (zag (by assumption)).few)|exact zbf (by assumption)|exact za4|rfl|exact eq_of_beq (by assumption)|exact ⟨by simp only [List.length_nil];omega,by simp only [List.length_nil];omega,by simp [zby]⟩|(simp only [List.length_map] at *;omega)|(simp;done)) (by first|assumption|omega|exact (zag (by assumption)).few|exact zag (by assumption)|exact zaC (by assumption)|exact zbn (by assumption)|exact hp.short|exact zaF hp (zag (by assumption)).few|exact fun t w'=>hE t (plIn p _) w' (zaF hp (zag (by assumption)).few)|exact zbf (by assumption)|exact za4|rfl|exact eq_of_beq (by assumption)|exact ⟨by simp only [List.length_nil];omega,by simp only [List.length_nil];omega,by simp [zby]⟩|(simp only [List.length_map] at *;omega)|(simp;done)) hM (by first|assumption|omega|exact (zag (by assumption)).few|exact zag (by assumption)|exact zaC (by assumption)|exact zbn (by assumption)|exact hp.short|exact zaF hp (zag (by assumption)).few|exact fun t w'=>hE t (plIn p _) w' (zaF hp (zag (by assumption)).few)|exact zbf (by assumption)|exact za4|rfl|exact eq_of_beq (by assumption)|exact ⟨by simp only [List.length_nil];omega,by simp only [List.length_nil];omega,by simp [zby]⟩|(simp only [List.length_map] at *;omega)|(simp;done)) (by first|assumption|omega|exact (zag (by assumption)).few|exact zag (by assumption)|exact zaC (by assumption)|exact zbn (by assumption)|exact hp.short|exact zaF hp (zag (by assumption)).few|exact fun t w'=>hE t (plIn p _) w' (zaF hp (zag (by assumption)).few)|exact zbf (by assumption)|exact za4|rfl|exact eq_of_beq (by assumption)|exact ⟨by simp only [List.length_nil];omega,by simp only [List.length_nil];omega,by simp [zby]⟩|(simp only [List.length_map] at *;omega)|(simp;done)) (by first|assumption|omega|exact (zag (by assumption)).few|exact zag (by assumption)|exact zaC (by assumption)|exact zbn (by assumption)|exact hp.short|exact zaF hp (zag (by assumption)).few|exact fun t w'=>hE t (plIn p _) w' (zaF hp (zag (by assumption)).few)|exact zbf (by assumption)|exact za4|rfl|exact eq_of_beq (by assumption)|exact ⟨by simp only [List.length_nil];omega,by simp only [List.length_nil];omega,by simp [zby]⟩|(simp only [List.length_map] at *;omega)|(simp;done)) (by first|assumption|omega|exact (zag (by assumption)).few|exact zag (by assumption)|exact zaC (by assumption)|exact zbn (by assumption)|exact hp.short|exact zaF hp (zag (by assumption)).few|exact fun t w'=>hE t (plIn p _) w' (zaF hp (zag (by assumption)).few)|exact zbf (by assumption)|exact za4|rfl|exact eq_of_beq (by assumption)|exact ⟨by simp only [List.length_nil];omega,by simp only [List.length_nil];omega,by simp [zby]⟩|(simp only [List.length_map] at *;omega)|(simp;done))
   exact ⟨r9_0,r9_1,(by first|assumption|exact zfB (by assumption) (by assumption) (by assumption)|exact zfI (by assumption) (by assumption) (by assumption)|exact zgM (by assumption) (by assumption) (by assumption) (by simp) (by first|exact xt0|exact xt1 (by assumption)) (by omega)),wkcN At.world_Tape_Change (p_1++[sb h3,sb h4,sl [0] c8]) [0,2,6,7,8,9,14,15] 6 [(.ob 5 4 Ty.Set,7)] kr (g9)⟩
 ·obtain ⟨b10,t10,c10⟩:=(zam t2 4 (by first|assumption|omega|exact (zag (by assumption)).few|exact zag (by assumption)|exact zaC (by assumption)|exact zbn (by assumption)|exact hp.short|exact zaF hp (zag (by assumption)).few|exact fun t w'=>hE t (plIn p _) w' (zaF hp (zag (by assumption)).few)|exact zbf (by assumption)|exact za4|rfl|exact eq_of_beq (by assumption)|exact ⟨by simp only [List.length_nil];omega,by simp only [List.length_nil];omega,by simp [zby]⟩|(simp only [List.length_map] at *;omega)|(simp;done)))
  rcases (Bool.eq_false_or_eq_true b10).symm with h11|h11
  ·obtain ⟨a12,t12,q12,c12⟩:=(zak t10 3 (by first|assumption|omega|exact (zag (by assumption)).few|exact zag (by assumption)|exact zaC (by assumption)|exact zbn (by assumption)|exact hp.short|exact zaF hp (zag (by assumption)).few|exact fun t w'=>hE t (plIn p _) w' (zaF hp (zag (by assumption)).few)|exact zbf (by assumption)|exact za4|rfl|exact eq_of_beq (by assumption)|exact ⟨by simp only [List.length_nil];omega,by simp only [List.length_nil];omega,by simp [zby]⟩|(simp only [List.length_map] at *;omega)|(simp;done)))
   obtain ⟨u13,rows13,q13,q13_1,g13⟩:=ze0 t p (plIn p (zaA w1)) (zaA w1) ((↑(1+a2):Int)) d M k hE (by first|assumption|omega|exact (zag (by assumption)).few|exact zag (by assumption)|exact zaC (by assumption)|exact zbn (by assumption)|exact hp.short|exact zaF hp (zag (by assumption)).few|exact fun t w'=>hE t (plIn p _) w' (zaF hp (zag (by assumption)).few)|exact zbf (by assumption)|exact za4|rfl|exact eq_of_beq (by assumption)|exact ⟨by simp only [List.length_nil];omega,by simp only [List.length_nil];omega,by simp [zby]⟩|(simp only [List.length_map] at *;omega)|(simp;done)) (by first|assumption|omega|exact (zag (by assumption)).few|exact zag (by assumption)|exact zaC (by assumption)|exact zbn (by assumption)|exact hp.short|exact zaF hp (zag (by assumption)).few|exact fun t w'=>hE t (plIn p _) w' (zaF hp (zag (by assumption)).few)|exact zbf (by assumption)|exact za4|rfl|exact eq_of_beq (by assumption)|exact ⟨by simp only [List.length_nil];omega,by simp only [List.length_nil];omega,by simp [zby]⟩|(simp only [List.length_map] at *;omega)|(simp;done)) (by first|assumption|omega|exact (zag (by assumption)).few|exact zag (by assumption)|exact zaC (by assumption)|exact zbn (by assumption)|exact hp.short|exact zaF hp (zag (by assumption)).few|exact fun t w'=>hE t (plIn p _) w' (zaF hp (zag (by assumption)).few)|exact zbf (by assumption)|exact za4|rfl|exact eq_of_beq (by assumption)|exact ⟨by simp only [List.length_nil];omega,by simp only [List.length_nil];omega,by simp [zby]⟩|(simp only [List.length_map] at *;omega)|(simp;done)) (1+a12) t12 ([]) (by first|assumption|omega|exact (zag (by assumption)).few|exact zag (by assumption)|exact zaC (by assumption)|exact zbn (by assumption)|exact hp.short|exact zaF hp (zag (by assumption)).few|exact fun t w'=>hE t (plIn p _) w' (zaF hp (zag (by assumption)).few)|exact zbf (by assumption)|exact za4|rfl|exact eq_of_beq (by assumption)|exact ⟨by simp only [List.length_nil];omega,by simp only [List.length_nil];omega,by simp [zby]⟩|(simp only [List.length_map] at *;omega)|(simp;done)) (by first|assumption|omega|exact (zag (by assumption)).few|exact zag (by assumption)|exact zaC (by assumption)|exact zbn (by assumption)|exact hp.short|exact zaF hp (zag (by assumption)).few|exact fun t w'=>hE t (plIn p _) w' (zaF hp (zag (by assumption)).few)|exact zbf (by assumption)|exact za4|rfl|exact eq_of_beq (by assumption)|exact ⟨by simp only [List.length_nil];omega,by simp only [List.length_nil];omega,by simp [zby]⟩|(simp only [List.length_map] at *;omega)|(simp;done))
   exact ⟨Ac.mk (↑(1+a2):Int) (zaA w1).name rows13 [] [] [] (ByteArray.mk #[]),u13,(by first|assumption|exact zfB (by assumption) (by assumption) (by assumption)|exact zfI (by assumption) (by assumption) (by assumption)|exact zgM (by assumption) (by assumption) (by assumption) (by simp) (by first|exact xt0|exact xt1 (by assumption)) (by omega)),wkcN At.world_Tape_Change (p_1++[sb h3,sl [0] c10,sb h11,sl [0] c12,si (zcm (t:=1+(a12:Int)) (n:=1+a12) (by omega) (by omega))]) [0,2,4,6,7,8,9,10] 6 [(.ob 5 2 Ty.LExpr,7)] kr (g13 _ (zaa (wkr [sqx (True∧True∧rows13.length=(List.map zaH rows13).length∧True∧True∧True∧True∧True),sb (rfl:false=false)] kr)))⟩
  ·obtain ⟨qy14,t14,q14,c14⟩:=(zhF t10 p (zaA w1) d M k hp (by first|assumption|omega|exact (zag (by assumption)).few|exact zag (by assumption)|exact zaC (by assumption)|exact zbn (by assumption)|exact hp.short|exact zaF hp (zag (by assumption)).few|exact fun t w'=>hE t (plIn p _) w' (zaF hp (zag (by assumption)).few)|exact zbf (by assumption)|exact za4|rfl|exact eq_of_beq (by assumption)|exact ⟨by simp only [List.length_nil];omega,by simp only [List.length_nil];omega,by simp [zby]⟩|(simp only [List.length_map] at *;omega)|(simp;done)) (by first|assumption|omega|exact (zag (by assumption)).few|exact zag (by assumption)|exact zaC (by assumption)|exact zbn (by assumption)|exact hp.short|exact zaF hp (zag (by assumption)).few|exact fun t w'=>hE t (plIn p _) w' (zaF hp (zag (by assumption)).few)|exact zbf (by assumption)|exact za4|rfl|exact eq_of_beq (by assumption)|exact ⟨by simp only [List.length_nil];omega,by simp only [List.length_nil];omega,by simp [zby]⟩|(simp only [List.length_map] at *;omega)|(simp;done)) hM (by first|assumption|omega|exact (zag (by assumption)).few|exact zag (by assumption)|exact zaC (by assumption)|exact zbn (by assumption)|exact hp.short|exact zaF hp (zag (by assumption)).few|exact fun t w'=>hE t (plIn p _) w' (zaF hp (zag (by assumption)).few)|exact zbf (by assumption)|exact za4|rfl|exact eq_of_beq (by assumption)|exact ⟨by simp only [List.length_nil];omega,by simp only [List.length_nil];omega,by simp [zby]⟩|(simp only [List.length_map] at *;omega)|(simp;done)) (by first|assumption|omega|exact (zag (by assumption)).few|exact zag (by assumption)|exact zaC (by assumption)|exact zbn (by assumption)|exact hp.short|exact zaF hp (zag (by assumption)).few|exact fun t w'=>hE t (plIn p _) w' (zaF hp (zag (by assumption)).few)|exact zbf (by assumption)|exact za4|rfl|exact eq_of_beq (by assumption)|exact ⟨by simp only [List.length_nil];omega,by simp only [List.length_nil];omega,by simp [zby]⟩|(simp only [List.length_map] at *;omega)|(simp;done)))
   exact ⟨Ac.mk (↑(1+a2):Int) (zaA w1).name [] [qy14] [] [] (ByteArray.mk #[]),t14,(by first|assumption|exact zfB (by assumption) (by assumption) (by assumption)|exact zfI (by assumption) (by assumption) (by assumption)|exact zgM (by assumption) (by assumption) (by assumption) (by simp) (by first|exact xt0|exact xt1 (by assumption)) (by omega)),(by (try simp only [Ac.av,Ac.cells,zaO,zaU,zaS,za0]);exact wk At.world_Tape_Change (p_1++[sb h3,sl [0] c10,sb h11,sl [0] c14]) kr)⟩
theorem zg8 (t:Tp):∃ (r:Ac) (t':Tp),ActT zal 6 [] r∧zac E0 S.world_Tape_Change [.p 0 0,(Pl.mk [] zal).av,iv 3] [.box t.cells] r.av [.box t'.cells]:=by
 have ok:∀ n,n≤1000→(Pl.mk [] zal).OkN n:=fun n hn=>⟨by simpa using hn,by simp,by simp [zal],by simp [zal],by simp [zal]⟩
 exact zhp t ⟨[],zal⟩ 3 6 4 (ok 5 (by omega)) (ok 4 (by omega)) zfV ⟨by omega⟩ zcn (zmU 4 (by omega))
end Go.AM
namespace Go.AM
set_option maxRecDepth 100000
set_option maxHeartbeats 1000000
set_option linter.unusedSimpArgs false
set_option linter.unusedVariables false
theorem znZ  (hs:zad zal) (hc:Pure S.dml_Candidates [knA.av,fsl [],tsl [knT]] (.tup [knC.av,iv 0])) (hk:Pure S.dml_Check [knA.av,fsl [],tsl [knT]] (iv 0)) (he:zac E0 S.slices_Equal_Value [vsl [vN 1,vN 3,vN 2],vsl [vN 1,vN 3,vN 2]] [] (bv true) []):∃ (b:Bool),b=true∧zac E0 S.law16_known [] [] (bv b) []:=by
 exact ⟨bif bif bif (0:Int)==(0:Int) then (0:Int)==(0:Int) else false then (↑[[iv (1:Int),AV.sl [[iv (vN (1:Int)).kind,iv (vN (1:Int)).int,sv (vN (1:Int)).text],[iv (vN (2:Int)).kind,iv (vN (2:Int)).int,sv (vN (2:Int)).text],[iv (vN (3:Int)).kind,iv (vN (3:Int)).int,sv (vN (3:Int)).text]],AV.sl [[iv (vN (1:Int)).kind,iv (vN (1:Int)).int,sv (vN (1:Int)).text],[iv (vN (3:Int)).kind,iv (vN (3:Int)).int,sv (vN (3:Int)).text],[iv (vN (2:Int)).kind,iv (vN (2:Int)).int,sv (vN (2:Int)).text]]]].length:Int)==(1:Int) else false then true else false,(by rfl),(by (try simp only [X.av,Qy.av,V.av,Tb.av,Sch.av,Pl.av,xsl,fsl,vsl,tsl,List.map_append,List.map_cons,List.map_nil,V.cells,Col.cells,Rw.cells,Tb.cells,Fr.cells,Sch.cells,Pl.cells,za7,zaO,zaU,zaS,za0,X.cells,Qy.cells,X.args_mk,X.sub_mk,Qy.items_mk,Qy.wh_mk,xCol,xLit,xBin,xNeg,Ac.cells,Se.cells,Pr.cells,Ch.cells,Rw.cells]);exact wk At.law16_known [sc (zir (ByteArray.mk #[117]) (by first|assumption|omega|(simp;done)|(simp;omega))),sc (zcL 1),sc (zcL 2),sc (zcL 3),sc (zd2 (ByteArray.mk #[]) (ByteArray.mk #[109])),sc (zd2 (ByteArray.mk #[]) (ByteArray.mk #[110])),sc hc,sd [(3,[sg (rfl:true=true)]),(4,[sg (rfl:true=true)]),(5,[sg (rfl:true=true)]),(6,[so (rfl:true=true) (sc hk)]),(7,[sg (rfl:true=true)]),(10,[sg (rfl:true=true)]),(11,[sg (rfl:true=true)]),(12,[sg (rfl:true=true)]),(13,[sg (rfl:true=true)]),(16,[sg (rfl:true=true)]),(17,[sg (rfl:true=true)]),(18,[so (rfl:true=true) (se (xs:=[[iv 1,AV.sl [[iv (vN 1).kind,iv (vN 1).int,sv (vN 1).text],[iv (vN 2).kind,iv (vN 2).int,sv (vN 2).text],[iv (vN 3).kind,iv (vN 3).int,sv (vN 3).text]],AV.sl [[iv (vN 1).kind,iv (vN 1).int,sv (vN 1).text],[iv (vN 3).kind,iv (vN 3).int,sv (vN 3).text],[iv (vN 2).kind,iv (vN 2).int,sv (vN 2).text]]]]) (i:=0) (c:=[iv 1,AV.sl [[iv (vN 1).kind,iv (vN 1).int,sv (vN 1).text],[iv (vN 2).kind,iv (vN 2).int,sv (vN 2).text],[iv (vN 3).kind,iv (vN 3).int,sv (vN 3).text]],AV.sl [[iv (vN 1).kind,iv (vN 1).int,sv (vN 1).text],[iv (vN 3).kind,iv (vN 3).int,sv (vN 3).text],[iv (vN 2).kind,iv (vN 2).int,sv (vN 2).text]]]) (n:=3) ⟨by decide,rfl,rfl⟩)]),(19,[sg (rfl:true=true)]),(20,[sg (rfl:true=true)]),(21,[so (rfl:true=true) (sc (zcL 1))]),(22,[so (rfl:true=true) (sc (zcL 3))]),(23,[so (rfl:true=true) (sc (zcL 2))]),(24,[sg (rfl:true=true)]),(25,[so (rfl:true=true) (sc he)])]] kr)⟩
theorem ztb:∀ r∈knT.rows,∀ v∈r.vals,v.Good:=fun r hr v hv=>by
 simp only [List.mem_singleton] at hr
 subst hr
 simp only [List.mem_cons,List.not_mem_nil,or_false] at hv
 rcases hv with rfl|rfl|rfl <;> exact zbS ⟨by decide,by decide⟩
theorem knIn:DmlIn 2 knA [] [knT] where
 ac:=⟨by simp,by simp,by simp,by simp,by simp,fun s hs=>by
  simp only [List.mem_cons,List.not_mem_nil,or_false] at hs
  rcases hs with rfl|rfl <;> exact zq7 ⟨_,_,rfl⟩,by simp,by simp⟩
 kd:=by decide
 fo:=zo7 3 (by decide)
 fg:=zrs
 to:=⟨by simp,fun x hx=>by simp only [List.mem_singleton] at hx;subst hx;decide,fun x hx=>by simp only [List.mem_singleton] at hx;subst hx;decide,fun x hx r hr v hv=>by
  simp only [List.mem_singleton] at hx;subst hx;exact (ztb r hr v hv).small⟩
 tg:=⟨fun x hx r hr v hv=>by simp only [List.mem_singleton] at hx;subst hx;exact ztb r hr v hv,fun x hx=>by simp only [List.mem_singleton] at hx;subst hx;decide⟩
 tv:=fun x hx r hr=>by
  simp only [List.mem_singleton] at hx;subst hx
  simp only [List.mem_singleton] at hr;subst hr;decide
theorem znN:zac E0 S.law16_known [] [] (bv true) []:=by
 have h1:=zt1 knIn
 rw [zvf] at h1
 obtain ⟨r,hr,h2⟩:=c_chk knIn
 obtain rfl:=hr.2 kn_chk
 obtain ⟨q,h4,h3⟩:=ziw [vN 1,vN 3,vN 2] (by decide)
 subst h4
 obtain ⟨b,rfl,h⟩:=znZ zfV h1 h2 h3
 exact h
theorem zmS {α:Type} {p:α→Bool} {l:List α} {i:Nat} {x:α} {z:Int} (h:z=idxF p (l.drop i) i) (hx:l[i]?=some x) (hp:p x=false):z=idxF p (l.drop (i+1)) (i+1):=by
 rw [zaN hx] at h;rw [h];simp only [idxF,hp,cond_false]
theorem zpy {α:Type} {p:α→Bool} {l:List α} {i:Nat} {x:α} {z:Int} (h:z=idxF p (l.drop i) i) (hx:l[i]?=some x) (hp:p x=true):((i:Nat):Int)=z:=by
 rw [zaN hx] at h;rw [h];simp only [idxF,hp,cond_true]
theorem zhU {α:Type} {p:α→Bool} {l:List α} {z:Int} (h:z=idxF p (l.drop l.length) l.length):-1=z:=by
 rw [List.drop_length] at h;rw [h];rfl
noncomputable def zsb (tb:List Tb) (n:Str) (i:Nat) :Cfg:=zar B.ref9_Find 0 [(1,sv n),(7,.sl (tb.map Tb.cells)),(8,iv ((tb.map Tb.cells).length:Nat)),(9,iv (i:Nat))] []
theorem zic (tb:List Tb) (n:Str) (hl:zad tb) (i:Nat)  (hi:i≤(tb).length) (hI:idxF (fun t=>zaK t n) tb 0=idxF (fun t=>zaK t n) (tb.drop i) i):((idxF (fun t=>zaK t n) tb 0=idxF (fun t=>zaK t n) (tb.drop (tb).length) (tb).length)∧(decide ((((tb).length:Nat):Int) < (((tb.map Tb.cells).length:Nat):Int))=false)∧∀ R,Good E0 B.ref9_Find [] (zsb tb n (tb).length ) R→Good E0 B.ref9_Find [] (zsb tb n i ) R)∨(∃ (r:Int),r=idxF (fun t=>zaK t n) tb 0∧Good E0 B.ref9_Find [] (zsb tb n i ) (Shut 0 fun rZ hZ=>rZ=(iv r)∧hZ=[])):=by
 obtain ⟨kk,hk⟩:∃ kk,i+kk=(tb).length:=⟨(tb).length - i,by omega⟩
 induction kk generalizing i  with
 | zero =>
  have e0:i=(tb).length:=by omega
  subst e0
  exact .inl ⟨hI,by simp,fun R hg=>hg⟩
 | succ kk ih =>
  obtain ⟨x,hx⟩:=zay (l:=tb) (i:=i) (by omega)
  have h0:decide (((i:Nat):Int) < (((tb.map Tb.cells).length:Nat):Int))=true:=by simp;omega
  have hw:IntKind.i64.wrap (((i:Nat):Int)+1)=((i+1:Nat):Int):=zao i (by first|omega|(simp only [zad,Few] at *;omega))
  let p_1:List St:=[sb h0,se (zah Tb.cells hx rfl)]
  cases h1:ByteArray.toList x.sch.name==ByteArray.toList n
  ·exact (ih (i+1) (by omega) (by exact zmS hI hx (by assumption)) (by omega)).elim (fun ⟨qZ,xZ,gZ⟩=>.inl ⟨qZ,xZ,fun R hg=>zaa (wkl (p_1++[sb h1,si hw]) [1,7,8,9] 0 kr (gZ R hg))⟩) (fun ⟨rY,pZ,gZ⟩=>.inr ⟨rY,pZ,zaa (wkl [sb h0,se (zah Tb.cells hx rfl),sb h1,si hw] [1,7,8,9] 0 kr gZ)⟩)
  ·exact .inr ⟨(i:Int),(by exact zpy hI hx (by assumption)),zaa (wkr (p_1++[sb h1]) kr)⟩
theorem zqf (tb:List Tb) (n:Str) (hl:zad tb):∃ (r:Int),r=idxF (fun t=>zaK t n) tb 0∧zac E0 S.ref9_Find [tsl tb,sv n] [] (iv r) []:=by
 rcases zic tb n (by first|assumption|rfl|omega) 0 (by first|assumption|rfl|omega) (by first|assumption|rfl|omega) with ⟨q1,q1_1,g1⟩|⟨r1_0,p1_0,g1⟩
 ·exact ⟨-1,(by first|assumption|exact zhU (by assumption)),wkc At.ref9_Find [] [1,7,8,9] 0 kr (g1 _ (zaa (wkr [sb q1_1] kr)))⟩
 ·exact ⟨r1_0,(by first|assumption|exact zhU (by assumption)),wkc At.ref9_Find [] [1,7,8,9] 0 kr (g1)⟩
theorem zqu (tb:List Tb) (n:Str) (hl:zad tb):zac E0 S.ref9_Find [tsl tb,sv n] [] (iv (idxF (fun t=>zaK t n) tb 0)) []:=by
 obtain ⟨r,rfl,h⟩:=zqf tb n hl
 exact h
end Go.AM
namespace Go.AM
set_option maxRecDepth 100000
set_option maxHeartbeats 1000000
set_option linter.unusedSimpArgs false
set_option linter.unusedVariables false
abbrev acD (w:Str) (x:X):Ac:=⟨3,w,[],[],[],[x],⟨#[]⟩⟩
abbrev acU (w:Str) (c:Str) (v x:X):Ac:=⟨2,w,[],[],[⟨c,v⟩],[x],⟨#[]⟩⟩
abbrev xOne:X:=xLit ⟨1,1,⟨#[]⟩⟩
abbrev xNotE (e:X):X:=X.mk 3 0 false ⟨0,0,⟨#[]⟩⟩ ⟨#[]⟩ ⟨#[]⟩ [e] []
abbrev xNulE (e:X):X:=X.mk 6 0 false ⟨0,0,⟨#[]⟩⟩ ⟨#[]⟩ ⟨#[]⟩ [e] []
abbrev tcEs (e:X):List X:=[e,xNotE e,xNulE e]
def tcD (m:List Tb) (w:Str) (e:X) (j:Nat):Ch × Int:=zbT (bif j==0 then 5 else 6) (acD w ((tcEs e).getD j e)) [] m
def tcU (m:List Tb) (w:Str) (e:X) (j:Nat):Ch × Int:=zbT (bif j==0 then 5 else 6) (acU w sN xOne ((tcEs e).getD j e)) [] m
theorem zoX {n:Int} {m:List Tb} (h:StoreV n m):zad m:=by have:=congrArg List.length h.schs;simp [zal] at this;simp only [zad];omega
structure TcOk (cd cu:Ch × Int):Prop where
 code:cd.2=cu.2
 ids:cu.1.upd.map Pr.id=cd.1.del
 len:cd.1.del.length≤900
abbrev tcAll (m:List Tb) (w:Str) (e:X) (i:Nat):List Int:=(List.range i).flatMap (fun j=>(tcD m w e j).1.del)
structure TcIn (m:List Tb) (w:Str) (e:X):Prop where
 cd:∀ j x,(tcEs e)[j]?=some x→Pure S.dml_Candidates [(acD w x).av,fsl [],tsl m] (.tup [(tcD m w e j).1.av,iv (tcD m w e j).2])
 cu:∀ j x,(tcEs e)[j]?=some x→Pure S.dml_Candidates [(acU w sN xOne x).av,fsl [],tsl m] (.tup [(tcU m w e j).1.av,iv (tcU m w e j).2])
 ok:∀ j,j < 3→TcOk (tcD m w e j) (tcU m w e j)
 fin:(∀ j,j < 3→(tcD m w e j).2=0)→srt1 (tcAll m w e 3)=(tabC m w).rows.map Rw.id∧(tcAll m w e 3).length≤12
 tab:decide (idxF (fun t=>zaK t w) m 0 < 0)=false
 rows:(tabC m w).rows.length≤1000
end Go.AM
namespace Go.AM
set_option maxRecDepth 100000
set_option maxHeartbeats 1000000
set_option linter.unusedSimpArgs false
set_option linter.unusedVariables false
/- ### sorting -/
/- ### the tables -/
theorem zny {n:Int} {m:List Tb} {w:Str} (h:StoreV n m) (hw:TabN w):decide (idxF (fun t=>zaK t w) m 0 < 0)=false∧tabC m w∈m∧(tabC m w).sch=zaA w∧(zap m w).2=true:=by
 have hs:=h.schs
 match m,hs with
 | [a,b,c],hs =>
  simp only [List.map_cons,List.map_nil,zal,List.cons.injEq,and_true] at hs
  obtain ⟨h1,h2,h3⟩:=hs
  have key:∀ t,t∈[a,b,c]→zbU [a,b,c] w=some t→t.sch=zaA w→decide (idxF (fun t=>zaK t w) [a,b,c] 0 < 0)=false∧tabC [a,b,c] w∈[a,b,c]∧(tabC [a,b,c] w).sch=zaA w∧(zap [a,b,c] w).2=true:=fun t ht hf hsch=>by
   have hr:(zap [a,b,c] w).2=true:=by rw [zeM,hf]
   obtain ⟨k1,k2,k3,k4⟩:=zeA hr
   rw [hf] at k1
   rw [← Option.some.inj k1]
   exact ⟨k4,ht,hsch,hr⟩
  rcases hw with rfl|rfl|rfl
  ·have e1:zaK a ⟨#[116]⟩=false:=by unfold zaK;rw [h1];kernel_rfl
   have e2:zaK b ⟨#[116]⟩=true:=by unfold zaK;rw [h2];kernel_rfl
   exact key b (by simp) (by simp [zbU,e1,e2]) (by rw [h2];kernel_rfl)
  ·have e1:zaK a ⟨#[117]⟩=false:=by unfold zaK;rw [h1];kernel_rfl
   have e2:zaK b ⟨#[117]⟩=false:=by unfold zaK;rw [h2];kernel_rfl
   have e3:zaK c ⟨#[117]⟩=true:=by unfold zaK;rw [h3];kernel_rfl
   exact key c (by simp) (by simp [zbU,e1,e2,e3]) (by rw [h3];kernel_rfl)
  ·have e1:zaK a ⟨#[108,111,103]⟩=true:=by unfold zaK;rw [h1];kernel_rfl
   exact key a (by simp) (by simp [zbU,e1]) (by rw [h1];kernel_rfl)
 | [],hs=>simp [zal] at hs
 | [a],hs=>simp [zal] at hs
 | [a,b],hs=>simp [zal] at hs
 | a::b::c::d::r,hs=>simp [zal] at hs
theorem StoreV.short {n:Int} {m:List Tb} (h:StoreV n m) (hn:n≤1000):∀ x∈m,∀ r∈x.rows,zad r.vals:=fun x hx r hr=>by
 have h1:=((h.rows x hx).fit r hr).len
 have h2:=((h.ok hn).tabs x hx).2.few
 have h3:r.vals.length=x.sch.cols.length:=h1
 simp only [zad,Few] at *;omega
theorem zuI {n:Int} {k:Nat} {a:Ac} {m:List Tb} (h:StoreV n m) (hn:n≤1000) (hk:k≤900) (ha:AcOk k a) (h1:1≤a.kind∧a.kind≤3):DmlIn k a [] m :=
 ⟨ha,h1,zo7 (k+1) (by omega),zrs,(h.ok hn).tbOk,(h.ok hn).tbG,h.short hn⟩
/- ### the codes -/
theorem zjB {tr:Rw→Bool × Int} {a:Ac} {s:Sch} {frs:List Fr} {tb:List Tb} {t:Tb}:∀ (l:List Rw) (i:Nat) (del:List Int),(cndD tr a s frs tb t l i del).2=0→(∀ r∈l,(tr r).2=0)∧(cndD tr a s frs tb t l i del).1.del=del++(l.filter fun r=>(tr r).1).map Rw.id
 | [],i,del,h=>by unfold cndD;simp
 | x::r,i,del,h=>by
  unfold cndD at h ⊢
  cases h1:(tr x).2 != 0
  ·rw [h1] at h
   have h2:(tr x).2=0:=by simpa using h1
   cases h3:(tr x).1
   ·rw [h3] at h
    obtain ⟨a1,a2⟩:=zjB r (i+1) del h
    simp only [Bool.not_false,cond_false,cond_true]
    refine ⟨fun y hy=>?_,by rw [a2];simp [h3]⟩
    rcases List.mem_cons.1 hy with rfl|hy
    ·exact h2
    ·exact a1 y hy
   ·rw [h3] at h
    obtain ⟨a1,a2⟩:=zjB r (i+1) (del++[x.id]) h
    simp only [Bool.not_true,cond_false]
    refine ⟨fun y hy=>?_,by rw [a2];simp [h3]⟩
    rcases List.mem_cons.1 hy with rfl|hy
    ·exact h2
    ·exact a1 y hy
  ·rw [h1] at h;simp at h;simp [h] at h1
/- ### three values -/
end Go.AM
namespace Go.AM
set_option maxRecDepth 100000
set_option maxHeartbeats 1000000
set_option linter.unusedSimpArgs false
set_option linter.unusedVariables false
theorem zlq:∀ {l:List UInt8} {i:Nat} {c:UInt8},zgt l=true→l[i]?=some c→okB c.toNat=true
 | [],i,c,_,h=>by simp at h
 | a::l,0,c,h,hx=>by simp at hx;subst hx;simp only [zgt,Bool.and_eq_true] at h;exact h.1
 | a::l,i+1,c,h,hx=>by simp only [zgt,Bool.and_eq_true] at h;exact zlq h.2 (by simpa using hx)
theorem ztS {v:V} {c:UInt8} {i:Nat} (h:zdB v.text=true) (hx:v.text.data.toList[i]?=some c) (h1:decide (((c.toNat:Nat):Int) < 32)=true):False:=by
 simp only [zdB,Bool.and_eq_true] at h
 have:=zlq h.1 hx
 simp [okB] at this h1;omega
theorem ztX {v:V} {c:UInt8} {i:Nat} (h:zdB v.text=true) (hx:v.text.data.toList[i]?=some c) (h1:decide ((126:Int) < ((c.toNat:Nat):Int))=true):False:=by
 simp only [zdB,Bool.and_eq_true] at h
 have:=zlq h.1 hx
 simp [okB] at this h1;omega
noncomputable def L_rvG (v:V) (i:Nat) :Cfg:=zar B.ref1_Valid 0 [(1,.p 0 0),(3,iv (i:Nat))] [.box [iv v.kind,iv v.int,sv v.text]]
theorem zhw (v:V) (hp:zdB v.text=true) (hs:decide ((64:Int) < ((v.text.size:Nat):Int))=false) (i:Nat)  (hi:i≤(v.text.size)) (hI:True):(True)∧(decide ((((v.text.size):Nat):Int) < (((v.text.size):Nat):Int))=false)∧∀ R,Good E0 B.ref1_Valid [] (L_rvG v v.text.size ) R→Good E0 B.ref1_Valid [] (L_rvG v i ) R:=by
 obtain ⟨kk,hk⟩:∃ kk,i+kk=(v.text.size):=⟨(v.text.size) - i,by omega⟩
 induction kk generalizing i  hI with
 | zero =>
  have e0:i=(v.text.size):=by omega
  subst e0
  exact ⟨hI,by simp,fun R hg=>hg⟩
 | succ kk ih =>
  have h0:decide (((i:Nat):Int) < (((v.text.size):Nat):Int))=true:=by simp;omega
  have hw:IntKind.i64.wrap (((i:Nat):Int)+1)=((i+1:Nat):Int):=zao i (by (simp only [decide_eq_false_iff_not] at hs;omega))
  obtain ⟨c1,b1⟩:=zmg (s:=v.text) (i:=(i:Int)) (by first|omega|(simp only [decide_eq_false_iff_not,decide_eq_true_eq] at *;omega))
  cases h2:decide ((c1.toNat:Int) < 32)
  ·cases h3:decide (126 < (c1.toNat:Int))
   ·obtain ⟨qZ,xZ,gZ⟩:=ih (i+1) (by omega) (by first|trivial|assumption|(simp;done)|omega|(simp;omega)|(simp at *;omega)) (by omega);exact ⟨qZ,xZ,fun R hg=>zaa (wkl [sb h0,sy b1,sg h2,sy b1,sb h3,si hw] [1,3] 1 kr (gZ R hg))⟩
   ·exact False.elim (by first|exact ztS hp (zkS (by assumption)) (by assumption)|exact ztX hp (zkS (by assumption)) (by assumption))
  ·exact False.elim (by first|exact ztS hp (zkS (by assumption)) (by assumption)|exact ztX hp (zkS (by assumption)) (by assumption))
theorem zgY {v:V} (hv:zaM v=true) (h0:(v.kind==0)=false) (h1:(v.kind==1)=false) (h2:(v.kind==2)=false):zdB v.text=true:=by
 unfold zaM at hv;rw [h0,h1,h2] at hv
 cases h3:v.kind==3 <;> rw [h3] at hv
 ·simp at hv
 ·cases h4:v.int==0 <;> rw [h4] at hv
  ·simp at hv
  ·exact hv
theorem zd1 {v:V} (hv:zaM v=true) (h0:(v.kind==0)=true):(ByteArray.toList v.text==(ByteArray.mk #[]).toList)=true:=by
 unfold zaM at hv;rw [h0] at hv
 simp only [cond_true,Bool.and_true,Bool.true_and,Bool.and_eq_true] at hv
 rw [zr8 hv.2];exact beq_self_eq_true _
theorem zd4 {v:V} (hv:zaM v=true) (h0:(v.kind==0)=true) (h1:(v.int==0)=false):False:=by
 unfold zaM at hv;rw [h0,h1] at hv
 simp at hv
theorem zcl {v:V} (hv:zaM v=true) (h0:(v.kind==0)=false) (h1:(v.kind==1)=false) (h2:(v.kind==2)=false) (h:decide ((64:Int) < ((v.text.size:Nat):Int))=true):False:=by
 have hp:=zgY hv h0 h1 h2
 simp only [zdB,Bool.and_eq_true,decide_eq_true_eq] at hp h
 have:=hp.2
 omega
theorem zcX {v:V} (hv:zaM v=true) (h0:(v.kind==0)=false) (h1:(v.kind==1)=false) (h2:(v.kind==2)=false) (h:(v.int != 0)=true):False:=by
 unfold zaM at hv;rw [h0,h1,h2] at hv
 have h5:(v.int==0)=false:=by simpa using h
 rw [h5] at hv;simp at hv
theorem znV (v:V) (hv:zaM v=true):∃ (r:Bool),r=true∧zac E0 S.ref1_Valid [v.av] [] (bv r) []:=by
 cases h1:v.kind==0
 ·cases h2:v.kind==1
  ·cases h3:v.kind==2
   ·cases h4:v.kind==3
    ·exact ⟨false,(by first|rfl|exact zd1 hv (by assumption)|exact (zd4 hv (by assumption) (by assumption)).elim|exact (zcl hv (by assumption) (by assumption) (by assumption) (by assumption)).elim|exact (zcX hv (by assumption) (by assumption) (by assumption) (by assumption)).elim|(exfalso;unfold zaM at hv;simp only [*] at hv;simp at hv;done)|(unfold zaM at hv;simp only [*] at hv;simpa using hv)),wk At.ref1_Valid [sb h1,sb h2,sb h3,sb h4] kr⟩
    ·cases h5:v.int != 0
     ·cases h6:decide (64 < (↑(ByteArray.size v.text):Int))
      ·obtain ⟨q7,q7_1,g7⟩:=zhw v (by first|assumption|omega|exact zgY hv (by assumption) (by assumption) (by assumption)|trivial) (by first|assumption|omega|exact zgY hv (by assumption) (by assumption) (by assumption)|trivial) 0 (by first|assumption|omega|exact zgY hv (by assumption) (by assumption) (by assumption)|trivial) (by first|assumption|omega|exact zgY hv (by assumption) (by assumption) (by assumption)|trivial)
       exact ⟨true,(by first|rfl|exact zd1 hv (by assumption)|exact (zd4 hv (by assumption) (by assumption)).elim|exact (zcl hv (by assumption) (by assumption) (by assumption) (by assumption)).elim|exact (zcX hv (by assumption) (by assumption) (by assumption) (by assumption)).elim|(exfalso;unfold zaM at hv;simp only [*] at hv;simp at hv;done)|(unfold zaM at hv;simp only [*] at hv;simpa using hv)),wkc At.ref1_Valid [sb h1,sb h2,sb h3,sb h4,sg h5,sb h6] [1,3] 1 kr (g7 _ (zaa (wkr [sb q7_1] kr)))⟩
      ·exact ⟨false,(by first|rfl|exact zd1 hv (by assumption)|exact (zd4 hv (by assumption) (by assumption)).elim|exact (zcl hv (by assumption) (by assumption) (by assumption) (by assumption)).elim|exact (zcX hv (by assumption) (by assumption) (by assumption) (by assumption)).elim|(exfalso;unfold zaM at hv;simp only [*] at hv;simp at hv;done)|(unfold zaM at hv;simp only [*] at hv;simpa using hv)),wk At.ref1_Valid [sb h1,sb h2,sb h3,sb h4,sg h5,sb h6] kr⟩
     ·exact ⟨false,(by first|rfl|exact zd1 hv (by assumption)|exact (zd4 hv (by assumption) (by assumption)).elim|exact (zcl hv (by assumption) (by assumption) (by assumption) (by assumption)).elim|exact (zcX hv (by assumption) (by assumption) (by assumption) (by assumption)).elim|(exfalso;unfold zaM at hv;simp only [*] at hv;simp at hv;done)|(unfold zaM at hv;simp only [*] at hv;simpa using hv)),wk At.ref1_Valid [sb h1,sb h2,sb h3,sb h4,sb h5] kr⟩
   ·cases h8:v.int==0
    ·cases h9:v.int==1
     ·exact ⟨false,(by first|rfl|exact zd1 hv (by assumption)|exact (zd4 hv (by assumption) (by assumption)).elim|exact (zcl hv (by assumption) (by assumption) (by assumption) (by assumption)).elim|exact (zcX hv (by assumption) (by assumption) (by assumption) (by assumption)).elim|(exfalso;unfold zaM at hv;simp only [*] at hv;simp at hv;done)|(unfold zaM at hv;simp only [*] at hv;simpa using hv)),wk At.ref1_Valid [sb h1,sb h2,sb h3,sg h8,sb h9] kr⟩
     ·exact ⟨ByteArray.toList v.text==(ByteArray.mk #[]).toList,(by first|rfl|exact zd1 hv (by assumption)|exact (zd4 hv (by assumption) (by assumption)).elim|exact (zcl hv (by assumption) (by assumption) (by assumption) (by assumption)).elim|exact (zcX hv (by assumption) (by assumption) (by assumption) (by assumption)).elim|(exfalso;unfold zaM at hv;simp only [*] at hv;simp at hv;done)|(unfold zaM at hv;simp only [*] at hv;simpa using hv)),wk At.ref1_Valid [sb h1,sb h2,sb h3,sg h8,sg h9] kr⟩
    ·exact ⟨ByteArray.toList v.text==(ByteArray.mk #[]).toList,(by first|rfl|exact zd1 hv (by assumption)|exact (zd4 hv (by assumption) (by assumption)).elim|exact (zcl hv (by assumption) (by assumption) (by assumption) (by assumption)).elim|exact (zcX hv (by assumption) (by assumption) (by assumption) (by assumption)).elim|(exfalso;unfold zaM at hv;simp only [*] at hv;simp at hv;done)|(unfold zaM at hv;simp only [*] at hv;simpa using hv)),wk At.ref1_Valid [sb h1,sb h2,sb h3,sb h8] kr⟩
  ·exact ⟨ByteArray.toList v.text==(ByteArray.mk #[]).toList,(by first|rfl|exact zd1 hv (by assumption)|exact (zd4 hv (by assumption) (by assumption)).elim|exact (zcl hv (by assumption) (by assumption) (by assumption) (by assumption)).elim|exact (zcX hv (by assumption) (by assumption) (by assumption) (by assumption)).elim|(exfalso;unfold zaM at hv;simp only [*] at hv;simp at hv;done)|(unfold zaM at hv;simp only [*] at hv;simpa using hv)),wk At.ref1_Valid [sb h1,sb h2] kr⟩
 ·cases h10:v.int==0
  ·exact ⟨false,(by first|rfl|exact zd1 hv (by assumption)|exact (zd4 hv (by assumption) (by assumption)).elim|exact (zcl hv (by assumption) (by assumption) (by assumption) (by assumption)).elim|exact (zcX hv (by assumption) (by assumption) (by assumption) (by assumption)).elim|(exfalso;unfold zaM at hv;simp only [*] at hv;simp at hv;done)|(unfold zaM at hv;simp only [*] at hv;simpa using hv)),wk At.ref1_Valid [sb h1,sb h10] kr⟩
  ·exact ⟨ByteArray.toList v.text==(ByteArray.mk #[]).toList,(by first|rfl|exact zd1 hv (by assumption)|exact (zd4 hv (by assumption) (by assumption)).elim|exact (zcl hv (by assumption) (by assumption) (by assumption) (by assumption)).elim|exact (zcX hv (by assumption) (by assumption) (by assumption) (by assumption)).elim|(exfalso;unfold zaM at hv;simp only [*] at hv;simp at hv;done)|(unfold zaM at hv;simp only [*] at hv;simpa using hv)),wk At.ref1_Valid [sb h1,sg h10] kr⟩
theorem zlX (v:V) (hv:zaM v=true):zac E0 S.ref1_Valid [v.av] [] (bv true) []:=by
 obtain ⟨r,rfl,h⟩:=znV v hv
 exact h
def fit4 (c:Col) (v:V):Int :=
 bif v.kind==0 then
  bif c.notNull then
   8
  else
   0
 else
  bif v.kind != c.type then
   5
  else
   0
theorem zlg (c:Col) (v:V) (hv:zac E0 S.ref1_Valid [v.av] [] (bv true) []):zac E0 S.ref4_Fits [.agg c.cells,v.av] [] (iv (fit4 c v)) []:=by
 unfold fit4
 cases h1:v.kind==0
 ·let p_1:List St:=[sc hv,sb (rfl:false=false),sb h1]
  cases h2:v.kind != c.type
  ·exact wk At.ref4_Fits (p_1++[sb h2]) kr
  ·exact wk At.ref4_Fits (p_1++[sb h2]) kr
 ·let p_2:List St:=[sc hv,sb (rfl:false=false),sb h1]
  cases h3:c.notNull
  ·exact wk At.ref4_Fits (p_2++[sb h3]) kr
  ·exact wk At.ref4_Fits (p_2++[sb h3]) kr
def fitL:List Col→List V→Int
 | c::cs,v::vs=>bif fit4 c v != 0 then fit4 c v else fitL cs vs
 | _,_=>0
def fit5 (s:Sch) (l:List V):Int:=bif l.length != s.cols.length then 17 else fitL s.cols l
theorem ztw {cs:List Col} {vs:List V} {i:Nat} {c:Col} {v:V} {z:Int} (h:z=fitL (cs.drop i) (vs.drop i)) (hc:cs[i]?=some c) (hv:vs[i]?=some v) (h0:(fit4 c v != 0)=false):z=fitL (cs.drop (i+1)) (vs.drop (i+1)):=by
 rw [zaN hc,zaN hv] at h;rw [h];simp only [fitL,h0,cond_false]
theorem zub {cs:List Col} {vs:List V} {i:Nat} {c:Col} {v:V} {z:Int} (h:z=fitL (cs.drop i) (vs.drop i)) (hc:cs[i]?=some c) (hv:vs[i]?=some v) (h0:(fit4 c v != 0)=true):fit4 c v=z:=by
 rw [zaN hc,zaN hv] at h;rw [h];simp only [fitL,h0,cond_true]
theorem zlk {cs:List Col} {vs:List V} {n:Nat} {z:Int} (h:z=fitL (cs.drop n) (vs.drop n)) (hn:n=cs.length):0=z:=by
 rw [h,hn,List.drop_length];rfl
noncomputable def L_f5 (s:Sch) (l:List V) (i:Nat) :Cfg:=zar B.ref5_Fits 0 [(1,vsl l),(15,.sl (s.cols.map Col.cells)),(16,iv ((s.cols.map Col.cells).length:Nat)),(17,iv (i:Nat))] [.box s.cells]
theorem zi2 (s:Sch) (l:List V) (hs:zad s.cols) (hll:l.length=s.cols.length) (hg:∀ v∈l,v.Good) (i:Nat)  (hi:i≤(s.cols).length) (hI:fitL s.cols l=fitL (s.cols.drop i) (l.drop i)):((fitL s.cols l=fitL (s.cols.drop (s.cols).length) (l.drop (s.cols).length))∧(decide ((((s.cols).length:Nat):Int) < (((s.cols.map Col.cells).length:Nat):Int))=false)∧∀ R,Good E0 B.ref5_Fits [] (L_f5 s l (s.cols).length ) R→Good E0 B.ref5_Fits [] (L_f5 s l i ) R)∨(∃ (r:Int),r=fitL s.cols l∧Good E0 B.ref5_Fits [] (L_f5 s l i ) (Shut 0 fun rZ hZ=>rZ=(iv r)∧hZ=[])):=by
 obtain ⟨kk,hk⟩:∃ kk,i+kk=(s.cols).length:=⟨(s.cols).length - i,by omega⟩
 induction kk generalizing i  with
 | zero =>
  have e0:i=(s.cols).length:=by omega
  subst e0
  exact .inl ⟨hI,by simp,fun R hg=>hg⟩
 | succ kk ih =>
  obtain ⟨x,hx⟩:=zay (l:=s.cols) (i:=i) (by omega)
  have h0:decide (((i:Nat):Int) < (((s.cols.map Col.cells).length:Nat):Int))=true:=by simp;omega
  have hw:IntKind.i64.wrap (((i:Nat):Int)+1)=((i+1:Nat):Int):=zao i (by first|omega|(simp only [zad,Few] at *;omega))
  obtain ⟨y,hy⟩:=zay (l:=l) (i:=i) (by have:=zcj hx;omega);have hyv:=zlX y (hg y (List.mem_of_getElem? hy)).valid
  let p_1:List St:=[sb h0,se (zah Col.cells hx rfl),sd [(3,[se (zah V.cells hy rfl)]),(5,[sc (zlg x y (by first|assumption|omega|(simp;done)|(simp;omega)))])]]
  cases h1:fit4 x y != 0
  ·exact (ih (i+1) (by omega) (by exact ztw hI hx hy (by assumption)) (by omega)).elim (fun ⟨qZ,xZ,gZ⟩=>.inl ⟨qZ,xZ,fun R hg=>zaa (wkl (p_1++[sb h1,si hw]) [1,15,16,17] 1 kr (gZ R hg))⟩) (fun ⟨rY,pZ,gZ⟩=>.inr ⟨rY,pZ,zaa (wkl [sb h0,se (zah Col.cells hx rfl),sd [(3,[se (zah V.cells hy rfl)]),(5,[sc (zlg x y (by first|assumption|omega|(simp;done)|(simp;omega)))])],sb h1,si hw] [1,15,16,17] 1 kr gZ)⟩)
  ·exact .inr ⟨fit4 x y,(by exact zub hI hx hy (by assumption)),zaa (wkr (p_1++[sb h1]) kr)⟩
theorem zqG (s:Sch) (l:List V) (hs:zad s.cols) (hg:∀ v∈l,v.Good):∃ (r:Int),r=fit5 s l∧zac E0 S.ref5_Fits [s.av,vsl l] [] (iv r) []:=by
 cases h1:(↑(List.map V.cells l).length:Int) != (↑(List.map Col.cells s.cols).length:Int)
 ·rcases zi2 s l (by first|assumption|rfl|omega|(simp only [List.length_map] at *;simp at *;omega)) (by first|assumption|rfl|omega|(simp only [List.length_map] at *;simp at *;omega)) (by first|assumption|rfl|omega|(simp only [List.length_map] at *;simp at *;omega)) 0 (by first|assumption|rfl|omega|(simp only [List.length_map] at *;simp at *;omega)) (by first|assumption|rfl|omega|(simp only [List.length_map] at *;simp at *;omega)) with ⟨q2,q2_1,g2⟩|⟨r2_0,p2_0,g2⟩
  ·exact ⟨0,(by first|(unfold fit5;rw [show (l.length != s.cols.length)=false by simp at *;omega];first|assumption|exact zlk (by assumption) rfl)|(unfold fit5;rw [show (l.length != s.cols.length)=true by simp at *;omega];rfl)),wkc At.ref5_Fits [sb h1] [1,15,16,17] 1 kr (g2 _ (zaa (wkr [sb q2_1] kr)))⟩
  ·exact ⟨r2_0,(by first|(unfold fit5;rw [show (l.length != s.cols.length)=false by simp at *;omega];first|assumption|exact zlk (by assumption) rfl)|(unfold fit5;rw [show (l.length != s.cols.length)=true by simp at *;omega];rfl)),wkc At.ref5_Fits [sb h1] [1,15,16,17] 1 kr (g2)⟩
 ·exact ⟨17,(by first|(unfold fit5;rw [show (l.length != s.cols.length)=false by simp at *;omega];first|assumption|exact zlk (by assumption) rfl)|(unfold fit5;rw [show (l.length != s.cols.length)=true by simp at *;omega];rfl)),wk At.ref5_Fits [sb h1] kr⟩
theorem zdV (s:Sch) (l:List V) (hs:zad s.cols) (hg:∀ v∈l,v.Good):zac E0 S.ref5_Fits [s.av,vsl l] [] (iv (fit5 s l)) []:=by
 obtain ⟨r,rfl,h⟩:=zqG s l hs hg
 exact h
noncomputable def zsU (s:Sch) (i:Nat) :Cfg:=zar B.ref4_KeyColumn 0 [(6,.sl (s.cols.map Col.cells)),(7,iv ((s.cols.map Col.cells).length:Nat)),(8,iv (i:Nat))] [.box s.cells]
theorem zfW (s:Sch) (hs:zad s.cols) (i:Nat)  (hi:i≤(s.cols).length) (hI:idxF (fun c=>c.key) s.cols 0=idxF (fun c=>c.key) (s.cols.drop i) i):((idxF (fun c=>c.key) s.cols 0=idxF (fun c=>c.key) (s.cols.drop (s.cols).length) (s.cols).length)∧(decide ((((s.cols).length:Nat):Int) < (((s.cols.map Col.cells).length:Nat):Int))=false)∧∀ R,Good E0 B.ref4_KeyColumn [] (zsU s (s.cols).length ) R→Good E0 B.ref4_KeyColumn [] (zsU s i ) R)∨(∃ (r:Int),r=idxF (fun c=>c.key) s.cols 0∧Good E0 B.ref4_KeyColumn [] (zsU s i ) (Shut 0 fun rZ hZ=>rZ=(iv r)∧hZ=[])):=by
 obtain ⟨kk,hk⟩:∃ kk,i+kk=(s.cols).length:=⟨(s.cols).length - i,by omega⟩
 induction kk generalizing i  with
 | zero =>
  have e0:i=(s.cols).length:=by omega
  subst e0
  exact .inl ⟨hI,by simp,fun R hg=>hg⟩
 | succ kk ih =>
  obtain ⟨x,hx⟩:=zay (l:=s.cols) (i:=i) (by omega)
  have h0:decide (((i:Nat):Int) < (((s.cols.map Col.cells).length:Nat):Int))=true:=by simp;omega
  have hw:IntKind.i64.wrap (((i:Nat):Int)+1)=((i+1:Nat):Int):=zao i (by first|omega|(simp only [zad,Few] at *;omega))
  let p_1:List St:=[sb h0,se (zah Col.cells hx rfl)]
  cases h1:x.key
  ·exact (ih (i+1) (by omega) (by exact zmS hI hx (by assumption)) (by omega)).elim (fun ⟨qZ,xZ,gZ⟩=>.inl ⟨qZ,xZ,fun R hg=>zaa (wkl (p_1++[sb h1,si hw]) [6,7,8] 1 kr (gZ R hg))⟩) (fun ⟨rY,pZ,gZ⟩=>.inr ⟨rY,pZ,zaa (wkl [sb h0,se (zah Col.cells hx rfl),sb h1,si hw] [6,7,8] 1 kr gZ)⟩)
  ·exact .inr ⟨(i:Int),(by exact zpy hI hx (by assumption)),zaa (wkr (p_1++[sb h1]) kr)⟩
theorem zlt (s:Sch) (hs:zad s.cols):∃ (r:Int),r=idxF (fun c=>c.key) s.cols 0∧zac E0 S.ref4_KeyColumn [s.av] [] (iv r) []:=by
 rcases zfW s (by first|assumption|rfl|omega) 0 (by first|assumption|rfl|omega) (by first|assumption|rfl|omega) with ⟨q1,q1_1,g1⟩|⟨r1_0,p1_0,g1⟩
 ·exact ⟨-1,(by first|assumption|exact zhU (by assumption)),wkc At.ref4_KeyColumn [] [6,7,8] 1 kr (g1 _ (zaa (wkr [sb q1_1] kr)))⟩
 ·exact ⟨r1_0,(by first|assumption|exact zhU (by assumption)),wkc At.ref4_KeyColumn [] [6,7,8] 1 kr (g1)⟩
theorem zlm (s:Sch) (hs:zad s.cols):zac E0 S.ref4_KeyColumn [s.av] [] (iv (idxF (fun c=>c.key) s.cols 0)) []:=by
 obtain ⟨r,rfl,h⟩:=zlt s hs
 exact h
noncomputable def L_h7 (l:List Int) (n:Int) (i:Nat) :Cfg:=zar B.ref7_has 0 [(1,iv n),(7,isl l),(8,iv ((l.map zcb).length:Nat)),(9,iv (i:Nat))] []
theorem zje (l:List Int) (n:Int) (hl:zad l) (i:Nat)  (hi:i≤(l).length) (hI:l.any (fun x=>x==n)=(l.drop i).any (fun x=>x==n)):((l.any (fun x=>x==n)=(l.drop (l).length).any (fun x=>x==n))∧(decide ((((l).length:Nat):Int) < (((l.map zcb).length:Nat):Int))=false)∧∀ R,Good E0 B.ref7_has [] (L_h7 l n (l).length ) R→Good E0 B.ref7_has [] (L_h7 l n i ) R)∨(∃ (r:Bool),r=l.any (fun x=>x==n)∧Good E0 B.ref7_has [] (L_h7 l n i ) (Shut 0 fun rZ hZ=>rZ=(bv r)∧hZ=[])):=by
 obtain ⟨kk,hk⟩:∃ kk,i+kk=(l).length:=⟨(l).length - i,by omega⟩
 induction kk generalizing i  with
 | zero =>
  have e0:i=(l).length:=by omega
  subst e0
  exact .inl ⟨hI,by simp,fun R hg=>hg⟩
 | succ kk ih =>
  obtain ⟨x,hx⟩:=zay (l:=l) (i:=i) (by omega)
  have h0:decide (((i:Nat):Int) < (((l.map zcb).length:Nat):Int))=true:=by simp;omega
  have hw:IntKind.i64.wrap (((i:Nat):Int)+1)=((i+1:Nat):Int):=zao i (by first|omega|(simp only [zad,Few] at *;omega))
  let p_1:List St:=[sb h0,se (zah (fun n=>[iv n]) hx rfl)]
  cases h1:x==n
  ·exact (ih (i+1) (by omega) (by (rw [hI,zaN hx];simp only [List.any_cons, *,Bool.false_or])) (by omega)).elim (fun ⟨qZ,xZ,gZ⟩=>.inl ⟨qZ,xZ,fun R hg=>zaa (wkl (p_1++[sb h1,si hw]) [1,7,8,9] 0 kr (gZ R hg))⟩) (fun ⟨rY,pZ,gZ⟩=>.inr ⟨rY,pZ,zaa (wkl [sb h0,se (zah (fun n=>[iv n]) hx rfl),sb h1,si hw] [1,7,8,9] 0 kr gZ)⟩)
  ·exact .inr ⟨true,(by (rw [hI,zaN hx];simp only [List.any_cons, *,Bool.true_or])),zaa (wkr (p_1++[sb h1]) kr)⟩
theorem zs0 (l:List Int) (n:Int) (hl:zad l):∃ (r:Bool),r=l.any (fun x=>x==n)∧zac E0 S.ref7_has [isl l,iv n] [] (bv r) []:=by
 rcases zje l n (by first|assumption|rfl|omega) 0 (by first|assumption|rfl|omega) (by first|assumption|rfl|omega) with ⟨q1,q1_1,g1⟩|⟨r1_0,p1_0,g1⟩
 ·exact ⟨false,(by first|assumption|(rw [‹List.any _ _=List.any _ _›,List.drop_length];rfl)),wkc At.ref7_has [] [1,7,8,9] 0 kr (g1 _ (zaa (wkr [sb q1_1] kr)))⟩
 ·exact ⟨r1_0,(by first|assumption|(rw [‹List.any _ _=List.any _ _›,List.drop_length];rfl)),wkc At.ref7_has [] [1,7,8,9] 0 kr (g1)⟩
theorem zsy (l:List Int) (n:Int) (hl:zad l):zac E0 S.ref7_has [isl l,iv n] [] (bv (l.any (fun x=>x==n))) []:=by
 obtain ⟨r,rfl,h⟩:=zs0 l n hl
 exact h
def fnd7 (n:Int):List Pr→List V × Bool
 | []=>([],false)
 | p::r=>bif p.id==n then (p.nw,true) else fnd7 n r
noncomputable def L_f7 (l:List Pr) (n:Int) (i:Nat) :Cfg:=zar B.ref7_find 0 [(1,iv n),(8,.sl (l.map Pr.cells)),(9,iv ((l.map Pr.cells).length:Nat)),(10,iv (i:Nat))] []
theorem zi6 (l:List Pr) (n:Int) (hl:zad l) (i:Nat)  (hi:i≤(l).length) (hI:fnd7 n l=fnd7 n (l.drop i)):((fnd7 n l=fnd7 n (l.drop (l).length))∧(decide ((((l).length:Nat):Int) < (((l.map Pr.cells).length:Nat):Int))=false)∧∀ R,Good E0 B.ref7_find [] (L_f7 l n (l).length ) R→Good E0 B.ref7_find [] (L_f7 l n i ) R)∨(∃ (v:List V) (r:Bool),(v,r)=fnd7 n l∧Good E0 B.ref7_find [] (L_f7 l n i ) (Shut 0 fun rZ hZ=>rZ=(.tup [vsl v,bv r])∧hZ=[])):=by
 obtain ⟨kk,hk⟩:∃ kk,i+kk=(l).length:=⟨(l).length - i,by omega⟩
 induction kk generalizing i  with
 | zero =>
  have e0:i=(l).length:=by omega
  subst e0
  exact .inl ⟨hI,by simp,fun R hg=>hg⟩
 | succ kk ih =>
  obtain ⟨x,hx⟩:=zay (l:=l) (i:=i) (by omega)
  have h0:decide (((i:Nat):Int) < (((l.map Pr.cells).length:Nat):Int))=true:=by simp;omega
  have hw:IntKind.i64.wrap (((i:Nat):Int)+1)=((i+1:Nat):Int):=zao i (by first|omega|(simp only [zad,Few] at *;omega))
  let p_1:List St:=[sb h0,se (zah Pr.cells hx rfl)]
  cases h1:x.id==n
  ·exact (ih (i+1) (by omega) (by (rw [hI,zaN hx];simp only [fnd7, *,cond_false])) (by omega)).elim (fun ⟨qZ,xZ,gZ⟩=>.inl ⟨qZ,xZ,fun R hg=>zaa (wkl (p_1++[sb h1,si hw]) [1,8,9,10] 0 kr (gZ R hg))⟩) (fun ⟨vY,rY,pZ,gZ⟩=>.inr ⟨vY,rY,pZ,zaa (wkl [sb h0,se (zah Pr.cells hx rfl),sb h1,si hw] [1,8,9,10] 0 kr gZ)⟩)
  ·exact .inr ⟨x.nw,true,(by (rw [hI,zaN hx];simp only [fnd7, *,cond_true])),zaa (wkr (p_1++[sb h1]) kr)⟩
theorem zqv (l:List Pr) (n:Int) (hl:zad l):∃ (v:List V) (r:Bool),(v,r)=fnd7 n l∧zac E0 S.ref7_find [.sl (l.map Pr.cells),iv n] [] (.tup [vsl v,bv r]) []:=by
 rcases zi6 l n (by first|assumption|rfl|omega) 0 (by first|assumption|rfl|omega) (by first|assumption|rfl|omega) with ⟨q1,q1_1,g1⟩|⟨r1_0,r1_1,p1_0,g1⟩
 ·exact ⟨[],false,(by first|assumption|(rw [‹fnd7 _ _=fnd7 _ _›,List.drop_length];rfl)),wkc At.ref7_find [] [1,8,9,10] 0 kr (g1 _ (zaa (wkr [sb q1_1] kr)))⟩
 ·exact ⟨r1_0,r1_1,(by first|assumption|(rw [‹fnd7 _ _=fnd7 _ _›,List.drop_length];rfl)),wkc At.ref7_find [] [1,8,9,10] 0 kr (g1)⟩
theorem zqA (l:List Pr) (n:Int) (hl:zad l):zac E0 S.ref7_find [.sl (l.map Pr.cells),iv n] [] (.tup [vsl (fnd7 n l).1,bv (fnd7 n l).2]) []:=by
 obtain ⟨v,r,h,h2⟩:=zqv l n hl
 rw [← h];exact h2
end Go.AM
namespace Go.AM
set_option maxRecDepth 100000
set_option maxHeartbeats 1000000
set_option linter.unusedSimpArgs false
set_option linter.unusedVariables false
abbrev itI (n:Int):AV × AV:=(iv n,bv true)
abbrev anyI (ks:List Int) (n:Int):Bool:=ks.any fun x=>x==n
theorem zhm (n m:Int):zcC (iv n) (iv m) (n==m):=⟨false,[.int .i64 n],[.int .i64 m],rfl,rfl,by simp [zbi,zc4]⟩
theorem ziQ {ks:List Int} {n:Int}:anyI ks n=true↔n∈ks:=by
 simp [anyI]
theorem zvn {ks:List Int} {n:Int} (h:anyI ks n=false):n ∉ ks:=fun hm=>by rw [ziQ.2 hm] at h;cases h
theorem zri (ks:List Int) (n:Int) (h:anyI ks n=false):PutAt (ks.map itI) (iv n) (bv true) ((ks++[n]).map itI):=by
 refine .new (fun p hp=>?_) ?_
 ·obtain ⟨m,hm,rfl⟩:=List.mem_map.1 hp
  have h1:=zhm n m
  rwa [show (n==m)=false by simp;rintro rfl;exact zvn h hm] at h1
 ·rw [List.map_append];exact List.perm_append_comm
theorem lookI (ks:List Int) (n:Int):LookAt (ks.map itI) (iv n) (bif anyI ks n then some (bv true) else none) where
 all:=fun p hp=>by obtain ⟨m,hm,rfl⟩:=List.mem_map.1 hp;exact ⟨_,zhm n m⟩
 at_:=fun p hp h=>by
  obtain ⟨m,hm,rfl⟩:=List.mem_map.1 hp
  have h1:(n==m)=true:=zcC.det (zhm n m) h
  have h2:n=m:=by simpa using h1
  have:n∈ks:=h2 ▸ hm
  rw [ziQ.2 this];rfl
 some_:=fun x hx=>by
  cases h:anyI ks n
  ·rw [h] at hx;cases hx
  ·have hm:=ziQ.1 h
   refine ⟨itI n,List.mem_map.2 ⟨n,hm,rfl⟩,?_⟩
   have:=zhm n n;rwa [beq_self_eq_true] at this
theorem zuY (ks:List Int) (n:Int):LookV (ks.map itI) (iv n) (.bl false) (bv (anyI ks n)) :=
 ⟨_,lookI ks n,by cases anyI ks n <;> first|exact .inr rfl|exact .inl rfl⟩
/- values -/
abbrev itV (v:V):AV × AV:=(v.av,bv true)
def eqV (a b:V):Bool:=a.kind==b.kind&&(a.int==b.int&&(a.text==b.text&&true))
theorem zkz {a b:V}:eqV a b=true↔a=b:=by
 obtain ⟨k,i,t⟩:=a;obtain ⟨k',i',t'⟩:=b
 constructor
 ·intro h
  simp only [eqV,Bool.and_eq_true,Bool.and_true,beq_iff_eq] at h
  obtain ⟨rfl,rfl,h⟩:=h
  rw [zr8 h]
 ·intro h;cases h;simp [eqV,zq9]
abbrev anyV (ks:List V) (n:V):Bool:=ks.any fun x=>eqV n x
theorem zkw (n m:V):zcC n.av m.av (eqV n m):=⟨true,[.int .i64 n.kind,.int .i64 n.int,.string n.text],[.int .i64 m.kind,.int .i64 m.int,.string m.text],rfl,rfl,by simp [zbi,zc4,eqV]⟩
theorem ziE {ks:List V} {n:V}:anyV ks n=true↔n∈ks:=by
 simp only [anyV,List.any_eq_true,zkz]
 constructor
 ·rintro ⟨x,hx,rfl⟩;exact hx
 ·intro h;exact ⟨n,h,rfl⟩
theorem zqW {ks:List V} {n:V} (h:anyV ks n=false):n ∉ ks:=fun hm=>by rw [ziE.2 hm] at h;cases h
theorem zrt (ks:List V) (n:V) (h:anyV ks n=false):PutAt (ks.map itV) n.av (bv true) ((ks++[n]).map itV):=by
 refine .new (fun p hp=>?_) ?_
 ·obtain ⟨m,hm,rfl⟩:=List.mem_map.1 hp
  have h1:=zkw n m
  have h2:eqV n m=false:=by
   cases he:eqV n m
   ·rfl
   ·exact absurd (zkz.1 he ▸ hm) (zqW h)
  rwa [h2] at h1
 ·rw [List.map_append];exact List.perm_append_comm
theorem lookV (ks:List V) (n:V):LookAt (ks.map itV) n.av (bif anyV ks n then some (bv true) else none) where
 all:=fun p hp=>by obtain ⟨m,hm,rfl⟩:=List.mem_map.1 hp;exact ⟨_,zkw n m⟩
 at_:=fun p hp h=>by
  obtain ⟨m,hm,rfl⟩:=List.mem_map.1 hp
  have h1:eqV n m=true:=zcC.det (zkw n m) h
  have:n∈ks:=zkz.1 h1 ▸ hm
  rw [ziE.2 this];rfl
 some_:=fun x hx=>by
  cases h:anyV ks n
  ·rw [h] at hx;cases hx
  ·have hm:=ziE.1 h
   refine ⟨itV n,List.mem_map.2 ⟨n,hm,rfl⟩,?_⟩
   have:=zkw n n;rwa [zkz.2 rfl] at this
theorem zlx (ks:List V) (n:V):LookV (ks.map itV) n.av (.bl false) (bv (anyV ks n)) :=
 ⟨_,lookV ks n,by cases anyV ks n <;> first|exact .inr rfl|exact .inl rfl⟩
def zdp (kc:Int) (r:Rw):Option V:=bif decide (0≤kc)&&decide (kc < ((r.vals.map V.cells).length:Int)) then some (zaG r.vals kc) else none
def zbE (kc:Int) (l:List Rw):List V:=l.filterMap (zdp kc)
theorem zjP {kc:Int} {l:List Rw} {i:Nat} {x:Rw} (hx:l[i]?=some x):zbE kc (l.take (i+1))=zbE kc (l.take i)++(zdp kc x).toList:=by
 unfold zbE
 rw [List.take_add_one,hx,List.filterMap_append]
 cases h:zdp kc x <;> simp [h]
theorem zgi {kc:Int} {l:List Rw} {i:Nat} {x:Rw} {ks:List V} (hI:ks=zbE kc (l.take i)∧ks.Nodup) (hx:l[i]?=some x) (h:zdp kc x=none):ks=zbE kc (l.take (i+1))∧ks.Nodup:=by
 rw [zjP hx,h];simpa using hI
theorem zpD {kc:Int} {l:List Rw} {i:Nat} {x:Rw} {ks:List V} {v:V} (hI:ks=zbE kc (l.take i)∧ks.Nodup) (hx:l[i]?=some x) (h:zdp kc x=some v) (hn:anyV ks v=false):ks++[v]=zbE kc (l.take (i+1))∧(ks++[v]).Nodup:=by
 rw [zjP hx,h]
 refine ⟨by rw [hI.1];rfl,?_⟩
 rw [List.nodup_append]
 exact ⟨hI.2,by simp,fun a ha b hb=>by simp only [List.mem_singleton] at hb;subst hb;rintro rfl;exact zqW hn ha⟩
theorem du_dup {kc:Int} {l:List Rw} {i:Nat} {x:Rw} {ks:List V} {v:V} (hI:ks=zbE kc (l.take i)∧ks.Nodup) (hx:l[i]?=some x) (h:zdp kc x=some v) (hn:anyV ks v=true):¬ (zbE kc l).Nodup:=by
 intro hd
 have h1:zbE kc l=zbE kc (l.take (i+1))++zbE kc (l.drop (i+1)):=by unfold zbE;rw [← List.filterMap_append,List.take_append_drop]
 rw [h1,zjP hx,h] at hd
 have h2:=(List.nodup_append.1 hd).1
 have h3:=(List.nodup_append.1 h2).2.2 v (by rw [← hI.1];exact ziE.1 hn) v (by simp)
 exact h3 rfl
theorem zm5 {kc:Int} {x:Rw} (h:decide ((0:Int)≤kc)=false):zdp kc x=none:=by simp only [zdp,h,Bool.false_and,cond_false]
theorem zmZ {kc:Int} {x:Rw} (h:decide (kc < ((x.vals.map V.cells).length:Int))=false):zdp kc x=none:=by simp only [zdp,h,Bool.and_false,cond_false]
theorem zkF {kc:Int} {x:Rw} (h:decide ((0:Int)≤kc)=true) (h2:decide (kc < ((x.vals.map V.cells).length:Int))=true):zdp kc x=some (zaG x.vals kc):=by simp only [zdp,h,h2,Bool.and_self,cond_true]
noncomputable def L_du (t:Tb) (kc:Int) (i:Nat) (ks:List V):Cfg:=zar B.ref6_Duplicate 0 [(3,iv kc),(4,.mp 1),(12,.sl (t.rows.map Rw.cells)),(13,iv ((t.rows.map Rw.cells).length:Nat)),(14,iv (i:Nat))] [.box t.cells,.mp (ks.map itV)]
theorem zf9 (t:Tb) (kc:Int) (hs:zad t.rows) (i:Nat) (ks:List V) (hi:i≤(t.rows).length) (hI:ks=zbE kc (t.rows.take i)∧ks.Nodup):(∃ (ks':List V),(ks'=zbE kc (t.rows.take (t.rows).length)∧ks'.Nodup)∧(decide ((((t.rows).length:Nat):Int) < (((t.rows.map Rw.cells).length:Nat):Int))=false)∧∀ R,Good E0 B.ref6_Duplicate [] (L_du t kc (t.rows).length ks') R→Good E0 B.ref6_Duplicate [] (L_du t kc i ks) R)∨(∃ (r:Bool),(r=true∧¬ (zbE kc t.rows).Nodup)∧Good E0 B.ref6_Duplicate [] (L_du t kc i ks) (Shut 0 fun rZ hZ=>rZ=(bv r)∧hZ=[])):=by
 obtain ⟨kk,hk⟩:∃ kk,i+kk=(t.rows).length:=⟨(t.rows).length - i,by omega⟩
 induction kk generalizing i ks with
 | zero =>
  have e0:i=(t.rows).length:=by omega
  subst e0
  exact .inl ⟨ks,hI,by simp,fun R hg=>hg⟩
 | succ kk ih =>
  obtain ⟨x,hx⟩:=zay (l:=t.rows) (i:=i) (by omega)
  have h0:decide (((i:Nat):Int) < (((t.rows.map Rw.cells).length:Nat):Int))=true:=by simp;omega
  have hw:IntKind.i64.wrap (((i:Nat):Int)+1)=((i+1:Nat):Int):=zao i (by first|omega|(simp only [zad,Few] at *;omega))
  cases h1:decide (0≤kc)
  ·exact (ih (i+1) ks (by omega) (by first|exact zgi hI hx (zm5 (by assumption))|exact zgi hI hx (zmZ (by assumption))|exact zpD hI hx (zkF (by assumption) (by assumption)) (by assumption)) (by omega)).elim (fun ⟨ksZ,qZ,xZ,gZ⟩=>.inl ⟨ksZ,qZ,xZ,fun R hg=>zaa (wkl [sb h0,se (zah Rw.cells hx rfl),sb h1,si hw] [3,4,12,13,14] 2 kr (gZ R hg))⟩) (fun ⟨rY,pZ,gZ⟩=>.inr ⟨rY,pZ,zaa (wkl [sb h0,se (zah Rw.cells hx rfl),sb h1,si hw] [3,4,12,13,14] 2 kr gZ)⟩)
  ·cases h2:decide (kc < (↑(List.map V.cells x.vals).length:Int))
   ·exact (ih (i+1) ks (by omega) (by first|exact zgi hI hx (zm5 (by assumption))|exact zgi hI hx (zmZ (by assumption))|exact zpD hI hx (zkF (by assumption) (by assumption)) (by assumption)) (by omega)).elim (fun ⟨ksZ,qZ,xZ,gZ⟩=>.inl ⟨ksZ,qZ,xZ,fun R hg=>zaa (wkl [sb h0,se (zah Rw.cells hx rfl),sg h1,sb h2,si hw] [3,4,12,13,14] 2 kr (gZ R hg))⟩) (fun ⟨rY,pZ,gZ⟩=>.inr ⟨rY,pZ,zaa (wkl [sb h0,se (zah Rw.cells hx rfl),sg h1,sb h2,si hw] [3,4,12,13,14] 2 kr gZ)⟩)
   ·cases h3:anyV ks (zaG x.vals kc)
    ·exact (ih (i+1) (ks++[zaG x.vals kc]) (by omega) (by first|exact zgi hI hx (zm5 (by assumption))|exact zgi hI hx (zmZ (by assumption))|exact zpD hI hx (zkF (by assumption) (by assumption)) (by assumption)) (by omega)).elim (fun ⟨ksZ,qZ,xZ,gZ⟩=>.inl ⟨ksZ,qZ,xZ,fun R hg=>zaa (wkl [sb h0,se (zah Rw.cells hx rfl),sg h1,sb h2,se (zdX x.vals kc (by first|assumption|omega|(simp only [decide_eq_false_iff_not,decide_eq_true_eq,List.length_map] at *;omega)|(simp;done)) (by first|assumption|omega|(simp only [decide_eq_false_iff_not,decide_eq_true_eq,List.length_map] at *;omega)|(simp;done))),sx (.el [bv (anyV ks (zaG x.vals kc))]) (And.intro (zdf ((zaG x.vals kc).kind) ((zaG x.vals kc).int) ((zaG x.vals kc).text)) (zlx ks (zaG x.vals kc))),sb h3,se (zdX x.vals kc (by first|assumption|omega|(simp only [decide_eq_false_iff_not,decide_eq_true_eq,List.length_map] at *;omega)|(simp;done)) (by first|assumption|omega|(simp only [decide_eq_false_iff_not,decide_eq_true_eq,List.length_map] at *;omega)|(simp;done))),sx (.call [] .un [.mp (List.map itV (ks++[zaG x.vals kc]))]) (And.intro (zdf ((zaG x.vals kc).kind) ((zaG x.vals kc).int) ((zaG x.vals kc).text)) (zrt ks (zaG x.vals kc) (by first|assumption|omega|(simp only [decide_eq_false_iff_not,decide_eq_true_eq,List.length_map] at *;omega)|(simp;done)))),si hw] [3,4,12,13,14] 2 kr (gZ R hg))⟩) (fun ⟨rY,pZ,gZ⟩=>.inr ⟨rY,pZ,zaa (wkl [sb h0,se (zah Rw.cells hx rfl),sg h1,sb h2,se (zdX x.vals kc (by first|assumption|omega|(simp only [decide_eq_false_iff_not,decide_eq_true_eq,List.length_map] at *;omega)|(simp;done)) (by first|assumption|omega|(simp only [decide_eq_false_iff_not,decide_eq_true_eq,List.length_map] at *;omega)|(simp;done))),sx (.el [bv (anyV ks (zaG x.vals kc))]) (And.intro (zdf ((zaG x.vals kc).kind) ((zaG x.vals kc).int) ((zaG x.vals kc).text)) (zlx ks (zaG x.vals kc))),sb h3,se (zdX x.vals kc (by first|assumption|omega|(simp only [decide_eq_false_iff_not,decide_eq_true_eq,List.length_map] at *;omega)|(simp;done)) (by first|assumption|omega|(simp only [decide_eq_false_iff_not,decide_eq_true_eq,List.length_map] at *;omega)|(simp;done))),sx (.call [] .un [.mp (List.map itV (ks++[zaG x.vals kc]))]) (And.intro (zdf ((zaG x.vals kc).kind) ((zaG x.vals kc).int) ((zaG x.vals kc).text)) (zrt ks (zaG x.vals kc) (by first|assumption|omega|(simp only [decide_eq_false_iff_not,decide_eq_true_eq,List.length_map] at *;omega)|(simp;done)))),si hw] [3,4,12,13,14] 2 kr gZ)⟩)
    ·exact .inr ⟨true,(by exact ⟨rfl,du_dup hI hx (zkF (by assumption) (by assumption)) (by assumption)⟩),zaa (wkr [sb h0,se (zah Rw.cells hx rfl),sg h1,sb h2,se (zdX x.vals kc (by first|assumption|omega|(simp only [decide_eq_false_iff_not,decide_eq_true_eq,List.length_map] at *;omega)|(simp;done)) (by first|assumption|omega|(simp only [decide_eq_false_iff_not,decide_eq_true_eq,List.length_map] at *;omega)|(simp;done))),sx (.el [bv (anyV ks (zaG x.vals kc))]) (And.intro (zdf ((zaG x.vals kc).kind) ((zaG x.vals kc).int) ((zaG x.vals kc).text)) (zlx ks (zaG x.vals kc))),sb h3] kr)⟩
theorem zgQ (t:Tb) (hs:zad t.sch.cols) (hr:zad t.rows):∃ (b:Bool),(b=false↔(zbE (idxF (fun c=>c.key) t.sch.cols 0) t.rows).Nodup)∧zac E0 S.ref6_Duplicate [t.av] [] (bv b) []:=by
 let p_1:List St:=[sc (zlm t.sch (by first|assumption|omega|exact ⟨rfl,by simp⟩|(simp;done)))]
 rcases zf9 t (idxF (fun c=>c.key) t.sch.cols 0) (by first|assumption|omega|exact ⟨rfl,by simp⟩|(simp;done)) 0 ([]) (by first|assumption|omega|exact ⟨rfl,by simp⟩|(simp;done)) (by first|assumption|omega|exact ⟨rfl,by simp⟩|(simp;done)) with ⟨ks1,q1,q1_1,g1⟩|⟨r1_0,p1_0,g1⟩
 ·exact ⟨false,(by first|(have hq1:=‹_=zbE _ _∧List.Nodup _›;rw [List.take_length] at hq1;exact ⟨fun _=>hq1.1 ▸ hq1.2,fun _=>rfl⟩)|(have hq1:=‹_=true∧¬ List.Nodup _›;rw [hq1.1];exact ⟨fun h=>(by cases h),fun h=>absurd h hq1.2⟩)),wkc At.ref6_Duplicate p_1 [3,4,12,13,14] 2 kr (g1 _ (zaa (wkr [sb q1_1] kr)))⟩
 ·exact ⟨r1_0,(by first|(have hq1:=‹_=zbE _ _∧List.Nodup _›;rw [List.take_length] at hq1;exact ⟨fun _=>hq1.1 ▸ hq1.2,fun _=>rfl⟩)|(have hq1:=‹_=true∧¬ List.Nodup _›;rw [hq1.1];exact ⟨fun h=>(by cases h),fun h=>absurd h hq1.2⟩)),wkc At.ref6_Duplicate p_1 [3,4,12,13,14] 2 kr (g1)⟩
end Go.AM
namespace Go.AM
set_option maxRecDepth 100000
set_option maxHeartbeats 1000000
set_option linter.unusedSimpArgs false
set_option linter.unusedVariables false
noncomputable def zr0 (s:Sch) (n:Str) (i:Nat) :Cfg:=zar B.ref4_Find 0 [(1,sv n),(8,.sl (s.cols.map Col.cells)),(9,iv ((s.cols.map Col.cells).length:Nat)),(10,iv (i:Nat))] [.box s.cells]
theorem zh5 (s:Sch) (n:Str) (h:zad s.cols) (i:Nat)  (hi:i≤(s.cols).length) (hI:idxF (fun c=>colC c n) s.cols 0=idxF (fun c=>colC c n) (s.cols.drop i) i):((idxF (fun c=>colC c n) s.cols 0=idxF (fun c=>colC c n) (s.cols.drop (s.cols).length) (s.cols).length)∧(decide ((((s.cols).length:Nat):Int) < (((s.cols.map Col.cells).length:Nat):Int))=false)∧∀ R,Good E0 B.ref4_Find [] (zr0 s n (s.cols).length ) R→Good E0 B.ref4_Find [] (zr0 s n i ) R)∨(∃ (r:Int),r=idxF (fun c=>colC c n) s.cols 0∧Good E0 B.ref4_Find [] (zr0 s n i ) (Shut 0 fun rZ hZ=>rZ=(iv r)∧hZ=[])):=by
 obtain ⟨kk,hk⟩:∃ kk,i+kk=(s.cols).length:=⟨(s.cols).length - i,by omega⟩
 induction kk generalizing i  with
 | zero =>
  have e0:i=(s.cols).length:=by omega
  subst e0
  exact .inl ⟨hI,by simp,fun R hg=>hg⟩
 | succ kk ih =>
  obtain ⟨x,hx⟩:=zay (l:=s.cols) (i:=i) (by omega)
  have h0:decide (((i:Nat):Int) < (((s.cols.map Col.cells).length:Nat):Int))=true:=by simp;omega
  have hw:IntKind.i64.wrap (((i:Nat):Int)+1)=((i+1:Nat):Int):=zao i (by first|omega|(simp only [zad,Few] at *;omega))
  let p_1:List St:=[sb h0,se (zah Col.cells hx rfl)]
  cases h1:ByteArray.toList x.name==ByteArray.toList n
  ·exact (ih (i+1) (by omega) (by exact zmS hI hx (by assumption)) (by omega)).elim (fun ⟨qZ,xZ,gZ⟩=>.inl ⟨qZ,xZ,fun R hg=>zaa (wkl (p_1++[sb h1,si hw]) [1,8,9,10] 1 kr (gZ R hg))⟩) (fun ⟨rY,pZ,gZ⟩=>.inr ⟨rY,pZ,zaa (wkl [sb h0,se (zah Col.cells hx rfl),sb h1,si hw] [1,8,9,10] 1 kr gZ)⟩)
  ·exact .inr ⟨(i:Int),(by exact zpy hI hx (by assumption)),zaa (wkr (p_1++[sb h1]) kr)⟩
theorem zp5 (s:Sch) (n:Str) (hs:zad s.cols):∃ (r:Int),r=idxF (fun c=>colC c n) s.cols 0∧zac E0 S.ref4_Find [s.av,sv n] [] (iv r) []:=by
 rcases zh5 s n (by first|assumption|rfl|omega) 0 (by first|assumption|rfl|omega) (by first|assumption|rfl|omega) with ⟨q1,q1_1,g1⟩|⟨r1_0,p1_0,g1⟩
 ·exact ⟨-1,(by first|assumption|exact zhU (by assumption)),wkc At.ref4_Find [] [1,8,9,10] 1 kr (g1 _ (zaa (wkr [sb q1_1] kr)))⟩
 ·exact ⟨r1_0,(by first|assumption|exact zhU (by assumption)),wkc At.ref4_Find [] [1,8,9,10] 1 kr (g1)⟩
theorem zlh (s:Sch) (n:Str) (hs:zad s.cols):zac E0 S.ref4_Find [s.av,sv n] [] (iv (idxF (fun c=>colC c n) s.cols 0)) []:=by
 obtain ⟨r,rfl,h⟩:=zp5 s n hs
 exact h
structure ColV (s:Sch) (i:Nat) (x:Col):Prop where
 name:(!zaP x.name)=false
 lo:decide (x.type < 1)=false
 hi:decide ((3:Int) < x.type)=false
 key:x.key=true→x.notNull=true
 at_:(idxF (fun c=>colC c x.name) s.cols 0 != ((i:Nat):Int))=false
structure SchV (s:Sch):Prop where
 name:(!zaP s.name)=false
 lo:decide (((s.cols.map Col.cells).length:Int) < 1)=false
 hi:decide ((6:Int) < ((s.cols.map Col.cells).length:Int))=false
 cols:∀ i x,s.cols[i]?=some x→ColV s i x
 keys:s.cols.countP (fun c=>c.key)≤1
theorem SchV.short {s:Sch} (h:SchV s):zad s.cols:=by have:=h.hi;simp only [List.length_map,decide_eq_false_iff_not] at this;simp only [zad];omega
theorem znC {l:List Col} {i k:Nat} {x:Col} (h:k=(l.take i).countP (fun c=>c.key)) (hx:l[i]?=some x) (hk:x.key=true):k+1=(l.take (i+1)).countP (fun c=>c.key):=by
 rw [List.take_add_one,hx,List.countP_append,h];simp [hk]
theorem znG {l:List Col} {i k:Nat} {x:Col} (h:k=(l.take i).countP (fun c=>c.key)) (hx:l[i]?=some x) (hk:x.key=false):k=(l.take (i+1)).countP (fun c=>c.key):=by
 rw [List.take_add_one,hx,List.countP_append,h];simp [hk]
noncomputable def L_sv4 (s:Sch) (i:Nat) (keys:Nat):Cfg:=zar B.ref4_Valid 0 [(1,.p 0 0),(3,iv (keys:Nat)),(23,.sl (s.cols.map Col.cells)),(24,iv ((s.cols.map Col.cells).length:Nat)),(25,iv (i:Nat))] [.box s.cells]
theorem zhs (s:Sch) (hs:zad s.cols) (hv:SchV s) (i:Nat) (keys:Nat) (hi:i≤(s.cols).length) (hI:keys=(s.cols.take i).countP (fun c=>c.key)):∃ (keys':Nat),(keys'=(s.cols.take (s.cols).length).countP (fun c=>c.key))∧(decide ((((s.cols).length:Nat):Int) < (((s.cols.map Col.cells).length:Nat):Int))=false)∧∀ R,Good E0 B.ref4_Valid [] (L_sv4 s (s.cols).length keys') R→Good E0 B.ref4_Valid [] (L_sv4 s i keys) R:=by
 obtain ⟨kk,hk⟩:∃ kk,i+kk=(s.cols).length:=⟨(s.cols).length - i,by omega⟩
 induction kk generalizing i keys with
 | zero =>
  have e0:i=(s.cols).length:=by omega
  subst e0
  exact ⟨keys,hI,by simp,fun R hg=>hg⟩
 | succ kk ih =>
  obtain ⟨x,hx⟩:=zay (l:=s.cols) (i:=i) (by omega)
  have h0:decide (((i:Nat):Int) < (((s.cols.map Col.cells).length:Nat):Int))=true:=by simp;omega
  have hw:IntKind.i64.wrap (((i:Nat):Int)+1)=((i+1:Nat):Int):=zao i (by first|omega|(simp only [zad,Few] at *;omega))
  obtain ⟨a1,a2,a3,a4,a5⟩:=hv.cols i x hx;have hkl:keys≤1000:=(by have h1:=List.countP_le_length (p:=fun c:Col=>c.key) (l:=s.cols.take i);have h2:=hv.hi;simp only [List.length_map,decide_eq_false_iff_not] at h2;rw [← hI,List.length_take] at h1;omega)
  let p_1:List St:=[sb h0,se (zah Col.cells hx rfl),sc (ze1 x.name),sg a1,sg a2,sg a3]
  cases h1:x.key
  ·obtain ⟨keysZ,qZ,xZ,gZ⟩:=ih (i+1) keys (by omega) (by first|exact znC hI hx (by assumption)|exact znG hI hx (by assumption)) (by omega);exact ⟨keysZ,qZ,xZ,fun R hg=>zaa (wkl (p_1++[sb h1,sc (zlh s x.name (by first|assumption|omega|(simp;done)|(simp;omega))),sb a5,sb h1,si hw]) [1,3,23,24,25] 1 kr (gZ R hg))⟩
  ·cases h2:!x.notNull
   ·obtain ⟨keysZ,qZ,xZ,gZ⟩:=ih (i+1) (keys+1) (by omega) (by first|exact znC hI hx (by assumption)|exact znG hI hx (by assumption)) (by omega);exact ⟨keysZ,qZ,xZ,fun R hg=>zaa (wkl (p_1++[sg h1,sg h2,sc (zlh s x.name (by first|assumption|omega|(simp;done)|(simp;omega))),sb a5,sb h1,si (zcm (t:=(keys:Int)+1) (n:=keys+1) (by omega) (by omega)),si hw]) [1,3,23,24,25] 1 kr (gZ R hg))⟩
   ·exact False.elim (by simp_all)
theorem znY (s:Sch) (hs:zad s.cols) (hv:SchV s) (n1:(!zaP s.name)=false) (n2:decide (((s.cols.map Col.cells).length:Int) < 1)=false) (n3:decide ((6:Int) < ((s.cols.map Col.cells).length:Int))=false):∃ (r:Bool),r=true∧zac E0 S.ref4_Valid [s.av] [] (bv r) []:=by
 obtain ⟨keys1,q1,q1_1,g1⟩:=zhs s (by first|assumption|rfl|omega) (by first|assumption|rfl|omega) 0 0 (by first|assumption|rfl|omega) (by first|assumption|rfl|omega)
 exact ⟨decide ((keys1:Int)≤(1:Int)),(by first|rfl|(rw [List.take_length] at *;have hkz:=hv.keys;simp;omega)),wkc At.ref4_Valid [sc (ze1 s.name),sg n1,sg n2,sb n3] [1,3,23,24,25] 1 kr (g1 _ (zaa (wkr [sb q1_1] kr)))⟩
theorem zmK (s:Sch) (hv:SchV s):zac E0 S.ref4_Valid [s.av] [] (bv true) []:=by
 obtain ⟨r,rfl,h⟩:=znY s hv.short hv hv.name hv.lo hv.hi
 exact h
end Go.AM
