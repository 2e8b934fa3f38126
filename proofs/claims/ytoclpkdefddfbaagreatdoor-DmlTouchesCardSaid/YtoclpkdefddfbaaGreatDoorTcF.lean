/-
  Contracts of the program's functions, part 5.
-/
import Derived.Test.YtoclpkdefddfbaaGreatDoorTcE
import Derived.Lib.Strings
import Derived.Carry
import Derived.ChangeSame
import Derived.Lib.LaidU8
import Derived.FnData
set_option linter.unusedSimpArgs false
set_option linter.unusedVariables false
namespace Go.AM
set_option maxRecDepth 100000
set_option maxHeartbeats 1000000
set_option linter.unusedSimpArgs false
set_option linter.unusedVariables false
abbrev acD (w:Str) (x:X):Ac:=⟨3,w,[],[],[],[x],⟨#[]⟩⟩
abbrev acU (w:Str) (c:Str) (v x:X):Ac:=⟨2,w,[],[],[⟨c,v⟩],[x],⟨#[]⟩⟩
abbrev xOne:X:=xLit ⟨1,1,⟨#[]⟩⟩
abbrev xbox (k:Int) (e:X):List AV:=[iv k,iv 0,.bl false,iv 0,iv 0,sv ⟨#[]⟩,sv ⟨#[]⟩,sv ⟨#[]⟩,.sl [e.cells],.nl]
abbrev zf5 (e:X):X:=X.mk 3 0 false ⟨0,0,⟨#[]⟩⟩ ⟨#[]⟩ ⟨#[]⟩ [e] []
abbrev zf6 (e:X):X:=X.mk 6 0 false ⟨0,0,⟨#[]⟩⟩ ⟨#[]⟩ ⟨#[]⟩ [e] []
abbrev tcEs (e:X):List X:=[e,zf5 e,zf6 e]
def tcD (m:List Tb) (w:Str) (e:X) (j:Nat):Ch × Int:=zdo (bif j==0 then 5 else 6) (acD w ((tcEs e).getD j e)) [] m
def tcU (m:List Tb) (w:Str) (e:X) (j:Nat):Ch × Int:=zdo (bif j==0 then 5 else 6) (acU w sN xOne ((tcEs e).getD j e)) [] m
theorem za0 {n:Int} {m:List Tb} (h:StoreV n m):zad m:=by have:=congrArg List.length h.schs;simp [zal] at this;simp only [zad];omega
structure TcOk (cd cu:Ch × Int):Prop where
 code:cd.2=cu.2
 ids:cu.1.upd.map Pr.id=cd.1.del
 len:cd.1.del.length≤900
theorem TcOk.ulen {cd cu:Ch × Int} (h:TcOk cd cu):zad cu.1.upd:=by
 have h1:=h.len;rw [← h.ids,List.length_map] at h1;simp only [zad];omega
abbrev ziG (m:List Tb) (w:Str) (e:X) (i:Nat):List Int:=(List.range i).flatMap (fun j=>(tcD m w e j).1.del)
structure TcIn (m:List Tb) (w:Str) (e:X):Prop where
 cd:∀ j x,(tcEs e)[j]?=some x→Pure S.dml_Candidates [(acD w x).av,fsl [],tsl m] (.tup [(tcD m w e j).1.av,iv (tcD m w e j).2])
 cu:∀ j x,(tcEs e)[j]?=some x→Pure S.dml_Candidates [(acU w sN xOne x).av,fsl [],tsl m] (.tup [(tcU m w e j).1.av,iv (tcU m w e j).2])
 ok:∀ j,j < 3→TcOk (tcD m w e j) (tcU m w e j)
 fin:(∀ j,j < 3→(tcD m w e j).2=0)→srt1 (ziG m w e 3)=(tabC m w).rows.map Rw.id∧(ziG m w e 3).length≤12
 tab:decide (idxF (fun t=>zaD t w) m 0 < 0)=false
 rows:(tabC m w).rows.length≤1000
theorem TcOk.eq {cd cu:Ch × Int} (h:TcOk cd cu) {ids:List Int} (hi:ids.length≤cu.1.upd.length∧ids=(cu.1.upd.take cu.1.upd.length).map Pr.id):ids=cd.1.del:=by
 rw [hi.2,List.take_length];exact h.ids
theorem zrt {l:List Pr} {i:Nat} {x:Pr} {ids:List Int} (hI:ids.length≤i∧ids=(l.take i).map Pr.id) (hx:l[i]?=some x):(ids++[x.id]).length≤i+1∧ids++[x.id]=(l.take (i+1)).map Pr.id:=by
 refine ⟨by simp;omega,?_⟩
 rw [List.take_add_one,hx,List.map_append,← hI.2];rfl
noncomputable def L_tcI (m:List Tb) (w:Str) (es:List X) (u:Tp) (e e7:X) (c d:Ch) (io:Nat) (tc:List Int) (i:Nat) (ids:List Int):Cfg:=zaw B.law16_DmlTouches 1 [(4,tsl m),(5,sv w),(11,.own 6 tc.length),(14,.p 8 0),(18,.own 10 ids.length),(51,xsl es),(52,iv ((zab es).length:Nat)),(53,iv (io:Nat)),(85,.sl (d.upd.map Pr.cells)),(86,iv ((d.upd.map Pr.cells).length:Nat)),(87,iv (i:Nat))] [.box u.cells,.box (zar w).cells,.box [.sl [[sv w,bv false,.sl ((zar w).cols.map Col.cells),.sl []]],.sl (zal.map Sch.cells)],.box e.cells,.box (xbox 3 e),.box (xbox 6 e),.row Ty.int (tc.map zan) false,.box e7.cells,.box c.cells,.box d.cells,.row Ty.int (ids.map zan) false]
theorem zec (m:List Tb) (w:Str) (es:List X) (u:Tp) (e e7:X) (c d:Ch) (io:Nat) (tc:List Int) (hul:zad d.upd) (i:Nat) (ids:List Int) (hi:i≤(d.upd).length) (hI:ids.length≤i∧ids=(d.upd.take i).map Pr.id):∃ (ids':List Int),(ids'.length≤(d.upd).length∧ids'=(d.upd.take (d.upd).length).map Pr.id)∧(decide ((((d.upd).length:Nat):Int) < (((d.upd.map Pr.cells).length:Nat):Int))=false)∧∀ R,Good E0 B.law16_DmlTouches [] (L_tcI m w es u e e7 c d io tc (d.upd).length ids') R→Good E0 B.law16_DmlTouches [] (L_tcI m w es u e e7 c d io tc i ids) R:=by
 obtain ⟨kk,hk⟩:∃ kk,i+kk=(d.upd).length:=⟨(d.upd).length - i,by omega⟩
 induction kk generalizing i ids with
 | zero =>
  have e0:i=(d.upd).length:=by omega
  subst e0
  exact ⟨ids,hI,by simp,fun R hg=>hg⟩
 | succ kk ih =>
  obtain ⟨x,hx⟩:=zaC (l:=d.upd) (i:=i) (by omega)
  have h0:decide (((i:Nat):Int) < (((d.upd.map Pr.cells).length:Nat):Int))=true:=by simp;omega
  have hw:IntKind.i64.wrap (((i:Nat):Int)+1)=((i+1:Nat):Int):=zao i (by first|omega|(simp only [zad,Few] at *;omega))
  have hol:ids.length≤1000000000:=by simp only [zad] at hul;omega
  obtain ⟨idsZ,qZ,xZ,gZ⟩:=ih (i+1) (ids++[x.id]) (by omega) (by exact zrt hI hx) (by omega);exact ⟨idsZ,qZ,xZ,fun R hg=>zaa (wkl [sb h0,se (zah Pr.cells hx rfl),sqx (AllLen [[iv x.id]] 1∧ids.length=(List.map zan ids).length∧(((List.map zan ids).length+[[iv x.id]].length) * 8).le 140737488355328),si hw] [4,5,11,14,18,51,52,53,85,86,87] 11 kr (zav (show ([(4,AV.sl (List.map Tb.cells m)),(5,sv w),(11,AV.own 6 tc.length),(14,AV.p 8 0),(18,AV.own 10 (List.map zan ids++[[iv x.id]]).length),(51,AV.sl (zab es)),(52,iv (↑(zab es).length:Int)),(53,iv (io:Int)),(85,AV.sl (List.map Pr.cells d.upd)),(86,iv (↑(List.map Pr.cells d.upd).length:Int)),(87,iv (↑(i+1):Int))]:TS)=_ by first|rfl|(simp;done)|(simp [X.cells,Qy.cells,V.cells,Col.cells,Rw.cells,Tb.cells,Fr.cells,Sch.cells,Tp.cells,Pl.cells,xCol,xLit,xBin,xNeg,Ac.cells,Se.cells,Pr.cells,Ch.cells,Rw.cells];done)) (show ([Blk.box [AV.sl (List.map (fun n=>[iv n]) u.l),iv (u.pos:Int)],Blk.box [sv (zar w).name,AV.sl (List.map Col.cells (zar w).cols)],Blk.box [AV.sl [[sv w,bv false,AV.sl (List.map Col.cells (zar w).cols),AV.sl []]],AV.sl (List.map Sch.cells zal)],Blk.box [iv e.kind,iv e.op,bv e.not,iv e.val.kind,iv e.val.int,sv e.val.text,sv e.table,sv e.name,AV.sl (zab e.args),AV.sl (zaf e.sub)],Blk.box [iv 3,iv 0,AV.bl false,iv 0,iv 0,sv (ByteArray.mk #[]),sv (ByteArray.mk #[]),sv (ByteArray.mk #[]),AV.sl [[iv e.kind,iv e.op,bv e.not,iv e.val.kind,iv e.val.int,sv e.val.text,sv e.table,sv e.name,AV.sl (zab e.args),AV.sl (zaf e.sub)]],AV.nl],Blk.box [iv 6,iv 0,AV.bl false,iv 0,iv 0,sv (ByteArray.mk #[]),sv (ByteArray.mk #[]),sv (ByteArray.mk #[]),AV.sl [[iv e.kind,iv e.op,bv e.not,iv e.val.kind,iv e.val.int,sv e.val.text,sv e.table,sv e.name,AV.sl (zab e.args),AV.sl (zaf e.sub)]],AV.nl],Blk.row Ty.int (List.map zan tc) false,Blk.box [iv e7.kind,iv e7.op,bv e7.not,iv e7.val.kind,iv e7.val.int,sv e7.val.text,sv e7.table,sv e7.name,AV.sl (zab e7.args),AV.sl (zaf e7.sub)],Blk.box [AV.sl (List.map vrow c.ins),AV.sl (List.map (fun n=>[iv n]) c.del),AV.sl (List.map Pr.cells c.upd)],Blk.box [AV.sl (List.map vrow d.ins),AV.sl (List.map (fun n=>[iv n]) d.del),AV.sl (List.map Pr.cells d.upd)],Blk.row Ty.int (List.map zan ids++[[iv x.id]]) false]:Heap)=_ by first|rfl|(simp;done)|(simp [X.cells,Qy.cells,V.cells,Col.cells,Rw.cells,Tb.cells,Fr.cells,Sch.cells,Tp.cells,Pl.cells,xCol,xLit,xBin,xNeg,Ac.cells,Se.cells,Pr.cells,Ch.cells,Rw.cells];done)) (gZ R hg)))⟩
def zf0 (m:List Tb) (w:Str) (e:X) (i:Nat) (tc:List Int):Prop:=tc.length≤1000 * i∧tc=ziG m w e i∧∀ j,j < i→(tcD m w e j).2=0
theorem zry {m:List Tb} {w:Str} {e:X} {i:Nat} {tc ids:List Int} (hI:zf0 m w e i tc) (hok:TcOk (tcD m w e i) (tcU m w e i)) (h0:((tcD m w e i).2 != 0)=false) (hi:ids.length≤(tcU m w e i).1.upd.length∧ids=((tcU m w e i).1.upd.take (tcU m w e i).1.upd.length).map Pr.id):zf0 m w e (i+1) (tc++ids):=by
 have e1:=hok.eq hi
 have hl:=hok.len
 rw [← e1] at hl
 refine ⟨by have:=hI.1;rw [List.length_append];omega,?_,fun j hj=>?_⟩
 ·have e2:=hI.2.1;rw [e1];unfold ziG at *;rw [List.range_succ,List.flatMap_append,← e2];simp
 ·by_cases h:j=i
  ·subst h;simpa using h0
  ·exact hI.2.2 j (by omega)
theorem zdc {m:List Tb} {w:Str} {e:X} {i:Nat} {tc ids:List Int} (hI:zf0 m w e i tc) (hi3:i < 3) (hok:TcOk (tcD m w e i) (tcU m w e i)) (hi:ids.length≤(tcU m w e i).1.upd.length∧ids=((tcU m w e i).1.upd.take (tcU m w e i).1.upd.length).map Pr.id):ids.length≤900∧tc.length≤3000:=by
 have e1:=hok.eq hi
 have hl:=hok.len
 rw [← e1] at hl
 have:=hI.1
 omega
noncomputable def zpi (m:List Tb) (w:Str) (e:X) (u:Tp) (es:List X) (i:Nat) (tc:List Int):Cfg:=zaw B.law16_DmlTouches 0 [(4,tsl m),(5,sv w),(11,.own 6 tc.length),(51,xsl es),(52,iv ((zab es).length:Nat)),(53,iv (i:Nat))] [.box u.cells,.box (zar w).cells,.box [.sl [[sv w,bv false,.sl ((zar w).cols.map Col.cells),.sl []]],.sl (zal.map Sch.cells)],.box e.cells,.box (xbox 3 e),.box (xbox 6 e),.row Ty.int (tc.map zan) false]
theorem zeb (m:List Tb) (w:Str) (e:X) (u:Tp) (es:List X) (hes:es=tcEs e) (hT:TcIn m w e) (hkn:zac E0 S.law16_known [] [] (bv true) []) (i:Nat) (tc:List Int) (hi:i≤(es).length) (hI:zf0 m w e i tc):(∃ (tc':List Int),(zf0 m w e (es).length tc')∧(decide ((((es).length:Nat):Int) < (((zab es).length:Nat):Int))=false)∧∀ R,Good E0 B.law16_DmlTouches [] (zpi m w e u es (es).length tc') R→Good E0 B.law16_DmlTouches [] (zpi m w e u es i tc) R)∨(∃ (r:Bool),r=true∧Good E0 B.law16_DmlTouches [] (zpi m w e u es i tc) (Shut 0 fun rZ hZ=>rZ=(bv r)∧hZ=[])):=by
 obtain ⟨kk,hk⟩:∃ kk,i+kk=(es).length:=⟨(es).length - i,by omega⟩
 induction kk generalizing i tc with
 | zero =>
  have e0:i=(es).length:=by omega
  subst e0
  exact .inl ⟨tc,hI,by simp,fun R hg=>hg⟩
 | succ kk ih =>
  obtain ⟨x,hx⟩:=zaC (l:=es) (i:=i) (by omega)
  have h0:decide (((i:Nat):Int) < (((zab es).length:Nat):Int))=true:=by simp;omega
  have hw:IntKind.i64.wrap (((i:Nat):Int)+1)=((i+1:Nat):Int):=zao i (by (rw [hes] at hi;simp at hi;omega))
  have hi3:i < 3:=(by have:=(List.getElem?_eq_some_iff.1 hx).1;rw [hes] at this;simpa using this);have hA:=hT.cd i x (hes ▸ hx);have hB:=hT.cu i x (hes ▸ hx);have hkx:=hT.ok i hi3;have hC:((tcD m w e i).2 != (tcU m w e i).2)=false:=by simp [hkx.code]
  have hul:=hkx.ulen;have htl:tc.length≤3000:=by have:=hI.1;omega
  let p_1:List St:=[sb h0,se (za9 hx),sc (conv (args:=[AV.agg [iv 3,sv w,AV.sl [],AV.sl [],AV.sl [],AV.sl [[iv x.kind,iv x.op,bv x.not,iv x.val.kind,iv x.val.int,sv x.val.text,sv x.table,sv x.name,AV.sl (zab x.args),AV.sl (zaf x.sub)]],sv (ByteArray.mk #[])],AV.sl [],AV.sl (List.map Tb.cells m)]) (hl:=[]) hA (by first|rfl|(simp [Ac.cells,Se.cells,xNum,xLit];done)|(simp [Ac.cells,Se.cells,xNum,xLit];first|rfl|exact ⟨rfl,rfl⟩)) (by first|rfl|(simp [Ac.cells,Se.cells,xNum,xLit];done)|(simp [Ac.cells,Se.cells,xNum,xLit];first|rfl|exact ⟨rfl,rfl⟩))),sdm [(3,[sc (zbG 1 (by first|assumption|omega|exact ⟨by simp,by simp⟩|exact hkx.eq (by assumption)|(have:=zdc hI hi3 hkx (by assumption);simp only [zad];omega)|(simp;done)))]),(8,[sc (conv (args:=[AV.agg [iv 2,sv w,AV.sl [],AV.sl [],AV.sl [[sv (ByteArray.mk #[110]),iv (xNum 1).kind,iv (xNum 1).op,bv (xNum 1).not,iv (xNum 1).val.kind,iv (xNum 1).val.int,sv (xNum 1).val.text,sv (xNum 1).table,sv (xNum 1).name,AV.sl (zab []),AV.sl (zaf [])]],AV.sl [[iv x.kind,iv x.op,bv x.not,iv x.val.kind,iv x.val.int,sv x.val.text,sv x.table,sv x.name,AV.sl (zab x.args),AV.sl (zaf x.sub)]],sv (ByteArray.mk #[])],AV.sl [],AV.sl (List.map Tb.cells m)]) (hl:=[]) hB (by first|rfl|(simp [Ac.cells,Se.cells,xNum,xLit];done)|(simp [Ac.cells,Se.cells,xNum,xLit];first|rfl|exact ⟨rfl,rfl⟩)) (by first|rfl|(simp [Ac.cells,Se.cells,xNum,xLit];done)|(simp [Ac.cells,Se.cells,xNum,xLit];first|rfl|exact ⟨rfl,rfl⟩)))])] 1 [(4,AV.sl (List.map Tb.cells m)),(5,sv w),(11,AV.own 6 tc.length),(13,AV.p 7 0),(14,AV.p 8 0),(15,iv (tcD m w e i).snd),(16,AV.p 9 0),(17,iv (tcU m w e i).snd),(51,AV.sl (zab es)),(52,iv (↑(zab es).length:Int)),(53,iv (i:Int)),(54,AV.bl true),(55,AV.dp [iv x.kind,iv x.op,bv x.not,iv x.val.kind,iv x.val.int,sv x.val.text,sv x.table,sv x.name,AV.sl (zab x.args),AV.sl (zaf x.sub)]),(56,AV.agg [iv x.kind,iv x.op,bv x.not,iv x.val.kind,iv x.val.int,sv x.val.text,sv x.table,sv x.name,AV.sl (zab x.args),AV.sl (zaf x.sub)]),(57,AV.tup [AV.agg [AV.sl (List.map vrow (tcD m w e i).fst.ins),AV.sl (List.map (fun n=>[iv n]) (tcD m w e i).fst.del),AV.sl (List.map Pr.cells (tcD m w e i).fst.upd)],iv (tcD m w e i).snd]),(58,sv w),(59,AV.agg [iv x.kind,iv x.op,bv x.not,iv x.val.kind,iv x.val.int,sv x.val.text,sv x.table,sv x.name,AV.sl (zab x.args),AV.sl (zaf x.sub)]),(60,AV.sl [[iv x.kind,iv x.op,bv x.not,iv x.val.kind,iv x.val.int,sv x.val.text,sv x.table,sv x.name,AV.sl (zab x.args),AV.sl (zaf x.sub)]]),(61,AV.agg [iv 3,sv w,AV.nl,AV.nl,AV.nl,AV.sl [[iv x.kind,iv x.op,bv x.not,iv x.val.kind,iv x.val.int,sv x.val.text,sv x.table,sv x.name,AV.sl (zab x.args),AV.sl (zaf x.sub)]],sv (ByteArray.mk #[])]),(62,AV.sl (List.map Tb.cells m)),(63,AV.tup [AV.agg [AV.sl (List.map vrow (tcD m w e i).fst.ins),AV.sl (List.map (fun n=>[iv n]) (tcD m w e i).fst.del),AV.sl (List.map Pr.cells (tcD m w e i).fst.upd)],iv (tcD m w e i).snd]),(64,AV.agg [AV.sl (List.map vrow (tcD m w e i).fst.ins),AV.sl (List.map (fun n=>[iv n]) (tcD m w e i).fst.del),AV.sl (List.map Pr.cells (tcD m w e i).fst.upd)]),(65,iv (tcD m w e i).snd),(66,AV.tup [AV.agg [AV.sl (List.map vrow (tcU m w e i).fst.ins),AV.sl (List.map (fun n=>[iv n]) (tcU m w e i).fst.del),AV.sl (List.map Pr.cells (tcU m w e i).fst.upd)],iv (tcU m w e i).snd]),(67,sv w),(68,AV.agg [iv x.kind,iv x.op,bv x.not,iv x.val.kind,iv x.val.int,sv x.val.text,sv x.table,sv x.name,AV.sl (zab x.args),AV.sl (zaf x.sub)]),(69,AV.sl [[iv x.kind,iv x.op,bv x.not,iv x.val.kind,iv x.val.int,sv x.val.text,sv x.table,sv x.name,AV.sl (zab x.args),AV.sl (zaf x.sub)]]),(70,AV.agg [iv (xNum 1).kind,iv (xNum 1).op,bv (xNum 1).not,iv (xNum 1).val.kind,iv (xNum 1).val.int,sv (xNum 1).val.text,sv (xNum 1).table,sv (xNum 1).name,AV.sl (zab []),AV.sl (zaf [])]),(71,AV.agg [sv (ByteArray.mk #[110]),iv (xNum 1).kind,iv (xNum 1).op,bv (xNum 1).not,iv (xNum 1).val.kind,iv (xNum 1).val.int,sv (xNum 1).val.text,sv (xNum 1).table,sv (xNum 1).name,AV.sl (zab []),AV.sl (zaf [])]),(72,AV.sl [[sv (ByteArray.mk #[110]),iv (xNum 1).kind,iv (xNum 1).op,bv (xNum 1).not,iv (xNum 1).val.kind,iv (xNum 1).val.int,sv (xNum 1).val.text,sv (xNum 1).table,sv (xNum 1).name,AV.sl (zab []),AV.sl (zaf [])]]),(73,AV.agg [iv 2,sv w,AV.nl,AV.nl,AV.sl [[sv (ByteArray.mk #[110]),iv (xNum 1).kind,iv (xNum 1).op,bv (xNum 1).not,iv (xNum 1).val.kind,iv (xNum 1).val.int,sv (xNum 1).val.text,sv (xNum 1).table,sv (xNum 1).name,AV.sl (zab []),AV.sl (zaf [])]],AV.sl [[iv x.kind,iv x.op,bv x.not,iv x.val.kind,iv x.val.int,sv x.val.text,sv x.table,sv x.name,AV.sl (zab x.args),AV.sl (zaf x.sub)]],sv (ByteArray.mk #[])]),(74,AV.sl (List.map Tb.cells m)),(75,AV.tup [AV.agg [AV.sl (List.map vrow (tcU m w e i).fst.ins),AV.sl (List.map (fun n=>[iv n]) (tcU m w e i).fst.del),AV.sl (List.map Pr.cells (tcU m w e i).fst.upd)],iv (tcU m w e i).snd]),(76,AV.agg [AV.sl (List.map vrow (tcU m w e i).fst.ins),AV.sl (List.map (fun n=>[iv n]) (tcU m w e i).fst.del),AV.sl (List.map Pr.cells (tcU m w e i).fst.upd)]),(77,iv (tcU m w e i).snd)] [Blk.box u.cells,Blk.box [sv (zar w).name,AV.sl (List.map Col.cells (zar w).cols)],Blk.box [AV.sl [[sv w,bv false,AV.sl (List.map Col.cells (zar w).cols),AV.sl []]],AV.sl (List.map Sch.cells zal)],Blk.box [iv e.kind,iv e.op,bv e.not,iv e.val.kind,iv e.val.int,sv e.val.text,sv e.table,sv e.name,AV.sl (zab e.args),AV.sl (zaf e.sub)],Blk.box [iv 3,iv 0,AV.bl false,iv 0,iv 0,sv (ByteArray.mk #[]),sv (ByteArray.mk #[]),sv (ByteArray.mk #[]),AV.sl [[iv e.kind,iv e.op,bv e.not,iv e.val.kind,iv e.val.int,sv e.val.text,sv e.table,sv e.name,AV.sl (zab e.args),AV.sl (zaf e.sub)]],AV.nl],Blk.box [iv 6,iv 0,AV.bl false,iv 0,iv 0,sv (ByteArray.mk #[]),sv (ByteArray.mk #[]),sv (ByteArray.mk #[]),AV.sl [[iv e.kind,iv e.op,bv e.not,iv e.val.kind,iv e.val.int,sv e.val.text,sv e.table,sv e.name,AV.sl (zab e.args),AV.sl (zaf e.sub)]],AV.nl],Blk.row Ty.int (List.map zan tc) false,Blk.box [iv x.kind,iv x.op,bv x.not,iv x.val.kind,iv x.val.int,sv x.val.text,sv x.table,sv x.name,AV.sl (zab x.args),AV.sl (zaf x.sub)],Blk.box [AV.sl (List.map vrow (tcD m w e i).fst.ins),AV.sl (List.map (fun n=>[iv n]) (tcD m w e i).fst.del),AV.sl (List.map Pr.cells (tcD m w e i).fst.upd)],Blk.box [AV.sl (List.map vrow (tcU m w e i).fst.ins),AV.sl (List.map (fun n=>[iv n]) (tcU m w e i).fst.del),AV.sl (List.map Pr.cells (tcU m w e i).fst.upd)]],sb hC]
  cases h1:(tcD m w e i).snd != 0
  ·obtain ⟨ids2,q2,q2_1,g2⟩:=zec m w es u e x ((tcD m w e i).fst) ((tcU m w e i).fst) i tc (by first|assumption|omega|exact ⟨by simp,by simp⟩|exact hkx.eq (by assumption)|(have:=zdc hI hi3 hkx (by assumption);simp only [zad];omega)|(simp;done)) 0 ([]) (by first|assumption|omega|exact ⟨by simp,by simp⟩|exact hkx.eq (by assumption)|(have:=zdc hI hi3 hkx (by assumption);simp only [zad];omega)|(simp;done)) (by first|assumption|omega|exact ⟨by simp,by simp⟩|exact hkx.eq (by assumption)|(have:=zdc hI hi3 hkx (by assumption);simp only [zad];omega)|(simp;done))
   exact (ih (i+1) (tc++ids2) (by omega) (by exact zry hI hkx (by assumption) (by assumption)) (by omega)).elim (fun ⟨tcZ,qZ,xZ,gZ⟩=>.inl ⟨tcZ,qZ,xZ,fun R hg=>zaa (wklN (p_1++[sb h1]) [4,5,11,14,18,51,52,53,85,86,87] 10 [(.ot 18 Ty.int,11)] kr (g2 _ (zaa (wkl [sb q2_1,skx (ids2.length=(List.map zan ids2).length∧True∧True) [] (zcm ids2 ((tcD m w e i).fst.del) (by first|assumption|omega|exact ⟨by simp,by simp⟩|exact hkx.eq (by assumption)|(have:=zdc hI hi3 hkx (by assumption);simp only [zad];omega)|(simp;done)) (by first|assumption|omega|exact ⟨by simp,by simp⟩|exact hkx.eq (by assumption)|(have:=zdc hI hi3 hkx (by assumption);simp only [zad];omega)|(simp;done))),sb (rfl:false=false),sqx (ids2.length=(List.map zan ids2).length∧AllLen (List.map zan ids2) 1∧tc.length=(List.map zan tc).length∧(((List.map zan tc).length+(List.map zan ids2).length) * 8).le 140737488355328),si hw] [4,5,11,51,52,53] 7 kr (zav (show ([(4,AV.sl (List.map Tb.cells m)),(5,sv w),(11,AV.own 6 (List.map zan tc++List.map zan ids2).length),(51,AV.sl (zab es)),(52,iv (↑(zab es).length:Int)),(53,iv (↑(i+1):Int))]:TS)=_ by first|rfl|(simp;done)|(simp [X.cells,Qy.cells,V.cells,Col.cells,Rw.cells,Tb.cells,Fr.cells,Sch.cells,Tp.cells,Pl.cells,xCol,xLit,xBin,xNeg,Ac.cells,Se.cells,Pr.cells,Ch.cells,Rw.cells];done)) (show ([Blk.box [AV.sl (List.map (fun n=>[iv n]) u.l),iv (u.pos:Int)],Blk.box [sv (zar w).name,AV.sl (List.map Col.cells (zar w).cols)],Blk.box [AV.sl [[sv w,bv false,AV.sl (List.map Col.cells (zar w).cols),AV.sl []]],AV.sl (List.map Sch.cells zal)],Blk.box [iv e.kind,iv e.op,bv e.not,iv e.val.kind,iv e.val.int,sv e.val.text,sv e.table,sv e.name,AV.sl (zab e.args),AV.sl (zaf e.sub)],Blk.box [iv 3,iv 0,AV.bl false,iv 0,iv 0,sv (ByteArray.mk #[]),sv (ByteArray.mk #[]),sv (ByteArray.mk #[]),AV.sl [[iv e.kind,iv e.op,bv e.not,iv e.val.kind,iv e.val.int,sv e.val.text,sv e.table,sv e.name,AV.sl (zab e.args),AV.sl (zaf e.sub)]],AV.nl],Blk.box [iv 6,iv 0,AV.bl false,iv 0,iv 0,sv (ByteArray.mk #[]),sv (ByteArray.mk #[]),sv (ByteArray.mk #[]),AV.sl [[iv e.kind,iv e.op,bv e.not,iv e.val.kind,iv e.val.int,sv e.val.text,sv e.table,sv e.name,AV.sl (zab e.args),AV.sl (zaf e.sub)]],AV.nl],Blk.row Ty.int (List.map zan tc++List.map zan ids2) false]:Heap)=_ by first|rfl|(simp;done)|(simp [X.cells,Qy.cells,V.cells,Col.cells,Rw.cells,Tb.cells,Fr.cells,Sch.cells,Tp.cells,Pl.cells,xCol,xLit,xBin,xNeg,Ac.cells,Se.cells,Pr.cells,Ch.cells,Rw.cells];done)) (gZ R hg))))))⟩) (fun ⟨rY,pZ,gZ⟩=>.inr ⟨rY,pZ,zaa (wklN [sb h0,se (za9 hx),sc (conv (args:=[AV.agg [iv 3,sv w,AV.sl [],AV.sl [],AV.sl [],AV.sl [[iv x.kind,iv x.op,bv x.not,iv x.val.kind,iv x.val.int,sv x.val.text,sv x.table,sv x.name,AV.sl (zab x.args),AV.sl (zaf x.sub)]],sv (ByteArray.mk #[])],AV.sl [],AV.sl (List.map Tb.cells m)]) (hl:=[]) hA (by first|rfl|(simp [Ac.cells,Se.cells,xNum,xLit];done)|(simp [Ac.cells,Se.cells,xNum,xLit];first|rfl|exact ⟨rfl,rfl⟩)) (by first|rfl|(simp [Ac.cells,Se.cells,xNum,xLit];done)|(simp [Ac.cells,Se.cells,xNum,xLit];first|rfl|exact ⟨rfl,rfl⟩))),sdm [(3,[sc (zbG 1 (by first|assumption|omega|exact ⟨by simp,by simp⟩|exact hkx.eq (by assumption)|(have:=zdc hI hi3 hkx (by assumption);simp only [zad];omega)|(simp;done)))]),(8,[sc (conv (args:=[AV.agg [iv 2,sv w,AV.sl [],AV.sl [],AV.sl [[sv (ByteArray.mk #[110]),iv (xNum 1).kind,iv (xNum 1).op,bv (xNum 1).not,iv (xNum 1).val.kind,iv (xNum 1).val.int,sv (xNum 1).val.text,sv (xNum 1).table,sv (xNum 1).name,AV.sl (zab []),AV.sl (zaf [])]],AV.sl [[iv x.kind,iv x.op,bv x.not,iv x.val.kind,iv x.val.int,sv x.val.text,sv x.table,sv x.name,AV.sl (zab x.args),AV.sl (zaf x.sub)]],sv (ByteArray.mk #[])],AV.sl [],AV.sl (List.map Tb.cells m)]) (hl:=[]) hB (by first|rfl|(simp [Ac.cells,Se.cells,xNum,xLit];done)|(simp [Ac.cells,Se.cells,xNum,xLit];first|rfl|exact ⟨rfl,rfl⟩)) (by first|rfl|(simp [Ac.cells,Se.cells,xNum,xLit];done)|(simp [Ac.cells,Se.cells,xNum,xLit];first|rfl|exact ⟨rfl,rfl⟩)))])] 1 [(4,AV.sl (List.map Tb.cells m)),(5,sv w),(11,AV.own 6 tc.length),(13,AV.p 7 0),(14,AV.p 8 0),(15,iv (tcD m w e i).snd),(16,AV.p 9 0),(17,iv (tcU m w e i).snd),(51,AV.sl (zab es)),(52,iv (↑(zab es).length:Int)),(53,iv (i:Int)),(54,AV.bl true),(55,AV.dp [iv x.kind,iv x.op,bv x.not,iv x.val.kind,iv x.val.int,sv x.val.text,sv x.table,sv x.name,AV.sl (zab x.args),AV.sl (zaf x.sub)]),(56,AV.agg [iv x.kind,iv x.op,bv x.not,iv x.val.kind,iv x.val.int,sv x.val.text,sv x.table,sv x.name,AV.sl (zab x.args),AV.sl (zaf x.sub)]),(57,AV.tup [AV.agg [AV.sl (List.map vrow (tcD m w e i).fst.ins),AV.sl (List.map (fun n=>[iv n]) (tcD m w e i).fst.del),AV.sl (List.map Pr.cells (tcD m w e i).fst.upd)],iv (tcD m w e i).snd]),(58,sv w),(59,AV.agg [iv x.kind,iv x.op,bv x.not,iv x.val.kind,iv x.val.int,sv x.val.text,sv x.table,sv x.name,AV.sl (zab x.args),AV.sl (zaf x.sub)]),(60,AV.sl [[iv x.kind,iv x.op,bv x.not,iv x.val.kind,iv x.val.int,sv x.val.text,sv x.table,sv x.name,AV.sl (zab x.args),AV.sl (zaf x.sub)]]),(61,AV.agg [iv 3,sv w,AV.nl,AV.nl,AV.nl,AV.sl [[iv x.kind,iv x.op,bv x.not,iv x.val.kind,iv x.val.int,sv x.val.text,sv x.table,sv x.name,AV.sl (zab x.args),AV.sl (zaf x.sub)]],sv (ByteArray.mk #[])]),(62,AV.sl (List.map Tb.cells m)),(63,AV.tup [AV.agg [AV.sl (List.map vrow (tcD m w e i).fst.ins),AV.sl (List.map (fun n=>[iv n]) (tcD m w e i).fst.del),AV.sl (List.map Pr.cells (tcD m w e i).fst.upd)],iv (tcD m w e i).snd]),(64,AV.agg [AV.sl (List.map vrow (tcD m w e i).fst.ins),AV.sl (List.map (fun n=>[iv n]) (tcD m w e i).fst.del),AV.sl (List.map Pr.cells (tcD m w e i).fst.upd)]),(65,iv (tcD m w e i).snd),(66,AV.tup [AV.agg [AV.sl (List.map vrow (tcU m w e i).fst.ins),AV.sl (List.map (fun n=>[iv n]) (tcU m w e i).fst.del),AV.sl (List.map Pr.cells (tcU m w e i).fst.upd)],iv (tcU m w e i).snd]),(67,sv w),(68,AV.agg [iv x.kind,iv x.op,bv x.not,iv x.val.kind,iv x.val.int,sv x.val.text,sv x.table,sv x.name,AV.sl (zab x.args),AV.sl (zaf x.sub)]),(69,AV.sl [[iv x.kind,iv x.op,bv x.not,iv x.val.kind,iv x.val.int,sv x.val.text,sv x.table,sv x.name,AV.sl (zab x.args),AV.sl (zaf x.sub)]]),(70,AV.agg [iv (xNum 1).kind,iv (xNum 1).op,bv (xNum 1).not,iv (xNum 1).val.kind,iv (xNum 1).val.int,sv (xNum 1).val.text,sv (xNum 1).table,sv (xNum 1).name,AV.sl (zab []),AV.sl (zaf [])]),(71,AV.agg [sv (ByteArray.mk #[110]),iv (xNum 1).kind,iv (xNum 1).op,bv (xNum 1).not,iv (xNum 1).val.kind,iv (xNum 1).val.int,sv (xNum 1).val.text,sv (xNum 1).table,sv (xNum 1).name,AV.sl (zab []),AV.sl (zaf [])]),(72,AV.sl [[sv (ByteArray.mk #[110]),iv (xNum 1).kind,iv (xNum 1).op,bv (xNum 1).not,iv (xNum 1).val.kind,iv (xNum 1).val.int,sv (xNum 1).val.text,sv (xNum 1).table,sv (xNum 1).name,AV.sl (zab []),AV.sl (zaf [])]]),(73,AV.agg [iv 2,sv w,AV.nl,AV.nl,AV.sl [[sv (ByteArray.mk #[110]),iv (xNum 1).kind,iv (xNum 1).op,bv (xNum 1).not,iv (xNum 1).val.kind,iv (xNum 1).val.int,sv (xNum 1).val.text,sv (xNum 1).table,sv (xNum 1).name,AV.sl (zab []),AV.sl (zaf [])]],AV.sl [[iv x.kind,iv x.op,bv x.not,iv x.val.kind,iv x.val.int,sv x.val.text,sv x.table,sv x.name,AV.sl (zab x.args),AV.sl (zaf x.sub)]],sv (ByteArray.mk #[])]),(74,AV.sl (List.map Tb.cells m)),(75,AV.tup [AV.agg [AV.sl (List.map vrow (tcU m w e i).fst.ins),AV.sl (List.map (fun n=>[iv n]) (tcU m w e i).fst.del),AV.sl (List.map Pr.cells (tcU m w e i).fst.upd)],iv (tcU m w e i).snd]),(76,AV.agg [AV.sl (List.map vrow (tcU m w e i).fst.ins),AV.sl (List.map (fun n=>[iv n]) (tcU m w e i).fst.del),AV.sl (List.map Pr.cells (tcU m w e i).fst.upd)]),(77,iv (tcU m w e i).snd)] [Blk.box u.cells,Blk.box [sv (zar w).name,AV.sl (List.map Col.cells (zar w).cols)],Blk.box [AV.sl [[sv w,bv false,AV.sl (List.map Col.cells (zar w).cols),AV.sl []]],AV.sl (List.map Sch.cells zal)],Blk.box [iv e.kind,iv e.op,bv e.not,iv e.val.kind,iv e.val.int,sv e.val.text,sv e.table,sv e.name,AV.sl (zab e.args),AV.sl (zaf e.sub)],Blk.box [iv 3,iv 0,AV.bl false,iv 0,iv 0,sv (ByteArray.mk #[]),sv (ByteArray.mk #[]),sv (ByteArray.mk #[]),AV.sl [[iv e.kind,iv e.op,bv e.not,iv e.val.kind,iv e.val.int,sv e.val.text,sv e.table,sv e.name,AV.sl (zab e.args),AV.sl (zaf e.sub)]],AV.nl],Blk.box [iv 6,iv 0,AV.bl false,iv 0,iv 0,sv (ByteArray.mk #[]),sv (ByteArray.mk #[]),sv (ByteArray.mk #[]),AV.sl [[iv e.kind,iv e.op,bv e.not,iv e.val.kind,iv e.val.int,sv e.val.text,sv e.table,sv e.name,AV.sl (zab e.args),AV.sl (zaf e.sub)]],AV.nl],Blk.row Ty.int (List.map zan tc) false,Blk.box [iv x.kind,iv x.op,bv x.not,iv x.val.kind,iv x.val.int,sv x.val.text,sv x.table,sv x.name,AV.sl (zab x.args),AV.sl (zaf x.sub)],Blk.box [AV.sl (List.map vrow (tcD m w e i).fst.ins),AV.sl (List.map (fun n=>[iv n]) (tcD m w e i).fst.del),AV.sl (List.map Pr.cells (tcD m w e i).fst.upd)],Blk.box [AV.sl (List.map vrow (tcU m w e i).fst.ins),AV.sl (List.map (fun n=>[iv n]) (tcU m w e i).fst.del),AV.sl (List.map Pr.cells (tcU m w e i).fst.upd)]],sb hC,sb h1] [4,5,11,14,18,51,52,53,85,86,87] 10 [(.ot 18 Ty.int,11)] kr (g2 _ (zaa (wkl [sb q2_1,skx (ids2.length=(List.map zan ids2).length∧True∧True) [] (zcm ids2 ((tcD m w e i).fst.del) (by first|assumption|omega|exact ⟨by simp,by simp⟩|exact hkx.eq (by assumption)|(have:=zdc hI hi3 hkx (by assumption);simp only [zad];omega)|(simp;done)) (by first|assumption|omega|exact ⟨by simp,by simp⟩|exact hkx.eq (by assumption)|(have:=zdc hI hi3 hkx (by assumption);simp only [zad];omega)|(simp;done))),sb (rfl:false=false),sqx (ids2.length=(List.map zan ids2).length∧AllLen (List.map zan ids2) 1∧tc.length=(List.map zan tc).length∧(((List.map zan tc).length+(List.map zan ids2).length) * 8).le 140737488355328),si hw] [4,5,11,51,52,53] 7 kr (zav (show ([(4,AV.sl (List.map Tb.cells m)),(5,sv w),(11,AV.own 6 (List.map zan tc++List.map zan ids2).length),(51,AV.sl (zab es)),(52,iv (↑(zab es).length:Int)),(53,iv (↑(i+1):Int))]:TS)=_ by first|rfl|(simp;done)|(simp [X.cells,Qy.cells,V.cells,Col.cells,Rw.cells,Tb.cells,Fr.cells,Sch.cells,Tp.cells,Pl.cells,xCol,xLit,xBin,xNeg,Ac.cells,Se.cells,Pr.cells,Ch.cells,Rw.cells];done)) (show ([Blk.box [AV.sl (List.map (fun n=>[iv n]) u.l),iv (u.pos:Int)],Blk.box [sv (zar w).name,AV.sl (List.map Col.cells (zar w).cols)],Blk.box [AV.sl [[sv w,bv false,AV.sl (List.map Col.cells (zar w).cols),AV.sl []]],AV.sl (List.map Sch.cells zal)],Blk.box [iv e.kind,iv e.op,bv e.not,iv e.val.kind,iv e.val.int,sv e.val.text,sv e.table,sv e.name,AV.sl (zab e.args),AV.sl (zaf e.sub)],Blk.box [iv 3,iv 0,AV.bl false,iv 0,iv 0,sv (ByteArray.mk #[]),sv (ByteArray.mk #[]),sv (ByteArray.mk #[]),AV.sl [[iv e.kind,iv e.op,bv e.not,iv e.val.kind,iv e.val.int,sv e.val.text,sv e.table,sv e.name,AV.sl (zab e.args),AV.sl (zaf e.sub)]],AV.nl],Blk.box [iv 6,iv 0,AV.bl false,iv 0,iv 0,sv (ByteArray.mk #[]),sv (ByteArray.mk #[]),sv (ByteArray.mk #[]),AV.sl [[iv e.kind,iv e.op,bv e.not,iv e.val.kind,iv e.val.int,sv e.val.text,sv e.table,sv e.name,AV.sl (zab e.args),AV.sl (zaf e.sub)]],AV.nl],Blk.row Ty.int (List.map zan tc++List.map zan ids2) false]:Heap)=_ by first|rfl|(simp;done)|(simp [X.cells,Qy.cells,V.cells,Col.cells,Rw.cells,Tb.cells,Fr.cells,Sch.cells,Tp.cells,Pl.cells,xCol,xLit,xBin,xNeg,Ac.cells,Se.cells,Pr.cells,Ch.cells,Rw.cells];done)) gZ)))))⟩)
  ·exact .inr ⟨true,(by rfl),zaa (wkr (p_1++[sb h1,sc hkn]) kr)⟩
theorem zqE {l:List Rw} {i:Nat} {x:Rw} {all:List Int} (hI:all.length≤i∧all=(l.take i).map Rw.id) (hx:l[i]?=some x):(all++[x.id]).length≤i+1∧all++[x.id]=(l.take (i+1)).map Rw.id:=by
 refine ⟨by simp;omega,?_⟩
 rw [List.take_add_one,hx,List.map_append,← hI.2];rfl
noncomputable def L_tcA (w:Str) (e:X) (u:Tp) (n:Nat) (tc:List Int) (rs:List Rw) (i:Nat) (all:List Int):Cfg:=zaw B.law16_DmlTouches 2 [(11,.own 6 n),(21,.own 7 all.length),(114,.sl (rs.map Rw.cells)),(115,iv ((rs.map Rw.cells).length:Nat)),(116,iv (i:Nat))] [.box u.cells,.box (zar w).cells,.box [.sl [[sv w,bv false,.sl ((zar w).cols.map Col.cells),.sl []]],.sl (zal.map Sch.cells)],.box e.cells,.box (xbox 3 e),.box (xbox 6 e),.row Ty.int (tc.map zan) false,.row Ty.int (all.map zan) false]
theorem zej (w:Str) (e:X) (u:Tp) (n:Nat) (tc:List Int) (rs:List Rw) (hrs:rs.length≤1000) (i:Nat) (all:List Int) (hi:i≤(rs).length) (hI:all.length≤i∧all=(rs.take i).map Rw.id):∃ (all':List Int),(all'.length≤(rs).length∧all'=(rs.take (rs).length).map Rw.id)∧(decide ((((rs).length:Nat):Int) < (((rs.map Rw.cells).length:Nat):Int))=false)∧∀ R,Good E0 B.law16_DmlTouches [] (L_tcA w e u n tc rs (rs).length all') R→Good E0 B.law16_DmlTouches [] (L_tcA w e u n tc rs i all) R:=by
 obtain ⟨kk,hk⟩:∃ kk,i+kk=(rs).length:=⟨(rs).length - i,by omega⟩
 induction kk generalizing i all with
 | zero =>
  have e0:i=(rs).length:=by omega
  subst e0
  exact ⟨all,hI,by simp,fun R hg=>hg⟩
 | succ kk ih =>
  obtain ⟨x,hx⟩:=zaC (l:=rs) (i:=i) (by omega)
  have h0:decide (((i:Nat):Int) < (((rs.map Rw.cells).length:Nat):Int))=true:=by simp;omega
  have hw:IntKind.i64.wrap (((i:Nat):Int)+1)=((i+1:Nat):Int):=zao i (by first|omega|(simp only [zad,Few] at *;omega))
  have hol:all.length≤1000000000:=by have:=hI.1;omega
  obtain ⟨allZ,qZ,xZ,gZ⟩:=ih (i+1) (all++[x.id]) (by omega) (by exact zqE hI hx) (by omega);exact ⟨allZ,qZ,xZ,fun R hg=>zaa (wkl [sb h0,se (zah Rw.cells hx rfl),sqx (AllLen [[iv x.id]] 1∧all.length=(List.map zan all).length∧(((List.map zan all).length+[[iv x.id]].length) * 8).le 140737488355328),si hw] [11,21,114,115,116] 8 kr (zav (show ([(11,AV.own 6 n),(21,AV.own 7 (List.map zan all++[[iv x.id]]).length),(114,AV.sl (List.map Rw.cells rs)),(115,iv (↑(List.map Rw.cells rs).length:Int)),(116,iv (↑(i+1):Int))]:TS)=_ by first|rfl|(simp;done)|(simp [X.cells,Qy.cells,V.cells,Col.cells,Rw.cells,Tb.cells,Fr.cells,Sch.cells,Tp.cells,Pl.cells,xCol,xLit,xBin,xNeg,Ac.cells,Se.cells,Pr.cells,Ch.cells,Rw.cells];done)) (show ([Blk.box [AV.sl (List.map (fun n=>[iv n]) u.l),iv (u.pos:Int)],Blk.box [sv (zar w).name,AV.sl (List.map Col.cells (zar w).cols)],Blk.box [AV.sl [[sv w,bv false,AV.sl (List.map Col.cells (zar w).cols),AV.sl []]],AV.sl (List.map Sch.cells zal)],Blk.box [iv e.kind,iv e.op,bv e.not,iv e.val.kind,iv e.val.int,sv e.val.text,sv e.table,sv e.name,AV.sl (zab e.args),AV.sl (zaf e.sub)],Blk.box [iv 3,iv 0,AV.bl false,iv 0,iv 0,sv (ByteArray.mk #[]),sv (ByteArray.mk #[]),sv (ByteArray.mk #[]),AV.sl [[iv e.kind,iv e.op,bv e.not,iv e.val.kind,iv e.val.int,sv e.val.text,sv e.table,sv e.name,AV.sl (zab e.args),AV.sl (zaf e.sub)]],AV.nl],Blk.box [iv 6,iv 0,AV.bl false,iv 0,iv 0,sv (ByteArray.mk #[]),sv (ByteArray.mk #[]),sv (ByteArray.mk #[]),AV.sl [[iv e.kind,iv e.op,bv e.not,iv e.val.kind,iv e.val.int,sv e.val.text,sv e.table,sv e.name,AV.sl (zab e.args),AV.sl (zaf e.sub)]],AV.nl],Blk.row Ty.int (List.map zan tc) false,Blk.row Ty.int (List.map zan all++[[iv x.id]]) false]:Heap)=_ by first|rfl|(simp;done)|(simp [X.cells,Qy.cells,V.cells,Col.cells,Rw.cells,Tb.cells,Fr.cells,Sch.cells,Tp.cells,Pl.cells,xCol,xLit,xBin,xNeg,Ac.cells,Se.cells,Pr.cells,Ch.cells,Rw.cells];done)) (gZ R hg)))⟩
theorem zbP {m:List Tb} {w:Str} {e:X} (hT:TcIn m w e) {tc all:List Int} {k:Nat} (hk:k=3) (h:zf0 m w e k tc) (ha:all.length≤(tabC m w).rows.length∧all=((tabC m w).rows.take (tabC m w).rows.length).map Rw.id):srt1 tc=all:=by
 subst hk
 rw [h.2.1,(hT.fin h.2.2).1,ha.2,List.take_length]
theorem zbg {m:List Tb} {w:Str} {e:X} (hT:TcIn m w e) {tc:List Int} {k:Nat} (hk:k=3) (h:zf0 m w e k tc):tc.length≤12:=by
 subst hk
 rw [h.2.1];exact (hT.fin h.2.2).2
theorem tc_0 {m:List Tb} {w:Str} {e:X}:zf0 m w e 0 []:=⟨by simp,rfl,fun j h=>by omega⟩
theorem zib (l:List Int) (hsh:zad zal) (hkn:zac E0 S.law16_known [] [] (bv true) []) (hT:∀ m w e,StoreV 6 m→TabN w→XOk 5 e→TcIn m w e) (hE:∀ (t:Tp) (w:Str),∃ (e:X) (t':Tp),XOk 5 e∧zac E0 S.world_Tape_Expr [.p 0 0,.agg [fsl [⟨w,false,(zar w).cols,[]⟩],.sl (zal.map Sch.cells)],iv 2,iv 2] [.box t.cells] e.av [.box t'.cells]):∃ (b:Bool),b=true∧zac E0 S.law16_DmlTouches [isl l] [] (bv b) []:=by
 obtain ⟨t1,c1⟩:=(zmZ l)
 obtain ⟨r2,t2,q2,c2⟩:=(zgJ t1 6 (by first|assumption|rfl|omega|exact hT _ _ _ (by assumption) (by assumption) (by assumption)|exact tc_0|exact zbg (hT _ _ _ (by assumption) (by assumption) (by assumption)) rfl (by assumption)|exact zbP (hT _ _ _ (by assumption) (by assumption) (by assumption)) rfl (by assumption) (by assumption)|exact (hT _ _ _ (by assumption) (by assumption) (by assumption)).tab|exact (hT _ _ _ (by assumption) (by assumption) (by assumption)).rows|exact za0 (by assumption)|(have:=zbg (hT _ _ _ (by assumption) (by assumption) (by assumption)) rfl (by assumption);simp only [zad];simp;omega)|exact ⟨by simp,by simp⟩) (by first|assumption|rfl|omega|exact hT _ _ _ (by assumption) (by assumption) (by assumption)|exact tc_0|exact zbg (hT _ _ _ (by assumption) (by assumption) (by assumption)) rfl (by assumption)|exact zbP (hT _ _ _ (by assumption) (by assumption) (by assumption)) rfl (by assumption) (by assumption)|exact (hT _ _ _ (by assumption) (by assumption) (by assumption)).tab|exact (hT _ _ _ (by assumption) (by assumption) (by assumption)).rows|exact za0 (by assumption)|(have:=zbg (hT _ _ _ (by assumption) (by assumption) (by assumption)) rfl (by assumption);simp only [zad];simp;omega)|exact ⟨by simp,by simp⟩))
 obtain ⟨w3,t3,q3,c3⟩:=(zhJ t2)
 obtain ⟨e4,t4,q4,c4⟩:=(hE t3 w3)
 let p_1:List St:=[sc c1,sl [0] c2,sl [0] c3,sc (zgD w3 (by first|assumption|rfl|omega|exact hT _ _ _ (by assumption) (by assumption) (by assumption)|exact tc_0|exact zbg (hT _ _ _ (by assumption) (by assumption) (by assumption)) rfl (by assumption)|exact zbP (hT _ _ _ (by assumption) (by assumption) (by assumption)) rfl (by assumption) (by assumption)|exact (hT _ _ _ (by assumption) (by assumption) (by assumption)).tab|exact (hT _ _ _ (by assumption) (by assumption) (by assumption)).rows|exact za0 (by assumption)|(have:=zbg (hT _ _ _ (by assumption) (by assumption) (by assumption)) rfl (by assumption);simp only [zad];simp;omega)|exact ⟨by simp,by simp⟩)),sdm [(5,[sc zdV])] 0 [(0,AV.sl (List.map (fun n=>[iv n]) l)),(2,AV.bl false),(3,AV.p 0 0),(4,AV.sl (List.map Tb.cells r2)),(5,sv w3),(6,AV.p 1 0),(7,AV.p 2 0),(24,AV.sl (List.map (fun n=>[iv n]) l)),(25,AV.p 0 0),(26,AV.p 0 0),(27,AV.sl (List.map Tb.cells r2)),(28,AV.p 0 0),(29,sv w3),(30,sv w3),(31,AV.agg [sv (zar w3).name,AV.sl (List.map Col.cells (zar w3).cols)]),(32,sv w3),(33,AV.p 1 1),(34,AV.sl (List.map Col.cells (zar w3).cols)),(35,AV.agg [sv w3,AV.bl false,AV.sl (List.map Col.cells (zar w3).cols),AV.nl]),(36,AV.sl [[sv w3,bv false,AV.sl (List.map Col.cells (zar w3).cols),AV.sl []]]),(37,AV.sl (List.map Sch.cells zal)),(38,AV.agg [AV.sl [[sv w3,bv false,AV.sl (List.map Col.cells (zar w3).cols),AV.sl []]],AV.sl (List.map Sch.cells zal)])] [Blk.box [AV.sl (List.map (fun n=>[iv n]) t3.l),iv (t3.pos:Int)],Blk.box [sv (zar w3).name,AV.sl (List.map Col.cells (zar w3).cols)],Blk.box [AV.sl [[sv w3,bv false,AV.sl (List.map Col.cells (zar w3).cols),AV.sl []]],AV.sl (List.map Sch.cells zal)]],sl [0] c4]
 rcases zeb r2 w3 e4 t4 ([e4,X.mk 3 0 false (V.mk 0 0 (ByteArray.mk #[])) (ByteArray.mk #[]) (ByteArray.mk #[]) [e4] [],X.mk 6 0 false (V.mk 0 0 (ByteArray.mk #[])) (ByteArray.mk #[]) (ByteArray.mk #[]) [e4] []]) (by first|assumption|rfl|omega|exact hT _ _ _ (by assumption) (by assumption) (by assumption)|exact tc_0|exact zbg (hT _ _ _ (by assumption) (by assumption) (by assumption)) rfl (by assumption)|exact zbP (hT _ _ _ (by assumption) (by assumption) (by assumption)) rfl (by assumption) (by assumption)|exact (hT _ _ _ (by assumption) (by assumption) (by assumption)).tab|exact (hT _ _ _ (by assumption) (by assumption) (by assumption)).rows|exact za0 (by assumption)|(have:=zbg (hT _ _ _ (by assumption) (by assumption) (by assumption)) rfl (by assumption);simp only [zad];simp;omega)|exact ⟨by simp,by simp⟩) (by first|assumption|rfl|omega|exact hT _ _ _ (by assumption) (by assumption) (by assumption)|exact tc_0|exact zbg (hT _ _ _ (by assumption) (by assumption) (by assumption)) rfl (by assumption)|exact zbP (hT _ _ _ (by assumption) (by assumption) (by assumption)) rfl (by assumption) (by assumption)|exact (hT _ _ _ (by assumption) (by assumption) (by assumption)).tab|exact (hT _ _ _ (by assumption) (by assumption) (by assumption)).rows|exact za0 (by assumption)|(have:=zbg (hT _ _ _ (by assumption) (by assumption) (by assumption)) rfl (by assumption);simp only [zad];simp;omega)|exact ⟨by simp,by simp⟩) (by first|assumption|rfl|omega|exact hT _ _ _ (by assumption) (by assumption) (by assumption)|exact tc_0|exact zbg (hT _ _ _ (by assumption) (by assumption) (by assumption)) rfl (by assumption)|exact zbP (hT _ _ _ (by assumption) (by assumption) (by assumption)) rfl (by assumption) (by assumption)|exact (hT _ _ _ (by assumption) (by assumption) (by assumption)).tab|exact (hT _ _ _ (by assumption) (by assumption) (by assumption)).rows|exact za0 (by assumption)|(have:=zbg (hT _ _ _ (by assumption) (by assumption) (by assumption)) rfl (by assumption);simp only [zad];simp;omega)|exact ⟨by simp,by simp⟩) 0 ([]) (by first|assumption|rfl|omega|exact hT _ _ _ (by assumption) (by assumption) (by assumption)|exact tc_0|exact zbg (hT _ _ _ (by assumption) (by assumption) (by assumption)) rfl (by assumption)|exact zbP (hT _ _ _ (by assumption) (by assumption) (by assumption)) rfl (by assumption) (by assumption)|exact (hT _ _ _ (by assumption) (by assumption) (by assumption)).tab|exact (hT _ _ _ (by assumption) (by assumption) (by assumption)).rows|exact za0 (by assumption)|(have:=zbg (hT _ _ _ (by assumption) (by assumption) (by assumption)) rfl (by assumption);simp only [zad];simp;omega)|exact ⟨by simp,by simp⟩) (by first|assumption|rfl|omega|exact hT _ _ _ (by assumption) (by assumption) (by assumption)|exact tc_0|exact zbg (hT _ _ _ (by assumption) (by assumption) (by assumption)) rfl (by assumption)|exact zbP (hT _ _ _ (by assumption) (by assumption) (by assumption)) rfl (by assumption) (by assumption)|exact (hT _ _ _ (by assumption) (by assumption) (by assumption)).tab|exact (hT _ _ _ (by assumption) (by assumption) (by assumption)).rows|exact za0 (by assumption)|(have:=zbg (hT _ _ _ (by assumption) (by assumption) (by assumption)) rfl (by assumption);simp only [zad];simp;omega)|exact ⟨by simp,by simp⟩) with ⟨tc5,q5,q5_1,g5⟩|⟨r5_0,p5_0,g5⟩
 ·obtain ⟨all6,q6,q6_1,g6⟩:=zej w3 e4 t4 tc5.length (srt1 tc5) ((tabC r2 w3).rows) (by first|assumption|rfl|omega|exact hT _ _ _ (by assumption) (by assumption) (by assumption)|exact tc_0|exact zbg (hT _ _ _ (by assumption) (by assumption) (by assumption)) rfl (by assumption)|exact zbP (hT _ _ _ (by assumption) (by assumption) (by assumption)) rfl (by assumption) (by assumption)|exact (hT _ _ _ (by assumption) (by assumption) (by assumption)).tab|exact (hT _ _ _ (by assumption) (by assumption) (by assumption)).rows|exact za0 (by assumption)|(have:=zbg (hT _ _ _ (by assumption) (by assumption) (by assumption)) rfl (by assumption);simp only [zad];simp;omega)|exact ⟨by simp,by simp⟩) 0 ([]) (by first|assumption|rfl|omega|exact hT _ _ _ (by assumption) (by assumption) (by assumption)|exact tc_0|exact zbg (hT _ _ _ (by assumption) (by assumption) (by assumption)) rfl (by assumption)|exact zbP (hT _ _ _ (by assumption) (by assumption) (by assumption)) rfl (by assumption) (by assumption)|exact (hT _ _ _ (by assumption) (by assumption) (by assumption)).tab|exact (hT _ _ _ (by assumption) (by assumption) (by assumption)).rows|exact za0 (by assumption)|(have:=zbg (hT _ _ _ (by assumption) (by assumption) (by assumption)) rfl (by assumption);simp only [zad];simp;omega)|exact ⟨by simp,by simp⟩) (by first|assumption|rfl|omega|exact hT _ _ _ (by assumption) (by assumption) (by assumption)|exact tc_0|exact zbg (hT _ _ _ (by assumption) (by assumption) (by assumption)) rfl (by assumption)|exact zbP (hT _ _ _ (by assumption) (by assumption) (by assumption)) rfl (by assumption) (by assumption)|exact (hT _ _ _ (by assumption) (by assumption) (by assumption)).tab|exact (hT _ _ _ (by assumption) (by assumption) (by assumption)).rows|exact za0 (by assumption)|(have:=zbg (hT _ _ _ (by assumption) (by assumption) (by assumption)) rfl (by assumption);simp only [zad];simp;omega)|exact ⟨by simp,by simp⟩)
  exact ⟨true,(by first|rfl|assumption),wkcN At.law16_DmlTouches p_1 [4,5,11,51,52,53] 6 [(.ot 11 Ty.int,7)] kr (zav (show ([(4,AV.sl (List.map Tb.cells r2)),(5,sv w3),(11,AV.own 6 0),(51,AV.sl [[iv e4.kind,iv e4.op,bv e4.not,iv e4.val.kind,iv e4.val.int,sv e4.val.text,sv e4.table,sv e4.name,AV.sl (zab e4.args),AV.sl (zaf e4.sub)],[iv 3,iv 0,bv false,iv 0,iv 0,sv (ByteArray.mk #[]),sv (ByteArray.mk #[]),sv (ByteArray.mk #[]),AV.sl [[iv e4.kind,iv e4.op,bv e4.not,iv e4.val.kind,iv e4.val.int,sv e4.val.text,sv e4.table,sv e4.name,AV.sl (zab e4.args),AV.sl (zaf e4.sub)]],AV.sl []],[iv 6,iv 0,bv false,iv 0,iv 0,sv (ByteArray.mk #[]),sv (ByteArray.mk #[]),sv (ByteArray.mk #[]),AV.sl [[iv e4.kind,iv e4.op,bv e4.not,iv e4.val.kind,iv e4.val.int,sv e4.val.text,sv e4.table,sv e4.name,AV.sl (zab e4.args),AV.sl (zaf e4.sub)]],AV.sl []]]),(52,iv (↑[[iv e4.kind,iv e4.op,bv e4.not,iv e4.val.kind,iv e4.val.int,sv e4.val.text,sv e4.table,sv e4.name,AV.sl (zab e4.args),AV.sl (zaf e4.sub)],[iv 3,iv 0,bv false,iv 0,iv 0,sv (ByteArray.mk #[]),sv (ByteArray.mk #[]),sv (ByteArray.mk #[]),AV.sl [[iv e4.kind,iv e4.op,bv e4.not,iv e4.val.kind,iv e4.val.int,sv e4.val.text,sv e4.table,sv e4.name,AV.sl (zab e4.args),AV.sl (zaf e4.sub)]],AV.sl []],[iv 6,iv 0,bv false,iv 0,iv 0,sv (ByteArray.mk #[]),sv (ByteArray.mk #[]),sv (ByteArray.mk #[]),AV.sl [[iv e4.kind,iv e4.op,bv e4.not,iv e4.val.kind,iv e4.val.int,sv e4.val.text,sv e4.table,sv e4.name,AV.sl (zab e4.args),AV.sl (zaf e4.sub)]],AV.sl []]].length:Int)),(53,iv 0)]:TS)=_ by first|rfl|(simp;done)|(simp [X.cells,Qy.cells,V.cells,Col.cells,Rw.cells,Tb.cells,Fr.cells,Sch.cells,Tp.cells,Pl.cells,xCol,xLit,xBin,xNeg,Ac.cells,Se.cells,Pr.cells,Ch.cells,Rw.cells];done)) rfl (g5 _ (zaa (wklN [sb (rfl:false=false),sl [6] (ziL tc5 (by first|assumption|rfl|omega|exact hT _ _ _ (by assumption) (by assumption) (by assumption)|exact tc_0|exact zbg (hT _ _ _ (by assumption) (by assumption) (by assumption)) rfl (by assumption)|exact zbP (hT _ _ _ (by assumption) (by assumption) (by assumption)) rfl (by assumption) (by assumption)|exact (hT _ _ _ (by assumption) (by assumption) (by assumption)).tab|exact (hT _ _ _ (by assumption) (by assumption) (by assumption)).rows|exact za0 (by assumption)|(have:=zbg (hT _ _ _ (by assumption) (by assumption) (by assumption)) rfl (by assumption);simp only [zad];simp;omega)|exact ⟨by simp,by simp⟩)),sc (znA r2 w3 (by first|assumption|rfl|omega|exact hT _ _ _ (by assumption) (by assumption) (by assumption)|exact tc_0|exact zbg (hT _ _ _ (by assumption) (by assumption) (by assumption)) rfl (by assumption)|exact zbP (hT _ _ _ (by assumption) (by assumption) (by assumption)) rfl (by assumption) (by assumption)|exact (hT _ _ _ (by assumption) (by assumption) (by assumption)).tab|exact (hT _ _ _ (by assumption) (by assumption) (by assumption)).rows|exact za0 (by assumption)|(have:=zbg (hT _ _ _ (by assumption) (by assumption) (by assumption)) rfl (by assumption);simp only [zad];simp;omega)|exact ⟨by simp,by simp⟩)),se (zkr r2 w3 (by first|assumption|rfl|omega|exact hT _ _ _ (by assumption) (by assumption) (by assumption)|exact tc_0|exact zbg (hT _ _ _ (by assumption) (by assumption) (by assumption)) rfl (by assumption)|exact zbP (hT _ _ _ (by assumption) (by assumption) (by assumption)) rfl (by assumption) (by assumption)|exact (hT _ _ _ (by assumption) (by assumption) (by assumption)).tab|exact (hT _ _ _ (by assumption) (by assumption) (by assumption)).rows|exact za0 (by assumption)|(have:=zbg (hT _ _ _ (by assumption) (by assumption) (by assumption)) rfl (by assumption);simp only [zad];simp;omega)|exact ⟨by simp,by simp⟩))] [11,21,114,115,116] 7 [(.ot 21 Ty.int,8)] kr (g6 _ (zaa (wkr [sb q6_1,skx (tc5.length=(List.map zan (srt1 tc5)).length∧all6.length=(List.map zan all6).length∧True) [] (zcm (srt1 tc5) all6 (by first|assumption|rfl|omega|exact hT _ _ _ (by assumption) (by assumption) (by assumption)|exact tc_0|exact zbg (hT _ _ _ (by assumption) (by assumption) (by assumption)) rfl (by assumption)|exact zbP (hT _ _ _ (by assumption) (by assumption) (by assumption)) rfl (by assumption) (by assumption)|exact (hT _ _ _ (by assumption) (by assumption) (by assumption)).tab|exact (hT _ _ _ (by assumption) (by assumption) (by assumption)).rows|exact za0 (by assumption)|(have:=zbg (hT _ _ _ (by assumption) (by assumption) (by assumption)) rfl (by assumption);simp only [zad];simp;omega)|exact ⟨by simp,by simp⟩) (by first|assumption|rfl|omega|exact hT _ _ _ (by assumption) (by assumption) (by assumption)|exact tc_0|exact zbg (hT _ _ _ (by assumption) (by assumption) (by assumption)) rfl (by assumption)|exact zbP (hT _ _ _ (by assumption) (by assumption) (by assumption)) rfl (by assumption) (by assumption)|exact (hT _ _ _ (by assumption) (by assumption) (by assumption)).tab|exact (hT _ _ _ (by assumption) (by assumption) (by assumption)).rows|exact za0 (by assumption)|(have:=zbg (hT _ _ _ (by assumption) (by assumption) (by assumption)) rfl (by assumption);simp only [zad];simp;omega)|exact ⟨by simp,by simp⟩)),so (rfl:true=true) (sc hkn)] kr)))))))⟩
 ·exact ⟨r5_0,(by first|rfl|assumption),wkcN At.law16_DmlTouches p_1 [4,5,11,51,52,53] 6 [(.ot 11 Ty.int,7)] kr (zav (show ([(4,AV.sl (List.map Tb.cells r2)),(5,sv w3),(11,AV.own 6 0),(51,AV.sl [[iv e4.kind,iv e4.op,bv e4.not,iv e4.val.kind,iv e4.val.int,sv e4.val.text,sv e4.table,sv e4.name,AV.sl (zab e4.args),AV.sl (zaf e4.sub)],[iv 3,iv 0,bv false,iv 0,iv 0,sv (ByteArray.mk #[]),sv (ByteArray.mk #[]),sv (ByteArray.mk #[]),AV.sl [[iv e4.kind,iv e4.op,bv e4.not,iv e4.val.kind,iv e4.val.int,sv e4.val.text,sv e4.table,sv e4.name,AV.sl (zab e4.args),AV.sl (zaf e4.sub)]],AV.sl []],[iv 6,iv 0,bv false,iv 0,iv 0,sv (ByteArray.mk #[]),sv (ByteArray.mk #[]),sv (ByteArray.mk #[]),AV.sl [[iv e4.kind,iv e4.op,bv e4.not,iv e4.val.kind,iv e4.val.int,sv e4.val.text,sv e4.table,sv e4.name,AV.sl (zab e4.args),AV.sl (zaf e4.sub)]],AV.sl []]]),(52,iv (↑[[iv e4.kind,iv e4.op,bv e4.not,iv e4.val.kind,iv e4.val.int,sv e4.val.text,sv e4.table,sv e4.name,AV.sl (zab e4.args),AV.sl (zaf e4.sub)],[iv 3,iv 0,bv false,iv 0,iv 0,sv (ByteArray.mk #[]),sv (ByteArray.mk #[]),sv (ByteArray.mk #[]),AV.sl [[iv e4.kind,iv e4.op,bv e4.not,iv e4.val.kind,iv e4.val.int,sv e4.val.text,sv e4.table,sv e4.name,AV.sl (zab e4.args),AV.sl (zaf e4.sub)]],AV.sl []],[iv 6,iv 0,bv false,iv 0,iv 0,sv (ByteArray.mk #[]),sv (ByteArray.mk #[]),sv (ByteArray.mk #[]),AV.sl [[iv e4.kind,iv e4.op,bv e4.not,iv e4.val.kind,iv e4.val.int,sv e4.val.text,sv e4.table,sv e4.name,AV.sl (zab e4.args),AV.sl (zaf e4.sub)]],AV.sl []]].length:Int)),(53,iv 0)]:TS)=_ by first|rfl|(simp;done)|(simp [X.cells,Qy.cells,V.cells,Col.cells,Rw.cells,Tb.cells,Fr.cells,Sch.cells,Tp.cells,Pl.cells,xCol,xLit,xBin,xNeg,Ac.cells,Se.cells,Pr.cells,Ch.cells,Rw.cells];done)) rfl g5)⟩
end Go.AM
namespace Go.AM
set_option maxRecDepth 100000
set_option maxHeartbeats 1000000
set_option linter.unusedSimpArgs false
set_option linter.unusedVariables false
/- ### the order of values -/
theorem zhU (a:ByteArray):a.toList=a.data.toList:=Lib.toList_data a
theorem zrS {a b:Str} (h:a.toList=b.toList):a=b:=by
 rw [zhU,zhU] at h
 cases a;cases b;simp at h;rw [h]
/- ### least and greatest items -/
/- ### sums -/
end Go.AM
namespace Go.AM
set_option maxRecDepth 100000
set_option maxHeartbeats 1000000
set_option linter.unusedSimpArgs false
set_option linter.unusedVariables false
/- ### sorting -/
def zcu (x:Int):List Int→List Int
 | []=>[x]
 | y::r=>if x < y then y::zcu x r else x::y::r
theorem ze7 (x:Int):∀ l,(zcu x l).Perm (x::l)
 | []=>.refl _
 | y::r=>by
  unfold zcu
  split
  ·exact ((ze7 x r).cons y).trans (List.Perm.swap x y r)
  ·exact .refl _
theorem zh9 (x:Int):∀ l,l.Pairwise (fun a b=>b≤a)→(zcu x l).Pairwise (fun a b=>b≤a)
 | [],_=>by simp [zcu]
 | y::r,h=>by
  obtain ⟨h1,h2⟩:=List.pairwise_cons.1 h
  unfold zcu
  split
  ·refine List.pairwise_cons.2 ⟨fun z hz=>?_,zh9 x r h2⟩
   rcases List.mem_cons.1 ((ze7 x r).mem_iff.1 hz) with e|e
   ·omega
   ·exact h1 z e
  ·refine List.pairwise_cons.2 ⟨fun z hz=>?_,h⟩
   rcases List.mem_cons.1 hz with e|e
   ·omega
   ·have:=h1 z e;omega
theorem znY:∀ (rp:List Int) (x:Int) (post:List Int),insI rp.length (rp.reverse++x::post)=(zcu x rp).reverse++post
 | [],x,post=>rfl
 | y::r,x,post=>by
  have hl:(y::r).reverse++x::post=r.reverse++y::x::post:=by simp
  have g1:(r.reverse++y::x::post).getD (r.length+1) 0=x:=by
   rw [List.getD_eq_getElem?_getD,List.getElem?_append_right (by simp)];simp
  have g0:(r.reverse++y::x::post).getD r.length 0=y:=by
   rw [List.getD_eq_getElem?_getD,List.getElem?_append_right (by simp)];simp
  have s:((r.reverse++y::x::post).set (r.length+1) y).set r.length x=r.reverse++x::y::post:=by
   rw [List.set_append_right _ _ (by simp),List.set_append_right _ _ (by simp)];simp
  rw [hl]
  simp only [List.length_cons,insI,g1,g0,s]
  by_cases h:x < y
  ·simp only [h,decide_true,cond_true,zcu,if_true]
   rw [znY r x (y::post)];simp
  ·simp only [h,decide_false,cond_false,zcu,if_false];simp
theorem znL:∀ (rest rp:List Int),srtI rest.length rp.length (rp.reverse++rest)=(rest.foldl (fun a x=>zcu x a) rp).reverse
 | [],rp=>by simp [srtI]
 | x::rest,rp=>by
  simp only [List.length_cons,srtI,znY,List.foldl_cons]
  have h:=znL rest (zcu x rp)
  rw [(ze7 x rp).length_eq] at h
  exact h
theorem zkX:∀ (rest rp:List Int),(rest.foldl (fun a x=>zcu x a) rp).Perm (rest++rp)
 | [],rp=>.refl _
 | x::rest,rp=>by
  refine (zkX rest (zcu x rp)).trans ?_
  exact ((ze7 x rp).append_left rest).trans List.perm_middle
theorem ziZ:∀ (rest rp:List Int),rp.Pairwise (fun a b=>b≤a)→(rest.foldl (fun a x=>zcu x a) rp).Pairwise (fun a b=>b≤a)
 | [],rp,h=>h
 | x::rest,rp,h=>ziZ rest _ (zh9 x rp h)
theorem zrs (l a:List Int) (hp:l.Perm a) (ha:a.Pairwise (fun x y=>x < y)):srt1 l=a:=by
 cases l with
 | nil=>rw [← hp.nil_eq];rfl
 | cons x rest =>
  have e:srt1 (x::rest)=(rest.foldl (fun a x=>zcu x a) [x]).reverse:=znL rest [x]
  rw [e]
  refine List.Perm.eq_of_pairwise (le:=fun x y:Int=>x≤y) (fun a b _ _ h1 h2=>by omega) ?_ (ha.imp fun h=>by omega) ?_
  ·rw [List.pairwise_reverse];exact ziZ rest [x] (by simp)
  ·refine (List.reverse_perm _).trans ((zkX rest [x]).trans (List.Perm.trans ?_ hp))
   exact (List.perm_append_comm (l₁:=rest) (l₂:=[x]))
/- ### the tables -/
theorem zhN {n:Int} {m:List Tb} {w:Str} (h:StoreV n m) (hw:TabN w):decide (idxF (fun t=>zaD t w) m 0 < 0)=false∧tabC m w∈m∧(tabC m w).sch=zar w∧(zas m w).2=true:=by
 have hs:=h.schs
 match m,hs with
 | [a,b,c],hs =>
  simp only [List.map_cons,List.map_nil,zal,List.cons.injEq,and_true] at hs
  obtain ⟨h1,h2,h3⟩:=hs
  have key:∀ t,t∈[a,b,c]→zbC [a,b,c] w=some t→t.sch=zar w→decide (idxF (fun t=>zaD t w) [a,b,c] 0 < 0)=false∧tabC [a,b,c] w∈[a,b,c]∧(tabC [a,b,c] w).sch=zar w∧(zas [a,b,c] w).2=true:=fun t ht hf hsch=>by
   have hr:(zas [a,b,c] w).2=true:=by rw [ze6,hf]
   obtain ⟨k1,k2,k3,k4⟩:=zjL hr
   rw [hf] at k1
   rw [← Option.some.inj k1]
   exact ⟨k4,ht,hsch,hr⟩
  rcases hw with rfl|rfl|rfl
  ·have e1:zaD a ⟨#[116]⟩=false:=by unfold zaD;rw [h1];kernel_rfl
   have e2:zaD b ⟨#[116]⟩=true:=by unfold zaD;rw [h2];kernel_rfl
   exact key b (by simp) (by simp [zbC,e1,e2]) (by rw [h2];kernel_rfl)
  ·have e1:zaD a ⟨#[117]⟩=false:=by unfold zaD;rw [h1];kernel_rfl
   have e2:zaD b ⟨#[117]⟩=false:=by unfold zaD;rw [h2];kernel_rfl
   have e3:zaD c ⟨#[117]⟩=true:=by unfold zaD;rw [h3];kernel_rfl
   exact key c (by simp) (by simp [zbC,e1,e2,e3]) (by rw [h3];kernel_rfl)
  ·have e1:zaD a ⟨#[108,111,103]⟩=true:=by unfold zaD;rw [h1];kernel_rfl
   exact key a (by simp) (by simp [zbC,e1]) (by rw [h1];kernel_rfl)
 | [],hs=>simp [zal] at hs
 | [a],hs=>simp [zal] at hs
 | [a,b],hs=>simp [zal] at hs
 | a::b::c::d::r,hs=>simp [zal] at hs
theorem StoreV.short {n:Int} {m:List Tb} (h:StoreV n m) (hn:n≤1000):∀ x∈m,∀ r∈x.rows,zad r.vals:=fun x hx r hr=>by
 have h1:=((h.rows x hx).fit r hr).len
 have h2:=((h.ok hn).tabs x hx).2.few
 have h3:r.vals.length=x.sch.cols.length:=h1
 simp only [zad,Few] at *;omega
theorem zlP {n:Int} {k:Nat} {a:Ac} {m:List Tb} (h:StoreV n m) (hn:n≤1000) (hk:k≤900) (ha:AcOk k a) (h1:1≤a.kind∧a.kind≤3):DmlIn k a [] m :=
 ⟨ha,h1,zmM (k+1) (by omega),zn8,(h.ok hn).tbOk,(h.ok hn).tbG,h.short hn⟩
theorem acD_ok {k:Nat} {w:Str} {x:X} (h:XOk k x):AcOk k (acD w x) :=
 ⟨by simp,by simp,by simp,by simp,by simp,by simp,by simp,all1 h⟩
theorem acU_ok {k:Nat} {w c:Str} {v x:X} (hv:XOk k v) (h:XOk k x):AcOk k (acU w c v x) :=
 ⟨by simp,by simp,by simp,by simp,by simp,fun s hs=>by simp only [List.mem_singleton] at hs;subst hs;exact hv,by simp,all1 h⟩
/- ### the codes -/
theorem actD {f:X→Bool} {w:Str} {x:X} (hw:TabN w):actB f (acD w x)=f x:=by
 have:actB f (acD w x)=(f x&&true):=by rcases hw with rfl|rfl|rfl <;> kernel_rfl
 rw [this,Bool.and_true]
theorem zi8 (tr:Rw→Bool × Int) (a:Ac) (s:Sch) (frs:List Fr) (tb:List Tb) (t:Tb):∀ (l:List Rw) (i:Nat) (del:List Int),(cndD tr a s frs tb t l i del).1.del.length≤del.length+l.length
 | [],i,del=>by unfold cndD;simp
 | x::r,i,del=>by
  have h1:=zi8 tr a s frs tb t r (i+1) del
  have h2:=zi8 tr a s frs tb t r (i+1) (del++[x.id])
  unfold cndD
  cases (tr x).2 != 0 <;> cases (tr x).1 <;> simp at * <;> omega
theorem zjo {tr:Rw→Bool × Int} {ag:Rw→List V × Int} {a b:Ac} {s:Sch} {frs:List Fr} {tb:List Tb} {t:Tb}:∀ (l:List Rw) (i:Nat) (del:List Int) (upd:List Pr),(∀ r∈l,(ag r).2=0)→upd.map Pr.id=del→(cndD tr a s frs tb t l i del).2=(cndU tr ag b s frs tb t l i upd).2∧(cndU tr ag b s frs tb t l i upd).1.upd.map Pr.id=(cndD tr a s frs tb t l i del).1.del
 | [],i,del,upd,h,hd=>by unfold cndD cndU;exact ⟨rfl,hd⟩
 | x::r,i,del,upd,h,hd=>by
  have h0:=h x (by simp)
  have hr:∀ y∈r,(ag y).2=0:=fun y hy=>h y (by simp [hy])
  unfold cndD cndU
  cases (tr x).2 != 0
  ·cases (tr x).1
   ·exact zjo r (i+1) del upd hr hd
   ·have:=zjo (tr:=tr) (a:=a) (b:=b) (s:=s) (frs:=frs) (tb:=tb) (t:=t) r (i+1) (del++[x.id]) (upd++[⟨x.id,x.vals,(ag x).1⟩]) hr (by simp [hd])
    simp only [h0,cond_false,Bool.not_true]
    exact this
  ·exact ⟨rfl,rfl⟩
theorem zin {tr:Rw→Bool × Int} {a:Ac} {s:Sch} {frs:List Fr} {tb:List Tb} {t:Tb}:∀ (l:List Rw) (i:Nat) (del:List Int),(cndD tr a s frs tb t l i del).2=0→(∀ r∈l,(tr r).2=0)∧(cndD tr a s frs tb t l i del).1.del=del++(l.filter fun r=>(tr r).1).map Rw.id
 | [],i,del,h=>by unfold cndD;simp
 | x::r,i,del,h=>by
  unfold cndD at h ⊢
  cases h1:(tr x).2 != 0
  ·rw [h1] at h
   have h2:(tr x).2=0:=by simpa using h1
   cases h3:(tr x).1
   ·rw [h3] at h
    obtain ⟨a1,a2⟩:=zin r (i+1) del h
    simp only [Bool.not_false,cond_false,cond_true]
    refine ⟨fun y hy=>?_,by rw [a2];simp [h3]⟩
    rcases List.mem_cons.1 hy with rfl|hy
    ·exact h2
    ·exact a1 y hy
   ·rw [h3] at h
    obtain ⟨a1,a2⟩:=zin r (i+1) (del++[x.id]) h
    simp only [Bool.not_true,cond_false]
    refine ⟨fun y hy=>?_,by rw [a2];simp [h3]⟩
    rcases List.mem_cons.1 hy with rfl|hy
    ·exact h2
    ·exact a1 y hy
  ·rw [h1] at h;simp at h;simp [h] at h1
theorem one5 (frs:List Fr) (tb:List Tb):eval 5 xOne frs tb=(⟨1,1,⟨#[]⟩⟩,0):=by kernel_rfl
theorem one6 (frs:List Fr) (tb:List Tb):eval 6 xOne frs tb=(⟨1,1,⟨#[]⟩⟩,0):=by kernel_rfl
theorem asg1 {f:X→V × Int} {w:Str} {x:X} {frs:List Fr} {tb:List Tb} {row:List V} {v:V} {e:X} (hw:TabN w) (hf:f e=(v,0)) (hr:row.length=(zar w).cols.length):asgn f (acU w sN e x) (zar w) row frs tb=(row.set (idxF (fun c=>colC c sN) (zar w).cols 0).toNat v,0):=by
 have h0:decide (idxF (fun c=>colC c sN) (zar w).cols 0 < 0)=false:=by rcases hw with rfl|rfl|rfl <;> kernel_rfl
 have h1:idxF (fun c=>colC c sN) (zar w).cols 0 < ((zar w).cols.length:Int):=by
  rcases hw with rfl|rfl|rfl <;> exact of_decide_eq_true kr
 have h2:decide ((row.length:Int)≤idxF (fun c=>colC c sN) (zar w).cols 0)=false:=by
  rw [decide_eq_false_iff_not,hr];omega
 unfold asgn
 simp only [asgL,h0,h2,hf,cond_false,bne_self_eq_false]
theorem actU5 {w:Str} {x:X} (hw:TabN w):actB (vX 5) (acU w sN xOne x)=vX 5 x:=by
 have:actB (vX 5) (acU w sN xOne x)=(vX 5 x&&true):=by rcases hw with rfl|rfl|rfl <;> kernel_rfl
 rw [this,Bool.and_true]
theorem actU6 {w:Str} {x:X} (hw:TabN w):actB (vX 6) (acU w sN xOne x)=vX 6 x:=by
 have:actB (vX 6) (acU w sN xOne x)=(vX 6 x&&true):=by rcases hw with rfl|rfl|rfl <;> kernel_rfl
 rw [this,Bool.and_true]
theorem zpI {a:Ac} {b:Bool} {tb:List Tb} {w:Str} (hw:a.table=w) (h:(zas tb w).2=true):(tgt a b tb).2=bif b then 0 else 17:=by
 subst hw
 unfold tgt;rw [h];cases b <;> rfl
theorem zpR {k:Nat} {w:Str} {x:X} {m:List Tb} (h:(zas m w).2=true) (hw:TabN w):zdo k (acD w x) [] m=bif vX k x then zg5 (cTr k (acD w x) [] (tabC m w).sch m) (acD w x) (tabC m w).sch [] m else ziH (acD w x) (tgt (acD w x) (vX k x) m).1 17:=by
 unfold zdo
 rw [actD hw,zpI rfl h]
 cases vX k x <;> rfl
theorem pcandU {k:Nat} {w c:Str} {v x:X} {m:List Tb} (h:(zas m w).2=true) (ha:actB (vX k) (acU w c v x)=vX k x):zdo k (acU w c v x) [] m=bif vX k x then zjM (cTr k (acU w c v x) [] (tabC m w).sch m) (cAg k (acU w c v x) [] (tabC m w).sch m) (acU w c v x) (tabC m w).sch [] m else ziH (acU w c v x) (tgt (acU w c v x) (vX k x) m).1 17:=by
 unfold zdo
 rw [ha,zpI rfl h]
 cases vX k x <;> rfl
theorem zo0 {k:Nat} {w:Str} {x:X} {m:List Tb} (hm:StoreV 6 m) (hw:TabN w) (ha:actB (vX k) (acU w sN xOne x)=vX k x) (h1:∀ frs tb,eval k xOne frs tb=(⟨1,1,⟨#[]⟩⟩,0)):TcOk (zdo k (acD w x) [] m) (zdo k (acU w sN xOne x) [] m):=by
 obtain ⟨t1,t2,t3,t4⟩:=zhN hm hw
 rw [zpR t4 hw,pcandU t4 ha]
 cases vX k x
 ·exact ⟨rfl,rfl,by simp [ziH]⟩
 ·simp only [cond_true]
  have hag:∀ r∈(tabC m w).rows,(cAg k (acU w sN xOne x) [] (tabC m w).sch m r).2=0:=fun r hr=>by
   have hl:=((hm.rows _ t2).fit r hr).len
   rw [t3] at hl
   unfold cAg
   rw [t3,asg1 hw (h1 _ _) hl]
  have hb:=zjo (tr:=cTr k (acD w x) [] (tabC m w).sch m) (a:=acD w x) (b:=acU w sN xOne x) (s:=(tabC m w).sch) (frs:=[]) (tb:=m) (t:=tabC m w) (tabC m w).rows 0 [] [] hag rfl
  have hl:=zi8 (cTr k (acD w x) [] (tabC m w).sch m) (acD w x) (tabC m w).sch [] m (tabC m w) (tabC m w).rows 0 []
  have h6:=hm.len _ t2
  exact ⟨hb.1,hb.2,by simp at hl;unfold zg5;simp;omega⟩
/- ### three values -/
theorem zqO (n:Nat) (e:X) (frs:List Fr) (tb:List Tb):eval (n+1) (zf5 e) frs tb=bif (eval n e frs tb).2 != 0 then (⟨0,0,⟨#[]⟩⟩,(eval n e frs tb).2) else ((zjs 0 false (eval n e frs tb).1).1,(zjs 0 false (eval n e frs tb).1).2):=by kernel_rfl
theorem zqs (n:Nat) (e:X) (frs:List Fr) (tb:List Tb):eval (n+1) (zf6 e) frs tb=bif (eval n e frs tb).2 != 0 then (⟨0,0,⟨#[]⟩⟩,(eval n e frs tb).2) else ((zfq 0 false (eval n e frs tb).1).1,(zfq 0 false (eval n e frs tb).1).2):=by kernel_rfl
theorem zlG {v:V} (h:zbU v=true):v=⟨0,0,⟨#[]⟩⟩∨v=⟨2,0,⟨#[]⟩⟩∨v=⟨2,1,⟨#[]⟩⟩:=by
 obtain ⟨k,i,t⟩:=v
 unfold zbU at h
 cases hv:zbV ⟨k,i,t⟩
 ·rw [hv] at h;cases h
 ·rw [hv] at h
  simp only [cond_true] at h
  by_cases h0:k=0
  ·subst h0
   simp [zbV] at hv
   exact .inl (by rw [hv.1,bb_eq hv.2])
  ·have h2:k=2:=by simpa [h0] using h
   subst h2
   simp only [zbV] at hv
   have ht:∀ {t:Str},(ByteArray.toList t==(ByteArray.mk #[]).toList)=true→t=⟨#[]⟩:=fun h=>zrS (by simpa using h)
   by_cases hi:i=0
   ·subst hi;obtain rfl:t=⟨#[]⟩:=ht (by simpa using hv);exact .inr (.inl rfl)
   ·by_cases hi1:i=1
    ·subst hi1;obtain rfl:t=⟨#[]⟩:=ht (by simpa using hv);exact .inr (.inr rfl)
    ·simp [hi,hi1] at hv
theorem three {n:Nat} {e:X} {frs:List Fr} {tb:List Tb} (h0:(zb8 (fun x=>eval n x frs tb) e).2=0) :
  ((zb8 (fun x=>eval n x frs tb) e).1=true∧(zb8 (fun x=>eval (n+1) x frs tb) (zf5 e)).1=false∧(zb8 (fun x=>eval (n+1) x frs tb) (zf6 e)).1=false) ∨
  ((zb8 (fun x=>eval n x frs tb) e).1=false∧(zb8 (fun x=>eval (n+1) x frs tb) (zf5 e)).1=true∧(zb8 (fun x=>eval (n+1) x frs tb) (zf6 e)).1=false) ∨
  ((zb8 (fun x=>eval n x frs tb) e).1=false∧(zb8 (fun x=>eval (n+1) x frs tb) (zf5 e)).1=false∧(zb8 (fun x=>eval (n+1) x frs tb) (zf6 e)).1=true):=by
 unfold zb8 at *
 simp only [zqO,zqs] at *
 generalize eval n e frs tb=r at *
 obtain ⟨v,c⟩:=r
 by_cases hc:c=0
 ·subst hc
  by_cases hv:zbU v=true
  ·rcases zlG hv with rfl|rfl|rfl
   ·exact .inr (.inr ⟨by kernel_rfl,by kernel_rfl,by kernel_rfl⟩)
   ·exact .inr (.inl ⟨by kernel_rfl,by kernel_rfl,by kernel_rfl⟩)
   ·exact .inl ⟨by kernel_rfl,by kernel_rfl,by kernel_rfl⟩
  ·have hv:zbU v=false:=by simpa using hv
   simp [hv] at h0
 ·have hcb:(c==0)=false:=by simpa using hc
  simp only [hcb,cond_false] at h0
  exact absurd h0 hc
theorem zbR {l:List Rw} {p q r:Rw→Bool} (h:∀ x∈l,(p x=true∧q x=false∧r x=false)∨(p x=false∧q x=true∧r x=false)∨(p x=false∧q x=false∧r x=true)):(l.filter p++(l.filter q++l.filter r)).Perm l:=by
 induction l with
 | nil=>exact .refl _
 | cons x l ih =>
  have ih:=ih fun y hy=>h y (by simp [hy])
  rcases h x (by simp) with ⟨h1,h2,h3⟩|⟨h1,h2,h3⟩|⟨h1,h2,h3⟩
  ·simp only [List.filter_cons,h1,h2,h3,if_true,List.cons_append,Bool.false_eq_true,if_false]
   exact ih.cons x
  ·simp only [List.filter_cons,h1,h2,h3,if_true,List.cons_append,Bool.false_eq_true,if_false]
   exact List.perm_middle.trans (ih.cons x)
  ·simp only [List.filter_cons,h1,h2,h3,if_true,Bool.false_eq_true,if_false]
   exact ((List.perm_middle.append_left _).trans List.perm_middle).trans (ih.cons x)
theorem zo4 {m:List Tb} {w:Str} {e:X} {j:Nat} {k:Nat} {x:X} (hk:(bif j==0 then 5 else 6)=k) (hx:(tcEs e).getD j e=x) (hm:StoreV 6 m) (hw:TabN w) (h:(tcD m w e j).2=0):(∀ r∈(tabC m w).rows,(cTr k (acD w x) [] (tabC m w).sch m r).2=0)∧(tcD m w e j).1.del=((tabC m w).rows.filter fun r=>(cTr k (acD w x) [] (tabC m w).sch m r).1).map Rw.id:=by
 obtain ⟨t1,t2,t3,t4⟩:=zhN hm hw
 unfold tcD at h ⊢
 rw [hk,hx,zpR t4 hw] at h ⊢
 cases hv:vX k x
 ·rw [hv] at h;cases h
 ·rw [hv] at h
  simp only [cond_true] at h ⊢
  have:=zin (tr:=cTr k (acD w x) [] (tabC m w).sch m) (a:=acD w x) (s:=(tabC m w).sch) (frs:=[]) (tb:=m) (t:=tabC m w) (tabC m w).rows 0 [] h
  simpa [zg5] using this
theorem zrm (m:List Tb) (w:Str) (e:X) (hm:StoreV 6 m) (hw:TabN w) (he:XOk 5 e):TcIn m w e:=by
 obtain ⟨t1,t2,t3,t4⟩:=zhN hm hw
 have hx:∀ j x,(tcEs e)[j]?=some x→(tcEs e).getD j e=x∧XOk (bif j==0 then 5 else 6) x∧XOk (bif j==0 then 5 else 6) xOne:=fun j x hj=>by
  refine ⟨by rw [List.getD_eq_getElem?_getD,hj];rfl,?_⟩
  match j,hj with
  | 0,hj=>simp only [List.getElem?_cons_zero,Option.some.injEq] at hj;subst hj;exact ⟨he,zc7 (zbk ⟨by decide,by decide⟩)⟩
  | 1,hj=>simp only [List.getElem?_cons_succ,List.getElem?_cons_zero,Option.some.injEq] at hj;subst hj;exact ⟨zj2 he,zc7 (zbk ⟨by decide,by decide⟩)⟩
  | 2,hj=>simp only [List.getElem?_cons_succ,List.getElem?_cons_zero,Option.some.injEq] at hj;subst hj;exact ⟨zj2 he,zc7 (zbk ⟨by decide,by decide⟩)⟩
  | j+3,hj=>simp at hj
 have hk:∀ j:Nat,(bif j==0 then 5 else 6)≤900:=fun j=>by cases j==0 <;> decide
 refine ⟨fun j x hj=>?_,fun j x hj=>?_,fun j hj=>?_,fun h=>?_,t1,by have:=hm.len _ t2;omega⟩
 ·obtain ⟨a1,a2,a3⟩:=hx j x hj
  unfold tcD;rw [a1]
  exact zmK (zlP hm (by decide) (hk j) (acD_ok a2) (show (1:Int)≤3∧(3:Int)≤3 by omega))
 ·obtain ⟨a1,a2,a3⟩:=hx j x hj
  unfold tcU;rw [a1]
  exact zmK (zlP hm (by decide) (hk j) (acU_ok a3 a2) (show (1:Int)≤2∧(2:Int)≤3 by omega))
 ·match j,hj with
  | 0,_=>exact zo0 hm hw (actU5 hw) one5
  | 1,_=>exact zo0 hm hw (actU6 hw) one6
  | 2,_=>exact zo0 hm hw (actU6 hw) one6
 ·obtain ⟨c0,d0⟩:=zo4 (k:=5) (x:=e) rfl rfl hm hw (h 0 (by omega))
  obtain ⟨c1,d1⟩:=zo4 (k:=6) (x:=zf5 e) rfl rfl hm hw (h 1 (by omega))
  obtain ⟨c2,d2⟩:=zo4 (k:=6) (x:=zf6 e) rfl rfl hm hw (h 2 (by omega))
  have hall:ziG m w e 3=((tabC m w).rows.filter (fun r=>(cTr 5 (acD w e) [] (tabC m w).sch m r).1)++((tabC m w).rows.filter (fun r=>(cTr 6 (acD w (zf5 e)) [] (tabC m w).sch m r).1)++(tabC m w).rows.filter (fun r=>(cTr 6 (acD w (zf6 e)) [] (tabC m w).sch m r).1))).map Rw.id:=by
   unfold ziG
   simp only [List.range_succ,List.range_zero,List.nil_append,List.cons_append,List.flatMap_cons,List.flatMap_nil,List.append_nil,d0,d1,d2,List.map_append]
  have hp:=zbR (l:=(tabC m w).rows) (p:=fun r=>(cTr 5 (acD w e) [] (tabC m w).sch m r).1) (q:=fun r=>(cTr 6 (acD w (zf5 e)) [] (tabC m w).sch m r).1) (r:=fun r=>(cTr 6 (acD w (zf6 e)) [] (tabC m w).sch m r).1) (fun r hr=>three (c0 r hr))
  have hp:=hp.map Rw.id
  rw [← hall] at hp
  refine ⟨zrs _ _ hp ?_,?_⟩
  ·rw [List.pairwise_map];exact (hm.rows _ t2).asc
  ·have:=hp.length_eq;simp only [List.length_map] at this;have:=hm.len _ t2;omega
theorem hE_of (t:Tp) (w:Str) (hc:Few (zar w).cols):∃ (e:X) (t':Tp),XOk 5 e∧zac E0 S.world_Tape_Expr [.p 0 0,.agg [fsl [⟨w,false,(zar w).cols,[]⟩],.sl (zal.map Sch.cells)],iv 2,iv 2] [.box t.cells] e.av [.box t'.cells] :=
 zgv t ⟨[⟨w,false,(zar w).cols,[]⟩],zal⟩ 2 ⟨by simp,fun f hf=>by simp only [List.mem_singleton] at hf;subst hf;exact hc,by simp [zal],by simp [zal],fun s hs=>(zhj hs).few⟩
theorem ziW (n:Str):∀ (l:List Sch) (i:Nat),(∀ s∈l,Few s.cols)→Few (zdA n l i).cols
 | [],i,_=>by simp [zdA]
 | x::r,i,h=>by
  unfold zdA
  cases ByteArray.toList x.name==ByteArray.toList n
  ·exact ziW n r (i+1) fun s hs=>h s (by simp [hs])
  ·exact h x (by simp)
theorem zoR (w:Str):Few (zar w).cols:=ziW w zal 0 fun s hs=>(zhj hs).few
theorem zpt (l:List Int):zac E0 S.law16_DmlTouches [isl l] [] (bv true) []:=by
 obtain ⟨b,rfl,h⟩:=zib l zhp zle zrm (fun t w=>hE_of t w (zoR w))
 exact h
end Go.AM
namespace Go.AM
open Go.RowKit
set_option linter.unusedSimpArgs false
set_option linter.unusedVariables false
abbrev old (W:World):Addr→Prop:=fun a=>a.block < W.heap.size
theorem znQ {W:World} {a:Addr} {v:Value} (h:W.cell? a=some v):a.block < W.heap.size:=by
 unfold World.cell? at h
 cases hb:W.heap[a.block]? with
 | none=>rw [hb] at h;cases h
 | some o=>exact (Array.getElem?_eq_some_iff.1 hb).1
theorem relD_strs {W:World} {g:Nat} (l:List Str) (h:∀ (j:Nat) (s:Str),l[j]?=some s→W.cell? ⟨g,j,none⟩=some (.string s)):RelD W (old W) (.dp (l.map sv)) (.pointer (some ⟨g,0,none⟩)):=by
 refine .dp _ g 0 (fun j=>.string (l.getD j ⟨#[]⟩)) (fun j x hx=>?_) (fun j x hx=>?_)
 ·simp only [List.getElem?_map,Option.map_eq_some_iff] at hx
  obtain ⟨s,hs,rfl⟩:=hx
  have hc:=h j s hs
  rw [Nat.zero_add]
  refine ⟨znQ hc,?_,rfl⟩
  rw [hc,List.getD_eq_getElem?_getD,hs];rfl
 ·simp only [List.getElem?_map,Option.map_eq_some_iff] at hx
  obtain ⟨s,hs,rfl⟩:=hx
  have:l.getD j ⟨#[]⟩=s:=by rw [List.getD_eq_getElem?_getD,hs];rfl
  simp only [this]
  exact .v _ rfl
theorem zqw {s:ByteArray} {l:List UInt8} (h:s.data.toList=l):s=zdR l:=by
 cases s with
 | mk d=>simp only [zdR];congr;rw [← h]
theorem laid_strs {P:Program} {W:World} {n:String} {g:Nat} {t e:TypeId} {k:Nat} {l:List (List UInt8)} (hr:Lib.VarReads P W n (.agg (l.map fun b=>.lit (.string b)))) (hg:P.globalNamed n=some g) (hty:(P.globals[g]?).map (·.type)=some t)
  (ht:P.underlying t=some (.array k e)) (he:P.underlying e=some .string) (hc:P.cellsOf e=1) (hk:l.length=k):∀ (j:Nat) (s:Str),(l.map zdR)[j]?=some s→W.cell? ⟨g,j,none⟩=some (.string s):=by
 intro j s hs
 obtain ⟨g',t',cs,fuel,p,h1,h2,h3,h4⟩:=hr
 obtain rfl:g'=g:=Option.some.inj (h1.symm.trans hg)
 obtain rfl:t'=t:=Option.some.inj (h2.symm.trans hty)
 simp only [List.getElem?_map,Option.map_eq_some_iff] at hs
 obtain ⟨b,hb,rfl⟩:=hs
 have hj:=zeu hb
 obtain ⟨f',d,q,hd,hq⟩:=Lib.array_elem ht h4 j (by omega)
 simp only [List.getElem?_map,hb,Option.map_some,Option.some.injEq] at hd
 subst hd
 obtain ⟨s,e1,e2,_⟩:=DataW.trod_string he hq
 rw [World.var?_cell h1 h3]
 rw [hc,Nat.mul_one] at e1
 have e3:cs.toList[j]?=some (.string s):=by
  have:=congrArg (·[0]?) e1
  simpa [List.getElem?_take,List.getElem?_drop] using this
 have e4:s=zdR b:=zqw (by simp only [Prod.mk.injEq,DataW.lit.injEq,Lit.string.injEq] at e2;exact e2.1.symm)
 rw [← e4]
 simpa using e3
theorem relV_ints {W:World} {a:Addr} {len cap:Nat} {zs:List Int} (h1:len≤cap) (h2:cap≤maxLen) (h3:zs.length=cap) (hc:∀ i,i < zs.length→W.cell? (a.add i)=some (.int .i64 (zs.getD i 0))) :
  RelV E0.T [] [] W (old W) (isl (zs.take len)) (.slice (some a) len cap):=by
 have hlen:((zs.take len).map fun n=>[iv n]).length=len:=by simp;omega
 have key:=RelD.sl (w:=W) (S:=old W) ((zs.take len).map fun n=>[iv n]) (some a) cap a.block a.off 1 (fun k=>.int .i64 (zs.getD k 0)) ?_ (by rw [hlen];exact h1) h2 (fun i c hi=>?_) (fun i j c x hi hj=>?_) (fun i j c x hi hj=>?_)
 ·rw [hlen] at key
  exact .d _ _ key
 ·intro hne
  have hz:0 < zs.length:=by
   rcases Nat.eq_zero_or_pos zs.length with h|h
   ·exact absurd (by simp [List.eq_nil_of_length_eq_zero h]) hne
   ·exact h
  have h0:=hc 0 hz
  have:a.spot=none:=by
   simp only [Addr.add,if_pos] at h0
   unfold World.cell? at h0
   split at h0
   ·cases hs:a.spot with
    | none=>rfl
    | some x=>rw [hs] at h0;simp at h0
   ·cases h0
  cases a
  simp only at this
  subst this
  rfl
 ·simp only [List.getElem?_map,Option.map_eq_some_iff] at hi
  obtain ⟨n,_,rfl⟩:=hi
  rfl
 ·simp only [List.getElem?_map,Option.map_eq_some_iff] at hi
  obtain ⟨n,hn,rfl⟩:=hi
  have hi2:=zeu hn
  simp only [List.length_take] at hi2
  have hj0:j=0:=by
   cases j with
   | zero=>rfl
   | succ j=>simp at hj
  subst hj0
  have h0:=hc i (by omega)
  have e:a.add i=⟨a.block,a.off+(i * 1+0),none⟩:=by
   unfold Addr.add
   split
   ·rename_i hi0
    subst hi0
    have:a.spot=none:=by
     simp only [Addr.add,if_pos] at h0
     unfold World.cell? at h0
     split at h0
     ·cases hs:a.spot with
      | none=>rfl
      | some x=>rw [hs] at h0;simp at h0
     ·cases h0
    cases a
    simp only at this
    subst this
    rfl
   ·simp
  rw [e] at h0
  refine ⟨znQ h0,?_,rfl⟩
  rw [h0];simp
 ·simp only [List.getElem?_map,Option.map_eq_some_iff] at hi
  obtain ⟨n,hn,rfl⟩:=hi
  have hj0:j=0:=by
   cases j with
   | zero=>rfl
   | succ j=>simp at hj
  subst hj0
  simp only [List.getElem?_cons_zero,Option.some.injEq] at hj
  subst hj
  have:zs.getD (i * 1+0) 0=n:=by
   rw [List.getElem?_take] at hn
   split at hn
   ·simp only [Nat.mul_one,Nat.add_zero,List.getD_eq_getElem?_getD,hn];rfl
   ·cases hn
  simp only [this]
  exact .v _ rfl
theorem relV_nil {W:World}:RelV E0.T [] [] W (old W) (isl []) (.slice none 0 0) :=
 .d _ _ (RelD.sl [] none 0 0 0 1 (fun _=>.int .i64 0) (fun h=>absurd rfl h) (Nat.le_refl _) (by decide) (fun i c h=>by simp at h) (fun i j c x h=>by simp at h) (fun i j c x h=>by simp at h))
theorem oneCell_ok {P:Program} {w:World} {r:Reach} {b:Nat} {u:TypeId} {y:Value} (h:Cell.okWide P w r b u y):y.oneCell'=true:=by
 have h2:∀ y,Cell.ok P w r b u y→y.oneCell'=true:=by
  intro y h
  unfold Cell.ok at h
  split at h <;> first|rfl|exact h.elim
 unfold Cell.okWide at h
 split at h <;> first|rfl|exact h2 _ h
theorem calls_of {f:FuncId} {args:List AV} {b:Bool} (h:zac E0 f args [] (bv b) []) (hgo:GoFn E0.P f) {W:World} {vs:List Value} (hglob:∀ g cs,globs g=some cs→RelD W (old W) (.dp cs) (.pointer (some ⟨g,0,none⟩))) (hargs:PW (RelV E0.T [] [] W (old W)) args vs) :
  Calls E0.P f vs.toArray W fun e W'=>e=.returned (.bool b)∧Below W.heap.size W W':=by
 have hrel:Rel E0 [] [] (old W) W:=⟨rfl,fun b cs hb=>by simp at hb,fun b e xs sh hb=>by simp at hb,fun b es hb=>by simp at hb,fun b b' k k' g hb=>by simp at hb,fun b k g hb=>by simp at hb,fun a ha=>ha,fun b k g a hb=>by simp at hb,hglob⟩
 obtain ⟨fn,hf1,hf2,hf3⟩:=hgo
 have hp:∀ e W',Post E0 [] [] (old W) W (fun r' h''=>r'=bv b∧h''=[]) e W'→e=.returned (.bool b)∧Below W.heap.size W W':=by
  rintro e W' ⟨r,h',β',S',y,rfl,⟨rfl,rfl⟩,_,ex,rv⟩
  refine ⟨?_,ex.os,ex.tape,ex.output,ex.size,fun k hk=>ex.keep k hk fun b' k' hb=>by simp at hb⟩
  rw [rv.v_inv]
 rcases h [] (old W) W vs hrel hargs with ⟨_,hc⟩|⟨y,w',hrun,_⟩
 ·exact hc.mono hp
 ·exfalso
  simp only [callFunc,Sem.run_bind,Sem.run_pure,Result.andThen_ok,run_program,hf1,hf2,hf3,Bool.false_eq_true,if_false] at hrun
  cases hrun
end Go.AM
