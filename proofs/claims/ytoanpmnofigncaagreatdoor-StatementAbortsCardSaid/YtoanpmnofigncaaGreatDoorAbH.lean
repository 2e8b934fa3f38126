/-
  Contracts of the program's functions, part 7.
-/
import Derived.Test.YtoanpmnofigncaaGreatDoorAbG
import Derived.Carry
import Derived.ChangeSame
import Derived.Lib.LaidU8
import Derived.FnData
set_option maxRecDepth 100000
set_option maxHeartbeats 40000000
set_option linter.unusedSimpArgs false
set_option linter.unusedVariables false
namespace Go.AM
theorem zh8 {p:Prop} (h:p:=by first|assumption|rfl|omega|(simp [zac];done)|decide):p:=h
theorem zhl (m:List Tb) (trig:List (List AV)) (s:Sch) (t:Tb) (ins:List (List V)) (g:List V->List V) (hr:zac t.rows) (hl:zac ins) (hne:ins≠[]) (hR:∀ l∈ins,zaa E0 S.AE [.sl trig,.sl [],s.av,.sl [],vsl l,tsl m,.sl []] [] (.tup [vsl (g l),.sl [],.sl [],iv 0]) []):zaa E0 S.Ad [.p 0 0,.p 2 0,t.av] (rrH m trig s ins) (iv 0) [.box (runB m trig s (.sl []) (.own 5 0)),.row Ty.int [] true,.box [.own 3 ins.length,.nl,.nl],.row Ty.LValue ((ins.map g).map vrow) false,.box t.cells,.row Ty.int [] false]:=by
 obtain ⟨r,rfl,h⟩:=zxZ m trig s t ins g hr hl hne hR
 exact h
theorem zAT (m:List Tb) (frs:List Fr) (nm:Str) (rows:List (List X)) (ts:List Tg) (trig:List (List AV)) (t t2:Tb) (a:Nat) (ins:List (List V)) (g:List V->List V) (hl:m.length<=1000) (hx:m[a]?=some t) (hal:a < m.length) (hfd:zaa E0 S.Ck [tsl m,sv nm] [] (iv (a:Nat)) []) (hn:decide (((a:Nat):Int) < 0)=false) (hC:zaa E0 S.Ak [(zay nm rows).av,fsl frs,tsl m] [] (.tup [.agg [.own 5 ins.length,.nl,.nl],iv 0]) [.box (zay nm rows).cells,.box [.own 5 ins.length,.nl,.nl],.box t.sch.cells,.box (zay nm rows).cells,.box t.sch.cells,.row Ty.LValue (ins.map vrow) false]) (hd:∀ t∈m,zac t.sch.cols/\zac t.rows/\∀ r∈t.rows,zac r.vals) (hF:zaa E0 S.At [.sl (ts.map Tg.cells),sv nm,iv 1,.sl [],bv false] [] (.sl []) []) (hT:zaa E0 S.At [.sl (ts.map Tg.cells),sv nm,iv 1,.sl [],bv true] [] (.sl trig) []) (hz:(((0+0+ins.length:Nat):Int)==0)=false) (hr:zac t.rows) (hli:zac ins) (hne:ins≠[]) (hR:∀ l∈ins,zaa E0 S.AE [.sl trig,.sl [],t.sch.av,.sl [],vsl l,tsl m,.sl []] [] (.tup [vsl (g l),.sl [],.sl [],iv 0]) []) (hA:zaa E0 S.BA [t.av,insC (ins.map g)] [] (.tup [t2.av,iv 0]) []):∃ (r:List (List AV)) (n e:Int),(e=0/\r=(m.map Tb.cells).set a t2.cells/\n=((ins.length:Nat):Int))/\zaa E0 S.AW [tsl m,.sl (ts.map Tg.cells),.sl [],(zay nm rows).av,fsl frs,.sl [],.sl []] [] (.tup [.sl r,.sl [],.sl [],iv n,iv e]) []:=by
 exact ⟨(List.map Tb.cells m).set a [sv t2.sch.name,ZC t2.sch.cols,iv t2.next,ZW t2.rows],(↑(0+0+ins.length):Int),0,(by (exact ⟨rfl,rfl,by simp⟩)),(by (try simp only [zsl,xCol,xLit,xBin,xNeg,Ac.cells,Se.cells,Pr.cells,Ch.cells,Rw.cells]);exact wk At.AW [sqx (m.length=((List.map Tb.cells m).set a [sv t2.sch.name,ZC t2.sch.cols,iv t2.next,ZW t2.rows]).length/\True/\0=0/\True/\True/\True),sc hfd,sc (zjW m zh8),sb Zf,sc hC,sb Zf,si (zbz (t:=0+0) (n:=0+0) Zo Zo),sqx (ins.length=(List.map vrow ins).length),si (zbz (t:=(↑(0+0):Int)+(ins.length:Int)) (n:=0+0+ins.length) Zo Zo),sc (zdT m zh8 zh8),sb hz,sc (zln ((zay nm rows).table) ((zay nm rows).rows)),sc hF,sc (zeZ m),sb Zf,sd [(11,[se (zaf Tb.cells hx rfl)]),(7,[sc hT]),(15,[sc (zbB ([]) zh8)])],se (zaf Tb.cells hx rfl),sl [10,9,7,6] (zhl m trig t.sch t ins g zh8 zh8 zh8 hR),sb Zf,sdm [(2,[se (zaf Tb.cells hx rfl)]),(5,[skx ((True/\True/\True/\True/\True)/\(ins.length=(List.map vrow (List.map g ins)).length/\True/\True/\True)/\True) [] hA])] 0 [(0,tsl m),(1,ZG ts),(2,AV.sl []),(3,AV.agg [iv (zay nm rows).kind,sv (zay nm rows).table,AV.sl (List.map (fun r=>[AV.sl (zad r)]) (zay nm rows).rows),AV.sl (zag []),AV.sl [],AV.sl (zad []),sv (zay nm rows).text]),(4,fsl frs),(5,AV.sl []),(6,AV.sl []),(10,AV.p 0 0),(14,AV.nl),(15,AV.nl),(16,AV.nl),(17,iv 0),(18,iv 0),(19,iv (a:Int)),(20,tsl m),(21,AV.p 7 0),(22,iv 0),(23,iv (↑(0+0+ins.length):Int)),(24,AV.own 8 m.length),(25,AV.sl []),(26,iv 0),(27,AV.p 10 0),(28,iv 0),(29,AV.p 13 0),(30,tsl m),(31,AV.p 0 1),(32,sv (zay nm rows).table),(33,iv (a:Int)),(34,tsl m),(35,AV.sl []),(36,AV.sl [[tsl m],[AV.sl []]]),(37,tsl m),(38,iv (a:Int)),(39,AV.bl false),(41,AV.tup [AV.agg [AV.own 6 ins.length,AV.nl,AV.nl],iv 0]),(42,AV.agg [iv (zay nm rows).kind,sv (zay nm rows).table,AV.sl (List.map (fun r=>[AV.sl (zad r)]) (zay nm rows).rows),AV.sl (zag []),AV.sl [],AV.sl (zad []),sv (zay nm rows).text]),(43,fsl frs),(44,tsl m),(45,AV.tup [AV.agg [AV.own 6 ins.length,AV.nl,AV.nl],iv 0]),(46,AV.agg [AV.own 6 ins.length,AV.nl,AV.nl]),(47,iv 0),(48,iv 0),(49,AV.bl false),(51,AV.p 7 1),(52,AV.nl),(53,iv 0),(54,AV.p 7 2),(55,AV.nl),(56,iv 0),(57,iv (↑(0+0):Int)),(58,AV.p 7 0),(59,AV.own 6 ins.length),(60,iv (ins.length:Int)),(61,iv (↑(0+0+ins.length):Int)),(62,tsl m),(63,AV.own 8 m.length),(64,iv (↑(0+0+ins.length):Int)),(65,AV.bl false),(69,AV.agg [iv (zay nm rows).kind,sv (zay nm rows).table,AV.sl (List.map (fun r=>[AV.sl (zad r)]) (zay nm rows).rows),AV.sl (zag []),AV.sl [],AV.sl (zad []),sv (zay nm rows).text]),(70,AV.sl []),(71,ZG ts),(72,AV.p 0 1),(73,sv (zay nm rows).table),(74,AV.p 0 0),(75,iv (zay nm rows).kind),(76,AV.sl []),(77,AV.sl []),(78,tsl m),(79,iv 0),(80,iv 0),(81,AV.bl false),(83,tsl m),(84,ZG ts),(85,AV.p 0 1),(86,sv (zay nm rows).table),(87,AV.p 0 0),(88,iv (zay nm rows).kind),(89,AV.sl []),(90,AV.sl trig),(91,AV.sl []),(92,tsl m),(93,iv (a:Int)),(94,AV.dp [sv t.sch.name,ZC t.sch.cols,iv t.next,ZW t.rows]),(95,AV.dp [sv t.sch.name,ZC t.sch.cols,iv t.next,ZW t.rows]),(96,AV.agg t.sch.cells),(97,AV.sl []),(98,AV.own 9 0),(99,AV.agg [tsl m,AV.sl trig,AV.sl [],sv t.sch.name,ZC t.sch.cols,AV.own 9 0,AV.nl]),(100,AV.p 10 0),(101,AV.p 10 0),(102,tsl m),(103,iv (a:Int)),(104,AV.dp [sv t.sch.name,ZC t.sch.cols,iv t.next,ZW t.rows]),(105,AV.agg [sv t.sch.name,ZC t.sch.cols,iv t.next,ZW t.rows]),(106,iv 0),(107,iv 0),(108,AV.bl false),(110,AV.tup [AV.agg [sv t2.sch.name,ZC t2.sch.cols,iv t2.next,ZW t2.rows],iv 0]),(111,tsl m),(112,iv (a:Int)),(113,AV.dp [sv t.sch.name,ZC t.sch.cols,iv t.next,ZW t.rows]),(114,AV.agg [sv t.sch.name,ZC t.sch.cols,iv t.next,ZW t.rows]),(115,AV.agg [AV.own 6 ins.length,AV.nl,AV.nl]),(116,AV.tup [AV.agg [sv t2.sch.name,ZC t2.sch.cols,iv t2.next,ZW t2.rows],iv 0]),(117,AV.agg [sv t2.sch.name,ZC t2.sch.cols,iv t2.next,ZW t2.rows]),(118,iv 0)] [Blk.box [iv (zay nm rows).kind,sv (zay nm rows).table,AV.sl (List.map (fun r=>[AV.sl (zad r)]) (zay nm rows).rows),AV.sl (zag []),AV.sl [],AV.sl (zad []),sv (zay nm rows).text],Blk.box [iv (zay nm rows).kind,sv (zay nm rows).table,AV.sl (List.map (fun r=>[AV.sl (zad r)]) (zay nm rows).rows),AV.sl (zag []),AV.sl [],AV.sl (zad []),sv (zay nm rows).text],Blk.box [AV.own 6 ins.length,AV.nl,AV.nl],Blk.box t.sch.cells,Blk.box [iv (zay nm rows).kind,sv (zay nm rows).table,AV.sl (List.map (fun r=>[AV.sl (zad r)]) (zay nm rows).rows),AV.sl (zag []),AV.sl [],AV.sl (zad []),sv (zay nm rows).text],Blk.box t.sch.cells,Blk.row Ty.LValue (List.map vrow (List.map g ins)) true,Blk.box [AV.own 6 ins.length,AV.nl,AV.nl],Blk.row Ty.Table (List.map Tb.cells m) false,Blk.row Ty.int [] true,Blk.box [tsl m,AV.sl trig,AV.sl [],sv t.sch.name,ZC t.sch.cols,AV.sl [],AV.own 12 0],Blk.box [sv t.sch.name,ZC t.sch.cols,iv t.next,ZW t.rows],Blk.row Ty.int [] false,Blk.box [sv t2.sch.name,ZC t2.sch.cols,iv t2.next,ZW t2.rows]],sb Zf,sqx (OwnAt (List.map Tb.cells m) m.length (a:Int)),sx (.el t.cells) (And.intro (owed (p:=True/\True/\True/\True/\True)) (ze3 Tb.cells (n:=m.length) Zs hx)),sd []] kr)⟩
theorem zkA (m:List Tb) (frs:List Fr) (nm:Str) (rows:List (List X)) (ts:List Tg) (trig:List (List AV)) (t t2:Tb) (a:Nat) (ins:List (List V)) (g:List V->List V) (hl:m.length<=1000) (hx:m[a]?=some t) (hal:a < m.length) (hfd:zaa E0 S.Ck [tsl m,sv nm] [] (iv (a:Nat)) []) (hn:decide (((a:Nat):Int) < 0)=false) (hC:zaa E0 S.Ak [(zay nm rows).av,fsl frs,tsl m] [] (.tup [.agg [.own 5 ins.length,.nl,.nl],iv 0]) [.box (zay nm rows).cells,.box [.own 5 ins.length,.nl,.nl],.box t.sch.cells,.box (zay nm rows).cells,.box t.sch.cells,.row Ty.LValue (ins.map vrow) false]) (hd:∀ t∈m,zac t.sch.cols/\zac t.rows/\∀ r∈t.rows,zac r.vals) (hF:zaa E0 S.At [.sl (ts.map Tg.cells),sv nm,iv 1,.sl [],bv false] [] (.sl []) []) (hT:zaa E0 S.At [.sl (ts.map Tg.cells),sv nm,iv 1,.sl [],bv true] [] (.sl trig) []) (hz:(((0+0+ins.length:Nat):Int)==0)=false) (hr:zac t.rows) (hli:zac ins) (hne:ins≠[]) (hR:∀ l∈ins,zaa E0 S.AE [.sl trig,.sl [],t.sch.av,.sl [],vsl l,tsl m,.sl []] [] (.tup [vsl (g l),.sl [],.sl [],iv 0]) []) (hA:zaa E0 S.BA [t.av,insC (ins.map g)] [] (.tup [t2.av,iv 0]) []):zaa E0 S.AW [tsl m,.sl (ts.map Tg.cells),.sl [],(zay nm rows).av,fsl frs,.sl [],.sl []] [] (.tup [tsl (m.set a t2),.sl [],.sl [],iv (ins.length:Nat),iv 0]) []:=by
 obtain ⟨r,n,e,⟨rfl,rfl,rfl⟩,h⟩:=zAT m frs nm rows ts trig t t2 a ins g hl hx hal hfd hn hC hd hF hT hz hr hli hne hR hA
 rw [← List.map_set] at h
 exact h
def vNul:V:=⟨0,0,⟨#[]⟩⟩
abbrev sLog:Str:=⟨#[108,111,103]⟩
abbrev vCnt (n:Nat):V:=⟨1,(n:Int),⟨#[]⟩⟩
theorem zxN (N:Nat) (s:Sch) (old new:List V) (m:List Tb):bRow N [] [] s old new m []=(new,[],[],0):=by rfl
theorem ztb:NwOk []:=⟨by decide,fun v hv=>by simp at hv⟩
theorem ztR (new:List V) (m:List Tb) (ht:TbOk m) (hg:TbG m) (hn:NwOk new):zaa E0 S.AE [.sl ([]:List (List AV)),.sl [],zcf.av,.sl [],vsl new,tsl m,.sl []] [] (.tup [vsl new,.sl [],.sl [],iv 0]) []:=by
 have h1:=zl0 7 [] [] zcf [] new m [] Zd Zd Zd Zd ztb ht hg Zd (fun t ht=>by simp at ht) hn hn.short Zd
 rw [zxN] at h1
 exact h1
theorem zqa (b:Bool):zaa E0 S.At [.sl (([]:List Tg).map Tg.cells),sv sLog,iv 1,.sl [],bv b] [] (.sl []) [] :=
 zfW 7 [] sLog 1 [] b Zd Zd (fun t ht=>by simp at ht)
abbrev prX (p:V × V):List X:=[xLit p.1,xLit p.2]
abbrev prV (p:V × V):List V:=[p.1,p.2]
theorem zzL {t:Tb} {m:List Tb} (hs:t.sch=zcf):zaK (t::m) sLog=some t/\idxF (fun x=>zaw x sLog) (t::m) 0=0:=by
 have h:zaw t sLog=true:=by unfold zaw;rw [hs];kernel_rfl
 constructor
 ·unfold zaK;rw [List.find?_cons,h]
 ·unfold idxF;rw [h];rfl
theorem zsC (n:Nat) (v:V) (frs:List Fr) (m:List Tb):eval (n+1) (xLit v) frs m=(v,0):=by
 have e:∀ (f:X->V × Int) (op:List V->V × Int) (agg:V × Int),valF f op agg (xLit v) frs m=(v,0):=fun f op agg=>by kernel_rfl
 exact e _ _ _
theorem zyI (l:List Rw):zbs (idxF (fun c=>c.key) zcf.cols 0) l=[]:=by
 have e:idxF (fun c=>c.key) zcf.cols 0=-1:=by kernel_rfl
 rw [e]
 unfold zbs
 induction l with
 | nil=>rfl
 | cons x r ih=>rw [List.filterMap_cons,show zc5 (-1) x=none from rfl];exact ih
structure LogIn (t:Tb) (r:List Tb):Prop where
 sch:t.sch=zcf
 tab:∀ x∈t::r,TabV x
 to:TbOk (t::r)
 tg:TbG (t::r)
 ml:(t::r).length<=1000
theorem zkB (t:Tb) (r:List Tb) (ts tr:List Tg) (prs:List (V × V)) (g:List V->List V) (h:LogIn t r) (hb:actB (vX 3) (zay sLog (prs.map prX))=true) (hne:prs≠[]) (hpl:prs.length<=8) (hp:∀ p∈prs,p.1.Good/\p.2.Good)
  (hF:zaa E0 S.At [.sl (ts.map Tg.cells),sv sLog,iv 1,.sl [],bv false] [] (.sl []) []) (hT:zaa E0 S.At [.sl (ts.map Tg.cells),sv sLog,iv 1,.sl [],bv true] [] (.sl (tr.map Tg.cells)) [])
  (hR:∀ p∈prs,zaa E0 S.AE [.sl (tr.map Tg.cells),.sl [],zcf.av,.sl [],vsl (prV p),tsl (t::r),.sl []] [] (.tup [vsl (g (prV p)),.sl [],.sl [],iv 0]) [])
  (hG:∀ p∈prs,zcX zcf.cols (g (prV p))) (hlen:t.rows.length+prs.length<=100) (hn:t.next<=4000) :
  zaa E0 S.AW [tsl (t::r),.sl (ts.map Tg.cells),.sl [],(zay sLog (prs.map prX)).av,.sl [],.sl [],.sl []] [] (.tup [tsl (insT t (prs.map fun p=>g (prV p))::r),.sl [],.sl [],iv (prs.length:Nat),iv 0]) []:=by
 obtain ⟨hf1,hf2⟩:=zzL (t:=t) (m:=r) h.sch
 have hmem:∀ l∈prs.map prX,∃ p∈prs,prX p=l:=fun l hl=>List.mem_map.1 hl
 have hfd:zaa E0 S.Ck [tsl (t::r),sv sLog] [] (iv (((0:Nat)):Int)) []:=by
  have h1:=zma (t::r) sLog h.to.len
  rw [hf2] at h1;exact h1
 have hxo:∀ (p:V × V),p.1.Good/\p.2.Good->∀ x∈prX p,XOk 3 x:=fun p hp x hx=>by
  simp only [List.mem_cons,List.not_mem_nil,or_false] at hx
  rcases hx with rfl|rfl
  ·exact zp7 hp.1
  ·exact zp7 hp.2
 have hD:DmlIn 3 (zay sLog (prs.map prX)) [] (t::r):=by
  refine ⟨⟨by simp;omega,fun l hl=>?_,by simp,fun q hq=>by simp at hq,by simp,fun s hs=>by simp at hs,by simp,fun x hx=>by simp at hx⟩,by simp,⟨by simp,fun f hf=>by simp at hf,fun f hf=>by simp at hf⟩,fun f hf=>by simp at hf,h.to,h.tg,fun x hx r hr=>(h.tab x hx).vals r hr⟩
  obtain ⟨p,hp1,rfl⟩:=hmem l hl
  exact ⟨by simp,hxo p (hp p hp1)⟩
 have htg:=hD.target
 have htt:tgt (zay sLog (prs.map prX)) (actB (vX 3) (zay sLog (prs.map prX))) (t::r)=(zcf,0):=by
  unfold tgt
  rw [hb,zc6]
  have e1:zaK (t::r) (zay sLog (prs.map prX)).table=some t:=hf1
  rw [e1]
  simp only [h.sch];rfl
 rw [htt] at htg
 obtain ⟨out,hout,hC⟩:=zkd sLog (prs.map prX) zcf [] (t::r) (fun x=>eval 3 x [] (t::r)) htg Zd (by simp only [zac,List.length_map];omega)
  (fun l hl=>by
   obtain ⟨p,hp1,rfl⟩:=hmem l hl
   exact ⟨by simp,fun x hx=>zdz 3 x [] (t::r) (hxo p (hp p hp1) x hx) ⟨by simp,fun f hf=>by simp at hf,fun f hf=>by simp at hf⟩ (fun f hf=>by simp at hf) h.to h.tg⟩)
  (fun l hl x hx=>by
   obtain ⟨p,hp1,rfl⟩:=hmem l hl
   simp only [List.mem_cons,List.not_mem_nil,or_false] at hx
   rcases hx with rfl|rfl <;> simp [zsC])
  (fun l hl=>by
   obtain ⟨p,hp1,rfl⟩:=hmem l hl
   rfl)
 have e:out=prs.map prV:=by
  rw [hout,List.take_length]
  unfold evR
  rw [List.map_map]
  refine List.map_congr_left fun p hp=>?_
  simp only [Function.comp,List.map_cons,List.map_nil,zsC]
 subst e
 have hgl:∀ l∈prs.map prV,∃ p∈prs,prV p=l:=fun l hl=>List.mem_map.1 hl
 have hlast:=zkA (t::r) [] sLog (prs.map prX) ts (tr.map Tg.cells) t (insT t ((prs.map prV).map g)) 0 (prs.map prV) g h.ml rfl Zs hfd Zd (by rw [h.sch];exact hC)
  (fun x hx=>⟨(h.tab x hx).sch.short,(h.tab x hx).shr,(h.tab x hx).vals⟩) hF hT (by cases prs with|nil=>exact absurd rfl hne|cons a b=>simp only [List.length_map,List.length_cons];rw [beq_eq_false_iff_ne];omega)
  (h.tab t Zs).shr (by simp only [zac,List.length_map];omega) (by simpa using hne)
  (fun l hl=>by obtain ⟨p,hp1,rfl⟩:=hgl l hl;rw [h.sch];exact hR p hp1)
  (znn t _ (h.tab t Zs) (fun l hl=>by
   obtain ⟨l2,hl2,rfl⟩:=List.mem_map.1 hl
   obtain ⟨p,hp1,rfl⟩:=hgl l2 hl2
   rw [h.sch];exact hG p hp1) (by simp only [List.length_map];omega) (by simp only [List.length_map];omega) (by rw [h.sch,zyI];exact List.nodup_nil))
 rw [List.length_map,List.map_map,List.set_cons_zero] at hlast
 exact hlast
def za4:V:=⟨1,5,⟨#[]⟩⟩
def tbK:Tb:=⟨zcf,1,[]⟩
def tbK2:Tb:=⟨zcf,2,[⟨1,[za4,vNul]⟩]⟩
theorem zu8:zcf∈zak:=by simp [zak,zcf]
theorem tbK_v:TabV tbK:=⟨zed zu8,by decide,RowsV.nil Zd,by decide,zyC zu8⟩
theorem ztK:LogIn tbK []:=by
 refine ⟨rfl,fun x hx=>?_,⟨by decide,fun x hx=>?_,fun x hx=>?_,fun x hx=>?_⟩,⟨fun x hx=>?_,fun x hx=>?_⟩,by decide⟩ <;> (simp only [List.mem_singleton] at hx;subst hx)
 ·exact tbK_v
 ·exact tbK_v.sch.short
 ·decide
 ·exact fun r hr=>by cases hr
 ·exact fun r hr=>by cases hr
 ·decide
theorem zyW {v:V} (hg:v.Good) (hk:v.kind=0\/v.kind=1):zcX zcf.cols [v,vNul]:=by
 refine ⟨rfl,fun k c w h1 h2=>?_⟩
 match k,h1,h2 with
 | 0,h1,h2=>cases h1;cases h2;exact ⟨hg,hk,fun h=>by cases h⟩
 | 1,h1,h2=>cases h1;cases h2;exact ⟨zaH,.inl rfl,fun h=>by cases h⟩
 | k+2,h1,h2=>simp at h2
theorem zA5:NwOk [za4,vNul]:=⟨by decide,fun v hv=>by
 simp only [List.mem_cons,List.not_mem_nil,or_false] at hv
 rcases hv with rfl|rfl
 ·exact zbG Zd
 ·exact zaH⟩
theorem zjg:zaa E0 S.AW [tsl [tbK],.sl [],.sl [],(zay sLog [[xNum 5,xLit vNul]]).av,.sl [],.sl [],.sl []] [] (.tup [tsl [tbK2],.sl [],.sl [],iv 1,iv 0]) []:=by
 have h:=zkB tbK [] [] [] [(za4,vNul)] id ztK kr Zd Zd (fun p hp=>by simp only [List.mem_singleton] at hp;subst hp;exact ⟨zbG Zd,zaH⟩) (zqa false) (zqa true)
  (fun p hp=>by simp only [List.mem_singleton] at hp;subst hp;exact ztR _ _ ztK.to ztK.tg zA5) (fun p hp=>by simp only [List.mem_singleton] at hp;subst hp;exact zyW (zbG Zd) (.inr rfl)) Zd Zd
 exact h
structure SeesIn (m:List Tb):Prop where
 ex:∃ t r,m=t::r/\LogIn t r/\t.rows.length<=5/\t.next<=3000
def hdT (m:List Tb):Tb:=m.headD zy9
abbrev newR (m:List Tb) (rows:List (List X)):List (List V):=List.replicate rows.length [vCnt (hdT m).rows.length,vNul]
structure SeesRows (rows:List (List X)):Prop where
 rep:rows=List.replicate rows.length [xLit vNul,xLit vNul]
 lo:1<=rows.length
 hi:rows.length<=5
structure SeesOut (m:List Tb) (rows:List (List X)) (m2:List Tb):Prop where
 len:m2.length=m.length
 at_:m2[0]?=some (insT (hdT m) (newR m rows))
theorem SeesIn.short {m:List Tb} (h:SeesIn m):zac m:=by
 obtain ⟨t,r,rfl,h1,_⟩:=h.ex;exact h1.to.len
theorem SeesIn.ml {m:List Tb} (h:SeesIn m):m.length<=1000:=by
 obtain ⟨t,r,rfl,h1,_⟩:=h.ex;exact h1.ml
theorem SeesOut.hd {m m2:List Tb} {rows:List (List X)} (h:SeesOut m rows m2):hdT m2=insT (hdT m) (newR m rows):=by
 have h1:=h.at_
 cases m2 with
 | nil=>simp at h1
 | cons a r=>simp only [List.getElem?_cons_zero,Option.some.injEq] at h1;exact h1
abbrev sUu:Str:=⟨#[117]⟩
abbrev schU2:Sch:=zat sUu
structure RowU (row:List V):Prop where
 ok:zcX schU2.cols row
structure Dl where
 table:Str
 ins:List Rw
 del:List Rw
 upd:List Pr
def Dl.cells (d:Dl):List AV:=[sv d.table,.sl (d.ins.map Rw.cells),.sl (d.del.map Rw.cells),.sl (d.upd.map Pr.cells)]
abbrev Dl.av (d:Dl):AV:=.agg d.cells
structure Itm where
 name:Str
 row:Int
 old:List V
 nw:List V
def Itm.cells (i:Itm):List AV:=[sv i.name,iv i.row,vsl i.old,vsl i.nw]
abbrev Itm.av (i:Itm):AV:=.agg i.cells
abbrev zrx (a:Tb) (r:Rw):Bool:=!(get6 r.id a.rows).2
def updS (a:Tb) (r:Rw):Option Pr:=bif (get6 r.id a.rows).2&&(ziQ (get6 r.id a.rows).1 r.vals != 0) then some ⟨r.id,(get6 r.id a.rows).1,r.vals⟩ else none
structure BwI (a b:Tb) (i:Nat) (ins:List Rw) (upd:List Pr):Prop where
 ins:ins=(b.rows.take i).filter (zrx a)
 upd:upd=(b.rows.take i).filterMap (updS a)
theorem zy8 {α:Type} {p:α->Bool} {l:List α} {i:Nat} {x:α} (hx:l[i]?=some x):(l.take (i+1)).filter p=(l.take i).filter p++(bif p x then [x] else []):=by
 rw [List.take_add_one,hx,List.filter_append]
 cases h:p x <;> simp [h]
theorem zvq {α β:Type} {p:α->Option β} {l:List α} {i:Nat} {x:α} (hx:l[i]?=some x):(l.take (i+1)).filterMap p=(l.take i).filterMap p++(p x).toList:=by
 rw [List.take_add_one,hx,List.filterMap_append]
 cases h:p x <;> simp [h]
section
variable {a b : Tb} {i : Nat} {ins : List Rw} {upd : List Pr} {x : Rw}
theorem BwI.new (h:BwI a b i ins upd) (hx:b.rows[i]?=some x) (h1:(!(get6 x.id a.rows).2)=true):BwI a b (i+1) (ins++[x]) upd:=by
 have h2:(get6 x.id a.rows).2=false:=by simpa using h1
 refine ⟨?_,?_⟩
 ·rw [zy8 hx,h.ins,show zrx a x=true from h1];rfl
 ·rw [zvq hx,h.upd];simp [updS,h2]
theorem BwI.same (h:BwI a b i ins upd) (hx:b.rows[i]?=some x) (h1:(!(get6 x.id a.rows).2)=false) (h2:(ziQ (get6 x.id a.rows).1 x.vals != 0)=false):BwI a b (i+1) ins upd:=by
 refine ⟨?_,?_⟩
 ·rw [zy8 hx,h.ins,show zrx a x=false from h1];simp
 ·rw [zvq hx,h.upd];simp only [updS,h2,Bool.and_false,cond_false];simp
theorem BwI.len (h:BwI a b i ins upd):ins.length<=b.rows.length/\upd.length<=b.rows.length:=by
 rw [h.ins,h.upd]
 have h1:=List.length_filter_le (zrx a) (b.rows.take i)
 have h2:=List.length_filterMap_le (updS a) (b.rows.take i)
 have h3:=List.length_take_le i b.rows
 rw [List.length_take] at *
 omega
end
structure GrowT (a b:Tb):Prop where
 sch:b.sch=a.sch
 next:a.next<=b.next
 rows:∀ r∈b.rows,(get6 r.id a.rows).2=true\/a.next<=r.id
structure ChG (t:Tb) (c:Ch):Prop where
 v:ChV t c
 u:∀ p∈c.upd,∀ v∈p.nw,v.Good
 i:∀ r∈c.ins,∀ v∈r,v.Good
theorem zxI (n:Int):anyI [] n=false:=by
 cases h:anyI [] n
 ·rfl
 ·have:=zkl.1 h;cases this
theorem zsJ {l:List Rw} (h:l.Pairwise fun a b=>a.id < b.id) {r:Rw} (hr:r∈l):get6 r.id l=(r.vals,true):=by
 induction l with
 | nil=>cases hr
 | cons q l ih =>
  unfold get6
  rcases List.mem_cons.1 hr with rfl|hr
  ·simp
  ·have:=(List.pairwise_cons.1 h).1 r hr
   have e:(q.id==r.id)=false:=by rw [beq_eq_false_iff_ne];omega
   rw [e];exact ih (List.pairwise_cons.1 h).2 hr
theorem zp5 {tr:Rw->Bool × Int}:∀ (l:List Rw) (d:List Int),(tchD tr l d).2=0->(tchD tr l d).1=⟨[],d++(l.filter fun r=>(tr r).1).map Rw.id,[]⟩
 | [],d,_=>by simp [tchD]
 | r::l,d,h=>by
  simp only [tchD] at h ⊢
  cases h1:(tr r).2 != 0
  ·rw [h1] at h
   cases h2:(tr r).1
   ·rw [h2] at h
    simp only [Bool.not_false,cond_true,cond_false] at h ⊢
    rw [zp5 l d h,List.filter_cons,h2];simp
   ·rw [h2] at h
    simp only [Bool.not_true,cond_true,cond_false] at h ⊢
    rw [zp5 l _ h,List.filter_cons,h2];simp
  ·rw [h1] at h;simp only [cond_true] at h;rw [h] at h1;simp at h1
theorem zp6 {tr:Rw->Bool × Int} {ag:Rw->List V × Int}:∀ (l:List Rw) (u:List Pr),(tchU tr ag l u).2=0->(tchU tr ag l u).1=⟨[],[],u++(l.filter fun r=>(tr r).1).map fun r=>⟨r.id,r.vals,(ag r).1⟩⟩/\∀ r∈l.filter (fun r=>(tr r).1),(ag r).2=0
 | [],u,_=>by simp [tchU]
 | r::l,u,h=>by
  simp only [tchU] at h ⊢
  cases h1:(tr r).2 != 0
  ·rw [h1] at h
   cases h2:(tr r).1
   ·rw [h2] at h
    simp only [Bool.not_false,cond_true,cond_false] at h ⊢
    have ih:=zp6 l u h
    rw [List.filter_cons,h2];simpa using ih
   ·rw [h2] at h
    simp only [Bool.not_true,cond_true,cond_false] at h ⊢
    cases h3:(ag r).2 != 0
    ·rw [h3] at h
     simp only [cond_false] at h ⊢
     have ih:=zp6 l _ h
     rw [List.filter_cons,h2]
     refine ⟨by rw [ih.1];simp,fun x hx=>?_⟩
     simp only [if_true,List.mem_cons] at hx
     rcases hx with rfl|hx
     ·simpa using h3
     ·exact ih.2 x hx
    ·rw [h3] at h;simp only [cond_true] at h;rw [h] at h3;simp at h3
  ·rw [h1] at h;simp only [cond_true] at h;rw [h] at h1;simp at h1
structure AsK (s:Sch) (sets:List Se) (v w:List V):Prop where
 len:w.length=v.length
 at_:∀ (i:Nat) (c:Col),s.cols[i]?=some c->(∀ x∈sets,colC c x.col=false)->w[i]?=v[i]?
theorem zuQ {f:X->V × Int} {s:Sch}:∀ (l:List Se) (v:List V),(asgR f s l v).2=0->AsK s l v (asgR f s l v).1/\((∀ x∈l,(f x.ex).1.Good)->(∀ x∈v,x.Good)->∀ x∈(asgR f s l v).1,x.Good)
 | [],v,_=>⟨⟨rfl,fun _ _ _ _=>rfl⟩,fun _ h=>h⟩
 | x::l,v,h=>by
  simp only [asgR] at h ⊢
  cases h1:decide (idxF (fun c=>colC c x.col) s.cols 0 < 0)
  ·rw [h1] at h
   cases h2:(f x.ex).2 != 0
   ·rw [h2] at h
    cases h3:decide ((v.length:Int)<=idxF (fun c=>colC c x.col) s.cols 0)
    ·rw [h3] at h
     simp only [cond_false] at h ⊢
     obtain ⟨a,b⟩:=zuQ l _ h
     refine ⟨⟨by rw [a.len,List.length_set],fun i c hc hn=>?_⟩,fun hf hv=>b (fun y hy=>hf y (by simp [hy])) fun y hy=>?_⟩
     ·rw [a.at_ i c hc fun y hy=>hn y (by simp [hy])]
      rcases zdB (fun c=>colC c x.col) s.cols 0 with ⟨e1,_⟩|⟨j,y,e1,e2,e3⟩
      ·rw [e1] at h1;simp at h1
      ·rw [e1]
       have hne:(((0+j:Nat):Int)).toNat≠i:=by
        intro he
        have hj:j=i:=by omega
        subst hj
        rw [e2] at hc;cases hc
        have hp:colC c x.col=true:=List.find?_some (p:=fun c=>colC c x.col) e3
        rw [hn x Zs] at hp;cases hp
       exact List.getElem?_set_ne hne
     ·rcases List.mem_or_eq_of_mem_set hy with h4|h4
      ·exact hv y h4
      ·rw [h4];exact hf x Zs
    ·rw [h3] at h;simp at h
   ·rw [h2] at h;simp only [cond_true,cond_false] at h;rw [h] at h2;simp at h2
  ·rw [h1] at h;simp at h
theorem znA {f:X->V × Int}:∀ (l:List X),(∀ x∈l,(f x).1.Good)->∀ v∈(zbd f l).2,v.Good
 | [],_,v,h=>by simp [zbd] at h
 | x::l,hf,v,h=>by
  simp only [zbd] at h
  cases h1:(f x).2 != 0 <;> rw [h1] at h
  ·cases h2:(zbd f l).1 != 0 <;> rw [h2] at h
   ·simp only [cond_false,List.mem_cons] at h
    rcases h with rfl|h
    ·exact hf x Zs
    ·exact znA l (fun y hy=>hf y (by simp [hy])) v h
   ·simp at h
  ·simp at h
theorem zmy {tr:Rw->Bool × Int} {rv:Rw->Int × List V} {P:List V->Prop}:∀ (l:List Rw) (out:List (List V)),(∀ r∈l,P (rv r).2)->(∀ v∈out,P v)->∀ v∈(za8 tr rv l out).2,P v
 | [],out,_,ho,v,h=>ho v h
 | r::l,out,hp,ho,v,h=>by
  simp only [za8] at h
  have hl:∀ q∈l,P (rv q).2:=fun q hq=>hp q (by simp [hq])
  have ho2:∀ v∈out++[(rv r).2],P v:=fun w hw=>by
   rcases List.mem_append.1 hw with hw|hw
   ·exact ho w hw
   ·simp only [List.mem_singleton] at hw;rw [hw];exact hp r Zs
  cases h1:(tr r).2 != 0 <;> rw [h1] at h
  ·cases h2:(tr r).1 <;> rw [h2] at h
   ·exact zmy l out hl ho v h
   ·cases h3:(rv r).1 != 0 <;> rw [h3] at h
    ·exact zmy l _ hl ho2 v h
    ·exact ho v h
  ·exact ho v h
abbrev zev (l:List V):Prop:=∀ v∈l,v.Good
theorem zq4 {n:Nat} {q:Qy} {frs:List Fr} {tb:List Tb} (hi:∀ x∈q.items,XOk n x) (hg:FsG frs) (ht:TbG tb):∀ r∈(zbL n q frs tb).1,zev r:=fun r hr=>by
 unfold zbL at hr
 cases hf:zaK tb q.frm with
 | none=>rw [hf] at hr;simp at hr
 | some t =>
  rw [hf] at hr
  have hm:=zcR hf
  have key:=zmy (P:=zev) (tr:=fun r=>zba (fun x=>eval n x (zar frs t r.vals) tb) q.wh) (rv:=fun r=>rowV (fun x=>eval n x (zar frs t r.vals) tb) q r) t.rows [] (fun r hr=>by
   unfold rowV
   cases q.star
   ·exact znA _ fun x hx=>zbA n x _ tb (hi x hx) (hg.ins (ht.vals t hm r hr)) ht
   ·exact ht.vals t hm r hr) (fun v hv=>by cases hv)
  unfold zey at hr
  simp only at hr
  cases h1:(za8 (fun r=>zba (fun x=>eval n x (zar frs t r.vals) tb) q.wh) (fun r=>rowV (fun x=>eval n x (zar frs t r.vals) tb) q r) t.rows []).1 != 0
  ·rw [h1] at hr;exact key r hr
  ·rw [h1] at hr;simp at hr
theorem zvu {f:X->V × Int}:∀ (l:List X) (acc:List V),(zbq f l acc).2=0->(zbq f l acc).1.length=acc.length+l.length/\(zev acc->(∀ x∈l,(f x).1.Good)->zev (zbq f l acc).1)
 | [],acc,_=>⟨rfl,fun h _=>h⟩
 | x::l,acc,h=>by
  simp only [zbq] at h ⊢
  cases h1:(f x).2 != 0 <;> rw [h1] at h
  ·obtain ⟨a,b⟩:=zvu l _ h
   refine ⟨by rw [cond_false,a];simp;omega,fun ha hf=>b (fun v hv=>?_) fun y hy=>hf y (by simp [hy])⟩
   rcases List.mem_append.1 hv with hv|hv
   ·exact ha v hv
   ·simp only [List.mem_singleton] at hv;rw [hv];exact hf x Zs
  ·simp only [cond_true] at h;rw [h] at h1;simp at h1
structure InsP (n:Nat) (l:List (List V)):Prop where
 len:∀ r∈l,r.length=n
 good:∀ r∈l,zev r
theorem InsP.app {n:Nat} {a b:List (List V)} (h1:InsP n a) (h2:InsP n b):InsP n (a++b) :=
 ⟨fun r hr=>(List.mem_append.1 hr).elim (h1.len r) (h2.len r),fun r hr=>(List.mem_append.1 hr).elim (h1.good r) (h2.good r)⟩
theorem zyv {f:X->V × Int} {n:Nat}:∀ (l:List (List X)) (acc:List (List V)),(∀ r∈l,∀ x∈r,(f x).1.Good)->InsP n acc->(insL f n l acc).2=0->InsP n (insL f n l acc).1/\(insL f n l acc).1.length=acc.length+l.length
 | [],acc,_,ha,_=>⟨ha,rfl⟩
 | y::l,acc,hf,ha,h=>by
  simp only [insL] at h ⊢
  cases h1:y.length != n <;> rw [h1] at h
  ·cases h2:(zbq f y []).2 != 0 <;> rw [h2] at h
   ·obtain ⟨a,b⟩:=zvu y [] (by simpa using h2)
    have h3:y.length=n:=by simpa using h1
    obtain ⟨c,d⟩:=zyv l _ (fun r hr=>hf r (by simp [hr])) (ha.app ⟨fun r hr=>by simp only [List.mem_singleton] at hr;rw [hr,a];simpa using h3,fun r hr=>by simp only [List.mem_singleton] at hr;rw [hr];exact b (fun v hv=>by cases hv) (hf y Zs)⟩) h
    exact ⟨c,by rw [cond_false,cond_false,d];simp;omega⟩
   ·simp only [cond_true,cond_false] at h;rw [h] at h2;simp at h2
  ·simp at h
theorem zyw {g:Qy->List (List V) × Int} {s:Sch} {K:Nat}:∀ (l:List Qy) (acc:List (List V)),(∀ q∈l,(∀ r∈(g q).1,zev r)/\(g q).1.length<=K)->InsP s.cols.length acc->(insQ g s l acc).2=0->InsP s.cols.length (insQ g s l acc).1/\(insQ g s l acc).1.length<=acc.length+l.length * K
 | [],acc,_,ha,_=>⟨ha,by simp [insQ]⟩
 | q::l,acc,hg,ha,h=>by
  simp only [insQ] at h ⊢
  cases h1:(g q).2 != 0 <;> rw [h1] at h
  ·cases h2:(!(g q).1.all (okW s)) <;> rw [h2] at h
   ·have hq:=hg q Zs
    have h3:∀ r∈(g q).1,r.length=s.cols.length:=fun r hr=>by
     have:=List.all_eq_true.1 (by simpa using h2:(g q).1.all (okW s)=true) r hr
     unfold okW wid at this;simp only [List.length_map,Bool.not_eq_true',bne_eq_false_iff_eq] at this;omega
    obtain ⟨c,d⟩:=zyw l _ (fun r hr=>hg r (by simp [hr])) (ha.app ⟨h3,hq.1⟩) h
    refine ⟨c,?_⟩
    simp only [cond_false]
    have:=hq.2
    rw [List.length_append] at d
    rw [List.length_cons,Nat.succ_mul];omega
   ·simp at h
  ·simp only [cond_true] at h;rw [h] at h1;simp at h1
theorem zBa {f:X->V × Int} {g:Qy->List (List V) × Int} {s:Sch} {a:Ac} {K:Nat} (hf:∀ r∈a.rows,∀ x∈r,(f x).1.Good) (hg:∀ q∈a.query,(∀ r∈(g q).1,zev r)/\(g q).1.length<=K) (h:(insB f g s a).2=0):InsP s.cols.length (insB f g s a).1/\(insB f g s a).1.length<=a.rows.length+a.query.length * K:=by
 unfold insB at h ⊢
 cases h1:(insL f s.cols.length a.rows []).2 != 0 <;> rw [h1] at h
 ·obtain ⟨b,c⟩:=zyv a.rows [] hf ⟨fun r hr=>(by cases hr),fun r hr=>(by cases hr)⟩ (by simpa using h1)
  obtain ⟨d,e⟩:=zyw a.query _ hg b h
  refine ⟨d,?_⟩
  simp only [cond_false];simp only [List.length_nil] at c;omega
 ·simp only [cond_true] at h;rw [h] at h1;simp at h1
structure CandG (a:Ac) (t:Tb) (c:Ch):Prop where
 g:ChG t c
 go:∀ p∈c.upd,zev p.old
 li:c.ins.length<=10000
 ld:c.del.length<=100
 lu:c.upd.length<=100
 ki:c.ins≠[]->a.kind=1
 kd:c.del≠[]->a.kind=3
 ku:∀ p∈c.upd,AsK t.sch a.sets p.old p.nw
theorem TabV.l100 {t:Tb} (h:TabV t):t.rows.length<=100:=by have:=h.len;simp only [List.length_map,decide_eq_false_iff_not] at this;omega
theorem cgU {a:Ac} {t:Tb} (hv:TabV t) {p:Rw->Bool} {ag:Rw->List V} (hrg:∀ r∈t.rows,zev r.vals) (ha:∀ r∈t.rows.filter p,AsK t.sch a.sets r.vals (ag r)/\zev (ag r)):CandG a t ⟨[],[],[]++(t.rows.filter p).map fun (r:Rw)=>(⟨r.id,r.vals,ag r⟩:Pr)⟩:=by
 have h100:=hv.l100
 have hm:∀ q∈([]++(t.rows.filter p).map fun (r:Rw)=>(⟨r.id,r.vals,ag r⟩:Pr)),∃ r∈t.rows,q.id=r.id/\q.old=r.vals/\AsK t.sch a.sets r.vals q.nw/\zev q.nw:=fun q hq=>by
  simp only [List.nil_append,List.mem_map] at hq
  obtain ⟨r,hr,rfl⟩:=hq
  exact ⟨r,(List.mem_filter.1 hr).1,rfl,rfl,(ha r hr).1,(ha r hr).2⟩
 have hl:([]++(t.rows.filter p).map fun (r:Rw)=>(⟨r.id,r.vals,ag r⟩:Pr)).length<=100:=by
  have:=List.length_filter_le p t.rows
  simp only [List.nil_append,List.length_map];omega
 have hasc:([]++(t.rows.filter p).map fun (r:Rw)=>(⟨r.id,r.vals,ag r⟩:Pr)).Pairwise fun (a b:Pr)=>a.id < b.id:=by
  simp only [List.nil_append,List.pairwise_map]
  exact hv.rows.asc.sublist List.filter_sublist
 generalize ([]++(t.rows.filter p).map fun (r:Rw)=>(⟨r.id,r.vals,ag r⟩:Pr))=U at hm hl hasc ⊢
 refine ⟨⟨⟨.nil,fun _ h=>(by cases h),hasc,fun q hq=>?_,fun _ h=>(by cases h),by simp,by show U.length<=_;omega,by simp⟩,fun q hq=>?_,fun _ h=>(by cases h)⟩,fun q hq=>?_,by simp,by simp,hl,fun h=>absurd rfl h,fun h=>absurd rfl h,fun q hq=>?_⟩
 ·obtain ⟨r,hr,e1,e2,e3,_⟩:=hm q hq
  refine ⟨by rw [e1,e2];exact zsJ hv.rows.asc hr,zxI _,by rw [e3.len];exact (hv.rows.fit r hr).len⟩
 ·obtain ⟨_,_,_,_,_,e4⟩:=hm q hq;exact e4
 ·obtain ⟨r,hr,_,e2,_,_⟩:=hm q hq;rw [e2];exact hrg r hr
 ·obtain ⟨r,hr,_,e2,e3,_⟩:=hm q hq;rw [e2];exact e3
theorem cgD {a:Ac} {t:Tb} (hv:TabV t) {p:Rw->Bool} (hk:a.kind=3):CandG a t ⟨[],[]++(t.rows.filter p).map Rw.id,[]⟩:=by
 have h100:=hv.l100
 have hl:([]++(t.rows.filter p).map Rw.id).length<=100:=by
  have:=List.length_filter_le p t.rows
  simp only [List.nil_append,List.length_map];omega
 refine ⟨⟨⟨?_,fun d hd=>?_,.nil,fun _ h=>(by cases h),fun _ h=>(by cases h),Nat.le_trans hl Zd,by simp,by simp⟩,fun _ h=>(by cases h),fun _ h=>(by cases h)⟩,fun _ h=>(by cases h),by simp,hl,by simp,fun h=>absurd rfl h,fun _=>hk,fun _ h=>(by cases h)⟩
 ·simp only [List.nil_append,List.pairwise_map]
  exact hv.rows.asc.sublist List.filter_sublist
 ·simp only [List.nil_append,List.mem_map] at hd
  obtain ⟨r,hr,rfl⟩:=hd
  rw [zsJ hv.rows.asc (List.mem_filter.1 hr).1]
theorem zAU {n:Nat} {a:Ac} {frs:List Fr} {tb:List Tb} {t:Tb} (hc:CandIn n a frs tb) (hq:a.query.length<=8) (hr:a.rows.length<=1000) (ht:t∈tb) (hv:TabV t) (h:(chgT n a frs tb t).2=0):CandG a t (chgT n a frs tb t).1:=by
 have hrg:∀ r∈t.rows,zev r.vals:=fun r hr=>hc.tg.vals t ht r hr
 unfold chgT at h ⊢
 cases h1:a.kind==1 <;> rw [h1] at h
 ·cases h3:a.kind==3 <;> rw [h3] at h
  ·simp only [cond_false] at h ⊢
   obtain ⟨e,e2⟩:=zp6 _ _ h
   rw [e]
   refine cgU hv hrg fun r hr=>?_
   have hrt:=(List.mem_filter.1 hr).1
   obtain ⟨x,y⟩:=zuQ a.sets r.vals (e2 r hr)
   exact ⟨x,y (fun z hz=>zbA n _ _ tb (hc.ac.set z hz) (hc.ins ht hrt).2 hc.tg) (hrg r hrt)⟩
  ·simp only [cond_true,cond_false] at h ⊢
   rw [zp5 _ _ h]
   exact cgD hv (by simpa using h3)
 ·simp only [cond_true] at h ⊢
  unfold zfh at h ⊢
  obtain ⟨b,c⟩:=zBa (K:=1000) (fun r hr x hx=>zbA n x frs tb ((hc.ac.row r hr).2 x hx) hc.fg hc.tg) (fun q hq=>⟨zq4 (hc.ac.qs q hq).hi hc.fg hc.tg,zjL hc.to⟩) h
  have hl:(insB (fun x=>eval n x frs tb) (fun q=>zbL n q frs tb) t.sch a).1.length<=10000:=by
   have:a.query.length * 1000<=8 * 1000:=Nat.mul_le_mul_right _ hq
   omega
  exact ⟨⟨⟨.nil,fun _ h=>(by cases h),.nil,fun _ h=>(by cases h),b.len,by simp,by simp,by show (insB (fun x=>eval n x frs tb) (fun q=>zbL n q frs tb) t.sch a).1.length<=100000;omega⟩,fun _ h=>(by cases h),b.good⟩,fun _ h=>(by cases h),hl,by simp,by simp,fun _=>by simpa using h1,fun h=>absurd rfl h,fun _ h=>(by cases h)⟩
theorem zyr:∀ n,n<=1000->(Pl.mk [] zak).OkN n:=fun n hn=>⟨by simpa using hn,by simp,by simp [zak],by simp [zak],by simp [zak]⟩
theorem ziB (t:Tp):∃ (r:Ac) (t':Tp),ActT zak 4 [] r/\zaa E0 S.Aq [.p 0 0,(Pl.mk [] zak).av,iv 1] [.box t.cells] r.av [.box t'.cells] :=
 zjC t ⟨[],zak⟩ 1 4 2 (zyr 3 Zo) (zyr 2 Zo) zeM ⟨by omega⟩ zcB (zpE 2 Zo)
section
variable {M : Nat} {m : List Tb} {a : Ac} {k : Int}
theorem ActT.lens {tbs:List Sch} {frs:List Fr} (h:ActT tbs M frs a):a.query.length<=8/\a.rows.length<=1000/\a.sets.length<=1000:=by
 cases h with
 | rows hs h1 h2 hr=>exact ⟨by simp,by simp only;omega,by simp⟩
 | copy hs hq=>simp
 | upd hs h1 hI hw hx=>exact ⟨by simp,by simp,by have:=hI.len;have:=hI.two;simp only;omega⟩
 | del hs hw hx=>simp
structure HomeC (M:Nat) (m:List Tb) (a:Ac) (t:Tb) (j:Nat):Prop where
 st:∀ t∈m,TabV t
 ml:m.length<=1000
 len:m.length=3
 ix:idxF (fun t=>zaw t a.table) m 0=((j:Nat):Int)
 at_:m[j]?=some t
 tab:tabC m a.table=t
 din:DmlIn M a [] m
 pr:zaa E0 S.Ak [a.av,fsl [],tsl m] [] (.tup [(zaZ M a [] m).1.av,iv (zaZ M a [] m).2]) []
 rf:zaa E0 S.AL [a.av,fsl [],tsl m] [] (.tup [(zaZ M a [] m).1.av,iv (zaZ M a [] m).2]) []
 ok:(zaZ M a [] m).2=0->CandG a t (zaZ M a [] m).1
theorem homeC (hm:StoreV k m) (hk:k<=100) (hM:M<=900) (h:ActT zak M [] a):∃ t j,HomeC M m a t j:=by
 have hin:=zzH hm Zo hM h.ok.1 h.ok.2
 have htv:∀ t∈m,TabV t:=fun t ht=>hm.tabV hk ht
 have hlen:m.length=3:=by have:=congrArg List.length hm.schs;simpa [zak] using this
 have hci:CandIn M a [] m:=⟨hin.ac,hin.fo,hin.fg,hin.to,hin.tg,hin.tv⟩
 have hsrc:∃ s∈zak,a.table=s.name:=by cases h <;> exact ⟨_,by assumption,rfl⟩
 obtain ⟨s,hs,hn⟩:=hsrc
 have hst:=zqH hm (zfz hs).1
 rw [← hn] at hst
 have hact:=h.act zsN (zmZ hm) (zmZ hm) zu5
 have e:zaZ M a [] m=ziE true M a [] m:=by rw [zux,hact]
 rcases zdB (fun t=>zaw t a.table) m 0 with ⟨e1,_⟩|⟨j,t,e1,e2,e3⟩
 ·have:=hst.1;rw [e1] at this;simp at this
 ·have ht:tabC m a.table=t:=by unfold tabC zaK;rw [e3];rfl
  refine ⟨t,j,htv,by omega,hlen,by rw [e1];congr 1;omega,e2,ht,hin,c_cand hin,?_,fun h0=>?_⟩
  ·rw [e];exact zzu hci (h.snd zsN (zmZ hm) (zmZ hm) zu5)
  ·have h1:ziE true M a [] m=chgT M a [] m t:=by
    unfold ziE zgm zaK;rw [e3];rfl
   rw [e,h1] at h0 ⊢
   exact zAU hci h.lens.1 h.lens.2.1 (List.mem_of_getElem? e2) (htv t (List.mem_of_getElem? e2)) h0
theorem HomeC.mem {t:Tb} {j:Nat} (h:HomeC M m a t j):t∈m:=List.mem_of_getElem? h.at_
theorem HomeC.tv {t:Tb} {j:Nat} (h:HomeC M m a t j):TabV t:=h.st t h.mem
theorem HomeC.cols {t:Tb} {j:Nat} (h:HomeC M m a t j):t.sch.cols.length<=1000:=by
 have:=h.tv.sch.hi
 simp only [List.length_map,decide_eq_false_iff_not] at this;omega
theorem HomeC.find {t:Tb} {j:Nat} (h:HomeC M m a t j):zaa E0 S.Ck [tsl m,sv a.table] [] (iv ((j:Nat):Int)) []:=by
 have h1:=zma m a.table h.din.to.len
 rw [h.ix] at h1;exact h1
theorem HomeC.shs {t:Tb} {j:Nat} (h:HomeC M m a t j):∀ t∈m,zac t.sch.cols/\zac t.rows/\∀ r∈t.rows,zac r.vals:=fun x hx=>⟨(h.st x hx).sch.short,(h.st x hx).shr,(h.st x hx).vals⟩
theorem HomeC.rowNw {t:Tb} {j:Nat} (h:HomeC M m a t j) {r:Rw} (hr:r∈t.rows):NwOk r.vals :=
 ⟨by have:=(h.tv.rows.fit r hr).len;have:=h.cols;omega,h.din.tg.vals t h.mem r hr⟩
theorem HomeC.updO {t:Tb} {j:Nat} (h:HomeC M m a t j) {c:Ch} (hc:CandG a t c) {p:Pr} (hp:p∈c.upd):NwOk p.old :=
 ⟨by have:=(hc.ku p hp).len;have:=(hc.g.v.updIn p hp).2.2;have:=h.cols;omega,hc.go p hp⟩
theorem HomeC.updN {t:Tb} {j:Nat} (h:HomeC M m a t j) {c:Ch} (hc:CandG a t c) {p:Pr} (hp:p∈c.upd):NwOk p.nw :=
 ⟨by have:=(hc.g.v.updIn p hp).2.2;have:=h.cols;omega,hc.g.u p hp⟩
theorem HomeC.insN {t:Tb} {j:Nat} (h:HomeC M m a t j) {c:Ch} (hc:CandG a t c) {r:List V} (hr:r∈c.ins):NwOk r :=
 ⟨by have:=hc.g.v.ins r hr;have:=h.cols;omega,hc.g.i r hr⟩
end
def asgS (a:Ac):List Str:=bif a.kind==2 then a.sets.map Se.col else []
noncomputable def L_asp (a:Ac) (i:Nat) (out:List Str):Cfg:=zaj B.Bc 0 [(3,.own 1 out.length),(10,.sl (a.sets.map Se.cells)),(11,iv ((a.sets.map Se.cells).length:Nat)),(12,iv (i:Nat))] [.box a.cells,.row Ty.string (out.map fun s=>[sv s]) false]
theorem Zcv13 {p:Prop} (h:p:=by first|rfl|(simp;done)|(simp [X.cells,Qy.cells,V.cells,Col.cells,Rw.cells,Tb.cells,Fr.cells,Sch.cells,Tp.cells,Pl.cells,xCol,xLit,xBin,xNeg,Ac.cells,Se.cells,Tg.cells];done)):p:=h
theorem zif (a:Ac) (hl:a.sets.length<=1000) (i:Nat) (out:List Str) (hi:i<=(a.sets).length) (hI:out=(a.sets.take i).map Se.col):∃ (out':List Str),(out'=(a.sets.take (a.sets).length).map Se.col)/\(decide ((((a.sets).length:Nat):Int) < (((a.sets.map Se.cells).length:Nat):Int))=false)/\∀ R,Good E0 B.Bc [] (L_asp a (a.sets).length out') R->Good E0 B.Bc [] (L_asp a i out) R:=by
 have hk:=hi;revert i out;refine zlp ((a.sets).length) (fun i hlt ih out hi hI _=>?_)
 obtain ⟨x,hx,h0,hw⟩:=zlq (l:=a.sets) ((a.sets.map Se.cells).length) hlt
 have ho:out.length<=1000:=(by rw [hI,List.length_map,List.length_take];omega)
 exact Zih (ih (out++[x.col]) Zo (by (rw [List.take_add_one,hx,List.map_append,hI];rfl)) Zo) fun R gY=>zab (wkl [sb h0,se (zaf Se.cells hx rfl),sqA (List.map (fun s=>[sv s]) out) [[sv x.col]] out.length 1 16,si hw] [3,10,11,12] 2 kr (zao 3 1 (List.map (fun s=>[sv s]) out++[[sv x.col]]) gY (he:=Zcv13) (hm:=Zcv13)))
theorem c_asg (a:Ac) (hl:a.sets.length<=1000):∃ (r:List Str),r=asgS a/\zaa E0 S.Bc [a.av] [] (ssl r) []:=by
 cases h1:a.kind != 2
 ·obtain ⟨out2,q2,q2_1,g2⟩:=zif a (by first|assumption|omega|(simp;done)|(simp;omega)) 0 ([]) (by first|assumption|omega|(simp;done)|(simp;omega)) (by first|assumption|omega|(simp;done)|(simp;omega))
  exact ⟨out2,(by (simp only [bne,Bool.not_eq_true',Bool.not_eq_false'] at *;simp only [asgS, *,cond_true,cond_false,List.take_length])),wkcN At.Bc [sb h1] [3,10,11,12] 1 [(.ot 3 Ty.string,2)] kr (g2 _ (zab (wkr [sqx (out2.length=(List.map (fun s=>[sv s]) out2).length),sb q2_1] kr)))⟩
 ·exact ⟨[],(by (simp only [bne,Bool.not_eq_true',Bool.not_eq_false'] at *;simp only [asgS, *,cond_true,cond_false,List.take_length])),wk At.Bc [sb h1] kr⟩
theorem zpQ (a:Ac) (hl:a.sets.length<=1000):zaa E0 S.Bc [a.av] [] (ssl (asgS a)) []:=by
 obtain ⟨r,rfl,h⟩:=c_asg a hl
 exact h
abbrev acAb:Ac:=⟨4,⟨#[]⟩,[],[],[],[],⟨#[]⟩⟩
abbrev tgAb (tb:Str) (ev:Int) (each:Bool):Tg:=⟨⟨#[97]⟩,tb,true,ev,[],each,[],[],[],[],[acAb]⟩
theorem zAJ (tb:Str) (ev:Int) (each:Bool) (s:Sch) (old new:List V) (m:List Tb):bRow 7 [tgAb tb ev each] [] s old new m []=([],[],[],12):=by kernel_rfl
theorem zvr (tb:Str) (ev:Int) (each:Bool):TgOk 7 (tgAb tb ev each):=by
 refine ⟨by simp,by simp,by simp,by simp,by simp,by simp,by simp,?_⟩
 simp only [List.mem_singleton,forall_eq]
 exact ⟨by simp,by simp,by simp,by simp,by simp,by simp,by simp,by simp⟩
theorem zlE (tb:Str) (ev:Int) (each:Bool) (s:Sch) (old new:List V) (m:List Tb) (hs:Few s.cols) (ht:TbOk m) (hg:TbG m) (ho:NwOk old) (hn:NwOk new):zaa E0 S.AE [.sl ([tgAb tb ev each].map Tg.cells),.sl [],s.av,vsl old,vsl new,tsl m,.sl []] [] (.tup [.sl [],.sl [],.sl [],iv 12]) []:=by
 have h1:=zl0 7 [tgAb tb ev each] [] s old new m [] Zd Zd hs (zaQ hs) ho ht hg (by simp [zac]) (fun t ht=>by simp only [List.mem_singleton] at ht;exact ht ▸ (zvr tb ev each).tr) hn hn.short Zd
 rw [zAJ] at h1
 exact h1
theorem zuP (tb:Str) (ev:Int) (each:Bool) (asg:List Str) (ha:zac asg) (b:Bool):zaa E0 S.At [.sl ([tgAb tb ev each].map Tg.cells),sv tb,iv ev,ssl asg,bv b] [] (.sl ((bif each==b then [tgAb tb ev each] else []).map Tg.cells)) []:=by
 have h:=zfW 7 [tgAb tb ev each] tb ev asg b (by simp [zac]) ha (fun t ht=>by simp only [List.mem_singleton] at ht;exact ht ▸ (zvr tb ev each).sh)
 have e:[tgAb tb ev each].filter (appl tb ev asg b)=bif each==b then [tgAb tb ev each] else []:=by
  unfold appl
  cases each <;> cases b <;> simp
 rw [e] at h
 exact h
noncomputable def L_st0 (tb:List Tb) (x:List AV) (i:Nat):Cfg:=zaj B.Av 0 [(1,tsl tb),(11,.sl [x]),(12,iv 1),(13,iv (i:Nat))] []
theorem zgd (tb:List Tb) (x:List AV) (i:Nat):True/\∀ R,Good E0 B.Av [] (L_st0 tb x i) R->Good E0 B.Av [] (L_st0 tb x i) R:=⟨trivial,fun _ h=>h⟩
noncomputable def L_st1 (tb:List Tb) (y x z:List AV) (i j:Nat):Cfg:=zaj B.Av 1 [(1,tsl tb),(11,.sl [y]),(12,iv 1),(13,iv (j:Nat)),(32,.sl [x]),(33,iv 1),(34,iv (i:Nat))] [.box z]
theorem zge (tb:List Tb) (y x z:List AV) (i j:Nat):True/\∀ R,Good E0 B.Av [] (L_st1 tb y x z i j) R->Good E0 B.Av [] (L_st1 tb y x z i j) R:=⟨trivial,fun _ h=>h⟩
theorem zr6 (tb:List Tb) (nm:Str) (ev:Int) (each:Bool) (hT:Pure S.AH [.sl [],.sl [],tsl tb] (.tup [bv true,iv 0])):∃ (r:Int),r=12/\zaa E0 S.Av [.sl ([tgAb nm ev each].map Tg.cells),tsl tb] [] (iv r) []:=by
 obtain ⟨q1,g1⟩:=zgd tb ([sv (tgAb nm ev each).name,sv (tgAb nm ev each).table,bv (tgAb nm ev each).before,iv (tgAb nm ev each).event,AV.sl [],bv (tgAb nm ev each).each,AV.sl [],AV.sl [],AV.sl [],AV.sl (zad []),AV.sl [[iv acAb.kind,sv acAb.table,AV.sl [],AV.sl (zag []),AV.sl [],AV.sl (zad []),sv acAb.text]]]) (0)
 obtain ⟨q2,g2⟩:=zge tb ([sv (tgAb nm ev each).name,sv (tgAb nm ev each).table,bv (tgAb nm ev each).before,iv (tgAb nm ev each).event,AV.sl [],bv (tgAb nm ev each).each,AV.sl [],AV.sl [],AV.sl [],AV.sl (zad []),AV.sl [[iv acAb.kind,sv acAb.table,AV.sl [],AV.sl (zag []),AV.sl [],AV.sl (zad []),sv acAb.text]]]) ([iv acAb.kind,sv acAb.table,AV.sl [],AV.sl (zag []),AV.sl [],AV.sl (zad []),sv acAb.text]) ([sv (tgAb nm ev each).name,sv (tgAb nm ev each).table,bv (tgAb nm ev each).before,iv (tgAb nm ev each).event,AV.sl [],bv (tgAb nm ev each).each,AV.sl [],AV.sl [],AV.sl [],AV.sl (zad []),AV.sl [[iv acAb.kind,sv acAb.table,AV.sl [],AV.sl (zag []),AV.sl [],AV.sl (zad []),sv acAb.text]]]) 0 (0)
 exact ⟨12,Zr,wkc At.Av [] [1,11,12,13] 0 kr (g1 _ (zab (wkl [sb Zt,se (xs:=[[sv (tgAb nm ev each).name,sv (tgAb nm ev each).table,bv (tgAb nm ev each).before,iv (tgAb nm ev each).event,AV.sl [],bv (tgAb nm ev each).each,AV.sl [],AV.sl [],AV.sl [],AV.sl (zad []),AV.sl [[iv acAb.kind,sv acAb.table,AV.sl [],AV.sl (zag []),AV.sl [],AV.sl (zad []),sv acAb.text]]]]) (i:=0) (c:=[sv (tgAb nm ev each).name,sv (tgAb nm ev each).table,bv (tgAb nm ev each).before,iv (tgAb nm ev each).event,AV.sl [],bv (tgAb nm ev each).each,AV.sl [],AV.sl [],AV.sl [],AV.sl (zad []),AV.sl [[iv acAb.kind,sv acAb.table,AV.sl [],AV.sl (zag []),AV.sl [],AV.sl (zad []),sv acAb.text]]]) (n:=11) ⟨by decide,rfl,rfl⟩,sc hT,sb Zf,sb Zf] [1,11,12,13,32,33,34] 1 kr (g2 _ (zab (wkr [sb Zt,se (xs:=[[iv acAb.kind,sv acAb.table,AV.sl [],AV.sl (zag []),AV.sl [],AV.sl (zad []),sv acAb.text]]) (i:=0) (c:=[iv acAb.kind,sv acAb.table,AV.sl [],AV.sl (zag []),AV.sl [],AV.sl (zad []),sv acAb.text]) (n:=7) ⟨by decide,rfl,rfl⟩,sb Zt] kr))))))⟩
theorem zi6 (tb:List Tb) (nm:Str) (ev:Int) (each:Bool) (h1:TbOk tb) (h2:TbG tb):zaa E0 S.Av [.sl ([tgAb nm ev each].map Tg.cells),tsl tb] [] (iv 12) []:=by
 obtain ⟨r,rfl,h⟩:=zr6 tb nm ev each (zlF (frs:=[]) (f:=fun x=>eval 1 x [] tb) (wh:=[]) (fun x hx=>by cases hx) (fun x hx=>by cases hx))
 exact h
noncomputable def zvK (l:List Int) (n:Int) (i:Nat) :Cfg:=zaj B.AF 0 [(0,isl l),(1,iv n),(7,iv ((l.map zbw).length:Nat)),(8,iv (i:Nat))] []
theorem zgg (l:List Int) (n:Int) (hl:zac l) (i:Nat)  (hi:i<=(l).length) (hI:idxF (fun t=>n==t) l 0=idxF (fun t=>n==t) (l.drop i) i):((idxF (fun t=>n==t) l 0=idxF (fun t=>n==t) (l.drop (l).length) (l).length)/\(decide ((((l).length:Nat):Int) < (((l.map zbw).length:Nat):Int))=false)/\∀ R,Good E0 B.AF [] (zvK l n (l).length ) R->Good E0 B.AF [] (zvK l n i ) R)\/(∃ (r:Int),r=idxF (fun t=>n==t) l 0/\Good E0 B.AF [] (zvK l n i ) (Shut 0 fun rZ hZ=>rZ=(iv r)/\hZ=[])):=by
 have hk:=hi;revert i;refine zlp ((l).length) (fun i hlt ih hi hI _=>?_)
 obtain ⟨x,hx,h0,hw⟩:=zlq (l:=l) ((l.map zbw).length) hlt
 let p_1:List St:=[sb h0,se (zaf (fun n=>[iv n]) hx rfl)]
 cases h1:n==x
 ·exact zie2 (ih Zo (by exact zm2 hI hx ‹_›) Zo) fun R gY=>zab (wkl (p_1++[sb h1,si hw]) [0,1,7,8] 0 kr gY)
 ·exact .inr ⟨(i:Int),(by exact zoH hI hx ‹_›),zab (wkr (p_1++[sb h1]) kr)⟩
theorem c_ixN (l:List Int) (n:Int) (hl:zac l):∃ (r:Int),r=idxF (fun t=>n==t) l 0/\zaa E0 S.AF [isl l,iv n] [] (iv r) []:=by
 rcases zgg l n Za 0 Za Za with ⟨q1,q1_1,g1⟩|⟨r1_0,p1_0,g1⟩
 ·exact ⟨-1,(by first|assumption|exact zgH ‹_›),wkc At.AF [] [0,1,7,8] 0 kr (g1 _ (zab (wkr [sb q1_1] kr)))⟩
 ·exact ⟨r1_0,(by first|assumption|exact zgH ‹_›),wkc At.AF [] [0,1,7,8] 0 kr (g1)⟩
theorem zzV {l:List Int} {n:Int}:decide (0<=idxF (fun t=>n==t) l 0)=anyI l n:=by
 rcases zdB (fun t=>n==t) l 0 with ⟨h1,h2⟩|⟨j,x,h1,h2,h3⟩
 ·rw [h1]
  cases ha:anyI l n
  ·rfl
  ·have hm:=zkl.1 ha
   have:=List.find?_eq_none.1 h2 n hm
   simp at this
 ·rw [h1]
  have hx:=List.find?_some h3
  simp only [beq_iff_eq] at hx
  have:anyI l n=true:=zkl.2 (hx ▸ List.mem_of_getElem? h2)
  rw [this];simp
theorem c_conI (l:List Int) (n:Int) (hx:∃ r:Int,r=idxF (fun t=>n==t) l 0/\zaa E0 S.AF [isl l,iv n] [] (iv r) []):∃ (r:Bool),r=anyI l n/\zaa E0 S.Bx [isl l,iv n] [] (bv r) []:=by
 obtain ⟨r1,q1,c1⟩:=hx
 exact ⟨decide ((0:Int)<=r1),(by (rw [← zzV];subst_vars;first|rfl|assumption|simp_all)),wk At.Bx [sc c1] kr⟩
theorem zjX (l:List Int) (n:Int) (hl:zac l):zaa E0 S.Bx [isl l,iv n] [] (bv (anyI l n)) []:=by
 obtain ⟨r,rfl,h⟩:=c_conI l n (c_ixN l n hl)
 exact h
structure FiStep (ts:List Tg) (frs:List Fr) (ex:List Tb) (m m2:List Tb) (a:Ac):Prop where
 kind:a.kind=1\/a.kind=2\/a.kind=3
 run:∃ n:Int,zaa E0 S.AW [tsl m,.sl (ts.map Tg.cells),.sl [],.agg a.cells,fsl frs,tsl ex,.sl []] [] (.tup [tsl m2,.sl [],.sl [],iv n,iv 0]) []
abbrev cc3 (tb ex:List Tb):List (List AV):=[[tsl tb],[tsl ex]]
noncomputable def L_ez (tb ex:List Tb) (i:Nat) (sz:Int):Cfg:=zaj B.Al 0 [(0,.sl (cc3 tb ex)),(3,iv sz),(9,.sl (cc3 tb ex)),(10,iv ((cc3 tb ex).length:Nat)),(11,iv (i:Nat))] []
theorem zcl (tb ex:List Tb) (i:Nat) (sz:Int):True/\∀ R,Good E0 B.Al [] (L_ez tb ex i sz) R->Good E0 B.Al [] (L_ez tb ex i sz) R:=⟨trivial,fun _ h=>h⟩
noncomputable def L_eb (tb ex:List Tb) (i:Nat) (xs:List Tb):Cfg:=zaj B.Al 1 [(6,.own 0 xs.length),(25,.sl (cc3 tb ex)),(26,iv ((cc3 tb ex).length:Nat)),(27,iv (i:Nat))] [.row Ty.Table (xs.map Tb.cells) false]
theorem zck (tb ex:List Tb) (i:Nat) (xs:List Tb):True/\∀ R,Good E0 B.Al [] (L_eb tb ex i xs) R->Good E0 B.Al [] (L_eb tb ex i xs) R:=⟨trivial,fun _ h=>h⟩
theorem Zcv12 {p:Prop} (h:p:=by first|rfl|(simp;done)|(simp [X.cells,Qy.cells,V.cells,Col.cells,Rw.cells,Tb.cells,Fr.cells,Sch.cells,Tp.cells,Pl.cells,xCol,xLit,xBin,xNeg,Ac.cells,Se.cells,Pr.cells,Ch.cells,Rw.cells,Dl.cells,Itm.cells];done)):p:=h
theorem zxT (tb ex:List Tb) (hl:tb.length<=1000) (hle:ex.length<=1000) (w1:IntKind.i64.wrap (0+((tb.map Tb.cells).length:Int))=((tb.length:Nat):Int)) (w2:IntKind.i64.wrap (((tb.length:Nat):Int)+((ex.map Tb.cells).length:Int))=((tb.length+ex.length:Nat):Int)) (w3:decide (((tb.length:Nat):Int) < 0)=false) (w4:decide (((tb.length+ex.length:Nat):Int) < 0)=false):∃ (r:List Tb),r=tb++ex/\zaa E0 S.Al [.sl (cc3 tb ex)] [] (tsl r) []:=by
 obtain ⟨q1,g1⟩:=zcl tb ex 0 (0)
 obtain ⟨q2,g2⟩:=zcl tb ex (0+1) ((tb.length:Int))
 obtain ⟨q3,g3⟩:=zcl tb ex (0+1+1) ((↑(tb.length+ex.length):Int))
 obtain ⟨q4,g4⟩:=zck tb ex 0 ([])
 obtain ⟨q5,g5⟩:=zck tb ex (0+1) ([]++tb)
 obtain ⟨q6,g6⟩:=zck tb ex (0+1+1) ([]++tb++ex)
 exact ⟨[]++tb++ex,(by first|rfl|(simp;done)),wkc At.Al [] [0,3,9,10,11] 0 kr (g1 _ (zab (wkl [sb Zt,se (xs:=[[tsl tb],[tsl ex]]) (i:=0) (c:=[tsl tb]) (n:=1) ⟨by decide,rfl,rfl⟩,si w1,sb Zf,si (zbz (t:=(↑0:Int)+1) (n:=0+1) Zo Zo)] [0,3,9,10,11] 0 kr (g2 _ (zab (wkl [sb Zt,se (zoC ([tsl tb]) ([tsl ex]) Za),si w2,sb Zf,si (zbz (t:=(↑(0+1):Int)+1) (n:=0+1+1) Zo Zo)] [0,3,9,10,11] 0 kr (g3 _ (zab (wkl [sb Zf,sln [] (zfY (tb.length+ex.length) Za)] [6,25,26,27] 1 kr (g4 _ (zab (wkl [sb Zt,se (xs:=[[tsl tb],[tsl ex]]) (i:=0) (c:=[tsl tb]) (n:=1) ⟨by decide,rfl,rfl⟩,sqx (AllLen (List.map Tb.cells tb) 4/\0=0/\((([]:List (List AV)).length+(List.map Tb.cells tb).length) * 72).le 140737488355328),si (zbz (t:=(↑0:Int)+1) (n:=0+1) Zo Zo)] [6,25,26,27] 1 kr (zaF (show ([(6,AV.own 0 ([]++List.map Tb.cells tb).length),(25,AV.sl [[tsl tb],[tsl ex]]),(26,iv (↑[[tsl tb],[tsl ex]].length:Int)),(27,iv (↑(0+1):Int))]:TS)=_ from Zcv12) rfl (g5 _ (zab (wkl [sb Zt,se (zoC ([tsl tb]) ([tsl ex]) Za),sqx (AllLen (List.map Tb.cells ex) 4/\([]++tb).length=(List.map Tb.cells ([]++tb)).length/\(((List.map Tb.cells ([]++tb)).length+(List.map Tb.cells ex).length) * 72).le 140737488355328),si (zbz (t:=(↑(0+1):Int)+1) (n:=0+1+1) Zo Zo)] [6,25,26,27] 1 kr (zao 6 0 (List.map Tb.cells ([]++tb)++List.map Tb.cells ex) (g6 _ (zab (wkr [sqx (([]++tb++ex).length=(List.map Tb.cells ([]++tb++ex)).length),sb Zf] kr))) (he:=Zcv12) (hm:=Zcv12))))))))))))))))))⟩
theorem zcU (tb ex:List Tb) (hl:tb.length<=1000) (hle:ex.length<=1000):zaa E0 S.Al [.sl (cc3 tb ex)] [] (tsl (tb++ex)) []:=by
 obtain ⟨r,rfl,h⟩:=zxT tb ex hl hle (by rw [List.length_map,IntKind.wrap_i64];omega) (by rw [List.length_map,IntKind.wrap_i64];omega) Zs Zp
 exact h
theorem zc9 {p:Prop} (h:p:=by first|assumption|omega|(simp;done)|(simp;omega)):p:=h
theorem zrJ {p:Prop} (h:p:=by first|assumption|exact (hN.no ‹_› ‹_› ‹_›).elim):p:=h
abbrev BAb (m:List Tb) (trig:List (List AV)) (s:Sch) (old nw:List V):Prop:=zaa E0 S.AE [.sl trig,.sl [],s.av,vsl old,vsl nw,tsl m,.sl []] [] (.tup [.sl [],.sl [],.sl [],iv 12]) []
abbrev abH0 (m:List Tb) (trig:List (List AV)) (s:Sch):Heap:=[.box (runB m trig s (.own 1 0) .nl),.row Ty.int [] false]
abbrev abH1 (m:List Tb) (trig:List (List AV)) (s:Sch):Heap:=[.box (runB m trig s (.own 1 0) .nl),.row Ty.int [] true]
theorem zwk (m:List Tb) (trig:List (List AV)) (s:Sch) (old nw:List V) (hR:zaa E0 S.AE [.sl trig,.sl [],s.av,vsl old,vsl nw,tsl m,.sl []] [] (.tup [.sl [],.sl [],.sl [],iv 12]) []):∃ (r:List V) (e:Int),(r=[]/\e=12)/\zaa E0 S.A4 [.p 0 0,vsl old,vsl nw] (abH0 m trig s) (.tup [vsl r,iv e]) (abH1 m trig s):=by
 exact ⟨[],12,Zj,wk At.A4 [sd [(22,[skx (True/\True/\(True/\True/\True)/\True/\True/\True/\0=0/\True) [] hR])],sb Zt] kr⟩
theorem zc0 (m:List Tb) (trig:List (List AV)) (s:Sch) (old nw:List V) (hR:BAb m trig s old nw):zaa E0 S.A4 [.p 0 0,vsl old,vsl nw] (abH0 m trig s) (.tup [.sl [],iv 12]) (abH1 m trig s):=by
 obtain ⟨r,e,⟨rfl,rfl⟩,h⟩:=zwk m trig s old nw hR
 exact h
theorem zxH {l:List Rw} {d:List Int} {i:Nat} {x:Rw} (h:(l.take i).all (fun r=>!anyI d r.id)=true) (hx:l[i]?=some x) (h1:anyI d x.id=false):(l.take (i+1)).all (fun r=>!anyI d r.id)=true:=by
 rw [List.take_add_one,hx,List.all_append,h];simp [h1]
noncomputable def zvx (m:List Tb) (trig:List (List AV)) (s:Sch) (t:Tb) (c:Ch) (i:Nat) :Cfg:=zaj B.Ad 0 [(0,.p 0 0),(1,.p 2 0),(20,.sl (t.rows.map Rw.cells)),(21,iv ((t.rows.map Rw.cells).length:Nat)),(22,iv (i:Nat))] (abH0 m trig s++[.box c.cells,.box t.cells])
theorem zfE (m:List Tb) (trig:List (List AV)) (s:Sch) (t:Tb) (c:Ch) (hr:zac t.rows) (hd:zac c.del) (hR:∀ r∈t.rows,BAb m trig s r.vals []) (i:Nat)  (hi:i<=(t.rows).length) (hI:(t.rows.take i).all (fun r=>!anyI c.del r.id)=true):(((t.rows.take (t.rows).length).all (fun r=>!anyI c.del r.id)=true)/\(decide ((((t.rows).length:Nat):Int) < (((t.rows.map Rw.cells).length:Nat):Int))=false)/\∀ R,Good E0 B.Ad (abH0 m trig s++[.box c.cells]) (zvx m trig s t c (t.rows).length ) R->Good E0 B.Ad (abH0 m trig s++[.box c.cells]) (zvx m trig s t c i ) R)\/(∃ (r:Int),r=12/\Good E0 B.Ad (abH0 m trig s++[.box c.cells]) (zvx m trig s t c i ) (Shut 3 fun rZ hZ=>rZ=(iv r)/\hZ=(abH1 m trig s++[.box c.cells]))):=by
 have hk:=hi;revert i;refine zlp ((t.rows).length) (fun i hlt ih hi hI _=>?_)
 obtain ⟨x,hx,h0,hw⟩:=zlq (l:=t.rows) ((t.rows.map Rw.cells).length) hlt
 have hxR:=hR x (List.mem_of_getElem? hx)
 let p_1:List St:=[sb h0,se (zaf Rw.cells hx rfl),sd [(6,[sc (zjX c.del x.id zc9)])]]
 cases h1:anyI c.del x.id
 ·exact zie2 (ih Zo (by exact zxH hI hx ‹_›) Zo) fun R gY=>zab (wkl (p_1++[sb h1,si hw]) [0,1,20,21,22] 4 kr gY)
 ·exact .inr ⟨12,Zr,zab (wkr (p_1++[sb h1,sl [0,1] (zc0 m trig s x.vals ([]) zc9),sb Zt]) kr)⟩
noncomputable def zvz (m:List Tb) (trig:List (List AV)) (s:Sch) (t:Tb) (c:Ch) (i:Nat) :Cfg:=zaj B.Ad 1 [(0,.p 0 0),(1,.p 2 0),(47,.sl (c.upd.map Pr.cells)),(48,iv ((c.upd.map Pr.cells).length:Nat)),(49,iv (i:Nat))] (abH0 m trig s++[.box c.cells,.box t.cells])
theorem zfG (m:List Tb) (trig:List (List AV)) (s:Sch) (t:Tb) (c:Ch) (hl:zac c.upd) (hR:∀ p∈c.upd,BAb m trig s p.old p.nw) (i:Nat)  (hi:i<=(c.upd).length) (hI:i=0):(((c.upd).length=0)/\(decide ((((c.upd).length:Nat):Int) < (((c.upd.map Pr.cells).length:Nat):Int))=false)/\∀ R,Good E0 B.Ad (abH0 m trig s++[.box c.cells]) (zvz m trig s t c (c.upd).length ) R->Good E0 B.Ad (abH0 m trig s++[.box c.cells]) (zvz m trig s t c i ) R)\/(∃ (r:Int),r=12/\Good E0 B.Ad (abH0 m trig s++[.box c.cells]) (zvz m trig s t c i ) (Shut 3 fun rZ hZ=>rZ=(iv r)/\hZ=(abH1 m trig s++[.box c.cells]))):=by
 have hk:=hi;revert i;refine zlp ((c.upd).length) (fun i hlt ih hi hI _=>?_)
 obtain ⟨x,hx,h0,hw⟩:=zlq (l:=c.upd) ((c.upd.map Pr.cells).length) hlt
 have hxR:=hR x (List.mem_of_getElem? hx)
 exact .inr ⟨12,Zr,zab (wkr [sb h0,se (zaf Pr.cells hx rfl),sl [0,1] (zc0 m trig s x.old x.nw zc9),sb Zt] kr)⟩
noncomputable def zvy (m:List Tb) (trig:List (List AV)) (s:Sch) (t:Tb) (c:Ch) (i:Nat) :Cfg:=zaj B.Ad 2 [(0,.p 0 0),(1,.p 2 0),(78,.sl (c.ins.map vrow)),(79,iv ((c.ins.map vrow).length:Nat)),(80,iv (i:Nat))] (abH0 m trig s++[.box c.cells,.box t.cells])
theorem zfF (m:List Tb) (trig:List (List AV)) (s:Sch) (t:Tb) (c:Ch) (hl:zac c.ins) (hR:∀ p∈c.ins,BAb m trig s [] p) (i:Nat)  (hi:i<=(c.ins).length) (hI:i=0):(((c.ins).length=0)/\(decide ((((c.ins).length:Nat):Int) < (((c.ins.map vrow).length:Nat):Int))=false)/\∀ R,Good E0 B.Ad (abH0 m trig s++[.box c.cells]) (zvy m trig s t c (c.ins).length ) R->Good E0 B.Ad (abH0 m trig s++[.box c.cells]) (zvy m trig s t c i ) R)\/(∃ (r:Int),r=12/\Good E0 B.Ad (abH0 m trig s++[.box c.cells]) (zvy m trig s t c i ) (Shut 3 fun rZ hZ=>rZ=(iv r)/\hZ=(abH1 m trig s++[.box c.cells]))):=by
 have hk:=hi;revert i;refine zlp ((c.ins).length) (fun i hlt ih hi hI _=>?_)
 obtain ⟨x,hx,h0,hw⟩:=zlq (l:=c.ins) ((c.ins.map vrow).length) hlt
 have hxR:=hR x (List.mem_of_getElem? hx)
 exact .inr ⟨12,Zr,zab (wkr [sb h0,se (zaf vrow hx rfl),sl [0,1] (zc0 m trig s ([]) x zc9),sb Zt] kr)⟩
structure ChN (t:Tb) (c:Ch):Prop where
 ne:c.del≠[]\/c.upd≠[]\/c.ins≠[]
 del:c.del≠[]->∃ r∈t.rows,anyI c.del r.id=true
theorem ChN.no {t:Tb} {c:Ch} (h:ChN t c) (h1:(t.rows.take t.rows.length).all (fun r=>!anyI c.del r.id)=true) (h2:c.upd.length=0) (h3:c.ins.length=0):False:=by
 rcases h.ne with e|e|e
 ·obtain ⟨r,hr,h4⟩:=h.del e
  rw [List.take_length] at h1
  have:=List.all_eq_true.1 h1 r hr
  rw [h4] at this;cases this
 ·exact e (List.length_eq_zero_iff.1 h2)
 ·exact e (List.length_eq_zero_iff.1 h3)
theorem zt0 (m:List Tb) (trig:List (List AV)) (s:Sch) (t:Tb) (c:Ch) (hN:ChN t c) (hr:zac t.rows) (hd:zac c.del) (hlu:zac c.upd) (hli:zac c.ins) (hRd:∀ r∈t.rows,BAb m trig s r.vals []) (hRu:∀ p∈c.upd,BAb m trig s p.old p.nw) (hRi:∀ p∈c.ins,BAb m trig s [] p):∃ (r:Int),r=12/\zaa E0 S.Ad [.p 0 0,.p 2 0,t.av] (abH0 m trig s++[.box c.cells]) (iv r) (abH1 m trig s++[.box c.cells]):=by
 rcases zfE m trig s t c zc9 zc9 zc9 0 zc9 zc9 with ⟨q1,q1_1,g1⟩|⟨r1_0,p1_0,g1⟩
 ·rcases zfG m trig s t c zc9 zc9 0 zc9 zc9 with ⟨q2,q2_1,g2⟩|⟨r2_0,p2_0,g2⟩
  ·rcases zfF m trig s t c zc9 zc9 0 zc9 zc9 with ⟨q3,q3_1,g3⟩|⟨r3_0,p3_0,g3⟩
   ·exact ⟨0,zrJ,wkc At.Ad [] [0,1,20,21,22] 4 kr (g1 _ (zab (wkl [sb q1_1] [0,1,47,48,49] 4 kr (g2 _ (zab (wkl [sb q2_1] [0,1,78,79,80] 4 kr (g3 _ ((hN.no q1 q2 q3).elim))))))))⟩
   ·exact ⟨r3_0,zrJ,wkc At.Ad [] [0,1,20,21,22] 4 kr (g1 _ (zab (wkl [sb q1_1] [0,1,47,48,49] 4 kr (g2 _ (zab (wkl [sb q2_1] [0,1,78,79,80] 4 kr g3))))))⟩
  ·exact ⟨r2_0,zrJ,wkc At.Ad [] [0,1,20,21,22] 4 kr (g1 _ (zab (wkl [sb q1_1] [0,1,47,48,49] 4 kr g2)))⟩
 ·exact ⟨r1_0,zrJ,wkc At.Ad [] [0,1,20,21,22] 4 kr (g1)⟩
theorem zcW {p:Prop} (h:p:=by first|assumption|rfl|omega|(simp [zac];done)|decide|simp [Room]):p:=h
theorem zo8 {p:Prop} (h:p:=by first|exact ⟨rfl,(abF1 ‹_›).symm⟩|exact ⟨rfl,(abF2 ‹_› ‹_›).symm⟩|exact ⟨rfl,(hs0 ‹_›).trans (abF3 ‹_› ‹_›).symm⟩|exact ⟨rfl,(abF3 ‹_› ‹_›).symm⟩):p:=h
abbrev nPh (c:Ch):Int:=IntKind.i64.wrap (IntKind.i64.wrap ((((c.del.map fun n=>[iv n]).length:Nat):Int)+(((c.upd.map Pr.cells).length:Nat):Int))+(((c.ins.map vrow).length:Nat):Int))
def abF (e:Int) (c:Ch):Int:=bif e != 0 then e else bif nPh c==0 then 0 else 12
theorem abF1 {e:Int} {c:Ch} (h:(e != 0)=true):abF e c=e:=by unfold abF;rw [h];rfl
theorem abF2 {e:Int} {c:Ch} (h:(e != 0)=false) (h2:(nPh c==0)=true):abF e c=0:=by unfold abF;rw [h,h2];rfl
theorem abF3 {e:Int} {c:Ch} (h:(e != 0)=false) (h2:(nPh c==0)=false):abF e c=12:=by unfold abF;rw [h,h2];rfl
theorem zx0 (m:List Tb) (ac:Ac) (ts trS:List Tg) (trig:List (List AV)) (t:Tb) (a:Nat) (c:Ch) (e s0:Int) (asg:List Str) (hml:m.length<=1000) (hx:m[a]?=some t) (hal:a < m.length) (hfd:zaa E0 S.Ck [tsl m,sv ac.table] [] (iv (a:Nat)) []) (hn:decide (((a:Nat):Int) < 0)=false) (hC:zaa E0 S.Ak [ac.av,.sl [],tsl (m++[])] [] (.tup [c.av,iv e]) []) (hd:∀ t∈m,zac t.sch.cols/\zac t.rows/\∀ r∈t.rows,zac r.vals) (hAs:zaa E0 S.Bc [ac.av] [] (ssl asg) []) (hF:zaa E0 S.At [.sl (ts.map Tg.cells),sv ac.table,iv ac.kind,ssl asg,bv false] [] (.sl (trS.map Tg.cells)) []) (hT:zaa E0 S.At [.sl (ts.map Tg.cells),sv ac.table,iv ac.kind,ssl asg,bv true] [] (.sl trig) []) (hS:zaa E0 S.Av [.sl (trS.map Tg.cells),tsl m] [] (iv s0) []) (hs0:(s0 != 0)=true->s0=12) (hrw:(e != 0)=false->(s0 != 0)=false->(nPh c==0)=false->zaa E0 S.Ad [.p 0 0,.p 2 0,t.av] (abH0 m trig t.sch++[.box c.cells]) (iv 12) (abH1 m trig t.sch++[.box c.cells])):∃ (r:List (List AV)) (n f:Int),(n=0/\f=abF e c)/\zaa E0 S.AW [tsl m,.sl (ts.map Tg.cells),.sl [],ac.av,.sl [],.sl [],.sl []] [] (.tup [.sl r,.sl [],.sl [],iv n,iv f]) []:=by
 cases h1:e != 0
 ·cases h2:IntKind.i64.wrap (IntKind.i64.wrap ((↑(List.map (fun n=>[iv n]) c.del).length:Int)+(↑(List.map Pr.cells c.upd).length:Int))+(↑(List.map vrow c.ins).length:Int))==0
  ·let p_1:List St:=[sc hfd,sc (zcU m ([]) zcW zcW),sb Zf,sc hC,sb h1,si (e:=IntKind.i64.wrap ((↑(List.map (fun n=>[iv n]) c.del).length:Int)+(↑(List.map Pr.cells c.upd).length:Int))) rfl,si (e:=IntKind.i64.wrap (IntKind.i64.wrap ((↑(List.map (fun n=>[iv n]) c.del).length:Int)+(↑(List.map Pr.cells c.upd).length:Int))+(↑(List.map vrow c.ins).length:Int))) rfl,sc (zdT m zcW zcW),sb h2,sc hAs,sc hF,sc hS]
   cases h3:s0 != 0
   ·exact ⟨[],0,12,zo8,wk At.AW (p_1++[sb h3,sd [(11,[se (zaf Tb.cells hx rfl)]),(7,[sc hT]),(15,[sc (zbB ([]) zcW)])],se (zaf Tb.cells hx rfl),sl [4,3,1] (hrw zcW zcW zcW),sb Zt]) kr⟩
   ·exact ⟨[],0,s0,zo8,wk At.AW (p_1++[sb h3]) kr⟩
  ·exact ⟨List.map Tb.cells m,0,0,zo8,wk At.AW [sqx (m.length=(List.map Tb.cells m).length/\0=0/\True/\True/\True/\True),sc hfd,sc (zcU m ([]) zcW zcW),sb Zf,sc hC,sb h1,si (e:=IntKind.i64.wrap ((↑(List.map (fun n=>[iv n]) c.del).length:Int)+(↑(List.map Pr.cells c.upd).length:Int))) rfl,si (e:=IntKind.i64.wrap (IntKind.i64.wrap ((↑(List.map (fun n=>[iv n]) c.del).length:Int)+(↑(List.map Pr.cells c.upd).length:Int))+(↑(List.map vrow c.ins).length:Int))) rfl,sc (zdT m zcW zcW),sb h2,sc (zbB ([]) zcW)] kr⟩
 ·exact ⟨[],0,e,zo8,wk At.AW [sc hfd,sc (zcU m ([]) zcW zcW),sb Zf,sc hC,sb h1] kr⟩
section
variable {M : Nat} {m : List Tb} {a : Ac} {k : Int}
theorem zxM (a:Ac):(asgS a).length<=a.sets.length:=by unfold asgS;cases a.kind==2 <;> simp
theorem chN_of {t:Tb} {c:Ch} (hc:CandG a t c) (h:(nPh c==0)=false):ChN t c:=by
 refine ⟨?_,fun hd=>?_⟩
 ·by_cases h1:c.del=[]
  ·by_cases h2:c.upd=[]
   ·by_cases h3:c.ins=[]
    ·simp only [nPh,h1,h2,h3,List.map_nil,List.length_nil] at h
     exact absurd h Zd
    ·exact .inr (.inr h3)
   ·exact .inr (.inl h2)
  ·exact .inl h1
 ·cases hl:c.del with
  | nil=>exact absurd hl hd
  | cons d l =>
   have hdm:d∈c.del:=by rw [hl];simp
   obtain ⟨r,hr,e,_⟩:=zql t.rows (hc.g.v.delIn d hdm)
   exact ⟨r,hr,by rw [← hl,e];exact zkl.2 hdm⟩
structure AbD (m:List Tb) (a:Ac) (each:Bool):Prop where
 rf:zaa E0 S.AL [a.av,.sl [],tsl m] [] (.tup [(zaZ 4 a [] m).1.av,iv (zaZ 4 a [] m).2]) []
 run:∃ (r:List (List AV)),zaa E0 S.AW [tsl m,.sl ([tgAb a.table a.kind each].map Tg.cells),.sl [],a.av,.sl [],.sl [],.sl []] [] (.tup [.sl r,.sl [],.sl [],iv 0,iv (abF (zaZ 4 a [] m).2 (zaZ 4 a [] m).1)]) []
theorem zxC (m:List Tb) (a:Ac) (each:Bool) (hm:StoreV 5 m) (h:ActT zak 4 [] a):AbD m a each:=by
 obtain ⟨t,j,hc⟩:=homeC hm Zd Zd h
 refine ⟨hc.rf,?_⟩
 have hal:=(List.getElem?_eq_some_iff.1 hc.at_).1
 have hash:zac (asgS a):=by have:=zxM a;have:=h.lens.2.2;simp only [zac];omega
 have hF:=zuP a.table a.kind each (asgS a) hash false
 have hT:=zuP a.table a.kind each (asgS a) hash true
 have hmm:m++[]=m:=List.append_nil m
 have hto:=hc.din.to
 have htg:=hc.din.tg
 have hfew:Few t.sch.cols:=hc.cols
 have hS:zaa E0 S.Av [.sl ((bif each==false then [tgAb a.table a.kind each] else []).map Tg.cells),tsl m] [] (iv (bif each==false then 12 else 0)) []:=by
  cases each
  ·exact zi6 m a.table a.kind false hto htg
  ·exact zeZ m
 have hs0:((bif each==false then (12:Int) else 0) != 0)=true->(bif each==false then (12:Int) else 0)=12:=fun hs=>by cases each <;> simp_all
 have hrw:((zaZ 4 a [] m).2 != 0)=false->((bif each==false then (12:Int) else 0) != 0)=false->(nPh (zaZ 4 a [] m).1==0)=false->zaa E0 S.Ad [.p 0 0,.p 2 0,t.av] (abH0 m ((bif each==true then [tgAb a.table a.kind each] else []).map Tg.cells) t.sch++[.box (zaZ 4 a [] m).1.cells]) (iv 12) (abH1 m ((bif each==true then [tgAb a.table a.kind each] else []).map Tg.cells) t.sch++[.box (zaZ 4 a [] m).1.cells]):=fun h0 hs hn=>by
  cases each
  ·simp at hs
  ·have hg:=hc.ok (by simpa using h0)
   have ld:=hg.ld
   have lu:=hg.lu
   have li:=hg.li
   obtain ⟨r,rfl,h2⟩:=zt0 m ((bif true==true then [tgAb a.table a.kind true] else []).map Tg.cells) t.sch t (zaZ 4 a [] m).1 (chN_of hg hn) hc.tv.shr (by simp only [zac];omega) (by simp only [zac];omega) (by simp only [zac];omega) (fun r hr=>zlE a.table a.kind true t.sch r.vals [] m hfew hto htg (hc.rowNw hr) ztb) (fun p hp=>zlE a.table a.kind true t.sch p.old p.nw m hfew hto htg (hc.updO hg hp) (hc.updN hg hp)) (fun p hp=>zlE a.table a.kind true t.sch [] p m hfew hto htg ztb (hc.insN hg hp))
   exact h2
 obtain ⟨r,n,f,⟨rfl,rfl⟩,hr⟩:=zx0 m a [tgAb a.table a.kind each] (bif each==false then [tgAb a.table a.kind each] else []) ((bif each==true then [tgAb a.table a.kind each] else []).map Tg.cells) t j (zaZ 4 a [] m).1 (zaZ 4 a [] m).2 (bif each==false then 12 else 0) (asgS a) hc.ml hc.at_ hal hc.find Zs (by rw [hmm];exact hc.pr) hc.shs (zpQ a h.lens.2.2) hF hT hS hs0 hrw
 exact ⟨r,hr⟩
end
theorem zqX  :∃ (r:Bool),r=true/\zaa E0 S.C4 [] [] (bv r) []:=by
 exact ⟨bif bif bif bif bif (0:Int)==(0:Int) then (1:Int)==(1:Int) else false then (↑[[sv tbK2.sch.name,AV.sl [[sv (ByteArray.mk #[(110:UInt8)]),iv (1:Int),bv false,bv false],[sv (ByteArray.mk #[(115:UInt8)]),iv (3:Int),bv false,bv false]],iv tbK2.next,AV.sl [[iv (1:Int),AV.sl [[iv za4.kind,iv za4.int,sv za4.text],[iv vNul.kind,iv vNul.int,sv vNul.text]]]]]].length:Int)==(1:Int) else false then (↑[[iv (1:Int),AV.sl [[iv za4.kind,iv za4.int,sv za4.text],[iv vNul.kind,iv vNul.int,sv vNul.text]]]].length:Int)==(1:Int) else false then za4.kind==(zb7 (5:Int)).kind&&(za4.int==(zb7 (5:Int)).int&&(za4.text==(zb7 (5:Int)).text&&true)) else false then tbK2.next==(2:Int) else false,Zr,(by (try simp only [zsl,xCol,xLit,xBin,xNeg,Ac.cells,Se.cells,Pr.cells,Ch.cells,Rw.cells]);exact wk At.C4 [sc zly,sc (znZ 5),sc (zaP (V.mk 0 0 Zs0)),sc zjg,sd [(3,[sg Zt]),(4,[sg Zt]),(7,[sg Zt]),(8,[sg Zt]),(9,[sg Zt]),(12,[sg Zt]),(13,[so Zt (se (xs:=[[sv tbK2.sch.name,AV.sl [[sv Zsn,iv 1,bv false,bv false],[sv (ByteArray.mk #[115]),iv 3,bv false,bv false]],iv tbK2.next,AV.sl [[iv 1,AV.sl [[iv za4.kind,iv za4.int,sv za4.text],[iv vNul.kind,iv vNul.int,sv vNul.text]]]]]]) (i:=0) (c:=[sv tbK2.sch.name,AV.sl [[sv Zsn,iv 1,bv false,bv false],[sv (ByteArray.mk #[115]),iv 3,bv false,bv false]],iv tbK2.next,AV.sl [[iv 1,AV.sl [[iv za4.kind,iv za4.int,sv za4.text],[iv vNul.kind,iv vNul.int,sv vNul.text]]]]]) (n:=4) ⟨by decide,rfl,rfl⟩)]),(14,[sg Zt]),(15,[sg Zt]),(16,[sg Zt]),(17,[sg Zt]),(20,[sg Zt]),(21,[so Zt (se (xs:=[[sv tbK2.sch.name,AV.sl [[sv Zsn,iv 1,bv false,bv false],[sv (ByteArray.mk #[115]),iv 3,bv false,bv false]],iv tbK2.next,AV.sl [[iv 1,AV.sl [[iv za4.kind,iv za4.int,sv za4.text],[iv vNul.kind,iv vNul.int,sv vNul.text]]]]]]) (i:=0) (c:=[sv tbK2.sch.name,AV.sl [[sv Zsn,iv 1,bv false,bv false],[sv (ByteArray.mk #[115]),iv 3,bv false,bv false]],iv tbK2.next,AV.sl [[iv 1,AV.sl [[iv za4.kind,iv za4.int,sv za4.text],[iv vNul.kind,iv vNul.int,sv vNul.text]]]]]) (n:=4) ⟨by decide,rfl,rfl⟩)]),(22,[sg Zt]),(23,[sg Zt]),(24,[so Zt (se (xs:=[[iv 1,AV.sl [[iv za4.kind,iv za4.int,sv za4.text],[iv vNul.kind,iv vNul.int,sv vNul.text]]]]) (i:=0) (c:=[iv 1,AV.sl [[iv za4.kind,iv za4.int,sv za4.text],[iv vNul.kind,iv vNul.int,sv vNul.text]]]) (n:=2) ⟨by decide,rfl,rfl⟩)]),(25,[sg Zt]),(26,[sg Zt]),(27,[so Zt (se (xs:=[[iv za4.kind,iv za4.int,sv za4.text],[iv vNul.kind,iv vNul.int,sv vNul.text]]) (i:=0) (c:=[iv za4.kind,iv za4.int,sv za4.text]) (n:=3) ⟨by decide,rfl,rfl⟩)]),(28,[sg Zt]),(29,[so Zt (sc (zbZ 5))]),(30,[so Zt (sq zaW)]),(33,[sg Zt]),(34,[so Zt (se (xs:=[[sv tbK2.sch.name,AV.sl [[sv Zsn,iv 1,bv false,bv false],[sv (ByteArray.mk #[115]),iv 3,bv false,bv false]],iv tbK2.next,AV.sl [[iv 1,AV.sl [[iv za4.kind,iv za4.int,sv za4.text],[iv vNul.kind,iv vNul.int,sv vNul.text]]]]]]) (i:=0) (c:=[sv tbK2.sch.name,AV.sl [[sv Zsn,iv 1,bv false,bv false],[sv (ByteArray.mk #[115]),iv 3,bv false,bv false]],iv tbK2.next,AV.sl [[iv 1,AV.sl [[iv za4.kind,iv za4.int,sv za4.text],[iv vNul.kind,iv vNul.int,sv vNul.text]]]]]) (n:=4) ⟨by decide,rfl,rfl⟩)]),(35,[sg Zt]),(36,[sg Zt]),(37,[sg Zt])]] kr)⟩
theorem zra:zaa E0 S.C4 [] [] (bv true) []:=by
 obtain ⟨r,rfl,h⟩:=zqX
 exact h
theorem zo9 {p:Prop} (h:p:=by first|rfl|exact (AbQ.q1 ‹_› ‹_› ‹_›).elim|exact (AbQ.q2 ‹_› ‹_› ‹_›).elim|exact (AbQ.q3 ‹_› ‹_› ‹_›).elim):p:=h
theorem znb {p:Prop} (h:p:=by first|assumption|rfl|omega|(simp;done)):p:=h
theorem zkj (t:Tp) (n:Int) (hn:n=5):∃ (m:List Tb) (t':Tp),StoreV 5 m/\zaa E0 S.BD [.p 0 0,iv n] [.box t.cells] (tsl m) [.box t'.cells]:=by
 subst hn
 exact zkk t 5 zeM Zd
abbrev nLw (c:Ch):Int:=IntKind.i64.wrap (IntKind.i64.wrap ((((c.ins.map vrow).length:Nat):Int)+(((c.del.map fun n=>[iv n]).length:Nat):Int))+(((c.upd.map Pr.cells).length:Nat):Int))
structure AbQ (f e:Int) (c:Ch):Prop where
 eq:f=abF e c
 len:e=0->c.ins.length<=10000/\c.del.length<=100/\c.upd.length<=100
section
variable {f e : Int} {c : Ch}
theorem AbQ.n (q:AbQ f e c) (h:(e != 0)=false):nLw c=((c.ins.length+c.del.length+c.upd.length:Nat):Int)/\nPh c=((c.ins.length+c.del.length+c.upd.length:Nat):Int):=by
 obtain ⟨h1,h2,h3⟩:=q.len (by simpa using h)
 simp only [nLw,nPh,List.length_map,IntKind.wrap_i64];omega
theorem AbQ.q1 (q:AbQ f e c) (h:(e != 0)=false) (h6:(decide (0 < nLw c)==(f==12))=false):False:=by
 obtain ⟨e1,e2⟩:=q.n h
 rw [q.eq,e1] at h6
 unfold abF at h6
 rw [h,e2] at h6
 by_cases hz:c.ins.length+c.del.length+c.upd.length=0
 ·rw [hz] at h6;(first|(simp at h6;done)|cases h6)
 ·have a1:((((c.ins.length+c.del.length+c.upd.length:Nat):Int))==0)=false:=by rw [beq_eq_false_iff_ne];omega
  have a2:decide (0 < (((c.ins.length+c.del.length+c.upd.length:Nat):Int)))=true:=by rw [decide_eq_true_iff];omega
  rw [a1,a2] at h6;(first|(simp at h6;done)|cases h6)
theorem AbQ.q2 (q:AbQ f e c) (h:(e != 0)=false) (h6:((nLw c==0)==(f==0))=false):False:=by
 obtain ⟨e1,e2⟩:=q.n h
 rw [q.eq,e1] at h6
 unfold abF at h6
 rw [h,e2] at h6
 by_cases hz:c.ins.length+c.del.length+c.upd.length=0
 ·rw [hz] at h6;(first|(simp at h6;done)|cases h6)
 ·have a1:((((c.ins.length+c.del.length+c.upd.length:Nat):Int))==0)=false:=by rw [beq_eq_false_iff_ne];omega
  rw [a1] at h6;(first|(simp at h6;done)|cases h6)
theorem AbQ.q3 (q:AbQ f e c) (h:(e != 0)=true) (h6:(f==e)=false):False:=by
 rw [q.eq,abF1 h] at h6;simp at h6
end
theorem zja (m:List Tb) (a:Ac) (hm:StoreV 5 m) (h:ActT zak 4 [] a):zaa E0 S.AL [a.av,.sl [],tsl m] [] (.tup [(zaZ 4 a [] m).1.av,iv (zaZ 4 a [] m).2]) []:=(zxC m a true hm h).rf
theorem zlc (m:List Tb) (a:Ac) (each:Bool) (hm:StoreV 5 m) (h:ActT zak 4 [] a):∃ (r:List (List AV)) (f:Int),AbQ f (zaZ 4 a [] m).2 (zaZ 4 a [] m).1/\zaa E0 S.AW [tsl m,.sl ([tgAb a.table a.kind each].map Tg.cells),.sl [],a.av,.sl [],.sl [],.sl []] [] (.tup [.sl r,.sl [],.sl [],iv 0,iv f]) []:=by
 obtain ⟨r,hr⟩:=(zxC m a each hm h).run
 obtain ⟨t,j,hc⟩:=homeC hm Zd Zd h
 exact ⟨r,_,⟨rfl,fun h0=>⟨(hc.ok h0).li,(hc.ok h0).ld,(hc.ok h0).lu⟩⟩,hr⟩
def homeP :Pl :=
 Pl.mk [] zak
theorem zs4  (hs:zac zak):zaa E0 S.DL [] [] homeP.av []:=by
 exact wk At.DL [sc zfn] kr
theorem zwf (l:List Int) (each:Bool) (hsh:zac zak) (hkn:zaa E0 S.C4 [] [] (bv true) []):∃ (b:Bool),b=true/\zaa E0 S.A6 [isl l,bv each] [] (bv b) []:=by
 obtain ⟨t1,c1⟩:=(zuI l)
 obtain ⟨m2,t2,q2,c2⟩:=(zkj t1 5 znb)
 obtain ⟨r3,t3,q3,c3⟩:=(ziB t2)
 obtain ⟨r4,f4,q4,c4⟩:=(zlc m2 r3 each znb znb)
 let p_1:List St:=[sc c1,sl [0] c2,sc (zs4 znb),sl [0] c3,sc (zja m2 r3 znb znb),si (e:=IntKind.i64.wrap ((↑(List.map vrow (zaZ 4 r3 [] m2).fst.ins).length:Int)+(↑(List.map (fun n=>[iv n]) (zaZ 4 r3 [] m2).fst.del).length:Int))) rfl,si (e:=IntKind.i64.wrap (IntKind.i64.wrap ((↑(List.map vrow (zaZ 4 r3 [] m2).fst.ins).length:Int)+(↑(List.map (fun n=>[iv n]) (zaZ 4 r3 [] m2).fst.del).length:Int))+(↑(List.map Pr.cells (zaZ 4 r3 [] m2).fst.upd).length:Int))) rfl,sc c4]
 cases h5:(zaZ 4 r3 [] m2).snd != 0
 ·cases h6:decide (0 < IntKind.i64.wrap (IntKind.i64.wrap ((↑(List.map vrow (zaZ 4 r3 [] m2).fst.ins).length:Int)+(↑(List.map (fun n=>[iv n]) (zaZ 4 r3 [] m2).fst.del).length:Int))+(↑(List.map Pr.cells (zaZ 4 r3 [] m2).fst.upd).length:Int)))==(f4==12)
  ·exact ⟨false,zo9,wk At.A6 (p_1++[sb h5,sb h6]) kr⟩
  ·cases h7:(IntKind.i64.wrap (IntKind.i64.wrap ((↑(List.map vrow (zaZ 4 r3 [] m2).fst.ins).length:Int)+(↑(List.map (fun n=>[iv n]) (zaZ 4 r3 [] m2).fst.del).length:Int))+(↑(List.map Pr.cells (zaZ 4 r3 [] m2).fst.upd).length:Int))==0)==(f4==0)
   ·exact ⟨false,zo9,wk At.A6 (p_1++[sb h5,sg h6,sb h7]) kr⟩
   ·exact ⟨true,zo9,wk At.A6 (p_1++[sb h5,sg h6,sg h7,so Zt (sc hkn)]) kr⟩
 ·cases h8:f4==(zaZ 4 r3 [] m2).snd
  ·exact ⟨false,zo9,wk At.A6 (p_1++[sb h5,sb h8]) kr⟩
  ·exact ⟨true,zo9,wk At.A6 (p_1++[sb h5,so h8 (sc hkn)]) kr⟩
theorem ztP (l:List Int) (each:Bool):zaa E0 S.A6 [isl l,bv each] [] (bv true) []:=by
 obtain ⟨b,rfl,h⟩:=zwf l each zeM zra
 exact h
end Go.AM
namespace Go.AM
open Go.RowKit
abbrev old (W:World):Addr->Prop:=fun a=>a.block < W.heap.size
theorem zuT {W:World} {a:Addr} {v:Value} (h:W.cell? a=some v):a.block < W.heap.size:=by
 unfold World.cell? at h
 cases hb:W.heap[a.block]? with
 | none=>rw [hb] at h;cases h
 | some o=>exact (Array.getElem?_eq_some_iff.1 hb).1
theorem relD_strs {W:World} {g:Nat} (l:List Str) (h:∀ (j:Nat) (s:Str),l[j]?=some s->W.cell? ⟨g,j,none⟩=some (.string s)):RelD W (old W) (.dp (l.map sv)) (.pointer (some ⟨g,0,none⟩)):=by
 refine .dp _ g 0 (fun j=>.string (l.getD j ⟨#[]⟩)) (fun j x hx=>?_) (fun j x hx=>?_)
 ·simp only [List.getElem?_map,Option.map_eq_some_iff] at hx
  obtain ⟨s,hs,rfl⟩:=hx
  have hc:=h j s hs
  rw [Nat.zero_add]
  refine ⟨zuT hc,?_,rfl⟩
  rw [hc,List.getD_eq_getElem?_getD,hs];rfl
 ·simp only [List.getElem?_map,Option.map_eq_some_iff] at hx
  obtain ⟨s,hs,rfl⟩:=hx
  have:l.getD j ⟨#[]⟩=s:=by rw [List.getD_eq_getElem?_getD,hs];rfl
  simp only [this]
  exact .v _ rfl
theorem zzs {s:ByteArray} {l:List UInt8} (h:s.data.toList=l):s=zfs l:=by
 cases s with
 | mk d=>simp only [zfs];congr;rw [← h]
theorem laid_strs {P:Program} {W:World} {n:String} {g:Nat} {t e:TypeId} {k:Nat} {l:List (List UInt8)} (hr:Lib.VarReads P W n (.agg (l.map fun b=>.lit (.string b)))) (hg:P.globalNamed n=some g) (hty:(P.globals[g]?).map (·.type)=some t)
  (ht:P.underlying t=some (.array k e)) (he:P.underlying e=some .string) (hc:P.cellsOf e=1) (hk:l.length=k):∀ (j:Nat) (s:Str),(l.map zfs)[j]?=some s->W.cell? ⟨g,j,none⟩=some (.string s):=by
 intro j s hs
 obtain ⟨g',t',cs,fuel,p,h1,h2,h3,h4⟩:=hr
 obtain rfl:g'=g:=Option.some.inj (h1.symm.trans hg)
 obtain rfl:t'=t:=Option.some.inj (h2.symm.trans hty)
 simp only [List.getElem?_map,Option.map_eq_some_iff] at hs
 obtain ⟨b,hb,rfl⟩:=hs
 have hj:=zbY hb
 obtain ⟨f',d,q,hd,hq⟩:=Lib.array_elem ht h4 j Zo
 simp only [List.getElem?_map,hb,Option.map_some,Option.some.injEq] at hd
 subst hd
 obtain ⟨s,e1,e2,_⟩:=DataW.trod_string he hq
 rw [World.var?_cell h1 h3]
 rw [hc,Nat.mul_one] at e1
 have e3:cs.toList[j]?=some (.string s):=by
  have:=congrArg (·[0]?) e1
  simpa [List.getElem?_take,List.getElem?_drop] using this
 have e4:s=zfs b:=zzs (by simp only [Prod.mk.injEq,DataW.lit.injEq,Lit.string.injEq] at e2;exact e2.1.symm)
 rw [← e4]
 simpa using e3
theorem relV_ints {W:World} {a:Addr} {len cap:Nat} {zs:List Int} (h1:len<=cap) (h2:cap<=maxLen) (h3:zs.length=cap) (hc:∀ i,i < zs.length->W.cell? (a.add i)=some (.int .i64 (zs.getD i 0))) :
  RelV E0.T [] [] W (old W) (isl (zs.take len)) (.slice (some a) len cap):=by
 have hlen:((zs.take len).map fun n=>[iv n]).length=len:=by simp;omega
 have key:=RelD.sl (w:=W) (S:=old W) ((zs.take len).map fun n=>[iv n]) (some a) cap a.block a.off 1 (fun k=>.int .i64 (zs.getD k 0)) ?_ (by rw [hlen];exact h1) h2 (fun i c hi=>?_) (fun i j c x hi hj=>?_) (fun i j c x hi hj=>?_)
 ·rw [hlen] at key
  exact .d _ _ key
 ·intro hne
  have hz:0 < zs.length:=by
   rcases Nat.eq_zero_or_pos zs.length with h|h
   ·exact absurd (by simp [List.eq_nil_of_length_eq_zero h]) hne
   ·exact h
  have h0:=hc 0 hz
  have:a.spot=none:=by
   simp only [Addr.add,if_pos] at h0
   unfold World.cell? at h0
   split at h0
   ·cases hs:a.spot with
    | none=>rfl
    | some x=>rw [hs] at h0;simp at h0
   ·cases h0
  cases a
  simp only at this
  subst this
  rfl
 ·simp only [List.getElem?_map,Option.map_eq_some_iff] at hi
  obtain ⟨n,_,rfl⟩:=hi
  rfl
 ·simp only [List.getElem?_map,Option.map_eq_some_iff] at hi
  obtain ⟨n,hn,rfl⟩:=hi
  have hi2:=zbY hn
  simp only [List.length_take] at hi2
  have hj0:j=0:=by
   cases j with
   | zero=>rfl
   | succ j=>simp at hj
  subst hj0
  have h0:=hc i Zo
  have e:a.add i=⟨a.block,a.off+(i * 1+0),none⟩:=by
   unfold Addr.add
   split
   ·rename_i hi0
    subst hi0
    have:a.spot=none:=by
     simp only [Addr.add,if_pos] at h0
     unfold World.cell? at h0
     split at h0
     ·cases hs:a.spot with
      | none=>rfl
      | some x=>rw [hs] at h0;simp at h0
     ·cases h0
    cases a
    simp only at this
    subst this
    rfl
   ·simp
  rw [e] at h0
  refine ⟨zuT h0,?_,rfl⟩
  rw [h0];simp
 ·simp only [List.getElem?_map,Option.map_eq_some_iff] at hi
  obtain ⟨n,hn,rfl⟩:=hi
  have hj0:j=0:=by
   cases j with
   | zero=>rfl
   | succ j=>simp at hj
  subst hj0
  simp only [List.getElem?_cons_zero,Option.some.injEq] at hj
  subst hj
  have:zs.getD (i * 1+0) 0=n:=by
   rw [List.getElem?_take] at hn
   split at hn
   ·simp only [Nat.mul_one,Nat.add_zero,List.getD_eq_getElem?_getD,hn];rfl
   ·cases hn
  simp only [this]
  exact .v _ rfl
theorem relV_nil {W:World}:RelV E0.T [] [] W (old W) (isl []) (.slice none 0 0) :=
 .d _ _ (RelD.sl [] none 0 0 0 1 (fun _=>.int .i64 0) (fun h=>absurd rfl h) (Nat.le_refl _) Zd (fun i c h=>by simp at h) (fun i j c x h=>by simp at h) (fun i j c x h=>by simp at h))
theorem oneCell_ok {P:Program} {w:World} {r:Reach} {b:Nat} {u:TypeId} {y:Value} (h:Cell.okWide P w r b u y):y.oneCell'=true:=by
 have h2:∀ y,Cell.ok P w r b u y->y.oneCell'=true:=by
  intro y h
  unfold Cell.ok at h
  split at h <;> first|rfl|exact h.elim
 unfold Cell.okWide at h
 split at h <;> first|rfl|exact h2 _ h
theorem calls_of {f:FuncId} {args:List AV} {b:Bool} (h:zaa E0 f args [] (bv b) []) (hgo:GoFn E0.P f) {W:World} {vs:List Value} (hglob:∀ g cs,globs g=some cs->RelD W (old W) (.dp cs) (.pointer (some ⟨g,0,none⟩))) (hargs:PW (RelV E0.T [] [] W (old W)) args vs) :
  Calls E0.P f vs.toArray W fun e W'=>e=.returned (.bool b)/\Below W.heap.size W W':=by
 have hrel:Rel E0 [] [] (old W) W:=⟨rfl,fun b cs hb=>by simp at hb,fun b e xs sh hb=>by simp at hb,fun b es hb=>by simp at hb,fun b b' k k' g hb=>by simp at hb,fun b k g hb=>by simp at hb,fun a ha=>ha,fun b k g a hb=>by simp at hb,hglob⟩
 obtain ⟨fn,hf1,hf2,hf3⟩:=hgo
 have hp:∀ e W',Post E0 [] [] (old W) W (fun r' h''=>r'=bv b/\h''=[]) e W'->e=.returned (.bool b)/\Below W.heap.size W W':=by
  rintro e W' ⟨r,h',β',S',y,rfl,⟨rfl,rfl⟩,_,ex,rv⟩
  refine ⟨?_,ex.os,ex.tape,ex.output,ex.size,fun k hk=>ex.keep k hk fun b' k' hb=>by simp at hb⟩
  rw [rv.v_inv]
 rcases h [] (old W) W vs hrel hargs with ⟨_,hc⟩|⟨y,w',hrun,_⟩
 ·exact hc.mono hp
 ·exfalso
  simp only [callFunc,Sem.run_bind,Sem.run_pure,Result.andThen_ok,run_program,hf1,hf2,hf3,Bool.false_eq_true,if_false] at hrun
  cases hrun
end Go.AM
