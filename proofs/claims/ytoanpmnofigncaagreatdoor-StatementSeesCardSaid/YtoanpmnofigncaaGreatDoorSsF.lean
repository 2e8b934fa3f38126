/-
  Contracts of the program's functions, part 5.
-/
import Derived.Test.YtoanpmnofigncaaGreatDoorSsE
import Derived.Shelf.Spec.SlicesGrow
import Derived.Carry
import Derived.ChangeSame
import Derived.Lib.LaidU8
import Derived.FnData
set_option linter.unusedSimpArgs false
set_option linter.unusedVariables false
namespace Go.AM
set_option maxRecDepth 100000
set_option maxHeartbeats 400000
set_option linter.unusedSimpArgs false
set_option linter.unusedVariables false
theorem zeN {p:Prop} (h:p:=by first|assumption|omega|rfl|(simp;done)):p:=h
theorem zjT (t:Tb) (ins:List (List V)) (ht:TabV t) (hr:∀ r∈ins,zcx t.sch.cols r) (hlen:t.rows.length+ins.length≤100) (hnx:t.next+(ins.length:Int)≤2147483648) (hk:(zba (idxF (fun c=>c.key) t.sch.cols 0) (t.rows++insN t.next ins)).Nodup):zaa E0 S.keys_Apply [t.av,insC ins] [] (.tup [(insT t ins).av,iv 0]) []:=by
 have hp:=ht.rows.pos
 have hsc:=ht.sch.short
 have hvi:∀ r∈ins,zad r:=fun r h=>by have h1:=(hr r h).len;simp only [zad] at *;omega
 have hV:zaa E0 S.keys_Valid [t.av,insC ins] [] (bv true) []:=by
  obtain ⟨r,rfl,h⟩:=zmp t ins (zkn t ht) (by simp only [zad];omega) fun v hv=>by have h9:v.length=t.sch.cols.length:=(hr v hv).len;simp [h9]
  exact h
 have hF:zaa E0 S.keys_fits [t.av,insC ins] [] (iv 0) []:=by
  obtain ⟨r,rfl,h⟩:=znd t ins (by simp only [zad];omega) hsc (fun v hv=>zls ht.sch (hr v hv)) fun v hv=>zkh (hr v hv)
  exact h
 obtain ⟨x,e,⟨he,nx,hnx2,hx⟩,h⟩:=zmx t ins hV hF ht.shr (by omega) (by omega) ht.vals hvi hsc ⟨hp,by omega⟩ (by simp [IntKind.wrap_i64];omega) (by simp [IntKind.wrap_i64];omega) fun nx rs hrs=>by
  rw [List.take_length] at hrs
  obtain ⟨b,hb,hc⟩:=zfg ⟨t.sch,nx,rs⟩ hsc (by simp only [hrs];exact zjf (by omega) (by rw [zdL];omega))
  have h1:b=false:=hb.2 (by simp only [hrs];exact hk)
  rw [h1] at hc;exact hc
 have e2:nx=t.next+(ins.length:Int):=by rw [hnx2,List.length_map,IntKind.wrap_i64];omega
 rw [he,hx,e2] at h;exact h
abbrev evR (f:X→V × Int) (rows:List (List X)):List (List V):=rows.map fun y=>y.map fun x=>(f x).1
abbrev zal (nm:Str) (rows:List (List X)):Ac:=⟨1,nm,rows,[],[],[],⟨#[]⟩⟩
noncomputable def L_niI (nm:Str) (rows:List (List X)) (s:Sch) (frs:List Fr) (tb:List Tb) (f:X→V × Int) (io:Nat) (y:List X) (out:List (List V)) (i:Nat) (row:List V):Cfg:=zan B.dml_inserted 1 [(2,fsl frs),(3,tsl tb),(4,.p 0 0),(5,.p 1 0),(10,.own 2 out.length),(13,.own 3 row.length),(23,.sl (rows.map zat)),(24,iv ((rows.map zat).length:Nat)),(25,iv (io:Nat)),(35,xsl y),(36,iv ((zac y).length:Nat)),(37,iv (i:Nat))] [.box (zal nm rows).cells,.box s.cells,.row Ty.LValue (out.map vrow) false,.row Ty.Value (row.map V.cells) false]
theorem zfR (nm:Str) (rows:List (List X)) (s:Sch) (frs:List Fr) (tb:List Tb) (f:X→V × Int) (io:Nat) (y:List X) (out:List (List V)) (hy:zad y) (hf:∀ x∈y,PEv f x frs tb) (hf0:∀ x∈y,((f x).2 != 0)=false) (i:Nat) (row:List V) (hi:i≤(y).length) (hI:row=(y.take i).map fun x=>(f x).1):∃ (row':List V),(row'=(y.take (y).length).map fun x=>(f x).1)∧(decide ((((y).length:Nat):Int) < (((zac y).length:Nat):Int))=false)∧∀ R,Good E0 B.dml_inserted [] (L_niI nm rows s frs tb f io y out (y).length row') R→Good E0 B.dml_inserted [] (L_niI nm rows s frs tb f io y out i row) R:=by
 obtain ⟨kk,hk⟩:∃ kk,i+kk=(y).length:=⟨(y).length - i,by omega⟩
 induction kk generalizing i row with
 | zero =>
  have e0:i=(y).length:=by omega
  subst e0
  exact ⟨row,hI,by simp,fun R hg=>hg⟩
 | succ kk ih =>
  obtain ⟨x,hx⟩:=zaz (l:=y) (i:=i) (by omega)
  have h0:decide (((i:Nat):Int) < (((zac y).length:Nat):Int))=true:=by simp;omega
  have hw:IntKind.i64.wrap (((i:Nat):Int)+1)=((i+1:Nat):Int):=zak i (by first|omega|(simp only [zad,Few] at *;omega))
  have hx1:=hf x (List.mem_of_getElem? hx);have hx0:=hf0 x (List.mem_of_getElem? hx);have hrl:row.length≤1000000000:=by rw [hI];simp only [List.length_map,List.length_take,zad] at *;omega
  obtain ⟨rowZ,qZ,xZ,gZ⟩:=ih (i+1) (row++[(f x).fst]) (by omega) (by (rw [List.take_add_one,hx,List.map_append,← hI];rfl)) (by omega);exact ⟨rowZ,qZ,xZ,fun R hg=>zab (wkl [sb h0,se (zcj hx),sc hx1,sb hx0,sqx (AllLen [[iv (f x).fst.kind,iv (f x).fst.int,sv (f x).fst.text]] 3∧row.length=(List.map V.cells row).length∧(((List.map V.cells row).length+[[iv (f x).fst.kind,iv (f x).fst.int,sv (f x).fst.text]].length) * 32).le 140737488355328),si hw] [2,3,4,5,10,13,23,24,25,35,36,37] 4 kr (zar (show ([(2,AV.sl (List.map Fr.cells frs)),(3,AV.sl (List.map Tb.cells tb)),(4,AV.p 0 0),(5,AV.p 1 0),(10,AV.own 2 out.length),(13,AV.own 3 (List.map V.cells row++[[iv (f x).fst.kind,iv (f x).fst.int,sv (f x).fst.text]]).length),(23,AV.sl (List.map zat rows)),(24,iv (↑(List.map zat rows).length:Int)),(25,iv (io:Int)),(35,AV.sl (zac y)),(36,iv (↑(zac y).length:Int)),(37,iv (↑(i+1):Int))]:TS)=_ by first|rfl|(simp;done)|(simp [X.cells,Qy.cells,V.cells,Col.cells,Rw.cells,Tb.cells,Fr.cells,Sch.cells,Tp.cells,Pl.cells,xCol,xLit,xBin,xNeg,Ac.cells,Se.cells,Pr.cells,Ch.cells,Rw.cells];done)) (show ([Blk.box [iv (zal nm rows).kind,sv (zal nm rows).table,AV.sl (List.map (fun r=>[AV.sl (zac r)]) (zal nm rows).rows),AV.sl (zaf []),AV.sl [],AV.sl (zac []),sv (zal nm rows).text],Blk.box [sv s.name,AV.sl (List.map Col.cells s.cols)],Blk.row Ty.LValue (List.map vrow out) false,Blk.row Ty.Value (List.map V.cells row++[[iv (f x).fst.kind,iv (f x).fst.int,sv (f x).fst.text]]) false]:Heap)=_ by first|rfl|(simp;done)|(simp [X.cells,Qy.cells,V.cells,Col.cells,Rw.cells,Tb.cells,Fr.cells,Sch.cells,Tp.cells,Pl.cells,xCol,xLit,xBin,xNeg,Ac.cells,Se.cells,Pr.cells,Ch.cells,Rw.cells];done)) (gZ R hg)))⟩
theorem zrY {f:X→V × Int} {rows:List (List X)} {i:Nat} {x:List X} {out:List (List V)} {row:List V} (hI:out=evR f (rows.take i)) (hx:rows[i]?=some x) (hq:row=(x.take x.length).map fun x=>(f x).1):out++[row]=evR f (rows.take (i+1)):=by
 rw [List.take_length] at hq
 rw [hI,hq];unfold evR
 rw [List.take_add_one,hx,List.map_append];rfl
noncomputable def L_niR (nm:Str) (rows:List (List X)) (s:Sch) (frs:List Fr) (tb:List Tb) (f:X→V × Int) (i:Nat) (out:List (List V)):Cfg:=zan B.dml_inserted 0 [(2,fsl frs),(3,tsl tb),(4,.p 0 0),(5,.p 1 0),(10,.own 2 out.length),(23,.sl (rows.map zat)),(24,iv ((rows.map zat).length:Nat)),(25,iv (i:Nat))] [.box (zal nm rows).cells,.box s.cells,.row Ty.LValue (out.map vrow) false]
theorem zfP (nm:Str) (rows:List (List X)) (s:Sch) (frs:List Fr) (tb:List Tb) (f:X→V × Int) (hs:zad s.cols) (hr:zad rows) (hf:∀ r∈rows,zad r∧∀ x∈r,PEv f x frs tb) (hf0:∀ r∈rows,∀ x∈r,((f x).2 != 0)=false) (hfl:∀ r∈rows,(((zac r).length:Int) != ((s.cols.map Col.cells).length:Int))=false) (i:Nat) (out:List (List V)) (hi:i≤(rows).length) (hI:out=evR f (rows.take i)):∃ (out':List (List V)),(out'=evR f (rows.take (rows).length))∧(decide ((((rows).length:Nat):Int) < (((rows.map zat).length:Nat):Int))=false)∧∀ R,Good E0 B.dml_inserted [] (L_niR nm rows s frs tb f (rows).length out') R→Good E0 B.dml_inserted [] (L_niR nm rows s frs tb f i out) R:=by
 obtain ⟨kk,hk⟩:∃ kk,i+kk=(rows).length:=⟨(rows).length - i,by omega⟩
 induction kk generalizing i out with
 | zero =>
  have e0:i=(rows).length:=by omega
  subst e0
  exact ⟨out,hI,by simp,fun R hg=>hg⟩
 | succ kk ih =>
  obtain ⟨x,hx⟩:=zaz (l:=rows) (i:=i) (by omega)
  have h0:decide (((i:Nat):Int) < (((rows.map zat).length:Nat):Int))=true:=by simp;omega
  have hw:IntKind.i64.wrap (((i:Nat):Int)+1)=((i+1:Nat):Int):=zak i (by first|omega|(simp only [zad,Few] at *;omega))
  have hx1:=(hf x (List.mem_of_getElem? hx)).1;have hx2:=(hf x (List.mem_of_getElem? hx)).2;have hx3:=hf0 x (List.mem_of_getElem? hx);have hx4:=hfl x (List.mem_of_getElem? hx);have hol:out.length≤1000000000:=by rw [hI];simp only [evR,List.length_map,List.length_take,zad] at *;omega
  obtain ⟨row1,q1,q1_1,g1⟩:=zfR ((zal nm rows).table) ((zal nm rows).rows) s frs tb f i x out zeN hx2 zeN 0 ([]) zeN zeN
  obtain ⟨outZ,qZ,xZ,gZ⟩:=ih (i+1) (out++[row1]) (by omega) (by exact zrY hI hx (by assumption)) (by omega);exact ⟨outZ,qZ,xZ,fun R hg=>zab (wklN [sb h0,se (zah zat hx rfl),sb hx4] [2,3,4,5,10,13,23,24,25,35,36,37] 3 [(.ot 13 Ty.Value,4)] kr (g1 _ (zab (wkl [sb q1_1,sqx (row1.length=(List.map V.cells row1).length∧True),sqx (AllLen [[AV.sl (List.map V.cells row1)]] 1∧out.length=(List.map vrow out).length∧(((List.map vrow out).length+[[AV.sl (List.map V.cells row1)]].length) * 24).le 140737488355328),si hw] [2,3,4,5,10,23,24,25] 3 kr (zar (show ([(2,AV.sl (List.map Fr.cells frs)),(3,AV.sl (List.map Tb.cells tb)),(4,AV.p 0 0),(5,AV.p 1 0),(10,AV.own 2 (List.map vrow out++[[AV.sl (List.map V.cells row1)]]).length),(23,AV.sl (List.map zat (zal nm rows).rows)),(24,iv (↑(List.map zat (zal nm rows).rows).length:Int)),(25,iv (↑(i+1):Int))]:TS)=_ by first|rfl|(simp;done)|(simp [X.cells,Qy.cells,V.cells,Col.cells,Rw.cells,Tb.cells,Fr.cells,Sch.cells,Tp.cells,Pl.cells,xCol,xLit,xBin,xNeg,Ac.cells,Se.cells,Pr.cells,Ch.cells,Rw.cells];done)) (show ([Blk.box [iv (zal (zal nm rows).table (zal nm rows).rows).kind,sv (zal (zal nm rows).table (zal nm rows).rows).table,AV.sl (List.map (fun r=>[AV.sl (zac r)]) (zal (zal nm rows).table (zal nm rows).rows).rows),AV.sl (zaf []),AV.sl [],AV.sl (zac []),sv (zal (zal nm rows).table (zal nm rows).rows).text],Blk.box [sv s.name,AV.sl (List.map Col.cells s.cols)],Blk.row Ty.LValue (List.map vrow out++[[AV.sl (List.map V.cells row1)]]) false]:Heap)=_ by first|rfl|(simp;done)|(simp [X.cells,Qy.cells,V.cells,Col.cells,Rw.cells,Tb.cells,Fr.cells,Sch.cells,Tp.cells,Pl.cells,xCol,xLit,xBin,xNeg,Ac.cells,Se.cells,Pr.cells,Ch.cells,Rw.cells];done)) (gZ R hg))))))⟩
noncomputable def L_niQ (nm:Str) (rows:List (List X)) (s:Sch) (frs:List Fr) (tb:List Tb) (out:List (List V)) (i:Nat):Cfg:=zan B.dml_inserted 2 [(2,fsl frs),(3,tsl tb),(5,.p 1 0),(10,.own 2 out.length),(62,.sl []),(63,iv (([]:List (List AV)).length:Nat)),(64,iv (i:Nat))] [.box (zal nm rows).cells,.box s.cells,.row Ty.LValue (out.map vrow) false]
theorem zfN (nm:Str) (rows:List (List X)) (s:Sch) (frs:List Fr) (tb:List Tb) (out:List (List V)) (i:Nat):True∧∀ R,Good E0 B.dml_inserted [] (L_niQ nm rows s frs tb out i) R→Good E0 B.dml_inserted [] (L_niQ nm rows s frs tb out i) R:=⟨trivial,fun _ h=>h⟩
theorem zir (nm:Str) (rows:List (List X)) (s:Sch) (frs:List Fr) (tb:List Tb) (f:X→V × Int) (hs:zad s.cols) (hr:zad rows) (hf:∀ r∈rows,zad r∧∀ x∈r,PEv f x frs tb) (hf0:∀ r∈rows,∀ x∈r,((f x).2 != 0)=false) (hfl:∀ r∈rows,(((zac r).length:Int) != ((s.cols.map Col.cells).length:Int))=false):∃ (out:List (List V)),out=evR f (rows.take rows.length)∧zaa E0 S.dml_inserted [(zal nm rows).av,s.av,fsl frs,tsl tb] [] (.tup [.own 2 out.length,iv 0]) [.box (zal nm rows).cells,.box s.cells,.row Ty.LValue (out.map vrow) false]:=by
 obtain ⟨out1,q1,q1_1,g1⟩:=zfP ((zal nm rows).table) ((zal nm rows).rows) s frs tb f zeN zeN hf zeN zeN 0 ([]) zeN zeN
 obtain ⟨q2,g2⟩:=zfN ((zal (zal nm rows).table (zal nm rows).rows).table) ((zal (zal nm rows).table (zal nm rows).rows).rows) s frs tb out1 (0)
 exact ⟨out1,(by first|assumption|trivial|(simp;done)|omega|(simp;omega)|(simp at *;omega)),wkcNK At.dml_inserted [] [2,3,4,5,10,23,24,25] 2 [(.ot 10 Ty.LValue,3)] kr (g1 _ (zab (wkl [sb q1_1] [2,3,5,10,62,63,64] 3 kr (g2 _ (zab (wkrK [sb (rfl:false=false)] kr))))))⟩
end Go.AM
namespace Go.Proofs
open Go.Shelf
shelf_lay_g Lays8.n4 Nm8 4 at Tryz 60 as Tryz.growT
end Go.Proofs
namespace Go.AM
open Go.Shelf Go.RowKit Go.Lib
set_option maxRecDepth 100000
set_option maxHeartbeats 1000000
theorem zpG {w:World} (o:Obj):Below w.heap.size w (w.drew.alloc o):=(Below.refl _ w).drew.alloc (Nat.le_refl _) o
theorem ziu (n:Nat) (hn:n≤1000000):zaa E0 S.slices_Grow_Table [.nl,iv (n:Int)] [] (.own 0 0) [.row Ty.Table [] false]:=by
 intro β S w vs r hp
 obtain ⟨hl,hv⟩:=hp
 match vs,hl,hv with
 | [v1,v2],_,hv =>
  have h1:=hv 0 .nl v1 rfl rfl
  have h2:=hv 1 (iv (n:Int)) v2 rfl rfl
  obtain ⟨a,rfl⟩:∃ a,v1=.slice a 0 0:=by
   cases h1 with
   | d _ _ h=>cases h
   | nl a=>exact ⟨a,rfl⟩
  obtain rfl:v2=.int .i64 (n:Int):=by
   cases h2 with
   | d _ _ h=>cases h with|v _ _=>rfl
  refine .inl ⟨⟨_,At.slices_Grow_Table,by kernel_rfl,by kernel_rfl⟩,?_⟩
  have hb0:β.length=0:=r.len
  have hβ:β=[]:=List.length_eq_zero_iff.1 hb0
  subst hβ
  rcases Nat.eq_zero_or_pos n with h0|hpos
  ·subst h0
   have hc:=Go.Proofs.Any8.slices_Grow_room Go.Proofs.Tryz.growT a 0 0 0 w (Nat.le_refl _) (by omega) (by omega) (by omega)
   refine Calls.mono (P:=E0.P) hc ?_
   rintro e w' ⟨rfl,rfl⟩
   obtain ⟨x,r'⟩:=r.newRow Ty.Table [] false (.nil a) (Below.refl _ _) (fun g hg=>by cases hg) rfl
   exact ⟨_,_,_,_,_,rfl,⟨rfl,rfl⟩,r',x,.own 0 0 _ Ty.Table [] false rfl (Nat.le_refl _) (fun _=>rfl) rfl⟩
  ·obtain ⟨i,d,z,tok⟩:=E0ok.at_ (t:=Ty.Table) (by
    intro h
    have:(E0.T Ty.Table).size=4:=by kernel_rfl
    rw [h] at this;cases this)
   have hs:(E0.T Ty.Table).size=4:=by kernel_rfl
   have hby:(E0.T Ty.Table).bytes≤1000:=Nat.le_of_ble_eq_true kr
   have hbytes:n * i.bytes≤140737488355328:=by
    rw [tok.bytes]
    exact Nat.le_trans (Nat.mul_le_mul hn hby) (by omega)
   have hc:=Go.Proofs.Any8.slices_Grow_grow Go.Proofs.Tryz.growT i z tok.info tok.zero (by rw [tok.size,hs];omega) a 0 0 n [] w (Nat.le_refl _) (by omega) (by rw [Nat.zero_add];exact hbytes) (by omega) (by simp) (fun _=>rfl) (fun _ _ j v h=>by simp at h)
   have hc2:Calls E0.P Go.AM.S.slices_Grow_Table #[.slice a 0 0,.int .i64 (n:Int)] w fun e w'=>e=.returned (.slice (some ⟨w.heap.size,0,none⟩) 0 (grownCap w (0+n) 0 Ty.Table))∧w'=w.drew.alloc (.cells (([]:List Value).toArray++Builtin.zeroCells z.cells (0+n - 0)++Builtin.zeroCells z.cells (grownCap w (0+n) 0 Ty.Table - (0+n))) Ty.Table):=hc
   refine Calls.mono (P:=E0.P) hc2 ?_
   rintro e w' ⟨rfl,rfl⟩
   have hge:=grownCap_ge w (0+n) 0 Ty.Table
   have hle:=grownCap_le_maxLen w (0+n) 0 Ty.Table (by unfold maxLen;omega)
   have hzl:z.cells.size=(E0.T Ty.Table).size:=by
    have:=(zdb (T:=E0.T) (h:=([]:Heap)) (β:=[]) (w:=w) (S:=S) _ _ tok.zok).1
    rw [Array.length_toList] at this
    rw [← this,tok.zlen]
   have hsz:(([]:List Value).toArray++Builtin.zeroCells z.cells (0+n - 0)++Builtin.zeroCells z.cells (grownCap w (0+n) 0 Ty.Table - (0+n))).size=grownCap w (0+n) 0 Ty.Table * (E0.T Ty.Table).size:=by
    simp only [Array.size_append,List.size_toArray,size_zeroCells,hzl,List.length_nil,Nat.zero_add,← Nat.add_mul]
    congr 1
    simp only [Nat.zero_add] at hge
    omega
   obtain ⟨x,r'⟩:=r.newRow Ty.Table [] false (.row w.heap.size (grownCap w (0+n) 0 Ty.Table)) (zpG _) (fun g hg=>by cases hg;exact ⟨Nat.le_refl _,by simp⟩)
    ⟨_,heap_alloc_new w.drew (.cells (([]:List Value).toArray++Builtin.zeroCells z.cells (0+n - 0)++Builtin.zeroCells z.cells (grownCap w (0+n) 0 Ty.Table - (0+n))) Ty.Table),Nat.zero_le _,by omega,hle,hsz,by simp,by simp⟩
   exact ⟨_,_,_,_,_,rfl,⟨rfl,rfl⟩,r',x,.own 0 0 _ Ty.Table [] false rfl (Nat.le_refl _) (fun _=>rfl) rfl⟩
end Go.AM
namespace Go.AM
set_option maxRecDepth 100000
set_option maxHeartbeats 1000000
set_option linter.unusedSimpArgs false
set_option linter.unusedVariables false
theorem zkj (i:Nat):zaa E0 S.world_Num [iv (i:Nat)] [] (X.av (xLit ⟨1,i,⟨#[]⟩⟩)) [] :=
 c_Num0 i (by rw [decide_eq_false_iff_not];omega)
end Go.AM
namespace Go.AM
set_option maxRecDepth 100000
set_option maxHeartbeats 400000
set_option linter.unusedSimpArgs false
set_option linter.unusedVariables false
theorem zli {p:Prop} (h:p:=by first|assumption|omega|(simp;done)|(simp;omega)):p:=h
abbrev cc2 (tb:List Tb):List (List AV):=[[tsl tb],[.sl []]]
theorem zrk (a b:List AV) (h:b.length=1):ElAt [a,b] ((0+1:Nat):Int) b 1:=⟨by decide,rfl,h⟩
noncomputable def L_cz (tb:List Tb) (i:Nat) (sz:Int):Cfg:=zan B.slices_Concat_Table 0 [(0,.sl (cc2 tb)),(3,iv sz),(9,.sl (cc2 tb)),(10,iv ((cc2 tb).length:Nat)),(11,iv (i:Nat))] []
theorem zbO (tb:List Tb) (i:Nat) (sz:Int):True∧∀ R,Good E0 B.slices_Concat_Table [] (L_cz tb i sz) R→Good E0 B.slices_Concat_Table [] (L_cz tb i sz) R:=⟨trivial,fun _ h=>h⟩
noncomputable def L_cb (tb:List Tb) (i:Nat) (xs:List Tb):Cfg:=zan B.slices_Concat_Table 1 [(6,.own 0 xs.length),(25,.sl (cc2 tb)),(26,iv ((cc2 tb).length:Nat)),(27,iv (i:Nat))] [.row Ty.Table (xs.map Tb.cells) false]
theorem zbM (tb:List Tb) (i:Nat) (xs:List Tb):True∧∀ R,Good E0 B.slices_Concat_Table [] (L_cb tb i xs) R→Good E0 B.slices_Concat_Table [] (L_cb tb i xs) R:=⟨trivial,fun _ h=>h⟩
theorem zr0 (tb:List Tb) (hl:tb.length≤1000) (w1:IntKind.i64.wrap (0+((tb.map Tb.cells).length:Int))=(tb.length:Int)) (w2:IntKind.i64.wrap ((tb.length:Int)+(([]:List (List AV)).length:Int))=(tb.length:Int)) (w3:decide ((tb.length:Int) < 0)=false):∃ (r:List Tb),r=tb∧zaa E0 S.slices_Concat_Table [.sl (cc2 tb)] [] (tsl r) []:=by
 obtain ⟨q1,g1⟩:=zbO tb 0 (0)
 obtain ⟨q2,g2⟩:=zbO tb (0+1) ((tb.length:Int))
 obtain ⟨q3,g3⟩:=zbO tb (0+1+1) ((tb.length:Int))
 obtain ⟨q4,g4⟩:=zbM tb 0 ([])
 obtain ⟨q5,g5⟩:=zbM tb (0+1) ([]++tb)
 obtain ⟨q6,g6⟩:=zbM tb (0+1+1) ([]++tb++[])
 exact ⟨[]++tb++[],(by (simp;done)),wkc At.slices_Concat_Table [] [0,3,9,10,11] 0 kr (g1 _ (zab (wkl [sb (rfl:true=true),se (xs:=[[AV.sl (List.map Tb.cells tb)],[AV.sl []]]) (i:=0) (c:=[AV.sl (List.map Tb.cells tb)]) (n:=1) ⟨by decide,rfl,rfl⟩,si w1,sb (rfl:false=false),si (zeS (t:=(↑0:Int)+1) (n:=0+1) (by omega) (by omega))] [0,3,9,10,11] 0 kr (g2 _ (zab (wkl [sb (rfl:true=true),se (zrk ([AV.sl (List.map Tb.cells tb)]) ([AV.sl []]) (by first|assumption|rfl|omega)),si w2,sb (rfl:false=false),si (zeS (t:=(↑(0+1):Int)+1) (n:=0+1+1) (by omega) (by omega))] [0,3,9,10,11] 0 kr (g3 _ (zab (wkl [sb (rfl:false=false),sln [] (ziu tb.length (by first|assumption|rfl|omega))] [6,25,26,27] 1 kr (g4 _ (zab (wkl [sb (rfl:true=true),se (xs:=[[AV.sl (List.map Tb.cells tb)],[AV.sl []]]) (i:=0) (c:=[AV.sl (List.map Tb.cells tb)]) (n:=1) ⟨by decide,rfl,rfl⟩,sqx (AllLen (List.map Tb.cells tb) 4∧0=0∧((([]:List (List AV)).length+(List.map Tb.cells tb).length) * 72).le 140737488355328),si (zeS (t:=(↑0:Int)+1) (n:=0+1) (by omega) (by omega))] [6,25,26,27] 1 kr (zar (show ([(6,AV.own 0 ([]++List.map Tb.cells tb).length),(25,AV.sl [[AV.sl (List.map Tb.cells tb)],[AV.sl []]]),(26,iv (↑[[AV.sl (List.map Tb.cells tb)],[AV.sl []]].length:Int)),(27,iv (↑(0+1):Int))]:TS)=_ by first|rfl|(simp;done)|(simp [X.cells,Qy.cells,V.cells,Col.cells,Rw.cells,Tb.cells,Fr.cells,Sch.cells,Tp.cells,Pl.cells,xCol,xLit,xBin,xNeg,Ac.cells,Se.cells,Pr.cells,Ch.cells,Rw.cells];done)) rfl (g5 _ (zab (wkl [sb (rfl:true=true),se (zrk ([AV.sl (List.map Tb.cells tb)]) ([AV.sl []]) (by first|assumption|rfl|omega)),sqx (AllLen [] 4∧([]++tb).length=(List.map Tb.cells ([]++tb)).length∧(((List.map Tb.cells ([]++tb)).length+([]:List (List AV)).length) * 72).le 140737488355328),si (zeS (t:=(↑(0+1):Int)+1) (n:=0+1+1) (by omega) (by omega))] [6,25,26,27] 1 kr (zar (show ([(6,AV.own 0 (List.map Tb.cells ([]++tb)++[]).length),(25,AV.sl [[AV.sl (List.map Tb.cells tb)],[AV.sl []]]),(26,iv (↑[[AV.sl (List.map Tb.cells tb)],[AV.sl []]].length:Int)),(27,iv (↑(0+1+1):Int))]:TS)=_ by first|rfl|(simp;done)|(simp [X.cells,Qy.cells,V.cells,Col.cells,Rw.cells,Tb.cells,Fr.cells,Sch.cells,Tp.cells,Pl.cells,xCol,xLit,xBin,xNeg,Ac.cells,Se.cells,Pr.cells,Ch.cells,Rw.cells];done)) (show ([Blk.row Ty.Table (List.map Tb.cells ([]++tb)++[]) false]:Heap)=_ by first|rfl|(simp;done)|(simp [X.cells,Qy.cells,V.cells,Col.cells,Rw.cells,Tb.cells,Fr.cells,Sch.cells,Tp.cells,Pl.cells,xCol,xLit,xBin,xNeg,Ac.cells,Se.cells,Pr.cells,Ch.cells,Rw.cells];done)) (g6 _ (zab (wkr [sqx (([]++tb++[]).length=(List.map Tb.cells ([]++tb++[])).length),sb (rfl:false=false)] kr))))))))))))))))))))⟩
theorem zg3 (tb:List Tb) (hl:tb.length≤1000):zaa E0 S.slices_Concat_Table [.sl (cc2 tb)] [] (tsl tb) []:=by
 obtain ⟨r,rfl,h⟩:=zr0 tb hl (by rw [List.length_map,IntKind.wrap_i64];omega) (by rw [IntKind.wrap_i64];simp;omega) (by simp)
 exact h
theorem zsE (t:Tb) (n:Str) :∃ (r:Bool),r=zaL t n∧zaa E0 S.store_Find_c1 [.agg t.cells,.p 0 0] [.box [sv n]] (bv r) [.box [sv n]]:=by
 exact ⟨ByteArray.toList t.sch.name==ByteArray.toList n,(by rfl),wk At.store_Find_c1 [] kr⟩
theorem zgf (t:Tb) (n:Str):zaa E0 S.store_Find_c1 [.agg t.cells,.p 0 0] [.box [sv n]] (bv (zaL t n)) [.box [sv n]]:=by
 obtain ⟨r,rfl,h⟩:=zsE t n
 exact h
noncomputable def zqE (l:List Tb) (n:Str) (i:Nat) :Cfg:=zan B.slices_IndexFunc_Table 0 [(0,.sl (l.map Tb.cells)),(1,.fn S.store_Find_c1 [.p 0 0]),(7,iv ((l.map Tb.cells).length:Nat)),(8,iv (i:Nat))] [.box [sv n]]
theorem zds (l:List Tb) (n:Str) (hl:zad l) (i:Nat)  (hi:i≤(l).length) (hI:idxF (fun t=>zaL t n) l 0=idxF (fun t=>zaL t n) (l.drop i) i):((idxF (fun t=>zaL t n) l 0=idxF (fun t=>zaL t n) (l.drop (l).length) (l).length)∧(decide ((((l).length:Nat):Int) < (((l.map Tb.cells).length:Nat):Int))=false)∧∀ R,Good E0 B.slices_IndexFunc_Table [.box [sv n]] (zqE l n (l).length ) R→Good E0 B.slices_IndexFunc_Table [.box [sv n]] (zqE l n i ) R)∨(∃ (r:Int),r=idxF (fun t=>zaL t n) l 0∧Good E0 B.slices_IndexFunc_Table [.box [sv n]] (zqE l n i ) (Shut 1 fun rZ hZ=>rZ=(iv r)∧hZ=[.box [sv n]])):=by
 obtain ⟨kk,hk⟩:∃ kk,i+kk=(l).length:=⟨(l).length - i,by omega⟩
 induction kk generalizing i  with
 | zero =>
  have e0:i=(l).length:=by omega
  subst e0
  exact .inl ⟨hI,by simp,fun R hg=>hg⟩
 | succ kk ih =>
  obtain ⟨x,hx⟩:=zaz (l:=l) (i:=i) (by omega)
  have h0:decide (((i:Nat):Int) < (((l.map Tb.cells).length:Nat):Int))=true:=by simp;omega
  have hw:IntKind.i64.wrap (((i:Nat):Int)+1)=((i+1:Nat):Int):=zak i (by first|omega|(simp only [zad,Few] at *;omega))
  let p_1:List St:=[sb h0,se (zah Tb.cells hx rfl),sl [0] (zgf x n)]
  cases h1:zaL x n
  ·exact (ih (i+1) (by omega) (by exact zlv hI hx (by assumption)) (by omega)).elim (fun ⟨qZ,xZ,gZ⟩=>.inl ⟨qZ,xZ,fun R hg=>zab (wkl (p_1++[sb h1,si hw]) [0,1,7,8] 1 kr (gZ R hg))⟩) (fun ⟨rY,pZ,gZ⟩=>.inr ⟨rY,pZ,zab (wkl [sb h0,se (zah Tb.cells hx rfl),sl [0] (zgf x n),sb h1,si hw] [0,1,7,8] 1 kr gZ)⟩)
  ·exact .inr ⟨(i:Int),(by exact zny hI hx (by assumption)),zab (wkr (p_1++[sb h1]) kr)⟩
theorem c_ixF (l:List Tb) (n:Str) (hl:zad l):∃ (r:Int),r=idxF (fun t=>zaL t n) l 0∧zaa E0 S.slices_IndexFunc_Table [.sl (l.map Tb.cells),.fn S.store_Find_c1 [.p 0 0]] [.box [sv n]] (iv r) [.box [sv n]]:=by
 rcases zds l n (by first|assumption|rfl|omega) 0 (by first|assumption|rfl|omega) (by first|assumption|rfl|omega) with ⟨q1,q1_1,g1⟩|⟨r1_0,p1_0,g1⟩
 ·exact ⟨-1,(by first|assumption|exact zgP (by assumption)),wkc At.slices_IndexFunc_Table [] [0,1,7,8] 1 kr (g1 _ (zab (wkr [sb q1_1] kr)))⟩
 ·exact ⟨r1_0,(by first|assumption|exact zgP (by assumption)),wkc At.slices_IndexFunc_Table [] [0,1,7,8] 1 kr (g1)⟩
theorem znk (tb:List Tb) (n:Str) (hx:∃ r:Int,r=idxF (fun t=>zaL t n) tb 0∧zaa E0 S.slices_IndexFunc_Table [tsl tb,.fn S.store_Find_c1 [.p 0 0]] [.box [sv n]] (iv r) [.box [sv n]]):∃ (r:Int),r=idxF (fun t=>zaL t n) tb 0∧zaa E0 S.store_Find [tsl tb,sv n] [] (iv r) []:=by
 obtain ⟨r1,q1,c1⟩:=hx
 exact ⟨r1,(by assumption),wk At.store_Find [sl [0] c1] kr⟩
theorem znN (tb:List Tb) (n:Str) (hl:zad tb):zaa E0 S.store_Find [tsl tb,sv n] [] (iv (idxF (fun t=>zaL t n) tb 0)) []:=by
 obtain ⟨r,rfl,h⟩:=znk tb n (c_ixF tb n hl)
 exact h
theorem zp1 (x:Rw) (hsv:zad x.vals):∃ (r:Rw),r=x∧zaa E0 S.deep_Row [.agg x.cells] [] (.agg r.cells) []:=by
 exact ⟨x,(by rfl),wk At.deep_Row [sqx (True∧x.vals.length=(List.map V.cells x.vals).length∧True),sd [(4,[sc (za6 x.vals zli)])]] kr⟩
theorem zpV (x:Rw) (h:zad x.vals):zaa E0 S.deep_Row [.agg x.cells] [] (.agg x.cells) []:=by
 obtain ⟨r,rfl,h⟩:=zp1 x h
 exact h
noncomputable def L_dlR (l:List Rw) (i:Nat) (out:List Rw):Cfg:=zan B.deep_list_api_Row 0 [(1,.fn S.deep_Row []),(5,.own 0 out.length),(8,.sl ((l).map Rw.cells)),(9,iv (((l).map Rw.cells).length:Nat)),(10,iv (i:Nat))] [.row Ty.Row ((out).map Rw.cells) false]
theorem zev (l:List Rw) (hl:zad l) (hf:∀ x∈l,zaa E0 S.deep_Row [.agg x.cells] [] (.agg x.cells) []) (i:Nat) (out:List Rw) (hi:i≤(l).length) (hI:out=l.take i):∃ (out':List Rw),(out'=l.take (l).length)∧(decide ((((l).length:Nat):Int) < ((((l).map Rw.cells).length:Nat):Int))=false)∧∀ R,Good E0 B.deep_list_api_Row [] (L_dlR l (l).length out') R→Good E0 B.deep_list_api_Row [] (L_dlR l i out) R:=by
 obtain ⟨kk,hk⟩:∃ kk,i+kk=(l).length:=⟨(l).length - i,by omega⟩
 induction kk generalizing i out with
 | zero =>
  have e0:i=(l).length:=by omega
  subst e0
  exact ⟨out,hI,by simp,fun R hg=>hg⟩
 | succ kk ih =>
  obtain ⟨x,hx⟩:=zaz (l:=l) (i:=i) (by omega)
  have h0:decide (((i:Nat):Int) < ((((l).map Rw.cells).length:Nat):Int))=true:=by simp;omega
  have hw:IntKind.i64.wrap (((i:Nat):Int)+1)=((i+1:Nat):Int):=zak i (by first|omega|(simp only [zad,Few] at *;omega))
  have hfx:=hf x (List.mem_of_getElem? hx)
  have ho:out.length≤1000000000:=by rw [hI,List.length_take];simp only [zad] at hl;omega
  obtain ⟨outZ,qZ,xZ,gZ⟩:=ih (i+1) (out++[x]) (by omega) (by rw [List.take_add_one,hx,hI];rfl) (by omega);exact ⟨outZ,qZ,xZ,fun R hg=>zab (wkl [sb h0,se (zah Rw.cells hx rfl),sc hfx,sqx (AllLen [[iv x.id,AV.sl (List.map V.cells x.vals)]] 2∧out.length=(List.map Rw.cells out).length∧(((List.map Rw.cells out).length+[[iv x.id,AV.sl (List.map V.cells x.vals)]].length) * 32).le 140737488355328),si hw] [1,5,8,9,10] 1 kr (zar (show ([(1,AV.fn S.deep_Row []),(5,AV.own 0 (List.map Rw.cells out++[[iv x.id,AV.sl (List.map V.cells x.vals)]]).length),(8,AV.sl (List.map Rw.cells l)),(9,iv (↑(List.map Rw.cells l).length:Int)),(10,iv (↑(i+1):Int))]:TS)=_ by first|rfl|(simp;done)|(simp [X.cells,Qy.cells,V.cells,Col.cells,Rw.cells,Tb.cells,Fr.cells,Sch.cells,Tp.cells,Pl.cells,xCol,xLit,xBin,xNeg,Ac.cells,Se.cells,Pr.cells,Ch.cells,Rw.cells];done)) (show ([Blk.row Ty.Row (List.map Rw.cells out++[[iv x.id,AV.sl (List.map V.cells x.vals)]]) false]:Heap)=_ by first|rfl|(simp;done)|(simp [X.cells,Qy.cells,V.cells,Col.cells,Rw.cells,Tb.cells,Fr.cells,Sch.cells,Tp.cells,Pl.cells,xCol,xLit,xBin,xNeg,Ac.cells,Se.cells,Pr.cells,Ch.cells,Rw.cells];done)) (gZ R hg)))⟩
theorem zil (l:List Rw) (hl:zad l) (hf:∀ x∈l,zaa E0 S.deep_Row [.agg x.cells] [] (.agg x.cells) []):∃ (r:List Rw),r=l∧zaa E0 S.deep_list_api_Row [.sl ((l).map Rw.cells),.fn S.deep_Row []] [] (.sl ((r).map Rw.cells)) []:=by
 obtain ⟨out1,q1,q1_1,g1⟩:=zev l (by first|assumption|rfl|omega) (by first|assumption|rfl|omega) 0 ([]) (by first|assumption|rfl|omega) (by first|assumption|rfl|omega)
 exact ⟨out1,(by first|assumption|(rw [List.take_length] at *;assumption)),wkcN At.deep_list_api_Row [] [1,5,8,9,10] 0 [(.ot 5 Ty.Row,1)] kr (g1 _ (zab (wkr [sqx (out1.length=(List.map Rw.cells out1).length),sb q1_1] kr)))⟩
theorem zix (l:List Rw) (hl:zad l) (hf:∀ x∈l,zaa E0 S.deep_Row [.agg x.cells] [] (.agg x.cells) []):zaa E0 S.deep_list_api_Row [.sl ((l).map Rw.cells),.fn S.deep_Row []] [] (.sl ((l).map Rw.cells)) []:=by
 obtain ⟨r,rfl,h⟩:=zil l hl hf
 exact h
theorem zmz (x:Sch) (hsv:zad x.cols):∃ (r:Sch),r=x∧zaa E0 S.deep_Schema [x.av] [] r.av []:=by
 exact ⟨x,(by rfl),wk At.deep_Schema [sqx (True∧x.cols.length=(List.map Col.cells x.cols).length∧True),sc (zaH x.cols zli)] kr⟩
theorem zmw (x:Sch) (h:zad x.cols):zaa E0 S.deep_Schema [x.av] [] x.av []:=by
 obtain ⟨r,rfl,h⟩:=zmz x h
 exact h
theorem zoj (t:Tb) (hc:zad t.sch.cols) (hr:zad t.rows) (hf:∀ x∈t.rows,zaa E0 S.deep_Row [.agg x.cells] [] (.agg x.cells) []):∃ (r:Tb),r=t∧zaa E0 S.deep_Table [.agg t.cells] [] (.agg r.cells) []:=by
 exact ⟨t,(by rfl),wk At.deep_Table [sd [(2,[sc (zmw t.sch zli)]),(7,[sc (zix t.rows zli zli)])]] kr⟩
theorem zom (t:Tb) (hc:zad t.sch.cols) (hr:zad t.rows) (hv:∀ r∈t.rows,zad r.vals):zaa E0 S.deep_Table [.agg t.cells] [] (.agg t.cells) []:=by
 obtain ⟨r,rfl,h⟩:=zoj t hc hr (fun x hx=>zpV x (hv x hx))
 exact h
end Go.AM
namespace Go.AM
set_option maxRecDepth 100000
set_option maxHeartbeats 400000
set_option linter.unusedSimpArgs false
set_option linter.unusedVariables false
noncomputable def L_dlT (l:List Tb) (i:Nat) (out:List Tb):Cfg:=zan B.deep_list_api_Table 0 [(1,.fn S.deep_Table []),(5,.own 0 out.length),(8,.sl (l.map Tb.cells)),(9,iv ((l.map Tb.cells).length:Nat)),(10,iv (i:Nat))] [.row Ty.Table (out.map Tb.cells) false]
theorem zd4 (l:List Tb) (hl:zad l) (hf:∀ x∈l,zaa E0 S.deep_Table [.agg x.cells] [] (.agg x.cells) []) (i:Nat) (out:List Tb) (hi:i≤(l).length) (hI:out=l.take i):∃ (out':List Tb),(out'=l.take (l).length)∧(decide ((((l).length:Nat):Int) < (((l.map Tb.cells).length:Nat):Int))=false)∧∀ R,Good E0 B.deep_list_api_Table [] (L_dlT l (l).length out') R→Good E0 B.deep_list_api_Table [] (L_dlT l i out) R:=by
 obtain ⟨kk,hk⟩:∃ kk,i+kk=(l).length:=⟨(l).length - i,by omega⟩
 induction kk generalizing i out with
 | zero =>
  have e0:i=(l).length:=by omega
  subst e0
  exact ⟨out,hI,by simp,fun R hg=>hg⟩
 | succ kk ih =>
  obtain ⟨x,hx⟩:=zaz (l:=l) (i:=i) (by omega)
  have h0:decide (((i:Nat):Int) < (((l.map Tb.cells).length:Nat):Int))=true:=by simp;omega
  have hw:IntKind.i64.wrap (((i:Nat):Int)+1)=((i+1:Nat):Int):=zak i (by first|omega|(simp only [zad,Few] at *;omega))
  have hfx:=hf x (List.mem_of_getElem? hx)
  have ho:out.length≤1000000000:=by rw [hI,List.length_take];simp only [zad] at hl;omega
  obtain ⟨outZ,qZ,xZ,gZ⟩:=ih (i+1) (out++[x]) (by omega) (by rw [List.take_add_one,hx,hI];rfl) (by omega);exact ⟨outZ,qZ,xZ,fun R hg=>zab (wkl [sb h0,se (zah Tb.cells hx rfl),sc hfx,sqx (AllLen [[sv x.sch.name,AV.sl (List.map Col.cells x.sch.cols),iv x.next,AV.sl (List.map Rw.cells x.rows)]] 4∧out.length=(List.map Tb.cells out).length∧(((List.map Tb.cells out).length+[[sv x.sch.name,AV.sl (List.map Col.cells x.sch.cols),iv x.next,AV.sl (List.map Rw.cells x.rows)]].length) * 72).le 140737488355328),si hw] [1,5,8,9,10] 1 kr (zar (show ([(1,AV.fn S.deep_Table []),(5,AV.own 0 (List.map Tb.cells out++[[sv x.sch.name,AV.sl (List.map Col.cells x.sch.cols),iv x.next,AV.sl (List.map Rw.cells x.rows)]]).length),(8,AV.sl (List.map Tb.cells l)),(9,iv (↑(List.map Tb.cells l).length:Int)),(10,iv (↑(i+1):Int))]:TS)=_ by first|rfl|(simp;done)|(simp [X.cells,Qy.cells,V.cells,Col.cells,Rw.cells,Tb.cells,Fr.cells,Sch.cells,Tp.cells,Pl.cells,xCol,xLit,xBin,xNeg,Ac.cells,Se.cells,Pr.cells,Ch.cells,Rw.cells];done)) (show ([Blk.row Ty.Table (List.map Tb.cells out++[[sv x.sch.name,AV.sl (List.map Col.cells x.sch.cols),iv x.next,AV.sl (List.map Rw.cells x.rows)]]) false]:Heap)=_ by first|rfl|(simp;done)|(simp [X.cells,Qy.cells,V.cells,Col.cells,Rw.cells,Tb.cells,Fr.cells,Sch.cells,Tp.cells,Pl.cells,xCol,xLit,xBin,xNeg,Ac.cells,Se.cells,Pr.cells,Ch.cells,Rw.cells];done)) (gZ R hg)))⟩
theorem zms (l:List Tb) (hl:zad l) (hf:∀ x∈l,zaa E0 S.deep_Table [.agg x.cells] [] (.agg x.cells) []):∃ (r:List Tb),r=l.take l.length∧zaa E0 S.deep_list_api_Table [.sl (l.map Tb.cells),.fn S.deep_Table []] [] (.own 0 r.length) [.row Ty.Table (r.map Tb.cells) false]:=by
 obtain ⟨out1,q1,q1_1,g1⟩:=zd4 l (by first|assumption|rfl|omega) (by first|assumption|rfl|omega) 0 ([]) (by first|assumption|rfl|omega) (by first|assumption|rfl|omega)
 exact ⟨out1,(by first|assumption|trivial|(simp;done)|omega|(simp;omega)|(simp at *;omega)),wkcNK At.deep_list_api_Table [] [1,5,8,9,10] 0 [(.ot 5 Ty.Table,1)] kr (g1 _ (zab (wkrK [sb q1_1] kr)))⟩
theorem zfb (l:List Tb) (hl:zad l) (hf:∀ x∈l,zaa E0 S.deep_Table [.agg x.cells] [] (.agg x.cells) []):zaa E0 S.deep_list_api_Table [.sl (l.map Tb.cells),.fn S.deep_Table []] [] (.own 0 l.length) [.row Ty.Table (l.map Tb.cells) false]:=by
 obtain ⟨r,hr,h⟩:=zms l hl hf
 rw [List.take_length] at hr;subst hr;exact h
theorem zmD (l:List Tb) (hl:zad l) (hf:∀ x∈l,zaa E0 S.deep_Table [.agg x.cells] [] (.agg x.cells) []):∃ (r:List Tb),r=l∧zaa E0 S.deep_Tables [tsl l] [] (.own 0 r.length) [.row Ty.Table (r.map Tb.cells) false]:=by
 exact ⟨l,(by rfl),wkK At.deep_Tables [sc (zfb l (by first|assumption|omega|(simp;done)|(simp;omega)) (by first|assumption|omega|(simp;done)|(simp;omega)))] kr⟩
theorem ziK (l:List Tb) (hl:zad l) (hc:∀ t∈l,zad t.sch.cols∧zad t.rows∧∀ r∈t.rows,zad r.vals):zaa E0 S.deep_Tables [tsl l] [] (.own 0 l.length) [.row Ty.Table (l.map Tb.cells) false]:=by
 obtain ⟨r,rfl,h⟩:=zmD l hl fun x hx=>zom x (hc x hx).1 (hc x hx).2.1 (hc x hx).2.2
 exact h
noncomputable def L_bs (tb:List Tb) (i:Nat):Cfg:=zan B.before_Statement 0 [(1,tsl tb),(11,.sl []),(12,iv (([]:List (List AV)).length:Nat)),(13,iv (i:Nat))] []
theorem ze4 (tb:List Tb) (i:Nat):True∧∀ R,Good E0 B.before_Statement [] (L_bs tb i) R→Good E0 B.before_Statement [] (L_bs tb i) R:=⟨trivial,fun _ h=>h⟩
theorem zmA (tb:List Tb) :∃ (r:Int),r=0∧zaa E0 S.before_Statement [.sl [],tsl tb] [] (iv r) []:=by
 obtain ⟨q1,g1⟩:=ze4 tb (0)
 exact ⟨0,(by rfl),wkc At.before_Statement [] [1,11,12,13] 0 kr (g1 _ (zab (wkr [sb (rfl:false=false)] kr)))⟩
theorem zhk (tb:List Tb):zaa E0 S.before_Statement [.sl [],tsl tb] [] (iv 0) []:=by
 obtain ⟨r,rfl,h⟩:=zmA tb
 exact h
theorem zoP (nm:Str) (rows:List (List X)) :∃ (r:List Str),r=[]∧zaa E0 S.dml_Assigned [(zal nm rows).av] [] (ssl r) []:=by
 exact ⟨[],(by rfl),wk At.dml_Assigned [sb (rfl:true=true)] kr⟩
theorem zii (nm:Str) (rows:List (List X)):zaa E0 S.dml_Assigned [(zal nm rows).av] [] (.sl []) []:=by
 obtain ⟨r,rfl,h⟩:=zoP nm rows
 exact h
theorem zg4 (nm:Str) (rows:List (List X)) (s:Sch) (frs:List Fr) (tb:List Tb) (f:X→V × Int) (hv:zaa E0 S.dml_target [(zal nm rows).av,tsl tb] [] (.tup [s.av,iv 0]) []) (hs:zad s.cols) (hr:zad rows) (hf:∀ r∈rows,zad r∧∀ x∈r,PEv f x frs tb) (hf0:∀ r∈rows,∀ x∈r,((f x).2 != 0)=false) (hfl:∀ r∈rows,(((zac r).length:Int) != ((s.cols.map Col.cells).length:Int))=false):∃ (out:List (List V)),out=evR f (rows.take rows.length)∧zaa E0 S.dml_Candidates [(zal nm rows).av,fsl frs,tsl tb] [] (.tup [.agg [.own 5 out.length,.nl,.nl],iv 0]) [.box (zal nm rows).cells,.box [.own 5 out.length,.nl,.nl],.box s.cells,.box (zal nm rows).cells,.box s.cells,.row Ty.LValue (out.map vrow) false]:=by
 obtain ⟨out1,q1,c1⟩:=(zir ((zal nm rows).table) ((zal nm rows).rows) s frs tb f (by first|assumption|rfl|omega) (by first|assumption|rfl|omega) hf (by first|assumption|rfl|omega) (by first|assumption|rfl|omega))
 exact ⟨out1,(by assumption),wkK At.dml_Candidates [sc hv,sb (rfl:false=false),sb (rfl:true=true),sc c1,sb (rfl:false=false)] kr⟩
end Go.AM
namespace Go.AM
set_option maxRecDepth 100000
set_option maxHeartbeats 400000
set_option linter.unusedSimpArgs false
set_option linter.unusedVariables false
theorem zle {p:Prop} (h:p:=by first|assumption|omega|(simp;done)|(simp;omega)):p:=h
abbrev runB (m:List Tb) (trig:List (List AV)) (s:Sch) (p c:AV):List AV:=[tsl m,.sl trig,.sl [],sv s.name,.sl (s.cols.map Col.cells),p,c]
theorem zrh (m:List Tb) (trig:List (List AV)) (s:Sch) (l g:List V) (hR:zaa E0 S.before_Row [.sl trig,.sl [],s.av,.sl [],vsl l,tsl m,.sl []] [] (.tup [vsl g,.sl [],.sl [],iv 0]) []):∃ (r:List V) (e:Int),(r=g∧e=0)∧zaa E0 S.statement_run_row [.p 0 0,.sl [],vsl l] [.box (runB m trig s (.own 1 0) .nl),.row Ty.int [] false] (.tup [vsl r,iv e]) [.box (runB m trig s (.sl []) (.own 2 0)),.row Ty.int [] true,.row Ty.int [] false]:=by
 exact ⟨g,0,(by exact ⟨rfl,rfl⟩),wkK At.statement_run_row [sd [(22,[skx (True∧True∧(True∧True∧True)∧True∧True∧True∧0=0∧True) [] hR])],sb (rfl:false=false),sqx (AllLen [] 1∧Nat.le 0 140737488355328)] kr⟩
theorem zgB (m:List Tb) (trig:List (List AV)) (s:Sch) (l g:List V) (hR:zaa E0 S.before_Row [.sl trig,.sl [],s.av,.sl [],vsl l,tsl m,.sl []] [] (.tup [vsl g,.sl [],.sl [],iv 0]) []):zaa E0 S.statement_run_row [.p 0 0,.sl [],vsl l] [.box (runB m trig s (.own 1 0) .nl),.row Ty.int [] false] (.tup [vsl g,iv 0]) [.box (runB m trig s (.sl []) (.own 2 0)),.row Ty.int [] true,.row Ty.int [] false]:=by
 obtain ⟨r,e,⟨rfl,rfl⟩,h⟩:=zrh m trig s l g hR
 exact h
theorem zrC (m:List Tb) (trig:List (List AV)) (s:Sch) (l g:List V) (hR:zaa E0 S.before_Row [.sl trig,.sl [],s.av,.sl [],vsl l,tsl m,.sl []] [] (.tup [vsl g,.sl [],.sl [],iv 0]) []):∃ (r:List V) (e:Int),(r=g∧e=0)∧zaa E0 S.statement_run_row [.p 0 0,.sl [],vsl l] [.box (runB m trig s (.sl []) (.own 1 0)),.row Ty.int [] false] (.tup [vsl r,iv e]) [.box (runB m trig s (.sl []) (.own 1 0)),.row Ty.int [] false]:=by
 exact ⟨g,0,(by exact ⟨rfl,rfl⟩),wk At.statement_run_row [sd [(22,[sc hR])],sb (rfl:false=false),sqx (AllLen [] 1∧0=0∧Nat.le 0 140737488355328)] kr⟩
theorem zgE (m:List Tb) (trig:List (List AV)) (s:Sch) (l g:List V) (hR:zaa E0 S.before_Row [.sl trig,.sl [],s.av,.sl [],vsl l,tsl m,.sl []] [] (.tup [vsl g,.sl [],.sl [],iv 0]) []):zaa E0 S.statement_run_row [.p 0 0,.sl [],vsl l] [.box (runB m trig s (.sl []) (.own 1 0)),.row Ty.int [] false] (.tup [vsl g,iv 0]) [.box (runB m trig s (.sl []) (.own 1 0)),.row Ty.int [] false]:=by
 obtain ⟨r,e,⟨rfl,rfl⟩,h⟩:=zrC m trig s l g hR
 exact h
abbrev rrH (m:List Tb) (trig:List (List AV)) (s:Sch) (ins:List (List V)):Heap:=[.box (runB m trig s (.own 1 0) .nl),.row Ty.int [] false,.box [.own 3 ins.length,.nl,.nl],.row Ty.LValue (ins.map vrow) false]
noncomputable def L_rr0 (m:List Tb) (trig:List (List AV)) (s:Sch) (t:Tb) (ins:List (List V)) (i:Nat) :Cfg:=zan B.statement_run_rows 0 [(0,.p 0 0),(1,.p 2 0),(20,.sl (t.rows.map Rw.cells)),(21,iv ((t.rows.map Rw.cells).length:Nat)),(22,iv (i:Nat))] (rrH m trig s ins++[.box t.cells])
theorem zeo (m:List Tb) (trig:List (List AV)) (s:Sch) (t:Tb) (ins:List (List V)) (hr:zad t.rows) (i:Nat)  (hi:i≤(t.rows).length) (hI:True):(True)∧(decide ((((t.rows).length:Nat):Int) < (((t.rows.map Rw.cells).length:Nat):Int))=false)∧∀ R,Good E0 B.statement_run_rows (rrH m trig s ins) (L_rr0 m trig s t ins (t.rows).length ) R→Good E0 B.statement_run_rows (rrH m trig s ins) (L_rr0 m trig s t ins i ) R:=by
 obtain ⟨kk,hk⟩:∃ kk,i+kk=(t.rows).length:=⟨(t.rows).length - i,by omega⟩
 induction kk generalizing i  hI with
 | zero =>
  have e0:i=(t.rows).length:=by omega
  subst e0
  exact ⟨hI,by simp,fun R hg=>hg⟩
 | succ kk ih =>
  obtain ⟨x,hx⟩:=zaz (l:=t.rows) (i:=i) (by omega)
  have h0:decide (((i:Nat):Int) < (((t.rows.map Rw.cells).length:Nat):Int))=true:=by simp;omega
  have hw:IntKind.i64.wrap (((i:Nat):Int)+1)=((i+1:Nat):Int):=zak i (by first|omega|(simp only [zad,Few] at *;omega))
  obtain ⟨qZ,xZ,gZ⟩:=ih (i+1) (by omega) (by first|trivial|assumption|(simp;done)|omega|(simp;omega)|(simp at *;omega)) (by omega);exact ⟨qZ,xZ,fun R hg=>zab (wkl [sb h0,se (zah Rw.cells hx rfl),sd [(6,[sc (zc7 x.id)])],sb (rfl:false=false),si hw] [0,1,20,21,22] 5 kr (gZ R hg))⟩
noncomputable def L_rr1 (m:List Tb) (trig:List (List AV)) (s:Sch) (t:Tb) (ins:List (List V)) (i:Nat):Cfg:=zan B.statement_run_rows 1 [(0,.p 0 0),(1,.p 2 0),(47,.nl),(48,iv 0),(49,iv (i:Nat))] (rrH m trig s ins++[.box t.cells])
theorem zeb (m:List Tb) (trig:List (List AV)) (s:Sch) (t:Tb) (ins:List (List V)) (i:Nat):True∧∀ R,Good E0 B.statement_run_rows (rrH m trig s ins) (L_rr1 m trig s t ins i) R→Good E0 B.statement_run_rows (rrH m trig s ins) (L_rr1 m trig s t ins i) R:=⟨trivial,fun _ h=>h⟩
abbrev outG (g:List V→List V) (ins:List (List V)) (i:Nat):List (List V):=(ins.take i).map g++ins.drop i
theorem zsi (g:List V→List V) (ins:List (List V)) (i:Nat):(outG g ins i).length=ins.length:=by
 simp only [outG,List.length_append,List.length_map,List.length_take,List.length_drop];omega
theorem zs8 {g:List V→List V} {ins:List (List V)} {i:Nat} {x:List V} (hx:ins[i]?=some x):(outG g ins i)[i]?=some x:=by
 have hi:=(List.getElem?_eq_some_iff.1 hx).1
 have hl:((ins.take i).map g).length=i:=by simp;omega
 rw [outG,List.getElem?_append_right (by omega),hl,Nat.sub_self,List.getElem?_drop];simpa using hx
theorem zoe {g:List V→List V} {ins:List (List V)} {i:Nat} {x:List V} (hx:ins[i]?=some x):(outG g ins i).set i (g x)=outG g ins (i+1):=by
 have hi:=(List.getElem?_eq_some_iff.1 hx).1
 have hl:((ins.take i).map g).length=i:=by simp;omega
 rw [outG,List.set_append_right _ _ (by omega),hl,Nat.sub_self,za8 hx,List.set_cons_zero,outG,List.take_add_one,hx,List.map_append,List.append_assoc]
 rfl
noncomputable def zqc (m:List Tb) (trig:List (List AV)) (s:Sch) (t:Tb) (ins:List (List V)) (g:List V→List V) (i:Nat) (out:List (List V)):Cfg:=zan B.statement_run_rows 2 [(0,.p 0 0),(1,.p 2 0),(78,.own 3 ins.length),(79,iv (ins.length:Nat)),(80,iv (i:Nat))] [.box (runB m trig s (.sl []) (.own 5 0)),.row Ty.int [] true,.box [.own 3 ins.length,.nl,.nl],.row Ty.LValue (out.map vrow) false,.box t.cells,.row Ty.int [] false]
theorem zej (m:List Tb) (trig:List (List AV)) (s:Sch) (t:Tb) (ins:List (List V)) (g:List V→List V) (hl:zad ins) (hR:∀ l∈ins,zaa E0 S.before_Row [.sl trig,.sl [],s.av,.sl [],vsl l,tsl m,.sl []] [] (.tup [vsl (g l),.sl [],.sl [],iv 0]) []) (i:Nat) (out:List (List V)) (hi:i≤(ins.length)) (hI:out=outG g ins i):∃ (out':List (List V)),(out'=outG g ins ins.length)∧(decide ((((ins.length):Nat):Int) < (((ins.length):Nat):Int))=false)∧∀ R,Good E0 B.statement_run_rows (rrH m trig s ins) (zqc m trig s t ins g ins.length out') R→Good E0 B.statement_run_rows (rrH m trig s ins) (zqc m trig s t ins g i out) R:=by
 obtain ⟨kk,hk⟩:∃ kk,i+kk=(ins.length):=⟨(ins.length) - i,by omega⟩
 induction kk generalizing i out with
 | zero =>
  have e0:i=(ins.length):=by omega
  subst e0
  exact ⟨out,hI,by simp,fun R hg=>hg⟩
 | succ kk ih =>
  have h0:decide (((i:Nat):Int) < (((ins.length):Nat):Int))=true:=by simp;omega
  have hw:IntKind.i64.wrap (((i:Nat):Int)+1)=((i+1:Nat):Int):=zak i (by (simp only [zad] at hl;omega))
  obtain ⟨x,hx⟩:=zaz (l:=ins) (i:=i) (by omega)
  have hxR:=hR x (List.mem_of_getElem? hx)
  have hol:(out.map vrow).length=ins.length:=by rw [List.length_map,hI,zsi]
  have he:OwnEl (out.map vrow) ins.length i (vrow x):=⟨hol.symm,by rw [List.getElem?_map,hI,zs8 hx];rfl⟩
  have ho:OwnAt (out.map vrow) ins.length ((i:Nat):Int):=⟨hol.symm,by omega,by omega⟩
  obtain ⟨outZ,qZ,xZ,gZ⟩:=ih (i+1) (out.set i (g x)) (by omega) (by (rw [hI];exact zoe hx)) (by omega);exact ⟨outZ,qZ,xZ,fun R hg=>zab (wkl [sb h0,sqx (OwnAt (List.map vrow out) ins.length (i:Int)),sx (.el (vrow x)) he,sl [0,5] (zgE m trig s x (g x) hxR),sb (rfl:false=false),sqx (OwnAt (List.map vrow out) ins.length (i:Int)),sx (.el (vrow x)) (And.intro (owed (p:=True∧True)) he),si hw] [0,1,78,79,80] 6 kr (zar rfl (show ([Blk.box [AV.sl (List.map Tb.cells m),AV.sl trig,AV.sl [],sv s.name,AV.sl (List.map Col.cells s.cols),AV.sl [],AV.own 5 0],Blk.row Ty.int [] true,Blk.box [AV.own 3 ins.length,AV.nl,AV.nl],Blk.row Ty.LValue ((List.map vrow out).set i [AV.sl (List.map V.cells (g x))]) false,Blk.box [sv t.sch.name,AV.sl (List.map Col.cells t.sch.cols),iv t.next,AV.sl (List.map Rw.cells t.rows)],Blk.row Ty.int [] false]:Heap)=_ by first|rfl|(simp;done)|(simp [X.cells,Qy.cells,V.cells,Col.cells,Rw.cells,Tb.cells,Fr.cells,Sch.cells,Tp.cells,Pl.cells,xCol,xLit,xBin,xNeg,Ac.cells,Se.cells,Pr.cells,Ch.cells,Rw.cells];done)) (gZ R hg)))⟩
noncomputable def L_rr20 (m:List Tb) (trig:List (List AV)) (s:Sch) (t:Tb) (ins:List (List V)):Cfg:=zan B.statement_run_rows 2 [(0,.p 0 0),(1,.p 2 0),(78,.own 3 ins.length),(79,iv (ins.length:Nat)),(80,iv 0)] (rrH m trig s ins++[.box t.cells])
theorem zd2 (m:List Tb) (trig:List (List AV)) (s:Sch) (t:Tb) (ins:List (List V)) (g:List V→List V) (hl:zad ins) (hne:ins≠[]) (hR:∀ l∈ins,zaa E0 S.before_Row [.sl trig,.sl [],s.av,.sl [],vsl l,tsl m,.sl []] [] (.tup [vsl (g l),.sl [],.sl [],iv 0]) []):decide (((ins.length:Nat):Int) < ((ins.length:Nat):Int))=false∧∀ R,Good E0 B.statement_run_rows (rrH m trig s ins) (zqc m trig s t ins g ins.length (ins.map g)) R→Good E0 B.statement_run_rows (rrH m trig s ins) (L_rr20 m trig s t ins) R:=by
 have hx0:∃ x,ins[0]?=some x:=zaz (by cases ins with|nil=>exact absurd rfl hne|cons _ _=>simp)
 obtain ⟨x,hx⟩:=hx0
 have hil:=(List.getElem?_eq_some_iff.1 hx).1
 obtain ⟨out,hout,h1,h2⟩:=zej m trig s t ins g hl hR 1 (outG g ins 1) (by omega) rfl
 have hout2:out=ins.map g:=by rw [hout,outG,List.take_length,List.drop_length,List.append_nil]
 subst hout2
 refine ⟨by simp,fun R h=>?_⟩
 have hg:=h2 R h
 have h0:decide ((0:Int) < ((ins.length:Nat):Int))=true:=by simp;omega
 have hxR:=hR x (List.mem_of_getElem? hx)
 have he:OwnEl (ins.map vrow) ins.length 0 (vrow x):=⟨by simp,by rw [List.getElem?_map,hx];rfl⟩
 have ho:OwnAt (ins.map vrow) ins.length (0:Int):=⟨by simp,by omega,by omega⟩
 have hset:ins.set 0 (g x)=outG g ins 1:=by have:=zoe (g:=g) hx;rwa [show outG g ins 0=ins by simp [outG]] at this
 rw [← hset] at hg
 refine zab ?_
 exact wkl [sb h0,sqx (OwnAt (List.map vrow ins) ins.length 0),sx (.el (vrow x)) he,sl [0,1] (zgB m trig s x (g x) hxR),sb (rfl:false=false),sqx (OwnAt (List.map vrow ins) ins.length 0),sx (.el (vrow x)) (And.intro (owed (p:=True∧True)) he),si (zeS (t:=0+1) (n:=0+1) (by omega) (by omega))] [0,1,78,79,80] 6 kr (zar rfl (show ([Blk.box [AV.sl (List.map Tb.cells m),AV.sl trig,AV.sl [],sv s.name,AV.sl (List.map Col.cells s.cols),AV.sl [],AV.own 5 0],Blk.row Ty.int [] true,Blk.box [AV.own 3 ins.length,AV.nl,AV.nl],Blk.row Ty.LValue ((List.map vrow ins).set 0 [AV.sl (List.map V.cells (g x))]) false,Blk.box [sv t.sch.name,AV.sl (List.map Col.cells t.sch.cols),iv t.next,AV.sl (List.map Rw.cells t.rows)],Blk.row Ty.int [] false]:Heap)=_ by first|rfl|(simp;done)|(simp [X.cells,Qy.cells,V.cells,Col.cells,Rw.cells,Tb.cells,Fr.cells,Sch.cells,Tp.cells,Pl.cells,xCol,xLit,xBin,xNeg,Ac.cells,Se.cells,Pr.cells,Ch.cells,Rw.cells];done)) hg)
theorem zrq (m:List Tb) (trig:List (List AV)) (s:Sch) (t:Tb) (ins:List (List V)) (g:List V→List V) (hr:zad t.rows) (hl:zad ins) (hne:ins≠[]) (hR:∀ l∈ins,zaa E0 S.before_Row [.sl trig,.sl [],s.av,.sl [],vsl l,tsl m,.sl []] [] (.tup [vsl (g l),.sl [],.sl [],iv 0]) []):∃ (r:Int),r=0∧zaa E0 S.statement_run_rows [.p 0 0,.p 2 0,t.av] (rrH m trig s ins) (iv r) [.box (runB m trig s (.sl []) (.own 5 0)),.row Ty.int [] true,.box [.own 3 ins.length,.nl,.nl],.row Ty.LValue ((ins.map g).map vrow) false,.box t.cells,.row Ty.int [] false]:=by
 obtain ⟨q1,q1_1,g1⟩:=zeo m trig s t ins zle 0 zle zle
 obtain ⟨q2,g2⟩:=zeb m trig s t ins (0)
 obtain ⟨q3,g3⟩:=zd2 m trig s t ins g zle zle hR
 exact ⟨0,(by rfl),wkcK At.statement_run_rows [] [0,1,20,21,22] 5 kr (g1 _ (zab (wkl [sb q1_1] [0,1,47,48,49] 5 kr (g2 _ (zab (wkl [sb (rfl:false=false),sqx (ins.length=(List.map vrow ins).length)] [0,1,78,79,80] 5 kr (g3 _ (zab (wkrK [sb q3] kr)))))))))⟩
end Go.AM
namespace Go.AM
set_option maxRecDepth 100000
set_option maxHeartbeats 400000
set_option linter.unusedSimpArgs false
set_option linter.unusedVariables false
theorem zf8 {p:Prop} (h:p:=by first|assumption|rfl|omega|(simp [zad];done)|decide):p:=h
theorem zfw (m:List Tb) (trig:List (List AV)) (s:Sch) (t:Tb) (ins:List (List V)) (g:List V→List V) (hr:zad t.rows) (hl:zad ins) (hne:ins≠[]) (hR:∀ l∈ins,zaa E0 S.before_Row [.sl trig,.sl [],s.av,.sl [],vsl l,tsl m,.sl []] [] (.tup [vsl (g l),.sl [],.sl [],iv 0]) []):zaa E0 S.statement_run_rows [.p 0 0,.p 2 0,t.av] (rrH m trig s ins) (iv 0) [.box (runB m trig s (.sl []) (.own 5 0)),.row Ty.int [] true,.box [.own 3 ins.length,.nl,.nl],.row Ty.LValue ((ins.map g).map vrow) false,.box t.cells,.row Ty.int [] false]:=by
 obtain ⟨r,rfl,h⟩:=zrq m trig s t ins g hr hl hne hR
 exact h
theorem ztg (m:List Tb) (nm:Str) (rows:List (List X)) (ts:List Tg) (trig:List (List AV)) (t t2:Tb) (a:Nat) (ins:List (List V)) (g:List V→List V) (hl:m.length≤1000) (hx:m[a]?=some t) (hal:a < m.length) (hfd:zaa E0 S.store_Find [tsl m,sv nm] [] (iv (a:Nat)) []) (hn:decide (((a:Nat):Int) < 0)=false) (hC:zaa E0 S.dml_Candidates [(zal nm rows).av,.sl [],tsl m] [] (.tup [.agg [.own 5 ins.length,.nl,.nl],iv 0]) [.box (zal nm rows).cells,.box [.own 5 ins.length,.nl,.nl],.box t.sch.cells,.box (zal nm rows).cells,.box t.sch.cells,.row Ty.LValue (ins.map vrow) false]) (hd:∀ t∈m,zad t.sch.cols∧zad t.rows∧∀ r∈t.rows,zad r.vals) (hF:zaa E0 S.before_Applicable [.sl (ts.map Tg.cells),sv nm,iv 1,.sl [],bv false] [] (.sl []) []) (hT:zaa E0 S.before_Applicable [.sl (ts.map Tg.cells),sv nm,iv 1,.sl [],bv true] [] (.sl trig) []) (hz:(((0+0+ins.length:Nat):Int)==0)=false) (hr:zad t.rows) (hli:zad ins) (hne:ins≠[]) (hR:∀ l∈ins,zaa E0 S.before_Row [.sl trig,.sl [],t.sch.av,.sl [],vsl l,tsl m,.sl []] [] (.tup [vsl (g l),.sl [],.sl [],iv 0]) []) (hA:zaa E0 S.keys_Apply [t.av,insC (ins.map g)] [] (.tup [t2.av,iv 0]) []):∃ (r:List (List AV)) (n e:Int),(e=0∧r=(m.map Tb.cells).set a t2.cells∧n=((ins.length:Nat):Int))∧zaa E0 S.statement_Run [tsl m,.sl (ts.map Tg.cells),.sl [],(zal nm rows).av,.sl [],.sl [],.sl []] [] (.tup [.sl r,.sl [],.sl [],iv n,iv e]) []:=by
 exact ⟨(List.map Tb.cells m).set a [sv t2.sch.name,AV.sl (List.map Col.cells t2.sch.cols),iv t2.next,AV.sl (List.map Rw.cells t2.rows)],(↑(0+0+ins.length):Int),0,(by (exact ⟨rfl,rfl,by simp⟩)),(by (try simp only [X.av,Qy.av,V.av,Tb.av,Sch.av,Pl.av,xsl,fsl,vsl,tsl,List.map_append,List.map_cons,List.map_nil,V.cells,Col.cells,Rw.cells,Tb.cells,Fr.cells,Sch.cells,Pl.cells,zbN,zbz,zbR,zbA,zbQ,X.cells,Qy.cells,X.args_mk,X.sub_mk,Qy.items_mk,Qy.wh_mk,xCol,xLit,xBin,xNeg,Ac.cells,Se.cells,Pr.cells,Ch.cells,Rw.cells]);exact wk At.statement_Run [sqx (m.length=((List.map Tb.cells m).set a [sv t2.sch.name,AV.sl (List.map Col.cells t2.sch.cols),iv t2.next,AV.sl (List.map Rw.cells t2.rows)]).length∧True∧0=0∧True∧True∧True),sc hfd,sc (zg3 m zf8),sb (rfl:false=false),sc hC,sb (rfl:false=false),si (zeS (t:=0+0) (n:=0+0) (by omega) (by omega)),sqx (ins.length=(List.map vrow ins).length),si (zeS (t:=(↑(0+0):Int)+(ins.length:Int)) (n:=0+0+ins.length) (by omega) (by omega)),sc (ziK m zf8 zf8),sb hz,sc (zii ((zal nm rows).table) ((zal nm rows).rows)),sc hF,sc (zhk m),sb (rfl:false=false),sd [(11,[se (zah Tb.cells hx rfl)]),(7,[sc hT]),(15,[sc (zbI ([]) zf8)])],se (zah Tb.cells hx rfl),sl [10,9,7,6] (zfw m trig t.sch t ins g zf8 zf8 zf8 hR),sb (rfl:false=false),sdm [(2,[se (zah Tb.cells hx rfl)]),(5,[skx ((True∧True∧True∧True∧True)∧(ins.length=(List.map vrow (List.map g ins)).length∧True∧True∧True)∧True) [] hA])] 0 [(0,AV.sl (List.map Tb.cells m)),(1,AV.sl (List.map Tg.cells ts)),(2,AV.sl []),(3,AV.agg [iv (zal nm rows).kind,sv (zal nm rows).table,AV.sl (List.map (fun r=>[AV.sl (zac r)]) (zal nm rows).rows),AV.sl (zaf []),AV.sl [],AV.sl (zac []),sv (zal nm rows).text]),(4,AV.sl []),(5,AV.sl []),(6,AV.sl []),(10,AV.p 0 0),(14,AV.nl),(15,AV.nl),(16,AV.nl),(17,iv 0),(18,iv 0),(19,iv (a:Int)),(20,AV.sl (List.map Tb.cells m)),(21,AV.p 7 0),(22,iv 0),(23,iv (↑(0+0+ins.length):Int)),(24,AV.own 8 m.length),(25,AV.sl []),(26,iv 0),(27,AV.p 10 0),(28,iv 0),(29,AV.p 13 0),(30,AV.sl (List.map Tb.cells m)),(31,AV.p 0 1),(32,sv (zal nm rows).table),(33,iv (a:Int)),(34,AV.sl (List.map Tb.cells m)),(35,AV.sl []),(36,AV.sl [[AV.sl (List.map Tb.cells m)],[AV.sl []]]),(37,AV.sl (List.map Tb.cells m)),(38,iv (a:Int)),(39,AV.bl false),(41,AV.tup [AV.agg [AV.own 6 ins.length,AV.nl,AV.nl],iv 0]),(42,AV.agg [iv (zal nm rows).kind,sv (zal nm rows).table,AV.sl (List.map (fun r=>[AV.sl (zac r)]) (zal nm rows).rows),AV.sl (zaf []),AV.sl [],AV.sl (zac []),sv (zal nm rows).text]),(43,AV.sl []),(44,AV.sl (List.map Tb.cells m)),(45,AV.tup [AV.agg [AV.own 6 ins.length,AV.nl,AV.nl],iv 0]),(46,AV.agg [AV.own 6 ins.length,AV.nl,AV.nl]),(47,iv 0),(48,iv 0),(49,AV.bl false),(51,AV.p 7 1),(52,AV.nl),(53,iv 0),(54,AV.p 7 2),(55,AV.nl),(56,iv 0),(57,iv (↑(0+0):Int)),(58,AV.p 7 0),(59,AV.own 6 ins.length),(60,iv (ins.length:Int)),(61,iv (↑(0+0+ins.length):Int)),(62,AV.sl (List.map Tb.cells m)),(63,AV.own 8 m.length),(64,iv (↑(0+0+ins.length):Int)),(65,AV.bl false),(69,AV.agg [iv (zal nm rows).kind,sv (zal nm rows).table,AV.sl (List.map (fun r=>[AV.sl (zac r)]) (zal nm rows).rows),AV.sl (zaf []),AV.sl [],AV.sl (zac []),sv (zal nm rows).text]),(70,AV.sl []),(71,AV.sl (List.map Tg.cells ts)),(72,AV.p 0 1),(73,sv (zal nm rows).table),(74,AV.p 0 0),(75,iv (zal nm rows).kind),(76,AV.sl []),(77,AV.sl []),(78,AV.sl (List.map Tb.cells m)),(79,iv 0),(80,iv 0),(81,AV.bl false),(83,AV.sl (List.map Tb.cells m)),(84,AV.sl (List.map Tg.cells ts)),(85,AV.p 0 1),(86,sv (zal nm rows).table),(87,AV.p 0 0),(88,iv (zal nm rows).kind),(89,AV.sl []),(90,AV.sl trig),(91,AV.sl []),(92,AV.sl (List.map Tb.cells m)),(93,iv (a:Int)),(94,AV.dp [sv t.sch.name,AV.sl (List.map Col.cells t.sch.cols),iv t.next,AV.sl (List.map Rw.cells t.rows)]),(95,AV.dp [sv t.sch.name,AV.sl (List.map Col.cells t.sch.cols),iv t.next,AV.sl (List.map Rw.cells t.rows)]),(96,AV.agg [sv t.sch.name,AV.sl (List.map Col.cells t.sch.cols)]),(97,AV.sl []),(98,AV.own 9 0),(99,AV.agg [AV.sl (List.map Tb.cells m),AV.sl trig,AV.sl [],sv t.sch.name,AV.sl (List.map Col.cells t.sch.cols),AV.own 9 0,AV.nl]),(100,AV.p 10 0),(101,AV.p 10 0),(102,AV.sl (List.map Tb.cells m)),(103,iv (a:Int)),(104,AV.dp [sv t.sch.name,AV.sl (List.map Col.cells t.sch.cols),iv t.next,AV.sl (List.map Rw.cells t.rows)]),(105,AV.agg [sv t.sch.name,AV.sl (List.map Col.cells t.sch.cols),iv t.next,AV.sl (List.map Rw.cells t.rows)]),(106,iv 0),(107,iv 0),(108,AV.bl false),(110,AV.tup [AV.agg [sv t2.sch.name,AV.sl (List.map Col.cells t2.sch.cols),iv t2.next,AV.sl (List.map Rw.cells t2.rows)],iv 0]),(111,AV.sl (List.map Tb.cells m)),(112,iv (a:Int)),(113,AV.dp [sv t.sch.name,AV.sl (List.map Col.cells t.sch.cols),iv t.next,AV.sl (List.map Rw.cells t.rows)]),(114,AV.agg [sv t.sch.name,AV.sl (List.map Col.cells t.sch.cols),iv t.next,AV.sl (List.map Rw.cells t.rows)]),(115,AV.agg [AV.own 6 ins.length,AV.nl,AV.nl]),(116,AV.tup [AV.agg [sv t2.sch.name,AV.sl (List.map Col.cells t2.sch.cols),iv t2.next,AV.sl (List.map Rw.cells t2.rows)],iv 0]),(117,AV.agg [sv t2.sch.name,AV.sl (List.map Col.cells t2.sch.cols),iv t2.next,AV.sl (List.map Rw.cells t2.rows)]),(118,iv 0)] [Blk.box [iv (zal nm rows).kind,sv (zal nm rows).table,AV.sl (List.map (fun r=>[AV.sl (zac r)]) (zal nm rows).rows),AV.sl (zaf []),AV.sl [],AV.sl (zac []),sv (zal nm rows).text],Blk.box [iv (zal nm rows).kind,sv (zal nm rows).table,AV.sl (List.map (fun r=>[AV.sl (zac r)]) (zal nm rows).rows),AV.sl (zaf []),AV.sl [],AV.sl (zac []),sv (zal nm rows).text],Blk.box [AV.own 6 ins.length,AV.nl,AV.nl],Blk.box [sv t.sch.name,AV.sl (List.map Col.cells t.sch.cols)],Blk.box [iv (zal nm rows).kind,sv (zal nm rows).table,AV.sl (List.map (fun r=>[AV.sl (zac r)]) (zal nm rows).rows),AV.sl (zaf []),AV.sl [],AV.sl (zac []),sv (zal nm rows).text],Blk.box [sv t.sch.name,AV.sl (List.map Col.cells t.sch.cols)],Blk.row Ty.LValue (List.map vrow (List.map g ins)) true,Blk.box [AV.own 6 ins.length,AV.nl,AV.nl],Blk.row Ty.Table (List.map Tb.cells m) false,Blk.row Ty.int [] true,Blk.box [AV.sl (List.map Tb.cells m),AV.sl trig,AV.sl [],sv t.sch.name,AV.sl (List.map Col.cells t.sch.cols),AV.sl [],AV.own 12 0],Blk.box [sv t.sch.name,AV.sl (List.map Col.cells t.sch.cols),iv t.next,AV.sl (List.map Rw.cells t.rows)],Blk.row Ty.int [] false,Blk.box [sv t2.sch.name,AV.sl (List.map Col.cells t2.sch.cols),iv t2.next,AV.sl (List.map Rw.cells t2.rows)]],sb (rfl:false=false),sqx (OwnAt (List.map Tb.cells m) m.length (a:Int)),sx (.el t.cells) (And.intro (owed (p:=True∧True∧True∧True∧True)) (zje Tb.cells (n:=m.length) (by simp) hx)),sd []] kr)⟩
theorem zhN (m:List Tb) (nm:Str) (rows:List (List X)) (ts:List Tg) (trig:List (List AV)) (t t2:Tb) (a:Nat) (ins:List (List V)) (g:List V→List V) (hl:m.length≤1000) (hx:m[a]?=some t) (hal:a < m.length) (hfd:zaa E0 S.store_Find [tsl m,sv nm] [] (iv (a:Nat)) []) (hn:decide (((a:Nat):Int) < 0)=false) (hC:zaa E0 S.dml_Candidates [(zal nm rows).av,.sl [],tsl m] [] (.tup [.agg [.own 5 ins.length,.nl,.nl],iv 0]) [.box (zal nm rows).cells,.box [.own 5 ins.length,.nl,.nl],.box t.sch.cells,.box (zal nm rows).cells,.box t.sch.cells,.row Ty.LValue (ins.map vrow) false]) (hd:∀ t∈m,zad t.sch.cols∧zad t.rows∧∀ r∈t.rows,zad r.vals) (hF:zaa E0 S.before_Applicable [.sl (ts.map Tg.cells),sv nm,iv 1,.sl [],bv false] [] (.sl []) []) (hT:zaa E0 S.before_Applicable [.sl (ts.map Tg.cells),sv nm,iv 1,.sl [],bv true] [] (.sl trig) []) (hz:(((0+0+ins.length:Nat):Int)==0)=false) (hr:zad t.rows) (hli:zad ins) (hne:ins≠[]) (hR:∀ l∈ins,zaa E0 S.before_Row [.sl trig,.sl [],t.sch.av,.sl [],vsl l,tsl m,.sl []] [] (.tup [vsl (g l),.sl [],.sl [],iv 0]) []) (hA:zaa E0 S.keys_Apply [t.av,insC (ins.map g)] [] (.tup [t2.av,iv 0]) []):zaa E0 S.statement_Run [tsl m,.sl (ts.map Tg.cells),.sl [],(zal nm rows).av,.sl [],.sl [],.sl []] [] (.tup [tsl (m.set a t2),.sl [],.sl [],iv (ins.length:Nat),iv 0]) []:=by
 obtain ⟨r,n,e,⟨rfl,rfl,rfl⟩,h⟩:=ztg m nm rows ts trig t t2 a ins g hl hx hal hfd hn hC hd hF hT hz hr hli hne hR hA
 rw [← List.map_set] at h
 exact h
end Go.AM
namespace Go.AM
set_option maxRecDepth 100000
set_option maxHeartbeats 1000000
set_option linter.unusedSimpArgs false
set_option linter.unusedVariables false
theorem zdk {s:Sch} {i:Nat} {x:Col} (h:(zaY x.name&&decide (1≤x.type)&&decide (x.type≤3)&&(!x.key || x.notNull)&&(idxF (fun c=>colC c x.name) s.cols 0==((i:Nat):Int)))=true):ColV s i x:=by
 simp only [Bool.and_eq_true,decide_eq_true_eq,beq_iff_eq,Bool.or_eq_true,Bool.not_eq_true'] at h
 obtain ⟨⟨⟨⟨h1,h2⟩,h3⟩,h4⟩,h5⟩:=h
 refine ⟨by rw [h1];rfl,by simp;omega,by simp;omega,fun hk=>?_,by simp [h5]⟩
 rcases h4 with h4|h4
 ·rw [hk] at h4;cases h4
 ·exact h4
theorem zo9 {s:Sch} (hs:s∈zas):SchV s:=by
 simp only [zas,List.mem_cons,List.not_mem_nil,or_false] at hs
 rcases hs with rfl|rfl|rfl
 ·refine ⟨by kernel_rfl,by kernel_rfl,by kernel_rfl,fun i x hx=>?_,by decide⟩
  match i,hx with
  | 0,hx=>cases hx;exact zdk kr
  | 1,hx=>cases hx;exact zdk kr
  | i+2,hx=>simp at hx
 ·refine ⟨by kernel_rfl,by kernel_rfl,by kernel_rfl,fun i x hx=>?_,by decide⟩
  match i,hx with
  | 0,hx=>cases hx;exact zdk kr
  | 1,hx=>cases hx;exact zdk kr
  | 2,hx=>cases hx;exact zdk kr
  | 3,hx=>cases hx;exact zdk kr
  | i+4,hx=>simp at hx
 ·refine ⟨by kernel_rfl,by kernel_rfl,by kernel_rfl,fun i x hx=>?_,by decide⟩
  match i,hx with
  | 0,hx=>cases hx;exact zdk kr
  | 1,hx=>cases hx;exact zdk kr
  | 2,hx=>cases hx;exact zdk kr
  | i+3,hx=>simp at hx
theorem zqS {s:Sch} (hs:s∈zas):idxF (fun c=>c.key) s.cols 0=keyC s:=by
 simp only [zas,List.mem_cons,List.not_mem_nil,or_false] at hs
 rcases hs with rfl|rfl|rfl <;> kernel_rfl
theorem StoreV.tabV {n:Int} {m:List Tb} (h:StoreV n m) (hn:n≤100) {t:Tb} (ht:t∈m):TabV t:=by
 have hs:t.sch∈zas:=by rw [← h.schs];exact List.mem_map_of_mem ht
 have h1:=h.len t ht
 have h2:=h.next t ht
 exact ⟨zo9 hs,by simp;omega,h.rows t ht,by simp;omega,zqS hs⟩
end Go.AM
namespace Go.AM
set_option maxRecDepth 100000
set_option maxHeartbeats 1000000
set_option linter.unusedSimpArgs false
set_option linter.unusedVariables false
def vNul:V:=⟨0,0,⟨#[]⟩⟩
abbrev sLog:Str:=⟨#[108,111,103]⟩
abbrev sNn:Str:=⟨#[110]⟩
def zct:X:=X.mk 9 0 false ⟨0,0,⟨#[]⟩⟩ ⟨#[]⟩ ⟨#[]⟩ [] [Qy.mk false [] sLog []]
def zcE:Ac:=⟨5,⟨#[]⟩,[],[],[⟨sNn,zct⟩],[],⟨#[]⟩⟩
def zbg:Tg:=⟨⟨#[97]⟩,sLog,true,1,[],true,[],[],[],[],[zcE]⟩
theorem zmg (g:Rw→List V→Int × List V) (hg:∀ r its,g r its=(0,its)):∀ (l:List Rw) (n:Nat) (its:List V),selR (fun _=>(true,0)) g l n its=(0,n+l.length,its)
 | [],n,its=>rfl
 | r::l,n,its=>by
  simp only [selR,hg]
  rw [show ((0:Int) != 0)=false from rfl]
  simp only [cond_false,cond_true]
  rw [zmg g hg l (n+1) its,List.length_cons]
  congr 2;omega
abbrev vCnt (n:Nat):V:=⟨1,(n:Int),⟨#[]⟩⟩
theorem zsz (N:Nat) (frs:List Fr) (m:List Tb) (t:Tb) (h:zbX m sLog=some t):eval (N+1) zct frs m=(vCnt t.rows.length,0):=by
 have h1:eval (N+1) zct frs m=valF (fun x=>eval N x frs m) (eOp zct) (zfu (fun w x=>eval N x w m) zct frs m) zct frs m:=rfl
 have h2:∀ (f:X→V × Int) (op:List V→V × Int) (agg:V × Int),valF f op agg zct frs m=(agg.1,agg.2):=fun f op agg=>by kernel_rfl
 have h3:zfu (fun w x=>eval N x w m) zct frs m=(match zbX m sLog with
  | none=>eAgg (3,0,[]) zct
  | some t=>eAgg (selR (fun r=>zck ((fun w x=>eval N x w m) (zaA frs t r.vals)) []) (fun r its=>rowI ((fun w x=>eval N x w m) (zaA frs t r.vals)) 9 [] its) t.rows 0 []) zct):=rfl
 rw [h1,h2,h3,h]
 have h4:selR (fun r=>zck ((fun w x=>eval N x w m) (zaA frs t r.vals)) []) (fun r its=>rowI ((fun w x=>eval N x w m) (zaA frs t r.vals)) 9 [] its) t.rows 0 []=(0,0+t.rows.length,[]):=zmg _ (fun _ _=>rfl) t.rows 0 []
 simp only [h4,Nat.zero_add]
 rfl
theorem zp0 (f:X→V × Int) (fr:List Fr) (m:List Tb) (v:V) (h:f zct=(v,0)):zbx f zcE fr zaK [] [vNul,vNul] m=(0,[v,vNul]):=by
 have e:zbx f zcE fr zaK [] [vNul,vNul] m=zbx (fun _=>f zct) zcE fr zaK [] [vNul,vNul] m:=rfl
 rw [e,h];show _=_;kernel_rfl
theorem zsv (N:Nat) (m:List Tb) (t:Tb) (h:zbX m sLog=some t):zbs (N+1) zbg zaK [] [vNul,vNul] m=(0,[vCnt t.rows.length,vNul]):=by
 let f:X→V × Int:=fun x=>eval (N+1) x (zaI zbg zaK [] [vNul,vNul]) m
 have e:zbs (N+1) zbg zaK [] [vNul,vNul] m=bif (zbx f zcE (zaI zbg zaK [] [vNul,vNul]) zaK [] [vNul,vNul] m).1 != 0 then ((zbx f zcE (zaI zbg zaK [] [vNul,vNul]) zaK [] [vNul,vNul] m).1,(zbx f zcE (zaI zbg zaK [] [vNul,vNul]) zaK [] [vNul,vNul] m).2) else (0,(zbx f zcE (zaI zbg zaK [] [vNul,vNul]) zaK [] [vNul,vNul] m).2):=by kernel_rfl
 rw [e,zp0 f _ m _ (zsz N _ m t h)]
 rfl
theorem zsw (m:List Tb) (t:Tb) (h:zbX m sLog=some t):bRow 7 [zbg] [] zaK [] [vNul,vNul] m []=([vCnt t.rows.length,vNul],[],[],0):=by
 have e:bRow 7 [zbg] [] zaK [] [vNul,vNul] m []=bif (zbs 7 zbg zaK [] [vNul,vNul] m).1 != 0 then ([],[],[],(zbs 7 zbg zaK [] [vNul,vNul] m).1) else ((zbs 7 zbg zaK [] [vNul,vNul] m).2,[],[],0):=by kernel_rfl
 rw [e,zsv 6 m t h]
 rfl
theorem zro (N:Nat) (s:Sch) (old new:List V) (m:List Tb):bRow N [] [] s old new m []=(new,[],[],0):=by rfl
theorem zsU:XOk 2 zct:=by
 refine ⟨zaC,⟨by simp [zct],by simp [zct]⟩,fun x hx=>by simp [zct] at hx,fun q hq=>?_⟩
 simp only [zct,X.sub_mk,List.mem_singleton] at hq
 subst hq
 exact ⟨⟨by simp,by simp⟩,fun x hx=>by simp at hx,fun x hx=>by simp at hx⟩
theorem znw:TgOk 7 zbg:=by
 refine ⟨by simp [zbg],by simp [zbg],by simp [zbg],by simp [zbg],by simp [zbg],by simp [zbg],by simp [zbg],?_⟩
 simp only [zbg,List.mem_singleton,forall_eq]
 refine ⟨by simp [zcE],by simp [zcE],by simp [zcE],by simp [zcE],by simp [zcE],?_,by simp [zcE],by simp [zcE]⟩
 simp only [zcE,List.mem_singleton,forall_eq]
 exact zsU.le (by omega)
theorem nul_ok:NwOk [vNul,vNul]:=⟨by decide,fun v hv=>by
 simp only [List.mem_cons,List.not_mem_nil,or_false] at hv
 rcases hv with rfl|rfl <;> exact zaC⟩
theorem zre:NwOk []:=⟨by decide,fun v hv=>by simp at hv⟩
theorem zpF (m:List Tb) (t:Tb) (h:zbX m sLog=some t) (ht:TbOk m) (hg:TbG m):zaa E0 S.before_Row [.sl ([zbg].map Tg.cells),.sl [],zaK.av,.sl [],vsl [vNul,vNul],tsl m,.sl []] [] (.tup [vsl [vCnt t.rows.length,vNul],.sl [],.sl [],iv 0]) []:=by
 have h1:=ziB 7 [zbg] [] zaK [] [vNul,vNul] m [] (by decide) (by decide) (by decide) (by decide) zre ht hg (by decide) (fun t ht=>by simp only [List.mem_singleton] at ht;exact ht ▸ znw.tr) nul_ok (by decide) (by decide)
 rw [zsw m t h] at h1
 exact h1
theorem zoA (new:List V) (m:List Tb) (ht:TbOk m) (hg:TbG m) (hn:NwOk new):zaa E0 S.before_Row [.sl ([]:List (List AV)),.sl [],zaK.av,.sl [],vsl new,tsl m,.sl []] [] (.tup [vsl new,.sl [],.sl [],iv 0]) []:=by
 have h1:=ziB 7 [] [] zaK [] new m [] (by decide) (by decide) (by decide) (by decide) zre ht hg (by decide) (fun t ht=>by simp at ht) hn hn.short (by decide)
 rw [zro] at h1
 exact h1
theorem zoh (b:Bool):zaa E0 S.before_Applicable [.sl ([zbg].map Tg.cells),sv sLog,iv 1,.sl [],bv b] [] (.sl ((bif b then [zbg] else []).map Tg.cells)) []:=by
 have h:=zey 7 [zbg] sLog 1 [] b (by decide) (by decide) (fun t ht=>by simp only [List.mem_singleton] at ht;exact ht ▸ znw.sh)
 have e:[zbg].filter (appl sLog 1 [] b)=bif b then [zbg] else []:=by cases b <;> kernel_rfl
 rw [e] at h
 exact h
theorem zmc (b:Bool):zaa E0 S.before_Applicable [.sl (([]:List Tg).map Tg.cells),sv sLog,iv 1,.sl [],bv b] [] (.sl []) [] :=
 zey 7 [] sLog 1 [] b (by decide) (by decide) (fun t ht=>by simp at ht)
end Go.AM
namespace Go.AM
set_option maxRecDepth 100000
set_option maxHeartbeats 1000000
set_option linter.unusedSimpArgs false
set_option linter.unusedVariables false
abbrev prX (p:V × V):List X:=[xLit p.1,xLit p.2]
abbrev prV (p:V × V):List V:=[p.1,p.2]
theorem zkd {t:Tb} {m:List Tb} (hs:t.sch=zaK):zbX (t::m) sLog=some t∧idxF (fun x=>zaL x sLog) (t::m) 0=0:=by
 have h:zaL t sLog=true:=by unfold zaL;rw [hs];kernel_rfl
 constructor
 ·unfold zbX;rw [List.find?_cons,h]
 ·unfold idxF;rw [h];rfl
theorem zoa (n:Nat) (v:V) (frs:List Fr) (m:List Tb):eval (n+1) (xLit v) frs m=(v,0):=by
 have e:∀ (f:X→V × Int) (op:List V→V × Int) (agg:V × Int),valF f op agg (xLit v) frs m=(v,0):=fun f op agg=>by kernel_rfl
 exact e _ _ _
theorem zrj (l:List Rw):zba (idxF (fun c=>c.key) zaK.cols 0) l=[]:=by
 have e:idxF (fun c=>c.key) zaK.cols 0=-1:=by kernel_rfl
 rw [e]
 unfold zba
 induction l with
 | nil=>rfl
 | cons x r ih=>rw [List.filterMap_cons,show zcr (-1) x=none from rfl];exact ih
structure LogIn (t:Tb) (r:List Tb):Prop where
 sch:t.sch=zaK
 tab:∀ x∈t::r,TabV x
 to:TbOk (t::r)
 tg:TbG (t::r)
 ml:(t::r).length≤1000
theorem zep (t:Tb) (r:List Tb) (ts tr:List Tg) (prs:List (V × V)) (g:List V→List V) (h:LogIn t r) (hb:actB (vX 3) (zal sLog (prs.map prX))=true) (hne:prs≠[]) (hpl:prs.length≤8) (hp:∀ p∈prs,p.1.Good∧p.2.Good)
  (hF:zaa E0 S.before_Applicable [.sl (ts.map Tg.cells),sv sLog,iv 1,.sl [],bv false] [] (.sl []) []) (hT:zaa E0 S.before_Applicable [.sl (ts.map Tg.cells),sv sLog,iv 1,.sl [],bv true] [] (.sl (tr.map Tg.cells)) [])
  (hR:∀ p∈prs,zaa E0 S.before_Row [.sl (tr.map Tg.cells),.sl [],zaK.av,.sl [],vsl (prV p),tsl (t::r),.sl []] [] (.tup [vsl (g (prV p)),.sl [],.sl [],iv 0]) [])
  (hG:∀ p∈prs,zcx zaK.cols (g (prV p))) (hlen:t.rows.length+prs.length≤100) (hn:t.next≤4000) :
  zaa E0 S.statement_Run [tsl (t::r),.sl (ts.map Tg.cells),.sl [],(zal sLog (prs.map prX)).av,.sl [],.sl [],.sl []] [] (.tup [tsl (insT t (prs.map fun p=>g (prV p))::r),.sl [],.sl [],iv (prs.length:Nat),iv 0]) []:=by
 obtain ⟨hf1,hf2⟩:=zkd (t:=t) (m:=r) h.sch
 have hmem:∀ l∈prs.map prX,∃ p∈prs,prX p=l:=fun l hl=>List.mem_map.1 hl
 have hfd:zaa E0 S.store_Find [tsl (t::r),sv sLog] [] (iv (((0:Nat)):Int)) []:=by
  have h1:=znN (t::r) sLog h.to.len
  rw [hf2] at h1;exact h1
 have hxo:∀ (p:V × V),p.1.Good∧p.2.Good→∀ x∈prX p,XOk 3 x:=fun p hp x hx=>by
  simp only [List.mem_cons,List.not_mem_nil,or_false] at hx
  rcases hx with rfl|rfl
  ·exact zpi hp.1
  ·exact zpi hp.2
 have hD:DmlIn 3 (zal sLog (prs.map prX)) [] (t::r):=by
  refine ⟨⟨by simp;omega,fun l hl=>?_,by simp,fun q hq=>by simp at hq,by simp,fun s hs=>by simp at hs,by simp,fun x hx=>by simp at hx⟩,by simp,⟨by simp,fun f hf=>by simp at hf,fun f hf=>by simp at hf⟩,fun f hf=>by simp at hf,h.to,h.tg,fun x hx r hr=>(h.tab x hx).vals r hr⟩
  obtain ⟨p,hp1,rfl⟩:=hmem l hl
  exact ⟨by simp,hxo p (hp p hp1)⟩
 have htg:=hD.target
 have htt:tgt (zal sLog (prs.map prX)) (actB (vX 3) (zal sLog (prs.map prX))) (t::r)=(zaK,0):=by
  unfold tgt
  rw [hb,zhL]
  have e1:zbX (t::r) (zal sLog (prs.map prX)).table=some t:=hf1
  rw [e1]
  simp only [h.sch];rfl
 rw [htt] at htg
 obtain ⟨out,hout,hC⟩:=zg4 sLog (prs.map prX) zaK [] (t::r) (fun x=>eval 3 x [] (t::r)) htg (by decide) (by simp only [zad,List.length_map];omega)
  (fun l hl=>by
   obtain ⟨p,hp1,rfl⟩:=hmem l hl
   exact ⟨by simp,fun x hx=>zgN 3 x [] (t::r) (hxo p (hp p hp1) x hx) ⟨by simp,fun f hf=>by simp at hf,fun f hf=>by simp at hf⟩ (fun f hf=>by simp at hf) h.to h.tg⟩)
  (fun l hl x hx=>by
   obtain ⟨p,hp1,rfl⟩:=hmem l hl
   simp only [List.mem_cons,List.not_mem_nil,or_false] at hx
   rcases hx with rfl|rfl <;> simp [zoa])
  (fun l hl=>by
   obtain ⟨p,hp1,rfl⟩:=hmem l hl
   rfl)
 have e:out=prs.map prV:=by
  rw [hout,List.take_length]
  unfold evR
  rw [List.map_map]
  refine List.map_congr_left fun p hp=>?_
  simp only [Function.comp,List.map_cons,List.map_nil,zoa]
 subst e
 have hgl:∀ l∈prs.map prV,∃ p∈prs,prV p=l:=fun l hl=>List.mem_map.1 hl
 have hlast:=zhN (t::r) sLog (prs.map prX) ts (tr.map Tg.cells) t (insT t ((prs.map prV).map g)) 0 (prs.map prV) g h.ml rfl (by simp) hfd (by decide) (by rw [h.sch];exact hC)
  (fun x hx=>⟨(h.tab x hx).sch.short,(h.tab x hx).shr,(h.tab x hx).vals⟩) hF hT (by cases prs with|nil=>exact absurd rfl hne|cons a b=>simp only [List.length_map,List.length_cons];rw [beq_eq_false_iff_ne];omega)
  (h.tab t (by simp)).shr (by simp only [zad,List.length_map];omega) (by simpa using hne)
  (fun l hl=>by obtain ⟨p,hp1,rfl⟩:=hgl l hl;rw [h.sch];exact hR p hp1)
  (zjT t _ (h.tab t (by simp)) (fun l hl=>by
   obtain ⟨l2,hl2,rfl⟩:=List.mem_map.1 hl
   obtain ⟨p,hp1,rfl⟩:=hgl l2 hl2
   rw [h.sch];exact hG p hp1) (by simp only [List.length_map];omega) (by simp only [List.length_map];omega) (by rw [h.sch,zrj];exact List.nodup_nil))
 rw [List.length_map,List.map_map,List.set_cons_zero] at hlast
 exact hlast
end Go.AM
namespace Go.AM
set_option maxRecDepth 100000
set_option maxHeartbeats 1000000
set_option linter.unusedSimpArgs false
set_option linter.unusedVariables false
def zaP:V:=⟨1,5,⟨#[]⟩⟩
def tbK:Tb:=⟨zaK,1,[]⟩
def tbK2:Tb:=⟨zaK,2,[⟨1,[zaP,vNul]⟩]⟩
theorem zpA:zaK∈zas:=by simp [zas,zaK]
theorem tbK_v:TabV tbK:=⟨zo9 zpA,by decide,RowsV.nil (by decide),by decide,zqS zpA⟩
theorem zne:LogIn tbK []:=by
 refine ⟨rfl,fun x hx=>?_,⟨by decide,fun x hx=>?_,fun x hx=>?_,fun x hx=>?_⟩,⟨fun x hx=>?_,fun x hx=>?_⟩,by decide⟩ <;> (simp only [List.mem_singleton] at hx;subst hx)
 ·exact tbK_v
 ·exact tbK_v.sch.short
 ·decide
 ·exact fun r hr=>by cases hr
 ·exact fun r hr=>by cases hr
 ·decide
theorem zma {v:V} (hg:v.Good) (hk:v.kind=0∨v.kind=1):zcx zaK.cols [v,vNul]:=by
 refine ⟨rfl,fun k c w h1 h2=>?_⟩
 match k,h1,h2 with
 | 0,h1,h2=>cases h1;cases h2;exact ⟨hg,hk,fun h=>by cases h⟩
 | 1,h1,h2=>cases h1;cases h2;exact ⟨zaC,.inl rfl,fun h=>by cases h⟩
 | k+2,h1,h2=>simp at h2
theorem zs3:NwOk [zaP,vNul]:=⟨by decide,fun v hv=>by
 simp only [List.mem_cons,List.not_mem_nil,or_false] at hv
 rcases hv with rfl|rfl
 ·exact zbp (by decide)
 ·exact zaC⟩
theorem zgx:zaa E0 S.statement_Run [tsl [tbK],.sl [],.sl [],(zal sLog [[xNum 5,xLit vNul]]).av,.sl [],.sl [],.sl []] [] (.tup [tsl [tbK2],.sl [],.sl [],iv 1,iv 0]) []:=by
 have h:=zep tbK [] [] [] [(zaP,vNul)] id zne kr (by decide) (by decide) (fun p hp=>by simp only [List.mem_singleton] at hp;subst hp;exact ⟨zbp (by decide),zaC⟩) (zmc false) (zmc true)
  (fun p hp=>by simp only [List.mem_singleton] at hp;subst hp;exact zoA _ _ zne.to zne.tg zs3) (fun p hp=>by simp only [List.mem_singleton] at hp;subst hp;exact zma (zbp (by decide)) (.inr rfl)) (by decide) (by decide)
 exact h
theorem zgO (t:Tb) (r:List Tb) (k:Nat) (h:LogIn t r) (hl:t.rows.length≤5) (hn:t.next≤3000) (hk:1≤k∧k≤5):zaa E0 S.statement_Run [tsl (t::r),.sl ([zbg].map Tg.cells),.sl [],(zal sLog (List.replicate k [xLit vNul,xLit vNul])).av,.sl [],.sl [],.sl []] [] (.tup [tsl (insT t (List.replicate k [vCnt t.rows.length,vNul])::r),.sl [],.sl [],iv (k:Nat),iv 0]) []:=by
 have hb:actB (vX 3) (zal sLog (List.replicate k [xLit vNul,xLit vNul]))=true:=by
  have hk5:k=1∨k=2∨k=3∨k=4∨k=5:=by omega
  rcases hk5 with rfl|rfl|rfl|rfl|rfl <;> (show _=_;kernel_rfl)
 have e1:(List.replicate k (vNul,vNul)).map prX=List.replicate k [xLit vNul,xLit vNul]:=List.map_replicate
 have e2:(List.replicate k (vNul,vNul)).map (fun p=>(fun _=>[vCnt t.rows.length,vNul]) (prV p))=List.replicate k [vCnt t.rows.length,vNul]:=List.map_replicate
 have hm:∀ p∈List.replicate k (vNul,vNul),p=(vNul,vNul):=fun p hp=>(List.mem_replicate.1 hp).2
 have h:=zep t r [zbg] [zbg] (List.replicate k (vNul,vNul)) (fun _=>[vCnt t.rows.length,vNul]) h (by rw [e1];exact hb) (by intro e;have:=congrArg List.length e;simp at this;omega) (by simp;omega) (fun p hp=>by rw [hm p hp];exact ⟨zaC,zaC⟩) (zoh false) (zoh true)
  (fun p hp=>by rw [hm p hp];exact zpF (t::r) t (zkd h.sch).1 h.to h.tg) (fun p hp=>zma (zbp (by constructor <;> omega)) (.inr rfl)) (by simp;omega) (by omega)
 rw [e1,e2,List.length_replicate] at h
 exact h
structure SeesIn (m:List Tb):Prop where
 ex:∃ t r,m=t::r∧LogIn t r∧t.rows.length≤5∧t.next≤3000
def hdT (m:List Tb):Tb:=m.headD zrz
abbrev newR (m:List Tb) (rows:List (List X)):List (List V):=List.replicate rows.length [vCnt (hdT m).rows.length,vNul]
structure SeesRows (rows:List (List X)):Prop where
 rep:rows=List.replicate rows.length [xLit vNul,xLit vNul]
 lo:1≤rows.length
 hi:rows.length≤5
structure SeesOut (m:List Tb) (rows:List (List X)) (m2:List Tb):Prop where
 len:m2.length=m.length
 at_:m2[0]?=some (insT (hdT m) (newR m rows))
theorem SeesIn.rl {m:List Tb} (h:SeesIn m):(hdT m).rows.length≤5:=by
 obtain ⟨t,r,rfl,_,h2,_⟩:=h.ex;exact h2
theorem zfH (t:Tp) (n:Int) (hn:n=5):∃ (m:List Tb) (t':Tp),SeesIn m∧zaa E0 S.world_Tape_Store [.p 0 0,iv n] [.box t.cells] (tsl m) [.box t'.cells]:=by
 subst hn
 obtain ⟨m,t',hm,h⟩:=zgU t 5 zih (by decide)
 have hs:=hm.schs
 refine ⟨m,t',⟨?_⟩,h⟩
 cases m with
 | nil=>simp [zas] at hs
 | cons a r =>
  have h1:a.sch=zaK:=by simp only [zas,List.map_cons] at hs;exact (List.cons.inj hs).1
  have h2:(a::r).length=3:=by have:=congrArg List.length hs;simpa [zas] using this
  have h3:=hm.len a (by simp)
  exact ⟨a,r,rfl,⟨h1,fun x hx=>hm.tabV (by decide) hx,(hm.ok).tbOk,(hm.ok).tbG,by omega⟩,by omega,hm.next a (by simp)⟩
theorem zjP (m:List Tb) (h:SeesIn m):zaa E0 S.ref9_Find [tsl m,sv sLog] [] (iv 0) []:=by
 obtain ⟨t,r,rfl,h1,_⟩:=h.ex
 have h2:=zos (t::r) sLog h1.to.len
 rw [(zkd h1.sch).2] at h2;exact h2
theorem zjq (m:List Tb) (h:0 < m.length):ElAt (m.map Tb.cells) (0:Int) (hdT m).cells 4:=by
 cases m with
 | nil=>simp at h
 | cons t r=>exact ⟨by simp,rfl,rfl⟩
theorem SeesIn.pos {m:List Tb} (h:SeesIn m):0 < m.length:=by
 obtain ⟨t,r,rfl,_⟩:=h.ex;simp
theorem SeesOut.hd {m m2:List Tb} {rows:List (List X)} (h:SeesOut m rows m2):hdT m2=insT (hdT m) (newR m rows):=by
 have h1:=h.at_
 cases m2 with
 | nil=>simp at h1
 | cons a r=>simp only [List.getElem?_cons_zero,Option.some.injEq] at h1;exact h1
theorem SeesOut.pos {m m2:List Tb} {rows:List (List X)} (h:SeesOut m rows m2):0 < m2.length:=by
 have h1:=h.at_
 cases m2 with
 | nil=>simp at h1
 | cons a r=>simp
abbrev seE (m m2:List Tb):List (List AV):=List.drop (((List.map Rw.cells (hdT m).rows).length:Nat):Int).toNat (List.take (((List.map Rw.cells (hdT m2).rows).length:Nat):Int).toNat (List.map Rw.cells (hdT m2).rows))
def zdm (m:List Tb) (rows:List (List X)):List Int:=(insN (hdT m).next (newR m rows)).map Rw.id
theorem zri {m m2:List Tb} {rows:List (List X)} (h:SeesOut m rows m2):seE m m2=(insN (hdT m).next (newR m rows)).map Rw.cells:=by
 unfold seE
 rw [h.hd]
 simp only [List.length_map,Int.toNat_natCast]
 rw [List.take_of_length_le (by simp),List.map_append,List.drop_append_of_le_length (by simp),List.drop_of_length_le (by simp),List.nil_append]
theorem zpw {m m2:List Tb} {rows:List (List X)} (h:SeesOut m rows m2):(seE m m2).length=(zdm m rows).length:=by
 rw [zri h];simp [zdm]
theorem zrx (m:List Tb) (rows:List (List X)):(zdm m rows).length=rows.length:=by
 simp [zdm,zdL]
theorem zol:∀ {l:List (List V)} {nx:Int} {r:Rw},r∈insN nx l→r.vals∈l
 | [],_,_,h=>by simp [insN] at h
 | v::l,nx,r,h=>by
  simp only [insN,List.mem_cons] at h
  rcases h with rfl|h
  ·simp
  ·exact List.mem_cons_of_mem _ (zol h)
theorem zqX {m m2:List Tb} {rows:List (List X)} (ho:SeesOut m rows m2) (h:(bif (0:Int) != 0 then true else (((List.map Tb.cells m2).length:Nat):Int) != (((List.map Tb.cells m).length:Nat):Int))=true):False:=by
 simp [ho.len] at h
theorem zrI {m m2:List Tb} {rows:List (List X)} (hs:SeesIn m) (hr:SeesRows rows) (ho:SeesOut m rows m2) (h:(bif bif (0:Int) != 0 then true else (((List.map Tb.cells m2).length:Nat):Int) != (((List.map Tb.cells m).length:Nat):Int) then true else (((List.map Rw.cells (hdT m2).rows).length:Nat):Int) != IntKind.i64.wrap ((((List.map Rw.cells (hdT m).rows).length:Nat):Int)+((rows.length:Nat):Int)))=true):False:=by
 have h1:=hs.rl
 have h2:=hr.hi
 rw [ho.hd] at h
 have e:IntKind.i64.wrap ((((List.map Rw.cells (hdT m).rows).length:Nat):Int)+((rows.length:Nat):Int))=(((hdT m).rows.length:Nat):Int)+((rows.length:Nat):Int):=by rw [IntKind.wrap_i64,List.length_map];omega
 rw [e] at h
 simp [ho.len,zdL] at h
theorem el_se (m m2:List Tb) (rows:List (List X)) (ho:SeesOut m rows m2) (i:Nat) (x:Int) (hx:(zdm m rows)[i]?=some x):ElAt (seE m m2) ((i:Nat):Int) [iv x,.sl [(vCnt (hdT m).rows.length).cells,vNul.cells]] 2:=by
 refine ⟨by omega,?_,rfl⟩
 rw [zri ho,Int.toNat_natCast,List.getElem?_map]
 unfold zdm at hx
 rw [List.getElem?_map] at hx
 cases hr:(insN (hdT m).next (newR m rows))[i]? with
 | none=>rw [hr] at hx;simp at hx
 | some r =>
  rw [hr] at hx
  simp only [Option.map_some,Option.some.injEq] at hx
  have h1:=zol (List.mem_of_getElem? hr)
  have h2:=(List.mem_replicate.1 h1).2
  cases r with
  | mk id vals=>simp only at hx h2;subst hx;subst h2;rfl
theorem zha (m:List Tb) (rows:List (List X)) (hr:SeesRows rows) (h:SeesIn m):∃ (m2:List Tb),(SeesOut m rows m2∧(hdT m).rows.length≤(hdT m2).rows.length)∧zaa E0 S.statement_Run [tsl m,.sl ([zbg].map Tg.cells),.sl [],(zal sLog rows).av,.sl [],.sl [],.sl []] [] (.tup [tsl m2,.sl [],.sl [],iv (rows.length:Nat),iv 0]) []:=by
 obtain ⟨t,r,rfl,h1,h2,h3⟩:=h.ex
 have h4:=zgO t r rows.length h1 h2 h3 ⟨hr.lo,hr.hi⟩
 rw [← hr.rep] at h4
 exact ⟨_,⟨⟨by simp,rfl⟩,by simp [hdT,insT]⟩,h4⟩
end Go.AM
namespace Go.AM
set_option maxRecDepth 100000
set_option maxHeartbeats 4000000
set_option linter.unusedSimpArgs false
set_option linter.unusedVariables false
theorem zmB  :∃ (r:Bool),r=true∧zaa E0 S.law21_known [] [] (bv r) []:=by
 exact ⟨bif bif bif bif bif (0:Int)==(0:Int) then (1:Int)==(1:Int) else false then (↑[[sv tbK2.sch.name,AV.sl [[sv (ByteArray.mk #[(110:UInt8)]),iv (1:Int),bv false,bv false],[sv (ByteArray.mk #[(115:UInt8)]),iv (3:Int),bv false,bv false]],iv tbK2.next,AV.sl [[iv (1:Int),AV.sl [[iv zaP.kind,iv zaP.int,sv zaP.text],[iv vNul.kind,iv vNul.int,sv vNul.text]]]]]].length:Int)==(1:Int) else false then (↑[[iv (1:Int),AV.sl [[iv zaP.kind,iv zaP.int,sv zaP.text],[iv vNul.kind,iv vNul.int,sv vNul.text]]]].length:Int)==(1:Int) else false then zaP.kind==(zdQ (5:Int)).kind&&(zaP.int==(zdQ (5:Int)).int&&(zaP.text==(zdQ (5:Int)).text&&true)) else false then tbK2.next==(2:Int) else false,(by rfl),(by (try simp only [X.av,Qy.av,V.av,Tb.av,Sch.av,Pl.av,xsl,fsl,vsl,tsl,List.map_append,List.map_cons,List.map_nil,V.cells,Col.cells,Rw.cells,Tb.cells,Fr.cells,Sch.cells,Pl.cells,zbN,zbz,zbR,zbA,zbQ,X.cells,Qy.cells,X.args_mk,X.sub_mk,Qy.items_mk,Qy.wh_mk,xCol,xLit,xBin,xNeg,Ac.cells,Se.cells,Pr.cells,Ch.cells,Rw.cells]);exact wk At.law21_known [sc ziq,sc (zkj 5),sc (zeJ (V.mk 0 0 (ByteArray.mk #[]))),sc zgx,sd [(3,[sg (rfl:true=true)]),(4,[sg (rfl:true=true)]),(7,[sg (rfl:true=true)]),(8,[sg (rfl:true=true)]),(9,[sg (rfl:true=true)]),(12,[sg (rfl:true=true)]),(13,[so (rfl:true=true) (se (xs:=[[sv tbK2.sch.name,AV.sl [[sv (ByteArray.mk #[110]),iv 1,bv false,bv false],[sv (ByteArray.mk #[115]),iv 3,bv false,bv false]],iv tbK2.next,AV.sl [[iv 1,AV.sl [[iv zaP.kind,iv zaP.int,sv zaP.text],[iv vNul.kind,iv vNul.int,sv vNul.text]]]]]]) (i:=0) (c:=[sv tbK2.sch.name,AV.sl [[sv (ByteArray.mk #[110]),iv 1,bv false,bv false],[sv (ByteArray.mk #[115]),iv 3,bv false,bv false]],iv tbK2.next,AV.sl [[iv 1,AV.sl [[iv zaP.kind,iv zaP.int,sv zaP.text],[iv vNul.kind,iv vNul.int,sv vNul.text]]]]]) (n:=4) ⟨by decide,rfl,rfl⟩)]),(14,[sg (rfl:true=true)]),(15,[sg (rfl:true=true)]),(16,[sg (rfl:true=true)]),(17,[sg (rfl:true=true)]),(20,[sg (rfl:true=true)]),(21,[so (rfl:true=true) (se (xs:=[[sv tbK2.sch.name,AV.sl [[sv (ByteArray.mk #[110]),iv 1,bv false,bv false],[sv (ByteArray.mk #[115]),iv 3,bv false,bv false]],iv tbK2.next,AV.sl [[iv 1,AV.sl [[iv zaP.kind,iv zaP.int,sv zaP.text],[iv vNul.kind,iv vNul.int,sv vNul.text]]]]]]) (i:=0) (c:=[sv tbK2.sch.name,AV.sl [[sv (ByteArray.mk #[110]),iv 1,bv false,bv false],[sv (ByteArray.mk #[115]),iv 3,bv false,bv false]],iv tbK2.next,AV.sl [[iv 1,AV.sl [[iv zaP.kind,iv zaP.int,sv zaP.text],[iv vNul.kind,iv vNul.int,sv vNul.text]]]]]) (n:=4) ⟨by decide,rfl,rfl⟩)]),(22,[sg (rfl:true=true)]),(23,[sg (rfl:true=true)]),(24,[so (rfl:true=true) (se (xs:=[[iv 1,AV.sl [[iv zaP.kind,iv zaP.int,sv zaP.text],[iv vNul.kind,iv vNul.int,sv vNul.text]]]]) (i:=0) (c:=[iv 1,AV.sl [[iv zaP.kind,iv zaP.int,sv zaP.text],[iv vNul.kind,iv vNul.int,sv vNul.text]]]) (n:=2) ⟨by decide,rfl,rfl⟩)]),(25,[sg (rfl:true=true)]),(26,[sg (rfl:true=true)]),(27,[so (rfl:true=true) (se (xs:=[[iv zaP.kind,iv zaP.int,sv zaP.text],[iv vNul.kind,iv vNul.int,sv vNul.text]]) (i:=0) (c:=[iv zaP.kind,iv zaP.int,sv zaP.text]) (n:=3) ⟨by decide,rfl,rfl⟩)]),(28,[sg (rfl:true=true)]),(29,[so (rfl:true=true) (sc (zib 5))]),(30,[so (rfl:true=true) (sq zbh)]),(33,[sg (rfl:true=true)]),(34,[so (rfl:true=true) (se (xs:=[[sv tbK2.sch.name,AV.sl [[sv (ByteArray.mk #[110]),iv 1,bv false,bv false],[sv (ByteArray.mk #[115]),iv 3,bv false,bv false]],iv tbK2.next,AV.sl [[iv 1,AV.sl [[iv zaP.kind,iv zaP.int,sv zaP.text],[iv vNul.kind,iv vNul.int,sv vNul.text]]]]]]) (i:=0) (c:=[sv tbK2.sch.name,AV.sl [[sv (ByteArray.mk #[110]),iv 1,bv false,bv false],[sv (ByteArray.mk #[115]),iv 3,bv false,bv false]],iv tbK2.next,AV.sl [[iv 1,AV.sl [[iv zaP.kind,iv zaP.int,sv zaP.text],[iv vNul.kind,iv vNul.int,sv vNul.text]]]]]) (n:=4) ⟨by decide,rfl,rfl⟩)]),(35,[sg (rfl:true=true)]),(36,[sg (rfl:true=true)]),(37,[sg (rfl:true=true)])]] kr)⟩
theorem zmy:zaa E0 S.law21_known [] [] (bv true) []:=by
 obtain ⟨r,rfl,h⟩:=zmB
 exact h
end Go.AM
namespace Go.AM
set_option maxRecDepth 100000
set_option maxHeartbeats 4000000
set_option linter.unusedSimpArgs false
set_option linter.unusedVariables false
theorem zcu {p:Prop} (h:p:=by first|assumption|rfl|trivial|exact And.left (by assumption)|exact SeesOut.pos (And.left (by assumption))|exact SeesIn.pos (by assumption)|omega):p:=h
theorem znb {p:Prop} (h:p:=by first|rfl|exact (zqX (And.left (by assumption)) (by assumption)).elim|exact (zrI (by assumption) (by assumption) (And.left (by assumption)) (by assumption)).elim):p:=h
abbrev seX:List AV:=[iv 9,iv 0,.bl false,iv 0,iv 0,sv ⟨#[]⟩,sv ⟨#[]⟩,sv ⟨#[]⟩,.nl,.sl [[bv false,.sl [],sv sLog,.sl []]]]
abbrev seT:List AV:=[sv ⟨#[97]⟩,sv sLog,.bl true,iv 1,.nl,.bl true,.nl,.nl,.nl,.nl,.sl [[iv 5,sv ⟨#[]⟩,.sl [],.sl [],.sl [[sv sNn,iv 9,iv 0,bv false,iv 0,iv 0,sv ⟨#[]⟩,sv ⟨#[]⟩,sv ⟨#[]⟩,.sl [],.sl [[bv false,.sl [],sv sLog,.sl []]]]],.sl [],sv ⟨#[]⟩]]]
abbrev seA (r:AV):List AV:=[iv 1,sv sLog,r,.nl,.nl,.nl,sv ⟨#[]⟩]
noncomputable def zm3 (m:List Tb) (v:Int) (md:Nat) (u:Tp) (i:Nat) (rows:List (List X)):Cfg:=zan B.law21_StatementSees 0 [(1,iv v),(6,tsl m),(7,iv 0),(9,.p 2 0),(10,.p 3 0),(11,iv (i:Nat))] [.box u.cells,.box seX,.box seT,.box (seA (.own 4 rows.length)),.row Ty.LExpr (rows.map zat) false]
theorem c_seL (m:List Tb) (v:Int) (md:Nat) (u:Tp) (hmd:md < 5) (hM:zaa E0 S.world_Mod [iv v,iv 5] [] (iv (md:Nat)) []) (i:Nat) (rows:List (List X)) (hi:i≤((md+1))) (hI:rows=List.replicate i [xLit vNul,xLit vNul]):∃ (rows':List (List X)),(rows'=List.replicate ((md+1)) [xLit vNul,xLit vNul])∧(decide (((((md+1)):Nat):Int) < ((((md+1)):Nat):Int))=false)∧∀ R,Good E0 B.law21_StatementSees [] (zm3 m v md u ((md+1)) rows') R→Good E0 B.law21_StatementSees [] (zm3 m v md u i rows) R:=by
 obtain ⟨kk,hk⟩:∃ kk,i+kk=((md+1)):=⟨((md+1)) - i,by omega⟩
 induction kk generalizing i rows with
 | zero =>
  have e0:i=((md+1)):=by omega
  subst e0
  exact ⟨rows,hI,by simp,fun R hg=>hg⟩
 | succ kk ih =>
  have h0:decide (((i:Nat):Int) < ((((md+1)):Nat):Int))=true:=by simp;omega
  have hw:IntKind.i64.wrap (((i:Nat):Int)+1)=((i+1:Nat):Int):=zak i (by first|omega|(simp only [zad,Few] at *;omega))
  have hle:decide (((i:Nat):Int)≤((md:Nat):Int))=true:=by rw [decide_eq_true_iff];omega
  have hrl:rows.length≤10:=by rw [hI,List.length_replicate];omega
  obtain ⟨rowsZ,qZ,xZ,gZ⟩:=ih (i+1) (rows++[[xLit (V.mk 0 0 (ByteArray.mk #[])),xLit (V.mk 0 0 (ByteArray.mk #[]))]]) (by omega) (by (rw [hI,List.replicate_succ'];rfl)) (by omega);exact ⟨rowsZ,qZ,xZ,fun R hg=>zab (wkl [sc hM,sb hle,sd [(3,[sc (zeJ (V.mk 0 0 (ByteArray.mk #[])))]),(5,[sc (zeJ (V.mk 0 0 (ByteArray.mk #[])))]),(8,[sqx (AllLen [[AV.sl [[iv (xLit (V.mk 0 0 (ByteArray.mk #[]))).kind,iv (xLit (V.mk 0 0 (ByteArray.mk #[]))).op,bv (xLit (V.mk 0 0 (ByteArray.mk #[]))).not,iv (xLit (V.mk 0 0 (ByteArray.mk #[]))).val.kind,iv (xLit (V.mk 0 0 (ByteArray.mk #[]))).val.int,sv (xLit (V.mk 0 0 (ByteArray.mk #[]))).val.text,sv (xLit (V.mk 0 0 (ByteArray.mk #[]))).table,sv (xLit (V.mk 0 0 (ByteArray.mk #[]))).name,AV.sl (zac []),AV.sl (zaf [])],[iv (xLit (V.mk 0 0 (ByteArray.mk #[]))).kind,iv (xLit (V.mk 0 0 (ByteArray.mk #[]))).op,bv (xLit (V.mk 0 0 (ByteArray.mk #[]))).not,iv (xLit (V.mk 0 0 (ByteArray.mk #[]))).val.kind,iv (xLit (V.mk 0 0 (ByteArray.mk #[]))).val.int,sv (xLit (V.mk 0 0 (ByteArray.mk #[]))).val.text,sv (xLit (V.mk 0 0 (ByteArray.mk #[]))).table,sv (xLit (V.mk 0 0 (ByteArray.mk #[]))).name,AV.sl (zac []),AV.sl (zaf [])]]]] 1∧rows.length=(List.map zat rows).length∧(((List.map zat rows).length+[[AV.sl [[iv (xLit (V.mk 0 0 (ByteArray.mk #[]))).kind,iv (xLit (V.mk 0 0 (ByteArray.mk #[]))).op,bv (xLit (V.mk 0 0 (ByteArray.mk #[]))).not,iv (xLit (V.mk 0 0 (ByteArray.mk #[]))).val.kind,iv (xLit (V.mk 0 0 (ByteArray.mk #[]))).val.int,sv (xLit (V.mk 0 0 (ByteArray.mk #[]))).val.text,sv (xLit (V.mk 0 0 (ByteArray.mk #[]))).table,sv (xLit (V.mk 0 0 (ByteArray.mk #[]))).name,AV.sl (zac []),AV.sl (zaf [])],[iv (xLit (V.mk 0 0 (ByteArray.mk #[]))).kind,iv (xLit (V.mk 0 0 (ByteArray.mk #[]))).op,bv (xLit (V.mk 0 0 (ByteArray.mk #[]))).not,iv (xLit (V.mk 0 0 (ByteArray.mk #[]))).val.kind,iv (xLit (V.mk 0 0 (ByteArray.mk #[]))).val.int,sv (xLit (V.mk 0 0 (ByteArray.mk #[]))).val.text,sv (xLit (V.mk 0 0 (ByteArray.mk #[]))).table,sv (xLit (V.mk 0 0 (ByteArray.mk #[]))).name,AV.sl (zac []),AV.sl (zaf [])]]]].length) * 24).le 140737488355328)])],si hw] [1,6,7,9,10,11] 5 kr (zar rfl (show ([Blk.box [AV.sl (List.map (fun n=>[iv n]) u.l),iv (u.pos:Int)],Blk.box [iv 9,iv 0,AV.bl false,iv 0,iv 0,sv (ByteArray.mk #[]),sv (ByteArray.mk #[]),sv (ByteArray.mk #[]),AV.nl,AV.sl [[bv false,AV.sl [],sv sLog,AV.sl []]]],Blk.box [sv (ByteArray.mk #[97]),sv sLog,AV.bl true,iv 1,AV.nl,AV.bl true,AV.nl,AV.nl,AV.nl,AV.nl,AV.sl [[iv 5,sv (ByteArray.mk #[]),AV.sl [],AV.sl [],AV.sl [[sv sNn,iv 9,iv 0,bv false,iv 0,iv 0,sv (ByteArray.mk #[]),sv (ByteArray.mk #[]),sv (ByteArray.mk #[]),AV.sl [],AV.sl [[bv false,AV.sl [],sv sLog,AV.sl []]]]],AV.sl [],sv (ByteArray.mk #[])]]],Blk.box [iv 1,sv sLog,AV.own 4 (List.map zat rows++[[AV.sl [[iv (xLit (V.mk 0 0 (ByteArray.mk #[]))).kind,iv (xLit (V.mk 0 0 (ByteArray.mk #[]))).op,bv (xLit (V.mk 0 0 (ByteArray.mk #[]))).not,iv (xLit (V.mk 0 0 (ByteArray.mk #[]))).val.kind,iv (xLit (V.mk 0 0 (ByteArray.mk #[]))).val.int,sv (xLit (V.mk 0 0 (ByteArray.mk #[]))).val.text,sv (xLit (V.mk 0 0 (ByteArray.mk #[]))).table,sv (xLit (V.mk 0 0 (ByteArray.mk #[]))).name,AV.sl (zac []),AV.sl (zaf [])],[iv (xLit (V.mk 0 0 (ByteArray.mk #[]))).kind,iv (xLit (V.mk 0 0 (ByteArray.mk #[]))).op,bv (xLit (V.mk 0 0 (ByteArray.mk #[]))).not,iv (xLit (V.mk 0 0 (ByteArray.mk #[]))).val.kind,iv (xLit (V.mk 0 0 (ByteArray.mk #[]))).val.int,sv (xLit (V.mk 0 0 (ByteArray.mk #[]))).val.text,sv (xLit (V.mk 0 0 (ByteArray.mk #[]))).table,sv (xLit (V.mk 0 0 (ByteArray.mk #[]))).name,AV.sl (zac []),AV.sl (zaf [])]]]]).length,AV.nl,AV.nl,AV.nl,sv (ByteArray.mk #[])],Blk.row Ty.LExpr (List.map zat rows++[[AV.sl [[iv (xLit (V.mk 0 0 (ByteArray.mk #[]))).kind,iv (xLit (V.mk 0 0 (ByteArray.mk #[]))).op,bv (xLit (V.mk 0 0 (ByteArray.mk #[]))).not,iv (xLit (V.mk 0 0 (ByteArray.mk #[]))).val.kind,iv (xLit (V.mk 0 0 (ByteArray.mk #[]))).val.int,sv (xLit (V.mk 0 0 (ByteArray.mk #[]))).val.text,sv (xLit (V.mk 0 0 (ByteArray.mk #[]))).table,sv (xLit (V.mk 0 0 (ByteArray.mk #[]))).name,AV.sl (zac []),AV.sl (zaf [])],[iv (xLit (V.mk 0 0 (ByteArray.mk #[]))).kind,iv (xLit (V.mk 0 0 (ByteArray.mk #[]))).op,bv (xLit (V.mk 0 0 (ByteArray.mk #[]))).not,iv (xLit (V.mk 0 0 (ByteArray.mk #[]))).val.kind,iv (xLit (V.mk 0 0 (ByteArray.mk #[]))).val.int,sv (xLit (V.mk 0 0 (ByteArray.mk #[]))).val.text,sv (xLit (V.mk 0 0 (ByteArray.mk #[]))).table,sv (xLit (V.mk 0 0 (ByteArray.mk #[]))).name,AV.sl (zac []),AV.sl (zaf [])]]]]) false]:Heap)=_ by first|rfl|(simp;done)|(simp [X.cells,Qy.cells,V.cells,Col.cells,Rw.cells,Tb.cells,Fr.cells,Sch.cells,Tp.cells,Pl.cells,xCol,xLit,xBin,xNeg,Ac.cells,Se.cells,Pr.cells,Ch.cells,Rw.cells];done)) (gZ R hg)))⟩
theorem zd0 (m:List Tb) (v:Int) (md:Nat) (u:Tp) (hmd:md < 5) (hM:zaa E0 S.world_Mod [iv v,iv 5] [] (iv (md:Nat)) []):∃ (rows:List (List X)),SeesRows rows ∧
  (decide (((md+1:Nat):Int)≤((md:Nat):Int))=false)∧∀ R,Good E0 B.law21_StatementSees [] (zm3 m v md u (md+1) rows) R→Good E0 B.law21_StatementSees [] (zm3 m v md u 0 []) R:=by
 obtain ⟨rows,h1,h2,h3⟩:=c_seL m v md u hmd hM 0 [] (by omega) rfl
 have h4:rows.length=md+1:=by rw [h1,List.length_replicate]
 exact ⟨rows,⟨by rw [h4];exact h1,by omega,by omega⟩,by rw [decide_eq_false_iff_not];omega,h3⟩
noncomputable def L_seR (m m2:List Tb) (u:Tp) (rows:List (List X)) (i:Nat) :Cfg:=zan B.law21_StatementSees 1 [(6,tsl m),(7,iv 0),(101,.sl (seE m m2)),(102,iv ((seE m m2).length:Nat)),(103,iv (i:Nat))] [.box u.cells,.box seX,.box seT,.box (seA (.own 4 rows.length)),.row Ty.LExpr (rows.map zat) true]
theorem zdY (m m2:List Tb) (u:Tp) (rows:List (List X)) (hs:SeesIn m) (hr:SeesRows rows) (ho:SeesOut m rows m2) (i:Nat)  (hi:i≤((zdm m rows)).length) (hI:True):(True)∧(decide (((((zdm m rows)).length:Nat):Int) < ((((seE m m2)).length:Nat):Int))=false)∧∀ R,Good E0 B.law21_StatementSees [] (L_seR m m2 u rows ((zdm m rows)).length ) R→Good E0 B.law21_StatementSees [] (L_seR m m2 u rows i ) R:=by
 obtain ⟨kk,hk⟩:∃ kk,i+kk=((zdm m rows)).length:=⟨((zdm m rows)).length - i,by omega⟩
 induction kk generalizing i  hI with
 | zero =>
  have e0:i=((zdm m rows)).length:=by omega
  subst e0
  exact ⟨hI,by (rw [decide_eq_false_iff_not,zpw ho];omega),fun R hg=>hg⟩
 | succ kk ih =>
  obtain ⟨x,hx⟩:=zaz (l:=(zdm m rows)) (i:=i) (by omega)
  have h0:decide (((i:Nat):Int) < ((((seE m m2)).length:Nat):Int))=true:=by (rw [decide_eq_true_iff,zpw ho];omega)
  have hw:IntKind.i64.wrap (((i:Nat):Int)+1)=((i+1:Nat):Int):=zak i (by (rw [zrx] at hi;have:=hr.hi;omega))
  have he:=el_se m m2 rows ho i x hx
  cases h1:bif (↑[[iv (vCnt (hdT m).rows.length).kind,iv (vCnt (hdT m).rows.length).int,sv (vCnt (hdT m).rows.length).text],[iv vNul.kind,iv vNul.int,sv vNul.text]].length:Int) != 2 then true else !((vCnt (hdT m).rows.length).kind==(zdQ (↑(List.map Rw.cells (hdT m).rows).length:Int)).kind&&((vCnt (hdT m).rows.length).int==(zdQ (↑(List.map Rw.cells (hdT m).rows).length:Int)).int&&((vCnt (hdT m).rows.length).text==(zdQ (↑(List.map Rw.cells (hdT m).rows).length:Int)).text&&true)))
  ·obtain ⟨qZ,xZ,gZ⟩:=ih (i+1) (by omega) (by first|trivial|assumption|(simp;done)|omega|(simp;omega)|(simp at *;omega)) (by omega);exact ⟨qZ,xZ,fun R hg=>zab (wkl [sb h0,se he,sd [(5,[sg (rfl:false=false)]),(6,[sg (rfl:false=false)]),(7,[so (rfl:false=false) (se (xs:=[[iv (vCnt (hdT m).rows.length).kind,iv (vCnt (hdT m).rows.length).int,sv (vCnt (hdT m).rows.length).text],[iv vNul.kind,iv vNul.int,sv vNul.text]]) (i:=0) (c:=[iv (vCnt (hdT m).rows.length).kind,iv (vCnt (hdT m).rows.length).int,sv (vCnt (hdT m).rows.length).text]) (n:=3) ⟨by decide,rfl,rfl⟩)]),(8,[sg (rfl:false=false)]),(9,[sg (rfl:false=false)]),(10,[sg (rfl:false=false)]),(11,[so (rfl:false=false) (se (zjq m (by first|assumption|rfl|omega|exact hs.pos)))]),(12,[sg (rfl:false=false)]),(13,[sg (rfl:false=false)]),(14,[sg (rfl:false=false)]),(15,[so (rfl:false=false) (sc (zib ((↑(List.map Rw.cells (hdT m).rows).length:Int))))]),(16,[so (rfl:false=false) (sq zbh)])],sb h1,si hw] [6,7,101,102,103] 5 kr (gZ R hg))⟩
  ·exact False.elim (by (simp [zdQ] at h1))
theorem zhi (l:List Int) (v:Int) (md:Nat) (hmd:md < 5) (hM:zaa E0 S.world_Mod [iv v,iv 5] [] (iv (md:Nat)) []) (hkn:zaa E0 S.law21_known [] [] (bv true) []):∃ (r:Bool),r=true∧zaa E0 S.law21_StatementSees [isl l,iv v] [] (bv r) []:=by
 obtain ⟨t1,c1⟩:=(zox l)
 obtain ⟨m2,t2,q2,c2⟩:=(zfH t1 5 zcu)
 obtain ⟨rows3,q3,q3_1,g3⟩:=zd0 m2 v md t2 hmd zcu
 obtain ⟨m24,q4,c4⟩:=(zha m2 rows3 zcu zcu)
 let p_1:List St:=[sc c1,sl [0] c2,sc (zjP m2 zcu)]
 let p_2:List St:=[sc hM,sb q3_1,skx (True∧True∧True∧(True∧True∧rows3.length=(List.map zat rows3).length∧True∧True∧True∧True∧True)∧True∧True∧True∧True) [] c4]
 cases h5:bif 0 != 0 then true else (↑(List.map Tb.cells m24).length:Int) != (↑(List.map Tb.cells m2).length:Int)
 ·let p_3:List St:=p_2++[sd [(3,[sg (rfl:false=false)]),(4,[sg (rfl:false=false)]),(5,[sg (rfl:false=false)]),(6,[sg (rfl:false=false)]),(7,[sg (rfl:false=false)]),(10,[sg h5]),(11,[sg h5]),(12,[so h5 (se (zjq m24 zcu))]),(13,[sg h5]),(14,[sg h5]),(15,[sg h5]),(16,[sg h5]),(17,[sg h5]),(18,[so h5 (se (zjq m2 zcu))]),(19,[sg h5]),(20,[sg h5]),(21,[sg h5]),(22,[sg h5]),(23,[sg h5]),(24,[so h5 (sqx (rows3.length=(List.map zat rows3).length))]),(25,[so h5 (si (e:=IntKind.i64.wrap ((↑(List.map Rw.cells (hdT m2).rows).length:Int)+(rows3.length:Int))) rfl)]),(26,[sg h5])]]
  cases h6:bif bif 0 != 0 then true else (↑(List.map Tb.cells m24).length:Int) != (↑(List.map Tb.cells m2).length:Int) then true else (↑(List.map Rw.cells (hdT m24).rows).length:Int) != IntKind.i64.wrap ((↑(List.map Rw.cells (hdT m2).rows).length:Int)+(rows3.length:Int))
  ·obtain ⟨q7,q7_1,g7⟩:=zdY m2 m24 t2 rows3 zcu zcu zcu 0 zcu zcu
   exact ⟨true,znb,wkcN At.law21_StatementSees p_1 [1,6,7,9,10,11] 4 [(.ob 3 2 Ty.LExpr,5)] kr (g3 _ (zab (wkl (p_3++[sb h6,sd [(2,[se (zjq m24 zcu)]),(7,[se (zjq m2 zcu)]),(11,[sqx (SubAt (List.map Rw.cells (hdT m24).rows) (↑(List.map Rw.cells (hdT m2).rows).length:Int) (↑(List.map Rw.cells (hdT m24).rows).length:Int) 2)])]]) [6,7,101,102,103] 5 kr (g7 _ (zab (wkr [sb q7_1,sc hkn] kr))))))⟩
  ·exact ⟨false,znb,wkcN At.law21_StatementSees p_1 [1,6,7,9,10,11] 4 [(.ob 3 2 Ty.LExpr,5)] kr (g3 _ (zab (wkr (p_3++[sb h6]) kr)))⟩
 ·exact ⟨false,znb,wkcN At.law21_StatementSees p_1 [1,6,7,9,10,11] 4 [(.ob 3 2 Ty.LExpr,5)] kr (g3 _ (zab (wkr (p_2++[sd [(3,[sg (rfl:false=false)]),(4,[sg (rfl:false=false)]),(5,[sg (rfl:false=false)]),(6,[sg (rfl:false=false)]),(7,[sg (rfl:false=false)]),(10,[sb h5]),(11,[sb h5]),(12,[sb h5]),(13,[sb h5]),(14,[sb h5]),(15,[sb h5]),(16,[sb h5]),(17,[sb h5]),(18,[sb h5]),(19,[sb h5]),(20,[sb h5]),(21,[sb h5]),(22,[sb h5]),(23,[sb h5]),(24,[sb h5]),(25,[sb h5]),(26,[sb h5]),(27,[sb h5])]]) kr)))⟩
end Go.AM
namespace Go.AM
theorem zpB (l:List Int) (v:Int):zaa E0 S.law21_StatementSees [isl l,iv v] [] (bv true) []:=by
 have h:=zhs v 5 (by decide) (by decide)
 have k:=zjX v 5 (by decide)
 obtain ⟨m,hm⟩:=Int.eq_ofNat_of_zero_le h.1
 rw [hm] at k h
 obtain ⟨r,rfl,hc⟩:=zhi l v m (by omega) k zmy
 exact hc
end Go.AM
namespace Go.AM
open Go.RowKit
set_option linter.unusedSimpArgs false
set_option linter.unusedVariables false
abbrev old (W:World):Addr→Prop:=fun a=>a.block < W.heap.size
theorem zpn {W:World} {a:Addr} {v:Value} (h:W.cell? a=some v):a.block < W.heap.size:=by
 unfold World.cell? at h
 cases hb:W.heap[a.block]? with
 | none=>rw [hb] at h;cases h
 | some o=>exact (Array.getElem?_eq_some_iff.1 hb).1
theorem relD_strs {W:World} {g:Nat} (l:List Str) (h:∀ (j:Nat) (s:Str),l[j]?=some s→W.cell? ⟨g,j,none⟩=some (.string s)):RelD W (old W) (.dp (l.map sv)) (.pointer (some ⟨g,0,none⟩)):=by
 refine .dp _ g 0 (fun j=>.string (l.getD j ⟨#[]⟩)) (fun j x hx=>?_) (fun j x hx=>?_)
 ·simp only [List.getElem?_map,Option.map_eq_some_iff] at hx
  obtain ⟨s,hs,rfl⟩:=hx
  have hc:=h j s hs
  rw [Nat.zero_add]
  refine ⟨zpn hc,?_,rfl⟩
  rw [hc,List.getD_eq_getElem?_getD,hs];rfl
 ·simp only [List.getElem?_map,Option.map_eq_some_iff] at hx
  obtain ⟨s,hs,rfl⟩:=hx
  have:l.getD j ⟨#[]⟩=s:=by rw [List.getD_eq_getElem?_getD,hs];rfl
  simp only [this]
  exact .v _ rfl
theorem zsg {s:ByteArray} {l:List UInt8} (h:s.data.toList=l):s=zd5 l:=by
 cases s with
 | mk d=>simp only [zd5];congr;rw [← h]
theorem laid_strs {P:Program} {W:World} {n:String} {g:Nat} {t e:TypeId} {k:Nat} {l:List (List UInt8)} (hr:Lib.VarReads P W n (.agg (l.map fun b=>.lit (.string b)))) (hg:P.globalNamed n=some g) (hty:(P.globals[g]?).map (·.type)=some t)
  (ht:P.underlying t=some (.array k e)) (he:P.underlying e=some .string) (hc:P.cellsOf e=1) (hk:l.length=k):∀ (j:Nat) (s:Str),(l.map zd5)[j]?=some s→W.cell? ⟨g,j,none⟩=some (.string s):=by
 intro j s hs
 obtain ⟨g',t',cs,fuel,p,h1,h2,h3,h4⟩:=hr
 obtain rfl:g'=g:=Option.some.inj (h1.symm.trans hg)
 obtain rfl:t'=t:=Option.some.inj (h2.symm.trans hty)
 simp only [List.getElem?_map,Option.map_eq_some_iff] at hs
 obtain ⟨b,hb,rfl⟩:=hs
 have hj:=zd6 hb
 obtain ⟨f',d,q,hd,hq⟩:=Lib.array_elem ht h4 j (by omega)
 simp only [List.getElem?_map,hb,Option.map_some,Option.some.injEq] at hd
 subst hd
 obtain ⟨s,e1,e2,_⟩:=DataW.trod_string he hq
 rw [World.var?_cell h1 h3]
 rw [hc,Nat.mul_one] at e1
 have e3:cs.toList[j]?=some (.string s):=by
  have:=congrArg (·[0]?) e1
  simpa [List.getElem?_take,List.getElem?_drop] using this
 have e4:s=zd5 b:=zsg (by simp only [Prod.mk.injEq,DataW.lit.injEq,Lit.string.injEq] at e2;exact e2.1.symm)
 rw [← e4]
 simpa using e3
theorem relV_ints {W:World} {a:Addr} {len cap:Nat} {zs:List Int} (h1:len≤cap) (h2:cap≤maxLen) (h3:zs.length=cap) (hc:∀ i,i < zs.length→W.cell? (a.add i)=some (.int .i64 (zs.getD i 0))) :
  RelV E0.T [] [] W (old W) (isl (zs.take len)) (.slice (some a) len cap):=by
 have hlen:((zs.take len).map fun n=>[iv n]).length=len:=by simp;omega
 have key:=RelD.sl (w:=W) (S:=old W) ((zs.take len).map fun n=>[iv n]) (some a) cap a.block a.off 1 (fun k=>.int .i64 (zs.getD k 0)) ?_ (by rw [hlen];exact h1) h2 (fun i c hi=>?_) (fun i j c x hi hj=>?_) (fun i j c x hi hj=>?_)
 ·rw [hlen] at key
  exact .d _ _ key
 ·intro hne
  have hz:0 < zs.length:=by
   rcases Nat.eq_zero_or_pos zs.length with h|h
   ·exact absurd (by simp [List.eq_nil_of_length_eq_zero h]) hne
   ·exact h
  have h0:=hc 0 hz
  have:a.spot=none:=by
   simp only [Addr.add,if_pos] at h0
   unfold World.cell? at h0
   split at h0
   ·cases hs:a.spot with
    | none=>rfl
    | some x=>rw [hs] at h0;simp at h0
   ·cases h0
  cases a
  simp only at this
  subst this
  rfl
 ·simp only [List.getElem?_map,Option.map_eq_some_iff] at hi
  obtain ⟨n,_,rfl⟩:=hi
  rfl
 ·simp only [List.getElem?_map,Option.map_eq_some_iff] at hi
  obtain ⟨n,hn,rfl⟩:=hi
  have hi2:=zd6 hn
  simp only [List.length_take] at hi2
  have hj0:j=0:=by
   cases j with
   | zero=>rfl
   | succ j=>simp at hj
  subst hj0
  have h0:=hc i (by omega)
  have e:a.add i=⟨a.block,a.off+(i * 1+0),none⟩:=by
   unfold Addr.add
   split
   ·rename_i hi0
    subst hi0
    have:a.spot=none:=by
     simp only [Addr.add,if_pos] at h0
     unfold World.cell? at h0
     split at h0
     ·cases hs:a.spot with
      | none=>rfl
      | some x=>rw [hs] at h0;simp at h0
     ·cases h0
    cases a
    simp only at this
    subst this
    rfl
   ·simp
  rw [e] at h0
  refine ⟨zpn h0,?_,rfl⟩
  rw [h0];simp
 ·simp only [List.getElem?_map,Option.map_eq_some_iff] at hi
  obtain ⟨n,hn,rfl⟩:=hi
  have hj0:j=0:=by
   cases j with
   | zero=>rfl
   | succ j=>simp at hj
  subst hj0
  simp only [List.getElem?_cons_zero,Option.some.injEq] at hj
  subst hj
  have:zs.getD (i * 1+0) 0=n:=by
   rw [List.getElem?_take] at hn
   split at hn
   ·simp only [Nat.mul_one,Nat.add_zero,List.getD_eq_getElem?_getD,hn];rfl
   ·cases hn
  simp only [this]
  exact .v _ rfl
theorem relV_nil {W:World}:RelV E0.T [] [] W (old W) (isl []) (.slice none 0 0) :=
 .d _ _ (RelD.sl [] none 0 0 0 1 (fun _=>.int .i64 0) (fun h=>absurd rfl h) (Nat.le_refl _) (by decide) (fun i c h=>by simp at h) (fun i j c x h=>by simp at h) (fun i j c x h=>by simp at h))
theorem oneCell_ok {P:Program} {w:World} {r:Reach} {b:Nat} {u:TypeId} {y:Value} (h:Cell.okWide P w r b u y):y.oneCell'=true:=by
 have h2:∀ y,Cell.ok P w r b u y→y.oneCell'=true:=by
  intro y h
  unfold Cell.ok at h
  split at h <;> first|rfl|exact h.elim
 unfold Cell.okWide at h
 split at h <;> first|rfl|exact h2 _ h
theorem calls_of {f:FuncId} {args:List AV} {b:Bool} (h:zaa E0 f args [] (bv b) []) (hgo:GoFn E0.P f) {W:World} {vs:List Value} (hglob:∀ g cs,globs g=some cs→RelD W (old W) (.dp cs) (.pointer (some ⟨g,0,none⟩))) (hargs:PW (RelV E0.T [] [] W (old W)) args vs) :
  Calls E0.P f vs.toArray W fun e W'=>e=.returned (.bool b)∧Below W.heap.size W W':=by
 have hrel:Rel E0 [] [] (old W) W:=⟨rfl,fun b cs hb=>by simp at hb,fun b e xs sh hb=>by simp at hb,fun b es hb=>by simp at hb,fun b b' k k' g hb=>by simp at hb,fun b k g hb=>by simp at hb,fun a ha=>ha,fun b k g a hb=>by simp at hb,hglob⟩
 obtain ⟨fn,hf1,hf2,hf3⟩:=hgo
 have hp:∀ e W',Post E0 [] [] (old W) W (fun r' h''=>r'=bv b∧h''=[]) e W'→e=.returned (.bool b)∧Below W.heap.size W W':=by
  rintro e W' ⟨r,h',β',S',y,rfl,⟨rfl,rfl⟩,_,ex,rv⟩
  refine ⟨?_,ex.os,ex.tape,ex.output,ex.size,fun k hk=>ex.keep k hk fun b' k' hb=>by simp at hb⟩
  rw [rv.v_inv]
 rcases h [] (old W) W vs hrel hargs with ⟨_,hc⟩|⟨y,w',hrun,_⟩
 ·exact hc.mono hp
 ·exfalso
  simp only [callFunc,Sem.run_bind,Sem.run_pure,Result.andThen_ok,run_program,hf1,hf2,hf3,Bool.false_eq_true,if_false] at hrun
  cases hrun
end Go.AM
