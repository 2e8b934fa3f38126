/-
  Contracts of the program's functions, part 5.
-/
import Derived.Test.YtjbihenhlanepaaGreatDoorFsE
import Derived.Shelf.Spec.SlicesGrow
set_option linter.unusedSimpArgs false
set_option linter.unusedVariables false
namespace Go.AM
set_option maxRecDepth 100000
set_option maxHeartbeats 400000
set_option linter.unusedSimpArgs false
set_option linter.unusedVariables false
theorem zfF {p:Prop} (h:p:=by first|assumption|omega|rfl|(simp;done)):p:=h
theorem zgc (t:Tb) (ins:List (List V)) (ht:TabV t) (hr:∀ r∈ins,zbU t.sch.cols r) (hlen:t.rows.length+ins.length≤100) (hnx:t.next+(ins.length:Int)≤2147483648) (hk:(zbc (idxF (fun c=>c.key) t.sch.cols 0) (t.rows++insN t.next ins)).Nodup):zaa E0 S.keys_Apply [t.av,insC ins] [] (.tup [(insT t ins).av,iv 0]) []:=by
 have hp:=ht.rows.pos
 have hsc:=ht.sch.short
 have hvi:∀ r∈ins,zac r:=fun r h=>by have h1:=(hr r h).len;simp only [zac] at *;omega
 have hV:zaa E0 S.keys_Valid [t.av,insC ins] [] (bv true) []:=by
  obtain ⟨r,rfl,h⟩:=zoK t ins (zgD t ht) (by simp only [zac];omega) fun v hv=>by have h9:v.length=t.sch.cols.length:=(hr v hv).len;simp [h9]
  exact h
 have hF:zaa E0 S.keys_fits [t.av,insC ins] [] (iv 0) []:=by
  obtain ⟨r,rfl,h⟩:=zpX t ins (by simp only [zac];omega) hsc (fun v hv=>znw ht.sch (hr v hv)) fun v hv=>zdu (hr v hv)
  exact h
 obtain ⟨x,e,⟨he,nx,hnx2,hx⟩,h⟩:=zox t ins hV hF ht.shr (by omega) (by omega) ht.vals hvi hsc ⟨hp,by omega⟩ (by simp [IntKind.wrap_i64];omega) (by simp [IntKind.wrap_i64];omega) fun nx rs hrs=>by
  rw [List.take_length] at hrs
  obtain ⟨b,hb,hc⟩:=zdV ⟨t.sch,nx,rs⟩ hsc (by simp only [hrs];exact zkc (by omega) (by rw [zfs];omega))
  have h1:b=false:=hb.2 (by simp only [hrs];exact hk)
  rw [h1] at hc;exact hc
 have e2:nx=t.next+(ins.length:Int):=by rw [hnx2,List.length_map,IntKind.wrap_i64];omega
 rw [he,hx,e2] at h;exact h
abbrev evR (f:X→V × Int) (rows:List (List X)):List (List V):=rows.map fun y=>y.map fun x=>(f x).1
abbrev zai (nm:Str) (rows:List (List X)):Ac:=⟨1,nm,rows,[],[],[],⟨#[]⟩⟩
noncomputable def L_niI (nm:Str) (rows:List (List X)) (s:Sch) (frs:List Fr) (tb:List Tb) (f:X→V × Int) (io:Nat) (y:List X) (out:List (List V)) (i:Nat) (row:List V):Cfg:=zal B.dml_inserted 1 [(2,fsl frs),(3,tsl tb),(4,.p 0 0),(5,.p 1 0),(10,.own 2 out.length),(13,.own 3 row.length),(23,.sl (rows.map zaE)),(24,iv ((rows.map zaE).length:Nat)),(25,iv (io:Nat)),(35,xsl y),(36,iv ((zad y).length:Nat)),(37,iv (i:Nat))] [.box (zai nm rows).cells,.box s.cells,.row Ty.LValue (out.map vrow) false,.row Ty.Value (row.map V.cells) false]
theorem zgS (nm:Str) (rows:List (List X)) (s:Sch) (frs:List Fr) (tb:List Tb) (f:X→V × Int) (io:Nat) (y:List X) (out:List (List V)) (hy:zac y) (hf:∀ x∈y,PEv f x frs tb) (hf0:∀ x∈y,((f x).2 != 0)=false) (i:Nat) (row:List V) (hi:i≤(y).length) (hI:row=(y.take i).map fun x=>(f x).1):∃ (row':List V),(row'=(y.take (y).length).map fun x=>(f x).1)∧(decide ((((y).length:Nat):Int) < (((zad y).length:Nat):Int))=false)∧∀ R,Good E0 B.dml_inserted [] (L_niI nm rows s frs tb f io y out (y).length row') R→Good E0 B.dml_inserted [] (L_niI nm rows s frs tb f io y out i row) R:=by
 obtain ⟨kk,hk⟩:∃ kk,i+kk=(y).length:=⟨(y).length - i,by omega⟩
 induction kk generalizing i row with
 | zero =>
  have e0:i=(y).length:=by omega
  subst e0
  exact ⟨row,hI,by simp,fun R hg=>hg⟩
 | succ kk ih =>
  obtain ⟨x,hx⟩:=zav (l:=y) (i:=i) (by omega)
  have h0:decide (((i:Nat):Int) < (((zad y).length:Nat):Int))=true:=by simp;omega
  have hw:IntKind.i64.wrap (((i:Nat):Int)+1)=((i+1:Nat):Int):=zak i (by first|omega|(simp only [zac,Few] at *;omega))
  have hx1:=hf x (List.mem_of_getElem? hx);have hx0:=hf0 x (List.mem_of_getElem? hx);have hrl:row.length≤1000000000:=by rw [hI];simp only [List.length_map,List.length_take,zac] at *;omega
  obtain ⟨rowZ,qZ,xZ,gZ⟩:=ih (i+1) (row++[(f x).fst]) (by omega) (by (rw [List.take_add_one,hx,List.map_append,← hI];rfl)) (by omega);exact ⟨rowZ,qZ,xZ,fun R hg=>zab (wkl [sb h0,se (zcC hx),sc hx1,sb hx0,sqx (AllLen [[iv (f x).fst.kind,iv (f x).fst.int,sv (f x).fst.text]] 3∧row.length=(List.map V.cells row).length∧(((List.map V.cells row).length+[[iv (f x).fst.kind,iv (f x).fst.int,sv (f x).fst.text]].length) * 32).le 140737488355328),si hw] [2,3,4,5,10,13,23,24,25,35,36,37] 4 kr (zan (show ([(2,AV.sl (List.map Fr.cells frs)),(3,AV.sl (List.map Tb.cells tb)),(4,AV.p 0 0),(5,AV.p 1 0),(10,AV.own 2 out.length),(13,AV.own 3 (List.map V.cells row++[[iv (f x).fst.kind,iv (f x).fst.int,sv (f x).fst.text]]).length),(23,AV.sl (List.map zaE rows)),(24,iv (↑(List.map zaE rows).length:Int)),(25,iv (io:Int)),(35,AV.sl (zad y)),(36,iv (↑(zad y).length:Int)),(37,iv (↑(i+1):Int))]:TS)=_ by first|rfl|(simp;done)|(simp [X.cells,Qy.cells,V.cells,Col.cells,Rw.cells,Tb.cells,Fr.cells,Sch.cells,Tp.cells,Pl.cells,xCol,xLit,xBin,xNeg,Ac.cells,Se.cells,Pr.cells,Ch.cells,Rw.cells];done)) (show ([Blk.box [iv (zai nm rows).kind,sv (zai nm rows).table,AV.sl (List.map (fun r=>[AV.sl (zad r)]) (zai nm rows).rows),AV.sl (zag []),AV.sl [],AV.sl (zad []),sv (zai nm rows).text],Blk.box [sv s.name,AV.sl (List.map Col.cells s.cols)],Blk.row Ty.LValue (List.map vrow out) false,Blk.row Ty.Value (List.map V.cells row++[[iv (f x).fst.kind,iv (f x).fst.int,sv (f x).fst.text]]) false]:Heap)=_ by first|rfl|(simp;done)|(simp [X.cells,Qy.cells,V.cells,Col.cells,Rw.cells,Tb.cells,Fr.cells,Sch.cells,Tp.cells,Pl.cells,xCol,xLit,xBin,xNeg,Ac.cells,Se.cells,Pr.cells,Ch.cells,Rw.cells];done)) (gZ R hg)))⟩
theorem zvv {f:X→V × Int} {rows:List (List X)} {i:Nat} {x:List X} {out:List (List V)} {row:List V} (hI:out=evR f (rows.take i)) (hx:rows[i]?=some x) (hq:row=(x.take x.length).map fun x=>(f x).1):out++[row]=evR f (rows.take (i+1)):=by
 rw [List.take_length] at hq
 rw [hI,hq];unfold evR
 rw [List.take_add_one,hx,List.map_append];rfl
noncomputable def L_niR (nm:Str) (rows:List (List X)) (s:Sch) (frs:List Fr) (tb:List Tb) (f:X→V × Int) (i:Nat) (out:List (List V)):Cfg:=zal B.dml_inserted 0 [(2,fsl frs),(3,tsl tb),(4,.p 0 0),(5,.p 1 0),(10,.own 2 out.length),(23,.sl (rows.map zaE)),(24,iv ((rows.map zaE).length:Nat)),(25,iv (i:Nat))] [.box (zai nm rows).cells,.box s.cells,.row Ty.LValue (out.map vrow) false]
theorem zg6 (nm:Str) (rows:List (List X)) (s:Sch) (frs:List Fr) (tb:List Tb) (f:X→V × Int) (hs:zac s.cols) (hr:zac rows) (hf:∀ r∈rows,zac r∧∀ x∈r,PEv f x frs tb) (hf0:∀ r∈rows,∀ x∈r,((f x).2 != 0)=false) (hfl:∀ r∈rows,(((zad r).length:Int) != ((s.cols.map Col.cells).length:Int))=false) (i:Nat) (out:List (List V)) (hi:i≤(rows).length) (hI:out=evR f (rows.take i)):∃ (out':List (List V)),(out'=evR f (rows.take (rows).length))∧(decide ((((rows).length:Nat):Int) < (((rows.map zaE).length:Nat):Int))=false)∧∀ R,Good E0 B.dml_inserted [] (L_niR nm rows s frs tb f (rows).length out') R→Good E0 B.dml_inserted [] (L_niR nm rows s frs tb f i out) R:=by
 obtain ⟨kk,hk⟩:∃ kk,i+kk=(rows).length:=⟨(rows).length - i,by omega⟩
 induction kk generalizing i out with
 | zero =>
  have e0:i=(rows).length:=by omega
  subst e0
  exact ⟨out,hI,by simp,fun R hg=>hg⟩
 | succ kk ih =>
  obtain ⟨x,hx⟩:=zav (l:=rows) (i:=i) (by omega)
  have h0:decide (((i:Nat):Int) < (((rows.map zaE).length:Nat):Int))=true:=by simp;omega
  have hw:IntKind.i64.wrap (((i:Nat):Int)+1)=((i+1:Nat):Int):=zak i (by first|omega|(simp only [zac,Few] at *;omega))
  have hx1:=(hf x (List.mem_of_getElem? hx)).1;have hx2:=(hf x (List.mem_of_getElem? hx)).2;have hx3:=hf0 x (List.mem_of_getElem? hx);have hx4:=hfl x (List.mem_of_getElem? hx);have hol:out.length≤1000000000:=by rw [hI];simp only [evR,List.length_map,List.length_take,zac] at *;omega
  obtain ⟨row1,q1,q1_1,g1⟩:=zgS ((zai nm rows).table) ((zai nm rows).rows) s frs tb f i x out zfF hx2 zfF 0 ([]) zfF zfF
  obtain ⟨outZ,qZ,xZ,gZ⟩:=ih (i+1) (out++[row1]) (by omega) (by exact zvv hI hx (by assumption)) (by omega);exact ⟨outZ,qZ,xZ,fun R hg=>zab (wklN [sb h0,se (zaf zaE hx rfl),sb hx4] [2,3,4,5,10,13,23,24,25,35,36,37] 3 [(.ot 13 Ty.Value,4)] kr (g1 _ (zab (wkl [sb q1_1,sqx (row1.length=(List.map V.cells row1).length∧True),sqx (AllLen [[AV.sl (List.map V.cells row1)]] 1∧out.length=(List.map vrow out).length∧(((List.map vrow out).length+[[AV.sl (List.map V.cells row1)]].length) * 24).le 140737488355328),si hw] [2,3,4,5,10,23,24,25] 3 kr (zan (show ([(2,AV.sl (List.map Fr.cells frs)),(3,AV.sl (List.map Tb.cells tb)),(4,AV.p 0 0),(5,AV.p 1 0),(10,AV.own 2 (List.map vrow out++[[AV.sl (List.map V.cells row1)]]).length),(23,AV.sl (List.map zaE (zai nm rows).rows)),(24,iv (↑(List.map zaE (zai nm rows).rows).length:Int)),(25,iv (↑(i+1):Int))]:TS)=_ by first|rfl|(simp;done)|(simp [X.cells,Qy.cells,V.cells,Col.cells,Rw.cells,Tb.cells,Fr.cells,Sch.cells,Tp.cells,Pl.cells,xCol,xLit,xBin,xNeg,Ac.cells,Se.cells,Pr.cells,Ch.cells,Rw.cells];done)) (show ([Blk.box [iv (zai (zai nm rows).table (zai nm rows).rows).kind,sv (zai (zai nm rows).table (zai nm rows).rows).table,AV.sl (List.map (fun r=>[AV.sl (zad r)]) (zai (zai nm rows).table (zai nm rows).rows).rows),AV.sl (zag []),AV.sl [],AV.sl (zad []),sv (zai (zai nm rows).table (zai nm rows).rows).text],Blk.box [sv s.name,AV.sl (List.map Col.cells s.cols)],Blk.row Ty.LValue (List.map vrow out++[[AV.sl (List.map V.cells row1)]]) false]:Heap)=_ by first|rfl|(simp;done)|(simp [X.cells,Qy.cells,V.cells,Col.cells,Rw.cells,Tb.cells,Fr.cells,Sch.cells,Tp.cells,Pl.cells,xCol,xLit,xBin,xNeg,Ac.cells,Se.cells,Pr.cells,Ch.cells,Rw.cells];done)) (gZ R hg))))))⟩
noncomputable def L_niQ (nm:Str) (rows:List (List X)) (s:Sch) (frs:List Fr) (tb:List Tb) (out:List (List V)) (i:Nat):Cfg:=zal B.dml_inserted 2 [(2,fsl frs),(3,tsl tb),(5,.p 1 0),(10,.own 2 out.length),(62,.sl []),(63,iv (([]:List (List AV)).length:Nat)),(64,iv (i:Nat))] [.box (zai nm rows).cells,.box s.cells,.row Ty.LValue (out.map vrow) false]
theorem zgI (nm:Str) (rows:List (List X)) (s:Sch) (frs:List Fr) (tb:List Tb) (out:List (List V)) (i:Nat):True∧∀ R,Good E0 B.dml_inserted [] (L_niQ nm rows s frs tb out i) R→Good E0 B.dml_inserted [] (L_niQ nm rows s frs tb out i) R:=⟨trivial,fun _ h=>h⟩
theorem zjF (nm:Str) (rows:List (List X)) (s:Sch) (frs:List Fr) (tb:List Tb) (f:X→V × Int) (hs:zac s.cols) (hr:zac rows) (hf:∀ r∈rows,zac r∧∀ x∈r,PEv f x frs tb) (hf0:∀ r∈rows,∀ x∈r,((f x).2 != 0)=false) (hfl:∀ r∈rows,(((zad r).length:Int) != ((s.cols.map Col.cells).length:Int))=false):∃ (out:List (List V)),out=evR f (rows.take rows.length)∧zaa E0 S.dml_inserted [(zai nm rows).av,s.av,fsl frs,tsl tb] [] (.tup [.own 2 out.length,iv 0]) [.box (zai nm rows).cells,.box s.cells,.row Ty.LValue (out.map vrow) false]:=by
 obtain ⟨out1,q1,q1_1,g1⟩:=zg6 ((zai nm rows).table) ((zai nm rows).rows) s frs tb f zfF zfF hf zfF zfF 0 ([]) zfF zfF
 obtain ⟨q2,g2⟩:=zgI ((zai (zai nm rows).table (zai nm rows).rows).table) ((zai (zai nm rows).table (zai nm rows).rows).rows) s frs tb out1 (0)
 exact ⟨out1,(by first|assumption|trivial|(simp;done)|omega|(simp;omega)|(simp at *;omega)),zsy At.dml_inserted [] [2,3,4,5,10,23,24,25] 2 [(.ot 10 Ty.LValue,3)] kr (g1 _ (zab (wkl [sb q1_1] [2,3,5,10,62,63,64] 3 kr (g2 _ (zab (wkrK [sb (rfl:false=false)] kr))))))⟩
end Go.AM
namespace Go.Proofs
open Go.Shelf
shelf_lay_g Lays8.n4 Nm8 4 at Tryz 56 as Tryz.growT
end Go.Proofs
namespace Go.AM
open Go.Shelf Go.RowKit Go.Lib
set_option maxRecDepth 100000
set_option maxHeartbeats 1000000
theorem zsB {w:World} (o:Obj):Below w.heap.size w (w.drew.alloc o):=(Below.refl _ w).drew.alloc (Nat.le_refl _) o
theorem zfj (n:Nat) (hn:n≤1000000):zaa E0 S.slices_Grow_Table [.nl,iv (n:Int)] [] (.own 0 0) [.row Ty.Table [] false]:=by
 intro β S w vs r hp
 obtain ⟨hl,hv⟩:=hp
 match vs,hl,hv with
 | [v1,v2],_,hv =>
  have h1:=hv 0 .nl v1 rfl rfl
  have h2:=hv 1 (iv (n:Int)) v2 rfl rfl
  obtain ⟨a,rfl⟩:∃ a,v1=.slice a 0 0:=by
   cases h1 with
   | d _ _ h=>cases h
   | nl a=>exact ⟨a,rfl⟩
  obtain rfl:v2=.int .i64 (n:Int):=by
   cases h2 with
   | d _ _ h=>cases h with|v _ _=>rfl
  refine .inl ⟨⟨_,At.slices_Grow_Table,by kernel_rfl,by kernel_rfl⟩,?_⟩
  have hb0:β.length=0:=r.len
  have hβ:β=[]:=List.length_eq_zero_iff.1 hb0
  subst hβ
  rcases Nat.eq_zero_or_pos n with h0|hpos
  ·subst h0
   have hc:=Go.Proofs.Any8.slices_Grow_room Go.Proofs.Tryz.growT a 0 0 0 w (Nat.le_refl _) (by omega) (by omega) (by omega)
   refine Calls.mono (P:=E0.P) hc ?_
   rintro e w' ⟨rfl,rfl⟩
   obtain ⟨x,r'⟩:=r.newRow Ty.Table [] false (.nil a) (Below.refl _ _) (fun g hg=>by cases hg) rfl
   exact ⟨_,_,_,_,_,rfl,⟨rfl,rfl⟩,r',x,.own 0 0 _ Ty.Table [] false rfl (Nat.le_refl _) (fun _=>rfl) rfl⟩
  ·obtain ⟨i,d,z,tok⟩:=E0ok.at_ (t:=Ty.Table) (by
    intro h
    have:(E0.T Ty.Table).size=4:=by kernel_rfl
    rw [h] at this;cases this)
   have hs:(E0.T Ty.Table).size=4:=by kernel_rfl
   have hby:(E0.T Ty.Table).bytes≤1000:=Nat.le_of_ble_eq_true kr
   have hbytes:n * i.bytes≤140737488355328:=by
    rw [tok.bytes]
    exact Nat.le_trans (Nat.mul_le_mul hn hby) (by omega)
   have hc:=Go.Proofs.Any8.slices_Grow_grow Go.Proofs.Tryz.growT i z tok.info tok.zero (by rw [tok.size,hs];omega) a 0 0 n [] w (Nat.le_refl _) (by omega) (by rw [Nat.zero_add];exact hbytes) (by omega) (by simp) (fun _=>rfl) (fun _ _ j v h=>by simp at h)
   have hc2:Calls E0.P Go.AM.S.slices_Grow_Table #[.slice a 0 0,.int .i64 (n:Int)] w fun e w'=>e=.returned (.slice (some ⟨w.heap.size,0,none⟩) 0 (grownCap w (0+n) 0 Ty.Table))∧w'=w.drew.alloc (.cells (([]:List Value).toArray++Builtin.zeroCells z.cells (0+n - 0)++Builtin.zeroCells z.cells (grownCap w (0+n) 0 Ty.Table - (0+n))) Ty.Table):=hc
   refine Calls.mono (P:=E0.P) hc2 ?_
   rintro e w' ⟨rfl,rfl⟩
   have hge:=grownCap_ge w (0+n) 0 Ty.Table
   have hle:=grownCap_le_maxLen w (0+n) 0 Ty.Table (by unfold maxLen;omega)
   have hzl:z.cells.size=(E0.T Ty.Table).size:=by
    have:=(zdb (T:=E0.T) (h:=([]:Heap)) (β:=[]) (w:=w) (S:=S) _ _ tok.zok).1
    rw [Array.length_toList] at this
    rw [← this,tok.zlen]
   have hsz:(([]:List Value).toArray++Builtin.zeroCells z.cells (0+n - 0)++Builtin.zeroCells z.cells (grownCap w (0+n) 0 Ty.Table - (0+n))).size=grownCap w (0+n) 0 Ty.Table * (E0.T Ty.Table).size:=by
    simp only [Array.size_append,List.size_toArray,size_zeroCells,hzl,List.length_nil,Nat.zero_add,← Nat.add_mul]
    congr 1
    simp only [Nat.zero_add] at hge
    omega
   obtain ⟨x,r'⟩:=r.newRow Ty.Table [] false (.row w.heap.size (grownCap w (0+n) 0 Ty.Table)) (zsB _) (fun g hg=>by cases hg;exact ⟨Nat.le_refl _,by simp⟩)
    ⟨_,heap_alloc_new w.drew (.cells (([]:List Value).toArray++Builtin.zeroCells z.cells (0+n - 0)++Builtin.zeroCells z.cells (grownCap w (0+n) 0 Ty.Table - (0+n))) Ty.Table),Nat.zero_le _,by omega,hle,hsz,by simp,by simp⟩
   exact ⟨_,_,_,_,_,rfl,⟨rfl,rfl⟩,r',x,.own 0 0 _ Ty.Table [] false rfl (Nat.le_refl _) (fun _=>rfl) rfl⟩
end Go.AM
namespace Go.AM
set_option maxRecDepth 100000
set_option maxHeartbeats 400000
set_option linter.unusedSimpArgs false
set_option linter.unusedVariables false
theorem zmZ {p:Prop} (h:p:=by first|assumption|omega|(simp;done)|(simp;omega)):p:=h
abbrev cc2 (tb:List Tb):List (List AV):=[[tsl tb],[.sl []]]
theorem zmD (a b:List AV) (h:b.length=1):ElAt [a,b] ((0+1:Nat):Int) b 1:=⟨by decide,rfl,h⟩
noncomputable def L_cz (tb:List Tb) (i:Nat) (sz:Int):Cfg:=zal B.slices_Concat_Table 0 [(0,.sl (cc2 tb)),(3,iv sz),(9,.sl (cc2 tb)),(10,iv ((cc2 tb).length:Nat)),(11,iv (i:Nat))] []
theorem zbW (tb:List Tb) (i:Nat) (sz:Int):True∧∀ R,Good E0 B.slices_Concat_Table [] (L_cz tb i sz) R→Good E0 B.slices_Concat_Table [] (L_cz tb i sz) R:=⟨trivial,fun _ h=>h⟩
noncomputable def L_cb (tb:List Tb) (i:Nat) (xs:List Tb):Cfg:=zal B.slices_Concat_Table 1 [(6,.own 0 xs.length),(25,.sl (cc2 tb)),(26,iv ((cc2 tb).length:Nat)),(27,iv (i:Nat))] [.row Ty.Table (xs.map Tb.cells) false]
theorem zb0 (tb:List Tb) (i:Nat) (xs:List Tb):True∧∀ R,Good E0 B.slices_Concat_Table [] (L_cb tb i xs) R→Good E0 B.slices_Concat_Table [] (L_cb tb i xs) R:=⟨trivial,fun _ h=>h⟩
theorem zuW (tb:List Tb) (hl:tb.length≤1000) (w1:IntKind.i64.wrap (0+((tb.map Tb.cells).length:Int))=(tb.length:Int)) (w2:IntKind.i64.wrap ((tb.length:Int)+(([]:List (List AV)).length:Int))=(tb.length:Int)) (w3:decide ((tb.length:Int) < 0)=false):∃ (r:List Tb),r=tb∧zaa E0 S.slices_Concat_Table [.sl (cc2 tb)] [] (tsl r) []:=by
 obtain ⟨q1,g1⟩:=zbW tb 0 (0)
 obtain ⟨q2,g2⟩:=zbW tb (0+1) ((tb.length:Int))
 obtain ⟨q3,g3⟩:=zbW tb (0+1+1) ((tb.length:Int))
 obtain ⟨q4,g4⟩:=zb0 tb 0 ([])
 obtain ⟨q5,g5⟩:=zb0 tb (0+1) ([]++tb)
 obtain ⟨q6,g6⟩:=zb0 tb (0+1+1) ([]++tb++[])
 exact ⟨[]++tb++[],(by (simp;done)),wkc At.slices_Concat_Table [] [0,3,9,10,11] 0 kr (g1 _ (zab (wkl [sb (rfl:true=true),se (xs:=[[AV.sl (List.map Tb.cells tb)],[AV.sl []]]) (i:=0) (c:=[AV.sl (List.map Tb.cells tb)]) (n:=1) ⟨by decide,rfl,rfl⟩,si w1,sb (rfl:false=false),si (zcG (t:=(↑0:Int)+1) (n:=0+1) (by omega) (by omega))] [0,3,9,10,11] 0 kr (g2 _ (zab (wkl [sb (rfl:true=true),se (zmD ([AV.sl (List.map Tb.cells tb)]) ([AV.sl []]) (by first|assumption|rfl|omega)),si w2,sb (rfl:false=false),si (zcG (t:=(↑(0+1):Int)+1) (n:=0+1+1) (by omega) (by omega))] [0,3,9,10,11] 0 kr (g3 _ (zab (wkl [sb (rfl:false=false),sln [] (zfj tb.length (by first|assumption|rfl|omega))] [6,25,26,27] 1 kr (g4 _ (zab (wkl [sb (rfl:true=true),se (xs:=[[AV.sl (List.map Tb.cells tb)],[AV.sl []]]) (i:=0) (c:=[AV.sl (List.map Tb.cells tb)]) (n:=1) ⟨by decide,rfl,rfl⟩,sqx (AllLen (List.map Tb.cells tb) 4∧0=0∧((([]:List (List AV)).length+(List.map Tb.cells tb).length) * 72).le 140737488355328),si (zcG (t:=(↑0:Int)+1) (n:=0+1) (by omega) (by omega))] [6,25,26,27] 1 kr (zan (show ([(6,AV.own 0 ([]++List.map Tb.cells tb).length),(25,AV.sl [[AV.sl (List.map Tb.cells tb)],[AV.sl []]]),(26,iv (↑[[AV.sl (List.map Tb.cells tb)],[AV.sl []]].length:Int)),(27,iv (↑(0+1):Int))]:TS)=_ by first|rfl|(simp;done)|(simp [X.cells,Qy.cells,V.cells,Col.cells,Rw.cells,Tb.cells,Fr.cells,Sch.cells,Tp.cells,Pl.cells,xCol,xLit,xBin,xNeg,Ac.cells,Se.cells,Pr.cells,Ch.cells,Rw.cells];done)) rfl (g5 _ (zab (wkl [sb (rfl:true=true),se (zmD ([AV.sl (List.map Tb.cells tb)]) ([AV.sl []]) (by first|assumption|rfl|omega)),sqx (AllLen [] 4∧([]++tb).length=(List.map Tb.cells ([]++tb)).length∧(((List.map Tb.cells ([]++tb)).length+([]:List (List AV)).length) * 72).le 140737488355328),si (zcG (t:=(↑(0+1):Int)+1) (n:=0+1+1) (by omega) (by omega))] [6,25,26,27] 1 kr (zan (show ([(6,AV.own 0 (List.map Tb.cells ([]++tb)++[]).length),(25,AV.sl [[AV.sl (List.map Tb.cells tb)],[AV.sl []]]),(26,iv (↑[[AV.sl (List.map Tb.cells tb)],[AV.sl []]].length:Int)),(27,iv (↑(0+1+1):Int))]:TS)=_ by first|rfl|(simp;done)|(simp [X.cells,Qy.cells,V.cells,Col.cells,Rw.cells,Tb.cells,Fr.cells,Sch.cells,Tp.cells,Pl.cells,xCol,xLit,xBin,xNeg,Ac.cells,Se.cells,Pr.cells,Ch.cells,Rw.cells];done)) (show ([Blk.row Ty.Table (List.map Tb.cells ([]++tb)++[]) false]:Heap)=_ by first|rfl|(simp;done)|(simp [X.cells,Qy.cells,V.cells,Col.cells,Rw.cells,Tb.cells,Fr.cells,Sch.cells,Tp.cells,Pl.cells,xCol,xLit,xBin,xNeg,Ac.cells,Se.cells,Pr.cells,Ch.cells,Rw.cells];done)) (g6 _ (zab (wkr [sqx (([]++tb++[]).length=(List.map Tb.cells ([]++tb++[])).length),sb (rfl:false=false)] kr))))))))))))))))))))⟩
theorem zem (tb:List Tb) (hl:tb.length≤1000):zaa E0 S.slices_Concat_Table [.sl (cc2 tb)] [] (tsl tb) []:=by
 obtain ⟨r,rfl,h⟩:=zuW tb hl (by rw [List.length_map,IntKind.wrap_i64];omega) (by rw [IntKind.wrap_i64];simp;omega) (by simp)
 exact h
theorem zvs (t:Tb) (n:Str) :∃ (r:Bool),r=zaA t n∧zaa E0 S.store_Find_c1 [.agg t.cells,.p 0 0] [.box [sv n]] (bv r) [.box [sv n]]:=by
 exact ⟨ByteArray.toList t.sch.name==ByteArray.toList n,(by rfl),wk At.store_Find_c1 [] kr⟩
theorem zhv (t:Tb) (n:Str):zaa E0 S.store_Find_c1 [.agg t.cells,.p 0 0] [.box [sv n]] (bv (zaA t n)) [.box [sv n]]:=by
 obtain ⟨r,rfl,h⟩:=zvs t n
 exact h
noncomputable def zti (l:List Tb) (n:Str) (i:Nat) :Cfg:=zal B.slices_IndexFunc_Table 0 [(0,.sl (l.map Tb.cells)),(1,.fn S.store_Find_c1 [.p 0 0]),(7,iv ((l.map Tb.cells).length:Nat)),(8,iv (i:Nat))] [.box [sv n]]
theorem zdY (l:List Tb) (n:Str) (hl:zac l) (i:Nat)  (hi:i≤(l).length) (hI:idxF (fun t=>zaA t n) l 0=idxF (fun t=>zaA t n) (l.drop i) i):((idxF (fun t=>zaA t n) l 0=idxF (fun t=>zaA t n) (l.drop (l).length) (l).length)∧(decide ((((l).length:Nat):Int) < (((l.map Tb.cells).length:Nat):Int))=false)∧∀ R,Good E0 B.slices_IndexFunc_Table [.box [sv n]] (zti l n (l).length ) R→Good E0 B.slices_IndexFunc_Table [.box [sv n]] (zti l n i ) R)∨(∃ (r:Int),r=idxF (fun t=>zaA t n) l 0∧Good E0 B.slices_IndexFunc_Table [.box [sv n]] (zti l n i ) (Shut 1 fun rZ hZ=>rZ=(iv r)∧hZ=[.box [sv n]])):=by
 obtain ⟨kk,hk⟩:∃ kk,i+kk=(l).length:=⟨(l).length - i,by omega⟩
 induction kk generalizing i  with
 | zero =>
  have e0:i=(l).length:=by omega
  subst e0
  exact .inl ⟨hI,by simp,fun R hg=>hg⟩
 | succ kk ih =>
  obtain ⟨x,hx⟩:=zav (l:=l) (i:=i) (by omega)
  have h0:decide (((i:Nat):Int) < (((l.map Tb.cells).length:Nat):Int))=true:=by simp;omega
  have hw:IntKind.i64.wrap (((i:Nat):Int)+1)=((i+1:Nat):Int):=zak i (by first|omega|(simp only [zac,Few] at *;omega))
  let p_1:List St:=[sb h0,se (zaf Tb.cells hx rfl),sl [0] (zhv x n)]
  cases h1:zaA x n
  ·exact (ih (i+1) (by omega) (by exact zim hI hx (by assumption)) (by omega)).elim (fun ⟨qZ,xZ,gZ⟩=>.inl ⟨qZ,xZ,fun R hg=>zab (wkl (p_1++[sb h1,si hw]) [0,1,7,8] 1 kr (gZ R hg))⟩) (fun ⟨rY,pZ,gZ⟩=>.inr ⟨rY,pZ,zab (wkl [sb h0,se (zaf Tb.cells hx rfl),sl [0] (zhv x n),sb h1,si hw] [0,1,7,8] 1 kr gZ)⟩)
  ·exact .inr ⟨(i:Int),(by exact zkh hI hx (by assumption)),zab (wkr (p_1++[sb h1]) kr)⟩
theorem c_ixF (l:List Tb) (n:Str) (hl:zac l):∃ (r:Int),r=idxF (fun t=>zaA t n) l 0∧zaa E0 S.slices_IndexFunc_Table [.sl (l.map Tb.cells),.fn S.store_Find_c1 [.p 0 0]] [.box [sv n]] (iv r) [.box [sv n]]:=by
 rcases zdY l n (by first|assumption|rfl|omega) 0 (by first|assumption|rfl|omega) (by first|assumption|rfl|omega) with ⟨q1,q1_1,g1⟩|⟨r1_0,p1_0,g1⟩
 ·exact ⟨-1,(by first|assumption|exact zgU (by assumption)),wkc At.slices_IndexFunc_Table [] [0,1,7,8] 1 kr (g1 _ (zab (wkr [sb q1_1] kr)))⟩
 ·exact ⟨r1_0,(by first|assumption|exact zgU (by assumption)),wkc At.slices_IndexFunc_Table [] [0,1,7,8] 1 kr (g1)⟩
theorem zqv (tb:List Tb) (n:Str) (hx:∃ r:Int,r=idxF (fun t=>zaA t n) tb 0∧zaa E0 S.slices_IndexFunc_Table [tsl tb,.fn S.store_Find_c1 [.p 0 0]] [.box [sv n]] (iv r) [.box [sv n]]):∃ (r:Int),r=idxF (fun t=>zaA t n) tb 0∧zaa E0 S.store_Find [tsl tb,sv n] [] (iv r) []:=by
 obtain ⟨r1,q1,c1⟩:=hx
 exact ⟨r1,(by assumption),wk At.store_Find [sl [0] c1] kr⟩
theorem zj0 (tb:List Tb) (n:Str) (hl:zac tb):zaa E0 S.store_Find [tsl tb,sv n] [] (iv (idxF (fun t=>zaA t n) tb 0)) []:=by
 obtain ⟨r,rfl,h⟩:=zqv tb n (c_ixF tb n hl)
 exact h
theorem zsS (x:Rw) (hsv:zac x.vals):∃ (r:Rw),r=x∧zaa E0 S.deep_Row [.agg x.cells] [] (.agg r.cells) []:=by
 exact ⟨x,(by rfl),wk At.deep_Row [sqx (True∧x.vals.length=(List.map V.cells x.vals).length∧True),sd [(4,[sc (zap x.vals zmZ)])]] kr⟩
theorem zeN (x:Rw) (h:zac x.vals):zaa E0 S.deep_Row [.agg x.cells] [] (.agg x.cells) []:=by
 obtain ⟨r,rfl,h⟩:=zsS x h
 exact h
noncomputable def L_dlR (l:List Rw) (i:Nat) (out:List Rw):Cfg:=zal B.deep_list_api_Row 0 [(1,.fn S.deep_Row []),(5,.own 0 out.length),(8,.sl ((l).map Rw.cells)),(9,iv (((l).map Rw.cells).length:Nat)),(10,iv (i:Nat))] [.row Ty.Row ((out).map Rw.cells) false]
theorem zfe (l:List Rw) (hl:zac l) (hf:∀ x∈l,zaa E0 S.deep_Row [.agg x.cells] [] (.agg x.cells) []) (i:Nat) (out:List Rw) (hi:i≤(l).length) (hI:out=l.take i):∃ (out':List Rw),(out'=l.take (l).length)∧(decide ((((l).length:Nat):Int) < ((((l).map Rw.cells).length:Nat):Int))=false)∧∀ R,Good E0 B.deep_list_api_Row [] (L_dlR l (l).length out') R→Good E0 B.deep_list_api_Row [] (L_dlR l i out) R:=by
 obtain ⟨kk,hk⟩:∃ kk,i+kk=(l).length:=⟨(l).length - i,by omega⟩
 induction kk generalizing i out with
 | zero =>
  have e0:i=(l).length:=by omega
  subst e0
  exact ⟨out,hI,by simp,fun R hg=>hg⟩
 | succ kk ih =>
  obtain ⟨x,hx⟩:=zav (l:=l) (i:=i) (by omega)
  have h0:decide (((i:Nat):Int) < ((((l).map Rw.cells).length:Nat):Int))=true:=by simp;omega
  have hw:IntKind.i64.wrap (((i:Nat):Int)+1)=((i+1:Nat):Int):=zak i (by first|omega|(simp only [zac,Few] at *;omega))
  have hfx:=hf x (List.mem_of_getElem? hx)
  have ho:out.length≤1000000000:=by rw [hI,List.length_take];simp only [zac] at hl;omega
  obtain ⟨outZ,qZ,xZ,gZ⟩:=ih (i+1) (out++[x]) (by omega) (by rw [List.take_add_one,hx,hI];rfl) (by omega);exact ⟨outZ,qZ,xZ,fun R hg=>zab (wkl [sb h0,se (zaf Rw.cells hx rfl),sc hfx,sqx (AllLen [[iv x.id,AV.sl (List.map V.cells x.vals)]] 2∧out.length=(List.map Rw.cells out).length∧(((List.map Rw.cells out).length+[[iv x.id,AV.sl (List.map V.cells x.vals)]].length) * 32).le 140737488355328),si hw] [1,5,8,9,10] 1 kr (zan (show ([(1,AV.fn S.deep_Row []),(5,AV.own 0 (List.map Rw.cells out++[[iv x.id,AV.sl (List.map V.cells x.vals)]]).length),(8,AV.sl (List.map Rw.cells l)),(9,iv (↑(List.map Rw.cells l).length:Int)),(10,iv (↑(i+1):Int))]:TS)=_ by first|rfl|(simp;done)|(simp [X.cells,Qy.cells,V.cells,Col.cells,Rw.cells,Tb.cells,Fr.cells,Sch.cells,Tp.cells,Pl.cells,xCol,xLit,xBin,xNeg,Ac.cells,Se.cells,Pr.cells,Ch.cells,Rw.cells];done)) (show ([Blk.row Ty.Row (List.map Rw.cells out++[[iv x.id,AV.sl (List.map V.cells x.vals)]]) false]:Heap)=_ by first|rfl|(simp;done)|(simp [X.cells,Qy.cells,V.cells,Col.cells,Rw.cells,Tb.cells,Fr.cells,Sch.cells,Tp.cells,Pl.cells,xCol,xLit,xBin,xNeg,Ac.cells,Se.cells,Pr.cells,Ch.cells,Rw.cells];done)) (gZ R hg)))⟩
theorem zjM (l:List Rw) (hl:zac l) (hf:∀ x∈l,zaa E0 S.deep_Row [.agg x.cells] [] (.agg x.cells) []):∃ (r:List Rw),r=l∧zaa E0 S.deep_list_api_Row [.sl ((l).map Rw.cells),.fn S.deep_Row []] [] (.sl ((r).map Rw.cells)) []:=by
 obtain ⟨out1,q1,q1_1,g1⟩:=zfe l (by first|assumption|rfl|omega) (by first|assumption|rfl|omega) 0 ([]) (by first|assumption|rfl|omega) (by first|assumption|rfl|omega)
 exact ⟨out1,(by first|assumption|(rw [List.take_length] at *;assumption)),wkcN At.deep_list_api_Row [] [1,5,8,9,10] 0 [(.ot 5 Ty.Row,1)] kr (g1 _ (zab (wkr [sqx (out1.length=(List.map Rw.cells out1).length),sb q1_1] kr)))⟩
theorem zfl (l:List Rw) (hl:zac l) (hf:∀ x∈l,zaa E0 S.deep_Row [.agg x.cells] [] (.agg x.cells) []):zaa E0 S.deep_list_api_Row [.sl ((l).map Rw.cells),.fn S.deep_Row []] [] (.sl ((l).map Rw.cells)) []:=by
 obtain ⟨r,rfl,h⟩:=zjM l hl hf
 exact h
theorem zoJ (x:Sch) (hsv:zac x.cols):∃ (r:Sch),r=x∧zaa E0 S.deep_Schema [x.av] [] r.av []:=by
 exact ⟨x,(by rfl),wk At.deep_Schema [sqx (True∧x.cols.length=(List.map Col.cells x.cols).length∧True),sc (zat x.cols zmZ)] kr⟩
theorem zoA (x:Sch) (h:zac x.cols):zaa E0 S.deep_Schema [x.av] [] x.av []:=by
 obtain ⟨r,rfl,h⟩:=zoJ x h
 exact h
theorem zqw (t:Tb) (hc:zac t.sch.cols) (hr:zac t.rows) (hf:∀ x∈t.rows,zaa E0 S.deep_Row [.agg x.cells] [] (.agg x.cells) []):∃ (r:Tb),r=t∧zaa E0 S.deep_Table [.agg t.cells] [] (.agg r.cells) []:=by
 exact ⟨t,(by rfl),wk At.deep_Table [sd [(2,[sc (zoA t.sch zmZ)]),(7,[sc (zfl t.rows zmZ zmZ)])]] kr⟩
theorem zpz (t:Tb) (hc:zac t.sch.cols) (hr:zac t.rows) (hv:∀ r∈t.rows,zac r.vals):zaa E0 S.deep_Table [.agg t.cells] [] (.agg t.cells) []:=by
 obtain ⟨r,rfl,h⟩:=zqw t hc hr (fun x hx=>zeN x (hv x hx))
 exact h
end Go.AM
namespace Go.AM
set_option maxRecDepth 100000
set_option maxHeartbeats 400000
set_option linter.unusedSimpArgs false
set_option linter.unusedVariables false
noncomputable def L_dlT (l:List Tb) (i:Nat) (out:List Tb):Cfg:=zal B.deep_list_api_Table 0 [(1,.fn S.deep_Table []),(5,.own 0 out.length),(8,.sl (l.map Tb.cells)),(9,iv ((l.map Tb.cells).length:Nat)),(10,iv (i:Nat))] [.row Ty.Table (out.map Tb.cells) false]
theorem zey (l:List Tb) (hl:zac l) (hf:∀ x∈l,zaa E0 S.deep_Table [.agg x.cells] [] (.agg x.cells) []) (i:Nat) (out:List Tb) (hi:i≤(l).length) (hI:out=l.take i):∃ (out':List Tb),(out'=l.take (l).length)∧(decide ((((l).length:Nat):Int) < (((l.map Tb.cells).length:Nat):Int))=false)∧∀ R,Good E0 B.deep_list_api_Table [] (L_dlT l (l).length out') R→Good E0 B.deep_list_api_Table [] (L_dlT l i out) R:=by
 obtain ⟨kk,hk⟩:∃ kk,i+kk=(l).length:=⟨(l).length - i,by omega⟩
 induction kk generalizing i out with
 | zero =>
  have e0:i=(l).length:=by omega
  subst e0
  exact ⟨out,hI,by simp,fun R hg=>hg⟩
 | succ kk ih =>
  obtain ⟨x,hx⟩:=zav (l:=l) (i:=i) (by omega)
  have h0:decide (((i:Nat):Int) < (((l.map Tb.cells).length:Nat):Int))=true:=by simp;omega
  have hw:IntKind.i64.wrap (((i:Nat):Int)+1)=((i+1:Nat):Int):=zak i (by first|omega|(simp only [zac,Few] at *;omega))
  have hfx:=hf x (List.mem_of_getElem? hx)
  have ho:out.length≤1000000000:=by rw [hI,List.length_take];simp only [zac] at hl;omega
  obtain ⟨outZ,qZ,xZ,gZ⟩:=ih (i+1) (out++[x]) (by omega) (by rw [List.take_add_one,hx,hI];rfl) (by omega);exact ⟨outZ,qZ,xZ,fun R hg=>zab (wkl [sb h0,se (zaf Tb.cells hx rfl),sc hfx,sqx (AllLen [[sv x.sch.name,AV.sl (List.map Col.cells x.sch.cols),iv x.next,AV.sl (List.map Rw.cells x.rows)]] 4∧out.length=(List.map Tb.cells out).length∧(((List.map Tb.cells out).length+[[sv x.sch.name,AV.sl (List.map Col.cells x.sch.cols),iv x.next,AV.sl (List.map Rw.cells x.rows)]].length) * 72).le 140737488355328),si hw] [1,5,8,9,10] 1 kr (zan (show ([(1,AV.fn S.deep_Table []),(5,AV.own 0 (List.map Tb.cells out++[[sv x.sch.name,AV.sl (List.map Col.cells x.sch.cols),iv x.next,AV.sl (List.map Rw.cells x.rows)]]).length),(8,AV.sl (List.map Tb.cells l)),(9,iv (↑(List.map Tb.cells l).length:Int)),(10,iv (↑(i+1):Int))]:TS)=_ by first|rfl|(simp;done)|(simp [X.cells,Qy.cells,V.cells,Col.cells,Rw.cells,Tb.cells,Fr.cells,Sch.cells,Tp.cells,Pl.cells,xCol,xLit,xBin,xNeg,Ac.cells,Se.cells,Pr.cells,Ch.cells,Rw.cells];done)) (show ([Blk.row Ty.Table (List.map Tb.cells out++[[sv x.sch.name,AV.sl (List.map Col.cells x.sch.cols),iv x.next,AV.sl (List.map Rw.cells x.rows)]]) false]:Heap)=_ by first|rfl|(simp;done)|(simp [X.cells,Qy.cells,V.cells,Col.cells,Rw.cells,Tb.cells,Fr.cells,Sch.cells,Tp.cells,Pl.cells,xCol,xLit,xBin,xNeg,Ac.cells,Se.cells,Pr.cells,Ch.cells,Rw.cells];done)) (gZ R hg)))⟩
theorem zoF (l:List Tb) (hl:zac l) (hf:∀ x∈l,zaa E0 S.deep_Table [.agg x.cells] [] (.agg x.cells) []):∃ (r:List Tb),r=l.take l.length∧zaa E0 S.deep_list_api_Table [.sl (l.map Tb.cells),.fn S.deep_Table []] [] (.own 0 r.length) [.row Ty.Table (r.map Tb.cells) false]:=by
 obtain ⟨out1,q1,q1_1,g1⟩:=zey l (by first|assumption|rfl|omega) (by first|assumption|rfl|omega) 0 ([]) (by first|assumption|rfl|omega) (by first|assumption|rfl|omega)
 exact ⟨out1,(by first|assumption|trivial|(simp;done)|omega|(simp;omega)|(simp at *;omega)),zsy At.deep_list_api_Table [] [1,5,8,9,10] 0 [(.ot 5 Ty.Table,1)] kr (g1 _ (zab (wkrK [sb q1_1] kr)))⟩
theorem zgb (l:List Tb) (hl:zac l) (hf:∀ x∈l,zaa E0 S.deep_Table [.agg x.cells] [] (.agg x.cells) []):zaa E0 S.deep_list_api_Table [.sl (l.map Tb.cells),.fn S.deep_Table []] [] (.own 0 l.length) [.row Ty.Table (l.map Tb.cells) false]:=by
 obtain ⟨r,hr,h⟩:=zoF l hl hf
 rw [List.take_length] at hr;subst hr;exact h
theorem zoM (l:List Tb) (hl:zac l) (hf:∀ x∈l,zaa E0 S.deep_Table [.agg x.cells] [] (.agg x.cells) []):∃ (r:List Tb),r=l∧zaa E0 S.deep_Tables [tsl l] [] (.own 0 r.length) [.row Ty.Table (r.map Tb.cells) false]:=by
 exact ⟨l,(by rfl),wkK At.deep_Tables [sc (zgb l (by first|assumption|omega|(simp;done)|(simp;omega)) (by first|assumption|omega|(simp;done)|(simp;omega)))] kr⟩
theorem zbl (l:List Tb) (hl:zac l) (hc:∀ t∈l,zac t.sch.cols∧zac t.rows∧∀ r∈t.rows,zac r.vals):zaa E0 S.deep_Tables [tsl l] [] (.own 0 l.length) [.row Ty.Table (l.map Tb.cells) false]:=by
 obtain ⟨r,rfl,h⟩:=zoM l hl fun x hx=>zpz x (hc x hx).1 (hc x hx).2.1 (hc x hx).2.2
 exact h
noncomputable def L_bs (tb:List Tb) (i:Nat):Cfg:=zal B.before_Statement 0 [(1,tsl tb),(11,.sl []),(12,iv (([]:List (List AV)).length:Nat)),(13,iv (i:Nat))] []
theorem zfS (tb:List Tb) (i:Nat):True∧∀ R,Good E0 B.before_Statement [] (L_bs tb i) R→Good E0 B.before_Statement [] (L_bs tb i) R:=⟨trivial,fun _ h=>h⟩
theorem zoN (tb:List Tb) :∃ (r:Int),r=0∧zaa E0 S.before_Statement [.sl [],tsl tb] [] (iv r) []:=by
 obtain ⟨q1,g1⟩:=zfS tb (0)
 exact ⟨0,(by rfl),wkc At.before_Statement [] [1,11,12,13] 0 kr (g1 _ (zab (wkr [sb (rfl:false=false)] kr)))⟩
theorem zcp (tb:List Tb):zaa E0 S.before_Statement [.sl [],tsl tb] [] (iv 0) []:=by
 obtain ⟨r,rfl,h⟩:=zoN tb
 exact h
theorem zqO (nm:Str) (rows:List (List X)) :∃ (r:List Str),r=[]∧zaa E0 S.dml_Assigned [(zai nm rows).av] [] (ssl r) []:=by
 exact ⟨[],(by rfl),wk At.dml_Assigned [sb (rfl:true=true)] kr⟩
theorem zfi (nm:Str) (rows:List (List X)):zaa E0 S.dml_Assigned [(zai nm rows).av] [] (.sl []) []:=by
 obtain ⟨r,rfl,h⟩:=zqO nm rows
 exact h
theorem zev (nm:Str) (rows:List (List X)) (s:Sch) (frs:List Fr) (tb:List Tb) (f:X→V × Int) (hv:zaa E0 S.dml_target [(zai nm rows).av,tsl tb] [] (.tup [s.av,iv 0]) []) (hs:zac s.cols) (hr:zac rows) (hf:∀ r∈rows,zac r∧∀ x∈r,PEv f x frs tb) (hf0:∀ r∈rows,∀ x∈r,((f x).2 != 0)=false) (hfl:∀ r∈rows,(((zad r).length:Int) != ((s.cols.map Col.cells).length:Int))=false):∃ (out:List (List V)),out=evR f (rows.take rows.length)∧zaa E0 S.dml_Candidates [(zai nm rows).av,fsl frs,tsl tb] [] (.tup [.agg [.own 5 out.length,.nl,.nl],iv 0]) [.box (zai nm rows).cells,.box [.own 5 out.length,.nl,.nl],.box s.cells,.box (zai nm rows).cells,.box s.cells,.row Ty.LValue (out.map vrow) false]:=by
 obtain ⟨out1,q1,c1⟩:=(zjF ((zai nm rows).table) ((zai nm rows).rows) s frs tb f (by first|assumption|rfl|omega) (by first|assumption|rfl|omega) hf (by first|assumption|rfl|omega) (by first|assumption|rfl|omega))
 exact ⟨out1,(by assumption),wkK At.dml_Candidates [sc hv,sb (rfl:false=false),sb (rfl:true=true),sc c1,sb (rfl:false=false)] kr⟩
end Go.AM
namespace Go.AM
set_option maxRecDepth 100000
set_option maxHeartbeats 400000
set_option linter.unusedSimpArgs false
set_option linter.unusedVariables false
theorem zne {p:Prop} (h:p:=by first|assumption|omega|(simp;done)|(simp;omega)):p:=h
abbrev runB (m:List Tb) (trig:List (List AV)) (s:Sch) (p c:AV):List AV:=[tsl m,.sl trig,.sl [],sv s.name,.sl (s.cols.map Col.cells),p,c]
theorem ztR (m:List Tb) (trig:List (List AV)) (s:Sch) (l g:List V) (hR:zaa E0 S.before_Row [.sl trig,.sl [],s.av,.sl [],vsl l,tsl m,.sl []] [] (.tup [vsl g,.sl [],.sl [],iv 0]) []):∃ (r:List V) (e:Int),(r=g∧e=0)∧zaa E0 S.statement_run_row [.p 0 0,.sl [],vsl l] [.box (runB m trig s (.own 1 0) .nl),.row Ty.int [] false] (.tup [vsl r,iv e]) [.box (runB m trig s (.sl []) (.own 2 0)),.row Ty.int [] true,.row Ty.int [] false]:=by
 exact ⟨g,0,(by exact ⟨rfl,rfl⟩),wkK At.statement_run_row [sd [(22,[skx (True∧True∧(True∧True∧True)∧True∧True∧True∧0=0∧True) [] hR])],sb (rfl:false=false),sqx (AllLen [] 1∧Nat.le 0 140737488355328)] kr⟩
theorem zhN (m:List Tb) (trig:List (List AV)) (s:Sch) (l g:List V) (hR:zaa E0 S.before_Row [.sl trig,.sl [],s.av,.sl [],vsl l,tsl m,.sl []] [] (.tup [vsl g,.sl [],.sl [],iv 0]) []):zaa E0 S.statement_run_row [.p 0 0,.sl [],vsl l] [.box (runB m trig s (.own 1 0) .nl),.row Ty.int [] false] (.tup [vsl g,iv 0]) [.box (runB m trig s (.sl []) (.own 2 0)),.row Ty.int [] true,.row Ty.int [] false]:=by
 obtain ⟨r,e,⟨rfl,rfl⟩,h⟩:=ztR m trig s l g hR
 exact h
theorem zt8 (m:List Tb) (trig:List (List AV)) (s:Sch) (l g:List V) (hR:zaa E0 S.before_Row [.sl trig,.sl [],s.av,.sl [],vsl l,tsl m,.sl []] [] (.tup [vsl g,.sl [],.sl [],iv 0]) []):∃ (r:List V) (e:Int),(r=g∧e=0)∧zaa E0 S.statement_run_row [.p 0 0,.sl [],vsl l] [.box (runB m trig s (.sl []) (.own 1 0)),.row Ty.int [] false] (.tup [vsl r,iv e]) [.box (runB m trig s (.sl []) (.own 1 0)),.row Ty.int [] false]:=by
 exact ⟨g,0,(by exact ⟨rfl,rfl⟩),wk At.statement_run_row [sd [(22,[sc hR])],sb (rfl:false=false),sqx (AllLen [] 1∧0=0∧Nat.le 0 140737488355328)] kr⟩
theorem zhJ (m:List Tb) (trig:List (List AV)) (s:Sch) (l g:List V) (hR:zaa E0 S.before_Row [.sl trig,.sl [],s.av,.sl [],vsl l,tsl m,.sl []] [] (.tup [vsl g,.sl [],.sl [],iv 0]) []):zaa E0 S.statement_run_row [.p 0 0,.sl [],vsl l] [.box (runB m trig s (.sl []) (.own 1 0)),.row Ty.int [] false] (.tup [vsl g,iv 0]) [.box (runB m trig s (.sl []) (.own 1 0)),.row Ty.int [] false]:=by
 obtain ⟨r,e,⟨rfl,rfl⟩,h⟩:=zt8 m trig s l g hR
 exact h
abbrev rrH (m:List Tb) (trig:List (List AV)) (s:Sch) (ins:List (List V)):Heap:=[.box (runB m trig s (.own 1 0) .nl),.row Ty.int [] false,.box [.own 3 ins.length,.nl,.nl],.row Ty.LValue (ins.map vrow) false]
noncomputable def L_rr0 (m:List Tb) (trig:List (List AV)) (s:Sch) (t:Tb) (ins:List (List V)) (i:Nat) :Cfg:=zal B.statement_run_rows 0 [(0,.p 0 0),(1,.p 2 0),(20,.sl (t.rows.map Rw.cells)),(21,iv ((t.rows.map Rw.cells).length:Nat)),(22,iv (i:Nat))] (rrH m trig s ins++[.box t.cells])
theorem ze4 (m:List Tb) (trig:List (List AV)) (s:Sch) (t:Tb) (ins:List (List V)) (hr:zac t.rows) (i:Nat)  (hi:i≤(t.rows).length) (hI:True):(True)∧(decide ((((t.rows).length:Nat):Int) < (((t.rows.map Rw.cells).length:Nat):Int))=false)∧∀ R,Good E0 B.statement_run_rows (rrH m trig s ins) (L_rr0 m trig s t ins (t.rows).length ) R→Good E0 B.statement_run_rows (rrH m trig s ins) (L_rr0 m trig s t ins i ) R:=by
 obtain ⟨kk,hk⟩:∃ kk,i+kk=(t.rows).length:=⟨(t.rows).length - i,by omega⟩
 induction kk generalizing i  hI with
 | zero =>
  have e0:i=(t.rows).length:=by omega
  subst e0
  exact ⟨hI,by simp,fun R hg=>hg⟩
 | succ kk ih =>
  obtain ⟨x,hx⟩:=zav (l:=t.rows) (i:=i) (by omega)
  have h0:decide (((i:Nat):Int) < (((t.rows.map Rw.cells).length:Nat):Int))=true:=by simp;omega
  have hw:IntKind.i64.wrap (((i:Nat):Int)+1)=((i+1:Nat):Int):=zak i (by first|omega|(simp only [zac,Few] at *;omega))
  obtain ⟨qZ,xZ,gZ⟩:=ih (i+1) (by omega) (by first|trivial|assumption|(simp;done)|omega|(simp;omega)|(simp at *;omega)) (by omega);exact ⟨qZ,xZ,fun R hg=>zab (wkl [sb h0,se (zaf Rw.cells hx rfl),sd [(6,[sc (zdG x.id)])],sb (rfl:false=false),si hw] [0,1,20,21,22] 5 kr (gZ R hg))⟩
noncomputable def L_rr1 (m:List Tb) (trig:List (List AV)) (s:Sch) (t:Tb) (ins:List (List V)) (i:Nat):Cfg:=zal B.statement_run_rows 1 [(0,.p 0 0),(1,.p 2 0),(47,.nl),(48,iv 0),(49,iv (i:Nat))] (rrH m trig s ins++[.box t.cells])
theorem zeM (m:List Tb) (trig:List (List AV)) (s:Sch) (t:Tb) (ins:List (List V)) (i:Nat):True∧∀ R,Good E0 B.statement_run_rows (rrH m trig s ins) (L_rr1 m trig s t ins i) R→Good E0 B.statement_run_rows (rrH m trig s ins) (L_rr1 m trig s t ins i) R:=⟨trivial,fun _ h=>h⟩
abbrev outG (g:List V→List V) (ins:List (List V)) (i:Nat):List (List V):=(ins.take i).map g++ins.drop i
theorem zvk (g:List V→List V) (ins:List (List V)) (i:Nat):(outG g ins i).length=ins.length:=by
 simp only [outG,List.length_append,List.length_map,List.length_take,List.length_drop];omega
theorem zv0 {g:List V→List V} {ins:List (List V)} {i:Nat} {x:List V} (hx:ins[i]?=some x):(outG g ins i)[i]?=some x:=by
 have hi:=(List.getElem?_eq_some_iff.1 hx).1
 have hl:((ins.take i).map g).length=i:=by simp;omega
 rw [outG,List.getElem?_append_right (by omega),hl,Nat.sub_self,List.getElem?_drop];simpa using hx
theorem zpF {g:List V→List V} {ins:List (List V)} {i:Nat} {x:List V} (hx:ins[i]?=some x):(outG g ins i).set i (g x)=outG g ins (i+1):=by
 have hi:=(List.getElem?_eq_some_iff.1 hx).1
 have hl:((ins.take i).map g).length=i:=by simp;omega
 rw [outG,List.set_append_right _ _ (by omega),hl,Nat.sub_self,zaR hx,List.set_cons_zero,outG,List.take_add_one,hx,List.map_append,List.append_assoc]
 rfl
noncomputable def ztd (m:List Tb) (trig:List (List AV)) (s:Sch) (t:Tb) (ins:List (List V)) (g:List V→List V) (i:Nat) (out:List (List V)):Cfg:=zal B.statement_run_rows 2 [(0,.p 0 0),(1,.p 2 0),(78,.own 3 ins.length),(79,iv (ins.length:Nat)),(80,iv (i:Nat))] [.box (runB m trig s (.sl []) (.own 5 0)),.row Ty.int [] true,.box [.own 3 ins.length,.nl,.nl],.row Ty.LValue (out.map vrow) false,.box t.cells,.row Ty.int [] false]
theorem zeG (m:List Tb) (trig:List (List AV)) (s:Sch) (t:Tb) (ins:List (List V)) (g:List V→List V) (hl:zac ins) (hR:∀ l∈ins,zaa E0 S.before_Row [.sl trig,.sl [],s.av,.sl [],vsl l,tsl m,.sl []] [] (.tup [vsl (g l),.sl [],.sl [],iv 0]) []) (i:Nat) (out:List (List V)) (hi:i≤(ins.length)) (hI:out=outG g ins i):∃ (out':List (List V)),(out'=outG g ins ins.length)∧(decide ((((ins.length):Nat):Int) < (((ins.length):Nat):Int))=false)∧∀ R,Good E0 B.statement_run_rows (rrH m trig s ins) (ztd m trig s t ins g ins.length out') R→Good E0 B.statement_run_rows (rrH m trig s ins) (ztd m trig s t ins g i out) R:=by
 obtain ⟨kk,hk⟩:∃ kk,i+kk=(ins.length):=⟨(ins.length) - i,by omega⟩
 induction kk generalizing i out with
 | zero =>
  have e0:i=(ins.length):=by omega
  subst e0
  exact ⟨out,hI,by simp,fun R hg=>hg⟩
 | succ kk ih =>
  have h0:decide (((i:Nat):Int) < (((ins.length):Nat):Int))=true:=by simp;omega
  have hw:IntKind.i64.wrap (((i:Nat):Int)+1)=((i+1:Nat):Int):=zak i (by (simp only [zac] at hl;omega))
  obtain ⟨x,hx⟩:=zav (l:=ins) (i:=i) (by omega)
  have hxR:=hR x (List.mem_of_getElem? hx)
  have hol:(out.map vrow).length=ins.length:=by rw [List.length_map,hI,zvk]
  have he:OwnEl (out.map vrow) ins.length i (vrow x):=⟨hol.symm,by rw [List.getElem?_map,hI,zv0 hx];rfl⟩
  have ho:OwnAt (out.map vrow) ins.length ((i:Nat):Int):=⟨hol.symm,by omega,by omega⟩
  obtain ⟨outZ,qZ,xZ,gZ⟩:=ih (i+1) (out.set i (g x)) (by omega) (by (rw [hI];exact zpF hx)) (by omega);exact ⟨outZ,qZ,xZ,fun R hg=>zab (wkl [sb h0,sqx (OwnAt (List.map vrow out) ins.length (i:Int)),sx (.el (vrow x)) he,sl [0,5] (zhJ m trig s x (g x) hxR),sb (rfl:false=false),sqx (OwnAt (List.map vrow out) ins.length (i:Int)),sx (.el (vrow x)) (And.intro (owed (p:=True∧True)) he),si hw] [0,1,78,79,80] 6 kr (zan rfl (show ([Blk.box [AV.sl (List.map Tb.cells m),AV.sl trig,AV.sl [],sv s.name,AV.sl (List.map Col.cells s.cols),AV.sl [],AV.own 5 0],Blk.row Ty.int [] true,Blk.box [AV.own 3 ins.length,AV.nl,AV.nl],Blk.row Ty.LValue ((List.map vrow out).set i [AV.sl (List.map V.cells (g x))]) false,Blk.box [sv t.sch.name,AV.sl (List.map Col.cells t.sch.cols),iv t.next,AV.sl (List.map Rw.cells t.rows)],Blk.row Ty.int [] false]:Heap)=_ by first|rfl|(simp;done)|(simp [X.cells,Qy.cells,V.cells,Col.cells,Rw.cells,Tb.cells,Fr.cells,Sch.cells,Tp.cells,Pl.cells,xCol,xLit,xBin,xNeg,Ac.cells,Se.cells,Pr.cells,Ch.cells,Rw.cells];done)) (gZ R hg)))⟩
noncomputable def L_rr20 (m:List Tb) (trig:List (List AV)) (s:Sch) (t:Tb) (ins:List (List V)):Cfg:=zal B.statement_run_rows 2 [(0,.p 0 0),(1,.p 2 0),(78,.own 3 ins.length),(79,iv (ins.length:Nat)),(80,iv 0)] (rrH m trig s ins++[.box t.cells])
theorem zew (m:List Tb) (trig:List (List AV)) (s:Sch) (t:Tb) (ins:List (List V)) (g:List V→List V) (hl:zac ins) (hne:ins≠[]) (hR:∀ l∈ins,zaa E0 S.before_Row [.sl trig,.sl [],s.av,.sl [],vsl l,tsl m,.sl []] [] (.tup [vsl (g l),.sl [],.sl [],iv 0]) []):decide (((ins.length:Nat):Int) < ((ins.length:Nat):Int))=false∧∀ R,Good E0 B.statement_run_rows (rrH m trig s ins) (ztd m trig s t ins g ins.length (ins.map g)) R→Good E0 B.statement_run_rows (rrH m trig s ins) (L_rr20 m trig s t ins) R:=by
 have hx0:∃ x,ins[0]?=some x:=zav (by cases ins with|nil=>exact absurd rfl hne|cons _ _=>simp)
 obtain ⟨x,hx⟩:=hx0
 have hil:=(List.getElem?_eq_some_iff.1 hx).1
 obtain ⟨out,hout,h1,h2⟩:=zeG m trig s t ins g hl hR 1 (outG g ins 1) (by omega) rfl
 have hout2:out=ins.map g:=by rw [hout,outG,List.take_length,List.drop_length,List.append_nil]
 subst hout2
 refine ⟨by simp,fun R h=>?_⟩
 have hg:=h2 R h
 have h0:decide ((0:Int) < ((ins.length:Nat):Int))=true:=by simp;omega
 have hxR:=hR x (List.mem_of_getElem? hx)
 have he:OwnEl (ins.map vrow) ins.length 0 (vrow x):=⟨by simp,by rw [List.getElem?_map,hx];rfl⟩
 have ho:OwnAt (ins.map vrow) ins.length (0:Int):=⟨by simp,by omega,by omega⟩
 have hset:ins.set 0 (g x)=outG g ins 1:=by have:=zpF (g:=g) hx;rwa [show outG g ins 0=ins by simp [outG]] at this
 rw [← hset] at hg
 refine zab ?_
 exact wkl [sb h0,sqx (OwnAt (List.map vrow ins) ins.length 0),sx (.el (vrow x)) he,sl [0,1] (zhN m trig s x (g x) hxR),sb (rfl:false=false),sqx (OwnAt (List.map vrow ins) ins.length 0),sx (.el (vrow x)) (And.intro (owed (p:=True∧True)) he),si (zcG (t:=0+1) (n:=0+1) (by omega) (by omega))] [0,1,78,79,80] 6 kr (zan rfl (show ([Blk.box [AV.sl (List.map Tb.cells m),AV.sl trig,AV.sl [],sv s.name,AV.sl (List.map Col.cells s.cols),AV.sl [],AV.own 5 0],Blk.row Ty.int [] true,Blk.box [AV.own 3 ins.length,AV.nl,AV.nl],Blk.row Ty.LValue ((List.map vrow ins).set 0 [AV.sl (List.map V.cells (g x))]) false,Blk.box [sv t.sch.name,AV.sl (List.map Col.cells t.sch.cols),iv t.next,AV.sl (List.map Rw.cells t.rows)],Blk.row Ty.int [] false]:Heap)=_ by first|rfl|(simp;done)|(simp [X.cells,Qy.cells,V.cells,Col.cells,Rw.cells,Tb.cells,Fr.cells,Sch.cells,Tp.cells,Pl.cells,xCol,xLit,xBin,xNeg,Ac.cells,Se.cells,Pr.cells,Ch.cells,Rw.cells];done)) hg)
theorem ztU (m:List Tb) (trig:List (List AV)) (s:Sch) (t:Tb) (ins:List (List V)) (g:List V→List V) (hr:zac t.rows) (hl:zac ins) (hne:ins≠[]) (hR:∀ l∈ins,zaa E0 S.before_Row [.sl trig,.sl [],s.av,.sl [],vsl l,tsl m,.sl []] [] (.tup [vsl (g l),.sl [],.sl [],iv 0]) []):∃ (r:Int),r=0∧zaa E0 S.statement_run_rows [.p 0 0,.p 2 0,t.av] (rrH m trig s ins) (iv r) [.box (runB m trig s (.sl []) (.own 5 0)),.row Ty.int [] true,.box [.own 3 ins.length,.nl,.nl],.row Ty.LValue ((ins.map g).map vrow) false,.box t.cells,.row Ty.int [] false]:=by
 obtain ⟨q1,q1_1,g1⟩:=ze4 m trig s t ins zne 0 zne zne
 obtain ⟨q2,g2⟩:=zeM m trig s t ins (0)
 obtain ⟨q3,g3⟩:=zew m trig s t ins g zne zne hR
 exact ⟨0,(by rfl),wkcK At.statement_run_rows [] [0,1,20,21,22] 5 kr (g1 _ (zab (wkl [sb q1_1] [0,1,47,48,49] 5 kr (g2 _ (zab (wkl [sb (rfl:false=false),sqx (ins.length=(List.map vrow ins).length)] [0,1,78,79,80] 5 kr (g3 _ (zab (wkrK [sb q3] kr)))))))))⟩
end Go.AM
namespace Go.AM
set_option maxRecDepth 100000
set_option maxHeartbeats 400000
set_option linter.unusedSimpArgs false
set_option linter.unusedVariables false
theorem zgT {p:Prop} (h:p:=by first|assumption|rfl|omega|(simp [zac];done)|decide):p:=h
theorem zds (m:List Tb) (trig:List (List AV)) (s:Sch) (t:Tb) (ins:List (List V)) (g:List V→List V) (hr:zac t.rows) (hl:zac ins) (hne:ins≠[]) (hR:∀ l∈ins,zaa E0 S.before_Row [.sl trig,.sl [],s.av,.sl [],vsl l,tsl m,.sl []] [] (.tup [vsl (g l),.sl [],.sl [],iv 0]) []):zaa E0 S.statement_run_rows [.p 0 0,.p 2 0,t.av] (rrH m trig s ins) (iv 0) [.box (runB m trig s (.sl []) (.own 5 0)),.row Ty.int [] true,.box [.own 3 ins.length,.nl,.nl],.row Ty.LValue ((ins.map g).map vrow) false,.box t.cells,.row Ty.int [] false]:=by
 obtain ⟨r,rfl,h⟩:=ztU m trig s t ins g hr hl hne hR
 exact h
theorem zwN (m:List Tb) (frs:List Fr) (nm:Str) (rows:List (List X)) (ts:List Tg) (trig:List (List AV)) (t t2:Tb) (a:Nat) (ins:List (List V)) (g:List V→List V) (hl:m.length≤1000) (hx:m[a]?=some t) (hal:a < m.length) (hfd:zaa E0 S.store_Find [tsl m,sv nm] [] (iv (a:Nat)) []) (hn:decide (((a:Nat):Int) < 0)=false) (hC:zaa E0 S.dml_Candidates [(zai nm rows).av,fsl frs,tsl m] [] (.tup [.agg [.own 5 ins.length,.nl,.nl],iv 0]) [.box (zai nm rows).cells,.box [.own 5 ins.length,.nl,.nl],.box t.sch.cells,.box (zai nm rows).cells,.box t.sch.cells,.row Ty.LValue (ins.map vrow) false]) (hd:∀ t∈m,zac t.sch.cols∧zac t.rows∧∀ r∈t.rows,zac r.vals) (hF:zaa E0 S.before_Applicable [.sl (ts.map Tg.cells),sv nm,iv 1,.sl [],bv false] [] (.sl []) []) (hT:zaa E0 S.before_Applicable [.sl (ts.map Tg.cells),sv nm,iv 1,.sl [],bv true] [] (.sl trig) []) (hz:(((0+0+ins.length:Nat):Int)==0)=false) (hr:zac t.rows) (hli:zac ins) (hne:ins≠[]) (hR:∀ l∈ins,zaa E0 S.before_Row [.sl trig,.sl [],t.sch.av,.sl [],vsl l,tsl m,.sl []] [] (.tup [vsl (g l),.sl [],.sl [],iv 0]) []) (hA:zaa E0 S.keys_Apply [t.av,insC (ins.map g)] [] (.tup [t2.av,iv 0]) []):∃ (r:List (List AV)) (n e:Int),(e=0∧r=(m.map Tb.cells).set a t2.cells∧n=((ins.length:Nat):Int))∧zaa E0 S.statement_Run [tsl m,.sl (ts.map Tg.cells),.sl [],(zai nm rows).av,fsl frs,.sl [],.sl []] [] (.tup [.sl r,.sl [],.sl [],iv n,iv e]) []:=by
 exact ⟨(List.map Tb.cells m).set a [sv t2.sch.name,AV.sl (List.map Col.cells t2.sch.cols),iv t2.next,AV.sl (List.map Rw.cells t2.rows)],(↑(0+0+ins.length):Int),0,(by (exact ⟨rfl,rfl,by simp⟩)),(by (try simp only [X.av,Qy.av,V.av,Tb.av,Sch.av,Pl.av,xsl,fsl,vsl,tsl,List.map_append,List.map_cons,List.map_nil,V.cells,Col.cells,Rw.cells,Tb.cells,Fr.cells,Sch.cells,Pl.cells,zaW,zaI,zaO,zaM,zaT,X.cells,Qy.cells,X.args_mk,X.sub_mk,Qy.items_mk,Qy.wh_mk,xCol,xLit,xBin,xNeg,Ac.cells,Se.cells,Pr.cells,Ch.cells,Rw.cells]);exact wk At.statement_Run [sqx (m.length=((List.map Tb.cells m).set a [sv t2.sch.name,AV.sl (List.map Col.cells t2.sch.cols),iv t2.next,AV.sl (List.map Rw.cells t2.rows)]).length∧True∧0=0∧True∧True∧True),sc hfd,sc (zem m zgT),sb (rfl:false=false),sc hC,sb (rfl:false=false),si (zcG (t:=0+0) (n:=0+0) (by omega) (by omega)),sqx (ins.length=(List.map vrow ins).length),si (zcG (t:=(↑(0+0):Int)+(ins.length:Int)) (n:=0+0+ins.length) (by omega) (by omega)),sc (zbl m zgT zgT),sb hz,sc (zfi ((zai nm rows).table) ((zai nm rows).rows)),sc hF,sc (zcp m),sb (rfl:false=false),sd [(11,[se (zaf Tb.cells hx rfl)]),(7,[sc hT]),(15,[sc (zaK ([]) zgT)])],se (zaf Tb.cells hx rfl),sl [10,9,7,6] (zds m trig t.sch t ins g zgT zgT zgT hR),sb (rfl:false=false),sdm [(2,[se (zaf Tb.cells hx rfl)]),(5,[skx ((True∧True∧True∧True∧True)∧(ins.length=(List.map vrow (List.map g ins)).length∧True∧True∧True)∧True) [] hA])] 0 [(0,AV.sl (List.map Tb.cells m)),(1,AV.sl (List.map Tg.cells ts)),(2,AV.sl []),(3,AV.agg [iv (zai nm rows).kind,sv (zai nm rows).table,AV.sl (List.map (fun r=>[AV.sl (zad r)]) (zai nm rows).rows),AV.sl (zag []),AV.sl [],AV.sl (zad []),sv (zai nm rows).text]),(4,AV.sl (List.map Fr.cells frs)),(5,AV.sl []),(6,AV.sl []),(10,AV.p 0 0),(14,AV.nl),(15,AV.nl),(16,AV.nl),(17,iv 0),(18,iv 0),(19,iv (a:Int)),(20,AV.sl (List.map Tb.cells m)),(21,AV.p 7 0),(22,iv 0),(23,iv (↑(0+0+ins.length):Int)),(24,AV.own 8 m.length),(25,AV.sl []),(26,iv 0),(27,AV.p 10 0),(28,iv 0),(29,AV.p 13 0),(30,AV.sl (List.map Tb.cells m)),(31,AV.p 0 1),(32,sv (zai nm rows).table),(33,iv (a:Int)),(34,AV.sl (List.map Tb.cells m)),(35,AV.sl []),(36,AV.sl [[AV.sl (List.map Tb.cells m)],[AV.sl []]]),(37,AV.sl (List.map Tb.cells m)),(38,iv (a:Int)),(39,AV.bl false),(41,AV.tup [AV.agg [AV.own 6 ins.length,AV.nl,AV.nl],iv 0]),(42,AV.agg [iv (zai nm rows).kind,sv (zai nm rows).table,AV.sl (List.map (fun r=>[AV.sl (zad r)]) (zai nm rows).rows),AV.sl (zag []),AV.sl [],AV.sl (zad []),sv (zai nm rows).text]),(43,AV.sl (List.map Fr.cells frs)),(44,AV.sl (List.map Tb.cells m)),(45,AV.tup [AV.agg [AV.own 6 ins.length,AV.nl,AV.nl],iv 0]),(46,AV.agg [AV.own 6 ins.length,AV.nl,AV.nl]),(47,iv 0),(48,iv 0),(49,AV.bl false),(51,AV.p 7 1),(52,AV.nl),(53,iv 0),(54,AV.p 7 2),(55,AV.nl),(56,iv 0),(57,iv (↑(0+0):Int)),(58,AV.p 7 0),(59,AV.own 6 ins.length),(60,iv (ins.length:Int)),(61,iv (↑(0+0+ins.length):Int)),(62,AV.sl (List.map Tb.cells m)),(63,AV.own 8 m.length),(64,iv (↑(0+0+ins.length):Int)),(65,AV.bl false),(69,AV.agg [iv (zai nm rows).kind,sv (zai nm rows).table,AV.sl (List.map (fun r=>[AV.sl (zad r)]) (zai nm rows).rows),AV.sl (zag []),AV.sl [],AV.sl (zad []),sv (zai nm rows).text]),(70,AV.sl []),(71,AV.sl (List.map Tg.cells ts)),(72,AV.p 0 1),(73,sv (zai nm rows).table),(74,AV.p 0 0),(75,iv (zai nm rows).kind),(76,AV.sl []),(77,AV.sl []),(78,AV.sl (List.map Tb.cells m)),(79,iv 0),(80,iv 0),(81,AV.bl false),(83,AV.sl (List.map Tb.cells m)),(84,AV.sl (List.map Tg.cells ts)),(85,AV.p 0 1),(86,sv (zai nm rows).table),(87,AV.p 0 0),(88,iv (zai nm rows).kind),(89,AV.sl []),(90,AV.sl trig),(91,AV.sl []),(92,AV.sl (List.map Tb.cells m)),(93,iv (a:Int)),(94,AV.dp [sv t.sch.name,AV.sl (List.map Col.cells t.sch.cols),iv t.next,AV.sl (List.map Rw.cells t.rows)]),(95,AV.dp [sv t.sch.name,AV.sl (List.map Col.cells t.sch.cols),iv t.next,AV.sl (List.map Rw.cells t.rows)]),(96,AV.agg [sv t.sch.name,AV.sl (List.map Col.cells t.sch.cols)]),(97,AV.sl []),(98,AV.own 9 0),(99,AV.agg [AV.sl (List.map Tb.cells m),AV.sl trig,AV.sl [],sv t.sch.name,AV.sl (List.map Col.cells t.sch.cols),AV.own 9 0,AV.nl]),(100,AV.p 10 0),(101,AV.p 10 0),(102,AV.sl (List.map Tb.cells m)),(103,iv (a:Int)),(104,AV.dp [sv t.sch.name,AV.sl (List.map Col.cells t.sch.cols),iv t.next,AV.sl (List.map Rw.cells t.rows)]),(105,AV.agg [sv t.sch.name,AV.sl (List.map Col.cells t.sch.cols),iv t.next,AV.sl (List.map Rw.cells t.rows)]),(106,iv 0),(107,iv 0),(108,AV.bl false),(110,AV.tup [AV.agg [sv t2.sch.name,AV.sl (List.map Col.cells t2.sch.cols),iv t2.next,AV.sl (List.map Rw.cells t2.rows)],iv 0]),(111,AV.sl (List.map Tb.cells m)),(112,iv (a:Int)),(113,AV.dp [sv t.sch.name,AV.sl (List.map Col.cells t.sch.cols),iv t.next,AV.sl (List.map Rw.cells t.rows)]),(114,AV.agg [sv t.sch.name,AV.sl (List.map Col.cells t.sch.cols),iv t.next,AV.sl (List.map Rw.cells t.rows)]),(115,AV.agg [AV.own 6 ins.length,AV.nl,AV.nl]),(116,AV.tup [AV.agg [sv t2.sch.name,AV.sl (List.map Col.cells t2.sch.cols),iv t2.next,AV.sl (List.map Rw.cells t2.rows)],iv 0]),(117,AV.agg [sv t2.sch.name,AV.sl (List.map Col.cells t2.sch.cols),iv t2.next,AV.sl (List.map Rw.cells t2.rows)]),(118,iv 0)] [Blk.box [iv (zai nm rows).kind,sv (zai nm rows).table,AV.sl (List.map (fun r=>[AV.sl (zad r)]) (zai nm rows).rows),AV.sl (zag []),AV.sl [],AV.sl (zad []),sv (zai nm rows).text],Blk.box [iv (zai nm rows).kind,sv (zai nm rows).table,AV.sl (List.map (fun r=>[AV.sl (zad r)]) (zai nm rows).rows),AV.sl (zag []),AV.sl [],AV.sl (zad []),sv (zai nm rows).text],Blk.box [AV.own 6 ins.length,AV.nl,AV.nl],Blk.box [sv t.sch.name,AV.sl (List.map Col.cells t.sch.cols)],Blk.box [iv (zai nm rows).kind,sv (zai nm rows).table,AV.sl (List.map (fun r=>[AV.sl (zad r)]) (zai nm rows).rows),AV.sl (zag []),AV.sl [],AV.sl (zad []),sv (zai nm rows).text],Blk.box [sv t.sch.name,AV.sl (List.map Col.cells t.sch.cols)],Blk.row Ty.LValue (List.map vrow (List.map g ins)) true,Blk.box [AV.own 6 ins.length,AV.nl,AV.nl],Blk.row Ty.Table (List.map Tb.cells m) false,Blk.row Ty.int [] true,Blk.box [AV.sl (List.map Tb.cells m),AV.sl trig,AV.sl [],sv t.sch.name,AV.sl (List.map Col.cells t.sch.cols),AV.sl [],AV.own 12 0],Blk.box [sv t.sch.name,AV.sl (List.map Col.cells t.sch.cols),iv t.next,AV.sl (List.map Rw.cells t.rows)],Blk.row Ty.int [] false,Blk.box [sv t2.sch.name,AV.sl (List.map Col.cells t2.sch.cols),iv t2.next,AV.sl (List.map Rw.cells t2.rows)]],sb (rfl:false=false),sqx (OwnAt (List.map Tb.cells m) m.length (a:Int)),sx (.el t.cells) (And.intro (owed (p:=True∧True∧True∧True∧True)) (zdx Tb.cells (n:=m.length) (by simp) hx)),sd []] kr)⟩
theorem zjt (m:List Tb) (frs:List Fr) (nm:Str) (rows:List (List X)) (ts:List Tg) (trig:List (List AV)) (t t2:Tb) (a:Nat) (ins:List (List V)) (g:List V→List V) (hl:m.length≤1000) (hx:m[a]?=some t) (hal:a < m.length) (hfd:zaa E0 S.store_Find [tsl m,sv nm] [] (iv (a:Nat)) []) (hn:decide (((a:Nat):Int) < 0)=false) (hC:zaa E0 S.dml_Candidates [(zai nm rows).av,fsl frs,tsl m] [] (.tup [.agg [.own 5 ins.length,.nl,.nl],iv 0]) [.box (zai nm rows).cells,.box [.own 5 ins.length,.nl,.nl],.box t.sch.cells,.box (zai nm rows).cells,.box t.sch.cells,.row Ty.LValue (ins.map vrow) false]) (hd:∀ t∈m,zac t.sch.cols∧zac t.rows∧∀ r∈t.rows,zac r.vals) (hF:zaa E0 S.before_Applicable [.sl (ts.map Tg.cells),sv nm,iv 1,.sl [],bv false] [] (.sl []) []) (hT:zaa E0 S.before_Applicable [.sl (ts.map Tg.cells),sv nm,iv 1,.sl [],bv true] [] (.sl trig) []) (hz:(((0+0+ins.length:Nat):Int)==0)=false) (hr:zac t.rows) (hli:zac ins) (hne:ins≠[]) (hR:∀ l∈ins,zaa E0 S.before_Row [.sl trig,.sl [],t.sch.av,.sl [],vsl l,tsl m,.sl []] [] (.tup [vsl (g l),.sl [],.sl [],iv 0]) []) (hA:zaa E0 S.keys_Apply [t.av,insC (ins.map g)] [] (.tup [t2.av,iv 0]) []):zaa E0 S.statement_Run [tsl m,.sl (ts.map Tg.cells),.sl [],(zai nm rows).av,fsl frs,.sl [],.sl []] [] (.tup [tsl (m.set a t2),.sl [],.sl [],iv (ins.length:Nat),iv 0]) []:=by
 obtain ⟨r,n,e,⟨rfl,rfl,rfl⟩,h⟩:=zwN m frs nm rows ts trig t t2 a ins g hl hx hal hfd hn hC hd hF hT hz hr hli hne hR hA
 rw [← List.map_set] at h
 exact h
end Go.AM
namespace Go.AM
set_option maxRecDepth 100000
set_option maxHeartbeats 1000000
set_option linter.unusedSimpArgs false
set_option linter.unusedVariables false
theorem zdQ {s:Sch} {i:Nat} {x:Col} (h:(za7 x.name&&decide (1≤x.type)&&decide (x.type≤3)&&(!x.key || x.notNull)&&(idxF (fun c=>colC c x.name) s.cols 0==((i:Nat):Int)))=true):ColV s i x:=by
 simp only [Bool.and_eq_true,decide_eq_true_eq,beq_iff_eq,Bool.or_eq_true,Bool.not_eq_true'] at h
 obtain ⟨⟨⟨⟨h1,h2⟩,h3⟩,h4⟩,h5⟩:=h
 refine ⟨by rw [h1];rfl,by simp;omega,by simp;omega,fun hk=>?_,by simp [h5]⟩
 rcases h4 with h4|h4
 ·rw [hk] at h4;cases h4
 ·exact h4
theorem zld {s:Sch} (hs:s∈zao):SchV s:=by
 simp only [zao,List.mem_cons,List.not_mem_nil,or_false] at hs
 rcases hs with rfl|rfl|rfl
 ·refine ⟨by kernel_rfl,by kernel_rfl,by kernel_rfl,fun i x hx=>?_,by decide⟩
  match i,hx with
  | 0,hx=>cases hx;exact zdQ kr
  | 1,hx=>cases hx;exact zdQ kr
  | i+2,hx=>simp at hx
 ·refine ⟨by kernel_rfl,by kernel_rfl,by kernel_rfl,fun i x hx=>?_,by decide⟩
  match i,hx with
  | 0,hx=>cases hx;exact zdQ kr
  | 1,hx=>cases hx;exact zdQ kr
  | 2,hx=>cases hx;exact zdQ kr
  | 3,hx=>cases hx;exact zdQ kr
  | i+4,hx=>simp at hx
 ·refine ⟨by kernel_rfl,by kernel_rfl,by kernel_rfl,fun i x hx=>?_,by decide⟩
  match i,hx with
  | 0,hx=>cases hx;exact zdQ kr
  | 1,hx=>cases hx;exact zdQ kr
  | 2,hx=>cases hx;exact zdQ kr
  | i+3,hx=>simp at hx
theorem znc {s:Sch} (hs:s∈zao):idxF (fun c=>c.key) s.cols 0=keyC s:=by
 simp only [zao,List.mem_cons,List.not_mem_nil,or_false] at hs
 rcases hs with rfl|rfl|rfl <;> kernel_rfl
theorem StoreV.tabV {n:Int} {m:List Tb} (h:StoreV n m) (hn:n≤100) {t:Tb} (ht:t∈m):TabV t:=by
 have hs:t.sch∈zao:=by rw [← h.schs];exact List.mem_map_of_mem ht
 have h1:=h.len t ht
 have h2:=h.next t ht
 exact ⟨zld hs,by simp;omega,h.rows t ht,by simp;omega,znc hs⟩
end Go.AM
namespace Go.AM
set_option maxRecDepth 100000
set_option maxHeartbeats 1000000
set_option linter.unusedSimpArgs false
set_option linter.unusedVariables false
def vNul:V:=⟨0,0,⟨#[]⟩⟩
abbrev sLog:Str:=⟨#[108,111,103]⟩
abbrev sNn:Str:=⟨#[110]⟩
theorem znX (g:Rw→List V→Int × List V) (hg:∀ r its,g r its=(0,its)):∀ (l:List Rw) (n:Nat) (its:List V),selR (fun _=>(true,0)) g l n its=(0,n+l.length,its)
 | [],n,its=>rfl
 | r::l,n,its=>by
  simp only [selR,hg]
  rw [show ((0:Int) != 0)=false from rfl]
  simp only [cond_false,cond_true]
  rw [znX g hg l (n+1) its,List.length_cons]
  congr 2;omega
abbrev vCnt (n:Nat):V:=⟨1,(n:Int),⟨#[]⟩⟩
theorem zos (N:Nat) (s:Sch) (old new:List V) (m:List Tb):bRow N [] [] s old new m []=(new,[],[],0):=by rfl
theorem znl:NwOk []:=⟨by decide,fun v hv=>by simp at hv⟩
theorem zri (new:List V) (m:List Tb) (ht:TbOk m) (hg:TbG m) (hn:NwOk new):zaa E0 S.before_Row [.sl ([]:List (List AV)),.sl [],zar.av,.sl [],vsl new,tsl m,.sl []] [] (.tup [vsl new,.sl [],.sl [],iv 0]) []:=by
 have h1:=zj7 7 [] [] zar [] new m [] (by decide) (by decide) (by decide) (by decide) znl ht hg (by decide) (fun t ht=>by simp at ht) hn hn.short (by decide)
 rw [zos] at h1
 exact h1
end Go.AM
namespace Go.AM
set_option maxRecDepth 100000
set_option maxHeartbeats 1000000
set_option linter.unusedSimpArgs false
set_option linter.unusedVariables false
theorem zpD {t:Tb} {m:List Tb} (hs:t.sch=zar):zbV (t::m) sLog=some t∧idxF (fun x=>zaA x sLog) (t::m) 0=0:=by
 have h:zaA t sLog=true:=by unfold zaA;rw [hs];kernel_rfl
 constructor
 ·unfold zbV;rw [List.find?_cons,h]
 ·unfold idxF;rw [h];rfl
theorem zg0 (n:Nat) (v:V) (frs:List Fr) (m:List Tb):eval (n+1) (xLit v) frs m=(v,0):=by
 have e:∀ (f:X→V × Int) (op:List V→V × Int) (agg:V × Int),valF f op agg (xLit v) frs m=(v,0):=fun f op agg=>by kernel_rfl
 exact e _ _ _
theorem zkT (l:List Rw):zbc (idxF (fun c=>c.key) zar.cols 0) l=[]:=by
 have e:idxF (fun c=>c.key) zar.cols 0=-1:=by kernel_rfl
 rw [e]
 unfold zbc
 induction l with
 | nil=>rfl
 | cons x r ih=>rw [List.filterMap_cons,show zcO (-1) x=none from rfl];exact ih
structure LogIn (t:Tb) (r:List Tb):Prop where
 sch:t.sch=zar
 tab:∀ x∈t::r,TabV x
 to:TbOk (t::r)
 tg:TbG (t::r)
 ml:(t::r).length≤1000
end Go.AM
namespace Go.AM
set_option maxRecDepth 100000
set_option maxHeartbeats 1000000
set_option linter.unusedSimpArgs false
set_option linter.unusedVariables false
abbrev evV (frs:List Fr) (m:List Tb) (l:List X):List V:=l.map fun x=>(eval 3 x frs m).1
theorem ziG (t:Tb) (r:List Tb) (frs:List Fr) (ts tr:List Tg) (rows:List (List X)) (g:List V→List V) (h:LogIn t r) (hfo:FsOk 4 frs) (hfg:FsG frs) (hb:actB (vX 3) (zai sLog rows)=true) (hne:rows≠[]) (hpl:rows.length≤8) (hx:∀ l∈rows,l.length=2∧∀ x∈l,XOk 3 x∧(eval 3 x frs (t::r)).2=0)
  (hF:zaa E0 S.before_Applicable [.sl (ts.map Tg.cells),sv sLog,iv 1,.sl [],bv false] [] (.sl []) []) (hT:zaa E0 S.before_Applicable [.sl (ts.map Tg.cells),sv sLog,iv 1,.sl [],bv true] [] (.sl (tr.map Tg.cells)) [])
  (hR:∀ l∈rows,zaa E0 S.before_Row [.sl (tr.map Tg.cells),.sl [],zar.av,.sl [],vsl (evV frs (t::r) l),tsl (t::r),.sl []] [] (.tup [vsl (g (evV frs (t::r) l)),.sl [],.sl [],iv 0]) [])
  (hG:∀ l∈rows,zbU zar.cols (g (evV frs (t::r) l))) (hlen:t.rows.length+rows.length≤100) (hn:t.next≤4000) :
  zaa E0 S.statement_Run [tsl (t::r),.sl (ts.map Tg.cells),.sl [],(zai sLog rows).av,fsl frs,.sl [],.sl []] [] (.tup [tsl (insT t (rows.map fun l=>g (evV frs (t::r) l))::r),.sl [],.sl [],iv (rows.length:Nat),iv 0]) []:=by
 obtain ⟨hf1,hf2⟩:=zpD (t:=t) (m:=r) h.sch
 have hfd:zaa E0 S.store_Find [tsl (t::r),sv sLog] [] (iv (((0:Nat)):Int)) []:=by
  have h1:=zj0 (t::r) sLog h.to.len
  rw [hf2] at h1;exact h1
 have hD:DmlIn 3 (zai sLog rows) frs (t::r):=by
  refine ⟨⟨by simp;omega,fun l hl=>?_,by simp,fun q hq=>by simp at hq,by simp,fun s hs=>by simp at hs,by simp,fun x hx=>by simp at hx⟩,by simp,hfo,hfg,h.to,h.tg,fun x hx r hr=>(h.tab x hx).vals r hr⟩
  exact ⟨by have:=(hx l hl).1;simp only [Few];omega,fun x hm=>((hx l hl).2 x hm).1⟩
 have htg:=hD.target
 have htt:tgt (zai sLog rows) (actB (vX 3) (zai sLog rows)) (t::r)=(zar,0):=by
  unfold tgt
  rw [hb,zeQ]
  have e1:zbV (t::r) (zai sLog rows).table=some t:=hf1
  rw [e1]
  simp only [h.sch];rfl
 rw [htt] at htg
 obtain ⟨out,hout,hC⟩:=zev sLog rows zar frs (t::r) (fun x=>eval 3 x frs (t::r)) htg (by decide) (by simp only [zac];omega)
  (fun l hl=>⟨by have:=(hx l hl).1;simp only [zac];omega,fun x hm=>zfn 3 x frs (t::r) ((hx l hl).2 x hm).1 hfo.less hfg h.to h.tg⟩)
  (fun l hl x hm=>by simp [((hx l hl).2 x hm).2])
  (fun l hl=>by rw [zf7,(hx l hl).1];rfl)
 have e:out=rows.map (evV frs (t::r)):=by
  rw [hout,List.take_length]
 subst e
 have hgl:∀ l∈rows.map (evV frs (t::r)),∃ p∈rows,evV frs (t::r) p=l:=fun l hl=>List.mem_map.1 hl
 have hlast:=zjt (t::r) frs sLog rows ts (tr.map Tg.cells) t (insT t ((rows.map (evV frs (t::r))).map g)) 0 (rows.map (evV frs (t::r))) g h.ml rfl (by simp) hfd (by decide) (by rw [h.sch];exact hC)
  (fun x hx=>⟨(h.tab x hx).sch.short,(h.tab x hx).shr,(h.tab x hx).vals⟩) hF hT (by cases rows with|nil=>exact absurd rfl hne|cons a b=>simp only [List.length_map,List.length_cons];rw [beq_eq_false_iff_ne];omega)
  (h.tab t (by simp)).shr (by simp only [zac,List.length_map];omega) (by simpa using hne)
  (fun l hl=>by obtain ⟨p,hp1,rfl⟩:=hgl l hl;rw [h.sch];exact hR p hp1)
  (zgc t _ (h.tab t (by simp)) (fun l hl=>by
   obtain ⟨l2,hl2,rfl⟩:=List.mem_map.1 hl
   obtain ⟨p,hp1,rfl⟩:=hgl l2 hl2
   rw [h.sch];exact hG p hp1) (by simp only [List.length_map];omega) (by simp only [List.length_map];omega) (by rw [h.sch,zkT];exact List.nodup_nil))
 rw [List.length_map,List.map_map,List.set_cons_zero] at hlast
 exact hlast
end Go.AM
namespace Go.AM
set_option maxRecDepth 100000
set_option maxHeartbeats 1000000
set_option linter.unusedSimpArgs false
set_option linter.unusedVariables false
def tbK:Tb:=⟨zar,1,[]⟩
theorem zln:zar∈zao:=by simp [zao,zar]
theorem tbK_v:TabV tbK:=⟨zld zln,by decide,RowsV.nil (by decide),by decide,znc zln⟩
theorem zot {v:V} (hg:v.Good) (hk:v.kind=0∨v.kind=1):zbU zar.cols [v,vNul]:=by
 refine ⟨rfl,fun k c w h1 h2=>?_⟩
 match k,h1,h2 with
 | 0,h1,h2=>cases h1;cases h2;exact ⟨hg,hk,fun h=>by cases h⟩
 | 1,h1,h2=>cases h1;cases h2;exact ⟨zaD,.inl rfl,fun h=>by cases h⟩
 | k+2,h1,h2=>simp at h2
structure SeesIn (m:List Tb):Prop where
 ex:∃ t r,m=t::r∧LogIn t r∧t.rows.length≤5∧t.next≤3000
def hdT (m:List Tb):Tb:=m.headD ztX
abbrev newR (m:List Tb) (rows:List (List X)):List (List V):=List.replicate rows.length [vCnt (hdT m).rows.length,vNul]
structure SeesRows (rows:List (List X)):Prop where
 rep:rows=List.replicate rows.length [xLit vNul,xLit vNul]
 lo:1≤rows.length
 hi:rows.length≤5
structure SeesOut (m:List Tb) (rows:List (List X)) (m2:List Tb):Prop where
 len:m2.length=m.length
 at_:m2[0]?=some (insT (hdT m) (newR m rows))
theorem SeesIn.short {m:List Tb} (h:SeesIn m):zac m:=by
 obtain ⟨t,r,rfl,h1,_⟩:=h.ex;exact h1.to.len
theorem SeesIn.ml {m:List Tb} (h:SeesIn m):m.length≤1000:=by
 obtain ⟨t,r,rfl,h1,_⟩:=h.ex;exact h1.ml
theorem SeesIn.rl {m:List Tb} (h:SeesIn m):(hdT m).rows.length≤5:=by
 obtain ⟨t,r,rfl,_,h2,_⟩:=h.ex;exact h2
theorem ztM (m:List Tb) (h:0 < m.length):ElAt (m.map Tb.cells) (0:Int) (hdT m).cells 4:=by
 cases m with
 | nil=>simp at h
 | cons t r=>exact ⟨by simp,rfl,rfl⟩
theorem SeesIn.pos {m:List Tb} (h:SeesIn m):0 < m.length:=by
 obtain ⟨t,r,rfl,_⟩:=h.ex;simp
theorem SeesOut.hd {m m2:List Tb} {rows:List (List X)} (h:SeesOut m rows m2):hdT m2=insT (hdT m) (newR m rows):=by
 have h1:=h.at_
 cases m2 with
 | nil=>simp at h1
 | cons a r=>simp only [List.getElem?_cons_zero,Option.some.injEq] at h1;exact h1
theorem SeesOut.pos {m m2:List Tb} {rows:List (List X)} (h:SeesOut m rows m2):0 < m2.length:=by
 have h1:=h.at_
 cases m2 with
 | nil=>simp at h1
 | cons a r=>simp
end Go.AM
namespace Go.AM
set_option maxRecDepth 100000
set_option maxHeartbeats 1000000
set_option linter.unusedSimpArgs false
set_option linter.unusedVariables false
abbrev sUu:Str:=⟨#[117]⟩
abbrev sId2:Str:=⟨#[105,100]⟩
abbrev zhs:Str:=⟨#[78,69,87]⟩
abbrev zbz:Sch:=zjk sUu
def zcx:List (List X):=[[xCol zhs sId2,xLit vNul]]
abbrev za8 (wh:List X):Tg:=⟨⟨#[97]⟩,sUu,false,1,[],true,[],[],[],wh,[zai sLog zcx]⟩
abbrev zcU (row:List V):List Fr:=[Fr.mk zhs true zbz.cols row]
theorem zkK (wh:List X) (old row:List V):zaS (za8 wh) zbz old row=zcU row:=by show _=_;kernel_rfl
theorem zko:zbz∈zao:=by
 have h:zbz=zao.getD 2 ⟨⟨#[]⟩,[]⟩:=by kernel_rfl
 rw [h];simp [zao]
theorem znH {row:List V} (h:zbU zbz.cols row):∃ a b c:V,row=[a,b,c]∧a.kind=1∧a.Good∧b.Good∧c.Good:=by
 have hl:row.length=3:=h.len.trans kr
 match row,hl with
 | [a,b,c],_ =>
  have h0:=h.at_ 0 ⟨⟨#[105,100]⟩,1,true,true⟩ a kr rfl
  have h1:=h.at_ 1 ⟨⟨#[110]⟩,1,true,false⟩ b kr rfl
  have h2:=h.at_ 2 ⟨⟨#[109]⟩,1,false,false⟩ c kr rfl
  exact ⟨a,b,c,rfl,h0.nn rfl,h0.good,h1.good,h2.good⟩
theorem zn8 (a b c:V) (m:List Tb):eval 3 (xCol zhs sId2) (zcU [a,b,c]) m=(a,0):=by
 have e:∀ (f:X→V × Int) (op:List V→V × Int) (agg:V × Int),valF f op agg (xCol zhs sId2) (zcU [a,b,c]) m=(a,0):=fun f op agg=>by show _=_;kernel_rfl
 exact e _ _ _
theorem zpL {n:Nat}:XOk (n+1) (xCol zhs sId2):=zwG ⟨_,_,rfl⟩
theorem zux (wh:List X) (hw:Few wh∧∀ x∈wh,XOk 7 x):TgOk 7 (za8 wh):=by
 refine ⟨by simp [za8],by simp [za8],by simp [za8],by simp [za8],by simpa [za8] using hw.1,hw.2,by simp [za8],?_⟩
 simp only [za8,List.mem_singleton,forall_eq]
 refine ⟨by simp [zcx],?_,by simp,by simp,by simp,by simp,by simp,by simp⟩
 intro r hr
 simp only [zcx,List.mem_singleton] at hr
 subst hr
 refine ⟨by simp,fun x hx=>?_⟩
 simp only [List.mem_cons,List.not_mem_nil,or_false] at hx
 rcases hx with rfl|rfl
 ·exact zpL
 ·exact zir zaD
theorem zoc (wh:List X) (hw:Few wh∧∀ x∈wh,XOk 7 x) (b:Bool):zaa E0 S.before_Applicable [.sl ([za8 wh].map Tg.cells),sv sLog,iv 1,.sl [],bv b] [] (.sl []) []:=by
 have h:=zfh 7 [za8 wh] sLog 1 [] b (by simp) (by decide) (fun t ht=>by simp only [List.mem_singleton] at ht;exact ht ▸ (zux wh hw).sh)
 have e:[za8 wh].filter (appl sLog 1 [] b)=[]:=by show _=_;cases b <;> kernel_rfl
 rw [e] at h
 exact h
def zoU (m:List Tb) (row:List V):List Tb:=m.set 0 (insT (hdT m) [[row.headD vNul,vNul]])
theorem zkw:Few zbz.cols:=by
 have e:zbz.cols.length=3:=by kernel_rfl
 simp only [Few];omega
theorem zuD {a b c:V} (ha:a.Good) (hb:b.Good) (hc:c.Good) (n:Nat) (hn:n≤900000):FsOk n (zcU [a,b,c])∧FsG (zcU [a,b,c]):=by
 have hw:NwOk [a,b,c]:=⟨by simp,fun v hv=>by
  simp only [List.mem_cons,List.not_mem_nil,or_false] at hv
  rcases hv with rfl|rfl|rfl <;> assumption⟩
 have h:=zjg (t:=za8 []) (s:=zbz) (a:=[]) (b:=[a,b,c]) zkw znl hw n hn
 rw [zkK] at h
 exact h
structure RowU (row:List V):Prop where
 ok:zbU zbz.cols row
theorem zii (m:List Tb) (row:List V) (wh:List X) (h:SeesIn m) (hr:RowU row) (hw:Few wh∧∀ x∈wh,XOk 7 x):zaa E0 S.statement_Run [tsl m,.sl ([za8 wh].map Tg.cells),.sl [],(zai sLog zcx).av,fsl (zcU row),.sl [],.sl []] [] (.tup [tsl (zoU m row),.sl [],.sl [],iv 1,iv 0]) []:=by
 obtain ⟨t,r,rfl,h1,h2,h3⟩:=h.ex
 obtain ⟨a,b,c,rfl,hk,ha,hb,hc⟩:=znH hr.ok
 obtain ⟨hf,hg⟩:=zuD ha hb hc 4 (by decide)
 have ev:evV (zcU [a,b,c]) (t::r) [xCol zhs sId2,xLit vNul]=[a,vNul]:=by
  simp only [evV,List.map_cons,List.map_nil,zn8,zg0]
 have hm:∀ l∈zcx,l=[xCol zhs sId2,xLit vNul]:=fun l hl=>by simpa [zcx] using hl
 have h:=ziG t r (zcU [a,b,c]) [za8 wh] [] zcx id h1 hf hg kr (by simp [zcx]) (by simp [zcx])
  (fun l hl=>by
   rw [hm l hl]
   refine ⟨rfl,fun x hx=>?_⟩
   simp only [List.mem_cons,List.not_mem_nil,or_false] at hx
   rcases hx with rfl|rfl
   ·exact ⟨zpL,by rw [zn8]⟩
   ·exact ⟨zir zaD,by rw [zg0]⟩)
  (zoc wh hw false) (zoc wh hw true)
  (fun l hl=>by
   rw [hm l hl,ev]
   exact zri _ _ h1.to h1.tg ⟨by simp,fun v hv=>by
    simp only [List.mem_cons,List.not_mem_nil,or_false] at hv
    rcases hv with rfl|rfl
    ·exact ha
    ·exact zaD⟩)
  (fun l hl=>by rw [hm l hl,ev];exact zot ha (.inr hk)) (by simp only [zcx,List.length_cons,List.length_nil];omega) (by omega)
 have e:zcx.map (fun l=>id (evV (zcU [a,b,c]) (t::r) l))=[[a,vNul]]:=by
  show [evV (zcU [a,b,c]) (t::r) [xCol zhs sId2,xLit vNul]]=_
  rw [ev]
 rw [e] at h
 exact h
end Go.AM
namespace Go.AM
set_option maxRecDepth 100000
set_option maxHeartbeats 1000000
set_option linter.unusedSimpArgs false
set_option linter.unusedVariables false
theorem zcI {p:Prop} (h:p:=by first|assumption|omega|(simp;done)|(simp;omega)):p:=h
theorem zjv {p:Prop} (h:p:=by (simp only [zaS,cond_true,cond_false, *] <;> rfl)):p:=h
theorem zo2 {p:Prop} (h:p:=by first|assumption|exact zgU (by assumption)):p:=h
structure Dl where
 table:Str
 ins:List Rw
 del:List Rw
 upd:List Pr
def Dl.cells (d:Dl):List AV:=[sv d.table,.sl (d.ins.map Rw.cells),.sl (d.del.map Rw.cells),.sl (d.upd.map Pr.cells)]
abbrev Dl.av (d:Dl):AV:=.agg d.cells
structure Itm where
 name:Str
 row:Int
 old:List V
 nw:List V
def Itm.cells (i:Itm):List AV:=[sv i.name,iv i.row,vsl i.old,vsl i.nw]
abbrev Itm.av (i:Itm):AV:=.agg i.cells
abbrev tgN (t:Tg) (n:Str):Bool:=t.name.toList==n.toList
abbrev dlC (t:Dl) (n:Str):Bool:=t.table.toList==n.toList
theorem c_fiC1 (t:Tg) (n:Itm) :∃ (r:Bool),r=tgN t n.name∧zaa E0 S.fire_Item_c1 [t.av,.p 0 0] [.box n.cells] (bv r) [.box n.cells]:=by
 exact ⟨ByteArray.toList t.name==ByteArray.toList n.name,(by rfl),wk At.fire_Item_c1 [] kr⟩
theorem zhZ (t:Tg) (n:Itm):zaa E0 S.fire_Item_c1 [t.av,.p 0 0] [.box n.cells] (bv (tgN t n.name)) [.box n.cells]:=by
 obtain ⟨r,rfl,h⟩:=c_fiC1 t n
 exact h
noncomputable def zs8 (l:List Tg) (n:Itm) (i:Nat) :Cfg:=zal B.slices_IndexFunc_Trigger 0 [(0,.sl (l.map Tg.cells)),(1,.fn S.fire_Item_c1 [.p 0 0]),(7,iv ((l.map Tg.cells).length:Nat)),(8,iv (i:Nat))] [.box n.cells]
theorem zdz (l:List Tg) (n:Itm) (hl:zac l) (i:Nat)  (hi:i≤(l).length) (hI:idxF (fun t=>tgN t n.name) l 0=idxF (fun t=>tgN t n.name) (l.drop i) i):((idxF (fun t=>tgN t n.name) l 0=idxF (fun t=>tgN t n.name) (l.drop (l).length) (l).length)∧(decide ((((l).length:Nat):Int) < (((l.map Tg.cells).length:Nat):Int))=false)∧∀ R,Good E0 B.slices_IndexFunc_Trigger [.box n.cells] (zs8 l n (l).length ) R→Good E0 B.slices_IndexFunc_Trigger [.box n.cells] (zs8 l n i ) R)∨(∃ (r:Int),r=idxF (fun t=>tgN t n.name) l 0∧Good E0 B.slices_IndexFunc_Trigger [.box n.cells] (zs8 l n i ) (Shut 1 fun rZ hZ=>rZ=(iv r)∧hZ=[.box n.cells])):=by
 obtain ⟨kk,hk⟩:∃ kk,i+kk=(l).length:=⟨(l).length - i,by omega⟩
 induction kk generalizing i  with
 | zero =>
  have e0:i=(l).length:=by omega
  subst e0
  exact .inl ⟨hI,by simp,fun R hg=>hg⟩
 | succ kk ih =>
  obtain ⟨x,hx⟩:=zav (l:=l) (i:=i) (by omega)
  have h0:decide (((i:Nat):Int) < (((l.map Tg.cells).length:Nat):Int))=true:=by simp;omega
  have hw:IntKind.i64.wrap (((i:Nat):Int)+1)=((i+1:Nat):Int):=zak i (by first|omega|(simp only [zac,Few] at *;omega))
  let p_1:List St:=[sb h0,se (zaf Tg.cells hx rfl),sl [0] (zhZ x n)]
  cases h1:tgN x n.name
  ·exact (ih (i+1) (by omega) (by exact zim hI hx (by assumption)) (by omega)).elim (fun ⟨qZ,xZ,gZ⟩=>.inl ⟨qZ,xZ,fun R hg=>zab (wkl (p_1++[sb h1,si hw]) [0,1,7,8] 1 kr (gZ R hg))⟩) (fun ⟨rY,pZ,gZ⟩=>.inr ⟨rY,pZ,zab (wkl [sb h0,se (zaf Tg.cells hx rfl),sl [0] (zhZ x n),sb h1,si hw] [0,1,7,8] 1 kr gZ)⟩)
  ·exact .inr ⟨(i:Int),(by exact zkh hI hx (by assumption)),zab (wkr (p_1++[sb h1]) kr)⟩
theorem c_ixG (l:List Tg) (n:Itm) (hl:zac l):∃ (r:Int),r=idxF (fun t=>tgN t n.name) l 0∧zaa E0 S.slices_IndexFunc_Trigger [.sl (l.map Tg.cells),.fn S.fire_Item_c1 [.p 0 0]] [.box n.cells] (iv r) [.box n.cells]:=by
 rcases zdz l n (by first|assumption|rfl|omega) 0 (by first|assumption|rfl|omega) (by first|assumption|rfl|omega) with ⟨q1,q1_1,g1⟩|⟨r1_0,p1_0,g1⟩
 ·exact ⟨-1,zo2,wkc At.slices_IndexFunc_Trigger [] [0,1,7,8] 1 kr (g1 _ (zab (wkr [sb q1_1] kr)))⟩
 ·exact ⟨r1_0,zo2,wkc At.slices_IndexFunc_Trigger [] [0,1,7,8] 1 kr (g1)⟩
theorem zdj (l:List Tg) (n:Itm) (hl:zac l):zaa E0 S.slices_IndexFunc_Trigger [.sl (l.map Tg.cells),.fn S.fire_Item_c1 [.p 0 0]] [.box n.cells] (iv (idxF (fun t=>tgN t n.name) l 0)) [.box n.cells]:=by
 obtain ⟨r,rfl,h⟩:=c_ixG l n hl
 exact h
theorem c_efC1 (t:Dl) (n:Str) :∃ (r:Bool),r=dlC t n∧zaa E0 S.event_Find_c1 [t.av,.p 0 0] [.box [sv n]] (bv r) [.box [sv n]]:=by
 exact ⟨ByteArray.toList t.table==ByteArray.toList n,(by rfl),wk At.event_Find_c1 [] kr⟩
theorem zhq (t:Dl) (n:Str):zaa E0 S.event_Find_c1 [t.av,.p 0 0] [.box [sv n]] (bv (dlC t n)) [.box [sv n]]:=by
 obtain ⟨r,rfl,h⟩:=c_efC1 t n
 exact h
noncomputable def zsg (l:List Dl) (n:Str) (i:Nat) :Cfg:=zal B.slices_IndexFunc_Delta 0 [(0,.sl (l.map Dl.cells)),(1,.fn S.event_Find_c1 [.p 0 0]),(7,iv ((l.map Dl.cells).length:Nat)),(8,iv (i:Nat))] [.box [sv n]]
theorem zdW (l:List Dl) (n:Str) (hl:zac l) (i:Nat)  (hi:i≤(l).length) (hI:idxF (fun t=>dlC t n) l 0=idxF (fun t=>dlC t n) (l.drop i) i):((idxF (fun t=>dlC t n) l 0=idxF (fun t=>dlC t n) (l.drop (l).length) (l).length)∧(decide ((((l).length:Nat):Int) < (((l.map Dl.cells).length:Nat):Int))=false)∧∀ R,Good E0 B.slices_IndexFunc_Delta [.box [sv n]] (zsg l n (l).length ) R→Good E0 B.slices_IndexFunc_Delta [.box [sv n]] (zsg l n i ) R)∨(∃ (r:Int),r=idxF (fun t=>dlC t n) l 0∧Good E0 B.slices_IndexFunc_Delta [.box [sv n]] (zsg l n i ) (Shut 1 fun rZ hZ=>rZ=(iv r)∧hZ=[.box [sv n]])):=by
 obtain ⟨kk,hk⟩:∃ kk,i+kk=(l).length:=⟨(l).length - i,by omega⟩
 induction kk generalizing i  with
 | zero =>
  have e0:i=(l).length:=by omega
  subst e0
  exact .inl ⟨hI,by simp,fun R hg=>hg⟩
 | succ kk ih =>
  obtain ⟨x,hx⟩:=zav (l:=l) (i:=i) (by omega)
  have h0:decide (((i:Nat):Int) < (((l.map Dl.cells).length:Nat):Int))=true:=by simp;omega
  have hw:IntKind.i64.wrap (((i:Nat):Int)+1)=((i+1:Nat):Int):=zak i (by first|omega|(simp only [zac,Few] at *;omega))
  let p_1:List St:=[sb h0,se (zaf Dl.cells hx rfl),sl [0] (zhq x n)]
  cases h1:dlC x n
  ·exact (ih (i+1) (by omega) (by exact zim hI hx (by assumption)) (by omega)).elim (fun ⟨qZ,xZ,gZ⟩=>.inl ⟨qZ,xZ,fun R hg=>zab (wkl (p_1++[sb h1,si hw]) [0,1,7,8] 1 kr (gZ R hg))⟩) (fun ⟨rY,pZ,gZ⟩=>.inr ⟨rY,pZ,zab (wkl [sb h0,se (zaf Dl.cells hx rfl),sl [0] (zhq x n),sb h1,si hw] [0,1,7,8] 1 kr gZ)⟩)
  ·exact .inr ⟨(i:Int),(by exact zkh hI hx (by assumption)),zab (wkr (p_1++[sb h1]) kr)⟩
theorem c_ixD (l:List Dl) (n:Str) (hl:zac l):∃ (r:Int),r=idxF (fun t=>dlC t n) l 0∧zaa E0 S.slices_IndexFunc_Delta [.sl (l.map Dl.cells),.fn S.event_Find_c1 [.p 0 0]] [.box [sv n]] (iv r) [.box [sv n]]:=by
 rcases zdW l n (by first|assumption|rfl|omega) 0 (by first|assumption|rfl|omega) (by first|assumption|rfl|omega) with ⟨q1,q1_1,g1⟩|⟨r1_0,p1_0,g1⟩
 ·exact ⟨-1,zo2,wkc At.slices_IndexFunc_Delta [] [0,1,7,8] 1 kr (g1 _ (zab (wkr [sb q1_1] kr)))⟩
 ·exact ⟨r1_0,zo2,wkc At.slices_IndexFunc_Delta [] [0,1,7,8] 1 kr (g1)⟩
theorem zdv (l:List Dl) (n:Str) (hl:zac l):zaa E0 S.slices_IndexFunc_Delta [.sl (l.map Dl.cells),.fn S.event_Find_c1 [.p 0 0]] [.box [sv n]] (iv (idxF (fun t=>dlC t n) l 0)) [.box [sv n]]:=by
 obtain ⟨r,rfl,h⟩:=c_ixD l n hl
 exact h
theorem zrv (l:List Dl) (n:Str) (k:Nat) (d:Dl) (hx:l[k]?=some d) (hkl:k < l.length) (hk:zaa E0 S.slices_IndexFunc_Delta [.sl (l.map Dl.cells),.fn S.event_Find_c1 [.p 0 0]] [.box [sv n]] (iv (k:Nat)) [.box [sv n]]) (hn:decide (((k:Nat):Int) < 0)=false):∃ (r:Dl) (b:Bool),(r=d∧b=true)∧zaa E0 S.event_Find [.sl (l.map Dl.cells),sv n] [] (.tup [r.av,bv b]) []:=by
 exact ⟨d,true,(by exact ⟨rfl,rfl⟩),wk At.event_Find [sl [0] hk,sb (rfl:false=false),se (zaf Dl.cells hx rfl)] kr⟩
theorem zml (t:Tg) (s:Sch) (a b:List V) (hs:zac s.cols) (ha:zac a) (hb:zac b):∃ (r:List Fr),r=zaS t s a b∧zaa E0 S.trigger_Frames [t.av,s.av,vsl a,vsl b] [] (fsl r) []:=by
 cases h1:!t.each
 ·cases h2:t.event==2
  ·cases h3:t.event==3
   ·cases h4:t.event==1
    ·exact ⟨[],zjv,wk At.trigger_Frames [sb h1,sg h2,sb h3,sg h4,sb h2] kr⟩
    ·exact ⟨[Fr.mk (ByteArray.mk #[78,69,87]) true s.cols b],zjv,(by (try simp only [X.av,Qy.av,V.av,Tb.av,Sch.av,Pl.av,xsl,fsl,vsl,tsl,List.map_append,List.map_cons,List.map_nil,V.cells,Col.cells,Rw.cells,Tb.cells,Fr.cells,Sch.cells,Pl.cells,zaW,zaI,zaO,zaM,zaT,X.cells,Qy.cells,X.args_mk,X.sub_mk,Qy.items_mk,Qy.wh_mk,xCol,xLit,xBin,xNeg,Ac.cells,Se.cells,Pr.cells,Ch.cells,Rw.cells,Dl.cells,Itm.cells]);exact wk At.trigger_Frames [sqx (1=1),sb h1,sg h2,sb h3,sb h4,sc (zat s.cols zcI),sc (zap b zcI),sqx (True∧True∧s.cols.length=(List.map Col.cells s.cols).length∧b.length=(List.map V.cells b).length∧True),sqx (AllLen [[sv (ByteArray.mk #[78,69,87]),bv true,AV.sl (List.map Col.cells s.cols),AV.sl (List.map V.cells b)]] 4∧Nat.le 72 140737488355328)] kr)⟩
   ·cases h5:t.event==1
    ·exact ⟨[Fr.mk (ByteArray.mk #[79,76,68]) true s.cols a],zjv,(by (try simp only [X.av,Qy.av,V.av,Tb.av,Sch.av,Pl.av,xsl,fsl,vsl,tsl,List.map_append,List.map_cons,List.map_nil,V.cells,Col.cells,Rw.cells,Tb.cells,Fr.cells,Sch.cells,Pl.cells,zaW,zaI,zaO,zaM,zaT,X.cells,Qy.cells,X.args_mk,X.sub_mk,Qy.items_mk,Qy.wh_mk,xCol,xLit,xBin,xNeg,Ac.cells,Se.cells,Pr.cells,Ch.cells,Rw.cells,Dl.cells,Itm.cells]);exact wk At.trigger_Frames [sqx (1=1),sb h1,sg h2,sb h3,sc (zat s.cols zcI),sc (zap a zcI),sqx (True∧True∧s.cols.length=(List.map Col.cells s.cols).length∧a.length=(List.map V.cells a).length∧True),sqx (AllLen [[sv (ByteArray.mk #[79,76,68]),bv true,AV.sl (List.map Col.cells s.cols),AV.sl (List.map V.cells a)]] 4∧Nat.le 72 140737488355328),sg h5,sb h2] kr)⟩
    ·exact ⟨[Fr.mk (ByteArray.mk #[79,76,68]) true s.cols a,Fr.mk (ByteArray.mk #[78,69,87]) true s.cols b],zjv,(by (try simp only [X.av,Qy.av,V.av,Tb.av,Sch.av,Pl.av,xsl,fsl,vsl,tsl,List.map_append,List.map_cons,List.map_nil,V.cells,Col.cells,Rw.cells,Tb.cells,Fr.cells,Sch.cells,Pl.cells,zaW,zaI,zaO,zaM,zaT,X.cells,Qy.cells,X.args_mk,X.sub_mk,Qy.items_mk,Qy.wh_mk,xCol,xLit,xBin,xNeg,Ac.cells,Se.cells,Pr.cells,Ch.cells,Rw.cells,Dl.cells,Itm.cells]);exact wk At.trigger_Frames [sqx (2=2),sb h1,sg h2,sb h3,sc (zat s.cols zcI),sc (zap a zcI),sqx (True∧True∧s.cols.length=(List.map Col.cells s.cols).length∧a.length=(List.map V.cells a).length∧True),sqx (AllLen [[sv (ByteArray.mk #[79,76,68]),bv true,AV.sl (List.map Col.cells s.cols),AV.sl (List.map V.cells a)]] 4∧Nat.le 72 140737488355328),sb h5,sc (zat s.cols zcI),sc (zap b zcI),sqx (True∧True∧s.cols.length=(List.map Col.cells s.cols).length∧b.length=(List.map V.cells b).length∧True),sqx (AllLen [[sv (ByteArray.mk #[78,69,87]),bv true,AV.sl (List.map Col.cells s.cols),AV.sl (List.map V.cells b)]] 4∧1=1∧Nat.le 144 140737488355328)] kr)⟩
  ·let p_1:List St:=[sqx (2=2),sb h1,sb h2,sc (zat s.cols zcI),sc (zap a zcI),sqx (True∧True∧s.cols.length=(List.map Col.cells s.cols).length∧a.length=(List.map V.cells a).length∧True),sqx (AllLen [[sv (ByteArray.mk #[79,76,68]),bv true,AV.sl (List.map Col.cells s.cols),AV.sl (List.map V.cells a)]] 4∧Nat.le 72 140737488355328)]
   cases h6:t.event==1
   ·exact ⟨[Fr.mk (ByteArray.mk #[79,76,68]) true s.cols a,Fr.mk (ByteArray.mk #[78,69,87]) true s.cols b],zjv,(by (try simp only [X.av,Qy.av,V.av,Tb.av,Sch.av,Pl.av,xsl,fsl,vsl,tsl,List.map_append,List.map_cons,List.map_nil,V.cells,Col.cells,Rw.cells,Tb.cells,Fr.cells,Sch.cells,Pl.cells,zaW,zaI,zaO,zaM,zaT,X.cells,Qy.cells,X.args_mk,X.sub_mk,Qy.items_mk,Qy.wh_mk,xCol,xLit,xBin,xNeg,Ac.cells,Se.cells,Pr.cells,Ch.cells,Rw.cells,Dl.cells,Itm.cells]);exact wk At.trigger_Frames (p_1++[sg h6,sb h2,sc (zat s.cols zcI),sc (zap b zcI),sqx (True∧True∧s.cols.length=(List.map Col.cells s.cols).length∧b.length=(List.map V.cells b).length∧True),sqx (AllLen [[sv (ByteArray.mk #[78,69,87]),bv true,AV.sl (List.map Col.cells s.cols),AV.sl (List.map V.cells b)]] 4∧1=1∧Nat.le 144 140737488355328)]) kr)⟩
   ·exact ⟨[Fr.mk (ByteArray.mk #[79,76,68]) true s.cols a,Fr.mk (ByteArray.mk #[78,69,87]) true s.cols b],zjv,(by (try simp only [X.av,Qy.av,V.av,Tb.av,Sch.av,Pl.av,xsl,fsl,vsl,tsl,List.map_append,List.map_cons,List.map_nil,V.cells,Col.cells,Rw.cells,Tb.cells,Fr.cells,Sch.cells,Pl.cells,zaW,zaI,zaO,zaM,zaT,X.cells,Qy.cells,X.args_mk,X.sub_mk,Qy.items_mk,Qy.wh_mk,xCol,xLit,xBin,xNeg,Ac.cells,Se.cells,Pr.cells,Ch.cells,Rw.cells,Dl.cells,Itm.cells]);exact wk At.trigger_Frames (p_1++[sb h6,sc (zat s.cols zcI),sc (zap b zcI),sqx (True∧True∧s.cols.length=(List.map Col.cells s.cols).length∧b.length=(List.map V.cells b).length∧True),sqx (AllLen [[sv (ByteArray.mk #[78,69,87]),bv true,AV.sl (List.map Col.cells s.cols),AV.sl (List.map V.cells b)]] 4∧1=1∧Nat.le 144 140737488355328)]) kr)⟩
 ·exact ⟨[],zjv,wk At.trigger_Frames [sb h1] kr⟩
theorem zqY (l:List Rw) (hl:zac l) (hf:∀ x∈l,zaa E0 S.deep_Row [.agg x.cells] [] (.agg x.cells) []):∃ (r:List Rw),r=l∧zaa E0 S.deep_Rows [.sl (l.map Rw.cells)] [] (.sl (r.map Rw.cells)) []:=by
 exact ⟨l,(by rfl),wk At.deep_Rows [sc (zfl l zcI zcI)] kr⟩
theorem zhK (l:List Rw) (hl:zac l) (hf:∀ x∈l,zaa E0 S.deep_Row [.agg x.cells] [] (.agg x.cells) []):zaa E0 S.deep_Rows [.sl (l.map Rw.cells)] [] (.sl (l.map Rw.cells)) []:=by
 obtain ⟨r,rfl,h⟩:=zqY l hl hf
 exact h
theorem zoe (t:Tg) (s:Sch) (d:Dl) (he:(t.event==1)=true) (hl:zac d.ins) (hf:∀ x∈d.ins,zaa E0 S.deep_Row [.agg x.cells] [] (.agg x.cells) []):∃ (r:Dl),r=⟨d.table,d.ins,[],[]⟩∧zaa E0 S.trigger_Matching [t.av,s.av,d.av] [] r.av []:=by
 exact ⟨Dl.mk d.table d.ins [] [],(by rfl),wk At.trigger_Matching [sb he,sc (zhK d.ins zcI zcI)] kr⟩
theorem ztN (t:Tg) (s:Sch) (d:Dl) (he:t.each=true):∃ (r:List Tb),r=[]∧zaa E0 S.trigger_Transitions [t.av,s.av,d.av] [] (tsl r) []:=by
 cases h1:t.before
 ·exact ⟨[],(by rfl),wk At.trigger_Transitions [sg h1,sb he] kr⟩
 ·exact ⟨[],(by rfl),wk At.trigger_Transitions [sb h1] kr⟩
end Go.AM
namespace Go.AM
set_option maxRecDepth 100000
set_option maxHeartbeats 1000000
set_option linter.unusedSimpArgs false
set_option linter.unusedVariables false
theorem zfH {p:Prop} (h:p:=by first|assumption|rfl|omega|simp [Room]):p:=h
theorem zsL {p:Prop} (h:p:=by first|trivial|assumption|(simp;done)|omega|(simp;omega)|(simp at *;omega)):p:=h
structure FiStep (ts:List Tg) (frs:List Fr) (ex:List Tb) (m m2:List Tb) (a:Ac):Prop where
 kind:a.kind=1∨a.kind=2∨a.kind=3
 run:∃ n:Int,zaa E0 S.statement_Run [tsl m,.sl (ts.map Tg.cells),.sl [],.agg a.cells,fsl frs,tsl ex,.sl []] [] (.tup [tsl m2,.sl [],.sl [],iv n,iv 0]) []
noncomputable def L_fiL (ts:List Tg) (n:Itm) (t:Tg) (s:Sch) (d:Dl) (frs:List Fr) (ex m0:List Tb) (ms:Nat→List Tb) (i:Nat) :Cfg:=zal B.fire_Item 0 [(1,.sl (ts.map Tg.cells)),(2,.sl []),(5,.sl []),(22,fsl frs),(23,tsl ex),(26,tsl (ms i)),(27,.own 6 0),(101,.sl (t.acts.map Ac.cells)),(102,iv ((t.acts.map Ac.cells).length:Nat)),(103,iv (i:Nat))] [.box n.cells,.box t.cells,.box s.cells,.box d.cells,.row Ty.Table (m0.map Tb.cells) true,.row Ty.int [] true,.row Ty.int [] false]
theorem ziF (ts:List Tg) (n:Itm) (t:Tg) (s:Sch) (d:Dl) (frs:List Fr) (ex m0:List Tb) (ms:Nat→List Tb) (hacts:zac t.acts) (hR:∀ (i:Nat) (a:Ac),t.acts[i]?=some a→FiStep ts frs ex (ms i) (ms (i+1)) a) (i:Nat)  (hi:i≤(t.acts).length) (hI:True):(True)∧(decide ((((t.acts).length:Nat):Int) < (((t.acts.map Ac.cells).length:Nat):Int))=false)∧∀ R,Good E0 B.fire_Item [] (L_fiL ts n t s d frs ex m0 ms (t.acts).length ) R→Good E0 B.fire_Item [] (L_fiL ts n t s d frs ex m0 ms i ) R:=by
 obtain ⟨kk,hk⟩:∃ kk,i+kk=(t.acts).length:=⟨(t.acts).length - i,by omega⟩
 induction kk generalizing i  hI with
 | zero =>
  have e0:i=(t.acts).length:=by omega
  subst e0
  exact ⟨hI,by simp,fun R hg=>hg⟩
 | succ kk ih =>
  obtain ⟨x,hx⟩:=zav (l:=t.acts) (i:=i) (by omega)
  have h0:decide (((i:Nat):Int) < (((t.acts.map Ac.cells).length:Nat):Int))=true:=by simp;omega
  have hw:IntKind.i64.wrap (((i:Nat):Int)+1)=((i+1:Nat):Int):=zak i (by first|omega|(simp only [zac,Few] at *;omega))
  obtain ⟨hk3,hrn,hru⟩:=hR i x hx;have h4:(x.kind==4)=false:=by rw [beq_eq_false_iff_ne];omega
  let p_1:List St:=[sb h0,se (zaf Ac.cells hx rfl),sb h4]
  cases h1:x.kind==1
  ·cases h2:x.kind==2
   ·cases h3:x.kind==3
    ·exact False.elim (by (simp at *;omega))
    ·obtain ⟨qZ,xZ,gZ⟩:=ih (i+1) (by omega) zsL (by omega);exact ⟨qZ,xZ,fun R hg=>zab (wkl (p_1++[sb h1,sb h2,sb h3,sc hru,sb (rfl:false=false),sqx (AllLen [] 1∧0=0∧Nat.le 0 140737488355328),si hw]) [1,2,5,22,23,26,27,101,102,103] 7 kr (gZ R hg))⟩
   ·obtain ⟨qZ,xZ,gZ⟩:=ih (i+1) (by omega) zsL (by omega);exact ⟨qZ,xZ,fun R hg=>zab (wkl (p_1++[sb h1,sb h2,sc hru,sb (rfl:false=false),sqx (AllLen [] 1∧0=0∧Nat.le 0 140737488355328),si hw]) [1,2,5,22,23,26,27,101,102,103] 7 kr (gZ R hg))⟩
  ·obtain ⟨qZ,xZ,gZ⟩:=ih (i+1) (by omega) zsL (by omega);exact ⟨qZ,xZ,fun R hg=>zab (wkl (p_1++[sb h1,sc hru,sb (rfl:false=false),sqx (AllLen [] 1∧0=0∧Nat.le 0 140737488355328),si hw]) [1,2,5,22,23,26,27,101,102,103] 7 kr (gZ R hg))⟩
structure FiIn (m:List Tb) (ts:List Tg) (ds:List Dl) (n:Itm) (t:Tg) (s:Sch) (d d2:Dl) (frs:List Fr) (ex:List Tb) (k:Nat) (b:Bool):Prop where
 at_:ts[k]?=some t∧k < ts.length
 ix:zaa E0 S.slices_IndexFunc_Trigger [.sl (ts.map Tg.cells),.fn S.fire_Item_c1 [.p 0 0]] [.box n.cells] (iv (k:Nat)) [.box n.cells]
 src:zaa E0 S.scope_Source [tsl m,sv t.table] [] (.tup [s.av,bv true]) []
 find:zaa E0 S.event_Find [.sl (ds.map Dl.cells),sv t.table] [] (.tup [d.av,bv true]) []
 frames:zaa E0 S.trigger_Frames [t.av,s.av,vsl n.old,vsl n.nw] [] (fsl frs) []
 mat:zaa E0 S.trigger_Matching [t.av,s.av,d.av] [] d2.av []
 tra:zaa E0 S.trigger_Transitions [t.av,s.av,d2.av] [] (tsl ex) []
 conc:zaa E0 S.slices_Concat_Table [.sl [[tsl m],[tsl ex]]] [] (tsl (m++ex)) []
 true_:zaa E0 S.evaluate_True [xsl t.when_,fsl frs,tsl (m++ex)] [] (.tup [bv b,iv 0]) []
 short:zac m∧∀ t∈m,zac t.sch.cols∧zac t.rows∧∀ r∈t.rows,zac r.vals
theorem zq6 (ts:List Tg) (ds:List Dl) (n:Itm) (t:Tg) (s:Sch) (d d2:Dl) (frs:List Fr) (ex:List Tb) (k:Nat) (b:Bool) (ms:Nat→List Tb) (hms:zac (ms 0)) (hk:ts[k]?=some t) (hkl:k < ts.length) (hI:zaa E0 S.slices_IndexFunc_Trigger [.sl (ts.map Tg.cells),.fn S.fire_Item_c1 [.p 0 0]] [.box n.cells] (iv (k:Nat)) [.box n.cells]) (hn:decide (((k:Nat):Int) < 0)=false) (hS:zaa E0 S.scope_Source [tsl (ms 0),sv t.table] [] (.tup [s.av,bv true]) []) (hF:zaa E0 S.event_Find [.sl (ds.map Dl.cells),sv t.table] [] (.tup [d.av,bv true]) []) (hFr:zaa E0 S.trigger_Frames [t.av,s.av,vsl n.old,vsl n.nw] [] (fsl frs) []) (hM:zaa E0 S.trigger_Matching [t.av,s.av,d.av] [] d2.av []) (hX:zaa E0 S.trigger_Transitions [t.av,s.av,d2.av] [] (tsl ex) []) (hCo:zaa E0 S.slices_Concat_Table [.sl [[tsl (ms 0)],[tsl ex]]] [] (tsl (ms 0++ex)) []) (hT:zaa E0 S.evaluate_True [xsl t.when_,fsl frs,tsl (ms 0++ex)] [] (.tup [bv b,iv 0]) []) (hd:∀ t∈ms 0,zac t.sch.cols∧zac t.rows∧∀ r∈t.rows,zac r.vals) (hacts:zac t.acts) (hR:∀ (i:Nat) (a:Ac),t.acts[i]?=some a→FiStep ts frs ex (ms i) (ms (i+1)) a):∃ (r:List (List AV)) (e:Int),(r=(bif b then (ms t.acts.length).map Tb.cells else (ms 0).map Tb.cells)∧e=0)∧zaa E0 S.fire_Item [tsl (ms 0),.sl (ts.map Tg.cells),.sl [],.sl (ds.map Dl.cells),n.av,.sl []] [] (.tup [.sl r,.sl [],.sl [],iv e]) []:=by
 cases h1:!b
 ·obtain ⟨q2,q2_1,g2⟩:=ziF ts n t s d frs ex (ms 0) ms zfH zfH 0 zfH zfH
  exact ⟨List.map Tb.cells (ms t.acts.length),0,(by exact ⟨by (cases b <;> first|rfl|(cases h1)),rfl⟩),wkcN At.fire_Item [sl [0] hI,sb (rfl:false=false),se (zaf Tg.cells hk rfl),sc hS,sc hF,sg (rfl:false=false),sb (rfl:false=false),sc hFr,sd [(5,[sc hM]),(6,[sc hX])],sd [(6,[sc hCo]),(7,[sc hT])],sb (rfl:false=false),sc (zbl (ms 0) zfH zfH),sc (zaK ([]) zfH),sb h1,sqx (0=0),sqx ((ms 0).length=(List.map Tb.cells (ms 0)).length)] [1,2,5,22,23,26,27,101,102,103] 6 [(.fz 5,6),(.fz 26,6),(.ot 27 Ty.int,7)] kr (g2 _ (zab (wkr [sqx (True∧True∧0=0∧True∧True),sb q2_1] kr)))⟩
 ·exact ⟨List.map Tb.cells (ms 0),0,(by exact ⟨by (cases b <;> first|rfl|(cases h1)),rfl⟩),wk At.fire_Item [sqx ((ms 0).length=(List.map Tb.cells (ms 0)).length∧0=0∧True∧True∧True),sl [0] hI,sb (rfl:false=false),se (zaf Tg.cells hk rfl),sc hS,sc hF,sg (rfl:false=false),sb (rfl:false=false),sc hFr,sd [(5,[sc hM]),(6,[sc hX])],sd [(6,[sc hCo]),(7,[sc hT])],sb (rfl:false=false),sc (zbl (ms 0) zfH zfH),sc (zaK ([]) zfH),sb h1] kr⟩
theorem zlH {m:List Tb} {ts:List Tg} {ds:List Dl} {n:Itm} {t:Tg} {s:Sch} {d d2:Dl} {frs:List Fr} {ex:List Tb} {k:Nat} {b:Bool} (h:FiIn m ts ds n t s d d2 frs ex k b) (ms:Nat→List Tb) (h0:ms 0=m) (hacts:zac t.acts) (hR:∀ (i:Nat) (a:Ac),t.acts[i]?=some a→FiStep ts frs ex (ms i) (ms (i+1)) a) :
  zaa E0 S.fire_Item [tsl m,.sl (ts.map Tg.cells),.sl [],.sl (ds.map Dl.cells),n.av,.sl []] [] (.tup [tsl (bif b then ms t.acts.length else m),.sl [],.sl [],iv 0]) []:=by
 subst h0
 obtain ⟨r,e,⟨rfl,rfl⟩,h⟩:=zq6 ts ds n t s d d2 frs ex k b ms h.short.1 h.at_.1 h.at_.2 h.ix (by simp) h.src h.find h.frames h.mat h.tra h.conc h.true_ h.short.2 hacts hR
 cases b <;> exact h
end Go.AM
namespace Go.AM
set_option maxRecDepth 100000
set_option maxHeartbeats 1000000
set_option linter.unusedSimpArgs false
set_option linter.unusedVariables false
theorem zlm {p:Prop} (h:p:=by first|assumption|rfl|(simp [zac];done)|exact (fun _ h=>nomatch h)|omega):p:=h
abbrev cc3 (tb ex:List Tb):List (List AV):=[[tsl tb],[tsl ex]]
noncomputable def L_ez (tb ex:List Tb) (i:Nat) (sz:Int):Cfg:=zal B.slices_Concat_Table 0 [(0,.sl (cc3 tb ex)),(3,iv sz),(9,.sl (cc3 tb ex)),(10,iv ((cc3 tb ex).length:Nat)),(11,iv (i:Nat))] []
theorem zbX (tb ex:List Tb) (i:Nat) (sz:Int):True∧∀ R,Good E0 B.slices_Concat_Table [] (L_ez tb ex i sz) R→Good E0 B.slices_Concat_Table [] (L_ez tb ex i sz) R:=⟨trivial,fun _ h=>h⟩
noncomputable def L_eb (tb ex:List Tb) (i:Nat) (xs:List Tb):Cfg:=zal B.slices_Concat_Table 1 [(6,.own 0 xs.length),(25,.sl (cc3 tb ex)),(26,iv ((cc3 tb ex).length:Nat)),(27,iv (i:Nat))] [.row Ty.Table (xs.map Tb.cells) false]
theorem zbY (tb ex:List Tb) (i:Nat) (xs:List Tb):True∧∀ R,Good E0 B.slices_Concat_Table [] (L_eb tb ex i xs) R→Good E0 B.slices_Concat_Table [] (L_eb tb ex i xs) R:=⟨trivial,fun _ h=>h⟩
theorem zuI (tb ex:List Tb) (hl:tb.length≤1000) (hle:ex.length≤1000) (w1:IntKind.i64.wrap (0+((tb.map Tb.cells).length:Int))=((tb.length:Nat):Int)) (w2:IntKind.i64.wrap (((tb.length:Nat):Int)+((ex.map Tb.cells).length:Int))=((tb.length+ex.length:Nat):Int)) (w3:decide (((tb.length:Nat):Int) < 0)=false) (w4:decide (((tb.length+ex.length:Nat):Int) < 0)=false):∃ (r:List Tb),r=tb++ex∧zaa E0 S.slices_Concat_Table [.sl (cc3 tb ex)] [] (tsl r) []:=by
 obtain ⟨q1,g1⟩:=zbX tb ex 0 (0)
 obtain ⟨q2,g2⟩:=zbX tb ex (0+1) ((tb.length:Int))
 obtain ⟨q3,g3⟩:=zbX tb ex (0+1+1) ((↑(tb.length+ex.length):Int))
 obtain ⟨q4,g4⟩:=zbY tb ex 0 ([])
 obtain ⟨q5,g5⟩:=zbY tb ex (0+1) ([]++tb)
 obtain ⟨q6,g6⟩:=zbY tb ex (0+1+1) ([]++tb++ex)
 exact ⟨[]++tb++ex,(by first|rfl|(simp;done)),wkc At.slices_Concat_Table [] [0,3,9,10,11] 0 kr (g1 _ (zab (wkl [sb (rfl:true=true),se (xs:=[[AV.sl (List.map Tb.cells tb)],[AV.sl (List.map Tb.cells ex)]]) (i:=0) (c:=[AV.sl (List.map Tb.cells tb)]) (n:=1) ⟨by decide,rfl,rfl⟩,si w1,sb (rfl:false=false),si (zcG (t:=(↑0:Int)+1) (n:=0+1) (by omega) (by omega))] [0,3,9,10,11] 0 kr (g2 _ (zab (wkl [sb (rfl:true=true),se (zmD ([AV.sl (List.map Tb.cells tb)]) ([AV.sl (List.map Tb.cells ex)]) (by first|assumption|rfl|omega)),si w2,sb (rfl:false=false),si (zcG (t:=(↑(0+1):Int)+1) (n:=0+1+1) (by omega) (by omega))] [0,3,9,10,11] 0 kr (g3 _ (zab (wkl [sb (rfl:false=false),sln [] (zfj (tb.length+ex.length) (by first|assumption|rfl|omega))] [6,25,26,27] 1 kr (g4 _ (zab (wkl [sb (rfl:true=true),se (xs:=[[AV.sl (List.map Tb.cells tb)],[AV.sl (List.map Tb.cells ex)]]) (i:=0) (c:=[AV.sl (List.map Tb.cells tb)]) (n:=1) ⟨by decide,rfl,rfl⟩,sqx (AllLen (List.map Tb.cells tb) 4∧0=0∧((([]:List (List AV)).length+(List.map Tb.cells tb).length) * 72).le 140737488355328),si (zcG (t:=(↑0:Int)+1) (n:=0+1) (by omega) (by omega))] [6,25,26,27] 1 kr (zan (show ([(6,AV.own 0 ([]++List.map Tb.cells tb).length),(25,AV.sl [[AV.sl (List.map Tb.cells tb)],[AV.sl (List.map Tb.cells ex)]]),(26,iv (↑[[AV.sl (List.map Tb.cells tb)],[AV.sl (List.map Tb.cells ex)]].length:Int)),(27,iv (↑(0+1):Int))]:TS)=_ by first|rfl|(simp;done)|(simp [X.cells,Qy.cells,V.cells,Col.cells,Rw.cells,Tb.cells,Fr.cells,Sch.cells,Tp.cells,Pl.cells,xCol,xLit,xBin,xNeg,Ac.cells,Se.cells,Pr.cells,Ch.cells,Rw.cells,Dl.cells,Itm.cells];done)) rfl (g5 _ (zab (wkl [sb (rfl:true=true),se (zmD ([AV.sl (List.map Tb.cells tb)]) ([AV.sl (List.map Tb.cells ex)]) (by first|assumption|rfl|omega)),sqx (AllLen (List.map Tb.cells ex) 4∧([]++tb).length=(List.map Tb.cells ([]++tb)).length∧(((List.map Tb.cells ([]++tb)).length+(List.map Tb.cells ex).length) * 72).le 140737488355328),si (zcG (t:=(↑(0+1):Int)+1) (n:=0+1+1) (by omega) (by omega))] [6,25,26,27] 1 kr (zan (show ([(6,AV.own 0 (List.map Tb.cells ([]++tb)++List.map Tb.cells ex).length),(25,AV.sl [[AV.sl (List.map Tb.cells tb)],[AV.sl (List.map Tb.cells ex)]]),(26,iv (↑[[AV.sl (List.map Tb.cells tb)],[AV.sl (List.map Tb.cells ex)]].length:Int)),(27,iv (↑(0+1+1):Int))]:TS)=_ by first|rfl|(simp;done)|(simp [X.cells,Qy.cells,V.cells,Col.cells,Rw.cells,Tb.cells,Fr.cells,Sch.cells,Tp.cells,Pl.cells,xCol,xLit,xBin,xNeg,Ac.cells,Se.cells,Pr.cells,Ch.cells,Rw.cells,Dl.cells,Itm.cells];done)) (show ([Blk.row Ty.Table (List.map Tb.cells ([]++tb)++List.map Tb.cells ex) false]:Heap)=_ by first|rfl|(simp;done)|(simp [X.cells,Qy.cells,V.cells,Col.cells,Rw.cells,Tb.cells,Fr.cells,Sch.cells,Tp.cells,Pl.cells,xCol,xLit,xBin,xNeg,Ac.cells,Se.cells,Pr.cells,Ch.cells,Rw.cells,Dl.cells,Itm.cells];done)) (g6 _ (zab (wkr [sqx (([]++tb++ex).length=(List.map Tb.cells ([]++tb++ex)).length),sb (rfl:false=false)] kr))))))))))))))))))))⟩
theorem zg3 (tb ex:List Tb) (hl:tb.length≤1000) (hle:ex.length≤1000):zaa E0 S.slices_Concat_Table [.sl (cc3 tb ex)] [] (tsl (tb++ex)) []:=by
 obtain ⟨r,rfl,h⟩:=zuI tb ex hl hle (by rw [List.length_map,IntKind.wrap_i64];omega) (by rw [List.length_map,IntKind.wrap_i64];omega) (by simp) (by simp;omega)
 exact h
def colT (c:Col):Col:=⟨c.name,c.type,false,false⟩
noncomputable def L_tr (nm:Str) (s:Sch) (y:Rw) (i:Nat) (out:List Col):Cfg:=zal B.trigger_transition 0 [(2,.sl ([y].map Rw.cells)),(6,.p 1 0),(7,.p 2 0),(16,.sl (s.cols.map Col.cells)),(17,iv ((s.cols.map Col.cells).length:Nat)),(18,iv (i:Nat))] [.box s.cells,.box [sv ⟨#[]⟩,.nl,iv 0,.nl],.box [sv nm,.own 3 out.length,iv 1,.sl ([y].map Rw.cells)],.row Ty.Column (out.map Col.cells) false]
theorem zfg (nm:Str) (s:Sch) (y:Rw) (hs:zac s.cols) (i:Nat) (out:List Col) (hi:i≤(s.cols).length) (hI:out=(s.cols.take i).map colT):∃ (out':List Col),(out'=(s.cols.take (s.cols).length).map colT)∧(decide ((((s.cols).length:Nat):Int) < (((s.cols.map Col.cells).length:Nat):Int))=false)∧∀ R,Good E0 B.trigger_transition [] (L_tr nm s y (s.cols).length out') R→Good E0 B.trigger_transition [] (L_tr nm s y i out) R:=by
 obtain ⟨kk,hk⟩:∃ kk,i+kk=(s.cols).length:=⟨(s.cols).length - i,by omega⟩
 induction kk generalizing i out with
 | zero =>
  have e0:i=(s.cols).length:=by omega
  subst e0
  exact ⟨out,hI,by simp,fun R hg=>hg⟩
 | succ kk ih =>
  obtain ⟨x,hx⟩:=zav (l:=s.cols) (i:=i) (by omega)
  have h0:decide (((i:Nat):Int) < (((s.cols.map Col.cells).length:Nat):Int))=true:=by simp;omega
  have hw:IntKind.i64.wrap (((i:Nat):Int)+1)=((i+1:Nat):Int):=zak i (by first|omega|(simp only [zac,Few] at *;omega))
  have ho:out.length≤1000000000:=(by rw [hI,List.length_map,List.length_take];simp only [zac] at hs;omega)
  obtain ⟨outZ,qZ,xZ,gZ⟩:=ih (i+1) (out++[Col.mk x.name x.type false false]) (by omega) (by (rw [List.take_add_one,hx,List.map_append,hI];rfl)) (by omega);exact ⟨outZ,qZ,xZ,fun R hg=>zab (wkl [sb h0,se (zaf Col.cells hx rfl),sqx (AllLen [[sv x.name,iv x.type,bv false,bv false]] 4∧out.length=(List.map Col.cells out).length∧(((List.map Col.cells out).length+[[sv x.name,iv x.type,bv false,bv false]].length) * 32).le 140737488355328),si hw] [2,6,7,16,17,18] 4 kr (zan rfl (show ([Blk.box [sv s.name,AV.sl (List.map Col.cells s.cols)],Blk.box [sv (ByteArray.mk #[]),AV.nl,iv 0,AV.nl],Blk.box [sv nm,AV.own 3 (List.map Col.cells out++[[sv x.name,iv x.type,bv false,bv false]]).length,iv 1,AV.sl [[iv y.id,AV.sl (List.map V.cells y.vals)]]],Blk.row Ty.Column (List.map Col.cells out++[[sv x.name,iv x.type,bv false,bv false]]) false]:Heap)=_ by first|rfl|(simp;done)|(simp [X.cells,Qy.cells,V.cells,Col.cells,Rw.cells,Tb.cells,Fr.cells,Sch.cells,Tp.cells,Pl.cells,xCol,xLit,xBin,xNeg,Ac.cells,Se.cells,Pr.cells,Ch.cells,Rw.cells,Dl.cells,Itm.cells];done)) (gZ R hg)))⟩
theorem zf3 (a b:AV):ElAt [[a,b]] (IntKind.i64.wrap ((([[a,b]]:List (List AV)).length:Int) - 1)) [a,b] 2:=⟨by show (0:Int)≤IntKind.i64.wrap 0;decide,rfl,rfl⟩
theorem zpN (nm:Str) (s:Sch) (y:Rw) (hs:zac s.cols) (hw1:IntKind.i64.wrap (y.id+1)=y.id+1):∃ (r:Tb),r=⟨⟨nm,s.cols.map colT⟩,y.id+1,[y]⟩∧zaa E0 S.trigger_transition [sv nm,s.av,.sl ([y].map Rw.cells)] [] r.av []:=by
 obtain ⟨out1,q1,q1_1,g1⟩:=zfg nm s y (by first|assumption|rfl|omega) 0 ([]) (by first|assumption|rfl|omega) (by first|assumption|rfl|omega)
 exact ⟨Tb.mk (Sch.mk nm out1) (y.id+1) [y],(by (rw [List.take_length] at *;subst_vars;rfl)),wkcN At.trigger_transition [] [2,6,7,16,17,18] 3 [(.ob 2 1 Ty.Column,4)] kr (g1 _ (zab (wkrS (y:=AV.agg [sv nm,AV.sl (List.map Col.cells out1),iv (y.id+1),AV.sl [[iv y.id,AV.sl (List.map V.cells y.vals)]]]) (H:=[]) [sqx (True∧out1.length=(List.map Col.cells out1).length∧True∧True∧True),sb q1_1,sb (rfl:true=true),si (e:=IntKind.i64.wrap ((↑[[iv y.id,AV.sl (List.map V.cells y.vals)]].length:Int) - 1)) rfl,se (zf3 (iv y.id) (AV.sl (List.map V.cells y.vals))),si hw1] kr ⟨by first|rfl|(simp;done)|(simp [X.cells,Qy.cells,V.cells,Col.cells,Rw.cells,Tb.cells,Fr.cells,Sch.cells,Tp.cells,Pl.cells,xCol,xLit,xBin,xNeg,Ac.cells,Se.cells,Pr.cells,Ch.cells,Rw.cells,Dl.cells,Itm.cells];done),by first|rfl|(simp;done)|(simp [X.cells,Qy.cells,V.cells,Col.cells,Rw.cells,Tb.cells,Fr.cells,Sch.cells,Tp.cells,Pl.cells,xCol,xLit,xBin,xNeg,Ac.cells,Se.cells,Pr.cells,Ch.cells,Rw.cells,Dl.cells,Itm.cells];done)⟩)))⟩
theorem zjn (nm:Str) (s:Sch) (y:Rw) (hs:zac s.cols) (hw1:IntKind.i64.wrap (y.id+1)=y.id+1):zaa E0 S.trigger_transition [sv nm,s.av,.sl ([y].map Rw.cells)] [] (Tb.av ⟨⟨nm,s.cols.map colT⟩,y.id+1,[y]⟩) []:=by
 obtain ⟨r,rfl,h⟩:=zpN nm s y hs hw1
 exact h
theorem zuc (t:Tg) (s:Sch) (tb:Str) (y:Rw) (hbe:t.before=false) (he:t.each=false) (e1:(t.event==2)=false) (e2:(t.event==3)=false) (e3:(t.event==1)=true) (hf:zaa E0 S.deep_Row [.agg y.cells] [] (.agg y.cells) []) (hfl:∀ x∈[y],zaa E0 S.deep_Row [.agg x.cells] [] (.agg x.cells) []) (hs:zac s.cols) (hw1:IntKind.i64.wrap (y.id+1)=y.id+1):∃ (r:List Tb),r=[⟨⟨⟨#[73,78,83,69,82,84,69,68]⟩,s.cols.map colT⟩,y.id+1,[y]⟩]∧zaa E0 S.trigger_Transitions [t.av,s.av,Dl.av ⟨tb,[y],[],[]⟩] [] (tsl r) []:=by
 exact ⟨[Tb.mk (Sch.mk (ByteArray.mk #[73,78,83,69,82,84,69,68]) (List.map colT s.cols)) (y.id+1) [y]],(by rfl),(by (try simp only [X.av,Qy.av,V.av,Tb.av,Sch.av,Pl.av,xsl,fsl,vsl,tsl,List.map_append,List.map_cons,List.map_nil,V.cells,Col.cells,Rw.cells,Tb.cells,Fr.cells,Sch.cells,Pl.cells,zaW,zaI,zaO,zaM,zaT,X.cells,Qy.cells,X.args_mk,X.sub_mk,Qy.items_mk,Qy.wh_mk,xCol,xLit,xBin,xNeg,Ac.cells,Se.cells,Pr.cells,Ch.cells,Rw.cells,Dl.cells,Itm.cells]);exact wk At.trigger_Transitions [sqx (1=1),sg hbe,sb he,sd [(2,[sc (zhK ([]) zlm zlm)]),(5,[sc (zhK ([y]) zlm zlm)])],sb e1,sg e1,sb e2,sb e3,sc (zjn (ByteArray.mk #[73,78,83,69,82,84,69,68]) s y zlm zlm),sqx (AllLen [[sv (ByteArray.mk #[73,78,83,69,82,84,69,68]),AV.sl (List.map Col.cells (List.map colT s.cols)),iv (y.id+1),AV.sl [[iv y.id,AV.sl (List.map V.cells y.vals)]]]] 4∧Nat.le 72 140737488355328)] kr)⟩
end Go.AM
namespace Go.AM
set_option maxRecDepth 100000
set_option maxHeartbeats 1000000
set_option linter.unusedSimpArgs false
set_option linter.unusedVariables false
theorem zlh {p:Prop} (h:p:=by first|assumption|omega|(simp;done)|(simp;omega)):p:=h
theorem zk6 {p:Prop} (h:p:=by first|assumption|rfl|omega|simp [Room]):p:=h
structure FiA (ts:List Tg) (frs:List Fr) (ex:List Tb) (ms:Nat→List Tb) (t:Tg) (pre:List Ac) (ab:Ac):Prop where
 acts:t.acts=pre++[ab]
 ab:(ab.kind==4)=true
 len:pre.length≤100
 run:∀ (i:Nat) (a:Ac),pre[i]?=some a→FiStep ts frs ex (ms i) (ms (i+1)) a
theorem FiA.step {ts:List Tg} {frs:List Fr} {ex:List Tb} {ms:Nat→List Tb} {t:Tg} {pre:List Ac} {ab:Ac} (h:FiA ts frs ex ms t pre ab) {i:Nat} {x:Ac} (hI:i≤pre.length) (hx:t.acts[i]?=some x) :
  ∃ n:Int,((x.kind==4)=false→zaa E0 S.statement_Run [tsl (ms i),.sl (ts.map Tg.cells),.sl [],.agg x.cells,fsl frs,tsl ex,.sl []] [] (.tup [tsl (ms (i+1)),.sl [],.sl [],iv n,iv 0]) [])∧((x.kind==4)=false→i+1≤pre.length)∧((x.kind==4)=false→x.kind=1∨x.kind=2∨x.kind=3):=by
 rw [h.acts] at hx
 rcases Nat.lt_or_eq_of_le hI with hlt|he
 ·rw [List.getElem?_append_left hlt] at hx
  obtain ⟨hk3,n,hr⟩:=h.run i x hx
  exact ⟨n,fun _=>hr,fun _=>hlt,fun _=>hk3⟩
 ·rw [List.getElem?_append_right (by omega),he,Nat.sub_self] at hx
  simp only [List.getElem?_cons_zero,Option.some.injEq] at hx
  subst hx
  have:=h.ab
  exact ⟨0,fun e=>absurd (this.symm.trans e) (by simp),fun e=>absurd (this.symm.trans e) (by simp),fun e=>absurd (this.symm.trans e) (by simp)⟩
noncomputable def zs7 (ts:List Tg) (n:Itm) (t:Tg) (s:Sch) (d:Dl) (frs:List Fr) (ex m0:List Tb) (ms:Nat→List Tb) (pre:List Ac) (ab:Ac) (i:Nat) :Cfg:=zal B.fire_Item 0 [(1,.sl (ts.map Tg.cells)),(2,.sl []),(5,.sl []),(22,fsl frs),(23,tsl ex),(26,tsl (ms i)),(27,.own 6 0),(101,.sl (t.acts.map Ac.cells)),(102,iv ((t.acts.map Ac.cells).length:Nat)),(103,iv (i:Nat))] [.box n.cells,.box t.cells,.box s.cells,.box d.cells,.row Ty.Table (m0.map Tb.cells) true,.row Ty.int [] true,.row Ty.int [] false]
theorem zid (ts:List Tg) (n:Itm) (t:Tg) (s:Sch) (d:Dl) (frs:List Fr) (ex m0:List Tb) (ms:Nat→List Tb) (pre:List Ac) (ab:Ac) (hA:FiA ts frs ex ms t pre ab) (hacts:zac t.acts) (i:Nat)  (hi:i≤(t.acts).length) (hI:i≤pre.length):(((t.acts).length≤pre.length)∧(decide ((((t.acts).length:Nat):Int) < (((t.acts.map Ac.cells).length:Nat):Int))=false)∧∀ R,Good E0 B.fire_Item [] (zs7 ts n t s d frs ex m0 ms pre ab (t.acts).length ) R→Good E0 B.fire_Item [] (zs7 ts n t s d frs ex m0 ms pre ab i ) R)∨(∃ (r0:List (List AV)) (r:Int),r=12∧Good E0 B.fire_Item [] (zs7 ts n t s d frs ex m0 ms pre ab i ) (Shut 0 fun rZ hZ=>rZ=(.tup [.sl r0,.sl [],.sl [],iv r])∧hZ=[])):=by
 obtain ⟨kk,hk⟩:∃ kk,i+kk=(t.acts).length:=⟨(t.acts).length - i,by omega⟩
 induction kk generalizing i  with
 | zero =>
  have e0:i=(t.acts).length:=by omega
  subst e0
  exact .inl ⟨hI,by simp,fun R hg=>hg⟩
 | succ kk ih =>
  obtain ⟨x,hx⟩:=zav (l:=t.acts) (i:=i) (by omega)
  have h0:decide (((i:Nat):Int) < (((t.acts.map Ac.cells).length:Nat):Int))=true:=by simp;omega
  have hw:IntKind.i64.wrap (((i:Nat):Int)+1)=((i+1:Nat):Int):=zak i (by first|omega|(simp only [zac,Few] at *;omega))
  obtain ⟨hrn,hru,hlt,hk3⟩:=hA.step hI hx
  let p_1:List St:=[sb h0,se (zaf Ac.cells hx rfl)]
  let p_2:List St:=[sb h0,se (zaf Ac.cells hx rfl)]
  cases h1:x.kind==4
  ·cases h2:x.kind==1
   ·cases h3:x.kind==2
    ·cases h4:x.kind==3
     ·exact .inr ⟨[],17,(by first|rfl|(exfalso;have hk5:=hk3 (by assumption);simp only [beq_eq_false_iff_ne,ne_eq] at *;omega)),zab (wkr (p_1++[sb h1,sb h2,sb h3,sb h4]) kr)⟩
     ·exact (ih (i+1) (by omega) (by exact hlt (by assumption)) (by omega)).elim (fun ⟨qZ,xZ,gZ⟩=>.inl ⟨qZ,xZ,fun R hg=>zab (wkl (p_1++[sb h1,sb h2,sb h3,sb h4,sc (hru zlh),sb (rfl:false=false),sqx (AllLen [] 1∧0=0∧Nat.le 0 140737488355328),si hw]) [1,2,5,22,23,26,27,101,102,103] 7 kr (gZ R hg))⟩) (fun ⟨r0Y,rY,pZ,gZ⟩=>.inr ⟨r0Y,rY,pZ,zab (wkl (p_2++[sb h1,sb h2,sb h3,sb h4,sc (hru zlh),sb (rfl:false=false),sqx (AllLen [] 1∧0=0∧Nat.le 0 140737488355328),si hw]) [1,2,5,22,23,26,27,101,102,103] 7 kr gZ)⟩)
    ·exact (ih (i+1) (by omega) (by exact hlt (by assumption)) (by omega)).elim (fun ⟨qZ,xZ,gZ⟩=>.inl ⟨qZ,xZ,fun R hg=>zab (wkl (p_1++[sb h1,sb h2,sb h3,sc (hru zlh),sb (rfl:false=false),sqx (AllLen [] 1∧0=0∧Nat.le 0 140737488355328),si hw]) [1,2,5,22,23,26,27,101,102,103] 7 kr (gZ R hg))⟩) (fun ⟨r0Y,rY,pZ,gZ⟩=>.inr ⟨r0Y,rY,pZ,zab (wkl (p_2++[sb h1,sb h2,sb h3,sc (hru zlh),sb (rfl:false=false),sqx (AllLen [] 1∧0=0∧Nat.le 0 140737488355328),si hw]) [1,2,5,22,23,26,27,101,102,103] 7 kr gZ)⟩)
   ·exact (ih (i+1) (by omega) (by exact hlt (by assumption)) (by omega)).elim (fun ⟨qZ,xZ,gZ⟩=>.inl ⟨qZ,xZ,fun R hg=>zab (wkl (p_1++[sb h1,sb h2,sc (hru zlh),sb (rfl:false=false),sqx (AllLen [] 1∧0=0∧Nat.le 0 140737488355328),si hw]) [1,2,5,22,23,26,27,101,102,103] 7 kr (gZ R hg))⟩) (fun ⟨r0Y,rY,pZ,gZ⟩=>.inr ⟨r0Y,rY,pZ,zab (wkl (p_2++[sb h1,sb h2,sc (hru zlh),sb (rfl:false=false),sqx (AllLen [] 1∧0=0∧Nat.le 0 140737488355328),si hw]) [1,2,5,22,23,26,27,101,102,103] 7 kr gZ)⟩)
  ·exact .inr ⟨[],12,(by first|rfl|(exfalso;have hk5:=hk3 (by assumption);simp only [beq_eq_false_iff_ne,ne_eq] at *;omega)),zab (wkr (p_1++[sb h1]) kr)⟩
theorem zp5 (ts:List Tg) (ds:List Dl) (n:Itm) (t:Tg) (s:Sch) (d d2:Dl) (frs:List Fr) (ex:List Tb) (k:Nat) (ms:Nat→List Tb) (pre:List Ac) (ab:Ac) (hms:zac (ms 0)) (hk:ts[k]?=some t) (hkl:k < ts.length) (hI:zaa E0 S.slices_IndexFunc_Trigger [.sl (ts.map Tg.cells),.fn S.fire_Item_c1 [.p 0 0]] [.box n.cells] (iv (k:Nat)) [.box n.cells]) (hn:decide (((k:Nat):Int) < 0)=false) (hS:zaa E0 S.scope_Source [tsl (ms 0),sv t.table] [] (.tup [s.av,bv true]) []) (hF:zaa E0 S.event_Find [.sl (ds.map Dl.cells),sv t.table] [] (.tup [d.av,bv true]) []) (hFr:zaa E0 S.trigger_Frames [t.av,s.av,vsl n.old,vsl n.nw] [] (fsl frs) []) (hM:zaa E0 S.trigger_Matching [t.av,s.av,d.av] [] d2.av []) (hX:zaa E0 S.trigger_Transitions [t.av,s.av,d2.av] [] (tsl ex) []) (hCo:zaa E0 S.slices_Concat_Table [.sl [[tsl (ms 0)],[tsl ex]]] [] (tsl (ms 0++ex)) []) (hT:zaa E0 S.evaluate_True [xsl t.when_,fsl frs,tsl (ms 0++ex)] [] (.tup [bv true,iv 0]) []) (hd:∀ t∈ms 0,zac t.sch.cols∧zac t.rows∧∀ r∈t.rows,zac r.vals) (hacts:zac t.acts) (hA:FiA ts frs ex ms t pre ab):∃ (r:List (List AV)) (e:Int),e=12∧zaa E0 S.fire_Item [tsl (ms 0),.sl (ts.map Tg.cells),.sl [],.sl (ds.map Dl.cells),n.av,.sl []] [] (.tup [.sl r,.sl [],.sl [],iv e]) []:=by
 let p_1:List St:=[sl [0] hI,sb (rfl:false=false),se (zaf Tg.cells hk rfl),sc hS,sc hF,sg (rfl:false=false),sb (rfl:false=false),sc hFr,sd [(5,[sc hM]),(6,[sc hX])],sd [(6,[sc hCo]),(7,[sc hT])],sb (rfl:false=false),sc (zbl (ms 0) zk6 zk6),sc (zaK ([]) zk6),sb (rfl:false=false),sqx (0=0),sqx ((ms 0).length=(List.map Tb.cells (ms 0)).length)]
 rcases zid ts n t s d frs ex (ms 0) ms pre ab hA zk6 0 zk6 zk6 with ⟨q1,q1_1,g1⟩|⟨r1_0,r1_1,p1_0,g1⟩
 ·exact ⟨List.map Tb.cells (ms t.acts.length),0,(by first|assumption|(exfalso;have:=hA.acts;have h9:=congrArg List.length this;simp at h9;omega)),wkcN At.fire_Item p_1 [1,2,5,22,23,26,27,101,102,103] 6 [(.fz 5,6),(.fz 26,6),(.ot 27 Ty.int,7)] kr (g1 _ (zab (wkr [sqx (True∧True∧0=0∧True∧True),sb q1_1] kr)))⟩
 ·exact ⟨r1_0,r1_1,(by first|assumption|(exfalso;have:=hA.acts;have h9:=congrArg List.length this;simp at h9;omega)),wkcN At.fire_Item p_1 [1,2,5,22,23,26,27,101,102,103] 6 [(.fz 5,6),(.fz 26,6),(.ot 27 Ty.int,7)] kr (g1)⟩
end Go.AM
namespace Go.AM
set_option maxRecDepth 100000
set_option maxHeartbeats 1000000
set_option linter.unusedSimpArgs false
set_option linter.unusedVariables false
structure CmpOk {α:Type} (c:α→α→Int):Prop where
 zero:∀ a b,c a b=0↔a=b
 anti:∀ a b,c a b < 0↔0 < c b a
 trans:∀ {a b d},c a b < 0→c b d < 0→c a d < 0
def lexC {α:Type} (c:α→α→Int):List α→List α→Int
 | [],[]=>0
 | [],_::_=>-1
 | _::_,[]=>1
 | a::x,b::y=>if c a b=0 then lexC c x y else c a b
theorem zoa {α:Type} {c:α→α→Int} (h:CmpOk c):∀ a b,lexC c a b=0↔a=b
 | [],[]=>by simp [lexC]
 | [],_::_=>by simp [lexC]
 | _::_,[]=>by simp [lexC]
 | a::x,b::y=>by
  have ih:=zoa h x y
  have hz:=h.zero a b
  simp only [lexC,List.cons.injEq]
  split
  ·rename_i e;simp [ih,hz.1 e]
  ·rename_i e;exact ⟨fun k=>absurd k e,fun k=>absurd (hz.2 k.1) e⟩
theorem znY {α:Type} {c:α→α→Int} (h:CmpOk c):∀ a b,lexC c a b < 0↔0 < lexC c b a
 | [],[]=>by simp [lexC]
 | [],_::_=>by simp [lexC]
 | _::_,[]=>by simp [lexC]
 | a::x,b::y=>by
  have ih:=znY h x y
  have hz:=h.zero a b
  have hz2:=h.zero b a
  have ha:=h.anti a b
  simp only [lexC]
  by_cases e:a=b
  ·rw [if_pos (hz.2 e),if_pos (hz2.2 e.symm)];exact ih
  ·rw [if_neg (fun k=>e (hz.1 k)),if_neg (fun k=>e (hz2.1 k).symm)];exact ha
theorem zmj {α:Type} {c:α→α→Int} (h:CmpOk c):∀ {a b d},lexC c a b < 0→lexC c b d < 0→lexC c a d < 0
 | x,y,[],_,h2=>by cases y <;> simp [lexC] at h2
 | x,[],e::z,h1,_=>by cases x <;> simp [lexC] at h1
 | [],b::y,e::z,_,_=>by simp [lexC]
 | a::x,b::y,e::z,h1,h2=>by
  simp only [lexC] at h1 h2 ⊢
  by_cases e1:a=b
  ·subst e1
   rw [if_pos ((h.zero a a).2 rfl)] at h1
   by_cases e2:a=e
   ·subst e2
    rw [if_pos ((h.zero a a).2 rfl)] at h2 ⊢
    exact zmj h h1 h2
   ·rw [if_neg (fun k=>e2 ((h.zero _ _).1 k))] at h2 ⊢
    exact h2
  ·rw [if_neg (fun k=>e1 ((h.zero _ _).1 k))] at h1
   by_cases e2:b=e
   ·subst e2
    rw [if_neg (fun k=>e1 ((h.zero _ _).1 k))]
    exact h1
   ·rw [if_neg (fun k=>e2 ((h.zero _ _).1 k))] at h2
    have h3:=h.trans h1 h2
    rw [if_neg (by omega)]
    exact h3
theorem CmpOk.lex {α:Type} {c:α→α→Int} (h:CmpOk c):CmpOk (lexC c):=⟨zoa h,znY h,zmj h⟩
def zoS (a b:UInt8):Int:=if a < b then -1 else if b < a then 1 else 0
theorem zvD:CmpOk zoS:=by
 refine ⟨fun a b=>?_,fun a b=>?_,fun {a b d} h1 h2=>?_⟩
 all_goals simp only [zoS,UInt8.lt_iff_toNat_lt,← UInt8.toNat_inj] at *
 all_goals repeat' split
 all_goals (try omega)
 all_goals (repeat' split at h1)
 all_goals (try omega)
 all_goals (repeat' split at h2)
 all_goals omega
theorem zc8:∀ a b,Lib.compareBytes a b=lexC zoS a b
 | [],[]=>rfl
 | [],_::_=>rfl
 | _::_,[]=>rfl
 | a::x,b::y=>by
  have ih:=zc8 x y
  simp only [Lib.compareBytes,lexC,zoS,ih]
  by_cases h1:a < b
  ·simp [h1]
  ·by_cases h2:b < a
   ·simp [h1,h2]
   ·simp [h1,h2]
theorem zvX:CmpOk cmpI:=by
 refine ⟨fun a b=>?_,fun a b=>?_,fun {a b d} h1 h2=>?_⟩
 all_goals simp only [cmpI] at *
 all_goals repeat' split
 all_goals (try omega)
 all_goals (repeat' split at h1)
 all_goals (try omega)
 all_goals (repeat' split at h2)
 all_goals omega
theorem zvY:CmpOk cmpB:=by
 have h:=zvD.lex
 refine ⟨fun a b=>?_,fun a b=>?_,fun {a b d} h1 h2=>?_⟩
 ·simp only [cmpB,zc8,h.zero]
  constructor
  ·intro e;cases a;cases b;simp at e;rw [e]
  ·intro e;rw [e]
 ·simp only [cmpB,zc8];exact h.anti _ _
 ·simp only [cmpB,zc8] at *;exact h.trans h1 h2
theorem zle (a b:V):rCmp a b=if cmpI a.kind b.kind=0 then (if cmpI a.int b.int=0 then cmpB a.text b.text else cmpI a.int b.int) else cmpI a.kind b.kind:=by
 unfold rCmp cmpB3 cmpB2
 rcases Int.lt_trichotomy a.kind b.kind with h1|h1|h1
 ·have e:(a.kind != b.kind)=true:=by simp;omega
  rw [zla h1];simp [h1,e]
 ·rw [zk7 h1]
  rcases Int.lt_trichotomy a.int b.int with h2|h2|h2
  ·have e:(a.int != b.int)=true:=by simp;omega
   rw [zla h2];simp [h1,h2,e]
  ·rw [zk7 h2];simp [h1,h2]
  ·have e:(a.int != b.int)=true:=by simp;omega
   have e2:¬ a.int < b.int:=by omega
   rw [zkW h2];simp [h1,e,e2]
 ·have e:(a.kind != b.kind)=true:=by simp;omega
  have e2:¬ a.kind < b.kind:=by omega
  rw [zkW h1];simp [e,e2]
theorem zwJ:CmpOk rCmp:=by
 have hi:=zvX
 have hb:=zvY
 refine ⟨fun a b=>?_,fun a b=>?_,fun {a b d} h1 h2=>?_⟩
 ·rw [zle]
  have z1:=hi.zero a.kind b.kind
  have z2:=hi.zero a.int b.int
  have z3:=hb.zero a.text b.text
  constructor
  ·intro h
   split at h
   ·split at h
    ·cases a;cases b;simp_all
    ·omega
   ·omega
  ·rintro rfl
   simp [(hi.zero _ _).2 rfl,(hb.zero _ _).2 rfl]
 ·rw [zle,zle]
  have z1:=hi.zero a.kind b.kind
  have z1':=hi.zero b.kind a.kind
  have z2:=hi.zero a.int b.int
  have z2':=hi.zero b.int a.int
  by_cases e1:a.kind=b.kind
  ·rw [if_pos (z1.2 e1),if_pos (z1'.2 e1.symm)]
   by_cases e2:a.int=b.int
   ·rw [if_pos (z2.2 e2),if_pos (z2'.2 e2.symm)];exact hb.anti _ _
   ·rw [if_neg (fun k=>e2 (z2.1 k)),if_neg (fun k=>e2 (z2'.1 k).symm)];exact hi.anti _ _
  ·rw [if_neg (fun k=>e1 (z1.1 k)),if_neg (fun k=>e1 (z1'.1 k).symm)];exact hi.anti _ _
 ·have key:∀ x y:V,rCmp x y < 0↔x.kind < y.kind∨(x.kind=y.kind∧(x.int < y.int∨(x.int=y.int∧cmpB x.text y.text < 0))):=by
   intro x y
   rw [zle]
   rcases Int.lt_trichotomy x.kind y.kind with h1|h1|h1
   ·rw [zla h1];simp [h1]
   ·rw [zk7 h1]
    rcases Int.lt_trichotomy x.int y.int with h2|h2|h2
    ·rw [zla h2];simp [h1,h2]
    ·rw [zk7 h2];simp [h1,h2]
    ·have e:¬ x.int < y.int:=by omega
     have e2:x.int≠y.int:=by omega
     rw [zkW h2];simp [h1,e,e2]
   ·have e:¬ x.kind < y.kind:=by omega
    have e2:x.kind≠y.kind:=by omega
    rw [zkW h1];simp [e,e2]
  rw [key] at h1 h2 ⊢
  rcases h1 with h1|⟨e1,h1|⟨f1,h1⟩⟩ <;> rcases h2 with h2|⟨e2,h2|⟨f2,h2⟩⟩
  all_goals first|(left;omega)|(right;refine ⟨by omega,?_⟩;first|(left;omega)|(right;exact ⟨by omega,hb.trans h1 h2⟩))
theorem zom (a b:List V):∀ (l:List V) (i:Nat),i≤b.length→a.length=i+l.length→zjZ a b l i=lexC rCmp l (b.drop i)
 | [],i,hi,ha=>by
  simp only [zjZ,List.length_map]
  simp at ha
  by_cases h:i=b.length
  ·have e1:b.drop i=[]:=List.drop_of_length_le (by omega)
   have e2:¬ ((a.length:Nat):Int) < (b.length:Nat):=by omega
   have e3:¬ ((b.length:Nat):Int) < (a.length:Nat):=by omega
   rw [e1];simp only [lexC,e2,e3,decide_false,cond_false]
  ·have e2:((a.length:Nat):Int) < (b.length:Nat):=by omega
   cases hd:b.drop i with
   | nil=>have:=congrArg List.length hd;simp at this;omega
   | cons y s=>simp only [lexC,e2,decide_true,cond_true]
 | x::r,i,hi,ha=>by
  simp only [zjZ,List.length_map]
  by_cases h:i < b.length
  ·have e2:((i:Nat):Int) < (b.length:Nat):=by omega
   have hv:zaB b ((i:Nat):Int)=b[i]:=by simp [zaB,h]
   rw [List.drop_eq_getElem_cons h]
   have ih:=zom a b r (i+1) (by omega) (by simp at ha;omega)
   simp only [e2,decide_true,cond_true,hv,ih,lexC]
   by_cases hz:rCmp x b[i]=0
   ·simp [hz]
   ·have hb:(rCmp x b[i] != 0)=true:=by simpa using hz
    simp [hz,hb]
  ·have e2:¬ ((i:Nat):Int) < (b.length:Nat):=by omega
   have e1:b.drop i=[]:=List.drop_of_length_le (by omega)
   have f1:¬ ((a.length:Nat):Int) < (b.length:Nat):=by simp at ha;omega
   have f2:((b.length:Nat):Int) < (a.length:Nat):=by simp at ha;omega
   rw [e1]
   simp only [e2,f1,f2,decide_false,decide_true,cond_false,cond_true,lexC]
theorem zvI (a b:List V):zk9 a b=lexC rCmp a b:=zom a b a 0 (by omega) (by omega)
theorem zqA:CmpOk zk9:=by
 have:zk9=lexC rCmp:=funext fun a=>funext fun b=>zvI a b
 rw [this];exact zwJ.lex
/- ### sorting -/
abbrev LeR (x y:List V):Prop:=¬ 0 < zk9 x y
theorem zwv (x y:List V):LeR x y↔zk9 x y < 0∨x=y:=by
 have h:=zqA.zero x y
 unfold LeR
 constructor
 ·intro h1
  by_cases h2:zk9 x y=0
  ·exact .inr (h.1 h2)
  ·exact .inl (by omega)
 ·rintro (h1|h1)
  ·omega
  ·rw [h.2 h1];omega
theorem LeR.trans {x y z:List V} (h1:LeR x y) (h2:LeR y z):LeR x z:=by
 rw [zwv] at *
 rcases h1 with h1|rfl
 ·rcases h2 with h2|rfl
  ·exact .inl (zqA.trans h1 h2)
  ·exact .inl h1
 ·exact h2
end Go.AM
namespace Go.AM
set_option maxRecDepth 100000
set_option maxHeartbeats 4000000
set_option linter.unusedSimpArgs false
set_option linter.unusedVariables false
structure ChV (t:Tb) (c:Ch):Prop where
 del:c.del.Pairwise fun a b=>a < b
 delIn:∀ d∈c.del,(get6 d t.rows).2=true
 upd:c.upd.Pairwise fun a b=>a.id < b.id
 updIn:∀ p∈c.upd,get6 p.id t.rows=(p.old,true)∧anyI c.del p.id=false∧p.nw.length=t.sch.cols.length
 ins:∀ r∈c.ins,r.length=t.sch.cols.length
 ld:c.del.length≤100000
 lu:c.upd.length≤100000
 li:c.ins.length≤100000
end Go.AM
namespace Go.AM
set_option maxRecDepth 100000
set_option maxHeartbeats 1000000
set_option linter.unusedSimpArgs false
set_option linter.unusedVariables false
noncomputable def zs0 (l:List Int) (n:Int) (i:Nat) :Cfg:=zal B.slices_Index_int 0 [(0,isl l),(1,iv n),(7,iv ((l.map za0).length:Nat)),(8,iv (i:Nat))] []
theorem zfD (l:List Int) (n:Int) (hl:zac l) (i:Nat)  (hi:i≤(l).length) (hI:idxF (fun t=>n==t) l 0=idxF (fun t=>n==t) (l.drop i) i):((idxF (fun t=>n==t) l 0=idxF (fun t=>n==t) (l.drop (l).length) (l).length)∧(decide ((((l).length:Nat):Int) < (((l.map za0).length:Nat):Int))=false)∧∀ R,Good E0 B.slices_Index_int [] (zs0 l n (l).length ) R→Good E0 B.slices_Index_int [] (zs0 l n i ) R)∨(∃ (r:Int),r=idxF (fun t=>n==t) l 0∧Good E0 B.slices_Index_int [] (zs0 l n i ) (Shut 0 fun rZ hZ=>rZ=(iv r)∧hZ=[])):=by
 obtain ⟨kk,hk⟩:∃ kk,i+kk=(l).length:=⟨(l).length - i,by omega⟩
 induction kk generalizing i  with
 | zero =>
  have e0:i=(l).length:=by omega
  subst e0
  exact .inl ⟨hI,by simp,fun R hg=>hg⟩
 | succ kk ih =>
  obtain ⟨x,hx⟩:=zav (l:=l) (i:=i) (by omega)
  have h0:decide (((i:Nat):Int) < (((l.map za0).length:Nat):Int))=true:=by simp;omega
  have hw:IntKind.i64.wrap (((i:Nat):Int)+1)=((i+1:Nat):Int):=zak i (by first|omega|(simp only [zac,Few] at *;omega))
  let p_1:List St:=[sb h0,se (zaf (fun n=>[iv n]) hx rfl)]
  cases h1:n==x
  ·exact (ih (i+1) (by omega) (by exact zim hI hx (by assumption)) (by omega)).elim (fun ⟨qZ,xZ,gZ⟩=>.inl ⟨qZ,xZ,fun R hg=>zab (wkl (p_1++[sb h1,si hw]) [0,1,7,8] 0 kr (gZ R hg))⟩) (fun ⟨rY,pZ,gZ⟩=>.inr ⟨rY,pZ,zab (wkl [sb h0,se (zaf (fun n=>[iv n]) hx rfl),sb h1,si hw] [0,1,7,8] 0 kr gZ)⟩)
  ·exact .inr ⟨(i:Int),(by exact zkh hI hx (by assumption)),zab (wkr (p_1++[sb h1]) kr)⟩
theorem c_ixN (l:List Int) (n:Int) (hl:zac l):∃ (r:Int),r=idxF (fun t=>n==t) l 0∧zaa E0 S.slices_Index_int [isl l,iv n] [] (iv r) []:=by
 rcases zfD l n (by first|assumption|rfl|omega) 0 (by first|assumption|rfl|omega) (by first|assumption|rfl|omega) with ⟨q1,q1_1,g1⟩|⟨r1_0,p1_0,g1⟩
 ·exact ⟨-1,(by first|assumption|exact zgU (by assumption)),wkc At.slices_Index_int [] [0,1,7,8] 0 kr (g1 _ (zab (wkr [sb q1_1] kr)))⟩
 ·exact ⟨r1_0,(by first|assumption|exact zgU (by assumption)),wkc At.slices_Index_int [] [0,1,7,8] 0 kr (g1)⟩
theorem zvd {l:List Int} {n:Int}:decide (0≤idxF (fun t=>n==t) l 0)=anyI l n:=by
 rcases zfA (fun t=>n==t) l 0 with ⟨h1,h2⟩|⟨j,x,h1,h2,h3⟩
 ·rw [h1]
  cases ha:anyI l n
  ·rfl
  ·have hm:=zl5.1 ha
   have:=List.find?_eq_none.1 h2 n hm
   simp at this
 ·rw [h1]
  have hx:=List.find?_some h3
  simp only [beq_iff_eq] at hx
  have:anyI l n=true:=zl5.2 (hx ▸ List.mem_of_getElem? h2)
  rw [this];simp
theorem c_conI (l:List Int) (n:Int) (hx:∃ r:Int,r=idxF (fun t=>n==t) l 0∧zaa E0 S.slices_Index_int [isl l,iv n] [] (iv r) []):∃ (r:Bool),r=anyI l n∧zaa E0 S.slices_Contains_int [isl l,iv n] [] (bv r) []:=by
 obtain ⟨r1,q1,c1⟩:=hx
 exact ⟨decide ((0:Int)≤r1),(by (rw [← zvd];subst_vars;first|rfl|assumption|simp_all)),wk At.slices_Contains_int [sc c1] kr⟩
theorem zbS (l:List Int) (n:Int) (hl:zac l):zaa E0 S.slices_Contains_int [isl l,iv n] [] (bv (anyI l n)) []:=by
 obtain ⟨r,rfl,h⟩:=c_conI l n (c_ixN l n hl)
 exact h
noncomputable def zsH (t:Tb) (n:Int) (i:Nat) :Cfg:=zal B.table_Get 0 [(1,iv n),(9,.sl (t.rows.map Rw.cells)),(10,iv ((t.rows.map Rw.cells).length:Nat)),(11,iv (i:Nat))] [.box t.cells]
theorem zig (t:Tb) (n:Int) (hl:zac t.rows) (hv:∀ r∈t.rows,zac r.vals) (i:Nat)  (hi:i≤(t.rows).length) (hI:get6 n t.rows=get6 n (t.rows.drop i)):((get6 n t.rows=get6 n (t.rows.drop (t.rows).length))∧(decide ((((t.rows).length:Nat):Int) < (((t.rows.map Rw.cells).length:Nat):Int))=false)∧∀ R,Good E0 B.table_Get [] (zsH t n (t.rows).length ) R→Good E0 B.table_Get [] (zsH t n i ) R)∨(∃ (v:List V) (r:Bool),(v,r)=get6 n t.rows∧Good E0 B.table_Get [] (zsH t n i ) (Shut 0 fun rZ hZ=>rZ=(.tup [vsl v,bv r])∧hZ=[])):=by
 obtain ⟨kk,hk⟩:∃ kk,i+kk=(t.rows).length:=⟨(t.rows).length - i,by omega⟩
 induction kk generalizing i  with
 | zero =>
  have e0:i=(t.rows).length:=by omega
  subst e0
  exact .inl ⟨hI,by simp,fun R hg=>hg⟩
 | succ kk ih =>
  obtain ⟨x,hx⟩:=zav (l:=t.rows) (i:=i) (by omega)
  have h0:decide (((i:Nat):Int) < (((t.rows.map Rw.cells).length:Nat):Int))=true:=by simp;omega
  have hw:IntKind.i64.wrap (((i:Nat):Int)+1)=((i+1:Nat):Int):=zak i (by first|omega|(simp only [zac,Few] at *;omega))
  have hvx:=hv x (List.mem_of_getElem? hx)
  cases h1:x.id==n
  ·exact (ih (i+1) (by omega) (by (rw [hI,zaR hx];simp only [get6, *,cond_false])) (by omega)).elim (fun ⟨qZ,xZ,gZ⟩=>.inl ⟨qZ,xZ,fun R hg=>zab (wkl [sb h0,se (zaf Rw.cells hx rfl),sb h1,si hw] [1,9,10,11] 1 kr (gZ R hg))⟩) (fun ⟨vY,rY,pZ,gZ⟩=>.inr ⟨vY,rY,pZ,zab (wkl [sb h0,se (zaf Rw.cells hx rfl),sb h1,si hw] [1,9,10,11] 1 kr gZ)⟩)
  ·exact .inr ⟨x.vals,true,(by (rw [hI,zaR hx];simp only [get6, *,cond_true];try rfl)),zab (wkr [sqx (x.vals.length=(List.map V.cells x.vals).length∧True∧True),sb h0,se (zaf Rw.cells hx rfl),sb h1,sc (zap x.vals (by first|assumption|omega|(simp;done)|(simp;omega)))] kr)⟩
theorem zrt (t:Tb) (n:Int) (hl:zac t.rows) (hv:∀ r∈t.rows,zac r.vals):∃ (v:List V) (r:Bool),(v,r)=get6 n t.rows∧zaa E0 S.table_Get [t.av,iv n] [] (.tup [vsl v,bv r]) []:=by
 rcases zig t n (by first|assumption|rfl|omega) (by first|assumption|rfl|omega) 0 (by first|assumption|rfl|omega) (by first|assumption|rfl|omega) with ⟨q1,q1_1,g1⟩|⟨r1_0,r1_1,p1_0,g1⟩
 ·exact ⟨[],false,(by first|assumption|(rw [‹get6 _ _=get6 _ _›,List.drop_length];rfl)),wkc At.table_Get [] [1,9,10,11] 1 kr (g1 _ (zab (wkr [sb q1_1] kr)))⟩
 ·exact ⟨r1_0,r1_1,(by first|assumption|(rw [‹get6 _ _=get6 _ _›,List.drop_length];rfl)),wkc At.table_Get [] [1,9,10,11] 1 kr (g1)⟩
theorem zhE (t:Tb) (n:Int) (hl:zac t.rows) (hv:∀ r∈t.rows,zac r.vals):zaa E0 S.table_Get [t.av,iv n] [] (.tup [vsl (get6 n t.rows).1,bv (get6 n t.rows).2]) []:=by
 obtain ⟨v,r,h,h2⟩:=zrt t n hl hv
 rw [← h];exact h2
end Go.AM
namespace Go.AM
set_option maxRecDepth 100000
set_option maxHeartbeats 1000000
set_option linter.unusedSimpArgs false
set_option linter.unusedVariables false
theorem zlq {p:Prop} (h:p:=by first|assumption|omega|(simp;done)|(simp;omega)):p:=h
structure RwV (t:Tb) (ids gone:List Int):Prop where
 asc:ids.Pairwise fun a b=>a < b
 inn:∀ d∈ids,(get6 d t.rows).2=true∧anyI gone d=false
 len:ids.length≤100000
noncomputable def zoT (t:Tb) (ids gone:List Int) (i:Nat) :Cfg:=zal B.keys_rows 0 [(1,isl ids),(2,isl gone),(3,.p 0 0),(11,isl ids),(12,iv ((ids.map za0).length:Nat)),(13,iv (i:Nat))] [.box t.cells]
theorem zin (t:Tb) (ids gone:List Int) (hs:zac t.rows) (hvs:∀ r∈t.rows,zac r.vals) (hg:zac gone) (hc:RwV t ids gone) (i:Nat)  (hi:i≤(ids).length) (hI:1≤i):(1≤(ids).length)∧(decide ((((ids).length:Nat):Int) < (((ids.map za0).length:Nat):Int))=false)∧∀ R,Good E0 B.keys_rows [] (zoT t ids gone (ids).length ) R→Good E0 B.keys_rows [] (zoT t ids gone i ) R:=by
 obtain ⟨kk,hk⟩:∃ kk,i+kk=(ids).length:=⟨(ids).length - i,by omega⟩
 induction kk generalizing i  with
 | zero =>
  have e0:i=(ids).length:=by omega
  subst e0
  exact ⟨hI,by simp,fun R hg=>hg⟩
 | succ kk ih =>
  obtain ⟨x,hx⟩:=zav (l:=ids) (i:=i) (by omega)
  have h0:decide (((i:Nat):Int) < (((ids.map za0).length:Nat):Int))=true:=by simp;omega
  have hw:IntKind.i64.wrap (((i:Nat):Int)+1)=((i+1:Nat):Int):=zak i (by (have:=hc.len;omega))
  have a1:(!(get6 x t.rows).2)=false:=(by rw [(hc.inn x (List.mem_of_getElem? hx)).1];rfl);have a5:decide ((0:Int) < ((i:Nat):Int))=true:=(by simp;omega);have hil:=zee hx;have hld:=hc.len
  have a4:∀ y,AtI ids (IntKind.i64.wrap (((i:Nat):Int) - 1)) y→decide (x≤y)=false:=fun y hy=>asc_at (f:=fun z=>z) hc.asc hx hI (by omega) hy
  have a8:anyI gone x=false:=(hc.inn x (List.mem_of_getElem? hx)).2
  obtain ⟨x1,e1⟩:=zuv (l:=ids) (i:=IntKind.i64.wrap ((i:Int) - (1:Int))) (by exact byte_i hx hI (by omega))
  obtain ⟨qZ,xZ,gZ⟩:=ih (i+1) (by omega) (by omega) (by omega);exact ⟨qZ,xZ,fun R hg=>zab (wkl [sb h0,se (zaf (fun n=>[iv n]) hx rfl),sc (zhE t x zlq zlq),sg a1,sg a5,si (e:=IntKind.i64.wrap ((i:Int) - 1)) rfl,se (znS (fun n=>[iv n]) e1 rfl),sg (a4 x1 e1),sc (zbS gone x zlq),sb a8,si hw] [1,2,3,11,12,13] 1 kr (gZ R hg))⟩
theorem zhG (t:Tb) (ids gone:List Int) (hs:zac t.rows) (hvs:∀ r∈t.rows,zac r.vals) (hg:zac gone) (hc:RwV t ids gone):decide (((ids.length:Nat):Int) < (((ids.map za0).length:Nat):Int))=false∧∀ R,Good E0 B.keys_rows [] (zoT t ids gone ids.length) R→Good E0 B.keys_rows [] (zoT t ids gone 0) R:=by
 cases hrw:ids with
 | nil=>exact ⟨by simp,fun R h=>h⟩
 | cons x r =>
  have hx:ids[0]?=some x:=by rw [hrw];rfl
  obtain ⟨_,h1,h2⟩:=zin t ids gone hs hvs hg hc 1 (by rw [hrw];simp) (Nat.le_refl 1)
  rw [← hrw]
  refine ⟨h1,fun R h=>?_⟩
  have hgg:=h2 R h
  have h0:decide (((0:Nat):Int) < (((ids.map za0).length:Nat):Int))=true:=by rw [hrw];simp
  have a1:(!(get6 x t.rows).2)=false:=(by rw [(hc.inn x (List.mem_of_getElem? hx)).1];rfl)
  have a8:anyI gone x=false:=(hc.inn x (List.mem_of_getElem? hx)).2
  refine zab ?_
  exact wkl [sb h0,se (zaf (fun n=>[iv n]) hx rfl),sc (zhE t x zlq zlq),sg a1,sb (rfl:false=false),sc (zbS gone x zlq),sb a8,si (zcG (t:=(↑0:Int)+1) (n:=0+1) (by omega) (by omega))] [1,2,3,11,12,13] 1 kr (hgg)
theorem zqm (t:Tb) (ids gone:List Int) (hs:zac t.rows) (hvs:∀ r∈t.rows,zac r.vals) (hg:zac gone) (hc:RwV t ids gone):∃ (r:Bool),r=true∧zaa E0 S.keys_rows [t.av,isl ids,isl gone] [] (bv r) []:=by
 obtain ⟨q1,g1⟩:=zhG t ids gone (by first|assumption|rfl|omega) (by first|assumption|rfl|omega) (by first|assumption|rfl|omega) (by first|assumption|rfl|omega)
 exact ⟨true,(by rfl),wkc At.keys_rows [] [1,2,3,11,12,13] 1 kr (g1 _ (zab (wkr [sb q1] kr)))⟩
theorem zia (t:Tb) (ids gone:List Int) (hs:zac t.rows) (hvs:∀ r∈t.rows,zac r.vals) (hg:zac gone) (hc:RwV t ids gone):zaa E0 S.keys_rows [t.av,isl ids,isl gone] [] (bv true) []:=by
 obtain ⟨r,rfl,h⟩:=zqm t ids gone hs hvs hg hc
 exact h
end Go.AM
namespace Go.AM
set_option maxRecDepth 100000
set_option maxHeartbeats 1000000
set_option linter.unusedSimpArgs false
set_option linter.unusedVariables false
theorem zcM {p:Prop} (h:p:=by first|assumption|rfl|exact hc.rwD|exact hc.rwU (by assumption)|omega|(simp [zac];done)):p:=h
theorem zcH {p:Prop} (h:p:=by first|assumption|omega|(simp;done)|(simp;omega)):p:=h
theorem zsi {p:Prop} (h:p:=by first|exact fc_u (by assumption)|exact fc_i (by assumption) (by assumption)|exact fc_0 (by assumption) (by assumption)):p:=h
theorem ChV.rwD {t:Tb} {c:Ch} (h:ChV t c):RwV t c.del []:=⟨h.del,fun d hd=>⟨h.delIn d hd,rfl⟩,h.ld⟩
theorem ChV.rwU {t:Tb} {c:Ch} (h:ChV t c) {ids:List Int} (hi:ids=(c.upd.take c.upd.length).map Pr.id):RwV t ids c.del:=by
 rw [List.take_length] at hi
 subst hi
 refine ⟨List.pairwise_map.2 h.upd,fun d hd=>?_,by rw [List.length_map];exact h.lu⟩
 obtain ⟨p,hp,rfl⟩:=List.mem_map.1 hd
 have:=h.updIn p hp
 exact ⟨by rw [this.1],this.2.1⟩
theorem zgJ (l:List V) (hl:zac l):zaa E0 S.slices_Equal_Value [vsl l,vsl l] [] (bv true) []:=by
 obtain ⟨r,rfl,h⟩:=zi0 l hl
 exact h
noncomputable def L_kvU (t:Tb) (c:Ch) (i:Nat) (ids:List Int):Cfg:=zal B.keys_Valid 0 [(2,.p 0 0),(3,.p 1 0),(5,.own 3 ids.length),(6,.p 2 0),(26,.sl (c.upd.map Pr.cells)),(27,iv ((c.upd.map Pr.cells).length:Nat)),(28,iv (i:Nat))] [.box t.cells,.box c.cells,.box [iv ((t.sch.cols.map Col.cells).length:Nat)],.row Ty.int (ids.map za0) false]
theorem zhL (t:Tb) (c:Ch) (hl:zac c.upd) (hs:zac t.rows) (hvs:∀ r∈t.rows,zac r.vals) (hvo:∀ p∈c.upd,zac p.old) (hc:ChV t c) (i:Nat) (ids:List Int) (hi:i≤(c.upd).length) (hI:ids=(c.upd.take i).map Pr.id):∃ (ids':List Int),(ids'=(c.upd.take (c.upd).length).map Pr.id)∧(decide ((((c.upd).length:Nat):Int) < (((c.upd.map Pr.cells).length:Nat):Int))=false)∧∀ R,Good E0 B.keys_Valid [] (L_kvU t c (c.upd).length ids') R→Good E0 B.keys_Valid [] (L_kvU t c i ids) R:=by
 obtain ⟨kk,hk⟩:∃ kk,i+kk=(c.upd).length:=⟨(c.upd).length - i,by omega⟩
 induction kk generalizing i ids with
 | zero =>
  have e0:i=(c.upd).length:=by omega
  subst e0
  exact ⟨ids,hI,by simp,fun R hg=>hg⟩
 | succ kk ih =>
  obtain ⟨x,hx⟩:=zav (l:=c.upd) (i:=i) (by omega)
  have h0:decide (((i:Nat):Int) < (((c.upd.map Pr.cells).length:Nat):Int))=true:=by simp;omega
  have hw:IntKind.i64.wrap (((i:Nat):Int)+1)=((i+1:Nat):Int):=zak i (by first|omega|(simp only [zac,Few] at *;omega))
  have hm:=List.mem_of_getElem? hx;have hgt:=zhE t x.id hs hvs;rw [(hc.updIn x hm).1] at hgt;have he:=zgJ x.old (hvo x hm)
  have hn:((((x.nw.map V.cells).length:Nat):Int) != (((t.sch.cols.map Col.cells).length:Nat):Int))=false:=(by have:=(hc.updIn x hm).2.2;simp [this])
  have ho:ids.length≤1000000000:=(by rw [hI,List.length_map,List.length_take];simp only [zac] at hl;omega)
  obtain ⟨idsZ,qZ,xZ,gZ⟩:=ih (i+1) (ids++[x.id]) (by omega) (by (rw [List.take_add_one,hx,hI,List.map_append];rfl)) (by omega);exact ⟨idsZ,qZ,xZ,fun R hg=>zab (wkl [sb h0,se (zaf Pr.cells hx rfl),sc hgt,sg (rfl:false=false),sc he,sg (rfl:false=false),sb hn,sqx (AllLen [[iv x.id]] 1∧ids.length=(List.map za0 ids).length∧(((List.map za0 ids).length+[[iv x.id]].length) * 8).le 140737488355328),si hw] [2,3,5,6,26,27,28] 4 kr (zan (show ([(2,AV.p 0 0),(3,AV.p 1 0),(5,AV.own 3 (List.map za0 ids++[[iv x.id]]).length),(6,AV.p 2 0),(26,AV.sl (List.map Pr.cells c.upd)),(27,iv (↑(List.map Pr.cells c.upd).length:Int)),(28,iv (↑(i+1):Int))]:TS)=_ by first|rfl|(simp;done)|(simp [X.cells,Qy.cells,V.cells,Col.cells,Rw.cells,Tb.cells,Fr.cells,Sch.cells,Tp.cells,Pl.cells,xCol,xLit,xBin,xNeg,Ac.cells,Se.cells,Pr.cells,Ch.cells,Rw.cells];done)) (show ([Blk.box [sv t.sch.name,AV.sl (List.map Col.cells t.sch.cols),iv t.next,AV.sl (List.map Rw.cells t.rows)],Blk.box [AV.sl (List.map vrow c.ins),AV.sl (List.map (fun n=>[iv n]) c.del),AV.sl (List.map Pr.cells c.upd)],Blk.box [iv (↑(List.map Col.cells t.sch.cols).length:Int)],Blk.row Ty.int (List.map za0 ids++[[iv x.id]]) false]:Heap)=_ by first|rfl|(simp;done)|(simp [X.cells,Qy.cells,V.cells,Col.cells,Rw.cells,Tb.cells,Fr.cells,Sch.cells,Tp.cells,Pl.cells,xCol,xLit,xBin,xNeg,Ac.cells,Se.cells,Pr.cells,Ch.cells,Rw.cells];done)) (gZ R hg)))⟩
theorem zpq (t:Tb) (c:Ch) (hv:zaa E0 S.table_Valid [t.av] [] (bv true) []) (hl:zac c.upd) (hd:zac c.del) (hi:zac c.ins) (hs:zac t.rows) (hvs:∀ r∈t.rows,zac r.vals) (hvo:∀ p∈c.upd,zac p.old) (hc:ChV t c) (hw:∀ v∈c.ins,(((v.map V.cells).length:Int) != ((t.sch.cols.map Col.cells).length:Int))=false):∃ (r:Bool),r=true∧zaa E0 S.keys_Valid [t.av,c.av] [] (bv r) []:=by
 obtain ⟨ids1,q1,q1_1,g1⟩:=zhL t c zcM zcM zcM zcM zcM 0 ([]) zcM zcM
 exact ⟨!false,(by rfl),wkcN At.keys_Valid [sc hv,sg (rfl:false=false),sc (zia t c.del ([]) zcM zcM zcM zcM),sb (rfl:false=false)] [2,3,5,6,26,27,28] 3 [(.ot 5 Ty.int,4)] kr (g1 _ (zab (wkr [sb q1_1,skx ((True∧True∧True∧True∧True)∧ids1.length=(List.map za0 ids1).length∧True∧True) [] (zia t ids1 c.del zcM zcM zcM zcM),sg (rfl:true=true),sl [2] (zcJ c.ins ((↑(List.map Col.cells t.sch.cols).length:Int)) zcM zcM)] kr)))⟩
theorem zlU (t:Tb) (c:Ch) (ht:TabV t) (hc:ChV t c) (hvo:∀ p∈c.upd,zac p.old):zaa E0 S.keys_Valid [t.av,c.av] [] (bv true) []:=by
 have h1:=hc.ld;have h2:=hc.lu;have h3:=hc.li
 obtain ⟨r,rfl,h⟩:=zpq t c (zgD t ht) (by simp only [zac];omega) (by simp only [zac];omega) (by simp only [zac];omega) ht.shr ht.vals hvo hc (fun v hv=>by simp [hc.ins v hv])
 exact h
noncomputable def zts (t:Tb) (c:Ch) (i:Nat) :Cfg:=zal B.keys_fits 0 [(2,.p 0 0),(3,.p 1 0),(12,.sl (c.upd.map Pr.cells)),(13,iv ((c.upd.map Pr.cells).length:Nat)),(14,iv (i:Nat))] [.box t.cells,.box c.cells]
theorem ziz (t:Tb) (c:Ch) (hl:zac c.upd) (hs:zac t.sch.cols) (hg:∀ p∈c.upd,∀ v∈p.nw,v.Good) (i:Nat)  (hi:i≤(c.upd).length) (hI:zbL t.sch c.upd=zbL t.sch (c.upd.drop i)):((zbL t.sch c.upd=zbL t.sch (c.upd.drop (c.upd).length))∧(decide ((((c.upd).length:Nat):Int) < (((c.upd.map Pr.cells).length:Nat):Int))=false)∧∀ R,Good E0 B.keys_fits [] (zts t c (c.upd).length ) R→Good E0 B.keys_fits [] (zts t c i ) R)∨(∃ (r:Int),(r≠0∧r=zbL t.sch c.upd)∧Good E0 B.keys_fits [] (zts t c i ) (Shut 0 fun rZ hZ=>rZ=(iv r)∧hZ=[])):=by
 obtain ⟨kk,hk⟩:∃ kk,i+kk=(c.upd).length:=⟨(c.upd).length - i,by omega⟩
 induction kk generalizing i  with
 | zero =>
  have e0:i=(c.upd).length:=by omega
  subst e0
  exact .inl ⟨hI,by simp,fun R hg=>hg⟩
 | succ kk ih =>
  obtain ⟨x,hx⟩:=zav (l:=c.upd) (i:=i) (by omega)
  have h0:decide (((i:Nat):Int) < (((c.upd.map Pr.cells).length:Nat):Int))=true:=by simp;omega
  have hw:IntKind.i64.wrap (((i:Nat):Int)+1)=((i+1:Nat):Int):=zak i (by first|omega|(simp only [zac,Few] at *;omega))
  have hgx:=hg x (List.mem_of_getElem? hx)
  let p_1:List St:=[sb h0,se (zaf Pr.cells hx rfl),sc (zc2 t.sch x.nw zcH zcH)]
  cases h1:fit5 t.sch x.nw != 0
  ·exact (ih (i+1) (by omega) (by (rw [hI,zaR hx];simp only [zbL, *,cond_false])) (by omega)).elim (fun ⟨qZ,xZ,gZ⟩=>.inl ⟨qZ,xZ,fun R hg=>zab (wkl (p_1++[sb h1,si hw]) [2,3,12,13,14] 2 kr (gZ R hg))⟩) (fun ⟨rY,pZ,gZ⟩=>.inr ⟨rY,pZ,zab (wkl [sb h0,se (zaf Pr.cells hx rfl),sc (zc2 t.sch x.nw zcH zcH),sb h1,si hw] [2,3,12,13,14] 2 kr gZ)⟩)
  ·exact .inr ⟨fit5 t.sch x.nw,(by (refine ⟨by simpa using ‹(fit5 _ _ != 0)=true›,?_⟩;rw [hI,zaR hx];simp only [zbL, *,cond_true])),zab (wkr (p_1++[sb h1]) kr)⟩
noncomputable def ztk (t:Tb) (c:Ch) (i:Nat) :Cfg:=zal B.keys_fits 1 [(2,.p 0 0),(28,.sl (c.ins.map vrow)),(29,iv ((c.ins.map vrow).length:Nat)),(30,iv (i:Nat))] [.box t.cells,.box c.cells]
theorem ziy (t:Tb) (c:Ch) (hl:zac c.ins) (hs:zac t.sch.cols) (hg:∀ p∈c.ins,∀ v∈p,v.Good) (i:Nat)  (hi:i≤(c.ins).length) (hI:zdf t.sch c.ins=zdf t.sch (c.ins.drop i)):((zdf t.sch c.ins=zdf t.sch (c.ins.drop (c.ins).length))∧(decide ((((c.ins).length:Nat):Int) < (((c.ins.map vrow).length:Nat):Int))=false)∧∀ R,Good E0 B.keys_fits [] (ztk t c (c.ins).length ) R→Good E0 B.keys_fits [] (ztk t c i ) R)∨(∃ (r:Int),(r≠0∧r=zdf t.sch c.ins)∧Good E0 B.keys_fits [] (ztk t c i ) (Shut 0 fun rZ hZ=>rZ=(iv r)∧hZ=[])):=by
 obtain ⟨kk,hk⟩:∃ kk,i+kk=(c.ins).length:=⟨(c.ins).length - i,by omega⟩
 induction kk generalizing i  with
 | zero =>
  have e0:i=(c.ins).length:=by omega
  subst e0
  exact .inl ⟨hI,by simp,fun R hg=>hg⟩
 | succ kk ih =>
  obtain ⟨x,hx⟩:=zav (l:=c.ins) (i:=i) (by omega)
  have h0:decide (((i:Nat):Int) < (((c.ins.map vrow).length:Nat):Int))=true:=by simp;omega
  have hw:IntKind.i64.wrap (((i:Nat):Int)+1)=((i+1:Nat):Int):=zak i (by first|omega|(simp only [zac,Few] at *;omega))
  have hgx:=hg x (List.mem_of_getElem? hx)
  let p_1:List St:=[sb h0,se (zaf vrow hx rfl),sc (zc2 t.sch x zcH zcH)]
  cases h1:fit5 t.sch x != 0
  ·exact (ih (i+1) (by omega) (by (rw [hI,zaR hx];simp only [zdf, *,cond_false])) (by omega)).elim (fun ⟨qZ,xZ,gZ⟩=>.inl ⟨qZ,xZ,fun R hg=>zab (wkl (p_1++[sb h1,si hw]) [2,28,29,30] 2 kr (gZ R hg))⟩) (fun ⟨rY,pZ,gZ⟩=>.inr ⟨rY,pZ,zab (wkl [sb h0,se (zaf vrow hx rfl),sc (zc2 t.sch x zcH zcH),sb h1,si hw] [2,28,29,30] 2 kr gZ)⟩)
  ·exact .inr ⟨fit5 t.sch x,(by (refine ⟨by simpa using ‹(fit5 _ _ != 0)=true›,?_⟩;rw [hI,zaR hx];simp only [zdf, *,cond_true])),zab (wkr (p_1++[sb h1]) kr)⟩
def zby (s:Sch) (c:Ch):Int:=bif zbL s c.upd != 0 then zbL s c.upd else zdf s c.ins
theorem fc_u {s:Sch} {c:Ch} {r:Int} (h:r≠0∧r=zbL s c.upd):r=zby s c:=by
 have h1:(zbL s c.upd != 0)=true:=by rw [← h.2];simpa using h.1
 unfold zby;rw [h1];exact h.2
theorem fc_z {s:Sch} {c:Ch} (h:zbL s c.upd=zbL s (c.upd.drop c.upd.length)):(zbL s c.upd != 0)=false:=by
 rw [h,List.drop_length];rfl
theorem fc_i {s:Sch} {c:Ch} {r:Int} (h:zbL s c.upd=zbL s (c.upd.drop c.upd.length)) (h2:r≠0∧r=zdf s c.ins):r=zby s c:=by
 unfold zby;rw [fc_z h];exact h2.2
theorem fc_0 {s:Sch} {c:Ch} (h:zbL s c.upd=zbL s (c.upd.drop c.upd.length)) (h2:zdf s c.ins=zdf s (c.ins.drop c.ins.length)):(0:Int)=zby s c:=by
 unfold zby;rw [fc_z h,h2,List.drop_length];rfl
theorem zrh (t:Tb) (c:Ch) (hl:zac c.upd) (hi:zac c.ins) (hs:zac t.sch.cols) (hg:∀ p∈c.upd,∀ v∈p.nw,v.Good) (hgi:∀ p∈c.ins,∀ v∈p,v.Good):∃ (r:Int),r=zby t.sch c∧zaa E0 S.keys_fits [t.av,c.av] [] (iv r) []:=by
 rcases ziz t c zcH zcH zcH 0 zcH zcH with ⟨q1,q1_1,g1⟩|⟨r1_0,p1_0,g1⟩
 ·rcases ziy t c zcH zcH zcH 0 zcH zcH with ⟨q2,q2_1,g2⟩|⟨r2_0,p2_0,g2⟩
  ·exact ⟨0,zsi,wkc At.keys_fits [] [2,3,12,13,14] 2 kr (g1 _ (zab (wkl [sb q1_1] [2,28,29,30] 2 kr (g2 _ (zab (wkr [sb q2_1] kr))))))⟩
  ·exact ⟨r2_0,zsi,wkc At.keys_fits [] [2,3,12,13,14] 2 kr (g1 _ (zab (wkl [sb q1_1] [2,28,29,30] 2 kr g2)))⟩
 ·exact ⟨r1_0,zsi,wkc At.keys_fits [] [2,3,12,13,14] 2 kr (g1)⟩
theorem znu (t:Tb) (c:Ch) (hl:zac c.upd) (hi:zac c.ins) (hs:zac t.sch.cols) (hg:∀ p∈c.upd,∀ v∈p.nw,v.Good) (hgi:∀ p∈c.ins,∀ v∈p,v.Good):zaa E0 S.keys_fits [t.av,c.av] [] (iv (zby t.sch c)) []:=by
 obtain ⟨r,rfl,h⟩:=zrh t c hl hi hs hg hgi
 exact h
end Go.AM
namespace Go.AM
set_option linter.unusedSimpArgs false
set_option linter.unusedVariables false
def updF (t:Tb) (c:Ch) (i:Nat):List Pr:=c.upd.filter fun p=>(t.rows.take i).all fun y=>decide (y.id < p.id)
theorem updF_0 (t:Tb) (c:Ch):updF t c 0=c.upd:=by
 unfold updF;rw [List.take_zero];exact List.filter_eq_self.2 fun _ _=>rfl
theorem znR {t:Tb} {c:Ch} {i:Nat} {x:Rw} (hx:t.rows[i]?=some x):updF t c (i+1)=(updF t c i).filter fun p=>decide (x.id < p.id):=by
 unfold updF
 rw [List.filter_filter]
 refine List.filter_congr fun p _=>?_
 rw [List.take_add_one,hx,List.all_append]
 simp [Bool.and_comm]
theorem zrE {n:Int}:∀ {l:List Rw},(get6 n l).2=true→∃ r∈l,r.id=n
 | [],h=>by simp [get6] at h
 | r::l,h=>by
  unfold get6 at h
  cases hr:r.id==n
  ·rw [hr] at h
   obtain ⟨y,hy,e⟩:=zrE (l:=l) h
   exact ⟨y,List.mem_cons_of_mem _ hy,e⟩
  ·exact ⟨r,by simp,by simpa using hr⟩
theorem zma {t:Tb} {c:Ch} {i:Nat} {p:Pr} (h:p∈updF t c i):p∈c.upd:=(List.mem_filter.1 h).1
theorem zrN {t:Tb} {c:Ch} (hc:ChV t c) (ha:t.rows.Pairwise fun a b=>a.id < b.id) {i:Nat} {x:Rw} (hx:t.rows[i]?=some x) {p:Pr} (hp:p∈updF t c i):x.id≤p.id:=by
 obtain ⟨h1,h2⟩:=List.mem_filter.1 hp
 obtain ⟨r,hr,e⟩:=zrE (n:=p.id) (l:=t.rows) (by rw [(hc.updIn p h1).1])
 obtain ⟨j,hj⟩:=List.getElem?_of_mem hr
 obtain ⟨a1,a2⟩:=List.getElem?_eq_some_iff.1 hx
 obtain ⟨b1,b2⟩:=List.getElem?_eq_some_iff.1 hj
 by_cases hlt:j < i
 ·have:=List.all_eq_true.1 h2 r (List.mem_iff_getElem?.2 ⟨j,by rw [List.getElem?_take_of_lt hlt];exact hj⟩)
  simp only [decide_eq_true_eq] at this;omega
 ·rcases Nat.lt_or_eq_of_le (Nat.le_of_not_lt hlt) with h|h
  ·have:=List.pairwise_iff_getElem.1 ha i j a1 b1 h
   rw [a2,b2] at this;omega
  ·subst h
   rw [hx] at hj;cases hj;omega
theorem zvZ {t:Tb} {c:Ch} (ha:t.rows.Pairwise fun a b=>a.id < b.id) {i:Nat} {x:Rw} (hx:t.rows[i]?=some x) {p:Pr} (hp:p∈c.upd) (e:p.id=x.id):p∈updF t c i:=by
 refine List.mem_filter.2 ⟨hp,List.all_eq_true.2 fun y hy=>?_⟩
 obtain ⟨j,hj⟩:=List.mem_iff_getElem?.1 hy
 have hji:j < i:=by
  have:=(List.getElem?_eq_some_iff.1 hj).1;simp at this;omega
 rw [List.getElem?_take_of_lt hji] at hj
 obtain ⟨a1,a2⟩:=List.getElem?_eq_some_iff.1 hx
 obtain ⟨b1,b2⟩:=List.getElem?_eq_some_iff.1 hj
 have:=List.pairwise_iff_getElem.1 ha j i b1 a1 hji
 rw [a2,b2] at this
 simp only [decide_eq_true_eq];omega
theorem zrH {t:Tb} {c:Ch} (hc:ChV t c) (i:Nat):(updF t c i).Pairwise fun a b=>a.id < b.id:=hc.upd.filter _
theorem zoj {t:Tb} {c:Ch} (hc:ChV t c) (ha:t.rows.Pairwise fun a b=>a.id < b.id) {i:Nat} {x:Rw} (hx:t.rows[i]?=some x) (h:∀ p∈updF t c i,p.id≠x.id):updF t c (i+1)=updF t c i:=by
 rw [znR hx]
 refine List.filter_eq_self.2 fun p hp=>?_
 have:=zrN hc ha hx hp
 have:=h p hp
 simp only [decide_eq_true_eq];omega
theorem zud {t:Tb} {c:Ch} (hc:ChV t c) {i:Nat} {x:Rw} (hx:t.rows[i]?=some x) {p:Pr} {r:List Pr} (h:updF t c i=p::r) (e:p.id=x.id):updF t c (i+1)=r:=by
 have hp:=zrH hc i
 rw [znR hx,h,List.filter_cons]
 rw [h,List.pairwise_cons] at hp
 have h1:decide (x.id < p.id)=false:=by simp;omega
 rw [h1]
 refine List.filter_eq_self.2 fun q hq=>?_
 have:=hp.1 q hq
 simp only [decide_eq_true_eq];omega
theorem zop {n:Int}:∀ {l:List Pr},(∀ p∈l,p.id≠n)→fnd7 n l=([],false)
 | [],_=>rfl
 | p::r,h=>by
  have h1:(p.id==n)=false:=by simpa using h p (by simp)
  simp only [fnd7,h1,cond_false]
  exact zop fun q hq=>h q (by simp [hq])
theorem zoi {n:Int} {p:Pr} (e:p.id=n):∀ {l:List Pr},l.Pairwise (fun a b=>a.id < b.id)→p∈l→fnd7 n l=(p.nw,true)
 | q::r,hp,hm=>by
  rw [List.pairwise_cons] at hp
  simp only [List.mem_cons] at hm
  rcases hm with rfl|hm
  ·simp [fnd7,e]
  ·have:=hp.1 p hm
   have h1:(q.id==n)=false:=by rw [beq_eq_false_iff_ne];omega
   simp only [fnd7,h1,cond_false]
   exact zoi e hp.2 hm
structure KaI (t:Tb) (c:Ch) (i:Nat) (up:List Pr) (rs:List Rw):Prop where
 up:up=updF t c i
 len:rs.length≤i
 rs:rs=midR c (t.rows.take i)
section
variable {t : Tb} {c : Ch} {i : Nat} {up : List Pr} {rs : List Rw} {x : Rw}
theorem KaI.zero (t:Tb) (c:Ch):KaI t c 0 c.upd []:=⟨(updF_0 t c).symm,by simp,rfl⟩
theorem KaI.no (hI:KaI t c i up rs) (hc:ChV t c) (ha:t.rows.Pairwise fun a b=>a.id < b.id) (hx:t.rows[i]?=some x) (h:up=[]∨∃ p,up[0]?=some p∧(p.id==x.id)=false):∀ p∈updF t c i,p.id≠x.id:=by
 have hp:=zrH hc i
 rw [← hI.up] at hp ⊢
 rcases h with rfl|⟨p,h1,h2⟩
 ·simp
 ·cases hu:up with
  | nil=>simp
  | cons q r =>
   rw [hu] at h1 hp
   simp only [List.getElem?_cons_zero,Option.some.injEq] at h1
   subst h1
   rw [List.pairwise_cons] at hp
   have h3:q.id≠x.id:=by simpa using h2
   have h4:=zrN hc ha hx (p:=q) (by rw [← hI.up,hu];simp)
   intro p hp'
   simp only [List.mem_cons] at hp'
   rcases hp' with rfl|hp'
   ·exact h3
   ·have:=hp.1 p hp';omega
theorem KaI.del (hI:KaI t c i up rs) (hc:ChV t c) (ha:t.rows.Pairwise fun a b=>a.id < b.id) (hx:t.rows[i]?=some x) (h:anyI c.del x.id=true):KaI t c (i+1) up rs:=by
 have hn:∀ p∈updF t c i,p.id≠x.id:=fun p hp e=>by
  have:=(hc.updIn p (zma hp)).2.1
  rw [e,h] at this;cases this
 have hm:=mid_0 ⟨hI.len,hI.rs⟩ hx h
 exact ⟨by rw [zoj hc ha hx hn];exact hI.up,hm.1,hm.2⟩
theorem KaI.keep (hI:KaI t c i up rs) (hc:ChV t c) (ha:t.rows.Pairwise fun a b=>a.id < b.id) (hx:t.rows[i]?=some x) (hd:anyI c.del x.id=false) (h:up=[]∨∃ p,up[0]?=some p∧(p.id==x.id)=false):KaI t c (i+1) up (rs++[⟨x.id,x.vals⟩]):=by
 have hn:=hI.no hc ha hx h
 have hf:fnd7 x.id c.upd=([],false):=zop fun p hp e=>hn p (zvZ ha hx hp e) e
 have hm:=mid_1 (v:=x.vals) ⟨hI.len,hI.rs⟩ hx hd (by rw [hf];rfl)
 exact ⟨by rw [zoj hc ha hx hn];exact hI.up,hm.1,hm.2⟩
theorem KaI.upd (hI:KaI t c i up rs) (hc:ChV t c) (hx:t.rows[i]?=some x) (hd:anyI c.del x.id=false) {p:Pr} (h1:up[0]?=some p) (h2:(p.id==x.id)=true):KaI t c (i+1) (up.drop 1) (rs++[⟨x.id,p.nw⟩]):=by
 have e:p.id=x.id:=by simpa using h2
 cases hu:up with
 | nil=>rw [hu] at h1;simp at h1
 | cons q r =>
  rw [hu] at h1
  simp only [List.getElem?_cons_zero,Option.some.injEq] at h1
  subst h1
  have hu2:updF t c i=q::r:=by rw [← hI.up,hu]
  have hf:=zoi e hc.upd (zma (by rw [hu2];simp))
  have hm:=mid_1 (v:=q.nw) ⟨hI.len,hI.rs⟩ hx hd (by rw [hf];rfl)
  exact ⟨by rw [zud hc hx hu2 e];rfl,hm.1,hm.2⟩
end
end Go.AM
namespace Go.AM
set_option maxRecDepth 100000
set_option maxHeartbeats 1000000
set_option linter.unusedSimpArgs false
set_option linter.unusedVariables false
theorem zmy {p:Prop} (h:p:=by first|exact apx_f (by assumption)|exact apx_l1 hks hli (by assumption) (by assumption)|exact apx_l2 hn (by assumption) (by assumption)|exact apx_d (by assumption) (noLim hks hli hn (by assumption) (by assumption)) (by assumption) (by assumption) (by assumption)|exact apx_0 (by assumption) (noLim hks hli hn (by assumption) (by assumption)) (by assumption) (by assumption) (by assumption) (nxt_eq hli hn)):p:=h
theorem zd5 {p:Prop} (h:p:=by first|assumption|rfl|exact KaI.zero t c|exact kaJ_0 (by assumption)|exact zrZ (by assumption) hm hli|omega):p:=h
theorem zoY {p:Prop} (h:p:=by first|exact hI.del hks.v hks.asc hx (by assumption)|exact hI.keep hks.v hks.asc hx (by assumption) (.inl (upd_hd (by assumption)))|exact hI.keep2 hks.v hks.asc hx (by assumption) (by assumption) (by assumption) (by assumption)|exact hI.upd2 hks.v hx (by assumption) (by assumption) (by assumption) (by assumption)):p:=h
theorem zng {p:Prop} (h:p:=by first|assumption|exact hup.1|exact hup.2|exact hI.nwS hks (by assumption)|exact zwO (by assumption)|omega):p:=h
theorem upd_hd {up:List Pr} (h:decide ((0:Int) < (((up.map Pr.cells).length:Nat):Int))=false):up=[]:=by
 cases up with
 | nil=>rfl
 | cons a r=>simp at h
theorem zwO {up:List Pr} (h:decide ((0:Int) < (((up.map Pr.cells).length:Nat):Int))=true):0 < up.length:=by simpa using h
theorem bif_t {d b r:Bool} (h:d=true) (h2:(bif d then b else false)=r):b=r:=by rw [h] at h2;exact h2
theorem KaI.upd2 {t:Tb} {c:Ch} {i:Nat} {up:List Pr} {rs:List Rw} {x:Rw} (hI:KaI t c i up rs) (hc:ChV t c) (hx:t.rows[i]?=some x) (hd:anyI c.del x.id=false) {p:Pr} (h1:up[0]?=some p) (h0:decide ((0:Int) < (((up.map Pr.cells).length:Nat):Int))=true) (h2:(bif decide ((0:Int) < (((up.map Pr.cells).length:Nat):Int)) then p.id==x.id else false)=true):KaI t c (i+1) (List.drop 1 (List.take (up.map Pr.cells).length up)) (rs++[⟨x.id,p.nw⟩]):=by
 rw [List.length_map,List.take_length];exact hI.upd hc hx hd h1 (bif_t h0 h2)
theorem KaI.keep2 {t:Tb} {c:Ch} {i:Nat} {up:List Pr} {rs:List Rw} {x:Rw} (hI:KaI t c i up rs) (hc:ChV t c) (ha:t.rows.Pairwise fun a b=>a.id < b.id) (hx:t.rows[i]?=some x) (hd:anyI c.del x.id=false) {p:Pr} (h1:up[0]?=some p) (h0:decide ((0:Int) < (((up.map Pr.cells).length:Nat):Int))=true) (h2:(bif decide ((0:Int) < (((up.map Pr.cells).length:Nat):Int)) then p.id==x.id else false)=false):KaI t c (i+1) up (rs++[⟨x.id,x.vals⟩]):=hI.keep hc ha hx hd (.inr ⟨_,h1,bif_t h0 h2⟩)
structure KaS (t:Tb) (c:Ch):Prop where
 v:ChV t c
 asc:t.rows.Pairwise fun a b=>a.id < b.id
 lr:t.rows.length≤100000
 vs:∀ r∈t.rows,zac r.vals
 nw:∀ p∈c.upd,zac p.nw
theorem KaI.sh {t:Tb} {c:Ch} {i:Nat} {up:List Pr} {rs:List Rw} (hI:KaI t c i up rs) (hs:KaS t c):zac up∧zac c.del:=by
 have h1:=hs.v.lu
 have h2:=hs.v.ld
 have h3:up.length≤c.upd.length:=by rw [hI.up];exact List.length_filter_le _ _
 exact ⟨by simp only [zac];omega,by simp only [zac];omega⟩
theorem KaI.nwS {t:Tb} {c:Ch} {i:Nat} {up:List Pr} {rs:List Rw} (hI:KaI t c i up rs) (hs:KaS t c) {p:Pr} (h:up[0]?=some p):zac p.nw:=hs.nw p (zma (by rw [← hI.up];exact List.mem_of_getElem? h))
noncomputable def L_kaV (t:Tb) (c:Ch) (nx:Int) (i:Nat) (up:List Pr) (rs:List Rw):Cfg:=zal B.keys_Apply 0 [(2,.p 0 0),(3,.p 1 0),(4,.p 2 0),(7,.p 3 0),(8,.sl (up.map Pr.cells)),(66,.sl (t.rows.map Rw.cells)),(67,iv ((t.rows.map Rw.cells).length:Nat)),(68,iv (i:Nat))] [.box t.cells,.box c.cells,.box [sv ⟨#[]⟩,.nl,iv 0,.nl],.box [sv t.sch.name,.own 4 t.sch.cols.length,iv nx,.own 5 rs.length],.row Ty.Column (t.sch.cols.map Col.cells) false,.row Ty.Row (rs.map Rw.cells) false]
theorem zhR (t:Tb) (c:Ch) (nx:Int) (hks:KaS t c) (i:Nat) (up:List Pr) (rs:List Rw) (hi:i≤(t.rows).length) (hI:KaI t c i up rs):∃ (up':List Pr) (rs':List Rw),(KaI t c (t.rows).length up' rs')∧(decide ((((t.rows).length:Nat):Int) < (((t.rows.map Rw.cells).length:Nat):Int))=false)∧∀ R,Good E0 B.keys_Apply [] (L_kaV t c nx (t.rows).length up' rs') R→Good E0 B.keys_Apply [] (L_kaV t c nx i up rs) R:=by
 obtain ⟨kk,hk⟩:∃ kk,i+kk=(t.rows).length:=⟨(t.rows).length - i,by omega⟩
 induction kk generalizing i up rs with
 | zero =>
  have e0:i=(t.rows).length:=by omega
  subst e0
  exact ⟨up,rs,hI,by simp,fun R hg=>hg⟩
 | succ kk ih =>
  obtain ⟨x,hx⟩:=zav (l:=t.rows) (i:=i) (by omega)
  have h0:decide (((i:Nat):Int) < (((t.rows.map Rw.cells).length:Nat):Int))=true:=by simp;omega
  have hw:IntKind.i64.wrap (((i:Nat):Int)+1)=((i+1:Nat):Int):=zak i (by (have:=hks.lr;omega))
  have hvx:=hks.vs x (List.mem_of_getElem? hx);have hup:=hI.sh hks;have hol:rs.length≤1000000000:=(by have:=hI.len;have:=hks.lr;omega)
  let p_1:List St:=[sb h0,se (zaf Rw.cells hx rfl),sc (zbS c.del x.id zng)]
  cases h1:anyI c.del x.id
  ·cases h2:decide (0 < (↑(List.map Pr.cells up).length:Int))
   ·obtain ⟨upZ,rsZ,qZ,xZ,gZ⟩:=ih (i+1) up (rs++[x]) (by omega) zoY (by omega);exact ⟨upZ,rsZ,qZ,xZ,fun R hg=>zab (wkl (p_1++[sb h1,sd [(4,[sb h2]),(5,[sb h2]),(6,[sb h2]),(7,[sb h2]),(8,[sb h2]),(9,[sb h2]),(10,[sb h2]),(11,[sb h2])],sd [(5,[sc (zap x.vals zng)]),(7,[sqx (True∧x.vals.length=(List.map V.cells x.vals).length∧True)]),(8,[sqx (AllLen [[iv x.id,AV.sl (List.map V.cells x.vals)]] 2∧rs.length=(List.map Rw.cells rs).length∧(((List.map Rw.cells rs).length+[[iv x.id,AV.sl (List.map V.cells x.vals)]].length) * 32).le 140737488355328)])],si hw]) [2,3,4,7,8,66,67,68] 6 kr (zan rfl (show ([Blk.box [sv t.sch.name,AV.sl (List.map Col.cells t.sch.cols),iv t.next,AV.sl (List.map Rw.cells t.rows)],Blk.box [AV.sl (List.map vrow c.ins),AV.sl (List.map (fun n=>[iv n]) c.del),AV.sl (List.map Pr.cells c.upd)],Blk.box [sv (ByteArray.mk #[]),AV.nl,iv 0,AV.nl],Blk.box [sv t.sch.name,AV.own 4 t.sch.cols.length,iv nx,AV.own 5 (List.map Rw.cells rs++[[iv x.id,AV.sl (List.map V.cells x.vals)]]).length],Blk.row Ty.Column (List.map Col.cells t.sch.cols) false,Blk.row Ty.Row (List.map Rw.cells rs++[[iv x.id,AV.sl (List.map V.cells x.vals)]]) false]:Heap)=_ by first|rfl|(simp [Rw.cells,Tb.cells,Ch.cells,Pr.cells,zi1,List.take_of_length_le];done)) (gZ R hg)))⟩
   ·obtain ⟨x3,e3⟩:=zav (l:=up) (i:=0) zng
    let p_2:List St:=p_1++[sb h1,sd [(4,[sg h2]),(5,[so h2 (se (zaf Pr.cells e3 rfl))]),(6,[sg h2]),(7,[sg h2]),(8,[sg h2]),(9,[sg h2]),(10,[sg h2])]]
    cases h4:bif decide (0 < (↑(List.map Pr.cells up).length:Int)) then x3.id==x.id else false
    ·obtain ⟨upZ,rsZ,qZ,xZ,gZ⟩:=ih (i+1) up (rs++[x]) (by omega) zoY (by omega);exact ⟨upZ,rsZ,qZ,xZ,fun R hg=>zab (wkl (p_2++[sb h4,sd [(5,[sc (zap x.vals zng)]),(7,[sqx (True∧x.vals.length=(List.map V.cells x.vals).length∧True)]),(8,[sqx (AllLen [[iv x.id,AV.sl (List.map V.cells x.vals)]] 2∧rs.length=(List.map Rw.cells rs).length∧(((List.map Rw.cells rs).length+[[iv x.id,AV.sl (List.map V.cells x.vals)]].length) * 32).le 140737488355328)])],si hw]) [2,3,4,7,8,66,67,68] 6 kr (zan rfl (show ([Blk.box [sv t.sch.name,AV.sl (List.map Col.cells t.sch.cols),iv t.next,AV.sl (List.map Rw.cells t.rows)],Blk.box [AV.sl (List.map vrow c.ins),AV.sl (List.map (fun n=>[iv n]) c.del),AV.sl (List.map Pr.cells c.upd)],Blk.box [sv (ByteArray.mk #[]),AV.nl,iv 0,AV.nl],Blk.box [sv t.sch.name,AV.own 4 t.sch.cols.length,iv nx,AV.own 5 (List.map Rw.cells rs++[[iv x.id,AV.sl (List.map V.cells x.vals)]]).length],Blk.row Ty.Column (List.map Col.cells t.sch.cols) false,Blk.row Ty.Row (List.map Rw.cells rs++[[iv x.id,AV.sl (List.map V.cells x.vals)]]) false]:Heap)=_ by first|rfl|(simp [Rw.cells,Tb.cells,Ch.cells,Pr.cells,zi1,List.take_of_length_le];done)) (gZ R hg)))⟩
    ·obtain ⟨upZ,rsZ,qZ,xZ,gZ⟩:=ih (i+1) (List.drop 1 (List.take (List.map Pr.cells up).length up)) (rs++[Rw.mk x.id x3.nw]) (by omega) zoY (by omega);exact ⟨upZ,rsZ,qZ,xZ,fun R hg=>zab (wkl (p_2++[sb h4,sd [(1,[se (zaf Pr.cells e3 rfl)]),(5,[sqx (SubAt (List.map Pr.cells up) 1 (↑(List.map Pr.cells up).length:Int) 3)])],sd [(5,[sc (zap x3.nw zng)]),(7,[sqx (True∧x3.nw.length=(List.map V.cells x3.nw).length∧True)]),(8,[sqx (AllLen [[iv x.id,AV.sl (List.map V.cells x3.nw)]] 2∧rs.length=(List.map Rw.cells rs).length∧(((List.map Rw.cells rs).length+[[iv x.id,AV.sl (List.map V.cells x3.nw)]].length) * 32).le 140737488355328)])],si hw]) [2,3,4,7,8,66,67,68] 6 kr (zan (show ([(2,AV.p 0 0),(3,AV.p 1 0),(4,AV.p 2 0),(7,AV.p 3 0),(8,AV.sl (List.drop (Int.toNat 1) (List.take (↑(List.map Pr.cells up).length:Int).toNat (List.map Pr.cells up)))),(66,AV.sl (List.map Rw.cells t.rows)),(67,iv (↑(List.map Rw.cells t.rows).length:Int)),(68,iv (↑(i+1):Int))]:TS)=_ by first|rfl|(simp [Rw.cells,Tb.cells,Ch.cells,Pr.cells,zi1,List.take_of_length_le];done)) (show ([Blk.box [sv t.sch.name,AV.sl (List.map Col.cells t.sch.cols),iv t.next,AV.sl (List.map Rw.cells t.rows)],Blk.box [AV.sl (List.map vrow c.ins),AV.sl (List.map (fun n=>[iv n]) c.del),AV.sl (List.map Pr.cells c.upd)],Blk.box [sv (ByteArray.mk #[]),AV.nl,iv 0,AV.nl],Blk.box [sv t.sch.name,AV.own 4 t.sch.cols.length,iv nx,AV.own 5 (List.map Rw.cells rs++[[iv x.id,AV.sl (List.map V.cells x3.nw)]]).length],Blk.row Ty.Column (List.map Col.cells t.sch.cols) false,Blk.row Ty.Row (List.map Rw.cells rs++[[iv x.id,AV.sl (List.map V.cells x3.nw)]]) false]:Heap)=_ by first|rfl|(simp [Rw.cells,Tb.cells,Ch.cells,Pr.cells,zi1,List.take_of_length_le];done)) (gZ R hg)))⟩
  ·obtain ⟨upZ,rsZ,qZ,xZ,gZ⟩:=ih (i+1) up rs (by omega) zoY (by omega);exact ⟨upZ,rsZ,qZ,xZ,fun R hg=>zab (wkl (p_1++[sb h1,si hw]) [2,3,4,7,8,66,67,68] 6 kr (gZ R hg))⟩
def zfa (t:Tb) (c:Ch):Prop:=100 < (t.rows.length:Int) - (c.del.length:Int)+(c.ins.length:Int)∨2147483648 - t.next < (c.ins.length:Int)
structure ApX (t:Tb) (c:Ch) (x:Tb) (g:Int):Prop where
 fit:zby t.sch c≠0→g=zby t.sch c
 lim:zby t.sch c=0→zfa t c→g=10
 dup:zby t.sch c=0→¬ zfa t c→¬ (zdw t c).Nodup→g=9
 ok:zby t.sch c=0→¬ zfa t c→(zdw t c).Nodup→g=0∧x=apT t c
def KaJ (t:Tb) (c:Ch) (i:Nat) (rs:List Rw):Prop:=rs=midR c t.rows++insN t.next (c.ins.take i)
theorem kaJ_0 {t:Tb} {c:Ch} {up:List Pr} {rs:List Rw} (h:KaI t c t.rows.length up rs):KaJ t c 0 rs:=by
 have h1:=h.rs
 rw [List.take_length] at h1
 unfold KaJ;rw [h1];simp [insN]
theorem zrZ {t:Tb} {c:Ch} {rs:List Rw} {i:Nat} (h:KaJ t c i rs) (hm:(midR c t.rows).length≤100000) (hl:c.ins.length≤100000):zac rs:=by
 unfold KaJ at h
 rw [h];simp only [zac];rw [List.length_append,zfs,List.length_take];omega
theorem zqD {t:Tb} {c:Ch} {i:Nat} {rs:List Rw} {x:List V} {z:Int} (hI:KaJ t c i rs) (hx:c.ins[i]?=some x) (hz:z=t.next+(i:Int)):KaJ t c (i+1) (rs++[⟨z,x⟩]):=by
 unfold KaJ at *
 have hl:(c.ins.take i).length=i:=by have:=(List.getElem?_eq_some_iff.1 hx).1;simp;omega
 rw [hI,List.take_add_one,hx,List.append_assoc,hz]
 simp only [Option.toList_some]
 rw [zl8,hl]
noncomputable def L_kaJ (t:Tb) (c:Ch) (nx:Int) (i:Nat) (rs:List Rw):Cfg:=zal B.keys_Apply 1 [(2,.p 0 0),(4,.p 2 0),(7,.p 3 0),(109,.sl (c.ins.map vrow)),(110,iv ((c.ins.map vrow).length:Nat)),(111,iv (i:Nat))] [.box t.cells,.box c.cells,.box [sv ⟨#[]⟩,.nl,iv 0,.nl],.box [sv t.sch.name,.own 4 t.sch.cols.length,iv nx,.own 5 rs.length],.row Ty.Column (t.sch.cols.map Col.cells) false,.row Ty.Row (rs.map Rw.cells) false]
theorem zhV (t:Tb) (c:Ch) (nx:Int) (hl:c.ins.length≤100000) (hn:1≤t.next∧t.next≤2147483648) (hvi:∀ r∈c.ins,zac r) (hm:(midR c t.rows).length≤100000) (i:Nat) (rs:List Rw) (hi:i≤(c.ins).length) (hI:KaJ t c i rs):∃ (rs':List Rw),(KaJ t c (c.ins).length rs')∧(decide ((((c.ins).length:Nat):Int) < (((c.ins.map vrow).length:Nat):Int))=false)∧∀ R,Good E0 B.keys_Apply [] (L_kaJ t c nx (c.ins).length rs') R→Good E0 B.keys_Apply [] (L_kaJ t c nx i rs) R:=by
 obtain ⟨kk,hk⟩:∃ kk,i+kk=(c.ins).length:=⟨(c.ins).length - i,by omega⟩
 induction kk generalizing i rs with
 | zero =>
  have e0:i=(c.ins).length:=by omega
  subst e0
  exact ⟨rs,hI,by simp,fun R hg=>hg⟩
 | succ kk ih =>
  obtain ⟨x,hx⟩:=zav (l:=c.ins) (i:=i) (by omega)
  have h0:decide (((i:Nat):Int) < (((c.ins.map vrow).length:Nat):Int))=true:=by simp;omega
  have hw:IntKind.i64.wrap (((i:Nat):Int)+1)=((i+1:Nat):Int):=zak i (by omega)
  have hvx:=hvi x (List.mem_of_getElem? hx);have hil:=zee hx;have hw1:IntKind.i64.wrap (t.next+((i:Nat):Int))=t.next+((i:Nat):Int):=(by rw [IntKind.wrap_i64];omega)
  have hol:rs.length≤1000000000:=(by have:=zrZ hI hm hl;exact this)
  obtain ⟨rsZ,qZ,xZ,gZ⟩:=ih (i+1) (rs++[Rw.mk (t.next+(i:Int)) x]) (by omega) (by first|exact zqD hI hx rfl|exact zqD hI hx hw1) (by omega);exact ⟨rsZ,qZ,xZ,fun R hg=>zab (wkl [sb h0,se (zaf vrow hx rfl),sd [(5,[si hw1]),(7,[sc (zap x (by first|assumption|omega|(simp;done)|(simp;omega)))]),(9,[sqx (True∧x.length=(List.map V.cells x).length∧True)]),(10,[sqx (AllLen [[iv (t.next+(i:Int)),AV.sl (List.map V.cells x)]] 2∧rs.length=(List.map Rw.cells rs).length∧(((List.map Rw.cells rs).length+[[iv (t.next+(i:Int)),AV.sl (List.map V.cells x)]].length) * 32).le 140737488355328)])],si hw] [2,4,7,109,110,111] 6 kr (zan rfl (show ([Blk.box [sv t.sch.name,AV.sl (List.map Col.cells t.sch.cols),iv t.next,AV.sl (List.map Rw.cells t.rows)],Blk.box [AV.sl (List.map vrow c.ins),AV.sl (List.map (fun n=>[iv n]) c.del),AV.sl (List.map Pr.cells c.upd)],Blk.box [sv (ByteArray.mk #[]),AV.nl,iv 0,AV.nl],Blk.box [sv t.sch.name,AV.own 4 t.sch.cols.length,iv nx,AV.own 5 (List.map Rw.cells rs++[[iv (t.next+(i:Int)),AV.sl (List.map V.cells x)]]).length],Blk.row Ty.Column (List.map Col.cells t.sch.cols) false,Blk.row Ty.Row (List.map Rw.cells rs++[[iv (t.next+(i:Int)),AV.sl (List.map V.cells x)]]) false]:Heap)=_ by first|rfl|(simp [Rw.cells,Tb.cells,Ch.cells,Pr.cells,zi1,List.take_of_length_le];done)) (gZ R hg)))⟩
section
variable {t x : Tb} {c : Ch} {g nx : Int} {rs : List Rw} {b : Bool}
theorem apx_f (h:(zby t.sch c != 0)=true):ApX t c x (zby t.sch c):=by
 have h1:zby t.sch c≠0:=by simpa using h
 exact ⟨fun _=>rfl,fun e=>absurd e h1,fun e=>absurd e h1,fun e=>absurd e h1⟩
theorem ztv (h:(zby t.sch c != 0)=false):zby t.sch c=0:=by simpa using h
theorem apx_l (h0:(zby t.sch c != 0)=false) (hl:zfa t c):ApX t c x 10 :=
 ⟨fun e=>absurd (ztv h0) e,fun _ _=>rfl,fun _ e=>absurd hl e,fun _ e=>absurd hl e⟩
theorem lim_1 (hr:t.rows.length≤100000) (hd:c.del.length≤100000) (hi:c.ins.length≤100000):IntKind.i64.wrap (IntKind.i64.wrap (((t.rows.map Rw.cells).length:Int) - ((c.del.map fun n=>[iv n]).length:Int))+((c.ins.map vrow).length:Int))=(t.rows.length:Int) - (c.del.length:Int)+(c.ins.length:Int):=by
 simp only [List.length_map,IntKind.wrap_i64];omega
theorem lim_2 (hn:1≤t.next∧t.next≤2147483648):IntKind.i64.wrap (2147483648 - t.next)=2147483648 - t.next:=by
 rw [IntKind.wrap_i64];omega
theorem apx_d (h0:(zby t.sch c != 0)=false) (hn:¬ zfa t c) (hI:KaJ t c c.ins.length rs) (hb:b=false↔(zbc (idxF (fun z=>z.key) t.sch.cols 0) rs).Nodup) (h:b=true):ApX t c x 9:=by
 unfold KaJ at hI
 rw [List.take_length] at hI
 have h3:¬ (zdw t c).Nodup:=fun e=>by
  unfold zdw at e;rw [← hI] at e
  have:=hb.2 e
  rw [h] at this;cases this
 exact ⟨fun e=>absurd (ztv h0) e,fun _ e=>absurd e hn,fun _ _ _=>rfl,fun _ _ e=>absurd e h3⟩
theorem apx_0 (h0:(zby t.sch c != 0)=false) (hn:¬ zfa t c) (hI:KaJ t c c.ins.length rs) (hb:b=false↔(zbc (idxF (fun z=>z.key) t.sch.cols 0) rs).Nodup) (h:b=false) (hx:nx=t.next+(c.ins.length:Int)):ApX t c ⟨t.sch,nx,rs⟩ 0:=by
 unfold KaJ at hI
 rw [List.take_length] at hI
 have h3:(zdw t c).Nodup:=by unfold zdw;rw [← hI];exact hb.1 h
 exact ⟨fun e=>absurd (ztv h0) e,fun _ e=>absurd e hn,fun _ _ e=>absurd h3 e,fun _ _ _=>⟨rfl,by unfold apT;rw [hx,hI]⟩⟩
theorem apx_l1 (hks:KaS t c) (hi:c.ins.length≤100000) (h0:(zby t.sch c != 0)=false) (h:decide ((100:Int) < IntKind.i64.wrap (IntKind.i64.wrap (((t.rows.map Rw.cells).length:Int) - ((c.del.map fun n=>[iv n]).length:Int))+((c.ins.map vrow).length:Int)))=true):ApX t c x 10:=by
 refine apx_l h0 (.inl ?_)
 rw [lim_1 hks.lr hks.v.ld hi] at h;simpa using h
theorem apx_l2 (hn:1≤t.next∧t.next≤2147483648) (h0:(zby t.sch c != 0)=false) (h:decide (IntKind.i64.wrap (2147483648 - t.next) < ((c.ins.map vrow).length:Int))=true):ApX t c x 10:=by
 refine apx_l h0 (.inr ?_)
 rw [lim_2 hn,List.length_map] at h;simpa using h
theorem noLim (hks:KaS t c) (hi:c.ins.length≤100000) (hn:1≤t.next∧t.next≤2147483648) (h:decide ((100:Int) < IntKind.i64.wrap (IntKind.i64.wrap (((t.rows.map Rw.cells).length:Int) - ((c.del.map fun n=>[iv n]).length:Int))+((c.ins.map vrow).length:Int)))=false) (h2:decide (IntKind.i64.wrap (2147483648 - t.next) < ((c.ins.map vrow).length:Int))=false):¬ zfa t c:=by
 rw [lim_1 hks.lr hks.v.ld hi,decide_eq_false_iff_not] at h
 rw [lim_2 hn,List.length_map,decide_eq_false_iff_not] at h2
 unfold zfa;omega
theorem nxt_eq (hi:c.ins.length≤100000) (hn:1≤t.next∧t.next≤2147483648):IntKind.i64.wrap (t.next+((c.ins.map vrow).length:Int))=t.next+(c.ins.length:Int):=by
 rw [List.length_map,IntKind.wrap_i64];omega
end
theorem zoE (t:Tb) (c:Ch) (hks:KaS t c) (hv:zaa E0 S.keys_Valid [t.av,c.av] [] (bv true) []) (hf:zaa E0 S.keys_fits [t.av,c.av] [] (iv (zby t.sch c)) []) (hli:c.ins.length≤100000) (hvi:∀ r∈c.ins,zac r) (hsc:zac t.sch.cols) (hn:1≤t.next∧t.next≤2147483648) (hm:(midR c t.rows).length≤100000):∃ (x:Tb) (g:Int),ApX t c x g∧zaa E0 S.keys_Apply [t.av,c.av] [] (.tup [x.av,iv g]) []:=by
 let p_1:List St:=[sc hv,sb (rfl:false=false),sc hf]
 cases h1:zby t.sch c != 0
 ·let p_2:List St:=p_1++[sb h1,si (e:=IntKind.i64.wrap ((↑(List.map Rw.cells t.rows).length:Int) - (↑(List.map (fun n=>[iv n]) c.del).length:Int))) rfl,si (e:=IntKind.i64.wrap (IntKind.i64.wrap ((↑(List.map Rw.cells t.rows).length:Int) - (↑(List.map (fun n=>[iv n]) c.del).length:Int))+(↑(List.map vrow c.ins).length:Int))) rfl]
  cases h2:decide (100 < IntKind.i64.wrap (IntKind.i64.wrap ((↑(List.map Rw.cells t.rows).length:Int) - (↑(List.map (fun n=>[iv n]) c.del).length:Int))+(↑(List.map vrow c.ins).length:Int)))
  ·let p_3:List St:=p_2++[sg h2,si (e:=IntKind.i64.wrap (2147483648 - t.next)) rfl]
   cases h3:decide (IntKind.i64.wrap (2147483648 - t.next) < (↑(List.map vrow c.ins).length:Int))
   ·obtain ⟨up4,rs4,q4,q4_1,g4⟩:=zhR t c (IntKind.i64.wrap (t.next+(↑(List.map vrow c.ins).length:Int))) zd5 0 c.upd ([]) zd5 zd5
    obtain ⟨rs5,q5,q5_1,g5⟩:=zhV t c (IntKind.i64.wrap (t.next+(↑(List.map vrow c.ins).length:Int))) zd5 zd5 zd5 zd5 0 rs4 zd5 zd5
    obtain ⟨b6,q6,c6⟩:=(zdV (Tb.mk t.sch (IntKind.i64.wrap (t.next+(↑(List.map vrow c.ins).length:Int))) rs5) zd5 zd5)
    let p_4:List St:=p_3++[sb h3,si (e:=IntKind.i64.wrap (t.next+(↑(List.map vrow c.ins).length:Int))) rfl,sc (zat t.sch.cols zd5)]
    rcases (Bool.eq_false_or_eq_true b6).symm with h7|h7
    ·exact ⟨Tb.mk t.sch (IntKind.i64.wrap (t.next+(↑(List.map vrow c.ins).length:Int))) rs5,0,zmy,wkcN At.keys_Apply p_4 [2,3,4,7,8,66,67,68] 5 [(.ob 3 3 Ty.Row,6)] kr (g4 _ (zab (wkl [sb q4_1] [2,4,7,109,110,111] 6 kr (g5 _ (zab (wkr [sqx ((True∧t.sch.cols.length=(List.map Col.cells t.sch.cols).length∧True∧rs5.length=(List.map Rw.cells rs5).length∧True)∧True∧True),sb q5_1,skx ((True∧t.sch.cols.length=(List.map Col.cells t.sch.cols).length∧True∧rs5.length=(List.map Rw.cells rs5).length∧True)∧True) [] c6,sb h7] kr))))))⟩
    ·exact ⟨Tb.mk (Sch.mk (ByteArray.mk #[]) []) 0 [],9,zmy,wkcN At.keys_Apply p_4 [2,3,4,7,8,66,67,68] 5 [(.ob 3 3 Ty.Row,6)] kr (g4 _ (zab (wkl [sb q4_1] [2,4,7,109,110,111] 6 kr (g5 _ (zab (wkr [sb q5_1,skx ((True∧t.sch.cols.length=(List.map Col.cells t.sch.cols).length∧True∧rs5.length=(List.map Rw.cells rs5).length∧True)∧True) [] c6,sb h7] kr))))))⟩
   ·exact ⟨Tb.mk (Sch.mk (ByteArray.mk #[]) []) 0 [],10,zmy,wk At.keys_Apply (p_3++[sb h3]) kr⟩
  ·exact ⟨Tb.mk (Sch.mk (ByteArray.mk #[]) []) 0 [],10,zmy,wk At.keys_Apply (p_2++[sb h2]) kr⟩
 ·exact ⟨Tb.mk (Sch.mk (ByteArray.mk #[]) []) 0 [],zby t.sch c,zmy,wk At.keys_Apply (p_1++[sb h1]) kr⟩
end Go.AM
namespace Go.AM
open Go.WideShapes
theorem zsY {h:Heap} {b b':Nat} {cs:List AV} (hb:h[b]?=some (.box cs)):(zd4 h b')[b]?=some (.box cs):=by
 unfold zd4
 split
 ·rename_i e xs sh h1
  have hne:b'≠b:=fun e=>by subst e;rw [hb] at h1;cases h1
  rw [List.getElem?_set_ne hne];exact hb
 ·exact hb
theorem znU {b:Nat} {cs:List AV}:∀ (l:List Nat) {h:Heap},h[b]?=some (.box cs)→(share h l)[b]?=some (.box cs)
 | [],_,hb=>hb
 | x::r,h,hb=>by
  show (share (zd4 h x) r)[b]?=_
  exact znU r (zsY hb)
theorem zh4 {E:Env0} {fn:Func} {h0:Heap} {c c':Cfg} {R:AV→Heap→Prop} (b i:Nat) {v:AV} {q:Prop} (live:List Nat) (m:Nat) {cs:List AV} (hb:c.h[b]?=some (.box cs)) (hi:cs[i]?=some v) (hq:frzO c.h v=q) (ho:q) (hm:Nat.ble h0.length m=true)
  (he:cut live m ⟨c.n,c.todo,c.ts,(share c.h (frzM v)).set b (.box (cs.set i (frz c.h v)))⟩=c') (hg:Good E fn h0 c' R):Good E fn h0 c R:=by
 have hg':=zdc live m (Nat.le_of_ble_eq_true hm) (he ▸ hg)
 intro β0 S0 w0 β S w tmps hb0 hn x0 r rt
 obtain ⟨g,vs,t,h2,h3,h4,h5⟩:=r.box b cs hb
 have hil:i < vs.length:=by rw [← h4];exact (List.getElem?_eq_some_iff.1 hi).1
 have hv:=h5 i v vs[i] hi (by simp [hil])
 obtain ⟨S',⟨x1,r1⟩,d1⟩:=zmW E v c.h β S w _ r hv.1 (by rw [hq];exact ho)
 have hb1:=znU (frzM v) hb
 have x2:=zeO (β:=β) (S:=S') (w:=w) hb1 (cs.set i (frz c.h v))
 have r2:=r1.setBox hb1 (cs.set i (frz c.h v)) (fun g' vs' t' e2 e3 e4 e5=>by
  refine ⟨by simpa using e4,fun j x y hx hy=>?_⟩
  by_cases hij:i=j
  ·subst hij
   rw [List.getElem?_set_self (List.getElem?_eq_some_iff.1 hi).1] at hx
   cases hx
   have:=e5 i v y hi hy
   refine ⟨?_,this.2⟩
   rw [h2] at e2
   cases e2
   rw [h3] at e3
   have hvs:vs=vs':=by
    have e6:vs.toArray=vs'.toArray:=by injection e3 with e3;injection e3
    simpa using congrArg Array.toList e6
   subst hvs
   have:y=vs[i]:=by
    rw [List.getElem?_eq_getElem hil] at hy
    cases hy
    rfl
   rw [this]
   exact .d _ _ d1
  ·rw [List.getElem?_set_ne hij] at hx
   exact e5 j x y hx hy)
 exact hg' β0 S0 w0 β S' w tmps hb0 hn ((x0.trans x1).trans x2) r2 fun t'=>((rt t').ext x1).ext x2
end Go.AM
namespace Go.AM
set_option maxRecDepth 100000
set_option maxHeartbeats 1000000
set_option linter.unusedSimpArgs false
set_option linter.unusedVariables false
theorem zoZ {p:Prop} (h:p:=by first|assumption|omega|(simp;done)|(simp;omega)):p:=h
abbrev BRow (m:List Tb) (trig:List (List AV)) (s:Sch) (old nw g:List V):Prop:=zaa E0 S.before_Row [.sl trig,.sl [],s.av,vsl old,vsl nw,tsl m,.sl []] [] (.tup [vsl g,.sl [],.sl [],iv 0]) []
theorem zuq (m:List Tb) (trig:List (List AV)) (s:Sch) (old nw g:List V) (hR:zaa E0 S.before_Row [.sl trig,.sl [],s.av,vsl old,vsl nw,tsl m,.sl []] [] (.tup [vsl g,.sl [],.sl [],iv 0]) []):∃ (r:List V) (e:Int),(r=g∧e=0)∧zaa E0 S.statement_run_row [.p 0 0,vsl old,vsl nw] [.box (runB m trig s (.sl []) (.own 1 0)),.row Ty.int [] false] (.tup [vsl r,iv e]) [.box (runB m trig s (.sl []) (.own 1 0)),.row Ty.int [] false]:=by
 exact ⟨g,0,(by exact ⟨rfl,rfl⟩),wk At.statement_run_row [sd [(22,[sc hR])],sb (rfl:false=false),sqx (AllLen [] 1∧0=0∧Nat.le 0 140737488355328)] kr⟩
theorem zd0 (m:List Tb) (trig:List (List AV)) (s:Sch) (old nw g:List V) (hR:BRow m trig s old nw g):zaa E0 S.statement_run_row [.p 0 0,vsl old,vsl nw] [.box (runB m trig s (.sl []) (.own 1 0)),.row Ty.int [] false] (.tup [vsl g,iv 0]) [.box (runB m trig s (.sl []) (.own 1 0)),.row Ty.int [] false]:=by
 obtain ⟨r,e,⟨rfl,rfl⟩,h⟩:=zuq m trig s old nw g hR
 exact h
abbrev rdH0 (m:List Tb) (trig:List (List AV)) (s:Sch) (del:List Int):Heap:=[.box (runB m trig s (.own 1 0) .nl),.row Ty.int [] false,.box [.sl [],isl del,.sl []]]
abbrev rdH1 (m:List Tb) (trig:List (List AV)) (s:Sch) (t:Tb) (del:List Int):Heap:=[.box (runB m trig s (.sl []) (.own 4 0)),.row Ty.int [] true,.box [.sl [],isl del,.sl []],.box t.cells,.row Ty.int [] false]
noncomputable def zo8 (m:List Tb) (trig:List (List AV)) (s:Sch) (t:Tb) (del:List Int) (i:Nat) :Cfg:=zal B.statement_run_rows 0 [(0,.p 0 0),(1,.p 2 0),(20,.sl (t.rows.map Rw.cells)),(21,iv ((t.rows.map Rw.cells).length:Nat)),(22,iv (i:Nat))] (rdH1 m trig s t del)
theorem ze0 (m:List Tb) (trig:List (List AV)) (s:Sch) (t:Tb) (del:List Int) (hr:zac t.rows) (hd:zac del) (hR:∀ r∈t.rows,BRow m trig s r.vals [] []) (i:Nat)  (hi:i≤(t.rows).length) (hI:True):(True)∧(decide ((((t.rows).length:Nat):Int) < (((t.rows.map Rw.cells).length:Nat):Int))=false)∧∀ R,Good E0 B.statement_run_rows (rdH0 m trig s del) (zo8 m trig s t del (t.rows).length ) R→Good E0 B.statement_run_rows (rdH0 m trig s del) (zo8 m trig s t del i ) R:=by
 obtain ⟨kk,hk⟩:∃ kk,i+kk=(t.rows).length:=⟨(t.rows).length - i,by omega⟩
 induction kk generalizing i  hI with
 | zero =>
  have e0:i=(t.rows).length:=by omega
  subst e0
  exact ⟨hI,by simp,fun R hg=>hg⟩
 | succ kk ih =>
  obtain ⟨x,hx⟩:=zav (l:=t.rows) (i:=i) (by omega)
  have h0:decide (((i:Nat):Int) < (((t.rows.map Rw.cells).length:Nat):Int))=true:=by simp;omega
  have hw:IntKind.i64.wrap (((i:Nat):Int)+1)=((i+1:Nat):Int):=zak i (by first|omega|(simp only [zac,Few] at *;omega))
  have hxR:=hR x (List.mem_of_getElem? hx)
  let p_1:List St:=[sb h0,se (zaf Rw.cells hx rfl),sd [(6,[sc (zbS del x.id zoZ)])]]
  cases h1:anyI del x.id
  ·obtain ⟨qZ,xZ,gZ⟩:=ih (i+1) (by omega) (by first|trivial|assumption|(simp;done)|omega|(simp;omega)|(simp at *;omega)) (by omega);exact ⟨qZ,xZ,fun R hg=>zab (wkl (p_1++[sb h1,si hw]) [0,1,20,21,22] 5 kr (gZ R hg))⟩
  ·obtain ⟨qZ,xZ,gZ⟩:=ih (i+1) (by omega) (by first|trivial|assumption|(simp;done)|omega|(simp;omega)|(simp at *;omega)) (by omega);exact ⟨qZ,xZ,fun R hg=>zab (wkl (p_1++[sb h1,sl [0,4] (zd0 m trig s x.vals ([]) ([]) hxR),sb (rfl:false=false),si hw]) [0,1,20,21,22] 5 kr (gZ R hg))⟩
noncomputable def L_rdU (m:List Tb) (trig:List (List AV)) (s:Sch) (t:Tb) (del:List Int) (i:Nat):Cfg:=zal B.statement_run_rows 1 [(0,.p 0 0),(1,.p 2 0),(47,.sl []),(48,iv 0),(49,iv (i:Nat))] (rdH1 m trig s t del)
theorem ze1 (m:List Tb) (trig:List (List AV)) (s:Sch) (t:Tb) (del:List Int) (i:Nat):True∧∀ R,Good E0 B.statement_run_rows (rdH0 m trig s del) (L_rdU m trig s t del i) R→Good E0 B.statement_run_rows (rdH0 m trig s del) (L_rdU m trig s t del i) R:=⟨trivial,fun _ h=>h⟩
noncomputable def L_rdI (m:List Tb) (trig:List (List AV)) (s:Sch) (t:Tb) (del:List Int) (i:Nat):Cfg:=zal B.statement_run_rows 2 [(0,.p 0 0),(1,.p 2 0),(78,.sl []),(79,iv 0),(80,iv (i:Nat))] (rdH1 m trig s t del)
theorem zeH (m:List Tb) (trig:List (List AV)) (s:Sch) (t:Tb) (del:List Int) (i:Nat):True∧∀ R,Good E0 B.statement_run_rows (rdH0 m trig s del) (L_rdI m trig s t del i) R→Good E0 B.statement_run_rows (rdH0 m trig s del) (L_rdI m trig s t del i) R:=⟨trivial,fun _ h=>h⟩
noncomputable def L_rd0 (m:List Tb) (trig:List (List AV)) (s:Sch) (t:Tb) (del:List Int):Cfg:=zal B.statement_run_rows 0 [(0,.p 0 0),(1,.p 2 0),(20,.sl (t.rows.map Rw.cells)),(21,iv ((t.rows.map Rw.cells).length:Nat)),(22,iv 0)] (rdH0 m trig s del++[.box t.cells])
noncomputable def L_rd1 (m:List Tb) (trig:List (List AV)) (s:Sch) (t:Tb) (del:List Int):Cfg:=zal B.statement_run_rows 0 [(0,.p 0 0),(1,.p 2 0),(20,.sl (t.rows.map Rw.cells)),(21,iv ((t.rows.map Rw.cells).length:Nat)),(22,iv 0)] [.box (runB m trig s (.sl []) .nl),.row Ty.int [] true,.box [.sl [],isl del,.sl []],.box t.cells]
theorem zeJ (m:List Tb) (trig:List (List AV)) (s:Sch) (t:Tb) (del:List Int) (hr:zac t.rows) (hd:zac del) (hR:∀ r∈t.rows,BRow m trig s r.vals [] []):decide (((t.rows.length:Nat):Int) < (((t.rows.map Rw.cells).length:Nat):Int))=false∧∀ R,Good E0 B.statement_run_rows (rdH0 m trig s del) (zo8 m trig s t del t.rows.length) R→Good E0 B.statement_run_rows (rdH0 m trig s del) (L_rd0 m trig s t del) R:=by
 obtain ⟨_,h1,h2⟩:=ze0 m trig s t del hr hd hR 0 (Nat.zero_le _) trivial
 refine ⟨h1,fun R h=>?_⟩
 exact zh4 (c':=L_rd1 m trig s t del) (q:=(0=([]:List (List AV)).length)) (cs:=runB m trig s (.own 1 0) .nl) 0 5 (v:=.own 1 0) [0,1,20,21,22] 4 kr kr kr rfl kr kr (zdN (c':=zo8 m trig s t del 0) (cs:=runB m trig s (.sl []) .nl) 0 6 Ty.int [0,1,20,21,22] 5 kr kr kr kr (h2 R h))
theorem zsr (m:List Tb) (trig:List (List AV)) (s:Sch) (t:Tb) (del:List Int) (hr:zac t.rows) (hd:zac del) (hR:∀ r∈t.rows,BRow m trig s r.vals [] []):∃ (r:Int),r=0∧zaa E0 S.statement_run_rows [.p 0 0,.p 2 0,t.av] (rdH0 m trig s del) (iv r) (rdH1 m trig s t del):=by
 obtain ⟨q1,g1⟩:=zeJ m trig s t del zoZ zoZ zoZ
 obtain ⟨q2,g2⟩:=ze1 m trig s t del (0)
 obtain ⟨q3,g3⟩:=zeH m trig s t del (0)
 exact ⟨0,(by rfl),wkcK At.statement_run_rows [] [0,1,20,21,22] 4 kr (g1 _ (zab (wkl [sb q1] [0,1,47,48,49] 5 kr (g2 _ (zab (wkl [sb (rfl:false=false)] [0,1,78,79,80] 5 kr (g3 _ (zab (wkrK [sb (rfl:false=false)] kr)))))))))⟩
theorem zgm (m:List Tb) (trig:List (List AV)) (s:Sch) (t:Tb) (del:List Int) (hr:zac t.rows) (hd:zac del) (hR:∀ r∈t.rows,BRow m trig s r.vals [] []):zaa E0 S.statement_run_rows [.p 0 0,.p 2 0,t.av] (rdH0 m trig s del) (iv 0) (rdH1 m trig s t del):=by
 obtain ⟨r,rfl,h⟩:=zsr m trig s t del hr hd hR
 exact h
end Go.AM
namespace Go.AM
set_option maxRecDepth 100000
set_option maxHeartbeats 1000000
set_option linter.unusedSimpArgs false
set_option linter.unusedVariables false
theorem zmt {p:Prop} (h:p:=by first|assumption|omega|(simp;done)|(simp;omega)):p:=h
abbrev ruH0 (m:List Tb) (trig:List (List AV)) (s:Sch) (upd:List Pr):Heap:=[.box (runB m trig s (.own 1 0) .nl),.row Ty.int [] false,.box [.nl,.nl,.own 3 upd.length],.row Ty.Pair (upd.map Pr.cells) false]
noncomputable def L_ruD (m:List Tb) (trig:List (List AV)) (s:Sch) (t:Tb) (upd:List Pr) (i:Nat) :Cfg:=zal B.statement_run_rows 0 [(0,.p 0 0),(1,.p 2 0),(20,.sl (t.rows.map Rw.cells)),(21,iv ((t.rows.map Rw.cells).length:Nat)),(22,iv (i:Nat))] (ruH0 m trig s upd++[.box t.cells])
theorem ze6 (m:List Tb) (trig:List (List AV)) (s:Sch) (t:Tb) (upd:List Pr) (hr:zac t.rows) (i:Nat)  (hi:i≤(t.rows).length) (hI:True):(True)∧(decide ((((t.rows).length:Nat):Int) < (((t.rows.map Rw.cells).length:Nat):Int))=false)∧∀ R,Good E0 B.statement_run_rows (ruH0 m trig s upd) (L_ruD m trig s t upd (t.rows).length ) R→Good E0 B.statement_run_rows (ruH0 m trig s upd) (L_ruD m trig s t upd i ) R:=by
 obtain ⟨kk,hk⟩:∃ kk,i+kk=(t.rows).length:=⟨(t.rows).length - i,by omega⟩
 induction kk generalizing i  hI with
 | zero =>
  have e0:i=(t.rows).length:=by omega
  subst e0
  exact ⟨hI,by simp,fun R hg=>hg⟩
 | succ kk ih =>
  obtain ⟨x,hx⟩:=zav (l:=t.rows) (i:=i) (by omega)
  have h0:decide (((i:Nat):Int) < (((t.rows.map Rw.cells).length:Nat):Int))=true:=by simp;omega
  have hw:IntKind.i64.wrap (((i:Nat):Int)+1)=((i+1:Nat):Int):=zak i (by first|omega|(simp only [zac,Few] at *;omega))
  obtain ⟨qZ,xZ,gZ⟩:=ih (i+1) (by omega) (by first|trivial|assumption|(simp;done)|omega|(simp;omega)|(simp at *;omega)) (by omega);exact ⟨qZ,xZ,fun R hg=>zab (wkl [sb h0,se (zaf Rw.cells hx rfl),sd [(6,[sc (zbS ([]) x.id zmt)])],sb (rfl:false=false),si hw] [0,1,20,21,22] 5 kr (gZ R hg))⟩
def setU (g:List V→List V→List V) (p:Pr):Pr:=⟨p.id,p.old,g p.old p.nw⟩
abbrev outU (g:List V→List V→List V) (upd:List Pr) (i:Nat):List Pr:=(upd.take i).map (setU g)++upd.drop i
theorem zvp (g:List V→List V→List V) (upd:List Pr) (i:Nat):(outU g upd i).length=upd.length:=by
 simp only [outU,List.length_append,List.length_map,List.length_take,List.length_drop];omega
theorem zwM {g:List V→List V→List V} {upd:List Pr} {i:Nat} {x:Pr} (hx:upd[i]?=some x):(outU g upd i)[i]?=some x:=by
 have hi:=(List.getElem?_eq_some_iff.1 hx).1
 have hl:((upd.take i).map (setU g)).length=i:=by simp;omega
 rw [outU,List.getElem?_append_right (by omega),hl,Nat.sub_self,List.getElem?_drop];simpa using hx
theorem zvQ {g:List V→List V→List V} {upd:List Pr} {i:Nat} {x:Pr} (hx:upd[i]?=some x):(outU g upd i).set i (setU g x)=outU g upd (i+1):=by
 have hi:=(List.getElem?_eq_some_iff.1 hx).1
 have hl:((upd.take i).map (setU g)).length=i:=by simp;omega
 rw [outU,List.set_append_right _ _ (by omega),hl,Nat.sub_self,zaR hx,List.set_cons_zero,outU,List.take_add_one,hx,List.map_append,List.append_assoc]
 rfl
noncomputable def zpc (m:List Tb) (trig:List (List AV)) (s:Sch) (t:Tb) (upd:List Pr) (g:List V→List V→List V) (i:Nat) (out:List Pr):Cfg:=zal B.statement_run_rows 1 [(0,.p 0 0),(1,.p 2 0),(47,.own 3 upd.length),(48,iv (upd.length:Nat)),(49,iv (i:Nat))] [.box (runB m trig s (.sl []) (.own 5 0)),.row Ty.int [] true,.box [.nl,.nl,.own 3 upd.length],.row Ty.Pair (out.map Pr.cells) false,.box t.cells,.row Ty.int [] false]
theorem zeW (m:List Tb) (trig:List (List AV)) (s:Sch) (t:Tb) (upd:List Pr) (g:List V→List V→List V) (hl:zac upd) (hR:∀ p∈upd,BRow m trig s p.old p.nw (g p.old p.nw)) (i:Nat) (out:List Pr) (hi:i≤(upd.length)) (hI:out=outU g upd i):∃ (out':List Pr),(out'=outU g upd upd.length)∧(decide ((((upd.length):Nat):Int) < (((upd.length):Nat):Int))=false)∧∀ R,Good E0 B.statement_run_rows (ruH0 m trig s upd) (zpc m trig s t upd g upd.length out') R→Good E0 B.statement_run_rows (ruH0 m trig s upd) (zpc m trig s t upd g i out) R:=by
 obtain ⟨kk,hk⟩:∃ kk,i+kk=(upd.length):=⟨(upd.length) - i,by omega⟩
 induction kk generalizing i out with
 | zero =>
  have e0:i=(upd.length):=by omega
  subst e0
  exact ⟨out,hI,by simp,fun R hg=>hg⟩
 | succ kk ih =>
  have h0:decide (((i:Nat):Int) < (((upd.length):Nat):Int))=true:=by simp;omega
  have hw:IntKind.i64.wrap (((i:Nat):Int)+1)=((i+1:Nat):Int):=zak i (by (simp only [zac] at hl;omega))
  obtain ⟨x,hx⟩:=zav (l:=upd) (i:=i) (by omega)
  have hxR:=hR x (List.mem_of_getElem? hx)
  have hol:(out.map Pr.cells).length=upd.length:=by rw [List.length_map,hI,zvp]
  have he:OwnEl (out.map Pr.cells) upd.length i x.cells:=⟨hol.symm,by rw [List.getElem?_map,hI,zwM hx];rfl⟩
  have ho:OwnAt (out.map Pr.cells) upd.length ((i:Nat):Int):=⟨hol.symm,by omega,by omega⟩
  obtain ⟨outZ,qZ,xZ,gZ⟩:=ih (i+1) (out.set i (Pr.mk x.id x.old (g x.old x.nw))) (by omega) (by (rw [hI];exact zvQ hx)) (by omega);exact ⟨outZ,qZ,xZ,fun R hg=>zab (wkl [sb h0,sqx (OwnAt (List.map Pr.cells out) upd.length (i:Int)),sx (.el x.cells) he,sl [0,5] (zd0 m trig s x.old x.nw (g x.old x.nw) hxR),sb (rfl:false=false),sqx (OwnAt (List.map Pr.cells out) upd.length (i:Int)),sx (.el x.cells) (And.intro (owed (p:=True∧True)) he),si hw] [0,1,47,48,49] 6 kr (zan rfl (show ([Blk.box [AV.sl (List.map Tb.cells m),AV.sl trig,AV.sl [],sv s.name,AV.sl (List.map Col.cells s.cols),AV.sl [],AV.own 5 0],Blk.row Ty.int [] true,Blk.box [AV.nl,AV.nl,AV.own 3 upd.length],Blk.row Ty.Pair ((List.map Pr.cells out).set i [iv x.id,AV.sl (List.map V.cells x.old),AV.sl (List.map V.cells (g x.old x.nw))]) false,Blk.box [sv t.sch.name,AV.sl (List.map Col.cells t.sch.cols),iv t.next,AV.sl (List.map Rw.cells t.rows)],Blk.row Ty.int [] false]:Heap)=_ by first|rfl|(simp;done)|(simp [X.cells,Qy.cells,V.cells,Col.cells,Rw.cells,Tb.cells,Fr.cells,Sch.cells,Tp.cells,Pl.cells,xCol,xLit,xBin,xNeg,Ac.cells,Se.cells,Pr.cells,Ch.cells,Rw.cells];done)) (gZ R hg)))⟩
noncomputable def L_ru0 (m:List Tb) (trig:List (List AV)) (s:Sch) (t:Tb) (upd:List Pr):Cfg:=zal B.statement_run_rows 1 [(0,.p 0 0),(1,.p 2 0),(47,.own 3 upd.length),(48,iv (upd.length:Nat)),(49,iv 0)] (ruH0 m trig s upd++[.box t.cells])
noncomputable def L_ru1 (m:List Tb) (trig:List (List AV)) (s:Sch) (t:Tb) (upd:List Pr):Cfg:=zal B.statement_run_rows 1 [(0,.p 0 0),(1,.p 2 0),(47,.own 3 upd.length),(48,iv (upd.length:Nat)),(49,iv 0)] [.box (runB m trig s (.sl []) .nl),.row Ty.int [] true,.box [.nl,.nl,.own 3 upd.length],.row Ty.Pair (upd.map Pr.cells) false,.box t.cells]
theorem zeT (m:List Tb) (trig:List (List AV)) (s:Sch) (t:Tb) (upd:List Pr) (g:List V→List V→List V) (hl:zac upd) (hR:∀ p∈upd,BRow m trig s p.old p.nw (g p.old p.nw)):decide (((upd.length:Nat):Int) < ((upd.length:Nat):Int))=false∧∀ R,Good E0 B.statement_run_rows (ruH0 m trig s upd) (zpc m trig s t upd g upd.length (upd.map (setU g))) R→Good E0 B.statement_run_rows (ruH0 m trig s upd) (L_ru0 m trig s t upd) R:=by
 obtain ⟨out,hout,h1,h2⟩:=zeW m trig s t upd g hl hR 0 upd (Nat.zero_le _) (by simp [outU])
 rw [outU,List.take_length,List.drop_length,List.append_nil] at hout
 subst hout
 refine ⟨h1,fun R h=>?_⟩
 exact zh4 (c':=L_ru1 m trig s t upd) (q:=(0=([]:List (List AV)).length)) (cs:=runB m trig s (.own 1 0) .nl) 0 5 (v:=.own 1 0) [0,1,47,48,49] 5 kr kr kr rfl kr kr (zdN (c':=zpc m trig s t upd g 0 upd) (cs:=runB m trig s (.sl []) .nl) 0 6 Ty.int [0,1,47,48,49] 6 kr kr kr kr (h2 R h))
noncomputable def L_ruI (m:List Tb) (trig:List (List AV)) (s:Sch) (t:Tb) (upd up2:List Pr) (i:Nat):Cfg:=zal B.statement_run_rows 2 [(0,.p 0 0),(1,.p 2 0),(78,.nl),(79,iv 0),(80,iv (i:Nat))] [.box (runB m trig s (.sl []) (.own 5 0)),.row Ty.int [] true,.box [.nl,.nl,.own 3 upd.length],.row Ty.Pair (up2.map Pr.cells) false,.box t.cells,.row Ty.int [] false]
theorem ze9 (m:List Tb) (trig:List (List AV)) (s:Sch) (t:Tb) (upd up2:List Pr) (i:Nat):True∧∀ R,Good E0 B.statement_run_rows (ruH0 m trig s upd) (L_ruI m trig s t upd up2 i) R→Good E0 B.statement_run_rows (ruH0 m trig s upd) (L_ruI m trig s t upd up2 i) R:=⟨trivial,fun _ h=>h⟩
theorem zsw (m:List Tb) (trig:List (List AV)) (s:Sch) (t:Tb) (upd:List Pr) (g:List V→List V→List V) (hr:zac t.rows) (hl:zac upd) (hR:∀ p∈upd,BRow m trig s p.old p.nw (g p.old p.nw)):∃ (r:Int),r=0∧zaa E0 S.statement_run_rows [.p 0 0,.p 2 0,t.av] (ruH0 m trig s upd) (iv r) [.box (runB m trig s (.sl []) (.own 5 0)),.row Ty.int [] true,.box [.nl,.nl,.own 3 upd.length],.row Ty.Pair ((upd.map (setU g)).map Pr.cells) false,.box t.cells,.row Ty.int [] false]:=by
 obtain ⟨q1,q1_1,g1⟩:=ze6 m trig s t upd zmt 0 zmt zmt
 obtain ⟨q2,g2⟩:=zeT m trig s t upd g zmt hR
 obtain ⟨q3,g3⟩:=ze9 m trig s t upd (List.map (setU g) upd) (0)
 exact ⟨0,(by rfl),wkcK At.statement_run_rows [] [0,1,20,21,22] 5 kr (g1 _ (zab (wkl [sb q1_1,sqx (upd.length=(List.map Pr.cells upd).length)] [0,1,47,48,49] 5 kr (g2 _ (zab (wkl [sb q2] [0,1,78,79,80] 6 kr (g3 _ (zab (wkrK [sb (rfl:false=false)] kr)))))))))⟩
theorem zgv (m:List Tb) (trig:List (List AV)) (s:Sch) (t:Tb) (upd:List Pr) (g:List V→List V→List V) (hr:zac t.rows) (hl:zac upd) (hR:∀ p∈upd,BRow m trig s p.old p.nw (g p.old p.nw)):zaa E0 S.statement_run_rows [.p 0 0,.p 2 0,t.av] (ruH0 m trig s upd) (iv 0) [.box (runB m trig s (.sl []) (.own 5 0)),.row Ty.int [] true,.box [.nl,.nl,.own 3 upd.length],.row Ty.Pair ((upd.map (setU g)).map Pr.cells) false,.box t.cells,.row Ty.int [] false]:=by
 obtain ⟨r,rfl,h⟩:=zsw m trig s t upd g hr hl hR
 exact h
end Go.AM
namespace Go.AM
set_option maxRecDepth 100000
set_option maxHeartbeats 1000000
set_option linter.unusedSimpArgs false
set_option linter.unusedVariables false
abbrev zmm (tr:Rw→Bool) (a:Ac) (s:Sch) (frs:List Fr) (tb:List Tb) (r:Rw):Prop:=zaa E0 S.evaluate_True [xsl a.wh,fsl (za3 frs s r.vals),tsl tb] [] (.tup [bv (tr r),iv 0]) []
abbrev AgOk (ag:Rw→List V) (a:Ac) (s:Sch) (frs:List Fr) (tb:List Tb) (r:Rw):Prop:=zaa E0 S.dml_assigned [a.av,s.av,vsl r.vals,fsl (za3 frs s r.vals),tsl tb] [] (.tup [vsl (ag r),iv 0]) []
def delC (tr:Rw→Bool) (l:List Rw):List Int:=(l.filter tr).map Rw.id
def updC (tr:Rw→Bool) (ag:Rw→List V) (l:List Rw):List Pr:=(l.filter tr).map fun r=>⟨r.id,r.vals,ag r⟩
theorem zkV {tr:Rw→Bool} {l:List Rw} {i:Nat} {x:Rw} (hx:l[i]?=some x):(l.take (i+1)).filter tr=(l.take i).filter tr++bif tr x then [x] else []:=by
 rw [List.take_add_one,hx,List.filter_append]
 cases h:tr x <;> simp [h]
theorem zt3 {tr:Rw→Bool} {l:List Rw} {i:Nat} {x:Rw} {del:List Int} (hI:del.length≤i∧del=delC tr (l.take i)) (hx:l[i]?=some x) (h:tr x=false):del.length≤i+1∧del=delC tr (l.take (i+1)):=by
 unfold delC at *;rw [zkV hx,h];exact ⟨by omega,by simpa using hI.2⟩
theorem ztH {tr:Rw→Bool} {l:List Rw} {i:Nat} {x:Rw} {del:List Int} (hI:del.length≤i∧del=delC tr (l.take i)) (hx:l[i]?=some x) (h:tr x=true):(del++[x.id]).length≤i+1∧del++[x.id]=delC tr (l.take (i+1)):=by
 unfold delC at *;rw [zkV hx,h,hI.2];refine ⟨?_,by simp⟩
 rw [← hI.2];simp;omega
theorem ztw {tr:Rw→Bool} {ag:Rw→List V} {l:List Rw} {i:Nat} {x:Rw} {upd:List Pr} (hI:upd.length≤i∧upd=updC tr ag (l.take i)) (hx:l[i]?=some x) (h:tr x=false):upd.length≤i+1∧upd=updC tr ag (l.take (i+1)):=by
 unfold updC at *;rw [zkV hx,h];exact ⟨by omega,by simpa using hI.2⟩
theorem zt4 {tr:Rw→Bool} {ag:Rw→List V} {l:List Rw} {i:Nat} {x:Rw} {upd:List Pr} (hI:upd.length≤i∧upd=updC tr ag (l.take i)) (hx:l[i]?=some x) (h:tr x=true):(upd++[Pr.mk x.id x.vals (ag x)]).length≤i+1∧upd++[Pr.mk x.id x.vals (ag x)]=updC tr ag (l.take (i+1)):=by
 unfold updC at *;rw [zkV hx,h,hI.2];refine ⟨?_,by simp⟩
 rw [← hI.2];simp;omega
end Go.AM
namespace Go.AM
set_option maxRecDepth 100000
set_option maxHeartbeats 1000000
set_option linter.unusedSimpArgs false
set_option linter.unusedVariables false
theorem zh9 {p:Prop} (h:p:=by first|assumption|rfl|exact ⟨Nat.zero_le _,rfl⟩|omega):p:=h
noncomputable def L_cdL (tr:Rw→Bool) (a:Ac) (s:Sch) (frs:List Fr) (tb:List Tb) (t:Tb) (i:Nat) (del:List Int):Cfg:=zal B.dml_Candidates 0 [(1,fsl frs),(2,tsl tb),(3,.p 0 0),(6,.p 1 0),(8,.p 2 0),(12,.p 3 0),(55,.sl (t.rows.map Rw.cells)),(56,iv ((t.rows.map Rw.cells).length:Nat)),(57,iv (i:Nat))] [.box a.cells,.box [.nl,.nl,.nl],.box s.cells,.box [.nl,.own 4 del.length,.nl],.row Ty.int (del.map za0) false]
theorem zf6 (tr:Rw→Bool) (a:Ac) (s:Sch) (frs:List Fr) (tb:List Tb) (t:Tb) (h3:zac frs) (hk3:(a.kind==3)=true) (hl:zac t.rows) (ht:∀ r∈t.rows,zmm tr a s frs tb r) (i:Nat) (del:List Int) (hi:i≤(t.rows).length) (hI:del.length≤i∧del=delC tr (t.rows.take i)):∃ (del':List Int),(del'.length≤(t.rows).length∧del'=delC tr (t.rows.take (t.rows).length))∧(decide ((((t.rows).length:Nat):Int) < (((t.rows.map Rw.cells).length:Nat):Int))=false)∧∀ R,Good E0 B.dml_Candidates [] (L_cdL tr a s frs tb t (t.rows).length del') R→Good E0 B.dml_Candidates [] (L_cdL tr a s frs tb t i del) R:=by
 obtain ⟨kk,hk⟩:∃ kk,i+kk=(t.rows).length:=⟨(t.rows).length - i,by omega⟩
 induction kk generalizing i del with
 | zero =>
  have e0:i=(t.rows).length:=by omega
  subst e0
  exact ⟨del,hI,by simp,fun R hg=>hg⟩
 | succ kk ih =>
  obtain ⟨x,hx⟩:=zav (l:=t.rows) (i:=i) (by omega)
  have h0:decide (((i:Nat):Int) < (((t.rows.map Rw.cells).length:Nat):Int))=true:=by simp;omega
  have hw:IntKind.i64.wrap (((i:Nat):Int)+1)=((i+1:Nat):Int):=zak i (by first|omega|(simp only [zac,Few] at *;omega))
  have hfx:=ht x (List.mem_of_getElem? hx);have ho:del.length≤1000000000:=(by have:=hI.1;simp only [zac] at hl;omega)
  let p_1:List St:=[sb h0,se (zaf Rw.cells hx rfl),sc (zkB frs s x.vals (by first|assumption|omega|(simp;done)|(simp;omega))),sc hfx,sb (rfl:false=false)]
  cases h1:!tr x
  ·obtain ⟨delZ,qZ,xZ,gZ⟩:=ih (i+1) (del++[x.id]) (by omega) (by first|exact zt3 hI hx (by simpa using h1)|exact ztH hI hx (by simpa using h1)) (by omega);exact ⟨delZ,qZ,xZ,fun R hg=>zab (wkl (p_1++[sb h1,sb hk3,sqx (AllLen [[iv x.id]] 1∧del.length=(List.map za0 del).length∧(((List.map za0 del).length+[[iv x.id]].length) * 8).le 140737488355328),si hw]) [1,2,3,6,8,12,55,56,57] 5 kr (zan rfl (show ([Blk.box [iv a.kind,sv a.table,AV.sl (List.map (fun r=>[AV.sl (zad r)]) a.rows),AV.sl (zag a.query),AV.sl (List.map Se.cells a.sets),AV.sl (zad a.wh),sv a.text],Blk.box [AV.nl,AV.nl,AV.nl],Blk.box [sv s.name,AV.sl (List.map Col.cells s.cols)],Blk.box [AV.nl,AV.own 4 (List.map za0 del++[[iv x.id]]).length,AV.nl],Blk.row Ty.int (List.map za0 del++[[iv x.id]]) false]:Heap)=_ by first|rfl|(simp;done)|(simp [X.cells,Qy.cells,V.cells,Col.cells,Rw.cells,Tb.cells,Fr.cells,Sch.cells,Tp.cells,Pl.cells,xCol,xLit,xBin,xNeg,Ac.cells,Se.cells,Pr.cells,Ch.cells,Rw.cells];done)) (gZ R hg)))⟩
  ·obtain ⟨delZ,qZ,xZ,gZ⟩:=ih (i+1) del (by omega) (by first|exact zt3 hI hx (by simpa using h1)|exact ztH hI hx (by simpa using h1)) (by omega);exact ⟨delZ,qZ,xZ,fun R hg=>zab (wkl (p_1++[sb h1,si hw]) [1,2,3,6,8,12,55,56,57] 5 kr (gZ R hg))⟩
theorem ztC (tr:Rw→Bool) (a:Ac) (s:Sch) (frs:List Fr) (tb:List Tb) (hk1:(a.kind==1)=false) (hk3:(a.kind==3)=true) (h2:zac tb) (h3:zac frs) (hv:zaa E0 S.dml_target [a.av,tsl tb] [] (.tup [s.av,iv 0]) []) (hix:zaa E0 S.slices_IndexFunc_Table [.sl (tb.map Tb.cells),.fn S.dml_Candidates_c1 [.p 0 0]] [.box a.cells] (iv (idxF (fun t=>zaA t a.table) tb 0)) [.box a.cells]) (hn:decide (idxF (fun t=>zaA t a.table) tb 0 < 0)=false) (hl:zac (tabC tb a.table).rows) (ht:∀ r∈(tabC tb a.table).rows,zmm tr a s frs tb r):∃ (del:List Int),del=delC tr (tabC tb a.table).rows∧zaa E0 S.dml_Candidates [a.av,fsl frs,tsl tb] [] (.tup [.agg [.sl [],isl del,.sl []],iv 0]) []:=by
 obtain ⟨del1,q1,q1_1,g1⟩:=zf6 tr a s frs tb (tabC tb a.table) zh9 zh9 zh9 ht 0 ([]) zh9 zh9
 exact ⟨del1,(by (have hq:=And.right ‹_∧_›;rw [List.take_length] at hq;exact hq)),wkcN At.dml_Candidates [sc hv,sb (rfl:false=false),sb hk1,sl [0] hix,se (zrV tb a.table zh9)] [1,2,3,6,8,12,55,56,57] 4 [(.ob 3 1 Ty.int,5)] kr (g1 _ (zab (wkr [sqx ((True∧del1.length=(List.map za0 del1).length∧True∧True)∧True∧True),sb q1_1] kr)))⟩
end Go.AM
namespace Go.AM
set_option maxRecDepth 100000
set_option maxHeartbeats 1000000
set_option linter.unusedSimpArgs false
set_option linter.unusedVariables false
theorem zgh {p:Prop} (h:p:=by first|assumption|rfl|omega|(simp [zac];done)|decide|simp [Room]):p:=h
theorem znk {m:List (List AV)} {n:Nat} {x:List AV} {a:Nat} (h:(((n:Nat):Int)==0)=true):m=bif n==0 then m else m.set a x:=by
 have:(n==0)=true:=by simpa using h
 rw [this];rfl
theorem ztK {m:List (List AV)} {n:Nat} {x:List AV} {a:Nat} (h:(((n:Nat):Int)==0)=false):m.set a x=bif n==0 then m else m.set a x:=by
 have:(n==0)=false:=by rw [beq_eq_false_iff_ne] at *;omega
 rw [this];rfl
theorem zu7 (m ex:List Tb) (frs:List Fr) (ac:Ac) (ts:List Tg) (trig:List (List AV)) (t t2:Tb) (a:Nat) (del:List Int) (hx:m[a]?=some t) (hal:a < m.length) (hfd:zaa E0 S.store_Find [tsl m,sv ac.table] [] (iv (a:Nat)) []) (hn:decide (((a:Nat):Int) < 0)=false) (hCo:zaa E0 S.slices_Concat_Table [.sl [[tsl m],[tsl ex]]] [] (tsl (m++ex)) []) (hC:zaa E0 S.dml_Candidates [ac.av,fsl frs,tsl (m++ex)] [] (.tup [.agg [.sl [],isl del,.sl []],iv 0]) []) (hms:zac m) (w1:IntKind.i64.wrap (((del.map fun n=>[iv n]).length:Int)+(([]:List (List AV)).length:Int))=((del.length:Nat):Int)) (w2:IntKind.i64.wrap (((del.length:Nat):Int)+(([]:List (List AV)).length:Int))=((del.length:Nat):Int)) (hd:∀ t∈m,zac t.sch.cols∧zac t.rows∧∀ r∈t.rows,zac r.vals) (hAs:zaa E0 S.dml_Assigned [ac.av] [] (.sl []) []) (hF:zaa E0 S.before_Applicable [.sl (ts.map Tg.cells),sv ac.table,iv ac.kind,.sl [],bv false] [] (.sl []) []) (hT:zaa E0 S.before_Applicable [.sl (ts.map Tg.cells),sv ac.table,iv ac.kind,.sl [],bv true] [] (.sl trig) []) (hr:zac t.rows) (hds:zac del) (hR:∀ r∈t.rows,BRow m trig t.sch r.vals [] []) (hA:zaa E0 S.keys_Apply [t.av,.agg [.sl [],isl del,.sl []]] [] (.tup [t2.av,iv 0]) []):∃ (r:List (List AV)) (n e:Int),(e=0∧n=((del.length:Nat):Int)∧r=bif del.length==0 then m.map Tb.cells else (m.map Tb.cells).set a t2.cells)∧zaa E0 S.statement_Run [tsl m,.sl (ts.map Tg.cells),.sl [],ac.av,fsl frs,tsl ex,.sl []] [] (.tup [.sl r,.sl [],.sl [],iv n,iv e]) []:=by
 cases h1:(del.length:Int)==0
 ·exact ⟨(List.map Tb.cells m).set a [sv t2.sch.name,AV.sl (List.map Col.cells t2.sch.cols),iv t2.next,AV.sl (List.map Rw.cells t2.rows)],(del.length:Int),0,(by first|exact ⟨rfl,rfl,ztK (by assumption)⟩|exact ⟨rfl,(by simpa using h1),znk (by assumption)⟩|exact ⟨rfl,(by have h2:=h1;simp at h2;simp [h2]),znk (by assumption)⟩),(by (try simp only [X.av,Qy.av,V.av,Tb.av,Sch.av,Pl.av,xsl,fsl,vsl,tsl,List.map_append,List.map_cons,List.map_nil,V.cells,Col.cells,Rw.cells,Tb.cells,Fr.cells,Sch.cells,Pl.cells,zaW,zaI,zaO,zaM,zaT,X.cells,Qy.cells,X.args_mk,X.sub_mk,Qy.items_mk,Qy.wh_mk,xCol,xLit,xBin,xNeg,Ac.cells,Se.cells,Pr.cells,Ch.cells,Rw.cells]);exact wk At.statement_Run [sqx (m.length=((List.map Tb.cells m).set a [sv t2.sch.name,AV.sl (List.map Col.cells t2.sch.cols),iv t2.next,AV.sl (List.map Rw.cells t2.rows)]).length∧True∧0=0∧True∧True∧True),sc hfd,sc hCo,sb (rfl:false=false),sc hC,sb (rfl:false=false),si w1,si w2,sc (zbl m zgh zgh),sb h1,sc hAs,sc hF,sc (zcp m),sb (rfl:false=false),sd [(11,[se (zaf Tb.cells hx rfl)]),(7,[sc hT]),(15,[sc (zaK ([]) zgh)])],se (zaf Tb.cells hx rfl),sl [4,3,1] (zgm m trig t.sch t del zgh zgh zgh),sb (rfl:false=false),sdm [(2,[se (zaf Tb.cells hx rfl)]),(5,[sc hA])] 0 [(0,AV.sl (List.map Tb.cells m)),(1,AV.sl (List.map Tg.cells ts)),(2,AV.sl []),(3,AV.agg [iv ac.kind,sv ac.table,AV.sl (List.map (fun r=>[AV.sl (zad r)]) ac.rows),AV.sl (zag ac.query),AV.sl (List.map Se.cells ac.sets),AV.sl (zad ac.wh),sv ac.text]),(4,AV.sl (List.map Fr.cells frs)),(5,AV.sl (List.map Tb.cells ex)),(6,AV.sl []),(10,AV.p 0 0),(14,AV.nl),(15,AV.nl),(16,AV.nl),(17,iv 0),(18,iv 0),(19,iv (a:Int)),(20,AV.sl (List.map Tb.cells (m++ex))),(21,AV.p 1 0),(22,iv 0),(23,iv (del.length:Int)),(24,AV.own 2 m.length),(25,AV.sl []),(26,iv 0),(27,AV.p 4 0),(28,iv 0),(29,AV.p 7 0),(30,AV.sl (List.map Tb.cells m)),(31,AV.p 0 1),(32,sv ac.table),(33,iv (a:Int)),(34,AV.sl (List.map Tb.cells m)),(35,AV.sl (List.map Tb.cells ex)),(36,AV.sl [[AV.sl (List.map Tb.cells m)],[AV.sl (List.map Tb.cells ex)]]),(37,AV.sl (List.map Tb.cells (m++ex))),(38,iv (a:Int)),(39,AV.bl false),(41,AV.tup [AV.agg [AV.sl [],AV.sl (List.map (fun n=>[iv n]) del),AV.sl []],iv 0]),(42,AV.agg [iv ac.kind,sv ac.table,AV.sl (List.map (fun r=>[AV.sl (zad r)]) ac.rows),AV.sl (zag ac.query),AV.sl (List.map Se.cells ac.sets),AV.sl (zad ac.wh),sv ac.text]),(43,AV.sl (List.map Fr.cells frs)),(44,AV.sl (List.map Tb.cells (m++ex))),(45,AV.tup [AV.agg [AV.sl [],AV.sl (List.map (fun n=>[iv n]) del),AV.sl []],iv 0]),(46,AV.agg [AV.sl [],AV.sl (List.map (fun n=>[iv n]) del),AV.sl []]),(47,iv 0),(48,iv 0),(49,AV.bl false),(51,AV.p 1 1),(52,AV.sl (List.map (fun n=>[iv n]) del)),(53,iv (↑(List.map (fun n=>[iv n]) del).length:Int)),(54,AV.p 1 2),(55,AV.sl []),(56,iv (([]:List (List AV)).length:Int)),(57,iv (del.length:Int)),(58,AV.p 1 0),(59,AV.sl []),(60,iv (([]:List (List AV)).length:Int)),(61,iv (del.length:Int)),(62,AV.sl (List.map Tb.cells m)),(63,AV.own 2 m.length),(64,iv (del.length:Int)),(65,AV.bl false),(69,AV.agg [iv ac.kind,sv ac.table,AV.sl (List.map (fun r=>[AV.sl (zad r)]) ac.rows),AV.sl (zag ac.query),AV.sl (List.map Se.cells ac.sets),AV.sl (zad ac.wh),sv ac.text]),(70,AV.sl []),(71,AV.sl (List.map Tg.cells ts)),(72,AV.p 0 1),(73,sv ac.table),(74,AV.p 0 0),(75,iv ac.kind),(76,AV.sl []),(77,AV.sl []),(78,AV.sl (List.map Tb.cells m)),(79,iv 0),(80,iv 0),(81,AV.bl false),(83,AV.sl (List.map Tb.cells m)),(84,AV.sl (List.map Tg.cells ts)),(85,AV.p 0 1),(86,sv ac.table),(87,AV.p 0 0),(88,iv ac.kind),(89,AV.sl []),(90,AV.sl trig),(91,AV.sl []),(92,AV.sl (List.map Tb.cells m)),(93,iv (a:Int)),(94,AV.dp [sv t.sch.name,AV.sl (List.map Col.cells t.sch.cols),iv t.next,AV.sl (List.map Rw.cells t.rows)]),(95,AV.dp [sv t.sch.name,AV.sl (List.map Col.cells t.sch.cols),iv t.next,AV.sl (List.map Rw.cells t.rows)]),(96,AV.agg [sv t.sch.name,AV.sl (List.map Col.cells t.sch.cols)]),(97,AV.sl []),(98,AV.own 3 0),(99,AV.agg [AV.sl (List.map Tb.cells m),AV.sl trig,AV.sl [],sv t.sch.name,AV.sl (List.map Col.cells t.sch.cols),AV.own 3 0,AV.nl]),(100,AV.p 4 0),(101,AV.p 4 0),(102,AV.sl (List.map Tb.cells m)),(103,iv (a:Int)),(104,AV.dp [sv t.sch.name,AV.sl (List.map Col.cells t.sch.cols),iv t.next,AV.sl (List.map Rw.cells t.rows)]),(105,AV.agg [sv t.sch.name,AV.sl (List.map Col.cells t.sch.cols),iv t.next,AV.sl (List.map Rw.cells t.rows)]),(106,iv 0),(107,iv 0),(108,AV.bl false),(110,AV.tup [AV.agg [sv t2.sch.name,AV.sl (List.map Col.cells t2.sch.cols),iv t2.next,AV.sl (List.map Rw.cells t2.rows)],iv 0]),(111,AV.sl (List.map Tb.cells m)),(112,iv (a:Int)),(113,AV.dp [sv t.sch.name,AV.sl (List.map Col.cells t.sch.cols),iv t.next,AV.sl (List.map Rw.cells t.rows)]),(114,AV.agg [sv t.sch.name,AV.sl (List.map Col.cells t.sch.cols),iv t.next,AV.sl (List.map Rw.cells t.rows)]),(115,AV.agg [AV.sl [],AV.sl (List.map (fun n=>[iv n]) del),AV.sl []]),(116,AV.tup [AV.agg [sv t2.sch.name,AV.sl (List.map Col.cells t2.sch.cols),iv t2.next,AV.sl (List.map Rw.cells t2.rows)],iv 0]),(117,AV.agg [sv t2.sch.name,AV.sl (List.map Col.cells t2.sch.cols),iv t2.next,AV.sl (List.map Rw.cells t2.rows)]),(118,iv 0)] [Blk.box [iv ac.kind,sv ac.table,AV.sl (List.map (fun r=>[AV.sl (zad r)]) ac.rows),AV.sl (zag ac.query),AV.sl (List.map Se.cells ac.sets),AV.sl (zad ac.wh),sv ac.text],Blk.box [AV.sl [],AV.sl (List.map (fun n=>[iv n]) del),AV.sl []],Blk.row Ty.Table (List.map Tb.cells m) false,Blk.row Ty.int [] true,Blk.box [AV.sl (List.map Tb.cells m),AV.sl trig,AV.sl [],sv t.sch.name,AV.sl (List.map Col.cells t.sch.cols),AV.sl [],AV.own 6 0],Blk.box [sv t.sch.name,AV.sl (List.map Col.cells t.sch.cols),iv t.next,AV.sl (List.map Rw.cells t.rows)],Blk.row Ty.int [] false,Blk.box [sv t2.sch.name,AV.sl (List.map Col.cells t2.sch.cols),iv t2.next,AV.sl (List.map Rw.cells t2.rows)]],sb (rfl:false=false),sqx (OwnAt (List.map Tb.cells m) m.length (a:Int)),sx (.el t.cells) (And.intro (owed (p:=True∧True∧True∧True∧True)) (zdx Tb.cells (n:=m.length) (by simp) hx)),sd []] kr)⟩
 ·exact ⟨List.map Tb.cells m,0,0,(by first|exact ⟨rfl,rfl,ztK (by assumption)⟩|exact ⟨rfl,(by simpa using h1),znk (by assumption)⟩|exact ⟨rfl,(by have h2:=h1;simp at h2;simp [h2]),znk (by assumption)⟩),wk At.statement_Run [sqx (m.length=(List.map Tb.cells m).length∧0=0∧True∧True∧True∧True),sc hfd,sc hCo,sb (rfl:false=false),sc hC,sb (rfl:false=false),si w1,si w2,sc (zbl m zgh zgh),sb h1,sc (zaK ([]) zgh)] kr⟩
theorem zjb (m ex:List Tb) (frs:List Fr) (ac:Ac) (ts:List Tg) (trig:List (List AV)) (t t2:Tb) (a:Nat) (del:List Int) (hx:m[a]?=some t) (hfd:zaa E0 S.store_Find [tsl m,sv ac.table] [] (iv (a:Nat)) []) (hCo:zaa E0 S.slices_Concat_Table [.sl [[tsl m],[tsl ex]]] [] (tsl (m++ex)) []) (hC:zaa E0 S.dml_Candidates [ac.av,fsl frs,tsl (m++ex)] [] (.tup [.agg [.sl [],isl del,.sl []],iv 0]) []) (hms:zac m) (hd:∀ t∈m,zac t.sch.cols∧zac t.rows∧∀ r∈t.rows,zac r.vals) (hAs:zaa E0 S.dml_Assigned [ac.av] [] (.sl []) []) (hF:zaa E0 S.before_Applicable [.sl (ts.map Tg.cells),sv ac.table,iv ac.kind,.sl [],bv false] [] (.sl []) []) (hT:zaa E0 S.before_Applicable [.sl (ts.map Tg.cells),sv ac.table,iv ac.kind,.sl [],bv true] [] (.sl trig) []) (hds:del.length≤100000) (hR:∀ r∈t.rows,BRow m trig t.sch r.vals [] []) (hA:zaa E0 S.keys_Apply [t.av,.agg [.sl [],isl del,.sl []]] [] (.tup [t2.av,iv 0]) []) :
  zaa E0 S.statement_Run [tsl m,.sl (ts.map Tg.cells),.sl [],ac.av,fsl frs,tsl ex,.sl []] [] (.tup [tsl (bif del.length==0 then m else m.set a t2),.sl [],.sl [],iv (del.length:Nat),iv 0]) []:=by
 have hal:=(List.getElem?_eq_some_iff.1 hx).1
 obtain ⟨r,n,e,⟨rfl,rfl,rfl⟩,h⟩:=zu7 m ex frs ac ts trig t t2 a del hx hal hfd (by simp) hCo hC hms (by rw [List.length_map,IntKind.wrap_i64];simp only [List.length_nil];omega) (by rw [IntKind.wrap_i64];simp only [List.length_nil];omega) hd hAs hF hT (hd t (List.mem_of_getElem? hx)).2.1 (by simp only [zac];omega) hR hA
 cases hb:del.length==0
 ·rw [hb,cond_false,← List.map_set] at h;exact h
 ·rw [hb] at h;exact h
end Go.AM
namespace Go.AM
set_option maxRecDepth 100000
set_option maxHeartbeats 1000000
set_option linter.unusedSimpArgs false
set_option linter.unusedVariables false
theorem zgV {p:Prop} (h:p:=by first|assumption|rfl|exact ⟨Nat.zero_le _,rfl⟩|omega):p:=h
noncomputable def L_cuL (tr:Rw→Bool) (ag:Rw→List V) (a:Ac) (s:Sch) (frs:List Fr) (tb:List Tb) (t:Tb) (i:Nat) (upd:List Pr):Cfg:=zal B.dml_Candidates 0 [(1,fsl frs),(2,tsl tb),(3,.p 0 0),(6,.p 1 0),(8,.p 2 0),(12,.p 3 0),(55,.sl (t.rows.map Rw.cells)),(56,iv ((t.rows.map Rw.cells).length:Nat)),(57,iv (i:Nat))] [.box a.cells,.box [.nl,.nl,.nl],.box s.cells,.box [.nl,.nl,.own 4 upd.length],.row Ty.Pair (upd.map Pr.cells) false]
theorem zf8 (tr:Rw→Bool) (ag:Rw→List V) (a:Ac) (s:Sch) (frs:List Fr) (tb:List Tb) (t:Tb) (h3:zac frs) (hk3:(a.kind==3)=false) (hl:zac t.rows) (hv:∀ r∈t.rows,zac r.vals) (ht:∀ r∈t.rows,zmm tr a s frs tb r) (hag:∀ r∈t.rows,AgOk ag a s frs tb r) (i:Nat) (upd:List Pr) (hi:i≤(t.rows).length) (hI:upd.length≤i∧upd=updC tr ag (t.rows.take i)):∃ (upd':List Pr),(upd'.length≤(t.rows).length∧upd'=updC tr ag (t.rows.take (t.rows).length))∧(decide ((((t.rows).length:Nat):Int) < (((t.rows.map Rw.cells).length:Nat):Int))=false)∧∀ R,Good E0 B.dml_Candidates [] (L_cuL tr ag a s frs tb t (t.rows).length upd') R→Good E0 B.dml_Candidates [] (L_cuL tr ag a s frs tb t i upd) R:=by
 obtain ⟨kk,hk⟩:∃ kk,i+kk=(t.rows).length:=⟨(t.rows).length - i,by omega⟩
 induction kk generalizing i upd with
 | zero =>
  have e0:i=(t.rows).length:=by omega
  subst e0
  exact ⟨upd,hI,by simp,fun R hg=>hg⟩
 | succ kk ih =>
  obtain ⟨x,hx⟩:=zav (l:=t.rows) (i:=i) (by omega)
  have h0:decide (((i:Nat):Int) < (((t.rows.map Rw.cells).length:Nat):Int))=true:=by simp;omega
  have hw:IntKind.i64.wrap (((i:Nat):Int)+1)=((i+1:Nat):Int):=zak i (by first|omega|(simp only [zac,Few] at *;omega))
  have hm:=List.mem_of_getElem? hx;have hfx:=ht x hm;have hga:=hag x hm;have hvx:=hv x hm;have ho:upd.length≤1000000000:=(by have:=hI.1;simp only [zac] at hl;omega)
  let p_1:List St:=[sb h0,se (zaf Rw.cells hx rfl),sc (zkB frs s x.vals (by first|assumption|omega|(simp;done)|(simp;omega))),sc hfx,sb (rfl:false=false)]
  cases h1:!tr x
  ·obtain ⟨updZ,qZ,xZ,gZ⟩:=ih (i+1) (upd++[Pr.mk x.id x.vals (ag x)]) (by omega) (by first|exact ztw hI hx (by simpa using h1)|exact zt4 hI hx (by simpa using h1)) (by omega);exact ⟨updZ,qZ,xZ,fun R hg=>zab (wkl (p_1++[sb h1,sb hk3,sc hga,sb (rfl:false=false),sd [(6,[sc (zap x.vals (by first|assumption|omega|(simp;done)|(simp;omega)))]),(9,[sqx (True∧x.vals.length=(List.map V.cells x.vals).length∧True∧True)]),(10,[sqx (AllLen [[iv x.id,AV.sl (List.map V.cells x.vals),AV.sl (List.map V.cells (ag x))]] 3∧upd.length=(List.map Pr.cells upd).length∧(((List.map Pr.cells upd).length+[[iv x.id,AV.sl (List.map V.cells x.vals),AV.sl (List.map V.cells (ag x))]].length) * 56).le 140737488355328)])],si hw]) [1,2,3,6,8,12,55,56,57] 5 kr (zan rfl (show ([Blk.box [iv a.kind,sv a.table,AV.sl (List.map (fun r=>[AV.sl (zad r)]) a.rows),AV.sl (zag a.query),AV.sl (List.map Se.cells a.sets),AV.sl (zad a.wh),sv a.text],Blk.box [AV.nl,AV.nl,AV.nl],Blk.box [sv s.name,AV.sl (List.map Col.cells s.cols)],Blk.box [AV.nl,AV.nl,AV.own 4 (List.map Pr.cells upd++[[iv x.id,AV.sl (List.map V.cells x.vals),AV.sl (List.map V.cells (ag x))]]).length],Blk.row Ty.Pair (List.map Pr.cells upd++[[iv x.id,AV.sl (List.map V.cells x.vals),AV.sl (List.map V.cells (ag x))]]) false]:Heap)=_ by first|rfl|(simp;done)|(simp [X.cells,Qy.cells,V.cells,Col.cells,Rw.cells,Tb.cells,Fr.cells,Sch.cells,Tp.cells,Pl.cells,xCol,xLit,xBin,xNeg,Ac.cells,Se.cells,Pr.cells,Ch.cells,Rw.cells];done)) (gZ R hg)))⟩
  ·obtain ⟨updZ,qZ,xZ,gZ⟩:=ih (i+1) upd (by omega) (by first|exact ztw hI hx (by simpa using h1)|exact zt4 hI hx (by simpa using h1)) (by omega);exact ⟨updZ,qZ,xZ,fun R hg=>zab (wkl (p_1++[sb h1,si hw]) [1,2,3,6,8,12,55,56,57] 5 kr (gZ R hg))⟩
theorem zuQ (tr:Rw→Bool) (ag:Rw→List V) (a:Ac) (s:Sch) (frs:List Fr) (tb:List Tb) (hk1:(a.kind==1)=false) (hk3:(a.kind==3)=false) (h2:zac tb) (h3:zac frs) (hv:zaa E0 S.dml_target [a.av,tsl tb] [] (.tup [s.av,iv 0]) []) (hix:zaa E0 S.slices_IndexFunc_Table [.sl (tb.map Tb.cells),.fn S.dml_Candidates_c1 [.p 0 0]] [.box a.cells] (iv (idxF (fun t=>zaA t a.table) tb 0)) [.box a.cells]) (hn:decide (idxF (fun t=>zaA t a.table) tb 0 < 0)=false) (hl:zac (tabC tb a.table).rows) (hvl:∀ r∈(tabC tb a.table).rows,zac r.vals) (ht:∀ r∈(tabC tb a.table).rows,zmm tr a s frs tb r) (hag:∀ r∈(tabC tb a.table).rows,AgOk ag a s frs tb r):∃ (upd:List Pr),upd=updC tr ag (tabC tb a.table).rows∧zaa E0 S.dml_Candidates [a.av,fsl frs,tsl tb] [] (.tup [.agg [.nl,.nl,.own 4 upd.length],iv 0]) [.box a.cells,.box [.nl,.nl,.own 4 upd.length],.box s.cells,.box [.nl,.nl,.own 4 upd.length],.row Ty.Pair (upd.map Pr.cells) false]:=by
 obtain ⟨upd1,q1,q1_1,g1⟩:=zf8 tr ag a s frs tb (tabC tb a.table) zgV zgV zgV zgV ht hag 0 ([]) zgV zgV
 exact ⟨upd1,(by (have hq:=And.right ‹_∧_›;rw [List.take_length] at hq;exact hq)),zsy At.dml_Candidates [sc hv,sb (rfl:false=false),sb hk1,sl [0] hix,se (zrV tb a.table zgV)] [1,2,3,6,8,12,55,56,57] 4 [(.ob 3 2 Ty.Pair,5)] kr (g1 _ (zab (wkrK [sb q1_1] kr)))⟩
end Go.AM
namespace Go.AM
set_option maxRecDepth 100000
set_option maxHeartbeats 1000000
set_option linter.unusedSimpArgs false
set_option linter.unusedVariables false
theorem zhw {p:Prop} (h:p:=by first|assumption|rfl|omega|(simp [zac];done)|decide|simp [Room]):p:=h
theorem zmL {m:List (List AV)} {n:Nat} {x:List AV} {a:Nat} (h:(((n:Nat):Int)==0)=true):m=bif n==0 then m else m.set a x:=by
 have:(n==0)=true:=by simpa using h
 rw [this];rfl
theorem ztQ {m:List (List AV)} {n:Nat} {x:List AV} {a:Nat} (h:(((n:Nat):Int)==0)=false):m.set a x=bif n==0 then m else m.set a x:=by
 have:(n==0)=false:=by rw [beq_eq_false_iff_ne] at *;omega
 rw [this];rfl
theorem zvt (m ex:List Tb) (frs:List Fr) (ac:Ac) (ts:List Tg) (trig:List (List AV)) (t t2:Tb) (a:Nat) (upd:List Pr) (asg:List Str) (g:List V→List V→List V) (hx:m[a]?=some t) (hal:a < m.length) (hfd:zaa E0 S.store_Find [tsl m,sv ac.table] [] (iv (a:Nat)) []) (hn:decide (((a:Nat):Int) < 0)=false) (hCo:zaa E0 S.slices_Concat_Table [.sl [[tsl m],[tsl ex]]] [] (tsl (m++ex)) []) (hC:zaa E0 S.dml_Candidates [ac.av,fsl frs,tsl (m++ex)] [] (.tup [.agg [.nl,.nl,.own 4 upd.length],iv 0]) [.box ac.cells,.box [.nl,.nl,.own 4 upd.length],.box t.sch.cells,.box [.nl,.nl,.own 4 upd.length],.row Ty.Pair (upd.map Pr.cells) false]) (hms:zac m) (w1:IntKind.i64.wrap (0+((upd.length:Nat):Int))=((upd.length:Nat):Int)) (w2:IntKind.i64.wrap (((upd.length:Nat):Int)+0)=((upd.length:Nat):Int)) (hd:∀ t∈m,zac t.sch.cols∧zac t.rows∧∀ r∈t.rows,zac r.vals) (hAs:zaa E0 S.dml_Assigned [ac.av] [] (ssl asg) []) (hF:zaa E0 S.before_Applicable [.sl (ts.map Tg.cells),sv ac.table,iv ac.kind,ssl asg,bv false] [] (.sl []) []) (hT:zaa E0 S.before_Applicable [.sl (ts.map Tg.cells),sv ac.table,iv ac.kind,ssl asg,bv true] [] (.sl trig) []) (hr:zac t.rows) (hds:zac upd) (hR:∀ p∈upd,BRow m trig t.sch p.old p.nw (g p.old p.nw)) (hA:zaa E0 S.keys_Apply [t.av,.agg [.sl [],.sl [],.sl ((upd.map (setU g)).map Pr.cells)]] [] (.tup [t2.av,iv 0]) []):∃ (r:List (List AV)) (n e:Int),(e=0∧n=((upd.length:Nat):Int)∧r=bif upd.length==0 then m.map Tb.cells else (m.map Tb.cells).set a t2.cells)∧zaa E0 S.statement_Run [tsl m,.sl (ts.map Tg.cells),.sl [],ac.av,fsl frs,tsl ex,.sl []] [] (.tup [.sl r,.sl [],.sl [],iv n,iv e]) []:=by
 cases h1:(upd.length:Int)==0
 ·exact ⟨(List.map Tb.cells m).set a [sv t2.sch.name,AV.sl (List.map Col.cells t2.sch.cols),iv t2.next,AV.sl (List.map Rw.cells t2.rows)],(upd.length:Int),0,(by first|exact ⟨rfl,rfl,ztQ (by assumption)⟩|exact ⟨rfl,(by simpa using h1),zmL (by assumption)⟩|exact ⟨rfl,(by have h2:=h1;simp at h2;simp [h2]),zmL (by assumption)⟩),(by (try simp only [X.av,Qy.av,V.av,Tb.av,Sch.av,Pl.av,xsl,fsl,vsl,tsl,List.map_append,List.map_cons,List.map_nil,V.cells,Col.cells,Rw.cells,Tb.cells,Fr.cells,Sch.cells,Pl.cells,zaW,zaI,zaO,zaM,zaT,X.cells,Qy.cells,X.args_mk,X.sub_mk,Qy.items_mk,Qy.wh_mk,xCol,xLit,xBin,xNeg,Ac.cells,Se.cells,Pr.cells,Ch.cells,Rw.cells]);exact wk At.statement_Run [sqx (m.length=((List.map Tb.cells m).set a [sv t2.sch.name,AV.sl (List.map Col.cells t2.sch.cols),iv t2.next,AV.sl (List.map Rw.cells t2.rows)]).length∧True∧0=0∧True∧True∧True),sc hfd,sc hCo,sb (rfl:false=false),sc hC,sb (rfl:false=false),sqx (upd.length=(List.map Pr.cells upd).length),si w1,si w2,sc (zbl m zhw zhw),sb h1,sc hAs,sc hF,sc (zcp m),sb (rfl:false=false),sd [(11,[se (zaf Tb.cells hx rfl)]),(7,[sc hT]),(15,[sc (zaK ([]) zhw)])],se (zaf Tb.cells hx rfl),sl [9,8,6,5] (zgv m trig t.sch t upd g zhw zhw hR),sb (rfl:false=false),sdm [(2,[se (zaf Tb.cells hx rfl)]),(5,[skx ((True∧True∧True∧True∧True)∧(True∧True∧upd.length=(List.map Pr.cells (List.map (setU g) upd)).length∧True)∧True) [] hA])] 0 [(0,AV.sl (List.map Tb.cells m)),(1,AV.sl (List.map Tg.cells ts)),(2,AV.sl []),(3,AV.agg [iv ac.kind,sv ac.table,AV.sl (List.map (fun r=>[AV.sl (zad r)]) ac.rows),AV.sl (zag ac.query),AV.sl (List.map Se.cells ac.sets),AV.sl (zad ac.wh),sv ac.text]),(4,AV.sl (List.map Fr.cells frs)),(5,AV.sl (List.map Tb.cells ex)),(6,AV.sl []),(10,AV.p 0 0),(14,AV.nl),(15,AV.nl),(16,AV.nl),(17,iv 0),(18,iv 0),(19,iv (a:Int)),(20,AV.sl (List.map Tb.cells (m++ex))),(21,AV.p 6 0),(22,iv 0),(23,iv (upd.length:Int)),(24,AV.own 7 m.length),(25,AV.sl (List.map (fun s=>[sv s]) asg)),(26,iv 0),(27,AV.p 9 0),(28,iv 0),(29,AV.p 12 0),(30,AV.sl (List.map Tb.cells m)),(31,AV.p 0 1),(32,sv ac.table),(33,iv (a:Int)),(34,AV.sl (List.map Tb.cells m)),(35,AV.sl (List.map Tb.cells ex)),(36,AV.sl [[AV.sl (List.map Tb.cells m)],[AV.sl (List.map Tb.cells ex)]]),(37,AV.sl (List.map Tb.cells (m++ex))),(38,iv (a:Int)),(39,AV.bl false),(41,AV.tup [AV.agg [AV.nl,AV.nl,AV.own 5 upd.length],iv 0]),(42,AV.agg [iv ac.kind,sv ac.table,AV.sl (List.map (fun r=>[AV.sl (zad r)]) ac.rows),AV.sl (zag ac.query),AV.sl (List.map Se.cells ac.sets),AV.sl (zad ac.wh),sv ac.text]),(43,AV.sl (List.map Fr.cells frs)),(44,AV.sl (List.map Tb.cells (m++ex))),(45,AV.tup [AV.agg [AV.nl,AV.nl,AV.own 5 upd.length],iv 0]),(46,AV.agg [AV.nl,AV.nl,AV.own 5 upd.length]),(47,iv 0),(48,iv 0),(49,AV.bl false),(51,AV.p 6 1),(52,AV.nl),(53,iv 0),(54,AV.p 6 2),(55,AV.own 5 upd.length),(56,iv (upd.length:Int)),(57,iv (upd.length:Int)),(58,AV.p 6 0),(59,AV.nl),(60,iv 0),(61,iv (upd.length:Int)),(62,AV.sl (List.map Tb.cells m)),(63,AV.own 7 m.length),(64,iv (upd.length:Int)),(65,AV.bl false),(69,AV.agg [iv ac.kind,sv ac.table,AV.sl (List.map (fun r=>[AV.sl (zad r)]) ac.rows),AV.sl (zag ac.query),AV.sl (List.map Se.cells ac.sets),AV.sl (zad ac.wh),sv ac.text]),(70,AV.sl (List.map (fun s=>[sv s]) asg)),(71,AV.sl (List.map Tg.cells ts)),(72,AV.p 0 1),(73,sv ac.table),(74,AV.p 0 0),(75,iv ac.kind),(76,AV.sl (List.map (fun s=>[sv s]) asg)),(77,AV.sl []),(78,AV.sl (List.map Tb.cells m)),(79,iv 0),(80,iv 0),(81,AV.bl false),(83,AV.sl (List.map Tb.cells m)),(84,AV.sl (List.map Tg.cells ts)),(85,AV.p 0 1),(86,sv ac.table),(87,AV.p 0 0),(88,iv ac.kind),(89,AV.sl (List.map (fun s=>[sv s]) asg)),(90,AV.sl trig),(91,AV.sl []),(92,AV.sl (List.map Tb.cells m)),(93,iv (a:Int)),(94,AV.dp [sv t.sch.name,AV.sl (List.map Col.cells t.sch.cols),iv t.next,AV.sl (List.map Rw.cells t.rows)]),(95,AV.dp [sv t.sch.name,AV.sl (List.map Col.cells t.sch.cols),iv t.next,AV.sl (List.map Rw.cells t.rows)]),(96,AV.agg [sv t.sch.name,AV.sl (List.map Col.cells t.sch.cols)]),(97,AV.sl []),(98,AV.own 8 0),(99,AV.agg [AV.sl (List.map Tb.cells m),AV.sl trig,AV.sl [],sv t.sch.name,AV.sl (List.map Col.cells t.sch.cols),AV.own 8 0,AV.nl]),(100,AV.p 9 0),(101,AV.p 9 0),(102,AV.sl (List.map Tb.cells m)),(103,iv (a:Int)),(104,AV.dp [sv t.sch.name,AV.sl (List.map Col.cells t.sch.cols),iv t.next,AV.sl (List.map Rw.cells t.rows)]),(105,AV.agg [sv t.sch.name,AV.sl (List.map Col.cells t.sch.cols),iv t.next,AV.sl (List.map Rw.cells t.rows)]),(106,iv 0),(107,iv 0),(108,AV.bl false),(110,AV.tup [AV.agg [sv t2.sch.name,AV.sl (List.map Col.cells t2.sch.cols),iv t2.next,AV.sl (List.map Rw.cells t2.rows)],iv 0]),(111,AV.sl (List.map Tb.cells m)),(112,iv (a:Int)),(113,AV.dp [sv t.sch.name,AV.sl (List.map Col.cells t.sch.cols),iv t.next,AV.sl (List.map Rw.cells t.rows)]),(114,AV.agg [sv t.sch.name,AV.sl (List.map Col.cells t.sch.cols),iv t.next,AV.sl (List.map Rw.cells t.rows)]),(115,AV.agg [AV.nl,AV.nl,AV.own 5 upd.length]),(116,AV.tup [AV.agg [sv t2.sch.name,AV.sl (List.map Col.cells t2.sch.cols),iv t2.next,AV.sl (List.map Rw.cells t2.rows)],iv 0]),(117,AV.agg [sv t2.sch.name,AV.sl (List.map Col.cells t2.sch.cols),iv t2.next,AV.sl (List.map Rw.cells t2.rows)]),(118,iv 0)] [Blk.box [iv ac.kind,sv ac.table,AV.sl (List.map (fun r=>[AV.sl (zad r)]) ac.rows),AV.sl (zag ac.query),AV.sl (List.map Se.cells ac.sets),AV.sl (zad ac.wh),sv ac.text],Blk.box [iv ac.kind,sv ac.table,AV.sl (List.map (fun r=>[AV.sl (zad r)]) ac.rows),AV.sl (zag ac.query),AV.sl (List.map Se.cells ac.sets),AV.sl (zad ac.wh),sv ac.text],Blk.box [AV.nl,AV.nl,AV.own 5 upd.length],Blk.box [sv t.sch.name,AV.sl (List.map Col.cells t.sch.cols)],Blk.box [AV.nl,AV.nl,AV.own 5 upd.length],Blk.row Ty.Pair (List.map Pr.cells (List.map (setU g) upd)) true,Blk.box [AV.nl,AV.nl,AV.own 5 upd.length],Blk.row Ty.Table (List.map Tb.cells m) false,Blk.row Ty.int [] true,Blk.box [AV.sl (List.map Tb.cells m),AV.sl trig,AV.sl [],sv t.sch.name,AV.sl (List.map Col.cells t.sch.cols),AV.sl [],AV.own 11 0],Blk.box [sv t.sch.name,AV.sl (List.map Col.cells t.sch.cols),iv t.next,AV.sl (List.map Rw.cells t.rows)],Blk.row Ty.int [] false,Blk.box [sv t2.sch.name,AV.sl (List.map Col.cells t2.sch.cols),iv t2.next,AV.sl (List.map Rw.cells t2.rows)]],sb (rfl:false=false),sqx (OwnAt (List.map Tb.cells m) m.length (a:Int)),sx (.el t.cells) (And.intro (owed (p:=True∧True∧True∧True∧True)) (zdx Tb.cells (n:=m.length) (by simp) hx)),sd []] kr)⟩
 ·exact ⟨List.map Tb.cells m,0,0,(by first|exact ⟨rfl,rfl,ztQ (by assumption)⟩|exact ⟨rfl,(by simpa using h1),zmL (by assumption)⟩|exact ⟨rfl,(by have h2:=h1;simp at h2;simp [h2]),zmL (by assumption)⟩),wk At.statement_Run [sqx (m.length=(List.map Tb.cells m).length∧0=0∧True∧True∧True∧True),sc hfd,sc hCo,sb (rfl:false=false),sc hC,sb (rfl:false=false),sqx (upd.length=(List.map Pr.cells upd).length),si w1,si w2,sc (zbl m zhw zhw),sb h1,sc (zaK ([]) zhw)] kr⟩
theorem ziU (m ex:List Tb) (frs:List Fr) (ac:Ac) (ts:List Tg) (trig:List (List AV)) (t t2:Tb) (a:Nat) (upd:List Pr) (asg:List Str) (g:List V→List V→List V) (hx:m[a]?=some t) (hfd:zaa E0 S.store_Find [tsl m,sv ac.table] [] (iv (a:Nat)) []) (hCo:zaa E0 S.slices_Concat_Table [.sl [[tsl m],[tsl ex]]] [] (tsl (m++ex)) []) (hC:zaa E0 S.dml_Candidates [ac.av,fsl frs,tsl (m++ex)] [] (.tup [.agg [.nl,.nl,.own 4 upd.length],iv 0]) [.box ac.cells,.box [.nl,.nl,.own 4 upd.length],.box t.sch.cells,.box [.nl,.nl,.own 4 upd.length],.row Ty.Pair (upd.map Pr.cells) false]) (hms:zac m) (hd:∀ t∈m,zac t.sch.cols∧zac t.rows∧∀ r∈t.rows,zac r.vals) (hAs:zaa E0 S.dml_Assigned [ac.av] [] (ssl asg) []) (hF:zaa E0 S.before_Applicable [.sl (ts.map Tg.cells),sv ac.table,iv ac.kind,ssl asg,bv false] [] (.sl []) []) (hT:zaa E0 S.before_Applicable [.sl (ts.map Tg.cells),sv ac.table,iv ac.kind,ssl asg,bv true] [] (.sl trig) []) (hds:upd.length≤100000) (hR:∀ p∈upd,BRow m trig t.sch p.old p.nw (g p.old p.nw)) (hA:zaa E0 S.keys_Apply [t.av,.agg [.sl [],.sl [],.sl ((upd.map (setU g)).map Pr.cells)]] [] (.tup [t2.av,iv 0]) []) :
  zaa E0 S.statement_Run [tsl m,.sl (ts.map Tg.cells),.sl [],ac.av,fsl frs,tsl ex,.sl []] [] (.tup [tsl (bif upd.length==0 then m else m.set a t2),.sl [],.sl [],iv (upd.length:Nat),iv 0]) []:=by
 have hal:=(List.getElem?_eq_some_iff.1 hx).1
 obtain ⟨r,n,e,⟨rfl,rfl,rfl⟩,h⟩:=zvt m ex frs ac ts trig t t2 a upd asg g hx hal hfd (by simp) hCo hC hms (by rw [IntKind.wrap_i64];omega) (by rw [IntKind.wrap_i64];omega) hd hAs hF hT (hd t (List.mem_of_getElem? hx)).2.1 (by simp only [zac];omega) hR hA
 cases hb:upd.length==0
 ·rw [hb,cond_false,← List.map_set] at h;exact h
 ·rw [hb] at h;exact h
end Go.AM
namespace Go.AM
set_option maxRecDepth 100000
set_option maxHeartbeats 400000
set_option linter.unusedSimpArgs false
set_option linter.unusedVariables false
theorem zlc {p:Prop} (h:p:=by first|assumption|rfl|omega|(simp [zac];done)|decide):p:=h
theorem zu0 (m ex:List Tb) (frs:List Fr) (nm:Str) (rows:List (List X)) (ts:List Tg) (trig:List (List AV)) (t t2:Tb) (a:Nat) (ins:List (List V)) (g:List V→List V) (hl:m.length≤1000) (hx:m[a]?=some t) (hal:a < m.length) (hCo:zaa E0 S.slices_Concat_Table [.sl [[tsl m],[tsl ex]]] [] (tsl (m++ex)) []) (hfd:zaa E0 S.store_Find [tsl m,sv nm] [] (iv (a:Nat)) []) (hn:decide (((a:Nat):Int) < 0)=false) (hC:zaa E0 S.dml_Candidates [(zai nm rows).av,fsl frs,tsl (m++ex)] [] (.tup [.agg [.own 5 ins.length,.nl,.nl],iv 0]) [.box (zai nm rows).cells,.box [.own 5 ins.length,.nl,.nl],.box t.sch.cells,.box (zai nm rows).cells,.box t.sch.cells,.row Ty.LValue (ins.map vrow) false]) (hd:∀ t∈m,zac t.sch.cols∧zac t.rows∧∀ r∈t.rows,zac r.vals) (hF:zaa E0 S.before_Applicable [.sl (ts.map Tg.cells),sv nm,iv 1,.sl [],bv false] [] (.sl []) []) (hT:zaa E0 S.before_Applicable [.sl (ts.map Tg.cells),sv nm,iv 1,.sl [],bv true] [] (.sl trig) []) (hz:(((0+0+ins.length:Nat):Int)==0)=false) (hr:zac t.rows) (hli:zac ins) (hne:ins≠[]) (hR:∀ l∈ins,zaa E0 S.before_Row [.sl trig,.sl [],t.sch.av,.sl [],vsl l,tsl m,.sl []] [] (.tup [vsl (g l),.sl [],.sl [],iv 0]) []) (hA:zaa E0 S.keys_Apply [t.av,insC (ins.map g)] [] (.tup [t2.av,iv 0]) []):∃ (r:List (List AV)) (n e:Int),(e=0∧r=(m.map Tb.cells).set a t2.cells∧n=((ins.length:Nat):Int))∧zaa E0 S.statement_Run [tsl m,.sl (ts.map Tg.cells),.sl [],(zai nm rows).av,fsl frs,tsl ex,.sl []] [] (.tup [.sl r,.sl [],.sl [],iv n,iv e]) []:=by
 exact ⟨(List.map Tb.cells m).set a [sv t2.sch.name,AV.sl (List.map Col.cells t2.sch.cols),iv t2.next,AV.sl (List.map Rw.cells t2.rows)],(↑(0+0+ins.length):Int),0,(by (exact ⟨rfl,rfl,by simp⟩)),(by (try simp only [X.av,Qy.av,V.av,Tb.av,Sch.av,Pl.av,xsl,fsl,vsl,tsl,List.map_append,List.map_cons,List.map_nil,V.cells,Col.cells,Rw.cells,Tb.cells,Fr.cells,Sch.cells,Pl.cells,zaW,zaI,zaO,zaM,zaT,X.cells,Qy.cells,X.args_mk,X.sub_mk,Qy.items_mk,Qy.wh_mk,xCol,xLit,xBin,xNeg,Ac.cells,Se.cells,Pr.cells,Ch.cells,Rw.cells]);exact wk At.statement_Run [sqx (m.length=((List.map Tb.cells m).set a [sv t2.sch.name,AV.sl (List.map Col.cells t2.sch.cols),iv t2.next,AV.sl (List.map Rw.cells t2.rows)]).length∧True∧0=0∧True∧True∧True),sc hfd,sc hCo,sb (rfl:false=false),sc hC,sb (rfl:false=false),si (zcG (t:=0+0) (n:=0+0) (by omega) (by omega)),sqx (ins.length=(List.map vrow ins).length),si (zcG (t:=(↑(0+0):Int)+(ins.length:Int)) (n:=0+0+ins.length) (by omega) (by omega)),sc (zbl m zlc zlc),sb hz,sc (zfi ((zai nm rows).table) ((zai nm rows).rows)),sc hF,sc (zcp m),sb (rfl:false=false),sd [(11,[se (zaf Tb.cells hx rfl)]),(7,[sc hT]),(15,[sc (zaK ([]) zlc)])],se (zaf Tb.cells hx rfl),sl [10,9,7,6] (zds m trig t.sch t ins g zlc zlc zlc hR),sb (rfl:false=false),sdm [(2,[se (zaf Tb.cells hx rfl)]),(5,[skx ((True∧True∧True∧True∧True)∧(ins.length=(List.map vrow (List.map g ins)).length∧True∧True∧True)∧True) [] hA])] 0 [(0,AV.sl (List.map Tb.cells m)),(1,AV.sl (List.map Tg.cells ts)),(2,AV.sl []),(3,AV.agg [iv (zai nm rows).kind,sv (zai nm rows).table,AV.sl (List.map (fun r=>[AV.sl (zad r)]) (zai nm rows).rows),AV.sl (zag []),AV.sl [],AV.sl (zad []),sv (zai nm rows).text]),(4,AV.sl (List.map Fr.cells frs)),(5,AV.sl (List.map Tb.cells ex)),(6,AV.sl []),(10,AV.p 0 0),(14,AV.nl),(15,AV.nl),(16,AV.nl),(17,iv 0),(18,iv 0),(19,iv (a:Int)),(20,AV.sl (List.map Tb.cells (m++ex))),(21,AV.p 7 0),(22,iv 0),(23,iv (↑(0+0+ins.length):Int)),(24,AV.own 8 m.length),(25,AV.sl []),(26,iv 0),(27,AV.p 10 0),(28,iv 0),(29,AV.p 13 0),(30,AV.sl (List.map Tb.cells m)),(31,AV.p 0 1),(32,sv (zai nm rows).table),(33,iv (a:Int)),(34,AV.sl (List.map Tb.cells m)),(35,AV.sl (List.map Tb.cells ex)),(36,AV.sl [[AV.sl (List.map Tb.cells m)],[AV.sl (List.map Tb.cells ex)]]),(37,AV.sl (List.map Tb.cells (m++ex))),(38,iv (a:Int)),(39,AV.bl false),(41,AV.tup [AV.agg [AV.own 6 ins.length,AV.nl,AV.nl],iv 0]),(42,AV.agg [iv (zai nm rows).kind,sv (zai nm rows).table,AV.sl (List.map (fun r=>[AV.sl (zad r)]) (zai nm rows).rows),AV.sl (zag []),AV.sl [],AV.sl (zad []),sv (zai nm rows).text]),(43,AV.sl (List.map Fr.cells frs)),(44,AV.sl (List.map Tb.cells (m++ex))),(45,AV.tup [AV.agg [AV.own 6 ins.length,AV.nl,AV.nl],iv 0]),(46,AV.agg [AV.own 6 ins.length,AV.nl,AV.nl]),(47,iv 0),(48,iv 0),(49,AV.bl false),(51,AV.p 7 1),(52,AV.nl),(53,iv 0),(54,AV.p 7 2),(55,AV.nl),(56,iv 0),(57,iv (↑(0+0):Int)),(58,AV.p 7 0),(59,AV.own 6 ins.length),(60,iv (ins.length:Int)),(61,iv (↑(0+0+ins.length):Int)),(62,AV.sl (List.map Tb.cells m)),(63,AV.own 8 m.length),(64,iv (↑(0+0+ins.length):Int)),(65,AV.bl false),(69,AV.agg [iv (zai nm rows).kind,sv (zai nm rows).table,AV.sl (List.map (fun r=>[AV.sl (zad r)]) (zai nm rows).rows),AV.sl (zag []),AV.sl [],AV.sl (zad []),sv (zai nm rows).text]),(70,AV.sl []),(71,AV.sl (List.map Tg.cells ts)),(72,AV.p 0 1),(73,sv (zai nm rows).table),(74,AV.p 0 0),(75,iv (zai nm rows).kind),(76,AV.sl []),(77,AV.sl []),(78,AV.sl (List.map Tb.cells m)),(79,iv 0),(80,iv 0),(81,AV.bl false),(83,AV.sl (List.map Tb.cells m)),(84,AV.sl (List.map Tg.cells ts)),(85,AV.p 0 1),(86,sv (zai nm rows).table),(87,AV.p 0 0),(88,iv (zai nm rows).kind),(89,AV.sl []),(90,AV.sl trig),(91,AV.sl []),(92,AV.sl (List.map Tb.cells m)),(93,iv (a:Int)),(94,AV.dp [sv t.sch.name,AV.sl (List.map Col.cells t.sch.cols),iv t.next,AV.sl (List.map Rw.cells t.rows)]),(95,AV.dp [sv t.sch.name,AV.sl (List.map Col.cells t.sch.cols),iv t.next,AV.sl (List.map Rw.cells t.rows)]),(96,AV.agg [sv t.sch.name,AV.sl (List.map Col.cells t.sch.cols)]),(97,AV.sl []),(98,AV.own 9 0),(99,AV.agg [AV.sl (List.map Tb.cells m),AV.sl trig,AV.sl [],sv t.sch.name,AV.sl (List.map Col.cells t.sch.cols),AV.own 9 0,AV.nl]),(100,AV.p 10 0),(101,AV.p 10 0),(102,AV.sl (List.map Tb.cells m)),(103,iv (a:Int)),(104,AV.dp [sv t.sch.name,AV.sl (List.map Col.cells t.sch.cols),iv t.next,AV.sl (List.map Rw.cells t.rows)]),(105,AV.agg [sv t.sch.name,AV.sl (List.map Col.cells t.sch.cols),iv t.next,AV.sl (List.map Rw.cells t.rows)]),(106,iv 0),(107,iv 0),(108,AV.bl false),(110,AV.tup [AV.agg [sv t2.sch.name,AV.sl (List.map Col.cells t2.sch.cols),iv t2.next,AV.sl (List.map Rw.cells t2.rows)],iv 0]),(111,AV.sl (List.map Tb.cells m)),(112,iv (a:Int)),(113,AV.dp [sv t.sch.name,AV.sl (List.map Col.cells t.sch.cols),iv t.next,AV.sl (List.map Rw.cells t.rows)]),(114,AV.agg [sv t.sch.name,AV.sl (List.map Col.cells t.sch.cols),iv t.next,AV.sl (List.map Rw.cells t.rows)]),(115,AV.agg [AV.own 6 ins.length,AV.nl,AV.nl]),(116,AV.tup [AV.agg [sv t2.sch.name,AV.sl (List.map Col.cells t2.sch.cols),iv t2.next,AV.sl (List.map Rw.cells t2.rows)],iv 0]),(117,AV.agg [sv t2.sch.name,AV.sl (List.map Col.cells t2.sch.cols),iv t2.next,AV.sl (List.map Rw.cells t2.rows)]),(118,iv 0)] [Blk.box [iv (zai nm rows).kind,sv (zai nm rows).table,AV.sl (List.map (fun r=>[AV.sl (zad r)]) (zai nm rows).rows),AV.sl (zag []),AV.sl [],AV.sl (zad []),sv (zai nm rows).text],Blk.box [iv (zai nm rows).kind,sv (zai nm rows).table,AV.sl (List.map (fun r=>[AV.sl (zad r)]) (zai nm rows).rows),AV.sl (zag []),AV.sl [],AV.sl (zad []),sv (zai nm rows).text],Blk.box [AV.own 6 ins.length,AV.nl,AV.nl],Blk.box [sv t.sch.name,AV.sl (List.map Col.cells t.sch.cols)],Blk.box [iv (zai nm rows).kind,sv (zai nm rows).table,AV.sl (List.map (fun r=>[AV.sl (zad r)]) (zai nm rows).rows),AV.sl (zag []),AV.sl [],AV.sl (zad []),sv (zai nm rows).text],Blk.box [sv t.sch.name,AV.sl (List.map Col.cells t.sch.cols)],Blk.row Ty.LValue (List.map vrow (List.map g ins)) true,Blk.box [AV.own 6 ins.length,AV.nl,AV.nl],Blk.row Ty.Table (List.map Tb.cells m) false,Blk.row Ty.int [] true,Blk.box [AV.sl (List.map Tb.cells m),AV.sl trig,AV.sl [],sv t.sch.name,AV.sl (List.map Col.cells t.sch.cols),AV.sl [],AV.own 12 0],Blk.box [sv t.sch.name,AV.sl (List.map Col.cells t.sch.cols),iv t.next,AV.sl (List.map Rw.cells t.rows)],Blk.row Ty.int [] false,Blk.box [sv t2.sch.name,AV.sl (List.map Col.cells t2.sch.cols),iv t2.next,AV.sl (List.map Rw.cells t2.rows)]],sb (rfl:false=false),sqx (OwnAt (List.map Tb.cells m) m.length (a:Int)),sx (.el t.cells) (And.intro (owed (p:=True∧True∧True∧True∧True)) (zdx Tb.cells (n:=m.length) (by simp) hx)),sd []] kr)⟩
theorem zij (m ex:List Tb) (frs:List Fr) (nm:Str) (rows:List (List X)) (ts:List Tg) (trig:List (List AV)) (t t2:Tb) (a:Nat) (ins:List (List V)) (g:List V→List V) (hl:m.length≤1000) (hx:m[a]?=some t) (hal:a < m.length) (hCo:zaa E0 S.slices_Concat_Table [.sl [[tsl m],[tsl ex]]] [] (tsl (m++ex)) []) (hfd:zaa E0 S.store_Find [tsl m,sv nm] [] (iv (a:Nat)) []) (hn:decide (((a:Nat):Int) < 0)=false) (hC:zaa E0 S.dml_Candidates [(zai nm rows).av,fsl frs,tsl (m++ex)] [] (.tup [.agg [.own 5 ins.length,.nl,.nl],iv 0]) [.box (zai nm rows).cells,.box [.own 5 ins.length,.nl,.nl],.box t.sch.cells,.box (zai nm rows).cells,.box t.sch.cells,.row Ty.LValue (ins.map vrow) false]) (hd:∀ t∈m,zac t.sch.cols∧zac t.rows∧∀ r∈t.rows,zac r.vals) (hF:zaa E0 S.before_Applicable [.sl (ts.map Tg.cells),sv nm,iv 1,.sl [],bv false] [] (.sl []) []) (hT:zaa E0 S.before_Applicable [.sl (ts.map Tg.cells),sv nm,iv 1,.sl [],bv true] [] (.sl trig) []) (hz:(((0+0+ins.length:Nat):Int)==0)=false) (hr:zac t.rows) (hli:zac ins) (hne:ins≠[]) (hR:∀ l∈ins,zaa E0 S.before_Row [.sl trig,.sl [],t.sch.av,.sl [],vsl l,tsl m,.sl []] [] (.tup [vsl (g l),.sl [],.sl [],iv 0]) []) (hA:zaa E0 S.keys_Apply [t.av,insC (ins.map g)] [] (.tup [t2.av,iv 0]) []):zaa E0 S.statement_Run [tsl m,.sl (ts.map Tg.cells),.sl [],(zai nm rows).av,fsl frs,tsl ex,.sl []] [] (.tup [tsl (m.set a t2),.sl [],.sl [],iv (ins.length:Nat),iv 0]) []:=by
 obtain ⟨r,n,e,⟨rfl,rfl,rfl⟩,h⟩:=zu0 m ex frs nm rows ts trig t t2 a ins g hl hx hal hCo hfd hn hC hd hF hT hz hr hli hne hR hA
 rw [← List.map_set] at h
 exact h
end Go.AM
