/-
  Contracts of the program's functions, part 5.
-/
import Derived.Test.YtjbihenhlanepaaGreatDoorFwE
import Derived.Carry
import Derived.ChangeSame
import Derived.Lib.LaidU8
import Derived.FnData
set_option linter.unusedSimpArgs false
set_option linter.unusedVariables false
namespace Go.AM
set_option maxRecDepth 100000
set_option maxHeartbeats 400000
set_option linter.unusedSimpArgs false
set_option linter.unusedVariables false
theorem zli {p:Prop} (h:p:=by first|assumption|omega|(simp;done)|(simp;omega)):p:=h
abbrev cc2 (tb:List Tb):List (List AV):=[[tsl tb],[.sl []]]
theorem zr0 (a b:List AV) (h:b.length=1):ElAt [a,b] ((0+1:Nat):Int) b 1:=⟨by decide,rfl,h⟩
noncomputable def L_cz (tb:List Tb) (i:Nat) (sz:Int):Cfg:=zan B.slices_Concat_Table 0 [(0,.sl (cc2 tb)),(3,iv sz),(9,.sl (cc2 tb)),(10,iv ((cc2 tb).length:Nat)),(11,iv (i:Nat))] []
theorem zbS (tb:List Tb) (i:Nat) (sz:Int):True∧∀ R,Good E0 B.slices_Concat_Table [] (L_cz tb i sz) R→Good E0 B.slices_Concat_Table [] (L_cz tb i sz) R:=⟨trivial,fun _ h=>h⟩
noncomputable def L_cb (tb:List Tb) (i:Nat) (xs:List Tb):Cfg:=zan B.slices_Concat_Table 1 [(6,.own 0 xs.length),(25,.sl (cc2 tb)),(26,iv ((cc2 tb).length:Nat)),(27,iv (i:Nat))] [.row Ty.Table (xs.map Tb.cells) false]
theorem zbU (tb:List Tb) (i:Nat) (xs:List Tb):True∧∀ R,Good E0 B.slices_Concat_Table [] (L_cb tb i xs) R→Good E0 B.slices_Concat_Table [] (L_cb tb i xs) R:=⟨trivial,fun _ h=>h⟩
theorem zsX (tb:List Tb) (hl:tb.length≤1000) (w1:IntKind.i64.wrap (0+((tb.map Tb.cells).length:Int))=(tb.length:Int)) (w2:IntKind.i64.wrap ((tb.length:Int)+(([]:List (List AV)).length:Int))=(tb.length:Int)) (w3:decide ((tb.length:Int) < 0)=false):∃ (r:List Tb),r=tb∧zaa E0 S.slices_Concat_Table [.sl (cc2 tb)] [] (tsl r) []:=by
 obtain ⟨q1,g1⟩:=zbS tb 0 (0)
 obtain ⟨q2,g2⟩:=zbS tb (0+1) ((tb.length:Int))
 obtain ⟨q3,g3⟩:=zbS tb (0+1+1) ((tb.length:Int))
 obtain ⟨q4,g4⟩:=zbU tb 0 ([])
 obtain ⟨q5,g5⟩:=zbU tb (0+1) ([]++tb)
 obtain ⟨q6,g6⟩:=zbU tb (0+1+1) ([]++tb++[])
 exact ⟨[]++tb++[],(by (simp;done)),wkc At.slices_Concat_Table [] [0,3,9,10,11] 0 kr (g1 _ (zab (wkl [sb (rfl:true=true),se (xs:=[[AV.sl (List.map Tb.cells tb)],[AV.sl []]]) (i:=0) (c:=[AV.sl (List.map Tb.cells tb)]) (n:=1) ⟨by decide,rfl,rfl⟩,si w1,sb (rfl:false=false),si (zeX (t:=(↑0:Int)+1) (n:=0+1) (by omega) (by omega))] [0,3,9,10,11] 0 kr (g2 _ (zab (wkl [sb (rfl:true=true),se (zr0 ([AV.sl (List.map Tb.cells tb)]) ([AV.sl []]) (by first|assumption|rfl|omega)),si w2,sb (rfl:false=false),si (zeX (t:=(↑(0+1):Int)+1) (n:=0+1+1) (by omega) (by omega))] [0,3,9,10,11] 0 kr (g3 _ (zab (wkl [sb (rfl:false=false),sln [] (ziN tb.length (by first|assumption|rfl|omega))] [6,25,26,27] 1 kr (g4 _ (zab (wkl [sb (rfl:true=true),se (xs:=[[AV.sl (List.map Tb.cells tb)],[AV.sl []]]) (i:=0) (c:=[AV.sl (List.map Tb.cells tb)]) (n:=1) ⟨by decide,rfl,rfl⟩,sqx (AllLen (List.map Tb.cells tb) 4∧0=0∧((([]:List (List AV)).length+(List.map Tb.cells tb).length) * 72).le 140737488355328),si (zeX (t:=(↑0:Int)+1) (n:=0+1) (by omega) (by omega))] [6,25,26,27] 1 kr (zat (show ([(6,AV.own 0 ([]++List.map Tb.cells tb).length),(25,AV.sl [[AV.sl (List.map Tb.cells tb)],[AV.sl []]]),(26,iv (↑[[AV.sl (List.map Tb.cells tb)],[AV.sl []]].length:Int)),(27,iv (↑(0+1):Int))]:TS)=_ by first|rfl|(simp;done)|(simp [X.cells,Qy.cells,V.cells,Col.cells,Rw.cells,Tb.cells,Fr.cells,Sch.cells,Tp.cells,Pl.cells,xCol,xLit,xBin,xNeg,Ac.cells,Se.cells,Pr.cells,Ch.cells,Rw.cells];done)) rfl (g5 _ (zab (wkl [sb (rfl:true=true),se (zr0 ([AV.sl (List.map Tb.cells tb)]) ([AV.sl []]) (by first|assumption|rfl|omega)),sqx (AllLen [] 4∧([]++tb).length=(List.map Tb.cells ([]++tb)).length∧(((List.map Tb.cells ([]++tb)).length+([]:List (List AV)).length) * 72).le 140737488355328),si (zeX (t:=(↑(0+1):Int)+1) (n:=0+1+1) (by omega) (by omega))] [6,25,26,27] 1 kr (zat (show ([(6,AV.own 0 (List.map Tb.cells ([]++tb)++[]).length),(25,AV.sl [[AV.sl (List.map Tb.cells tb)],[AV.sl []]]),(26,iv (↑[[AV.sl (List.map Tb.cells tb)],[AV.sl []]].length:Int)),(27,iv (↑(0+1+1):Int))]:TS)=_ by first|rfl|(simp;done)|(simp [X.cells,Qy.cells,V.cells,Col.cells,Rw.cells,Tb.cells,Fr.cells,Sch.cells,Tp.cells,Pl.cells,xCol,xLit,xBin,xNeg,Ac.cells,Se.cells,Pr.cells,Ch.cells,Rw.cells];done)) (show ([Blk.row Ty.Table (List.map Tb.cells ([]++tb)++[]) false]:Heap)=_ by first|rfl|(simp;done)|(simp [X.cells,Qy.cells,V.cells,Col.cells,Rw.cells,Tb.cells,Fr.cells,Sch.cells,Tp.cells,Pl.cells,xCol,xLit,xBin,xNeg,Ac.cells,Se.cells,Pr.cells,Ch.cells,Rw.cells];done)) (g6 _ (zab (wkr [sqx (([]++tb++[]).length=(List.map Tb.cells ([]++tb++[])).length),sb (rfl:false=false)] kr))))))))))))))))))))⟩
theorem zd2 (tb:List Tb) (hl:tb.length≤1000):zaa E0 S.slices_Concat_Table [.sl (cc2 tb)] [] (tsl tb) []:=by
 obtain ⟨r,rfl,h⟩:=zsX tb hl (by rw [List.length_map,IntKind.wrap_i64];omega) (by rw [IntKind.wrap_i64];simp;omega) (by simp)
 exact h
theorem zsE (t:Tb) (n:Str) :∃ (r:Bool),r=zaK t n∧zaa E0 S.store_Find_c1 [.agg t.cells,.p 0 0] [.box [sv n]] (bv r) [.box [sv n]]:=by
 exact ⟨ByteArray.toList t.sch.name==ByteArray.toList n,(by rfl),wk At.store_Find_c1 [] kr⟩
theorem zgK (t:Tb) (n:Str):zaa E0 S.store_Find_c1 [.agg t.cells,.p 0 0] [.box [sv n]] (bv (zaK t n)) [.box [sv n]]:=by
 obtain ⟨r,rfl,h⟩:=zsE t n
 exact h
noncomputable def zqY (l:List Tb) (n:Str) (i:Nat) :Cfg:=zan B.slices_IndexFunc_Table 0 [(0,.sl (l.map Tb.cells)),(1,.fn S.store_Find_c1 [.p 0 0]),(7,iv ((l.map Tb.cells).length:Nat)),(8,iv (i:Nat))] [.box [sv n]]
theorem zdz (l:List Tb) (n:Str) (hl:zac l) (i:Nat)  (hi:i≤(l).length) (hI:idxF (fun t=>zaK t n) l 0=idxF (fun t=>zaK t n) (l.drop i) i):((idxF (fun t=>zaK t n) l 0=idxF (fun t=>zaK t n) (l.drop (l).length) (l).length)∧(decide ((((l).length:Nat):Int) < (((l.map Tb.cells).length:Nat):Int))=false)∧∀ R,Good E0 B.slices_IndexFunc_Table [.box [sv n]] (zqY l n (l).length ) R→Good E0 B.slices_IndexFunc_Table [.box [sv n]] (zqY l n i ) R)∨(∃ (r:Int),r=idxF (fun t=>zaK t n) l 0∧Good E0 B.slices_IndexFunc_Table [.box [sv n]] (zqY l n i ) (Shut 1 fun rZ hZ=>rZ=(iv r)∧hZ=[.box [sv n]])):=by
 obtain ⟨kk,hk⟩:∃ kk,i+kk=(l).length:=⟨(l).length - i,by omega⟩
 induction kk generalizing i  with
 | zero =>
  have e0:i=(l).length:=by omega
  subst e0
  exact .inl ⟨hI,by simp,fun R hg=>hg⟩
 | succ kk ih =>
  obtain ⟨x,hx⟩:=zay (l:=l) (i:=i) (by omega)
  have h0:decide (((i:Nat):Int) < (((l.map Tb.cells).length:Nat):Int))=true:=by simp;omega
  have hw:IntKind.i64.wrap (((i:Nat):Int)+1)=((i+1:Nat):Int):=zaj i (by first|omega|(simp only [zac,Few] at *;omega))
  let p_1:List St:=[sb h0,se (zaf Tb.cells hx rfl),sl [0] (zgK x n)]
  cases h1:zaK x n
  ·exact (ih (i+1) (by omega) (by exact zjS hI hx (by assumption)) (by omega)).elim (fun ⟨qZ,xZ,gZ⟩=>.inl ⟨qZ,xZ,fun R hg=>zab (wkl (p_1++[sb h1,si hw]) [0,1,7,8] 1 kr (gZ R hg))⟩) (fun ⟨rY,pZ,gZ⟩=>.inr ⟨rY,pZ,zab (wkl [sb h0,se (zaf Tb.cells hx rfl),sl [0] (zgK x n),sb h1,si hw] [0,1,7,8] 1 kr gZ)⟩)
  ·exact .inr ⟨(i:Int),(by exact zlT hI hx (by assumption)),zab (wkr (p_1++[sb h1]) kr)⟩
theorem c_ixF (l:List Tb) (n:Str) (hl:zac l):∃ (r:Int),r=idxF (fun t=>zaK t n) l 0∧zaa E0 S.slices_IndexFunc_Table [.sl (l.map Tb.cells),.fn S.store_Find_c1 [.p 0 0]] [.box [sv n]] (iv r) [.box [sv n]]:=by
 rcases zdz l n (by first|assumption|rfl|omega) 0 (by first|assumption|rfl|omega) (by first|assumption|rfl|omega) with ⟨q1,q1_1,g1⟩|⟨r1_0,p1_0,g1⟩
 ·exact ⟨-1,(by first|assumption|exact zjK (by assumption)),wkc At.slices_IndexFunc_Table [] [0,1,7,8] 1 kr (g1 _ (zab (wkr [sb q1_1] kr)))⟩
 ·exact ⟨r1_0,(by first|assumption|exact zjK (by assumption)),wkc At.slices_IndexFunc_Table [] [0,1,7,8] 1 kr (g1)⟩
theorem zos (tb:List Tb) (n:Str) (hx:∃ r:Int,r=idxF (fun t=>zaK t n) tb 0∧zaa E0 S.slices_IndexFunc_Table [tsl tb,.fn S.store_Find_c1 [.p 0 0]] [.box [sv n]] (iv r) [.box [sv n]]):∃ (r:Int),r=idxF (fun t=>zaK t n) tb 0∧zaa E0 S.store_Find [tsl tb,sv n] [] (iv r) []:=by
 obtain ⟨r1,q1,c1⟩:=hx
 exact ⟨r1,(by assumption),wk At.store_Find [sl [0] c1] kr⟩
theorem znN (tb:List Tb) (n:Str) (hl:zac tb):zaa E0 S.store_Find [tsl tb,sv n] [] (iv (idxF (fun t=>zaK t n) tb 0)) []:=by
 obtain ⟨r,rfl,h⟩:=zos tb n (c_ixF tb n hl)
 exact h
theorem zq4 (x:Rw) (hsv:zac x.vals):∃ (r:Rw),r=x∧zaa E0 S.deep_Row [.agg x.cells] [] (.agg r.cells) []:=by
 exact ⟨x,(by rfl),wk At.deep_Row [sqx (True∧x.vals.length=(List.map V.cells x.vals).length∧True),sd [(4,[sc (zaz x.vals zli)])]] kr⟩
theorem zlG (x:Rw) (h:zac x.vals):zaa E0 S.deep_Row [.agg x.cells] [] (.agg x.cells) []:=by
 obtain ⟨r,rfl,h⟩:=zq4 x h
 exact h
noncomputable def L_dlR (l:List Rw) (i:Nat) (out:List Rw):Cfg:=zan B.deep_list_api_Row 0 [(1,.fn S.deep_Row []),(5,.own 0 out.length),(8,.sl ((l).map Rw.cells)),(9,iv (((l).map Rw.cells).length:Nat)),(10,iv (i:Nat))] [.row Ty.Row ((out).map Rw.cells) false]
theorem zeB (l:List Rw) (hl:zac l) (hf:∀ x∈l,zaa E0 S.deep_Row [.agg x.cells] [] (.agg x.cells) []) (i:Nat) (out:List Rw) (hi:i≤(l).length) (hI:out=l.take i):∃ (out':List Rw),(out'=l.take (l).length)∧(decide ((((l).length:Nat):Int) < ((((l).map Rw.cells).length:Nat):Int))=false)∧∀ R,Good E0 B.deep_list_api_Row [] (L_dlR l (l).length out') R→Good E0 B.deep_list_api_Row [] (L_dlR l i out) R:=by
 obtain ⟨kk,hk⟩:∃ kk,i+kk=(l).length:=⟨(l).length - i,by omega⟩
 induction kk generalizing i out with
 | zero =>
  have e0:i=(l).length:=by omega
  subst e0
  exact ⟨out,hI,by simp,fun R hg=>hg⟩
 | succ kk ih =>
  obtain ⟨x,hx⟩:=zay (l:=l) (i:=i) (by omega)
  have h0:decide (((i:Nat):Int) < ((((l).map Rw.cells).length:Nat):Int))=true:=by simp;omega
  have hw:IntKind.i64.wrap (((i:Nat):Int)+1)=((i+1:Nat):Int):=zaj i (by first|omega|(simp only [zac,Few] at *;omega))
  have hfx:=hf x (List.mem_of_getElem? hx)
  have ho:out.length≤1000000000:=by rw [hI,List.length_take];simp only [zac] at hl;omega
  obtain ⟨outZ,qZ,xZ,gZ⟩:=ih (i+1) (out++[x]) (by omega) (by rw [List.take_add_one,hx,hI];rfl) (by omega);exact ⟨outZ,qZ,xZ,fun R hg=>zab (wkl [sb h0,se (zaf Rw.cells hx rfl),sc hfx,sqx (AllLen [[iv x.id,AV.sl (List.map V.cells x.vals)]] 2∧out.length=(List.map Rw.cells out).length∧(((List.map Rw.cells out).length+[[iv x.id,AV.sl (List.map V.cells x.vals)]].length) * 32).le 140737488355328),si hw] [1,5,8,9,10] 1 kr (zat (show ([(1,AV.fn S.deep_Row []),(5,AV.own 0 (List.map Rw.cells out++[[iv x.id,AV.sl (List.map V.cells x.vals)]]).length),(8,AV.sl (List.map Rw.cells l)),(9,iv (↑(List.map Rw.cells l).length:Int)),(10,iv (↑(i+1):Int))]:TS)=_ by first|rfl|(simp;done)|(simp [X.cells,Qy.cells,V.cells,Col.cells,Rw.cells,Tb.cells,Fr.cells,Sch.cells,Tp.cells,Pl.cells,xCol,xLit,xBin,xNeg,Ac.cells,Se.cells,Pr.cells,Ch.cells,Rw.cells];done)) (show ([Blk.row Ty.Row (List.map Rw.cells out++[[iv x.id,AV.sl (List.map V.cells x.vals)]]) false]:Heap)=_ by first|rfl|(simp;done)|(simp [X.cells,Qy.cells,V.cells,Col.cells,Rw.cells,Tb.cells,Fr.cells,Sch.cells,Tp.cells,Pl.cells,xCol,xLit,xBin,xNeg,Ac.cells,Se.cells,Pr.cells,Ch.cells,Rw.cells];done)) (gZ R hg)))⟩
theorem ziK (l:List Rw) (hl:zac l) (hf:∀ x∈l,zaa E0 S.deep_Row [.agg x.cells] [] (.agg x.cells) []):∃ (r:List Rw),r=l∧zaa E0 S.deep_list_api_Row [.sl ((l).map Rw.cells),.fn S.deep_Row []] [] (.sl ((r).map Rw.cells)) []:=by
 obtain ⟨out1,q1,q1_1,g1⟩:=zeB l (by first|assumption|rfl|omega) (by first|assumption|rfl|omega) 0 ([]) (by first|assumption|rfl|omega) (by first|assumption|rfl|omega)
 exact ⟨out1,(by first|assumption|(rw [List.take_length] at *;assumption)),wkcN At.deep_list_api_Row [] [1,5,8,9,10] 0 [(.ot 5 Ty.Row,1)] kr (g1 _ (zab (wkr [sqx (out1.length=(List.map Rw.cells out1).length),sb q1_1] kr)))⟩
theorem zeD (l:List Rw) (hl:zac l) (hf:∀ x∈l,zaa E0 S.deep_Row [.agg x.cells] [] (.agg x.cells) []):zaa E0 S.deep_list_api_Row [.sl ((l).map Rw.cells),.fn S.deep_Row []] [] (.sl ((l).map Rw.cells)) []:=by
 obtain ⟨r,rfl,h⟩:=ziK l hl hf
 exact h
theorem zmY (x:Sch) (hsv:zac x.cols):∃ (r:Sch),r=x∧zaa E0 S.deep_Schema [x.av] [] r.av []:=by
 exact ⟨x,(by rfl),wk At.deep_Schema [sqx (True∧x.cols.length=(List.map Col.cells x.cols).length∧True),sc (zar x.cols zli)] kr⟩
theorem zmL (x:Sch) (h:zac x.cols):zaa E0 S.deep_Schema [x.av] [] x.av []:=by
 obtain ⟨r,rfl,h⟩:=zmY x h
 exact h
theorem zoo (t:Tb) (hc:zac t.sch.cols) (hr:zac t.rows) (hf:∀ x∈t.rows,zaa E0 S.deep_Row [.agg x.cells] [] (.agg x.cells) []):∃ (r:Tb),r=t∧zaa E0 S.deep_Table [.agg t.cells] [] (.agg r.cells) []:=by
 exact ⟨t,(by rfl),wk At.deep_Table [sd [(2,[sc (zmL t.sch zli)]),(7,[sc (zeD t.rows zli zli)])]] kr⟩
theorem znU (t:Tb) (hc:zac t.sch.cols) (hr:zac t.rows) (hv:∀ r∈t.rows,zac r.vals):zaa E0 S.deep_Table [.agg t.cells] [] (.agg t.cells) []:=by
 obtain ⟨r,rfl,h⟩:=zoo t hc hr (fun x hx=>zlG x (hv x hx))
 exact h
end Go.AM
namespace Go.AM
set_option maxRecDepth 100000
set_option maxHeartbeats 400000
set_option linter.unusedSimpArgs false
set_option linter.unusedVariables false
noncomputable def L_dlT (l:List Tb) (i:Nat) (out:List Tb):Cfg:=zan B.deep_list_api_Table 0 [(1,.fn S.deep_Table []),(5,.own 0 out.length),(8,.sl (l.map Tb.cells)),(9,iv ((l.map Tb.cells).length:Nat)),(10,iv (i:Nat))] [.row Ty.Table (out.map Tb.cells) false]
theorem zd7 (l:List Tb) (hl:zac l) (hf:∀ x∈l,zaa E0 S.deep_Table [.agg x.cells] [] (.agg x.cells) []) (i:Nat) (out:List Tb) (hi:i≤(l).length) (hI:out=l.take i):∃ (out':List Tb),(out'=l.take (l).length)∧(decide ((((l).length:Nat):Int) < (((l.map Tb.cells).length:Nat):Int))=false)∧∀ R,Good E0 B.deep_list_api_Table [] (L_dlT l (l).length out') R→Good E0 B.deep_list_api_Table [] (L_dlT l i out) R:=by
 obtain ⟨kk,hk⟩:∃ kk,i+kk=(l).length:=⟨(l).length - i,by omega⟩
 induction kk generalizing i out with
 | zero =>
  have e0:i=(l).length:=by omega
  subst e0
  exact ⟨out,hI,by simp,fun R hg=>hg⟩
 | succ kk ih =>
  obtain ⟨x,hx⟩:=zay (l:=l) (i:=i) (by omega)
  have h0:decide (((i:Nat):Int) < (((l.map Tb.cells).length:Nat):Int))=true:=by simp;omega
  have hw:IntKind.i64.wrap (((i:Nat):Int)+1)=((i+1:Nat):Int):=zaj i (by first|omega|(simp only [zac,Few] at *;omega))
  have hfx:=hf x (List.mem_of_getElem? hx)
  have ho:out.length≤1000000000:=by rw [hI,List.length_take];simp only [zac] at hl;omega
  obtain ⟨outZ,qZ,xZ,gZ⟩:=ih (i+1) (out++[x]) (by omega) (by rw [List.take_add_one,hx,hI];rfl) (by omega);exact ⟨outZ,qZ,xZ,fun R hg=>zab (wkl [sb h0,se (zaf Tb.cells hx rfl),sc hfx,sqx (AllLen [[sv x.sch.name,AV.sl (List.map Col.cells x.sch.cols),iv x.next,AV.sl (List.map Rw.cells x.rows)]] 4∧out.length=(List.map Tb.cells out).length∧(((List.map Tb.cells out).length+[[sv x.sch.name,AV.sl (List.map Col.cells x.sch.cols),iv x.next,AV.sl (List.map Rw.cells x.rows)]].length) * 72).le 140737488355328),si hw] [1,5,8,9,10] 1 kr (zat (show ([(1,AV.fn S.deep_Table []),(5,AV.own 0 (List.map Tb.cells out++[[sv x.sch.name,AV.sl (List.map Col.cells x.sch.cols),iv x.next,AV.sl (List.map Rw.cells x.rows)]]).length),(8,AV.sl (List.map Tb.cells l)),(9,iv (↑(List.map Tb.cells l).length:Int)),(10,iv (↑(i+1):Int))]:TS)=_ by first|rfl|(simp;done)|(simp [X.cells,Qy.cells,V.cells,Col.cells,Rw.cells,Tb.cells,Fr.cells,Sch.cells,Tp.cells,Pl.cells,xCol,xLit,xBin,xNeg,Ac.cells,Se.cells,Pr.cells,Ch.cells,Rw.cells];done)) (show ([Blk.row Ty.Table (List.map Tb.cells out++[[sv x.sch.name,AV.sl (List.map Col.cells x.sch.cols),iv x.next,AV.sl (List.map Rw.cells x.rows)]]) false]:Heap)=_ by first|rfl|(simp;done)|(simp [X.cells,Qy.cells,V.cells,Col.cells,Rw.cells,Tb.cells,Fr.cells,Sch.cells,Tp.cells,Pl.cells,xCol,xLit,xBin,xNeg,Ac.cells,Se.cells,Pr.cells,Ch.cells,Rw.cells];done)) (gZ R hg)))⟩
theorem zmT (l:List Tb) (hl:zac l) (hf:∀ x∈l,zaa E0 S.deep_Table [.agg x.cells] [] (.agg x.cells) []):∃ (r:List Tb),r=l.take l.length∧zaa E0 S.deep_list_api_Table [.sl (l.map Tb.cells),.fn S.deep_Table []] [] (.own 0 r.length) [.row Ty.Table (r.map Tb.cells) false]:=by
 obtain ⟨out1,q1,q1_1,g1⟩:=zd7 l (by first|assumption|rfl|omega) (by first|assumption|rfl|omega) 0 ([]) (by first|assumption|rfl|omega) (by first|assumption|rfl|omega)
 exact ⟨out1,(by first|assumption|trivial|(simp;done)|omega|(simp;omega)|(simp at *;omega)),wkcNK At.deep_list_api_Table [] [1,5,8,9,10] 0 [(.ot 5 Ty.Table,1)] kr (g1 _ (zab (wkrK [sb q1_1] kr)))⟩
theorem zfn (l:List Tb) (hl:zac l) (hf:∀ x∈l,zaa E0 S.deep_Table [.agg x.cells] [] (.agg x.cells) []):zaa E0 S.deep_list_api_Table [.sl (l.map Tb.cells),.fn S.deep_Table []] [] (.own 0 l.length) [.row Ty.Table (l.map Tb.cells) false]:=by
 obtain ⟨r,hr,h⟩:=zmT l hl hf
 rw [List.take_length] at hr;subst hr;exact h
theorem zmM (l:List Tb) (hl:zac l) (hf:∀ x∈l,zaa E0 S.deep_Table [.agg x.cells] [] (.agg x.cells) []):∃ (r:List Tb),r=l∧zaa E0 S.deep_Tables [tsl l] [] (.own 0 r.length) [.row Ty.Table (r.map Tb.cells) false]:=by
 exact ⟨l,(by rfl),wkK At.deep_Tables [sc (zfn l (by first|assumption|omega|(simp;done)|(simp;omega)) (by first|assumption|omega|(simp;done)|(simp;omega)))] kr⟩
theorem zdc (l:List Tb) (hl:zac l) (hc:∀ t∈l,zac t.sch.cols∧zac t.rows∧∀ r∈t.rows,zac r.vals):zaa E0 S.deep_Tables [tsl l] [] (.own 0 l.length) [.row Ty.Table (l.map Tb.cells) false]:=by
 obtain ⟨r,rfl,h⟩:=zmM l hl fun x hx=>znU x (hc x hx).1 (hc x hx).2.1 (hc x hx).2.2
 exact h
noncomputable def L_bs (tb:List Tb) (i:Nat):Cfg:=zan B.before_Statement 0 [(1,tsl tb),(11,.sl []),(12,iv (([]:List (List AV)).length:Nat)),(13,iv (i:Nat))] []
theorem zfc (tb:List Tb) (i:Nat):True∧∀ R,Good E0 B.before_Statement [] (L_bs tb i) R→Good E0 B.before_Statement [] (L_bs tb i) R:=⟨trivial,fun _ h=>h⟩
theorem zmW (tb:List Tb) :∃ (r:Int),r=0∧zaa E0 S.before_Statement [.sl [],tsl tb] [] (iv r) []:=by
 obtain ⟨q1,g1⟩:=zfc tb (0)
 exact ⟨0,(by rfl),wkc At.before_Statement [] [1,11,12,13] 0 kr (g1 _ (zab (wkr [sb (rfl:false=false)] kr)))⟩
theorem zg5 (tb:List Tb):zaa E0 S.before_Statement [.sl [],tsl tb] [] (iv 0) []:=by
 obtain ⟨r,rfl,h⟩:=zmW tb
 exact h
theorem zpv (nm:Str) (rows:List (List X)) :∃ (r:List Str),r=[]∧zaa E0 S.dml_Assigned [(zal nm rows).av] [] (ssl r) []:=by
 exact ⟨[],(by rfl),wk At.dml_Assigned [sb (rfl:true=true)] kr⟩
theorem ziI (nm:Str) (rows:List (List X)):zaa E0 S.dml_Assigned [(zal nm rows).av] [] (.sl []) []:=by
 obtain ⟨r,rfl,h⟩:=zpv nm rows
 exact h
theorem zhj (nm:Str) (rows:List (List X)) (s:Sch) (frs:List Fr) (tb:List Tb) (f:X→V × Int) (hv:zaa E0 S.dml_target [(zal nm rows).av,tsl tb] [] (.tup [s.av,iv 0]) []) (hs:zac s.cols) (hr:zac rows) (hf:∀ r∈rows,zac r∧∀ x∈r,PEv f x frs tb) (hf0:∀ r∈rows,∀ x∈r,((f x).2 != 0)=false) (hfl:∀ r∈rows,(((zad r).length:Int) != ((s.cols.map Col.cells).length:Int))=false):∃ (out:List (List V)),out=evR f (rows.take rows.length)∧zaa E0 S.dml_Candidates [(zal nm rows).av,fsl frs,tsl tb] [] (.tup [.agg [.own 5 out.length,.nl,.nl],iv 0]) [.box (zal nm rows).cells,.box [.own 5 out.length,.nl,.nl],.box s.cells,.box (zal nm rows).cells,.box s.cells,.row Ty.LValue (out.map vrow) false]:=by
 obtain ⟨out1,q1,c1⟩:=(ziM ((zal nm rows).table) ((zal nm rows).rows) s frs tb f (by first|assumption|rfl|omega) (by first|assumption|rfl|omega) hf (by first|assumption|rfl|omega) (by first|assumption|rfl|omega))
 exact ⟨out1,(by assumption),wkK At.dml_Candidates [sc hv,sb (rfl:false=false),sb (rfl:true=true),sc c1,sb (rfl:false=false)] kr⟩
end Go.AM
namespace Go.AM
set_option maxRecDepth 100000
set_option maxHeartbeats 400000
set_option linter.unusedSimpArgs false
set_option linter.unusedVariables false
theorem zlp {p:Prop} (h:p:=by first|assumption|omega|(simp;done)|(simp;omega)):p:=h
abbrev runB (m:List Tb) (trig:List (List AV)) (s:Sch) (p c:AV):List AV:=[tsl m,.sl trig,.sl [],sv s.name,.sl (s.cols.map Col.cells),p,c]
theorem zrB (m:List Tb) (trig:List (List AV)) (s:Sch) (l g:List V) (hR:zaa E0 S.before_Row [.sl trig,.sl [],s.av,.sl [],vsl l,tsl m,.sl []] [] (.tup [vsl g,.sl [],.sl [],iv 0]) []):∃ (r:List V) (e:Int),(r=g∧e=0)∧zaa E0 S.statement_run_row [.p 0 0,.sl [],vsl l] [.box (runB m trig s (.own 1 0) .nl),.row Ty.int [] false] (.tup [vsl r,iv e]) [.box (runB m trig s (.sl []) (.own 2 0)),.row Ty.int [] true,.row Ty.int [] false]:=by
 exact ⟨g,0,(by exact ⟨rfl,rfl⟩),wkK At.statement_run_row [sd [(22,[skx (True∧True∧(True∧True∧True)∧True∧True∧True∧0=0∧True) [] hR])],sb (rfl:false=false),sqx (AllLen [] 1∧Nat.le 0 140737488355328)] kr⟩
theorem zgR (m:List Tb) (trig:List (List AV)) (s:Sch) (l g:List V) (hR:zaa E0 S.before_Row [.sl trig,.sl [],s.av,.sl [],vsl l,tsl m,.sl []] [] (.tup [vsl g,.sl [],.sl [],iv 0]) []):zaa E0 S.statement_run_row [.p 0 0,.sl [],vsl l] [.box (runB m trig s (.own 1 0) .nl),.row Ty.int [] false] (.tup [vsl g,iv 0]) [.box (runB m trig s (.sl []) (.own 2 0)),.row Ty.int [] true,.row Ty.int [] false]:=by
 obtain ⟨r,e,⟨rfl,rfl⟩,h⟩:=zrB m trig s l g hR
 exact h
theorem zrF (m:List Tb) (trig:List (List AV)) (s:Sch) (l g:List V) (hR:zaa E0 S.before_Row [.sl trig,.sl [],s.av,.sl [],vsl l,tsl m,.sl []] [] (.tup [vsl g,.sl [],.sl [],iv 0]) []):∃ (r:List V) (e:Int),(r=g∧e=0)∧zaa E0 S.statement_run_row [.p 0 0,.sl [],vsl l] [.box (runB m trig s (.sl []) (.own 1 0)),.row Ty.int [] false] (.tup [vsl r,iv e]) [.box (runB m trig s (.sl []) (.own 1 0)),.row Ty.int [] false]:=by
 exact ⟨g,0,(by exact ⟨rfl,rfl⟩),wk At.statement_run_row [sd [(22,[sc hR])],sb (rfl:false=false),sqx (AllLen [] 1∧0=0∧Nat.le 0 140737488355328)] kr⟩
theorem zgQ (m:List Tb) (trig:List (List AV)) (s:Sch) (l g:List V) (hR:zaa E0 S.before_Row [.sl trig,.sl [],s.av,.sl [],vsl l,tsl m,.sl []] [] (.tup [vsl g,.sl [],.sl [],iv 0]) []):zaa E0 S.statement_run_row [.p 0 0,.sl [],vsl l] [.box (runB m trig s (.sl []) (.own 1 0)),.row Ty.int [] false] (.tup [vsl g,iv 0]) [.box (runB m trig s (.sl []) (.own 1 0)),.row Ty.int [] false]:=by
 obtain ⟨r,e,⟨rfl,rfl⟩,h⟩:=zrF m trig s l g hR
 exact h
abbrev rrH (m:List Tb) (trig:List (List AV)) (s:Sch) (ins:List (List V)):Heap:=[.box (runB m trig s (.own 1 0) .nl),.row Ty.int [] false,.box [.own 3 ins.length,.nl,.nl],.row Ty.LValue (ins.map vrow) false]
noncomputable def L_rr0 (m:List Tb) (trig:List (List AV)) (s:Sch) (t:Tb) (ins:List (List V)) (i:Nat) :Cfg:=zan B.statement_run_rows 0 [(0,.p 0 0),(1,.p 2 0),(20,.sl (t.rows.map Rw.cells)),(21,iv ((t.rows.map Rw.cells).length:Nat)),(22,iv (i:Nat))] (rrH m trig s ins++[.box t.cells])
theorem zef (m:List Tb) (trig:List (List AV)) (s:Sch) (t:Tb) (ins:List (List V)) (hr:zac t.rows) (i:Nat)  (hi:i≤(t.rows).length) (hI:True):(True)∧(decide ((((t.rows).length:Nat):Int) < (((t.rows.map Rw.cells).length:Nat):Int))=false)∧∀ R,Good E0 B.statement_run_rows (rrH m trig s ins) (L_rr0 m trig s t ins (t.rows).length ) R→Good E0 B.statement_run_rows (rrH m trig s ins) (L_rr0 m trig s t ins i ) R:=by
 obtain ⟨kk,hk⟩:∃ kk,i+kk=(t.rows).length:=⟨(t.rows).length - i,by omega⟩
 induction kk generalizing i  hI with
 | zero =>
  have e0:i=(t.rows).length:=by omega
  subst e0
  exact ⟨hI,by simp,fun R hg=>hg⟩
 | succ kk ih =>
  obtain ⟨x,hx⟩:=zay (l:=t.rows) (i:=i) (by omega)
  have h0:decide (((i:Nat):Int) < (((t.rows.map Rw.cells).length:Nat):Int))=true:=by simp;omega
  have hw:IntKind.i64.wrap (((i:Nat):Int)+1)=((i+1:Nat):Int):=zaj i (by first|omega|(simp only [zac,Few] at *;omega))
  obtain ⟨qZ,xZ,gZ⟩:=ih (i+1) (by omega) (by first|trivial|assumption|(simp;done)|omega|(simp;omega)|(simp at *;omega)) (by omega);exact ⟨qZ,xZ,fun R hg=>zab (wkl [sb h0,se (zaf Rw.cells hx rfl),sd [(6,[sc (zdn x.id)])],sb (rfl:false=false),si hw] [0,1,20,21,22] 5 kr (gZ R hg))⟩
noncomputable def L_rr1 (m:List Tb) (trig:List (List AV)) (s:Sch) (t:Tb) (ins:List (List V)) (i:Nat):Cfg:=zan B.statement_run_rows 1 [(0,.p 0 0),(1,.p 2 0),(47,.nl),(48,iv 0),(49,iv (i:Nat))] (rrH m trig s ins++[.box t.cells])
theorem zex (m:List Tb) (trig:List (List AV)) (s:Sch) (t:Tb) (ins:List (List V)) (i:Nat):True∧∀ R,Good E0 B.statement_run_rows (rrH m trig s ins) (L_rr1 m trig s t ins i) R→Good E0 B.statement_run_rows (rrH m trig s ins) (L_rr1 m trig s t ins i) R:=⟨trivial,fun _ h=>h⟩
abbrev outG (g:List V→List V) (ins:List (List V)) (i:Nat):List (List V):=(ins.take i).map g++ins.drop i
theorem zsT (g:List V→List V) (ins:List (List V)) (i:Nat):(outG g ins i).length=ins.length:=by
 simp only [outG,List.length_append,List.length_map,List.length_take,List.length_drop];omega
theorem ztn {g:List V→List V} {ins:List (List V)} {i:Nat} {x:List V} (hx:ins[i]?=some x):(outG g ins i)[i]?=some x:=by
 have hi:=(List.getElem?_eq_some_iff.1 hx).1
 have hl:((ins.take i).map g).length=i:=by simp;omega
 rw [outG,List.getElem?_append_right (by omega),hl,Nat.sub_self,List.getElem?_drop];simpa using hx
theorem zoj {g:List V→List V} {ins:List (List V)} {i:Nat} {x:List V} (hx:ins[i]?=some x):(outG g ins i).set i (g x)=outG g ins (i+1):=by
 have hi:=(List.getElem?_eq_some_iff.1 hx).1
 have hl:((ins.take i).map g).length=i:=by simp;omega
 rw [outG,List.set_append_right _ _ (by omega),hl,Nat.sub_self,zba hx,List.set_cons_zero,outG,List.take_add_one,hx,List.map_append,List.append_assoc]
 rfl
noncomputable def zp6 (m:List Tb) (trig:List (List AV)) (s:Sch) (t:Tb) (ins:List (List V)) (g:List V→List V) (i:Nat) (out:List (List V)):Cfg:=zan B.statement_run_rows 2 [(0,.p 0 0),(1,.p 2 0),(78,.own 3 ins.length),(79,iv (ins.length:Nat)),(80,iv (i:Nat))] [.box (runB m trig s (.sl []) (.own 5 0)),.row Ty.int [] true,.box [.own 3 ins.length,.nl,.nl],.row Ty.LValue (out.map vrow) false,.box t.cells,.row Ty.int [] false]
theorem zeu (m:List Tb) (trig:List (List AV)) (s:Sch) (t:Tb) (ins:List (List V)) (g:List V→List V) (hl:zac ins) (hR:∀ l∈ins,zaa E0 S.before_Row [.sl trig,.sl [],s.av,.sl [],vsl l,tsl m,.sl []] [] (.tup [vsl (g l),.sl [],.sl [],iv 0]) []) (i:Nat) (out:List (List V)) (hi:i≤(ins.length)) (hI:out=outG g ins i):∃ (out':List (List V)),(out'=outG g ins ins.length)∧(decide ((((ins.length):Nat):Int) < (((ins.length):Nat):Int))=false)∧∀ R,Good E0 B.statement_run_rows (rrH m trig s ins) (zp6 m trig s t ins g ins.length out') R→Good E0 B.statement_run_rows (rrH m trig s ins) (zp6 m trig s t ins g i out) R:=by
 obtain ⟨kk,hk⟩:∃ kk,i+kk=(ins.length):=⟨(ins.length) - i,by omega⟩
 induction kk generalizing i out with
 | zero =>
  have e0:i=(ins.length):=by omega
  subst e0
  exact ⟨out,hI,by simp,fun R hg=>hg⟩
 | succ kk ih =>
  have h0:decide (((i:Nat):Int) < (((ins.length):Nat):Int))=true:=by simp;omega
  have hw:IntKind.i64.wrap (((i:Nat):Int)+1)=((i+1:Nat):Int):=zaj i (by (simp only [zac] at hl;omega))
  obtain ⟨x,hx⟩:=zay (l:=ins) (i:=i) (by omega)
  have hxR:=hR x (List.mem_of_getElem? hx)
  have hol:(out.map vrow).length=ins.length:=by rw [List.length_map,hI,zsT]
  have he:OwnEl (out.map vrow) ins.length i (vrow x):=⟨hol.symm,by rw [List.getElem?_map,hI,ztn hx];rfl⟩
  have ho:OwnAt (out.map vrow) ins.length ((i:Nat):Int):=⟨hol.symm,by omega,by omega⟩
  obtain ⟨outZ,qZ,xZ,gZ⟩:=ih (i+1) (out.set i (g x)) (by omega) (by (rw [hI];exact zoj hx)) (by omega);exact ⟨outZ,qZ,xZ,fun R hg=>zab (wkl [sb h0,sqx (OwnAt (List.map vrow out) ins.length (i:Int)),sx (.el (vrow x)) he,sl [0,5] (zgQ m trig s x (g x) hxR),sb (rfl:false=false),sqx (OwnAt (List.map vrow out) ins.length (i:Int)),sx (.el (vrow x)) (And.intro (owed (p:=True∧True)) he),si hw] [0,1,78,79,80] 6 kr (zat rfl (show ([Blk.box [AV.sl (List.map Tb.cells m),AV.sl trig,AV.sl [],sv s.name,AV.sl (List.map Col.cells s.cols),AV.sl [],AV.own 5 0],Blk.row Ty.int [] true,Blk.box [AV.own 3 ins.length,AV.nl,AV.nl],Blk.row Ty.LValue ((List.map vrow out).set i [AV.sl (List.map V.cells (g x))]) false,Blk.box [sv t.sch.name,AV.sl (List.map Col.cells t.sch.cols),iv t.next,AV.sl (List.map Rw.cells t.rows)],Blk.row Ty.int [] false]:Heap)=_ by first|rfl|(simp;done)|(simp [X.cells,Qy.cells,V.cells,Col.cells,Rw.cells,Tb.cells,Fr.cells,Sch.cells,Tp.cells,Pl.cells,xCol,xLit,xBin,xNeg,Ac.cells,Se.cells,Pr.cells,Ch.cells,Rw.cells];done)) (gZ R hg)))⟩
noncomputable def L_rr20 (m:List Tb) (trig:List (List AV)) (s:Sch) (t:Tb) (ins:List (List V)):Cfg:=zan B.statement_run_rows 2 [(0,.p 0 0),(1,.p 2 0),(78,.own 3 ins.length),(79,iv (ins.length:Nat)),(80,iv 0)] (rrH m trig s ins++[.box t.cells])
theorem zd4 (m:List Tb) (trig:List (List AV)) (s:Sch) (t:Tb) (ins:List (List V)) (g:List V→List V) (hl:zac ins) (hne:ins≠[]) (hR:∀ l∈ins,zaa E0 S.before_Row [.sl trig,.sl [],s.av,.sl [],vsl l,tsl m,.sl []] [] (.tup [vsl (g l),.sl [],.sl [],iv 0]) []):decide (((ins.length:Nat):Int) < ((ins.length:Nat):Int))=false∧∀ R,Good E0 B.statement_run_rows (rrH m trig s ins) (zp6 m trig s t ins g ins.length (ins.map g)) R→Good E0 B.statement_run_rows (rrH m trig s ins) (L_rr20 m trig s t ins) R:=by
 have hx0:∃ x,ins[0]?=some x:=zay (by cases ins with|nil=>exact absurd rfl hne|cons _ _=>simp)
 obtain ⟨x,hx⟩:=hx0
 have hil:=(List.getElem?_eq_some_iff.1 hx).1
 obtain ⟨out,hout,h1,h2⟩:=zeu m trig s t ins g hl hR 1 (outG g ins 1) (by omega) rfl
 have hout2:out=ins.map g:=by rw [hout,outG,List.take_length,List.drop_length,List.append_nil]
 subst hout2
 refine ⟨by simp,fun R h=>?_⟩
 have hg:=h2 R h
 have h0:decide ((0:Int) < ((ins.length:Nat):Int))=true:=by simp;omega
 have hxR:=hR x (List.mem_of_getElem? hx)
 have he:OwnEl (ins.map vrow) ins.length 0 (vrow x):=⟨by simp,by rw [List.getElem?_map,hx];rfl⟩
 have ho:OwnAt (ins.map vrow) ins.length (0:Int):=⟨by simp,by omega,by omega⟩
 have hset:ins.set 0 (g x)=outG g ins 1:=by have:=zoj (g:=g) hx;rwa [show outG g ins 0=ins by simp [outG]] at this
 rw [← hset] at hg
 refine zab ?_
 exact wkl [sb h0,sqx (OwnAt (List.map vrow ins) ins.length 0),sx (.el (vrow x)) he,sl [0,1] (zgR m trig s x (g x) hxR),sb (rfl:false=false),sqx (OwnAt (List.map vrow ins) ins.length 0),sx (.el (vrow x)) (And.intro (owed (p:=True∧True)) he),si (zeX (t:=0+1) (n:=0+1) (by omega) (by omega))] [0,1,78,79,80] 6 kr (zat rfl (show ([Blk.box [AV.sl (List.map Tb.cells m),AV.sl trig,AV.sl [],sv s.name,AV.sl (List.map Col.cells s.cols),AV.sl [],AV.own 5 0],Blk.row Ty.int [] true,Blk.box [AV.own 3 ins.length,AV.nl,AV.nl],Blk.row Ty.LValue ((List.map vrow ins).set 0 [AV.sl (List.map V.cells (g x))]) false,Blk.box [sv t.sch.name,AV.sl (List.map Col.cells t.sch.cols),iv t.next,AV.sl (List.map Rw.cells t.rows)],Blk.row Ty.int [] false]:Heap)=_ by first|rfl|(simp;done)|(simp [X.cells,Qy.cells,V.cells,Col.cells,Rw.cells,Tb.cells,Fr.cells,Sch.cells,Tp.cells,Pl.cells,xCol,xLit,xBin,xNeg,Ac.cells,Se.cells,Pr.cells,Ch.cells,Rw.cells];done)) hg)
theorem zsi (m:List Tb) (trig:List (List AV)) (s:Sch) (t:Tb) (ins:List (List V)) (g:List V→List V) (hr:zac t.rows) (hl:zac ins) (hne:ins≠[]) (hR:∀ l∈ins,zaa E0 S.before_Row [.sl trig,.sl [],s.av,.sl [],vsl l,tsl m,.sl []] [] (.tup [vsl (g l),.sl [],.sl [],iv 0]) []):∃ (r:Int),r=0∧zaa E0 S.statement_run_rows [.p 0 0,.p 2 0,t.av] (rrH m trig s ins) (iv r) [.box (runB m trig s (.sl []) (.own 5 0)),.row Ty.int [] true,.box [.own 3 ins.length,.nl,.nl],.row Ty.LValue ((ins.map g).map vrow) false,.box t.cells,.row Ty.int [] false]:=by
 obtain ⟨q1,q1_1,g1⟩:=zef m trig s t ins zlp 0 zlp zlp
 obtain ⟨q2,g2⟩:=zex m trig s t ins (0)
 obtain ⟨q3,g3⟩:=zd4 m trig s t ins g zlp zlp hR
 exact ⟨0,(by rfl),wkcK At.statement_run_rows [] [0,1,20,21,22] 5 kr (g1 _ (zab (wkl [sb q1_1] [0,1,47,48,49] 5 kr (g2 _ (zab (wkl [sb (rfl:false=false),sqx (ins.length=(List.map vrow ins).length)] [0,1,78,79,80] 5 kr (g3 _ (zab (wkrK [sb q3] kr)))))))))⟩
end Go.AM
namespace Go.AM
set_option maxRecDepth 100000
set_option maxHeartbeats 400000
set_option linter.unusedSimpArgs false
set_option linter.unusedVariables false
theorem zfU {p:Prop} (h:p:=by first|assumption|rfl|omega|(simp [zac];done)|decide):p:=h
theorem zfv (m:List Tb) (trig:List (List AV)) (s:Sch) (t:Tb) (ins:List (List V)) (g:List V→List V) (hr:zac t.rows) (hl:zac ins) (hne:ins≠[]) (hR:∀ l∈ins,zaa E0 S.before_Row [.sl trig,.sl [],s.av,.sl [],vsl l,tsl m,.sl []] [] (.tup [vsl (g l),.sl [],.sl [],iv 0]) []):zaa E0 S.statement_run_rows [.p 0 0,.p 2 0,t.av] (rrH m trig s ins) (iv 0) [.box (runB m trig s (.sl []) (.own 5 0)),.row Ty.int [] true,.box [.own 3 ins.length,.nl,.nl],.row Ty.LValue ((ins.map g).map vrow) false,.box t.cells,.row Ty.int [] false]:=by
 obtain ⟨r,rfl,h⟩:=zsi m trig s t ins g hr hl hne hR
 exact h
theorem zto (m:List Tb) (frs:List Fr) (nm:Str) (rows:List (List X)) (ts:List Tg) (trig:List (List AV)) (t t2:Tb) (a:Nat) (ins:List (List V)) (g:List V→List V) (hl:m.length≤1000) (hx:m[a]?=some t) (hal:a < m.length) (hfd:zaa E0 S.store_Find [tsl m,sv nm] [] (iv (a:Nat)) []) (hn:decide (((a:Nat):Int) < 0)=false) (hC:zaa E0 S.dml_Candidates [(zal nm rows).av,fsl frs,tsl m] [] (.tup [.agg [.own 5 ins.length,.nl,.nl],iv 0]) [.box (zal nm rows).cells,.box [.own 5 ins.length,.nl,.nl],.box t.sch.cells,.box (zal nm rows).cells,.box t.sch.cells,.row Ty.LValue (ins.map vrow) false]) (hd:∀ t∈m,zac t.sch.cols∧zac t.rows∧∀ r∈t.rows,zac r.vals) (hF:zaa E0 S.before_Applicable [.sl (ts.map Tg.cells),sv nm,iv 1,.sl [],bv false] [] (.sl []) []) (hT:zaa E0 S.before_Applicable [.sl (ts.map Tg.cells),sv nm,iv 1,.sl [],bv true] [] (.sl trig) []) (hz:(((0+0+ins.length:Nat):Int)==0)=false) (hr:zac t.rows) (hli:zac ins) (hne:ins≠[]) (hR:∀ l∈ins,zaa E0 S.before_Row [.sl trig,.sl [],t.sch.av,.sl [],vsl l,tsl m,.sl []] [] (.tup [vsl (g l),.sl [],.sl [],iv 0]) []) (hA:zaa E0 S.keys_Apply [t.av,insC (ins.map g)] [] (.tup [t2.av,iv 0]) []):∃ (r:List (List AV)) (n e:Int),(e=0∧r=(m.map Tb.cells).set a t2.cells∧n=((ins.length:Nat):Int))∧zaa E0 S.statement_Run [tsl m,.sl (ts.map Tg.cells),.sl [],(zal nm rows).av,fsl frs,.sl [],.sl []] [] (.tup [.sl r,.sl [],.sl [],iv n,iv e]) []:=by
 exact ⟨(List.map Tb.cells m).set a [sv t2.sch.name,AV.sl (List.map Col.cells t2.sch.cols),iv t2.next,AV.sl (List.map Rw.cells t2.rows)],(↑(0+0+ins.length):Int),0,(by (exact ⟨rfl,rfl,by simp⟩)),(by (try simp only [X.av,Qy.av,V.av,Tb.av,Sch.av,Pl.av,xsl,fsl,vsl,tsl,List.map_append,List.map_cons,List.map_nil,V.cells,Col.cells,Rw.cells,Tb.cells,Fr.cells,Sch.cells,Pl.cells,zbe,zaZ,zbd,za1,zbf,X.cells,Qy.cells,X.args_mk,X.sub_mk,Qy.items_mk,Qy.wh_mk,xCol,xLit,xBin,xNeg,Ac.cells,Se.cells,Pr.cells,Ch.cells,Rw.cells]);exact wk At.statement_Run [sqx (m.length=((List.map Tb.cells m).set a [sv t2.sch.name,AV.sl (List.map Col.cells t2.sch.cols),iv t2.next,AV.sl (List.map Rw.cells t2.rows)]).length∧True∧0=0∧True∧True∧True),sc hfd,sc (zd2 m zfU),sb (rfl:false=false),sc hC,sb (rfl:false=false),si (zeX (t:=0+0) (n:=0+0) (by omega) (by omega)),sqx (ins.length=(List.map vrow ins).length),si (zeX (t:=(↑(0+0):Int)+(ins.length:Int)) (n:=0+0+ins.length) (by omega) (by omega)),sc (zdc m zfU zfU),sb hz,sc (ziI ((zal nm rows).table) ((zal nm rows).rows)),sc hF,sc (zg5 m),sb (rfl:false=false),sd [(11,[se (zaf Tb.cells hx rfl)]),(7,[sc hT]),(15,[sc (zbl ([]) zfU)])],se (zaf Tb.cells hx rfl),sl [10,9,7,6] (zfv m trig t.sch t ins g zfU zfU zfU hR),sb (rfl:false=false),sdm [(2,[se (zaf Tb.cells hx rfl)]),(5,[skx ((True∧True∧True∧True∧True)∧(ins.length=(List.map vrow (List.map g ins)).length∧True∧True∧True)∧True) [] hA])] 0 [(0,AV.sl (List.map Tb.cells m)),(1,AV.sl (List.map Tg.cells ts)),(2,AV.sl []),(3,AV.agg [iv (zal nm rows).kind,sv (zal nm rows).table,AV.sl (List.map (fun r=>[AV.sl (zad r)]) (zal nm rows).rows),AV.sl (zah []),AV.sl [],AV.sl (zad []),sv (zal nm rows).text]),(4,AV.sl (List.map Fr.cells frs)),(5,AV.sl []),(6,AV.sl []),(10,AV.p 0 0),(14,AV.nl),(15,AV.nl),(16,AV.nl),(17,iv 0),(18,iv 0),(19,iv (a:Int)),(20,AV.sl (List.map Tb.cells m)),(21,AV.p 7 0),(22,iv 0),(23,iv (↑(0+0+ins.length):Int)),(24,AV.own 8 m.length),(25,AV.sl []),(26,iv 0),(27,AV.p 10 0),(28,iv 0),(29,AV.p 13 0),(30,AV.sl (List.map Tb.cells m)),(31,AV.p 0 1),(32,sv (zal nm rows).table),(33,iv (a:Int)),(34,AV.sl (List.map Tb.cells m)),(35,AV.sl []),(36,AV.sl [[AV.sl (List.map Tb.cells m)],[AV.sl []]]),(37,AV.sl (List.map Tb.cells m)),(38,iv (a:Int)),(39,AV.bl false),(41,AV.tup [AV.agg [AV.own 6 ins.length,AV.nl,AV.nl],iv 0]),(42,AV.agg [iv (zal nm rows).kind,sv (zal nm rows).table,AV.sl (List.map (fun r=>[AV.sl (zad r)]) (zal nm rows).rows),AV.sl (zah []),AV.sl [],AV.sl (zad []),sv (zal nm rows).text]),(43,AV.sl (List.map Fr.cells frs)),(44,AV.sl (List.map Tb.cells m)),(45,AV.tup [AV.agg [AV.own 6 ins.length,AV.nl,AV.nl],iv 0]),(46,AV.agg [AV.own 6 ins.length,AV.nl,AV.nl]),(47,iv 0),(48,iv 0),(49,AV.bl false),(51,AV.p 7 1),(52,AV.nl),(53,iv 0),(54,AV.p 7 2),(55,AV.nl),(56,iv 0),(57,iv (↑(0+0):Int)),(58,AV.p 7 0),(59,AV.own 6 ins.length),(60,iv (ins.length:Int)),(61,iv (↑(0+0+ins.length):Int)),(62,AV.sl (List.map Tb.cells m)),(63,AV.own 8 m.length),(64,iv (↑(0+0+ins.length):Int)),(65,AV.bl false),(69,AV.agg [iv (zal nm rows).kind,sv (zal nm rows).table,AV.sl (List.map (fun r=>[AV.sl (zad r)]) (zal nm rows).rows),AV.sl (zah []),AV.sl [],AV.sl (zad []),sv (zal nm rows).text]),(70,AV.sl []),(71,AV.sl (List.map Tg.cells ts)),(72,AV.p 0 1),(73,sv (zal nm rows).table),(74,AV.p 0 0),(75,iv (zal nm rows).kind),(76,AV.sl []),(77,AV.sl []),(78,AV.sl (List.map Tb.cells m)),(79,iv 0),(80,iv 0),(81,AV.bl false),(83,AV.sl (List.map Tb.cells m)),(84,AV.sl (List.map Tg.cells ts)),(85,AV.p 0 1),(86,sv (zal nm rows).table),(87,AV.p 0 0),(88,iv (zal nm rows).kind),(89,AV.sl []),(90,AV.sl trig),(91,AV.sl []),(92,AV.sl (List.map Tb.cells m)),(93,iv (a:Int)),(94,AV.dp [sv t.sch.name,AV.sl (List.map Col.cells t.sch.cols),iv t.next,AV.sl (List.map Rw.cells t.rows)]),(95,AV.dp [sv t.sch.name,AV.sl (List.map Col.cells t.sch.cols),iv t.next,AV.sl (List.map Rw.cells t.rows)]),(96,AV.agg [sv t.sch.name,AV.sl (List.map Col.cells t.sch.cols)]),(97,AV.sl []),(98,AV.own 9 0),(99,AV.agg [AV.sl (List.map Tb.cells m),AV.sl trig,AV.sl [],sv t.sch.name,AV.sl (List.map Col.cells t.sch.cols),AV.own 9 0,AV.nl]),(100,AV.p 10 0),(101,AV.p 10 0),(102,AV.sl (List.map Tb.cells m)),(103,iv (a:Int)),(104,AV.dp [sv t.sch.name,AV.sl (List.map Col.cells t.sch.cols),iv t.next,AV.sl (List.map Rw.cells t.rows)]),(105,AV.agg [sv t.sch.name,AV.sl (List.map Col.cells t.sch.cols),iv t.next,AV.sl (List.map Rw.cells t.rows)]),(106,iv 0),(107,iv 0),(108,AV.bl false),(110,AV.tup [AV.agg [sv t2.sch.name,AV.sl (List.map Col.cells t2.sch.cols),iv t2.next,AV.sl (List.map Rw.cells t2.rows)],iv 0]),(111,AV.sl (List.map Tb.cells m)),(112,iv (a:Int)),(113,AV.dp [sv t.sch.name,AV.sl (List.map Col.cells t.sch.cols),iv t.next,AV.sl (List.map Rw.cells t.rows)]),(114,AV.agg [sv t.sch.name,AV.sl (List.map Col.cells t.sch.cols),iv t.next,AV.sl (List.map Rw.cells t.rows)]),(115,AV.agg [AV.own 6 ins.length,AV.nl,AV.nl]),(116,AV.tup [AV.agg [sv t2.sch.name,AV.sl (List.map Col.cells t2.sch.cols),iv t2.next,AV.sl (List.map Rw.cells t2.rows)],iv 0]),(117,AV.agg [sv t2.sch.name,AV.sl (List.map Col.cells t2.sch.cols),iv t2.next,AV.sl (List.map Rw.cells t2.rows)]),(118,iv 0)] [Blk.box [iv (zal nm rows).kind,sv (zal nm rows).table,AV.sl (List.map (fun r=>[AV.sl (zad r)]) (zal nm rows).rows),AV.sl (zah []),AV.sl [],AV.sl (zad []),sv (zal nm rows).text],Blk.box [iv (zal nm rows).kind,sv (zal nm rows).table,AV.sl (List.map (fun r=>[AV.sl (zad r)]) (zal nm rows).rows),AV.sl (zah []),AV.sl [],AV.sl (zad []),sv (zal nm rows).text],Blk.box [AV.own 6 ins.length,AV.nl,AV.nl],Blk.box [sv t.sch.name,AV.sl (List.map Col.cells t.sch.cols)],Blk.box [iv (zal nm rows).kind,sv (zal nm rows).table,AV.sl (List.map (fun r=>[AV.sl (zad r)]) (zal nm rows).rows),AV.sl (zah []),AV.sl [],AV.sl (zad []),sv (zal nm rows).text],Blk.box [sv t.sch.name,AV.sl (List.map Col.cells t.sch.cols)],Blk.row Ty.LValue (List.map vrow (List.map g ins)) true,Blk.box [AV.own 6 ins.length,AV.nl,AV.nl],Blk.row Ty.Table (List.map Tb.cells m) false,Blk.row Ty.int [] true,Blk.box [AV.sl (List.map Tb.cells m),AV.sl trig,AV.sl [],sv t.sch.name,AV.sl (List.map Col.cells t.sch.cols),AV.sl [],AV.own 12 0],Blk.box [sv t.sch.name,AV.sl (List.map Col.cells t.sch.cols),iv t.next,AV.sl (List.map Rw.cells t.rows)],Blk.row Ty.int [] false,Blk.box [sv t2.sch.name,AV.sl (List.map Col.cells t2.sch.cols),iv t2.next,AV.sl (List.map Rw.cells t2.rows)]],sb (rfl:false=false),sqx (OwnAt (List.map Tb.cells m) m.length (a:Int)),sx (.el t.cells) (And.intro (owed (p:=True∧True∧True∧True∧True)) (zjQ Tb.cells (n:=m.length) (by simp) hx)),sd []] kr)⟩
theorem zhP (m:List Tb) (frs:List Fr) (nm:Str) (rows:List (List X)) (ts:List Tg) (trig:List (List AV)) (t t2:Tb) (a:Nat) (ins:List (List V)) (g:List V→List V) (hl:m.length≤1000) (hx:m[a]?=some t) (hal:a < m.length) (hfd:zaa E0 S.store_Find [tsl m,sv nm] [] (iv (a:Nat)) []) (hn:decide (((a:Nat):Int) < 0)=false) (hC:zaa E0 S.dml_Candidates [(zal nm rows).av,fsl frs,tsl m] [] (.tup [.agg [.own 5 ins.length,.nl,.nl],iv 0]) [.box (zal nm rows).cells,.box [.own 5 ins.length,.nl,.nl],.box t.sch.cells,.box (zal nm rows).cells,.box t.sch.cells,.row Ty.LValue (ins.map vrow) false]) (hd:∀ t∈m,zac t.sch.cols∧zac t.rows∧∀ r∈t.rows,zac r.vals) (hF:zaa E0 S.before_Applicable [.sl (ts.map Tg.cells),sv nm,iv 1,.sl [],bv false] [] (.sl []) []) (hT:zaa E0 S.before_Applicable [.sl (ts.map Tg.cells),sv nm,iv 1,.sl [],bv true] [] (.sl trig) []) (hz:(((0+0+ins.length:Nat):Int)==0)=false) (hr:zac t.rows) (hli:zac ins) (hne:ins≠[]) (hR:∀ l∈ins,zaa E0 S.before_Row [.sl trig,.sl [],t.sch.av,.sl [],vsl l,tsl m,.sl []] [] (.tup [vsl (g l),.sl [],.sl [],iv 0]) []) (hA:zaa E0 S.keys_Apply [t.av,insC (ins.map g)] [] (.tup [t2.av,iv 0]) []):zaa E0 S.statement_Run [tsl m,.sl (ts.map Tg.cells),.sl [],(zal nm rows).av,fsl frs,.sl [],.sl []] [] (.tup [tsl (m.set a t2),.sl [],.sl [],iv (ins.length:Nat),iv 0]) []:=by
 obtain ⟨r,n,e,⟨rfl,rfl,rfl⟩,h⟩:=zto m frs nm rows ts trig t t2 a ins g hl hx hal hfd hn hC hd hF hT hz hr hli hne hR hA
 rw [← List.map_set] at h
 exact h
end Go.AM
namespace Go.AM
set_option maxRecDepth 100000
set_option maxHeartbeats 1000000
set_option linter.unusedSimpArgs false
set_option linter.unusedVariables false
theorem zdp {s:Sch} {i:Nat} {x:Col} (h:(zaW x.name&&decide (1≤x.type)&&decide (x.type≤3)&&(!x.key || x.notNull)&&(idxF (fun c=>colC c x.name) s.cols 0==((i:Nat):Int)))=true):ColV s i x:=by
 simp only [Bool.and_eq_true,decide_eq_true_eq,beq_iff_eq,Bool.or_eq_true,Bool.not_eq_true'] at h
 obtain ⟨⟨⟨⟨h1,h2⟩,h3⟩,h4⟩,h5⟩:=h
 refine ⟨by rw [h1];rfl,by simp;omega,by simp;omega,fun hk=>?_,by simp [h5]⟩
 rcases h4 with h4|h4
 ·rw [hk] at h4;cases h4
 ·exact h4
theorem zmd {s:Sch} (hs:s∈zao):SchV s:=by
 simp only [zao,List.mem_cons,List.not_mem_nil,or_false] at hs
 rcases hs with rfl|rfl|rfl
 ·refine ⟨by kernel_rfl,by kernel_rfl,by kernel_rfl,fun i x hx=>?_,by decide⟩
  match i,hx with
  | 0,hx=>cases hx;exact zdp kr
  | 1,hx=>cases hx;exact zdp kr
  | i+2,hx=>simp at hx
 ·refine ⟨by kernel_rfl,by kernel_rfl,by kernel_rfl,fun i x hx=>?_,by decide⟩
  match i,hx with
  | 0,hx=>cases hx;exact zdp kr
  | 1,hx=>cases hx;exact zdp kr
  | 2,hx=>cases hx;exact zdp kr
  | 3,hx=>cases hx;exact zdp kr
  | i+4,hx=>simp at hx
 ·refine ⟨by kernel_rfl,by kernel_rfl,by kernel_rfl,fun i x hx=>?_,by decide⟩
  match i,hx with
  | 0,hx=>cases hx;exact zdp kr
  | 1,hx=>cases hx;exact zdp kr
  | 2,hx=>cases hx;exact zdp kr
  | i+3,hx=>simp at hx
theorem zoG {s:Sch} (hs:s∈zao):idxF (fun c=>c.key) s.cols 0=keyC s:=by
 simp only [zao,List.mem_cons,List.not_mem_nil,or_false] at hs
 rcases hs with rfl|rfl|rfl <;> kernel_rfl
theorem StoreV.tabV {n:Int} {m:List Tb} (h:StoreV n m) (hn:n≤100) {t:Tb} (ht:t∈m):TabV t:=by
 have hs:t.sch∈zao:=by rw [← h.schs];exact List.mem_map_of_mem ht
 have h1:=h.len t ht
 have h2:=h.next t ht
 exact ⟨zmd hs,by simp;omega,h.rows t ht,by simp;omega,zoG hs⟩
end Go.AM
namespace Go.AM
set_option maxRecDepth 100000
set_option maxHeartbeats 1000000
set_option linter.unusedSimpArgs false
set_option linter.unusedVariables false
def vNul:V:=⟨0,0,⟨#[]⟩⟩
abbrev sLog:Str:=⟨#[108,111,103]⟩
abbrev vCnt (n:Nat):V:=⟨1,(n:Int),⟨#[]⟩⟩
theorem zsa (N:Nat) (s:Sch) (old new:List V) (m:List Tb):bRow N [] [] s old new m []=(new,[],[],0):=by rfl
theorem zrU:NwOk []:=⟨by decide,fun v hv=>by simp at hv⟩
theorem zo2 (new:List V) (m:List Tb) (ht:TbOk m) (hg:TbG m) (hn:NwOk new):zaa E0 S.before_Row [.sl ([]:List (List AV)),.sl [],zbP.av,.sl [],vsl new,tsl m,.sl []] [] (.tup [vsl new,.sl [],.sl [],iv 0]) []:=by
 have h1:=zn6 7 [] [] zbP [] new m [] (by decide) (by decide) (by decide) (by decide) zrU ht hg (by decide) (fun t ht=>by simp at ht) hn hn.short (by decide)
 rw [zsa] at h1
 exact h1
end Go.AM
namespace Go.AM
set_option maxRecDepth 100000
set_option maxHeartbeats 1000000
set_option linter.unusedSimpArgs false
set_option linter.unusedVariables false
theorem zs8 {t:Tb} {m:List Tb} (hs:t.sch=zbP):zcw (t::m) sLog=some t∧idxF (fun x=>zaK x sLog) (t::m) 0=0:=by
 have h:zaK t sLog=true:=by unfold zaK;rw [hs];kernel_rfl
 constructor
 ·unfold zcw;rw [List.find?_cons,h]
 ·unfold idxF;rw [h];rfl
theorem zit (n:Nat) (v:V) (frs:List Fr) (m:List Tb):eval (n+1) (xLit v) frs m=(v,0):=by
 have e:∀ (f:X→V × Int) (op:List V→V × Int) (agg:V × Int),valF f op agg (xLit v) frs m=(v,0):=fun f op agg=>by kernel_rfl
 exact e _ _ _
theorem zr5 (l:List Rw):zbc (idxF (fun c=>c.key) zbP.cols 0) l=[]:=by
 have e:idxF (fun c=>c.key) zbP.cols 0=-1:=by kernel_rfl
 rw [e]
 unfold zbc
 induction l with
 | nil=>rfl
 | cons x r ih=>rw [List.filterMap_cons,show zcI (-1) x=none from rfl];exact ih
structure LogIn (t:Tb) (r:List Tb):Prop where
 sch:t.sch=zbP
 tab:∀ x∈t::r,TabV x
 to:TbOk (t::r)
 tg:TbG (t::r)
 ml:(t::r).length≤1000
end Go.AM
namespace Go.AM
set_option maxRecDepth 100000
set_option maxHeartbeats 1000000
set_option linter.unusedSimpArgs false
set_option linter.unusedVariables false
abbrev evV (frs:List Fr) (m:List Tb) (l:List X):List V:=l.map fun x=>(eval 3 x frs m).1
theorem zhA (t:Tb) (r:List Tb) (frs:List Fr) (ts tr:List Tg) (rows:List (List X)) (g:List V→List V) (h:LogIn t r) (hfo:FsOk 4 frs) (hfg:FsG frs) (hb:actB (vX 3) (zal sLog rows)=true) (hne:rows≠[]) (hpl:rows.length≤8) (hx:∀ l∈rows,l.length=2∧∀ x∈l,XOk 3 x∧(eval 3 x frs (t::r)).2=0)
  (hF:zaa E0 S.before_Applicable [.sl (ts.map Tg.cells),sv sLog,iv 1,.sl [],bv false] [] (.sl []) []) (hT:zaa E0 S.before_Applicable [.sl (ts.map Tg.cells),sv sLog,iv 1,.sl [],bv true] [] (.sl (tr.map Tg.cells)) [])
  (hR:∀ l∈rows,zaa E0 S.before_Row [.sl (tr.map Tg.cells),.sl [],zbP.av,.sl [],vsl (evV frs (t::r) l),tsl (t::r),.sl []] [] (.tup [vsl (g (evV frs (t::r) l)),.sl [],.sl [],iv 0]) [])
  (hG:∀ l∈rows,zck zbP.cols (g (evV frs (t::r) l))) (hlen:t.rows.length+rows.length≤100) (hn:t.next≤4000) :
  zaa E0 S.statement_Run [tsl (t::r),.sl (ts.map Tg.cells),.sl [],(zal sLog rows).av,fsl frs,.sl [],.sl []] [] (.tup [tsl (insT t (rows.map fun l=>g (evV frs (t::r) l))::r),.sl [],.sl [],iv (rows.length:Nat),iv 0]) []:=by
 obtain ⟨hf1,hf2⟩:=zs8 (t:=t) (m:=r) h.sch
 have hfd:zaa E0 S.store_Find [tsl (t::r),sv sLog] [] (iv (((0:Nat)):Int)) []:=by
  have h1:=znN (t::r) sLog h.to.len
  rw [hf2] at h1;exact h1
 have hD:DmlIn 3 (zal sLog rows) frs (t::r):=by
  refine ⟨⟨by simp;omega,fun l hl=>?_,by simp,fun q hq=>by simp at hq,by simp,fun s hs=>by simp at hs,by simp,fun x hx=>by simp at hx⟩,by simp,hfo,hfg,h.to,h.tg,fun x hx r hr=>(h.tab x hx).vals r hr⟩
  exact ⟨by have:=(hx l hl).1;simp only [Few];omega,fun x hm=>((hx l hl).2 x hm).1⟩
 have htg:=hD.target
 have htt:tgt (zal sLog rows) (actB (vX 3) (zal sLog rows)) (t::r)=(zbP,0):=by
  unfold tgt
  rw [hb,zfx]
  have e1:zcw (t::r) (zal sLog rows).table=some t:=hf1
  rw [e1]
  simp only [h.sch];rfl
 rw [htt] at htg
 obtain ⟨out,hout,hC⟩:=zhj sLog rows zbP frs (t::r) (fun x=>eval 3 x frs (t::r)) htg (by decide) (by simp only [zac];omega)
  (fun l hl=>⟨by have:=(hx l hl).1;simp only [zac];omega,fun x hm=>zfT 3 x frs (t::r) ((hx l hl).2 x hm).1 hfo.less hfg h.to h.tg⟩)
  (fun l hl x hm=>by simp [((hx l hl).2 x hm).2])
  (fun l hl=>by rw [zfk,(hx l hl).1];rfl)
 have e:out=rows.map (evV frs (t::r)):=by
  rw [hout,List.take_length]
 subst e
 have hgl:∀ l∈rows.map (evV frs (t::r)),∃ p∈rows,evV frs (t::r) p=l:=fun l hl=>List.mem_map.1 hl
 have hlast:=zhP (t::r) frs sLog rows ts (tr.map Tg.cells) t (insT t ((rows.map (evV frs (t::r))).map g)) 0 (rows.map (evV frs (t::r))) g h.ml rfl (by simp) hfd (by decide) (by rw [h.sch];exact hC)
  (fun x hx=>⟨(h.tab x hx).sch.short,(h.tab x hx).shr,(h.tab x hx).vals⟩) hF hT (by cases rows with|nil=>exact absurd rfl hne|cons a b=>simp only [List.length_map,List.length_cons];rw [beq_eq_false_iff_ne];omega)
  (h.tab t (by simp)).shr (by simp only [zac,List.length_map];omega) (by simpa using hne)
  (fun l hl=>by obtain ⟨p,hp1,rfl⟩:=hgl l hl;rw [h.sch];exact hR p hp1)
  (zkj t _ (h.tab t (by simp)) (fun l hl=>by
   obtain ⟨l2,hl2,rfl⟩:=List.mem_map.1 hl
   obtain ⟨p,hp1,rfl⟩:=hgl l2 hl2
   rw [h.sch];exact hG p hp1) (by simp only [List.length_map];omega) (by simp only [List.length_map];omega) (by rw [h.sch,zr5];exact List.nodup_nil))
 rw [List.length_map,List.map_map,List.set_cons_zero] at hlast
 exact hlast
end Go.AM
namespace Go.AM
set_option maxRecDepth 100000
set_option maxHeartbeats 1000000
set_option linter.unusedSimpArgs false
set_option linter.unusedVariables false
def tbK:Tb:=⟨zbP,1,[]⟩
theorem zpG:zbP∈zao:=by simp [zao,zbP]
theorem tbK_v:TabV tbK:=⟨zmd zpG,by decide,RowsV.nil (by decide),by decide,zoG zpG⟩
theorem zrP {v:V} (hg:v.Good) (hk:v.kind=0∨v.kind=1):zck zbP.cols [v,vNul]:=by
 refine ⟨rfl,fun k c w h1 h2=>?_⟩
 match k,h1,h2 with
 | 0,h1,h2=>cases h1;cases h2;exact ⟨hg,hk,fun h=>by cases h⟩
 | 1,h1,h2=>cases h1;cases h2;exact ⟨zaD,.inl rfl,fun h=>by cases h⟩
 | k+2,h1,h2=>simp at h2
structure SeesIn (m:List Tb):Prop where
 ex:∃ t r,m=t::r∧LogIn t r∧t.rows.length≤5∧t.next≤3000
def hdT (m:List Tb):Tb:=m.headD zsj
abbrev newR (m:List Tb) (rows:List (List X)):List (List V):=List.replicate rows.length [vCnt (hdT m).rows.length,vNul]
structure SeesRows (rows:List (List X)):Prop where
 rep:rows=List.replicate rows.length [xLit vNul,xLit vNul]
 lo:1≤rows.length
 hi:rows.length≤5
structure SeesOut (m:List Tb) (rows:List (List X)) (m2:List Tb):Prop where
 len:m2.length=m.length
 at_:m2[0]?=some (insT (hdT m) (newR m rows))
theorem SeesIn.short {m:List Tb} (h:SeesIn m):zac m:=by
 obtain ⟨t,r,rfl,h1,_⟩:=h.ex;exact h1.to.len
theorem SeesIn.ml {m:List Tb} (h:SeesIn m):m.length≤1000:=by
 obtain ⟨t,r,rfl,h1,_⟩:=h.ex;exact h1.ml
theorem SeesIn.rl {m:List Tb} (h:SeesIn m):(hdT m).rows.length≤5:=by
 obtain ⟨t,r,rfl,_,h2,_⟩:=h.ex;exact h2
theorem zom (m:List Tb) (h:0 < m.length):ElAt (m.map Tb.cells) (0:Int) (hdT m).cells 4:=by
 cases m with
 | nil=>simp at h
 | cons t r=>exact ⟨by simp,rfl,rfl⟩
theorem SeesIn.pos {m:List Tb} (h:SeesIn m):0 < m.length:=by
 obtain ⟨t,r,rfl,_⟩:=h.ex;simp
theorem SeesOut.hd {m m2:List Tb} {rows:List (List X)} (h:SeesOut m rows m2):hdT m2=insT (hdT m) (newR m rows):=by
 have h1:=h.at_
 cases m2 with
 | nil=>simp at h1
 | cons a r=>simp only [List.getElem?_cons_zero,Option.some.injEq] at h1;exact h1
theorem SeesOut.pos {m m2:List Tb} {rows:List (List X)} (h:SeesOut m rows m2):0 < m2.length:=by
 have h1:=h.at_
 cases m2 with
 | nil=>simp at h1
 | cons a r=>simp
theorem znX:∀ {l:List (List V)} {nx:Int} {r:Rw},r∈insN nx l→r.vals∈l
 | [],_,_,h=>by simp [insN] at h
 | v::l,nx,r,h=>by
  simp only [insN,List.mem_cons] at h
  rcases h with rfl|h
  ·simp
  ·exact List.mem_cons_of_mem _ (znX h)
end Go.AM
namespace Go.AM
set_option maxRecDepth 100000
set_option maxHeartbeats 1000000
set_option linter.unusedSimpArgs false
set_option linter.unusedVariables false
abbrev sUu:Str:=⟨#[117]⟩
abbrev sId2:Str:=⟨#[105,100]⟩
abbrev zgM:Str:=⟨#[78,69,87]⟩
abbrev zb9:Sch:=zh2 sUu
def zcs:List (List X):=[[xCol zgM sId2,xLit vNul]]
abbrev zaX (wh:List X):Tg:=⟨⟨#[97]⟩,sUu,false,1,[],true,[],[],[],wh,[zal sLog zcs]⟩
abbrev zbJ (row:List V):List Fr:=[Fr.mk zgM true zb9.cols row]
theorem zjH (wh:List X) (old row:List V):zaL (zaX wh) zb9 old row=zbJ row:=by show _=_;kernel_rfl
theorem zjv:zb9∈zao:=by
 have h:zb9=zao.getD 2 ⟨⟨#[]⟩,[]⟩:=by kernel_rfl
 rw [h];simp [zao]
theorem zl4 {row:List V} (h:zck zb9.cols row):∃ a b c:V,row=[a,b,c]∧a.kind=1∧a.Good∧b.Good∧c.Good:=by
 have hl:row.length=3:=h.len.trans kr
 match row,hl with
 | [a,b,c],_ =>
  have h0:=h.at_ 0 ⟨⟨#[105,100]⟩,1,true,true⟩ a kr rfl
  have h1:=h.at_ 1 ⟨⟨#[110]⟩,1,true,false⟩ b kr rfl
  have h2:=h.at_ 2 ⟨⟨#[109]⟩,1,false,false⟩ c kr rfl
  exact ⟨a,b,c,rfl,h0.nn rfl,h0.good,h1.good,h2.good⟩
theorem zmJ (a b c:V) (m:List Tb):eval 3 (xCol zgM sId2) (zbJ [a,b,c]) m=(a,0):=by
 have e:∀ (f:X→V × Int) (op:List V→V × Int) (agg:V × Int),valF f op agg (xCol zgM sId2) (zbJ [a,b,c]) m=(a,0):=fun f op agg=>by show _=_;kernel_rfl
 exact e _ _ _
theorem zn7 {n:Nat}:XOk (n+1) (xCol zgM sId2):=ztH ⟨_,_,rfl⟩
theorem zr3 (wh:List X) (hw:Few wh∧∀ x∈wh,XOk 7 x):TgOk 7 (zaX wh):=by
 refine ⟨by simp [zaX],by simp [zaX],by simp [zaX],by simp [zaX],by simpa [zaX] using hw.1,hw.2,by simp [zaX],?_⟩
 simp only [zaX,List.mem_singleton,forall_eq]
 refine ⟨by simp [zcs],?_,by simp,by simp,by simp,by simp,by simp,by simp⟩
 intro r hr
 simp only [zcs,List.mem_singleton] at hr
 subst hr
 refine ⟨by simp,fun x hx=>?_⟩
 simp only [List.mem_cons,List.not_mem_nil,or_false] at hx
 rcases hx with rfl|rfl
 ·exact zn7
 ·exact zj4 zaD
theorem zmt (wh:List X) (hw:Few wh∧∀ x∈wh,XOk 7 x) (b:Bool):zaa E0 S.before_Applicable [.sl ([zaX wh].map Tg.cells),sv sLog,iv 1,.sl [],bv b] [] (.sl []) []:=by
 have h:=ziQ 7 [zaX wh] sLog 1 [] b (by simp) (by decide) (fun t ht=>by simp only [List.mem_singleton] at ht;exact ht ▸ (zr3 wh hw).sh)
 have e:[zaX wh].filter (appl sLog 1 [] b)=[]:=by show _=_;cases b <;> kernel_rfl
 rw [e] at h
 exact h
def zfu (m:List Tb) (row:List V):List Tb:=m.set 0 (insT (hdT m) [[row.headD vNul,vNul]])
theorem zoF:Few zb9.cols:=by
 have e:zb9.cols.length=3:=by kernel_rfl
 simp only [Few];omega
theorem zmE {a b c:V} (ha:a.Good) (hb:b.Good) (hc:c.Good) (n:Nat) (hn:n≤900000):FsOk n (zbJ [a,b,c])∧FsG (zbJ [a,b,c]):=by
 have hw:NwOk [a,b,c]:=⟨by simp,fun v hv=>by
  simp only [List.mem_cons,List.not_mem_nil,or_false] at hv
  rcases hv with rfl|rfl|rfl <;> assumption⟩
 have h:=zhR (t:=zaX []) (s:=zb9) (a:=[]) (b:=[a,b,c]) zoF zrU hw n hn
 rw [zjH] at h
 exact h
structure RowU (row:List V):Prop where
 ok:zck zb9.cols row
theorem zhk (m:List Tb) (row:List V) (wh:List X) (h:SeesIn m) (hr:RowU row) (hw:Few wh∧∀ x∈wh,XOk 7 x):zaa E0 S.statement_Run [tsl m,.sl ([zaX wh].map Tg.cells),.sl [],(zal sLog zcs).av,fsl (zbJ row),.sl [],.sl []] [] (.tup [tsl (zfu m row),.sl [],.sl [],iv 1,iv 0]) []:=by
 obtain ⟨t,r,rfl,h1,h2,h3⟩:=h.ex
 obtain ⟨a,b,c,rfl,hk,ha,hb,hc⟩:=zl4 hr.ok
 obtain ⟨hf,hg⟩:=zmE ha hb hc 4 (by decide)
 have ev:evV (zbJ [a,b,c]) (t::r) [xCol zgM sId2,xLit vNul]=[a,vNul]:=by
  simp only [evV,List.map_cons,List.map_nil,zmJ,zit]
 have hm:∀ l∈zcs,l=[xCol zgM sId2,xLit vNul]:=fun l hl=>by simpa [zcs] using hl
 have h:=zhA t r (zbJ [a,b,c]) [zaX wh] [] zcs id h1 hf hg kr (by simp [zcs]) (by simp [zcs])
  (fun l hl=>by
   rw [hm l hl]
   refine ⟨rfl,fun x hx=>?_⟩
   simp only [List.mem_cons,List.not_mem_nil,or_false] at hx
   rcases hx with rfl|rfl
   ·exact ⟨zn7,by rw [zmJ]⟩
   ·exact ⟨zj4 zaD,by rw [zit]⟩)
  (zmt wh hw false) (zmt wh hw true)
  (fun l hl=>by
   rw [hm l hl,ev]
   exact zo2 _ _ h1.to h1.tg ⟨by simp,fun v hv=>by
    simp only [List.mem_cons,List.not_mem_nil,or_false] at hv
    rcases hv with rfl|rfl
    ·exact ha
    ·exact zaD⟩)
  (fun l hl=>by rw [hm l hl,ev];exact zrP ha (.inr hk)) (by simp only [zcs,List.length_cons,List.length_nil];omega) (by omega)
 have e:zcs.map (fun l=>id (evV (zbJ [a,b,c]) (t::r) l))=[[a,vNul]]:=by
  show [evV (zbJ [a,b,c]) (t::r) [xCol zgM sId2,xLit vNul]]=_
  rw [ev]
 rw [e] at h
 exact h
end Go.AM
namespace Go.AM
set_option maxRecDepth 100000
set_option maxHeartbeats 1000000
set_option linter.unusedSimpArgs false
set_option linter.unusedVariables false
theorem zcv {p:Prop} (h:p:=by first|assumption|omega|(simp;done)|(simp;omega)):p:=h
theorem zhM {p:Prop} (h:p:=by (simp only [zaL,cond_true,cond_false, *] <;> rfl)):p:=h
theorem znd {p:Prop} (h:p:=by first|assumption|exact zjK (by assumption)):p:=h
structure Dl where
 table:Str
 ins:List Rw
 del:List Rw
 upd:List Pr
def Dl.cells (d:Dl):List AV:=[sv d.table,.sl (d.ins.map Rw.cells),.sl (d.del.map Rw.cells),.sl (d.upd.map Pr.cells)]
abbrev Dl.av (d:Dl):AV:=.agg d.cells
structure Itm where
 name:Str
 row:Int
 old:List V
 nw:List V
def Itm.cells (i:Itm):List AV:=[sv i.name,iv i.row,vsl i.old,vsl i.nw]
abbrev Itm.av (i:Itm):AV:=.agg i.cells
abbrev tgN (t:Tg) (n:Str):Bool:=t.name.toList==n.toList
abbrev dlC (t:Dl) (n:Str):Bool:=t.table.toList==n.toList
theorem c_fiC1 (t:Tg) (n:Itm) :∃ (r:Bool),r=tgN t n.name∧zaa E0 S.fire_Item_c1 [t.av,.p 0 0] [.box n.cells] (bv r) [.box n.cells]:=by
 exact ⟨ByteArray.toList t.name==ByteArray.toList n.name,(by rfl),wk At.fire_Item_c1 [] kr⟩
theorem zho (t:Tg) (n:Itm):zaa E0 S.fire_Item_c1 [t.av,.p 0 0] [.box n.cells] (bv (tgN t n.name)) [.box n.cells]:=by
 obtain ⟨r,rfl,h⟩:=c_fiC1 t n
 exact h
noncomputable def zqa (l:List Tg) (n:Itm) (i:Nat) :Cfg:=zan B.slices_IndexFunc_Trigger 0 [(0,.sl (l.map Tg.cells)),(1,.fn S.fire_Item_c1 [.p 0 0]),(7,iv ((l.map Tg.cells).length:Nat)),(8,iv (i:Nat))] [.box n.cells]
theorem zdm (l:List Tg) (n:Itm) (hl:zac l) (i:Nat)  (hi:i≤(l).length) (hI:idxF (fun t=>tgN t n.name) l 0=idxF (fun t=>tgN t n.name) (l.drop i) i):((idxF (fun t=>tgN t n.name) l 0=idxF (fun t=>tgN t n.name) (l.drop (l).length) (l).length)∧(decide ((((l).length:Nat):Int) < (((l.map Tg.cells).length:Nat):Int))=false)∧∀ R,Good E0 B.slices_IndexFunc_Trigger [.box n.cells] (zqa l n (l).length ) R→Good E0 B.slices_IndexFunc_Trigger [.box n.cells] (zqa l n i ) R)∨(∃ (r:Int),r=idxF (fun t=>tgN t n.name) l 0∧Good E0 B.slices_IndexFunc_Trigger [.box n.cells] (zqa l n i ) (Shut 1 fun rZ hZ=>rZ=(iv r)∧hZ=[.box n.cells])):=by
 obtain ⟨kk,hk⟩:∃ kk,i+kk=(l).length:=⟨(l).length - i,by omega⟩
 induction kk generalizing i  with
 | zero =>
  have e0:i=(l).length:=by omega
  subst e0
  exact .inl ⟨hI,by simp,fun R hg=>hg⟩
 | succ kk ih =>
  obtain ⟨x,hx⟩:=zay (l:=l) (i:=i) (by omega)
  have h0:decide (((i:Nat):Int) < (((l.map Tg.cells).length:Nat):Int))=true:=by simp;omega
  have hw:IntKind.i64.wrap (((i:Nat):Int)+1)=((i+1:Nat):Int):=zaj i (by first|omega|(simp only [zac,Few] at *;omega))
  let p_1:List St:=[sb h0,se (zaf Tg.cells hx rfl),sl [0] (zho x n)]
  cases h1:tgN x n.name
  ·exact (ih (i+1) (by omega) (by exact zjS hI hx (by assumption)) (by omega)).elim (fun ⟨qZ,xZ,gZ⟩=>.inl ⟨qZ,xZ,fun R hg=>zab (wkl (p_1++[sb h1,si hw]) [0,1,7,8] 1 kr (gZ R hg))⟩) (fun ⟨rY,pZ,gZ⟩=>.inr ⟨rY,pZ,zab (wkl [sb h0,se (zaf Tg.cells hx rfl),sl [0] (zho x n),sb h1,si hw] [0,1,7,8] 1 kr gZ)⟩)
  ·exact .inr ⟨(i:Int),(by exact zlT hI hx (by assumption)),zab (wkr (p_1++[sb h1]) kr)⟩
theorem c_ixG (l:List Tg) (n:Itm) (hl:zac l):∃ (r:Int),r=idxF (fun t=>tgN t n.name) l 0∧zaa E0 S.slices_IndexFunc_Trigger [.sl (l.map Tg.cells),.fn S.fire_Item_c1 [.p 0 0]] [.box n.cells] (iv r) [.box n.cells]:=by
 rcases zdm l n (by first|assumption|rfl|omega) 0 (by first|assumption|rfl|omega) (by first|assumption|rfl|omega) with ⟨q1,q1_1,g1⟩|⟨r1_0,p1_0,g1⟩
 ·exact ⟨-1,znd,wkc At.slices_IndexFunc_Trigger [] [0,1,7,8] 1 kr (g1 _ (zab (wkr [sb q1_1] kr)))⟩
 ·exact ⟨r1_0,znd,wkc At.slices_IndexFunc_Trigger [] [0,1,7,8] 1 kr (g1)⟩
theorem zfp (l:List Tg) (n:Itm) (hl:zac l):zaa E0 S.slices_IndexFunc_Trigger [.sl (l.map Tg.cells),.fn S.fire_Item_c1 [.p 0 0]] [.box n.cells] (iv (idxF (fun t=>tgN t n.name) l 0)) [.box n.cells]:=by
 obtain ⟨r,rfl,h⟩:=c_ixG l n hl
 exact h
theorem c_efC1 (t:Dl) (n:Str) :∃ (r:Bool),r=dlC t n∧zaa E0 S.event_Find_c1 [t.av,.p 0 0] [.box [sv n]] (bv r) [.box [sv n]]:=by
 exact ⟨ByteArray.toList t.table==ByteArray.toList n,(by rfl),wk At.event_Find_c1 [] kr⟩
theorem zgD (t:Dl) (n:Str):zaa E0 S.event_Find_c1 [t.av,.p 0 0] [.box [sv n]] (bv (dlC t n)) [.box [sv n]]:=by
 obtain ⟨r,rfl,h⟩:=c_efC1 t n
 exact h
noncomputable def zq0 (l:List Dl) (n:Str) (i:Nat) :Cfg:=zan B.slices_IndexFunc_Delta 0 [(0,.sl (l.map Dl.cells)),(1,.fn S.event_Find_c1 [.p 0 0]),(7,iv ((l.map Dl.cells).length:Nat)),(8,iv (i:Nat))] [.box [sv n]]
theorem zdA (l:List Dl) (n:Str) (hl:zac l) (i:Nat)  (hi:i≤(l).length) (hI:idxF (fun t=>dlC t n) l 0=idxF (fun t=>dlC t n) (l.drop i) i):((idxF (fun t=>dlC t n) l 0=idxF (fun t=>dlC t n) (l.drop (l).length) (l).length)∧(decide ((((l).length:Nat):Int) < (((l.map Dl.cells).length:Nat):Int))=false)∧∀ R,Good E0 B.slices_IndexFunc_Delta [.box [sv n]] (zq0 l n (l).length ) R→Good E0 B.slices_IndexFunc_Delta [.box [sv n]] (zq0 l n i ) R)∨(∃ (r:Int),r=idxF (fun t=>dlC t n) l 0∧Good E0 B.slices_IndexFunc_Delta [.box [sv n]] (zq0 l n i ) (Shut 1 fun rZ hZ=>rZ=(iv r)∧hZ=[.box [sv n]])):=by
 obtain ⟨kk,hk⟩:∃ kk,i+kk=(l).length:=⟨(l).length - i,by omega⟩
 induction kk generalizing i  with
 | zero =>
  have e0:i=(l).length:=by omega
  subst e0
  exact .inl ⟨hI,by simp,fun R hg=>hg⟩
 | succ kk ih =>
  obtain ⟨x,hx⟩:=zay (l:=l) (i:=i) (by omega)
  have h0:decide (((i:Nat):Int) < (((l.map Dl.cells).length:Nat):Int))=true:=by simp;omega
  have hw:IntKind.i64.wrap (((i:Nat):Int)+1)=((i+1:Nat):Int):=zaj i (by first|omega|(simp only [zac,Few] at *;omega))
  let p_1:List St:=[sb h0,se (zaf Dl.cells hx rfl),sl [0] (zgD x n)]
  cases h1:dlC x n
  ·exact (ih (i+1) (by omega) (by exact zjS hI hx (by assumption)) (by omega)).elim (fun ⟨qZ,xZ,gZ⟩=>.inl ⟨qZ,xZ,fun R hg=>zab (wkl (p_1++[sb h1,si hw]) [0,1,7,8] 1 kr (gZ R hg))⟩) (fun ⟨rY,pZ,gZ⟩=>.inr ⟨rY,pZ,zab (wkl [sb h0,se (zaf Dl.cells hx rfl),sl [0] (zgD x n),sb h1,si hw] [0,1,7,8] 1 kr gZ)⟩)
  ·exact .inr ⟨(i:Int),(by exact zlT hI hx (by assumption)),zab (wkr (p_1++[sb h1]) kr)⟩
theorem c_ixD (l:List Dl) (n:Str) (hl:zac l):∃ (r:Int),r=idxF (fun t=>dlC t n) l 0∧zaa E0 S.slices_IndexFunc_Delta [.sl (l.map Dl.cells),.fn S.event_Find_c1 [.p 0 0]] [.box [sv n]] (iv r) [.box [sv n]]:=by
 rcases zdA l n (by first|assumption|rfl|omega) 0 (by first|assumption|rfl|omega) (by first|assumption|rfl|omega) with ⟨q1,q1_1,g1⟩|⟨r1_0,p1_0,g1⟩
 ·exact ⟨-1,znd,wkc At.slices_IndexFunc_Delta [] [0,1,7,8] 1 kr (g1 _ (zab (wkr [sb q1_1] kr)))⟩
 ·exact ⟨r1_0,znd,wkc At.slices_IndexFunc_Delta [] [0,1,7,8] 1 kr (g1)⟩
theorem zgb (l:List Dl) (n:Str) (hl:zac l):zaa E0 S.slices_IndexFunc_Delta [.sl (l.map Dl.cells),.fn S.event_Find_c1 [.p 0 0]] [.box [sv n]] (iv (idxF (fun t=>dlC t n) l 0)) [.box [sv n]]:=by
 obtain ⟨r,rfl,h⟩:=c_ixD l n hl
 exact h
theorem ztI (l:List Dl) (n:Str) (k:Nat) (d:Dl) (hx:l[k]?=some d) (hkl:k < l.length) (hk:zaa E0 S.slices_IndexFunc_Delta [.sl (l.map Dl.cells),.fn S.event_Find_c1 [.p 0 0]] [.box [sv n]] (iv (k:Nat)) [.box [sv n]]) (hn:decide (((k:Nat):Int) < 0)=false):∃ (r:Dl) (b:Bool),(r=d∧b=true)∧zaa E0 S.event_Find [.sl (l.map Dl.cells),sv n] [] (.tup [r.av,bv b]) []:=by
 exact ⟨d,true,(by exact ⟨rfl,rfl⟩),wk At.event_Find [sl [0] hk,sb (rfl:false=false),se (zaf Dl.cells hx rfl)] kr⟩
theorem zp5 (t:Tg) (s:Sch) (a b:List V) (hs:zac s.cols) (ha:zac a) (hb:zac b):∃ (r:List Fr),r=zaL t s a b∧zaa E0 S.trigger_Frames [t.av,s.av,vsl a,vsl b] [] (fsl r) []:=by
 cases h1:!t.each
 ·cases h2:t.event==2
  ·cases h3:t.event==3
   ·cases h4:t.event==1
    ·exact ⟨[],zhM,wk At.trigger_Frames [sb h1,sg h2,sb h3,sg h4,sb h2] kr⟩
    ·exact ⟨[Fr.mk (ByteArray.mk #[78,69,87]) true s.cols b],zhM,(by (try simp only [X.av,Qy.av,V.av,Tb.av,Sch.av,Pl.av,xsl,fsl,vsl,tsl,List.map_append,List.map_cons,List.map_nil,V.cells,Col.cells,Rw.cells,Tb.cells,Fr.cells,Sch.cells,Pl.cells,zbe,zaZ,zbd,za1,zbf,X.cells,Qy.cells,X.args_mk,X.sub_mk,Qy.items_mk,Qy.wh_mk,xCol,xLit,xBin,xNeg,Ac.cells,Se.cells,Pr.cells,Ch.cells,Rw.cells,Dl.cells,Itm.cells]);exact wk At.trigger_Frames [sqx (1=1),sb h1,sg h2,sb h3,sb h4,sc (zar s.cols zcv),sc (zaz b zcv),sqx (True∧True∧s.cols.length=(List.map Col.cells s.cols).length∧b.length=(List.map V.cells b).length∧True),sqx (AllLen [[sv (ByteArray.mk #[78,69,87]),bv true,AV.sl (List.map Col.cells s.cols),AV.sl (List.map V.cells b)]] 4∧Nat.le 72 140737488355328)] kr)⟩
   ·cases h5:t.event==1
    ·exact ⟨[Fr.mk (ByteArray.mk #[79,76,68]) true s.cols a],zhM,(by (try simp only [X.av,Qy.av,V.av,Tb.av,Sch.av,Pl.av,xsl,fsl,vsl,tsl,List.map_append,List.map_cons,List.map_nil,V.cells,Col.cells,Rw.cells,Tb.cells,Fr.cells,Sch.cells,Pl.cells,zbe,zaZ,zbd,za1,zbf,X.cells,Qy.cells,X.args_mk,X.sub_mk,Qy.items_mk,Qy.wh_mk,xCol,xLit,xBin,xNeg,Ac.cells,Se.cells,Pr.cells,Ch.cells,Rw.cells,Dl.cells,Itm.cells]);exact wk At.trigger_Frames [sqx (1=1),sb h1,sg h2,sb h3,sc (zar s.cols zcv),sc (zaz a zcv),sqx (True∧True∧s.cols.length=(List.map Col.cells s.cols).length∧a.length=(List.map V.cells a).length∧True),sqx (AllLen [[sv (ByteArray.mk #[79,76,68]),bv true,AV.sl (List.map Col.cells s.cols),AV.sl (List.map V.cells a)]] 4∧Nat.le 72 140737488355328),sg h5,sb h2] kr)⟩
    ·exact ⟨[Fr.mk (ByteArray.mk #[79,76,68]) true s.cols a,Fr.mk (ByteArray.mk #[78,69,87]) true s.cols b],zhM,(by (try simp only [X.av,Qy.av,V.av,Tb.av,Sch.av,Pl.av,xsl,fsl,vsl,tsl,List.map_append,List.map_cons,List.map_nil,V.cells,Col.cells,Rw.cells,Tb.cells,Fr.cells,Sch.cells,Pl.cells,zbe,zaZ,zbd,za1,zbf,X.cells,Qy.cells,X.args_mk,X.sub_mk,Qy.items_mk,Qy.wh_mk,xCol,xLit,xBin,xNeg,Ac.cells,Se.cells,Pr.cells,Ch.cells,Rw.cells,Dl.cells,Itm.cells]);exact wk At.trigger_Frames [sqx (2=2),sb h1,sg h2,sb h3,sc (zar s.cols zcv),sc (zaz a zcv),sqx (True∧True∧s.cols.length=(List.map Col.cells s.cols).length∧a.length=(List.map V.cells a).length∧True),sqx (AllLen [[sv (ByteArray.mk #[79,76,68]),bv true,AV.sl (List.map Col.cells s.cols),AV.sl (List.map V.cells a)]] 4∧Nat.le 72 140737488355328),sb h5,sc (zar s.cols zcv),sc (zaz b zcv),sqx (True∧True∧s.cols.length=(List.map Col.cells s.cols).length∧b.length=(List.map V.cells b).length∧True),sqx (AllLen [[sv (ByteArray.mk #[78,69,87]),bv true,AV.sl (List.map Col.cells s.cols),AV.sl (List.map V.cells b)]] 4∧1=1∧Nat.le 144 140737488355328)] kr)⟩
  ·let p_1:List St:=[sqx (2=2),sb h1,sb h2,sc (zar s.cols zcv),sc (zaz a zcv),sqx (True∧True∧s.cols.length=(List.map Col.cells s.cols).length∧a.length=(List.map V.cells a).length∧True),sqx (AllLen [[sv (ByteArray.mk #[79,76,68]),bv true,AV.sl (List.map Col.cells s.cols),AV.sl (List.map V.cells a)]] 4∧Nat.le 72 140737488355328)]
   cases h6:t.event==1
   ·exact ⟨[Fr.mk (ByteArray.mk #[79,76,68]) true s.cols a,Fr.mk (ByteArray.mk #[78,69,87]) true s.cols b],zhM,(by (try simp only [X.av,Qy.av,V.av,Tb.av,Sch.av,Pl.av,xsl,fsl,vsl,tsl,List.map_append,List.map_cons,List.map_nil,V.cells,Col.cells,Rw.cells,Tb.cells,Fr.cells,Sch.cells,Pl.cells,zbe,zaZ,zbd,za1,zbf,X.cells,Qy.cells,X.args_mk,X.sub_mk,Qy.items_mk,Qy.wh_mk,xCol,xLit,xBin,xNeg,Ac.cells,Se.cells,Pr.cells,Ch.cells,Rw.cells,Dl.cells,Itm.cells]);exact wk At.trigger_Frames (p_1++[sg h6,sb h2,sc (zar s.cols zcv),sc (zaz b zcv),sqx (True∧True∧s.cols.length=(List.map Col.cells s.cols).length∧b.length=(List.map V.cells b).length∧True),sqx (AllLen [[sv (ByteArray.mk #[78,69,87]),bv true,AV.sl (List.map Col.cells s.cols),AV.sl (List.map V.cells b)]] 4∧1=1∧Nat.le 144 140737488355328)]) kr)⟩
   ·exact ⟨[Fr.mk (ByteArray.mk #[79,76,68]) true s.cols a,Fr.mk (ByteArray.mk #[78,69,87]) true s.cols b],zhM,(by (try simp only [X.av,Qy.av,V.av,Tb.av,Sch.av,Pl.av,xsl,fsl,vsl,tsl,List.map_append,List.map_cons,List.map_nil,V.cells,Col.cells,Rw.cells,Tb.cells,Fr.cells,Sch.cells,Pl.cells,zbe,zaZ,zbd,za1,zbf,X.cells,Qy.cells,X.args_mk,X.sub_mk,Qy.items_mk,Qy.wh_mk,xCol,xLit,xBin,xNeg,Ac.cells,Se.cells,Pr.cells,Ch.cells,Rw.cells,Dl.cells,Itm.cells]);exact wk At.trigger_Frames (p_1++[sb h6,sc (zar s.cols zcv),sc (zaz b zcv),sqx (True∧True∧s.cols.length=(List.map Col.cells s.cols).length∧b.length=(List.map V.cells b).length∧True),sqx (AllLen [[sv (ByteArray.mk #[78,69,87]),bv true,AV.sl (List.map Col.cells s.cols),AV.sl (List.map V.cells b)]] 4∧1=1∧Nat.le 144 140737488355328)]) kr)⟩
 ·exact ⟨[],zhM,wk At.trigger_Frames [sb h1] kr⟩
theorem zpr (l:List Rw) (hl:zac l) (hf:∀ x∈l,zaa E0 S.deep_Row [.agg x.cells] [] (.agg x.cells) []):∃ (r:List Rw),r=l∧zaa E0 S.deep_Rows [.sl (l.map Rw.cells)] [] (.sl (r.map Rw.cells)) []:=by
 exact ⟨l,(by rfl),wk At.deep_Rows [sc (zeD l zcv zcv)] kr⟩
theorem zpx (l:List Rw) (hl:zac l) (hf:∀ x∈l,zaa E0 S.deep_Row [.agg x.cells] [] (.agg x.cells) []):zaa E0 S.deep_Rows [.sl (l.map Rw.cells)] [] (.sl (l.map Rw.cells)) []:=by
 obtain ⟨r,rfl,h⟩:=zpr l hl hf
 exact h
theorem zr2 (t:Tg) (s:Sch) (d:Dl) (he:(t.event==1)=true) (hl:zac d.ins) (hf:∀ x∈d.ins,zaa E0 S.deep_Row [.agg x.cells] [] (.agg x.cells) []):∃ (r:Dl),r=⟨d.table,d.ins,[],[]⟩∧zaa E0 S.trigger_Matching [t.av,s.av,d.av] [] r.av []:=by
 exact ⟨Dl.mk d.table d.ins [] [],(by rfl),wk At.trigger_Matching [sb he,sc (zpx d.ins zcv zcv)] kr⟩
theorem zrq (t:Tg) (s:Sch) (d:Dl) (he:t.each=true):∃ (r:List Tb),r=[]∧zaa E0 S.trigger_Transitions [t.av,s.av,d.av] [] (tsl r) []:=by
 cases h1:t.before
 ·exact ⟨[],(by rfl),wk At.trigger_Transitions [sg h1,sb he] kr⟩
 ·exact ⟨[],(by rfl),wk At.trigger_Transitions [sb h1] kr⟩
end Go.AM
namespace Go.AM
set_option maxRecDepth 100000
set_option maxHeartbeats 1000000
set_option linter.unusedSimpArgs false
set_option linter.unusedVariables false
theorem zeT {p:Prop} (h:p:=by first|assumption|rfl|omega|simp [Room]):p:=h
theorem zqj {p:Prop} (h:p:=by first|trivial|assumption|(simp;done)|omega|(simp;omega)|(simp at *;omega)):p:=h
structure FiStep (ts:List Tg) (frs:List Fr) (ex:List Tb) (m m2:List Tb) (a:Ac):Prop where
 kind:a.kind=1∨a.kind=2∨a.kind=3
 run:∃ n:Int,zaa E0 S.statement_Run [tsl m,.sl (ts.map Tg.cells),.sl [],.agg a.cells,fsl frs,tsl ex,.sl []] [] (.tup [tsl m2,.sl [],.sl [],iv n,iv 0]) []
noncomputable def L_fiL (ts:List Tg) (n:Itm) (t:Tg) (s:Sch) (d:Dl) (frs:List Fr) (ex m0:List Tb) (ms:Nat→List Tb) (i:Nat) :Cfg:=zan B.fire_Item 0 [(1,.sl (ts.map Tg.cells)),(2,.sl []),(5,.sl []),(22,fsl frs),(23,tsl ex),(26,tsl (ms i)),(27,.own 6 0),(101,.sl (t.acts.map Ac.cells)),(102,iv ((t.acts.map Ac.cells).length:Nat)),(103,iv (i:Nat))] [.box n.cells,.box t.cells,.box s.cells,.box d.cells,.row Ty.Table (m0.map Tb.cells) true,.row Ty.int [] true,.row Ty.int [] false]
theorem zhs (ts:List Tg) (n:Itm) (t:Tg) (s:Sch) (d:Dl) (frs:List Fr) (ex m0:List Tb) (ms:Nat→List Tb) (hacts:zac t.acts) (hR:∀ (i:Nat) (a:Ac),t.acts[i]?=some a→FiStep ts frs ex (ms i) (ms (i+1)) a) (i:Nat)  (hi:i≤(t.acts).length) (hI:True):(True)∧(decide ((((t.acts).length:Nat):Int) < (((t.acts.map Ac.cells).length:Nat):Int))=false)∧∀ R,Good E0 B.fire_Item [] (L_fiL ts n t s d frs ex m0 ms (t.acts).length ) R→Good E0 B.fire_Item [] (L_fiL ts n t s d frs ex m0 ms i ) R:=by
 obtain ⟨kk,hk⟩:∃ kk,i+kk=(t.acts).length:=⟨(t.acts).length - i,by omega⟩
 induction kk generalizing i  hI with
 | zero =>
  have e0:i=(t.acts).length:=by omega
  subst e0
  exact ⟨hI,by simp,fun R hg=>hg⟩
 | succ kk ih =>
  obtain ⟨x,hx⟩:=zay (l:=t.acts) (i:=i) (by omega)
  have h0:decide (((i:Nat):Int) < (((t.acts.map Ac.cells).length:Nat):Int))=true:=by simp;omega
  have hw:IntKind.i64.wrap (((i:Nat):Int)+1)=((i+1:Nat):Int):=zaj i (by first|omega|(simp only [zac,Few] at *;omega))
  obtain ⟨hk3,hrn,hru⟩:=hR i x hx;have h4:(x.kind==4)=false:=by rw [beq_eq_false_iff_ne];omega
  let p_1:List St:=[sb h0,se (zaf Ac.cells hx rfl),sb h4]
  cases h1:x.kind==1
  ·cases h2:x.kind==2
   ·cases h3:x.kind==3
    ·exact False.elim (by (simp at *;omega))
    ·obtain ⟨qZ,xZ,gZ⟩:=ih (i+1) (by omega) zqj (by omega);exact ⟨qZ,xZ,fun R hg=>zab (wkl (p_1++[sb h1,sb h2,sb h3,sc hru,sb (rfl:false=false),sqx (AllLen [] 1∧0=0∧Nat.le 0 140737488355328),si hw]) [1,2,5,22,23,26,27,101,102,103] 7 kr (gZ R hg))⟩
   ·obtain ⟨qZ,xZ,gZ⟩:=ih (i+1) (by omega) zqj (by omega);exact ⟨qZ,xZ,fun R hg=>zab (wkl (p_1++[sb h1,sb h2,sc hru,sb (rfl:false=false),sqx (AllLen [] 1∧0=0∧Nat.le 0 140737488355328),si hw]) [1,2,5,22,23,26,27,101,102,103] 7 kr (gZ R hg))⟩
  ·obtain ⟨qZ,xZ,gZ⟩:=ih (i+1) (by omega) zqj (by omega);exact ⟨qZ,xZ,fun R hg=>zab (wkl (p_1++[sb h1,sc hru,sb (rfl:false=false),sqx (AllLen [] 1∧0=0∧Nat.le 0 140737488355328),si hw]) [1,2,5,22,23,26,27,101,102,103] 7 kr (gZ R hg))⟩
structure FiIn (m:List Tb) (ts:List Tg) (ds:List Dl) (n:Itm) (t:Tg) (s:Sch) (d d2:Dl) (frs:List Fr) (ex:List Tb) (k:Nat) (b:Bool):Prop where
 at_:ts[k]?=some t∧k < ts.length
 ix:zaa E0 S.slices_IndexFunc_Trigger [.sl (ts.map Tg.cells),.fn S.fire_Item_c1 [.p 0 0]] [.box n.cells] (iv (k:Nat)) [.box n.cells]
 src:zaa E0 S.scope_Source [tsl m,sv t.table] [] (.tup [s.av,bv true]) []
 find:zaa E0 S.event_Find [.sl (ds.map Dl.cells),sv t.table] [] (.tup [d.av,bv true]) []
 frames:zaa E0 S.trigger_Frames [t.av,s.av,vsl n.old,vsl n.nw] [] (fsl frs) []
 mat:zaa E0 S.trigger_Matching [t.av,s.av,d.av] [] d2.av []
 tra:zaa E0 S.trigger_Transitions [t.av,s.av,d2.av] [] (tsl ex) []
 conc:zaa E0 S.slices_Concat_Table [.sl [[tsl m],[tsl ex]]] [] (tsl (m++ex)) []
 true_:zaa E0 S.evaluate_True [xsl t.when_,fsl frs,tsl (m++ex)] [] (.tup [bv b,iv 0]) []
 short:zac m∧∀ t∈m,zac t.sch.cols∧zac t.rows∧∀ r∈t.rows,zac r.vals
theorem zpn (ts:List Tg) (ds:List Dl) (n:Itm) (t:Tg) (s:Sch) (d d2:Dl) (frs:List Fr) (ex:List Tb) (k:Nat) (b:Bool) (ms:Nat→List Tb) (hms:zac (ms 0)) (hk:ts[k]?=some t) (hkl:k < ts.length) (hI:zaa E0 S.slices_IndexFunc_Trigger [.sl (ts.map Tg.cells),.fn S.fire_Item_c1 [.p 0 0]] [.box n.cells] (iv (k:Nat)) [.box n.cells]) (hn:decide (((k:Nat):Int) < 0)=false) (hS:zaa E0 S.scope_Source [tsl (ms 0),sv t.table] [] (.tup [s.av,bv true]) []) (hF:zaa E0 S.event_Find [.sl (ds.map Dl.cells),sv t.table] [] (.tup [d.av,bv true]) []) (hFr:zaa E0 S.trigger_Frames [t.av,s.av,vsl n.old,vsl n.nw] [] (fsl frs) []) (hM:zaa E0 S.trigger_Matching [t.av,s.av,d.av] [] d2.av []) (hX:zaa E0 S.trigger_Transitions [t.av,s.av,d2.av] [] (tsl ex) []) (hCo:zaa E0 S.slices_Concat_Table [.sl [[tsl (ms 0)],[tsl ex]]] [] (tsl (ms 0++ex)) []) (hT:zaa E0 S.evaluate_True [xsl t.when_,fsl frs,tsl (ms 0++ex)] [] (.tup [bv b,iv 0]) []) (hd:∀ t∈ms 0,zac t.sch.cols∧zac t.rows∧∀ r∈t.rows,zac r.vals) (hacts:zac t.acts) (hR:∀ (i:Nat) (a:Ac),t.acts[i]?=some a→FiStep ts frs ex (ms i) (ms (i+1)) a):∃ (r:List (List AV)) (e:Int),(r=(bif b then (ms t.acts.length).map Tb.cells else (ms 0).map Tb.cells)∧e=0)∧zaa E0 S.fire_Item [tsl (ms 0),.sl (ts.map Tg.cells),.sl [],.sl (ds.map Dl.cells),n.av,.sl []] [] (.tup [.sl r,.sl [],.sl [],iv e]) []:=by
 cases h1:!b
 ·obtain ⟨q2,q2_1,g2⟩:=zhs ts n t s d frs ex (ms 0) ms zeT zeT 0 zeT zeT
  exact ⟨List.map Tb.cells (ms t.acts.length),0,(by exact ⟨by (cases b <;> first|rfl|(cases h1)),rfl⟩),wkcN At.fire_Item [sl [0] hI,sb (rfl:false=false),se (zaf Tg.cells hk rfl),sc hS,sc hF,sg (rfl:false=false),sb (rfl:false=false),sc hFr,sd [(5,[sc hM]),(6,[sc hX])],sd [(6,[sc hCo]),(7,[sc hT])],sb (rfl:false=false),sc (zdc (ms 0) zeT zeT),sc (zbl ([]) zeT),sb h1,sqx (0=0),sqx ((ms 0).length=(List.map Tb.cells (ms 0)).length)] [1,2,5,22,23,26,27,101,102,103] 6 [(.fz 5,6),(.fz 26,6),(.ot 27 Ty.int,7)] kr (g2 _ (zab (wkr [sqx (True∧True∧0=0∧True∧True),sb q2_1] kr)))⟩
 ·exact ⟨List.map Tb.cells (ms 0),0,(by exact ⟨by (cases b <;> first|rfl|(cases h1)),rfl⟩),wk At.fire_Item [sqx ((ms 0).length=(List.map Tb.cells (ms 0)).length∧0=0∧True∧True∧True),sl [0] hI,sb (rfl:false=false),se (zaf Tg.cells hk rfl),sc hS,sc hF,sg (rfl:false=false),sb (rfl:false=false),sc hFr,sd [(5,[sc hM]),(6,[sc hX])],sd [(6,[sc hCo]),(7,[sc hT])],sb (rfl:false=false),sc (zdc (ms 0) zeT zeT),sc (zbl ([]) zeT),sb h1] kr⟩
theorem zpw {m:List Tb} {ts:List Tg} {ds:List Dl} {n:Itm} {t:Tg} {s:Sch} {d d2:Dl} {frs:List Fr} {ex:List Tb} {k:Nat} {b:Bool} (h:FiIn m ts ds n t s d d2 frs ex k b) (ms:Nat→List Tb) (h0:ms 0=m) (hacts:zac t.acts) (hR:∀ (i:Nat) (a:Ac),t.acts[i]?=some a→FiStep ts frs ex (ms i) (ms (i+1)) a) :
  zaa E0 S.fire_Item [tsl m,.sl (ts.map Tg.cells),.sl [],.sl (ds.map Dl.cells),n.av,.sl []] [] (.tup [tsl (bif b then ms t.acts.length else m),.sl [],.sl [],iv 0]) []:=by
 subst h0
 obtain ⟨r,e,⟨rfl,rfl⟩,h⟩:=zpn ts ds n t s d d2 frs ex k b ms h.short.1 h.at_.1 h.at_.2 h.ix (by simp) h.src h.find h.frames h.mat h.tra h.conc h.true_ h.short.2 hacts hR
 cases b <;> exact h
end Go.AM
namespace Go.AM
set_option maxRecDepth 100000
set_option maxHeartbeats 1000000
set_option linter.unusedSimpArgs false
set_option linter.unusedVariables false
theorem zee {p:Prop} (h:p:=by first|assumption|omega|(simp;done)|(simp;omega)):p:=h
theorem zqH {p:Prop} (h:p:=by first|trivial|assumption|(simp;done)|omega|(simp;omega)|(simp at *;omega)):p:=h
theorem zqG:StructEq E0.P Ty.Column [.str,.int .i64,.bool,.bool] :=
 zoy E0ok (fs:=E0.P.fieldsOf Ty.Column) kr kr kr kr
theorem zf3 (l:List V) (hl:zac l):zaa E0 S.slices_Equal_Value [vsl l,vsl l] [] (bv true) []:=by
 obtain ⟨r,rfl,h⟩:=zhT l hl
 exact h
noncomputable def L_eqC (l:List Col) (i:Nat) :Cfg:=zan B.slices_Equal_Column 0 [(0,.sl (l.map Col.cells)),(1,.sl (l.map Col.cells)),(12,iv ((l.map Col.cells).length:Nat)),(13,iv (i:Nat))] []
theorem zd6 (l:List Col) (hl:zac l) (i:Nat)  (hi:i≤(l).length) (hI:True):(True)∧(decide ((((l).length:Nat):Int) < (((l.map Col.cells).length:Nat):Int))=false)∧∀ R,Good E0 B.slices_Equal_Column [] (L_eqC l (l).length ) R→Good E0 B.slices_Equal_Column [] (L_eqC l i ) R:=by
 obtain ⟨kk,hk⟩:∃ kk,i+kk=(l).length:=⟨(l).length - i,by omega⟩
 induction kk generalizing i  hI with
 | zero =>
  have e0:i=(l).length:=by omega
  subst e0
  exact ⟨hI,by simp,fun R hg=>hg⟩
 | succ kk ih =>
  obtain ⟨x,hx⟩:=zay (l:=l) (i:=i) (by omega)
  have h0:decide (((i:Nat):Int) < (((l.map Col.cells).length:Nat):Int))=true:=by simp;omega
  have hw:IntKind.i64.wrap (((i:Nat):Int)+1)=((i+1:Nat):Int):=zaj i (by first|omega|(simp only [zac,Few] at *;omega))
  cases h1:!(x.name==x.name&&(x.type==x.type&&(x.notNull==x.notNull&&(x.key==x.key&&true))))
  ·obtain ⟨qZ,xZ,gZ⟩:=ih (i+1) (by omega) zqH (by omega);exact ⟨qZ,xZ,fun R hg=>zab (wkl [sb h0,sd [(2,[se (zaf Col.cells hx rfl)]),(6,[se (zaf Col.cells hx rfl)]),(8,[sq zqG])],sb h1,si hw] [0,1,12,13] 0 kr (gZ R hg))⟩
  ·exact False.elim (by simp at *)
theorem zhe (l:List Col) (hl:zac l) (hz:((((l.map Col.cells).length:Nat):Int) != (((l.map Col.cells).length:Nat):Int))=false):∃ (r:Bool),r=true∧zaa E0 S.slices_Equal_Column [.sl (l.map Col.cells),.sl (l.map Col.cells)] [] (bv r) []:=by
 obtain ⟨q1,q1_1,g1⟩:=zd6 l zee 0 zee zee
 exact ⟨true,(by rfl),wkc At.slices_Equal_Column [sb hz] [0,1,12,13] 0 kr (g1 _ (zab (wkr [sb q1_1] kr)))⟩
theorem zfL (l:List Col) (hl:zac l):zaa E0 S.slices_Equal_Column [.sl (l.map Col.cells),.sl (l.map Col.cells)] [] (bv true) []:=by
 obtain ⟨r,rfl,h⟩:=zhe l hl (by simp)
 exact h
theorem zrM (x:Rw) (hA0:(x.id==x.id)=true) (hs:zac x.vals):∃ (r:Bool),r=true∧zaa E0 S.world_SameRow [.agg x.cells,.agg x.cells] [] (bv r) []:=by
 exact ⟨true,(by rfl),wk At.world_SameRow [sg hA0,sc (zf3 x.vals (by first|assumption|rfl|omega))] kr⟩
theorem zlL (x:Rw) (hs:zac x.vals):zaa E0 S.world_SameRow [.agg x.cells,.agg x.cells] [] (bv true) []:=by
 obtain ⟨r,rfl,h⟩:=zrM x (by simp) hs
 exact h
noncomputable def L_smW (l:List Rw) (i:Nat) :Cfg:=zan B.slices_EqualFunc_Lapi_Row_Lapi_Row_api_Row_api_Row 0 [(1,.sl (l.map Rw.cells)),(2,.fn S.world_SameRow []),(15,.sl (l.map Rw.cells)),(16,iv ((l.map Rw.cells).length:Nat)),(17,iv (i:Nat))] []
theorem zbN (l:List Rw) (hl:zac l) (hf:∀ x∈l,zaa E0 S.world_SameRow [(.agg x.cells),(.agg x.cells)] [] (bv true) []) (i:Nat)  (hi:i≤(l).length) (hI:True):(True)∧(decide ((((l).length:Nat):Int) < (((l.map Rw.cells).length:Nat):Int))=false)∧∀ R,Good E0 B.slices_EqualFunc_Lapi_Row_Lapi_Row_api_Row_api_Row [] (L_smW l (l).length ) R→Good E0 B.slices_EqualFunc_Lapi_Row_Lapi_Row_api_Row_api_Row [] (L_smW l i ) R:=by
 obtain ⟨kk,hk⟩:∃ kk,i+kk=(l).length:=⟨(l).length - i,by omega⟩
 induction kk generalizing i  hI with
 | zero =>
  have e0:i=(l).length:=by omega
  subst e0
  exact ⟨hI,by simp,fun R hg=>hg⟩
 | succ kk ih =>
  obtain ⟨x,hx⟩:=zay (l:=l) (i:=i) (by omega)
  have h0:decide (((i:Nat):Int) < (((l.map Rw.cells).length:Nat):Int))=true:=by simp;omega
  have hw:IntKind.i64.wrap (((i:Nat):Int)+1)=((i+1:Nat):Int):=zaj i (by first|omega|(simp only [zac,Few] at *;omega))
  have hfx:=hf x (List.mem_of_getElem? hx)
  obtain ⟨qZ,xZ,gZ⟩:=ih (i+1) (by omega) zqH (by omega);exact ⟨qZ,xZ,fun R hg=>zab (wkl [sb h0,se (zaf Rw.cells hx rfl),se (zaf Rw.cells hx rfl),sc hfx,sb (rfl:false=false),si hw] [1,2,15,16,17] 0 kr (gZ R hg))⟩
theorem zcf (l:List Rw) (hl:zac l) (hf:∀ x∈l,zaa E0 S.world_SameRow [(.agg x.cells),(.agg x.cells)] [] (bv true) []) (hz:((((l.map Rw.cells).length:Nat):Int) != (((l.map Rw.cells).length:Nat):Int))=false):∃ (r:Bool),r=true∧zaa E0 S.slices_EqualFunc_Lapi_Row_Lapi_Row_api_Row_api_Row [.sl (l.map Rw.cells),.sl (l.map Rw.cells),.fn S.world_SameRow []] [] (bv r) []:=by
 obtain ⟨q1,q1_1,g1⟩:=zbN l zee zee 0 zee zee
 exact ⟨true,(by rfl),wkc At.slices_EqualFunc_Lapi_Row_Lapi_Row_api_Row_api_Row [sb hz] [1,2,15,16,17] 0 kr (g1 _ (zab (wkr [sb q1_1] kr)))⟩
theorem zcg (l:List Rw) (hl:zac l) (hf:∀ x∈l,zaa E0 S.world_SameRow [(.agg x.cells),(.agg x.cells)] [] (bv true) []):zaa E0 S.slices_EqualFunc_Lapi_Row_Lapi_Row_api_Row_api_Row [.sl (l.map Rw.cells),.sl (l.map Rw.cells),.fn S.world_SameRow []] [] (bv true) []:=by
 obtain ⟨r,rfl,h⟩:=zcf l hl hf (by simp)
 exact h
theorem zn4 (x:Sch) (hA0:(x.name.toList==x.name.toList)=true) (hs:zac x.cols):∃ (r:Bool),r=true∧zaa E0 S.world_SameSchema [x.av,x.av] [] (bv r) []:=by
 exact ⟨true,(by rfl),wk At.world_SameSchema [sg hA0,sc (zfL x.cols (by first|assumption|rfl|omega))] kr⟩
theorem zjF (x:Sch) (hs:zac x.cols):zaa E0 S.world_SameSchema [x.av,x.av] [] (bv true) []:=by
 obtain ⟨r,rfl,h⟩:=zn4 x (by simp) hs
 exact h
theorem zoW (x:Tb) (hA0:(x.next==x.next)=true) (hs:zac x.sch.cols) (hr:zac x.rows) (hf:∀ y∈x.rows,zaa E0 S.world_SameRow [.agg y.cells,.agg y.cells] [] (bv true) []):∃ (r:Bool),r=true∧zaa E0 S.world_SameTable [.agg x.cells,.agg x.cells] [] (bv r) []:=by
 exact ⟨true,(by rfl),wk At.world_SameTable [sc (zjF x.sch (by first|assumption|rfl|omega)),sg (rfl:true=true),sg hA0,sc (zcg x.rows (by first|assumption|rfl|omega) (by first|assumption|rfl|omega))] kr⟩
theorem zkk (x:Tb) (hs:zac x.sch.cols) (hr:zac x.rows) (hv:∀ r∈x.rows,zac r.vals):zaa E0 S.world_SameTable [.agg x.cells,.agg x.cells] [] (bv true) []:=by
 obtain ⟨r,rfl,h⟩:=zoW x (by simp) hs hr fun y hy=>zlL y (hv y hy)
 exact h
noncomputable def L_smB (l:List Tb) (i:Nat) :Cfg:=zan B.slices_EqualFunc_Lapi_Table_Lapi_Table_api_Table_api_Table 0 [(1,.sl (l.map Tb.cells)),(2,.fn S.world_SameTable []),(15,.sl (l.map Tb.cells)),(16,iv ((l.map Tb.cells).length:Nat)),(17,iv (i:Nat))] []
theorem zbw (l:List Tb) (hl:zac l) (hf:∀ x∈l,zaa E0 S.world_SameTable [(.agg x.cells),(.agg x.cells)] [] (bv true) []) (i:Nat)  (hi:i≤(l).length) (hI:True):(True)∧(decide ((((l).length:Nat):Int) < (((l.map Tb.cells).length:Nat):Int))=false)∧∀ R,Good E0 B.slices_EqualFunc_Lapi_Table_Lapi_Table_api_Table_api_Table [] (L_smB l (l).length ) R→Good E0 B.slices_EqualFunc_Lapi_Table_Lapi_Table_api_Table_api_Table [] (L_smB l i ) R:=by
 obtain ⟨kk,hk⟩:∃ kk,i+kk=(l).length:=⟨(l).length - i,by omega⟩
 induction kk generalizing i  hI with
 | zero =>
  have e0:i=(l).length:=by omega
  subst e0
  exact ⟨hI,by simp,fun R hg=>hg⟩
 | succ kk ih =>
  obtain ⟨x,hx⟩:=zay (l:=l) (i:=i) (by omega)
  have h0:decide (((i:Nat):Int) < (((l.map Tb.cells).length:Nat):Int))=true:=by simp;omega
  have hw:IntKind.i64.wrap (((i:Nat):Int)+1)=((i+1:Nat):Int):=zaj i (by first|omega|(simp only [zac,Few] at *;omega))
  have hfx:=hf x (List.mem_of_getElem? hx)
  obtain ⟨qZ,xZ,gZ⟩:=ih (i+1) (by omega) zqH (by omega);exact ⟨qZ,xZ,fun R hg=>zab (wkl [sb h0,se (zaf Tb.cells hx rfl),se (zaf Tb.cells hx rfl),sc hfx,sb (rfl:false=false),si hw] [1,2,15,16,17] 0 kr (gZ R hg))⟩
theorem zbO (l:List Tb) (hl:zac l) (hf:∀ x∈l,zaa E0 S.world_SameTable [(.agg x.cells),(.agg x.cells)] [] (bv true) []) (hz:((((l.map Tb.cells).length:Nat):Int) != (((l.map Tb.cells).length:Nat):Int))=false):∃ (r:Bool),r=true∧zaa E0 S.slices_EqualFunc_Lapi_Table_Lapi_Table_api_Table_api_Table [.sl (l.map Tb.cells),.sl (l.map Tb.cells),.fn S.world_SameTable []] [] (bv r) []:=by
 obtain ⟨q1,q1_1,g1⟩:=zbw l zee zee 0 zee zee
 exact ⟨true,(by rfl),wkc At.slices_EqualFunc_Lapi_Table_Lapi_Table_api_Table_api_Table [sb hz] [1,2,15,16,17] 0 kr (g1 _ (zab (wkr [sb q1_1] kr)))⟩
theorem zbR (l:List Tb) (hl:zac l) (hf:∀ x∈l,zaa E0 S.world_SameTable [(.agg x.cells),(.agg x.cells)] [] (bv true) []):zaa E0 S.slices_EqualFunc_Lapi_Table_Lapi_Table_api_Table_api_Table [.sl (l.map Tb.cells),.sl (l.map Tb.cells),.fn S.world_SameTable []] [] (bv true) []:=by
 obtain ⟨r,rfl,h⟩:=zbO l hl hf (by simp)
 exact h
theorem znw (l:List Tb) (hl:zac l) (hf:∀ x∈l,zaa E0 S.world_SameTable [.agg x.cells,.agg x.cells] [] (bv true) []):∃ (r:Bool),r=true∧zaa E0 S.world_SameTables [tsl l,tsl l] [] (bv r) []:=by
 exact ⟨true,(by rfl),wk At.world_SameTables [sc (zbR l (by first|assumption|rfl|omega) (by first|assumption|rfl|omega))] kr⟩
theorem zjN (l:List Tb) (hl:zac l) (hv:∀ t∈l,zac t.sch.cols∧zac t.rows∧∀ r∈t.rows,zac r.vals):zaa E0 S.world_SameTables [tsl l,tsl l] [] (bv true) []:=by
 obtain ⟨r,rfl,h⟩:=znw l hl fun x hx=>zkk x (hv x hx).1 (hv x hx).2.1 (hv x hx).2.2
 exact h
end Go.AM
namespace Go.AM
set_option maxRecDepth 100000
set_option maxHeartbeats 1000000
set_option linter.unusedSimpArgs false
set_option linter.unusedVariables false
abbrev dlN (row:List V):Dl:=⟨sUu,[⟨1,row⟩],[],[]⟩
abbrev itN (row:List V):Itm:=⟨⟨#[97]⟩,1,[],row⟩
abbrev ShTs (m:List Tb):Prop:=∀ t∈m,zac t.sch.cols∧zac t.rows∧∀ r∈t.rows,zac r.vals
structure FireIn (m:List Tb):Prop where
 sees:SeesIn m
 src:zcz m sUu=(zb9,true)
theorem FireIn.tabs {m:List Tb} (h:FireIn m):∀ x∈m,TabV x:=by
 obtain ⟨t,r,rfl,h1,_⟩:=h.sees.ex;exact h1.tab
theorem FireIn.to {m:List Tb} (h:FireIn m):TbOk m:=by
 obtain ⟨t,r,rfl,h1,_⟩:=h.sees.ex;exact h1.to
theorem FireIn.tg {m:List Tb} (h:FireIn m):TbG m:=by
 obtain ⟨t,r,rfl,h1,_⟩:=h.sees.ex;exact h1.tg
theorem FireIn.sh {m:List Tb} (h:FireIn m):ShTs m:=fun x hx=>⟨(h.tabs x hx).sch.short,(h.tabs x hx).shr,(h.tabs x hx).vals⟩
structure NoteOut (m:List Tb) (row:List V) (m2:List Tb):Prop where
 eq:m2=zfu m row
 len:m2.length=m.length
 hd:(hdT m2).rows.length=(hdT m).rows.length+1
 short:zac m2
 sh:ShTs m2
theorem RowU.sh {row:List V} (h:RowU row):zac row:=by
 obtain ⟨a,b,c,rfl,_⟩:=zl4 h.ok;simp [zac]
theorem ztQ {m:List Tb} {row:List V} (h:FireIn m) (hr:RowU row):NoteOut m row (zfu m row):=by
 obtain ⟨t,r,rfl,h1,h2,h3⟩:=h.sees.ex
 have hs:=h.sh
 refine ⟨rfl,by simp [zfu],by simp [zfu,hdT,insT,zdU],?_,?_⟩
 ·have:=h1.ml;simp only [zfu,zac,List.length_set];omega
 ·intro x hx
  simp only [zfu,hdT,List.headD_cons,List.set_cons_zero,List.mem_cons] at hx
  rcases hx with rfl|hx
  ·have h0:=hs t (by simp)
   refine ⟨h0.1,by simp only [insT,zac,List.length_append,zdU,List.length_cons,List.length_nil];omega,fun y hy=>?_⟩
   simp only [insT,List.mem_append] at hy
   rcases hy with hy|hy
   ·exact h0.2.2 y hy
   ·have:=znX hy
    simp only [List.mem_singleton] at this
    rw [this];simp [zac]
  ·exact hs x (by simp [hx])
theorem zrX (m:List Tb) (row:List V) (wh:List X) (b:Bool) (h:FireIn m) (hr:RowU row) (hw:Few wh∧∀ x∈wh,XOk 7 x)
  (ht:zaa E0 S.evaluate_True [xsl wh,fsl (zbJ row),tsl m] [] (.tup [bv b,iv 0]) []):FiIn m [zaX wh] [dlN row] (itN row) (zaX wh) zb9 (dlN row) (dlN row) (zbJ row) [] 0 b:=by
 refine ⟨⟨rfl,by simp⟩,?_,?_,?_,?_,?_,?_,?_,?_,h.sees.short,h.sh⟩
 ·have h1:=zfp [zaX wh] (itN row) (by simp [zac])
  have e:idxF (fun t=>tgN t (itN row).name) [zaX wh] 0=(0:Nat):=by show _=_;kernel_rfl
  rw [e] at h1;exact h1
 ·have h1:=zg8 m sUu h.sees.short (fun x hx=>(h.sh x hx).1)
  rw [h.src] at h1;exact h1
 ·have h1:=zgb [dlN row] sUu (by simp [zac])
  have e:idxF (fun t=>dlC t sUu) [dlN row] 0=(0:Nat):=by show _=_;kernel_rfl
  rw [e] at h1
  obtain ⟨r,b,⟨rfl,rfl⟩,h2⟩:=ztI [dlN row] sUu 0 (dlN row) rfl (by simp) h1 (by decide)
  exact h2
 ·obtain ⟨r,hr2,h2⟩:=zp5 (zaX wh) zb9 [] row (zaO zoF) (by simp [zac]) hr.sh
  rw [zjH] at hr2
  subst hr2;exact h2
 ·obtain ⟨r,hr2,h2⟩:=zr2 (zaX wh) zb9 (dlN row) rfl (by simp [zac,dlN]) (fun x hx=>by
   simp only [dlN,List.mem_singleton] at hx;subst hx;exact zlG _ hr.sh)
  subst hr2;exact h2
 ·obtain ⟨r,hr2,h2⟩:=zrq (zaX wh) zb9 (dlN row) rfl
  subst hr2;exact h2
 ·have h1:=zd2 m h.sees.ml
  rw [List.append_nil];exact h1
 ·rw [List.append_nil];exact ht
theorem zgU (m:List Tb) (row:List V) (wh:List X) (b:Bool) (h:FireIn m) (hr:RowU row) (hw:Few wh∧∀ x∈wh,XOk 7 x)
  (ht:zaa E0 S.evaluate_True [xsl wh,fsl (zbJ row),tsl m] [] (.tup [bv b,iv 0]) []) :
  zaa E0 S.fire_Item [tsl m,.sl ([zaX wh].map Tg.cells),.sl [],.sl ([dlN row].map Dl.cells),(itN row).av,.sl []] [] (.tup [tsl (bif b then zfu m row else m),.sl [],.sl [],iv 0]) []:=by
 have h1:=zpw (zrX m row wh b h hr hw ht) (fun i=>bif i==0 then m else zfu m row) rfl (by simp [zaX,zac]) (fun i a ha=>by
  match i,ha with
  | 0,ha =>
   simp only [zaX,List.getElem?_cons_zero,Option.some.injEq] at ha
   subst ha
   exact ⟨.inl rfl,1,zhk m row wh h.sees hr hw⟩
  | i+1,ha=>simp [zaX] at ha)
 exact h1
def vKd (n:Nat):V:=bif n==0 then vNul else ⟨2,bif n==1 then 0 else 1,⟨#[]⟩⟩
theorem zkM (n:Nat):(vKd n).Good:=by
 unfold vKd
 cases n==0
 ·cases n==1
  ·exact zcS (n:=1) (by decide)
  ·exact zcS (n:=0) (by decide)
 ·exact zaD
theorem ztV (n:Nat) (hn:n < 3) (row:List V) (m:List Tb) (h:FireIn m) (hr:RowU row):zaa E0 S.evaluate_True [xsl [xLit (vKd n)],fsl (zbJ row),tsl m] [] (.tup [bv (n==2),iv 0]) []:=by
 obtain ⟨a,b,c,rfl,hk,ha,hb,hc⟩:=zl4 hr.ok
 obtain ⟨hf,hg⟩:=zmE ha hb hc 4 (by decide)
 have h1:=zoh (f:=fun x=>eval 3 x (zbJ [a,b,c]) m) (wh:=[xLit (vKd n)]) (frs:=zbJ [a,b,c]) (tb:=m)
  (fun x hx=>by
   simp only [List.mem_singleton] at hx;subst hx
   exact zfT 3 _ _ m (zj4 (zkM n)) hf.less hg h.to h.tg)
  (fun x hx=>by
   simp only [List.mem_singleton] at hx;subst hx
   show (eval 3 (xLit (vKd n)) (zbJ [a,b,c]) m).1.Good
   rw [zit];exact zkM n)
 have e:zcG (fun x=>eval 3 x (zbJ [a,b,c]) m) [xLit (vKd n)]=(n==2,0):=by
  show zhf (fun x=>eval 3 x (zbJ [a,b,c]) m) (xLit (vKd n))=(n==2,0)
  unfold zhf
  simp only [zit]
  have:n=0∨n=1∨n=2:=by omega
  rcases this with rfl|rfl|rfl <;> (show _=_;kernel_rfl)
 rw [e] at h1;exact h1
theorem znB (row:List V) (m:List Tb):zaa E0 S.evaluate_True [xsl [],fsl (zbJ row),tsl m] [] (.tup [bv true,iv 0]) []:=zfa _ _
theorem zkn (m:List Tb) (row:List V) (h:FireIn m) (hr:RowU row):∃ (m2:List Tb),NoteOut m row m2∧zaa E0 S.fire_Item [tsl m,.sl ([zaX []].map Tg.cells),.sl [],.sl ([dlN row].map Dl.cells),(itN row).av,.sl []] [] (.tup [tsl m2,.sl [],.sl [],iv 0]) [] :=
 ⟨_,ztQ h hr,zgU m row [] true h hr ⟨by simp,fun x hx=>by cases hx⟩ (znB row m)⟩
theorem FireIn.pos {m:List Tb} (h:FireIn m):0 < m.length:=h.sees.pos
theorem NoteOut.pos {m m2:List Tb} {row:List V} (h:NoteOut m row m2) (h0:FireIn m):0 < m2.length:=by rw [h.len];exact h0.pos
structure WhenOut (m m2:List Tb) (n:Nat) (m3:List Tb):Prop where
 eq:m3=bif n==2 then m2 else m
 short:zac m3
 sh:ShTs m3
theorem WhenOut.no {m m2 m3:List Tb} {n:Nat} (h:WhenOut m m2 n m3) (hb:(((n:Nat):Int)==2)=false):m3=m:=by
 have:(n==2)=false:=by rw [beq_eq_false_iff_ne] at *;omega
 rw [h.eq,this];rfl
theorem WhenOut.yes {m m2 m3:List Tb} {n:Nat} (h:WhenOut m m2 n m3) (hb:(((n:Nat):Int)==2)=true):m3=m2:=by
 have:(n==2)=true:=by rw [beq_iff_eq] at *;omega
 rw [h.eq,this];rfl
theorem ztj {m m2:List Tb} {row:List V} {n:Nat} (h:FireIn m) (h2:NoteOut m row m2):WhenOut m m2 n (bif n==2 then m2 else m):=by
 cases hn:n==2
 ·exact ⟨by simp [hn],h.sees.short,h.sh⟩
 ·exact ⟨by simp [hn],h2.short,h2.sh⟩
theorem zkl (m m2:List Tb) (row:List V) (n:Nat) (h:FireIn m) (hr:RowU row) (h2:NoteOut m row m2) (hn:n < 3):∃ (m3:List Tb),WhenOut m m2 n m3∧zaa E0 S.fire_Item [tsl m,.sl ([zaX [xLit (vKd n)]].map Tg.cells),.sl [],.sl ([dlN row].map Dl.cells),(itN row).av,.sl []] [] (.tup [tsl m3,.sl [],.sl [],iv 0]) [] :=
 ⟨_,ztj h h2,by
  rw [h2.eq]
  exact zgU m row [xLit (vKd n)] (n==2) h hr ⟨by simp,fun x hx=>by simp only [List.mem_singleton] at hx;subst hx;exact zj4 (zkM n)⟩ (ztV n hn row m h hr)⟩
end Go.AM
namespace Go.AM
set_option maxRecDepth 100000
set_option maxHeartbeats 4000000
set_option linter.unusedSimpArgs false
set_option linter.unusedVariables false
theorem zrC {m:List Tb} (h:m.map Tb.sch=zao):zcz m sUu=(zb9,true):=by
 have h1:∀ (f:List Sch→Sch × Bool),f (m.map Tb.sch)=f zao:=fun f=>by rw [h]
 match m,h with
 | [a,b,c],h =>
  simp only [List.map_cons,List.map_nil,zao,List.cons.injEq,and_true] at h
  obtain ⟨ha,hb,hc⟩:=h
  rw [zfx]
  have e1:zaK a sUu=false:=by unfold zaK;rw [ha];kernel_rfl
  have e2:zaK b sUu=false:=by unfold zaK;rw [hb];kernel_rfl
  have e3:zaK c sUu=true:=by unfold zaK;rw [hc];kernel_rfl
  simp only [zcw,List.find?_cons,e1,e2,e3]
  rw [hc];show _=_;kernel_rfl
 | [],h=>simp [zao] at h
 | [a],h=>simp [zao] at h
 | [a,b],h=>simp [zao] at h
 | a::b::c::d::r,h=>simp [zao] at h
theorem zrL {n:Int} {m:List Tb} (hm:StoreV n m) (hn:n≤5):FireIn m:=by
 have hs:=hm.schs
 refine ⟨⟨?_⟩,zrC hs⟩
 cases m with
 | nil=>simp [zao] at hs
 | cons a r =>
  have h1:a.sch=zbP:=by simp only [zao,List.map_cons] at hs;exact (List.cons.inj hs).1
  have h2:(a::r).length=3:=by have:=congrArg List.length hs;simpa [zao] using this
  have h3:=hm.len a (by simp)
  exact ⟨a,r,rfl,⟨h1,fun x hx=>hm.tabV (by omega) hx,(hm.ok (by omega)).tbOk,(hm.ok (by omega)).tbG,by omega⟩,by omega,hm.next a (by simp)⟩
theorem zf0 (t:Tp) (n:Int) (hn:n=3):∃ (m:List Tb) (t':Tp),FireIn m∧zaa E0 S.world_Tape_Store [.p 0 0,iv n] [.box t.cells] (tsl m) [.box t'.cells]:=by
 subst hn
 obtain ⟨m,t',hm,h⟩:=zhB t 3 zcA (by decide)
 exact ⟨m,t',zrL hm (by decide),h⟩
theorem ziG (t:Tp):∃ (r:List V) (t':Tp),RowU r∧zaa E0 S.world_Tape_Row [.p 0 0,zb9.av] [.box t.cells] (vsl r) [.box t'.cells]:=by
 have ho:=zkP zjv
 obtain ⟨r,t',h1,h2⟩:=zf6 t zb9 (zaO zoF) ho.cols
 exact ⟨r,t',⟨h1⟩,h2⟩
def tKn:List Tb:=[⟨zbP,1,[]⟩,⟨zb9,2,[]⟩]
def vSev:V:=⟨1,7,⟨#[]⟩⟩
def vOne:V:=⟨1,1,⟨#[]⟩⟩
def zlj:List V:=[vSev,vOne,vNul]
theorem znR  :∃ (r:Tg),r=zaX []∧zaa E0 S.law23_note [] [] r.av []:=by
 exact ⟨Tg.mk (ByteArray.mk #[97]) (ByteArray.mk #[117]) false 1 [] true [] [] [] [] [Ac.mk 1 (ByteArray.mk #[108,111,103]) [[xCol (ByteArray.mk #[78,69,87]) (ByteArray.mk #[105,100]),xLit (V.mk 0 0 (ByteArray.mk #[]))]] [] [] [] (ByteArray.mk #[])],(by rfl),(by (try simp only [X.av,Qy.av,V.av,Tb.av,Sch.av,Pl.av,xsl,fsl,vsl,tsl,List.map_append,List.map_cons,List.map_nil,V.cells,Col.cells,Rw.cells,Tb.cells,Fr.cells,Sch.cells,Pl.cells,zbe,zaZ,zbd,za1,zbf,X.cells,Qy.cells,X.args_mk,X.sub_mk,Qy.items_mk,Qy.wh_mk,xCol,xLit,xBin,xNeg,Ac.cells,Se.cells,Pr.cells,Ch.cells,Rw.cells,Dl.cells,Itm.cells]);exact wk At.law23_note [sc (zoU (ByteArray.mk #[78,69,87]) (ByteArray.mk #[105,100])),sc (zkw (V.mk 0 0 (ByteArray.mk #[])))] kr)⟩
theorem zjJ:zaa E0 S.law23_note [] [] (zaX []).av []:=by
 obtain ⟨r,rfl,h⟩:=znR
 exact h
theorem tKn_in:FireIn tKn:=by
 have h2:TabV ⟨zb9,2,[]⟩:=⟨zmd zjv,by decide,RowsV.nil (by decide),by decide,zoG zjv⟩
 have ht:∀ x∈tKn,TabV x:=fun x hx=>by
  simp only [tKn,List.mem_cons,List.not_mem_nil,or_false] at hx
  rcases hx with rfl|rfl
  ·exact tbK_v
  ·exact h2
 have hr:∀ x∈tKn,x.rows=[]:=fun x hx=>by
  simp only [tKn,List.mem_cons,List.not_mem_nil,or_false] at hx
  rcases hx with rfl|rfl <;> rfl
 refine ⟨⟨_,_,rfl,⟨rfl,ht,⟨by decide,fun x hx=>(ht x hx).sch.short,fun x hx=>by rw [hr x hx];decide,fun x hx r h=>(by rw [hr x hx] at h;cases h)⟩,⟨fun x hx r h=>(by rw [hr x hx] at h;cases h),fun x hx=>by rw [hr x hx];decide⟩,by decide⟩,by decide,by decide⟩,by show _=_;kernel_rfl⟩
theorem zsC:RowU zlj:=⟨by
 refine ⟨by kernel_rfl,fun k c w h1 h2=>?_⟩
 have hc:zb9.cols=[⟨⟨#[105,100]⟩,1,true,true⟩,⟨⟨#[110]⟩,1,true,false⟩,⟨⟨#[109]⟩,1,false,false⟩]:=by kernel_rfl
 rw [hc] at h1
 match k,h1,h2 with
 | 0,h1,h2=>cases h1;cases h2;exact ⟨zbF (by decide),.inr rfl,fun _=>rfl⟩
 | 1,h1,h2=>cases h1;cases h2;exact ⟨zbF (by decide),.inr rfl,fun _=>rfl⟩
 | 2,h1,h2=>cases h1;cases h2;exact ⟨zaD,.inl rfl,fun h=>by cases h⟩
 | k+3,h1,h2=>simp at h1⟩
def tKn2:List Tb:=[⟨zbP,2,[⟨1,[vSev,vNul]⟩]⟩,⟨zb9,2,[]⟩]
theorem zjC:zaa E0 S.fire_Item [tsl tKn,.sl ([zaX []].map Tg.cells),.sl [],.sl ([dlN zlj].map Dl.cells),(itN zlj).av,.sl []] [] (.tup [tsl tKn2,.sl [],.sl [],iv 0]) []:=zgU tKn zlj [] true tKn_in zsC ⟨by simp,fun x hx=>by cases hx⟩ (znB zlj tKn)
theorem zm2  :∃ (r:Bool),r=true∧zaa E0 S.law23_known [] [] (bv r) []:=by
 exact ⟨bif bif bif (0:Int)==(0:Int) then (↑(List.map Tb.cells tKn2).length:Int)==(2:Int) else false then (↑(List.map Rw.cells (hdT tKn2).rows).length:Int)==(1:Int) else false then vSev.kind==(zjX (7:Int)).kind&&(vSev.int==(zjX (7:Int)).int&&(vSev.text==(zjX (7:Int)).text&&true)) else false,(by rfl),wk At.law23_known [sc ziL,sc (zeF (ByteArray.mk #[117]) (by first|assumption|exact zcA|decide|omega)),sc (zfo 7),sc (zfo 1),sc zjJ,sc zjC,sd [(3,[sg (rfl:true=true)]),(4,[sg (rfl:true=true)]),(5,[sg (rfl:true=true)]),(8,[sg (rfl:true=true)]),(9,[so (rfl:true=true) (se (zom tKn2 (by first|assumption|exact zcA|decide|omega)))]),(10,[sg (rfl:true=true)]),(11,[sg (rfl:true=true)]),(12,[sg (rfl:true=true)]),(13,[sg (rfl:true=true)]),(16,[sg (rfl:true=true)]),(17,[so (rfl:true=true) (se (zom tKn2 (by first|assumption|exact zcA|decide|omega)))]),(18,[sg (rfl:true=true)]),(19,[sg (rfl:true=true)]),(20,[so (rfl:true=true) (se (xs:=[[iv 1,AV.sl [[iv vSev.kind,iv vSev.int,sv vSev.text],[iv vNul.kind,iv vNul.int,sv vNul.text]]]]) (i:=0) (c:=[iv 1,AV.sl [[iv vSev.kind,iv vSev.int,sv vSev.text],[iv vNul.kind,iv vNul.int,sv vNul.text]]]) (n:=2) ⟨by decide,rfl,rfl⟩)]),(21,[sg (rfl:true=true)]),(22,[sg (rfl:true=true)]),(23,[so (rfl:true=true) (se (xs:=[[iv vSev.kind,iv vSev.int,sv vSev.text],[iv vNul.kind,iv vNul.int,sv vNul.text]]) (i:=0) (c:=[iv vSev.kind,iv vSev.int,sv vSev.text]) (n:=3) ⟨by decide,rfl,rfl⟩)]),(24,[sg (rfl:true=true)]),(25,[so (rfl:true=true) (sc (zfo 7))]),(26,[so (rfl:true=true) (sq zbk)])]] kr⟩
end Go.AM
namespace Go.AM
set_option maxRecDepth 100000
set_option maxHeartbeats 4000000
set_option linter.unusedSimpArgs false
set_option linter.unusedVariables false
theorem za9 {p:Prop} (h:p:=by first|assumption|rfl|exact zcA|exact FireIn.pos (by assumption)|exact NoteOut.pos (by assumption) (by assumption)|exact WhenOut.no (by assumption) (by assumption)|exact WhenOut.yes (by assumption) (by assumption)|exact WhenOut.short (by assumption)|exact WhenOut.sh (by assumption)|omega):p:=h
theorem zjW {p:Prop} (h:p:=by first|rfl|exact (zrH (And.left (by assumption)) (by assumption)).elim|exact (zrH (by assumption) (by assumption)).elim|exact (ztE (by assumption) (by assumption) (by assumption)).elim|exact fw_fin (by assumption)):p:=h
theorem ziw:zaa E0 S.law23_known [] [] (bv true) []:=by
 obtain ⟨r,rfl,h⟩:=zm2
 exact h
theorem zbq (a b:List Tb) (hab:a=b) (hl:zac a) (hv:ShTs a):zaa E0 S.world_SameTables [tsl a,tsl b] [] (bv true) []:=by
 subst hab;exact zjN a hl hv
theorem el_vKd (md:Nat) (h:md < 3):ElAt [[iv 0,iv 0,sv ⟨#[]⟩],[iv 2,iv 0,sv ⟨#[]⟩],[iv 2,iv 1,sv ⟨#[]⟩]] ((md:Nat):Int) (vKd md).cells 3:=by
 have:md=0∨md=1∨md=2:=by omega
 rcases this with rfl|rfl|rfl <;> exact ⟨by decide,rfl,rfl⟩
theorem ze7 (m:List Tb) (h:0 < m.length):ElAt (m.map Tb.cells) (0:Int) (hdT m).cells 4:=zom m h
theorem zrH {m m2:List Tb} {row:List V} (h:NoteOut m row m2) (hb:(bif bif bif (0:Int)==0 then (0:Int)==0 else false then true else false then (((m2.map Tb.cells).length:Nat):Int)==(((m.map Tb.cells).length:Nat):Int) else false)=false):False:=by
 simp [h.len] at hb
theorem ztE {m m2:List Tb} {row:List V} (h0:FireIn m) (h:NoteOut m row m2) (hb:(bif bif bif bif (0:Int)==0 then (0:Int)==0 else false then true else false then (((m2.map Tb.cells).length:Nat):Int)==(((m.map Tb.cells).length:Nat):Int) else false then ((((hdT m2).rows.map Rw.cells).length:Nat):Int)==IntKind.i64.wrap (((((hdT m).rows.map Rw.cells).length:Nat):Int)+1) else false)=false):False:=by
 have h1:=h0.sees.rl
 have e:IntKind.i64.wrap (((((hdT m).rows.map Rw.cells).length:Nat):Int)+1)=(((hdT m).rows.length+1:Nat):Int):=by rw [IntKind.wrap_i64,List.length_map];omega
 rw [e] at hb
 simp [h.len,h.hd] at hb
theorem fw_fin {b:Bool} (h:b=true):(bif b then true else false)=true:=by rw [h];rfl
theorem zkW (l:List Int) (v:Int) (md:Nat) (hmd:md < 3) (hM:zaa E0 S.world_Mod [iv v,iv 3] [] (iv (md:Nat)) []):∃ (r:Bool),r=true∧zaa E0 S.law23_FireWhen [isl l,iv v] [] (bv r) []:=by
 obtain ⟨t1,c1⟩:=(zpi l)
 obtain ⟨m2,t2,q2,c2⟩:=(zf0 t1 3 za9)
 obtain ⟨r3,t3,q3,c3⟩:=(ziG t2)
 obtain ⟨m24,q4,c4⟩:=(zkn m2 r3 za9 za9)
 obtain ⟨m35,q5,c5⟩:=(zkl m2 m24 r3 md za9 za9 q4 za9)
 let p_1:List St:=[sc c1,sl [0] c2,sc (zeF (ByteArray.mk #[117]) za9),sl [0] c3,sc zjJ,sc c4,sc (zjk false),sc (zjk true),sc hM,se (el_vKd md za9),sc (zkw (vKd md)),sc c5,sc hM]
 cases h6:(md:Int)==2
 ·cases h7:bif bif bif 0==0 then 0==0 else false then true else false then (↑(List.map Tb.cells m24).length:Int)==(↑(List.map Tb.cells m2).length:Int) else false
  ·exact ⟨false,zjW,wk At.law23_FireWhen (p_1++[sb h6,sd [(3,[sg (rfl:true=true)]),(4,[sg (rfl:true=true)]),(7,[sg (rfl:true=true)]),(8,[sg (rfl:true=true)]),(9,[so (rfl:true=true) (sc (zbq m35 m2 za9 za9 za9))]),(12,[sg (rfl:true=true)]),(13,[sg (rfl:true=true)]),(14,[sg (rfl:true=true)]),(15,[sg (rfl:true=true)]),(16,[sg (rfl:true=true)]),(19,[sb h7]),(20,[sb h7]),(21,[sb h7]),(22,[sb h7]),(23,[sb h7]),(24,[sb h7]),(25,[sb h7]),(26,[sb h7]),(27,[sb h7]),(28,[sb h7]),(29,[sb h7]),(30,[sb h7]),(31,[sb h7])]]) kr⟩
  ·cases h8:bif bif bif bif 0==0 then 0==0 else false then true else false then (↑(List.map Tb.cells m24).length:Int)==(↑(List.map Tb.cells m2).length:Int) else false then (↑(List.map Rw.cells (hdT m24).rows).length:Int)==IntKind.i64.wrap ((↑(List.map Rw.cells (hdT m2).rows).length:Int)+1) else false
   ·exact ⟨false,zjW,wk At.law23_FireWhen (p_1++[sb h6,sd [(3,[sg (rfl:true=true)]),(4,[sg (rfl:true=true)]),(7,[sg (rfl:true=true)]),(8,[sg (rfl:true=true)]),(9,[so (rfl:true=true) (sc (zbq m35 m2 za9 za9 za9))]),(12,[sg (rfl:true=true)]),(13,[sg (rfl:true=true)]),(14,[sg (rfl:true=true)]),(15,[sg (rfl:true=true)]),(16,[sg (rfl:true=true)]),(19,[sg h7]),(20,[so h7 (se (ze7 m24 za9))]),(21,[sg h7]),(22,[sg h7]),(23,[sg h7]),(24,[sg h7]),(25,[so h7 (se (ze7 m2 za9))]),(26,[sg h7]),(27,[sg h7]),(28,[sg h7]),(29,[so h7 (si (e:=IntKind.i64.wrap ((↑(List.map Rw.cells (hdT m2).rows).length:Int)+1)) rfl)]),(30,[sg h7]),(33,[sb h8]),(34,[sb h8])]]) kr⟩
   ·exact ⟨bif bif bif bif bif (0:Int)==(0:Int) then (0:Int)==(0:Int) else false then true else false then (↑(List.map Tb.cells m24).length:Int)==(↑(List.map Tb.cells m2).length:Int) else false then (↑(List.map Rw.cells (hdT m24).rows).length:Int)==IntKind.i64.wrap ((↑(List.map Rw.cells (hdT m2).rows).length:Int)+(1:Int)) else false then true else false,zjW,wk At.law23_FireWhen (p_1++[sb h6,sd [(3,[sg (rfl:true=true)]),(4,[sg (rfl:true=true)]),(7,[sg (rfl:true=true)]),(8,[sg (rfl:true=true)]),(9,[so (rfl:true=true) (sc (zbq m35 m2 za9 za9 za9))]),(12,[sg (rfl:true=true)]),(13,[sg (rfl:true=true)]),(14,[sg (rfl:true=true)]),(15,[sg (rfl:true=true)]),(16,[sg (rfl:true=true)]),(19,[sg h7]),(20,[so h7 (se (ze7 m24 za9))]),(21,[sg h7]),(22,[sg h7]),(23,[sg h7]),(24,[sg h7]),(25,[so h7 (se (ze7 m2 za9))]),(26,[sg h7]),(27,[sg h7]),(28,[sg h7]),(29,[so h7 (si (e:=IntKind.i64.wrap ((↑(List.map Rw.cells (hdT m2).rows).length:Int)+1)) rfl)]),(30,[sg h7]),(33,[so h8 (sc ziw)])]]) kr⟩
 ·cases h9:bif bif bif 0==0 then 0==0 else false then true else false then (↑(List.map Tb.cells m24).length:Int)==(↑(List.map Tb.cells m2).length:Int) else false
  ·exact ⟨false,zjW,wk At.law23_FireWhen (p_1++[sb h6,sd [(3,[sg (rfl:true=true)]),(4,[sg (rfl:true=true)]),(7,[sg (rfl:true=true)]),(8,[sg (rfl:true=true)]),(9,[so (rfl:true=true) (sc (zbq m35 m24 za9 za9 za9))]),(12,[sg (rfl:true=true)]),(13,[sg (rfl:true=true)]),(14,[sg (rfl:true=true)]),(15,[sg (rfl:true=true)]),(16,[sg (rfl:true=true)]),(19,[sb h9]),(20,[sb h9]),(21,[sb h9]),(22,[sb h9]),(23,[sb h9]),(24,[sb h9]),(25,[sb h9]),(26,[sb h9]),(27,[sb h9]),(28,[sb h9]),(29,[sb h9]),(30,[sb h9]),(31,[sb h9])]]) kr⟩
  ·cases h10:bif bif bif bif 0==0 then 0==0 else false then true else false then (↑(List.map Tb.cells m24).length:Int)==(↑(List.map Tb.cells m2).length:Int) else false then (↑(List.map Rw.cells (hdT m24).rows).length:Int)==IntKind.i64.wrap ((↑(List.map Rw.cells (hdT m2).rows).length:Int)+1) else false
   ·exact ⟨false,zjW,wk At.law23_FireWhen (p_1++[sb h6,sd [(3,[sg (rfl:true=true)]),(4,[sg (rfl:true=true)]),(7,[sg (rfl:true=true)]),(8,[sg (rfl:true=true)]),(9,[so (rfl:true=true) (sc (zbq m35 m24 za9 za9 za9))]),(12,[sg (rfl:true=true)]),(13,[sg (rfl:true=true)]),(14,[sg (rfl:true=true)]),(15,[sg (rfl:true=true)]),(16,[sg (rfl:true=true)]),(19,[sg h9]),(20,[so h9 (se (ze7 m24 za9))]),(21,[sg h9]),(22,[sg h9]),(23,[sg h9]),(24,[sg h9]),(25,[so h9 (se (ze7 m2 za9))]),(26,[sg h9]),(27,[sg h9]),(28,[sg h9]),(29,[so h9 (si (e:=IntKind.i64.wrap ((↑(List.map Rw.cells (hdT m2).rows).length:Int)+1)) rfl)]),(30,[sg h9]),(33,[sb h10]),(34,[sb h10])]]) kr⟩
   ·exact ⟨bif bif bif bif bif (0:Int)==(0:Int) then (0:Int)==(0:Int) else false then true else false then (↑(List.map Tb.cells m24).length:Int)==(↑(List.map Tb.cells m2).length:Int) else false then (↑(List.map Rw.cells (hdT m24).rows).length:Int)==IntKind.i64.wrap ((↑(List.map Rw.cells (hdT m2).rows).length:Int)+(1:Int)) else false then true else false,zjW,wk At.law23_FireWhen (p_1++[sb h6,sd [(3,[sg (rfl:true=true)]),(4,[sg (rfl:true=true)]),(7,[sg (rfl:true=true)]),(8,[sg (rfl:true=true)]),(9,[so (rfl:true=true) (sc (zbq m35 m24 za9 za9 za9))]),(12,[sg (rfl:true=true)]),(13,[sg (rfl:true=true)]),(14,[sg (rfl:true=true)]),(15,[sg (rfl:true=true)]),(16,[sg (rfl:true=true)]),(19,[sg h9]),(20,[so h9 (se (ze7 m24 za9))]),(21,[sg h9]),(22,[sg h9]),(23,[sg h9]),(24,[sg h9]),(25,[so h9 (se (ze7 m2 za9))]),(26,[sg h9]),(27,[sg h9]),(28,[sg h9]),(29,[so h9 (si (e:=IntKind.i64.wrap ((↑(List.map Rw.cells (hdT m2).rows).length:Int)+1)) rfl)]),(30,[sg h9]),(33,[so h10 (sc ziw)])]]) kr⟩
end Go.AM
namespace Go.AM
theorem zsv (l:List Int) (v:Int):zaa E0 S.law23_FireWhen [isl l,iv v] [] (bv true) []:=by
 have h:=zh4 v 3 (by decide) (by decide)
 have k:=zkx v 3 (by decide)
 obtain ⟨m,hm⟩:=Int.eq_ofNat_of_zero_le h.1
 rw [hm] at k h
 obtain ⟨r,rfl,hc⟩:=zkW l v m (by omega) k
 exact hc
end Go.AM
namespace Go.AM
open Go.RowKit
set_option linter.unusedSimpArgs false
set_option linter.unusedVariables false
abbrev old (W:World):Addr→Prop:=fun a=>a.block < W.heap.size
theorem zpQ {W:World} {a:Addr} {v:Value} (h:W.cell? a=some v):a.block < W.heap.size:=by
 unfold World.cell? at h
 cases hb:W.heap[a.block]? with
 | none=>rw [hb] at h;cases h
 | some o=>exact (Array.getElem?_eq_some_iff.1 hb).1
theorem relD_strs {W:World} {g:Nat} (l:List Str) (h:∀ (j:Nat) (s:Str),l[j]?=some s→W.cell? ⟨g,j,none⟩=some (.string s)):RelD W (old W) (.dp (l.map sv)) (.pointer (some ⟨g,0,none⟩)):=by
 refine .dp _ g 0 (fun j=>.string (l.getD j ⟨#[]⟩)) (fun j x hx=>?_) (fun j x hx=>?_)
 ·simp only [List.getElem?_map,Option.map_eq_some_iff] at hx
  obtain ⟨s,hs,rfl⟩:=hx
  have hc:=h j s hs
  rw [Nat.zero_add]
  refine ⟨zpQ hc,?_,rfl⟩
  rw [hc,List.getD_eq_getElem?_getD,hs];rfl
 ·simp only [List.getElem?_map,Option.map_eq_some_iff] at hx
  obtain ⟨s,hs,rfl⟩:=hx
  have:l.getD j ⟨#[]⟩=s:=by rw [List.getD_eq_getElem?_getD,hs];rfl
  simp only [this]
  exact .v _ rfl
theorem zsV {s:ByteArray} {l:List UInt8} (h:s.data.toList=l):s=zeg l:=by
 cases s with
 | mk d=>simp only [zeg];congr;rw [← h]
theorem laid_strs {P:Program} {W:World} {n:String} {g:Nat} {t e:TypeId} {k:Nat} {l:List (List UInt8)} (hr:Lib.VarReads P W n (.agg (l.map fun b=>.lit (.string b)))) (hg:P.globalNamed n=some g) (hty:(P.globals[g]?).map (·.type)=some t)
  (ht:P.underlying t=some (.array k e)) (he:P.underlying e=some .string) (hc:P.cellsOf e=1) (hk:l.length=k):∀ (j:Nat) (s:Str),(l.map zeg)[j]?=some s→W.cell? ⟨g,j,none⟩=some (.string s):=by
 intro j s hs
 obtain ⟨g',t',cs,fuel,p,h1,h2,h3,h4⟩:=hr
 obtain rfl:g'=g:=Option.some.inj (h1.symm.trans hg)
 obtain rfl:t'=t:=Option.some.inj (h2.symm.trans hty)
 simp only [List.getElem?_map,Option.map_eq_some_iff] at hs
 obtain ⟨b,hb,rfl⟩:=hs
 have hj:=zeY hb
 obtain ⟨f',d,q,hd,hq⟩:=Lib.array_elem ht h4 j (by omega)
 simp only [List.getElem?_map,hb,Option.map_some,Option.some.injEq] at hd
 subst hd
 obtain ⟨s,e1,e2,_⟩:=DataW.trod_string he hq
 rw [World.var?_cell h1 h3]
 rw [hc,Nat.mul_one] at e1
 have e3:cs.toList[j]?=some (.string s):=by
  have:=congrArg (·[0]?) e1
  simpa [List.getElem?_take,List.getElem?_drop] using this
 have e4:s=zeg b:=zsV (by simp only [Prod.mk.injEq,DataW.lit.injEq,Lit.string.injEq] at e2;exact e2.1.symm)
 rw [← e4]
 simpa using e3
theorem relV_ints {W:World} {a:Addr} {len cap:Nat} {zs:List Int} (h1:len≤cap) (h2:cap≤maxLen) (h3:zs.length=cap) (hc:∀ i,i < zs.length→W.cell? (a.add i)=some (.int .i64 (zs.getD i 0))) :
  RelV E0.T [] [] W (old W) (isl (zs.take len)) (.slice (some a) len cap):=by
 have hlen:((zs.take len).map fun n=>[iv n]).length=len:=by simp;omega
 have key:=RelD.sl (w:=W) (S:=old W) ((zs.take len).map fun n=>[iv n]) (some a) cap a.block a.off 1 (fun k=>.int .i64 (zs.getD k 0)) ?_ (by rw [hlen];exact h1) h2 (fun i c hi=>?_) (fun i j c x hi hj=>?_) (fun i j c x hi hj=>?_)
 ·rw [hlen] at key
  exact .d _ _ key
 ·intro hne
  have hz:0 < zs.length:=by
   rcases Nat.eq_zero_or_pos zs.length with h|h
   ·exact absurd (by simp [List.eq_nil_of_length_eq_zero h]) hne
   ·exact h
  have h0:=hc 0 hz
  have:a.spot=none:=by
   simp only [Addr.add,if_pos] at h0
   unfold World.cell? at h0
   split at h0
   ·cases hs:a.spot with
    | none=>rfl
    | some x=>rw [hs] at h0;simp at h0
   ·cases h0
  cases a
  simp only at this
  subst this
  rfl
 ·simp only [List.getElem?_map,Option.map_eq_some_iff] at hi
  obtain ⟨n,_,rfl⟩:=hi
  rfl
 ·simp only [List.getElem?_map,Option.map_eq_some_iff] at hi
  obtain ⟨n,hn,rfl⟩:=hi
  have hi2:=zeY hn
  simp only [List.length_take] at hi2
  have hj0:j=0:=by
   cases j with
   | zero=>rfl
   | succ j=>simp at hj
  subst hj0
  have h0:=hc i (by omega)
  have e:a.add i=⟨a.block,a.off+(i * 1+0),none⟩:=by
   unfold Addr.add
   split
   ·rename_i hi0
    subst hi0
    have:a.spot=none:=by
     simp only [Addr.add,if_pos] at h0
     unfold World.cell? at h0
     split at h0
     ·cases hs:a.spot with
      | none=>rfl
      | some x=>rw [hs] at h0;simp at h0
     ·cases h0
    cases a
    simp only at this
    subst this
    rfl
   ·simp
  rw [e] at h0
  refine ⟨zpQ h0,?_,rfl⟩
  rw [h0];simp
 ·simp only [List.getElem?_map,Option.map_eq_some_iff] at hi
  obtain ⟨n,hn,rfl⟩:=hi
  have hj0:j=0:=by
   cases j with
   | zero=>rfl
   | succ j=>simp at hj
  subst hj0
  simp only [List.getElem?_cons_zero,Option.some.injEq] at hj
  subst hj
  have:zs.getD (i * 1+0) 0=n:=by
   rw [List.getElem?_take] at hn
   split at hn
   ·simp only [Nat.mul_one,Nat.add_zero,List.getD_eq_getElem?_getD,hn];rfl
   ·cases hn
  simp only [this]
  exact .v _ rfl
theorem relV_nil {W:World}:RelV E0.T [] [] W (old W) (isl []) (.slice none 0 0) :=
 .d _ _ (RelD.sl [] none 0 0 0 1 (fun _=>.int .i64 0) (fun h=>absurd rfl h) (Nat.le_refl _) (by decide) (fun i c h=>by simp at h) (fun i j c x h=>by simp at h) (fun i j c x h=>by simp at h))
theorem oneCell_ok {P:Program} {w:World} {r:Reach} {b:Nat} {u:TypeId} {y:Value} (h:Cell.okWide P w r b u y):y.oneCell'=true:=by
 have h2:∀ y,Cell.ok P w r b u y→y.oneCell'=true:=by
  intro y h
  unfold Cell.ok at h
  split at h <;> first|rfl|exact h.elim
 unfold Cell.okWide at h
 split at h <;> first|rfl|exact h2 _ h
theorem calls_of {f:FuncId} {args:List AV} {b:Bool} (h:zaa E0 f args [] (bv b) []) (hgo:GoFn E0.P f) {W:World} {vs:List Value} (hglob:∀ g cs,globs g=some cs→RelD W (old W) (.dp cs) (.pointer (some ⟨g,0,none⟩))) (hargs:PW (RelV E0.T [] [] W (old W)) args vs) :
  Calls E0.P f vs.toArray W fun e W'=>e=.returned (.bool b)∧Below W.heap.size W W':=by
 have hrel:Rel E0 [] [] (old W) W:=⟨rfl,fun b cs hb=>by simp at hb,fun b e xs sh hb=>by simp at hb,fun b es hb=>by simp at hb,fun b b' k k' g hb=>by simp at hb,fun b k g hb=>by simp at hb,fun a ha=>ha,fun b k g a hb=>by simp at hb,hglob⟩
 obtain ⟨fn,hf1,hf2,hf3⟩:=hgo
 have hp:∀ e W',Post E0 [] [] (old W) W (fun r' h''=>r'=bv b∧h''=[]) e W'→e=.returned (.bool b)∧Below W.heap.size W W':=by
  rintro e W' ⟨r,h',β',S',y,rfl,⟨rfl,rfl⟩,_,ex,rv⟩
  refine ⟨?_,ex.os,ex.tape,ex.output,ex.size,fun k hk=>ex.keep k hk fun b' k' hb=>by simp at hb⟩
  rw [rv.v_inv]
 rcases h [] (old W) W vs hrel hargs with ⟨_,hc⟩|⟨y,w',hrun,_⟩
 ·exact hc.mono hp
 ·exfalso
  simp only [callFunc,Sem.run_bind,Sem.run_pure,Result.andThen_ok,run_program,hf1,hf2,hf3,Bool.false_eq_true,if_false] at hrun
  cases hrun
end Go.AM
