/-
  Contracts of the program's functions, part 4.
-/
import Derived.Test.YtoclpkdefddfbaaGreatDoorTcD
set_option linter.unusedSimpArgs false
set_option linter.unusedVariables false
namespace Go.AM
set_option maxRecDepth 100000
set_option maxHeartbeats 1000000
set_option linter.unusedSimpArgs false
set_option linter.unusedVariables false
theorem zo5 {p:Prop} (h:p:=by first|(have h:=nm_end (by assumption);unfold zfi;rw [h,show decide (8 < ((List.map zbD l).length:Int))=false by assumption];rfl)|(have h:=‹_∧nmL [] _=false›;unfold zfi;rw [h.1,h.2];cases decide (8 < ((List.map zbD l).length:Int)) <;> rfl)|(unfold zfi;rw [show decide (8 < ((List.map zbD l).length:Int))=true by assumption];rfl)):p:=h
theorem zlp {p:Prop} (h:p:=by first|assumption|omega|(simp;done)|exact ⟨by simp,by simp⟩|(have h9:=And.left ‹_=List.map Se.col _∧List.all _ _=true›;rw [h9];simp only [zad,List.length_map,List.length_take] at *;omega)):p:=h
theorem ziE {p:Prop} (h:p:=by first|assumption|omega|(simp;done)|(simp;omega)):p:=h
theorem zjz {p:Prop} (h:p:=by (clear ha hb;simp only [qyB,cond_true,cond_false, *])):p:=h
def qyB (f:X→Bool) (q:Qy):Bool:=bif !(q.star==(((zab q.items).length:Int)==0)) then false else bif decide (8 < ((zab q.items).length:Int)) then false else bif zdX q.frm then (bif q.items.all f then zcS f q.wh else false) else false
theorem zhw (q:Qy) (f:X→Bool) (ha:zac E0 S.syntax_validExprs [xsl q.items] [] (bv (q.items.all f)) []) (hb:zac E0 S.syntax_condition [xsl q.wh] [] (bv (zcS f q.wh)) []):∃ (r:Bool),r=qyB f q∧zac E0 S.syntax_ValidQuery [q.av] [] (bv r) []:=by
 cases h1:!q.star==((↑(zab q.items).length:Int)==0)
 ·cases h2:decide (8 < (↑(zab q.items).length:Int))
  ·cases h3:zdX q.frm
   ·exact ⟨false,zjz,wk At.syntax_ValidQuery [sg h1,sb h2,sc (zaN q.frm),sb h3] kr⟩
   ·cases h4:q.items.all f
    ·exact ⟨false,zjz,wk At.syntax_ValidQuery [sg h1,sb h2,sc (zaN q.frm),sg h3,sc ha,sb h4] kr⟩
    ·exact ⟨zcS f q.wh,zjz,wk At.syntax_ValidQuery [sg h1,sb h2,sc (zaN q.frm),sg h3,sc ha,sg h4,sc hb] kr⟩
  ·exact ⟨false,zjz,wk At.syntax_ValidQuery [sg h1,sb h2] kr⟩
 ·exact ⟨false,zjz,wk At.syntax_ValidQuery [sb h1] kr⟩
theorem zhu {n:Nat} {q:Qy} (h:QW n q):zac E0 S.syntax_ValidQuery [q.av] [] (bv (qyB (vX n) q)) []:=by
 obtain ⟨r,rfl,h⟩:=zhw q (vX n) (zfK (zaH h.items) h.hi) (zeM (zaH h.wh) h.hw)
 exact h
def zca (f:X→Bool) (l:List X):Bool:=bif decide (((zab l).length:Int) < 1) then true else bif decide (6 < ((zab l).length:Int)) then true else !l.all f
theorem zgA (l:List X) (f:X→Bool) (ha:zac E0 S.syntax_validExprs [xsl l] [] (bv (l.all f)) []):∃ (r:Bool),r=zca f l∧zac E0 S.syntax_validRows_c1 [xsl l] [] (bv r) []:=by
 cases h1:decide ((↑(zab l).length:Int) < 1)
 ·cases h2:decide (6 < (↑(zab l).length:Int))
  ·exact ⟨!l.all f,(by (clear ha;simp only [zca,cond_true,cond_false, *])),wk At.syntax_validRows_c1 [sg h1,sg h2,sc ha] kr⟩
  ·exact ⟨true,(by (clear ha;simp only [zca,cond_true,cond_false, *])),wk At.syntax_validRows_c1 [sg h1,sb h2] kr⟩
 ·exact ⟨true,(by (clear ha;simp only [zca,cond_true,cond_false, *])),wk At.syntax_validRows_c1 [sb h1] kr⟩
theorem zky {n:Nat} {l:List X} (hl:zad l) (h:∀ x∈l,XOk n x):zac E0 S.syntax_validRows_c1 [xsl l] [] (bv (zca (vX n) l)) []:=by
 obtain ⟨r,rfl,h⟩:=zgA l (vX n) (zfK hl h)
 exact h
noncomputable def zoO (l:List (List X)) (f:X→Bool) (i:Nat) :Cfg:=zaw B.slices_IndexFunc_Expr 0 [(0,.sl (l.map zaK)),(1,.fn S.syntax_validRows_c1 []),(7,iv ((l.map zaK).length:Nat)),(8,iv (i:Nat))] []
theorem zdj (l:List (List X)) (f:X→Bool) (hl:zad l) (hf:∀ x∈l,Pure S.syntax_validRows_c1 [xsl x] (bv (zca f x))) (i:Nat)  (hi:i≤(l).length) (hI:(l.take i).all (fun r=>!zca f r)=true):(((l.take (l).length).all (fun r=>!zca f r)=true)∧(decide ((((l).length:Nat):Int) < (((l.map zaK).length:Nat):Int))=false)∧∀ R,Good E0 B.slices_IndexFunc_Expr [] (zoO l f (l).length ) R→Good E0 B.slices_IndexFunc_Expr [] (zoO l f i ) R)∨(∃ (r:Int),(decide (0≤r)=true∧l.all (fun r=>!zca f r)=false)∧Good E0 B.slices_IndexFunc_Expr [] (zoO l f i ) (Shut 0 fun rZ hZ=>rZ=(iv r)∧hZ=[])):=by
 obtain ⟨kk,hk⟩:∃ kk,i+kk=(l).length:=⟨(l).length - i,by omega⟩
 induction kk generalizing i  with
 | zero =>
  have e0:i=(l).length:=by omega
  subst e0
  exact .inl ⟨hI,by simp,fun R hg=>hg⟩
 | succ kk ih =>
  obtain ⟨x,hx⟩:=zaC (l:=l) (i:=i) (by omega)
  have h0:decide (((i:Nat):Int) < (((l.map zaK).length:Nat):Int))=true:=by simp;omega
  have hw:IntKind.i64.wrap (((i:Nat):Int)+1)=((i+1:Nat):Int):=zao i (by first|omega|(simp only [zad,Few] at *;omega))
  have hfx:=hf x (List.mem_of_getElem? hx)
  let p_1:List St:=[sb h0,se (zah zaK hx rfl),sc hfx]
  cases h1:zca f x
  ·exact (ih (i+1) (by omega) (by exact zcp hI hx (by simp only [*];rfl)) (by omega)).elim (fun ⟨qZ,xZ,gZ⟩=>.inl ⟨qZ,xZ,fun R hg=>zaa (wkl (p_1++[sb h1,si hw]) [0,1,7,8] 0 kr (gZ R hg))⟩) (fun ⟨rY,pZ,gZ⟩=>.inr ⟨rY,pZ,zaa (wkl [sb h0,se (zah zaK hx rfl),sc hfx,sb h1,si hw] [0,1,7,8] 0 kr gZ)⟩)
  ·exact .inr ⟨(i:Int),(by exact ⟨by simp,zbL hx (by simp only [*];rfl)⟩),zaa (wkr (p_1++[sb h1]) kr)⟩
theorem c_ixR (l:List (List X)) (f:X→Bool) (hl:zad l) (hf:∀ x∈l,Pure S.syntax_validRows_c1 [xsl x] (bv (zca f x))):∃ (r:Int),decide (0≤r)=!l.all (fun r=>!zca f r)∧zac E0 S.slices_IndexFunc_Expr [.sl (l.map zaK),.fn S.syntax_validRows_c1 []] [] (iv r) []:=by
 rcases zdj l f ziE hf 0 ziE ziE with ⟨q1,q1_1,g1⟩|⟨r1_0,p1_0,g1⟩
 ·exact ⟨-1,(by first|(have h:=(by assumption:List.all (List.take _ _) _=true);rw [List.take_length] at h;rw [h];rfl)|(have h:=(by assumption:_∧List.all _ _=false);rw [h.1,h.2];rfl)),wkc At.slices_IndexFunc_Expr [] [0,1,7,8] 0 kr (g1 _ (zaa (wkr [sb q1_1] kr)))⟩
 ·exact ⟨r1_0,(by first|(have h:=(by assumption:List.all (List.take _ _) _=true);rw [List.take_length] at h;rw [h];rfl)|(have h:=(by assumption:_∧List.all _ _=false);rw [h.1,h.2];rfl)),wkc At.slices_IndexFunc_Expr [] [0,1,7,8] 0 kr (g1)⟩
theorem c_cfR (l:List (List X)) (b:Bool) (hi:∃ r:Int,decide (0≤r)=b∧zac E0 S.slices_IndexFunc_Expr [.sl (l.map zaK),.fn S.syntax_validRows_c1 []] [] (iv r) []):∃ (r:Bool),r=b∧zac E0 S.slices_ContainsFunc_Expr [.sl (l.map zaK),.fn S.syntax_validRows_c1 []] [] (bv r) []:=by
 obtain ⟨r1,q1,c1⟩:=hi
 exact ⟨decide ((0:Int)≤r1),(by assumption),wk At.slices_ContainsFunc_Expr [sc c1] kr⟩
def ze5 (f:X→Bool) (l:List (List X)):Bool:=bif decide (((l.map zaK).length:Int)≤8) then l.all (fun r=>!zca f r) else false
theorem zif (l:List (List X)) (f:X→Bool) (hi:zac E0 S.slices_ContainsFunc_Expr [.sl (l.map zaK),.fn S.syntax_validRows_c1 []] [] (bv (!l.all (fun r=>!zca f r))) []):∃ (r:Bool),r=ze5 f l∧zac E0 S.syntax_validRows [.sl (l.map zaK)] [] (bv r) []:=by
 cases h1:decide ((↑(List.map zaK l).length:Int)≤8)
 ·exact ⟨false,(by (clear hi;simp only [ze5,cond_true,cond_false,Bool.not_not, *])),wk At.syntax_validRows [sb h1] kr⟩
 ·exact ⟨!!l.all fun r=>!zca f r,(by (clear hi;simp only [ze5,cond_true,cond_false,Bool.not_not, *])),wk At.syntax_validRows [sg h1,sc hi] kr⟩
theorem zhA {n:Nat} {l:List (List X)} (hl:zad l) (h:∀ r∈l,Few r∧∀ x∈r,XOk n x):zac E0 S.syntax_validRows [.sl (l.map zaK)] [] (bv (ze5 (vX n) l)) []:=by
 obtain ⟨r,rfl,h⟩:=c_cfR l _ (c_ixR l (vX n) hl fun x hx=>zky (zaH (h x hx).1) (h x hx).2)
 obtain ⟨r,rfl,h⟩:=zif l (vX n) h
 exact h
def nmL:List Str→List Str→Bool
 | _,[]=>true
 | pre,s::r=>bif !zbb s then false else bif hasS pre s then false else nmL (pre++[s]) r
def zfi (l:List Str):Bool:=bif decide (8 < ((l.map zbD).length:Int)) then false else nmL [] l
theorem zrn {l:List Str} {i:Nat} {x:Str} (h:nmL [] l=nmL (l.take i) (l.drop i)) (hx:l[i]?=some x) (h1:(!zbb x)=false) (h2:hasS (l.take i) x=false):nmL [] l=nmL (l.take (i+1)) (l.drop (i+1)):=by
 obtain ⟨hi,e⟩:=List.getElem?_eq_some_iff.1 hx
 rw [h,List.drop_eq_getElem_cons hi,e]
 simp only [nmL,h1,h2,cond_false]
 rw [List.take_add_one,hx];rfl
theorem zkf {l:List Str} {i:Nat} {x:Str} (h:nmL [] l=nmL (l.take i) (l.drop i)) (hx:l[i]?=some x) (h1:(!zbb x)=true∨hasS (l.take i) x=true):nmL [] l=false:=by
 obtain ⟨hi,e⟩:=List.getElem?_eq_some_iff.1 hx
 rw [h,List.drop_eq_getElem_cons hi,e]
 rcases h1 with h1|h1
 ·simp only [nmL,h1,cond_true]
 ·simp only [nmL,h1,cond_true];cases !zbb x <;> rfl
theorem nm_end {l:List Str} (h:nmL [] l=nmL (l.take l.length) (l.drop l.length)):nmL [] l=true:=by
 rw [h,List.drop_length];rfl
noncomputable def L_nm (l:List Str) (i:Nat) :Cfg:=zaw B.syntax_names 0 [(0,ssl l),(8,ssl l),(9,iv ((l.map zbD).length:Nat)),(10,iv (i:Nat))] []
theorem zfO (l:List Str) (hl:zad l) (i:Nat)  (hi:i≤(l).length) (hI:nmL [] l=nmL (l.take i) (l.drop i)):((nmL [] l=nmL (l.take (l).length) (l.drop (l).length))∧(decide ((((l).length:Nat):Int) < (((l.map zbD).length:Nat):Int))=false)∧∀ R,Good E0 B.syntax_names [] (L_nm l (l).length ) R→Good E0 B.syntax_names [] (L_nm l i ) R)∨(∃ (r:Bool),(r=false∧nmL [] l=false)∧Good E0 B.syntax_names [] (L_nm l i ) (Shut 0 fun rZ hZ=>rZ=(bv r)∧hZ=[])):=by
 obtain ⟨kk,hk⟩:∃ kk,i+kk=(l).length:=⟨(l).length - i,by omega⟩
 induction kk generalizing i  with
 | zero =>
  have e0:i=(l).length:=by omega
  subst e0
  exact .inl ⟨hI,by simp,fun R hg=>hg⟩
 | succ kk ih =>
  obtain ⟨x,hx⟩:=zaC (l:=l) (i:=i) (by omega)
  have h0:decide (((i:Nat):Int) < (((l.map zbD).length:Nat):Int))=true:=by simp;omega
  have hw:IntKind.i64.wrap (((i:Nat):Int)+1)=((i+1:Nat):Int):=zao i (by first|omega|(simp only [zad,Few] at *;omega))
  have hc:zac E0 S.slices_Contains_string [.sl ((l.map zbD).take i),sv x] [] (bv (hasS (l.take i) x)) []:=by
   rw [← List.map_take];exact zfE (l.take i) x (by simp only [zad,List.length_take] at *;omega)
  let p_1:List St:=[sb h0,se (zah (fun s=>[sv s]) hx rfl),sc (zai x)]
  cases h1:!zbb x
  ·let p_2:List St:=p_1++[sg h1,sqx (SubAt (List.map (fun s=>[sv s]) l) 0 (i:Int) 1),sc hc]
   cases h2:hasS (List.take i l) x
   ·exact (ih (i+1) (by omega) (by exact zrn hI hx (by assumption) (by assumption)) (by omega)).elim (fun ⟨qZ,xZ,gZ⟩=>.inl ⟨qZ,xZ,fun R hg=>zaa (wkl (p_2++[sb h2,si hw]) [0,8,9,10] 0 kr (gZ R hg))⟩) (fun ⟨rY,pZ,gZ⟩=>.inr ⟨rY,pZ,zaa (wkl [sb h0,se (zah (fun s=>[sv s]) hx rfl),sc (zai x),sg h1,sqx (SubAt (List.map (fun s=>[sv s]) l) 0 (i:Int) 1),sc hc,sb h2,si hw] [0,8,9,10] 0 kr gZ)⟩)
   ·exact .inr ⟨false,(by first|exact ⟨rfl,zkf hI hx (.inl (by assumption))⟩|exact ⟨rfl,zkf hI hx (.inr (by assumption))⟩),zaa (wkr (p_2++[sb h2]) kr)⟩
  ·exact .inr ⟨false,(by first|exact ⟨rfl,zkf hI hx (.inl (by assumption))⟩|exact ⟨rfl,zkf hI hx (.inr (by assumption))⟩),zaa (wkr (p_1++[sb h1]) kr)⟩
theorem zkm (l:List Str) (hl:zad l):∃ (r:Bool),r=zfi l∧zac E0 S.syntax_names [ssl l] [] (bv r) []:=by
 cases h1:decide (8 < (↑(List.map (fun s=>[sv s]) l).length:Int))
 ·rcases zfO l ziE 0 ziE ziE with ⟨q2,q2_1,g2⟩|⟨r2_0,p2_0,g2⟩
  ·exact ⟨true,zo5,wkc At.syntax_names [sb h1] [0,8,9,10] 0 kr (g2 _ (zaa (wkr [sb q2_1] kr)))⟩
  ·exact ⟨r2_0,zo5,wkc At.syntax_names [sb h1] [0,8,9,10] 0 kr (g2)⟩
 ·exact ⟨false,zo5,wk At.syntax_names [sb h1] kr⟩
theorem zkv (l:List Str) (hl:zad l):zac E0 S.syntax_names [ssl l] [] (bv (zfi l)) []:=by
 obtain ⟨r,rfl,h⟩:=zkm l hl
 exact h
def zdZ (f:X→Bool) (l:List Se):Bool:=bif l.all (fun s=>f s.ex) then zfi (l.map Se.col) else false
noncomputable def L_vs (l:List Se) (f:X→Bool) (i:Nat) (cs:List Str):Cfg:=zaw B.syntax_validSets 0 [(3,.own 0 cs.length),(6,.sl (l.map Se.cells)),(7,iv ((l.map Se.cells).length:Nat)),(8,iv (i:Nat))] [.row Ty.string (cs.map zbD) false]
theorem zeL (l:List Se) (f:X→Bool) (hl:zad l) (hf:∀ x∈l,Pure S.syntax_ValidExpr [x.ex.av] (bv (f x.ex))) (i:Nat) (cs:List Str) (hi:i≤(l).length) (hI:cs=(l.take i).map Se.col∧(l.take i).all (fun s=>f s.ex)=true):(∃ (cs':List Str),(cs'=(l.take (l).length).map Se.col∧(l.take (l).length).all (fun s=>f s.ex)=true)∧(decide ((((l).length:Nat):Int) < (((l.map Se.cells).length:Nat):Int))=false)∧∀ R,Good E0 B.syntax_validSets [] (L_vs l f (l).length cs') R→Good E0 B.syntax_validSets [] (L_vs l f i cs) R)∨(∃ (r:Bool),(r=false∧l.all (fun s=>f s.ex)=false)∧Good E0 B.syntax_validSets [] (L_vs l f i cs) (Shut 0 fun rZ hZ=>rZ=(bv r)∧hZ=[])):=by
 obtain ⟨kk,hk⟩:∃ kk,i+kk=(l).length:=⟨(l).length - i,by omega⟩
 induction kk generalizing i cs with
 | zero =>
  have e0:i=(l).length:=by omega
  subst e0
  exact .inl ⟨cs,hI,by simp,fun R hg=>hg⟩
 | succ kk ih =>
  obtain ⟨x,hx⟩:=zaC (l:=l) (i:=i) (by omega)
  have h0:decide (((i:Nat):Int) < (((l.map Se.cells).length:Nat):Int))=true:=by simp;omega
  have hw:IntKind.i64.wrap (((i:Nat):Int)+1)=((i+1:Nat):Int):=zao i (by first|omega|(simp only [zad,Few] at *;omega))
  have hfx:=hf x (List.mem_of_getElem? hx)
  have hcl:cs.length≤1000000000:=by rw [hI.1];simp only [zad,List.length_map,List.length_take] at *;omega
  let p_1:List St:=[sb h0,se (zah Se.cells hx rfl),sqx (AllLen [[sv x.col]] 1∧cs.length=(List.map zbD cs).length∧(((List.map zbD cs).length+[[sv x.col]].length) * 16).le 140737488355328),sc hfx]
  cases h1:!f x.ex
  ·exact (ih (i+1) (cs++[x.col]) (by omega) (by exact ⟨by rw [hI.1,List.take_add_one,hx];simp,zcp hI.2 hx (notT (by assumption))⟩) (by omega)).elim (fun ⟨csZ,qZ,xZ,gZ⟩=>.inl ⟨csZ,qZ,xZ,fun R hg=>zaa (wkl (p_1++[sb h1,si hw]) [3,6,7,8] 1 kr (zav (show ([(3,AV.own 0 (List.map zbD cs++[[sv x.col]]).length),(6,AV.sl (List.map Se.cells l)),(7,iv (↑(List.map Se.cells l).length:Int)),(8,iv (↑(i+1):Int))]:TS)=_ by first|rfl|(simp;done)|(simp [X.cells,Qy.cells,V.cells,Col.cells,Rw.cells,Tb.cells,Fr.cells,Sch.cells,Tp.cells,Pl.cells,xCol,xLit,xBin,xNeg,Ac.cells,Se.cells];done)) (show ([Blk.row Ty.string (List.map zbD cs++[[sv x.col]]) false]:Heap)=_ by first|rfl|(simp;done)|(simp [X.cells,Qy.cells,V.cells,Col.cells,Rw.cells,Tb.cells,Fr.cells,Sch.cells,Tp.cells,Pl.cells,xCol,xLit,xBin,xNeg,Ac.cells,Se.cells];done)) (gZ R hg)))⟩) (fun ⟨rY,pZ,gZ⟩=>.inr ⟨rY,pZ,zaa (wkl [sb h0,se (zah Se.cells hx rfl),sqx (AllLen [[sv x.col]] 1∧cs.length=(List.map zbD cs).length∧(((List.map zbD cs).length+[[sv x.col]].length) * 16).le 140737488355328),sc hfx,sb h1,si hw] [3,6,7,8] 1 kr (zav (show ([(3,AV.own 0 (List.map zbD cs++[[sv x.col]]).length),(6,AV.sl (List.map Se.cells l)),(7,iv (↑(List.map Se.cells l).length:Int)),(8,iv (↑(i+1):Int))]:TS)=_ by first|rfl|(simp;done)|(simp [X.cells,Qy.cells,V.cells,Col.cells,Rw.cells,Tb.cells,Fr.cells,Sch.cells,Tp.cells,Pl.cells,xCol,xLit,xBin,xNeg,Ac.cells,Se.cells];done)) (show ([Blk.row Ty.string (List.map zbD cs++[[sv x.col]]) false]:Heap)=_ by first|rfl|(simp;done)|(simp [X.cells,Qy.cells,V.cells,Col.cells,Rw.cells,Tb.cells,Fr.cells,Sch.cells,Tp.cells,Pl.cells,xCol,xLit,xBin,xNeg,Ac.cells,Se.cells];done)) gZ))⟩)
  ·exact .inr ⟨false,(by exact ⟨rfl,zbL hx (notF (by assumption))⟩),zaa (wkr (p_1++[sb h1]) kr)⟩
theorem zhT (l:List Se) (f:X→Bool) (hl:zad l) (hf:∀ x∈l,Pure S.syntax_ValidExpr [x.ex.av] (bv (f x.ex))):∃ (r:Bool),r=zdZ f l∧zac E0 S.syntax_validSets [.sl (l.map Se.cells)] [] (bv r) []:=by
 rcases zeL l f zlp hf 0 ([]) zlp zlp with ⟨cs1,q1,q1_1,g1⟩|⟨r1_0,p1_0,g1⟩
 ·exact ⟨zfi cs1,(by first|(have h:=‹_=List.map Se.col _∧List.all _ _=true›;obtain ⟨h7,h8⟩:=h;rw [List.take_length] at h7 h8;rw [h7];unfold zdZ;rw [h8];rfl)|(have h:=‹_∧List.all _ _=false›;unfold zdZ;rw [h.1,h.2];rfl)),wkcN At.syntax_validSets [] [3,6,7,8] 0 [(.ot 3 Ty.string,1)] kr (g1 _ (zaa (wkr [sb q1_1,skx (cs1.length=(List.map zbD cs1).length∧True) [] (zkv cs1 zlp)] kr)))⟩
 ·exact ⟨r1_0,(by first|(have h:=‹_=List.map Se.col _∧List.all _ _=true›;obtain ⟨h7,h8⟩:=h;rw [List.take_length] at h7 h8;rw [h7];unfold zdZ;rw [h8];rfl)|(have h:=‹_∧List.all _ _=false›;unfold zdZ;rw [h.1,h.2];rfl)),wkcN At.syntax_validSets [] [3,6,7,8] 0 [(.ot 3 Ty.string,1)] kr (g1)⟩
theorem zhI {n:Nat} {l:List Se} (hl:zad l) (h:∀ s∈l,XOk n s.ex):zac E0 S.syntax_validSets [.sl (l.map Se.cells)] [] (bv (zdZ (vX n) l)) []:=by
 obtain ⟨r,rfl,h⟩:=zhT l (vX n) hl fun s hs=>zb0 n s.ex (h s hs)
 exact h
end Go.AM
namespace Go.AM
set_option maxRecDepth 100000
set_option maxHeartbeats 1000000
set_option linter.unusedSimpArgs false
set_option linter.unusedVariables false
theorem ze2 {p:Prop} (h:p:=by (first|rw [← qy0_eq (by assumption)]|skip);(clear hr hs hw hq;simp only [zoV,cond_true,cond_false, *])):p:=h
theorem zgY {p:Prop} (h:p:=by (clear hr hs hw hq;simp only [zoe,cond_true,cond_false, *])):p:=h
theorem zit {p:Prop} (h:p:=by (clear hr hs hw hq;simp only [zo7,cond_true,cond_false, *])):p:=h
abbrev zlm (a:Ac):Bool:=decide (0 < ((a.rows.map zaK).length:Int))
abbrev zoX (a:Ac):Bool:=decide (0 < ((zaf a.query).length:Int))
abbrev zph (a:Ac):Bool:=decide (0 < ((a.sets.map Se.cells).length:Int))
abbrev hasW_ (a:Ac):Bool:=decide (0 < ((zab a.wh).length:Int))
abbrev noT_ (a:Ac):Bool:=a.text.toList==sNo.toList
abbrev eqRQ (a:Ac):Bool:=zlm a==zoX a
def qy0 (f:X→Bool) (a:Ac):Bool:=match a.query with
 | q::_=>qyB f q
 | []=>false
theorem qy0_eq {f:X→Bool} {a:Ac} {q:Qy} (h:a.query[0]?=some q):qy0 f a=qyB f q:=by
 unfold qy0
 cases hq:a.query with
 | nil=>rw [hq] at h;simp at h
 | cons x r=>rw [hq] at h;simp at h;subst h;rfl
def zoV (f:X→Bool) (a:Ac):Bool:=bif !zbb a.table then false else bif eqRQ a then false else bif zph a then false else bif hasW_ a then false else bif !noT_ a then false else bif ze5 f a.rows then (bif zlm a then true else bif ((zaf a.query).length:Int)==1 then qy0 f a else false) else false
def zoe (f:X→Bool) (a:Ac):Bool:=bif zbb a.table then (bif !zlm a then (bif !zoX a then (bif zph a then (bif !!noT_ a then (bif zdZ f a.sets then zcS f a.wh else false) else false) else false) else false) else false) else false
def zo7 (f:X→Bool) (a:Ac):Bool:=bif zbb a.table then (bif !zlm a then (bif !zoX a then (bif !zph a then (bif !!noT_ a then zcS f a.wh else false) else false) else false) else false) else false
theorem zft (a:Ac) (f:X→Bool) (hr:zac E0 S.syntax_validRows [.sl (a.rows.map zaK)] [] (bv (ze5 f a.rows)) []) (hs:zac E0 S.syntax_validSets [.sl (a.sets.map Se.cells)] [] (bv (zdZ f a.sets)) []) (hw:zac E0 S.syntax_condition [xsl a.wh] [] (bv (zcS f a.wh)) []) (hq:∀ q∈a.query,zac E0 S.syntax_ValidQuery [q.av] [] (bv (qyB f q)) []):∃ (r:Bool),r=zoV f a∧zac E0 S.syntax_ValidAction [.agg (acc 1 a)] [] (bv r) []:=by
 cases h1:!zbb a.table
 ·cases h2:decide (0 < (↑(List.map zaK a.rows).length:Int))==decide (0 < (↑(zaf a.query).length:Int))
  ·cases h3:decide (0 < (↑(List.map Se.cells a.sets).length:Int))
   ·cases h4:decide (0 < (↑(zab a.wh).length:Int))
    ·cases h5:!ByteArray.toList a.text==(ByteArray.mk #[]).toList
     ·cases h6:ze5 f a.rows
      ·exact ⟨false,ze2,wk At.syntax_ValidAction [sd [],sc (zai a.table),sb (rfl:true=true),sg h1,sg h2,sg h3,sg h4,sb h5,sc hr,sb h6] kr⟩
      ·cases h7:decide (0 < (↑(List.map zaK a.rows).length:Int))
       ·cases h8:(↑(zaf a.query).length:Int)==1
        ·exact ⟨false,ze2,wk At.syntax_ValidAction [sd [],sc (zai a.table),sb (rfl:true=true),sg h1,sg h2,sg h3,sg h4,sb h5,sc hr,sg h6,sg h7,sb h8] kr⟩
        ·obtain ⟨x9,e9⟩:=zaC (l:=a.query) (i:=0) (by first|assumption|omega|exact List.mem_of_getElem? (by assumption)|(simp only [beq_iff_eq,zdp] at *;omega))
         exact ⟨qyB f x9,ze2,wk At.syntax_ValidAction [sd [],sc (zai a.table),sb (rfl:true=true),sg h1,sg h2,sg h3,sg h4,sb h5,sc hr,sg h6,sg h7,sg h8,se (zaF e9),sc (hq x9 (by first|assumption|omega|exact List.mem_of_getElem? (by assumption)|(simp only [beq_iff_eq,zdp] at *;omega)))] kr⟩
       ·exact ⟨true,ze2,wk At.syntax_ValidAction [sd [],sc (zai a.table),sb (rfl:true=true),sg h1,sg h2,sg h3,sg h4,sb h5,sc hr,sg h6,sb h7] kr⟩
     ·exact ⟨false,ze2,wk At.syntax_ValidAction [sd [],sc (zai a.table),sb (rfl:true=true),sg h1,sg h2,sg h3,sg h4,sb h5] kr⟩
    ·exact ⟨false,ze2,wk At.syntax_ValidAction [sd [],sc (zai a.table),sb (rfl:true=true),sg h1,sg h2,sg h3,sb h4] kr⟩
   ·exact ⟨false,ze2,wk At.syntax_ValidAction [sd [],sc (zai a.table),sb (rfl:true=true),sg h1,sg h2,sb h3] kr⟩
  ·exact ⟨false,ze2,wk At.syntax_ValidAction [sd [],sc (zai a.table),sb (rfl:true=true),sg h1,sb h2] kr⟩
 ·exact ⟨false,ze2,wk At.syntax_ValidAction [sd [],sc (zai a.table),sb (rfl:true=true),sb h1] kr⟩
theorem zfp (a:Ac) (f:X→Bool) (hr:zac E0 S.syntax_validRows [.sl (a.rows.map zaK)] [] (bv (ze5 f a.rows)) []) (hs:zac E0 S.syntax_validSets [.sl (a.sets.map Se.cells)] [] (bv (zdZ f a.sets)) []) (hw:zac E0 S.syntax_condition [xsl a.wh] [] (bv (zcS f a.wh)) []) (hq:∀ q∈a.query,zac E0 S.syntax_ValidQuery [q.av] [] (bv (qyB f q)) []):∃ (r:Bool),r=zoe f a∧zac E0 S.syntax_ValidAction [.agg (acc 2 a)] [] (bv r) []:=by
 cases h1:zbb a.table
 ·exact ⟨false,zgY,wk At.syntax_ValidAction [sd [],sc (zai a.table),sb (rfl:false=false),sb (rfl:true=true),sb h1] kr⟩
 ·cases h2:!decide (0 < (↑(List.map zaK a.rows).length:Int))
  ·exact ⟨false,zgY,wk At.syntax_ValidAction [sd [],sc (zai a.table),sb (rfl:false=false),sb (rfl:true=true),sg h1,sb h2] kr⟩
  ·cases h3:!decide (0 < (↑(zaf a.query).length:Int))
   ·exact ⟨false,zgY,wk At.syntax_ValidAction [sd [],sc (zai a.table),sb (rfl:false=false),sb (rfl:true=true),sg h1,sg h2,sb h3] kr⟩
   ·cases h4:decide (0 < (↑(List.map Se.cells a.sets).length:Int))
    ·exact ⟨false,zgY,wk At.syntax_ValidAction [sd [],sc (zai a.table),sb (rfl:false=false),sb (rfl:true=true),sg h1,sg h2,sg h3,sb h4] kr⟩
    ·cases h5:!!ByteArray.toList a.text==(ByteArray.mk #[]).toList
     ·exact ⟨false,zgY,wk At.syntax_ValidAction [sd [],sc (zai a.table),sb (rfl:false=false),sb (rfl:true=true),sg h1,sg h2,sg h3,sg h4,sb h5] kr⟩
     ·cases h6:zdZ f a.sets
      ·exact ⟨false,zgY,wk At.syntax_ValidAction [sd [],sc (zai a.table),sb (rfl:false=false),sb (rfl:true=true),sg h1,sg h2,sg h3,sg h4,sg h5,sc hs,sb h6] kr⟩
      ·exact ⟨zcS f a.wh,zgY,wk At.syntax_ValidAction [sd [],sc (zai a.table),sb (rfl:false=false),sb (rfl:true=true),sg h1,sg h2,sg h3,sg h4,sg h5,sc hs,sg h6,sc hw] kr⟩
theorem zfh (a:Ac) (f:X→Bool) (hr:zac E0 S.syntax_validRows [.sl (a.rows.map zaK)] [] (bv (ze5 f a.rows)) []) (hs:zac E0 S.syntax_validSets [.sl (a.sets.map Se.cells)] [] (bv (zdZ f a.sets)) []) (hw:zac E0 S.syntax_condition [xsl a.wh] [] (bv (zcS f a.wh)) []) (hq:∀ q∈a.query,zac E0 S.syntax_ValidQuery [q.av] [] (bv (qyB f q)) []):∃ (r:Bool),r=zo7 f a∧zac E0 S.syntax_ValidAction [.agg (acc 3 a)] [] (bv r) []:=by
 cases h1:zbb a.table
 ·exact ⟨false,zit,wk At.syntax_ValidAction [sd [],sc (zai a.table),sb (rfl:false=false),sb (rfl:false=false),sb (rfl:true=true),sb h1] kr⟩
 ·cases h2:!decide (0 < (↑(List.map zaK a.rows).length:Int))
  ·exact ⟨false,zit,wk At.syntax_ValidAction [sd [],sc (zai a.table),sb (rfl:false=false),sb (rfl:false=false),sb (rfl:true=true),sg h1,sb h2] kr⟩
  ·cases h3:!decide (0 < (↑(zaf a.query).length:Int))
   ·exact ⟨false,zit,wk At.syntax_ValidAction [sd [],sc (zai a.table),sb (rfl:false=false),sb (rfl:false=false),sb (rfl:true=true),sg h1,sg h2,sb h3] kr⟩
   ·cases h4:!decide (0 < (↑(List.map Se.cells a.sets).length:Int))
    ·exact ⟨false,zit,wk At.syntax_ValidAction [sd [],sc (zai a.table),sb (rfl:false=false),sb (rfl:false=false),sb (rfl:true=true),sg h1,sg h2,sg h3,sb h4] kr⟩
    ·cases h5:!!ByteArray.toList a.text==(ByteArray.mk #[]).toList
     ·exact ⟨false,zit,wk At.syntax_ValidAction [sd [],sc (zai a.table),sb (rfl:false=false),sb (rfl:false=false),sb (rfl:true=true),sg h1,sg h2,sg h3,sg h4,sb h5] kr⟩
     ·exact ⟨zcS f a.wh,zit,wk At.syntax_ValidAction [sd [],sc (zai a.table),sb (rfl:false=false),sb (rfl:false=false),sb (rfl:true=true),sg h1,sg h2,sg h3,sg h4,sg h5,sc hw] kr⟩
def actB (f:X→Bool) (a:Ac):Bool:=bif a.kind==1 then zoV f a else bif a.kind==2 then zoe f a else zo7 f a
theorem zhh {n:Nat} {a:Ac} (h:AcOk n a) (hk:1≤a.kind∧a.kind≤3):zac E0 S.syntax_ValidAction [a.av] [] (bv (actB (vX n) a)) []:=by
 have h1:=zhA (zaH h.rows) h.row
 have h2:=zhI (zaH h.sets) h.set
 have h3:=zeM (zaH h.wh) h.w
 have h4:∀ q∈a.query,zac E0 S.syntax_ValidQuery [q.av] [] (bv (qyB (vX n) q)) []:=fun q hq=>zhu (h.qs q hq)
 have hk:a.kind=1∨a.kind=2∨a.kind=3:=by omega
 rcases hk with hk|hk|hk
 ·obtain ⟨r,rfl,h5⟩:=zft a (vX n) h1 h2 h3 h4
  have e:a.av=.agg (acc 1 a):=by rw [← hk];rfl
  rw [e];unfold actB;rw [hk];exact h5
 ·obtain ⟨r,rfl,h5⟩:=zfp a (vX n) h1 h2 h3 h4
  have e:a.av=.agg (acc 2 a):=by rw [← hk];rfl
  rw [e];unfold actB;rw [hk];exact h5
 ·obtain ⟨r,rfl,h5⟩:=zfh a (vX n) h1 h2 h3 h4
  have e:a.av=.agg (acc 3 a):=by rw [← hk];rfl
  rw [e];unfold actB;rw [hk];exact h5
end Go.AM
namespace Go.AM
set_option maxRecDepth 100000
set_option maxHeartbeats 1000000
set_option linter.unusedSimpArgs false
set_option linter.unusedVariables false
theorem zcw {p:Prop} (h:p:=by first|(obtain rfl:=pr_end ‹PrI l l.length _›;simp only [pOp,cond_true,cond_false,Bool.or_true,Bool.or_false,Bool.true_or,Bool.false_or,Bool.and_self,Bool.and_true,Bool.and_false,Bool.true_and,Bool.false_and, *];done)|(simp only [pOp,cond_true,cond_false,Bool.or_true,Bool.or_false,Bool.true_or,Bool.false_or,Bool.and_self,Bool.and_true,Bool.and_false,Bool.true_and,Bool.false_and, *];done)):p:=h
theorem zco {p:Prop} (h:p:=by first|assumption|(simp [PrI];done)|omega|rfl):p:=h
theorem zjG {p:Prop} (h:p:=by first|assumption|omega|(simp;done)|(simp;omega)):p:=h
def pfit (a b:Int):Bool :=
 bif a==0 then
  true
 else
  bif b==0 then
   true
  else
   a==b
theorem zfu (a b:Int) :zac E0 S.scope_fits [iv a,iv b] [] (bv (pfit a b)) []:=by
 unfold pfit
 cases h1:a==0
 ·cases h2:b==0
  ·exact wk At.scope_fits [sg h1,sg h2] kr
  ·exact wk At.scope_fits [sg h1,sb h2] kr
 ·exact wk At.scope_fits [sb h1] kr
def pfc (t w:Int):Bool :=
 !pfit t w
theorem zgz (t w:Int) :zac E0 S.scope_all_c1 [iv t,.p 0 0] [.box [iv w]] (bv (pfc t w)) [.box [iv w]]:=by
 exact wk At.scope_all_c1 [sc (zfu t w)] kr
noncomputable def zo1 (l:List Int) (w:Int) (i:Nat) :Cfg:=zaw B.slices_IndexFunc_int 0 [(0,isl l),(1,.fn S.scope_all_c1 [.p 0 0]),(7,iv ((l.map zan).length:Nat)),(8,iv (i:Nat))] [.box [iv w]]
theorem zdv (l:List Int) (w:Int) (hl:zad l) (i:Nat)  (hi:i≤(l).length) (hI:(l.take i).all (fun t=>pfit t w)=true):(((l.take (l).length).all (fun t=>pfit t w)=true)∧(decide ((((l).length:Nat):Int) < (((l.map zan).length:Nat):Int))=false)∧∀ R,Good E0 B.slices_IndexFunc_int [.box [iv w]] (zo1 l w (l).length ) R→Good E0 B.slices_IndexFunc_int [.box [iv w]] (zo1 l w i ) R)∨(∃ (r:Int),(decide (0≤r)=true∧l.all (fun t=>pfit t w)=false)∧Good E0 B.slices_IndexFunc_int [.box [iv w]] (zo1 l w i ) (Shut 1 fun rZ hZ=>rZ=(iv r)∧hZ=[.box [iv w]])):=by
 obtain ⟨kk,hk⟩:∃ kk,i+kk=(l).length:=⟨(l).length - i,by omega⟩
 induction kk generalizing i  with
 | zero =>
  have e0:i=(l).length:=by omega
  subst e0
  exact .inl ⟨hI,by simp,fun R hg=>hg⟩
 | succ kk ih =>
  obtain ⟨x,hx⟩:=zaC (l:=l) (i:=i) (by omega)
  have h0:decide (((i:Nat):Int) < (((l.map zan).length:Nat):Int))=true:=by simp;omega
  have hw:IntKind.i64.wrap (((i:Nat):Int)+1)=((i+1:Nat):Int):=zao i (by first|omega|(simp only [zad,Few] at *;omega))
  let p_1:List St:=[sb h0,se (zah (fun n=>[iv n]) hx rfl),sl [0] (zgz x w)]
  cases h1:pfc x w
  ·exact (ih (i+1) (by omega) (by exact zcp hI hx (notT (show (!pfit x w)=false from (by assumption:pfc x w=false)))) (by omega)).elim (fun ⟨qZ,xZ,gZ⟩=>.inl ⟨qZ,xZ,fun R hg=>zaa (wkl (p_1++[sb h1,si hw]) [0,1,7,8] 1 kr (gZ R hg))⟩) (fun ⟨rY,pZ,gZ⟩=>.inr ⟨rY,pZ,zaa (wkl [sb h0,se (zah (fun n=>[iv n]) hx rfl),sl [0] (zgz x w),sb h1,si hw] [0,1,7,8] 1 kr gZ)⟩)
  ·exact .inr ⟨(i:Int),(by exact ⟨by simp,zbL hx (notF (show (!pfit x w)=true from (by assumption:pfc x w=true)))⟩),zaa (wkr (p_1++[sb h1]) kr)⟩
theorem zgi (l:List Int) (w:Int) (hl:zad l):∃ (r:Int),decide (0≤r)=!l.all (fun t=>pfit t w)∧zac E0 S.slices_IndexFunc_int [isl l,.fn S.scope_all_c1 [.p 0 0]] [.box [iv w]] (iv r) [.box [iv w]]:=by
 rcases zdv l w zjG 0 zjG zjG with ⟨q1,q1_1,g1⟩|⟨r1_0,p1_0,g1⟩
 ·exact ⟨-1,(by first|(have h:=(by assumption:List.all (List.take _ _) _=true);rw [List.take_length] at h;rw [h];rfl)|(have h:=(by assumption:_∧List.all _ _=false);rw [h.1,h.2];rfl)),wkc At.slices_IndexFunc_int [] [0,1,7,8] 1 kr (g1 _ (zaa (wkr [sb q1_1] kr)))⟩
 ·exact ⟨r1_0,(by first|(have h:=(by assumption:List.all (List.take _ _) _=true);rw [List.take_length] at h;rw [h];rfl)|(have h:=(by assumption:_∧List.all _ _=false);rw [h.1,h.2];rfl)),wkc At.slices_IndexFunc_int [] [0,1,7,8] 1 kr (g1)⟩
theorem ze8 (l:List Int) (w:Int) (hl:zad l):∃ (r:Bool),r=!l.all (fun t=>pfit t w)∧zac E0 S.slices_ContainsFunc_int [isl l,.fn S.scope_all_c1 [.p 0 0]] [.box [iv w]] (bv r) [.box [iv w]]:=by
 obtain ⟨r1,q1,c1⟩:=(zgi l w zjG)
 exact ⟨decide ((0:Int)≤r1),(by assumption),wk At.slices_ContainsFunc_int [sl [0] c1] kr⟩
theorem znx (l:List Int) (w:Int) (hl:zad l):∃ (r:Bool),r=l.all (fun t=>pfit t w)∧zac E0 S.scope_all [isl l,iv w] [] (bv r) []:=by
 obtain ⟨r1,q1,c1⟩:=(ze8 l w zjG)
 exact ⟨!r1,(by (have h:=‹_=!List.all _ _›;rw [h];simp;done)),wk At.scope_all [sl [0] c1] kr⟩
theorem zbx (l:List Int) (w:Int) (hl:zad l):zac E0 S.scope_all [isl l,iv w] [] (bv (l.all fun t=>pfit t w)) []:=by
 obtain ⟨r,rfl,h⟩:=znx l w hl
 exact h
def prL:List Int→List Int→Bool
 | _,[]=>true
 | pre,t::r=>pre.all (fun u=>pfit u t)&&prL (pre++[t]) r
def PrI (l:List Int) (i:Nat) (ok:Bool):Prop:=prL [] l=(ok&&prL (l.take i) (l.drop i))
theorem znK {l:List Int} {i:Nat} {x:Int} {ok ok':Bool} (h:PrI l i ok) (hx:l[i]?=some x) (h1:ok'=(ok&&(l.take i).all fun u=>pfit u x)):PrI l (i+1) ok':=by
 unfold PrI at *
 obtain ⟨hi,e⟩:=List.getElem?_eq_some_iff.1 hx
 rw [h,List.drop_eq_getElem_cons hi,e,h1]
 simp only [prL]
 rw [List.take_add_one,hx,Bool.and_assoc];rfl
noncomputable def L_op (e:X) (l:List Int) (i:Nat) (ok:Bool):Cfg:=zaw B.scope_operation 0 [(1,isl l),(6,bv ok),(7,iv 2),(10,isl l),(11,iv ((l.map zan).length:Nat)),(12,iv (i:Nat))] [.box e.cells]
theorem zcH (e:X) (l:List Int) (hl:zad l) (i:Nat) (ok:Bool) (hi:i≤(l).length) (hI:PrI l i ok):∃ (ok':Bool),(PrI l (l).length ok')∧(decide ((((l).length:Nat):Int) < (((l.map zan).length:Nat):Int))=false)∧∀ R,Good E0 B.scope_operation [] (L_op e l (l).length ok') R→Good E0 B.scope_operation [] (L_op e l i ok) R:=by
 obtain ⟨kk,hk⟩:∃ kk,i+kk=(l).length:=⟨(l).length - i,by omega⟩
 induction kk generalizing i ok with
 | zero =>
  have e0:i=(l).length:=by omega
  subst e0
  exact ⟨ok,hI,by simp,fun R hg=>hg⟩
 | succ kk ih =>
  obtain ⟨x,hx⟩:=zaC (l:=l) (i:=i) (by omega)
  have h0:decide (((i:Nat):Int) < (((l.map zan).length:Nat):Int))=true:=by simp;omega
  have hw:IntKind.i64.wrap (((i:Nat):Int)+1)=((i+1:Nat):Int):=zao i (by first|omega|(simp only [zad,Few] at *;omega))
  have hc:zac E0 S.scope_all [.sl ((l.map zan).take i),iv x] [] (bv ((l.take i).all fun t=>pfit t x)) []:=by
   rw [← List.map_take];exact zbx (l.take i) x (by simp only [zad,List.length_take] at *;omega)
  let p_1:List St:=[sb h0,se (zah (fun n=>[iv n]) hx rfl)]
  rcases (Bool.eq_false_or_eq_true ok).symm with h1|h1
  ·obtain ⟨okZ,qZ,xZ,gZ⟩:=ih (i+1) false (by omega) (by exact znK hI hx (by simp only [*];simp)) (by omega);exact ⟨okZ,qZ,xZ,fun R hg=>zaa (wklN (p_1++[sb h1,si hw]) [1,6,7,10,11,12] 1 [(.bl 6,1)] kr (gZ R hg))⟩
  ·obtain ⟨okZ,qZ,xZ,gZ⟩:=ih (i+1) ((List.take i l).all fun t=>pfit t x) (by omega) (by exact znK hI hx (by simp only [*];simp)) (by omega);exact ⟨okZ,qZ,xZ,fun R hg=>zaa (wkl (p_1++[sg h1,sqx (SubAt (List.map (fun n=>[iv n]) l) 0 (i:Int) 1),sc hc,si hw]) [1,6,7,10,11,12] 1 kr (gZ R hg))⟩
def pOp (e:X) (l:List Int):Int × Int :=
 bif e.kind==6 then (2,0)
 else bif e.kind==3 || (e.kind==5&&decide (e.op≤2)) then (bif !l.all (fun t=>pfit t 2) then (0,5) else (2,0))
 else bif e.kind==4 || (e.kind==5&&decide (9≤e.op)) then (bif !l.all (fun t=>pfit t 1) then (0,5) else (1,0))
 else bif !prL [] l then (0,5) else (2,0)
theorem pr_end {l:List Int} {ok:Bool} (h:PrI l l.length ok):ok=prL [] l:=by
 unfold PrI at h;rw [h,List.drop_length];simp [prL]
theorem ziJ (e:X) (l:List Int) (hl:zad l):∃ (t c:Int),(t,c)=pOp e l∧zac E0 S.scope_operation [e.av,isl l] [] (.tup [iv t,iv c]) []:=by
 cases h1:e.kind==6
 ·cases h2:e.kind==3
  ·cases h3:e.kind==5
   ·cases h4:e.kind==4
    ·obtain ⟨ok5,q5,q5_1,g5⟩:=zcH e l zco 0 true zco zco
     cases h6:!ok5
     ·exact ⟨2,0,zcw,wkcN At.scope_operation [sb h1,sb h2,sb h3,sb h4,sb h3] [1,6,7,10,11,12] 1 [(.bl 6,1)] kr (g5 _ (zaa (wkr [sb q5_1,sb h6] kr)))⟩
     ·exact ⟨0,5,zcw,wkcN At.scope_operation [sb h1,sb h2,sb h3,sb h4,sb h3] [1,6,7,10,11,12] 1 [(.bl 6,1)] kr (g5 _ (zaa (wkr [sb q5_1,sb h6] kr)))⟩
    ·cases h7:!l.all fun t=>pfit t 1
     ·exact ⟨1,0,zcw,wk At.scope_operation [sb h1,sb h2,sb h3,sb h4,sc (zbx l 1 zco),sb h7] kr⟩
     ·exact ⟨0,5,zcw,wk At.scope_operation [sb h1,sb h2,sb h3,sb h4,sc (zbx l 1 zco),sb h7] kr⟩
   ·cases h8:decide (e.op≤2)
    ·cases h9:e.kind==4
     ·cases h10:decide (9≤e.op)
      ·obtain ⟨ok11,q11,q11_1,g11⟩:=zcH e l zco 0 true zco zco
       cases h12:!ok11
       ·exact ⟨2,0,zcw,wkcN At.scope_operation [sb h1,sb h2,sg h3,sb h8,sb h9,sg h3,sb h10] [1,6,7,10,11,12] 1 [(.bl 6,1)] kr (g11 _ (zaa (wkr [sb q11_1,sb h12] kr)))⟩
       ·exact ⟨0,5,zcw,wkcN At.scope_operation [sb h1,sb h2,sg h3,sb h8,sb h9,sg h3,sb h10] [1,6,7,10,11,12] 1 [(.bl 6,1)] kr (g11 _ (zaa (wkr [sb q11_1,sb h12] kr)))⟩
      ·cases h13:!l.all fun t=>pfit t 1
       ·exact ⟨1,0,zcw,wk At.scope_operation [sb h1,sb h2,sg h3,sb h8,sb h9,sg h3,sb h10,sc (zbx l 1 zco),sb h13] kr⟩
       ·exact ⟨0,5,zcw,wk At.scope_operation [sb h1,sb h2,sg h3,sb h8,sb h9,sg h3,sb h10,sc (zbx l 1 zco),sb h13] kr⟩
     ·cases h14:!l.all fun t=>pfit t 1
      ·exact ⟨1,0,zcw,wk At.scope_operation [sb h1,sb h2,sg h3,sb h8,sb h9,sc (zbx l 1 zco),sb h14] kr⟩
      ·exact ⟨0,5,zcw,wk At.scope_operation [sb h1,sb h2,sg h3,sb h8,sb h9,sc (zbx l 1 zco),sb h14] kr⟩
    ·cases h15:!l.all fun t=>pfit t 2
     ·exact ⟨2,0,zcw,wk At.scope_operation [sb h1,sb h2,sg h3,sb h8,sc (zbx l 2 zco),sb h15] kr⟩
     ·exact ⟨0,5,zcw,wk At.scope_operation [sb h1,sb h2,sg h3,sb h8,sc (zbx l 2 zco),sb h15] kr⟩
  ·cases h16:!l.all fun t=>pfit t 2
   ·exact ⟨2,0,zcw,wk At.scope_operation [sb h1,sb h2,sc (zbx l 2 zco),sb h16] kr⟩
   ·exact ⟨0,5,zcw,wk At.scope_operation [sb h1,sb h2,sc (zbx l 2 zco),sb h16] kr⟩
 ·exact ⟨2,0,zcw,wk At.scope_operation [sb h1] kr⟩
theorem ziN (e:X) (l:List Int) (hl:zad l):zac E0 S.scope_operation [e.av,isl l] [] (.tup [iv (pOp e l).1,iv (pOp e l).2]) []:=by
 obtain ⟨t,c,h,h2⟩:=ziJ e l hl
 rw [← h];exact h2
end Go.AM
namespace Go.AM
set_option maxRecDepth 100000
set_option maxHeartbeats 1000000
set_option linter.unusedSimpArgs false
set_option linter.unusedVariables false
theorem PrefOk.good {cols:List Col} {vals:List V} (h:zdn cols vals):∀ v∈vals,v.Good:=fun v hv=>by
 obtain ⟨k,hk,hkv⟩:=List.mem_iff_getElem.1 hv
 have hl:=h.len
 obtain ⟨c,hc⟩:=zaC (l:=cols) (i:=k) (by omega)
 exact (h.at_ k c v hc (by rw [← hkv];simp)).good
theorem FsT.ok {frs:List Fr} (h:FsT frs) (n:Nat) (hn:n≤900000):FsOk n frs :=
 ⟨by have:=h.len;omega,fun f hf=>zaH (h.few f hf),fun f hf v hv=>((h.rows f hf).good v hv).small⟩
theorem FsT.g {frs:List Fr} (h:FsT frs):FsG frs:=fun f hf v hv=>(h.rows f hf).good v hv
theorem StoreOk.tbOk {l:List Tb} (h:StoreOk l):TbOk l :=
 ⟨by have:=h.len;simp only [zad];omega,fun x hx=>(h.tabs x hx).2.short,fun x hx=>(h.tabs x hx).1.len,fun x hx r hr v hv=>(((h.tabs x hx).1.rows r hr).good v hv).small⟩
theorem StoreOk.tbG {l:List Tb} (h:StoreOk l):TbG l :=
 ⟨fun x hx r hr v hv=>((h.tabs x hx).1.rows r hr).good v hv,fun x hx=>(h.tabs x hx).1.len⟩
theorem zmM (n:Nat) (hn:n≤1000):FsOk n []:=⟨by simp;omega,fun f hf=>(by cases hf),fun f hf=>(by cases hf)⟩
theorem zn8:FsG []:=fun f hf=>by cases hf
end Go.AM
namespace Go.AM
set_option maxRecDepth 100000
set_option maxHeartbeats 1000000
set_option linter.unusedSimpArgs false
set_option linter.unusedVariables false
structure Sound (ty:Int × Int) (ev:V × Int):Prop where
 code:ty.2=0→ev.2=0∨ev.2=6∨ev.2=7
 kind:ty.2=0→ev.2=0→ev.1.kind=0∨ev.1.kind=ty.1
end Go.AM
namespace Go.AM
set_option maxRecDepth 100000
set_option maxHeartbeats 1000000
set_option linter.unusedSimpArgs false
set_option linter.unusedVariables false
structure Res (w:Int) (r:V × Int):Prop where
 code:r.2=0∨r.2=6∨r.2=7
 kind:r.2=0→r.1.kind=0∨r.1.kind=w
abbrev KOk (v:V) (k:Int):Prop:=v.kind=0∨v.kind=k
/- ### types of operations -/
theorem KOk.trans {v:V} {t k:Int} (h:KOk v t) (ht:t=0∨t=k):KOk v k:=by
 rcases h with h|h
 ·exact .inl h
 ·rcases ht with rfl|rfl
  ·exact .inl h
  ·exact .inr h
inductive Typed:List V→List Int→Prop
 | nil:Typed [] []
 | cons {v:V} {t:Int} {l:List V} {ts:List Int}:KOk v t→Typed l ts→Typed (v::l) (t::ts)
end Go.AM
namespace Go.AM
set_option maxRecDepth 100000
set_option maxHeartbeats 1000000
set_option linter.unusedSimpArgs false
set_option linter.unusedVariables false
def er (f:Fr):Fr:=⟨f.name,f.strict,f.cols,[]⟩
theorem znH (frs:List Fr) (k:Nat):(frs.map er).getD k za2=er (frs.getD k za2):=by
 simp only [List.getD_eq_getElem?_getD,List.getElem?_map]
 cases frs[k]? <;> rfl
theorem znZ (frs:List Fr) (q n:Str):∀ k,rres (frs.map er) q n k=rres frs q n k
 | 0=>rfl
 | k+1=>by
  simp only [rres,zjh,znH,znZ frs q n k]
  rfl
theorem znF (frs:List Fr) (q n:Str):zbn (frs.map er) q n=zbn frs q n:=by
 unfold zbn;rw [List.length_map,znZ]
theorem zqf (frs:List Fr) (q n:Str):rFr (frs.map er) q n=er (rFr frs q n):=by
 unfold rFr;rw [znF,znH]
structure FrRel (tf vf:List Fr):Prop where
 eq:tf.map er=vf.map er
 rows:∀ f∈vf,zdn f.cols f.vals
theorem FrRel.cols {tf vf:List Fr} (h:FrRel tf vf) (q n:Str):(rFr tf q n).cols=(rFr vf q n).cols:=by
 have:er (rFr tf q n)=er (rFr vf q n):=by rw [← zqf,← zqf,h.eq]
 exact (congrArg Fr.cols this:(er _).cols=(er _).cols)
theorem FrRel.ins {tf vf:List Fr} (h:FrRel tf vf) {t:Tb} {v:List V} (hv:zdn t.sch.cols v):FrRel (zaA tf t.sch []) (zat vf t v):=by
 refine ⟨by simp only [zaA,zat,List.map_append,h.eq];rfl,fun f hf=>?_⟩
 simp only [zat,List.mem_append,List.mem_singleton] at hf
 rcases hf with hf|rfl
 ·exact h.rows f hf
 ·exact hv
theorem zmL (tb:List Tb) (n:Str):∀ (l:List Tb) (i:Nat),zg3 tb n l i=match l.find? (fun t=>zaD t n) with|some t=>(t.sch,true)|none=>(⟨⟨#[]⟩,[]⟩,false)
 | [],i=>rfl
 | x::r,i=>by
  simp only [zg3,List.find?,zaD]
  cases h:x.sch.name.toList==n.toList
  ·exact zmL tb n r _
  ·rfl
theorem ze6 (tb:List Tb) (n:Str):zas tb n=match zbC tb n with|some t=>(t.sch,true)|none=>(⟨⟨#[]⟩,[]⟩,false):=zmL tb n tb 0
structure TbT (tb:List Tb):Prop where
 rows:∀ x∈tb,∀ r∈x.rows,zdn x.sch.cols r.vals
 len:∀ x∈tb,x.rows.length≤1000
theorem TbT.g {tb:List Tb} (h:TbT tb):TbG tb:=⟨fun x hx r hr v hv=>(h.rows x hx r hr).good v hv,h.len⟩
theorem FrRel.g {tf vf:List Fr} (h:FrRel tf vf):FsG vf:=fun f hf v hv=>(h.rows f hf).good v hv
end Go.AM
namespace Go.AM
set_option maxRecDepth 100000
set_option maxHeartbeats 1000000
set_option linter.unusedSimpArgs false
set_option linter.unusedVariables false
theorem zmf {tb:List Tb} {n:Str} {x:Tb} (h:AtI tb (idxF (fun t=>zaD t n) tb 0) x):zas tb n=(x.sch,true):=by
 obtain ⟨h0,h1⟩:=h
 rw [ze6]
 rcases zc3 (fun t=>zaD t n) tb 0 with ⟨h2,_⟩|⟨j,y,h2,h3,h4⟩
 ·omega
 ·rw [h2] at h1
  have:((0+j:Nat):Int).toNat=j:=by omega
  rw [this,h3] at h1
  cases h1
  unfold zbC;rw [h4]
theorem zms {tb:List Tb} {n:Str} (h:decide (idxF (fun t=>zaD t n) tb 0 < 0)=true):zas tb n=(⟨⟨#[]⟩,[]⟩,false):=by
 rw [ze6]
 rcases zc3 (fun t=>zaD t n) tb 0 with ⟨_,h2⟩|⟨j,y,h2,h3,h4⟩
 ·unfold zbC;rw [h2]
 ·simp only [decide_eq_true_eq] at h;omega
theorem zrT {tb:List Tb} {n:Str} (h:decide (idxF (fun t=>zaD t n) tb 0 < 0)=false):0≤idxF (fun t=>zaD t n) tb 0∧idxF (fun t=>zaD t n) tb 0 < ((tb.length:Nat):Int):=by
 simp only [decide_eq_false_iff_not] at h
 have:=zkt (fun t=>zaD t n) tb 0
 exact ⟨by omega,by rcases this with h|h <;> omega⟩
theorem zeT (t:Tb) (n:Str) :zac E0 S.scope_Source_c1 [.agg t.cells,.p 0 0] [.box [sv n]] (bv (zaD t n)) [.box [sv n]]:=by
 exact wk At.scope_Source_c1 [] kr
noncomputable def zlQ (tb:List Tb) (n:Str) (i:Nat):Cfg:=zaw B.slices_IndexFunc_Table 0 [(0,.sl (tb.map Tb.cells)),(1,.fn S.scope_Source_c1 [.p 0 0]),(7,iv ((tb.map Tb.cells).length:Nat)),(8,iv (i:Nat))] [.box [sv n]]
theorem zm0 (tb:List Tb) (n:Str) (hl:zad tb):∀ (k i:Nat),i+k=tb.length→Good E0 B.slices_IndexFunc_Table [.box [sv n]] (zlQ tb n i) (Shut 1 fun r h=>r=iv (idxF (fun t=>zaD t n) (tb.drop i) i)∧h=[.box [sv n]]):=by
 intro k
 induction k with
 | zero =>
  intro i hi
  refine zaa ?_
  have h0:decide ((i:Int) < (((tb.map Tb.cells).length:Nat):Int))=false:=by simp;omega
  have e0:tb.drop i=[]:=List.drop_of_length_le (by omega)
  rw [e0]
  exact zdr E0ok mix0 3000 (y:=AV.v (Value.int IntKind.i64 (-1:Int))) (H:=[Blk.box [AV.v (Value.string n)]]) [sb h0] kr (⟨rfl,rfl⟩)
 | succ k ih =>
  intro i hi
  have ih:=ih (i+1) (by omega)
  obtain ⟨x,hx⟩:=zaC (l:=tb) (i:=i) (by omega)
  have h0:decide ((i:Int) < (((tb.map Tb.cells).length:Nat):Int))=true:=by simp;omega
  have hw:=zao i (by omega)
  rw [za6 hx]
  simp only [idxF]
  refine zaa ?_
  cases h1:zaD x n
  ·exact zdk E0ok mix0 3000 (c':=zlQ tb n (i+(1:Nat))) [sb h0,se (zah Tb.cells hx rfl),sl [(0:Nat)] (zeT x n),sb h1,si hw] [0,1,7,8] 1 kr kr (by simpa only [cond_true,cond_false,h1] using ih)
  ·exact zdr E0ok mix0 3000 (y:=AV.v (Value.int IntKind.i64 (i:Int))) (H:=[Blk.box [AV.v (Value.string n)]]) [sb h0,se (zah Tb.cells hx rfl),sl [(0:Nat)] (zeT x n),sb h1] kr (⟨by simp only [cond_true,cond_false,h1],rfl⟩)
theorem zqu (tb:List Tb) (n:Str) (hl:zad tb):zac E0 S.slices_IndexFunc_Table [.sl (tb.map Tb.cells),.fn S.scope_Source_c1 [.p 0 0]] [.box [sv n]] (iv (idxF (fun t=>zaD t n) tb 0)) [.box [sv n]]:=by
 exact zei E0ok mix0 At.slices_IndexFunc_Table rfl kr kr 3000 (c':=zlQ tb n (0:Nat)) [] [0,1,7,8] 1 kr kr (by simpa using zm0 tb n hl tb.length 0 (by simp))
theorem zkF (tb:List Tb) (n:Str) (h2:zad tb) (h3:∀ x∈tb,zad x.sch.cols) (hix:zac E0 S.slices_IndexFunc_Table [.sl (tb.map Tb.cells),.fn S.scope_Source_c1 [.p 0 0]] [.box [sv n]] (iv (idxF (fun t=>zaD t n) tb 0)) [.box [sv n]]):∃ (s:Sch) (b:Bool),(s,b)=zas tb n∧zac E0 S.scope_Source [tsl tb,sv n] [] (.tup [s.av,bv b]) []:=by
 cases h1:decide (idxF (fun t=>zaD t n) tb 0 < 0)
 ·obtain ⟨x2,e2⟩:=zpJ (l:=tb) (i:=idxF (fun t=>zaD t n) tb (0:Nat)) (by exact zrT (by assumption))
  exact ⟨x2.sch,true,(by first|exact (zmf (by assumption)).symm|exact (zms (by assumption)).symm),wk At.scope_Source [sqx ((True∧x2.sch.cols.length=(List.map Col.cells x2.sch.cols).length∧True)∧True∧True),sl [0] hix,sb h1,se (zfX Tb.cells e2 rfl),sc (zgF x2.sch.cols (by first|assumption|exact h3 _ (List.mem_of_getElem? (And.right ‹AtI _ _ _›))))] kr⟩
 ·exact ⟨Sch.mk (ByteArray.mk #[]) [],false,(by first|exact (zmf (by assumption)).symm|exact (zms (by assumption)).symm),wk At.scope_Source [sl [0] hix,sb h1] kr⟩
theorem zee (tb:List Tb) (n:Str) (h2:zad tb) (h3:∀ x∈tb,zad x.sch.cols):zac E0 S.scope_Source [tsl tb,sv n] [] (.tup [(zas tb n).1.av,bv (zas tb n).2]) []:=by
 obtain ⟨s,b,h,h2⟩:=zkF tb n h2 h3 (zqu tb n h2)
 rw [← h];exact h2
theorem zkA (fr:List Fr) (s:Sch) (h2:zad fr):∃ (r:List Fr),r=zaA fr s []∧zac E0 S.scope_inside [fsl fr,s.av] [] (fsl r) []:=by
 exact ⟨fr++[Fr.mk s.name false s.cols []],(by rfl),(by (try simp only [X.av,Qy.av,V.av,Tb.av,Sch.av,Pl.av,xsl,fsl,vsl,tsl,List.map_append,List.map_cons,List.map_nil,V.cells,Col.cells,Rw.cells,Tb.cells,Fr.cells,Sch.cells,Pl.cells,zaU,zaJ,zaO,zaM,zaP,X.cells,Qy.cells,X.args_mk,X.sub_mk,Qy.items_mk,Qy.wh_mk,xCol,xLit,xBin,xNeg,Ac.cells,Se.cells]);exact wk At.scope_inside [sqx ((List.map Fr.cells fr++[[sv s.name,bv false,AV.sl (List.map Col.cells s.cols),AV.sl []]]).length=(List.map Fr.cells fr++[[sv s.name,bv false,AV.sl (List.map Col.cells s.cols),AV.sl []]]).length),sd [(1,[sc (zcB fr (by first|assumption|omega|(simp;done)|(simp;omega)))]),(8,[sqx (AllLen [[sv s.name,bv false,AV.sl (List.map Col.cells s.cols),AV.sl []]] 4∧fr.length=(List.map Fr.cells fr).length∧(((List.map Fr.cells fr).length+[[sv s.name,bv false,AV.sl (List.map Col.cells s.cols),AV.sl []]].length) * 72).le 140737488355328)])]] kr)⟩
theorem zgx (fr:List Fr) (s:Sch) (h2:zad fr):zac E0 S.scope_inside [fsl fr,s.av] [] (fsl (zaA fr s [])) []:=by
 obtain ⟨r,rfl,h⟩:=zkA fr s h2
 exact h
end Go.AM
namespace Go.AM
set_option maxRecDepth 100000
set_option maxHeartbeats 1000000
set_option linter.unusedSimpArgs false
set_option linter.unusedVariables false
theorem zb4 {p:Prop} (h:p:=by first|assumption|exact hfo.short|exact hfo.cols|exact hfo.wrap|exact notT ‹(!zcJ e)=false›|(have h9:=eq_of_beq ‹(e.kind==_)=true›;omega)):p:=h
theorem zpa {p:Prop} (h:p:=by first|assumption|exact hfo.short|exact hto.len|exact hto.cols):p:=h
theorem zrJ (frs:List Fr) (q n:Str) (h:(!(zbi frs q n).2.2)=false):ElAt ((rFr frs q n).cols.map Col.cells) (zbi frs q n).2.1 (rCol frs q n).cells 4:=by
 rw [zge] at h ⊢;exact zrE frs q n (by simpa using h)
def zmI (f:X→Int × Int) (x:X):Int :=
 bif (f x).snd==0 then
  bif !pfit (f x).fst 2 then
   5
  else
   (f x).snd
 else
  (f x).snd
theorem zg0 (f:X→Int × Int) (x:X) (r:List X) (frs:List Fr) (tb:List Tb) (hn:((((zab (x::r)).length:Nat):Int)==0)=false) (hf:Pure S.scope_Type [x.av,fsl frs,tsl tb] (.tup [iv (f x).1,iv (f x).2])):zac E0 S.scope_Condition [xsl (x::r),fsl frs,tsl tb] [] (iv (zmI f x)) []:=by
 unfold zmI
 let p_1:List St:=[sb (rfl:false=false),se (za9 (l:=x::r) (i:=0) (x:=x) rfl),sc hf]
 cases h1:(f x).snd==0
 ·exact wk At.scope_Condition (p_1++[sb h1]) kr
 ·let p_2:List St:=p_1++[sg h1,sc (zfu ((f x).fst) 2)]
  cases h2:!pfit (f x).fst 2
  ·exact wk At.scope_Condition (p_2++[sb h2]) kr
  ·exact wk At.scope_Condition (p_2++[sb h2]) kr
def zqg :Int :=
 0
theorem zg8  (frs:List Fr) (tb:List Tb):zac E0 S.scope_Condition [xsl [],fsl frs,tsl tb] [] (iv zqg) []:=by
 exact wk At.scope_Condition [sb (rfl:true=true)] kr
noncomputable def L_ptyL (f:X→Int × Int) (e:X) (frs:List Fr) (tb:List Tb) (i:Nat) (l:List Int):Cfg:=zaw B.scope_Type 0 [(1,fsl frs),(2,tsl tb),(3,.p 0 0),(11,.own 1 l.length),(62,xsl e.args),(63,iv ((zab e.args).length:Nat)),(64,iv (i:Nat))] [.box e.cells,.row Ty.int (l.map fun n=>[iv n]) false]
def ptyL (f:X→Int × Int) (e:X) (frs:List Fr) (tb:List Tb):List (X)→Nat→(List Int)→Int × Int
 | [],i,l =>
  ((pOp e l).fst,(pOp e l).snd)
 | x::r,i,l =>
  bif (f x).snd != 0 then
   (0,(f x).snd)
  else
   ptyL f e frs tb r (i+1) (l++[(f x).fst])
theorem znr (f:X→Int × Int) (e:X) (frs:List Fr) (tb:List Tb) (hl:zad e.args) (hf:∀ x∈e.args,Pure S.scope_Type [x.av,fsl frs,tsl tb] (.tup [iv (f x).1,iv (f x).2])):∀ (kk i:Nat) (l:List Int),i+kk=(e.args).length→(l.length≤i)→Good E0 B.scope_Type [] (L_ptyL f e frs tb i l) (Shut 0 fun r h=>r=(.tup [iv (ptyL f e frs tb ((e.args).drop i) i l).1,iv (ptyL f e frs tb ((e.args).drop i) i l).2])∧h=[]):=by
 intro kk
 induction kk with
 | zero =>
  intro i l hi ho
  have h0:decide (((i:Nat):Int) < (((zab e.args).length:Nat):Int))=false:=by simp;omega
  have e0:(e.args).drop i=[]:=List.drop_of_length_le (by omega)
  rw [e0]
  simp only [ptyL]
  refine zaa ?_
  exact wkr [sb h0,skx ((True∧True∧True∧True∧True∧True∧True∧True∧True∧True∧True)∧l.length=(List.map (fun n=>[iv n]) l).length∧True) [] (ziN e l (by first|assumption|(simp only [zad] at *;omega)))] kr
 | succ kk ih =>
  intro i l hi ho
  obtain ⟨x,hx⟩:=zaC (l:=e.args) (i:=i) (by omega)
  have h0:decide (((i:Nat):Int) < (((zab e.args).length:Nat):Int))=true:=by simp;omega
  have hw:=zao i (by first|omega|(simp only [zad,Few] at *;omega))
  have hfx:=hf x (List.mem_of_getElem? hx)
  rw [za6 hx]
  simp only [ptyL]
  refine zaa ?_
  cases h1:(f x).snd != 0
  ·exact wkl [sb h0,se (za9 hx),sc hfx,sb h1,sqx (AllLen [[iv (f x).fst]] 1∧l.length=(List.map (fun n=>[iv n]) l).length∧(((List.map (fun n=>[iv n]) l).length+[[iv (f x).fst]].length) * 8).le 140737488355328),si hw] [1,2,3,11,62,63,64] 2 kr (zav (show ([(1,AV.sl (List.map Fr.cells frs)),(2,AV.sl (List.map Tb.cells tb)),(3,AV.p 0 0),(11,AV.own 1 (List.map (fun n=>[iv n]) l++[[iv (f x).fst]]).length),(62,AV.sl (zab e.args)),(63,iv (↑(zab e.args).length:Int)),(64,iv (↑(i+1):Int))]:TS)=_ by first|rfl|(simp;done)|(simp [X.cells,Qy.cells,V.cells,Col.cells,Rw.cells,Tb.cells,Fr.cells,Sch.cells,Tp.cells,Pl.cells,xCol,xLit,xBin,xNeg,Ac.cells,Se.cells];done)) (show ([Blk.box [iv e.kind,iv e.op,bv e.not,iv e.val.kind,iv e.val.int,sv e.val.text,sv e.table,sv e.name,AV.sl (zab e.args),AV.sl (zaf e.sub)],Blk.row Ty.int (List.map (fun n=>[iv n]) l++[[iv (f x).fst]]) false]:Heap)=_ by first|rfl|(simp;done)|(simp [X.cells,Qy.cells,V.cells,Col.cells,Rw.cells,Tb.cells,Fr.cells,Sch.cells,Tp.cells,Pl.cells,xCol,xLit,xBin,xNeg,Ac.cells,Se.cells];done)) (ih (i+1) (l++[(f x).fst]) (by omega) (by first|assumption|(simp;done)|(simp;omega)|omega|(simp at *;omega))))
  ·exact wkr [sb h0,se (za9 hx),sc hfx,sb h1] kr
noncomputable def L_ptqL (f:X→Int × Int) (cond:Int) (e:X) (q:Qy) (s:Sch) (ins:List Fr) (tb:List Tb) (i:Nat) (item:Int):Cfg:=zaw B.scope_aggregate 0 [(2,tsl tb),(3,.p 0 0),(8,.p 1 0),(11,fsl ins),(12,iv item),(35,xsl q.items),(36,iv ((zab q.items).length:Nat)),(37,iv (i:Nat))] [.box e.cells,.box q.cells,.box s.cells]
def ptqL (f:X→Int × Int) (cond:Int) (e:X) (q:Qy) (s:Sch) (ins:List Fr) (tb:List Tb):List (X)→Nat→(Int)→Int × Int
 | [],i,item =>
  bif cond != 0 then
   (0,cond)
  else
   bif e.kind==10 then
    bif !pfit item 1 then
     (0,5)
    else
     bif e.kind==8 then
      (2,0)
     else
      bif e.kind==9 then
       (1,0)
      else
       (1,0)
   else
    bif e.kind==8 then
     (2,0)
    else
     bif e.kind==9 then
      (1,0)
     else
      (item,0)
 | x::r,i,item =>
  bif (f x).snd != 0 then
   (0,(f x).snd)
  else
   ptqL f cond e q s ins tb r (i+1) ((f x).fst)
theorem zmX (f:X→Int × Int) (cond:Int) (e:X) (q:Qy) (s:Sch) (ins:List Fr) (tb:List Tb) (hl:zad q.items) (hf:∀ x∈q.items,Pure S.scope_Type [x.av,fsl ins,tsl tb] (.tup [iv (f x).1,iv (f x).2])) (hc:Pure S.scope_Condition [xsl q.wh,fsl ins,tsl tb] (iv cond)):∀ (kk i:Nat) (item:Int),i+kk=(q.items).length→Good E0 B.scope_aggregate [] (L_ptqL f cond e q s ins tb i item) (Shut 0 fun r h=>r=(.tup [iv (ptqL f cond e q s ins tb ((q.items).drop i) i item).1,iv (ptqL f cond e q s ins tb ((q.items).drop i) i item).2])∧h=[]):=by
 intro kk
 induction kk with
 | zero =>
  intro i item hi
  have h0:decide (((i:Nat):Int) < (((zab q.items).length:Nat):Int))=false:=by simp;omega
  have e0:(q.items).drop i=[]:=List.drop_of_length_le (by omega)
  rw [e0]
  simp only [ptqL]
  refine zaa ?_
  cases h1:cond != 0
  ·cases h2:e.kind==10
   ·cases h3:e.kind==8
    ·cases h4:e.kind==9
     ·exact wkr [sb h0,sc hc,sb h1,sb h2,sb h3,sb h4,sb h2] kr
     ·exact wkr [sb h0,sc hc,sb h1,sb h2,sb h3,sb h4] kr
    ·exact wkr [sb h0,sc hc,sb h1,sb h2,sb h3] kr
   ·let p_1:List St:=[sb h0,sc hc,sb h1,sg h2,sc (zfu item 1)]
    cases h5:!pfit item 1
    ·cases h6:e.kind==8
     ·cases h7:e.kind==9
      ·exact wkr (p_1++[sb h5,sb h6,sb h7,sb h2]) kr
      ·exact wkr (p_1++[sb h5,sb h6,sb h7]) kr
     ·exact wkr (p_1++[sb h5,sb h6]) kr
    ·exact wkr (p_1++[sb h5]) kr
  ·exact wkr [sb h0,sc hc,sb h1] kr
 | succ kk ih =>
  intro i item hi
  obtain ⟨x,hx⟩:=zaC (l:=q.items) (i:=i) (by omega)
  have h0:decide (((i:Nat):Int) < (((zab q.items).length:Nat):Int))=true:=by simp;omega
  have hw:=zao i (by first|omega|(simp only [zad,Few] at *;omega))
  have hfx:=hf x (List.mem_of_getElem? hx)
  rw [za6 hx]
  simp only [ptqL]
  refine zaa ?_
  cases h1:(f x).snd != 0
  ·exact wkl [sb h0,se (za9 hx),sc hfx,sb h1,si hw] [2,3,8,11,12,35,36,37] 3 kr (ih (i+1) ((f x).fst) (by omega) )
  ·exact wkr [sb h0,se (za9 hx),sc hfx,sb h1] kr
def ptqF (f:X→Int × Int) (cond:Int) (e:X) (q:Qy) (frs:List Fr) (tb:List Tb):Int × Int :=
 bif !(zas tb q.frm).snd then
  (0,3)
 else
  ptqL f cond e q (zas tb q.frm).1 (zaA frs (zas tb q.frm).1 []) tb q.items 0 (0)
theorem ziM (f:X→Int × Int) (cond:Int) (e:X) (q:Qy) (frs:List Fr) (tb:List Tb) (n:Nat) (hq:e.sub[0]?=some q) (hfo:FsOk n frs) (hto:TbOk tb) (hl:zad q.items) (hf:∀ x∈q.items,Pure S.scope_Type [x.av,fsl (zaA frs (zas tb q.frm).1 []),tsl tb] (.tup [iv (f x).1,iv (f x).2])) (hc:Pure S.scope_Condition [xsl q.wh,fsl (zaA frs (zas tb q.frm).1 []),tsl tb] (iv cond)):zac E0 S.scope_aggregate [e.av,fsl frs,tsl tb] [] (.tup [iv (ptqF f cond e q frs tb).1,iv (ptqF f cond e q frs tb).2]) []:=by
 unfold ptqF
 let p_1:List St:=[se (zaF hq),sc (zee tb q.frm zpa zpa)]
 cases h1:!(zas tb q.frm).snd
 ·exact wkc At.scope_aggregate (p_1++[sb h1,sc (zgx frs ((zas tb q.frm).fst) zpa)]) [2,3,8,11,12,35,36,37] 3 kr (by have ih:=zmX f cond e q (zas tb q.frm).1 (zaA frs (zas tb q.frm).1 []) tb hl hf hc q.items.length 0 0 (by simp);exact ih)
 ·exact wk At.scope_aggregate (p_1++[sb h1]) kr
def ptyF (f:X→Int × Int) (ag:Int × Int) (e:X) (frs:List Fr) (tb:List Tb):Int × Int :=
 bif !zcJ e then
  (0,17)
 else
  bif e.kind==1 then
   (e.val.kind,0)
  else
   bif e.kind==2 then
    bif !(zbi frs e.table e.name).snd.snd then
     (0,3)
    else
     ((rCol frs e.table e.name).type,0)
   else
    bif e.kind==8 then
     (ag.fst,ag.snd)
    else
     bif e.kind==9 then
      (ag.fst,ag.snd)
     else
      bif e.kind==10 then
       (ag.fst,ag.snd)
      else
       bif e.kind==11 then
        (ag.fst,ag.snd)
       else
        bif e.kind==12 then
         (ag.fst,ag.snd)
        else
         ptyL f e frs tb e.args 0 ([])
theorem zj5 (f:X→Int × Int) (ag:Int × Int) (e:X) (frs:List Fr) (tb:List Tb) (n:Nat) (hfo:FsOk n frs) (hl:zad e.args) (hf:∀ x∈e.args,Pure S.scope_Type [x.av,fsl frs,tsl tb] (.tup [iv (f x).1,iv (f x).2])) (hagg:zcJ e=true→8≤e.kind→e.kind≤12→Pure S.scope_aggregate [e.av,fsl frs,tsl tb] (.tup [iv ag.1,iv ag.2])):zac E0 S.scope_Type [e.av,fsl frs,tsl tb] [] (.tup [iv (ptyF f ag e frs tb).1,iv (ptyF f ag e frs tb).2]) []:=by
 unfold ptyF
 cases h1:!zcJ e
 ·cases h2:e.kind==1
  ·let p_1:List St:=[sc (zaY e),sb h1,sb h2]
   cases h3:e.kind==2
   ·cases h4:e.kind==8
    ·cases h5:e.kind==9
     ·cases h6:e.kind==10
      ·cases h7:e.kind==11
       ·cases h8:e.kind==12
        ·exact wkcN At.scope_Type (p_1++[sb h3,sb h4,sb h5,sb h6,sb h7,sb h8]) [1,2,3,11,62,63,64] 1 [(.ot 11 Ty.int,2)] kr (by have ih:=znr f e frs tb hl hf e.args.length 0 ([]) (by simp) (by simp);exact ih)
        ·exact wk At.scope_Type (p_1++[sb h3,sb h4,sb h5,sb h6,sb h7,sb h8,sc (hagg zb4 zb4 zb4)]) kr
       ·exact wk At.scope_Type (p_1++[sb h3,sb h4,sb h5,sb h6,sb h7,sc (hagg zb4 zb4 zb4)]) kr
      ·exact wk At.scope_Type (p_1++[sb h3,sb h4,sb h5,sb h6,sc (hagg zb4 zb4 zb4)]) kr
     ·exact wk At.scope_Type (p_1++[sb h3,sb h4,sb h5,sc (hagg zb4 zb4 zb4)]) kr
    ·exact wk At.scope_Type (p_1++[sb h3,sb h4,sc (hagg zb4 zb4 zb4)]) kr
   ·let p_2:List St:=p_1++[sb h3,sc (zcN frs e.table e.name zb4 zb4 zb4)]
    cases h9:!(zbi frs e.table e.name).snd.snd
    ·exact wk At.scope_Type (p_2++[sb h9,se (zj1 frs e.table e.name zb4),se (zrJ frs e.table e.name zb4)]) kr
    ·exact wk At.scope_Type (p_2++[sb h9]) kr
  ·exact wk At.scope_Type [sc (zaY e),sb h1,sb h2] kr
 ·exact wk At.scope_Type [sc (zaY e),sb h1] kr
def zhV (f:X→Int × Int):List X→Int
 | []=>zqg
 | x::_=>zmI f x
def zct:Nat→X→List Fr→List Tb→Int × Int
 | 0,_,_,_=>(0,0)
 | n+1,e,frs,tb=>ptyF (fun x=>zct n x frs tb) (match e.sub with
  | []=>(0,0)
  | q::_=>ptqF (fun x=>zct n x (rIns frs tb q) tb) (zhV (fun x=>zct n x (rIns frs tb q) tb) q.wh) e q frs tb) e frs tb
theorem zfk {f:X→Int × Int} {wh:List X} {frs:List Fr} {tb:List Tb} (hf:∀ x∈wh,Pure S.scope_Type [x.av,fsl frs,tsl tb] (.tup [iv (f x).1,iv (f x).2])):Pure S.scope_Condition [xsl wh,fsl frs,tsl tb] (iv (zhV f wh)):=by
 cases wh with
 | nil=>exact zg8 frs tb
 | cons x r=>exact zg0 f x r frs tb (by first|(simp;done)|(simp;omega)) (hf x (by simp))
theorem zdB:∀ (n:Nat) (e:X) (frs:List Fr) (tb:List Tb),XOk n e→FsOk n frs→TbOk tb→Pure S.scope_Type [e.av,fsl frs,tsl tb] (.tup [iv (zct n e frs tb).1,iv (zct n e frs tb).2])
 | 0,e,frs,tb,h,_,_=>h.elim
 | n+1,e,frs,tb,h,hf,ht=>by
  obtain ⟨_,ha,hx,hs⟩:=h
  unfold zct
  refine zj5 (fun x=>zct n x frs tb) _ e frs tb (n+1) hf (Thin.short ha.1) (fun x hx'=>zdB n x frs tb (hx x hx') hf.less ht) fun hfm h8 h12=>?_
  obtain ⟨q,hq⟩:=zjP hfm h8 h12
  obtain ⟨h1,h2,h3⟩:=hs q (by simp [hq])
  have h:=ziM (fun x=>zct n x (rIns frs tb q) tb) (zhV (fun x=>zct n x (rIns frs tb q) tb) q.wh) e q frs tb (n+1) (by simp [hq]) hf ht (Thin.short h1.1) (fun x hx'=>zdB n x _ tb (h2 x hx') (hf.ins ht q) ht) (zfk fun x hx'=>zdB n x _ tb (h3 x hx') (hf.ins ht q) ht)
  rw [hq];exact h
end Go.AM
namespace Go.AM
set_option maxRecDepth 100000
set_option maxHeartbeats 1000000
set_option linter.unusedSimpArgs false
set_option linter.unusedVariables false
theorem zoI {p:Prop} (h:p:=by first|assumption|exact hfo.short|exact hto.len|exact hto.cols):p:=h
def ziz (a b:Int):Bool :=
 bif b==0 then
  true
 else
  b==a
theorem zck (a b:Int) :zac E0 S.scope_Assignable [iv a,iv b] [] (bv (ziz a b)) []:=by
 unfold ziz
 cases h1:b==0
 ·exact wk At.scope_Assignable [sg h1] kr
 ·exact wk At.scope_Assignable [sb h1] kr
noncomputable def L_ptsS (cond:Int) (q:Qy) (s:Sch) (ins:List Fr) (tb:List Tb) (i:Nat) (l:List Int):Cfg:=zaw B.scope_Types 0 [(2,tsl tb),(3,.p 0 0),(10,fsl ins),(11,.own 2 l.length),(34,.sl (s.cols.map Col.cells)),(35,iv ((s.cols.map Col.cells).length:Nat)),(36,iv (i:Nat))] [.box q.cells,.box s.cells,.row Ty.int (l.map fun n=>[iv n]) false]
def ptsS (cond:Int) (q:Qy) (s:Sch) (ins:List Fr) (tb:List Tb):List (Col)→Nat→(List Int)→(List Int) × Int
 | [],i,l =>
  bif cond != 0 then
   ([],cond)
  else
   (l,0)
 | x::r,i,l =>
  ptsS cond q s ins tb r (i+1) (l++[x.type])
theorem zmY (cond:Int) (q:Qy) (s:Sch) (ins:List Fr) (tb:List Tb) (hs:zad s.cols) (hc:Pure S.scope_Condition [xsl q.wh,fsl ins,tsl tb] (iv cond)):∀ (kk i:Nat) (l:List Int),i+kk=(s.cols).length→(l.length≤i)→Good E0 B.scope_Types [] (L_ptsS cond q s ins tb i l) (Shut 0 fun r h=>r=(.tup [isl (ptsS cond q s ins tb ((s.cols).drop i) i l).1,iv (ptsS cond q s ins tb ((s.cols).drop i) i l).2])∧h=[]):=by
 intro kk
 induction kk with
 | zero =>
  intro i l hi ho
  have h0:decide (((i:Nat):Int) < (((s.cols.map Col.cells).length:Nat):Int))=false:=by simp;omega
  have e0:(s.cols).drop i=[]:=List.drop_of_length_le (by omega)
  rw [e0]
  simp only [ptsS]
  refine zaa ?_
  cases h1:cond != 0
  ·exact wkr [sqx (l.length=(List.map (fun n=>[iv n]) l).length∧True∧True),sb h0,sc hc,sb h1] kr
  ·exact wkr [sb h0,sc hc,sb h1] kr
 | succ kk ih =>
  intro i l hi ho
  obtain ⟨x,hx⟩:=zaC (l:=s.cols) (i:=i) (by omega)
  have h0:decide (((i:Nat):Int) < (((s.cols.map Col.cells).length:Nat):Int))=true:=by simp;omega
  have hw:=zao i (by first|omega|(simp only [zad,Few] at *;omega))
  rw [za6 hx]
  simp only [ptsS]
  refine zaa ?_
  exact wkl [sb h0,se (zah Col.cells hx rfl),sqx (AllLen [[iv x.type]] 1∧l.length=(List.map (fun n=>[iv n]) l).length∧(((List.map (fun n=>[iv n]) l).length+[[iv x.type]].length) * 8).le 140737488355328),si hw] [2,3,10,11,34,35,36] 3 kr (zav (show ([(2,AV.sl (List.map Tb.cells tb)),(3,AV.p 0 0),(10,AV.sl (List.map Fr.cells ins)),(11,AV.own 2 (List.map (fun n=>[iv n]) l++[[iv x.type]]).length),(34,AV.sl (List.map Col.cells s.cols)),(35,iv (↑(List.map Col.cells s.cols).length:Int)),(36,iv (↑(i+1):Int))]:TS)=_ by first|rfl|(simp;done)|(simp [X.cells,Qy.cells,V.cells,Col.cells,Rw.cells,Tb.cells,Fr.cells,Sch.cells,Tp.cells,Pl.cells,xCol,xLit,xBin,xNeg,Ac.cells,Se.cells];done)) (show ([Blk.box [bv q.star,AV.sl (zab q.items),sv q.frm,AV.sl (zab q.wh)],Blk.box [sv s.name,AV.sl (List.map Col.cells s.cols)],Blk.row Ty.int (List.map (fun n=>[iv n]) l++[[iv x.type]]) false]:Heap)=_ by first|rfl|(simp;done)|(simp [X.cells,Qy.cells,V.cells,Col.cells,Rw.cells,Tb.cells,Fr.cells,Sch.cells,Tp.cells,Pl.cells,xCol,xLit,xBin,xNeg,Ac.cells,Se.cells];done)) (ih (i+1) (l++[x.type]) (by omega) (by first|assumption|(simp;done)|(simp;omega)|omega|(simp at *;omega))))
noncomputable def L_ptsI (f:X→Int × Int) (cond:Int) (q:Qy) (s:Sch) (ins:List Fr) (tb:List Tb) (i:Nat) (l:List Int):Cfg:=zaw B.scope_Types 1 [(2,tsl tb),(3,.p 0 0),(10,fsl ins),(11,.own 2 l.length),(47,xsl q.items),(48,iv ((zab q.items).length:Nat)),(49,iv (i:Nat))] [.box q.cells,.box s.cells,.row Ty.int (l.map fun n=>[iv n]) false]
def ptsI (f:X→Int × Int) (cond:Int) (q:Qy) (s:Sch) (ins:List Fr) (tb:List Tb):List (X)→Nat→(List Int)→(List Int) × Int
 | [],i,l =>
  bif cond != 0 then
   ([],cond)
  else
   (l,0)
 | x::r,i,l =>
  bif (f x).snd != 0 then
   ([],(f x).snd)
  else
   ptsI f cond q s ins tb r (i+1) (l++[(f x).fst])
theorem zm8 (f:X→Int × Int) (cond:Int) (q:Qy) (s:Sch) (ins:List Fr) (tb:List Tb) (hl:zad q.items) (hf:∀ x∈q.items,Pure S.scope_Type [x.av,fsl ins,tsl tb] (.tup [iv (f x).1,iv (f x).2])) (hc:Pure S.scope_Condition [xsl q.wh,fsl ins,tsl tb] (iv cond)):∀ (kk i:Nat) (l:List Int),i+kk=(q.items).length→(l.length≤i)→Good E0 B.scope_Types [] (L_ptsI f cond q s ins tb i l) (Shut 0 fun r h=>r=(.tup [isl (ptsI f cond q s ins tb ((q.items).drop i) i l).1,iv (ptsI f cond q s ins tb ((q.items).drop i) i l).2])∧h=[]):=by
 intro kk
 induction kk with
 | zero =>
  intro i l hi ho
  have h0:decide (((i:Nat):Int) < (((zab q.items).length:Nat):Int))=false:=by simp;omega
  have e0:(q.items).drop i=[]:=List.drop_of_length_le (by omega)
  rw [e0]
  simp only [ptsI]
  refine zaa ?_
  cases h1:cond != 0
  ·exact wkr [sqx (l.length=(List.map (fun n=>[iv n]) l).length∧True∧True),sb h0,sc hc,sb h1] kr
  ·exact wkr [sb h0,sc hc,sb h1] kr
 | succ kk ih =>
  intro i l hi ho
  obtain ⟨x,hx⟩:=zaC (l:=q.items) (i:=i) (by omega)
  have h0:decide (((i:Nat):Int) < (((zab q.items).length:Nat):Int))=true:=by simp;omega
  have hw:=zao i (by first|omega|(simp only [zad,Few] at *;omega))
  have hfx:=hf x (List.mem_of_getElem? hx)
  rw [za6 hx]
  simp only [ptsI]
  refine zaa ?_
  cases h1:(f x).snd != 0
  ·exact wkl [sb h0,se (za9 hx),sc hfx,sb h1,sqx (AllLen [[iv (f x).fst]] 1∧l.length=(List.map (fun n=>[iv n]) l).length∧(((List.map (fun n=>[iv n]) l).length+[[iv (f x).fst]].length) * 8).le 140737488355328),si hw] [2,3,10,11,47,48,49] 3 kr (zav (show ([(2,AV.sl (List.map Tb.cells tb)),(3,AV.p 0 0),(10,AV.sl (List.map Fr.cells ins)),(11,AV.own 2 (List.map (fun n=>[iv n]) l++[[iv (f x).fst]]).length),(47,AV.sl (zab q.items)),(48,iv (↑(zab q.items).length:Int)),(49,iv (↑(i+1):Int))]:TS)=_ by first|rfl|(simp;done)|(simp [X.cells,Qy.cells,V.cells,Col.cells,Rw.cells,Tb.cells,Fr.cells,Sch.cells,Tp.cells,Pl.cells,xCol,xLit,xBin,xNeg,Ac.cells,Se.cells];done)) (show ([Blk.box [bv q.star,AV.sl (zab q.items),sv q.frm,AV.sl (zab q.wh)],Blk.box [sv s.name,AV.sl (List.map Col.cells s.cols)],Blk.row Ty.int (List.map (fun n=>[iv n]) l++[[iv (f x).fst]]) false]:Heap)=_ by first|rfl|(simp;done)|(simp [X.cells,Qy.cells,V.cells,Col.cells,Rw.cells,Tb.cells,Fr.cells,Sch.cells,Tp.cells,Pl.cells,xCol,xLit,xBin,xNeg,Ac.cells,Se.cells];done)) (ih (i+1) (l++[(f x).fst]) (by omega) (by first|assumption|(simp;done)|(simp;omega)|omega|(simp at *;omega))))
  ·exact wkr [sb h0,se (za9 hx),sc hfx,sb h1] kr
def pTys (f:X→Int × Int) (cond:Int) (q:Qy) (frs:List Fr) (tb:List Tb):(List Int) × Int :=
 bif !(zas tb q.frm).snd then
  ([],3)
 else
  bif q.star then
   ptsS cond q (zas tb q.frm).1 (zaA frs (zas tb q.frm).1 []) tb (zas tb q.frm).1.cols 0 ([])
  else
   ptsI f cond q (zas tb q.frm).1 (zaA frs (zas tb q.frm).1 []) tb q.items 0 ([])
theorem zlc (f:X→Int × Int) (cond:Int) (q:Qy) (frs:List Fr) (tb:List Tb) (n:Nat) (hfo:FsOk n frs) (hto:TbOk tb) (hl:zad q.items) (hs:zad (zas tb q.frm).1.cols) (hf:∀ x∈q.items,Pure S.scope_Type [x.av,fsl (zaA frs (zas tb q.frm).1 []),tsl tb] (.tup [iv (f x).1,iv (f x).2])) (hc:Pure S.scope_Condition [xsl q.wh,fsl (zaA frs (zas tb q.frm).1 []),tsl tb] (iv cond)):zac E0 S.scope_Types [q.av,fsl frs,tsl tb] [] (.tup [isl (pTys f cond q frs tb).1,iv (pTys f cond q frs tb).2]) []:=by
 unfold pTys
 let p_1:List St:=[sc (zee tb q.frm zoI zoI)]
 cases h1:!(zas tb q.frm).snd
 ·let p_2:List St:=p_1++[sb h1,sc (zgx frs ((zas tb q.frm).fst) zoI)]
  cases h2:q.star
  ·exact wkcN At.scope_Types (p_2++[sb h2]) [2,3,10,11,47,48,49] 2 [(.ot 11 Ty.int,3)] kr (by have ih:=zm8 f cond q (zas tb q.frm).1 (zaA frs (zas tb q.frm).1 []) tb hl hf hc q.items.length 0 ([]) (by simp) (by simp);exact ih)
  ·exact wkcN At.scope_Types (p_2++[sb h2]) [2,3,10,11,34,35,36] 2 [(.ot 11 Ty.int,3)] kr (by have ih:=zmY cond q (zas tb q.frm).1 (zaA frs (zas tb q.frm).1 []) tb hs hc (zas tb q.frm).1.cols.length 0 ([]) (by simp) (by simp);exact ih)
 ·exact wk At.scope_Types (p_1++[sb h1]) kr
def zen (c:Col) (e:X) (frs:List Fr) (tb:List Tb) (ty:Int × Int):Int :=
 bif ty.snd==0 then
  bif !ziz c.type ty.fst then
   5
  else
   ty.snd
 else
  ty.snd
theorem zcZ (c:Col) (e:X) (frs:List Fr) (tb:List Tb) (ty:Int × Int) (h:Pure S.scope_Type [e.av,fsl frs,tsl tb] (.tup [iv ty.1,iv ty.2])):zac E0 S.dml_assign [.agg c.cells,e.av,fsl frs,tsl tb] [] (iv (zen c e frs tb ty)) []:=by
 unfold zen
 cases h1:ty.snd==0
 ·exact wk At.dml_assign [sc h,sb h1] kr
 ·let p_1:List St:=[sc h,sg h1,sc (zck c.type ty.fst)]
  cases h2:!ziz c.type ty.fst
  ·exact wk At.dml_assign (p_1++[sb h2]) kr
  ·exact wk At.dml_assign (p_1++[sb h2]) kr
theorem zmx (fr:List Fr) (s:Sch) (v:List V) (h2:zad fr):∃ (r:List Fr),r=zaA fr s v∧zac E0 S.dml_inside [fsl fr,s.av,vsl v] [] (fsl r) []:=by
 exact ⟨fr++[Fr.mk s.name false s.cols v],(by rfl),(by (try simp only [X.av,Qy.av,V.av,Tb.av,Sch.av,Pl.av,xsl,fsl,vsl,tsl,List.map_append,List.map_cons,List.map_nil,V.cells,Col.cells,Rw.cells,Tb.cells,Fr.cells,Sch.cells,Pl.cells,zaU,zaJ,zaO,zaM,zaP,X.cells,Qy.cells,X.args_mk,X.sub_mk,Qy.items_mk,Qy.wh_mk,xCol,xLit,xBin,xNeg,Ac.cells,Se.cells]);exact wk At.dml_inside [sqx ((List.map Fr.cells fr++[[sv s.name,bv false,AV.sl (List.map Col.cells s.cols),AV.sl (List.map V.cells v)]]).length=(List.map Fr.cells fr++[[sv s.name,bv false,AV.sl (List.map Col.cells s.cols),AV.sl (List.map V.cells v)]]).length),sd [(1,[sc (zcB fr (by first|assumption|omega|(simp;done)|(simp;omega)))]),(9,[sqx (AllLen [[sv s.name,bv false,AV.sl (List.map Col.cells s.cols),AV.sl (List.map V.cells v)]] 4∧fr.length=(List.map Fr.cells fr).length∧(((List.map Fr.cells fr).length+[[sv s.name,bv false,AV.sl (List.map Col.cells s.cols),AV.sl (List.map V.cells v)]].length) * 72).le 140737488355328)])]] kr)⟩
theorem zdK (fr:List Fr) (s:Sch) (v:List V) (h2:zad fr):zac E0 S.dml_inside [fsl fr,s.av,vsl v] [] (fsl (zaA fr s v)) []:=by
 obtain ⟨r,rfl,h⟩:=zmx fr s v h2
 exact h
end Go.AM
namespace Go.AM
set_option maxRecDepth 100000
set_option maxHeartbeats 1000000
set_option linter.unusedSimpArgs false
set_option linter.unusedVariables false
theorem zlZ {p:Prop} (h:p:=by first|(have h1:=zjp ‹List.all (List.take _ a.rows) _=true›;have h2:=zjp ‹List.all (List.take _ a.query) _=true›;simp only [ziF,h1,h2];simp;done)|(have h1:=And.right ‹_≠(0:Int)∧List.all a.rows _=false›;have h2:=And.left ‹_≠(0:Int)∧List.all a.rows _=false›;simp only [ziF,h1];simp [h2];done)|(have h1:=And.right ‹_≠(0:Int)∧List.all a.query _=false›;have h2:=And.left ‹_≠(0:Int)∧List.all a.query _=false›;simp only [ziF,h1];simp [h2];done)):p:=h
theorem zeA {p:Prop} (h:p:=by first|assumption|omega|(simp only [bne_eq_false_iff_eq,zdq,List.length_map] at *;omega)|(simp;done)):p:=h
theorem zdg {p:Prop} (h:p:=by first|assumption|omega|(simp;done)|(simp;omega)):p:=h
theorem zl4 {p:Prop} (h:p:=by first|exact ⟨by simpa using ‹((qt _).2 != 0)=true›,zbL hx (qTy_e (by assumption))⟩|exact ⟨by omega,zbL hx (zro (by assumption))⟩|exact ⟨(And.left ‹_≠(0:Int)∧_›),zbL hx (qTy_no (And.right ‹_≠(0:Int)∧_›))⟩):p:=h
theorem zkg {p:Prop} (h:p:=by first|omega|(simp only [zad,Few] at *;omega)):p:=h
abbrev PTy (ty:X→Int × Int) (x:X) (frs:List Fr) (tb:List Tb):Prop:=Pure S.scope_Type [x.av,fsl frs,tsl tb] (.tup [iv (ty x).1,iv (ty x).2])
def exOk (ty:X→Int × Int) (frs:List Fr) (tb:List Tb) (p:Col × X):Bool:=!(zen p.1 p.2 frs tb (ty p.2) != 0)
def zeo (ty:X→Int × Int) (frs:List Fr) (tb:List Tb) (s:Sch) (r:List X):Bool:=decide (r.length=s.cols.length)&&(s.cols.zip r).all (exOk ty frs tb)
theorem zpB {s:Sch} {y:List X} {i:Nat} {c:Col} {x:X} (h1:s.cols[i]?=some c) (h2:y[i]?=some x):(s.cols.zip y)[i]?=some (c,x):=by
 rw [List.getElem?_zip_eq_some];exact ⟨h1,h2⟩
theorem zkL {ty:X→Int × Int} {frs:List Fr} {tb:List Tb} {s:Sch} {r:List X} (h:(((zab r).length:Int) != ((s.cols.map Col.cells).length:Int))=true):zeo ty frs tb s r=false:=by
 simp at h;simp [zeo];omega
theorem zlT {ty:X→Int × Int} {frs:List Fr} {tb:List Tb} {s:Sch} {r:List X} (h:(s.cols.zip r).all (exOk ty frs tb)=false):zeo ty frs tb s r=false:=by
 simp only [zeo,h,Bool.and_false]
theorem zq4 {ty:X→Int × Int} {frs:List Fr} {tb:List Tb} {s:Sch} {r:List X} (h1:(((zab r).length:Int) != ((s.cols.map Col.cells).length:Int))=false) (h:((s.cols.zip r).take r.length).all (exOk ty frs tb)=true):zeo ty frs tb s r=true:=by
 have h2:r.length=s.cols.length:=by simp at h1;omega
 rw [List.take_of_length_le (by simp;omega)] at h
 simp only [zeo,h,h2,decide_true,Bool.and_self]
noncomputable def zox (a:Ac) (s:Sch) (frs:List Fr) (tb:List Tb) (ty:X→Int × Int) (io:Nat) (y:List X) (i:Nat) :Cfg:=zaw B.dml_checkInsert 1 [(2,fsl frs),(3,tsl tb),(4,.p 0 0),(5,.p 1 0),(21,.sl (a.rows.map zaK)),(22,iv ((a.rows.map zaK).length:Nat)),(23,iv (io:Nat)),(33,xsl y),(34,iv ((zab y).length:Nat)),(35,iv (i:Nat))] [.box a.cells,.box s.cells]
theorem zeH (a:Ac) (s:Sch) (frs:List Fr) (tb:List Tb) (ty:X→Int × Int) (io:Nat) (y:List X) (hy:zad y) (hty:∀ x∈y,PTy ty x frs tb) (hlen:y.length=s.cols.length) (i:Nat)  (hi:i≤(y).length) (hI:((s.cols.zip y).take i).all (exOk ty frs tb)=true):((((s.cols.zip y).take (y).length).all (exOk ty frs tb)=true)∧(decide ((((y).length:Nat):Int) < (((zab y).length:Nat):Int))=false)∧∀ R,Good E0 B.dml_checkInsert [] (zox a s frs tb ty io y (y).length ) R→Good E0 B.dml_checkInsert [] (zox a s frs tb ty io y i ) R)∨(∃ (r:Int),(r≠0∧(s.cols.zip y).all (exOk ty frs tb)=false)∧Good E0 B.dml_checkInsert [] (zox a s frs tb ty io y i ) (Shut 0 fun rZ hZ=>rZ=(iv r)∧hZ=[])):=by
 obtain ⟨kk,hk⟩:∃ kk,i+kk=(y).length:=⟨(y).length - i,by omega⟩
 induction kk generalizing i  with
 | zero =>
  have e0:i=(y).length:=by omega
  subst e0
  exact .inl ⟨hI,by simp,fun R hg=>hg⟩
 | succ kk ih =>
  obtain ⟨x,hx⟩:=zaC (l:=y) (i:=i) (by omega)
  have h0:decide (((i:Nat):Int) < (((zab y).length:Nat):Int))=true:=by simp;omega
  have hw:IntKind.i64.wrap (((i:Nat):Int)+1)=((i+1:Nat):Int):=zao i zkg
  have hx1:=hty x (List.mem_of_getElem? hx)
  obtain ⟨x1,e1⟩:=zaC (l:=s.cols) (i:=i) zdg
  let p_1:List St:=[sb h0,se (za9 hx),sd [(3,[se (zah Col.cells e1 rfl)]),(8,[sc (zcZ x1 x frs tb (ty x) hx1)])]]
  cases h2:zen x1 x frs tb (ty x) != 0
  ·exact (ih (i+1) (by omega) (by exact zcp hI (zpB ‹s.cols[_]?=some _› hx) (by simp only [exOk, *];rfl)) (by omega)).elim (fun ⟨qZ,xZ,gZ⟩=>.inl ⟨qZ,xZ,fun R hg=>zaa (wkl (p_1++[sb h2,si hw]) [2,3,4,5,21,22,23,33,34,35] 2 kr (gZ R hg))⟩) (fun ⟨rY,pZ,gZ⟩=>.inr ⟨rY,pZ,zaa (wkl [sb h0,se (za9 hx),sd [(3,[se (zah Col.cells e1 rfl)]),(8,[sc (zcZ x1 x frs tb (ty x) hx1)])],sb h2,si hw] [2,3,4,5,21,22,23,33,34,35] 2 kr gZ)⟩)
  ·exact .inr ⟨zen x1 x frs tb (ty x),(by exact ⟨by simpa using ‹(zen _ _ _ _ _ != 0)=true›,zbL (zpB ‹s.cols[_]?=some _› hx) (by simp only [exOk, *];rfl)⟩),zaa (wkr (p_1++[sb h2]) kr)⟩
noncomputable def zoC (a:Ac) (s:Sch) (frs:List Fr) (tb:List Tb) (ty:X→Int × Int) (i:Nat) :Cfg:=zaw B.dml_checkInsert 0 [(2,fsl frs),(3,tsl tb),(4,.p 0 0),(5,.p 1 0),(21,.sl (a.rows.map zaK)),(22,iv ((a.rows.map zaK).length:Nat)),(23,iv (i:Nat))] [.box a.cells,.box s.cells]
theorem zeG (a:Ac) (s:Sch) (frs:List Fr) (tb:List Tb) (ty:X→Int × Int) (hs:zad s.cols) (hr:zad a.rows) (hty:∀ r∈a.rows,zad r∧∀ x∈r,PTy ty x frs tb) (i:Nat)  (hi:i≤(a.rows).length) (hI:(a.rows.take i).all (zeo ty frs tb s)=true):(((a.rows.take (a.rows).length).all (zeo ty frs tb s)=true)∧(decide ((((a.rows).length:Nat):Int) < (((a.rows.map zaK).length:Nat):Int))=false)∧∀ R,Good E0 B.dml_checkInsert [] (zoC a s frs tb ty (a.rows).length ) R→Good E0 B.dml_checkInsert [] (zoC a s frs tb ty i ) R)∨(∃ (r:Int),(r≠0∧a.rows.all (zeo ty frs tb s)=false)∧Good E0 B.dml_checkInsert [] (zoC a s frs tb ty i ) (Shut 0 fun rZ hZ=>rZ=(iv r)∧hZ=[])):=by
 obtain ⟨kk,hk⟩:∃ kk,i+kk=(a.rows).length:=⟨(a.rows).length - i,by omega⟩
 induction kk generalizing i  with
 | zero =>
  have e0:i=(a.rows).length:=by omega
  subst e0
  exact .inl ⟨hI,by simp,fun R hg=>hg⟩
 | succ kk ih =>
  obtain ⟨x,hx⟩:=zaC (l:=a.rows) (i:=i) (by omega)
  have h0:decide (((i:Nat):Int) < (((a.rows.map zaK).length:Nat):Int))=true:=by simp;omega
  have hw:IntKind.i64.wrap (((i:Nat):Int)+1)=((i+1:Nat):Int):=zao i zkg
  have hx1:=(hty x (List.mem_of_getElem? hx)).1;have hx2:=(hty x (List.mem_of_getElem? hx)).2
  cases h1:(↑(zab x).length:Int) != (↑(List.map Col.cells s.cols).length:Int)
  ·rcases zeH a s frs tb ty i x zeA hx2 zeA 0 zeA zeA with ⟨q2,q2_1,g2⟩|⟨r2_0,p2_0,g2⟩
   ·exact (ih (i+1) (by omega) (by exact zcp hI hx (zq4 (by assumption) (by assumption))) (by omega)).elim (fun ⟨qZ,xZ,gZ⟩=>.inl ⟨qZ,xZ,fun R hg=>zaa (wkl [sb h0,se (zah zaK hx rfl),sb h1] [2,3,4,5,21,22,23,33,34,35] 2 kr (g2 _ (zaa (wkl [sb q2_1,si hw] [2,3,4,5,21,22,23] 2 kr (gZ R hg)))))⟩) (fun ⟨rY,pZ,gZ⟩=>.inr ⟨rY,pZ,zaa (wkl [sb h0,se (zah zaK hx rfl),sb h1] [2,3,4,5,21,22,23,33,34,35] 2 kr (g2 _ (zaa (wkl [sb q2_1,si hw] [2,3,4,5,21,22,23] 2 kr gZ))))⟩)
   ·exact .inr ⟨r2_0,(by first|exact ⟨by omega,zbL hx (zkL (by assumption))⟩|exact ⟨(And.left ‹_≠(0:Int)∧_›),zbL hx (zlT (And.right ‹_≠(0:Int)∧_›))⟩),zaa (wkl [sb h0,se (zah zaK hx rfl),sb h1] [2,3,4,5,21,22,23,33,34,35] 2 kr g2)⟩
  ·exact .inr ⟨5,(by first|exact ⟨by omega,zbL hx (zkL (by assumption))⟩|exact ⟨(And.left ‹_≠(0:Int)∧_›),zbL hx (zlT (And.right ‹_≠(0:Int)∧_›))⟩),zaa (wkr [sb h0,se (zah zaK hx rfl),sb h1] kr)⟩
abbrev PTs (qt:Qy→List Int × Int) (q:Qy) (frs:List Fr) (tb:List Tb):Prop:=Pure S.scope_Types [q.av,fsl frs,tsl tb] (.tup [isl (qt q).1,iv (qt q).2])
def asOk (p:Col × Int):Bool:=ziz p.1.type p.2
def qTy (qt:Qy→List Int × Int) (s:Sch) (q:Qy):Bool:=!((qt q).2 != 0)&&(decide ((qt q).1.length=s.cols.length)&&(s.cols.zip (qt q).1).all asOk)
theorem znJ {s:Sch} {y:List Int} {i:Nat} {c:Col} {x:Int} (h1:s.cols[i]?=some c) (h2:y[i]?=some x):(s.cols.zip y)[i]?=some (c,x):=by
 rw [List.getElem?_zip_eq_some];exact ⟨h1,h2⟩
theorem qTy_e {qt:Qy→List Int × Int} {s:Sch} {q:Qy} (h:((qt q).2 != 0)=true):qTy qt s q=false:=by simp only [qTy,h];rfl
theorem zro {qt:Qy→List Int × Int} {s:Sch} {q:Qy} (h:(((((qt q).1.map fun n=>[iv n]):List (List AV)).length:Int) != ((s.cols.map Col.cells).length:Int))=true):qTy qt s q=false:=by
 simp at h;simp [qTy];omega
theorem qTy_no {qt:Qy→List Int × Int} {s:Sch} {q:Qy} (h:(s.cols.zip (qt q).1).all asOk=false):qTy qt s q=false:=by
 simp only [qTy,h,Bool.and_false]
theorem qTy_ok {qt:Qy→List Int × Int} {s:Sch} {q:Qy} (h0:((qt q).2 != 0)=false) (h1:(((((qt q).1.map fun n=>[iv n]):List (List AV)).length:Int) != ((s.cols.map Col.cells).length:Int))=false) (h:((s.cols.zip (qt q).1).take (qt q).1.length).all asOk=true):qTy qt s q=true:=by
 have h2:(qt q).1.length=s.cols.length:=by simp at h1;omega
 rw [List.take_of_length_le (by simp;omega)] at h
 simp only [qTy,h,h0,h2,decide_true,Bool.and_self];rfl
noncomputable def zoT (a:Ac) (s:Sch) (frs:List Fr) (tb:List Tb) (io:Nat) (y:List Int) (i:Nat) :Cfg:=zaw B.dml_checkInsert 3 [(2,fsl frs),(3,tsl tb),(5,.p 1 0),(55,.sl (zaf a.query)),(56,iv ((zaf a.query).length:Nat)),(57,iv (io:Nat)),(79,isl y),(80,iv ((y.map fun n=>[iv n]).length:Nat)),(81,iv (i:Nat))] [.box a.cells,.box s.cells]
theorem zeC (a:Ac) (s:Sch) (frs:List Fr) (tb:List Tb) (io:Nat) (y:List Int) (hy:zad y) (hlen:y.length=s.cols.length) (i:Nat)  (hi:i≤(y).length) (hI:((s.cols.zip y).take i).all asOk=true):((((s.cols.zip y).take (y).length).all asOk=true)∧(decide ((((y).length:Nat):Int) < (((y.map fun n=>[iv n]).length:Nat):Int))=false)∧∀ R,Good E0 B.dml_checkInsert [] (zoT a s frs tb io y (y).length ) R→Good E0 B.dml_checkInsert [] (zoT a s frs tb io y i ) R)∨(∃ (r:Int),(r≠0∧(s.cols.zip y).all asOk=false)∧Good E0 B.dml_checkInsert [] (zoT a s frs tb io y i ) (Shut 0 fun rZ hZ=>rZ=(iv r)∧hZ=[])):=by
 obtain ⟨kk,hk⟩:∃ kk,i+kk=(y).length:=⟨(y).length - i,by omega⟩
 induction kk generalizing i  with
 | zero =>
  have e0:i=(y).length:=by omega
  subst e0
  exact .inl ⟨hI,by simp,fun R hg=>hg⟩
 | succ kk ih =>
  obtain ⟨x,hx⟩:=zaC (l:=y) (i:=i) (by omega)
  have h0:decide (((i:Nat):Int) < (((y.map fun n=>[iv n]).length:Nat):Int))=true:=by simp;omega
  have hw:IntKind.i64.wrap (((i:Nat):Int)+1)=((i+1:Nat):Int):=zao i zkg
  obtain ⟨x1,e1⟩:=zaC (l:=s.cols) (i:=i) zdg
  cases h2:!ziz x1.type x
  ·exact (ih (i+1) (by omega) (by exact zcp hI (znJ ‹s.cols[_]?=some _› hx) (by simp only [asOk, *];simp_all)) (by omega)).elim (fun ⟨qZ,xZ,gZ⟩=>.inl ⟨qZ,xZ,fun R hg=>zaa (wkl [sb h0,se (zah (fun n=>[iv n]) hx rfl),se (zah Col.cells e1 rfl),sc (zck x1.type x),sb h2,si hw] [2,3,5,55,56,57,79,80,81] 2 kr (gZ R hg))⟩) (fun ⟨rY,pZ,gZ⟩=>.inr ⟨rY,pZ,zaa (wkl [sb h0,se (zah (fun n=>[iv n]) hx rfl),se (zah Col.cells e1 rfl),sc (zck x1.type x),sb h2,si hw] [2,3,5,55,56,57,79,80,81] 2 kr gZ)⟩)
  ·exact .inr ⟨5,(by exact ⟨by omega,zbL (znJ ‹s.cols[_]?=some _› hx) (by simp only [asOk, *];simp_all)⟩),zaa (wkr [sb h0,se (zah (fun n=>[iv n]) hx rfl),se (zah Col.cells e1 rfl),sc (zck x1.type x),sb h2] kr)⟩
noncomputable def zoE (a:Ac) (s:Sch) (frs:List Fr) (tb:List Tb) (qt:Qy→List Int × Int) (i:Nat) :Cfg:=zaw B.dml_checkInsert 2 [(2,fsl frs),(3,tsl tb),(5,.p 1 0),(55,.sl (zaf a.query)),(56,iv ((zaf a.query).length:Nat)),(57,iv (i:Nat))] [.box a.cells,.box s.cells]
theorem zeE (a:Ac) (s:Sch) (frs:List Fr) (tb:List Tb) (qt:Qy→List Int × Int) (hs:zad s.cols) (hq:zad a.query) (hty:∀ q∈a.query,zad (qt q).1∧PTs qt q frs tb) (i:Nat)  (hi:i≤(a.query).length) (hI:(a.query.take i).all (qTy qt s)=true):(((a.query.take (a.query).length).all (qTy qt s)=true)∧(decide ((((a.query).length:Nat):Int) < (((zaf a.query).length:Nat):Int))=false)∧∀ R,Good E0 B.dml_checkInsert [] (zoE a s frs tb qt (a.query).length ) R→Good E0 B.dml_checkInsert [] (zoE a s frs tb qt i ) R)∨(∃ (r:Int),(r≠0∧a.query.all (qTy qt s)=false)∧Good E0 B.dml_checkInsert [] (zoE a s frs tb qt i ) (Shut 0 fun rZ hZ=>rZ=(iv r)∧hZ=[])):=by
 obtain ⟨kk,hk⟩:∃ kk,i+kk=(a.query).length:=⟨(a.query).length - i,by omega⟩
 induction kk generalizing i  with
 | zero =>
  have e0:i=(a.query).length:=by omega
  subst e0
  exact .inl ⟨hI,by simp,fun R hg=>hg⟩
 | succ kk ih =>
  obtain ⟨x,hx⟩:=zaC (l:=a.query) (i:=i) (by omega)
  have h0:decide (((i:Nat):Int) < (((zaf a.query).length:Nat):Int))=true:=by simp;omega
  have hw:IntKind.i64.wrap (((i:Nat):Int)+1)=((i+1:Nat):Int):=zao i zkg
  have hx1:=(hty x (List.mem_of_getElem? hx)).1;have hx2:=(hty x (List.mem_of_getElem? hx)).2
  cases h1:(qt x).snd != 0
  ·cases h2:(↑(List.map (fun n=>[iv n]) (qt x).fst).length:Int) != (↑(List.map Col.cells s.cols).length:Int)
   ·rcases zeC a s frs tb i ((qt x).fst) zeA zeA 0 zeA zeA with ⟨q3,q3_1,g3⟩|⟨r3_0,p3_0,g3⟩
    ·exact (ih (i+1) (by omega) (by exact zcp hI hx (qTy_ok (by assumption) (by assumption) (by assumption))) (by omega)).elim (fun ⟨qZ,xZ,gZ⟩=>.inl ⟨qZ,xZ,fun R hg=>zaa (wkl [sb h0,se (zaF hx),sc hx2,sb h1,sb h2] [2,3,5,55,56,57,79,80,81] 2 kr (g3 _ (zaa (wkl [sb q3_1,si hw] [2,3,5,55,56,57] 2 kr (gZ R hg)))))⟩) (fun ⟨rY,pZ,gZ⟩=>.inr ⟨rY,pZ,zaa (wkl [sb h0,se (zaF hx),sc hx2,sb h1,sb h2] [2,3,5,55,56,57,79,80,81] 2 kr (g3 _ (zaa (wkl [sb q3_1,si hw] [2,3,5,55,56,57] 2 kr gZ))))⟩)
    ·exact .inr ⟨r3_0,zl4,zaa (wkl [sb h0,se (zaF hx),sc hx2,sb h1,sb h2] [2,3,5,55,56,57,79,80,81] 2 kr g3)⟩
   ·exact .inr ⟨5,zl4,zaa (wkr [sb h0,se (zaF hx),sc hx2,sb h1,sb h2] kr)⟩
  ·exact .inr ⟨(qt x).snd,zl4,zaa (wkr [sb h0,se (zaF hx),sc hx2,sb h1] kr)⟩
def ziF (ty:X→Int × Int) (qt:Qy→List Int × Int) (frs:List Fr) (tb:List Tb) (s:Sch) (a:Ac):Bool:=a.rows.all (zeo ty frs tb s)&&a.query.all (qTy qt s)
theorem zjp {α:Type} {f:α→Bool} {l:List α} (h:(l.take l.length).all f=true):l.all f=true:=by rwa [List.take_length] at h
theorem ziT (a:Ac) (s:Sch) (frs:List Fr) (tb:List Tb) (ty:X→Int × Int) (qt:Qy→List Int × Int) (hs:zad s.cols) (hr:zad a.rows) (hq:zad a.query) (hty:∀ r∈a.rows,zad r∧∀ x∈r,PTy ty x frs tb) (htq:∀ q∈a.query,zad (qt q).1∧PTs qt q frs tb):∃ (r:Int),(r=0↔ziF ty qt frs tb s a=true)∧zac E0 S.dml_checkInsert [a.av,s.av,fsl frs,tsl tb] [] (iv r) []:=by
 rcases zeG a s frs tb ty zdg zdg hty 0 zdg zdg with ⟨q1,q1_1,g1⟩|⟨r1_0,p1_0,g1⟩
 ·rcases zeE a s frs tb qt zdg zdg htq 0 zdg zdg with ⟨q2,q2_1,g2⟩|⟨r2_0,p2_0,g2⟩
  ·exact ⟨0,zlZ,wkc At.dml_checkInsert [] [2,3,4,5,21,22,23] 2 kr (g1 _ (zaa (wkl [sb q1_1] [2,3,5,55,56,57] 2 kr (g2 _ (zaa (wkr [sb q2_1] kr))))))⟩
  ·exact ⟨r2_0,zlZ,wkc At.dml_checkInsert [] [2,3,4,5,21,22,23] 2 kr (g1 _ (zaa (wkl [sb q1_1] [2,3,5,55,56,57] 2 kr g2)))⟩
 ·exact ⟨r1_0,zlZ,wkc At.dml_checkInsert [] [2,3,4,5,21,22,23] 2 kr (g1)⟩
end Go.AM
namespace Go.AM
set_option maxRecDepth 100000
set_option maxHeartbeats 1000000
set_option linter.unusedSimpArgs false
set_option linter.unusedVariables false
theorem zl9 {p:Prop} (h:p:=by first|(unfold zls;rw [show (a.kind==1)=true by assumption];exact hci)|(unfold zls;rw [show (a.kind==1)=false by assumption];first|(have h1:=zjp ‹List.all (List.take _ a.sets) _=true›;simp only [cond_false,h1];simp;done)|(have h1:=And.right ‹_≠(0:Int)∧List.all a.sets _=false›;have h2:=And.left ‹_≠(0:Int)∧List.all a.sets _=false›;simp only [cond_false,h1];simp [h2];done))):p:=h
theorem zcD {p:Prop} (h:p:=by first|assumption|omega|(simp;done)|(simp;omega)):p:=h
def tgt (a:Ac) (b:Bool) (tb:List Tb):Sch × Int :=
 bif !b then
  (Sch.mk (ByteArray.mk #[]) [],17)
 else
  bif !(zas tb a.table).snd then
   (Sch.mk (ByteArray.mk #[]) [],3)
  else
   ((zas tb a.table).fst,0)
theorem zlM (a:Ac) (b:Bool) (tb:List Tb) (hk1:decide (a.kind < (1:Int))=false) (hk2:decide ((3:Int) < a.kind)=false) (h2:zad tb) (h3:∀ x∈tb,zad x.sch.cols) (hv:zac E0 S.syntax_ValidAction [a.av] [] (bv b) []):zac E0 S.dml_target [a.av,tsl tb] [] (.tup [(tgt a b tb).1.av,iv (tgt a b tb).2]) []:=by
 unfold tgt
 cases h1:!b
 ·let p_1:List St:=[sg hk1,sg hk2,sc hv,sb h1,sc (zee tb a.table zcD zcD)]
  cases h2:!(zas tb a.table).snd
  ·exact wk At.dml_target (p_1++[sb h2]) kr
  ·exact wk At.dml_target (p_1++[sb h2]) kr
 ·exact wk At.dml_target [sg hk1,sg hk2,sc hv,sb h1] kr
theorem zrD {α:Type} {p:α→Bool} {l:List α} {x:α} (h:AtI l (idxF p l 0) x):l.find? p=some x:=by
 obtain ⟨h0,h1⟩:=h
 rcases zc3 p l 0 with ⟨h2,_⟩|⟨j,y,h2,h3,h4⟩
 ·omega
 ·rw [h2] at h1
  have:((0+j:Nat):Int).toNat=j:=by omega
  rw [this,h3] at h1
  cases h1
  exact h4
theorem zpX {α:Type} {p:α→Bool} {l:List α} (h:decide (idxF p l 0 < 0)=true):l.find? p=none:=by
 rcases zc3 p l 0 with ⟨_,h2⟩|⟨j,y,h2,h3,h4⟩
 ·exact h2
 ·simp only [decide_eq_true_eq] at h;omega
theorem idx_in {α:Type} {p:α→Bool} {l:List α} (h:decide (idxF p l 0 < 0)=false):0≤idxF p l 0∧idxF p l 0 < ((l.length:Nat):Int):=by
 simp only [decide_eq_false_iff_not] at h
 have:=zkt p l 0
 exact ⟨by omega,by rcases this with h|h <;> omega⟩
def colF (s:Sch) (n:Str):Option Col:=s.cols.find? fun c=>colC c n
def zf3 (ty:X→Int × Int) (frs:List Fr) (tb:List Tb) (s:Sch) (x:Se):Bool:=match colF s x.col with
 | none=>false
 | some c=>exOk ty frs tb (c,x.ex)
theorem zmc {ty:X→Int × Int} {frs:List Fr} {tb:List Tb} {s:Sch} {x:Se} (h:decide (idxF (fun c=>colC c x.col) s.cols 0 < 0)=true):zf3 ty frs tb s x=false:=by
 unfold zf3 colF;rw [zpX h]
theorem zi9 {ty:X→Int × Int} {frs:List Fr} {tb:List Tb} {s:Sch} {x:Se} {c:Col} (h:AtI s.cols (idxF (fun c=>colC c x.col) s.cols 0) c):zf3 ty frs tb s x=exOk ty frs tb (c,x.ex):=by
 unfold zf3 colF;rw [zrD h]
noncomputable def zou (a:Ac) (s:Sch) (frs:List Fr) (tb:List Tb) (ty:X→Int × Int) (i:Nat) :Cfg:=zaw B.dml_Check 0 [(2,tsl tb),(3,.p 0 0),(7,.p 1 0),(9,fsl frs),(35,.sl (a.sets.map Se.cells)),(36,iv ((a.sets.map Se.cells).length:Nat)),(37,iv (i:Nat))] [.box a.cells,.box s.cells]
theorem zgy (a:Ac) (s:Sch) (frs:List Fr) (tb:List Tb) (ty:X→Int × Int) (hs:zad s.cols) (hr:zad a.sets) (hty:∀ x∈a.sets,PTy ty x.ex frs tb) (i:Nat)  (hi:i≤(a.sets).length) (hI:(a.sets.take i).all (zf3 ty frs tb s)=true):(((a.sets.take (a.sets).length).all (zf3 ty frs tb s)=true)∧(decide ((((a.sets).length:Nat):Int) < (((a.sets.map Se.cells).length:Nat):Int))=false)∧∀ R,Good E0 B.dml_Check [] (zou a s frs tb ty (a.sets).length ) R→Good E0 B.dml_Check [] (zou a s frs tb ty i ) R)∨(∃ (r:Int),(r≠0∧a.sets.all (zf3 ty frs tb s)=false)∧Good E0 B.dml_Check [] (zou a s frs tb ty i ) (Shut 0 fun rZ hZ=>rZ=(iv r)∧hZ=[])):=by
 obtain ⟨kk,hk⟩:∃ kk,i+kk=(a.sets).length:=⟨(a.sets).length - i,by omega⟩
 induction kk generalizing i  with
 | zero =>
  have e0:i=(a.sets).length:=by omega
  subst e0
  exact .inl ⟨hI,by simp,fun R hg=>hg⟩
 | succ kk ih =>
  obtain ⟨x,hx⟩:=zaC (l:=a.sets) (i:=i) (by omega)
  have h0:decide (((i:Nat):Int) < (((a.sets.map Se.cells).length:Nat):Int))=true:=by simp;omega
  have hw:IntKind.i64.wrap (((i:Nat):Int)+1)=((i+1:Nat):Int):=zao i (by first|omega|(simp only [zad,Few] at *;omega))
  have hx1:=hty x (List.mem_of_getElem? hx)
  cases h1:decide (idxF (fun c=>colC c x.col) s.cols 0 < 0)
  ·obtain ⟨x2,e2⟩:=zpJ (l:=s.cols) (i:=idxF (fun c=>colC c x.col) s.cols (0:Nat)) (by exact idx_in (by assumption))
   cases h3:zen x2 x.ex frs tb (ty x.ex) != 0
   ·exact (ih (i+1) (by omega) (by exact zcp hI hx (by rw [zi9 (by assumption)];simp only [exOk, *];rfl)) (by omega)).elim (fun ⟨qZ,xZ,gZ⟩=>.inl ⟨qZ,xZ,fun R hg=>zaa (wkl [sb h0,se (zah Se.cells hx rfl),sc (zbe s x.col zcD),sb h1,sd [(3,[se (zfX Col.cells e2 rfl)]),(9,[sc (zcZ x2 x.ex frs tb (ty x.ex) hx1)])],sb h3,si hw] [2,3,7,9,35,36,37] 2 kr (gZ R hg))⟩) (fun ⟨rY,pZ,gZ⟩=>.inr ⟨rY,pZ,zaa (wkl [sb h0,se (zah Se.cells hx rfl),sc (zbe s x.col zcD),sb h1,sd [(3,[se (zfX Col.cells e2 rfl)]),(9,[sc (zcZ x2 x.ex frs tb (ty x.ex) hx1)])],sb h3,si hw] [2,3,7,9,35,36,37] 2 kr gZ)⟩)
   ·exact .inr ⟨zen x2 x.ex frs tb (ty x.ex),(by first|exact ⟨by omega,zbL hx (zmc (by assumption))⟩|exact ⟨by simpa using ‹(zen _ _ _ _ _ != 0)=true›,zbL hx (by rw [zi9 (by assumption)];simp only [exOk, *];rfl)⟩),zaa (wkr [sb h0,se (zah Se.cells hx rfl),sc (zbe s x.col zcD),sb h1,sd [(3,[se (zfX Col.cells e2 rfl)]),(9,[sc (zcZ x2 x.ex frs tb (ty x.ex) hx1)])],sb h3] kr)⟩
  ·exact .inr ⟨3,(by first|exact ⟨by omega,zbL hx (zmc (by assumption))⟩|exact ⟨by simpa using ‹(zen _ _ _ _ _ != 0)=true›,zbL hx (by rw [zi9 (by assumption)];simp only [exOk, *];rfl)⟩),zaa (wkr [sb h0,se (zah Se.cells hx rfl),sc (zbe s x.col zcD),sb h1] kr)⟩
def zls (ty:List Fr→X→Int × Int) (qt:Qy→List Int × Int) (cond:List Fr→Int) (frs:List Fr) (tb:List Tb) (s:Sch) (a:Ac):Bool :=
 bif a.kind==1 then ziF (ty frs) qt frs tb s a else a.sets.all (zf3 (ty (zaA frs s [])) (zaA frs s []) tb s)&&!(cond (zaA frs s []) != 0)
theorem znd (a:Ac) (s:Sch) (ci:Int) (frs:List Fr) (tb:List Tb) (ty:List Fr→X→Int × Int) (qt:Qy→List Int × Int) (cond:List Fr→Int) (h2:zad tb) (h3:zad frs) (hs:zad s.cols) (hr:zad a.sets) (hv:zac E0 S.dml_target [a.av,tsl tb] [] (.tup [s.av,iv 0]) []) (hty:∀ x∈a.sets,PTy (ty (zaA frs s [])) x.ex (zaA frs s []) tb) (hc:Pure S.scope_Condition [xsl a.wh,fsl (zaA frs s []),tsl tb] (iv (cond (zaA frs s [])))) (hi:Pure S.dml_checkInsert [a.av,s.av,fsl frs,tsl tb] (iv ci)) (hci:ci=0↔ziF (ty frs) qt frs tb s a=true):∃ (r:Int),(r=0↔zls ty qt cond frs tb s a=true)∧zac E0 S.dml_Check [a.av,fsl frs,tsl tb] [] (iv r) []:=by
 cases h1:a.kind==1
 ·rcases zgy a s (zaA frs s []) tb (ty (zaA frs s [])) zcD zcD hty 0 zcD zcD with ⟨q2,q2_1,g2⟩|⟨r2_0,p2_0,g2⟩
  ·exact ⟨cond (zaA frs s []),zl9,wkc At.dml_Check [sc hv,sb (rfl:false=false),sb h1,sc (zdK frs s ([]) zcD)] [2,3,7,9,35,36,37] 2 kr (g2 _ (zaa (wkr [sb q2_1,sc hc] kr)))⟩
  ·exact ⟨r2_0,zl9,wkc At.dml_Check [sc hv,sb (rfl:false=false),sb h1,sc (zdK frs s ([]) zcD)] [2,3,7,9,35,36,37] 2 kr (g2)⟩
 ·exact ⟨ci,zl9,wk At.dml_Check [sc hv,sb (rfl:false=false),sb h1,sc hi] kr⟩
theorem zml (a:Ac) (s:Sch) (e:Int) (frs:List Fr) (tb:List Tb) (he:(e != 0)=true) (hv:zac E0 S.dml_target [a.av,tsl tb] [] (.tup [s.av,iv e]) []):∃ (r:Int),r=e∧zac E0 S.dml_Check [a.av,fsl frs,tsl tb] [] (iv r) []:=by
 exact ⟨e,(by rfl),wk At.dml_Check [sc hv,sb he] kr⟩
end Go.AM
namespace Go.AM
set_option maxRecDepth 100000
set_option maxHeartbeats 1000000
set_option linter.unusedSimpArgs false
set_option linter.unusedVariables false
theorem zhS {p:Prop} (h:p:=by first|assumption|(simp only [decide_eq_false_iff_not,Int.not_lt,Int.not_le] at *;omega)):p:=h
structure Pr where
 id:Int
 old:List V
 nw:List V
def Pr.cells (p:Pr):List AV:=[iv p.id,vsl p.old,vsl p.nw]
@[simp] theorem Pr.cells_length (x:Pr):x.cells.length=3:=rfl
structure Ch where
 ins:List (List V)
 del:List Int
 upd:List Pr
def Ch.cells (c:Ch):List AV:=[.sl (c.ins.map vrow),isl c.del,.sl (c.upd.map Pr.cells)]
abbrev Ch.av (c:Ch):AV:=.agg c.cells
theorem zd3 (t:Tb) (a:Ac) :zac E0 S.dml_Candidates_c1 [.agg t.cells,.p 0 0] [.box a.cells] (bv (zaD t a.table)) [.box a.cells]:=by
 exact wk At.dml_Candidates_c1 [] kr
noncomputable def zlR (tb:List Tb) (a:Ac) (i:Nat):Cfg:=zaw B.slices_IndexFunc_Table 0 [(0,.sl (tb.map Tb.cells)),(1,.fn S.dml_Candidates_c1 [.p 0 0]),(7,iv ((tb.map Tb.cells).length:Nat)),(8,iv (i:Nat))] [.box a.cells]
theorem znG (tb:List Tb) (a:Ac) (hl:zad tb):∀ (k i:Nat),i+k=tb.length→Good E0 B.slices_IndexFunc_Table [.box a.cells] (zlR tb a i) (Shut 1 fun r h=>r=iv (idxF (fun t=>zaD t a.table) (tb.drop i) i)∧h=[.box a.cells]):=by
 intro k
 induction k with
 | zero =>
  intro i hi
  refine zaa ?_
  have h0:decide ((i:Int) < (((tb.map Tb.cells).length:Nat):Int))=false:=by simp;omega
  have e0:tb.drop i=[]:=List.drop_of_length_le (by omega)
  rw [e0]
  exact zdr E0ok mix0 3000 (y:=AV.v (Value.int IntKind.i64 (-1:Int))) (H:=[Blk.box a.cells]) [sb h0] kr (⟨rfl,rfl⟩)
 | succ k ih =>
  intro i hi
  have ih:=ih (i+1) (by omega)
  obtain ⟨x,hx⟩:=zaC (l:=tb) (i:=i) (by omega)
  have h0:decide ((i:Int) < (((tb.map Tb.cells).length:Nat):Int))=true:=by simp;omega
  have hw:=zao i (by omega)
  rw [za6 hx]
  simp only [idxF]
  refine zaa ?_
  cases h1:zaD x a.table
  ·exact zdk E0ok mix0 3000 (c':=zlR tb a (i+(1:Nat))) [sb h0,se (zah Tb.cells hx rfl),sl [(0:Nat)] (zd3 x a),sb h1,si hw] [0,1,7,8] 1 kr kr (by simpa only [cond_true,cond_false,h1] using ih)
  ·exact zdr E0ok mix0 3000 (y:=AV.v (Value.int IntKind.i64 (i:Int))) (H:=[Blk.box a.cells]) [sb h0,se (zah Tb.cells hx rfl),sl [(0:Nat)] (zd3 x a),sb h1] kr (⟨by simp only [cond_true,cond_false,h1],rfl⟩)
theorem zmT (tb:List Tb) (a:Ac) (hl:zad tb):zac E0 S.slices_IndexFunc_Table [.sl (tb.map Tb.cells),.fn S.dml_Candidates_c1 [.p 0 0]] [.box a.cells] (iv (idxF (fun t=>zaD t a.table) tb 0)) [.box a.cells]:=by
 exact zei E0ok mix0 At.slices_IndexFunc_Table rfl kr kr 3000 (c':=zlR tb a (0:Nat)) [] [0,1,7,8] 1 kr kr (by simpa using znG tb a hl tb.length 0 (by simp))
noncomputable def L_asgL (f:X→V × Int) (a:Ac) (s:Sch) (frs:List Fr) (tb:List Tb) (i:Nat) (out:List V):Cfg:=zaw B.dml_assigned 0 [(3,fsl frs),(4,tsl tb),(6,.p 1 0),(12,.own 2 out.length),(21,.sl (a.sets.map Se.cells)),(22,iv ((a.sets.map Se.cells).length:Nat)),(23,iv (i:Nat))] [.box a.cells,.box s.cells,.row Ty.Value (out.map V.cells) false]
def asgL (f:X→V × Int) (a:Ac) (s:Sch) (frs:List Fr) (tb:List Tb):List (Se)→Nat→(List V)→(List V) × Int
 | [],i,out =>
  (out,0)
 | x::r,i,out =>
  bif decide (idxF (fun c=>colC c x.col) s.cols 0 < 0) then
   ([],3)
  else
   bif (f x.ex).snd != 0 then
    ([],(f x.ex).snd)
   else
    bif decide ((out.length:Int)≤idxF (fun c=>colC c x.col) s.cols 0) then
     ([],17)
    else
     asgL f a s frs tb r (i+1) (out.set (idxF (fun c=>colC c x.col) s.cols 0).toNat (f x.ex).fst)
theorem znD (f:X→V × Int) (a:Ac) (s:Sch) (frs:List Fr) (tb:List Tb) (hs:zad s.cols) (hl:zad a.sets) (hf:∀ x∈a.sets,Pure S.evaluate_Value [x.ex.av,fsl frs,tsl tb] (.tup [(f x.ex).1.av,iv (f x.ex).2])):∀ (kk i:Nat) (out:List V),i+kk=(a.sets).length→Good E0 B.dml_assigned [] (L_asgL f a s frs tb i out) (Shut 0 fun r h=>r=(.tup [vsl (asgL f a s frs tb ((a.sets).drop i) i out).1,iv (asgL f a s frs tb ((a.sets).drop i) i out).2])∧h=[]):=by
 intro kk
 induction kk with
 | zero =>
  intro i out hi
  have h0:decide (((i:Nat):Int) < (((a.sets.map Se.cells).length:Nat):Int))=false:=by simp;omega
  have e0:(a.sets).drop i=[]:=List.drop_of_length_le (by omega)
  rw [e0]
  simp only [asgL]
  refine zaa ?_
  exact wkr [sqx (out.length=(List.map V.cells out).length∧True∧True),sb h0] kr
 | succ kk ih =>
  intro i out hi
  obtain ⟨x,hx⟩:=zaC (l:=a.sets) (i:=i) (by omega)
  have h0:decide (((i:Nat):Int) < (((a.sets.map Se.cells).length:Nat):Int))=true:=by simp;omega
  have hw:=zao i (by first|omega|(simp only [zad,Few] at *;omega))
  have hfx:=hf x (List.mem_of_getElem? hx)
  rw [za6 hx]
  simp only [asgL]
  refine zaa ?_
  cases h1:decide (idxF (fun c=>colC c x.col) s.cols 0 < 0)
  ·cases h2:(f x.ex).snd != 0
   ·cases h3:decide ((out.length:Int)≤idxF (fun c=>colC c x.col) s.cols 0)
    ·obtain ⟨x4,e4⟩:=zaC (l:=out) (i:=(idxF (fun c=>colC c x.col) s.cols 0).toNat) zhS
     exact wkl [sb h0,se (zah Se.cells hx rfl),sc (zbe s x.col zhS),sb h1,sc hfx,sb h2,sqx (out.length=(List.map V.cells out).length),sb h3,sqx (OwnAt (List.map V.cells out) out.length (idxF (fun c=>colC c x.col) s.cols 0)),sx (.el x4.cells) (And.intro (owed (p:=True∧True∧True∧True)) (zf9 V.cells (n:=out.length) (by simp) e4)),si hw] [3,4,6,12,21,22,23] 3 kr (zav (show ([(3,AV.sl (List.map Fr.cells frs)),(4,AV.sl (List.map Tb.cells tb)),(6,AV.p 1 0),(12,AV.own 2 out.length),(21,AV.sl (List.map Se.cells a.sets)),(22,iv (↑(List.map Se.cells a.sets).length:Int)),(23,iv (↑(i+1):Int))]:TS)=_ by first|rfl|(simp;done)|(simp [X.cells,Qy.cells,V.cells,Col.cells,Rw.cells,Tb.cells,Fr.cells,Sch.cells,Tp.cells,Pl.cells,xCol,xLit,xBin,xNeg,Ac.cells,Se.cells,Pr.cells,Ch.cells];done)) (show ([Blk.box [iv a.kind,sv a.table,AV.sl (List.map (fun r=>[AV.sl (zab r)]) a.rows),AV.sl (zaf a.query),AV.sl (List.map Se.cells a.sets),AV.sl (zab a.wh),sv a.text],Blk.box [sv s.name,AV.sl (List.map Col.cells s.cols)],Blk.row Ty.Value ((List.map V.cells out).set (idxF (fun c=>colC c x.col) s.cols 0).toNat [iv (f x.ex).fst.kind,iv (f x.ex).fst.int,sv (f x.ex).fst.text]) false]:Heap)=_ by first|rfl|(simp;done)|(simp [X.cells,Qy.cells,V.cells,Col.cells,Rw.cells,Tb.cells,Fr.cells,Sch.cells,Tp.cells,Pl.cells,xCol,xLit,xBin,xNeg,Ac.cells,Se.cells,Pr.cells,Ch.cells];done)) (ih (i+1) (out.set (idxF (fun c=>colC c x.col) s.cols 0).toNat (f x.ex).fst) (by omega) ))
    ·exact wkr [sb h0,se (zah Se.cells hx rfl),sc (zbe s x.col zhS),sb h1,sc hfx,sb h2,sqx (out.length=(List.map V.cells out).length),sb h3] kr
   ·exact wkr [sb h0,se (zah Se.cells hx rfl),sc (zbe s x.col zhS),sb h1,sc hfx,sb h2] kr
  ·exact wkr [sb h0,se (zah Se.cells hx rfl),sc (zbe s x.col zhS),sb h1] kr
def asgn (f:X→V × Int) (a:Ac) (s:Sch) (row:List V) (frs:List Fr) (tb:List Tb):(List V) × Int :=
 asgL f a s frs tb a.sets 0 (row)
theorem zkw (f:X→V × Int) (a:Ac) (s:Sch) (row:List V) (frs:List Fr) (tb:List Tb) (hr:zad row) (hs:zad s.cols) (hl:zad a.sets) (hf:∀ x∈a.sets,Pure S.evaluate_Value [x.ex.av,fsl frs,tsl tb] (.tup [(f x.ex).1.av,iv (f x.ex).2])):zac E0 S.dml_assigned [a.av,s.av,vsl row,fsl frs,tsl tb] [] (.tup [vsl (asgn f a s row frs tb).1,iv (asgn f a s row frs tb).2]) []:=by
 unfold asgn
 exact wkc At.dml_assigned [sc (zcs row (by first|assumption|omega|(simp;done)|(simp;omega)))] [3,4,6,12,21,22,23] 3 kr (by have ih:=znD f a s frs tb hs hl hf a.sets.length 0 row (by simp);exact ih)
end Go.AM
namespace Go.AM
set_option maxRecDepth 100000
set_option maxHeartbeats 1000000
set_option linter.unusedSimpArgs false
set_option linter.unusedVariables false
theorem zjW {p:Prop} (h:p:=by first|assumption|(simp;done)|(simp;omega)|omega|(simp at *;omega)):p:=h
noncomputable def L_cndD (tr:Rw→Bool × Int) (a:Ac) (s:Sch) (frs:List Fr) (tb:List Tb) (t:Tb) (i:Nat) (del:List Int):Cfg:=zaw B.dml_Candidates 0 [(1,fsl frs),(2,tsl tb),(3,.p 0 0),(6,.p 1 0),(8,.p 2 0),(12,.p 3 0),(55,.sl (t.rows.map Rw.cells)),(56,iv ((t.rows.map Rw.cells).length:Nat)),(57,iv (i:Nat))] [.box a.cells,.box [.nl,.nl,.nl],.box s.cells,.box [.nl,.own 4 del.length,.nl],.row Ty.int (del.map zan) false]
def cndD (tr:Rw→Bool × Int) (a:Ac) (s:Sch) (frs:List Fr) (tb:List Tb) (t:Tb):List (Rw)→Nat→(List Int)→Ch × Int
 | [],i,del =>
  (Ch.mk [] del [],0)
 | x::r,i,del =>
  bif (tr x).snd != 0 then
   (Ch.mk [] [] [],(tr x).snd)
  else
   bif !(tr x).fst then
    cndD tr a s frs tb t r (i+1) (del)
   else
    cndD tr a s frs tb t r (i+1) (del++[x.id])
theorem znn (tr:Rw→Bool × Int) (a:Ac) (s:Sch) (frs:List Fr) (tb:List Tb) (t:Tb) (h3:zad frs) (hk:(a.kind==3)=true) (hl:zad t.rows) (ht:∀ r∈t.rows,Pure S.evaluate_True [xsl a.wh,fsl (zaA frs s r.vals),tsl tb] (.tup [bv (tr r).1,iv (tr r).2])):∀ (kk i:Nat) (del:List Int),i+kk=(t.rows).length→(del.length≤i)→Good E0 B.dml_Candidates [] (L_cndD tr a s frs tb t i del) (Shut 0 fun r h=>r=(.tup [(cndD tr a s frs tb t ((t.rows).drop i) i del).1.av,iv (cndD tr a s frs tb t ((t.rows).drop i) i del).2])∧h=[]):=by
 intro kk
 induction kk with
 | zero =>
  intro i del hi ho
  have h0:decide (((i:Nat):Int) < (((t.rows.map Rw.cells).length:Nat):Int))=false:=by simp;omega
  have e0:(t.rows).drop i=[]:=List.drop_of_length_le (by omega)
  rw [e0]
  simp only [cndD]
  refine zaa ?_
  exact wkr [sqx ((True∧del.length=(List.map zan del).length∧True∧True)∧True∧True),sb h0] kr
 | succ kk ih =>
  intro i del hi ho
  obtain ⟨x,hx⟩:=zaC (l:=t.rows) (i:=i) (by omega)
  have h0:decide (((i:Nat):Int) < (((t.rows.map Rw.cells).length:Nat):Int))=true:=by simp;omega
  have hw:=zao i (by first|omega|(simp only [zad,Few] at *;omega))
  have hfx:=ht x (List.mem_of_getElem? hx)
  rw [za6 hx]
  simp only [cndD]
  refine zaa ?_
  let p_1:List St:=[sb h0,se (zah Rw.cells hx rfl),sc (zdK frs s x.vals (by first|assumption|omega|(simp;done)|(simp;omega))),sc hfx]
  cases h1:(tr x).snd != 0
  ·cases h2:!(tr x).fst
   ·exact wkl (p_1++[sb h1,sb h2,sb hk,sqx (AllLen [[iv x.id]] 1∧del.length=(List.map zan del).length∧(((List.map zan del).length+[[iv x.id]].length) * 8).le 140737488355328),si hw]) [1,2,3,6,8,12,55,56,57] 5 kr (zav rfl (show ([Blk.box [iv a.kind,sv a.table,AV.sl (List.map (fun r=>[AV.sl (zab r)]) a.rows),AV.sl (zaf a.query),AV.sl (List.map Se.cells a.sets),AV.sl (zab a.wh),sv a.text],Blk.box [AV.nl,AV.nl,AV.nl],Blk.box [sv s.name,AV.sl (List.map Col.cells s.cols)],Blk.box [AV.nl,AV.own 4 (List.map zan del++[[iv x.id]]).length,AV.nl],Blk.row Ty.int (List.map zan del++[[iv x.id]]) false]:Heap)=_ by first|rfl|(simp;done)|(simp [X.cells,Qy.cells,V.cells,Col.cells,Rw.cells,Tb.cells,Fr.cells,Sch.cells,Tp.cells,Pl.cells,xCol,xLit,xBin,xNeg,Ac.cells,Se.cells,Pr.cells,Ch.cells,Rw.cells];done)) (ih (i+1) (del++[x.id]) (by omega) zjW))
   ·exact wkl (p_1++[sb h1,sb h2,si hw]) [1,2,3,6,8,12,55,56,57] 5 kr (ih (i+1) del (by omega) zjW)
  ·exact wkr (p_1++[sb h1]) kr
noncomputable def L_cndU (tr:Rw→Bool × Int) (ag:Rw→List V × Int) (a:Ac) (s:Sch) (frs:List Fr) (tb:List Tb) (t:Tb) (i:Nat) (upd:List Pr):Cfg:=zaw B.dml_Candidates 0 [(1,fsl frs),(2,tsl tb),(3,.p 0 0),(6,.p 1 0),(8,.p 2 0),(12,.p 3 0),(55,.sl (t.rows.map Rw.cells)),(56,iv ((t.rows.map Rw.cells).length:Nat)),(57,iv (i:Nat))] [.box a.cells,.box [.nl,.nl,.nl],.box s.cells,.box [.nl,.nl,.own 4 upd.length],.row Ty.Pair (upd.map Pr.cells) false]
def cndU (tr:Rw→Bool × Int) (ag:Rw→List V × Int) (a:Ac) (s:Sch) (frs:List Fr) (tb:List Tb) (t:Tb):List (Rw)→Nat→(List Pr)→Ch × Int
 | [],i,upd =>
  (Ch.mk [] [] upd,0)
 | x::r,i,upd =>
  bif (tr x).snd != 0 then
   (Ch.mk [] [] [],(tr x).snd)
  else
   bif !(tr x).fst then
    cndU tr ag a s frs tb t r (i+1) (upd)
   else
    bif (ag x).snd != 0 then
     (Ch.mk [] [] [],(ag x).snd)
    else
     cndU tr ag a s frs tb t r (i+1) (upd++[Pr.mk x.id x.vals (ag x).fst])
theorem zna (tr:Rw→Bool × Int) (ag:Rw→List V × Int) (a:Ac) (s:Sch) (frs:List Fr) (tb:List Tb) (t:Tb) (h3:zad frs) (hk:(a.kind==3)=false) (hl:zad t.rows) (hv:∀ r∈t.rows,zad r.vals) (ht:∀ r∈t.rows,Pure S.evaluate_True [xsl a.wh,fsl (zaA frs s r.vals),tsl tb] (.tup [bv (tr r).1,iv (tr r).2])) (hag:∀ r∈t.rows,Pure S.dml_assigned [a.av,s.av,vsl r.vals,fsl (zaA frs s r.vals),tsl tb] (.tup [vsl (ag r).1,iv (ag r).2])):∀ (kk i:Nat) (upd:List Pr),i+kk=(t.rows).length→(upd.length≤i)→Good E0 B.dml_Candidates [] (L_cndU tr ag a s frs tb t i upd) (Shut 0 fun r h=>r=(.tup [(cndU tr ag a s frs tb t ((t.rows).drop i) i upd).1.av,iv (cndU tr ag a s frs tb t ((t.rows).drop i) i upd).2])∧h=[]):=by
 intro kk
 induction kk with
 | zero =>
  intro i upd hi ho
  have h0:decide (((i:Nat):Int) < (((t.rows.map Rw.cells).length:Nat):Int))=false:=by simp;omega
  have e0:(t.rows).drop i=[]:=List.drop_of_length_le (by omega)
  rw [e0]
  simp only [cndU]
  refine zaa ?_
  exact wkr [sqx ((True∧True∧upd.length=(List.map Pr.cells upd).length∧True)∧True∧True),sb h0] kr
 | succ kk ih =>
  intro i upd hi ho
  obtain ⟨x,hx⟩:=zaC (l:=t.rows) (i:=i) (by omega)
  have h0:decide (((i:Nat):Int) < (((t.rows.map Rw.cells).length:Nat):Int))=true:=by simp;omega
  have hw:=zao i (by first|omega|(simp only [zad,Few] at *;omega))
  have hfx:=ht x (List.mem_of_getElem? hx);have hgx:=hag x (List.mem_of_getElem? hx);have hvx:=hv x (List.mem_of_getElem? hx)
  rw [za6 hx]
  simp only [cndU]
  refine zaa ?_
  let p_1:List St:=[sb h0,se (zah Rw.cells hx rfl),sc (zdK frs s x.vals (by first|assumption|omega|(simp;done)|(simp;omega))),sc hfx]
  cases h1:(tr x).snd != 0
  ·cases h2:!(tr x).fst
   ·cases h3:(ag x).snd != 0
    ·exact wkl (p_1++[sb h1,sb h2,sb hk,sc hgx,sb h3,sd [(6,[sc (zcs x.vals (by first|assumption|omega|(simp;done)|(simp;omega)))]),(9,[sqx (True∧x.vals.length=(List.map V.cells x.vals).length∧True∧True)]),(10,[sqx (AllLen [[iv x.id,AV.sl (List.map V.cells x.vals),AV.sl (List.map V.cells (ag x).fst)]] 3∧upd.length=(List.map Pr.cells upd).length∧(((List.map Pr.cells upd).length+[[iv x.id,AV.sl (List.map V.cells x.vals),AV.sl (List.map V.cells (ag x).fst)]].length) * 56).le 140737488355328)])],si hw]) [1,2,3,6,8,12,55,56,57] 5 kr (zav rfl (show ([Blk.box [iv a.kind,sv a.table,AV.sl (List.map (fun r=>[AV.sl (zab r)]) a.rows),AV.sl (zaf a.query),AV.sl (List.map Se.cells a.sets),AV.sl (zab a.wh),sv a.text],Blk.box [AV.nl,AV.nl,AV.nl],Blk.box [sv s.name,AV.sl (List.map Col.cells s.cols)],Blk.box [AV.nl,AV.nl,AV.own 4 (List.map Pr.cells upd++[[iv x.id,AV.sl (List.map V.cells x.vals),AV.sl (List.map V.cells (ag x).fst)]]).length],Blk.row Ty.Pair (List.map Pr.cells upd++[[iv x.id,AV.sl (List.map V.cells x.vals),AV.sl (List.map V.cells (ag x).fst)]]) false]:Heap)=_ by first|rfl|(simp;done)|(simp [X.cells,Qy.cells,V.cells,Col.cells,Rw.cells,Tb.cells,Fr.cells,Sch.cells,Tp.cells,Pl.cells,xCol,xLit,xBin,xNeg,Ac.cells,Se.cells,Pr.cells,Ch.cells,Rw.cells];done)) (ih (i+1) (upd++[Pr.mk x.id x.vals (ag x).fst]) (by omega) zjW))
    ·exact wkr (p_1++[sb h1,sb h2,sb hk,sc hgx,sb h3]) kr
   ·exact wkl (p_1++[sb h1,sb h2,si hw]) [1,2,3,6,8,12,55,56,57] 5 kr (ih (i+1) upd (by omega) zjW)
  ·exact wkr (p_1++[sb h1]) kr
end Go.AM
namespace Go.AM
set_option maxRecDepth 100000
set_option maxHeartbeats 1000000
set_option linter.unusedSimpArgs false
set_option linter.unusedVariables false
def tbNull:Tb:=⟨⟨⟨#[]⟩,[]⟩,0,[]⟩
def tabC (tb:List Tb) (n:Str):Tb:=(zbC tb n).getD tbNull
theorem zkr (tb:List Tb) (n:Str) (h:decide (idxF (fun t=>zaD t n) tb 0 < 0)=false):ElAt (tb.map Tb.cells) (idxF (fun t=>zaD t n) tb 0) (tabC tb n).cells 4:=by
 simp only [decide_eq_false_iff_not] at h
 rcases zc3 (fun t=>zaD t n) tb 0 with ⟨h2,_⟩|⟨j,y,h2,h3,h4⟩
 ·omega
 ·have e:tabC tb n=y:=by unfold tabC zbC;rw [h4];rfl
  rw [e,h2]
  have:((0+j:Nat):Int)=(j:Int):=by omega
  rw [this];exact zah Tb.cells h3 rfl
def ziH (a:Ac) (s:Sch) (e:Int):Ch × Int :=
 (Ch.mk [] [] [],e)
theorem zhq (a:Ac) (s:Sch) (e:Int) (frs:List Fr) (tb:List Tb) (he:(e != 0)=true) (hv:zac E0 S.dml_target [a.av,tsl tb] [] (.tup [s.av,iv e]) []):zac E0 S.dml_Candidates [a.av,fsl frs,tsl tb] [] (.tup [(ziH a s e).1.av,iv (ziH a s e).2]) []:=by
 exact wk At.dml_Candidates [sc hv,sb he] kr
def zg5 (tr:Rw→Bool × Int) (a:Ac) (s:Sch) (frs:List Fr) (tb:List Tb):Ch × Int :=
 cndD tr a s frs tb (tabC tb a.table) (tabC tb a.table).rows 0 ([])
theorem zht (tr:Rw→Bool × Int) (a:Ac) (s:Sch) (frs:List Fr) (tb:List Tb) (hk1:(a.kind==1)=false) (hk3:(a.kind==3)=true) (h2:zad tb) (h3:zad frs) (hv:zac E0 S.dml_target [a.av,tsl tb] [] (.tup [s.av,iv 0]) []) (hix:zac E0 S.slices_IndexFunc_Table [.sl (tb.map Tb.cells),.fn S.dml_Candidates_c1 [.p 0 0]] [.box a.cells] (iv (idxF (fun t=>zaD t a.table) tb 0)) [.box a.cells]) (hn:decide (idxF (fun t=>zaD t a.table) tb 0 < 0)=false) (hl:zad (tabC tb a.table).rows) (ht:∀ r∈(tabC tb a.table).rows,Pure S.evaluate_True [xsl a.wh,fsl (zaA frs s r.vals),tsl tb] (.tup [bv (tr r).1,iv (tr r).2])):zac E0 S.dml_Candidates [a.av,fsl frs,tsl tb] [] (.tup [(zg5 tr a s frs tb).1.av,iv (zg5 tr a s frs tb).2]) []:=by
 unfold zg5
 exact wkcN At.dml_Candidates [sc hv,sb (rfl:false=false),sb hk1,sl [0] hix,se (zkr tb a.table (by first|assumption|omega|(simp;done)|(simp;omega)))] [1,2,3,6,8,12,55,56,57] 4 [(.ob 3 1 Ty.int,5)] kr (by have ih:=znn tr a s frs tb (tabC tb a.table) h3 hk3 hl ht (tabC tb a.table).rows.length 0 ([]) (by simp) (by simp);exact ih)
def zjM (tr:Rw→Bool × Int) (ag:Rw→List V × Int) (a:Ac) (s:Sch) (frs:List Fr) (tb:List Tb):Ch × Int :=
 cndU tr ag a s frs tb (tabC tb a.table) (tabC tb a.table).rows 0 ([])
theorem zhr (tr:Rw→Bool × Int) (ag:Rw→List V × Int) (a:Ac) (s:Sch) (frs:List Fr) (tb:List Tb) (hk1:(a.kind==1)=false) (hk3:(a.kind==3)=false) (h2:zad tb) (h3:zad frs) (hv:zac E0 S.dml_target [a.av,tsl tb] [] (.tup [s.av,iv 0]) []) (hix:zac E0 S.slices_IndexFunc_Table [.sl (tb.map Tb.cells),.fn S.dml_Candidates_c1 [.p 0 0]] [.box a.cells] (iv (idxF (fun t=>zaD t a.table) tb 0)) [.box a.cells]) (hn:decide (idxF (fun t=>zaD t a.table) tb 0 < 0)=false) (hl:zad (tabC tb a.table).rows) (hvl:∀ r∈(tabC tb a.table).rows,zad r.vals) (ht:∀ r∈(tabC tb a.table).rows,Pure S.evaluate_True [xsl a.wh,fsl (zaA frs s r.vals),tsl tb] (.tup [bv (tr r).1,iv (tr r).2])) (hag:∀ r∈(tabC tb a.table).rows,Pure S.dml_assigned [a.av,s.av,vsl r.vals,fsl (zaA frs s r.vals),tsl tb] (.tup [vsl (ag r).1,iv (ag r).2])):zac E0 S.dml_Candidates [a.av,fsl frs,tsl tb] [] (.tup [(zjM tr ag a s frs tb).1.av,iv (zjM tr ag a s frs tb).2]) []:=by
 unfold zjM
 exact wkcN At.dml_Candidates [sc hv,sb (rfl:false=false),sb hk1,sl [0] hix,se (zkr tb a.table (by first|assumption|omega|(simp;done)|(simp;omega)))] [1,2,3,6,8,12,55,56,57] 4 [(.ob 3 2 Ty.Pair,5)] kr (by have ih:=zna tr ag a s frs tb (tabC tb a.table) h3 hk3 hl hvl ht hag (tabC tb a.table).rows.length 0 ([]) (by simp) (by simp);exact ih)
end Go.AM
namespace Go.AM
set_option maxRecDepth 100000
set_option maxHeartbeats 1000000
set_option linter.unusedSimpArgs false
set_option linter.unusedVariables false
theorem zlH {p:Prop} (h:p:=by first|assumption|omega|(simp only [bne_eq_false_iff_eq,zdq,List.length_map] at *;omega)|(simp;done)|exact ⟨by simp,rfl⟩):p:=h
theorem zlE {p:Prop} (h:p:=by have h:=‹((((zab x).length:Nat):Int) != _)=false›;simp at h;omega):p:=h
abbrev PEv (f:X→V × Int) (x:X) (frs:List Fr) (tb:List Tb):Prop:=Pure S.evaluate_Value [x.av,fsl frs,tsl tb] (.tup [(f x).1.av,iv (f x).2])
def zbE (f:X→V × Int):List X→List V→List V × Int
 | [],acc=>(acc,0)
 | x::r,acc=>bif (f x).2 != 0 then ([],(f x).2) else zbE f r (acc++[(f x).1])
def insL (f:X→V × Int) (n:Nat):List (List X)→List (List V)→List (List V) × Int
 | [],acc=>(acc,0)
 | y::r,acc=>bif y.length != n then ([],5) else bif (zbE f y []).2 != 0 then ([],(zbE f y []).2) else insL f n r (acc++[(zbE f y []).1])
theorem zqa {f:X→V × Int} {l:List X} {i:Nat} {x:X} {acc:List V} (h:zbE f l []=zbE f (l.drop i) acc) (hx:l[i]?=some x) (h1:((f x).2 != 0)=false):zbE f l []=zbE f (l.drop (i+1)) (acc++[(f x).1]):=by
 obtain ⟨hi,e⟩:=List.getElem?_eq_some_iff.1 hx
 rw [h,List.drop_eq_getElem_cons hi,e]
 simp only [zbE,h1,cond_false]
theorem zq1 {f:X→V × Int} {l:List X} {i:Nat} {x:X} {acc:List V} (h:zbE f l []=zbE f (l.drop i) acc) (hx:l[i]?=some x) (h1:((f x).2 != 0)=true):(f x).2≠0∧zbE f l []=([],(f x).2):=by
 obtain ⟨hi,e⟩:=List.getElem?_eq_some_iff.1 hx
 rw [h,List.drop_eq_getElem_cons hi,e]
 exact ⟨by simpa using h1,by simp only [zbE,h1,cond_true]⟩
theorem zqz {f:X→V × Int} {l:List X} {acc:List V} (h:zbE f l []=zbE f (l.drop l.length) acc):zbE f l []=(acc,0):=by
 rw [h,List.drop_length];rfl
theorem zqq {f:X→V × Int} {n:Nat} {l:List (List X)} {i:Nat} {x:List X} {acc:List (List V)} {v:List V} (h:insL f n l []=insL f n (l.drop i) acc) (hx:l[i]?=some x) (h1:x.length=n) (h2:zbE f x []=(v,0)):insL f n l []=insL f n (l.drop (i+1)) (acc++[v]):=by
 obtain ⟨hi,e⟩:=List.getElem?_eq_some_iff.1 hx
 rw [h,List.drop_eq_getElem_cons hi,e]
 have h8:(x.length != n)=false:=by simpa using h1
 simp only [insL,h8,h2,cond_false];rfl
theorem znR {f:X→V × Int} {n:Nat} {l:List (List X)} {i:Nat} {x:List X} {acc:List (List V)} (h:insL f n l []=insL f n (l.drop i) acc) (hx:l[i]?=some x) (h1:x.length≠n):insL f n l []=([],5):=by
 obtain ⟨hi,e⟩:=List.getElem?_eq_some_iff.1 hx
 rw [h,List.drop_eq_getElem_cons hi,e]
 have h9:(x.length != n)=true:=by simpa using h1
 simp only [insL,h9,cond_true]
theorem znT {f:X→V × Int} {n:Nat} {l:List (List X)} {i:Nat} {x:List X} {acc:List (List V)} {c:Int} {v:List V} (h:insL f n l []=insL f n (l.drop i) acc) (hx:l[i]?=some x) (h1:x.length=n) (h2:zbE f x []=(v,c)) (hc:c≠0):insL f n l []=([],c):=by
 obtain ⟨hi,e⟩:=List.getElem?_eq_some_iff.1 hx
 rw [h,List.drop_eq_getElem_cons hi,e]
 have h8:(x.length != n)=false:=by simpa using h1
 have h9:(c != 0)=true:=by simpa using hc
 simp only [insL,h8,h9,h2,cond_true,cond_false]
theorem zrK {f:X→V × Int} {n:Nat} {l:List (List X)} {acc:List (List V)} (h:insL f n l []=insL f n (l.drop l.length) acc):insL f n l []=(acc,0):=by
 rw [h,List.drop_length];rfl
noncomputable def zom (a:Ac) (s:Sch) (frs:List Fr) (tb:List Tb) (f:X→V × Int) (io:Nat) (y:List X) (out:List (List V)) (i:Nat) (row:List V):Cfg:=zaw B.dml_inserted 1 [(2,fsl frs),(3,tsl tb),(4,.p 0 0),(5,.p 1 0),(10,.own 2 out.length),(13,.own 3 row.length),(23,.sl (a.rows.map zaK)),(24,iv ((a.rows.map zaK).length:Nat)),(25,iv (io:Nat)),(35,xsl y),(36,iv ((zab y).length:Nat)),(37,iv (i:Nat))] [.box a.cells,.box s.cells,.row Ty.LValue (out.map vrow) false,.row Ty.Value (row.map V.cells) false]
theorem zfn (a:Ac) (s:Sch) (frs:List Fr) (tb:List Tb) (f:X→V × Int) (io:Nat) (y:List X) (out:List (List V)) (hy:zad y) (hf:∀ x∈y,PEv f x frs tb) (i:Nat) (row:List V) (hi:i≤(y).length) (hI:row.length≤i∧zbE f y []=zbE f (y.drop i) row):(∃ (row':List V),(row'.length≤(y).length∧zbE f y []=zbE f (y.drop (y).length) row')∧(decide ((((y).length:Nat):Int) < (((zab y).length:Nat):Int))=false)∧∀ R,Good E0 B.dml_inserted [] (zom a s frs tb f io y out (y).length row') R→Good E0 B.dml_inserted [] (zom a s frs tb f io y out i row) R)∨(∃ (r:List (List V)) (c:Int),(r=[]∧c≠0∧zbE f y []=([],c))∧Good E0 B.dml_inserted [] (zom a s frs tb f io y out i row) (Shut 0 fun rZ hZ=>rZ=(.tup [.sl (r.map vrow),iv c])∧hZ=[])):=by
 obtain ⟨kk,hk⟩:∃ kk,i+kk=(y).length:=⟨(y).length - i,by omega⟩
 induction kk generalizing i row with
 | zero =>
  have e0:i=(y).length:=by omega
  subst e0
  exact .inl ⟨row,hI,by simp,fun R hg=>hg⟩
 | succ kk ih =>
  obtain ⟨x,hx⟩:=zaC (l:=y) (i:=i) (by omega)
  have h0:decide (((i:Nat):Int) < (((zab y).length:Nat):Int))=true:=by simp;omega
  have hw:IntKind.i64.wrap (((i:Nat):Int)+1)=((i+1:Nat):Int):=zao i (by first|omega|(simp only [zad,Few] at *;omega))
  have hx1:=hf x (List.mem_of_getElem? hx);have hrl:row.length≤1000000000:=by have:=hI.1;simp only [zad] at hy;omega
  cases h1:(f x).snd != 0
  ·exact (ih (i+1) (row++[(f x).fst]) (by omega) (by exact ⟨by have:=hI.1;simp;omega,zqa hI.2 hx (by assumption)⟩) (by omega)).elim (fun ⟨rowZ,qZ,xZ,gZ⟩=>.inl ⟨rowZ,qZ,xZ,fun R hg=>zaa (wkl [sb h0,se (za9 hx),sc hx1,sb h1,sqx (AllLen [[iv (f x).fst.kind,iv (f x).fst.int,sv (f x).fst.text]] 3∧row.length=(List.map V.cells row).length∧(((List.map V.cells row).length+[[iv (f x).fst.kind,iv (f x).fst.int,sv (f x).fst.text]].length) * 32).le 140737488355328),si hw] [2,3,4,5,10,13,23,24,25,35,36,37] 4 kr (zav (show ([(2,AV.sl (List.map Fr.cells frs)),(3,AV.sl (List.map Tb.cells tb)),(4,AV.p 0 0),(5,AV.p 1 0),(10,AV.own 2 out.length),(13,AV.own 3 (List.map V.cells row++[[iv (f x).fst.kind,iv (f x).fst.int,sv (f x).fst.text]]).length),(23,AV.sl (List.map zaK a.rows)),(24,iv (↑(List.map zaK a.rows).length:Int)),(25,iv (io:Int)),(35,AV.sl (zab y)),(36,iv (↑(zab y).length:Int)),(37,iv (↑(i+1):Int))]:TS)=_ by first|rfl|(simp;done)|(simp [X.cells,Qy.cells,V.cells,Col.cells,Rw.cells,Tb.cells,Fr.cells,Sch.cells,Tp.cells,Pl.cells,xCol,xLit,xBin,xNeg,Ac.cells,Se.cells,Pr.cells,Ch.cells,Rw.cells];done)) (show ([Blk.box [iv a.kind,sv a.table,AV.sl (List.map (fun r=>[AV.sl (zab r)]) a.rows),AV.sl (zaf a.query),AV.sl (List.map Se.cells a.sets),AV.sl (zab a.wh),sv a.text],Blk.box [sv s.name,AV.sl (List.map Col.cells s.cols)],Blk.row Ty.LValue (List.map vrow out) false,Blk.row Ty.Value (List.map V.cells row++[[iv (f x).fst.kind,iv (f x).fst.int,sv (f x).fst.text]]) false]:Heap)=_ by first|rfl|(simp;done)|(simp [X.cells,Qy.cells,V.cells,Col.cells,Rw.cells,Tb.cells,Fr.cells,Sch.cells,Tp.cells,Pl.cells,xCol,xLit,xBin,xNeg,Ac.cells,Se.cells,Pr.cells,Ch.cells,Rw.cells];done)) (gZ R hg)))⟩) (fun ⟨rY,cY,pZ,gZ⟩=>.inr ⟨rY,cY,pZ,zaa (wkl [sb h0,se (za9 hx),sc hx1,sb h1,sqx (AllLen [[iv (f x).fst.kind,iv (f x).fst.int,sv (f x).fst.text]] 3∧row.length=(List.map V.cells row).length∧(((List.map V.cells row).length+[[iv (f x).fst.kind,iv (f x).fst.int,sv (f x).fst.text]].length) * 32).le 140737488355328),si hw] [2,3,4,5,10,13,23,24,25,35,36,37] 4 kr (zav (show ([(2,AV.sl (List.map Fr.cells frs)),(3,AV.sl (List.map Tb.cells tb)),(4,AV.p 0 0),(5,AV.p 1 0),(10,AV.own 2 out.length),(13,AV.own 3 (List.map V.cells row++[[iv (f x).fst.kind,iv (f x).fst.int,sv (f x).fst.text]]).length),(23,AV.sl (List.map zaK a.rows)),(24,iv (↑(List.map zaK a.rows).length:Int)),(25,iv (io:Int)),(35,AV.sl (zab y)),(36,iv (↑(zab y).length:Int)),(37,iv (↑(i+1):Int))]:TS)=_ by first|rfl|(simp;done)|(simp [X.cells,Qy.cells,V.cells,Col.cells,Rw.cells,Tb.cells,Fr.cells,Sch.cells,Tp.cells,Pl.cells,xCol,xLit,xBin,xNeg,Ac.cells,Se.cells,Pr.cells,Ch.cells,Rw.cells];done)) (show ([Blk.box [iv a.kind,sv a.table,AV.sl (List.map (fun r=>[AV.sl (zab r)]) a.rows),AV.sl (zaf a.query),AV.sl (List.map Se.cells a.sets),AV.sl (zab a.wh),sv a.text],Blk.box [sv s.name,AV.sl (List.map Col.cells s.cols)],Blk.row Ty.LValue (List.map vrow out) false,Blk.row Ty.Value (List.map V.cells row++[[iv (f x).fst.kind,iv (f x).fst.int,sv (f x).fst.text]]) false]:Heap)=_ by first|rfl|(simp;done)|(simp [X.cells,Qy.cells,V.cells,Col.cells,Rw.cells,Tb.cells,Fr.cells,Sch.cells,Tp.cells,Pl.cells,xCol,xLit,xBin,xNeg,Ac.cells,Se.cells,Pr.cells,Ch.cells,Rw.cells];done)) gZ))⟩)
  ·exact .inr ⟨[],(f x).snd,(by exact ⟨rfl,zq1 hI.2 hx (by assumption)⟩),zaa (wkr [sb h0,se (za9 hx),sc hx1,sb h1] kr)⟩
noncomputable def zov (a:Ac) (s:Sch) (frs:List Fr) (tb:List Tb) (f:X→V × Int) (i:Nat) (out:List (List V)):Cfg:=zaw B.dml_inserted 0 [(2,fsl frs),(3,tsl tb),(4,.p 0 0),(5,.p 1 0),(10,.own 2 out.length),(23,.sl (a.rows.map zaK)),(24,iv ((a.rows.map zaK).length:Nat)),(25,iv (i:Nat))] [.box a.cells,.box s.cells,.row Ty.LValue (out.map vrow) false]
theorem zfF (a:Ac) (s:Sch) (frs:List Fr) (tb:List Tb) (f:X→V × Int) (hs:zad s.cols) (hr:zad a.rows) (hf:∀ r∈a.rows,zad r∧∀ x∈r,PEv f x frs tb) (i:Nat) (out:List (List V)) (hi:i≤(a.rows).length) (hI:out.length≤i∧insL f s.cols.length a.rows []=insL f s.cols.length (a.rows.drop i) out):(∃ (out':List (List V)),(out'.length≤(a.rows).length∧insL f s.cols.length a.rows []=insL f s.cols.length (a.rows.drop (a.rows).length) out')∧(decide ((((a.rows).length:Nat):Int) < (((a.rows.map zaK).length:Nat):Int))=false)∧∀ R,Good E0 B.dml_inserted [] (zov a s frs tb f (a.rows).length out') R→Good E0 B.dml_inserted [] (zov a s frs tb f i out) R)∨(∃ (r:List (List V)) (c:Int),(r=[]∧c≠0∧insL f s.cols.length a.rows []=([],c))∧Good E0 B.dml_inserted [] (zov a s frs tb f i out) (Shut 0 fun rZ hZ=>rZ=(.tup [.sl (r.map vrow),iv c])∧hZ=[])):=by
 obtain ⟨kk,hk⟩:∃ kk,i+kk=(a.rows).length:=⟨(a.rows).length - i,by omega⟩
 induction kk generalizing i out with
 | zero =>
  have e0:i=(a.rows).length:=by omega
  subst e0
  exact .inl ⟨out,hI,by simp,fun R hg=>hg⟩
 | succ kk ih =>
  obtain ⟨x,hx⟩:=zaC (l:=a.rows) (i:=i) (by omega)
  have h0:decide (((i:Nat):Int) < (((a.rows.map zaK).length:Nat):Int))=true:=by simp;omega
  have hw:IntKind.i64.wrap (((i:Nat):Int)+1)=((i+1:Nat):Int):=zao i (by first|omega|(simp only [zad,Few] at *;omega))
  have hx1:=(hf x (List.mem_of_getElem? hx)).1;have hx2:=(hf x (List.mem_of_getElem? hx)).2;have hol:out.length≤1000000000:=by have:=hI.1;simp only [zad] at hr;omega
  cases h1:(↑(zab x).length:Int) != (↑(List.map Col.cells s.cols).length:Int)
  ·rcases zfn a s frs tb f i x out zlH hx2 0 ([]) zlH zlH with ⟨row2,q2,q2_1,g2⟩|⟨r2_0,r2_1,p2_0,g2⟩
   ·exact (ih (i+1) (out++[row2]) (by omega) (by exact ⟨by have:=hI.1;simp;omega,zqq hI.2 hx zlE (zqz (And.right ‹_≤_∧zbE f x []=_›))⟩) (by omega)).elim (fun ⟨outZ,qZ,xZ,gZ⟩=>.inl ⟨outZ,qZ,xZ,fun R hg=>zaa (wklN [sb h0,se (zah zaK hx rfl),sb h1] [2,3,4,5,10,13,23,24,25,35,36,37] 3 [(.ot 13 Ty.Value,4)] kr (g2 _ (zaa (wkl [sb q2_1,sqx (row2.length=(List.map V.cells row2).length∧True),sqx (AllLen [[AV.sl (List.map V.cells row2)]] 1∧out.length=(List.map vrow out).length∧(((List.map vrow out).length+[[AV.sl (List.map V.cells row2)]].length) * 24).le 140737488355328),si hw] [2,3,4,5,10,23,24,25] 3 kr (zav (show ([(2,AV.sl (List.map Fr.cells frs)),(3,AV.sl (List.map Tb.cells tb)),(4,AV.p 0 0),(5,AV.p 1 0),(10,AV.own 2 (List.map vrow out++[[AV.sl (List.map V.cells row2)]]).length),(23,AV.sl (List.map zaK a.rows)),(24,iv (↑(List.map zaK a.rows).length:Int)),(25,iv (↑(i+1):Int))]:TS)=_ by first|rfl|(simp;done)|(simp [X.cells,Qy.cells,V.cells,Col.cells,Rw.cells,Tb.cells,Fr.cells,Sch.cells,Tp.cells,Pl.cells,xCol,xLit,xBin,xNeg,Ac.cells,Se.cells,Pr.cells,Ch.cells,Rw.cells];done)) (show ([Blk.box [iv a.kind,sv a.table,AV.sl (List.map (fun r=>[AV.sl (zab r)]) a.rows),AV.sl (zaf a.query),AV.sl (List.map Se.cells a.sets),AV.sl (zab a.wh),sv a.text],Blk.box [sv s.name,AV.sl (List.map Col.cells s.cols)],Blk.row Ty.LValue (List.map vrow out++[[AV.sl (List.map V.cells row2)]]) false]:Heap)=_ by first|rfl|(simp;done)|(simp [X.cells,Qy.cells,V.cells,Col.cells,Rw.cells,Tb.cells,Fr.cells,Sch.cells,Tp.cells,Pl.cells,xCol,xLit,xBin,xNeg,Ac.cells,Se.cells,Pr.cells,Ch.cells,Rw.cells];done)) (gZ R hg))))))⟩) (fun ⟨rY,cY,pZ,gZ⟩=>.inr ⟨rY,cY,pZ,zaa (wklN [sb h0,se (zah zaK hx rfl),sb h1] [2,3,4,5,10,13,23,24,25,35,36,37] 3 [(.ot 13 Ty.Value,4)] kr (g2 _ (zaa (wkl [sb q2_1,sqx (row2.length=(List.map V.cells row2).length∧True),sqx (AllLen [[AV.sl (List.map V.cells row2)]] 1∧out.length=(List.map vrow out).length∧(((List.map vrow out).length+[[AV.sl (List.map V.cells row2)]].length) * 24).le 140737488355328),si hw] [2,3,4,5,10,23,24,25] 3 kr (zav (show ([(2,AV.sl (List.map Fr.cells frs)),(3,AV.sl (List.map Tb.cells tb)),(4,AV.p 0 0),(5,AV.p 1 0),(10,AV.own 2 (List.map vrow out++[[AV.sl (List.map V.cells row2)]]).length),(23,AV.sl (List.map zaK a.rows)),(24,iv (↑(List.map zaK a.rows).length:Int)),(25,iv (↑(i+1):Int))]:TS)=_ by first|rfl|(simp;done)|(simp [X.cells,Qy.cells,V.cells,Col.cells,Rw.cells,Tb.cells,Fr.cells,Sch.cells,Tp.cells,Pl.cells,xCol,xLit,xBin,xNeg,Ac.cells,Se.cells,Pr.cells,Ch.cells,Rw.cells];done)) (show ([Blk.box [iv a.kind,sv a.table,AV.sl (List.map (fun r=>[AV.sl (zab r)]) a.rows),AV.sl (zaf a.query),AV.sl (List.map Se.cells a.sets),AV.sl (zab a.wh),sv a.text],Blk.box [sv s.name,AV.sl (List.map Col.cells s.cols)],Blk.row Ty.LValue (List.map vrow out++[[AV.sl (List.map V.cells row2)]]) false]:Heap)=_ by first|rfl|(simp;done)|(simp [X.cells,Qy.cells,V.cells,Col.cells,Rw.cells,Tb.cells,Fr.cells,Sch.cells,Tp.cells,Pl.cells,xCol,xLit,xBin,xNeg,Ac.cells,Se.cells,Pr.cells,Ch.cells,Rw.cells];done)) gZ)))))⟩)
   ·exact .inr ⟨r2_0,r2_1,(by first|exact ⟨rfl,by omega,znR hI.2 hx (by have h:=‹((((zab x).length:Nat):Int) != _)=true›;simp at h;omega)⟩|exact ⟨(And.left ‹_=[]∧_≠(0:Int)∧_›),(And.right ‹_=[]∧_≠(0:Int)∧_›).1,znT hI.2 hx zlE (And.right ‹_=[]∧_≠(0:Int)∧_›).2 (And.right ‹_=[]∧_≠(0:Int)∧_›).1⟩),zaa (wklN [sb h0,se (zah zaK hx rfl),sb h1] [2,3,4,5,10,13,23,24,25,35,36,37] 3 [(.ot 13 Ty.Value,4)] kr g2)⟩
  ·exact .inr ⟨[],5,(by first|exact ⟨rfl,by omega,znR hI.2 hx (by have h:=‹((((zab x).length:Nat):Int) != _)=true›;simp at h;omega)⟩|exact ⟨(And.left ‹_=[]∧_≠(0:Int)∧_›),(And.right ‹_=[]∧_≠(0:Int)∧_›).1,znT hI.2 hx zlE (And.right ‹_=[]∧_≠(0:Int)∧_›).2 (And.right ‹_=[]∧_≠(0:Int)∧_›).1⟩),zaa (wkr [sb h0,se (zah zaK hx rfl),sb h1] kr)⟩
end Go.AM
namespace Go.AM
set_option maxRecDepth 100000
set_option maxHeartbeats 1000000
set_option linter.unusedSimpArgs false
set_option linter.unusedVariables false
theorem zfm {p:Prop} (h:p:=by first|assumption|(simp only [zad] at *;omega)|exact ⟨Nat.le_refl _,rfl⟩|exact inq0 (by assumption) hr|(simp;done)):p:=h
theorem zfA {p:Prop} (h:p:=by first|assumption|omega|(simp;done)|(simp;omega)):p:=h
theorem zmt {p:Prop} (h:p:=by first|exact zrr (by assumption) (by assumption)|exact insB_q (by assumption) (by assumption)|exact insB_l (by assumption)):p:=h
def wid (v:List V) (s:Sch):Bool :=
 (↑(List.map V.cells v).length:Int) != (↑(List.map Col.cells s.cols).length:Int)
theorem zeS (v:List V) (s:Sch) :zac E0 S.dml_inserted_c1 [vsl v,.p 0 0] [.box s.cells] (bv (wid v s)) [.box s.cells]:=by
 exact wk At.dml_inserted_c1 [] kr
def okW (s:Sch) (v:List V):Bool:=!wid v s
noncomputable def zpk (l:List (List V)) (s:Sch) (i:Nat) :Cfg:=zaw B.slices_IndexFunc_Value 0 [(0,.sl (l.map vrow)),(1,.fn S.dml_inserted_c1 [.p 0 0]),(7,iv ((l.map vrow).length:Nat)),(8,iv (i:Nat))] [.box s.cells]
theorem zde (l:List (List V)) (s:Sch) (hl:zad l) (i:Nat)  (hi:i≤(l).length) (hI:(l.take i).all (okW s)=true):(((l.take (l).length).all (okW s)=true)∧(decide ((((l).length:Nat):Int) < (((l.map vrow).length:Nat):Int))=false)∧∀ R,Good E0 B.slices_IndexFunc_Value [.box s.cells] (zpk l s (l).length ) R→Good E0 B.slices_IndexFunc_Value [.box s.cells] (zpk l s i ) R)∨(∃ (r:Int),(decide (0≤r)=true∧l.all (okW s)=false)∧Good E0 B.slices_IndexFunc_Value [.box s.cells] (zpk l s i ) (Shut 1 fun rZ hZ=>rZ=(iv r)∧hZ=[.box s.cells])):=by
 obtain ⟨kk,hk⟩:∃ kk,i+kk=(l).length:=⟨(l).length - i,by omega⟩
 induction kk generalizing i  with
 | zero =>
  have e0:i=(l).length:=by omega
  subst e0
  exact .inl ⟨hI,by simp,fun R hg=>hg⟩
 | succ kk ih =>
  obtain ⟨x,hx⟩:=zaC (l:=l) (i:=i) (by omega)
  have h0:decide (((i:Nat):Int) < (((l.map vrow).length:Nat):Int))=true:=by simp;omega
  have hw:IntKind.i64.wrap (((i:Nat):Int)+1)=((i+1:Nat):Int):=zao i (by first|omega|(simp only [zad,Few] at *;omega))
  let p_1:List St:=[sb h0,se (zah vrow hx rfl),sl [0] (zeS x s)]
  cases h1:wid x s
  ·exact (ih (i+1) (by omega) (by exact zcp hI hx (by unfold okW;rw [show wid x s=false by assumption];rfl)) (by omega)).elim (fun ⟨qZ,xZ,gZ⟩=>.inl ⟨qZ,xZ,fun R hg=>zaa (wkl (p_1++[sb h1,si hw]) [0,1,7,8] 1 kr (gZ R hg))⟩) (fun ⟨rY,pZ,gZ⟩=>.inr ⟨rY,pZ,zaa (wkl [sb h0,se (zah vrow hx rfl),sl [0] (zeS x s),sb h1,si hw] [0,1,7,8] 1 kr gZ)⟩)
  ·exact .inr ⟨(i:Int),(by exact ⟨by simp,zbL hx (by unfold okW;rw [show wid x s=true by assumption];rfl)⟩),zaa (wkr (p_1++[sb h1]) kr)⟩
theorem zfG (l:List (List V)) (s:Sch) (hl:zad l):∃ (r:Int),decide (0≤r)=!l.all (okW s)∧zac E0 S.slices_IndexFunc_Value [.sl (l.map vrow),.fn S.dml_inserted_c1 [.p 0 0]] [.box s.cells] (iv r) [.box s.cells]:=by
 rcases zde l s zfA 0 zfA zfA with ⟨q1,q1_1,g1⟩|⟨r1_0,p1_0,g1⟩
 ·exact ⟨-1,(by first|(have h:=(by assumption:List.all (List.take _ _) _=true);rw [List.take_length] at h;rw [h];rfl)|(have h:=(by assumption:_∧List.all _ _=false);rw [h.1,h.2];rfl)),wkc At.slices_IndexFunc_Value [] [0,1,7,8] 1 kr (g1 _ (zaa (wkr [sb q1_1] kr)))⟩
 ·exact ⟨r1_0,(by first|(have h:=(by assumption:List.all (List.take _ _) _=true);rw [List.take_length] at h;rw [h];rfl)|(have h:=(by assumption:_∧List.all _ _=false);rw [h.1,h.2];rfl)),wkc At.slices_IndexFunc_Value [] [0,1,7,8] 1 kr (g1)⟩
theorem c_cfW (l:List (List V)) (s:Sch) (hl:zad l):∃ (r:Bool),r=!l.all (okW s)∧zac E0 S.slices_ContainsFunc_Value [.sl (l.map vrow),.fn S.dml_inserted_c1 [.p 0 0]] [.box s.cells] (bv r) [.box s.cells]:=by
 obtain ⟨r1,q1,c1⟩:=(zfG l s zfA)
 exact ⟨decide ((0:Int)≤r1),(by assumption),wk At.slices_ContainsFunc_Value [sl [0] c1] kr⟩
theorem zbJ (l:List (List V)) (s:Sch) (hl:zad l):zac E0 S.slices_ContainsFunc_Value [.sl (l.map vrow),.fn S.dml_inserted_c1 [.p 0 0]] [.box s.cells] (bv (!l.all (okW s))) [.box s.cells]:=by
 obtain ⟨r,rfl,h⟩:=c_cfW l s hl
 exact h
abbrev PRw (g:Qy→List (List V) × Int) (q:Qy) (frs:List Fr) (tb:List Tb):Prop:=Pure S.evaluate_Rows [q.av,fsl frs,tsl tb] (.tup [.sl ((g q).1.map vrow),iv (g q).2])
def insQ (g:Qy→List (List V) × Int) (s:Sch):List Qy→List (List V)→List (List V) × Int
 | [],acc=>(acc,0)
 | q::r,acc=>bif (g q).2 != 0 then ([],(g q).2) else bif !(g q).1.all (okW s) then ([],5) else insQ g s r (acc++(g q).1)
theorem zpS {g:Qy→List (List V) × Int} {s:Sch} {l:List Qy} {i:Nat} {x:Qy} {acc a0:List (List V)} (h:insQ g s l a0=insQ g s (l.drop i) acc) (hx:l[i]?=some x) (h1:((g x).2 != 0)=false) (h2:(!(g x).1.all (okW s))=false):insQ g s l a0=insQ g s (l.drop (i+1)) (acc++(g x).1):=by
 obtain ⟨hi,e⟩:=List.getElem?_eq_some_iff.1 hx
 rw [h,List.drop_eq_getElem_cons hi,e]
 simp only [insQ,h1,h2,cond_false]
theorem zmh {g:Qy→List (List V) × Int} {s:Sch} {l:List Qy} {i:Nat} {x:Qy} {acc a0:List (List V)} (h:insQ g s l a0=insQ g s (l.drop i) acc) (hx:l[i]?=some x) (h1:((g x).2 != 0)=true):(g x).2≠0∧insQ g s l a0=([],(g x).2):=by
 obtain ⟨hi,e⟩:=List.getElem?_eq_some_iff.1 hx
 rw [h,List.drop_eq_getElem_cons hi,e]
 exact ⟨by simpa using h1,by simp only [insQ,h1,cond_true]⟩
theorem zmG {g:Qy→List (List V) × Int} {s:Sch} {l:List Qy} {i:Nat} {x:Qy} {acc a0:List (List V)} (h:insQ g s l a0=insQ g s (l.drop i) acc) (hx:l[i]?=some x) (h1:((g x).2 != 0)=false) (h2:(!(g x).1.all (okW s))=true):(5:Int)≠0∧insQ g s l a0=([],5):=by
 obtain ⟨hi,e⟩:=List.getElem?_eq_some_iff.1 hx
 rw [h,List.drop_eq_getElem_cons hi,e]
 exact ⟨by omega,by simp only [insQ,h1,h2,cond_true,cond_false]⟩
theorem zqN {g:Qy→List (List V) × Int} {s:Sch} {l:List Qy} {acc a0:List (List V)} (h:insQ g s l a0=insQ g s (l.drop l.length) acc):insQ g s l a0=(acc,0):=by
 rw [h,List.drop_length];rfl
def bndQ (i:Nat):Nat:=1000000+100000 * i
theorem zpq {i k m:Nat} (h:k≤bndQ i) (h2:m≤100000):k+m≤bndQ (i+1):=by unfold bndQ at *;omega
theorem zrO {i k m:Nat} (h:k≤bndQ i) (h2:m≤100000) (hi:i≤1000):k+m≤1000000000:=by unfold bndQ at *;omega
theorem bndQ_0 {k m:Nat} (h:k≤m) (h2:m≤1000000):k≤bndQ 0:=by unfold bndQ;omega
abbrev insA (f:X→V × Int) (s:Sch) (a:Ac):List (List V):=(insL f s.cols.length a.rows []).1
noncomputable def zoc (a:Ac) (s:Sch) (frs:List Fr) (tb:List Tb) (f:X→V × Int) (g:Qy→List (List V) × Int) (i:Nat) (out:List (List V)):Cfg:=zaw B.dml_inserted 2 [(2,fsl frs),(3,tsl tb),(5,.p 1 0),(10,.own 2 out.length),(62,.sl (zaf a.query)),(63,iv ((zaf a.query).length:Nat)),(64,iv (i:Nat))] [.box a.cells,.box s.cells,.row Ty.LValue (out.map vrow) false]
theorem zfI (a:Ac) (s:Sch) (frs:List Fr) (tb:List Tb) (f:X→V × Int) (g:Qy→List (List V) × Int) (hf:∀ r∈a.rows,zad r∧∀ x∈r,PEv f x frs tb) (hq:a.query.length≤1000) (hg:∀ q∈a.query,(g q).1.length≤100000∧PRw g q frs tb) (i:Nat) (out:List (List V)) (hi:i≤(a.query).length) (hI:out.length≤bndQ i∧insQ g s a.query (insA f s a)=insQ g s (a.query.drop i) out):(∃ (out':List (List V)),(out'.length≤bndQ (a.query).length∧insQ g s a.query (insA f s a)=insQ g s (a.query.drop (a.query).length) out')∧(decide ((((a.query).length:Nat):Int) < (((zaf a.query).length:Nat):Int))=false)∧∀ R,Good E0 B.dml_inserted [] (zoc a s frs tb f g (a.query).length out') R→Good E0 B.dml_inserted [] (zoc a s frs tb f g i out) R)∨(∃ (r:List (List V)) (c:Int),(r=[]∧c≠0∧insQ g s a.query (insA f s a)=([],c))∧Good E0 B.dml_inserted [] (zoc a s frs tb f g i out) (Shut 0 fun rZ hZ=>rZ=(.tup [.sl (r.map vrow),iv c])∧hZ=[])):=by
 obtain ⟨kk,hk⟩:∃ kk,i+kk=(a.query).length:=⟨(a.query).length - i,by omega⟩
 induction kk generalizing i out with
 | zero =>
  have e0:i=(a.query).length:=by omega
  subst e0
  exact .inl ⟨out,hI,by simp,fun R hg=>hg⟩
 | succ kk ih =>
  obtain ⟨x,hx⟩:=zaC (l:=a.query) (i:=i) (by omega)
  have h0:decide (((i:Nat):Int) < (((zaf a.query).length:Nat):Int))=true:=by simp;omega
  have hw:IntKind.i64.wrap (((i:Nat):Int)+1)=((i+1:Nat):Int):=zao i (by first|omega|(simp only [zad,Few] at *;omega))
  have hx0:=(hg x (List.mem_of_getElem? hx)).1;have hx1:zad (g x).1:=(by simp only [zad];omega);have hx2:=(hg x (List.mem_of_getElem? hx)).2;have hil:i < a.query.length:=(List.getElem?_eq_some_iff.1 hx).1;have hol:out.length+(g x).1.length≤1000000000:=zrO hI.1 hx0 (by omega)
  cases h1:(g x).snd != 0
  ·cases h2:!(g x).fst.all (okW s)
   ·exact (ih (i+1) (out++(g x).fst) (by omega) (by exact ⟨by rw [List.length_append];exact zpq hI.1 (hg x (List.mem_of_getElem? hx)).1,zpS hI.2 hx (by assumption) (by assumption)⟩) (by omega)).elim (fun ⟨outZ,qZ,xZ,gZ⟩=>.inl ⟨outZ,qZ,xZ,fun R hg=>zaa (wkl [sb h0,se (zaF hx),sc hx2,sb h1,sl [1] (zbJ ((g x).fst) s zfA),sb h2,sqx (AllLen (List.map vrow (g x).fst) 1∧out.length=(List.map vrow out).length∧(((List.map vrow out).length+(List.map vrow (g x).fst).length) * 24).le 140737488355328),si hw] [2,3,5,10,62,63,64] 3 kr (zav (show ([(2,AV.sl (List.map Fr.cells frs)),(3,AV.sl (List.map Tb.cells tb)),(5,AV.p 1 0),(10,AV.own 2 (List.map vrow out++List.map vrow (g x).fst).length),(62,AV.sl (zaf a.query)),(63,iv (↑(zaf a.query).length:Int)),(64,iv (↑(i+1):Int))]:TS)=_ by first|rfl|(simp;done)|(simp [X.cells,Qy.cells,V.cells,Col.cells,Rw.cells,Tb.cells,Fr.cells,Sch.cells,Tp.cells,Pl.cells,xCol,xLit,xBin,xNeg,Ac.cells,Se.cells,Pr.cells,Ch.cells,Rw.cells];done)) (show ([Blk.box [iv a.kind,sv a.table,AV.sl (List.map (fun r=>[AV.sl (zab r)]) a.rows),AV.sl (zaf a.query),AV.sl (List.map Se.cells a.sets),AV.sl (zab a.wh),sv a.text],Blk.box [sv s.name,AV.sl (List.map Col.cells s.cols)],Blk.row Ty.LValue (List.map vrow out++List.map vrow (g x).fst) false]:Heap)=_ by first|rfl|(simp;done)|(simp [X.cells,Qy.cells,V.cells,Col.cells,Rw.cells,Tb.cells,Fr.cells,Sch.cells,Tp.cells,Pl.cells,xCol,xLit,xBin,xNeg,Ac.cells,Se.cells,Pr.cells,Ch.cells,Rw.cells];done)) (gZ R hg)))⟩) (fun ⟨rY,cY,pZ,gZ⟩=>.inr ⟨rY,cY,pZ,zaa (wkl [sb h0,se (zaF hx),sc hx2,sb h1,sl [1] (zbJ ((g x).fst) s zfA),sb h2,sqx (AllLen (List.map vrow (g x).fst) 1∧out.length=(List.map vrow out).length∧(((List.map vrow out).length+(List.map vrow (g x).fst).length) * 24).le 140737488355328),si hw] [2,3,5,10,62,63,64] 3 kr (zav (show ([(2,AV.sl (List.map Fr.cells frs)),(3,AV.sl (List.map Tb.cells tb)),(5,AV.p 1 0),(10,AV.own 2 (List.map vrow out++List.map vrow (g x).fst).length),(62,AV.sl (zaf a.query)),(63,iv (↑(zaf a.query).length:Int)),(64,iv (↑(i+1):Int))]:TS)=_ by first|rfl|(simp;done)|(simp [X.cells,Qy.cells,V.cells,Col.cells,Rw.cells,Tb.cells,Fr.cells,Sch.cells,Tp.cells,Pl.cells,xCol,xLit,xBin,xNeg,Ac.cells,Se.cells,Pr.cells,Ch.cells,Rw.cells];done)) (show ([Blk.box [iv a.kind,sv a.table,AV.sl (List.map (fun r=>[AV.sl (zab r)]) a.rows),AV.sl (zaf a.query),AV.sl (List.map Se.cells a.sets),AV.sl (zab a.wh),sv a.text],Blk.box [sv s.name,AV.sl (List.map Col.cells s.cols)],Blk.row Ty.LValue (List.map vrow out++List.map vrow (g x).fst) false]:Heap)=_ by first|rfl|(simp;done)|(simp [X.cells,Qy.cells,V.cells,Col.cells,Rw.cells,Tb.cells,Fr.cells,Sch.cells,Tp.cells,Pl.cells,xCol,xLit,xBin,xNeg,Ac.cells,Se.cells,Pr.cells,Ch.cells,Rw.cells];done)) gZ))⟩)
   ·exact .inr ⟨[],5,(by first|exact ⟨rfl,zmh hI.2 hx (by assumption)⟩|exact ⟨rfl,zmG hI.2 hx (by assumption) (by assumption)⟩),zaa (wkr [sb h0,se (zaF hx),sc hx2,sb h1,sl [1] (zbJ ((g x).fst) s zfA),sb h2] kr)⟩
  ·exact .inr ⟨[],(g x).snd,(by first|exact ⟨rfl,zmh hI.2 hx (by assumption)⟩|exact ⟨rfl,zmG hI.2 hx (by assumption) (by assumption)⟩),zaa (wkr [sb h0,se (zaF hx),sc hx2,sb h1] kr)⟩
def insB (f:X→V × Int) (g:Qy→List (List V) × Int) (s:Sch) (a:Ac):List (List V) × Int :=
 bif (insL f s.cols.length a.rows []).2 != 0 then ([],(insL f s.cols.length a.rows []).2) else insQ g s a.query (insL f s.cols.length a.rows []).1
section
variable {f : X → V × Int} {g : Qy → List (List V) × Int} {s : Sch} {a : Ac} {out1 out2 r : List (List V)} {c : Int}
theorem zkl (q1:out1.length≤a.rows.length∧insL f s.cols.length a.rows []=insL f s.cols.length (a.rows.drop a.rows.length) out1):insA f s a=out1∧(insL f s.cols.length a.rows []).2=0:=by
 have h:=zrK q1.2
 unfold insA;rw [h];exact ⟨rfl,rfl⟩
theorem inq0 (q1:out1.length≤a.rows.length∧insL f s.cols.length a.rows []=insL f s.cols.length (a.rows.drop a.rows.length) out1) (hr:a.rows.length≤1000000):out1.length≤bndQ 0∧insQ g s a.query (insA f s a)=insQ g s (a.query.drop 0) out1 :=
 ⟨bndQ_0 q1.1 hr,by rw [(zkl q1).1];rfl⟩
theorem zrr (q1:out1.length≤a.rows.length∧insL f s.cols.length a.rows []=insL f s.cols.length (a.rows.drop a.rows.length) out1) (q2:out2.length≤bndQ a.query.length∧insQ g s a.query (insA f s a)=insQ g s (a.query.drop a.query.length) out2):(out2,0)=insB f g s a:=by
 have h:=zqN q2.2
 unfold insA at h
 unfold insB;rw [(zkl q1).2,h];rfl
theorem insB_q (q1:out1.length≤a.rows.length∧insL f s.cols.length a.rows []=insL f s.cols.length (a.rows.drop a.rows.length) out1) (h:r=[]∧c≠0∧insQ g s a.query (insA f s a)=([],c)):(r,c)=insB f g s a:=by
 obtain ⟨h1,h2,h3⟩:=h
 unfold insA at h3
 unfold insB;rw [(zkl q1).2,h3,h1];rfl
theorem insB_l (h:r=[]∧c≠0∧insL f s.cols.length a.rows []=([],c)):(r,c)=insB f g s a:=by
 obtain ⟨h1,h2,h3⟩:=h
 have h4:(c != 0)=true:=by simpa using h2
 unfold insB;rw [h3,h1];simp only [h4,cond_true]
end
theorem zkB (a:Ac) (s:Sch) (frs:List Fr) (tb:List Tb) (f:X→V × Int) (g:Qy→List (List V) × Int) (hs:zad s.cols) (hr:a.rows.length≤1000000) (hf:∀ r∈a.rows,zad r∧∀ x∈r,PEv f x frs tb) (hq:a.query.length≤1000) (hg:∀ q∈a.query,(g q).1.length≤100000∧PRw g q frs tb):∃ (r:List (List V)) (c:Int),(r,c)=insB f g s a∧zac E0 S.dml_inserted [a.av,s.av,fsl frs,tsl tb] [] (.tup [.sl (r.map vrow),iv c]) []:=by
 rcases zfF a s frs tb f zfm zfm hf 0 ([]) zfm zfm with ⟨out1,q1,q1_1,g1⟩|⟨r1_0,r1_1,p1_0,g1⟩
 ·rcases zfI a s frs tb f g hf zfm hg 0 out1 zfm zfm with ⟨out2,q2,q2_1,g2⟩|⟨r2_0,r2_1,p2_0,g2⟩
  ·exact ⟨out2,0,zmt,wkcN At.dml_inserted [] [2,3,4,5,10,23,24,25] 2 [(.ot 10 Ty.LValue,3)] kr (g1 _ (zaa (wkl [sb q1_1] [2,3,5,10,62,63,64] 3 kr (g2 _ (zaa (wkr [sqx (out2.length=(List.map vrow out2).length∧True∧True),sb q2_1] kr))))))⟩
  ·exact ⟨r2_0,r2_1,zmt,wkcN At.dml_inserted [] [2,3,4,5,10,23,24,25] 2 [(.ot 10 Ty.LValue,3)] kr (g1 _ (zaa (wkl [sb q1_1] [2,3,5,10,62,63,64] 3 kr g2)))⟩
 ·exact ⟨r1_0,r1_1,zmt,wkcN At.dml_inserted [] [2,3,4,5,10,23,24,25] 2 [(.ot 10 Ty.LValue,3)] kr (g1)⟩
theorem zkC (a:Ac) (s:Sch) (frs:List Fr) (tb:List Tb) (f:X→V × Int) (g:Qy→List (List V) × Int) (hs:zad s.cols) (hr:a.rows.length≤1000000) (hf:∀ r∈a.rows,zad r∧∀ x∈r,PEv f x frs tb) (hq:a.query.length≤1000) (hg:∀ q∈a.query,(g q).1.length≤100000∧PRw g q frs tb):zac E0 S.dml_inserted [a.av,s.av,fsl frs,tsl tb] [] (.tup [.sl ((insB f g s a).1.map vrow),iv (insB f g s a).2]) []:=by
 obtain ⟨r,c,h,h2⟩:=zkB a s frs tb f g hs hr hf hq hg
 rw [← h];exact h2
def zlv (ib:List (List V) × Int) (a:Ac):Ch × Int :=
 bif ib.snd != 0 then
  (Ch.mk [] [] [],ib.snd)
 else
  (Ch.mk ib.fst [] [],0)
theorem zhy (ib:List (List V) × Int) (a:Ac) (s:Sch) (frs:List Fr) (tb:List Tb) (hk1:(a.kind==1)=true) (hv:zac E0 S.dml_target [a.av,tsl tb] [] (.tup [s.av,iv 0]) []) (hi:Pure S.dml_inserted [a.av,s.av,fsl frs,tsl tb] (.tup [.sl (ib.1.map vrow),iv ib.2])):zac E0 S.dml_Candidates [a.av,fsl frs,tsl tb] [] (.tup [(zlv ib a).1.av,iv (zlv ib a).2]) []:=by
 unfold zlv
 let p_1:List St:=[sc hv,sb (rfl:false=false),sb hk1,sc hi]
 cases h1:ib.snd != 0
 ·exact wk At.dml_Candidates (p_1++[sb h1]) kr
 ·exact wk At.dml_Candidates (p_1++[sb h1]) kr
end Go.AM
namespace Go.AM
set_option maxRecDepth 100000
set_option maxHeartbeats 1000000
set_option linter.unusedSimpArgs false
set_option linter.unusedVariables false
def keyL:List Col→Nat→Int→Int
 | [],_,k=>k
 | c::r,i,k=>keyL r (i+1) (bif c.key then (i:Int) else k)
abbrev keyC (s:Sch):Int:=keyL s.cols 0 (-1)
theorem zkJ {l:List Col} {i:Nat} {k:Int} {x:Col} {z:Int} (h:z=keyL (l.drop i) i k) (hx:l[i]?=some x):z=keyL (l.drop (i+1)) (i+1) (bif x.key then (i:Int) else k):=by
 obtain ⟨hi,e⟩:=List.getElem?_eq_some_iff.1 hx
 rw [h,List.drop_eq_getElem_cons hi,e];rfl
theorem zj8 {l:List Col} {i:Nat} {k:Int} {x:Col} {z:Int} (h:z=keyL (l.drop i) i k) (hx:l[i]?=some x) (hk:x.key=true):z=keyL (l.drop (i+1)) (i+1) (i:Int):=by
 have:=zkJ h hx;rwa [hk] at this
theorem zjX {l:List Col} {i:Nat} {k:Int} {x:Col} {z:Int} (h:z=keyL (l.drop i) i k) (hx:l[i]?=some x) (hk:x.key=false):z=keyL (l.drop (i+1)) (i+1) k:=by
 have:=zkJ h hx;rwa [hk] at this
theorem zb9 {l:List Col} {k:Int} {z:Int} (h:z=keyL (l.drop l.length) l.length k):k=z:=by
 rw [List.drop_length] at h;exact h.symm
structure RowsV (s:Sch) (next:Int) (rows:List Rw):Prop where
 fit:zfJ s rows
 asc:rows.Pairwise fun a b=>a.id < b.id
 ids:∀ r∈rows,1≤r.id∧r.id < next
 keys:0≤keyC s→rows.Pairwise fun a b=>zbq a.vals (keyC s)≠zbq b.vals (keyC s)
 pos:1≤next
theorem RowsV.nil {s:Sch} {next:Int} (h:1≤next):RowsV s next []:=⟨fun _ h=>(by cases h),.nil,fun _ h=>(by cases h),fun _=>.nil,h⟩
theorem RowsV.more {s:Sch} {next m:Int} {rows:List Rw} (h:RowsV s next rows) (hm:next≤m):RowsV s m rows:=⟨h.fit,h.asc,fun r hr=>⟨(h.ids r hr).1,by have:=(h.ids r hr).2;omega⟩,h.keys,by have:=h.pos;omega⟩
theorem RowsV.push {s:Sch} {next m:Int} {rows:List Rw} {v:List V} (h:RowsV s next rows) (hv:zdn s.cols v) (hf:∀ r∈rows,keyC s < 0∨zbq r.vals (keyC s)≠zbq v (keyC s)) (hm:next < m):RowsV s m (rows++[⟨next,v⟩]):=by
 refine ⟨h.fit.push hv,?_,?_,?_,by have:=h.pos;omega⟩
 ·rw [List.pairwise_append];exact ⟨h.asc,by simp,fun a ha b hb=>by simp only [List.mem_singleton] at hb;subst hb;exact (h.ids a ha).2⟩
 ·intro r hr
  rcases List.mem_append.1 hr with hr|hr
  ·have:=h.ids r hr;omega
  ·simp only [List.mem_singleton] at hr;subst hr;have:=h.pos;simp only;omega
 ·intro hk
  rw [List.pairwise_append];exact ⟨h.keys hk,by simp,fun a ha b hb=>by simp only [List.mem_singleton] at hb;subst hb;exact (hf a ha).resolve_left (by omega)⟩
theorem veq_of {a b:V} (h:(!(a.kind==b.kind&&(a.int==b.int&&(a.text==b.text&&true))))=true):a≠b:=by
 rintro rfl;simp at h
def zbW (key:Int) (rv:List V) (rows:List Rw):Prop:=∀ r∈rows,key < 0∨zbq r.vals key≠zbq rv key
theorem zbW.step {key:Int} {rv:List V} {rows:List Rw} {i:Nat} {x:Rw} {f g:Bool} (h:f=true→zbW key rv (rows.take i)) (hx:rows[i]?=some x) (hg:g=true→f=true∧(key < 0∨zbq x.vals key≠zbq rv key)):g=true→zbW key rv (rows.take (i+1)):=by
 intro hg1 r hr
 rw [List.take_add_one,hx] at hr
 rcases List.mem_append.1 hr with hr|hr
 ·exact h (hg hg1).1 r hr
 ·simp at hr;subst hr;exact (hg hg1).2
theorem zhX {key:Int} {rv xv:List V} {f:Bool} (h2:decide (key < 0)=false) (hg:(bif f then bif decide (key < 0) then true else !((zbq xv key).kind==(zbq rv key).kind&&((zbq xv key).int==(zbq rv key).int&&((zbq xv key).text==(zbq rv key).text&&true))) else false)=true):f=true∧(key < 0∨zbq xv key≠zbq rv key):=by
 cases f
 ·simp at hg
 ·refine ⟨rfl,.inr (veq_of ?_)⟩;rw [h2] at hg;simpa using hg
theorem zmH {key:Int} {P:Prop} {f:Bool} (h2:decide (key < 0)=true) (hg:(bif f then true else false)=true):f=true∧(key < 0∨P):=by
 cases f
 ·simp at hg
 ·exact ⟨rfl,.inl (by simpa using h2)⟩
theorem zn9 {n:Int} {a b:Nat} (ha:(a:Int) < 2) (hb:(b:Int) < 2) (hn:1≤n∧n≤1000000):n < IntKind.i64.wrap (n+IntKind.i64.wrap (1+IntKind.i64.wrap ((a:Int) * (b:Int))))∧IntKind.i64.wrap (n+IntKind.i64.wrap (1+IntKind.i64.wrap ((a:Int) * (b:Int))))≤n+2:=by
 have e:(a:Int) * (b:Int)=0∨(a:Int) * (b:Int)=1:=by
  have:a=0∨a=1:=by omega
  have:b=0∨b=1:=by omega
  rcases ‹a=0∨a=1› with rfl|rfl <;> rcases ‹b=0∨b=1› with rfl|rfl <;> simp
 rcases e with e|e <;> rw [e] <;> simp only [IntKind.wrap_i64] <;> omega
noncomputable def L_tvK (t0:Tp) (s:Sch) (n:Int) (u:Tp) (next:Int) (i:Nat) (key:Int):Cfg:=zaw B.world_Tape_TableOf 0 [(0,.p 0 0),(2,iv n),(4,.p 1 0),(6,.p 2 0),(7,.p 3 0),(8,iv key),(22,.sl (s.cols.map Col.cells)),(23,iv ((s.cols.map Col.cells).length:Nat)),(24,iv (i:Nat))] [.box u.cells,.box s.cells,.box zT,.box [sv s.name,.sl (s.cols.map Col.cells),iv next,.nl]]
theorem zdO (t0:Tp) (s:Sch) (n:Int) (u:Tp) (next:Int) (hs:Few s.cols) (i:Nat) (key:Int) (hi:i≤(s.cols).length) (hI:key < (i:Int)∧keyC s=keyL (s.cols.drop i) i key):∃ (key':Int),(key' < ((s.cols).length:Int)∧keyC s=keyL (s.cols.drop (s.cols).length) (s.cols).length key')∧(decide ((((s.cols).length:Nat):Int) < (((s.cols.map Col.cells).length:Nat):Int))=false)∧∀ R,Good E0 B.world_Tape_TableOf [.box t0.cells] (L_tvK t0 s n u next (s.cols).length key') R→Good E0 B.world_Tape_TableOf [.box t0.cells] (L_tvK t0 s n u next i key) R:=by
 obtain ⟨kk,hk⟩:∃ kk,i+kk=(s.cols).length:=⟨(s.cols).length - i,by omega⟩
 induction kk generalizing i key with
 | zero =>
  have e0:i=(s.cols).length:=by omega
  subst e0
  exact ⟨key,hI,by simp,fun R hg=>hg⟩
 | succ kk ih =>
  obtain ⟨x,hx⟩:=zaC (l:=s.cols) (i:=i) (by omega)
  have h0:decide (((i:Nat):Int) < (((s.cols.map Col.cells).length:Nat):Int))=true:=by simp;omega
  have hw:IntKind.i64.wrap (((i:Nat):Int)+1)=((i+1:Nat):Int):=zao i (by first|omega|(simp only [zad,Few] at *;omega))
  let p_1:List St:=[sb h0,se (zah Col.cells hx rfl)]
  cases h1:x.key
  ·obtain ⟨keyZ,qZ,xZ,gZ⟩:=ih (i+1) key (by omega) (by first|exact ⟨by omega,zj8 hI.2 hx (by assumption)⟩|exact ⟨by omega,zjX hI.2 hx (by assumption)⟩) (by omega);exact ⟨keyZ,qZ,xZ,fun R hg=>zaa (wkl (p_1++[sb h1,si hw]) [0,2,4,6,7,8,22,23,24] 4 kr (gZ R hg))⟩
  ·obtain ⟨keyZ,qZ,xZ,gZ⟩:=ih (i+1) ((i:Int)) (by omega) (by first|exact ⟨by omega,zj8 hI.2 hx (by assumption)⟩|exact ⟨by omega,zjX hI.2 hx (by assumption)⟩) (by omega);exact ⟨keyZ,qZ,xZ,fun R hg=>zaa (wkl (p_1++[sb h1,si hw]) [0,2,4,6,7,8,22,23,24] 4 kr (gZ R hg))⟩
noncomputable def L_tvR (t0:Tp) (s:Sch) (key:Int) (k:Nat) (u:Tp) (next:Int) (rows:List Rw):Cfg:=zaw B.world_Tape_TableOf 1 [(0,.p 0 0),(4,.p 1 0),(6,.p 2 0),(7,.p 3 0),(8,iv key),(11,iv (k:Nat))] [.box u.cells,.box s.cells,.box zT,.box [sv s.name,.sl (s.cols.map Col.cells),iv next,.own 4 rows.length],.row Ty.Row (rows.map Rw.cells) false]
noncomputable def L_tvI (t0:Tp) (s:Sch) (key:Int) (k:Nat) (u:Tp) (next:Int) (rows:List Rw) (rv:List V) (i:Nat) (fresh:Bool):Cfg:=zaw B.world_Tape_TableOf 2 [(0,.p 0 0),(4,.p 1 0),(6,.p 2 0),(7,.p 3 0),(8,iv key),(11,iv (k+1:Nat)),(12,vsl rv),(13,bv fresh),(45,.own 4 rows.length),(46,iv (rows.length:Nat)),(47,iv (i:Nat))] [.box u.cells,.box s.cells,.box zT,.box [sv s.name,.sl (s.cols.map Col.cells),iv next,.own 4 rows.length],.row Ty.Row (rows.map Rw.cells) false]
theorem zdW (t0:Tp) (s:Sch) (key:Int) (k:Nat) (u:Tp) (next:Int) (rows:List Rw) (rv:List V) (hko:zdb s.cols.length key) (hr:Few rows) (hrs:zfJ s rows) (hrv:zdn s.cols rv) (i:Nat) (fresh:Bool) (hi:i≤(rows).length) (hI:fresh=true→zbW key rv (rows.take i)):∃ (fresh':Bool),(fresh'=true→zbW key rv (rows.take (rows).length))∧(decide ((((rows).length:Nat):Int) < (((rows).length:Nat):Int))=false)∧∀ R,Good E0 B.world_Tape_TableOf [.box t0.cells] (L_tvI t0 s key k u next rows rv (rows).length fresh') R→Good E0 B.world_Tape_TableOf [.box t0.cells] (L_tvI t0 s key k u next rows rv i fresh) R:=by
 obtain ⟨kk,hk⟩:∃ kk,i+kk=(rows).length:=⟨(rows).length - i,by omega⟩
 induction kk generalizing i fresh with
 | zero =>
  have e0:i=(rows).length:=by omega
  subst e0
  exact ⟨fresh,hI,by simp,fun R hg=>hg⟩
 | succ kk ih =>
  obtain ⟨x,hx⟩:=zaC (l:=rows) (i:=i) (by omega)
  have h0:decide (((i:Nat):Int) < (((rows).length:Nat):Int))=true:=by simp;omega
  have hw:IntKind.i64.wrap (((i:Nat):Int)+1)=((i+1:Nat):Int):=zao i (by first|omega|(simp only [zad,Few] at *;omega))
  have hvl:=hrv.len;have hxl:=hrs.len hx;have ho:OwnAt (rows.map Rw.cells) rows.length ((i:Nat):Int):=⟨by simp,by omega,by have:=zeu hx;simp;omega⟩
  let p_1:List St:=[sb h0,sqx (OwnAt (List.map Rw.cells rows) rows.length (i:Int)),sx (.el x.cells) (zf9 Rw.cells (n:=rows.length) (by simp) hx)]
  rcases (Bool.eq_false_or_eq_true fresh).symm with h1|h1
  ·obtain ⟨freshZ,qZ,xZ,gZ⟩:=ih (i+1) false (by omega) (by first|exact zbW.step hI hx (fun h=>by cases h)|exact zbW.step hI hx (zhX (by assumption))|exact zbW.step hI hx (zmH (by assumption))) (by omega);exact ⟨freshZ,qZ,xZ,fun R hg=>zaa (wklN (p_1++[sd [(2,[sb h1]),(3,[sb h1]),(4,[sb h1]),(15,[sb h1]),(16,[sb h1])],si hw]) [0,4,6,7,8,11,12,13,45,46,47] 5 [(.bl 13,5)] kr (gZ R hg))⟩
  ·cases h2:decide (key < 0)
   ·obtain ⟨freshZ,qZ,xZ,gZ⟩:=ih (i+1) (bif fresh then bif decide (key < 0) then true else !((zbq x.vals key).kind==(zbq rv key).kind&&((zbq x.vals key).int==(zbq rv key).int&&((zbq x.vals key).text==(zbq rv key).text&&true))) else false) (by omega) (by first|exact zbW.step hI hx (fun h=>by cases h)|exact zbW.step hI hx (zhX (by assumption))|exact zbW.step hI hx (zmH (by assumption))) (by omega);exact ⟨freshZ,qZ,xZ,fun R hg=>zaa (wkl (p_1++[sd [(2,[sg h1]),(3,[sg h1]),(4,[sg h1]),(5,[sg h2]),(6,[sg h2]),(7,[sg h2]),(8,[so h2 (se (zl3 x.vals key (by first|assumption|(have hk':key < (s.cols.length:Int):=hko;omega)) (by first|assumption|(have hk':key < (s.cols.length:Int):=hko;omega))))]),(9,[sg h2]),(10,[sg h2]),(11,[sg h2]),(12,[so h2 (se (zl3 rv key (by first|assumption|(have hk':key < (s.cols.length:Int):=hko;omega)) (by first|assumption|(have hk':key < (s.cols.length:Int):=hko;omega))))]),(13,[sg h2]),(14,[so h2 (sq zbs)]),(15,[sg h1])],si hw]) [0,4,6,7,8,11,12,13,45,46,47] 5 kr (gZ R hg))⟩
   ·obtain ⟨freshZ,qZ,xZ,gZ⟩:=ih (i+1) (bif fresh then true else false) (by omega) (by first|exact zbW.step hI hx (fun h=>by cases h)|exact zbW.step hI hx (zhX (by assumption))|exact zbW.step hI hx (zmH (by assumption))) (by omega);exact ⟨freshZ,qZ,xZ,fun R hg=>zaa (wkl (p_1++[sd [(2,[sg h1]),(3,[sg h1]),(4,[sg h1]),(5,[sb h2]),(6,[sb h2]),(7,[sb h2]),(8,[sb h2]),(9,[sb h2]),(10,[sb h2]),(11,[sb h2]),(12,[sb h2]),(13,[sb h2]),(14,[sb h2]),(15,[so h1 (sb h2)])],si hw]) [0,4,6,7,8,11,12,13,45,46,47] 5 kr (gZ R hg))⟩
theorem zpf {s:Sch} {key:Int} {rv:List V} {rows:List Rw} (hk:key=keyC s) (h:zbW key rv (rows.take rows.length)):∀ r∈rows,keyC s < 0∨zbq r.vals (keyC s)≠zbq rv (keyC s):=by
 subst hk;rw [List.take_length] at h;exact h
theorem znX {s:Sch} {next n:Int} {rows:List Rw} {k a b:Nat} (hI:((rows.length+(k+1):Nat):Int)≤n∧RowsV s next rows∧next+2 * ((k+1:Nat):Int)≤3000) (ha:(a:Int) < 2) (hb:(b:Int) < 2):((rows.length+k:Nat):Int)≤n∧RowsV s (IntKind.i64.wrap (next+IntKind.i64.wrap (1+IntKind.i64.wrap ((a:Int) * (b:Int))))) rows∧IntKind.i64.wrap (next+IntKind.i64.wrap (1+IntKind.i64.wrap ((a:Int) * (b:Int))))+2 * ((k:Nat):Int)≤3000:=by
 have h:=zn9 (n:=next) ha hb ⟨hI.2.1.pos,by omega⟩
 exact ⟨by omega,hI.2.1.more (by omega),by omega⟩
theorem zn6 {s:Sch} {key next n:Int} {rows:List Rw} {v:List V} {k a b:Nat} (hI:((rows.length+(k+1):Nat):Int)≤n∧RowsV s next rows∧next+2 * ((k+1:Nat):Int)≤3000) (hkc:key=keyC s) (hv:zdn s.cols v) (hf:zbW key v (rows.take rows.length)) (ha:(a:Int) < 2) (hb:(b:Int) < 2):(((rows++[Rw.mk next v]).length+k:Nat):Int)≤n∧RowsV s (IntKind.i64.wrap (next+IntKind.i64.wrap (1+IntKind.i64.wrap ((a:Int) * (b:Int))))) (rows++[⟨next,v⟩])∧IntKind.i64.wrap (next+IntKind.i64.wrap (1+IntKind.i64.wrap ((a:Int) * (b:Int))))+2 * ((k:Nat):Int)≤3000:=by
 have h:=zn9 (n:=next) ha hb ⟨hI.2.1.pos,by omega⟩
 exact ⟨by simp;omega,hI.2.1.push hv (zpf hkc hf) (by omega),by omega⟩
theorem zdT (t0:Tp) (s:Sch) (key:Int) (n:Int) (hn9:n≤900) (hk:zdb s.cols.length key) (hkc:key=keyC s) (hs:SchOk s) (k:Nat) (u:Tp) (next:Int) (rows:List Rw) (hi:k≤1000000000) (hI:((rows.length+k:Nat):Int)≤n∧RowsV s next rows∧next+2 * (k:Int)≤3000):∃ (u':Tp) (next':Int) (rows':List Rw),(((rows'.length+0:Nat):Int)≤n∧RowsV s next' rows'∧next'+2 * (0:Int)≤3000)∧(decide ((0:Int) < ((0:Nat):Int))=false)∧∀ R,Good E0 B.world_Tape_TableOf [.box t0.cells] (L_tvR t0 s key 0 u' next' rows') R→Good E0 B.world_Tape_TableOf [.box t0.cells] (L_tvR t0 s key k u next rows) R:=by
 induction k generalizing u next rows with
 | zero=>exact ⟨u,next,rows,hI,by decide,fun R hg=>hg⟩
 | succ k ih =>
  have h0:decide ((0:Int) < (((k+1):Nat):Int))=true:=by first|(simp;done)|(simp;omega)
  have hw:IntKind.i64.wrap (((k+1:Nat):Int) - 1)=((k:Nat):Int):=zh4 k (by omega)
  have hR:=hI.2.1.fit;have hsh:=hs.short;have hco:=hs.cols;have hfw:Few rows:=by simp only [Few];omega
  obtain ⟨r1,t1,q1,c1⟩:=(zi7 u s (by first|assumption|trivial|omega|exact (fun _ r hr=>absurd hr (by simp))|(simp;done)) (by first|assumption|trivial|omega|exact (fun _ r hr=>absurd hr (by simp))|(simp;done)))
  obtain ⟨zhX,q2,q2_1,g2⟩:=zdW t0 s key k t1 next rows r1 (by first|assumption|trivial|omega|exact (fun _ r hr=>absurd hr (by simp))|(simp;done)) (by first|assumption|trivial|omega|exact (fun _ r hr=>absurd hr (by simp))|(simp;done)) (by first|assumption|trivial|omega|exact (fun _ r hr=>absurd hr (by simp))|(simp;done)) (by first|assumption|trivial|omega|exact (fun _ r hr=>absurd hr (by simp))|(simp;done)) 0 true (by first|assumption|trivial|omega|exact (fun _ r hr=>absurd hr (by simp))|(simp;done)) (by first|assumption|trivial|omega|exact (fun _ r hr=>absurd hr (by simp))|(simp;done))
  let p_1:List St:=[sb h0,sl [0] c1,sqx (rows.length=(List.map Rw.cells rows).length)]
  rcases (Bool.eq_false_or_eq_true zhX).symm with h3|h3
  ·obtain ⟨a4,t4,q4,c4⟩:=(zaj t1 2 (by first|assumption|trivial|omega|exact (fun _ r hr=>absurd hr (by simp))|(simp;done)))
   obtain ⟨a5,t5,q5,c5⟩:=(zaj t4 2 (by first|assumption|trivial|omega|exact (fun _ r hr=>absurd hr (by simp))|(simp;done)))
   obtain ⟨uZ,nextZ,rowsZ,qZ,xZ,gZ⟩:=ih t5 (IntKind.i64.wrap (next+IntKind.i64.wrap (1+IntKind.i64.wrap ((a4:Int) * (a5:Int))))) rows (by omega) (by first|exact znX hI (by assumption) (by assumption)|exact zn6 hI hkc (by assumption) (‹_=true→zbW _ _ _› (by assumption)) (by assumption) (by assumption));exact ⟨uZ,nextZ,rowsZ,qZ,xZ,fun R hg=>zaa (wklN p_1 [0,4,6,7,8,11,12,13,45,46,47] 5 [(.bl 13,5)] kr (g2 _ (zaa (wkl [sb q2_1,sb h3,sd [(3,[sl [0] c4]),(5,[sl [0] c5]),(6,[si (e:=IntKind.i64.wrap ((a4:Int) * (a5:Int))) rfl]),(7,[si (e:=IntKind.i64.wrap (1+IntKind.i64.wrap ((a4:Int) * (a5:Int)))) rfl]),(8,[si (e:=IntKind.i64.wrap (next+IntKind.i64.wrap (1+IntKind.i64.wrap ((a4:Int) * (a5:Int))))) rfl])],si hw] [0,4,6,7,8,11] 5 kr (gZ R hg)))))⟩
  ·obtain ⟨a6,t6,q6,c6⟩:=(zaj t1 2 (by first|assumption|trivial|omega|exact (fun _ r hr=>absurd hr (by simp))|(simp;done)))
   obtain ⟨a7,t7,q7,c7⟩:=(zaj t6 2 (by first|assumption|trivial|omega|exact (fun _ r hr=>absurd hr (by simp))|(simp;done)))
   obtain ⟨uZ,nextZ,rowsZ,qZ,xZ,gZ⟩:=ih t7 (IntKind.i64.wrap (next+IntKind.i64.wrap (1+IntKind.i64.wrap ((a6:Int) * (a7:Int))))) (rows++[Rw.mk next r1]) (by omega) (by first|exact znX hI (by assumption) (by assumption)|exact zn6 hI hkc (by assumption) (‹_=true→zbW _ _ _› (by assumption)) (by assumption) (by assumption));exact ⟨uZ,nextZ,rowsZ,qZ,xZ,fun R hg=>zaa (wklN p_1 [0,4,6,7,8,11,12,13,45,46,47] 5 [(.bl 13,5)] kr (g2 _ (zaa (wkl [sb q2_1,sb h3,sqx (AllLen [[iv next,AV.sl (List.map V.cells r1)]] 2∧rows.length=(List.map Rw.cells rows).length∧(((List.map Rw.cells rows).length+[[iv next,AV.sl (List.map V.cells r1)]].length) * 32).le 140737488355328),sd [(3,[sl [0] c6]),(5,[sl [0] c7]),(6,[si (e:=IntKind.i64.wrap ((a6:Int) * (a7:Int))) rfl]),(7,[si (e:=IntKind.i64.wrap (1+IntKind.i64.wrap ((a6:Int) * (a7:Int)))) rfl]),(8,[si (e:=IntKind.i64.wrap (next+IntKind.i64.wrap (1+IntKind.i64.wrap ((a6:Int) * (a7:Int))))) rfl])],si hw] [0,4,6,7,8,11] 5 kr (zav rfl (show ([Blk.box [AV.sl (List.map (fun n=>[iv n]) t7.l),iv (t7.pos:Int)],Blk.box [sv s.name,AV.sl (List.map Col.cells s.cols)],Blk.box [sv (ByteArray.mk #[]),AV.nl,iv 0,AV.nl],Blk.box [sv s.name,AV.sl (List.map Col.cells s.cols),iv (IntKind.i64.wrap (next+IntKind.i64.wrap (1+IntKind.i64.wrap ((a6:Int) * (a7:Int))))),AV.own 4 (List.map Rw.cells rows++[[iv next,AV.sl (List.map V.cells r1)]]).length],Blk.row Ty.Row (List.map Rw.cells rows++[[iv next,AV.sl (List.map V.cells r1)]]) false]:Heap)=_ by first|rfl|(simp;done)|(simp [X.cells,Qy.cells,V.cells,Col.cells,Rw.cells,Tb.cells,Fr.cells,Sch.cells,Tp.cells,Pl.cells,xCol,xLit,xBin,xNeg,Ac.cells,Se.cells,Pr.cells,Ch.cells,Rw.cells];done)) (gZ R hg))))))⟩
theorem za4 {a:Nat} (ha:(a:Int) < 3):IntKind.i64.wrap (1+(a:Int))=1+(a:Int):=by rw [IntKind.wrap_i64];omega
theorem zfP (t:Tp) (s:Sch) (n:Int) (hs:SchOk s) (hf:Few s.cols) (hn:0≤n∧n≤900) (hw:IntKind.i64.wrap (n+1)=n+1):∃ (rows:List Rw) (next:Int) (t':Tp),((rows.length:Int)≤n∧RowsV s next rows∧next≤3000)∧zac E0 S.world_Tape_TableOf [.p 0 0,s.av,iv n] [.box t.cells] (Tb.av ⟨s,next,rows⟩) [.box t'.cells]:=by
 obtain ⟨a1,t1,q1,c1⟩:=(zaj t 3 (by first|exact (show Int from n)|assumption|(simp only [zdb];omega)|(simp only [Pos];omega)|omega|exact ⟨by omega,rfl⟩|exact zb9 (And.right ‹_∧keyC _=_›)|exact ⟨by simp;omega,RowsV.nil (by rw [za4 (by assumption)];omega),by rw [za4 (by assumption)];omega⟩))
 obtain ⟨key2,q2,q2_1,g2⟩:=zdO t s n t1 (IntKind.i64.wrap (1+(a1:Int))) (by first|exact (show Int from n)|assumption|(simp only [zdb];omega)|(simp only [Pos];omega)|omega|exact ⟨by omega,rfl⟩|exact zb9 (And.right ‹_∧keyC _=_›)|exact ⟨by simp;omega,RowsV.nil (by rw [za4 (by assumption)];omega),by rw [za4 (by assumption)];omega⟩) 0 (-1) (by first|exact (show Int from n)|assumption|(simp only [zdb];omega)|(simp only [Pos];omega)|omega|exact ⟨by omega,rfl⟩|exact zb9 (And.right ‹_∧keyC _=_›)|exact ⟨by simp;omega,RowsV.nil (by rw [za4 (by assumption)];omega),by rw [za4 (by assumption)];omega⟩) (by first|exact (show Int from n)|assumption|(simp only [zdb];omega)|(simp only [Pos];omega)|omega|exact ⟨by omega,rfl⟩|exact zb9 (And.right ‹_∧keyC _=_›)|exact ⟨by simp;omega,RowsV.nil (by rw [za4 (by assumption)];omega),by rw [za4 (by assumption)];omega⟩)
 obtain ⟨a3,t3,q3,c3⟩:=(zaj t1 (n+1) (by first|exact (show Int from n)|assumption|(simp only [zdb];omega)|(simp only [Pos];omega)|omega|exact ⟨by omega,rfl⟩|exact zb9 (And.right ‹_∧keyC _=_›)|exact ⟨by simp;omega,RowsV.nil (by rw [za4 (by assumption)];omega),by rw [za4 (by assumption)];omega⟩))
 obtain ⟨u4,next4,rows4,q4,q4_1,g4⟩:=zdT t s key2 n (by first|exact (show Int from n)|assumption|(simp only [zdb];omega)|(simp only [Pos];omega)|omega|exact ⟨by omega,rfl⟩|exact zb9 (And.right ‹_∧keyC _=_›)|exact ⟨by simp;omega,RowsV.nil (by rw [za4 (by assumption)];omega),by rw [za4 (by assumption)];omega⟩) (by first|exact (show Int from n)|assumption|(simp only [zdb];omega)|(simp only [Pos];omega)|omega|exact ⟨by omega,rfl⟩|exact zb9 (And.right ‹_∧keyC _=_›)|exact ⟨by simp;omega,RowsV.nil (by rw [za4 (by assumption)];omega),by rw [za4 (by assumption)];omega⟩) (by first|exact (show Int from n)|assumption|(simp only [zdb];omega)|(simp only [Pos];omega)|omega|exact ⟨by omega,rfl⟩|exact zb9 (And.right ‹_∧keyC _=_›)|exact ⟨by simp;omega,RowsV.nil (by rw [za4 (by assumption)];omega),by rw [za4 (by assumption)];omega⟩) (by first|exact (show Int from n)|assumption|(simp only [zdb];omega)|(simp only [Pos];omega)|omega|exact ⟨by omega,rfl⟩|exact zb9 (And.right ‹_∧keyC _=_›)|exact ⟨by simp;omega,RowsV.nil (by rw [za4 (by assumption)];omega),by rw [za4 (by assumption)];omega⟩) a3 t3 (IntKind.i64.wrap (1+(a1:Int))) ([]) (by first|exact (show Int from n)|assumption|(simp only [zdb];omega)|(simp only [Pos];omega)|omega|exact ⟨by omega,rfl⟩|exact zb9 (And.right ‹_∧keyC _=_›)|exact ⟨by simp;omega,RowsV.nil (by rw [za4 (by assumption)];omega),by rw [za4 (by assumption)];omega⟩) (by first|exact (show Int from n)|assumption|(simp only [zdb];omega)|(simp only [Pos];omega)|omega|exact ⟨by omega,rfl⟩|exact zb9 (And.right ‹_∧keyC _=_›)|exact ⟨by simp;omega,RowsV.nil (by rw [za4 (by assumption)];omega),by rw [za4 (by assumption)];omega⟩)
 exact ⟨rows4,next4,u4,(by exact ⟨by omega,(‹_∧RowsV _ _ _∧_›).2.1,by omega⟩),wkc At.world_Tape_TableOf [sdm [(2,[sl [0] c1]),(3,[si (e:=IntKind.i64.wrap (1+(a1:Int))) rfl])] 0 [(0,AV.p 0 0),(1,AV.agg [sv s.name,AV.sl (List.map Col.cells s.cols)]),(2,iv n),(4,AV.p 1 0),(6,AV.p 2 0),(7,AV.p 3 0),(16,AV.agg [sv s.name,AV.sl (List.map Col.cells s.cols)]),(17,AV.p 0 0),(18,iv (a1:Int)),(19,iv (IntKind.i64.wrap (1+(a1:Int)))),(20,AV.agg [sv s.name,AV.sl (List.map Col.cells s.cols),iv (IntKind.i64.wrap (1+(a1:Int))),AV.nl])] [Blk.box [AV.sl (List.map (fun n=>[iv n]) t1.l),iv (t1.pos:Int)],Blk.box [sv s.name,AV.sl (List.map Col.cells s.cols)],Blk.box [sv (ByteArray.mk #[]),AV.nl,iv 0,AV.nl],Blk.box [sv s.name,AV.sl (List.map Col.cells s.cols),iv (IntKind.i64.wrap (1+(a1:Int))),AV.nl]]] [0,2,4,6,7,8,22,23,24] 4 kr (g2 _ (zaa (wklN [sb q2_1,si hw,sl [0] c3] [0,4,6,7,8,11] 4 [(.ob 3 3 Ty.Row,5)] kr (g4 _ (zaa (wkr [sqx (True∧True∧True∧rows4.length=(List.map Rw.cells rows4).length∧True),sb (rfl:false=false)] kr))))))⟩
structure StoreV (n:Int) (l:List Tb):Prop where
 schs:l.map Tb.sch=zal
 rows:∀ t∈l,RowsV t.sch t.next t.rows
 next:∀ t∈l,t.next≤3000
 len:∀ t∈l,(t.rows.length:Int)≤n
structure StoreP (n:Int) (i:Nat) (l:List Tb):Prop where
 schs:l.map Tb.sch=zal.take i
 tabs:∀ t∈l,RowsV t.sch t.next t.rows∧t.next≤3000∧(t.rows.length:Int)≤n
theorem StoreP.push {n:Int} {i:Nat} {l:List Tb} {x:Sch} {nx:Int} {rs:List Rw} (h:StoreP n i l) (hx:zal[i]?=some x) (ht:(rs.length:Int)≤n∧RowsV x nx rs∧nx≤3000):StoreP n (i+1) (l++[⟨x,nx,rs⟩]) :=
 ⟨by rw [List.map_append,h.schs,List.take_add_one,hx];rfl,fun t hm=>(List.mem_append.1 hm).elim (h.tabs t) fun h=>by simp only [List.mem_singleton] at h;subst h;exact ⟨ht.2.1,ht.2.2,ht.1⟩⟩
theorem StoreP.all {n:Int} {l:List Tb} (h:StoreP n zal.length l):StoreV n l :=
 ⟨by rw [h.schs,List.take_length],fun t ht=>(h.tabs t ht).1,fun t ht=>(h.tabs t ht).2.1,fun t ht=>(h.tabs t ht).2.2⟩
theorem StoreV.ok {n:Int} {l:List Tb} (h:StoreV n l) (hn:n≤1000:=by decide):StoreOk l :=
 ⟨by have:=congrArg List.length h.schs;simp [zal] at this;omega,fun t ht=>⟨⟨(h.rows t ht).fit,by have:=h.len t ht;omega⟩,zhj (by rw [← h.schs];exact List.mem_map_of_mem ht)⟩⟩
noncomputable def L_stV (t0:Tp) (n:Int) (i:Nat) (u:Tp) (out:List Tb):Cfg:=zaw B.world_Tape_Store 0 [(0,.p 0 0),(1,iv n),(5,.own 1 out.length),(8,.sl (zal.map Sch.cells)),(9,iv ((zal.map Sch.cells).length:Nat)),(10,iv (i:Nat))] [.box u.cells,.row Ty.Table (out.map Tb.cells) false]
theorem zd7 (t0:Tp) (n:Int) (hs:zad zal) (hn:0≤n∧n≤900) (i:Nat) (u:Tp) (out:List Tb) (hi:i≤(zal).length) (hI:StoreP n i out):∃ (u':Tp) (out':List Tb),(StoreP n (zal).length out')∧(decide ((((zal).length:Nat):Int) < (((zal.map Sch.cells).length:Nat):Int))=false)∧∀ R,Good E0 B.world_Tape_Store [.box t0.cells] (L_stV t0 n (zal).length u' out') R→Good E0 B.world_Tape_Store [.box t0.cells] (L_stV t0 n i u out) R:=by
 obtain ⟨kk,hk⟩:∃ kk,i+kk=(zal).length:=⟨(zal).length - i,by omega⟩
 induction kk generalizing i u out with
 | zero =>
  have e0:i=(zal).length:=by omega
  subst e0
  exact ⟨u,out,hI,by simp,fun R hg=>hg⟩
 | succ kk ih =>
  obtain ⟨x,hx⟩:=zaC (l:=zal) (i:=i) (by omega)
  have h0:decide (((i:Nat):Int) < (((zal.map Sch.cells).length:Nat):Int))=true:=by simp;omega
  have hw:IntKind.i64.wrap (((i:Nat):Int)+1)=((i+1:Nat):Int):=zao i (by first|omega|(simp only [zad,Few] at *;omega))
  have hsx:=zhj (List.mem_of_getElem? hx);have hfx:=hsx.few;have hl0:out.length=(zal.take i).length:=by rw [← hI.schs];simp
  have hlen:out.length≤10:=by rw [hl0];simp only [List.length_take,zal,List.length_cons,List.length_nil];omega
  have hw1:IntKind.i64.wrap (n+1)=n+1:=by rw [IntKind.wrap_i64];omega
  obtain ⟨rows1,next1,t1,q1,c1⟩:=(zfP u x n (by first|assumption|omega|(simp;done)|(simp;omega)) (by first|assumption|omega|(simp;done)|(simp;omega)) (by first|assumption|omega|(simp;done)|(simp;omega)) (by first|assumption|omega|(simp;done)|(simp;omega)))
  obtain ⟨uZ,outZ,qZ,xZ,gZ⟩:=ih (i+1) t1 (out++[Tb.mk x next1 rows1]) (by omega) (by exact hI.push hx (by assumption)) (by omega);exact ⟨uZ,outZ,qZ,xZ,fun R hg=>zaa (wkl [sb h0,se (zah Sch.cells hx rfl),sl [0] c1,sqx (AllLen [[sv x.name,AV.sl (List.map Col.cells x.cols),iv next1,AV.sl (List.map Rw.cells rows1)]] 4∧out.length=(List.map Tb.cells out).length∧(((List.map Tb.cells out).length+[[sv x.name,AV.sl (List.map Col.cells x.cols),iv next1,AV.sl (List.map Rw.cells rows1)]].length) * 72).le 140737488355328),si hw] [0,1,5,8,9,10] 2 kr (zav (show ([(0,AV.p 0 0),(1,iv n),(5,AV.own 1 (List.map Tb.cells out++[[sv x.name,AV.sl (List.map Col.cells x.cols),iv next1,AV.sl (List.map Rw.cells rows1)]]).length),(8,AV.sl (List.map Sch.cells zal)),(9,iv (↑(List.map Sch.cells zal).length:Int)),(10,iv (↑(i+1):Int))]:TS)=_ by first|rfl|(simp;done)|(simp [X.cells,Qy.cells,V.cells,Col.cells,Rw.cells,Tb.cells,Fr.cells,Sch.cells,Tp.cells,Pl.cells,xCol,xLit,xBin,xNeg,Ac.cells,Se.cells,Pr.cells,Ch.cells,Rw.cells];done)) (show ([Blk.box [AV.sl (List.map (fun n=>[iv n]) t1.l),iv (t1.pos:Int)],Blk.row Ty.Table (List.map Tb.cells out++[[sv x.name,AV.sl (List.map Col.cells x.cols),iv next1,AV.sl (List.map Rw.cells rows1)]]) false]:Heap)=_ by first|rfl|(simp;done)|(simp [X.cells,Qy.cells,V.cells,Col.cells,Rw.cells,Tb.cells,Fr.cells,Sch.cells,Tp.cells,Pl.cells,xCol,xLit,xBin,xNeg,Ac.cells,Se.cells,Pr.cells,Ch.cells,Rw.cells];done)) (gZ R hg)))⟩
theorem zgJ (t:Tp) (n:Int) (hs:zad zal) (hn:0≤n∧n≤900):∃ (r:List Tb) (t':Tp),StoreV n r∧zac E0 S.world_Tape_Store [.p 0 0,iv n] [.box t.cells] (tsl r) [.box t'.cells]:=by
 obtain ⟨u1,out1,q1,q1_1,g1⟩:=zd7 t n (by first|assumption|(simp;done)|exact ⟨rfl,fun _ h=>absurd h (by simp)⟩) (by first|assumption|(simp;done)|exact ⟨rfl,fun _ h=>absurd h (by simp)⟩) 0 t ([]) (by first|assumption|(simp;done)|exact ⟨rfl,fun _ h=>absurd h (by simp)⟩) (by first|assumption|(simp;done)|exact ⟨rfl,fun _ h=>absurd h (by simp)⟩)
 exact ⟨out1,u1,(by exact StoreP.all (by assumption)),wkcN At.world_Tape_Store [sc zdV] [0,1,5,8,9,10] 1 [(.ot 5 Ty.Table,2)] kr (g1 _ (zaa (wkr [sqx (out1.length=(List.map Tb.cells out1).length),sb (rfl:false=false)] kr)))⟩
end Go.AM
namespace Go.AM
set_option maxRecDepth 100000
set_option maxHeartbeats 1000000
set_option linter.unusedSimpArgs false
set_option linter.unusedVariables false
def XFl:Nat→X→Prop
 | 0,_=>False
 | n+1,e=>e.val.Good∧Thin 3 e.args∧e.sub=[]∧∀ x∈e.args,XFl n x
theorem XFl.ok:∀ {n:Nat} {e:X},XFl n e→XOk n e
 | 0,_,h=>h.elim
 | n+1,e,⟨h1,h2,h3,h4⟩=>⟨h1,⟨h2,by rw [h3];simp⟩,fun x hx=>(h4 x hx).ok,fun q hq=>by rw [h3] at hq;cases hq⟩
theorem XFl.mono:∀ {n:Nat} {e:X},XFl n e→XFl (n+1) e
 | 0,_,h=>h.elim
 | n+1,e,⟨h1,h2,h3,h4⟩=>⟨h1,h2,h3,fun x hx=>(h4 x hx).mono⟩
end Go.AM
namespace Go.AM
set_option maxRecDepth 100000
set_option maxHeartbeats 1000000
set_option linter.unusedSimpArgs false
set_option linter.unusedVariables false
theorem zrp (n:Nat) (hn:n≤255) (hA:decide ((4294967296:Int)≤((n:Nat):Int))=false) (hB:decide ((65536:Int)≤((n:Nat):Int))=false) (hC:decide ((256:Int)≤((n:Nat):Int))=false):∃ (r:Int),zac E0 S.math_bits_Len64 [.v (.int .u64 (n:Nat))] [] (iv r) []:=by
 obtain ⟨c1,b1⟩:=zpw (s:=ByteArray.mk (([0,1,2,2,3,3,3,3,4,4,4,4,4,4,4,4,5,5,5,5,5,5,5,5,5,5,5,5,5,5,5,5,6,6,6,6,6,6,6,6,6,6,6,6,6,6,6,6,6,6,6,6,6,6,6,6,6,6,6,6,6,6,6,6].append [7,7,7,7,7,7,7,7,7,7,7,7,7,7,7,7,7,7,7,7,7,7,7,7,7,7,7,7,7,7,7,7,7,7,7,7,7,7,7,7,7,7,7,7,7,7,7,7,7,7,7,7,7,7,7,7,7,7,7,7,7,7,7,7]).append ([8,8,8,8,8,8,8,8,8,8,8,8,8,8,8,8,8,8,8,8,8,8,8,8,8,8,8,8,8,8,8,8,8,8,8,8,8,8,8,8,8,8,8,8,8,8,8,8,8,8,8,8,8,8,8,8,8,8,8,8,8,8,8,8].append [8,8,8,8,8,8,8,8,8,8,8,8,8,8,8,8,8,8,8,8,8,8,8,8,8,8,8,8,8,8,8,8,8,8,8,8,8,8,8,8,8,8,8,8,8,8,8,8,8,8,8,8,8,8,8,8,8,8,8,8,8,8,8,8])).toArray) (i:=(n:Int)) (by exact ⟨by omega,(show (((n:Nat):Int) < 256)=(((n:Nat):Int) < _) by kernel_rfl) ▸ (show ((n:Nat):Int) < 256 by omega)⟩)
 exact ⟨IntKind.i64.wrap (0+IntKind.i64.wrap (c1.toNat:Int)),wk At.math_bits_Len64 [sb hA,sb hB,sb hC,si (wrapN8 (t:=(n:Int)) (n:=n) (by omega) (by omega)),sy b1,si (e:=IntKind.i64.wrap (c1.toNat:Int)) rfl,si (e:=IntKind.i64.wrap (0+IntKind.i64.wrap (c1.toNat:Int))) rfl] kr⟩
theorem ziS (n:Nat) (hn:n≤255):∃ r:Int,zac E0 S.math_bits_Len64 [.v (.int .u64 (n:Nat))] [] (iv r) []:=zrp n hn (by simp;omega) (by simp;omega) (by simp;omega)
theorem zj3 (n:Nat) (hn:n≤255):∃ (r:Int),zac E0 S.math_bits_Len [.v (.int .u64 (n:Nat))] [] (iv r) []:=by
 obtain ⟨r1,c1⟩:=(ziS n (by first|assumption|omega|(simp;done)|(simp;omega)))
 exact ⟨r1,wk At.math_bits_Len [sc c1] kr⟩
def zeq (x y:Int):Bool :=
 bif x != x then
  bif !y != y then
   true
  else
   decide (x < y)
 else
  decide (x < y)
theorem zkp (x y:Int) :zac E0 S.cmp_Less_int [iv x,iv y] [] (bv (zeq x y)) []:=by
 unfold zeq
 cases h1:x != x
 ·exact wk At.cmp_Less_int [sc (zbp x),sb h1] kr
 ·let p_1:List St:=[sc (zbp x),sg h1,sc (zbp y)]
  cases h2:!y != y
  ·exact wk At.cmp_Less_int (p_1++[sg h2]) kr
  ·exact wk At.cmp_Less_int (p_1++[sb h2]) kr
theorem zmq (x y:Int):zeq x y=decide (x < y):=by simp [zeq]
def insI:Nat→List Int→List Int
 | 0,l=>l
 | k+1,l=>bif decide (l.getD (k+1) 0 < l.getD k 0) then insI k ((l.set (k+1) (l.getD k 0)).set k (l.getD (k+1) 0)) else l
theorem zjk:∀ (k:Nat) (l:List Int),(insI k l).length=l.length
 | 0,_=>rfl
 | k+1,l=>by
  unfold insI
  cases decide (l.getD (k+1) 0 < l.getD k 0)
  ·rfl
  ·rw [cond_true,zjk];simp
def srtI:Nat→Nat→List Int→List Int
 | 0,_,l=>l
 | m+1,i,l=>srtI m (i+1) (insI i l)
noncomputable def zfz (n:Nat) (i:Nat) (l:List Int):Cfg:=zaw B.slices_insertionSortOrdered_int 0 [(0,.own 0 n),(1,iv 0),(2,iv (n:Nat)),(6,iv (i:Nat))] [.row Ty.int (l.map zan) false]
noncomputable def zpz (n:Nat) (i:Nat) (l:List Int) (k:Nat):Cfg:=zaw B.slices_insertionSortOrdered_int 1 [(0,.own 0 n),(1,iv 0),(2,iv (n:Nat)),(6,iv (i:Nat)),(7,iv (k:Nat))] [.row Ty.int (l.map zan) false]
abbrev SrtH (l:List Int):Heap:=[.row Ty.int (l.map zan) false]
theorem zqd (l0:List Int) (n i:Nat) (hw1:IntKind.i64.wrap (((i:Nat):Int)+1)=((i+1:Nat):Int)):∀ (k:Nat) (l:List Int),l.length=n→k < n→n≤12→∀ R,Good E0 B.slices_insertionSortOrdered_int (SrtH l0) (zfz n (i+1) (insI k l)) R→Good E0 B.slices_insertionSortOrdered_int (SrtH l0) (zpz n i l k) R:=by
 intro k
 induction k with
 | zero =>
  intro l hn hk hs R hg
  have h0:decide ((0:Int) < ((0:Nat):Int))=false:=by decide
  have hg:Good E0 B.slices_insertionSortOrdered_int (SrtH l0) (zfz n (i+1) l) R:=hg
  refine zaa ?_
  exact wkl [sd [(4,[sb (rfl:false=false)]),(5,[sb (rfl:false=false)]),(6,[sb (rfl:false=false)]),(7,[sb (rfl:false=false)]),(8,[sb (rfl:false=false)]),(9,[sb (rfl:false=false)]),(10,[sb (rfl:false=false)]),(11,[sb (rfl:false=false)]),(12,[sb (rfl:false=false)]),(13,[sb (rfl:false=false)]),(14,[sb (rfl:false=false)])],si hw1] [0,1,2,6] 1 kr (hg)
 | succ k ih =>
  intro l hn hk hs R hg
  have h0:decide ((0:Int) < ((k+1:Nat):Int))=true:=by first|(simp;done)|(simp;omega)
  have hw:=zh4 k (by omega)
  obtain ⟨x,hx⟩:=zaC (l:=l) (i:=k) (by omega)
  obtain ⟨y,hy⟩:=zaC (l:=l) (i:=k+1) (by omega)
  have ex:l.getD k 0=x:=by rw [List.getD_eq_getElem?_getD,hx];rfl
  have ey:l.getD (k+1) 0=y:=by rw [List.getD_eq_getElem?_getD,hy];rfl
  have hE:OwnEl ((l.map zan).set (k+1) [iv x]) n k [iv x]:=⟨by simp;omega,by rw [List.getElem?_set_ne (by omega),List.getElem?_map,hx];rfl⟩
  have hEx:OwnEl (l.map zan) n k [iv x]:=zf9 zan (by omega) hx
  have hEy:OwnEl (l.map zan) n (k+1) [iv y]:=zf9 zan (by omega) hy
  have hgt:(bif decide ((0:Int) < ((k+1:Nat):Int)) then zeq y x else false)=true→Good E0 B.slices_insertionSortOrdered_int (SrtH l0) (zpz n i ((l.set (k+1) x).set k y) k) R:=fun h=>ih _ (by simpa using hn) (by omega) hs R (by
   have h:decide (y < x)=true:=by rw [h0,cond_true,zmq] at h;exact h
   unfold insI at hg;rw [ex,ey,h] at hg;exact hg)
  have hge:(bif decide ((0:Int) < ((k+1:Nat):Int)) then zeq y x else false)=false→Good E0 B.slices_insertionSortOrdered_int (SrtH l0) (zfz n (i+1) l) R:=fun h=>(by
   have h:decide (y < x)=false:=by rw [h0,cond_true,zmq] at h;exact h
   unfold insI at hg;rw [ex,ey,h] at hg;exact hg)
  refine zaa ?_
  let p_1:List St:=[sdp [(4,[sg h0]),(5,[sg h0]),(8,[sg h0]),(9,[sg h0]),(10,[so h0 (si hw)]),(6,[so h0 (sqx (OwnAt (List.map zan l) n (↑(k+1):Int)))]),(7,[so h0 (sx (.el ([iv y])) hEy)]),(11,[so h0 (sqx (OwnAt (List.map zan l) n (k:Int)))]),(12,[so h0 (sx (.el ([iv x])) hEx)]),(13,[so h0 (sc (zkp y x))])] [[4,5,8,9,10,6,11,7,12,13],[4,5,8,9,10,6,11,12,7,13],[4,5,8,9,10,11,6,7,12,13],[4,5,8,9,10,11,6,12,7,13],[4,5,8,9,10,11,12,6,7,13]] [(0,AV.own 0 n),(1,iv 0),(2,iv (n:Int)),(6,iv (i:Int)),(7,iv (↑(k+1):Int)),(16,iv (↑(k+1):Int)),(17,iv 0),(18,bv (decide (0 < (↑(k+1):Int)))),(19,bv (decide (0 < (↑(k+1):Int)))),(20,AV.own 0 n),(21,iv (↑(k+1):Int)),(22,AV.ep 0 n (↑(k+1):Int).toNat 0),(23,iv y),(24,AV.own 0 n),(25,iv (↑(k+1):Int)),(26,iv (k:Int)),(27,AV.ep 0 n (k:Int).toNat 0),(28,iv x),(29,bv (zeq y x)),(30,bv (bif decide (0 < (↑(k+1):Int)) then zeq y x else false))] [Blk.row Ty.int (List.map zan l) false]]
  cases h1:bif decide (0 < (↑(k+1):Int)) then zeq y x else false
  ·exact wkl (p_1++[sb h1,si hw1]) [0,1,2,6] 1 kr (hge h1)
  ·exact wkl (p_1++[sb h1,sdp [(4,[si hw]),(7,[si hw]),(8,[sqx (OwnAt (List.map zan l) n (k:Int))]),(9,[sx (.el ([iv x])) hEx]),(12,[sqx (OwnAt (List.map zan l) n (↑(k+1):Int))]),(13,[sx (.el ([iv y])) hEy]),(14,[sqx (OwnAt (List.map zan l) n (↑(k+1):Int))]),(15,[sx (.el ([iv y])) (And.intro (owed (p:=True∧True)) hEy)]),(16,[sqx (OwnAt ((List.map zan l).set (k+1) [iv x]) n (k:Int))]),(17,[sx (.el ([iv x])) (And.intro (owed (p:=True∧True)) hE)])] [[4,7,8,12,9,13,14,15,16,17],[4,7,8,12,13,9,14,15,16,17],[4,7,12,8,9,13,14,15,16,17],[4,7,12,8,13,9,14,15,16,17],[4,7,12,13,8,9,14,15,16,17]] [(0,AV.own 0 n),(1,iv 0),(2,iv (n:Int)),(6,iv (i:Int)),(7,iv (↑(k+1):Int)),(16,iv (↑(k+1):Int)),(17,iv 0),(18,bv (decide (0 < (↑(k+1):Int)))),(19,bv (decide (0 < (↑(k+1):Int)))),(20,AV.own 0 n),(21,iv (↑(k+1):Int)),(22,AV.ep 0 n (↑(k+1):Int).toNat 0),(23,iv y),(24,AV.own 0 n),(25,iv (↑(k+1):Int)),(26,iv (k:Int)),(27,AV.ep 0 n (k:Int).toNat 0),(28,iv x),(29,bv (zeq y x)),(30,AV.bl true),(33,AV.own 0 n),(34,iv (↑(k+1):Int)),(35,AV.own 0 n),(36,iv (↑(k+1):Int)),(37,iv (k:Int)),(38,AV.own 0 n),(39,iv (↑(k+1):Int)),(40,iv (k:Int)),(41,AV.ep 0 n (k:Int).toNat 0),(42,iv x),(43,AV.own 0 n),(44,iv (↑(k+1):Int)),(45,AV.ep 0 n (↑(k+1):Int).toNat 0),(46,iv y),(47,AV.ep 0 n (↑(k+1):Int).toNat 0),(48,AV.ep 0 n (k:Int).toNat 0)] [Blk.row Ty.int (((List.map zan l).set (k+1) [iv x]).set k [iv y]) false],si hw]) [0,1,2,6,7] 1 kr (zav rfl (show ([Blk.row Ty.int (((List.map zan l).set (k+1) [iv x]).set k [iv y]) false]:Heap)=_ by first|rfl|(simp;done)|(simp [X.cells,Qy.cells,V.cells,Col.cells,Rw.cells,Tb.cells,Fr.cells,Sch.cells,Tp.cells,Pl.cells];done)) (hgt h1))
theorem zp3 (l0:List Int) (n:Nat):∀ (m i:Nat) (l:List Int),i+m=n→l.length=n→n≤12→Good E0 B.slices_insertionSortOrdered_int (SrtH l0) (zfz n i l) (Shut 1 fun r h=>r=.tup []∧h=SrtH (srtI m i l)):=by
 intro m
 induction m with
 | zero =>
  intro i l hi hn hs
  have h0:decide (((i:Nat):Int) < ((n:Nat):Int))=false:=by simp;omega
  simp only [srtI]
  refine zaa ?_
  exact wkrE [sb h0] kr
 | succ m ih =>
  intro i l hi hn hs
  have h0:decide (((i:Nat):Int) < ((n:Nat):Int))=true:=by simp;omega
  have hw:=zao i (by omega)
  have hg:=ih (i+1) (insI i l) (by omega) (by rw [zjk];exact hn) hs
  have hin:=zqd l0 n i hw i l hn (by omega) hs _ hg
  refine zaa ?_
  exact wkl [sb h0] [0,1,2,6,7] 1 kr (hin)
def srt1 (l:List Int):List Int:=srtI (l.length - 1) 1 l
theorem zmw:∀ (m i:Nat) (l:List Int),(srtI m i l).length=l.length
 | 0,_,_=>rfl
 | m+1,i,l=>by unfold srtI;rw [zmw,zjk]
@[simp] theorem srt1_len (l:List Int):(srt1 l).length=l.length:=zmw _ _ _
theorem srtO1 (l0 l:List Int) (hl:l.length≤12) (h1:1≤l.length):Good E0 B.slices_insertionSortOrdered_int (SrtH l0) (zfz l.length 1 l) (Shut 1 fun r h=>r=.tup []∧h=SrtH (srt1 l)):=zp3 l0 l.length (l.length - 1) 1 l (by omega) rfl hl
theorem srtO0 (l0 l:List Int) (h1:l.length=0):Good E0 B.slices_insertionSortOrdered_int (SrtH l0) (zfz l.length 1 l) (Shut 1 fun r h=>r=.tup []∧h=SrtH (srt1 l)):=by
 have h0:decide (((1:Nat):Int) < ((l.length:Nat):Int))=false:=by simp;omega
 have e:srt1 l=l:=by unfold srt1;rw [h1];rfl
 rw [e]
 refine zaa ?_
 exact wkrE [sb h0] kr
theorem srtOx (l0 l:List Int) (hl:l.length≤12):Good E0 B.slices_insertionSortOrdered_int (SrtH l0) (zfz l.length 1 l) (Shut 1 fun r h=>r=.tup []∧h=SrtH (srt1 l)):=by
 by_cases h:l.length=0
 ·exact srtO0 l0 l h
 ·exact srtO1 l0 l hl (by omega)
def insS (l:List Int):(List Int) :=
 srtI (l.length - (0+1)) (0+1) l
theorem zdh (l:List Int) (hl:l.length≤12):zac E0 S.slices_insertionSortOrdered_int [.own 0 l.length,iv 0,iv (l.length:Nat)] [.row Ty.int (l.map zan) false] (.tup []) [.row Ty.int ((insS l).map zan) false]:=by
 unfold insS
 exact wkc At.slices_insertionSortOrdered_int [si (wrapN (t:=0+1) (n:=0+1) (by omega) (by omega))] [0,1,2,6] 1 kr (srtOx l l hl)
theorem k_insS (l:List Int) (hl:l.length≤12):zac E0 S.slices_insertionSortOrdered_int [.own 0 l.length,iv 0,iv (l.length:Nat)] [.row Ty.int (l.map zan) false] (.tup []) [.row Ty.int ((srt1 l).map zan) false]:=zdh l hl
noncomputable def L_pq (l:List Int) (c:Int):Cfg:=zaw B.slices_pdqsortOrdered_int 0 [(0,.own 0 l.length),(1,iv 0),(2,iv (l.length:Nat)),(3,iv c),(8,.bl true),(9,.bl true)] [.row Ty.int (l.map zan) false]
theorem zcW (l:List Int) (c:Int):True∧∀ R,Good E0 B.slices_pdqsortOrdered_int [.row Ty.int (l.map zan) false] (L_pq l c) R→Good E0 B.slices_pdqsortOrdered_int [.row Ty.int (l.map zan) false] (L_pq l c) R:=⟨trivial,fun _ h=>h⟩
theorem le12 {l:List Int} (h:l.length≤12):decide (((l.length:Nat):Int)≤12)=true:=by simp;omega
theorem sub0 {l:List Int} (h:l.length≤12):IntKind.i64.wrap (((l.length:Nat):Int) - 0)=((l.length:Nat):Int):=by rw [IntKind.wrap_i64];omega
theorem c_pdq (l:List Int) (c:Int) (hl:l.length≤12) (hn:decide (((l.length:Nat):Int)≤12)=true) (hs:IntKind.i64.wrap (((l.length:Nat):Int) - 0)=((l.length:Nat):Int)) (hin:zac E0 S.slices_insertionSortOrdered_int [.own 0 l.length,iv 0,iv (l.length:Nat)] [.row Ty.int (l.map zan) false] (.tup []) [.row Ty.int ((srt1 l).map zan) false]):∃ (r:List Int),r=srt1 l∧zac E0 S.slices_pdqsortOrdered_int [.own 0 l.length,iv 0,iv (l.length:Nat),iv c] [.row Ty.int (l.map zan) false] (.tup []) [.row Ty.int (r.map zan) false]:=by
 obtain ⟨q1,g1⟩:=zcW l (c)
 exact ⟨srt1 l,(by rfl),wkc At.slices_pdqsortOrdered_int [] [0,1,2,3,8,9] 1 kr (g1 _ (zaa (wkr [si hs,sb hn,sl [0] hin] kr)))⟩
theorem zey (l:List Int) (c:Int) (hl:l.length≤12):zac E0 S.slices_pdqsortOrdered_int [.own 0 l.length,iv 0,iv (l.length:Nat),iv c] [.row Ty.int (l.map zan) false] (.tup []) [.row Ty.int ((srt1 l).map zan) false]:=by
 obtain ⟨r,rfl,h⟩:=c_pdq l c hl (le12 hl) (sub0 hl) (k_insS l hl)
 exact h
theorem len_w {l:List Int} (h:l.length≤12):∃ r:Int,zac E0 S.math_bits_Len [.v (.int .u64 (IntKind.u64.wrap ((l.length:Nat):Int)))] [] (iv r) []:=by
 rw [wrapU,show ((l.length:Nat):Int) % 18446744073709551616=((l.length:Nat):Int) by omega]
 exact zj3 l.length (by omega)
theorem zqI (l:List Int) (hl:l.length≤12) (hb:∃ r:Int,zac E0 S.math_bits_Len [.v (.int .u64 (IntKind.u64.wrap ((l.length:Nat):Int)))] [] (iv r) []):∃ (r:List Int),r=srt1 l∧zac E0 S.slices_Sort_int [.own 0 l.length] [.row Ty.int (l.map zan) false] (.tup []) [.row Ty.int (r.map zan) false]:=by
 obtain ⟨r1,c1⟩:=hb
 exact ⟨srt1 l,(by rfl),wkE At.slices_Sort_int [sqx (l.length=(List.map zan l).length),si (e:=IntKind.u64.wrap (l.length:Int)) rfl,sc c1,sl [0] (zey l r1 (by first|assumption|omega|(simp;done)|(simp;omega)))] kr⟩
theorem ziL (l:List Int) (hl:l.length≤12):zac E0 S.slices_Sort_int [.own 0 l.length] [.row Ty.int (l.map zan) false] (.tup []) [.row Ty.int ((srt1 l).map zan) false]:=by
 obtain ⟨r,rfl,h⟩:=zqI l hl (len_w hl)
 exact h
end Go.AM
namespace Go.AM
structure InsI (l:List Lk) (x:Lk) (i:Nat) (out:List Lk) (done:Bool):Prop where
 nd:out.Nodup
 sub:∀ z∈out,z=x∨z∈l.take i
 sup:∀ z∈l.take i,z=x∨z∈out
 dn:x∈out↔done=true
theorem zhP {α:Type}:∀ (l m:List α),l.Nodup→(∀ x∈l,x∈m)→l.length≤m.length
 | [],_,_,_=>by simp
 | x::r,m,hn,hs=>by
  haveI:DecidableEq α:=fun a b=>Classical.propDecidable (a=b)
  rw [List.nodup_cons] at hn
  have hx:x∈m:=hs x (by simp)
  have h1:=zhP r (m.erase x) hn.2 fun y hy=>(List.mem_erase_of_ne (by rintro rfl;exact hn.1 hy)).2 (hs y (by simp [hy]))
  rw [List.length_erase_of_mem hx] at h1
  have h2:=List.length_pos_of_mem hx
  simp only [List.length_cons]
  omega
theorem InsI.len {l:List Lk} {u:Lk} {i:Nat} {out:List Lk} {d:Bool} (h:InsI l u i out d):out.length≤i+1:=by
 have:=zhP out (u::l.take i) h.nd fun z hz=>by simpa using h.sub z hz
 simp only [List.length_cons,List.length_take] at this
 omega
theorem InsI.add {l:List Lk} {u:Lk} {i:Nat} {out:List Lk} {d:Bool} (h:InsI l u i out d) (e:(!d)=true):InsI l u i (out++[u]) true:=by
 have hnu:u ∉ out:=fun hu=>by have:=h.dn.1 hu;subst this;simp at e
 refine ⟨?_,fun z hz=>?_,fun z hz=>?_,by simp⟩
 ·refine List.nodup_append.2 ⟨h.nd,by simp,fun a ha b hb=>?_⟩
  simp only [List.mem_singleton] at hb
  subst hb
  rintro rfl
  exact hnu ha
 ·simp only [List.mem_append,List.mem_singleton] at hz
  rcases hz with hz|hz
  ·exact h.sub z hz
  ·exact .inl hz
 ·simp only [List.mem_append,List.mem_singleton]
  rcases h.sup z hz with h2|h2
  ·exact .inl h2
  ·exact .inr (.inl h2)
structure InsR (l:List Lk) (u:Lk) (r:List Lk):Prop where
 nd:r.Nodup
 sub:∀ z∈r,z=u∨z∈l
 sup:∀ z∈l,z∈r
theorem InsI.done {l:List Lk} {u:Lk} {out:List Lk} {d:Bool} (h:InsI l u l.length out d) (e:(!d)=false):InsR l u out:=by
 have hd:d=true:=by simpa using e
 have hu:=h.dn.2 hd
 refine ⟨h.nd,fun z hz=>by simpa using h.sub z hz,fun z hz=>?_⟩
 rcases h.sup z (by simpa using hz) with rfl|h1
 ·exact hu
 ·exact h1
structure LkN (N:List Str) (l:List Lk):Prop where
 nd:l.Nodup
 mem:∀ z∈l,z.fst∈N∧z.snd∈N
theorem InsR.lk {N:List Str} {l:List Lk} {u:Lk} {r:List Lk} (h:InsR l u r) (hl:LkN N l) (h1:u.fst∈N) (h2:u.snd∈N):LkN N r :=
 ⟨h.nd,fun z hz=>by rcases h.sub z hz with rfl|hz;exact ⟨h1,h2⟩;exact hl.mem z hz⟩
theorem zme {α β:Type} (f:α→List β) (k:Nat) (hf:∀ a,(f a).length=k):∀ l:List α,(l.flatMap f).length=l.length * k
 | []=>by simp
 | a::r=>by rw [List.flatMap_cons,List.length_append,hf,zme f k hf r,List.length_cons,Nat.add_mul];omega
theorem LkN.len {N:List Str} {l:List Lk} (h:LkN N l):l.length≤N.length * N.length:=by
 have h1:=zhP l (N.flatMap fun a=>N.map fun b=>⟨a,b⟩) h.nd fun z hz=>by
  simp only [List.mem_flatMap,List.mem_map]
  exact ⟨z.fst,(h.mem z hz).1,z.snd,(h.mem z hz).2,by cases z;rfl⟩
 have h2:(N.flatMap fun a=>N.map fun b=>(⟨a,b⟩:Lk)).length=N.length * N.length:=by
  exact zme _ _ (fun a=>by simp) N
 omega
end Go.AM
namespace Go.AM
set_option maxRecDepth 100000
set_option maxHeartbeats 1000000
set_option linter.unusedSimpArgs false
set_option linter.unusedVariables false
abbrev zkd (N:List Str) (l out:List Lk):Prop:=LkN N out∧∀ z∈l,z∈out
theorem zkd.short {N:List Str} {l out:List Lk} (h:zkd N l out) (hN:N.length≤1000):zad out:=by
 have h1:=h.1.len
 have h2:=Nat.mul_le_mul hN hN
 simp only [zad];omega
theorem zkd.ins {N:List Str} {l out:List Lk} {a b:Lk} {i j:Nat} {r:List Lk} (h:zkd N l out) (hl:LkN N l) (hx:l[i]?=some a) (hy:l[j]?=some b) (hr:InsR out ⟨a.fst,b.snd⟩ r):zkd N l r :=
 ⟨hr.lk h.1 (hl.mem a (List.mem_of_getElem? hx)).1 (hl.mem b (List.mem_of_getElem? hy)).2,fun z hz=>hr.sup z (h.2 z hz)⟩
end Go.AM
namespace Go.AM
set_option maxRecDepth 100000
set_option maxHeartbeats 1000000
set_option linter.unusedSimpArgs false
set_option linter.unusedVariables false
theorem LkN.short {N:List Str} {l:List Lk} (h:LkN N l) (hN:N.length≤1000):zad l:=by
 have h1:=h.len
 have h2:=Nat.mul_le_mul hN hN
 simp only [zad];omega
end Go.AM
namespace Go.AM
set_option maxRecDepth 100000
set_option maxHeartbeats 1000000
set_option linter.unusedSimpArgs false
set_option linter.unusedVariables false
theorem zpE {p:Prop} (h:p:=by first|assumption|omega|(simp;done)|(simp;omega)):p:=h
def zoa (k:Nat):Str:=([⟨#[116]⟩,⟨#[117]⟩,⟨#[108,111,103]⟩]:List Str).getD k ⟨#[]⟩
theorem zri (k:Nat) (h:(k:Int) < 3):ElAt [[sv ⟨#[116]⟩],[sv ⟨#[117]⟩],[sv ⟨#[108,111,103]⟩]] (k:Int) [sv (zoa k)] 1:=by
 have:k=0∨k=1∨k=2:=by omega
 rcases this with rfl|rfl|rfl <;> exact ⟨by decide,rfl,rfl⟩
def TabN (w:Str):Prop:=w=⟨#[116]⟩∨w=⟨#[117]⟩∨w=⟨#[108,111,103]⟩
theorem zrG {k:Nat} (h:(k:Int) < 3):TabN (zoa k):=by
 have:k=0∨k=1∨k=2:=by omega
 rcases this with rfl|rfl|rfl
 ·exact .inl rfl
 ·exact .inr (.inl rfl)
 ·exact .inr (.inr rfl)
theorem zhJ (t:Tp) :∃ (w:Str) (t':Tp),TabN w∧zac E0 S.world_Tape_Table [.p 0 0] [.box t.cells] (sv w) [.box t'.cells]:=by
 obtain ⟨a1,t1,q1,c1⟩:=(zaj t 3 zpE)
 exact ⟨zoa a1,t1,by exact zrG (by omega),wk At.world_Tape_Table [sl [0] c1,se (zri a1 zpE)] kr⟩
def schU:Sch:=⟨⟨#[117]⟩,[⟨⟨#[105,100]⟩,1,true,true⟩,⟨⟨#[110]⟩,1,true,false⟩,⟨⟨#[109]⟩,1,false,false⟩]⟩
end Go.AM
namespace Go.AM
set_option maxRecDepth 100000
set_option maxHeartbeats 1000000
set_option linter.unusedSimpArgs false
set_option linter.unusedVariables false
structure GenOk (x:Tg):Prop where
 ok:TgOk 6 x
 set:∀ a∈x.acts,AcSet a
structure CertOk (x x':Tg):Prop where
 gen:GenOk x→GenOk x'
 name:x'.name=x.name
 table:x'.table=x.table
 prec:x'.prec=x.prec
 foll:x'.foll=x.foll
end Go.AM
namespace Go.AM
set_option maxRecDepth 100000
set_option maxHeartbeats 1000000
set_option linter.unusedSimpArgs false
set_option linter.unusedVariables false
structure SetsOk (i:Nat) (sets:List Se):Prop where
 len:sets.length≤i
 ex:∀ s∈sets,XOk 5 s.ex
 two:i≤2
end Go.AM
namespace Go.AM
set_option maxRecDepth 100000
set_option maxHeartbeats 1000000
set_option linter.unusedSimpArgs false
set_option linter.unusedVariables false
theorem zqb (s:Int × List (List V)):(ziq s).1.length≤s.2.length:=by
 unfold ziq;cases s.1 != 0 <;> simp
theorem zgm {tr:Rw→Bool × Int} {rv:Rw→Int × List V}:∀ (l:List Rw) (out:List (List V)),(zc4 tr rv l out).2.length≤out.length+l.length
 | [],out=>by simp [zc4]
 | r::l,out=>by
  have h1:=zgm (tr:=tr) (rv:=rv) l out
  have h2:=zgm (tr:=tr) (rv:=rv) l (out++[(rv r).2])
  simp only [zc4]
  cases (tr r).2 != 0 <;> cases (tr r).1 <;> cases (rv r).1 != 0 <;> simp at * <;> omega
theorem zlS {n:Nat} {q:Qy} {frs:List Fr} {tb:List Tb} (h:TbOk tb):(zd9 n q frs tb).1.length≤1000:=by
 unfold zd9
 cases hf:zbC tb q.frm with
 | none=>simp
 | some t =>
  have h1:=h.rows t (zdz hf)
  have h2:=zqb (zc4 (fun r=>zci (fun x=>eval n x (zat frs t r.vals) tb) q.wh) (fun r=>rowV (fun x=>eval n x (zat frs t r.vals) tb) q r) t.rows [])
  have h3:=zgm (tr:=fun r=>zci (fun x=>eval n x (zat frs t r.vals) tb) q.wh) (rv:=fun r=>rowV (fun x=>eval n x (zat frs t r.vals) tb) q r) t.rows []
  simp only [List.length_nil] at h3
  simp only;omega
structure DmlIn (n:Nat) (a:Ac) (frs:List Fr) (tb:List Tb):Prop where
 ac:AcOk n a
 kd:1≤a.kind∧a.kind≤3
 fo:FsOk (n+1) frs
 fg:FsG frs
 to:TbOk tb
 tg:TbG tb
 tv:∀ x∈tb,∀ r∈x.rows,zad r.vals
theorem zjL {tb:List Tb} {n:Str} (h:(zas tb n).2=true):zbC tb n=some (tabC tb n)∧(zas tb n).1=(tabC tb n).sch∧tabC tb n∈tb∧decide (idxF (fun t=>zaD t n) tb 0 < 0)=false:=by
 rw [ze6] at h ⊢
 cases hf:zbC tb n with
 | none=>rw [hf] at h;cases h
 | some t =>
  have e:tabC tb n=t:=by unfold tabC;rw [hf];rfl
  refine ⟨by rw [e],by rw [e],by rw [e];exact zdz hf,?_⟩
  rcases zc3 (fun t=>zaD t n) tb 0 with ⟨_,h2⟩|⟨j,y,h2,h3,h4⟩
  ·unfold zbC at hf;rw [h2] at hf;cases hf
  ·rw [h2];simp
theorem zqc {a:Ac} {b:Bool} {tb:List Tb} (h:((tgt a b tb).2 != 0)=false):b=true∧(zas tb a.table).2=true∧(tgt a b tb).1=(tabC tb a.table).sch∧(tgt a b tb).2=0:=by
 unfold tgt at h ⊢
 cases b
 ·simp at h
 ·cases h2:(zas tb a.table).2
  ·rw [h2] at h;simp at h
  ·refine ⟨rfl,rfl,?_,rfl⟩
   simp only [Bool.not_true,cond_false]
   exact (zjL h2).2.1
abbrev evI (n:Nat) (frs:List Fr) (s:Sch) (tb:List Tb) (r:Rw):X→V × Int:=fun x=>eval n x (zaA frs s r.vals) tb
def cTr (n:Nat) (a:Ac) (frs:List Fr) (s:Sch) (tb:List Tb) (r:Rw):Bool × Int:=zci (evI n frs s tb r) a.wh
def cAg (n:Nat) (a:Ac) (frs:List Fr) (s:Sch) (tb:List Tb) (r:Rw):List V × Int:=asgn (evI n frs s tb r) a s r.vals (zaA frs s r.vals) tb
def cIns (n:Nat) (a:Ac) (frs:List Fr) (s:Sch) (tb:List Tb):List (List V) × Int:=insB (fun x=>eval n x frs tb) (fun q=>zd9 n q frs tb) s a
def zdo (n:Nat) (a:Ac) (frs:List Fr) (tb:List Tb):Ch × Int :=
 bif (tgt a (actB (vX n) a) tb).2 != 0 then ziH a (tgt a (actB (vX n) a) tb).1 (tgt a (actB (vX n) a) tb).2
 else bif a.kind==1 then zlv (cIns n a frs (tabC tb a.table).sch tb) a
 else bif a.kind==3 then zg5 (cTr n a frs (tabC tb a.table).sch tb) a (tabC tb a.table).sch frs tb
 else zjM (cTr n a frs (tabC tb a.table).sch tb) (cAg n a frs (tabC tb a.table).sch tb) a (tabC tb a.table).sch frs tb
section
variable {n : Nat} {a : Ac} {frs : List Fr} {tb : List Tb}
theorem DmlIn.target (h:DmlIn n a frs tb):zac E0 S.dml_target [a.av,tsl tb] [] (.tup [(tgt a (actB (vX n) a) tb).1.av,iv (tgt a (actB (vX n) a) tb).2]) []:=by
 have hk:=h.kd
 exact zlM a (actB (vX n) a) tb (by simp;omega) (by simp;omega) h.to.len h.to.cols (zhh h.ac hk)
theorem DmlIn.ins (h:DmlIn n a frs tb) {t:Tb} (ht:t∈tb) {r:Rw} (hr:r∈t.rows):FsOk n (zaA frs t.sch r.vals)∧FsG (zaA frs t.sch r.vals) :=
 ⟨h.fo.eins (t:=t) (h.to.cols t ht) (h.tg.vals t ht r hr),h.fg.ins (t:=t) (h.tg.vals t ht r hr)⟩
theorem zmK (h:DmlIn n a frs tb):Pure S.dml_Candidates [a.av,fsl frs,tsl tb] (.tup [(zdo n a frs tb).1.av,iv (zdo n a frs tb).2]):=by
 have ht:=h.target
 unfold zdo
 cases h0:(tgt a (actB (vX n) a) tb).2 != 0
 ·obtain ⟨hb,hs,he,hc⟩:=zqc h0
  rw [he,hc] at ht
  obtain ⟨h1,h2,h3,h4⟩:=zjL hs
  have hfs:zad frs:=h.fo.short
  have hcol:=h.to.cols _ h3
  have hrw:zad (tabC tb a.table).rows:=by have:=h.to.rows _ h3;simp only [zad];omega
  have htr:∀ r∈(tabC tb a.table).rows,Pure S.evaluate_True [xsl a.wh,fsl (zaA frs (tabC tb a.table).sch r.vals),tsl tb] (.tup [bv (cTr n a frs (tabC tb a.table).sch tb r).1,iv (cTr n a frs (tabC tb a.table).sch tb r).2]):=fun r hr =>
   zmP (fun x hx=>zd4 n x _ tb (h.ac.w x hx) (h.ins h3 hr).1 (h.ins h3 hr).2 h.to h.tg) (fun x hx=>zdF n x _ tb (h.ac.w x hx) (h.ins h3 hr).2 h.tg)
  simp only [cond_false]
  cases k1:a.kind==1
  ·simp only [cond_false]
   cases k3:a.kind==3
   ·simp only [cond_false]
    exact zhr _ _ a (tabC tb a.table).sch frs tb k1 k3 h.to.len hfs ht (zmT tb a h.to.len) h4 hrw (h.tv _ h3) htr fun r hr =>
     zkw _ a _ r.vals _ tb (h.tv _ h3 r hr) hcol (zaH h.ac.sets) fun x hx=>zd4 n x.ex _ tb (h.ac.set x hx) (h.ins h3 hr).1 (h.ins h3 hr).2 h.to h.tg
   ·simp only [cond_true]
    exact zht _ a (tabC tb a.table).sch frs tb k1 k3 h.to.len hfs ht (zmT tb a h.to.len) h4 hrw htr
  ·simp only [cond_true]
   have hr:=h.ac.rows
   have hq:=h.ac.query
   exact zhy _ a (tabC tb a.table).sch frs tb k1 ht (zkC a _ frs tb _ _ hcol (by simp only [Few] at hr;omega) (fun r hr=>⟨zaH (h.ac.row r hr).1,fun x hx=>zd4 n x frs tb ((h.ac.row r hr).2 x hx) h.fo.less h.fg h.to h.tg⟩) hq fun q hq =>
    ⟨by have:=zlS (n:=n) (q:=q) (frs:=frs) h.to;omega,zo3 ⟨(h.ac.qs q hq).items,(h.ac.qs q hq).hi,(h.ac.qs q hq).hw⟩ h.fo h.to h.fg h.tg h.tv⟩)
 ·simp only [cond_true]
  exact zhq a _ _ frs tb h0 ht
end
end Go.AM
namespace Go.AM
set_option maxRecDepth 100000
set_option maxHeartbeats 1000000
set_option linter.unusedSimpArgs false
set_option linter.unusedVariables false
theorem zmr (cond:Int) (q:Qy) (s:Sch) (ins:List Fr) (tb:List Tb):∀ (l:List Col) (i:Nat) (o:List Int),(ptsS cond q s ins tb l i o).1.length≤o.length+l.length
 | [],i,o=>by unfold ptsS;cases cond != 0 <;> simp
 | x::r,i,o=>by
  have:=zmr cond q s ins tb r (i+1) (o++[x.type])
  unfold ptsS;simp at *;omega
theorem zmA (f:X→Int × Int) (cond:Int) (q:Qy) (s:Sch) (ins:List Fr) (tb:List Tb):∀ (l:List X) (i:Nat) (o:List Int),(ptsI f cond q s ins tb l i o).1.length≤o.length+l.length
 | [],i,o=>by unfold ptsI;cases cond != 0 <;> simp
 | x::r,i,o=>by
  have:=zmA f cond q s ins tb r (i+1) (o++[(f x).1])
  unfold ptsI;cases (f x).2 != 0 <;> simp at * <;> omega
theorem zoz {f:X→Int × Int} {cond:Int} {q:Qy} {frs:List Fr} {tb:List Tb} (h1:zad q.items) (h2:zad (zas tb q.frm).1.cols):zad (pTys f cond q frs tb).1:=by
 unfold pTys
 cases (zas tb q.frm).2
 ·simp
 ·cases q.star
  ·have:=zmA f cond q (zas tb q.frm).1 (zaA frs (zas tb q.frm).1 []) tb q.items 0 []
   simp only [zad] at *;simp at *;omega
  ·have:=zmr cond q (zas tb q.frm).1 (zaA frs (zas tb q.frm).1 []) tb (zas tb q.frm).1.cols 0 []
   simp only [zad] at *;simp at *;omega
def tyQ (n:Nat) (frs:List Fr) (tb:List Tb) (q:Qy):List Int × Int :=
 pTys (fun x=>zct n x (zaA frs (zas tb q.frm).1 []) tb) (zhV (fun x=>zct n x (zaA frs (zas tb q.frm).1 []) tb) q.wh) q frs tb
def tyC (n:Nat) (a:Ac) (tb:List Tb) (frs:List Fr):Int:=zhV (fun x=>zct n x frs tb) a.wh
def pchk (n:Nat) (a:Ac) (frs:List Fr) (tb:List Tb):Bool :=
 !((tgt a (actB (vX n) a) tb).2 != 0)&&zls (fun w x=>zct n x w tb) (tyQ n frs tb) (tyC n a tb) frs tb (tabC tb a.table).sch a
section
variable {n : Nat} {a : Ac} {frs : List Fr} {tb : List Tb}
theorem FsOk.ins0 (h:FsOk (n+1) frs) {s:Sch} (hs:zad s.cols):FsOk n (zaA frs s []) :=
 h.eins (t:=⟨s,0,[]⟩) hs (fun _ h=>by cases h)
theorem c_chk (h:DmlIn n a frs tb):∃ r:Int,(r=0↔pchk n a frs tb=true)∧zac E0 S.dml_Check [a.av,fsl frs,tsl tb] [] (iv r) []:=by
 have ht:=h.target
 unfold pchk
 cases h0:(tgt a (actB (vX n) a) tb).2 != 0
 ·obtain ⟨hb,hs,he,hc⟩:=zqc h0
  rw [he,hc] at ht
  obtain ⟨h1,h2,h3,h4⟩:=zjL hs
  have hcol:=h.to.cols _ h3
  have hfi:=h.fo.ins0 hcol
  have hsc:∀ q:Qy,zad (zas tb q.frm).1.cols:=fun q=>zfj _ _ _ 0 h.to.cols
  obtain ⟨ci,hci,hi⟩:=ziT a (tabC tb a.table).sch frs tb (fun x=>zct n x frs tb) (tyQ n frs tb) hcol (zaH h.ac.rows) (zaH h.ac.query) (fun r hr=>⟨zaH (h.ac.row r hr).1,fun x hx=>zdB n x frs tb ((h.ac.row r hr).2 x hx) h.fo.less h.to⟩)
   (fun q hq=>⟨zoz (zaH (h.ac.qs q hq).items) (hsc q),zlc _ _ q frs tb (n+1) h.fo h.to (zaH (h.ac.qs q hq).items) (hsc q) (fun x hx=>zdB n x _ tb ((h.ac.qs q hq).hi x hx) (h.fo.ins0 (hsc q)) h.to) (zfk fun x hx=>zdB n x _ tb ((h.ac.qs q hq).hw x hx) (h.fo.ins0 (hsc q)) h.to)⟩)
  obtain ⟨r,hr,hk⟩:=znd a (tabC tb a.table).sch ci frs tb (fun w x=>zct n x w tb) (tyQ n frs tb) (tyC n a tb) h.to.len h.fo.short hcol (zaH h.ac.sets) ht (fun x hx=>zdB n x.ex _ tb (h.ac.set x hx) hfi h.to) (zfk fun x hx=>zdB n x _ tb (h.ac.w x hx) hfi h.to) hi hci
  exact ⟨r,by simpa using hr,hk⟩
 ·obtain ⟨r,hr,hk⟩:=zml a _ _ frs tb h0 ht
  refine ⟨r,?_,hk⟩
  subst hr
  simp at h0 ⊢;exact h0
end
abbrev sM:Str:=⟨#[109]⟩
abbrev sN:Str:=⟨#[110]⟩
abbrev sU:Str:=⟨#[117]⟩
abbrev knA:Ac:=⟨2,sU,[],[],[⟨sN,xCol ⟨#[]⟩ sM⟩,⟨sM,xCol ⟨#[]⟩ sN⟩],[],⟨#[]⟩⟩
abbrev vN (n:Int):V:=⟨1,n,⟨#[]⟩⟩
abbrev knT:Tb:=⟨schU,2,[⟨1,[vN 1,vN 2,vN 3]⟩]⟩
abbrev knC:Ch:=⟨[],[],[⟨1,[vN 1,vN 2,vN 3],[vN 1,vN 3,vN 2]⟩]⟩
theorem zrH:zdo 2 knA [] [knT]=(knC,0):=by kernel_rfl
theorem kn_chk:pchk 2 knA [] [knT]=true:=by kernel_rfl
end Go.AM
namespace Go.AM
set_option maxRecDepth 100000
set_option maxHeartbeats 1000000
set_option linter.unusedSimpArgs false
set_option linter.unusedVariables false
theorem zla  (hs:zad zal) (hc:Pure S.dml_Candidates [knA.av,fsl [],tsl [knT]] (.tup [knC.av,iv 0])) (hk:Pure S.dml_Check [knA.av,fsl [],tsl [knT]] (iv 0)) (he:zac E0 S.slices_Equal_Value [vsl [vN 1,vN 3,vN 2],vsl [vN 1,vN 3,vN 2]] [] (bv true) []):∃ (b:Bool),b=true∧zac E0 S.law16_known [] [] (bv b) []:=by
 exact ⟨bif bif bif (0:Int)==(0:Int) then (0:Int)==(0:Int) else false then (↑[[iv (1:Int),AV.sl [[iv (vN (1:Int)).kind,iv (vN (1:Int)).int,sv (vN (1:Int)).text],[iv (vN (2:Int)).kind,iv (vN (2:Int)).int,sv (vN (2:Int)).text],[iv (vN (3:Int)).kind,iv (vN (3:Int)).int,sv (vN (3:Int)).text]],AV.sl [[iv (vN (1:Int)).kind,iv (vN (1:Int)).int,sv (vN (1:Int)).text],[iv (vN (3:Int)).kind,iv (vN (3:Int)).int,sv (vN (3:Int)).text],[iv (vN (2:Int)).kind,iv (vN (2:Int)).int,sv (vN (2:Int)).text]]]].length:Int)==(1:Int) else false then true else false,(by rfl),(by (try simp only [X.av,Qy.av,V.av,Tb.av,Sch.av,Pl.av,xsl,fsl,vsl,tsl,List.map_append,List.map_cons,List.map_nil,V.cells,Col.cells,Rw.cells,Tb.cells,Fr.cells,Sch.cells,Pl.cells,zaU,zaJ,zaO,zaM,zaP,X.cells,Qy.cells,X.args_mk,X.sub_mk,Qy.items_mk,Qy.wh_mk,xCol,xLit,xBin,xNeg,Ac.cells,Se.cells,Pr.cells,Ch.cells,Rw.cells]);exact wk At.law16_known [sc (zgD (ByteArray.mk #[117]) (by first|assumption|omega|(simp;done)|(simp;omega))),sc (zcf 1),sc (zcf 2),sc (zcf 3),sc (zer (ByteArray.mk #[]) (ByteArray.mk #[109])),sc (zer (ByteArray.mk #[]) (ByteArray.mk #[110])),sc hc,sd [(3,[sg (rfl:true=true)]),(4,[sg (rfl:true=true)]),(5,[sg (rfl:true=true)]),(6,[so (rfl:true=true) (sc hk)]),(7,[sg (rfl:true=true)]),(10,[sg (rfl:true=true)]),(11,[sg (rfl:true=true)]),(12,[sg (rfl:true=true)]),(13,[sg (rfl:true=true)]),(16,[sg (rfl:true=true)]),(17,[sg (rfl:true=true)]),(18,[so (rfl:true=true) (se (xs:=[[iv 1,AV.sl [[iv (vN 1).kind,iv (vN 1).int,sv (vN 1).text],[iv (vN 2).kind,iv (vN 2).int,sv (vN 2).text],[iv (vN 3).kind,iv (vN 3).int,sv (vN 3).text]],AV.sl [[iv (vN 1).kind,iv (vN 1).int,sv (vN 1).text],[iv (vN 3).kind,iv (vN 3).int,sv (vN 3).text],[iv (vN 2).kind,iv (vN 2).int,sv (vN 2).text]]]]) (i:=0) (c:=[iv 1,AV.sl [[iv (vN 1).kind,iv (vN 1).int,sv (vN 1).text],[iv (vN 2).kind,iv (vN 2).int,sv (vN 2).text],[iv (vN 3).kind,iv (vN 3).int,sv (vN 3).text]],AV.sl [[iv (vN 1).kind,iv (vN 1).int,sv (vN 1).text],[iv (vN 3).kind,iv (vN 3).int,sv (vN 3).text],[iv (vN 2).kind,iv (vN 2).int,sv (vN 2).text]]]) (n:=3) ⟨by decide,rfl,rfl⟩)]),(19,[sg (rfl:true=true)]),(20,[sg (rfl:true=true)]),(21,[so (rfl:true=true) (sc (zcf 1))]),(22,[so (rfl:true=true) (sc (zcf 3))]),(23,[so (rfl:true=true) (sc (zcf 2))]),(24,[sg (rfl:true=true)]),(25,[so (rfl:true=true) (sc he)])]] kr)⟩
theorem zps:∀ r∈knT.rows,∀ v∈r.vals,v.Good:=fun r hr v hv=>by
 simp only [List.mem_singleton] at hr
 subst hr
 simp only [List.mem_cons,List.not_mem_nil,or_false] at hv
 rcases hv with rfl|rfl|rfl <;> exact zbk ⟨by decide,by decide⟩
theorem knIn:DmlIn 2 knA [] [knT] where
 ac:=⟨by simp,by simp,by simp,by simp,by simp,fun s hs=>by
  simp only [List.mem_cons,List.not_mem_nil,or_false] at hs
  rcases hs with rfl|rfl <;> exact zks ⟨_,_,rfl⟩,by simp,by simp⟩
 kd:=by decide
 fo:=zmM 3 (by decide)
 fg:=zn8
 to:=⟨by simp,fun x hx=>by simp only [List.mem_singleton] at hx;subst hx;decide,fun x hx=>by simp only [List.mem_singleton] at hx;subst hx;decide,fun x hx r hr v hv=>by
  simp only [List.mem_singleton] at hx;subst hx;exact (zps r hr v hv).small⟩
 tg:=⟨fun x hx r hr v hv=>by simp only [List.mem_singleton] at hx;subst hx;exact zps r hr v hv,fun x hx=>by simp only [List.mem_singleton] at hx;subst hx;decide⟩
 tv:=fun x hx r hr=>by
  simp only [List.mem_singleton] at hx;subst hx
  simp only [List.mem_singleton] at hr;subst hr;decide
theorem zle:zac E0 S.law16_known [] [] (bv true) []:=by
 have h1:=zmK knIn
 rw [zrH] at h1
 obtain ⟨r,hr,h2⟩:=c_chk knIn
 obtain rfl:=hr.2 kn_chk
 obtain ⟨q,h4,h3⟩:=zg6 [vN 1,vN 3,vN 2] (by decide)
 subst h4
 obtain ⟨b,rfl,h⟩:=zla zhp h1 h2 h3
 exact h
noncomputable def L_eqI (l:List Int) (i:Nat) :Cfg:=zaw B.slices_Equal_int 0 [(0,isl l),(1,isl l),(12,iv ((l.map zan).length:Nat)),(13,iv (i:Nat))] []
theorem zd6 (l:List Int) (hl:zad l) (i:Nat)  (hi:i≤(l).length) (hI:True):(True)∧(decide ((((l).length:Nat):Int) < (((l.map zan).length:Nat):Int))=false)∧∀ R,Good E0 B.slices_Equal_int [] (L_eqI l (l).length ) R→Good E0 B.slices_Equal_int [] (L_eqI l i ) R:=by
 obtain ⟨kk,hk⟩:∃ kk,i+kk=(l).length:=⟨(l).length - i,by omega⟩
 induction kk generalizing i  hI with
 | zero =>
  have e0:i=(l).length:=by omega
  subst e0
  exact ⟨hI,by simp,fun R hg=>hg⟩
 | succ kk ih =>
  obtain ⟨x,hx⟩:=zaC (l:=l) (i:=i) (by omega)
  have h0:decide (((i:Nat):Int) < (((l.map zan).length:Nat):Int))=true:=by simp;omega
  have hw:IntKind.i64.wrap (((i:Nat):Int)+1)=((i+1:Nat):Int):=zao i (by first|omega|(simp only [zad,Few] at *;omega))
  cases h1:x != x
  ·obtain ⟨qZ,xZ,gZ⟩:=ih (i+1) (by omega) (by first|trivial|assumption|(simp;done)|omega|(simp;omega)|(simp at *;omega)) (by omega);exact ⟨qZ,xZ,fun R hg=>zaa (wkl [sb h0,sd [(2,[se (zah (fun n=>[iv n]) hx rfl)]),(6,[se (zah (fun n=>[iv n]) hx rfl)])],sb h1,si hw] [0,1,12,13] 0 kr (gZ R hg))⟩
  ·exact False.elim (by simp at *)
theorem zh6 (l:List Int) (hl:zad l):∃ (r:Bool),r=true∧zac E0 S.slices_Equal_int [isl l,isl l] [] (bv r) []:=by
 cases h1:(↑(List.map (fun n=>[iv n]) l).length:Int) != (↑(List.map (fun n=>[iv n]) l).length:Int)
 ·obtain ⟨q2,q2_1,g2⟩:=zd6 l (by first|assumption|omega|(simp;done)|(simp;omega)) 0 (by first|assumption|omega|(simp;done)|(simp;omega)) (by first|assumption|omega|(simp;done)|(simp;omega))
  exact ⟨true,(by first|rfl|(exfalso;simp at *;done)),wkc At.slices_Equal_int [sb h1] [0,1,12,13] 0 kr (g2 _ (zaa (wkr [sb q2_1] kr)))⟩
 ·exact ⟨false,(by first|rfl|(exfalso;simp at *;done)),wk At.slices_Equal_int [sb h1] kr⟩
theorem zcm (a b:List Int) (hab:a=b) (hl:zad a):zac E0 S.slices_Equal_int [isl a,isl b] [] (bv true) []:=by
 subst hab
 obtain ⟨r,rfl,h⟩:=zh6 a hl
 exact h
theorem zq6 {α:Type} {p:α→Bool} {l:List α} {i:Nat} {x:α} {z:Int} (h:z=idxF p (l.drop i) i) (hx:l[i]?=some x) (hp:p x=false):z=idxF p (l.drop (i+1)) (i+1):=by
 rw [za6 hx] at h;rw [h];simp only [idxF,hp,cond_false]
theorem ix_hit {α:Type} {p:α→Bool} {l:List α} {i:Nat} {x:α} {z:Int} (h:z=idxF p (l.drop i) i) (hx:l[i]?=some x) (hp:p x=true):((i:Nat):Int)=z:=by
 rw [za6 hx] at h;rw [h];simp only [idxF,hp,cond_true]
theorem zpM {α:Type} {p:α→Bool} {l:List α} {z:Int} (h:z=idxF p (l.drop l.length) l.length):-1=z:=by
 rw [List.drop_length] at h;rw [h];rfl
noncomputable def zoJ (tb:List Tb) (n:Str) (i:Nat) :Cfg:=zaw B.ref9_Find 0 [(1,sv n),(7,.sl (tb.map Tb.cells)),(8,iv ((tb.map Tb.cells).length:Nat)),(9,iv (i:Nat))] []
theorem zgK (tb:List Tb) (n:Str) (hl:zad tb) (i:Nat)  (hi:i≤(tb).length) (hI:idxF (fun t=>zaD t n) tb 0=idxF (fun t=>zaD t n) (tb.drop i) i):((idxF (fun t=>zaD t n) tb 0=idxF (fun t=>zaD t n) (tb.drop (tb).length) (tb).length)∧(decide ((((tb).length:Nat):Int) < (((tb.map Tb.cells).length:Nat):Int))=false)∧∀ R,Good E0 B.ref9_Find [] (zoJ tb n (tb).length ) R→Good E0 B.ref9_Find [] (zoJ tb n i ) R)∨(∃ (r:Int),r=idxF (fun t=>zaD t n) tb 0∧Good E0 B.ref9_Find [] (zoJ tb n i ) (Shut 0 fun rZ hZ=>rZ=(iv r)∧hZ=[])):=by
 obtain ⟨kk,hk⟩:∃ kk,i+kk=(tb).length:=⟨(tb).length - i,by omega⟩
 induction kk generalizing i  with
 | zero =>
  have e0:i=(tb).length:=by omega
  subst e0
  exact .inl ⟨hI,by simp,fun R hg=>hg⟩
 | succ kk ih =>
  obtain ⟨x,hx⟩:=zaC (l:=tb) (i:=i) (by omega)
  have h0:decide (((i:Nat):Int) < (((tb.map Tb.cells).length:Nat):Int))=true:=by simp;omega
  have hw:IntKind.i64.wrap (((i:Nat):Int)+1)=((i+1:Nat):Int):=zao i (by first|omega|(simp only [zad,Few] at *;omega))
  let p_1:List St:=[sb h0,se (zah Tb.cells hx rfl)]
  cases h1:ByteArray.toList x.sch.name==ByteArray.toList n
  ·exact (ih (i+1) (by omega) (by exact zq6 hI hx (by assumption)) (by omega)).elim (fun ⟨qZ,xZ,gZ⟩=>.inl ⟨qZ,xZ,fun R hg=>zaa (wkl (p_1++[sb h1,si hw]) [1,7,8,9] 0 kr (gZ R hg))⟩) (fun ⟨rY,pZ,gZ⟩=>.inr ⟨rY,pZ,zaa (wkl [sb h0,se (zah Tb.cells hx rfl),sb h1,si hw] [1,7,8,9] 0 kr gZ)⟩)
  ·exact .inr ⟨(i:Int),(by exact ix_hit hI hx (by assumption)),zaa (wkr (p_1++[sb h1]) kr)⟩
theorem znv (tb:List Tb) (n:Str) (hl:zad tb):∃ (r:Int),r=idxF (fun t=>zaD t n) tb 0∧zac E0 S.ref9_Find [tsl tb,sv n] [] (iv r) []:=by
 rcases zgK tb n (by first|assumption|rfl|omega) 0 (by first|assumption|rfl|omega) (by first|assumption|rfl|omega) with ⟨q1,q1_1,g1⟩|⟨r1_0,p1_0,g1⟩
 ·exact ⟨-1,(by first|assumption|exact zpM (by assumption)),wkc At.ref9_Find [] [1,7,8,9] 0 kr (g1 _ (zaa (wkr [sb q1_1] kr)))⟩
 ·exact ⟨r1_0,(by first|assumption|exact zpM (by assumption)),wkc At.ref9_Find [] [1,7,8,9] 0 kr (g1)⟩
theorem znA (tb:List Tb) (n:Str) (hl:zad tb):zac E0 S.ref9_Find [tsl tb,sv n] [] (iv (idxF (fun t=>zaD t n) tb 0)) []:=by
 obtain ⟨r,rfl,h⟩:=znv tb n hl
 exact h
end Go.AM
