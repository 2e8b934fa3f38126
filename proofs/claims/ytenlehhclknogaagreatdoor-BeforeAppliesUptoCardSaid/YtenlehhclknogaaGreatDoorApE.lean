/-
  Contracts of the program's functions, part 4.
-/
import Derived.Test.YtenlehhclknogaaGreatDoorApD
set_option linter.unusedSimpArgs false
set_option linter.unusedVariables false
namespace Go.AM
set_option maxRecDepth 100000
set_option maxHeartbeats 1000000
set_option linter.unusedSimpArgs false
set_option linter.unusedVariables false
theorem zaI {p:Prop} (h:p:=by first|assumption|omega|(simp;done)|(simp;omega)):p:=h
theorem zf0 {p:Prop} (h:p:=by first|trivial|assumption|(simp;done)|omega|(simp;omega)|(simp at *;omega)):p:=h
theorem zfM {p:Prop} (h:p:=by first|omega|(simp only [zad,Few] at *;omega)):p:=h
noncomputable def L_smX (l:List X) (i:Nat) :Cfg:=zat B.slices_EqualFunc_Lapi_Expr_Lapi_Expr_api_Expr_api_Expr 0 [(1,.sl (zab l)),(2,.fn S.world_SameExpr []),(15,.sl (zab l)),(16,iv ((zab l).length:Nat)),(17,iv (i:Nat))] []
theorem zb1 (l:List X) (hl:zad l) (hf:∀ x∈l,zac E0 S.world_SameExpr [x.av,x.av] [] (bv true) []) (i:Nat)  (hi:i≤(l).length) (hI:True):(True)∧(decide ((((l).length:Nat):Int) < (((zab l).length:Nat):Int))=false)∧∀ R,Good E0 B.slices_EqualFunc_Lapi_Expr_Lapi_Expr_api_Expr_api_Expr [] (L_smX l (l).length ) R→Good E0 B.slices_EqualFunc_Lapi_Expr_Lapi_Expr_api_Expr_api_Expr [] (L_smX l i ) R:=by
 obtain ⟨kk,hk⟩:∃ kk,i+kk=(l).length:=⟨(l).length - i,by omega⟩
 induction kk generalizing i  hI with
 | zero =>
  have e0:i=(l).length:=by omega
  subst e0
  exact ⟨hI,by simp,fun R hg=>hg⟩
 | succ kk ih =>
  obtain ⟨x,hx⟩:=zax (l:=l) (i:=i) (by omega)
  have h0:decide (((i:Nat):Int) < (((zab l).length:Nat):Int))=true:=by simp;omega
  have hw:IntKind.i64.wrap (((i:Nat):Int)+1)=((i+1:Nat):Int):=zao i zfM
  have hfx:=hf x (List.mem_of_getElem? hx)
  obtain ⟨qZ,xZ,gZ⟩:=ih (i+1) (by omega) zf0 (by omega);exact ⟨qZ,xZ,fun R hg=>zaa (wkl [sb h0,se (zbo hx),se (zbo hx),sc hfx,sb (rfl:false=false),si hw] [1,2,15,16,17] 0 kr (gZ R hg))⟩
theorem zcz (l:List X) (hl:zad l) (hf:∀ x∈l,zac E0 S.world_SameExpr [x.av,x.av] [] (bv true) []) (hz:((((zab l).length:Nat):Int) != (((zab l).length:Nat):Int))=false):∃ (r:Bool),r=true∧zac E0 S.slices_EqualFunc_Lapi_Expr_Lapi_Expr_api_Expr_api_Expr [.sl (zab l),.sl (zab l),.fn S.world_SameExpr []] [] (bv r) []:=by
 obtain ⟨q1,q1_1,g1⟩:=zb1 l zaI zaI 0 zaI zaI
 exact ⟨true,(by rfl),wkc At.slices_EqualFunc_Lapi_Expr_Lapi_Expr_api_Expr_api_Expr [sb hz] [1,2,15,16,17] 0 kr (g1 _ (zaa (wkr [sb q1_1] kr)))⟩
theorem zaV (l:List X) (hl:zad l) (hf:∀ x∈l,zac E0 S.world_SameExpr [x.av,x.av] [] (bv true) []):zac E0 S.slices_EqualFunc_Lapi_Expr_Lapi_Expr_api_Expr_api_Expr [.sl (zab l),.sl (zab l),.fn S.world_SameExpr []] [] (bv true) []:=by
 obtain ⟨r,rfl,h⟩:=zcz l hl hf (by simp)
 exact h
noncomputable def L_smQ (l:List Qy) (i:Nat) :Cfg:=zat B.slices_EqualFunc_Lapi_Query_Lapi_Query_api_Query_api_Query 0 [(1,.sl (zae l)),(2,.fn S.world_SameQuery []),(15,.sl (zae l)),(16,iv ((zae l).length:Nat)),(17,iv (i:Nat))] []
theorem zbU (l:List Qy) (hl:zad l) (hf:∀ x∈l,zac E0 S.world_SameQuery [x.av,x.av] [] (bv true) []) (i:Nat)  (hi:i≤(l).length) (hI:True):(True)∧(decide ((((l).length:Nat):Int) < (((zae l).length:Nat):Int))=false)∧∀ R,Good E0 B.slices_EqualFunc_Lapi_Query_Lapi_Query_api_Query_api_Query [] (L_smQ l (l).length ) R→Good E0 B.slices_EqualFunc_Lapi_Query_Lapi_Query_api_Query_api_Query [] (L_smQ l i ) R:=by
 obtain ⟨kk,hk⟩:∃ kk,i+kk=(l).length:=⟨(l).length - i,by omega⟩
 induction kk generalizing i  hI with
 | zero =>
  have e0:i=(l).length:=by omega
  subst e0
  exact ⟨hI,by simp,fun R hg=>hg⟩
 | succ kk ih =>
  obtain ⟨x,hx⟩:=zax (l:=l) (i:=i) (by omega)
  have h0:decide (((i:Nat):Int) < (((zae l).length:Nat):Int))=true:=by simp;omega
  have hw:IntKind.i64.wrap (((i:Nat):Int)+1)=((i+1:Nat):Int):=zao i zfM
  have hfx:=hf x (List.mem_of_getElem? hx)
  obtain ⟨qZ,xZ,gZ⟩:=ih (i+1) (by omega) zf0 (by omega);exact ⟨qZ,xZ,fun R hg=>zaa (wkl [sb h0,se (zaT hx),se (zaT hx),sc hfx,sb (rfl:false=false),si hw] [1,2,15,16,17] 0 kr (gZ R hg))⟩
theorem zcm (l:List Qy) (hl:zad l) (hf:∀ x∈l,zac E0 S.world_SameQuery [x.av,x.av] [] (bv true) []) (hz:((((zae l).length:Nat):Int) != (((zae l).length:Nat):Int))=false):∃ (r:Bool),r=true∧zac E0 S.slices_EqualFunc_Lapi_Query_Lapi_Query_api_Query_api_Query [.sl (zae l),.sl (zae l),.fn S.world_SameQuery []] [] (bv r) []:=by
 obtain ⟨q1,q1_1,g1⟩:=zbU l zaI zaI 0 zaI zaI
 exact ⟨true,(by rfl),wkc At.slices_EqualFunc_Lapi_Query_Lapi_Query_api_Query_api_Query [sb hz] [1,2,15,16,17] 0 kr (g1 _ (zaa (wkr [sb q1_1] kr)))⟩
theorem zbm (l:List Qy) (hl:zad l) (hf:∀ x∈l,zac E0 S.world_SameQuery [x.av,x.av] [] (bv true) []):zac E0 S.slices_EqualFunc_Lapi_Query_Lapi_Query_api_Query_api_Query [.sl (zae l),.sl (zae l),.fn S.world_SameQuery []] [] (bv true) []:=by
 obtain ⟨r,rfl,h⟩:=zcm l hl hf (by simp)
 exact h
noncomputable def L_smS (l:List Se) (i:Nat) :Cfg:=zat B.slices_EqualFunc_Lapi_Set_Lapi_Set_api_Set_api_Set 0 [(1,.sl (l.map Se.cells)),(2,.fn S.world_sameSet []),(15,.sl (l.map Se.cells)),(16,iv ((l.map Se.cells).length:Nat)),(17,iv (i:Nat))] []
theorem zch (l:List Se) (hl:zad l) (hf:∀ x∈l,zac E0 S.world_sameSet [(.agg x.cells),(.agg x.cells)] [] (bv true) []) (i:Nat)  (hi:i≤(l).length) (hI:True):(True)∧(decide ((((l).length:Nat):Int) < (((l.map Se.cells).length:Nat):Int))=false)∧∀ R,Good E0 B.slices_EqualFunc_Lapi_Set_Lapi_Set_api_Set_api_Set [] (L_smS l (l).length ) R→Good E0 B.slices_EqualFunc_Lapi_Set_Lapi_Set_api_Set_api_Set [] (L_smS l i ) R:=by
 obtain ⟨kk,hk⟩:∃ kk,i+kk=(l).length:=⟨(l).length - i,by omega⟩
 induction kk generalizing i  hI with
 | zero =>
  have e0:i=(l).length:=by omega
  subst e0
  exact ⟨hI,by simp,fun R hg=>hg⟩
 | succ kk ih =>
  obtain ⟨x,hx⟩:=zax (l:=l) (i:=i) (by omega)
  have h0:decide (((i:Nat):Int) < (((l.map Se.cells).length:Nat):Int))=true:=by simp;omega
  have hw:IntKind.i64.wrap (((i:Nat):Int)+1)=((i+1:Nat):Int):=zao i zfM
  have hfx:=hf x (List.mem_of_getElem? hx)
  obtain ⟨qZ,xZ,gZ⟩:=ih (i+1) (by omega) zf0 (by omega);exact ⟨qZ,xZ,fun R hg=>zaa (wkl [sb h0,se (zah Se.cells hx rfl),se (zah Se.cells hx rfl),sc hfx,sb (rfl:false=false),si hw] [1,2,15,16,17] 0 kr (gZ R hg))⟩
theorem zcL (l:List Se) (hl:zad l) (hf:∀ x∈l,zac E0 S.world_sameSet [(.agg x.cells),(.agg x.cells)] [] (bv true) []) (hz:((((l.map Se.cells).length:Nat):Int) != (((l.map Se.cells).length:Nat):Int))=false):∃ (r:Bool),r=true∧zac E0 S.slices_EqualFunc_Lapi_Set_Lapi_Set_api_Set_api_Set [.sl (l.map Se.cells),.sl (l.map Se.cells),.fn S.world_sameSet []] [] (bv r) []:=by
 obtain ⟨q1,q1_1,g1⟩:=zch l zaI zaI 0 zaI zaI
 exact ⟨true,(by rfl),wkc At.slices_EqualFunc_Lapi_Set_Lapi_Set_api_Set_api_Set [sb hz] [1,2,15,16,17] 0 kr (g1 _ (zaa (wkr [sb q1_1] kr)))⟩
theorem zcM (l:List Se) (hl:zad l) (hf:∀ x∈l,zac E0 S.world_sameSet [(.agg x.cells),(.agg x.cells)] [] (bv true) []):zac E0 S.slices_EqualFunc_Lapi_Set_Lapi_Set_api_Set_api_Set [.sl (l.map Se.cells),.sl (l.map Se.cells),.fn S.world_sameSet []] [] (bv true) []:=by
 obtain ⟨r,rfl,h⟩:=zcL l hl hf (by simp)
 exact h
noncomputable def L_smA (l:List Ac) (i:Nat) :Cfg:=zat B.slices_EqualFunc_Lapi_Action_Lapi_Action_api_Action_api_Action 0 [(1,.sl (l.map Ac.cells)),(2,.fn S.world_SameAction []),(15,.sl (l.map Ac.cells)),(16,iv ((l.map Ac.cells).length:Nat)),(17,iv (i:Nat))] []
theorem zbH (l:List Ac) (hl:zad l) (hf:∀ x∈l,zac E0 S.world_SameAction [(.agg x.cells),(.agg x.cells)] [] (bv true) []) (i:Nat)  (hi:i≤(l).length) (hI:True):(True)∧(decide ((((l).length:Nat):Int) < (((l.map Ac.cells).length:Nat):Int))=false)∧∀ R,Good E0 B.slices_EqualFunc_Lapi_Action_Lapi_Action_api_Action_api_Action [] (L_smA l (l).length ) R→Good E0 B.slices_EqualFunc_Lapi_Action_Lapi_Action_api_Action_api_Action [] (L_smA l i ) R:=by
 obtain ⟨kk,hk⟩:∃ kk,i+kk=(l).length:=⟨(l).length - i,by omega⟩
 induction kk generalizing i  hI with
 | zero =>
  have e0:i=(l).length:=by omega
  subst e0
  exact ⟨hI,by simp,fun R hg=>hg⟩
 | succ kk ih =>
  obtain ⟨x,hx⟩:=zax (l:=l) (i:=i) (by omega)
  have h0:decide (((i:Nat):Int) < (((l.map Ac.cells).length:Nat):Int))=true:=by simp;omega
  have hw:IntKind.i64.wrap (((i:Nat):Int)+1)=((i+1:Nat):Int):=zao i zfM
  have hfx:=hf x (List.mem_of_getElem? hx)
  obtain ⟨qZ,xZ,gZ⟩:=ih (i+1) (by omega) zf0 (by omega);exact ⟨qZ,xZ,fun R hg=>zaa (wkl [sb h0,se (zah Ac.cells hx rfl),se (zah Ac.cells hx rfl),sc hfx,sb (rfl:false=false),si hw] [1,2,15,16,17] 0 kr (gZ R hg))⟩
theorem zb7 (l:List Ac) (hl:zad l) (hf:∀ x∈l,zac E0 S.world_SameAction [(.agg x.cells),(.agg x.cells)] [] (bv true) []) (hz:((((l.map Ac.cells).length:Nat):Int) != (((l.map Ac.cells).length:Nat):Int))=false):∃ (r:Bool),r=true∧zac E0 S.slices_EqualFunc_Lapi_Action_Lapi_Action_api_Action_api_Action [.sl (l.map Ac.cells),.sl (l.map Ac.cells),.fn S.world_SameAction []] [] (bv r) []:=by
 obtain ⟨q1,q1_1,g1⟩:=zbH l zaI zaI 0 zaI zaI
 exact ⟨true,(by rfl),wkc At.slices_EqualFunc_Lapi_Action_Lapi_Action_api_Action_api_Action [sb hz] [1,2,15,16,17] 0 kr (g1 _ (zaa (wkr [sb q1_1] kr)))⟩
theorem zb8 (l:List Ac) (hl:zad l) (hf:∀ x∈l,zac E0 S.world_SameAction [(.agg x.cells),(.agg x.cells)] [] (bv true) []):zac E0 S.slices_EqualFunc_Lapi_Action_Lapi_Action_api_Action_api_Action [.sl (l.map Ac.cells),.sl (l.map Ac.cells),.fn S.world_SameAction []] [] (bv true) []:=by
 obtain ⟨r,rfl,h⟩:=zb7 l hl hf (by simp)
 exact h
noncomputable def L_smT (l:List Tg) (i:Nat) :Cfg:=zat B.slices_EqualFunc_Lapi_Trigger_Lapi_Trigger_api_Trigger_api_Trigger 0 [(1,.sl (l.map Tg.cells)),(2,.fn S.world_SameTrigger []),(15,.sl (l.map Tg.cells)),(16,iv ((l.map Tg.cells).length:Nat)),(17,iv (i:Nat))] []
theorem zbA (l:List Tg) (hl:zad l) (hf:∀ x∈l,zac E0 S.world_SameTrigger [x.av,x.av] [] (bv true) []) (i:Nat)  (hi:i≤(l).length) (hI:True):(True)∧(decide ((((l).length:Nat):Int) < (((l.map Tg.cells).length:Nat):Int))=false)∧∀ R,Good E0 B.slices_EqualFunc_Lapi_Trigger_Lapi_Trigger_api_Trigger_api_Trigger [] (L_smT l (l).length ) R→Good E0 B.slices_EqualFunc_Lapi_Trigger_Lapi_Trigger_api_Trigger_api_Trigger [] (L_smT l i ) R:=by
 obtain ⟨kk,hk⟩:∃ kk,i+kk=(l).length:=⟨(l).length - i,by omega⟩
 induction kk generalizing i  hI with
 | zero =>
  have e0:i=(l).length:=by omega
  subst e0
  exact ⟨hI,by simp,fun R hg=>hg⟩
 | succ kk ih =>
  obtain ⟨x,hx⟩:=zax (l:=l) (i:=i) (by omega)
  have h0:decide (((i:Nat):Int) < (((l.map Tg.cells).length:Nat):Int))=true:=by simp;omega
  have hw:IntKind.i64.wrap (((i:Nat):Int)+1)=((i+1:Nat):Int):=zao i zfM
  have hfx:=hf x (List.mem_of_getElem? hx)
  obtain ⟨qZ,xZ,gZ⟩:=ih (i+1) (by omega) zf0 (by omega);exact ⟨qZ,xZ,fun R hg=>zaa (wkl [sb h0,se (zah Tg.cells hx rfl),se (zah Tg.cells hx rfl),sc hfx,sb (rfl:false=false),si hw] [1,2,15,16,17] 0 kr (gZ R hg))⟩
theorem zbW (l:List Tg) (hl:zad l) (hf:∀ x∈l,zac E0 S.world_SameTrigger [x.av,x.av] [] (bv true) []) (hz:((((l.map Tg.cells).length:Nat):Int) != (((l.map Tg.cells).length:Nat):Int))=false):∃ (r:Bool),r=true∧zac E0 S.slices_EqualFunc_Lapi_Trigger_Lapi_Trigger_api_Trigger_api_Trigger [.sl (l.map Tg.cells),.sl (l.map Tg.cells),.fn S.world_SameTrigger []] [] (bv r) []:=by
 obtain ⟨q1,q1_1,g1⟩:=zbA l zaI zaI 0 zaI zaI
 exact ⟨true,(by rfl),wkc At.slices_EqualFunc_Lapi_Trigger_Lapi_Trigger_api_Trigger_api_Trigger [sb hz] [1,2,15,16,17] 0 kr (g1 _ (zaa (wkr [sb q1_1] kr)))⟩
theorem zbX (l:List Tg) (hl:zad l) (hf:∀ x∈l,zac E0 S.world_SameTrigger [x.av,x.av] [] (bv true) []):zac E0 S.slices_EqualFunc_Lapi_Trigger_Lapi_Trigger_api_Trigger_api_Trigger [.sl (l.map Tg.cells),.sl (l.map Tg.cells),.fn S.world_SameTrigger []] [] (bv true) []:=by
 obtain ⟨r,rfl,h⟩:=zbW l hl hf (by simp)
 exact h
noncomputable def L_smR (l:List (List X)) (i:Nat) :Cfg:=zat B.slices_EqualFunc_LLapi_Expr_LLapi_Expr_Lapi_Expr_Lapi_Expr 0 [(1,.sl (l.map fun r=>[xsl r])),(2,.fn S.world_sameExprs []),(15,.sl (l.map fun r=>[xsl r])),(16,iv ((l.map fun r=>[xsl r]).length:Nat)),(17,iv (i:Nat))] []
theorem zbS (l:List (List X)) (hl:zad l) (hf:∀ x∈l,zac E0 S.world_sameExprs [(xsl x),(xsl x)] [] (bv true) []) (i:Nat)  (hi:i≤(l).length) (hI:True):(True)∧(decide ((((l).length:Nat):Int) < (((l.map fun r=>[xsl r]).length:Nat):Int))=false)∧∀ R,Good E0 B.slices_EqualFunc_LLapi_Expr_LLapi_Expr_Lapi_Expr_Lapi_Expr [] (L_smR l (l).length ) R→Good E0 B.slices_EqualFunc_LLapi_Expr_LLapi_Expr_Lapi_Expr_Lapi_Expr [] (L_smR l i ) R:=by
 obtain ⟨kk,hk⟩:∃ kk,i+kk=(l).length:=⟨(l).length - i,by omega⟩
 induction kk generalizing i  hI with
 | zero =>
  have e0:i=(l).length:=by omega
  subst e0
  exact ⟨hI,by simp,fun R hg=>hg⟩
 | succ kk ih =>
  obtain ⟨x,hx⟩:=zax (l:=l) (i:=i) (by omega)
  have h0:decide (((i:Nat):Int) < (((l.map fun r=>[xsl r]).length:Nat):Int))=true:=by simp;omega
  have hw:IntKind.i64.wrap (((i:Nat):Int)+1)=((i+1:Nat):Int):=zao i zfM
  have hfx:=hf x (List.mem_of_getElem? hx)
  obtain ⟨qZ,xZ,gZ⟩:=ih (i+1) (by omega) zf0 (by omega);exact ⟨qZ,xZ,fun R hg=>zaa (wkl [sb h0,se (zah (fun r=>[xsl r]) hx rfl),se (zah (fun r=>[xsl r]) hx rfl),sc hfx,sb (rfl:false=false),si hw] [1,2,15,16,17] 0 kr (gZ R hg))⟩
theorem zcl (l:List (List X)) (hl:zad l) (hf:∀ x∈l,zac E0 S.world_sameExprs [(xsl x),(xsl x)] [] (bv true) []) (hz:((((l.map fun r=>[xsl r]).length:Nat):Int) != (((l.map fun r=>[xsl r]).length:Nat):Int))=false):∃ (r:Bool),r=true∧zac E0 S.slices_EqualFunc_LLapi_Expr_LLapi_Expr_Lapi_Expr_Lapi_Expr [.sl (l.map fun r=>[xsl r]),.sl (l.map fun r=>[xsl r]),.fn S.world_sameExprs []] [] (bv r) []:=by
 obtain ⟨q1,q1_1,g1⟩:=zbS l zaI zaI 0 zaI zaI
 exact ⟨true,(by rfl),wkc At.slices_EqualFunc_LLapi_Expr_LLapi_Expr_Lapi_Expr_Lapi_Expr [sb hz] [1,2,15,16,17] 0 kr (g1 _ (zaa (wkr [sb q1_1] kr)))⟩
theorem zcj (l:List (List X)) (hl:zad l) (hf:∀ x∈l,zac E0 S.world_sameExprs [(xsl x),(xsl x)] [] (bv true) []):zac E0 S.slices_EqualFunc_LLapi_Expr_LLapi_Expr_Lapi_Expr_Lapi_Expr [.sl (l.map fun r=>[xsl r]),.sl (l.map fun r=>[xsl r]),.fn S.world_sameExprs []] [] (bv true) []:=by
 obtain ⟨r,rfl,h⟩:=zcl l hl hf (by simp)
 exact h
noncomputable def L_eqS (l:List Str) (i:Nat) :Cfg:=zat B.slices_Equal_string 0 [(0,ssl l),(1,ssl l),(12,iv ((l.map fun s=>[sv s]).length:Nat)),(13,iv (i:Nat))] []
theorem zeA (l:List Str) (hl:zad l) (i:Nat)  (hi:i≤(l).length) (hI:True):(True)∧(decide ((((l).length:Nat):Int) < (((l.map fun s=>[sv s]).length:Nat):Int))=false)∧∀ R,Good E0 B.slices_Equal_string [] (L_eqS l (l).length ) R→Good E0 B.slices_Equal_string [] (L_eqS l i ) R:=by
 obtain ⟨kk,hk⟩:∃ kk,i+kk=(l).length:=⟨(l).length - i,by omega⟩
 induction kk generalizing i  hI with
 | zero =>
  have e0:i=(l).length:=by omega
  subst e0
  exact ⟨hI,by simp,fun R hg=>hg⟩
 | succ kk ih =>
  obtain ⟨x,hx⟩:=zax (l:=l) (i:=i) (by omega)
  have h0:decide (((i:Nat):Int) < (((l.map fun s=>[sv s]).length:Nat):Int))=true:=by simp;omega
  have hw:IntKind.i64.wrap (((i:Nat):Int)+1)=((i+1:Nat):Int):=zao i zfM
  have hq:(x.toList==x.toList)=true:=by simp
  cases h1:!ByteArray.toList x==ByteArray.toList x
  ·obtain ⟨qZ,xZ,gZ⟩:=ih (i+1) (by omega) zf0 (by omega);exact ⟨qZ,xZ,fun R hg=>zaa (wkl [sb h0,sd [(2,[se (zah (fun s=>[sv s]) hx rfl)]),(6,[se (zah (fun s=>[sv s]) hx rfl)])],sb h1,si hw] [0,1,12,13] 0 kr (gZ R hg))⟩
  ·exact False.elim (by simp at *)
theorem zig (l:List Str) (hl:zad l) (hz:((((l.map fun s=>[sv s]).length:Nat):Int) != (((l.map fun s=>[sv s]).length:Nat):Int))=false):∃ (r:Bool),r=true∧zac E0 S.slices_Equal_string [ssl l,ssl l] [] (bv r) []:=by
 obtain ⟨q1,q1_1,g1⟩:=zeA l zaI 0 zaI zaI
 exact ⟨true,(by rfl),wkc At.slices_Equal_string [sb hz] [0,1,12,13] 0 kr (g1 _ (zaa (wkr [sb q1_1] kr)))⟩
theorem zdq (l:List Str) (hl:zad l):zac E0 S.slices_Equal_string [ssl l,ssl l] [] (bv true) []:=by
 obtain ⟨r,rfl,h⟩:=zig l hl (by simp)
 exact h
theorem zrC:StructEq E0.P Ty.Rank [.str,.str,.int .i64,.int .i64] :=
 znl E0ok (fs:=E0.P.fieldsOf Ty.Rank) kr kr kr kr
noncomputable def L_eqR (l:List Rk) (i:Nat) :Cfg:=zat B.slices_Equal_Rank 0 [(0,.sl (l.map Rk.cells)),(1,.sl (l.map Rk.cells)),(12,iv ((l.map Rk.cells).length:Nat)),(13,iv (i:Nat))] []
theorem zfi (l:List Rk) (hl:zad l) (i:Nat)  (hi:i≤(l).length) (hI:True):(True)∧(decide ((((l).length:Nat):Int) < (((l.map Rk.cells).length:Nat):Int))=false)∧∀ R,Good E0 B.slices_Equal_Rank [] (L_eqR l (l).length ) R→Good E0 B.slices_Equal_Rank [] (L_eqR l i ) R:=by
 obtain ⟨kk,hk⟩:∃ kk,i+kk=(l).length:=⟨(l).length - i,by omega⟩
 induction kk generalizing i  hI with
 | zero =>
  have e0:i=(l).length:=by omega
  subst e0
  exact ⟨hI,by simp,fun R hg=>hg⟩
 | succ kk ih =>
  obtain ⟨x,hx⟩:=zax (l:=l) (i:=i) (by omega)
  have h0:decide (((i:Nat):Int) < (((l.map Rk.cells).length:Nat):Int))=true:=by simp;omega
  have hw:IntKind.i64.wrap (((i:Nat):Int)+1)=((i+1:Nat):Int):=zao i zfM
  cases h1:!(x.table==x.table&&(x.col==x.col&&(x.low==x.low&&(x.high==x.high&&true))))
  ·obtain ⟨qZ,xZ,gZ⟩:=ih (i+1) (by omega) zf0 (by omega);exact ⟨qZ,xZ,fun R hg=>zaa (wkl [sb h0,sd [(2,[se (zah Rk.cells hx rfl)]),(6,[se (zah Rk.cells hx rfl)]),(8,[sq zrC])],sb h1,si hw] [0,1,12,13] 0 kr (gZ R hg))⟩
  ·exact False.elim (by simp at *)
theorem zjj (l:List Rk) (hl:zad l) (hz:((((l.map Rk.cells).length:Nat):Int) != (((l.map Rk.cells).length:Nat):Int))=false):∃ (r:Bool),r=true∧zac E0 S.slices_Equal_Rank [.sl (l.map Rk.cells),.sl (l.map Rk.cells)] [] (bv r) []:=by
 obtain ⟨q1,q1_1,g1⟩:=zfi l zaI 0 zaI zaI
 exact ⟨true,(by rfl),wkc At.slices_Equal_Rank [sb hz] [0,1,12,13] 0 kr (g1 _ (zaa (wkr [sb q1_1] kr)))⟩
theorem zjf (l:List Rk) (hl:zad l):zac E0 S.slices_Equal_Rank [.sl (l.map Rk.cells),.sl (l.map Rk.cells)] [] (bv true) []:=by
 obtain ⟨r,rfl,h⟩:=zjj l hl (by simp)
 exact h
theorem zkZ (e:X) (hA0:(e.kind==e.kind)=true) (hA1:(e.op==e.op)=true) (hA2:(e.not==e.not)=true) (hA3:(e.val.kind==e.val.kind&&(e.val.int==e.val.int&&(e.val.text==e.val.text&&true)))=true) (hA4:(e.table.toList==e.table.toList)=true) (hA5:(e.name.toList==e.name.toList)=true) (ha:zad e.args) (hs:zad e.sub) (hf:∀ x∈e.args,zac E0 S.world_SameExpr [x.av,x.av] [] (bv true) []) (hg:∀ x∈e.sub,zac E0 S.world_SameQuery [x.av,x.av] [] (bv true) []):∃ (r:Bool),r=true∧zac E0 S.world_SameExpr [e.av,e.av] [] (bv r) []:=by
 exact ⟨true,(by rfl),wk At.world_SameExpr [sg hA0,sg hA1,sg hA2,sq zaP,sg hA3,sg hA4,sg hA5,sc (zaV e.args zaI zaI),sg (rfl:true=true),sc (zbm e.sub zaI zaI)] kr⟩
theorem zgb (q:Qy) (hA0:(q.star==q.star)=true) (hA1:(q.frm.toList==q.frm.toList)=true) (ha:zad q.items) (hs:zad q.wh) (hf:∀ x∈q.items,zac E0 S.world_SameExpr [x.av,x.av] [] (bv true) []) (hg:∀ x∈q.wh,zac E0 S.world_SameExpr [x.av,x.av] [] (bv true) []):∃ (r:Bool),r=true∧zac E0 S.world_SameQuery [q.av,q.av] [] (bv r) []:=by
 exact ⟨true,(by rfl),wk At.world_SameQuery [sg hA0,sc (zaV q.items zaI zaI),sg (rfl:true=true),sg hA1,sc (zaV q.wh zaI zaI)] kr⟩
theorem zby:∀ (n:Nat) (e:X),XSh n e→zac E0 S.world_SameExpr [e.av,e.av] [] (bv true) []
 | 0,_,h=>h.elim
 | n+1,e,h=>by
  obtain ⟨h2,h3,h4⟩:=h
  obtain ⟨r,rfl,hr⟩:=zkZ e (by simp) (by simp) (by simp) (by simp) (by simp) (by simp) h2.1 h2.2 (fun x hx=>zby n x (h3 x hx)) (fun q hq=>by
   obtain ⟨r,rfl,hr⟩:=zgb q (by simp) (by simp) (h4 q hq).1.1 (h4 q hq).1.2 (fun x hx=>zby n x ((h4 q hq).2.1 x hx)) (fun x hx=>zby n x ((h4 q hq).2.2 x hx))
   exact hr)
  exact hr
theorem zkA (n:Nat) (q:Qy) (h:QSh n q):zac E0 S.world_SameQuery [q.av,q.av] [] (bv true) []:=by
 obtain ⟨r,rfl,hr⟩:=zgb q (by simp) (by simp) h.items h.wh (fun x hx=>zby n x (h.hi x hx)) (fun x hx=>zby n x (h.hw x hx))
 exact hr
theorem zky (l:List X) (hl:zad l) (hf:∀ x∈l,zac E0 S.world_SameExpr [x.av,x.av] [] (bv true) []):∃ (r:Bool),r=true∧zac E0 S.world_sameExprs [xsl l,xsl l] [] (bv r) []:=by
 exact ⟨true,(by rfl),wk At.world_sameExprs [sc (zaV l zaI zaI)] kr⟩
theorem zd5 (l:List X) (hl:zad l) (hf:∀ x∈l,zac E0 S.world_SameExpr [x.av,x.av] [] (bv true) []):zac E0 S.world_sameExprs [xsl l,xsl l] [] (bv true) []:=by
 obtain ⟨r,rfl,h⟩:=zky l hl hf
 exact h
theorem zli (s:Se) (hA0:(s.col.toList==s.col.toList)=true) (hf:zac E0 S.world_SameExpr [s.ex.av,s.ex.av] [] (bv true) []):∃ (r:Bool),r=true∧zac E0 S.world_sameSet [.agg s.cells,.agg s.cells] [] (bv r) []:=by
 exact ⟨true,(by rfl),wk At.world_sameSet [sg hA0,sc hf] kr⟩
theorem zjT (a:Ac) (hA0:(a.kind==a.kind)=true) (hA1:(a.table.toList==a.table.toList)=true) (hA2:(a.text.toList==a.text.toList)=true) (h1:zad a.rows) (h2:zad a.query) (h3:zad a.sets) (h4:zad a.wh) (f1:∀ x∈a.rows,zac E0 S.world_sameExprs [xsl x,xsl x] [] (bv true) []) (f2:∀ x∈a.query,zac E0 S.world_SameQuery [x.av,x.av] [] (bv true) []) (f3:∀ x∈a.sets,zac E0 S.world_sameSet [.agg x.cells,.agg x.cells] [] (bv true) []) (f0:zac E0 S.world_sameExprs [xsl a.wh,xsl a.wh] [] (bv true) []):∃ (r:Bool),r=true∧zac E0 S.world_SameAction [.agg a.cells,.agg a.cells] [] (bv r) []:=by
 exact ⟨ByteArray.toList a.text==ByteArray.toList a.text,(by first|rfl|assumption),wk At.world_SameAction [sg hA0,sg hA1,sc (zcj a.rows zaI zaI),sg (rfl:true=true),sc (zbm a.query zaI zaI),sg (rfl:true=true),sc (zcM a.sets zaI zaI),sg (rfl:true=true),sc f0,sg (rfl:true=true)] kr⟩
theorem zjl (t:Tg) (hA0:(!(t.name.toList==t.name.toList))=false) (hA1:(!(t.table.toList==t.table.toList))=false) (hA2:(t.before != t.before)=false) (hA3:(t.event != t.event)=false) (hA4:(t.each != t.each)=false) (h1:zad t.of) (h2:zad t.prec) (h3:zad t.foll) (h4:zad t.rank) (h5:zad t.when_) (h6:zad t.acts) (f1:∀ x∈t.when_,zac E0 S.world_SameExpr [x.av,x.av] [] (bv true) []) (f2:∀ x∈t.acts,zac E0 S.world_SameAction [.agg x.cells,.agg x.cells] [] (bv true) []):∃ (r:Bool),r=true∧zac E0 S.world_SameTrigger [t.av,t.av] [] (bv r) []:=by
 exact ⟨true,(by rfl),wk At.world_SameTrigger [sg hA0,sg hA1,sg hA2,sg hA3,sb hA4,sc (zdq t.of zaI),sg (rfl:true=true),sc (zdq t.prec zaI),sg (rfl:true=true),sc (zdq t.foll zaI),sg (rfl:true=true),sc (zjf t.rank zaI),sg (rfl:true=true),sc (zd5 t.when_ zaI zaI),sg (rfl:true=true),sc (zb8 t.acts zaI zaI)] kr⟩
theorem zjC (n:Nat) (a:Ac) (h:AcSh n a):zac E0 S.world_SameAction [.agg a.cells,.agg a.cells] [] (bv true) []:=by
 obtain ⟨r,rfl,hr⟩:=zjT a (by simp) (by simp) (by simp) h.rows h.query h.sets h.wh
  (fun r hr=>zd5 r (h.row r hr).1 fun x hx=>zby n x ((h.row r hr).2 x hx)) (fun q hq=>zkA n q (h.qs q hq))
  (fun s hs=>by
   obtain ⟨r,rfl,hr⟩:=zli s (by simp) (zby n s.ex (h.set s hs))
   exact hr) (zd5 a.wh h.wh fun x hx=>zby n x (h.w x hx))
 exact hr
theorem zjd (n:Nat) (t:Tg) (h:TgSh n t):zac E0 S.world_SameTrigger [t.av,t.av] [] (bv true) []:=by
 obtain ⟨r,rfl,hr⟩:=zjl t (by simp) (by simp) (by simp) (by simp) (by simp) h.of h.prec h.foll h.rank h.whens h.acts (fun x hx=>zby n x (h.when_ x hx)) fun a ha=>zjC n a (h.act a ha)
 exact hr
theorem ziO (l:List Tg) (hl:zad l) (hf:∀ x∈l,zac E0 S.world_SameTrigger [x.av,x.av] [] (bv true) []):∃ (r:Bool),r=true∧zac E0 S.world_SameTriggers [.sl (l.map Tg.cells),.sl (l.map Tg.cells)] [] (bv r) []:=by
 exact ⟨true,(by rfl),wk At.world_SameTriggers [sc (zbX l zaI zaI)] kr⟩
theorem zmI (n:Nat) (l:List Tg) (hl:zad l) (h:∀ t∈l,TgSh n t):zac E0 S.world_SameTriggers [.sl (l.map Tg.cells),.sl (l.map Tg.cells)] [] (bv true) []:=by
 obtain ⟨r,rfl,hr⟩:=ziO l hl fun t ht=>zjd n t (h t ht)
 exact hr
theorem zeU (n:Nat) (l:List Tg) (p:Tg→Bool) (hl:zad l) (h:∀ t∈l,TgSh n t):zac E0 S.world_SameTriggers [.sl ((l.filter p).map Tg.cells),.sl ((l.filter p).map Tg.cells)] [] (bv true) [] :=
 zmI n (l.filter p) (Nat.le_trans (List.length_filter_le _ _) hl) fun t ht=>h t (List.mem_filter.1 ht).1
end Go.AM
namespace Go.AM
set_option maxRecDepth 100000
set_option maxHeartbeats 1000000
set_option linter.unusedSimpArgs false
set_option linter.unusedVariables false
theorem zfV {p:Prop} (h:p:=by first|exact zjN hI hx (ap1 (by assumption))|exact zjN hI hx (ap2 (by assumption) (by assumption))|exact zjN hI hx (ap3 (by assumption) (by assumption) (by assumption))|exact zjN hI hx (ap4 (by assumption) (by assumption) (by assumption) (by assumption))|exact raKeep hI hx ((ap5 (by assumption) (by assumption) (by assumption) (by assumption) (by assumption)).trans (by assumption))|exact zjN hI hx ((ap5 (by assumption) (by assumption) (by assumption) (by assumption) (by assumption)).trans (by assumption))):p:=h
theorem zfN {p:Prop} (h:p:=by first|assumption|(simp [zgp, *];done)|omega|(simp;done)):p:=h
theorem zih {p:Prop} (h:p:=by first|assumption|omega|(simp;done)|(simp;omega)):p:=h
def hasR (l:List Str) (s:Str):Bool:=l.any fun u=>s.toList==u.toList
theorem znL (l:List Str) (v:Str):∀ (r:List Str) (i:Nat),decide ((0:Int)≤stIx l v r i)=hasR r v
 | [],_=>rfl
 | x::r,i=>by
  have ih:=znL l v r (i+1)
  simp only [stIx,hasR,List.any_cons] at ih ⊢
  by_cases hc:(v.toList==x.toList)=true
  ·simp only [hc,cond_true,Bool.true_or];simp
  ·simp only [Bool.not_eq_true] at hc;simp only [hc,cond_false,Bool.false_or];exact ih
theorem znk (l s:List Str):∀ (r:List Str) (i:Nat),decide ((0:Int)≤ofIx l s r i)=r.any (hasR s)
 | [],_=>rfl
 | x::r,i=>by
  have ih:=znk l s r (i+1)
  have h:hasC x s=hasR s x:=znL s x s 0
  simp only [ofIx,List.any_cons,h] at ih ⊢
  by_cases hc:hasR s x=true
  ·simp only [hc,cond_true,Bool.true_or];simp
  ·simp only [Bool.not_eq_true] at hc;simp only [hc,cond_false,Bool.false_or];exact ih
theorem zqz (l s:List Str):zm3 l s=l.any (hasR s):=znk l s l 0
def zgp (ev:Int) (t:Tg):Bool:=bif ev != 2 then true else (((t.of.map fun s=>[sv s]).length:Nat):Int)==0
section
variable {table : Str} {ev : Int} {asg : List Str} {each : Bool} {t : Tg}
theorem ap1 (h:(!t.before)=true):appl table ev asg each t=false:=by simp [appl,h]
theorem ap2 (h1:(!t.before)=false) (h:(!t.table.toList==table.toList)=true):appl table ev asg each t=false:=by simp [appl,h1,h]
theorem ap3 (h1:(!t.before)=false) (h2:(!t.table.toList==table.toList)=false) (h:(t.event != ev)=true):appl table ev asg each t=false:=by simp [appl,h1,h2,h]
theorem ap4 (h1:(!t.before)=false) (h2:(!t.table.toList==table.toList)=false) (h3:(t.event != ev)=false) (h:(!t.each==each)=true):appl table ev asg each t=false:=by simp [appl,h1,h2,h3,h]
theorem ap5 (h1:(!t.before)=false) (h2:(!t.table.toList==table.toList)=false) (h3:(t.event != ev)=false) (h4:(!t.each==each)=false) {y:Bool} (hy:y=(zgp ev t || (t.of.take t.of.length).any (hasR asg))):appl table ev asg each t=y:=by
 rw [hy,List.take_length]
 simp only [appl,h1,h2,h3,h4,cond_false,zqz,zgp]
 cases ev != 2
 ·simp only [cond_false]
  cases h5:((((t.of.map fun s=>[sv s]).length:Nat):Int)==0) <;> simp
 ·simp
end
theorem zjN {ts out:List Tg} {p:Tg→Bool} {i:Nat} {x:Tg} (hI:out=(ts.take i).filter p) (hx:ts[i]?=some x) (hp:p x=false):out=(ts.take (i+1)).filter p:=by
 rw [List.take_add_one,hx,List.filter_append,← hI];simp [hp]
theorem raKeep {ts out:List Tg} {p:Tg→Bool} {i:Nat} {x:Tg} (hI:out=(ts.take i).filter p) (hx:ts[i]?=some x) (hp:p x=true):out++[x]=(ts.take (i+1)).filter p:=by
 rw [List.take_add_one,hx,List.filter_append,← hI];simp [hp]
theorem zsj {l:List Str} {s x:Str} {i:Nat} (h:hasR (l.take i) s=false) (hx:l[i]?=some x) (hn:(x.toList==s.toList)=false):hasR (l.take (i+1)) s=false:=by
 have h2:(s.toList==x.toList)=false:=by
  rw [Bool.eq_false_iff] at hn ⊢
  intro h3
  simp only [beq_iff_eq] at h3
  simp [h3] at hn
 rw [List.take_add_one,hx]
 simp only [hasR,List.any_append,Option.toList_some,List.any_cons,List.any_nil,h2] at h ⊢
 simp [h]
theorem zsd {l:List Str} {s x:Str} {i:Nat} (hx:l[i]?=some x) (hn:(x.toList==s.toList)=true):true=hasR l s:=by
 symm
 simp only [hasR,List.any_eq_true]
 exact ⟨x,List.mem_of_getElem? hx,by simp only [beq_iff_eq] at hn ⊢;exact hn.symm⟩
noncomputable def L_ha (l:List Str) (s:Str) (i:Nat) :Cfg:=zat B.ref20_Has 0 [(1,sv s),(7,ssl l),(8,iv ((l.map fun s=>[sv s]).length:Nat)),(9,iv (i:Nat))] []
theorem ziS (l:List Str) (s:Str) (hl:zad l) (i:Nat)  (hi:i≤(l).length) (hI:hasR (l.take i) s=false):((hasR (l.take (l).length) s=false)∧(decide ((((l).length:Nat):Int) < (((l.map fun s=>[sv s]).length:Nat):Int))=false)∧∀ R,Good E0 B.ref20_Has [] (L_ha l s (l).length ) R→Good E0 B.ref20_Has [] (L_ha l s i ) R)∨(∃ (r:Bool),r=hasR l s∧Good E0 B.ref20_Has [] (L_ha l s i ) (Shut 0 fun rZ hZ=>rZ=(bv r)∧hZ=[])):=by
 obtain ⟨kk,hk⟩:∃ kk,i+kk=(l).length:=⟨(l).length - i,by omega⟩
 induction kk generalizing i  with
 | zero =>
  have e0:i=(l).length:=by omega
  subst e0
  exact .inl ⟨hI,by simp,fun R hg=>hg⟩
 | succ kk ih =>
  obtain ⟨x,hx⟩:=zax (l:=l) (i:=i) (by omega)
  have h0:decide (((i:Nat):Int) < (((l.map fun s=>[sv s]).length:Nat):Int))=true:=by simp;omega
  have hw:IntKind.i64.wrap (((i:Nat):Int)+1)=((i+1:Nat):Int):=zao i (by first|omega|(simp only [zad,Few] at *;omega))
  let p_1:List St:=[sb h0,se (zah (fun s=>[sv s]) hx rfl)]
  cases h1:ByteArray.toList x==ByteArray.toList s
  ·exact (ih (i+1) (by omega) (by exact zsj hI hx (by assumption)) (by omega)).elim (fun ⟨qZ,xZ,gZ⟩=>.inl ⟨qZ,xZ,fun R hg=>zaa (wkl (p_1++[sb h1,si hw]) [1,7,8,9] 0 kr (gZ R hg))⟩) (fun ⟨rY,pZ,gZ⟩=>.inr ⟨rY,pZ,zaa (wkl [sb h0,se (zah (fun s=>[sv s]) hx rfl),sb h1,si hw] [1,7,8,9] 0 kr gZ)⟩)
  ·exact .inr ⟨true,(by first|exact zsd hx (by assumption)|assumption),zaa (wkr (p_1++[sb h1]) kr)⟩
theorem zot (l:List Str) (s:Str) (hl:zad l):∃ (r:Bool),r=hasR l s∧zac E0 S.ref20_Has [ssl l,sv s] [] (bv r) []:=by
 rcases ziS l s (by first|assumption|(simp [hasR];done)|(simp;done)|omega) 0 (by first|assumption|(simp [hasR];done)|(simp;done)|omega) (by first|assumption|(simp [hasR];done)|(simp;done)|omega) with ⟨q1,q1_1,g1⟩|⟨r1_0,p1_0,g1⟩
 ·exact ⟨false,(by first|assumption|(rw [List.take_length] at *;exact Eq.symm (by assumption))),wkc At.ref20_Has [] [1,7,8,9] 0 kr (g1 _ (zaa (wkr [sb q1_1] kr)))⟩
 ·exact ⟨r1_0,(by first|assumption|(rw [List.take_length] at *;exact Eq.symm (by assumption))),wkc At.ref20_Has [] [1,7,8,9] 0 kr (g1)⟩
theorem zo9 {z:Tg} {ev:Int} {asg:List Str} {i:Nat} {x:Str} {y r:Bool} (h:y=(zgp ev z || (z.of.take i).any (hasR asg))) (hx:z.of[i]?=some x) (hr:r=hasR asg x) (hy:y=false):r=(zgp ev z || (z.of.take (i+1)).any (hasR asg)):=by
 rw [List.take_add_one,hx,List.any_append,← Bool.or_assoc,← h,hy,hr]
 simp
theorem zpc {z:Tg} {ev:Int} {asg:List Str} {i:Nat} {x:Str} {y:Bool} (h:y=(zgp ev z || (z.of.take i).any (hasR asg))) (hx:z.of[i]?=some x) (hy:y=true):true=(zgp ev z || (z.of.take (i+1)).any (hasR asg)):=by
 rw [List.take_add_one,hx,List.any_append,← Bool.or_assoc,← h,hy]
 simp
noncomputable def L_raI (ts:List Tg) (table:Str) (ev:Int) (asg:List Str) (each:Bool) (io:Nat) (out:List Tg) (z:Tg) (i:Nat) (y:Bool):Cfg:=zat B.ref20_Applicable 1 [(1,sv table),(2,iv ev),(3,ssl asg),(4,bv each),(11,.own 0 out.length),(13,.p 1 0),(14,bv y),(17,.sl (ts.map Tg.cells)),(18,iv ((ts.map Tg.cells).length:Nat)),(19,iv (io:Nat)),(53,ssl z.of),(54,iv ((z.of.map fun s=>[sv s]).length:Nat)),(55,iv (i:Nat))] [.row Ty.Trigger (out.map Tg.cells) false,.box z.cells]
theorem zds (ts:List Tg) (table:Str) (ev:Int) (asg:List Str) (each:Bool) (io:Nat) (out:List Tg) (z:Tg) (hs:zad asg) (hof:zad z.of) (i:Nat) (y:Bool) (hi:i≤(z.of).length) (hI:y=(zgp ev z || (z.of.take i).any (hasR asg))):∃ (y':Bool),(y'=(zgp ev z || (z.of.take (z.of).length).any (hasR asg)))∧(decide ((((z.of).length:Nat):Int) < (((z.of.map fun s=>[sv s]).length:Nat):Int))=false)∧∀ R,Good E0 B.ref20_Applicable [] (L_raI ts table ev asg each io out z (z.of).length y') R→Good E0 B.ref20_Applicable [] (L_raI ts table ev asg each io out z i y) R:=by
 obtain ⟨kk,hk⟩:∃ kk,i+kk=(z.of).length:=⟨(z.of).length - i,by omega⟩
 induction kk generalizing i y with
 | zero =>
  have e0:i=(z.of).length:=by omega
  subst e0
  exact ⟨y,hI,by simp,fun R hg=>hg⟩
 | succ kk ih =>
  obtain ⟨x,hx⟩:=zax (l:=z.of) (i:=i) (by omega)
  have h0:decide (((i:Nat):Int) < (((z.of.map fun s=>[sv s]).length:Nat):Int))=true:=by simp;omega
  have hw:IntKind.i64.wrap (((i:Nat):Int)+1)=((i+1:Nat):Int):=zao i (by first|omega|(simp only [zad,Few] at *;omega))
  let p_1:List St:=[sb h0,se (zah (fun s=>[sv s]) hx rfl)]
  rcases (Bool.eq_false_or_eq_true y).symm with h1|h1
  ·obtain ⟨r2,q2,c2⟩:=(zot asg x zih)
   obtain ⟨yZ,qZ,xZ,gZ⟩:=ih (i+1) r2 (by omega) (by first|exact zo9 hI hx (by assumption) (by assumption)|exact zpc hI hx (by assumption)) (by omega);exact ⟨yZ,qZ,xZ,fun R hg=>zaa (wkl (p_1++[sg h1,sc c2,si hw]) [1,2,3,4,11,13,14,17,18,19,53,54,55] 2 kr (gZ R hg))⟩
  ·obtain ⟨yZ,qZ,xZ,gZ⟩:=ih (i+1) true (by omega) (by first|exact zo9 hI hx (by assumption) (by assumption)|exact zpc hI hx (by assumption)) (by omega);exact ⟨yZ,qZ,xZ,fun R hg=>zaa (wklN (p_1++[sb h1,si hw]) [1,2,3,4,11,13,14,17,18,19,53,54,55] 2 [(.bl 14,2)] kr (gZ R hg))⟩
noncomputable def L_raO (ts:List Tg) (table:Str) (ev:Int) (asg:List Str) (each:Bool) (i:Nat) (out:List Tg):Cfg:=zat B.ref20_Applicable 0 [(1,sv table),(2,iv ev),(3,ssl asg),(4,bv each),(11,.own 0 out.length),(17,.sl (ts.map Tg.cells)),(18,iv ((ts.map Tg.cells).length:Nat)),(19,iv (i:Nat))] [.row Ty.Trigger (out.map Tg.cells) false]
theorem zfl (ts:List Tg) (table:Str) (ev:Int) (asg:List Str) (each:Bool) (hl:zad ts) (hs:zad asg) (hof:∀ t∈ts,zad t.of) (i:Nat) (out:List Tg) (hi:i≤(ts).length) (hI:out=(ts.take i).filter (appl table ev asg each)):∃ (out':List Tg),(out'=(ts.take (ts).length).filter (appl table ev asg each))∧(decide ((((ts).length:Nat):Int) < (((ts.map Tg.cells).length:Nat):Int))=false)∧∀ R,Good E0 B.ref20_Applicable [] (L_raO ts table ev asg each (ts).length out') R→Good E0 B.ref20_Applicable [] (L_raO ts table ev asg each i out) R:=by
 obtain ⟨kk,hk⟩:∃ kk,i+kk=(ts).length:=⟨(ts).length - i,by omega⟩
 induction kk generalizing i out with
 | zero =>
  have e0:i=(ts).length:=by omega
  subst e0
  exact ⟨out,hI,by simp,fun R hg=>hg⟩
 | succ kk ih =>
  obtain ⟨x,hx⟩:=zax (l:=ts) (i:=i) (by omega)
  have h0:decide (((i:Nat):Int) < (((ts.map Tg.cells).length:Nat):Int))=true:=by simp;omega
  have hw:IntKind.i64.wrap (((i:Nat):Int)+1)=((i+1:Nat):Int):=zao i (by first|omega|(simp only [zad,Few] at *;omega))
  have hx1:=hof x (List.mem_of_getElem? hx)
  have ho:out.length≤1000000000:=by
   rw [hI];refine Nat.le_trans (List.length_filter_le _ _) ?_;rw [List.length_take];simp only [zad] at hl;omega
  let p_1:List St:=[sb h0,se (zah Tg.cells hx rfl)]
  cases h1:!x.before
  ·cases h2:!ByteArray.toList x.table==ByteArray.toList table
   ·cases h3:x.event != ev
    ·cases h4:!x.each==each
     ·cases h5:ev != 2
      ·obtain ⟨y6,q6,q6_1,g6⟩:=zds ts table ev asg each i out x zfN zfN 0 ((↑(List.map (fun s=>[sv s]) x.of).length:Int)==0) zfN zfN
       rcases (Bool.eq_false_or_eq_true y6).symm with h7|h7
       ·obtain ⟨outZ,qZ,xZ,gZ⟩:=ih (i+1) out (by omega) zfV (by omega);exact ⟨outZ,qZ,xZ,fun R hg=>zaa (wkl (p_1++[sg h1,sg h2,sg h3,sb h4,sg h5]) [1,2,3,4,11,13,14,17,18,19,53,54,55] 2 kr (g6 _ (zaa (wkl [sb q6_1,sb h7,si hw] [1,2,3,4,11,17,18,19] 1 kr (gZ R hg)))))⟩
       ·obtain ⟨outZ,qZ,xZ,gZ⟩:=ih (i+1) (out++[x]) (by omega) zfV (by omega);exact ⟨outZ,qZ,xZ,fun R hg=>zaa (wkl (p_1++[sg h1,sg h2,sg h3,sb h4,sg h5]) [1,2,3,4,11,13,14,17,18,19,53,54,55] 2 kr (g6 _ (zaa (wkl [sb q6_1,sb h7,sqx (AllLen [[sv x.name,sv x.table,bv x.before,iv x.event,AV.sl (List.map (fun s=>[sv s]) x.of),bv x.each,AV.sl (List.map (fun s=>[sv s]) x.prec),AV.sl (List.map (fun s=>[sv s]) x.foll),AV.sl (List.map Rk.cells x.rank),AV.sl (zab x.when_),AV.sl (List.map Ac.cells x.acts)]] 11∧out.length=(List.map Tg.cells out).length∧(((List.map Tg.cells out).length+[[sv x.name,sv x.table,bv x.before,iv x.event,AV.sl (List.map (fun s=>[sv s]) x.of),bv x.each,AV.sl (List.map (fun s=>[sv s]) x.prec),AV.sl (List.map (fun s=>[sv s]) x.foll),AV.sl (List.map Rk.cells x.rank),AV.sl (zab x.when_),AV.sl (List.map Ac.cells x.acts)]].length) * 200).le 140737488355328),si hw] [1,2,3,4,11,17,18,19] 1 kr (zav (show ([(1,sv table),(2,iv ev),(3,AV.sl (List.map (fun s=>[sv s]) asg)),(4,bv each),(11,AV.own 0 (List.map Tg.cells out++[[sv x.name,sv x.table,bv x.before,iv x.event,AV.sl (List.map (fun s=>[sv s]) x.of),bv x.each,AV.sl (List.map (fun s=>[sv s]) x.prec),AV.sl (List.map (fun s=>[sv s]) x.foll),AV.sl (List.map Rk.cells x.rank),AV.sl (zab x.when_),AV.sl (List.map Ac.cells x.acts)]]).length),(17,AV.sl (List.map Tg.cells ts)),(18,iv (↑(List.map Tg.cells ts).length:Int)),(19,iv (↑(i+1):Int))]:TS)=_ by first|rfl|(simp;done)|(simp [X.cells,Qy.cells,V.cells,Col.cells,Rw.cells,Tb.cells,Fr.cells,Sch.cells,Tp.cells,Pl.cells,xCol,xLit,xBin,xNeg,Im.cells,Lk.cells,Ac.cells,Se.cells,Tg.cells,Rk.cells];done)) (show ([Blk.row Ty.Trigger (List.map Tg.cells out++[[sv x.name,sv x.table,bv x.before,iv x.event,AV.sl (List.map (fun s=>[sv s]) x.of),bv x.each,AV.sl (List.map (fun s=>[sv s]) x.prec),AV.sl (List.map (fun s=>[sv s]) x.foll),AV.sl (List.map Rk.cells x.rank),AV.sl (zab x.when_),AV.sl (List.map Ac.cells x.acts)]]) false]:Heap)=_ by first|rfl|(simp;done)|(simp [X.cells,Qy.cells,V.cells,Col.cells,Rw.cells,Tb.cells,Fr.cells,Sch.cells,Tp.cells,Pl.cells,xCol,xLit,xBin,xNeg,Im.cells,Lk.cells,Ac.cells,Se.cells,Tg.cells,Rk.cells];done)) (gZ R hg))))))⟩
      ·obtain ⟨y8,q8,q8_1,g8⟩:=zds ts table ev asg each i out x zfN zfN 0 true zfN zfN
       rcases (Bool.eq_false_or_eq_true y8).symm with h9|h9
       ·obtain ⟨outZ,qZ,xZ,gZ⟩:=ih (i+1) out (by omega) zfV (by omega);exact ⟨outZ,qZ,xZ,fun R hg=>zaa (wklN (p_1++[sg h1,sg h2,sg h3,sb h4,sb h5]) [1,2,3,4,11,13,14,17,18,19,53,54,55] 2 [(.bl 14,2)] kr (g8 _ (zaa (wkl [sb q8_1,sb h9,si hw] [1,2,3,4,11,17,18,19] 1 kr (gZ R hg)))))⟩
       ·obtain ⟨outZ,qZ,xZ,gZ⟩:=ih (i+1) (out++[x]) (by omega) zfV (by omega);exact ⟨outZ,qZ,xZ,fun R hg=>zaa (wklN (p_1++[sg h1,sg h2,sg h3,sb h4,sb h5]) [1,2,3,4,11,13,14,17,18,19,53,54,55] 2 [(.bl 14,2)] kr (g8 _ (zaa (wkl [sb q8_1,sb h9,sqx (AllLen [[sv x.name,sv x.table,bv x.before,iv x.event,AV.sl (List.map (fun s=>[sv s]) x.of),bv x.each,AV.sl (List.map (fun s=>[sv s]) x.prec),AV.sl (List.map (fun s=>[sv s]) x.foll),AV.sl (List.map Rk.cells x.rank),AV.sl (zab x.when_),AV.sl (List.map Ac.cells x.acts)]] 11∧out.length=(List.map Tg.cells out).length∧(((List.map Tg.cells out).length+[[sv x.name,sv x.table,bv x.before,iv x.event,AV.sl (List.map (fun s=>[sv s]) x.of),bv x.each,AV.sl (List.map (fun s=>[sv s]) x.prec),AV.sl (List.map (fun s=>[sv s]) x.foll),AV.sl (List.map Rk.cells x.rank),AV.sl (zab x.when_),AV.sl (List.map Ac.cells x.acts)]].length) * 200).le 140737488355328),si hw] [1,2,3,4,11,17,18,19] 1 kr (zav (show ([(1,sv table),(2,iv ev),(3,AV.sl (List.map (fun s=>[sv s]) asg)),(4,bv each),(11,AV.own 0 (List.map Tg.cells out++[[sv x.name,sv x.table,bv x.before,iv x.event,AV.sl (List.map (fun s=>[sv s]) x.of),bv x.each,AV.sl (List.map (fun s=>[sv s]) x.prec),AV.sl (List.map (fun s=>[sv s]) x.foll),AV.sl (List.map Rk.cells x.rank),AV.sl (zab x.when_),AV.sl (List.map Ac.cells x.acts)]]).length),(17,AV.sl (List.map Tg.cells ts)),(18,iv (↑(List.map Tg.cells ts).length:Int)),(19,iv (↑(i+1):Int))]:TS)=_ by first|rfl|(simp;done)|(simp [X.cells,Qy.cells,V.cells,Col.cells,Rw.cells,Tb.cells,Fr.cells,Sch.cells,Tp.cells,Pl.cells,xCol,xLit,xBin,xNeg,Im.cells,Lk.cells,Ac.cells,Se.cells,Tg.cells,Rk.cells];done)) (show ([Blk.row Ty.Trigger (List.map Tg.cells out++[[sv x.name,sv x.table,bv x.before,iv x.event,AV.sl (List.map (fun s=>[sv s]) x.of),bv x.each,AV.sl (List.map (fun s=>[sv s]) x.prec),AV.sl (List.map (fun s=>[sv s]) x.foll),AV.sl (List.map Rk.cells x.rank),AV.sl (zab x.when_),AV.sl (List.map Ac.cells x.acts)]]) false]:Heap)=_ by first|rfl|(simp;done)|(simp [X.cells,Qy.cells,V.cells,Col.cells,Rw.cells,Tb.cells,Fr.cells,Sch.cells,Tp.cells,Pl.cells,xCol,xLit,xBin,xNeg,Im.cells,Lk.cells,Ac.cells,Se.cells,Tg.cells,Rk.cells];done)) (gZ R hg))))))⟩
     ·obtain ⟨outZ,qZ,xZ,gZ⟩:=ih (i+1) out (by omega) zfV (by omega);exact ⟨outZ,qZ,xZ,fun R hg=>zaa (wkl (p_1++[sg h1,sg h2,sg h3,sb h4,si hw]) [1,2,3,4,11,17,18,19] 1 kr (gZ R hg))⟩
    ·obtain ⟨outZ,qZ,xZ,gZ⟩:=ih (i+1) out (by omega) zfV (by omega);exact ⟨outZ,qZ,xZ,fun R hg=>zaa (wkl (p_1++[sg h1,sg h2,sb h3,si hw]) [1,2,3,4,11,17,18,19] 1 kr (gZ R hg))⟩
   ·obtain ⟨outZ,qZ,xZ,gZ⟩:=ih (i+1) out (by omega) zfV (by omega);exact ⟨outZ,qZ,xZ,fun R hg=>zaa (wkl (p_1++[sg h1,sb h2,si hw]) [1,2,3,4,11,17,18,19] 1 kr (gZ R hg))⟩
  ·obtain ⟨outZ,qZ,xZ,gZ⟩:=ih (i+1) out (by omega) zfV (by omega);exact ⟨outZ,qZ,xZ,fun R hg=>zaa (wkl (p_1++[sb h1,si hw]) [1,2,3,4,11,17,18,19] 1 kr (gZ R hg))⟩
theorem zjX (ts:List Tg) (table:Str) (ev:Int) (asg:List Str) (each:Bool) (hl:zad ts) (hs:zad asg) (hof:∀ t∈ts,zad t.of):∃ (out:List Tg),out=ts.filter (appl table ev asg each)∧zac E0 S.ref20_Applicable [.sl (ts.map Tg.cells),sv table,iv ev,ssl asg,bv each] [] (.sl (out.map Tg.cells)) []:=by
 obtain ⟨out1,q1,q1_1,g1⟩:=zfl ts table ev asg each zih zih zih 0 ([]) zih zih
 exact ⟨out1,(by rw [List.take_length] at *;assumption),wkcN At.ref20_Applicable [] [1,2,3,4,11,17,18,19] 0 [(.ot 11 Ty.Trigger,1)] kr (g1 _ (zaa (wkr [sqx (out1.length=(List.map Tg.cells out1).length),sb q1_1] kr)))⟩
theorem zfU (ts:List Tg) (table:Str) (ev:Int) (asg:List Str) (each:Bool) (hl:zad ts) (hs:zad asg) (hof:∀ t∈ts,zad t.of):zac E0 S.ref20_Applicable [.sl (ts.map Tg.cells),sv table,iv ev,ssl asg,bv each] [] (.sl ((ts.filter (appl table ev asg each)).map Tg.cells)) []:=by
 obtain ⟨out,rfl,h⟩:=zjX ts table ev asg each hl hs hof
 exact h
end Go.AM
namespace Go.AM
open Go.RowKit
set_option linter.unusedSimpArgs false
set_option linter.unusedVariables false
def zna (E:Env0) (c:Cfg):Option (TypeId × Nat × List AV):=match c.todo with
 | .ops all (o::_)::_=>match zhX all o c.ts&&za4 c.n o.dst,o.op with
  | true,.buildSlice t n parts=>match (E.T t).kind with
   | .slice el=>match fill (fun i=>some (i * (E.T el).size,(E.T el).size)) (repl (E.T el).zero n) (parts.toList.map fun (i,x)=>(i,ev E.G c.ts x)),Nat.ble (n * (E.T el).size) 16777216 with
    | some cs,true=>some (el,n,cs)
    | _,_=>none
   | _=>none
  | _,_=>none
 | _=>none
def zh8 (c:Cfg) (e:TypeId) (n:Nat) (xs:List (List AV)):Cfg:=match c.todo with
 | .ops all (o::rest)::k=>⟨c.n,.ops all rest::k,put c.ts o.dst (.own c.h.length n),c.h++[.row e xs false]⟩
 | _=>c
theorem zrK {E:Env0} (ht:zaO E) {fn:Func} {h0:Heap} {c:Cfg} {R:AV→Heap→Prop} {e:TypeId} {n:Nat} {cs:List AV} (hc:zna E c=some (e,n,cs)) (hn0:0 < n) (ho:frzB c.h cs=none) (hm:zb4 cs=[])
  (hg:Good E fn h0 (zh8 c e n (zcH (E.T e).size n (frzL c.h cs))) R):Good E fn h0 c R:=by
 intro β0 S0 w0 β S w tmps hb0 hn x0 r rt
 obtain ⟨nn,todo,ts,h⟩:=c
 simp only at hn x0 r rt ho ⊢
 unfold zna at hc
 simp only at hc
 split at hc
 ·rename_i all o rest k
  split at hc
  ·rename_i t n' parts hchk hop
   simp only [Bool.and_eq_true] at hchk
   obtain ⟨hgo,hd⟩:=hchk
   split at hc
   ·rename_i e' hk
    split at hc
    ·rename_i cs' hf hle
     simp only [Option.some.injEq,Prod.mk.injEq] at hc
     obtain ⟨rfl,rfl,rfl⟩:=hc
     simp only [kont,Exit.then]
     refine wpList_step fun K hK=>?_
     rw [if_pos (zjU rt hgo)]
     have hpw:=zk3 r rt parts.toList
     have hle:=Nat.le_of_ble_eq_true hle
     obtain ⟨i,d,z,tok⟩:=ht.at_ (zaG (by rw [hk];simp):E.T t≠_)
     obtain ⟨rfl,hes⟩:=tok.slice_ hk
     obtain ⟨i2,d2,z2,tok2⟩:=ht.at_ (zbf hes)
     obtain ⟨z1,z3⟩:=zeo (T:=E.T) (h:=h) (β:=β) (w:=w) (S:=S) _ _ tok2.zok
     have hzl:=tok2.zlen
     have hzs:z2.cells.size=(E.T e').size:=by rw [← Array.length_toList,← z1,hzl]
     let zs:List Value:=(List.range (n' * (E.T e').size)).map fun k=>z2.cells[k % z2.cells.size]!
     have hz:PW (RelC E.T h β w S) (repl (E.T e').zero n') zs:=by
      refine ⟨by simp [zs,zdh,hzl],fun k x y hx hy=>?_⟩
      have hkl:k < n' * (E.T e').size:=by have:=(List.getElem?_eq_some_iff.1 hx).1;rwa [zdh,hzl] at this
      rw [zkO _ n' k (by rw [hzl];exact hkl),hzl] at hx
      have hkm:k % (E.T e').size < z2.cells.size:=by rw [hzs];exact Nat.mod_lt _ (by omega)
      simp [zs,hkl] at hy
      rw [hzs] at hy
      rw [getElem!_pos z2.cells _ hkm] at hy
      refine z3 _ x y hx ?_
      rw [Array.getElem?_toList,Array.getElem?_eq_getElem hkm,hy]
     obtain ⟨out',o1,o2,o3⟩:=zh1 (R:=RelC E.T h β w S) rfl _ _ _ _ _ zs hpw hz hf
     have hcl:cs'.length=n' * (E.T e').size:=by rw [o3,zdh,hzl]
     obtain ⟨S1,⟨e1,r1⟩,d1⟩:=zfn E cs' h β S w out' r o2.1 (fun i x y h1 h2=>(o2.2 i x y h1 h2).1) (zoY (by rw [ho];trivial))
     rw [hm] at e1 r1
     have hmax:n'≤maxLen:=by
      have:n' * 1≤n' * (E.T e').size:=Nat.mul_le_mul_left _ (by omega)
      unfold maxLen
      omega
     have hsl:(share h [])=h:=rfl
     rw [hsl] at e1 r1
     let w':=w.alloc (.cells out'.toArray e')
     have hb:Below w.heap.size w w':=(Below.refl _ _).alloc (Nat.le_refl _) _
     have hnew:w'.heap[w.heap.size]?=some (.cells out'.toArray e' (0,0)):=heap_alloc_new w _
     have hsz:w'.heap.size=w.heap.size+1:=by simp [w']
     have hol:out'.length=n' * (E.T e').size:=by rw [← o2.1,hcl]
     have hxl:(frzL h cs').length=n' * (E.T e').size:=by rw [zcC,hcl]
     have hrow:zdW E.T w' S1 e' (zcH (E.T e').size n' (frzL h cs')) (.row w.heap.size n'):=by
      refine ⟨out'.toArray,hnew,by rw [zb2];exact Nat.le_refl _,hn0,hmax,by simpa using hol,fun i c hi=>?_,fun i j c x hi hj=>?_⟩
      ·have hin:i < n':=by have:=(List.getElem?_eq_some_iff.1 hi).1;rwa [zb2] at this
       rw [ze4 _ n' _ i hin] at hi
       cases hi
       have:(i+1) * (E.T e').size≤n' * (E.T e').size:=Nat.mul_le_mul_right _ hin
       rw [Nat.add_mul,Nat.one_mul] at this
       simp
       omega
      ·have hin:i < n':=by have:=(List.getElem?_eq_some_iff.1 hi).1;rwa [zb2] at this
       rw [ze4 _ n' _ i hin] at hi
       cases hi
       rw [List.getElem?_take] at hj
       split at hj
       ·rename_i hjs
        rw [List.getElem?_drop] at hj
        have hlt:=(List.getElem?_eq_some_iff.1 hj).1
        have hlt2:i * (E.T e').size+j < out'.length:=by rw [hol,← hxl];exact hlt
        have hvj:out'[i * (E.T e').size+j]?=some (out'[i * (E.T e').size+j]'hlt2):=List.getElem?_eq_getElem hlt2
        refine ⟨out'[i * (E.T e').size+j]'hlt2,by simp,(d1 _ _ _ hj hvj).mono (fun _ h=>h) fun a ha=>hb.cell (r1.stable a ha),zhj o2 _ (List.mem_of_getElem? hvj)⟩
       ·cases hj
     obtain ⟨e2,r2⟩:=r1.newRow e' (zcH (E.T e').size n' (frzL h cs')) false (.row w.heap.size n') hb (fun g hg=>by
      simp only [Con.blk,Option.some.injEq] at hg
      subst hg
      exact ⟨Nat.le_refl _,by omega⟩) hrow
     have hkg:(β++[Con.row w.heap.size n'])[h.length]?=some (.row w.heap.size n'):=by rw [← r.len,getElem?_append_new]
     have hgt:¬ (n' * (E.T e').size > 2 ^ 24):=by omega
     have hrun:(execOp (Act.eval ⟨tmps,[]⟩) o).run E.P w=.ok (.value (.slice (some ⟨w.heap.size,0,none⟩) n' n')) w':=by
      have h0:¬ (n' * (E.T e').size=0):=by
       have:=Nat.mul_pos hn0 (Nat.pos_of_ne_zero hes);omega
      have harr:(Array.range (n' * (E.T e').size)).map (fun k=>z2.cells[k % z2.cells.size]!)=zs.toArray:=by
       apply Array.ext'
       simp [zs,Array.toList_map,Array.toList_range]
      simp only [execOp,hop,Instr.buildSlice,Sem.run_bind,run_underlying tok.und,Result.andThen_ok,tok2.sizeOf,if_neg hgt,Sem.run_ite,if_neg h0,tok2.zeroValue,harr,Array.toList_map,o1,Sem.run_pure,newRow,run_newObj]
      simp [w']
     unfold Oper.wp
     rw [hrun,Oper.upon_value,zdc]
     refine hK _ _ ?_
     have ee:=e1.trans e2
     have rt':zaQ E.T (h++[.row e' (zcH (E.T e').size n' (frzL h cs')) false]) (β++[Con.row w.heap.size n']) w' S1 ts tmps:=fun t=>(rt t).ext ee
     have:=hg β0 S0 w0 _ S1 w' (Act.put ⟨tmps,[]⟩ o.dst (.slice (some ⟨w.heap.size,0,none⟩) n' n')).tmps hb0 (by simp only [zh8];rw [zdC];exact hn) (x0.trans ee) r2
      (rt'.put (by rw [hn];exact hd) (.own h.length n' _ e' _ false (getElem?_append_new _ _) (by rw [zb2];exact Nat.le_refl _) (fun _=>by rw [hkg];rfl) rfl))
     simp only [zh8,kont,Exit.then] at this
     exact this
    ·cases hc
   ·cases hc
  ·cases hc
 ·cases hc
end Go.AM
namespace Go.AM
set_option maxRecDepth 100000
set_option maxHeartbeats 1000000
set_option linter.unusedSimpArgs false
set_option linter.unusedVariables false
theorem zaD {p:Prop} (h:p:=by first|assumption|omega|(simp;done)|(simp;omega)):p:=h
theorem zcO {p:Prop} (h:p:=by first|trivial|assumption|(simp;done)|omega|(simp;omega)|(simp at *;omega)):p:=h
theorem zhO {p:Prop} (h:p:=by first|assumption|omega|exact List.mem_of_getElem? (by assumption)|(simp;done)|(simp;omega)|(simp only [beq_eq_false_iff_ne,ne_eq,zi8,zeg,List.length_map,decide_eq_false_iff_not,decide_eq_true_eq] at *;omega)):p:=h
theorem zgS {p:Prop} (h:p:=by first|omega|(simp only [zad,Few] at *;omega)):p:=h
theorem znw {p:Prop} (h:p:=by first|omega|(simp only [decide_eq_false_iff_not,decide_eq_true_eq] at *;omega)):p:=h
theorem znR {s:Str} {i:Int} (h:0≤i∧i < ((s.size:Nat):Int)):∃ c:UInt8,ByteAt s i ((c.toNat:Nat):Int):=by
 obtain ⟨n,rfl⟩:=Int.eq_ofNat_of_zero_le h.1
 have hlt:n < s.size:=by omega
 exact ⟨s[n],⟨by omega,by simp [hlt]⟩⟩
theorem zi9 (c:Int) :∃ (r:Bool),zac E0 S.ref4_Letter [.v (.int .u8 c)] [] (bv r) []:=by
 cases h1:decide (97≤c)
 ·exact ⟨false,wk At.ref4_Letter [sb h1] kr⟩
 ·exact ⟨decide (c≤(122:Int)),wk At.ref4_Letter [sg h1] kr⟩
theorem zn1 (c:Int) :∃ (r:Bool),zac E0 S.ref4_Digit [.v (.int .u8 c)] [] (bv r) []:=by
 cases h1:decide (48≤c)
 ·exact ⟨false,wk At.ref4_Digit [sb h1] kr⟩
 ·exact ⟨decide (c≤(57:Int)),wk At.ref4_Digit [sg h1] kr⟩
noncomputable def L_vn (s:Str) (i:Nat) :Cfg:=zat B.ref4_ValidName 0 [(0,sv s),(3,iv (i:Nat))] []
theorem zgj (s:Str) (hs:decide ((12:Int) < ((s.size:Nat):Int))=false) (i:Nat)  (hi:i≤(s.size)) (hI:True):((True)∧(decide ((((s.size):Nat):Int) < (((s.size):Nat):Int))=false)∧∀ R,Good E0 B.ref4_ValidName [] (L_vn s s.size ) R→Good E0 B.ref4_ValidName [] (L_vn s i ) R)∨(∃ (r:Bool),Good E0 B.ref4_ValidName [] (L_vn s i ) (Shut 0 fun rZ hZ=>rZ=(bv r)∧hZ=[])):=by
 obtain ⟨kk,hk⟩:∃ kk,i+kk=(s.size):=⟨(s.size) - i,by omega⟩
 induction kk generalizing i  hI with
 | zero =>
  have e0:i=(s.size):=by omega
  subst e0
  exact .inl ⟨hI,by simp,fun R hg=>hg⟩
 | succ kk ih =>
  have h0:decide (((i:Nat):Int) < (((s.size):Nat):Int))=true:=by simp;omega
  have hw:IntKind.i64.wrap (((i:Nat):Int)+1)=((i+1:Nat):Int):=zao i (by (simp only [decide_eq_false_iff_not] at hs;omega))
  obtain ⟨c1,b1⟩:=znR (s:=s) (i:=(i:Int)) znw
  obtain ⟨r2,c2⟩:=(zi9 ((c1.toNat:Int)))
  cases h3:!r2
  ·exact (ih (i+1) (by omega) zcO (by omega)).elim (fun ⟨qZ,xZ,gZ⟩=>.inl ⟨qZ,xZ,fun R hg=>zaa (wkl [sb h0,sy b1,sc c2,sb h3,si hw] [0,3] 0 kr (gZ R hg))⟩) (fun ⟨rY,gZ⟩=>.inr ⟨rY,zaa (wkl [sb h0,sy b1,sc c2,sb h3,si hw] [0,3] 0 kr gZ)⟩)
  ·obtain ⟨r4,c4⟩:=(zn1 ((c1.toNat:Int)))
   let p_1:List St:=[sb h0,sy b1,sc c2,sg h3,sy b1,sc c4]
   let p_2:List St:=[sb h0,sy b1,sc c2,sg h3,sy b1,sc c4]
   cases h5:!r4
   ·exact (ih (i+1) (by omega) zcO (by omega)).elim (fun ⟨qZ,xZ,gZ⟩=>.inl ⟨qZ,xZ,fun R hg=>zaa (wkl (p_1++[sb h5,si hw]) [0,3] 0 kr (gZ R hg))⟩) (fun ⟨rY,gZ⟩=>.inr ⟨rY,zaa (wkl (p_2++[sb h5,si hw]) [0,3] 0 kr gZ)⟩)
   ·cases h6:(c1.toNat:Int) != 95
    ·exact (ih (i+1) (by omega) zcO (by omega)).elim (fun ⟨qZ,xZ,gZ⟩=>.inl ⟨qZ,xZ,fun R hg=>zaa (wkl (p_1++[sg h5,sy b1,sb h6,si hw]) [0,3] 0 kr (gZ R hg))⟩) (fun ⟨rY,gZ⟩=>.inr ⟨rY,zaa (wkl (p_2++[sg h5,sy b1,sb h6,si hw]) [0,3] 0 kr gZ)⟩)
    ·exact .inr ⟨false,zaa (wkr (p_1++[sg h5,sy b1,sb h6]) kr)⟩
theorem zaw (s:Str) :∃ (r:Bool),zac E0 S.ref4_ValidName [sv s] [] (bv r) []:=by
 cases h1:decide ((↑(ByteArray.size s):Int) < 1)
 ·cases h2:decide (12 < (↑(ByteArray.size s):Int))
  ·obtain ⟨c3,b3⟩:=znR (s:=s) (i:=(0:Int)) znw
   obtain ⟨r4,c4⟩:=(zi9 ((c3.toNat:Int)))
   cases h5:!r4
   ·rcases zgj s zaD 0 zaD zaD with ⟨q6,q6_1,g6⟩|⟨r6_0,g6⟩
    ·exact ⟨true,wkc At.ref4_ValidName [sg h1,sg h2,sy b3,sc c4,sb h5] [0,3] 0 kr (g6 _ (zaa (wkr [sb q6_1] kr)))⟩
    ·exact ⟨r6_0,wkc At.ref4_ValidName [sg h1,sg h2,sy b3,sc c4,sb h5] [0,3] 0 kr (g6)⟩
   ·exact ⟨false,wk At.ref4_ValidName [sg h1,sg h2,sy b3,sc c4,sb h5] kr⟩
  ·exact ⟨false,wk At.ref4_ValidName [sg h1,sb h2] kr⟩
 ·exact ⟨false,wk At.ref4_ValidName [sb h1] kr⟩
noncomputable def L_rv (v:V) (i:Nat) :Cfg:=zat B.ref1_Valid 0 [(1,.p 0 0),(3,iv (i:Nat))] [.box [iv v.kind,iv v.int,sv v.text]]
theorem zij (v:V) (hs:decide ((64:Int) < ((v.text.size:Nat):Int))=false) (i:Nat)  (hi:i≤(v.text.size)) (hI:True):((True)∧(decide ((((v.text.size):Nat):Int) < (((v.text.size):Nat):Int))=false)∧∀ R,Good E0 B.ref1_Valid [] (L_rv v v.text.size ) R→Good E0 B.ref1_Valid [] (L_rv v i ) R)∨(∃ (r:Bool),Good E0 B.ref1_Valid [] (L_rv v i ) (Shut 0 fun rZ hZ=>rZ=(bv r)∧hZ=[])):=by
 obtain ⟨kk,hk⟩:∃ kk,i+kk=(v.text.size):=⟨(v.text.size) - i,by omega⟩
 induction kk generalizing i  hI with
 | zero =>
  have e0:i=(v.text.size):=by omega
  subst e0
  exact .inl ⟨hI,by simp,fun R hg=>hg⟩
 | succ kk ih =>
  have h0:decide (((i:Nat):Int) < (((v.text.size):Nat):Int))=true:=by simp;omega
  have hw:IntKind.i64.wrap (((i:Nat):Int)+1)=((i+1:Nat):Int):=zao i (by (simp only [decide_eq_false_iff_not] at hs;omega))
  obtain ⟨c1,b1⟩:=znR (s:=v.text) (i:=(i:Int)) znw
  cases h2:decide ((c1.toNat:Int) < 32)
  ·cases h3:decide (126 < (c1.toNat:Int))
   ·exact (ih (i+1) (by omega) zcO (by omega)).elim (fun ⟨qZ,xZ,gZ⟩=>.inl ⟨qZ,xZ,fun R hg=>zaa (wkl [sb h0,sy b1,sg h2,sy b1,sb h3,si hw] [1,3] 1 kr (gZ R hg))⟩) (fun ⟨rY,gZ⟩=>.inr ⟨rY,zaa (wkl [sb h0,sy b1,sg h2,sy b1,sb h3,si hw] [1,3] 1 kr gZ)⟩)
   ·exact .inr ⟨false,zaa (wkr [sb h0,sy b1,sg h2,sy b1,sb h3] kr)⟩
  ·exact .inr ⟨false,zaa (wkr [sb h0,sy b1,sb h2] kr)⟩
theorem zdo (v:V) :∃ (r:Bool),zac E0 S.ref1_Valid [v.av] [] (bv r) []:=by
 cases h1:v.kind==0
 ·cases h2:v.kind==1
  ·cases h3:v.kind==2
   ·cases h4:v.kind==3
    ·exact ⟨false,wk At.ref1_Valid [sb h1,sb h2,sb h3,sb h4] kr⟩
    ·cases h5:v.int != 0
     ·cases h6:decide (64 < (↑(ByteArray.size v.text):Int))
      ·let p_1:List St:=[sb h1,sb h2,sb h3,sb h4,sg h5,sb h6]
       rcases zij v zaD 0 zaD zaD with ⟨q7,q7_1,g7⟩|⟨r7_0,g7⟩
       ·exact ⟨true,wkc At.ref1_Valid p_1 [1,3] 1 kr (g7 _ (zaa (wkr [sb q7_1] kr)))⟩
       ·exact ⟨r7_0,wkc At.ref1_Valid p_1 [1,3] 1 kr (g7)⟩
      ·exact ⟨false,wk At.ref1_Valid [sb h1,sb h2,sb h3,sb h4,sg h5,sb h6] kr⟩
     ·exact ⟨false,wk At.ref1_Valid [sb h1,sb h2,sb h3,sb h4,sb h5] kr⟩
   ·cases h8:v.int==0
    ·cases h9:v.int==1
     ·exact ⟨false,wk At.ref1_Valid [sb h1,sb h2,sb h3,sg h8,sb h9] kr⟩
     ·exact ⟨ByteArray.toList v.text==(ByteArray.mk #[]).toList,wk At.ref1_Valid [sb h1,sb h2,sb h3,sg h8,sg h9] kr⟩
    ·exact ⟨ByteArray.toList v.text==(ByteArray.mk #[]).toList,wk At.ref1_Valid [sb h1,sb h2,sb h3,sb h8] kr⟩
  ·exact ⟨ByteArray.toList v.text==(ByteArray.mk #[]).toList,wk At.ref1_Valid [sb h1,sb h2] kr⟩
 ·cases h10:v.int==0
  ·exact ⟨false,wk At.ref1_Valid [sb h1,sb h10] kr⟩
  ·exact ⟨ByteArray.toList v.text==(ByteArray.mk #[]).toList,wk At.ref1_Valid [sb h1,sg h10] kr⟩
theorem zef (e:X) :∃ (r:Bool),zac E0 S.ref11_plain [e.av] [] (bv r) []:=by
 cases h1:e.val.kind==0&&(e.val.int==0&&(e.val.text==ByteArray.mk #[]&&true))
 ·exact ⟨false,wk At.ref11_plain [sq zaP,sb h1] kr⟩
 ·cases h2:ByteArray.toList e.table==(ByteArray.mk #[]).toList
  ·exact ⟨false,wk At.ref11_plain [sq zaP,sg h1,sb h2] kr⟩
  ·exact ⟨ByteArray.toList e.name==(ByteArray.mk #[]).toList,wk At.ref11_plain [sq zaP,sg h1,sg h2] kr⟩
theorem zcX (s:Str) :∃ (r:Bool),zac E0 S.ref11_source [sv s] [] (bv r) []:=by
 obtain ⟨r1,c1⟩:=(zaw s)
 rcases (Bool.eq_false_or_eq_true r1).symm with h2|h2
 ·cases h3:ByteArray.toList s==(ByteArray.mk #[73,78,83,69,82,84,69,68]).toList
  ·exact ⟨ByteArray.toList s==(ByteArray.mk #[(68:UInt8),(69:UInt8),(76:UInt8),(69:UInt8),(84:UInt8),(69:UInt8),(68:UInt8)]).toList,wk At.ref11_source [sc c1,sg h2,sg h3] kr⟩
  ·exact ⟨true,wk At.ref11_source [sc c1,sg h2,sb h3] kr⟩
 ·exact ⟨true,wk At.ref11_source [sc c1,sb h2] kr⟩
abbrev VxOk (x:X):Prop:=∃ b:Bool,zac E0 S.ref11_ValidExpr [x.av] [] (bv b) []
abbrev VlOk (l:List X):Prop:=∃ b:Bool,zac E0 S.ref11_all [xsl l] [] (bv b) []
noncomputable def L_al (l:List X) (i:Nat) :Cfg:=zat B.ref11_all 0 [(5,xsl l),(6,iv ((zab l).length:Nat)),(7,iv (i:Nat))] []
theorem zix (l:List X) (hl:zad l) (hv:∀ x∈l,VxOk x) (i:Nat)  (hi:i≤(l).length) (hI:True):((True)∧(decide ((((l).length:Nat):Int) < (((zab l).length:Nat):Int))=false)∧∀ R,Good E0 B.ref11_all [] (L_al l (l).length ) R→Good E0 B.ref11_all [] (L_al l i ) R)∨(∃ (r:Bool),Good E0 B.ref11_all [] (L_al l i ) (Shut 0 fun rZ hZ=>rZ=(bv r)∧hZ=[])):=by
 obtain ⟨kk,hk⟩:∃ kk,i+kk=(l).length:=⟨(l).length - i,by omega⟩
 induction kk generalizing i  hI with
 | zero =>
  have e0:i=(l).length:=by omega
  subst e0
  exact .inl ⟨hI,by simp,fun R hg=>hg⟩
 | succ kk ih =>
  obtain ⟨x,hx⟩:=zax (l:=l) (i:=i) (by omega)
  have h0:decide (((i:Nat):Int) < (((zab l).length:Nat):Int))=true:=by simp;omega
  have hw:IntKind.i64.wrap (((i:Nat):Int)+1)=((i+1:Nat):Int):=zao i zgS
  have hvx:=hv x (List.mem_of_getElem? hx)
  obtain ⟨b1,c1⟩:=hvx
  cases h2:!b1
  ·exact (ih (i+1) (by omega) zcO (by omega)).elim (fun ⟨qZ,xZ,gZ⟩=>.inl ⟨qZ,xZ,fun R hg=>zaa (wkl [sb h0,se (zbo hx),sc c1,sb h2,si hw] [5,6,7] 0 kr (gZ R hg))⟩) (fun ⟨rY,gZ⟩=>.inr ⟨rY,zaa (wkl [sb h0,se (zbo hx),sc c1,sb h2,si hw] [5,6,7] 0 kr gZ)⟩)
  ·exact .inr ⟨false,zaa (wkr [sb h0,se (zbo hx),sc c1,sb h2] kr)⟩
theorem zfF (l:List X) (hl:zad l) (hv:∀ x∈l,VxOk x):∃ (r:Bool),zac E0 S.ref11_all [xsl l] [] (bv r) []:=by
 rcases zix l zaD zaD 0 zaD zaD with ⟨q1,q1_1,g1⟩|⟨r1_0,g1⟩
 ·exact ⟨true,wkc At.ref11_all [] [5,6,7] 0 kr (g1 _ (zaa (wkr [sb q1_1] kr)))⟩
 ·exact ⟨r1_0,wkc At.ref11_all [] [5,6,7] 0 kr (g1)⟩
noncomputable def L_vx (e:X) (i:Nat) :Cfg:=zat B.ref11_ValidExpr 0 [(1,.p 0 0),(99,.sl (zae e.sub)),(100,iv ((zae e.sub).length:Nat)),(101,iv (i:Nat))] [.box e.cells]
theorem zb3 (e:X) (hs:zad e.sub) (hq:∀ q∈e.sub,VlOk q.items∧VlOk q.wh) (i:Nat)  (hi:i≤(e.sub).length) (hI:True):((True)∧(decide ((((e.sub).length:Nat):Int) < (((zae e.sub).length:Nat):Int))=false)∧∀ R,Good E0 B.ref11_ValidExpr [] (L_vx e (e.sub).length ) R→Good E0 B.ref11_ValidExpr [] (L_vx e i ) R)∨(∃ (r:Bool),Good E0 B.ref11_ValidExpr [] (L_vx e i ) (Shut 0 fun rZ hZ=>rZ=(bv r)∧hZ=[])):=by
 obtain ⟨kk,hk⟩:∃ kk,i+kk=(e.sub).length:=⟨(e.sub).length - i,by omega⟩
 induction kk generalizing i  hI with
 | zero =>
  have e0:i=(e.sub).length:=by omega
  subst e0
  exact .inl ⟨hI,by simp,fun R hg=>hg⟩
 | succ kk ih =>
  obtain ⟨x,hx⟩:=zax (l:=e.sub) (i:=i) (by omega)
  have h0:decide (((i:Nat):Int) < (((zae e.sub).length:Nat):Int))=true:=by simp;omega
  have hw:IntKind.i64.wrap (((i:Nat):Int)+1)=((i+1:Nat):Int):=zao i zgS
  have hi1:=(hq x (List.mem_of_getElem? hx)).1;have hi2:=(hq x (List.mem_of_getElem? hx)).2
  cases h1:!x.star==(e.kind==8)
  ·obtain ⟨r2,c2⟩:=(zcX x.frm)
   cases h3:!r2
   ·obtain ⟨b4,c4⟩:=hi1
    let p_1:List St:=[sb h0,se (zaT hx),sg h1,sc c2,sg h3,sc c4]
    cases h5:!b4
    ·obtain ⟨b6,c6⟩:=hi2
     cases h7:!b6
     ·exact (ih (i+1) (by omega) zcO (by omega)).elim (fun ⟨qZ,xZ,gZ⟩=>.inl ⟨qZ,xZ,fun R hg=>zaa (wkl (p_1++[sg h5,sc c6,sb h7,si hw]) [1,99,100,101] 1 kr (gZ R hg))⟩) (fun ⟨rY,gZ⟩=>.inr ⟨rY,zaa (wkl [sb h0,se (zaT hx),sg h1,sc c2,sg h3,sc c4,sg h5,sc c6,sb h7,si hw] [1,99,100,101] 1 kr gZ)⟩)
     ·exact .inr ⟨false,zaa (wkr (p_1++[sg h5,sc c6,sb h7]) kr)⟩
    ·exact .inr ⟨false,zaa (wkr (p_1++[sb h5]) kr)⟩
   ·exact .inr ⟨false,zaa (wkr [sb h0,se (zaT hx),sg h1,sc c2,sb h3] kr)⟩
  ·exact .inr ⟨false,zaa (wkr [sb h0,se (zaT hx),sb h1] kr)⟩
theorem zkv (e:X) (hs:zad e.sub) (ha:∃ b:Bool,zac E0 S.ref11_all [xsl e.args] [] (bv b) []) (hq:∀ q∈e.sub,VlOk q.items∧VlOk q.wh):∃ (r:Bool),zac E0 S.ref11_ValidExpr [e.av] [] (bv r) []:=by
 cases h1:!zkn e
 ·cases h2:e.kind != 5
  ·let p_1:List St:=[sc (zbk e),sg h1,sb h2]
   cases h3:e.kind != 6
   ·cases h4:e.kind==1
    ·cases h5:e.kind==2
     ·obtain ⟨r6,c6⟩:=(zef e)
      cases h7:!r6
      ·obtain ⟨b8,c8⟩:=ha
       let p_2:List St:=p_1++[sb h3,sb h4,sb h5,sc c6,sg h7,sc c8]
       cases h9:!b8
       ·rcases zb3 e zaD zaD 0 zaD zaD with ⟨q10,q10_1,g10⟩|⟨r10_0,g10⟩
        ·exact ⟨true,wkc At.ref11_ValidExpr (p_2++[sb h9]) [1,99,100,101] 1 kr (g10 _ (zaa (wkr [sb q10_1] kr)))⟩
        ·exact ⟨r10_0,wkc At.ref11_ValidExpr (p_2++[sb h9]) [1,99,100,101] 1 kr (g10)⟩
       ·exact ⟨false,wk At.ref11_ValidExpr (p_2++[sb h9]) kr⟩
      ·exact ⟨false,wk At.ref11_ValidExpr (p_1++[sb h3,sb h4,sb h5,sc c6,sb h7]) kr⟩
     ·cases h11:ByteArray.toList e.table==(ByteArray.mk #[]).toList
      ·obtain ⟨r12,c12⟩:=(zcX e.table)
       rcases (Bool.eq_false_or_eq_true r12).symm with h13|h13
       ·let p_3:List St:=p_1++[sb h3,sb h4,sb h5,sg h11,sc c12,sg h13]
        cases h14:ByteArray.toList e.table==(ByteArray.mk #[78,69,87]).toList
        ·cases h15:ByteArray.toList e.table==(ByteArray.mk #[79,76,68]).toList
         ·exact ⟨false,wk At.ref11_ValidExpr (p_3++[sg h14,sb h15]) kr⟩
         ·obtain ⟨r16,c16⟩:=(zaw e.name)
          rcases (Bool.eq_false_or_eq_true r16).symm with h17|h17
          ·exact ⟨false,wk At.ref11_ValidExpr (p_3++[sg h14,sg h15,sc c16,sb h17]) kr⟩
          ·exact ⟨e.val.kind==(0:Int)&&(e.val.int==(0:Int)&&(e.val.text==ByteArray.mk #[]&&true)),wk At.ref11_ValidExpr (p_3++[sg h14,sg h15,sc c16,sg h17,sq zaP]) kr⟩
        ·obtain ⟨r18,c18⟩:=(zaw e.name)
         rcases (Bool.eq_false_or_eq_true r18).symm with h19|h19
         ·exact ⟨false,wk At.ref11_ValidExpr (p_3++[sb h14,sc c18,sb h19]) kr⟩
         ·exact ⟨e.val.kind==(0:Int)&&(e.val.int==(0:Int)&&(e.val.text==ByteArray.mk #[]&&true)),wk At.ref11_ValidExpr (p_3++[sb h14,sc c18,sg h19,sq zaP]) kr⟩
       ·obtain ⟨r20,c20⟩:=(zaw e.name)
        let p_4:List St:=p_1++[sb h3,sb h4,sb h5,sg h11,sc c12,sb h13,sc c20]
        rcases (Bool.eq_false_or_eq_true r20).symm with h21|h21
        ·exact ⟨false,wk At.ref11_ValidExpr (p_4++[sb h21]) kr⟩
        ·exact ⟨e.val.kind==(0:Int)&&(e.val.int==(0:Int)&&(e.val.text==ByteArray.mk #[]&&true)),wk At.ref11_ValidExpr (p_4++[sg h21,sq zaP]) kr⟩
      ·obtain ⟨r22,c22⟩:=(zaw e.name)
       rcases (Bool.eq_false_or_eq_true r22).symm with h23|h23
       ·exact ⟨false,wk At.ref11_ValidExpr (p_1++[sb h3,sb h4,sb h5,sb h11,sc c22,sb h23]) kr⟩
       ·exact ⟨e.val.kind==(0:Int)&&(e.val.int==(0:Int)&&(e.val.text==ByteArray.mk #[]&&true)),wk At.ref11_ValidExpr (p_1++[sb h3,sb h4,sb h5,sb h11,sc c22,sg h23,sq zaP]) kr⟩
    ·obtain ⟨r24,c24⟩:=(zdo e.val)
     rcases (Bool.eq_false_or_eq_true r24).symm with h25|h25
     ·exact ⟨false,wk At.ref11_ValidExpr (p_1++[sb h3,sb h4,sc c24,sb h25]) kr⟩
     ·cases h26:e.val.kind != 1
      ·cases h27:decide (0≤e.val.int)
       ·exact ⟨false,wk At.ref11_ValidExpr (p_1++[sb h3,sb h4,sc c24,sg h25,sg h26,sb h27]) kr⟩
       ·let p_5:List St:=p_1++[sb h3,sb h4,sc c24,sg h25,sg h26,sg h27]
        cases h28:ByteArray.toList e.table==(ByteArray.mk #[]).toList
        ·exact ⟨false,wk At.ref11_ValidExpr (p_5++[sb h28]) kr⟩
        ·exact ⟨ByteArray.toList e.name==(ByteArray.mk #[]).toList,wk At.ref11_ValidExpr (p_5++[sg h28]) kr⟩
      ·cases h29:ByteArray.toList e.table==(ByteArray.mk #[]).toList
       ·exact ⟨false,wk At.ref11_ValidExpr (p_1++[sb h3,sb h4,sc c24,sg h25,sb h26,sb h29]) kr⟩
       ·exact ⟨ByteArray.toList e.name==(ByteArray.mk #[]).toList,wk At.ref11_ValidExpr (p_1++[sb h3,sb h4,sc c24,sg h25,sb h26,sg h29]) kr⟩
   ·cases h30:e.not
    ·cases h31:e.kind==1
     ·cases h32:e.kind==2
      ·obtain ⟨r33,c33⟩:=(zef e)
       cases h34:!r33
       ·obtain ⟨b35,c35⟩:=ha
        let p_6:List St:=p_1++[sg h3,sb h30,sb h31,sb h32,sc c33,sg h34,sc c35]
        cases h36:!b35
        ·rcases zb3 e zaD zaD 0 zaD zaD with ⟨q37,q37_1,g37⟩|⟨r37_0,g37⟩
         ·exact ⟨true,wkc At.ref11_ValidExpr (p_6++[sb h36]) [1,99,100,101] 1 kr (g37 _ (zaa (wkr [sb q37_1] kr)))⟩
         ·exact ⟨r37_0,wkc At.ref11_ValidExpr (p_6++[sb h36]) [1,99,100,101] 1 kr (g37)⟩
        ·exact ⟨false,wk At.ref11_ValidExpr (p_6++[sb h36]) kr⟩
       ·exact ⟨false,wk At.ref11_ValidExpr (p_1++[sg h3,sb h30,sb h31,sb h32,sc c33,sb h34]) kr⟩
      ·cases h38:ByteArray.toList e.table==(ByteArray.mk #[]).toList
       ·obtain ⟨r39,c39⟩:=(zcX e.table)
        let p_7:List St:=p_1++[sg h3,sb h30,sb h31,sb h32,sg h38,sc c39]
        rcases (Bool.eq_false_or_eq_true r39).symm with h40|h40
        ·cases h41:ByteArray.toList e.table==(ByteArray.mk #[78,69,87]).toList
         ·cases h42:ByteArray.toList e.table==(ByteArray.mk #[79,76,68]).toList
          ·exact ⟨false,wk At.ref11_ValidExpr (p_7++[sg h40,sg h41,sb h42]) kr⟩
          ·obtain ⟨r43,c43⟩:=(zaw e.name)
           rcases (Bool.eq_false_or_eq_true r43).symm with h44|h44
           ·exact ⟨false,wk At.ref11_ValidExpr (p_7++[sg h40,sg h41,sg h42,sc c43,sb h44]) kr⟩
           ·exact ⟨e.val.kind==(0:Int)&&(e.val.int==(0:Int)&&(e.val.text==ByteArray.mk #[]&&true)),wk At.ref11_ValidExpr (p_7++[sg h40,sg h41,sg h42,sc c43,sg h44,sq zaP]) kr⟩
         ·obtain ⟨r45,c45⟩:=(zaw e.name)
          rcases (Bool.eq_false_or_eq_true r45).symm with h46|h46
          ·exact ⟨false,wk At.ref11_ValidExpr (p_7++[sg h40,sb h41,sc c45,sb h46]) kr⟩
          ·exact ⟨e.val.kind==(0:Int)&&(e.val.int==(0:Int)&&(e.val.text==ByteArray.mk #[]&&true)),wk At.ref11_ValidExpr (p_7++[sg h40,sb h41,sc c45,sg h46,sq zaP]) kr⟩
        ·obtain ⟨r47,c47⟩:=(zaw e.name)
         rcases (Bool.eq_false_or_eq_true r47).symm with h48|h48
         ·exact ⟨false,wk At.ref11_ValidExpr (p_7++[sb h40,sc c47,sb h48]) kr⟩
         ·exact ⟨e.val.kind==(0:Int)&&(e.val.int==(0:Int)&&(e.val.text==ByteArray.mk #[]&&true)),wk At.ref11_ValidExpr (p_7++[sb h40,sc c47,sg h48,sq zaP]) kr⟩
       ·obtain ⟨r49,c49⟩:=(zaw e.name)
        let p_8:List St:=p_1++[sg h3,sb h30,sb h31,sb h32,sb h38,sc c49]
        rcases (Bool.eq_false_or_eq_true r49).symm with h50|h50
        ·exact ⟨false,wk At.ref11_ValidExpr (p_8++[sb h50]) kr⟩
        ·exact ⟨e.val.kind==(0:Int)&&(e.val.int==(0:Int)&&(e.val.text==ByteArray.mk #[]&&true)),wk At.ref11_ValidExpr (p_8++[sg h50,sq zaP]) kr⟩
     ·obtain ⟨r51,c51⟩:=(zdo e.val)
      rcases (Bool.eq_false_or_eq_true r51).symm with h52|h52
      ·exact ⟨false,wk At.ref11_ValidExpr (p_1++[sg h3,sb h30,sb h31,sc c51,sb h52]) kr⟩
      ·cases h53:e.val.kind != 1
       ·let p_9:List St:=p_1++[sg h3,sb h30,sb h31,sc c51,sg h52,sg h53]
        cases h54:decide (0≤e.val.int)
        ·exact ⟨false,wk At.ref11_ValidExpr (p_9++[sb h54]) kr⟩
        ·cases h55:ByteArray.toList e.table==(ByteArray.mk #[]).toList
         ·exact ⟨false,wk At.ref11_ValidExpr (p_9++[sg h54,sb h55]) kr⟩
         ·exact ⟨ByteArray.toList e.name==(ByteArray.mk #[]).toList,wk At.ref11_ValidExpr (p_9++[sg h54,sg h55]) kr⟩
       ·let p_10:List St:=p_1++[sg h3,sb h30,sb h31,sc c51,sg h52,sb h53]
        cases h56:ByteArray.toList e.table==(ByteArray.mk #[]).toList
        ·exact ⟨false,wk At.ref11_ValidExpr (p_10++[sb h56]) kr⟩
        ·exact ⟨ByteArray.toList e.name==(ByteArray.mk #[]).toList,wk At.ref11_ValidExpr (p_10++[sg h56]) kr⟩
    ·exact ⟨false,wk At.ref11_ValidExpr (p_1++[sg h3,sb h30]) kr⟩
  ·let p_11:List St:=[sc (zbk e),sg h1,sg h2]
   cases h57:e.op != 0
   ·cases h58:e.kind != 6
    ·cases h59:e.kind==1
     ·cases h60:e.kind==2
      ·obtain ⟨r61,c61⟩:=(zef e)
       let p_12:List St:=p_11++[sg h57,sb h58,sb h59,sb h60,sc c61]
       cases h62:!r61
       ·obtain ⟨b63,c63⟩:=ha
        cases h64:!b63
        ·rcases zb3 e zaD zaD 0 zaD zaD with ⟨q65,q65_1,g65⟩|⟨r65_0,g65⟩
         ·exact ⟨true,wkc At.ref11_ValidExpr (p_12++[sg h62,sc c63,sb h64]) [1,99,100,101] 1 kr (g65 _ (zaa (wkr [sb q65_1] kr)))⟩
         ·exact ⟨r65_0,wkc At.ref11_ValidExpr (p_12++[sg h62,sc c63,sb h64]) [1,99,100,101] 1 kr (g65)⟩
        ·exact ⟨false,wk At.ref11_ValidExpr (p_12++[sg h62,sc c63,sb h64]) kr⟩
       ·exact ⟨false,wk At.ref11_ValidExpr (p_12++[sb h62]) kr⟩
      ·cases h66:ByteArray.toList e.table==(ByteArray.mk #[]).toList
       ·obtain ⟨r67,c67⟩:=(zcX e.table)
        let p_13:List St:=p_11++[sg h57,sb h58,sb h59,sb h60,sg h66,sc c67]
        rcases (Bool.eq_false_or_eq_true r67).symm with h68|h68
        ·cases h69:ByteArray.toList e.table==(ByteArray.mk #[78,69,87]).toList
         ·cases h70:ByteArray.toList e.table==(ByteArray.mk #[79,76,68]).toList
          ·exact ⟨false,wk At.ref11_ValidExpr (p_13++[sg h68,sg h69,sb h70]) kr⟩
          ·obtain ⟨r71,c71⟩:=(zaw e.name)
           rcases (Bool.eq_false_or_eq_true r71).symm with h72|h72
           ·exact ⟨false,wk At.ref11_ValidExpr (p_13++[sg h68,sg h69,sg h70,sc c71,sb h72]) kr⟩
           ·exact ⟨e.val.kind==(0:Int)&&(e.val.int==(0:Int)&&(e.val.text==ByteArray.mk #[]&&true)),wk At.ref11_ValidExpr (p_13++[sg h68,sg h69,sg h70,sc c71,sg h72,sq zaP]) kr⟩
         ·obtain ⟨r73,c73⟩:=(zaw e.name)
          rcases (Bool.eq_false_or_eq_true r73).symm with h74|h74
          ·exact ⟨false,wk At.ref11_ValidExpr (p_13++[sg h68,sb h69,sc c73,sb h74]) kr⟩
          ·exact ⟨e.val.kind==(0:Int)&&(e.val.int==(0:Int)&&(e.val.text==ByteArray.mk #[]&&true)),wk At.ref11_ValidExpr (p_13++[sg h68,sb h69,sc c73,sg h74,sq zaP]) kr⟩
        ·obtain ⟨r75,c75⟩:=(zaw e.name)
         rcases (Bool.eq_false_or_eq_true r75).symm with h76|h76
         ·exact ⟨false,wk At.ref11_ValidExpr (p_13++[sb h68,sc c75,sb h76]) kr⟩
         ·exact ⟨e.val.kind==(0:Int)&&(e.val.int==(0:Int)&&(e.val.text==ByteArray.mk #[]&&true)),wk At.ref11_ValidExpr (p_13++[sb h68,sc c75,sg h76,sq zaP]) kr⟩
       ·obtain ⟨r77,c77⟩:=(zaw e.name)
        let p_14:List St:=p_11++[sg h57,sb h58,sb h59,sb h60,sb h66,sc c77]
        rcases (Bool.eq_false_or_eq_true r77).symm with h78|h78
        ·exact ⟨false,wk At.ref11_ValidExpr (p_14++[sb h78]) kr⟩
        ·exact ⟨e.val.kind==(0:Int)&&(e.val.int==(0:Int)&&(e.val.text==ByteArray.mk #[]&&true)),wk At.ref11_ValidExpr (p_14++[sg h78,sq zaP]) kr⟩
     ·obtain ⟨r79,c79⟩:=(zdo e.val)
      rcases (Bool.eq_false_or_eq_true r79).symm with h80|h80
      ·exact ⟨false,wk At.ref11_ValidExpr (p_11++[sg h57,sb h58,sb h59,sc c79,sb h80]) kr⟩
      ·let p_15:List St:=p_11++[sg h57,sb h58,sb h59,sc c79,sg h80]
       cases h81:e.val.kind != 1
       ·cases h82:decide (0≤e.val.int)
        ·exact ⟨false,wk At.ref11_ValidExpr (p_15++[sg h81,sb h82]) kr⟩
        ·cases h83:ByteArray.toList e.table==(ByteArray.mk #[]).toList
         ·exact ⟨false,wk At.ref11_ValidExpr (p_15++[sg h81,sg h82,sb h83]) kr⟩
         ·exact ⟨ByteArray.toList e.name==(ByteArray.mk #[]).toList,wk At.ref11_ValidExpr (p_15++[sg h81,sg h82,sg h83]) kr⟩
       ·cases h84:ByteArray.toList e.table==(ByteArray.mk #[]).toList
        ·exact ⟨false,wk At.ref11_ValidExpr (p_15++[sb h81,sb h84]) kr⟩
        ·exact ⟨ByteArray.toList e.name==(ByteArray.mk #[]).toList,wk At.ref11_ValidExpr (p_15++[sb h81,sg h84]) kr⟩
    ·cases h85:e.not
     ·cases h86:e.kind==1
      ·cases h87:e.kind==2
       ·obtain ⟨r88,c88⟩:=(zef e)
        let p_16:List St:=p_11++[sg h57,sg h58,sb h85,sb h86,sb h87,sc c88]
        cases h89:!r88
        ·obtain ⟨b90,c90⟩:=ha
         cases h91:!b90
         ·rcases zb3 e zaD zaD 0 zaD zaD with ⟨q92,q92_1,g92⟩|⟨r92_0,g92⟩
          ·exact ⟨true,wkc At.ref11_ValidExpr (p_16++[sg h89,sc c90,sb h91]) [1,99,100,101] 1 kr (g92 _ (zaa (wkr [sb q92_1] kr)))⟩
          ·exact ⟨r92_0,wkc At.ref11_ValidExpr (p_16++[sg h89,sc c90,sb h91]) [1,99,100,101] 1 kr (g92)⟩
         ·exact ⟨false,wk At.ref11_ValidExpr (p_16++[sg h89,sc c90,sb h91]) kr⟩
        ·exact ⟨false,wk At.ref11_ValidExpr (p_16++[sb h89]) kr⟩
       ·let p_17:List St:=p_11++[sg h57,sg h58,sb h85,sb h86,sb h87]
        cases h93:ByteArray.toList e.table==(ByteArray.mk #[]).toList
        ·obtain ⟨r94,c94⟩:=(zcX e.table)
         rcases (Bool.eq_false_or_eq_true r94).symm with h95|h95
         ·cases h96:ByteArray.toList e.table==(ByteArray.mk #[78,69,87]).toList
          ·cases h97:ByteArray.toList e.table==(ByteArray.mk #[79,76,68]).toList
           ·exact ⟨false,wk At.ref11_ValidExpr (p_17++[sg h93,sc c94,sg h95,sg h96,sb h97]) kr⟩
           ·obtain ⟨r98,c98⟩:=(zaw e.name)
            let p_18:List St:=p_17++[sg h93,sc c94,sg h95,sg h96,sg h97,sc c98]
            rcases (Bool.eq_false_or_eq_true r98).symm with h99|h99
            ·exact ⟨false,wk At.ref11_ValidExpr (p_18++[sb h99]) kr⟩
            ·exact ⟨e.val.kind==(0:Int)&&(e.val.int==(0:Int)&&(e.val.text==ByteArray.mk #[]&&true)),wk At.ref11_ValidExpr (p_18++[sg h99,sq zaP]) kr⟩
          ·obtain ⟨r100,c100⟩:=(zaw e.name)
           let p_19:List St:=p_17++[sg h93,sc c94,sg h95,sb h96,sc c100]
           rcases (Bool.eq_false_or_eq_true r100).symm with h101|h101
           ·exact ⟨false,wk At.ref11_ValidExpr (p_19++[sb h101]) kr⟩
           ·exact ⟨e.val.kind==(0:Int)&&(e.val.int==(0:Int)&&(e.val.text==ByteArray.mk #[]&&true)),wk At.ref11_ValidExpr (p_19++[sg h101,sq zaP]) kr⟩
         ·obtain ⟨r102,c102⟩:=(zaw e.name)
          rcases (Bool.eq_false_or_eq_true r102).symm with h103|h103
          ·exact ⟨false,wk At.ref11_ValidExpr (p_17++[sg h93,sc c94,sb h95,sc c102,sb h103]) kr⟩
          ·exact ⟨e.val.kind==(0:Int)&&(e.val.int==(0:Int)&&(e.val.text==ByteArray.mk #[]&&true)),wk At.ref11_ValidExpr (p_17++[sg h93,sc c94,sb h95,sc c102,sg h103,sq zaP]) kr⟩
        ·obtain ⟨r104,c104⟩:=(zaw e.name)
         rcases (Bool.eq_false_or_eq_true r104).symm with h105|h105
         ·exact ⟨false,wk At.ref11_ValidExpr (p_17++[sb h93,sc c104,sb h105]) kr⟩
         ·exact ⟨e.val.kind==(0:Int)&&(e.val.int==(0:Int)&&(e.val.text==ByteArray.mk #[]&&true)),wk At.ref11_ValidExpr (p_17++[sb h93,sc c104,sg h105,sq zaP]) kr⟩
      ·obtain ⟨r106,c106⟩:=(zdo e.val)
       let p_20:List St:=p_11++[sg h57,sg h58,sb h85,sb h86,sc c106]
       rcases (Bool.eq_false_or_eq_true r106).symm with h107|h107
       ·exact ⟨false,wk At.ref11_ValidExpr (p_20++[sb h107]) kr⟩
       ·cases h108:e.val.kind != 1
        ·cases h109:decide (0≤e.val.int)
         ·exact ⟨false,wk At.ref11_ValidExpr (p_20++[sg h107,sg h108,sb h109]) kr⟩
         ·cases h110:ByteArray.toList e.table==(ByteArray.mk #[]).toList
          ·exact ⟨false,wk At.ref11_ValidExpr (p_20++[sg h107,sg h108,sg h109,sb h110]) kr⟩
          ·exact ⟨ByteArray.toList e.name==(ByteArray.mk #[]).toList,wk At.ref11_ValidExpr (p_20++[sg h107,sg h108,sg h109,sg h110]) kr⟩
        ·cases h111:ByteArray.toList e.table==(ByteArray.mk #[]).toList
         ·exact ⟨false,wk At.ref11_ValidExpr (p_20++[sg h107,sb h108,sb h111]) kr⟩
         ·exact ⟨ByteArray.toList e.name==(ByteArray.mk #[]).toList,wk At.ref11_ValidExpr (p_20++[sg h107,sb h108,sg h111]) kr⟩
     ·exact ⟨false,wk At.ref11_ValidExpr (p_11++[sg h57,sg h58,sb h85]) kr⟩
   ·exact ⟨false,wk At.ref11_ValidExpr (p_11++[sb h57]) kr⟩
 ·exact ⟨false,wk At.ref11_ValidExpr [sc (zbk e),sb h1] kr⟩
theorem vxOk:∀ (n:Nat) (e:X),XOk n e→VxOk e
 | 0,_,h=>h.elim
 | n+1,e,⟨_,ha,hx,hs⟩=>zkv e (Thin.short ha.2) (zfF _ (Thin.short ha.1) fun x h=>vxOk n x (hx x h)) fun q h =>
   ⟨zfF _ (Thin.short (hs q h).1.1) fun x h'=>vxOk n x ((hs q h).2.1 x h'),zfF _ (Thin.short (hs q h).1.2) fun x h'=>vxOk n x ((hs q h).2.2 x h')⟩
theorem vlOk {n:Nat} {l:List X} (hf:Few l) (h:∀ x∈l,XOk n x):VlOk l:=zfF l (zaK hf) fun x hx=>vxOk n x (h x hx)
theorem zjL (q:Qy) (hqa:∃ b:Bool,zac E0 S.ref11_all [xsl q.items] [] (bv b) []) (hqb:∃ b:Bool,zac E0 S.ref11_all [xsl q.wh] [] (bv b) []):∃ (r:Bool),zac E0 S.ref11_ValidQuery [q.av] [] (bv r) []:=by
 obtain ⟨r1,c1⟩:=(zcX q.frm)
 cases h2:!r1
 ·cases h3:decide (1 < (↑(zab q.wh).length:Int))
  ·cases h4:decide (8 < (↑(zab q.items).length:Int))
   ·cases h5:!q.star==((↑(zab q.items).length:Int)==0)
    ·obtain ⟨b6,c6⟩:=hqa
     let p_1:List St:=[sc c1,sg h2,sg h3,sg h4,sb h5,sc c6]
     rcases (Bool.eq_false_or_eq_true b6).symm with h7|h7
     ·exact ⟨false,wk At.ref11_ValidQuery (p_1++[sb h7]) kr⟩
     ·obtain ⟨b8,c8⟩:=hqb
      exact ⟨b8,wk At.ref11_ValidQuery (p_1++[sg h7,sc c8]) kr⟩
    ·exact ⟨false,wk At.ref11_ValidQuery [sc c1,sg h2,sg h3,sg h4,sb h5] kr⟩
   ·exact ⟨false,wk At.ref11_ValidQuery [sc c1,sg h2,sg h3,sb h4] kr⟩
  ·exact ⟨false,wk At.ref11_ValidQuery [sc c1,sg h2,sb h3] kr⟩
 ·exact ⟨false,wk At.ref11_ValidQuery [sc c1,sb h2] kr⟩
noncomputable def L_vi (a:Ac) (i:Nat) :Cfg:=zat B.ref11_validInsert 0 [(1,.p 0 0),(27,.sl (a.rows.map zaF)),(28,iv ((a.rows.map zaF).length:Nat)),(29,iv (i:Nat))] [.box a.cells]
theorem zft (a:Ac) (hs:zad a.rows) (hr:∀ r∈a.rows,VlOk r) (i:Nat)  (hi:i≤(a.rows).length) (hI:True):((True)∧(decide ((((a.rows).length:Nat):Int) < (((a.rows.map zaF).length:Nat):Int))=false)∧∀ R,Good E0 B.ref11_validInsert [] (L_vi a (a.rows).length ) R→Good E0 B.ref11_validInsert [] (L_vi a i ) R)∨(∃ (r:Bool),Good E0 B.ref11_validInsert [] (L_vi a i ) (Shut 0 fun rZ hZ=>rZ=(bv r)∧hZ=[])):=by
 obtain ⟨kk,hk⟩:∃ kk,i+kk=(a.rows).length:=⟨(a.rows).length - i,by omega⟩
 induction kk generalizing i  hI with
 | zero =>
  have e0:i=(a.rows).length:=by omega
  subst e0
  exact .inl ⟨hI,by simp,fun R hg=>hg⟩
 | succ kk ih =>
  obtain ⟨x,hx⟩:=zax (l:=a.rows) (i:=i) (by omega)
  have h0:decide (((i:Nat):Int) < (((a.rows.map zaF).length:Nat):Int))=true:=by simp;omega
  have hw:IntKind.i64.wrap (((i:Nat):Int)+1)=((i+1:Nat):Int):=zao i zgS
  have hi1:=hr x (List.mem_of_getElem? hx)
  let p_1:List St:=[sb h0,se (zah zaF hx rfl)]
  cases h1:decide ((↑(zab x).length:Int) < 1)
  ·cases h2:decide (6 < (↑(zab x).length:Int))
   ·obtain ⟨b3,c3⟩:=hi1
    cases h4:!b3
    ·exact (ih (i+1) (by omega) zcO (by omega)).elim (fun ⟨qZ,xZ,gZ⟩=>.inl ⟨qZ,xZ,fun R hg=>zaa (wkl (p_1++[sg h1,sg h2,sc c3,sb h4,si hw]) [1,27,28,29] 1 kr (gZ R hg))⟩) (fun ⟨rY,gZ⟩=>.inr ⟨rY,zaa (wkl [sb h0,se (zah zaF hx rfl),sg h1,sg h2,sc c3,sb h4,si hw] [1,27,28,29] 1 kr gZ)⟩)
    ·exact .inr ⟨false,zaa (wkr (p_1++[sg h1,sg h2,sc c3,sb h4]) kr)⟩
   ·exact .inr ⟨false,zaa (wkr (p_1++[sg h1,sb h2]) kr)⟩
  ·exact .inr ⟨false,zaa (wkr (p_1++[sb h1]) kr)⟩
theorem zju (a:Ac) (hs:zad a.rows) (hr:∀ r∈a.rows,VlOk r) (hq:∀ q∈a.query,∃ b:Bool,zac E0 S.ref11_ValidQuery [q.av] [] (bv b) []):∃ (r:Bool),zac E0 S.ref11_validInsert [a.av] [] (bv r) []:=by
 cases h1:decide (1 < (↑(zae a.query).length:Int))
 ·cases h2:((↑(zae a.query).length:Int)==1)==decide (0 < (↑(List.map (fun r=>[AV.sl (zab r)]) a.rows).length:Int))
  ·cases h3:decide (8 < (↑(List.map (fun r=>[AV.sl (zab r)]) a.rows).length:Int))
   ·rcases zft a zhO zhO 0 zhO zhO with ⟨q4,q4_1,g4⟩|⟨r4_0,g4⟩
    ·cases h5:(↑(zae a.query).length:Int)==0
     ·obtain ⟨x6,e6⟩:=zax (l:=a.query) (i:=0) zhO
      obtain ⟨b7,c7⟩:=(hq x6 zhO)
      exact ⟨b7,wkc At.ref11_validInsert [sg h1,sg h2,sb h3] [1,27,28,29] 1 kr (g4 _ (zaa (wkr [sb q4_1,sg h5,se (zaT e6),sc c7] kr)))⟩
     ·exact ⟨true,wkc At.ref11_validInsert [sg h1,sg h2,sb h3] [1,27,28,29] 1 kr (g4 _ (zaa (wkr [sb q4_1,sb h5] kr)))⟩
    ·exact ⟨r4_0,wkc At.ref11_validInsert [sg h1,sg h2,sb h3] [1,27,28,29] 1 kr (g4)⟩
   ·exact ⟨false,wk At.ref11_validInsert [sg h1,sg h2,sb h3] kr⟩
  ·exact ⟨false,wk At.ref11_validInsert [sg h1,sb h2] kr⟩
 ·exact ⟨false,wk At.ref11_validInsert [sb h1] kr⟩
theorem zmj {α:Type} (f:α→List AV) {l:List α} {x:α} {n j m:Nat} (hx:(l.take n)[j]?=some x) (hc:(f x).length=m):ElAt ((l.map f).take n) ((j:Nat):Int) (f x) m:=by
 rw [← List.map_take]
 exact zah f hx hc
noncomputable def zpv (l:List Se) (io:Nat) (y:Se) (i:Nat) :Cfg:=zat B.ref11_validSets 1 [(0,.sl (l.map Se.cells)),(4,.p 0 0),(7,.sl (l.map Se.cells)),(8,iv ((l.map Se.cells).length:Nat)),(9,iv (io:Nat)),(26,.sl ((l.map Se.cells).take io)),(27,iv (((l.map Se.cells).take io).length:Nat)),(28,iv (i:Nat))] [.box y.cells]
theorem zfL (l:List Se) (io:Nat) (y:Se) (hl:zad l) (i:Nat)  (hi:i≤((l.take io)).length) (hI:True):((True)∧(decide (((((l.take io)).length:Nat):Int) < ((((l.map Se.cells).take io).length:Nat):Int))=false)∧∀ R,Good E0 B.ref11_validSets [] (zpv l io y ((l.take io)).length ) R→Good E0 B.ref11_validSets [] (zpv l io y i ) R)∨(∃ (r:Bool),Good E0 B.ref11_validSets [] (zpv l io y i ) (Shut 0 fun rZ hZ=>rZ=(bv r)∧hZ=[])):=by
 obtain ⟨kk,hk⟩:∃ kk,i+kk=((l.take io)).length:=⟨((l.take io)).length - i,by omega⟩
 induction kk generalizing i  hI with
 | zero =>
  have e0:i=((l.take io)).length:=by omega
  subst e0
  exact .inl ⟨hI,by simp,fun R hg=>hg⟩
 | succ kk ih =>
  obtain ⟨x,hx⟩:=zax (l:=(l.take io)) (i:=i) (by omega)
  have h0:decide (((i:Nat):Int) < ((((l.map Se.cells).take io).length:Nat):Int))=true:=by simp at *;omega
  have hw:IntKind.i64.wrap (((i:Nat):Int)+1)=((i+1:Nat):Int):=zao i (by simp only [zad] at hl;simp at hk;omega)
  have hxe:=zmj Se.cells hx rfl
  cases h1:ByteArray.toList x.col==ByteArray.toList y.col
  ·exact (ih (i+1) (by omega) zcO (by omega)).elim (fun ⟨qZ,xZ,gZ⟩=>.inl ⟨qZ,xZ,fun R hg=>zaa (wkl [sb h0,se hxe,sb h1,si hw] [0,4,7,8,9,26,27,28] 1 kr (gZ R hg))⟩) (fun ⟨rY,gZ⟩=>.inr ⟨rY,zaa (wkl [sb h0,se hxe,sb h1,si hw] [0,4,7,8,9,26,27,28] 1 kr gZ)⟩)
  ·exact .inr ⟨false,zaa (wkr [sb h0,se hxe,sb h1] kr)⟩
noncomputable def zpX (l:List Se) (i:Nat) :Cfg:=zat B.ref11_validSets 0 [(0,.sl (l.map Se.cells)),(7,.sl (l.map Se.cells)),(8,iv ((l.map Se.cells).length:Nat)),(9,iv (i:Nat))] []
theorem zfJ (l:List Se) (hl:zad l) (hv:∀ s∈l,VxOk s.ex) (i:Nat)  (hi:i≤(l).length) (hI:True):((True)∧(decide ((((l).length:Nat):Int) < (((l.map Se.cells).length:Nat):Int))=false)∧∀ R,Good E0 B.ref11_validSets [] (zpX l (l).length ) R→Good E0 B.ref11_validSets [] (zpX l i ) R)∨(∃ (r:Bool),Good E0 B.ref11_validSets [] (zpX l i ) (Shut 0 fun rZ hZ=>rZ=(bv r)∧hZ=[])):=by
 obtain ⟨kk,hk⟩:∃ kk,i+kk=(l).length:=⟨(l).length - i,by omega⟩
 induction kk generalizing i  hI with
 | zero =>
  have e0:i=(l).length:=by omega
  subst e0
  exact .inl ⟨hI,by simp,fun R hg=>hg⟩
 | succ kk ih =>
  obtain ⟨x,hx⟩:=zax (l:=l) (i:=i) (by omega)
  have h0:decide (((i:Nat):Int) < (((l.map Se.cells).length:Nat):Int))=true:=by simp;omega
  have hw:IntKind.i64.wrap (((i:Nat):Int)+1)=((i+1:Nat):Int):=zao i zgS
  have hi1:=hv x (List.mem_of_getElem? hx)
  obtain ⟨r1,c1⟩:=(zaw x.col)
  let p_1:List St:=[sb h0,se (zah Se.cells hx rfl),sc c1]
  cases h2:!r1
  ·obtain ⟨b3,c3⟩:=hi1
   cases h4:!b3
   ·let p_2:List St:=p_1++[sg h2,sc c3,sb h4,sqx (SubAt (List.map Se.cells l) 0 (i:Int) 11)]
    rcases zfL l i x zaD 0 zaD zaD with ⟨q5,q5_1,g5⟩|⟨r5_0,g5⟩
    ·exact (ih (i+1) (by omega) zcO (by omega)).elim (fun ⟨qZ,xZ,gZ⟩=>.inl ⟨qZ,xZ,fun R hg=>zaa (wkl p_2 [0,4,7,8,9,26,27,28] 1 kr (g5 _ (zaa (wkl [sb q5_1,si hw] [0,7,8,9] 0 kr (gZ R hg)))))⟩) (fun ⟨rY,gZ⟩=>.inr ⟨rY,zaa (wkl [sb h0,se (zah Se.cells hx rfl),sc c1,sg h2,sc c3,sb h4,sqx (SubAt (List.map Se.cells l) 0 (i:Int) 11)] [0,4,7,8,9,26,27,28] 1 kr (g5 _ (zaa (wkl [sb q5_1,si hw] [0,7,8,9] 0 kr gZ))))⟩)
    ·exact .inr ⟨r5_0,zaa (wkl p_2 [0,4,7,8,9,26,27,28] 1 kr g5)⟩
   ·exact .inr ⟨false,zaa (wkr (p_1++[sg h2,sc c3,sb h4]) kr)⟩
  ·exact .inr ⟨false,zaa (wkr (p_1++[sb h2]) kr)⟩
theorem zku (l:List Se) (hl:zad l) (hv:∀ s∈l,VxOk s.ex):∃ (r:Bool),zac E0 S.ref11_validSets [.sl (l.map Se.cells)] [] (bv r) []:=by
 rcases zfJ l zaD zaD 0 zaD zaD with ⟨q1,q1_1,g1⟩|⟨r1_0,g1⟩
 ·exact ⟨true,wkc At.ref11_validSets [] [0,7,8,9] 0 kr (g1 _ (zaa (wkr [sb q1_1] kr)))⟩
 ·exact ⟨r1_0,wkc At.ref11_validSets [] [0,7,8,9] 0 kr (g1)⟩
noncomputable def zpR (l:List Str) (io:Nat) (y:Str) (i:Nat) :Cfg:=zat B.ref11_names 1 [(0,ssl l),(4,sv y),(10,ssl l),(11,iv ((l.map zaU).length:Nat)),(12,iv (io:Nat)),(22,.sl ((l.map zaU).take io)),(23,iv (((l.map zaU).take io).length:Nat)),(24,iv (i:Nat))] []
theorem zha (l:List Str) (io:Nat) (y:Str) (hl:zad l) (i:Nat)  (hi:i≤((l.take io)).length) (hI:True):((True)∧(decide (((((l.take io)).length:Nat):Int) < ((((l.map zaU).take io).length:Nat):Int))=false)∧∀ R,Good E0 B.ref11_names [] (zpR l io y ((l.take io)).length ) R→Good E0 B.ref11_names [] (zpR l io y i ) R)∨(∃ (r:Bool),Good E0 B.ref11_names [] (zpR l io y i ) (Shut 0 fun rZ hZ=>rZ=(bv r)∧hZ=[])):=by
 obtain ⟨kk,hk⟩:∃ kk,i+kk=((l.take io)).length:=⟨((l.take io)).length - i,by omega⟩
 induction kk generalizing i  hI with
 | zero =>
  have e0:i=((l.take io)).length:=by omega
  subst e0
  exact .inl ⟨hI,by simp,fun R hg=>hg⟩
 | succ kk ih =>
  obtain ⟨x,hx⟩:=zax (l:=(l.take io)) (i:=i) (by omega)
  have h0:decide (((i:Nat):Int) < ((((l.map zaU).take io).length:Nat):Int))=true:=by simp at *;omega
  have hw:IntKind.i64.wrap (((i:Nat):Int)+1)=((i+1:Nat):Int):=zao i (by simp only [zad] at hl;simp at hk;omega)
  have hxe:=zmj zaU hx rfl
  cases h1:ByteArray.toList x==ByteArray.toList y
  ·exact (ih (i+1) (by omega) zcO (by omega)).elim (fun ⟨qZ,xZ,gZ⟩=>.inl ⟨qZ,xZ,fun R hg=>zaa (wkl [sb h0,se hxe,sb h1,si hw] [0,4,10,11,12,22,23,24] 0 kr (gZ R hg))⟩) (fun ⟨rY,gZ⟩=>.inr ⟨rY,zaa (wkl [sb h0,se hxe,sb h1,si hw] [0,4,10,11,12,22,23,24] 0 kr gZ)⟩)
  ·exact .inr ⟨false,zaa (wkr [sb h0,se hxe,sb h1] kr)⟩
noncomputable def zpI (l:List Str) (i:Nat) :Cfg:=zat B.ref11_names 0 [(0,ssl l),(10,ssl l),(11,iv ((l.map zaU).length:Nat)),(12,iv (i:Nat))] []
theorem zg0 (l:List Str) (hl:zad l) (i:Nat)  (hi:i≤(l).length) (hI:True):((True)∧(decide ((((l).length:Nat):Int) < (((l.map zaU).length:Nat):Int))=false)∧∀ R,Good E0 B.ref11_names [] (zpI l (l).length ) R→Good E0 B.ref11_names [] (zpI l i ) R)∨(∃ (r:Bool),Good E0 B.ref11_names [] (zpI l i ) (Shut 0 fun rZ hZ=>rZ=(bv r)∧hZ=[])):=by
 obtain ⟨kk,hk⟩:∃ kk,i+kk=(l).length:=⟨(l).length - i,by omega⟩
 induction kk generalizing i  hI with
 | zero =>
  have e0:i=(l).length:=by omega
  subst e0
  exact .inl ⟨hI,by simp,fun R hg=>hg⟩
 | succ kk ih =>
  obtain ⟨x,hx⟩:=zax (l:=l) (i:=i) (by omega)
  have h0:decide (((i:Nat):Int) < (((l.map zaU).length:Nat):Int))=true:=by simp;omega
  have hw:IntKind.i64.wrap (((i:Nat):Int)+1)=((i+1:Nat):Int):=zao i zgS
  obtain ⟨r1,c1⟩:=(zaw x)
  let p_1:List St:=[sb h0,se (zah (fun s=>[sv s]) hx rfl),sc c1]
  cases h2:!r1
  ·let p_2:List St:=p_1++[sb h2,sqx (SubAt (List.map (fun s=>[sv s]) l) 0 (i:Int) 1)]
   rcases zha l i x zaD 0 zaD zaD with ⟨q3,q3_1,g3⟩|⟨r3_0,g3⟩
   ·exact (ih (i+1) (by omega) zcO (by omega)).elim (fun ⟨qZ,xZ,gZ⟩=>.inl ⟨qZ,xZ,fun R hg=>zaa (wkl p_2 [0,4,10,11,12,22,23,24] 0 kr (g3 _ (zaa (wkl [sb q3_1,si hw] [0,10,11,12] 0 kr (gZ R hg)))))⟩) (fun ⟨rY,gZ⟩=>.inr ⟨rY,zaa (wkl [sb h0,se (zah (fun s=>[sv s]) hx rfl),sc c1,sb h2,sqx (SubAt (List.map (fun s=>[sv s]) l) 0 (i:Int) 1)] [0,4,10,11,12,22,23,24] 0 kr (g3 _ (zaa (wkl [sb q3_1,si hw] [0,10,11,12] 0 kr gZ))))⟩)
   ·exact .inr ⟨r3_0,zaa (wkl p_2 [0,4,10,11,12,22,23,24] 0 kr g3)⟩
  ·exact .inr ⟨false,zaa (wkr (p_1++[sb h2]) kr)⟩
theorem zc3 (l:List Str) (hl:zad l):∃ (r:Bool),zac E0 S.ref11_names [ssl l] [] (bv r) []:=by
 cases h1:decide (8 < (↑(List.map (fun s=>[sv s]) l).length:Int))
 ·rcases zg0 l zaD 0 zaD zaD with ⟨q2,q2_1,g2⟩|⟨r2_0,g2⟩
  ·exact ⟨true,wkc At.ref11_names [sb h1] [0,10,11,12] 0 kr (g2 _ (zaa (wkr [sb q2_1] kr)))⟩
  ·exact ⟨r2_0,wkc At.ref11_names [sb h1] [0,10,11,12] 0 kr (g2)⟩
 ·exact ⟨false,wk At.ref11_names [sb h1] kr⟩
theorem vqOk {n:Nat} {q:Qy} (h:QW n q):∃ b:Bool,zac E0 S.ref11_ValidQuery [q.av] [] (bv b) []:=zjL q (vlOk h.items h.hi) (vlOk h.wh h.hw)
abbrev acc (k:Int) (a:Ac):List AV:=[iv k,sv a.table,.sl (a.rows.map zaF),.sl (zae a.query),.sl (a.sets.map Se.cells),.sl (zab a.wh),sv a.text]
theorem zg9 (a:Ac) (hw:∃ b:Bool,zac E0 S.ref11_all [xsl a.wh] [] (bv b) []) (hi:∃ b:Bool,zac E0 S.ref11_validInsert [.agg (acc 1 a)] [] (bv b) []) (hs:∃ b:Bool,zac E0 S.ref11_validSets [.sl (a.sets.map Se.cells)] [] (bv b) []):∃ (r:Bool),zac E0 S.ref11_ValidAction [.agg (acc 1 a)] [] (bv r) []:=by
 cases h1:!(1==5)==(ByteArray.toList a.table==(ByteArray.mk #[]).toList)
 ·cases h2:!ByteArray.toList a.table==(ByteArray.mk #[]).toList
  ·let p_1:List St:=[sg (rfl:false=false),sg h1,sb h2,sg (rfl:true=true)]
   cases h3:!ByteArray.toList a.text==(ByteArray.mk #[]).toList
   ·let p_2:List St:=p_1++[sb h3,sb (rfl:false=false),sg (rfl:true=true),sg (rfl:true=true)]
    cases h4:decide (0 < (↑(List.map Se.cells a.sets).length:Int))
    ·let p_3:List St:=p_2++[sg h4,sg (rfl:true=true),sg (rfl:true=true)]
     cases h5:decide (0 < (↑(zab a.wh).length:Int))
     ·cases h6:decide (1 < (↑(zab a.wh).length:Int))
      ·obtain ⟨b7,c7⟩:=hw
       cases h8:!b7
       ·obtain ⟨b9,c9⟩:=hi
        exact ⟨b9,wk At.ref11_ValidAction (p_3++[sb h5,sg h6,sc c7,sb h8,sb (rfl:true=true),sc c9]) kr⟩
       ·exact ⟨false,wk At.ref11_ValidAction (p_3++[sb h5,sg h6,sc c7,sb h8]) kr⟩
      ·exact ⟨false,wk At.ref11_ValidAction (p_3++[sb h5,sb h6]) kr⟩
     ·exact ⟨false,wk At.ref11_ValidAction (p_3++[sb h5]) kr⟩
    ·exact ⟨false,wk At.ref11_ValidAction (p_2++[sb h4]) kr⟩
   ·exact ⟨false,wk At.ref11_ValidAction (p_1++[sb h3]) kr⟩
  ·obtain ⟨r10,c10⟩:=(zaw a.table)
   let p_4:List St:=[sg (rfl:false=false),sg h1,sg h2,sc c10]
   cases h11:!r10
   ·cases h12:!ByteArray.toList a.text==(ByteArray.mk #[]).toList
    ·let p_5:List St:=p_4++[sg h11,sg (rfl:true=true),sb h12,sb (rfl:false=false),sg (rfl:true=true),sg (rfl:true=true)]
     cases h13:decide (0 < (↑(List.map Se.cells a.sets).length:Int))
     ·let p_6:List St:=p_5++[sg h13,sg (rfl:true=true),sg (rfl:true=true)]
      cases h14:decide (0 < (↑(zab a.wh).length:Int))
      ·cases h15:decide (1 < (↑(zab a.wh).length:Int))
       ·obtain ⟨b16,c16⟩:=hw
        cases h17:!b16
        ·obtain ⟨b18,c18⟩:=hi
         exact ⟨b18,wk At.ref11_ValidAction (p_6++[sb h14,sg h15,sc c16,sb h17,sb (rfl:true=true),sc c18]) kr⟩
        ·exact ⟨false,wk At.ref11_ValidAction (p_6++[sb h14,sg h15,sc c16,sb h17]) kr⟩
       ·exact ⟨false,wk At.ref11_ValidAction (p_6++[sb h14,sb h15]) kr⟩
      ·exact ⟨false,wk At.ref11_ValidAction (p_6++[sb h14]) kr⟩
     ·exact ⟨false,wk At.ref11_ValidAction (p_5++[sb h13]) kr⟩
    ·exact ⟨false,wk At.ref11_ValidAction (p_4++[sg h11,sg (rfl:true=true),sb h12]) kr⟩
   ·exact ⟨false,wk At.ref11_ValidAction (p_4++[sb h11]) kr⟩
 ·exact ⟨false,wk At.ref11_ValidAction [sg (rfl:false=false),sb h1] kr⟩
theorem zg6 (a:Ac) (hw:∃ b:Bool,zac E0 S.ref11_all [xsl a.wh] [] (bv b) []) (hi:∃ b:Bool,zac E0 S.ref11_validInsert [.agg (acc 2 a)] [] (bv b) []) (hs:∃ b:Bool,zac E0 S.ref11_validSets [.sl (a.sets.map Se.cells)] [] (bv b) []):∃ (r:Bool),zac E0 S.ref11_ValidAction [.agg (acc 2 a)] [] (bv r) []:=by
 cases h1:!(2==5)==(ByteArray.toList a.table==(ByteArray.mk #[]).toList)
 ·cases h2:!ByteArray.toList a.table==(ByteArray.mk #[]).toList
  ·let p_1:List St:=[sg (rfl:false=false),sg h1,sb h2,sg (rfl:true=true)]
   cases h3:!ByteArray.toList a.text==(ByteArray.mk #[]).toList
   ·let p_2:List St:=p_1++[sb h3,sg (rfl:true=true),si (e:=IntKind.i64.wrap ((↑(List.map zaF a.rows).length:Int)+(↑(zae a.query).length:Int))) rfl]
    cases h4:decide (0 < IntKind.i64.wrap ((↑(List.map zaF a.rows).length:Int)+(↑(zae a.query).length:Int)))
    ·let p_3:List St:=p_2++[sg h4,sb (rfl:false=false),sb (rfl:false=false)]
     cases h5:decide (1 < (↑(zab a.wh).length:Int))
     ·obtain ⟨b6,c6⟩:=hw
      cases h7:!b6
      ·let p_4:List St:=p_3++[sg h5,sc c6,sb h7,sb (rfl:false=false),sb (rfl:true=true)]
       cases h8:decide (1≤(↑(List.map Se.cells a.sets).length:Int))
       ·exact ⟨false,wk At.ref11_ValidAction (p_4++[sb h8]) kr⟩
       ·cases h9:decide ((↑(List.map Se.cells a.sets).length:Int)≤8)
        ·exact ⟨false,wk At.ref11_ValidAction (p_4++[sg h8,sb h9]) kr⟩
        ·obtain ⟨b10,c10⟩:=hs
         exact ⟨b10,wk At.ref11_ValidAction (p_4++[sg h8,sg h9,sc c10]) kr⟩
      ·exact ⟨false,wk At.ref11_ValidAction (p_3++[sg h5,sc c6,sb h7]) kr⟩
     ·exact ⟨false,wk At.ref11_ValidAction (p_3++[sb h5]) kr⟩
    ·exact ⟨false,wk At.ref11_ValidAction (p_2++[sb h4]) kr⟩
   ·exact ⟨false,wk At.ref11_ValidAction (p_1++[sb h3]) kr⟩
  ·obtain ⟨r11,c11⟩:=(zaw a.table)
   let p_5:List St:=[sg (rfl:false=false),sg h1,sg h2,sc c11]
   cases h12:!r11
   ·cases h13:!ByteArray.toList a.text==(ByteArray.mk #[]).toList
    ·let p_6:List St:=p_5++[sg h12,sg (rfl:true=true),sb h13,sg (rfl:true=true),si (e:=IntKind.i64.wrap ((↑(List.map zaF a.rows).length:Int)+(↑(zae a.query).length:Int))) rfl]
     cases h14:decide (0 < IntKind.i64.wrap ((↑(List.map zaF a.rows).length:Int)+(↑(zae a.query).length:Int)))
     ·let p_7:List St:=p_6++[sg h14,sb (rfl:false=false),sb (rfl:false=false)]
      cases h15:decide (1 < (↑(zab a.wh).length:Int))
      ·obtain ⟨b16,c16⟩:=hw
       cases h17:!b16
       ·let p_8:List St:=p_7++[sg h15,sc c16,sb h17,sb (rfl:false=false),sb (rfl:true=true)]
        cases h18:decide (1≤(↑(List.map Se.cells a.sets).length:Int))
        ·exact ⟨false,wk At.ref11_ValidAction (p_8++[sb h18]) kr⟩
        ·cases h19:decide ((↑(List.map Se.cells a.sets).length:Int)≤8)
         ·exact ⟨false,wk At.ref11_ValidAction (p_8++[sg h18,sb h19]) kr⟩
         ·obtain ⟨b20,c20⟩:=hs
          exact ⟨b20,wk At.ref11_ValidAction (p_8++[sg h18,sg h19,sc c20]) kr⟩
       ·exact ⟨false,wk At.ref11_ValidAction (p_7++[sg h15,sc c16,sb h17]) kr⟩
      ·exact ⟨false,wk At.ref11_ValidAction (p_7++[sb h15]) kr⟩
     ·exact ⟨false,wk At.ref11_ValidAction (p_6++[sb h14]) kr⟩
    ·exact ⟨false,wk At.ref11_ValidAction (p_5++[sg h12,sg (rfl:true=true),sb h13]) kr⟩
   ·exact ⟨false,wk At.ref11_ValidAction (p_5++[sb h12]) kr⟩
 ·exact ⟨false,wk At.ref11_ValidAction [sg (rfl:false=false),sb h1] kr⟩
theorem zg8 (a:Ac) (hw:∃ b:Bool,zac E0 S.ref11_all [xsl a.wh] [] (bv b) []) (hi:∃ b:Bool,zac E0 S.ref11_validInsert [.agg (acc 3 a)] [] (bv b) []) (hs:∃ b:Bool,zac E0 S.ref11_validSets [.sl (a.sets.map Se.cells)] [] (bv b) []):∃ (r:Bool),zac E0 S.ref11_ValidAction [.agg (acc 3 a)] [] (bv r) []:=by
 cases h1:!(3==5)==(ByteArray.toList a.table==(ByteArray.mk #[]).toList)
 ·cases h2:!ByteArray.toList a.table==(ByteArray.mk #[]).toList
  ·let p_1:List St:=[sg (rfl:false=false),sg h1,sb h2,sg (rfl:true=true)]
   cases h3:!ByteArray.toList a.text==(ByteArray.mk #[]).toList
   ·let p_2:List St:=p_1++[sb h3,sg (rfl:true=true),si (e:=IntKind.i64.wrap ((↑(List.map zaF a.rows).length:Int)+(↑(zae a.query).length:Int))) rfl]
    cases h4:decide (0 < IntKind.i64.wrap ((↑(List.map zaF a.rows).length:Int)+(↑(zae a.query).length:Int)))
    ·let p_3:List St:=p_2++[sg h4,sg (rfl:true=true),sg (rfl:true=true)]
     cases h5:decide (0 < (↑(List.map Se.cells a.sets).length:Int))
     ·let p_4:List St:=p_3++[sg h5,sg (rfl:true=true),sb (rfl:false=false)]
      cases h6:decide (1 < (↑(zab a.wh).length:Int))
      ·obtain ⟨b7,c7⟩:=hw
       cases h8:!b7
       ·exact ⟨true,wk At.ref11_ValidAction (p_4++[sg h6,sc c7,sb h8,sb (rfl:false=false),sb (rfl:false=false),sb (rfl:true=true)]) kr⟩
       ·exact ⟨false,wk At.ref11_ValidAction (p_4++[sg h6,sc c7,sb h8]) kr⟩
      ·exact ⟨false,wk At.ref11_ValidAction (p_4++[sb h6]) kr⟩
     ·exact ⟨false,wk At.ref11_ValidAction (p_3++[sb h5]) kr⟩
    ·exact ⟨false,wk At.ref11_ValidAction (p_2++[sb h4]) kr⟩
   ·exact ⟨false,wk At.ref11_ValidAction (p_1++[sb h3]) kr⟩
  ·obtain ⟨r9,c9⟩:=(zaw a.table)
   let p_5:List St:=[sg (rfl:false=false),sg h1,sg h2,sc c9]
   cases h10:!r9
   ·cases h11:!ByteArray.toList a.text==(ByteArray.mk #[]).toList
    ·let p_6:List St:=p_5++[sg h10,sg (rfl:true=true),sb h11,sg (rfl:true=true),si (e:=IntKind.i64.wrap ((↑(List.map zaF a.rows).length:Int)+(↑(zae a.query).length:Int))) rfl]
     cases h12:decide (0 < IntKind.i64.wrap ((↑(List.map zaF a.rows).length:Int)+(↑(zae a.query).length:Int)))
     ·let p_7:List St:=p_6++[sg h12,sg (rfl:true=true),sg (rfl:true=true)]
      cases h13:decide (0 < (↑(List.map Se.cells a.sets).length:Int))
      ·let p_8:List St:=p_7++[sg h13,sg (rfl:true=true),sb (rfl:false=false)]
       cases h14:decide (1 < (↑(zab a.wh).length:Int))
       ·obtain ⟨b15,c15⟩:=hw
        cases h16:!b15
        ·exact ⟨true,wk At.ref11_ValidAction (p_8++[sg h14,sc c15,sb h16,sb (rfl:false=false),sb (rfl:false=false),sb (rfl:true=true)]) kr⟩
        ·exact ⟨false,wk At.ref11_ValidAction (p_8++[sg h14,sc c15,sb h16]) kr⟩
       ·exact ⟨false,wk At.ref11_ValidAction (p_8++[sb h14]) kr⟩
      ·exact ⟨false,wk At.ref11_ValidAction (p_7++[sb h13]) kr⟩
     ·exact ⟨false,wk At.ref11_ValidAction (p_6++[sb h12]) kr⟩
    ·exact ⟨false,wk At.ref11_ValidAction (p_5++[sg h10,sg (rfl:true=true),sb h11]) kr⟩
   ·exact ⟨false,wk At.ref11_ValidAction (p_5++[sb h10]) kr⟩
 ·exact ⟨false,wk At.ref11_ValidAction [sg (rfl:false=false),sb h1] kr⟩
theorem zhg (a:Ac) (hw:∃ b:Bool,zac E0 S.ref11_all [xsl a.wh] [] (bv b) []) (hi:∃ b:Bool,zac E0 S.ref11_validInsert [.agg (acc 4 a)] [] (bv b) []) (hs:∃ b:Bool,zac E0 S.ref11_validSets [.sl (a.sets.map Se.cells)] [] (bv b) []):∃ (r:Bool),zac E0 S.ref11_ValidAction [.agg (acc 4 a)] [] (bv r) []:=by
 cases h1:!true==(ByteArray.toList a.table==(ByteArray.mk #[]).toList)
 ·cases h2:!ByteArray.toList a.table==(ByteArray.mk #[]).toList
  ·let p_1:List St:=[sb (rfl:true=true),sg h1,sb h2,sb (rfl:false=false),sg (rfl:true=true),si (e:=IntKind.i64.wrap ((↑(List.map zaF a.rows).length:Int)+(↑(zae a.query).length:Int))) rfl]
   cases h3:decide (0 < IntKind.i64.wrap ((↑(List.map zaF a.rows).length:Int)+(↑(zae a.query).length:Int)))
   ·let p_2:List St:=p_1++[sg h3,sg (rfl:true=true),sg (rfl:true=true)]
    cases h4:decide (0 < (↑(List.map Se.cells a.sets).length:Int))
    ·let p_3:List St:=p_2++[sg h4,sg (rfl:true=true),sg (rfl:true=true)]
     cases h5:decide (0 < (↑(zab a.wh).length:Int))
     ·cases h6:decide (1 < (↑(zab a.wh).length:Int))
      ·obtain ⟨b7,c7⟩:=hw
       cases h8:!b7
       ·obtain ⟨r9,c9⟩:=(zdo (V.mk 3 0 a.text))
        exact ⟨r9,wk At.ref11_ValidAction (p_3++[sb h5,sg h6,sc c7,sb h8,sb (rfl:false=false),sb (rfl:false=false),sb (rfl:false=false),sb (rfl:true=true),sc c9]) kr⟩
       ·exact ⟨false,wk At.ref11_ValidAction (p_3++[sb h5,sg h6,sc c7,sb h8]) kr⟩
      ·exact ⟨false,wk At.ref11_ValidAction (p_3++[sb h5,sb h6]) kr⟩
     ·exact ⟨false,wk At.ref11_ValidAction (p_3++[sb h5]) kr⟩
    ·exact ⟨false,wk At.ref11_ValidAction (p_2++[sb h4]) kr⟩
   ·exact ⟨false,wk At.ref11_ValidAction (p_1++[sb h3]) kr⟩
  ·obtain ⟨r10,c10⟩:=(zaw a.table)
   let p_4:List St:=[sb (rfl:true=true),sg h1,sg h2,sc c10]
   cases h11:!r10
   ·let p_5:List St:=p_4++[sg h11,sb (rfl:false=false),sg (rfl:true=true),si (e:=IntKind.i64.wrap ((↑(List.map zaF a.rows).length:Int)+(↑(zae a.query).length:Int))) rfl]
    cases h12:decide (0 < IntKind.i64.wrap ((↑(List.map zaF a.rows).length:Int)+(↑(zae a.query).length:Int)))
    ·let p_6:List St:=p_5++[sg h12,sg (rfl:true=true),sg (rfl:true=true)]
     cases h13:decide (0 < (↑(List.map Se.cells a.sets).length:Int))
     ·let p_7:List St:=p_6++[sg h13,sg (rfl:true=true),sg (rfl:true=true)]
      cases h14:decide (0 < (↑(zab a.wh).length:Int))
      ·cases h15:decide (1 < (↑(zab a.wh).length:Int))
       ·obtain ⟨b16,c16⟩:=hw
        cases h17:!b16
        ·obtain ⟨r18,c18⟩:=(zdo (V.mk 3 0 a.text))
         exact ⟨r18,wk At.ref11_ValidAction (p_7++[sb h14,sg h15,sc c16,sb h17,sb (rfl:false=false),sb (rfl:false=false),sb (rfl:false=false),sb (rfl:true=true),sc c18]) kr⟩
        ·exact ⟨false,wk At.ref11_ValidAction (p_7++[sb h14,sg h15,sc c16,sb h17]) kr⟩
       ·exact ⟨false,wk At.ref11_ValidAction (p_7++[sb h14,sb h15]) kr⟩
      ·exact ⟨false,wk At.ref11_ValidAction (p_7++[sb h14]) kr⟩
     ·exact ⟨false,wk At.ref11_ValidAction (p_6++[sb h13]) kr⟩
    ·exact ⟨false,wk At.ref11_ValidAction (p_5++[sb h12]) kr⟩
   ·exact ⟨false,wk At.ref11_ValidAction (p_4++[sb h11]) kr⟩
 ·exact ⟨false,wk At.ref11_ValidAction [sb (rfl:true=true),sb h1] kr⟩
theorem zg4 (a:Ac) (hw:∃ b:Bool,zac E0 S.ref11_all [xsl a.wh] [] (bv b) []) (hi:∃ b:Bool,zac E0 S.ref11_validInsert [.agg (acc 5 a)] [] (bv b) []) (hs:∃ b:Bool,zac E0 S.ref11_validSets [.sl (a.sets.map Se.cells)] [] (bv b) []):∃ (r:Bool),zac E0 S.ref11_ValidAction [.agg (acc 5 a)] [] (bv r) []:=by
 cases h1:!(5==5)==(ByteArray.toList a.table==(ByteArray.mk #[]).toList)
 ·cases h2:!ByteArray.toList a.table==(ByteArray.mk #[]).toList
  ·let p_1:List St:=[sg (rfl:false=false),sg h1,sb h2,sg (rfl:true=true)]
   cases h3:!ByteArray.toList a.text==(ByteArray.mk #[]).toList
   ·let p_2:List St:=p_1++[sb h3,sg (rfl:true=true),si (e:=IntKind.i64.wrap ((↑(List.map zaF a.rows).length:Int)+(↑(zae a.query).length:Int))) rfl]
    cases h4:decide (0 < IntKind.i64.wrap ((↑(List.map zaF a.rows).length:Int)+(↑(zae a.query).length:Int)))
    ·let p_3:List St:=p_2++[sg h4,sg (rfl:true=true),sb (rfl:false=false),sg (rfl:true=true),sg (rfl:true=true)]
     cases h5:decide (0 < (↑(zab a.wh).length:Int))
     ·cases h6:decide (1 < (↑(zab a.wh).length:Int))
      ·obtain ⟨b7,c7⟩:=hw
       cases h8:!b7
       ·let p_4:List St:=p_3++[sb h5,sg h6,sc c7,sb h8,sb (rfl:false=false),sb (rfl:false=false),sb (rfl:false=false),sb (rfl:false=false),sb (rfl:true=true)]
        cases h9:(↑(List.map Se.cells a.sets).length:Int)==1
        ·exact ⟨false,wk At.ref11_ValidAction (p_4++[sb h9]) kr⟩
        ·obtain ⟨b10,c10⟩:=hs
         exact ⟨b10,wk At.ref11_ValidAction (p_4++[sg h9,sc c10]) kr⟩
       ·exact ⟨false,wk At.ref11_ValidAction (p_3++[sb h5,sg h6,sc c7,sb h8]) kr⟩
      ·exact ⟨false,wk At.ref11_ValidAction (p_3++[sb h5,sb h6]) kr⟩
     ·exact ⟨false,wk At.ref11_ValidAction (p_3++[sb h5]) kr⟩
    ·exact ⟨false,wk At.ref11_ValidAction (p_2++[sb h4]) kr⟩
   ·exact ⟨false,wk At.ref11_ValidAction (p_1++[sb h3]) kr⟩
  ·obtain ⟨r11,c11⟩:=(zaw a.table)
   let p_5:List St:=[sg (rfl:false=false),sg h1,sg h2,sc c11]
   cases h12:!r11
   ·cases h13:!ByteArray.toList a.text==(ByteArray.mk #[]).toList
    ·let p_6:List St:=p_5++[sg h12,sg (rfl:true=true),sb h13,sg (rfl:true=true),si (e:=IntKind.i64.wrap ((↑(List.map zaF a.rows).length:Int)+(↑(zae a.query).length:Int))) rfl]
     cases h14:decide (0 < IntKind.i64.wrap ((↑(List.map zaF a.rows).length:Int)+(↑(zae a.query).length:Int)))
     ·let p_7:List St:=p_6++[sg h14,sg (rfl:true=true),sb (rfl:false=false),sg (rfl:true=true),sg (rfl:true=true)]
      cases h15:decide (0 < (↑(zab a.wh).length:Int))
      ·cases h16:decide (1 < (↑(zab a.wh).length:Int))
       ·obtain ⟨b17,c17⟩:=hw
        cases h18:!b17
        ·let p_8:List St:=p_7++[sb h15,sg h16,sc c17,sb h18,sb (rfl:false=false),sb (rfl:false=false),sb (rfl:false=false),sb (rfl:false=false),sb (rfl:true=true)]
         cases h19:(↑(List.map Se.cells a.sets).length:Int)==1
         ·exact ⟨false,wk At.ref11_ValidAction (p_8++[sb h19]) kr⟩
         ·obtain ⟨b20,c20⟩:=hs
          exact ⟨b20,wk At.ref11_ValidAction (p_8++[sg h19,sc c20]) kr⟩
        ·exact ⟨false,wk At.ref11_ValidAction (p_7++[sb h15,sg h16,sc c17,sb h18]) kr⟩
       ·exact ⟨false,wk At.ref11_ValidAction (p_7++[sb h15,sb h16]) kr⟩
      ·exact ⟨false,wk At.ref11_ValidAction (p_7++[sb h15]) kr⟩
     ·exact ⟨false,wk At.ref11_ValidAction (p_6++[sb h14]) kr⟩
    ·exact ⟨false,wk At.ref11_ValidAction (p_5++[sg h12,sg (rfl:true=true),sb h13]) kr⟩
   ·exact ⟨false,wk At.ref11_ValidAction (p_5++[sb h12]) kr⟩
 ·exact ⟨false,wk At.ref11_ValidAction [sg (rfl:false=false),sb h1] kr⟩
theorem zg2 (a:Ac) (n1:(a.kind==1)=false) (n2:(a.kind==2)=false) (n3:(a.kind==3)=false) (n4:(a.kind==4)=false) (n5:(a.kind==5)=false) (m1:(a.kind != 1)=true) (m2:(a.kind != 2)=true) (m3:(a.kind != 3)=true) (m4:(a.kind != 4)=true) (m5:(a.kind != 5)=true) (hw:∃ b:Bool,zac E0 S.ref11_all [xsl a.wh] [] (bv b) []):∃ (r:Bool),zac E0 S.ref11_ValidAction [a.av] [] (bv r) []:=by
 cases h1:!(a.kind==5)==(ByteArray.toList a.table==(ByteArray.mk #[]).toList)
 ·cases h2:!ByteArray.toList a.table==(ByteArray.mk #[]).toList
  ·cases h3:!ByteArray.toList a.text==(ByteArray.mk #[]).toList
   ·let p_1:List St:=[sg n4,sg h1,sb h2,sg m4,sb h3,sg m1,si (e:=IntKind.i64.wrap ((↑(List.map (fun r=>[AV.sl (zab r)]) a.rows).length:Int)+(↑(zae a.query).length:Int))) rfl]
    cases h4:decide (0 < IntKind.i64.wrap ((↑(List.map (fun r=>[AV.sl (zab r)]) a.rows).length:Int)+(↑(zae a.query).length:Int)))
    ·cases h5:decide (0 < (↑(List.map Se.cells a.sets).length:Int))
     ·let p_2:List St:=p_1++[sg h4,sg m2,sg m5,sg h5,sg m2,sg m3]
      cases h6:decide (0 < (↑(zab a.wh).length:Int))
      ·cases h7:decide (1 < (↑(zab a.wh).length:Int))
       ·obtain ⟨b8,c8⟩:=hw
        cases h9:!b8
        ·exact ⟨false,wk At.ref11_ValidAction (p_2++[sb h6,sg h7,sc c8,sb h9,sb n1,sb n2,sb n3,sb n4,sb n5]) kr⟩
        ·exact ⟨false,wk At.ref11_ValidAction (p_2++[sb h6,sg h7,sc c8,sb h9]) kr⟩
       ·exact ⟨false,wk At.ref11_ValidAction (p_2++[sb h6,sb h7]) kr⟩
      ·exact ⟨false,wk At.ref11_ValidAction (p_2++[sb h6]) kr⟩
     ·exact ⟨false,wk At.ref11_ValidAction (p_1++[sg h4,sg m2,sg m5,sb h5]) kr⟩
    ·exact ⟨false,wk At.ref11_ValidAction (p_1++[sb h4]) kr⟩
   ·exact ⟨false,wk At.ref11_ValidAction [sg n4,sg h1,sb h2,sg m4,sb h3] kr⟩
  ·obtain ⟨r10,c10⟩:=(zaw a.table)
   cases h11:!r10
   ·let p_3:List St:=[sg n4,sg h1,sg h2,sc c10,sg h11,sg m4]
    cases h12:!ByteArray.toList a.text==(ByteArray.mk #[]).toList
    ·let p_4:List St:=p_3++[sb h12,sg m1,si (e:=IntKind.i64.wrap ((↑(List.map (fun r=>[AV.sl (zab r)]) a.rows).length:Int)+(↑(zae a.query).length:Int))) rfl]
     cases h13:decide (0 < IntKind.i64.wrap ((↑(List.map (fun r=>[AV.sl (zab r)]) a.rows).length:Int)+(↑(zae a.query).length:Int)))
     ·cases h14:decide (0 < (↑(List.map Se.cells a.sets).length:Int))
      ·let p_5:List St:=p_4++[sg h13,sg m2,sg m5,sg h14,sg m2,sg m3]
       cases h15:decide (0 < (↑(zab a.wh).length:Int))
       ·cases h16:decide (1 < (↑(zab a.wh).length:Int))
        ·obtain ⟨b17,c17⟩:=hw
         cases h18:!b17
         ·exact ⟨false,wk At.ref11_ValidAction (p_5++[sb h15,sg h16,sc c17,sb h18,sb n1,sb n2,sb n3,sb n4,sb n5]) kr⟩
         ·exact ⟨false,wk At.ref11_ValidAction (p_5++[sb h15,sg h16,sc c17,sb h18]) kr⟩
        ·exact ⟨false,wk At.ref11_ValidAction (p_5++[sb h15,sb h16]) kr⟩
       ·exact ⟨false,wk At.ref11_ValidAction (p_5++[sb h15]) kr⟩
      ·exact ⟨false,wk At.ref11_ValidAction (p_4++[sg h13,sg m2,sg m5,sb h14]) kr⟩
     ·exact ⟨false,wk At.ref11_ValidAction (p_4++[sb h13]) kr⟩
    ·exact ⟨false,wk At.ref11_ValidAction (p_3++[sb h12]) kr⟩
   ·exact ⟨false,wk At.ref11_ValidAction [sg n4,sg h1,sg h2,sc c10,sb h11] kr⟩
 ·exact ⟨false,wk At.ref11_ValidAction [sg n4,sb h1] kr⟩
theorem zjp (a:Ac) (hw:∃ b:Bool,zac E0 S.ref11_all [xsl a.wh] [] (bv b) []) (hi:∃ b:Bool,zac E0 S.ref11_validInsert [a.av] [] (bv b) []) (hs:∃ b:Bool,zac E0 S.ref11_validSets [.sl (a.sets.map Se.cells)] [] (bv b) []):∃ (r:Bool),zac E0 S.ref11_ValidAction [a.av] [] (bv r) []:=by
 cases a with
 | mk k tb rows query sets wh text =>
  by_cases h1:k=1
  ·subst h1;exact zg9 _ hw hi hs
  by_cases h2:k=2
  ·subst h2;exact zg6 _ hw hi hs
  by_cases h3:k=3
  ·subst h3;exact zg8 _ hw hi hs
  by_cases h4:k=4
  ·subst h4;exact zhg _ hw hi hs
  by_cases h5:k=5
  ·subst h5;exact zg4 _ hw hi hs
  exact zg2 _ (by simp [h1]) (by simp [h2]) (by simp [h3]) (by simp [h4]) (by simp [h5]) (by simp [h1]) (by simp [h2]) (by simp [h3]) (by simp [h4]) (by simp [h5]) hw
noncomputable def zpW (t:Tg) (i:Nat) :Cfg:=zat B.ref11_ValidTrigger 1 [(1,.p 0 0),(112,.sl (t.acts.map Ac.cells)),(113,iv ((t.acts.map Ac.cells).length:Nat)),(114,iv (i:Nat))] [.box t.cells]
theorem zeZ (t:Tg) (h5:zad t.acts) (ha:∀ a∈t.acts,∃ b:Bool,zac E0 S.ref11_ValidAction [a.av] [] (bv b) []) (i:Nat)  (hi:i≤(t.acts).length) (hI:True):((True)∧(decide ((((t.acts).length:Nat):Int) < (((t.acts.map Ac.cells).length:Nat):Int))=false)∧∀ R,Good E0 B.ref11_ValidTrigger [] (zpW t (t.acts).length ) R→Good E0 B.ref11_ValidTrigger [] (zpW t i ) R)∨(∃ (r:Bool),Good E0 B.ref11_ValidTrigger [] (zpW t i ) (Shut 0 fun rZ hZ=>rZ=(bv r)∧hZ=[])):=by
 obtain ⟨kk,hk⟩:∃ kk,i+kk=(t.acts).length:=⟨(t.acts).length - i,by omega⟩
 induction kk generalizing i  hI with
 | zero =>
  have e0:i=(t.acts).length:=by omega
  subst e0
  exact .inl ⟨hI,by simp,fun R hg=>hg⟩
 | succ kk ih =>
  obtain ⟨x,hx⟩:=zax (l:=t.acts) (i:=i) (by omega)
  have h0:decide (((i:Nat):Int) < (((t.acts.map Ac.cells).length:Nat):Int))=true:=by simp;omega
  have hw:IntKind.i64.wrap (((i:Nat):Int)+1)=((i+1:Nat):Int):=zao i zgS
  have hxa:=ha x (List.mem_of_getElem? hx)
  obtain ⟨b1,c1⟩:=hxa
  let p_1:List St:=[sb h0,se (zah Ac.cells hx rfl),sc c1]
  let p_2:List St:=[sb h0,se (zah Ac.cells hx rfl),sc c1]
  cases h2:!b1
  ·cases h3:t.before
   ·cases h4:x.kind==5
    ·exact (ih (i+1) (by omega) zcO (by omega)).elim (fun ⟨qZ,xZ,gZ⟩=>.inl ⟨qZ,xZ,fun R hg=>zaa (wkl (p_1++[sg h2,sb h3,sb h4,si hw]) [1,112,113,114] 1 kr (gZ R hg))⟩) (fun ⟨rY,gZ⟩=>.inr ⟨rY,zaa (wkl (p_2++[sg h2,sb h3,sb h4,si hw]) [1,112,113,114] 1 kr gZ)⟩)
    ·exact .inr ⟨false,zaa (wkr (p_1++[sg h2,sb h3,sg h4,sb (congrArg Bool.not h3)]) kr)⟩
   ·cases h5:x.kind != 4
    ·cases h6:x.kind==5
     ·exact (ih (i+1) (by omega) zcO (by omega)).elim (fun ⟨qZ,xZ,gZ⟩=>.inl ⟨qZ,xZ,fun R hg=>zaa (wkl (p_1++[sg h2,sg h3,sb h5,sb h6,si hw]) [1,112,113,114] 1 kr (gZ R hg))⟩) (fun ⟨rY,gZ⟩=>.inr ⟨rY,zaa (wkl (p_2++[sg h2,sg h3,sb h5,sb h6,si hw]) [1,112,113,114] 1 kr gZ)⟩)
     ·let p_3:List St:=p_1++[sg h2,sg h3,sb h5,sg h6,sg (congrArg Bool.not h3)]
      cases h7:!t.each
      ·cases h8:t.event==3
       ·exact (ih (i+1) (by omega) zcO (by omega)).elim (fun ⟨qZ,xZ,gZ⟩=>.inl ⟨qZ,xZ,fun R hg=>zaa (wkl (p_3++[sg h7,sb h8,si hw]) [1,112,113,114] 1 kr (gZ R hg))⟩) (fun ⟨rY,gZ⟩=>.inr ⟨rY,zaa (wkl (p_2++[sg h2,sg h3,sb h5,sg h6,sg (congrArg Bool.not h3),sg h7,sb h8,si hw]) [1,112,113,114] 1 kr gZ)⟩)
       ·exact .inr ⟨false,zaa (wkr (p_3++[sg h7,sb h8]) kr)⟩
      ·exact .inr ⟨false,zaa (wkr (p_3++[sb h7]) kr)⟩
    ·cases h9:!x.kind==5
     ·let p_4:List St:=p_1++[sg h2,sg h3,sg h5,sg h9,sg (zoa h9),sg (congrArg Bool.not h3)]
      cases h10:!t.each
      ·cases h11:t.event==3
       ·exact (ih (i+1) (by omega) zcO (by omega)).elim (fun ⟨qZ,xZ,gZ⟩=>.inl ⟨qZ,xZ,fun R hg=>zaa (wkl (p_4++[sg h10,sb h11,si hw]) [1,112,113,114] 1 kr (gZ R hg))⟩) (fun ⟨rY,gZ⟩=>.inr ⟨rY,zaa (wkl (p_2++[sg h2,sg h3,sg h5,sg h9,sg (zoa h9),sg (congrArg Bool.not h3),sg h10,sb h11,si hw]) [1,112,113,114] 1 kr gZ)⟩)
       ·exact .inr ⟨false,zaa (wkr (p_4++[sg h10,sb h11]) kr)⟩
      ·exact .inr ⟨false,zaa (wkr (p_4++[sb h10]) kr)⟩
     ·exact .inr ⟨false,zaa (wkr (p_1++[sg h2,sg h3,sg h5,sb h9]) kr)⟩
  ·exact .inr ⟨false,zaa (wkr (p_1++[sb h2]) kr)⟩
noncomputable def zm2 (t:Tg) (i:Nat) :Cfg:=zat B.ref11_ValidTrigger 0 [(1,.p 0 0),(84,.sl (t.rank.map Rk.cells)),(85,iv ((t.rank.map Rk.cells).length:Nat)),(86,iv (i:Nat))] [.box t.cells]
theorem zeR (t:Tg) (h4:zad t.rank) (i:Nat)  (hi:i≤(t.rank).length) (hI:True):((True)∧(decide ((((t.rank).length:Nat):Int) < (((t.rank.map Rk.cells).length:Nat):Int))=false)∧∀ R,Good E0 B.ref11_ValidTrigger [] (zm2 t (t.rank).length ) R→Good E0 B.ref11_ValidTrigger [] (zm2 t i ) R)∨(∃ (r:Bool),Good E0 B.ref11_ValidTrigger [] (zm2 t i ) (Shut 0 fun rZ hZ=>rZ=(bv r)∧hZ=[])):=by
 obtain ⟨kk,hk⟩:∃ kk,i+kk=(t.rank).length:=⟨(t.rank).length - i,by omega⟩
 induction kk generalizing i  hI with
 | zero =>
  have e0:i=(t.rank).length:=by omega
  subst e0
  exact .inl ⟨hI,by simp,fun R hg=>hg⟩
 | succ kk ih =>
  obtain ⟨x,hx⟩:=zax (l:=t.rank) (i:=i) (by omega)
  have h0:decide (((i:Nat):Int) < (((t.rank.map Rk.cells).length:Nat):Int))=true:=by simp;omega
  have hw:IntKind.i64.wrap (((i:Nat):Int)+1)=((i+1:Nat):Int):=zao i zgS
  obtain ⟨r1,c1⟩:=(zaw x.table)
  let p_1:List St:=[sb h0,se (zah Rk.cells hx rfl),sc c1]
  cases h2:!r1
  ·obtain ⟨r3,c3⟩:=(zaw x.col)
   cases h4:!r3
   ·cases h5:x.low==-9223372036854775808
    ·cases h6:x.high==-9223372036854775808
     ·exact (ih (i+1) (by omega) zcO (by omega)).elim (fun ⟨qZ,xZ,gZ⟩=>.inl ⟨qZ,xZ,fun R hg=>zaa (wkl (p_1++[sg h2,sc c3,sg h4,sg h5,sb h6,si hw]) [1,84,85,86] 1 kr (gZ R hg))⟩) (fun ⟨rY,gZ⟩=>.inr ⟨rY,zaa (wkl [sb h0,se (zah Rk.cells hx rfl),sc c1,sg h2,sc c3,sg h4,sg h5,sb h6,si hw] [1,84,85,86] 1 kr gZ)⟩)
     ·exact .inr ⟨false,zaa (wkr (p_1++[sg h2,sc c3,sg h4,sg h5,sb h6]) kr)⟩
    ·exact .inr ⟨false,zaa (wkr (p_1++[sg h2,sc c3,sg h4,sb h5]) kr)⟩
   ·exact .inr ⟨false,zaa (wkr (p_1++[sg h2,sc c3,sb h4]) kr)⟩
  ·exact .inr ⟨false,zaa (wkr (p_1++[sb h2]) kr)⟩
theorem zbC (t:Tg) (ha:∀ a∈t.acts,∃ b:Bool,zac E0 S.ref11_ValidAction [a.av] [] (bv b) []) (hsr:zad t.rank) (hsa:zad t.acts):∃ (r:Bool),Good E0 B.ref11_ValidTrigger [] (zm2 t 0) (Shut 0 fun rZ hZ=>rZ=(bv r)∧hZ=[]):=by
  rcases zeR t zaD 0 zaD zaD with ⟨q1,q1_1,g1⟩|⟨r1_0,g1⟩
  ·rcases zeZ t zaD zaD 0 zaD zaD with ⟨q2,q2_1,g2⟩|⟨r2_0,g2⟩
   ·cases h3:decide (1≤(↑(List.map Ac.cells t.acts).length:Int))
    ·exact ⟨false,wkl [] [1,84,85,86] 1 kr (g1 _ (zaa (wkl [sb q1_1] [1,112,113,114] 1 kr (g2 _ (zaa (wkr [sb q2_1,sb h3] kr))))))⟩
    ·exact ⟨decide ((↑(List.map Ac.cells t.acts).length:Int)≤(4:Int)),wkl [] [1,84,85,86] 1 kr (g1 _ (zaa (wkl [sb q1_1] [1,112,113,114] 1 kr (g2 _ (zaa (wkr [sb q2_1,sg h3] kr))))))⟩
   ·exact ⟨r2_0,wkl [] [1,84,85,86] 1 kr (g1 _ (zaa (wkl [sb q1_1] [1,112,113,114] 1 kr g2)))⟩
  ·exact ⟨r1_0,wkl [] [1,84,85,86] 1 kr (g1)⟩
theorem ziE (t:Tg) (hw:∃ b:Bool,zac E0 S.ref11_all [xsl t.when_] [] (bv b) []) (ha:∀ a∈t.acts,∃ b:Bool,zac E0 S.ref11_ValidAction [a.av] [] (bv b) []) (h1:zad t.of) (h2:zad t.prec) (h3:zad t.foll) (h4:zad t.rank) (h5:zad t.acts):∃ (r:Bool),zac E0 S.ref11_ValidTrigger [t.av] [] (bv r) []:=by
 obtain ⟨r1,c1⟩:=(zaw t.name)
 cases h2:!r1
 ·obtain ⟨r3,c3⟩:=(zaw t.table)
  cases h4:!r3
  ·cases h5:decide (t.event < 1)
   ·cases h6:decide (3 < t.event)
    ·let p_1:List St:=[sc c1,sg h2,sc c3,sg h4,sg h5,sg h6]
     cases h7:t.event != 2
     ·obtain ⟨r8,c8⟩:=(zc3 t.of zaD)
      cases h9:!r8
      ·obtain ⟨r10,c10⟩:=(zc3 t.prec zaD)
       cases h11:!r10
       ·obtain ⟨r12,c12⟩:=(zc3 t.foll zaD)
        let p_2:List St:=p_1++[sb h7,sc c8,sg h9,sc c10,sg h11,sc c12]
        cases h13:!r12
        ·cases h14:decide (1 < (↑(List.map Rk.cells t.rank).length:Int))
         ·cases h15:t.before
          ·cases h16:decide (1 < (↑(zab t.when_).length:Int))
           ·obtain ⟨b17,c17⟩:=hw
            let p_3:List St:=p_2++[sg h13,sg h14,sb h15,sg h16,sc c17]
            cases h18:!b17
            ·obtain ⟨r19_0,g19⟩:=zbC t zaD zaD zaD
             exact ⟨r19_0,wkc At.ref11_ValidTrigger (p_3++[sb h18]) [1,84,85,86] 1 kr (g19)⟩
            ·exact ⟨false,wk At.ref11_ValidTrigger (p_3++[sb h18]) kr⟩
           ·exact ⟨false,wk At.ref11_ValidTrigger (p_2++[sg h13,sg h14,sb h15,sb h16]) kr⟩
          ·cases h20:decide (0 < (↑(List.map Rk.cells t.rank).length:Int))
           ·cases h21:decide (1 < (↑(zab t.when_).length:Int))
            ·obtain ⟨b22,c22⟩:=hw
             let p_4:List St:=p_2++[sg h13,sg h14,sg h15,sg h20,sg h21,sc c22]
             cases h23:!b22
             ·obtain ⟨r24_0,g24⟩:=zbC t zaD zaD zaD
              exact ⟨r24_0,wkc At.ref11_ValidTrigger (p_4++[sb h23]) [1,84,85,86] 1 kr (g24)⟩
             ·exact ⟨false,wk At.ref11_ValidTrigger (p_4++[sb h23]) kr⟩
            ·exact ⟨false,wk At.ref11_ValidTrigger (p_2++[sg h13,sg h14,sg h15,sg h20,sb h21]) kr⟩
           ·exact ⟨false,wk At.ref11_ValidTrigger (p_2++[sg h13,sg h14,sg h15,sb h20]) kr⟩
         ·exact ⟨false,wk At.ref11_ValidTrigger (p_2++[sg h13,sb h14]) kr⟩
        ·exact ⟨false,wk At.ref11_ValidTrigger (p_2++[sb h13]) kr⟩
       ·exact ⟨false,wk At.ref11_ValidTrigger (p_1++[sb h7,sc c8,sg h9,sc c10,sb h11]) kr⟩
      ·exact ⟨false,wk At.ref11_ValidTrigger (p_1++[sb h7,sc c8,sb h9]) kr⟩
     ·cases h25:decide (0 < (↑(List.map (fun s=>[sv s]) t.of).length:Int))
      ·obtain ⟨r26,c26⟩:=(zc3 t.of zaD)
       cases h27:!r26
       ·obtain ⟨r28,c28⟩:=(zc3 t.prec zaD)
        cases h29:!r28
        ·obtain ⟨r30,c30⟩:=(zc3 t.foll zaD)
         let p_5:List St:=p_1++[sg h7,sb h25,sc c26,sg h27,sc c28,sg h29,sc c30]
         cases h31:!r30
         ·cases h32:decide (1 < (↑(List.map Rk.cells t.rank).length:Int))
          ·cases h33:t.before
           ·cases h34:decide (1 < (↑(zab t.when_).length:Int))
            ·obtain ⟨b35,c35⟩:=hw
             let p_6:List St:=p_5++[sg h31,sg h32,sb h33,sg h34,sc c35]
             cases h36:!b35
             ·obtain ⟨r37_0,g37⟩:=zbC t zaD zaD zaD
              exact ⟨r37_0,wkc At.ref11_ValidTrigger (p_6++[sb h36]) [1,84,85,86] 1 kr (g37)⟩
             ·exact ⟨false,wk At.ref11_ValidTrigger (p_6++[sb h36]) kr⟩
            ·exact ⟨false,wk At.ref11_ValidTrigger (p_5++[sg h31,sg h32,sb h33,sb h34]) kr⟩
           ·cases h38:decide (0 < (↑(List.map Rk.cells t.rank).length:Int))
            ·cases h39:decide (1 < (↑(zab t.when_).length:Int))
             ·obtain ⟨b40,c40⟩:=hw
              let p_7:List St:=p_5++[sg h31,sg h32,sg h33,sg h38,sg h39,sc c40]
              cases h41:!b40
              ·obtain ⟨r42_0,g42⟩:=zbC t zaD zaD zaD
               exact ⟨r42_0,wkc At.ref11_ValidTrigger (p_7++[sb h41]) [1,84,85,86] 1 kr (g42)⟩
              ·exact ⟨false,wk At.ref11_ValidTrigger (p_7++[sb h41]) kr⟩
             ·exact ⟨false,wk At.ref11_ValidTrigger (p_5++[sg h31,sg h32,sg h33,sg h38,sb h39]) kr⟩
            ·exact ⟨false,wk At.ref11_ValidTrigger (p_5++[sg h31,sg h32,sg h33,sb h38]) kr⟩
          ·exact ⟨false,wk At.ref11_ValidTrigger (p_5++[sg h31,sb h32]) kr⟩
         ·exact ⟨false,wk At.ref11_ValidTrigger (p_5++[sb h31]) kr⟩
        ·exact ⟨false,wk At.ref11_ValidTrigger (p_1++[sg h7,sb h25,sc c26,sg h27,sc c28,sb h29]) kr⟩
       ·exact ⟨false,wk At.ref11_ValidTrigger (p_1++[sg h7,sb h25,sc c26,sb h27]) kr⟩
      ·exact ⟨false,wk At.ref11_ValidTrigger (p_1++[sg h7,sb h25]) kr⟩
    ·exact ⟨false,wk At.ref11_ValidTrigger [sc c1,sg h2,sc c3,sg h4,sg h5,sb h6] kr⟩
   ·exact ⟨false,wk At.ref11_ValidTrigger [sc c1,sg h2,sc c3,sg h4,sb h5] kr⟩
  ·exact ⟨false,wk At.ref11_ValidTrigger [sc c1,sg h2,sc c3,sb h4] kr⟩
 ·exact ⟨false,wk At.ref11_ValidTrigger [sc c1,sb h2] kr⟩
theorem vaOk {n:Nat} {a:Ac} (h:AcOk n a):∃ b:Bool,zac E0 S.ref11_ValidAction [a.av] [] (bv b) [] :=
 zjp a (vlOk h.wh h.w) (zju a (zaK h.rows) (fun r hr=>vlOk (h.row r hr).1 (h.row r hr).2) fun q hq=>vqOk (h.qs q hq)) (zku _ (zaK h.sets) fun s hs=>vxOk n _ (h.set s hs))
theorem vtOk {n:Nat} {t:Tg} (h:TgOk n t):∃ b:Bool,zac E0 S.ref11_ValidTrigger [t.av] [] (bv b) [] :=
 ziE t (vlOk h.whens h.when_) (fun a ha=>vaOk (h.act a ha)) (zaK h.of) (zaK h.prec) (zaK h.foll) (zaK h.rank) (zaK h.acts)
end Go.AM
namespace Go.AM
set_option maxRecDepth 100000
set_option maxHeartbeats 1000000
set_option linter.unusedSimpArgs false
set_option linter.unusedVariables false
theorem zcn {p:Prop} (h:p:=by first|assumption|omega|(simp;done)|(simp;omega)):p:=h
theorem zhP {p:Prop} (h:p:=by first|(simp;done)|(simp;exact ⟨_,rfl⟩)|(simp;exact ⟨⟨_,rfl⟩,⟨_,rfl⟩⟩)):p:=h
theorem zhZ {p:Prop} (h:p:=by first|assumption|(simp [zad];done)|(simp only [zad] at *;omega)):p:=h
theorem znO {p:Prop} (h:p:=by first|trivial|assumption|(simp;done)|omega|(simp;omega)|(simp at *;omega)):p:=h
theorem zlK {p:Prop} (h:p:=by first|omega|(simp only [zad,Few] at *;omega)):p:=h
noncomputable def L_fd (s:Sch) (n:Str) (i:Nat) :Cfg:=zat B.ref4_Find 0 [(1,sv n),(8,.sl (s.cols.map Col.cells)),(9,iv ((s.cols.map Col.cells).length:Nat)),(10,iv (i:Nat))] [.box s.cells]
theorem ziQ (s:Sch) (n:Str) (h:zad s.cols) (i:Nat)  (hi:i≤(s.cols).length) (hI:True):((True)∧(decide ((((s.cols).length:Nat):Int) < (((s.cols.map Col.cells).length:Nat):Int))=false)∧∀ R,Good E0 B.ref4_Find [] (L_fd s n (s.cols).length ) R→Good E0 B.ref4_Find [] (L_fd s n i ) R)∨(∃ (r:Int),(-1≤r∧r < s.cols.length)∧Good E0 B.ref4_Find [] (L_fd s n i ) (Shut 0 fun rZ hZ=>rZ=(iv r)∧hZ=[])):=by
 obtain ⟨kk,hk⟩:∃ kk,i+kk=(s.cols).length:=⟨(s.cols).length - i,by omega⟩
 induction kk generalizing i  hI with
 | zero =>
  have e0:i=(s.cols).length:=by omega
  subst e0
  exact .inl ⟨hI,by simp,fun R hg=>hg⟩
 | succ kk ih =>
  obtain ⟨x,hx⟩:=zax (l:=s.cols) (i:=i) (by omega)
  have h0:decide (((i:Nat):Int) < (((s.cols.map Col.cells).length:Nat):Int))=true:=by simp;omega
  have hw:IntKind.i64.wrap (((i:Nat):Int)+1)=((i+1:Nat):Int):=zao i zlK
  let p_1:List St:=[sb h0,se (zah Col.cells hx rfl)]
  cases h1:ByteArray.toList x.name==ByteArray.toList n
  ·exact (ih (i+1) (by omega) znO (by omega)).elim (fun ⟨qZ,xZ,gZ⟩=>.inl ⟨qZ,xZ,fun R hg=>zaa (wkl (p_1++[sb h1,si hw]) [1,8,9,10] 1 kr (gZ R hg))⟩) (fun ⟨rY,pZ,gZ⟩=>.inr ⟨rY,pZ,zaa (wkl [sb h0,se (zah Col.cells hx rfl),sb h1,si hw] [1,8,9,10] 1 kr gZ)⟩)
  ·exact .inr ⟨(i:Int),(by (have:=(List.getElem?_eq_some_iff.mp hx).1;omega)),zaa (wkr (p_1++[sb h1]) kr)⟩
theorem zdK (s:Sch) (n:Str) (h:zad s.cols):∃ (r:Int),(-1≤r∧r < s.cols.length)∧zac E0 S.ref4_Find [s.av,sv n] [] (iv r) []:=by
 rcases ziQ s n zcn 0 zcn zcn with ⟨q1,q1_1,g1⟩|⟨r1_0,p1_0,g1⟩
 ·exact ⟨-1,(by first|assumption|omega),wkc At.ref4_Find [] [1,8,9,10] 1 kr (g1 _ (zaa (wkr [sb q1_1] kr)))⟩
 ·exact ⟨r1_0,(by first|assumption|omega),wkc At.ref4_Find [] [1,8,9,10] 1 kr (g1)⟩
noncomputable def L_cr0 :Cfg:=zat B.ref17_copyRows 0 [(3,.nl),(6,.sl []),(7,iv 0),(8,iv 0)] []
theorem zga :True∧∀ R,Good E0 B.ref17_copyRows [] (L_cr0 ) R→Good E0 B.ref17_copyRows [] (L_cr0 ) R:=⟨trivial,fun _ h=>h⟩
theorem zkV (_u:Unit) :∃ (r:List Rw),r=[]∧zac E0 S.ref17_copyRows [.sl []] [] (.sl (r.map Rw.cells)) []:=by
 obtain ⟨q1,g1⟩:=zga
 exact ⟨[],(by first|assumption|trivial|(simp;done)|omega|(simp;omega)|(simp at *;omega)),wkc At.ref17_copyRows [] [3,6,7,8] 0 kr (g1 _ (zaa (wkr [sb (rfl:false=false)] kr)))⟩
theorem zk4:zac E0 S.ref17_copyRows [.sl []] [] (.sl []) []:=by
 obtain ⟨r,rfl,h⟩:=zkV ()
 exact h
def Col.tr (c:Col):Col:=⟨c.name,c.type,false,false⟩
def trTb (n:Str) (s:Sch):Tb:=⟨⟨n,s.cols.map Col.tr⟩,1,[]⟩
noncomputable def L_tr (n:Str) (s:Sch) (i:Nat) (cs:List Col):Cfg:=zat B.ref17_transition 0 [(2,.sl []),(6,.p 1 0),(7,.p 2 0),(16,.sl (s.cols.map Col.cells)),(17,iv ((s.cols.map Col.cells).length:Nat)),(18,iv (i:Nat))] [.box s.cells,.box [sv ⟨#[]⟩,.nl,iv 0,.nl],.box [sv n,.own 3 cs.length,iv 1,.sl []],.row Ty.Column (cs.map Col.cells) false]
theorem zfP (n:Str) (s:Sch) (h:zad s.cols) (i:Nat) (cs:List Col) (hi:i≤(s.cols).length) (hI:cs=(s.cols.take i).map Col.tr):∃ (cs':List Col),(cs'=(s.cols.take (s.cols).length).map Col.tr)∧(decide ((((s.cols).length:Nat):Int) < (((s.cols.map Col.cells).length:Nat):Int))=false)∧∀ R,Good E0 B.ref17_transition [] (L_tr n s (s.cols).length cs') R→Good E0 B.ref17_transition [] (L_tr n s i cs) R:=by
 obtain ⟨kk,hk⟩:∃ kk,i+kk=(s.cols).length:=⟨(s.cols).length - i,by omega⟩
 induction kk generalizing i cs with
 | zero =>
  have e0:i=(s.cols).length:=by omega
  subst e0
  exact ⟨cs,hI,by simp,fun R hg=>hg⟩
 | succ kk ih =>
  obtain ⟨x,hx⟩:=zax (l:=s.cols) (i:=i) (by omega)
  have h0:decide (((i:Nat):Int) < (((s.cols.map Col.cells).length:Nat):Int))=true:=by simp;omega
  have hw:IntKind.i64.wrap (((i:Nat):Int)+1)=((i+1:Nat):Int):=zao i zlK
  have hcl:cs.length≤1000000000:=by rw [hI];simp only [zad,List.length_map,List.length_take] at *;omega
  obtain ⟨csZ,qZ,xZ,gZ⟩:=ih (i+1) (cs++[Col.mk x.name x.type false false]) (by omega) (by first|(simp [hI,List.take_add_one,hx,Col.tr];done)|(simp;done)) (by omega);exact ⟨csZ,qZ,xZ,fun R hg=>zaa (wkl [sb h0,se (zah Col.cells hx rfl),sqx (AllLen [[sv x.name,iv x.type,bv false,bv false]] 4∧cs.length=(List.map Col.cells cs).length∧(((List.map Col.cells cs).length+[[sv x.name,iv x.type,bv false,bv false]].length) * 32).le 140737488355328),si hw] [2,6,7,16,17,18] 4 kr (zav (show ([(2,AV.sl []),(6,AV.p 1 0),(7,AV.p 2 0),(16,AV.sl (List.map Col.cells s.cols)),(17,iv (↑(List.map Col.cells s.cols).length:Int)),(18,iv (↑(i+1):Int))]:TS)=[(2,AV.sl []),(6,AV.p 1 0),(7,AV.p 2 0),(16,AV.sl (List.map Col.cells s.cols)),(17,iv (↑(List.map Col.cells s.cols).length:Int)),(18,iv (↑(i+1):Int))] by first|rfl|(simp;done)|(simp [X.cells,Qy.cells,V.cells,Col.cells,Rw.cells,Tb.cells,Fr.cells,Sch.cells,Tp.cells,Pl.cells,xCol,xLit,xBin,xNeg,Im.cells,Lk.cells,Ac.cells,Se.cells,Tg.cells,Rk.cells];done)) (show ([Blk.box [sv s.name,AV.sl (List.map Col.cells s.cols)],Blk.box [sv (ByteArray.mk #[]),AV.nl,iv 0,AV.nl],Blk.box [sv n,AV.own 3 (List.map Col.cells cs++[[sv x.name,iv x.type,bv false,bv false]]).length,iv 1,AV.sl []],Blk.row Ty.Column (List.map Col.cells cs++[[sv x.name,iv x.type,bv false,bv false]]) false]:Heap)=[Blk.box [sv s.name,AV.sl (List.map Col.cells s.cols)],Blk.box [sv (ByteArray.mk #[]),AV.nl,iv 0,AV.nl],Blk.box [sv n,AV.own 3 (cs++[Col.mk x.name x.type false false]).length,iv 1,AV.sl []],Blk.row Ty.Column (List.map Col.cells (cs++[Col.mk x.name x.type false false])) false] by first|rfl|(simp;done)|(simp [X.cells,Qy.cells,V.cells,Col.cells,Rw.cells,Tb.cells,Fr.cells,Sch.cells,Tp.cells,Pl.cells,xCol,xLit,xBin,xNeg,Im.cells,Lk.cells,Ac.cells,Se.cells,Tg.cells,Rk.cells];done)) (gZ R hg)))⟩
theorem zjA (n:Str) (s:Sch) (h:zad s.cols):∃ (r:Tb),r=trTb n s∧zac E0 S.ref17_transition [sv n,s.av,.sl []] [] r.av []:=by
 obtain ⟨cs1,q1,q1_1,g1⟩:=zfP n s zcn 0 ([]) zcn zcn
 exact ⟨Tb.mk (Sch.mk n cs1) 1 [],(by (subst_vars;simp [trTb])),wkcN At.ref17_transition [sc zk4] [2,6,7,16,17,18] 3 [(.ob 2 1 Ty.Column,4)] kr (g1 _ (zaa (wkr [sqx (True∧cs1.length=(List.map Col.cells cs1).length∧True∧True∧True),sb q1_1,sb (rfl:false=false)] kr)))⟩
theorem zdb (n:Str) (s:Sch) (h:zad s.cols):zac E0 S.ref17_transition [sv n,s.av,.sl []] [] (trTb n s).av []:=by
 obtain ⟨r,rfl,h⟩:=zjA n s h
 exact h
noncomputable def L_tr0 (t:Tg) (s:Sch):Cfg:=zat B.ref17_Transitions 0 [(3,.p 0 0),(4,.p 1 0),(5,.p 2 0),(7,.nl),(8,.nl),(18,.sl []),(19,iv 0),(20,iv 0)] [.box t.cells,.box s.cells,.box [sv ⟨#[]⟩,.sl [],.sl [],.sl []]]
theorem zff (t:Tg) (s:Sch):True∧∀ R,Good E0 B.ref17_Transitions [] (L_tr0 t s) R→Good E0 B.ref17_Transitions [] (L_tr0 t s) R:=⟨trivial,fun _ h=>h⟩
theorem zfk (t:Tg) (s:Sch) (h:zad s.cols):∃ (r:List Tb),(r.length≤2∧∀ x∈r,∃ n,x=trTb n s)∧zac E0 S.ref17_Transitions [t.av,s.av,.agg [sv ⟨#[]⟩,.sl [],.sl [],.sl []]] [] (tsl r) []:=by
 cases h1:t.before
 ·cases h2:t.each
  ·obtain ⟨q3,g3⟩:=zff t (s)
   cases h4:t.event==1
   ·cases h5:t.event==3
    ·let p_1:List St:=[sb (rfl:false=false),sb h4,sb h5]
     cases h6:t.event==2
     ·exact ⟨[],zhP,wkc At.ref17_Transitions [sg h1,sb h2] [3,4,5,7,8,18,19,20] 3 kr (g3 _ (zaa (wkr (p_1++[sb h6]) kr)))⟩
     ·exact ⟨[trTb (ByteArray.mk #[68,69,76,69,84,69,68]) s,trTb (ByteArray.mk #[73,78,83,69,82,84,69,68]) s],zhP,wkc At.ref17_Transitions [sg h1,sb h2] [3,4,5,7,8,18,19,20] 3 kr (g3 _ (zaa (wkrS (y:=AV.sl [[sv (trTb (ByteArray.mk #[68,69,76,69,84,69,68]) s).sch.name,AV.sl (List.map Col.cells (trTb (ByteArray.mk #[68,69,76,69,84,69,68]) s).sch.cols),iv (trTb (ByteArray.mk #[68,69,76,69,84,69,68]) s).next,AV.sl []],[sv (trTb (ByteArray.mk #[73,78,83,69,82,84,69,68]) s).sch.name,AV.sl (List.map Col.cells (trTb (ByteArray.mk #[73,78,83,69,82,84,69,68]) s).sch.cols),iv (trTb (ByteArray.mk #[73,78,83,69,82,84,69,68]) s).next,AV.sl []]]) (H:=[]) (p_1++[sb h6,sd [(2,[sc (zdb (ByteArray.mk #[68,69,76,69,84,69,68]) s zcn)]),(5,[sc (zdb (ByteArray.mk #[73,78,83,69,82,84,69,68]) s zcn)])]]) kr ⟨by first|rfl|(simp;done)|(simp [X.cells,Qy.cells,V.cells,Col.cells,Rw.cells,Tb.cells,Fr.cells,Sch.cells,Tp.cells,Pl.cells,xCol,xLit,xBin,xNeg,Im.cells,Lk.cells,Ac.cells,Se.cells,Tg.cells,Rk.cells];done),by first|rfl|(simp;done)|(simp [X.cells,Qy.cells,V.cells,Col.cells,Rw.cells,Tb.cells,Fr.cells,Sch.cells,Tp.cells,Pl.cells,xCol,xLit,xBin,xNeg,Im.cells,Lk.cells,Ac.cells,Se.cells,Tg.cells,Rk.cells];done)⟩)))⟩
    ·exact ⟨[trTb (ByteArray.mk #[68,69,76,69,84,69,68]) s],zhP,wkc At.ref17_Transitions [sg h1,sb h2] [3,4,5,7,8,18,19,20] 3 kr (g3 _ (zaa (wkrS (y:=AV.sl [[sv (trTb (ByteArray.mk #[68,69,76,69,84,69,68]) s).sch.name,AV.sl (List.map Col.cells (trTb (ByteArray.mk #[68,69,76,69,84,69,68]) s).sch.cols),iv (trTb (ByteArray.mk #[68,69,76,69,84,69,68]) s).next,AV.sl []]]) (H:=[]) [sb (rfl:false=false),sb h4,sb h5,sc (zdb (ByteArray.mk #[68,69,76,69,84,69,68]) s zcn)] kr ⟨by first|rfl|(simp;done)|(simp [X.cells,Qy.cells,V.cells,Col.cells,Rw.cells,Tb.cells,Fr.cells,Sch.cells,Tp.cells,Pl.cells,xCol,xLit,xBin,xNeg,Im.cells,Lk.cells,Ac.cells,Se.cells,Tg.cells,Rk.cells];done),by first|rfl|(simp;done)|(simp [X.cells,Qy.cells,V.cells,Col.cells,Rw.cells,Tb.cells,Fr.cells,Sch.cells,Tp.cells,Pl.cells,xCol,xLit,xBin,xNeg,Im.cells,Lk.cells,Ac.cells,Se.cells,Tg.cells,Rk.cells];done)⟩)))⟩
   ·exact ⟨[trTb (ByteArray.mk #[73,78,83,69,82,84,69,68]) s],zhP,wkc At.ref17_Transitions [sg h1,sb h2] [3,4,5,7,8,18,19,20] 3 kr (g3 _ (zaa (wkrS (y:=AV.sl [[sv (trTb (ByteArray.mk #[73,78,83,69,82,84,69,68]) s).sch.name,AV.sl (List.map Col.cells (trTb (ByteArray.mk #[73,78,83,69,82,84,69,68]) s).sch.cols),iv (trTb (ByteArray.mk #[73,78,83,69,82,84,69,68]) s).next,AV.sl []]]) (H:=[]) [sb (rfl:false=false),sb h4,sc (zdb (ByteArray.mk #[73,78,83,69,82,84,69,68]) s zcn)] kr ⟨by first|rfl|(simp;done)|(simp [X.cells,Qy.cells,V.cells,Col.cells,Rw.cells,Tb.cells,Fr.cells,Sch.cells,Tp.cells,Pl.cells,xCol,xLit,xBin,xNeg,Im.cells,Lk.cells,Ac.cells,Se.cells,Tg.cells,Rk.cells];done),by first|rfl|(simp;done)|(simp [X.cells,Qy.cells,V.cells,Col.cells,Rw.cells,Tb.cells,Fr.cells,Sch.cells,Tp.cells,Pl.cells,xCol,xLit,xBin,xNeg,Im.cells,Lk.cells,Ac.cells,Se.cells,Tg.cells,Rk.cells];done)⟩)))⟩
  ·exact ⟨[],zhP,wk At.ref17_Transitions [sg h1,sb h2] kr⟩
 ·exact ⟨[],zhP,wk At.ref17_Transitions [sb h1] kr⟩
theorem zoc (a b:List Tb) (ha:zad a) (hb:zad b):∃ (r:List (List AV)),r=a.map Tb.cells++b.map Tb.cells∧zac E0 S.ref17_All [tsl a,tsl b] [] (.sl r) []:=by
 exact ⟨List.map Tb.cells a++List.map Tb.cells b,(by rfl),wk At.ref17_All [sqx ((List.map Tb.cells a++List.map Tb.cells b).length=(List.map Tb.cells a++List.map Tb.cells b).length),sqx (AllLen (List.map Tb.cells a) 4∧((List.map Tb.cells a).length * 72).le 140737488355328),sqx (AllLen (List.map Tb.cells b) 4∧(List.map Tb.cells a).length=(List.map Tb.cells a).length∧(((List.map Tb.cells a).length+(List.map Tb.cells b).length) * 72).le 140737488355328)] kr⟩
theorem zox (a b:List Tb) (ha:zad a) (hb:zad b):zac E0 S.ref17_All [tsl a,tsl b] [] (tsl (a++b)) []:=by
 obtain ⟨r,rfl,h⟩:=zoc a b ha hb
 show zac E0 S.ref17_All [tsl a,tsl b] [] (.sl ((a++b).map Tb.cells)) []
 rw [List.map_append]
 exact h
noncomputable def L_tyS (q:Qy) (s:Sch) (inn:List Fr) (tb:List Tb) (i:Nat) (is:List Int):Cfg:=zat B.ref14_Types 0 [(2,tsl tb),(3,.p 0 0),(10,fsl inn),(11,.own 2 is.length),(34,.sl (s.cols.map Col.cells)),(35,iv ((s.cols.map Col.cells).length:Nat)),(36,iv (i:Nat))] [.box q.cells,.box s.cells,.row Ty.int (is.map fun n=>[iv n]) false]
theorem zg1 (q:Qy) (s:Sch) (inn:List Fr) (tb:List Tb) (hs:zad s.cols) (i:Nat) (is:List Int) (hi:i≤(s.cols).length) (hI:is.length=i):∃ (is':List Int),(is'.length=(s.cols).length)∧(decide ((((s.cols).length:Nat):Int) < (((s.cols.map Col.cells).length:Nat):Int))=false)∧∀ R,Good E0 B.ref14_Types [] (L_tyS q s inn tb (s.cols).length is') R→Good E0 B.ref14_Types [] (L_tyS q s inn tb i is) R:=by
 obtain ⟨kk,hk⟩:∃ kk,i+kk=(s.cols).length:=⟨(s.cols).length - i,by omega⟩
 induction kk generalizing i is with
 | zero =>
  have e0:i=(s.cols).length:=by omega
  subst e0
  exact ⟨is,hI,by simp,fun R hg=>hg⟩
 | succ kk ih =>
  obtain ⟨x,hx⟩:=zax (l:=s.cols) (i:=i) (by omega)
  have h0:decide (((i:Nat):Int) < (((s.cols.map Col.cells).length:Nat):Int))=true:=by simp;omega
  have hw:IntKind.i64.wrap (((i:Nat):Int)+1)=((i+1:Nat):Int):=zao i zlK
  have hil:is.length≤1000000000:=by simp only [zad] at hs;omega
  obtain ⟨isZ,qZ,xZ,gZ⟩:=ih (i+1) (is++[x.type]) (by omega) znO (by omega);exact ⟨isZ,qZ,xZ,fun R hg=>zaa (wkl [sb h0,se (zah Col.cells hx rfl),sqx (AllLen [[iv x.type]] 1∧is.length=(List.map (fun n=>[iv n]) is).length∧(((List.map (fun n=>[iv n]) is).length+[[iv x.type]].length) * 8).le 140737488355328),si hw] [2,3,10,11,34,35,36] 3 kr (zav (show ([(2,AV.sl (List.map Tb.cells tb)),(3,AV.p 0 0),(10,AV.sl (List.map Fr.cells inn)),(11,AV.own 2 (List.map (fun n=>[iv n]) is++[[iv x.type]]).length),(34,AV.sl (List.map Col.cells s.cols)),(35,iv (↑(List.map Col.cells s.cols).length:Int)),(36,iv (↑(i+1):Int))]:TS)=[(2,AV.sl (List.map Tb.cells tb)),(3,AV.p 0 0),(10,AV.sl (List.map Fr.cells inn)),(11,AV.own 2 (is++[x.type]).length),(34,AV.sl (List.map Col.cells s.cols)),(35,iv (↑(List.map Col.cells s.cols).length:Int)),(36,iv (↑(i+1):Int))] by first|rfl|(simp;done)|(simp [X.cells,Qy.cells,V.cells,Col.cells,Rw.cells,Tb.cells,Fr.cells,Sch.cells,Tp.cells,Pl.cells,xCol,xLit,xBin,xNeg,Im.cells,Lk.cells,Ac.cells,Se.cells,Tg.cells,Rk.cells];done)) (show ([Blk.box [bv q.star,AV.sl (zab q.items),sv q.frm,AV.sl (zab q.wh)],Blk.box [sv s.name,AV.sl (List.map Col.cells s.cols)],Blk.row Ty.int (List.map (fun n=>[iv n]) is++[[iv x.type]]) false]:Heap)=[Blk.box [bv q.star,AV.sl (zab q.items),sv q.frm,AV.sl (zab q.wh)],Blk.box [sv s.name,AV.sl (List.map Col.cells s.cols)],Blk.row Ty.int (List.map (fun n=>[iv n]) (is++[x.type])) false] by first|rfl|(simp;done)|(simp [X.cells,Qy.cells,V.cells,Col.cells,Rw.cells,Tb.cells,Fr.cells,Sch.cells,Tp.cells,Pl.cells,xCol,xLit,xBin,xNeg,Im.cells,Lk.cells,Ac.cells,Se.cells,Tg.cells,Rk.cells];done)) (gZ R hg)))⟩
noncomputable def zqi (q:Qy) (s:Sch) (inn:List Fr) (tb:List Tb) (f:X→Int × Int) (i:Nat) (is:List Int):Cfg:=zat B.ref14_Types 1 [(2,tsl tb),(3,.p 0 0),(10,fsl inn),(11,.own 2 is.length),(47,xsl q.items),(48,iv ((zab q.items).length:Nat)),(49,iv (i:Nat))] [.box q.cells,.box s.cells,.row Ty.int (is.map fun n=>[iv n]) false]
theorem zhb (q:Qy) (s:Sch) (inn:List Fr) (tb:List Tb) (f:X→Int × Int) (hs:zad q.items) (hf:∀ x∈q.items,Pure S.ref14_Type [x.av,fsl inn,tsl tb] (.tup [iv (f x).1,iv (f x).2])) (i:Nat) (is:List Int) (hi:i≤(q.items).length) (hI:is.length=i):(∃ (is':List Int),(is'.length=(q.items).length)∧(decide ((((q.items).length:Nat):Int) < (((zab q.items).length:Nat):Int))=false)∧∀ R,Good E0 B.ref14_Types [] (zqi q s inn tb f (q.items).length is') R→Good E0 B.ref14_Types [] (zqi q s inn tb f i is) R)∨(∃ (r:List Int) (e:Int),zad r∧Good E0 B.ref14_Types [] (zqi q s inn tb f i is) (Shut 0 fun rZ hZ=>rZ=(.tup [isl r,iv e])∧hZ=[])):=by
 obtain ⟨kk,hk⟩:∃ kk,i+kk=(q.items).length:=⟨(q.items).length - i,by omega⟩
 induction kk generalizing i is with
 | zero =>
  have e0:i=(q.items).length:=by omega
  subst e0
  exact .inl ⟨is,hI,by simp,fun R hg=>hg⟩
 | succ kk ih =>
  obtain ⟨x,hx⟩:=zax (l:=q.items) (i:=i) (by omega)
  have h0:decide (((i:Nat):Int) < (((zab q.items).length:Nat):Int))=true:=by simp;omega
  have hw:IntKind.i64.wrap (((i:Nat):Int)+1)=((i+1:Nat):Int):=zao i zlK
  have hil:is.length≤1000000000:=by simp only [zad] at hs;omega
  have hfx:=hf x (List.mem_of_getElem? hx)
  cases h1:(f x).snd != 0
  ·exact (ih (i+1) (is++[(f x).fst]) (by omega) znO (by omega)).elim (fun ⟨isZ,qZ,xZ,gZ⟩=>.inl ⟨isZ,qZ,xZ,fun R hg=>zaa (wkl [sb h0,se (zbo hx),sc hfx,sb h1,sqx (AllLen [[iv (f x).fst]] 1∧is.length=(List.map (fun n=>[iv n]) is).length∧(((List.map (fun n=>[iv n]) is).length+[[iv (f x).fst]].length) * 8).le 140737488355328),si hw] [2,3,10,11,47,48,49] 3 kr (zav (show ([(2,AV.sl (List.map Tb.cells tb)),(3,AV.p 0 0),(10,AV.sl (List.map Fr.cells inn)),(11,AV.own 2 (List.map (fun n=>[iv n]) is++[[iv (f x).fst]]).length),(47,AV.sl (zab q.items)),(48,iv (↑(zab q.items).length:Int)),(49,iv (↑(i+1):Int))]:TS)=[(2,AV.sl (List.map Tb.cells tb)),(3,AV.p 0 0),(10,AV.sl (List.map Fr.cells inn)),(11,AV.own 2 (is++[(f x).fst]).length),(47,AV.sl (zab q.items)),(48,iv (↑(zab q.items).length:Int)),(49,iv (↑(i+1):Int))] by first|rfl|(simp;done)|(simp [X.cells,Qy.cells,V.cells,Col.cells,Rw.cells,Tb.cells,Fr.cells,Sch.cells,Tp.cells,Pl.cells,xCol,xLit,xBin,xNeg,Im.cells,Lk.cells,Ac.cells,Se.cells,Tg.cells,Rk.cells];done)) (show ([Blk.box [bv q.star,AV.sl (zab q.items),sv q.frm,AV.sl (zab q.wh)],Blk.box [sv s.name,AV.sl (List.map Col.cells s.cols)],Blk.row Ty.int (List.map (fun n=>[iv n]) is++[[iv (f x).fst]]) false]:Heap)=[Blk.box [bv q.star,AV.sl (zab q.items),sv q.frm,AV.sl (zab q.wh)],Blk.box [sv s.name,AV.sl (List.map Col.cells s.cols)],Blk.row Ty.int (List.map (fun n=>[iv n]) (is++[(f x).fst])) false] by first|rfl|(simp;done)|(simp [X.cells,Qy.cells,V.cells,Col.cells,Rw.cells,Tb.cells,Fr.cells,Sch.cells,Tp.cells,Pl.cells,xCol,xLit,xBin,xNeg,Im.cells,Lk.cells,Ac.cells,Se.cells,Tg.cells,Rk.cells];done)) (gZ R hg)))⟩) (fun ⟨rY,eY,pZ,gZ⟩=>.inr ⟨rY,eY,pZ,zaa (wkl [sb h0,se (zbo hx),sc hfx,sb h1,sqx (AllLen [[iv (f x).fst]] 1∧is.length=(List.map (fun n=>[iv n]) is).length∧(((List.map (fun n=>[iv n]) is).length+[[iv (f x).fst]].length) * 8).le 140737488355328),si hw] [2,3,10,11,47,48,49] 3 kr (zav (show ([(2,AV.sl (List.map Tb.cells tb)),(3,AV.p 0 0),(10,AV.sl (List.map Fr.cells inn)),(11,AV.own 2 (List.map (fun n=>[iv n]) is++[[iv (f x).fst]]).length),(47,AV.sl (zab q.items)),(48,iv (↑(zab q.items).length:Int)),(49,iv (↑(i+1):Int))]:TS)=[(2,AV.sl (List.map Tb.cells tb)),(3,AV.p 0 0),(10,AV.sl (List.map Fr.cells inn)),(11,AV.own 2 (is++[(f x).fst]).length),(47,AV.sl (zab q.items)),(48,iv (↑(zab q.items).length:Int)),(49,iv (↑(i+1):Int))] by first|rfl|(simp;done)|(simp [X.cells,Qy.cells,V.cells,Col.cells,Rw.cells,Tb.cells,Fr.cells,Sch.cells,Tp.cells,Pl.cells,xCol,xLit,xBin,xNeg,Im.cells,Lk.cells,Ac.cells,Se.cells,Tg.cells,Rk.cells];done)) (show ([Blk.box [bv q.star,AV.sl (zab q.items),sv q.frm,AV.sl (zab q.wh)],Blk.box [sv s.name,AV.sl (List.map Col.cells s.cols)],Blk.row Ty.int (List.map (fun n=>[iv n]) is++[[iv (f x).fst]]) false]:Heap)=[Blk.box [bv q.star,AV.sl (zab q.items),sv q.frm,AV.sl (zab q.wh)],Blk.box [sv s.name,AV.sl (List.map Col.cells s.cols)],Blk.row Ty.int (List.map (fun n=>[iv n]) (is++[(f x).fst])) false] by first|rfl|(simp;done)|(simp [X.cells,Qy.cells,V.cells,Col.cells,Rw.cells,Tb.cells,Fr.cells,Sch.cells,Tp.cells,Pl.cells,xCol,xLit,xBin,xNeg,Im.cells,Lk.cells,Ac.cells,Se.cells,Tg.cells,Rk.cells];done)) gZ))⟩)
  ·exact .inr ⟨[],(f x).snd,(by (simp [zad];done)),zaa (wkr [sb h0,se (zbo hx),sc hfx,sb h1] kr)⟩
theorem zmJ (q:Qy) (frs:List Fr) (tb:List Tb) (f:X→Int × Int) (c:Int) (h1:zad frs) (h2:zad tb) (h3:∀ x∈tb,zad x.sch.cols) (hs:zad q.items) (hsc:zad (zaL tb q.frm).1.cols) (hf:∀ x∈q.items,Pure S.ref14_Type [x.av,fsl (zcd frs (zaL tb q.frm).1 []),tsl tb] (.tup [iv (f x).1,iv (f x).2])) (hc:Pure S.ref14_Condition [xsl q.wh,fsl (zcd frs (zaL tb q.frm).1 []),tsl tb] (iv c)):∃ (r:List Int) (e:Int),zad r∧zac E0 S.ref14_Types [q.av,fsl frs,tsl tb] [] (.tup [isl r,iv e]) []:=by
 let p_1:List St:=[sc (zbT tb q.frm zcn zcn)]
 cases h1:!(zaL tb q.frm).snd
 ·let p_2:List St:=p_1++[sb h1,sc (zfq frs ((zaL tb q.frm).fst) ([]) zcn)]
  cases h2:q.star
  ·rcases zhb q ((zaL tb q.frm).fst) (zcd frs (zaL tb q.frm).fst []) tb f zcn hf 0 ([]) zcn zcn with ⟨is3,q3,q3_1,g3⟩|⟨r3_0,r3_1,p3_0,g3⟩
   ·cases h4:c != 0
    ·exact ⟨is3,0,zhZ,wkcN At.ref14_Types (p_2++[sb h2]) [2,3,10,11,47,48,49] 2 [(.ot 11 Ty.int,3)] kr (g3 _ (zaa (wkr [sqx (is3.length=(List.map (fun n=>[iv n]) is3).length∧True∧True),sb q3_1,sc hc,sb h4] kr)))⟩
    ·exact ⟨[],c,zhZ,wkcN At.ref14_Types (p_2++[sb h2]) [2,3,10,11,47,48,49] 2 [(.ot 11 Ty.int,3)] kr (g3 _ (zaa (wkr [sb q3_1,sc hc,sb h4] kr)))⟩
   ·exact ⟨r3_0,r3_1,zhZ,wkcN At.ref14_Types (p_2++[sb h2]) [2,3,10,11,47,48,49] 2 [(.ot 11 Ty.int,3)] kr (g3)⟩
  ·obtain ⟨is5,q5,q5_1,g5⟩:=zg1 q ((zaL tb q.frm).fst) (zcd frs (zaL tb q.frm).fst []) tb zcn 0 ([]) zcn zcn
   cases h6:c != 0
   ·exact ⟨is5,0,zhZ,wkcN At.ref14_Types (p_2++[sb h2]) [2,3,10,11,34,35,36] 2 [(.ot 11 Ty.int,3)] kr (g5 _ (zaa (wkr [sqx (is5.length=(List.map (fun n=>[iv n]) is5).length∧True∧True),sb q5_1,sc hc,sb h6] kr)))⟩
   ·exact ⟨[],c,zhZ,wkcN At.ref14_Types (p_2++[sb h2]) [2,3,10,11,34,35,36] 2 [(.ot 11 Ty.int,3)] kr (g5 _ (zaa (wkr [sb q5_1,sc hc,sb h6] kr)))⟩
 ·exact ⟨[],3,zhZ,wk At.ref14_Types (p_1++[sb h1]) kr⟩
end Go.AM
namespace Go.AM
set_option maxRecDepth 100000
set_option maxHeartbeats 1000000
set_option linter.unusedSimpArgs false
set_option linter.unusedVariables false
theorem zbV {p:Prop} (h:p:=by first|assumption|omega|exact hca _ (by assumption)|(simp;done)|(simp;omega)):p:=h
theorem zbL {p:Prop} (h:p:=by first|assumption|omega|(simp;done)|(simp;omega)):p:=h
theorem zeX {p:Prop} (h:p:=by first|assumption|omega|(simp only [bne_eq_false_iff_eq,zeg,List.length_map] at *;omega)):p:=h
theorem zf2 {p:Prop} (h:p:=by first|trivial|assumption|(simp;done)|omega|(simp;omega)|(simp at *;omega)):p:=h
theorem zeD {p:Prop} (h:p:=by first|assumption|exact ze5 _ _ _ 0 h3):p:=h
theorem zfR {p:Prop} (h:p:=by first|omega|(simp only [zad,Few] at *;omega)):p:=h
theorem znd {p:Prop} (h:p:=by first|omega|(simp only [decide_eq_false_iff_not,decide_eq_true_eq] at *;omega)):p:=h
def AtI {α:Type} (l:List α) (i:Int) (x:α):Prop:=0≤i∧l[i.toNat]?=some x
theorem zjF {α:Type} {l:List α} {i:Int} (h:0≤i∧i < ((l.length:Nat):Int)):∃ x,AtI l i x :=
 ⟨l[i.toNat]'(by omega),h.1,List.getElem?_eq_getElem (by omega)⟩
theorem zcT {α:Type} (f:α→List AV) {l:List α} {i:Int} {x:α} (h:AtI l i x) {n:Nat} (hn:(f x).length=n):ElAt (l.map f) i (f x) n :=
 ⟨h.1,by simp [h.2],hn⟩
abbrev TyOk (x:X) (frs:List Fr) (tb:List Tb):Prop:=∃ t e:Int,zac E0 S.ref14_Type [x.av,fsl frs,tsl tb] [] (.tup [iv t,iv e]) []
theorem zc9 (a b:Int) :∃ (r:Bool),zac E0 S.ref14_Assignable [iv a,iv b] [] (bv r) []:=by
 exact ⟨zgu b a,wk At.ref14_Assignable [sc (zb0 b a)] kr⟩
theorem zhc (a:Ac) (s0:Se) (s:Sch) (frs:List Fr) (tb:List Tb) (hs:zad s.cols) (ht:∃ t e:Int,zac E0 S.ref14_Type [s0.ex.av,fsl frs,tsl tb] [] (.tup [iv t,iv e]) []):∃ (r:Int),zac E0 S.ref17_checkAction [.agg [iv 5,sv a.table,.sl (a.rows.map zaF),.sl (zae a.query),.sl [s0.cells],.sl (zab a.wh),sv a.text],s.av,fsl frs,tsl tb] [] (iv r) []:=by
 obtain ⟨r1,q1,c1⟩:=(zdK s s0.col zbL)
 cases h2:decide (r1 < 0)
 ·obtain ⟨t3,e3,c3⟩:=ht
  cases h4:e3 != 0
  ·obtain ⟨x5,e5⟩:=zjF (l:=s.cols) (i:=r1) znd
   obtain ⟨r6,c6⟩:=(zc9 x5.type t3)
   let p_1:List St:=[sb (rfl:false=false),sb (rfl:true=true),sd [(3,[se (xs:=[[sv s0.col,iv s0.ex.kind,iv s0.ex.op,bv s0.ex.not,iv s0.ex.val.kind,iv s0.ex.val.int,sv s0.ex.val.text,sv s0.ex.table,sv s0.ex.name,AV.sl (zab s0.ex.args),AV.sl (zae s0.ex.sub)]]) (i:=0) (c:=[sv s0.col,iv s0.ex.kind,iv s0.ex.op,bv s0.ex.not,iv s0.ex.val.kind,iv s0.ex.val.int,sv s0.ex.val.text,sv s0.ex.table,sv s0.ex.name,AV.sl (zab s0.ex.args),AV.sl (zae s0.ex.sub)]) (n:=11) ⟨by decide,rfl,rfl⟩]),(6,[sc c1])],sb h2,se (xs:=[[sv s0.col,iv s0.ex.kind,iv s0.ex.op,bv s0.ex.not,iv s0.ex.val.kind,iv s0.ex.val.int,sv s0.ex.val.text,sv s0.ex.table,sv s0.ex.name,AV.sl (zab s0.ex.args),AV.sl (zae s0.ex.sub)]]) (i:=0) (c:=[sv s0.col,iv s0.ex.kind,iv s0.ex.op,bv s0.ex.not,iv s0.ex.val.kind,iv s0.ex.val.int,sv s0.ex.val.text,sv s0.ex.table,sv s0.ex.name,AV.sl (zab s0.ex.args),AV.sl (zae s0.ex.sub)]) (n:=11) ⟨by decide,rfl,rfl⟩,sc c3,sb h4,se (zcT Col.cells e5 rfl),sc c6]
   cases h7:!r6
   ·exact ⟨0,wk At.ref17_checkAction (p_1++[sb h7]) kr⟩
   ·exact ⟨5,wk At.ref17_checkAction (p_1++[sb h7]) kr⟩
  ·exact ⟨e3,wk At.ref17_checkAction [sb (rfl:false=false),sb (rfl:true=true),sd [(3,[se (xs:=[[sv s0.col,iv s0.ex.kind,iv s0.ex.op,bv s0.ex.not,iv s0.ex.val.kind,iv s0.ex.val.int,sv s0.ex.val.text,sv s0.ex.table,sv s0.ex.name,AV.sl (zab s0.ex.args),AV.sl (zae s0.ex.sub)]]) (i:=0) (c:=[sv s0.col,iv s0.ex.kind,iv s0.ex.op,bv s0.ex.not,iv s0.ex.val.kind,iv s0.ex.val.int,sv s0.ex.val.text,sv s0.ex.table,sv s0.ex.name,AV.sl (zab s0.ex.args),AV.sl (zae s0.ex.sub)]) (n:=11) ⟨by decide,rfl,rfl⟩]),(6,[sc c1])],sb h2,se (xs:=[[sv s0.col,iv s0.ex.kind,iv s0.ex.op,bv s0.ex.not,iv s0.ex.val.kind,iv s0.ex.val.int,sv s0.ex.val.text,sv s0.ex.table,sv s0.ex.name,AV.sl (zab s0.ex.args),AV.sl (zae s0.ex.sub)]]) (i:=0) (c:=[sv s0.col,iv s0.ex.kind,iv s0.ex.op,bv s0.ex.not,iv s0.ex.val.kind,iv s0.ex.val.int,sv s0.ex.val.text,sv s0.ex.table,sv s0.ex.name,AV.sl (zab s0.ex.args),AV.sl (zae s0.ex.sub)]) (n:=11) ⟨by decide,rfl,rfl⟩,sc c3,sb h4] kr⟩
 ·exact ⟨3,wk At.ref17_checkAction [sb (rfl:false=false),sb (rfl:true=true),sd [(3,[se (xs:=[[sv s0.col,iv s0.ex.kind,iv s0.ex.op,bv s0.ex.not,iv s0.ex.val.kind,iv s0.ex.val.int,sv s0.ex.val.text,sv s0.ex.table,sv s0.ex.name,AV.sl (zab s0.ex.args),AV.sl (zae s0.ex.sub)]]) (i:=0) (c:=[sv s0.col,iv s0.ex.kind,iv s0.ex.op,bv s0.ex.not,iv s0.ex.val.kind,iv s0.ex.val.int,sv s0.ex.val.text,sv s0.ex.table,sv s0.ex.name,AV.sl (zab s0.ex.args),AV.sl (zae s0.ex.sub)]) (n:=11) ⟨by decide,rfl,rfl⟩]),(6,[sc c1])],sb h2] kr⟩
theorem zhe (a:Ac) (s:Sch) (frs:List Fr) (tb:List Tb) (h5:(a.kind==5)=false) (hc:∃ e:Int,zac E0 S.ref16_Check [a.av,fsl frs,tsl tb] [] (iv e) []):∃ (r:Int),zac E0 S.ref17_checkAction [a.av,s.av,fsl frs,tsl tb] [] (iv r) []:=by
 cases h1:a.kind==4
 ·obtain ⟨e2,c2⟩:=hc
  exact ⟨e2,wk At.ref17_checkAction [sb h1,sb h5,sc c2] kr⟩
 ·exact ⟨0,wk At.ref17_checkAction [sb h1] kr⟩
noncomputable def zpm (a:Ac) (s:Sch) (frs:List Fr) (tb:List Tb) (io:Nat) (y:List X) (i:Nat) :Cfg:=zat B.ref16_checkInsert 1 [(2,fsl frs),(3,tsl tb),(4,.p 0 0),(5,.p 1 0),(22,.sl (a.rows.map zaF)),(23,iv ((a.rows.map zaF).length:Nat)),(24,iv (io:Nat)),(34,xsl y),(35,iv ((zab y).length:Nat)),(36,iv (i:Nat))] [.box a.cells,.box s.cells]
theorem zfe (a:Ac) (s:Sch) (frs:List Fr) (tb:List Tb) (io:Nat) (y:List X) (hy:zad y) (hty:∀ x∈y,TyOk x frs tb) (hlen:y.length=s.cols.length) (i:Nat)  (hi:i≤(y).length) (hI:True):((True)∧(decide ((((y).length:Nat):Int) < (((zab y).length:Nat):Int))=false)∧∀ R,Good E0 B.ref16_checkInsert [] (zpm a s frs tb io y (y).length ) R→Good E0 B.ref16_checkInsert [] (zpm a s frs tb io y i ) R)∨(∃ (r:Int),Good E0 B.ref16_checkInsert [] (zpm a s frs tb io y i ) (Shut 0 fun rZ hZ=>rZ=(iv r)∧hZ=[])):=by
 obtain ⟨kk,hk⟩:∃ kk,i+kk=(y).length:=⟨(y).length - i,by omega⟩
 induction kk generalizing i  hI with
 | zero =>
  have e0:i=(y).length:=by omega
  subst e0
  exact .inl ⟨hI,by simp,fun R hg=>hg⟩
 | succ kk ih =>
  obtain ⟨x,hx⟩:=zax (l:=y) (i:=i) (by omega)
  have h0:decide (((i:Nat):Int) < (((zab y).length:Nat):Int))=true:=by simp;omega
  have hw:IntKind.i64.wrap (((i:Nat):Int)+1)=((i+1:Nat):Int):=zao i zfR
  have hx1:=hty x (List.mem_of_getElem? hx)
  obtain ⟨t1,e1,c1⟩:=hx1
  cases h2:e1 != 0
  ·obtain ⟨x3,e3⟩:=zax (l:=s.cols) (i:=i) zbL
   obtain ⟨r4,c4⟩:=(zc9 x3.type t1)
   let p_1:List St:=[sb h0,se (zbo hx),sc c1,sb h2,se (zah Col.cells e3 rfl),sc c4]
   cases h5:!r4
   ·exact (ih (i+1) (by omega) zf2 (by omega)).elim (fun ⟨qZ,xZ,gZ⟩=>.inl ⟨qZ,xZ,fun R hg=>zaa (wkl (p_1++[sb h5,si hw]) [2,3,4,5,22,23,24,34,35,36] 2 kr (gZ R hg))⟩) (fun ⟨rY,gZ⟩=>.inr ⟨rY,zaa (wkl [sb h0,se (zbo hx),sc c1,sb h2,se (zah Col.cells e3 rfl),sc c4,sb h5,si hw] [2,3,4,5,22,23,24,34,35,36] 2 kr gZ)⟩)
   ·exact .inr ⟨5,zaa (wkr (p_1++[sb h5]) kr)⟩
  ·exact .inr ⟨e1,zaa (wkr [sb h0,se (zbo hx),sc c1,sb h2] kr)⟩
noncomputable def zpK (a:Ac) (s:Sch) (frs:List Fr) (tb:List Tb) (i:Nat) :Cfg:=zat B.ref16_checkInsert 0 [(2,fsl frs),(3,tsl tb),(4,.p 0 0),(5,.p 1 0),(22,.sl (a.rows.map zaF)),(23,iv ((a.rows.map zaF).length:Nat)),(24,iv (i:Nat))] [.box a.cells,.box s.cells]
theorem ze7 (a:Ac) (s:Sch) (frs:List Fr) (tb:List Tb) (hs:zad s.cols) (hr:zad a.rows) (hty:∀ r∈a.rows,zad r∧∀ x∈r,TyOk x frs tb) (i:Nat)  (hi:i≤(a.rows).length) (hI:True):((True)∧(decide ((((a.rows).length:Nat):Int) < (((a.rows.map zaF).length:Nat):Int))=false)∧∀ R,Good E0 B.ref16_checkInsert [] (zpK a s frs tb (a.rows).length ) R→Good E0 B.ref16_checkInsert [] (zpK a s frs tb i ) R)∨(∃ (r:Int),Good E0 B.ref16_checkInsert [] (zpK a s frs tb i ) (Shut 0 fun rZ hZ=>rZ=(iv r)∧hZ=[])):=by
 obtain ⟨kk,hk⟩:∃ kk,i+kk=(a.rows).length:=⟨(a.rows).length - i,by omega⟩
 induction kk generalizing i  hI with
 | zero =>
  have e0:i=(a.rows).length:=by omega
  subst e0
  exact .inl ⟨hI,by simp,fun R hg=>hg⟩
 | succ kk ih =>
  obtain ⟨x,hx⟩:=zax (l:=a.rows) (i:=i) (by omega)
  have h0:decide (((i:Nat):Int) < (((a.rows.map zaF).length:Nat):Int))=true:=by simp;omega
  have hw:IntKind.i64.wrap (((i:Nat):Int)+1)=((i+1:Nat):Int):=zao i zfR
  have hx1:=(hty x (List.mem_of_getElem? hx)).1;have hx2:=(hty x (List.mem_of_getElem? hx)).2
  let p_1:List St:=[sb h0,se (zah zaF hx rfl)]
  cases h1:(↑(zab x).length:Int) != (↑(List.map Col.cells s.cols).length:Int)
  ·rcases zfe a s frs tb i x zeX zeX zeX 0 zeX zeX with ⟨q2,q2_1,g2⟩|⟨r2_0,g2⟩
   ·exact (ih (i+1) (by omega) zf2 (by omega)).elim (fun ⟨qZ,xZ,gZ⟩=>.inl ⟨qZ,xZ,fun R hg=>zaa (wkl (p_1++[sb h1]) [2,3,4,5,22,23,24,34,35,36] 2 kr (g2 _ (zaa (wkl [sb q2_1,si hw] [2,3,4,5,22,23,24] 2 kr (gZ R hg)))))⟩) (fun ⟨rY,gZ⟩=>.inr ⟨rY,zaa (wkl [sb h0,se (zah zaF hx rfl),sb h1] [2,3,4,5,22,23,24,34,35,36] 2 kr (g2 _ (zaa (wkl [sb q2_1,si hw] [2,3,4,5,22,23,24] 2 kr gZ))))⟩)
   ·exact .inr ⟨r2_0,zaa (wkl (p_1++[sb h1]) [2,3,4,5,22,23,24,34,35,36] 2 kr g2)⟩
  ·exact .inr ⟨5,zaa (wkr (p_1++[sb h1]) kr)⟩
noncomputable def zpF (a:Ac) (s:Sch) (frs:List Fr) (tb:List Tb) (io:Nat) (y:List Int) (i:Nat) :Cfg:=zat B.ref16_checkInsert 3 [(2,fsl frs),(3,tsl tb),(5,.p 1 0),(63,.sl (zae a.query)),(64,iv ((zae a.query).length:Nat)),(65,iv (io:Nat)),(85,isl y),(86,iv ((y.map fun n=>[iv n]).length:Nat)),(87,iv (i:Nat))] [.box a.cells,.box s.cells]
theorem ze8 (a:Ac) (s:Sch) (frs:List Fr) (tb:List Tb) (io:Nat) (y:List Int) (hy:zad y) (hlen:y.length=s.cols.length) (i:Nat)  (hi:i≤(y).length) (hI:True):((True)∧(decide ((((y).length:Nat):Int) < (((y.map fun n=>[iv n]).length:Nat):Int))=false)∧∀ R,Good E0 B.ref16_checkInsert [] (zpF a s frs tb io y (y).length ) R→Good E0 B.ref16_checkInsert [] (zpF a s frs tb io y i ) R)∨(∃ (r:Int),Good E0 B.ref16_checkInsert [] (zpF a s frs tb io y i ) (Shut 0 fun rZ hZ=>rZ=(iv r)∧hZ=[])):=by
 obtain ⟨kk,hk⟩:∃ kk,i+kk=(y).length:=⟨(y).length - i,by omega⟩
 induction kk generalizing i  hI with
 | zero =>
  have e0:i=(y).length:=by omega
  subst e0
  exact .inl ⟨hI,by simp,fun R hg=>hg⟩
 | succ kk ih =>
  obtain ⟨x,hx⟩:=zax (l:=y) (i:=i) (by omega)
  have h0:decide (((i:Nat):Int) < (((y.map fun n=>[iv n]).length:Nat):Int))=true:=by simp;omega
  have hw:IntKind.i64.wrap (((i:Nat):Int)+1)=((i+1:Nat):Int):=zao i zfR
  obtain ⟨x1,e1⟩:=zax (l:=s.cols) (i:=i) zbL
  obtain ⟨r2,c2⟩:=(zc9 x1.type x)
  let p_1:List St:=[sb h0,se (zah (fun n=>[iv n]) hx rfl),se (zah Col.cells e1 rfl),sc c2]
  cases h3:!r2
  ·exact (ih (i+1) (by omega) zf2 (by omega)).elim (fun ⟨qZ,xZ,gZ⟩=>.inl ⟨qZ,xZ,fun R hg=>zaa (wkl (p_1++[sb h3,si hw]) [2,3,5,63,64,65,85,86,87] 2 kr (gZ R hg))⟩) (fun ⟨rY,gZ⟩=>.inr ⟨rY,zaa (wkl [sb h0,se (zah (fun n=>[iv n]) hx rfl),se (zah Col.cells e1 rfl),sc c2,sb h3,si hw] [2,3,5,63,64,65,85,86,87] 2 kr gZ)⟩)
  ·exact .inr ⟨5,zaa (wkr (p_1++[sb h3]) kr)⟩
noncomputable def zqc (a:Ac) (s:Sch) (frs:List Fr) (tb:List Tb) (i:Nat) :Cfg:=zat B.ref16_checkInsert 2 [(2,fsl frs),(3,tsl tb),(5,.p 1 0),(63,.sl (zae a.query)),(64,iv ((zae a.query).length:Nat)),(65,iv (i:Nat))] [.box a.cells,.box s.cells]
theorem zfb (a:Ac) (s:Sch) (frs:List Fr) (tb:List Tb) (hs:zad s.cols) (hq:zad a.query) (hty:∀ q∈a.query,∃ (r:List Int) (e:Int),zad r∧zac E0 S.ref14_Types [q.av,fsl frs,tsl tb] [] (.tup [isl r,iv e]) []) (i:Nat)  (hi:i≤(a.query).length) (hI:True):((True)∧(decide ((((a.query).length:Nat):Int) < (((zae a.query).length:Nat):Int))=false)∧∀ R,Good E0 B.ref16_checkInsert [] (zqc a s frs tb (a.query).length ) R→Good E0 B.ref16_checkInsert [] (zqc a s frs tb i ) R)∨(∃ (r:Int),Good E0 B.ref16_checkInsert [] (zqc a s frs tb i ) (Shut 0 fun rZ hZ=>rZ=(iv r)∧hZ=[])):=by
 obtain ⟨kk,hk⟩:∃ kk,i+kk=(a.query).length:=⟨(a.query).length - i,by omega⟩
 induction kk generalizing i  hI with
 | zero =>
  have e0:i=(a.query).length:=by omega
  subst e0
  exact .inl ⟨hI,by simp,fun R hg=>hg⟩
 | succ kk ih =>
  obtain ⟨x,hx⟩:=zax (l:=a.query) (i:=i) (by omega)
  have h0:decide (((i:Nat):Int) < (((zae a.query).length:Nat):Int))=true:=by simp;omega
  have hw:IntKind.i64.wrap (((i:Nat):Int)+1)=((i+1:Nat):Int):=zao i zfR
  have hx1:=hty x (List.mem_of_getElem? hx)
  obtain ⟨r1,e1,q1,c1⟩:=hx1
  cases h2:e1 != 0
  ·cases h3:(↑(List.map (fun n=>[iv n]) r1).length:Int) != (↑(List.map Col.cells s.cols).length:Int)
   ·rcases ze8 a s frs tb i r1 zeX zeX 0 zeX zeX with ⟨q4,q4_1,g4⟩|⟨r4_0,g4⟩
    ·exact (ih (i+1) (by omega) zf2 (by omega)).elim (fun ⟨qZ,xZ,gZ⟩=>.inl ⟨qZ,xZ,fun R hg=>zaa (wkl [sb h0,se (zaT hx),sc c1,sb h2,sb h3] [2,3,5,63,64,65,85,86,87] 2 kr (g4 _ (zaa (wkl [sb q4_1,si hw] [2,3,5,63,64,65] 2 kr (gZ R hg)))))⟩) (fun ⟨rY,gZ⟩=>.inr ⟨rY,zaa (wkl [sb h0,se (zaT hx),sc c1,sb h2,sb h3] [2,3,5,63,64,65,85,86,87] 2 kr (g4 _ (zaa (wkl [sb q4_1,si hw] [2,3,5,63,64,65] 2 kr gZ))))⟩)
    ·exact .inr ⟨r4_0,zaa (wkl [sb h0,se (zaT hx),sc c1,sb h2,sb h3] [2,3,5,63,64,65,85,86,87] 2 kr g4)⟩
   ·exact .inr ⟨5,zaa (wkr [sb h0,se (zaT hx),sc c1,sb h2,sb h3] kr)⟩
  ·exact .inr ⟨e1,zaa (wkr [sb h0,se (zaT hx),sc c1,sb h2] kr)⟩
theorem zji (a:Ac) (s:Sch) (frs:List Fr) (tb:List Tb) (hs:zad s.cols) (hr:zad a.rows) (hq:zad a.query) (hty:∀ r∈a.rows,zad r∧∀ x∈r,TyOk x frs tb) (htq:∀ q∈a.query,∃ (r:List Int) (e:Int),zad r∧zac E0 S.ref14_Types [q.av,fsl frs,tsl tb] [] (.tup [isl r,iv e]) []):∃ (r:Int),zac E0 S.ref16_checkInsert [a.av,s.av,fsl frs,tsl tb] [] (iv r) []:=by
 rcases ze7 a s frs tb zbL zbL zbL 0 zbL zbL with ⟨q1,q1_1,g1⟩|⟨r1_0,g1⟩
 ·rcases zfb a s frs tb zbL zbL zbL 0 zbL zbL with ⟨q2,q2_1,g2⟩|⟨r2_0,g2⟩
  ·exact ⟨0,wkc At.ref16_checkInsert [] [2,3,4,5,22,23,24] 2 kr (g1 _ (zaa (wkl [sb q1_1] [2,3,5,63,64,65] 2 kr (g2 _ (zaa (wkr [sb q2_1] kr))))))⟩
  ·exact ⟨r2_0,wkc At.ref16_checkInsert [] [2,3,4,5,22,23,24] 2 kr (g1 _ (zaa (wkl [sb q1_1] [2,3,5,63,64,65] 2 kr g2)))⟩
 ·exact ⟨r1_0,wkc At.ref16_checkInsert [] [2,3,4,5,22,23,24] 2 kr (g1)⟩
theorem zmC (a:Ac) (h:∃ b:Bool,zac E0 S.ref11_ValidAction [a.av] [] (bv b) []):∃ (r:Bool),zac E0 S.ref16_sound [a.av] [] (bv r) []:=by
 cases h1:decide (1≤a.kind)
 ·exact ⟨false,wk At.ref16_sound [sb h1] kr⟩
 ·cases h2:decide (a.kind≤3)
  ·exact ⟨false,wk At.ref16_sound [sg h1,sb h2] kr⟩
  ·obtain ⟨b3,c3⟩:=h
   exact ⟨b3,wk At.ref16_sound [sg h1,sg h2,sc c3] kr⟩
noncomputable def zp0 (a:Ac) (s:Sch) (inn:List Fr) (tb:List Tb) (i:Nat) :Cfg:=zat B.ref16_Check 0 [(2,tsl tb),(3,.p 0 0),(7,.p 1 0),(9,fsl inn),(39,.sl (a.sets.map Se.cells)),(40,iv ((a.sets.map Se.cells).length:Nat)),(41,iv (i:Nat))] [.box a.cells,.box s.cells]
theorem zg7 (a:Ac) (s:Sch) (inn:List Fr) (tb:List Tb) (hs:zad s.cols) (hsl:zad a.sets) (hty:∀ x∈a.sets,TyOk x.ex inn tb) (i:Nat)  (hi:i≤(a.sets).length) (hI:True):((True)∧(decide ((((a.sets).length:Nat):Int) < (((a.sets.map Se.cells).length:Nat):Int))=false)∧∀ R,Good E0 B.ref16_Check [] (zp0 a s inn tb (a.sets).length ) R→Good E0 B.ref16_Check [] (zp0 a s inn tb i ) R)∨(∃ (r:Int),Good E0 B.ref16_Check [] (zp0 a s inn tb i ) (Shut 0 fun rZ hZ=>rZ=(iv r)∧hZ=[])):=by
 obtain ⟨kk,hk⟩:∃ kk,i+kk=(a.sets).length:=⟨(a.sets).length - i,by omega⟩
 induction kk generalizing i  hI with
 | zero =>
  have e0:i=(a.sets).length:=by omega
  subst e0
  exact .inl ⟨hI,by simp,fun R hg=>hg⟩
 | succ kk ih =>
  obtain ⟨x,hx⟩:=zax (l:=a.sets) (i:=i) (by omega)
  have h0:decide (((i:Nat):Int) < (((a.sets.map Se.cells).length:Nat):Int))=true:=by simp;omega
  have hw:IntKind.i64.wrap (((i:Nat):Int)+1)=((i+1:Nat):Int):=zao i zfR
  have hx1:=hty x (List.mem_of_getElem? hx)
  obtain ⟨r1,q1,c1⟩:=(zdK s x.col zbL)
  cases h2:decide (r1 < 0)
  ·obtain ⟨t3,e3,c3⟩:=hx1
   cases h4:e3 != 0
   ·obtain ⟨x5,e5⟩:=zjF (l:=s.cols) (i:=r1) znd
    obtain ⟨r6,c6⟩:=(zc9 x5.type t3)
    let p_1:List St:=[sb h0,se (zah Se.cells hx rfl),sc c1,sb h2,sc c3,sb h4,se (zcT Col.cells e5 rfl),sc c6]
    cases h7:!r6
    ·exact (ih (i+1) (by omega) zf2 (by omega)).elim (fun ⟨qZ,xZ,gZ⟩=>.inl ⟨qZ,xZ,fun R hg=>zaa (wkl (p_1++[sb h7,si hw]) [2,3,7,9,39,40,41] 2 kr (gZ R hg))⟩) (fun ⟨rY,gZ⟩=>.inr ⟨rY,zaa (wkl [sb h0,se (zah Se.cells hx rfl),sc c1,sb h2,sc c3,sb h4,se (zcT Col.cells e5 rfl),sc c6,sb h7,si hw] [2,3,7,9,39,40,41] 2 kr gZ)⟩)
    ·exact .inr ⟨5,zaa (wkr (p_1++[sb h7]) kr)⟩
   ·exact .inr ⟨e3,zaa (wkr [sb h0,se (zah Se.cells hx rfl),sc c1,sb h2,sc c3,sb h4] kr)⟩
  ·exact .inr ⟨3,zaa (wkr [sb h0,se (zah Se.cells hx rfl),sc c1,sb h2] kr)⟩
theorem zmD (a:Ac) (frs:List Fr) (tb:List Tb) (hsd:∃ b:Bool,zac E0 S.ref16_sound [a.av] [] (bv b) []) (h1:zad frs) (h2:zad tb) (h3:∀ x∈tb,zad x.sch.cols) (hs:zad (zaL tb a.table).1.cols) (hsl:zad a.sets) (hins:∃ e:Int,zac E0 S.ref16_checkInsert [a.av,(zaL tb a.table).1.av,fsl frs,tsl tb] [] (iv e) []) (hty:∀ x∈a.sets,TyOk x.ex (zcd frs (zaL tb a.table).1 []) tb) (hc:∃ e:Int,zac E0 S.ref14_Condition [xsl a.wh,fsl (zcd frs (zaL tb a.table).1 []),tsl tb] [] (iv e) []):∃ (r:Int),zac E0 S.ref16_Check [a.av,fsl frs,tsl tb] [] (iv r) []:=by
 obtain ⟨b1,c1⟩:=hsd
 cases h2:!b1
 ·let p_1:List St:=[sc c1,sb h2,sc (zbT tb a.table zbL zbL)]
  cases h3:!(zaL tb a.table).snd
  ·cases h4:a.kind==1
   ·let p_2:List St:=p_1++[sb h3,sb h4,sc (zfq frs ((zaL tb a.table).fst) ([]) zbL)]
    rcases zg7 a ((zaL tb a.table).fst) (zcd frs (zaL tb a.table).fst []) tb zbL zbL zbL 0 zbL zbL with ⟨q5,q5_1,g5⟩|⟨r5_0,g5⟩
    ·obtain ⟨e6,c6⟩:=hc
     exact ⟨e6,wkc At.ref16_Check p_2 [2,3,7,9,39,40,41] 2 kr (g5 _ (zaa (wkr [sb q5_1,sc c6] kr)))⟩
    ·exact ⟨r5_0,wkc At.ref16_Check p_2 [2,3,7,9,39,40,41] 2 kr (g5)⟩
   ·obtain ⟨e7,c7⟩:=hins
    exact ⟨e7,wk At.ref16_Check (p_1++[sb h3,sb h4,sc c7]) kr⟩
  ·exact ⟨3,wk At.ref16_Check (p_1++[sb h3]) kr⟩
 ·exact ⟨17,wk At.ref16_Check [sc c1,sb h2] kr⟩
noncomputable def zqg (t:Tg) (s:Sch) (tb:List Tb) (i:Nat) :Cfg:=zat B.ref17_Check 0 [(1,tsl tb),(2,.p 0 0),(5,.p 1 0),(33,.sl (t.of.map zaU)),(34,iv ((t.of.map zaU).length:Nat)),(35,iv (i:Nat))] [.box t.cells,.box s.cells]
theorem zg3 (t:Tg) (s:Sch) (tb:List Tb) (hs:zad s.cols) (hl:zad t.of) (i:Nat)  (hi:i≤(t.of).length) (hI:True):((True)∧(decide ((((t.of).length:Nat):Int) < (((t.of.map zaU).length:Nat):Int))=false)∧∀ R,Good E0 B.ref17_Check [] (zqg t s tb (t.of).length ) R→Good E0 B.ref17_Check [] (zqg t s tb i ) R)∨(∃ (r:Int),Good E0 B.ref17_Check [] (zqg t s tb i ) (Shut 0 fun rZ hZ=>rZ=(iv r)∧hZ=[])):=by
 obtain ⟨kk,hk⟩:∃ kk,i+kk=(t.of).length:=⟨(t.of).length - i,by omega⟩
 induction kk generalizing i  hI with
 | zero =>
  have e0:i=(t.of).length:=by omega
  subst e0
  exact .inl ⟨hI,by simp,fun R hg=>hg⟩
 | succ kk ih =>
  obtain ⟨x,hx⟩:=zax (l:=t.of) (i:=i) (by omega)
  have h0:decide (((i:Nat):Int) < (((t.of.map zaU).length:Nat):Int))=true:=by simp;omega
  have hw:IntKind.i64.wrap (((i:Nat):Int)+1)=((i+1:Nat):Int):=zao i zfR
  obtain ⟨r1,q1,c1⟩:=(zdK s x zbL)
  let p_1:List St:=[sb h0,se (zah zaU hx rfl),sc c1]
  cases h2:decide (r1 < 0)
  ·exact (ih (i+1) (by omega) zf2 (by omega)).elim (fun ⟨qZ,xZ,gZ⟩=>.inl ⟨qZ,xZ,fun R hg=>zaa (wkl (p_1++[sb h2,si hw]) [1,2,5,33,34,35] 2 kr (gZ R hg))⟩) (fun ⟨rY,gZ⟩=>.inr ⟨rY,zaa (wkl [sb h0,se (zah zaU hx rfl),sc c1,sb h2,si hw] [1,2,5,33,34,35] 2 kr gZ)⟩)
  ·exact .inr ⟨3,zaa (wkr (p_1++[sb h2]) kr)⟩
noncomputable def zpB (t:Tg) (s:Sch) (tb:List Tb) (i:Nat) :Cfg:=zat B.ref17_Check 1 [(1,tsl tb),(2,.p 0 0),(5,.p 1 0),(45,.sl (t.rank.map Rk.cells)),(46,iv ((t.rank.map Rk.cells).length:Nat)),(47,iv (i:Nat))] [.box t.cells,.box s.cells]
theorem zhf (t:Tg) (s:Sch) (tb:List Tb) (h2:zad tb) (h3:∀ x∈tb,zad x.sch.cols) (hl:zad t.rank) (i:Nat)  (hi:i≤(t.rank).length) (hI:True):((True)∧(decide ((((t.rank).length:Nat):Int) < (((t.rank.map Rk.cells).length:Nat):Int))=false)∧∀ R,Good E0 B.ref17_Check [] (zpB t s tb (t.rank).length ) R→Good E0 B.ref17_Check [] (zpB t s tb i ) R)∨(∃ (r:Int),Good E0 B.ref17_Check [] (zpB t s tb i ) (Shut 0 fun rZ hZ=>rZ=(iv r)∧hZ=[])):=by
 obtain ⟨kk,hk⟩:∃ kk,i+kk=(t.rank).length:=⟨(t.rank).length - i,by omega⟩
 induction kk generalizing i  hI with
 | zero =>
  have e0:i=(t.rank).length:=by omega
  subst e0
  exact .inl ⟨hI,by simp,fun R hg=>hg⟩
 | succ kk ih =>
  obtain ⟨x,hx⟩:=zax (l:=t.rank) (i:=i) (by omega)
  have h0:decide (((i:Nat):Int) < (((t.rank.map Rk.cells).length:Nat):Int))=true:=by simp;omega
  have hw:IntKind.i64.wrap (((i:Nat):Int)+1)=((i+1:Nat):Int):=zao i zfR
  obtain ⟨r1,q1,c1⟩:=(zdK ((zaL tb x.table).fst) x.col zeD)
  cases h2:!(zaL tb x.table).snd
  ·cases h3:decide (r1 < 0)
   ·obtain ⟨x4,e4⟩:=zjF (l:=(zaL tb x.table).fst.cols) (i:=r1) znd
    let p_1:List St:=[sb h0,se (zah Rk.cells hx rfl),sc (zbT tb x.table zeD zeD),sc c1,sg h2,sb h3,se (zcT Col.cells e4 rfl)]
    cases h5:x4.type != 1
    ·exact (ih (i+1) (by omega) zf2 (by omega)).elim (fun ⟨qZ,xZ,gZ⟩=>.inl ⟨qZ,xZ,fun R hg=>zaa (wkl (p_1++[sb h5,si hw]) [1,2,5,45,46,47] 2 kr (gZ R hg))⟩) (fun ⟨rY,gZ⟩=>.inr ⟨rY,zaa (wkl [sb h0,se (zah Rk.cells hx rfl),sc (zbT tb x.table zeD zeD),sc c1,sg h2,sb h3,se (zcT Col.cells e4 rfl),sb h5,si hw] [1,2,5,45,46,47] 2 kr gZ)⟩)
    ·exact .inr ⟨5,zaa (wkr (p_1++[sb h5]) kr)⟩
   ·exact .inr ⟨3,zaa (wkr [sb h0,se (zah Rk.cells hx rfl),sc (zbT tb x.table zeD zeD),sc c1,sg h2,sb h3] kr)⟩
  ·exact .inr ⟨3,zaa (wkr [sb h0,se (zah Rk.cells hx rfl),sc (zbT tb x.table zeD zeD),sc c1,sb h2] kr)⟩
noncomputable def zpk (t:Tg) (s:Sch) (frs:List Fr) (all:List Tb) (i:Nat) :Cfg:=zat B.ref17_Check 2 [(5,.p 1 0),(14,fsl frs),(15,tsl all),(94,.sl (t.acts.map Ac.cells)),(95,iv ((t.acts.map Ac.cells).length:Nat)),(96,iv (i:Nat))] [.box t.cells,.box s.cells]
theorem zhh (t:Tg) (s:Sch) (frs:List Fr) (all:List Tb) (hl:zad t.acts) (ha:∀ a∈t.acts,∃ e:Int,zac E0 S.ref17_checkAction [a.av,s.av,fsl frs,tsl all] [] (iv e) []) (i:Nat)  (hi:i≤(t.acts).length) (hI:True):((True)∧(decide ((((t.acts).length:Nat):Int) < (((t.acts.map Ac.cells).length:Nat):Int))=false)∧∀ R,Good E0 B.ref17_Check [] (zpk t s frs all (t.acts).length ) R→Good E0 B.ref17_Check [] (zpk t s frs all i ) R)∨(∃ (r:Int),Good E0 B.ref17_Check [] (zpk t s frs all i ) (Shut 0 fun rZ hZ=>rZ=(iv r)∧hZ=[])):=by
 obtain ⟨kk,hk⟩:∃ kk,i+kk=(t.acts).length:=⟨(t.acts).length - i,by omega⟩
 induction kk generalizing i  hI with
 | zero =>
  have e0:i=(t.acts).length:=by omega
  subst e0
  exact .inl ⟨hI,by simp,fun R hg=>hg⟩
 | succ kk ih =>
  obtain ⟨x,hx⟩:=zax (l:=t.acts) (i:=i) (by omega)
  have h0:decide (((i:Nat):Int) < (((t.acts.map Ac.cells).length:Nat):Int))=true:=by simp;omega
  have hw:IntKind.i64.wrap (((i:Nat):Int)+1)=((i+1:Nat):Int):=zao i zfR
  have hx1:=ha x (List.mem_of_getElem? hx)
  obtain ⟨e1,c1⟩:=hx1
  let p_1:List St:=[sb h0,se (zah Ac.cells hx rfl),sc c1]
  cases h2:e1 != 0
  ·exact (ih (i+1) (by omega) zf2 (by omega)).elim (fun ⟨qZ,xZ,gZ⟩=>.inl ⟨qZ,xZ,fun R hg=>zaa (wkl (p_1++[sb h2,si hw]) [5,14,15,94,95,96] 2 kr (gZ R hg))⟩) (fun ⟨rY,gZ⟩=>.inr ⟨rY,zaa (wkl [sb h0,se (zah Ac.cells hx rfl),sc c1,sb h2,si hw] [5,14,15,94,95,96] 2 kr gZ)⟩)
  ·exact .inr ⟨e1,zaa (wkr (p_1++[sb h2]) kr)⟩
theorem zmz (t:Tg) (tb:List Tb) (hvt:∃ b:Bool,zac E0 S.ref11_ValidTrigger [t.av] [] (bv b) []) (h2:zad tb) (h3:∀ x∈tb,zad x.sch.cols) (hs:zad (zaL tb t.table).1.cols) (ho:zad t.of) (hr:zad t.rank) (hacs:zad t.acts) (hcw:∀ (tr:List Tb),(tr.length≤2∧∀ x∈tr,∃ n,x=trTb n (zaL tb t.table).1)→∃ e:Int,zac E0 S.ref14_Condition [xsl t.when_,fsl (zcx t (zaL tb t.table).1 [] []),tsl (tb++tr)] [] (iv e) []) (hca:∀ (tr:List Tb),(tr.length≤2∧∀ x∈tr,∃ n,x=trTb n (zaL tb t.table).1)→∀ a∈t.acts,∃ e:Int,zac E0 S.ref17_checkAction [a.av,(zaL tb t.table).1.av,fsl (zcx t (zaL tb t.table).1 [] []),tsl (tb++tr)] [] (iv e) []):∃ (r:Int),zac E0 S.ref17_Check [t.av,tsl tb] [] (iv r) []:=by
 obtain ⟨b1,c1⟩:=hvt
 cases h2:!b1
 ·let p_1:List St:=[sc c1,sb h2,sc (zbT tb t.table zbV zbV)]
  cases h3:!(zaL tb t.table).snd
  ·rcases zg3 t ((zaL tb t.table).fst) tb zbV zbV 0 zbV zbV with ⟨q4,q4_1,g4⟩|⟨r4_0,g4⟩
   ·rcases zhf t ((zaL tb t.table).fst) tb zbV zbV zbV 0 zbV zbV with ⟨q5,q5_1,g5⟩|⟨r5_0,g5⟩
    ·obtain ⟨r6,q6,c6⟩:=(zfk t ((zaL tb t.table).fst) zbV)
     obtain ⟨e7,c7⟩:=(hcw r6 zbV)
     let p_2:List St:=[sb q5_1,sc (zic t ((zaL tb t.table).fst) ([]) ([]) zbV zbV zbV),sc c6,sc (zox tb r6 zbV zbV),sc c7]
     cases h8:e7 != 0
     ·rcases zhh t ((zaL tb t.table).fst) (zcx t (zaL tb t.table).fst [] []) (tb++r6) zbV zbV 0 zbV zbV with ⟨q9,q9_1,g9⟩|⟨r9_0,g9⟩
      ·exact ⟨0,wkc At.ref17_Check (p_1++[sb h3]) [1,2,5,33,34,35] 2 kr (g4 _ (zaa (wkl [sb q4_1] [1,2,5,45,46,47] 2 kr (g5 _ (zaa (wkl (p_2++[sb h8]) [5,14,15,94,95,96] 2 kr (g9 _ (zaa (wkr [sb q9_1] kr)))))))))⟩
      ·exact ⟨r9_0,wkc At.ref17_Check (p_1++[sb h3]) [1,2,5,33,34,35] 2 kr (g4 _ (zaa (wkl [sb q4_1] [1,2,5,45,46,47] 2 kr (g5 _ (zaa (wkl (p_2++[sb h8]) [5,14,15,94,95,96] 2 kr g9))))))⟩
     ·exact ⟨e7,wkc At.ref17_Check (p_1++[sb h3]) [1,2,5,33,34,35] 2 kr (g4 _ (zaa (wkl [sb q4_1] [1,2,5,45,46,47] 2 kr (g5 _ (zaa (wkr (p_2++[sb h8]) kr))))))⟩
    ·exact ⟨r5_0,wkc At.ref17_Check (p_1++[sb h3]) [1,2,5,33,34,35] 2 kr (g4 _ (zaa (wkl [sb q4_1] [1,2,5,45,46,47] 2 kr g5)))⟩
   ·exact ⟨r4_0,wkc At.ref17_Check (p_1++[sb h3]) [1,2,5,33,34,35] 2 kr (g4)⟩
  ·exact ⟨3,wk At.ref17_Check (p_1++[sb h3]) kr⟩
 ·exact ⟨17,wk At.ref17_Check [sc c1,sb h2] kr⟩
end Go.AM
namespace Go.AM
set_option maxRecDepth 100000
set_option linter.unusedSimpArgs false
set_option linter.unusedVariables false
theorem tyOk {n:Nat} {x:X} {frs:List Fr} {tb:List Tb} (h:XOk n x) (hf:FsOk n frs) (ht:TbOk tb):TyOk x frs tb:=⟨_,_,zgZ n x frs tb h hf ht⟩
theorem zqJ {n:Nat} {l:List X} {frs:List Fr} {tb:List Tb} (h:∀ x∈l,XOk n x) (hf:FsOk n frs) (ht:TbOk tb):∃ e:Int,zac E0 S.ref14_Condition [xsl l,fsl frs,tsl tb] [] (iv e) [] :=
 ⟨_,zhJ (f:=fun x=>zgr n x frs tb) fun x hx=>zgZ n x frs tb (h x hx) hf ht⟩
theorem zdx {tb:List Tb} (ht:TbOk tb) (m:Str):zad (zaL tb m).1.cols:=ze5 tb m tb 0 ht.cols
theorem zr1 {n:Nat} {q:Qy} {frs:List Fr} {tb:List Tb} (h:QW n q) (hf:FsOk (n+1) frs) (ht:TbOk tb):∃ (r:List Int) (e:Int),zad r∧zac E0 S.ref14_Types [q.av,fsl frs,tsl tb] [] (.tup [isl r,iv e]) [] :=
 zmJ q frs tb (fun x=>zgr n x (rIns frs tb q) tb) _ hf.short ht.len ht.cols (zaK h.items) (zdx ht q.frm) (fun x hx=>zgZ n x _ tb (h.hi x hx) (hf.ins ht q) ht) (zhJ fun x hx=>zgZ n x _ tb (h.hw x hx) (hf.ins ht q) ht)
theorem insOk {n:Nat} {a:Ac} {s:Sch} {frs:List Fr} {tb:List Tb} (h:AcOk n a) (hs:zad s.cols) (hf:FsOk (n+1) frs) (ht:TbOk tb):∃ e:Int,zac E0 S.ref16_checkInsert [a.av,s.av,fsl frs,tsl tb] [] (iv e) [] :=
 zji a s frs tb hs (zaK h.rows) (zaK h.query) (fun r hr=>⟨zaK (h.row r hr).1,fun x hx=>tyOk ((h.row r hr).2 x hx) hf.less ht⟩) (fun q hq=>zr1 (h.qs q hq) hf ht)
theorem chkOk {n:Nat} {a:Ac} {frs:List Fr} {tb:List Tb} (h:AcOk n a) (hf:FsOk (n+1) frs) (ht:TbOk tb):∃ e:Int,zac E0 S.ref16_Check [a.av,fsl frs,tsl tb] [] (iv e) [] :=
 zmD a frs tb (zmC a (vaOk h)) hf.short ht.len ht.cols (zdx ht a.table) (zaK h.sets) (insOk h (zdx ht a.table) hf ht) (fun s hs=>tyOk (h.set s hs) (hf.ins ht (Qy.mk false [] a.table [])) ht) (zqJ h.w (hf.ins ht (Qy.mk false [] a.table [])) ht)
def zmO (a:Ac):Prop:=a.kind=5→∃ s,a.sets=[s]
theorem actOk {n:Nat} {a:Ac} {s:Sch} {frs:List Fr} {tb:List Tb} (h:AcOk n a) (hset:zmO a) (hs:zad s.cols) (hf:FsOk (n+1) frs) (ht:TbOk tb):∃ e:Int,zac E0 S.ref17_checkAction [a.av,s.av,fsl frs,tsl tb] [] (iv e) []:=by
 by_cases h5:a.kind=5
 ·obtain ⟨s0,hs0⟩:=hset h5
  cases a with
  | mk k tbn rows query sets wh text =>
   subst hs0
   subst h5
   exact zhc ⟨5,tbn,rows,query,[s0],wh,text⟩ s0 s frs tb hs (tyOk (h.set s0 (by simp)) hf.less ht)
 ·exact zhe a s frs tb (by simpa using h5) (chkOk h hf ht)
theorem TbOk.tr {tb:List Tb} {s:Sch} {tr:List Tb} (h:TbOk tb) (hl:tb.length≤1000) (hs:zad s.cols) (ht:tr.length≤2∧∀ x∈tr,∃ n,x=trTb n s):TbOk (tb++tr):=by
 refine ⟨by have:=ht.1;simp only [zad,List.length_append];omega,fun x hx=>?_,fun x hx=>?_,fun x hx=>?_⟩ <;> rcases List.mem_append.mp hx with hx|hx
 ·exact h.cols x hx
 ·obtain ⟨n,rfl⟩:=ht.2 x hx
  simpa [trTb] using hs
 ·exact h.rows x hx
 ·obtain ⟨n,rfl⟩:=ht.2 x hx
  simp [trTb]
 ·exact h.vals x hx
 ·obtain ⟨n,rfl⟩:=ht.2 x hx
  intro r hr
  cases hr
theorem frOk1 {n:Nat} {l:List Fr} {s:Sch} (hs:zad s.cols) (hn:n≤1000) (hl:l.length≤2) (h:∀ f∈l,f.cols=s.cols∧f.vals=[]):FsOk n l :=
 ⟨by omega,fun f hf=>by rw [(h f hf).1];exact hs,fun f hf v hv=>by rw [(h f hf).2] at hv;cases hv⟩
theorem frOk {n:Nat} (t:Tg) {s:Sch} (hs:zad s.cols) (hn:n≤1000):FsOk n (zcx t s [] []):=by
 unfold zcx
 cases t.each <;> cases t.event==2 <;> cases t.event==3 <;> cases t.event==1 <;> exact frOk1 hs hn (by simp) (by simp [zdO])
theorem zsF {n:Nat} {t:Tg} {tb:List Tb} (h:TgOk n t) (hset:∀ a∈t.acts,zmO a) (ht:TbOk tb) (hl:tb.length≤1000) (hn:n < 1000):∃ r:Int,zac E0 S.ref17_Check [t.av,tsl tb] [] (iv r) [] :=
 zmz t tb (vtOk h) ht.len ht.cols (zdx ht t.table) (zaK h.of) (zaK h.rank) (zaK h.acts)
  (fun tr htr=>zqJ h.when_ (frOk t (zdx ht t.table) (by omega)) (ht.tr hl (zdx ht t.table) htr))
  (fun tr htr a ha=>actOk (h.act a ha) (hset a ha) (zdx ht t.table) (frOk t (zdx ht t.table) (by omega)) (ht.tr hl (zdx ht t.table) htr))
end Go.AM
namespace Go.AM
structure InsI (l:List Lk) (x:Lk) (i:Nat) (out:List Lk) (done:Bool):Prop where
 nd:out.Nodup
 sub:∀ z∈out,z=x∨z∈l.take i
 sup:∀ z∈l.take i,z=x∨z∈out
 dn:x∈out↔done=true
theorem zfZ {α:Type}:∀ (l m:List α),l.Nodup→(∀ x∈l,x∈m)→l.length≤m.length
 | [],_,_,_=>by simp
 | x::r,m,hn,hs=>by
  haveI:DecidableEq α:=fun a b=>Classical.propDecidable (a=b)
  rw [List.nodup_cons] at hn
  have hx:x∈m:=hs x (by simp)
  have h1:=zfZ r (m.erase x) hn.2 fun y hy=>(List.mem_erase_of_ne (by rintro rfl;exact hn.1 hy)).2 (hs y (by simp [hy]))
  rw [List.length_erase_of_mem hx] at h1
  have h2:=List.length_pos_of_mem hx
  simp only [List.length_cons]
  omega
theorem zo4 {a b:Str} (h:(a==b)=true):a=b:=by
 cases a with
 | mk a=>cases b with
  | mk b =>
   have h':(a==b)=true:=h
   rw [eq_of_beq h']
theorem zsf (s:Str):(s==s)=true:=by
 cases s with
 | mk d =>
  have h:(d==d)=true:=by simp
  exact h
theorem lk_eq {x u:Lk} (h:(!(x.fst==u.fst&&(x.snd==u.snd&&true)))=false):x=u:=by
 simp only [Bool.not_eq_false',Bool.and_eq_true,and_true] at h
 cases x;cases u
 simp only at h
 rw [zo4 h.1,zo4 h.2]
theorem lk_ne {x u:Lk} (h:(!(x.fst==u.fst&&(x.snd==u.snd&&true)))=true):x≠u:=by
 rintro rfl;simp [zsf] at h
theorem ze1 {l:List Lk} {i:Nat} {x:Lk} (hx:l[i]?=some x) (z:Lk):z∈l.take (i+1)↔z∈l.take i∨z=x:=by
 rw [List.take_add_one,hx];simp
theorem zmb {l:List Lk} (hn:l.Nodup) {i:Nat} {x:Lk} (hx:l[i]?=some x):x ∉ l.take i:=by
 intro h
 obtain ⟨j,hj,hje⟩:=List.mem_iff_getElem.mp h
 obtain ⟨hi,hie⟩:=List.getElem?_eq_some_iff.mp hx
 simp only [List.length_take] at hj
 rw [List.getElem_take] at hje
 have h2:=hn
 unfold List.Nodup at h2
 rw [List.pairwise_iff_getElem] at h2
 exact h2 j i (by omega) hi (by omega) (hje.trans hie.symm)
theorem InsI.len {l:List Lk} {u:Lk} {i:Nat} {out:List Lk} {d:Bool} (h:InsI l u i out d):out.length≤i+1:=by
 have:=zfZ out (u::l.take i) h.nd fun z hz=>by simpa using h.sub z hz
 simp only [List.length_cons,List.length_take] at this
 omega
theorem InsI.s1 {l:List Lk} {u x:Lk} {i:Nat} {out:List Lk} {d:Bool} (h:InsI l u i out d) (hx:l[i]?=some x) (e:(!(x.fst==u.fst&&(x.snd==u.snd&&true)))=false):InsI l u (i+1) out d:=by
 obtain rfl:=lk_eq e
 refine ⟨h.nd,fun z hz=>?_,fun z hz=>?_,h.dn⟩
 ·rcases h.sub z hz with h1|h1
  ·exact .inl h1
  ·exact .inr ((ze1 hx z).2 (.inl h1))
 ·rcases (ze1 hx z).1 hz with h1|h1
  ·exact h.sup z h1
  ·exact .inl h1
theorem InsI.s2 {l:List Lk} {u x:Lk} {i:Nat} {out:List Lk} {d:Bool} (h:InsI l u i out d) (hn:l.Nodup) (hx:l[i]?=some x) (e:(!(x.fst==u.fst&&(x.snd==u.snd&&true)))=true):InsI l u (i+1) (out++[x]) d:=by
 have hne:=lk_ne e
 refine ⟨?_,fun z hz=>?_,fun z hz=>?_,?_⟩
 ·refine List.nodup_append.2 ⟨h.nd,by simp,fun a ha b hb=>?_⟩
  simp only [List.mem_singleton] at hb
  subst hb
  rintro rfl
  rcases h.sub a ha with h1|h1
  ·exact hne h1
  ·exact zmb hn hx h1
 ·simp only [List.mem_append,List.mem_singleton] at hz
  rcases hz with hz|hz
  ·rcases h.sub z hz with h1|h1
   ·exact .inl h1
   ·exact .inr ((ze1 hx z).2 (.inl h1))
  ·exact .inr ((ze1 hx z).2 (.inr hz))
 ·simp only [List.mem_append,List.mem_singleton]
  rcases (ze1 hx z).1 hz with h1|h1
  ·rcases h.sup z h1 with h2|h2
   ·exact .inl h2
   ·exact .inr (.inl h2)
  ·exact .inr (.inr h1)
 ·simp only [List.mem_append,List.mem_singleton]
  rw [← h.dn]
  exact ⟨fun h1=>h1.resolve_right fun h2=>hne h2.symm,.inl⟩
theorem InsI.add {l:List Lk} {u:Lk} {i:Nat} {out:List Lk} {d:Bool} (h:InsI l u i out d) (e:(!d)=true):InsI l u i (out++[u]) true:=by
 have hnu:u ∉ out:=fun hu=>by have:=h.dn.1 hu;subst this;simp at e
 refine ⟨?_,fun z hz=>?_,fun z hz=>?_,by simp⟩
 ·refine List.nodup_append.2 ⟨h.nd,by simp,fun a ha b hb=>?_⟩
  simp only [List.mem_singleton] at hb
  subst hb
  rintro rfl
  exact hnu ha
 ·simp only [List.mem_append,List.mem_singleton] at hz
  rcases hz with hz|hz
  ·exact h.sub z hz
  ·exact .inl hz
 ·simp only [List.mem_append,List.mem_singleton]
  rcases h.sup z hz with h2|h2
  ·exact .inl h2
  ·exact .inr (.inl h2)
theorem InsI.both {l:List Lk} {u:Lk} {i:Nat} {out:List Lk} {d:Bool} (h:InsI l u i out d):InsI l u i out d∧out.length≤i+1:=⟨h,h.len⟩
structure InsR (l:List Lk) (u:Lk) (r:List Lk):Prop where
 nd:r.Nodup
 sub:∀ z∈r,z=u∨z∈l
 sup:∀ z∈l,z∈r
theorem InsI.done {l:List Lk} {u:Lk} {out:List Lk} {d:Bool} (h:InsI l u l.length out d) (e:(!d)=false):InsR l u out:=by
 have hd:d=true:=by simpa using e
 have hu:=h.dn.2 hd
 refine ⟨h.nd,fun z hz=>by simpa using h.sub z hz,fun z hz=>?_⟩
 rcases h.sup z (by simpa using hz) with rfl|h1
 ·exact hu
 ·exact h1
theorem InsI.end_ {l:List Lk} {u:Lk} {out:List Lk} {d:Bool} (h:InsI l u l.length out d) (e:(!d)=true):InsR l u (out++[u]):=(h.add e).done rfl
structure LkN (N:List Str) (l:List Lk):Prop where
 nd:l.Nodup
 mem:∀ z∈l,z.fst∈N∧z.snd∈N
theorem InsR.lk {N:List Str} {l:List Lk} {u:Lk} {r:List Lk} (h:InsR l u r) (hl:LkN N l) (h1:u.fst∈N) (h2:u.snd∈N):LkN N r :=
 ⟨h.nd,fun z hz=>by rcases h.sub z hz with rfl|hz;exact ⟨h1,h2⟩;exact hl.mem z hz⟩
theorem znq {α β:Type} (f:α→List β) (k:Nat) (hf:∀ a,(f a).length=k):∀ l:List α,(l.flatMap f).length=l.length * k
 | []=>by simp
 | a::r=>by rw [List.flatMap_cons,List.length_append,hf,znq f k hf r,List.length_cons,Nat.add_mul];omega
theorem LkN.len {N:List Str} {l:List Lk} (h:LkN N l):l.length≤N.length * N.length:=by
 have h1:=zfZ l (N.flatMap fun a=>N.map fun b=>⟨a,b⟩) h.nd fun z hz=>by
  simp only [List.mem_flatMap,List.mem_map]
  exact ⟨z.fst,(h.mem z hz).1,z.snd,(h.mem z hz).2,by cases z;rfl⟩
 have h2:(N.flatMap fun a=>N.map fun b=>(⟨a,b⟩:Lk)).length=N.length * N.length:=by
  exact znq _ _ (fun a=>by simp) N
 omega
end Go.AM
namespace Go.AM
set_option maxRecDepth 100000
set_option maxHeartbeats 1000000
set_option linter.unusedSimpArgs false
set_option linter.unusedVariables false
theorem zh5 {p:Prop} (h:p:=by first|exact (hI.1.s1 hx (by assumption)).both|exact (hI.1.s2 hn hx (by assumption)).both|exact ((hI.1.add (by assumption)).s1 hx (by assumption)).both|exact ((hI.1.add (by assumption)).s2 hn hx (by assumption)).both):p:=h
theorem zb9 {p:Prop} (h:p:=by first|assumption|omega|(simp;done)|(simp;omega)):p:=h
theorem zgU {p:Prop} (h:p:=by first|trivial|assumption|(simp;done)|omega|(simp;omega)|(simp at *;omega)):p:=h
theorem zh6 {p:Prop} (h:p:=by first|assumption|exact ⟨h,fun _ hz=>hz⟩|(simp;done)):p:=h
theorem zls {p:Prop} (h:p:=by first|assumption|(simp;done)|exact ⟨⟨by simp,by simp,by simp,by simp⟩,by simp⟩):p:=h
theorem zhN {p:Prop} (h:p:=by first|omega|(simp only [zad,Few] at *;omega)):p:=h
abbrev lsl (l:List Lk):AV:=.sl (l.map Lk.cells)
theorem zik (a b:Lk) :∃ (r:Bool),zac E0 S.ref18_before [a.av,b.av] [] (bv r) []:=by
 cases h1:Op.bytesLess (ByteArray.toList a.fst) (ByteArray.toList b.fst)
 ·cases h2:ByteArray.toList a.fst==ByteArray.toList b.fst
  ·exact ⟨false,wk At.ref18_before [sg h1,sb h2] kr⟩
  ·exact ⟨Op.bytesLess (ByteArray.toList a.snd) (ByteArray.toList b.snd),wk At.ref18_before [sg h1,sg h2] kr⟩
 ·exact ⟨true,wk At.ref18_before [sb h1] kr⟩
noncomputable def L_pr (l:List Lk) (a b:Str) (i:Nat) :Cfg:=zat B.ref18_Precedes 0 [(1,sv a),(2,sv b),(9,lsl l),(10,iv ((l.map Lk.cells).length:Nat)),(11,iv (i:Nat))] []
theorem zgg (l:List Lk) (a b:Str) (hl:zad l) (i:Nat)  (hi:i≤(l).length) (hI:True):((True)∧(decide ((((l).length:Nat):Int) < (((l.map Lk.cells).length:Nat):Int))=false)∧∀ R,Good E0 B.ref18_Precedes [] (L_pr l a b (l).length ) R→Good E0 B.ref18_Precedes [] (L_pr l a b i ) R)∨(∃ (r:Bool),Good E0 B.ref18_Precedes [] (L_pr l a b i ) (Shut 0 fun rZ hZ=>rZ=(bv r)∧hZ=[])):=by
 obtain ⟨kk,hk⟩:∃ kk,i+kk=(l).length:=⟨(l).length - i,by omega⟩
 induction kk generalizing i  hI with
 | zero =>
  have e0:i=(l).length:=by omega
  subst e0
  exact .inl ⟨hI,by simp,fun R hg=>hg⟩
 | succ kk ih =>
  obtain ⟨x,hx⟩:=zax (l:=l) (i:=i) (by omega)
  have h0:decide (((i:Nat):Int) < (((l.map Lk.cells).length:Nat):Int))=true:=by simp;omega
  have hw:IntKind.i64.wrap (((i:Nat):Int)+1)=((i+1:Nat):Int):=zao i zhN
  let p_1:List St:=[sb h0,se (zah Lk.cells hx rfl)]
  let p_2:List St:=[sb h0,se (zah Lk.cells hx rfl)]
  cases h1:ByteArray.toList x.fst==ByteArray.toList a
  ·exact (ih (i+1) (by omega) zgU (by omega)).elim (fun ⟨qZ,xZ,gZ⟩=>.inl ⟨qZ,xZ,fun R hg=>zaa (wkl (p_1++[sb h1,si hw]) [1,2,9,10,11] 0 kr (gZ R hg))⟩) (fun ⟨rY,gZ⟩=>.inr ⟨rY,zaa (wkl (p_2++[sb h1,si hw]) [1,2,9,10,11] 0 kr gZ)⟩)
  ·cases h2:ByteArray.toList x.snd==ByteArray.toList b
   ·exact (ih (i+1) (by omega) zgU (by omega)).elim (fun ⟨qZ,xZ,gZ⟩=>.inl ⟨qZ,xZ,fun R hg=>zaa (wkl (p_1++[sg h1,sb h2,si hw]) [1,2,9,10,11] 0 kr (gZ R hg))⟩) (fun ⟨rY,gZ⟩=>.inr ⟨rY,zaa (wkl (p_2++[sg h1,sb h2,si hw]) [1,2,9,10,11] 0 kr gZ)⟩)
   ·exact .inr ⟨true,zaa (wkr (p_1++[sg h1,sb h2]) kr)⟩
theorem zkQ (l:List Lk) (a b:Str) (hl:zad l):∃ (r:Bool),zac E0 S.ref18_Precedes [lsl l,sv a,sv b] [] (bv r) []:=by
 rcases zgg l a b zb9 0 zb9 zb9 with ⟨q1,q1_1,g1⟩|⟨r1_0,g1⟩
 ·exact ⟨false,wkc At.ref18_Precedes [] [1,2,9,10,11] 0 kr (g1 _ (zaa (wkr [sb q1_1] kr)))⟩
 ·exact ⟨r1_0,wkc At.ref18_Precedes [] [1,2,9,10,11] 0 kr (g1)⟩
noncomputable def zpM (l:List Lk) (io:Nat) (y:Lk) (i:Nat) :Cfg:=zat B.ref18_Valid 1 [(0,lsl l),(4,.p 0 0),(7,lsl l),(8,iv ((l.map Lk.cells).length:Nat)),(9,iv (io:Nat)),(33,lsl l),(34,iv ((l.map Lk.cells).length:Nat)),(35,iv (i:Nat))] [.box y.cells]
theorem zd4 (l:List Lk) (io:Nat) (y:Lk) (hl:zad l) (i:Nat)  (hi:i≤(l).length) (hI:True):((True)∧(decide ((((l).length:Nat):Int) < (((l.map Lk.cells).length:Nat):Int))=false)∧∀ R,Good E0 B.ref18_Valid [] (zpM l io y (l).length ) R→Good E0 B.ref18_Valid [] (zpM l io y i ) R)∨(∃ (r:Bool),Good E0 B.ref18_Valid [] (zpM l io y i ) (Shut 0 fun rZ hZ=>rZ=(bv r)∧hZ=[])):=by
 obtain ⟨kk,hk⟩:∃ kk,i+kk=(l).length:=⟨(l).length - i,by omega⟩
 induction kk generalizing i  hI with
 | zero =>
  have e0:i=(l).length:=by omega
  subst e0
  exact .inl ⟨hI,by simp,fun R hg=>hg⟩
 | succ kk ih =>
  obtain ⟨x,hx⟩:=zax (l:=l) (i:=i) (by omega)
  have h0:decide (((i:Nat):Int) < (((l.map Lk.cells).length:Nat):Int))=true:=by simp;omega
  have hw:IntKind.i64.wrap (((i:Nat):Int)+1)=((i+1:Nat):Int):=zao i zhN
  let p_1:List St:=[sb h0,se (zah Lk.cells hx rfl)]
  let p_2:List St:=[sb h0,se (zah Lk.cells hx rfl)]
  cases h1:ByteArray.toList y.snd==ByteArray.toList x.fst
  ·exact (ih (i+1) (by omega) zgU (by omega)).elim (fun ⟨qZ,xZ,gZ⟩=>.inl ⟨qZ,xZ,fun R hg=>zaa (wkl (p_1++[sb h1,si hw]) [0,4,7,8,9,33,34,35] 1 kr (gZ R hg))⟩) (fun ⟨rY,gZ⟩=>.inr ⟨rY,zaa (wkl (p_2++[sb h1,si hw]) [0,4,7,8,9,33,34,35] 1 kr gZ)⟩)
  ·obtain ⟨r2,c2⟩:=(zkQ l y.fst x.snd zb9)
   cases h3:!r2
   ·exact (ih (i+1) (by omega) zgU (by omega)).elim (fun ⟨qZ,xZ,gZ⟩=>.inl ⟨qZ,xZ,fun R hg=>zaa (wkl (p_1++[sg h1,sc c2,sb h3,si hw]) [0,4,7,8,9,33,34,35] 1 kr (gZ R hg))⟩) (fun ⟨rY,gZ⟩=>.inr ⟨rY,zaa (wkl (p_2++[sg h1,sc c2,sb h3,si hw]) [0,4,7,8,9,33,34,35] 1 kr gZ)⟩)
   ·exact .inr ⟨false,zaa (wkr (p_1++[sg h1,sc c2,sb h3]) kr)⟩
noncomputable def L_va (l:List Lk) (i:Nat) :Cfg:=zat B.ref18_Valid 0 [(0,lsl l),(7,lsl l),(8,iv ((l.map Lk.cells).length:Nat)),(9,iv (i:Nat))] []
theorem zhG (l:List Lk) (hl:zad l) (i:Nat)  (hi:i≤(l).length) (hI:True):((True)∧(decide ((((l).length:Nat):Int) < (((l.map Lk.cells).length:Nat):Int))=false)∧∀ R,Good E0 B.ref18_Valid [] (L_va l (l).length ) R→Good E0 B.ref18_Valid [] (L_va l i ) R)∨(∃ (r:Bool),Good E0 B.ref18_Valid [] (L_va l i ) (Shut 0 fun rZ hZ=>rZ=(bv r)∧hZ=[])):=by
 obtain ⟨kk,hk⟩:∃ kk,i+kk=(l).length:=⟨(l).length - i,by omega⟩
 induction kk generalizing i  hI with
 | zero =>
  have e0:i=(l).length:=by omega
  subst e0
  exact .inl ⟨hI,by simp,fun R hg=>hg⟩
 | succ kk ih =>
  obtain ⟨x,hx⟩:=zax (l:=l) (i:=i) (by omega)
  have h0:decide (((i:Nat):Int) < (((l.map Lk.cells).length:Nat):Int))=true:=by simp;omega
  have hw:IntKind.i64.wrap (((i:Nat):Int)+1)=((i+1:Nat):Int):=zao i zhN
  let p_1:List St:=[sb h0,se (zah Lk.cells hx rfl)]
  let p_2:List St:=[sb h0,se (zah Lk.cells hx rfl)]
  cases h1:ByteArray.toList x.fst==ByteArray.toList x.snd
  ·cases h2:decide (0 < (i:Int))
   ·let p_3:List St:=p_1++[sd [(6,[sg h1]),(7,[sg h1]),(8,[sg h1]),(9,[sb h2]),(10,[sb h2]),(11,[sb h2]),(12,[sb h2]),(13,[sb h2]),(14,[sb h2]),(15,[sb h2]),(16,[sb h2]),(17,[so h1 (sb h2)])]]
    cases h3:bif ByteArray.toList x.fst==ByteArray.toList x.snd then true else false
    ·rcases zd4 l i x zb9 0 zb9 zb9 with ⟨q4,q4_1,g4⟩|⟨r4_0,g4⟩
     ·exact (ih (i+1) (by omega) zgU (by omega)).elim (fun ⟨qZ,xZ,gZ⟩=>.inl ⟨qZ,xZ,fun R hg=>zaa (wkl (p_3++[sb h3]) [0,4,7,8,9,33,34,35] 1 kr (g4 _ (zaa (wkl [sb q4_1,si hw] [0,7,8,9] 0 kr (gZ R hg)))))⟩) (fun ⟨rY,gZ⟩=>.inr ⟨rY,zaa (wkl (p_2++[sd [(6,[sg h1]),(7,[sg h1]),(8,[sg h1]),(9,[sb h2]),(10,[sb h2]),(11,[sb h2]),(12,[sb h2]),(13,[sb h2]),(14,[sb h2]),(15,[sb h2]),(16,[sb h2]),(17,[so h1 (sb h2)])],sb h3]) [0,4,7,8,9,33,34,35] 1 kr (g4 _ (zaa (wkl [sb q4_1,si hw] [0,7,8,9] 0 kr gZ))))⟩)
     ·exact .inr ⟨r4_0,zaa (wkl (p_3++[sb h3]) [0,4,7,8,9,33,34,35] 1 kr g4)⟩
    ·exact .inr ⟨false,zaa (wkr (p_3++[sb h3]) kr)⟩
   ·obtain ⟨x5,e5⟩:=zjF (l:=l) (i:=IntKind.i64.wrap ((i:Int) - (1:Int))) (by (have:=(List.getElem?_eq_some_iff.mp hx).1;simp only [zad] at hl;simp only [decide_eq_true_eq,IntKind.wrap_i64] at *;omega))
    obtain ⟨r6,c6⟩:=(zik x5 x)
    let p_4:List St:=p_1++[sd [(6,[sg h1]),(7,[sg h1]),(8,[sg h1]),(9,[sg h2]),(10,[sg h2]),(11,[so h2 (si (e:=IntKind.i64.wrap ((i:Int) - 1)) rfl)]),(12,[so h2 (se (zcT Lk.cells e5 rfl))]),(13,[sg h2]),(14,[sg h2]),(15,[so h2 (sc c6)]),(16,[sg h2]),(17,[sg h1])]]
    cases h7:bif ByteArray.toList x.fst==ByteArray.toList x.snd then true else bif decide (0 < (i:Int)) then !r6 else false
    ·rcases zd4 l i x zb9 0 zb9 zb9 with ⟨q8,q8_1,g8⟩|⟨r8_0,g8⟩
     ·exact (ih (i+1) (by omega) zgU (by omega)).elim (fun ⟨qZ,xZ,gZ⟩=>.inl ⟨qZ,xZ,fun R hg=>zaa (wkl (p_4++[sb h7]) [0,4,7,8,9,33,34,35] 1 kr (g8 _ (zaa (wkl [sb q8_1,si hw] [0,7,8,9] 0 kr (gZ R hg)))))⟩) (fun ⟨rY,gZ⟩=>.inr ⟨rY,zaa (wkl (p_2++[sd [(6,[sg h1]),(7,[sg h1]),(8,[sg h1]),(9,[sg h2]),(10,[sg h2]),(11,[so h2 (si (e:=IntKind.i64.wrap ((i:Int) - 1)) rfl)]),(12,[so h2 (se (zcT Lk.cells e5 rfl))]),(13,[sg h2]),(14,[sg h2]),(15,[so h2 (sc c6)]),(16,[sg h2]),(17,[sg h1])],sb h7]) [0,4,7,8,9,33,34,35] 1 kr (g8 _ (zaa (wkl [sb q8_1,si hw] [0,7,8,9] 0 kr gZ))))⟩)
     ·exact .inr ⟨r8_0,zaa (wkl (p_4++[sb h7]) [0,4,7,8,9,33,34,35] 1 kr g8)⟩
    ·exact .inr ⟨false,zaa (wkr (p_4++[sb h7]) kr)⟩
  ·exact .inr ⟨false,zaa (wkr (p_1++[sd [(6,[sb h1]),(7,[sb h1]),(8,[sb h1]),(17,[sb h1]),(18,[sb h1])]]) kr)⟩
theorem zja (l:List Lk) (hl:zad l):∃ (r:Bool),zac E0 S.ref18_Valid [lsl l] [] (bv r) []:=by
 rcases zhG l zb9 0 zb9 zb9 with ⟨q1,q1_1,g1⟩|⟨r1_0,g1⟩
 ·exact ⟨true,wkc At.ref18_Valid [] [0,7,8,9] 0 kr (g1 _ (zaa (wkr [sb q1_1] kr)))⟩
 ·exact ⟨r1_0,wkc At.ref18_Valid [] [0,7,8,9] 0 kr (g1)⟩
noncomputable def L_is (l:List Lk) (u:Lk) (i:Nat) (out:List Lk) (done:Bool):Cfg:=zat B.ref18_insert 0 [(3,.p 0 0),(5,.own 1 out.length),(6,bv done),(9,lsl l),(10,iv ((l.map Lk.cells).length:Nat)),(11,iv (i:Nat))] [.box u.cells,.row Ty.Link (out.map Lk.cells) false]
theorem zg5 (l:List Lk) (u:Lk) (hl:zad l) (hn:l.Nodup) (i:Nat) (out:List Lk) (done:Bool) (hi:i≤(l).length) (hI:InsI l u i out done∧out.length≤i+1):∃ (out':List Lk) (done':Bool),(InsI l u (l).length out' done'∧out'.length≤(l).length+1)∧(decide ((((l).length:Nat):Int) < (((l.map Lk.cells).length:Nat):Int))=false)∧∀ R,Good E0 B.ref18_insert [] (L_is l u (l).length out' done') R→Good E0 B.ref18_insert [] (L_is l u i out done) R:=by
 obtain ⟨kk,hk⟩:∃ kk,i+kk=(l).length:=⟨(l).length - i,by omega⟩
 induction kk generalizing i out done with
 | zero =>
  have e0:i=(l).length:=by omega
  subst e0
  exact ⟨out,done,hI,by simp,fun R hg=>hg⟩
 | succ kk ih =>
  obtain ⟨x,hx⟩:=zax (l:=l) (i:=i) (by omega)
  have h0:decide (((i:Nat):Int) < (((l.map Lk.cells).length:Nat):Int))=true:=by simp;omega
  have hw:IntKind.i64.wrap (((i:Nat):Int)+1)=((i+1:Nat):Int):=zao i zhN
  have hol:out.length≤1000000000:=by have:=hI.2;simp only [zad] at hl;omega
  let p_1:List St:=[sb h0,se (zah Lk.cells hx rfl)]
  cases h1:!done
  ·cases h2:!(x.fst==u.fst&&(x.snd==u.snd&&true))
   ·obtain ⟨outZ,doneZ,qZ,xZ,gZ⟩:=ih (i+1) out done (by omega) zh5 (by omega);exact ⟨outZ,doneZ,qZ,xZ,fun R hg=>zaa (wkl (p_1++[sb h1,sq zer,sb h2,si hw]) [3,5,6,9,10,11] 2 kr (gZ R hg))⟩
   ·obtain ⟨outZ,doneZ,qZ,xZ,gZ⟩:=ih (i+1) (out++[x]) done (by omega) zh5 (by omega);exact ⟨outZ,doneZ,qZ,xZ,fun R hg=>zaa (wkl (p_1++[sb h1,sq zer,sb h2,sqx (AllLen [[sv x.fst,sv x.snd]] 2∧out.length=(List.map Lk.cells out).length∧(((List.map Lk.cells out).length+[[sv x.fst,sv x.snd]].length) * 32).le 140737488355328),si hw]) [3,5,6,9,10,11] 2 kr (zav (show ([(3,AV.p 0 0),(5,AV.own 1 (List.map Lk.cells out++[[sv x.fst,sv x.snd]]).length),(6,bv done),(9,AV.sl (List.map Lk.cells l)),(10,iv (↑(List.map Lk.cells l).length:Int)),(11,iv (↑(i+1):Int))]:TS)=[(3,AV.p 0 0),(5,AV.own 1 (out++[x]).length),(6,bv done),(9,AV.sl (List.map Lk.cells l)),(10,iv (↑(List.map Lk.cells l).length:Int)),(11,iv (↑(i+1):Int))] by first|rfl|(simp;done)|(simp [X.cells,Qy.cells,V.cells,Col.cells,Rw.cells,Tb.cells,Fr.cells,Sch.cells,Tp.cells,Pl.cells,xCol,xLit,xBin,xNeg,Im.cells,Lk.cells,Ac.cells,Se.cells,Tg.cells,Rk.cells];done)) (show ([Blk.box [sv u.fst,sv u.snd],Blk.row Ty.Link (List.map Lk.cells out++[[sv x.fst,sv x.snd]]) false]:Heap)=[Blk.box [sv u.fst,sv u.snd],Blk.row Ty.Link (List.map Lk.cells (out++[x])) false] by first|rfl|(simp;done)|(simp [X.cells,Qy.cells,V.cells,Col.cells,Rw.cells,Tb.cells,Fr.cells,Sch.cells,Tp.cells,Pl.cells,xCol,xLit,xBin,xNeg,Im.cells,Lk.cells,Ac.cells,Se.cells,Tg.cells,Rk.cells];done)) (gZ R hg)))⟩
  ·obtain ⟨r3,c3⟩:=(zik x u)
   cases h4:!r3
   ·cases h5:!(x.fst==u.fst&&(x.snd==u.snd&&true))
    ·obtain ⟨outZ,doneZ,qZ,xZ,gZ⟩:=ih (i+1) out done (by omega) zh5 (by omega);exact ⟨outZ,doneZ,qZ,xZ,fun R hg=>zaa (wkl (p_1++[sg h1,sc c3,sb h4,sq zer,sb h5,si hw]) [3,5,6,9,10,11] 2 kr (gZ R hg))⟩
    ·obtain ⟨outZ,doneZ,qZ,xZ,gZ⟩:=ih (i+1) (out++[x]) done (by omega) zh5 (by omega);exact ⟨outZ,doneZ,qZ,xZ,fun R hg=>zaa (wkl (p_1++[sg h1,sc c3,sb h4,sq zer,sb h5,sqx (AllLen [[sv x.fst,sv x.snd]] 2∧out.length=(List.map Lk.cells out).length∧(((List.map Lk.cells out).length+[[sv x.fst,sv x.snd]].length) * 32).le 140737488355328),si hw]) [3,5,6,9,10,11] 2 kr (zav (show ([(3,AV.p 0 0),(5,AV.own 1 (List.map Lk.cells out++[[sv x.fst,sv x.snd]]).length),(6,bv done),(9,AV.sl (List.map Lk.cells l)),(10,iv (↑(List.map Lk.cells l).length:Int)),(11,iv (↑(i+1):Int))]:TS)=[(3,AV.p 0 0),(5,AV.own 1 (out++[x]).length),(6,bv done),(9,AV.sl (List.map Lk.cells l)),(10,iv (↑(List.map Lk.cells l).length:Int)),(11,iv (↑(i+1):Int))] by first|rfl|(simp;done)|(simp [X.cells,Qy.cells,V.cells,Col.cells,Rw.cells,Tb.cells,Fr.cells,Sch.cells,Tp.cells,Pl.cells,xCol,xLit,xBin,xNeg,Im.cells,Lk.cells,Ac.cells,Se.cells,Tg.cells,Rk.cells];done)) (show ([Blk.box [sv u.fst,sv u.snd],Blk.row Ty.Link (List.map Lk.cells out++[[sv x.fst,sv x.snd]]) false]:Heap)=[Blk.box [sv u.fst,sv u.snd],Blk.row Ty.Link (List.map Lk.cells (out++[x])) false] by first|rfl|(simp;done)|(simp [X.cells,Qy.cells,V.cells,Col.cells,Rw.cells,Tb.cells,Fr.cells,Sch.cells,Tp.cells,Pl.cells,xCol,xLit,xBin,xNeg,Im.cells,Lk.cells,Ac.cells,Se.cells,Tg.cells,Rk.cells];done)) (gZ R hg)))⟩
   ·let p_2:List St:=p_1++[sg h1,sc c3,sb h4,sqx (AllLen [[sv u.fst,sv u.snd]] 2∧out.length=(List.map Lk.cells out).length∧(((List.map Lk.cells out).length+[[sv u.fst,sv u.snd]].length) * 32).le 140737488355328),sq zer]
    cases h6:!(x.fst==u.fst&&(x.snd==u.snd&&true))
    ·obtain ⟨outZ,doneZ,qZ,xZ,gZ⟩:=ih (i+1) (out++[u]) true (by omega) zh5 (by omega);exact ⟨outZ,doneZ,qZ,xZ,fun R hg=>zaa (wklN (p_2++[sb h6,si hw]) [3,5,6,9,10,11] 2 [(.bl 6,2)] kr (zav (show ([(3,AV.p 0 0),(5,AV.own 1 (List.map Lk.cells out++[[sv u.fst,sv u.snd]]).length),(6,bv true),(9,AV.sl (List.map Lk.cells l)),(10,iv (↑(List.map Lk.cells l).length:Int)),(11,iv (↑(i+1):Int))]:TS)=[(3,AV.p 0 0),(5,AV.own 1 (out++[u]).length),(6,bv true),(9,AV.sl (List.map Lk.cells l)),(10,iv (↑(List.map Lk.cells l).length:Int)),(11,iv (↑(i+1):Int))] by first|rfl|(simp;done)|(simp [X.cells,Qy.cells,V.cells,Col.cells,Rw.cells,Tb.cells,Fr.cells,Sch.cells,Tp.cells,Pl.cells,xCol,xLit,xBin,xNeg,Im.cells,Lk.cells,Ac.cells,Se.cells,Tg.cells,Rk.cells];done)) (show ([Blk.box [sv u.fst,sv u.snd],Blk.row Ty.Link (List.map Lk.cells out++[[sv u.fst,sv u.snd]]) false]:Heap)=[Blk.box [sv u.fst,sv u.snd],Blk.row Ty.Link (List.map Lk.cells (out++[u])) false] by first|rfl|(simp;done)|(simp [X.cells,Qy.cells,V.cells,Col.cells,Rw.cells,Tb.cells,Fr.cells,Sch.cells,Tp.cells,Pl.cells,xCol,xLit,xBin,xNeg,Im.cells,Lk.cells,Ac.cells,Se.cells,Tg.cells,Rk.cells];done)) (gZ R hg)))⟩
    ·obtain ⟨outZ,doneZ,qZ,xZ,gZ⟩:=ih (i+1) (out++[u]++[x]) true (by omega) zh5 (by omega);exact ⟨outZ,doneZ,qZ,xZ,fun R hg=>zaa (wklN (p_2++[sb h6,sqx (AllLen [[sv x.fst,sv x.snd]] 2∧(List.map Lk.cells out++[[sv u.fst,sv u.snd]]).length=(List.map Lk.cells out++[[sv u.fst,sv u.snd]]).length∧(((List.map Lk.cells out++[[sv u.fst,sv u.snd]]).length+[[sv x.fst,sv x.snd]].length) * 32).le 140737488355328),si hw]) [3,5,6,9,10,11] 2 [(.bl 6,2)] kr (zav (show ([(3,AV.p 0 0),(5,AV.own 1 (List.map Lk.cells out++[[sv u.fst,sv u.snd]]++[[sv x.fst,sv x.snd]]).length),(6,bv true),(9,AV.sl (List.map Lk.cells l)),(10,iv (↑(List.map Lk.cells l).length:Int)),(11,iv (↑(i+1):Int))]:TS)=[(3,AV.p 0 0),(5,AV.own 1 (out++[u]++[x]).length),(6,bv true),(9,AV.sl (List.map Lk.cells l)),(10,iv (↑(List.map Lk.cells l).length:Int)),(11,iv (↑(i+1):Int))] by first|rfl|(simp;done)|(simp [X.cells,Qy.cells,V.cells,Col.cells,Rw.cells,Tb.cells,Fr.cells,Sch.cells,Tp.cells,Pl.cells,xCol,xLit,xBin,xNeg,Im.cells,Lk.cells,Ac.cells,Se.cells,Tg.cells,Rk.cells];done)) (show ([Blk.box [sv u.fst,sv u.snd],Blk.row Ty.Link (List.map Lk.cells out++[[sv u.fst,sv u.snd]]++[[sv x.fst,sv x.snd]]) false]:Heap)=[Blk.box [sv u.fst,sv u.snd],Blk.row Ty.Link (List.map Lk.cells (out++[u]++[x])) false] by first|rfl|(simp;done)|(simp [X.cells,Qy.cells,V.cells,Col.cells,Rw.cells,Tb.cells,Fr.cells,Sch.cells,Tp.cells,Pl.cells,xCol,xLit,xBin,xNeg,Im.cells,Lk.cells,Ac.cells,Se.cells,Tg.cells,Rk.cells];done)) (gZ R hg)))⟩
theorem zfp (l:List Lk) (u:Lk) (hl:zad l) (hn:l.Nodup):∃ (r:List Lk),InsR l u r∧zac E0 S.ref18_insert [lsl l,u.av] [] (lsl r) []:=by
 obtain ⟨out1,done1,q1,q1_1,g1⟩:=zg5 l u zls zls 0 ([]) false zls zls
 cases h2:!done1
 ·exact ⟨out1,(by first|exact InsI.done (And.left (by assumption)) (by assumption)|exact InsI.end_ (And.left (by assumption)) (by assumption)),wkcN At.ref18_insert [] [3,5,6,9,10,11] 1 [(.bl 6,1),(.ot 5 Ty.Link,2)] kr (g1 _ (zaa (wkr [sqx (out1.length=(List.map Lk.cells out1).length),sb q1_1,sb h2] kr)))⟩
 ·exact ⟨out1++[u],(by first|exact InsI.done (And.left (by assumption)) (by assumption)|exact InsI.end_ (And.left (by assumption)) (by assumption)),wkcN At.ref18_insert [] [3,5,6,9,10,11] 1 [(.bl 6,1),(.ot 5 Ty.Link,2)] kr (g1 _ (zaa (wkrS (y:=AV.sl (List.map Lk.cells out1++[[sv u.fst,sv u.snd]])) (H:=[]) [sqx ((List.map Lk.cells out1++[[sv u.fst,sv u.snd]]).length=(List.map Lk.cells out1++[[sv u.fst,sv u.snd]]).length),sb q1_1,sb h2,sqx (AllLen [[sv u.fst,sv u.snd]] 2∧out1.length=(List.map Lk.cells out1).length∧(((List.map Lk.cells out1).length+[[sv u.fst,sv u.snd]].length) * 32).le 140737488355328)] kr ⟨by first|rfl|(simp;done)|(simp [X.cells,Qy.cells,V.cells,Col.cells,Rw.cells,Tb.cells,Fr.cells,Sch.cells,Tp.cells,Pl.cells,xCol,xLit,xBin,xNeg,Im.cells,Lk.cells,Ac.cells,Se.cells,Tg.cells,Rk.cells];done),by first|rfl|(simp;done)|(simp [X.cells,Qy.cells,V.cells,Col.cells,Rw.cells,Tb.cells,Fr.cells,Sch.cells,Tp.cells,Pl.cells,xCol,xLit,xBin,xNeg,Im.cells,Lk.cells,Ac.cells,Se.cells,Tg.cells,Rk.cells];done)⟩)))⟩
noncomputable def L_cl (l:List Lk):Cfg:=zat B.ref18_closure 0 [(0,lsl l)] []
abbrev zee (N:List Str) (l out:List Lk):Prop:=LkN N out∧∀ z∈l,z∈out
theorem zee.short {N:List Str} {l out:List Lk} (h:zee N l out) (hN:N.length≤1000):zad out:=by
 have h1:=h.1.len
 have h2:=Nat.mul_le_mul hN hN
 simp only [zad];omega
theorem zee.ins {N:List Str} {l out:List Lk} {a b:Lk} {i j:Nat} {r:List Lk} (h:zee N l out) (hl:LkN N l) (hx:l[i]?=some a) (hy:l[j]?=some b) (hr:InsR out ⟨a.fst,b.snd⟩ r):zee N l r :=
 ⟨hr.lk h.1 (hl.mem a (List.mem_of_getElem? hx)).1 (hl.mem b (List.mem_of_getElem? hy)).2,fun z hz=>hr.sup z (h.2 z hz)⟩
noncomputable def L_clI (l:List Lk) (N:List Str) (io:Nat) (a:Lk) (i:Nat) (out:List Lk):Cfg:=zat B.ref18_closure 2 [(0,lsl l),(3,lsl out),(5,.p 0 0),(9,lsl l),(10,iv ((l.map Lk.cells).length:Nat)),(11,iv (io:Nat)),(15,lsl l),(16,iv ((l.map Lk.cells).length:Nat)),(17,iv (i:Nat))] [.box a.cells]
theorem zgo (l:List Lk) (N:List Str) (io:Nat) (a:Lk) (hN:N.length≤1000) (h:LkN N l) (hs:zad l) (ha:l[io]?=some a) (i:Nat) (out:List Lk) (hi:i≤(l).length) (hI:zee N l out):∃ (out':List Lk),(zee N l out')∧(decide ((((l).length:Nat):Int) < (((l.map Lk.cells).length:Nat):Int))=false)∧∀ R,Good E0 B.ref18_closure [] (L_clI l N io a (l).length out') R→Good E0 B.ref18_closure [] (L_clI l N io a i out) R:=by
 obtain ⟨kk,hk⟩:∃ kk,i+kk=(l).length:=⟨(l).length - i,by omega⟩
 induction kk generalizing i out with
 | zero =>
  have e0:i=(l).length:=by omega
  subst e0
  exact ⟨out,hI,by simp,fun R hg=>hg⟩
 | succ kk ih =>
  obtain ⟨x,hx⟩:=zax (l:=l) (i:=i) (by omega)
  have h0:decide (((i:Nat):Int) < (((l.map Lk.cells).length:Nat):Int))=true:=by simp;omega
  have hw:IntKind.i64.wrap (((i:Nat):Int)+1)=((i+1:Nat):Int):=zao i zhN
  have hol:=hI.short hN;have hon:=hI.1.nd
  let p_1:List St:=[sb h0,se (zah Lk.cells hx rfl)]
  cases h1:ByteArray.toList a.snd==ByteArray.toList x.fst
  ·obtain ⟨outZ,qZ,xZ,gZ⟩:=ih (i+1) out (by omega) (by first|exact hI|exact hI.ins h ha hx (by assumption)) (by omega);exact ⟨outZ,qZ,xZ,fun R hg=>zaa (wkl (p_1++[sb h1,si hw]) [0,3,5,9,10,11,15,16,17] 1 kr (gZ R hg))⟩
  ·obtain ⟨r2,q2,c2⟩:=(zfp out (Lk.mk a.fst x.snd) zb9 zb9)
   obtain ⟨outZ,qZ,xZ,gZ⟩:=ih (i+1) r2 (by omega) (by first|exact hI|exact hI.ins h ha hx (by assumption)) (by omega);exact ⟨outZ,qZ,xZ,fun R hg=>zaa (wkl (p_1++[sb h1,sc c2,si hw]) [0,3,5,9,10,11,15,16,17] 1 kr (gZ R hg))⟩
noncomputable def L_clO (l:List Lk) (N:List Str) (i:Nat) (out:List Lk):Cfg:=zat B.ref18_closure 1 [(0,lsl l),(3,lsl out),(9,lsl l),(10,iv ((l.map Lk.cells).length:Nat)),(11,iv (i:Nat))] []
theorem zgm (l:List Lk) (N:List Str) (hN:N.length≤1000) (h:LkN N l) (hs:zad l) (i:Nat) (out:List Lk) (hi:i≤(l).length) (hI:zee N l out):∃ (out':List Lk),(zee N l out')∧(decide ((((l).length:Nat):Int) < (((l.map Lk.cells).length:Nat):Int))=false)∧∀ R,Good E0 B.ref18_closure [] (L_clO l N (l).length out') R→Good E0 B.ref18_closure [] (L_clO l N i out) R:=by
 obtain ⟨kk,hk⟩:∃ kk,i+kk=(l).length:=⟨(l).length - i,by omega⟩
 induction kk generalizing i out with
 | zero =>
  have e0:i=(l).length:=by omega
  subst e0
  exact ⟨out,hI,by simp,fun R hg=>hg⟩
 | succ kk ih =>
  obtain ⟨x,hx⟩:=zax (l:=l) (i:=i) (by omega)
  have h0:decide (((i:Nat):Int) < (((l.map Lk.cells).length:Nat):Int))=true:=by simp;omega
  have hw:IntKind.i64.wrap (((i:Nat):Int)+1)=((i+1:Nat):Int):=zao i zhN
  obtain ⟨out1,q1,q1_1,g1⟩:=zgo l N i x hN zb9 zb9 zb9 0 out zb9 zb9
  obtain ⟨outZ,qZ,xZ,gZ⟩:=ih (i+1) out1 (by omega) zgU (by omega);exact ⟨outZ,qZ,xZ,fun R hg=>zaa (wkl [sb h0,se (zah Lk.cells hx rfl)] [0,3,5,9,10,11,15,16,17] 1 kr (g1 _ (zaa (wkl [sb q1_1,si hw] [0,3,9,10,11] 0 kr (gZ R hg)))))⟩
theorem zh3 (l:List Lk) (N:List Str) (hN:N.length≤1000) (h:LkN N l) (hs:zad l) (ihl:∀ l':List Lk,zee N l l'→(((((l'.map Lk.cells).length:Nat):Int)==(((l.map Lk.cells).length:Nat):Int))=false)→∃ r,LkN N r∧Good E0 B.ref18_closure [] (L_cl l') (Shut 0 fun rZ hZ=>rZ=lsl r∧hZ=[])):∃ (r:List Lk),LkN N r∧Good E0 B.ref18_closure [] (zlP (L_cl l)) (Shut 0 fun rZ hZ=>rZ=(lsl r)∧hZ=[]):=by
  obtain ⟨out1,q1,q1_1,g1⟩:=zgm l N hN zh6 zh6 0 l zh6 zh6
  cases h2:(↑(List.map Lk.cells out1).length:Int)==(↑(List.map Lk.cells l).length:Int)
  ·obtain ⟨r3_0,p3_0,g3⟩:=ihl out1 zh6 zh6
   exact ⟨r3_0,(by first|assumption|exact And.left (by assumption)),wkl [] [0,3,9,10,11] 0 kr (g1 _ (zaa (wkl [sb q1_1,sb h2] [0] 0 kr g3)))⟩
  ·exact ⟨out1,(by first|assumption|exact And.left (by assumption)),wkl [] [0,3,9,10,11] 0 kr (g1 _ (zaa (wkr [sb q1_1,sb h2] kr)))⟩
theorem zgt (N:List Str) (hN:N.length≤1000):∀ (k:Nat) (l:List Lk),N.length * N.length - l.length≤k→LkN N l→∃ r,LkN N r∧Good E0 B.ref18_closure [] (L_cl l) (Shut 0 fun rZ hZ=>rZ=lsl r∧hZ=[]):=by
 intro k
 induction k with
 | zero =>
  intro l hk h
  have hs:zad l:=zee.short (N:=N) (l:=l) ⟨h,fun _ hz=>hz⟩ hN
  obtain ⟨r,hr,hg⟩:=zh3 l N hN h hs fun l' h' hne=>by
   exfalso
   have h1:=zfZ l l' h.nd h'.2
   have h2:=h'.1.len
   simp only [List.length_map,beq_eq_false_iff_ne,ne_eq,Int.natCast_inj] at hne
   omega
  exact ⟨r,hr,zaa hg⟩
 | succ k ih =>
  intro l hk h
  have hs:zad l:=zee.short (N:=N) (l:=l) ⟨h,fun _ hz=>hz⟩ hN
  obtain ⟨r,hr,hg⟩:=zh3 l N hN h hs fun l' h' hne=>ih l' (by
   have h1:=zfZ l l' h.nd h'.2
   have h2:=h'.1.len
   simp only [List.length_map,beq_eq_false_iff_ne,ne_eq,Int.natCast_inj] at hne
   omega) h'.1
  exact ⟨r,hr,zaa hg⟩
theorem zk9 (l:List Lk) (N:List Str) (hN:N.length≤1000) (h:LkN N l):∃ (r:List Lk),LkN N r∧zac E0 S.ref18_closure [lsl l] [] (lsl r) []:=by
 obtain ⟨r1_0,p1_0,g1⟩:=zgt N hN (?k) l (by first|assumption|exact Nat.le_refl _) (by first|assumption|exact Nat.le_refl _)
 exact ⟨r1_0,(by first|assumption|trivial|(simp;done)|omega|(simp;omega)|(simp at *;omega)),wkc At.ref18_closure [] [0] 0 kr (g1)⟩
end Go.AM
namespace Go.AM
set_option maxRecDepth 100000
set_option maxHeartbeats 1000000
set_option linter.unusedSimpArgs false
set_option linter.unusedVariables false
theorem zdr {p:Prop} (h:p:=by first|assumption|omega|exact LkN.short (by assumption) hN):p:=h
theorem zlF {p:Prop} (h:p:=by first|assumption|omega|(simp;done)|(simp;omega)):p:=h
theorem zmW (N:List Str):LkN N []:=⟨by simp,by simp⟩
theorem LkN.short {N:List Str} {l:List Lk} (h:LkN N l) (hN:N.length≤1000):zad l:=by
 have h1:=h.len
 have h2:=Nat.mul_le_mul hN hN
 simp only [zad];omega
noncomputable def zhp (l:List Lk) (n:Str) (ps fs:List Str) (N:List Str) (i:Nat) (out:List Lk):Cfg:=zat B.ref18_Add 0 [(1,sv n),(3,ssl fs),(10,lsl out),(20,ssl ps),(21,iv ((ps.map zaU).length:Nat)),(22,iv (i:Nat))] [.row Ty.Link (l.map Lk.cells) true]
theorem zhT (l:List Lk) (n:Str) (ps fs:List Str) (N:List Str) (hN:N.length≤1000) (hn:n∈N) (hp:zad ps) (hps:∀ s∈ps,s∈N) (i:Nat) (out:List Lk) (hi:i≤(ps).length) (hI:LkN N out):∃ (out':List Lk),(LkN N out')∧(decide ((((ps).length:Nat):Int) < (((ps.map zaU).length:Nat):Int))=false)∧∀ R,Good E0 B.ref18_Add [] (zhp l n ps fs N (ps).length out') R→Good E0 B.ref18_Add [] (zhp l n ps fs N i out) R:=by
 obtain ⟨kk,hk⟩:∃ kk,i+kk=(ps).length:=⟨(ps).length - i,by omega⟩
 induction kk generalizing i out with
 | zero =>
  have e0:i=(ps).length:=by omega
  subst e0
  exact ⟨out,hI,by simp,fun R hg=>hg⟩
 | succ kk ih =>
  obtain ⟨x,hx⟩:=zax (l:=ps) (i:=i) (by omega)
  have h0:decide (((i:Nat):Int) < (((ps.map zaU).length:Nat):Int))=true:=by simp;omega
  have hw:IntKind.i64.wrap (((i:Nat):Int)+1)=((i+1:Nat):Int):=zao i (by first|omega|(simp only [zad,Few] at *;omega))
  have hol:=hI.short hN;have hon:=hI.nd
  obtain ⟨r1,q1,c1⟩:=(zfp out (Lk.mk n x) zlF zlF)
  obtain ⟨outZ,qZ,xZ,gZ⟩:=ih (i+1) r1 (by omega) (by exact InsR.lk (by assumption) hI hn (hps _ (List.mem_of_getElem? hx))) (by omega);exact ⟨outZ,qZ,xZ,fun R hg=>zaa (wkl [sb h0,se (zah (fun s=>[sv s]) hx rfl),sc c1,si hw] [1,3,10,20,21,22] 1 kr (gZ R hg))⟩
noncomputable def L_adF (l:List Lk) (n:Str) (fs:List Str) (N:List Str) (i:Nat) (out:List Lk):Cfg:=zat B.ref18_Add 1 [(1,sv n),(10,lsl out),(32,ssl fs),(33,iv ((fs.map zaU).length:Nat)),(34,iv (i:Nat))] [.row Ty.Link (l.map Lk.cells) true]
theorem zia (l:List Lk) (n:Str) (fs:List Str) (N:List Str) (hN:N.length≤1000) (hn:n∈N) (hf:zad fs) (hfs:∀ s∈fs,s∈N) (i:Nat) (out:List Lk) (hi:i≤(fs).length) (hI:LkN N out):∃ (out':List Lk),(LkN N out')∧(decide ((((fs).length:Nat):Int) < (((fs.map zaU).length:Nat):Int))=false)∧∀ R,Good E0 B.ref18_Add [] (L_adF l n fs N (fs).length out') R→Good E0 B.ref18_Add [] (L_adF l n fs N i out) R:=by
 obtain ⟨kk,hk⟩:∃ kk,i+kk=(fs).length:=⟨(fs).length - i,by omega⟩
 induction kk generalizing i out with
 | zero =>
  have e0:i=(fs).length:=by omega
  subst e0
  exact ⟨out,hI,by simp,fun R hg=>hg⟩
 | succ kk ih =>
  obtain ⟨x,hx⟩:=zax (l:=fs) (i:=i) (by omega)
  have h0:decide (((i:Nat):Int) < (((fs.map zaU).length:Nat):Int))=true:=by simp;omega
  have hw:IntKind.i64.wrap (((i:Nat):Int)+1)=((i+1:Nat):Int):=zao i (by first|omega|(simp only [zad,Few] at *;omega))
  have hol:=hI.short hN;have hon:=hI.nd
  obtain ⟨r1,q1,c1⟩:=(zfp out (Lk.mk x n) zlF zlF)
  obtain ⟨outZ,qZ,xZ,gZ⟩:=ih (i+1) r1 (by omega) (by exact InsR.lk (by assumption) hI (hfs _ (List.mem_of_getElem? hx)) hn) (by omega);exact ⟨outZ,qZ,xZ,fun R hg=>zaa (wkl [sb h0,se (zah (fun s=>[sv s]) hx rfl),sc c1,si hw] [1,10,32,33,34] 1 kr (gZ R hg))⟩
theorem zog (l:List Lk) (n:Str) (ps fs:List Str) (N:List Str) (hN:N.length≤1000) (h:LkN N l) (hl:zad l) (hn:n∈N) (hp:zad ps) (hf:zad fs) (hps:∀ s∈ps,s∈N) (hfs:∀ s∈fs,s∈N):∃ (r:List Lk) (e:Int),LkN N r∧zac E0 S.ref18_Add [lsl l,sv n,ssl ps,ssl fs] [] (.tup [lsl r,iv e]) []:=by
 obtain ⟨r1,c1⟩:=(zja l zdr)
 cases h2:!r1
 ·obtain ⟨out3,q3,q3_1,g3⟩:=zhT l n ps fs N hN zdr zdr zdr 0 l zdr zdr
  obtain ⟨out4,q4,q4_1,g4⟩:=zia l n fs N hN zdr zdr zdr 0 out3 zdr zdr
  obtain ⟨r5,q5,c5⟩:=(zk9 out4 N hN zdr)
  obtain ⟨r6,c6⟩:=(zja r5 zdr)
  cases h7:!r6
  ·exact ⟨r5,0,by first|exact zmW N|assumption,wkc At.ref18_Add (c':=(Cfg.mk (zhp l n ps fs N 0 l).n (zhp l n ps fs N 0 l).todo [(1,sv n),(3,AV.sl (List.map (fun s=>[sv s]) fs)),(10,AV.own 0 (List.map Lk.cells l).length),(20,AV.sl (List.map (fun s=>[sv s]) ps)),(21,iv (↑(List.map (fun s=>[sv s]) ps).length:Int)),(22,iv 0)] [Blk.row Ty.Link (List.map Lk.cells l) false])) [sc c1,sb h2,sqx (AllLen (List.map Lk.cells l) 2∧((List.map Lk.cells l).length * 32).le 140737488355328)] [1,3,10,20,21,22] 1 kr (zfH (c':=zhp l n ps fs N 0 l) (v:=AV.own 0 (List.map Lk.cells l).length) (q:=(List.map Lk.cells l).length=(List.map Lk.cells l).length) 10 [1,3,10,20,21,22] 1 kr kr owed kr kr (g3 _ (zaa (wkl [sb q3_1] [1,10,32,33,34] 1 kr (g4 _ (zaa (wkr [sb q4_1,sc c5,sc c6,sb h7] kr)))))))⟩
  ·exact ⟨[],13,by first|exact zmW N|assumption,wkc At.ref18_Add (c':=(Cfg.mk (zhp l n ps fs N 0 l).n (zhp l n ps fs N 0 l).todo [(1,sv n),(3,AV.sl (List.map (fun s=>[sv s]) fs)),(10,AV.own 0 (List.map Lk.cells l).length),(20,AV.sl (List.map (fun s=>[sv s]) ps)),(21,iv (↑(List.map (fun s=>[sv s]) ps).length:Int)),(22,iv 0)] [Blk.row Ty.Link (List.map Lk.cells l) false])) [sc c1,sb h2,sqx (AllLen (List.map Lk.cells l) 2∧((List.map Lk.cells l).length * 32).le 140737488355328)] [1,3,10,20,21,22] 1 kr (zfH (c':=zhp l n ps fs N 0 l) (v:=AV.own 0 (List.map Lk.cells l).length) (q:=(List.map Lk.cells l).length=(List.map Lk.cells l).length) 10 [1,3,10,20,21,22] 1 kr kr owed kr kr (g3 _ (zaa (wkl [sb q3_1] [1,10,32,33,34] 1 kr (g4 _ (zaa (wkr [sb q4_1,sc c5,sc c6,sb h7] kr)))))))⟩
 ·exact ⟨[],17,by first|exact zmW N|assumption,wk At.ref18_Add [sc c1,sb h2] kr⟩
end Go.AM
namespace Go.AM
set_option maxRecDepth 100000
noncomputable def litC (fn:Func) (n:Nat):Cfg:=(upto (mk E0) (List.range 40) 0 n ⟨fn.ntmps,[.code (fn.body.getD .skip)],zcf 0 [],[]⟩ []).2
theorem lit_at:zna E0 (litC B.world_Schemas 21)=some (Ty.Schema,3,(zau.map Sch.cells).flatten):=by kernel_rfl
theorem lit_h:(litC B.world_Schemas 21).h=[]:=by kernel_rfl
theorem lit_b:frzB [] (zau.map Sch.cells).flatten=none:=by kernel_rfl
theorem lit_m:zb4 (zau.map Sch.cells).flatten=[]:=by kernel_rfl
theorem lit_c:zcH (E0.T Ty.Schema).size 3 (frzL [] (zau.map Sch.cells).flatten)=zau.map Sch.cells:=by kernel_rfl
theorem lit_up:upto (mk E0) (List.range 40) 0 21 ⟨(B.world_Schemas).ntmps,[.code ((B.world_Schemas).body.getD .skip)],zcf 0 [],[]⟩ (orcs [])=(zbK [],litC B.world_Schemas 21):=by kernel_rfl
theorem zr8:finK (mk E0) B.world_Schemas 3000 (zh8 (litC B.world_Schemas 21) Ty.Schema 3 (zau.map Sch.cells)) (orcs [])=some (zbK [],AV.own 0 3,[Blk.row Ty.Schema (zau.map Sch.cells) false]):=by kernel_rfl
theorem zrF:B.world_Schemas.body=some (B.world_Schemas.body.getD .skip):=by kernel_rfl
theorem zq9 : (B.world_Schemas.name == "runtime.NumGoroutine") = false := by kernel_rfl
theorem litAll {f : FuncId} {fn : Func} {y : AV} {H : Heap} {c : Cfg} {e : TypeId} {n N : Nat} {cs : List AV} {xs : List (List AV)} (hf : E0.P.funcs[f]? = some fn) (hb : fn.body = some (fn.body.getD .skip)) (hname : (fn.name == "runtime.NumGoroutine") = false)
  (hu:upto (mk E0) (List.range 40) 0 N ⟨fn.ntmps,[.code (fn.body.getD .skip)],zcf 0 [],[]⟩ (orcs [])=(zbK [],c))
  (h1:zna E0 c=some (e,n,cs)) (h2:0 < n) (h3:c.h=[]) (h4:frzB [] cs=none) (h5:zb4 cs=[]) (h6:zcH (E0.T e).size n (frzL [] cs)=xs)
  (he:finK (mk E0) fn 3000 (zh8 c e n xs) (orcs [])=some (zbK [],y,H)):zac E0 f [] [] y H:=by
 refine za7 hf hb hname (by simp) ?_
 refine zc5 E0ok mix0 N [] (List.range 40) 0 rfl hu ?_
 refine zrK E0ok h1 h2 (by rw [h3];exact h4) h5 ?_
 rw [h3,h6]
 exact zcE E0ok mix0 3000 [] he ⟨rfl,rfl⟩
theorem zkz:zac E0 S.world_Schemas [] [] (.own 0 3) [.row Ty.Schema (zau.map Sch.cells) false] :=
 @litAll S.world_Schemas B.world_Schemas (.own 0 3) [Blk.row Ty.Schema (zau.map Sch.cells) false] (litC B.world_Schemas 21) Ty.Schema 3 21 (zau.map Sch.cells).flatten (zau.map Sch.cells) At.world_Schemas zrF zq9 lit_up lit_at (by decide) lit_h lit_b lit_m lit_c zr8
end Go.AM
