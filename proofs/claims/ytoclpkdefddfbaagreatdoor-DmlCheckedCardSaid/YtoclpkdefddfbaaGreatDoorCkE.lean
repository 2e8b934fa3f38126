/-
  Contracts of the program's functions, part 4.
-/
import Derived.Test.YtoclpkdefddfbaaGreatDoorCkD
set_option linter.unusedSimpArgs false
set_option linter.unusedVariables false
namespace Go.AM
set_option maxRecDepth 100000
set_option maxHeartbeats 1000000
set_option linter.unusedSimpArgs false
set_option linter.unusedVariables false
theorem zdc {p:Prop} (h:p:=by first|(obtain rfl:=pr_end ‹PrI l l.length _›;simp only [pOp,cond_true,cond_false,Bool.or_true,Bool.or_false,Bool.true_or,Bool.false_or,Bool.and_self,Bool.and_true,Bool.and_false,Bool.true_and,Bool.false_and, *];done)|(simp only [pOp,cond_true,cond_false,Bool.or_true,Bool.or_false,Bool.true_or,Bool.false_or,Bool.and_self,Bool.and_true,Bool.and_false,Bool.true_and,Bool.false_and, *];done)):p:=h
theorem zc1 {p:Prop} (h:p:=by first|assumption|(simp [PrI];done)|omega|rfl):p:=h
theorem zl4 {p:Prop} (h:p:=by first|assumption|omega|(simp;done)|(simp;omega)):p:=h
def pfit (a b:Int):Bool :=
 bif a==0 then
  true
 else
  bif b==0 then
   true
  else
   a==b
theorem zgF (a b:Int) :zac E0 S.scope_fits [iv a,iv b] [] (bv (pfit a b)) []:=by
 unfold pfit
 cases h1:a==0
 ·cases h2:b==0
  ·exact wk At.scope_fits [sg h1,sg h2] kr
  ·exact wk At.scope_fits [sg h1,sb h2] kr
 ·exact wk At.scope_fits [sb h1] kr
def pfc (t w:Int):Bool :=
 !pfit t w
theorem zio (t w:Int) :zac E0 S.scope_all_c1 [iv t,.p 0 0] [.box [iv w]] (bv (pfc t w)) [.box [iv w]]:=by
 exact wk At.scope_all_c1 [sc (zgF t w)] kr
noncomputable def zrC (l:List Int) (w:Int) (i:Nat) :Cfg:=zar B.slices_IndexFunc_int 0 [(0,isl l),(1,.fn S.scope_all_c1 [.p 0 0]),(7,iv ((l.map zcb).length:Nat)),(8,iv (i:Nat))] [.box [iv w]]
theorem zej (l:List Int) (w:Int) (hl:zad l) (i:Nat)  (hi:i≤(l).length) (hI:(l.take i).all (fun t=>pfit t w)=true):(((l.take (l).length).all (fun t=>pfit t w)=true)∧(decide ((((l).length:Nat):Int) < (((l.map zcb).length:Nat):Int))=false)∧∀ R,Good E0 B.slices_IndexFunc_int [.box [iv w]] (zrC l w (l).length ) R→Good E0 B.slices_IndexFunc_int [.box [iv w]] (zrC l w i ) R)∨(∃ (r:Int),(decide (0≤r)=true∧l.all (fun t=>pfit t w)=false)∧Good E0 B.slices_IndexFunc_int [.box [iv w]] (zrC l w i ) (Shut 1 fun rZ hZ=>rZ=(iv r)∧hZ=[.box [iv w]])):=by
 obtain ⟨kk,hk⟩:∃ kk,i+kk=(l).length:=⟨(l).length - i,by omega⟩
 induction kk generalizing i  with
 | zero =>
  have e0:i=(l).length:=by omega
  subst e0
  exact .inl ⟨hI,by simp,fun R hg=>hg⟩
 | succ kk ih =>
  obtain ⟨x,hx⟩:=zay (l:=l) (i:=i) (by omega)
  have h0:decide (((i:Nat):Int) < (((l.map zcb).length:Nat):Int))=true:=by simp;omega
  have hw:IntKind.i64.wrap (((i:Nat):Int)+1)=((i+1:Nat):Int):=zao i (by first|omega|(simp only [zad,Few] at *;omega))
  let p_1:List St:=[sb h0,se (zah (fun n=>[iv n]) hx rfl),sl [0] (zio x w)]
  cases h1:pfc x w
  ·exact (ih (i+1) (by omega) (by exact zcK hI hx (notT (show (!pfit x w)=false from (by assumption:pfc x w=false)))) (by omega)).elim (fun ⟨qZ,xZ,gZ⟩=>.inl ⟨qZ,xZ,fun R hg=>zaa (wkl (p_1++[sb h1,si hw]) [0,1,7,8] 1 kr (gZ R hg))⟩) (fun ⟨rY,pZ,gZ⟩=>.inr ⟨rY,pZ,zaa (wkl [sb h0,se (zah (fun n=>[iv n]) hx rfl),sl [0] (zio x w),sb h1,si hw] [0,1,7,8] 1 kr gZ)⟩)
  ·exact .inr ⟨(i:Int),(by exact ⟨by simp,zb0 hx (notF (show (!pfit x w)=true from (by assumption:pfc x w=true)))⟩),zaa (wkr (p_1++[sb h1]) kr)⟩
theorem zhx (l:List Int) (w:Int) (hl:zad l):∃ (r:Int),decide (0≤r)=!l.all (fun t=>pfit t w)∧zac E0 S.slices_IndexFunc_int [isl l,.fn S.scope_all_c1 [.p 0 0]] [.box [iv w]] (iv r) [.box [iv w]]:=by
 rcases zej l w zl4 0 zl4 zl4 with ⟨q1,q1_1,g1⟩|⟨r1_0,p1_0,g1⟩
 ·exact ⟨-1,(by first|(have h:=(by assumption:List.all (List.take _ _) _=true);rw [List.take_length] at h;rw [h];rfl)|(have h:=(by assumption:_∧List.all _ _=false);rw [h.1,h.2];rfl)),wkc At.slices_IndexFunc_int [] [0,1,7,8] 1 kr (g1 _ (zaa (wkr [sb q1_1] kr)))⟩
 ·exact ⟨r1_0,(by first|(have h:=(by assumption:List.all (List.take _ _) _=true);rw [List.take_length] at h;rw [h];rfl)|(have h:=(by assumption:_∧List.all _ _=false);rw [h.1,h.2];rfl)),wkc At.slices_IndexFunc_int [] [0,1,7,8] 1 kr (g1)⟩
theorem zgd (l:List Int) (w:Int) (hl:zad l):∃ (r:Bool),r=!l.all (fun t=>pfit t w)∧zac E0 S.slices_ContainsFunc_int [isl l,.fn S.scope_all_c1 [.p 0 0]] [.box [iv w]] (bv r) [.box [iv w]]:=by
 obtain ⟨r1,q1,c1⟩:=(zhx l w zl4)
 exact ⟨decide ((0:Int)≤r1),(by assumption),wk At.slices_ContainsFunc_int [sl [0] c1] kr⟩
theorem zqz (l:List Int) (w:Int) (hl:zad l):∃ (r:Bool),r=l.all (fun t=>pfit t w)∧zac E0 S.scope_all [isl l,iv w] [] (bv r) []:=by
 obtain ⟨r1,q1,c1⟩:=(zgd l w zl4)
 exact ⟨!r1,(by (have h:=‹_=!List.all _ _›;rw [h];simp;done)),wk At.scope_all [sl [0] c1] kr⟩
theorem zbW (l:List Int) (w:Int) (hl:zad l):zac E0 S.scope_all [isl l,iv w] [] (bv (l.all fun t=>pfit t w)) []:=by
 obtain ⟨r,rfl,h⟩:=zqz l w hl
 exact h
def prL:List Int→List Int→Bool
 | _,[]=>true
 | pre,t::r=>pre.all (fun u=>pfit u t)&&prL (pre++[t]) r
def PrI (l:List Int) (i:Nat) (ok:Bool):Prop:=prL [] l=(ok&&prL (l.take i) (l.drop i))
theorem zqY {l:List Int} {i:Nat} {x:Int} {ok ok':Bool} (h:PrI l i ok) (hx:l[i]?=some x) (h1:ok'=(ok&&(l.take i).all fun u=>pfit u x)):PrI l (i+1) ok':=by
 unfold PrI at *
 obtain ⟨hi,e⟩:=List.getElem?_eq_some_iff.1 hx
 rw [h,List.drop_eq_getElem_cons hi,e,h1]
 simp only [prL]
 rw [List.take_add_one,hx,Bool.and_assoc];rfl
noncomputable def L_op (e:X) (l:List Int) (i:Nat) (ok:Bool):Cfg:=zar B.scope_operation 0 [(1,isl l),(6,bv ok),(7,iv 2),(10,isl l),(11,iv ((l.map zcb).length:Nat)),(12,iv (i:Nat))] [.box e.cells]
theorem zdd (e:X) (l:List Int) (hl:zad l) (i:Nat) (ok:Bool) (hi:i≤(l).length) (hI:PrI l i ok):∃ (ok':Bool),(PrI l (l).length ok')∧(decide ((((l).length:Nat):Int) < (((l.map zcb).length:Nat):Int))=false)∧∀ R,Good E0 B.scope_operation [] (L_op e l (l).length ok') R→Good E0 B.scope_operation [] (L_op e l i ok) R:=by
 obtain ⟨kk,hk⟩:∃ kk,i+kk=(l).length:=⟨(l).length - i,by omega⟩
 induction kk generalizing i ok with
 | zero =>
  have e0:i=(l).length:=by omega
  subst e0
  exact ⟨ok,hI,by simp,fun R hg=>hg⟩
 | succ kk ih =>
  obtain ⟨x,hx⟩:=zay (l:=l) (i:=i) (by omega)
  have h0:decide (((i:Nat):Int) < (((l.map zcb).length:Nat):Int))=true:=by simp;omega
  have hw:IntKind.i64.wrap (((i:Nat):Int)+1)=((i+1:Nat):Int):=zao i (by first|omega|(simp only [zad,Few] at *;omega))
  have hc:zac E0 S.scope_all [.sl ((l.map zcb).take i),iv x] [] (bv ((l.take i).all fun t=>pfit t x)) []:=by
   rw [← List.map_take];exact zbW (l.take i) x (by simp only [zad,List.length_take] at *;omega)
  let p_1:List St:=[sb h0,se (zah (fun n=>[iv n]) hx rfl)]
  rcases (Bool.eq_false_or_eq_true ok).symm with h1|h1
  ·obtain ⟨okZ,qZ,xZ,gZ⟩:=ih (i+1) false (by omega) (by exact zqY hI hx (by simp only [*];simp)) (by omega);exact ⟨okZ,qZ,xZ,fun R hg=>zaa (wklN (p_1++[sb h1,si hw]) [1,6,7,10,11,12] 1 [(.bl 6,1)] kr (gZ R hg))⟩
  ·obtain ⟨okZ,qZ,xZ,gZ⟩:=ih (i+1) ((List.take i l).all fun t=>pfit t x) (by omega) (by exact zqY hI hx (by simp only [*];simp)) (by omega);exact ⟨okZ,qZ,xZ,fun R hg=>zaa (wkl (p_1++[sg h1,sqx (SubAt (List.map (fun n=>[iv n]) l) 0 (i:Int) 1),sc hc,si hw]) [1,6,7,10,11,12] 1 kr (gZ R hg))⟩
def pOp (e:X) (l:List Int):Int × Int :=
 bif e.kind==6 then (2,0)
 else bif e.kind==3 || (e.kind==5&&decide (e.op≤2)) then (bif !l.all (fun t=>pfit t 2) then (0,5) else (2,0))
 else bif e.kind==4 || (e.kind==5&&decide (9≤e.op)) then (bif !l.all (fun t=>pfit t 1) then (0,5) else (1,0))
 else bif !prL [] l then (0,5) else (2,0)
theorem pr_end {l:List Int} {ok:Bool} (h:PrI l l.length ok):ok=prL [] l:=by
 unfold PrI at h;rw [h,List.drop_length];simp [prL]
theorem zkY (e:X) (l:List Int) (hl:zad l):∃ (t c:Int),(t,c)=pOp e l∧zac E0 S.scope_operation [e.av,isl l] [] (.tup [iv t,iv c]) []:=by
 cases h1:e.kind==6
 ·cases h2:e.kind==3
  ·cases h3:e.kind==5
   ·cases h4:e.kind==4
    ·obtain ⟨ok5,q5,q5_1,g5⟩:=zdd e l zc1 0 true zc1 zc1
     cases h6:!ok5
     ·exact ⟨2,0,zdc,wkcN At.scope_operation [sb h1,sb h2,sb h3,sb h4,sb h3] [1,6,7,10,11,12] 1 [(.bl 6,1)] kr (g5 _ (zaa (wkr [sb q5_1,sb h6] kr)))⟩
     ·exact ⟨0,5,zdc,wkcN At.scope_operation [sb h1,sb h2,sb h3,sb h4,sb h3] [1,6,7,10,11,12] 1 [(.bl 6,1)] kr (g5 _ (zaa (wkr [sb q5_1,sb h6] kr)))⟩
    ·cases h7:!l.all fun t=>pfit t 1
     ·exact ⟨1,0,zdc,wk At.scope_operation [sb h1,sb h2,sb h3,sb h4,sc (zbW l 1 zc1),sb h7] kr⟩
     ·exact ⟨0,5,zdc,wk At.scope_operation [sb h1,sb h2,sb h3,sb h4,sc (zbW l 1 zc1),sb h7] kr⟩
   ·cases h8:decide (e.op≤2)
    ·cases h9:e.kind==4
     ·cases h10:decide (9≤e.op)
      ·obtain ⟨ok11,q11,q11_1,g11⟩:=zdd e l zc1 0 true zc1 zc1
       cases h12:!ok11
       ·exact ⟨2,0,zdc,wkcN At.scope_operation [sb h1,sb h2,sg h3,sb h8,sb h9,sg h3,sb h10] [1,6,7,10,11,12] 1 [(.bl 6,1)] kr (g11 _ (zaa (wkr [sb q11_1,sb h12] kr)))⟩
       ·exact ⟨0,5,zdc,wkcN At.scope_operation [sb h1,sb h2,sg h3,sb h8,sb h9,sg h3,sb h10] [1,6,7,10,11,12] 1 [(.bl 6,1)] kr (g11 _ (zaa (wkr [sb q11_1,sb h12] kr)))⟩
      ·cases h13:!l.all fun t=>pfit t 1
       ·exact ⟨1,0,zdc,wk At.scope_operation [sb h1,sb h2,sg h3,sb h8,sb h9,sg h3,sb h10,sc (zbW l 1 zc1),sb h13] kr⟩
       ·exact ⟨0,5,zdc,wk At.scope_operation [sb h1,sb h2,sg h3,sb h8,sb h9,sg h3,sb h10,sc (zbW l 1 zc1),sb h13] kr⟩
     ·cases h14:!l.all fun t=>pfit t 1
      ·exact ⟨1,0,zdc,wk At.scope_operation [sb h1,sb h2,sg h3,sb h8,sb h9,sc (zbW l 1 zc1),sb h14] kr⟩
      ·exact ⟨0,5,zdc,wk At.scope_operation [sb h1,sb h2,sg h3,sb h8,sb h9,sc (zbW l 1 zc1),sb h14] kr⟩
    ·cases h15:!l.all fun t=>pfit t 2
     ·exact ⟨2,0,zdc,wk At.scope_operation [sb h1,sb h2,sg h3,sb h8,sc (zbW l 2 zc1),sb h15] kr⟩
     ·exact ⟨0,5,zdc,wk At.scope_operation [sb h1,sb h2,sg h3,sb h8,sc (zbW l 2 zc1),sb h15] kr⟩
  ·cases h16:!l.all fun t=>pfit t 2
   ·exact ⟨2,0,zdc,wk At.scope_operation [sb h1,sb h2,sc (zbW l 2 zc1),sb h16] kr⟩
   ·exact ⟨0,5,zdc,wk At.scope_operation [sb h1,sb h2,sc (zbW l 2 zc1),sb h16] kr⟩
 ·exact ⟨2,0,zdc,wk At.scope_operation [sb h1] kr⟩
theorem zkW (e:X) (l:List Int) (hl:zad l):zac E0 S.scope_operation [e.av,isl l] [] (.tup [iv (pOp e l).1,iv (pOp e l).2]) []:=by
 obtain ⟨t,c,h,h2⟩:=zkY e l hl
 rw [← h];exact h2
end Go.AM
namespace Go.AM
set_option maxRecDepth 100000
set_option maxHeartbeats 1000000
set_option linter.unusedSimpArgs false
set_option linter.unusedVariables false
structure Sound (ty:Int × Int) (ev:V × Int):Prop where
 code:ty.2=0→ev.2=0∨ev.2=6∨ev.2=7
 kind:ty.2=0→ev.2=0→ev.1.kind=0∨ev.1.kind=ty.1
end Go.AM
namespace Go.AM
set_option maxRecDepth 100000
set_option maxHeartbeats 1000000
set_option linter.unusedSimpArgs false
set_option linter.unusedVariables false
structure Res (w:Int) (r:V × Int):Prop where
 code:r.2=0∨r.2=6∨r.2=7
 kind:r.2=0→r.1.kind=0∨r.1.kind=w
theorem Res.null {w:Int} (c:Int) (hc:c=0∨c=6∨c=7):Res w (⟨0,0,⟨#[]⟩⟩,c):=⟨hc,fun _=>.inl rfl⟩
theorem Res.mk' {w:Int} {v:V} (h:v.kind=0∨v.kind=w):Res w (v,0):=⟨.inl rfl,fun _=>h⟩
theorem Res.ite {w:Int} {c:Bool} {a b:V × Int} (ha:c=true→Res w a) (hb:c=false→Res w b):Res w (bif c then a else b):=by
 cases c
 ·exact hb rfl
 ·exact ha rfl
abbrev KOk (v:V) (k:Int):Prop:=v.kind=0∨v.kind=k
theorem zlG {op:Int} {a b:V} (h:a.kind=0∨b.kind=0∨a.kind=b.kind):Res 2 (vCmp op a b):=by
 unfold vCmp
 refine Res.ite (fun _=>.null _ (.inl rfl)) fun h1=>Res.ite (fun _=>.null _ (.inl rfl)) fun h2=>Res.ite (fun h3=>?_) fun _=>.mk' (.inr rfl)
 simp at h1 h2 h3
 omega
theorem zeo {v:V} (hg:v.Good) (h:KOk v 2):zcy v=true:=by
 unfold zcy
 rw [hg.valid]
 rcases h with h|h <;> simp [h]
theorem ztp {a:V} (h:KOk a 2):KOk (lnot a).1 2:=by
 unfold lnot
 simp only [Bool.cond_eq_ite,KOk] at *
 repeat' split
 all_goals simp_all
theorem zmn (a b:V):KOk (zd8 a b) 2:=by
 unfold zd8
 simp only [Bool.cond_eq_ite,KOk]
 repeat' split
 all_goals simp
theorem zpt {a:V} (hg:a.Good) (h:KOk a 2):Res 2 (zcA (lnot a).1 (lnot a).2):=by
 have h2:(lnot a).2=true:=by
  unfold lnot
  rw [zeo hg h]
  simp only [Bool.cond_eq_ite]
  repeat' split
  all_goals simp_all
 rw [h2]
 exact .mk' (ztp h)
theorem zpx {a b:V} (ha:a.Good) (hb:b.Good) (h1:KOk a 2) (h2:KOk b 2):Res 2 (zcA (land a b).1 (land a b).2):=by
 unfold land
 rw [zeo ha h1,zeo hb h2]
 exact .mk' (zmn a b)
theorem zvE {a b:V} (ha:a.Good) (hb:b.Good) (h1:KOk a 2) (h2:KOk b 2):Res 2 (zcA (lor a b).1 (lor a b).2):=by
 unfold lor
 rw [zeo ha h1,zeo hb h2]
 exact zpt (ziv _ _) (zmn _ _)
theorem zlM {op:Int} {a b:V} (h1:KOk a 1) (h2:KOk b 1):Res 1 (zdA op a b):=by
 unfold zdA
 refine Res.ite (fun _=>.null _ (.inl rfl)) fun e1=>Res.ite (fun _=>.null _ (.inl rfl)) fun e2=>Res.ite (fun h3=>?_) fun _=>Res.ite (fun h3=>?_) fun _=>?_
 ·simp [KOk] at e1 h1 h3;omega
 ·simp [KOk] at e2 h2 h3;omega
 repeat' (first|exact .null _ (.inl rfl)|exact .null _ (.inr (.inl rfl))|exact .null _ (.inr (.inr rfl))|exact .mk' (.inr rfl)|refine Res.ite (fun _=>?_) fun _=>?_)
theorem znv {op:Int} {a b:V}:KOk (vCmp op a b).1 2:=by
 unfold vCmp
 simp only [Bool.cond_eq_ite,KOk]
 repeat' split
 all_goals simp
theorem zoS {x y z:V} (h1:y.kind=0∨x.kind=0∨y.kind=x.kind) (h2:x.kind=0∨z.kind=0∨x.kind=z.kind):Res 2 (zdy x y z):=by
 unfold zdy
 refine Res.ite (fun _=>.null _ (zlG h1).code) fun _=>Res.ite (fun _=>.null _ (zlG h2).code) fun _=>?_
 exact zpx (zjQ _ _ _) (zjQ _ _ _) znv znv
/- ### types of operations -/
theorem zlj {x k:Int} (h:zfq x k=true):x=0∨x=k:=by
 simp only [zfq,Bool.cond_eq_ite] at h
 split at h <;> simp_all
theorem zfc (l0:List Int) (want give:Int):∀ (l:List Int) (i:Nat) (w:Int),zdJ l0 want give l i=(w,0)→w=give∧∀ t∈l,t=0∨t=want
 | [],_,w,h=>by simp only [zdJ,Prod.mk.injEq] at h;exact ⟨h.1.symm,fun t ht=>by cases ht⟩
 | x::r,i,w,h=>by
  simp only [zdJ] at h
  cases h1:zfq x want
  ·rw [h1] at h;simp at h
  ·rw [h1] at h
   obtain ⟨h2,h3⟩:=zfc l0 want give r _ w h
   exact ⟨h2,fun t ht=>(List.mem_cons.1 ht).elim (fun h=>h ▸ zlj h1) (h3 t)⟩
theorem zhb (l0:List Int):∀ (l:List Int) (i:Nat) (want w:Int),zeS l0 l i want=(w,0)→∃ k,w=2∧∀ t∈l0,t=0∨t=k
 | [],_,want,w,h=>by
  obtain ⟨h1,h2⟩:=zfc l0 want 2 l0 0 w h
  exact ⟨want,h1,h2⟩
 | x::r,i,want,w,h=>by
  simp only [zeS,Bool.cond_eq_ite] at h
  split at h
  ·exact zhb l0 r _ _ w h
  ·exact zhb l0 r _ _ w h
theorem KOk.trans {v:V} {t k:Int} (h:KOk v t) (ht:t=0∨t=k):KOk v k:=by
 rcases h with h|h
 ·exact .inl h
 ·rcases ht with rfl|rfl
  ·exact .inl h
  ·exact .inr h
inductive Typed:List V→List Int→Prop
 | nil:Typed [] []
 | cons {v:V} {t:Int} {l:List V} {ts:List Int}:KOk v t→Typed l ts→Typed (v::l) (t::ts)
theorem Typed.app {v:V} {t:Int} (hv:KOk v t):∀ {l:List V} {ts:List Int},Typed l ts→Typed (l++[v]) (ts++[t])
 | _,_,.nil=>.cons hv .nil
 | _,_,.cons h1 h2=>.cons h1 (h2.app hv)
theorem cmpK {a b:V} {k:Int} (h1:KOk a k) (h2:KOk b k):a.kind=0∨b.kind=0∨a.kind=b.kind:=by simp only [KOk] at *;omega
theorem zvt {e:X} {l:List V} {ts:List Int} {w:Int} (hk:OpKind e) (hl:l.length=e.args.length) (hg:∀ v∈l,v.Good) (ht:Typed l ts) (hr:zbR e ts=(w,0)):Res w (eOp e l):=by
 obtain ⟨_,hc⟩:=hk.cases
 match l,hl,hg,ht with
 | [],hl,_,_=>simp at hl;omega
 | [a],hl,hg,.cons (t:=t) ha .nil =>
  have hga:=hg a (by simp)
  simp only [List.length_cons,List.length_nil] at hl
  have:e.kind=3∨e.kind=4∨e.kind=6:=by omega
  simp only [eOp]
  rcases this with h|h|h
  ·simp only [zbR,h] at hr
   obtain ⟨rfl,h2⟩:=zfc _ _ _ _ _ _ hr
   rw [h]
   exact zpt hga (ha.trans (h2 t (by simp)))
  ·simp only [zbR,h] at hr
   obtain ⟨rfl,h2⟩:=zfc _ _ _ _ _ _ hr
   rw [h]
   exact zlM (op:=10) (a:=⟨1,0,⟨#[]⟩⟩) (.inr rfl) (ha.trans (h2 t (by simp)))
  ·simp only [zbR,h] at hr
   cases hr
   rw [h]
   exact .mk' (.inr rfl)
 | [a,b],hl,hg,.cons (t:=t) ha (.cons (t:=u) hb .nil) =>
  have hga:=hg a (by simp)
  have hgb:=hg b (by simp)
  simp only [List.length_cons,List.length_nil] at hl
  obtain ⟨h,ho⟩:e.kind=5∧1≤e.op∧e.op≤13:=by omega
  simp only [eOp,zko]
  simp only [zbR,h] at hr
  have hr':(bif decide (e.op≤2) then zdJ [t,u] 2 2 [t,u] 0 else bif decide (9≤e.op) then zdJ [t,u] 1 1 [t,u] 0 else zeS [t,u] [t,u] 0 (-1))=(w,0):=hr
  by_cases h2:e.op≤2
  ·rw [show decide (e.op≤2)=true by simpa using h2] at hr'
   obtain ⟨rfl,h3⟩:=zfc _ _ _ _ _ _ hr'
   have ka:=ha.trans (h3 t (by simp))
   have kb:=hb.trans (h3 u (by simp))
   have:e.op=1∨e.op=2:=by omega
   rcases this with h4|h4 <;> rw [h4]
   ·exact zvE hga hgb ka kb
   ·exact zpx hga hgb ka kb
  ·rw [show decide (e.op≤2)=false by simpa using h2] at hr'
   have e1:(e.op==1)=false:=by simp;omega
   have e2:(e.op==2)=false:=by simp;omega
   rw [e1,e2]
   by_cases h9:9≤e.op
   ·rw [show decide (9≤e.op)=true by simpa using h9] at hr'
    rw [show decide (e.op≤8)=false by simp;omega]
    obtain ⟨rfl,h3⟩:=zfc _ _ _ _ _ _ hr'
    exact zlM (ha.trans (h3 t (by simp))) (hb.trans (h3 u (by simp)))
   ·rw [show decide (9≤e.op)=false by simpa using h9] at hr'
    rw [show decide (e.op≤8)=true by simp;omega]
    obtain ⟨k,rfl,h3⟩:=zhb _ _ _ _ _ hr'
    exact zlG (cmpK (ha.trans (h3 t (by simp))) (hb.trans (h3 u (by simp))))
 | [a,b,c],hl,hg,.cons (t:=t) ha (.cons (t:=u) hb (.cons (t:=x) hc' .nil)) =>
  simp only [List.length_cons,List.length_nil] at hl
  have h:e.kind=7:=by omega
  simp only [zbR,h] at hr
  obtain ⟨k,rfl,h3⟩:=zhb _ _ _ _ _ hr
  have ka:=ha.trans (h3 t (by simp))
  have kb:=hb.trans (h3 u (by simp))
  have kc:=hc'.trans (h3 x (by simp))
  simp only [eOp,zl7]
  exact zoS (cmpK kb ka) (cmpK ka kc)
 | a::b::c::d::r,hl,_,_=>simp only [List.length_cons] at hl;omega
theorem zrk {fT:X→Int × Int} {f:X→V × Int} {e:X} {tf vf:List Fr} {tb:List Tb} {w:Int} (hk:OpKind e):∀ (l:List X) (i j:Nat) (ts:List Int) (out:List V),(∀ x∈l,(f x).1.Good∧((fT x).2=0→Res (fT x).1 (f x)))→Typed out ts→(∀ v∈out,v.Good)→out.length+l.length=e.args.length→rtyL fT e tf tb l i ts=(w,0)→Res w (evL f (eOp e) e vf tb l j out)
 | [],i,j,ts,out,_,ht,hg,hl,hr=>zvt hk (by simpa using hl) hg ht hr
 | x::r,i,j,ts,out,hx,ht,hg,hl,hr=>by
  simp only [rtyL,Bool.cond_eq_ite] at hr
  split at hr
  ·rename_i h;simp at h hr;exact absurd hr.2 h
  ·rename_i h
   have h0:(fT x).2=0:=by simpa using h
   have hf:=hx x (by simp)
   have hres:=hf.2 h0
   simp only [evL]
   refine Res.ite (fun _=>.null _ hres.code) fun h1=>?_
   have h2:(f x).2=0:=by simpa using h1
   exact zrk hk r _ _ _ _ (fun y hy=>hx y (by simp [hy])) (ht.app (hres.kind h2)) (fun v hv=>(List.mem_append.1 hv).elim (hg v) fun h=>by simp only [List.mem_singleton] at h;exact h ▸ hf.1) (by simp at hl ⊢;omega) hr
end Go.AM
namespace Go.AM
set_option maxRecDepth 100000
set_option maxHeartbeats 1000000
set_option linter.unusedSimpArgs false
set_option linter.unusedVariables false
theorem zn3 {k o:Int} {xs:List X} (h:zkk k o xs=true):za3 k o xs=true:=by
 simp only [zkk,Bool.cond_eq_ite,zbs] at h
 simp only [za3,Bool.cond_eq_ite,zbs]
 simp at h ⊢
 repeat' split at h
 all_goals simp_all
theorem znT {k o:Int} {xs:List X} {qs:List Qy} {st:Bool} {it wh:List X} (h:zgx k o xs qs st it wh=true):zaE k o xs qs it wh=true:=by
 have hk:k=1∨k=2∨k=3∨k=4∨k=5∨k=6∨k=7∨k=8∨k=9∨k=10∨k=11∨k=12∨(k≠1∧k≠2∧k≠3∧k≠4∧k≠5∧k≠6∧k≠7∧k≠8∧k≠9∧k≠10∧k≠11∧k≠12):=by omega
 rcases hk with rfl|rfl|rfl|rfl|rfl|rfl|rfl|rfl|rfl|rfl|rfl|rfl|⟨h1,h2,h3,h4,h5,h6,h7,h8,h9,h10,h11,h12⟩
 all_goals simp [zgx,Bool.cond_eq_ite, *] at h
 all_goals (try simp [zaE,Bool.cond_eq_ite,h])
theorem zez {e:X} (h:zcP e=true):zco e=true:=by
 unfold zcP at h
 unfold zco
 cases hs:e.sub with
 | nil=>rw [hs] at h;exact zn3 h
 | cons q r=>rw [hs] at h;exact znT h
def er (f:Fr):Fr:=⟨f.name,f.strict,f.cols,[]⟩
theorem zrA (frs:List Fr) (k:Nat):(frs.map er).getD k zbc=er (frs.getD k zbc):=by
 simp only [List.getD_eq_getElem?_getD,List.getElem?_map]
 cases frs[k]? <;> rfl
theorem zqU (frs:List Fr) (q n:Str):∀ k,rres (frs.map er) q n k=rres frs q n k
 | 0=>rfl
 | k+1=>by
  simp only [rres,ziJ,zrA,zqU frs q n k]
  rfl
theorem zhE (frs:List Fr) (q n:Str):zaX (frs.map er) q n=zaX frs q n:=by
 unfold zaX;rw [List.length_map,zqU]
theorem ztv (frs:List Fr) (q n:Str):rFr (frs.map er) q n=er (rFr frs q n):=by
 unfold rFr;rw [zhE,zrA]
structure FrRel (tf vf:List Fr):Prop where
 eq:tf.map er=vf.map er
 rows:∀ f∈vf,zcU f.cols f.vals
theorem FrRel.res {tf vf:List Fr} (h:FrRel tf vf) (q n:Str):zaX tf q n=zaX vf q n:=by rw [← zhE tf,h.eq,zhE]
theorem FrRel.cols {tf vf:List Fr} (h:FrRel tf vf) (q n:Str):(rFr tf q n).cols=(rFr vf q n).cols:=by
 have:er (rFr tf q n)=er (rFr vf q n):=by rw [← ztv,← ztv,h.eq]
 exact (congrArg Fr.cols this:(er _).cols=(er _).cols)
theorem FrRel.ins {tf vf:List Fr} (h:FrRel tf vf) {t:Tb} {v:List V} (hv:zcU t.sch.cols v):FrRel (zas tf t.sch []) (zav vf t v):=by
 refine ⟨by simp only [zas,zav,List.map_append,h.eq];rfl,fun f hf=>?_⟩
 simp only [zav,List.mem_append,List.mem_singleton] at hf
 rcases hf with hf|rfl
 ·exact h.rows f hf
 ·exact hv
theorem zpR (tb:List Tb) (n:Str):∀ (l:List Tb) (i:Nat),ziY tb n l i=match l.find? (fun t=>zaK t n) with|some t=>(t.sch,true)|none=>(⟨⟨#[]⟩,[]⟩,false)
 | [],i=>rfl
 | x::r,i=>by
  simp only [ziY,List.find?,zaK]
  cases h:x.sch.name.toList==n.toList
  ·exact zpR tb n r _
  ·rfl
theorem zeM (tb:List Tb) (n:Str):zap tb n=match zbU tb n with|some t=>(t.sch,true)|none=>(⟨⟨#[]⟩,[]⟩,false):=zpR tb n tb 0
theorem zuF {f:X→V × Int} {op:List V→V × Int} {agg:V × Int} {e:X} {frs:List Fr} {tb:List Tb} (h:zco e=true) (h8:8≤e.kind) (h12:e.kind≤12):valF f op agg e frs tb=agg:=by
 have hk:e.kind=8∨e.kind=9∨e.kind=10∨e.kind=11∨e.kind=12:=by omega
 unfold valF
 rw [h]
 rcases hk with hk|hk|hk|hk|hk <;> rw [hk] <;> rfl
theorem zvS {f:X→V × Int} {op:List V→V × Int} {agg:V × Int} {e:X} {frs:List Fr} {tb:List Tb} (h:OpKind e):valF f op agg e frs tb=evL f op e frs tb e.args 0 []:=by
 have hk:=h.cases.2
 have hk:e.kind=3∨e.kind=4∨e.kind=5∨e.kind=6∨e.kind=7:=by omega
 unfold valF
 rw [h.fok]
 rcases hk with hk|hk|hk|hk|hk <;> rw [hk] <;> rfl
abbrev COk (c:Int):Prop:=c=0∨c=6∨c=7
theorem zjU {f:X→V × Int} {k item:Int} (hk:k=10→item=0∨item=1):∀ (l:List X) (its:List V),(∀ x∈l,Res item (f x))→COk (rowI f k l its).1
 | [],its,_=>.inl rfl
 | x::r,its,h=>by
  have hx:=h x (by simp)
  have hr:∀ y∈r,Res item (f y):=fun y hy=>h y (by simp [hy])
  simp only [rowI]
  cases h1:(f x).2 != 0
  ·cases h2:(f x).1.kind==0
   ·cases h3:k==10&&(f x).1.kind != 1
    ·exact zjU hk r _ hr
    ·have h4:=hx.kind (by simpa using h1)
     simp at h2 h3
     have:=hk h3.1
     omega
   ·exact zjU hk r _ hr
  ·exact hx.code
theorem zjL {f:X→V × Int} {k item:Int}:∀ (l:List X) (its:List V),(∀ x∈l,Res item (f x))→(∀ v∈its,v.kind=item)→∀ v∈(rowI f k l its).2,v.kind=item
 | [],its,_,hi=>hi
 | x::r,its,h,hi=>by
  have hx:=h x (by simp)
  have hr:∀ y∈r,Res item (f y):=fun y hy=>h y (by simp [hy])
  simp only [rowI]
  cases h1:(f x).2 != 0
  ·cases h2:(f x).1.kind==0
   ·cases h3:k==10&&(f x).1.kind != 1
    ·refine zjL r _ hr fun v hv=>(List.mem_append.1 hv).elim (hi v) fun hv=>?_
     simp only [List.mem_singleton] at hv
     have h4:=hx.kind (by simpa using h1)
     simp at h2
     rw [hv]
     omega
    ·exact hi
   ·exact zjL r _ hr hi
  ·exact hi
theorem zjF {tr:Rw→Bool × Int} {g:Rw→List V→Int × List V}:∀ (l:List Rw) (n:Nat) (its:List V),(∀ r∈l,COk (tr r).2)→(∀ r∈l,∀ its,COk (g r its).1)→COk (selR tr g l n its).1
 | [],n,its,_,_=>.inl rfl
 | r::l,n,its,ht,hg=>by
  have ht':∀ r∈l,COk (tr r).2:=fun y hy=>ht y (by simp [hy])
  have hg':∀ r∈l,∀ its,COk (g r its).1:=fun y hy=>hg y (by simp [hy])
  simp only [selR]
  cases (tr r).2 != 0
  ·cases (tr r).1
   ·exact zjF l _ _ ht' hg'
   ·cases (g r its).1 != 0
    ·exact zjF l _ _ ht' hg'
    ·exact hg r (by simp) its
  ·exact ht r (by simp)
theorem zk8 {f:X→V × Int} {ty:X→Int × Int} {wh:List X} (hc:zh0 ty wh=0) (hf:∀ x∈wh,(f x).1.Good∧((ty x).2=0→Res (ty x).1 (f x))):COk (zb3 f wh).2:=by
 cases wh with
 | nil=>exact .inl rfl
 | cons x r =>
  obtain ⟨hg,hr⟩:=hf x (by simp)
  simp only [zh0,zmp] at hc
  cases h1:(ty x).2 != 0
  ·rw [h1] at hc
   have h0:(ty x).2=0:=by simpa using h1
   have hres:=hr h0
   cases h2:zfq (ty x).1 2
   ·rw [h2] at hc;simp at hc
   ·have hk:=zlj h2
    simp only [zb3,zj2]
    cases h3:(f x).2==0
    ·exact hres.code
    ·have h4:=hres.kind (by simpa using h3)
     rw [zeo hg (KOk.trans h4 hk)]
     exact hres.code
  ·rw [h1] at hc
   simp at h1 hc
   exact absurd hc h1
theorem zuK {sel:Int × Nat × List V} {e:X} {item w:Int} (h8:8≤e.kind) (h12:e.kind≤12) (hc:COk sel.1) (hk:∀ v∈sel.2.2,v.kind=item)
  (hw:w=if e.kind=8 then 2 else if e.kind=11∨e.kind=12 then item else 1):Res w (eAgg sel e):=by
 unfold eAgg
 refine Res.ite (fun _=>.null _ hc) fun _=>Res.ite (fun h1=>?_) fun h1=>Res.ite (fun h2=>?_) fun h2=>Res.ite (fun _=>.null _ (.inl rfl)) fun _=>Res.ite (fun h3=>?_) fun h3=>Res.ite (fun h4=>?_) fun h4=>?_
 ·have h:e.kind=8:=by simpa using h1
  simp [h] at hw;subst hw;exact .mk' (.inr rfl)
 ·have h:e.kind=9:=by simpa using h2
  simp [h] at hw;subst hw;exact .mk' (.inr rfl)
 ·have h:e.kind=10:=by simpa using h3
  simp [h] at hw;subst hw
  rw [zrb]
  exact Res.ite (fun _=>.null _ (.inr (.inl rfl))) fun _=>.mk' (.inr rfl)
 ·have h:e.kind=11:=by simpa using h4
  simp [h] at hw;subst hw
  exact .mk' (zoD (P:=fun v=>KOk v w) (fun v hv=>.inr (hk v hv)) (.inl rfl))
 ·have h:e.kind=12:=by
   have a1:e.kind≠8:=by simpa using h1
   have a2:e.kind≠9:=by simpa using h2
   have a3:e.kind≠10:=by simpa using h3
   have a4:e.kind≠11:=by simpa using h4
   omega
  simp [h] at hw;subst hw
  exact .mk' (zoN (P:=fun v=>KOk v w) (fun v hv=>.inr (hk v hv)) (.inl rfl))
theorem zrg {f:X→Int × Int} {cond:Int} {e:X} {q:Qy} {ins:List Fr} {tb:List Tb} {w:Int} (h8:8≤e.kind) (h12:e.kind≤12):∀ (l:List X) (i:Nat) (item:Int),rtqL f cond e q ins tb l i item=(w,0)→cond=0∧(∀ x∈l,(f x).2=0)∧∃ it,(l=[]→it=item)∧(∀ x,l=[x]→it=(f x).1)∧(e.kind=10→it=0∨it=1)∧w=if e.kind=8 then 2 else if e.kind=11∨e.kind=12 then it else 1
 | [],i,item,h=>by
  have hkk:e.kind=8∨e.kind=9∨e.kind=10∨e.kind=11∨e.kind=12:=by omega
  simp only [rtqL] at h
  cases h1:cond != 0
  ·rw [h1] at h
   refine ⟨by simpa using h1,fun x hx=>(by cases hx),item,fun _=>rfl,fun x hx=>(by cases hx),?_,?_⟩
   ·intro h10
    rw [h10] at h
    cases h2:zfq item 1
    ·rw [h2] at h;simp at h
    ·exact zlj h2
   ·rcases hkk with hk|hk|hk|hk|hk <;> simp [hk] at h ⊢
    all_goals first|omega|(cases h2:zfq item 1 <;> simp [h2] at h;omega)|exact h.symm
  ·rw [h1] at h
   simp at h1 h
   exact absurd h.2 h1
 | x::r,i,item,h=>by
  simp only [rtqL] at h
  cases h1:(f x).2 != 0
  ·rw [h1] at h
   obtain ⟨h2,h3,it,h4,h5,h6,h7⟩:=zrg h8 h12 r _ _ h
   refine ⟨h2,fun y hy=>(List.mem_cons.1 hy).elim (fun hy=>by rw [hy];simpa using h1) (h3 y),it,fun hx=>(by cases hx),fun y hy=>?_,h6,h7⟩
   cases hy
   exact h4 rfl
  ·rw [h1] at h
   simp at h1 h
   exact absurd h.2 h1
structure TbT (tb:List Tb):Prop where
 rows:∀ x∈tb,∀ r∈x.rows,zcU x.sch.cols r.vals
 len:∀ x∈tb,x.rows.length≤1000
theorem TbT.g {tb:List Tb} (h:TbT tb):TbG tb:=⟨fun x hx r hr v hv=>(h.rows x hx r hr).good v hv,h.len⟩
theorem FrRel.g {tf vf:List Fr} (h:FrRel tf vf):FsG vf:=fun f hf v hv=>(h.rows f hf).good v hv
theorem zvi {vf:List Fr} (hv:∀ f∈vf,zcU f.cols f.vals) {q n:Str} (h:(zaX vf q n).2.2=true):(zaX vf q n).2.1 < (rFr vf q n).vals.length∧KOk (zaG (rFr vf q n).vals (zaX vf q n).2.1) (rCol vf q n).type:=by
 obtain ⟨i,j,e,h1,h2⟩:=zfg h
 have hr:=hv _ (List.mem_of_getElem? h1)
 have hl:=hr.len
 have hj:=zcj h2
 rw [show (zaX vf q n).2.1=(j:Int) by rw [e]]
 refine ⟨by omega,?_⟩
 obtain ⟨v,hvv⟩:=zay (l:=(rFr vf q n).vals) (i:=j) (by omega)
 have:zaG (rFr vf q n).vals (j:Int)=v:=by simp [zaG,List.getD_eq_getElem?_getD,hvv]
 rw [this]
 exact (hr.at_ j _ v h2 hvv).kind
theorem sound:∀ (n:Nat) (e:X) (tf vf:List Fr) (tb:List Tb) (w:Int),XOk n e→FrRel tf vf→TbT tb→zc0 n e tf tb=(w,0)→Res w (eval n e vf tb)
 | 0,e,tf,vf,tb,w,h,_,_,_=>h.elim
 | n+1,e,tf,vf,tb,w,hx,hf,ht,h=>by
  have ih:=sound n
  obtain ⟨hx1,hx2,hx3,hx4⟩:=id hx
  have hgood:∀ x,XOk n x→(eval n x vf tb).1.Good:=fun x hx=>zcW n x vf tb hx hf.g ht.g
  unfold zc0 at h
  unfold eval
  cases hs:e.sub with
  | nil =>
   rw [hs] at h
   simp only [zol] at h
   cases h1:zcP e
   ·rw [h1] at h;simp at h
   ·rw [h1] at h
    have hfm:=zez h1
    by_cases k1:e.kind=1
    ·simp [k1] at h
     simp only [valF,hfm,k1]
     exact .mk' (.inr h)
    ·by_cases k2:e.kind=2
     ·have e1:(e.kind==1)=false:=by simpa using k1
      have e2:(e.kind==2)=true:=by simpa using k2
      simp only [e1,e2,Bool.not_true,cond_true,cond_false] at h
      simp only [valF,hfm,e1,e2,Bool.not_true,cond_true,cond_false,zdZ,← hf.res]
      cases h3:(zaX tf e.table e.name).2.2
      ·rw [h3] at h;simp at h
      ·rw [h3] at h
       simp only [Bool.not_true,cond_false,Prod.mk.injEq,and_true] at h
       have h4:=zvi hf.rows (q:=e.table) (n:=e.name) (by rw [← hf.res];exact h3)
       rw [← hf.res] at h4
       have h5:decide ((((List.map V.cells (rFr vf e.table e.name).vals).length:Nat):Int)≤(zaX tf e.table e.name).2.1)=false:=by simp;omega
       simp only [Bool.not_true,cond_false,h5]
       refine .mk' ?_
       have h6:(rCol tf e.table e.name).type=(rCol vf e.table e.name).type:=by
        unfold rCol;rw [hf.cols,hf.res]
       rw [← h,h6]
       exact h4.2
     ·have hop:OpKind e:=⟨hfm,k1,k2,by
       have h0:=hfm
       unfold zco at h0
       rw [hs] at h0
       have:=zfS h0
       omega⟩
      rw [zvS hop]
      have e1:(e.kind==1)=false:=by simpa using k1
      have e2:(e.kind==2)=false:=by simpa using k2
      simp only [e1,e2,Bool.not_true,cond_false] at h
      exact zrk hop e.args 0 0 [] [] (fun x hx=>⟨hgood x (hx3 x hx),fun h0=>ih x tf vf tb _ (hx3 x hx) hf ht (Prod.ext rfl h0)⟩) .nil (fun v hv=>(by cases hv)) (by simp) h
  | cons q r =>
   rw [hs] at h
   obtain ⟨hq1,hq2,hq3⟩:=hx4 q (by rw [hs];simp)
   simp only [zoa] at h
   cases h1:zcP e
   ·rw [h1] at h;simp at h
   ·rw [h1] at h
    have hfm:=zez h1
    have hfc:(e.args.length=0∧(q::r).length=1∧q.wh.length≤1∧(((e.kind=8∨e.kind=9)∧q.items.length=0)∨((e.kind=10∨e.kind=11∨e.kind=12)∧q.items.length=1))):=by
     have h0:=hfm
     unfold zco at h0
     rw [hs] at h0
     exact zfR (by simp) h0
    have h8:8≤e.kind:=by omega
    have h12:e.kind≤12:=by omega
    rw [zuF hfm h8 h12]
    have e1:(e.kind==1)=false:=by simp;omega
    have e2:(e.kind==2)=false:=by simp;omega
    simp only [e1,e2,Bool.not_true,cond_false,rtqF,rIns,zeM] at h
    unfold zhl
    rw [hs]
    simp only
    cases hfd:zbU tb q.frm with
    | none=>rw [hfd] at h;simp at h
    | some t =>
     rw [hfd] at h
     simp only [Bool.not_true,cond_false] at h
     have htm:=zdC hfd
     obtain ⟨hcond,hit,it,hi0,hi1,hi10,hw⟩:=zrg h8 h12 q.items 0 1 h
     have hins:∀ r∈t.rows,FrRel (zas tf t.sch []) (zav vf t r.vals):=fun r hr=>hf.ins (ht.rows t htm r hr)
     have hres:∀ r∈t.rows,∀ x∈q.items,Res it (eval n x (zav vf t r.vals) tb):=by
      intro r hr x hxi
      have hlen:q.items.length≤1:=by omega
      have hq:q.items=[x]:=by
       match hqi:q.items,hxi,hlen with
       | [y],hxi,_=>simp at hxi;rw [hxi]
       | y::z::l,_,hlen=>simp at hlen
      rw [hi1 x hq]
      exact ih x _ _ tb _ (hq2 x hxi) (hins r hr) ht (Prod.ext rfl (hit x hxi))
     refine zuK h8 h12 ?_ ?_ hw
     ·refine zjF _ _ _ (fun r hr=>?_) (fun r hr its=>zjU (item:=it) (fun h=>hi10 h) _ _ (hres r hr))
      exact zk8 (ty:=fun x=>zc0 n x (zas tf t.sch []) tb) hcond fun x hx=>⟨zcW n x _ tb (hq3 x hx) (hins r hr).g ht.g,fun h0=>ih x _ _ tb _ (hq3 x hx) (hins r hr) ht (Prod.ext rfl h0)⟩
     ·exact zi0 (P:=fun v=>v.kind=it) _ _ _ _ _ (fun r hr its hi=>zjL _ _ (hres r hr) hi) (fun v hv=>(by cases hv))
end Go.AM
namespace Go.AM
set_option maxRecDepth 100000
set_option maxHeartbeats 1000000
set_option linter.unusedSimpArgs false
set_option linter.unusedVariables false
theorem zoW {tb:List Tb} {n:Str} {x:Tb} (h:AtI tb (idxF (fun t=>zaK t n) tb 0) x):zap tb n=(x.sch,true):=by
 obtain ⟨h0,h1⟩:=h
 rw [zeM]
 rcases zdI (fun t=>zaK t n) tb 0 with ⟨h2,_⟩|⟨j,y,h2,h3,h4⟩
 ·omega
 ·rw [h2] at h1
  have:((0+j:Nat):Int).toNat=j:=by omega
  rw [this,h3] at h1
  cases h1
  unfold zbU;rw [h4]
theorem zo6 {tb:List Tb} {n:Str} (h:decide (idxF (fun t=>zaK t n) tb 0 < 0)=true):zap tb n=(⟨⟨#[]⟩,[]⟩,false):=by
 rw [zeM]
 rcases zdI (fun t=>zaK t n) tb 0 with ⟨_,h2⟩|⟨j,y,h2,h3,h4⟩
 ·unfold zbU;rw [h2]
 ·simp only [decide_eq_true_eq] at h;omega
theorem zvI {tb:List Tb} {n:Str} (h:decide (idxF (fun t=>zaK t n) tb 0 < 0)=false):0≤idxF (fun t=>zaK t n) tb 0∧idxF (fun t=>zaK t n) tb 0 < ((tb.length:Nat):Int):=by
 simp only [decide_eq_false_iff_not] at h
 have:=zmX (fun t=>zaK t n) tb 0
 exact ⟨by omega,by rcases this with h|h <;> omega⟩
theorem zf1 (t:Tb) (n:Str) :zac E0 S.scope_Source_c1 [.agg t.cells,.p 0 0] [.box [sv n]] (bv (zaK t n)) [.box [sv n]]:=by
 exact wk At.scope_Source_c1 [] kr
noncomputable def zpB (tb:List Tb) (n:Str) (i:Nat):Cfg:=zar B.slices_IndexFunc_Table 0 [(0,.sl (tb.map Tb.cells)),(1,.fn S.scope_Source_c1 [.p 0 0]),(7,iv ((tb.map Tb.cells).length:Nat)),(8,iv (i:Nat))] [.box [sv n]]
theorem zqg (tb:List Tb) (n:Str) (hl:zad tb):∀ (k i:Nat),i+k=tb.length→Good E0 B.slices_IndexFunc_Table [.box [sv n]] (zpB tb n i) (Shut 1 fun r h=>r=iv (idxF (fun t=>zaK t n) (tb.drop i) i)∧h=[.box [sv n]]):=by
 intro k
 induction k with
 | zero =>
  intro i hi
  refine zaa ?_
  have h0:decide ((i:Int) < (((tb.map Tb.cells).length:Nat):Int))=false:=by simp;omega
  have e0:tb.drop i=[]:=List.drop_of_length_le (by omega)
  rw [e0]
  exact zd9 E0ok mix0 3000 (y:=AV.v (Value.int IntKind.i64 (-1:Int))) (H:=[Blk.box [AV.v (Value.string n)]]) [sb h0] kr (⟨rfl,rfl⟩)
 | succ k ih =>
  intro i hi
  have ih:=ih (i+1) (by omega)
  obtain ⟨x,hx⟩:=zay (l:=tb) (i:=i) (by omega)
  have h0:decide ((i:Int) < (((tb.map Tb.cells).length:Nat):Int))=true:=by simp;omega
  have hw:=zao i (by omega)
  rw [zaN hx]
  simp only [idxF]
  refine zaa ?_
  cases h1:zaK x n
  ·exact zd5 E0ok mix0 3000 (c':=zpB tb n (i+(1:Nat))) [sb h0,se (zah Tb.cells hx rfl),sl [(0:Nat)] (zf1 x n),sb h1,si hw] [0,1,7,8] 1 kr kr (by simpa only [cond_true,cond_false,h1] using ih)
  ·exact zd9 E0ok mix0 3000 (y:=AV.v (Value.int IntKind.i64 (i:Int))) (H:=[Blk.box [AV.v (Value.string n)]]) [sb h0,se (zah Tb.cells hx rfl),sl [(0:Nat)] (zf1 x n),sb h1] kr (⟨by simp only [cond_true,cond_false,h1],rfl⟩)
theorem zuz (tb:List Tb) (n:Str) (hl:zad tb):zac E0 S.slices_IndexFunc_Table [.sl (tb.map Tb.cells),.fn S.scope_Source_c1 [.p 0 0]] [.box [sv n]] (iv (idxF (fun t=>zaK t n) tb 0)) [.box [sv n]]:=by
 exact ze7 E0ok mix0 At.slices_IndexFunc_Table rfl kr kr 3000 (c':=zpB tb n (0:Nat)) [] [0,1,7,8] 1 kr kr (by simpa using zqg tb n hl tb.length 0 (by simp))
theorem zm2 (tb:List Tb) (n:Str) (h2:zad tb) (h3:∀ x∈tb,zad x.sch.cols) (hix:zac E0 S.slices_IndexFunc_Table [.sl (tb.map Tb.cells),.fn S.scope_Source_c1 [.p 0 0]] [.box [sv n]] (iv (idxF (fun t=>zaK t n) tb 0)) [.box [sv n]]):∃ (s:Sch) (b:Bool),(s,b)=zap tb n∧zac E0 S.scope_Source [tsl tb,sv n] [] (.tup [s.av,bv b]) []:=by
 cases h1:decide (idxF (fun t=>zaK t n) tb 0 < 0)
 ·obtain ⟨x2,e2⟩:=zit (l:=tb) (i:=idxF (fun t=>zaK t n) tb (0:Nat)) (by exact zvI (by assumption))
  exact ⟨x2.sch,true,(by first|exact (zoW (by assumption)).symm|exact (zo6 (by assumption)).symm),wk At.scope_Source [sqx ((True∧x2.sch.cols.length=(List.map Col.cells x2.sch.cols).length∧True)∧True∧True),sl [0] hix,sb h1,se (zcF Tb.cells e2 rfl),sc (zhX x2.sch.cols (by first|assumption|exact h3 _ (List.mem_of_getElem? (And.right ‹AtI _ _ _›))))] kr⟩
 ·exact ⟨Sch.mk (ByteArray.mk #[]) [],false,(by first|exact (zoW (by assumption)).symm|exact (zo6 (by assumption)).symm),wk At.scope_Source [sl [0] hix,sb h1] kr⟩
theorem ze3 (tb:List Tb) (n:Str) (h2:zad tb) (h3:∀ x∈tb,zad x.sch.cols):zac E0 S.scope_Source [tsl tb,sv n] [] (.tup [(zap tb n).1.av,bv (zap tb n).2]) []:=by
 obtain ⟨s,b,h,h2⟩:=zm2 tb n h2 h3 (zuz tb n h2)
 rw [← h];exact h2
theorem zm7 (fr:List Fr) (s:Sch) (h2:zad fr):∃ (r:List Fr),r=zas fr s []∧zac E0 S.scope_inside [fsl fr,s.av] [] (fsl r) []:=by
 exact ⟨fr++[Fr.mk s.name false s.cols []],(by rfl),(by (try simp only [X.av,Qy.av,V.av,Tb.av,Sch.av,Pl.av,xsl,fsl,vsl,tsl,List.map_append,List.map_cons,List.map_nil,V.cells,Col.cells,Rw.cells,Tb.cells,Fr.cells,Sch.cells,Pl.cells,za7,zaO,zaU,zaS,za0,X.cells,Qy.cells,X.args_mk,X.sub_mk,Qy.items_mk,Qy.wh_mk,xCol,xLit,xBin,xNeg,Ac.cells,Se.cells]);exact wk At.scope_inside [sqx ((List.map Fr.cells fr++[[sv s.name,bv false,AV.sl (List.map Col.cells s.cols),AV.sl []]]).length=(List.map Fr.cells fr++[[sv s.name,bv false,AV.sl (List.map Col.cells s.cols),AV.sl []]]).length),sd [(1,[sc (zc8 fr (by first|assumption|omega|(simp;done)|(simp;omega)))]),(8,[sqx (AllLen [[sv s.name,bv false,AV.sl (List.map Col.cells s.cols),AV.sl []]] 4∧fr.length=(List.map Fr.cells fr).length∧(((List.map Fr.cells fr).length+[[sv s.name,bv false,AV.sl (List.map Col.cells s.cols),AV.sl []]].length) * 72).le 140737488355328)])]] kr)⟩
theorem zif (fr:List Fr) (s:Sch) (h2:zad fr):zac E0 S.scope_inside [fsl fr,s.av] [] (fsl (zas fr s [])) []:=by
 obtain ⟨r,rfl,h⟩:=zm7 fr s h2
 exact h
end Go.AM
namespace Go.AM
set_option maxRecDepth 100000
set_option maxHeartbeats 1000000
set_option linter.unusedSimpArgs false
set_option linter.unusedVariables false
theorem zcv {p:Prop} (h:p:=by first|assumption|exact hfo.short|exact hfo.cols|exact hfo.wrap|exact notT ‹(!zco e)=false›|(have h9:=eq_of_beq ‹(e.kind==_)=true›;omega)):p:=h
theorem zsK {p:Prop} (h:p:=by first|assumption|exact hfo.short|exact hto.len|exact hto.cols):p:=h
theorem zvx (frs:List Fr) (q n:Str) (h:(!(zbw frs q n).2.2)=false):ElAt ((rFr frs q n).cols.map Col.cells) (zbw frs q n).2.1 (rCol frs q n).cells 4:=by
 rw [zdZ] at h ⊢;exact zu6 frs q n (by simpa using h)
def zj9 (f:X→Int × Int) (x:X):Int :=
 bif (f x).snd==0 then
  bif !pfit (f x).fst 2 then
   5
  else
   (f x).snd
 else
  (f x).snd
theorem zi8 (f:X→Int × Int) (x:X) (r:List X) (frs:List Fr) (tb:List Tb) (hn:((((zab (x::r)).length:Nat):Int)==0)=false) (hf:Pure S.scope_Type [x.av,fsl frs,tsl tb] (.tup [iv (f x).1,iv (f x).2])):zac E0 S.scope_Condition [xsl (x::r),fsl frs,tsl tb] [] (iv (zj9 f x)) []:=by
 unfold zj9
 let p_1:List St:=[sb (rfl:false=false),se (zbv (l:=x::r) (i:=0) (x:=x) rfl),sc hf]
 cases h1:(f x).snd==0
 ·exact wk At.scope_Condition (p_1++[sb h1]) kr
 ·let p_2:List St:=p_1++[sg h1,sc (zgF ((f x).fst) 2)]
  cases h2:!pfit (f x).fst 2
  ·exact wk At.scope_Condition (p_2++[sb h2]) kr
  ·exact wk At.scope_Condition (p_2++[sb h2]) kr
def zts :Int :=
 0
theorem ziW  (frs:List Fr) (tb:List Tb):zac E0 S.scope_Condition [xsl [],fsl frs,tsl tb] [] (iv zts) []:=by
 exact wk At.scope_Condition [sb (rfl:true=true)] kr
noncomputable def L_ptyL (f:X→Int × Int) (e:X) (frs:List Fr) (tb:List Tb) (i:Nat) (l:List Int):Cfg:=zar B.scope_Type 0 [(1,fsl frs),(2,tsl tb),(3,.p 0 0),(11,.own 1 l.length),(62,xsl e.args),(63,iv ((zab e.args).length:Nat)),(64,iv (i:Nat))] [.box e.cells,.row Ty.int (l.map fun n=>[iv n]) false]
def ptyL (f:X→Int × Int) (e:X) (frs:List Fr) (tb:List Tb):List (X)→Nat→(List Int)→Int × Int
 | [],i,l =>
  ((pOp e l).fst,(pOp e l).snd)
 | x::r,i,l =>
  bif (f x).snd != 0 then
   (0,(f x).snd)
  else
   ptyL f e frs tb r (i+1) (l++[(f x).fst])
theorem zqo (f:X→Int × Int) (e:X) (frs:List Fr) (tb:List Tb) (hl:zad e.args) (hf:∀ x∈e.args,Pure S.scope_Type [x.av,fsl frs,tsl tb] (.tup [iv (f x).1,iv (f x).2])):∀ (kk i:Nat) (l:List Int),i+kk=(e.args).length→(l.length≤i)→Good E0 B.scope_Type [] (L_ptyL f e frs tb i l) (Shut 0 fun r h=>r=(.tup [iv (ptyL f e frs tb ((e.args).drop i) i l).1,iv (ptyL f e frs tb ((e.args).drop i) i l).2])∧h=[]):=by
 intro kk
 induction kk with
 | zero =>
  intro i l hi ho
  have h0:decide (((i:Nat):Int) < (((zab e.args).length:Nat):Int))=false:=by simp;omega
  have e0:(e.args).drop i=[]:=List.drop_of_length_le (by omega)
  rw [e0]
  simp only [ptyL]
  refine zaa ?_
  exact wkr [sb h0,skx ((True∧True∧True∧True∧True∧True∧True∧True∧True∧True∧True)∧l.length=(List.map (fun n=>[iv n]) l).length∧True) [] (zkW e l (by first|assumption|(simp only [zad] at *;omega)))] kr
 | succ kk ih =>
  intro i l hi ho
  obtain ⟨x,hx⟩:=zay (l:=e.args) (i:=i) (by omega)
  have h0:decide (((i:Nat):Int) < (((zab e.args).length:Nat):Int))=true:=by simp;omega
  have hw:=zao i (by first|omega|(simp only [zad,Few] at *;omega))
  have hfx:=hf x (List.mem_of_getElem? hx)
  rw [zaN hx]
  simp only [ptyL]
  refine zaa ?_
  cases h1:(f x).snd != 0
  ·exact wkl [sb h0,se (zbv hx),sc hfx,sb h1,sqx (AllLen [[iv (f x).fst]] 1∧l.length=(List.map (fun n=>[iv n]) l).length∧(((List.map (fun n=>[iv n]) l).length+[[iv (f x).fst]].length) * 8).le 140737488355328),si hw] [1,2,3,11,62,63,64] 2 kr (zat (show ([(1,AV.sl (List.map Fr.cells frs)),(2,AV.sl (List.map Tb.cells tb)),(3,AV.p 0 0),(11,AV.own 1 (List.map (fun n=>[iv n]) l++[[iv (f x).fst]]).length),(62,AV.sl (zab e.args)),(63,iv (↑(zab e.args).length:Int)),(64,iv (↑(i+1):Int))]:TS)=_ by first|rfl|(simp;done)|(simp [X.cells,Qy.cells,V.cells,Col.cells,Rw.cells,Tb.cells,Fr.cells,Sch.cells,Tp.cells,Pl.cells,xCol,xLit,xBin,xNeg,Ac.cells,Se.cells];done)) (show ([Blk.box [iv e.kind,iv e.op,bv e.not,iv e.val.kind,iv e.val.int,sv e.val.text,sv e.table,sv e.name,AV.sl (zab e.args),AV.sl (zaf e.sub)],Blk.row Ty.int (List.map (fun n=>[iv n]) l++[[iv (f x).fst]]) false]:Heap)=_ by first|rfl|(simp;done)|(simp [X.cells,Qy.cells,V.cells,Col.cells,Rw.cells,Tb.cells,Fr.cells,Sch.cells,Tp.cells,Pl.cells,xCol,xLit,xBin,xNeg,Ac.cells,Se.cells];done)) (ih (i+1) (l++[(f x).fst]) (by omega) (by first|assumption|(simp;done)|(simp;omega)|omega|(simp at *;omega))))
  ·exact wkr [sb h0,se (zbv hx),sc hfx,sb h1] kr
noncomputable def L_ptqL (f:X→Int × Int) (cond:Int) (e:X) (q:Qy) (s:Sch) (ins:List Fr) (tb:List Tb) (i:Nat) (item:Int):Cfg:=zar B.scope_aggregate 0 [(2,tsl tb),(3,.p 0 0),(8,.p 1 0),(11,fsl ins),(12,iv item),(35,xsl q.items),(36,iv ((zab q.items).length:Nat)),(37,iv (i:Nat))] [.box e.cells,.box q.cells,.box s.cells]
def ptqL (f:X→Int × Int) (cond:Int) (e:X) (q:Qy) (s:Sch) (ins:List Fr) (tb:List Tb):List (X)→Nat→(Int)→Int × Int
 | [],i,item =>
  bif cond != 0 then
   (0,cond)
  else
   bif e.kind==10 then
    bif !pfit item 1 then
     (0,5)
    else
     bif e.kind==8 then
      (2,0)
     else
      bif e.kind==9 then
       (1,0)
      else
       (1,0)
   else
    bif e.kind==8 then
     (2,0)
    else
     bif e.kind==9 then
      (1,0)
     else
      (item,0)
 | x::r,i,item =>
  bif (f x).snd != 0 then
   (0,(f x).snd)
  else
   ptqL f cond e q s ins tb r (i+1) ((f x).fst)
theorem zqi (f:X→Int × Int) (cond:Int) (e:X) (q:Qy) (s:Sch) (ins:List Fr) (tb:List Tb) (hl:zad q.items) (hf:∀ x∈q.items,Pure S.scope_Type [x.av,fsl ins,tsl tb] (.tup [iv (f x).1,iv (f x).2])) (hc:Pure S.scope_Condition [xsl q.wh,fsl ins,tsl tb] (iv cond)):∀ (kk i:Nat) (item:Int),i+kk=(q.items).length→Good E0 B.scope_aggregate [] (L_ptqL f cond e q s ins tb i item) (Shut 0 fun r h=>r=(.tup [iv (ptqL f cond e q s ins tb ((q.items).drop i) i item).1,iv (ptqL f cond e q s ins tb ((q.items).drop i) i item).2])∧h=[]):=by
 intro kk
 induction kk with
 | zero =>
  intro i item hi
  have h0:decide (((i:Nat):Int) < (((zab q.items).length:Nat):Int))=false:=by simp;omega
  have e0:(q.items).drop i=[]:=List.drop_of_length_le (by omega)
  rw [e0]
  simp only [ptqL]
  refine zaa ?_
  cases h1:cond != 0
  ·cases h2:e.kind==10
   ·cases h3:e.kind==8
    ·cases h4:e.kind==9
     ·exact wkr [sb h0,sc hc,sb h1,sb h2,sb h3,sb h4,sb h2] kr
     ·exact wkr [sb h0,sc hc,sb h1,sb h2,sb h3,sb h4] kr
    ·exact wkr [sb h0,sc hc,sb h1,sb h2,sb h3] kr
   ·let p_1:List St:=[sb h0,sc hc,sb h1,sg h2,sc (zgF item 1)]
    cases h5:!pfit item 1
    ·cases h6:e.kind==8
     ·cases h7:e.kind==9
      ·exact wkr (p_1++[sb h5,sb h6,sb h7,sb h2]) kr
      ·exact wkr (p_1++[sb h5,sb h6,sb h7]) kr
     ·exact wkr (p_1++[sb h5,sb h6]) kr
    ·exact wkr (p_1++[sb h5]) kr
  ·exact wkr [sb h0,sc hc,sb h1] kr
 | succ kk ih =>
  intro i item hi
  obtain ⟨x,hx⟩:=zay (l:=q.items) (i:=i) (by omega)
  have h0:decide (((i:Nat):Int) < (((zab q.items).length:Nat):Int))=true:=by simp;omega
  have hw:=zao i (by first|omega|(simp only [zad,Few] at *;omega))
  have hfx:=hf x (List.mem_of_getElem? hx)
  rw [zaN hx]
  simp only [ptqL]
  refine zaa ?_
  cases h1:(f x).snd != 0
  ·exact wkl [sb h0,se (zbv hx),sc hfx,sb h1,si hw] [2,3,8,11,12,35,36,37] 3 kr (ih (i+1) ((f x).fst) (by omega) )
  ·exact wkr [sb h0,se (zbv hx),sc hfx,sb h1] kr
def ptqF (f:X→Int × Int) (cond:Int) (e:X) (q:Qy) (frs:List Fr) (tb:List Tb):Int × Int :=
 bif !(zap tb q.frm).snd then
  (0,3)
 else
  ptqL f cond e q (zap tb q.frm).1 (zas frs (zap tb q.frm).1 []) tb q.items 0 (0)
theorem zk2 (f:X→Int × Int) (cond:Int) (e:X) (q:Qy) (frs:List Fr) (tb:List Tb) (n:Nat) (hq:e.sub[0]?=some q) (hfo:FsOk n frs) (hto:TbOk tb) (hl:zad q.items) (hf:∀ x∈q.items,Pure S.scope_Type [x.av,fsl (zas frs (zap tb q.frm).1 []),tsl tb] (.tup [iv (f x).1,iv (f x).2])) (hc:Pure S.scope_Condition [xsl q.wh,fsl (zas frs (zap tb q.frm).1 []),tsl tb] (iv cond)):zac E0 S.scope_aggregate [e.av,fsl frs,tsl tb] [] (.tup [iv (ptqF f cond e q frs tb).1,iv (ptqF f cond e q frs tb).2]) []:=by
 unfold ptqF
 let p_1:List St:=[se (zaR hq),sc (ze3 tb q.frm zsK zsK)]
 cases h1:!(zap tb q.frm).snd
 ·exact wkc At.scope_aggregate (p_1++[sb h1,sc (zif frs ((zap tb q.frm).fst) zsK)]) [2,3,8,11,12,35,36,37] 3 kr (by have ih:=zqi f cond e q (zap tb q.frm).1 (zas frs (zap tb q.frm).1 []) tb hl hf hc q.items.length 0 0 (by simp);exact ih)
 ·exact wk At.scope_aggregate (p_1++[sb h1]) kr
def ptyF (f:X→Int × Int) (ag:Int × Int) (e:X) (frs:List Fr) (tb:List Tb):Int × Int :=
 bif !zco e then
  (0,17)
 else
  bif e.kind==1 then
   (e.val.kind,0)
  else
   bif e.kind==2 then
    bif !(zbw frs e.table e.name).snd.snd then
     (0,3)
    else
     ((rCol frs e.table e.name).type,0)
   else
    bif e.kind==8 then
     (ag.fst,ag.snd)
    else
     bif e.kind==9 then
      (ag.fst,ag.snd)
     else
      bif e.kind==10 then
       (ag.fst,ag.snd)
      else
       bif e.kind==11 then
        (ag.fst,ag.snd)
       else
        bif e.kind==12 then
         (ag.fst,ag.snd)
        else
         ptyL f e frs tb e.args 0 ([])
theorem zmu (f:X→Int × Int) (ag:Int × Int) (e:X) (frs:List Fr) (tb:List Tb) (n:Nat) (hfo:FsOk n frs) (hl:zad e.args) (hf:∀ x∈e.args,Pure S.scope_Type [x.av,fsl frs,tsl tb] (.tup [iv (f x).1,iv (f x).2])) (hagg:zco e=true→8≤e.kind→e.kind≤12→Pure S.scope_aggregate [e.av,fsl frs,tsl tb] (.tup [iv ag.1,iv ag.2])):zac E0 S.scope_Type [e.av,fsl frs,tsl tb] [] (.tup [iv (ptyF f ag e frs tb).1,iv (ptyF f ag e frs tb).2]) []:=by
 unfold ptyF
 cases h1:!zco e
 ·cases h2:e.kind==1
  ·let p_1:List St:=[sc (zbd e),sb h1,sb h2]
   cases h3:e.kind==2
   ·cases h4:e.kind==8
    ·cases h5:e.kind==9
     ·cases h6:e.kind==10
      ·cases h7:e.kind==11
       ·cases h8:e.kind==12
        ·exact wkcN At.scope_Type (p_1++[sb h3,sb h4,sb h5,sb h6,sb h7,sb h8]) [1,2,3,11,62,63,64] 1 [(.ot 11 Ty.int,2)] kr (by have ih:=zqo f e frs tb hl hf e.args.length 0 ([]) (by simp) (by simp);exact ih)
        ·exact wk At.scope_Type (p_1++[sb h3,sb h4,sb h5,sb h6,sb h7,sb h8,sc (hagg zcv zcv zcv)]) kr
       ·exact wk At.scope_Type (p_1++[sb h3,sb h4,sb h5,sb h6,sb h7,sc (hagg zcv zcv zcv)]) kr
      ·exact wk At.scope_Type (p_1++[sb h3,sb h4,sb h5,sb h6,sc (hagg zcv zcv zcv)]) kr
     ·exact wk At.scope_Type (p_1++[sb h3,sb h4,sb h5,sc (hagg zcv zcv zcv)]) kr
    ·exact wk At.scope_Type (p_1++[sb h3,sb h4,sc (hagg zcv zcv zcv)]) kr
   ·let p_2:List St:=p_1++[sb h3,sc (zdo frs e.table e.name zcv zcv zcv)]
    cases h9:!(zbw frs e.table e.name).snd.snd
    ·exact wk At.scope_Type (p_2++[sb h9,se (zl8 frs e.table e.name zcv),se (zvx frs e.table e.name zcv)]) kr
    ·exact wk At.scope_Type (p_2++[sb h9]) kr
  ·exact wk At.scope_Type [sc (zbd e),sb h1,sb h2] kr
 ·exact wk At.scope_Type [sc (zbd e),sb h1] kr
def zdj (f:X→Int × Int):List X→Int
 | []=>zts
 | x::_=>zj9 f x
def za5:Nat→X→List Fr→List Tb→Int × Int
 | 0,_,_,_=>(0,0)
 | n+1,e,frs,tb=>ptyF (fun x=>za5 n x frs tb) (match e.sub with
  | []=>(0,0)
  | q::_=>ptqF (fun x=>za5 n x (rIns frs tb q) tb) (zdj (fun x=>za5 n x (rIns frs tb q) tb) q.wh) e q frs tb) e frs tb
theorem zgy {f:X→Int × Int} {wh:List X} {frs:List Fr} {tb:List Tb} (hf:∀ x∈wh,Pure S.scope_Type [x.av,fsl frs,tsl tb] (.tup [iv (f x).1,iv (f x).2])):Pure S.scope_Condition [xsl wh,fsl frs,tsl tb] (iv (zdj f wh)):=by
 cases wh with
 | nil=>exact ziW frs tb
 | cons x r=>exact zi8 f x r frs tb (by first|(simp;done)|(simp;omega)) (hf x (by simp))
theorem zeu:∀ (n:Nat) (e:X) (frs:List Fr) (tb:List Tb),XOk n e→FsOk n frs→TbOk tb→Pure S.scope_Type [e.av,fsl frs,tsl tb] (.tup [iv (za5 n e frs tb).1,iv (za5 n e frs tb).2])
 | 0,e,frs,tb,h,_,_=>h.elim
 | n+1,e,frs,tb,h,hf,ht=>by
  obtain ⟨_,ha,hx,hs⟩:=h
  unfold za5
  refine zmu (fun x=>za5 n x frs tb) _ e frs tb (n+1) hf (Thin.short ha.1) (fun x hx'=>zeu n x frs tb (hx x hx') hf.less ht) fun hfm h8 h12=>?_
  obtain ⟨q,hq⟩:=zmA hfm h8 h12
  obtain ⟨h1,h2,h3⟩:=hs q (by simp [hq])
  have h:=zk2 (fun x=>za5 n x (rIns frs tb q) tb) (zdj (fun x=>za5 n x (rIns frs tb q) tb) q.wh) e q frs tb (n+1) (by simp [hq]) hf ht (Thin.short h1.1) (fun x hx'=>zeu n x _ tb (h2 x hx') (hf.ins ht q) ht) (zgy fun x hx'=>zeu n x _ tb (h3 x hx') (hf.ins ht q) ht)
  rw [hq];exact h
end Go.AM
namespace Go.AM
set_option maxRecDepth 100000
set_option maxHeartbeats 1000000
set_option linter.unusedSimpArgs false
set_option linter.unusedVariables false
theorem zr4 {p:Prop} (h:p:=by first|assumption|exact hfo.short|exact hto.len|exact hto.cols):p:=h
def zhn (a b:Int):Bool :=
 bif b==0 then
  true
 else
  b==a
theorem zcR (a b:Int) :zac E0 S.scope_Assignable [iv a,iv b] [] (bv (zhn a b)) []:=by
 unfold zhn
 cases h1:b==0
 ·exact wk At.scope_Assignable [sg h1] kr
 ·exact wk At.scope_Assignable [sb h1] kr
noncomputable def L_ptsS (cond:Int) (q:Qy) (s:Sch) (ins:List Fr) (tb:List Tb) (i:Nat) (l:List Int):Cfg:=zar B.scope_Types 0 [(2,tsl tb),(3,.p 0 0),(10,fsl ins),(11,.own 2 l.length),(34,.sl (s.cols.map Col.cells)),(35,iv ((s.cols.map Col.cells).length:Nat)),(36,iv (i:Nat))] [.box q.cells,.box s.cells,.row Ty.int (l.map fun n=>[iv n]) false]
def ptsS (cond:Int) (q:Qy) (s:Sch) (ins:List Fr) (tb:List Tb):List (Col)→Nat→(List Int)→(List Int) × Int
 | [],i,l =>
  bif cond != 0 then
   ([],cond)
  else
   (l,0)
 | x::r,i,l =>
  ptsS cond q s ins tb r (i+1) (l++[x.type])
theorem zqI (cond:Int) (q:Qy) (s:Sch) (ins:List Fr) (tb:List Tb) (hs:zad s.cols) (hc:Pure S.scope_Condition [xsl q.wh,fsl ins,tsl tb] (iv cond)):∀ (kk i:Nat) (l:List Int),i+kk=(s.cols).length→(l.length≤i)→Good E0 B.scope_Types [] (L_ptsS cond q s ins tb i l) (Shut 0 fun r h=>r=(.tup [isl (ptsS cond q s ins tb ((s.cols).drop i) i l).1,iv (ptsS cond q s ins tb ((s.cols).drop i) i l).2])∧h=[]):=by
 intro kk
 induction kk with
 | zero =>
  intro i l hi ho
  have h0:decide (((i:Nat):Int) < (((s.cols.map Col.cells).length:Nat):Int))=false:=by simp;omega
  have e0:(s.cols).drop i=[]:=List.drop_of_length_le (by omega)
  rw [e0]
  simp only [ptsS]
  refine zaa ?_
  cases h1:cond != 0
  ·exact wkr [sqx (l.length=(List.map (fun n=>[iv n]) l).length∧True∧True),sb h0,sc hc,sb h1] kr
  ·exact wkr [sb h0,sc hc,sb h1] kr
 | succ kk ih =>
  intro i l hi ho
  obtain ⟨x,hx⟩:=zay (l:=s.cols) (i:=i) (by omega)
  have h0:decide (((i:Nat):Int) < (((s.cols.map Col.cells).length:Nat):Int))=true:=by simp;omega
  have hw:=zao i (by first|omega|(simp only [zad,Few] at *;omega))
  rw [zaN hx]
  simp only [ptsS]
  refine zaa ?_
  exact wkl [sb h0,se (zah Col.cells hx rfl),sqx (AllLen [[iv x.type]] 1∧l.length=(List.map (fun n=>[iv n]) l).length∧(((List.map (fun n=>[iv n]) l).length+[[iv x.type]].length) * 8).le 140737488355328),si hw] [2,3,10,11,34,35,36] 3 kr (zat (show ([(2,AV.sl (List.map Tb.cells tb)),(3,AV.p 0 0),(10,AV.sl (List.map Fr.cells ins)),(11,AV.own 2 (List.map (fun n=>[iv n]) l++[[iv x.type]]).length),(34,AV.sl (List.map Col.cells s.cols)),(35,iv (↑(List.map Col.cells s.cols).length:Int)),(36,iv (↑(i+1):Int))]:TS)=_ by first|rfl|(simp;done)|(simp [X.cells,Qy.cells,V.cells,Col.cells,Rw.cells,Tb.cells,Fr.cells,Sch.cells,Tp.cells,Pl.cells,xCol,xLit,xBin,xNeg,Ac.cells,Se.cells];done)) (show ([Blk.box [bv q.star,AV.sl (zab q.items),sv q.frm,AV.sl (zab q.wh)],Blk.box [sv s.name,AV.sl (List.map Col.cells s.cols)],Blk.row Ty.int (List.map (fun n=>[iv n]) l++[[iv x.type]]) false]:Heap)=_ by first|rfl|(simp;done)|(simp [X.cells,Qy.cells,V.cells,Col.cells,Rw.cells,Tb.cells,Fr.cells,Sch.cells,Tp.cells,Pl.cells,xCol,xLit,xBin,xNeg,Ac.cells,Se.cells];done)) (ih (i+1) (l++[x.type]) (by omega) (by first|assumption|(simp;done)|(simp;omega)|omega|(simp at *;omega))))
noncomputable def L_ptsI (f:X→Int × Int) (cond:Int) (q:Qy) (s:Sch) (ins:List Fr) (tb:List Tb) (i:Nat) (l:List Int):Cfg:=zar B.scope_Types 1 [(2,tsl tb),(3,.p 0 0),(10,fsl ins),(11,.own 2 l.length),(47,xsl q.items),(48,iv ((zab q.items).length:Nat)),(49,iv (i:Nat))] [.box q.cells,.box s.cells,.row Ty.int (l.map fun n=>[iv n]) false]
def ptsI (f:X→Int × Int) (cond:Int) (q:Qy) (s:Sch) (ins:List Fr) (tb:List Tb):List (X)→Nat→(List Int)→(List Int) × Int
 | [],i,l =>
  bif cond != 0 then
   ([],cond)
  else
   (l,0)
 | x::r,i,l =>
  bif (f x).snd != 0 then
   ([],(f x).snd)
  else
   ptsI f cond q s ins tb r (i+1) (l++[(f x).fst])
theorem zqK (f:X→Int × Int) (cond:Int) (q:Qy) (s:Sch) (ins:List Fr) (tb:List Tb) (hl:zad q.items) (hf:∀ x∈q.items,Pure S.scope_Type [x.av,fsl ins,tsl tb] (.tup [iv (f x).1,iv (f x).2])) (hc:Pure S.scope_Condition [xsl q.wh,fsl ins,tsl tb] (iv cond)):∀ (kk i:Nat) (l:List Int),i+kk=(q.items).length→(l.length≤i)→Good E0 B.scope_Types [] (L_ptsI f cond q s ins tb i l) (Shut 0 fun r h=>r=(.tup [isl (ptsI f cond q s ins tb ((q.items).drop i) i l).1,iv (ptsI f cond q s ins tb ((q.items).drop i) i l).2])∧h=[]):=by
 intro kk
 induction kk with
 | zero =>
  intro i l hi ho
  have h0:decide (((i:Nat):Int) < (((zab q.items).length:Nat):Int))=false:=by simp;omega
  have e0:(q.items).drop i=[]:=List.drop_of_length_le (by omega)
  rw [e0]
  simp only [ptsI]
  refine zaa ?_
  cases h1:cond != 0
  ·exact wkr [sqx (l.length=(List.map (fun n=>[iv n]) l).length∧True∧True),sb h0,sc hc,sb h1] kr
  ·exact wkr [sb h0,sc hc,sb h1] kr
 | succ kk ih =>
  intro i l hi ho
  obtain ⟨x,hx⟩:=zay (l:=q.items) (i:=i) (by omega)
  have h0:decide (((i:Nat):Int) < (((zab q.items).length:Nat):Int))=true:=by simp;omega
  have hw:=zao i (by first|omega|(simp only [zad,Few] at *;omega))
  have hfx:=hf x (List.mem_of_getElem? hx)
  rw [zaN hx]
  simp only [ptsI]
  refine zaa ?_
  cases h1:(f x).snd != 0
  ·exact wkl [sb h0,se (zbv hx),sc hfx,sb h1,sqx (AllLen [[iv (f x).fst]] 1∧l.length=(List.map (fun n=>[iv n]) l).length∧(((List.map (fun n=>[iv n]) l).length+[[iv (f x).fst]].length) * 8).le 140737488355328),si hw] [2,3,10,11,47,48,49] 3 kr (zat (show ([(2,AV.sl (List.map Tb.cells tb)),(3,AV.p 0 0),(10,AV.sl (List.map Fr.cells ins)),(11,AV.own 2 (List.map (fun n=>[iv n]) l++[[iv (f x).fst]]).length),(47,AV.sl (zab q.items)),(48,iv (↑(zab q.items).length:Int)),(49,iv (↑(i+1):Int))]:TS)=_ by first|rfl|(simp;done)|(simp [X.cells,Qy.cells,V.cells,Col.cells,Rw.cells,Tb.cells,Fr.cells,Sch.cells,Tp.cells,Pl.cells,xCol,xLit,xBin,xNeg,Ac.cells,Se.cells];done)) (show ([Blk.box [bv q.star,AV.sl (zab q.items),sv q.frm,AV.sl (zab q.wh)],Blk.box [sv s.name,AV.sl (List.map Col.cells s.cols)],Blk.row Ty.int (List.map (fun n=>[iv n]) l++[[iv (f x).fst]]) false]:Heap)=_ by first|rfl|(simp;done)|(simp [X.cells,Qy.cells,V.cells,Col.cells,Rw.cells,Tb.cells,Fr.cells,Sch.cells,Tp.cells,Pl.cells,xCol,xLit,xBin,xNeg,Ac.cells,Se.cells];done)) (ih (i+1) (l++[(f x).fst]) (by omega) (by first|assumption|(simp;done)|(simp;omega)|omega|(simp at *;omega))))
  ·exact wkr [sb h0,se (zbv hx),sc hfx,sb h1] kr
def pTys (f:X→Int × Int) (cond:Int) (q:Qy) (frs:List Fr) (tb:List Tb):(List Int) × Int :=
 bif !(zap tb q.frm).snd then
  ([],3)
 else
  bif q.star then
   ptsS cond q (zap tb q.frm).1 (zas frs (zap tb q.frm).1 []) tb (zap tb q.frm).1.cols 0 ([])
  else
   ptsI f cond q (zap tb q.frm).1 (zas frs (zap tb q.frm).1 []) tb q.items 0 ([])
theorem znU (f:X→Int × Int) (cond:Int) (q:Qy) (frs:List Fr) (tb:List Tb) (n:Nat) (hfo:FsOk n frs) (hto:TbOk tb) (hl:zad q.items) (hs:zad (zap tb q.frm).1.cols) (hf:∀ x∈q.items,Pure S.scope_Type [x.av,fsl (zas frs (zap tb q.frm).1 []),tsl tb] (.tup [iv (f x).1,iv (f x).2])) (hc:Pure S.scope_Condition [xsl q.wh,fsl (zas frs (zap tb q.frm).1 []),tsl tb] (iv cond)):zac E0 S.scope_Types [q.av,fsl frs,tsl tb] [] (.tup [isl (pTys f cond q frs tb).1,iv (pTys f cond q frs tb).2]) []:=by
 unfold pTys
 let p_1:List St:=[sc (ze3 tb q.frm zr4 zr4)]
 cases h1:!(zap tb q.frm).snd
 ·let p_2:List St:=p_1++[sb h1,sc (zif frs ((zap tb q.frm).fst) zr4)]
  cases h2:q.star
  ·exact wkcN At.scope_Types (p_2++[sb h2]) [2,3,10,11,47,48,49] 2 [(.ot 11 Ty.int,3)] kr (by have ih:=zqK f cond q (zap tb q.frm).1 (zas frs (zap tb q.frm).1 []) tb hl hf hc q.items.length 0 ([]) (by simp) (by simp);exact ih)
  ·exact wkcN At.scope_Types (p_2++[sb h2]) [2,3,10,11,34,35,36] 2 [(.ot 11 Ty.int,3)] kr (by have ih:=zqI cond q (zap tb q.frm).1 (zas frs (zap tb q.frm).1 []) tb hs hc (zap tb q.frm).1.cols.length 0 ([]) (by simp) (by simp);exact ih)
 ·exact wk At.scope_Types (p_1++[sb h1]) kr
def zeN (c:Col) (e:X) (frs:List Fr) (tb:List Tb) (ty:Int × Int):Int :=
 bif ty.snd==0 then
  bif !zhn c.type ty.fst then
   5
  else
   ty.snd
 else
  ty.snd
theorem zdw (c:Col) (e:X) (frs:List Fr) (tb:List Tb) (ty:Int × Int) (h:Pure S.scope_Type [e.av,fsl frs,tsl tb] (.tup [iv ty.1,iv ty.2])):zac E0 S.dml_assign [.agg c.cells,e.av,fsl frs,tsl tb] [] (iv (zeN c e frs tb ty)) []:=by
 unfold zeN
 cases h1:ty.snd==0
 ·exact wk At.dml_assign [sc h,sb h1] kr
 ·let p_1:List St:=[sc h,sg h1,sc (zcR c.type ty.fst)]
  cases h2:!zhn c.type ty.fst
  ·exact wk At.dml_assign (p_1++[sb h2]) kr
  ·exact wk At.dml_assign (p_1++[sb h2]) kr
theorem zpY (fr:List Fr) (s:Sch) (v:List V) (h2:zad fr):∃ (r:List Fr),r=zas fr s v∧zac E0 S.dml_inside [fsl fr,s.av,vsl v] [] (fsl r) []:=by
 exact ⟨fr++[Fr.mk s.name false s.cols v],(by rfl),(by (try simp only [X.av,Qy.av,V.av,Tb.av,Sch.av,Pl.av,xsl,fsl,vsl,tsl,List.map_append,List.map_cons,List.map_nil,V.cells,Col.cells,Rw.cells,Tb.cells,Fr.cells,Sch.cells,Pl.cells,za7,zaO,zaU,zaS,za0,X.cells,Qy.cells,X.args_mk,X.sub_mk,Qy.items_mk,Qy.wh_mk,xCol,xLit,xBin,xNeg,Ac.cells,Se.cells]);exact wk At.dml_inside [sqx ((List.map Fr.cells fr++[[sv s.name,bv false,AV.sl (List.map Col.cells s.cols),AV.sl (List.map V.cells v)]]).length=(List.map Fr.cells fr++[[sv s.name,bv false,AV.sl (List.map Col.cells s.cols),AV.sl (List.map V.cells v)]]).length),sd [(1,[sc (zc8 fr (by first|assumption|omega|(simp;done)|(simp;omega)))]),(9,[sqx (AllLen [[sv s.name,bv false,AV.sl (List.map Col.cells s.cols),AV.sl (List.map V.cells v)]] 4∧fr.length=(List.map Fr.cells fr).length∧(((List.map Fr.cells fr).length+[[sv s.name,bv false,AV.sl (List.map Col.cells s.cols),AV.sl (List.map V.cells v)]].length) * 72).le 140737488355328)])]] kr)⟩
theorem zeI (fr:List Fr) (s:Sch) (v:List V) (h2:zad fr):zac E0 S.dml_inside [fsl fr,s.av,vsl v] [] (fsl (zas fr s v)) []:=by
 obtain ⟨r,rfl,h⟩:=zpY fr s v h2
 exact h
end Go.AM
namespace Go.AM
set_option maxRecDepth 100000
set_option maxHeartbeats 1000000
set_option linter.unusedSimpArgs false
set_option linter.unusedVariables false
theorem zpZ {p:Prop} (h:p:=by first|(have h1:=zlD ‹List.all (List.take _ a.rows) _=true›;have h2:=zlD ‹List.all (List.take _ a.query) _=true›;simp only [zfh,h1,h2];simp;done)|(have h1:=And.right ‹_≠(0:Int)∧List.all a.rows _=false›;have h2:=And.left ‹_≠(0:Int)∧List.all a.rows _=false›;simp only [zfh,h1];simp [h2];done)|(have h1:=And.right ‹_≠(0:Int)∧List.all a.query _=false›;have h2:=And.left ‹_≠(0:Int)∧List.all a.query _=false›;simp only [zfh,h1];simp [h2];done)):p:=h
theorem zfL {p:Prop} (h:p:=by first|assumption|omega|(simp only [bne_eq_false_iff_eq,zbs,List.length_map] at *;omega)|(simp;done)):p:=h
theorem zd3 {p:Prop} (h:p:=by first|assumption|omega|(simp;done)|(simp;omega)):p:=h
theorem zpV {p:Prop} (h:p:=by first|exact ⟨by simpa using ‹((qt _).2 != 0)=true›,zb0 hx (qTy_e (by assumption))⟩|exact ⟨by omega,zb0 hx (zvk (by assumption))⟩|exact ⟨(And.left ‹_≠(0:Int)∧_›),zb0 hx (qTy_no (And.right ‹_≠(0:Int)∧_›))⟩):p:=h
theorem zmr {p:Prop} (h:p:=by first|omega|(simp only [zad,Few] at *;omega)):p:=h
abbrev PTy (ty:X→Int × Int) (x:X) (frs:List Fr) (tb:List Tb):Prop:=Pure S.scope_Type [x.av,fsl frs,tsl tb] (.tup [iv (ty x).1,iv (ty x).2])
def exOk (ty:X→Int × Int) (frs:List Fr) (tb:List Tb) (p:Col × X):Bool:=!(zeN p.1 p.2 frs tb (ty p.2) != 0)
def zdP (ty:X→Int × Int) (frs:List Fr) (tb:List Tb) (s:Sch) (r:List X):Bool:=decide (r.length=s.cols.length)&&(s.cols.zip r).all (exOk ty frs tb)
theorem ztT {s:Sch} {y:List X} {i:Nat} {c:Col} {x:X} (h1:s.cols[i]?=some c) (h2:y[i]?=some x):(s.cols.zip y)[i]?=some (c,x):=by
 rw [List.getElem?_zip_eq_some];exact ⟨h1,h2⟩
theorem znm {ty:X→Int × Int} {frs:List Fr} {tb:List Tb} {s:Sch} {r:List X} (h:(((zab r).length:Int) != ((s.cols.map Col.cells).length:Int))=true):zdP ty frs tb s r=false:=by
 simp at h;simp [zdP];omega
theorem zpz {ty:X→Int × Int} {frs:List Fr} {tb:List Tb} {s:Sch} {r:List X} (h:(s.cols.zip r).all (exOk ty frs tb)=false):zdP ty frs tb s r=false:=by
 simp only [zdP,h,Bool.and_false]
theorem zuc {ty:X→Int × Int} {frs:List Fr} {tb:List Tb} {s:Sch} {r:List X} (h1:(((zab r).length:Int) != ((s.cols.map Col.cells).length:Int))=false) (h:((s.cols.zip r).take r.length).all (exOk ty frs tb)=true):zdP ty frs tb s r=true:=by
 have h2:r.length=s.cols.length:=by simp at h1;omega
 rw [List.take_of_length_le (by simp;omega)] at h
 simp only [zdP,h,h2,decide_true,Bool.and_self]
noncomputable def zsp (a:Ac) (s:Sch) (frs:List Fr) (tb:List Tb) (ty:X→Int × Int) (io:Nat) (y:List X) (i:Nat) :Cfg:=zar B.dml_checkInsert 1 [(2,fsl frs),(3,tsl tb),(4,.p 0 0),(5,.p 1 0),(21,.sl (a.rows.map zaH)),(22,iv ((a.rows.map zaH).length:Nat)),(23,iv (io:Nat)),(33,xsl y),(34,iv ((zab y).length:Nat)),(35,iv (i:Nat))] [.box a.cells,.box s.cells]
theorem zfC (a:Ac) (s:Sch) (frs:List Fr) (tb:List Tb) (ty:X→Int × Int) (io:Nat) (y:List X) (hy:zad y) (hty:∀ x∈y,PTy ty x frs tb) (hlen:y.length=s.cols.length) (i:Nat)  (hi:i≤(y).length) (hI:((s.cols.zip y).take i).all (exOk ty frs tb)=true):((((s.cols.zip y).take (y).length).all (exOk ty frs tb)=true)∧(decide ((((y).length:Nat):Int) < (((zab y).length:Nat):Int))=false)∧∀ R,Good E0 B.dml_checkInsert [] (zsp a s frs tb ty io y (y).length ) R→Good E0 B.dml_checkInsert [] (zsp a s frs tb ty io y i ) R)∨(∃ (r:Int),(r≠0∧(s.cols.zip y).all (exOk ty frs tb)=false)∧Good E0 B.dml_checkInsert [] (zsp a s frs tb ty io y i ) (Shut 0 fun rZ hZ=>rZ=(iv r)∧hZ=[])):=by
 obtain ⟨kk,hk⟩:∃ kk,i+kk=(y).length:=⟨(y).length - i,by omega⟩
 induction kk generalizing i  with
 | zero =>
  have e0:i=(y).length:=by omega
  subst e0
  exact .inl ⟨hI,by simp,fun R hg=>hg⟩
 | succ kk ih =>
  obtain ⟨x,hx⟩:=zay (l:=y) (i:=i) (by omega)
  have h0:decide (((i:Nat):Int) < (((zab y).length:Nat):Int))=true:=by simp;omega
  have hw:IntKind.i64.wrap (((i:Nat):Int)+1)=((i+1:Nat):Int):=zao i zmr
  have hx1:=hty x (List.mem_of_getElem? hx)
  obtain ⟨x1,e1⟩:=zay (l:=s.cols) (i:=i) zd3
  let p_1:List St:=[sb h0,se (zbv hx),sd [(3,[se (zah Col.cells e1 rfl)]),(8,[sc (zdw x1 x frs tb (ty x) hx1)])]]
  cases h2:zeN x1 x frs tb (ty x) != 0
  ·exact (ih (i+1) (by omega) (by exact zcK hI (ztT ‹s.cols[_]?=some _› hx) (by simp only [exOk, *];rfl)) (by omega)).elim (fun ⟨qZ,xZ,gZ⟩=>.inl ⟨qZ,xZ,fun R hg=>zaa (wkl (p_1++[sb h2,si hw]) [2,3,4,5,21,22,23,33,34,35] 2 kr (gZ R hg))⟩) (fun ⟨rY,pZ,gZ⟩=>.inr ⟨rY,pZ,zaa (wkl [sb h0,se (zbv hx),sd [(3,[se (zah Col.cells e1 rfl)]),(8,[sc (zdw x1 x frs tb (ty x) hx1)])],sb h2,si hw] [2,3,4,5,21,22,23,33,34,35] 2 kr gZ)⟩)
  ·exact .inr ⟨zeN x1 x frs tb (ty x),(by exact ⟨by simpa using ‹(zeN _ _ _ _ _ != 0)=true›,zb0 (ztT ‹s.cols[_]?=some _› hx) (by simp only [exOk, *];rfl)⟩),zaa (wkr (p_1++[sb h2]) kr)⟩
noncomputable def zr9 (a:Ac) (s:Sch) (frs:List Fr) (tb:List Tb) (ty:X→Int × Int) (i:Nat) :Cfg:=zar B.dml_checkInsert 0 [(2,fsl frs),(3,tsl tb),(4,.p 0 0),(5,.p 1 0),(21,.sl (a.rows.map zaH)),(22,iv ((a.rows.map zaH).length:Nat)),(23,iv (i:Nat))] [.box a.cells,.box s.cells]
theorem zfQ (a:Ac) (s:Sch) (frs:List Fr) (tb:List Tb) (ty:X→Int × Int) (hs:zad s.cols) (hr:zad a.rows) (hty:∀ r∈a.rows,zad r∧∀ x∈r,PTy ty x frs tb) (i:Nat)  (hi:i≤(a.rows).length) (hI:(a.rows.take i).all (zdP ty frs tb s)=true):(((a.rows.take (a.rows).length).all (zdP ty frs tb s)=true)∧(decide ((((a.rows).length:Nat):Int) < (((a.rows.map zaH).length:Nat):Int))=false)∧∀ R,Good E0 B.dml_checkInsert [] (zr9 a s frs tb ty (a.rows).length ) R→Good E0 B.dml_checkInsert [] (zr9 a s frs tb ty i ) R)∨(∃ (r:Int),(r≠0∧a.rows.all (zdP ty frs tb s)=false)∧Good E0 B.dml_checkInsert [] (zr9 a s frs tb ty i ) (Shut 0 fun rZ hZ=>rZ=(iv r)∧hZ=[])):=by
 obtain ⟨kk,hk⟩:∃ kk,i+kk=(a.rows).length:=⟨(a.rows).length - i,by omega⟩
 induction kk generalizing i  with
 | zero =>
  have e0:i=(a.rows).length:=by omega
  subst e0
  exact .inl ⟨hI,by simp,fun R hg=>hg⟩
 | succ kk ih =>
  obtain ⟨x,hx⟩:=zay (l:=a.rows) (i:=i) (by omega)
  have h0:decide (((i:Nat):Int) < (((a.rows.map zaH).length:Nat):Int))=true:=by simp;omega
  have hw:IntKind.i64.wrap (((i:Nat):Int)+1)=((i+1:Nat):Int):=zao i zmr
  have hx1:=(hty x (List.mem_of_getElem? hx)).1;have hx2:=(hty x (List.mem_of_getElem? hx)).2
  cases h1:(↑(zab x).length:Int) != (↑(List.map Col.cells s.cols).length:Int)
  ·rcases zfC a s frs tb ty i x zfL hx2 zfL 0 zfL zfL with ⟨q2,q2_1,g2⟩|⟨r2_0,p2_0,g2⟩
   ·exact (ih (i+1) (by omega) (by exact zcK hI hx (zuc (by assumption) (by assumption))) (by omega)).elim (fun ⟨qZ,xZ,gZ⟩=>.inl ⟨qZ,xZ,fun R hg=>zaa (wkl [sb h0,se (zah zaH hx rfl),sb h1] [2,3,4,5,21,22,23,33,34,35] 2 kr (g2 _ (zaa (wkl [sb q2_1,si hw] [2,3,4,5,21,22,23] 2 kr (gZ R hg)))))⟩) (fun ⟨rY,pZ,gZ⟩=>.inr ⟨rY,pZ,zaa (wkl [sb h0,se (zah zaH hx rfl),sb h1] [2,3,4,5,21,22,23,33,34,35] 2 kr (g2 _ (zaa (wkl [sb q2_1,si hw] [2,3,4,5,21,22,23] 2 kr gZ))))⟩)
   ·exact .inr ⟨r2_0,(by first|exact ⟨by omega,zb0 hx (znm (by assumption))⟩|exact ⟨(And.left ‹_≠(0:Int)∧_›),zb0 hx (zpz (And.right ‹_≠(0:Int)∧_›))⟩),zaa (wkl [sb h0,se (zah zaH hx rfl),sb h1] [2,3,4,5,21,22,23,33,34,35] 2 kr g2)⟩
  ·exact .inr ⟨5,(by first|exact ⟨by omega,zb0 hx (znm (by assumption))⟩|exact ⟨(And.left ‹_≠(0:Int)∧_›),zb0 hx (zpz (And.right ‹_≠(0:Int)∧_›))⟩),zaa (wkr [sb h0,se (zah zaH hx rfl),sb h1] kr)⟩
abbrev PTs (qt:Qy→List Int × Int) (q:Qy) (frs:List Fr) (tb:List Tb):Prop:=Pure S.scope_Types [q.av,fsl frs,tsl tb] (.tup [isl (qt q).1,iv (qt q).2])
def asOk (p:Col × Int):Bool:=zhn p.1.type p.2
def qTy (qt:Qy→List Int × Int) (s:Sch) (q:Qy):Bool:=!((qt q).2 != 0)&&(decide ((qt q).1.length=s.cols.length)&&(s.cols.zip (qt q).1).all asOk)
theorem zq2 {s:Sch} {y:List Int} {i:Nat} {c:Col} {x:Int} (h1:s.cols[i]?=some c) (h2:y[i]?=some x):(s.cols.zip y)[i]?=some (c,x):=by
 rw [List.getElem?_zip_eq_some];exact ⟨h1,h2⟩
theorem qTy_e {qt:Qy→List Int × Int} {s:Sch} {q:Qy} (h:((qt q).2 != 0)=true):qTy qt s q=false:=by simp only [qTy,h];rfl
theorem zvk {qt:Qy→List Int × Int} {s:Sch} {q:Qy} (h:(((((qt q).1.map fun n=>[iv n]):List (List AV)).length:Int) != ((s.cols.map Col.cells).length:Int))=true):qTy qt s q=false:=by
 simp at h;simp [qTy];omega
theorem qTy_no {qt:Qy→List Int × Int} {s:Sch} {q:Qy} (h:(s.cols.zip (qt q).1).all asOk=false):qTy qt s q=false:=by
 simp only [qTy,h,Bool.and_false]
theorem qTy_ok {qt:Qy→List Int × Int} {s:Sch} {q:Qy} (h0:((qt q).2 != 0)=false) (h1:(((((qt q).1.map fun n=>[iv n]):List (List AV)).length:Int) != ((s.cols.map Col.cells).length:Int))=false) (h:((s.cols.zip (qt q).1).take (qt q).1.length).all asOk=true):qTy qt s q=true:=by
 have h2:(qt q).1.length=s.cols.length:=by simp at h1;omega
 rw [List.take_of_length_le (by simp;omega)] at h
 simp only [qTy,h,h0,h2,decide_true,Bool.and_self];rfl
noncomputable def zsd (a:Ac) (s:Sch) (frs:List Fr) (tb:List Tb) (io:Nat) (y:List Int) (i:Nat) :Cfg:=zar B.dml_checkInsert 3 [(2,fsl frs),(3,tsl tb),(5,.p 1 0),(55,.sl (zaf a.query)),(56,iv ((zaf a.query).length:Nat)),(57,iv (io:Nat)),(79,isl y),(80,iv ((y.map fun n=>[iv n]).length:Nat)),(81,iv (i:Nat))] [.box a.cells,.box s.cells]
theorem zfN (a:Ac) (s:Sch) (frs:List Fr) (tb:List Tb) (io:Nat) (y:List Int) (hy:zad y) (hlen:y.length=s.cols.length) (i:Nat)  (hi:i≤(y).length) (hI:((s.cols.zip y).take i).all asOk=true):((((s.cols.zip y).take (y).length).all asOk=true)∧(decide ((((y).length:Nat):Int) < (((y.map fun n=>[iv n]).length:Nat):Int))=false)∧∀ R,Good E0 B.dml_checkInsert [] (zsd a s frs tb io y (y).length ) R→Good E0 B.dml_checkInsert [] (zsd a s frs tb io y i ) R)∨(∃ (r:Int),(r≠0∧(s.cols.zip y).all asOk=false)∧Good E0 B.dml_checkInsert [] (zsd a s frs tb io y i ) (Shut 0 fun rZ hZ=>rZ=(iv r)∧hZ=[])):=by
 obtain ⟨kk,hk⟩:∃ kk,i+kk=(y).length:=⟨(y).length - i,by omega⟩
 induction kk generalizing i  with
 | zero =>
  have e0:i=(y).length:=by omega
  subst e0
  exact .inl ⟨hI,by simp,fun R hg=>hg⟩
 | succ kk ih =>
  obtain ⟨x,hx⟩:=zay (l:=y) (i:=i) (by omega)
  have h0:decide (((i:Nat):Int) < (((y.map fun n=>[iv n]).length:Nat):Int))=true:=by simp;omega
  have hw:IntKind.i64.wrap (((i:Nat):Int)+1)=((i+1:Nat):Int):=zao i zmr
  obtain ⟨x1,e1⟩:=zay (l:=s.cols) (i:=i) zd3
  cases h2:!zhn x1.type x
  ·exact (ih (i+1) (by omega) (by exact zcK hI (zq2 ‹s.cols[_]?=some _› hx) (by simp only [asOk, *];simp_all)) (by omega)).elim (fun ⟨qZ,xZ,gZ⟩=>.inl ⟨qZ,xZ,fun R hg=>zaa (wkl [sb h0,se (zah (fun n=>[iv n]) hx rfl),se (zah Col.cells e1 rfl),sc (zcR x1.type x),sb h2,si hw] [2,3,5,55,56,57,79,80,81] 2 kr (gZ R hg))⟩) (fun ⟨rY,pZ,gZ⟩=>.inr ⟨rY,pZ,zaa (wkl [sb h0,se (zah (fun n=>[iv n]) hx rfl),se (zah Col.cells e1 rfl),sc (zcR x1.type x),sb h2,si hw] [2,3,5,55,56,57,79,80,81] 2 kr gZ)⟩)
  ·exact .inr ⟨5,(by exact ⟨by omega,zb0 (zq2 ‹s.cols[_]?=some _› hx) (by simp only [asOk, *];simp_all)⟩),zaa (wkr [sb h0,se (zah (fun n=>[iv n]) hx rfl),se (zah Col.cells e1 rfl),sc (zcR x1.type x),sb h2] kr)⟩
noncomputable def zrR (a:Ac) (s:Sch) (frs:List Fr) (tb:List Tb) (qt:Qy→List Int × Int) (i:Nat) :Cfg:=zar B.dml_checkInsert 2 [(2,fsl frs),(3,tsl tb),(5,.p 1 0),(55,.sl (zaf a.query)),(56,iv ((zaf a.query).length:Nat)),(57,iv (i:Nat))] [.box a.cells,.box s.cells]
theorem zfw (a:Ac) (s:Sch) (frs:List Fr) (tb:List Tb) (qt:Qy→List Int × Int) (hs:zad s.cols) (hq:zad a.query) (hty:∀ q∈a.query,zad (qt q).1∧PTs qt q frs tb) (i:Nat)  (hi:i≤(a.query).length) (hI:(a.query.take i).all (qTy qt s)=true):(((a.query.take (a.query).length).all (qTy qt s)=true)∧(decide ((((a.query).length:Nat):Int) < (((zaf a.query).length:Nat):Int))=false)∧∀ R,Good E0 B.dml_checkInsert [] (zrR a s frs tb qt (a.query).length ) R→Good E0 B.dml_checkInsert [] (zrR a s frs tb qt i ) R)∨(∃ (r:Int),(r≠0∧a.query.all (qTy qt s)=false)∧Good E0 B.dml_checkInsert [] (zrR a s frs tb qt i ) (Shut 0 fun rZ hZ=>rZ=(iv r)∧hZ=[])):=by
 obtain ⟨kk,hk⟩:∃ kk,i+kk=(a.query).length:=⟨(a.query).length - i,by omega⟩
 induction kk generalizing i  with
 | zero =>
  have e0:i=(a.query).length:=by omega
  subst e0
  exact .inl ⟨hI,by simp,fun R hg=>hg⟩
 | succ kk ih =>
  obtain ⟨x,hx⟩:=zay (l:=a.query) (i:=i) (by omega)
  have h0:decide (((i:Nat):Int) < (((zaf a.query).length:Nat):Int))=true:=by simp;omega
  have hw:IntKind.i64.wrap (((i:Nat):Int)+1)=((i+1:Nat):Int):=zao i zmr
  have hx1:=(hty x (List.mem_of_getElem? hx)).1;have hx2:=(hty x (List.mem_of_getElem? hx)).2
  cases h1:(qt x).snd != 0
  ·cases h2:(↑(List.map (fun n=>[iv n]) (qt x).fst).length:Int) != (↑(List.map Col.cells s.cols).length:Int)
   ·rcases zfN a s frs tb i ((qt x).fst) zfL zfL 0 zfL zfL with ⟨q3,q3_1,g3⟩|⟨r3_0,p3_0,g3⟩
    ·exact (ih (i+1) (by omega) (by exact zcK hI hx (qTy_ok (by assumption) (by assumption) (by assumption))) (by omega)).elim (fun ⟨qZ,xZ,gZ⟩=>.inl ⟨qZ,xZ,fun R hg=>zaa (wkl [sb h0,se (zaR hx),sc hx2,sb h1,sb h2] [2,3,5,55,56,57,79,80,81] 2 kr (g3 _ (zaa (wkl [sb q3_1,si hw] [2,3,5,55,56,57] 2 kr (gZ R hg)))))⟩) (fun ⟨rY,pZ,gZ⟩=>.inr ⟨rY,pZ,zaa (wkl [sb h0,se (zaR hx),sc hx2,sb h1,sb h2] [2,3,5,55,56,57,79,80,81] 2 kr (g3 _ (zaa (wkl [sb q3_1,si hw] [2,3,5,55,56,57] 2 kr gZ))))⟩)
    ·exact .inr ⟨r3_0,zpV,zaa (wkl [sb h0,se (zaR hx),sc hx2,sb h1,sb h2] [2,3,5,55,56,57,79,80,81] 2 kr g3)⟩
   ·exact .inr ⟨5,zpV,zaa (wkr [sb h0,se (zaR hx),sc hx2,sb h1,sb h2] kr)⟩
  ·exact .inr ⟨(qt x).snd,zpV,zaa (wkr [sb h0,se (zaR hx),sc hx2,sb h1] kr)⟩
def zfh (ty:X→Int × Int) (qt:Qy→List Int × Int) (frs:List Fr) (tb:List Tb) (s:Sch) (a:Ac):Bool:=a.rows.all (zdP ty frs tb s)&&a.query.all (qTy qt s)
theorem zlD {α:Type} {f:α→Bool} {l:List α} (h:(l.take l.length).all f=true):l.all f=true:=by rwa [List.take_length] at h
theorem zk1 (a:Ac) (s:Sch) (frs:List Fr) (tb:List Tb) (ty:X→Int × Int) (qt:Qy→List Int × Int) (hs:zad s.cols) (hr:zad a.rows) (hq:zad a.query) (hty:∀ r∈a.rows,zad r∧∀ x∈r,PTy ty x frs tb) (htq:∀ q∈a.query,zad (qt q).1∧PTs qt q frs tb):∃ (r:Int),(r=0↔zfh ty qt frs tb s a=true)∧zac E0 S.dml_checkInsert [a.av,s.av,fsl frs,tsl tb] [] (iv r) []:=by
 rcases zfQ a s frs tb ty zd3 zd3 hty 0 zd3 zd3 with ⟨q1,q1_1,g1⟩|⟨r1_0,p1_0,g1⟩
 ·rcases zfw a s frs tb qt zd3 zd3 htq 0 zd3 zd3 with ⟨q2,q2_1,g2⟩|⟨r2_0,p2_0,g2⟩
  ·exact ⟨0,zpZ,wkc At.dml_checkInsert [] [2,3,4,5,21,22,23] 2 kr (g1 _ (zaa (wkl [sb q1_1] [2,3,5,55,56,57] 2 kr (g2 _ (zaa (wkr [sb q2_1] kr))))))⟩
  ·exact ⟨r2_0,zpZ,wkc At.dml_checkInsert [] [2,3,4,5,21,22,23] 2 kr (g1 _ (zaa (wkl [sb q1_1] [2,3,5,55,56,57] 2 kr g2)))⟩
 ·exact ⟨r1_0,zpZ,wkc At.dml_checkInsert [] [2,3,4,5,21,22,23] 2 kr (g1)⟩
end Go.AM
namespace Go.AM
set_option maxRecDepth 100000
set_option maxHeartbeats 1000000
set_option linter.unusedSimpArgs false
set_option linter.unusedVariables false
theorem zpQ {p:Prop} (h:p:=by first|(unfold zob;rw [show (a.kind==1)=true by assumption];exact hci)|(unfold zob;rw [show (a.kind==1)=false by assumption];first|(have h1:=zlD ‹List.all (List.take _ a.sets) _=true›;simp only [cond_false,h1];simp;done)|(have h1:=And.right ‹_≠(0:Int)∧List.all a.sets _=false›;have h2:=And.left ‹_≠(0:Int)∧List.all a.sets _=false›;simp only [cond_false,h1];simp [h2];done))):p:=h
theorem zdi {p:Prop} (h:p:=by first|assumption|omega|(simp;done)|(simp;omega)):p:=h
def tgt (a:Ac) (b:Bool) (tb:List Tb):Sch × Int :=
 bif !b then
  (Sch.mk (ByteArray.mk #[]) [],17)
 else
  bif !(zap tb a.table).snd then
   (Sch.mk (ByteArray.mk #[]) [],3)
  else
   ((zap tb a.table).fst,0)
theorem zoJ (a:Ac) (b:Bool) (tb:List Tb) (hk1:decide (a.kind < (1:Int))=false) (hk2:decide ((3:Int) < a.kind)=false) (h2:zad tb) (h3:∀ x∈tb,zad x.sch.cols) (hv:zac E0 S.syntax_ValidAction [a.av] [] (bv b) []):zac E0 S.dml_target [a.av,tsl tb] [] (.tup [(tgt a b tb).1.av,iv (tgt a b tb).2]) []:=by
 unfold tgt
 cases h1:!b
 ·let p_1:List St:=[sg hk1,sg hk2,sc hv,sb h1,sc (ze3 tb a.table zdi zdi)]
  cases h2:!(zap tb a.table).snd
  ·exact wk At.dml_target (p_1++[sb h2]) kr
  ·exact wk At.dml_target (p_1++[sb h2]) kr
 ·exact wk At.dml_target [sg hk1,sg hk2,sc hv,sb h1] kr
theorem zvL {α:Type} {p:α→Bool} {l:List α} {x:α} (h:AtI l (idxF p l 0) x):l.find? p=some x:=by
 obtain ⟨h0,h1⟩:=h
 rcases zdI p l 0 with ⟨h2,_⟩|⟨j,y,h2,h3,h4⟩
 ·omega
 ·rw [h2] at h1
  have:((0+j:Nat):Int).toNat=j:=by omega
  rw [this,h3] at h1
  cases h1
  exact h4
theorem zt4 {α:Type} {p:α→Bool} {l:List α} (h:decide (idxF p l 0 < 0)=true):l.find? p=none:=by
 rcases zdI p l 0 with ⟨_,h2⟩|⟨j,y,h2,h3,h4⟩
 ·exact h2
 ·simp only [decide_eq_true_eq] at h;omega
theorem ztI {α:Type} {p:α→Bool} {l:List α} (h:decide (idxF p l 0 < 0)=false):0≤idxF p l 0∧idxF p l 0 < ((l.length:Nat):Int):=by
 simp only [decide_eq_false_iff_not] at h
 have:=zmX p l 0
 exact ⟨by omega,by rcases this with h|h <;> omega⟩
def colF (s:Sch) (n:Str):Option Col:=s.cols.find? fun c=>colC c n
def zfk (ty:X→Int × Int) (frs:List Fr) (tb:List Tb) (s:Sch) (x:Se):Bool:=match colF s x.col with
 | none=>false
 | some c=>exOk ty frs tb (c,x.ex)
theorem zoR {ty:X→Int × Int} {frs:List Fr} {tb:List Tb} {s:Sch} {x:Se} (h:decide (idxF (fun c=>colC c x.col) s.cols 0 < 0)=true):zfk ty frs tb s x=false:=by
 unfold zfk colF;rw [zt4 h]
theorem ziL {ty:X→Int × Int} {frs:List Fr} {tb:List Tb} {s:Sch} {x:Se} {c:Col} (h:AtI s.cols (idxF (fun c=>colC c x.col) s.cols 0) c):zfk ty frs tb s x=exOk ty frs tb (c,x.ex):=by
 unfold zfk colF;rw [zvL h]
noncomputable def zsZ (a:Ac) (s:Sch) (frs:List Fr) (tb:List Tb) (ty:X→Int × Int) (i:Nat) :Cfg:=zar B.dml_Check 0 [(2,tsl tb),(3,.p 0 0),(7,.p 1 0),(9,fsl frs),(35,.sl (a.sets.map Se.cells)),(36,iv ((a.sets.map Se.cells).length:Nat)),(37,iv (i:Nat))] [.box a.cells,.box s.cells]
theorem zhW (a:Ac) (s:Sch) (frs:List Fr) (tb:List Tb) (ty:X→Int × Int) (hs:zad s.cols) (hr:zad a.sets) (hty:∀ x∈a.sets,PTy ty x.ex frs tb) (i:Nat)  (hi:i≤(a.sets).length) (hI:(a.sets.take i).all (zfk ty frs tb s)=true):(((a.sets.take (a.sets).length).all (zfk ty frs tb s)=true)∧(decide ((((a.sets).length:Nat):Int) < (((a.sets.map Se.cells).length:Nat):Int))=false)∧∀ R,Good E0 B.dml_Check [] (zsZ a s frs tb ty (a.sets).length ) R→Good E0 B.dml_Check [] (zsZ a s frs tb ty i ) R)∨(∃ (r:Int),(r≠0∧a.sets.all (zfk ty frs tb s)=false)∧Good E0 B.dml_Check [] (zsZ a s frs tb ty i ) (Shut 0 fun rZ hZ=>rZ=(iv r)∧hZ=[])):=by
 obtain ⟨kk,hk⟩:∃ kk,i+kk=(a.sets).length:=⟨(a.sets).length - i,by omega⟩
 induction kk generalizing i  with
 | zero =>
  have e0:i=(a.sets).length:=by omega
  subst e0
  exact .inl ⟨hI,by simp,fun R hg=>hg⟩
 | succ kk ih =>
  obtain ⟨x,hx⟩:=zay (l:=a.sets) (i:=i) (by omega)
  have h0:decide (((i:Nat):Int) < (((a.sets.map Se.cells).length:Nat):Int))=true:=by simp;omega
  have hw:IntKind.i64.wrap (((i:Nat):Int)+1)=((i+1:Nat):Int):=zao i (by first|omega|(simp only [zad,Few] at *;omega))
  have hx1:=hty x (List.mem_of_getElem? hx)
  cases h1:decide (idxF (fun c=>colC c x.col) s.cols 0 < 0)
  ·obtain ⟨x2,e2⟩:=zit (l:=s.cols) (i:=idxF (fun c=>colC c x.col) s.cols (0:Nat)) (by exact ztI (by assumption))
   cases h3:zeN x2 x.ex frs tb (ty x.ex) != 0
   ·exact (ih (i+1) (by omega) (by exact zcK hI hx (by rw [ziL (by assumption)];simp only [exOk, *];rfl)) (by omega)).elim (fun ⟨qZ,xZ,gZ⟩=>.inl ⟨qZ,xZ,fun R hg=>zaa (wkl [sb h0,se (zah Se.cells hx rfl),sc (zbt s x.col zdi),sb h1,sd [(3,[se (zcF Col.cells e2 rfl)]),(9,[sc (zdw x2 x.ex frs tb (ty x.ex) hx1)])],sb h3,si hw] [2,3,7,9,35,36,37] 2 kr (gZ R hg))⟩) (fun ⟨rY,pZ,gZ⟩=>.inr ⟨rY,pZ,zaa (wkl [sb h0,se (zah Se.cells hx rfl),sc (zbt s x.col zdi),sb h1,sd [(3,[se (zcF Col.cells e2 rfl)]),(9,[sc (zdw x2 x.ex frs tb (ty x.ex) hx1)])],sb h3,si hw] [2,3,7,9,35,36,37] 2 kr gZ)⟩)
   ·exact .inr ⟨zeN x2 x.ex frs tb (ty x.ex),(by first|exact ⟨by omega,zb0 hx (zoR (by assumption))⟩|exact ⟨by simpa using ‹(zeN _ _ _ _ _ != 0)=true›,zb0 hx (by rw [ziL (by assumption)];simp only [exOk, *];rfl)⟩),zaa (wkr [sb h0,se (zah Se.cells hx rfl),sc (zbt s x.col zdi),sb h1,sd [(3,[se (zcF Col.cells e2 rfl)]),(9,[sc (zdw x2 x.ex frs tb (ty x.ex) hx1)])],sb h3] kr)⟩
  ·exact .inr ⟨3,(by first|exact ⟨by omega,zb0 hx (zoR (by assumption))⟩|exact ⟨by simpa using ‹(zeN _ _ _ _ _ != 0)=true›,zb0 hx (by rw [ziL (by assumption)];simp only [exOk, *];rfl)⟩),zaa (wkr [sb h0,se (zah Se.cells hx rfl),sc (zbt s x.col zdi),sb h1] kr)⟩
def zob (ty:List Fr→X→Int × Int) (qt:Qy→List Int × Int) (cond:List Fr→Int) (frs:List Fr) (tb:List Tb) (s:Sch) (a:Ac):Bool :=
 bif a.kind==1 then zfh (ty frs) qt frs tb s a else a.sets.all (zfk (ty (zas frs s [])) (zas frs s []) tb s)&&!(cond (zas frs s []) != 0)
theorem zqa (a:Ac) (s:Sch) (ci:Int) (frs:List Fr) (tb:List Tb) (ty:List Fr→X→Int × Int) (qt:Qy→List Int × Int) (cond:List Fr→Int) (h2:zad tb) (h3:zad frs) (hs:zad s.cols) (hr:zad a.sets) (hv:zac E0 S.dml_target [a.av,tsl tb] [] (.tup [s.av,iv 0]) []) (hty:∀ x∈a.sets,PTy (ty (zas frs s [])) x.ex (zas frs s []) tb) (hc:Pure S.scope_Condition [xsl a.wh,fsl (zas frs s []),tsl tb] (iv (cond (zas frs s [])))) (hi:Pure S.dml_checkInsert [a.av,s.av,fsl frs,tsl tb] (iv ci)) (hci:ci=0↔zfh (ty frs) qt frs tb s a=true):∃ (r:Int),(r=0↔zob ty qt cond frs tb s a=true)∧zac E0 S.dml_Check [a.av,fsl frs,tsl tb] [] (iv r) []:=by
 cases h1:a.kind==1
 ·rcases zhW a s (zas frs s []) tb (ty (zas frs s [])) zdi zdi hty 0 zdi zdi with ⟨q2,q2_1,g2⟩|⟨r2_0,p2_0,g2⟩
  ·exact ⟨cond (zas frs s []),zpQ,wkc At.dml_Check [sc hv,sb (rfl:false=false),sb h1,sc (zeI frs s ([]) zdi)] [2,3,7,9,35,36,37] 2 kr (g2 _ (zaa (wkr [sb q2_1,sc hc] kr)))⟩
  ·exact ⟨r2_0,zpQ,wkc At.dml_Check [sc hv,sb (rfl:false=false),sb h1,sc (zeI frs s ([]) zdi)] [2,3,7,9,35,36,37] 2 kr (g2)⟩
 ·exact ⟨ci,zpQ,wk At.dml_Check [sc hv,sb (rfl:false=false),sb h1,sc hi] kr⟩
theorem zpl (a:Ac) (s:Sch) (e:Int) (frs:List Fr) (tb:List Tb) (he:(e != 0)=true) (hv:zac E0 S.dml_target [a.av,tsl tb] [] (.tup [s.av,iv e]) []):∃ (r:Int),r=e∧zac E0 S.dml_Check [a.av,fsl frs,tsl tb] [] (iv r) []:=by
 exact ⟨e,(by rfl),wk At.dml_Check [sc hv,sb he] kr⟩
end Go.AM
namespace Go.AM
set_option maxRecDepth 100000
set_option maxHeartbeats 1000000
set_option linter.unusedSimpArgs false
set_option linter.unusedVariables false
theorem zjR {p:Prop} (h:p:=by first|assumption|(simp only [decide_eq_false_iff_not,Int.not_lt,Int.not_le] at *;omega)):p:=h
structure Pr where
 id:Int
 old:List V
 nw:List V
def Pr.cells (p:Pr):List AV:=[iv p.id,vsl p.old,vsl p.nw]
@[simp] theorem Pr.cells_length (x:Pr):x.cells.length=3:=rfl
structure Ch where
 ins:List (List V)
 del:List Int
 upd:List Pr
def Ch.cells (c:Ch):List AV:=[.sl (c.ins.map vrow),isl c.del,.sl (c.upd.map Pr.cells)]
abbrev Ch.av (c:Ch):AV:=.agg c.cells
theorem ze2 (t:Tb) (a:Ac) :zac E0 S.dml_Candidates_c1 [.agg t.cells,.p 0 0] [.box a.cells] (bv (zaK t a.table)) [.box a.cells]:=by
 exact wk At.dml_Candidates_c1 [] kr
noncomputable def zpf (tb:List Tb) (a:Ac) (i:Nat):Cfg:=zar B.slices_IndexFunc_Table 0 [(0,.sl (tb.map Tb.cells)),(1,.fn S.dml_Candidates_c1 [.p 0 0]),(7,iv ((tb.map Tb.cells).length:Nat)),(8,iv (i:Nat))] [.box a.cells]
theorem zqn (tb:List Tb) (a:Ac) (hl:zad tb):∀ (k i:Nat),i+k=tb.length→Good E0 B.slices_IndexFunc_Table [.box a.cells] (zpf tb a i) (Shut 1 fun r h=>r=iv (idxF (fun t=>zaK t a.table) (tb.drop i) i)∧h=[.box a.cells]):=by
 intro k
 induction k with
 | zero =>
  intro i hi
  refine zaa ?_
  have h0:decide ((i:Int) < (((tb.map Tb.cells).length:Nat):Int))=false:=by simp;omega
  have e0:tb.drop i=[]:=List.drop_of_length_le (by omega)
  rw [e0]
  exact zd9 E0ok mix0 3000 (y:=AV.v (Value.int IntKind.i64 (-1:Int))) (H:=[Blk.box a.cells]) [sb h0] kr (⟨rfl,rfl⟩)
 | succ k ih =>
  intro i hi
  have ih:=ih (i+1) (by omega)
  obtain ⟨x,hx⟩:=zay (l:=tb) (i:=i) (by omega)
  have h0:decide ((i:Int) < (((tb.map Tb.cells).length:Nat):Int))=true:=by simp;omega
  have hw:=zao i (by omega)
  rw [zaN hx]
  simp only [idxF]
  refine zaa ?_
  cases h1:zaK x a.table
  ·exact zd5 E0ok mix0 3000 (c':=zpf tb a (i+(1:Nat))) [sb h0,se (zah Tb.cells hx rfl),sl [(0:Nat)] (ze2 x a),sb h1,si hw] [0,1,7,8] 1 kr kr (by simpa only [cond_true,cond_false,h1] using ih)
  ·exact zd9 E0ok mix0 3000 (y:=AV.v (Value.int IntKind.i64 (i:Int))) (H:=[Blk.box a.cells]) [sb h0,se (zah Tb.cells hx rfl),sl [(0:Nat)] (ze2 x a),sb h1] kr (⟨by simp only [cond_true,cond_false,h1],rfl⟩)
theorem zpW (tb:List Tb) (a:Ac) (hl:zad tb):zac E0 S.slices_IndexFunc_Table [.sl (tb.map Tb.cells),.fn S.dml_Candidates_c1 [.p 0 0]] [.box a.cells] (iv (idxF (fun t=>zaK t a.table) tb 0)) [.box a.cells]:=by
 exact ze7 E0ok mix0 At.slices_IndexFunc_Table rfl kr kr 3000 (c':=zpf tb a (0:Nat)) [] [0,1,7,8] 1 kr kr (by simpa using zqn tb a hl tb.length 0 (by simp))
noncomputable def L_asgL (f:X→V × Int) (a:Ac) (s:Sch) (frs:List Fr) (tb:List Tb) (i:Nat) (out:List V):Cfg:=zar B.dml_assigned 0 [(3,fsl frs),(4,tsl tb),(6,.p 1 0),(12,.own 2 out.length),(21,.sl (a.sets.map Se.cells)),(22,iv ((a.sets.map Se.cells).length:Nat)),(23,iv (i:Nat))] [.box a.cells,.box s.cells,.row Ty.Value (out.map V.cells) false]
def asgL (f:X→V × Int) (a:Ac) (s:Sch) (frs:List Fr) (tb:List Tb):List (Se)→Nat→(List V)→(List V) × Int
 | [],i,out =>
  (out,0)
 | x::r,i,out =>
  bif decide (idxF (fun c=>colC c x.col) s.cols 0 < 0) then
   ([],3)
  else
   bif (f x.ex).snd != 0 then
    ([],(f x.ex).snd)
   else
    bif decide ((out.length:Int)≤idxF (fun c=>colC c x.col) s.cols 0) then
     ([],17)
    else
     asgL f a s frs tb r (i+1) (out.set (idxF (fun c=>colC c x.col) s.cols 0).toNat (f x.ex).fst)
theorem zqx (f:X→V × Int) (a:Ac) (s:Sch) (frs:List Fr) (tb:List Tb) (hs:zad s.cols) (hl:zad a.sets) (hf:∀ x∈a.sets,Pure S.evaluate_Value [x.ex.av,fsl frs,tsl tb] (.tup [(f x.ex).1.av,iv (f x.ex).2])):∀ (kk i:Nat) (out:List V),i+kk=(a.sets).length→Good E0 B.dml_assigned [] (L_asgL f a s frs tb i out) (Shut 0 fun r h=>r=(.tup [vsl (asgL f a s frs tb ((a.sets).drop i) i out).1,iv (asgL f a s frs tb ((a.sets).drop i) i out).2])∧h=[]):=by
 intro kk
 induction kk with
 | zero =>
  intro i out hi
  have h0:decide (((i:Nat):Int) < (((a.sets.map Se.cells).length:Nat):Int))=false:=by simp;omega
  have e0:(a.sets).drop i=[]:=List.drop_of_length_le (by omega)
  rw [e0]
  simp only [asgL]
  refine zaa ?_
  exact wkr [sqx (out.length=(List.map V.cells out).length∧True∧True),sb h0] kr
 | succ kk ih =>
  intro i out hi
  obtain ⟨x,hx⟩:=zay (l:=a.sets) (i:=i) (by omega)
  have h0:decide (((i:Nat):Int) < (((a.sets.map Se.cells).length:Nat):Int))=true:=by simp;omega
  have hw:=zao i (by first|omega|(simp only [zad,Few] at *;omega))
  have hfx:=hf x (List.mem_of_getElem? hx)
  rw [zaN hx]
  simp only [asgL]
  refine zaa ?_
  cases h1:decide (idxF (fun c=>colC c x.col) s.cols 0 < 0)
  ·cases h2:(f x.ex).snd != 0
   ·cases h3:decide ((out.length:Int)≤idxF (fun c=>colC c x.col) s.cols 0)
    ·obtain ⟨x4,e4⟩:=zay (l:=out) (i:=(idxF (fun c=>colC c x.col) s.cols 0).toNat) zjR
     exact wkl [sb h0,se (zah Se.cells hx rfl),sc (zbt s x.col zjR),sb h1,sc hfx,sb h2,sqx (out.length=(List.map V.cells out).length),sb h3,sqx (OwnAt (List.map V.cells out) out.length (idxF (fun c=>colC c x.col) s.cols 0)),sx (.el x4.cells) (And.intro (owed (p:=True∧True∧True∧True)) (znA V.cells (n:=out.length) (by simp) e4)),si hw] [3,4,6,12,21,22,23] 3 kr (zat (show ([(3,AV.sl (List.map Fr.cells frs)),(4,AV.sl (List.map Tb.cells tb)),(6,AV.p 1 0),(12,AV.own 2 out.length),(21,AV.sl (List.map Se.cells a.sets)),(22,iv (↑(List.map Se.cells a.sets).length:Int)),(23,iv (↑(i+1):Int))]:TS)=_ by first|rfl|(simp;done)|(simp [X.cells,Qy.cells,V.cells,Col.cells,Rw.cells,Tb.cells,Fr.cells,Sch.cells,Tp.cells,Pl.cells,xCol,xLit,xBin,xNeg,Ac.cells,Se.cells,Pr.cells,Ch.cells];done)) (show ([Blk.box [iv a.kind,sv a.table,AV.sl (List.map (fun r=>[AV.sl (zab r)]) a.rows),AV.sl (zaf a.query),AV.sl (List.map Se.cells a.sets),AV.sl (zab a.wh),sv a.text],Blk.box [sv s.name,AV.sl (List.map Col.cells s.cols)],Blk.row Ty.Value ((List.map V.cells out).set (idxF (fun c=>colC c x.col) s.cols 0).toNat [iv (f x.ex).fst.kind,iv (f x.ex).fst.int,sv (f x.ex).fst.text]) false]:Heap)=_ by first|rfl|(simp;done)|(simp [X.cells,Qy.cells,V.cells,Col.cells,Rw.cells,Tb.cells,Fr.cells,Sch.cells,Tp.cells,Pl.cells,xCol,xLit,xBin,xNeg,Ac.cells,Se.cells,Pr.cells,Ch.cells];done)) (ih (i+1) (out.set (idxF (fun c=>colC c x.col) s.cols 0).toNat (f x.ex).fst) (by omega) ))
    ·exact wkr [sb h0,se (zah Se.cells hx rfl),sc (zbt s x.col zjR),sb h1,sc hfx,sb h2,sqx (out.length=(List.map V.cells out).length),sb h3] kr
   ·exact wkr [sb h0,se (zah Se.cells hx rfl),sc (zbt s x.col zjR),sb h1,sc hfx,sb h2] kr
  ·exact wkr [sb h0,se (zah Se.cells hx rfl),sc (zbt s x.col zjR),sb h1] kr
def asgn (f:X→V × Int) (a:Ac) (s:Sch) (row:List V) (frs:List Fr) (tb:List Tb):(List V) × Int :=
 asgL f a s frs tb a.sets 0 (row)
theorem zmT (f:X→V × Int) (a:Ac) (s:Sch) (row:List V) (frs:List Fr) (tb:List Tb) (hr:zad row) (hs:zad s.cols) (hl:zad a.sets) (hf:∀ x∈a.sets,Pure S.evaluate_Value [x.ex.av,fsl frs,tsl tb] (.tup [(f x.ex).1.av,iv (f x.ex).2])):zac E0 S.dml_assigned [a.av,s.av,vsl row,fsl frs,tsl tb] [] (.tup [vsl (asgn f a s row frs tb).1,iv (asgn f a s row frs tb).2]) []:=by
 unfold asgn
 exact wkc At.dml_assigned [sc (zc9 row (by first|assumption|omega|(simp;done)|(simp;omega)))] [3,4,6,12,21,22,23] 3 kr (by have ih:=zqx f a s frs tb hs hl hf a.sets.length 0 row (by simp);exact ih)
end Go.AM
namespace Go.AM
set_option maxRecDepth 100000
set_option maxHeartbeats 1000000
set_option linter.unusedSimpArgs false
set_option linter.unusedVariables false
theorem zmv {p:Prop} (h:p:=by first|assumption|(simp;done)|(simp;omega)|omega|(simp at *;omega)):p:=h
noncomputable def L_cndD (tr:Rw→Bool × Int) (a:Ac) (s:Sch) (frs:List Fr) (tb:List Tb) (t:Tb) (i:Nat) (del:List Int):Cfg:=zar B.dml_Candidates 0 [(1,fsl frs),(2,tsl tb),(3,.p 0 0),(6,.p 1 0),(8,.p 2 0),(12,.p 3 0),(55,.sl (t.rows.map Rw.cells)),(56,iv ((t.rows.map Rw.cells).length:Nat)),(57,iv (i:Nat))] [.box a.cells,.box [.nl,.nl,.nl],.box s.cells,.box [.nl,.own 4 del.length,.nl],.row Ty.int (del.map zcb) false]
def cndD (tr:Rw→Bool × Int) (a:Ac) (s:Sch) (frs:List Fr) (tb:List Tb) (t:Tb):List (Rw)→Nat→(List Int)→Ch × Int
 | [],i,del =>
  (Ch.mk [] del [],0)
 | x::r,i,del =>
  bif (tr x).snd != 0 then
   (Ch.mk [] [] [],(tr x).snd)
  else
   bif !(tr x).fst then
    cndD tr a s frs tb t r (i+1) (del)
   else
    cndD tr a s frs tb t r (i+1) (del++[x.id])
theorem zqp (tr:Rw→Bool × Int) (a:Ac) (s:Sch) (frs:List Fr) (tb:List Tb) (t:Tb) (h3:zad frs) (hk:(a.kind==3)=true) (hl:zad t.rows) (ht:∀ r∈t.rows,Pure S.evaluate_True [xsl a.wh,fsl (zas frs s r.vals),tsl tb] (.tup [bv (tr r).1,iv (tr r).2])):∀ (kk i:Nat) (del:List Int),i+kk=(t.rows).length→(del.length≤i)→Good E0 B.dml_Candidates [] (L_cndD tr a s frs tb t i del) (Shut 0 fun r h=>r=(.tup [(cndD tr a s frs tb t ((t.rows).drop i) i del).1.av,iv (cndD tr a s frs tb t ((t.rows).drop i) i del).2])∧h=[]):=by
 intro kk
 induction kk with
 | zero =>
  intro i del hi ho
  have h0:decide (((i:Nat):Int) < (((t.rows.map Rw.cells).length:Nat):Int))=false:=by simp;omega
  have e0:(t.rows).drop i=[]:=List.drop_of_length_le (by omega)
  rw [e0]
  simp only [cndD]
  refine zaa ?_
  exact wkr [sqx ((True∧del.length=(List.map zcb del).length∧True∧True)∧True∧True),sb h0] kr
 | succ kk ih =>
  intro i del hi ho
  obtain ⟨x,hx⟩:=zay (l:=t.rows) (i:=i) (by omega)
  have h0:decide (((i:Nat):Int) < (((t.rows.map Rw.cells).length:Nat):Int))=true:=by simp;omega
  have hw:=zao i (by first|omega|(simp only [zad,Few] at *;omega))
  have hfx:=ht x (List.mem_of_getElem? hx)
  rw [zaN hx]
  simp only [cndD]
  refine zaa ?_
  let p_1:List St:=[sb h0,se (zah Rw.cells hx rfl),sc (zeI frs s x.vals (by first|assumption|omega|(simp;done)|(simp;omega))),sc hfx]
  cases h1:(tr x).snd != 0
  ·cases h2:!(tr x).fst
   ·exact wkl (p_1++[sb h1,sb h2,sb hk,sqx (AllLen [[iv x.id]] 1∧del.length=(List.map zcb del).length∧(((List.map zcb del).length+[[iv x.id]].length) * 8).le 140737488355328),si hw]) [1,2,3,6,8,12,55,56,57] 5 kr (zat rfl (show ([Blk.box [iv a.kind,sv a.table,AV.sl (List.map (fun r=>[AV.sl (zab r)]) a.rows),AV.sl (zaf a.query),AV.sl (List.map Se.cells a.sets),AV.sl (zab a.wh),sv a.text],Blk.box [AV.nl,AV.nl,AV.nl],Blk.box [sv s.name,AV.sl (List.map Col.cells s.cols)],Blk.box [AV.nl,AV.own 4 (List.map zcb del++[[iv x.id]]).length,AV.nl],Blk.row Ty.int (List.map zcb del++[[iv x.id]]) false]:Heap)=_ by first|rfl|(simp;done)|(simp [X.cells,Qy.cells,V.cells,Col.cells,Rw.cells,Tb.cells,Fr.cells,Sch.cells,Tp.cells,Pl.cells,xCol,xLit,xBin,xNeg,Ac.cells,Se.cells,Pr.cells,Ch.cells,Rw.cells];done)) (ih (i+1) (del++[x.id]) (by omega) zmv))
   ·exact wkl (p_1++[sb h1,sb h2,si hw]) [1,2,3,6,8,12,55,56,57] 5 kr (ih (i+1) del (by omega) zmv)
  ·exact wkr (p_1++[sb h1]) kr
noncomputable def L_cndU (tr:Rw→Bool × Int) (ag:Rw→List V × Int) (a:Ac) (s:Sch) (frs:List Fr) (tb:List Tb) (t:Tb) (i:Nat) (upd:List Pr):Cfg:=zar B.dml_Candidates 0 [(1,fsl frs),(2,tsl tb),(3,.p 0 0),(6,.p 1 0),(8,.p 2 0),(12,.p 3 0),(55,.sl (t.rows.map Rw.cells)),(56,iv ((t.rows.map Rw.cells).length:Nat)),(57,iv (i:Nat))] [.box a.cells,.box [.nl,.nl,.nl],.box s.cells,.box [.nl,.nl,.own 4 upd.length],.row Ty.Pair (upd.map Pr.cells) false]
def cndU (tr:Rw→Bool × Int) (ag:Rw→List V × Int) (a:Ac) (s:Sch) (frs:List Fr) (tb:List Tb) (t:Tb):List (Rw)→Nat→(List Pr)→Ch × Int
 | [],i,upd =>
  (Ch.mk [] [] upd,0)
 | x::r,i,upd =>
  bif (tr x).snd != 0 then
   (Ch.mk [] [] [],(tr x).snd)
  else
   bif !(tr x).fst then
    cndU tr ag a s frs tb t r (i+1) (upd)
   else
    bif (ag x).snd != 0 then
     (Ch.mk [] [] [],(ag x).snd)
    else
     cndU tr ag a s frs tb t r (i+1) (upd++[Pr.mk x.id x.vals (ag x).fst])
theorem zqy (tr:Rw→Bool × Int) (ag:Rw→List V × Int) (a:Ac) (s:Sch) (frs:List Fr) (tb:List Tb) (t:Tb) (h3:zad frs) (hk:(a.kind==3)=false) (hl:zad t.rows) (hv:∀ r∈t.rows,zad r.vals) (ht:∀ r∈t.rows,Pure S.evaluate_True [xsl a.wh,fsl (zas frs s r.vals),tsl tb] (.tup [bv (tr r).1,iv (tr r).2])) (hag:∀ r∈t.rows,Pure S.dml_assigned [a.av,s.av,vsl r.vals,fsl (zas frs s r.vals),tsl tb] (.tup [vsl (ag r).1,iv (ag r).2])):∀ (kk i:Nat) (upd:List Pr),i+kk=(t.rows).length→(upd.length≤i)→Good E0 B.dml_Candidates [] (L_cndU tr ag a s frs tb t i upd) (Shut 0 fun r h=>r=(.tup [(cndU tr ag a s frs tb t ((t.rows).drop i) i upd).1.av,iv (cndU tr ag a s frs tb t ((t.rows).drop i) i upd).2])∧h=[]):=by
 intro kk
 induction kk with
 | zero =>
  intro i upd hi ho
  have h0:decide (((i:Nat):Int) < (((t.rows.map Rw.cells).length:Nat):Int))=false:=by simp;omega
  have e0:(t.rows).drop i=[]:=List.drop_of_length_le (by omega)
  rw [e0]
  simp only [cndU]
  refine zaa ?_
  exact wkr [sqx ((True∧True∧upd.length=(List.map Pr.cells upd).length∧True)∧True∧True),sb h0] kr
 | succ kk ih =>
  intro i upd hi ho
  obtain ⟨x,hx⟩:=zay (l:=t.rows) (i:=i) (by omega)
  have h0:decide (((i:Nat):Int) < (((t.rows.map Rw.cells).length:Nat):Int))=true:=by simp;omega
  have hw:=zao i (by first|omega|(simp only [zad,Few] at *;omega))
  have hfx:=ht x (List.mem_of_getElem? hx);have hgx:=hag x (List.mem_of_getElem? hx);have hvx:=hv x (List.mem_of_getElem? hx)
  rw [zaN hx]
  simp only [cndU]
  refine zaa ?_
  let p_1:List St:=[sb h0,se (zah Rw.cells hx rfl),sc (zeI frs s x.vals (by first|assumption|omega|(simp;done)|(simp;omega))),sc hfx]
  cases h1:(tr x).snd != 0
  ·cases h2:!(tr x).fst
   ·cases h3:(ag x).snd != 0
    ·exact wkl (p_1++[sb h1,sb h2,sb hk,sc hgx,sb h3,sd [(6,[sc (zc9 x.vals (by first|assumption|omega|(simp;done)|(simp;omega)))]),(9,[sqx (True∧x.vals.length=(List.map V.cells x.vals).length∧True∧True)]),(10,[sqx (AllLen [[iv x.id,AV.sl (List.map V.cells x.vals),AV.sl (List.map V.cells (ag x).fst)]] 3∧upd.length=(List.map Pr.cells upd).length∧(((List.map Pr.cells upd).length+[[iv x.id,AV.sl (List.map V.cells x.vals),AV.sl (List.map V.cells (ag x).fst)]].length) * 56).le 140737488355328)])],si hw]) [1,2,3,6,8,12,55,56,57] 5 kr (zat rfl (show ([Blk.box [iv a.kind,sv a.table,AV.sl (List.map (fun r=>[AV.sl (zab r)]) a.rows),AV.sl (zaf a.query),AV.sl (List.map Se.cells a.sets),AV.sl (zab a.wh),sv a.text],Blk.box [AV.nl,AV.nl,AV.nl],Blk.box [sv s.name,AV.sl (List.map Col.cells s.cols)],Blk.box [AV.nl,AV.nl,AV.own 4 (List.map Pr.cells upd++[[iv x.id,AV.sl (List.map V.cells x.vals),AV.sl (List.map V.cells (ag x).fst)]]).length],Blk.row Ty.Pair (List.map Pr.cells upd++[[iv x.id,AV.sl (List.map V.cells x.vals),AV.sl (List.map V.cells (ag x).fst)]]) false]:Heap)=_ by first|rfl|(simp;done)|(simp [X.cells,Qy.cells,V.cells,Col.cells,Rw.cells,Tb.cells,Fr.cells,Sch.cells,Tp.cells,Pl.cells,xCol,xLit,xBin,xNeg,Ac.cells,Se.cells,Pr.cells,Ch.cells,Rw.cells];done)) (ih (i+1) (upd++[Pr.mk x.id x.vals (ag x).fst]) (by omega) zmv))
    ·exact wkr (p_1++[sb h1,sb h2,sb hk,sc hgx,sb h3]) kr
   ·exact wkl (p_1++[sb h1,sb h2,si hw]) [1,2,3,6,8,12,55,56,57] 5 kr (ih (i+1) upd (by omega) zmv)
  ·exact wkr (p_1++[sb h1]) kr
end Go.AM
namespace Go.AM
set_option maxRecDepth 100000
set_option maxHeartbeats 1000000
set_option linter.unusedSimpArgs false
set_option linter.unusedVariables false
def tbNull:Tb:=⟨⟨⟨#[]⟩,[]⟩,0,[]⟩
def tabC (tb:List Tb) (n:Str):Tb:=(zbU tb n).getD tbNull
theorem zm9 (tb:List Tb) (n:Str) (h:decide (idxF (fun t=>zaK t n) tb 0 < 0)=false):ElAt (tb.map Tb.cells) (idxF (fun t=>zaK t n) tb 0) (tabC tb n).cells 4:=by
 simp only [decide_eq_false_iff_not] at h
 rcases zdI (fun t=>zaK t n) tb 0 with ⟨h2,_⟩|⟨j,y,h2,h3,h4⟩
 ·omega
 ·have e:tabC tb n=y:=by unfold tabC zbU;rw [h4];rfl
  rw [e,h2]
  have:((0+j:Nat):Int)=(j:Int):=by omega
  rw [this];exact zah Tb.cells h3 rfl
def zrD (a:Ac) (s:Sch) (e:Int):Ch × Int :=
 (Ch.mk [] [] [],e)
theorem zjg (a:Ac) (s:Sch) (e:Int) (frs:List Fr) (tb:List Tb) (he:(e != 0)=true) (hv:zac E0 S.dml_target [a.av,tsl tb] [] (.tup [s.av,iv e]) []):zac E0 S.dml_Candidates [a.av,fsl frs,tsl tb] [] (.tup [(zrD a s e).1.av,iv (zrD a s e).2]) []:=by
 exact wk At.dml_Candidates [sc hv,sb he] kr
def zon (tr:Rw→Bool × Int) (a:Ac) (s:Sch) (frs:List Fr) (tb:List Tb):Ch × Int :=
 cndD tr a s frs tb (tabC tb a.table) (tabC tb a.table).rows 0 ([])
theorem zjo (tr:Rw→Bool × Int) (a:Ac) (s:Sch) (frs:List Fr) (tb:List Tb) (hk1:(a.kind==1)=false) (hk3:(a.kind==3)=true) (h2:zad tb) (h3:zad frs) (hv:zac E0 S.dml_target [a.av,tsl tb] [] (.tup [s.av,iv 0]) []) (hix:zac E0 S.slices_IndexFunc_Table [.sl (tb.map Tb.cells),.fn S.dml_Candidates_c1 [.p 0 0]] [.box a.cells] (iv (idxF (fun t=>zaK t a.table) tb 0)) [.box a.cells]) (hn:decide (idxF (fun t=>zaK t a.table) tb 0 < 0)=false) (hl:zad (tabC tb a.table).rows) (ht:∀ r∈(tabC tb a.table).rows,Pure S.evaluate_True [xsl a.wh,fsl (zas frs s r.vals),tsl tb] (.tup [bv (tr r).1,iv (tr r).2])):zac E0 S.dml_Candidates [a.av,fsl frs,tsl tb] [] (.tup [(zon tr a s frs tb).1.av,iv (zon tr a s frs tb).2]) []:=by
 unfold zon
 exact wkcN At.dml_Candidates [sc hv,sb (rfl:false=false),sb hk1,sl [0] hix,se (zm9 tb a.table (by first|assumption|omega|(simp;done)|(simp;omega)))] [1,2,3,6,8,12,55,56,57] 4 [(.ob 3 1 Ty.int,5)] kr (by have ih:=zqp tr a s frs tb (tabC tb a.table) h3 hk3 hl ht (tabC tb a.table).rows.length 0 ([]) (by simp) (by simp);exact ih)
def zos (tr:Rw→Bool × Int) (ag:Rw→List V × Int) (a:Ac) (s:Sch) (frs:List Fr) (tb:List Tb):Ch × Int :=
 cndU tr ag a s frs tb (tabC tb a.table) (tabC tb a.table).rows 0 ([])
theorem zjf (tr:Rw→Bool × Int) (ag:Rw→List V × Int) (a:Ac) (s:Sch) (frs:List Fr) (tb:List Tb) (hk1:(a.kind==1)=false) (hk3:(a.kind==3)=false) (h2:zad tb) (h3:zad frs) (hv:zac E0 S.dml_target [a.av,tsl tb] [] (.tup [s.av,iv 0]) []) (hix:zac E0 S.slices_IndexFunc_Table [.sl (tb.map Tb.cells),.fn S.dml_Candidates_c1 [.p 0 0]] [.box a.cells] (iv (idxF (fun t=>zaK t a.table) tb 0)) [.box a.cells]) (hn:decide (idxF (fun t=>zaK t a.table) tb 0 < 0)=false) (hl:zad (tabC tb a.table).rows) (hvl:∀ r∈(tabC tb a.table).rows,zad r.vals) (ht:∀ r∈(tabC tb a.table).rows,Pure S.evaluate_True [xsl a.wh,fsl (zas frs s r.vals),tsl tb] (.tup [bv (tr r).1,iv (tr r).2])) (hag:∀ r∈(tabC tb a.table).rows,Pure S.dml_assigned [a.av,s.av,vsl r.vals,fsl (zas frs s r.vals),tsl tb] (.tup [vsl (ag r).1,iv (ag r).2])):zac E0 S.dml_Candidates [a.av,fsl frs,tsl tb] [] (.tup [(zos tr ag a s frs tb).1.av,iv (zos tr ag a s frs tb).2]) []:=by
 unfold zos
 exact wkcN At.dml_Candidates [sc hv,sb (rfl:false=false),sb hk1,sl [0] hix,se (zm9 tb a.table (by first|assumption|omega|(simp;done)|(simp;omega)))] [1,2,3,6,8,12,55,56,57] 4 [(.ob 3 2 Ty.Pair,5)] kr (by have ih:=zqy tr ag a s frs tb (tabC tb a.table) h3 hk3 hl hvl ht hag (tabC tb a.table).rows.length 0 ([]) (by simp) (by simp);exact ih)
end Go.AM
namespace Go.AM
set_option maxRecDepth 100000
set_option maxHeartbeats 1000000
set_option linter.unusedSimpArgs false
set_option linter.unusedVariables false
theorem zpj {p:Prop} (h:p:=by first|assumption|omega|(simp only [bne_eq_false_iff_eq,zbs,List.length_map] at *;omega)|(simp;done)|exact ⟨by simp,rfl⟩):p:=h
theorem zpF {p:Prop} (h:p:=by have h:=‹((((zab x).length:Nat):Int) != _)=false›;simp at h;omega):p:=h
abbrev PEv (f:X→V × Int) (x:X) (frs:List Fr) (tb:List Tb):Prop:=Pure S.evaluate_Value [x.av,fsl frs,tsl tb] (.tup [(f x).1.av,iv (f x).2])
def zbB (f:X→V × Int):List X→List V→List V × Int
 | [],acc=>(acc,0)
 | x::r,acc=>bif (f x).2 != 0 then ([],(f x).2) else zbB f r (acc++[(f x).1])
def insL (f:X→V × Int) (n:Nat):List (List X)→List (List V)→List (List V) × Int
 | [],acc=>(acc,0)
 | y::r,acc=>bif y.length != n then ([],5) else bif (zbB f y []).2 != 0 then ([],(zbB f y []).2) else insL f n r (acc++[(zbB f y []).1])
theorem zt5 {f:X→V × Int} {l:List X} {i:Nat} {x:X} {acc:List V} (h:zbB f l []=zbB f (l.drop i) acc) (hx:l[i]?=some x) (h1:((f x).2 != 0)=false):zbB f l []=zbB f (l.drop (i+1)) (acc++[(f x).1]):=by
 obtain ⟨hi,e⟩:=List.getElem?_eq_some_iff.1 hx
 rw [h,List.drop_eq_getElem_cons hi,e]
 simp only [zbB,h1,cond_false]
theorem zup {f:X→V × Int} {l:List X} {i:Nat} {x:X} {acc:List V} (h:zbB f l []=zbB f (l.drop i) acc) (hx:l[i]?=some x) (h1:((f x).2 != 0)=true):(f x).2≠0∧zbB f l []=([],(f x).2):=by
 obtain ⟨hi,e⟩:=List.getElem?_eq_some_iff.1 hx
 rw [h,List.drop_eq_getElem_cons hi,e]
 exact ⟨by simpa using h1,by simp only [zbB,h1,cond_true]⟩
theorem zuA {f:X→V × Int} {l:List X} {acc:List V} (h:zbB f l []=zbB f (l.drop l.length) acc):zbB f l []=(acc,0):=by
 rw [h,List.drop_length];rfl
theorem zum {f:X→V × Int} {n:Nat} {l:List (List X)} {i:Nat} {x:List X} {acc:List (List V)} {v:List V} (h:insL f n l []=insL f n (l.drop i) acc) (hx:l[i]?=some x) (h1:x.length=n) (h2:zbB f x []=(v,0)):insL f n l []=insL f n (l.drop (i+1)) (acc++[v]):=by
 obtain ⟨hi,e⟩:=List.getElem?_eq_some_iff.1 hx
 rw [h,List.drop_eq_getElem_cons hi,e]
 have h8:(x.length != n)=false:=by simpa using h1
 simp only [insL,h8,h2,cond_false];rfl
theorem zro {f:X→V × Int} {n:Nat} {l:List (List X)} {i:Nat} {x:List X} {acc:List (List V)} (h:insL f n l []=insL f n (l.drop i) acc) (hx:l[i]?=some x) (h1:x.length≠n):insL f n l []=([],5):=by
 obtain ⟨hi,e⟩:=List.getElem?_eq_some_iff.1 hx
 rw [h,List.drop_eq_getElem_cons hi,e]
 have h9:(x.length != n)=true:=by simpa using h1
 simp only [insL,h9,cond_true]
theorem zrz {f:X→V × Int} {n:Nat} {l:List (List X)} {i:Nat} {x:List X} {acc:List (List V)} {c:Int} {v:List V} (h:insL f n l []=insL f n (l.drop i) acc) (hx:l[i]?=some x) (h1:x.length=n) (h2:zbB f x []=(v,c)) (hc:c≠0):insL f n l []=([],c):=by
 obtain ⟨hi,e⟩:=List.getElem?_eq_some_iff.1 hx
 rw [h,List.drop_eq_getElem_cons hi,e]
 have h8:(x.length != n)=false:=by simpa using h1
 have h9:(c != 0)=true:=by simpa using hc
 simp only [insL,h8,h9,h2,cond_true,cond_false]
theorem zvs {f:X→V × Int} {n:Nat} {l:List (List X)} {acc:List (List V)} (h:insL f n l []=insL f n (l.drop l.length) acc):insL f n l []=(acc,0):=by
 rw [h,List.drop_length];rfl
noncomputable def zsu (a:Ac) (s:Sch) (frs:List Fr) (tb:List Tb) (f:X→V × Int) (io:Nat) (y:List X) (out:List (List V)) (i:Nat) (row:List V):Cfg:=zar B.dml_inserted 1 [(2,fsl frs),(3,tsl tb),(4,.p 0 0),(5,.p 1 0),(10,.own 2 out.length),(13,.own 3 row.length),(23,.sl (a.rows.map zaH)),(24,iv ((a.rows.map zaH).length:Nat)),(25,iv (io:Nat)),(35,xsl y),(36,iv ((zab y).length:Nat)),(37,iv (i:Nat))] [.box a.cells,.box s.cells,.row Ty.LValue (out.map vrow) false,.row Ty.Value (row.map V.cells) false]
theorem zgK (a:Ac) (s:Sch) (frs:List Fr) (tb:List Tb) (f:X→V × Int) (io:Nat) (y:List X) (out:List (List V)) (hy:zad y) (hf:∀ x∈y,PEv f x frs tb) (i:Nat) (row:List V) (hi:i≤(y).length) (hI:row.length≤i∧zbB f y []=zbB f (y.drop i) row):(∃ (row':List V),(row'.length≤(y).length∧zbB f y []=zbB f (y.drop (y).length) row')∧(decide ((((y).length:Nat):Int) < (((zab y).length:Nat):Int))=false)∧∀ R,Good E0 B.dml_inserted [] (zsu a s frs tb f io y out (y).length row') R→Good E0 B.dml_inserted [] (zsu a s frs tb f io y out i row) R)∨(∃ (r:List (List V)) (c:Int),(r=[]∧c≠0∧zbB f y []=([],c))∧Good E0 B.dml_inserted [] (zsu a s frs tb f io y out i row) (Shut 0 fun rZ hZ=>rZ=(.tup [.sl (r.map vrow),iv c])∧hZ=[])):=by
 obtain ⟨kk,hk⟩:∃ kk,i+kk=(y).length:=⟨(y).length - i,by omega⟩
 induction kk generalizing i row with
 | zero =>
  have e0:i=(y).length:=by omega
  subst e0
  exact .inl ⟨row,hI,by simp,fun R hg=>hg⟩
 | succ kk ih =>
  obtain ⟨x,hx⟩:=zay (l:=y) (i:=i) (by omega)
  have h0:decide (((i:Nat):Int) < (((zab y).length:Nat):Int))=true:=by simp;omega
  have hw:IntKind.i64.wrap (((i:Nat):Int)+1)=((i+1:Nat):Int):=zao i (by first|omega|(simp only [zad,Few] at *;omega))
  have hx1:=hf x (List.mem_of_getElem? hx);have hrl:row.length≤1000000000:=by have:=hI.1;simp only [zad] at hy;omega
  cases h1:(f x).snd != 0
  ·exact (ih (i+1) (row++[(f x).fst]) (by omega) (by exact ⟨by have:=hI.1;simp;omega,zt5 hI.2 hx (by assumption)⟩) (by omega)).elim (fun ⟨rowZ,qZ,xZ,gZ⟩=>.inl ⟨rowZ,qZ,xZ,fun R hg=>zaa (wkl [sb h0,se (zbv hx),sc hx1,sb h1,sqx (AllLen [[iv (f x).fst.kind,iv (f x).fst.int,sv (f x).fst.text]] 3∧row.length=(List.map V.cells row).length∧(((List.map V.cells row).length+[[iv (f x).fst.kind,iv (f x).fst.int,sv (f x).fst.text]].length) * 32).le 140737488355328),si hw] [2,3,4,5,10,13,23,24,25,35,36,37] 4 kr (zat (show ([(2,AV.sl (List.map Fr.cells frs)),(3,AV.sl (List.map Tb.cells tb)),(4,AV.p 0 0),(5,AV.p 1 0),(10,AV.own 2 out.length),(13,AV.own 3 (List.map V.cells row++[[iv (f x).fst.kind,iv (f x).fst.int,sv (f x).fst.text]]).length),(23,AV.sl (List.map zaH a.rows)),(24,iv (↑(List.map zaH a.rows).length:Int)),(25,iv (io:Int)),(35,AV.sl (zab y)),(36,iv (↑(zab y).length:Int)),(37,iv (↑(i+1):Int))]:TS)=_ by first|rfl|(simp;done)|(simp [X.cells,Qy.cells,V.cells,Col.cells,Rw.cells,Tb.cells,Fr.cells,Sch.cells,Tp.cells,Pl.cells,xCol,xLit,xBin,xNeg,Ac.cells,Se.cells,Pr.cells,Ch.cells,Rw.cells];done)) (show ([Blk.box [iv a.kind,sv a.table,AV.sl (List.map (fun r=>[AV.sl (zab r)]) a.rows),AV.sl (zaf a.query),AV.sl (List.map Se.cells a.sets),AV.sl (zab a.wh),sv a.text],Blk.box [sv s.name,AV.sl (List.map Col.cells s.cols)],Blk.row Ty.LValue (List.map vrow out) false,Blk.row Ty.Value (List.map V.cells row++[[iv (f x).fst.kind,iv (f x).fst.int,sv (f x).fst.text]]) false]:Heap)=_ by first|rfl|(simp;done)|(simp [X.cells,Qy.cells,V.cells,Col.cells,Rw.cells,Tb.cells,Fr.cells,Sch.cells,Tp.cells,Pl.cells,xCol,xLit,xBin,xNeg,Ac.cells,Se.cells,Pr.cells,Ch.cells,Rw.cells];done)) (gZ R hg)))⟩) (fun ⟨rY,cY,pZ,gZ⟩=>.inr ⟨rY,cY,pZ,zaa (wkl [sb h0,se (zbv hx),sc hx1,sb h1,sqx (AllLen [[iv (f x).fst.kind,iv (f x).fst.int,sv (f x).fst.text]] 3∧row.length=(List.map V.cells row).length∧(((List.map V.cells row).length+[[iv (f x).fst.kind,iv (f x).fst.int,sv (f x).fst.text]].length) * 32).le 140737488355328),si hw] [2,3,4,5,10,13,23,24,25,35,36,37] 4 kr (zat (show ([(2,AV.sl (List.map Fr.cells frs)),(3,AV.sl (List.map Tb.cells tb)),(4,AV.p 0 0),(5,AV.p 1 0),(10,AV.own 2 out.length),(13,AV.own 3 (List.map V.cells row++[[iv (f x).fst.kind,iv (f x).fst.int,sv (f x).fst.text]]).length),(23,AV.sl (List.map zaH a.rows)),(24,iv (↑(List.map zaH a.rows).length:Int)),(25,iv (io:Int)),(35,AV.sl (zab y)),(36,iv (↑(zab y).length:Int)),(37,iv (↑(i+1):Int))]:TS)=_ by first|rfl|(simp;done)|(simp [X.cells,Qy.cells,V.cells,Col.cells,Rw.cells,Tb.cells,Fr.cells,Sch.cells,Tp.cells,Pl.cells,xCol,xLit,xBin,xNeg,Ac.cells,Se.cells,Pr.cells,Ch.cells,Rw.cells];done)) (show ([Blk.box [iv a.kind,sv a.table,AV.sl (List.map (fun r=>[AV.sl (zab r)]) a.rows),AV.sl (zaf a.query),AV.sl (List.map Se.cells a.sets),AV.sl (zab a.wh),sv a.text],Blk.box [sv s.name,AV.sl (List.map Col.cells s.cols)],Blk.row Ty.LValue (List.map vrow out) false,Blk.row Ty.Value (List.map V.cells row++[[iv (f x).fst.kind,iv (f x).fst.int,sv (f x).fst.text]]) false]:Heap)=_ by first|rfl|(simp;done)|(simp [X.cells,Qy.cells,V.cells,Col.cells,Rw.cells,Tb.cells,Fr.cells,Sch.cells,Tp.cells,Pl.cells,xCol,xLit,xBin,xNeg,Ac.cells,Se.cells,Pr.cells,Ch.cells,Rw.cells];done)) gZ))⟩)
  ·exact .inr ⟨[],(f x).snd,(by exact ⟨rfl,zup hI.2 hx (by assumption)⟩),zaa (wkr [sb h0,se (zbv hx),sc hx1,sb h1] kr)⟩
noncomputable def zsJ (a:Ac) (s:Sch) (frs:List Fr) (tb:List Tb) (f:X→V × Int) (i:Nat) (out:List (List V)):Cfg:=zar B.dml_inserted 0 [(2,fsl frs),(3,tsl tb),(4,.p 0 0),(5,.p 1 0),(10,.own 2 out.length),(23,.sl (a.rows.map zaH)),(24,iv ((a.rows.map zaH).length:Nat)),(25,iv (i:Nat))] [.box a.cells,.box s.cells,.row Ty.LValue (out.map vrow) false]
theorem zgT (a:Ac) (s:Sch) (frs:List Fr) (tb:List Tb) (f:X→V × Int) (hs:zad s.cols) (hr:zad a.rows) (hf:∀ r∈a.rows,zad r∧∀ x∈r,PEv f x frs tb) (i:Nat) (out:List (List V)) (hi:i≤(a.rows).length) (hI:out.length≤i∧insL f s.cols.length a.rows []=insL f s.cols.length (a.rows.drop i) out):(∃ (out':List (List V)),(out'.length≤(a.rows).length∧insL f s.cols.length a.rows []=insL f s.cols.length (a.rows.drop (a.rows).length) out')∧(decide ((((a.rows).length:Nat):Int) < (((a.rows.map zaH).length:Nat):Int))=false)∧∀ R,Good E0 B.dml_inserted [] (zsJ a s frs tb f (a.rows).length out') R→Good E0 B.dml_inserted [] (zsJ a s frs tb f i out) R)∨(∃ (r:List (List V)) (c:Int),(r=[]∧c≠0∧insL f s.cols.length a.rows []=([],c))∧Good E0 B.dml_inserted [] (zsJ a s frs tb f i out) (Shut 0 fun rZ hZ=>rZ=(.tup [.sl (r.map vrow),iv c])∧hZ=[])):=by
 obtain ⟨kk,hk⟩:∃ kk,i+kk=(a.rows).length:=⟨(a.rows).length - i,by omega⟩
 induction kk generalizing i out with
 | zero =>
  have e0:i=(a.rows).length:=by omega
  subst e0
  exact .inl ⟨out,hI,by simp,fun R hg=>hg⟩
 | succ kk ih =>
  obtain ⟨x,hx⟩:=zay (l:=a.rows) (i:=i) (by omega)
  have h0:decide (((i:Nat):Int) < (((a.rows.map zaH).length:Nat):Int))=true:=by simp;omega
  have hw:IntKind.i64.wrap (((i:Nat):Int)+1)=((i+1:Nat):Int):=zao i (by first|omega|(simp only [zad,Few] at *;omega))
  have hx1:=(hf x (List.mem_of_getElem? hx)).1;have hx2:=(hf x (List.mem_of_getElem? hx)).2;have hol:out.length≤1000000000:=by have:=hI.1;simp only [zad] at hr;omega
  cases h1:(↑(zab x).length:Int) != (↑(List.map Col.cells s.cols).length:Int)
  ·rcases zgK a s frs tb f i x out zpj hx2 0 ([]) zpj zpj with ⟨row2,q2,q2_1,g2⟩|⟨r2_0,r2_1,p2_0,g2⟩
   ·exact (ih (i+1) (out++[row2]) (by omega) (by exact ⟨by have:=hI.1;simp;omega,zum hI.2 hx zpF (zuA (And.right ‹_≤_∧zbB f x []=_›))⟩) (by omega)).elim (fun ⟨outZ,qZ,xZ,gZ⟩=>.inl ⟨outZ,qZ,xZ,fun R hg=>zaa (wklN [sb h0,se (zah zaH hx rfl),sb h1] [2,3,4,5,10,13,23,24,25,35,36,37] 3 [(.ot 13 Ty.Value,4)] kr (g2 _ (zaa (wkl [sb q2_1,sqx (row2.length=(List.map V.cells row2).length∧True),sqx (AllLen [[AV.sl (List.map V.cells row2)]] 1∧out.length=(List.map vrow out).length∧(((List.map vrow out).length+[[AV.sl (List.map V.cells row2)]].length) * 24).le 140737488355328),si hw] [2,3,4,5,10,23,24,25] 3 kr (zat (show ([(2,AV.sl (List.map Fr.cells frs)),(3,AV.sl (List.map Tb.cells tb)),(4,AV.p 0 0),(5,AV.p 1 0),(10,AV.own 2 (List.map vrow out++[[AV.sl (List.map V.cells row2)]]).length),(23,AV.sl (List.map zaH a.rows)),(24,iv (↑(List.map zaH a.rows).length:Int)),(25,iv (↑(i+1):Int))]:TS)=_ by first|rfl|(simp;done)|(simp [X.cells,Qy.cells,V.cells,Col.cells,Rw.cells,Tb.cells,Fr.cells,Sch.cells,Tp.cells,Pl.cells,xCol,xLit,xBin,xNeg,Ac.cells,Se.cells,Pr.cells,Ch.cells,Rw.cells];done)) (show ([Blk.box [iv a.kind,sv a.table,AV.sl (List.map (fun r=>[AV.sl (zab r)]) a.rows),AV.sl (zaf a.query),AV.sl (List.map Se.cells a.sets),AV.sl (zab a.wh),sv a.text],Blk.box [sv s.name,AV.sl (List.map Col.cells s.cols)],Blk.row Ty.LValue (List.map vrow out++[[AV.sl (List.map V.cells row2)]]) false]:Heap)=_ by first|rfl|(simp;done)|(simp [X.cells,Qy.cells,V.cells,Col.cells,Rw.cells,Tb.cells,Fr.cells,Sch.cells,Tp.cells,Pl.cells,xCol,xLit,xBin,xNeg,Ac.cells,Se.cells,Pr.cells,Ch.cells,Rw.cells];done)) (gZ R hg))))))⟩) (fun ⟨rY,cY,pZ,gZ⟩=>.inr ⟨rY,cY,pZ,zaa (wklN [sb h0,se (zah zaH hx rfl),sb h1] [2,3,4,5,10,13,23,24,25,35,36,37] 3 [(.ot 13 Ty.Value,4)] kr (g2 _ (zaa (wkl [sb q2_1,sqx (row2.length=(List.map V.cells row2).length∧True),sqx (AllLen [[AV.sl (List.map V.cells row2)]] 1∧out.length=(List.map vrow out).length∧(((List.map vrow out).length+[[AV.sl (List.map V.cells row2)]].length) * 24).le 140737488355328),si hw] [2,3,4,5,10,23,24,25] 3 kr (zat (show ([(2,AV.sl (List.map Fr.cells frs)),(3,AV.sl (List.map Tb.cells tb)),(4,AV.p 0 0),(5,AV.p 1 0),(10,AV.own 2 (List.map vrow out++[[AV.sl (List.map V.cells row2)]]).length),(23,AV.sl (List.map zaH a.rows)),(24,iv (↑(List.map zaH a.rows).length:Int)),(25,iv (↑(i+1):Int))]:TS)=_ by first|rfl|(simp;done)|(simp [X.cells,Qy.cells,V.cells,Col.cells,Rw.cells,Tb.cells,Fr.cells,Sch.cells,Tp.cells,Pl.cells,xCol,xLit,xBin,xNeg,Ac.cells,Se.cells,Pr.cells,Ch.cells,Rw.cells];done)) (show ([Blk.box [iv a.kind,sv a.table,AV.sl (List.map (fun r=>[AV.sl (zab r)]) a.rows),AV.sl (zaf a.query),AV.sl (List.map Se.cells a.sets),AV.sl (zab a.wh),sv a.text],Blk.box [sv s.name,AV.sl (List.map Col.cells s.cols)],Blk.row Ty.LValue (List.map vrow out++[[AV.sl (List.map V.cells row2)]]) false]:Heap)=_ by first|rfl|(simp;done)|(simp [X.cells,Qy.cells,V.cells,Col.cells,Rw.cells,Tb.cells,Fr.cells,Sch.cells,Tp.cells,Pl.cells,xCol,xLit,xBin,xNeg,Ac.cells,Se.cells,Pr.cells,Ch.cells,Rw.cells];done)) gZ)))))⟩)
   ·exact .inr ⟨r2_0,r2_1,(by first|exact ⟨rfl,by omega,zro hI.2 hx (by have h:=‹((((zab x).length:Nat):Int) != _)=true›;simp at h;omega)⟩|exact ⟨(And.left ‹_=[]∧_≠(0:Int)∧_›),(And.right ‹_=[]∧_≠(0:Int)∧_›).1,zrz hI.2 hx zpF (And.right ‹_=[]∧_≠(0:Int)∧_›).2 (And.right ‹_=[]∧_≠(0:Int)∧_›).1⟩),zaa (wklN [sb h0,se (zah zaH hx rfl),sb h1] [2,3,4,5,10,13,23,24,25,35,36,37] 3 [(.ot 13 Ty.Value,4)] kr g2)⟩
  ·exact .inr ⟨[],5,(by first|exact ⟨rfl,by omega,zro hI.2 hx (by have h:=‹((((zab x).length:Nat):Int) != _)=true›;simp at h;omega)⟩|exact ⟨(And.left ‹_=[]∧_≠(0:Int)∧_›),(And.right ‹_=[]∧_≠(0:Int)∧_›).1,zrz hI.2 hx zpF (And.right ‹_=[]∧_≠(0:Int)∧_›).2 (And.right ‹_=[]∧_≠(0:Int)∧_›).1⟩),zaa (wkr [sb h0,se (zah zaH hx rfl),sb h1] kr)⟩
end Go.AM
namespace Go.AM
set_option maxRecDepth 100000
set_option maxHeartbeats 1000000
set_option linter.unusedSimpArgs false
set_option linter.unusedVariables false
theorem zg2 {p:Prop} (h:p:=by first|assumption|(simp only [zad] at *;omega)|exact ⟨Nat.le_refl _,rfl⟩|exact inq0 (by assumption) hr|(simp;done)):p:=h
theorem zgv {p:Prop} (h:p:=by first|assumption|omega|(simp;done)|(simp;omega)):p:=h
theorem zpI {p:Prop} (h:p:=by first|exact zu3 (by assumption) (by assumption)|exact insB_q (by assumption) (by assumption)|exact insB_l (by assumption)):p:=h
def wid (v:List V) (s:Sch):Bool :=
 (↑(List.map V.cells v).length:Int) != (↑(List.map Col.cells s.cols).length:Int)
theorem zfZ (v:List V) (s:Sch) :zac E0 S.dml_inserted_c1 [vsl v,.p 0 0] [.box s.cells] (bv (wid v s)) [.box s.cells]:=by
 exact wk At.dml_inserted_c1 [] kr
def okW (s:Sch) (v:List V):Bool:=!wid v s
noncomputable def zrG (l:List (List V)) (s:Sch) (i:Nat) :Cfg:=zar B.slices_IndexFunc_Value 0 [(0,.sl (l.map vrow)),(1,.fn S.dml_inserted_c1 [.p 0 0]),(7,iv ((l.map vrow).length:Nat)),(8,iv (i:Nat))] [.box s.cells]
theorem zdQ (l:List (List V)) (s:Sch) (hl:zad l) (i:Nat)  (hi:i≤(l).length) (hI:(l.take i).all (okW s)=true):(((l.take (l).length).all (okW s)=true)∧(decide ((((l).length:Nat):Int) < (((l.map vrow).length:Nat):Int))=false)∧∀ R,Good E0 B.slices_IndexFunc_Value [.box s.cells] (zrG l s (l).length ) R→Good E0 B.slices_IndexFunc_Value [.box s.cells] (zrG l s i ) R)∨(∃ (r:Int),(decide (0≤r)=true∧l.all (okW s)=false)∧Good E0 B.slices_IndexFunc_Value [.box s.cells] (zrG l s i ) (Shut 1 fun rZ hZ=>rZ=(iv r)∧hZ=[.box s.cells])):=by
 obtain ⟨kk,hk⟩:∃ kk,i+kk=(l).length:=⟨(l).length - i,by omega⟩
 induction kk generalizing i  with
 | zero =>
  have e0:i=(l).length:=by omega
  subst e0
  exact .inl ⟨hI,by simp,fun R hg=>hg⟩
 | succ kk ih =>
  obtain ⟨x,hx⟩:=zay (l:=l) (i:=i) (by omega)
  have h0:decide (((i:Nat):Int) < (((l.map vrow).length:Nat):Int))=true:=by simp;omega
  have hw:IntKind.i64.wrap (((i:Nat):Int)+1)=((i+1:Nat):Int):=zao i (by first|omega|(simp only [zad,Few] at *;omega))
  let p_1:List St:=[sb h0,se (zah vrow hx rfl),sl [0] (zfZ x s)]
  cases h1:wid x s
  ·exact (ih (i+1) (by omega) (by exact zcK hI hx (by unfold okW;rw [show wid x s=false by assumption];rfl)) (by omega)).elim (fun ⟨qZ,xZ,gZ⟩=>.inl ⟨qZ,xZ,fun R hg=>zaa (wkl (p_1++[sb h1,si hw]) [0,1,7,8] 1 kr (gZ R hg))⟩) (fun ⟨rY,pZ,gZ⟩=>.inr ⟨rY,pZ,zaa (wkl [sb h0,se (zah vrow hx rfl),sl [0] (zfZ x s),sb h1,si hw] [0,1,7,8] 1 kr gZ)⟩)
  ·exact .inr ⟨(i:Int),(by exact ⟨by simp,zb0 hx (by unfold okW;rw [show wid x s=true by assumption];rfl)⟩),zaa (wkr (p_1++[sb h1]) kr)⟩
theorem zgJ (l:List (List V)) (s:Sch) (hl:zad l):∃ (r:Int),decide (0≤r)=!l.all (okW s)∧zac E0 S.slices_IndexFunc_Value [.sl (l.map vrow),.fn S.dml_inserted_c1 [.p 0 0]] [.box s.cells] (iv r) [.box s.cells]:=by
 rcases zdQ l s zgv 0 zgv zgv with ⟨q1,q1_1,g1⟩|⟨r1_0,p1_0,g1⟩
 ·exact ⟨-1,(by first|(have h:=(by assumption:List.all (List.take _ _) _=true);rw [List.take_length] at h;rw [h];rfl)|(have h:=(by assumption:_∧List.all _ _=false);rw [h.1,h.2];rfl)),wkc At.slices_IndexFunc_Value [] [0,1,7,8] 1 kr (g1 _ (zaa (wkr [sb q1_1] kr)))⟩
 ·exact ⟨r1_0,(by first|(have h:=(by assumption:List.all (List.take _ _) _=true);rw [List.take_length] at h;rw [h];rfl)|(have h:=(by assumption:_∧List.all _ _=false);rw [h.1,h.2];rfl)),wkc At.slices_IndexFunc_Value [] [0,1,7,8] 1 kr (g1)⟩
theorem c_cfW (l:List (List V)) (s:Sch) (hl:zad l):∃ (r:Bool),r=!l.all (okW s)∧zac E0 S.slices_ContainsFunc_Value [.sl (l.map vrow),.fn S.dml_inserted_c1 [.p 0 0]] [.box s.cells] (bv r) [.box s.cells]:=by
 obtain ⟨r1,q1,c1⟩:=(zgJ l s zgv)
 exact ⟨decide ((0:Int)≤r1),(by assumption),wk At.slices_ContainsFunc_Value [sl [0] c1] kr⟩
theorem zb6 (l:List (List V)) (s:Sch) (hl:zad l):zac E0 S.slices_ContainsFunc_Value [.sl (l.map vrow),.fn S.dml_inserted_c1 [.p 0 0]] [.box s.cells] (bv (!l.all (okW s))) [.box s.cells]:=by
 obtain ⟨r,rfl,h⟩:=c_cfW l s hl
 exact h
abbrev PRw (g:Qy→List (List V) × Int) (q:Qy) (frs:List Fr) (tb:List Tb):Prop:=Pure S.evaluate_Rows [q.av,fsl frs,tsl tb] (.tup [.sl ((g q).1.map vrow),iv (g q).2])
def insQ (g:Qy→List (List V) × Int) (s:Sch):List Qy→List (List V)→List (List V) × Int
 | [],acc=>(acc,0)
 | q::r,acc=>bif (g q).2 != 0 then ([],(g q).2) else bif !(g q).1.all (okW s) then ([],5) else insQ g s r (acc++(g q).1)
theorem zto {g:Qy→List (List V) × Int} {s:Sch} {l:List Qy} {i:Nat} {x:Qy} {acc a0:List (List V)} (h:insQ g s l a0=insQ g s (l.drop i) acc) (hx:l[i]?=some x) (h1:((g x).2 != 0)=false) (h2:(!(g x).1.all (okW s))=false):insQ g s l a0=insQ g s (l.drop (i+1)) (acc++(g x).1):=by
 obtain ⟨hi,e⟩:=List.getElem?_eq_some_iff.1 hx
 rw [h,List.drop_eq_getElem_cons hi,e]
 simp only [insQ,h1,h2,cond_false]
theorem zov {g:Qy→List (List V) × Int} {s:Sch} {l:List Qy} {i:Nat} {x:Qy} {acc a0:List (List V)} (h:insQ g s l a0=insQ g s (l.drop i) acc) (hx:l[i]?=some x) (h1:((g x).2 != 0)=true):(g x).2≠0∧insQ g s l a0=([],(g x).2):=by
 obtain ⟨hi,e⟩:=List.getElem?_eq_some_iff.1 hx
 rw [h,List.drop_eq_getElem_cons hi,e]
 exact ⟨by simpa using h1,by simp only [insQ,h1,cond_true]⟩
theorem zo0 {g:Qy→List (List V) × Int} {s:Sch} {l:List Qy} {i:Nat} {x:Qy} {acc a0:List (List V)} (h:insQ g s l a0=insQ g s (l.drop i) acc) (hx:l[i]?=some x) (h1:((g x).2 != 0)=false) (h2:(!(g x).1.all (okW s))=true):(5:Int)≠0∧insQ g s l a0=([],5):=by
 obtain ⟨hi,e⟩:=List.getElem?_eq_some_iff.1 hx
 rw [h,List.drop_eq_getElem_cons hi,e]
 exact ⟨by omega,by simp only [insQ,h1,h2,cond_true,cond_false]⟩
theorem zux {g:Qy→List (List V) × Int} {s:Sch} {l:List Qy} {acc a0:List (List V)} (h:insQ g s l a0=insQ g s (l.drop l.length) acc):insQ g s l a0=(acc,0):=by
 rw [h,List.drop_length];rfl
def bndQ (i:Nat):Nat:=1000000+100000 * i
theorem ztg {i k m:Nat} (h:k≤bndQ i) (h2:m≤100000):k+m≤bndQ (i+1):=by unfold bndQ at *;omega
theorem zvr {i k m:Nat} (h:k≤bndQ i) (h2:m≤100000) (hi:i≤1000):k+m≤1000000000:=by unfold bndQ at *;omega
theorem bndQ_0 {k m:Nat} (h:k≤m) (h2:m≤1000000):k≤bndQ 0:=by unfold bndQ;omega
abbrev insA (f:X→V × Int) (s:Sch) (a:Ac):List (List V):=(insL f s.cols.length a.rows []).1
noncomputable def zsF (a:Ac) (s:Sch) (frs:List Fr) (tb:List Tb) (f:X→V × Int) (g:Qy→List (List V) × Int) (i:Nat) (out:List (List V)):Cfg:=zar B.dml_inserted 2 [(2,fsl frs),(3,tsl tb),(5,.p 1 0),(10,.own 2 out.length),(62,.sl (zaf a.query)),(63,iv ((zaf a.query).length:Nat)),(64,iv (i:Nat))] [.box a.cells,.box s.cells,.row Ty.LValue (out.map vrow) false]
theorem zg0 (a:Ac) (s:Sch) (frs:List Fr) (tb:List Tb) (f:X→V × Int) (g:Qy→List (List V) × Int) (hf:∀ r∈a.rows,zad r∧∀ x∈r,PEv f x frs tb) (hq:a.query.length≤1000) (hg:∀ q∈a.query,(g q).1.length≤100000∧PRw g q frs tb) (i:Nat) (out:List (List V)) (hi:i≤(a.query).length) (hI:out.length≤bndQ i∧insQ g s a.query (insA f s a)=insQ g s (a.query.drop i) out):(∃ (out':List (List V)),(out'.length≤bndQ (a.query).length∧insQ g s a.query (insA f s a)=insQ g s (a.query.drop (a.query).length) out')∧(decide ((((a.query).length:Nat):Int) < (((zaf a.query).length:Nat):Int))=false)∧∀ R,Good E0 B.dml_inserted [] (zsF a s frs tb f g (a.query).length out') R→Good E0 B.dml_inserted [] (zsF a s frs tb f g i out) R)∨(∃ (r:List (List V)) (c:Int),(r=[]∧c≠0∧insQ g s a.query (insA f s a)=([],c))∧Good E0 B.dml_inserted [] (zsF a s frs tb f g i out) (Shut 0 fun rZ hZ=>rZ=(.tup [.sl (r.map vrow),iv c])∧hZ=[])):=by
 obtain ⟨kk,hk⟩:∃ kk,i+kk=(a.query).length:=⟨(a.query).length - i,by omega⟩
 induction kk generalizing i out with
 | zero =>
  have e0:i=(a.query).length:=by omega
  subst e0
  exact .inl ⟨out,hI,by simp,fun R hg=>hg⟩
 | succ kk ih =>
  obtain ⟨x,hx⟩:=zay (l:=a.query) (i:=i) (by omega)
  have h0:decide (((i:Nat):Int) < (((zaf a.query).length:Nat):Int))=true:=by simp;omega
  have hw:IntKind.i64.wrap (((i:Nat):Int)+1)=((i+1:Nat):Int):=zao i (by first|omega|(simp only [zad,Few] at *;omega))
  have hx0:=(hg x (List.mem_of_getElem? hx)).1;have hx1:zad (g x).1:=(by simp only [zad];omega);have hx2:=(hg x (List.mem_of_getElem? hx)).2;have hil:i < a.query.length:=(List.getElem?_eq_some_iff.1 hx).1;have hol:out.length+(g x).1.length≤1000000000:=zvr hI.1 hx0 (by omega)
  cases h1:(g x).snd != 0
  ·cases h2:!(g x).fst.all (okW s)
   ·exact (ih (i+1) (out++(g x).fst) (by omega) (by exact ⟨by rw [List.length_append];exact ztg hI.1 (hg x (List.mem_of_getElem? hx)).1,zto hI.2 hx (by assumption) (by assumption)⟩) (by omega)).elim (fun ⟨outZ,qZ,xZ,gZ⟩=>.inl ⟨outZ,qZ,xZ,fun R hg=>zaa (wkl [sb h0,se (zaR hx),sc hx2,sb h1,sl [1] (zb6 ((g x).fst) s zgv),sb h2,sqx (AllLen (List.map vrow (g x).fst) 1∧out.length=(List.map vrow out).length∧(((List.map vrow out).length+(List.map vrow (g x).fst).length) * 24).le 140737488355328),si hw] [2,3,5,10,62,63,64] 3 kr (zat (show ([(2,AV.sl (List.map Fr.cells frs)),(3,AV.sl (List.map Tb.cells tb)),(5,AV.p 1 0),(10,AV.own 2 (List.map vrow out++List.map vrow (g x).fst).length),(62,AV.sl (zaf a.query)),(63,iv (↑(zaf a.query).length:Int)),(64,iv (↑(i+1):Int))]:TS)=_ by first|rfl|(simp;done)|(simp [X.cells,Qy.cells,V.cells,Col.cells,Rw.cells,Tb.cells,Fr.cells,Sch.cells,Tp.cells,Pl.cells,xCol,xLit,xBin,xNeg,Ac.cells,Se.cells,Pr.cells,Ch.cells,Rw.cells];done)) (show ([Blk.box [iv a.kind,sv a.table,AV.sl (List.map (fun r=>[AV.sl (zab r)]) a.rows),AV.sl (zaf a.query),AV.sl (List.map Se.cells a.sets),AV.sl (zab a.wh),sv a.text],Blk.box [sv s.name,AV.sl (List.map Col.cells s.cols)],Blk.row Ty.LValue (List.map vrow out++List.map vrow (g x).fst) false]:Heap)=_ by first|rfl|(simp;done)|(simp [X.cells,Qy.cells,V.cells,Col.cells,Rw.cells,Tb.cells,Fr.cells,Sch.cells,Tp.cells,Pl.cells,xCol,xLit,xBin,xNeg,Ac.cells,Se.cells,Pr.cells,Ch.cells,Rw.cells];done)) (gZ R hg)))⟩) (fun ⟨rY,cY,pZ,gZ⟩=>.inr ⟨rY,cY,pZ,zaa (wkl [sb h0,se (zaR hx),sc hx2,sb h1,sl [1] (zb6 ((g x).fst) s zgv),sb h2,sqx (AllLen (List.map vrow (g x).fst) 1∧out.length=(List.map vrow out).length∧(((List.map vrow out).length+(List.map vrow (g x).fst).length) * 24).le 140737488355328),si hw] [2,3,5,10,62,63,64] 3 kr (zat (show ([(2,AV.sl (List.map Fr.cells frs)),(3,AV.sl (List.map Tb.cells tb)),(5,AV.p 1 0),(10,AV.own 2 (List.map vrow out++List.map vrow (g x).fst).length),(62,AV.sl (zaf a.query)),(63,iv (↑(zaf a.query).length:Int)),(64,iv (↑(i+1):Int))]:TS)=_ by first|rfl|(simp;done)|(simp [X.cells,Qy.cells,V.cells,Col.cells,Rw.cells,Tb.cells,Fr.cells,Sch.cells,Tp.cells,Pl.cells,xCol,xLit,xBin,xNeg,Ac.cells,Se.cells,Pr.cells,Ch.cells,Rw.cells];done)) (show ([Blk.box [iv a.kind,sv a.table,AV.sl (List.map (fun r=>[AV.sl (zab r)]) a.rows),AV.sl (zaf a.query),AV.sl (List.map Se.cells a.sets),AV.sl (zab a.wh),sv a.text],Blk.box [sv s.name,AV.sl (List.map Col.cells s.cols)],Blk.row Ty.LValue (List.map vrow out++List.map vrow (g x).fst) false]:Heap)=_ by first|rfl|(simp;done)|(simp [X.cells,Qy.cells,V.cells,Col.cells,Rw.cells,Tb.cells,Fr.cells,Sch.cells,Tp.cells,Pl.cells,xCol,xLit,xBin,xNeg,Ac.cells,Se.cells,Pr.cells,Ch.cells,Rw.cells];done)) gZ))⟩)
   ·exact .inr ⟨[],5,(by first|exact ⟨rfl,zov hI.2 hx (by assumption)⟩|exact ⟨rfl,zo0 hI.2 hx (by assumption) (by assumption)⟩),zaa (wkr [sb h0,se (zaR hx),sc hx2,sb h1,sl [1] (zb6 ((g x).fst) s zgv),sb h2] kr)⟩
  ·exact .inr ⟨[],(g x).snd,(by first|exact ⟨rfl,zov hI.2 hx (by assumption)⟩|exact ⟨rfl,zo0 hI.2 hx (by assumption) (by assumption)⟩),zaa (wkr [sb h0,se (zaR hx),sc hx2,sb h1] kr)⟩
def insB (f:X→V × Int) (g:Qy→List (List V) × Int) (s:Sch) (a:Ac):List (List V) × Int :=
 bif (insL f s.cols.length a.rows []).2 != 0 then ([],(insL f s.cols.length a.rows []).2) else insQ g s a.query (insL f s.cols.length a.rows []).1
section
variable {f : X → V × Int} {g : Qy → List (List V) × Int} {s : Sch} {a : Ac} {out1 out2 r : List (List V)} {c : Int}
theorem zmQ (q1:out1.length≤a.rows.length∧insL f s.cols.length a.rows []=insL f s.cols.length (a.rows.drop a.rows.length) out1):insA f s a=out1∧(insL f s.cols.length a.rows []).2=0:=by
 have h:=zvs q1.2
 unfold insA;rw [h];exact ⟨rfl,rfl⟩
theorem inq0 (q1:out1.length≤a.rows.length∧insL f s.cols.length a.rows []=insL f s.cols.length (a.rows.drop a.rows.length) out1) (hr:a.rows.length≤1000000):out1.length≤bndQ 0∧insQ g s a.query (insA f s a)=insQ g s (a.query.drop 0) out1 :=
 ⟨bndQ_0 q1.1 hr,by rw [(zmQ q1).1];rfl⟩
theorem zu3 (q1:out1.length≤a.rows.length∧insL f s.cols.length a.rows []=insL f s.cols.length (a.rows.drop a.rows.length) out1) (q2:out2.length≤bndQ a.query.length∧insQ g s a.query (insA f s a)=insQ g s (a.query.drop a.query.length) out2):(out2,0)=insB f g s a:=by
 have h:=zux q2.2
 unfold insA at h
 unfold insB;rw [(zmQ q1).2,h];rfl
theorem insB_q (q1:out1.length≤a.rows.length∧insL f s.cols.length a.rows []=insL f s.cols.length (a.rows.drop a.rows.length) out1) (h:r=[]∧c≠0∧insQ g s a.query (insA f s a)=([],c)):(r,c)=insB f g s a:=by
 obtain ⟨h1,h2,h3⟩:=h
 unfold insA at h3
 unfold insB;rw [(zmQ q1).2,h3,h1];rfl
theorem insB_l (h:r=[]∧c≠0∧insL f s.cols.length a.rows []=([],c)):(r,c)=insB f g s a:=by
 obtain ⟨h1,h2,h3⟩:=h
 have h4:(c != 0)=true:=by simpa using h2
 unfold insB;rw [h3,h1];simp only [h4,cond_true]
end
theorem znb (a:Ac) (s:Sch) (frs:List Fr) (tb:List Tb) (f:X→V × Int) (g:Qy→List (List V) × Int) (hs:zad s.cols) (hr:a.rows.length≤1000000) (hf:∀ r∈a.rows,zad r∧∀ x∈r,PEv f x frs tb) (hq:a.query.length≤1000) (hg:∀ q∈a.query,(g q).1.length≤100000∧PRw g q frs tb):∃ (r:List (List V)) (c:Int),(r,c)=insB f g s a∧zac E0 S.dml_inserted [a.av,s.av,fsl frs,tsl tb] [] (.tup [.sl (r.map vrow),iv c]) []:=by
 rcases zgT a s frs tb f zg2 zg2 hf 0 ([]) zg2 zg2 with ⟨out1,q1,q1_1,g1⟩|⟨r1_0,r1_1,p1_0,g1⟩
 ·rcases zg0 a s frs tb f g hf zg2 hg 0 out1 zg2 zg2 with ⟨out2,q2,q2_1,g2⟩|⟨r2_0,r2_1,p2_0,g2⟩
  ·exact ⟨out2,0,zpI,wkcN At.dml_inserted [] [2,3,4,5,10,23,24,25] 2 [(.ot 10 Ty.LValue,3)] kr (g1 _ (zaa (wkl [sb q1_1] [2,3,5,10,62,63,64] 3 kr (g2 _ (zaa (wkr [sqx (out2.length=(List.map vrow out2).length∧True∧True),sb q2_1] kr))))))⟩
  ·exact ⟨r2_0,r2_1,zpI,wkcN At.dml_inserted [] [2,3,4,5,10,23,24,25] 2 [(.ot 10 Ty.LValue,3)] kr (g1 _ (zaa (wkl [sb q1_1] [2,3,5,10,62,63,64] 3 kr g2)))⟩
 ·exact ⟨r1_0,r1_1,zpI,wkcN At.dml_inserted [] [2,3,4,5,10,23,24,25] 2 [(.ot 10 Ty.LValue,3)] kr (g1)⟩
theorem zmN (a:Ac) (s:Sch) (frs:List Fr) (tb:List Tb) (f:X→V × Int) (g:Qy→List (List V) × Int) (hs:zad s.cols) (hr:a.rows.length≤1000000) (hf:∀ r∈a.rows,zad r∧∀ x∈r,PEv f x frs tb) (hq:a.query.length≤1000) (hg:∀ q∈a.query,(g q).1.length≤100000∧PRw g q frs tb):zac E0 S.dml_inserted [a.av,s.av,fsl frs,tsl tb] [] (.tup [.sl ((insB f g s a).1.map vrow),iv (insB f g s a).2]) []:=by
 obtain ⟨r,c,h,h2⟩:=znb a s frs tb f g hs hr hf hq hg
 rw [← h];exact h2
def zhg (ib:List (List V) × Int) (a:Ac):Ch × Int :=
 bif ib.snd != 0 then
  (Ch.mk [] [] [],ib.snd)
 else
  (Ch.mk ib.fst [] [],0)
theorem zjm (ib:List (List V) × Int) (a:Ac) (s:Sch) (frs:List Fr) (tb:List Tb) (hk1:(a.kind==1)=true) (hv:zac E0 S.dml_target [a.av,tsl tb] [] (.tup [s.av,iv 0]) []) (hi:Pure S.dml_inserted [a.av,s.av,fsl frs,tsl tb] (.tup [.sl (ib.1.map vrow),iv ib.2])):zac E0 S.dml_Candidates [a.av,fsl frs,tsl tb] [] (.tup [(zhg ib a).1.av,iv (zhg ib a).2]) []:=by
 unfold zhg
 let p_1:List St:=[sc hv,sb (rfl:false=false),sb hk1,sc hi]
 cases h1:ib.snd != 0
 ·exact wk At.dml_Candidates (p_1++[sb h1]) kr
 ·exact wk At.dml_Candidates (p_1++[sb h1]) kr
end Go.AM
namespace Go.AM
set_option maxRecDepth 100000
set_option maxHeartbeats 1000000
set_option linter.unusedSimpArgs false
set_option linter.unusedVariables false
theorem zj4 {p:Prop} (h:p:=by first|exact (zng s (by assumption)).symm|exact (zmG s (by assumption)).symm|exact (zta (by assumption) (by assumption)).symm|exact ztH (by assumption) (by assumption) (by assumption) (by assumption) (by assumption)|(have h:=(by assumption:_∧List.all _ okC=false);rw [znl h.2];exact h.1)):p:=h
theorem zoI {p:Prop} (h:p:=by exact zcK hI (zkS (by assumption)) (by first|exact zu5 (by assumption)|exact zvW (by assumption)|exact zvY (by assumption))):p:=h
theorem zkS {s:Str} {i:Nat} {c:UInt8} (h:ByteAt s ((i:Nat):Int) ((c.toNat:Nat):Int)):s.data.toList[i]?=some c:=by
 obtain ⟨_,h1⟩:=h
 rw [Option.map_eq_some_iff] at h1
 obtain ⟨b,hb,e⟩:=h1
 have hc:b=c:=UInt8.toNat_inj.1 (by omega)
 subst hc
 have hb2:s[i]?=some b:=by simpa using hb
 by_cases h:i < s.size
 ·rw [getElem?_pos s i h,Option.some.injEq] at hb2
  have h2:i < s.data.size:=h
  rw [Array.getElem?_toList,Array.getElem?_eq_getElem h2]
  exact congrArg some hb2
 ·rw [getElem?_neg s i h] at hb2;simp at hb2
def letR (c:Int):Bool:=bif decide (97≤c) then decide (c≤122) else false
def digR (c:Int):Bool:=bif decide (48≤c) then decide (c≤57) else false
theorem znX (c:Int) :∃ (r:Bool),r=letR c∧zac E0 S.ref4_Letter [.v (.int .u8 c)] [] (bv r) []:=by
 cases h1:decide (97≤c)
 ·exact ⟨false,(by (simp only [letR,cond_true,cond_false, *])),wk At.ref4_Letter [sb h1] kr⟩
 ·exact ⟨decide (c≤(122:Int)),(by (simp only [letR,cond_true,cond_false, *])),wk At.ref4_Letter [sg h1] kr⟩
theorem zfY (c:Int):zac E0 S.ref4_Letter [.v (.int .u8 c)] [] (bv (letR c)) []:=by
 obtain ⟨r,rfl,h⟩:=znX c
 exact h
theorem zoz (c:Int) :∃ (r:Bool),r=digR c∧zac E0 S.ref4_Digit [.v (.int .u8 c)] [] (bv r) []:=by
 cases h1:decide (48≤c)
 ·exact ⟨false,(by (simp only [digR,cond_true,cond_false, *])),wk At.ref4_Digit [sb h1] kr⟩
 ·exact ⟨decide (c≤(57:Int)),(by (simp only [digR,cond_true,cond_false, *])),wk At.ref4_Digit [sg h1] kr⟩
theorem zj7 (c:Int):zac E0 S.ref4_Digit [.v (.int .u8 c)] [] (bv (digR c)) []:=by
 obtain ⟨r,rfl,h⟩:=zoz c
 exact h
theorem zu5 {c:UInt8} (h:(!letR ((c.toNat:Nat):Int))=false):okC c=true:=by
 simp only [letR,okC] at *;cases h1:decide (97≤((c.toNat:Nat):Int)) <;> simp_all
theorem zvW {c:UInt8} (h:(!digR ((c.toNat:Nat):Int))=false):okC c=true:=by
 simp only [digR,okC] at *;cases h1:decide (48≤((c.toNat:Nat):Int)) <;> simp_all
theorem zvY {c:UInt8} (h:(((c.toNat:Nat):Int) != 95)=false):okC c=true:=by
 simp only [okC];simp at h;simp [h]
theorem okC_no {c:UInt8} (h1:(!letR ((c.toNat:Nat):Int))=true) (h2:(!digR ((c.toNat:Nat):Int))=true) (h3:(((c.toNat:Nat):Int) != 95)=true):okC c=false:=by
 simp only [letR,digR,okC] at *
 cases h4:decide (97≤((c.toNat:Nat):Int)) <;> cases h5:decide (48≤((c.toNat:Nat):Int)) <;> simp_all
noncomputable def zrQ (s:Str) (i:Nat) :Cfg:=zar B.ref4_ValidName 0 [(0,sv s),(3,iv (i:Nat))] []
theorem zfT (s:Str) (hs:decide ((12:Int) < ((s.size:Nat):Int))=false) (i:Nat)  (hi:i≤(s.size)) (hI:(s.data.toList.take i).all okC=true):(((s.data.toList.take s.size).all okC=true)∧(decide ((((s.size):Nat):Int) < (((s.size):Nat):Int))=false)∧∀ R,Good E0 B.ref4_ValidName [] (zrQ s s.size ) R→Good E0 B.ref4_ValidName [] (zrQ s i ) R)∨(∃ (r:Bool),(r=false∧s.data.toList.all okC=false)∧Good E0 B.ref4_ValidName [] (zrQ s i ) (Shut 0 fun rZ hZ=>rZ=(bv r)∧hZ=[])):=by
 obtain ⟨kk,hk⟩:∃ kk,i+kk=(s.size):=⟨(s.size) - i,by omega⟩
 induction kk generalizing i  with
 | zero =>
  have e0:i=(s.size):=by omega
  subst e0
  exact .inl ⟨hI,by simp,fun R hg=>hg⟩
 | succ kk ih =>
  have h0:decide (((i:Nat):Int) < (((s.size):Nat):Int))=true:=by simp;omega
  have hw:IntKind.i64.wrap (((i:Nat):Int)+1)=((i+1:Nat):Int):=zao i (by (simp only [decide_eq_false_iff_not] at hs;omega))
  obtain ⟨c1,b1⟩:=zmg (s:=s) (i:=(i:Int)) (by first|omega|(simp only [decide_eq_false_iff_not,decide_eq_true_eq] at *;omega))
  let p_1:List St:=[sb h0,sy b1,sc (zfY ((c1.toNat:Int)))]
  let p_2:List St:=[sb h0,sy b1,sc (zfY ((c1.toNat:Int)))]
  cases h2:!letR (c1.toNat:Int)
  ·exact (ih (i+1) (by omega) zoI (by omega)).elim (fun ⟨qZ,xZ,gZ⟩=>.inl ⟨qZ,xZ,fun R hg=>zaa (wkl (p_1++[sb h2,si hw]) [0,3] 0 kr (gZ R hg))⟩) (fun ⟨rY,pZ,gZ⟩=>.inr ⟨rY,pZ,zaa (wkl (p_2++[sb h2,si hw]) [0,3] 0 kr gZ)⟩)
  ·let p_3:List St:=p_1++[sg h2,sy b1,sc (zj7 ((c1.toNat:Int)))]
   let p_4:List St:=p_2++[sg h2,sy b1,sc (zj7 ((c1.toNat:Int)))]
   cases h3:!digR (c1.toNat:Int)
   ·exact (ih (i+1) (by omega) zoI (by omega)).elim (fun ⟨qZ,xZ,gZ⟩=>.inl ⟨qZ,xZ,fun R hg=>zaa (wkl (p_3++[sb h3,si hw]) [0,3] 0 kr (gZ R hg))⟩) (fun ⟨rY,pZ,gZ⟩=>.inr ⟨rY,pZ,zaa (wkl (p_4++[sb h3,si hw]) [0,3] 0 kr gZ)⟩)
   ·cases h4:(c1.toNat:Int) != 95
    ·exact (ih (i+1) (by omega) zoI (by omega)).elim (fun ⟨qZ,xZ,gZ⟩=>.inl ⟨qZ,xZ,fun R hg=>zaa (wkl (p_3++[sg h3,sy b1,sb h4,si hw]) [0,3] 0 kr (gZ R hg))⟩) (fun ⟨rY,pZ,gZ⟩=>.inr ⟨rY,pZ,zaa (wkl (p_4++[sg h3,sy b1,sb h4,si hw]) [0,3] 0 kr gZ)⟩)
    ·exact .inr ⟨false,(by exact ⟨rfl,zb0 (zkS (by assumption)) (okC_no (by assumption) (by assumption) (by assumption))⟩),zaa (wkr (p_3++[sg h3,sy b1,sb h4]) kr)⟩
theorem zta {s:Str} {c:UInt8} (h:ByteAt s 0 ((c.toNat:Nat):Int)) (h1:(!letR ((c.toNat:Nat):Int))=true):zaP s=false:=by
 have e:=zlR h
 cases hv:zaP s
 ·rfl
 ·exfalso
  simp only [zaP,Bool.and_eq_true,decide_eq_true_eq] at hv
  obtain ⟨⟨⟨a1,a2⟩,a3⟩,a4⟩:=hv
  rw [e] at a3
  have a5:okC c=true:=by
   rw [List.all_eq_true] at a4
   apply a4
   rw [← e]
   have:s.data.toList.getD 0 0=s.data.toList[0]'(by omega):=by rw [List.getD_eq_getElem?_getD,List.getElem?_eq_getElem (by omega)];rfl
   rw [this];exact List.getElem_mem _
  simp only [letR,okC] at *
  cases h4:decide (97≤((c.toNat:Nat):Int)) <;> simp_all <;> omega
theorem ztH {s:Str} {c:UInt8} (h1:decide (((s.size:Nat):Int) < 1)=false) (h2:decide ((12:Int) < ((s.size:Nat):Int))=false) (h:ByteAt s 0 ((c.toNat:Nat):Int)) (h3:(!letR ((c.toNat:Nat):Int))=false) (h4:(s.data.toList.take s.size).all okC=true):true=zaP s:=by
 have e1:=zlR h
 rw [zgZ] at h1 h2 h4
 rw [List.take_length] at h4
 have h5:97≤c.toNat:=by
  simp only [letR] at h3
  cases h6:decide (97≤((c.toNat:Nat):Int))
  ·rw [h6] at h3;simp at h3
  ·simp only [decide_eq_true_eq] at h6;omega
 simp only [decide_eq_false_iff_not] at h1 h2
 have a1:decide (1≤s.data.toList.length)=true:=by simp only [decide_eq_true_eq];omega
 have a2:decide (s.data.toList.length≤12)=true:=by simp only [decide_eq_true_eq];omega
 have a3:decide (97≤(s.data.toList.getD 0 0).toNat)=true:=by simp only [decide_eq_true_eq];rw [e1];exact h5
 simp only [zaP,a1,a2,a3,h4,Bool.and_true]
theorem zlF (s:Str) :∃ (r:Bool),r=zaP s∧zac E0 S.ref4_ValidName [sv s] [] (bv r) []:=by
 cases h1:decide ((↑(ByteArray.size s):Int) < 1)
 ·cases h2:decide (12 < (↑(ByteArray.size s):Int))
  ·obtain ⟨c3,b3⟩:=zmg (s:=s) (i:=(0:Int)) (by first|omega|(simp only [decide_eq_false_iff_not,decide_eq_true_eq] at *;omega))
   let p_1:List St:=[sg h1,sg h2,sy b3,sc (zfY ((c3.toNat:Int)))]
   cases h4:!letR (c3.toNat:Int)
   ·rcases zfT s (by first|assumption|omega|(simp;done)|(simp;omega)) 0 (by first|assumption|omega|(simp;done)|(simp;omega)) (by first|assumption|omega|(simp;done)|(simp;omega)) with ⟨q5,q5_1,g5⟩|⟨r5_0,p5_0,g5⟩
    ·exact ⟨true,zj4,wkc At.ref4_ValidName (p_1++[sb h4]) [0,3] 0 kr (g5 _ (zaa (wkr [sb q5_1] kr)))⟩
    ·exact ⟨r5_0,zj4,wkc At.ref4_ValidName (p_1++[sb h4]) [0,3] 0 kr (g5)⟩
   ·exact ⟨false,zj4,wk At.ref4_ValidName (p_1++[sb h4]) kr⟩
  ·exact ⟨false,zj4,wk At.ref4_ValidName [sg h1,sb h2] kr⟩
 ·exact ⟨false,zj4,wk At.ref4_ValidName [sb h1] kr⟩
theorem ze1 (s:Str):zac E0 S.ref4_ValidName [sv s] [] (bv (zaP s)) []:=by
 obtain ⟨r,rfl,h⟩:=zlF s
 exact h
end Go.AM
namespace Go.AM
set_option maxRecDepth 100000
set_option maxHeartbeats 1000000
set_option linter.unusedSimpArgs false
set_option linter.unusedVariables false
def keyL:List Col→Nat→Int→Int
 | [],_,k=>k
 | c::r,i,k=>keyL r (i+1) (bif c.key then (i:Int) else k)
abbrev keyC (s:Sch):Int:=keyL s.cols 0 (-1)
theorem zni {l:List Col} {i:Nat} {k:Int} {x:Col} {z:Int} (h:z=keyL (l.drop i) i k) (hx:l[i]?=some x):z=keyL (l.drop (i+1)) (i+1) (bif x.key then (i:Int) else k):=by
 obtain ⟨hi,e⟩:=List.getElem?_eq_some_iff.1 hx
 rw [h,List.drop_eq_getElem_cons hi,e];rfl
theorem zl3 {l:List Col} {i:Nat} {k:Int} {x:Col} {z:Int} (h:z=keyL (l.drop i) i k) (hx:l[i]?=some x) (hk:x.key=true):z=keyL (l.drop (i+1)) (i+1) (i:Int):=by
 have:=zni h hx;rwa [hk] at this
theorem zlQ {l:List Col} {i:Nat} {k:Int} {x:Col} {z:Int} (h:z=keyL (l.drop i) i k) (hx:l[i]?=some x) (hk:x.key=false):z=keyL (l.drop (i+1)) (i+1) k:=by
 have:=zni h hx;rwa [hk] at this
theorem zcH {l:List Col} {k:Int} {z:Int} (h:z=keyL (l.drop l.length) l.length k):k=z:=by
 rw [List.drop_length] at h;exact h.symm
structure RowsV (s:Sch) (next:Int) (rows:List Rw):Prop where
 fit:zgs s rows
 asc:rows.Pairwise fun a b=>a.id < b.id
 ids:∀ r∈rows,1≤r.id∧r.id < next
 keys:0≤keyC s→rows.Pairwise fun a b=>zaG a.vals (keyC s)≠zaG b.vals (keyC s)
 pos:1≤next
theorem RowsV.nil {s:Sch} {next:Int} (h:1≤next):RowsV s next []:=⟨fun _ h=>(by cases h),.nil,fun _ h=>(by cases h),fun _=>.nil,h⟩
theorem RowsV.more {s:Sch} {next m:Int} {rows:List Rw} (h:RowsV s next rows) (hm:next≤m):RowsV s m rows:=⟨h.fit,h.asc,fun r hr=>⟨(h.ids r hr).1,by have:=(h.ids r hr).2;omega⟩,h.keys,by have:=h.pos;omega⟩
theorem RowsV.push {s:Sch} {next m:Int} {rows:List Rw} {v:List V} (h:RowsV s next rows) (hv:zcU s.cols v) (hf:∀ r∈rows,keyC s < 0∨zaG r.vals (keyC s)≠zaG v (keyC s)) (hm:next < m):RowsV s m (rows++[⟨next,v⟩]):=by
 refine ⟨h.fit.push hv,?_,?_,?_,by have:=h.pos;omega⟩
 ·rw [List.pairwise_append];exact ⟨h.asc,by simp,fun a ha b hb=>by simp only [List.mem_singleton] at hb;subst hb;exact (h.ids a ha).2⟩
 ·intro r hr
  rcases List.mem_append.1 hr with hr|hr
  ·have:=h.ids r hr;omega
  ·simp only [List.mem_singleton] at hr;subst hr;have:=h.pos;simp only;omega
 ·intro hk
  rw [List.pairwise_append];exact ⟨h.keys hk,by simp,fun a ha b hb=>by simp only [List.mem_singleton] at hb;subst hb;exact (hf a ha).resolve_left (by omega)⟩
theorem veq_of {a b:V} (h:(!(a.kind==b.kind&&(a.int==b.int&&(a.text==b.text&&true))))=true):a≠b:=by
 rintro rfl;simp at h
def zcd (key:Int) (rv:List V) (rows:List Rw):Prop:=∀ r∈rows,key < 0∨zaG r.vals key≠zaG rv key
theorem zcd.step {key:Int} {rv:List V} {rows:List Rw} {i:Nat} {x:Rw} {f g:Bool} (h:f=true→zcd key rv (rows.take i)) (hx:rows[i]?=some x) (hg:g=true→f=true∧(key < 0∨zaG x.vals key≠zaG rv key)):g=true→zcd key rv (rows.take (i+1)):=by
 intro hg1 r hr
 rw [List.take_add_one,hx] at hr
 rcases List.mem_append.1 hr with hr|hr
 ·exact h (hg hg1).1 r hr
 ·simp at hr;subst hr;exact (hg hg1).2
theorem zjy {key:Int} {rv xv:List V} {f:Bool} (h2:decide (key < 0)=false) (hg:(bif f then bif decide (key < 0) then true else !((zaG xv key).kind==(zaG rv key).kind&&((zaG xv key).int==(zaG rv key).int&&((zaG xv key).text==(zaG rv key).text&&true))) else false)=true):f=true∧(key < 0∨zaG xv key≠zaG rv key):=by
 cases f
 ·simp at hg
 ·refine ⟨rfl,.inr (veq_of ?_)⟩;rw [h2] at hg;simpa using hg
theorem zoY {key:Int} {P:Prop} {f:Bool} (h2:decide (key < 0)=true) (hg:(bif f then true else false)=true):f=true∧(key < 0∨P):=by
 cases f
 ·simp at hg
 ·exact ⟨rfl,.inl (by simpa using h2)⟩
theorem zru {n:Int} {a b:Nat} (ha:(a:Int) < 2) (hb:(b:Int) < 2) (hn:1≤n∧n≤1000000):n < IntKind.i64.wrap (n+IntKind.i64.wrap (1+IntKind.i64.wrap ((a:Int) * (b:Int))))∧IntKind.i64.wrap (n+IntKind.i64.wrap (1+IntKind.i64.wrap ((a:Int) * (b:Int))))≤n+2:=by
 have e:(a:Int) * (b:Int)=0∨(a:Int) * (b:Int)=1:=by
  have:a=0∨a=1:=by omega
  have:b=0∨b=1:=by omega
  rcases ‹a=0∨a=1› with rfl|rfl <;> rcases ‹b=0∨b=1› with rfl|rfl <;> simp
 rcases e with e|e <;> rw [e] <;> simp only [IntKind.wrap_i64] <;> omega
noncomputable def L_tvK (t0:Tp) (s:Sch) (n:Int) (u:Tp) (next:Int) (i:Nat) (key:Int):Cfg:=zar B.world_Tape_TableOf 0 [(0,.p 0 0),(2,iv n),(4,.p 1 0),(6,.p 2 0),(7,.p 3 0),(8,iv key),(22,.sl (s.cols.map Col.cells)),(23,iv ((s.cols.map Col.cells).length:Nat)),(24,iv (i:Nat))] [.box u.cells,.box s.cells,.box zT,.box [sv s.name,.sl (s.cols.map Col.cells),iv next,.nl]]
theorem zeV (t0:Tp) (s:Sch) (n:Int) (u:Tp) (next:Int) (hs:Few s.cols) (i:Nat) (key:Int) (hi:i≤(s.cols).length) (hI:key < (i:Int)∧keyC s=keyL (s.cols.drop i) i key):∃ (key':Int),(key' < ((s.cols).length:Int)∧keyC s=keyL (s.cols.drop (s.cols).length) (s.cols).length key')∧(decide ((((s.cols).length:Nat):Int) < (((s.cols.map Col.cells).length:Nat):Int))=false)∧∀ R,Good E0 B.world_Tape_TableOf [.box t0.cells] (L_tvK t0 s n u next (s.cols).length key') R→Good E0 B.world_Tape_TableOf [.box t0.cells] (L_tvK t0 s n u next i key) R:=by
 obtain ⟨kk,hk⟩:∃ kk,i+kk=(s.cols).length:=⟨(s.cols).length - i,by omega⟩
 induction kk generalizing i key with
 | zero =>
  have e0:i=(s.cols).length:=by omega
  subst e0
  exact ⟨key,hI,by simp,fun R hg=>hg⟩
 | succ kk ih =>
  obtain ⟨x,hx⟩:=zay (l:=s.cols) (i:=i) (by omega)
  have h0:decide (((i:Nat):Int) < (((s.cols.map Col.cells).length:Nat):Int))=true:=by simp;omega
  have hw:IntKind.i64.wrap (((i:Nat):Int)+1)=((i+1:Nat):Int):=zao i (by first|omega|(simp only [zad,Few] at *;omega))
  let p_1:List St:=[sb h0,se (zah Col.cells hx rfl)]
  cases h1:x.key
  ·obtain ⟨keyZ,qZ,xZ,gZ⟩:=ih (i+1) key (by omega) (by first|exact ⟨by omega,zl3 hI.2 hx (by assumption)⟩|exact ⟨by omega,zlQ hI.2 hx (by assumption)⟩) (by omega);exact ⟨keyZ,qZ,xZ,fun R hg=>zaa (wkl (p_1++[sb h1,si hw]) [0,2,4,6,7,8,22,23,24] 4 kr (gZ R hg))⟩
  ·obtain ⟨keyZ,qZ,xZ,gZ⟩:=ih (i+1) ((i:Int)) (by omega) (by first|exact ⟨by omega,zl3 hI.2 hx (by assumption)⟩|exact ⟨by omega,zlQ hI.2 hx (by assumption)⟩) (by omega);exact ⟨keyZ,qZ,xZ,fun R hg=>zaa (wkl (p_1++[sb h1,si hw]) [0,2,4,6,7,8,22,23,24] 4 kr (gZ R hg))⟩
noncomputable def L_tvR (t0:Tp) (s:Sch) (key:Int) (k:Nat) (u:Tp) (next:Int) (rows:List Rw):Cfg:=zar B.world_Tape_TableOf 1 [(0,.p 0 0),(4,.p 1 0),(6,.p 2 0),(7,.p 3 0),(8,iv key),(11,iv (k:Nat))] [.box u.cells,.box s.cells,.box zT,.box [sv s.name,.sl (s.cols.map Col.cells),iv next,.own 4 rows.length],.row Ty.Row (rows.map Rw.cells) false]
noncomputable def L_tvI (t0:Tp) (s:Sch) (key:Int) (k:Nat) (u:Tp) (next:Int) (rows:List Rw) (rv:List V) (i:Nat) (fresh:Bool):Cfg:=zar B.world_Tape_TableOf 2 [(0,.p 0 0),(4,.p 1 0),(6,.p 2 0),(7,.p 3 0),(8,iv key),(11,iv (k+1:Nat)),(12,vsl rv),(13,bv fresh),(45,.own 4 rows.length),(46,iv (rows.length:Nat)),(47,iv (i:Nat))] [.box u.cells,.box s.cells,.box zT,.box [sv s.name,.sl (s.cols.map Col.cells),iv next,.own 4 rows.length],.row Ty.Row (rows.map Rw.cells) false]
theorem zeF (t0:Tp) (s:Sch) (key:Int) (k:Nat) (u:Tp) (next:Int) (rows:List Rw) (rv:List V) (hko:zdG s.cols.length key) (hr:Few rows) (hrs:zgs s rows) (hrv:zcU s.cols rv) (i:Nat) (fresh:Bool) (hi:i≤(rows).length) (hI:fresh=true→zcd key rv (rows.take i)):∃ (fresh':Bool),(fresh'=true→zcd key rv (rows.take (rows).length))∧(decide ((((rows).length:Nat):Int) < (((rows).length:Nat):Int))=false)∧∀ R,Good E0 B.world_Tape_TableOf [.box t0.cells] (L_tvI t0 s key k u next rows rv (rows).length fresh') R→Good E0 B.world_Tape_TableOf [.box t0.cells] (L_tvI t0 s key k u next rows rv i fresh) R:=by
 obtain ⟨kk,hk⟩:∃ kk,i+kk=(rows).length:=⟨(rows).length - i,by omega⟩
 induction kk generalizing i fresh with
 | zero =>
  have e0:i=(rows).length:=by omega
  subst e0
  exact ⟨fresh,hI,by simp,fun R hg=>hg⟩
 | succ kk ih =>
  obtain ⟨x,hx⟩:=zay (l:=rows) (i:=i) (by omega)
  have h0:decide (((i:Nat):Int) < (((rows).length:Nat):Int))=true:=by simp;omega
  have hw:IntKind.i64.wrap (((i:Nat):Int)+1)=((i+1:Nat):Int):=zao i (by first|omega|(simp only [zad,Few] at *;omega))
  have hvl:=hrv.len;have hxl:=hrs.len hx;have ho:OwnAt (rows.map Rw.cells) rows.length ((i:Nat):Int):=⟨by simp,by omega,by have:=zcj hx;simp;omega⟩
  let p_1:List St:=[sb h0,sqx (OwnAt (List.map Rw.cells rows) rows.length (i:Int)),sx (.el x.cells) (znA Rw.cells (n:=rows.length) (by simp) hx)]
  rcases (Bool.eq_false_or_eq_true fresh).symm with h1|h1
  ·obtain ⟨freshZ,qZ,xZ,gZ⟩:=ih (i+1) false (by omega) (by first|exact zcd.step hI hx (fun h=>by cases h)|exact zcd.step hI hx (zjy (by assumption))|exact zcd.step hI hx (zoY (by assumption))) (by omega);exact ⟨freshZ,qZ,xZ,fun R hg=>zaa (wklN (p_1++[sd [(2,[sb h1]),(3,[sb h1]),(4,[sb h1]),(15,[sb h1]),(16,[sb h1])],si hw]) [0,4,6,7,8,11,12,13,45,46,47] 5 [(.bl 13,5)] kr (gZ R hg))⟩
  ·cases h2:decide (key < 0)
   ·obtain ⟨freshZ,qZ,xZ,gZ⟩:=ih (i+1) (bif fresh then bif decide (key < 0) then true else !((zaG x.vals key).kind==(zaG rv key).kind&&((zaG x.vals key).int==(zaG rv key).int&&((zaG x.vals key).text==(zaG rv key).text&&true))) else false) (by omega) (by first|exact zcd.step hI hx (fun h=>by cases h)|exact zcd.step hI hx (zjy (by assumption))|exact zcd.step hI hx (zoY (by assumption))) (by omega);exact ⟨freshZ,qZ,xZ,fun R hg=>zaa (wkl (p_1++[sd [(2,[sg h1]),(3,[sg h1]),(4,[sg h1]),(5,[sg h2]),(6,[sg h2]),(7,[sg h2]),(8,[so h2 (se (zdX x.vals key (by first|assumption|(have hk':key < (s.cols.length:Int):=hko;omega)) (by first|assumption|(have hk':key < (s.cols.length:Int):=hko;omega))))]),(9,[sg h2]),(10,[sg h2]),(11,[sg h2]),(12,[so h2 (se (zdX rv key (by first|assumption|(have hk':key < (s.cols.length:Int):=hko;omega)) (by first|assumption|(have hk':key < (s.cols.length:Int):=hko;omega))))]),(13,[sg h2]),(14,[so h2 (sq zbG)]),(15,[sg h1])],si hw]) [0,4,6,7,8,11,12,13,45,46,47] 5 kr (gZ R hg))⟩
   ·obtain ⟨freshZ,qZ,xZ,gZ⟩:=ih (i+1) (bif fresh then true else false) (by omega) (by first|exact zcd.step hI hx (fun h=>by cases h)|exact zcd.step hI hx (zjy (by assumption))|exact zcd.step hI hx (zoY (by assumption))) (by omega);exact ⟨freshZ,qZ,xZ,fun R hg=>zaa (wkl (p_1++[sd [(2,[sg h1]),(3,[sg h1]),(4,[sg h1]),(5,[sb h2]),(6,[sb h2]),(7,[sb h2]),(8,[sb h2]),(9,[sb h2]),(10,[sb h2]),(11,[sb h2]),(12,[sb h2]),(13,[sb h2]),(14,[sb h2]),(15,[so h1 (sb h2)])],si hw]) [0,4,6,7,8,11,12,13,45,46,47] 5 kr (gZ R hg))⟩
theorem zsH {s:Sch} {key:Int} {rv:List V} {rows:List Rw} (hk:key=keyC s) (h:zcd key rv (rows.take rows.length)):∀ r∈rows,keyC s < 0∨zaG r.vals (keyC s)≠zaG rv (keyC s):=by
 subst hk;rw [List.take_length] at h;exact h
theorem zra {s:Sch} {next n:Int} {rows:List Rw} {k a b:Nat} (hI:((rows.length+(k+1):Nat):Int)≤n∧RowsV s next rows∧next+2 * ((k+1:Nat):Int)≤3000) (ha:(a:Int) < 2) (hb:(b:Int) < 2):((rows.length+k:Nat):Int)≤n∧RowsV s (IntKind.i64.wrap (next+IntKind.i64.wrap (1+IntKind.i64.wrap ((a:Int) * (b:Int))))) rows∧IntKind.i64.wrap (next+IntKind.i64.wrap (1+IntKind.i64.wrap ((a:Int) * (b:Int))))+2 * ((k:Nat):Int)≤3000:=by
 have h:=zru (n:=next) ha hb ⟨hI.2.1.pos,by omega⟩
 exact ⟨by omega,hI.2.1.more (by omega),by omega⟩
theorem zrl {s:Sch} {key next n:Int} {rows:List Rw} {v:List V} {k a b:Nat} (hI:((rows.length+(k+1):Nat):Int)≤n∧RowsV s next rows∧next+2 * ((k+1:Nat):Int)≤3000) (hkc:key=keyC s) (hv:zcU s.cols v) (hf:zcd key v (rows.take rows.length)) (ha:(a:Int) < 2) (hb:(b:Int) < 2):(((rows++[Rw.mk next v]).length+k:Nat):Int)≤n∧RowsV s (IntKind.i64.wrap (next+IntKind.i64.wrap (1+IntKind.i64.wrap ((a:Int) * (b:Int))))) (rows++[⟨next,v⟩])∧IntKind.i64.wrap (next+IntKind.i64.wrap (1+IntKind.i64.wrap ((a:Int) * (b:Int))))+2 * ((k:Nat):Int)≤3000:=by
 have h:=zru (n:=next) ha hb ⟨hI.2.1.pos,by omega⟩
 exact ⟨by simp;omega,hI.2.1.push hv (zsH hkc hf) (by omega),by omega⟩
theorem zeP (t0:Tp) (s:Sch) (key:Int) (n:Int) (hn9:n≤900) (hk:zdG s.cols.length key) (hkc:key=keyC s) (hs:SchOk s) (k:Nat) (u:Tp) (next:Int) (rows:List Rw) (hi:k≤1000000000) (hI:((rows.length+k:Nat):Int)≤n∧RowsV s next rows∧next+2 * (k:Int)≤3000):∃ (u':Tp) (next':Int) (rows':List Rw),(((rows'.length+0:Nat):Int)≤n∧RowsV s next' rows'∧next'+2 * (0:Int)≤3000)∧(decide ((0:Int) < ((0:Nat):Int))=false)∧∀ R,Good E0 B.world_Tape_TableOf [.box t0.cells] (L_tvR t0 s key 0 u' next' rows') R→Good E0 B.world_Tape_TableOf [.box t0.cells] (L_tvR t0 s key k u next rows) R:=by
 induction k generalizing u next rows with
 | zero=>exact ⟨u,next,rows,hI,by decide,fun R hg=>hg⟩
 | succ k ih =>
  have h0:decide ((0:Int) < (((k+1):Nat):Int))=true:=by first|(simp;done)|(simp;omega)
  have hw:IntKind.i64.wrap (((k+1:Nat):Int) - 1)=((k:Nat):Int):=zjO k (by omega)
  have hR:=hI.2.1.fit;have hsh:=hs.short;have hco:=hs.cols;have hfw:Few rows:=by simp only [Few];omega
  obtain ⟨r1,t1,q1,c1⟩:=(zlC u s (by first|assumption|trivial|omega|exact (fun _ r hr=>absurd hr (by simp))|(simp;done)) (by first|assumption|trivial|omega|exact (fun _ r hr=>absurd hr (by simp))|(simp;done)))
  obtain ⟨zjy,q2,q2_1,g2⟩:=zeF t0 s key k t1 next rows r1 (by first|assumption|trivial|omega|exact (fun _ r hr=>absurd hr (by simp))|(simp;done)) (by first|assumption|trivial|omega|exact (fun _ r hr=>absurd hr (by simp))|(simp;done)) (by first|assumption|trivial|omega|exact (fun _ r hr=>absurd hr (by simp))|(simp;done)) (by first|assumption|trivial|omega|exact (fun _ r hr=>absurd hr (by simp))|(simp;done)) 0 true (by first|assumption|trivial|omega|exact (fun _ r hr=>absurd hr (by simp))|(simp;done)) (by first|assumption|trivial|omega|exact (fun _ r hr=>absurd hr (by simp))|(simp;done))
  let p_1:List St:=[sb h0,sl [0] c1,sqx (rows.length=(List.map Rw.cells rows).length)]
  rcases (Bool.eq_false_or_eq_true zjy).symm with h3|h3
  ·obtain ⟨a4,t4,q4,c4⟩:=(zak t1 2 (by first|assumption|trivial|omega|exact (fun _ r hr=>absurd hr (by simp))|(simp;done)))
   obtain ⟨a5,t5,q5,c5⟩:=(zak t4 2 (by first|assumption|trivial|omega|exact (fun _ r hr=>absurd hr (by simp))|(simp;done)))
   obtain ⟨uZ,nextZ,rowsZ,qZ,xZ,gZ⟩:=ih t5 (IntKind.i64.wrap (next+IntKind.i64.wrap (1+IntKind.i64.wrap ((a4:Int) * (a5:Int))))) rows (by omega) (by first|exact zra hI (by assumption) (by assumption)|exact zrl hI hkc (by assumption) (‹_=true→zcd _ _ _› (by assumption)) (by assumption) (by assumption));exact ⟨uZ,nextZ,rowsZ,qZ,xZ,fun R hg=>zaa (wklN p_1 [0,4,6,7,8,11,12,13,45,46,47] 5 [(.bl 13,5)] kr (g2 _ (zaa (wkl [sb q2_1,sb h3,sd [(3,[sl [0] c4]),(5,[sl [0] c5]),(6,[si (e:=IntKind.i64.wrap ((a4:Int) * (a5:Int))) rfl]),(7,[si (e:=IntKind.i64.wrap (1+IntKind.i64.wrap ((a4:Int) * (a5:Int)))) rfl]),(8,[si (e:=IntKind.i64.wrap (next+IntKind.i64.wrap (1+IntKind.i64.wrap ((a4:Int) * (a5:Int))))) rfl])],si hw] [0,4,6,7,8,11] 5 kr (gZ R hg)))))⟩
  ·obtain ⟨a6,t6,q6,c6⟩:=(zak t1 2 (by first|assumption|trivial|omega|exact (fun _ r hr=>absurd hr (by simp))|(simp;done)))
   obtain ⟨a7,t7,q7,c7⟩:=(zak t6 2 (by first|assumption|trivial|omega|exact (fun _ r hr=>absurd hr (by simp))|(simp;done)))
   obtain ⟨uZ,nextZ,rowsZ,qZ,xZ,gZ⟩:=ih t7 (IntKind.i64.wrap (next+IntKind.i64.wrap (1+IntKind.i64.wrap ((a6:Int) * (a7:Int))))) (rows++[Rw.mk next r1]) (by omega) (by first|exact zra hI (by assumption) (by assumption)|exact zrl hI hkc (by assumption) (‹_=true→zcd _ _ _› (by assumption)) (by assumption) (by assumption));exact ⟨uZ,nextZ,rowsZ,qZ,xZ,fun R hg=>zaa (wklN p_1 [0,4,6,7,8,11,12,13,45,46,47] 5 [(.bl 13,5)] kr (g2 _ (zaa (wkl [sb q2_1,sb h3,sqx (AllLen [[iv next,AV.sl (List.map V.cells r1)]] 2∧rows.length=(List.map Rw.cells rows).length∧(((List.map Rw.cells rows).length+[[iv next,AV.sl (List.map V.cells r1)]].length) * 32).le 140737488355328),sd [(3,[sl [0] c6]),(5,[sl [0] c7]),(6,[si (e:=IntKind.i64.wrap ((a6:Int) * (a7:Int))) rfl]),(7,[si (e:=IntKind.i64.wrap (1+IntKind.i64.wrap ((a6:Int) * (a7:Int)))) rfl]),(8,[si (e:=IntKind.i64.wrap (next+IntKind.i64.wrap (1+IntKind.i64.wrap ((a6:Int) * (a7:Int))))) rfl])],si hw] [0,4,6,7,8,11] 5 kr (zat rfl (show ([Blk.box [AV.sl (List.map (fun n=>[iv n]) t7.l),iv (t7.pos:Int)],Blk.box [sv s.name,AV.sl (List.map Col.cells s.cols)],Blk.box [sv (ByteArray.mk #[]),AV.nl,iv 0,AV.nl],Blk.box [sv s.name,AV.sl (List.map Col.cells s.cols),iv (IntKind.i64.wrap (next+IntKind.i64.wrap (1+IntKind.i64.wrap ((a6:Int) * (a7:Int))))),AV.own 4 (List.map Rw.cells rows++[[iv next,AV.sl (List.map V.cells r1)]]).length],Blk.row Ty.Row (List.map Rw.cells rows++[[iv next,AV.sl (List.map V.cells r1)]]) false]:Heap)=_ by first|rfl|(simp;done)|(simp [X.cells,Qy.cells,V.cells,Col.cells,Rw.cells,Tb.cells,Fr.cells,Sch.cells,Tp.cells,Pl.cells,xCol,xLit,xBin,xNeg,Ac.cells,Se.cells,Pr.cells,Ch.cells,Rw.cells];done)) (gZ R hg))))))⟩
theorem zbm {a:Nat} (ha:(a:Int) < 3):IntKind.i64.wrap (1+(a:Int))=1+(a:Int):=by rw [IntKind.wrap_i64];omega
theorem zg6 (t:Tp) (s:Sch) (n:Int) (hs:SchOk s) (hf:Few s.cols) (hn:0≤n∧n≤900) (hw:IntKind.i64.wrap (n+1)=n+1):∃ (rows:List Rw) (next:Int) (t':Tp),((rows.length:Int)≤n∧RowsV s next rows∧next≤3000)∧zac E0 S.world_Tape_TableOf [.p 0 0,s.av,iv n] [.box t.cells] (Tb.av ⟨s,next,rows⟩) [.box t'.cells]:=by
 obtain ⟨a1,t1,q1,c1⟩:=(zak t 3 (by first|exact (show Int from n)|assumption|(simp only [zdG];omega)|(simp only [Pos];omega)|omega|exact ⟨by omega,rfl⟩|exact zcH (And.right ‹_∧keyC _=_›)|exact ⟨by simp;omega,RowsV.nil (by rw [zbm (by assumption)];omega),by rw [zbm (by assumption)];omega⟩))
 obtain ⟨key2,q2,q2_1,g2⟩:=zeV t s n t1 (IntKind.i64.wrap (1+(a1:Int))) (by first|exact (show Int from n)|assumption|(simp only [zdG];omega)|(simp only [Pos];omega)|omega|exact ⟨by omega,rfl⟩|exact zcH (And.right ‹_∧keyC _=_›)|exact ⟨by simp;omega,RowsV.nil (by rw [zbm (by assumption)];omega),by rw [zbm (by assumption)];omega⟩) 0 (-1) (by first|exact (show Int from n)|assumption|(simp only [zdG];omega)|(simp only [Pos];omega)|omega|exact ⟨by omega,rfl⟩|exact zcH (And.right ‹_∧keyC _=_›)|exact ⟨by simp;omega,RowsV.nil (by rw [zbm (by assumption)];omega),by rw [zbm (by assumption)];omega⟩) (by first|exact (show Int from n)|assumption|(simp only [zdG];omega)|(simp only [Pos];omega)|omega|exact ⟨by omega,rfl⟩|exact zcH (And.right ‹_∧keyC _=_›)|exact ⟨by simp;omega,RowsV.nil (by rw [zbm (by assumption)];omega),by rw [zbm (by assumption)];omega⟩)
 obtain ⟨a3,t3,q3,c3⟩:=(zak t1 (n+1) (by first|exact (show Int from n)|assumption|(simp only [zdG];omega)|(simp only [Pos];omega)|omega|exact ⟨by omega,rfl⟩|exact zcH (And.right ‹_∧keyC _=_›)|exact ⟨by simp;omega,RowsV.nil (by rw [zbm (by assumption)];omega),by rw [zbm (by assumption)];omega⟩))
 obtain ⟨u4,next4,rows4,q4,q4_1,g4⟩:=zeP t s key2 n (by first|exact (show Int from n)|assumption|(simp only [zdG];omega)|(simp only [Pos];omega)|omega|exact ⟨by omega,rfl⟩|exact zcH (And.right ‹_∧keyC _=_›)|exact ⟨by simp;omega,RowsV.nil (by rw [zbm (by assumption)];omega),by rw [zbm (by assumption)];omega⟩) (by first|exact (show Int from n)|assumption|(simp only [zdG];omega)|(simp only [Pos];omega)|omega|exact ⟨by omega,rfl⟩|exact zcH (And.right ‹_∧keyC _=_›)|exact ⟨by simp;omega,RowsV.nil (by rw [zbm (by assumption)];omega),by rw [zbm (by assumption)];omega⟩) (by first|exact (show Int from n)|assumption|(simp only [zdG];omega)|(simp only [Pos];omega)|omega|exact ⟨by omega,rfl⟩|exact zcH (And.right ‹_∧keyC _=_›)|exact ⟨by simp;omega,RowsV.nil (by rw [zbm (by assumption)];omega),by rw [zbm (by assumption)];omega⟩) (by first|exact (show Int from n)|assumption|(simp only [zdG];omega)|(simp only [Pos];omega)|omega|exact ⟨by omega,rfl⟩|exact zcH (And.right ‹_∧keyC _=_›)|exact ⟨by simp;omega,RowsV.nil (by rw [zbm (by assumption)];omega),by rw [zbm (by assumption)];omega⟩) a3 t3 (IntKind.i64.wrap (1+(a1:Int))) ([]) (by first|exact (show Int from n)|assumption|(simp only [zdG];omega)|(simp only [Pos];omega)|omega|exact ⟨by omega,rfl⟩|exact zcH (And.right ‹_∧keyC _=_›)|exact ⟨by simp;omega,RowsV.nil (by rw [zbm (by assumption)];omega),by rw [zbm (by assumption)];omega⟩) (by first|exact (show Int from n)|assumption|(simp only [zdG];omega)|(simp only [Pos];omega)|omega|exact ⟨by omega,rfl⟩|exact zcH (And.right ‹_∧keyC _=_›)|exact ⟨by simp;omega,RowsV.nil (by rw [zbm (by assumption)];omega),by rw [zbm (by assumption)];omega⟩)
 exact ⟨rows4,next4,u4,(by exact ⟨by omega,(‹_∧RowsV _ _ _∧_›).2.1,by omega⟩),wkc At.world_Tape_TableOf [sdm [(2,[sl [0] c1]),(3,[si (e:=IntKind.i64.wrap (1+(a1:Int))) rfl])] 0 [(0,AV.p 0 0),(1,AV.agg [sv s.name,AV.sl (List.map Col.cells s.cols)]),(2,iv n),(4,AV.p 1 0),(6,AV.p 2 0),(7,AV.p 3 0),(16,AV.agg [sv s.name,AV.sl (List.map Col.cells s.cols)]),(17,AV.p 0 0),(18,iv (a1:Int)),(19,iv (IntKind.i64.wrap (1+(a1:Int)))),(20,AV.agg [sv s.name,AV.sl (List.map Col.cells s.cols),iv (IntKind.i64.wrap (1+(a1:Int))),AV.nl])] [Blk.box [AV.sl (List.map (fun n=>[iv n]) t1.l),iv (t1.pos:Int)],Blk.box [sv s.name,AV.sl (List.map Col.cells s.cols)],Blk.box [sv (ByteArray.mk #[]),AV.nl,iv 0,AV.nl],Blk.box [sv s.name,AV.sl (List.map Col.cells s.cols),iv (IntKind.i64.wrap (1+(a1:Int))),AV.nl]]] [0,2,4,6,7,8,22,23,24] 4 kr (g2 _ (zaa (wklN [sb q2_1,si hw,sl [0] c3] [0,4,6,7,8,11] 4 [(.ob 3 3 Ty.Row,5)] kr (g4 _ (zaa (wkr [sqx (True∧True∧True∧rows4.length=(List.map Rw.cells rows4).length∧True),sb (rfl:false=false)] kr))))))⟩
structure StoreV (n:Int) (l:List Tb):Prop where
 schs:l.map Tb.sch=zal
 rows:∀ t∈l,RowsV t.sch t.next t.rows
 next:∀ t∈l,t.next≤3000
 len:∀ t∈l,(t.rows.length:Int)≤n
structure StoreP (n:Int) (i:Nat) (l:List Tb):Prop where
 schs:l.map Tb.sch=zal.take i
 tabs:∀ t∈l,RowsV t.sch t.next t.rows∧t.next≤3000∧(t.rows.length:Int)≤n
theorem StoreP.push {n:Int} {i:Nat} {l:List Tb} {x:Sch} {nx:Int} {rs:List Rw} (h:StoreP n i l) (hx:zal[i]?=some x) (ht:(rs.length:Int)≤n∧RowsV x nx rs∧nx≤3000):StoreP n (i+1) (l++[⟨x,nx,rs⟩]) :=
 ⟨by rw [List.map_append,h.schs,List.take_add_one,hx];rfl,fun t hm=>(List.mem_append.1 hm).elim (h.tabs t) fun h=>by simp only [List.mem_singleton] at h;subst h;exact ⟨ht.2.1,ht.2.2,ht.1⟩⟩
theorem StoreP.all {n:Int} {l:List Tb} (h:StoreP n zal.length l):StoreV n l :=
 ⟨by rw [h.schs,List.take_length],fun t ht=>(h.tabs t ht).1,fun t ht=>(h.tabs t ht).2.1,fun t ht=>(h.tabs t ht).2.2⟩
theorem StoreV.ok {n:Int} {l:List Tb} (h:StoreV n l) (hn:n≤1000:=by decide):StoreOk l :=
 ⟨by have:=congrArg List.length h.schs;simp [zal] at this;omega,fun t ht=>⟨⟨(h.rows t ht).fit,by have:=h.len t ht;omega⟩,zgu (by rw [← h.schs];exact List.mem_map_of_mem ht)⟩⟩
noncomputable def L_stV (t0:Tp) (n:Int) (i:Nat) (u:Tp) (out:List Tb):Cfg:=zar B.world_Tape_Store 0 [(0,.p 0 0),(1,iv n),(5,.own 1 out.length),(8,.sl (zal.map Sch.cells)),(9,iv ((zal.map Sch.cells).length:Nat)),(10,iv (i:Nat))] [.box u.cells,.row Ty.Table (out.map Tb.cells) false]
theorem zfe (t0:Tp) (n:Int) (hs:zad zal) (hn:0≤n∧n≤900) (i:Nat) (u:Tp) (out:List Tb) (hi:i≤(zal).length) (hI:StoreP n i out):∃ (u':Tp) (out':List Tb),(StoreP n (zal).length out')∧(decide ((((zal).length:Nat):Int) < (((zal.map Sch.cells).length:Nat):Int))=false)∧∀ R,Good E0 B.world_Tape_Store [.box t0.cells] (L_stV t0 n (zal).length u' out') R→Good E0 B.world_Tape_Store [.box t0.cells] (L_stV t0 n i u out) R:=by
 obtain ⟨kk,hk⟩:∃ kk,i+kk=(zal).length:=⟨(zal).length - i,by omega⟩
 induction kk generalizing i u out with
 | zero =>
  have e0:i=(zal).length:=by omega
  subst e0
  exact ⟨u,out,hI,by simp,fun R hg=>hg⟩
 | succ kk ih =>
  obtain ⟨x,hx⟩:=zay (l:=zal) (i:=i) (by omega)
  have h0:decide (((i:Nat):Int) < (((zal.map Sch.cells).length:Nat):Int))=true:=by simp;omega
  have hw:IntKind.i64.wrap (((i:Nat):Int)+1)=((i+1:Nat):Int):=zao i (by first|omega|(simp only [zad,Few] at *;omega))
  have hsx:=zgu (List.mem_of_getElem? hx);have hfx:=hsx.few;have hl0:out.length=(zal.take i).length:=by rw [← hI.schs];simp
  have hlen:out.length≤10:=by rw [hl0];simp only [List.length_take,zal,List.length_cons,List.length_nil];omega
  have hw1:IntKind.i64.wrap (n+1)=n+1:=by rw [IntKind.wrap_i64];omega
  obtain ⟨rows1,next1,t1,q1,c1⟩:=(zg6 u x n (by first|assumption|omega|(simp;done)|(simp;omega)) (by first|assumption|omega|(simp;done)|(simp;omega)) (by first|assumption|omega|(simp;done)|(simp;omega)) (by first|assumption|omega|(simp;done)|(simp;omega)))
  obtain ⟨uZ,outZ,qZ,xZ,gZ⟩:=ih (i+1) t1 (out++[Tb.mk x next1 rows1]) (by omega) (by exact hI.push hx (by assumption)) (by omega);exact ⟨uZ,outZ,qZ,xZ,fun R hg=>zaa (wkl [sb h0,se (zah Sch.cells hx rfl),sl [0] c1,sqx (AllLen [[sv x.name,AV.sl (List.map Col.cells x.cols),iv next1,AV.sl (List.map Rw.cells rows1)]] 4∧out.length=(List.map Tb.cells out).length∧(((List.map Tb.cells out).length+[[sv x.name,AV.sl (List.map Col.cells x.cols),iv next1,AV.sl (List.map Rw.cells rows1)]].length) * 72).le 140737488355328),si hw] [0,1,5,8,9,10] 2 kr (zat (show ([(0,AV.p 0 0),(1,iv n),(5,AV.own 1 (List.map Tb.cells out++[[sv x.name,AV.sl (List.map Col.cells x.cols),iv next1,AV.sl (List.map Rw.cells rows1)]]).length),(8,AV.sl (List.map Sch.cells zal)),(9,iv (↑(List.map Sch.cells zal).length:Int)),(10,iv (↑(i+1):Int))]:TS)=_ by first|rfl|(simp;done)|(simp [X.cells,Qy.cells,V.cells,Col.cells,Rw.cells,Tb.cells,Fr.cells,Sch.cells,Tp.cells,Pl.cells,xCol,xLit,xBin,xNeg,Ac.cells,Se.cells,Pr.cells,Ch.cells,Rw.cells];done)) (show ([Blk.box [AV.sl (List.map (fun n=>[iv n]) t1.l),iv (t1.pos:Int)],Blk.row Ty.Table (List.map Tb.cells out++[[sv x.name,AV.sl (List.map Col.cells x.cols),iv next1,AV.sl (List.map Rw.cells rows1)]]) false]:Heap)=_ by first|rfl|(simp;done)|(simp [X.cells,Qy.cells,V.cells,Col.cells,Rw.cells,Tb.cells,Fr.cells,Sch.cells,Tp.cells,Pl.cells,xCol,xLit,xBin,xNeg,Ac.cells,Se.cells,Pr.cells,Ch.cells,Rw.cells];done)) (gZ R hg)))⟩
theorem zhV (t:Tp) (n:Int) (hs:zad zal) (hn:0≤n∧n≤900):∃ (r:List Tb) (t':Tp),StoreV n r∧zac E0 S.world_Tape_Store [.p 0 0,iv n] [.box t.cells] (tsl r) [.box t'.cells]:=by
 obtain ⟨u1,out1,q1,q1_1,g1⟩:=zfe t n (by first|assumption|(simp;done)|exact ⟨rfl,fun _ h=>absurd h (by simp)⟩) (by first|assumption|(simp;done)|exact ⟨rfl,fun _ h=>absurd h (by simp)⟩) 0 t ([]) (by first|assumption|(simp;done)|exact ⟨rfl,fun _ h=>absurd h (by simp)⟩) (by first|assumption|(simp;done)|exact ⟨rfl,fun _ h=>absurd h (by simp)⟩)
 exact ⟨out1,u1,(by exact StoreP.all (by assumption)),wkcN At.world_Tape_Store [sc zeH] [0,1,5,8,9,10] 1 [(.ot 5 Ty.Table,2)] kr (g1 _ (zaa (wkr [sqx (out1.length=(List.map Tb.cells out1).length),sb (rfl:false=false)] kr)))⟩
end Go.AM
namespace Go.AM
set_option maxRecDepth 100000
set_option maxHeartbeats 1000000
set_option linter.unusedSimpArgs false
set_option linter.unusedVariables false
def XFl:Nat→X→Prop
 | 0,_=>False
 | n+1,e=>e.val.Good∧Thin 3 e.args∧e.sub=[]∧∀ x∈e.args,XFl n x
theorem XFl.ok:∀ {n:Nat} {e:X},XFl n e→XOk n e
 | 0,_,h=>h.elim
 | n+1,e,⟨h1,h2,h3,h4⟩=>⟨h1,⟨h2,by rw [h3];simp⟩,fun x hx=>(h4 x hx).ok,fun q hq=>by rw [h3] at hq;cases hq⟩
theorem XFl.mono:∀ {n:Nat} {e:X},XFl n e→XFl (n+1) e
 | 0,_,h=>h.elim
 | n+1,e,⟨h1,h2,h3,h4⟩=>⟨h1,h2,h3,fun x hx=>(h4 x hx).mono⟩
end Go.AM
namespace Go.AM
set_option maxRecDepth 100000
set_option maxHeartbeats 1000000
set_option linter.unusedSimpArgs false
set_option linter.unusedVariables false
def insI:Nat→List Int→List Int
 | 0,l=>l
 | k+1,l=>bif decide (l.getD (k+1) 0 < l.getD k 0) then insI k ((l.set (k+1) (l.getD k 0)).set k (l.getD (k+1) 0)) else l
theorem zoP:∀ (k:Nat) (l:List Int),(insI k l).length=l.length
 | 0,_=>rfl
 | k+1,l=>by
  unfold insI
  cases decide (l.getD (k+1) 0 < l.getD k 0)
  ·rfl
  ·rw [cond_true,zoP];simp
def srtI:Nat→Nat→List Int→List Int
 | 0,_,l=>l
 | m+1,i,l=>srtI m (i+1) (insI i l)
def srt1 (l:List Int):List Int:=srtI (l.length - 1) 1 l
theorem zoT:∀ (m i:Nat) (l:List Int),(srtI m i l).length=l.length
 | 0,_,_=>rfl
 | m+1,i,l=>by unfold srtI;rw [zoT,zoP]
@[simp] theorem srt1_len (l:List Int):(srt1 l).length=l.length:=zoT _ _ _
end Go.AM
namespace Go.AM
structure InsI (l:List Lk) (x:Lk) (i:Nat) (out:List Lk) (done:Bool):Prop where
 nd:out.Nodup
 sub:∀ z∈out,z=x∨z∈l.take i
 sup:∀ z∈l.take i,z=x∨z∈out
 dn:x∈out↔done=true
theorem zjY {α:Type}:∀ (l m:List α),l.Nodup→(∀ x∈l,x∈m)→l.length≤m.length
 | [],_,_,_=>by simp
 | x::r,m,hn,hs=>by
  haveI:DecidableEq α:=fun a b=>Classical.propDecidable (a=b)
  rw [List.nodup_cons] at hn
  have hx:x∈m:=hs x (by simp)
  have h1:=zjY r (m.erase x) hn.2 fun y hy=>(List.mem_erase_of_ne (by rintro rfl;exact hn.1 hy)).2 (hs y (by simp [hy]))
  rw [List.length_erase_of_mem hx] at h1
  have h2:=List.length_pos_of_mem hx
  simp only [List.length_cons]
  omega
theorem InsI.len {l:List Lk} {u:Lk} {i:Nat} {out:List Lk} {d:Bool} (h:InsI l u i out d):out.length≤i+1:=by
 have:=zjY out (u::l.take i) h.nd fun z hz=>by simpa using h.sub z hz
 simp only [List.length_cons,List.length_take] at this
 omega
theorem InsI.add {l:List Lk} {u:Lk} {i:Nat} {out:List Lk} {d:Bool} (h:InsI l u i out d) (e:(!d)=true):InsI l u i (out++[u]) true:=by
 have hnu:u ∉ out:=fun hu=>by have:=h.dn.1 hu;subst this;simp at e
 refine ⟨?_,fun z hz=>?_,fun z hz=>?_,by simp⟩
 ·refine List.nodup_append.2 ⟨h.nd,by simp,fun a ha b hb=>?_⟩
  simp only [List.mem_singleton] at hb
  subst hb
  rintro rfl
  exact hnu ha
 ·simp only [List.mem_append,List.mem_singleton] at hz
  rcases hz with hz|hz
  ·exact h.sub z hz
  ·exact .inl hz
 ·simp only [List.mem_append,List.mem_singleton]
  rcases h.sup z hz with h2|h2
  ·exact .inl h2
  ·exact .inr (.inl h2)
structure InsR (l:List Lk) (u:Lk) (r:List Lk):Prop where
 nd:r.Nodup
 sub:∀ z∈r,z=u∨z∈l
 sup:∀ z∈l,z∈r
theorem InsI.done {l:List Lk} {u:Lk} {out:List Lk} {d:Bool} (h:InsI l u l.length out d) (e:(!d)=false):InsR l u out:=by
 have hd:d=true:=by simpa using e
 have hu:=h.dn.2 hd
 refine ⟨h.nd,fun z hz=>by simpa using h.sub z hz,fun z hz=>?_⟩
 rcases h.sup z (by simpa using hz) with rfl|h1
 ·exact hu
 ·exact h1
structure LkN (N:List Str) (l:List Lk):Prop where
 nd:l.Nodup
 mem:∀ z∈l,z.fst∈N∧z.snd∈N
theorem InsR.lk {N:List Str} {l:List Lk} {u:Lk} {r:List Lk} (h:InsR l u r) (hl:LkN N l) (h1:u.fst∈N) (h2:u.snd∈N):LkN N r :=
 ⟨h.nd,fun z hz=>by rcases h.sub z hz with rfl|hz;exact ⟨h1,h2⟩;exact hl.mem z hz⟩
theorem zo9 {α β:Type} (f:α→List β) (k:Nat) (hf:∀ a,(f a).length=k):∀ l:List α,(l.flatMap f).length=l.length * k
 | []=>by simp
 | a::r=>by rw [List.flatMap_cons,List.length_append,hf,zo9 f k hf r,List.length_cons,Nat.add_mul];omega
theorem LkN.len {N:List Str} {l:List Lk} (h:LkN N l):l.length≤N.length * N.length:=by
 have h1:=zjY l (N.flatMap fun a=>N.map fun b=>⟨a,b⟩) h.nd fun z hz=>by
  simp only [List.mem_flatMap,List.mem_map]
  exact ⟨z.fst,(h.mem z hz).1,z.snd,(h.mem z hz).2,by cases z;rfl⟩
 have h2:(N.flatMap fun a=>N.map fun b=>(⟨a,b⟩:Lk)).length=N.length * N.length:=by
  exact zo9 _ _ (fun a=>by simp) N
 omega
end Go.AM
namespace Go.AM
set_option maxRecDepth 100000
set_option maxHeartbeats 1000000
set_option linter.unusedSimpArgs false
set_option linter.unusedVariables false
abbrev zmt (N:List Str) (l out:List Lk):Prop:=LkN N out∧∀ z∈l,z∈out
theorem zmt.short {N:List Str} {l out:List Lk} (h:zmt N l out) (hN:N.length≤1000):zad out:=by
 have h1:=h.1.len
 have h2:=Nat.mul_le_mul hN hN
 simp only [zad];omega
theorem zmt.ins {N:List Str} {l out:List Lk} {a b:Lk} {i j:Nat} {r:List Lk} (h:zmt N l out) (hl:LkN N l) (hx:l[i]?=some a) (hy:l[j]?=some b) (hr:InsR out ⟨a.fst,b.snd⟩ r):zmt N l r :=
 ⟨hr.lk h.1 (hl.mem a (List.mem_of_getElem? hx)).1 (hl.mem b (List.mem_of_getElem? hy)).2,fun z hz=>hr.sup z (h.2 z hz)⟩
end Go.AM
namespace Go.AM
set_option maxRecDepth 100000
set_option maxHeartbeats 1000000
set_option linter.unusedSimpArgs false
set_option linter.unusedVariables false
theorem LkN.short {N:List Str} {l:List Lk} (h:LkN N l) (hN:N.length≤1000):zad l:=by
 have h1:=h.len
 have h2:=Nat.mul_le_mul hN hN
 simp only [zad];omega
end Go.AM
namespace Go.AM
set_option maxRecDepth 100000
set_option maxHeartbeats 1000000
set_option linter.unusedSimpArgs false
set_option linter.unusedVariables false
theorem zth {p:Prop} (h:p:=by first|assumption|omega|(simp;done)|(simp;omega)):p:=h
def zsO (k:Nat):Str:=([⟨#[116]⟩,⟨#[117]⟩,⟨#[108,111,103]⟩]:List Str).getD k ⟨#[]⟩
theorem zu4 (k:Nat) (h:(k:Int) < 3):ElAt [[sv ⟨#[116]⟩],[sv ⟨#[117]⟩],[sv ⟨#[108,111,103]⟩]] (k:Int) [sv (zsO k)] 1:=by
 have:k=0∨k=1∨k=2:=by omega
 rcases this with rfl|rfl|rfl <;> exact ⟨by decide,rfl,rfl⟩
def TabN (w:Str):Prop:=w=⟨#[116]⟩∨w=⟨#[117]⟩∨w=⟨#[108,111,103]⟩
theorem zv0 {k:Nat} (h:(k:Int) < 3):TabN (zsO k):=by
 have:k=0∨k=1∨k=2:=by omega
 rcases this with rfl|rfl|rfl
 ·exact .inl rfl
 ·exact .inr (.inl rfl)
 ·exact .inr (.inr rfl)
theorem zj0 (t:Tp) :∃ (w:Str) (t':Tp),TabN w∧zac E0 S.world_Tape_Table [.p 0 0] [.box t.cells] (sv w) [.box t'.cells]:=by
 obtain ⟨a1,t1,q1,c1⟩:=(zak t 3 zth)
 exact ⟨zsO a1,t1,by exact zv0 (by omega),wk At.world_Tape_Table [sl [0] c1,se (zu4 a1 zth)] kr⟩
def schU:Sch:=⟨⟨#[117]⟩,[⟨⟨#[105,100]⟩,1,true,true⟩,⟨⟨#[110]⟩,1,true,false⟩,⟨⟨#[109]⟩,1,false,false⟩]⟩
theorem zqV:zaA ⟨#[117]⟩=schU:=by kernel_rfl
theorem zag {w:Str} (h:TabN w):SchOk (zaA w):=by
 rcases h with rfl|rfl|rfl
 ·rw [zrn];exact zu9
 ·rw [zqV];exact zgu (by simp [zal,schU])
 ·rw [znJ];exact zgu (by simp [zal,zpr])
end Go.AM
namespace Go.AM
set_option maxRecDepth 100000
set_option maxHeartbeats 1000000
set_option linter.unusedSimpArgs false
set_option linter.unusedVariables false
structure GenOk (x:Tg):Prop where
 ok:TgOk 6 x
 set:∀ a∈x.acts,AcSet a
structure CertOk (x x':Tg):Prop where
 gen:GenOk x→GenOk x'
 name:x'.name=x.name
 table:x'.table=x.table
 prec:x'.prec=x.prec
 foll:x'.foll=x.foll
end Go.AM
namespace Go.AM
set_option maxRecDepth 100000
set_option maxHeartbeats 1000000
set_option linter.unusedSimpArgs false
set_option linter.unusedVariables false
theorem zr1 (l:List Fr) (h:l.length≤1000∧0 < l.length):SubAt (l.map Fr.cells) (IntKind.i64.wrap ((((l.map Fr.cells).length:Nat):Int) - 1)) (((l.map Fr.cells).length:Nat):Int) 4:=by
 have h1:IntKind.i64.wrap ((((l.map Fr.cells).length:Nat):Int) - 1)=((l.length:Nat):Int) - 1:=by rw [IntKind.wrap_i64];simp;omega
 rw [h1]
 refine ⟨by omega,by simp;omega,by simp,?_⟩
 simp
end Go.AM
namespace Go.AM
set_option maxRecDepth 100000
set_option maxHeartbeats 1000000
set_option linter.unusedSimpArgs false
set_option linter.unusedVariables false
structure SetsOk (i:Nat) (sets:List Se):Prop where
 len:sets.length≤i
 ex:∀ s∈sets,XOk 5 s.ex
 two:i≤2
theorem SetsOk.push {i:Nat} {sets:List Se} {c:Str} {e:X} (h:SetsOk i sets) (hi:i < 2) (he:XOk 4 e):SetsOk (i+1) (sets++[⟨c,e⟩]) :=
 ⟨by have:=h.len;simp;omega,fun s hs=>by
  simp only [List.mem_append,List.mem_singleton] at hs
  rcases hs with hs|rfl
  ·exact h.ex s hs
  ·exact he.le (by omega),by omega⟩
end Go.AM
namespace Go.AM
set_option maxRecDepth 100000
set_option maxHeartbeats 1000000
set_option linter.unusedSimpArgs false
set_option linter.unusedVariables false
theorem ztD (s:Int × List (List V)):(zd7 s).1.length≤s.2.length:=by
 unfold zd7;cases s.1 != 0 <;> simp
theorem zhK {tr:Rw→Bool × Int} {rv:Rw→Int × List V}:∀ (l:List Rw) (out:List (List V)),(zcg tr rv l out).2.length≤out.length+l.length
 | [],out=>by simp [zcg]
 | r::l,out=>by
  have h1:=zhK (tr:=tr) (rv:=rv) l out
  have h2:=zhK (tr:=tr) (rv:=rv) l (out++[(rv r).2])
  simp only [zcg]
  cases (tr r).2 != 0 <;> cases (tr r).1 <;> cases (rv r).1 != 0 <;> simp at * <;> omega
theorem zo2 {n:Nat} {q:Qy} {frs:List Fr} {tb:List Tb} (h:TbOk tb):(zdt n q frs tb).1.length≤1000:=by
 unfold zdt
 cases hf:zbU tb q.frm with
 | none=>simp
 | some t =>
  have h1:=h.rows t (zdC hf)
  have h2:=ztD (zcg (fun r=>zb3 (fun x=>eval n x (zav frs t r.vals) tb) q.wh) (fun r=>rowV (fun x=>eval n x (zav frs t r.vals) tb) q r) t.rows [])
  have h3:=zhK (tr:=fun r=>zb3 (fun x=>eval n x (zav frs t r.vals) tb) q.wh) (rv:=fun r=>rowV (fun x=>eval n x (zav frs t r.vals) tb) q r) t.rows []
  simp only [List.length_nil] at h3
  simp only;omega
structure DmlIn (n:Nat) (a:Ac) (frs:List Fr) (tb:List Tb):Prop where
 ac:AcOk n a
 kd:1≤a.kind∧a.kind≤3
 fo:FsOk (n+1) frs
 fg:FsG frs
 to:TbOk tb
 tg:TbG tb
 tv:∀ x∈tb,∀ r∈x.rows,zad r.vals
theorem zeA {tb:List Tb} {n:Str} (h:(zap tb n).2=true):zbU tb n=some (tabC tb n)∧(zap tb n).1=(tabC tb n).sch∧tabC tb n∈tb∧decide (idxF (fun t=>zaK t n) tb 0 < 0)=false:=by
 rw [zeM] at h ⊢
 cases hf:zbU tb n with
 | none=>rw [hf] at h;cases h
 | some t =>
  have e:tabC tb n=t:=by unfold tabC;rw [hf];rfl
  refine ⟨by rw [e],by rw [e],by rw [e];exact zdC hf,?_⟩
  rcases zdI (fun t=>zaK t n) tb 0 with ⟨_,h2⟩|⟨j,y,h2,h3,h4⟩
  ·unfold zbU at hf;rw [h2] at hf;cases hf
  ·rw [h2];simp
theorem ztB {a:Ac} {b:Bool} {tb:List Tb} (h:((tgt a b tb).2 != 0)=false):b=true∧(zap tb a.table).2=true∧(tgt a b tb).1=(tabC tb a.table).sch∧(tgt a b tb).2=0:=by
 unfold tgt at h ⊢
 cases b
 ·simp at h
 ·cases h2:(zap tb a.table).2
  ·rw [h2] at h;simp at h
  ·refine ⟨rfl,rfl,?_,rfl⟩
   simp only [Bool.not_true,cond_false]
   exact (zeA h2).2.1
abbrev evI (n:Nat) (frs:List Fr) (s:Sch) (tb:List Tb) (r:Rw):X→V × Int:=fun x=>eval n x (zas frs s r.vals) tb
def cTr (n:Nat) (a:Ac) (frs:List Fr) (s:Sch) (tb:List Tb) (r:Rw):Bool × Int:=zb3 (evI n frs s tb r) a.wh
def cAg (n:Nat) (a:Ac) (frs:List Fr) (s:Sch) (tb:List Tb) (r:Rw):List V × Int:=asgn (evI n frs s tb r) a s r.vals (zas frs s r.vals) tb
def cIns (n:Nat) (a:Ac) (frs:List Fr) (s:Sch) (tb:List Tb):List (List V) × Int:=insB (fun x=>eval n x frs tb) (fun q=>zdt n q frs tb) s a
def zbT (n:Nat) (a:Ac) (frs:List Fr) (tb:List Tb):Ch × Int :=
 bif (tgt a (actB (vX n) a) tb).2 != 0 then zrD a (tgt a (actB (vX n) a) tb).1 (tgt a (actB (vX n) a) tb).2
 else bif a.kind==1 then zhg (cIns n a frs (tabC tb a.table).sch tb) a
 else bif a.kind==3 then zon (cTr n a frs (tabC tb a.table).sch tb) a (tabC tb a.table).sch frs tb
 else zos (cTr n a frs (tabC tb a.table).sch tb) (cAg n a frs (tabC tb a.table).sch tb) a (tabC tb a.table).sch frs tb
section
variable {n : Nat} {a : Ac} {frs : List Fr} {tb : List Tb}
theorem DmlIn.target (h:DmlIn n a frs tb):zac E0 S.dml_target [a.av,tsl tb] [] (.tup [(tgt a (actB (vX n) a) tb).1.av,iv (tgt a (actB (vX n) a) tb).2]) []:=by
 have hk:=h.kd
 exact zoJ a (actB (vX n) a) tb (by simp;omega) (by simp;omega) h.to.len h.to.cols (ziG h.ac hk)
theorem DmlIn.ins (h:DmlIn n a frs tb) {t:Tb} (ht:t∈tb) {r:Rw} (hr:r∈t.rows):FsOk n (zas frs t.sch r.vals)∧FsG (zas frs t.sch r.vals) :=
 ⟨h.fo.eins (t:=t) (h.to.cols t ht) (h.tg.vals t ht r hr),h.fg.ins (t:=t) (h.tg.vals t ht r hr)⟩
theorem zt1 (h:DmlIn n a frs tb):Pure S.dml_Candidates [a.av,fsl frs,tsl tb] (.tup [(zbT n a frs tb).1.av,iv (zbT n a frs tb).2]):=by
 have ht:=h.target
 unfold zbT
 cases h0:(tgt a (actB (vX n) a) tb).2 != 0
 ·obtain ⟨hb,hs,he,hc⟩:=ztB h0
  rw [he,hc] at ht
  obtain ⟨h1,h2,h3,h4⟩:=zeA hs
  have hfs:zad frs:=h.fo.short
  have hcol:=h.to.cols _ h3
  have hrw:zad (tabC tb a.table).rows:=by have:=h.to.rows _ h3;simp only [zad];omega
  have htr:∀ r∈(tabC tb a.table).rows,Pure S.evaluate_True [xsl a.wh,fsl (zas frs (tabC tb a.table).sch r.vals),tsl tb] (.tup [bv (cTr n a frs (tabC tb a.table).sch tb r).1,iv (cTr n a frs (tabC tb a.table).sch tb r).2]):=fun r hr =>
   zpe (fun x hx=>ze8 n x _ tb (h.ac.w x hx) (h.ins h3 hr).1 (h.ins h3 hr).2 h.to h.tg) (fun x hx=>zcW n x _ tb (h.ac.w x hx) (h.ins h3 hr).2 h.tg)
  simp only [cond_false]
  cases k1:a.kind==1
  ·simp only [cond_false]
   cases k3:a.kind==3
   ·simp only [cond_false]
    exact zjf _ _ a (tabC tb a.table).sch frs tb k1 k3 h.to.len hfs ht (zpW tb a h.to.len) h4 hrw (h.tv _ h3) htr fun r hr =>
     zmT _ a _ r.vals _ tb (h.tv _ h3 r hr) hcol (zaQ h.ac.sets) fun x hx=>ze8 n x.ex _ tb (h.ac.set x hx) (h.ins h3 hr).1 (h.ins h3 hr).2 h.to h.tg
   ·simp only [cond_true]
    exact zjo _ a (tabC tb a.table).sch frs tb k1 k3 h.to.len hfs ht (zpW tb a h.to.len) h4 hrw htr
  ·simp only [cond_true]
   have hr:=h.ac.rows
   have hq:=h.ac.query
   exact zjm _ a (tabC tb a.table).sch frs tb k1 ht (zmN a _ frs tb _ _ hcol (by simp only [Few] at hr;omega) (fun r hr=>⟨zaQ (h.ac.row r hr).1,fun x hx=>ze8 n x frs tb ((h.ac.row r hr).2 x hx) h.fo.less h.fg h.to h.tg⟩) hq fun q hq =>
    ⟨by have:=zo2 (n:=n) (q:=q) (frs:=frs) h.to;omega,zst ⟨(h.ac.qs q hq).items,(h.ac.qs q hq).hi,(h.ac.qs q hq).hw⟩ h.fo h.to h.fg h.tg h.tv⟩)
 ·simp only [cond_true]
  exact zjg a _ _ frs tb h0 ht
end
end Go.AM
namespace Go.AM
set_option maxRecDepth 100000
set_option maxHeartbeats 1000000
set_option linter.unusedSimpArgs false
set_option linter.unusedVariables false
theorem zoE (cond:Int) (q:Qy) (s:Sch) (ins:List Fr) (tb:List Tb):∀ (l:List Col) (i:Nat) (o:List Int),(ptsS cond q s ins tb l i o).1.length≤o.length+l.length
 | [],i,o=>by unfold ptsS;cases cond != 0 <;> simp
 | x::r,i,o=>by
  have:=zoE cond q s ins tb r (i+1) (o++[x.type])
  unfold ptsS;simp at *;omega
theorem zpL (f:X→Int × Int) (cond:Int) (q:Qy) (s:Sch) (ins:List Fr) (tb:List Tb):∀ (l:List X) (i:Nat) (o:List Int),(ptsI f cond q s ins tb l i o).1.length≤o.length+l.length
 | [],i,o=>by unfold ptsI;cases cond != 0 <;> simp
 | x::r,i,o=>by
  have:=zpL f cond q s ins tb r (i+1) (o++[(f x).1])
  unfold ptsI;cases (f x).2 != 0 <;> simp at * <;> omega
theorem zsq {f:X→Int × Int} {cond:Int} {q:Qy} {frs:List Fr} {tb:List Tb} (h1:zad q.items) (h2:zad (zap tb q.frm).1.cols):zad (pTys f cond q frs tb).1:=by
 unfold pTys
 cases (zap tb q.frm).2
 ·simp
 ·cases q.star
  ·have:=zpL f cond q (zap tb q.frm).1 (zas frs (zap tb q.frm).1 []) tb q.items 0 []
   simp only [zad] at *;simp at *;omega
  ·have:=zoE cond q (zap tb q.frm).1 (zas frs (zap tb q.frm).1 []) tb (zap tb q.frm).1.cols 0 []
   simp only [zad] at *;simp at *;omega
def tyQ (n:Nat) (frs:List Fr) (tb:List Tb) (q:Qy):List Int × Int :=
 pTys (fun x=>za5 n x (zas frs (zap tb q.frm).1 []) tb) (zdj (fun x=>za5 n x (zas frs (zap tb q.frm).1 []) tb) q.wh) q frs tb
def tyC (n:Nat) (a:Ac) (tb:List Tb) (frs:List Fr):Int:=zdj (fun x=>za5 n x frs tb) a.wh
def pchk (n:Nat) (a:Ac) (frs:List Fr) (tb:List Tb):Bool :=
 !((tgt a (actB (vX n) a) tb).2 != 0)&&zob (fun w x=>za5 n x w tb) (tyQ n frs tb) (tyC n a tb) frs tb (tabC tb a.table).sch a
section
variable {n : Nat} {a : Ac} {frs : List Fr} {tb : List Tb}
theorem FsOk.ins0 (h:FsOk (n+1) frs) {s:Sch} (hs:zad s.cols):FsOk n (zas frs s []) :=
 h.eins (t:=⟨s,0,[]⟩) hs (fun _ h=>by cases h)
theorem c_chk (h:DmlIn n a frs tb):∃ r:Int,(r=0↔pchk n a frs tb=true)∧zac E0 S.dml_Check [a.av,fsl frs,tsl tb] [] (iv r) []:=by
 have ht:=h.target
 unfold pchk
 cases h0:(tgt a (actB (vX n) a) tb).2 != 0
 ·obtain ⟨hb,hs,he,hc⟩:=ztB h0
  rw [he,hc] at ht
  obtain ⟨h1,h2,h3,h4⟩:=zeA hs
  have hcol:=h.to.cols _ h3
  have hfi:=h.fo.ins0 hcol
  have hsc:∀ q:Qy,zad (zap tb q.frm).1.cols:=fun q=>zgW _ _ _ 0 h.to.cols
  obtain ⟨ci,hci,hi⟩:=zk1 a (tabC tb a.table).sch frs tb (fun x=>za5 n x frs tb) (tyQ n frs tb) hcol (zaQ h.ac.rows) (zaQ h.ac.query) (fun r hr=>⟨zaQ (h.ac.row r hr).1,fun x hx=>zeu n x frs tb ((h.ac.row r hr).2 x hx) h.fo.less h.to⟩)
   (fun q hq=>⟨zsq (zaQ (h.ac.qs q hq).items) (hsc q),znU _ _ q frs tb (n+1) h.fo h.to (zaQ (h.ac.qs q hq).items) (hsc q) (fun x hx=>zeu n x _ tb ((h.ac.qs q hq).hi x hx) (h.fo.ins0 (hsc q)) h.to) (zgy fun x hx=>zeu n x _ tb ((h.ac.qs q hq).hw x hx) (h.fo.ins0 (hsc q)) h.to)⟩)
  obtain ⟨r,hr,hk⟩:=zqa a (tabC tb a.table).sch ci frs tb (fun w x=>za5 n x w tb) (tyQ n frs tb) (tyC n a tb) h.to.len h.fo.short hcol (zaQ h.ac.sets) ht (fun x hx=>zeu n x.ex _ tb (h.ac.set x hx) hfi h.to) (zgy fun x hx=>zeu n x _ tb (h.ac.w x hx) hfi h.to) hi hci
  exact ⟨r,by simpa using hr,hk⟩
 ·obtain ⟨r,hr,hk⟩:=zpl a _ _ frs tb h0 ht
  refine ⟨r,?_,hk⟩
  subst hr
  simp at h0 ⊢;exact h0
end
abbrev sM:Str:=⟨#[109]⟩
abbrev sN:Str:=⟨#[110]⟩
abbrev sU:Str:=⟨#[117]⟩
abbrev knA:Ac:=⟨2,sU,[],[],[⟨sN,xCol ⟨#[]⟩ sM⟩,⟨sM,xCol ⟨#[]⟩ sN⟩],[],⟨#[]⟩⟩
abbrev vN (n:Int):V:=⟨1,n,⟨#[]⟩⟩
abbrev knT:Tb:=⟨schU,2,[⟨1,[vN 1,vN 2,vN 3]⟩]⟩
abbrev knC:Ch:=⟨[],[],[⟨1,[vN 1,vN 2,vN 3],[vN 1,vN 3,vN 2]⟩]⟩
theorem zvf:zbT 2 knA [] [knT]=(knC,0):=by kernel_rfl
theorem kn_chk:pchk 2 knA [] [knT]=true:=by kernel_rfl
end Go.AM
namespace Go.AM
set_option maxRecDepth 100000
set_option maxHeartbeats 1000000
set_option linter.unusedSimpArgs false
set_option linter.unusedVariables false
theorem zuV (v:V):zbC (xLit v) 4=true:=by kernel_rfl
theorem zua (a b:Str):zbC (xCol a b) 8=true:=by kernel_rfl
theorem ztW (k:Int) (l:List X):zbC (xA k 0 false l) 16=true:=by kernel_rfl
theorem bare_5 (o:Int) (l:List X):zbC (xA 5 o false l) 17=true:=by kernel_rfl
theorem bare_6 (nt:Bool) (l:List X):zbC (xA 6 0 nt l) 18=true:=by kernel_rfl
theorem bare_Q (k:Int) (st:Bool) (it:List X) (f:Str) (wh:List X):zbC (xQ k st it f wh) 32=true:=by kernel_rfl
section
variable {G : Str → List Col} {tbs : List Sch} {tb : List Tb} {n : Nat} {frs : List Fr} {w : Int} {e : X}
theorem XT.vx (hG:EnvT G) (ht:TbE G tbs tb) (h:XT tbs n frs w e):FsT' G frs→vX n e=true:=by
 induction h with
 | @lit n frs w v hg _ hi =>
  intro _
  have h1:(!(bif v.kind==1 then decide (v.int < 0) else false))=true:=by
   cases hk:v.kind==1
   ·rfl
   ·have:=hi (by simpa using hk)
    simp;omega
  show (bif zbC (xLit v) 4 then (bif zaM v then !(bif v.kind==1 then decide (v.int < 0) else false) else false) else false)=true
  rw [zuV,hg.valid,h1];rfl
 | @col n frs w x h =>
  intro hf
  obtain ⟨a,b,rfl,_,_,h1,h2⟩:=h.res hG hf
  show (bif zbC (xCol a b) 8 then zix (xCol a b) else false)=true
  have h3:zix (xCol a b)=true:=by show (zg1 a&&zaP b)=true;rw [h1,h2];rfl
  rw [zua,h3];rfl
 | @un n frs k w a hk _ ih =>
  intro hf
  have h0:=ih hf
  have h1:zec (vX n) (xA k 0 false [a])=true:=by
   rcases hk with ⟨rfl,_⟩|⟨rfl,_⟩ <;> (show (bif _ then (vX n a&&true) else false)=true;rw [h0];rfl)
  have h2:=ztW k [a]
  rcases hk with ⟨rfl,_⟩|⟨rfl,_⟩ <;> (show (bif !zbC _ 16 then false else zec (vX n) _)=true;rw [h2,h1];rfl)
 | @isn n frs w nt a _ ih =>
  intro hf
  have h1:zec (vX n) (xA 6 0 nt [a])=true:=by show (bif _ then (vX n a&&true) else false)=true;rw [ih hf];rfl
  show (bif !zbC _ 18 then false else zec (vX n) _)=true
  rw [bare_6,h1];rfl
 | @bin n frs op w' w a b hb _ _ i1 i2 =>
  intro hf
  have h1:zec (vX n) (xA 5 op false [a,b])=true:=by show (bif _ then (vX n a&&(vX n b&&true)) else false)=true;rw [i1 hf,i2 hf];rfl
  have h2:decide (op < 1)=false∧decide (13 < op)=false:=by
   rcases hb with h|h|h <;> simp <;> omega
  show (bif decide (op < 1) then false else bif decide (13 < op) then false else bif !zbC _ 17 then false else zec (vX n) _)=true
  rw [h2.1,h2.2,bare_5,h1];rfl
 | @btw n frs a b c _ _ _ i1 i2 i3 =>
  intro hf
  have h1:zec (vX n) (xA 7 0 false [a,b,c])=true:=by show (bif _ then (vX n a&&(vX n b&&(vX n c&&true))) else false)=true;rw [i1 hf,i2 hf,i3 hf];rfl
  show (bif !zbC _ 16 then false else zec (vX n) _)=true
  rw [ztW,h1];rfl
 | @qry n frs k w st it wh s hs hq hw _ _ i1 i2 =>
  intro hf
  have hfi:=hf.ins ht hs
  have h1:it.all (vX n)=true:=List.all_eq_true.2 fun x hx=>i1 x hx hfi
  have h2:wh.all (vX n)=true:=List.all_eq_true.2 fun x hx=>i2 x hx hfi
  have h3:zcV (vX n) (xQ k st it s.name wh)=true:=by
   show zki (vX n) (k==8) (k==9) (Qy.mk st it s.name wh)=true
   simp only [zki,Qy.star_mk,Qy.items_mk,Qy.frm_mk,Qy.wh_mk,zbs,h1,h2,ht.src s hs,Bool.and_true]
   have h4:decide ((wh.length:Int)≤1)=true:=by simp;omega
   rw [h4]
   rcases hq with ⟨rfl,_,rfl,h⟩|⟨rfl,_,rfl,h⟩|⟨h5,h6,_,rfl,h⟩
   ·rw [h];rfl
   ·rw [h];rfl
   ·have hk:k=10∨k=11∨k=12:=by omega
    rw [h]
    rcases hk with rfl|rfl|rfl <;> rfl
  have hk:k=8∨k=9∨k=10∨k=11∨k=12:=by rcases hq with h|h|h <;> omega
  have h4:=bare_Q k st it s.name wh
  rcases hk with rfl|rfl|rfl|rfl|rfl <;> (show (bif zbC _ 32 then zcV (vX n) _ else false)=true;rw [h4,h3];rfl)
def Okt (w:Int) (r:Int × Int):Prop:=∃ t,(t=0∨t=w)∧r=(t,0)
theorem rres_1 {e:X} {a:Int} (hk:e.kind=3∧w=2∨e.kind=4∧w=1) (h:a=0∨a=w):Okt w (zbR e [a]):=by
 refine ⟨w,.inr rfl,?_⟩
 rcases hk with ⟨hk,rfl⟩|⟨hk,rfl⟩ <;> rcases h with rfl|rfl <;> (unfold zbR;rw [hk];rfl)
theorem rres_6 {e:X} {l:List Int} (hk:e.kind=6):Okt 2 (zbR e l):=⟨2,.inr rfl,by unfold zbR;rw [hk];rfl⟩
theorem rwant2 {a b:Int} (ha:a=0∨a=w) (hb:b=0∨b=w):zeS [a,b] [a,b] 0 (-1)=(2,0):=by
 by_cases hw:w=0
 ·subst hw
  have ha:a=0:=by omega
  have hb:b=0:=by omega
  subst ha;subst hb;rfl
 ·have h0:(w != 0)=true:=by simpa using hw
  have h1:(w==0)=false:=by simpa using hw
  rcases ha with rfl|rfl <;> rcases hb with rfl|rfl <;> simp [zeS,zdJ,zfq,h0,h1]
theorem rres_5 {e:X} {w' a b:Int} (hk:e.kind=5) (ho:BinT e.op w' w) (ha:a=0∨a=w') (hb:b=0∨b=w'):Okt w (zbR e [a,b]):=by
 refine ⟨w,.inr rfl,?_⟩
 have hg:e.op=1∨e.op=2∨e.op=3∨e.op=4∨e.op=5∨e.op=6∨e.op=7∨e.op=8∨e.op=9∨e.op=10∨e.op=11∨e.op=12∨e.op=13:=by rcases ho with h|h|h <;> omega
 unfold zbR
 rw [hk]
 rcases ho with ⟨h1,h2,rfl,rfl⟩|⟨h1,h2,rfl⟩|⟨h1,h2,rfl,rfl⟩
 ·have e1:decide (e.op≤2)=true:=by simpa using h2
  rw [e1]
  rcases ha with rfl|rfl <;> rcases hb with rfl|rfl <;> rfl
 ·have e1:decide (e.op≤2)=false:=by simp;omega
  have e2:decide (9≤e.op)=false:=by simp;omega
  rw [e1,e2]
  exact rwant2 ha hb
 ·have e1:decide (e.op≤2)=false:=by simp;omega
  have e2:decide (9≤e.op)=true:=by simpa using h1
  rw [e1,e2]
  rcases ha with rfl|rfl <;> rcases hb with rfl|rfl <;> rfl
theorem rres_7 {e:X} {a b c:Int} (hk:e.kind=7) (ha:a=0∨a=1) (hb:b=0∨b=1) (hc:c=0∨c=1):Okt 2 (zbR e [a,b,c]):=by
 refine ⟨2,.inr rfl,?_⟩
 unfold zbR
 rw [hk]
 rcases ha with rfl|rfl <;> rcases hb with rfl|rfl <;> rcases hc with rfl|rfl <;> rfl
theorem pOp_1 {e:X} {a:Int} (hk:e.kind=3∧w=2∨e.kind=4∧w=1) (h:a=0∨a=w):Okt w (pOp e [a]):=by
 refine ⟨w,.inr rfl,?_⟩
 rcases hk with ⟨hk,rfl⟩|⟨hk,rfl⟩ <;> rcases h with rfl|rfl <;> (unfold pOp;rw [hk];rfl)
theorem pOp_6 {e:X} {l:List Int} (hk:e.kind=6):Okt 2 (pOp e l):=⟨2,.inr rfl,by unfold pOp;rw [hk];rfl⟩
theorem prL2 {a b:Int} (ha:a=0∨a=w) (hb:b=0∨b=w):prL [] [a,b]=true:=by
 rcases ha with rfl|rfl <;> rcases hb with rfl|rfl <;> simp [prL,pfit]
theorem pOp_5 {e:X} {w' a b:Int} (hk:e.kind=5) (ho:BinT e.op w' w) (ha:a=0∨a=w') (hb:b=0∨b=w'):Okt w (pOp e [a,b]):=by
 refine ⟨w,.inr rfl,?_⟩
 unfold pOp
 rw [hk]
 rcases ho with ⟨h1,h2,rfl,rfl⟩|⟨h1,h2,rfl⟩|⟨h1,h2,rfl,rfl⟩
 ·have e1:decide (e.op≤2)=true:=by simpa using h2
  rw [e1]
  rcases ha with rfl|rfl <;> rcases hb with rfl|rfl <;> rfl
 ·have e1:decide (e.op≤2)=false:=by simp;omega
  have e2:decide (9≤e.op)=false:=by simp;omega
  rw [e1,e2,prL2 ha hb];rfl
 ·have e1:decide (e.op≤2)=false:=by simp;omega
  have e2:decide (9≤e.op)=true:=by simpa using h1
  rw [e1,e2]
  rcases ha with rfl|rfl <;> rcases hb with rfl|rfl <;> rfl
theorem pOp_7 {e:X} {a b c:Int} (hk:e.kind=7) (ha:a=0∨a=1) (hb:b=0∨b=1) (hc:c=0∨c=1):Okt 2 (pOp e [a,b,c]):=by
 refine ⟨2,.inr rfl,?_⟩
 unfold pOp
 rw [hk]
 rcases ha with rfl|rfl <;> rcases hb with rfl|rfl <;> rcases hc with rfl|rfl <;> rfl
theorem zte {f:X→Int × Int} {a:X} {t:Int} (h:f a=(t,0)):rtyL f e frs tb [a] 0 []=zbR e [t]:=by simp [rtyL,h]
theorem rtyL_2 {f:X→Int × Int} {a b:X} {t u:Int} (h:f a=(t,0)) (h2:f b=(u,0)):rtyL f e frs tb [a,b] 0 []=zbR e [t,u]:=by simp [rtyL,h,h2]
theorem rtyL_3 {f:X→Int × Int} {a b c:X} {t u v:Int} (h:f a=(t,0)) (h2:f b=(u,0)) (h3:f c=(v,0)):rtyL f e frs tb [a,b,c] 0 []=zbR e [t,u,v]:=by simp [rtyL,h,h2,h3]
theorem ztq {f:X→Int × Int} {a:X} {t:Int} (h:f a=(t,0)):ptyL f e frs tb [a] 0 []=pOp e [t]:=by simp [ptyL,h]
theorem ptyL_2 {f:X→Int × Int} {a b:X} {t u:Int} (h:f a=(t,0)) (h2:f b=(u,0)):ptyL f e frs tb [a,b] 0 []=pOp e [t,u]:=by simp [ptyL,h,h2]
theorem ptyL_3 {f:X→Int × Int} {a b c:X} {t u v:Int} (h:f a=(t,0)) (h2:f b=(u,0)) (h3:f c=(v,0)):ptyL f e frs tb [a,b,c] 0 []=pOp e [t,u,v]:=by simp [ptyL,h,h2,h3]
theorem zii {f:X→Int × Int} {wh:List X} (hw:∀ x∈wh,Okt 2 (f x)):zh0 f wh=0∧zdj f wh=0:=by
 cases wh with
 | nil=>exact ⟨rfl,rfl⟩
 | cons x r =>
  obtain ⟨t,ht,e⟩:=hw x (by simp)
  refine ⟨?_,?_⟩
  ·show zmp f x=0
   unfold zmp;rw [e]
   rcases ht with rfl|rfl <;> rfl
  ·show zj9 f x=0
   unfold zj9;rw [e]
   rcases ht with rfl|rfl <;> rfl
theorem rtq_ok {f:X→Int × Int} {k:Int} {st:Bool} {it wh:List X} {s:Sch} {q:Qy} {ins:List Fr} (hq:QryT k w st it.length) (hi:∀ x∈it,Okt 1 (f x)) (hk:e.kind=k):Okt w (rtqL f 0 e q ins tb it 0 1):=by
 rcases hq with ⟨rfl,rfl,_,h⟩|⟨rfl,rfl,_,h⟩|⟨h1,h2,rfl,_,h⟩
 ·rw [List.length_eq_zero_iff.1 h]
  exact ⟨2,.inr rfl,by unfold rtqL;rw [hk];rfl⟩
 ·rw [List.length_eq_zero_iff.1 h]
  exact ⟨1,.inr rfl,by unfold rtqL;rw [hk];rfl⟩
 ·obtain ⟨x,rfl⟩:=List.length_eq_one_iff.1 h
  obtain ⟨t,ht,e1⟩:=hi x (by simp)
  have hkk:k=10∨k=11∨k=12:=by omega
  have h3:rtqL f 0 e q ins tb [x] 0 1=rtqL f 0 e q ins tb [] 1 t:=by simp [rtqL,e1]
  rw [h3]
  unfold rtqL;rw [hk]
  rcases hkk with rfl|rfl|rfl <;> rcases ht with rfl|rfl <;> first|exact ⟨0,.inl rfl,rfl⟩|exact ⟨1,.inr rfl,rfl⟩
theorem ptq_ok {f:X→Int × Int} {k:Int} {st:Bool} {it wh:List X} {s:Sch} {q:Qy} {ins:List Fr} (hq:QryT k w st it.length) (hi:∀ x∈it,Okt 1 (f x)) (hk:e.kind=k):Okt w (ptqL f 0 e q s ins tb it 0 0):=by
 rcases hq with ⟨rfl,rfl,_,h⟩|⟨rfl,rfl,_,h⟩|⟨h1,h2,rfl,_,h⟩
 ·rw [List.length_eq_zero_iff.1 h]
  exact ⟨2,.inr rfl,by unfold ptqL;rw [hk];rfl⟩
 ·rw [List.length_eq_zero_iff.1 h]
  exact ⟨1,.inr rfl,by unfold ptqL;rw [hk];rfl⟩
 ·obtain ⟨x,rfl⟩:=List.length_eq_one_iff.1 h
  obtain ⟨t,ht,e1⟩:=hi x (by simp)
  have hkk:k=10∨k=11∨k=12:=by omega
  have h3:ptqL f 0 e q s ins tb [x] 0 0=ptqL f 0 e q s ins tb [] 1 t:=by simp [ptqL,e1]
  rw [h3]
  unfold ptqL;rw [hk]
  rcases hkk with rfl|rfl|rfl <;> rcases ht with rfl|rfl <;> first|exact ⟨0,.inl rfl,rfl⟩|exact ⟨1,.inr rfl,rfl⟩
theorem zkN {k op:Int} {nt:Bool} {l:List X} (h:(k=3∨k=4∨k=6)∧l.length=1∨k=5∧l.length=2∧1≤op∧op≤13∨k=7∧l.length=3):zcP (xA k op nt l)=true:=by
 show zkk k op l=true
 rcases h with ⟨rfl|rfl|rfl,h⟩|⟨rfl,h,h1,h2⟩|⟨rfl,h⟩ <;> simp [zkk,h]
 all_goals omega
theorem zvd {k:Int} {st:Bool} {it wh:List X} {f:Str} (hq:QryT k w st it.length) (hw:wh.length≤1):zcP (xQ k st it f wh)=true:=by
 show zgx k 0 [] [Qy.mk st it f wh] st it wh=true
 have hkk:k=8∨k=9∨k=10∨k=11∨k=12:=by rcases hq with h|h|h <;> omega
 have h0:decide ((wh.length:Int)≤1)=true:=by simp;omega
 rcases hq with ⟨rfl,_,rfl,h⟩|⟨rfl,_,rfl,h⟩|⟨h1,h2,_,rfl,h⟩
 ·simp [zgx,h];omega
 ·simp [zgx,h];omega
 ·rcases hkk with rfl|rfl|rfl|rfl|rfl <;> first|omega|(simp [zgx,h];omega)
end
end Go.AM
namespace Go.AM
set_option maxRecDepth 100000
set_option maxHeartbeats 1000000
set_option linter.unusedSimpArgs false
set_option linter.unusedVariables false
section
variable {G : Str → List Col} {tbs : List Sch} {tb : List Tb} {n : Nat} {frs : List Fr} {w : Int} {e : X}
abbrev OpK (k:Int):Prop:=k=3∨k=4∨k=5∨k=6∨k=7
theorem zkR {k op:Int} {nt:Bool} {l:List X} (hk:OpK k) (hs:zcP (xA k op nt l)=true):zc0 (n+1) (xA k op nt l) frs tb=rtyL (fun x=>zc0 n x frs tb) (xA k op nt l) frs tb l 0 []:=by
 show zol (fun x=>zc0 n x frs tb) (xA k op nt l) frs tb=_
 unfold zol
 rw [hs]
 rcases hk with rfl|rfl|rfl|rfl|rfl <;> rfl
theorem zkK {k op:Int} {nt:Bool} {l:List X} (hk:OpK k) (hs:zcP (xA k op nt l)=true):za5 (n+1) (xA k op nt l) frs tb=ptyL (fun x=>za5 n x frs tb) (xA k op nt l) frs tb l 0 []:=by
 show ptyF (fun x=>za5 n x frs tb) (0,0) (xA k op nt l) frs tb=_
 unfold ptyF
 rw [zez hs]
 rcases hk with rfl|rfl|rfl|rfl|rfl <;> rfl
theorem zv4 {k:Int} {st:Bool} {it wh:List X} {s:Sch} (hk:k=8∨k=9∨k=10∨k=11∨k=12) (hg:zap tb s.name=(s,true)) (hs:zcP (xQ k st it s.name wh)=true) (hc:zh0 (fun x=>zc0 n x (frIn frs s) tb) wh=0) :
  zc0 (n+1) (xQ k st it s.name wh) frs tb=rtqL (fun x=>zc0 n x (frIn frs s) tb) 0 (xQ k st it s.name wh) (Qy.mk st it s.name wh) (frIn frs s) tb it 0 1:=by
 show zoa (rtqF (fun x=>zc0 n x (zas frs (zap tb s.name).1 []) tb) (zh0 (fun x=>zc0 n x (zas frs (zap tb s.name).1 []) tb) wh) (xQ k st it s.name wh) (Qy.mk st it s.name wh) frs tb) (xQ k st it s.name wh) frs tb=_
 unfold zoa rtqF
 rw [hs]
 simp only [Qy.frm_mk,hg,zdm,hc,Qy.items_mk]
 rcases hk with rfl|rfl|rfl|rfl|rfl <;> rfl
theorem zvO {k:Int} {st:Bool} {it wh:List X} {s:Sch} (hk:k=8∨k=9∨k=10∨k=11∨k=12) (hg:zap tb s.name=(s,true)) (hs:zcP (xQ k st it s.name wh)=true) (hc:zdj (fun x=>za5 n x (frIn frs s) tb) wh=0) :
  za5 (n+1) (xQ k st it s.name wh) frs tb=ptqL (fun x=>za5 n x (frIn frs s) tb) 0 (xQ k st it s.name wh) (Qy.mk st it s.name wh) s (frIn frs s) tb it 0 0:=by
 show ptyF (fun x=>za5 n x frs tb) (ptqF (fun x=>za5 n x (zas frs (zap tb s.name).1 []) tb) (zdj (fun x=>za5 n x (zas frs (zap tb s.name).1 []) tb) wh) (xQ k st it s.name wh) (Qy.mk st it s.name wh) frs tb) (xQ k st it s.name wh) frs tb=_
 unfold ptyF ptqF
 rw [zez hs]
 simp only [Qy.frm_mk,hg,zdm,hc,Qy.items_mk]
 rcases hk with rfl|rfl|rfl|rfl|rfl <;> rfl
theorem XT.types (hG:EnvT G) (ht:TbE G tbs tb) (h:XT tbs n frs w e):FsT' G frs→Okt w (zc0 n e frs tb)∧Okt w (za5 n e frs tb):=by
 induction h with
 | @lit n frs w v hg hk _ =>
  intro _
  exact ⟨⟨v.kind,hk,rfl⟩,⟨v.kind,hk,rfl⟩⟩
 | @col n frs w x h =>
  intro hf
  obtain ⟨a,b,rfl,h1,h2,_,_⟩:=h.res hG hf
  constructor
  ·show Okt w (bif !(zaX frs a b).2.2 then (0,3) else ((rCol frs a b).type,0))
   rw [h1,h2];exact ⟨w,.inr rfl,rfl⟩
  ·show Okt w (bif !(zbw frs a b).2.2 then (0,3) else ((rCol frs a b).type,0))
   rw [zdZ,h1,h2];exact ⟨w,.inr rfl,rfl⟩
 | @un n frs k w a hk _ ih =>
  intro hf
  obtain ⟨⟨t,ht1,e1⟩,⟨u,hu,e2⟩⟩:=ih hf
  have hk1:OpK k:=by rcases hk with ⟨h,_⟩|⟨h,_⟩ <;> simp [OpK,h]
  have hs:zcP (xA k 0 false [a])=true:=zkN (.inl ⟨by rcases hk with ⟨h,_⟩|⟨h,_⟩ <;> simp [h],rfl⟩)
  constructor
  ·rw [zkR hk1 hs,zte e1];exact rres_1 hk ht1
  ·rw [zkK hk1 hs,ztq e2];exact pOp_1 hk hu
 | @isn n frs w nt a _ ih =>
  intro hf
  obtain ⟨⟨t,ht1,e1⟩,⟨u,hu,e2⟩⟩:=ih hf
  have hs:zcP (xA 6 0 nt [a])=true:=zkN (.inl ⟨.inr (.inr rfl),rfl⟩)
  constructor
  ·rw [zkR (by simp [OpK]) hs,zte e1];exact rres_6 rfl
  ·rw [zkK (by simp [OpK]) hs,ztq e2];exact pOp_6 rfl
 | @bin n frs op w' w a b hb _ _ i1 i2 =>
  intro hf
  obtain ⟨⟨t,ht1,e1⟩,⟨u,hu,e2⟩⟩:=i1 hf
  obtain ⟨⟨t',ht1',e1'⟩,⟨u',hu',e2'⟩⟩:=i2 hf
  have hs:zcP (xA 5 op false [a,b])=true:=zkN (.inr (.inl ⟨rfl,rfl,by rcases hb with h|h|h <;> omega,by rcases hb with h|h|h <;> omega⟩))
  constructor
  ·rw [zkR (by simp [OpK]) hs,rtyL_2 e1 e1'];exact rres_5 rfl hb ht1 ht1'
  ·rw [zkK (by simp [OpK]) hs,ptyL_2 e2 e2'];exact pOp_5 rfl hb hu hu'
 | @btw n frs a b c _ _ _ i1 i2 i3 =>
  intro hf
  obtain ⟨⟨t,ht1,e1⟩,⟨u,hu,e2⟩⟩:=i1 hf
  obtain ⟨⟨t',ht1',e1'⟩,⟨u',hu',e2'⟩⟩:=i2 hf
  obtain ⟨⟨t'',ht1'',e1''⟩,⟨u'',hu'',e2''⟩⟩:=i3 hf
  have hs:zcP (xA 7 0 false [a,b,c])=true:=zkN (.inr (.inr ⟨rfl,rfl⟩))
  constructor
  ·rw [zkR (by simp [OpK]) hs,rtyL_3 e1 e1' e1''];exact rres_7 rfl ht1 ht1' ht1''
  ·rw [zkK (by simp [OpK]) hs,ptyL_3 e2 e2' e2''];exact pOp_7 rfl hu hu' hu''
 | @qry n frs k w st it wh s hs hq hw _ _ i1 i2 =>
  intro hf
  have hfi:=hf.ins ht hs
  have hkk:k=8∨k=9∨k=10∨k=11∨k=12:=by rcases hq with h|h|h <;> omega
  have hsh:zcP (xQ k st it s.name wh)=true:=zvd hq hw
  constructor
  ·rw [zv4 hkk (ht.get s hs) hsh (zii (f:=fun x=>zc0 n x (frIn frs s) tb) fun x hx=>(i2 x hx hfi).1).1]
   exact rtq_ok (wh:=wh) (s:=s) hq (fun x hx=>(i1 x hx hfi).1) rfl
  ·rw [zvO hkk (ht.get s hs) hsh (zii (f:=fun x=>za5 n x (frIn frs s) tb) fun x hx=>(i2 x hx hfi).2).2]
   exact ptq_ok (wh:=wh) hq (fun x hx=>(i1 x hx hfi).2) rfl
end
end Go.AM
