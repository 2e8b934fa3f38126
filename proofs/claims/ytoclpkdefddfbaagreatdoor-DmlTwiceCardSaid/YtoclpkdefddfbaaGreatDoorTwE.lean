/-
  Contracts of the program's functions, part 4.
-/
import Derived.Test.YtoclpkdefddfbaaGreatDoorTwD
import Derived.Lib.Strings
set_option linter.unusedSimpArgs false
set_option linter.unusedVariables false
namespace Go.AM
set_option maxRecDepth 100000
set_option maxHeartbeats 1000000
set_option linter.unusedSimpArgs false
set_option linter.unusedVariables false
theorem zcJ {p:Prop} (h:p:=by first|(obtain rfl:=pr_end ‹PrI l l.length _›;simp only [pOp,cond_true,cond_false,Bool.or_true,Bool.or_false,Bool.true_or,Bool.false_or,Bool.and_self,Bool.and_true,Bool.and_false,Bool.true_and,Bool.false_and, *];done)|(simp only [pOp,cond_true,cond_false,Bool.or_true,Bool.or_false,Bool.true_or,Bool.false_or,Bool.and_self,Bool.and_true,Bool.and_false,Bool.true_and,Bool.false_and, *];done)):p:=h
theorem zcA {p:Prop} (h:p:=by first|assumption|(simp [PrI];done)|omega|rfl):p:=h
theorem zlr {p:Prop} (h:p:=by first|assumption|omega|(simp;done)|(simp;omega)):p:=h
def pfit (a b:Int):Bool :=
 bif a==0 then
  true
 else
  bif b==0 then
   true
  else
   a==b
theorem zf4 (a b:Int) :zab E0 S.scope_fits [iv a,iv b] [] (bv (pfit a b)) []:=by
 unfold pfit
 cases h1:a==0
 ·cases h2:b==0
  ·exact wk At.scope_fits [sg h1,sg h2] kr
  ·exact wk At.scope_fits [sg h1,sb h2] kr
 ·exact wk At.scope_fits [sb h1] kr
def pfc (t w:Int):Bool :=
 !pfit t w
theorem zhf (t w:Int) :zab E0 S.scope_all_c1 [iv t,.p 0 0] [.box [iv w]] (bv (pfc t w)) [.box [iv w]]:=by
 exact wk At.scope_all_c1 [sc (zf4 t w)] kr
noncomputable def zq6 (l:List Int) (w:Int) (i:Nat) :Cfg:=zap B.slices_IndexFunc_int 0 [(0,isl l),(1,.fn S.scope_all_c1 [.p 0 0]),(7,iv ((l.map zbN).length:Nat)),(8,iv (i:Nat))] [.box [iv w]]
theorem zdK (l:List Int) (w:Int) (hl:zad l) (i:Nat)  (hi:i≤(l).length) (hI:(l.take i).all (fun t=>pfit t w)=true):(((l.take (l).length).all (fun t=>pfit t w)=true)∧(decide ((((l).length:Nat):Int) < (((l.map zbN).length:Nat):Int))=false)∧∀ R,Good E0 B.slices_IndexFunc_int [.box [iv w]] (zq6 l w (l).length ) R→Good E0 B.slices_IndexFunc_int [.box [iv w]] (zq6 l w i ) R)∨(∃ (r:Int),(decide (0≤r)=true∧l.all (fun t=>pfit t w)=false)∧Good E0 B.slices_IndexFunc_int [.box [iv w]] (zq6 l w i ) (Shut 1 fun rZ hZ=>rZ=(iv r)∧hZ=[.box [iv w]])):=by
 obtain ⟨kk,hk⟩:∃ kk,i+kk=(l).length:=⟨(l).length - i,by omega⟩
 induction kk generalizing i  with
 | zero =>
  have e0:i=(l).length:=by omega
  subst e0
  exact .inl ⟨hI,by simp,fun R hg=>hg⟩
 | succ kk ih =>
  obtain ⟨x,hx⟩:=zaw (l:=l) (i:=i) (by omega)
  have h0:decide (((i:Nat):Int) < (((l.map zbN).length:Nat):Int))=true:=by simp;omega
  have hw:IntKind.i64.wrap (((i:Nat):Int)+1)=((i+1:Nat):Int):=zal i (by first|omega|(simp only [zad,Few] at *;omega))
  let p_1:List St:=[sb h0,se (zaf (fun n=>[iv n]) hx rfl),sl [0] (zhf x w)]
  cases h1:pfc x w
  ·exact (ih (i+1) (by omega) (by exact zco hI hx (notT (show (!pfit x w)=false from (by assumption:pfc x w=false)))) (by omega)).elim (fun ⟨qZ,xZ,gZ⟩=>.inl ⟨qZ,xZ,fun R hg=>zaa (wkl (p_1++[sb h1,si hw]) [0,1,7,8] 1 kr (gZ R hg))⟩) (fun ⟨rY,pZ,gZ⟩=>.inr ⟨rY,pZ,zaa (wkl [sb h0,se (zaf (fun n=>[iv n]) hx rfl),sl [0] (zhf x w),sb h1,si hw] [0,1,7,8] 1 kr gZ)⟩)
  ·exact .inr ⟨(i:Int),(by exact ⟨by simp,zbG hx (notF (show (!pfit x w)=true from (by assumption:pfc x w=true)))⟩),zaa (wkr (p_1++[sb h1]) kr)⟩
theorem zgK (l:List Int) (w:Int) (hl:zad l):∃ (r:Int),decide (0≤r)=!l.all (fun t=>pfit t w)∧zab E0 S.slices_IndexFunc_int [isl l,.fn S.scope_all_c1 [.p 0 0]] [.box [iv w]] (iv r) [.box [iv w]]:=by
 rcases zdK l w zlr 0 zlr zlr with ⟨q1,q1_1,g1⟩|⟨r1_0,p1_0,g1⟩
 ·exact ⟨-1,(by first|(have h:=(by assumption:List.all (List.take _ _) _=true);rw [List.take_length] at h;rw [h];rfl)|(have h:=(by assumption:_∧List.all _ _=false);rw [h.1,h.2];rfl)),wkc At.slices_IndexFunc_int [] [0,1,7,8] 1 kr (g1 _ (zaa (wkr [sb q1_1] kr)))⟩
 ·exact ⟨r1_0,(by first|(have h:=(by assumption:List.all (List.take _ _) _=true);rw [List.take_length] at h;rw [h];rfl)|(have h:=(by assumption:_∧List.all _ _=false);rw [h.1,h.2];rfl)),wkc At.slices_IndexFunc_int [] [0,1,7,8] 1 kr (g1)⟩
theorem zfs (l:List Int) (w:Int) (hl:zad l):∃ (r:Bool),r=!l.all (fun t=>pfit t w)∧zab E0 S.slices_ContainsFunc_int [isl l,.fn S.scope_all_c1 [.p 0 0]] [.box [iv w]] (bv r) [.box [iv w]]:=by
 obtain ⟨r1,q1,c1⟩:=(zgK l w zlr)
 exact ⟨decide ((0:Int)≤r1),(by assumption),wk At.slices_ContainsFunc_int [sl [0] c1] kr⟩
theorem zph (l:List Int) (w:Int) (hl:zad l):∃ (r:Bool),r=l.all (fun t=>pfit t w)∧zab E0 S.scope_all [isl l,iv w] [] (bv r) []:=by
 obtain ⟨r1,q1,c1⟩:=(zfs l w zlr)
 exact ⟨!r1,(by (have h:=‹_=!List.all _ _›;rw [h];simp;done)),wk At.scope_all [sl [0] c1] kr⟩
theorem zbE (l:List Int) (w:Int) (hl:zad l):zab E0 S.scope_all [isl l,iv w] [] (bv (l.all fun t=>pfit t w)) []:=by
 obtain ⟨r,rfl,h⟩:=zph l w hl
 exact h
def prL:List Int→List Int→Bool
 | _,[]=>true
 | pre,t::r=>pre.all (fun u=>pfit u t)&&prL (pre++[t]) r
def PrI (l:List Int) (i:Nat) (ok:Bool):Prop:=prL [] l=(ok&&prL (l.take i) (l.drop i))
theorem zpJ {l:List Int} {i:Nat} {x:Int} {ok ok':Bool} (h:PrI l i ok) (hx:l[i]?=some x) (h1:ok'=(ok&&(l.take i).all fun u=>pfit u x)):PrI l (i+1) ok':=by
 unfold PrI at *
 obtain ⟨hi,e⟩:=List.getElem?_eq_some_iff.1 hx
 rw [h,List.drop_eq_getElem_cons hi,e,h1]
 simp only [prL]
 rw [List.take_add_one,hx,Bool.and_assoc];rfl
noncomputable def L_op (e:X) (l:List Int) (i:Nat) (ok:Bool):Cfg:=zap B.scope_operation 0 [(1,isl l),(6,bv ok),(7,iv 2),(10,isl l),(11,iv ((l.map zbN).length:Nat)),(12,iv (i:Nat))] [.box e.cells]
theorem zcW (e:X) (l:List Int) (hl:zad l) (i:Nat) (ok:Bool) (hi:i≤(l).length) (hI:PrI l i ok):∃ (ok':Bool),(PrI l (l).length ok')∧(decide ((((l).length:Nat):Int) < (((l.map zbN).length:Nat):Int))=false)∧∀ R,Good E0 B.scope_operation [] (L_op e l (l).length ok') R→Good E0 B.scope_operation [] (L_op e l i ok) R:=by
 obtain ⟨kk,hk⟩:∃ kk,i+kk=(l).length:=⟨(l).length - i,by omega⟩
 induction kk generalizing i ok with
 | zero =>
  have e0:i=(l).length:=by omega
  subst e0
  exact ⟨ok,hI,by simp,fun R hg=>hg⟩
 | succ kk ih =>
  obtain ⟨x,hx⟩:=zaw (l:=l) (i:=i) (by omega)
  have h0:decide (((i:Nat):Int) < (((l.map zbN).length:Nat):Int))=true:=by simp;omega
  have hw:IntKind.i64.wrap (((i:Nat):Int)+1)=((i+1:Nat):Int):=zal i (by first|omega|(simp only [zad,Few] at *;omega))
  have hc:zab E0 S.scope_all [.sl ((l.map zbN).take i),iv x] [] (bv ((l.take i).all fun t=>pfit t x)) []:=by
   rw [← List.map_take];exact zbE (l.take i) x (by simp only [zad,List.length_take] at *;omega)
  let p_1:List St:=[sb h0,se (zaf (fun n=>[iv n]) hx rfl)]
  rcases (Bool.eq_false_or_eq_true ok).symm with h1|h1
  ·obtain ⟨okZ,qZ,xZ,gZ⟩:=ih (i+1) false (by omega) (by exact zpJ hI hx (by simp only [*];simp)) (by omega);exact ⟨okZ,qZ,xZ,fun R hg=>zaa (wklN (p_1++[sb h1,si hw]) [1,6,7,10,11,12] 1 [(.bl 6,1)] kr (gZ R hg))⟩
  ·obtain ⟨okZ,qZ,xZ,gZ⟩:=ih (i+1) ((List.take i l).all fun t=>pfit t x) (by omega) (by exact zpJ hI hx (by simp only [*];simp)) (by omega);exact ⟨okZ,qZ,xZ,fun R hg=>zaa (wkl (p_1++[sg h1,sqx (SubAt (List.map (fun n=>[iv n]) l) 0 (i:Int) 1),sc hc,si hw]) [1,6,7,10,11,12] 1 kr (gZ R hg))⟩
def pOp (e:X) (l:List Int):Int × Int :=
 bif e.kind==6 then (2,0)
 else bif e.kind==3 || (e.kind==5&&decide (e.op≤2)) then (bif !l.all (fun t=>pfit t 2) then (0,5) else (2,0))
 else bif e.kind==4 || (e.kind==5&&decide (9≤e.op)) then (bif !l.all (fun t=>pfit t 1) then (0,5) else (1,0))
 else bif !prL [] l then (0,5) else (2,0)
theorem pr_end {l:List Int} {ok:Bool} (h:PrI l l.length ok):ok=prL [] l:=by
 unfold PrI at h;rw [h,List.drop_length];simp [prL]
theorem zj2 (e:X) (l:List Int) (hl:zad l):∃ (t c:Int),(t,c)=pOp e l∧zab E0 S.scope_operation [e.av,isl l] [] (.tup [iv t,iv c]) []:=by
 cases h1:e.kind==6
 ·cases h2:e.kind==3
  ·cases h3:e.kind==5
   ·cases h4:e.kind==4
    ·obtain ⟨ok5,q5,q5_1,g5⟩:=zcW e l zcA 0 true zcA zcA
     cases h6:!ok5
     ·exact ⟨2,0,zcJ,wkcN At.scope_operation [sb h1,sb h2,sb h3,sb h4,sb h3] [1,6,7,10,11,12] 1 [(.bl 6,1)] kr (g5 _ (zaa (wkr [sb q5_1,sb h6] kr)))⟩
     ·exact ⟨0,5,zcJ,wkcN At.scope_operation [sb h1,sb h2,sb h3,sb h4,sb h3] [1,6,7,10,11,12] 1 [(.bl 6,1)] kr (g5 _ (zaa (wkr [sb q5_1,sb h6] kr)))⟩
    ·cases h7:!l.all fun t=>pfit t 1
     ·exact ⟨1,0,zcJ,wk At.scope_operation [sb h1,sb h2,sb h3,sb h4,sc (zbE l 1 zcA),sb h7] kr⟩
     ·exact ⟨0,5,zcJ,wk At.scope_operation [sb h1,sb h2,sb h3,sb h4,sc (zbE l 1 zcA),sb h7] kr⟩
   ·cases h8:decide (e.op≤2)
    ·cases h9:e.kind==4
     ·cases h10:decide (9≤e.op)
      ·obtain ⟨ok11,q11,q11_1,g11⟩:=zcW e l zcA 0 true zcA zcA
       cases h12:!ok11
       ·exact ⟨2,0,zcJ,wkcN At.scope_operation [sb h1,sb h2,sg h3,sb h8,sb h9,sg h3,sb h10] [1,6,7,10,11,12] 1 [(.bl 6,1)] kr (g11 _ (zaa (wkr [sb q11_1,sb h12] kr)))⟩
       ·exact ⟨0,5,zcJ,wkcN At.scope_operation [sb h1,sb h2,sg h3,sb h8,sb h9,sg h3,sb h10] [1,6,7,10,11,12] 1 [(.bl 6,1)] kr (g11 _ (zaa (wkr [sb q11_1,sb h12] kr)))⟩
      ·cases h13:!l.all fun t=>pfit t 1
       ·exact ⟨1,0,zcJ,wk At.scope_operation [sb h1,sb h2,sg h3,sb h8,sb h9,sg h3,sb h10,sc (zbE l 1 zcA),sb h13] kr⟩
       ·exact ⟨0,5,zcJ,wk At.scope_operation [sb h1,sb h2,sg h3,sb h8,sb h9,sg h3,sb h10,sc (zbE l 1 zcA),sb h13] kr⟩
     ·cases h14:!l.all fun t=>pfit t 1
      ·exact ⟨1,0,zcJ,wk At.scope_operation [sb h1,sb h2,sg h3,sb h8,sb h9,sc (zbE l 1 zcA),sb h14] kr⟩
      ·exact ⟨0,5,zcJ,wk At.scope_operation [sb h1,sb h2,sg h3,sb h8,sb h9,sc (zbE l 1 zcA),sb h14] kr⟩
    ·cases h15:!l.all fun t=>pfit t 2
     ·exact ⟨2,0,zcJ,wk At.scope_operation [sb h1,sb h2,sg h3,sb h8,sc (zbE l 2 zcA),sb h15] kr⟩
     ·exact ⟨0,5,zcJ,wk At.scope_operation [sb h1,sb h2,sg h3,sb h8,sc (zbE l 2 zcA),sb h15] kr⟩
  ·cases h16:!l.all fun t=>pfit t 2
   ·exact ⟨2,0,zcJ,wk At.scope_operation [sb h1,sb h2,sc (zbE l 2 zcA),sb h16] kr⟩
   ·exact ⟨0,5,zcJ,wk At.scope_operation [sb h1,sb h2,sc (zbE l 2 zcA),sb h16] kr⟩
 ·exact ⟨2,0,zcJ,wk At.scope_operation [sb h1] kr⟩
theorem zjW (e:X) (l:List Int) (hl:zad l):zab E0 S.scope_operation [e.av,isl l] [] (.tup [iv (pOp e l).1,iv (pOp e l).2]) []:=by
 obtain ⟨t,c,h,h2⟩:=zj2 e l hl
 rw [← h];exact h2
end Go.AM
namespace Go.AM
set_option maxRecDepth 100000
set_option maxHeartbeats 1000000
set_option linter.unusedSimpArgs false
set_option linter.unusedVariables false
theorem PrefOk.good {cols:List Col} {vals:List V} (h:zcB cols vals):∀ v∈vals,v.Good:=fun v hv=>by
 obtain ⟨k,hk,hkv⟩:=List.mem_iff_getElem.1 hv
 have hl:=h.len
 obtain ⟨c,hc⟩:=zaw (l:=cols) (i:=k) (by omega)
 exact (h.at_ k c v hc (by rw [← hkv];simp)).good
theorem FsT.ok {frs:List Fr} (h:FsT frs) (n:Nat) (hn:n≤900000):FsOk n frs :=
 ⟨by have:=h.len;omega,fun f hf=>zaL (h.few f hf),fun f hf v hv=>((h.rows f hf).good v hv).small⟩
theorem FsT.g {frs:List Fr} (h:FsT frs):FsG frs:=fun f hf v hv=>(h.rows f hf).good v hv
theorem StoreOk.tbOk {l:List Tb} (h:StoreOk l):TbOk l :=
 ⟨by have:=h.len;simp only [zad];omega,fun x hx=>(h.tabs x hx).2.short,fun x hx=>(h.tabs x hx).1.len,fun x hx r hr v hv=>(((h.tabs x hx).1.rows r hr).good v hv).small⟩
theorem StoreOk.tbG {l:List Tb} (h:StoreOk l):TbG l :=
 ⟨fun x hx r hr v hv=>((h.tabs x hx).1.rows r hr).good v hv,fun x hx=>(h.tabs x hx).1.len⟩
theorem znu (n:Nat) (hn:n≤1000):FsOk n []:=⟨by simp;omega,fun f hf=>(by cases hf),fun f hf=>(by cases hf)⟩
theorem zpE:FsG []:=fun f hf=>by cases hf
end Go.AM
namespace Go.AM
set_option maxRecDepth 100000
set_option maxHeartbeats 1000000
set_option linter.unusedSimpArgs false
set_option linter.unusedVariables false
structure Sound (ty:Int × Int) (ev:V × Int):Prop where
 code:ty.2=0→ev.2=0∨ev.2=6∨ev.2=7
 kind:ty.2=0→ev.2=0→ev.1.kind=0∨ev.1.kind=ty.1
end Go.AM
namespace Go.AM
set_option maxRecDepth 100000
set_option maxHeartbeats 1000000
set_option linter.unusedSimpArgs false
set_option linter.unusedVariables false
structure Res (w:Int) (r:V × Int):Prop where
 code:r.2=0∨r.2=6∨r.2=7
 kind:r.2=0→r.1.kind=0∨r.1.kind=w
abbrev KOk (v:V) (k:Int):Prop:=v.kind=0∨v.kind=k
/- ### types of operations -/
theorem KOk.trans {v:V} {t k:Int} (h:KOk v t) (ht:t=0∨t=k):KOk v k:=by
 rcases h with h|h
 ·exact .inl h
 ·rcases ht with rfl|rfl
  ·exact .inl h
  ·exact .inr h
inductive Typed:List V→List Int→Prop
 | nil:Typed [] []
 | cons {v:V} {t:Int} {l:List V} {ts:List Int}:KOk v t→Typed l ts→Typed (v::l) (t::ts)
end Go.AM
namespace Go.AM
set_option maxRecDepth 100000
set_option maxHeartbeats 1000000
set_option linter.unusedSimpArgs false
set_option linter.unusedVariables false
def er (f:Fr):Fr:=⟨f.name,f.strict,f.cols,[]⟩
theorem zpW (frs:List Fr) (k:Nat):(frs.map er).getD k za7=er (frs.getD k za7):=by
 simp only [List.getD_eq_getElem?_getD,List.getElem?_map]
 cases frs[k]? <;> rfl
theorem zpV (frs:List Fr) (q n:Str):∀ k,rres (frs.map er) q n k=rres frs q n k
 | 0=>rfl
 | k+1=>by
  simp only [rres,zks,zpW,zpV frs q n k]
  rfl
theorem zpq (frs:List Fr) (q n:Str):zbv (frs.map er) q n=zbv frs q n:=by
 unfold zbv;rw [List.length_map,zpV]
theorem zrD (frs:List Fr) (q n:Str):rFr (frs.map er) q n=er (rFr frs q n):=by
 unfold rFr;rw [zpq,zpW]
structure FrRel (tf vf:List Fr):Prop where
 eq:tf.map er=vf.map er
 rows:∀ f∈vf,zcB f.cols f.vals
theorem FrRel.cols {tf vf:List Fr} (h:FrRel tf vf) (q n:Str):(rFr tf q n).cols=(rFr vf q n).cols:=by
 have:er (rFr tf q n)=er (rFr vf q n):=by rw [← zrD,← zrD,h.eq]
 exact (congrArg Fr.cols this:(er _).cols=(er _).cols)
theorem FrRel.ins {tf vf:List Fr} (h:FrRel tf vf) {t:Tb} {v:List V} (hv:zcB t.sch.cols v):FrRel (zaF tf t.sch []) (zav vf t v):=by
 refine ⟨by simp only [zaF,zav,List.map_append,h.eq];rfl,fun f hf=>?_⟩
 simp only [zav,List.mem_append,List.mem_singleton] at hf
 rcases hf with hf|rfl
 ·exact h.rows f hf
 ·exact hv
theorem zox (tb:List Tb) (n:Str):∀ (l:List Tb) (i:Nat),zh0 tb n l i=match l.find? (fun t=>zan t n) with|some t=>(t.sch,true)|none=>(⟨⟨#[]⟩,[]⟩,false)
 | [],i=>rfl
 | x::r,i=>by
  simp only [zh0,List.find?,zan]
  cases h:x.sch.name.toList==n.toList
  ·exact zox tb n r _
  ·rfl
theorem zfi (tb:List Tb) (n:Str):zat tb n=match zbB tb n with|some t=>(t.sch,true)|none=>(⟨⟨#[]⟩,[]⟩,false):=zox tb n tb 0
structure TbT (tb:List Tb):Prop where
 rows:∀ x∈tb,∀ r∈x.rows,zcB x.sch.cols r.vals
 len:∀ x∈tb,x.rows.length≤1000
theorem TbT.g {tb:List Tb} (h:TbT tb):TbG tb:=⟨fun x hx r hr v hv=>(h.rows x hx r hr).good v hv,h.len⟩
theorem FrRel.g {tf vf:List Fr} (h:FrRel tf vf):FsG vf:=fun f hf v hv=>(h.rows f hf).good v hv
end Go.AM
namespace Go.AM
set_option maxRecDepth 100000
set_option maxHeartbeats 1000000
set_option linter.unusedSimpArgs false
set_option linter.unusedVariables false
theorem znH {tb:List Tb} {n:Str} {x:Tb} (h:AtI tb (idxF (fun t=>zan t n) tb 0) x):zat tb n=(x.sch,true):=by
 obtain ⟨h0,h1⟩:=h
 rw [zfi]
 rcases zcC (fun t=>zan t n) tb 0 with ⟨h2,_⟩|⟨j,y,h2,h3,h4⟩
 ·omega
 ·rw [h2] at h1
  have:((0+j:Nat):Int).toNat=j:=by omega
  rw [this,h3] at h1
  cases h1
  unfold zbB;rw [h4]
theorem zoI {tb:List Tb} {n:Str} (h:decide (idxF (fun t=>zan t n) tb 0 < 0)=true):zat tb n=(⟨⟨#[]⟩,[]⟩,false):=by
 rw [zfi]
 rcases zcC (fun t=>zan t n) tb 0 with ⟨_,h2⟩|⟨j,y,h2,h3,h4⟩
 ·unfold zbB;rw [h2]
 ·simp only [decide_eq_true_eq] at h;omega
theorem ztY {tb:List Tb} {n:Str} (h:decide (idxF (fun t=>zan t n) tb 0 < 0)=false):0≤idxF (fun t=>zan t n) tb 0∧idxF (fun t=>zan t n) tb 0 < ((tb.length:Nat):Int):=by
 simp only [decide_eq_false_iff_not] at h
 have:=zlK (fun t=>zan t n) tb 0
 exact ⟨by omega,by rcases this with h|h <;> omega⟩
theorem zfe (t:Tb) (n:Str) :zab E0 S.scope_Source_c1 [.agg t.cells,.p 0 0] [.box [sv n]] (bv (zan t n)) [.box [sv n]]:=by
 exact wk At.scope_Source_c1 [] kr
noncomputable def zom (tb:List Tb) (n:Str) (i:Nat):Cfg:=zap B.slices_IndexFunc_Table 0 [(0,.sl (tb.map Tb.cells)),(1,.fn S.scope_Source_c1 [.p 0 0]),(7,iv ((tb.map Tb.cells).length:Nat)),(8,iv (i:Nat))] [.box [sv n]]
theorem zpl (tb:List Tb) (n:Str) (hl:zad tb):∀ (k i:Nat),i+k=tb.length→Good E0 B.slices_IndexFunc_Table [.box [sv n]] (zom tb n i) (Shut 1 fun r h=>r=iv (idxF (fun t=>zan t n) (tb.drop i) i)∧h=[.box [sv n]]):=by
 intro k
 induction k with
 | zero =>
  intro i hi
  refine zaa ?_
  have h0:decide ((i:Int) < (((tb.map Tb.cells).length:Nat):Int))=false:=by simp;omega
  have e0:tb.drop i=[]:=List.drop_of_length_le (by omega)
  rw [e0]
  exact zdF E0ok mix0 3000 (y:=AV.v (Value.int IntKind.i64 (-1:Int))) (H:=[Blk.box [AV.v (Value.string n)]]) [sb h0] kr (⟨rfl,rfl⟩)
 | succ k ih =>
  intro i hi
  have ih:=ih (i+1) (by omega)
  obtain ⟨x,hx⟩:=zaw (l:=tb) (i:=i) (by omega)
  have h0:decide ((i:Int) < (((tb.map Tb.cells).length:Nat):Int))=true:=by simp;omega
  have hw:=zal i (by omega)
  rw [zaH hx]
  simp only [idxF]
  refine zaa ?_
  cases h1:zan x n
  ·exact zdc E0ok mix0 3000 (c':=zom tb n (i+(1:Nat))) [sb h0,se (zaf Tb.cells hx rfl),sl [(0:Nat)] (zfe x n),sb h1,si hw] [0,1,7,8] 1 kr kr (by simpa only [cond_true,cond_false,h1] using ih)
  ·exact zdF E0ok mix0 3000 (y:=AV.v (Value.int IntKind.i64 (i:Int))) (H:=[Blk.box [AV.v (Value.string n)]]) [sb h0,se (zaf Tb.cells hx rfl),sl [(0:Nat)] (zfe x n),sb h1] kr (⟨by simp only [cond_true,cond_false,h1],rfl⟩)
theorem zsZ (tb:List Tb) (n:Str) (hl:zad tb):zab E0 S.slices_IndexFunc_Table [.sl (tb.map Tb.cells),.fn S.scope_Source_c1 [.p 0 0]] [.box [sv n]] (iv (idxF (fun t=>zan t n) tb 0)) [.box [sv n]]:=by
 exact zew E0ok mix0 At.slices_IndexFunc_Table rfl kr kr 3000 (c':=zom tb n (0:Nat)) [] [0,1,7,8] 1 kr kr (by simpa using zpl tb n hl tb.length 0 (by simp))
theorem zlI (tb:List Tb) (n:Str) (h2:zad tb) (h3:∀ x∈tb,zad x.sch.cols) (hix:zab E0 S.slices_IndexFunc_Table [.sl (tb.map Tb.cells),.fn S.scope_Source_c1 [.p 0 0]] [.box [sv n]] (iv (idxF (fun t=>zan t n) tb 0)) [.box [sv n]]):∃ (s:Sch) (b:Bool),(s,b)=zat tb n∧zab E0 S.scope_Source [tsl tb,sv n] [] (.tup [s.av,bv b]) []:=by
 cases h1:decide (idxF (fun t=>zan t n) tb 0 < 0)
 ·obtain ⟨x2,e2⟩:=ziw (l:=tb) (i:=idxF (fun t=>zan t n) tb (0:Nat)) (by exact ztY (by assumption))
  exact ⟨x2.sch,true,(by first|exact (znH (by assumption)).symm|exact (zoI (by assumption)).symm),wk At.scope_Source [sqx ((True∧x2.sch.cols.length=(List.map Col.cells x2.sch.cols).length∧True)∧True∧True),sl [0] hix,sb h1,se (zdb Tb.cells e2 rfl),sc (zg7 x2.sch.cols (by first|assumption|exact h3 _ (List.mem_of_getElem? (And.right ‹AtI _ _ _›))))] kr⟩
 ·exact ⟨Sch.mk (ByteArray.mk #[]) [],false,(by first|exact (znH (by assumption)).symm|exact (zoI (by assumption)).symm),wk At.scope_Source [sl [0] hix,sb h1] kr⟩
theorem zev (tb:List Tb) (n:Str) (h2:zad tb) (h3:∀ x∈tb,zad x.sch.cols):zab E0 S.scope_Source [tsl tb,sv n] [] (.tup [(zat tb n).1.av,bv (zat tb n).2]) []:=by
 obtain ⟨s,b,h,h2⟩:=zlI tb n h2 h3 (zsZ tb n h2)
 rw [← h];exact h2
theorem zl0 (fr:List Fr) (s:Sch) (h2:zad fr):∃ (r:List Fr),r=zaF fr s []∧zab E0 S.scope_inside [fsl fr,s.av] [] (fsl r) []:=by
 exact ⟨fr++[Fr.mk s.name false s.cols []],(by rfl),(by (try simp only [X.av,Qy.av,V.av,Tb.av,Sch.av,Pl.av,xsl,fsl,vsl,tsl,List.map_append,List.map_cons,List.map_nil,V.cells,Col.cells,Rw.cells,Tb.cells,Fr.cells,Sch.cells,Pl.cells,zbj,za1,za9,za6,zbf,X.cells,Qy.cells,X.args_mk,X.sub_mk,Qy.items_mk,Qy.wh_mk,xCol,xLit,xBin,xNeg,Ac.cells,Se.cells]);exact wk At.scope_inside [sqx ((List.map Fr.cells fr++[[sv s.name,bv false,AV.sl (List.map Col.cells s.cols),AV.sl []]]).length=(List.map Fr.cells fr++[[sv s.name,bv false,AV.sl (List.map Col.cells s.cols),AV.sl []]]).length),sd [(1,[sc (zcQ fr (by first|assumption|omega|(simp;done)|(simp;omega)))]),(8,[sqx (AllLen [[sv s.name,bv false,AV.sl (List.map Col.cells s.cols),AV.sl []]] 4∧fr.length=(List.map Fr.cells fr).length∧(((List.map Fr.cells fr).length+[[sv s.name,bv false,AV.sl (List.map Col.cells s.cols),AV.sl []]].length) * 72).le 140737488355328)])]] kr)⟩
theorem zhb (fr:List Fr) (s:Sch) (h2:zad fr):zab E0 S.scope_inside [fsl fr,s.av] [] (fsl (zaF fr s [])) []:=by
 obtain ⟨r,rfl,h⟩:=zl0 fr s h2
 exact h
end Go.AM
namespace Go.AM
set_option maxRecDepth 100000
set_option maxHeartbeats 1000000
set_option linter.unusedSimpArgs false
set_option linter.unusedVariables false
theorem zb7 {p:Prop} (h:p:=by first|assumption|exact hfo.short|exact hfo.cols|exact hfo.wrap|exact notT ‹(!zcX e)=false›|(have h9:=eq_of_beq ‹(e.kind==_)=true›;omega)):p:=h
theorem zqz {p:Prop} (h:p:=by first|assumption|exact hfo.short|exact hto.len|exact hto.cols):p:=h
theorem ztM (frs:List Fr) (q n:Str) (h:(!(zbq frs q n).2.2)=false):ElAt ((rFr frs q n).cols.map Col.cells) (zbq frs q n).2.1 (rCol frs q n).cells 4:=by
 rw [zgI] at h ⊢;exact zui frs q n (by simpa using h)
def znP (f:X→Int × Int) (x:X):Int :=
 bif (f x).snd==0 then
  bif !pfit (f x).fst 2 then
   5
  else
   (f x).snd
 else
  (f x).snd
theorem zhS (f:X→Int × Int) (x:X) (r:List X) (frs:List Fr) (tb:List Tb) (hn:((((zac (x::r)).length:Nat):Int)==0)=false) (hf:Pure S.scope_Type [x.av,fsl frs,tsl tb] (.tup [iv (f x).1,iv (f x).2])):zab E0 S.scope_Condition [xsl (x::r),fsl frs,tsl tb] [] (iv (znP f x)) []:=by
 unfold znP
 let p_1:List St:=[sb (rfl:false=false),se (zbl (l:=x::r) (i:=0) (x:=x) rfl),sc hf]
 cases h1:(f x).snd==0
 ·exact wk At.scope_Condition (p_1++[sb h1]) kr
 ·let p_2:List St:=p_1++[sg h1,sc (zf4 ((f x).fst) 2)]
  cases h2:!pfit (f x).fst 2
  ·exact wk At.scope_Condition (p_2++[sb h2]) kr
  ·exact wk At.scope_Condition (p_2++[sb h2]) kr
def zrF :Int :=
 0
theorem zhA  (frs:List Fr) (tb:List Tb):zab E0 S.scope_Condition [xsl [],fsl frs,tsl tb] [] (iv zrF) []:=by
 exact wk At.scope_Condition [sb (rfl:true=true)] kr
noncomputable def L_ptyL (f:X→Int × Int) (e:X) (frs:List Fr) (tb:List Tb) (i:Nat) (l:List Int):Cfg:=zap B.scope_Type 0 [(1,fsl frs),(2,tsl tb),(3,.p 0 0),(11,.own 1 l.length),(62,xsl e.args),(63,iv ((zac e.args).length:Nat)),(64,iv (i:Nat))] [.box e.cells,.row Ty.int (l.map fun n=>[iv n]) false]
def ptyL (f:X→Int × Int) (e:X) (frs:List Fr) (tb:List Tb):List (X)→Nat→(List Int)→Int × Int
 | [],i,l =>
  ((pOp e l).fst,(pOp e l).snd)
 | x::r,i,l =>
  bif (f x).snd != 0 then
   (0,(f x).snd)
  else
   ptyL f e frs tb r (i+1) (l++[(f x).fst])
theorem zpb (f:X→Int × Int) (e:X) (frs:List Fr) (tb:List Tb) (hl:zad e.args) (hf:∀ x∈e.args,Pure S.scope_Type [x.av,fsl frs,tsl tb] (.tup [iv (f x).1,iv (f x).2])):∀ (kk i:Nat) (l:List Int),i+kk=(e.args).length→(l.length≤i)→Good E0 B.scope_Type [] (L_ptyL f e frs tb i l) (Shut 0 fun r h=>r=(.tup [iv (ptyL f e frs tb ((e.args).drop i) i l).1,iv (ptyL f e frs tb ((e.args).drop i) i l).2])∧h=[]):=by
 intro kk
 induction kk with
 | zero =>
  intro i l hi ho
  have h0:decide (((i:Nat):Int) < (((zac e.args).length:Nat):Int))=false:=by simp;omega
  have e0:(e.args).drop i=[]:=List.drop_of_length_le (by omega)
  rw [e0]
  simp only [ptyL]
  refine zaa ?_
  exact wkr [sb h0,skx ((True∧True∧True∧True∧True∧True∧True∧True∧True∧True∧True)∧l.length=(List.map (fun n=>[iv n]) l).length∧True) [] (zjW e l (by first|assumption|(simp only [zad] at *;omega)))] kr
 | succ kk ih =>
  intro i l hi ho
  obtain ⟨x,hx⟩:=zaw (l:=e.args) (i:=i) (by omega)
  have h0:decide (((i:Nat):Int) < (((zac e.args).length:Nat):Int))=true:=by simp;omega
  have hw:=zal i (by first|omega|(simp only [zad,Few] at *;omega))
  have hfx:=hf x (List.mem_of_getElem? hx)
  rw [zaH hx]
  simp only [ptyL]
  refine zaa ?_
  cases h1:(f x).snd != 0
  ·exact wkl [sb h0,se (zbl hx),sc hfx,sb h1,sqx (AllLen [[iv (f x).fst]] 1∧l.length=(List.map (fun n=>[iv n]) l).length∧(((List.map (fun n=>[iv n]) l).length+[[iv (f x).fst]].length) * 8).le 140737488355328),si hw] [1,2,3,11,62,63,64] 2 kr (zay (show ([(1,AV.sl (List.map Fr.cells frs)),(2,AV.sl (List.map Tb.cells tb)),(3,AV.p 0 0),(11,AV.own 1 (List.map (fun n=>[iv n]) l++[[iv (f x).fst]]).length),(62,AV.sl (zac e.args)),(63,iv (↑(zac e.args).length:Int)),(64,iv (↑(i+1):Int))]:TS)=_ by first|rfl|(simp;done)|(simp [X.cells,Qy.cells,V.cells,Col.cells,Rw.cells,Tb.cells,Fr.cells,Sch.cells,Tp.cells,Pl.cells,xCol,xLit,xBin,xNeg,Ac.cells,Se.cells];done)) (show ([Blk.box [iv e.kind,iv e.op,bv e.not,iv e.val.kind,iv e.val.int,sv e.val.text,sv e.table,sv e.name,AV.sl (zac e.args),AV.sl (zag e.sub)],Blk.row Ty.int (List.map (fun n=>[iv n]) l++[[iv (f x).fst]]) false]:Heap)=_ by first|rfl|(simp;done)|(simp [X.cells,Qy.cells,V.cells,Col.cells,Rw.cells,Tb.cells,Fr.cells,Sch.cells,Tp.cells,Pl.cells,xCol,xLit,xBin,xNeg,Ac.cells,Se.cells];done)) (ih (i+1) (l++[(f x).fst]) (by omega) (by first|assumption|(simp;done)|(simp;omega)|omega|(simp at *;omega))))
  ·exact wkr [sb h0,se (zbl hx),sc hfx,sb h1] kr
noncomputable def L_ptqL (f:X→Int × Int) (cond:Int) (e:X) (q:Qy) (s:Sch) (ins:List Fr) (tb:List Tb) (i:Nat) (item:Int):Cfg:=zap B.scope_aggregate 0 [(2,tsl tb),(3,.p 0 0),(8,.p 1 0),(11,fsl ins),(12,iv item),(35,xsl q.items),(36,iv ((zac q.items).length:Nat)),(37,iv (i:Nat))] [.box e.cells,.box q.cells,.box s.cells]
def ptqL (f:X→Int × Int) (cond:Int) (e:X) (q:Qy) (s:Sch) (ins:List Fr) (tb:List Tb):List (X)→Nat→(Int)→Int × Int
 | [],i,item =>
  bif cond != 0 then
   (0,cond)
  else
   bif e.kind==10 then
    bif !pfit item 1 then
     (0,5)
    else
     bif e.kind==8 then
      (2,0)
     else
      bif e.kind==9 then
       (1,0)
      else
       (1,0)
   else
    bif e.kind==8 then
     (2,0)
    else
     bif e.kind==9 then
      (1,0)
     else
      (item,0)
 | x::r,i,item =>
  bif (f x).snd != 0 then
   (0,(f x).snd)
  else
   ptqL f cond e q s ins tb r (i+1) ((f x).fst)
theorem zoV (f:X→Int × Int) (cond:Int) (e:X) (q:Qy) (s:Sch) (ins:List Fr) (tb:List Tb) (hl:zad q.items) (hf:∀ x∈q.items,Pure S.scope_Type [x.av,fsl ins,tsl tb] (.tup [iv (f x).1,iv (f x).2])) (hc:Pure S.scope_Condition [xsl q.wh,fsl ins,tsl tb] (iv cond)):∀ (kk i:Nat) (item:Int),i+kk=(q.items).length→Good E0 B.scope_aggregate [] (L_ptqL f cond e q s ins tb i item) (Shut 0 fun r h=>r=(.tup [iv (ptqL f cond e q s ins tb ((q.items).drop i) i item).1,iv (ptqL f cond e q s ins tb ((q.items).drop i) i item).2])∧h=[]):=by
 intro kk
 induction kk with
 | zero =>
  intro i item hi
  have h0:decide (((i:Nat):Int) < (((zac q.items).length:Nat):Int))=false:=by simp;omega
  have e0:(q.items).drop i=[]:=List.drop_of_length_le (by omega)
  rw [e0]
  simp only [ptqL]
  refine zaa ?_
  cases h1:cond != 0
  ·cases h2:e.kind==10
   ·cases h3:e.kind==8
    ·cases h4:e.kind==9
     ·exact wkr [sb h0,sc hc,sb h1,sb h2,sb h3,sb h4,sb h2] kr
     ·exact wkr [sb h0,sc hc,sb h1,sb h2,sb h3,sb h4] kr
    ·exact wkr [sb h0,sc hc,sb h1,sb h2,sb h3] kr
   ·let p_1:List St:=[sb h0,sc hc,sb h1,sg h2,sc (zf4 item 1)]
    cases h5:!pfit item 1
    ·cases h6:e.kind==8
     ·cases h7:e.kind==9
      ·exact wkr (p_1++[sb h5,sb h6,sb h7,sb h2]) kr
      ·exact wkr (p_1++[sb h5,sb h6,sb h7]) kr
     ·exact wkr (p_1++[sb h5,sb h6]) kr
    ·exact wkr (p_1++[sb h5]) kr
  ·exact wkr [sb h0,sc hc,sb h1] kr
 | succ kk ih =>
  intro i item hi
  obtain ⟨x,hx⟩:=zaw (l:=q.items) (i:=i) (by omega)
  have h0:decide (((i:Nat):Int) < (((zac q.items).length:Nat):Int))=true:=by simp;omega
  have hw:=zal i (by first|omega|(simp only [zad,Few] at *;omega))
  have hfx:=hf x (List.mem_of_getElem? hx)
  rw [zaH hx]
  simp only [ptqL]
  refine zaa ?_
  cases h1:(f x).snd != 0
  ·exact wkl [sb h0,se (zbl hx),sc hfx,sb h1,si hw] [2,3,8,11,12,35,36,37] 3 kr (ih (i+1) ((f x).fst) (by omega) )
  ·exact wkr [sb h0,se (zbl hx),sc hfx,sb h1] kr
def ptqF (f:X→Int × Int) (cond:Int) (e:X) (q:Qy) (frs:List Fr) (tb:List Tb):Int × Int :=
 bif !(zat tb q.frm).snd then
  (0,3)
 else
  ptqL f cond e q (zat tb q.frm).1 (zaF frs (zat tb q.frm).1 []) tb q.items 0 (0)
theorem zjR (f:X→Int × Int) (cond:Int) (e:X) (q:Qy) (frs:List Fr) (tb:List Tb) (n:Nat) (hq:e.sub[0]?=some q) (hfo:FsOk n frs) (hto:TbOk tb) (hl:zad q.items) (hf:∀ x∈q.items,Pure S.scope_Type [x.av,fsl (zaF frs (zat tb q.frm).1 []),tsl tb] (.tup [iv (f x).1,iv (f x).2])) (hc:Pure S.scope_Condition [xsl q.wh,fsl (zaF frs (zat tb q.frm).1 []),tsl tb] (iv cond)):zab E0 S.scope_aggregate [e.av,fsl frs,tsl tb] [] (.tup [iv (ptqF f cond e q frs tb).1,iv (ptqF f cond e q frs tb).2]) []:=by
 unfold ptqF
 let p_1:List St:=[se (zaK hq),sc (zev tb q.frm zqz zqz)]
 cases h1:!(zat tb q.frm).snd
 ·exact wkc At.scope_aggregate (p_1++[sb h1,sc (zhb frs ((zat tb q.frm).fst) zqz)]) [2,3,8,11,12,35,36,37] 3 kr (by have ih:=zoV f cond e q (zat tb q.frm).1 (zaF frs (zat tb q.frm).1 []) tb hl hf hc q.items.length 0 0 (by simp);exact ih)
 ·exact wk At.scope_aggregate (p_1++[sb h1]) kr
def ptyF (f:X→Int × Int) (ag:Int × Int) (e:X) (frs:List Fr) (tb:List Tb):Int × Int :=
 bif !zcX e then
  (0,17)
 else
  bif e.kind==1 then
   (e.val.kind,0)
  else
   bif e.kind==2 then
    bif !(zbq frs e.table e.name).snd.snd then
     (0,3)
    else
     ((rCol frs e.table e.name).type,0)
   else
    bif e.kind==8 then
     (ag.fst,ag.snd)
    else
     bif e.kind==9 then
      (ag.fst,ag.snd)
     else
      bif e.kind==10 then
       (ag.fst,ag.snd)
      else
       bif e.kind==11 then
        (ag.fst,ag.snd)
       else
        bif e.kind==12 then
         (ag.fst,ag.snd)
        else
         ptyL f e frs tb e.args 0 ([])
theorem zlu (f:X→Int × Int) (ag:Int × Int) (e:X) (frs:List Fr) (tb:List Tb) (n:Nat) (hfo:FsOk n frs) (hl:zad e.args) (hf:∀ x∈e.args,Pure S.scope_Type [x.av,fsl frs,tsl tb] (.tup [iv (f x).1,iv (f x).2])) (hagg:zcX e=true→8≤e.kind→e.kind≤12→Pure S.scope_aggregate [e.av,fsl frs,tsl tb] (.tup [iv ag.1,iv ag.2])):zab E0 S.scope_Type [e.av,fsl frs,tsl tb] [] (.tup [iv (ptyF f ag e frs tb).1,iv (ptyF f ag e frs tb).2]) []:=by
 unfold ptyF
 cases h1:!zcX e
 ·cases h2:e.kind==1
  ·let p_1:List St:=[sc (za0 e),sb h1,sb h2]
   cases h3:e.kind==2
   ·cases h4:e.kind==8
    ·cases h5:e.kind==9
     ·cases h6:e.kind==10
      ·cases h7:e.kind==11
       ·cases h8:e.kind==12
        ·exact wkcN At.scope_Type (p_1++[sb h3,sb h4,sb h5,sb h6,sb h7,sb h8]) [1,2,3,11,62,63,64] 1 [(.ot 11 Ty.int,2)] kr (by have ih:=zpb f e frs tb hl hf e.args.length 0 ([]) (by simp) (by simp);exact ih)
        ·exact wk At.scope_Type (p_1++[sb h3,sb h4,sb h5,sb h6,sb h7,sb h8,sc (hagg zb7 zb7 zb7)]) kr
       ·exact wk At.scope_Type (p_1++[sb h3,sb h4,sb h5,sb h6,sb h7,sc (hagg zb7 zb7 zb7)]) kr
      ·exact wk At.scope_Type (p_1++[sb h3,sb h4,sb h5,sb h6,sc (hagg zb7 zb7 zb7)]) kr
     ·exact wk At.scope_Type (p_1++[sb h3,sb h4,sb h5,sc (hagg zb7 zb7 zb7)]) kr
    ·exact wk At.scope_Type (p_1++[sb h3,sb h4,sc (hagg zb7 zb7 zb7)]) kr
   ·let p_2:List St:=p_1++[sb h3,sc (zc7 frs e.table e.name zb7 zb7 zb7)]
    cases h9:!(zbq frs e.table e.name).snd.snd
    ·exact wk At.scope_Type (p_2++[sb h9,se (zlq frs e.table e.name zb7),se (ztM frs e.table e.name zb7)]) kr
    ·exact wk At.scope_Type (p_2++[sb h9]) kr
  ·exact wk At.scope_Type [sc (za0 e),sb h1,sb h2] kr
 ·exact wk At.scope_Type [sc (za0 e),sb h1] kr
def zi3 (f:X→Int × Int):List X→Int
 | []=>zrF
 | x::_=>znP f x
def zcP:Nat→X→List Fr→List Tb→Int × Int
 | 0,_,_,_=>(0,0)
 | n+1,e,frs,tb=>ptyF (fun x=>zcP n x frs tb) (match e.sub with
  | []=>(0,0)
  | q::_=>ptqF (fun x=>zcP n x (rIns frs tb q) tb) (zi3 (fun x=>zcP n x (rIns frs tb q) tb) q.wh) e q frs tb) e frs tb
theorem zfL {f:X→Int × Int} {wh:List X} {frs:List Fr} {tb:List Tb} (hf:∀ x∈wh,Pure S.scope_Type [x.av,fsl frs,tsl tb] (.tup [iv (f x).1,iv (f x).2])):Pure S.scope_Condition [xsl wh,fsl frs,tsl tb] (iv (zi3 f wh)):=by
 cases wh with
 | nil=>exact zhA frs tb
 | cons x r=>exact zhS f x r frs tb (by first|(simp;done)|(simp;omega)) (hf x (by simp))
theorem zdQ:∀ (n:Nat) (e:X) (frs:List Fr) (tb:List Tb),XOk n e→FsOk n frs→TbOk tb→Pure S.scope_Type [e.av,fsl frs,tsl tb] (.tup [iv (zcP n e frs tb).1,iv (zcP n e frs tb).2])
 | 0,e,frs,tb,h,_,_=>h.elim
 | n+1,e,frs,tb,h,hf,ht=>by
  obtain ⟨_,ha,hx,hs⟩:=h
  unfold zcP
  refine zlu (fun x=>zcP n x frs tb) _ e frs tb (n+1) hf (Thin.short ha.1) (fun x hx'=>zdQ n x frs tb (hx x hx') hf.less ht) fun hfm h8 h12=>?_
  obtain ⟨q,hq⟩:=zkU hfm h8 h12
  obtain ⟨h1,h2,h3⟩:=hs q (by simp [hq])
  have h:=zjR (fun x=>zcP n x (rIns frs tb q) tb) (zi3 (fun x=>zcP n x (rIns frs tb q) tb) q.wh) e q frs tb (n+1) (by simp [hq]) hf ht (Thin.short h1.1) (fun x hx'=>zdQ n x _ tb (h2 x hx') (hf.ins ht q) ht) (zfL fun x hx'=>zdQ n x _ tb (h3 x hx') (hf.ins ht q) ht)
  rw [hq];exact h
end Go.AM
namespace Go.AM
set_option maxRecDepth 100000
set_option maxHeartbeats 1000000
set_option linter.unusedSimpArgs false
set_option linter.unusedVariables false
theorem zqM {p:Prop} (h:p:=by first|assumption|exact hfo.short|exact hto.len|exact hto.cols):p:=h
def zjL (a b:Int):Bool :=
 bif b==0 then
  true
 else
  b==a
theorem zcv (a b:Int) :zab E0 S.scope_Assignable [iv a,iv b] [] (bv (zjL a b)) []:=by
 unfold zjL
 cases h1:b==0
 ·exact wk At.scope_Assignable [sg h1] kr
 ·exact wk At.scope_Assignable [sb h1] kr
noncomputable def L_ptsS (cond:Int) (q:Qy) (s:Sch) (ins:List Fr) (tb:List Tb) (i:Nat) (l:List Int):Cfg:=zap B.scope_Types 0 [(2,tsl tb),(3,.p 0 0),(10,fsl ins),(11,.own 2 l.length),(34,.sl (s.cols.map Col.cells)),(35,iv ((s.cols.map Col.cells).length:Nat)),(36,iv (i:Nat))] [.box q.cells,.box s.cells,.row Ty.int (l.map fun n=>[iv n]) false]
def ptsS (cond:Int) (q:Qy) (s:Sch) (ins:List Fr) (tb:List Tb):List (Col)→Nat→(List Int)→(List Int) × Int
 | [],i,l =>
  bif cond != 0 then
   ([],cond)
  else
   (l,0)
 | x::r,i,l =>
  ptsS cond q s ins tb r (i+1) (l++[x.type])
theorem zoP (cond:Int) (q:Qy) (s:Sch) (ins:List Fr) (tb:List Tb) (hs:zad s.cols) (hc:Pure S.scope_Condition [xsl q.wh,fsl ins,tsl tb] (iv cond)):∀ (kk i:Nat) (l:List Int),i+kk=(s.cols).length→(l.length≤i)→Good E0 B.scope_Types [] (L_ptsS cond q s ins tb i l) (Shut 0 fun r h=>r=(.tup [isl (ptsS cond q s ins tb ((s.cols).drop i) i l).1,iv (ptsS cond q s ins tb ((s.cols).drop i) i l).2])∧h=[]):=by
 intro kk
 induction kk with
 | zero =>
  intro i l hi ho
  have h0:decide (((i:Nat):Int) < (((s.cols.map Col.cells).length:Nat):Int))=false:=by simp;omega
  have e0:(s.cols).drop i=[]:=List.drop_of_length_le (by omega)
  rw [e0]
  simp only [ptsS]
  refine zaa ?_
  cases h1:cond != 0
  ·exact wkr [sqx (l.length=(List.map (fun n=>[iv n]) l).length∧True∧True),sb h0,sc hc,sb h1] kr
  ·exact wkr [sb h0,sc hc,sb h1] kr
 | succ kk ih =>
  intro i l hi ho
  obtain ⟨x,hx⟩:=zaw (l:=s.cols) (i:=i) (by omega)
  have h0:decide (((i:Nat):Int) < (((s.cols.map Col.cells).length:Nat):Int))=true:=by simp;omega
  have hw:=zal i (by first|omega|(simp only [zad,Few] at *;omega))
  rw [zaH hx]
  simp only [ptsS]
  refine zaa ?_
  exact wkl [sb h0,se (zaf Col.cells hx rfl),sqx (AllLen [[iv x.type]] 1∧l.length=(List.map (fun n=>[iv n]) l).length∧(((List.map (fun n=>[iv n]) l).length+[[iv x.type]].length) * 8).le 140737488355328),si hw] [2,3,10,11,34,35,36] 3 kr (zay (show ([(2,AV.sl (List.map Tb.cells tb)),(3,AV.p 0 0),(10,AV.sl (List.map Fr.cells ins)),(11,AV.own 2 (List.map (fun n=>[iv n]) l++[[iv x.type]]).length),(34,AV.sl (List.map Col.cells s.cols)),(35,iv (↑(List.map Col.cells s.cols).length:Int)),(36,iv (↑(i+1):Int))]:TS)=_ by first|rfl|(simp;done)|(simp [X.cells,Qy.cells,V.cells,Col.cells,Rw.cells,Tb.cells,Fr.cells,Sch.cells,Tp.cells,Pl.cells,xCol,xLit,xBin,xNeg,Ac.cells,Se.cells];done)) (show ([Blk.box [bv q.star,AV.sl (zac q.items),sv q.frm,AV.sl (zac q.wh)],Blk.box [sv s.name,AV.sl (List.map Col.cells s.cols)],Blk.row Ty.int (List.map (fun n=>[iv n]) l++[[iv x.type]]) false]:Heap)=_ by first|rfl|(simp;done)|(simp [X.cells,Qy.cells,V.cells,Col.cells,Rw.cells,Tb.cells,Fr.cells,Sch.cells,Tp.cells,Pl.cells,xCol,xLit,xBin,xNeg,Ac.cells,Se.cells];done)) (ih (i+1) (l++[x.type]) (by omega) (by first|assumption|(simp;done)|(simp;omega)|omega|(simp at *;omega))))
noncomputable def L_ptsI (f:X→Int × Int) (cond:Int) (q:Qy) (s:Sch) (ins:List Fr) (tb:List Tb) (i:Nat) (l:List Int):Cfg:=zap B.scope_Types 1 [(2,tsl tb),(3,.p 0 0),(10,fsl ins),(11,.own 2 l.length),(47,xsl q.items),(48,iv ((zac q.items).length:Nat)),(49,iv (i:Nat))] [.box q.cells,.box s.cells,.row Ty.int (l.map fun n=>[iv n]) false]
def ptsI (f:X→Int × Int) (cond:Int) (q:Qy) (s:Sch) (ins:List Fr) (tb:List Tb):List (X)→Nat→(List Int)→(List Int) × Int
 | [],i,l =>
  bif cond != 0 then
   ([],cond)
  else
   (l,0)
 | x::r,i,l =>
  bif (f x).snd != 0 then
   ([],(f x).snd)
  else
   ptsI f cond q s ins tb r (i+1) (l++[(f x).fst])
theorem zpA (f:X→Int × Int) (cond:Int) (q:Qy) (s:Sch) (ins:List Fr) (tb:List Tb) (hl:zad q.items) (hf:∀ x∈q.items,Pure S.scope_Type [x.av,fsl ins,tsl tb] (.tup [iv (f x).1,iv (f x).2])) (hc:Pure S.scope_Condition [xsl q.wh,fsl ins,tsl tb] (iv cond)):∀ (kk i:Nat) (l:List Int),i+kk=(q.items).length→(l.length≤i)→Good E0 B.scope_Types [] (L_ptsI f cond q s ins tb i l) (Shut 0 fun r h=>r=(.tup [isl (ptsI f cond q s ins tb ((q.items).drop i) i l).1,iv (ptsI f cond q s ins tb ((q.items).drop i) i l).2])∧h=[]):=by
 intro kk
 induction kk with
 | zero =>
  intro i l hi ho
  have h0:decide (((i:Nat):Int) < (((zac q.items).length:Nat):Int))=false:=by simp;omega
  have e0:(q.items).drop i=[]:=List.drop_of_length_le (by omega)
  rw [e0]
  simp only [ptsI]
  refine zaa ?_
  cases h1:cond != 0
  ·exact wkr [sqx (l.length=(List.map (fun n=>[iv n]) l).length∧True∧True),sb h0,sc hc,sb h1] kr
  ·exact wkr [sb h0,sc hc,sb h1] kr
 | succ kk ih =>
  intro i l hi ho
  obtain ⟨x,hx⟩:=zaw (l:=q.items) (i:=i) (by omega)
  have h0:decide (((i:Nat):Int) < (((zac q.items).length:Nat):Int))=true:=by simp;omega
  have hw:=zal i (by first|omega|(simp only [zad,Few] at *;omega))
  have hfx:=hf x (List.mem_of_getElem? hx)
  rw [zaH hx]
  simp only [ptsI]
  refine zaa ?_
  cases h1:(f x).snd != 0
  ·exact wkl [sb h0,se (zbl hx),sc hfx,sb h1,sqx (AllLen [[iv (f x).fst]] 1∧l.length=(List.map (fun n=>[iv n]) l).length∧(((List.map (fun n=>[iv n]) l).length+[[iv (f x).fst]].length) * 8).le 140737488355328),si hw] [2,3,10,11,47,48,49] 3 kr (zay (show ([(2,AV.sl (List.map Tb.cells tb)),(3,AV.p 0 0),(10,AV.sl (List.map Fr.cells ins)),(11,AV.own 2 (List.map (fun n=>[iv n]) l++[[iv (f x).fst]]).length),(47,AV.sl (zac q.items)),(48,iv (↑(zac q.items).length:Int)),(49,iv (↑(i+1):Int))]:TS)=_ by first|rfl|(simp;done)|(simp [X.cells,Qy.cells,V.cells,Col.cells,Rw.cells,Tb.cells,Fr.cells,Sch.cells,Tp.cells,Pl.cells,xCol,xLit,xBin,xNeg,Ac.cells,Se.cells];done)) (show ([Blk.box [bv q.star,AV.sl (zac q.items),sv q.frm,AV.sl (zac q.wh)],Blk.box [sv s.name,AV.sl (List.map Col.cells s.cols)],Blk.row Ty.int (List.map (fun n=>[iv n]) l++[[iv (f x).fst]]) false]:Heap)=_ by first|rfl|(simp;done)|(simp [X.cells,Qy.cells,V.cells,Col.cells,Rw.cells,Tb.cells,Fr.cells,Sch.cells,Tp.cells,Pl.cells,xCol,xLit,xBin,xNeg,Ac.cells,Se.cells];done)) (ih (i+1) (l++[(f x).fst]) (by omega) (by first|assumption|(simp;done)|(simp;omega)|omega|(simp at *;omega))))
  ·exact wkr [sb h0,se (zbl hx),sc hfx,sb h1] kr
def pTys (f:X→Int × Int) (cond:Int) (q:Qy) (frs:List Fr) (tb:List Tb):(List Int) × Int :=
 bif !(zat tb q.frm).snd then
  ([],3)
 else
  bif q.star then
   ptsS cond q (zat tb q.frm).1 (zaF frs (zat tb q.frm).1 []) tb (zat tb q.frm).1.cols 0 ([])
  else
   ptsI f cond q (zat tb q.frm).1 (zaF frs (zat tb q.frm).1 []) tb q.items 0 ([])
theorem zmJ (f:X→Int × Int) (cond:Int) (q:Qy) (frs:List Fr) (tb:List Tb) (n:Nat) (hfo:FsOk n frs) (hto:TbOk tb) (hl:zad q.items) (hs:zad (zat tb q.frm).1.cols) (hf:∀ x∈q.items,Pure S.scope_Type [x.av,fsl (zaF frs (zat tb q.frm).1 []),tsl tb] (.tup [iv (f x).1,iv (f x).2])) (hc:Pure S.scope_Condition [xsl q.wh,fsl (zaF frs (zat tb q.frm).1 []),tsl tb] (iv cond)):zab E0 S.scope_Types [q.av,fsl frs,tsl tb] [] (.tup [isl (pTys f cond q frs tb).1,iv (pTys f cond q frs tb).2]) []:=by
 unfold pTys
 let p_1:List St:=[sc (zev tb q.frm zqM zqM)]
 cases h1:!(zat tb q.frm).snd
 ·let p_2:List St:=p_1++[sb h1,sc (zhb frs ((zat tb q.frm).fst) zqM)]
  cases h2:q.star
  ·exact wkcN At.scope_Types (p_2++[sb h2]) [2,3,10,11,47,48,49] 2 [(.ot 11 Ty.int,3)] kr (by have ih:=zpA f cond q (zat tb q.frm).1 (zaF frs (zat tb q.frm).1 []) tb hl hf hc q.items.length 0 ([]) (by simp) (by simp);exact ih)
  ·exact wkcN At.scope_Types (p_2++[sb h2]) [2,3,10,11,34,35,36] 2 [(.ot 11 Ty.int,3)] kr (by have ih:=zoP cond q (zat tb q.frm).1 (zaF frs (zat tb q.frm).1 []) tb hs hc (zat tb q.frm).1.cols.length 0 ([]) (by simp) (by simp);exact ih)
 ·exact wk At.scope_Types (p_1++[sb h1]) kr
def zeJ (c:Col) (e:X) (frs:List Fr) (tb:List Tb) (ty:Int × Int):Int :=
 bif ty.snd==0 then
  bif !zjL c.type ty.fst then
   5
  else
   ty.snd
 else
  ty.snd
theorem zdg (c:Col) (e:X) (frs:List Fr) (tb:List Tb) (ty:Int × Int) (h:Pure S.scope_Type [e.av,fsl frs,tsl tb] (.tup [iv ty.1,iv ty.2])):zab E0 S.dml_assign [.agg c.cells,e.av,fsl frs,tsl tb] [] (iv (zeJ c e frs tb ty)) []:=by
 unfold zeJ
 cases h1:ty.snd==0
 ·exact wk At.dml_assign [sc h,sb h1] kr
 ·let p_1:List St:=[sc h,sg h1,sc (zcv c.type ty.fst)]
  cases h2:!zjL c.type ty.fst
  ·exact wk At.dml_assign (p_1++[sb h2]) kr
  ·exact wk At.dml_assign (p_1++[sb h2]) kr
theorem znv (fr:List Fr) (s:Sch) (v:List V) (h2:zad fr):∃ (r:List Fr),r=zaF fr s v∧zab E0 S.dml_inside [fsl fr,s.av,vsl v] [] (fsl r) []:=by
 exact ⟨fr++[Fr.mk s.name false s.cols v],(by rfl),(by (try simp only [X.av,Qy.av,V.av,Tb.av,Sch.av,Pl.av,xsl,fsl,vsl,tsl,List.map_append,List.map_cons,List.map_nil,V.cells,Col.cells,Rw.cells,Tb.cells,Fr.cells,Sch.cells,Pl.cells,zbj,za1,za9,za6,zbf,X.cells,Qy.cells,X.args_mk,X.sub_mk,Qy.items_mk,Qy.wh_mk,xCol,xLit,xBin,xNeg,Ac.cells,Se.cells]);exact wk At.dml_inside [sqx ((List.map Fr.cells fr++[[sv s.name,bv false,AV.sl (List.map Col.cells s.cols),AV.sl (List.map V.cells v)]]).length=(List.map Fr.cells fr++[[sv s.name,bv false,AV.sl (List.map Col.cells s.cols),AV.sl (List.map V.cells v)]]).length),sd [(1,[sc (zcQ fr (by first|assumption|omega|(simp;done)|(simp;omega)))]),(9,[sqx (AllLen [[sv s.name,bv false,AV.sl (List.map Col.cells s.cols),AV.sl (List.map V.cells v)]] 4∧fr.length=(List.map Fr.cells fr).length∧(((List.map Fr.cells fr).length+[[sv s.name,bv false,AV.sl (List.map Col.cells s.cols),AV.sl (List.map V.cells v)]].length) * 72).le 140737488355328)])]] kr)⟩
theorem zd0 (fr:List Fr) (s:Sch) (v:List V) (h2:zad fr):zab E0 S.dml_inside [fsl fr,s.av,vsl v] [] (fsl (zaF fr s v)) []:=by
 obtain ⟨r,rfl,h⟩:=znv fr s v h2
 exact h
end Go.AM
namespace Go.AM
set_option maxRecDepth 100000
set_option maxHeartbeats 1000000
set_option linter.unusedSimpArgs false
set_option linter.unusedVariables false
theorem zoy {p:Prop} (h:p:=by first|(have h1:=zkz ‹List.all (List.take _ a.rows) _=true›;have h2:=zkz ‹List.all (List.take _ a.query) _=true›;simp only [zjq,h1,h2];simp;done)|(have h1:=And.right ‹_≠(0:Int)∧List.all a.rows _=false›;have h2:=And.left ‹_≠(0:Int)∧List.all a.rows _=false›;simp only [zjq,h1];simp [h2];done)|(have h1:=And.right ‹_≠(0:Int)∧List.all a.query _=false›;have h2:=And.left ‹_≠(0:Int)∧List.all a.query _=false›;simp only [zjq,h1];simp [h2];done)):p:=h
theorem zeU {p:Prop} (h:p:=by first|assumption|omega|(simp only [bne_eq_false_iff_eq,zdI,List.length_map] at *;omega)|(simp;done)):p:=h
theorem zdt {p:Prop} (h:p:=by first|assumption|omega|(simp;done)|(simp;omega)):p:=h
theorem zoi {p:Prop} (h:p:=by first|exact ⟨by simpa using ‹((qt _).2 != 0)=true›,zbG hx (qTy_e (by assumption))⟩|exact ⟨by omega,zbG hx (zuc (by assumption))⟩|exact ⟨(And.left ‹_≠(0:Int)∧_›),zbG hx (qTy_no (And.right ‹_≠(0:Int)∧_›))⟩):p:=h
theorem zkV {p:Prop} (h:p:=by first|omega|(simp only [zad,Few] at *;omega)):p:=h
abbrev PTy (ty:X→Int × Int) (x:X) (frs:List Fr) (tb:List Tb):Prop:=Pure S.scope_Type [x.av,fsl frs,tsl tb] (.tup [iv (ty x).1,iv (ty x).2])
def exOk (ty:X→Int × Int) (frs:List Fr) (tb:List Tb) (p:Col × X):Bool:=!(zeJ p.1 p.2 frs tb (ty p.2) != 0)
def zeI (ty:X→Int × Int) (frs:List Fr) (tb:List Tb) (s:Sch) (r:List X):Bool:=decide (r.length=s.cols.length)&&(s.cols.zip r).all (exOk ty frs tb)
theorem zsx {s:Sch} {y:List X} {i:Nat} {c:Col} {x:X} (h1:s.cols[i]?=some c) (h2:y[i]?=some x):(s.cols.zip y)[i]?=some (c,x):=by
 rw [List.getElem?_zip_eq_some];exact ⟨h1,h2⟩
theorem zmc {ty:X→Int × Int} {frs:List Fr} {tb:List Tb} {s:Sch} {r:List X} (h:(((zac r).length:Int) != ((s.cols.map Col.cells).length:Int))=true):zeI ty frs tb s r=false:=by
 simp at h;simp [zeI];omega
theorem zoE {ty:X→Int × Int} {frs:List Fr} {tb:List Tb} {s:Sch} {r:List X} (h:(s.cols.zip r).all (exOk ty frs tb)=false):zeI ty frs tb s r=false:=by
 simp only [zeI,h,Bool.and_false]
theorem zs5 {ty:X→Int × Int} {frs:List Fr} {tb:List Tb} {s:Sch} {r:List X} (h1:(((zac r).length:Int) != ((s.cols.map Col.cells).length:Int))=false) (h:((s.cols.zip r).take r.length).all (exOk ty frs tb)=true):zeI ty frs tb s r=true:=by
 have h2:r.length=s.cols.length:=by simp at h1;omega
 rw [List.take_of_length_le (by simp;omega)] at h
 simp only [zeI,h,h2,decide_true,Bool.and_self]
noncomputable def zrA (a:Ac) (s:Sch) (frs:List Fr) (tb:List Tb) (ty:X→Int × Int) (io:Nat) (y:List X) (i:Nat) :Cfg:=zap B.dml_checkInsert 1 [(2,fsl frs),(3,tsl tb),(4,.p 0 0),(5,.p 1 0),(21,.sl (a.rows.map zaN)),(22,iv ((a.rows.map zaN).length:Nat)),(23,iv (io:Nat)),(33,xsl y),(34,iv ((zac y).length:Nat)),(35,iv (i:Nat))] [.box a.cells,.box s.cells]
theorem zeW (a:Ac) (s:Sch) (frs:List Fr) (tb:List Tb) (ty:X→Int × Int) (io:Nat) (y:List X) (hy:zad y) (hty:∀ x∈y,PTy ty x frs tb) (hlen:y.length=s.cols.length) (i:Nat)  (hi:i≤(y).length) (hI:((s.cols.zip y).take i).all (exOk ty frs tb)=true):((((s.cols.zip y).take (y).length).all (exOk ty frs tb)=true)∧(decide ((((y).length:Nat):Int) < (((zac y).length:Nat):Int))=false)∧∀ R,Good E0 B.dml_checkInsert [] (zrA a s frs tb ty io y (y).length ) R→Good E0 B.dml_checkInsert [] (zrA a s frs tb ty io y i ) R)∨(∃ (r:Int),(r≠0∧(s.cols.zip y).all (exOk ty frs tb)=false)∧Good E0 B.dml_checkInsert [] (zrA a s frs tb ty io y i ) (Shut 0 fun rZ hZ=>rZ=(iv r)∧hZ=[])):=by
 obtain ⟨kk,hk⟩:∃ kk,i+kk=(y).length:=⟨(y).length - i,by omega⟩
 induction kk generalizing i  with
 | zero =>
  have e0:i=(y).length:=by omega
  subst e0
  exact .inl ⟨hI,by simp,fun R hg=>hg⟩
 | succ kk ih =>
  obtain ⟨x,hx⟩:=zaw (l:=y) (i:=i) (by omega)
  have h0:decide (((i:Nat):Int) < (((zac y).length:Nat):Int))=true:=by simp;omega
  have hw:IntKind.i64.wrap (((i:Nat):Int)+1)=((i+1:Nat):Int):=zal i zkV
  have hx1:=hty x (List.mem_of_getElem? hx)
  obtain ⟨x1,e1⟩:=zaw (l:=s.cols) (i:=i) zdt
  let p_1:List St:=[sb h0,se (zbl hx),sd [(3,[se (zaf Col.cells e1 rfl)]),(8,[sc (zdg x1 x frs tb (ty x) hx1)])]]
  cases h2:zeJ x1 x frs tb (ty x) != 0
  ·exact (ih (i+1) (by omega) (by exact zco hI (zsx ‹s.cols[_]?=some _› hx) (by simp only [exOk, *];rfl)) (by omega)).elim (fun ⟨qZ,xZ,gZ⟩=>.inl ⟨qZ,xZ,fun R hg=>zaa (wkl (p_1++[sb h2,si hw]) [2,3,4,5,21,22,23,33,34,35] 2 kr (gZ R hg))⟩) (fun ⟨rY,pZ,gZ⟩=>.inr ⟨rY,pZ,zaa (wkl [sb h0,se (zbl hx),sd [(3,[se (zaf Col.cells e1 rfl)]),(8,[sc (zdg x1 x frs tb (ty x) hx1)])],sb h2,si hw] [2,3,4,5,21,22,23,33,34,35] 2 kr gZ)⟩)
  ·exact .inr ⟨zeJ x1 x frs tb (ty x),(by exact ⟨by simpa using ‹(zeJ _ _ _ _ _ != 0)=true›,zbG (zsx ‹s.cols[_]?=some _› hx) (by simp only [exOk, *];rfl)⟩),zaa (wkr (p_1++[sb h2]) kr)⟩
noncomputable def zqj (a:Ac) (s:Sch) (frs:List Fr) (tb:List Tb) (ty:X→Int × Int) (i:Nat) :Cfg:=zap B.dml_checkInsert 0 [(2,fsl frs),(3,tsl tb),(4,.p 0 0),(5,.p 1 0),(21,.sl (a.rows.map zaN)),(22,iv ((a.rows.map zaN).length:Nat)),(23,iv (i:Nat))] [.box a.cells,.box s.cells]
theorem ze6 (a:Ac) (s:Sch) (frs:List Fr) (tb:List Tb) (ty:X→Int × Int) (hs:zad s.cols) (hr:zad a.rows) (hty:∀ r∈a.rows,zad r∧∀ x∈r,PTy ty x frs tb) (i:Nat)  (hi:i≤(a.rows).length) (hI:(a.rows.take i).all (zeI ty frs tb s)=true):(((a.rows.take (a.rows).length).all (zeI ty frs tb s)=true)∧(decide ((((a.rows).length:Nat):Int) < (((a.rows.map zaN).length:Nat):Int))=false)∧∀ R,Good E0 B.dml_checkInsert [] (zqj a s frs tb ty (a.rows).length ) R→Good E0 B.dml_checkInsert [] (zqj a s frs tb ty i ) R)∨(∃ (r:Int),(r≠0∧a.rows.all (zeI ty frs tb s)=false)∧Good E0 B.dml_checkInsert [] (zqj a s frs tb ty i ) (Shut 0 fun rZ hZ=>rZ=(iv r)∧hZ=[])):=by
 obtain ⟨kk,hk⟩:∃ kk,i+kk=(a.rows).length:=⟨(a.rows).length - i,by omega⟩
 induction kk generalizing i  with
 | zero =>
  have e0:i=(a.rows).length:=by omega
  subst e0
  exact .inl ⟨hI,by simp,fun R hg=>hg⟩
 | succ kk ih =>
  obtain ⟨x,hx⟩:=zaw (l:=a.rows) (i:=i) (by omega)
  have h0:decide (((i:Nat):Int) < (((a.rows.map zaN).length:Nat):Int))=true:=by simp;omega
  have hw:IntKind.i64.wrap (((i:Nat):Int)+1)=((i+1:Nat):Int):=zal i zkV
  have hx1:=(hty x (List.mem_of_getElem? hx)).1;have hx2:=(hty x (List.mem_of_getElem? hx)).2
  cases h1:(↑(zac x).length:Int) != (↑(List.map Col.cells s.cols).length:Int)
  ·rcases zeW a s frs tb ty i x zeU hx2 zeU 0 zeU zeU with ⟨q2,q2_1,g2⟩|⟨r2_0,p2_0,g2⟩
   ·exact (ih (i+1) (by omega) (by exact zco hI hx (zs5 (by assumption) (by assumption))) (by omega)).elim (fun ⟨qZ,xZ,gZ⟩=>.inl ⟨qZ,xZ,fun R hg=>zaa (wkl [sb h0,se (zaf zaN hx rfl),sb h1] [2,3,4,5,21,22,23,33,34,35] 2 kr (g2 _ (zaa (wkl [sb q2_1,si hw] [2,3,4,5,21,22,23] 2 kr (gZ R hg)))))⟩) (fun ⟨rY,pZ,gZ⟩=>.inr ⟨rY,pZ,zaa (wkl [sb h0,se (zaf zaN hx rfl),sb h1] [2,3,4,5,21,22,23,33,34,35] 2 kr (g2 _ (zaa (wkl [sb q2_1,si hw] [2,3,4,5,21,22,23] 2 kr gZ))))⟩)
   ·exact .inr ⟨r2_0,(by first|exact ⟨by omega,zbG hx (zmc (by assumption))⟩|exact ⟨(And.left ‹_≠(0:Int)∧_›),zbG hx (zoE (And.right ‹_≠(0:Int)∧_›))⟩),zaa (wkl [sb h0,se (zaf zaN hx rfl),sb h1] [2,3,4,5,21,22,23,33,34,35] 2 kr g2)⟩
  ·exact .inr ⟨5,(by first|exact ⟨by omega,zbG hx (zmc (by assumption))⟩|exact ⟨(And.left ‹_≠(0:Int)∧_›),zbG hx (zoE (And.right ‹_≠(0:Int)∧_›))⟩),zaa (wkr [sb h0,se (zaf zaN hx rfl),sb h1] kr)⟩
abbrev PTs (qt:Qy→List Int × Int) (q:Qy) (frs:List Fr) (tb:List Tb):Prop:=Pure S.scope_Types [q.av,fsl frs,tsl tb] (.tup [isl (qt q).1,iv (qt q).2])
def asOk (p:Col × Int):Bool:=zjL p.1.type p.2
def qTy (qt:Qy→List Int × Int) (s:Sch) (q:Qy):Bool:=!((qt q).2 != 0)&&(decide ((qt q).1.length=s.cols.length)&&(s.cols.zip (qt q).1).all asOk)
theorem zpI {s:Sch} {y:List Int} {i:Nat} {c:Col} {x:Int} (h1:s.cols[i]?=some c) (h2:y[i]?=some x):(s.cols.zip y)[i]?=some (c,x):=by
 rw [List.getElem?_zip_eq_some];exact ⟨h1,h2⟩
theorem qTy_e {qt:Qy→List Int × Int} {s:Sch} {q:Qy} (h:((qt q).2 != 0)=true):qTy qt s q=false:=by simp only [qTy,h];rfl
theorem zuc {qt:Qy→List Int × Int} {s:Sch} {q:Qy} (h:(((((qt q).1.map fun n=>[iv n]):List (List AV)).length:Int) != ((s.cols.map Col.cells).length:Int))=true):qTy qt s q=false:=by
 simp at h;simp [qTy];omega
theorem qTy_no {qt:Qy→List Int × Int} {s:Sch} {q:Qy} (h:(s.cols.zip (qt q).1).all asOk=false):qTy qt s q=false:=by
 simp only [qTy,h,Bool.and_false]
theorem qTy_ok {qt:Qy→List Int × Int} {s:Sch} {q:Qy} (h0:((qt q).2 != 0)=false) (h1:(((((qt q).1.map fun n=>[iv n]):List (List AV)).length:Int) != ((s.cols.map Col.cells).length:Int))=false) (h:((s.cols.zip (qt q).1).take (qt q).1.length).all asOk=true):qTy qt s q=true:=by
 have h2:(qt q).1.length=s.cols.length:=by simp at h1;omega
 rw [List.take_of_length_le (by simp;omega)] at h
 simp only [qTy,h,h0,h2,decide_true,Bool.and_self];rfl
noncomputable def zrm (a:Ac) (s:Sch) (frs:List Fr) (tb:List Tb) (io:Nat) (y:List Int) (i:Nat) :Cfg:=zap B.dml_checkInsert 3 [(2,fsl frs),(3,tsl tb),(5,.p 1 0),(55,.sl (zag a.query)),(56,iv ((zag a.query).length:Nat)),(57,iv (io:Nat)),(79,isl y),(80,iv ((y.map fun n=>[iv n]).length:Nat)),(81,iv (i:Nat))] [.box a.cells,.box s.cells]
theorem zeS (a:Ac) (s:Sch) (frs:List Fr) (tb:List Tb) (io:Nat) (y:List Int) (hy:zad y) (hlen:y.length=s.cols.length) (i:Nat)  (hi:i≤(y).length) (hI:((s.cols.zip y).take i).all asOk=true):((((s.cols.zip y).take (y).length).all asOk=true)∧(decide ((((y).length:Nat):Int) < (((y.map fun n=>[iv n]).length:Nat):Int))=false)∧∀ R,Good E0 B.dml_checkInsert [] (zrm a s frs tb io y (y).length ) R→Good E0 B.dml_checkInsert [] (zrm a s frs tb io y i ) R)∨(∃ (r:Int),(r≠0∧(s.cols.zip y).all asOk=false)∧Good E0 B.dml_checkInsert [] (zrm a s frs tb io y i ) (Shut 0 fun rZ hZ=>rZ=(iv r)∧hZ=[])):=by
 obtain ⟨kk,hk⟩:∃ kk,i+kk=(y).length:=⟨(y).length - i,by omega⟩
 induction kk generalizing i  with
 | zero =>
  have e0:i=(y).length:=by omega
  subst e0
  exact .inl ⟨hI,by simp,fun R hg=>hg⟩
 | succ kk ih =>
  obtain ⟨x,hx⟩:=zaw (l:=y) (i:=i) (by omega)
  have h0:decide (((i:Nat):Int) < (((y.map fun n=>[iv n]).length:Nat):Int))=true:=by simp;omega
  have hw:IntKind.i64.wrap (((i:Nat):Int)+1)=((i+1:Nat):Int):=zal i zkV
  obtain ⟨x1,e1⟩:=zaw (l:=s.cols) (i:=i) zdt
  cases h2:!zjL x1.type x
  ·exact (ih (i+1) (by omega) (by exact zco hI (zpI ‹s.cols[_]?=some _› hx) (by simp only [asOk, *];simp_all)) (by omega)).elim (fun ⟨qZ,xZ,gZ⟩=>.inl ⟨qZ,xZ,fun R hg=>zaa (wkl [sb h0,se (zaf (fun n=>[iv n]) hx rfl),se (zaf Col.cells e1 rfl),sc (zcv x1.type x),sb h2,si hw] [2,3,5,55,56,57,79,80,81] 2 kr (gZ R hg))⟩) (fun ⟨rY,pZ,gZ⟩=>.inr ⟨rY,pZ,zaa (wkl [sb h0,se (zaf (fun n=>[iv n]) hx rfl),se (zaf Col.cells e1 rfl),sc (zcv x1.type x),sb h2,si hw] [2,3,5,55,56,57,79,80,81] 2 kr gZ)⟩)
  ·exact .inr ⟨5,(by exact ⟨by omega,zbG (zpI ‹s.cols[_]?=some _› hx) (by simp only [asOk, *];simp_all)⟩),zaa (wkr [sb h0,se (zaf (fun n=>[iv n]) hx rfl),se (zaf Col.cells e1 rfl),sc (zcv x1.type x),sb h2] kr)⟩
noncomputable def zqi (a:Ac) (s:Sch) (frs:List Fr) (tb:List Tb) (qt:Qy→List Int × Int) (i:Nat) :Cfg:=zap B.dml_checkInsert 2 [(2,fsl frs),(3,tsl tb),(5,.p 1 0),(55,.sl (zag a.query)),(56,iv ((zag a.query).length:Nat)),(57,iv (i:Nat))] [.box a.cells,.box s.cells]
theorem zeX (a:Ac) (s:Sch) (frs:List Fr) (tb:List Tb) (qt:Qy→List Int × Int) (hs:zad s.cols) (hq:zad a.query) (hty:∀ q∈a.query,zad (qt q).1∧PTs qt q frs tb) (i:Nat)  (hi:i≤(a.query).length) (hI:(a.query.take i).all (qTy qt s)=true):(((a.query.take (a.query).length).all (qTy qt s)=true)∧(decide ((((a.query).length:Nat):Int) < (((zag a.query).length:Nat):Int))=false)∧∀ R,Good E0 B.dml_checkInsert [] (zqi a s frs tb qt (a.query).length ) R→Good E0 B.dml_checkInsert [] (zqi a s frs tb qt i ) R)∨(∃ (r:Int),(r≠0∧a.query.all (qTy qt s)=false)∧Good E0 B.dml_checkInsert [] (zqi a s frs tb qt i ) (Shut 0 fun rZ hZ=>rZ=(iv r)∧hZ=[])):=by
 obtain ⟨kk,hk⟩:∃ kk,i+kk=(a.query).length:=⟨(a.query).length - i,by omega⟩
 induction kk generalizing i  with
 | zero =>
  have e0:i=(a.query).length:=by omega
  subst e0
  exact .inl ⟨hI,by simp,fun R hg=>hg⟩
 | succ kk ih =>
  obtain ⟨x,hx⟩:=zaw (l:=a.query) (i:=i) (by omega)
  have h0:decide (((i:Nat):Int) < (((zag a.query).length:Nat):Int))=true:=by simp;omega
  have hw:IntKind.i64.wrap (((i:Nat):Int)+1)=((i+1:Nat):Int):=zal i zkV
  have hx1:=(hty x (List.mem_of_getElem? hx)).1;have hx2:=(hty x (List.mem_of_getElem? hx)).2
  cases h1:(qt x).snd != 0
  ·cases h2:(↑(List.map (fun n=>[iv n]) (qt x).fst).length:Int) != (↑(List.map Col.cells s.cols).length:Int)
   ·rcases zeS a s frs tb i ((qt x).fst) zeU zeU 0 zeU zeU with ⟨q3,q3_1,g3⟩|⟨r3_0,p3_0,g3⟩
    ·exact (ih (i+1) (by omega) (by exact zco hI hx (qTy_ok (by assumption) (by assumption) (by assumption))) (by omega)).elim (fun ⟨qZ,xZ,gZ⟩=>.inl ⟨qZ,xZ,fun R hg=>zaa (wkl [sb h0,se (zaK hx),sc hx2,sb h1,sb h2] [2,3,5,55,56,57,79,80,81] 2 kr (g3 _ (zaa (wkl [sb q3_1,si hw] [2,3,5,55,56,57] 2 kr (gZ R hg)))))⟩) (fun ⟨rY,pZ,gZ⟩=>.inr ⟨rY,pZ,zaa (wkl [sb h0,se (zaK hx),sc hx2,sb h1,sb h2] [2,3,5,55,56,57,79,80,81] 2 kr (g3 _ (zaa (wkl [sb q3_1,si hw] [2,3,5,55,56,57] 2 kr gZ))))⟩)
    ·exact .inr ⟨r3_0,zoi,zaa (wkl [sb h0,se (zaK hx),sc hx2,sb h1,sb h2] [2,3,5,55,56,57,79,80,81] 2 kr g3)⟩
   ·exact .inr ⟨5,zoi,zaa (wkr [sb h0,se (zaK hx),sc hx2,sb h1,sb h2] kr)⟩
  ·exact .inr ⟨(qt x).snd,zoi,zaa (wkr [sb h0,se (zaK hx),sc hx2,sb h1] kr)⟩
def zjq (ty:X→Int × Int) (qt:Qy→List Int × Int) (frs:List Fr) (tb:List Tb) (s:Sch) (a:Ac):Bool:=a.rows.all (zeI ty frs tb s)&&a.query.all (qTy qt s)
theorem zkz {α:Type} {f:α→Bool} {l:List α} (h:(l.take l.length).all f=true):l.all f=true:=by rwa [List.take_length] at h
theorem zjS (a:Ac) (s:Sch) (frs:List Fr) (tb:List Tb) (ty:X→Int × Int) (qt:Qy→List Int × Int) (hs:zad s.cols) (hr:zad a.rows) (hq:zad a.query) (hty:∀ r∈a.rows,zad r∧∀ x∈r,PTy ty x frs tb) (htq:∀ q∈a.query,zad (qt q).1∧PTs qt q frs tb):∃ (r:Int),(r=0↔zjq ty qt frs tb s a=true)∧zab E0 S.dml_checkInsert [a.av,s.av,fsl frs,tsl tb] [] (iv r) []:=by
 rcases ze6 a s frs tb ty zdt zdt hty 0 zdt zdt with ⟨q1,q1_1,g1⟩|⟨r1_0,p1_0,g1⟩
 ·rcases zeX a s frs tb qt zdt zdt htq 0 zdt zdt with ⟨q2,q2_1,g2⟩|⟨r2_0,p2_0,g2⟩
  ·exact ⟨0,zoy,wkc At.dml_checkInsert [] [2,3,4,5,21,22,23] 2 kr (g1 _ (zaa (wkl [sb q1_1] [2,3,5,55,56,57] 2 kr (g2 _ (zaa (wkr [sb q2_1] kr))))))⟩
  ·exact ⟨r2_0,zoy,wkc At.dml_checkInsert [] [2,3,4,5,21,22,23] 2 kr (g1 _ (zaa (wkl [sb q1_1] [2,3,5,55,56,57] 2 kr g2)))⟩
 ·exact ⟨r1_0,zoy,wkc At.dml_checkInsert [] [2,3,4,5,21,22,23] 2 kr (g1)⟩
end Go.AM
namespace Go.AM
set_option maxRecDepth 100000
set_option maxHeartbeats 1000000
set_option linter.unusedSimpArgs false
set_option linter.unusedVariables false
theorem zn3 {p:Prop} (h:p:=by first|(unfold znh;rw [show (a.kind==1)=true by assumption];exact hci)|(unfold znh;rw [show (a.kind==1)=false by assumption];first|(have h1:=zkz ‹List.all (List.take _ a.sets) _=true›;simp only [cond_false,h1];simp;done)|(have h1:=And.right ‹_≠(0:Int)∧List.all a.sets _=false›;have h2:=And.left ‹_≠(0:Int)∧List.all a.sets _=false›;simp only [cond_false,h1];simp [h2];done))):p:=h
theorem zcS {p:Prop} (h:p:=by first|assumption|omega|(simp;done)|(simp;omega)):p:=h
def tgt (a:Ac) (b:Bool) (tb:List Tb):Sch × Int :=
 bif !b then
  (Sch.mk (ByteArray.mk #[]) [],17)
 else
  bif !(zat tb a.table).snd then
   (Sch.mk (ByteArray.mk #[]) [],3)
  else
   ((zat tb a.table).fst,0)
theorem zno (a:Ac) (b:Bool) (tb:List Tb) (hk1:decide (a.kind < (1:Int))=false) (hk2:decide ((3:Int) < a.kind)=false) (h2:zad tb) (h3:∀ x∈tb,zad x.sch.cols) (hv:zab E0 S.syntax_ValidAction [a.av] [] (bv b) []):zab E0 S.dml_target [a.av,tsl tb] [] (.tup [(tgt a b tb).1.av,iv (tgt a b tb).2]) []:=by
 unfold tgt
 cases h1:!b
 ·let p_1:List St:=[sg hk1,sg hk2,sc hv,sb h1,sc (zev tb a.table zcS zcS)]
  cases h2:!(zat tb a.table).snd
  ·exact wk At.dml_target (p_1++[sb h2]) kr
  ·exact wk At.dml_target (p_1++[sb h2]) kr
 ·exact wk At.dml_target [sg hk1,sg hk2,sc hv,sb h1] kr
theorem zup {α:Type} {p:α→Bool} {l:List α} {x:α} (h:AtI l (idxF p l 0) x):l.find? p=some x:=by
 obtain ⟨h0,h1⟩:=h
 rcases zcC p l 0 with ⟨h2,_⟩|⟨j,y,h2,h3,h4⟩
 ·omega
 ·rw [h2] at h1
  have:((0+j:Nat):Int).toNat=j:=by omega
  rw [this,h3] at h1
  cases h1
  exact h4
theorem zsa {α:Type} {p:α→Bool} {l:List α} (h:decide (idxF p l 0 < 0)=true):l.find? p=none:=by
 rcases zcC p l 0 with ⟨_,h2⟩|⟨j,y,h2,h3,h4⟩
 ·exact h2
 ·simp only [decide_eq_true_eq] at h;omega
theorem znz {α:Type} {p:α→Bool} {l:List α} (h:decide (idxF p l 0 < 0)=false):0≤idxF p l 0∧idxF p l 0 < ((l.length:Nat):Int):=by
 simp only [decide_eq_false_iff_not] at h
 have:=zlK p l 0
 exact ⟨by omega,by rcases this with h|h <;> omega⟩
def colF (s:Sch) (n:Str):Option Col:=s.cols.find? fun c=>colC c n
def zgq (ty:X→Int × Int) (frs:List Fr) (tb:List Tb) (s:Sch) (x:Se):Bool:=match colF s x.col with
 | none=>false
 | some c=>exOk ty frs tb (c,x.ex)
theorem znG {ty:X→Int × Int} {frs:List Fr} {tb:List Tb} {s:Sch} {x:Se} (h:decide (idxF (fun c=>colC c x.col) s.cols 0 < 0)=true):zgq ty frs tb s x=false:=by
 unfold zgq colF;rw [zsa h]
theorem zkv {ty:X→Int × Int} {frs:List Fr} {tb:List Tb} {s:Sch} {x:Se} {c:Col} (h:AtI s.cols (idxF (fun c=>colC c x.col) s.cols 0) c):zgq ty frs tb s x=exOk ty frs tb (c,x.ex):=by
 unfold zgq colF;rw [zup h]
noncomputable def zqq (a:Ac) (s:Sch) (frs:List Fr) (tb:List Tb) (ty:X→Int × Int) (i:Nat) :Cfg:=zap B.dml_Check 0 [(2,tsl tb),(3,.p 0 0),(7,.p 1 0),(9,fsl frs),(35,.sl (a.sets.map Se.cells)),(36,iv ((a.sets.map Se.cells).length:Nat)),(37,iv (i:Nat))] [.box a.cells,.box s.cells]
theorem zg4 (a:Ac) (s:Sch) (frs:List Fr) (tb:List Tb) (ty:X→Int × Int) (hs:zad s.cols) (hr:zad a.sets) (hty:∀ x∈a.sets,PTy ty x.ex frs tb) (i:Nat)  (hi:i≤(a.sets).length) (hI:(a.sets.take i).all (zgq ty frs tb s)=true):(((a.sets.take (a.sets).length).all (zgq ty frs tb s)=true)∧(decide ((((a.sets).length:Nat):Int) < (((a.sets.map Se.cells).length:Nat):Int))=false)∧∀ R,Good E0 B.dml_Check [] (zqq a s frs tb ty (a.sets).length ) R→Good E0 B.dml_Check [] (zqq a s frs tb ty i ) R)∨(∃ (r:Int),(r≠0∧a.sets.all (zgq ty frs tb s)=false)∧Good E0 B.dml_Check [] (zqq a s frs tb ty i ) (Shut 0 fun rZ hZ=>rZ=(iv r)∧hZ=[])):=by
 obtain ⟨kk,hk⟩:∃ kk,i+kk=(a.sets).length:=⟨(a.sets).length - i,by omega⟩
 induction kk generalizing i  with
 | zero =>
  have e0:i=(a.sets).length:=by omega
  subst e0
  exact .inl ⟨hI,by simp,fun R hg=>hg⟩
 | succ kk ih =>
  obtain ⟨x,hx⟩:=zaw (l:=a.sets) (i:=i) (by omega)
  have h0:decide (((i:Nat):Int) < (((a.sets.map Se.cells).length:Nat):Int))=true:=by simp;omega
  have hw:IntKind.i64.wrap (((i:Nat):Int)+1)=((i+1:Nat):Int):=zal i (by first|omega|(simp only [zad,Few] at *;omega))
  have hx1:=hty x (List.mem_of_getElem? hx)
  cases h1:decide (idxF (fun c=>colC c x.col) s.cols 0 < 0)
  ·obtain ⟨x2,e2⟩:=ziw (l:=s.cols) (i:=idxF (fun c=>colC c x.col) s.cols (0:Nat)) (by exact znz (by assumption))
   cases h3:zeJ x2 x.ex frs tb (ty x.ex) != 0
   ·exact (ih (i+1) (by omega) (by exact zco hI hx (by rw [zkv (by assumption)];simp only [exOk, *];rfl)) (by omega)).elim (fun ⟨qZ,xZ,gZ⟩=>.inl ⟨qZ,xZ,fun R hg=>zaa (wkl [sb h0,se (zaf Se.cells hx rfl),sc (zbk s x.col zcS),sb h1,sd [(3,[se (zdb Col.cells e2 rfl)]),(9,[sc (zdg x2 x.ex frs tb (ty x.ex) hx1)])],sb h3,si hw] [2,3,7,9,35,36,37] 2 kr (gZ R hg))⟩) (fun ⟨rY,pZ,gZ⟩=>.inr ⟨rY,pZ,zaa (wkl [sb h0,se (zaf Se.cells hx rfl),sc (zbk s x.col zcS),sb h1,sd [(3,[se (zdb Col.cells e2 rfl)]),(9,[sc (zdg x2 x.ex frs tb (ty x.ex) hx1)])],sb h3,si hw] [2,3,7,9,35,36,37] 2 kr gZ)⟩)
   ·exact .inr ⟨zeJ x2 x.ex frs tb (ty x.ex),(by first|exact ⟨by omega,zbG hx (znG (by assumption))⟩|exact ⟨by simpa using ‹(zeJ _ _ _ _ _ != 0)=true›,zbG hx (by rw [zkv (by assumption)];simp only [exOk, *];rfl)⟩),zaa (wkr [sb h0,se (zaf Se.cells hx rfl),sc (zbk s x.col zcS),sb h1,sd [(3,[se (zdb Col.cells e2 rfl)]),(9,[sc (zdg x2 x.ex frs tb (ty x.ex) hx1)])],sb h3] kr)⟩
  ·exact .inr ⟨3,(by first|exact ⟨by omega,zbG hx (znG (by assumption))⟩|exact ⟨by simpa using ‹(zeJ _ _ _ _ _ != 0)=true›,zbG hx (by rw [zkv (by assumption)];simp only [exOk, *];rfl)⟩),zaa (wkr [sb h0,se (zaf Se.cells hx rfl),sc (zbk s x.col zcS),sb h1] kr)⟩
def znh (ty:List Fr→X→Int × Int) (qt:Qy→List Int × Int) (cond:List Fr→Int) (frs:List Fr) (tb:List Tb) (s:Sch) (a:Ac):Bool :=
 bif a.kind==1 then zjq (ty frs) qt frs tb s a else a.sets.all (zgq (ty (zaF frs s [])) (zaF frs s []) tb s)&&!(cond (zaF frs s []) != 0)
theorem zoT (a:Ac) (s:Sch) (ci:Int) (frs:List Fr) (tb:List Tb) (ty:List Fr→X→Int × Int) (qt:Qy→List Int × Int) (cond:List Fr→Int) (h2:zad tb) (h3:zad frs) (hs:zad s.cols) (hr:zad a.sets) (hv:zab E0 S.dml_target [a.av,tsl tb] [] (.tup [s.av,iv 0]) []) (hty:∀ x∈a.sets,PTy (ty (zaF frs s [])) x.ex (zaF frs s []) tb) (hc:Pure S.scope_Condition [xsl a.wh,fsl (zaF frs s []),tsl tb] (iv (cond (zaF frs s [])))) (hi:Pure S.dml_checkInsert [a.av,s.av,fsl frs,tsl tb] (iv ci)) (hci:ci=0↔zjq (ty frs) qt frs tb s a=true):∃ (r:Int),(r=0↔znh ty qt cond frs tb s a=true)∧zab E0 S.dml_Check [a.av,fsl frs,tsl tb] [] (iv r) []:=by
 cases h1:a.kind==1
 ·rcases zg4 a s (zaF frs s []) tb (ty (zaF frs s [])) zcS zcS hty 0 zcS zcS with ⟨q2,q2_1,g2⟩|⟨r2_0,p2_0,g2⟩
  ·exact ⟨cond (zaF frs s []),zn3,wkc At.dml_Check [sc hv,sb (rfl:false=false),sb h1,sc (zd0 frs s ([]) zcS)] [2,3,7,9,35,36,37] 2 kr (g2 _ (zaa (wkr [sb q2_1,sc hc] kr)))⟩
  ·exact ⟨r2_0,zn3,wkc At.dml_Check [sc hv,sb (rfl:false=false),sb h1,sc (zd0 frs s ([]) zcS)] [2,3,7,9,35,36,37] 2 kr (g2)⟩
 ·exact ⟨ci,zn3,wk At.dml_Check [sc hv,sb (rfl:false=false),sb h1,sc hi] kr⟩
theorem znM (a:Ac) (s:Sch) (e:Int) (frs:List Fr) (tb:List Tb) (he:(e != 0)=true) (hv:zab E0 S.dml_target [a.av,tsl tb] [] (.tup [s.av,iv e]) []):∃ (r:Int),r=e∧zab E0 S.dml_Check [a.av,fsl frs,tsl tb] [] (iv r) []:=by
 exact ⟨e,(by rfl),wk At.dml_Check [sc hv,sb he] kr⟩
end Go.AM
namespace Go.AM
set_option maxRecDepth 100000
set_option maxHeartbeats 1000000
set_option linter.unusedSimpArgs false
set_option linter.unusedVariables false
theorem ziE {p:Prop} (h:p:=by first|assumption|(simp only [decide_eq_false_iff_not,Int.not_lt,Int.not_le] at *;omega)):p:=h
structure Pr where
 id:Int
 old:List V
 nw:List V
def Pr.cells (p:Pr):List AV:=[iv p.id,vsl p.old,vsl p.nw]
@[simp] theorem Pr.cells_length (x:Pr):x.cells.length=3:=rfl
structure Ch where
 ins:List (List V)
 del:List Int
 upd:List Pr
def Ch.cells (c:Ch):List AV:=[.sl (c.ins.map vrow),isl c.del,.sl (c.upd.map Pr.cells)]
abbrev Ch.av (c:Ch):AV:=.agg c.cells
theorem zem (t:Tb) (a:Ac) :zab E0 S.dml_Candidates_c1 [.agg t.cells,.p 0 0] [.box a.cells] (bv (zan t a.table)) [.box a.cells]:=by
 exact wk At.dml_Candidates_c1 [] kr
noncomputable def znX (tb:List Tb) (a:Ac) (i:Nat):Cfg:=zap B.slices_IndexFunc_Table 0 [(0,.sl (tb.map Tb.cells)),(1,.fn S.dml_Candidates_c1 [.p 0 0]),(7,iv ((tb.map Tb.cells).length:Nat)),(8,iv (i:Nat))] [.box a.cells]
theorem zpf (tb:List Tb) (a:Ac) (hl:zad tb):∀ (k i:Nat),i+k=tb.length→Good E0 B.slices_IndexFunc_Table [.box a.cells] (znX tb a i) (Shut 1 fun r h=>r=iv (idxF (fun t=>zan t a.table) (tb.drop i) i)∧h=[.box a.cells]):=by
 intro k
 induction k with
 | zero =>
  intro i hi
  refine zaa ?_
  have h0:decide ((i:Int) < (((tb.map Tb.cells).length:Nat):Int))=false:=by simp;omega
  have e0:tb.drop i=[]:=List.drop_of_length_le (by omega)
  rw [e0]
  exact zdF E0ok mix0 3000 (y:=AV.v (Value.int IntKind.i64 (-1:Int))) (H:=[Blk.box a.cells]) [sb h0] kr (⟨rfl,rfl⟩)
 | succ k ih =>
  intro i hi
  have ih:=ih (i+1) (by omega)
  obtain ⟨x,hx⟩:=zaw (l:=tb) (i:=i) (by omega)
  have h0:decide ((i:Int) < (((tb.map Tb.cells).length:Nat):Int))=true:=by simp;omega
  have hw:=zal i (by omega)
  rw [zaH hx]
  simp only [idxF]
  refine zaa ?_
  cases h1:zan x a.table
  ·exact zdc E0ok mix0 3000 (c':=znX tb a (i+(1:Nat))) [sb h0,se (zaf Tb.cells hx rfl),sl [(0:Nat)] (zem x a),sb h1,si hw] [0,1,7,8] 1 kr kr (by simpa only [cond_true,cond_false,h1] using ih)
  ·exact zdF E0ok mix0 3000 (y:=AV.v (Value.int IntKind.i64 (i:Int))) (H:=[Blk.box a.cells]) [sb h0,se (zaf Tb.cells hx rfl),sl [(0:Nat)] (zem x a),sb h1] kr (⟨by simp only [cond_true,cond_false,h1],rfl⟩)
theorem zow (tb:List Tb) (a:Ac) (hl:zad tb):zab E0 S.slices_IndexFunc_Table [.sl (tb.map Tb.cells),.fn S.dml_Candidates_c1 [.p 0 0]] [.box a.cells] (iv (idxF (fun t=>zan t a.table) tb 0)) [.box a.cells]:=by
 exact zew E0ok mix0 At.slices_IndexFunc_Table rfl kr kr 3000 (c':=znX tb a (0:Nat)) [] [0,1,7,8] 1 kr kr (by simpa using zpf tb a hl tb.length 0 (by simp))
noncomputable def L_asgL (f:X→V × Int) (a:Ac) (s:Sch) (frs:List Fr) (tb:List Tb) (i:Nat) (out:List V):Cfg:=zap B.dml_assigned 0 [(3,fsl frs),(4,tsl tb),(6,.p 1 0),(12,.own 2 out.length),(21,.sl (a.sets.map Se.cells)),(22,iv ((a.sets.map Se.cells).length:Nat)),(23,iv (i:Nat))] [.box a.cells,.box s.cells,.row Ty.Value (out.map V.cells) false]
def asgL (f:X→V × Int) (a:Ac) (s:Sch) (frs:List Fr) (tb:List Tb):List (Se)→Nat→(List V)→(List V) × Int
 | [],i,out =>
  (out,0)
 | x::r,i,out =>
  bif decide (idxF (fun c=>colC c x.col) s.cols 0 < 0) then
   ([],3)
  else
   bif (f x.ex).snd != 0 then
    ([],(f x.ex).snd)
   else
    bif decide ((out.length:Int)≤idxF (fun c=>colC c x.col) s.cols 0) then
     ([],17)
    else
     asgL f a s frs tb r (i+1) (out.set (idxF (fun c=>colC c x.col) s.cols 0).toNat (f x.ex).fst)
theorem zo3 (f:X→V × Int) (a:Ac) (s:Sch) (frs:List Fr) (tb:List Tb) (hs:zad s.cols) (hl:zad a.sets) (hf:∀ x∈a.sets,Pure S.evaluate_Value [x.ex.av,fsl frs,tsl tb] (.tup [(f x.ex).1.av,iv (f x.ex).2])):∀ (kk i:Nat) (out:List V),i+kk=(a.sets).length→Good E0 B.dml_assigned [] (L_asgL f a s frs tb i out) (Shut 0 fun r h=>r=(.tup [vsl (asgL f a s frs tb ((a.sets).drop i) i out).1,iv (asgL f a s frs tb ((a.sets).drop i) i out).2])∧h=[]):=by
 intro kk
 induction kk with
 | zero =>
  intro i out hi
  have h0:decide (((i:Nat):Int) < (((a.sets.map Se.cells).length:Nat):Int))=false:=by simp;omega
  have e0:(a.sets).drop i=[]:=List.drop_of_length_le (by omega)
  rw [e0]
  simp only [asgL]
  refine zaa ?_
  exact wkr [sqx (out.length=(List.map V.cells out).length∧True∧True),sb h0] kr
 | succ kk ih =>
  intro i out hi
  obtain ⟨x,hx⟩:=zaw (l:=a.sets) (i:=i) (by omega)
  have h0:decide (((i:Nat):Int) < (((a.sets.map Se.cells).length:Nat):Int))=true:=by simp;omega
  have hw:=zal i (by first|omega|(simp only [zad,Few] at *;omega))
  have hfx:=hf x (List.mem_of_getElem? hx)
  rw [zaH hx]
  simp only [asgL]
  refine zaa ?_
  cases h1:decide (idxF (fun c=>colC c x.col) s.cols 0 < 0)
  ·cases h2:(f x.ex).snd != 0
   ·cases h3:decide ((out.length:Int)≤idxF (fun c=>colC c x.col) s.cols 0)
    ·obtain ⟨x4,e4⟩:=zaw (l:=out) (i:=(idxF (fun c=>colC c x.col) s.cols 0).toNat) ziE
     exact wkl [sb h0,se (zaf Se.cells hx rfl),sc (zbk s x.col ziE),sb h1,sc hfx,sb h2,sqx (out.length=(List.map V.cells out).length),sb h3,sqx (OwnAt (List.map V.cells out) out.length (idxF (fun c=>colC c x.col) s.cols 0)),sx (.el x4.cells) (And.intro (owed (p:=True∧True∧True∧True)) (zgl V.cells (n:=out.length) (by simp) e4)),si hw] [3,4,6,12,21,22,23] 3 kr (zay (show ([(3,AV.sl (List.map Fr.cells frs)),(4,AV.sl (List.map Tb.cells tb)),(6,AV.p 1 0),(12,AV.own 2 out.length),(21,AV.sl (List.map Se.cells a.sets)),(22,iv (↑(List.map Se.cells a.sets).length:Int)),(23,iv (↑(i+1):Int))]:TS)=_ by first|rfl|(simp;done)|(simp [X.cells,Qy.cells,V.cells,Col.cells,Rw.cells,Tb.cells,Fr.cells,Sch.cells,Tp.cells,Pl.cells,xCol,xLit,xBin,xNeg,Ac.cells,Se.cells,Pr.cells,Ch.cells];done)) (show ([Blk.box [iv a.kind,sv a.table,AV.sl (List.map (fun r=>[AV.sl (zac r)]) a.rows),AV.sl (zag a.query),AV.sl (List.map Se.cells a.sets),AV.sl (zac a.wh),sv a.text],Blk.box [sv s.name,AV.sl (List.map Col.cells s.cols)],Blk.row Ty.Value ((List.map V.cells out).set (idxF (fun c=>colC c x.col) s.cols 0).toNat [iv (f x.ex).fst.kind,iv (f x.ex).fst.int,sv (f x.ex).fst.text]) false]:Heap)=_ by first|rfl|(simp;done)|(simp [X.cells,Qy.cells,V.cells,Col.cells,Rw.cells,Tb.cells,Fr.cells,Sch.cells,Tp.cells,Pl.cells,xCol,xLit,xBin,xNeg,Ac.cells,Se.cells,Pr.cells,Ch.cells];done)) (ih (i+1) (out.set (idxF (fun c=>colC c x.col) s.cols 0).toNat (f x.ex).fst) (by omega) ))
    ·exact wkr [sb h0,se (zaf Se.cells hx rfl),sc (zbk s x.col ziE),sb h1,sc hfx,sb h2,sqx (out.length=(List.map V.cells out).length),sb h3] kr
   ·exact wkr [sb h0,se (zaf Se.cells hx rfl),sc (zbk s x.col ziE),sb h1,sc hfx,sb h2] kr
  ·exact wkr [sb h0,se (zaf Se.cells hx rfl),sc (zbk s x.col ziE),sb h1] kr
def asgn (f:X→V × Int) (a:Ac) (s:Sch) (row:List V) (frs:List Fr) (tb:List Tb):(List V) × Int :=
 asgL f a s frs tb a.sets 0 (row)
theorem zl3 (f:X→V × Int) (a:Ac) (s:Sch) (row:List V) (frs:List Fr) (tb:List Tb) (hr:zad row) (hs:zad s.cols) (hl:zad a.sets) (hf:∀ x∈a.sets,Pure S.evaluate_Value [x.ex.av,fsl frs,tsl tb] (.tup [(f x.ex).1.av,iv (f x.ex).2])):zab E0 S.dml_assigned [a.av,s.av,vsl row,fsl frs,tsl tb] [] (.tup [vsl (asgn f a s row frs tb).1,iv (asgn f a s row frs tb).2]) []:=by
 unfold asgn
 exact wkc At.dml_assigned [sc (zcH row (by first|assumption|omega|(simp;done)|(simp;omega)))] [3,4,6,12,21,22,23] 3 kr (by have ih:=zo3 f a s frs tb hs hl hf a.sets.length 0 row (by simp);exact ih)
end Go.AM
namespace Go.AM
set_option maxRecDepth 100000
set_option maxHeartbeats 1000000
set_option linter.unusedSimpArgs false
set_option linter.unusedVariables false
theorem zk0 {p:Prop} (h:p:=by first|assumption|(simp;done)|(simp;omega)|omega|(simp at *;omega)):p:=h
noncomputable def L_cndD (tr:Rw→Bool × Int) (a:Ac) (s:Sch) (frs:List Fr) (tb:List Tb) (t:Tb) (i:Nat) (del:List Int):Cfg:=zap B.dml_Candidates 0 [(1,fsl frs),(2,tsl tb),(3,.p 0 0),(6,.p 1 0),(8,.p 2 0),(12,.p 3 0),(55,.sl (t.rows.map Rw.cells)),(56,iv ((t.rows.map Rw.cells).length:Nat)),(57,iv (i:Nat))] [.box a.cells,.box [.nl,.nl,.nl],.box s.cells,.box [.nl,.own 4 del.length,.nl],.row Ty.int (del.map zbN) false]
def cndD (tr:Rw→Bool × Int) (a:Ac) (s:Sch) (frs:List Fr) (tb:List Tb) (t:Tb):List (Rw)→Nat→(List Int)→Ch × Int
 | [],i,del =>
  (Ch.mk [] del [],0)
 | x::r,i,del =>
  bif (tr x).snd != 0 then
   (Ch.mk [] [] [],(tr x).snd)
  else
   bif !(tr x).fst then
    cndD tr a s frs tb t r (i+1) (del)
   else
    cndD tr a s frs tb t r (i+1) (del++[x.id])
theorem zoX (tr:Rw→Bool × Int) (a:Ac) (s:Sch) (frs:List Fr) (tb:List Tb) (t:Tb) (h3:zad frs) (hk:(a.kind==3)=true) (hl:zad t.rows) (ht:∀ r∈t.rows,Pure S.evaluate_True [xsl a.wh,fsl (zaF frs s r.vals),tsl tb] (.tup [bv (tr r).1,iv (tr r).2])):∀ (kk i:Nat) (del:List Int),i+kk=(t.rows).length→(del.length≤i)→Good E0 B.dml_Candidates [] (L_cndD tr a s frs tb t i del) (Shut 0 fun r h=>r=(.tup [(cndD tr a s frs tb t ((t.rows).drop i) i del).1.av,iv (cndD tr a s frs tb t ((t.rows).drop i) i del).2])∧h=[]):=by
 intro kk
 induction kk with
 | zero =>
  intro i del hi ho
  have h0:decide (((i:Nat):Int) < (((t.rows.map Rw.cells).length:Nat):Int))=false:=by simp;omega
  have e0:(t.rows).drop i=[]:=List.drop_of_length_le (by omega)
  rw [e0]
  simp only [cndD]
  refine zaa ?_
  exact wkr [sqx ((True∧del.length=(List.map zbN del).length∧True∧True)∧True∧True),sb h0] kr
 | succ kk ih =>
  intro i del hi ho
  obtain ⟨x,hx⟩:=zaw (l:=t.rows) (i:=i) (by omega)
  have h0:decide (((i:Nat):Int) < (((t.rows.map Rw.cells).length:Nat):Int))=true:=by simp;omega
  have hw:=zal i (by first|omega|(simp only [zad,Few] at *;omega))
  have hfx:=ht x (List.mem_of_getElem? hx)
  rw [zaH hx]
  simp only [cndD]
  refine zaa ?_
  let p_1:List St:=[sb h0,se (zaf Rw.cells hx rfl),sc (zd0 frs s x.vals (by first|assumption|omega|(simp;done)|(simp;omega))),sc hfx]
  cases h1:(tr x).snd != 0
  ·cases h2:!(tr x).fst
   ·exact wkl (p_1++[sb h1,sb h2,sb hk,sqx (AllLen [[iv x.id]] 1∧del.length=(List.map zbN del).length∧(((List.map zbN del).length+[[iv x.id]].length) * 8).le 140737488355328),si hw]) [1,2,3,6,8,12,55,56,57] 5 kr (zay rfl (show ([Blk.box [iv a.kind,sv a.table,AV.sl (List.map (fun r=>[AV.sl (zac r)]) a.rows),AV.sl (zag a.query),AV.sl (List.map Se.cells a.sets),AV.sl (zac a.wh),sv a.text],Blk.box [AV.nl,AV.nl,AV.nl],Blk.box [sv s.name,AV.sl (List.map Col.cells s.cols)],Blk.box [AV.nl,AV.own 4 (List.map zbN del++[[iv x.id]]).length,AV.nl],Blk.row Ty.int (List.map zbN del++[[iv x.id]]) false]:Heap)=_ by first|rfl|(simp;done)|(simp [X.cells,Qy.cells,V.cells,Col.cells,Rw.cells,Tb.cells,Fr.cells,Sch.cells,Tp.cells,Pl.cells,xCol,xLit,xBin,xNeg,Ac.cells,Se.cells,Pr.cells,Ch.cells,Rw.cells];done)) (ih (i+1) (del++[x.id]) (by omega) zk0))
   ·exact wkl (p_1++[sb h1,sb h2,si hw]) [1,2,3,6,8,12,55,56,57] 5 kr (ih (i+1) del (by omega) zk0)
  ·exact wkr (p_1++[sb h1]) kr
noncomputable def L_cndU (tr:Rw→Bool × Int) (ag:Rw→List V × Int) (a:Ac) (s:Sch) (frs:List Fr) (tb:List Tb) (t:Tb) (i:Nat) (upd:List Pr):Cfg:=zap B.dml_Candidates 0 [(1,fsl frs),(2,tsl tb),(3,.p 0 0),(6,.p 1 0),(8,.p 2 0),(12,.p 3 0),(55,.sl (t.rows.map Rw.cells)),(56,iv ((t.rows.map Rw.cells).length:Nat)),(57,iv (i:Nat))] [.box a.cells,.box [.nl,.nl,.nl],.box s.cells,.box [.nl,.nl,.own 4 upd.length],.row Ty.Pair (upd.map Pr.cells) false]
def cndU (tr:Rw→Bool × Int) (ag:Rw→List V × Int) (a:Ac) (s:Sch) (frs:List Fr) (tb:List Tb) (t:Tb):List (Rw)→Nat→(List Pr)→Ch × Int
 | [],i,upd =>
  (Ch.mk [] [] upd,0)
 | x::r,i,upd =>
  bif (tr x).snd != 0 then
   (Ch.mk [] [] [],(tr x).snd)
  else
   bif !(tr x).fst then
    cndU tr ag a s frs tb t r (i+1) (upd)
   else
    bif (ag x).snd != 0 then
     (Ch.mk [] [] [],(ag x).snd)
    else
     cndU tr ag a s frs tb t r (i+1) (upd++[Pr.mk x.id x.vals (ag x).fst])
theorem zo8 (tr:Rw→Bool × Int) (ag:Rw→List V × Int) (a:Ac) (s:Sch) (frs:List Fr) (tb:List Tb) (t:Tb) (h3:zad frs) (hk:(a.kind==3)=false) (hl:zad t.rows) (hv:∀ r∈t.rows,zad r.vals) (ht:∀ r∈t.rows,Pure S.evaluate_True [xsl a.wh,fsl (zaF frs s r.vals),tsl tb] (.tup [bv (tr r).1,iv (tr r).2])) (hag:∀ r∈t.rows,Pure S.dml_assigned [a.av,s.av,vsl r.vals,fsl (zaF frs s r.vals),tsl tb] (.tup [vsl (ag r).1,iv (ag r).2])):∀ (kk i:Nat) (upd:List Pr),i+kk=(t.rows).length→(upd.length≤i)→Good E0 B.dml_Candidates [] (L_cndU tr ag a s frs tb t i upd) (Shut 0 fun r h=>r=(.tup [(cndU tr ag a s frs tb t ((t.rows).drop i) i upd).1.av,iv (cndU tr ag a s frs tb t ((t.rows).drop i) i upd).2])∧h=[]):=by
 intro kk
 induction kk with
 | zero =>
  intro i upd hi ho
  have h0:decide (((i:Nat):Int) < (((t.rows.map Rw.cells).length:Nat):Int))=false:=by simp;omega
  have e0:(t.rows).drop i=[]:=List.drop_of_length_le (by omega)
  rw [e0]
  simp only [cndU]
  refine zaa ?_
  exact wkr [sqx ((True∧True∧upd.length=(List.map Pr.cells upd).length∧True)∧True∧True),sb h0] kr
 | succ kk ih =>
  intro i upd hi ho
  obtain ⟨x,hx⟩:=zaw (l:=t.rows) (i:=i) (by omega)
  have h0:decide (((i:Nat):Int) < (((t.rows.map Rw.cells).length:Nat):Int))=true:=by simp;omega
  have hw:=zal i (by first|omega|(simp only [zad,Few] at *;omega))
  have hfx:=ht x (List.mem_of_getElem? hx);have hgx:=hag x (List.mem_of_getElem? hx);have hvx:=hv x (List.mem_of_getElem? hx)
  rw [zaH hx]
  simp only [cndU]
  refine zaa ?_
  let p_1:List St:=[sb h0,se (zaf Rw.cells hx rfl),sc (zd0 frs s x.vals (by first|assumption|omega|(simp;done)|(simp;omega))),sc hfx]
  cases h1:(tr x).snd != 0
  ·cases h2:!(tr x).fst
   ·cases h3:(ag x).snd != 0
    ·exact wkl (p_1++[sb h1,sb h2,sb hk,sc hgx,sb h3,sd [(6,[sc (zcH x.vals (by first|assumption|omega|(simp;done)|(simp;omega)))]),(9,[sqx (True∧x.vals.length=(List.map V.cells x.vals).length∧True∧True)]),(10,[sqx (AllLen [[iv x.id,AV.sl (List.map V.cells x.vals),AV.sl (List.map V.cells (ag x).fst)]] 3∧upd.length=(List.map Pr.cells upd).length∧(((List.map Pr.cells upd).length+[[iv x.id,AV.sl (List.map V.cells x.vals),AV.sl (List.map V.cells (ag x).fst)]].length) * 56).le 140737488355328)])],si hw]) [1,2,3,6,8,12,55,56,57] 5 kr (zay rfl (show ([Blk.box [iv a.kind,sv a.table,AV.sl (List.map (fun r=>[AV.sl (zac r)]) a.rows),AV.sl (zag a.query),AV.sl (List.map Se.cells a.sets),AV.sl (zac a.wh),sv a.text],Blk.box [AV.nl,AV.nl,AV.nl],Blk.box [sv s.name,AV.sl (List.map Col.cells s.cols)],Blk.box [AV.nl,AV.nl,AV.own 4 (List.map Pr.cells upd++[[iv x.id,AV.sl (List.map V.cells x.vals),AV.sl (List.map V.cells (ag x).fst)]]).length],Blk.row Ty.Pair (List.map Pr.cells upd++[[iv x.id,AV.sl (List.map V.cells x.vals),AV.sl (List.map V.cells (ag x).fst)]]) false]:Heap)=_ by first|rfl|(simp;done)|(simp [X.cells,Qy.cells,V.cells,Col.cells,Rw.cells,Tb.cells,Fr.cells,Sch.cells,Tp.cells,Pl.cells,xCol,xLit,xBin,xNeg,Ac.cells,Se.cells,Pr.cells,Ch.cells,Rw.cells];done)) (ih (i+1) (upd++[Pr.mk x.id x.vals (ag x).fst]) (by omega) zk0))
    ·exact wkr (p_1++[sb h1,sb h2,sb hk,sc hgx,sb h3]) kr
   ·exact wkl (p_1++[sb h1,sb h2,si hw]) [1,2,3,6,8,12,55,56,57] 5 kr (ih (i+1) upd (by omega) zk0)
  ·exact wkr (p_1++[sb h1]) kr
end Go.AM
namespace Go.AM
set_option maxRecDepth 100000
set_option maxHeartbeats 1000000
set_option linter.unusedSimpArgs false
set_option linter.unusedVariables false
def tbNull:Tb:=⟨⟨⟨#[]⟩,[]⟩,0,[]⟩
def tabC (tb:List Tb) (n:Str):Tb:=(zbB tb n).getD tbNull
theorem zhk (tb:List Tb) (n:Str) (h:decide (idxF (fun t=>zan t n) tb 0 < 0)=false):ElAt (tb.map Tb.cells) (idxF (fun t=>zan t n) tb 0) (tabC tb n).cells 4:=by
 simp only [decide_eq_false_iff_not] at h
 rcases zcC (fun t=>zan t n) tb 0 with ⟨h2,_⟩|⟨j,y,h2,h3,h4⟩
 ·omega
 ·have e:tabC tb n=y:=by unfold tabC zbB;rw [h4];rfl
  rw [e,h2]
  have:((0+j:Nat):Int)=(j:Int):=by omega
  rw [this];exact zaf Tb.cells h3 rfl
def zh1 (a:Ac) (s:Sch) (e:Int):Ch × Int :=
 (Ch.mk [] [] [],e)
theorem ziq (a:Ac) (s:Sch) (e:Int) (frs:List Fr) (tb:List Tb) (he:(e != 0)=true) (hv:zab E0 S.dml_target [a.av,tsl tb] [] (.tup [s.av,iv e]) []):zab E0 S.dml_Candidates [a.av,fsl frs,tsl tb] [] (.tup [(zh1 a s e).1.av,iv (zh1 a s e).2]) []:=by
 exact wk At.dml_Candidates [sc hv,sb he] kr
def zhZ (tr:Rw→Bool × Int) (a:Ac) (s:Sch) (frs:List Fr) (tb:List Tb):Ch × Int :=
 cndD tr a s frs tb (tabC tb a.table) (tabC tb a.table).rows 0 ([])
theorem zio (tr:Rw→Bool × Int) (a:Ac) (s:Sch) (frs:List Fr) (tb:List Tb) (hk1:(a.kind==1)=false) (hk3:(a.kind==3)=true) (h2:zad tb) (h3:zad frs) (hv:zab E0 S.dml_target [a.av,tsl tb] [] (.tup [s.av,iv 0]) []) (hix:zab E0 S.slices_IndexFunc_Table [.sl (tb.map Tb.cells),.fn S.dml_Candidates_c1 [.p 0 0]] [.box a.cells] (iv (idxF (fun t=>zan t a.table) tb 0)) [.box a.cells]) (hn:decide (idxF (fun t=>zan t a.table) tb 0 < 0)=false) (hl:zad (tabC tb a.table).rows) (ht:∀ r∈(tabC tb a.table).rows,Pure S.evaluate_True [xsl a.wh,fsl (zaF frs s r.vals),tsl tb] (.tup [bv (tr r).1,iv (tr r).2])):zab E0 S.dml_Candidates [a.av,fsl frs,tsl tb] [] (.tup [(zhZ tr a s frs tb).1.av,iv (zhZ tr a s frs tb).2]) []:=by
 unfold zhZ
 exact wkcN At.dml_Candidates [sc hv,sb (rfl:false=false),sb hk1,sl [0] hix,se (zhk tb a.table (by first|assumption|omega|(simp;done)|(simp;omega)))] [1,2,3,6,8,12,55,56,57] 4 [(.ob 3 1 Ty.int,5)] kr (by have ih:=zoX tr a s frs tb (tabC tb a.table) h3 hk3 hl ht (tabC tb a.table).rows.length 0 ([]) (by simp) (by simp);exact ih)
def zhJ (tr:Rw→Bool × Int) (ag:Rw→List V × Int) (a:Ac) (s:Sch) (frs:List Fr) (tb:List Tb):Ch × Int :=
 cndU tr ag a s frs tb (tabC tb a.table) (tabC tb a.table).rows 0 ([])
theorem zik (tr:Rw→Bool × Int) (ag:Rw→List V × Int) (a:Ac) (s:Sch) (frs:List Fr) (tb:List Tb) (hk1:(a.kind==1)=false) (hk3:(a.kind==3)=false) (h2:zad tb) (h3:zad frs) (hv:zab E0 S.dml_target [a.av,tsl tb] [] (.tup [s.av,iv 0]) []) (hix:zab E0 S.slices_IndexFunc_Table [.sl (tb.map Tb.cells),.fn S.dml_Candidates_c1 [.p 0 0]] [.box a.cells] (iv (idxF (fun t=>zan t a.table) tb 0)) [.box a.cells]) (hn:decide (idxF (fun t=>zan t a.table) tb 0 < 0)=false) (hl:zad (tabC tb a.table).rows) (hvl:∀ r∈(tabC tb a.table).rows,zad r.vals) (ht:∀ r∈(tabC tb a.table).rows,Pure S.evaluate_True [xsl a.wh,fsl (zaF frs s r.vals),tsl tb] (.tup [bv (tr r).1,iv (tr r).2])) (hag:∀ r∈(tabC tb a.table).rows,Pure S.dml_assigned [a.av,s.av,vsl r.vals,fsl (zaF frs s r.vals),tsl tb] (.tup [vsl (ag r).1,iv (ag r).2])):zab E0 S.dml_Candidates [a.av,fsl frs,tsl tb] [] (.tup [(zhJ tr ag a s frs tb).1.av,iv (zhJ tr ag a s frs tb).2]) []:=by
 unfold zhJ
 exact wkcN At.dml_Candidates [sc hv,sb (rfl:false=false),sb hk1,sl [0] hix,se (zhk tb a.table (by first|assumption|omega|(simp;done)|(simp;omega)))] [1,2,3,6,8,12,55,56,57] 4 [(.ob 3 2 Ty.Pair,5)] kr (by have ih:=zo8 tr ag a s frs tb (tabC tb a.table) h3 hk3 hl hvl ht hag (tabC tb a.table).rows.length 0 ([]) (by simp) (by simp);exact ih)
end Go.AM
namespace Go.AM
set_option maxRecDepth 100000
set_option maxHeartbeats 1000000
set_option linter.unusedSimpArgs false
set_option linter.unusedVariables false
theorem zop {p:Prop} (h:p:=by first|assumption|omega|(simp only [bne_eq_false_iff_eq,zdI,List.length_map] at *;omega)|(simp;done)|exact ⟨by simp,rfl⟩):p:=h
theorem zn9 {p:Prop} (h:p:=by have h:=‹((((zac x).length:Nat):Int) != _)=false›;simp at h;omega):p:=h
abbrev PEv (f:X→V × Int) (x:X) (frs:List Fr) (tb:List Tb):Prop:=Pure S.evaluate_Value [x.av,fsl frs,tsl tb] (.tup [(f x).1.av,iv (f x).2])
def zbK (f:X→V × Int):List X→List V→List V × Int
 | [],acc=>(acc,0)
 | x::r,acc=>bif (f x).2 != 0 then ([],(f x).2) else zbK f r (acc++[(f x).1])
def insL (f:X→V × Int) (n:Nat):List (List X)→List (List V)→List (List V) × Int
 | [],acc=>(acc,0)
 | y::r,acc=>bif y.length != n then ([],5) else bif (zbK f y []).2 != 0 then ([],(zbK f y []).2) else insL f n r (acc++[(zbK f y []).1])
theorem zr4 {f:X→V × Int} {l:List X} {i:Nat} {x:X} {acc:List V} (h:zbK f l []=zbK f (l.drop i) acc) (hx:l[i]?=some x) (h1:((f x).2 != 0)=false):zbK f l []=zbK f (l.drop (i+1)) (acc++[(f x).1]):=by
 obtain ⟨hi,e⟩:=List.getElem?_eq_some_iff.1 hx
 rw [h,List.drop_eq_getElem_cons hi,e]
 simp only [zbK,h1,cond_false]
theorem ztn {f:X→V × Int} {l:List X} {i:Nat} {x:X} {acc:List V} (h:zbK f l []=zbK f (l.drop i) acc) (hx:l[i]?=some x) (h1:((f x).2 != 0)=true):(f x).2≠0∧zbK f l []=([],(f x).2):=by
 obtain ⟨hi,e⟩:=List.getElem?_eq_some_iff.1 hx
 rw [h,List.drop_eq_getElem_cons hi,e]
 exact ⟨by simpa using h1,by simp only [zbK,h1,cond_true]⟩
theorem zsH {f:X→V × Int} {l:List X} {acc:List V} (h:zbK f l []=zbK f (l.drop l.length) acc):zbK f l []=(acc,0):=by
 rw [h,List.drop_length];rfl
theorem zsM {f:X→V × Int} {n:Nat} {l:List (List X)} {i:Nat} {x:List X} {acc:List (List V)} {v:List V} (h:insL f n l []=insL f n (l.drop i) acc) (hx:l[i]?=some x) (h1:x.length=n) (h2:zbK f x []=(v,0)):insL f n l []=insL f n (l.drop (i+1)) (acc++[v]):=by
 obtain ⟨hi,e⟩:=List.getElem?_eq_some_iff.1 hx
 rw [h,List.drop_eq_getElem_cons hi,e]
 have h8:(x.length != n)=false:=by simpa using h1
 simp only [insL,h8,h2,cond_false];rfl
theorem zqd {f:X→V × Int} {n:Nat} {l:List (List X)} {i:Nat} {x:List X} {acc:List (List V)} (h:insL f n l []=insL f n (l.drop i) acc) (hx:l[i]?=some x) (h1:x.length≠n):insL f n l []=([],5):=by
 obtain ⟨hi,e⟩:=List.getElem?_eq_some_iff.1 hx
 rw [h,List.drop_eq_getElem_cons hi,e]
 have h9:(x.length != n)=true:=by simpa using h1
 simp only [insL,h9,cond_true]
theorem zpU {f:X→V × Int} {n:Nat} {l:List (List X)} {i:Nat} {x:List X} {acc:List (List V)} {c:Int} {v:List V} (h:insL f n l []=insL f n (l.drop i) acc) (hx:l[i]?=some x) (h1:x.length=n) (h2:zbK f x []=(v,c)) (hc:c≠0):insL f n l []=([],c):=by
 obtain ⟨hi,e⟩:=List.getElem?_eq_some_iff.1 hx
 rw [h,List.drop_eq_getElem_cons hi,e]
 have h8:(x.length != n)=false:=by simpa using h1
 have h9:(c != 0)=true:=by simpa using hc
 simp only [insL,h8,h9,h2,cond_true,cond_false]
theorem zt7 {f:X→V × Int} {n:Nat} {l:List (List X)} {acc:List (List V)} (h:insL f n l []=insL f n (l.drop l.length) acc):insL f n l []=(acc,0):=by
 rw [h,List.drop_length];rfl
noncomputable def zqF (a:Ac) (s:Sch) (frs:List Fr) (tb:List Tb) (f:X→V × Int) (io:Nat) (y:List X) (out:List (List V)) (i:Nat) (row:List V):Cfg:=zap B.dml_inserted 1 [(2,fsl frs),(3,tsl tb),(4,.p 0 0),(5,.p 1 0),(10,.own 2 out.length),(13,.own 3 row.length),(23,.sl (a.rows.map zaN)),(24,iv ((a.rows.map zaN).length:Nat)),(25,iv (io:Nat)),(35,xsl y),(36,iv ((zac y).length:Nat)),(37,iv (i:Nat))] [.box a.cells,.box s.cells,.row Ty.LValue (out.map vrow) false,.row Ty.Value (row.map V.cells) false]
theorem zfO (a:Ac) (s:Sch) (frs:List Fr) (tb:List Tb) (f:X→V × Int) (io:Nat) (y:List X) (out:List (List V)) (hy:zad y) (hf:∀ x∈y,PEv f x frs tb) (i:Nat) (row:List V) (hi:i≤(y).length) (hI:row.length≤i∧zbK f y []=zbK f (y.drop i) row):(∃ (row':List V),(row'.length≤(y).length∧zbK f y []=zbK f (y.drop (y).length) row')∧(decide ((((y).length:Nat):Int) < (((zac y).length:Nat):Int))=false)∧∀ R,Good E0 B.dml_inserted [] (zqF a s frs tb f io y out (y).length row') R→Good E0 B.dml_inserted [] (zqF a s frs tb f io y out i row) R)∨(∃ (r:List (List V)) (c:Int),(r=[]∧c≠0∧zbK f y []=([],c))∧Good E0 B.dml_inserted [] (zqF a s frs tb f io y out i row) (Shut 0 fun rZ hZ=>rZ=(.tup [.sl (r.map vrow),iv c])∧hZ=[])):=by
 obtain ⟨kk,hk⟩:∃ kk,i+kk=(y).length:=⟨(y).length - i,by omega⟩
 induction kk generalizing i row with
 | zero =>
  have e0:i=(y).length:=by omega
  subst e0
  exact .inl ⟨row,hI,by simp,fun R hg=>hg⟩
 | succ kk ih =>
  obtain ⟨x,hx⟩:=zaw (l:=y) (i:=i) (by omega)
  have h0:decide (((i:Nat):Int) < (((zac y).length:Nat):Int))=true:=by simp;omega
  have hw:IntKind.i64.wrap (((i:Nat):Int)+1)=((i+1:Nat):Int):=zal i (by first|omega|(simp only [zad,Few] at *;omega))
  have hx1:=hf x (List.mem_of_getElem? hx);have hrl:row.length≤1000000000:=by have:=hI.1;simp only [zad] at hy;omega
  cases h1:(f x).snd != 0
  ·exact (ih (i+1) (row++[(f x).fst]) (by omega) (by exact ⟨by have:=hI.1;simp;omega,zr4 hI.2 hx (by assumption)⟩) (by omega)).elim (fun ⟨rowZ,qZ,xZ,gZ⟩=>.inl ⟨rowZ,qZ,xZ,fun R hg=>zaa (wkl [sb h0,se (zbl hx),sc hx1,sb h1,sqx (AllLen [[iv (f x).fst.kind,iv (f x).fst.int,sv (f x).fst.text]] 3∧row.length=(List.map V.cells row).length∧(((List.map V.cells row).length+[[iv (f x).fst.kind,iv (f x).fst.int,sv (f x).fst.text]].length) * 32).le 140737488355328),si hw] [2,3,4,5,10,13,23,24,25,35,36,37] 4 kr (zay (show ([(2,AV.sl (List.map Fr.cells frs)),(3,AV.sl (List.map Tb.cells tb)),(4,AV.p 0 0),(5,AV.p 1 0),(10,AV.own 2 out.length),(13,AV.own 3 (List.map V.cells row++[[iv (f x).fst.kind,iv (f x).fst.int,sv (f x).fst.text]]).length),(23,AV.sl (List.map zaN a.rows)),(24,iv (↑(List.map zaN a.rows).length:Int)),(25,iv (io:Int)),(35,AV.sl (zac y)),(36,iv (↑(zac y).length:Int)),(37,iv (↑(i+1):Int))]:TS)=_ by first|rfl|(simp;done)|(simp [X.cells,Qy.cells,V.cells,Col.cells,Rw.cells,Tb.cells,Fr.cells,Sch.cells,Tp.cells,Pl.cells,xCol,xLit,xBin,xNeg,Ac.cells,Se.cells,Pr.cells,Ch.cells,Rw.cells];done)) (show ([Blk.box [iv a.kind,sv a.table,AV.sl (List.map (fun r=>[AV.sl (zac r)]) a.rows),AV.sl (zag a.query),AV.sl (List.map Se.cells a.sets),AV.sl (zac a.wh),sv a.text],Blk.box [sv s.name,AV.sl (List.map Col.cells s.cols)],Blk.row Ty.LValue (List.map vrow out) false,Blk.row Ty.Value (List.map V.cells row++[[iv (f x).fst.kind,iv (f x).fst.int,sv (f x).fst.text]]) false]:Heap)=_ by first|rfl|(simp;done)|(simp [X.cells,Qy.cells,V.cells,Col.cells,Rw.cells,Tb.cells,Fr.cells,Sch.cells,Tp.cells,Pl.cells,xCol,xLit,xBin,xNeg,Ac.cells,Se.cells,Pr.cells,Ch.cells,Rw.cells];done)) (gZ R hg)))⟩) (fun ⟨rY,cY,pZ,gZ⟩=>.inr ⟨rY,cY,pZ,zaa (wkl [sb h0,se (zbl hx),sc hx1,sb h1,sqx (AllLen [[iv (f x).fst.kind,iv (f x).fst.int,sv (f x).fst.text]] 3∧row.length=(List.map V.cells row).length∧(((List.map V.cells row).length+[[iv (f x).fst.kind,iv (f x).fst.int,sv (f x).fst.text]].length) * 32).le 140737488355328),si hw] [2,3,4,5,10,13,23,24,25,35,36,37] 4 kr (zay (show ([(2,AV.sl (List.map Fr.cells frs)),(3,AV.sl (List.map Tb.cells tb)),(4,AV.p 0 0),(5,AV.p 1 0),(10,AV.own 2 out.length),(13,AV.own 3 (List.map V.cells row++[[iv (f x).fst.kind,iv (f x).fst.int,sv (f x).fst.text]]).length),(23,AV.sl (List.map zaN a.rows)),(24,iv (↑(List.map zaN a.rows).length:Int)),(25,iv (io:Int)),(35,AV.sl (zac y)),(36,iv (↑(zac y).length:Int)),(37,iv (↑(i+1):Int))]:TS)=_ by first|rfl|(simp;done)|(simp [X.cells,Qy.cells,V.cells,Col.cells,Rw.cells,Tb.cells,Fr.cells,Sch.cells,Tp.cells,Pl.cells,xCol,xLit,xBin,xNeg,Ac.cells,Se.cells,Pr.cells,Ch.cells,Rw.cells];done)) (show ([Blk.box [iv a.kind,sv a.table,AV.sl (List.map (fun r=>[AV.sl (zac r)]) a.rows),AV.sl (zag a.query),AV.sl (List.map Se.cells a.sets),AV.sl (zac a.wh),sv a.text],Blk.box [sv s.name,AV.sl (List.map Col.cells s.cols)],Blk.row Ty.LValue (List.map vrow out) false,Blk.row Ty.Value (List.map V.cells row++[[iv (f x).fst.kind,iv (f x).fst.int,sv (f x).fst.text]]) false]:Heap)=_ by first|rfl|(simp;done)|(simp [X.cells,Qy.cells,V.cells,Col.cells,Rw.cells,Tb.cells,Fr.cells,Sch.cells,Tp.cells,Pl.cells,xCol,xLit,xBin,xNeg,Ac.cells,Se.cells,Pr.cells,Ch.cells,Rw.cells];done)) gZ))⟩)
  ·exact .inr ⟨[],(f x).snd,(by exact ⟨rfl,ztn hI.2 hx (by assumption)⟩),zaa (wkr [sb h0,se (zbl hx),sc hx1,sb h1] kr)⟩
noncomputable def zqR (a:Ac) (s:Sch) (frs:List Fr) (tb:List Tb) (f:X→V × Int) (i:Nat) (out:List (List V)):Cfg:=zap B.dml_inserted 0 [(2,fsl frs),(3,tsl tb),(4,.p 0 0),(5,.p 1 0),(10,.own 2 out.length),(23,.sl (a.rows.map zaN)),(24,iv ((a.rows.map zaN).length:Nat)),(25,iv (i:Nat))] [.box a.cells,.box s.cells,.row Ty.LValue (out.map vrow) false]
theorem zfY (a:Ac) (s:Sch) (frs:List Fr) (tb:List Tb) (f:X→V × Int) (hs:zad s.cols) (hr:zad a.rows) (hf:∀ r∈a.rows,zad r∧∀ x∈r,PEv f x frs tb) (i:Nat) (out:List (List V)) (hi:i≤(a.rows).length) (hI:out.length≤i∧insL f s.cols.length a.rows []=insL f s.cols.length (a.rows.drop i) out):(∃ (out':List (List V)),(out'.length≤(a.rows).length∧insL f s.cols.length a.rows []=insL f s.cols.length (a.rows.drop (a.rows).length) out')∧(decide ((((a.rows).length:Nat):Int) < (((a.rows.map zaN).length:Nat):Int))=false)∧∀ R,Good E0 B.dml_inserted [] (zqR a s frs tb f (a.rows).length out') R→Good E0 B.dml_inserted [] (zqR a s frs tb f i out) R)∨(∃ (r:List (List V)) (c:Int),(r=[]∧c≠0∧insL f s.cols.length a.rows []=([],c))∧Good E0 B.dml_inserted [] (zqR a s frs tb f i out) (Shut 0 fun rZ hZ=>rZ=(.tup [.sl (r.map vrow),iv c])∧hZ=[])):=by
 obtain ⟨kk,hk⟩:∃ kk,i+kk=(a.rows).length:=⟨(a.rows).length - i,by omega⟩
 induction kk generalizing i out with
 | zero =>
  have e0:i=(a.rows).length:=by omega
  subst e0
  exact .inl ⟨out,hI,by simp,fun R hg=>hg⟩
 | succ kk ih =>
  obtain ⟨x,hx⟩:=zaw (l:=a.rows) (i:=i) (by omega)
  have h0:decide (((i:Nat):Int) < (((a.rows.map zaN).length:Nat):Int))=true:=by simp;omega
  have hw:IntKind.i64.wrap (((i:Nat):Int)+1)=((i+1:Nat):Int):=zal i (by first|omega|(simp only [zad,Few] at *;omega))
  have hx1:=(hf x (List.mem_of_getElem? hx)).1;have hx2:=(hf x (List.mem_of_getElem? hx)).2;have hol:out.length≤1000000000:=by have:=hI.1;simp only [zad] at hr;omega
  cases h1:(↑(zac x).length:Int) != (↑(List.map Col.cells s.cols).length:Int)
  ·rcases zfO a s frs tb f i x out zop hx2 0 ([]) zop zop with ⟨row2,q2,q2_1,g2⟩|⟨r2_0,r2_1,p2_0,g2⟩
   ·exact (ih (i+1) (out++[row2]) (by omega) (by exact ⟨by have:=hI.1;simp;omega,zsM hI.2 hx zn9 (zsH (And.right ‹_≤_∧zbK f x []=_›))⟩) (by omega)).elim (fun ⟨outZ,qZ,xZ,gZ⟩=>.inl ⟨outZ,qZ,xZ,fun R hg=>zaa (wklN [sb h0,se (zaf zaN hx rfl),sb h1] [2,3,4,5,10,13,23,24,25,35,36,37] 3 [(.ot 13 Ty.Value,4)] kr (g2 _ (zaa (wkl [sb q2_1,sqx (row2.length=(List.map V.cells row2).length∧True),sqx (AllLen [[AV.sl (List.map V.cells row2)]] 1∧out.length=(List.map vrow out).length∧(((List.map vrow out).length+[[AV.sl (List.map V.cells row2)]].length) * 24).le 140737488355328),si hw] [2,3,4,5,10,23,24,25] 3 kr (zay (show ([(2,AV.sl (List.map Fr.cells frs)),(3,AV.sl (List.map Tb.cells tb)),(4,AV.p 0 0),(5,AV.p 1 0),(10,AV.own 2 (List.map vrow out++[[AV.sl (List.map V.cells row2)]]).length),(23,AV.sl (List.map zaN a.rows)),(24,iv (↑(List.map zaN a.rows).length:Int)),(25,iv (↑(i+1):Int))]:TS)=_ by first|rfl|(simp;done)|(simp [X.cells,Qy.cells,V.cells,Col.cells,Rw.cells,Tb.cells,Fr.cells,Sch.cells,Tp.cells,Pl.cells,xCol,xLit,xBin,xNeg,Ac.cells,Se.cells,Pr.cells,Ch.cells,Rw.cells];done)) (show ([Blk.box [iv a.kind,sv a.table,AV.sl (List.map (fun r=>[AV.sl (zac r)]) a.rows),AV.sl (zag a.query),AV.sl (List.map Se.cells a.sets),AV.sl (zac a.wh),sv a.text],Blk.box [sv s.name,AV.sl (List.map Col.cells s.cols)],Blk.row Ty.LValue (List.map vrow out++[[AV.sl (List.map V.cells row2)]]) false]:Heap)=_ by first|rfl|(simp;done)|(simp [X.cells,Qy.cells,V.cells,Col.cells,Rw.cells,Tb.cells,Fr.cells,Sch.cells,Tp.cells,Pl.cells,xCol,xLit,xBin,xNeg,Ac.cells,Se.cells,Pr.cells,Ch.cells,Rw.cells];done)) (gZ R hg))))))⟩) (fun ⟨rY,cY,pZ,gZ⟩=>.inr ⟨rY,cY,pZ,zaa (wklN [sb h0,se (zaf zaN hx rfl),sb h1] [2,3,4,5,10,13,23,24,25,35,36,37] 3 [(.ot 13 Ty.Value,4)] kr (g2 _ (zaa (wkl [sb q2_1,sqx (row2.length=(List.map V.cells row2).length∧True),sqx (AllLen [[AV.sl (List.map V.cells row2)]] 1∧out.length=(List.map vrow out).length∧(((List.map vrow out).length+[[AV.sl (List.map V.cells row2)]].length) * 24).le 140737488355328),si hw] [2,3,4,5,10,23,24,25] 3 kr (zay (show ([(2,AV.sl (List.map Fr.cells frs)),(3,AV.sl (List.map Tb.cells tb)),(4,AV.p 0 0),(5,AV.p 1 0),(10,AV.own 2 (List.map vrow out++[[AV.sl (List.map V.cells row2)]]).length),(23,AV.sl (List.map zaN a.rows)),(24,iv (↑(List.map zaN a.rows).length:Int)),(25,iv (↑(i+1):Int))]:TS)=_ by first|rfl|(simp;done)|(simp [X.cells,Qy.cells,V.cells,Col.cells,Rw.cells,Tb.cells,Fr.cells,Sch.cells,Tp.cells,Pl.cells,xCol,xLit,xBin,xNeg,Ac.cells,Se.cells,Pr.cells,Ch.cells,Rw.cells];done)) (show ([Blk.box [iv a.kind,sv a.table,AV.sl (List.map (fun r=>[AV.sl (zac r)]) a.rows),AV.sl (zag a.query),AV.sl (List.map Se.cells a.sets),AV.sl (zac a.wh),sv a.text],Blk.box [sv s.name,AV.sl (List.map Col.cells s.cols)],Blk.row Ty.LValue (List.map vrow out++[[AV.sl (List.map V.cells row2)]]) false]:Heap)=_ by first|rfl|(simp;done)|(simp [X.cells,Qy.cells,V.cells,Col.cells,Rw.cells,Tb.cells,Fr.cells,Sch.cells,Tp.cells,Pl.cells,xCol,xLit,xBin,xNeg,Ac.cells,Se.cells,Pr.cells,Ch.cells,Rw.cells];done)) gZ)))))⟩)
   ·exact .inr ⟨r2_0,r2_1,(by first|exact ⟨rfl,by omega,zqd hI.2 hx (by have h:=‹((((zac x).length:Nat):Int) != _)=true›;simp at h;omega)⟩|exact ⟨(And.left ‹_=[]∧_≠(0:Int)∧_›),(And.right ‹_=[]∧_≠(0:Int)∧_›).1,zpU hI.2 hx zn9 (And.right ‹_=[]∧_≠(0:Int)∧_›).2 (And.right ‹_=[]∧_≠(0:Int)∧_›).1⟩),zaa (wklN [sb h0,se (zaf zaN hx rfl),sb h1] [2,3,4,5,10,13,23,24,25,35,36,37] 3 [(.ot 13 Ty.Value,4)] kr g2)⟩
  ·exact .inr ⟨[],5,(by first|exact ⟨rfl,by omega,zqd hI.2 hx (by have h:=‹((((zac x).length:Nat):Int) != _)=true›;simp at h;omega)⟩|exact ⟨(And.left ‹_=[]∧_≠(0:Int)∧_›),(And.right ‹_=[]∧_≠(0:Int)∧_›).1,zpU hI.2 hx zn9 (And.right ‹_=[]∧_≠(0:Int)∧_›).2 (And.right ‹_=[]∧_≠(0:Int)∧_›).1⟩),zaa (wkr [sb h0,se (zaf zaN hx rfl),sb h1] kr)⟩
end Go.AM
namespace Go.AM
set_option maxRecDepth 100000
set_option maxHeartbeats 1000000
set_option linter.unusedSimpArgs false
set_option linter.unusedVariables false
theorem zge {p:Prop} (h:p:=by first|assumption|(simp only [zad] at *;omega)|exact ⟨Nat.le_refl _,rfl⟩|exact inq0 (by assumption) hr|(simp;done)):p:=h
theorem zf2 {p:Prop} (h:p:=by first|assumption|omega|(simp;done)|(simp;omega)):p:=h
theorem znK {p:Prop} (h:p:=by first|exact ztA (by assumption) (by assumption)|exact insB_q (by assumption) (by assumption)|exact insB_l (by assumption)):p:=h
def wid (v:List V) (s:Sch):Bool :=
 (↑(List.map V.cells v).length:Int) != (↑(List.map Col.cells s.cols).length:Int)
theorem zff (v:List V) (s:Sch) :zab E0 S.dml_inserted_c1 [vsl v,.p 0 0] [.box s.cells] (bv (wid v s)) [.box s.cells]:=by
 exact wk At.dml_inserted_c1 [] kr
def okW (s:Sch) (v:List V):Bool:=!wid v s
noncomputable def zqw (l:List (List V)) (s:Sch) (i:Nat) :Cfg:=zap B.slices_IndexFunc_Value 0 [(0,.sl (l.map vrow)),(1,.fn S.dml_inserted_c1 [.p 0 0]),(7,iv ((l.map vrow).length:Nat)),(8,iv (i:Nat))] [.box s.cells]
theorem zds (l:List (List V)) (s:Sch) (hl:zad l) (i:Nat)  (hi:i≤(l).length) (hI:(l.take i).all (okW s)=true):(((l.take (l).length).all (okW s)=true)∧(decide ((((l).length:Nat):Int) < (((l.map vrow).length:Nat):Int))=false)∧∀ R,Good E0 B.slices_IndexFunc_Value [.box s.cells] (zqw l s (l).length ) R→Good E0 B.slices_IndexFunc_Value [.box s.cells] (zqw l s i ) R)∨(∃ (r:Int),(decide (0≤r)=true∧l.all (okW s)=false)∧Good E0 B.slices_IndexFunc_Value [.box s.cells] (zqw l s i ) (Shut 1 fun rZ hZ=>rZ=(iv r)∧hZ=[.box s.cells])):=by
 obtain ⟨kk,hk⟩:∃ kk,i+kk=(l).length:=⟨(l).length - i,by omega⟩
 induction kk generalizing i  with
 | zero =>
  have e0:i=(l).length:=by omega
  subst e0
  exact .inl ⟨hI,by simp,fun R hg=>hg⟩
 | succ kk ih =>
  obtain ⟨x,hx⟩:=zaw (l:=l) (i:=i) (by omega)
  have h0:decide (((i:Nat):Int) < (((l.map vrow).length:Nat):Int))=true:=by simp;omega
  have hw:IntKind.i64.wrap (((i:Nat):Int)+1)=((i+1:Nat):Int):=zal i (by first|omega|(simp only [zad,Few] at *;omega))
  let p_1:List St:=[sb h0,se (zaf vrow hx rfl),sl [0] (zff x s)]
  cases h1:wid x s
  ·exact (ih (i+1) (by omega) (by exact zco hI hx (by unfold okW;rw [show wid x s=false by assumption];rfl)) (by omega)).elim (fun ⟨qZ,xZ,gZ⟩=>.inl ⟨qZ,xZ,fun R hg=>zaa (wkl (p_1++[sb h1,si hw]) [0,1,7,8] 1 kr (gZ R hg))⟩) (fun ⟨rY,pZ,gZ⟩=>.inr ⟨rY,pZ,zaa (wkl [sb h0,se (zaf vrow hx rfl),sl [0] (zff x s),sb h1,si hw] [0,1,7,8] 1 kr gZ)⟩)
  ·exact .inr ⟨(i:Int),(by exact ⟨by simp,zbG hx (by unfold okW;rw [show wid x s=true by assumption];rfl)⟩),zaa (wkr (p_1++[sb h1]) kr)⟩
theorem zfR (l:List (List V)) (s:Sch) (hl:zad l):∃ (r:Int),decide (0≤r)=!l.all (okW s)∧zab E0 S.slices_IndexFunc_Value [.sl (l.map vrow),.fn S.dml_inserted_c1 [.p 0 0]] [.box s.cells] (iv r) [.box s.cells]:=by
 rcases zds l s zf2 0 zf2 zf2 with ⟨q1,q1_1,g1⟩|⟨r1_0,p1_0,g1⟩
 ·exact ⟨-1,(by first|(have h:=(by assumption:List.all (List.take _ _) _=true);rw [List.take_length] at h;rw [h];rfl)|(have h:=(by assumption:_∧List.all _ _=false);rw [h.1,h.2];rfl)),wkc At.slices_IndexFunc_Value [] [0,1,7,8] 1 kr (g1 _ (zaa (wkr [sb q1_1] kr)))⟩
 ·exact ⟨r1_0,(by first|(have h:=(by assumption:List.all (List.take _ _) _=true);rw [List.take_length] at h;rw [h];rfl)|(have h:=(by assumption:_∧List.all _ _=false);rw [h.1,h.2];rfl)),wkc At.slices_IndexFunc_Value [] [0,1,7,8] 1 kr (g1)⟩
theorem c_cfW (l:List (List V)) (s:Sch) (hl:zad l):∃ (r:Bool),r=!l.all (okW s)∧zab E0 S.slices_ContainsFunc_Value [.sl (l.map vrow),.fn S.dml_inserted_c1 [.p 0 0]] [.box s.cells] (bv r) [.box s.cells]:=by
 obtain ⟨r1,q1,c1⟩:=(zfR l s zf2)
 exact ⟨decide ((0:Int)≤r1),(by assumption),wk At.slices_ContainsFunc_Value [sl [0] c1] kr⟩
theorem zbR (l:List (List V)) (s:Sch) (hl:zad l):zab E0 S.slices_ContainsFunc_Value [.sl (l.map vrow),.fn S.dml_inserted_c1 [.p 0 0]] [.box s.cells] (bv (!l.all (okW s))) [.box s.cells]:=by
 obtain ⟨r,rfl,h⟩:=c_cfW l s hl
 exact h
abbrev PRw (g:Qy→List (List V) × Int) (q:Qy) (frs:List Fr) (tb:List Tb):Prop:=Pure S.evaluate_Rows [q.av,fsl frs,tsl tb] (.tup [.sl ((g q).1.map vrow),iv (g q).2])
def insQ (g:Qy→List (List V) × Int) (s:Sch):List Qy→List (List V)→List (List V) × Int
 | [],acc=>(acc,0)
 | q::r,acc=>bif (g q).2 != 0 then ([],(g q).2) else bif !(g q).1.all (okW s) then ([],5) else insQ g s r (acc++(g q).1)
theorem zrQ {g:Qy→List (List V) × Int} {s:Sch} {l:List Qy} {i:Nat} {x:Qy} {acc a0:List (List V)} (h:insQ g s l a0=insQ g s (l.drop i) acc) (hx:l[i]?=some x) (h1:((g x).2 != 0)=false) (h2:(!(g x).1.all (okW s))=false):insQ g s l a0=insQ g s (l.drop (i+1)) (acc++(g x).1):=by
 obtain ⟨hi,e⟩:=List.getElem?_eq_some_iff.1 hx
 rw [h,List.drop_eq_getElem_cons hi,e]
 simp only [insQ,h1,h2,cond_false]
theorem zoC {g:Qy→List (List V) × Int} {s:Sch} {l:List Qy} {i:Nat} {x:Qy} {acc a0:List (List V)} (h:insQ g s l a0=insQ g s (l.drop i) acc) (hx:l[i]?=some x) (h1:((g x).2 != 0)=true):(g x).2≠0∧insQ g s l a0=([],(g x).2):=by
 obtain ⟨hi,e⟩:=List.getElem?_eq_some_iff.1 hx
 rw [h,List.drop_eq_getElem_cons hi,e]
 exact ⟨by simpa using h1,by simp only [insQ,h1,cond_true]⟩
theorem znV {g:Qy→List (List V) × Int} {s:Sch} {l:List Qy} {i:Nat} {x:Qy} {acc a0:List (List V)} (h:insQ g s l a0=insQ g s (l.drop i) acc) (hx:l[i]?=some x) (h1:((g x).2 != 0)=false) (h2:(!(g x).1.all (okW s))=true):(5:Int)≠0∧insQ g s l a0=([],5):=by
 obtain ⟨hi,e⟩:=List.getElem?_eq_some_iff.1 hx
 rw [h,List.drop_eq_getElem_cons hi,e]
 exact ⟨by omega,by simp only [insQ,h1,h2,cond_true,cond_false]⟩
theorem zsO {g:Qy→List (List V) × Int} {s:Sch} {l:List Qy} {acc a0:List (List V)} (h:insQ g s l a0=insQ g s (l.drop l.length) acc):insQ g s l a0=(acc,0):=by
 rw [h,List.drop_length];rfl
def bndQ (i:Nat):Nat:=1000000+100000 * i
theorem zsh {i k m:Nat} (h:k≤bndQ i) (h2:m≤100000):k+m≤bndQ (i+1):=by unfold bndQ at *;omega
theorem ztI {i k m:Nat} (h:k≤bndQ i) (h2:m≤100000) (hi:i≤1000):k+m≤1000000000:=by unfold bndQ at *;omega
theorem bndQ_0 {k m:Nat} (h:k≤m) (h2:m≤1000000):k≤bndQ 0:=by unfold bndQ;omega
abbrev insA (f:X→V × Int) (s:Sch) (a:Ac):List (List V):=(insL f s.cols.length a.rows []).1
noncomputable def zq2 (a:Ac) (s:Sch) (frs:List Fr) (tb:List Tb) (f:X→V × Int) (g:Qy→List (List V) × Int) (i:Nat) (out:List (List V)):Cfg:=zap B.dml_inserted 2 [(2,fsl frs),(3,tsl tb),(5,.p 1 0),(10,.own 2 out.length),(62,.sl (zag a.query)),(63,iv ((zag a.query).length:Nat)),(64,iv (i:Nat))] [.box a.cells,.box s.cells,.row Ty.LValue (out.map vrow) false]
theorem zf0 (a:Ac) (s:Sch) (frs:List Fr) (tb:List Tb) (f:X→V × Int) (g:Qy→List (List V) × Int) (hf:∀ r∈a.rows,zad r∧∀ x∈r,PEv f x frs tb) (hq:a.query.length≤1000) (hg:∀ q∈a.query,(g q).1.length≤100000∧PRw g q frs tb) (i:Nat) (out:List (List V)) (hi:i≤(a.query).length) (hI:out.length≤bndQ i∧insQ g s a.query (insA f s a)=insQ g s (a.query.drop i) out):(∃ (out':List (List V)),(out'.length≤bndQ (a.query).length∧insQ g s a.query (insA f s a)=insQ g s (a.query.drop (a.query).length) out')∧(decide ((((a.query).length:Nat):Int) < (((zag a.query).length:Nat):Int))=false)∧∀ R,Good E0 B.dml_inserted [] (zq2 a s frs tb f g (a.query).length out') R→Good E0 B.dml_inserted [] (zq2 a s frs tb f g i out) R)∨(∃ (r:List (List V)) (c:Int),(r=[]∧c≠0∧insQ g s a.query (insA f s a)=([],c))∧Good E0 B.dml_inserted [] (zq2 a s frs tb f g i out) (Shut 0 fun rZ hZ=>rZ=(.tup [.sl (r.map vrow),iv c])∧hZ=[])):=by
 obtain ⟨kk,hk⟩:∃ kk,i+kk=(a.query).length:=⟨(a.query).length - i,by omega⟩
 induction kk generalizing i out with
 | zero =>
  have e0:i=(a.query).length:=by omega
  subst e0
  exact .inl ⟨out,hI,by simp,fun R hg=>hg⟩
 | succ kk ih =>
  obtain ⟨x,hx⟩:=zaw (l:=a.query) (i:=i) (by omega)
  have h0:decide (((i:Nat):Int) < (((zag a.query).length:Nat):Int))=true:=by simp;omega
  have hw:IntKind.i64.wrap (((i:Nat):Int)+1)=((i+1:Nat):Int):=zal i (by first|omega|(simp only [zad,Few] at *;omega))
  have hx0:=(hg x (List.mem_of_getElem? hx)).1;have hx1:zad (g x).1:=(by simp only [zad];omega);have hx2:=(hg x (List.mem_of_getElem? hx)).2;have hil:i < a.query.length:=(List.getElem?_eq_some_iff.1 hx).1;have hol:out.length+(g x).1.length≤1000000000:=ztI hI.1 hx0 (by omega)
  cases h1:(g x).snd != 0
  ·cases h2:!(g x).fst.all (okW s)
   ·exact (ih (i+1) (out++(g x).fst) (by omega) (by exact ⟨by rw [List.length_append];exact zsh hI.1 (hg x (List.mem_of_getElem? hx)).1,zrQ hI.2 hx (by assumption) (by assumption)⟩) (by omega)).elim (fun ⟨outZ,qZ,xZ,gZ⟩=>.inl ⟨outZ,qZ,xZ,fun R hg=>zaa (wkl [sb h0,se (zaK hx),sc hx2,sb h1,sl [1] (zbR ((g x).fst) s zf2),sb h2,sqx (AllLen (List.map vrow (g x).fst) 1∧out.length=(List.map vrow out).length∧(((List.map vrow out).length+(List.map vrow (g x).fst).length) * 24).le 140737488355328),si hw] [2,3,5,10,62,63,64] 3 kr (zay (show ([(2,AV.sl (List.map Fr.cells frs)),(3,AV.sl (List.map Tb.cells tb)),(5,AV.p 1 0),(10,AV.own 2 (List.map vrow out++List.map vrow (g x).fst).length),(62,AV.sl (zag a.query)),(63,iv (↑(zag a.query).length:Int)),(64,iv (↑(i+1):Int))]:TS)=_ by first|rfl|(simp;done)|(simp [X.cells,Qy.cells,V.cells,Col.cells,Rw.cells,Tb.cells,Fr.cells,Sch.cells,Tp.cells,Pl.cells,xCol,xLit,xBin,xNeg,Ac.cells,Se.cells,Pr.cells,Ch.cells,Rw.cells];done)) (show ([Blk.box [iv a.kind,sv a.table,AV.sl (List.map (fun r=>[AV.sl (zac r)]) a.rows),AV.sl (zag a.query),AV.sl (List.map Se.cells a.sets),AV.sl (zac a.wh),sv a.text],Blk.box [sv s.name,AV.sl (List.map Col.cells s.cols)],Blk.row Ty.LValue (List.map vrow out++List.map vrow (g x).fst) false]:Heap)=_ by first|rfl|(simp;done)|(simp [X.cells,Qy.cells,V.cells,Col.cells,Rw.cells,Tb.cells,Fr.cells,Sch.cells,Tp.cells,Pl.cells,xCol,xLit,xBin,xNeg,Ac.cells,Se.cells,Pr.cells,Ch.cells,Rw.cells];done)) (gZ R hg)))⟩) (fun ⟨rY,cY,pZ,gZ⟩=>.inr ⟨rY,cY,pZ,zaa (wkl [sb h0,se (zaK hx),sc hx2,sb h1,sl [1] (zbR ((g x).fst) s zf2),sb h2,sqx (AllLen (List.map vrow (g x).fst) 1∧out.length=(List.map vrow out).length∧(((List.map vrow out).length+(List.map vrow (g x).fst).length) * 24).le 140737488355328),si hw] [2,3,5,10,62,63,64] 3 kr (zay (show ([(2,AV.sl (List.map Fr.cells frs)),(3,AV.sl (List.map Tb.cells tb)),(5,AV.p 1 0),(10,AV.own 2 (List.map vrow out++List.map vrow (g x).fst).length),(62,AV.sl (zag a.query)),(63,iv (↑(zag a.query).length:Int)),(64,iv (↑(i+1):Int))]:TS)=_ by first|rfl|(simp;done)|(simp [X.cells,Qy.cells,V.cells,Col.cells,Rw.cells,Tb.cells,Fr.cells,Sch.cells,Tp.cells,Pl.cells,xCol,xLit,xBin,xNeg,Ac.cells,Se.cells,Pr.cells,Ch.cells,Rw.cells];done)) (show ([Blk.box [iv a.kind,sv a.table,AV.sl (List.map (fun r=>[AV.sl (zac r)]) a.rows),AV.sl (zag a.query),AV.sl (List.map Se.cells a.sets),AV.sl (zac a.wh),sv a.text],Blk.box [sv s.name,AV.sl (List.map Col.cells s.cols)],Blk.row Ty.LValue (List.map vrow out++List.map vrow (g x).fst) false]:Heap)=_ by first|rfl|(simp;done)|(simp [X.cells,Qy.cells,V.cells,Col.cells,Rw.cells,Tb.cells,Fr.cells,Sch.cells,Tp.cells,Pl.cells,xCol,xLit,xBin,xNeg,Ac.cells,Se.cells,Pr.cells,Ch.cells,Rw.cells];done)) gZ))⟩)
   ·exact .inr ⟨[],5,(by first|exact ⟨rfl,zoC hI.2 hx (by assumption)⟩|exact ⟨rfl,znV hI.2 hx (by assumption) (by assumption)⟩),zaa (wkr [sb h0,se (zaK hx),sc hx2,sb h1,sl [1] (zbR ((g x).fst) s zf2),sb h2] kr)⟩
  ·exact .inr ⟨[],(g x).snd,(by first|exact ⟨rfl,zoC hI.2 hx (by assumption)⟩|exact ⟨rfl,znV hI.2 hx (by assumption) (by assumption)⟩),zaa (wkr [sb h0,se (zaK hx),sc hx2,sb h1] kr)⟩
def insB (f:X→V × Int) (g:Qy→List (List V) × Int) (s:Sch) (a:Ac):List (List V) × Int :=
 bif (insL f s.cols.length a.rows []).2 != 0 then ([],(insL f s.cols.length a.rows []).2) else insQ g s a.query (insL f s.cols.length a.rows []).1
section
variable {f : X → V × Int} {g : Qy → List (List V) × Int} {s : Sch} {a : Ac} {out1 out2 r : List (List V)} {c : Int}
theorem zlJ (q1:out1.length≤a.rows.length∧insL f s.cols.length a.rows []=insL f s.cols.length (a.rows.drop a.rows.length) out1):insA f s a=out1∧(insL f s.cols.length a.rows []).2=0:=by
 have h:=zt7 q1.2
 unfold insA;rw [h];exact ⟨rfl,rfl⟩
theorem inq0 (q1:out1.length≤a.rows.length∧insL f s.cols.length a.rows []=insL f s.cols.length (a.rows.drop a.rows.length) out1) (hr:a.rows.length≤1000000):out1.length≤bndQ 0∧insQ g s a.query (insA f s a)=insQ g s (a.query.drop 0) out1 :=
 ⟨bndQ_0 q1.1 hr,by rw [(zlJ q1).1];rfl⟩
theorem ztA (q1:out1.length≤a.rows.length∧insL f s.cols.length a.rows []=insL f s.cols.length (a.rows.drop a.rows.length) out1) (q2:out2.length≤bndQ a.query.length∧insQ g s a.query (insA f s a)=insQ g s (a.query.drop a.query.length) out2):(out2,0)=insB f g s a:=by
 have h:=zsO q2.2
 unfold insA at h
 unfold insB;rw [(zlJ q1).2,h];rfl
theorem insB_q (q1:out1.length≤a.rows.length∧insL f s.cols.length a.rows []=insL f s.cols.length (a.rows.drop a.rows.length) out1) (h:r=[]∧c≠0∧insQ g s a.query (insA f s a)=([],c)):(r,c)=insB f g s a:=by
 obtain ⟨h1,h2,h3⟩:=h
 unfold insA at h3
 unfold insB;rw [(zlJ q1).2,h3,h1];rfl
theorem insB_l (h:r=[]∧c≠0∧insL f s.cols.length a.rows []=([],c)):(r,c)=insB f g s a:=by
 obtain ⟨h1,h2,h3⟩:=h
 have h4:(c != 0)=true:=by simpa using h2
 unfold insB;rw [h3,h1];simp only [h4,cond_true]
end
theorem zlL (a:Ac) (s:Sch) (frs:List Fr) (tb:List Tb) (f:X→V × Int) (g:Qy→List (List V) × Int) (hs:zad s.cols) (hr:a.rows.length≤1000000) (hf:∀ r∈a.rows,zad r∧∀ x∈r,PEv f x frs tb) (hq:a.query.length≤1000) (hg:∀ q∈a.query,(g q).1.length≤100000∧PRw g q frs tb):∃ (r:List (List V)) (c:Int),(r,c)=insB f g s a∧zab E0 S.dml_inserted [a.av,s.av,fsl frs,tsl tb] [] (.tup [.sl (r.map vrow),iv c]) []:=by
 rcases zfY a s frs tb f zge zge hf 0 ([]) zge zge with ⟨out1,q1,q1_1,g1⟩|⟨r1_0,r1_1,p1_0,g1⟩
 ·rcases zf0 a s frs tb f g hf zge hg 0 out1 zge zge with ⟨out2,q2,q2_1,g2⟩|⟨r2_0,r2_1,p2_0,g2⟩
  ·exact ⟨out2,0,znK,wkcN At.dml_inserted [] [2,3,4,5,10,23,24,25] 2 [(.ot 10 Ty.LValue,3)] kr (g1 _ (zaa (wkl [sb q1_1] [2,3,5,10,62,63,64] 3 kr (g2 _ (zaa (wkr [sqx (out2.length=(List.map vrow out2).length∧True∧True),sb q2_1] kr))))))⟩
  ·exact ⟨r2_0,r2_1,znK,wkcN At.dml_inserted [] [2,3,4,5,10,23,24,25] 2 [(.ot 10 Ty.LValue,3)] kr (g1 _ (zaa (wkl [sb q1_1] [2,3,5,10,62,63,64] 3 kr g2)))⟩
 ·exact ⟨r1_0,r1_1,znK,wkcN At.dml_inserted [] [2,3,4,5,10,23,24,25] 2 [(.ot 10 Ty.LValue,3)] kr (g1)⟩
theorem zl5 (a:Ac) (s:Sch) (frs:List Fr) (tb:List Tb) (f:X→V × Int) (g:Qy→List (List V) × Int) (hs:zad s.cols) (hr:a.rows.length≤1000000) (hf:∀ r∈a.rows,zad r∧∀ x∈r,PEv f x frs tb) (hq:a.query.length≤1000) (hg:∀ q∈a.query,(g q).1.length≤100000∧PRw g q frs tb):zab E0 S.dml_inserted [a.av,s.av,fsl frs,tsl tb] [] (.tup [.sl ((insB f g s a).1.map vrow),iv (insB f g s a).2]) []:=by
 obtain ⟨r,c,h,h2⟩:=zlL a s frs tb f g hs hr hf hq hg
 rw [← h];exact h2
def zmW (ib:List (List V) × Int) (a:Ac):Ch × Int :=
 bif ib.snd != 0 then
  (Ch.mk [] [] [],ib.snd)
 else
  (Ch.mk ib.fst [] [],0)
theorem zij (ib:List (List V) × Int) (a:Ac) (s:Sch) (frs:List Fr) (tb:List Tb) (hk1:(a.kind==1)=true) (hv:zab E0 S.dml_target [a.av,tsl tb] [] (.tup [s.av,iv 0]) []) (hi:Pure S.dml_inserted [a.av,s.av,fsl frs,tsl tb] (.tup [.sl (ib.1.map vrow),iv ib.2])):zab E0 S.dml_Candidates [a.av,fsl frs,tsl tb] [] (.tup [(zmW ib a).1.av,iv (zmW ib a).2]) []:=by
 unfold zmW
 let p_1:List St:=[sc hv,sb (rfl:false=false),sb hk1,sc hi]
 cases h1:ib.snd != 0
 ·exact wk At.dml_Candidates (p_1++[sb h1]) kr
 ·exact wk At.dml_Candidates (p_1++[sb h1]) kr
end Go.AM
namespace Go.AM
set_option maxRecDepth 100000
set_option maxHeartbeats 1000000
set_option linter.unusedSimpArgs false
set_option linter.unusedVariables false
theorem ziD {p:Prop} (h:p:=by first|exact (zms s (by assumption)).symm|exact (zkQ s (by assumption)).symm|exact (zsb (by assumption) (by assumption)).symm|exact zsq (by assumption) (by assumption) (by assumption) (by assumption) (by assumption)|(have h:=(by assumption:_∧List.all _ okC=false);rw [zmd h.2];exact h.1)):p:=h
theorem zoo {p:Prop} (h:p:=by exact zco hI (zjo (by assumption)) (by first|exact ztQ (by assumption)|exact zuf (by assumption)|exact ztP (by assumption))):p:=h
theorem zjo {s:Str} {i:Nat} {c:UInt8} (h:ByteAt s ((i:Nat):Int) ((c.toNat:Nat):Int)):s.data.toList[i]?=some c:=by
 obtain ⟨_,h1⟩:=h
 rw [Option.map_eq_some_iff] at h1
 obtain ⟨b,hb,e⟩:=h1
 have hc:b=c:=UInt8.toNat_inj.1 (by omega)
 subst hc
 have hb2:s[i]?=some b:=by simpa using hb
 by_cases h:i < s.size
 ·rw [getElem?_pos s i h,Option.some.injEq] at hb2
  have h2:i < s.data.size:=h
  rw [Array.getElem?_toList,Array.getElem?_eq_getElem h2]
  exact congrArg some hb2
 ·rw [getElem?_neg s i h] at hb2;simp at hb2
def letR (c:Int):Bool:=bif decide (97≤c) then decide (c≤122) else false
def digR (c:Int):Bool:=bif decide (48≤c) then decide (c≤57) else false
theorem zmT (c:Int) :∃ (r:Bool),r=letR c∧zab E0 S.ref4_Letter [.v (.int .u8 c)] [] (bv r) []:=by
 cases h1:decide (97≤c)
 ·exact ⟨false,(by (simp only [letR,cond_true,cond_false, *])),wk At.ref4_Letter [sb h1] kr⟩
 ·exact ⟨decide (c≤(122:Int)),(by (simp only [letR,cond_true,cond_false, *])),wk At.ref4_Letter [sg h1] kr⟩
theorem zfa (c:Int):zab E0 S.ref4_Letter [.v (.int .u8 c)] [] (bv (letR c)) []:=by
 obtain ⟨r,rfl,h⟩:=zmT c
 exact h
theorem znC (c:Int) :∃ (r:Bool),r=digR c∧zab E0 S.ref4_Digit [.v (.int .u8 c)] [] (bv r) []:=by
 cases h1:decide (48≤c)
 ·exact ⟨false,(by (simp only [digR,cond_true,cond_false, *])),wk At.ref4_Digit [sb h1] kr⟩
 ·exact ⟨decide (c≤(57:Int)),(by (simp only [digR,cond_true,cond_false, *])),wk At.ref4_Digit [sg h1] kr⟩
theorem ziT (c:Int):zab E0 S.ref4_Digit [.v (.int .u8 c)] [] (bv (digR c)) []:=by
 obtain ⟨r,rfl,h⟩:=znC c
 exact h
theorem ztQ {c:UInt8} (h:(!letR ((c.toNat:Nat):Int))=false):okC c=true:=by
 simp only [letR,okC] at *;cases h1:decide (97≤((c.toNat:Nat):Int)) <;> simp_all
theorem zuf {c:UInt8} (h:(!digR ((c.toNat:Nat):Int))=false):okC c=true:=by
 simp only [digR,okC] at *;cases h1:decide (48≤((c.toNat:Nat):Int)) <;> simp_all
theorem ztP {c:UInt8} (h:(((c.toNat:Nat):Int) != 95)=false):okC c=true:=by
 simp only [okC];simp at h;simp [h]
theorem okC_no {c:UInt8} (h1:(!letR ((c.toNat:Nat):Int))=true) (h2:(!digR ((c.toNat:Nat):Int))=true) (h3:(((c.toNat:Nat):Int) != 95)=true):okC c=false:=by
 simp only [letR,digR,okC] at *
 cases h4:decide (97≤((c.toNat:Nat):Int)) <;> cases h5:decide (48≤((c.toNat:Nat):Int)) <;> simp_all
noncomputable def zqp (s:Str) (i:Nat) :Cfg:=zap B.ref4_ValidName 0 [(0,sv s),(3,iv (i:Nat))] []
theorem ze8 (s:Str) (hs:decide ((12:Int) < ((s.size:Nat):Int))=false) (i:Nat)  (hi:i≤(s.size)) (hI:(s.data.toList.take i).all okC=true):(((s.data.toList.take s.size).all okC=true)∧(decide ((((s.size):Nat):Int) < (((s.size):Nat):Int))=false)∧∀ R,Good E0 B.ref4_ValidName [] (zqp s s.size ) R→Good E0 B.ref4_ValidName [] (zqp s i ) R)∨(∃ (r:Bool),(r=false∧s.data.toList.all okC=false)∧Good E0 B.ref4_ValidName [] (zqp s i ) (Shut 0 fun rZ hZ=>rZ=(bv r)∧hZ=[])):=by
 obtain ⟨kk,hk⟩:∃ kk,i+kk=(s.size):=⟨(s.size) - i,by omega⟩
 induction kk generalizing i  with
 | zero =>
  have e0:i=(s.size):=by omega
  subst e0
  exact .inl ⟨hI,by simp,fun R hg=>hg⟩
 | succ kk ih =>
  have h0:decide (((i:Nat):Int) < (((s.size):Nat):Int))=true:=by simp;omega
  have hw:IntKind.i64.wrap (((i:Nat):Int)+1)=((i+1:Nat):Int):=zal i (by (simp only [decide_eq_false_iff_not] at hs;omega))
  obtain ⟨c1,b1⟩:=zlc (s:=s) (i:=(i:Int)) (by first|omega|(simp only [decide_eq_false_iff_not,decide_eq_true_eq] at *;omega))
  let p_1:List St:=[sb h0,sy b1,sc (zfa ((c1.toNat:Int)))]
  let p_2:List St:=[sb h0,sy b1,sc (zfa ((c1.toNat:Int)))]
  cases h2:!letR (c1.toNat:Int)
  ·exact (ih (i+1) (by omega) zoo (by omega)).elim (fun ⟨qZ,xZ,gZ⟩=>.inl ⟨qZ,xZ,fun R hg=>zaa (wkl (p_1++[sb h2,si hw]) [0,3] 0 kr (gZ R hg))⟩) (fun ⟨rY,pZ,gZ⟩=>.inr ⟨rY,pZ,zaa (wkl (p_2++[sb h2,si hw]) [0,3] 0 kr gZ)⟩)
  ·let p_3:List St:=p_1++[sg h2,sy b1,sc (ziT ((c1.toNat:Int)))]
   let p_4:List St:=p_2++[sg h2,sy b1,sc (ziT ((c1.toNat:Int)))]
   cases h3:!digR (c1.toNat:Int)
   ·exact (ih (i+1) (by omega) zoo (by omega)).elim (fun ⟨qZ,xZ,gZ⟩=>.inl ⟨qZ,xZ,fun R hg=>zaa (wkl (p_3++[sb h3,si hw]) [0,3] 0 kr (gZ R hg))⟩) (fun ⟨rY,pZ,gZ⟩=>.inr ⟨rY,pZ,zaa (wkl (p_4++[sb h3,si hw]) [0,3] 0 kr gZ)⟩)
   ·cases h4:(c1.toNat:Int) != 95
    ·exact (ih (i+1) (by omega) zoo (by omega)).elim (fun ⟨qZ,xZ,gZ⟩=>.inl ⟨qZ,xZ,fun R hg=>zaa (wkl (p_3++[sg h3,sy b1,sb h4,si hw]) [0,3] 0 kr (gZ R hg))⟩) (fun ⟨rY,pZ,gZ⟩=>.inr ⟨rY,pZ,zaa (wkl (p_4++[sg h3,sy b1,sb h4,si hw]) [0,3] 0 kr gZ)⟩)
    ·exact .inr ⟨false,(by exact ⟨rfl,zbG (zjo (by assumption)) (okC_no (by assumption) (by assumption) (by assumption))⟩),zaa (wkr (p_3++[sg h3,sy b1,sb h4]) kr)⟩
theorem zsb {s:Str} {c:UInt8} (h:ByteAt s 0 ((c.toNat:Nat):Int)) (h1:(!letR ((c.toNat:Nat):Int))=true):zaS s=false:=by
 have e:=zlf h
 cases hv:zaS s
 ·rfl
 ·exfalso
  simp only [zaS,Bool.and_eq_true,decide_eq_true_eq] at hv
  obtain ⟨⟨⟨a1,a2⟩,a3⟩,a4⟩:=hv
  rw [e] at a3
  have a5:okC c=true:=by
   rw [List.all_eq_true] at a4
   apply a4
   rw [← e]
   have:s.data.toList.getD 0 0=s.data.toList[0]'(by omega):=by rw [List.getD_eq_getElem?_getD,List.getElem?_eq_getElem (by omega)];rfl
   rw [this];exact List.getElem_mem _
  simp only [letR,okC] at *
  cases h4:decide (97≤((c.toNat:Nat):Int)) <;> simp_all <;> omega
theorem zsq {s:Str} {c:UInt8} (h1:decide (((s.size:Nat):Int) < 1)=false) (h2:decide ((12:Int) < ((s.size:Nat):Int))=false) (h:ByteAt s 0 ((c.toNat:Nat):Int)) (h3:(!letR ((c.toNat:Nat):Int))=false) (h4:(s.data.toList.take s.size).all okC=true):true=zaS s:=by
 have e1:=zlf h
 rw [zf3] at h1 h2 h4
 rw [List.take_length] at h4
 have h5:97≤c.toNat:=by
  simp only [letR] at h3
  cases h6:decide (97≤((c.toNat:Nat):Int))
  ·rw [h6] at h3;simp at h3
  ·simp only [decide_eq_true_eq] at h6;omega
 simp only [decide_eq_false_iff_not] at h1 h2
 have a1:decide (1≤s.data.toList.length)=true:=by simp only [decide_eq_true_eq];omega
 have a2:decide (s.data.toList.length≤12)=true:=by simp only [decide_eq_true_eq];omega
 have a3:decide (97≤(s.data.toList.getD 0 0).toNat)=true:=by simp only [decide_eq_true_eq];rw [e1];exact h5
 simp only [zaS,a1,a2,a3,h4,Bool.and_true]
theorem zkj (s:Str) :∃ (r:Bool),r=zaS s∧zab E0 S.ref4_ValidName [sv s] [] (bv r) []:=by
 cases h1:decide ((↑(ByteArray.size s):Int) < 1)
 ·cases h2:decide (12 < (↑(ByteArray.size s):Int))
  ·obtain ⟨c3,b3⟩:=zlc (s:=s) (i:=(0:Int)) (by first|omega|(simp only [decide_eq_false_iff_not,decide_eq_true_eq] at *;omega))
   let p_1:List St:=[sg h1,sg h2,sy b3,sc (zfa ((c3.toNat:Int)))]
   cases h4:!letR (c3.toNat:Int)
   ·rcases ze8 s (by first|assumption|omega|(simp;done)|(simp;omega)) 0 (by first|assumption|omega|(simp;done)|(simp;omega)) (by first|assumption|omega|(simp;done)|(simp;omega)) with ⟨q5,q5_1,g5⟩|⟨r5_0,p5_0,g5⟩
    ·exact ⟨true,ziD,wkc At.ref4_ValidName (p_1++[sb h4]) [0,3] 0 kr (g5 _ (zaa (wkr [sb q5_1] kr)))⟩
    ·exact ⟨r5_0,ziD,wkc At.ref4_ValidName (p_1++[sb h4]) [0,3] 0 kr (g5)⟩
   ·exact ⟨false,ziD,wk At.ref4_ValidName (p_1++[sb h4]) kr⟩
  ·exact ⟨false,ziD,wk At.ref4_ValidName [sg h1,sb h2] kr⟩
 ·exact ⟨false,ziD,wk At.ref4_ValidName [sb h1] kr⟩
theorem zen (s:Str):zab E0 S.ref4_ValidName [sv s] [] (bv (zaS s)) []:=by
 obtain ⟨r,rfl,h⟩:=zkj s
 exact h
end Go.AM
namespace Go.AM
set_option maxRecDepth 100000
set_option maxHeartbeats 1000000
set_option linter.unusedSimpArgs false
set_option linter.unusedVariables false
def keyL:List Col→Nat→Int→Int
 | [],_,k=>k
 | c::r,i,k=>keyL r (i+1) (bif c.key then (i:Int) else k)
abbrev keyC (s:Sch):Int:=keyL s.cols 0 (-1)
theorem zmA {l:List Col} {i:Nat} {k:Int} {x:Col} {z:Int} (h:z=keyL (l.drop i) i k) (hx:l[i]?=some x):z=keyL (l.drop (i+1)) (i+1) (bif x.key then (i:Int) else k):=by
 obtain ⟨hi,e⟩:=List.getElem?_eq_some_iff.1 hx
 rw [h,List.drop_eq_getElem_cons hi,e];rfl
theorem zlx {l:List Col} {i:Nat} {k:Int} {x:Col} {z:Int} (h:z=keyL (l.drop i) i k) (hx:l[i]?=some x) (hk:x.key=true):z=keyL (l.drop (i+1)) (i+1) (i:Int):=by
 have:=zmA h hx;rwa [hk] at this
theorem zlh {l:List Col} {i:Nat} {k:Int} {x:Col} {z:Int} (h:z=keyL (l.drop i) i k) (hx:l[i]?=some x) (hk:x.key=false):z=keyL (l.drop (i+1)) (i+1) k:=by
 have:=zmA h hx;rwa [hk] at this
theorem zch {l:List Col} {k:Int} {z:Int} (h:z=keyL (l.drop l.length) l.length k):k=z:=by
 rw [List.drop_length] at h;exact h.symm
structure RowsV (s:Sch) (next:Int) (rows:List Rw):Prop where
 fit:zf7 s rows
 asc:rows.Pairwise fun a b=>a.id < b.id
 ids:∀ r∈rows,1≤r.id∧r.id < next
 keys:0≤keyC s→rows.Pairwise fun a b=>zaB a.vals (keyC s)≠zaB b.vals (keyC s)
 pos:1≤next
theorem RowsV.nil {s:Sch} {next:Int} (h:1≤next):RowsV s next []:=⟨fun _ h=>(by cases h),.nil,fun _ h=>(by cases h),fun _=>.nil,h⟩
theorem RowsV.more {s:Sch} {next m:Int} {rows:List Rw} (h:RowsV s next rows) (hm:next≤m):RowsV s m rows:=⟨h.fit,h.asc,fun r hr=>⟨(h.ids r hr).1,by have:=(h.ids r hr).2;omega⟩,h.keys,by have:=h.pos;omega⟩
theorem RowsV.push {s:Sch} {next m:Int} {rows:List Rw} {v:List V} (h:RowsV s next rows) (hv:zcB s.cols v) (hf:∀ r∈rows,keyC s < 0∨zaB r.vals (keyC s)≠zaB v (keyC s)) (hm:next < m):RowsV s m (rows++[⟨next,v⟩]):=by
 refine ⟨h.fit.push hv,?_,?_,?_,by have:=h.pos;omega⟩
 ·rw [List.pairwise_append];exact ⟨h.asc,by simp,fun a ha b hb=>by simp only [List.mem_singleton] at hb;subst hb;exact (h.ids a ha).2⟩
 ·intro r hr
  rcases List.mem_append.1 hr with hr|hr
  ·have:=h.ids r hr;omega
  ·simp only [List.mem_singleton] at hr;subst hr;have:=h.pos;simp only;omega
 ·intro hk
  rw [List.pairwise_append];exact ⟨h.keys hk,by simp,fun a ha b hb=>by simp only [List.mem_singleton] at hb;subst hb;exact (hf a ha).resolve_left (by omega)⟩
theorem veq_of {a b:V} (h:(!(a.kind==b.kind&&(a.int==b.int&&(a.text==b.text&&true))))=true):a≠b:=by
 rintro rfl;simp at h
def zbW (key:Int) (rv:List V) (rows:List Rw):Prop:=∀ r∈rows,key < 0∨zaB r.vals key≠zaB rv key
theorem zbW.step {key:Int} {rv:List V} {rows:List Rw} {i:Nat} {x:Rw} {f g:Bool} (h:f=true→zbW key rv (rows.take i)) (hx:rows[i]?=some x) (hg:g=true→f=true∧(key < 0∨zaB x.vals key≠zaB rv key)):g=true→zbW key rv (rows.take (i+1)):=by
 intro hg1 r hr
 rw [List.take_add_one,hx] at hr
 rcases List.mem_append.1 hr with hr|hr
 ·exact h (hg hg1).1 r hr
 ·simp at hr;subst hr;exact (hg hg1).2
theorem zjh {key:Int} {rv xv:List V} {f:Bool} (h2:decide (key < 0)=false) (hg:(bif f then bif decide (key < 0) then true else !((zaB xv key).kind==(zaB rv key).kind&&((zaB xv key).int==(zaB rv key).int&&((zaB xv key).text==(zaB rv key).text&&true))) else false)=true):f=true∧(key < 0∨zaB xv key≠zaB rv key):=by
 cases f
 ·simp at hg
 ·refine ⟨rfl,.inr (veq_of ?_)⟩;rw [h2] at hg;simpa using hg
theorem znI {key:Int} {P:Prop} {f:Bool} (h2:decide (key < 0)=true) (hg:(bif f then true else false)=true):f=true∧(key < 0∨P):=by
 cases f
 ·simp at hg
 ·exact ⟨rfl,.inl (by simpa using h2)⟩
theorem zqf {n:Int} {a b:Nat} (ha:(a:Int) < 2) (hb:(b:Int) < 2) (hn:1≤n∧n≤1000000):n < IntKind.i64.wrap (n+IntKind.i64.wrap (1+IntKind.i64.wrap ((a:Int) * (b:Int))))∧IntKind.i64.wrap (n+IntKind.i64.wrap (1+IntKind.i64.wrap ((a:Int) * (b:Int))))≤n+2:=by
 have e:(a:Int) * (b:Int)=0∨(a:Int) * (b:Int)=1:=by
  have:a=0∨a=1:=by omega
  have:b=0∨b=1:=by omega
  rcases ‹a=0∨a=1› with rfl|rfl <;> rcases ‹b=0∨b=1› with rfl|rfl <;> simp
 rcases e with e|e <;> rw [e] <;> simp only [IntKind.wrap_i64] <;> omega
noncomputable def L_tvK (t0:Tp) (s:Sch) (n:Int) (u:Tp) (next:Int) (i:Nat) (key:Int):Cfg:=zap B.world_Tape_TableOf 0 [(0,.p 0 0),(2,iv n),(4,.p 1 0),(6,.p 2 0),(7,.p 3 0),(8,iv key),(22,.sl (s.cols.map Col.cells)),(23,iv ((s.cols.map Col.cells).length:Nat)),(24,iv (i:Nat))] [.box u.cells,.box s.cells,.box zT,.box [sv s.name,.sl (s.cols.map Col.cells),iv next,.nl]]
theorem zef (t0:Tp) (s:Sch) (n:Int) (u:Tp) (next:Int) (hs:Few s.cols) (i:Nat) (key:Int) (hi:i≤(s.cols).length) (hI:key < (i:Int)∧keyC s=keyL (s.cols.drop i) i key):∃ (key':Int),(key' < ((s.cols).length:Int)∧keyC s=keyL (s.cols.drop (s.cols).length) (s.cols).length key')∧(decide ((((s.cols).length:Nat):Int) < (((s.cols.map Col.cells).length:Nat):Int))=false)∧∀ R,Good E0 B.world_Tape_TableOf [.box t0.cells] (L_tvK t0 s n u next (s.cols).length key') R→Good E0 B.world_Tape_TableOf [.box t0.cells] (L_tvK t0 s n u next i key) R:=by
 obtain ⟨kk,hk⟩:∃ kk,i+kk=(s.cols).length:=⟨(s.cols).length - i,by omega⟩
 induction kk generalizing i key with
 | zero =>
  have e0:i=(s.cols).length:=by omega
  subst e0
  exact ⟨key,hI,by simp,fun R hg=>hg⟩
 | succ kk ih =>
  obtain ⟨x,hx⟩:=zaw (l:=s.cols) (i:=i) (by omega)
  have h0:decide (((i:Nat):Int) < (((s.cols.map Col.cells).length:Nat):Int))=true:=by simp;omega
  have hw:IntKind.i64.wrap (((i:Nat):Int)+1)=((i+1:Nat):Int):=zal i (by first|omega|(simp only [zad,Few] at *;omega))
  let p_1:List St:=[sb h0,se (zaf Col.cells hx rfl)]
  cases h1:x.key
  ·obtain ⟨keyZ,qZ,xZ,gZ⟩:=ih (i+1) key (by omega) (by first|exact ⟨by omega,zlx hI.2 hx (by assumption)⟩|exact ⟨by omega,zlh hI.2 hx (by assumption)⟩) (by omega);exact ⟨keyZ,qZ,xZ,fun R hg=>zaa (wkl (p_1++[sb h1,si hw]) [0,2,4,6,7,8,22,23,24] 4 kr (gZ R hg))⟩
  ·obtain ⟨keyZ,qZ,xZ,gZ⟩:=ih (i+1) ((i:Int)) (by omega) (by first|exact ⟨by omega,zlx hI.2 hx (by assumption)⟩|exact ⟨by omega,zlh hI.2 hx (by assumption)⟩) (by omega);exact ⟨keyZ,qZ,xZ,fun R hg=>zaa (wkl (p_1++[sb h1,si hw]) [0,2,4,6,7,8,22,23,24] 4 kr (gZ R hg))⟩
noncomputable def L_tvR (t0:Tp) (s:Sch) (key:Int) (k:Nat) (u:Tp) (next:Int) (rows:List Rw):Cfg:=zap B.world_Tape_TableOf 1 [(0,.p 0 0),(4,.p 1 0),(6,.p 2 0),(7,.p 3 0),(8,iv key),(11,iv (k:Nat))] [.box u.cells,.box s.cells,.box zT,.box [sv s.name,.sl (s.cols.map Col.cells),iv next,.own 4 rows.length],.row Ty.Row (rows.map Rw.cells) false]
noncomputable def L_tvI (t0:Tp) (s:Sch) (key:Int) (k:Nat) (u:Tp) (next:Int) (rows:List Rw) (rv:List V) (i:Nat) (fresh:Bool):Cfg:=zap B.world_Tape_TableOf 2 [(0,.p 0 0),(4,.p 1 0),(6,.p 2 0),(7,.p 3 0),(8,iv key),(11,iv (k+1:Nat)),(12,vsl rv),(13,bv fresh),(45,.own 4 rows.length),(46,iv (rows.length:Nat)),(47,iv (i:Nat))] [.box u.cells,.box s.cells,.box zT,.box [sv s.name,.sl (s.cols.map Col.cells),iv next,.own 4 rows.length],.row Ty.Row (rows.map Rw.cells) false]
theorem zd9 (t0:Tp) (s:Sch) (key:Int) (k:Nat) (u:Tp) (next:Int) (rows:List Rw) (rv:List V) (hko:zdl s.cols.length key) (hr:Few rows) (hrs:zf7 s rows) (hrv:zcB s.cols rv) (i:Nat) (fresh:Bool) (hi:i≤(rows).length) (hI:fresh=true→zbW key rv (rows.take i)):∃ (fresh':Bool),(fresh'=true→zbW key rv (rows.take (rows).length))∧(decide ((((rows).length:Nat):Int) < (((rows).length:Nat):Int))=false)∧∀ R,Good E0 B.world_Tape_TableOf [.box t0.cells] (L_tvI t0 s key k u next rows rv (rows).length fresh') R→Good E0 B.world_Tape_TableOf [.box t0.cells] (L_tvI t0 s key k u next rows rv i fresh) R:=by
 obtain ⟨kk,hk⟩:∃ kk,i+kk=(rows).length:=⟨(rows).length - i,by omega⟩
 induction kk generalizing i fresh with
 | zero =>
  have e0:i=(rows).length:=by omega
  subst e0
  exact ⟨fresh,hI,by simp,fun R hg=>hg⟩
 | succ kk ih =>
  obtain ⟨x,hx⟩:=zaw (l:=rows) (i:=i) (by omega)
  have h0:decide (((i:Nat):Int) < (((rows).length:Nat):Int))=true:=by simp;omega
  have hw:IntKind.i64.wrap (((i:Nat):Int)+1)=((i+1:Nat):Int):=zal i (by first|omega|(simp only [zad,Few] at *;omega))
  have hvl:=hrv.len;have hxl:=hrs.len hx;have ho:OwnAt (rows.map Rw.cells) rows.length ((i:Nat):Int):=⟨by simp,by omega,by have:=zc3 hx;simp;omega⟩
  let p_1:List St:=[sb h0,sqx (OwnAt (List.map Rw.cells rows) rows.length (i:Int)),sx (.el x.cells) (zgl Rw.cells (n:=rows.length) (by simp) hx)]
  rcases (Bool.eq_false_or_eq_true fresh).symm with h1|h1
  ·obtain ⟨freshZ,qZ,xZ,gZ⟩:=ih (i+1) false (by omega) (by first|exact zbW.step hI hx (fun h=>by cases h)|exact zbW.step hI hx (zjh (by assumption))|exact zbW.step hI hx (znI (by assumption))) (by omega);exact ⟨freshZ,qZ,xZ,fun R hg=>zaa (wklN (p_1++[sd [(2,[sb h1]),(3,[sb h1]),(4,[sb h1]),(15,[sb h1]),(16,[sb h1])],si hw]) [0,4,6,7,8,11,12,13,45,46,47] 5 [(.bl 13,5)] kr (gZ R hg))⟩
  ·cases h2:decide (key < 0)
   ·obtain ⟨freshZ,qZ,xZ,gZ⟩:=ih (i+1) (bif fresh then bif decide (key < 0) then true else !((zaB x.vals key).kind==(zaB rv key).kind&&((zaB x.vals key).int==(zaB rv key).int&&((zaB x.vals key).text==(zaB rv key).text&&true))) else false) (by omega) (by first|exact zbW.step hI hx (fun h=>by cases h)|exact zbW.step hI hx (zjh (by assumption))|exact zbW.step hI hx (znI (by assumption))) (by omega);exact ⟨freshZ,qZ,xZ,fun R hg=>zaa (wkl (p_1++[sd [(2,[sg h1]),(3,[sg h1]),(4,[sg h1]),(5,[sg h2]),(6,[sg h2]),(7,[sg h2]),(8,[so h2 (se (zdv x.vals key (by first|assumption|(have hk':key < (s.cols.length:Int):=hko;omega)) (by first|assumption|(have hk':key < (s.cols.length:Int):=hko;omega))))]),(9,[sg h2]),(10,[sg h2]),(11,[sg h2]),(12,[so h2 (se (zdv rv key (by first|assumption|(have hk':key < (s.cols.length:Int):=hko;omega)) (by first|assumption|(have hk':key < (s.cols.length:Int):=hko;omega))))]),(13,[sg h2]),(14,[so h2 (sq zbu)]),(15,[sg h1])],si hw]) [0,4,6,7,8,11,12,13,45,46,47] 5 kr (gZ R hg))⟩
   ·obtain ⟨freshZ,qZ,xZ,gZ⟩:=ih (i+1) (bif fresh then true else false) (by omega) (by first|exact zbW.step hI hx (fun h=>by cases h)|exact zbW.step hI hx (zjh (by assumption))|exact zbW.step hI hx (znI (by assumption))) (by omega);exact ⟨freshZ,qZ,xZ,fun R hg=>zaa (wkl (p_1++[sd [(2,[sg h1]),(3,[sg h1]),(4,[sg h1]),(5,[sb h2]),(6,[sb h2]),(7,[sb h2]),(8,[sb h2]),(9,[sb h2]),(10,[sb h2]),(11,[sb h2]),(12,[sb h2]),(13,[sb h2]),(14,[sb h2]),(15,[so h1 (sb h2)])],si hw]) [0,4,6,7,8,11,12,13,45,46,47] 5 kr (gZ R hg))⟩
theorem zqu {s:Sch} {key:Int} {rv:List V} {rows:List Rw} (hk:key=keyC s) (h:zbW key rv (rows.take rows.length)):∀ r∈rows,keyC s < 0∨zaB r.vals (keyC s)≠zaB rv (keyC s):=by
 subst hk;rw [List.take_length] at h;exact h
theorem zp5 {s:Sch} {next n:Int} {rows:List Rw} {k a b:Nat} (hI:((rows.length+(k+1):Nat):Int)≤n∧RowsV s next rows∧next+2 * ((k+1:Nat):Int)≤3000) (ha:(a:Int) < 2) (hb:(b:Int) < 2):((rows.length+k:Nat):Int)≤n∧RowsV s (IntKind.i64.wrap (next+IntKind.i64.wrap (1+IntKind.i64.wrap ((a:Int) * (b:Int))))) rows∧IntKind.i64.wrap (next+IntKind.i64.wrap (1+IntKind.i64.wrap ((a:Int) * (b:Int))))+2 * ((k:Nat):Int)≤3000:=by
 have h:=zqf (n:=next) ha hb ⟨hI.2.1.pos,by omega⟩
 exact ⟨by omega,hI.2.1.more (by omega),by omega⟩
theorem zpG {s:Sch} {key next n:Int} {rows:List Rw} {v:List V} {k a b:Nat} (hI:((rows.length+(k+1):Nat):Int)≤n∧RowsV s next rows∧next+2 * ((k+1:Nat):Int)≤3000) (hkc:key=keyC s) (hv:zcB s.cols v) (hf:zbW key v (rows.take rows.length)) (ha:(a:Int) < 2) (hb:(b:Int) < 2):(((rows++[Rw.mk next v]).length+k:Nat):Int)≤n∧RowsV s (IntKind.i64.wrap (next+IntKind.i64.wrap (1+IntKind.i64.wrap ((a:Int) * (b:Int))))) (rows++[⟨next,v⟩])∧IntKind.i64.wrap (next+IntKind.i64.wrap (1+IntKind.i64.wrap ((a:Int) * (b:Int))))+2 * ((k:Nat):Int)≤3000:=by
 have h:=zqf (n:=next) ha hb ⟨hI.2.1.pos,by omega⟩
 exact ⟨by simp;omega,hI.2.1.push hv (zqu hkc hf) (by omega),by omega⟩
theorem zej (t0:Tp) (s:Sch) (key:Int) (n:Int) (hn9:n≤900) (hk:zdl s.cols.length key) (hkc:key=keyC s) (hs:SchOk s) (k:Nat) (u:Tp) (next:Int) (rows:List Rw) (hi:k≤1000000000) (hI:((rows.length+k:Nat):Int)≤n∧RowsV s next rows∧next+2 * (k:Int)≤3000):∃ (u':Tp) (next':Int) (rows':List Rw),(((rows'.length+0:Nat):Int)≤n∧RowsV s next' rows'∧next'+2 * (0:Int)≤3000)∧(decide ((0:Int) < ((0:Nat):Int))=false)∧∀ R,Good E0 B.world_Tape_TableOf [.box t0.cells] (L_tvR t0 s key 0 u' next' rows') R→Good E0 B.world_Tape_TableOf [.box t0.cells] (L_tvR t0 s key k u next rows) R:=by
 induction k generalizing u next rows with
 | zero=>exact ⟨u,next,rows,hI,by decide,fun R hg=>hg⟩
 | succ k ih =>
  have h0:decide ((0:Int) < (((k+1):Nat):Int))=true:=by first|(simp;done)|(simp;omega)
  have hw:IntKind.i64.wrap (((k+1:Nat):Int) - 1)=((k:Nat):Int):=ziU k (by omega)
  have hR:=hI.2.1.fit;have hsh:=hs.short;have hco:=hs.cols;have hfw:Few rows:=by simp only [Few];omega
  obtain ⟨r1,t1,q1,c1⟩:=(zkD u s (by first|assumption|trivial|omega|exact (fun _ r hr=>absurd hr (by simp))|(simp;done)) (by first|assumption|trivial|omega|exact (fun _ r hr=>absurd hr (by simp))|(simp;done)))
  obtain ⟨zjh,q2,q2_1,g2⟩:=zd9 t0 s key k t1 next rows r1 (by first|assumption|trivial|omega|exact (fun _ r hr=>absurd hr (by simp))|(simp;done)) (by first|assumption|trivial|omega|exact (fun _ r hr=>absurd hr (by simp))|(simp;done)) (by first|assumption|trivial|omega|exact (fun _ r hr=>absurd hr (by simp))|(simp;done)) (by first|assumption|trivial|omega|exact (fun _ r hr=>absurd hr (by simp))|(simp;done)) 0 true (by first|assumption|trivial|omega|exact (fun _ r hr=>absurd hr (by simp))|(simp;done)) (by first|assumption|trivial|omega|exact (fun _ r hr=>absurd hr (by simp))|(simp;done))
  let p_1:List St:=[sb h0,sl [0] c1,sqx (rows.length=(List.map Rw.cells rows).length)]
  rcases (Bool.eq_false_or_eq_true zjh).symm with h3|h3
  ·obtain ⟨a4,t4,q4,c4⟩:=(zam t1 2 (by first|assumption|trivial|omega|exact (fun _ r hr=>absurd hr (by simp))|(simp;done)))
   obtain ⟨a5,t5,q5,c5⟩:=(zam t4 2 (by first|assumption|trivial|omega|exact (fun _ r hr=>absurd hr (by simp))|(simp;done)))
   obtain ⟨uZ,nextZ,rowsZ,qZ,xZ,gZ⟩:=ih t5 (IntKind.i64.wrap (next+IntKind.i64.wrap (1+IntKind.i64.wrap ((a4:Int) * (a5:Int))))) rows (by omega) (by first|exact zp5 hI (by assumption) (by assumption)|exact zpG hI hkc (by assumption) (‹_=true→zbW _ _ _› (by assumption)) (by assumption) (by assumption));exact ⟨uZ,nextZ,rowsZ,qZ,xZ,fun R hg=>zaa (wklN p_1 [0,4,6,7,8,11,12,13,45,46,47] 5 [(.bl 13,5)] kr (g2 _ (zaa (wkl [sb q2_1,sb h3,sd [(3,[sl [0] c4]),(5,[sl [0] c5]),(6,[si (e:=IntKind.i64.wrap ((a4:Int) * (a5:Int))) rfl]),(7,[si (e:=IntKind.i64.wrap (1+IntKind.i64.wrap ((a4:Int) * (a5:Int)))) rfl]),(8,[si (e:=IntKind.i64.wrap (next+IntKind.i64.wrap (1+IntKind.i64.wrap ((a4:Int) * (a5:Int))))) rfl])],si hw] [0,4,6,7,8,11] 5 kr (gZ R hg)))))⟩
  ·obtain ⟨a6,t6,q6,c6⟩:=(zam t1 2 (by first|assumption|trivial|omega|exact (fun _ r hr=>absurd hr (by simp))|(simp;done)))
   obtain ⟨a7,t7,q7,c7⟩:=(zam t6 2 (by first|assumption|trivial|omega|exact (fun _ r hr=>absurd hr (by simp))|(simp;done)))
   obtain ⟨uZ,nextZ,rowsZ,qZ,xZ,gZ⟩:=ih t7 (IntKind.i64.wrap (next+IntKind.i64.wrap (1+IntKind.i64.wrap ((a6:Int) * (a7:Int))))) (rows++[Rw.mk next r1]) (by omega) (by first|exact zp5 hI (by assumption) (by assumption)|exact zpG hI hkc (by assumption) (‹_=true→zbW _ _ _› (by assumption)) (by assumption) (by assumption));exact ⟨uZ,nextZ,rowsZ,qZ,xZ,fun R hg=>zaa (wklN p_1 [0,4,6,7,8,11,12,13,45,46,47] 5 [(.bl 13,5)] kr (g2 _ (zaa (wkl [sb q2_1,sb h3,sqx (AllLen [[iv next,AV.sl (List.map V.cells r1)]] 2∧rows.length=(List.map Rw.cells rows).length∧(((List.map Rw.cells rows).length+[[iv next,AV.sl (List.map V.cells r1)]].length) * 32).le 140737488355328),sd [(3,[sl [0] c6]),(5,[sl [0] c7]),(6,[si (e:=IntKind.i64.wrap ((a6:Int) * (a7:Int))) rfl]),(7,[si (e:=IntKind.i64.wrap (1+IntKind.i64.wrap ((a6:Int) * (a7:Int)))) rfl]),(8,[si (e:=IntKind.i64.wrap (next+IntKind.i64.wrap (1+IntKind.i64.wrap ((a6:Int) * (a7:Int))))) rfl])],si hw] [0,4,6,7,8,11] 5 kr (zay rfl (show ([Blk.box [AV.sl (List.map (fun n=>[iv n]) t7.l),iv (t7.pos:Int)],Blk.box [sv s.name,AV.sl (List.map Col.cells s.cols)],Blk.box [sv (ByteArray.mk #[]),AV.nl,iv 0,AV.nl],Blk.box [sv s.name,AV.sl (List.map Col.cells s.cols),iv (IntKind.i64.wrap (next+IntKind.i64.wrap (1+IntKind.i64.wrap ((a6:Int) * (a7:Int))))),AV.own 4 (List.map Rw.cells rows++[[iv next,AV.sl (List.map V.cells r1)]]).length],Blk.row Ty.Row (List.map Rw.cells rows++[[iv next,AV.sl (List.map V.cells r1)]]) false]:Heap)=_ by first|rfl|(simp;done)|(simp [X.cells,Qy.cells,V.cells,Col.cells,Rw.cells,Tb.cells,Fr.cells,Sch.cells,Tp.cells,Pl.cells,xCol,xLit,xBin,xNeg,Ac.cells,Se.cells,Pr.cells,Ch.cells,Rw.cells];done)) (gZ R hg))))))⟩
theorem zbd {a:Nat} (ha:(a:Int) < 3):IntKind.i64.wrap (1+(a:Int))=1+(a:Int):=by rw [IntKind.wrap_i64];omega
theorem zgj (t:Tp) (s:Sch) (n:Int) (hs:SchOk s) (hf:Few s.cols) (hn:0≤n∧n≤900) (hw:IntKind.i64.wrap (n+1)=n+1):∃ (rows:List Rw) (next:Int) (t':Tp),((rows.length:Int)≤n∧RowsV s next rows∧next≤3000)∧zab E0 S.world_Tape_TableOf [.p 0 0,s.av,iv n] [.box t.cells] (Tb.av ⟨s,next,rows⟩) [.box t'.cells]:=by
 obtain ⟨a1,t1,q1,c1⟩:=(zam t 3 (by first|exact (show Int from n)|assumption|(simp only [zdl];omega)|(simp only [Pos];omega)|omega|exact ⟨by omega,rfl⟩|exact zch (And.right ‹_∧keyC _=_›)|exact ⟨by simp;omega,RowsV.nil (by rw [zbd (by assumption)];omega),by rw [zbd (by assumption)];omega⟩))
 obtain ⟨key2,q2,q2_1,g2⟩:=zef t s n t1 (IntKind.i64.wrap (1+(a1:Int))) (by first|exact (show Int from n)|assumption|(simp only [zdl];omega)|(simp only [Pos];omega)|omega|exact ⟨by omega,rfl⟩|exact zch (And.right ‹_∧keyC _=_›)|exact ⟨by simp;omega,RowsV.nil (by rw [zbd (by assumption)];omega),by rw [zbd (by assumption)];omega⟩) 0 (-1) (by first|exact (show Int from n)|assumption|(simp only [zdl];omega)|(simp only [Pos];omega)|omega|exact ⟨by omega,rfl⟩|exact zch (And.right ‹_∧keyC _=_›)|exact ⟨by simp;omega,RowsV.nil (by rw [zbd (by assumption)];omega),by rw [zbd (by assumption)];omega⟩) (by first|exact (show Int from n)|assumption|(simp only [zdl];omega)|(simp only [Pos];omega)|omega|exact ⟨by omega,rfl⟩|exact zch (And.right ‹_∧keyC _=_›)|exact ⟨by simp;omega,RowsV.nil (by rw [zbd (by assumption)];omega),by rw [zbd (by assumption)];omega⟩)
 obtain ⟨a3,t3,q3,c3⟩:=(zam t1 (n+1) (by first|exact (show Int from n)|assumption|(simp only [zdl];omega)|(simp only [Pos];omega)|omega|exact ⟨by omega,rfl⟩|exact zch (And.right ‹_∧keyC _=_›)|exact ⟨by simp;omega,RowsV.nil (by rw [zbd (by assumption)];omega),by rw [zbd (by assumption)];omega⟩))
 obtain ⟨u4,next4,rows4,q4,q4_1,g4⟩:=zej t s key2 n (by first|exact (show Int from n)|assumption|(simp only [zdl];omega)|(simp only [Pos];omega)|omega|exact ⟨by omega,rfl⟩|exact zch (And.right ‹_∧keyC _=_›)|exact ⟨by simp;omega,RowsV.nil (by rw [zbd (by assumption)];omega),by rw [zbd (by assumption)];omega⟩) (by first|exact (show Int from n)|assumption|(simp only [zdl];omega)|(simp only [Pos];omega)|omega|exact ⟨by omega,rfl⟩|exact zch (And.right ‹_∧keyC _=_›)|exact ⟨by simp;omega,RowsV.nil (by rw [zbd (by assumption)];omega),by rw [zbd (by assumption)];omega⟩) (by first|exact (show Int from n)|assumption|(simp only [zdl];omega)|(simp only [Pos];omega)|omega|exact ⟨by omega,rfl⟩|exact zch (And.right ‹_∧keyC _=_›)|exact ⟨by simp;omega,RowsV.nil (by rw [zbd (by assumption)];omega),by rw [zbd (by assumption)];omega⟩) (by first|exact (show Int from n)|assumption|(simp only [zdl];omega)|(simp only [Pos];omega)|omega|exact ⟨by omega,rfl⟩|exact zch (And.right ‹_∧keyC _=_›)|exact ⟨by simp;omega,RowsV.nil (by rw [zbd (by assumption)];omega),by rw [zbd (by assumption)];omega⟩) a3 t3 (IntKind.i64.wrap (1+(a1:Int))) ([]) (by first|exact (show Int from n)|assumption|(simp only [zdl];omega)|(simp only [Pos];omega)|omega|exact ⟨by omega,rfl⟩|exact zch (And.right ‹_∧keyC _=_›)|exact ⟨by simp;omega,RowsV.nil (by rw [zbd (by assumption)];omega),by rw [zbd (by assumption)];omega⟩) (by first|exact (show Int from n)|assumption|(simp only [zdl];omega)|(simp only [Pos];omega)|omega|exact ⟨by omega,rfl⟩|exact zch (And.right ‹_∧keyC _=_›)|exact ⟨by simp;omega,RowsV.nil (by rw [zbd (by assumption)];omega),by rw [zbd (by assumption)];omega⟩)
 exact ⟨rows4,next4,u4,(by exact ⟨by omega,(‹_∧RowsV _ _ _∧_›).2.1,by omega⟩),wkc At.world_Tape_TableOf [sdm [(2,[sl [0] c1]),(3,[si (e:=IntKind.i64.wrap (1+(a1:Int))) rfl])] 0 [(0,AV.p 0 0),(1,AV.agg [sv s.name,AV.sl (List.map Col.cells s.cols)]),(2,iv n),(4,AV.p 1 0),(6,AV.p 2 0),(7,AV.p 3 0),(16,AV.agg [sv s.name,AV.sl (List.map Col.cells s.cols)]),(17,AV.p 0 0),(18,iv (a1:Int)),(19,iv (IntKind.i64.wrap (1+(a1:Int)))),(20,AV.agg [sv s.name,AV.sl (List.map Col.cells s.cols),iv (IntKind.i64.wrap (1+(a1:Int))),AV.nl])] [Blk.box [AV.sl (List.map (fun n=>[iv n]) t1.l),iv (t1.pos:Int)],Blk.box [sv s.name,AV.sl (List.map Col.cells s.cols)],Blk.box [sv (ByteArray.mk #[]),AV.nl,iv 0,AV.nl],Blk.box [sv s.name,AV.sl (List.map Col.cells s.cols),iv (IntKind.i64.wrap (1+(a1:Int))),AV.nl]]] [0,2,4,6,7,8,22,23,24] 4 kr (g2 _ (zaa (wklN [sb q2_1,si hw,sl [0] c3] [0,4,6,7,8,11] 4 [(.ob 3 3 Ty.Row,5)] kr (g4 _ (zaa (wkr [sqx (True∧True∧True∧rows4.length=(List.map Rw.cells rows4).length∧True),sb (rfl:false=false)] kr))))))⟩
structure StoreV (n:Int) (l:List Tb):Prop where
 schs:l.map Tb.sch=zau
 rows:∀ t∈l,RowsV t.sch t.next t.rows
 next:∀ t∈l,t.next≤3000
 len:∀ t∈l,(t.rows.length:Int)≤n
structure StoreP (n:Int) (i:Nat) (l:List Tb):Prop where
 schs:l.map Tb.sch=zau.take i
 tabs:∀ t∈l,RowsV t.sch t.next t.rows∧t.next≤3000∧(t.rows.length:Int)≤n
theorem StoreP.push {n:Int} {i:Nat} {l:List Tb} {x:Sch} {nx:Int} {rs:List Rw} (h:StoreP n i l) (hx:zau[i]?=some x) (ht:(rs.length:Int)≤n∧RowsV x nx rs∧nx≤3000):StoreP n (i+1) (l++[⟨x,nx,rs⟩]) :=
 ⟨by rw [List.map_append,h.schs,List.take_add_one,hx];rfl,fun t hm=>(List.mem_append.1 hm).elim (h.tabs t) fun h=>by simp only [List.mem_singleton] at h;subst h;exact ⟨ht.2.1,ht.2.2,ht.1⟩⟩
theorem StoreP.all {n:Int} {l:List Tb} (h:StoreP n zau.length l):StoreV n l :=
 ⟨by rw [h.schs,List.take_length],fun t ht=>(h.tabs t ht).1,fun t ht=>(h.tabs t ht).2.1,fun t ht=>(h.tabs t ht).2.2⟩
theorem StoreV.ok {n:Int} {l:List Tb} (h:StoreV n l) (hn:n≤1000:=by decide):StoreOk l :=
 ⟨by have:=congrArg List.length h.schs;simp [zau] at this;omega,fun t ht=>⟨⟨(h.rows t ht).fit,by have:=h.len t ht;omega⟩,zkn (by rw [← h.schs];exact List.mem_map_of_mem ht)⟩⟩
noncomputable def L_stV (t0:Tp) (n:Int) (i:Nat) (u:Tp) (out:List Tb):Cfg:=zap B.world_Tape_Store 0 [(0,.p 0 0),(1,iv n),(5,.own 1 out.length),(8,.sl (zau.map Sch.cells)),(9,iv ((zau.map Sch.cells).length:Nat)),(10,iv (i:Nat))] [.box u.cells,.row Ty.Table (out.map Tb.cells) false]
theorem zeo (t0:Tp) (n:Int) (hs:zad zau) (hn:0≤n∧n≤900) (i:Nat) (u:Tp) (out:List Tb) (hi:i≤(zau).length) (hI:StoreP n i out):∃ (u':Tp) (out':List Tb),(StoreP n (zau).length out')∧(decide ((((zau).length:Nat):Int) < (((zau.map Sch.cells).length:Nat):Int))=false)∧∀ R,Good E0 B.world_Tape_Store [.box t0.cells] (L_stV t0 n (zau).length u' out') R→Good E0 B.world_Tape_Store [.box t0.cells] (L_stV t0 n i u out) R:=by
 obtain ⟨kk,hk⟩:∃ kk,i+kk=(zau).length:=⟨(zau).length - i,by omega⟩
 induction kk generalizing i u out with
 | zero =>
  have e0:i=(zau).length:=by omega
  subst e0
  exact ⟨u,out,hI,by simp,fun R hg=>hg⟩
 | succ kk ih =>
  obtain ⟨x,hx⟩:=zaw (l:=zau) (i:=i) (by omega)
  have h0:decide (((i:Nat):Int) < (((zau.map Sch.cells).length:Nat):Int))=true:=by simp;omega
  have hw:IntKind.i64.wrap (((i:Nat):Int)+1)=((i+1:Nat):Int):=zal i (by first|omega|(simp only [zad,Few] at *;omega))
  have hsx:=zkn (List.mem_of_getElem? hx);have hfx:=hsx.few;have hl0:out.length=(zau.take i).length:=by rw [← hI.schs];simp
  have hlen:out.length≤10:=by rw [hl0];simp only [List.length_take,zau,List.length_cons,List.length_nil];omega
  have hw1:IntKind.i64.wrap (n+1)=n+1:=by rw [IntKind.wrap_i64];omega
  obtain ⟨rows1,next1,t1,q1,c1⟩:=(zgj u x n (by first|assumption|omega|(simp;done)|(simp;omega)) (by first|assumption|omega|(simp;done)|(simp;omega)) (by first|assumption|omega|(simp;done)|(simp;omega)) (by first|assumption|omega|(simp;done)|(simp;omega)))
  obtain ⟨uZ,outZ,qZ,xZ,gZ⟩:=ih (i+1) t1 (out++[Tb.mk x next1 rows1]) (by omega) (by exact hI.push hx (by assumption)) (by omega);exact ⟨uZ,outZ,qZ,xZ,fun R hg=>zaa (wkl [sb h0,se (zaf Sch.cells hx rfl),sl [0] c1,sqx (AllLen [[sv x.name,AV.sl (List.map Col.cells x.cols),iv next1,AV.sl (List.map Rw.cells rows1)]] 4∧out.length=(List.map Tb.cells out).length∧(((List.map Tb.cells out).length+[[sv x.name,AV.sl (List.map Col.cells x.cols),iv next1,AV.sl (List.map Rw.cells rows1)]].length) * 72).le 140737488355328),si hw] [0,1,5,8,9,10] 2 kr (zay (show ([(0,AV.p 0 0),(1,iv n),(5,AV.own 1 (List.map Tb.cells out++[[sv x.name,AV.sl (List.map Col.cells x.cols),iv next1,AV.sl (List.map Rw.cells rows1)]]).length),(8,AV.sl (List.map Sch.cells zau)),(9,iv (↑(List.map Sch.cells zau).length:Int)),(10,iv (↑(i+1):Int))]:TS)=_ by first|rfl|(simp;done)|(simp [X.cells,Qy.cells,V.cells,Col.cells,Rw.cells,Tb.cells,Fr.cells,Sch.cells,Tp.cells,Pl.cells,xCol,xLit,xBin,xNeg,Ac.cells,Se.cells,Pr.cells,Ch.cells,Rw.cells];done)) (show ([Blk.box [AV.sl (List.map (fun n=>[iv n]) t1.l),iv (t1.pos:Int)],Blk.row Ty.Table (List.map Tb.cells out++[[sv x.name,AV.sl (List.map Col.cells x.cols),iv next1,AV.sl (List.map Rw.cells rows1)]]) false]:Heap)=_ by first|rfl|(simp;done)|(simp [X.cells,Qy.cells,V.cells,Col.cells,Rw.cells,Tb.cells,Fr.cells,Sch.cells,Tp.cells,Pl.cells,xCol,xLit,xBin,xNeg,Ac.cells,Se.cells,Pr.cells,Ch.cells,Rw.cells];done)) (gZ R hg)))⟩
theorem zgT (t:Tp) (n:Int) (hs:zad zau) (hn:0≤n∧n≤900):∃ (r:List Tb) (t':Tp),StoreV n r∧zab E0 S.world_Tape_Store [.p 0 0,iv n] [.box t.cells] (tsl r) [.box t'.cells]:=by
 obtain ⟨u1,out1,q1,q1_1,g1⟩:=zeo t n (by first|assumption|(simp;done)|exact ⟨rfl,fun _ h=>absurd h (by simp)⟩) (by first|assumption|(simp;done)|exact ⟨rfl,fun _ h=>absurd h (by simp)⟩) 0 t ([]) (by first|assumption|(simp;done)|exact ⟨rfl,fun _ h=>absurd h (by simp)⟩) (by first|assumption|(simp;done)|exact ⟨rfl,fun _ h=>absurd h (by simp)⟩)
 exact ⟨out1,u1,(by exact StoreP.all (by assumption)),wkcN At.world_Tape_Store [sc zgm] [0,1,5,8,9,10] 1 [(.ot 5 Ty.Table,2)] kr (g1 _ (zaa (wkr [sqx (out1.length=(List.map Tb.cells out1).length),sb (rfl:false=false)] kr)))⟩
end Go.AM
namespace Go.AM
set_option maxRecDepth 100000
set_option maxHeartbeats 1000000
set_option linter.unusedSimpArgs false
set_option linter.unusedVariables false
def XFl:Nat→X→Prop
 | 0,_=>False
 | n+1,e=>e.val.Good∧Thin 3 e.args∧e.sub=[]∧∀ x∈e.args,XFl n x
theorem XFl.ok:∀ {n:Nat} {e:X},XFl n e→XOk n e
 | 0,_,h=>h.elim
 | n+1,e,⟨h1,h2,h3,h4⟩=>⟨h1,⟨h2,by rw [h3];simp⟩,fun x hx=>(h4 x hx).ok,fun q hq=>by rw [h3] at hq;cases hq⟩
theorem XFl.mono:∀ {n:Nat} {e:X},XFl n e→XFl (n+1) e
 | 0,_,h=>h.elim
 | n+1,e,⟨h1,h2,h3,h4⟩=>⟨h1,h2,h3,fun x hx=>(h4 x hx).mono⟩
theorem zai {n:Nat} {v:V} (h:v.Good):XFl (n+1) (xLit v):=⟨h,by simp [xLit],rfl,fun x hx=>by simp [xLit] at hx⟩
theorem zaA {n:Nat} {x:X} (h:zaJ x):XFl (n+1) x:=by
 obtain ⟨a,b,rfl⟩:=h
 exact ⟨zaj,by simp [xCol],rfl,fun x hx=>by simp [xCol] at hx⟩
theorem zky {n:Nat} {k o:Int} {nt:Bool} {l:List X} (hl:Thin 3 l) (h:∀ x∈l,XFl n x):XFl (n+1) (X.mk k o nt ⟨0,0,⟨#[]⟩⟩ ⟨#[]⟩ ⟨#[]⟩ l []) :=
 ⟨zaj,hl,rfl,h⟩
theorem zaX {n:Nat} {k o:Int} {nt:Bool} {a:X} (h:XFl n a):XFl (n+1) (X.mk k o nt ⟨0,0,⟨#[]⟩⟩ ⟨#[]⟩ ⟨#[]⟩ [a] []) :=
 zky (by simp) fun x hx=>by simp only [List.mem_singleton] at hx;exact hx ▸ h
theorem zaY {n:Nat} {k o:Int} {nt:Bool} {a b:X} (h:XFl n a) (h2:XFl n b):XFl (n+1) (X.mk k o nt ⟨0,0,⟨#[]⟩⟩ ⟨#[]⟩ ⟨#[]⟩ [a,b] []) :=
 zky (by simp) fun x hx=>by simp only [List.mem_cons,List.not_mem_nil,or_false] at hx;rcases hx with rfl|rfl <;> assumption
theorem zk5 {n:Nat} {k o:Int} {nt:Bool} {a b c:X} (h:XFl n a) (h2:XFl n b) (h3:XFl n c):XFl (n+1) (X.mk k o nt ⟨0,0,⟨#[]⟩⟩ ⟨#[]⟩ ⟨#[]⟩ [a,b,c] []) :=
 zky (by simp) fun x hx=>by simp only [List.mem_cons,List.not_mem_nil,or_false] at hx;rcases hx with rfl|rfl|rfl <;> assumption
theorem zaz {n:Nat} {a:Int} (h:-9223372036854775808 < a) (h2:a≤9223372036854775807):XFl (n+2) (xNum a):=by
 unfold xNum
 cases decide (a < 0)
 ·exact zai (zbn ⟨by omega,by omega⟩)
 ·exact zaX (zai (zbn (zci _)))
abbrev plF (frs:List Fr):Pl:=⟨frs,[]⟩
abbrev RecF (m:Nat) (d:Int) (frs:List Fr):Prop:=∀ (t:Tp) (w:Int),∃ (e:X) (t':Tp),XFl m e∧zab E0 S.world_Tape_Expr [.p 0 0,(plF frs).av,iv w,iv d] [.box t.cells] e.av [.box t'.cells]
theorem znU (t:Tp) (frs:List Fr) (m:Nat) (d:Int) (hf:∀ (t:Tp) (w:Int),∃ (e:X) (t':Tp),XFl m e∧zab E0 S.world_Tape_Expr [.p 0 0,(Pl.mk frs []).av,iv w,iv (IntKind.i64.wrap (d - 1))] [.box t.cells] e.av [.box t'.cells]):∃ (x:X) (t':Tp),XFl (m+1) x∧zab E0 S.world_Tape_condition [.p 0 0,(Pl.mk frs []).av,iv d] [.box t.cells] x.av [.box t'.cells]:=by
 obtain ⟨a1,t1,q1,c1⟩:=(zam t 3 (by first|assumption|omega|(simp;done)|(simp;omega)))
 obtain ⟨a2,t2,q2,c2⟩:=(zam t1 6 (by first|assumption|omega|(simp;done)|(simp;omega)))
 let p_1:List St:=[sl [0] c1,si (e:=IntKind.i64.wrap (1+(a1:Int))) rfl,sl [0] c2]
 cases h3:(a2:Int)==0
 ·cases h4:(a2:Int)==1
  ·cases h5:(a2:Int)==2
   ·cases h6:(a2:Int)==3
    ·obtain ⟨a7,t7,q7,c7⟩:=(zam t2 6 (by first|assumption|omega|(simp;done)|(simp;omega)))
     obtain ⟨e8,t8,q8,c8⟩:=(hf t7 (IntKind.i64.wrap (1+(a1:Int))))
     obtain ⟨e9,t9,q9,c9⟩:=(hf t8 (IntKind.i64.wrap (1+(a1:Int))))
     exact ⟨xBin (IntKind.i64.wrap (3+(a7:Int))) e8 e9,t9,(by first|exact zaX (by assumption)|exact zaY (by assumption) (by assumption)|exact zk5 (by assumption) (by assumption) (by assumption)),wk At.world_Tape_condition (p_1++[sb h3,sb h4,sb h5,sb h6,sd [(7,[si (e:=IntKind.i64.wrap (d - 1)) rfl]),(13,[si (e:=IntKind.i64.wrap (d - 1)) rfl]),(1,[sl [0] c7]),(2,[si (e:=IntKind.i64.wrap (3+(a7:Int))) rfl]),(8,[sl [0] c8]),(14,[sl [0] c9]),(15,[sc (zbM (IntKind.i64.wrap (3+(a7:Int))) e8 e9)])]]) kr⟩
    ·obtain ⟨e10,t10,q10,c10⟩:=(hf t2 1)
     obtain ⟨e11,t11,q11,c11⟩:=(hf t10 1)
     obtain ⟨e12,t12,q12,c12⟩:=(hf t11 1)
     exact ⟨X.mk 7 0 false (V.mk 0 0 (ByteArray.mk #[])) (ByteArray.mk #[]) (ByteArray.mk #[]) [e10,e11,e12] [],t12,(by first|exact zaX (by assumption)|exact zaY (by assumption) (by assumption)|exact zk5 (by assumption) (by assumption) (by assumption)),(by (try simp only [X.av,Qy.av,V.av,Tb.av,Sch.av,Pl.av,xsl,fsl,vsl,tsl,List.map_append,List.map_cons,List.map_nil,V.cells,Col.cells,Rw.cells,Tb.cells,Fr.cells,Sch.cells,Pl.cells,zbj,za1,za9,za6,zbf,X.cells,Qy.cells,X.args_mk,X.sub_mk,Qy.items_mk,Qy.wh_mk,xCol,xLit,xBin,xNeg]);exact wk At.world_Tape_condition (p_1++[sb h3,sb h4,sb h5,sb h6,sd [(3,[si (e:=IntKind.i64.wrap (d - 1)) rfl]),(8,[si (e:=IntKind.i64.wrap (d - 1)) rfl]),(13,[si (e:=IntKind.i64.wrap (d - 1)) rfl]),(4,[sl [0] c10]),(9,[sl [0] c11]),(14,[sl [0] c12])]]) kr)⟩
   ·obtain ⟨b13,t13,c13⟩:=(zaq t2 2 (by first|assumption|omega|(simp;done)|(simp;omega)))
    obtain ⟨e14,t14,q14,c14⟩:=(hf t13 (IntKind.i64.wrap (1+(a1:Int))))
    exact ⟨X.mk 6 0 b13 (V.mk 0 0 (ByteArray.mk #[])) (ByteArray.mk #[]) (ByteArray.mk #[]) [e14] [],t14,(by first|exact zaX (by assumption)|exact zaY (by assumption) (by assumption)|exact zk5 (by assumption) (by assumption) (by assumption)),(by (try simp only [X.av,Qy.av,V.av,Tb.av,Sch.av,Pl.av,xsl,fsl,vsl,tsl,List.map_append,List.map_cons,List.map_nil,V.cells,Col.cells,Rw.cells,Tb.cells,Fr.cells,Sch.cells,Pl.cells,zbj,za1,za9,za6,zbf,X.cells,Qy.cells,X.args_mk,X.sub_mk,Qy.items_mk,Qy.wh_mk,xCol,xLit,xBin,xNeg]);exact wk At.world_Tape_condition (p_1++[sb h3,sb h4,sb h5,sd [(6,[si (e:=IntKind.i64.wrap (d - 1)) rfl]),(1,[sl [0] c13]),(7,[sl [0] c14])]]) kr)⟩
  ·obtain ⟨a15,t15,q15,c15⟩:=(zam t2 2 (by first|assumption|omega|(simp;done)|(simp;omega)))
   obtain ⟨e16,t16,q16,c16⟩:=(hf t15 2)
   obtain ⟨e17,t17,q17,c17⟩:=(hf t16 2)
   exact ⟨xBin (IntKind.i64.wrap (1+(a15:Int))) e16 e17,t17,(by first|exact zaX (by assumption)|exact zaY (by assumption) (by assumption)|exact zk5 (by assumption) (by assumption) (by assumption)),wk At.world_Tape_condition (p_1++[sb h3,sb h4,sd [(6,[si (e:=IntKind.i64.wrap (d - 1)) rfl]),(11,[si (e:=IntKind.i64.wrap (d - 1)) rfl]),(1,[sl [0] c15]),(2,[si (e:=IntKind.i64.wrap (1+(a15:Int))) rfl]),(7,[sl [0] c16]),(12,[sl [0] c17]),(13,[sc (zbM (IntKind.i64.wrap (1+(a15:Int))) e16 e17)])]]) kr⟩
 ·obtain ⟨e18,t18,q18,c18⟩:=(hf t2 2)
  exact ⟨X.mk 3 0 false (V.mk 0 0 (ByteArray.mk #[])) (ByteArray.mk #[]) (ByteArray.mk #[]) [e18] [],t18,(by first|exact zaX (by assumption)|exact zaY (by assumption) (by assumption)|exact zk5 (by assumption) (by assumption) (by assumption)),(by (try simp only [X.av,Qy.av,V.av,Tb.av,Sch.av,Pl.av,xsl,fsl,vsl,tsl,List.map_append,List.map_cons,List.map_nil,V.cells,Col.cells,Rw.cells,Tb.cells,Fr.cells,Sch.cells,Pl.cells,zbj,za1,za9,za6,zbf,X.cells,Qy.cells,X.args_mk,X.sub_mk,Qy.items_mk,Qy.wh_mk,xCol,xLit,xBin,xNeg]);exact wk At.world_Tape_condition (p_1++[sb h3,si (e:=IntKind.i64.wrap (d - 1)) rfl,sl [0] c18]) kr)⟩
theorem ztj (t:Tp) (frs:List Fr) (w:Int) (d:Int) (hd:decide (d≤(0:Int))=true) (hd2:decide ((0:Int) < d)=false) (hf:Few frs) (hc:∀ f∈frs,Few f.cols):∃ (x:X) (t':Tp),XFl 2 x∧zab E0 S.world_Tape_Expr [.p 0 0,(Pl.mk frs []).av,iv w,iv d] [.box t.cells] x.av [.box t'.cells]:=by
 obtain ⟨a1,t1,q1,c1⟩:=(zam t 6 (by first|assumption|(simp;done)|omega))
 cases h2:decide (4≤(a1:Int))
 ·obtain ⟨x3,ok3,t3,q3,c3⟩:=(zcm t1 (Pl.mk frs []) w (by first|assumption|(simp;done)|omega) (by first|assumption|(simp;done)|omega))
  rcases (Bool.eq_false_or_eq_true ok3).symm with h4|h4
  ·obtain ⟨b5,t5,c5⟩:=(zaq t3 8 (by first|assumption|(simp;done)|omega))
   let p_1:List St:=[sl [0] c1,sb h2,sb hd,sl [0] c3,sb h4,sl [0] c5]
   rcases (Bool.eq_false_or_eq_true b5).symm with h6|h6
   ·cases h7:w==1
    ·obtain ⟨v8,t8,q8,c8⟩:=(zaW t5 w)
     exact ⟨xLit v8,t8,(by first|exact zaz (by omega) (by omega)|exact zai zaj|exact zai (by assumption:_∧V.Good _).2|exact zaA ((by assumption:_=true→zaJ _) (by assumption))),wk At.world_Tape_Expr (p_1++[sb h6,sb h7,sl [0] c8,sc (zaV v8)]) kr⟩
    ·obtain ⟨a9,t9,q9,c9⟩:=(za5 t5)
     exact ⟨xNum a9,t9,(by first|exact zaz (by omega) (by omega)|exact zai zaj|exact zai (by assumption:_∧V.Good _).2|exact zaA ((by assumption:_=true→zaJ _) (by assumption))),wk At.world_Tape_Expr (p_1++[sb h6,sb h7,sl [0] c9,sc (zb3 a9 (by first|assumption|(simp;done)|omega))]) kr⟩
   ·exact ⟨xLit (V.mk 0 0 (ByteArray.mk #[])),t5,(by first|exact zaz (by omega) (by omega)|exact zai zaj|exact zai (by assumption:_∧V.Good _).2|exact zaA ((by assumption:_=true→zaJ _) (by assumption))),wk At.world_Tape_Expr (p_1++[sb h6,sc (zaV (V.mk 0 0 (ByteArray.mk #[])))]) kr⟩
  ·obtain ⟨b10,t10,c10⟩:=(zaq t3 3 (by first|assumption|(simp;done)|omega))
   let p_2:List St:=[sl [0] c1,sb h2,sb hd,sl [0] c3,sg h4,sl [0] c10]
   cases h11:!b10
   ·obtain ⟨b12,t12,c12⟩:=(zaq t10 8 (by first|assumption|(simp;done)|omega))
    rcases (Bool.eq_false_or_eq_true b12).symm with h13|h13
    ·cases h14:w==1
     ·obtain ⟨v15,t15,q15,c15⟩:=(zaW t12 w)
      exact ⟨xLit v15,t15,(by first|exact zaz (by omega) (by omega)|exact zai zaj|exact zai (by assumption:_∧V.Good _).2|exact zaA ((by assumption:_=true→zaJ _) (by assumption))),wk At.world_Tape_Expr (p_2++[sb h11,sl [0] c12,sb h13,sb h14,sl [0] c15,sc (zaV v15)]) kr⟩
     ·obtain ⟨a16,t16,q16,c16⟩:=(za5 t12)
      exact ⟨xNum a16,t16,(by first|exact zaz (by omega) (by omega)|exact zai zaj|exact zai (by assumption:_∧V.Good _).2|exact zaA ((by assumption:_=true→zaJ _) (by assumption))),wk At.world_Tape_Expr (p_2++[sb h11,sl [0] c12,sb h13,sb h14,sl [0] c16,sc (zb3 a16 (by first|assumption|(simp;done)|omega))]) kr⟩
    ·exact ⟨xLit (V.mk 0 0 (ByteArray.mk #[])),t12,(by first|exact zaz (by omega) (by omega)|exact zai zaj|exact zai (by assumption:_∧V.Good _).2|exact zaA ((by assumption:_=true→zaJ _) (by assumption))),wk At.world_Tape_Expr (p_2++[sb h11,sl [0] c12,sb h13,sc (zaV (V.mk 0 0 (ByteArray.mk #[])))]) kr⟩
   ·exact ⟨x3,t10,(by first|exact zaz (by omega) (by omega)|exact zai zaj|exact zai (by assumption:_∧V.Good _).2|exact zaA ((by assumption:_=true→zaJ _) (by assumption))),wk At.world_Tape_Expr (p_2++[sb h11]) kr⟩
 ·obtain ⟨x17,ok17,t17,q17,c17⟩:=(zcm t1 (Pl.mk frs []) w (by first|assumption|(simp;done)|omega) (by first|assumption|(simp;done)|omega))
  let p_3:List St:=[sl [0] c1,sg h2,sb hd2,sb hd,sl [0] c17]
  rcases (Bool.eq_false_or_eq_true ok17).symm with h18|h18
  ·obtain ⟨b19,t19,c19⟩:=(zaq t17 8 (by first|assumption|(simp;done)|omega))
   rcases (Bool.eq_false_or_eq_true b19).symm with h20|h20
   ·cases h21:w==1
    ·obtain ⟨v22,t22,q22,c22⟩:=(zaW t19 w)
     exact ⟨xLit v22,t22,(by first|exact zaz (by omega) (by omega)|exact zai zaj|exact zai (by assumption:_∧V.Good _).2|exact zaA ((by assumption:_=true→zaJ _) (by assumption))),wk At.world_Tape_Expr (p_3++[sb h18,sl [0] c19,sb h20,sb h21,sl [0] c22,sc (zaV v22)]) kr⟩
    ·obtain ⟨a23,t23,q23,c23⟩:=(za5 t19)
     exact ⟨xNum a23,t23,(by first|exact zaz (by omega) (by omega)|exact zai zaj|exact zai (by assumption:_∧V.Good _).2|exact zaA ((by assumption:_=true→zaJ _) (by assumption))),wk At.world_Tape_Expr (p_3++[sb h18,sl [0] c19,sb h20,sb h21,sl [0] c23,sc (zb3 a23 (by first|assumption|(simp;done)|omega))]) kr⟩
   ·exact ⟨xLit (V.mk 0 0 (ByteArray.mk #[])),t19,(by first|exact zaz (by omega) (by omega)|exact zai zaj|exact zai (by assumption:_∧V.Good _).2|exact zaA ((by assumption:_=true→zaJ _) (by assumption))),wk At.world_Tape_Expr (p_3++[sb h18,sl [0] c19,sb h20,sc (zaV (V.mk 0 0 (ByteArray.mk #[])))]) kr⟩
  ·obtain ⟨b24,t24,c24⟩:=(zaq t17 3 (by first|assumption|(simp;done)|omega))
   cases h25:!b24
   ·obtain ⟨b26,t26,c26⟩:=(zaq t24 8 (by first|assumption|(simp;done)|omega))
    let p_4:List St:=p_3++[sg h18,sl [0] c24,sb h25,sl [0] c26]
    rcases (Bool.eq_false_or_eq_true b26).symm with h27|h27
    ·cases h28:w==1
     ·obtain ⟨v29,t29,q29,c29⟩:=(zaW t26 w)
      exact ⟨xLit v29,t29,(by first|exact zaz (by omega) (by omega)|exact zai zaj|exact zai (by assumption:_∧V.Good _).2|exact zaA ((by assumption:_=true→zaJ _) (by assumption))),wk At.world_Tape_Expr (p_4++[sb h27,sb h28,sl [0] c29,sc (zaV v29)]) kr⟩
     ·obtain ⟨a30,t30,q30,c30⟩:=(za5 t26)
      exact ⟨xNum a30,t30,(by first|exact zaz (by omega) (by omega)|exact zai zaj|exact zai (by assumption:_∧V.Good _).2|exact zaA ((by assumption:_=true→zaJ _) (by assumption))),wk At.world_Tape_Expr (p_4++[sb h27,sb h28,sl [0] c30,sc (zb3 a30 (by first|assumption|(simp;done)|omega))]) kr⟩
    ·exact ⟨xLit (V.mk 0 0 (ByteArray.mk #[])),t26,(by first|exact zaz (by omega) (by omega)|exact zai zaj|exact zai (by assumption:_∧V.Good _).2|exact zaA ((by assumption:_=true→zaJ _) (by assumption))),wk At.world_Tape_Expr (p_4++[sb h27,sc (zaV (V.mk 0 0 (ByteArray.mk #[])))]) kr⟩
   ·exact ⟨x17,t24,(by first|exact zaz (by omega) (by omega)|exact zai zaj|exact zai (by assumption:_∧V.Good _).2|exact zaA ((by assumption:_=true→zaJ _) (by assumption))),wk At.world_Tape_Expr (p_3++[sg h18,sl [0] c24,sb h25]) kr⟩
theorem zsR (t:Tp) (frs:List Fr) (w:Int) (d:Int) (m:Nat) (hd:decide (d≤(0:Int))=false) (hd2:decide ((0:Int) < d)=true) (hf:Few frs) (hc:∀ f∈frs,Few f.cols) (hf1:∀ (t:Tp) (w:Int),∃ (e:X) (t':Tp),XFl (m+1) e∧zab E0 S.world_Tape_Expr [.p 0 0,(Pl.mk frs []).av,iv w,iv (IntKind.i64.wrap (d - 1))] [.box t.cells] e.av [.box t'.cells]) (hcd:∀ (t:Tp),∃ (e:X) (t':Tp),XFl (m+2) e∧zab E0 S.world_Tape_condition [.p 0 0,(Pl.mk frs []).av,iv d] [.box t.cells] e.av [.box t'.cells]):∃ (x:X) (t':Tp),XFl (m+2) x∧zab E0 S.world_Tape_Expr [.p 0 0,(Pl.mk frs []).av,iv w,iv d] [.box t.cells] x.av [.box t'.cells]:=by
 obtain ⟨a1,t1,q1,c1⟩:=(zam t 6 (by first|assumption|(simp;done)|omega))
 cases h2:decide (4≤(a1:Int))
 ·cases h3:decide (3≤(a1:Int))
  ·cases h4:w==1
   ·cases h5:w==2
    ·obtain ⟨v6,t6,q6,c6⟩:=(zaW t1 w)
     exact ⟨xLit v6,t6,(by first|assumption|exact zaz (by omega) (by omega)|exact zai zaj|exact zai (by assumption:_∧V.Good _).2|exact zaA ((by assumption:_=true→zaJ _) (by assumption))|exact zaX (by assumption)|exact zaY (by assumption) (by assumption)),wk At.world_Tape_Expr [sl [0] c1,sb h2,sg hd,sb h3,sb h4,sb h5,sb h4,sb h5,sl [0] c6,sc (zaV v6)] kr⟩
    ·let p_1:List St:=[sl [0] c1,sb h2,sg hd,sb h3,sb h4,sg h5]
     cases h7:(a1:Int)==0
     ·obtain ⟨e8,t8,q8,c8⟩:=(hcd t1)
      exact ⟨e8,t8,(by first|assumption|exact zaz (by omega) (by omega)|exact zai zaj|exact zai (by assumption:_∧V.Good _).2|exact zaA ((by assumption:_=true→zaJ _) (by assumption))|exact zaX (by assumption)|exact zaY (by assumption) (by assumption)),wk At.world_Tape_Expr (p_1++[sb h7,sb h4,sb h5,sl [0] c8]) kr⟩
     ·obtain ⟨e9,t9,q9,c9⟩:=(hcd t1)
      exact ⟨e9,t9,(by first|assumption|exact zaz (by omega) (by omega)|exact zai zaj|exact zai (by assumption:_∧V.Good _).2|exact zaA ((by assumption:_=true→zaJ _) (by assumption))|exact zaX (by assumption)|exact zaY (by assumption) (by assumption)),wk At.world_Tape_Expr (p_1++[sg h7,sb (rfl:false=false),sb h4,sb h5,sl [0] c9]) kr⟩
   ·cases h10:(a1:Int)==0
    ·let p_2:List St:=[sl [0] c1,sb h2,sg hd,sb h3,sg h4,sb h10]
     cases h11:w==2
     ·obtain ⟨b12,t12,c12⟩:=(zaq t1 6 (by first|assumption|(simp;done)|omega))
      rcases (Bool.eq_false_or_eq_true b12).symm with h13|h13
      ·obtain ⟨a14,t14,q14,c14⟩:=(zam t12 6 (by first|assumption|(simp;done)|omega))
       obtain ⟨e15,t15,q15,c15⟩:=(hf1 t14 w)
       obtain ⟨e16,t16,q16,c16⟩:=(hf1 t15 w)
       exact ⟨xBin (opAt a14) e15 e16,t16,(by first|assumption|exact zaz (by omega) (by omega)|exact zai zaj|exact zai (by assumption:_∧V.Good _).2|exact zaA ((by assumption:_=true→zaJ _) (by assumption))|exact zaX (by assumption)|exact zaY (by assumption) (by assumption)),wk At.world_Tape_Expr (p_2++[sb h11,sb h4,sl [0] c12,sb h13,sd [(9,[si (e:=IntKind.i64.wrap (d - 1)) rfl]),(15,[si (e:=IntKind.i64.wrap (d - 1)) rfl]),(2,[sl [0] c14]),(3,[se (zeT a14 (by first|assumption|(simp;done)|omega))]),(10,[sl [0] c15]),(16,[sl [0] c16]),(17,[sc (zbM (opAt a14) e15 e16)])]]) kr⟩
      ·obtain ⟨e17,t17,q17,c17⟩:=(hf1 t12 w)
       exact ⟨X.mk 4 0 false (V.mk 0 0 (ByteArray.mk #[])) (ByteArray.mk #[]) (ByteArray.mk #[]) [e17] [],t17,(by first|assumption|exact zaz (by omega) (by omega)|exact zai zaj|exact zai (by assumption:_∧V.Good _).2|exact zaA ((by assumption:_=true→zaJ _) (by assumption))|exact zaX (by assumption)|exact zaY (by assumption) (by assumption)),(by (try simp only [X.av,Qy.av,V.av,Tb.av,Sch.av,Pl.av,xsl,fsl,vsl,tsl,List.map_append,List.map_cons,List.map_nil,V.cells,Col.cells,Rw.cells,Tb.cells,Fr.cells,Sch.cells,Pl.cells,zbj,za1,za9,za6,zbf,X.cells,Qy.cells,X.args_mk,X.sub_mk,Qy.items_mk,Qy.wh_mk,xCol,xLit,xBin,xNeg]);exact wk At.world_Tape_Expr (p_2++[sb h11,sb h4,sl [0] c12,sb h13,si (e:=IntKind.i64.wrap (d - 1)) rfl,sl [0] c17]) kr)⟩
     ·obtain ⟨b18,t18,c18⟩:=(zaq t1 6 (by first|assumption|(simp;done)|omega))
      rcases (Bool.eq_false_or_eq_true b18).symm with h19|h19
      ·obtain ⟨a20,t20,q20,c20⟩:=(zam t18 6 (by first|assumption|(simp;done)|omega))
       obtain ⟨e21,t21,q21,c21⟩:=(hf1 t20 w)
       obtain ⟨e22,t22,q22,c22⟩:=(hf1 t21 w)
       exact ⟨xBin (opAt a20) e21 e22,t22,(by first|assumption|exact zaz (by omega) (by omega)|exact zai zaj|exact zai (by assumption:_∧V.Good _).2|exact zaA ((by assumption:_=true→zaJ _) (by assumption))|exact zaX (by assumption)|exact zaY (by assumption) (by assumption)),wk At.world_Tape_Expr (p_2++[sg h11,sb h10,sb h4,sl [0] c18,sb h19,sd [(9,[si (e:=IntKind.i64.wrap (d - 1)) rfl]),(15,[si (e:=IntKind.i64.wrap (d - 1)) rfl]),(2,[sl [0] c20]),(3,[se (zeT a20 (by first|assumption|(simp;done)|omega))]),(10,[sl [0] c21]),(16,[sl [0] c22]),(17,[sc (zbM (opAt a20) e21 e22)])]]) kr⟩
      ·obtain ⟨e23,t23,q23,c23⟩:=(hf1 t18 w)
       exact ⟨X.mk 4 0 false (V.mk 0 0 (ByteArray.mk #[])) (ByteArray.mk #[]) (ByteArray.mk #[]) [e23] [],t23,(by first|assumption|exact zaz (by omega) (by omega)|exact zai zaj|exact zai (by assumption:_∧V.Good _).2|exact zaA ((by assumption:_=true→zaJ _) (by assumption))|exact zaX (by assumption)|exact zaY (by assumption) (by assumption)),(by (try simp only [X.av,Qy.av,V.av,Tb.av,Sch.av,Pl.av,xsl,fsl,vsl,tsl,List.map_append,List.map_cons,List.map_nil,V.cells,Col.cells,Rw.cells,Tb.cells,Fr.cells,Sch.cells,Pl.cells,zbj,za1,za9,za6,zbf,X.cells,Qy.cells,X.args_mk,X.sub_mk,Qy.items_mk,Qy.wh_mk,xCol,xLit,xBin,xNeg]);exact wk At.world_Tape_Expr (p_2++[sg h11,sb h10,sb h4,sl [0] c18,sb h19,si (e:=IntKind.i64.wrap (d - 1)) rfl,sl [0] c23]) kr)⟩
    ·let p_3:List St:=[sl [0] c1,sb h2,sg hd,sb h3,sg h4,sg h10,sb (rfl:false=false)]
     cases h24:w==2
     ·obtain ⟨b25,t25,c25⟩:=(zaq t1 6 (by first|assumption|(simp;done)|omega))
      rcases (Bool.eq_false_or_eq_true b25).symm with h26|h26
      ·obtain ⟨a27,t27,q27,c27⟩:=(zam t25 6 (by first|assumption|(simp;done)|omega))
       obtain ⟨e28,t28,q28,c28⟩:=(hf1 t27 w)
       obtain ⟨e29,t29,q29,c29⟩:=(hf1 t28 w)
       exact ⟨xBin (opAt a27) e28 e29,t29,(by first|assumption|exact zaz (by omega) (by omega)|exact zai zaj|exact zai (by assumption:_∧V.Good _).2|exact zaA ((by assumption:_=true→zaJ _) (by assumption))|exact zaX (by assumption)|exact zaY (by assumption) (by assumption)),wk At.world_Tape_Expr (p_3++[sb h24,sb h4,sl [0] c25,sb h26,sd [(9,[si (e:=IntKind.i64.wrap (d - 1)) rfl]),(15,[si (e:=IntKind.i64.wrap (d - 1)) rfl]),(2,[sl [0] c27]),(3,[se (zeT a27 (by first|assumption|(simp;done)|omega))]),(10,[sl [0] c28]),(16,[sl [0] c29]),(17,[sc (zbM (opAt a27) e28 e29)])]]) kr⟩
      ·obtain ⟨e30,t30,q30,c30⟩:=(hf1 t25 w)
       exact ⟨X.mk 4 0 false (V.mk 0 0 (ByteArray.mk #[])) (ByteArray.mk #[]) (ByteArray.mk #[]) [e30] [],t30,(by first|assumption|exact zaz (by omega) (by omega)|exact zai zaj|exact zai (by assumption:_∧V.Good _).2|exact zaA ((by assumption:_=true→zaJ _) (by assumption))|exact zaX (by assumption)|exact zaY (by assumption) (by assumption)),(by (try simp only [X.av,Qy.av,V.av,Tb.av,Sch.av,Pl.av,xsl,fsl,vsl,tsl,List.map_append,List.map_cons,List.map_nil,V.cells,Col.cells,Rw.cells,Tb.cells,Fr.cells,Sch.cells,Pl.cells,zbj,za1,za9,za6,zbf,X.cells,Qy.cells,X.args_mk,X.sub_mk,Qy.items_mk,Qy.wh_mk,xCol,xLit,xBin,xNeg]);exact wk At.world_Tape_Expr (p_3++[sb h24,sb h4,sl [0] c25,sb h26,si (e:=IntKind.i64.wrap (d - 1)) rfl,sl [0] c30]) kr)⟩
     ·obtain ⟨b31,t31,c31⟩:=(zaq t1 6 (by first|assumption|(simp;done)|omega))
      let p_4:List St:=p_3++[sg h24,sg h10,sb (rfl:false=false),sb h4,sl [0] c31]
      rcases (Bool.eq_false_or_eq_true b31).symm with h32|h32
      ·obtain ⟨a33,t33,q33,c33⟩:=(zam t31 6 (by first|assumption|(simp;done)|omega))
       obtain ⟨e34,t34,q34,c34⟩:=(hf1 t33 w)
       obtain ⟨e35,t35,q35,c35⟩:=(hf1 t34 w)
       exact ⟨xBin (opAt a33) e34 e35,t35,(by first|assumption|exact zaz (by omega) (by omega)|exact zai zaj|exact zai (by assumption:_∧V.Good _).2|exact zaA ((by assumption:_=true→zaJ _) (by assumption))|exact zaX (by assumption)|exact zaY (by assumption) (by assumption)),wk At.world_Tape_Expr (p_4++[sb h32,sd [(9,[si (e:=IntKind.i64.wrap (d - 1)) rfl]),(15,[si (e:=IntKind.i64.wrap (d - 1)) rfl]),(2,[sl [0] c33]),(3,[se (zeT a33 (by first|assumption|(simp;done)|omega))]),(10,[sl [0] c34]),(16,[sl [0] c35]),(17,[sc (zbM (opAt a33) e34 e35)])]]) kr⟩
      ·obtain ⟨e36,t36,q36,c36⟩:=(hf1 t31 w)
       exact ⟨X.mk 4 0 false (V.mk 0 0 (ByteArray.mk #[])) (ByteArray.mk #[]) (ByteArray.mk #[]) [e36] [],t36,(by first|assumption|exact zaz (by omega) (by omega)|exact zai zaj|exact zai (by assumption:_∧V.Good _).2|exact zaA ((by assumption:_=true→zaJ _) (by assumption))|exact zaX (by assumption)|exact zaY (by assumption) (by assumption)),(by (try simp only [X.av,Qy.av,V.av,Tb.av,Sch.av,Pl.av,xsl,fsl,vsl,tsl,List.map_append,List.map_cons,List.map_nil,V.cells,Col.cells,Rw.cells,Tb.cells,Fr.cells,Sch.cells,Pl.cells,zbj,za1,za9,za6,zbf,X.cells,Qy.cells,X.args_mk,X.sub_mk,Qy.items_mk,Qy.wh_mk,xCol,xLit,xBin,xNeg]);exact wk At.world_Tape_Expr (p_4++[sb h32,si (e:=IntKind.i64.wrap (d - 1)) rfl,sl [0] c36]) kr)⟩
  ·obtain ⟨x37,ok37,t37,q37,c37⟩:=(zcm t1 (Pl.mk frs []) w (by first|assumption|(simp;done)|omega) (by first|assumption|(simp;done)|omega))
   let p_5:List St:=[sl [0] c1,sb h2,sg hd,sb h3,sl [0] c37]
   rcases (Bool.eq_false_or_eq_true ok37).symm with h38|h38
   ·obtain ⟨b39,t39,c39⟩:=(zaq t37 8 (by first|assumption|(simp;done)|omega))
    rcases (Bool.eq_false_or_eq_true b39).symm with h40|h40
    ·cases h41:w==1
     ·obtain ⟨v42,t42,q42,c42⟩:=(zaW t39 w)
      exact ⟨xLit v42,t42,(by first|assumption|exact zaz (by omega) (by omega)|exact zai zaj|exact zai (by assumption:_∧V.Good _).2|exact zaA ((by assumption:_=true→zaJ _) (by assumption))|exact zaX (by assumption)|exact zaY (by assumption) (by assumption)),wk At.world_Tape_Expr (p_5++[sb h38,sl [0] c39,sb h40,sb h41,sl [0] c42,sc (zaV v42)]) kr⟩
     ·obtain ⟨a43,t43,q43,c43⟩:=(za5 t39)
      exact ⟨xNum a43,t43,(by first|assumption|exact zaz (by omega) (by omega)|exact zai zaj|exact zai (by assumption:_∧V.Good _).2|exact zaA ((by assumption:_=true→zaJ _) (by assumption))|exact zaX (by assumption)|exact zaY (by assumption) (by assumption)),wk At.world_Tape_Expr (p_5++[sb h38,sl [0] c39,sb h40,sb h41,sl [0] c43,sc (zb3 a43 (by first|assumption|(simp;done)|omega))]) kr⟩
    ·exact ⟨xLit (V.mk 0 0 (ByteArray.mk #[])),t39,(by first|assumption|exact zaz (by omega) (by omega)|exact zai zaj|exact zai (by assumption:_∧V.Good _).2|exact zaA ((by assumption:_=true→zaJ _) (by assumption))|exact zaX (by assumption)|exact zaY (by assumption) (by assumption)),wk At.world_Tape_Expr (p_5++[sb h38,sl [0] c39,sb h40,sc (zaV (V.mk 0 0 (ByteArray.mk #[])))]) kr⟩
   ·obtain ⟨b44,t44,c44⟩:=(zaq t37 3 (by first|assumption|(simp;done)|omega))
    cases h45:!b44
    ·obtain ⟨b46,t46,c46⟩:=(zaq t44 8 (by first|assumption|(simp;done)|omega))
     let p_6:List St:=p_5++[sg h38,sl [0] c44,sb h45,sl [0] c46]
     rcases (Bool.eq_false_or_eq_true b46).symm with h47|h47
     ·cases h48:w==1
      ·obtain ⟨v49,t49,q49,c49⟩:=(zaW t46 w)
       exact ⟨xLit v49,t49,(by first|assumption|exact zaz (by omega) (by omega)|exact zai zaj|exact zai (by assumption:_∧V.Good _).2|exact zaA ((by assumption:_=true→zaJ _) (by assumption))|exact zaX (by assumption)|exact zaY (by assumption) (by assumption)),wk At.world_Tape_Expr (p_6++[sb h47,sb h48,sl [0] c49,sc (zaV v49)]) kr⟩
      ·obtain ⟨a50,t50,q50,c50⟩:=(za5 t46)
       exact ⟨xNum a50,t50,(by first|assumption|exact zaz (by omega) (by omega)|exact zai zaj|exact zai (by assumption:_∧V.Good _).2|exact zaA ((by assumption:_=true→zaJ _) (by assumption))|exact zaX (by assumption)|exact zaY (by assumption) (by assumption)),wk At.world_Tape_Expr (p_6++[sb h47,sb h48,sl [0] c50,sc (zb3 a50 (by first|assumption|(simp;done)|omega))]) kr⟩
     ·exact ⟨xLit (V.mk 0 0 (ByteArray.mk #[])),t46,(by first|assumption|exact zaz (by omega) (by omega)|exact zai zaj|exact zai (by assumption:_∧V.Good _).2|exact zaA ((by assumption:_=true→zaJ _) (by assumption))|exact zaX (by assumption)|exact zaY (by assumption) (by assumption)),wk At.world_Tape_Expr (p_6++[sb h47,sc (zaV (V.mk 0 0 (ByteArray.mk #[])))]) kr⟩
    ·exact ⟨x37,t44,(by first|assumption|exact zaz (by omega) (by omega)|exact zai zaj|exact zai (by assumption:_∧V.Good _).2|exact zaA ((by assumption:_=true→zaJ _) (by assumption))|exact zaX (by assumption)|exact zaY (by assumption) (by assumption)),wk At.world_Tape_Expr (p_5++[sg h38,sl [0] c44,sb h45]) kr⟩
 ·obtain ⟨a51,t51,q51,c51⟩:=(zam t1 4 (by first|assumption|(simp;done)|omega))
  let p_7:List St:=[sl [0] c1,sg h2,sb hd2,sl [0] c51,sg hd]
  cases h52:decide (3≤(a51:Int))
  ·cases h53:w==1
   ·cases h54:w==2
    ·obtain ⟨v55,t55,q55,c55⟩:=(zaW t51 w)
     exact ⟨xLit v55,t55,(by first|assumption|exact zaz (by omega) (by omega)|exact zai zaj|exact zai (by assumption:_∧V.Good _).2|exact zaA ((by assumption:_=true→zaJ _) (by assumption))|exact zaX (by assumption)|exact zaY (by assumption) (by assumption)),wk At.world_Tape_Expr (p_7++[sb h52,sb h53,sb h54,sb h53,sb h54,sl [0] c55,sc (zaV v55)]) kr⟩
    ·cases h56:(a51:Int)==0
     ·obtain ⟨e57,t57,q57,c57⟩:=(hcd t51)
      exact ⟨e57,t57,(by first|assumption|exact zaz (by omega) (by omega)|exact zai zaj|exact zai (by assumption:_∧V.Good _).2|exact zaA ((by assumption:_=true→zaJ _) (by assumption))|exact zaX (by assumption)|exact zaY (by assumption) (by assumption)),wk At.world_Tape_Expr (p_7++[sb h52,sb h53,sg h54,sb h56,sb h53,sb h54,sl [0] c57]) kr⟩
     ·obtain ⟨e58,t58,q58,c58⟩:=(hcd t51)
      exact ⟨e58,t58,(by first|assumption|exact zaz (by omega) (by omega)|exact zai zaj|exact zai (by assumption:_∧V.Good _).2|exact zaA ((by assumption:_=true→zaJ _) (by assumption))|exact zaX (by assumption)|exact zaY (by assumption) (by assumption)),wk At.world_Tape_Expr (p_7++[sb h52,sb h53,sg h54,sg h56,sb (rfl:false=false),sb h53,sb h54,sl [0] c58]) kr⟩
   ·cases h59:(a51:Int)==0
    ·cases h60:w==2
     ·obtain ⟨b61,t61,c61⟩:=(zaq t51 6 (by first|assumption|(simp;done)|omega))
      let p_8:List St:=p_7++[sb h52,sg h53,sb h59,sb h60,sb h53,sl [0] c61]
      rcases (Bool.eq_false_or_eq_true b61).symm with h62|h62
      ·obtain ⟨a63,t63,q63,c63⟩:=(zam t61 6 (by first|assumption|(simp;done)|omega))
       obtain ⟨e64,t64,q64,c64⟩:=(hf1 t63 w)
       obtain ⟨e65,t65,q65,c65⟩:=(hf1 t64 w)
       exact ⟨xBin (opAt a63) e64 e65,t65,(by first|assumption|exact zaz (by omega) (by omega)|exact zai zaj|exact zai (by assumption:_∧V.Good _).2|exact zaA ((by assumption:_=true→zaJ _) (by assumption))|exact zaX (by assumption)|exact zaY (by assumption) (by assumption)),wk At.world_Tape_Expr (p_8++[sb h62,sd [(9,[si (e:=IntKind.i64.wrap (d - 1)) rfl]),(15,[si (e:=IntKind.i64.wrap (d - 1)) rfl]),(2,[sl [0] c63]),(3,[se (zeT a63 (by first|assumption|(simp;done)|omega))]),(10,[sl [0] c64]),(16,[sl [0] c65]),(17,[sc (zbM (opAt a63) e64 e65)])]]) kr⟩
      ·obtain ⟨e66,t66,q66,c66⟩:=(hf1 t61 w)
       exact ⟨X.mk 4 0 false (V.mk 0 0 (ByteArray.mk #[])) (ByteArray.mk #[]) (ByteArray.mk #[]) [e66] [],t66,(by first|assumption|exact zaz (by omega) (by omega)|exact zai zaj|exact zai (by assumption:_∧V.Good _).2|exact zaA ((by assumption:_=true→zaJ _) (by assumption))|exact zaX (by assumption)|exact zaY (by assumption) (by assumption)),(by (try simp only [X.av,Qy.av,V.av,Tb.av,Sch.av,Pl.av,xsl,fsl,vsl,tsl,List.map_append,List.map_cons,List.map_nil,V.cells,Col.cells,Rw.cells,Tb.cells,Fr.cells,Sch.cells,Pl.cells,zbj,za1,za9,za6,zbf,X.cells,Qy.cells,X.args_mk,X.sub_mk,Qy.items_mk,Qy.wh_mk,xCol,xLit,xBin,xNeg]);exact wk At.world_Tape_Expr (p_8++[sb h62,si (e:=IntKind.i64.wrap (d - 1)) rfl,sl [0] c66]) kr)⟩
     ·obtain ⟨b67,t67,c67⟩:=(zaq t51 6 (by first|assumption|(simp;done)|omega))
      let p_9:List St:=p_7++[sb h52,sg h53,sb h59,sg h60,sb h59,sb h53,sl [0] c67]
      rcases (Bool.eq_false_or_eq_true b67).symm with h68|h68
      ·obtain ⟨a69,t69,q69,c69⟩:=(zam t67 6 (by first|assumption|(simp;done)|omega))
       obtain ⟨e70,t70,q70,c70⟩:=(hf1 t69 w)
       obtain ⟨e71,t71,q71,c71⟩:=(hf1 t70 w)
       exact ⟨xBin (opAt a69) e70 e71,t71,(by first|assumption|exact zaz (by omega) (by omega)|exact zai zaj|exact zai (by assumption:_∧V.Good _).2|exact zaA ((by assumption:_=true→zaJ _) (by assumption))|exact zaX (by assumption)|exact zaY (by assumption) (by assumption)),wk At.world_Tape_Expr (p_9++[sb h68,sd [(9,[si (e:=IntKind.i64.wrap (d - 1)) rfl]),(15,[si (e:=IntKind.i64.wrap (d - 1)) rfl]),(2,[sl [0] c69]),(3,[se (zeT a69 (by first|assumption|(simp;done)|omega))]),(10,[sl [0] c70]),(16,[sl [0] c71]),(17,[sc (zbM (opAt a69) e70 e71)])]]) kr⟩
      ·obtain ⟨e72,t72,q72,c72⟩:=(hf1 t67 w)
       exact ⟨X.mk 4 0 false (V.mk 0 0 (ByteArray.mk #[])) (ByteArray.mk #[]) (ByteArray.mk #[]) [e72] [],t72,(by first|assumption|exact zaz (by omega) (by omega)|exact zai zaj|exact zai (by assumption:_∧V.Good _).2|exact zaA ((by assumption:_=true→zaJ _) (by assumption))|exact zaX (by assumption)|exact zaY (by assumption) (by assumption)),(by (try simp only [X.av,Qy.av,V.av,Tb.av,Sch.av,Pl.av,xsl,fsl,vsl,tsl,List.map_append,List.map_cons,List.map_nil,V.cells,Col.cells,Rw.cells,Tb.cells,Fr.cells,Sch.cells,Pl.cells,zbj,za1,za9,za6,zbf,X.cells,Qy.cells,X.args_mk,X.sub_mk,Qy.items_mk,Qy.wh_mk,xCol,xLit,xBin,xNeg]);exact wk At.world_Tape_Expr (p_9++[sb h68,si (e:=IntKind.i64.wrap (d - 1)) rfl,sl [0] c72]) kr)⟩
    ·let p_10:List St:=p_7++[sb h52,sg h53,sg h59,sb (rfl:false=false)]
     cases h73:w==2
     ·obtain ⟨b74,t74,c74⟩:=(zaq t51 6 (by first|assumption|(simp;done)|omega))
      rcases (Bool.eq_false_or_eq_true b74).symm with h75|h75
      ·obtain ⟨a76,t76,q76,c76⟩:=(zam t74 6 (by first|assumption|(simp;done)|omega))
       obtain ⟨e77,t77,q77,c77⟩:=(hf1 t76 w)
       obtain ⟨e78,t78,q78,c78⟩:=(hf1 t77 w)
       exact ⟨xBin (opAt a76) e77 e78,t78,(by first|assumption|exact zaz (by omega) (by omega)|exact zai zaj|exact zai (by assumption:_∧V.Good _).2|exact zaA ((by assumption:_=true→zaJ _) (by assumption))|exact zaX (by assumption)|exact zaY (by assumption) (by assumption)),wk At.world_Tape_Expr (p_10++[sb h73,sb h53,sl [0] c74,sb h75,sd [(9,[si (e:=IntKind.i64.wrap (d - 1)) rfl]),(15,[si (e:=IntKind.i64.wrap (d - 1)) rfl]),(2,[sl [0] c76]),(3,[se (zeT a76 (by first|assumption|(simp;done)|omega))]),(10,[sl [0] c77]),(16,[sl [0] c78]),(17,[sc (zbM (opAt a76) e77 e78)])]]) kr⟩
      ·obtain ⟨e79,t79,q79,c79⟩:=(hf1 t74 w)
       exact ⟨X.mk 4 0 false (V.mk 0 0 (ByteArray.mk #[])) (ByteArray.mk #[]) (ByteArray.mk #[]) [e79] [],t79,(by first|assumption|exact zaz (by omega) (by omega)|exact zai zaj|exact zai (by assumption:_∧V.Good _).2|exact zaA ((by assumption:_=true→zaJ _) (by assumption))|exact zaX (by assumption)|exact zaY (by assumption) (by assumption)),(by (try simp only [X.av,Qy.av,V.av,Tb.av,Sch.av,Pl.av,xsl,fsl,vsl,tsl,List.map_append,List.map_cons,List.map_nil,V.cells,Col.cells,Rw.cells,Tb.cells,Fr.cells,Sch.cells,Pl.cells,zbj,za1,za9,za6,zbf,X.cells,Qy.cells,X.args_mk,X.sub_mk,Qy.items_mk,Qy.wh_mk,xCol,xLit,xBin,xNeg]);exact wk At.world_Tape_Expr (p_10++[sb h73,sb h53,sl [0] c74,sb h75,si (e:=IntKind.i64.wrap (d - 1)) rfl,sl [0] c79]) kr)⟩
     ·obtain ⟨b80,t80,c80⟩:=(zaq t51 6 (by first|assumption|(simp;done)|omega))
      let p_11:List St:=p_10++[sg h73,sg h59,sb (rfl:false=false),sb h53,sl [0] c80]
      rcases (Bool.eq_false_or_eq_true b80).symm with h81|h81
      ·obtain ⟨a82,t82,q82,c82⟩:=(zam t80 6 (by first|assumption|(simp;done)|omega))
       obtain ⟨e83,t83,q83,c83⟩:=(hf1 t82 w)
       obtain ⟨e84,t84,q84,c84⟩:=(hf1 t83 w)
       exact ⟨xBin (opAt a82) e83 e84,t84,(by first|assumption|exact zaz (by omega) (by omega)|exact zai zaj|exact zai (by assumption:_∧V.Good _).2|exact zaA ((by assumption:_=true→zaJ _) (by assumption))|exact zaX (by assumption)|exact zaY (by assumption) (by assumption)),wk At.world_Tape_Expr (p_11++[sb h81,sd [(9,[si (e:=IntKind.i64.wrap (d - 1)) rfl]),(15,[si (e:=IntKind.i64.wrap (d - 1)) rfl]),(2,[sl [0] c82]),(3,[se (zeT a82 (by first|assumption|(simp;done)|omega))]),(10,[sl [0] c83]),(16,[sl [0] c84]),(17,[sc (zbM (opAt a82) e83 e84)])]]) kr⟩
      ·obtain ⟨e85,t85,q85,c85⟩:=(hf1 t80 w)
       exact ⟨X.mk 4 0 false (V.mk 0 0 (ByteArray.mk #[])) (ByteArray.mk #[]) (ByteArray.mk #[]) [e85] [],t85,(by first|assumption|exact zaz (by omega) (by omega)|exact zai zaj|exact zai (by assumption:_∧V.Good _).2|exact zaA ((by assumption:_=true→zaJ _) (by assumption))|exact zaX (by assumption)|exact zaY (by assumption) (by assumption)),(by (try simp only [X.av,Qy.av,V.av,Tb.av,Sch.av,Pl.av,xsl,fsl,vsl,tsl,List.map_append,List.map_cons,List.map_nil,V.cells,Col.cells,Rw.cells,Tb.cells,Fr.cells,Sch.cells,Pl.cells,zbj,za1,za9,za6,zbf,X.cells,Qy.cells,X.args_mk,X.sub_mk,Qy.items_mk,Qy.wh_mk,xCol,xLit,xBin,xNeg]);exact wk At.world_Tape_Expr (p_11++[sb h81,si (e:=IntKind.i64.wrap (d - 1)) rfl,sl [0] c85]) kr)⟩
  ·obtain ⟨x86,ok86,t86,q86,c86⟩:=(zcm t51 (Pl.mk frs []) w (by first|assumption|(simp;done)|omega) (by first|assumption|(simp;done)|omega))
   rcases (Bool.eq_false_or_eq_true ok86).symm with h87|h87
   ·obtain ⟨b88,t88,c88⟩:=(zaq t86 8 (by first|assumption|(simp;done)|omega))
    let p_12:List St:=p_7++[sb h52,sl [0] c86,sb h87,sl [0] c88]
    rcases (Bool.eq_false_or_eq_true b88).symm with h89|h89
    ·cases h90:w==1
     ·obtain ⟨v91,t91,q91,c91⟩:=(zaW t88 w)
      exact ⟨xLit v91,t91,(by first|assumption|exact zaz (by omega) (by omega)|exact zai zaj|exact zai (by assumption:_∧V.Good _).2|exact zaA ((by assumption:_=true→zaJ _) (by assumption))|exact zaX (by assumption)|exact zaY (by assumption) (by assumption)),wk At.world_Tape_Expr (p_12++[sb h89,sb h90,sl [0] c91,sc (zaV v91)]) kr⟩
     ·obtain ⟨a92,t92,q92,c92⟩:=(za5 t88)
      exact ⟨xNum a92,t92,(by first|assumption|exact zaz (by omega) (by omega)|exact zai zaj|exact zai (by assumption:_∧V.Good _).2|exact zaA ((by assumption:_=true→zaJ _) (by assumption))|exact zaX (by assumption)|exact zaY (by assumption) (by assumption)),wk At.world_Tape_Expr (p_12++[sb h89,sb h90,sl [0] c92,sc (zb3 a92 (by first|assumption|(simp;done)|omega))]) kr⟩
    ·exact ⟨xLit (V.mk 0 0 (ByteArray.mk #[])),t88,(by first|assumption|exact zaz (by omega) (by omega)|exact zai zaj|exact zai (by assumption:_∧V.Good _).2|exact zaA ((by assumption:_=true→zaJ _) (by assumption))|exact zaX (by assumption)|exact zaY (by assumption) (by assumption)),wk At.world_Tape_Expr (p_12++[sb h89,sc (zaV (V.mk 0 0 (ByteArray.mk #[])))]) kr⟩
   ·obtain ⟨b93,t93,c93⟩:=(zaq t86 3 (by first|assumption|(simp;done)|omega))
    let p_13:List St:=p_7++[sb h52,sl [0] c86,sg h87,sl [0] c93]
    cases h94:!b93
    ·obtain ⟨b95,t95,c95⟩:=(zaq t93 8 (by first|assumption|(simp;done)|omega))
     rcases (Bool.eq_false_or_eq_true b95).symm with h96|h96
     ·cases h97:w==1
      ·obtain ⟨v98,t98,q98,c98⟩:=(zaW t95 w)
       exact ⟨xLit v98,t98,(by first|assumption|exact zaz (by omega) (by omega)|exact zai zaj|exact zai (by assumption:_∧V.Good _).2|exact zaA ((by assumption:_=true→zaJ _) (by assumption))|exact zaX (by assumption)|exact zaY (by assumption) (by assumption)),wk At.world_Tape_Expr (p_13++[sb h94,sl [0] c95,sb h96,sb h97,sl [0] c98,sc (zaV v98)]) kr⟩
      ·obtain ⟨a99,t99,q99,c99⟩:=(za5 t95)
       exact ⟨xNum a99,t99,(by first|assumption|exact zaz (by omega) (by omega)|exact zai zaj|exact zai (by assumption:_∧V.Good _).2|exact zaA ((by assumption:_=true→zaJ _) (by assumption))|exact zaX (by assumption)|exact zaY (by assumption) (by assumption)),wk At.world_Tape_Expr (p_13++[sb h94,sl [0] c95,sb h96,sb h97,sl [0] c99,sc (zb3 a99 (by first|assumption|(simp;done)|omega))]) kr⟩
     ·exact ⟨xLit (V.mk 0 0 (ByteArray.mk #[])),t95,(by first|assumption|exact zaz (by omega) (by omega)|exact zai zaj|exact zai (by assumption:_∧V.Good _).2|exact zaA ((by assumption:_=true→zaJ _) (by assumption))|exact zaX (by assumption)|exact zaY (by assumption) (by assumption)),wk At.world_Tape_Expr (p_13++[sb h94,sl [0] c95,sb h96,sc (zaV (V.mk 0 0 (ByteArray.mk #[])))]) kr⟩
    ·exact ⟨x86,t93,(by first|assumption|exact zaz (by omega) (by omega)|exact zai zaj|exact zai (by assumption:_∧V.Good _).2|exact zaA ((by assumption:_=true→zaJ _) (by assumption))|exact zaX (by assumption)|exact zaY (by assumption) (by assumption)),wk At.world_Tape_Expr (p_13++[sb h94]) kr⟩
theorem zos (frs:List Fr) (hf:Few frs) (hc:∀ f∈frs,Few f.cols):∀ (n:Nat),n≤500→RecF (n+2) (n:Int) frs
 | 0,_,t,w=>ztj t frs w _ (by decide) (by decide) hf hc
 | n+1,hn,t,w=>by
  have h1:=zos frs hf hc n (by omega)
  have e1:IntKind.i64.wrap (((n+1:Nat):Int) - 1)=(n:Int):=ziU n (by omega)
  have hf1:RecF (n+2) (IntKind.i64.wrap (((n+1:Nat):Int) - 1)) frs:=by rw [e1];exact h1
  exact zsR t frs w _ (n+1) (by simp;try omega) (by simp;try omega) hf hc hf1 (fun t=>znU t frs (n+2) _ hf1)
theorem zhg (t:Tp) (frs:List Fr) (w:Int) (hf:Few frs) (hc:∀ f∈frs,Few f.cols):∃ (e:X) (t':Tp),XFl 5 e∧zab E0 S.world_Tape_Expr [.p 0 0,(Pl.mk frs []).av,iv w,iv 3] [.box t.cells] e.av [.box t'.cells]:=zos frs hf hc 3 (by omega) t w
end Go.AM
namespace Go.AM
set_option maxRecDepth 100000
set_option maxHeartbeats 1000000
set_option linter.unusedSimpArgs false
set_option linter.unusedVariables false
def insI:Nat→List Int→List Int
 | 0,l=>l
 | k+1,l=>bif decide (l.getD (k+1) 0 < l.getD k 0) then insI k ((l.set (k+1) (l.getD k 0)).set k (l.getD (k+1) 0)) else l
theorem zoF:∀ (k:Nat) (l:List Int),(insI k l).length=l.length
 | 0,_=>rfl
 | k+1,l=>by
  unfold insI
  cases decide (l.getD (k+1) 0 < l.getD k 0)
  ·rfl
  ·rw [cond_true,zoF];simp
def srtI:Nat→Nat→List Int→List Int
 | 0,_,l=>l
 | m+1,i,l=>srtI m (i+1) (insI i l)
def srt1 (l:List Int):List Int:=srtI (l.length - 1) 1 l
theorem zon:∀ (m i:Nat) (l:List Int),(srtI m i l).length=l.length
 | 0,_,_=>rfl
 | m+1,i,l=>by unfold srtI;rw [zon,zoF]
@[simp] theorem srt1_len (l:List Int):(srt1 l).length=l.length:=zon _ _ _
end Go.AM
namespace Go.AM
structure InsI (l:List Lk) (x:Lk) (i:Nat) (out:List Lk) (done:Bool):Prop where
 nd:out.Nodup
 sub:∀ z∈out,z=x∨z∈l.take i
 sup:∀ z∈l.take i,z=x∨z∈out
 dn:x∈out↔done=true
theorem ziL {α:Type}:∀ (l m:List α),l.Nodup→(∀ x∈l,x∈m)→l.length≤m.length
 | [],_,_,_=>by simp
 | x::r,m,hn,hs=>by
  haveI:DecidableEq α:=fun a b=>Classical.propDecidable (a=b)
  rw [List.nodup_cons] at hn
  have hx:x∈m:=hs x (by simp)
  have h1:=ziL r (m.erase x) hn.2 fun y hy=>(List.mem_erase_of_ne (by rintro rfl;exact hn.1 hy)).2 (hs y (by simp [hy]))
  rw [List.length_erase_of_mem hx] at h1
  have h2:=List.length_pos_of_mem hx
  simp only [List.length_cons]
  omega
theorem InsI.len {l:List Lk} {u:Lk} {i:Nat} {out:List Lk} {d:Bool} (h:InsI l u i out d):out.length≤i+1:=by
 have:=ziL out (u::l.take i) h.nd fun z hz=>by simpa using h.sub z hz
 simp only [List.length_cons,List.length_take] at this
 omega
theorem InsI.add {l:List Lk} {u:Lk} {i:Nat} {out:List Lk} {d:Bool} (h:InsI l u i out d) (e:(!d)=true):InsI l u i (out++[u]) true:=by
 have hnu:u ∉ out:=fun hu=>by have:=h.dn.1 hu;subst this;simp at e
 refine ⟨?_,fun z hz=>?_,fun z hz=>?_,by simp⟩
 ·refine List.nodup_append.2 ⟨h.nd,by simp,fun a ha b hb=>?_⟩
  simp only [List.mem_singleton] at hb
  subst hb
  rintro rfl
  exact hnu ha
 ·simp only [List.mem_append,List.mem_singleton] at hz
  rcases hz with hz|hz
  ·exact h.sub z hz
  ·exact .inl hz
 ·simp only [List.mem_append,List.mem_singleton]
  rcases h.sup z hz with h2|h2
  ·exact .inl h2
  ·exact .inr (.inl h2)
structure InsR (l:List Lk) (u:Lk) (r:List Lk):Prop where
 nd:r.Nodup
 sub:∀ z∈r,z=u∨z∈l
 sup:∀ z∈l,z∈r
theorem InsI.done {l:List Lk} {u:Lk} {out:List Lk} {d:Bool} (h:InsI l u l.length out d) (e:(!d)=false):InsR l u out:=by
 have hd:d=true:=by simpa using e
 have hu:=h.dn.2 hd
 refine ⟨h.nd,fun z hz=>by simpa using h.sub z hz,fun z hz=>?_⟩
 rcases h.sup z (by simpa using hz) with rfl|h1
 ·exact hu
 ·exact h1
structure LkN (N:List Str) (l:List Lk):Prop where
 nd:l.Nodup
 mem:∀ z∈l,z.fst∈N∧z.snd∈N
theorem InsR.lk {N:List Str} {l:List Lk} {u:Lk} {r:List Lk} (h:InsR l u r) (hl:LkN N l) (h1:u.fst∈N) (h2:u.snd∈N):LkN N r :=
 ⟨h.nd,fun z hz=>by rcases h.sub z hz with rfl|hz;exact ⟨h1,h2⟩;exact hl.mem z hz⟩
theorem zn6 {α β:Type} (f:α→List β) (k:Nat) (hf:∀ a,(f a).length=k):∀ l:List α,(l.flatMap f).length=l.length * k
 | []=>by simp
 | a::r=>by rw [List.flatMap_cons,List.length_append,hf,zn6 f k hf r,List.length_cons,Nat.add_mul];omega
theorem LkN.len {N:List Str} {l:List Lk} (h:LkN N l):l.length≤N.length * N.length:=by
 have h1:=ziL l (N.flatMap fun a=>N.map fun b=>⟨a,b⟩) h.nd fun z hz=>by
  simp only [List.mem_flatMap,List.mem_map]
  exact ⟨z.fst,(h.mem z hz).1,z.snd,(h.mem z hz).2,by cases z;rfl⟩
 have h2:(N.flatMap fun a=>N.map fun b=>(⟨a,b⟩:Lk)).length=N.length * N.length:=by
  exact zn6 _ _ (fun a=>by simp) N
 omega
end Go.AM
namespace Go.AM
set_option maxRecDepth 100000
set_option maxHeartbeats 1000000
set_option linter.unusedSimpArgs false
set_option linter.unusedVariables false
abbrev zlw (N:List Str) (l out:List Lk):Prop:=LkN N out∧∀ z∈l,z∈out
theorem zlw.short {N:List Str} {l out:List Lk} (h:zlw N l out) (hN:N.length≤1000):zad out:=by
 have h1:=h.1.len
 have h2:=Nat.mul_le_mul hN hN
 simp only [zad];omega
theorem zlw.ins {N:List Str} {l out:List Lk} {a b:Lk} {i j:Nat} {r:List Lk} (h:zlw N l out) (hl:LkN N l) (hx:l[i]?=some a) (hy:l[j]?=some b) (hr:InsR out ⟨a.fst,b.snd⟩ r):zlw N l r :=
 ⟨hr.lk h.1 (hl.mem a (List.mem_of_getElem? hx)).1 (hl.mem b (List.mem_of_getElem? hy)).2,fun z hz=>hr.sup z (h.2 z hz)⟩
end Go.AM
namespace Go.AM
set_option maxRecDepth 100000
set_option maxHeartbeats 1000000
set_option linter.unusedSimpArgs false
set_option linter.unusedVariables false
theorem LkN.short {N:List Str} {l:List Lk} (h:LkN N l) (hN:N.length≤1000):zad l:=by
 have h1:=h.len
 have h2:=Nat.mul_le_mul hN hN
 simp only [zad];omega
end Go.AM
namespace Go.AM
set_option maxRecDepth 100000
set_option maxHeartbeats 1000000
set_option linter.unusedSimpArgs false
set_option linter.unusedVariables false
theorem zrZ {p:Prop} (h:p:=by first|assumption|omega|(simp;done)|(simp;omega)):p:=h
def zqg (k:Nat):Str:=([⟨#[116]⟩,⟨#[117]⟩,⟨#[108,111,103]⟩]:List Str).getD k ⟨#[]⟩
theorem zun (k:Nat) (h:(k:Int) < 3):ElAt [[sv ⟨#[116]⟩],[sv ⟨#[117]⟩],[sv ⟨#[108,111,103]⟩]] (k:Int) [sv (zqg k)] 1:=by
 have:k=0∨k=1∨k=2:=by omega
 rcases this with rfl|rfl|rfl <;> exact ⟨by decide,rfl,rfl⟩
def TabN (w:Str):Prop:=w=⟨#[116]⟩∨w=⟨#[117]⟩∨w=⟨#[108,111,103]⟩
theorem zus {k:Nat} (h:(k:Int) < 3):TabN (zqg k):=by
 have:k=0∨k=1∨k=2:=by omega
 rcases this with rfl|rfl|rfl
 ·exact .inl rfl
 ·exact .inr (.inl rfl)
 ·exact .inr (.inr rfl)
theorem ziP (t:Tp) :∃ (w:Str) (t':Tp),TabN w∧zab E0 S.world_Tape_Table [.p 0 0] [.box t.cells] (sv w) [.box t'.cells]:=by
 obtain ⟨a1,t1,q1,c1⟩:=(zam t 3 zrZ)
 exact ⟨zqg a1,t1,by exact zus (by omega),wk At.world_Tape_Table [sl [0] c1,se (zun a1 zrZ)] kr⟩
def schU:Sch:=⟨⟨#[117]⟩,[⟨⟨#[105,100]⟩,1,true,true⟩,⟨⟨#[110]⟩,1,true,false⟩,⟨⟨#[109]⟩,1,false,false⟩]⟩
end Go.AM
namespace Go.AM
set_option maxRecDepth 100000
set_option maxHeartbeats 1000000
set_option linter.unusedSimpArgs false
set_option linter.unusedVariables false
structure GenOk (x:Tg):Prop where
 ok:TgOk 6 x
 set:∀ a∈x.acts,AcSet a
structure CertOk (x x':Tg):Prop where
 gen:GenOk x→GenOk x'
 name:x'.name=x.name
 table:x'.table=x.table
 prec:x'.prec=x.prec
 foll:x'.foll=x.foll
end Go.AM
namespace Go.AM
set_option maxRecDepth 100000
set_option maxHeartbeats 1000000
set_option linter.unusedSimpArgs false
set_option linter.unusedVariables false
structure SetsOk (i:Nat) (sets:List Se):Prop where
 len:sets.length≤i
 ex:∀ s∈sets,XOk 5 s.ex
 two:i≤2
end Go.AM
namespace Go.AM
set_option maxRecDepth 100000
set_option maxHeartbeats 1000000
set_option linter.unusedSimpArgs false
set_option linter.unusedVariables false
theorem zr8 (s:Int × List (List V)):(zjA s).1.length≤s.2.length:=by
 unfold zjA;cases s.1 != 0 <;> simp
theorem zgR {tr:Rw→Bool × Int} {rv:Rw→Int × List V}:∀ (l:List Rw) (out:List (List V)),(zdm tr rv l out).2.length≤out.length+l.length
 | [],out=>by simp [zdm]
 | r::l,out=>by
  have h1:=zgR (tr:=tr) (rv:=rv) l out
  have h2:=zgR (tr:=tr) (rv:=rv) l (out++[(rv r).2])
  simp only [zdm]
  cases (tr r).2 != 0 <;> cases (tr r).1 <;> cases (rv r).1 != 0 <;> simp at * <;> omega
theorem znQ {n:Nat} {q:Qy} {frs:List Fr} {tb:List Tb} (h:TbOk tb):(zey n q frs tb).1.length≤1000:=by
 unfold zey
 cases hf:zbB tb q.frm with
 | none=>simp
 | some t =>
  have h1:=h.rows t (zdT hf)
  have h2:=zr8 (zdm (fun r=>zcw (fun x=>eval n x (zav frs t r.vals) tb) q.wh) (fun r=>rowV (fun x=>eval n x (zav frs t r.vals) tb) q r) t.rows [])
  have h3:=zgR (tr:=fun r=>zcw (fun x=>eval n x (zav frs t r.vals) tb) q.wh) (rv:=fun r=>rowV (fun x=>eval n x (zav frs t r.vals) tb) q r) t.rows []
  simp only [List.length_nil] at h3
  simp only;omega
structure DmlIn (n:Nat) (a:Ac) (frs:List Fr) (tb:List Tb):Prop where
 ac:AcOk n a
 kd:1≤a.kind∧a.kind≤3
 fo:FsOk (n+1) frs
 fg:FsG frs
 to:TbOk tb
 tg:TbG tb
 tv:∀ x∈tb,∀ r∈x.rows,zad r.vals
theorem zlk {tb:List Tb} {n:Str} (h:(zat tb n).2=true):zbB tb n=some (tabC tb n)∧(zat tb n).1=(tabC tb n).sch∧tabC tb n∈tb∧decide (idxF (fun t=>zan t n) tb 0 < 0)=false:=by
 rw [zfi] at h ⊢
 cases hf:zbB tb n with
 | none=>rw [hf] at h;cases h
 | some t =>
  have e:tabC tb n=t:=by unfold tabC;rw [hf];rfl
  refine ⟨by rw [e],by rw [e],by rw [e];exact zdT hf,?_⟩
  rcases zcC (fun t=>zan t n) tb 0 with ⟨_,h2⟩|⟨j,y,h2,h3,h4⟩
  ·unfold zbB at hf;rw [h2] at hf;cases hf
  ·rw [h2];simp
theorem zr2 {a:Ac} {b:Bool} {tb:List Tb} (h:((tgt a b tb).2 != 0)=false):b=true∧(zat tb a.table).2=true∧(tgt a b tb).1=(tabC tb a.table).sch∧(tgt a b tb).2=0:=by
 unfold tgt at h ⊢
 cases b
 ·simp at h
 ·cases h2:(zat tb a.table).2
  ·rw [h2] at h;simp at h
  ·refine ⟨rfl,rfl,?_,rfl⟩
   simp only [Bool.not_true,cond_false]
   exact (zlk h2).2.1
abbrev evI (n:Nat) (frs:List Fr) (s:Sch) (tb:List Tb) (r:Rw):X→V × Int:=fun x=>eval n x (zaF frs s r.vals) tb
def cTr (n:Nat) (a:Ac) (frs:List Fr) (s:Sch) (tb:List Tb) (r:Rw):Bool × Int:=zcw (evI n frs s tb r) a.wh
def cAg (n:Nat) (a:Ac) (frs:List Fr) (s:Sch) (tb:List Tb) (r:Rw):List V × Int:=asgn (evI n frs s tb r) a s r.vals (zaF frs s r.vals) tb
def cIns (n:Nat) (a:Ac) (frs:List Fr) (s:Sch) (tb:List Tb):List (List V) × Int:=insB (fun x=>eval n x frs tb) (fun q=>zey n q frs tb) s a
def zcd (n:Nat) (a:Ac) (frs:List Fr) (tb:List Tb):Ch × Int :=
 bif (tgt a (actB (vX n) a) tb).2 != 0 then zh1 a (tgt a (actB (vX n) a) tb).1 (tgt a (actB (vX n) a) tb).2
 else bif a.kind==1 then zmW (cIns n a frs (tabC tb a.table).sch tb) a
 else bif a.kind==3 then zhZ (cTr n a frs (tabC tb a.table).sch tb) a (tabC tb a.table).sch frs tb
 else zhJ (cTr n a frs (tabC tb a.table).sch tb) (cAg n a frs (tabC tb a.table).sch tb) a (tabC tb a.table).sch frs tb
section
variable {n : Nat} {a : Ac} {frs : List Fr} {tb : List Tb}
theorem DmlIn.target (h:DmlIn n a frs tb):zab E0 S.dml_target [a.av,tsl tb] [] (.tup [(tgt a (actB (vX n) a) tb).1.av,iv (tgt a (actB (vX n) a) tb).2]) []:=by
 have hk:=h.kd
 exact zno a (actB (vX n) a) tb (by simp;omega) (by simp;omega) h.to.len h.to.cols (zh7 h.ac hk)
theorem DmlIn.ins (h:DmlIn n a frs tb) {t:Tb} (ht:t∈tb) {r:Rw} (hr:r∈t.rows):FsOk n (zaF frs t.sch r.vals)∧FsG (zaF frs t.sch r.vals) :=
 ⟨h.fo.eins (t:=t) (h.to.cols t ht) (h.tg.vals t ht r hr),h.fg.ins (t:=t) (h.tg.vals t ht r hr)⟩
theorem zoJ (h:DmlIn n a frs tb):Pure S.dml_Candidates [a.av,fsl frs,tsl tb] (.tup [(zcd n a frs tb).1.av,iv (zcd n a frs tb).2]):=by
 have ht:=h.target
 unfold zcd
 cases h0:(tgt a (actB (vX n) a) tb).2 != 0
 ·obtain ⟨hb,hs,he,hc⟩:=zr2 h0
  rw [he,hc] at ht
  obtain ⟨h1,h2,h3,h4⟩:=zlk hs
  have hfs:zad frs:=h.fo.short
  have hcol:=h.to.cols _ h3
  have hrw:zad (tabC tb a.table).rows:=by have:=h.to.rows _ h3;simp only [zad];omega
  have htr:∀ r∈(tabC tb a.table).rows,Pure S.evaluate_True [xsl a.wh,fsl (zaF frs (tabC tb a.table).sch r.vals),tsl tb] (.tup [bv (cTr n a frs (tabC tb a.table).sch tb r).1,iv (cTr n a frs (tabC tb a.table).sch tb r).2]):=fun r hr =>
   zoL (fun x hx=>zes n x _ tb (h.ac.w x hx) (h.ins h3 hr).1 (h.ins h3 hr).2 h.to h.tg) (fun x hx=>zdS n x _ tb (h.ac.w x hx) (h.ins h3 hr).2 h.tg)
  simp only [cond_false]
  cases k1:a.kind==1
  ·simp only [cond_false]
   cases k3:a.kind==3
   ·simp only [cond_false]
    exact zik _ _ a (tabC tb a.table).sch frs tb k1 k3 h.to.len hfs ht (zow tb a h.to.len) h4 hrw (h.tv _ h3) htr fun r hr =>
     zl3 _ a _ r.vals _ tb (h.tv _ h3 r hr) hcol (zaL h.ac.sets) fun x hx=>zes n x.ex _ tb (h.ac.set x hx) (h.ins h3 hr).1 (h.ins h3 hr).2 h.to h.tg
   ·simp only [cond_true]
    exact zio _ a (tabC tb a.table).sch frs tb k1 k3 h.to.len hfs ht (zow tb a h.to.len) h4 hrw htr
  ·simp only [cond_true]
   have hr:=h.ac.rows
   have hq:=h.ac.query
   exact zij _ a (tabC tb a.table).sch frs tb k1 ht (zl5 a _ frs tb _ _ hcol (by simp only [Few] at hr;omega) (fun r hr=>⟨zaL (h.ac.row r hr).1,fun x hx=>zes n x frs tb ((h.ac.row r hr).2 x hx) h.fo.less h.fg h.to h.tg⟩) hq fun q hq =>
    ⟨by have:=znQ (n:=n) (q:=q) (frs:=frs) h.to;omega,zqt ⟨(h.ac.qs q hq).items,(h.ac.qs q hq).hi,(h.ac.qs q hq).hw⟩ h.fo h.to h.fg h.tg h.tv⟩)
 ·simp only [cond_true]
  exact ziq a _ _ frs tb h0 ht
end
end Go.AM
namespace Go.AM
set_option maxRecDepth 100000
set_option maxHeartbeats 1000000
set_option linter.unusedSimpArgs false
set_option linter.unusedVariables false
theorem zns (cond:Int) (q:Qy) (s:Sch) (ins:List Fr) (tb:List Tb):∀ (l:List Col) (i:Nat) (o:List Int),(ptsS cond q s ins tb l i o).1.length≤o.length+l.length
 | [],i,o=>by unfold ptsS;cases cond != 0 <;> simp
 | x::r,i,o=>by
  have:=zns cond q s ins tb r (i+1) (o++[x.type])
  unfold ptsS;simp at *;omega
theorem znJ (f:X→Int × Int) (cond:Int) (q:Qy) (s:Sch) (ins:List Fr) (tb:List Tb):∀ (l:List X) (i:Nat) (o:List Int),(ptsI f cond q s ins tb l i o).1.length≤o.length+l.length
 | [],i,o=>by unfold ptsI;cases cond != 0 <;> simp
 | x::r,i,o=>by
  have:=znJ f cond q s ins tb r (i+1) (o++[(f x).1])
  unfold ptsI;cases (f x).2 != 0 <;> simp at * <;> omega
theorem zqH {f:X→Int × Int} {cond:Int} {q:Qy} {frs:List Fr} {tb:List Tb} (h1:zad q.items) (h2:zad (zat tb q.frm).1.cols):zad (pTys f cond q frs tb).1:=by
 unfold pTys
 cases (zat tb q.frm).2
 ·simp
 ·cases q.star
  ·have:=znJ f cond q (zat tb q.frm).1 (zaF frs (zat tb q.frm).1 []) tb q.items 0 []
   simp only [zad] at *;simp at *;omega
  ·have:=zns cond q (zat tb q.frm).1 (zaF frs (zat tb q.frm).1 []) tb (zat tb q.frm).1.cols 0 []
   simp only [zad] at *;simp at *;omega
def tyQ (n:Nat) (frs:List Fr) (tb:List Tb) (q:Qy):List Int × Int :=
 pTys (fun x=>zcP n x (zaF frs (zat tb q.frm).1 []) tb) (zi3 (fun x=>zcP n x (zaF frs (zat tb q.frm).1 []) tb) q.wh) q frs tb
def tyC (n:Nat) (a:Ac) (tb:List Tb) (frs:List Fr):Int:=zi3 (fun x=>zcP n x frs tb) a.wh
def pchk (n:Nat) (a:Ac) (frs:List Fr) (tb:List Tb):Bool :=
 !((tgt a (actB (vX n) a) tb).2 != 0)&&znh (fun w x=>zcP n x w tb) (tyQ n frs tb) (tyC n a tb) frs tb (tabC tb a.table).sch a
section
variable {n : Nat} {a : Ac} {frs : List Fr} {tb : List Tb}
theorem FsOk.ins0 (h:FsOk (n+1) frs) {s:Sch} (hs:zad s.cols):FsOk n (zaF frs s []) :=
 h.eins (t:=⟨s,0,[]⟩) hs (fun _ h=>by cases h)
theorem c_chk (h:DmlIn n a frs tb):∃ r:Int,(r=0↔pchk n a frs tb=true)∧zab E0 S.dml_Check [a.av,fsl frs,tsl tb] [] (iv r) []:=by
 have ht:=h.target
 unfold pchk
 cases h0:(tgt a (actB (vX n) a) tb).2 != 0
 ·obtain ⟨hb,hs,he,hc⟩:=zr2 h0
  rw [he,hc] at ht
  obtain ⟨h1,h2,h3,h4⟩:=zlk hs
  have hcol:=h.to.cols _ h3
  have hfi:=h.fo.ins0 hcol
  have hsc:∀ q:Qy,zad (zat tb q.frm).1.cols:=fun q=>zfX _ _ _ 0 h.to.cols
  obtain ⟨ci,hci,hi⟩:=zjS a (tabC tb a.table).sch frs tb (fun x=>zcP n x frs tb) (tyQ n frs tb) hcol (zaL h.ac.rows) (zaL h.ac.query) (fun r hr=>⟨zaL (h.ac.row r hr).1,fun x hx=>zdQ n x frs tb ((h.ac.row r hr).2 x hx) h.fo.less h.to⟩)
   (fun q hq=>⟨zqH (zaL (h.ac.qs q hq).items) (hsc q),zmJ _ _ q frs tb (n+1) h.fo h.to (zaL (h.ac.qs q hq).items) (hsc q) (fun x hx=>zdQ n x _ tb ((h.ac.qs q hq).hi x hx) (h.fo.ins0 (hsc q)) h.to) (zfL fun x hx=>zdQ n x _ tb ((h.ac.qs q hq).hw x hx) (h.fo.ins0 (hsc q)) h.to)⟩)
  obtain ⟨r,hr,hk⟩:=zoT a (tabC tb a.table).sch ci frs tb (fun w x=>zcP n x w tb) (tyQ n frs tb) (tyC n a tb) h.to.len h.fo.short hcol (zaL h.ac.sets) ht (fun x hx=>zdQ n x.ex _ tb (h.ac.set x hx) hfi h.to) (zfL fun x hx=>zdQ n x _ tb (h.ac.w x hx) hfi h.to) hi hci
  exact ⟨r,by simpa using hr,hk⟩
 ·obtain ⟨r,hr,hk⟩:=znM a _ _ frs tb h0 ht
  refine ⟨r,?_,hk⟩
  subst hr
  simp at h0 ⊢;exact h0
end
abbrev sM:Str:=⟨#[109]⟩
abbrev sN:Str:=⟨#[110]⟩
abbrev sU:Str:=⟨#[117]⟩
abbrev knA:Ac:=⟨2,sU,[],[],[⟨sN,xCol ⟨#[]⟩ sM⟩,⟨sM,xCol ⟨#[]⟩ sN⟩],[],⟨#[]⟩⟩
abbrev vN (n:Int):V:=⟨1,n,⟨#[]⟩⟩
abbrev knT:Tb:=⟨schU,2,[⟨1,[vN 1,vN 2,vN 3]⟩]⟩
abbrev knC:Ch:=⟨[],[],[⟨1,[vN 1,vN 2,vN 3],[vN 1,vN 3,vN 2]⟩]⟩
theorem zuk:zcd 2 knA [] [knT]=(knC,0):=by kernel_rfl
theorem kn_chk:pchk 2 knA [] [knT]=true:=by kernel_rfl
end Go.AM
namespace Go.AM
set_option maxRecDepth 100000
set_option maxHeartbeats 1000000
set_option linter.unusedSimpArgs false
set_option linter.unusedVariables false
theorem zmL  (hs:zad zau) (hc:Pure S.dml_Candidates [knA.av,fsl [],tsl [knT]] (.tup [knC.av,iv 0])) (hk:Pure S.dml_Check [knA.av,fsl [],tsl [knT]] (iv 0)) (he:zab E0 S.slices_Equal_Value [vsl [vN 1,vN 3,vN 2],vsl [vN 1,vN 3,vN 2]] [] (bv true) []):∃ (b:Bool),b=true∧zab E0 S.law16_known [] [] (bv b) []:=by
 exact ⟨bif bif bif (0:Int)==(0:Int) then (0:Int)==(0:Int) else false then (↑[[iv (1:Int),AV.sl [[iv (vN (1:Int)).kind,iv (vN (1:Int)).int,sv (vN (1:Int)).text],[iv (vN (2:Int)).kind,iv (vN (2:Int)).int,sv (vN (2:Int)).text],[iv (vN (3:Int)).kind,iv (vN (3:Int)).int,sv (vN (3:Int)).text]],AV.sl [[iv (vN (1:Int)).kind,iv (vN (1:Int)).int,sv (vN (1:Int)).text],[iv (vN (3:Int)).kind,iv (vN (3:Int)).int,sv (vN (3:Int)).text],[iv (vN (2:Int)).kind,iv (vN (2:Int)).int,sv (vN (2:Int)).text]]]].length:Int)==(1:Int) else false then true else false,(by rfl),(by (try simp only [X.av,Qy.av,V.av,Tb.av,Sch.av,Pl.av,xsl,fsl,vsl,tsl,List.map_append,List.map_cons,List.map_nil,V.cells,Col.cells,Rw.cells,Tb.cells,Fr.cells,Sch.cells,Pl.cells,zbj,za1,za9,za6,zbf,X.cells,Qy.cells,X.args_mk,X.sub_mk,Qy.items_mk,Qy.wh_mk,xCol,xLit,xBin,xNeg,Ac.cells,Se.cells,Pr.cells,Ch.cells,Rw.cells]);exact wk At.law16_known [sc (zho (ByteArray.mk #[117]) (by first|assumption|omega|(simp;done)|(simp;omega))),sc (zcq 1),sc (zcq 2),sc (zcq 3),sc (zeD (ByteArray.mk #[]) (ByteArray.mk #[109])),sc (zeD (ByteArray.mk #[]) (ByteArray.mk #[110])),sc hc,sd [(3,[sg (rfl:true=true)]),(4,[sg (rfl:true=true)]),(5,[sg (rfl:true=true)]),(6,[so (rfl:true=true) (sc hk)]),(7,[sg (rfl:true=true)]),(10,[sg (rfl:true=true)]),(11,[sg (rfl:true=true)]),(12,[sg (rfl:true=true)]),(13,[sg (rfl:true=true)]),(16,[sg (rfl:true=true)]),(17,[sg (rfl:true=true)]),(18,[so (rfl:true=true) (se (xs:=[[iv 1,AV.sl [[iv (vN 1).kind,iv (vN 1).int,sv (vN 1).text],[iv (vN 2).kind,iv (vN 2).int,sv (vN 2).text],[iv (vN 3).kind,iv (vN 3).int,sv (vN 3).text]],AV.sl [[iv (vN 1).kind,iv (vN 1).int,sv (vN 1).text],[iv (vN 3).kind,iv (vN 3).int,sv (vN 3).text],[iv (vN 2).kind,iv (vN 2).int,sv (vN 2).text]]]]) (i:=0) (c:=[iv 1,AV.sl [[iv (vN 1).kind,iv (vN 1).int,sv (vN 1).text],[iv (vN 2).kind,iv (vN 2).int,sv (vN 2).text],[iv (vN 3).kind,iv (vN 3).int,sv (vN 3).text]],AV.sl [[iv (vN 1).kind,iv (vN 1).int,sv (vN 1).text],[iv (vN 3).kind,iv (vN 3).int,sv (vN 3).text],[iv (vN 2).kind,iv (vN 2).int,sv (vN 2).text]]]) (n:=3) ⟨by decide,rfl,rfl⟩)]),(19,[sg (rfl:true=true)]),(20,[sg (rfl:true=true)]),(21,[so (rfl:true=true) (sc (zcq 1))]),(22,[so (rfl:true=true) (sc (zcq 3))]),(23,[so (rfl:true=true) (sc (zcq 2))]),(24,[sg (rfl:true=true)]),(25,[so (rfl:true=true) (sc he)])]] kr)⟩
theorem zsE:∀ r∈knT.rows,∀ v∈r.vals,v.Good:=fun r hr v hv=>by
 simp only [List.mem_singleton] at hr
 subst hr
 simp only [List.mem_cons,List.not_mem_nil,or_false] at hv
 rcases hv with rfl|rfl|rfl <;> exact zbn ⟨by decide,by decide⟩
theorem knIn:DmlIn 2 knA [] [knT] where
 ac:=⟨by simp,by simp,by simp,by simp,by simp,fun s hs=>by
  simp only [List.mem_cons,List.not_mem_nil,or_false] at hs
  rcases hs with rfl|rfl <;> exact ztS ⟨_,_,rfl⟩,by simp,by simp⟩
 kd:=by decide
 fo:=znu 3 (by decide)
 fg:=zpE
 to:=⟨by simp,fun x hx=>by simp only [List.mem_singleton] at hx;subst hx;decide,fun x hx=>by simp only [List.mem_singleton] at hx;subst hx;decide,fun x hx r hr v hv=>by
  simp only [List.mem_singleton] at hx;subst hx;exact (zsE r hr v hv).small⟩
 tg:=⟨fun x hx r hr v hv=>by simp only [List.mem_singleton] at hx;subst hx;exact zsE r hr v hv,fun x hx=>by simp only [List.mem_singleton] at hx;subst hx;decide⟩
 tv:=fun x hx r hr=>by
  simp only [List.mem_singleton] at hx;subst hx
  simp only [List.mem_singleton] at hr;subst hr;decide
theorem zmO:zab E0 S.law16_known [] [] (bv true) []:=by
 have h1:=zoJ knIn
 rw [zuk] at h1
 obtain ⟨r,hr,h2⟩:=c_chk knIn
 obtain rfl:=hr.2 kn_chk
 obtain ⟨q,h4,h3⟩:=zea [vN 1,vN 3,vN 2] (by decide)
 subst h4
 obtain ⟨b,rfl,h⟩:=zmL zh9 h1 h2 h3
 exact h
theorem zlQ {α:Type} {p:α→Bool} {l:List α} {i:Nat} {x:α} {z:Int} (h:z=idxF p (l.drop i) i) (hx:l[i]?=some x) (hp:p x=false):z=idxF p (l.drop (i+1)) (i+1):=by
 rw [zaH hx] at h;rw [h];simp only [idxF,hp,cond_false]
theorem zoG {α:Type} {p:α→Bool} {l:List α} {i:Nat} {x:α} {z:Int} (h:z=idxF p (l.drop i) i) (hx:l[i]?=some x) (hp:p x=true):((i:Nat):Int)=z:=by
 rw [zaH hx] at h;rw [h];simp only [idxF,hp,cond_true]
theorem zhl {α:Type} {p:α→Bool} {l:List α} {z:Int} (h:z=idxF p (l.drop l.length) l.length):-1=z:=by
 rw [List.drop_length] at h;rw [h];rfl
noncomputable def zrl (tb:List Tb) (n:Str) (i:Nat) :Cfg:=zap B.ref9_Find 0 [(1,sv n),(7,.sl (tb.map Tb.cells)),(8,iv ((tb.map Tb.cells).length:Nat)),(9,iv (i:Nat))] []
theorem zgV (tb:List Tb) (n:Str) (hl:zad tb) (i:Nat)  (hi:i≤(tb).length) (hI:idxF (fun t=>zan t n) tb 0=idxF (fun t=>zan t n) (tb.drop i) i):((idxF (fun t=>zan t n) tb 0=idxF (fun t=>zan t n) (tb.drop (tb).length) (tb).length)∧(decide ((((tb).length:Nat):Int) < (((tb.map Tb.cells).length:Nat):Int))=false)∧∀ R,Good E0 B.ref9_Find [] (zrl tb n (tb).length ) R→Good E0 B.ref9_Find [] (zrl tb n i ) R)∨(∃ (r:Int),r=idxF (fun t=>zan t n) tb 0∧Good E0 B.ref9_Find [] (zrl tb n i ) (Shut 0 fun rZ hZ=>rZ=(iv r)∧hZ=[])):=by
 obtain ⟨kk,hk⟩:∃ kk,i+kk=(tb).length:=⟨(tb).length - i,by omega⟩
 induction kk generalizing i  with
 | zero =>
  have e0:i=(tb).length:=by omega
  subst e0
  exact .inl ⟨hI,by simp,fun R hg=>hg⟩
 | succ kk ih =>
  obtain ⟨x,hx⟩:=zaw (l:=tb) (i:=i) (by omega)
  have h0:decide (((i:Nat):Int) < (((tb.map Tb.cells).length:Nat):Int))=true:=by simp;omega
  have hw:IntKind.i64.wrap (((i:Nat):Int)+1)=((i+1:Nat):Int):=zal i (by first|omega|(simp only [zad,Few] at *;omega))
  let p_1:List St:=[sb h0,se (zaf Tb.cells hx rfl)]
  cases h1:ByteArray.toList x.sch.name==ByteArray.toList n
  ·exact (ih (i+1) (by omega) (by exact zlQ hI hx (by assumption)) (by omega)).elim (fun ⟨qZ,xZ,gZ⟩=>.inl ⟨qZ,xZ,fun R hg=>zaa (wkl (p_1++[sb h1,si hw]) [1,7,8,9] 0 kr (gZ R hg))⟩) (fun ⟨rY,pZ,gZ⟩=>.inr ⟨rY,pZ,zaa (wkl [sb h0,se (zaf Tb.cells hx rfl),sb h1,si hw] [1,7,8,9] 0 kr gZ)⟩)
  ·exact .inr ⟨(i:Int),(by exact zoG hI hx (by assumption)),zaa (wkr (p_1++[sb h1]) kr)⟩
theorem zoQ (tb:List Tb) (n:Str) (hl:zad tb):∃ (r:Int),r=idxF (fun t=>zan t n) tb 0∧zab E0 S.ref9_Find [tsl tb,sv n] [] (iv r) []:=by
 rcases zgV tb n (by first|assumption|rfl|omega) 0 (by first|assumption|rfl|omega) (by first|assumption|rfl|omega) with ⟨q1,q1_1,g1⟩|⟨r1_0,p1_0,g1⟩
 ·exact ⟨-1,(by first|assumption|exact zhl (by assumption)),wkc At.ref9_Find [] [1,7,8,9] 0 kr (g1 _ (zaa (wkr [sb q1_1] kr)))⟩
 ·exact ⟨r1_0,(by first|assumption|exact zhl (by assumption)),wkc At.ref9_Find [] [1,7,8,9] 0 kr (g1)⟩
theorem zo0 (tb:List Tb) (n:Str) (hl:zad tb):zab E0 S.ref9_Find [tsl tb,sv n] [] (iv (idxF (fun t=>zan t n) tb 0)) []:=by
 obtain ⟨r,rfl,h⟩:=zoQ tb n hl
 exact h
end Go.AM
namespace Go.AM
set_option maxRecDepth 100000
set_option maxHeartbeats 1000000
set_option linter.unusedSimpArgs false
set_option linter.unusedVariables false
abbrev acD (w:Str) (x:X):Ac:=⟨3,w,[],[],[],[x],⟨#[]⟩⟩
abbrev acU (w:Str) (c:Str) (v x:X):Ac:=⟨2,w,[],[],[⟨c,v⟩],[x],⟨#[]⟩⟩
abbrev xOne:X:=xLit ⟨1,1,⟨#[]⟩⟩
abbrev xNotE (e:X):X:=X.mk 3 0 false ⟨0,0,⟨#[]⟩⟩ ⟨#[]⟩ ⟨#[]⟩ [e] []
abbrev xNulE (e:X):X:=X.mk 6 0 false ⟨0,0,⟨#[]⟩⟩ ⟨#[]⟩ ⟨#[]⟩ [e] []
abbrev tcEs (e:X):List X:=[e,xNotE e,xNulE e]
def tcD (m:List Tb) (w:Str) (e:X) (j:Nat):Ch × Int:=zcd (bif j==0 then 5 else 6) (acD w ((tcEs e).getD j e)) [] m
def tcU (m:List Tb) (w:Str) (e:X) (j:Nat):Ch × Int:=zcd (bif j==0 then 5 else 6) (acU w sN xOne ((tcEs e).getD j e)) [] m
theorem ziY {n:Int} {m:List Tb} (h:StoreV n m):zad m:=by have:=congrArg List.length h.schs;simp [zau] at this;simp only [zad];omega
structure TcOk (cd cu:Ch × Int):Prop where
 code:cd.2=cu.2
 ids:cu.1.upd.map Pr.id=cd.1.del
 len:cd.1.del.length≤900
abbrev tcAll (m:List Tb) (w:Str) (e:X) (i:Nat):List Int:=(List.range i).flatMap (fun j=>(tcD m w e j).1.del)
structure TcIn (m:List Tb) (w:Str) (e:X):Prop where
 cd:∀ j x,(tcEs e)[j]?=some x→Pure S.dml_Candidates [(acD w x).av,fsl [],tsl m] (.tup [(tcD m w e j).1.av,iv (tcD m w e j).2])
 cu:∀ j x,(tcEs e)[j]?=some x→Pure S.dml_Candidates [(acU w sN xOne x).av,fsl [],tsl m] (.tup [(tcU m w e j).1.av,iv (tcU m w e j).2])
 ok:∀ j,j < 3→TcOk (tcD m w e j) (tcU m w e j)
 fin:(∀ j,j < 3→(tcD m w e j).2=0)→srt1 (tcAll m w e 3)=(tabC m w).rows.map Rw.id∧(tcAll m w e 3).length≤12
 tab:decide (idxF (fun t=>zan t w) m 0 < 0)=false
 rows:(tabC m w).rows.length≤1000
end Go.AM
namespace Go.AM
set_option maxRecDepth 100000
set_option maxHeartbeats 1000000
set_option linter.unusedSimpArgs false
set_option linter.unusedVariables false
/- ### the order of values -/
theorem zjG {a b:Int} (h:a < b):cmpI a b=-1:=by simp [cmpI,h]
theorem zjw {a b:Int} (h:a=b):cmpI a b=0:=by simp [cmpI,h]
theorem zjI {a b:Int} (h:b < a):cmpI a b=1:=by
 have:¬ a < b:=by omega
 simp [cmpI,h,this]
/- ### least and greatest items -/
/- ### sums -/
end Go.AM
namespace Go.AM
set_option maxRecDepth 100000
set_option maxHeartbeats 1000000
set_option linter.unusedSimpArgs false
set_option linter.unusedVariables false
/- ### sorting -/
/- ### the tables -/
theorem zda {n:Int} {m:List Tb} {w:Str} (h:StoreV n m) (hw:TabN w):decide (idxF (fun t=>zan t w) m 0 < 0)=false∧tabC m w∈m∧(tabC m w).sch=zaO w∧(zat m w).2=true:=by
 have hs:=h.schs
 match m,hs with
 | [a,b,c],hs =>
  simp only [List.map_cons,List.map_nil,zau,List.cons.injEq,and_true] at hs
  obtain ⟨h1,h2,h3⟩:=hs
  have key:∀ t,t∈[a,b,c]→zbB [a,b,c] w=some t→t.sch=zaO w→decide (idxF (fun t=>zan t w) [a,b,c] 0 < 0)=false∧tabC [a,b,c] w∈[a,b,c]∧(tabC [a,b,c] w).sch=zaO w∧(zat [a,b,c] w).2=true:=fun t ht hf hsch=>by
   have hr:(zat [a,b,c] w).2=true:=by rw [zfi,hf]
   obtain ⟨k1,k2,k3,k4⟩:=zlk hr
   rw [hf] at k1
   rw [← Option.some.inj k1]
   exact ⟨k4,ht,hsch,hr⟩
  rcases hw with rfl|rfl|rfl
  ·have e1:zan a ⟨#[116]⟩=false:=by unfold zan;rw [h1];kernel_rfl
   have e2:zan b ⟨#[116]⟩=true:=by unfold zan;rw [h2];kernel_rfl
   exact key b (by simp) (by simp [zbB,e1,e2]) (by rw [h2];kernel_rfl)
  ·have e1:zan a ⟨#[117]⟩=false:=by unfold zan;rw [h1];kernel_rfl
   have e2:zan b ⟨#[117]⟩=false:=by unfold zan;rw [h2];kernel_rfl
   have e3:zan c ⟨#[117]⟩=true:=by unfold zan;rw [h3];kernel_rfl
   exact key c (by simp) (by simp [zbB,e1,e2,e3]) (by rw [h3];kernel_rfl)
  ·have e1:zan a ⟨#[108,111,103]⟩=true:=by unfold zan;rw [h1];kernel_rfl
   exact key a (by simp) (by simp [zbB,e1]) (by rw [h1];kernel_rfl)
 | [],hs=>simp [zau] at hs
 | [a],hs=>simp [zau] at hs
 | [a,b],hs=>simp [zau] at hs
 | a::b::c::d::r,hs=>simp [zau] at hs
theorem StoreV.short {n:Int} {m:List Tb} (h:StoreV n m) (hn:n≤1000):∀ x∈m,∀ r∈x.rows,zad r.vals:=fun x hx r hr=>by
 have h1:=((h.rows x hx).fit r hr).len
 have h2:=((h.ok hn).tabs x hx).2.few
 have h3:r.vals.length=x.sch.cols.length:=h1
 simp only [zad,Few] at *;omega
theorem zoB {n:Int} {k:Nat} {a:Ac} {m:List Tb} (h:StoreV n m) (hn:n≤1000) (hk:k≤900) (ha:AcOk k a) (h1:1≤a.kind∧a.kind≤3):DmlIn k a [] m :=
 ⟨ha,h1,znu (k+1) (by omega),zpE,(h.ok hn).tbOk,(h.ok hn).tbG,h.short hn⟩
theorem acD_ok {k:Nat} {w:Str} {x:X} (h:XOk k x):AcOk k (acD w x) :=
 ⟨by simp,by simp,by simp,by simp,by simp,by simp,by simp,all1 h⟩
theorem acU_ok {k:Nat} {w c:Str} {v x:X} (hv:XOk k v) (h:XOk k x):AcOk k (acU w c v x) :=
 ⟨by simp,by simp,by simp,by simp,by simp,fun s hs=>by simp only [List.mem_singleton] at hs;subst hs;exact hv,by simp,all1 h⟩
/- ### the codes -/
theorem actD {f:X→Bool} {w:Str} {x:X} (hw:TabN w):actB f (acD w x)=f x:=by
 have:actB f (acD w x)=(f x&&true):=by rcases hw with rfl|rfl|rfl <;> kernel_rfl
 rw [this,Bool.and_true]
theorem zjg {tr:Rw→Bool × Int} {a:Ac} {s:Sch} {frs:List Fr} {tb:List Tb} {t:Tb}:∀ (l:List Rw) (i:Nat) (del:List Int),(cndD tr a s frs tb t l i del).2=0→(∀ r∈l,(tr r).2=0)∧(cndD tr a s frs tb t l i del).1.del=del++(l.filter fun r=>(tr r).1).map Rw.id
 | [],i,del,h=>by unfold cndD;simp
 | x::r,i,del,h=>by
  unfold cndD at h ⊢
  cases h1:(tr x).2 != 0
  ·rw [h1] at h
   have h2:(tr x).2=0:=by simpa using h1
   cases h3:(tr x).1
   ·rw [h3] at h
    obtain ⟨a1,a2⟩:=zjg r (i+1) del h
    simp only [Bool.not_false,cond_false,cond_true]
    refine ⟨fun y hy=>?_,by rw [a2];simp [h3]⟩
    rcases List.mem_cons.1 hy with rfl|hy
    ·exact h2
    ·exact a1 y hy
   ·rw [h3] at h
    obtain ⟨a1,a2⟩:=zjg r (i+1) (del++[x.id]) h
    simp only [Bool.not_true,cond_false]
    refine ⟨fun y hy=>?_,by rw [a2];simp [h3]⟩
    rcases List.mem_cons.1 hy with rfl|hy
    ·exact h2
    ·exact a1 y hy
  ·rw [h1] at h;simp at h;simp [h] at h1
theorem asg1 {f:X→V × Int} {w:Str} {x:X} {frs:List Fr} {tb:List Tb} {row:List V} {v:V} {e:X} (hw:TabN w) (hf:f e=(v,0)) (hr:row.length=(zaO w).cols.length):asgn f (acU w sN e x) (zaO w) row frs tb=(row.set (idxF (fun c=>colC c sN) (zaO w).cols 0).toNat v,0):=by
 have h0:decide (idxF (fun c=>colC c sN) (zaO w).cols 0 < 0)=false:=by rcases hw with rfl|rfl|rfl <;> kernel_rfl
 have h1:idxF (fun c=>colC c sN) (zaO w).cols 0 < ((zaO w).cols.length:Int):=by
  rcases hw with rfl|rfl|rfl <;> exact of_decide_eq_true kr
 have h2:decide ((row.length:Int)≤idxF (fun c=>colC c sN) (zaO w).cols 0)=false:=by
  rw [decide_eq_false_iff_not,hr];omega
 unfold asgn
 simp only [asgL,h0,h2,hf,cond_false,bne_self_eq_false]
theorem zr5 {a:Ac} {b:Bool} {tb:List Tb} {w:Str} (hw:a.table=w) (h:(zat tb w).2=true):(tgt a b tb).2=bif b then 0 else 17:=by
 subst hw
 unfold tgt;rw [h];cases b <;> rfl
theorem zsl {k:Nat} {w:Str} {x:X} {m:List Tb} (h:(zat m w).2=true) (hw:TabN w):zcd k (acD w x) [] m=bif vX k x then zhZ (cTr k (acD w x) [] (tabC m w).sch m) (acD w x) (tabC m w).sch [] m else zh1 (acD w x) (tgt (acD w x) (vX k x) m).1 17:=by
 unfold zcd
 rw [actD hw,zr5 rfl h]
 cases vX k x <;> rfl
theorem zrM {k:Nat} {w c:Str} {v x:X} {m:List Tb} (h:(zat m w).2=true) (ha:actB (vX k) (acU w c v x)=vX k x):zcd k (acU w c v x) [] m=bif vX k x then zhJ (cTr k (acU w c v x) [] (tabC m w).sch m) (cAg k (acU w c v x) [] (tabC m w).sch m) (acU w c v x) (tabC m w).sch [] m else zh1 (acU w c v x) (tgt (acU w c v x) (vX k x) m).1 17:=by
 unfold zcd
 rw [ha,zr5 rfl h]
 cases vX k x <;> rfl
/- ### three values -/
theorem zj4 (n:Str):∀ (l:List Sch) (i:Nat),(∀ s∈l,Few s.cols)→Few (zdU n l i).cols
 | [],i,_=>by simp [zdU]
 | x::r,i,h=>by
  unfold zdU
  cases ByteArray.toList x.name==ByteArray.toList n
  ·exact zj4 n r (i+1) fun s hs=>h s (by simp [hs])
  ·exact h x (by simp)
theorem zqK (w:Str):Few (zaO w).cols:=zj4 w zau 0 fun s hs=>(zkn hs).few
end Go.AM
