/-
  Contracts of the program's functions, part 5.
-/
import Derived.Test.YtoanpmnofigncaaGreatDoorAoE
import Derived.Shelf.Spec.SlicesGrow
import Derived.Laws.MathBits
set_option maxRecDepth 100000
set_option maxHeartbeats 40000000
set_option linter.unusedSimpArgs false
set_option linter.unusedVariables false
namespace Go.AM
theorem zen {p:Prop} (h:p:=by first|rfl|exact null_q hv ‹_›|exact (null_i hv ‹_› ‹_›).elim|exact (zyc hv ‹_› ‹_› ‹_› ‹_›).elim|exact (zAS hv ‹_› ‹_› ‹_› ‹_›).elim|(exfalso;unfold zaW at hv;simp only [*] at hv;simp at hv;done)|(unfold zaW at hv;simp only [*] at hv;simpa using hv)):p:=h
theorem ztS {p:Prop} (h:p:=by first|(unfold fit5;rw [show (l.length != s.cols.length)=false by simp at *;omega];first|assumption|exact zsW ‹_› rfl)|(unfold fit5;rw [show (l.length != s.cols.length)=true by simp at *;omega];rfl)):p:=h
theorem zmg {p:Prop} (h:p:=by first|assumption|rfl|omega|(simp only [List.length_map] at *;simp at *;omega)):p:=h
theorem zpm {p:Prop} (h:p:=by first|assumption|omega|exact ztB hv ‹_› ‹_› ‹_›|trivial):p:=h
theorem zpn {p:Prop} (h:p:=by first|omega|(simp only [zac,Few] at *;omega)):p:=h
theorem znY:∀ {l:List UInt8} {i:Nat} {c:UInt8},zh3 l=true->l[i]?=some c->okB c.toNat=true
 | [],i,c,_,h=>by simp at h
 | a::l,0,c,h,hx=>by simp at hx;subst hx;simp only [zh3,Bool.and_eq_true] at h;exact h.1
 | a::l,i+1,c,h,hx=>by simp only [zh3,Bool.and_eq_true] at h;exact znY h.2 (by simpa using hx)
theorem zze {v:V} {c:UInt8} {i:Nat} (h:zdR v.text=true) (hx:v.text.data.toList[i]?=some c) (h1:decide (((c.toNat:Nat):Int) < 32)=true):False:=by
 simp only [zdR,Bool.and_eq_true] at h
 have:=znY h.1 hx
 simp [okB] at this h1;omega
theorem zzd {v:V} {c:UInt8} {i:Nat} (h:zdR v.text=true) (hx:v.text.data.toList[i]?=some c) (h1:decide ((126:Int) < ((c.toNat:Nat):Int))=true):False:=by
 simp only [zdR,Bool.and_eq_true] at h
 have:=znY h.1 hx
 simp [okB] at this h1;omega
noncomputable def L_rvG (v:V) (i:Nat) :Cfg:=zag B.AS 0 [(1,.p 0 0),(3,iv (i:Nat))] [.box [iv v.kind,iv v.int,sv v.text]]
theorem zjm (v:V) (hp:zdR v.text=true) (hs:decide ((64:Int) < ((v.text.size:Nat):Int))=false) (i:Nat)  (hi:i<=(v.text.size)) (hI:True):(True)/\(decide ((((v.text.size):Nat):Int) < (((v.text.size):Nat):Int))=false)/\∀ R,Good E0 B.AS [] (L_rvG v v.text.size ) R->Good E0 B.AS [] (L_rvG v i ) R:=by
 have hk:=hi;revert i hI;refine zlp v.text.size (fun i hlt ih hi hI _=>?_)
 have h0:decide (((i:Nat):Int) < (((v.text.size):Nat):Int))=true:=by simp;omega
 have hw:IntKind.i64.wrap (((i:Nat):Int)+1)=((i+1:Nat):Int):=zaL i (by (simp only [decide_eq_false_iff_not] at hs;omega))
 obtain ⟨c1,b1⟩:=zol (s:=v.text) (i:=(i:Int)) (by first|omega|(simp only [decide_eq_false_iff_not,decide_eq_true_eq] at *;omega))
 cases h2:decide ((c1.toNat:Int) < 32)
 ·cases h3:decide (126 < (c1.toNat:Int))
  ·obtain ⟨qZ,xZ,gZ⟩:=ih Zo (by first|trivial|assumption|(simp;done)|omega|(simp;omega)|(simp at *;omega)) Zo;exact ⟨qZ,xZ,fun R hg=>zaa (wkl [sb h0,sy b1,sg h2,sy b1,sb h3,si hw] [1,3] 1 kr (gZ R hg))⟩
  ·exact False.elim (by first|exact zze hp (zmz ‹_›) ‹_›|exact zzd hp (zmz ‹_›) ‹_›)
 ·exact False.elim (by first|exact zze hp (zmz ‹_›) ‹_›|exact zzd hp (zmz ‹_›) ‹_›)
theorem ztB {v:V} (hv:zaW v=true) (h0:(v.kind==0)=false) (h1:(v.kind==1)=false) (h2:(v.kind==2)=false):zdR v.text=true:=by
 unfold zaW at hv;rw [h0,h1,h2] at hv
 cases h3:v.kind==3 <;> rw [h3] at hv
 ·simp at hv
 ·cases h4:v.int==0 <;> rw [h4] at hv
  ·simp at hv
  ·exact hv
theorem null_q {v:V} (hv:zaW v=true) (h0:(v.kind==0)=true):(ByteArray.toList v.text==Zs0.toList)=true:=by
 unfold zaW at hv;rw [h0] at hv
 simp only [cond_true,Bool.and_true,Bool.true_and,Bool.and_eq_true] at hv
 rw [zrJ hv.2];exact beq_self_eq_true _
theorem null_i {v:V} (hv:zaW v=true) (h0:(v.kind==0)=true) (h1:(v.int==0)=false):False:=by
 unfold zaW at hv;rw [h0,h1] at hv
 simp at hv
theorem zyc {v:V} (hv:zaW v=true) (h0:(v.kind==0)=false) (h1:(v.kind==1)=false) (h2:(v.kind==2)=false) (h:decide ((64:Int) < ((v.text.size:Nat):Int))=true):False:=by
 have hp:=ztB hv h0 h1 h2
 simp only [zdR,Bool.and_eq_true,decide_eq_true_eq] at hp h
 have:=hp.2
 omega
theorem zAS {v:V} (hv:zaW v=true) (h0:(v.kind==0)=false) (h1:(v.kind==1)=false) (h2:(v.kind==2)=false) (h:(v.int != 0)=true):False:=by
 unfold zaW at hv;rw [h0,h1,h2] at hv
 have h5:(v.int==0)=false:=by simpa using h
 rw [h5] at hv;simp at hv
theorem zq9 (v:V) (hv:zaW v=true):∃ (r:Bool),r=true/\zab E0 S.AS [v.av] [] (bv r) []:=by
 cases h1:v.kind==0
 ·cases h2:v.kind==1
  ·cases h3:v.kind==2
   ·cases h4:v.kind==3
    ·exact ⟨false,zen,wk At.AS [sb h1,sb h2,sb h3,sb h4] kr⟩
    ·cases h5:v.int != 0
     ·cases h6:decide (64 < (↑(ByteArray.size v.text):Int))
      ·obtain ⟨q7,q7_1,g7⟩:=zjm v zpm zpm 0 zpm zpm
       exact ⟨true,zen,wkc At.AS [sb h1,sb h2,sb h3,sb h4,sg h5,sb h6] [1,3] 1 kr (g7 _ (zaa (wkr [sb q7_1] kr)))⟩
      ·exact ⟨false,zen,wk At.AS [sb h1,sb h2,sb h3,sb h4,sg h5,sb h6] kr⟩
     ·exact ⟨false,zen,wk At.AS [sb h1,sb h2,sb h3,sb h4,sb h5] kr⟩
   ·cases h8:v.int==0
    ·cases h9:v.int==1
     ·exact ⟨false,zen,wk At.AS [sb h1,sb h2,sb h3,sg h8,sb h9] kr⟩
     ·exact ⟨ByteArray.toList v.text==Zs0.toList,zen,wk At.AS [sb h1,sb h2,sb h3,sg h8,sg h9] kr⟩
    ·exact ⟨ByteArray.toList v.text==Zs0.toList,zen,wk At.AS [sb h1,sb h2,sb h3,sb h8] kr⟩
  ·exact ⟨ByteArray.toList v.text==Zs0.toList,zen,wk At.AS [sb h1,sb h2] kr⟩
 ·cases h10:v.int==0
  ·exact ⟨false,zen,wk At.AS [sb h1,sb h10] kr⟩
  ·exact ⟨ByteArray.toList v.text==Zs0.toList,zen,wk At.AS [sb h1,sg h10] kr⟩
theorem zfc (v:V) (hv:zaW v=true):zab E0 S.AS [v.av] [] (bv true) []:=by
 obtain ⟨r,rfl,h⟩:=zq9 v hv
 exact h
def fit4 (c:Col) (v:V):Int :=
 bif v.kind==0 then
  bif c.notNull then
   8
  else
   0
 else
  bif v.kind != c.type then
   5
  else
   0
theorem zuM (c:Col) (v:V) (hv:zab E0 S.AS [v.av] [] (bv true) []):zab E0 S.C6 [.agg c.cells,v.av] [] (iv (fit4 c v)) []:=by
 unfold fit4
 cases h1:v.kind==0
 ·let p_1:List St:=[sc hv,sb Zf,sb h1]
  cases h2:v.kind != c.type
  ·exact wk At.C6 (p_1++[sb h2]) kr
  ·exact wk At.C6 (p_1++[sb h2]) kr
 ·let p_2:List St:=[sc hv,sb Zf,sb h1]
  cases h3:c.notNull
  ·exact wk At.C6 (p_2++[sb h3]) kr
  ·exact wk At.C6 (p_2++[sb h3]) kr
def fitL:List Col->List V->Int
 | c::cs,v::vs=>bif fit4 c v != 0 then fit4 c v else fitL cs vs
 | _,_=>0
def fit5 (s:Sch) (l:List V):Int:=bif l.length != s.cols.length then 17 else fitL s.cols l
theorem zqw {cs:List Col} {vs:List V} {i:Nat} {c:Col} {v:V} {z:Int} (h:z=fitL (cs.drop i) (vs.drop i)) (hc:cs[i]?=some c) (hv:vs[i]?=some v) (h0:(fit4 c v != 0)=false):z=fitL (cs.drop (i+1)) (vs.drop (i+1)):=by
 rw [zam hc,zam hv] at h;rw [h];simp only [fitL,h0,cond_false]
theorem zsV {cs:List Col} {vs:List V} {i:Nat} {c:Col} {v:V} {z:Int} (h:z=fitL (cs.drop i) (vs.drop i)) (hc:cs[i]?=some c) (hv:vs[i]?=some v) (h0:(fit4 c v != 0)=true):fit4 c v=z:=by
 rw [zam hc,zam hv] at h;rw [h];simp only [fitL,h0,cond_true]
theorem zsW {cs:List Col} {vs:List V} {n:Nat} {z:Int} (h:z=fitL (cs.drop n) (vs.drop n)) (hn:n=cs.length):0=z:=by
 rw [h,hn,List.drop_length];rfl
noncomputable def L_f5 (s:Sch) (l:List V) (i:Nat) :Cfg:=zag B.BZ 0 [(1,vsl l),(15,.sl (s.cols.map Col.cells)),(16,iv ((s.cols.map Col.cells).length:Nat)),(17,iv (i:Nat))] [.box s.cells]
theorem zk4 (s:Sch) (l:List V) (hs:zac s.cols) (hll:l.length=s.cols.length) (hg:∀ v∈l,v.Good) (i:Nat)  (hi:i<=(s.cols).length) (hI:fitL s.cols l=fitL (s.cols.drop i) (l.drop i)):((fitL s.cols l=fitL (s.cols.drop (s.cols).length) (l.drop (s.cols).length))/\(decide ((((s.cols).length:Nat):Int) < (((s.cols.map Col.cells).length:Nat):Int))=false)/\∀ R,Good E0 B.BZ [] (L_f5 s l (s.cols).length ) R->Good E0 B.BZ [] (L_f5 s l i ) R)\/(∃ (r:Int),r=fitL s.cols l/\Good E0 B.BZ [] (L_f5 s l i ) (Shut 0 fun rZ hZ=>rZ=(iv r)/\hZ=[])):=by
 have hk:=hi;revert i;refine zlp ((s.cols).length) (fun i hlt ih hi hI _=>?_)
 obtain ⟨x,hx,h0,hw⟩:=zlq (l:=s.cols) ((s.cols.map Col.cells).length) hlt zpn
 obtain ⟨y,hy⟩:=za4 (l:=l) (i:=i) (by have:=zbu hx;omega);have hyv:=zfc y (hg y (List.mem_of_getElem? hy)).valid
 let p_1:List St:=[sb h0,se (zae Col.cells hx rfl),sd [(3,[se (zae V.cells hy rfl)]),(5,[sc (zuM x y (by first|assumption|omega|(simp;done)|(simp;omega)))])]]
 cases h1:fit4 x y != 0
 ·exact zie2 (ih Zo (by exact zqw hI hx hy ‹_›) Zo) fun R gY=>zaa (wkl (p_1++[sb h1,si hw]) [1,15,16,17] 1 kr gY)
 ·exact .inr ⟨fit4 x y,(by exact zsV hI hx hy ‹_›),zaa (wkr (p_1++[sb h1]) kr)⟩
theorem zum (s:Sch) (l:List V) (hs:zac s.cols) (hg:∀ v∈l,v.Good):∃ (r:Int),r=fit5 s l/\zab E0 S.BZ [s.av,vsl l] [] (iv r) []:=by
 cases h1:(↑(List.map V.cells l).length:Int) != (↑(List.map Col.cells s.cols).length:Int)
 ·rcases zk4 s l zmg zmg zmg 0 zmg zmg with ⟨q2,q2_1,g2⟩|⟨r2_0,p2_0,g2⟩
  ·exact ⟨0,ztS,wkc At.BZ [sb h1] [1,15,16,17] 1 kr (g2 _ (zaa (wkr [sb q2_1] kr)))⟩
  ·exact ⟨r2_0,ztS,wkc At.BZ [sb h1] [1,15,16,17] 1 kr (g2)⟩
 ·exact ⟨17,ztS,wk At.BZ [sb h1] kr⟩
theorem zek (s:Sch) (l:List V) (hs:zac s.cols) (hg:∀ v∈l,v.Good):zab E0 S.BZ [s.av,vsl l] [] (iv (fit5 s l)) []:=by
 obtain ⟨r,rfl,h⟩:=zum s l hs hg
 exact h
noncomputable def zwi (s:Sch) (i:Nat) :Cfg:=zag B.Bo 0 [(6,.sl (s.cols.map Col.cells)),(7,iv ((s.cols.map Col.cells).length:Nat)),(8,iv (i:Nat))] [.box s.cells]
theorem zgS (s:Sch) (hs:zac s.cols) (i:Nat)  (hi:i<=(s.cols).length) (hI:idxF (fun c=>c.key) s.cols 0=idxF (fun c=>c.key) (s.cols.drop i) i):((idxF (fun c=>c.key) s.cols 0=idxF (fun c=>c.key) (s.cols.drop (s.cols).length) (s.cols).length)/\(decide ((((s.cols).length:Nat):Int) < (((s.cols.map Col.cells).length:Nat):Int))=false)/\∀ R,Good E0 B.Bo [] (zwi s (s.cols).length ) R->Good E0 B.Bo [] (zwi s i ) R)\/(∃ (r:Int),r=idxF (fun c=>c.key) s.cols 0/\Good E0 B.Bo [] (zwi s i ) (Shut 0 fun rZ hZ=>rZ=(iv r)/\hZ=[])):=by
 have hk:=hi;revert i;refine zlp ((s.cols).length) (fun i hlt ih hi hI _=>?_)
 obtain ⟨x,hx,h0,hw⟩:=zlq (l:=s.cols) ((s.cols.map Col.cells).length) hlt zpn
 let p_1:List St:=[sb h0,se (zae Col.cells hx rfl)]
 cases h1:x.key
 ·exact zie2 (ih Zo (by exact zhz hI hx ‹_›) Zo) fun R gY=>zaa (wkl (p_1++[sb h1,si hw]) [6,7,8] 1 kr gY)
 ·exact .inr ⟨(i:Int),(by exact zjK hI hx ‹_›),zaa (wkr (p_1++[sb h1]) kr)⟩
theorem znE (s:Sch) (hs:zac s.cols):∃ (r:Int),r=idxF (fun c=>c.key) s.cols 0/\zab E0 S.Bo [s.av] [] (iv r) []:=by
 rcases zgS s Za 0 Za Za with ⟨q1,q1_1,g1⟩|⟨r1_0,p1_0,g1⟩
 ·exact ⟨-1,(by first|assumption|exact zds ‹_›),wkc At.Bo [] [6,7,8] 1 kr (g1 _ (zaa (wkr [sb q1_1] kr)))⟩
 ·exact ⟨r1_0,(by first|assumption|exact zds ‹_›),wkc At.Bo [] [6,7,8] 1 kr (g1)⟩
theorem znS (s:Sch) (hs:zac s.cols):zab E0 S.Bo [s.av] [] (iv (idxF (fun c=>c.key) s.cols 0)) []:=by
 obtain ⟨r,rfl,h⟩:=znE s hs
 exact h
noncomputable def L_h7 (l:List Int) (n:Int) (i:Nat) :Cfg:=zag B.Ct 0 [(1,iv n),(7,isl l),(8,iv ((l.map zaN).length:Nat)),(9,iv (i:Nat))] []
theorem zln (l:List Int) (n:Int) (hl:zac l) (i:Nat)  (hi:i<=(l).length) (hI:l.any (fun x=>x==n)=(l.drop i).any (fun x=>x==n)):((l.any (fun x=>x==n)=(l.drop (l).length).any (fun x=>x==n))/\(decide ((((l).length:Nat):Int) < (((l.map zaN).length:Nat):Int))=false)/\∀ R,Good E0 B.Ct [] (L_h7 l n (l).length ) R->Good E0 B.Ct [] (L_h7 l n i ) R)\/(∃ (r:Bool),r=l.any (fun x=>x==n)/\Good E0 B.Ct [] (L_h7 l n i ) (Shut 0 fun rZ hZ=>rZ=(bv r)/\hZ=[])):=by
 have hk:=hi;revert i;refine zlp ((l).length) (fun i hlt ih hi hI _=>?_)
 obtain ⟨x,hx,h0,hw⟩:=zlq (l:=l) ((l.map zaN).length) hlt zpn
 let p_1:List St:=[sb h0,se (zae (fun n=>[iv n]) hx rfl)]
 cases h1:x==n
 ·exact zie2 (ih Zo (by (rw [hI,zam hx];simp only [List.any_cons, *,Bool.false_or])) Zo) fun R gY=>zaa (wkl (p_1++[sb h1,si hw]) [1,7,8,9] 0 kr gY)
 ·exact .inr ⟨true,(by (rw [hI,zam hx];simp only [List.any_cons, *,Bool.true_or])),zaa (wkr (p_1++[sb h1]) kr)⟩
theorem zwS (l:List Int) (n:Int) (hl:zac l):∃ (r:Bool),r=l.any (fun x=>x==n)/\zab E0 S.Ct [isl l,iv n] [] (bv r) []:=by
 rcases zln l n Za 0 Za Za with ⟨q1,q1_1,g1⟩|⟨r1_0,p1_0,g1⟩
 ·exact ⟨false,(by first|assumption|(rw [‹List.any _ _=List.any _ _›,List.drop_length];rfl)),wkc At.Ct [] [1,7,8,9] 0 kr (g1 _ (zaa (wkr [sb q1_1] kr)))⟩
 ·exact ⟨r1_0,(by first|assumption|(rw [‹List.any _ _=List.any _ _›,List.drop_length];rfl)),wkc At.Ct [] [1,7,8,9] 0 kr (g1)⟩
theorem zxt (l:List Int) (n:Int) (hl:zac l):zab E0 S.Ct [isl l,iv n] [] (bv (l.any (fun x=>x==n))) []:=by
 obtain ⟨r,rfl,h⟩:=zwS l n hl
 exact h
def fnd7 (n:Int):List Pr->List V × Bool
 | []=>([],false)
 | p::r=>bif p.id==n then (p.nw,true) else fnd7 n r
noncomputable def L_f7 (l:List Pr) (n:Int) (i:Nat) :Cfg:=zag B.Cd 0 [(1,iv n),(8,.sl (l.map Pr.cells)),(9,iv ((l.map Pr.cells).length:Nat)),(10,iv (i:Nat))] []
theorem zk5 (l:List Pr) (n:Int) (hl:zac l) (i:Nat)  (hi:i<=(l).length) (hI:fnd7 n l=fnd7 n (l.drop i)):((fnd7 n l=fnd7 n (l.drop (l).length))/\(decide ((((l).length:Nat):Int) < (((l.map Pr.cells).length:Nat):Int))=false)/\∀ R,Good E0 B.Cd [] (L_f7 l n (l).length ) R->Good E0 B.Cd [] (L_f7 l n i ) R)\/(∃ (v:List V) (r:Bool),(v,r)=fnd7 n l/\Good E0 B.Cd [] (L_f7 l n i ) (Shut 0 fun rZ hZ=>rZ=(.tup [vsl v,bv r])/\hZ=[])):=by
 have hk:=hi;revert i;refine zlp ((l).length) (fun i hlt ih hi hI _=>?_)
 obtain ⟨x,hx,h0,hw⟩:=zlq (l:=l) ((l.map Pr.cells).length) hlt zpn
 let p_1:List St:=[sb h0,se (zae Pr.cells hx rfl)]
 cases h1:x.id==n
 ·exact (ih Zo (by (rw [hI,zam hx];simp only [fnd7, *,cond_false])) Zo).elim (fun ⟨qZ,xZ,gZ⟩=>.inl ⟨qZ,xZ,fun R hg=>zaa (wkl (p_1++[sb h1,si hw]) [1,8,9,10] 0 kr (gZ R hg))⟩) (fun ⟨vY,rY,pZ,gZ⟩=>.inr ⟨vY,rY,pZ,zaa (wkl [sb h0,se (zae Pr.cells hx rfl),sb h1,si hw] [1,8,9,10] 0 kr gZ)⟩)
 ·exact .inr ⟨x.nw,true,(by (rw [hI,zam hx];simp only [fnd7, *,cond_true])),zaa (wkr (p_1++[sb h1]) kr)⟩
theorem zuo (l:List Pr) (n:Int) (hl:zac l):∃ (v:List V) (r:Bool),(v,r)=fnd7 n l/\zab E0 S.Cd [.sl (l.map Pr.cells),iv n] [] (.tup [vsl v,bv r]) []:=by
 rcases zk5 l n Za 0 Za Za with ⟨q1,q1_1,g1⟩|⟨r1_0,r1_1,p1_0,g1⟩
 ·exact ⟨[],false,(by first|assumption|(rw [‹fnd7 _ _=fnd7 _ _›,List.drop_length];rfl)),wkc At.Cd [] [1,8,9,10] 0 kr (g1 _ (zaa (wkr [sb q1_1] kr)))⟩
 ·exact ⟨r1_0,r1_1,(by first|assumption|(rw [‹fnd7 _ _=fnd7 _ _›,List.drop_length];rfl)),wkc At.Cd [] [1,8,9,10] 0 kr (g1)⟩
theorem zuO (l:List Pr) (n:Int) (hl:zac l):zab E0 S.Cd [.sl (l.map Pr.cells),iv n] [] (.tup [vsl (fnd7 n l).1,bv (fnd7 n l).2]) []:=by
 obtain ⟨v,r,h,h2⟩:=zuo l n hl
 rw [← h];exact h2
theorem zdw {p:Prop} (h:p:=by first|assumption|omega|(simp only [decide_eq_false_iff_not,decide_eq_true_eq,List.length_map] at *;omega)|(simp;done)):p:=h
theorem ztT {p:Prop} (h:p:=by first|exact zmE hI hx (zvz ‹_›)|exact zmE hI hx (zvA ‹_›)|exact zsN hI hx (zqe ‹_› ‹_›) ‹_›):p:=h
theorem zpo {p:Prop} (h:p:=by first|assumption|omega|exact ⟨rfl,by simp⟩|(simp;done)):p:=h
abbrev itI (n:Int):AV × AV:=(iv n,bv true)
abbrev anyI (ks:List Int) (n:Int):Bool:=ks.any fun x=>x==n
theorem ziF (n m:Int):zcD (iv n) (iv m) (n==m):=⟨false,[.int .i64 n],[.int .i64 m],rfl,rfl,by simp [za9,zdg]⟩
theorem zeK {ks:List Int} {n:Int}:anyI ks n=true↔n∈ks:=by
 simp [anyI]
theorem zA7 {ks:List Int} {n:Int} (h:anyI ks n=false):n ∉ ks:=fun hm=>by rw [zeK.2 hm] at h;cases h
theorem zvn (ks:List Int) (n:Int) (h:anyI ks n=false):PutAt (ks.map itI) (iv n) (bv true) ((ks++[n]).map itI):=by
 refine .new (fun p hp=>?_) ?_
 ·obtain ⟨m,hm,rfl⟩:=List.mem_map.1 hp
  have h1:=ziF n m
  rwa [show (n==m)=false by simp;rintro rfl;exact zA7 h hm] at h1
 ·rw [List.map_append];exact List.perm_append_comm
theorem lookI (ks:List Int) (n:Int):LookAt (ks.map itI) (iv n) (bif anyI ks n then some (bv true) else none) where
 all:=fun p hp=>by obtain ⟨m,hm,rfl⟩:=List.mem_map.1 hp;exact ⟨_,ziF n m⟩
 at_:=fun p hp h=>by
  obtain ⟨m,hm,rfl⟩:=List.mem_map.1 hp
  have h1:(n==m)=true:=zcD.det (ziF n m) h
  have h2:n=m:=by simpa using h1
  have:n∈ks:=h2 ▸ hm
  rw [zeK.2 this];rfl
 some_:=fun x hx=>by
  cases h:anyI ks n
  ·rw [h] at hx;cases hx
  ·have hm:=zeK.1 h
   refine ⟨itI n,List.mem_map.2 ⟨n,hm,rfl⟩,?_⟩
   have:=ziF n n;rwa [beq_self_eq_true] at this
theorem zAc (ks:List Int) (n:Int):LookV (ks.map itI) (iv n) (.bl false) (bv (anyI ks n)) :=
 ⟨_,lookI ks n,by cases anyI ks n <;> first|exact .inr rfl|exact .inl rfl⟩
/- values -/
abbrev itV (v:V):AV × AV:=(v.av,bv true)
def eqV (a b:V):Bool:=a.kind==b.kind&&(a.int==b.int&&(a.text==b.text&&true))
theorem zmH {a b:V}:eqV a b=true↔a=b:=by
 obtain ⟨k,i,t⟩:=a;obtain ⟨k',i',t'⟩:=b
 constructor
 ·intro h
  simp only [eqV,Bool.and_eq_true,Bool.and_true,beq_iff_eq] at h
  obtain ⟨rfl,rfl,h⟩:=h
  rw [zrJ h]
 ·intro h;cases h;simp [eqV,zvi]
abbrev anyV (ks:List V) (n:V):Bool:=ks.any fun x=>eqV n x
theorem zmP (n m:V):zcD n.av m.av (eqV n m):=⟨true,[.int .i64 n.kind,.int .i64 n.int,.string n.text],[.int .i64 m.kind,.int .i64 m.int,.string m.text],rfl,rfl,by simp [za9,zdg,eqV]⟩
theorem zkh {ks:List V} {n:V}:anyV ks n=true↔n∈ks:=by
 simp only [anyV,List.any_eq_true,zmH]
 constructor
 ·rintro ⟨x,hx,rfl⟩;exact hx
 ·intro h;exact ⟨n,h,rfl⟩
theorem zvg {ks:List V} {n:V} (h:anyV ks n=false):n ∉ ks:=fun hm=>by rw [zkh.2 hm] at h;cases h
theorem zmF (ks:List V) (n:V) (h:anyV ks n=false):PutAt (ks.map itV) n.av (bv true) ((ks++[n]).map itV):=by
 refine .new (fun p hp=>?_) ?_
 ·obtain ⟨m,hm,rfl⟩:=List.mem_map.1 hp
  have h1:=zmP n m
  have h2:eqV n m=false:=by
   cases he:eqV n m
   ·rfl
   ·exact absurd (zmH.1 he ▸ hm) (zvg h)
  rwa [h2] at h1
 ·rw [List.map_append];exact List.perm_append_comm
theorem lookV (ks:List V) (n:V):LookAt (ks.map itV) n.av (bif anyV ks n then some (bv true) else none) where
 all:=fun p hp=>by obtain ⟨m,hm,rfl⟩:=List.mem_map.1 hp;exact ⟨_,zmP n m⟩
 at_:=fun p hp h=>by
  obtain ⟨m,hm,rfl⟩:=List.mem_map.1 hp
  have h1:eqV n m=true:=zcD.det (zmP n m) h
  have:n∈ks:=zmH.1 h1 ▸ hm
  rw [zkh.2 this];rfl
 some_:=fun x hx=>by
  cases h:anyV ks n
  ·rw [h] at hx;cases hx
  ·have hm:=zkh.1 h
   refine ⟨itV n,List.mem_map.2 ⟨n,hm,rfl⟩,?_⟩
   have:=zmP n n;rwa [zmH.2 rfl] at this
theorem zfW (ks:List V) (n:V):LookV (ks.map itV) n.av (.bl false) (bv (anyV ks n)) :=
 ⟨_,lookV ks n,by cases anyV ks n <;> first|exact .inr rfl|exact .inl rfl⟩
def zc2 (kc:Int) (r:Rw):Option V:=bif decide (0<=kc)&&decide (kc < ((r.vals.map V.cells).length:Int)) then some (zao r.vals kc) else none
def za0 (kc:Int) (l:List Rw):List V:=l.filterMap (zc2 kc)
theorem zlY {kc:Int} {l:List Rw} {i:Nat} {x:Rw} (hx:l[i]?=some x):za0 kc (l.take (i+1))=za0 kc (l.take i)++(zc2 kc x).toList:=by
 unfold za0
 rw [List.take_add_one,hx,List.filterMap_append]
 cases h:zc2 kc x <;> simp [h]
theorem zmE {kc:Int} {l:List Rw} {i:Nat} {x:Rw} {ks:List V} (hI:ks=za0 kc (l.take i)/\ks.Nodup) (hx:l[i]?=some x) (h:zc2 kc x=none):ks=za0 kc (l.take (i+1))/\ks.Nodup:=by
 rw [zlY hx,h];simpa using hI
theorem zsN {kc:Int} {l:List Rw} {i:Nat} {x:Rw} {ks:List V} {v:V} (hI:ks=za0 kc (l.take i)/\ks.Nodup) (hx:l[i]?=some x) (h:zc2 kc x=some v) (hn:anyV ks v=false):ks++[v]=za0 kc (l.take (i+1))/\(ks++[v]).Nodup:=by
 rw [zlY hx,h]
 refine ⟨by rw [hI.1];rfl,?_⟩
 rw [List.nodup_append]
 exact ⟨hI.2,by simp,fun a ha b hb=>by simp only [List.mem_singleton] at hb;subst hb;rintro rfl;exact zvg hn ha⟩
theorem zyL {kc:Int} {l:List Rw} {i:Nat} {x:Rw} {ks:List V} {v:V} (hI:ks=za0 kc (l.take i)/\ks.Nodup) (hx:l[i]?=some x) (h:zc2 kc x=some v) (hn:anyV ks v=true):¬ (za0 kc l).Nodup:=by
 intro hd
 have h1:za0 kc l=za0 kc (l.take (i+1))++za0 kc (l.drop (i+1)):=by unfold za0;rw [← List.filterMap_append,List.take_append_drop]
 rw [h1,zlY hx,h] at hd
 have h2:=(List.nodup_append.1 hd).1
 have h3:=(List.nodup_append.1 h2).2.2 v (by rw [← hI.1];exact zkh.1 hn) v Zs
 exact h3 rfl
theorem zvz {kc:Int} {x:Rw} (h:decide ((0:Int)<=kc)=false):zc2 kc x=none:=by simp only [zc2,h,Bool.false_and,cond_false]
theorem zvA {kc:Int} {x:Rw} (h:decide (kc < ((x.vals.map V.cells).length:Int))=false):zc2 kc x=none:=by simp only [zc2,h,Bool.and_false,cond_false]
theorem zqe {kc:Int} {x:Rw} (h:decide ((0:Int)<=kc)=true) (h2:decide (kc < ((x.vals.map V.cells).length:Int))=true):zc2 kc x=some (zao x.vals kc):=by simp only [zc2,h,h2,Bool.and_self,cond_true]
noncomputable def L_du (t:Tb) (kc:Int) (i:Nat) (ks:List V):Cfg:=zag B.Bb 0 [(3,iv kc),(4,.mp 1),(12,.sl (t.rows.map Rw.cells)),(13,iv ((t.rows.map Rw.cells).length:Nat)),(14,iv (i:Nat))] [.box t.cells,.mp (ks.map itV)]
theorem zht (t:Tb) (kc:Int) (hs:zac t.rows) (i:Nat) (ks:List V) (hi:i<=(t.rows).length) (hI:ks=za0 kc (t.rows.take i)/\ks.Nodup):(∃ (ks':List V),(ks'=za0 kc (t.rows.take (t.rows).length)/\ks'.Nodup)/\(decide ((((t.rows).length:Nat):Int) < (((t.rows.map Rw.cells).length:Nat):Int))=false)/\∀ R,Good E0 B.Bb [] (L_du t kc (t.rows).length ks') R->Good E0 B.Bb [] (L_du t kc i ks) R)\/(∃ (r:Bool),(r=true/\¬ (za0 kc t.rows).Nodup)/\Good E0 B.Bb [] (L_du t kc i ks) (Shut 0 fun rZ hZ=>rZ=(bv r)/\hZ=[])):=by
 have hk:=hi;revert i ks;refine zlp ((t.rows).length) (fun i hlt ih ks hi hI _=>?_)
 obtain ⟨x,hx,h0,hw⟩:=zlq (l:=t.rows) ((t.rows.map Rw.cells).length) hlt
 cases h1:decide (0<=kc)
 ·exact (ih ks Zo ztT Zo).elim (fun ⟨ksZ,qZ,xZ,gZ⟩=>.inl ⟨ksZ,qZ,xZ,fun R hg=>zaa (wkl [sb h0,se (zae Rw.cells hx rfl),sb h1,si hw] [3,4,12,13,14] 2 kr (gZ R hg))⟩) (fun ⟨rY,pZ,gZ⟩=>.inr ⟨rY,pZ,zaa (wkl [sb h0,se (zae Rw.cells hx rfl),sb h1,si hw] [3,4,12,13,14] 2 kr gZ)⟩)
 ·cases h2:decide (kc < (↑(List.map V.cells x.vals).length:Int))
  ·exact (ih ks Zo ztT Zo).elim (fun ⟨ksZ,qZ,xZ,gZ⟩=>.inl ⟨ksZ,qZ,xZ,fun R hg=>zaa (wkl [sb h0,se (zae Rw.cells hx rfl),sg h1,sb h2,si hw] [3,4,12,13,14] 2 kr (gZ R hg))⟩) (fun ⟨rY,pZ,gZ⟩=>.inr ⟨rY,pZ,zaa (wkl [sb h0,se (zae Rw.cells hx rfl),sg h1,sb h2,si hw] [3,4,12,13,14] 2 kr gZ)⟩)
  ·cases h3:anyV ks (zao x.vals kc)
   ·exact (ih (ks++[zao x.vals kc]) Zo ztT Zo).elim (fun ⟨ksZ,qZ,xZ,gZ⟩=>.inl ⟨ksZ,qZ,xZ,fun R hg=>zaa (wkl [sb h0,se (zae Rw.cells hx rfl),sg h1,sb h2,se (zcB x.vals kc zdw zdw),sx (.el [bv (anyV ks (zao x.vals kc))]) (And.intro (zbN ((zao x.vals kc).kind) ((zao x.vals kc).int) ((zao x.vals kc).text)) (zfW ks (zao x.vals kc))),sb h3,se (zcB x.vals kc zdw zdw),sx (.call [] .un [.mp (List.map itV (ks++[zao x.vals kc]))]) (And.intro (zbN ((zao x.vals kc).kind) ((zao x.vals kc).int) ((zao x.vals kc).text)) (zmF ks (zao x.vals kc) zdw)),si hw] [3,4,12,13,14] 2 kr (gZ R hg))⟩) (fun ⟨rY,pZ,gZ⟩=>.inr ⟨rY,pZ,zaa (wkl [sb h0,se (zae Rw.cells hx rfl),sg h1,sb h2,se (zcB x.vals kc zdw zdw),sx (.el [bv (anyV ks (zao x.vals kc))]) (And.intro (zbN ((zao x.vals kc).kind) ((zao x.vals kc).int) ((zao x.vals kc).text)) (zfW ks (zao x.vals kc))),sb h3,se (zcB x.vals kc zdw zdw),sx (.call [] .un [.mp (List.map itV (ks++[zao x.vals kc]))]) (And.intro (zbN ((zao x.vals kc).kind) ((zao x.vals kc).int) ((zao x.vals kc).text)) (zmF ks (zao x.vals kc) zdw)),si hw] [3,4,12,13,14] 2 kr gZ)⟩)
   ·exact .inr ⟨true,(by exact ⟨rfl,zyL hI hx (zqe ‹_› ‹_›) ‹_›⟩),zaa (wkr [sb h0,se (zae Rw.cells hx rfl),sg h1,sb h2,se (zcB x.vals kc zdw zdw),sx (.el [bv (anyV ks (zao x.vals kc))]) (And.intro (zbN ((zao x.vals kc).kind) ((zao x.vals kc).int) ((zao x.vals kc).text)) (zfW ks (zao x.vals kc))),sb h3] kr)⟩
theorem zif (t:Tb) (hs:zac t.sch.cols) (hr:zac t.rows):∃ (b:Bool),(b=false↔(za0 (idxF (fun c=>c.key) t.sch.cols 0) t.rows).Nodup)/\zab E0 S.Bb [t.av] [] (bv b) []:=by
 let p_1:List St:=[sc (znS t.sch zpo)]
 rcases zht t (idxF (fun c=>c.key) t.sch.cols 0) zpo 0 ([]) zpo zpo with ⟨ks1,q1,q1_1,g1⟩|⟨r1_0,p1_0,g1⟩
 ·exact ⟨false,(by first|(have hq1:=‹_=za0 _ _/\List.Nodup _›;rw [List.take_length] at hq1;exact ⟨fun _=>hq1.1 ▸ hq1.2,fun _=>rfl⟩)|(have hq1:=‹_=true/\¬ List.Nodup _›;rw [hq1.1];exact ⟨fun h=>(by cases h),fun h=>absurd h hq1.2⟩)),wkc At.Bb p_1 [3,4,12,13,14] 2 kr (g1 _ (zaa (wkr [sb q1_1] kr)))⟩
 ·exact ⟨r1_0,(by first|(have hq1:=‹_=za0 _ _/\List.Nodup _›;rw [List.take_length] at hq1;exact ⟨fun _=>hq1.1 ▸ hq1.2,fun _=>rfl⟩)|(have hq1:=‹_=true/\¬ List.Nodup _›;rw [hq1.1];exact ⟨fun h=>(by cases h),fun h=>absurd h hq1.2⟩)),wkc At.Bb p_1 [3,4,12,13,14] 2 kr (g1)⟩
noncomputable def zv6 (s:Sch) (n:Str) (i:Nat) :Cfg:=zag B.Cf 0 [(1,sv n),(8,.sl (s.cols.map Col.cells)),(9,iv ((s.cols.map Col.cells).length:Nat)),(10,iv (i:Nat))] [.box s.cells]
theorem zj8 (s:Sch) (n:Str) (h:zac s.cols) (i:Nat)  (hi:i<=(s.cols).length) (hI:idxF (fun c=>colC c n) s.cols 0=idxF (fun c=>colC c n) (s.cols.drop i) i):((idxF (fun c=>colC c n) s.cols 0=idxF (fun c=>colC c n) (s.cols.drop (s.cols).length) (s.cols).length)/\(decide ((((s.cols).length:Nat):Int) < (((s.cols.map Col.cells).length:Nat):Int))=false)/\∀ R,Good E0 B.Cf [] (zv6 s n (s.cols).length ) R->Good E0 B.Cf [] (zv6 s n i ) R)\/(∃ (r:Int),r=idxF (fun c=>colC c n) s.cols 0/\Good E0 B.Cf [] (zv6 s n i ) (Shut 0 fun rZ hZ=>rZ=(iv r)/\hZ=[])):=by
 have hk:=hi;revert i;refine zlp ((s.cols).length) (fun i hlt ih hi hI _=>?_)
 obtain ⟨x,hx,h0,hw⟩:=zlq (l:=s.cols) ((s.cols.map Col.cells).length) hlt
 let p_1:List St:=[sb h0,se (zae Col.cells hx rfl)]
 cases h1:ByteArray.toList x.name==ByteArray.toList n
 ·exact zie2 (ih Zo (by exact zhz hI hx ‹_›) Zo) fun R gY=>zaa (wkl (p_1++[sb h1,si hw]) [1,8,9,10] 1 kr gY)
 ·exact .inr ⟨(i:Int),(by exact zjK hI hx ‹_›),zaa (wkr (p_1++[sb h1]) kr)⟩
theorem zul (s:Sch) (n:Str) (hs:zac s.cols):∃ (r:Int),r=idxF (fun c=>colC c n) s.cols 0/\zab E0 S.Cf [s.av,sv n] [] (iv r) []:=by
 rcases zj8 s n Za 0 Za Za with ⟨q1,q1_1,g1⟩|⟨r1_0,p1_0,g1⟩
 ·exact ⟨-1,(by first|assumption|exact zds ‹_›),wkc At.Cf [] [1,8,9,10] 1 kr (g1 _ (zaa (wkr [sb q1_1] kr)))⟩
 ·exact ⟨r1_0,(by first|assumption|exact zds ‹_›),wkc At.Cf [] [1,8,9,10] 1 kr (g1)⟩
theorem zgi (s:Sch) (n:Str) (hs:zac s.cols):zab E0 S.Cf [s.av,sv n] [] (iv (idxF (fun c=>colC c n) s.cols 0)) []:=by
 obtain ⟨r,rfl,h⟩:=zul s n hs
 exact h
structure ColV (s:Sch) (i:Nat) (x:Col):Prop where
 name:(!zaD x.name)=false
 lo:decide (x.type < 1)=false
 hi:decide ((3:Int) < x.type)=false
 key:x.key=true->x.notNull=true
 at_:(idxF (fun c=>colC c x.name) s.cols 0 != ((i:Nat):Int))=false
structure SchV (s:Sch):Prop where
 name:(!zaD s.name)=false
 lo:decide (((s.cols.map Col.cells).length:Int) < 1)=false
 hi:decide ((6:Int) < ((s.cols.map Col.cells).length:Int))=false
 cols:∀ i x,s.cols[i]?=some x->ColV s i x
 keys:s.cols.countP (fun c=>c.key)<=1
theorem SchV.short {s:Sch} (h:SchV s):zac s.cols:=by have:=h.hi;simp only [List.length_map,decide_eq_false_iff_not] at this;simp only [zac];omega
theorem ziA {l:List Col} {i k:Nat} {x:Col} (h:k=(l.take i).countP (fun c=>c.key)) (hx:l[i]?=some x) (hk:x.key=true):k+1=(l.take (i+1)).countP (fun c=>c.key):=by
 rw [List.take_add_one,hx,List.countP_append,h];simp [hk]
theorem ziz {l:List Col} {i k:Nat} {x:Col} (h:k=(l.take i).countP (fun c=>c.key)) (hx:l[i]?=some x) (hk:x.key=false):k=(l.take (i+1)).countP (fun c=>c.key):=by
 rw [List.take_add_one,hx,List.countP_append,h];simp [hk]
noncomputable def L_sv4 (s:Sch) (i:Nat) (keys:Nat):Cfg:=zag B.Ci 0 [(1,.p 0 0),(3,iv (keys:Nat)),(23,.sl (s.cols.map Col.cells)),(24,iv ((s.cols.map Col.cells).length:Nat)),(25,iv (i:Nat))] [.box s.cells]
theorem zjn (s:Sch) (hs:zac s.cols) (hv:SchV s) (i:Nat) (keys:Nat) (hi:i<=(s.cols).length) (hI:keys=(s.cols.take i).countP (fun c=>c.key)):∃ (keys':Nat),(keys'=(s.cols.take (s.cols).length).countP (fun c=>c.key))/\(decide ((((s.cols).length:Nat):Int) < (((s.cols.map Col.cells).length:Nat):Int))=false)/\∀ R,Good E0 B.Ci [] (L_sv4 s (s.cols).length keys') R->Good E0 B.Ci [] (L_sv4 s i keys) R:=by
 have hk:=hi;revert i keys;refine zlp ((s.cols).length) (fun i hlt ih keys hi hI _=>?_)
 obtain ⟨x,hx,h0,hw⟩:=zlq (l:=s.cols) ((s.cols.map Col.cells).length) hlt
 obtain ⟨a1,a2,a3,a4,a5⟩:=hv.cols i x hx;have hkl:keys<=1000:=(by have h1:=List.countP_le_length (p:=fun c:Col=>c.key) (l:=s.cols.take i);have h2:=hv.hi;simp only [List.length_map,decide_eq_false_iff_not] at h2;rw [← hI,List.length_take] at h1;omega)
 let p_1:List St:=[sb h0,se (zae Col.cells hx rfl),sc (zcj x.name),sg a1,sg a2,sg a3]
 cases h1:x.key
 ·exact Zih (ih keys Zo (by first|exact ziA hI hx ‹_›|exact ziz hI hx ‹_›) Zo) fun R gY=>zaa (wkl (p_1++[sb h1,sc (zgi s x.name (by first|assumption|omega|(simp;done)|(simp;omega))),sb a5,sb h1,si hw]) [1,3,23,24,25] 1 kr gY)
 ·cases h2:!x.notNull
  ·exact Zih (ih (keys+1) Zo (by first|exact ziA hI hx ‹_›|exact ziz hI hx ‹_›) Zo) fun R gY=>zaa (wkl (p_1++[sg h1,sg h2,sc (zgi s x.name (by first|assumption|omega|(simp;done)|(simp;omega))),sb a5,sb h1,si (zbB (t:=(keys:Int)+1) (n:=keys+1) Zo Zo),si hw]) [1,3,23,24,25] 1 kr gY)
  ·exact False.elim (by simp_all)
theorem zre (s:Sch) (hs:zac s.cols) (hv:SchV s) (n1:(!zaD s.name)=false) (n2:decide (((s.cols.map Col.cells).length:Int) < 1)=false) (n3:decide ((6:Int) < ((s.cols.map Col.cells).length:Int))=false):∃ (r:Bool),r=true/\zab E0 S.Ci [s.av] [] (bv r) []:=by
 obtain ⟨keys1,q1,q1_1,g1⟩:=zjn s Za Za 0 0 Za Za
 exact ⟨decide ((keys1:Int)<=(1:Int)),(by first|rfl|(rw [List.take_length] at *;have hkz:=hv.keys;simp;omega)),wkc At.Ci [sc (zcj s.name),sg n1,sg n2,sb n3] [1,3,23,24,25] 1 kr (g1 _ (zaa (wkr [sb q1_1] kr)))⟩
theorem zoR (s:Sch) (hv:SchV s):zab E0 S.Ci [s.av] [] (bv true) []:=by
 obtain ⟨r,rfl,h⟩:=zre s hv.short hv hv.name hv.lo hv.hi
 exact h
def get6 (n:Int):List Rw->List V × Bool
 | []=>([],false)
 | r::l=>bif r.id==n then (r.vals,true) else get6 n l
noncomputable def L_ge (t:Tb) (n:Int) (i:Nat) :Cfg:=zag B.Cn 0 [(1,iv n),(9,.sl (t.rows.map Rw.cells)),(10,iv ((t.rows.map Rw.cells).length:Nat)),(11,iv (i:Nat))] [.box t.cells]
theorem zlm (t:Tb) (n:Int) (hl:zac t.rows) (hv:∀ r∈t.rows,zac r.vals) (i:Nat)  (hi:i<=(t.rows).length) (hI:get6 n t.rows=get6 n (t.rows.drop i)):((get6 n t.rows=get6 n (t.rows.drop (t.rows).length))/\(decide ((((t.rows).length:Nat):Int) < (((t.rows.map Rw.cells).length:Nat):Int))=false)/\∀ R,Good E0 B.Cn [] (L_ge t n (t.rows).length ) R->Good E0 B.Cn [] (L_ge t n i ) R)\/(∃ (v:List V) (r:Bool),(v,r)=get6 n t.rows/\Good E0 B.Cn [] (L_ge t n i ) (Shut 0 fun rZ hZ=>rZ=(.tup [vsl v,bv r])/\hZ=[])):=by
 have hk:=hi;revert i;refine zlp ((t.rows).length) (fun i hlt ih hi hI _=>?_)
 obtain ⟨x,hx,h0,hw⟩:=zlq (l:=t.rows) ((t.rows.map Rw.cells).length) hlt
 have hvx:=hv x (List.mem_of_getElem? hx)
 let p_1:List St:=[sb h0,se (zae Rw.cells hx rfl)]
 cases h1:x.id==n
 ·exact (ih Zo (by (rw [hI,zam hx];simp only [get6, *,cond_false])) Zo).elim (fun ⟨qZ,xZ,gZ⟩=>.inl ⟨qZ,xZ,fun R hg=>zaa (wkl (p_1++[sb h1,si hw]) [1,9,10,11] 1 kr (gZ R hg))⟩) (fun ⟨vY,rY,pZ,gZ⟩=>.inr ⟨vY,rY,pZ,zaa (wkl [sb h0,se (zae Rw.cells hx rfl),sb h1,si hw] [1,9,10,11] 1 kr gZ)⟩)
 ·exact .inr ⟨za8 x.vals,true,(by (rw [hI,zam hx];simp only [get6, *,cond_true];try rfl)),zaa (wkr (p_1++[sb h1,sc (zcK x.vals (by first|assumption|omega|(simp;done)|(simp;omega)))]) kr)⟩
theorem zwR (t:Tb) (n:Int) (hl:zac t.rows) (hv:∀ r∈t.rows,zac r.vals):∃ (v:List V) (r:Bool),(v,r)=get6 n t.rows/\zab E0 S.Cn [t.av,iv n] [] (.tup [vsl v,bv r]) []:=by
 rcases zlm t n Za Za 0 Za Za with ⟨q1,q1_1,g1⟩|⟨r1_0,r1_1,p1_0,g1⟩
 ·exact ⟨[],false,(by first|assumption|(rw [‹get6 _ _=get6 _ _›,List.drop_length];rfl)),wkc At.Cn [] [1,9,10,11] 1 kr (g1 _ (zaa (wkr [sb q1_1] kr)))⟩
 ·exact ⟨r1_0,r1_1,(by first|assumption|(rw [‹get6 _ _=get6 _ _›,List.drop_length];rfl)),wkc At.Cn [] [1,9,10,11] 1 kr (g1)⟩
theorem zku (t:Tb) (n:Int) (hl:zac t.rows) (hv:∀ r∈t.rows,zac r.vals):zab E0 S.Cn [t.av,iv n] [] (.tup [vsl (get6 n t.rows).1,bv (get6 n t.rows).2]) []:=by
 obtain ⟨v,r,h,h2⟩:=zwR t n hl hv
 rw [← h];exact h2
noncomputable def L_cp6 (t:Tb) (i:Nat) (rs:List Rw):Cfg:=zag B.CD 0 [(1,.p 0 0),(2,.p 1 0),(3,.own 3 rs.length),(13,.sl (t.rows.map Rw.cells)),(14,iv ((t.rows.map Rw.cells).length:Nat)),(15,iv (i:Nat))] [.box [sv t.sch.name,.own 2 (t.sch.cols.map Col.cells).length,iv t.next,.sl (t.rows.map Rw.cells)],.box [sv ⟨#[]⟩,.nl,iv 0,.nl],.row Ty.Column (t.sch.cols.map Col.cells) false,.row Ty.Row (rs.map Rw.cells) false]
theorem zj9 (t:Tb) (hl:zac t.rows) (hv:∀ r∈t.rows,zac r.vals) (i:Nat) (rs:List Rw) (hi:i<=(t.rows).length) (hI:rs=t.rows.take i):∃ (rs':List Rw),(rs'=t.rows.take (t.rows).length)/\(decide ((((t.rows).length:Nat):Int) < (((t.rows.map Rw.cells).length:Nat):Int))=false)/\∀ R,Good E0 B.CD [] (L_cp6 t (t.rows).length rs') R->Good E0 B.CD [] (L_cp6 t i rs) R:=by
 have hk:=hi;revert i rs;refine zlp ((t.rows).length) (fun i hlt ih rs hi hI _=>?_)
 obtain ⟨x,hx,h0,hw⟩:=zlq (l:=t.rows) ((t.rows.map Rw.cells).length) hlt
 have hvx:=hv x (List.mem_of_getElem? hx);have hol:rs.length<=1000000000:=(by rw [hI,List.length_take];simp only [zac] at hl;omega)
 exact Zih (ih (rs++[x]) Zo (by (rw [List.take_add_one,hx,← hI];rfl)) Zo) fun R gY=>zaa (wkl [sb h0,se (zae Rw.cells hx rfl),sd [(5,[sc (zcK x.vals (by first|assumption|omega|(simp;done)|(simp;omega)))]),(8,[sqA (List.map Rw.cells rs) [[iv x.id,vsl (za8 x.vals)]] rs.length 2 32])],si hw] [1,2,3,13,14,15] 4 kr (zaw 3 3 (List.map Rw.cells rs++[[iv x.id,vsl (za8 x.vals)]]) gY (he:=by first|rfl|(simp [Rw.cells,za8];done)) (hm:=by first|rfl|(simp [Rw.cells,za8];done))))
theorem zun (t:Tb) (hl:zac t.rows) (hc:zac t.sch.cols) (hv:∀ r∈t.rows,zac r.vals):∃ (r:Tb),r=t/\zab E0 S.CD [t.av] [] r.av []:=by
 obtain ⟨rs1,q1,q1_1,g1⟩:=zj9 t Za Za 0 ([]) Za Za
 exact ⟨Tb.mk t.sch t.next rs1,(by (rw [List.take_length] at *;subst_vars;rfl)),wkcN At.CD [sqx (AllLen (List.map Col.cells t.sch.cols) 4/\((List.map Col.cells t.sch.cols).length * 32).le 140737488355328)] [1,2,3,13,14,15] 3 [(.ot 3 Ty.Row,4)] kr (g1 _ (zaa (wkr [sqx (True/\(List.map Col.cells t.sch.cols).length=(List.map Col.cells t.sch.cols).length/\True/\rs1.length=(List.map Rw.cells rs1).length/\True),sb q1_1] kr)))⟩
theorem zuN (t:Tb) (hl:zac t.rows) (hc:zac t.sch.cols) (hv:∀ r∈t.rows,zac r.vals):zab E0 S.CD [t.av] [] t.av []:=by
 obtain ⟨r,rfl,h⟩:=zun t hl hc hv
 exact h
structure TabV (t:Tb):Prop where
 sch:SchV t.sch
 len:decide ((100:Int) < ((t.rows.map Rw.cells).length:Int))=false
 rows:RowsV t.sch t.next t.rows
 max:decide ((2147483648:Int) < t.next)=false
 key:idxF (fun c=>c.key) t.sch.cols 0=keyC t.sch
theorem TabV.shr {t:Tb} (h:TabV t):zac t.rows:=by have:=h.len;simp only [List.length_map,decide_eq_false_iff_not] at this;simp only [zac];omega
theorem TabV.vals {t:Tb} (h:TabV t):∀ r∈t.rows,zac r.vals:=fun r hr=>by
 have h1:=(h.rows.fit r hr).len
 have h2:=h.sch.short
 have h3:r.vals.length=t.sch.cols.length:=h1
 simp only [zac] at *;omega
theorem zBr {c:Col} {v:V} (h:ValOk c v) (hc:zga c):fit4 c v=0:=by
 unfold fit4
 cases h0:v.kind==0
 ·have hk:v.kind=c.type:=h.kind.resolve_left (by simpa using h0)
  simp [hk]
 ·have h1:v.kind=0:=by simpa using h0
  cases hn:c.notNull
  ·rfl
  ·have:=h.nn hn;simp only [zga] at hc;omega
theorem zvq:∀ (cs:List Col) (vs:List V),(∀ c∈cs,zga c)->(∀ (k:Nat) (c:Col) (v:V),cs[k]?=some c->vs[k]?=some v->ValOk c v)->fitL cs vs=0
 | [],_,_,_=>by unfold fitL;rfl
 | _::_,[],_,_=>rfl
 | c::cs,v::vs,hc,h=>by
  have h0:=zBr (h 0 c v rfl rfl) (hc c Zs)
  simp only [fitL,h0,bne_self_eq_false,cond_false]
  exact zvq cs vs (fun c h=>hc c (by simp [h])) fun k c v h1 h2=>h (k+1) c v (by simpa using h1) (by simpa using h2)
theorem SchV.cok {s:Sch} (h:SchV s):∀ c∈s.cols,zga c:=fun c hc=>by
 obtain ⟨i,hi⟩:=List.getElem?_of_mem hc
 have h1:=(h.cols i c hi).lo
 have h2:=(h.cols i c hi).hi
 simp only [decide_eq_false_iff_not] at h1 h2
 simp only [zga];omega
theorem zvp {s:Sch} {vs:List V} (hs:SchV s) (h:zde s.cols vs):fit5 s vs=0:=by
 unfold fit5
 rw [show (vs.length != s.cols.length)=false by have:=h.len;simpa using this]
 exact zvq _ _ hs.cok h.at_
theorem ztF {cols:List Col} {vals:List V} (h:zde cols vals):∀ v∈vals,v.Good:=PrefOk.good h
structure RowF (t:Tb) (x:Rw):Prop where
 lo:decide (x.id < 1)=false
 hi:decide (t.next<=x.id)=false
 fit:zab E0 S.BZ [t.sch.av,vsl x.vals] [] (iv 0) []
theorem TabV.rowF {t:Tb} (h:TabV t) {x:Rw} (hx:x∈t.rows):RowF t x:=by
 have h1:=h.rows.ids x hx
 refine ⟨by simp;omega,by simp;omega,?_⟩
 have h2:=zek t.sch x.vals h.sch.short (ztF (h.rows.fit x hx))
 rwa [zvp h.sch (h.rows.fit x hx)] at h2
theorem zog {α:Type} {f:α->Int} {l:List α} (h:l.Pairwise fun a b=>f a < f b) {i:Nat} {x y:α} (hx:l[i]?=some x) (h1:1<=i) (hl:i<=1000000000) (hy:AtI l (IntKind.i64.wrap (((i:Nat):Int) - 1)) y):decide (f x<=f y)=false:=by
 have e:IntKind.i64.wrap (((i:Nat):Int) - 1)=((i - 1:Nat):Int):=by rw [IntKind.wrap_i64];omega
 rw [e] at hy
 have h2:l[i - 1]?=some y:=by simpa using hy.2
 obtain ⟨a1,a2⟩:=List.getElem?_eq_some_iff.1 hx
 obtain ⟨b1,b2⟩:=List.getElem?_eq_some_iff.1 h2
 have:=List.pairwise_iff_getElem.1 h (i - 1) i b1 a1 Zo
 rw [a2,b2] at this
 rw [decide_eq_false_iff_not];omega
theorem zom {α:Type} {l:List α} {i:Nat} {x:α} (hx:l[i]?=some x) (h1:1<=i) (hl:i<=1000000000):0<=IntKind.i64.wrap (((i:Nat):Int) - 1)/\IntKind.i64.wrap (((i:Nat):Int) - 1) < ((l.length:Nat):Int):=by
 have:=(List.getElem?_eq_some_iff.1 hx).1
 rw [IntKind.wrap_i64];omega
noncomputable def L_v6 (t:Tb) (i:Nat) :Cfg:=zag B.BW 0 [(1,.p 0 0),(26,.sl (t.rows.map Rw.cells)),(27,iv ((t.rows.map Rw.cells).length:Nat)),(28,iv (i:Nat))] [.box t.cells]
theorem zka (t:Tb) (ht:TabV t) (hs:zac t.sch.cols) (hr:zac t.rows) (i:Nat)  (hi:i<=(t.rows).length) (hI:1<=i):(1<=(t.rows).length)/\(decide ((((t.rows).length:Nat):Int) < (((t.rows.map Rw.cells).length:Nat):Int))=false)/\∀ R,Good E0 B.BW [] (L_v6 t (t.rows).length ) R->Good E0 B.BW [] (L_v6 t i ) R:=by
 have hk:=hi;revert i;refine zlp ((t.rows).length) (fun i hlt ih hi hI _=>?_)
 obtain ⟨x,hx,h0,hw⟩:=zlq (l:=t.rows) ((t.rows.map Rw.cells).length) hlt
 obtain ⟨a1,a2,a3⟩:=ht.rowF (List.mem_of_getElem? hx);have a5:decide ((0:Int) < ((i:Nat):Int))=true:=Zp;have hil:=zbu hx
 have a6:(bif decide (x.id < 1) then true else decide (t.next<=x.id))=false:=(by rw [a1,a2];rfl)
 have a4:∀ y,AtI t.rows (IntKind.i64.wrap (((i:Nat):Int) - 1)) y->(bif (bif decide (x.id < 1) then true else decide (t.next<=x.id)) then true else bif decide ((0:Int) < ((i:Nat):Int)) then decide (x.id<=y.id) else false)=false:=fun y hy=>(by rw [a6,a5,zog ht.rows.asc hx hI (by simp only [zac] at hr;omega) hy];rfl)
 have a7:∀ y,AtI t.rows (IntKind.i64.wrap (((i:Nat):Int) - 1)) y->(bif (bif (bif decide (x.id < 1) then true else decide (t.next<=x.id)) then true else bif decide ((0:Int) < ((i:Nat):Int)) then decide (x.id<=y.id) else false) then true else ((0:Int) != 0))=false:=fun y hy=>(by rw [a4 y hy];rfl)
 obtain ⟨x1,e1⟩:=zjH (l:=t.rows) (i:=IntKind.i64.wrap ((i:Int) - (1:Int))) (by exact zom hx hI (by simp only [zac] at hr;omega))
 obtain ⟨qZ,xZ,gZ⟩:=ih Zo Zo Zo;exact ⟨qZ,xZ,fun R hg=>zaa (wkl [sb h0,se (zae Rw.cells hx rfl),sd [(4,[sg a1]),(5,[sg a1]),(6,[sg a1]),(7,[sg a1]),(8,[sg a1]),(11,[sg a6]),(12,[sg a6]),(13,[sg a6]),(14,[sg a5]),(15,[sg a5]),(16,[sg a5]),(17,[so a5 (si (e:=IntKind.i64.wrap ((i:Int) - 1)) rfl)]),(18,[so a5 (se (zdb Rw.cells e1 rfl))]),(19,[sg a5]),(20,[sg a5]),(21,[sg a5]),(22,[sg a5]),(23,[sg a5]),(24,[sg a6]),(27,[sg (a4 x1 e1)]),(28,[sg (a4 x1 e1)]),(29,[sg (a4 x1 e1)]),(30,[sg (a4 x1 e1)]),(31,[so (a4 x1 e1) (sc a3)]),(32,[sg (a4 x1 e1)])],sb (a7 x1 e1),si hw] [1,26,27,28] 1 kr (gZ R hg))⟩
theorem zjo (t:Tb) (ht:TabV t) (hs:zac t.sch.cols) (hr:zac t.rows):decide (((t.rows.length:Nat):Int) < (((t.rows.map Rw.cells).length:Nat):Int))=false/\∀ R,Good E0 B.BW [] (L_v6 t t.rows.length) R->Good E0 B.BW [] (L_v6 t 0) R:=by
 cases hrw:t.rows with
 | nil=>exact ⟨by simp,fun R h=>h⟩
 | cons x r =>
  have hx:t.rows[0]?=some x:=by rw [hrw];rfl
  obtain ⟨_,h1,h2⟩:=zka t ht hs hr 1 (by rw [hrw];simp) (Nat.le_refl 1)
  rw [← hrw]
  refine ⟨h1,fun R h=>?_⟩
  have hg:=h2 R h
  have h0:decide (((0:Nat):Int) < (((t.rows.map Rw.cells).length:Nat):Int))=true:=by rw [hrw];simp
  obtain ⟨a1,a2,a3⟩:=ht.rowF (List.mem_of_getElem? hx)
  have a6:(bif decide (x.id < 1) then true else decide (t.next<=x.id))=false:=(by rw [a1,a2];rfl)
  have a7:(bif (bif decide (x.id < 1) then true else decide (t.next<=x.id)) then true else false)=false:=(by rw [a6];rfl)
  have a8:(bif (bif (bif decide (x.id < 1) then true else decide (t.next<=x.id)) then true else false) then true else ((0:Int) != 0))=false:=(by rw [a7];rfl)
  refine zaa ?_
  exact wkl [sb h0,se (zae Rw.cells hx rfl),sd [(4,[sg a1]),(5,[sg a1]),(6,[sg a1]),(7,[sg a1]),(8,[sg a1]),(11,[sg a6]),(12,[sg a6]),(13,[sg a6]),(14,[sb Zf]),(15,[sb Zf]),(16,[sb Zf]),(17,[sb Zf]),(18,[sb Zf]),(19,[sb Zf]),(20,[sb Zf]),(21,[sb Zf]),(22,[sb Zf]),(23,[sb Zf]),(24,[so a6 (sb Zf)]),(27,[sg a7]),(28,[sg a7]),(29,[sg a7]),(30,[sg a7]),(31,[so a7 (sc a3)]),(32,[sg a7])],sb a8,si (zbB (t:=(↑0:Int)+1) (n:=0+1) Zo Zo)] [1,26,27,28] 1 kr (hg)
theorem zrf (t:Tb) (ht:TabV t) (hs:zac t.sch.cols) (hr:zac t.rows) (hv:zab E0 S.Ci [t.sch.av] [] (bv true) []) (h1a:decide ((100:Int) < ((t.rows.map Rw.cells).length:Int))=false) (h2a:decide (t.next < 1)=false) (h3a:decide ((2147483648:Int) < t.next)=false) (hd:zab E0 S.Bb [t.av] [] (bv false) []):∃ (b:Bool),b=true/\zab E0 S.BW [t.av] [] (bv b) []:=by
 obtain ⟨q1,g1⟩:=zjo t (by first|assumption|omega|(simp;done)|(simp;omega)) (by first|assumption|omega|(simp;done)|(simp;omega)) (by first|assumption|omega|(simp;done)|(simp;omega))
 exact ⟨!false,Zr,wkc At.BW [sc hv,sg Zf,sg h1a,sg h2a,sb h3a] [1,26,27,28] 1 kr (g1 _ (zaa (wkr [sb q1,sc hd] kr)))⟩
theorem zhd {kc:Int}:∀ (l:List Rw),(0<=kc->l.Pairwise fun a b=>zao a.vals kc≠zao b.vals kc)->(za0 kc l).Nodup
 | [],_=>by simp [za0]
 | r::l,h=>by
  have ih:=zhd l fun hk=>(List.pairwise_cons.1 (h hk)).2
  unfold za0 at ih ⊢
  rw [List.filterMap_cons]
  cases hr:zc2 kc r with
  | none=>exact ih
  | some v =>
   refine List.nodup_cons.2 ⟨fun hm=>?_,ih⟩
   obtain ⟨q,hq,hv⟩:=List.mem_filterMap.1 hm
   unfold zc2 at hr hv
   by_cases hk:0<=kc
   ·cases c1:decide (kc < ((r.vals.map V.cells).length:Int)) <;> rw [c1] at hr
    ·simp at hr
    ·cases c2:decide (kc < ((q.vals.map V.cells).length:Int)) <;> rw [c2] at hv
     ·simp at hv
     ·simp only [hk,decide_true,Bool.and_self,cond_true,Option.some.injEq] at hr hv
      exact (List.pairwise_cons.1 (h hk)).1 q hq (hr.trans hv.symm)
   ·simp [hk] at hr
theorem TabV.dup {t:Tb} (h:TabV t):zab E0 S.Bb [t.av] [] (bv false) []:=by
 obtain ⟨b,hb,hc⟩:=zif t h.sch.short h.shr
 have h1:b=false:=hb.2 (by rw [h.key];exact zhd _ h.rows.keys)
 rw [h1] at hc;exact hc
theorem zoS (t:Tb) (ht:TabV t):zab E0 S.BW [t.av] [] (bv true) []:=by
 have hp:=ht.rows.pos
 obtain ⟨r,rfl,h⟩:=zrf t ht ht.sch.short ht.shr (zoR _ ht.sch) ht.len Zp ht.max ht.dup
 exact h
structure CmpOk {α:Type} (c:α->α->Int):Prop where
 zero:∀ a b,c a b=0↔a=b
 anti:∀ a b,c a b < 0↔0 < c b a
 trans:∀ {a b d},c a b < 0->c b d < 0->c a d < 0
def lexC {α:Type} (c:α->α->Int):List α->List α->Int
 | [],[]=>0
 | [],_::_=>-1
 | _::_,[]=>1
 | a::x,b::y=>if c a b=0 then lexC c x y else c a b
theorem zqJ {α:Type} {c:α->α->Int} (h:CmpOk c):∀ a b,lexC c a b=0↔a=b
 | [],[]=>by simp [lexC]
 | [],_::_=>by simp [lexC]
 | _::_,[]=>by simp [lexC]
 | a::x,b::y=>by
  have ih:=zqJ h x y
  have hz:=h.zero a b
  simp only [lexC,List.cons.injEq]
  split
  ·rename_i e;simp [ih,hz.1 e]
  ·rename_i e;exact ⟨fun k=>absurd k e,fun k=>absurd (hz.2 k.1) e⟩
theorem zqI {α:Type} {c:α->α->Int} (h:CmpOk c):∀ a b,lexC c a b < 0↔0 < lexC c b a
 | [],[]=>by simp [lexC]
 | [],_::_=>by simp [lexC]
 | _::_,[]=>by simp [lexC]
 | a::x,b::y=>by
  have ih:=zqI h x y
  have hz:=h.zero a b
  have hz2:=h.zero b a
  have ha:=h.anti a b
  simp only [lexC]
  by_cases e:a=b
  ·rw [if_pos (hz.2 e),if_pos (hz2.2 e.symm)];exact ih
  ·rw [if_neg (fun k=>e (hz.1 k)),if_neg (fun k=>e (hz2.1 k).symm)];exact ha
theorem zo1 {α:Type} {c:α->α->Int} (h:CmpOk c):∀ {a b d},lexC c a b < 0->lexC c b d < 0->lexC c a d < 0
 | x,y,[],_,h2=>by cases y <;> simp [lexC] at h2
 | x,[],e::z,h1,_=>by cases x <;> simp [lexC] at h1
 | [],b::y,e::z,_,_=>by simp [lexC]
 | a::x,b::y,e::z,h1,h2=>by
  simp only [lexC] at h1 h2 ⊢
  by_cases e1:a=b
  ·subst e1
   rw [if_pos ((h.zero a a).2 rfl)] at h1
   by_cases e2:a=e
   ·subst e2
    rw [if_pos ((h.zero a a).2 rfl)] at h2 ⊢
    exact zo1 h h1 h2
   ·rw [if_neg (fun k=>e2 ((h.zero _ _).1 k))] at h2 ⊢
    exact h2
  ·rw [if_neg (fun k=>e1 ((h.zero _ _).1 k))] at h1
   by_cases e2:b=e
   ·subst e2
    rw [if_neg (fun k=>e1 ((h.zero _ _).1 k))]
    exact h1
   ·rw [if_neg (fun k=>e2 ((h.zero _ _).1 k))] at h2
    have h3:=h.trans h1 h2
    rw [if_neg Zo]
    exact h3
theorem CmpOk.lex {α:Type} {c:α->α->Int} (h:CmpOk c):CmpOk (lexC c):=⟨zqJ h,zqI h,zo1 h⟩
def zrK (a b:UInt8):Int:=if a < b then -1 else if b < a then 1 else 0
theorem zzX:CmpOk zrK:=by
 refine ⟨fun a b=>?_,fun a b=>?_,fun {a b d} h1 h2=>?_⟩
 all_goals simp only [zrK,UInt8.lt_iff_toNat_lt,← UInt8.toNat_inj] at *
 all_goals repeat' split
 all_goals (try omega)
 all_goals (repeat' split at h1)
 all_goals (try omega)
 all_goals (repeat' split at h2)
 all_goals omega
theorem zdf:∀ a b,Lib.compareBytes a b=lexC zrK a b
 | [],[]=>rfl
 | [],_::_=>rfl
 | _::_,[]=>rfl
 | a::x,b::y=>by
  have ih:=zdf x y
  simp only [Lib.compareBytes,lexC,zrK,ih]
  by_cases h1:a < b
  ·simp [h1]
  ·by_cases h2:b < a
   ·simp [h1,h2]
   ·simp [h1,h2]
theorem zBn:CmpOk cmpI:=by
 refine ⟨fun a b=>?_,fun a b=>?_,fun {a b d} h1 h2=>?_⟩
 all_goals simp only [cmpI] at *
 all_goals repeat' split
 all_goals (try omega)
 all_goals (repeat' split at h1)
 all_goals (try omega)
 all_goals (repeat' split at h2)
 all_goals omega
theorem zvm:CmpOk cmpB:=by
 have h:=zzX.lex
 refine ⟨fun a b=>?_,fun a b=>?_,fun {a b d} h1 h2=>?_⟩
 ·simp only [cmpB,zdf,h.zero]
  constructor
  ·intro e;cases a;cases b;simp at e;rw [e]
  ·intro e;rw [e]
 ·simp only [cmpB,zdf];exact h.anti _ _
 ·simp only [cmpB,zdf] at *;exact h.trans h1 h2
theorem zjT (a b:V):rCmp a b=if cmpI a.kind b.kind=0 then (if cmpI a.int b.int=0 then cmpB a.text b.text else cmpI a.int b.int) else cmpI a.kind b.kind:=by
 unfold rCmp zw1 zw0
 rcases Int.lt_trichotomy a.kind b.kind with h1|h1|h1
 ·have e:(a.kind != b.kind)=true:=by simp;omega
  rw [zmD h1];simp [h1,e]
 ·rw [zmB h1]
  rcases Int.lt_trichotomy a.int b.int with h2|h2|h2
  ·have e:(a.int != b.int)=true:=by simp;omega
   rw [zmD h2];simp [h1,h2,e]
  ·rw [zmB h2];simp [h1,h2]
  ·have e:(a.int != b.int)=true:=by simp;omega
   have e2:¬ a.int < b.int:=by omega
   rw [zmC h2];simp [h1,e,e2]
 ·have e:(a.kind != b.kind)=true:=by simp;omega
  have e2:¬ a.kind < b.kind:=by omega
  rw [zmC h1];simp [e,e2]
theorem zBV:CmpOk rCmp:=by
 have hi:=zBn
 have hb:=zvm
 refine ⟨fun a b=>?_,fun a b=>?_,fun {a b d} h1 h2=>?_⟩
 ·rw [zjT]
  have z1:=hi.zero a.kind b.kind
  have z2:=hi.zero a.int b.int
  have z3:=hb.zero a.text b.text
  constructor
  ·intro h
   split at h
   ·split at h
    ·cases a;cases b;simp_all
    ·omega
   ·omega
  ·rintro rfl
   simp [(hi.zero _ _).2 rfl,(hb.zero _ _).2 rfl]
 ·rw [zjT,zjT]
  have z1:=hi.zero a.kind b.kind
  have z1':=hi.zero b.kind a.kind
  have z2:=hi.zero a.int b.int
  have z2':=hi.zero b.int a.int
  by_cases e1:a.kind=b.kind
  ·rw [if_pos (z1.2 e1),if_pos (z1'.2 e1.symm)]
   by_cases e2:a.int=b.int
   ·rw [if_pos (z2.2 e2),if_pos (z2'.2 e2.symm)];exact hb.anti _ _
   ·rw [if_neg (fun k=>e2 (z2.1 k)),if_neg (fun k=>e2 (z2'.1 k).symm)];exact hi.anti _ _
  ·rw [if_neg (fun k=>e1 (z1.1 k)),if_neg (fun k=>e1 (z1'.1 k).symm)];exact hi.anti _ _
 ·have key:∀ x y:V,rCmp x y < 0↔x.kind < y.kind\/(x.kind=y.kind/\(x.int < y.int\/(x.int=y.int/\cmpB x.text y.text < 0))):=by
   intro x y
   rw [zjT]
   rcases Int.lt_trichotomy x.kind y.kind with h1|h1|h1
   ·rw [zmD h1];simp [h1]
   ·rw [zmB h1]
    rcases Int.lt_trichotomy x.int y.int with h2|h2|h2
    ·rw [zmD h2];simp [h1,h2]
    ·rw [zmB h2];simp [h1,h2]
    ·have e:¬ x.int < y.int:=by omega
     have e2:x.int≠y.int:=by omega
     rw [zmC h2];simp [h1,e,e2]
   ·have e:¬ x.kind < y.kind:=by omega
    have e2:x.kind≠y.kind:=by omega
    rw [zmC h1];simp [e,e2]
  rw [key] at h1 h2 ⊢
  rcases h1 with h1|⟨e1,h1|⟨f1,h1⟩⟩ <;> rcases h2 with h2|⟨e2,h2|⟨f2,h2⟩⟩
  all_goals first|(left;omega)|(right;refine ⟨by omega,?_⟩;first|(left;omega)|(right;exact ⟨by omega,hb.trans h1 h2⟩))
theorem zqP (a b:List V):∀ (l:List V) (i:Nat),i<=b.length->a.length=i+l.length->zgE a b l i=lexC rCmp l (b.drop i)
 | [],i,hi,ha=>by
  simp only [zgE,List.length_map]
  simp at ha
  by_cases h:i=b.length
  ·have e1:b.drop i=[]:=List.drop_of_length_le Zo
   have e2:¬ ((a.length:Nat):Int) < (b.length:Nat):=by omega
   have e3:¬ ((b.length:Nat):Int) < (a.length:Nat):=by omega
   rw [e1];simp only [lexC,e2,e3,decide_false,cond_false]
  ·have e2:((a.length:Nat):Int) < (b.length:Nat):=by omega
   cases hd:b.drop i with
   | nil=>have:=congrArg List.length hd;simp at this;omega
   | cons y s=>simp only [lexC,e2,decide_true,cond_true]
 | x::r,i,hi,ha=>by
  simp only [zgE,List.length_map]
  by_cases h:i < b.length
  ·have e2:((i:Nat):Int) < (b.length:Nat):=by omega
   have hv:zao b ((i:Nat):Int)=b[i]:=by simp [zao,h]
   rw [List.drop_eq_getElem_cons h]
   have ih:=zqP a b r (i+1) Zo (by simp at ha;omega)
   simp only [e2,decide_true,cond_true,hv,ih,lexC]
   by_cases hz:rCmp x b[i]=0
   ·simp [hz]
   ·have hb:(rCmp x b[i] != 0)=true:=by simpa using hz
    simp [hz,hb]
  ·have e2:¬ ((i:Nat):Int) < (b.length:Nat):=by omega
   have e1:b.drop i=[]:=List.drop_of_length_le Zo
   have f1:¬ ((a.length:Nat):Int) < (b.length:Nat):=by simp at ha;omega
   have f2:((b.length:Nat):Int) < (a.length:Nat):=by simp at ha;omega
   rw [e1]
   simp only [e2,f1,f2,decide_false,decide_true,cond_false,cond_true,lexC]
theorem zAJ (a b:List V):zd6 a b=lexC rCmp a b:=zqP a b a 0 Zo Zo
theorem znZ:CmpOk zd6:=by
 have:zd6=lexC rCmp:=funext fun a=>funext fun b=>zAJ a b
 rw [this];exact zBV.lex
/- ### sorting -/
abbrev LeR (x y:List V):Prop:=¬ 0 < zd6 x y
theorem zBD (x y:List V):LeR x y↔zd6 x y < 0\/x=y:=by
 have h:=znZ.zero x y
 unfold LeR
 constructor
 ·intro h1
  by_cases h2:zd6 x y=0
  ·exact .inr (h.1 h2)
  ·exact .inl Zo
 ·rintro (h1|h1)
  ·omega
  ·rw [h.2 h1];omega
theorem LeR.trans {x y z:List V} (h1:LeR x y) (h2:LeR y z):LeR x z:=by
 rw [zBD] at *
 rcases h1 with h1|rfl
 ·rcases h2 with h2|rfl
  ·exact .inl (znZ.trans h1 h2)
  ·exact .inl h1
 ·exact h2
theorem zcr {p:Prop} (h:p:=by first|assumption|omega|(simp;done)|(simp;omega)):p:=h
structure ChV (t:Tb) (c:Ch):Prop where
 del:c.del.Pairwise fun a b=>a < b
 delIn:∀ d∈c.del,(get6 d t.rows).2=true
 upd:c.upd.Pairwise fun a b=>a.id < b.id
 updIn:∀ p∈c.upd,get6 p.id t.rows=(p.old,true)/\anyI c.del p.id=false/\p.nw.length=t.sch.cols.length
 ins:∀ r∈c.ins,r.length=t.sch.cols.length
 ld:c.del.length<=100000
 lu:c.upd.length<=100000
 li:c.ins.length<=100000
theorem ztv {l:List Int} (h:l.Pairwise fun a b=>a < b) {i:Nat} {x:Int} (hx:l[i]?=some x):anyI (l.take i) x=false:=by
 cases ha:anyI (l.take i) x
 ·rfl
 ·exfalso
  have hm:=zeK.1 ha
  obtain ⟨j,hj⟩:=List.getElem?_of_mem hm
  have hj1:j < i:=by
   have:=(List.getElem?_eq_some_iff.1 hj).1;simp at this;omega
  rw [List.getElem?_take_of_lt hj1] at hj
  obtain ⟨a1,a2⟩:=List.getElem?_eq_some_iff.1 hx
  obtain ⟨b1,b2⟩:=List.getElem?_eq_some_iff.1 hj
  have:=List.pairwise_iff_getElem.1 h j i b1 a1 hj1
  rw [a2,b2] at this;omega
noncomputable def L_vd (t:Tb) (c:Ch) (i:Nat) (ks:List Int):Cfg:=zag B.AT 0 [(2,.p 0 0),(3,.p 1 0),(5,iv ((t.sch.cols.map Col.cells).length:Nat)),(6,.mp 2),(26,isl c.del),(27,iv ((c.del.map zaN).length:Nat)),(28,iv (i:Nat))] [.box t.cells,.box c.cells,.mp (ks.map itI)]
theorem zkb (t:Tb) (c:Ch) (hs:zac t.rows) (hvs:∀ r∈t.rows,zac r.vals) (hc:ChV t c) (i:Nat) (ks:List Int) (hi:i<=(c.del).length) (hI:1<=i/\ks=c.del.take i):∃ (ks':List Int),(1<=(c.del).length/\ks'=c.del.take (c.del).length)/\(decide ((((c.del).length:Nat):Int) < (((c.del.map zaN).length:Nat):Int))=false)/\∀ R,Good E0 B.AT [] (L_vd t c (c.del).length ks') R->Good E0 B.AT [] (L_vd t c i ks) R:=by
 have hk:=hi;revert i ks;refine zlp ((c.del).length) (fun i hlt ih ks hi hI _=>?_)
 obtain ⟨x,hx,h0,hw⟩:=zlq (l:=c.del) ((c.del.map zaN).length) hlt (by (have:=hc.ld;omega))
 have a1:(!(get6 x t.rows).2)=false:=(by rw [hc.delIn x (List.mem_of_getElem? hx)];rfl);have a5:decide ((0:Int) < ((i:Nat):Int))=true:=Zp;have hil:=zbu hx;have hld:=hc.ld
 have a4:∀ y,AtI c.del (IntKind.i64.wrap (((i:Nat):Int) - 1)) y->decide (x<=y)=false:=fun y hy=>zog (f:=fun z=>z) hc.del hx hI.1 Zo hy
 have a8:anyI ks x=false:=(by rw [hI.2];exact ztv hc.del hx)
 obtain ⟨x1,e1⟩:=zjH (l:=c.del) (i:=IntKind.i64.wrap ((i:Int) - (1:Int))) (by exact zom hx hI.1 Zo)
 exact Zih (ih (ks++[x]) Zo (by exact ⟨by omega,by rw [List.take_add_one,hx,← hI.2];rfl⟩) Zo) fun R gY=>zaa (wkl [sb h0,se (zae (fun n=>[iv n]) hx rfl),sc (zku t x zcr zcr),sg a1,sg a5,si (e:=IntKind.i64.wrap ((i:Int) - 1)) rfl,se (zdb (fun n=>[iv n]) e1 rfl),sb (a4 x1 e1),sx (.call [] .un [.mp (List.map itI (ks++[x]))]) (And.intro (zbd x) (zvn ks x zcr)),si hw] [2,3,5,6,26,27,28] 3 kr gY)
theorem zjt (t:Tb) (c:Ch) (hs:zac t.rows) (hvs:∀ r∈t.rows,zac r.vals) (hc:ChV t c):decide (((c.del.length:Nat):Int) < (((c.del.map zaN).length:Nat):Int))=false/\∀ R,Good E0 B.AT [] (L_vd t c c.del.length c.del) R->Good E0 B.AT [] (L_vd t c 0 []) R:=by
 cases hrw:c.del with
 | nil=>exact ⟨by simp,fun R h=>h⟩
 | cons x r =>
  have hx:c.del[0]?=some x:=by rw [hrw];rfl
  obtain ⟨ks,⟨_,hks⟩,h1,h2⟩:=zkb t c hs hvs hc 1 [x] (by rw [hrw];simp) ⟨Nat.le_refl 1,by rw [hrw];rfl⟩
  rw [← hrw]
  refine ⟨h1,fun R h=>?_⟩
  rw [List.take_length] at hks
  subst hks
  have hg:=h2 R h
  have h0:decide (((0:Nat):Int) < (((c.del.map zaN).length:Nat):Int))=true:=by rw [hrw];simp
  have a1:(!(get6 x t.rows).2)=false:=(by rw [hc.delIn x (List.mem_of_getElem? hx)];rfl)
  have a8:anyI [] x=false:=rfl
  refine zaa ?_
  exact wkl [sb h0,se (zae (fun n=>[iv n]) hx rfl),sc (zku t x zcr zcr),sg a1,sb Zf,sx (.call [] .un [.mp (List.map itI ([]++[x]))]) (And.intro (zbd x) (zvn ([]) x zcr)),si (zbB (t:=(↑0:Int)+1) (n:=0+1) Zo Zo)] [2,3,5,6,26,27,28] 3 kr (hg)
theorem zxF (a:List V):(zd6 a a != 0)=false:=by
 rw [(znZ.zero a a).2 rfl];rfl
structure UpF (t:Tb) (c:Ch) (x:Pr):Prop where
 get:zab E0 S.Cn [t.av,iv x.id] [] (.tup [vsl x.old,bv true]) []
 cmp:zab E0 S.BT [vsl x.old,vsl x.old] [] (iv 0) []
 look:LookV (c.del.map itI) (iv x.id) (.bl false) (bv false)
 len:(((x.nw.map V.cells).length:Int) != ((t.sch.cols.map Col.cells).length:Int))=false
theorem ChV.upF {t:Tb} {c:Ch} (hc:ChV t c) (hs:zac t.rows) (hvs:∀ r∈t.rows,zac r.vals) {x:Pr} (hx:x∈c.upd) (hso:zac x.old):UpF t c x:=by
 obtain ⟨b1,b2,b3⟩:=hc.updIn x hx
 refine ⟨?_,?_,?_,by simp [b3]⟩
 ·have h:=zku t x.id hs hvs;rwa [b1] at h
 ·have h:=zlS x.old x.old hso hso
  have e:zd6 x.old x.old=0:=by simpa using zxF x.old
  rwa [e] at h
 ·have h:=zAc c.del x.id;rwa [b2] at h
noncomputable def L_vu (t:Tb) (c:Ch) (i:Nat) :Cfg:=zag B.AT 1 [(2,.p 0 0),(3,.p 1 0),(5,iv ((t.sch.cols.map Col.cells).length:Nat)),(6,.mp 2),(59,.sl (c.upd.map Pr.cells)),(60,iv ((c.upd.map Pr.cells).length:Nat)),(61,iv (i:Nat))] [.box t.cells,.box c.cells,.mp (c.del.map itI)]
theorem zkc (t:Tb) (c:Ch) (hs:zac t.rows) (hvs:∀ r∈t.rows,zac r.vals) (hc:ChV t c) (hso:∀ p∈c.upd,zac p.old) (i:Nat)  (hi:i<=(c.upd).length) (hI:1<=i):(1<=(c.upd).length)/\(decide ((((c.upd).length:Nat):Int) < (((c.upd.map Pr.cells).length:Nat):Int))=false)/\∀ R,Good E0 B.AT [] (L_vu t c (c.upd).length ) R->Good E0 B.AT [] (L_vu t c i ) R:=by
 have hk:=hi;revert i;refine zlp ((c.upd).length) (fun i hlt ih hi hI _=>?_)
 obtain ⟨x,hx,h0,hw⟩:=zlq (l:=c.upd) ((c.upd.map Pr.cells).length) hlt (by (have:=hc.lu;omega))
 obtain ⟨f1,f2,f3,a7⟩:=hc.upF hs hvs (List.mem_of_getElem? hx) (hso x (List.mem_of_getElem? hx));have hil:=zbu hx;have hlu:=hc.lu;have a5:decide ((0:Int) < ((i:Nat):Int))=true:=Zp
 have a4:∀ y,AtI c.upd (IntKind.i64.wrap (((i:Nat):Int) - 1)) y->decide (x.id<=y.id)=false:=fun y hy=>zog (f:=fun z=>z.id) hc.upd hx hI Zo hy
 have a6:∀ y,AtI c.upd (IntKind.i64.wrap (((i:Nat):Int) - 1)) y->(bif decide ((0:Int) < ((i:Nat):Int)) then decide (x.id<=y.id) else false)=false:=fun y hy=>(by rw [a5,a4 y hy];rfl)
 have d3:∀ y,AtI c.upd (IntKind.i64.wrap (((i:Nat):Int) - 1)) y->(bif (bif decide ((0:Int) < ((i:Nat):Int)) then decide (x.id<=y.id) else false) then true else ((0:Int) != 0))=false:=fun y hy=>(by rw [a6 y hy];rfl)
 have d4:∀ y,AtI c.upd (IntKind.i64.wrap (((i:Nat):Int) - 1)) y->(bif (bif (bif decide ((0:Int) < ((i:Nat):Int)) then decide (x.id<=y.id) else false) then true else ((0:Int) != 0)) then true else ((x.nw.map V.cells).length:Int) != ((t.sch.cols.map Col.cells).length:Int))=false:=fun y hy=>(by rw [d3 y hy,a7];rfl)
 obtain ⟨x1,e1⟩:=zjH (l:=c.upd) (i:=IntKind.i64.wrap ((i:Int) - (1:Int))) (by exact zom hx hI Zo)
 obtain ⟨qZ,xZ,gZ⟩:=ih Zo Zo Zo;exact ⟨qZ,xZ,fun R hg=>zaa (wkl [sb h0,se (zae Pr.cells hx rfl),sc f1,sd [(3,[sg Zf]),(4,[sg Zf]),(5,[sg Zf]),(6,[so Zf (sx (.el [bv false]) (And.intro (zbd x.id) f3))]),(9,[sg Zf]),(10,[sg Zf]),(11,[sg Zf]),(12,[sg a5]),(13,[sg a5]),(14,[sg a5]),(15,[so a5 (si (e:=IntKind.i64.wrap ((i:Int) - 1)) rfl)]),(16,[so a5 (se (zdb Pr.cells e1 rfl))]),(17,[sg a5]),(18,[sg a5]),(19,[sg a5]),(20,[sg a5]),(21,[sg a5]),(22,[sg Zf]),(25,[sg (a6 x1 e1)]),(26,[sg (a6 x1 e1)]),(27,[sg (a6 x1 e1)]),(28,[so (a6 x1 e1) (sc f2)]),(29,[sg (a6 x1 e1)]),(32,[sg (d3 x1 e1)]),(33,[sg (d3 x1 e1)]),(34,[sg (d3 x1 e1)]),(35,[sg (d3 x1 e1)]),(36,[sg (d3 x1 e1)])],sb (d4 x1 e1),si hw] [2,3,5,6,59,60,61] 3 kr (gZ R hg))⟩
theorem zjv (t:Tb) (c:Ch) (hs:zac t.rows) (hvs:∀ r∈t.rows,zac r.vals) (hc:ChV t c) (hso:∀ p∈c.upd,zac p.old):decide (((c.upd.length:Nat):Int) < (((c.upd.map Pr.cells).length:Nat):Int))=false/\∀ R,Good E0 B.AT [] (L_vu t c c.upd.length) R->Good E0 B.AT [] (L_vu t c 0) R:=by
 cases hrw:c.upd with
 | nil=>exact ⟨by simp,fun R h=>h⟩
 | cons x r =>
  have hx:c.upd[0]?=some x:=by rw [hrw];rfl
  obtain ⟨_,h1,h2⟩:=zkc t c hs hvs hc hso 1 (by rw [hrw];simp) (Nat.le_refl 1)
  rw [← hrw]
  refine ⟨h1,fun R h=>?_⟩
  have hg:=h2 R h
  have h0:decide (((0:Nat):Int) < (((c.upd.map Pr.cells).length:Nat):Int))=true:=by rw [hrw];simp
  obtain ⟨f1,f2,f3,a7⟩:=hc.upF hs hvs (List.mem_of_getElem? hx) (hso x (List.mem_of_getElem? hx))
  refine zaa ?_
  exact wkl [sb h0,se (zae Pr.cells hx rfl),sc f1,sd [(3,[sg Zf]),(4,[sg Zf]),(5,[sg Zf]),(6,[so Zf (sx (.el [bv false]) (And.intro (zbd x.id) f3))]),(9,[sg Zf]),(10,[sg Zf]),(11,[sg Zf]),(12,[sb Zf]),(13,[sb Zf]),(14,[sb Zf]),(15,[sb Zf]),(16,[sb Zf]),(17,[sb Zf]),(18,[sb Zf]),(19,[sb Zf]),(20,[sb Zf]),(21,[sb Zf]),(22,[so Zf (sb Zf)]),(25,[sg Zf]),(26,[sg Zf]),(27,[sg Zf]),(28,[so Zf (sc f2)]),(29,[sg Zf]),(32,[sg Zf]),(33,[sg Zf]),(34,[sg Zf]),(35,[sg Zf]),(36,[sg Zf])],sb a7,si (zbB (t:=(↑0:Int)+1) (n:=0+1) Zo Zo)] [2,3,5,6,59,60,61] 3 kr (hg)
noncomputable def L_vi7 (t:Tb) (c:Ch) (i:Nat) :Cfg:=zag B.AT 2 [(5,iv ((t.sch.cols.map Col.cells).length:Nat)),(113,.sl (c.ins.map vrow)),(114,iv ((c.ins.map vrow).length:Nat)),(115,iv (i:Nat))] [.box t.cells,.box c.cells,.mp (c.del.map itI)]
theorem zju (t:Tb) (c:Ch) (hl:zac c.ins) (hc:∀ r∈c.ins,r.length=t.sch.cols.length) (i:Nat)  (hi:i<=(c.ins).length) (hI:True):(True)/\(decide ((((c.ins).length:Nat):Int) < (((c.ins.map vrow).length:Nat):Int))=false)/\∀ R,Good E0 B.AT [] (L_vi7 t c (c.ins).length ) R->Good E0 B.AT [] (L_vi7 t c i ) R:=by
 have hk:=hi;revert i hI;refine zlp ((c.ins).length) (fun i hlt ih hi hI _=>?_)
 obtain ⟨x,hx,h0,hw⟩:=zlq (l:=c.ins) ((c.ins.map vrow).length) hlt
 have a7:(((x.map V.cells).length:Int) != ((t.sch.cols.map Col.cells).length:Int))=false:=(by simp [hc x (List.mem_of_getElem? hx)])
 obtain ⟨qZ,xZ,gZ⟩:=ih Zo (by first|trivial|assumption|(simp;done)|omega|(simp;omega)|(simp at *;omega)) Zo;exact ⟨qZ,xZ,fun R hg=>zaa (wkl [sb h0,se (zae vrow hx rfl),sb a7,si hw] [5,113,114,115] 3 kr (gZ R hg))⟩
theorem zrh (t:Tb) (c:Ch) (hs:zac t.rows) (hvs:∀ r∈t.rows,zac r.vals) (hc:ChV t c) (hso:∀ p∈c.upd,zac p.old) (hli:zac c.ins) (hin:∀ r∈c.ins,r.length=t.sch.cols.length) (hv:zab E0 S.BW [t.av] [] (bv true) []):∃ (b:Bool),b=true/\zab E0 S.AT [t.av,c.av] [] (bv b) []:=by
 obtain ⟨q1,g1⟩:=zjt t c zcr zcr zcr
 obtain ⟨q2,g2⟩:=zjv t c zcr zcr zcr zcr
 obtain ⟨q3,q3_1,g3⟩:=zju t c zcr zcr 0 zcr zcr
 exact ⟨true,Zr,wkc At.AT [sc hv,sb Zf] [2,3,5,6,26,27,28] 3 kr (g1 _ (zaa (wkl [sb q1] [2,3,5,6,59,60,61] 3 kr (g2 _ (zaa (wkl [sb q2] [5,113,114,115] 3 kr (g3 _ (zaa (wkr [sb q3_1] kr)))))))))⟩
theorem zqz {n:Int}:∀ (l:List Rw),(get6 n l).2=true->∃ r∈l,r.id=n/\(get6 n l).1=r.vals
 | [],h=>by cases h
 | r::l,h=>by
  unfold get6 at h ⊢
  cases h1:r.id==n
  ·rw [h1] at h
   obtain ⟨q,hq,h2⟩:=zqz l h
   exact ⟨q,by simp [hq],h2⟩
  ·exact ⟨r,by simp,by simpa using h1,rfl⟩
theorem zoT (t:Tb) (c:Ch) (ht:TabV t) (hc:ChV t c):zab E0 S.AT [t.av,c.av] [] (bv true) []:=by
 have hso:∀ p∈c.upd,zac p.old:=fun p hp=>by
  have h1:=(hc.updIn p hp).1
  obtain ⟨r,hr,_,h2⟩:=zqz (n:=p.id) t.rows (by rw [h1])
  rw [h1] at h2
  have h3:p.old=r.vals:=h2
  rw [h3];exact ht.vals r hr
 obtain ⟨b,rfl,h⟩:=zrh t c ht.shr ht.vals hc hso (by have:=hc.li;simp only [zac];omega) hc.ins (zoS t ht)
 exact h
theorem zc7 {p:Prop} (h:p:=by first|assumption|omega|(simp;done)|(simp;omega)):p:=h
theorem ztU {p:Prop} (h:p:=by first|exact mid_0 hI hx ‹_›|exact zxx hI hx ‹_› (by simp only [*];rfl)):p:=h
def zbr (s:Sch):List Pr->Int
 | []=>0
 | p::r=>bif fit5 s p.nw != 0 then fit5 s p.nw else zbr s r
def zbS (s:Sch):List (List V)->Int
 | []=>0
 | p::r=>bif fit5 s p != 0 then fit5 s p else zbS s r
noncomputable def zv4 (t:Tb) (c:Ch) (i:Nat) :Cfg:=zag B.AA 0 [(2,.p 0 0),(3,.p 1 0),(4,.p 2 0),(26,.sl (c.upd.map Pr.cells)),(27,iv ((c.upd.map Pr.cells).length:Nat)),(28,iv (i:Nat))] [.box t.cells,.box c.cells,.box [sv ⟨#[]⟩,.nl,iv 0,.nl]]
theorem zjs (t:Tb) (c:Ch) (hl:zac c.upd) (hs:zac t.sch.cols) (hg:∀ p∈c.upd,∀ v∈p.nw,v.Good) (i:Nat)  (hi:i<=(c.upd).length) (hI:zbr t.sch c.upd=zbr t.sch (c.upd.drop i)):((zbr t.sch c.upd=zbr t.sch (c.upd.drop (c.upd).length))/\(decide ((((c.upd).length:Nat):Int) < (((c.upd.map Pr.cells).length:Nat):Int))=false)/\∀ R,Good E0 B.AA [] (zv4 t c (c.upd).length ) R->Good E0 B.AA [] (zv4 t c i ) R)\/(∃ (x':Tb) (r:Int),(r≠0/\r=zbr t.sch c.upd)/\Good E0 B.AA [] (zv4 t c i ) (Shut 0 fun rZ hZ=>rZ=(.tup [Tb.av x',iv r])/\hZ=[])):=by
 have hk:=hi;revert i;refine zlp ((c.upd).length) (fun i hlt ih hi hI _=>?_)
 obtain ⟨x,hx,h0,hw⟩:=zlq (l:=c.upd) ((c.upd.map Pr.cells).length) hlt
 have hgx:=hg x (List.mem_of_getElem? hx)
 let p_1:List St:=[sb h0,se (zae Pr.cells hx rfl),sc (zek t.sch x.nw zc7 zc7)]
 cases h1:fit5 t.sch x.nw != 0
 ·exact (ih Zo (by (rw [hI,zam hx];simp only [zbr, *,cond_false])) Zo).elim (fun ⟨qZ,xZ,gZ⟩=>.inl ⟨qZ,xZ,fun R hg=>zaa (wkl (p_1++[sb h1,si hw]) [2,3,4,26,27,28] 3 kr (gZ R hg))⟩) (fun ⟨x'Y,rY,pZ,gZ⟩=>.inr ⟨x'Y,rY,pZ,zaa (wkl [sb h0,se (zae Pr.cells hx rfl),sc (zek t.sch x.nw zc7 zc7),sb h1,si hw] [2,3,4,26,27,28] 3 kr gZ)⟩)
 ·exact .inr ⟨Tb.mk (Sch.mk Zs0 []) 0 [],fit5 t.sch x.nw,(by (refine ⟨by simpa using ‹(fit5 _ _ != 0)=true›,?_⟩;rw [hI,zam hx];simp only [zbr, *,cond_true])),zaa (wkr (p_1++[sb h1]) kr)⟩
noncomputable def zv3 (t:Tb) (c:Ch) (i:Nat) :Cfg:=zag B.AA 1 [(2,.p 0 0),(3,.p 1 0),(4,.p 2 0),(43,.sl (c.ins.map vrow)),(44,iv ((c.ins.map vrow).length:Nat)),(45,iv (i:Nat))] [.box t.cells,.box c.cells,.box [sv ⟨#[]⟩,.nl,iv 0,.nl]]
theorem zjp (t:Tb) (c:Ch) (hl:zac c.ins) (hs:zac t.sch.cols) (hg:∀ p∈c.ins,∀ v∈p,v.Good) (i:Nat)  (hi:i<=(c.ins).length) (hI:zbS t.sch c.ins=zbS t.sch (c.ins.drop i)):((zbS t.sch c.ins=zbS t.sch (c.ins.drop (c.ins).length))/\(decide ((((c.ins).length:Nat):Int) < (((c.ins.map vrow).length:Nat):Int))=false)/\∀ R,Good E0 B.AA [] (zv3 t c (c.ins).length ) R->Good E0 B.AA [] (zv3 t c i ) R)\/(∃ (x':Tb) (r:Int),(r≠0/\r=zbS t.sch c.ins)/\Good E0 B.AA [] (zv3 t c i ) (Shut 0 fun rZ hZ=>rZ=(.tup [Tb.av x',iv r])/\hZ=[])):=by
 have hk:=hi;revert i;refine zlp ((c.ins).length) (fun i hlt ih hi hI _=>?_)
 obtain ⟨x,hx,h0,hw⟩:=zlq (l:=c.ins) ((c.ins.map vrow).length) hlt
 have hgx:=hg x (List.mem_of_getElem? hx)
 let p_1:List St:=[sb h0,se (zae vrow hx rfl),sc (zek t.sch x zc7 zc7)]
 cases h1:fit5 t.sch x != 0
 ·exact (ih Zo (by (rw [hI,zam hx];simp only [zbS, *,cond_false])) Zo).elim (fun ⟨qZ,xZ,gZ⟩=>.inl ⟨qZ,xZ,fun R hg=>zaa (wkl (p_1++[sb h1,si hw]) [2,3,4,43,44,45] 3 kr (gZ R hg))⟩) (fun ⟨x'Y,rY,pZ,gZ⟩=>.inr ⟨x'Y,rY,pZ,zaa (wkl [sb h0,se (zae vrow hx rfl),sc (zek t.sch x zc7 zc7),sb h1,si hw] [2,3,4,43,44,45] 3 kr gZ)⟩)
 ·exact .inr ⟨Tb.mk (Sch.mk Zs0 []) 0 [],fit5 t.sch x,(by (refine ⟨by simpa using ‹(fit5 _ _ != 0)=true›,?_⟩;rw [hI,zam hx];simp only [zbS, *,cond_true])),zaa (wkr (p_1++[sb h1]) kr)⟩
def midS (c:Ch) (r:Rw):Option Rw:=bif anyI c.del r.id then none else some ⟨r.id,bif (fnd7 r.id c.upd).2 then (fnd7 r.id c.upd).1 else r.vals⟩
def midR (c:Ch) (l:List Rw):List Rw:=l.filterMap (midS c)
theorem zvB {c:Ch} {l:List Rw} {i:Nat} {x:Rw} (hx:l[i]?=some x):midR c (l.take (i+1))=midR c (l.take i)++(midS c x).toList:=by
 unfold midR
 rw [List.take_add_one,hx,List.filterMap_append]
 cases h:midS c x <;> simp [h]
theorem mid_0 {c:Ch} {l:List Rw} {i:Nat} {x:Rw} {rs:List Rw} (hI:rs.length<=i/\rs=midR c (l.take i)) (hx:l[i]?=some x) (h:anyI c.del x.id=true):rs.length<=i+1/\rs=midR c (l.take (i+1)):=by
 rw [zvB hx,midS,h];exact ⟨by omega,by simpa using hI.2⟩
theorem zxx {c:Ch} {l:List Rw} {i:Nat} {x:Rw} {rs:List Rw} {v:List V} (hI:rs.length<=i/\rs=midR c (l.take i)) (hx:l[i]?=some x) (h:anyI c.del x.id=false) (hv:v=bif (fnd7 x.id c.upd).2 then (fnd7 x.id c.upd).1 else x.vals):(rs++[Rw.mk x.id v]).length<=i+1/\rs++[⟨x.id,v⟩]=midR c (l.take (i+1)):=by
 rw [zvB hx,midS,h,← hI.2,hv];exact ⟨by simp;omega,by simp⟩
noncomputable def L_apR (t:Tb) (c:Ch) (i:Nat) (rs:List Rw):Cfg:=zag B.AA 2 [(2,.p 0 0),(3,.p 1 0),(4,.p 2 0),(12,.p 3 0),(65,.sl (t.rows.map Rw.cells)),(66,iv ((t.rows.map Rw.cells).length:Nat)),(67,iv (i:Nat))] [.box t.cells,.box c.cells,.box [sv ⟨#[]⟩,.nl,iv 0,.nl],.box [sv t.sch.name,.sl (t.sch.cols.map Col.cells),iv t.next,.own 4 rs.length],.row Ty.Row (rs.map Rw.cells) false]
theorem zjr (t:Tb) (c:Ch) (hl:zac c.upd) (hd:zac c.del) (hrs:zac t.rows) (hvs:∀ r∈t.rows,zac r.vals) (hfs:∀ n,zac (fnd7 n c.upd).1) (i:Nat) (rs:List Rw) (hi:i<=(t.rows).length) (hI:rs.length<=i/\rs=midR c (t.rows.take i)):∃ (rs':List Rw),(rs'.length<=(t.rows).length/\rs'=midR c (t.rows.take (t.rows).length))/\(decide ((((t.rows).length:Nat):Int) < (((t.rows.map Rw.cells).length:Nat):Int))=false)/\∀ R,Good E0 B.AA [] (L_apR t c (t.rows).length rs') R->Good E0 B.AA [] (L_apR t c i rs) R:=by
 have hk:=hi;revert i rs;refine zlp ((t.rows).length) (fun i hlt ih rs hi hI _=>?_)
 obtain ⟨x,hx,h0,hw⟩:=zlq (l:=t.rows) ((t.rows.map Rw.cells).length) hlt
 have hvx:=hvs x (List.mem_of_getElem? hx);have hfx:=hfs x.id;have hol:rs.length<=1000000000:=(by have:=hI.1;simp only [zac] at hrs;omega)
 let p_1:List St:=[sb h0,se (zae Rw.cells hx rfl),sc (zxt c.del x.id zc7)]
 cases h1:c.del.any fun x_1=>x_1==x.id
 ·let p_2:List St:=p_1++[sb h1,sc (zuO c.upd x.id zc7)]
  cases h2:(fnd7 x.id c.upd).snd
  ·exact Zih (ih (rs++[x]) Zo ztU Zo) fun R gY=>zaa (wkl (p_2++[sb h2,sd [(5,[sc (zcK x.vals zc7)]),(8,[sqA (List.map Rw.cells rs) [[iv x.id,vsl (za8 x.vals)]] rs.length 2 32])],si hw]) [2,3,4,12,65,66,67] 5 kr (zaA rfl (show ([Blk.box [sv t.sch.name,ZC t.sch.cols,iv t.next,ZW t.rows],Blk.box [AV.sl (List.map vrow c.ins),AV.sl (List.map (fun n=>[iv n]) c.del),AV.sl (List.map Pr.cells c.upd)],Blk.box [sv Zs0,AV.nl,iv 0,AV.nl],Blk.box [sv t.sch.name,ZC t.sch.cols,iv t.next,AV.own 4 (List.map Rw.cells rs++[[iv x.id,vsl (za8 x.vals)]]).length],Blk.row Ty.Row (List.map Rw.cells rs++[[iv x.id,vsl (za8 x.vals)]]) false]:Heap)=_ by first|rfl|(simp [Rw.cells,Tb.cells,Ch.cells,Pr.cells,za8];done)) gY))
  ·exact Zih (ih (rs++[Rw.mk x.id (za8 (fnd7 x.id c.upd).fst)]) Zo ztU Zo) fun R gY=>zaa (wkl (p_2++[sb h2,sd [(5,[sc (zcK ((fnd7 x.id c.upd).fst) zc7)]),(8,[sqA (List.map Rw.cells rs) [[iv x.id,vsl (za8 (fnd7 x.id c.upd).fst)]] rs.length 2 32])],si hw]) [2,3,4,12,65,66,67] 5 kr (zaA rfl (show ([Blk.box [sv t.sch.name,ZC t.sch.cols,iv t.next,ZW t.rows],Blk.box [AV.sl (List.map vrow c.ins),AV.sl (List.map (fun n=>[iv n]) c.del),AV.sl (List.map Pr.cells c.upd)],Blk.box [sv Zs0,AV.nl,iv 0,AV.nl],Blk.box [sv t.sch.name,ZC t.sch.cols,iv t.next,AV.own 4 (List.map Rw.cells rs++[[iv x.id,vsl (za8 (fnd7 x.id c.upd).fst)]]).length],Blk.row Ty.Row (List.map Rw.cells rs++[[iv x.id,vsl (za8 (fnd7 x.id c.upd).fst)]]) false]:Heap)=_ by first|rfl|(simp [Rw.cells,Tb.cells,Ch.cells,Pr.cells,za8];done)) gY))
 ·exact Zih (ih rs Zo ztU Zo) fun R gY=>zaa (wkl (p_1++[sb h1,si hw]) [2,3,4,12,65,66,67] 5 kr gY)
def insN:Int->List (List V)->List Rw
 | _,[]=>[]
 | n,v::r=>⟨n,v⟩::insN (n+1) r
theorem znL:∀ (l:List (List V)) (n:Int) (v:List V),insN n (l++[v])=insN n l++[⟨n+(l.length:Int),v⟩]
 | [],n,v=>by simp [insN]
 | x::l,n,v=>by
  have:=znL l (n+1) v
  simp only [List.cons_append,insN,this,List.length_cons]
  have e:n+1+(l.length:Int)=n+((l.length+1:Nat):Int):=by omega
  rw [e]
theorem zhO:∀ (l:List (List V)) (n:Int),(insN n l).length=l.length
 | [],_=>rfl
 | _::l,n=>by simp [insN,zhO l]
def ApI (t:Tb) (c:Ch) (i:Nat) (nx:Int) (rs:List Rw):Prop:=nx=t.next+(i:Int)/\rs=midR c t.rows++insN t.next (c.ins.take i)
theorem apI_0 {t:Tb} {c:Ch} {rs:List Rw} (h:rs.length<=t.rows.length/\rs=midR c (t.rows.take t.rows.length)):ApI t c 0 t.next rs:=by
 refine ⟨by omega,?_⟩
 rw [h.2,List.take_length];simp [insN]
theorem zA8 {t:Tb} {c:Ch} {nx:Int} {rs:List Rw} {i:Nat} (h:ApI t c i nx rs) (hm:(midR c t.rows).length<=100000) (hl:c.ins.length<=100000):zac rs:=by
 rw [h.2];simp only [zac];rw [List.length_append,zhO,List.length_take];omega
theorem zzS {t:Tb} {c:Ch} {i:Nat} {nx:Int} {rs:List Rw} {x:List V} (hI:ApI t c i nx rs) (hx:c.ins[i]?=some x):ApI t c (i+1) (nx+1) (rs++[⟨nx,x⟩]):=by
 obtain ⟨rfl,rfl⟩:=hI
 have hl:(c.ins.take i).length=i:=by have:=(List.getElem?_eq_some_iff.1 hx).1;simp;omega
 refine ⟨by omega,?_⟩
 rw [List.take_add_one,hx,List.append_assoc]
 simp only [Option.toList_some]
 rw [znL,hl]
noncomputable def L_apN (t:Tb) (c:Ch) (i:Nat) (nx:Int) (rs:List Rw):Cfg:=zag B.AA 3 [(4,.p 2 0),(12,.p 3 0),(118,.sl (c.ins.map vrow)),(119,iv ((c.ins.map vrow).length:Nat)),(120,iv (i:Nat))] [.box t.cells,.box c.cells,.box [sv ⟨#[]⟩,.nl,iv 0,.nl],.box [sv t.sch.name,.sl (t.sch.cols.map Col.cells),iv nx,.own 4 rs.length],.row Ty.Row (rs.map Rw.cells) false]
theorem zjq (t:Tb) (c:Ch) (hl:c.ins.length<=100000) (hn:1<=t.next/\t.next<=2147483648) (hvs:∀ r∈c.ins,zac r) (hm:(midR c t.rows).length<=100000) (i:Nat) (nx:Int) (rs:List Rw) (hi:i<=(c.ins).length) (hI:ApI t c i nx rs):∃ (nx':Int) (rs':List Rw),(ApI t c (c.ins).length nx' rs')/\(decide ((((c.ins).length:Nat):Int) < (((c.ins.map vrow).length:Nat):Int))=false)/\∀ R,Good E0 B.AA [] (L_apN t c (c.ins).length nx' rs') R->Good E0 B.AA [] (L_apN t c i nx rs) R:=by
 have hk:=hi;revert i nx rs;refine zlp ((c.ins).length) (fun i hlt ih nx rs hi hI _=>?_)
 obtain ⟨x,hx,h0,hw⟩:=zlq (l:=c.ins) ((c.ins.map vrow).length) hlt Zo
 have hvx:=hvs x (List.mem_of_getElem? hx);have hw1:IntKind.i64.wrap (nx+1)=nx+1:=(by rw [hI.1,IntKind.wrap_i64];omega)
 have hol:rs.length<=1000000000:=by rw [hI.2,List.length_append,zhO,List.length_take];omega
 obtain ⟨nxZ,rsZ,qZ,xZ,gZ⟩:=ih (nx+1) (rs++[Rw.mk nx (za8 x)]) Zo (by exact zzS hI hx) Zo;exact ⟨nxZ,rsZ,qZ,xZ,fun R hg=>zaa (wkl [sb h0,se (zae vrow hx rfl),sd [(5,[sc (zcK x zc7)]),(8,[sqA (List.map Rw.cells rs) [[iv nx,vsl (za8 x)]] rs.length 2 32])],si hw1,si hw] [4,12,118,119,120] 5 kr (zaA rfl (show ([Blk.box [sv t.sch.name,ZC t.sch.cols,iv t.next,ZW t.rows],Blk.box [AV.sl (List.map vrow c.ins),AV.sl (List.map (fun n=>[iv n]) c.del),AV.sl (List.map Pr.cells c.upd)],Blk.box [sv Zs0,AV.nl,iv 0,AV.nl],Blk.box [sv t.sch.name,ZC t.sch.cols,iv (nx+1),AV.own 4 (List.map Rw.cells rs++[[iv nx,vsl (za8 x)]]).length],Blk.row Ty.Row (List.map Rw.cells rs++[[iv nx,vsl (za8 x)]]) false]:Heap)=_ by first|rfl|(simp [Rw.cells,Tb.cells,Ch.cells,Pr.cells,za8];done)) (gZ R hg)))⟩
def apT (t:Tb) (c:Ch):Tb:=⟨t.sch,t.next+(c.ins.length:Int),midR c t.rows++insN t.next c.ins⟩
abbrev zcS (t:Tb) (c:Ch):List V:=za0 (idxF (fun z=>z.key) t.sch.cols 0) (midR c t.rows++insN t.next c.ins)
structure ApQ (t:Tb) (c:Ch) (x:Tb) (g:Int):Prop where
 ok:g=0->x=apT t c/\zbr t.sch c.upd=0/\zbS t.sch c.ins=0/\(zcS t c).Nodup
 err:g=0\/g=9\/g=10\/g=zbr t.sch c.upd\/g=zbS t.sch c.ins
 good:zbr t.sch c.upd=0->zbS t.sch c.ins=0->(midR c t.rows).length+c.ins.length<=100->(c.ins.length:Int)<=2147483648 - t.next->(zcS t c).Nodup->g=0
 lim:g=0->(midR c t.rows).length+c.ins.length<=100/\(c.ins.length:Int)<=2147483648 - t.next
section
variable {t x : Tb} {c : Ch} {g nx : Int} {rs rs' : List Rw} {b : Bool}
end
abbrev tab1 (m:List Tb) (w:Str) (c:Ch):List Tb:=m.set (idxF (fun t=>zan t w) m 0).toNat (apT (tabC m w) c)
def twC (m:List Tb) (a:Ac):Ch × Int:=zaq 6 a [] m
def twD (m:List Tb) (w:Str) (a:Ac):Ch × Int:=zaq 6 a [] (tab1 m w (twC m a).1)
structure TwD (m:List Tb) (w:Str) (e:X):Prop where
 c:Pure S.Ai [(acD w e).av,fsl [],tsl m] (.tup [(twC m (acD w e)).1.av,iv (twC m (acD w e)).2])
 a:((twC m (acD w e)).2 != 0)=false->Pure S.AA [(tabC m w).av,(twC m (acD w e)).1.av] (.tup [(apT (tabC m w) (twC m (acD w e)).1).av,iv 0])
 d:((twC m (acD w e)).2 != 0)=false->Pure S.Ai [(acD w e).av,fsl [],tsl (tab1 m w (twC m (acD w e)).1)] (.tup [Ch.av ⟨[],[],[]⟩,iv 0])
 l:((twC m (acD w e)).2 != 0)=false->((((apT (tabC m w) (twC m (acD w e)).1).rows.map Rw.cells).length:Int) != IntKind.i64.wrap ((((tabC m w).rows.map Rw.cells).length:Int) - (((twC m (acD w e)).1.del.map zaN).length:Int)))=false
 tab:decide (idxF (fun t=>zan t w) m 0 < 0)=false
 short:zac m
structure TwU (m:List Tb) (w:Str) (v e:X):Prop where
 c:Pure S.Ai [(acU w sN v e).av,fsl [],tsl m] (.tup [(twC m (acU w sN v e)).1.av,iv (twC m (acU w sN v e)).2])
 a:((twC m (acU w sN v e)).2 != 0)=false->Pure S.AA [(tabC m w).av,(twC m (acU w sN v e)).1.av] (.tup [(apT (tabC m w) (twC m (acU w sN v e)).1).av,iv 0])
 d:((twC m (acU w sN v e)).2 != 0)=false->Pure S.Ai [(acU w sN v e).av,fsl [],tsl (tab1 m w (twC m (acU w sN v e)).1)] (.tup [(twD m w (acU w sN v e)).1.av,iv (twD m w (acU w sN v e)).2])
 u:((twC m (acU w sN v e)).2 != 0)=false->((twD m w (acU w sN v e)).2==0)=true->∀ p∈(twD m w (acU w sN v e)).1.upd,p.old=p.nw
 lu:((twC m (acU w sN v e)).2 != 0)=false->∀ p∈(twD m w (acU w sN v e)).1.upd,zac p.old
 ul:((twC m (acU w sN v e)).2 != 0)=false->zac (twD m w (acU w sN v e)).1.upd
theorem zd5 {s:Sch} {i:Nat} {x:Col} (h:(zaD x.name&&decide (1<=x.type)&&decide (x.type<=3)&&(!x.key || x.notNull)&&(idxF (fun c=>colC c x.name) s.cols 0==((i:Nat):Int)))=true):ColV s i x:=by
 simp only [Bool.and_eq_true,decide_eq_true_eq,beq_iff_eq,Bool.or_eq_true,Bool.not_eq_true'] at h
 obtain ⟨⟨⟨⟨h1,h2⟩,h3⟩,h4⟩,h5⟩:=h
 refine ⟨by rw [h1];rfl,by simp;omega,by simp;omega,fun hk=>?_,by simp [h5]⟩
 rcases h4 with h4|h4
 ·rw [hk] at h4;cases h4
 ·exact h4
theorem zd9 {s:Sch} (hs:s∈zaj):SchV s:=by
 simp only [zaj,List.mem_cons,List.not_mem_nil,or_false] at hs
 rcases hs with rfl|rfl|rfl
 ·refine ⟨by kernel_rfl,by kernel_rfl,by kernel_rfl,fun i x hx=>?_,by decide⟩
  match i,hx with
  | 0,hx=>cases hx;exact zd5 kr
  | 1,hx=>cases hx;exact zd5 kr
  | i+2,hx=>simp at hx
 ·refine ⟨by kernel_rfl,by kernel_rfl,by kernel_rfl,fun i x hx=>?_,by decide⟩
  match i,hx with
  | 0,hx=>cases hx;exact zd5 kr
  | 1,hx=>cases hx;exact zd5 kr
  | 2,hx=>cases hx;exact zd5 kr
  | 3,hx=>cases hx;exact zd5 kr
  | i+4,hx=>simp at hx
 ·refine ⟨by kernel_rfl,by kernel_rfl,by kernel_rfl,fun i x hx=>?_,by decide⟩
  match i,hx with
  | 0,hx=>cases hx;exact zd5 kr
  | 1,hx=>cases hx;exact zd5 kr
  | 2,hx=>cases hx;exact zd5 kr
  | i+3,hx=>simp at hx
theorem zy5 {s:Sch} (hs:s∈zaj):idxF (fun c=>c.key) s.cols 0=keyC s:=by
 simp only [zaj,List.mem_cons,List.not_mem_nil,or_false] at hs
 rcases hs with rfl|rfl|rfl <;> kernel_rfl
theorem StoreV.tabV {n:Int} {m:List Tb} (h:StoreV n m) (hn:n<=100) {t:Tb} (ht:t∈m):TabV t:=by
 have hs:t.sch∈zaj:=by rw [← h.schs];exact List.mem_map_of_mem ht
 have h1:=h.len t ht
 have h2:=h.next t ht
 exact ⟨zd9 hs,by simp;omega,h.rows t ht,by simp;omega,zy5 hs⟩
theorem StoreV.set {n:Int} {m:List Tb} (h:StoreV n m) {i:Nat} {t u:Tb} (hi:m[i]?=some t) (hs:u.sch=t.sch) (hr:RowsV u.sch u.next u.rows) (hx:u.next<=3000) (hl:(u.rows.length:Int)<=n):StoreV n (m.set i u):=by
 have hm:∀ x∈m.set i u,x∈m\/x=u:=fun x hx=>List.mem_or_eq_of_mem_set hx
 refine ⟨?_,fun x hx=>?_,fun x hx=>?_,fun x hx=>?_⟩
 ·rw [List.map_set,hs]
  have:(m.map Tb.sch).set i t.sch=m.map Tb.sch:=by
   obtain ⟨hl,e⟩:=List.getElem?_eq_some_iff.1 hi
   have e2:t.sch=(m.map Tb.sch)[i]'(by simpa using hl):=by simp [e]
   rw [e2];exact List.set_getElem_self _
  rw [this];exact h.schs
 ·rcases hm x hx with h1|rfl
  ·exact h.rows x h1
  ·exact hr
 ·rcases hm x hx with h1|rfl
  ·exact h.next x h1
  ·assumption
 ·rcases hm x hx with h1|rfl
  ·exact h.len x h1
  ·exact hl
section
variable {G : Str -> List Col} {tbs : List Sch} {tb : List Tb} {M n : Nat} {frs : List Fr} {w : Int} {s : Sch} {a : Ac} {q : Qy}
theorem zgu {cols:List Col} {its:List X} (h:zc1 tbs M frs cols cols.length its) {x:X} (hx:x∈its):∃ c∈cols,XT tbs M frs c.type x:=by
 obtain ⟨j,hj⟩:=List.getElem?_of_mem hx
 have:=zbu hj
 obtain ⟨c,hc⟩:=za4 (l:=cols) (i:=j) (by have:=h.1;omega)
 exact ⟨c,List.mem_of_getElem? hc,h.2 j c x hc hj⟩
theorem zeZ (hs:s∈zaj):2<=s.cols.length/\s.cols.length<=4:=by
 simp only [zaj,List.mem_cons,List.not_mem_nil,or_false] at hs
 rcases hs with rfl|rfl|rfl <;> simp
theorem QyT.ok (hs:s∈zaj) (h:QyT tbs M frs s q):QW M q:=by
 cases h with
 | mk hf hc hw hx =>
  refine ⟨?_,?_,fun x h=>?_,fun x h=>(hx x h).ok⟩
  ·have h1:=hc.1;have h2:=zeZ hs;simp only [Few,Qy.items_mk];omega
  ·simp only [Few,Qy.wh_mk];omega
  ·obtain ⟨c,_,h1⟩:=zgu hc h;exact h1.ok
theorem ActT.ok (h:ActT tbs M frs a):AcOk M a/\(1<=a.kind/\a.kind<=3):=by
 cases h with
 | @rows s rows hs h1 h2 hr =>
  refine ⟨⟨by simp only [Few];omega,fun r h=>⟨?_,fun x hx=>?_⟩,by simp,by simp,by simp,by simp,by simp,by simp⟩,by simp⟩
  ·have h3:=(hr r h).1;have h4:=zeZ hs;simp only [Few];omega
  ·obtain ⟨c,_,h1⟩:=zgu (hr r h) hx;exact h1.ok
 | copy hs hq =>
  refine ⟨⟨by simp,by simp,by simp,fun x hx=>?_,by simp,by simp,by simp,by simp⟩,by simp⟩
  simp only [List.mem_singleton] at hx;subst hx;exact hq.ok hs
 | @upd s first i sets wh hs h1 hI hw hx =>
  refine ⟨⟨by simp,by simp,by simp,by simp,by have:=hI.len;have:=hI.two;simp only [Few];omega,fun x hx=>?_,by simp only [Few];omega,fun x h=>(hx x h).ok⟩,by simp⟩
  obtain ⟨j,hj⟩:=List.getElem?_of_mem hx
  obtain ⟨c,_,_,h3⟩:=hI.at_ j x hj
  exact h3.ok
 | del hs hw hx=>exact ⟨⟨by simp,by simp,by simp,by simp,by simp,by simp,by simp only [Few];omega,fun x h=>(hx x h).ok⟩,by simp⟩
/- ### validity -/
theorem zsj (hG:EnvT G) (ht:TbE G tbs tb) {l:List X} {fr:List Fr} (hf:FsT' G fr) (h:∀ x∈l,∃ w,XT tbs M fr w x):l.all (vX M)=true:=List.all_eq_true.2 fun x hx=>by
 obtain ⟨w,h1⟩:=h x hx
 exact h1.vx hG ht hf
theorem znH (hG:EnvT G) (ht:TbE G tbs tb) {l:List X} {fr:List Fr} (hf:FsT' G fr) (hl:l.length<=1) (h:∀ x∈l,XT tbs M fr 2 x):zcE (vX M) l=true:=by
 unfold zcE
 rw [zsj hG ht hf fun x hx=>⟨2,h x hx⟩]
 have:decide (((zad l).length:Int)<=1)=true:=by simp;omega
 rw [this];rfl
theorem zAK (hG:EnvT G) (ht:TbE G tbs tb) (hf:FsT' G frs) (hs:s∈zaj) {rows:List (List X)} (hl:rows.length<=3) (h:ziy tbs M frs s rows):zeD (vX M) rows=true:=by
 unfold zeD
 have h1:decide (((rows.map zaE).length:Int)<=8)=true:=by simp;omega
 rw [h1,cond_true,List.all_eq_true]
 intro r hr
 have h2:=(h r hr).1
 have h3:=zeZ hs
 have h4:decide (((zad r).length:Int) < 1)=false:=by simp;omega
 have h5:decide (6 < ((zad r).length:Int))=false:=by simp;omega
 unfold zcC
 rw [h4,h5,zsj hG ht hf fun x hx=>(by obtain ⟨c,_,h6⟩:=zgu (h r hr) hx;exact ⟨_,h6⟩)];rfl
theorem qyB_ok (hG:EnvT G) (ht:TbE G tbs tb) (hf:FsT' G frs) (hs:s∈zaj) (h:QyT tbs M frs s q):qyB (vX M) q=true:=by
 cases h with
 | @mk f its wh hfm hc hw hx =>
  have h2:=hc.1
  have h3:=zeZ hs
  have hfi:=hf.ins ht hfm
  have h4:(!(false==(((zad its).length:Int)==0)))=false:=by
   have:(((zad its).length:Int)==0)=false:=by simp;intro h;rw [h] at h2;simp at h2;omega
   rw [this];rfl
  have h5:decide (8 < ((zad its).length:Int))=false:=by simp;omega
  show (bif !(false==(((zad its).length:Int)==0)) then false else bif decide (8 < ((zad its).length:Int)) then false else bif zbQ f.name then (bif its.all (vX M) then zcE (vX M) wh else false) else false)=true
  rw [h4,h5,ht.src f hfm,znH hG ht hfi hw hx,zsj hG ht hfi fun x hx=>(by obtain ⟨c,_,h6⟩:=zgu hc hx;exact ⟨_,h6⟩)];rfl
theorem zdn (hs:s∈zaj):zaD s.name=true:=by have:=(zd9 hs).name;simpa using this
theorem zyH (hs:s∈zaj) {i j:Nat} {c d:Col} (hc:s.cols[i]?=some c) (hd:s.cols[j]?=some d) (h:c.name=d.name):i=j:=by
 have h1:=((zd9 hs).cols i c hc).at_
 have h2:=((zd9 hs).cols j d hd).at_
 rw [h] at h1
 simp only [bne_eq_false_iff_eq] at h1 h2
 omega
theorem zBu {a b:Str} (h:a≠b):hasS [a] b=false:=by
 have h1:(ByteArray.toList a==ByteArray.toList b)=false:=by
  cases hb:ByteArray.toList a==ByteArray.toList b
  ·rfl
  ·exact absurd (zj2 (by simpa using hb)) h
 have h2:(ByteArray.toList b==ByteArray.toList a)=false:=by rw [BEq.comm];exact h1
 unfold hasS zhC
 simp [stIx,h1,h2]
theorem zAx (hs:s∈zaj) {first i:Nat} {sets:List Se} (h:SetsT tbs M frs s first i sets):zfj (sets.map Se.col)=true:=by
 have h0:=zeZ hs
 have hl:=h.len
 have h2:=h.two
 have hv:∀ x∈sets,zaD x.col=true:=fun x hx=>by
  obtain ⟨j,hj⟩:=List.getElem?_of_mem hx
  obtain ⟨c,h1,h3,_⟩:=h.at_ j x hj
  have:=((zd9 hs).cols _ c h1).name
  rw [h3];simpa using this
 match sets,hl,hv,h.at_ with
 | [],_,_,_=>rfl
 | [x],_,hv,_ =>
  show (bif _ then false else nmL [] [x.col])=true
  have:=hv x Zs
  simp [zfj,nmL,this,hasS,zhC,stIx]
 | [x,y],_,hv,hat =>
  obtain ⟨c,c1,c2,_⟩:=hat 0 x rfl
  obtain ⟨d,d1,d2,_⟩:=hat 1 y rfl
  have hne:x.col≠y.col:=fun e=>by
   rw [c2,d2] at e
   have h5:=zyH hs c1 d1 e
   have h6:(first+0) % s.cols.length=(first+1) % s.cols.length:=h5
   have h7:s.cols.length=2\/s.cols.length=3\/s.cols.length=4:=by omega
   rcases h7 with h7|h7|h7 <;> rw [h7] at h6 <;> omega
  have e1:=hv x Zs
  have e2:=hv y Zs
  have e3:=zBu hne
  have e4:hasS [] x.col=false:=by simp [hasS,zhC,stIx]
  show (bif decide (8 < ((2:Nat):Int)) then false else bif !zaD x.col then false else bif hasS [] x.col then false else bif !zaD y.col then false else bif hasS [x.col] y.col then false else true)=true
  rw [e1,e2,e3,e4];rfl
 | _::_::_::_,hl,_,_=>simp at hl;omega
theorem ActT.act (hG:EnvT G) (ht:TbE G tbs tb) (hS:TbE G zaj tb) (hf:FsT' G frs) (h:ActT tbs M frs a):actB (vX M) a=true:=by
 cases h with
 | @rows s rows hs h1 h2 hr =>
  have e1:=zdn hs
  have e2:decide (0 < ((rows.map zaE).length:Int))=true:=by simp;omega
  have e3:=zAK hG ht hf hs h2 hr
  have:actB (vX M) (Ac.mk 1 s.name rows [] [] [] ⟨#[]⟩)=bif !zaD s.name then false else bif (decide (0 < ((rows.map zaE).length:Int))==false) then false else bif zeD (vX M) rows then (bif decide (0 < ((rows.map zaE).length:Int)) then true else bif ((zah []).length:Int)==1 then qy0 (vX M) (Ac.mk 1 s.name rows [] [] [] ⟨#[]⟩) else false) else false:=by kernel_rfl
  rw [this,e1,e2,e3];rfl
 | @copy s q hs hq =>
  have e1:=zdn hs
  have e3:=qyB_ok hG ht hf hs hq
  have:actB (vX M) (Ac.mk 1 s.name [] [q] [] [] ⟨#[]⟩)=bif !zaD s.name then false else qyB (vX M) q:=by kernel_rfl
  rw [this,e1,e3];rfl
 | @upd s first i sets wh hs h1 hI hw hx =>
  have e1:=zdn hs
  have hfi:=hf.ins hS hs
  have e2:decide (0 < ((sets.map Se.cells).length:Int))=true:=by have:=hI.len;simp;omega
  have e3:zdI (vX M) sets=true:=by
   unfold zdI
   have h3:sets.all (fun s=>vX M s.ex)=true:=List.all_eq_true.2 fun x hx=>by
    obtain ⟨j,hj⟩:=List.getElem?_of_mem hx
    obtain ⟨c,_,_,h3⟩:=hI.at_ j x hj
    exact h3.vx hG ht hfi
   rw [h3];exact zAx hs hI
  have e4:=znH hG ht hfi hw hx
  have:actB (vX M) (Ac.mk 2 s.name [] [] sets wh ⟨#[]⟩)=bif zaD s.name then (bif decide (0 < ((sets.map Se.cells).length:Int)) then (bif zdI (vX M) sets then zcE (vX M) wh else false) else false) else false:=by kernel_rfl
  rw [this,e1,e2,e3,e4];rfl
 | @del s wh hs hw hx =>
  have e1:=zdn hs
  have e4:=znH hG ht (hf.ins hS hs) hw hx
  have:actB (vX M) (Ac.mk 3 s.name [] [] [] wh ⟨#[]⟩)=bif zaD s.name then zcE (vX M) wh else false:=by kernel_rfl
  rw [this,e1,e4];rfl
/- ### types -/
end
/- ### the home of a statement -/
theorem zfq {s:Sch} (hs:s∈zaj):TabN s.name/\zav s.name=s:=by
 simp only [zaj,List.mem_cons,List.not_mem_nil,or_false] at hs
 rcases hs with rfl|rfl|rfl
 ·exact ⟨.inr (.inr rfl),by kernel_rfl⟩
 ·exact ⟨.inl rfl,by kernel_rfl⟩
 ·exact ⟨.inr (.inl rfl),by kernel_rfl⟩
theorem zj0 (n:Str):zav n∈zaj\/(zav n).cols=[]:=by
 unfold zav zaj
 simp only [zhB]
 cases ByteArray.toList _==ByteArray.toList n
 ·cases ByteArray.toList _==ByteArray.toList n
  ·cases ByteArray.toList _==ByteArray.toList n
   ·exact .inr rfl
   ·exact .inl Zs
  ·exact .inl Zs
 ·exact .inl Zs
def zmM (n:Str):List Col:=(zav n).cols
theorem znJ:EnvT zmM:=by
 refine ⟨fun n c hc=>?_,fun n i c hc=>?_⟩
 ·rcases zj0 n with h|h
  ·obtain ⟨i,hi⟩:=List.getElem?_of_mem hc
   have:=((zd9 h).cols i c hi).name
   simpa using this
  ·unfold zmM at hc;rw [h] at hc;cases hc
 ·rcases zj0 n with h|h
  ·have:=((zd9 h).cols i c hc).at_
   simp only [bne_eq_false_iff_eq] at this
   exact this
  ·unfold zmM at hc;rw [h] at hc;simp at hc
theorem zhx {k:Int} {m:List Tb} (hm:StoreV k m):TbE zmM zaj m:=by
 refine ⟨fun s hs=>?_,fun s hs=>?_,fun s hs=>?_⟩
 ·unfold zmM;rw [(zfq hs).2]
 ·unfold zbQ;rw [zdn hs];rfl
 ·obtain ⟨t1,t2,t3,t4⟩:=zqU hm (zfq hs).1
  have h1:=(zpE t4).2.1
  rw [t3,(zfq hs).2] at h1
  exact Prod.ext h1 t4
theorem zpZ:FsT' zmM []:=⟨by simp,by simp,by simp⟩
theorem zcW {p:Prop} (h:p:=by first|assumption|omega|(simp;done)|(simp;omega)):p:=h
theorem zpd {p:Prop} (h:p:=by first|rfl|exact (zBU ha ‹_› ‹_› ‹_› ‹_›).elim):p:=h
theorem zxK {p:Prop} (h:p:=by first|exact beq_self_eq_true _|(have h9:=hi ‹_›;have h8:decide (0<=v.int)=false:=‹_›;rw [h8] at h9;cases h9)):p:=h
theorem zrZ {p:Prop} (h:p:=by first|trivial|assumption|(simp;done)|omega|(simp;omega)|(simp at *;omega)):p:=h
abbrev VxT (x:X):Prop:=zab E0 S.Ak [x.av] [] (bv true) []
theorem zBi (s:Str) :∃ (r:Bool),r=zbQ s/\zab E0 S.BL [sv s] [] (bv r) []:=by
 cases h1:zaD s
 ·let p_1:List St:=[sc (zcj s),sg h1]
  cases h2:ByteArray.toList s==ZsI.toList
  ·exact ⟨ByteArray.toList s==(ByteArray.mk #[(68:UInt8),(69:UInt8),(76:UInt8),(69:UInt8),(84:UInt8),(69:UInt8),(68:UInt8)]).toList,(by (simp only [zbQ, *];simp)),wk At.BL (p_1++[sg h2]) kr⟩
  ·exact ⟨true,(by (simp only [zbQ, *];simp)),wk At.BL (p_1++[sb h2]) kr⟩
 ·exact ⟨true,(by (simp only [zbQ, *];simp)),wk At.BL [sc (zcj s),sb h1] kr⟩
theorem zgW (s:Str):zab E0 S.BL [sv s] [] (bv (zbQ s)) []:=by
 obtain ⟨r,rfl,h⟩:=zBi s
 exact h
theorem zBU {a:Str} (ha:zem a=true) (e1:(a.toList==sNo.toList)=false) (e2:zbQ a=false) (e3:(a.toList==sNW.toList)=false) (e4:(a.toList==sOL.toList)=false):False:=by
 unfold zbQ at e2
 simp only [Bool.or_eq_false_iff] at e2
 unfold zem at ha
 rw [e1,e3,e4,e2.1.1,e2.1.2,e2.2] at ha
 cases ha
theorem zje (v:V) (hsh:zab E0 S.Ad [(xLit v).av] [] (bv true) []) (hv:zab E0 S.AS [v.av] [] (bv true) []) (hi:(v.kind != 1)=false->decide (0<=v.int)=true):∃ (r:Bool),r=true/\zab E0 S.Ak [(xLit v).av] [] (bv r) []:=by
 let p_1:List St:=[sc hsh,sg Zf,sg Zt,sg Zf,sg Zt,sb Zf,sb Zt,sc hv,sg Zt]
 cases h1:(xLit v).val.kind != 1
 ·cases h2:decide (0<=(xLit v).val.int)
  ·exact ⟨false,zxK,wk At.Ak (p_1++[sg h1,sb h2]) kr⟩
  ·exact ⟨ByteArray.toList (xLit v).name==Zs0.toList,zxK,wk At.Ak (p_1++[sg h1,sg h2,sg Zt]) kr⟩
 ·exact ⟨ByteArray.toList (xLit v).name==Zs0.toList,zxK,wk At.Ak (p_1++[sb h1,sg Zt]) kr⟩
theorem zjd (a b:Str) (hsh:zab E0 S.Ad [(xCol a b).av] [] (bv true) []) (ha:zem a=true) (hn:zab E0 S.Au [sv b] [] (bv true) []) (hso:zab E0 S.BL [sv a] [] (bv (zbQ a)) []):∃ (r:Bool),r=true/\zab E0 S.Ak [(xCol a b).av] [] (bv r) []:=by
 let p_1:List St:=[sc hsh,sg Zf,sg Zt,sg Zf,sg Zt,sb Zf,sb Zf,sb Zt]
 cases h1:ByteArray.toList (xCol a b).table==Zs0.toList
 ·cases h2:zbQ a
  ·cases h3:ByteArray.toList (xCol a b).table==ZsN.toList
   ·cases h4:ByteArray.toList (xCol a b).table==ZsO.toList
    ·exact ⟨false,zpd,wk At.Ak (p_1++[sg h1,sc hso,sg h2,sg h3,sb h4]) kr⟩
    ·exact ⟨(xCol a b).val.kind==(0:Int)&&((xCol a b).val.int==(0:Int)&&((xCol a b).val.text==ByteArray.mk #[]&&true)),zpd,wk At.Ak (p_1++[sg h1,sc hso,sg h2,sg h3,sg h4,sc hn,sg Zt,sq za3]) kr⟩
   ·exact ⟨(xCol a b).val.kind==(0:Int)&&((xCol a b).val.int==(0:Int)&&((xCol a b).val.text==ByteArray.mk #[]&&true)),zpd,wk At.Ak (p_1++[sg h1,sc hso,sg h2,sb h3,sc hn,sg Zt,sq za3]) kr⟩
  ·exact ⟨(xCol a b).val.kind==(0:Int)&&((xCol a b).val.int==(0:Int)&&((xCol a b).val.text==ByteArray.mk #[]&&true)),zpd,wk At.Ak (p_1++[sg h1,sc hso,sb h2,sc hn,sg Zt,sq za3]) kr⟩
 ·exact ⟨(xCol a b).val.kind==(0:Int)&&((xCol a b).val.int==(0:Int)&&((xCol a b).val.text==ByteArray.mk #[]&&true)),zpd,wk At.Ak (p_1++[sb h1,sc hn,sg Zt,sq za3]) kr⟩
noncomputable def L_alT (l:List X) (i:Nat) :Cfg:=zag B.AY 0 [(5,xsl l),(6,iv ((zad l).length:Nat)),(7,iv (i:Nat))] []
theorem zj7 (l:List X) (hl:zac l) (hv:∀ x∈l,VxT x) (i:Nat)  (hi:i<=(l).length) (hI:True):(True)/\(decide ((((l).length:Nat):Int) < (((zad l).length:Nat):Int))=false)/\∀ R,Good E0 B.AY [] (L_alT l (l).length ) R->Good E0 B.AY [] (L_alT l i ) R:=by
 have hk:=hi;revert i hI;refine zlp ((l).length) (fun i hlt ih hi hI _=>?_)
 obtain ⟨x,hx,h0,hw⟩:=zlq (l:=l) ((zad l).length) hlt
 have hvx:=hv x (List.mem_of_getElem? hx)
 obtain ⟨qZ,xZ,gZ⟩:=ih Zo zrZ Zo;exact ⟨qZ,xZ,fun R hg=>zaa (wkl [sb h0,se (zbt hx),sc hvx,sb Zf,si hw] [5,6,7] 0 kr (gZ R hg))⟩
theorem zBc (l:List X) (hl:zac l) (hv:∀ x∈l,VxT x):∃ (r:Bool),r=true/\zab E0 S.AY [xsl l] [] (bv r) []:=by
 obtain ⟨q1,q1_1,g1⟩:=zj7 l zcW zcW 0 zcW zcW
 exact ⟨true,Zr,wkc At.AY [] [5,6,7] 0 kr (g1 _ (zaa (wkr [sb q1_1] kr)))⟩
theorem zbC (l:List X) (hl:zac l) (hv:∀ x∈l,VxT x):zab E0 S.AY [xsl l] [] (bv true) []:=by
 obtain ⟨r,rfl,h⟩:=zBc l hl hv
 exact h
theorem zBg (k o:Int) (nt:Bool) (l:List X) (q:List Qy) :∃ (r:Bool),r=true/\zab E0 S.CN [(X.mk k o nt ⟨0,0,⟨#[]⟩⟩ ⟨#[]⟩ ⟨#[]⟩ l q).av] [] (bv r) []:=by
 exact ⟨Zs0.toList==Zs0.toList,(by exact beq_self_eq_true _),wk At.CN [sq za3,sg Zt,sg Zt] kr⟩
noncomputable def L_vqA (k o:Int) (nt:Bool) (l:List X) (i:Nat):Cfg:=zag B.Ak 0 [(1,.p 0 0),(99,.sl []),(100,iv 0),(101,iv (i:Nat))] [.box (xA k o nt l).cells]
theorem zbR (k o:Int) (nt:Bool) (l:List X) (i:Nat):True/\∀ R,Good E0 B.Ak [] (L_vqA k o nt l i) R->Good E0 B.Ak [] (L_vqA k o nt l i) R:=⟨trivial,fun _ h=>h⟩
theorem zkX (k o:Int) (nt:Bool) (l:List X) (hsh:zab E0 S.Ad [(xA k o nt l).av] [] (bv true) []) (hpl:zab E0 S.CN [(xA k o nt l).av] [] (bv true) []) (ha:zab E0 S.AY [xsl l] [] (bv true) []) (k1:((xA k o nt l).kind==1)=false) (k2:((xA k o nt l).kind==2)=false) (ho:((xA k o nt l).kind != 5)=true->((xA k o nt l).op != 0)=false) (hn:((xA k o nt l).kind != 6)=true->(xA k o nt l).not=false):∃ (r:Bool),r=true/\zab E0 S.Ak [(xA k o nt l).av] [] (bv r) []:=by
 let p_1:List St:=[sc hsh,sg Zf]
 cases h1:(xA k o nt l).kind != 5
 ·cases h2:(xA k o nt l).kind != 6
  ·obtain ⟨q3,g3⟩:=zbR ((xA k o nt l).kind) ((xA k o nt l).op) ((xA k o nt l).not) ((xA k o nt l).args) (0)
   exact ⟨true,Zr,wkc At.Ak (p_1++[sb h1,sb h2,sb k1,sb k2,sc hpl,sg Zf,sc ha,sb Zf]) [1,99,100,101] 1 kr (g3 _ (zaa (wkr [sb Zf] kr)))⟩
  ·obtain ⟨q4,g4⟩:=zbR ((xA k o nt l).kind) ((xA k o nt l).op) ((xA k o nt l).not) ((xA k o nt l).args) (0)
   exact ⟨true,Zr,wkc At.Ak (p_1++[sb h1,sg h2,sb (hn h2),sb k1,sb k2,sc hpl,sg Zf,sc ha,sb Zf]) [1,99,100,101] 1 kr (g4 _ (zaa (wkr [sb Zf] kr)))⟩
 ·cases h5:(xA k o nt l).kind != 6
  ·obtain ⟨q6,g6⟩:=zbR ((xA k o nt l).kind) ((xA k o nt l).op) ((xA k o nt l).not) ((xA k o nt l).args) (0)
   exact ⟨true,Zr,wkc At.Ak (p_1++[sg h1,sg (ho h1),sb h5,sb k1,sb k2,sc hpl,sg Zf,sc ha,sb Zf]) [1,99,100,101] 1 kr (g6 _ (zaa (wkr [sb Zf] kr)))⟩
  ·obtain ⟨q7,g7⟩:=zbR ((xA k o nt l).kind) ((xA k o nt l).op) ((xA k o nt l).not) ((xA k o nt l).args) (0)
   exact ⟨true,Zr,wkc At.Ak (p_1++[sg h1,sg (ho h1),sg h5,sb (hn h5),sb k1,sb k2,sc hpl,sg Zf,sc ha,sb Zf]) [1,99,100,101] 1 kr (g7 _ (zaa (wkr [sb Zf] kr)))⟩
noncomputable def L_vqQ (k:Int) (st:Bool) (it:List X) (f:Str) (wh:List X) (i:Nat):Cfg:=zag B.Ak 0 [(1,.p 0 0),(99,.sl [[bv st,xsl it,sv f,xsl wh]]),(100,iv 1),(101,iv (i:Nat))] [.box (xQ k st it f wh).cells]
theorem zdd (k:Int) (st:Bool) (it:List X) (f:Str) (wh:List X) (i:Nat):True/\∀ R,Good E0 B.Ak [] (L_vqQ k st it f wh i) R->Good E0 B.Ak [] (L_vqQ k st it f wh i) R:=⟨trivial,fun _ h=>h⟩
theorem zkY (k:Int) (st:Bool) (it:List X) (f:Str) (wh:List X) (hsh:zab E0 S.Ad [(xQ k st it f wh).av] [] (bv true) []) (hpl:zab E0 S.CN [(xQ k st it f wh).av] [] (bv true) []) (h00:zab E0 S.AY [.sl []] [] (bv true) []) (hit:zab E0 S.AY [xsl it] [] (bv true) []) (hwh:zab E0 S.AY [xsl wh] [] (bv true) []) (hso:zab E0 S.BL [sv f] [] (bv true) []) (k1:((xQ k st it f wh).kind==1)=false) (k2:((xQ k st it f wh).kind==2)=false) (k5:((xQ k st it f wh).kind != 5)=true) (k6:((xQ k st it f wh).kind != 6)=true) (hst:(!st==(k==8))=false):∃ (r:Bool),r=true/\zab E0 S.Ak [(xQ k st it f wh).av] [] (bv r) []:=by
 obtain ⟨q1,g1⟩:=zdd ((xQ k st it f wh).kind) st it f wh (0)
 let p_1:List St:=[sc hsh,sg Zf,sg k5,sg Zf,sg k6,sb Zf,sb k1,sb k2,sc hpl,sg Zf,sc h00,sb Zf]
 let p_2:List St:=[sb Zt,se (xs:=[[bv st,AV.sl (zad it),sv f,AV.sl (zad wh)]]) (i:=0) (c:=[bv st,AV.sl (zad it),sv f,AV.sl (zad wh)]) (n:=4) ⟨by decide,rfl,rfl⟩]
 cases h2:!st==((xQ (xQ k st it f wh).kind st it f wh).kind==8)
 ·obtain ⟨q3,g3⟩:=zdd ((xQ (xQ k st it f wh).kind st it f wh).kind) st it f wh (0+1)
  exact ⟨true,(by first|rfl|exact absurd (hst.symm.trans ‹_›) Zs),wkc At.Ak p_1 [1,99,100,101] 1 kr (g1 _ (zaa (wkl (p_2++[sg h2,sc hso,sg Zf,sc hit,sg Zf,sc hwh,sb Zf,si (zbB (t:=(↑0:Int)+1) (n:=0+1) Zo Zo)]) [1,99,100,101] 1 kr (g3 _ (zaa (wkr [sb Zf] kr))))))⟩
 ·exact ⟨false,(by first|rfl|exact absurd (hst.symm.trans ‹_›) Zs),wkc At.Ak p_1 [1,99,100,101] 1 kr (g1 _ (zaa (wkr (p_2++[sb h2]) kr)))⟩
theorem c_vq11 (st:Bool) (it:List X) (f:Str) (wh:List X) (hit:zab E0 S.AY [xsl it] [] (bv true) []) (hwh:zab E0 S.AY [xsl wh] [] (bv true) []) (hso:zab E0 S.BL [sv f] [] (bv true) []) (g1:decide ((1:Int) < (((zad wh).length:Nat):Int))=false) (g8:decide ((8:Int) < (((zad it).length:Nat):Int))=false) (hst:(st != ((((zad it).length:Nat):Int)==0))=false):∃ (r:Bool),r=true/\zab E0 S.CU [(Qy.mk st it f wh).av] [] (bv r) []:=by
 exact ⟨true,Zr,wk At.CU [sc hso,sg Zf,sg g1,sg g8,sb hst,sc hit,sg Zt,sc hwh] kr⟩
noncomputable def L_viT (nm:Str) (l:List (List X)) (i:Nat) :Cfg:=zag B.AJ 0 [(1,.p 0 0),(27,.sl (l.map zaE)),(28,iv ((l.map zaE).length:Nat)),(29,iv (i:Nat))] [.box (Ac.mk 1 nm l [] [] [] ⟨#[]⟩).cells]
theorem zfO (nm:Str) (l:List (List X)) (hl:zac l) (hr:∀ r∈l,(1<=r.length/\r.length<=6)/\zab E0 S.AY [xsl r] [] (bv true) []) (i:Nat)  (hi:i<=(l).length) (hI:True):(True)/\(decide ((((l).length:Nat):Int) < (((l.map zaE).length:Nat):Int))=false)/\∀ R,Good E0 B.AJ [] (L_viT nm l (l).length ) R->Good E0 B.AJ [] (L_viT nm l i ) R:=by
 have hk:=hi;revert i hI;refine zlp ((l).length) (fun i hlt ih hi hI _=>?_)
 obtain ⟨x,hx,h0,hw⟩:=zlq (l:=l) ((l.map zaE).length) hlt
 obtain ⟨hw1,hi1⟩:=hr x (List.mem_of_getElem? hx);have g1:decide ((((zad x).length:Nat):Int) < 1)=false:=Zp;have g2:decide ((6:Int) < (((zad x).length:Nat):Int))=false:=Zp
 obtain ⟨qZ,xZ,gZ⟩:=ih Zo zrZ Zo;exact ⟨qZ,xZ,fun R hg=>zaa (wkl [sb h0,se (zae zaE hx rfl),sg g1,sg g2,sc hi1,sb Zf,si hw] [1,27,28,29] 1 kr (gZ R hg))⟩
theorem zjg (nm:Str) (l:List (List X)) (hl:zac l) (hr:∀ r∈l,(1<=r.length/\r.length<=6)/\zab E0 S.AY [xsl r] [] (bv true) []) (g0:(((((zah []).length:Nat):Int)==1)==decide ((0:Int) < (((l.map (fun r=>[AV.sl (zad r)])).length:Nat):Int)))=false) (g8:decide ((8:Int) < (((l.map (fun r=>[AV.sl (zad r)])).length:Nat):Int))=false):∃ (r:Bool),r=true/\zab E0 S.AJ [(Ac.mk 1 nm l [] [] [] ⟨#[]⟩).av] [] (bv r) []:=by
 obtain ⟨q1,q1_1,g1⟩:=zfO nm l zcW zcW 0 zcW zcW
 exact ⟨true,Zr,wkc At.AJ [sg Zf,sg g0,sb g8] [1,27,28,29] 1 kr (g1 _ (zaa (wkr [sb q1_1,sb Zt] kr)))⟩
noncomputable def L_viQ (nm:Str) (q:Qy) (i:Nat):Cfg:=zag B.AJ 0 [(1,.p 0 0),(27,.sl []),(28,iv 0),(29,iv (i:Nat))] [.box (Ac.mk 1 nm [] [q] [] [] ⟨#[]⟩).cells]
theorem zfN (nm:Str) (q:Qy) (i:Nat):True/\∀ R,Good E0 B.AJ [] (L_viQ nm q i) R->Good E0 B.AJ [] (L_viQ nm q i) R:=⟨trivial,fun _ h=>h⟩
theorem zjf (nm:Str) (st:Bool) (it:List X) (f:Str) (wh:List X) (hq:zab E0 S.CU [(Qy.mk st it f wh).av] [] (bv true) []):∃ (r:Bool),r=true/\zab E0 S.AJ [(Ac.mk 1 nm [] [Qy.mk st it f wh] [] [] ⟨#[]⟩).av] [] (bv r) []:=by
 obtain ⟨q1,g1⟩:=zfN nm (Qy.mk st it f wh) (0)
 exact ⟨true,Zr,wkc At.AJ [sg Zf,sg Zf,sb Zf] [1,27,28,29] 1 kr (g1 _ (zaa (wkr [sb Zf,sg Zf,se (zaB (l:=[Qy.mk st it f wh]) (i:=0) (x:=Qy.mk st it f wh) rfl),sc hq] kr)))⟩
noncomputable def L_vsJ (l:List Se) (io:Nat) (y:Se) (i:Nat) :Cfg:=zag B.A5 1 [(0,.sl (l.map Se.cells)),(4,.p 0 0),(7,.sl (l.map Se.cells)),(8,iv ((l.map Se.cells).length:Nat)),(9,iv (io:Nat)),(26,.sl ((l.map Se.cells).take io)),(27,iv (((l.map Se.cells).take io).length:Nat)),(28,iv (i:Nat))] [.box y.cells]
theorem zgG (l:List Se) (io:Nat) (y:Se) (hl:l.length<=2) (hdx:∀ (j:Nat) (x:Se),(l.take io)[j]?=some x->(x.col.toList==y.col.toList)=false) (i:Nat)  (hi:i<=((l.take io)).length) (hI:True):(True)/\(decide (((((l.take io)).length:Nat):Int) < ((((l.map Se.cells).take io).length:Nat):Int))=false)/\∀ R,Good E0 B.A5 [] (L_vsJ l io y ((l.take io)).length ) R->Good E0 B.A5 [] (L_vsJ l io y i ) R:=by
 obtain ⟨kk,hk⟩:∃ kk,i+kk=((l.take io)).length:=⟨((l.take io)).length - i,by omega⟩
 induction kk generalizing i  hI with
 | zero =>
  have e0:i=((l.take io)).length:=by omega
  subst e0
  exact ⟨hI,by simp,fun R hg=>hg⟩
 | succ kk ih =>
  obtain ⟨x,hx⟩:=za4 (l:=(l.take io)) (i:=i) Zo
  have h0:decide (((i:Nat):Int) < ((((l.map Se.cells).take io).length:Nat):Int))=true:=by simp at *;omega
  have hw:IntKind.i64.wrap (((i:Nat):Int)+1)=((i+1:Nat):Int):=zaL i (by simp at hk;omega)
  have hxe:=zyQ Se.cells hx rfl;have hne:=hdx i x hx
  obtain ⟨qZ,xZ,gZ⟩:=ih (i+1) Zo zrZ Zo;exact ⟨qZ,xZ,fun R hg=>zaa (wkl [sb h0,se hxe,sb hne,si hw] [0,4,7,8,9,26,27,28] 1 kr (gZ R hg))⟩
noncomputable def L_vsT (l:List Se) (i:Nat) :Cfg:=zag B.A5 0 [(0,.sl (l.map Se.cells)),(7,.sl (l.map Se.cells)),(8,iv ((l.map Se.cells).length:Nat)),(9,iv (i:Nat))] []
theorem zgH (l:List Se) (hl:l.length<=2) (hv:∀ s∈l,zab E0 S.Au [sv s.col] [] (bv true) []/\VxT s.ex) (hd:∀ (i j:Nat) (x y:Se),l[i]?=some x->l[j]?=some y->j < i->(y.col.toList==x.col.toList)=false) (i:Nat)  (hi:i<=(l).length) (hI:True):(True)/\(decide ((((l).length:Nat):Int) < (((l.map Se.cells).length:Nat):Int))=false)/\∀ R,Good E0 B.A5 [] (L_vsT l (l).length ) R->Good E0 B.A5 [] (L_vsT l i ) R:=by
 have hk:=hi;revert i hI;refine zlp ((l).length) (fun i hlt ih hi hI _=>?_)
 obtain ⟨x,hx,h0,hw⟩:=zlq (l:=l) ((l.map Se.cells).length) hlt
 have hi1:=(hv x (List.mem_of_getElem? hx)).2;have hi2:=(hv x (List.mem_of_getElem? hx)).1;have hdx:∀ (j:Nat) (y:Se),(l.take i)[j]?=some y->(y.col.toList==x.col.toList)=false:=(fun j y hj=>by have h1:=zbu hj;rw [List.length_take] at h1;rw [List.getElem?_take_of_lt Zo] at hj;exact hd i j x y hx hj Zo)
 obtain ⟨q1,q1_1,g1⟩:=zgG l i x zcW zcW 0 zcW zcW
 obtain ⟨qZ,xZ,gZ⟩:=ih Zo zrZ Zo;exact ⟨qZ,xZ,fun R hg=>zaa (wkl [sb h0,se (zae Se.cells hx rfl),sc hi2,sg Zf,sc hi1,sb Zf,sqx (SubAt (List.map Se.cells l) 0 (i:Int) 11)] [0,4,7,8,9,26,27,28] 1 kr (g1 _ (zaa (wkl [sb q1_1,si hw] [0,7,8,9] 0 kr (gZ R hg)))))⟩
theorem c_vs11 (l:List Se) (hl:l.length<=2) (hv:∀ s∈l,zab E0 S.Au [sv s.col] [] (bv true) []/\VxT s.ex) (hd:∀ (i j:Nat) (x y:Se),l[i]?=some x->l[j]?=some y->j < i->(y.col.toList==x.col.toList)=false):∃ (r:Bool),r=true/\zab E0 S.A5 [.sl (l.map Se.cells)] [] (bv r) []:=by
 obtain ⟨q1,q1_1,g1⟩:=zgH l zcW zcW zcW 0 zcW zcW
 exact ⟨true,Zr,wkc At.A5 [] [0,7,8,9] 0 kr (g1 _ (zaa (wkr [sb q1_1] kr)))⟩
theorem zec (nm:Str) (rows:List (List X)) (q:List Qy) (hn0:(!((1:Int)==5)==(nm.toList==Zs0.toList))=false) (hn1:(!nm.toList==Zs0.toList)=true) (hvn:zab E0 S.Au [sv nm] [] (bv true) []) (h00:zab E0 S.AY [.sl []] [] (bv true) []) (hvi:zab E0 S.AJ [(Ac.mk 1 nm rows q [] [] ⟨#[]⟩).av] [] (bv true) []):∃ (r:Bool),r=true/\zab E0 S.Bc [(Ac.mk 1 nm rows q [] [] ⟨#[]⟩).av] [] (bv r) []:=by
 exact ⟨true,Zr,wk At.Bc [sg Zf,sg hn0,sg hn1,sc hvn,sg Zf,sg Zt,sb Zf,sb Zf,sg Zt,sg Zt,sg Zf,sg Zt,sg Zt,sb Zf,sg Zf,sc h00,sb Zf,sb Zt,sc hvi] kr⟩
theorem ziq (nm:Str) (sets:List Se) (wh:List X) (hn0:(!((2:Int)==5)==(nm.toList==Zs0.toList))=false) (hn1:(!nm.toList==Zs0.toList)=true) (hvn:zab E0 S.Au [sv nm] [] (bv true) []) (hwh:zab E0 S.AY [xsl wh] [] (bv true) []) (g1:decide ((1:Int) < (((zad wh).length:Nat):Int))=false) (s1:decide ((1:Int)<=(((sets.map Se.cells).length:Nat):Int))=true) (s8:decide ((((sets.map Se.cells).length:Nat):Int)<=8)=true) (hvs:zab E0 S.A5 [.sl (sets.map Se.cells)] [] (bv true) []):∃ (r:Bool),r=true/\zab E0 S.Bc [(Ac.mk 2 nm [] [] sets wh ⟨#[]⟩).av] [] (bv r) []:=by
 exact ⟨true,Zr,wk At.Bc [sg Zf,sg hn0,sg hn1,sc hvn,sg Zf,sg Zt,sb Zf,sg Zt,si (e:=IntKind.i64.wrap ((([]:List (List AV)).length:Int)+(↑(zah []).length:Int))) rfl,sg Zf,sb Zf,sb Zf,sg g1,sc hwh,sb Zf,sb Zf,sb Zt,sg s1,sg s8,sc hvs] kr⟩
theorem zir (nm:Str) (wh:List X) (hn0:(!((3:Int)==5)==(nm.toList==Zs0.toList))=false) (hn1:(!nm.toList==Zs0.toList)=true) (hvn:zab E0 S.Au [sv nm] [] (bv true) []) (hwh:zab E0 S.AY [xsl wh] [] (bv true) []) (g1:decide ((1:Int) < (((zad wh).length:Nat):Int))=false):∃ (r:Bool),r=true/\zab E0 S.Bc [(Ac.mk 3 nm [] [] [] wh ⟨#[]⟩).av] [] (bv r) []:=by
 exact ⟨true,Zr,wk At.Bc [sg Zf,sg hn0,sg hn1,sc hvn,sg Zf,sg Zt,sb Zf,sg Zt,si (e:=IntKind.i64.wrap ((([]:List (List AV)).length:Int)+(↑(zah []).length:Int))) rfl,sg Zf,sg Zt,sg Zt,sg Zf,sg Zt,sb Zf,sg g1,sc hwh,sb Zf,sb Zf,sb Zf,sb Zt] kr⟩
theorem zBh (a:Ac) (g1:decide ((1:Int)<=a.kind)=true) (g3:decide (a.kind<=(3:Int))=true) (hv:zab E0 S.Bc [a.av] [] (bv true) []):∃ (b:Bool),b=true/\zab E0 S.CL [a.av] [] (bv b) []:=by
 exact ⟨true,Zr,wk At.CL [sg g1,sg g3,sc hv] kr⟩
theorem shP {e:X} (h:zcI e=true):zab E0 S.Ad [e.av] [] (bv true) []:=by
 have:=zcQ e;rw [h] at this;exact this
theorem srcP {s:Str} (h:zbQ s=true):zab E0 S.BL [sv s] [] (bv true) []:=by
 have:=zgW s;rw [h] at this;exact this
theorem vnP {s:Str} (h:zaD s=true):zab E0 S.Au [sv s] [] (bv true) []:=by
 have:=zcj s;rw [h] at this;exact this
theorem plP (k o:Int) (nt:Bool) (l:List X) (q:List Qy):zab E0 S.CN [(X.mk k o nt ⟨0,0,⟨#[]⟩⟩ ⟨#[]⟩ ⟨#[]⟩ l q).av] [] (bv true) []:=by
 obtain ⟨_,rfl,h⟩:=zBg k o nt l q;exact h
theorem vxA {k o:Int} {nt:Bool} {l:List X} (hk:OpK k) (hs:zcI (xA k o nt l)=true) (ho:k≠5->o=0) (hn:k≠6->nt=false) (hl:zac l) (hv:∀ x∈l,VxT x):VxT (xA k o nt l):=by
 obtain ⟨_,rfl,h⟩:=zkX k o nt l (shP hs) (plP _ _ _ _ _) (zbC l hl hv) (by rcases hk with rfl|rfl|rfl|rfl|rfl <;> rfl) (by rcases hk with rfl|rfl|rfl|rfl|rfl <;> rfl)
  (fun e=>by have:=ho (by simpa using e);subst this;rfl) (fun e=>hn (by simpa using e))
 exact h
theorem mem2 {P:X->Prop} {a b:X} (ha:P a) (hb:P b):∀ x∈[a,b],P x:=fun x hx=>by
 simp only [List.mem_cons,List.not_mem_nil,or_false] at hx
 rcases hx with rfl|rfl <;> assumption
theorem mem3 {P:X->Prop} {a b c:X} (ha:P a) (hb:P b) (hc:P c):∀ x∈[a,b,c],P x:=fun x hx=>by
 simp only [List.mem_cons,List.not_mem_nil,or_false] at hx
 rcases hx with rfl|rfl|rfl <;> assumption
section
variable {G : Str -> List Col} {tbs : List Sch} {tb : List Tb} {n M : Nat} {frs : List Fr} {w : Int} {e : X} {s : Sch} {a : Ac} {q : Qy}
theorem XT.vt (hG:EnvT G) (ht:TbE G tbs tb) (h:XT tbs n frs w e):FsT' G frs->VxT e:=by
 induction h with
 | @lit n frs w v hg _ hi =>
  intro _
  obtain ⟨_,rfl,h⟩:=zje v (shP kr) (zfc v hg.valid) (fun h=>by have:=hi (by simpa using h);simpa using this)
  exact h
 | @col n frs w x h =>
  intro hf
  obtain ⟨a,b,rfl,_,_,h1,h2⟩:=h.res hG hf
  obtain ⟨_,rfl,h⟩:=zjd a b (shP kr) h1 (vnP h2) (zgW a)
  exact h
 | @un n frs k w a hk _ ih =>
  intro hf
  exact vxA (by rcases hk with ⟨h,_⟩|⟨h,_⟩ <;> simp [OpK,h]) (zm4 (.inl ⟨by rcases hk with ⟨h,_⟩|⟨h,_⟩ <;> simp [h],rfl⟩)) (fun _=>rfl) (fun _=>rfl) (by simp [zac]) (fun x hx=>by simp only [List.mem_singleton] at hx;subst hx;exact ih hf)
 | @isn n frs w nt a _ ih =>
  intro hf
  exact vxA (by simp [OpK]) (zm4 (.inl ⟨.inr (.inr rfl),rfl⟩)) (fun _=>rfl) (fun h=>absurd rfl h) (by simp [zac]) (fun x hx=>by simp only [List.mem_singleton] at hx;subst hx;exact ih hf)
 | @bin n frs op w' w a b hb _ _ i1 i2 =>
  intro hf
  exact vxA (by simp [OpK]) (zm4 (.inr (.inl ⟨rfl,rfl,by rcases hb with h|h|h <;> omega,by rcases hb with h|h|h <;> omega⟩))) (fun h=>absurd rfl h) (fun _=>rfl) (by simp [zac]) (mem2 (i1 hf) (i2 hf))
 | @btw n frs a b c _ _ _ i1 i2 i3 =>
  intro hf
  exact vxA (by simp [OpK]) (zm4 (.inr (.inr ⟨rfl,rfl⟩))) (fun _=>rfl) (fun _=>rfl) (by simp [zac]) (mem3 (i1 hf) (i2 hf) (i3 hf))
 | @qry n frs k w st it wh s hs hq hw _ _ i1 i2 =>
  intro hf
  have hfi:=hf.ins ht hs
  have hk:k=8\/k=9\/k=10\/k=11\/k=12:=by rcases hq with h|h|h <;> omega
  have hil:it.length<=1:=by rcases hq with ⟨_,_,_,h⟩|⟨_,_,_,h⟩|⟨_,_,_,_,h⟩ <;> omega
  have hst:(!st==(k==8))=false:=by
   rcases hq with ⟨rfl,_,rfl,_⟩|⟨rfl,_,rfl,_⟩|⟨h1,h2,_,rfl,_⟩
   ·rfl
   ·rfl
   ·have h3:k=10\/k=11\/k=12:=by omega
    rcases h3 with rfl|rfl|rfl <;> rfl
  obtain ⟨_,rfl,h⟩:=zkY k st it s.name wh (shP (zB5 hq hw)) (plP _ _ _ _ _) (zbC [] (by simp [zac]) (fun x hx=>by cases hx)) (zbC it (by simp only [zac];omega) fun x hx=>i1 x hx hfi) (zbC wh (by simp only [zac];omega) fun x hx=>i2 x hx hfi) (srcP (ht.src s hs))
   (by rcases hk with rfl|rfl|rfl|rfl|rfl <;> rfl) (by rcases hk with rfl|rfl|rfl|rfl|rfl <;> rfl) (by rcases hk with rfl|rfl|rfl|rfl|rfl <;> rfl) (by rcases hk with rfl|rfl|rfl|rfl|rfl <;> rfl) hst
  exact h
theorem colsV (hG:EnvT G) (ht:TbE G tbs tb) {fr:List Fr} (hf:FsT' G fr) {cols:List Col} {its:List X} (h:zc1 tbs M fr cols cols.length its):∀ x∈its,VxT x:=fun x hx=>by
 obtain ⟨c,_,h6⟩:=zgu h hx
 exact h6.vt hG ht hf
theorem zse {nm:Str} (h:zaD nm=true):(nm.toList==Zs0.toList)=false:=by
 cases hb:nm.toList==Zs0.toList
 ·rfl
 ·exact absurd (zj2 (by simpa using hb)) (zAP h)
theorem zyi:zab E0 S.AY [.sl []] [] (bv true) []:=zbC [] (by simp [zac]) (fun x hx=>by cases hx)
theorem ActT.va (hG:EnvT G) (ht:TbE G tbs tb) (hS:TbE G zaj tb) (hf:FsT' G frs) (h:ActT tbs M frs a):zab E0 S.Bc [a.av] [] (bv true) []:=by
 cases h with
 | @rows s rows hs h1 h2 hr =>
  have e1:=zdn hs
  have e0:=zse e1
  have h3:=zeZ hs
  have h5:decide ((0:Int) < (((rows.map fun r=>[AV.sl (zad r)]).length:Nat):Int))=true:=by simp;omega
  obtain ⟨_,rfl,hi⟩:=zjg s.name rows (by simp only [zac];omega) (fun r hr2=>⟨by have h2:=(hr r hr2).1;omega,zbC r (by have h2:=(hr r hr2).1;simp only [zac];omega) (colsV hG ht hf (hr r hr2))⟩) (by rw [h5];rfl) Zp
  obtain ⟨_,rfl,h⟩:=zec s.name rows [] (by rw [e0];rfl) (by rw [e0];rfl) (vnP e1) zyi hi
  exact h
 | @copy s q hs hq =>
  have e1:=zdn hs
  have e0:=zse e1
  have h3:=zeZ hs
  cases hq with
  | @mk f its wh hfm hc hw hx =>
   have h2:=hc.1
   have hfi:=hf.ins ht hfm
   have h6:((((zad its).length:Nat):Int)==0)=false:=by rw [beq_eq_false_iff_ne];simp only [zbK];omega
   obtain ⟨_,rfl,h4⟩:=c_vq11 false its f.name wh (zbC its (by simp only [zac];omega) (colsV hG ht hfi hc)) (zbC wh (by simp only [zac];omega) fun x h=>(hx x h).vt hG ht hfi) (srcP (ht.src f hfm)) Zp Zp (by rw [h6];rfl)
   obtain ⟨_,rfl,hi⟩:=zjf s.name false its f.name wh h4
   obtain ⟨_,rfl,h⟩:=zec s.name [] [Qy.mk false its f.name wh] (by rw [e0];rfl) (by rw [e0];rfl) (vnP e1) zyi hi
   exact h
 | @upd s first i sets wh hs h1 hI hw hx =>
  have e1:=zdn hs
  have e0:=zse e1
  have h3:=zeZ hs
  have hfi:=hf.ins hS hs
  have hl:=hI.len
  have h2:=hI.two
  have hA:∀ x∈sets,zab E0 S.Au [sv x.col] [] (bv true) []/\VxT x.ex:=fun x hx=>by
   obtain ⟨j,hj⟩:=List.getElem?_of_mem hx
   obtain ⟨c,c1,c2,c3⟩:=hI.at_ j x hj
   have h8:=((zd9 hs).cols _ c c1).name
   exact ⟨vnP (by rw [c2];simpa using h8),c3.vt hG ht hfi⟩
  have hB:∀ (i2 j2:Nat) (x y:Se),sets[i2]?=some x->sets[j2]?=some y->j2 < i2->(y.col.toList==x.col.toList)=false:=fun i2 j2 x y hx hy hlt=>by
   have h8:=zbu hx
   have hi2:i2=1:=by omega
   have hj2:j2=0:=by omega
   subst hi2
   subst hj2
   obtain ⟨c,c1,c2,_⟩:=hI.at_ 0 y hy
   obtain ⟨d,d1,d2,_⟩:=hI.at_ 1 x hx
   cases hb:y.col.toList==x.col.toList
   ·rfl
   ·exfalso
    have e:=zj2 (by simpa using hb:y.col.toList=x.col.toList)
    rw [c2,d2] at e
    have h6:(first+0) % s.cols.length=(first+1) % s.cols.length:=zyH hs c1 d1 e
    have h7:s.cols.length=2\/s.cols.length=3\/s.cols.length=4:=by omega
    rcases h7 with h7|h7|h7 <;> rw [h7] at h6 <;> omega
  obtain ⟨_,rfl,hv⟩:=c_vs11 sets Zo hA hB
  obtain ⟨_,rfl,h⟩:=ziq s.name sets wh (by rw [e0];rfl) (by rw [e0];rfl) (vnP e1) (zbC wh (by simp only [zac];omega) fun x h=>(hx x h).vt hG ht hfi) Zp Zp Zp hv
  exact h
 | @del s wh hs hw hx =>
  have e1:=zdn hs
  have e0:=zse e1
  have hfi:=hf.ins hS hs
  obtain ⟨_,rfl,h⟩:=zir s.name wh (by rw [e0];rfl) (by rw [e0];rfl) (vnP e1) (zbC wh (by simp only [zac];omega) fun x h=>(hx x h).vt hG ht hfi) Zp
  exact h
theorem ActT.snd (hG:EnvT G) (ht:TbE G tbs tb) (hS:TbE G zaj tb) (hf:FsT' G frs) (h:ActT tbs M frs a):zab E0 S.CL [a.av] [] (bv true) []:=by
 have hk:=h.ok.2
 obtain ⟨_,rfl,h2⟩:=zBh a Zp Zp (h.va hG ht hS hf)
 exact h2
end
theorem zkP {p:Prop} (h:p:=by (clear hv;first|(simp only [fit4,cond_true,cond_false, *];done)|(exfalso;simp_all;done))):p:=h
theorem zxW {p:Prop} (h:p:=by first|(unfold fit5;rw [show (l.length != s.cols.length)=false by simp at *;omega];first|assumption|exact zsW ‹_› rfl)|(unfold fit5;rw [show (l.length != s.cols.length)=true by simp at *;omega];rfl)):p:=h
theorem zpu {p:Prop} (h:p:=by first|assumption|rfl|omega|(simp only [List.length_map] at *;simp at *;omega)):p:=h
theorem zri (c:Col) (v:V) (hv:zab E0 S.BG [v.av] [] (bv true) []):∃ (e:Int),e=fit4 c v/\zab E0 S.BX [.agg c.cells,v.av] [] (iv e) []:=by
 cases h1:v.kind==0
 ·cases h2:v.kind != 0
  ·exact ⟨0,zkP,wk At.BX [sc hv,sb Zf,sb h1,sb h2] kr⟩
  ·cases h3:v.kind != c.type
   ·exact ⟨0,zkP,wk At.BX [sc hv,sb Zf,sb h1,sg h2,sb h3] kr⟩
   ·exact ⟨5,zkP,wk At.BX [sc hv,sb Zf,sb h1,sg h2,sb h3] kr⟩
 ·cases h4:c.notNull
  ·cases h5:v.kind != 0
   ·exact ⟨0,zkP,wk At.BX [sc hv,sb Zf,sg h1,sb h4,sb h5] kr⟩
   ·cases h6:v.kind != c.type
    ·exact ⟨0,zkP,wk At.BX [sc hv,sb Zf,sg h1,sb h4,sg h5,sb h6] kr⟩
    ·exact ⟨5,zkP,wk At.BX [sc hv,sb Zf,sg h1,sb h4,sg h5,sb h6] kr⟩
  ·exact ⟨8,zkP,wk At.BX [sc hv,sb Zf,sg h1,sb h4] kr⟩
theorem zrs (c:Col) (v:V) (hg:v.Good):zab E0 S.BX [.agg c.cells,v.av] [] (iv (fit4 c v)) []:=by
 have h1:=zdt v hg.small
 rw [hg.valid] at h1
 obtain ⟨e,rfl,h⟩:=zri c v h1
 exact h
noncomputable def zwq (s:Sch) (l:List V) (i:Nat) :Cfg:=zag B.BI 0 [(1,vsl l),(15,.sl (s.cols.map Col.cells)),(16,iv ((s.cols.map Col.cells).length:Nat)),(17,iv (i:Nat))] [.box s.cells]
theorem zjw (s:Sch) (l:List V) (hs:zac s.cols) (hll:l.length=s.cols.length) (hg:∀ v∈l,v.Good) (i:Nat)  (hi:i<=(s.cols).length) (hI:fitL s.cols l=fitL (s.cols.drop i) (l.drop i)):((fitL s.cols l=fitL (s.cols.drop (s.cols).length) (l.drop (s.cols).length))/\(decide ((((s.cols).length:Nat):Int) < (((s.cols.map Col.cells).length:Nat):Int))=false)/\∀ R,Good E0 B.BI [] (zwq s l (s.cols).length ) R->Good E0 B.BI [] (zwq s l i ) R)\/(∃ (r:Int),r=fitL s.cols l/\Good E0 B.BI [] (zwq s l i ) (Shut 0 fun rZ hZ=>rZ=(iv r)/\hZ=[])):=by
 have hk:=hi;revert i;refine zlp ((s.cols).length) (fun i hlt ih hi hI _=>?_)
 obtain ⟨x,hx,h0,hw⟩:=zlq (l:=s.cols) ((s.cols.map Col.cells).length) hlt
 obtain ⟨y,hy⟩:=za4 (l:=l) (i:=i) (by have:=zbu hx;omega);have hyv:=hg y (List.mem_of_getElem? hy)
 let p_1:List St:=[sb h0,se (zae Col.cells hx rfl),sd [(3,[se (zae V.cells hy rfl)]),(5,[sc (zrs x y (by first|assumption|omega|(simp;done)|(simp;omega)))])]]
 cases h1:fit4 x y != 0
 ·exact zie2 (ih Zo (by exact zqw hI hx hy ‹_›) Zo) fun R gY=>zaa (wkl (p_1++[sb h1,si hw]) [1,15,16,17] 1 kr gY)
 ·exact .inr ⟨fit4 x y,(by exact zsV hI hx hy ‹_›),zaa (wkr (p_1++[sb h1]) kr)⟩
theorem zsG (s:Sch) (l:List V) (hs:zac s.cols) (hg:∀ v∈l,v.Good):∃ (r:Int),r=fit5 s l/\zab E0 S.BI [s.av,vsl l] [] (iv r) []:=by
 cases h1:(↑(List.map V.cells l).length:Int) != (↑(List.map Col.cells s.cols).length:Int)
 ·rcases zjw s l zpu zpu zpu 0 zpu zpu with ⟨q2,q2_1,g2⟩|⟨r2_0,p2_0,g2⟩
  ·exact ⟨0,zxW,wkc At.BI [sb h1] [1,15,16,17] 1 kr (g2 _ (zaa (wkr [sb q2_1] kr)))⟩
  ·exact ⟨r2_0,zxW,wkc At.BI [sb h1] [1,15,16,17] 1 kr (g2)⟩
 ·exact ⟨17,zxW,wk At.BI [sb h1] kr⟩
theorem zh0 (s:Sch) (l:List V) (hs:zac s.cols) (hg:∀ v∈l,v.Good):zab E0 S.BI [s.av,vsl l] [] (iv (fit5 s l)) []:=by
 obtain ⟨r,rfl,h⟩:=zsG s l hs hg
 exact h
theorem zBd (c:Col) :∃ (b:Bool),b=c.key/\zab E0 S.Bv [.agg c.cells] [] (bv b) []:=by
 exact ⟨c.key,Zr,wk At.Bv [] kr⟩
theorem zjP (c:Col):zab E0 S.Bv [.agg c.cells] [] (bv c.key) []:=by
 obtain ⟨b,rfl,h⟩:=zBd c
 exact h
noncomputable def zwe (l:List Col) (i:Nat) :Cfg:=zag B.Aq 0 [(0,.sl (l.map Col.cells)),(1,.fn S.Bv []),(7,iv ((l.map Col.cells).length:Nat)),(8,iv (i:Nat))] []
theorem zea (l:List Col) (hl:zac l) (i:Nat)  (hi:i<=(l).length) (hI:idxF (fun c=>c.key) l 0=idxF (fun c=>c.key) (l.drop i) i):((idxF (fun c=>c.key) l 0=idxF (fun c=>c.key) (l.drop (l).length) (l).length)/\(decide ((((l).length:Nat):Int) < (((l.map Col.cells).length:Nat):Int))=false)/\∀ R,Good E0 B.Aq [] (zwe l (l).length ) R->Good E0 B.Aq [] (zwe l i ) R)\/(∃ (r:Int),r=idxF (fun c=>c.key) l 0/\Good E0 B.Aq [] (zwe l i ) (Shut 0 fun rZ hZ=>rZ=(iv r)/\hZ=[])):=by
 have hk:=hi;revert i;refine zlp ((l).length) (fun i hlt ih hi hI _=>?_)
 obtain ⟨x,hx,h0,hw⟩:=zlq (l:=l) ((l.map Col.cells).length) hlt
 let p_1:List St:=[sb h0,se (zae Col.cells hx rfl),sc (zjP x)]
 cases h1:x.key
 ·exact zie2 (ih Zo (by exact zhz hI hx ‹_›) Zo) fun R gY=>zaa (wkl (p_1++[sb h1,si hw]) [0,1,7,8] 0 kr gY)
 ·exact .inr ⟨(i:Int),(by exact zjK hI hx ‹_›),zaa (wkr (p_1++[sb h1]) kr)⟩
theorem c_ixK (l:List Col) (hl:zac l):∃ (r:Int),r=idxF (fun c=>c.key) l 0/\zab E0 S.Aq [.sl (l.map Col.cells),.fn S.Bv []] [] (iv r) []:=by
 rcases zea l Za 0 Za Za with ⟨q1,q1_1,g1⟩|⟨r1_0,p1_0,g1⟩
 ·exact ⟨-1,(by first|assumption|exact zds ‹_›),wkc At.Aq [] [0,1,7,8] 0 kr (g1 _ (zaa (wkr [sb q1_1] kr)))⟩
 ·exact ⟨r1_0,(by first|assumption|exact zds ‹_›),wkc At.Aq [] [0,1,7,8] 0 kr (g1)⟩
theorem zlx (s:Sch) (hs:zac s.cols) (hx:∃ r:Int,r=idxF (fun c=>c.key) s.cols 0/\zab E0 S.Aq [.sl (s.cols.map Col.cells),.fn S.Bv []] [] (iv r) []):∃ (r:Int),r=idxF (fun c=>c.key) s.cols 0/\zab E0 S.CT [s.av] [] (iv r) []:=by
 obtain ⟨r1,q1,c1⟩:=hx
 exact ⟨r1,‹_›,wk At.CT [sc c1] kr⟩
theorem zlU (s:Sch) (hs:zac s.cols):zab E0 S.CT [s.av] [] (iv (idxF (fun c=>c.key) s.cols 0)) []:=by
 obtain ⟨r,rfl,h⟩:=zlx s hs (c_ixK s.cols hs)
 exact h
theorem at_lt0 {s:Sch} {x:Col} {i:Nat} (h:(idxF (fun c=>colC c x.name) s.cols 0 != ((i:Nat):Int))=false):decide (idxF (fun c=>colC c x.name) s.cols 0 < ((i:Nat):Int))=false:=by
 simp only [bne_eq_false_iff_eq] at h;rw [h];simp
noncomputable def L_psv (s:Sch) (i:Nat) (keys:Nat):Cfg:=zag B.B0 0 [(1,.p 0 0),(3,iv (keys:Nat)),(23,.sl (s.cols.map Col.cells)),(24,iv ((s.cols.map Col.cells).length:Nat)),(25,iv (i:Nat))] [.box s.cells]
theorem zig (s:Sch) (hs:zac s.cols) (hv:SchV s) (i:Nat) (keys:Nat) (hi:i<=(s.cols).length) (hI:keys=(s.cols.take i).countP (fun c=>c.key)):∃ (keys':Nat),(keys'=(s.cols.take (s.cols).length).countP (fun c=>c.key))/\(decide ((((s.cols).length:Nat):Int) < (((s.cols.map Col.cells).length:Nat):Int))=false)/\∀ R,Good E0 B.B0 [] (L_psv s (s.cols).length keys') R->Good E0 B.B0 [] (L_psv s i keys) R:=by
 have hk:=hi;revert i keys;refine zlp ((s.cols).length) (fun i hlt ih keys hi hI _=>?_)
 obtain ⟨x,hx,h0,hw⟩:=zlq (l:=s.cols) ((s.cols.map Col.cells).length) hlt
 obtain ⟨a1,a2,a3,a4,a5'⟩:=hv.cols i x hx;have a5:=at_lt0 a5';have hkl:keys<=1000:=(by have h1:=List.countP_le_length (p:=fun c:Col=>c.key) (l:=s.cols.take i);have h2:=hv.hi;simp only [List.length_map,decide_eq_false_iff_not] at h2;rw [← hI,List.length_take] at h1;omega)
 let p_1:List St:=[sb h0,se (zae Col.cells hx rfl),sc (zak x.name),sg a1,sc (zbU s x.name (by first|assumption|omega|(simp;done)|(simp;omega))),sg a5,sg a2,sg a3]
 cases h1:x.key
 ·exact Zih (ih keys Zo (by first|exact ziA hI hx ‹_›|exact ziz hI hx ‹_›) Zo) fun R gY=>zaa (wkl (p_1++[sb h1,sb h1,si hw]) [1,3,23,24,25] 1 kr gY)
 ·cases h2:!x.notNull
  ·exact Zih (ih (keys+1) Zo (by first|exact ziA hI hx ‹_›|exact ziz hI hx ‹_›) Zo) fun R gY=>zaa (wkl (p_1++[sg h1,sb h2,sb h1,si (zbB (t:=(keys:Int)+1) (n:=keys+1) Zo Zo),si hw]) [1,3,23,24,25] 1 kr gY)
  ·exact False.elim (by simp_all)
theorem zov (s:Sch) (hs:zac s.cols) (hv:SchV s) (n1:(!zaD s.name)=false) (n2:decide (((s.cols.map Col.cells).length:Int) < 1)=false) (n3:decide ((6:Int) < ((s.cols.map Col.cells).length:Int))=false):∃ (r:Bool),r=true/\zab E0 S.B0 [s.av] [] (bv r) []:=by
 obtain ⟨keys1,q1,q1_1,g1⟩:=zig s Za Za 0 0 Za Za
 exact ⟨decide ((keys1:Int)<=(1:Int)),(by first|rfl|(rw [List.take_length] at *;have hkz:=hv.keys;simp;omega)),wkc At.B0 [sc (zak s.name),sg n1,sg n2,sb n3] [1,3,23,24,25] 1 kr (g1 _ (zaa (wkr [sb q1_1] kr)))⟩
theorem znd (s:Sch) (hv:SchV s):zab E0 S.B0 [s.av] [] (bv true) []:=by
 obtain ⟨r,rfl,h⟩:=zov s hv.short hv hv.name hv.lo hv.hi
 exact h
theorem TabV.hiF {t:Tb} (h:TabV t) {x:Rw} (hx:x∈t.rows):decide (t.next<=x.id)=false:=by
 have h1:=h.rows.ids x hx
 simp;omega
theorem zeF {p:Prop} (h:p:=by first|assumption|omega|(simp only [decide_eq_false_iff_not,decide_eq_true_eq,List.length_map] at *;omega)|(simp;done)):p:=h
theorem zxX {p:Prop} (h:p:=by first|(have hq1:=‹_=za0 _ _/\List.Nodup _›;rw [List.take_length] at hq1;exact ⟨fun _=>hq1.1 ▸ hq1.2,fun _=>rfl⟩)|(have hq1:=‹_=true/\¬ List.Nodup _›;rw [hq1.1];exact ⟨fun h=>(by cases h),fun h=>absurd h hq1.2⟩)|exact ⟨fun _=>zBB ‹_› _,fun _=>rfl⟩):p:=h
theorem zpv {p:Prop} (h:p:=by first|assumption|omega|(intro r hr2;have:=(ht.rows.ids r (List.mem_of_mem_drop hr2)).1;omega)|(simp;done)):p:=h
theorem zpw {p:Prop} (h:p:=by first|assumption|omega|exact ⟨rfl,by simp⟩|(simp;done)):p:=h
theorem zr8 {p:Prop} (h:p:=by simp only [decide_eq_true_eq,decide_eq_false_iff_not] at *;omega):p:=h
theorem zy4 {kc:Int} {x:Rw} (h:decide (((x.vals.map V.cells).length:Int)<=kc)=true):zc2 kc x=none :=
 zvA zr8
theorem ztq {kc:Int} {x:Rw} (h0:decide (kc < 0)=false) (h:decide (((x.vals.map V.cells).length:Int)<=kc)=false):zc2 kc x=some (zao x.vals kc) :=
 zqe zr8 zr8
theorem zBB {kc:Int} (h0:decide (kc < 0)=true) (l:List Rw):(za0 kc l).Nodup:=by
 have:za0 kc l=[]:=by
  unfold za0
  rw [List.filterMap_eq_nil_iff]
  intro r _
  exact zvz zr8
 rw [this];simp
noncomputable def zwp (t:Tb) (kc:Int) (i:Nat) (ks:List V):Cfg:=zag B.AW 0 [(3,iv kc),(4,.mp 1),(14,.sl (t.rows.map Rw.cells)),(15,iv ((t.rows.map Rw.cells).length:Nat)),(16,iv (i:Nat))] [.box t.cells,.mp (ks.map itV)]
theorem zgM (t:Tb) (kc:Int) (hs:zac t.rows) (hk0:decide (kc < 0)=false) (i:Nat) (ks:List V) (hi:i<=(t.rows).length) (hI:ks=za0 kc (t.rows.take i)/\ks.Nodup):(∃ (ks':List V),(ks'=za0 kc (t.rows.take (t.rows).length)/\ks'.Nodup)/\(decide ((((t.rows).length:Nat):Int) < (((t.rows.map Rw.cells).length:Nat):Int))=false)/\∀ R,Good E0 B.AW [] (zwp t kc (t.rows).length ks') R->Good E0 B.AW [] (zwp t kc i ks) R)\/(∃ (r:Bool),(r=true/\¬ (za0 kc t.rows).Nodup)/\Good E0 B.AW [] (zwp t kc i ks) (Shut 0 fun rZ hZ=>rZ=(bv r)/\hZ=[])):=by
 have hk:=hi;revert i ks;refine zlp ((t.rows).length) (fun i hlt ih ks hi hI _=>?_)
 obtain ⟨x,hx,h0,hw⟩:=zlq (l:=t.rows) ((t.rows.map Rw.cells).length) hlt
 cases h1:decide ((↑(List.map V.cells x.vals).length:Int)<=kc)
 ·cases h2:anyV ks (zao x.vals kc)
  ·exact (ih (ks++[zao x.vals kc]) Zo (by first|exact zmE hI hx (zy4 ‹_›)|exact zsN hI hx (ztq hk0 ‹_›) ‹_›) Zo).elim (fun ⟨ksZ,qZ,xZ,gZ⟩=>.inl ⟨ksZ,qZ,xZ,fun R hg=>zaa (wkl [sb h0,se (zae Rw.cells hx rfl),sb h1,se (zcB x.vals kc zeF zeF),sx (.el [bv (anyV ks (zao x.vals kc))]) (And.intro (zbN ((zao x.vals kc).kind) ((zao x.vals kc).int) ((zao x.vals kc).text)) (zfW ks (zao x.vals kc))),sb h2,se (zcB x.vals kc zeF zeF),sx (.call [] .un [.mp (List.map itV (ks++[zao x.vals kc]))]) (And.intro (zbN ((zao x.vals kc).kind) ((zao x.vals kc).int) ((zao x.vals kc).text)) (zmF ks (zao x.vals kc) zeF)),si hw] [3,4,14,15,16] 2 kr (gZ R hg))⟩) (fun ⟨rY,pZ,gZ⟩=>.inr ⟨rY,pZ,zaa (wkl [sb h0,se (zae Rw.cells hx rfl),sb h1,se (zcB x.vals kc zeF zeF),sx (.el [bv (anyV ks (zao x.vals kc))]) (And.intro (zbN ((zao x.vals kc).kind) ((zao x.vals kc).int) ((zao x.vals kc).text)) (zfW ks (zao x.vals kc))),sb h2,se (zcB x.vals kc zeF zeF),sx (.call [] .un [.mp (List.map itV (ks++[zao x.vals kc]))]) (And.intro (zbN ((zao x.vals kc).kind) ((zao x.vals kc).int) ((zao x.vals kc).text)) (zmF ks (zao x.vals kc) zeF)),si hw] [3,4,14,15,16] 2 kr gZ)⟩)
  ·exact .inr ⟨true,(by exact ⟨rfl,zyL hI hx (ztq hk0 ‹_›) ‹_›⟩),zaa (wkr [sb h0,se (zae Rw.cells hx rfl),sb h1,se (zcB x.vals kc zeF zeF),sx (.el [bv (anyV ks (zao x.vals kc))]) (And.intro (zbN ((zao x.vals kc).kind) ((zao x.vals kc).int) ((zao x.vals kc).text)) (zfW ks (zao x.vals kc))),sb h2] kr)⟩
 ·exact (ih ks Zo (by first|exact zmE hI hx (zy4 ‹_›)|exact zsN hI hx (ztq hk0 ‹_›) ‹_›) Zo).elim (fun ⟨ksZ,qZ,xZ,gZ⟩=>.inl ⟨ksZ,qZ,xZ,fun R hg=>zaa (wkl [sb h0,se (zae Rw.cells hx rfl),sb h1,si hw] [3,4,14,15,16] 2 kr (gZ R hg))⟩) (fun ⟨rY,pZ,gZ⟩=>.inr ⟨rY,pZ,zaa (wkl [sb h0,se (zae Rw.cells hx rfl),sb h1,si hw] [3,4,14,15,16] 2 kr gZ)⟩)
theorem zg0 (t:Tb) (hs:zac t.sch.cols) (hr:zac t.rows):∃ (b:Bool),(b=false↔(za0 (idxF (fun c=>c.key) t.sch.cols 0) t.rows).Nodup)/\zab E0 S.AW [t.av] [] (bv b) []:=by
 let p_1:List St:=[sc (zlU t.sch zpw)]
 cases h1:decide (idxF (fun c=>c.key) t.sch.cols 0 < 0)
 ·rcases zgM t (idxF (fun c=>c.key) t.sch.cols 0) zpw zpw 0 ([]) zpw zpw with ⟨ks2,q2,q2_1,g2⟩|⟨r2_0,p2_0,g2⟩
  ·exact ⟨false,zxX,wkc At.AW (p_1++[sb h1]) [3,4,14,15,16] 2 kr (g2 _ (zaa (wkr [sb q2_1] kr)))⟩
  ·exact ⟨r2_0,zxX,wkc At.AW (p_1++[sb h1]) [3,4,14,15,16] 2 kr (g2)⟩
 ·exact ⟨false,zxX,wk At.AW (p_1++[sb h1]) kr⟩
theorem TabV.pfit {t:Tb} (h:TabV t) {x:Rw} (hx:x∈t.rows):zab E0 S.BI [t.sch.av,vsl x.vals] [] (iv 0) []:=by
 have h2:=zh0 t.sch x.vals h.sch.short (ztF (h.rows.fit x hx))
 rwa [zvp h.sch (h.rows.fit x hx)] at h2
def zrG (l:List Rw) (i:Nat) (last:Int):Prop:=∀ r∈l.drop i,last < r.id
theorem zy6 {l:List Rw} {i:Nat} {x:Rw} (ha:l.Pairwise fun a b=>a.id < b.id) (hx:l[i]?=some x):zrG l (i+1) x.id:=by
 intro r hr
 obtain ⟨j,hj⟩:=List.getElem?_of_mem hr
 rw [List.getElem?_drop] at hj
 obtain ⟨a1,a2⟩:=List.getElem?_eq_some_iff.1 hx
 obtain ⟨b1,b2⟩:=List.getElem?_eq_some_iff.1 hj
 have:=List.pairwise_iff_getElem.1 ha i (i+1+j) a1 b1 Zo
 rwa [a2,b2] at this
theorem zBC {l:List Rw} {i:Nat} {x:Rw} {last:Int} (h:zrG l i last) (hx:l[i]?=some x):decide (x.id<=last)=false:=by
 have:=h x (by rw [zam hx];simp)
 simp;omega
noncomputable def L_pv6 (t:Tb) (i:Nat) (last:Int):Cfg:=zag B.B6 0 [(1,.p 0 0),(3,iv last),(27,.sl (t.rows.map Rw.cells)),(28,iv ((t.rows.map Rw.cells).length:Nat)),(29,iv (i:Nat))] [.box t.cells]
theorem ziv (t:Tb) (ht:TabV t) (hs:zac t.sch.cols) (hr:zac t.rows) (i:Nat) (last:Int) (hi:i<=(t.rows).length) (hI:zrG t.rows i last):∃ (last':Int),(zrG t.rows (t.rows).length last')/\(decide ((((t.rows).length:Nat):Int) < (((t.rows.map Rw.cells).length:Nat):Int))=false)/\∀ R,Good E0 B.B6 [] (L_pv6 t (t.rows).length last') R->Good E0 B.B6 [] (L_pv6 t i last) R:=by
 have hk:=hi;revert i last;refine zlp ((t.rows).length) (fun i hlt ih last hi hI _=>?_)
 obtain ⟨x,hx,h0,hw⟩:=zlq (l:=t.rows) ((t.rows.map Rw.cells).length) hlt
 have a1:=zBC hI hx;have a2:=ht.hiF (List.mem_of_getElem? hx);have a3:=ht.pfit (List.mem_of_getElem? hx)
 exact Zih (ih x.id Zo (by exact zy6 ht.rows.asc hx) Zo) fun R gY=>zaa (wkl [sb h0,se (zae Rw.cells hx rfl),sg a1,sg a2,sc a3,sb Zf,si hw] [1,3,27,28,29] 1 kr gY)
theorem zpV (t:Tb) (ht:TabV t) (hs:zac t.sch.cols) (hr:zac t.rows) (hv:zab E0 S.B0 [t.sch.av] [] (bv true) []) (h1a:decide ((100:Int) < ((t.rows.map Rw.cells).length:Int))=false) (h2a:decide (t.next < 1)=false) (h3a:decide ((2147483648:Int) < t.next)=false) (hd:zab E0 S.AW [t.av] [] (bv false) []):∃ (b:Bool),b=true/\zab E0 S.B6 [t.av] [] (bv b) []:=by
 obtain ⟨last1,q1,q1_1,g1⟩:=ziv t zpv zpv zpv 0 0 zpv zpv
 exact ⟨!false,Zr,wkc At.B6 [sc hv,sg Zf,sg h1a,sg h2a,sb h3a] [1,3,27,28,29] 1 kr (g1 _ (zaa (wkr [sb q1_1,sc hd] kr)))⟩
theorem TabV.pdup {t:Tb} (h:TabV t):zab E0 S.AW [t.av] [] (bv false) []:=by
 obtain ⟨b,hb,hc⟩:=zg0 t h.sch.short h.shr
 have h1:b=false:=hb.2 (by rw [h.key];exact zhd _ h.rows.keys)
 rw [h1] at hc;exact hc
theorem znT (t:Tb) (ht:TabV t):zab E0 S.B6 [t.av] [] (bv true) []:=by
 have hp:=ht.rows.pos
 obtain ⟨r,rfl,h⟩:=zpV t ht ht.sch.short ht.shr (znd _ ht.sch) ht.len Zp ht.max ht.pdup
 exact h
end Go.AM
namespace Go.AM
theorem zr9 {p:Prop} (h:p:=by first|assumption|omega|(simp;done)|(simp;omega)):p:=h
theorem sN3_3 {p:Prop} (h:p:=by first|omega|(simp only [zac,Few] at *;omega)):p:=h
theorem zz6 (v:List V) (n:Int) :∃ (r:Bool),r=(((v.map V.cells).length:Int) != n)/\zab E0 S.BM [vsl v,.p 0 0] [.box [iv n]] (bv r) [.box [iv n]]:=by
 exact ⟨(↑(List.map V.cells v).length:Int) != n,Zr,wk At.BM [] kr⟩
theorem zoM (v:List V) (n:Int) (h:(((v.map V.cells).length:Int) != n)=false):zab E0 S.BM [vsl v,.p 0 0] [.box [iv n]] (bv false) [.box [iv n]]:=by
 obtain ⟨r,hr,hc⟩:=zz6 v n
 rw [h] at hr;subst hr;exact hc
noncomputable def L_ixW (l:List (List V)) (n:Int) (i:Nat) :Cfg:=zag B.An 0 [(0,.sl (l.map vrow)),(1,.fn S.BM [.p 0 0]),(7,iv ((l.map vrow).length:Nat)),(8,iv (i:Nat))] [.box [iv n]]
theorem zeg (l:List (List V)) (n:Int) (hl:zac l) (hwd:∀ v∈l,(((v.map V.cells).length:Int) != n)=false) (i:Nat)  (hi:i<=(l).length) (hI:True):(True)/\(decide ((((l).length:Nat):Int) < (((l.map vrow).length:Nat):Int))=false)/\∀ R,Good E0 B.An [.box [iv n]] (L_ixW l n (l).length ) R->Good E0 B.An [.box [iv n]] (L_ixW l n i ) R:=by
 have hk:=hi;revert i hI;refine zlp ((l).length) (fun i hlt ih hi hI _=>?_)
 obtain ⟨x,hx,h0,hw⟩:=zlq (l:=l) ((l.map vrow).length) hlt sN3_3
 have hc:=zoM x n (hwd x (List.mem_of_getElem? hx))
 obtain ⟨qZ,xZ,gZ⟩:=ih Zo (by first|trivial|assumption|(simp;done)|omega|(simp;omega)|(simp at *;omega)) Zo;exact ⟨qZ,xZ,fun R hg=>zaa (wkl [sb h0,se (zae vrow hx rfl),sl [0] hc,sb Zf,si hw] [0,1,7,8] 1 kr (gZ R hg))⟩
theorem c_ixW (l:List (List V)) (n:Int) (hl:zac l) (hwd:∀ v∈l,(((v.map V.cells).length:Int) != n)=false):∃ (r:Int),r=-1/\zab E0 S.An [.sl (l.map vrow),.fn S.BM [.p 0 0]] [.box [iv n]] (iv r) [.box [iv n]]:=by
 obtain ⟨q1,q1_1,g1⟩:=zeg l n zr9 zr9 0 zr9 zr9
 exact ⟨-1,Zr,wkc At.An [] [0,1,7,8] 1 kr (g1 _ (zaa (wkr [sb q1_1] kr)))⟩
theorem c_cfV2 (l:List (List V)) (n:Int) (hi:∃ r:Int,r=-1/\zab E0 S.An [.sl (l.map vrow),.fn S.BM [.p 0 0]] [.box [iv n]] (iv r) [.box [iv n]]):∃ (r:Bool),r=false/\zab E0 S.A2 [.sl (l.map vrow),.fn S.BM [.p 0 0]] [.box [iv n]] (bv r) [.box [iv n]]:=by
 obtain ⟨r1,q1,c1⟩:=hi
 exact ⟨decide ((0:Int)<=r1),(by (subst_vars;rfl)),wk At.A2 [sl [0] c1] kr⟩
theorem ze1 (l:List (List V)) (n:Int) (hl:zac l) (hwd:∀ v∈l,(((v.map V.cells).length:Int) != n)=false):zab E0 S.A2 [.sl (l.map vrow),.fn S.BM [.p 0 0]] [.box [iv n]] (bv false) [.box [iv n]]:=by
 obtain ⟨r,rfl,h⟩:=c_cfV2 l n (c_ixW l n hl hwd)
 exact h
abbrev insT (t:Tb) (ins:List (List V)):Tb:=⟨t.sch,t.next+(ins.length:Int),t.rows++insN t.next ins⟩
end Go.AM
namespace Go.Proofs
open Go.Shelf
shelf_lay_g Lays8.n4 Nm8 4 at Tryz 60 as Tryz.growT
end Go.Proofs
namespace Go.AM
open Go.Shelf Go.RowKit Go.Lib
theorem zxh {w:World} (o:Obj):BelowD w.heap.size w (w.drew.alloc o):=(BelowD.refl _ w).drew.alloc (Nat.le_refl _) o
theorem zlh (n:Nat) (hn:n<=1000000):zab E0 S.CJ [.nl,iv (n:Int)] [] (.own 0 0) [.row Ty.Table [] false]:=by
 intro β S w vs r hp
 obtain ⟨hl,hv⟩:=hp
 match vs,hl,hv with
 | [v1,v2],_,hv =>
  have h1:=hv 0 .nl v1 rfl rfl
  have h2:=hv 1 (iv (n:Int)) v2 rfl rfl
  obtain ⟨a,rfl⟩:∃ a,v1=.slice a 0 0:=by
   cases h1 with
   | d _ _ h=>cases h
   | nl a=>exact ⟨a,rfl⟩
  obtain rfl:v2=.int .i64 (n:Int):=by
   cases h2 with
   | d _ _ h=>cases h with|v _ _=>rfl
  refine .inl ⟨⟨_,At.CJ,by kernel_rfl,by kernel_rfl⟩,?_⟩
  have hb0:β.length=0:=r.len
  have hβ:β=[]:=List.length_eq_zero_iff.1 hb0
  subst hβ
  rcases Nat.eq_zero_or_pos n with h0|hpos
  ·subst h0
   have hc:=Go.Proofs.Any8.slices_Grow_room Go.Proofs.Tryz.growT a 0 0 0 w (Nat.le_refl _) Zo Zo Zo
   refine Calls.mono (P:=E0.P) hc ?_
   rintro e w' ⟨rfl,rfl⟩
   obtain ⟨x,r'⟩:=r.newRow Ty.Table [] false (.nil a) (BelowD.refl _ _) (fun g hg=>by cases hg) rfl
   exact ⟨_,_,_,_,_,rfl,⟨rfl,rfl⟩,r',x,.own 0 0 _ Ty.Table [] false rfl (Nat.le_refl _) (fun _=>rfl) rfl⟩
  ·obtain ⟨i,d,z,tok⟩:=E0ok.at_ (t:=Ty.Table) (by
    intro h
    have:(E0.T Ty.Table).size=4:=by kernel_rfl
    rw [h] at this;cases this)
   have hs:(E0.T Ty.Table).size=4:=by kernel_rfl
   have hby:(E0.T Ty.Table).bytes<=1000:=Nat.le_of_ble_eq_true kr
   have hbytes:n * i.bytes<=140737488355328:=by
    rw [tok.bytes]
    exact Nat.le_trans (Nat.mul_le_mul hn hby) Zo
   have hc:=Go.Proofs.Any8.slices_Grow_grow Go.Proofs.Tryz.growT i z tok.info tok.zero (by rw [tok.size,hs];omega) a 0 0 n [] w (Nat.le_refl _) Zo (by rw [Nat.zero_add];exact hbytes) Zo Zs (fun _=>rfl) (fun _ _ j v h=>by simp at h)
   have hc2:Calls E0.P Go.AM.S.CJ #[.slice a 0 0,.int .i64 (n:Int)] w fun e w'=>e=.returned (.slice (some ⟨w.heap.size,0,none⟩) 0 (grownCap w (0+n) 0 Ty.Table))/\w'=w.drew.alloc (.cells (([]:List Value).toArray++Builtin.zeroCells z.cells (0+n - 0)++Builtin.zeroCells z.cells (grownCap w (0+n) 0 Ty.Table - (0+n))) Ty.Table):=hc
   refine Calls.mono (P:=E0.P) hc2 ?_
   rintro e w' ⟨rfl,rfl⟩
   have hge:=grownCap_ge w (0+n) 0 Ty.Table
   have hle:=grownCap_le_maxLen w (0+n) 0 Ty.Table (by unfold maxLen;omega)
   have hzl:z.cells.size=(E0.T Ty.Table).size:=by
    have:=(zd1 (T:=E0.T) (h:=([]:Heap)) (β:=[]) (w:=w) (S:=S) _ _ tok.zok).1
    rw [Array.length_toList] at this
    rw [← this,tok.zlen]
   have hsz:(([]:List Value).toArray++Builtin.zeroCells z.cells (0+n - 0)++Builtin.zeroCells z.cells (grownCap w (0+n) 0 Ty.Table - (0+n))).size=grownCap w (0+n) 0 Ty.Table * (E0.T Ty.Table).size:=by
    simp only [Array.size_append,List.size_toArray,size_zeroCells,hzl,List.length_nil,Nat.zero_add,← Nat.add_mul]
    congr 1
    simp only [Nat.zero_add] at hge
    omega
   obtain ⟨x,r'⟩:=r.newRow Ty.Table [] false (.row w.heap.size (grownCap w (0+n) 0 Ty.Table)) (zxh _) (fun g hg=>by cases hg;exact ⟨Nat.le_refl _,by simp⟩)
    ⟨_,heap_alloc_new w.drew (.cells (([]:List Value).toArray++Builtin.zeroCells z.cells (0+n - 0)++Builtin.zeroCells z.cells (grownCap w (0+n) 0 Ty.Table - (0+n))) Ty.Table),Nat.zero_le _,by omega,hle,hsz,by simp,by simp⟩
   exact ⟨_,_,_,_,_,rfl,⟨rfl,rfl⟩,r',x,.own 0 0 _ Ty.Table [] false rfl (Nat.le_refl _) (fun _=>rfl) rfl⟩
end Go.AM
namespace Go.AM
theorem znU (i:Nat):zab E0 S.CV [iv (i:Nat)] [] (X.av (xLit ⟨1,i,⟨#[]⟩⟩)) [] :=
 zsr i (by rw [decide_eq_false_iff_not];omega)
theorem zpx {p:Prop} (h:p:=by first|assumption|omega|(simp;done)|(simp;omega)):p:=h
theorem zyR (a b:List AV) (h:b.length=1):ElAt [a,b] ((0+1:Nat):Int) b 1:=⟨by decide,rfl,h⟩
theorem zz4 (t:Tb) (n:Str) :∃ (r:Bool),r=zan t n/\zab E0 S.Ca [.agg t.cells,.p 0 0] [.box [sv n]] (bv r) [.box [sv n]]:=by
 exact ⟨ByteArray.toList t.sch.name==ByteArray.toList n,Zr,wk At.Ca [] kr⟩
theorem zoU (t:Tb) (n:Str):zab E0 S.Ca [.agg t.cells,.p 0 0] [.box [sv n]] (bv (zan t n)) [.box [sv n]]:=by
 obtain ⟨r,rfl,h⟩:=zz4 t n
 exact h
noncomputable def zwd (l:List Tb) (n:Str) (i:Nat) :Cfg:=zag B.Ag 0 [(0,.sl (l.map Tb.cells)),(1,.fn S.Ca [.p 0 0]),(7,iv ((l.map Tb.cells).length:Nat)),(8,iv (i:Nat))] [.box [sv n]]
theorem zee (l:List Tb) (n:Str) (hl:zac l) (i:Nat)  (hi:i<=(l).length) (hI:idxF (fun t=>zan t n) l 0=idxF (fun t=>zan t n) (l.drop i) i):((idxF (fun t=>zan t n) l 0=idxF (fun t=>zan t n) (l.drop (l).length) (l).length)/\(decide ((((l).length:Nat):Int) < (((l.map Tb.cells).length:Nat):Int))=false)/\∀ R,Good E0 B.Ag [.box [sv n]] (zwd l n (l).length ) R->Good E0 B.Ag [.box [sv n]] (zwd l n i ) R)\/(∃ (r:Int),r=idxF (fun t=>zan t n) l 0/\Good E0 B.Ag [.box [sv n]] (zwd l n i ) (Shut 1 fun rZ hZ=>rZ=(iv r)/\hZ=[.box [sv n]])):=by
 have hk:=hi;revert i;refine zlp ((l).length) (fun i hlt ih hi hI _=>?_)
 obtain ⟨x,hx,h0,hw⟩:=zlq (l:=l) ((l.map Tb.cells).length) hlt
 let p_1:List St:=[sb h0,se (zae Tb.cells hx rfl),sl [0] (zoU x n)]
 cases h1:zan x n
 ·exact zie2 (ih Zo (by exact zhz hI hx ‹_›) Zo) fun R gY=>zaa (wkl (p_1++[sb h1,si hw]) [0,1,7,8] 1 kr gY)
 ·exact .inr ⟨(i:Int),(by exact zjK hI hx ‹_›),zaa (wkr (p_1++[sb h1]) kr)⟩
theorem c_ixF (l:List Tb) (n:Str) (hl:zac l):∃ (r:Int),r=idxF (fun t=>zan t n) l 0/\zab E0 S.Ag [.sl (l.map Tb.cells),.fn S.Ca [.p 0 0]] [.box [sv n]] (iv r) [.box [sv n]]:=by
 rcases zee l n Za 0 Za Za with ⟨q1,q1_1,g1⟩|⟨r1_0,p1_0,g1⟩
 ·exact ⟨-1,(by first|assumption|exact zds ‹_›),wkc At.Ag [] [0,1,7,8] 1 kr (g1 _ (zaa (wkr [sb q1_1] kr)))⟩
 ·exact ⟨r1_0,(by first|assumption|exact zds ‹_›),wkc At.Ag [] [0,1,7,8] 1 kr (g1)⟩
theorem zsF (tb:List Tb) (n:Str) (hx:∃ r:Int,r=idxF (fun t=>zan t n) tb 0/\zab E0 S.Ag [tsl tb,.fn S.Ca [.p 0 0]] [.box [sv n]] (iv r) [.box [sv n]]):∃ (r:Int),r=idxF (fun t=>zan t n) tb 0/\zab E0 S.Cc [tsl tb,sv n] [] (iv r) []:=by
 obtain ⟨r1,q1,c1⟩:=hx
 exact ⟨r1,‹_›,wk At.Cc [sl [0] c1] kr⟩
theorem ztl (tb:List Tb) (n:Str) (hl:zac tb):zab E0 S.Cc [tsl tb,sv n] [] (iv (idxF (fun t=>zan t n) tb 0)) []:=by
 obtain ⟨r,rfl,h⟩:=zsF tb n (c_ixF tb n hl)
 exact h
theorem zwL (x:Rw) (hsv:zac x.vals):∃ (r:Rw),r=x/\zab E0 S.Co [.agg x.cells] [] (.agg r.cells) []:=by
 exact ⟨x,Zr,wk At.Co [sqx (True/\x.vals.length=(List.map V.cells x.vals).length/\True),sd [(4,[sc (zaS x.vals zpx)])]] kr⟩
theorem zxl (x:Rw) (h:zac x.vals):zab E0 S.Co [.agg x.cells] [] (.agg x.cells) []:=by
 obtain ⟨r,rfl,h⟩:=zwL x h
 exact h
noncomputable def L_dlR (l:List Rw) (i:Nat) (out:List Rw):Cfg:=zag B.Bt 0 [(1,.fn S.Co []),(5,.own 0 out.length),(8,.sl ((l).map Rw.cells)),(9,iv (((l).map Rw.cells).length:Nat)),(10,iv (i:Nat))] [.row Ty.Row ((out).map Rw.cells) false]
theorem zfM (l:List Rw) (hl:zac l) (hf:∀ x∈l,zab E0 S.Co [.agg x.cells] [] (.agg x.cells) []) (i:Nat) (out:List Rw) (hi:i<=(l).length) (hI:out=l.take i):∃ (out':List Rw),(out'=l.take (l).length)/\(decide ((((l).length:Nat):Int) < ((((l).map Rw.cells).length:Nat):Int))=false)/\∀ R,Good E0 B.Bt [] (L_dlR l (l).length out') R->Good E0 B.Bt [] (L_dlR l i out) R:=by
 have hk:=hi;revert i out;refine zlp ((l).length) (fun i hlt ih out hi hI _=>?_)
 obtain ⟨x,hx,h0,hw⟩:=zlq (l:=l) (((l).map Rw.cells).length) hlt
 have hfx:=hf x (List.mem_of_getElem? hx)
 have ho:out.length<=1000000000:=by rw [hI,List.length_take];simp only [zac] at hl;omega
 exact Zih (ih (out++[x]) Zo (by rw [List.take_add_one,hx,hI];rfl) Zo) fun R gY=>zaa (wkl [sb h0,se (zae Rw.cells hx rfl),sc hfx,sqA (List.map Rw.cells out) [[iv x.id,vsl x.vals]] out.length 2 32,si hw] [1,5,8,9,10] 1 kr (zaw 5 0 (List.map Rw.cells out++[[iv x.id,vsl x.vals]]) gY (he:=Zcv4) (hm:=Zcv4)))
theorem zk8 (l:List Rw) (hl:zac l) (hf:∀ x∈l,zab E0 S.Co [.agg x.cells] [] (.agg x.cells) []):∃ (r:List Rw),r=l/\zab E0 S.Bt [.sl ((l).map Rw.cells),.fn S.Co []] [] (.sl ((r).map Rw.cells)) []:=by
 obtain ⟨out1,q1,q1_1,g1⟩:=zfM l Za Za 0 ([]) Za Za
 exact ⟨out1,(by first|assumption|(rw [List.take_length] at *;assumption)),wkcN At.Bt [] [1,5,8,9,10] 0 [(.ot 5 Ty.Row,1)] kr (g1 _ (zaa (wkr [sqx (out1.length=(List.map Rw.cells out1).length),sb q1_1] kr)))⟩
theorem zlb (l:List Rw) (hl:zac l) (hf:∀ x∈l,zab E0 S.Co [.agg x.cells] [] (.agg x.cells) []):zab E0 S.Bt [.sl ((l).map Rw.cells),.fn S.Co []] [] (.sl ((l).map Rw.cells)) []:=by
 obtain ⟨r,rfl,h⟩:=zk8 l hl hf
 exact h
theorem zq5 (x:Sch) (hsv:zac x.cols):∃ (r:Sch),r=x/\zab E0 S.Dq [x.av] [] r.av []:=by
 exact ⟨x,Zr,wk At.Dq [sqx (True/\x.cols.length=(List.map Col.cells x.cols).length/\True),sc (zc6 x.cols zpx)] kr⟩
theorem zro (x:Sch) (h:zac x.cols):zab E0 S.Dq [x.av] [] x.av []:=by
 obtain ⟨r,rfl,h⟩:=zq5 x h
 exact h
theorem zsu (t:Tb) (hc:zac t.sch.cols) (hr:zac t.rows) (hf:∀ x∈t.rows,zab E0 S.Co [.agg x.cells] [] (.agg x.cells) []):∃ (r:Tb),r=t/\zab E0 S.BV [.agg t.cells] [] (.agg r.cells) []:=by
 exact ⟨t,Zr,wk At.BV [sd [(2,[sc (zro t.sch zpx)]),(7,[sc (zlb t.rows zpx zpx)])]] kr⟩
theorem zte (t:Tb) (hc:zac t.sch.cols) (hr:zac t.rows) (hv:∀ r∈t.rows,zac r.vals):zab E0 S.BV [.agg t.cells] [] (.agg t.cells) []:=by
 obtain ⟨r,rfl,h⟩:=zsu t hc hr (fun x hx=>zxl x (hv x hx))
 exact h
abbrev wv (v:Int):AV:=.agg [iv (v / 18446744073709551616),uv (v % 18446744073709551616)]
abbrev W128 (v:Int):Prop:=-170141183460469231731687303715884105728<=v/\v < 170141183460469231731687303715884105728
theorem zlH (a:Int):a.fdiv ((2:Int) ^ min (Int.toNat (63:Int)) IntKind.i64.bits)=a / 9223372036854775808:=by
 have e:(2:Int) ^ min (Int.toNat (63:Int)) IntKind.i64.bits=9223372036854775808:=by decide
 rw [e,Int.fdiv_eq_ediv_of_nonneg _ Zd]
def sat (v:Int):Int × Bool:=if -9223372036854775808<=v/\v<=9223372036854775807 then (v,true) else (0,false)
theorem zzr {v n:Int} {ok:Bool} (h:if -9223372036854775808<=v/\v<=9223372036854775807 then n=v/\ok=true else n=0/\ok=false):(n,ok)=sat v:=by
 unfold sat;split at h <;> rename_i hc <;> simp only [hc,h.1,h.2,if_true,if_false] <;> simp [h.1,h.2]
theorem zyu (a:Int) (ha:I64 a):∃ (h l:Int),(h=a / 18446744073709551616/\l=a % 18446744073709551616)/\zab E0 S.DI [iv a] [] (.agg [iv h,uv l]) []:=by
 exact ⟨a.fdiv (2 ^ min (Int.toNat 63) IntKind.i64.bits),IntKind.u64.wrap a,(by exact ⟨by rw [zlH];simp only [I64] at ha;omega,by rw [zfu]⟩),wk At.DI [sx (.i (a.fdiv ((2:Int) ^ min (Int.toNat (63:Int)) IntKind.i64.bits))) (show (0:Int)<=(63:Int)/\(a.fdiv ((2:Int) ^ min (Int.toNat (63:Int)) IntKind.i64.bits):Int)=a.fdiv ((2:Int) ^ min (Int.toNat (63:Int)) IntKind.i64.bits) from ⟨(by simp_all),rfl⟩),si (e:=IntKind.u64.wrap a) rfl] kr⟩
theorem zgB (a:Int) (ha:I64 a):zab E0 S.DI [iv a] [] (wv a) []:=by
 obtain ⟨_,_,⟨rfl,rfl⟩,h⟩:=zyu a ha
 exact h
theorem zuj (v w:Int) (hr:W128 (v+w)) (hv:W128 v) (hw:W128 w) (hv0:0<=v % 18446744073709551616) (hw0:0<=w % 18446744073709551616):∃ (h l:Int),(h=(v+w) / 18446744073709551616/\l=(v+w) % 18446744073709551616)/\zab E0 S.C8 [wv v,wv w] [] (.agg [iv h,uv l]) []:=by
 exact ⟨IntKind.i64.wrap (IntKind.i64.wrap (v / 18446744073709551616+w / 18446744073709551616)+IntKind.i64.wrap (zb5 (v % 18446744073709551616) (w % 18446744073709551616) 0).snd),(zb5 (v % 18446744073709551616) (w % 18446744073709551616) 0).fst,(by exact ⟨by simp only [IntKind.wrap_i64,zb5,W128] at *;omega,by simp only [zb5];omega⟩),wk At.C8 [sc (zed (v % 18446744073709551616) (w % 18446744073709551616) 0 Zb Zb Zb),si (e:=IntKind.i64.wrap (v / 18446744073709551616+w / 18446744073709551616)) rfl,si (e:=IntKind.i64.wrap (zb5 (v % 18446744073709551616) (w % 18446744073709551616) 0).snd) rfl,si (e:=IntKind.i64.wrap (IntKind.i64.wrap (v / 18446744073709551616+w / 18446744073709551616)+IntKind.i64.wrap (zb5 (v % 18446744073709551616) (w % 18446744073709551616) 0).snd)) rfl] kr⟩
theorem zgh (v w:Int) (hr:W128 (v+w)) (hv:W128 v) (hw:W128 w):zab E0 S.C8 [wv v,wv w] [] (wv (v+w)) []:=by
 obtain ⟨_,_,⟨rfl,rfl⟩,h⟩:=zuj v w hr hv hw Zo Zo
 exact h
theorem zrc (v:Int) (hv:W128 v):∃ (n:Int) (ok:Bool),(n,ok)=sat v/\zab E0 S.CQ [wv v] [] (.tup [iv n,bv ok]) []:=by
 let p_1:List St:=[si (e:=IntKind.i64.wrap (v % 18446744073709551616)) rfl,sx (.i ((IntKind.i64.wrap (v % (18446744073709551616:Int))).fdiv ((2:Int) ^ min (Int.toNat (63:Int)) IntKind.i64.bits))) (show (0:Int)<=(63:Int)/\((IntKind.i64.wrap (v % (18446744073709551616:Int))).fdiv ((2:Int) ^ min (Int.toNat (63:Int)) IntKind.i64.bits):Int)=(IntKind.i64.wrap (v % (18446744073709551616:Int))).fdiv ((2:Int) ^ min (Int.toNat (63:Int)) IntKind.i64.bits) from ⟨(by simp_all),rfl⟩)]
 cases h1:(IntKind.i64.wrap (v % 18446744073709551616)).fdiv (2 ^ min (Int.toNat 63) IntKind.i64.bits) != v / 18446744073709551616
 ·exact ⟨IntKind.i64.wrap (v % 18446744073709551616),true,(by (refine zzr ?_;simp only [zlH,IntKind.wrap_i64,W128,bne_iff_ne,ne_eq,bne_eq_false_iff_eq] at *;split <;> simp <;> omega)),wk At.CQ (p_1++[sb h1]) kr⟩
 ·exact ⟨0,false,(by (refine zzr ?_;simp only [zlH,IntKind.wrap_i64,W128,bne_iff_ne,ne_eq,bne_eq_false_iff_eq] at *;split <;> simp <;> omega)),wk At.CQ (p_1++[sb h1]) kr⟩
theorem zcg (v:Int) (hv:W128 v):zab E0 S.CQ [wv v] [] (.tup [iv (sat v).1,bv (sat v).2]) []:=by
 obtain ⟨n,ok,e,h⟩:=zrc v hv
 rw [← e];exact h
theorem zd8 {p:Prop} (h:p:=by first|assumption|(simp only [I64,W127,W128] at *;omega)):p:=h
theorem zpe {p:Prop} (h:p:=by first|assumption|exact u_div ha ‹_›|exact (u_divn ha ‹_›).w):p:=h
theorem zpf {p:Prop} (h:p:=by first|assumption|exact u_mod ha ‹_›|exact (u_modn ha ‹_›).w):p:=h
theorem zxL {p:Prop} (h:p:=by first|exact div_q0 ‹_›|exact div_q1 ha hb ‹_› ‹_›|exact div_q2 ha hb ‹_› ‹_›):p:=h
theorem zkG {p:Prop} (h:p:=by first|assumption|exact hp.w|exact hn.w):p:=h
theorem zxM {p:Prop} (h:p:=by first|exact mod_q0 ‹_›|exact mod_q1 ‹_› ‹_›|exact mod_q2 ‹_› ‹_›):p:=h
theorem zA0 {a b:Int} (ha:I64 a) (hb:I64 b):aAdd a b=sat (a+b):=by
 simp only [aAdd,sat,Bool.cond_eq_ite,decide_eq_true_eq,IntKind.wrap_i64,I64] at *
 repeat' split
 all_goals first|rfl|omega|(simp only [Prod.mk.injEq,and_true];omega)
theorem mulInR {a b:Int} (ha:I64 a) (hb:I64 b) (h0:a≠0) (h1:b≠0) (h2:¬(a=-9223372036854775808/\b=-1)) (h3:¬(b=-9223372036854775808/\a=-1)):(IntKind.i64.wrap ((IntKind.i64.wrap (a * b)).tdiv b)=a↔I64 (a * b)):=by
 constructor
 ·intro h
  generalize hp:IntKind.i64.wrap (a * b)=p at h
  have hpr:I64 p:=by rw [← hp,IntKind.wrap_i64];simp only [I64];omega
  have hk:∃ k,a * b=p+k * 18446744073709551616:=⟨(a * b - p) / 18446744073709551616,by rw [← hp,IntKind.wrap_i64];omega⟩
  obtain ⟨k,hk⟩:=hk
  have hd:=Int.tmod_add_mul_tdiv p b
  have hm:=Int.natAbs_tmod p b
  have hm2:=Nat.mod_lt p.natAbs (show 0 < b.natAbs by omega)
  have hq:p.tdiv b=a:=by
   have hn:(p.tdiv b).natAbs=p.natAbs / b.natAbs:=Int.natAbs_tdiv p b
   have hle:=Nat.div_le_self p.natAbs b.natAbs
   rw [IntKind.wrap_i64] at h
   simp only [I64] at *
   by_cases hc:p.tdiv b=9223372036854775808
   ·exfalso
    have h4:a=-9223372036854775808:=by rw [hc] at h;omega
    have h5:p=-9223372036854775808:=by
     have:p.natAbs<=9223372036854775808:=by omega
     omega
    have h6:b.natAbs=1:=by
     have h7:p.natAbs / b.natAbs=9223372036854775808:=by rw [← hn,hc];rfl
     have h8:b.natAbs < 2:=by
      rcases Nat.lt_or_ge b.natAbs 2 with h|h
      ·exact h
      ·have:=Nat.div_le_div_left (a:=p.natAbs) h Zo;omega
     omega
    have h9:b=1\/b=-1:=by omega
    rcases h9 with h9|h9
    ·rw [h9,h5] at hc;revert hc;decide
    ·exact h2 ⟨h4,h9⟩
   ·omega
  rw [hq] at hd
  have:b * a=a * b:=Int.mul_comm b a
  simp only [I64] at *
  omega
 ·intro h
  have e:IntKind.i64.wrap (a * b)=a * b:=by rw [IntKind.wrap_i64];simp only [I64] at h;omega
  rw [e,Int.mul_tdiv_cancel _ h1,IntKind.wrap_i64]
  simp only [I64] at ha;omega
theorem zA4 {a b:Int} (ha:I64 a) (hb:I64 b):aSub a b=sat (a - b):=by
 simp only [aSub,sat,Bool.cond_eq_ite,decide_eq_true_eq,IntKind.wrap_i64,I64] at *
 repeat' split
 all_goals first|rfl|omega|(simp only [Prod.mk.injEq,and_true];omega)
theorem zA3 {a b:Int} (ha:I64 a) (hb:I64 b):aMul a b=sat (a * b):=by
 by_cases h0:a=0
 ·subst h0;simp [aMul,sat]
 by_cases h1:b=0
 ·subst h1;simp [aMul,sat,h0]
 by_cases h2:a=-9223372036854775808/\b=-1
 ·obtain ⟨rfl,rfl⟩:=h2;decide
 by_cases h3:b=-9223372036854775808/\a=-1
 ·obtain ⟨rfl,rfl⟩:=h3;decide
 have hm:=mulInR ha hb h0 h1 h2 h3
 have hw:I64 (a * b)->IntKind.i64.wrap (a * b)=a * b:=fun h=>by rw [IntKind.wrap_i64];simp only [I64] at h;omega
 have key:(bif IntKind.i64.wrap ((IntKind.i64.wrap (a * b)).tdiv b) != a then ((0:Int),false) else (IntKind.i64.wrap (a * b),true))=sat (a * b):=by
  by_cases h:I64 (a * b)
  ·rw [show sat (a * b)=(a * b,true) from if_pos h]
   have e1:=hm.2 h
   have e2:=hw h
   have e3:(IntKind.i64.wrap ((IntKind.i64.wrap (a * b)).tdiv b) != a)=false:=by rw [e1];simp
   rw [e3,e2];rfl
  ·rw [show sat (a * b)=(0,false) from if_neg h]
   have e3:(IntKind.i64.wrap ((IntKind.i64.wrap (a * b)).tdiv b) != a)=true:=by simpa using fun e=>h (hm.1 e)
   rw [e3];rfl
 rw [← key]
 unfold aMul
 simp only [Bool.cond_eq_ite,beq_iff_eq,h0,h1,if_false]
 split
 ·split
  ·exact absurd ⟨by assumption,by assumption⟩ h2
  ·split
   ·split
    ·exact absurd ⟨by assumption,by assumption⟩ h3
    ·rfl
   ·rfl
 ·split
  ·split
   ·exact absurd ⟨by assumption,by assumption⟩ h3
   ·rfl
  ·rfl
theorem zA1 {a b:Int} (ha:I64 a) (hb:I64 b) (h0:b≠0):aDiv a b=sat (a.tdiv b):=by
 by_cases h2:a=-9223372036854775808/\b=-1
 ·obtain ⟨rfl,rfl⟩:=h2;decide
 have hn:(a.tdiv b).natAbs=a.natAbs / b.natAbs:=Int.natAbs_tdiv a b
 have hle:=Nat.div_le_self a.natAbs b.natAbs
 have hr:I64 (a.tdiv b):=by
  simp only [I64] at *
  by_cases hc:a.tdiv b=9223372036854775808
  ·exfalso
   have h5:a=-9223372036854775808:=by omega
   have h6:b.natAbs=1:=by
    have h7:a.natAbs / b.natAbs=9223372036854775808:=by rw [← hn,hc];rfl
    have h8:b.natAbs < 2:=by
     rcases Nat.lt_or_ge b.natAbs 2 with h|h
     ·exact h
     ·have:=Nat.div_le_div_left (a:=a.natAbs) h Zo;omega
    omega
   have h9:b=1\/b=-1:=by omega
   rcases h9 with h9|h9
   ·rw [h9,h5] at hc;revert hc;decide
   ·exact h2 ⟨h5,h9⟩
  ·omega
 have hw:IntKind.i64.wrap (a.tdiv b)=a.tdiv b:=by rw [IntKind.wrap_i64];simp only [I64] at hr;omega
 rw [show sat (a.tdiv b)=(a.tdiv b,true) from if_pos hr]
 unfold aDiv
 simp only [Bool.cond_eq_ite,beq_iff_eq,h0,if_false,hw]
 split
 ·split
  ·exact absurd ⟨by assumption,by assumption⟩ h2
  ·rfl
 ·rfl
theorem zA2 {a b:Int} (ha:I64 a) (hb:I64 b) (h0:b≠0):aMod a b=sat (a.tmod b):=by
 have hm:=Int.natAbs_tmod a b
 have hl:=Nat.mod_le a.natAbs b.natAbs
 have hr:I64 (a.tmod b):=by
  have h2:a < 0->a.tmod b<=0:=fun h=>by
   have h3:=Int.tmod_nonneg b (show 0<=-a by omega)
   rw [Int.neg_tmod] at h3;omega
  simp only [I64] at *;omega
 rw [show sat (a.tmod b)=(a.tmod b,true) from if_pos hr]
 unfold aMod
 simp only [Bool.cond_eq_ite,beq_iff_eq,h0,if_false]
 split
 ·rename_i h
  subst h
  rw [Int.tmod_neg,Int.tmod_one]
 ·rfl
theorem fdiv32 (a:Int):a.fdiv ((2:Int) ^ min (Int.toNat (32:Int)) IntKind.u64.bits)=a / 4294967296:=by
 have e:(2:Int) ^ min (Int.toNat (32:Int)) IntKind.u64.bits=4294967296:=by decide
 rw [e,Int.fdiv_eq_ediv_of_nonneg _ Zd]
theorem and32 (z:Int):IntKind.u64.wrap (((BitVec.ofInt IntKind.u64.bits z &&& BitVec.ofInt IntKind.u64.bits 4294967295).toNat:Nat):Int)=z % 4294967296:=by
 have h:=and_low32 (z % 18446744073709551616) Zo Zo
 have e:BitVec.ofInt IntKind.u64.bits (z % 18446744073709551616)=BitVec.ofInt IntKind.u64.bits z:=by
  apply BitVec.eq_of_toNat_eq
  simp only [BitVec.toNat_ofInt,IntKind.bits]
  omega
 have h2:IntKind.u64.wrap (((BitVec.ofInt IntKind.u64.bits (z % 18446744073709551616) &&& BitVec.ofInt IntKind.u64.bits 4294967295).toNat:Nat):Int)=z % 18446744073709551616 % 4294967296:=h
 rw [e] at h2
 rw [h2];omega
theorem zBe (x y:Int) (hx:U64 x) (hy:U64 y):∃ (h l:Int),(h=x * y / 18446744073709551616/\l=x * y % 18446744073709551616)/\zab E0 S.C0 [uv x,uv y] [] (.tup [uv h,uv l]) []:=by
 exact ⟨IntKind.u64.wrap (IntKind.u64.wrap (IntKind.u64.wrap (x.fdiv (2 ^ min (Int.toNat 32) IntKind.u64.bits) * y.fdiv (2 ^ min (Int.toNat 32) IntKind.u64.bits))+(IntKind.u64.wrap (IntKind.u64.wrap (x.fdiv (2 ^ min (Int.toNat 32) IntKind.u64.bits) * IntKind.u64.wrap (↑(BitVec.ofInt IntKind.u64.bits y &&& BitVec.ofInt IntKind.u64.bits 4294967295).toNat:Int))+(IntKind.u64.wrap (IntKind.u64.wrap (↑(BitVec.ofInt IntKind.u64.bits x &&& BitVec.ofInt IntKind.u64.bits 4294967295).toNat:Int) * IntKind.u64.wrap (↑(BitVec.ofInt IntKind.u64.bits y &&& BitVec.ofInt IntKind.u64.bits 4294967295).toNat:Int))).fdiv (2 ^ min (Int.toNat 32) IntKind.u64.bits))).fdiv (2 ^ min (Int.toNat 32) IntKind.u64.bits))+(IntKind.u64.wrap (IntKind.u64.wrap (↑(BitVec.ofInt IntKind.u64.bits (IntKind.u64.wrap (IntKind.u64.wrap (x.fdiv (2 ^ min (Int.toNat 32) IntKind.u64.bits) * IntKind.u64.wrap (↑(BitVec.ofInt IntKind.u64.bits y &&& BitVec.ofInt IntKind.u64.bits 4294967295).toNat:Int))+(IntKind.u64.wrap (IntKind.u64.wrap (↑(BitVec.ofInt IntKind.u64.bits x &&& BitVec.ofInt IntKind.u64.bits 4294967295).toNat:Int) * IntKind.u64.wrap (↑(BitVec.ofInt IntKind.u64.bits y &&& BitVec.ofInt IntKind.u64.bits 4294967295).toNat:Int))).fdiv (2 ^ min (Int.toNat 32) IntKind.u64.bits))) &&& BitVec.ofInt IntKind.u64.bits 4294967295).toNat:Int)+IntKind.u64.wrap (IntKind.u64.wrap (↑(BitVec.ofInt IntKind.u64.bits x &&& BitVec.ofInt IntKind.u64.bits 4294967295).toNat:Int) * y.fdiv (2 ^ min (Int.toNat 32) IntKind.u64.bits)))).fdiv (2 ^ min (Int.toNat 32) IntKind.u64.bits)),IntKind.u64.wrap (x * y),(by exact ⟨by simp only [and32,fdiv32];simp only [zfu];exact mul64_arith x y hx.1 hx.2 hy.1 hy.2,by rw [zfu]⟩),wk At.C0 [si (e:=IntKind.u64.wrap (↑(BitVec.ofInt IntKind.u64.bits x &&& BitVec.ofInt IntKind.u64.bits 4294967295).toNat:Int)) rfl,sx (.i (x.fdiv ((2:Int) ^ min (Int.toNat (32:Int)) IntKind.u64.bits))) (show (0:Int)<=(32:Int)/\(x.fdiv ((2:Int) ^ min (Int.toNat (32:Int)) IntKind.u64.bits):Int)=x.fdiv ((2:Int) ^ min (Int.toNat (32:Int)) IntKind.u64.bits) from ⟨(by simp_all),rfl⟩),si (e:=IntKind.u64.wrap (↑(BitVec.ofInt IntKind.u64.bits y &&& BitVec.ofInt IntKind.u64.bits 4294967295).toNat:Int)) rfl,sx (.i (y.fdiv ((2:Int) ^ min (Int.toNat (32:Int)) IntKind.u64.bits))) (show (0:Int)<=(32:Int)/\(y.fdiv ((2:Int) ^ min (Int.toNat (32:Int)) IntKind.u64.bits):Int)=y.fdiv ((2:Int) ^ min (Int.toNat (32:Int)) IntKind.u64.bits) from ⟨(by simp_all),rfl⟩),si (e:=IntKind.u64.wrap (IntKind.u64.wrap (↑(BitVec.ofInt IntKind.u64.bits x &&& BitVec.ofInt IntKind.u64.bits 4294967295).toNat:Int) * IntKind.u64.wrap (↑(BitVec.ofInt IntKind.u64.bits y &&& BitVec.ofInt IntKind.u64.bits 4294967295).toNat:Int))) rfl,si (e:=IntKind.u64.wrap (x.fdiv (2 ^ min (Int.toNat 32) IntKind.u64.bits) * IntKind.u64.wrap (↑(BitVec.ofInt IntKind.u64.bits y &&& BitVec.ofInt IntKind.u64.bits 4294967295).toNat:Int))) rfl,sx (.i ((IntKind.u64.wrap (IntKind.u64.wrap (↑(BitVec.ofInt IntKind.u64.bits x &&& BitVec.ofInt IntKind.u64.bits (4294967295:Int)).toNat:Int) * IntKind.u64.wrap (↑(BitVec.ofInt IntKind.u64.bits y &&& BitVec.ofInt IntKind.u64.bits (4294967295:Int)).toNat:Int))).fdiv ((2:Int) ^ min (Int.toNat (32:Int)) IntKind.u64.bits))) (show (0:Int)<=(32:Int)/\((IntKind.u64.wrap (IntKind.u64.wrap (↑(BitVec.ofInt IntKind.u64.bits x &&& BitVec.ofInt IntKind.u64.bits (4294967295:Int)).toNat:Int) * IntKind.u64.wrap (↑(BitVec.ofInt IntKind.u64.bits y &&& BitVec.ofInt IntKind.u64.bits (4294967295:Int)).toNat:Int))).fdiv ((2:Int) ^ min (Int.toNat (32:Int)) IntKind.u64.bits):Int)=(IntKind.u64.wrap (IntKind.u64.wrap (↑(BitVec.ofInt IntKind.u64.bits x &&& BitVec.ofInt IntKind.u64.bits (4294967295:Int)).toNat:Int) * IntKind.u64.wrap (↑(BitVec.ofInt IntKind.u64.bits y &&& BitVec.ofInt IntKind.u64.bits (4294967295:Int)).toNat:Int))).fdiv ((2:Int) ^ min (Int.toNat (32:Int)) IntKind.u64.bits) from ⟨(by simp_all),rfl⟩),si (e:=IntKind.u64.wrap (IntKind.u64.wrap (x.fdiv (2 ^ min (Int.toNat 32) IntKind.u64.bits) * IntKind.u64.wrap (↑(BitVec.ofInt IntKind.u64.bits y &&& BitVec.ofInt IntKind.u64.bits 4294967295).toNat:Int))+(IntKind.u64.wrap (IntKind.u64.wrap (↑(BitVec.ofInt IntKind.u64.bits x &&& BitVec.ofInt IntKind.u64.bits 4294967295).toNat:Int) * IntKind.u64.wrap (↑(BitVec.ofInt IntKind.u64.bits y &&& BitVec.ofInt IntKind.u64.bits 4294967295).toNat:Int))).fdiv (2 ^ min (Int.toNat 32) IntKind.u64.bits))) rfl,si (e:=IntKind.u64.wrap (↑(BitVec.ofInt IntKind.u64.bits (IntKind.u64.wrap (IntKind.u64.wrap (x.fdiv (2 ^ min (Int.toNat 32) IntKind.u64.bits) * IntKind.u64.wrap (↑(BitVec.ofInt IntKind.u64.bits y &&& BitVec.ofInt IntKind.u64.bits 4294967295).toNat:Int))+(IntKind.u64.wrap (IntKind.u64.wrap (↑(BitVec.ofInt IntKind.u64.bits x &&& BitVec.ofInt IntKind.u64.bits 4294967295).toNat:Int) * IntKind.u64.wrap (↑(BitVec.ofInt IntKind.u64.bits y &&& BitVec.ofInt IntKind.u64.bits 4294967295).toNat:Int))).fdiv (2 ^ min (Int.toNat 32) IntKind.u64.bits))) &&& BitVec.ofInt IntKind.u64.bits 4294967295).toNat:Int)) rfl,sx (.i ((IntKind.u64.wrap (IntKind.u64.wrap (x.fdiv ((2:Int) ^ min (Int.toNat (32:Int)) IntKind.u64.bits) * IntKind.u64.wrap (↑(BitVec.ofInt IntKind.u64.bits y &&& BitVec.ofInt IntKind.u64.bits (4294967295:Int)).toNat:Int))+(IntKind.u64.wrap (IntKind.u64.wrap (↑(BitVec.ofInt IntKind.u64.bits x &&& BitVec.ofInt IntKind.u64.bits (4294967295:Int)).toNat:Int) * IntKind.u64.wrap (↑(BitVec.ofInt IntKind.u64.bits y &&& BitVec.ofInt IntKind.u64.bits (4294967295:Int)).toNat:Int))).fdiv ((2:Int) ^ min (Int.toNat (32:Int)) IntKind.u64.bits))).fdiv ((2:Int) ^ min (Int.toNat (32:Int)) IntKind.u64.bits))) (show (0:Int)<=(32:Int)/\((IntKind.u64.wrap (IntKind.u64.wrap (x.fdiv ((2:Int) ^ min (Int.toNat (32:Int)) IntKind.u64.bits) * IntKind.u64.wrap (↑(BitVec.ofInt IntKind.u64.bits y &&& BitVec.ofInt IntKind.u64.bits (4294967295:Int)).toNat:Int))+(IntKind.u64.wrap (IntKind.u64.wrap (↑(BitVec.ofInt IntKind.u64.bits x &&& BitVec.ofInt IntKind.u64.bits (4294967295:Int)).toNat:Int) * IntKind.u64.wrap (↑(BitVec.ofInt IntKind.u64.bits y &&& BitVec.ofInt IntKind.u64.bits (4294967295:Int)).toNat:Int))).fdiv ((2:Int) ^ min (Int.toNat (32:Int)) IntKind.u64.bits))).fdiv ((2:Int) ^ min (Int.toNat (32:Int)) IntKind.u64.bits):Int)=(IntKind.u64.wrap (IntKind.u64.wrap (x.fdiv ((2:Int) ^ min (Int.toNat (32:Int)) IntKind.u64.bits) * IntKind.u64.wrap (↑(BitVec.ofInt IntKind.u64.bits y &&& BitVec.ofInt IntKind.u64.bits (4294967295:Int)).toNat:Int))+(IntKind.u64.wrap (IntKind.u64.wrap (↑(BitVec.ofInt IntKind.u64.bits x &&& BitVec.ofInt IntKind.u64.bits (4294967295:Int)).toNat:Int) * IntKind.u64.wrap (↑(BitVec.ofInt IntKind.u64.bits y &&& BitVec.ofInt IntKind.u64.bits (4294967295:Int)).toNat:Int))).fdiv ((2:Int) ^ min (Int.toNat (32:Int)) IntKind.u64.bits))).fdiv ((2:Int) ^ min (Int.toNat (32:Int)) IntKind.u64.bits) from ⟨(by simp_all),rfl⟩),si (e:=IntKind.u64.wrap (IntKind.u64.wrap (↑(BitVec.ofInt IntKind.u64.bits x &&& BitVec.ofInt IntKind.u64.bits 4294967295).toNat:Int) * y.fdiv (2 ^ min (Int.toNat 32) IntKind.u64.bits))) rfl,si (e:=IntKind.u64.wrap (IntKind.u64.wrap (↑(BitVec.ofInt IntKind.u64.bits (IntKind.u64.wrap (IntKind.u64.wrap (x.fdiv (2 ^ min (Int.toNat 32) IntKind.u64.bits) * IntKind.u64.wrap (↑(BitVec.ofInt IntKind.u64.bits y &&& BitVec.ofInt IntKind.u64.bits 4294967295).toNat:Int))+(IntKind.u64.wrap (IntKind.u64.wrap (↑(BitVec.ofInt IntKind.u64.bits x &&& BitVec.ofInt IntKind.u64.bits 4294967295).toNat:Int) * IntKind.u64.wrap (↑(BitVec.ofInt IntKind.u64.bits y &&& BitVec.ofInt IntKind.u64.bits 4294967295).toNat:Int))).fdiv (2 ^ min (Int.toNat 32) IntKind.u64.bits))) &&& BitVec.ofInt IntKind.u64.bits 4294967295).toNat:Int)+IntKind.u64.wrap (IntKind.u64.wrap (↑(BitVec.ofInt IntKind.u64.bits x &&& BitVec.ofInt IntKind.u64.bits 4294967295).toNat:Int) * y.fdiv (2 ^ min (Int.toNat 32) IntKind.u64.bits)))) rfl,si (e:=IntKind.u64.wrap (x.fdiv (2 ^ min (Int.toNat 32) IntKind.u64.bits) * y.fdiv (2 ^ min (Int.toNat 32) IntKind.u64.bits))) rfl,si (e:=IntKind.u64.wrap (IntKind.u64.wrap (x.fdiv (2 ^ min (Int.toNat 32) IntKind.u64.bits) * y.fdiv (2 ^ min (Int.toNat 32) IntKind.u64.bits))+(IntKind.u64.wrap (IntKind.u64.wrap (x.fdiv (2 ^ min (Int.toNat 32) IntKind.u64.bits) * IntKind.u64.wrap (↑(BitVec.ofInt IntKind.u64.bits y &&& BitVec.ofInt IntKind.u64.bits 4294967295).toNat:Int))+(IntKind.u64.wrap (IntKind.u64.wrap (↑(BitVec.ofInt IntKind.u64.bits x &&& BitVec.ofInt IntKind.u64.bits 4294967295).toNat:Int) * IntKind.u64.wrap (↑(BitVec.ofInt IntKind.u64.bits y &&& BitVec.ofInt IntKind.u64.bits 4294967295).toNat:Int))).fdiv (2 ^ min (Int.toNat 32) IntKind.u64.bits))).fdiv (2 ^ min (Int.toNat 32) IntKind.u64.bits))) rfl,sx (.i ((IntKind.u64.wrap (IntKind.u64.wrap (↑(BitVec.ofInt IntKind.u64.bits (IntKind.u64.wrap (IntKind.u64.wrap (x.fdiv ((2:Int) ^ min (Int.toNat (32:Int)) IntKind.u64.bits) * IntKind.u64.wrap (↑(BitVec.ofInt IntKind.u64.bits y &&& BitVec.ofInt IntKind.u64.bits (4294967295:Int)).toNat:Int))+(IntKind.u64.wrap (IntKind.u64.wrap (↑(BitVec.ofInt IntKind.u64.bits x &&& BitVec.ofInt IntKind.u64.bits (4294967295:Int)).toNat:Int) * IntKind.u64.wrap (↑(BitVec.ofInt IntKind.u64.bits y &&& BitVec.ofInt IntKind.u64.bits (4294967295:Int)).toNat:Int))).fdiv ((2:Int) ^ min (Int.toNat (32:Int)) IntKind.u64.bits))) &&& BitVec.ofInt IntKind.u64.bits (4294967295:Int)).toNat:Int)+IntKind.u64.wrap (IntKind.u64.wrap (↑(BitVec.ofInt IntKind.u64.bits x &&& BitVec.ofInt IntKind.u64.bits (4294967295:Int)).toNat:Int) * y.fdiv ((2:Int) ^ min (Int.toNat (32:Int)) IntKind.u64.bits)))).fdiv ((2:Int) ^ min (Int.toNat (32:Int)) IntKind.u64.bits))) (show (0:Int)<=(32:Int)/\((IntKind.u64.wrap (IntKind.u64.wrap (↑(BitVec.ofInt IntKind.u64.bits (IntKind.u64.wrap (IntKind.u64.wrap (x.fdiv ((2:Int) ^ min (Int.toNat (32:Int)) IntKind.u64.bits) * IntKind.u64.wrap (↑(BitVec.ofInt IntKind.u64.bits y &&& BitVec.ofInt IntKind.u64.bits (4294967295:Int)).toNat:Int))+(IntKind.u64.wrap (IntKind.u64.wrap (↑(BitVec.ofInt IntKind.u64.bits x &&& BitVec.ofInt IntKind.u64.bits (4294967295:Int)).toNat:Int) * IntKind.u64.wrap (↑(BitVec.ofInt IntKind.u64.bits y &&& BitVec.ofInt IntKind.u64.bits (4294967295:Int)).toNat:Int))).fdiv ((2:Int) ^ min (Int.toNat (32:Int)) IntKind.u64.bits))) &&& BitVec.ofInt IntKind.u64.bits (4294967295:Int)).toNat:Int)+IntKind.u64.wrap (IntKind.u64.wrap (↑(BitVec.ofInt IntKind.u64.bits x &&& BitVec.ofInt IntKind.u64.bits (4294967295:Int)).toNat:Int) * y.fdiv ((2:Int) ^ min (Int.toNat (32:Int)) IntKind.u64.bits)))).fdiv ((2:Int) ^ min (Int.toNat (32:Int)) IntKind.u64.bits):Int)=(IntKind.u64.wrap (IntKind.u64.wrap (↑(BitVec.ofInt IntKind.u64.bits (IntKind.u64.wrap (IntKind.u64.wrap (x.fdiv ((2:Int) ^ min (Int.toNat (32:Int)) IntKind.u64.bits) * IntKind.u64.wrap (↑(BitVec.ofInt IntKind.u64.bits y &&& BitVec.ofInt IntKind.u64.bits (4294967295:Int)).toNat:Int))+(IntKind.u64.wrap (IntKind.u64.wrap (↑(BitVec.ofInt IntKind.u64.bits x &&& BitVec.ofInt IntKind.u64.bits (4294967295:Int)).toNat:Int) * IntKind.u64.wrap (↑(BitVec.ofInt IntKind.u64.bits y &&& BitVec.ofInt IntKind.u64.bits (4294967295:Int)).toNat:Int))).fdiv ((2:Int) ^ min (Int.toNat (32:Int)) IntKind.u64.bits))) &&& BitVec.ofInt IntKind.u64.bits (4294967295:Int)).toNat:Int)+IntKind.u64.wrap (IntKind.u64.wrap (↑(BitVec.ofInt IntKind.u64.bits x &&& BitVec.ofInt IntKind.u64.bits (4294967295:Int)).toNat:Int) * y.fdiv ((2:Int) ^ min (Int.toNat (32:Int)) IntKind.u64.bits)))).fdiv ((2:Int) ^ min (Int.toNat (32:Int)) IntKind.u64.bits) from ⟨(by simp_all),rfl⟩),si (e:=IntKind.u64.wrap (IntKind.u64.wrap (IntKind.u64.wrap (x.fdiv (2 ^ min (Int.toNat 32) IntKind.u64.bits) * y.fdiv (2 ^ min (Int.toNat 32) IntKind.u64.bits))+(IntKind.u64.wrap (IntKind.u64.wrap (x.fdiv (2 ^ min (Int.toNat 32) IntKind.u64.bits) * IntKind.u64.wrap (↑(BitVec.ofInt IntKind.u64.bits y &&& BitVec.ofInt IntKind.u64.bits 4294967295).toNat:Int))+(IntKind.u64.wrap (IntKind.u64.wrap (↑(BitVec.ofInt IntKind.u64.bits x &&& BitVec.ofInt IntKind.u64.bits 4294967295).toNat:Int) * IntKind.u64.wrap (↑(BitVec.ofInt IntKind.u64.bits y &&& BitVec.ofInt IntKind.u64.bits 4294967295).toNat:Int))).fdiv (2 ^ min (Int.toNat 32) IntKind.u64.bits))).fdiv (2 ^ min (Int.toNat 32) IntKind.u64.bits))+(IntKind.u64.wrap (IntKind.u64.wrap (↑(BitVec.ofInt IntKind.u64.bits (IntKind.u64.wrap (IntKind.u64.wrap (x.fdiv (2 ^ min (Int.toNat 32) IntKind.u64.bits) * IntKind.u64.wrap (↑(BitVec.ofInt IntKind.u64.bits y &&& BitVec.ofInt IntKind.u64.bits 4294967295).toNat:Int))+(IntKind.u64.wrap (IntKind.u64.wrap (↑(BitVec.ofInt IntKind.u64.bits x &&& BitVec.ofInt IntKind.u64.bits 4294967295).toNat:Int) * IntKind.u64.wrap (↑(BitVec.ofInt IntKind.u64.bits y &&& BitVec.ofInt IntKind.u64.bits 4294967295).toNat:Int))).fdiv (2 ^ min (Int.toNat 32) IntKind.u64.bits))) &&& BitVec.ofInt IntKind.u64.bits 4294967295).toNat:Int)+IntKind.u64.wrap (IntKind.u64.wrap (↑(BitVec.ofInt IntKind.u64.bits x &&& BitVec.ofInt IntKind.u64.bits 4294967295).toNat:Int) * y.fdiv (2 ^ min (Int.toNat 32) IntKind.u64.bits)))).fdiv (2 ^ min (Int.toNat 32) IntKind.u64.bits))) rfl,si (e:=IntKind.u64.wrap (x * y)) rfl] kr⟩
theorem znc (x y:Int) (hx:U64 x) (hy:U64 y):zab E0 S.C0 [uv x,uv y] [] (.tup [uv (x * y / 18446744073709551616),uv (x * y % 18446744073709551616)]) []:=by
 obtain ⟨_,_,⟨rfl,rfl⟩,h⟩:=zBe x y hx hy
 exact h
theorem zuk (a:Int) (ha:I64 a):∃ (n:Int),n=(a.natAbs:Int)/\zab E0 S.Dn [iv a] [] (uv n) []:=by
 cases h1:decide (a < 0)
 ·exact ⟨IntKind.u64.wrap a,(by (simp only [zfu,I64,decide_eq_true_eq,decide_eq_false_iff_not] at *;omega)),wk At.Dn [sb h1,si (e:=IntKind.u64.wrap a) rfl] kr⟩
 ·exact ⟨IntKind.u64.wrap (-IntKind.u64.wrap a),(by (simp only [zfu,I64,decide_eq_true_eq,decide_eq_false_iff_not] at *;omega)),wk At.Dn [sb h1,si (e:=IntKind.u64.wrap a) rfl,si (e:=IntKind.u64.wrap (-IntKind.u64.wrap a)) rfl] kr⟩
theorem zdA (a:Int) (ha:I64 a):zab E0 S.Dn [iv a] [] (uv (a.natAbs:Int)) []:=by
 obtain ⟨_,rfl,h⟩:=zuk a ha
 exact h
theorem xorI (a:Int) (h:I64 a):IntKind.i64.wrap (((BitVec.ofInt IntKind.i64.bits (if IntKind.i64.signed=true then -1 else IntKind.i64.max) ^^^ BitVec.ofInt IntKind.i64.bits a).toNat:Nat):Int)=-1 - a:=by
 have e:BitVec.ofInt IntKind.i64.bits (if IntKind.i64.signed=true then -1 else IntKind.i64.max)=BitVec.allOnes IntKind.i64.bits:=by decide
 have hb:IntKind.i64.bits=64:=rfl
 rw [e,BitVec.allOnes_xor,BitVec.toNat_not,BitVec.toNat_ofInt,hb,IntKind.wrap_i64]
 simp only [I64] at h
 omega
theorem xorU (a:Int) (h:U64 a):IntKind.u64.wrap (((BitVec.ofInt IntKind.u64.bits (if IntKind.u64.signed=true then -1 else IntKind.u64.max) ^^^ BitVec.ofInt IntKind.u64.bits a).toNat:Nat):Int)=18446744073709551615 - a:=by
 have e:BitVec.ofInt IntKind.u64.bits (if IntKind.u64.signed=true then -1 else IntKind.u64.max)=BitVec.allOnes IntKind.u64.bits:=by decide
 have hb:IntKind.u64.bits=64:=rfl
 rw [e,BitVec.allOnes_xor,BitVec.toNat_not,BitVec.toNat_ofInt,hb,zfu]
 simp only [U64] at h
 omega
abbrev W127 (v:Int):Prop:=-170141183460469231731687303715884105728 < v/\v < 170141183460469231731687303715884105728
theorem W127.w {v:Int} (h:W127 v):W128 v:=⟨by have:=h.1;omega,h.2⟩
theorem hiW {v:Int} (hv:W127 v):I64 (v / 18446744073709551616):=by
 obtain ⟨h1,h2⟩:=hv
 exact ⟨by omega,by omega⟩
theorem loW (v:Int):U64 (v % 18446744073709551616):=⟨by omega,by omega⟩
theorem znR (v:Int) (hv:W127 v):zab E0 S.C8 [.agg [iv (IntKind.i64.wrap (((BitVec.ofInt IntKind.i64.bits (if IntKind.i64.signed=true then -1 else IntKind.i64.max) ^^^ BitVec.ofInt IntKind.i64.bits (v / 18446744073709551616)).toNat:Nat):Int)),uv (IntKind.u64.wrap (((BitVec.ofInt IntKind.u64.bits (if IntKind.u64.signed=true then -1 else IntKind.u64.max) ^^^ BitVec.ofInt IntKind.u64.bits (v % 18446744073709551616)).toNat:Nat):Int))],.agg [iv 0,uv 1]] [] (.agg [iv ((-v) / 18446744073709551616),uv ((-v) % 18446744073709551616)]) []:=by
 have g1:W128 (-1 - v):=by obtain ⟨h1,h2⟩:=hv;constructor <;> omega
 have g2:W128 (-1 - v+1):=by obtain ⟨h1,h2⟩:=hv;constructor <;> omega
 have h:=zgh (-1 - v) 1 g2 g1 Zd
 rw [xorI _ (hiW hv),xorU _ (loW v)]
 have e1:-1 - v / 18446744073709551616=(-1 - v) / 18446744073709551616:=by omega
 have e2:18446744073709551615 - v % 18446744073709551616=(-1 - v) % 18446744073709551616:=by omega
 rw [e1,e2]
 have e3:-1 - v+1=-v:=by omega
 rw [e3] at h
 exact h
theorem zsC (v:Int) (hv:W127 v):∃ (h l:Int),(h=(-v) / 18446744073709551616/\l=(-v) % 18446744073709551616)/\zab E0 S.Dc [wv v] [] (.agg [iv h,uv l]) []:=by
 exact ⟨-v / 18446744073709551616,-v % 18446744073709551616,Zj,wk At.Dc [si (e:=IntKind.i64.wrap (↑(BitVec.ofInt IntKind.i64.bits (if IntKind.i64.signed=true then -1 else IntKind.i64.max) ^^^ BitVec.ofInt IntKind.i64.bits (v / 18446744073709551616)).toNat:Int)) rfl,si (e:=IntKind.u64.wrap (↑(BitVec.ofInt IntKind.u64.bits (if IntKind.u64.signed=true then -1 else IntKind.u64.max) ^^^ BitVec.ofInt IntKind.u64.bits (v % 18446744073709551616)).toNat:Int)) rfl,sc (znR v (by first|assumption|omega|(simp;done)|(simp;omega)))] kr⟩
theorem zhQ (v:Int) (hv:W127 v):zab E0 S.Dc [wv v] [] (wv (-v)) []:=by
 obtain ⟨_,_,⟨rfl,rfl⟩,h⟩:=zsC v hv
 exact h
theorem lo_w {q:Int} (h:U64 q):AV.agg [iv 0,uv q]=wv q:=by
 have e1:q / 18446744073709551616=0:=by simp only [U64] at h;omega
 have e2:q % 18446744073709551616=q:=by simp only [U64] at h;omega
 unfold wv;rw [e1,e2]
theorem zhR (q:Int) (h:U64 q):zab E0 S.Dc [.agg [iv 0,uv q]] [] (wv (-q)) []:=by
 rw [lo_w h];exact zhQ q (by simp only [U64,W127] at *;omega)
theorem zgX (q:Int) (h:U64 q):zab E0 S.CQ [.agg [iv 0,uv q]] [] (.tup [iv (sat q).1,bv (sat q).2]) []:=by
 rw [lo_w h];exact zcg q (by simp only [U64,W128] at *;omega)
theorem zwP (a b:Int) (ha:I64 a) (hb:I64 b):∃ (n:Int) (ok:Bool),(n,ok)=sat (a+b)/\zab E0 S.DG [iv a,iv b] [] (.tup [iv n,bv ok]) []:=by
 exact ⟨(sat (a+b)).fst,(sat (a+b)).snd,Zr,wk At.DG [sc (zgB a zd8),sc (zgB b zd8),sc (zgh a b zd8 zd8 zd8),sc (zcg (a+b) zd8)] kr⟩
theorem zou (a b:Int) (ha:I64 a) (hb:I64 b):∃ (n:Int) (ok:Bool),(n,ok)=sat (a+-b)/\zab E0 S.C9 [iv a,iv b] [] (.tup [iv n,bv ok]) []:=by
 exact ⟨(sat (a+-b)).fst,(sat (a+-b)).snd,Zr,wk At.C9 [sc (zgB a zd8),sc (zgB b zd8),sc (zhQ b zd8),sc (zgh a (-b) zd8 zd8 zd8),sc (zcg (a+-b) zd8)] kr⟩
theorem nab {a:Int} (h:I64 a):0<=(a.natAbs:Int)/\(a.natAbs:Int)<=9223372036854775808:=by simp only [I64] at h;omega
theorem nabP {a b:Int} (ha:I64 a) (hb:I64 b):0<=(a.natAbs:Int) * (b.natAbs:Int)/\(a.natAbs:Int) * (b.natAbs:Int)<=85070591730234615865843651857942052864:=by
 have h1:=nab ha
 have h2:=nab hb
 refine ⟨Int.mul_nonneg h1.1 h2.1,?_⟩
 have:=Int.mul_le_mul h1.2 h2.2 h2.1 Zd
 exact this
theorem mulS {a b:Int} (h:(!decide (a < 0)==decide (b < 0))=true):-((a.natAbs:Int) * (b.natAbs:Int))=a * b:=by
 by_cases h1:a < 0 <;> by_cases h2:b < 0 <;> simp only [h1,h2,decide_true,decide_false] at h
 ·cases h
 ·have e1:(a.natAbs:Int)=-a:=by omega
  have e2:(b.natAbs:Int)=b:=by omega
  rw [e1,e2,Int.neg_mul,Int.neg_neg]
 ·have e1:(a.natAbs:Int)=a:=by omega
  have e2:(b.natAbs:Int)=-b:=by omega
  rw [e1,e2,Int.mul_neg,Int.neg_neg]
 ·cases h
theorem mulS0 {a b:Int} (h:(!decide (a < 0)==decide (b < 0))=false):(a.natAbs:Int) * (b.natAbs:Int)=a * b:=by
 by_cases h1:a < 0 <;> by_cases h2:b < 0 <;> simp only [h1,h2,decide_true,decide_false] at h
 ·have e1:(a.natAbs:Int)=-a:=by omega
  have e2:(b.natAbs:Int)=-b:=by omega
  rw [e1,e2,Int.neg_mul_neg]
 ·cases h
 ·cases h
 ·have e1:(a.natAbs:Int)=a:=by omega
  have e2:(b.natAbs:Int)=b:=by omega
  rw [e1,e2]
theorem mulQ {a b:Int} (h:(!decide (a < 0)==decide (b < 0))=true):((sat (-((a.natAbs:Int) * (b.natAbs:Int)))).fst,(sat (-((a.natAbs:Int) * (b.natAbs:Int)))).snd)=sat (a * b):=by rw [mulS h]
theorem mulQ0 {a b:Int} (h:(!decide (a < 0)==decide (b < 0))=false):((sat ((a.natAbs:Int) * (b.natAbs:Int))).fst,(sat ((a.natAbs:Int) * (b.natAbs:Int))).snd)=sat (a * b):=by rw [mulS0 h]
theorem zot (a b:Int) (ha:I64 a) (hb:I64 b) (hw:IntKind.i64.wrap ((a.natAbs:Int) * (b.natAbs:Int) / 18446744073709551616)=(a.natAbs:Int) * (b.natAbs:Int) / 18446744073709551616) (hu:U64 (a.natAbs:Int)) (hv:U64 (b.natAbs:Int)) (hp:W127 ((a.natAbs:Int) * (b.natAbs:Int))) (hn:W127 (-((a.natAbs:Int) * (b.natAbs:Int)))):∃ (n:Int) (ok:Bool),(n,ok)=sat (a * b)/\zab E0 S.CR [iv a,iv b] [] (.tup [iv n,bv ok]) []:=by
 let p_1:List St:=[sc (zdA a zkG),sc (zdA b zkG),sc (znc ((a.natAbs:Int)) ((b.natAbs:Int)) zkG zkG),si hw]
 cases h1:!decide (a < 0)==decide (b < 0)
 ·exact ⟨(sat ((a.natAbs:Int) * (b.natAbs:Int))).fst,(sat ((a.natAbs:Int) * (b.natAbs:Int))).snd,(by first|exact mulQ ‹_›|exact mulQ0 ‹_›),wk At.CR (p_1++[sb h1,sc (zcg ((a.natAbs:Int) * (b.natAbs:Int)) zkG)]) kr⟩
 ·exact ⟨(sat (-((a.natAbs:Int) * (b.natAbs:Int)))).fst,(sat (-((a.natAbs:Int) * (b.natAbs:Int)))).snd,(by first|exact mulQ ‹_›|exact mulQ0 ‹_›),wk At.CR (p_1++[sb h1,sc (zhQ ((a.natAbs:Int) * (b.natAbs:Int)) zkG),sc (zcg (-((a.natAbs:Int) * (b.natAbs:Int))) zkG)]) kr⟩
theorem tdU {a b:Int} (ha:I64 a):0<=(a.natAbs:Int).tdiv (b.natAbs:Int)/\(a.natAbs:Int).tdiv (b.natAbs:Int)<=9223372036854775808/\IntKind.u64.wrap ((a.natAbs:Int).tdiv (b.natAbs:Int))=(a.natAbs:Int).tdiv (b.natAbs:Int):=by
 have h:=nab ha
 have e:(a.natAbs:Int).tdiv (b.natAbs:Int)=((a.natAbs / b.natAbs:Nat):Int):=by
  rw [Int.tdiv_eq_ediv_of_nonneg h.1,Int.natCast_ediv]
 have h3:=Nat.div_le_self a.natAbs b.natAbs
 rw [e,zfu]
 generalize a.natAbs / b.natAbs=q at h3
 generalize a.natAbs=p at h h3
 omega
theorem tmU {a b:Int} (ha:I64 a):0<=(a.natAbs:Int).tmod (b.natAbs:Int)/\(a.natAbs:Int).tmod (b.natAbs:Int)<=9223372036854775808:=by
 have h:=nab ha
 have e:(a.natAbs:Int).tmod (b.natAbs:Int)=((a.natAbs % b.natAbs:Nat):Int):=by
  rw [Int.tmod_eq_emod_of_nonneg h.1,Int.natCast_emod]
 have h3:=Nat.mod_le a.natAbs b.natAbs
 rw [e]
 generalize a.natAbs % b.natAbs=q at h3
 generalize a.natAbs=p at h h3
 omega
theorem u_div {a b:Int} (ha:I64 a) (h:(b==0)=false):U64 (IntKind.u64.wrap ((a.natAbs:Int).tdiv (b.natAbs:Int))):=by
 have:=tdU (b:=b) ha;rw [this.2.2];unfold U64;omega
theorem u_divn {a b:Int} (ha:I64 a) (h:(b==0)=false):W127 (-IntKind.u64.wrap ((a.natAbs:Int).tdiv (b.natAbs:Int))):=by
 have:=tdU (b:=b) ha;rw [this.2.2];unfold W127;omega
theorem u_mod {a b:Int} (ha:I64 a) (h:(b==0)=false):U64 ((a.natAbs:Int).tmod (b.natAbs:Int)):=by
 have:=tmU (b:=b) ha;unfold U64;omega
theorem u_modn {a b:Int} (ha:I64 a) (h:(b==0)=false):W127 (-(a.natAbs:Int).tmod (b.natAbs:Int)):=by
 have:=tmU (b:=b) ha;unfold W127;omega
theorem div_q0 {a b:Int} (h:(b==0)=true):((0:Int),false)=if b=0 then (0,false) else sat (a.tdiv b):=by rw [if_pos (eq_of_beq h)]
theorem mod_q0 {a b:Int} (h:(b==0)=true):((0:Int),false)=if b=0 then (0,false) else sat (a.tmod b):=by rw [if_pos (eq_of_beq h)]
theorem sgn_eq {a b:Int} (h:(!decide (a < 0)==decide (b < 0))=false):(a < 0/\b < 0)\/(¬a < 0/\¬b < 0):=by
 by_cases h1:a < 0 <;> by_cases h2:b < 0 <;> simp [h1,h2] at h ⊢
theorem sgn_ne {a b:Int} (h:(!decide (a < 0)==decide (b < 0))=true):(a < 0/\¬b < 0)\/(¬a < 0/\b < 0):=by
 by_cases h1:a < 0 <;> by_cases h2:b < 0 <;> simp [h1,h2] at h ⊢
theorem div_q1 {a b:Int} (ha:I64 a) (hb:I64 b) (h:(b==0)=false) (h2:(!decide (a < 0)==decide (b < 0))=false):((sat (IntKind.u64.wrap ((a.natAbs:Int).tdiv (b.natAbs:Int)))).fst,(sat (IntKind.u64.wrap ((a.natAbs:Int).tdiv (b.natAbs:Int)))).snd)=if b=0 then (0,false) else sat (a.tdiv b):=by
 rw [if_neg (by simpa using h),(tdU ha).2.2]
 rcases sgn_eq h2 with ⟨h3,h4⟩|⟨h3,h4⟩
 ·have e1:(a.natAbs:Int)=-a:=by omega
  have e2:(b.natAbs:Int)=-b:=by omega
  rw [e1,e2,Int.neg_tdiv_neg]
 ·have e1:(a.natAbs:Int)=a:=by omega
  have e2:(b.natAbs:Int)=b:=by omega
  rw [e1,e2]
theorem div_q2 {a b:Int} (ha:I64 a) (hb:I64 b) (h:(b==0)=false) (h2:(!decide (a < 0)==decide (b < 0))=true):((sat (-IntKind.u64.wrap ((a.natAbs:Int).tdiv (b.natAbs:Int)))).fst,(sat (-IntKind.u64.wrap ((a.natAbs:Int).tdiv (b.natAbs:Int)))).snd)=if b=0 then (0,false) else sat (a.tdiv b):=by
 rw [if_neg (by simpa using h),(tdU ha).2.2]
 rcases sgn_ne h2 with ⟨h3,h4⟩|⟨h3,h4⟩
 ·have e1:(a.natAbs:Int)=-a:=by omega
  have e2:(b.natAbs:Int)=b:=by omega
  rw [e1,e2,Int.neg_tdiv,Int.neg_neg]
 ·have e1:(a.natAbs:Int)=a:=by omega
  have e2:(b.natAbs:Int)=-b:=by omega
  rw [e1,e2,Int.tdiv_neg,Int.neg_neg]
theorem zt8 (a b:Int):a.tmod (b.natAbs:Int)=a.tmod b:=by
 rcases Int.natAbs_eq b with h|h
 ·rw [← h]
 ·rw [h,Int.tmod_neg];congr 1;omega
theorem mod_q1 {a b:Int} (h:(b==0)=false) (h2:decide (a < 0)=false):((sat ((a.natAbs:Int).tmod (b.natAbs:Int))).fst,(sat ((a.natAbs:Int).tmod (b.natAbs:Int))).snd)=if b=0 then (0,false) else sat (a.tmod b):=by
 rw [if_neg (by simpa using h),zt8]
 have e1:(a.natAbs:Int)=a:=by simp at h2;omega
 rw [e1]
theorem mod_q2 {a b:Int} (h:(b==0)=false) (h2:decide (a < 0)=true):((sat (-(a.natAbs:Int).tmod (b.natAbs:Int))).fst,(sat (-(a.natAbs:Int).tmod (b.natAbs:Int))).snd)=if b=0 then (0,false) else sat (a.tmod b):=by
 rw [if_neg (by simpa using h),zt8]
 have e1:(a.natAbs:Int)=-a:=by simp at h2;omega
 rw [e1,Int.neg_tmod,Int.neg_neg]
theorem zra (a b:Int) (ha:I64 a) (hb:I64 b) (hu:U64 (a.natAbs:Int)) (hv:U64 (b.natAbs:Int)):∃ (n:Int) (ok:Bool),((n,ok)=if b=0 then (0,false) else sat (a.tdiv b))/\zab E0 S.CO [iv a,iv b] [] (.tup [iv n,bv ok]) []:=by
 cases h1:b==0
 ·let p_1:List St:=[sb h1,sc (zdA a zpe),sc (zdA b zpe),sx (.i (IntKind.u64.wrap ((a.natAbs:Int).tdiv (b.natAbs:Int)))) (show (b.natAbs:Int)≠(0:Int)/\(IntKind.u64.wrap ((a.natAbs:Int).tdiv (b.natAbs:Int)):Int)=IntKind.u64.wrap ((a.natAbs:Int).tdiv (b.natAbs:Int)) from ⟨(by simp_all),rfl⟩)]
  cases h2:!decide (a < 0)==decide (b < 0)
  ·exact ⟨(sat (IntKind.u64.wrap ((a.natAbs:Int).tdiv (b.natAbs:Int)))).fst,(sat (IntKind.u64.wrap ((a.natAbs:Int).tdiv (b.natAbs:Int)))).snd,zxL,wk At.CO (p_1++[sb h2,sc (zgX (IntKind.u64.wrap ((a.natAbs:Int).tdiv (b.natAbs:Int))) zpe)]) kr⟩
  ·exact ⟨(sat (-IntKind.u64.wrap ((a.natAbs:Int).tdiv (b.natAbs:Int)))).fst,(sat (-IntKind.u64.wrap ((a.natAbs:Int).tdiv (b.natAbs:Int)))).snd,zxL,wk At.CO (p_1++[sb h2,sc (zhR (IntKind.u64.wrap ((a.natAbs:Int).tdiv (b.natAbs:Int))) zpe),sc (zcg (-IntKind.u64.wrap ((a.natAbs:Int).tdiv (b.natAbs:Int))) zpe)]) kr⟩
 ·exact ⟨0,false,zxL,wk At.CO [sb h1] kr⟩
theorem zrb (a b:Int) (ha:I64 a) (hb:I64 b) (hu:U64 (a.natAbs:Int)) (hv:U64 (b.natAbs:Int)):∃ (n:Int) (ok:Bool),((n,ok)=if b=0 then (0,false) else sat (a.tmod b))/\zab E0 S.CP [iv a,iv b] [] (.tup [iv n,bv ok]) []:=by
 cases h1:b==0
 ·let p_1:List St:=[sb h1,sc (zdA a zpf),sc (zdA b zpf),sx (.i ((a.natAbs:Int).tmod (b.natAbs:Int))) (show (b.natAbs:Int)≠(0:Int)/\((a.natAbs:Int).tmod (b.natAbs:Int):Int)=(a.natAbs:Int).tmod (b.natAbs:Int) from ⟨(by simp_all),rfl⟩)]
  cases h2:decide (a < 0)
  ·exact ⟨(sat ((a.natAbs:Int).tmod (b.natAbs:Int))).fst,(sat ((a.natAbs:Int).tmod (b.natAbs:Int))).snd,zxM,wk At.CP (p_1++[sb h2,sc (zgX ((a.natAbs:Int).tmod (b.natAbs:Int)) zpf)]) kr⟩
  ·exact ⟨(sat (-(a.natAbs:Int).tmod (b.natAbs:Int))).fst,(sat (-(a.natAbs:Int).tmod (b.natAbs:Int))).snd,zxM,wk At.CP (p_1++[sb h2,sc (zhR ((a.natAbs:Int).tmod (b.natAbs:Int)) zpf),sc (zcg (-(a.natAbs:Int).tmod (b.natAbs:Int)) zpf)]) kr⟩
 ·exact ⟨0,false,zxM,wk At.CP [sb h1] kr⟩
theorem zb2 {p:Prop} (h:p:=by (rw [zzF ho];unfold arS;simp only [*,cond_true,cond_false,Bool.true_and,Bool.false_and,Bool.and_false,Bool.and_true];first|done|rfl)):p:=h
theorem zkH {p:Prop} (h:p:=by first|(unfold land zeC;simp only [*,cond_true,cond_false];done)|(unfold land zeC;have q:=‹(bif _ then true else _)=_›;simp only [*,cond_true,cond_false] at q;simp only [*,cond_true,cond_false];done)):p:=h
theorem zkI {p:Prop} (h:p:=by first|(unfold lor;simp only [*,cond_true,cond_false];done)|(rw [orL hg hgb ‹_› ‹_›];simp only [*,cond_true,cond_false,Bool.or_true,Bool.true_or,Bool.or_false];first|done|rfl)):p:=h
theorem zdm {p:Prop} (h:p:=by first|assumption|omega|(simp;done)|(simp;omega)):p:=h
theorem zhh {p:Prop} (h:p:=by (unfold vCmp zoB;simp only [*,← zqO,cond_true,cond_false])):p:=h
theorem cb_eq:∀ a b:List UInt8,Lib.compareBytes a b=if Op.bytesLess a b then -1 else if !(Op.bytesLess a b || a==b) then 1 else 0
 | [],[]=>by simp [Lib.compareBytes,Op.bytesLess]
 | [],_::_=>by simp [Lib.compareBytes,Op.bytesLess]
 | _::_,[]=>by simp [Lib.compareBytes,Op.bytesLess]
 | x::a,y::b=>by
  have ih:=cb_eq a b
  unfold Lib.compareBytes Op.bytesLess
  by_cases h1:x < y
  ·simp [h1]
  ·by_cases h2:y < x
   ·have h3:x≠y:=fun e=>by subst e;exact h1 h2
    simp [h1,h2,h3]
   ·have h3:x=y:=UInt8.le_antisymm (UInt8.not_lt.1 h2) (UInt8.not_lt.1 h1)
    subst h3
    simp [ih]
theorem zqq (a b:Str):cmpB a b=cmpS a b:=by
 unfold cmpB cmpS ltS eqS
 rw [← zc8,← zc8];exact cb_eq _ _
theorem zqO (a b:V):rCmp a b=cmpV a b:=by
 rw [zjT]
 rw [zqq]
 show _=if cmpI a.kind b.kind=0 then (if cmpI a.int b.int=0 then (if cmpS a.text b.text=0 then 0 else cmpS a.text b.text) else cmpI a.int b.int) else cmpI a.kind b.kind
 split
 ·split
  ·split
   ·assumption
   ·rfl
  ·rfl
 ·rfl
theorem zl5 {v:V} (h:zaW v=true):zbi v=(v.kind==2 || v.kind==0):=by
 unfold zbi;rw [h];cases v.kind==2 <;> simp
theorem zyP {t:Str} (h:(ByteArray.toList t==Zs0.toList)=true):t=⟨#[]⟩:=by
 have h2:=eq_of_beq h
 rw [zc8,zc8] at h2
 exact ByteArray.ext (Array.toList_inj.1 h2)
theorem lv3 {v:V} (h:zaW v=true) (hl:zbi v=true):v=⟨0,0,⟨#[]⟩⟩\/v=⟨2,0,⟨#[]⟩⟩\/v=⟨2,1,⟨#[]⟩⟩:=by
 obtain ⟨k,n,t⟩:=v
 rw [zl5 h] at hl
 have hk:k=2\/k=0:=by simpa using hl
 unfold zaW at h
 rcases hk with rfl|rfl
 ·have h':(bif n==0 then ByteArray.toList t==Zs0.toList else bif n==1 then ByteArray.toList t==Zs0.toList else false)=true:=h
  cases h0:n==0
  ·cases h1:n==1
   ·rw [h0,h1] at h';cases h'
   ·rw [h0,h1] at h'
    have:=eq_of_beq h1
    subst this
    exact .inr (.inr (by rw [zyP h']))
  ·rw [h0] at h'
   have:=eq_of_beq h0
   subst this
   exact .inr (.inl (by rw [zyP h']))
 ·have h':((0:Int)==0&&(n==0&&(t==ByteArray.mk #[]&&true)))=true:=h
  simp only [Bool.and_eq_true,beq_self_eq_true,true_and,and_true] at h'
  have:=eq_of_beq h'.1
  subst this
  exact .inl (by rw [zrJ h'.2])
theorem lor_eq {a b:V} (ha:zaW a=true) (hb:zaW b=true) (la:zbi a=true) (lb:zbi b=true):lor a b=bif zoL a || zoL b then (⟨2,1,⟨#[]⟩⟩,true) else bif a.kind==0 || b.kind==0 then (⟨0,0,⟨#[]⟩⟩,true) else (⟨2,0,⟨#[]⟩⟩,true):=by
 rcases lv3 ha la with rfl|rfl|rfl <;> rcases lv3 hb lb with rfl|rfl|rfl <;> kernel_rfl
theorem zsB (v:V) (hg:zaW v=true) (hv:zab E0 S.AS [v.av] [] (bv true) []):∃ (r:Bool),r=zbi v/\zab E0 S.Da [v.av] [] (bv r) []:=by
 cases h1:v.kind==2
 ·exact ⟨v.kind==(0:Int),(by (rw [zl5 hg];simp only [*,Bool.true_or,Bool.false_or])),wk At.Da [sc hv,sg Zt,sg h1] kr⟩
 ·exact ⟨true,(by (rw [zl5 hg];simp only [*,Bool.true_or,Bool.false_or])),wk At.Da [sc hv,sg Zt,sb h1] kr⟩
theorem zc5 (v:V) (hg:v.Good):zab E0 S.Da [v.av] [] (bv (zbi v)) []:=by
 obtain ⟨_,rfl,h⟩:=zsB v hg.valid (zfc v hg.valid)
 exact h
theorem zwO (a:V) (hg:a.Good):∃ (r:V) (ok:Bool),(r,ok)=lnot a/\zab E0 S.Df [a.av] [] (.tup [r.av,bv ok]) []:=by
 let p_1:List St:=[sc (zc5 a zdm)]
 cases h1:!zbi a
 ·cases h2:a.kind==0
  ·exact ⟨V.mk (2:Int) (if (a.int==(0:Int))=true then (1:Int) else (0:Int)) Zs0,true,(by (unfold lnot;simp only [*,cond_true,cond_false])),wk At.Df (p_1++[sb h1,sb h2,sc (zaR (a.int==0))]) kr⟩
  ·exact ⟨a,true,(by (unfold lnot;simp only [*,cond_true,cond_false])),wk At.Df (p_1++[sb h1,sb h2]) kr⟩
 ·exact ⟨V.mk 0 0 Zs0,false,(by (unfold lnot;simp only [*,cond_true,cond_false])),wk At.Df (p_1++[sb h1]) kr⟩
def rIsT (a:V):Bool :=
 a.kind==(2:Int)&&((a.int==if true=true then (1:Int) else (0:Int))&&(a.text==ByteArray.mk #[]&&true))
theorem zeB (a:V) :zab E0 S.DF [a.av] [] (bv (rIsT a)) []:=by
 exact wk At.DF [sd [(1,[sc (zaR true)]),(2,[sq za3])]] kr
theorem zxq (a:V) (hg:a.Good):zab E0 S.Df [a.av] [] (.tup [(lnot a).1.av,bv (lnot a).2]) []:=by
 obtain ⟨r,ok,e,h⟩:=zwO a hg
 rw [← e];exact h
theorem orL {a b:V} (hg:a.Good) (hgb:b.Good) (h1:(!zbi a)=false) (h2:(!zbi b)=false):lor a b=bif rIsT a || rIsT b then (⟨2,1,⟨#[]⟩⟩,true) else bif a.kind==0 || b.kind==0 then (⟨0,0,⟨#[]⟩⟩,true) else (⟨2,0,⟨#[]⟩⟩,true) :=
 lor_eq hg.valid hgb.valid (by simpa using h1) (by simpa using h2)
theorem zwN (a b:V) (hg:a.Good) (hgb:b.Good):∃ (r:V) (ok:Bool),(r,ok)=land a b/\zab E0 S.Cv [a.av,b.av] [] (.tup [r.av,bv ok]) []:=by
 let p_1:List St:=[sc (zc5 a zdm)]
 cases h1:!zbi a
 ·let p_2:List St:=p_1++[sg h1,sc (zc5 b zdm)]
  cases h2:!zbi b
  ·cases h3:a.kind==2&&((a.int==if false=true then 1 else 0)&&(a.text==ByteArray.mk #[]&&true))
   ·let p_3:List St:=p_2++[sb h2,sd [(1,[sc (zaR false)]),(2,[sq za3]),(4,[sg h3]),(5,[so h3 (sc (zaR false))]),(6,[so h3 (sq za3)])]]
    cases h4:bif a.kind==2&&((a.int==if false=true then 1 else 0)&&(a.text==ByteArray.mk #[]&&true)) then true else b.kind==2&&((b.int==if false=true then 1 else 0)&&(b.text==ByteArray.mk #[]&&true))
    ·cases h5:a.kind==0
     ·cases h6:b.kind==0
      ·exact ⟨V.mk 2 (if true=true then 1 else 0) Zs0,true,zkH,wk At.Cv (p_3++[sb h4,sg h5,sb h6,sc (zaR true)]) kr⟩
      ·exact ⟨V.mk 0 0 Zs0,true,zkH,wk At.Cv (p_3++[sb h4,sg h5,sb h6]) kr⟩
     ·exact ⟨V.mk 0 0 Zs0,true,zkH,wk At.Cv (p_3++[sb h4,sb h5]) kr⟩
    ·exact ⟨V.mk 2 (if false=true then 1 else 0) Zs0,true,zkH,wk At.Cv (p_3++[sb h4,sc (zaR false)]) kr⟩
   ·exact ⟨V.mk 2 (if false=true then 1 else 0) Zs0,true,zkH,wk At.Cv (p_2++[sb h2,sd [(1,[sc (zaR false)]),(2,[sq za3]),(4,[sb h3]),(5,[sb h3]),(6,[sb h3]),(7,[sb h3])],sc (zaR false)]) kr⟩
  ·exact ⟨V.mk 0 0 Zs0,false,zkH,wk At.Cv (p_2++[sb h2]) kr⟩
 ·exact ⟨V.mk 0 0 Zs0,false,zkH,wk At.Cv (p_1++[sb h1]) kr⟩
theorem zyt (a b:V) (hg:a.Good) (hgb:b.Good):∃ (r:V) (ok:Bool),(r,ok)=lor a b/\zab E0 S.CI [a.av,b.av] [] (.tup [r.av,bv ok]) []:=by
 let p_1:List St:=[sc (zc5 a zdm)]
 cases h1:!zbi a
 ·let p_2:List St:=p_1++[sg h1,sc (zc5 b zdm)]
  cases h2:!zbi b
  ·cases h3:rIsT a
   ·let p_3:List St:=p_2++[sb h2,sc (zeB a),sg h3,sc (zeB b)]
    cases h4:rIsT b
    ·cases h5:a.kind==0
     ·cases h6:b.kind==0
      ·exact ⟨V.mk 2 (if false=true then 1 else 0) Zs0,true,zkI,wk At.CI (p_3++[sb h4,sg h5,sb h6,sc (zaR false)]) kr⟩
      ·exact ⟨V.mk 0 0 Zs0,true,zkI,wk At.CI (p_3++[sb h4,sg h5,sb h6]) kr⟩
     ·exact ⟨V.mk 0 0 Zs0,true,zkI,wk At.CI (p_3++[sb h4,sb h5]) kr⟩
    ·exact ⟨V.mk 2 (if true=true then 1 else 0) Zs0,true,zkI,wk At.CI (p_3++[sb h4,sc (zaR true)]) kr⟩
   ·exact ⟨V.mk 2 (if true=true then 1 else 0) Zs0,true,zkI,wk At.CI (p_2++[sb h2,sc (zeB a),sb h3,sc (zaR true)]) kr⟩
  ·exact ⟨V.mk 0 0 Zs0,false,zkI,wk At.CI (p_2++[sb h2]) kr⟩
 ·exact ⟨V.mk 0 0 Zs0,false,zkI,wk At.CI (p_1++[sb h1]) kr⟩
theorem zoO (a b:V) (hg:a.Good) (hgb:b.Good):zab E0 S.Cv [a.av,b.av] [] (.tup [(land a b).1.av,bv (land a b).2]) []:=by
 obtain ⟨r,ok,e,h⟩:=zwN a b hg hgb
 rw [← e];exact h
theorem zy1 (a b:V) (hg:a.Good) (hgb:b.Good):zab E0 S.CI [a.av,b.av] [] (.tup [(lor a b).1.av,bv (lor a b).2]) []:=by
 obtain ⟨r,ok,e,h⟩:=zyt a b hg hgb
 rw [← e];exact h
theorem zxr (a b:Int) (ha:I64 a) (hb:I64 b):zab E0 S.DG [iv a,iv b] [] (.tup [iv (aAdd a b).1,bv (aAdd a b).2]) []:=by
 obtain ⟨n,ok,e,h⟩:=zwP a b ha hb
 rw [zA0 ha hb,← e];exact h
theorem zoQ (a b:Int) (ha:I64 a) (hb:I64 b):zab E0 S.C9 [iv a,iv b] [] (.tup [iv (aSub a b).1,bv (aSub a b).2]) []:=by
 obtain ⟨n,ok,e,h⟩:=zou a b ha hb
 rw [zA4 ha hb,Int.sub_eq_add_neg,← e];exact h
theorem zoP (a b:Int) (ha:I64 a) (hb:I64 b):zab E0 S.CR [iv a,iv b] [] (.tup [iv (aMul a b).1,bv (aMul a b).2]) []:=by
 have h1:=nab ha
 have h2:=nab hb
 have hp:=nabP ha hb
 obtain ⟨n,ok,e,h⟩:=zot a b ha hb (by rw [IntKind.wrap_i64];generalize (a.natAbs:Int) * (b.natAbs:Int)=p at hp ⊢;omega) ⟨h1.1,by omega⟩ ⟨h2.1,by omega⟩ ⟨by omega,by omega⟩ ⟨by omega,by omega⟩
 rw [zA3 ha hb,← e];exact h
theorem zrq (a b:Int) (ha:I64 a) (hb:I64 b):zab E0 S.CO [iv a,iv b] [] (.tup [iv (aDiv a b).1,bv (aDiv a b).2]) []:=by
 have h1:=nab ha
 have h2:=nab hb
 obtain ⟨n,ok,e,h⟩:=zra a b ha hb ⟨h1.1,by omega⟩ ⟨h2.1,by omega⟩
 have e2:aDiv a b=if b=0 then (0,false) else sat (a.tdiv b):=by
  split
  ·rename_i hz;subst hz;rfl
  ·exact zA1 ha hb ‹_›
 rw [e2,← e];exact h
theorem zrr (a b:Int) (ha:I64 a) (hb:I64 b):zab E0 S.CP [iv a,iv b] [] (.tup [iv (aMod a b).1,bv (aMod a b).2]) []:=by
 have h1:=nab ha
 have h2:=nab hb
 obtain ⟨n,ok,e,h⟩:=zrb a b ha hb ⟨h1.1,by omega⟩ ⟨h2.1,by omega⟩
 have e2:aMod a b=if b=0 then (0,false) else sat (a.tmod b):=by
  split
  ·rename_i hz;subst hz;rfl
  ·exact zA2 ha hb ‹_›
 rw [e2,← e];exact h
theorem zor (op:Int) (a b:V) (hg:a.Good) (hgb:b.Good) (ho:3<=op/\op<=8):∃ (r:V) (e:Int),(r,e)=vCmp op a b/\zab E0 S.Ba [iv op,a.av,b.av] [] (.tup [r.av,iv e]) []:=by
 cases h1:a.kind==0
 ·cases h2:b.kind==0
  ·cases h3:a.kind != b.kind
   ·let p_1:List St:=[sg h1,sb h2,sb h3,sc (zf1 a b)]
    cases h4:op==3
    ·cases h5:op==4
     ·cases h6:op==5
      ·cases h7:op==6
       ·cases h8:op==7
        ·exact ⟨V.mk (2:Int) (if decide ((0:Int)<=rCmp a b)=true then (1:Int) else (0:Int)) Zs0,0,zhh,wk At.Ba (p_1++[sb h4,sb h5,sb h6,sb h7,sb h8,sc (zaR (decide (0<=rCmp a b)))]) kr⟩
        ·exact ⟨V.mk (2:Int) (if decide ((0:Int) < rCmp a b)=true then (1:Int) else (0:Int)) Zs0,0,zhh,wk At.Ba (p_1++[sb h4,sb h5,sb h6,sb h7,sb h8,sc (zaR (decide (0 < rCmp a b)))]) kr⟩
       ·exact ⟨V.mk (2:Int) (if decide (rCmp a b<=(0:Int))=true then (1:Int) else (0:Int)) Zs0,0,zhh,wk At.Ba (p_1++[sb h4,sb h5,sb h6,sb h7,sc (zaR (decide (rCmp a b<=0)))]) kr⟩
      ·exact ⟨V.mk (2:Int) (if decide (rCmp a b < (0:Int))=true then (1:Int) else (0:Int)) Zs0,0,zhh,wk At.Ba (p_1++[sb h4,sb h5,sb h6,sc (zaR (decide (rCmp a b < 0)))]) kr⟩
     ·exact ⟨V.mk (2:Int) (if (rCmp a b != (0:Int))=true then (1:Int) else (0:Int)) Zs0,0,zhh,wk At.Ba (p_1++[sb h4,sb h5,sc (zaR (rCmp a b != 0))]) kr⟩
    ·exact ⟨V.mk (2:Int) (if (rCmp a b==(0:Int))=true then (1:Int) else (0:Int)) Zs0,0,zhh,wk At.Ba (p_1++[sb h4,sc (zaR (rCmp a b==0))]) kr⟩
   ·exact ⟨V.mk 0 0 Zs0,5,zhh,wk At.Ba [sg h1,sb h2,sb h3] kr⟩
  ·exact ⟨V.mk 0 0 Zs0,0,zhh,wk At.Ba [sg h1,sb h2] kr⟩
 ·exact ⟨V.mk 0 0 Zs0,0,zhh,wk At.Ba [sb h1] kr⟩
def arS (op a b:Int):Int × Bool:=bif op==9 then aAdd a b else bif op==10 then aSub a b else bif op==11 then aMul a b else bif op==12 then aDiv a b else aMod a b
theorem zzF {op:Int} {a b:V} (ho:9<=op/\op<=13):zck op a b=bif a.kind==0 then (⟨0,0,⟨#[]⟩⟩,0) else bif b.kind==0 then (⟨0,0,⟨#[]⟩⟩,0) else bif a.kind != 1 then (⟨0,0,⟨#[]⟩⟩,5) else bif b.kind != 1 then (⟨0,0,⟨#[]⟩⟩,5) else bif (arS op a.int b.int).2 then (⟨1,(arS op a.int b.int).1,⟨#[]⟩⟩,0) else bif b.int==0&&decide (12<=op) then (⟨0,0,⟨#[]⟩⟩,7) else (⟨0,0,⟨#[]⟩⟩,6):=by
 have h:op=9\/op=10\/op=11\/op=12\/op=13:=by omega
 unfold zck
 cases a.kind==0
 ·cases b.kind==0
  ·cases a.kind != 1
   ·cases b.kind != 1
    ·simp only [cond_false]
     rcases h with rfl|rfl|rfl|rfl|rfl
     ·show (bif !(aAdd a.int b.int).2 then _ else _)=bif (aAdd a.int b.int).2 then _ else bif b.int==0&&false then _ else _
      cases (aAdd a.int b.int).2 <;> cases b.int==0 <;> rfl
     ·show (bif !(aSub a.int b.int).2 then _ else _)=bif (aSub a.int b.int).2 then _ else bif b.int==0&&false then _ else _
      cases (aSub a.int b.int).2 <;> cases b.int==0 <;> rfl
     ·show (bif !(aMul a.int b.int).2 then _ else _)=bif (aMul a.int b.int).2 then _ else bif b.int==0&&false then _ else _
      cases (aMul a.int b.int).2 <;> cases b.int==0 <;> rfl
     ·show (bif b.int==0 then _ else bif !(aDiv a.int b.int).2 then _ else _)=bif (aDiv a.int b.int).2 then _ else bif b.int==0&&true then _ else _
      cases h0:b.int==0
      ·cases (aDiv a.int b.int).2 <;> rfl
      ·rw [show aDiv a.int b.int=(0,false) by unfold aDiv;rw [h0];rfl];rfl
     ·show (bif b.int==0 then _ else bif !(aMod a.int b.int).2 then _ else _)=bif (aMod a.int b.int).2 then _ else bif b.int==0&&true then _ else _
      cases h0:b.int==0
      ·cases (aMod a.int b.int).2 <;> rfl
      ·rw [show aMod a.int b.int=(0,false) by unfold aMod;rw [h0];rfl];rfl
    ·rfl
   ·rfl
  ·rfl
 ·rfl
theorem zpR (op:Int) (a b:V) (ha:a.Good) (hb:b.Good) (ho:9<=op/\op<=13) (ia:I64 a.int) (ib:I64 b.int):∃ (r:V) (e:Int),(r,e)=zck op a b/\zab E0 S.Ao [iv op,a.av,b.av] [] (.tup [r.av,iv e]) []:=by
 cases h1:a.kind==0
 ·cases h2:b.kind==0
  ·cases h3:a.kind != 1
   ·cases h4:b.kind != 1
    ·cases h5:op==9
     ·cases h6:op==10
      ·let p_1:List St:=[sg h1,sb h2,sg h3,sb h4,sb h5,sb h6]
       cases h7:op==11
       ·cases h8:op==12
        ·let p_2:List St:=p_1++[sb h7,sb h8,sc (zrr a.int b.int zdm zdm)]
         cases h9:(aMod a.int b.int).snd
         ·cases h10:b.int==0
          ·exact ⟨V.mk 0 0 Zs0,6,zb2,wk At.Ao (p_2++[sb h9,sb h10]) kr⟩
          ·cases h11:decide (12<=op)
           ·exact ⟨V.mk 0 0 Zs0,6,zb2,wk At.Ao (p_2++[sb h9,sg h10,sb h11]) kr⟩
           ·exact ⟨V.mk 0 0 Zs0,7,zb2,wk At.Ao (p_2++[sb h9,sg h10,sb h11]) kr⟩
         ·exact ⟨zbZ (aMod a.int b.int).fst,0,zb2,wk At.Ao (p_2++[sb h9,sc (zbT ((aMod a.int b.int).fst))]) kr⟩
        ·let p_3:List St:=p_1++[sb h7,sb h8,sc (zrq a.int b.int zdm zdm)]
         cases h12:(aDiv a.int b.int).snd
         ·cases h13:b.int==0
          ·exact ⟨V.mk 0 0 Zs0,6,zb2,wk At.Ao (p_3++[sb h12,sb h13]) kr⟩
          ·cases h14:decide (12<=op)
           ·exact ⟨V.mk 0 0 Zs0,6,zb2,wk At.Ao (p_3++[sb h12,sg h13,sb h14]) kr⟩
           ·exact ⟨V.mk 0 0 Zs0,7,zb2,wk At.Ao (p_3++[sb h12,sg h13,sb h14]) kr⟩
         ·exact ⟨zbZ (aDiv a.int b.int).fst,0,zb2,wk At.Ao (p_3++[sb h12,sc (zbT ((aDiv a.int b.int).fst))]) kr⟩
       ·let p_4:List St:=p_1++[sb h7,sc (zoP a.int b.int zdm zdm)]
        cases h15:(aMul a.int b.int).snd
        ·cases h16:b.int==0
         ·exact ⟨V.mk 0 0 Zs0,6,zb2,wk At.Ao (p_4++[sb h15,sb h16]) kr⟩
         ·cases h17:decide (12<=op)
          ·exact ⟨V.mk 0 0 Zs0,6,zb2,wk At.Ao (p_4++[sb h15,sg h16,sb h17]) kr⟩
          ·exact ⟨V.mk 0 0 Zs0,7,zb2,wk At.Ao (p_4++[sb h15,sg h16,sb h17]) kr⟩
        ·exact ⟨zbZ (aMul a.int b.int).fst,0,zb2,wk At.Ao (p_4++[sb h15,sc (zbT ((aMul a.int b.int).fst))]) kr⟩
      ·let p_5:List St:=[sg h1,sb h2,sg h3,sb h4,sb h5,sb h6,sc (zoQ a.int b.int zdm zdm)]
       cases h18:(aSub a.int b.int).snd
       ·cases h19:b.int==0
        ·exact ⟨V.mk 0 0 Zs0,6,zb2,wk At.Ao (p_5++[sb h18,sb h19]) kr⟩
        ·cases h20:decide (12<=op)
         ·exact ⟨V.mk 0 0 Zs0,6,zb2,wk At.Ao (p_5++[sb h18,sg h19,sb h20]) kr⟩
         ·exact ⟨V.mk 0 0 Zs0,7,zb2,wk At.Ao (p_5++[sb h18,sg h19,sb h20]) kr⟩
       ·exact ⟨zbZ (aSub a.int b.int).fst,0,zb2,wk At.Ao (p_5++[sb h18,sc (zbT ((aSub a.int b.int).fst))]) kr⟩
     ·let p_6:List St:=[sg h1,sb h2,sg h3,sb h4,sb h5,sc (zxr a.int b.int zdm zdm)]
      cases h21:(aAdd a.int b.int).snd
      ·cases h22:b.int==0
       ·exact ⟨V.mk 0 0 Zs0,6,zb2,wk At.Ao (p_6++[sb h21,sb h22]) kr⟩
       ·cases h23:decide (12<=op)
        ·exact ⟨V.mk 0 0 Zs0,6,zb2,wk At.Ao (p_6++[sb h21,sg h22,sb h23]) kr⟩
        ·exact ⟨V.mk 0 0 Zs0,7,zb2,wk At.Ao (p_6++[sb h21,sg h22,sb h23]) kr⟩
      ·exact ⟨zbZ (aAdd a.int b.int).fst,0,zb2,wk At.Ao (p_6++[sb h21,sc (zbT ((aAdd a.int b.int).fst))]) kr⟩
    ·exact ⟨V.mk 0 0 Zs0,5,zb2,wk At.Ao [sg h1,sb h2,sg h3,sb h4] kr⟩
   ·exact ⟨V.mk 0 0 Zs0,5,zb2,wk At.Ao [sg h1,sb h2,sb h3] kr⟩
  ·exact ⟨V.mk 0 0 Zs0,0,zb2,wk At.Ao [sg h1,sb h2] kr⟩
 ·exact ⟨V.mk 0 0 Zs0,0,zb2,wk At.Ao [sb h1] kr⟩
def r15t (v:V) (ok:Bool):V × Int :=
 bif !ok then
  (V.mk 0 0 Zs0,5)
 else
  (v,0)
theorem zeA (v:V) (ok:Bool) :zab E0 S.Ds [v.av,bv ok] [] (.tup [(r15t v ok).1.av,iv (r15t v ok).2]) []:=by
 unfold r15t
 cases h1:!ok
 ·exact wk At.Ds [sb h1] kr
 ·exact wk At.Ds [sb h1] kr
end Go.AM
