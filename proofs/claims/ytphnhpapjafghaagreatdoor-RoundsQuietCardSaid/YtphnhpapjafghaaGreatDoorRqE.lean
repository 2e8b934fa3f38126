/-
  Contracts of the program's functions, part 4.
-/
import Derived.Test.YtphnhpapjafghaaGreatDoorRqD
import Derived.Lib.Strings
set_option maxRecDepth 100000
set_option maxHeartbeats 40000000
set_option linter.unusedSimpArgs false
set_option linter.unusedVariables false
namespace Go.AM
def itE (p:Int × Bool):AV × AV:=(iv p.1,bv p.2)
noncomputable def zoD (u:Int) (gi:Nat):Cfg:=zai B.BS 0 [(37,itp gi),(1,iv u)] []
noncomputable def zz5 (u:Int) (gi:Nat) (p:Int × Bool):Cfg:=nxtK (nxtK (ziN (zoD u gi)) (orcs []) (.tup [.bl true,iv p.1,bv p.2])) (orcs []) (.tup [iv p.1,bv p.2])
def andI (a b:Int):Int:=IntKind.i64.wrap (↑(BitVec.ofInt IntKind.i64.bits a &&& BitVec.ofInt IntKind.i64.bits b).toNat:Int)
def okP (u:Int) (p:Int × Bool):Bool:=bif andI u p.1==0 then p.2 else true
theorem at_itE {L:List (Int × Bool)} {j:Nat} {kx x:AV} (h:(L.map itE)[j]?=some (kx,x)):∃ p,L[j]?=some p/\kx=iv p.1/\x=bv p.2:=by
 rw [yS,yAH] at h
 obtain ⟨p,h1,h2⟩:=h
 cases h2
 exact ⟨p,h1,rfl,rfl⟩
theorem zqI {α:Type} (f:α->Bool):∀ (l:List α) (j:Nat) (p:α),l[j]?=some p->l.all f=(f p&&(l.eraseIdx j).all f)
 | [],j,p,h=>by simp at h
 | a::l,0,p,h=>by simp at h;subst h;rfl
 | a::l,j+1,p,h=>by
  have:=zqI f l j p (by simpa using h)
  simp only [List.all_cons,this,List.eraseIdx_cons_succ]
  cases f a <;> cases f p <;> rfl
theorem zq2 {α β:Type} (f:α->β):∀ (l:List α) (j:Nat),(l.map f).eraseIdx j=(l.eraseIdx j).map f
 | [],_=>rfl
 | a::l,0=>rfl
 | a::l,j+1=>by simp [zq2 f l j]
theorem zn2 (u:Int):∀ (n:Nat) (L:List (Int × Bool)) (cur:Option (AV × AV)) (gm gi:Nat),L.length=n->zbP E0 B.BS [] [gm,gi] (ItF gm gi (L.map itE) cur) (zoD u gi) (Shut 0 fun r h=>r=bv (L.all (okP u))/\h=[]):=by
 intro n
 induction n with
 | zero =>
  intro L cur gm gi hL
  cases L with
  | cons _ _=>simp at hL
  | nil=>exact zmH (wkN [] kr (fun _=>zta (wkr [] kr)) (fun j kx x hj=>by simp at hj))
 | succ n ih =>
  intro L cur gm gi hL
  refine zmH (wkN [] kr (fun h0=>?_) (fun j kx x hj=>?_))
  ·cases L with
   | nil=>simp at hL
   | cons _ _=>simp at h0
  ·obtain ⟨p,hp,rfl,rfl⟩:=at_itE hj
   rw [zq2]
   have hj2:j < L.length:=(yB.1 hp).1
   have hlen:(L.eraseIdx j).length=n:=by rw [List.length_eraseIdx,if_pos hj2];omega
   have ih:=ih (L.eraseIdx j) (some (iv p.1,bv p.2)) gm gi hlen
   rw [zqI (okP u) L j p hp]
   refine wkE2 [] kr ?_
   show zbP E0 B.BS [] [gm,gi] _ (zz5 u gi p) _
   cases h1:andI u p.1==0
   ·have e:okP u p=true:=by unfold okP;rw [h1];rfl
    rw [e,Bool.true_and]
    exact wkFl [si (e:=andI u p.1) rfl,sb h1] [37,1] 0 kr ih
   ·cases h2:!p.2
    ·have e:okP u p=true:=by unfold okP;rw [h1];simpa using h2
     rw [e,Bool.true_and]
     exact wkFl [si (e:=andI u p.1) rfl,sg h1,sb h2] [37,1] 0 kr ih
    ·have e:okP u p=false:=by unfold okP;rw [h1];simpa using h2
     rw [e,Bool.false_and]
     exact zta (wkr [si (e:=andI u p.1) rfl,sg h1,sb h2] kr)
def zlk (e:X) (z:Bool):List (Int × Bool):=[(1,e.op==0),(2,!e.not),(4,e.val.kind==0&&(e.val.int==0&&(e.val.text==ByteArray.mk #[]&&true))),(8,z),(16,((zad e.args).length:Int)==0),(32,((zam e.sub).length:Int)==0)]
def zkB (e:X):Bool:=bif ByteArray.toList e.table==Zs0.toList then ByteArray.toList e.name==Zs0.toList else false
def zgH (e:X) (u:Int):Bool:=(zlk e (zkB e)).all (okP u)
theorem zwr (e:X) (u:Int) (h1:(ByteArray.toList e.table==Zs0.toList)=false):zbY E0 S.BS [e.av,iv u] [] (fun r h=>r=bv ((zlk e false).all (okP u))/\h=[]):=by
 exact wkRF (es:=(zlk e false).map itE) (zoD u) Ty.M_int_bool At.BS [sd [(12,[sq zaY]),(18,[sb h1]),(19,[sb h1]),(20,[sb h1]),(21,[sb h1]),(4,[sq (zbp 1)]),(8,[sq (zbp 2)]),(13,[sq (zbp 4)]),(22,[sq (zbp 8)]),(27,[sq (zbp 16)]),(32,[sq (zbp 32)])]] [1] 1 [] [37,1] 0 (kt:=Ty.int) (et:=Ty.bool) kr kr kr (fun gi=>by kernel_rfl) fun gm gi=>(zn2 u 6 (zlk e false) none gm gi rfl)
theorem zxM (e:X) (u:Int) (h1:(ByteArray.toList e.table==Zs0.toList)=true):zbY E0 S.BS [e.av,iv u] [] (fun r h=>r=bv ((zlk e (zkB e)).all (okP u))/\h=[]):=by
 exact wkRF (es:=(zlk e (zkB e)).map itE) (zoD u) Ty.M_int_bool At.BS [sd [(12,[sq zaY]),(18,[sg h1]),(19,[sg h1]),(20,[sg h1]),(4,[sq (zbp 1)]),(8,[sq (zbp 2)]),(13,[sq (zbp 4)]),(22,[sq (zbp 8)]),(27,[sq (zbp 16)]),(32,[sq (zbp 32)])]] [1] 1 [] [37,1] 0 (kt:=Ty.int) (et:=Ty.bool) kr kr kr (fun gi=>by kernel_rfl) fun gm gi=>(zn2 u 6 (zlk e (zkB e)) none gm gi rfl)
theorem zl4 (e:X) (u:Int):zab E0 S.BS [e.av,iv u] [] (bv (zgH e u)) []:=by
 cases h1:ByteArray.toList e.table==Zs0.toList
 ·have:zkB e=false:=by unfold zkB;rw [h1];rfl
  unfold zgH
  rw [this]
  exact zwr e u h1
 ·exact zxM e u h1
theorem zpP {p:Prop} (h:p:=by first|exact (zrh s ‹_›).symm|exact (zp8 s ‹_›).symm|exact (zu4 ‹_› ‹_›).symm|exact zzZ ‹_› ‹_› ‹_› ‹_› ‹_› ‹_›|(have h:=(by assumption:_/\List.all _ okC=false);rw [zrg h.2];exact h.1)):p:=h
theorem zlL {p:Prop} (h:p:=by exact zno hI hx (by simp only [okC];simp only [*];simp)):p:=h
theorem zsn {p:Prop} (h:p:=by exact ⟨rfl,zoG hx (by simp only [okC];simp only [*];rfl)⟩):p:=h
def okC (c:UInt8):Bool:=decide (97<=((c.toNat:Nat):Int))&&decide (((c.toNat:Nat):Int)<=122) || (decide (48<=((c.toNat:Nat):Int))&&decide (((c.toNat:Nat):Int)<=57)) || ((c.toNat:Nat):Int)==95
def zbi (s:Str):Bool:=decide (1<=s.data.toList.length)&&decide (s.data.toList.length<=12)&&decide (97<=(s.data.toList.getD 0 0).toNat)&&s.data.toList.all okC
theorem ziM (s:Str):s.size=s.data.toList.length:=Array.length_toList.symm
theorem zrh (s:Str) (h:decide (((s.size:Nat):Int) < 1)=true):zbi s=false:=by
 rw [ziM] at h;simp only [decide_eq_true_eq] at h;simp only [zbi,Bool.and_eq_false_iff,decide_eq_false_iff_not];omega
theorem zp8 (s:Str) (h:decide ((12:Int) < ((s.size:Nat):Int))=true):zbi s=false:=by
 rw [ziM] at h;simp only [decide_eq_true_eq] at h;simp only [zbi,Bool.and_eq_false_iff,decide_eq_false_iff_not];omega
theorem zno {α:Type} {f:α->Bool} {l:List α} {i:Nat} {x:α} (h:(l.take i).all f=true) (hx:l[i]?=some x) (hf:f x=true):(l.take (i+1)).all f=true:=by
 rw [yP,hx,List.all_append,h];simp [hf]
theorem zoG {α:Type} {f:α->Bool} {l:List α} {i:Nat} {x:α} (hx:l[i]?=some x) (hf:f x=false):l.all f=false:=by
 rw [Bool.eq_false_iff];intro h;rw [yAd] at h
 rw [h x (yC hx)] at hf;simp at hf
noncomputable def L_vp (s:Str) (i:Nat) :Cfg:=zai B.AI 0 [(0,sv s),(19,.sl (s.data.toList.map u8c)),(20,iv ((s.data.toList.map u8c).length:Nat)),(21,iv (i:Nat))] []
theorem zhj (s:Str) (hs:decide ((12:Int) < ((s.size:Nat):Int))=false) (i:Nat)  (hi:i<=(s.data.toList).length) (hI:(s.data.toList.take i).all okC=true):(((s.data.toList.take (s.data.toList).length).all okC=true)/\(decide ((((s.data.toList).length:Nat):Int) < (((s.data.toList.map u8c).length:Nat):Int))=false)/\∀ R,Good E0 B.AI [] (L_vp s (s.data.toList).length ) R->Good E0 B.AI [] (L_vp s i ) R)\/(∃ (r:Bool),(r=false/\s.data.toList.all okC=false)/\Good E0 B.AI [] (L_vp s i ) (Shut 0 fun rZ hZ=>rZ=(bv r)/\hZ=[])):=by
 have hk:=hi;revert i;refine zlp ((s.data.toList).length) (fun i hlt ih hi hI _=>?_)
 obtain ⟨x,hx⟩:=zbc (l:=s.data.toList) (i:=i) Zo
 have h0:decide (((i:Nat):Int) < (((s.data.toList.map u8c).length:Nat):Int))=true:=by (simp only [yG,decide_eq_true_eq];omega)
 have hw:IntKind.i64.wrap (((i:Nat):Int)+1)=((i+1:Nat):Int):=zba i (by (simp only [decide_eq_false_iff_not,ziM] at hs;omega))
 let p_1:List St:=[sb h0,se (zaf u8c hx rfl)]
 cases h1:decide (97<=(x.toNat:Int))
 ·cases h2:decide (48<=(x.toNat:Int))
  ·cases h3:(x.toNat:Int)==95
   ·exact .inr ⟨false,zsn,zaa (wkr (p_1++[sb h1,sb h2,sb h3]) kr)⟩
   ·exact zie2 (ih Zo zlL Zo) fun R gY=>zaa (wkl (p_1++[sb h1,sb h2,sb h3,si hw]) [0,19,20,21] 0 kr gY)
  ·cases h4:decide ((x.toNat:Int)<=57)
   ·cases h5:(x.toNat:Int)==95
    ·exact .inr ⟨false,zsn,zaa (wkr (p_1++[sb h1,sg h2,sb h4,sb h5]) kr)⟩
    ·exact zie2 (ih Zo zlL Zo) fun R gY=>zaa (wkl (p_1++[sb h1,sg h2,sb h4,sb h5,si hw]) [0,19,20,21] 0 kr gY)
   ·exact zie2 (ih Zo zlL Zo) fun R gY=>zaa (wkl (p_1++[sb h1,sg h2,sb h4,si hw]) [0,19,20,21] 0 kr gY)
 ·cases h6:decide ((x.toNat:Int)<=122)
  ·cases h7:decide (48<=(x.toNat:Int))
   ·cases h8:(x.toNat:Int)==95
    ·exact .inr ⟨false,zsn,zaa (wkr (p_1++[sg h1,sb h6,sb h7,sb h8]) kr)⟩
    ·exact zie2 (ih Zo zlL Zo) fun R gY=>zaa (wkl (p_1++[sg h1,sb h6,sb h7,sb h8,si hw]) [0,19,20,21] 0 kr gY)
   ·cases h9:decide ((x.toNat:Int)<=57)
    ·cases h10:(x.toNat:Int)==95
     ·exact .inr ⟨false,zsn,zaa (wkr (p_1++[sg h1,sb h6,sg h7,sb h9,sb h10]) kr)⟩
     ·exact zie2 (ih Zo zlL Zo) fun R gY=>zaa (wkl (p_1++[sg h1,sb h6,sg h7,sb h9,sb h10,si hw]) [0,19,20,21] 0 kr gY)
    ·exact zie2 (ih Zo zlL Zo) fun R gY=>zaa (wkl (p_1++[sg h1,sb h6,sg h7,sb h9,si hw]) [0,19,20,21] 0 kr gY)
  ·exact zie2 (ih Zo zlL Zo) fun R gY=>zaa (wkl (p_1++[sg h1,sb h6,si hw]) [0,19,20,21] 0 kr gY)
theorem zoN {s:Str} {c:UInt8} (h:ByteAt s 0 ((c.toNat:Nat):Int)):s.data.toList.getD 0 0=c:=by
 obtain ⟨_,h1⟩:=h
 rw [yAH] at h1
 obtain ⟨b,hb,e⟩:=h1
 have hc:b=c:=UInt8.toNat_inj.1 Zo
 subst hc
 have hb2:s[(0:Nat)]?=some b:=hb
 by_cases h:0 < s.size
 ·rw [getElem?_pos s 0 h,yA] at hb2
  have h2:0 < s.data.size:=h
  rw [yAF,yW,yAc h2]
  exact hb2
 ·rw [getElem?_neg s 0 h] at hb2;simp at hb2
theorem zu4 {s:Str} {c:UInt8} (h:ByteAt s 0 ((c.toNat:Nat):Int)) (h1:decide (((c.toNat:Nat):Int) < 97)=true):zbi s=false:=by
 have:=zoN h
 simp only [zbi,this,Bool.and_eq_false_iff,decide_eq_false_iff_not];simp at h1;omega
theorem zrg {s:Str} (h:s.data.toList.all okC=false):zbi s=false:=by simp [zbi,h]
theorem zzZ {s:Str} {c d:UInt8} (h1:decide (((s.size:Nat):Int) < 1)=false) (h2:decide ((12:Int) < ((s.size:Nat):Int))=false) (h:ByteAt s 0 ((c.toNat:Nat):Int)) (h3:decide (((c.toNat:Nat):Int) < 97)=false) (h4:(s.data.toList.take s.data.toList.length).all okC=true) (h5:ByteAt s 0 ((d.toNat:Nat):Int)):(((d.toNat:Nat):Int) != 95)=zbi s:=by
 have e1:=zoN h
 have e2:=zoN h5
 rw [yL] at h4
 subst e2
 rw [ziM] at h1 h2
 rw [← e1] at h3
 simp only [decide_eq_false_iff_not] at h1 h2 h3
 have a1:decide (1<=s.data.toList.length)=true:=by simp only [decide_eq_true_eq];omega
 have a2:decide (s.data.toList.length<=12)=true:=by simp only [decide_eq_true_eq];omega
 have a3:decide (97<=(s.data.toList.getD 0 0).toNat)=true:=by simp only [decide_eq_true_eq];omega
 simp only [zbi,a1,a2,a3,h4,Bool.and_true,bne_iff_ne,ne_eq];omega
theorem zmz (s:Str) :∃ (r:Bool),r=zbi s/\zab E0 S.AI [sv s] [] (bv r) []:=by
 cases h1:decide ((↑(ByteArray.size s):Int) < 1)
 ·cases h2:decide (12 < (↑(ByteArray.size s):Int))
  ·obtain ⟨c3,b3⟩:=zid (s:=s) (i:=(0:Int)) (by first|omega|(simp only [decide_eq_false_iff_not,decide_eq_true_eq] at *;omega))
   cases h4:decide ((c3.toNat:Int) < 97)
   ·let p_1:List St:=[sg h1,sg h2,sy b3,sb h4,sqx ((ByteArray.size s).le 1000000000000)]
    rcases zhj s (by first|assumption|omega|(simp;done)|(simp;omega)) 0 (by first|assumption|omega|(simp;done)|(simp;omega)) (by first|assumption|omega|(simp;done)|(simp;omega)) with ⟨q5,q5_1,g5⟩|⟨r5_0,p5_0,g5⟩
    ·exact ⟨(c3.toNat:Int) != (95:Int),zpP,wkc At.AI p_1 [0,19,20,21] 0 kr (g5 _ (zaa (wkr [sb q5_1,sy b3] kr)))⟩
    ·exact ⟨r5_0,zpP,wkc At.AI p_1 [0,19,20,21] 0 kr (g5)⟩
   ·exact ⟨false,zpP,wk At.AI [sg h1,sg h2,sy b3,sb h4] kr⟩
  ·exact ⟨false,zpP,wk At.AI [sg h1,sb h2] kr⟩
 ·exact ⟨false,zpP,wk At.AI [sb h1] kr⟩
theorem zbk (s:Str):zab E0 S.AI [sv s] [] (bv (zbi s)) []:=by
 obtain ⟨r,rfl,h⟩:=zmz s
 exact h
theorem zlM {p:Prop} (h:p:=by (simp only [zoY,zyD, *];simp_all)):p:=h
abbrev sINS:Str:=⟨#[73,78,83,69,82,84,69,68]⟩
abbrev sDEL:Str:=⟨#[68,69,76,69,84,69,68]⟩
abbrev sNW:Str:=⟨#[78,69,87]⟩
abbrev sOL:Str:=⟨#[79,76,68]⟩
abbrev sNo:Str:=⟨#[]⟩
def srcOk (s:Str):Bool:=zbi s || s.toList==sINS.toList || s.toList==sDEL.toList
def zyD (s:Str):Bool:=s.toList==sNo.toList || s.toList==sNW.toList || s.toList==sOL.toList || s.toList==sINS.toList || s.toList==sDEL.toList || zbi s
def zoY (e:X):Bool:=zyD e.table&&zbi e.name
theorem zoV (e:X) :∃ (r:Bool),r=zoY e/\zab E0 S.BG [e.av] [] (bv r) []:=by
 cases h1:ByteArray.toList e.table==Zs0.toList
 ·cases h2:ByteArray.toList e.table==ZsN.toList
  ·cases h3:ByteArray.toList e.table==ZsO.toList
   ·cases h4:ByteArray.toList e.table==ZsI.toList
    ·cases h5:ByteArray.toList e.table==ZsD.toList
     ·let p_1:List St:=[sb h1,sb h2,sb h3,sb h4,sb h5,sc (zbk e.table)]
      cases h6:!zbi e.table
      ·exact ⟨zbi e.name,zlM,wk At.BG (p_1++[sb h6,sc (zbk e.name)]) kr⟩
      ·exact ⟨false,zlM,wk At.BG (p_1++[sb h6]) kr⟩
     ·exact ⟨zbi e.name,zlM,wk At.BG [sb h1,sb h2,sb h3,sb h4,sb h5,sc (zbk e.name)] kr⟩
    ·exact ⟨zbi e.name,zlM,wk At.BG [sb h1,sb h2,sb h3,sb h4,sc (zbk e.name)] kr⟩
   ·exact ⟨zbi e.name,zlM,wk At.BG [sb h1,sb h2,sb h3,sc (zbk e.name)] kr⟩
  ·exact ⟨zbi e.name,zlM,wk At.BG [sb h1,sb h2,sc (zbk e.name)] kr⟩
 ·exact ⟨zbi e.name,zlM,wk At.BG [sb h1,sc (zbk e.name)] kr⟩
theorem zpj (e:X):zab E0 S.BG [e.av] [] (bv (zoY e)) []:=by
 obtain ⟨r,rfl,h⟩:=zoV e
 exact h
def argN (k:Int):Int:=bif k==3 || k==4 || k==6 then 1 else bif k==5 then 2 else bif k==7 then 3 else -1
theorem zjI (e:X) (b:Bool) (h:zab E0 S.AW [e.av] [] (bv b) []):∃ (r:Bool),r=!b/\zab E0 S.Ba [e.av] [] (bv r) []:=by
 exact ⟨!b,Zr,wk At.Ba [sc h] kr⟩
theorem zjT (e:X) (b:Bool) (h:zab E0 S.AW [e.av] [] (bv b) []):zab E0 S.Ba [e.av] [] (bv (!b)) []:=by
 obtain ⟨r,rfl,h⟩:=zjI e b h
 exact h
theorem notT {b:Bool} (h:(!b)=false):b=true:=by simpa using h
theorem notF {b:Bool} (h:(!b)=true):b=false:=by simpa using h
noncomputable def zwl (l:List X) (f:X->Bool) (i:Nat) :Cfg:=zai B.AK 0 [(0,xsl l),(1,.fn S.Ba []),(7,iv ((zad l).length:Nat)),(8,iv (i:Nat))] []
theorem zei (l:List X) (f:X->Bool) (hl:zac l) (hf:∀ x∈l,Pure S.AW [x.av] (bv (f x))) (i:Nat)  (hi:i<=(l).length) (hI:(l.take i).all f=true):(((l.take (l).length).all f=true)/\(decide ((((l).length:Nat):Int) < (((zad l).length:Nat):Int))=false)/\∀ R,Good E0 B.AK [] (zwl l f (l).length ) R->Good E0 B.AK [] (zwl l f i ) R)\/(∃ (r:Int),(decide (0<=r)=true/\l.all f=false)/\Good E0 B.AK [] (zwl l f i ) (Shut 0 fun rZ hZ=>rZ=(iv r)/\hZ=[])):=by
 have hk:=hi;revert i;refine zlp ((l).length) (fun i hlt ih hi hI _=>?_)
 obtain ⟨x,hx,h0,hw⟩:=zlq (l:=l) ((zad l).length) hlt
 have hfx:=zjT x (f x) (hf x (yC hx))
 cases h1:!f x
 ·exact zie2 (ih Zo (by exact zno hI hx (notT ‹_›)) Zo) fun R gY=>zaa (wkl [sb h0,se (zcD hx),sc hfx,sb h1,si hw] [0,1,7,8] 0 kr gY)
 ·exact .inr ⟨(i:Int),(by exact ⟨by simp,zoG hx (notF ‹_›)⟩),zaa (wkr [sb h0,se (zcD hx),sc hfx,sb h1] kr)⟩
theorem c_ixE (l:List X) (f:X->Bool) (hl:zac l) (hf:∀ x∈l,Pure S.AW [x.av] (bv (f x))):∃ (r:Int),decide (0<=r)=!l.all f/\zab E0 S.AK [xsl l,.fn S.Ba []] [] (iv r) []:=by
 rcases zei l f (by first|assumption|omega|(simp;done)|(simp;omega)) hf 0 (by first|assumption|omega|(simp;done)|(simp;omega)) (by first|assumption|omega|(simp;done)|(simp;omega)) with ⟨q1,q1_1,g1⟩|⟨r1_0,p1_0,g1⟩
 ·exact ⟨-1,(by first|(have h:=(by assumption:List.all (List.take _ _) _=true);rw [yL] at h;rw [h];rfl)|(have h:=(by assumption:_/\List.all _ _=false);rw [h.1,h.2];rfl)),wkc At.AK [] [0,1,7,8] 0 kr (g1 _ (zaa (wkr [sb q1_1] kr)))⟩
 ·exact ⟨r1_0,(by first|(have h:=(by assumption:List.all (List.take _ _) _=true);rw [yL] at h;rw [h];rfl)|(have h:=(by assumption:_/\List.all _ _=false);rw [h.1,h.2];rfl)),wkc At.AK [] [0,1,7,8] 0 kr (g1)⟩
theorem c_cfE (l:List X) (f:X->Bool) (hi:∃ r:Int,decide (0<=r)=(!l.all f)/\zab E0 S.AK [xsl l,.fn S.Ba []] [] (iv r) []):∃ (r:Bool),r=!l.all f/\zab E0 S.Cd [xsl l,.fn S.Ba []] [] (bv r) []:=by
 obtain ⟨r1,q1,c1⟩:=hi
 exact ⟨decide ((0:Int)<=r1),‹_›,wk At.Cd [sc c1] kr⟩
theorem c_vxs (l:List X) (f:X->Bool) (hc:zab E0 S.Cd [xsl l,.fn S.Ba []] [] (bv (!l.all f)) []):∃ (r:Bool),r=l.all f/\zab E0 S.B4 [xsl l] [] (bv r) []:=by
 exact ⟨!!l.all f,(by first|rfl|(simp;done)),wk At.B4 [sc hc] kr⟩
theorem zsL (l:List X) (f:X->Bool) (hl:zac l) (hf:∀ x∈l,Pure S.AW [x.av] (bv (f x))):zab E0 S.B4 [xsl l] [] (bv (l.all f)) []:=by
 obtain ⟨r,rfl,h⟩:=c_cfE l f (c_ixE l f hl hf)
 obtain ⟨r,rfl,h⟩:=c_vxs l f h
 exact h
def innerQ (f:X->Bool) (k8 k9:Bool) (q:Qy):Bool:=(q.star==k8)&&(((zad q.items).length:Int)==bif k8 || k9 then 0 else 1)&&srcOk q.frm&&decide (((zad q.wh).length:Int)<=1)&&q.items.all f&&q.wh.all f
def innerB (f:X->Bool) (e:X):Bool:=match e.sub with
 | [q]=>innerQ f (e.kind==8) (e.kind==9) q
 | _=>false
def zwq (f:X->Bool) (e:X):Bool:=bif ((zad e.args).length:Int)==argN e.kind then e.args.all f else false
def vXF (f:X->Bool) (e:X):Bool :=
 bif e.kind==1 then (bif zgH e 4 then (bif zbu e.val then !(bif e.val.kind==1 then decide (e.val.int < 0) else false) else false) else false)
 else bif e.kind==2 then (bif zgH e 8 then zoY e else false)
 else bif e.kind==8 || e.kind==9 || e.kind==10 || e.kind==11 || e.kind==12 then (bif zgH e 32 then innerB f e else false)
 else bif e.kind==5 then (bif decide (e.op < 1) then false else bif decide (13 < e.op) then false else bif !zgH e 17 then false else zwq f e)
 else bif e.kind==6 then (bif !zgH e 18 then false else zwq f e)
 else bif !zgH e 16 then false else zwq f e
def vX:Nat->X->Bool
 | 0,_=>false
 | n+1,e=>vXF (vX n) e
def zwE (f:X->Bool) (l:List X):Bool:=bif decide (((zad l).length:Int)<=1) then l.all f else false
theorem zw6 {p:Prop} (h:p:=by first|assumption|omega|(simp;done)|(simp;omega)):p:=h
def qyB (f:X->Bool) (q:Qy):Bool:=bif !(q.star==(((zad q.items).length:Int)==0)) then false else bif decide (8 < ((zad q.items).length:Int)) then false else bif srcOk q.frm then (bif q.items.all f then zwE f q.wh else false) else false
def zdg (f:X->Bool) (l:List X):Bool:=bif decide (((zad l).length:Int) < 1) then true else bif decide (6 < ((zad l).length:Int)) then true else !l.all f
theorem zkl (l:List X) (f:X->Bool) (ha:zab E0 S.B4 [xsl l] [] (bv (l.all f)) []):∃ (r:Bool),r=zdg f l/\zab E0 S.AM [xsl l] [] (bv r) []:=by
 cases h1:decide ((↑(zad l).length:Int) < 1)
 ·cases h2:decide (6 < (↑(zad l).length:Int))
  ·exact ⟨!l.all f,(by (clear ha;simp only [zdg,cond_true,cond_false, *])),wk At.AM [sg h1,sg h2,sc ha] kr⟩
  ·exact ⟨true,(by (clear ha;simp only [zdg,cond_true,cond_false, *])),wk At.AM [sg h1,sb h2] kr⟩
 ·exact ⟨true,(by (clear ha;simp only [zdg,cond_true,cond_false, *])),wk At.AM [sb h1] kr⟩
noncomputable def zwh (l:List (List X)) (f:X->Bool) (i:Nat) :Cfg:=zai B.AQ 0 [(0,.sl (l.map zaI)),(1,.fn S.AM []),(7,iv ((l.map zaI).length:Nat)),(8,iv (i:Nat))] []
theorem zeS (l:List (List X)) (f:X->Bool) (hl:zac l) (hf:∀ x∈l,Pure S.AM [xsl x] (bv (zdg f x))) (i:Nat)  (hi:i<=(l).length) (hI:(l.take i).all (fun r=>!zdg f r)=true):(((l.take (l).length).all (fun r=>!zdg f r)=true)/\(decide ((((l).length:Nat):Int) < (((l.map zaI).length:Nat):Int))=false)/\∀ R,Good E0 B.AQ [] (zwh l f (l).length ) R->Good E0 B.AQ [] (zwh l f i ) R)\/(∃ (r:Int),(decide (0<=r)=true/\l.all (fun r=>!zdg f r)=false)/\Good E0 B.AQ [] (zwh l f i ) (Shut 0 fun rZ hZ=>rZ=(iv r)/\hZ=[])):=by
 have hk:=hi;revert i;refine zlp ((l).length) (fun i hlt ih hi hI _=>?_)
 obtain ⟨x,hx,h0,hw⟩:=zlq (l:=l) ((l.map zaI).length) hlt
 have hfx:=hf x (yC hx)
 let p_1:List St:=[sb h0,se (zaf zaI hx rfl),sc hfx]
 cases h1:zdg f x
 ·exact zie2 (ih Zo (by exact zno hI hx (by simp only [*];rfl)) Zo) fun R gY=>zaa (wkl (p_1++[sb h1,si hw]) [0,1,7,8] 0 kr gY)
 ·exact .inr ⟨(i:Int),(by exact ⟨by simp,zoG hx (by simp only [*];rfl)⟩),zaa (wkr (p_1++[sb h1]) kr)⟩
theorem c_ixR (l:List (List X)) (f:X->Bool) (hl:zac l) (hf:∀ x∈l,Pure S.AM [xsl x] (bv (zdg f x))):∃ (r:Int),decide (0<=r)=!l.all (fun r=>!zdg f r)/\zab E0 S.AQ [.sl (l.map zaI),.fn S.AM []] [] (iv r) []:=by
 rcases zeS l f zw6 hf 0 zw6 zw6 with ⟨q1,q1_1,g1⟩|⟨r1_0,p1_0,g1⟩
 ·exact ⟨-1,(by first|(have h:=(by assumption:List.all (List.take _ _) _=true);rw [yL] at h;rw [h];rfl)|(have h:=(by assumption:_/\List.all _ _=false);rw [h.1,h.2];rfl)),wkc At.AQ [] [0,1,7,8] 0 kr (g1 _ (zaa (wkr [sb q1_1] kr)))⟩
 ·exact ⟨r1_0,(by first|(have h:=(by assumption:List.all (List.take _ _) _=true);rw [yL] at h;rw [h];rfl)|(have h:=(by assumption:_/\List.all _ _=false);rw [h.1,h.2];rfl)),wkc At.AQ [] [0,1,7,8] 0 kr (g1)⟩
theorem c_cfR (l:List (List X)) (b:Bool) (hi:∃ r:Int,decide (0<=r)=b/\zab E0 S.AQ [.sl (l.map zaI),.fn S.AM []] [] (iv r) []):∃ (r:Bool),r=b/\zab E0 S.Cw [.sl (l.map zaI),.fn S.AM []] [] (bv r) []:=by
 obtain ⟨r1,q1,c1⟩:=hi
 exact ⟨decide ((0:Int)<=r1),‹_›,wk At.Cw [sc c1] kr⟩
def zpA (f:X->Bool) (l:List (List X)):Bool:=bif decide (((l.map zaI).length:Int)<=8) then l.all (fun r=>!zdg f r) else false
theorem zmB (l:List (List X)) (f:X->Bool) (hi:zab E0 S.Cw [.sl (l.map zaI),.fn S.AM []] [] (bv (!l.all (fun r=>!zdg f r))) []):∃ (r:Bool),r=zpA f l/\zab E0 S.CV [.sl (l.map zaI)] [] (bv r) []:=by
 cases h1:decide ((↑(List.map zaI l).length:Int)<=8)
 ·exact ⟨false,(by (clear hi;simp only [zpA,cond_true,cond_false,Bool.not_not, *])),wk At.CV [sb h1] kr⟩
 ·exact ⟨!!l.all fun r=>!zdg f r,(by (clear hi;simp only [zpA,cond_true,cond_false,Bool.not_not, *])),wk At.CV [sg h1,sc hi] kr⟩
def nmL:List Str->List Str->Bool
 | _,[]=>true
 | pre,s::r=>bif !zbi s then false else bif hasS pre s then false else nmL (pre++[s]) r
def namesB (l:List Str):Bool:=bif decide (8 < ((l.map zbR).length:Int)) then false else nmL [] l
def setsB (f:X->Bool) (l:List Se):Bool:=bif l.all (fun s=>f s.ex) then namesB (l.map Se.col) else false
abbrev zr8 (a:Ac):Bool:=decide (0 < ((a.rows.map zaI).length:Int))
abbrev zwQ (a:Ac):Bool:=decide (0 < ((zam a.query).length:Int))
abbrev zwR (a:Ac):Bool:=decide (0 < ((a.sets.map Se.cells).length:Int))
abbrev hasW_ (a:Ac):Bool:=decide (0 < ((zad a.wh).length:Int))
abbrev noT_ (a:Ac):Bool:=a.text.toList==sNo.toList
abbrev eqRQ (a:Ac):Bool:=zr8 a==zwQ a
def qy0 (f:X->Bool) (a:Ac):Bool:=match a.query with
 | q::_=>qyB f q
 | []=>false
def actB1 (f:X->Bool) (a:Ac):Bool:=bif !zbi a.table then false else bif eqRQ a then false else bif zwR a then false else bif hasW_ a then false else bif !noT_ a then false else bif zpA f a.rows then (bif zr8 a then true else bif ((zam a.query).length:Int)==1 then qy0 f a else false) else false
def actB2 (f:X->Bool) (a:Ac):Bool:=bif zbi a.table then (bif !zr8 a then (bif !zwQ a then (bif zwR a then (bif !!noT_ a then (bif setsB f a.sets then zwE f a.wh else false) else false) else false) else false) else false) else false
def actB3 (f:X->Bool) (a:Ac):Bool:=bif zbi a.table then (bif !zr8 a then (bif !zwQ a then (bif !zwR a then (bif !!noT_ a then zwE f a.wh else false) else false) else false) else false) else false
def actB (f:X->Bool) (a:Ac):Bool:=bif a.kind==1 then actB1 f a else bif a.kind==2 then actB2 f a else actB3 f a
def pfit (a b:Int):Bool :=
 bif a==0 then
  true
 else
  bif b==0 then
   true
  else
   a==b
theorem PrefOk.good {cols:List Col} {vals:List V} (h:zbJ cols vals):∀ v∈vals,v.Good:=fun v hv=>by
 obtain ⟨k,hk,hkv⟩:=List.mem_iff_getElem.1 hv
 have hl:=h.len
 obtain ⟨c,hc⟩:=zbc (l:=cols) (i:=k) Zo
 exact (h.at_ k c v hc (by rw [← hkv];simp)).good
theorem FsT.ok {frs:List Fr} (h:FsT frs) (n:Nat) (hn:n<=900000):FsOk n frs :=
 ⟨by have:=h.len;omega,fun f hf=>zaE (h.few f hf),fun f hf v hv=>((h.rows f hf).good v hv).small⟩
theorem FsT.g {frs:List Fr} (h:FsT frs):FsG frs:=fun f hf v hv=>(h.rows f hf).good v hv
structure Sound (ty:Int × Int) (ev:V × Int):Prop where
 code:ty.2=0->ev.2=0\/ev.2=6\/ev.2=7
 kind:ty.2=0->ev.2=0->ev.1.kind=0\/ev.1.kind=ty.1
structure Res (w:Int) (r:V × Int):Prop where
 code:r.2=0\/r.2=6\/r.2=7
 kind:r.2=0->r.1.kind=0\/r.1.kind=w
theorem Res.null {w:Int} (c:Int) (hc:c=0\/c=6\/c=7):Res w (⟨0,0,⟨#[]⟩⟩,c):=⟨hc,fun _=>.inl rfl⟩
abbrev KOk (v:V) (k:Int):Prop:=v.kind=0\/v.kind=k
/- ### types of operations -/
theorem KOk.trans {v:V} {t k:Int} (h:KOk v t) (ht:t=0\/t=k):KOk v k:=by
 rcases h with h|h
 ·exact .inl h
 ·rcases ht with rfl|rfl
  ·exact .inl h
  ·exact .inr h
inductive Typed:List V->List Int->Prop
 | nil:Typed [] []
 | cons {v:V} {t:Int} {l:List V} {ts:List Int}:KOk v t->Typed l ts->Typed (v::l) (t::ts)
def er (f:Fr):Fr:=⟨f.name,f.strict,f.cols,[]⟩
theorem zvo (frs:List Fr) (k:Nat):(frs.map er).getD k za0=er (frs.getD k za0):=by
 simp only [yAF,yS]
 cases frs[k]? <;> rfl
theorem zvz (frs:List Fr) (q n:Str):∀ k,rres (frs.map er) q n k=rres frs q n k
 | 0=>rfl
 | k+1=>by
  simp only [rres,ztF,zvo,zvz frs q n k]
  rfl
theorem zuY (frs:List Fr) (q n:Str):zbm (frs.map er) q n=zbm frs q n:=by
 unfold zbm;rw [yG,zvz]
theorem zyE (frs:List Fr) (q n:Str):rFr (frs.map er) q n=er (rFr frs q n):=by
 unfold rFr;rw [zuY,zvo]
structure FrRel (tf vf:List Fr):Prop where
 eq:tf.map er=vf.map er
 rows:∀ f∈vf,zbJ f.cols f.vals
theorem FrRel.cols {tf vf:List Fr} (h:FrRel tf vf) (q n:Str):(rFr tf q n).cols=(rFr vf q n).cols:=by
 have:er (rFr tf q n)=er (rFr vf q n):=by rw [← zyE,← zyE,h.eq]
 exact (congrArg Fr.cols this:(er _).cols=(er _).cols)
theorem FrRel.ins {tf vf:List Fr} (h:FrRel tf vf) {t:Tb} {v:List V} (hv:zbJ t.sch.cols v):FrRel (zbg tf t.sch []) (zc1 vf t v):=by
 refine ⟨by simp only [zbg,zc1,yAR,h.eq];rfl,fun f hf=>?_⟩
 simp only [zc1,yK,yF] at hf
 rcases hf with hf|rfl
 ·exact h.rows f hf
 ·exact hv
theorem ztH (tb:List Tb) (n:Str):∀ (l:List Tb) (i:Nat),zfI tb n l i=match l.find? (fun t=>zaT t n) with|some t=>(t.sch,true)|none=>(⟨⟨#[]⟩,[]⟩,false)
 | [],i=>rfl
 | x::r,i=>by
  simp only [zfI,List.find?,zaT]
  cases h:x.sch.name.toList==n.toList
  ·exact ztH tb n r _
  ·rfl
theorem zfG (tb:List Tb) (n:Str):zaw tb n=match zhE tb n with|some t=>(t.sch,true)|none=>(⟨⟨#[]⟩,[]⟩,false):=ztH tb n tb 0
structure TbT (tb:List Tb):Prop where
 rows:∀ x∈tb,∀ r∈x.rows,zbJ x.sch.cols r.vals
 len:∀ x∈tb,x.rows.length<=1000
theorem TbT.g {tb:List Tb} (h:TbT tb):TbG tb:=⟨fun x hx r hr v hv=>(h.rows x hx r hr).good v hv,h.len⟩
theorem FrRel.g {tf vf:List Fr} (h:FrRel tf vf):FsG vf:=fun f hf v hv=>(h.rows f hf).good v hv
theorem zt7 {tb:List Tb} {n:Str} {x:Tb} (h:AtI tb (idxF (fun t=>zaT t n) tb 0) x):zaw tb n=(x.sch,true):=by
 obtain ⟨h0,h1⟩:=h
 rw [zfG]
 rcases zh3 (fun t=>zaT t n) tb 0 with ⟨h2,_⟩|⟨j,y,h2,h3,h4⟩
 ·omega
 ·rw [h2] at h1
  have:((0+j:Nat):Int).toNat=j:=by omega
  rw [this,h3] at h1
  cases h1
  unfold zhE;rw [h4]
theorem zt6 {tb:List Tb} {n:Str} (h:decide (idxF (fun t=>zaT t n) tb 0 < 0)=true):zaw tb n=(⟨⟨#[]⟩,[]⟩,false):=by
 rw [zfG]
 rcases zh3 (fun t=>zaT t n) tb 0 with ⟨_,h2⟩|⟨j,y,h2,h3,h4⟩
 ·unfold zhE;rw [h2]
 ·simp only [decide_eq_true_eq] at h;omega
theorem zAG {tb:List Tb} {n:Str} (h:decide (idxF (fun t=>zaT t n) tb 0 < 0)=false):0<=idxF (fun t=>zaT t n) tb 0/\idxF (fun t=>zaT t n) tb 0 < ((tb.length:Nat):Int):=by
 simp only [decide_eq_false_iff_not] at h
 have:=zvp (fun t=>zaT t n) tb 0
 exact ⟨by omega,by rcases this with h|h <;> omega⟩
theorem zhA (t:Tb) (n:Str) :zab E0 S.CE [.agg t.cells,.p 0 0] [.box [sv n]] (bv (zaT t n)) [.box [sv n]]:=by
 exact wk At.CE [] kr
noncomputable def zsv (tb:List Tb) (n:Str) (i:Nat):Cfg:=zai B.Al 0 [(0,.sl (tb.map Tb.cells)),(1,.fn S.CE [.p 0 0]),(7,iv ((tb.map Tb.cells).length:Nat)),(8,iv (i:Nat))] [.box [sv n]]
theorem zuK (tb:List Tb) (n:Str) (hl:zac tb):∀ (k i:Nat),i+k=tb.length->Good E0 B.Al [.box [sv n]] (zsv tb n i) (Shut 1 fun r h=>r=iv (idxF (fun t=>zaT t n) (tb.drop i) i)/\h=[.box [sv n]]):=by
 intro k
 induction k with
 | zero =>
  intro i hi
  refine zaa ?_
  have h0:decide ((i:Int) < (((tb.map Tb.cells).length:Nat):Int))=false:=by simp;omega
  have e0:tb.drop i=[]:=yAJ Zo
  rw [e0]
  exact zgS E0ok mix0 3000 (y:=AV.v (Value.int IntKind.i64 (-1:Int))) (H:=[Blk.box [AV.v (Value.string n)]]) [sb h0] kr (⟨rfl,rfl⟩)
 | succ k ih =>
  intro i hi
  have ih:=ih (i+1) Zo
  obtain ⟨x,hx⟩:=zbc (l:=tb) (i:=i) Zo
  have h0:decide ((i:Int) < (((tb.map Tb.cells).length:Nat):Int))=true:=by simp;omega
  have hw:=zba i Zo
  rw [zaB hx]
  simp only [idxF]
  refine zaa ?_
  cases h1:zaT x n
  ·exact zdz E0ok mix0 3000 (c':=zsv tb n (i+(1:Nat))) [sb h0,se (zaf Tb.cells hx rfl),sl [(0:Nat)] (zhA x n),sb h1,si hw] [0,1,7,8] 1 kr kr (by simpa only [cond_true,cond_false,h1] using ih)
  ·exact zgS E0ok mix0 3000 (y:=AV.v (Value.int IntKind.i64 (i:Int))) (H:=[Blk.box [AV.v (Value.string n)]]) [sb h0,se (zaf Tb.cells hx rfl),sl [(0:Nat)] (zhA x n),sb h1] kr (⟨by simp only [cond_true,cond_false,h1],rfl⟩)
theorem zzd (tb:List Tb) (n:Str) (hl:zac tb):zab E0 S.Al [.sl (tb.map Tb.cells),.fn S.CE [.p 0 0]] [.box [sv n]] (iv (idxF (fun t=>zaT t n) tb 0)) [.box [sv n]]:=by
 exact zig E0ok mix0 At.Al rfl kr kr 3000 (c':=zsv tb n (0:Nat)) [] [0,1,7,8] 1 kr kr (by simpa using zuK tb n hl tb.length 0 Zs)
theorem zqi (tb:List Tb) (n:Str) (h2:zac tb) (h3:∀ x∈tb,zac x.sch.cols) (hix:zab E0 S.Al [.sl (tb.map Tb.cells),.fn S.CE [.p 0 0]] [.box [sv n]] (iv (idxF (fun t=>zaT t n) tb 0)) [.box [sv n]]):∃ (s:Sch) (b:Bool),(s,b)=zaw tb n/\zab E0 S.AO [tsl tb,sv n] [] (.tup [s.av,bv b]) []:=by
 cases h1:decide (idxF (fun t=>zaT t n) tb 0 < 0)
 ·obtain ⟨x2,e2⟩:=zdN (l:=tb) (i:=idxF (fun t=>zaT t n) tb (0:Nat)) (by exact zAG ‹_›)
  exact ⟨x2.sch,true,(by first|exact (zt7 ‹_›).symm|exact (zt6 ‹_›).symm),wk At.AO [sqx ((True/\x2.sch.cols.length=(List.map Col.cells x2.sch.cols).length/\True)/\True/\True),sl [0] hix,sb h1,se (zbW Tb.cells e2 rfl),sc (za1 x2.sch.cols (by first|assumption|exact h3 _ (yC (And.right ‹AtI _ _ _›))))] kr⟩
 ·exact ⟨Sch.mk Zs0 [],false,(by first|exact (zt7 ‹_›).symm|exact (zt6 ‹_›).symm),wk At.AO [sl [0] hix,sb h1] kr⟩
theorem zcw (tb:List Tb) (n:Str) (h2:zac tb) (h3:∀ x∈tb,zac x.sch.cols):zab E0 S.AO [tsl tb,sv n] [] (.tup [(zaw tb n).1.av,bv (zaw tb n).2]) []:=by
 obtain ⟨s,b,h,h2⟩:=zqi tb n h2 h3 (zzd tb n h2)
 rw [← h];exact h2
theorem zsD (fr:List Fr) (s:Sch) (v:List V) (h2:zac fr):∃ (r:List Fr),r=zbg fr s v/\zab E0 S.Dy [fsl fr,s.av,vsl v] [] (fsl r) []:=by
 exact ⟨fr++[Fr.mk s.name false s.cols v],Zr,(by (try simp only [zsl,xCol,xLit,xBin,xNeg,Ac.cells,Se.cells]);exact wk At.Dy [sqx ((List.map Fr.cells fr++[[sv s.name,bv false,ZC s.cols,vsl v]]).length=(List.map Fr.cells fr++[[sv s.name,bv false,ZC s.cols,vsl v]]).length),sd [(1,[sc (zly fr (by first|assumption|omega|(simp;done)|(simp;omega)))]),(9,[sqA (List.map Fr.cells fr) [[sv s.name,bv false,ZC s.cols,vsl v]] fr.length 4 72])]] kr)⟩
theorem ztj (fr:List Fr) (s:Sch) (v:List V) (h2:zac fr):zab E0 S.Dy [fsl fr,s.av,vsl v] [] (fsl (zbg fr s v)) []:=by
 obtain ⟨r,rfl,h⟩:=zsD fr s v h2
 exact h
def tgt (a:Ac) (b:Bool) (tb:List Tb):Sch × Int :=
 bif !b then
  (Sch.mk Zs0 [],17)
 else
  bif !(zaw tb a.table).snd then
   (Sch.mk Zs0 [],3)
  else
   ((zaw tb a.table).fst,0)
structure Pr where
 id:Int
 old:List V
 nw:List V
def Pr.cells (p:Pr):List AV:=[iv p.id,vsl p.old,vsl p.nw]
@[simp] theorem Pr.cells_length (x:Pr):x.cells.length=3:=rfl
structure Ch where
 ins:List (List V)
 del:List Int
 upd:List Pr
def Ch.cells (c:Ch):List AV:=[.sl (c.ins.map vrow),isl c.del,.sl (c.upd.map Pr.cells)]
abbrev Ch.av (c:Ch):AV:=.agg c.cells
abbrev ch0:Ch:=⟨[],[],[]⟩
theorem zgl (t:Tb) (a:Ac) :zab E0 S.Cn [.agg t.cells,.p 0 0] [.box a.cells] (bv (zaT t a.table)) [.box a.cells]:=by
 exact wk At.Cn [] kr
noncomputable def zsu (tb:List Tb) (a:Ac) (i:Nat):Cfg:=zai B.Al 0 [(0,.sl (tb.map Tb.cells)),(1,.fn S.Cn [.p 0 0]),(7,iv ((tb.map Tb.cells).length:Nat)),(8,iv (i:Nat))] [.box a.cells]
theorem zuJ (tb:List Tb) (a:Ac) (hl:zac tb):∀ (k i:Nat),i+k=tb.length->Good E0 B.Al [.box a.cells] (zsu tb a i) (Shut 1 fun r h=>r=iv (idxF (fun t=>zaT t a.table) (tb.drop i) i)/\h=[.box a.cells]):=by
 intro k
 induction k with
 | zero =>
  intro i hi
  refine zaa ?_
  have h0:decide ((i:Int) < (((tb.map Tb.cells).length:Nat):Int))=false:=by simp;omega
  have e0:tb.drop i=[]:=yAJ Zo
  rw [e0]
  exact zgS E0ok mix0 3000 (y:=AV.v (Value.int IntKind.i64 (-1:Int))) (H:=[Blk.box a.cells]) [sb h0] kr (⟨rfl,rfl⟩)
 | succ k ih =>
  intro i hi
  have ih:=ih (i+1) Zo
  obtain ⟨x,hx⟩:=zbc (l:=tb) (i:=i) Zo
  have h0:decide ((i:Int) < (((tb.map Tb.cells).length:Nat):Int))=true:=by simp;omega
  have hw:=zba i Zo
  rw [zaB hx]
  simp only [idxF]
  refine zaa ?_
  cases h1:zaT x a.table
  ·exact zdz E0ok mix0 3000 (c':=zsu tb a (i+(1:Nat))) [sb h0,se (zaf Tb.cells hx rfl),sl [(0:Nat)] (zgl x a),sb h1,si hw] [0,1,7,8] 1 kr kr (by simpa only [cond_true,cond_false,h1] using ih)
  ·exact zgS E0ok mix0 3000 (y:=AV.v (Value.int IntKind.i64 (i:Int))) (H:=[Blk.box a.cells]) [sb h0,se (zaf Tb.cells hx rfl),sl [(0:Nat)] (zgl x a),sb h1] kr (⟨by simp only [cond_true,cond_false,h1],rfl⟩)
theorem zzc (tb:List Tb) (a:Ac) (hl:zac tb):zab E0 S.Al [.sl (tb.map Tb.cells),.fn S.Cn [.p 0 0]] [.box a.cells] (iv (idxF (fun t=>zaT t a.table) tb 0)) [.box a.cells]:=by
 exact zig E0ok mix0 At.Al rfl kr kr 3000 (c':=zsu tb a (0:Nat)) [] [0,1,7,8] 1 kr kr (by simpa using zuJ tb a hl tb.length 0 Zs)
def asgL (f:X->V × Int) (a:Ac) (s:Sch) (frs:List Fr) (tb:List Tb):List (Se)->Nat->(List V)->(List V) × Int
 | [],i,out =>
  (out,0)
 | x::r,i,out =>
  bif decide (idxF (fun c=>colC c x.col) s.cols 0 < 0) then
   ([],3)
  else
   bif (f x.ex).snd != 0 then
    ([],(f x.ex).snd)
   else
    bif decide ((out.length:Int)<=idxF (fun c=>colC c x.col) s.cols 0) then
     ([],17)
    else
     asgL f a s frs tb r (i+1) (out.set (idxF (fun c=>colC c x.col) s.cols 0).toNat (f x.ex).fst)
def asgn (f:X->V × Int) (a:Ac) (s:Sch) (row:List V) (frs:List Fr) (tb:List Tb):(List V) × Int :=
 asgL f a s frs tb a.sets 0 (row)
def cndD (tr:Rw->Bool × Int) (a:Ac) (s:Sch) (frs:List Fr) (tb:List Tb) (t:Tb):List (Rw)->Nat->(List Int)->Ch × Int
 | [],i,del =>
  (Ch.mk [] del [],0)
 | x::r,i,del =>
  bif (tr x).snd != 0 then
   (Ch.mk [] [] [],(tr x).snd)
  else
   bif !(tr x).fst then
    cndD tr a s frs tb t r (i+1) (del)
   else
    cndD tr a s frs tb t r (i+1) (del++[x.id])
def cndU (tr:Rw->Bool × Int) (ag:Rw->List V × Int) (a:Ac) (s:Sch) (frs:List Fr) (tb:List Tb) (t:Tb):List (Rw)->Nat->(List Pr)->Ch × Int
 | [],i,upd =>
  (Ch.mk [] [] upd,0)
 | x::r,i,upd =>
  bif (tr x).snd != 0 then
   (Ch.mk [] [] [],(tr x).snd)
  else
   bif !(tr x).fst then
    cndU tr ag a s frs tb t r (i+1) (upd)
   else
    bif (ag x).snd != 0 then
     (Ch.mk [] [] [],(ag x).snd)
    else
     cndU tr ag a s frs tb t r (i+1) (upd++[Pr.mk x.id x.vals (ag x).fst])
def zyO:Tb:=⟨⟨⟨#[]⟩,[]⟩,0,[]⟩
def tabC (tb:List Tb) (n:Str):Tb:=(zhE tb n).getD zyO
theorem zAA (tb:List Tb) (n:Str) (h:decide (idxF (fun t=>zaT t n) tb 0 < 0)=false):ElAt (tb.map Tb.cells) (idxF (fun t=>zaT t n) tb 0) (tabC tb n).cells 4:=by
 simp only [decide_eq_false_iff_not] at h
 rcases zh3 (fun t=>zaT t n) tb 0 with ⟨h2,_⟩|⟨j,y,h2,h3,h4⟩
 ·omega
 ·have e:tabC tb n=y:=by unfold tabC zhE;rw [h4];rfl
  rw [e,h2]
  have:((0+j:Nat):Int)=(j:Int):=by omega
  rw [this];exact zaf Tb.cells h3 rfl
def candE (a:Ac) (s:Sch) (e:Int):Ch × Int :=
 (Ch.mk [] [] [],e)
def candD (tr:Rw->Bool × Int) (a:Ac) (s:Sch) (frs:List Fr) (tb:List Tb):Ch × Int :=
 cndD tr a s frs tb (tabC tb a.table) (tabC tb a.table).rows 0 ([])
def candU (tr:Rw->Bool × Int) (ag:Rw->List V × Int) (a:Ac) (s:Sch) (frs:List Fr) (tb:List Tb):Ch × Int :=
 cndU tr ag a s frs tb (tabC tb a.table) (tabC tb a.table).rows 0 ([])
abbrev PEv (f:X->V × Int) (x:X) (frs:List Fr) (tb:List Tb):Prop:=Pure S.CP [x.av,fsl frs,tsl tb] (.tup [(f x).1.av,iv (f x).2])
def zst (f:X->V × Int):List X->List V->List V × Int
 | [],acc=>(acc,0)
 | x::r,acc=>bif (f x).2 != 0 then ([],(f x).2) else zst f r (acc++[(f x).1])
def insL (f:X->V × Int) (n:Nat):List (List X)->List (List V)->List (List V) × Int
 | [],acc=>(acc,0)
 | y::r,acc=>bif y.length != n then ([],5) else bif (zst f y []).2 != 0 then ([],(zst f y []).2) else insL f n r (acc++[(zst f y []).1])
def wid (v:List V) (s:Sch):Bool :=
 (↑(List.map V.cells v).length:Int) != (↑(List.map Col.cells s.cols).length:Int)
def okW (s:Sch) (v:List V):Bool:=!wid v s
def insQ (g:Qy->List (List V) × Int) (s:Sch):List Qy->List (List V)->List (List V) × Int
 | [],acc=>(acc,0)
 | q::r,acc=>bif (g q).2 != 0 then ([],(g q).2) else bif !(g q).1.all (okW s) then ([],5) else insQ g s r (acc++(g q).1)
def insB (f:X->V × Int) (g:Qy->List (List V) × Int) (s:Sch) (a:Ac):List (List V) × Int :=
 bif (insL f s.cols.length a.rows []).2 != 0 then ([],(insL f s.cols.length a.rows []).2) else insQ g s a.query (insL f s.cols.length a.rows []).1
section
variable {f : X -> V × Int} {g : Qy -> List (List V) × Int} {s : Sch} {a : Ac} {out1 out2 r : List (List V)} {c : Int}
end
def candI (ib:List (List V) × Int) (a:Ac):Ch × Int :=
 bif ib.snd != 0 then
  (Ch.mk [] [] [],ib.snd)
 else
  (Ch.mk ib.fst [] [],0)
theorem znb {p:Prop} (h:p:=by first|exact (zrh s ‹_›).symm|exact (zp8 s ‹_›).symm|exact (zyV ‹_› ‹_›).symm|exact zyW ‹_› ‹_› ‹_› ‹_› ‹_›|(have h:=(by assumption:_/\List.all _ okC=false);rw [zrg h.2];exact h.1)):p:=h
theorem ztS {p:Prop} (h:p:=by exact zno hI (znq ‹_›) (by first|exact zAO ‹_›|exact zAN ‹_›|exact zAP ‹_›)):p:=h
theorem znq {s:Str} {i:Nat} {c:UInt8} (h:ByteAt s ((i:Nat):Int) ((c.toNat:Nat):Int)):s.data.toList[i]?=some c:=by
 obtain ⟨_,h1⟩:=h
 rw [yAH] at h1
 obtain ⟨b,hb,e⟩:=h1
 have hc:b=c:=UInt8.toNat_inj.1 Zo
 subst hc
 have hb2:s[i]?=some b:=by simpa using hb
 by_cases h:i < s.size
 ·rw [getElem?_pos s i h,yA] at hb2
  have h2:i < s.data.size:=h
  rw [yW,yAc h2]
  exact congrArg some hb2
 ·rw [getElem?_neg s i h] at hb2;simp at hb2
def letR (c:Int):Bool:=bif decide (97<=c) then decide (c<=122) else false
def digR (c:Int):Bool:=bif decide (48<=c) then decide (c<=57) else false
theorem zry (c:Int) :∃ (r:Bool),r=letR c/\zab E0 S.CM [.v (.int .u8 c)] [] (bv r) []:=by
 cases h1:decide (97<=c)
 ·exact ⟨false,(by (simp only [letR,cond_true,cond_false, *])),wk At.CM [sb h1] kr⟩
 ·exact ⟨decide (c<=(122:Int)),(by (simp only [letR,cond_true,cond_false, *])),wk At.CM [sg h1] kr⟩
theorem zhn (c:Int):zab E0 S.CM [.v (.int .u8 c)] [] (bv (letR c)) []:=by
 obtain ⟨r,rfl,h⟩:=zry c
 exact h
theorem zsG (c:Int) :∃ (r:Bool),r=digR c/\zab E0 S.CU [.v (.int .u8 c)] [] (bv r) []:=by
 cases h1:decide (48<=c)
 ·exact ⟨false,(by (simp only [digR,cond_true,cond_false, *])),wk At.CU [sb h1] kr⟩
 ·exact ⟨decide (c<=(57:Int)),(by (simp only [digR,cond_true,cond_false, *])),wk At.CU [sg h1] kr⟩
theorem ztl (c:Int):zab E0 S.CU [.v (.int .u8 c)] [] (bv (digR c)) []:=by
 obtain ⟨r,rfl,h⟩:=zsG c
 exact h
theorem zAO {c:UInt8} (h:(!letR ((c.toNat:Nat):Int))=false):okC c=true:=by
 simp only [letR,okC] at *;cases h1:decide (97<=((c.toNat:Nat):Int)) <;> simp_all
theorem zAN {c:UInt8} (h:(!digR ((c.toNat:Nat):Int))=false):okC c=true:=by
 simp only [digR,okC] at *;cases h1:decide (48<=((c.toNat:Nat):Int)) <;> simp_all
theorem zAP {c:UInt8} (h:(((c.toNat:Nat):Int) != 95)=false):okC c=true:=by
 simp only [okC];simp at h;simp [h]
theorem okC_no {c:UInt8} (h1:(!letR ((c.toNat:Nat):Int))=true) (h2:(!digR ((c.toNat:Nat):Int))=true) (h3:(((c.toNat:Nat):Int) != 95)=true):okC c=false:=by
 simp only [letR,digR,okC] at *
 cases h4:decide (97<=((c.toNat:Nat):Int)) <;> cases h5:decide (48<=((c.toNat:Nat):Int)) <;> simp_all
noncomputable def zwb (s:Str) (i:Nat) :Cfg:=zai B.Au 0 [(0,sv s),(3,iv (i:Nat))] []
theorem zhw (s:Str) (hs:decide ((12:Int) < ((s.size:Nat):Int))=false) (i:Nat)  (hi:i<=(s.size)) (hI:(s.data.toList.take i).all okC=true):(((s.data.toList.take s.size).all okC=true)/\(decide ((((s.size):Nat):Int) < (((s.size):Nat):Int))=false)/\∀ R,Good E0 B.Au [] (zwb s s.size ) R->Good E0 B.Au [] (zwb s i ) R)\/(∃ (r:Bool),(r=false/\s.data.toList.all okC=false)/\Good E0 B.Au [] (zwb s i ) (Shut 0 fun rZ hZ=>rZ=(bv r)/\hZ=[])):=by
 have hk:=hi;revert i;refine zlp s.size (fun i hlt ih hi hI _=>?_)
 have h0:decide (((i:Nat):Int) < (((s.size):Nat):Int))=true:=by simp;omega
 have hw:IntKind.i64.wrap (((i:Nat):Int)+1)=((i+1:Nat):Int):=zba i (by (simp only [decide_eq_false_iff_not] at hs;omega))
 obtain ⟨c1,b1⟩:=zid (s:=s) (i:=(i:Int)) (by first|omega|(simp only [decide_eq_false_iff_not,decide_eq_true_eq] at *;omega))
 let p_1:List St:=[sb h0,sy b1,sc (zhn ((c1.toNat:Int)))]
 let p_2:List St:=[sb h0,sy b1,sc (zhn ((c1.toNat:Int)))]
 cases h2:!letR (c1.toNat:Int)
 ·exact zie2 (ih Zo ztS Zo) fun R gY=>zaa (wkl (p_1++[sb h2,si hw]) [0,3] 0 kr gY)
 ·let p_3:List St:=p_1++[sg h2,sy b1,sc (ztl ((c1.toNat:Int)))]
  cases h3:!digR (c1.toNat:Int)
  ·exact zie2 (ih Zo ztS Zo) fun R gY=>zaa (wkl (p_3++[sb h3,si hw]) [0,3] 0 kr gY)
  ·cases h4:(c1.toNat:Int) != 95
   ·exact zie2 (ih Zo ztS Zo) fun R gY=>zaa (wkl (p_3++[sg h3,sy b1,sb h4,si hw]) [0,3] 0 kr gY)
   ·exact .inr ⟨false,(by exact ⟨rfl,zoG (znq ‹_›) (okC_no ‹_› ‹_› ‹_›)⟩),zaa (wkr (p_3++[sg h3,sy b1,sb h4]) kr)⟩
theorem zyV {s:Str} {c:UInt8} (h:ByteAt s 0 ((c.toNat:Nat):Int)) (h1:(!letR ((c.toNat:Nat):Int))=true):zbi s=false:=by
 have e:=zoN h
 cases hv:zbi s
 ·rfl
 ·exfalso
  simp only [zbi,yR,decide_eq_true_eq] at hv
  obtain ⟨⟨⟨a1,a2⟩,a3⟩,a4⟩:=hv
  rw [e] at a3
  have a5:okC c=true:=by
   rw [yAd] at a4
   apply a4
   rw [← e]
   have:s.data.toList.getD 0 0=s.data.toList[0]'Zo:=by rw [yAF,yE Zo];rfl
   rw [this];exact List.getElem_mem _
  simp only [letR,okC] at *
  cases h4:decide (97<=((c.toNat:Nat):Int)) <;> simp_all <;> omega
theorem zyW {s:Str} {c:UInt8} (h1:decide (((s.size:Nat):Int) < 1)=false) (h2:decide ((12:Int) < ((s.size:Nat):Int))=false) (h:ByteAt s 0 ((c.toNat:Nat):Int)) (h3:(!letR ((c.toNat:Nat):Int))=false) (h4:(s.data.toList.take s.size).all okC=true):true=zbi s:=by
 have e1:=zoN h
 rw [ziM] at h1 h2 h4
 rw [yL] at h4
 have h5:97<=c.toNat:=by
  simp only [letR] at h3
  cases h6:decide (97<=((c.toNat:Nat):Int))
  ·rw [h6] at h3;simp at h3
  ·simp only [decide_eq_true_eq] at h6;omega
 simp only [decide_eq_false_iff_not] at h1 h2
 have a1:decide (1<=s.data.toList.length)=true:=by simp only [decide_eq_true_eq];omega
 have a2:decide (s.data.toList.length<=12)=true:=by simp only [decide_eq_true_eq];omega
 have a3:decide (97<=(s.data.toList.getD 0 0).toNat)=true:=by simp only [decide_eq_true_eq];rw [e1];exact h5
 simp only [zbi,a1,a2,a3,h4,Bool.and_true]
theorem zoh (s:Str) :∃ (r:Bool),r=zbi s/\zab E0 S.Au [sv s] [] (bv r) []:=by
 cases h1:decide ((↑(ByteArray.size s):Int) < 1)
 ·cases h2:decide (12 < (↑(ByteArray.size s):Int))
  ·obtain ⟨c3,b3⟩:=zid (s:=s) (i:=(0:Int)) (by first|omega|(simp only [decide_eq_false_iff_not,decide_eq_true_eq] at *;omega))
   let p_1:List St:=[sg h1,sg h2,sy b3,sc (zhn ((c3.toNat:Int)))]
   cases h4:!letR (c3.toNat:Int)
   ·rcases zhw s (by first|assumption|omega|(simp;done)|(simp;omega)) 0 (by first|assumption|omega|(simp;done)|(simp;omega)) (by first|assumption|omega|(simp;done)|(simp;omega)) with ⟨q5,q5_1,g5⟩|⟨r5_0,p5_0,g5⟩
    ·exact ⟨true,znb,wkc At.Au (p_1++[sb h4]) [0,3] 0 kr (g5 _ (zaa (wkr [sb q5_1] kr)))⟩
    ·exact ⟨r5_0,znb,wkc At.Au (p_1++[sb h4]) [0,3] 0 kr (g5)⟩
   ·exact ⟨false,znb,wk At.Au (p_1++[sb h4]) kr⟩
  ·exact ⟨false,znb,wk At.Au [sg h1,sb h2] kr⟩
 ·exact ⟨false,znb,wk At.Au [sb h1] kr⟩
theorem zd9 (s:Str):zab E0 S.Au [sv s] [] (bv (zbi s)) []:=by
 obtain ⟨r,rfl,h⟩:=zoh s
 exact h
theorem zen {p:Prop} (h:p:=by first|exact (show Int from n)|assumption|(simp only [zvL];omega)|(simp only [Pos];omega)|omega|exact ⟨by omega,rfl⟩|exact zzy (And.right ‹_/\keyC _=_›)|exact ⟨by simp;omega,RowsV.nil (by rw [ztv ‹_›];omega),by rw [ztv ‹_›];omega⟩):p:=h
theorem zdS {p:Prop} (h:p:=by first|assumption|trivial|omega|exact (fun _ r hr=>absurd hr Zs)|(simp;done)):p:=h
theorem ztT {p:Prop} (h:p:=by first|exact zdL.step hI hx (fun h=>by cases h)|exact zdL.step hI hx (zs5 ‹_›)|exact zdL.step hI hx (fresh3 ‹_›)):p:=h
theorem zpM {p:Prop} (h:p:=by first|assumption|(simp;done)|exact ⟨rfl,fun _ h=>absurd h Zs⟩):p:=h
theorem zpN {p:Prop} (h:p:=by first|assumption|(have hk':key < (s.cols.length:Int):=hko;omega)):p:=h
theorem zpO {p:Prop} (h:p:=by first|assumption|omega|(simp;done)|(simp;omega)):p:=h
def keyL:List Col->Nat->Int->Int
 | [],_,k=>k
 | c::r,i,k=>keyL r (i+1) (bif c.key then (i:Int) else k)
abbrev keyC (s:Sch):Int:=keyL s.cols 0 (-1)
theorem zqY {l:List Col} {i:Nat} {k:Int} {x:Col} {z:Int} (h:z=keyL (l.drop i) i k) (hx:l[i]?=some x):z=keyL (l.drop (i+1)) (i+1) (bif x.key then (i:Int) else k):=by
 obtain ⟨hi,e⟩:=yB.1 hx
 rw [h,yAf hi,e];rfl
theorem zpm {l:List Col} {i:Nat} {k:Int} {x:Col} {z:Int} (h:z=keyL (l.drop i) i k) (hx:l[i]?=some x) (hk:x.key=true):z=keyL (l.drop (i+1)) (i+1) (i:Int):=by
 have:=zqY h hx;rwa [hk] at this
theorem zpl {l:List Col} {i:Nat} {k:Int} {x:Col} {z:Int} (h:z=keyL (l.drop i) i k) (hx:l[i]?=some x) (hk:x.key=false):z=keyL (l.drop (i+1)) (i+1) k:=by
 have:=zqY h hx;rwa [hk] at this
theorem zzy {l:List Col} {k:Int} {z:Int} (h:z=keyL (l.drop l.length) l.length k):k=z:=by
 rw [yAG] at h;exact h.symm
structure RowsV (s:Sch) (next:Int) (rows:List Rw):Prop where
 fit:zh9 s rows
 asc:rows.Pairwise fun a b=>a.id < b.id
 ids:∀ r∈rows,1<=r.id/\r.id < next
 keys:0<=keyC s->rows.Pairwise fun a b=>zak a.vals (keyC s)≠zak b.vals (keyC s)
 pos:1<=next
theorem RowsV.nil {s:Sch} {next:Int} (h:1<=next):RowsV s next []:=⟨fun _ h=>(by cases h),.nil,fun _ h=>(by cases h),fun _=>.nil,h⟩
theorem RowsV.more {s:Sch} {next m:Int} {rows:List Rw} (h:RowsV s next rows) (hm:next<=m):RowsV s m rows:=⟨h.fit,h.asc,fun r hr=>⟨(h.ids r hr).1,by have:=(h.ids r hr).2;omega⟩,h.keys,by have:=h.pos;omega⟩
theorem RowsV.push {s:Sch} {next m:Int} {rows:List Rw} {v:List V} (h:RowsV s next rows) (hv:zbJ s.cols v) (hf:∀ r∈rows,keyC s < 0\/zak r.vals (keyC s)≠zak v (keyC s)) (hm:next < m):RowsV s m (rows++[⟨next,v⟩]):=by
 refine ⟨h.fit.push hv,?_,?_,?_,by have:=h.pos;omega⟩
 ·rw [yAq];exact ⟨h.asc,by simp,fun a ha b hb=>by simp only [yF] at hb;subst hb;exact (h.ids a ha).2⟩
 ·intro r hr
  rcases yK.1 hr with hr|hr
  ·have:=h.ids r hr;omega
  ·simp only [yF] at hr;subst hr;have:=h.pos;simp only;omega
 ·intro hk
  rw [yAq];exact ⟨h.keys hk,by simp,fun a ha b hb=>by simp only [yF] at hb;subst hb;exact (hf a ha).resolve_left Zo⟩
theorem veq_of {a b:V} (h:(!(a.kind==b.kind&&(a.int==b.int&&(a.text==b.text&&true))))=true):a≠b:=by
 rintro rfl;simp at h
def zdL (key:Int) (rv:List V) (rows:List Rw):Prop:=∀ r∈rows,key < 0\/zak r.vals key≠zak rv key
theorem zdL.step {key:Int} {rv:List V} {rows:List Rw} {i:Nat} {x:Rw} {f g:Bool} (h:f=true->zdL key rv (rows.take i)) (hx:rows[i]?=some x) (hg:g=true->f=true/\(key < 0\/zak x.vals key≠zak rv key)):g=true->zdL key rv (rows.take (i+1)):=by
 intro hg1 r hr
 rw [yP,hx] at hr
 rcases yK.1 hr with hr|hr
 ·exact h (hg hg1).1 r hr
 ·simp at hr;subst hr;exact (hg hg1).2
theorem zs5 {key:Int} {rv xv:List V} {f:Bool} (h2:decide (key < 0)=false) (hg:(bif f then bif decide (key < 0) then true else !((zak xv key).kind==(zak rv key).kind&&((zak xv key).int==(zak rv key).int&&((zak xv key).text==(zak rv key).text&&true))) else false)=true):f=true/\(key < 0\/zak xv key≠zak rv key):=by
 cases f
 ·simp at hg
 ·refine ⟨rfl,.inr (veq_of ?_)⟩;rw [h2] at hg;simpa using hg
theorem fresh3 {key:Int} {P:Prop} {f:Bool} (h2:decide (key < 0)=true) (hg:(bif f then true else false)=true):f=true/\(key < 0\/P):=by
 cases f
 ·simp at hg
 ·exact ⟨rfl,.inl (by simpa using h2)⟩
theorem zvv {n:Int} {a b:Nat} (ha:(a:Int) < 2) (hb:(b:Int) < 2) (hn:1<=n/\n<=1000000):n < IntKind.i64.wrap (n+IntKind.i64.wrap (1+IntKind.i64.wrap ((a:Int) * (b:Int))))/\IntKind.i64.wrap (n+IntKind.i64.wrap (1+IntKind.i64.wrap ((a:Int) * (b:Int))))<=n+2:=by
 have e:(a:Int) * (b:Int)=0\/(a:Int) * (b:Int)=1:=by
  have:a=0\/a=1:=by omega
  have:b=0\/b=1:=by omega
  rcases ‹a=0\/a=1› with rfl|rfl <;> rcases ‹b=0\/b=1› with rfl|rfl <;> simp
 rcases e with e|e <;> rw [e] <;> simp only [IntKind.wrap_i64] <;> omega
noncomputable def L_tvK (t0:Tp) (s:Sch) (n:Int) (u:Tp) (next:Int) (i:Nat) (key:Int):Cfg:=zai B.AL 0 [(0,.p 0 0),(2,iv n),(4,.p 1 0),(6,.p 2 0),(7,.p 3 0),(8,iv key),(22,.sl (s.cols.map Col.cells)),(23,iv ((s.cols.map Col.cells).length:Nat)),(24,iv (i:Nat))] [.box u.cells,.box s.cells,.box zT,.box [sv s.name,.sl (s.cols.map Col.cells),iv next,.nl]]
theorem zf3 (t0:Tp) (s:Sch) (n:Int) (u:Tp) (next:Int) (hs:Few s.cols) (i:Nat) (key:Int) (hi:i<=(s.cols).length) (hI:key < (i:Int)/\keyC s=keyL (s.cols.drop i) i key):∃ (key':Int),(key' < ((s.cols).length:Int)/\keyC s=keyL (s.cols.drop (s.cols).length) (s.cols).length key')/\(decide ((((s.cols).length:Nat):Int) < (((s.cols.map Col.cells).length:Nat):Int))=false)/\∀ R,Good E0 B.AL [.box t0.cells] (L_tvK t0 s n u next (s.cols).length key') R->Good E0 B.AL [.box t0.cells] (L_tvK t0 s n u next i key) R:=by
 have hk:=hi;revert i key;refine zlp ((s.cols).length) (fun i hlt ih key hi hI _=>?_)
 obtain ⟨x,hx,h0,hw⟩:=zlq (l:=s.cols) ((s.cols.map Col.cells).length) hlt
 let p_1:List St:=[sb h0,se (zaf Col.cells hx rfl)]
 cases h1:x.key
 ·exact Zih (ih key Zo (by first|exact ⟨by omega,zpm hI.2 hx ‹_›⟩|exact ⟨by omega,zpl hI.2 hx ‹_›⟩) Zo) fun R gY=>zaa (wkl (p_1++[sb h1,si hw]) [0,2,4,6,7,8,22,23,24] 4 kr gY)
 ·exact Zih (ih ((i:Int)) Zo (by first|exact ⟨by omega,zpm hI.2 hx ‹_›⟩|exact ⟨by omega,zpl hI.2 hx ‹_›⟩) Zo) fun R gY=>zaa (wkl (p_1++[sb h1,si hw]) [0,2,4,6,7,8,22,23,24] 4 kr gY)
noncomputable def L_tvR (t0:Tp) (s:Sch) (key:Int) (k:Nat) (u:Tp) (next:Int) (rows:List Rw):Cfg:=zai B.AL 1 [(0,.p 0 0),(4,.p 1 0),(6,.p 2 0),(7,.p 3 0),(8,iv key),(11,iv (k:Nat))] [.box u.cells,.box s.cells,.box zT,.box [sv s.name,.sl (s.cols.map Col.cells),iv next,.own 4 rows.length],.row Ty.Row (rows.map Rw.cells) false]
noncomputable def L_tvI (t0:Tp) (s:Sch) (key:Int) (k:Nat) (u:Tp) (next:Int) (rows:List Rw) (rv:List V) (i:Nat) (fresh:Bool):Cfg:=zai B.AL 2 [(0,.p 0 0),(4,.p 1 0),(6,.p 2 0),(7,.p 3 0),(8,iv key),(11,iv (k+1:Nat)),(12,vsl rv),(13,bv fresh),(45,.own 4 rows.length),(46,iv (rows.length:Nat)),(47,iv (i:Nat))] [.box u.cells,.box s.cells,.box zT,.box [sv s.name,.sl (s.cols.map Col.cells),iv next,.own 4 rows.length],.row Ty.Row (rows.map Rw.cells) false]
theorem zf2 (t0:Tp) (s:Sch) (key:Int) (k:Nat) (u:Tp) (next:Int) (rows:List Rw) (rv:List V) (hko:zvL s.cols.length key) (hr:Few rows) (hrs:zh9 s rows) (hrv:zbJ s.cols rv) (i:Nat) (fresh:Bool) (hi:i<=(rows).length) (hI:fresh=true->zdL key rv (rows.take i)):∃ (fresh':Bool),(fresh'=true->zdL key rv (rows.take (rows).length))/\(decide ((((rows).length:Nat):Int) < (((rows).length:Nat):Int))=false)/\∀ R,Good E0 B.AL [.box t0.cells] (L_tvI t0 s key k u next rows rv (rows).length fresh') R->Good E0 B.AL [.box t0.cells] (L_tvI t0 s key k u next rows rv i fresh) R:=by
 have hk:=hi;revert i fresh;refine zlp ((rows).length) (fun i hlt ih fresh hi hI _=>?_)
 obtain ⟨x,hx,h0,hw⟩:=zlq (l:=rows) ((rows).length) hlt
 have hvl:=hrv.len;have hxl:=hrs.len hx;have ho:OwnAt (rows.map Rw.cells) rows.length ((i:Nat):Int):=⟨by simp,by omega,by have:=zb1 hx;simp;omega⟩
 let p_1:List St:=[sb h0,sqx (OwnAt (List.map Rw.cells rows) rows.length (i:Int)),sx (.el x.cells) (zcp Rw.cells (n:=rows.length) Zs hx)]
 rcases (yD fresh).symm with h1|h1
 ·exact Zih (ih false Zo ztT Zo) fun R gY=>zaa (wklN (p_1++[sd [(2,[sb h1]),(3,[sb h1]),(4,[sb h1]),(15,[sb h1]),(16,[sb h1])],si hw]) [0,4,6,7,8,11,12,13,45,46,47] 5 [(.bl 13,5)] kr gY)
 ·cases h2:decide (key < 0)
  ·exact Zih (ih (bif fresh then bif decide (key < 0) then true else !((zak x.vals key).kind==(zak rv key).kind&&((zak x.vals key).int==(zak rv key).int&&((zak x.vals key).text==(zak rv key).text&&true))) else false) Zo ztT Zo) fun R gY=>zaa (wkl (p_1++[sd [(2,[sg h1]),(3,[sg h1]),(4,[sg h1]),(5,[sg h2]),(6,[sg h2]),(7,[sg h2]),(8,[so h2 (se (zcT x.vals key zpN zpN))]),(9,[sg h2]),(10,[sg h2]),(11,[sg h2]),(12,[so h2 (se (zcT rv key zpN zpN))]),(13,[sg h2]),(14,[so h2 (sq zaY)]),(15,[sg h1])],si hw]) [0,4,6,7,8,11,12,13,45,46,47] 5 kr gY)
  ·exact Zih (ih (bif fresh then true else false) Zo ztT Zo) fun R gY=>zaa (wkl (p_1++[sd [(2,[sg h1]),(3,[sg h1]),(4,[sg h1]),(5,[sb h2]),(6,[sb h2]),(7,[sb h2]),(8,[sb h2]),(9,[sb h2]),(10,[sb h2]),(11,[sb h2]),(12,[sb h2]),(13,[sb h2]),(14,[sb h2]),(15,[so h1 (sb h2)])],si hw]) [0,4,6,7,8,11,12,13,45,46,47] 5 kr gY)
theorem zwI {s:Sch} {key:Int} {rv:List V} {rows:List Rw} (hk:key=keyC s) (h:zdL key rv (rows.take rows.length)):∀ r∈rows,keyC s < 0\/zak r.vals (keyC s)≠zak rv (keyC s):=by
 subst hk;rw [yL] at h;exact h
theorem zvG {s:Sch} {next n:Int} {rows:List Rw} {k a b:Nat} (hI:((rows.length+(k+1):Nat):Int)<=n/\RowsV s next rows/\next+2 * ((k+1:Nat):Int)<=3000) (ha:(a:Int) < 2) (hb:(b:Int) < 2):((rows.length+k:Nat):Int)<=n/\RowsV s (IntKind.i64.wrap (next+IntKind.i64.wrap (1+IntKind.i64.wrap ((a:Int) * (b:Int))))) rows/\IntKind.i64.wrap (next+IntKind.i64.wrap (1+IntKind.i64.wrap ((a:Int) * (b:Int))))+2 * ((k:Nat):Int)<=3000:=by
 have h:=zvv (n:=next) ha hb ⟨hI.2.1.pos,by omega⟩
 exact ⟨by omega,hI.2.1.more Zo,by omega⟩
theorem zvH {s:Sch} {key next n:Int} {rows:List Rw} {v:List V} {k a b:Nat} (hI:((rows.length+(k+1):Nat):Int)<=n/\RowsV s next rows/\next+2 * ((k+1:Nat):Int)<=3000) (hkc:key=keyC s) (hv:zbJ s.cols v) (hf:zdL key v (rows.take rows.length)) (ha:(a:Int) < 2) (hb:(b:Int) < 2):(((rows++[Rw.mk next v]).length+k:Nat):Int)<=n/\RowsV s (IntKind.i64.wrap (next+IntKind.i64.wrap (1+IntKind.i64.wrap ((a:Int) * (b:Int))))) (rows++[⟨next,v⟩])/\IntKind.i64.wrap (next+IntKind.i64.wrap (1+IntKind.i64.wrap ((a:Int) * (b:Int))))+2 * ((k:Nat):Int)<=3000:=by
 have h:=zvv (n:=next) ha hb ⟨hI.2.1.pos,by omega⟩
 exact ⟨by simp;omega,hI.2.1.push hv (zwI hkc hf) Zo,by omega⟩
theorem Zcv3 {p:Prop} (h:p:=by first|rfl|(simp;done)|(simp [X.cells,Qy.cells,V.cells,Col.cells,Rw.cells,Tb.cells,Fr.cells,Sch.cells,Tp.cells,Pl.cells,xCol,xLit,xBin,xNeg,Ac.cells,Se.cells,Pr.cells,Ch.cells,Rw.cells];done)):p:=h
theorem zf4 (t0:Tp) (s:Sch) (key:Int) (n:Int) (hn9:n<=900) (hk:zvL s.cols.length key) (hkc:key=keyC s) (hs:SchOk s) (k:Nat) (u:Tp) (next:Int) (rows:List Rw) (hi:k<=1000000000) (hI:((rows.length+k:Nat):Int)<=n/\RowsV s next rows/\next+2 * (k:Int)<=3000):∃ (u':Tp) (next':Int) (rows':List Rw),(((rows'.length+0:Nat):Int)<=n/\RowsV s next' rows'/\next'+2 * (0:Int)<=3000)/\(decide ((0:Int) < ((0:Nat):Int))=false)/\∀ R,Good E0 B.AL [.box t0.cells] (L_tvR t0 s key 0 u' next' rows') R->Good E0 B.AL [.box t0.cells] (L_tvR t0 s key k u next rows) R:=by
 induction k generalizing u next rows with
 | zero=>exact ⟨u,next,rows,hI,by decide,fun R hg=>hg⟩
 | succ k ih =>
  have h0:decide ((0:Int) < (((k+1):Nat):Int))=true:=by first|(simp;done)|(simp;omega)
  have hw:IntKind.i64.wrap (((k+1:Nat):Int) - 1)=((k:Nat):Int):=zfj k Zo
  have hR:=hI.2.1.fit;have hsh:=hs.short;have hco:=hs.cols;have hfw:Few rows:=by simp only [Few];omega
  obtain ⟨r1,t1,q1,c1⟩:=(zoA u s zdS zdS)
  obtain ⟨zs5,q2,q2_1,g2⟩:=zf2 t0 s key k t1 next rows r1 zdS zdS zdS zdS 0 true zdS zdS
  let p_1:List St:=[sb h0,sl [0] c1,sqx (rows.length=(List.map Rw.cells rows).length)]
  rcases (yD zs5).symm with h3|h3
  ·obtain ⟨a4,t4,q4,c4⟩:=(zae t1 2 zdS)
   obtain ⟨a5,t5,q5,c5⟩:=(zae t4 2 zdS)
   obtain ⟨uZ,nextZ,rowsZ,qZ,xZ,gZ⟩:=ih t5 (IntKind.i64.wrap (next+IntKind.i64.wrap (1+IntKind.i64.wrap ((a4:Int) * (a5:Int))))) rows Zo (by first|exact zvG hI ‹_› ‹_›|exact zvH hI hkc ‹_› (‹_=true->zdL _ _ _› ‹_›) ‹_› ‹_›);exact ⟨uZ,nextZ,rowsZ,qZ,xZ,fun R hg=>zaa (wklN p_1 [0,4,6,7,8,11,12,13,45,46,47] 5 [(.bl 13,5)] kr (g2 _ (zaa (wkl [sb q2_1,sb h3,sd [(3,[sl [0] c4]),(5,[sl [0] c5]),(6,[si (e:=IntKind.i64.wrap ((a4:Int) * (a5:Int))) rfl]),(7,[si (e:=IntKind.i64.wrap (1+IntKind.i64.wrap ((a4:Int) * (a5:Int)))) rfl]),(8,[si (e:=IntKind.i64.wrap (next+IntKind.i64.wrap (1+IntKind.i64.wrap ((a4:Int) * (a5:Int))))) rfl])],si hw] [0,4,6,7,8,11] 5 kr (gZ R hg)))))⟩
  ·obtain ⟨a6,t6,q6,c6⟩:=(zae t1 2 zdS)
   obtain ⟨a7,t7,q7,c7⟩:=(zae t6 2 zdS)
   obtain ⟨uZ,nextZ,rowsZ,qZ,xZ,gZ⟩:=ih t7 (IntKind.i64.wrap (next+IntKind.i64.wrap (1+IntKind.i64.wrap ((a6:Int) * (a7:Int))))) (rows++[Rw.mk next r1]) Zo (by first|exact zvG hI ‹_› ‹_›|exact zvH hI hkc ‹_› (‹_=true->zdL _ _ _› ‹_›) ‹_› ‹_›);exact ⟨uZ,nextZ,rowsZ,qZ,xZ,fun R hg=>zaa (wklN p_1 [0,4,6,7,8,11,12,13,45,46,47] 5 [(.bl 13,5)] kr (g2 _ (zaa (wkl [sb q2_1,sb h3,sqA (List.map Rw.cells rows) [[iv next,vsl r1]] rows.length 2 32,sd [(3,[sl [0] c6]),(5,[sl [0] c7]),(6,[si (e:=IntKind.i64.wrap ((a6:Int) * (a7:Int))) rfl]),(7,[si (e:=IntKind.i64.wrap (1+IntKind.i64.wrap ((a6:Int) * (a7:Int)))) rfl]),(8,[si (e:=IntKind.i64.wrap (next+IntKind.i64.wrap (1+IntKind.i64.wrap ((a6:Int) * (a7:Int))))) rfl])],si hw] [0,4,6,7,8,11] 5 kr (zas rfl (show ([Blk.box [AV.sl (List.map (fun n=>[iv n]) t7.l),iv (t7.pos:Int)],Blk.box s.cells,Blk.box [sv Zs0,AV.nl,iv 0,AV.nl],Blk.box [sv s.name,ZC s.cols,iv (IntKind.i64.wrap (next+IntKind.i64.wrap (1+IntKind.i64.wrap ((a6:Int) * (a7:Int))))),AV.own 4 (List.map Rw.cells rows++[[iv next,vsl r1]]).length],Blk.row Ty.Row (List.map Rw.cells rows++[[iv next,vsl r1]]) false]:Heap)=_ from Zcv3) (gZ R hg))))))⟩
theorem ztv {a:Nat} (ha:(a:Int) < 3):IntKind.i64.wrap (1+(a:Int))=1+(a:Int):=by rw [IntKind.wrap_i64];omega
theorem zjn (t:Tp) (s:Sch) (n:Int) (hs:SchOk s) (hf:Few s.cols) (hn:0<=n/\n<=900) (hw:IntKind.i64.wrap (n+1)=n+1):∃ (rows:List Rw) (next:Int) (t':Tp),((rows.length:Int)<=n/\RowsV s next rows/\next<=3000)/\zab E0 S.AL [.p 0 0,s.av,iv n] [.box t.cells] (Tb.av ⟨s,next,rows⟩) [.box t'.cells]:=by
 obtain ⟨a1,t1,q1,c1⟩:=(zae t 3 zen)
 obtain ⟨key2,q2,q2_1,g2⟩:=zf3 t s n t1 (IntKind.i64.wrap (1+(a1:Int))) zen 0 (-1) zen zen
 obtain ⟨a3,t3,q3,c3⟩:=(zae t1 (n+1) zen)
 obtain ⟨u4,next4,rows4,q4,q4_1,g4⟩:=zf4 t s key2 n zen zen zen zen a3 t3 (IntKind.i64.wrap (1+(a1:Int))) ([]) zen zen
 exact ⟨rows4,next4,u4,(by exact ⟨by omega,(‹_/\RowsV _ _ _/\_›).2.1,by omega⟩),wkc At.AL [sdm [(2,[sl [0] c1]),(3,[si (e:=IntKind.i64.wrap (1+(a1:Int))) rfl])] 0 [(0,AV.p 0 0),(1,AV.agg s.cells),(2,iv n),(4,AV.p 1 0),(6,AV.p 2 0),(7,AV.p 3 0),(16,AV.agg s.cells),(17,AV.p 0 0),(18,iv (a1:Int)),(19,iv (IntKind.i64.wrap (1+(a1:Int)))),(20,AV.agg [sv s.name,ZC s.cols,iv (IntKind.i64.wrap (1+(a1:Int))),AV.nl])] [Blk.box [AV.sl (List.map (fun n=>[iv n]) t1.l),iv (t1.pos:Int)],Blk.box s.cells,Blk.box [sv Zs0,AV.nl,iv 0,AV.nl],Blk.box [sv s.name,ZC s.cols,iv (IntKind.i64.wrap (1+(a1:Int))),AV.nl]]] [0,2,4,6,7,8,22,23,24] 4 kr (g2 _ (zaa (wklN [sb q2_1,si hw,sl [0] c3] [0,4,6,7,8,11] 4 [(.ob 3 3 Ty.Row,5)] kr (g4 _ (zaa (wkr [sqx (True/\True/\True/\rows4.length=(List.map Rw.cells rows4).length/\True),sb Zf] kr))))))⟩
structure StoreV (n:Int) (l:List Tb):Prop where
 schs:l.map Tb.sch=zan
 rows:∀ t∈l,RowsV t.sch t.next t.rows
 next:∀ t∈l,t.next<=3000
 len:∀ t∈l,(t.rows.length:Int)<=n
structure StoreP (n:Int) (i:Nat) (l:List Tb):Prop where
 schs:l.map Tb.sch=zan.take i
 tabs:∀ t∈l,RowsV t.sch t.next t.rows/\t.next<=3000/\(t.rows.length:Int)<=n
theorem StoreP.push {n:Int} {i:Nat} {l:List Tb} {x:Sch} {nx:Int} {rs:List Rw} (h:StoreP n i l) (hx:zan[i]?=some x) (ht:(rs.length:Int)<=n/\RowsV x nx rs/\nx<=3000):StoreP n (i+1) (l++[⟨x,nx,rs⟩]) :=
 ⟨by rw [yAR,h.schs,yP,hx];rfl,fun t hm=>(yK.1 hm).elim (h.tabs t) fun h=>by simp only [yF] at h;subst h;exact ⟨ht.2.1,ht.2.2,ht.1⟩⟩
theorem StoreP.all {n:Int} {l:List Tb} (h:StoreP n zan.length l):StoreV n l :=
 ⟨by rw [h.schs,yL],fun t ht=>(h.tabs t ht).1,fun t ht=>(h.tabs t ht).2.1,fun t ht=>(h.tabs t ht).2.2⟩
theorem StoreV.ok {n:Int} {l:List Tb} (h:StoreV n l) (hn:n<=1000:=by decide):StoreOk l :=
 ⟨by have:=congrArg List.length h.schs;simp [zan] at this;omega,fun t ht=>⟨⟨(h.rows t ht).fit,by have:=h.len t ht;omega⟩,zep (by rw [← h.schs];exact List.mem_map_of_mem ht)⟩⟩
noncomputable def L_stV (t0:Tp) (n:Int) (i:Nat) (u:Tp) (out:List Tb):Cfg:=zai B.BU 0 [(0,.p 0 0),(1,iv n),(5,.own 1 out.length),(8,.sl (zan.map Sch.cells)),(9,iv ((zan.map Sch.cells).length:Nat)),(10,iv (i:Nat))] [.box u.cells,.row Ty.Table (out.map Tb.cells) false]
theorem zgB (t0:Tp) (n:Int) (hs:zac zan) (hn:0<=n/\n<=900) (i:Nat) (u:Tp) (out:List Tb) (hi:i<=(zan).length) (hI:StoreP n i out):∃ (u':Tp) (out':List Tb),(StoreP n (zan).length out')/\(decide ((((zan).length:Nat):Int) < (((zan.map Sch.cells).length:Nat):Int))=false)/\∀ R,Good E0 B.BU [.box t0.cells] (L_stV t0 n (zan).length u' out') R->Good E0 B.BU [.box t0.cells] (L_stV t0 n i u out) R:=by
 have hk:=hi;revert i u out;refine zlp ((zan).length) (fun i hlt ih u out hi hI _=>?_)
 obtain ⟨x,hx,h0,hw⟩:=zlq (l:=zan) ((zan.map Sch.cells).length) hlt
 have hsx:=zep (yC hx);have hfx:=hsx.few;have hl0:out.length=(zan.take i).length:=by rw [← hI.schs];simp
 have hlen:out.length<=10:=by rw [hl0];simp only [yV,zan,yAL,yAS];omega
 have hw1:IntKind.i64.wrap (n+1)=n+1:=by rw [IntKind.wrap_i64];omega
 obtain ⟨rows1,next1,t1,q1,c1⟩:=(zjn u x n zpO zpO zpO zpO)
 obtain ⟨uZ,outZ,qZ,xZ,gZ⟩:=ih t1 (out++[Tb.mk x next1 rows1]) Zo (by exact hI.push hx ‹_›) Zo;exact ⟨uZ,outZ,qZ,xZ,fun R hg=>zaa (wkl [sb h0,se (zaf Sch.cells hx rfl),sl [0] c1,sqA (List.map Tb.cells out) [[sv x.name,ZC x.cols,iv next1,ZW rows1]] out.length 4 72,si hw] [0,1,5,8,9,10] 2 kr (zaK 5 1 (List.map Tb.cells out++[[sv x.name,ZC x.cols,iv next1,ZW rows1]]) (gZ R hg) (he:=Zcv3) (hm:=Zcv3)))⟩
theorem zlh (t:Tp) (n:Int) (hs:zac zan) (hn:0<=n/\n<=900):∃ (r:List Tb) (t':Tp),StoreV n r/\zab E0 S.BU [.p 0 0,iv n] [.box t.cells] (tsl r) [.box t'.cells]:=by
 obtain ⟨u1,out1,q1,q1_1,g1⟩:=zgB t n zpM zpM 0 t ([]) zpM zpM
 exact ⟨out1,u1,(by exact StoreP.all ‹_›),wkcN At.BU [sc zfB] [0,1,5,8,9,10] 1 [(.ot 5 Ty.Table,2)] kr (g1 _ (zaa (wkr [sqx (out1.length=(List.map Tb.cells out1).length),sb Zf] kr)))⟩
def XFl:Nat->X->Prop
 | 0,_=>False
 | n+1,e=>e.val.Good/\Thin 3 e.args/\e.sub=[]/\∀ x∈e.args,XFl n x
theorem XFl.ok:∀ {n:Nat} {e:X},XFl n e->XOk n e
 | 0,_,h=>h.elim
 | n+1,e,⟨h1,h2,h3,h4⟩=>⟨h1,⟨h2,by rw [h3];simp⟩,fun x hx=>(h4 x hx).ok,fun q hq=>by rw [h3] at hq;cases hq⟩
theorem XFl.mono:∀ {n:Nat} {e:X},XFl n e->XFl (n+1) e
 | 0,_,h=>h.elim
 | n+1,e,⟨h1,h2,h3,h4⟩=>⟨h1,h2,h3,fun x hx=>(h4 x hx).mono⟩
def insI:Nat->List Int->List Int
 | 0,l=>l
 | k+1,l=>bif decide (l.getD (k+1) 0 < l.getD k 0) then insI k ((l.set (k+1) (l.getD k 0)).set k (l.getD (k+1) 0)) else l
theorem ztg:∀ (k:Nat) (l:List Int),(insI k l).length=l.length
 | 0,_=>rfl
 | k+1,l=>by
  unfold insI
  cases decide (l.getD (k+1) 0 < l.getD k 0)
  ·rfl
  ·rw [cond_true,ztg];simp
def srtI:Nat->Nat->List Int->List Int
 | 0,_,l=>l
 | m+1,i,l=>srtI m (i+1) (insI i l)
def srt1 (l:List Int):List Int:=srtI (l.length - 1) 1 l
theorem zt8:∀ (m i:Nat) (l:List Int),(srtI m i l).length=l.length
 | 0,_,_=>rfl
 | m+1,i,l=>by unfold srtI;rw [zt8,ztg]
@[simp] theorem srt1_len (l:List Int):(srt1 l).length=l.length:=zt8 _ _ _
end Go.AM
namespace Go.AM
open Go.RowKit
def zr5 (E:Env0) (c:Cfg):Option (TypeId × Nat × List AV):=match c.todo with
 | .ops all (o::_)::_=>match znB all o c.ts&&zaR c.n o.dst,o.op with
  | true,.buildSlice t n parts=>match (E.T t).kind with
   | .slice el=>match fill (fun i=>some (i * (E.T el).size,(E.T el).size)) (repl (E.T el).zero n) (parts.toList.map fun (i,x)=>(i,ev E.G c.ts x)),Nat.ble (n * (E.T el).size) 16777216 with
    | some cs,true=>some (el,n,cs)
    | _,_=>none
   | _=>none
  | _,_=>none
 | _=>none
def zkg (c:Cfg) (e:TypeId) (n:Nat) (xs:List (List AV)):Cfg:=match c.todo with
 | .ops all (o::rest)::k=>⟨c.n,.ops all rest::k,put c.ts o.dst (.own c.h.length n),c.h++[.row e xs false]⟩
 | _=>c
theorem zzs {E:Env0} (ht:zaH E) {fn:Func} {h0:Heap} {c:Cfg} {R:AV->Heap->Prop} {e:TypeId} {n:Nat} {cs:List AV} (hc:zr5 E c=some (e,n,cs)) (hn0:0 < n) (ho:frzB c.h cs=none) (hm:zbv cs=[])
  (hg:Good E fn h0 (zkg c e n (zcC (E.T e).size n (frzL c.h cs))) R):Good E fn h0 c R:=by
 intro β0 S0 w0 β S w tmps hb0 hn x0 r rt
 obtain ⟨nn,todo,ts,h⟩:=c
 simp only at hn x0 r rt ho ⊢
 unfold zr5 at hc
 simp only at hc
 split at hc
 ·rename_i all o rest k
  split at hc
  ·rename_i t n' parts hchk hop
   simp only [yR] at hchk
   obtain ⟨hgo,hd⟩:=hchk
   split at hc
   ·rename_i e' hk
    split at hc
    ·rename_i cs' hf hle
     simp only [yA,Prod.mk.injEq] at hc
     obtain ⟨rfl,rfl,rfl⟩:=hc
     simp only [kont,Exit.then]
     refine wpList_step fun K hK=>?_
     rw [if_pos (zrj rt hgo)]
     have hpw:=zou r rt parts.toList
     have hle:=yI hle
     obtain ⟨i,d,z,tok⟩:=ht.at_ (zax (by rw [hk];simp):E.T t≠_)
     obtain ⟨rfl,hes⟩:=tok.slice_ hk
     obtain ⟨i2,d2,z2,tok2⟩:=ht.at_ (za2 hes)
     obtain ⟨z1,z3⟩:=zdK (T:=E.T) (h:=h) (β:=β) (w:=w) (S:=S) _ _ tok2.zok
     have hzl:=tok2.zlen
     have hzs:z2.cells.size=(E.T e').size:=by rw [← yAM,← z1,hzl]
     let zs:List Value:=(List.range (n' * (E.T e').size)).map fun k=>z2.cells[k % z2.cells.size]!
     have hz:PW (RelC E.T h β w S) (repl (E.T e').zero n') zs:=by
      refine ⟨by simp [zs,zdm,hzl],fun k x y hx hy=>?_⟩
      have hkl:k < n' * (E.T e').size:=by have:=(yB.1 hx).1;rwa [zdm,hzl] at this
      rw [zov _ n' k (by rw [hzl];exact hkl),hzl] at hx
      have hkm:k % (E.T e').size < z2.cells.size:=by rw [hzs];exact Nat.mod_lt _ Zo
      simp [zs,hkl] at hy
      rw [hzs] at hy
      rw [getElem!_pos z2.cells _ hkm] at hy
      refine z3 _ x y hx ?_
      rw [yW,yAc hkm,hy]
     obtain ⟨out',o1,o2,o3⟩:=zkp (R:=RelC E.T h β w S) rfl _ _ _ _ _ zs hpw hz hf
     have hcl:cs'.length=n' * (E.T e').size:=by rw [o3,zdm,hzl]
     obtain ⟨S1,⟨e1,r1⟩,d1⟩:=zgq E cs' h β S w out' r o2.1 (fun i x y h1 h2=>(o2.2 i x y h1 h2).1) (zvl (by rw [ho];trivial))
     rw [hm] at e1 r1
     have hmax:n'<=maxLen:=by
      have:n' * 1<=n' * (E.T e').size:=Nat.mul_le_mul_left _ Zo
      unfold maxLen
      omega
     have hsl:(share h [])=h:=rfl
     rw [hsl] at e1 r1
     let w':=w.alloc (.cells out'.toArray e')
     have hb:BelowD w.heap.size w w':=(BelowD.refl _ _).alloc (yJ _) _
     have hnew:w'.heap[w.heap.size]?=some (.cells out'.toArray e' (0,0)):=heap_alloc_new w _
     have hsz:w'.heap.size=w.heap.size+1:=by simp [w']
     have hol:out'.length=n' * (E.T e').size:=by rw [← o2.1,hcl]
     have hxl:(frzL h cs').length=n' * (E.T e').size:=by rw [zcV,hcl]
     have hrow:zdM E.T w' S1 e' (zcC (E.T e').size n' (frzL h cs')) (.row w.heap.size n'):=by
      refine ⟨out'.toArray,hnew,by rw [zb2];exact yJ _,hn0,hmax,by simpa using hol,fun i c hi=>?_,fun i j c x hi hj=>?_⟩
      ·have hin:i < n':=by have:=(yB.1 hi).1;rwa [zb2] at this
       rw [zfv _ n' _ i hin] at hi
       cases hi
       have:(i+1) * (E.T e').size<=n' * (E.T e').size:=yU _ hin
       rw [yAA,yAb] at this
       simp
       omega
      ·have hin:i < n':=by have:=(yB.1 hi).1;rwa [zb2] at this
       rw [zfv _ n' _ i hin] at hi
       cases hi
       rw [yM] at hj
       split at hj
       ·rename_i hjs
        rw [yX] at hj
        have hlt:=(yB.1 hj).1
        have hlt2:i * (E.T e').size+j < out'.length:=by rw [hol,← hxl];exact hlt
        have hvj:out'[i * (E.T e').size+j]?=some (out'[i * (E.T e').size+j]'hlt2):=yE hlt2
        refine ⟨out'[i * (E.T e').size+j]'hlt2,by simp,(d1 _ _ _ hj hvj).mono (fun _ h=>h) fun a ha=>hb.cell (r1.stable a ha),zjC o2 _ (yC hvj)⟩
       ·cases hj
     obtain ⟨e2,r2⟩:=r1.newRow e' (zcC (E.T e').size n' (frzL h cs')) false (.row w.heap.size n') hb (fun g hg=>by
      simp only [Con.blk,yA] at hg
      subst hg
      exact ⟨yJ _,by omega⟩) hrow
     have hkg:(β++[Con.row w.heap.size n'])[h.length]?=some (.row w.heap.size n'):=by rw [← r.len,getElem?_append_new]
     have hgt:¬ (n' * (E.T e').size > 2 ^ 24):=by omega
     have hrun:(execOp (Act.eval ⟨tmps,[]⟩) o).run E.P w=.ok (.value (.slice (some ⟨w.heap.size,0,none⟩) n' n')) w':=by
      have h0:¬ (n' * (E.T e').size=0):=by
       have:=Nat.mul_pos hn0 (Nat.pos_of_ne_zero hes);omega
      have harr:(Array.range (n' * (E.T e').size)).map (fun k=>z2.cells[k % z2.cells.size]!)=zs.toArray:=by
       apply Array.ext'
       simp [zs,yAs,Array.toList_range]
      simp only [execOp,hop,Instr.buildSlice,Sem.run_bind,run_underlying tok.und,Result.andThen_ok,tok2.sizeOf,if_neg hgt,Sem.run_ite,if_neg h0,tok2.zeroValue,harr,yAs,o1,Sem.run_pure,newRow,run_newObj]
      simp [w']
     unfold Oper.wp
     rw [hrun,Oper.upon_value,zb3]
     refine hK _ _ ?_
     have ee:=e1.trans e2
     have rt':zaF E.T (h++[.row e' (zcC (E.T e').size n' (frzL h cs')) false]) (β++[Con.row w.heap.size n']) w' S1 ts tmps:=fun t=>(rt t).ext ee
     have:=hg β0 S0 w0 _ S1 w' (Act.put ⟨tmps,[]⟩ o.dst (.slice (some ⟨w.heap.size,0,none⟩) n' n')).tmps hb0 (by simp only [zkg];rw [zcz];exact hn) (x0.trans ee) r2
      (rt'.put (by rw [hn];exact hd) (.own h.length n' _ e' _ false (getElem?_append_new _ _) (by rw [zb2];exact yJ _) (fun _=>by rw [hkg];rfl) rfl))
     simp only [zkg,kont,Exit.then] at this
     exact this
    ·cases hc
   ·cases hc
  ·cases hc
 ·cases hc
end Go.AM
namespace Go.AM
structure InsI (l:List Lk) (x:Lk) (i:Nat) (out:List Lk) (done:Bool):Prop where
 nd:out.Nodup
 sub:∀ z∈out,z=x\/z∈l.take i
 sup:∀ z∈l.take i,z=x\/z∈out
 dn:x∈out↔done=true
theorem zg5 {α:Type}:∀ (l m:List α),l.Nodup->(∀ x∈l,x∈m)->l.length<=m.length
 | [],_,_,_=>by simp
 | x::r,m,hn,hs=>by
  haveI:DecidableEq α:=fun a b=>Classical.propDecidable (a=b)
  rw [List.nodup_cons] at hn
  have hx:x∈m:=hs x Zs
  have h1:=zg5 r (m.erase x) hn.2 fun y hy=>(List.mem_erase_of_ne (by rintro rfl;exact hn.1 hy)).2 (hs y (by simp [hy]))
  rw [List.length_erase_of_mem hx] at h1
  have h2:=List.length_pos_of_mem hx
  simp only [yAL]
  omega
theorem zvF {a b:Str} (h:(a==b)=true):a=b:=by
 cases a with
 | mk a=>cases b with
  | mk b =>
   have h':(a==b)=true:=h
   rw [eq_of_beq h']
theorem zA7 (s:Str):(s==s)=true:=by
 cases s with
 | mk d =>
  have h:(d==d)=true:=by simp
  exact h
theorem lk_eq {x u:Lk} (h:(!(x.fst==u.fst&&(x.snd==u.snd&&true)))=false):x=u:=by
 simp only [Bool.not_eq_false',yR,and_true] at h
 cases x;cases u
 simp only at h
 rw [zvF h.1,zvF h.2]
theorem lk_ne {x u:Lk} (h:(!(x.fst==u.fst&&(x.snd==u.snd&&true)))=true):x≠u:=by
 rintro rfl;simp [zA7] at h
theorem zdk {l:List Lk} {i:Nat} {x:Lk} (hx:l[i]?=some x) (z:Lk):z∈l.take (i+1)↔z∈l.take i\/z=x:=by
 rw [yP,hx];simp
theorem zkC {l:List Lk} (hn:l.Nodup) {i:Nat} {x:Lk} (hx:l[i]?=some x):x ∉ l.take i:=by
 intro h
 obtain ⟨j,hj,hje⟩:=List.mem_iff_getElem.mp h
 obtain ⟨hi,hie⟩:=yB.mp hx
 simp only [yV] at hj
 rw [List.getElem_take] at hje
 have h2:=hn
 unfold List.Nodup at h2
 rw [yAW] at h2
 exact h2 j i Zo hi Zo (hje.trans hie.symm)
theorem InsI.len {l:List Lk} {u:Lk} {i:Nat} {out:List Lk} {d:Bool} (h:InsI l u i out d):out.length<=i+1:=by
 have:=zg5 out (u::l.take i) h.nd fun z hz=>by simpa using h.sub z hz
 simp only [yAL,yV] at this
 omega
theorem InsI.s1 {l:List Lk} {u x:Lk} {i:Nat} {out:List Lk} {d:Bool} (h:InsI l u i out d) (hx:l[i]?=some x) (e:(!(x.fst==u.fst&&(x.snd==u.snd&&true)))=false):InsI l u (i+1) out d:=by
 obtain rfl:=lk_eq e
 refine ⟨h.nd,fun z hz=>?_,fun z hz=>?_,h.dn⟩
 ·rcases h.sub z hz with h1|h1
  ·exact .inl h1
  ·exact .inr ((zdk hx z).2 (.inl h1))
 ·rcases (zdk hx z).1 hz with h1|h1
  ·exact h.sup z h1
  ·exact .inl h1
theorem InsI.s2 {l:List Lk} {u x:Lk} {i:Nat} {out:List Lk} {d:Bool} (h:InsI l u i out d) (hn:l.Nodup) (hx:l[i]?=some x) (e:(!(x.fst==u.fst&&(x.snd==u.snd&&true)))=true):InsI l u (i+1) (out++[x]) d:=by
 have hne:=lk_ne e
 refine ⟨?_,fun z hz=>?_,fun z hz=>?_,?_⟩
 ·refine List.nodup_append.2 ⟨h.nd,by simp,fun a ha b hb=>?_⟩
  simp only [yF] at hb
  subst hb
  rintro rfl
  rcases h.sub a ha with h1|h1
  ·exact hne h1
  ·exact zkC hn hx h1
 ·simp only [yK,yF] at hz
  rcases hz with hz|hz
  ·rcases h.sub z hz with h1|h1
   ·exact .inl h1
   ·exact .inr ((zdk hx z).2 (.inl h1))
  ·exact .inr ((zdk hx z).2 (.inr hz))
 ·simp only [yK,yF]
  rcases (zdk hx z).1 hz with h1|h1
  ·rcases h.sup z h1 with h2|h2
   ·exact .inl h2
   ·exact .inr (.inl h2)
  ·exact .inr (.inr h1)
 ·simp only [yK,yF]
  rw [← h.dn]
  exact ⟨fun h1=>h1.resolve_right fun h2=>hne h2.symm,.inl⟩
theorem InsI.add {l:List Lk} {u:Lk} {i:Nat} {out:List Lk} {d:Bool} (h:InsI l u i out d) (e:(!d)=true):InsI l u i (out++[u]) true:=by
 have hnu:u ∉ out:=fun hu=>by have:=h.dn.1 hu;subst this;simp at e
 refine ⟨?_,fun z hz=>?_,fun z hz=>?_,by simp⟩
 ·refine List.nodup_append.2 ⟨h.nd,by simp,fun a ha b hb=>?_⟩
  simp only [yF] at hb
  subst hb
  rintro rfl
  exact hnu ha
 ·simp only [yK,yF] at hz
  rcases hz with hz|hz
  ·exact h.sub z hz
  ·exact .inl hz
 ·simp only [yK,yF]
  rcases h.sup z hz with h2|h2
  ·exact .inl h2
  ·exact .inr (.inl h2)
theorem InsI.both {l:List Lk} {u:Lk} {i:Nat} {out:List Lk} {d:Bool} (h:InsI l u i out d):InsI l u i out d/\out.length<=i+1:=⟨h,h.len⟩
structure InsR (l:List Lk) (u:Lk) (r:List Lk):Prop where
 nd:r.Nodup
 sub:∀ z∈r,z=u\/z∈l
 sup:∀ z∈l,z∈r
theorem InsI.done {l:List Lk} {u:Lk} {out:List Lk} {d:Bool} (h:InsI l u l.length out d) (e:(!d)=false):InsR l u out:=by
 have hd:d=true:=by simpa using e
 have hu:=h.dn.2 hd
 refine ⟨h.nd,fun z hz=>by simpa using h.sub z hz,fun z hz=>?_⟩
 rcases h.sup z (by simpa using hz) with rfl|h1
 ·exact hu
 ·exact h1
theorem InsI.end_ {l:List Lk} {u:Lk} {out:List Lk} {d:Bool} (h:InsI l u l.length out d) (e:(!d)=true):InsR l u (out++[u]):=(h.add e).done rfl
structure LkN (N:List Str) (l:List Lk):Prop where
 nd:l.Nodup
 mem:∀ z∈l,z.fst∈N/\z.snd∈N
theorem InsR.lk {N:List Str} {l:List Lk} {u:Lk} {r:List Lk} (h:InsR l u r) (hl:LkN N l) (h1:u.fst∈N) (h2:u.snd∈N):LkN N r :=
 ⟨h.nd,fun z hz=>by rcases h.sub z hz with rfl|hz;exact ⟨h1,h2⟩;exact hl.mem z hz⟩
theorem zs3 {α β:Type} (f:α->List β) (k:Nat) (hf:∀ a,(f a).length=k):∀ l:List α,(l.flatMap f).length=l.length * k
 | []=>by simp
 | a::r=>by rw [List.flatMap_cons,yAO,hf,zs3 f k hf r,yAL,yAA];omega
theorem LkN.len {N:List Str} {l:List Lk} (h:LkN N l):l.length<=N.length * N.length:=by
 have h1:=zg5 l (N.flatMap fun a=>N.map fun b=>⟨a,b⟩) h.nd fun z hz=>by
  simp only [List.mem_flatMap,yAT]
  exact ⟨z.fst,(h.mem z hz).1,z.snd,(h.mem z hz).2,by cases z;rfl⟩
 have h2:(N.flatMap fun a=>N.map fun b=>(⟨a,b⟩:Lk)).length=N.length * N.length:=by
  exact zs3 _ _ (fun a=>by simp) N
 omega
theorem zkI {p:Prop} (h:p:=by first|exact (hI.1.s1 hx ‹_›).both|exact (hI.1.s2 hn hx ‹_›).both|exact ((hI.1.add ‹_›).s1 hx ‹_›).both|exact ((hI.1.add ‹_›).s2 hn hx ‹_›).both):p:=h
theorem zem {p:Prop} (h:p:=by first|assumption|omega|(simp;done)|(simp;omega)):p:=h
theorem zkJ {p:Prop} (h:p:=by first|assumption|exact ⟨h,fun _ hz=>hz⟩|(simp;done)):p:=h
theorem zkK {p:Prop} (h:p:=by first|assumption|exact vaJ0 _ _|exact vaI0 _|omega):p:=h
theorem zpG {p:Prop} (h:p:=by first|assumption|(simp;done)|exact ⟨⟨by simp,by simp,by simp,by simp⟩,by simp⟩):p:=h
theorem zkL {p:Prop} (h:p:=by first|omega|(simp only [zac,Few] at *;omega)):p:=h
theorem ztM {p:Prop} (h:p:=by first|rfl|(simp only [ltL,ltS,cond_true,cond_false, *] <;> rfl)|(simp [ltL,ltS, *];done)):p:=h
theorem ztN {p:Prop} (h:p:=by first|trivial|assumption|(simp;done)|omega|(simp;omega)|(simp at *;omega)):p:=h
abbrev lsl (l:List Lk):AV:=.sl (l.map Lk.cells)
def ltL (a b:Lk):Bool:=bif ltS a.fst b.fst then true else bif a.fst.toList==b.fst.toList then ltS a.snd b.snd else false
theorem zk2 (a b:Lk) :∃ (r:Bool),r=ltL a b/\zab E0 S.Dd [a.av,b.av] [] (bv r) []:=by
 cases h1:Op.bytesLess (ByteArray.toList a.fst) (ByteArray.toList b.fst)
 ·cases h2:ByteArray.toList a.fst==ByteArray.toList b.fst
  ·exact ⟨false,ztM,wk At.Dd [sg h1,sb h2] kr⟩
  ·exact ⟨Op.bytesLess (ByteArray.toList a.snd) (ByteArray.toList b.snd),ztM,wk At.Dd [sg h1,sg h2] kr⟩
 ·exact ⟨true,ztM,wk At.Dd [sb h1] kr⟩
theorem strB {a b:Str} (h:(a.toList==b.toList)=true):a=b:=by
 have h2:=eq_of_beq h
 rw [Go.Lib.toList_data,Go.Lib.toList_data] at h2
 exact ByteArray.ext (Array.toList_inj.1 h2)
theorem prHit {l:List Lk} {a b:Str} {x:Lk} {i:Nat} (hx:l[i]?=some x) (h1:(x.fst.toList==a.toList)=true) (h2:(x.snd.toList==b.toList)=true):(⟨a,b⟩:Lk)∈l:=by
 have h:=yC hx
 cases x
 simp only at h1 h2
 rwa [strB h1,strB h2] at h
noncomputable def L_pr (l:List Lk) (a b:Str) (i:Nat) :Cfg:=zai B.BZ 0 [(1,sv a),(2,sv b),(9,lsl l),(10,iv ((l.map Lk.cells).length:Nat)),(11,iv (i:Nat))] []
theorem zhU (l:List Lk) (a b:Str) (hl:zac l) (i:Nat)  (hi:i<=(l).length) (hI:True):((True)/\(decide ((((l).length:Nat):Int) < (((l.map Lk.cells).length:Nat):Int))=false)/\∀ R,Good E0 B.BZ [] (L_pr l a b (l).length ) R->Good E0 B.BZ [] (L_pr l a b i ) R)\/(∃ (r:Bool),(r=true->(⟨a,b⟩:Lk)∈l)/\Good E0 B.BZ [] (L_pr l a b i ) (Shut 0 fun rZ hZ=>rZ=(bv r)/\hZ=[])):=by
 have hk:=hi;revert i hI;refine zlp ((l).length) (fun i hlt ih hi hI _=>?_)
 obtain ⟨x,hx,h0,hw⟩:=zlq (l:=l) ((l.map Lk.cells).length) hlt zkL
 let p_1:List St:=[sb h0,se (zaf Lk.cells hx rfl)]
 cases h1:ByteArray.toList x.fst==ByteArray.toList a
 ·exact zie2 (ih Zo ztN Zo) fun R gY=>zaa (wkl (p_1++[sb h1,si hw]) [1,2,9,10,11] 0 kr gY)
 ·cases h2:ByteArray.toList x.snd==ByteArray.toList b
  ·exact zie2 (ih Zo ztN Zo) fun R gY=>zaa (wkl (p_1++[sg h1,sb h2,si hw]) [1,2,9,10,11] 0 kr gY)
  ·exact .inr ⟨true,(by exact fun _=>prHit hx ‹_› ‹_›),zaa (wkr (p_1++[sg h1,sb h2]) kr)⟩
theorem zoz (l:List Lk) (a b:Str) (hl:zac l):∃ (r:Bool),(r=true->(⟨a,b⟩:Lk)∈l)/\zab E0 S.BZ [lsl l,sv a,sv b] [] (bv r) []:=by
 rcases zhU l a b zem 0 zem zem with ⟨q1,q1_1,g1⟩|⟨r1_0,p1_0,g1⟩
 ·exact ⟨false,(by first|assumption|exact fun h=>(by cases h)),wkc At.BZ [] [1,2,9,10,11] 0 kr (g1 _ (zaa (wkr [sb q1_1] kr)))⟩
 ·exact ⟨r1_0,(by first|assumption|exact fun h=>(by cases h)),wkc At.BZ [] [1,2,9,10,11] 0 kr (g1)⟩
def VaJ (l:List Lk) (u:Lk) (i:Nat):Prop:=∀ x∈l.take i,(u.snd.toList==x.fst.toList)=true->(⟨u.fst,x.snd⟩:Lk)∈l
theorem VaJ.go {l:List Lk} {u x:Lk} {i:Nat} (h:VaJ l u i) (hx:l[i]?=some x) (h1:(u.snd.toList==x.fst.toList)=true->(⟨u.fst,x.snd⟩:Lk)∈l):VaJ l u (i+1):=fun z hz=>by
 rcases (zdk hx z).1 hz with h2|rfl
 ·exact h z h2
 ·exact h1
structure VaI (l:List Lk) (i:Nat):Prop where
 irr:∀ x∈l.take i,(x.fst.toList==x.snd.toList)=false
 asc:∀ (j:Nat) (x y:Lk),j+1 < i->l[j]?=some x->l[j+1]?=some y->ltL x y=true
 cls:∀ x∈l.take i,VaJ l x l.length
theorem VaI.step {l:List Lk} {x:Lk} {i:Nat} (h:VaI l i) (hx:l[i]?=some x) (h1:(x.fst.toList==x.snd.toList)=false) (ha:∀ j y,j+1=i->l[j]?=some y->ltL y x=true) (hq:VaJ l x l.length):VaI l (i+1) :=
 ⟨fun z hz=>by
  rcases (zdk hx z).1 hz with h2|rfl
  ·exact h.irr z h2
  ·exact h1,fun j a b hj h2 h3=>by
  by_cases hji:j+1 < i
  ·exact h.asc j a b hji h2 h3
  ·obtain rfl:j+1=i:=by omega
   rw [hx] at h3;cases h3
   exact ha j a rfl h2,fun z hz=>by
  rcases (zdk hx z).1 hz with h2|rfl
  ·exact h.cls z h2
  ·exact hq⟩
theorem VaI.step0 {l:List Lk} {x:Lk} {i:Nat} (h:VaI l i) (hx:l[i]?=some x) (h1:(x.fst.toList==x.snd.toList)=false) (h2:decide ((0:Int) < (i:Int))=false) (hq:VaJ l x l.length):VaI l (i+1) :=
 h.step hx h1 (fun j y hj _=>by simp at h2;omega) hq
theorem VaI.stepS {l:List Lk} {x y:Lk} {r:Bool} {i:Nat} (h:VaI l i) (hl:zac l) (hx:l[i]?=some x) (h1:(x.fst.toList==x.snd.toList)=false) (h2:decide ((0:Int) < (i:Int))=true) (hy:AtI l (IntKind.i64.wrap (((i:Nat):Int) - 1)) y) (hr:r=ltL y x) (h7:(bif x.fst.toList==x.snd.toList then true else bif decide ((0:Int) < (i:Int)) then !r else false)=false) (hq:VaJ l x l.length):VaI l (i+1) :=
 h.step hx h1 (fun j z hj hz=>by
  have hi:=(yB.mp hx).1
  have e:IntKind.i64.wrap (((i:Nat):Int) - 1)=((j:Nat):Int):=by simp only [zac] at hl;rw [IntKind.wrap_i64];omega
  have h3:=hy.2
  rw [e,Int.toNat_natCast,hz] at h3
  cases h3
  rw [h1,h2] at h7
  simpa [hr] using h7) hq
abbrev VldL (l:List Lk):Prop:=VaI l l.length
theorem zuf:VldL []:=⟨by simp,by simp,by simp⟩
theorem vaj1 {l:List Lk} {u x:Lk} (h:(u.snd.toList==x.fst.toList)=false):(u.snd.toList==x.fst.toList)=true->(⟨u.fst,x.snd⟩:Lk)∈l:=fun h2=>by rw [h] at h2;cases h2
theorem vaj2 {l:List Lk} {u x:Lk} {r:Bool} (hr:r=true->(⟨u.fst,x.snd⟩:Lk)∈l) (h:(u.snd.toList==x.fst.toList)=true) (h3:(bif u.snd.toList==x.fst.toList then !r else false)=false):(u.snd.toList==x.fst.toList)=true->(⟨u.fst,x.snd⟩:Lk)∈l:=fun _=>hr (by rw [h] at h3;simpa using h3)
theorem vaJ0 (l:List Lk) (u:Lk):VaJ l u 0:=fun x hx=>by simp at hx
theorem vaI0 (l:List Lk):VaI l 0:=⟨by simp,fun j x y h=>by omega,by simp⟩
theorem vaBad {r:Bool} {p:Prop} (h:r=true) (h2:r=false):p:=by rw [h] at h2;cases h2
noncomputable def zwg (l:List Lk) (io:Nat) (y:Lk) (i:Nat) :Cfg:=zai B.BD 1 [(0,lsl l),(4,.p 0 0),(7,lsl l),(8,iv ((l.map Lk.cells).length:Nat)),(9,iv (io:Nat)),(33,lsl l),(34,iv ((l.map Lk.cells).length:Nat)),(35,iv (i:Nat))] [.box y.cells]
theorem zeC (l:List Lk) (io:Nat) (y:Lk) (hl:zac l) (i:Nat)  (hi:i<=(l).length) (hI:VaJ l y i):((VaJ l y (l).length)/\(decide ((((l).length:Nat):Int) < (((l.map Lk.cells).length:Nat):Int))=false)/\∀ R,Good E0 B.BD [] (zwg l io y (l).length ) R->Good E0 B.BD [] (zwg l io y i ) R)\/(∃ (r:Bool),r=false/\Good E0 B.BD [] (zwg l io y i ) (Shut 0 fun rZ hZ=>rZ=(bv r)/\hZ=[])):=by
 have hk:=hi;revert i;refine zlp ((l).length) (fun i hlt ih hi hI _=>?_)
 obtain ⟨x,hx,h0,hw⟩:=zlq (l:=l) ((l.map Lk.cells).length) hlt zkL
 let p_1:List St:=[sb h0,se (zaf Lk.cells hx rfl)]
 cases h1:ByteArray.toList y.snd==ByteArray.toList x.fst
 ·exact zie2 (ih Zo (by first|exact hI.go hx (vaj1 ‹_›)|exact hI.go hx (vaj2 ‹_› ‹_› ‹_›)|exact hI.go hx fun _=>by simp_all) Zo) fun R gY=>zaa (wkl (p_1++[sb h1,si hw]) [0,4,7,8,9,33,34,35] 1 kr gY)
 ·obtain ⟨r2,q2,c2⟩:=(zoz l y.fst x.snd zem)
  cases h3:!r2
  ·exact zie2 (ih Zo (by first|exact hI.go hx (vaj1 ‹_›)|exact hI.go hx (vaj2 ‹_› ‹_› ‹_›)|exact hI.go hx fun _=>by simp_all) Zo) fun R gY=>zaa (wkl (p_1++[sg h1,sc c2,sb h3,si hw]) [0,4,7,8,9,33,34,35] 1 kr gY)
  ·exact .inr ⟨false,Zr,zaa (wkr (p_1++[sg h1,sc c2,sb h3]) kr)⟩
noncomputable def L_va (l:List Lk) (i:Nat) :Cfg:=zai B.BD 0 [(0,lsl l),(7,lsl l),(8,iv ((l.map Lk.cells).length:Nat)),(9,iv (i:Nat))] []
theorem zj3 (l:List Lk) (hl:zac l) (i:Nat)  (hi:i<=(l).length) (hI:VaI l i):((VaI l (l).length)/\(decide ((((l).length:Nat):Int) < (((l.map Lk.cells).length:Nat):Int))=false)/\∀ R,Good E0 B.BD [] (L_va l (l).length ) R->Good E0 B.BD [] (L_va l i ) R)\/(∃ (r:Bool),r=false/\Good E0 B.BD [] (L_va l i ) (Shut 0 fun rZ hZ=>rZ=(bv r)/\hZ=[])):=by
 have hk:=hi;revert i;refine zlp ((l).length) (fun i hlt ih hi hI _=>?_)
 obtain ⟨x,hx,h0,hw⟩:=zlq (l:=l) ((l.map Lk.cells).length) hlt zkL
 cases h1:ByteArray.toList x.fst==ByteArray.toList x.snd
 ·cases h2:decide (0 < (i:Int))
  ·let p_1:List St:=[sb h0,se (zaf Lk.cells hx rfl),sd [(6,[sg h1]),(7,[sg h1]),(8,[sg h1]),(9,[sb h2]),(10,[sb h2]),(11,[sb h2]),(12,[sb h2]),(13,[sb h2]),(14,[sb h2]),(15,[sb h2]),(16,[sb h2]),(17,[so h1 (sb h2)])]]
   cases h3:bif ByteArray.toList x.fst==ByteArray.toList x.snd then true else false
   ·rcases zeC l i x zkK 0 zkK zkK with ⟨q4,q4_1,g4⟩|⟨r4_0,p4_0,g4⟩
    ·exact zie2 (ih Zo (by first|exact hI.step0 hx ‹_› ‹_› ‹_›|exact hI.stepS hl hx ‹_› ‹_› ‹_› ‹_› ‹_› ‹_›) Zo) fun R gY=>zaa (wkl (p_1++[sb h3]) [0,4,7,8,9,33,34,35] 1 kr (g4 _ (zaa (wkl [sb q4_1,si hw] [0,7,8,9] 0 kr gY))))
    ·exact .inr ⟨r4_0,Zg,zaa (wkl (p_1++[sb h3]) [0,4,7,8,9,33,34,35] 1 kr g4)⟩
   ·exact .inr ⟨false,Zg,zaa (wkr (p_1++[sb h3]) kr)⟩
  ·obtain ⟨x5,e5⟩:=zdN (l:=l) (i:=IntKind.i64.wrap ((i:Int) - (1:Int))) (by (have:=(yB.mp hx).1;simp only [zac] at hl;simp only [decide_eq_true_eq,IntKind.wrap_i64] at *;omega))
   obtain ⟨r6,q6,c6⟩:=(zk2 x5 x)
   let p_2:List St:=[sb h0,se (zaf Lk.cells hx rfl),sd [(6,[sg h1]),(7,[sg h1]),(8,[sg h1]),(9,[sg h2]),(10,[sg h2]),(11,[so h2 (si (e:=IntKind.i64.wrap ((i:Int) - 1)) rfl)]),(12,[so h2 (se (zbW Lk.cells e5 rfl))]),(13,[sg h2]),(14,[sg h2]),(15,[so h2 (sc c6)]),(16,[sg h2]),(17,[sg h1])]]
   cases h7:bif ByteArray.toList x.fst==ByteArray.toList x.snd then true else bif decide (0 < (i:Int)) then !r6 else false
   ·rcases zeC l i x zkK 0 zkK zkK with ⟨q8,q8_1,g8⟩|⟨r8_0,p8_0,g8⟩
    ·exact zie2 (ih Zo (by first|exact hI.step0 hx ‹_› ‹_› ‹_›|exact hI.stepS hl hx ‹_› ‹_› ‹_› ‹_› ‹_› ‹_›) Zo) fun R gY=>zaa (wkl (p_2++[sb h7]) [0,4,7,8,9,33,34,35] 1 kr (g8 _ (zaa (wkl [sb q8_1,si hw] [0,7,8,9] 0 kr gY))))
    ·exact .inr ⟨r8_0,Zg,zaa (wkl (p_2++[sb h7]) [0,4,7,8,9,33,34,35] 1 kr g8)⟩
   ·exact .inr ⟨false,Zg,zaa (wkr (p_2++[sb h7]) kr)⟩
 ·exact .inr ⟨false,Zg,zaa (wkr [sb h0,se (zaf Lk.cells hx rfl),sd [(6,[sb h1]),(7,[sb h1]),(8,[sb h1]),(17,[sb h1]),(18,[sb h1])]] kr)⟩
theorem zl8 (l:List Lk) (hl:zac l):∃ (r:Bool),(r=true->VldL l)/\zab E0 S.BD [lsl l] [] (bv r) []:=by
 rcases zj3 l (by first|assumption|exact vaI0 _|omega) 0 (by first|assumption|exact vaI0 _|omega) (by first|assumption|exact vaI0 _|omega) with ⟨q1,q1_1,g1⟩|⟨r1_0,p1_0,g1⟩
 ·exact ⟨true,(by first|exact fun _=>‹_›|exact fun h=>vaBad h ‹_›),wkc At.BD [] [0,7,8,9] 0 kr (g1 _ (zaa (wkr [sb q1_1] kr)))⟩
 ·exact ⟨r1_0,(by first|exact fun _=>‹_›|exact fun h=>vaBad h ‹_›),wkc At.BD [] [0,7,8,9] 0 kr (g1)⟩
noncomputable def L_is (l:List Lk) (u:Lk) (i:Nat) (out:List Lk) (done:Bool):Cfg:=zai B.Ct 0 [(3,.p 0 0),(5,.own 1 out.length),(6,bv done),(9,lsl l),(10,iv ((l.map Lk.cells).length:Nat)),(11,iv (i:Nat))] [.box u.cells,.row Ty.Link (out.map Lk.cells) false]
theorem zjk (l:List Lk) (u:Lk) (hl:zac l) (hn:l.Nodup) (i:Nat) (out:List Lk) (done:Bool) (hi:i<=(l).length) (hI:InsI l u i out done/\out.length<=i+1):∃ (out':List Lk) (done':Bool),(InsI l u (l).length out' done'/\out'.length<=(l).length+1)/\(decide ((((l).length:Nat):Int) < (((l.map Lk.cells).length:Nat):Int))=false)/\∀ R,Good E0 B.Ct [] (L_is l u (l).length out' done') R->Good E0 B.Ct [] (L_is l u i out done) R:=by
 have hk:=hi;revert i out done;refine zlp ((l).length) (fun i hlt ih out done hi hI _=>?_)
 obtain ⟨x,hx,h0,hw⟩:=zlq (l:=l) ((l.map Lk.cells).length) hlt zkL
 have hol:out.length<=1000000000:=by have:=hI.2;simp only [zac] at hl;omega
 let p_1:List St:=[sb h0,se (zaf Lk.cells hx rfl)]
 cases h1:!done
 ·cases h2:!(x.fst==u.fst&&(x.snd==u.snd&&true))
  ·obtain ⟨outZ,doneZ,qZ,xZ,gZ⟩:=ih out done Zo zkI Zo;exact ⟨outZ,doneZ,qZ,xZ,fun R hg=>zaa (wkl (p_1++[sb h1,sq ze6,sb h2,si hw]) [3,5,6,9,10,11] 2 kr (gZ R hg))⟩
  ·obtain ⟨outZ,doneZ,qZ,xZ,gZ⟩:=ih (out++[x]) done Zo zkI Zo;exact ⟨outZ,doneZ,qZ,xZ,fun R hg=>zaa (wkl (p_1++[sb h1,sq ze6,sb h2,sqA (List.map Lk.cells out) [[sv x.fst,sv x.snd]] out.length 2 32,si hw]) [3,5,6,9,10,11] 2 kr (zaK 5 1 (List.map Lk.cells out++[[sv x.fst,sv x.snd]]) (gZ R hg) (he:=Zcv2) (hm:=Zcv2)))⟩
 ·obtain ⟨r3,q3,c3⟩:=(zk2 x u)
  cases h4:!r3
  ·cases h5:!(x.fst==u.fst&&(x.snd==u.snd&&true))
   ·obtain ⟨outZ,doneZ,qZ,xZ,gZ⟩:=ih out done Zo zkI Zo;exact ⟨outZ,doneZ,qZ,xZ,fun R hg=>zaa (wkl (p_1++[sg h1,sc c3,sb h4,sq ze6,sb h5,si hw]) [3,5,6,9,10,11] 2 kr (gZ R hg))⟩
   ·obtain ⟨outZ,doneZ,qZ,xZ,gZ⟩:=ih (out++[x]) done Zo zkI Zo;exact ⟨outZ,doneZ,qZ,xZ,fun R hg=>zaa (wkl (p_1++[sg h1,sc c3,sb h4,sq ze6,sb h5,sqA (List.map Lk.cells out) [[sv x.fst,sv x.snd]] out.length 2 32,si hw]) [3,5,6,9,10,11] 2 kr (zaK 5 1 (List.map Lk.cells out++[[sv x.fst,sv x.snd]]) (gZ R hg) (he:=Zcv2) (hm:=Zcv2)))⟩
  ·let p_2:List St:=p_1++[sg h1,sc c3,sb h4,sqA (List.map Lk.cells out) [[sv u.fst,sv u.snd]] out.length 2 32,sq ze6]
   cases h6:!(x.fst==u.fst&&(x.snd==u.snd&&true))
   ·obtain ⟨outZ,doneZ,qZ,xZ,gZ⟩:=ih (out++[u]) true Zo zkI Zo;exact ⟨outZ,doneZ,qZ,xZ,fun R hg=>zaa (wklN (p_2++[sb h6,si hw]) [3,5,6,9,10,11] 2 [(.bl 6,2)] kr (zaK 5 1 (List.map Lk.cells out++[[sv u.fst,sv u.snd]]) (gZ R hg) (he:=Zcv2) (hm:=Zcv2)))⟩
   ·obtain ⟨outZ,doneZ,qZ,xZ,gZ⟩:=ih (out++[u]++[x]) true Zo zkI Zo;exact ⟨outZ,doneZ,qZ,xZ,fun R hg=>zaa (wklN (p_2++[sb h6,sqA (List.map Lk.cells out++[[sv u.fst,sv u.snd]]) [[sv x.fst,sv x.snd]] ((List.map Lk.cells out++[[sv u.fst,sv u.snd]]).length) 2 32,si hw]) [3,5,6,9,10,11] 2 [(.bl 6,2)] kr (zaK 5 1 (List.map Lk.cells out++[[sv u.fst,sv u.snd]]++[[sv x.fst,sv x.snd]]) (gZ R hg) (he:=Zcv2) (hm:=Zcv2)))⟩
theorem zgx (l:List Lk) (u:Lk) (hl:zac l) (hn:l.Nodup):∃ (r:List Lk),InsR l u r/\zab E0 S.Ct [lsl l,u.av] [] (lsl r) []:=by
 obtain ⟨out1,done1,q1,q1_1,g1⟩:=zjk l u zpG zpG 0 ([]) false zpG zpG
 cases h2:!done1
 ·exact ⟨out1,(by first|exact InsI.done (And.left ‹_›) ‹_›|exact InsI.end_ (And.left ‹_›) ‹_›),wkcN At.Ct [] [3,5,6,9,10,11] 1 [(.bl 6,1),(.ot 5 Ty.Link,2)] kr (g1 _ (zaa (wkr [sqx (out1.length=(List.map Lk.cells out1).length),sb q1_1,sb h2] kr)))⟩
 ·exact ⟨out1++[u],(by first|exact InsI.done (And.left ‹_›) ‹_›|exact InsI.end_ (And.left ‹_›) ‹_›),wkcN At.Ct [] [3,5,6,9,10,11] 1 [(.bl 6,1),(.ot 5 Ty.Link,2)] kr (g1 _ (zaa (wkrS (y:=AV.sl (List.map Lk.cells out1++[[sv u.fst,sv u.snd]])) (H:=[]) [sqx ((List.map Lk.cells out1++[[sv u.fst,sv u.snd]]).length=(List.map Lk.cells out1++[[sv u.fst,sv u.snd]]).length),sb q1_1,sb h2,sqA (List.map Lk.cells out1) [[sv u.fst,sv u.snd]] out1.length 2 32] kr ⟨Zcv2,Zcv2⟩)))⟩
noncomputable def L_cl (l:List Lk):Cfg:=zai B.A3 0 [(0,lsl l)] []
abbrev zeT (N:List Str) (l out:List Lk):Prop:=LkN N out/\∀ z∈l,z∈out
theorem zeT.short {N:List Str} {l out:List Lk} (h:zeT N l out) (hN:N.length<=1000):zac out:=by
 have h1:=h.1.len
 have h2:=Nat.mul_le_mul hN hN
 simp only [zac];omega
theorem zeT.ins {N:List Str} {l out:List Lk} {a b:Lk} {i j:Nat} {r:List Lk} (h:zeT N l out) (hl:LkN N l) (hx:l[i]?=some a) (hy:l[j]?=some b) (hr:InsR out ⟨a.fst,b.snd⟩ r):zeT N l r :=
 ⟨hr.lk h.1 (hl.mem a (yC hx)).1 (hl.mem b (yC hy)).2,fun z hz=>hr.sup z (h.2 z hz)⟩
noncomputable def L_clI (l:List Lk) (N:List Str) (io:Nat) (a:Lk) (i:Nat) (out:List Lk):Cfg:=zai B.A3 2 [(0,lsl l),(3,lsl out),(5,.p 0 0),(9,lsl l),(10,iv ((l.map Lk.cells).length:Nat)),(11,iv (io:Nat)),(15,lsl l),(16,iv ((l.map Lk.cells).length:Nat)),(17,iv (i:Nat))] [.box a.cells]
theorem zhW (l:List Lk) (N:List Str) (io:Nat) (a:Lk) (hN:N.length<=1000) (h:LkN N l) (hs:zac l) (ha:l[io]?=some a) (i:Nat) (out:List Lk) (hi:i<=(l).length) (hI:zeT N l out):∃ (out':List Lk),(zeT N l out')/\(decide ((((l).length:Nat):Int) < (((l.map Lk.cells).length:Nat):Int))=false)/\∀ R,Good E0 B.A3 [] (L_clI l N io a (l).length out') R->Good E0 B.A3 [] (L_clI l N io a i out) R:=by
 have hk:=hi;revert i out;refine zlp ((l).length) (fun i hlt ih out hi hI _=>?_)
 obtain ⟨x,hx,h0,hw⟩:=zlq (l:=l) ((l.map Lk.cells).length) hlt zkL
 have hol:=hI.short hN;have hon:=hI.1.nd
 let p_1:List St:=[sb h0,se (zaf Lk.cells hx rfl)]
 cases h1:ByteArray.toList a.snd==ByteArray.toList x.fst
 ·exact Zih (ih out Zo (by first|exact hI|exact hI.ins h ha hx ‹_›) Zo) fun R gY=>zaa (wkl (p_1++[sb h1,si hw]) [0,3,5,9,10,11,15,16,17] 1 kr gY)
 ·obtain ⟨r2,q2,c2⟩:=(zgx out (Lk.mk a.fst x.snd) zem zem)
  exact Zih (ih r2 Zo (by first|exact hI|exact hI.ins h ha hx ‹_›) Zo) fun R gY=>zaa (wkl (p_1++[sb h1,sc c2,si hw]) [0,3,5,9,10,11,15,16,17] 1 kr gY)
noncomputable def L_clO (l:List Lk) (N:List Str) (i:Nat) (out:List Lk):Cfg:=zai B.A3 1 [(0,lsl l),(3,lsl out),(9,lsl l),(10,iv ((l.map Lk.cells).length:Nat)),(11,iv (i:Nat))] []
theorem zhX (l:List Lk) (N:List Str) (hN:N.length<=1000) (h:LkN N l) (hs:zac l) (i:Nat) (out:List Lk) (hi:i<=(l).length) (hI:zeT N l out):∃ (out':List Lk),(zeT N l out')/\(decide ((((l).length:Nat):Int) < (((l.map Lk.cells).length:Nat):Int))=false)/\∀ R,Good E0 B.A3 [] (L_clO l N (l).length out') R->Good E0 B.A3 [] (L_clO l N i out) R:=by
 have hk:=hi;revert i out;refine zlp ((l).length) (fun i hlt ih out hi hI _=>?_)
 obtain ⟨x,hx,h0,hw⟩:=zlq (l:=l) ((l.map Lk.cells).length) hlt zkL
 obtain ⟨out1,q1,q1_1,g1⟩:=zhW l N i x hN zem zem zem 0 out zem zem
 exact Zih (ih out1 Zo ztN Zo) fun R gY=>zaa (wkl [sb h0,se (zaf Lk.cells hx rfl)] [0,3,5,9,10,11,15,16,17] 1 kr (g1 _ (zaa (wkl [sb q1_1,si hw] [0,3,9,10,11] 0 kr gY))))
theorem zki (l:List Lk) (N:List Str) (hN:N.length<=1000) (h:LkN N l) (hs:zac l) (ihl:∀ l':List Lk,zeT N l l'->(((((l'.map Lk.cells).length:Nat):Int)==(((l.map Lk.cells).length:Nat):Int))=false)->∃ r,LkN N r/\Good E0 B.A3 [] (L_cl l') (Shut 0 fun rZ hZ=>rZ=lsl r/\hZ=[])):∃ (r:List Lk),LkN N r/\Good E0 B.A3 [] (ziN (L_cl l)) (Shut 0 fun rZ hZ=>rZ=(lsl r)/\hZ=[]):=by
  obtain ⟨out1,q1,q1_1,g1⟩:=zhX l N hN zkJ zkJ 0 l zkJ zkJ
  cases h2:(↑(List.map Lk.cells out1).length:Int)==(↑(List.map Lk.cells l).length:Int)
  ·obtain ⟨r3_0,p3_0,g3⟩:=ihl out1 zkJ zkJ
   exact ⟨r3_0,(by first|assumption|exact And.left ‹_›),wkl [] [0,3,9,10,11] 0 kr (g1 _ (zaa (wkl [sb q1_1,sb h2] [0] 0 kr g3)))⟩
  ·exact ⟨out1,(by first|assumption|exact And.left ‹_›),wkl [] [0,3,9,10,11] 0 kr (g1 _ (zaa (wkr [sb q1_1,sb h2] kr)))⟩
theorem zhV (N:List Str) (hN:N.length<=1000):∀ (k:Nat) (l:List Lk),N.length * N.length - l.length<=k->LkN N l->∃ r,LkN N r/\Good E0 B.A3 [] (L_cl l) (Shut 0 fun rZ hZ=>rZ=lsl r/\hZ=[]):=by
 intro k
 induction k with
 | zero =>
  intro l hk h
  have hs:zac l:=zeT.short (N:=N) (l:=l) ⟨h,fun _ hz=>hz⟩ hN
  obtain ⟨r,hr,hg⟩:=zki l N hN h hs fun l' h' hne=>by
   exfalso
   have h1:=zg5 l l' h.nd h'.2
   have h2:=h'.1.len
   simp only [yG,beq_eq_false_iff_ne,ne_eq,Int.natCast_inj] at hne
   omega
  exact ⟨r,hr,zaa hg⟩
 | succ k ih =>
  intro l hk h
  have hs:zac l:=zeT.short (N:=N) (l:=l) ⟨h,fun _ hz=>hz⟩ hN
  obtain ⟨r,hr,hg⟩:=zki l N hN h hs fun l' h' hne=>ih l' (by
   have h1:=zg5 l l' h.nd h'.2
   have h2:=h'.1.len
   simp only [yG,beq_eq_false_iff_ne,ne_eq,Int.natCast_inj] at hne
   omega) h'.1
  exact ⟨r,hr,zaa hg⟩
theorem zqb (l:List Lk) (N:List Str) (hN:N.length<=1000) (h:LkN N l):∃ (r:List Lk),LkN N r/\zab E0 S.A3 [lsl l] [] (lsl r) []:=by
 obtain ⟨r1_0,p1_0,g1⟩:=zhV N hN _ l (by first|assumption|exact yJ _) (by first|assumption|exact yJ _)
 exact ⟨r1_0,(by first|assumption|trivial|(simp;done)|omega|(simp;omega)|(simp at *;omega)),wkc At.A3 [] [0] 0 kr (g1)⟩
theorem zdw {p:Prop} (h:p:=by first|assumption|omega|exact LkN.short ‹_› hN):p:=h
theorem ztO {p:Prop} (h:p:=by first|exact ⟨lkNil N,fun _=>zuf⟩|exact ⟨by assumption,fun _=>adOk ‹_› ‹_›⟩):p:=h
theorem zpH {p:Prop} (h:p:=by first|assumption|omega|(simp;done)|(simp;omega)):p:=h
theorem lkNil (N:List Str):LkN N []:=⟨by simp,by simp⟩
theorem LkN.short {N:List Str} {l:List Lk} (h:LkN N l) (hN:N.length<=1000):zac l:=by
 have h1:=h.len
 have h2:=Nat.mul_le_mul hN hN
 simp only [zac];omega
theorem adOk {r:Bool} {p:Prop} (h:r=true->p) (h2:(!r)=false):p:=h (by simpa using h2)
noncomputable def L_adP (l:List Lk) (n:Str) (ps fs:List Str) (N:List Str) (i:Nat) (out:List Lk):Cfg:=zai B.B5 0 [(1,sv n),(3,ssl fs),(10,lsl out),(20,ssl ps),(21,iv ((ps.map zbR).length:Nat)),(22,iv (i:Nat))] [.row Ty.Link (l.map Lk.cells) true]
theorem zk1 (l:List Lk) (n:Str) (ps fs:List Str) (N:List Str) (hN:N.length<=1000) (hn:n∈N) (hp:zac ps) (hps:∀ s∈ps,s∈N) (i:Nat) (out:List Lk) (hi:i<=(ps).length) (hI:LkN N out):∃ (out':List Lk),(LkN N out')/\(decide ((((ps).length:Nat):Int) < (((ps.map zbR).length:Nat):Int))=false)/\∀ R,Good E0 B.B5 [] (L_adP l n ps fs N (ps).length out') R->Good E0 B.B5 [] (L_adP l n ps fs N i out) R:=by
 have hk:=hi;revert i out;refine zlp ((ps).length) (fun i hlt ih out hi hI _=>?_)
 obtain ⟨x,hx,h0,hw⟩:=zlq (l:=ps) ((ps.map zbR).length) hlt
 have hol:=hI.short hN;have hon:=hI.nd
 obtain ⟨r1,q1,c1⟩:=(zgx out (Lk.mk n x) zpH zpH)
 exact Zih (ih r1 Zo (by exact InsR.lk ‹_› hI hn (hps _ (yC hx))) Zo) fun R gY=>zaa (wkl [sb h0,se (zaf (fun s=>[sv s]) hx rfl),sc c1,si hw] [1,3,10,20,21,22] 1 kr gY)
noncomputable def L_adF (l:List Lk) (n:Str) (fs:List Str) (N:List Str) (i:Nat) (out:List Lk):Cfg:=zai B.B5 1 [(1,sv n),(10,lsl out),(32,ssl fs),(33,iv ((fs.map zbR).length:Nat)),(34,iv (i:Nat))] [.row Ty.Link (l.map Lk.cells) true]
theorem zk0 (l:List Lk) (n:Str) (fs:List Str) (N:List Str) (hN:N.length<=1000) (hn:n∈N) (hf:zac fs) (hfs:∀ s∈fs,s∈N) (i:Nat) (out:List Lk) (hi:i<=(fs).length) (hI:LkN N out):∃ (out':List Lk),(LkN N out')/\(decide ((((fs).length:Nat):Int) < (((fs.map zbR).length:Nat):Int))=false)/\∀ R,Good E0 B.B5 [] (L_adF l n fs N (fs).length out') R->Good E0 B.B5 [] (L_adF l n fs N i out) R:=by
 have hk:=hi;revert i out;refine zlp ((fs).length) (fun i hlt ih out hi hI _=>?_)
 obtain ⟨x,hx,h0,hw⟩:=zlq (l:=fs) ((fs.map zbR).length) hlt
 have hol:=hI.short hN;have hon:=hI.nd
 obtain ⟨r1,q1,c1⟩:=(zgx out (Lk.mk x n) zpH zpH)
 exact Zih (ih r1 Zo (by exact InsR.lk ‹_› hI (hfs _ (yC hx)) hn) Zo) fun R gY=>zaa (wkl [sb h0,se (zaf (fun s=>[sv s]) hx rfl),sc c1,si hw] [1,10,32,33,34] 1 kr gY)
theorem zuu (l:List Lk) (n:Str) (ps fs:List Str) (N:List Str) (hN:N.length<=1000) (h:LkN N l) (hl:zac l) (hn:n∈N) (hp:zac ps) (hf:zac fs) (hps:∀ s∈ps,s∈N) (hfs:∀ s∈fs,s∈N):∃ (r:List Lk) (e:Int),(LkN N r/\(e=0->VldL r))/\zab E0 S.B5 [lsl l,sv n,ssl ps,ssl fs] [] (.tup [lsl r,iv e]) []:=by
 obtain ⟨r1,q1,c1⟩:=(zl8 l zdw)
 cases h2:!r1
 ·obtain ⟨out3,q3,q3_1,g3⟩:=zk1 l n ps fs N hN zdw zdw zdw 0 l zdw zdw
  obtain ⟨out4,q4,q4_1,g4⟩:=zk0 l n fs N hN zdw zdw zdw 0 out3 zdw zdw
  obtain ⟨r5,q5,c5⟩:=(zqb out4 N hN zdw)
  obtain ⟨r6,q6,c6⟩:=(zl8 r5 zdw)
  let p_1:List St:=[sc c1,sb h2,sqx (AllLen (List.map Lk.cells l) 2/\((List.map Lk.cells l).length * 32).le 140737488355328),sqx ((List.map Lk.cells l).length=(List.map Lk.cells l).length)]
  cases h7:!r6
  ·exact ⟨r5,0,ztO,wkcN At.B5 p_1 [1,3,10,20,21,22] 1 [(.fz 10,1)] kr (g3 _ (zaa (wkl [sb q3_1] [1,10,32,33,34] 1 kr (g4 _ (zaa (wkr [sb q4_1,sc c5,sc c6,sb h7] kr))))))⟩
  ·exact ⟨[],13,ztO,wkcN At.B5 p_1 [1,3,10,20,21,22] 1 [(.fz 10,1)] kr (g3 _ (zaa (wkl [sb q3_1] [1,10,32,33,34] 1 kr (g4 _ (zaa (wkr [sb q4_1,sc c5,sc c6,sb h7] kr))))))⟩
 ·exact ⟨[],17,ztO,wk At.B5 [sc c1,sb h2] kr⟩
noncomputable def litC (fn:Func) (n:Nat):Cfg:=(upto (mk E0) (List.range 40) 0 n ⟨fn.ntmps,[.code (fn.body.getD .skip)],zbV 0 [],[]⟩ []).2
theorem lit_at:zr5 E0 (litC B.AH 21)=some (Ty.Schema,3,(zan.map Sch.cells).flatten):=by kernel_rfl
theorem lit_h:(litC B.AH 21).h=[]:=by kernel_rfl
theorem lit_b:frzB [] (zan.map Sch.cells).flatten=none:=by kernel_rfl
theorem lit_m:zbv (zan.map Sch.cells).flatten=[]:=by kernel_rfl
theorem lit_c:zcC (E0.T Ty.Schema).size 3 (frzL [] (zan.map Sch.cells).flatten)=zan.map Sch.cells:=by kernel_rfl
theorem lit_up:upto (mk E0) (List.range 40) 0 21 ⟨(B.AH).ntmps,[.code ((B.AH).body.getD .skip)],zbV 0 [],[]⟩ (orcs [])=(zbe [],litC B.AH 21):=by kernel_rfl
theorem zAM:finK (mk E0) B.AH 3000 (zkg (litC B.AH 21) Ty.Schema 3 (zan.map Sch.cells)) (orcs [])=some (zbe [],AV.own 0 3,[Blk.row Ty.Schema (zan.map Sch.cells) false]):=by kernel_rfl
theorem zzz:B.AH.body=some (B.AH.body.getD .skip):=by kernel_rfl
theorem zzA : (B.AH.name == "runtime.NumGoroutine") = false := by kernel_rfl
theorem litAll {f : FuncId} {fn : Func} {y : AV} {H : Heap} {c : Cfg} {e : TypeId} {n N : Nat} {cs : List AV} {xs : List (List AV)} (hf : E0.P.funcs[f]? = some fn) (hb : fn.body = some (fn.body.getD .skip)) (hname : (fn.name == "runtime.NumGoroutine") = false)
  (hu:upto (mk E0) (List.range 40) 0 N ⟨fn.ntmps,[.code (fn.body.getD .skip)],zbV 0 [],[]⟩ (orcs [])=(zbe [],c))
  (h1:zr5 E0 c=some (e,n,cs)) (h2:0 < n) (h3:c.h=[]) (h4:frzB [] cs=none) (h5:zbv cs=[]) (h6:zcC (E0.T e).size n (frzL [] cs)=xs)
  (he:finK (mk E0) fn 3000 (zkg c e n xs) (orcs [])=some (zbe [],y,H)):zab E0 f [] [] y H:=by
 refine za6 hf hb hname Zs ?_
 refine zdz E0ok mix0 N [] (List.range 40) 0 rfl hu ?_
 refine zzs E0ok h1 h2 (by rw [h3];exact h4) h5 ?_
 rw [h3,h6]
 exact zdW E0ok mix0 3000 [] he ⟨rfl,rfl⟩
theorem znX:zab E0 S.AH [] [] (.own 0 3) [.row Ty.Schema (zan.map Sch.cells) false] :=
 @litAll S.AH B.AH (.own 0 3) [Blk.row Ty.Schema (zan.map Sch.cells) false] (litC B.AH 21) Ty.Schema 3 21 (zan.map Sch.cells).flatten (zan.map Sch.cells) At.AH zzz zzA lit_up lit_at Zd lit_h lit_b lit_m lit_c zAM
theorem zeM {p:Prop} (h:p:=by first|assumption|omega|(simp;done)|(simp;omega)):p:=h
theorem ztP {p:Prop} (h:p:=by first|exact hI|(refine ⟨by simp at *;omega,fun s hs=>?_⟩;simp only [yK,yF] at hs;rcases hs with hs|rfl;exact hI.2 s hs;exact yAT.2 ⟨x,yC hx,rfl⟩)):p:=h
theorem zpI {p:Prop} (h:p:=by first|assumption|exact ⟨rfl,by simp⟩|omega):p:=h
def zxl (k:Nat):Str:=([⟨#[116]⟩,⟨#[117]⟩,⟨#[108,111,103]⟩]:List Str).getD k ⟨#[]⟩
theorem zAB (k:Nat) (h:(k:Int) < 3):ElAt [[sv ⟨#[116]⟩],[sv ⟨#[117]⟩],[sv ⟨#[108,111,103]⟩]] (k:Int) [sv (zxl k)] 1:=by
 have:k=0\/k=1\/k=2:=by omega
 rcases this with rfl|rfl|rfl <;> exact ⟨by decide,rfl,rfl⟩
def TabN (w:Str):Prop:=w=⟨#[116]⟩\/w=⟨#[117]⟩\/w=⟨#[108,111,103]⟩
theorem zA9 {k:Nat} (h:(k:Int) < 3):TabN (zxl k):=by
 have:k=0\/k=1\/k=2:=by omega
 rcases this with rfl|rfl|rfl
 ·exact .inl rfl
 ·exact .inr (.inl rfl)
 ·exact .inr (.inr rfl)
theorem zcH (t:Tp) :∃ (w:Str) (t':Tp),TabN w/\zab E0 S.Dl [.p 0 0] [.box t.cells] (sv w) [.box t'.cells]:=by
 obtain ⟨a1,t1,q1,c1⟩:=(zae t 3 zeM)
 exact ⟨zxl a1,t1,by exact zA9 Zo,wk At.Dl [sl [0] c1,se (zAB a1 zeM)] kr⟩
def schU:Sch:=⟨⟨#[117]⟩,[⟨⟨#[105,100]⟩,1,true,true⟩,⟨⟨#[110]⟩,1,true,false⟩,⟨⟨#[109]⟩,1,false,false⟩]⟩
theorem zA5:zal ⟨#[117]⟩=schU:=by kernel_rfl
theorem zcB {w:Str} (h:TabN w):SchOk (zal w):=by
 rcases h with rfl|rfl|rfl
 ·rw [zA3];exact zA4
 ·rw [zA5];exact zep (by simp [zan,schU])
 ·rw [zq9];exact zep (by simp [zan,zaS])
noncomputable def L_nm (t0:Tp) (l:List Tg) (i:Nat) (u:Tp) (out:List Str):Cfg:=zai B.B8 0 [(0,.p 0 0),(5,.own 1 out.length),(8,.sl (l.map Tg.cells)),(9,iv ((l.map Tg.cells).length:Nat)),(10,iv (i:Nat))] [.box u.cells,.row Ty.string (out.map zbR) false]
theorem zhm (t0:Tp) (l:List Tg) (hl:zac l) (i:Nat) (u:Tp) (out:List Str) (hi:i<=(l).length) (hI:out.length<=8/\∀ s∈out,s∈l.map Tg.name):∃ (u':Tp) (out':List Str),(out'.length<=8/\∀ s∈out',s∈l.map Tg.name)/\(decide ((((l).length:Nat):Int) < (((l.map Tg.cells).length:Nat):Int))=false)/\∀ R,Good E0 B.B8 [.box t0.cells] (L_nm t0 l (l).length u' out') R->Good E0 B.B8 [.box t0.cells] (L_nm t0 l i u out) R:=by
 have hk:=hi;revert i u out;refine zlp ((l).length) (fun i hlt ih u out hi hI _=>?_)
 obtain ⟨x,hx,h0,hw⟩:=zlq (l:=l) ((l.map Tg.cells).length) hlt
 obtain ⟨b1,t1,c1⟩:=(zah u 4 zeM)
 rcases (yD b1).symm with h2|h2
 ·obtain ⟨uZ,outZ,qZ,xZ,gZ⟩:=ih t1 out Zo ztP Zo;exact ⟨uZ,outZ,qZ,xZ,fun R hg=>zaa (wkl [sb h0,se (zaf Tg.cells hx rfl),sl [0] c1,sb h2,si hw] [0,5,8,9,10] 2 kr (gZ R hg))⟩
 ·cases h3:decide ((out.length:Int) < 8)
  ·obtain ⟨uZ,outZ,qZ,xZ,gZ⟩:=ih t1 out Zo ztP Zo;exact ⟨uZ,outZ,qZ,xZ,fun R hg=>zaa (wkl [sb h0,se (zaf Tg.cells hx rfl),sl [0] c1,sg h2,sqx (out.length=(List.map zbR out).length),sb h3,si hw] [0,5,8,9,10] 2 kr (gZ R hg))⟩
  ·obtain ⟨uZ,outZ,qZ,xZ,gZ⟩:=ih t1 (out++[x.name]) Zo ztP Zo;exact ⟨uZ,outZ,qZ,xZ,fun R hg=>zaa (wkl [sb h0,se (zaf Tg.cells hx rfl),sl [0] c1,sg h2,sqx (out.length=(List.map zbR out).length),sb h3,sqA (List.map zbR out) [[sv x.name]] out.length 1 16,si hw] [0,5,8,9,10] 2 kr (zaK 5 1 (List.map zbR out++[[sv x.name]]) (gZ R hg) (he:=Zcv2) (hm:=Zcv2)))⟩
theorem zcc (t:Tp) (l:List Tg) (hl:zac l):∃ (r:List Str) (t':Tp),(r.length<=8/\∀ s∈r,s∈l.map Tg.name)/\zab E0 S.B8 [.p 0 0,.sl (l.map Tg.cells)] [.box t.cells] (ssl r) [.box t'.cells]:=by
 obtain ⟨u1,out1,q1,q1_1,g1⟩:=zhm t l (by first|assumption|omega|exact ⟨by simp,by simp⟩) 0 t ([]) (by first|assumption|omega|exact ⟨by simp,by simp⟩) (by first|assumption|omega|exact ⟨by simp,by simp⟩)
 exact ⟨out1,u1,by first|assumption|trivial|(simp;done)|omega|(simp;omega)|(simp at *;omega),wkc At.B8 (c':=(Cfg.mk (L_nm t l 0 t []).n (L_nm t l 0 t []).todo [(0,AV.p 0 0),(5,AV.nl),(8,ZG l),(9,iv (↑(List.map Tg.cells l).length:Int)),(10,iv 0)] [Blk.box [AV.sl (List.map (fun n=>[iv n]) t.l),iv (t.pos:Int)]])) [] [0,5,8,9,10] 1 kr (zgM (c':=L_nm t l 0 t []) 5 Ty.string [0,5,8,9,10] 2 kr kr kr (g1 _ (zaa (wkr [sqx (out1.length=(List.map zbR out1).length),sb q1_1] kr))))⟩
noncomputable def L_sv (s:Sch) (i:Nat) (keys:Int):Cfg:=zai B.AZ 0 [(1,.p 0 0),(3,iv keys),(23,.sl (s.cols.map Col.cells)),(24,iv ((s.cols.map Col.cells).length:Nat)),(25,iv (i:Nat))] [.box s.cells]
theorem zk6 (s:Sch) (h:zac s.cols) (i:Nat) (keys:Int) (hi:i<=(s.cols).length) (hI:True):(∃ (keys':Int),(True)/\(decide ((((s.cols).length:Nat):Int) < (((s.cols.map Col.cells).length:Nat):Int))=false)/\∀ R,Good E0 B.AZ [] (L_sv s (s.cols).length keys') R->Good E0 B.AZ [] (L_sv s i keys) R)\/(∃ (r:Bool),Good E0 B.AZ [] (L_sv s i keys) (Shut 0 fun rZ hZ=>rZ=(bv r)/\hZ=[])):=by
 have hk:=hi;revert i keys hI;refine zlp ((s.cols).length) (fun i hlt ih keys hi hI _=>?_)
 obtain ⟨x,hx,h0,hw⟩:=zlq (l:=s.cols) ((s.cols.map Col.cells).length) hlt
 obtain ⟨r1,c1⟩:=(zar x.name)
 cases h2:!r1
 ·cases h3:decide (x.type < 1)
  ·cases h4:decide (3 < x.type)
   ·cases h5:x.key
    ·obtain ⟨r6,q6,c6⟩:=(zd8 s x.name zeM)
     cases h7:r6 != (i:Int)
     ·exact (ih keys Zo (by first|trivial|assumption|(simp;done)|omega|(simp;omega)|(simp at *;omega)) Zo).elim (fun ⟨keysZ,qZ,xZ,gZ⟩=>.inl ⟨keysZ,qZ,xZ,fun R hg=>zaa (wkl [sb h0,se (zaf Col.cells hx rfl),sc c1,sg h2,sg h3,sg h4,sb h5,sc c6,sb h7,sb h5,si hw] [1,3,23,24,25] 1 kr (gZ R hg))⟩) (fun ⟨rY,gZ⟩=>.inr ⟨rY,zaa (wkl [sb h0,se (zaf Col.cells hx rfl),sc c1,sg h2,sg h3,sg h4,sb h5,sc c6,sb h7,sb h5,si hw] [1,3,23,24,25] 1 kr gZ)⟩)
     ·exact .inr ⟨false,zaa (wkr [sb h0,se (zaf Col.cells hx rfl),sc c1,sg h2,sg h3,sg h4,sb h5,sc c6,sb h7] kr)⟩
    ·cases h8:!x.notNull
     ·obtain ⟨r9,q9,c9⟩:=(zd8 s x.name zeM)
      cases h10:r9 != (i:Int)
      ·exact (ih (IntKind.i64.wrap (keys+1)) Zo (by first|trivial|assumption|(simp;done)|omega|(simp;omega)|(simp at *;omega)) Zo).elim (fun ⟨keysZ,qZ,xZ,gZ⟩=>.inl ⟨keysZ,qZ,xZ,fun R hg=>zaa (wkl [sb h0,se (zaf Col.cells hx rfl),sc c1,sg h2,sg h3,sg h4,sg h5,sg h8,sc c9,sb h10,sb h5,si (e:=IntKind.i64.wrap (keys+1)) rfl,si hw] [1,3,23,24,25] 1 kr (gZ R hg))⟩) (fun ⟨rY,gZ⟩=>.inr ⟨rY,zaa (wkl [sb h0,se (zaf Col.cells hx rfl),sc c1,sg h2,sg h3,sg h4,sg h5,sg h8,sc c9,sb h10,sb h5,si (e:=IntKind.i64.wrap (keys+1)) rfl,si hw] [1,3,23,24,25] 1 kr gZ)⟩)
      ·exact .inr ⟨false,zaa (wkr [sb h0,se (zaf Col.cells hx rfl),sc c1,sg h2,sg h3,sg h4,sg h5,sg h8,sc c9,sb h10] kr)⟩
     ·exact .inr ⟨false,zaa (wkr [sb h0,se (zaf Col.cells hx rfl),sc c1,sg h2,sg h3,sg h4,sg h5,sb h8] kr)⟩
   ·exact .inr ⟨false,zaa (wkr [sb h0,se (zaf Col.cells hx rfl),sc c1,sg h2,sg h3,sb h4] kr)⟩
  ·exact .inr ⟨false,zaa (wkr [sb h0,se (zaf Col.cells hx rfl),sc c1,sg h2,sb h3] kr)⟩
 ·exact .inr ⟨false,zaa (wkr [sb h0,se (zaf Col.cells hx rfl),sc c1,sb h2] kr)⟩
theorem zuh (s:Sch) (h:zac s.cols):∃ (r:Bool),zab E0 S.AZ [s.av] [] (bv r) []:=by
 obtain ⟨r1,c1⟩:=(zar s.name)
 cases h2:!r1
 ·cases h3:decide ((↑(List.map Col.cells s.cols).length:Int) < 1)
  ·cases h4:decide (6 < (↑(List.map Col.cells s.cols).length:Int))
   ·rcases zk6 s zeM 0 0 zeM zeM with ⟨keys5,q5,q5_1,g5⟩|⟨r5_0,g5⟩
    ·exact ⟨decide (keys5<=(1:Int)),wkc At.AZ [sc c1,sg h2,sg h3,sb h4] [1,3,23,24,25] 1 kr (g5 _ (zaa (wkr [sb q5_1] kr)))⟩
    ·exact ⟨r5_0,wkc At.AZ [sc c1,sg h2,sg h3,sb h4] [1,3,23,24,25] 1 kr (g5)⟩
   ·exact ⟨false,wk At.AZ [sc c1,sg h2,sg h3,sb h4] kr⟩
  ·exact ⟨false,wk At.AZ [sc c1,sg h2,sb h3] kr⟩
 ·exact ⟨false,wk At.AZ [sc c1,sb h2] kr⟩
abbrev Bare (x:Tb):Prop:=x.rows=[]/\zac x.sch.cols
theorem zxq (s:Sch) (h:zac s.cols):∃ (x:Tb) (e:Int),Bare x/\zab E0 S.DI [s.av] [] (.tup [x.av,iv e]) []:=by
 obtain ⟨r1,c1⟩:=(zuh s zeM)
 cases h2:!r1
 ·exact ⟨Tb.mk s 1 [],0,by first|exact ⟨rfl,h⟩|exact ⟨rfl,by simp⟩,wk At.DI [sqx ((True/\(List.map Col.cells s.cols).length=(List.map Col.cells s.cols).length/\True/\True/\True)/\True/\True),sc c1,sb h2,sqx (AllLen (List.map Col.cells s.cols) 4/\((List.map Col.cells s.cols).length * 32).le 140737488355328)] kr⟩
 ·exact ⟨Tb.mk (Sch.mk Zs0 []) 0 [],17,by first|exact ⟨rfl,h⟩|exact ⟨rfl,by simp⟩,wk At.DI [sc c1,sb h2] kr⟩
noncomputable def L_tb  (i:Nat) (out:List Tb):Cfg:=zai B.Cr 0 [(3,.own 0 out.length),(12,.sl (zan.map Sch.cells)),(13,iv ((zan.map Sch.cells).length:Nat)),(14,iv (i:Nat))] [.row Ty.Table (out.map Tb.cells) false]
theorem zh0  (hc:∀ s∈zan,zac s.cols) (hs:zac zan) (i:Nat) (out:List Tb) (hi:i<=(zan).length) (hI:out.length=i/\∀ x∈out,Bare x):∃ (out':List Tb),(out'.length=(zan).length/\∀ x∈out',Bare x)/\(decide ((((zan).length:Nat):Int) < (((zan.map Sch.cells).length:Nat):Int))=false)/\∀ R,Good E0 B.Cr [] (L_tb  (zan).length out') R->Good E0 B.Cr [] (L_tb  i out) R:=by
 have hk:=hi;revert i out;refine zlp ((zan).length) (fun i hlt ih out hi hI _=>?_)
 obtain ⟨x,hx,h0,hw⟩:=zlq (l:=zan) ((zan.map Sch.cells).length) hlt
 have hxs:=hc x (yC hx)
 have hol:out.length<=1000000000:=by have:=hI.1;simp only [zac] at hs;omega
 obtain ⟨x1,e1,q1,c1⟩:=(zxq x zeM)
 exact Zih (ih (out++[x1]) Zo (by (refine ⟨by simp;omega,fun z hz=>?_⟩;simp only [yK,yF] at hz;rcases hz with hz|rfl;exact hI.2 z hz;assumption)) Zo) fun R gY=>zaa (wkl [sb h0,se (zaf Sch.cells hx rfl),sc c1,sqA (List.map Tb.cells out) [[sv x1.sch.name,ZC x1.sch.cols,iv x1.next,ZW x1.rows]] out.length 4 72,si hw] [3,12,13,14] 1 kr (zaK 3 0 (List.map Tb.cells out++[[sv x1.sch.name,ZC x1.sch.cols,iv x1.next,ZW x1.rows]]) gY (he:=Zcv2) (hm:=Zcv2)))
theorem zoB  (hc:∀ s∈zan,zac s.cols) (hs:zac zan):∃ (out:List Tb),(out.length=zan.length/\∀ x∈out,Bare x)/\zab E0 S.Cr [.sl []] [] (tsl out) []:=by
 obtain ⟨out1,q1,q1_1,g1⟩:=zh0 zpI zpI 0 ([]) zpI zpI
 exact ⟨out1,by first|assumption|trivial|(simp;done)|omega|(simp;omega)|(simp at *;omega),wkc At.Cr (c':=(Cfg.mk (L_tb 0 []).n (L_tb 0 []).todo [(3,AV.nl),(12,ZS zan),(13,iv (↑(List.map Sch.cells zan).length:Int)),(14,iv 0)] [])) [sb Zf,sc zfB] [3,12,13,14] 0 kr (zgM (c':=L_tb 0 []) 3 Ty.Table [3,12,13,14] 1 kr kr kr (g1 _ (zaa (wkr [sqx (out1.length=(List.map Tb.cells out1).length),sb Zf] kr))))⟩
theorem zfL {p:Prop} (h:p:=by first|assumption|omega|(simp;done)|exact trFew hfw ‹_›|exact And.left ‹_›|exact ⟨by simp [zan],by simp [zan],fun x hx=>(zep hx).few⟩):p:=h
theorem frFew (g:Tg) {s:Sch} (hs:Few s.cols) (a b:List V):(zcv g s a b).length<=2/\∀ f∈zcv g s a b,Few f.cols:=by
 unfold zcv
 cases g.each <;> cases g.event==2 <;> cases g.event==3 <;> cases g.event==1 <;> simp [hs]
theorem trFew {s:Sch} {r:List Tb} (hs:Few s.cols) (h:r.length<=2/\∀ x∈r,∃ n,x=trTb n s):∀ x∈r,Few x.sch.cols:=fun x hx=>by
 obtain ⟨n,rfl⟩:=h.2 x hx
 simpa [trTb,Few] using hs
theorem zAX {g:Tg} {s:Sch} {ss:List Sch} {a b:List V} (hs:Few s.cols) (h:3<=ss.length/\ss.length<=5/\∀ x∈ss,Few x.cols):(Pl.mk (zcv g s a b) ss).OkN 4 :=
 ⟨by have:=(frFew g hs a b).1;simp only;omega,(frFew g hs a b).2,fun h0=>by simp only at h0;rw [h0] at h;simp at h,by simp only [Few];omega,h.2.2⟩
noncomputable def L_pl (g:Tg) (s:Sch) (frs:List Fr) (tr:List Tb) (i:Nat) (ss:List Sch):Cfg:=zai B.CK 0 [(2,.p 1 0),(4,.p 4 0),(18,tsl tr),(19,iv ((tr.map Tb.cells).length:Nat)),(20,iv (i:Nat))] [.box g.cells,.box [.nl,.nl],.box s.cells,.row Ty.Schema (ss.map Sch.cells) false,.box [fsl frs,.own 3 ss.length]]
theorem zkf (g:Tg) (s:Sch) (frs:List Fr) (tr:List Tb) (hl:tr.length<=2) (hf:∀ x∈tr,Few x.sch.cols) (i:Nat) (ss:List Sch) (hi:i<=(tr).length) (hI:3<=ss.length/\ss.length<=3+i/\∀ x∈ss,Few x.cols):∃ (ss':List Sch),(3<=ss'.length/\ss'.length<=3+(tr).length/\∀ x∈ss',Few x.cols)/\(decide ((((tr).length:Nat):Int) < (((tr.map Tb.cells).length:Nat):Int))=false)/\∀ R,Good E0 B.CK [] (L_pl g s frs tr (tr).length ss') R->Good E0 B.CK [] (L_pl g s frs tr i ss) R:=by
 have hk:=hi;revert i ss;refine zlp ((tr).length) (fun i hlt ih ss hi hI _=>?_)
 obtain ⟨x,hx,h0,hw⟩:=zlq (l:=tr) ((tr.map Tb.cells).length) hlt
 have hsl:ss.length<=5:=by omega
 exact Zih (ih (ss++[x.sch]) Zo (by (refine ⟨by simp;omega,by simp;omega,fun z hz=>?_⟩;simp only [yK,yF] at hz;rcases hz with hz|rfl;exact hI.2.2 z hz;exact hf x (yC hx))) Zo) fun R gY=>zaa (wkl [sb h0,se (zaf Tb.cells hx rfl),sqA (List.map Sch.cells ss) [x.sch.cells] ss.length 2 40,si hw] [2,4,18,19,20] 5 kr (zas (show ([(2,AV.p 1 0),(4,AV.p 4 0),(18,tsl tr),(19,iv (↑(List.map Tb.cells tr).length:Int)),(20,iv (↑(i+1):Int))]:TS)=[(2,AV.p 1 0),(4,AV.p 4 0),(18,tsl tr),(19,iv (↑(List.map Tb.cells tr).length:Int)),(20,iv (↑(i+1):Int))] from Zcv2) (show ([Blk.box g.cells,Blk.box [AV.nl,AV.nl],Blk.box s.cells,Blk.row Ty.Schema (List.map Sch.cells ss++[x.sch.cells]) false,Blk.box [fsl frs,AV.own 3 (List.map Sch.cells ss++[x.sch.cells]).length]]:Heap)=[Blk.box g.cells,Blk.box [AV.nl,AV.nl],Blk.box s.cells,Blk.row Ty.Schema (List.map Sch.cells (ss++[x.sch])) false,Blk.box [fsl frs,AV.own 3 (ss++[x.sch]).length]] from Zcv2) gY))
theorem zrE (g:Tg) (hsh:zac zan) (hfw:Few (zal g.table).cols) (hs:zac (zal g.table).cols) (hS:zab E0 S.AH [] [] (.own 0 3) [.row Ty.Schema (zan.map Sch.cells) false]):∃ (p:Pl),p.OkN 4/\zab E0 S.CK [g.av] [] p.av []:=by
 obtain ⟨r1,q1,c1⟩:=(zgn g (zal g.table) zfL)
 obtain ⟨ss2,q2,q2_1,g2⟩:=zkf g (zal g.table) (zcv g (zal g.table) [] []) r1 zfL zfL 0 zan zfL zfL
 exact ⟨Pl.mk (zcv g (zal g.table) [] []) ss2,(by exact zAX hfw ⟨by omega,by omega,by simp_all⟩),wkc At.CK [sc (zbx g.table zfL),sc (zkw g (zal g.table) ([]) ([]) zfL zfL zfL),sc hS,sc c1] [2,4,18,19,20] 5 kr (g2 _ (zaa (wkr [sqx (True/\ss2.length=(List.map Sch.cells ss2).length/\True),sb q2_1] kr)))⟩
theorem zb6 (g:Tg) (h:TabN g.table):∃ p:Pl,p.OkN 4/\zab E0 S.CK [g.av] [] p.av [] :=
 zrE g zdc (zcB h).few (zaE (zcB h).few) znX
def nmAt (k:Nat):Str:=([⟨#[110]⟩,⟨#[109]⟩]:List Str).getD k ⟨#[]⟩
theorem zgK (k:Nat) (h:(k:Int) < 2):ElAt [[sv ⟨#[110]⟩],[sv ⟨#[109]⟩]] (k:Int) [sv (nmAt k)] 1:=by
 have:k=0\/k=1:=by omega
 rcases this with rfl|rfl <;> exact ⟨by decide,rfl,rfl⟩
def tuAt (k:Nat):Str:=([⟨#[116]⟩,⟨#[117]⟩]:List Str).getD k ⟨#[]⟩
theorem znw (k:Nat) (h:(k:Int) < 2):ElAt [[sv ⟨#[116]⟩],[sv ⟨#[117]⟩]] (k:Int) [sv (tuAt k)] 1:=by
 have:k=0\/k=1:=by omega
 rcases this with rfl|rfl <;> exact ⟨by decide,rfl,rfl⟩
def xBtw (c:Str) (lo hi:Int):X :=
 X.mk 7 0 false (V.mk 0 0 Zs0) Zs0 Zs0 [xCol Zs0 c,xNum lo,xNum hi] []
theorem zed (c:Str) (lo hi:Int) (h1:-9223372036854775808 < lo) (h2:-9223372036854775808 < hi):zab E0 S.DA [sv c,iv lo,iv hi] [] ((xBtw c lo hi).av) []:=by
 unfold xBtw
 exact (by (try simp only [zsl,xCol,xLit,xBin,xNeg,Im.cells,Lk.cells,Ac.cells,Se.cells,Tg.cells,Rk.cells]);exact wk At.DA [sc (zaM Zs0 c),sc (zaZ lo (by first|assumption|omega|(simp;done)|(simp;omega))),sc (zaZ hi (by first|assumption|omega|(simp;done)|(simp;omega)))] kr)
structure GenOk (x:Tg):Prop where
 ok:TgOk 6 x
 set:∀ a∈x.acts,zrU a
structure CertOk (x x':Tg):Prop where
 gen:GenOk x->GenOk x'
 name:x'.name=x.name
 table:x'.table=x.table
 prec:x'.prec=x.prec
 foll:x'.foll=x.foll
theorem zc9 {n:Nat} (a b:Str):XOk (n+1) (xCol a b):=⟨zbK,⟨by simp [xCol,Few],by simp [xCol,Few]⟩,by simp [xCol],by simp [xCol]⟩
theorem zeN {p:Prop} (h:p:=by first|assumption|exact hp.pos|omega|exact hp.ins ‹_›|(simp [plIn];done)|(simp at *;omega)|exact hp.short|exact ⟨rfl,by simp⟩):p:=h
theorem zm6 {p:Prop} (h:p:=by first|assumption|omega|(simp only [Few,yAt,yV];omega)|exact fun f hf=>hp.cols f (List.mem_of_mem_take (List.mem_of_mem_drop hf))|(simp;done)):p:=h
theorem ztQ {p:Prop} (h:p:=by (refine ⟨by simp;omega,fun z hz=>?_⟩;simp only [yK,yF] at hz;rcases hz with hz|rfl;exact hI.2 z hz;first|exact XOk.le ‹_› Zo|exact (zf8 (n:=2) (zgD ((by assumption:_->zfs _) ‹_›)) (zde Zo Zo)).le Zo)):p:=h
theorem zxk (l:List Fr) (h:l.length<=1000/\0 < l.length):SubAt (l.map Fr.cells) (IntKind.i64.wrap ((((l.map Fr.cells).length:Nat):Int) - 1)) (((l.map Fr.cells).length:Nat):Int) 4:=by
 have h1:IntKind.i64.wrap ((((l.map Fr.cells).length:Nat):Int) - 1)=((l.length:Nat):Int) - 1:=by rw [IntKind.wrap_i64];simp;omega
 rw [h1]
 refine ⟨by omega,by simp;omega,by simp,?_⟩
 simp
noncomputable def L_cp (t0:Tp) (p pi:Pl) (s f:Sch) (i:Nat) (u:Tp) (its:List X):Cfg:=zai B.BM 0 [(0,.p 0 0),(3,iv 1),(8,.p 3 0),(10,.p 5 0),(11,.p 6 0),(33,.sl (s.cols.map Col.cells)),(34,iv ((s.cols.map Col.cells).length:Nat)),(35,iv (i:Nat))] [.box u.cells,.box p.cells,.box s.cells,.box [.bl false,.nl,sv ⟨#[]⟩,.nl],.box f.cells,.box pi.cells,.box [.bl false,.own 7 its.length,sv f.name,.nl],.row Ty.Expr (zad its) false]
theorem zgC (t0:Tp) (p pi:Pl) (s f:Sch) (hp:pi.OkN 2) (hs:Few s.cols) (hfr:pi.frs≠[]) (i:Nat) (u:Tp) (its:List X) (hi:i<=(s.cols).length) (hI:its.length=i/\∀ x∈its,XOk 5 x):∃ (u':Tp) (its':List X),(its'.length=(s.cols).length/\∀ x∈its',XOk 5 x)/\(decide ((((s.cols).length:Nat):Int) < (((s.cols.map Col.cells).length:Nat):Int))=false)/\∀ R,Good E0 B.BM [.box t0.cells] (L_cp t0 p pi s f (s.cols).length u' its') R->Good E0 B.BM [.box t0.cells] (L_cp t0 p pi s f i u its) R:=by
 have hk:=hi;revert i u its;refine zlp ((s.cols).length) (fun i hlt ih u its hi hI _=>?_)
 obtain ⟨x,hx,h0,hw⟩:=zlq (l:=s.cols) ((s.cols.map Col.cells).length) hlt
 have hfl:pi.frs.length<=1000/\0 < pi.frs.length:=⟨by have:=hp.frs;omega,List.length_pos_iff.2 hfr⟩
 have hil:its.length<=1000:=by have:=hI.1;simp only [Few] at hs;omega
 have hsa:=zxk pi.frs hfl
 obtain ⟨e1,t1,q1,c1⟩:=(zaA u pi x.type zm6)
 let p_1:List St:=[sb h0,se (zaf Col.cells hx rfl),sl [0] c1]
 cases h2:x.key
 ·obtain ⟨uZ,itsZ,qZ,xZ,gZ⟩:=ih t1 (its++[e1]) Zo ztQ Zo;exact ⟨uZ,itsZ,qZ,xZ,fun R hg=>zaa (wkl (p_1++[sb h2,sqA (zad its) [e1.cells] its.length 10 136,si hw]) [0,3,8,10,11,33,34,35] 8 kr (zas (show ([(0,AV.p 0 0),(3,iv 1),(8,AV.p 3 0),(10,AV.p 5 0),(11,AV.p 6 0),(33,ZC s.cols),(34,iv (↑(List.map Col.cells s.cols).length:Int)),(35,iv (↑(i+1):Int))]:TS)=[(0,AV.p 0 0),(3,iv 1),(8,AV.p 3 0),(10,AV.p 5 0),(11,AV.p 6 0),(33,ZC s.cols),(34,iv (↑(List.map Col.cells s.cols).length:Int)),(35,iv (↑(i+1):Int))] from Zcv2) (show ([Blk.box [AV.sl (List.map (fun n=>[iv n]) t1.l),iv (t1.pos:Int)],Blk.box [fsl p.frs,ZS p.tbs],Blk.box s.cells,Blk.box [AV.bl false,AV.nl,sv Zs0,AV.nl],Blk.box f.cells,Blk.box [fsl pi.frs,ZS pi.tbs],Blk.box [AV.bl false,AV.own 7 (zad its++[e1.cells]).length,sv f.name,AV.nl],Blk.row Ty.Expr (zad its++[e1.cells]) false]:Heap)=[Blk.box t1.cells,Blk.box [fsl p.frs,ZS p.tbs],Blk.box s.cells,Blk.box [AV.bl false,AV.nl,sv Zs0,AV.nl],Blk.box f.cells,Blk.box [fsl pi.frs,ZS pi.tbs],Blk.box [AV.bl false,AV.own 7 (its++[e1]).length,sv f.name,AV.nl],Blk.row Ty.Expr (zad (its++[e1])) false] from Zcv2) (gZ R hg)))⟩
 ·obtain ⟨x3,ok3,t3,q3,c3⟩:=(zbX t1 (Pl.mk (List.drop (IntKind.i64.wrap ((↑(List.map Fr.cells pi.frs).length:Int) - 1)).toNat (List.take (List.map Fr.cells pi.frs).length pi.frs)) []) 1 zm6 zm6)
  let p_2:List St:=p_1++[sb h2,si (e:=IntKind.i64.wrap ((↑(List.map Fr.cells pi.frs).length:Int) - 1)) rfl,sqx (SubAt (List.map Fr.cells pi.frs) (IntKind.i64.wrap ((↑(List.map Fr.cells pi.frs).length:Int) - 1)) (↑(List.map Fr.cells pi.frs).length:Int) 4),sl [0] (conv (args:=[AV.p 0 0,AV.agg [AV.sl (List.drop (IntKind.i64.wrap ((↑(List.map Fr.cells pi.frs).length:Int) - 1)).toNat (List.take (↑(List.map Fr.cells pi.frs).length:Int).toNat (List.map Fr.cells pi.frs))),AV.sl []],iv 1]) (hl:=[Blk.box [AV.sl (List.map (fun n=>[iv n]) t1.l),iv (t1.pos:Int)]]) c3 (by first|(simp;done)|(simp [Pl.cells,Tp.cells,List.map_drop,List.map_take,yAP];done)|rfl) (by first|(simp;done)|(simp [Pl.cells,Tp.cells,List.map_drop,List.map_take,yAP];done)|rfl))]
  rcases (yD ok3).symm with h4|h4
  ·obtain ⟨uZ,itsZ,qZ,xZ,gZ⟩:=ih t3 (its++[e1]) Zo ztQ Zo;exact ⟨uZ,itsZ,qZ,xZ,fun R hg=>zaa (wkl (p_2++[sb h4,sqA (zad its) [e1.cells] its.length 10 136,si hw]) [0,3,8,10,11,33,34,35] 8 kr (zas (show ([(0,AV.p 0 0),(3,iv 1),(8,AV.p 3 0),(10,AV.p 5 0),(11,AV.p 6 0),(33,ZC s.cols),(34,iv (↑(List.map Col.cells s.cols).length:Int)),(35,iv (↑(i+1):Int))]:TS)=[(0,AV.p 0 0),(3,iv 1),(8,AV.p 3 0),(10,AV.p 5 0),(11,AV.p 6 0),(33,ZC s.cols),(34,iv (↑(List.map Col.cells s.cols).length:Int)),(35,iv (↑(i+1):Int))] from Zcv2) (show ([Blk.box [AV.sl (List.map (fun n=>[iv n]) t3.l),iv (t3.pos:Int)],Blk.box [fsl p.frs,ZS p.tbs],Blk.box s.cells,Blk.box [AV.bl false,AV.nl,sv Zs0,AV.nl],Blk.box f.cells,Blk.box [fsl pi.frs,ZS pi.tbs],Blk.box [AV.bl false,AV.own 7 (zad its++[e1.cells]).length,sv f.name,AV.nl],Blk.row Ty.Expr (zad its++[e1.cells]) false]:Heap)=[Blk.box t3.cells,Blk.box [fsl p.frs,ZS p.tbs],Blk.box s.cells,Blk.box [AV.bl false,AV.nl,sv Zs0,AV.nl],Blk.box f.cells,Blk.box [fsl pi.frs,ZS pi.tbs],Blk.box [AV.bl false,AV.own 7 (its++[e1]).length,sv f.name,AV.nl],Blk.row Ty.Expr (zad (its++[e1])) false] from Zcv2) (gZ R hg)))⟩
  ·obtain ⟨a5,t5,q5,c5⟩:=(zae t3 20 zm6)
   obtain ⟨uZ,itsZ,qZ,xZ,gZ⟩:=ih t5 (its++[xBin 9 x3 (xNum (↑(10+a5):Int))]) Zo ztQ Zo;exact ⟨uZ,itsZ,qZ,xZ,fun R hg=>zaa (wkl (p_2++[sb h4,sd [(2,[sl [0] c5]),(3,[si (zap (t:=10+(a5:Int)) (n:=10+a5) Zo Zo)]),(4,[sc (zaZ ((↑(10+a5):Int)) zm6)]),(5,[sc (zaz 9 x3 (xNum (↑(10+a5):Int)))])],sqA (zad its) [(xBin 9 x3 (xNum (↑(10+a5):Int))).cells] its.length 10 136,si hw]) [0,3,8,10,11,33,34,35] 8 kr (zas (show ([(0,AV.p 0 0),(3,iv 1),(8,AV.p 3 0),(10,AV.p 5 0),(11,AV.p 6 0),(33,ZC s.cols),(34,iv (↑(List.map Col.cells s.cols).length:Int)),(35,iv (↑(i+1):Int))]:TS)=[(0,AV.p 0 0),(3,iv 1),(8,AV.p 3 0),(10,AV.p 5 0),(11,AV.p 6 0),(33,ZC s.cols),(34,iv (↑(List.map Col.cells s.cols).length:Int)),(35,iv (↑(i+1):Int))] from Zcv2) (show ([Blk.box [AV.sl (List.map (fun n=>[iv n]) t5.l),iv (t5.pos:Int)],Blk.box [fsl p.frs,ZS p.tbs],Blk.box s.cells,Blk.box [AV.bl false,AV.nl,sv Zs0,AV.nl],Blk.box f.cells,Blk.box [fsl pi.frs,ZS pi.tbs],Blk.box [AV.bl false,AV.own 7 (zad its++[(xBin 9 x3 (xNum (↑(10+a5):Int))).cells]).length,sv f.name,AV.nl],Blk.row Ty.Expr (zad its++[(xBin 9 x3 (xNum (↑(10+a5):Int))).cells]) false]:Heap)=[Blk.box t5.cells,Blk.box [fsl p.frs,ZS p.tbs],Blk.box s.cells,Blk.box [AV.bl false,AV.nl,sv Zs0,AV.nl],Blk.box f.cells,Blk.box [fsl pi.frs,ZS pi.tbs],Blk.box [AV.bl false,AV.own 7 (its++[xBin 9 x3 (xNum (↑(10+a5):Int))]).length,sv f.name,AV.nl],Blk.row Ty.Expr (zad (its++[xBin 9 x3 (xNum (↑(10+a5):Int))])) false] from Zcv2) (gZ R hg)))⟩
theorem qwA {st:Bool} {nm:Str} {its:List X} {k:Nat} (h:its.length=k/\∀ x∈its,XOk 5 x) (hk:k<=1000):QW 5 (Qy.mk st its nm []):=⟨by simp only [Few,Qy.items_mk];omega,by simp [Few],h.2,by simp⟩
theorem qwB {st:Bool} {nm:Str} {its:List X} {k:Nat} {e:X} (h:its.length=k/\∀ x∈its,XOk 5 x) (hk:k<=1000) (he:XOk 4 e):QW 5 (Qy.mk st its nm [e]):=⟨by simp only [Few,Qy.items_mk];omega,by simp [Few],h.2,by
 simp only [Qy.wh_mk,yF,forall_eq]
 exact he.le Zo⟩
theorem zmt (t:Tp) (p:Pl) (s:Sch) (hp:p.OkN 3) (hs:Few s.cols):∃ (qy:Qy) (t':Tp),QW 5 qy/\zab E0 S.BM [.p 0 0,p.av,s.av,iv 1] [.box t.cells] qy.av [.box t'.cells]:=by
 obtain ⟨a1,t1,q1,c1⟩:=(zae t ((↑(List.map Sch.cells p.tbs).length:Int)) zeN)
 obtain ⟨x2,e2⟩:=zbc (l:=p.tbs) (i:=a1) zeN
 obtain ⟨u3,its3,q3,q3_1,g3⟩:=zgC t p (plIn p x2) s x2 zeN zeN zeN 0 t1 ([]) zeN zeN
 obtain ⟨b4,t4,c4⟩:=(zah u3 2 zeN)
 let p_1:List St:=[sdm [(6,[sl [0] c1]),(7,[se (zaf Sch.cells e2 rfl)])] 0 [(0,AV.p 0 0),(1,AV.agg [fsl p.frs,ZS p.tbs]),(2,AV.agg [sv s.name,ZC s.cols]),(3,iv 1),(5,AV.p 1 0),(6,AV.p 2 0),(8,AV.p 3 0),(9,AV.p 4 0),(17,AV.p 1 1),(18,ZS p.tbs),(19,AV.p 0 0),(20,AV.p 1 1),(21,ZS p.tbs),(22,iv (↑(List.map Sch.cells p.tbs).length:Int)),(23,iv (a1:Int)),(24,AV.dp [sv x2.name,ZC x2.cols]),(25,AV.agg [sv x2.name,ZC x2.cols])] [Blk.box [AV.sl (List.map (fun n=>[iv n]) t1.l),iv (t1.pos:Int)],Blk.box [fsl p.frs,ZS p.tbs],Blk.box [sv s.name,ZC s.cols],Blk.box [AV.bl false,AV.nl,sv Zs0,AV.nl],Blk.box [sv x2.name,ZC x2.cols]],sc (zbQ p x2 zeN)]
 let p_2:List St:=[sqx (True/\its3.length=(zad its3).length/\True/\True/\True),sb q3_1,sl [0] c4]
 rcases (yD b4).symm with h5|h5
 ·exact ⟨Qy.mk false its3 x2.name [],t4,(by first|exact qwA ‹_› (by simpa [Few] using hs)|exact qwB ‹_› (by simpa [Few] using hs) ‹_›),wkcN At.BM p_1 [0,3,8,10,11,33,34,35] 7 [(.ob 6 1 Ty.Expr,8)] kr (g3 _ (zaa (wkr (p_2++[sb h5]) kr)))⟩
 ·obtain ⟨e6,t6,q6,c6⟩:=(zaA t4 (plIn p x2) 2 zeN)
  exact ⟨Qy.mk false its3 x2.name [e6],t6,(by first|exact qwA ‹_› (by simpa [Few] using hs)|exact qwB ‹_› (by simpa [Few] using hs) ‹_›),wkcN At.BM p_1 [0,3,8,10,11,33,34,35] 7 [(.ob 6 1 Ty.Expr,8)] kr (g3 _ (zaa (wkrS (y:=AV.agg [bv false,AV.sl (zad its3),sv x2.name,AV.sl [e6.cells]]) (H:=[Blk.box [AV.sl (List.map (fun n=>[iv n]) t6.l),iv (t6.pos:Int)]]) (p_2++[sb h5,sl [0] c6]) kr ⟨Zcv2,Zcv2⟩)))⟩
theorem zci {p:Prop} (h:p:=by first|assumption|omega|exact hp.less|exact (zcB ‹_›).few|exact zcB ‹_›|exact hp.short|exact zyk hp (zcB ‹_›).few|exact zvx ‹_›|exact ⟨by simp,by simp,by simp⟩|exact ⟨by simp;omega,by simp⟩|(simp only [yG] at *;omega)|(simp;done)):p:=h
theorem zdx {p:Prop} (h:p:=by first|assumption|omega|exact hI.push (by simp only [decide_eq_true_eq] at *;omega) ‹_›|exact hI.push (by simp only [decide_eq_true_eq] at *;omega) ((zf8 (n:=2) (zc9 _ _) (zde Zo Zo)).le Zo)|(simp;done)):p:=h
theorem zm7 {p:Prop} (h:p:=by first|exact zow hI ‹_›|exact zow hI (zc4 (And.right ‹_›))|exact zA1 (zow hI (zc4 (n:=3) (And.right ‹_›))) ((zde (n:=2) Zo Zo))):p:=h
theorem zm8 {p:Prop} (h:p:=by first|assumption|exact acIns ‹_› Zo|exact acCp ‹_› Zo|exact zxI Zo|exact acDel1 ‹_› Zo):p:=h
theorem ziJ {p:Prop} (h:p:=by first|assumption|exact acUp hI hk|exact acUp1 hI hk ‹_›):p:=h
theorem zkM {p:Prop} (h:p:=by first|assumption|omega|(simp;done)|(simp;omega)):p:=h
theorem zpJ {p:Prop} (h:p:=by first|assumption|omega|exact ⟨rfl,by simp⟩|(simp;done)):p:=h
abbrev zwm (k:Int) (n:Str):List AV:=[iv k,sv n,.nl,.nl,.nl,.nl,sv ⟨#[]⟩]
theorem zow {xs:List X} {i:Nat} {e:X} (h:xs.length=i/\∀ x∈xs,XOk 5 x) (he:XOk 4 e):(xs++[e]).length=i+1/\∀ x∈xs++[e],XOk 5 x :=
 ⟨by simp;omega,fun x hx=>by
  simp only [yK,yF] at hx
  rcases hx with hx|rfl
  ·exact h.2 x hx
  ·exact he.le Zo⟩
theorem zA1 {xs:List X} {i k:Nat} {e:X} (h:xs.length=i/\∀ x∈xs,XOk 5 x) (he:XOk 4 e):(xs.set k e).length=i/\∀ x∈xs.set k e,XOk 5 x :=
 ⟨by simp;omega,fun x hx=>by
  rcases List.mem_or_eq_of_mem_set hx with hx|rfl
  ·exact h.2 x hx
  ·exact he.le Zo⟩
theorem zz1 {n:Nat} (h:n<=1000):(IntKind.i64.wrap (((n+1:Nat):Int) - 1)).toNat=n:=by
 rw [IntKind.wrap_i64];omega
theorem zve (xs:List X) (c:List AV) (h:xs.length<=1000):OwnEl (zad xs++[c]) (zad xs++[c]).length (IntKind.i64.wrap ((((zad xs++[c]).length:Nat):Int) - 1)).toNat c:=by
 have h1:(zad xs++[c]).length=xs.length+1:=by simp
 refine ⟨rfl,?_⟩
 rw [h1,zz1 h]
 simp
noncomputable def L_chC (t0:Tp) (p pi:Pl) (s:Sch) (kd:Int) (rows:List (List X)) (kq:Nat) (i:Nat) (u:Tp) (xs:List X):Cfg:=zai B.Ay 1 [(0,.p 0 0),(2,iv 1),(4,.p 1 0),(6,.p 2 0),(7,.p 3 0),(8,.p 4 0),(9,.p 5 0),(10,iv (kq:Nat)),(11,.own 7 xs.length),(52,.sl (s.cols.map Col.cells)),(53,iv ((s.cols.map Col.cells).length:Nat)),(54,iv (i:Nat))] [.box u.cells,.box p.cells,.box (zwm 0 ⟨#[]⟩),.box s.cells,.box pi.cells,.box [iv kd,sv s.name,.own 6 rows.length,.nl,.nl,.nl,sv ⟨#[]⟩],.row Ty.LExpr (rows.map zaI) false,.row Ty.Expr (zad xs) false]
theorem Zcv4 {p:Prop} (h:p:=by first|rfl|(simp;done)|(simp [zbt,List.map_set,Tp.cells,X.cells,Pl.cells,Sch.cells,xCol,xLit,xBin,xNeg];done)):p:=h
theorem zgg (t0:Tp) (p pi:Pl) (s:Sch) (kd:Int) (rows:List (List X)) (kq:Nat) (hp:p.OkN 2) (hs:Few s.cols) (i:Nat) (u:Tp) (xs:List X) (hi:i<=(s.cols).length) (hI:xs.length=i/\∀ x∈xs,XOk 5 x):∃ (u':Tp) (xs':List X),(xs'.length=(s.cols).length/\∀ x∈xs',XOk 5 x)/\(decide ((((s.cols).length:Nat):Int) < (((s.cols.map Col.cells).length:Nat):Int))=false)/\∀ R,Good E0 B.Ay [.box t0.cells] (L_chC t0 p pi s kd rows kq (s.cols).length u' xs') R->Good E0 B.Ay [.box t0.cells] (L_chC t0 p pi s kd rows kq i u xs) R:=by
 have hk:=hi;revert i u xs;refine zlp ((s.cols).length) (fun i hlt ih u xs hi hI _=>?_)
 obtain ⟨x,hx,h0,hw⟩:=zlq (l:=s.cols) ((s.cols.map Col.cells).length) hlt
 have hil:xs.length<=1000:=by have:=hI.1;simp only [Few] at hs;omega
 have hwx:IntKind.i64.wrap ((xs.length:Nat):Int)=((xs.length:Nat):Int):=by rw [IntKind.wrap_i64];omega
 let p_1:List St:=[sb h0,se (zaf Col.cells hx rfl)]
 cases h1:x.key
 ·obtain ⟨b2,t2,c2⟩:=(zah u 3 zkM)
  rcases (yD b2).symm with h3|h3
  ·obtain ⟨e4,t4,q4,c4⟩:=(zaA t2 p x.type zkM)
   obtain ⟨uZ,xsZ,qZ,xZ,gZ⟩:=ih t4 (xs++[e4]) Zo zm7 Zo;exact ⟨uZ,xsZ,qZ,xZ,fun R hg=>zaa (wkl (p_1++[sg h1,sl [0] c2,sb h3,sl [0] c4,sqA (zad xs) [e4.cells] xs.length 10 136,si hw]) [0,2,4,6,7,8,9,10,11,52,53,54] 8 kr (zaK 11 7 (zad xs++[e4.cells]) (gZ R hg) (he:=Zcv4) (hm:=Zcv4)))⟩
  ·obtain ⟨v5,t5,q5,c5⟩:=(zaU t2 x.type)
   let p_2:List St:=p_1++[sg h1,sl [0] c2,sb h3,sl [0] c5,sc (zaP v5),sqA (zad xs) [[iv (xLit v5).kind,iv (xLit v5).op,bv (xLit v5).not,iv (xLit v5).val.kind,iv (xLit v5).val.int,sv (xLit v5).val.text,sv (xLit v5).table,sv (xLit v5).name,AV.sl (zad []),AV.sl (zam [])]] xs.length 10 136]
   cases h6:x.type==1
   ·obtain ⟨uZ,xsZ,qZ,xZ,gZ⟩:=ih t5 (xs++[xLit v5]) Zo zm7 Zo;exact ⟨uZ,xsZ,qZ,xZ,fun R hg=>zaa (wkl (p_2++[sb h6,si hw]) [0,2,4,6,7,8,9,10,11,52,53,54] 8 kr (zaK 11 7 (zad xs++[(xLit v5).cells]) (gZ R hg) (he:=Zcv4) (hm:=Zcv4)))⟩
   ·obtain ⟨a7,t7,q7,c7⟩:=(zaQ t5)
    obtain ⟨uZ,xsZ,qZ,xZ,gZ⟩:=ih t7 ((xs++[xLit v5]).set (IntKind.i64.wrap ((↑(zad xs++[(xLit v5).cells]).length:Int) - 1)).toNat (xNum a7)) Zo zm7 Zo;exact ⟨uZ,xsZ,qZ,xZ,fun R hg=>zaa (wkl (p_2++[sb h6,sqx ((zad xs++[(xLit v5).cells]).length=(zad xs++[(xLit v5).cells]).length),si (e:=IntKind.i64.wrap ((↑(zad xs++[(xLit v5).cells]).length:Int) - 1)) rfl,sl [0] c7,sc (zaZ a7 zkM),sqx (OwnAt (zad xs++[(xLit v5).cells]) (zad xs++[(xLit v5).cells]).length (IntKind.i64.wrap ((↑(zad xs++[(xLit v5).cells]).length:Int) - 1))),sx (.el ((xLit v5).cells)) (And.intro (owed (p:=True/\True/\True/\True/\True/\True/\True/\True/\True/\True/\True)) (zve xs ((xLit v5).cells) zkM)),si hw]) [0,2,4,6,7,8,9,10,11,52,53,54] 8 kr (zas (show ([(0,AV.p 0 0),(2,iv 1),(4,AV.p 1 0),(6,AV.p 2 0),(7,AV.p 3 0),(8,AV.p 4 0),(9,AV.p 5 0),(10,iv (kq:Int)),(11,AV.own 7 (zad xs++[(xLit v5).cells]).length),(52,ZC s.cols),(53,iv (↑(List.map Col.cells s.cols).length:Int)),(54,iv (↑(i+1):Int))]:TS)=_ from Zcv4) (show ([Blk.box [AV.sl (List.map (fun n=>[iv n]) t7.l),iv (t7.pos:Int)],Blk.box [fsl p.frs,ZS p.tbs],Blk.box [iv 0,sv Zs0,AV.nl,AV.nl,AV.nl,AV.nl,sv Zs0],Blk.box s.cells,Blk.box [fsl pi.frs,ZS pi.tbs],Blk.box [iv kd,sv s.name,AV.own 6 rows.length,AV.nl,AV.nl,AV.nl,sv Zs0],Blk.row Ty.LExpr (List.map zaI rows) false,Blk.row Ty.Expr ((zad xs++[(xLit v5).cells]).set (IntKind.i64.wrap ((↑(zad xs++[(xLit v5).cells]).length:Int) - 1)).toNat (xNum a7).cells) false]:Heap)=_ from Zcv4) (gZ R hg)))⟩
 ·obtain ⟨v8,t8,q8,c8⟩:=(zaU u x.type)
  let p_3:List St:=p_1++[sb h1,sl [0] c8,sc (zaP v8),sqA (zad xs) [[iv (xLit v8).kind,iv (xLit v8).op,bv (xLit v8).not,iv (xLit v8).val.kind,iv (xLit v8).val.int,sv (xLit v8).val.text,sv (xLit v8).table,sv (xLit v8).name,AV.sl (zad []),AV.sl (zam [])]] xs.length 10 136]
  cases h9:x.type==1
  ·obtain ⟨uZ,xsZ,qZ,xZ,gZ⟩:=ih t8 (xs++[xLit v8]) Zo zm7 Zo;exact ⟨uZ,xsZ,qZ,xZ,fun R hg=>zaa (wkl (p_3++[sb h9,si hw]) [0,2,4,6,7,8,9,10,11,52,53,54] 8 kr (zaK 11 7 (zad xs++[(xLit v8).cells]) (gZ R hg) (he:=Zcv4) (hm:=Zcv4)))⟩
  ·obtain ⟨a10,t10,q10,c10⟩:=(zaQ t8)
   obtain ⟨uZ,xsZ,qZ,xZ,gZ⟩:=ih t10 ((xs++[xLit v8]).set (IntKind.i64.wrap ((↑(zad xs++[(xLit v8).cells]).length:Int) - 1)).toNat (xNum a10)) Zo zm7 Zo;exact ⟨uZ,xsZ,qZ,xZ,fun R hg=>zaa (wkl (p_3++[sb h9,sqx ((zad xs++[(xLit v8).cells]).length=(zad xs++[(xLit v8).cells]).length),si (e:=IntKind.i64.wrap ((↑(zad xs++[(xLit v8).cells]).length:Int) - 1)) rfl,sl [0] c10,sc (zaZ a10 zkM),sqx (OwnAt (zad xs++[(xLit v8).cells]) (zad xs++[(xLit v8).cells]).length (IntKind.i64.wrap ((↑(zad xs++[(xLit v8).cells]).length:Int) - 1))),sx (.el ((xLit v8).cells)) (And.intro (owed (p:=True/\True/\True/\True/\True/\True/\True/\True/\True/\True/\True)) (zve xs ((xLit v8).cells) zkM)),si hw]) [0,2,4,6,7,8,9,10,11,52,53,54] 8 kr (zas (show ([(0,AV.p 0 0),(2,iv 1),(4,AV.p 1 0),(6,AV.p 2 0),(7,AV.p 3 0),(8,AV.p 4 0),(9,AV.p 5 0),(10,iv (kq:Int)),(11,AV.own 7 (zad xs++[(xLit v8).cells]).length),(52,ZC s.cols),(53,iv (↑(List.map Col.cells s.cols).length:Int)),(54,iv (↑(i+1):Int))]:TS)=_ from Zcv4) (show ([Blk.box [AV.sl (List.map (fun n=>[iv n]) t10.l),iv (t10.pos:Int)],Blk.box [fsl p.frs,ZS p.tbs],Blk.box [iv 0,sv Zs0,AV.nl,AV.nl,AV.nl,AV.nl,sv Zs0],Blk.box s.cells,Blk.box [fsl pi.frs,ZS pi.tbs],Blk.box [iv kd,sv s.name,AV.own 6 rows.length,AV.nl,AV.nl,AV.nl,sv Zs0],Blk.row Ty.LExpr (List.map zaI rows) false,Blk.row Ty.Expr ((zad xs++[(xLit v8).cells]).set (IntKind.i64.wrap ((↑(zad xs++[(xLit v8).cells]).length:Int) - 1)).toNat (xNum a10).cells) false]:Heap)=_ from Zcv4) (gZ R hg)))⟩
theorem zzS {rows:List (List X)} {k m:Nat} {xs:List X} (h:rows.length+(k+1)<=3/\∀ r∈rows,Few r/\∀ x∈r,XOk 5 x) (hm:m<=1000) (hx:xs.length=m/\∀ x∈xs,XOk 5 x) :
  (rows++[xs]).length+k<=3/\∀ r∈rows++[xs],Few r/\∀ x∈r,XOk 5 x :=
 ⟨by have:=h.1;simp;omega,fun r hr=>by
  simp only [yK,yF] at hr
  rcases hr with hr|rfl
  ·exact h.2 r hr
  ·exact ⟨by simp only [Few];omega,hx.2⟩⟩
noncomputable def L_chR (t0:Tp) (p pi:Pl) (s:Sch) (kd:Int) (k:Nat) (u:Tp) (rows:List (List X)):Cfg:=zai B.Ay 0 [(0,.p 0 0),(2,iv 1),(4,.p 1 0),(6,.p 2 0),(7,.p 3 0),(8,.p 4 0),(9,.p 5 0),(10,iv (k:Nat))] [.box u.cells,.box p.cells,.box (zwm 0 ⟨#[]⟩),.box s.cells,.box pi.cells,.box [iv kd,sv s.name,.own 6 rows.length,.nl,.nl,.nl,sv ⟨#[]⟩],.row Ty.LExpr (rows.map zaI) false]
theorem zgh (t0:Tp) (p pi:Pl) (s:Sch) (kd:Int) (hp:p.OkN 2) (hs:SchOk s) (k:Nat) (u:Tp) (rows:List (List X)) (hi:k<=1000000000) (hI:rows.length+k<=3/\∀ r∈rows,Few r/\∀ x∈r,XOk 5 x):∃ (u':Tp) (rows':List (List X)),(rows'.length+0<=3/\∀ r∈rows',Few r/\∀ x∈r,XOk 5 x)/\(decide ((0:Int) < ((0:Nat):Int))=false)/\∀ R,Good E0 B.Ay [.box t0.cells] (L_chR t0 p pi s kd 0 u' rows') R->Good E0 B.Ay [.box t0.cells] (L_chR t0 p pi s kd k u rows) R:=by
 induction k generalizing u rows with
 | zero=>exact ⟨u,rows,hI,by decide,fun R hg=>hg⟩
 | succ k ih =>
  have h0:decide ((0:Int) < (((k+1):Nat):Int))=true:=by first|(simp;done)|(simp;omega)
  have hw:IntKind.i64.wrap (((k+1:Nat):Int) - 1)=((k:Nat):Int):=zfj k Zo
  have hss:=hs.few;have hrl:rows.length<=3:=by omega
  obtain ⟨u1,xs1,q1,q1_1,g1⟩:=zgg t0 p pi s kd rows (k+1) zpJ zpJ 0 u ([]) zpJ zpJ
  obtain ⟨uZ,rowsZ,qZ,xZ,gZ⟩:=ih u1 (rows++[xs1]) Zo (by exact zzS hI hss ‹_›);exact ⟨uZ,rowsZ,qZ,xZ,fun R hg=>zaa (wklN [sb h0] [0,2,4,6,7,8,9,10,11,52,53,54] 7 [(.ot 11 Ty.Expr,8)] kr (g1 _ (zaa (wkl [sb q1_1,sqx (xs1.length=(zad xs1).length/\True),sqA (List.map zaI rows) [[AV.sl (zad xs1)]] rows.length 1 24,si hw] [0,2,4,6,7,8,9,10] 7 kr (zas rfl (show ([Blk.box [AV.sl (List.map (fun n=>[iv n]) u1.l),iv (u1.pos:Int)],Blk.box [fsl p.frs,ZS p.tbs],Blk.box [iv 0,sv Zs0,AV.nl,AV.nl,AV.nl,AV.nl,sv Zs0],Blk.box s.cells,Blk.box [fsl pi.frs,ZS pi.tbs],Blk.box [iv kd,sv s.name,AV.own 6 (List.map zaI rows++[[AV.sl (zad xs1)]]).length,AV.nl,AV.nl,AV.nl,sv Zs0],Blk.row Ty.LExpr (List.map zaI rows++[[AV.sl (zad xs1)]]) false]:Heap)=_ from Zcv2) (gZ R hg))))))⟩
noncomputable def L_up (p pi:Pl) (s:Sch) (kd:Int) (first i:Nat) (u:Tp) (sets:List Se):Cfg:=zai B.Ay 2 [(0,.p 0 0),(2,iv 1),(6,.p 2 0),(7,.p 3 0),(8,.p 4 0),(9,.p 5 0),(14,iv (first:Nat)),(15,iv (i:Nat))] [.box u.cells,.box p.cells,.box (zwm 0 ⟨#[]⟩),.box s.cells,.box pi.cells,.box [iv kd,sv s.name,.nl,.nl,.own 6 sets.length,.nl,sv ⟨#[]⟩],.row Ty.Set (sets.map Se.cells) false]
structure SetsOk (i:Nat) (sets:List Se):Prop where
 len:sets.length<=i
 ex:∀ s∈sets,XOk 5 s.ex
 two:i<=2
theorem SetsOk.push {i:Nat} {sets:List Se} {c:Str} {e:X} (h:SetsOk i sets) (hi:i < 2) (he:XOk 4 e):SetsOk (i+1) (sets++[⟨c,e⟩]) :=
 ⟨by have:=h.len;simp;omega,fun s hs=>by
  simp only [yK,yF] at hs
  rcases hs with hs|rfl
  ·exact h.ex s hs
  ·exact he.le Zo,by omega⟩
theorem acUp {i:Nat} {sets:List Se} {kd:Int} {nm tx:Str} (h:SetsOk i sets) (hk:kd≠5):AcOk 5 (Ac.mk kd nm [] [] sets [] tx)/\(Ac.mk kd nm [] [] sets [] tx).kind≠5 :=
 ⟨⟨by simp [Few],by simp,by simp [Few],by simp,by have:=h.len;have:=h.two;simp only [Few];omega,h.ex,by simp [Few],by simp⟩,hk⟩
theorem acUp1 {i:Nat} {sets:List Se} {kd:Int} {nm tx:Str} {e:X} (h:SetsOk i sets) (hk:kd≠5) (he:XOk 4 e):AcOk 5 (Ac.mk kd nm [] [] sets [e] tx)/\(Ac.mk kd nm [] [] sets [e] tx).kind≠5 :=
 ⟨⟨by simp [Few],by simp,by simp [Few],by simp,by have:=h.len;have:=h.two;simp only [Few];omega,h.ex,by simp [Few],by simpa using he.le Zo⟩,hk⟩
theorem modOk {a n:Nat} (h:0 < n):0<=((a:Nat):Int).tmod ((n:Nat):Int)/\((a:Nat):Int).tmod ((n:Nat):Int) < ((n:Nat):Int) :=
 ⟨Int.tmod_nonneg _ Zo,Int.tmod_lt_of_pos _ Zo⟩
theorem zxZ (t0:Tp) (p pi:Pl) (s:Sch) (kd:Int) (first i:Nat) (u:Tp) (sets:List Se) (hs:Few s.cols) (hss:zac s.cols) (hpi:pi.OkN 2) (hk:kd≠5) (hf:first < s.cols.length) (hf2:s.cols.length<=1000) (hI:SetsOk i sets) (hi2:i<=2) (hsl:sets.length<=2) (ihl:∀ (u':Tp) (sets':List Se),SetsOk (i+1) sets'->∃ (r:Ac) (t':Tp),(AcOk 5 r/\r.kind≠5)/\Good E0 B.Ay [.box t0.cells] (L_up p pi s kd first (i+1) u' sets') (Shut 1 fun rZ hZ=>rZ=r.av/\hZ=[.box t'.cells])):∃ (r:Ac) (t':Tp),(AcOk 5 r/\r.kind≠5)/\Good E0 B.Ay [.box t0.cells] (ziN (L_up p pi s kd first i u sets)) (Shut 1 fun rZ hZ=>rZ=(r.av)/\hZ=[.box t'.cells]):=by
  obtain ⟨a1,t1,q1,c1⟩:=(zae u 2 zdx)
  cases h2:decide ((i:Int) < (↑(1+a1):Int))
  ·obtain ⟨b3,t3,c3⟩:=(zah t1 4 zdx)
   cases h4:!b3
   ·exact ⟨Ac.mk kd s.name [] [] sets [] Zs0,t3,ziJ,wkr [sqx (True/\True/\True/\True/\sets.length=(List.map Se.cells sets).length/\True/\True/\True),sl [0] c1,si (zap (t:=1+(a1:Int)) (n:=1+a1) Zo Zo),sb h2,sl [0] c3,sb h4] kr⟩
   ·obtain ⟨e5,t5,q5,c5⟩:=(zaA t3 pi 2 zdx)
    exact ⟨Ac.mk kd s.name [] [] sets [e5] Zs0,t5,ziJ,wkrS (y:=AV.agg [iv kd,sv s.name,AV.sl [],AV.sl [],ZE sets,AV.sl [e5.cells],sv Zs0]) (H:=[Blk.box [AV.sl (List.map (fun n=>[iv n]) t5.l),iv (t5.pos:Int)]]) [sqx (True/\True/\True/\True/\sets.length=(List.map Se.cells sets).length/\True/\True/\True),sl [0] c1,si (zap (t:=1+(a1:Int)) (n:=1+a1) Zo Zo),sb h2,sl [0] c3,sb h4,sl [0] c5] kr ⟨Zcv2,Zcv2⟩⟩
  ·cases h6:decide ((i:Int) < (↑(List.map Col.cells s.cols).length:Int))
   ·obtain ⟨b7,t7,c7⟩:=(zah t1 4 zdx)
    cases h8:!b7
    ·exact ⟨Ac.mk kd s.name [] [] sets [] Zs0,t7,ziJ,wkr [sqx (True/\True/\True/\True/\sets.length=(List.map Se.cells sets).length/\True/\True/\True),sl [0] c1,si (zap (t:=1+(a1:Int)) (n:=1+a1) Zo Zo),sg h2,sb h6,sl [0] c7,sb h8] kr⟩
    ·obtain ⟨e9,t9,q9,c9⟩:=(zaA t7 pi 2 zdx)
     exact ⟨Ac.mk kd s.name [] [] sets [e9] Zs0,t9,ziJ,wkrS (y:=AV.agg [iv kd,sv s.name,AV.sl [],AV.sl [],ZE sets,AV.sl [e9.cells],sv Zs0]) (H:=[Blk.box [AV.sl (List.map (fun n=>[iv n]) t9.l),iv (t9.pos:Int)]]) [sqx (True/\True/\True/\True/\sets.length=(List.map Se.cells sets).length/\True/\True/\True),sl [0] c1,si (zap (t:=1+(a1:Int)) (n:=1+a1) Zo Zo),sg h2,sb h6,sl [0] c7,sb h8,sl [0] c9] kr ⟨Zcv2,Zcv2⟩⟩
   ·obtain ⟨x10,e10⟩:=zdN (l:=s.cols) (i:=(↑(first+i):Int).tmod (↑(List.map Col.cells s.cols).length:Int)) (by (rw [yG];exact modOk Zo))
    obtain ⟨e11,t11,q11,c11⟩:=(zaA t1 pi x10.type zdx)
    cases h12:x10.type==1
    ·obtain ⟨r13_0,r13_1,p13_0,g13⟩:=ihl t11 (sets++[Se.mk x10.name e11]) zdx
     exact ⟨r13_0,r13_1,ziJ,wkl [sl [0] c1,si (zap (t:=1+(a1:Int)) (n:=1+a1) Zo Zo),sg h2,sb h6,sd [(4,[si (zap (t:=(first:Int)+(i:Int)) (n:=first+i) Zo Zo)]),(8,[sx (.i ((↑(first+i):Int).tmod (↑(List.map Col.cells s.cols).length:Int))) (show (↑(List.map Col.cells s.cols).length:Int)≠(0:Int)/\((↑(first+i):Int).tmod (↑(List.map Col.cells s.cols).length:Int):Int)=(↑(first+i):Int).tmod (↑(List.map Col.cells s.cols).length:Int) from ⟨(by rw [yG];omega),rfl⟩)]),(9,[se (zbW Col.cells e10 rfl)])],sdm [(7,[sl [0] c11])] 0 [(0,AV.p 0 0),(2,iv 1),(6,AV.p 2 0),(7,AV.p 3 0),(8,AV.p 4 0),(9,AV.p 5 0),(14,iv (first:Int)),(15,iv (i:Int)),(16,AV.p 7 0),(17,AV.p 8 0),(107,iv (i:Int)),(108,AV.p 0 0),(109,iv (a1:Int)),(110,iv (↑(1+a1):Int)),(111,bv (decide ((i:Int) < (↑(1+a1):Int)))),(112,AV.bl true),(113,iv (i:Int)),(114,AV.p 3 1),(115,ZC s.cols),(116,iv (↑(List.map Col.cells s.cols).length:Int)),(117,bv (decide ((i:Int) < (↑(List.map Col.cells s.cols).length:Int)))),(118,AV.bl true),(121,AV.p 3 1),(122,ZC s.cols),(123,iv (first:Int)),(124,iv (i:Int)),(125,iv (↑(first+i):Int)),(126,AV.p 3 1),(127,ZC s.cols),(128,iv (↑(List.map Col.cells s.cols).length:Int)),(129,iv ((↑(first+i):Int).tmod (↑(List.map Col.cells s.cols).length:Int))),(130,AV.dp x10.cells),(131,AV.agg x10.cells),(132,AV.p 7 0),(133,sv x10.name),(134,AV.p 0 0),(135,AV.agg [fsl pi.frs,ZS pi.tbs]),(136,AV.p 7 1),(137,iv x10.type),(138,iv 1),(139,AV.agg e11.cells),(140,AV.agg (sv x10.name::e11.cells))] [Blk.box [AV.sl (List.map (fun n=>[iv n]) t11.l),iv (t11.pos:Int)],Blk.box [fsl p.frs,ZS p.tbs],Blk.box [iv 0,sv Zs0,AV.nl,AV.nl,AV.nl,AV.nl,sv Zs0],Blk.box s.cells,Blk.box [fsl pi.frs,ZS pi.tbs],Blk.box [iv kd,sv s.name,AV.nl,AV.nl,AV.own 6 sets.length,AV.nl,sv Zs0],Blk.row Ty.Set (List.map Se.cells sets) false,Blk.box x10.cells,Blk.box (sv x10.name::e11.cells)],sb h12,sqA (List.map Se.cells sets) [(sv x10.name::e11.cells)] sets.length 11 152,si (zap (t:=(i:Int)+1) (n:=i+1) Zo Zo)] [0,2,6,7,8,9,14,15] 7 kr (zas rfl (show ([Blk.box [AV.sl (List.map (fun n=>[iv n]) t11.l),iv (t11.pos:Int)],Blk.box [fsl p.frs,ZS p.tbs],Blk.box [iv 0,sv Zs0,AV.nl,AV.nl,AV.nl,AV.nl,sv Zs0],Blk.box s.cells,Blk.box [fsl pi.frs,ZS pi.tbs],Blk.box [iv kd,sv s.name,AV.nl,AV.nl,AV.own 6 (List.map Se.cells sets++[(sv x10.name::e11.cells)]).length,AV.nl,sv Zs0],Blk.row Ty.Set (List.map Se.cells sets++[(sv x10.name::e11.cells)]) false]:Heap)=_ from Zcv2) g13)⟩
    ·obtain ⟨b14,t14,c14⟩:=(zah t11 2 zdx)
     rcases (yD b14).symm with h15|h15
     ·obtain ⟨r16_0,r16_1,p16_0,g16⟩:=ihl t14 (sets++[Se.mk x10.name e11]) zdx
      exact ⟨r16_0,r16_1,ziJ,wkl [sl [0] c1,si (zap (t:=1+(a1:Int)) (n:=1+a1) Zo Zo),sg h2,sb h6,sd [(4,[si (zap (t:=(first:Int)+(i:Int)) (n:=first+i) Zo Zo)]),(8,[sx (.i ((↑(first+i):Int).tmod (↑(List.map Col.cells s.cols).length:Int))) (show (↑(List.map Col.cells s.cols).length:Int)≠(0:Int)/\((↑(first+i):Int).tmod (↑(List.map Col.cells s.cols).length:Int):Int)=(↑(first+i):Int).tmod (↑(List.map Col.cells s.cols).length:Int) from ⟨(by rw [yG];omega),rfl⟩)]),(9,[se (zbW Col.cells e10 rfl)])],sdm [(7,[sl [0] c11])] 0 [(0,AV.p 0 0),(2,iv 1),(6,AV.p 2 0),(7,AV.p 3 0),(8,AV.p 4 0),(9,AV.p 5 0),(14,iv (first:Int)),(15,iv (i:Int)),(16,AV.p 7 0),(17,AV.p 8 0),(107,iv (i:Int)),(108,AV.p 0 0),(109,iv (a1:Int)),(110,iv (↑(1+a1):Int)),(111,bv (decide ((i:Int) < (↑(1+a1):Int)))),(112,AV.bl true),(113,iv (i:Int)),(114,AV.p 3 1),(115,ZC s.cols),(116,iv (↑(List.map Col.cells s.cols).length:Int)),(117,bv (decide ((i:Int) < (↑(List.map Col.cells s.cols).length:Int)))),(118,AV.bl true),(121,AV.p 3 1),(122,ZC s.cols),(123,iv (first:Int)),(124,iv (i:Int)),(125,iv (↑(first+i):Int)),(126,AV.p 3 1),(127,ZC s.cols),(128,iv (↑(List.map Col.cells s.cols).length:Int)),(129,iv ((↑(first+i):Int).tmod (↑(List.map Col.cells s.cols).length:Int))),(130,AV.dp x10.cells),(131,AV.agg x10.cells),(132,AV.p 7 0),(133,sv x10.name),(134,AV.p 0 0),(135,AV.agg [fsl pi.frs,ZS pi.tbs]),(136,AV.p 7 1),(137,iv x10.type),(138,iv 1),(139,AV.agg e11.cells),(140,AV.agg (sv x10.name::e11.cells))] [Blk.box [AV.sl (List.map (fun n=>[iv n]) t11.l),iv (t11.pos:Int)],Blk.box [fsl p.frs,ZS p.tbs],Blk.box [iv 0,sv Zs0,AV.nl,AV.nl,AV.nl,AV.nl,sv Zs0],Blk.box s.cells,Blk.box [fsl pi.frs,ZS pi.tbs],Blk.box [iv kd,sv s.name,AV.nl,AV.nl,AV.own 6 sets.length,AV.nl,sv Zs0],Blk.row Ty.Set (List.map Se.cells sets) false,Blk.box x10.cells,Blk.box (sv x10.name::e11.cells)],sg h12,sl [0] c14,sb h15,sqA (List.map Se.cells sets) [(sv x10.name::e11.cells)] sets.length 11 152,si (zap (t:=(i:Int)+1) (n:=i+1) Zo Zo)] [0,2,6,7,8,9,14,15] 7 kr (zas rfl (show ([Blk.box [AV.sl (List.map (fun n=>[iv n]) t14.l),iv (t14.pos:Int)],Blk.box [fsl p.frs,ZS p.tbs],Blk.box [iv 0,sv Zs0,AV.nl,AV.nl,AV.nl,AV.nl,sv Zs0],Blk.box s.cells,Blk.box [fsl pi.frs,ZS pi.tbs],Blk.box [iv kd,sv s.name,AV.nl,AV.nl,AV.own 6 (List.map Se.cells sets++[(sv x10.name::e11.cells)]).length,AV.nl,sv Zs0],Blk.row Ty.Set (List.map Se.cells sets++[(sv x10.name::e11.cells)]) false]:Heap)=_ from Zcv2) g16)⟩
     ·obtain ⟨a17,t17,q17,c17⟩:=(zae t14 2 zdx)
      obtain ⟨a18,t18,q18,c18⟩:=(zae t17 4 zdx)
      obtain ⟨r19_0,r19_1,p19_0,g19⟩:=ihl t18 (sets++[Se.mk x10.name (xBin (↑(9+a17):Int) (xCol Zs0 x10.name) (xNum (a18:Int)))]) zdx
      exact ⟨r19_0,r19_1,ziJ,wkl [sl [0] c1,si (zap (t:=1+(a1:Int)) (n:=1+a1) Zo Zo),sg h2,sb h6,sd [(4,[si (zap (t:=(first:Int)+(i:Int)) (n:=first+i) Zo Zo)]),(8,[sx (.i ((↑(first+i):Int).tmod (↑(List.map Col.cells s.cols).length:Int))) (show (↑(List.map Col.cells s.cols).length:Int)≠(0:Int)/\((↑(first+i):Int).tmod (↑(List.map Col.cells s.cols).length:Int):Int)=(↑(first+i):Int).tmod (↑(List.map Col.cells s.cols).length:Int) from ⟨(by rw [yG];omega),rfl⟩)]),(9,[se (zbW Col.cells e10 rfl)])],sdm [(7,[sl [0] c11])] 0 [(0,AV.p 0 0),(2,iv 1),(6,AV.p 2 0),(7,AV.p 3 0),(8,AV.p 4 0),(9,AV.p 5 0),(14,iv (first:Int)),(15,iv (i:Int)),(16,AV.p 7 0),(17,AV.p 8 0),(107,iv (i:Int)),(108,AV.p 0 0),(109,iv (a1:Int)),(110,iv (↑(1+a1):Int)),(111,bv (decide ((i:Int) < (↑(1+a1):Int)))),(112,AV.bl true),(113,iv (i:Int)),(114,AV.p 3 1),(115,ZC s.cols),(116,iv (↑(List.map Col.cells s.cols).length:Int)),(117,bv (decide ((i:Int) < (↑(List.map Col.cells s.cols).length:Int)))),(118,AV.bl true),(121,AV.p 3 1),(122,ZC s.cols),(123,iv (first:Int)),(124,iv (i:Int)),(125,iv (↑(first+i):Int)),(126,AV.p 3 1),(127,ZC s.cols),(128,iv (↑(List.map Col.cells s.cols).length:Int)),(129,iv ((↑(first+i):Int).tmod (↑(List.map Col.cells s.cols).length:Int))),(130,AV.dp x10.cells),(131,AV.agg x10.cells),(132,AV.p 7 0),(133,sv x10.name),(134,AV.p 0 0),(135,AV.agg [fsl pi.frs,ZS pi.tbs]),(136,AV.p 7 1),(137,iv x10.type),(138,iv 1),(139,AV.agg e11.cells),(140,AV.agg (sv x10.name::e11.cells))] [Blk.box [AV.sl (List.map (fun n=>[iv n]) t11.l),iv (t11.pos:Int)],Blk.box [fsl p.frs,ZS p.tbs],Blk.box [iv 0,sv Zs0,AV.nl,AV.nl,AV.nl,AV.nl,sv Zs0],Blk.box s.cells,Blk.box [fsl pi.frs,ZS pi.tbs],Blk.box [iv kd,sv s.name,AV.nl,AV.nl,AV.own 6 sets.length,AV.nl,sv Zs0],Blk.row Ty.Set (List.map Se.cells sets) false,Blk.box x10.cells,Blk.box (sv x10.name::e11.cells)],sg h12,sl [0] c14,sb h15,sd [(1,[sl [0] c17]),(2,[si (zap (t:=9+(a17:Int)) (n:=9+a17) Zo Zo)]),(5,[sc (zaM Zs0 x10.name)]),(7,[sl [0] c18]),(8,[sc (zaZ ((a18:Int)) zdx)]),(9,[sc (zaz ((↑(9+a17):Int)) (xCol Zs0 x10.name) (xNum (a18:Int)))])],sqA (List.map Se.cells sets) [(sv x10.name::(xBin (↑(9+a17):Int) (xCol Zs0 x10.name) (xNum (a18:Int))).cells)] sets.length 11 152,si (zap (t:=(i:Int)+1) (n:=i+1) Zo Zo)] [0,2,6,7,8,9,14,15] 7 kr (zas rfl (show ([Blk.box [AV.sl (List.map (fun n=>[iv n]) t18.l),iv (t18.pos:Int)],Blk.box [fsl p.frs,ZS p.tbs],Blk.box [iv 0,sv Zs0,AV.nl,AV.nl,AV.nl,AV.nl,sv Zs0],Blk.box s.cells,Blk.box [fsl pi.frs,ZS pi.tbs],Blk.box [iv kd,sv s.name,AV.nl,AV.nl,AV.own 6 (List.map Se.cells sets++[(sv x10.name::(xBin (↑(9+a17):Int) (xCol Zs0 x10.name) (xNum (a18:Int))).cells)]).length,AV.nl,sv Zs0],Blk.row Ty.Set (List.map Se.cells sets++[(sv x10.name::(xBin (↑(9+a17):Int) (xCol Zs0 x10.name) (xNum (a18:Int))).cells)]) false]:Heap)=_ from Zcv2) g19)⟩
theorem zgi (t0:Tp) (p pi:Pl) (s:Sch) (kd:Int) (first i:Nat) (u:Tp) (sets:List Se) (hs:Few s.cols) (hpi:pi.OkN 2) (hk:kd≠5) (hf:first < s.cols.length) (hI:SetsOk i sets) :
  ∃ (r:Ac) (t':Tp),(AcOk 5 r/\r.kind≠5)/\Good E0 B.Ay [.box t0.cells] (L_up p pi s kd first i u sets) (Shut 1 fun rZ hZ=>rZ=r.av/\hZ=[.box t'.cells]):=by
 obtain ⟨k,hk2⟩:∃ k,i+k=3:=⟨3 - i,by have:=hI.two;omega⟩
 induction k generalizing i u sets with
 | zero=>have:=hI.two;omega
 | succ k ih =>
  obtain ⟨r,t',hr,hg⟩:=zxZ t0 p pi s kd first i u sets hs (zaE hs) hpi hk hf hs hI hI.two (by have:=hI.len;have:=hI.two;omega) fun u' sets' h'=>ih (i+1) u' sets' h' Zo
  exact ⟨r,t',hr,zaa hg⟩
theorem acIns {rows:List (List X)} {kd:Int} {nm tx:Str} (h:rows.length+0<=3/\∀ r∈rows,Few r/\∀ x∈r,XOk 5 x) (hk:kd≠5):AcOk 5 (Ac.mk kd nm rows [] [] [] tx)/\(Ac.mk kd nm rows [] [] [] tx).kind≠5 :=
 ⟨⟨by have:=h.1;simp only [Few];omega,h.2,by simp [Few],by simp,by simp [Few],by simp,by simp [Few],by simp⟩,hk⟩
theorem acCp {q:Qy} {kd:Int} {nm tx:Str} (h:QW 5 q) (hk:kd≠5):AcOk 5 (Ac.mk kd nm [] [q] [] [] tx)/\(Ac.mk kd nm [] [q] [] [] tx).kind≠5 :=
 ⟨⟨by simp [Few],by simp,by simp [Few],by simpa using h,by simp [Few],by simp,by simp [Few],by simp⟩,hk⟩
theorem zxI {kd:Int} {nm tx:Str} (hk:kd≠5):AcOk 5 (Ac.mk kd nm [] [] [] [] tx)/\(Ac.mk kd nm [] [] [] [] tx).kind≠5 :=
 ⟨⟨by simp [Few],by simp,by simp [Few],by simp,by simp [Few],by simp,by simp [Few],by simp⟩,hk⟩
theorem acDel1 {kd:Int} {nm tx:Str} {e:X} (h:XOk 4 e) (hk:kd≠5):AcOk 5 (Ac.mk kd nm [] [] [] [e] tx)/\(Ac.mk kd nm [] [] [] [e] tx).kind≠5 :=
 ⟨⟨by simp [Few],by simp,by simp [Few],by simp,by simp [Few],by simp,by simp [Few],by simpa using h.le Zo⟩,hk⟩
theorem zyk {n:Nat} {p:Pl} {s:Sch} (h:p.OkN (n+1)) (hs:Few s.cols):(plIn p s).OkN n:=by
 refine ⟨by have:=h.frs;simp [plIn];omega,fun f hf=>?_,h.ne,h.few,h.tcols⟩
 simp only [plIn,yK,yF] at hf
 rcases hf with hf|rfl
 ·exact h.cols f hf
 ·exact hs
theorem zvx {w:Str} (h:TabN w):Pos ((((zal w).cols.map Col.cells).length:Nat):Int):=by
 have h1:=(zcB h).few
 have h2:=List.length_pos_iff.2 (zcB h).ne
 simp only [Few] at h1
 rw [yG]
 exact ⟨by omega,by omega⟩
theorem zbn (t:Tp) (p:Pl) (hp:p.OkN 3) (hsh:zac zan):∃ (r:Ac) (t':Tp),(AcOk 5 r/\r.kind≠5)/\zab E0 S.Ay [.p 0 0,p.av,iv 1] [.box t.cells] r.av [.box t'.cells]:=by
 obtain ⟨w1,t1,q1,c1⟩:=(zcH t)
 obtain ⟨a2,t2,q2,c2⟩:=(zae t1 3 zci)
 let p_1:List St:=[sl [0] c1,sc (zbx w1 zci),sc (zbQ p (zal w1) zci),sdm [(1,[sl [0] c2]),(2,[si (zap (t:=1+(a2:Int)) (n:=1+a2) Zo Zo)])] 0 [(0,AV.p 0 0),(1,AV.agg [fsl p.frs,ZS p.tbs]),(2,iv 1),(4,AV.p 1 0),(6,AV.p 2 0),(7,AV.p 3 0),(8,AV.p 4 0),(9,AV.p 5 0),(18,AV.p 0 0),(19,sv w1),(20,AV.agg [sv (zal w1).name,AV.sl (List.map Col.cells (zal w1).cols)]),(21,AV.agg [fsl p.frs,ZS p.tbs]),(22,AV.agg [sv (zal w1).name,AV.sl (List.map Col.cells (zal w1).cols)]),(23,AV.agg [AV.sl (List.map Fr.cells (plIn p (zal w1)).frs),AV.sl (List.map Sch.cells (plIn p (zal w1)).tbs)]),(24,AV.p 0 0),(25,iv (a2:Int)),(26,iv (↑(1+a2):Int)),(27,AV.p 3 0),(28,sv (zal w1).name),(29,AV.agg [iv (↑(1+a2):Int),sv (zal w1).name,AV.nl,AV.nl,AV.nl,AV.nl,sv Zs0])] [Blk.box [AV.sl (List.map (fun n=>[iv n]) t2.l),iv (t2.pos:Int)],Blk.box [fsl p.frs,ZS p.tbs],Blk.box [iv 0,sv Zs0,AV.nl,AV.nl,AV.nl,AV.nl,sv Zs0],Blk.box [sv (zal w1).name,AV.sl (List.map Col.cells (zal w1).cols)],Blk.box [AV.sl (List.map Fr.cells (plIn p (zal w1)).frs),AV.sl (List.map Sch.cells (plIn p (zal w1)).tbs)],Blk.box [iv (↑(1+a2):Int),sv (zal w1).name,AV.nl,AV.nl,AV.nl,AV.nl,sv Zs0]]]
 cases h3:(↑(1+a2):Int)==1
 ·cases h4:(↑(1+a2):Int)==2
  ·obtain ⟨b5,t5,c5⟩:=(zah t2 4 zci)
   cases h6:!b5
   ·exact ⟨Ac.mk (↑(1+a2):Int) (zal w1).name [] [] [] [] Zs0,t5,zm8,wk At.Ay (p_1++[sb h3,sb h4,sl [0] c5,sb h6]) kr⟩
   ·obtain ⟨e7,t7,q7,c7⟩:=(zaA t5 (plIn p (zal w1)) 2 zci)
    exact ⟨Ac.mk (↑(1+a2):Int) (zal w1).name [] [] [] [e7] Zs0,t7,zm8,(by (try simp only [Ac.av,Ac.cells,zaG,zaL,zaJ,zaN]);exact wk At.Ay (p_1++[sb h3,sb h4,sl [0] c5,sb h6,sl [0] c7]) kr)⟩
  ·obtain ⟨a8,t8,q8,c8⟩:=(zae t2 ((↑(List.map Col.cells (zal w1).cols).length:Int)) zci)
   obtain ⟨r9_0,r9_1,p9_0,g9⟩:=zgi t p (plIn p (zal w1)) (zal w1) ((↑(1+a2):Int)) a8 0 t8 ([]) zci zci zci zci zci
   exact ⟨r9_0,r9_1,zm8,wkcN At.Ay (p_1++[sb h3,sb h4,sl [0] c8]) [0,2,6,7,8,9,14,15] 6 [(.ob 5 4 Ty.Set,7)] kr (g9)⟩
 ·obtain ⟨b10,t10,c10⟩:=(zah t2 4 zci)
  rcases (yD b10).symm with h11|h11
  ·obtain ⟨a12,t12,q12,c12⟩:=(zae t10 3 zci)
   obtain ⟨u13,rows13,q13,q13_1,g13⟩:=zgh t p (plIn p (zal w1)) (zal w1) ((↑(1+a2):Int)) zci zci (1+a12) t12 ([]) zci zci
   exact ⟨Ac.mk (↑(1+a2):Int) (zal w1).name rows13 [] [] [] Zs0,u13,zm8,wkcN At.Ay (p_1++[sb h3,sl [0] c10,sb h11,sl [0] c12,si (zap (t:=1+(a12:Int)) (n:=1+a12) Zo Zo)]) [0,2,4,6,7,8,9,10] 6 [(.ob 5 2 Ty.LExpr,7)] kr (g13 _ (zaa (wkr [sqx (True/\True/\rows13.length=(List.map zaI rows13).length/\True/\True/\True/\True/\True),sb Zf] kr)))⟩
  ·obtain ⟨qy14,t14,q14,c14⟩:=(zmt t10 p (zal w1) zci zci)
   exact ⟨Ac.mk (↑(1+a2):Int) (zal w1).name [] [qy14] [] [] Zs0,t14,zm8,(by (try simp only [Ac.av,Ac.cells,zaG,zaL,zaJ,zaN]);exact wk At.Ay (p_1++[sb h3,sl [0] c10,sb h11,sl [0] c14]) kr)⟩
structure DmlIn (n:Nat) (a:Ac) (frs:List Fr) (tb:List Tb):Prop where
 ac:AcOk n a
 kd:1<=a.kind/\a.kind<=3
 fo:FsOk (n+1) frs
 fg:FsG frs
 to:TbOk tb
 tg:TbG tb
 tv:∀ x∈tb,∀ r∈x.rows,zac r.vals
abbrev evI (n:Nat) (frs:List Fr) (s:Sch) (tb:List Tb) (r:Rw):X->V × Int:=fun x=>eval n x (zbg frs s r.vals) tb
def cTr (n:Nat) (a:Ac) (frs:List Fr) (s:Sch) (tb:List Tb) (r:Rw):Bool × Int:=zsR (evI n frs s tb r) a.wh
def cAg (n:Nat) (a:Ac) (frs:List Fr) (s:Sch) (tb:List Tb) (r:Rw):List V × Int:=asgn (evI n frs s tb r) a s r.vals (zbg frs s r.vals) tb
def cIns (n:Nat) (a:Ac) (frs:List Fr) (s:Sch) (tb:List Tb):List (List V) × Int:=insB (fun x=>eval n x frs tb) (fun q=>zzn n q frs tb) s a
def zsc (n:Nat) (a:Ac) (frs:List Fr) (tb:List Tb):Ch × Int :=
 bif (tgt a (actB (vX n) a) tb).2 != 0 then candE a (tgt a (actB (vX n) a) tb).1 (tgt a (actB (vX n) a) tb).2
 else bif a.kind==1 then candI (cIns n a frs (tabC tb a.table).sch tb) a
 else bif a.kind==3 then candD (cTr n a frs (tabC tb a.table).sch tb) a (tabC tb a.table).sch frs tb
 else candU (cTr n a frs (tabC tb a.table).sch tb) (cAg n a frs (tabC tb a.table).sch tb) a (tabC tb a.table).sch frs tb
section
variable {n : Nat} {a : Ac} {frs : List Fr} {tb : List Tb}
theorem DmlIn.ins (h:DmlIn n a frs tb) {t:Tb} (ht:t∈tb) {r:Rw} (hr:r∈t.rows):FsOk n (zbg frs t.sch r.vals)/\FsG (zbg frs t.sch r.vals) :=
 ⟨h.fo.eins (t:=t) (h.to.cols t ht) (h.tg.vals t ht r hr),h.fg.ins (t:=t) (h.tg.vals t ht r hr)⟩
end
section
variable {n : Nat} {a : Ac} {frs : List Fr} {tb : List Tb}
end
abbrev sN:Str:=⟨#[110]⟩
noncomputable def L_eqI (l:List Int) (i:Nat) :Cfg:=zai B.Bu 0 [(0,isl l),(1,isl l),(12,iv ((l.map zbh).length:Nat)),(13,iv (i:Nat))] []
theorem zgz (l:List Int) (hl:zac l) (i:Nat)  (hi:i<=(l).length) (hI:True):(True)/\(decide ((((l).length:Nat):Int) < (((l.map zbh).length:Nat):Int))=false)/\∀ R,Good E0 B.Bu [] (L_eqI l (l).length ) R->Good E0 B.Bu [] (L_eqI l i ) R:=by
 have hk:=hi;revert i hI;refine zlp ((l).length) (fun i hlt ih hi hI _=>?_)
 obtain ⟨x,hx,h0,hw⟩:=zlq (l:=l) ((l.map zbh).length) hlt
 cases h1:x != x
 ·obtain ⟨qZ,xZ,gZ⟩:=ih Zo (by first|trivial|assumption|(simp;done)|omega|(simp;omega)|(simp at *;omega)) Zo;exact ⟨qZ,xZ,fun R hg=>zaa (wkl [sb h0,sd [(2,[se (zaf (fun n=>[iv n]) hx rfl)]),(6,[se (zaf (fun n=>[iv n]) hx rfl)])],sb h1,si hw] [0,1,12,13] 0 kr (gZ R hg))⟩
 ·exact False.elim (by simp at *)
theorem zmA (l:List Int) (hl:zac l):∃ (r:Bool),r=true/\zab E0 S.Bu [isl l,isl l] [] (bv r) []:=by
 cases h1:(↑(List.map (fun n=>[iv n]) l).length:Int) != (↑(List.map (fun n=>[iv n]) l).length:Int)
 ·obtain ⟨q2,q2_1,g2⟩:=zgz l (by first|assumption|omega|(simp;done)|(simp;omega)) 0 (by first|assumption|omega|(simp;done)|(simp;omega)) (by first|assumption|omega|(simp;done)|(simp;omega))
  exact ⟨true,(by first|rfl|(exfalso;simp at *;done)),wkc At.Bu [sb h1] [0,1,12,13] 0 kr (g2 _ (zaa (wkr [sb q2_1] kr)))⟩
 ·exact ⟨false,(by first|rfl|(exfalso;simp at *;done)),wk At.Bu [sb h1] kr⟩
theorem zjP (a b:List Int) (hab:a=b) (hl:zac a):zab E0 S.Bu [isl a,isl b] [] (bv true) []:=by
 subst hab
 obtain ⟨r,rfl,h⟩:=zmA a hl
 exact h
theorem zfb {α:Type} {p:α->Bool} {l:List α} {i:Nat} {x:α} {z:Int} (h:z=idxF p (l.drop i) i) (hx:l[i]?=some x) (hp:p x=false):z=idxF p (l.drop (i+1)) (i+1):=by
 rw [zaB hx] at h;rw [h];simp only [idxF,hp,cond_false]
theorem zg0 {α:Type} {p:α->Bool} {l:List α} {i:Nat} {x:α} {z:Int} (h:z=idxF p (l.drop i) i) (hx:l[i]?=some x) (hp:p x=true):((i:Nat):Int)=z:=by
 rw [zaB hx] at h;rw [h];simp only [idxF,hp,cond_true]
theorem zdt {α:Type} {p:α->Bool} {l:List α} {z:Int} (h:z=idxF p (l.drop l.length) l.length):-1=z:=by
 rw [yAG] at h;rw [h];rfl
noncomputable def zvV (tb:List Tb) (n:Str) (i:Nat) :Cfg:=zai B.Cp 0 [(1,sv n),(7,.sl (tb.map Tb.cells)),(8,iv ((tb.map Tb.cells).length:Nat)),(9,iv (i:Nat))] []
theorem zlc (tb:List Tb) (n:Str) (hl:zac tb) (i:Nat)  (hi:i<=(tb).length) (hI:idxF (fun t=>zaT t n) tb 0=idxF (fun t=>zaT t n) (tb.drop i) i):((idxF (fun t=>zaT t n) tb 0=idxF (fun t=>zaT t n) (tb.drop (tb).length) (tb).length)/\(decide ((((tb).length:Nat):Int) < (((tb.map Tb.cells).length:Nat):Int))=false)/\∀ R,Good E0 B.Cp [] (zvV tb n (tb).length ) R->Good E0 B.Cp [] (zvV tb n i ) R)\/(∃ (r:Int),r=idxF (fun t=>zaT t n) tb 0/\Good E0 B.Cp [] (zvV tb n i ) (Shut 0 fun rZ hZ=>rZ=(iv r)/\hZ=[])):=by
 have hk:=hi;revert i;refine zlp ((tb).length) (fun i hlt ih hi hI _=>?_)
 obtain ⟨x,hx,h0,hw⟩:=zlq (l:=tb) ((tb.map Tb.cells).length) hlt
 let p_1:List St:=[sb h0,se (zaf Tb.cells hx rfl)]
 cases h1:ByteArray.toList x.sch.name==ByteArray.toList n
 ·exact zie2 (ih Zo (by exact zfb hI hx ‹_›) Zo) fun R gY=>zaa (wkl (p_1++[sb h1,si hw]) [1,7,8,9] 0 kr gY)
 ·exact .inr ⟨(i:Int),(by exact zg0 hI hx ‹_›),zaa (wkr (p_1++[sb h1]) kr)⟩
theorem zuz (tb:List Tb) (n:Str) (hl:zac tb):∃ (r:Int),r=idxF (fun t=>zaT t n) tb 0/\zab E0 S.Cp [tsl tb,sv n] [] (iv r) []:=by
 rcases zlc tb n Za 0 Za Za with ⟨q1,q1_1,g1⟩|⟨r1_0,p1_0,g1⟩
 ·exact ⟨-1,(by first|assumption|exact zdt ‹_›),wkc At.Cp [] [1,7,8,9] 0 kr (g1 _ (zaa (wkr [sb q1_1] kr)))⟩
 ·exact ⟨r1_0,(by first|assumption|exact zdt ‹_›),wkc At.Cp [] [1,7,8,9] 0 kr (g1)⟩
theorem zuP (tb:List Tb) (n:Str) (hl:zac tb):zab E0 S.Cp [tsl tb,sv n] [] (iv (idxF (fun t=>zaT t n) tb 0)) []:=by
 obtain ⟨r,rfl,h⟩:=zuz tb n hl
 exact h
abbrev acD (w:Str) (x:X):Ac:=⟨3,w,[],[],[],[x],⟨#[]⟩⟩
abbrev acU (w:Str) (c:Str) (v x:X):Ac:=⟨2,w,[],[],[⟨c,v⟩],[x],⟨#[]⟩⟩
abbrev xOne:X:=xLit ⟨1,1,⟨#[]⟩⟩
abbrev xNotE (e:X):X:=X.mk 3 0 false ⟨0,0,⟨#[]⟩⟩ ⟨#[]⟩ ⟨#[]⟩ [e] []
abbrev xNulE (e:X):X:=X.mk 6 0 false ⟨0,0,⟨#[]⟩⟩ ⟨#[]⟩ ⟨#[]⟩ [e] []
abbrev tcEs (e:X):List X:=[e,xNotE e,xNulE e]
def tcD (m:List Tb) (w:Str) (e:X) (j:Nat):Ch × Int:=zsc (bif j==0 then 5 else 6) (acD w ((tcEs e).getD j e)) [] m
def tcU (m:List Tb) (w:Str) (e:X) (j:Nat):Ch × Int:=zsc (bif j==0 then 5 else 6) (acU w sN xOne ((tcEs e).getD j e)) [] m
structure TcOk (cd cu:Ch × Int):Prop where
 code:cd.2=cu.2
 ids:cu.1.upd.map Pr.id=cd.1.del
 len:cd.1.del.length<=900
abbrev tcAll (m:List Tb) (w:Str) (e:X) (i:Nat):List Int:=(List.range i).flatMap (fun j=>(tcD m w e j).1.del)
structure TcIn (m:List Tb) (w:Str) (e:X):Prop where
 cd:∀ j x,(tcEs e)[j]?=some x->Pure S.AF [(acD w x).av,fsl [],tsl m] (.tup [(tcD m w e j).1.av,iv (tcD m w e j).2])
 cu:∀ j x,(tcEs e)[j]?=some x->Pure S.AF [(acU w sN xOne x).av,fsl [],tsl m] (.tup [(tcU m w e j).1.av,iv (tcU m w e j).2])
 ok:∀ j,j < 3->TcOk (tcD m w e j) (tcU m w e j)
 fin:(∀ j,j < 3->(tcD m w e j).2=0)->srt1 (tcAll m w e 3)=(tabC m w).rows.map Rw.id/\(tcAll m w e 3).length<=12
 tab:decide (idxF (fun t=>zaT t w) m 0 < 0)=false
 rows:(tabC m w).rows.length<=1000
theorem TcOk.eq {cd cu:Ch × Int} (h:TcOk cd cu) {ids:List Int} (hi:ids.length<=cu.1.upd.length/\ids=(cu.1.upd.take cu.1.upd.length).map Pr.id):ids=cd.1.del:=by
 rw [hi.2,yL];exact h.ids
/- ### the order of values -/
theorem znt {a b:Int} (h:a < b):cmpI a b=-1:=by simp [cmpI,h]
theorem znr {a b:Int} (h:a=b):cmpI a b=0:=by simp [cmpI,h]
theorem zns {a b:Int} (h:b < a):cmpI a b=1:=by
 have:¬ a < b:=by omega
 simp [cmpI,h,this]
/- ### least and greatest items -/
/- ### sums -/
/- ### sorting -/
/- ### the tables -/
theorem StoreV.short {n:Int} {m:List Tb} (h:StoreV n m) (hn:n<=1000):∀ x∈m,∀ r∈x.rows,zac r.vals:=fun x hx r hr=>by
 have h1:=((h.rows x hx).fit r hr).len
 have h2:=((h.ok hn).tabs x hx).2.few
 have h3:r.vals.length=x.sch.cols.length:=h1
 simp only [zac,Few] at *;omega
/- ### the codes -/
/- ### three values -/
theorem zeO {p:Prop} (h:p:=by first|rfl|exact null_q hv ‹_›|exact (null_i hv ‹_› ‹_›).elim|exact (zxp hv ‹_› ‹_› ‹_› ‹_›).elim|exact (zz0 hv ‹_› ‹_› ‹_› ‹_›).elim|(exfalso;unfold zbu at hv;simp only [*] at hv;simp at hv;done)|(unfold zbu at hv;simp only [*] at hv;simpa using hv)):p:=h
theorem ztU {p:Prop} (h:p:=by first|(unfold fit5;rw [show (l.length != s.cols.length)=false by simp at *;omega];first|assumption|exact zs1 ‹_› rfl)|(unfold fit5;rw [show (l.length != s.cols.length)=true by simp at *;omega];rfl)):p:=h
theorem znc {p:Prop} (h:p:=by first|assumption|rfl|omega|(simp only [yG] at *;simp at *;omega)):p:=h
theorem zpQ {p:Prop} (h:p:=by first|assumption|omega|exact ztB hv ‹_› ‹_› ‹_›|trivial):p:=h
theorem zpR {p:Prop} (h:p:=by first|omega|(simp only [zac,Few] at *;omega)):p:=h
theorem zot:∀ {l:List UInt8} {i:Nat} {c:UInt8},ziC l=true->l[i]?=some c->okB c.toNat=true
 | [],i,c,_,h=>by simp at h
 | a::l,0,c,h,hx=>by simp at hx;subst hx;simp only [ziC,yR] at h;exact h.1
 | a::l,i+1,c,h,hx=>by simp only [ziC,yR] at h;exact zot h.2 (by simpa using hx)
theorem zyy {v:V} {c:UInt8} {i:Nat} (h:zek v.text=true) (hx:v.text.data.toList[i]?=some c) (h1:decide (((c.toNat:Nat):Int) < 32)=true):False:=by
 simp only [zek,yR] at h
 have:=zot h.1 hx
 simp [okB] at this h1;omega
theorem zyx {v:V} {c:UInt8} {i:Nat} (h:zek v.text=true) (hx:v.text.data.toList[i]?=some c) (h1:decide ((126:Int) < ((c.toNat:Nat):Int))=true):False:=by
 simp only [zek,yR] at h
 have:=zot h.1 hx
 simp [okB] at this h1;omega
noncomputable def L_rvG (v:V) (i:Nat) :Cfg:=zai B.As 0 [(1,.p 0 0),(3,iv (i:Nat))] [.box [iv v.kind,iv v.int,sv v.text]]
theorem zj4 (v:V) (hp:zek v.text=true) (hs:decide ((64:Int) < ((v.text.size:Nat):Int))=false) (i:Nat)  (hi:i<=(v.text.size)) (hI:True):(True)/\(decide ((((v.text.size):Nat):Int) < (((v.text.size):Nat):Int))=false)/\∀ R,Good E0 B.As [] (L_rvG v v.text.size ) R->Good E0 B.As [] (L_rvG v i ) R:=by
 have hk:=hi;revert i hI;refine zlp v.text.size (fun i hlt ih hi hI _=>?_)
 have h0:decide (((i:Nat):Int) < (((v.text.size):Nat):Int))=true:=by simp;omega
 have hw:IntKind.i64.wrap (((i:Nat):Int)+1)=((i+1:Nat):Int):=zba i (by (simp only [decide_eq_false_iff_not] at hs;omega))
 obtain ⟨c1,b1⟩:=zid (s:=v.text) (i:=(i:Int)) (by first|omega|(simp only [decide_eq_false_iff_not,decide_eq_true_eq] at *;omega))
 cases h2:decide ((c1.toNat:Int) < 32)
 ·cases h3:decide (126 < (c1.toNat:Int))
  ·obtain ⟨qZ,xZ,gZ⟩:=ih Zo (by first|trivial|assumption|(simp;done)|omega|(simp;omega)|(simp at *;omega)) Zo;exact ⟨qZ,xZ,fun R hg=>zaa (wkl [sb h0,sy b1,sg h2,sy b1,sb h3,si hw] [1,3] 1 kr (gZ R hg))⟩
  ·exact False.elim (by first|exact zyy hp (znq ‹_›) ‹_›|exact zyx hp (znq ‹_›) ‹_›)
 ·exact False.elim (by first|exact zyy hp (znq ‹_›) ‹_›|exact zyx hp (znq ‹_›) ‹_›)
theorem ztB {v:V} (hv:zbu v=true) (h0:(v.kind==0)=false) (h1:(v.kind==1)=false) (h2:(v.kind==2)=false):zek v.text=true:=by
 unfold zbu at hv;rw [h0,h1,h2] at hv
 cases h3:v.kind==3 <;> rw [h3] at hv
 ·simp at hv
 ·cases h4:v.int==0 <;> rw [h4] at hv
  ·simp at hv
  ·exact hv
theorem null_q {v:V} (hv:zbu v=true) (h0:(v.kind==0)=true):(ByteArray.toList v.text==Zs0.toList)=true:=by
 unfold zbu at hv;rw [h0] at hv
 simp only [cond_true,Bool.and_true,Bool.true_and,yR] at hv
 rw [zoK hv.2];exact beq_self_eq_true _
theorem null_i {v:V} (hv:zbu v=true) (h0:(v.kind==0)=true) (h1:(v.int==0)=false):False:=by
 unfold zbu at hv;rw [h0,h1] at hv
 simp at hv
theorem zxp {v:V} (hv:zbu v=true) (h0:(v.kind==0)=false) (h1:(v.kind==1)=false) (h2:(v.kind==2)=false) (h:decide ((64:Int) < ((v.text.size:Nat):Int))=true):False:=by
 have hp:=ztB hv h0 h1 h2
 simp only [zek,yR,decide_eq_true_eq] at hp h
 have:=hp.2
 omega
theorem zz0 {v:V} (hv:zbu v=true) (h0:(v.kind==0)=false) (h1:(v.kind==1)=false) (h2:(v.kind==2)=false) (h:(v.int != 0)=true):False:=by
 unfold zbu at hv;rw [h0,h1,h2] at hv
 have h5:(v.int==0)=false:=by simpa using h
 rw [h5] at hv;simp at hv
theorem zrx (v:V) (hv:zbu v=true):∃ (r:Bool),r=true/\zab E0 S.As [v.av] [] (bv r) []:=by
 cases h1:v.kind==0
 ·cases h2:v.kind==1
  ·cases h3:v.kind==2
   ·cases h4:v.kind==3
    ·exact ⟨false,zeO,wk At.As [sb h1,sb h2,sb h3,sb h4] kr⟩
    ·cases h5:v.int != 0
     ·cases h6:decide (64 < (↑(ByteArray.size v.text):Int))
      ·obtain ⟨q7,q7_1,g7⟩:=zj4 v zpQ zpQ 0 zpQ zpQ
       exact ⟨true,zeO,wkc At.As [sb h1,sb h2,sb h3,sb h4,sg h5,sb h6] [1,3] 1 kr (g7 _ (zaa (wkr [sb q7_1] kr)))⟩
      ·exact ⟨false,zeO,wk At.As [sb h1,sb h2,sb h3,sb h4,sg h5,sb h6] kr⟩
     ·exact ⟨false,zeO,wk At.As [sb h1,sb h2,sb h3,sb h4,sb h5] kr⟩
   ·cases h8:v.int==0
    ·cases h9:v.int==1
     ·exact ⟨false,zeO,wk At.As [sb h1,sb h2,sb h3,sg h8,sb h9] kr⟩
     ·exact ⟨ByteArray.toList v.text==Zs0.toList,zeO,wk At.As [sb h1,sb h2,sb h3,sg h8,sg h9] kr⟩
    ·exact ⟨ByteArray.toList v.text==Zs0.toList,zeO,wk At.As [sb h1,sb h2,sb h3,sb h8] kr⟩
  ·exact ⟨ByteArray.toList v.text==Zs0.toList,zeO,wk At.As [sb h1,sb h2] kr⟩
 ·cases h10:v.int==0
  ·exact ⟨false,zeO,wk At.As [sb h1,sb h10] kr⟩
  ·exact ⟨ByteArray.toList v.text==Zs0.toList,zeO,wk At.As [sb h1,sg h10] kr⟩
theorem zjw (v:V) (hv:zbu v=true):zab E0 S.As [v.av] [] (bv true) []:=by
 obtain ⟨r,rfl,h⟩:=zrx v hv
 exact h
def fit4 (c:Col) (v:V):Int :=
 bif v.kind==0 then
  bif c.notNull then
   8
  else
   0
 else
  bif v.kind != c.type then
   5
  else
   0
theorem zuN (c:Col) (v:V) (hv:zab E0 S.As [v.av] [] (bv true) []):zab E0 S.Dj [.agg c.cells,v.av] [] (iv (fit4 c v)) []:=by
 unfold fit4
 cases h1:v.kind==0
 ·let p_1:List St:=[sc hv,sb Zf,sb h1]
  cases h2:v.kind != c.type
  ·exact wk At.Dj (p_1++[sb h2]) kr
  ·exact wk At.Dj (p_1++[sb h2]) kr
 ·let p_2:List St:=[sc hv,sb Zf,sb h1]
  cases h3:c.notNull
  ·exact wk At.Dj (p_2++[sb h3]) kr
  ·exact wk At.Dj (p_2++[sb h3]) kr
def fitL:List Col->List V->Int
 | c::cs,v::vs=>bif fit4 c v != 0 then fit4 c v else fitL cs vs
 | _,_=>0
def fit5 (s:Sch) (l:List V):Int:=bif l.length != s.cols.length then 17 else fitL s.cols l
theorem zqN {cs:List Col} {vs:List V} {i:Nat} {c:Col} {v:V} {z:Int} (h:z=fitL (cs.drop i) (vs.drop i)) (hc:cs[i]?=some c) (hv:vs[i]?=some v) (h0:(fit4 c v != 0)=false):z=fitL (cs.drop (i+1)) (vs.drop (i+1)):=by
 rw [zaB hc,zaB hv] at h;rw [h];simp only [fitL,h0,cond_false]
theorem zs0 {cs:List Col} {vs:List V} {i:Nat} {c:Col} {v:V} {z:Int} (h:z=fitL (cs.drop i) (vs.drop i)) (hc:cs[i]?=some c) (hv:vs[i]?=some v) (h0:(fit4 c v != 0)=true):fit4 c v=z:=by
 rw [zaB hc,zaB hv] at h;rw [h];simp only [fitL,h0,cond_true]
theorem zs1 {cs:List Col} {vs:List V} {n:Nat} {z:Int} (h:z=fitL (cs.drop n) (vs.drop n)) (hn:n=cs.length):0=z:=by
 rw [h,hn,yAG];rfl
noncomputable def L_f5 (s:Sch) (l:List V) (i:Nat) :Cfg:=zai B.Ch 0 [(1,vsl l),(15,.sl (s.cols.map Col.cells)),(16,iv ((s.cols.map Col.cells).length:Nat)),(17,iv (i:Nat))] [.box s.cells]
theorem zlW (s:Sch) (l:List V) (hs:zac s.cols) (hll:l.length=s.cols.length) (hg:∀ v∈l,v.Good) (i:Nat)  (hi:i<=(s.cols).length) (hI:fitL s.cols l=fitL (s.cols.drop i) (l.drop i)):((fitL s.cols l=fitL (s.cols.drop (s.cols).length) (l.drop (s.cols).length))/\(decide ((((s.cols).length:Nat):Int) < (((s.cols.map Col.cells).length:Nat):Int))=false)/\∀ R,Good E0 B.Ch [] (L_f5 s l (s.cols).length ) R->Good E0 B.Ch [] (L_f5 s l i ) R)\/(∃ (r:Int),r=fitL s.cols l/\Good E0 B.Ch [] (L_f5 s l i ) (Shut 0 fun rZ hZ=>rZ=(iv r)/\hZ=[])):=by
 have hk:=hi;revert i;refine zlp ((s.cols).length) (fun i hlt ih hi hI _=>?_)
 obtain ⟨x,hx,h0,hw⟩:=zlq (l:=s.cols) ((s.cols.map Col.cells).length) hlt zpR
 obtain ⟨y,hy⟩:=zbc (l:=l) (i:=i) (by have:=zb1 hx;omega);have hyv:=zjw y (hg y (yC hy)).valid
 let p_1:List St:=[sb h0,se (zaf Col.cells hx rfl),sd [(3,[se (zaf V.cells hy rfl)]),(5,[sc (zuN x y (by first|assumption|omega|(simp;done)|(simp;omega)))])]]
 cases h1:fit4 x y != 0
 ·exact zie2 (ih Zo (by exact zqN hI hx hy ‹_›) Zo) fun R gY=>zaa (wkl (p_1++[sb h1,si hw]) [1,15,16,17] 1 kr gY)
 ·exact .inr ⟨fit4 x y,(by exact zs0 hI hx hy ‹_›),zaa (wkr (p_1++[sb h1]) kr)⟩
theorem zuw (s:Sch) (l:List V) (hs:zac s.cols) (hg:∀ v∈l,v.Good):∃ (r:Int),r=fit5 s l/\zab E0 S.Ch [s.av,vsl l] [] (iv r) []:=by
 cases h1:(↑(List.map V.cells l).length:Int) != (↑(List.map Col.cells s.cols).length:Int)
 ·rcases zlW s l znc znc znc 0 znc znc with ⟨q2,q2_1,g2⟩|⟨r2_0,p2_0,g2⟩
  ·exact ⟨0,ztU,wkc At.Ch [sb h1] [1,15,16,17] 1 kr (g2 _ (zaa (wkr [sb q2_1] kr)))⟩
  ·exact ⟨r2_0,ztU,wkc At.Ch [sb h1] [1,15,16,17] 1 kr (g2)⟩
 ·exact ⟨17,ztU,wk At.Ch [sb h1] kr⟩
theorem zeK (s:Sch) (l:List V) (hs:zac s.cols) (hg:∀ v∈l,v.Good):zab E0 S.Ch [s.av,vsl l] [] (iv (fit5 s l)) []:=by
 obtain ⟨r,rfl,h⟩:=zuw s l hs hg
 exact h
noncomputable def zv3 (s:Sch) (i:Nat) :Cfg:=zai B.BJ 0 [(6,.sl (s.cols.map Col.cells)),(7,iv ((s.cols.map Col.cells).length:Nat)),(8,iv (i:Nat))] [.box s.cells]
theorem zhv (s:Sch) (hs:zac s.cols) (i:Nat)  (hi:i<=(s.cols).length) (hI:idxF (fun c=>c.key) s.cols 0=idxF (fun c=>c.key) (s.cols.drop i) i):((idxF (fun c=>c.key) s.cols 0=idxF (fun c=>c.key) (s.cols.drop (s.cols).length) (s.cols).length)/\(decide ((((s.cols).length:Nat):Int) < (((s.cols.map Col.cells).length:Nat):Int))=false)/\∀ R,Good E0 B.BJ [] (zv3 s (s.cols).length ) R->Good E0 B.BJ [] (zv3 s i ) R)\/(∃ (r:Int),r=idxF (fun c=>c.key) s.cols 0/\Good E0 B.BJ [] (zv3 s i ) (Shut 0 fun rZ hZ=>rZ=(iv r)/\hZ=[])):=by
 have hk:=hi;revert i;refine zlp ((s.cols).length) (fun i hlt ih hi hI _=>?_)
 obtain ⟨x,hx,h0,hw⟩:=zlq (l:=s.cols) ((s.cols.map Col.cells).length) hlt zpR
 let p_1:List St:=[sb h0,se (zaf Col.cells hx rfl)]
 cases h1:x.key
 ·exact zie2 (ih Zo (by exact zfb hI hx ‹_›) Zo) fun R gY=>zaa (wkl (p_1++[sb h1,si hw]) [6,7,8] 1 kr gY)
 ·exact .inr ⟨(i:Int),(by exact zg0 hI hx ‹_›),zaa (wkr (p_1++[sb h1]) kr)⟩
theorem zog (s:Sch) (hs:zac s.cols):∃ (r:Int),r=idxF (fun c=>c.key) s.cols 0/\zab E0 S.BJ [s.av] [] (iv r) []:=by
 rcases zhv s Za 0 Za Za with ⟨q1,q1_1,g1⟩|⟨r1_0,p1_0,g1⟩
 ·exact ⟨-1,(by first|assumption|exact zdt ‹_›),wkc At.BJ [] [6,7,8] 1 kr (g1 _ (zaa (wkr [sb q1_1] kr)))⟩
 ·exact ⟨r1_0,(by first|assumption|exact zdt ‹_›),wkc At.BJ [] [6,7,8] 1 kr (g1)⟩
theorem zos (s:Sch) (hs:zac s.cols):zab E0 S.BJ [s.av] [] (iv (idxF (fun c=>c.key) s.cols 0)) []:=by
 obtain ⟨r,rfl,h⟩:=zog s hs
 exact h
noncomputable def L_h7 (l:List Int) (n:Int) (i:Nat) :Cfg:=zai B.CS 0 [(1,iv n),(7,isl l),(8,iv ((l.map zbh).length:Nat)),(9,iv (i:Nat))] []
theorem zmq (l:List Int) (n:Int) (hl:zac l) (i:Nat)  (hi:i<=(l).length) (hI:l.any (fun x=>x==n)=(l.drop i).any (fun x=>x==n)):((l.any (fun x=>x==n)=(l.drop (l).length).any (fun x=>x==n))/\(decide ((((l).length:Nat):Int) < (((l.map zbh).length:Nat):Int))=false)/\∀ R,Good E0 B.CS [] (L_h7 l n (l).length ) R->Good E0 B.CS [] (L_h7 l n i ) R)\/(∃ (r:Bool),r=l.any (fun x=>x==n)/\Good E0 B.CS [] (L_h7 l n i ) (Shut 0 fun rZ hZ=>rZ=(bv r)/\hZ=[])):=by
 have hk:=hi;revert i;refine zlp ((l).length) (fun i hlt ih hi hI _=>?_)
 obtain ⟨x,hx,h0,hw⟩:=zlq (l:=l) ((l.map zbh).length) hlt zpR
 let p_1:List St:=[sb h0,se (zaf (fun n=>[iv n]) hx rfl)]
 cases h1:x==n
 ·exact zie2 (ih Zo (by (rw [hI,zaB hx];simp only [List.any_cons, *,Bool.false_or])) Zo) fun R gY=>zaa (wkl (p_1++[sb h1,si hw]) [1,7,8,9] 0 kr gY)
 ·exact .inr ⟨true,(by (rw [hI,zaB hx];simp only [List.any_cons, *,Bool.true_or])),zaa (wkr (p_1++[sb h1]) kr)⟩
theorem zwv (l:List Int) (n:Int) (hl:zac l):∃ (r:Bool),r=l.any (fun x=>x==n)/\zab E0 S.CS [isl l,iv n] [] (bv r) []:=by
 rcases zmq l n Za 0 Za Za with ⟨q1,q1_1,g1⟩|⟨r1_0,p1_0,g1⟩
 ·exact ⟨false,(by first|assumption|(rw [‹List.any _ _=List.any _ _›,yAG];rfl)),wkc At.CS [] [1,7,8,9] 0 kr (g1 _ (zaa (wkr [sb q1_1] kr)))⟩
 ·exact ⟨r1_0,(by first|assumption|(rw [‹List.any _ _=List.any _ _›,yAG];rfl)),wkc At.CS [] [1,7,8,9] 0 kr (g1)⟩
theorem zwU (l:List Int) (n:Int) (hl:zac l):zab E0 S.CS [isl l,iv n] [] (bv (l.any (fun x=>x==n))) []:=by
 obtain ⟨r,rfl,h⟩:=zwv l n hl
 exact h
def fnd7 (n:Int):List Pr->List V × Bool
 | []=>([],false)
 | p::r=>bif p.id==n then (p.nw,true) else fnd7 n r
noncomputable def L_f7 (l:List Pr) (n:Int) (i:Nat) :Cfg:=zai B.CC 0 [(1,iv n),(8,.sl (l.map Pr.cells)),(9,iv ((l.map Pr.cells).length:Nat)),(10,iv (i:Nat))] []
theorem zlX (l:List Pr) (n:Int) (hl:zac l) (i:Nat)  (hi:i<=(l).length) (hI:fnd7 n l=fnd7 n (l.drop i)):((fnd7 n l=fnd7 n (l.drop (l).length))/\(decide ((((l).length:Nat):Int) < (((l.map Pr.cells).length:Nat):Int))=false)/\∀ R,Good E0 B.CC [] (L_f7 l n (l).length ) R->Good E0 B.CC [] (L_f7 l n i ) R)\/(∃ (v:List V) (r:Bool),(v,r)=fnd7 n l/\Good E0 B.CC [] (L_f7 l n i ) (Shut 0 fun rZ hZ=>rZ=(.tup [vsl v,bv r])/\hZ=[])):=by
 have hk:=hi;revert i;refine zlp ((l).length) (fun i hlt ih hi hI _=>?_)
 obtain ⟨x,hx,h0,hw⟩:=zlq (l:=l) ((l.map Pr.cells).length) hlt zpR
 let p_1:List St:=[sb h0,se (zaf Pr.cells hx rfl)]
 cases h1:x.id==n
 ·exact (ih Zo (by (rw [hI,zaB hx];simp only [fnd7, *,cond_false])) Zo).elim (fun ⟨qZ,xZ,gZ⟩=>.inl ⟨qZ,xZ,fun R hg=>zaa (wkl (p_1++[sb h1,si hw]) [1,8,9,10] 0 kr (gZ R hg))⟩) (fun ⟨vY,rY,pZ,gZ⟩=>.inr ⟨vY,rY,pZ,zaa (wkl [sb h0,se (zaf Pr.cells hx rfl),sb h1,si hw] [1,8,9,10] 0 kr gZ)⟩)
 ·exact .inr ⟨x.nw,true,(by (rw [hI,zaB hx];simp only [fnd7, *,cond_true])),zaa (wkr (p_1++[sb h1]) kr)⟩
theorem zuy (l:List Pr) (n:Int) (hl:zac l):∃ (v:List V) (r:Bool),(v,r)=fnd7 n l/\zab E0 S.CC [.sl (l.map Pr.cells),iv n] [] (.tup [vsl v,bv r]) []:=by
 rcases zlX l n Za 0 Za Za with ⟨q1,q1_1,g1⟩|⟨r1_0,r1_1,p1_0,g1⟩
 ·exact ⟨[],false,(by first|assumption|(rw [‹fnd7 _ _=fnd7 _ _›,yAG];rfl)),wkc At.CC [] [1,8,9,10] 0 kr (g1 _ (zaa (wkr [sb q1_1] kr)))⟩
 ·exact ⟨r1_0,r1_1,(by first|assumption|(rw [‹fnd7 _ _=fnd7 _ _›,yAG];rfl)),wkc At.CC [] [1,8,9,10] 0 kr (g1)⟩
theorem zuO (l:List Pr) (n:Int) (hl:zac l):zab E0 S.CC [.sl (l.map Pr.cells),iv n] [] (.tup [vsl (fnd7 n l).1,bv (fnd7 n l).2]) []:=by
 obtain ⟨v,r,h,h2⟩:=zuy l n hl
 rw [← h];exact h2
theorem zdT {p:Prop} (h:p:=by first|assumption|omega|(simp only [decide_eq_false_iff_not,decide_eq_true_eq,yG] at *;omega)|(simp;done)):p:=h
theorem ztV {p:Prop} (h:p:=by first|exact znu hI hx (zvr ‹_›)|exact znu hI hx (zvs ‹_›)|exact zsQ hI hx (zqA ‹_› ‹_›) ‹_›):p:=h
theorem zpS {p:Prop} (h:p:=by first|assumption|omega|exact ⟨rfl,by simp⟩|(simp;done)):p:=h
abbrev itI (n:Int):AV × AV:=(iv n,bv true)
abbrev anyI (ks:List Int) (n:Int):Bool:=ks.any fun x=>x==n
theorem zjx (n m:Int):zcA (iv n) (iv m) (n==m):=⟨false,[.int .i64 n],[.int .i64 m],rfl,rfl,by simp [zbj,zdp]⟩
theorem ze1 {ks:List Int} {n:Int}:anyI ks n=true↔n∈ks:=by
 simp [anyI]
theorem zz9 {ks:List Int} {n:Int} (h:anyI ks n=false):n ∉ ks:=fun hm=>by rw [ze1.2 hm] at h;cases h
theorem zvf (ks:List Int) (n:Int) (h:anyI ks n=false):PutAt (ks.map itI) (iv n) (bv true) ((ks++[n]).map itI):=by
 refine .new (fun p hp=>?_) ?_
 ·obtain ⟨m,hm,rfl⟩:=yAT.1 hp
  have h1:=zjx n m
  rwa [show (n==m)=false by simp;rintro rfl;exact zz9 h hm] at h1
 ·rw [yAR];exact List.perm_append_comm
theorem lookI (ks:List Int) (n:Int):LookAt (ks.map itI) (iv n) (bif anyI ks n then some (bv true) else none) where
 all:=fun p hp=>by obtain ⟨m,hm,rfl⟩:=yAT.1 hp;exact ⟨_,zjx n m⟩
 at_:=fun p hp h=>by
  obtain ⟨m,hm,rfl⟩:=yAT.1 hp
  have h1:(n==m)=true:=zcA.det (zjx n m) h
  have h2:n=m:=by simpa using h1
  have:n∈ks:=h2 ▸ hm
  rw [ze1.2 this];rfl
 some_:=fun x hx=>by
  cases h:anyI ks n
  ·rw [h] at hx;cases hx
  ·have hm:=ze1.1 h
   refine ⟨itI n,yAT.2 ⟨n,hm,rfl⟩,?_⟩
   have:=zjx n n;rwa [beq_self_eq_true] at this
theorem zzk (ks:List Int) (n:Int):LookV (ks.map itI) (iv n) (.bl false) (bv (anyI ks n)) :=
 ⟨_,lookI ks n,by cases anyI ks n <;> first|exact .inr rfl|exact .inl rfl⟩
/- values -/
abbrev itV (v:V):AV × AV:=(v.av,bv true)
def eqV (a b:V):Bool:=a.kind==b.kind&&(a.int==b.int&&(a.text==b.text&&true))
theorem zh2 {a b:V}:eqV a b=true↔a=b:=by
 obtain ⟨k,i,t⟩:=a;obtain ⟨k',i',t'⟩:=b
 constructor
 ·intro h
  simp only [eqV,yR,Bool.and_true,beq_iff_eq] at h
  obtain ⟨rfl,rfl,h⟩:=h
  rw [zoK h]
 ·intro h;cases h;simp [eqV,zqd]
abbrev anyV (ks:List V) (n:V):Bool:=ks.any fun x=>eqV n x
theorem znD (n m:V):zcA n.av m.av (eqV n m):=⟨true,[.int .i64 n.kind,.int .i64 n.int,.string n.text],[.int .i64 m.kind,.int .i64 m.int,.string m.text],rfl,rfl,by simp [zbj,zdp,eqV]⟩
theorem zlj {ks:List V} {n:V}:anyV ks n=true↔n∈ks:=by
 simp only [anyV,List.any_eq_true,zh2]
 constructor
 ·rintro ⟨x,hx,rfl⟩;exact hx
 ·intro h;exact ⟨n,h,rfl⟩
theorem zvb {ks:List V} {n:V} (h:anyV ks n=false):n ∉ ks:=fun hm=>by rw [zlj.2 hm] at h;cases h
theorem znv (ks:List V) (n:V) (h:anyV ks n=false):PutAt (ks.map itV) n.av (bv true) ((ks++[n]).map itV):=by
 refine .new (fun p hp=>?_) ?_
 ·obtain ⟨m,hm,rfl⟩:=yAT.1 hp
  have h1:=znD n m
  have h2:eqV n m=false:=by
   cases he:eqV n m
   ·rfl
   ·exact absurd (zh2.1 he ▸ hm) (zvb h)
  rwa [h2] at h1
 ·rw [yAR];exact List.perm_append_comm
theorem lookV (ks:List V) (n:V):LookAt (ks.map itV) n.av (bif anyV ks n then some (bv true) else none) where
 all:=fun p hp=>by obtain ⟨m,hm,rfl⟩:=yAT.1 hp;exact ⟨_,znD n m⟩
 at_:=fun p hp h=>by
  obtain ⟨m,hm,rfl⟩:=yAT.1 hp
  have h1:eqV n m=true:=zcA.det (znD n m) h
  have:n∈ks:=zh2.1 h1 ▸ hm
  rw [zlj.2 this];rfl
 some_:=fun x hx=>by
  cases h:anyV ks n
  ·rw [h] at hx;cases hx
  ·have hm:=zlj.1 h
   refine ⟨itV n,yAT.2 ⟨n,hm,rfl⟩,?_⟩
   have:=znD n n;rwa [zh2.2 rfl] at this
theorem zgp (ks:List V) (n:V):LookV (ks.map itV) n.av (.bl false) (bv (anyV ks n)) :=
 ⟨_,lookV ks n,by cases anyV ks n <;> first|exact .inr rfl|exact .inl rfl⟩
def zcX (kc:Int) (r:Rw):Option V:=bif decide (0<=kc)&&decide (kc < ((r.vals.map V.cells).length:Int)) then some (zak r.vals kc) else none
def zaX (kc:Int) (l:List Rw):List V:=l.filterMap (zcX kc)
theorem zmV {kc:Int} {l:List Rw} {i:Nat} {x:Rw} (hx:l[i]?=some x):zaX kc (l.take (i+1))=zaX kc (l.take i)++(zcX kc x).toList:=by
 unfold zaX
 rw [yP,hx,List.filterMap_append]
 cases h:zcX kc x <;> simp [h]
theorem znu {kc:Int} {l:List Rw} {i:Nat} {x:Rw} {ks:List V} (hI:ks=zaX kc (l.take i)/\ks.Nodup) (hx:l[i]?=some x) (h:zcX kc x=none):ks=zaX kc (l.take (i+1))/\ks.Nodup:=by
 rw [zmV hx,h];simpa using hI
theorem zsQ {kc:Int} {l:List Rw} {i:Nat} {x:Rw} {ks:List V} {v:V} (hI:ks=zaX kc (l.take i)/\ks.Nodup) (hx:l[i]?=some x) (h:zcX kc x=some v) (hn:anyV ks v=false):ks++[v]=zaX kc (l.take (i+1))/\(ks++[v]).Nodup:=by
 rw [zmV hx,h]
 refine ⟨by rw [hI.1];rfl,?_⟩
 rw [List.nodup_append]
 exact ⟨hI.2,by simp,fun a ha b hb=>by simp only [yF] at hb;subst hb;rintro rfl;exact zvb hn ha⟩
theorem zx8 {kc:Int} {l:List Rw} {i:Nat} {x:Rw} {ks:List V} {v:V} (hI:ks=zaX kc (l.take i)/\ks.Nodup) (hx:l[i]?=some x) (h:zcX kc x=some v) (hn:anyV ks v=true):¬ (zaX kc l).Nodup:=by
 intro hd
 have h1:zaX kc l=zaX kc (l.take (i+1))++zaX kc (l.drop (i+1)):=by unfold zaX;rw [← List.filterMap_append,List.take_append_drop]
 rw [h1,zmV hx,h] at hd
 have h2:=(List.nodup_append.1 hd).1
 have h3:=(List.nodup_append.1 h2).2.2 v (by rw [← hI.1];exact zlj.1 hn) v Zs
 exact h3 rfl
theorem zvr {kc:Int} {x:Rw} (h:decide ((0:Int)<=kc)=false):zcX kc x=none:=by simp only [zcX,h,Bool.false_and,cond_false]
theorem zvs {kc:Int} {x:Rw} (h:decide (kc < ((x.vals.map V.cells).length:Int))=false):zcX kc x=none:=by simp only [zcX,h,Bool.and_false,cond_false]
theorem zqA {kc:Int} {x:Rw} (h:decide ((0:Int)<=kc)=true) (h2:decide (kc < ((x.vals.map V.cells).length:Int))=true):zcX kc x=some (zak x.vals kc):=by simp only [zcX,h,h2,Bool.and_self,cond_true]
noncomputable def L_du (t:Tb) (kc:Int) (i:Nat) (ks:List V):Cfg:=zai B.Bk 0 [(3,iv kc),(4,.mp 1),(12,.sl (t.rows.map Rw.cells)),(13,iv ((t.rows.map Rw.cells).length:Nat)),(14,iv (i:Nat))] [.box t.cells,.mp (ks.map itV)]
theorem zhZ (t:Tb) (kc:Int) (hs:zac t.rows) (i:Nat) (ks:List V) (hi:i<=(t.rows).length) (hI:ks=zaX kc (t.rows.take i)/\ks.Nodup):(∃ (ks':List V),(ks'=zaX kc (t.rows.take (t.rows).length)/\ks'.Nodup)/\(decide ((((t.rows).length:Nat):Int) < (((t.rows.map Rw.cells).length:Nat):Int))=false)/\∀ R,Good E0 B.Bk [] (L_du t kc (t.rows).length ks') R->Good E0 B.Bk [] (L_du t kc i ks) R)\/(∃ (r:Bool),(r=true/\¬ (zaX kc t.rows).Nodup)/\Good E0 B.Bk [] (L_du t kc i ks) (Shut 0 fun rZ hZ=>rZ=(bv r)/\hZ=[])):=by
 have hk:=hi;revert i ks;refine zlp ((t.rows).length) (fun i hlt ih ks hi hI _=>?_)
 obtain ⟨x,hx,h0,hw⟩:=zlq (l:=t.rows) ((t.rows.map Rw.cells).length) hlt
 cases h1:decide (0<=kc)
 ·exact (ih ks Zo ztV Zo).elim (fun ⟨ksZ,qZ,xZ,gZ⟩=>.inl ⟨ksZ,qZ,xZ,fun R hg=>zaa (wkl [sb h0,se (zaf Rw.cells hx rfl),sb h1,si hw] [3,4,12,13,14] 2 kr (gZ R hg))⟩) (fun ⟨rY,pZ,gZ⟩=>.inr ⟨rY,pZ,zaa (wkl [sb h0,se (zaf Rw.cells hx rfl),sb h1,si hw] [3,4,12,13,14] 2 kr gZ)⟩)
 ·cases h2:decide (kc < (↑(List.map V.cells x.vals).length:Int))
  ·exact (ih ks Zo ztV Zo).elim (fun ⟨ksZ,qZ,xZ,gZ⟩=>.inl ⟨ksZ,qZ,xZ,fun R hg=>zaa (wkl [sb h0,se (zaf Rw.cells hx rfl),sg h1,sb h2,si hw] [3,4,12,13,14] 2 kr (gZ R hg))⟩) (fun ⟨rY,pZ,gZ⟩=>.inr ⟨rY,pZ,zaa (wkl [sb h0,se (zaf Rw.cells hx rfl),sg h1,sb h2,si hw] [3,4,12,13,14] 2 kr gZ)⟩)
  ·cases h3:anyV ks (zak x.vals kc)
   ·exact (ih (ks++[zak x.vals kc]) Zo ztV Zo).elim (fun ⟨ksZ,qZ,xZ,gZ⟩=>.inl ⟨ksZ,qZ,xZ,fun R hg=>zaa (wkl [sb h0,se (zaf Rw.cells hx rfl),sg h1,sb h2,se (zcT x.vals kc zdT zdT),sx (.el [bv (anyV ks (zak x.vals kc))]) (And.intro (zbO ((zak x.vals kc).kind) ((zak x.vals kc).int) ((zak x.vals kc).text)) (zgp ks (zak x.vals kc))),sb h3,se (zcT x.vals kc zdT zdT),sx (.call [] .un [.mp (List.map itV (ks++[zak x.vals kc]))]) (And.intro (zbO ((zak x.vals kc).kind) ((zak x.vals kc).int) ((zak x.vals kc).text)) (znv ks (zak x.vals kc) zdT)),si hw] [3,4,12,13,14] 2 kr (gZ R hg))⟩) (fun ⟨rY,pZ,gZ⟩=>.inr ⟨rY,pZ,zaa (wkl [sb h0,se (zaf Rw.cells hx rfl),sg h1,sb h2,se (zcT x.vals kc zdT zdT),sx (.el [bv (anyV ks (zak x.vals kc))]) (And.intro (zbO ((zak x.vals kc).kind) ((zak x.vals kc).int) ((zak x.vals kc).text)) (zgp ks (zak x.vals kc))),sb h3,se (zcT x.vals kc zdT zdT),sx (.call [] .un [.mp (List.map itV (ks++[zak x.vals kc]))]) (And.intro (zbO ((zak x.vals kc).kind) ((zak x.vals kc).int) ((zak x.vals kc).text)) (znv ks (zak x.vals kc) zdT)),si hw] [3,4,12,13,14] 2 kr gZ)⟩)
   ·exact .inr ⟨true,(by exact ⟨rfl,zx8 hI hx (zqA ‹_› ‹_›) ‹_›⟩),zaa (wkr [sb h0,se (zaf Rw.cells hx rfl),sg h1,sb h2,se (zcT x.vals kc zdT zdT),sx (.el [bv (anyV ks (zak x.vals kc))]) (And.intro (zbO ((zak x.vals kc).kind) ((zak x.vals kc).int) ((zak x.vals kc).text)) (zgp ks (zak x.vals kc))),sb h3] kr)⟩
theorem ziS (t:Tb) (hs:zac t.sch.cols) (hr:zac t.rows):∃ (b:Bool),(b=false↔(zaX (idxF (fun c=>c.key) t.sch.cols 0) t.rows).Nodup)/\zab E0 S.Bk [t.av] [] (bv b) []:=by
 let p_1:List St:=[sc (zos t.sch zpS)]
 rcases zhZ t (idxF (fun c=>c.key) t.sch.cols 0) zpS 0 ([]) zpS zpS with ⟨ks1,q1,q1_1,g1⟩|⟨r1_0,p1_0,g1⟩
 ·exact ⟨false,(by first|(have hq1:=‹_=zaX _ _/\List.Nodup _›;rw [yL] at hq1;exact ⟨fun _=>hq1.1 ▸ hq1.2,fun _=>rfl⟩)|(have hq1:=‹_=true/\¬ List.Nodup _›;rw [hq1.1];exact ⟨fun h=>(by cases h),fun h=>absurd h hq1.2⟩)),wkc At.Bk p_1 [3,4,12,13,14] 2 kr (g1 _ (zaa (wkr [sb q1_1] kr)))⟩
 ·exact ⟨r1_0,(by first|(have hq1:=‹_=zaX _ _/\List.Nodup _›;rw [yL] at hq1;exact ⟨fun _=>hq1.1 ▸ hq1.2,fun _=>rfl⟩)|(have hq1:=‹_=true/\¬ List.Nodup _›;rw [hq1.1];exact ⟨fun h=>(by cases h),fun h=>absurd h hq1.2⟩)),wkc At.Bk p_1 [3,4,12,13,14] 2 kr (g1)⟩
noncomputable def zvU (s:Sch) (n:Str) (i:Nat) :Cfg:=zai B.Bo 0 [(1,sv n),(8,.sl (s.cols.map Col.cells)),(9,iv ((s.cols.map Col.cells).length:Nat)),(10,iv (i:Nat))] [.box s.cells]
theorem zk5 (s:Sch) (n:Str) (h:zac s.cols) (i:Nat)  (hi:i<=(s.cols).length) (hI:idxF (fun c=>colC c n) s.cols 0=idxF (fun c=>colC c n) (s.cols.drop i) i):((idxF (fun c=>colC c n) s.cols 0=idxF (fun c=>colC c n) (s.cols.drop (s.cols).length) (s.cols).length)/\(decide ((((s.cols).length:Nat):Int) < (((s.cols.map Col.cells).length:Nat):Int))=false)/\∀ R,Good E0 B.Bo [] (zvU s n (s.cols).length ) R->Good E0 B.Bo [] (zvU s n i ) R)\/(∃ (r:Int),r=idxF (fun c=>colC c n) s.cols 0/\Good E0 B.Bo [] (zvU s n i ) (Shut 0 fun rZ hZ=>rZ=(iv r)/\hZ=[])):=by
 have hk:=hi;revert i;refine zlp ((s.cols).length) (fun i hlt ih hi hI _=>?_)
 obtain ⟨x,hx,h0,hw⟩:=zlq (l:=s.cols) ((s.cols.map Col.cells).length) hlt
 let p_1:List St:=[sb h0,se (zaf Col.cells hx rfl)]
 cases h1:ByteArray.toList x.name==ByteArray.toList n
 ·exact zie2 (ih Zo (by exact zfb hI hx ‹_›) Zo) fun R gY=>zaa (wkl (p_1++[sb h1,si hw]) [1,8,9,10] 1 kr gY)
 ·exact .inr ⟨(i:Int),(by exact zg0 hI hx ‹_›),zaa (wkr (p_1++[sb h1]) kr)⟩
theorem zuv (s:Sch) (n:Str) (hs:zac s.cols):∃ (r:Int),r=idxF (fun c=>colC c n) s.cols 0/\zab E0 S.Bo [s.av,sv n] [] (iv r) []:=by
 rcases zk5 s n Za 0 Za Za with ⟨q1,q1_1,g1⟩|⟨r1_0,p1_0,g1⟩
 ·exact ⟨-1,(by first|assumption|exact zdt ‹_›),wkc At.Bo [] [1,8,9,10] 1 kr (g1 _ (zaa (wkr [sb q1_1] kr)))⟩
 ·exact ⟨r1_0,(by first|assumption|exact zdt ‹_›),wkc At.Bo [] [1,8,9,10] 1 kr (g1)⟩
theorem zn5 (s:Sch) (n:Str) (hs:zac s.cols):zab E0 S.Bo [s.av,sv n] [] (iv (idxF (fun c=>colC c n) s.cols 0)) []:=by
 obtain ⟨r,rfl,h⟩:=zuv s n hs
 exact h
structure ColV (s:Sch) (i:Nat) (x:Col):Prop where
 name:(!zbi x.name)=false
 lo:decide (x.type < 1)=false
 hi:decide ((3:Int) < x.type)=false
 key:x.key=true->x.notNull=true
 at_:(idxF (fun c=>colC c x.name) s.cols 0 != ((i:Nat):Int))=false
structure SchV (s:Sch):Prop where
 name:(!zbi s.name)=false
 lo:decide (((s.cols.map Col.cells).length:Int) < 1)=false
 hi:decide ((6:Int) < ((s.cols.map Col.cells).length:Int))=false
 cols:∀ i x,s.cols[i]?=some x->ColV s i x
 keys:s.cols.countP (fun c=>c.key)<=1
theorem SchV.short {s:Sch} (h:SchV s):zac s.cols:=by have:=h.hi;simp only [yG,decide_eq_false_iff_not] at this;simp only [zac];omega
theorem zjq {l:List Col} {i k:Nat} {x:Col} (h:k=(l.take i).countP (fun c=>c.key)) (hx:l[i]?=some x) (hk:x.key=true):k+1=(l.take (i+1)).countP (fun c=>c.key):=by
 rw [yP,hx,List.countP_append,h];simp [hk]
theorem zjp {l:List Col} {i k:Nat} {x:Col} (h:k=(l.take i).countP (fun c=>c.key)) (hx:l[i]?=some x) (hk:x.key=false):k=(l.take (i+1)).countP (fun c=>c.key):=by
 rw [yP,hx,List.countP_append,h];simp [hk]
noncomputable def L_sv4 (s:Sch) (i:Nat) (keys:Nat):Cfg:=zai B.AZ 0 [(1,.p 0 0),(3,iv (keys:Nat)),(23,.sl (s.cols.map Col.cells)),(24,iv ((s.cols.map Col.cells).length:Nat)),(25,iv (i:Nat))] [.box s.cells]
theorem zj5 (s:Sch) (hs:zac s.cols) (hv:SchV s) (i:Nat) (keys:Nat) (hi:i<=(s.cols).length) (hI:keys=(s.cols.take i).countP (fun c=>c.key)):∃ (keys':Nat),(keys'=(s.cols.take (s.cols).length).countP (fun c=>c.key))/\(decide ((((s.cols).length:Nat):Int) < (((s.cols.map Col.cells).length:Nat):Int))=false)/\∀ R,Good E0 B.AZ [] (L_sv4 s (s.cols).length keys') R->Good E0 B.AZ [] (L_sv4 s i keys) R:=by
 have hk:=hi;revert i keys;refine zlp ((s.cols).length) (fun i hlt ih keys hi hI _=>?_)
 obtain ⟨x,hx,h0,hw⟩:=zlq (l:=s.cols) ((s.cols.map Col.cells).length) hlt
 obtain ⟨a1,a2,a3,a4,a5⟩:=hv.cols i x hx;have hkl:keys<=1000:=(by have h1:=List.countP_le_length (p:=fun c:Col=>c.key) (l:=s.cols.take i);have h2:=hv.hi;simp only [yG,decide_eq_false_iff_not] at h2;rw [← hI,yV] at h1;omega)
 let p_1:List St:=[sb h0,se (zaf Col.cells hx rfl),sc (zd9 x.name),sg a1,sg a2,sg a3]
 cases h1:x.key
 ·exact Zih (ih keys Zo (by first|exact zjq hI hx ‹_›|exact zjp hI hx ‹_›) Zo) fun R gY=>zaa (wkl (p_1++[sb h1,sc (zn5 s x.name (by first|assumption|omega|(simp;done)|(simp;omega))),sb a5,sb h1,si hw]) [1,3,23,24,25] 1 kr gY)
 ·cases h2:!x.notNull
  ·exact Zih (ih (keys+1) Zo (by first|exact zjq hI hx ‹_›|exact zjp hI hx ‹_›) Zo) fun R gY=>zaa (wkl (p_1++[sg h1,sg h2,sc (zn5 s x.name (by first|assumption|omega|(simp;done)|(simp;omega))),sb a5,sb h1,si (zap (t:=(keys:Int)+1) (n:=keys+1) Zo Zo),si hw]) [1,3,23,24,25] 1 kr gY)
  ·exact False.elim (by simp_all)
theorem zrz (s:Sch) (hs:zac s.cols) (hv:SchV s) (n1:(!zbi s.name)=false) (n2:decide (((s.cols.map Col.cells).length:Int) < 1)=false) (n3:decide ((6:Int) < ((s.cols.map Col.cells).length:Int))=false):∃ (r:Bool),r=true/\zab E0 S.AZ [s.av] [] (bv r) []:=by
 obtain ⟨keys1,q1,q1_1,g1⟩:=zj5 s Za Za 0 0 Za Za
 exact ⟨decide ((keys1:Int)<=(1:Int)),(by first|rfl|(rw [yL] at *;have hkz:=hv.keys;simp;omega)),wkc At.AZ [sc (zd9 s.name),sg n1,sg n2,sb n3] [1,3,23,24,25] 1 kr (g1 _ (zaa (wkr [sb q1_1] kr)))⟩
theorem zpd (s:Sch) (hv:SchV s):zab E0 S.AZ [s.av] [] (bv true) []:=by
 obtain ⟨r,rfl,h⟩:=zrz s hv.short hv hv.name hv.lo hv.hi
 exact h
end Go.AM
