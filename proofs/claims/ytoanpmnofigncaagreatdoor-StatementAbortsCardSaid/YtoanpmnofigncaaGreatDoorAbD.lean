/-
  Contracts of the program's functions, part 3.
-/
import Derived.Test.YtoanpmnofigncaaGreatDoorAbC
import Derived.Laws.Externs
import Derived.Lib.Bytealg
import Derived.WideKeyRuns
set_option maxRecDepth 100000
set_option maxHeartbeats 40000000
set_option linter.unusedSimpArgs false
set_option linter.unusedVariables false
namespace Go.AM
theorem zm9 {p:Prop} (h:p:=by first|assumption|(simp;done)|(simp;omega)|omega|(simp at *;omega)):p:=h
theorem zrF {p:Prop} (h:p:=by first|assumption|omega|(simp;done)|(simp;omega)):p:=h
theorem sE1_3 {p:Prop} (h:p:=by first|omega|(simp only [zac,Few] at *;omega)):p:=h
def zaR:Fr:=⟨⟨#[]⟩,false,[],[]⟩
theorem zmV {α:Type} {l:List α} {k:Nat} (d:α) (h:k < l.length):l[k]?=some (l.getD k d):=by
 rw [List.getD_eq_getElem?_getD,List.getElem?_eq_getElem h];rfl
noncomputable def L_sres (frs:List Fr) (q n:Str) (k:Nat) :Cfg:=zaj B.CD 0 [(0,fsl frs),(1,sv q),(2,sv n),(9,iv (pm1 k))] []
def sres (frs:List Fr) (q n:Str):Nat->Int × Int × Bool
 | 0 =>
  (0,0,false)
 | k+1 =>
  bif ByteArray.toList q==Zs0.toList then
   bif (frs.getD k zaR).strict then
    sres frs q n (k)
   else
    bif decide (0<=idxF (fun c=>colC c n) (Sch.mk Zs0 (frs.getD k zaR).cols).cols 0) then
     (pm1 (k+1),idxF (fun c=>colC c n) (Sch.mk Zs0 (frs.getD k zaR).cols).cols 0,true)
    else
     sres frs q n (k)
  else
   bif !ByteArray.toList (frs.getD k zaR).name==ByteArray.toList q then
    sres frs q n (k)
   else
    bif decide (0<=idxF (fun c=>colC c n) (Sch.mk Zs0 (frs.getD k zaR).cols).cols 0) then
     (pm1 (k+1),idxF (fun c=>colC c n) (Sch.mk Zs0 (frs.getD k zaR).cols).cols 0,true)
    else
     sres frs q n (k)
theorem zup (frs:List Fr) (q n:Str) (hl:zac frs) (hc:∀ f∈frs,zac f.cols):∀ (k:Nat),k<=1000000000->k<=frs.length->Good E0 B.CD [] (L_sres frs q n k ) (Shut 0 fun r h=>r=(.tup [iv (sres frs q n k ).1,iv (sres frs q n k ).2.1,bv (sres frs q n k ).2.2])/\h=[]):=by
 intro k
 induction k with
 | zero =>
  intro  hk hk2
  simp only [sres]
  refine zab ?_
  exact wkr [sb Zf] kr
 | succ k ih =>
  intro  hk hk2
  have h0:decide ((0:Int)<=((k:Nat):Int))=true:=by simp
  have hw:=zn4 k Zo
  have hx:=zmV (l:=frs) (k:=k) zaR Zo;have hcx:=hc _ (List.mem_of_getElem? hx)
  simp only [sres]
  refine zab ?_
  cases h1:ByteArray.toList q==Zs0.toList
  ·cases h2:!ByteArray.toList (frs.getD k zaR).name==ByteArray.toList q
   ·cases h3:decide (0<=idxF (fun c=>colC c n) (Sch.mk Zs0 (frs.getD k zaR).cols).cols 0)
    ·exact wkl [sb Zt,se (zaf Fr.cells hx rfl),sb h1,sg (congrArg Bool.not h1),sb h2,sc (zbl (Sch.mk Zs0 (frs.getD k zaR).cols) n zrF),sb h3,si hw] [0,1,2,9] 0 kr (ih  Zo zm9)
    ·exact wkr [sb Zt,se (zaf Fr.cells hx rfl),sb h1,sg (congrArg Bool.not h1),sb h2,sc (zbl (Sch.mk Zs0 (frs.getD k zaR).cols) n zrF),sb h3] kr
   ·exact wkl [sb Zt,se (zaf Fr.cells hx rfl),sb h1,sg (congrArg Bool.not h1),sb h2,si hw] [0,1,2,9] 0 kr (ih  Zo zm9)
  ·cases h4:(frs.getD k zaR).strict
   ·cases h5:decide (0<=idxF (fun c=>colC c n) (Sch.mk Zs0 (frs.getD k zaR).cols).cols 0)
    ·exact wkl [sb Zt,se (zaf Fr.cells hx rfl),sg h1,sg h4,sb (congrArg Bool.not h1),sc (zbl (Sch.mk Zs0 (frs.getD k zaR).cols) n zrF),sb h5,si hw] [0,1,2,9] 0 kr (ih  Zo zm9)
    ·exact wkr [sb Zt,se (zaf Fr.cells hx rfl),sg h1,sg h4,sb (congrArg Bool.not h1),sc (zbl (Sch.mk Zs0 (frs.getD k zaR).cols) n zrF),sb h5] kr
   ·exact wkl [sb Zt,se (zaf Fr.cells hx rfl),sg h1,sb h4,si hw] [0,1,2,9] 0 kr (ih  Zo zm9)
theorem zAs {α:Type} (f:α->List AV) (l:List α) (h:zac l):IntKind.i64.wrap ((((l.map f).length:Nat):Int) - 1)=pm1 l.length:=by
 rw [List.length_map];exact zn4 _ (by simp only [zac] at h;omega)
def zb2 (frs:List Fr) (q n:Str):Int × Int × Bool :=
 sres frs q n (frs.length)
theorem zfk (frs:List Fr) (q n:Str) (hl:zac frs) (hc:∀ f∈frs,zac f.cols) (hw0:IntKind.i64.wrap ((((frs.map Fr.cells).length:Nat):Int) - 1)=pm1 frs.length):zaa E0 S.CD [fsl frs,sv q,sv n] [] (.tup [iv (zb2 frs q n).1,iv (zb2 frs q n).2.1,bv (zb2 frs q n).2.2]) []:=by
 unfold zb2
 exact wkc At.CD [si hw0] [0,1,2,9] 0 kr (by have ih:=zup frs q n hl hc frs.length (by simp only [zac] at hl;omega) (Nat.le_refl _);exact ih)
noncomputable def zuL (frs:List Fr) (q n:Str) (k:Nat):Cfg:=zaj B.BS 0 [(0,fsl frs),(1,sv q),(2,sv n),(9,iv (pm1 k))] []
noncomputable def zAz (frs:List Fr) (q n:Str) (k:Nat) (f:Fr) (els:Int × Int × Bool) (j:Nat) :Cfg:=zaj B.BS 1 [(0,fsl frs),(1,sv q),(2,sv n),(9,iv (pm1 (k+1))),(41,.sl (f.cols.map Col.cells)),(42,iv ((f.cols.map Col.cells).length:Nat)),(43,iv (j:Nat))] []
def zcG (frs:List Fr) (q n:Str) (k:Nat) (f:Fr) (els:Int × Int × Bool):List (Col)->Nat->Int × Int × Bool
 | [],j =>
  els
 | x::r,j =>
  bif ByteArray.toList x.name==ByteArray.toList n then
   (pm1 (k+1),(j:Int),true)
  else
   zcG frs q n k f els r (j+1)
theorem zl8 (frs:List Fr) (q n:Str) (k:Nat) (f:Fr) (els:Int × Int × Bool) (hl:zac f.cols) (hwk:IntKind.i64.wrap (((k:Nat):Int) - 1)=pm1 k) (hels:Good E0 B.BS [] (zuL frs q n k) (Shut 0 fun r h=>r=.tup [iv els.1,iv els.2.1,bv els.2.2]/\h=[])):∀ (kk j:Nat),j+kk=(f.cols).length->Good E0 B.BS [] (zAz frs q n k f els j ) (Shut 0 fun r h=>r=(.tup [iv (zcG frs q n k f els ((f.cols).drop j) j ).1,iv (zcG frs q n k f els ((f.cols).drop j) j ).2.1,bv (zcG frs q n k f els ((f.cols).drop j) j ).2.2])/\h=[]):=by
 intro kk
 induction kk with
 | zero =>
  intro j  hi
  have h0:decide (((j:Nat):Int) < (((f.cols.map Col.cells).length:Nat):Int))=false:=by simp;omega
  have e0:(f.cols).drop j=[]:=List.drop_of_length_le Zo
  rw [e0]
  simp only [zcG]
  refine zab ?_
  exact wkl [sb h0,si hwk] [0,1,2,9] 0 kr (hels)
 | succ kk ih =>
  intro j  hi
  obtain ⟨x,hx⟩:=zaY (l:=f.cols) (i:=j) Zo
  have h0:decide (((j:Nat):Int) < (((f.cols.map Col.cells).length:Nat):Int))=true:=by simp;omega
  have hw:=zaJ j sE1_3
  rw [zap hx]
  simp only [zcG]
  refine zab ?_
  cases h1:ByteArray.toList x.name==ByteArray.toList n
  ·exact wkl [sb h0,se (zaf Col.cells hx rfl),sb h1,si hw] [0,1,2,9,41,42,43] 0 kr (ih (j+1) Zo )
  ·exact wkr [sb h0,se (zaf Col.cells hx rfl),sb h1] kr
def rres (frs:List Fr) (q n:Str):Nat->Int × Int × Bool
 | 0 =>
  (0,0,false)
 | k+1 =>
  bif ByteArray.toList q==Zs0.toList then
   bif (frs.getD k zaR).strict then
    rres frs q n (k)
   else
    zcG frs q n k (frs.getD k zaR) (rres frs q n k) (frs.getD k zaR).cols 0
  else
   bif !ByteArray.toList (frs.getD k zaR).name==ByteArray.toList q then
    rres frs q n (k)
   else
    zcG frs q n k (frs.getD k zaR) (rres frs q n k) (frs.getD k zaR).cols 0
theorem zum (frs:List Fr) (q n:Str) (hl:zac frs) (hc:∀ f∈frs,zac f.cols):∀ (k:Nat),k<=1000000000->k<=frs.length->Good E0 B.BS [] (zuL frs q n k ) (Shut 0 fun r h=>r=(.tup [iv (rres frs q n k ).1,iv (rres frs q n k ).2.1,bv (rres frs q n k ).2.2])/\h=[]):=by
 intro k
 induction k with
 | zero =>
  intro  hk hk2
  simp only [rres]
  refine zab ?_
  exact wkr [sb Zf] kr
 | succ k ih =>
  intro  hk hk2
  have h0:decide ((0:Int)<=((k:Nat):Int))=true:=by simp
  have hw:=zn4 k Zo
  have hx:=zmV (l:=frs) (k:=k) zaR Zo;have hcx:=hc _ (List.mem_of_getElem? hx)
  simp only [rres]
  refine zab ?_
  cases h1:ByteArray.toList q==Zs0.toList
  ·cases h2:!ByteArray.toList (frs.getD k zaR).name==ByteArray.toList q
   ·exact wkl [sb Zt,se (zaf Fr.cells hx rfl),sb h1,sg (congrArg Bool.not h1),sb h2] [0,1,2,9,41,42,43] 0 kr (by have ih2:=zl8 frs q n k (frs.getD k zaR) (rres frs q n k) hcx hw (ih Zo Zo) (frs.getD k zaR).cols.length 0 Zs;exact ih2)
   ·exact wkl [sb Zt,se (zaf Fr.cells hx rfl),sb h1,sg (congrArg Bool.not h1),sb h2,si hw] [0,1,2,9] 0 kr (ih  Zo zm9)
  ·cases h3:(frs.getD k zaR).strict
   ·exact wkl [sb Zt,se (zaf Fr.cells hx rfl),sg h1,sg h3,sb (congrArg Bool.not h1)] [0,1,2,9,41,42,43] 0 kr (by have ih2:=zl8 frs q n k (frs.getD k zaR) (rres frs q n k) hcx hw (ih Zo Zo) (frs.getD k zaR).cols.length 0 Zs;exact ih2)
   ·exact wkl [sb Zt,se (zaf Fr.cells hx rfl),sg h1,sb h3,si hw] [0,1,2,9] 0 kr (ih  Zo zm9)
def zaM (frs:List Fr) (q n:Str):Int × Int × Bool :=
 rres frs q n (frs.length)
theorem zoL (frs:List Fr) (q n:Str) (hl:zac frs) (hc:∀ f∈frs,zac f.cols) (hw0:IntKind.i64.wrap ((((frs.map Fr.cells).length:Nat):Int) - 1)=pm1 frs.length):zaa E0 S.BS [fsl frs,sv q,sv n] [] (.tup [iv (zaM frs q n).1,iv (zaM frs q n).2.1,bv (zaM frs q n).2.2]) []:=by
 unfold zaM
 exact wkc At.BS [si hw0] [0,1,2,9] 0 kr (by have ih:=zum frs q n hl hc frs.length (by simp only [zac] at hl;omega) (Nat.le_refl _);exact ih)
noncomputable def zAA (tb:List Tb) (n:Str) (i:Nat) :Cfg:=zaj B.CH 0 [(1,sv n),(4,.p 0 0),(9,tsl tb),(10,iv ((tb.map Tb.cells).length:Nat)),(11,iv (i:Nat))] [.box [sv ⟨#[]⟩,.nl]]
def zfu (tb:List Tb) (n:Str):List (Tb)->Nat->Sch × Bool
 | [],i =>
  (Sch.mk Zs0 [],false)
 | x::r,i =>
  bif ByteArray.toList x.sch.name==ByteArray.toList n then
   (x.sch,true)
  else
   zfu tb n r (i+1)
theorem zs3 (tb:List Tb) (n:Str) (hl:zac tb) (hc:∀ x∈tb,zac x.sch.cols):∀ (kk i:Nat),i+kk=(tb).length->Good E0 B.CH [] (zAA tb n i ) (Shut 0 fun r h=>r=(.tup [(zfu tb n ((tb).drop i) i ).1.av,bv (zfu tb n ((tb).drop i) i ).2])/\h=[]):=by
 intro kk
 induction kk with
 | zero =>
  intro i  hi
  have h0:decide (((i:Nat):Int) < (((tb.map Tb.cells).length:Nat):Int))=false:=by simp;omega
  have e0:(tb).drop i=[]:=List.drop_of_length_le Zo
  rw [e0]
  simp only [zfu]
  refine zab ?_
  exact wkr [sb h0] kr
 | succ kk ih =>
  intro i  hi
  obtain ⟨x,hx⟩:=zaY (l:=tb) (i:=i) Zo
  have h0:decide (((i:Nat):Int) < (((tb.map Tb.cells).length:Nat):Int))=true:=by simp;omega
  have hw:=zaJ i sE1_3
  have hcx:=hc x (List.mem_of_getElem? hx)
  rw [zap hx]
  simp only [zfu]
  refine zab ?_
  cases h1:ByteArray.toList x.sch.name==ByteArray.toList n
  ·exact wkl [sb h0,se (zaf Tb.cells hx rfl),sb h1,si hw] [1,4,9,10,11] 1 kr (ih (i+1) Zo )
  ·exact wkr [sqx ((True/\(List.map Col.cells x.sch.cols).length=(List.map Col.cells x.sch.cols).length/\True)/\True/\True),sb h0,se (zaf Tb.cells hx rfl),sb h1,sqx (AllLen (List.map Col.cells x.sch.cols) 4/\((List.map Col.cells x.sch.cols).length * 32).le 140737488355328)] kr
def zaN (tb:List Tb) (n:Str):Sch × Bool :=
 zfu tb n tb (0)
theorem zjS (tb:List Tb) (n:Str) (hl:zac tb) (hc:∀ x∈tb,zac x.sch.cols):zaa E0 S.CH [tsl tb,sv n] [] (.tup [(zaN tb n).1.av,bv (zaN tb n).2]) []:=by
 unfold zaN
 exact wkc At.CH [] [1,4,9,10,11] 1 kr (by have ih:=zs3 tb n hl hc tb.length 0 Zs;exact ih)
def zax (frs:List Fr) (s:Sch) (v:List V):(List Fr) :=
 frs++[Fr.mk s.name false s.cols v]
theorem zbk (frs:List Fr) (s:Sch) (v:List V) (hl:zac frs):zaa E0 S.DD [fsl frs,s.av,vsl v] [] (fsl (zax frs s v)) []:=by
 unfold zax
 exact (by (try simp only [zsl,xCol,xLit,xBin,xNeg]);exact wk At.DD [sqx ((List.map Fr.cells frs++[[sv s.name,bv false,ZC s.cols,vsl v]]).length=(List.map Fr.cells frs++[[sv s.name,bv false,ZC s.cols,vsl v]]).length),sqx (AllLen (List.map Fr.cells frs) 4/\((List.map Fr.cells frs).length * 72).le 140737488355328),sqA (List.map Fr.cells frs) [[sv s.name,bv false,ZC s.cols,vsl v]] ((List.map Fr.cells frs).length) 4 72] kr)
def zd3 (kind op:Int) (xs:List X) (qs:List Qy) (st:Bool) (it wh:List X):Bool :=
 bif kind==1 then
  bif (↑(zad xs).length:Int)==0 then
   (↑(zag qs).length:Int)==(0:Int)
  else
   false
 else
  bif kind==2 then
   bif (↑(zad xs).length:Int)==0 then
    (↑(zag qs).length:Int)==(0:Int)
   else
    false
  else
   bif kind==3 then
    bif (↑(zad xs).length:Int)==1 then
     (↑(zag qs).length:Int)==(0:Int)
    else
     false
   else
    bif kind==4 then
     bif (↑(zad xs).length:Int)==1 then
      (↑(zag qs).length:Int)==(0:Int)
     else
      false
    else
     bif kind==6 then
      bif (↑(zad xs).length:Int)==1 then
       (↑(zag qs).length:Int)==(0:Int)
      else
       false
     else
      bif kind==5 then
       bif decide (op < 1) then
        false
       else
        bif decide (13 < op) then
         false
        else
         bif (↑(zad xs).length:Int)==2 then
          (↑(zag qs).length:Int)==(0:Int)
         else
          false
      else
       bif kind==7 then
        bif (↑(zad xs).length:Int)==3 then
         (↑(zag qs).length:Int)==(0:Int)
        else
         false
       else
        bif kind==8 then
         bif (↑(zad xs).length:Int)==0 then
          bif (↑(zag qs).length:Int)==1 then
           bif (↑(zad it).length:Int)==0 then
            decide ((↑(zad wh).length:Int)<=(1:Int))
           else
            false
          else
           false
         else
          false
        else
         bif kind==9 then
          bif (↑(zad xs).length:Int)==0 then
           bif (↑(zag qs).length:Int)==1 then
            bif (↑(zad it).length:Int)==0 then
             decide ((↑(zad wh).length:Int)<=(1:Int))
            else
             false
           else
            false
          else
           false
         else
          bif kind==10 then
           bif (↑(zad xs).length:Int)==0 then
            bif (↑(zag qs).length:Int)==1 then
             bif (↑(zad it).length:Int)==1 then
              decide ((↑(zad wh).length:Int)<=(1:Int))
             else
              false
            else
             false
           else
            false
          else
           bif kind==11 then
            bif (↑(zad xs).length:Int)==0 then
             bif (↑(zag qs).length:Int)==1 then
              bif (↑(zad it).length:Int)==1 then
               decide ((↑(zad wh).length:Int)<=(1:Int))
              else
               false
             else
              false
            else
             false
           else
            bif kind==12 then
             bif (↑(zad xs).length:Int)==0 then
              bif (↑(zag qs).length:Int)==1 then
               bif (↑(zad it).length:Int)==1 then
                decide ((↑(zad wh).length:Int)<=(1:Int))
               else
                false
              else
               false
             else
              false
            else
             false
theorem znW (kind op:Int) (xs:List X) (qs:List Qy) (st:Bool) (it wh:List X) (nt:Bool) (val:V) (tn nm:Str) (fm:Str) (hq:qs[0]?=some (Qy.mk st it fm wh)):zaa E0 S.Ac [X.av (.mk kind op nt val tn nm xs qs)] [] (bv (zd3 kind op xs qs st it wh)) []:=by
 unfold zd3
 cases h1:kind==1
 ·cases h2:kind==2
  ·cases h3:kind==3
   ·cases h4:kind==4
    ·cases h5:kind==6
     ·cases h6:kind==5
      ·let p_1:List St:=[sb h1,sb h2,sb h3,sb h4,sb h5,sb h6]
       cases h7:kind==7
       ·cases h8:kind==8
        ·cases h9:kind==9
         ·cases h10:kind==10
          ·cases h11:kind==11
           ·cases h12:kind==12
            ·exact wk At.Ac (p_1++[sb h7,sb h8,sb h9,sb h10,sb h11,sb h12]) kr
            ·let p_2:List St:=p_1++[sb h7,sb h8,sb h9,sb h10,sb h11,sb h12,sb Zf]
             cases h13:(↑(zad xs).length:Int)==0
             ·exact wk At.Ac (p_2++[sb h13]) kr
             ·cases h14:(↑(zag qs).length:Int)==1
              ·exact wk At.Ac (p_2++[sg h13,sb h14]) kr
              ·cases h15:(↑(zad it).length:Int)==1
               ·exact wk At.Ac (p_2++[sg h13,sg h14,se (zaC hq),sb h15]) kr
               ·exact wk At.Ac (p_2++[sg h13,sg h14,se (zaC hq),sg h15,se (zaC hq)]) kr
           ·let p_3:List St:=p_1++[sb h7,sb h8,sb h9,sb h10,sb h11,sb Zf]
            cases h16:(↑(zad xs).length:Int)==0
            ·exact wk At.Ac (p_3++[sb h16]) kr
            ·cases h17:(↑(zag qs).length:Int)==1
             ·exact wk At.Ac (p_3++[sg h16,sb h17]) kr
             ·cases h18:(↑(zad it).length:Int)==1
              ·exact wk At.Ac (p_3++[sg h16,sg h17,se (zaC hq),sb h18]) kr
              ·exact wk At.Ac (p_3++[sg h16,sg h17,se (zaC hq),sg h18,se (zaC hq)]) kr
          ·let p_4:List St:=p_1++[sb h7,sb h8,sb h9,sb h10,sb Zf]
           cases h19:(↑(zad xs).length:Int)==0
           ·exact wk At.Ac (p_4++[sb h19]) kr
           ·cases h20:(↑(zag qs).length:Int)==1
            ·exact wk At.Ac (p_4++[sg h19,sb h20]) kr
            ·cases h21:(↑(zad it).length:Int)==1
             ·exact wk At.Ac (p_4++[sg h19,sg h20,se (zaC hq),sb h21]) kr
             ·exact wk At.Ac (p_4++[sg h19,sg h20,se (zaC hq),sg h21,se (zaC hq)]) kr
         ·let p_5:List St:=p_1++[sb h7,sb h8,sb h9,sb Zf]
          cases h22:(↑(zad xs).length:Int)==0
          ·exact wk At.Ac (p_5++[sb h22]) kr
          ·cases h23:(↑(zag qs).length:Int)==1
           ·exact wk At.Ac (p_5++[sg h22,sb h23]) kr
           ·cases h24:(↑(zad it).length:Int)==0
            ·exact wk At.Ac (p_5++[sg h22,sg h23,se (zaC hq),sb h24]) kr
            ·exact wk At.Ac (p_5++[sg h22,sg h23,se (zaC hq),sg h24,se (zaC hq)]) kr
        ·let p_6:List St:=p_1++[sb h7,sb h8,sb Zf]
         cases h25:(↑(zad xs).length:Int)==0
         ·exact wk At.Ac (p_6++[sb h25]) kr
         ·cases h26:(↑(zag qs).length:Int)==1
          ·exact wk At.Ac (p_6++[sg h25,sb h26]) kr
          ·cases h27:(↑(zad it).length:Int)==0
           ·exact wk At.Ac (p_6++[sg h25,sg h26,se (zaC hq),sb h27]) kr
           ·exact wk At.Ac (p_6++[sg h25,sg h26,se (zaC hq),sg h27,se (zaC hq)]) kr
       ·cases h28:(↑(zad xs).length:Int)==3
        ·exact wk At.Ac (p_1++[sb h7,sb Zt,sb h28]) kr
        ·exact wk At.Ac (p_1++[sb h7,sb Zt,sg h28]) kr
      ·let p_7:List St:=[sb h1,sb h2,sb h3,sb h4,sb h5,sb h6]
       cases h29:decide (op < 1)
       ·cases h30:decide (13 < op)
        ·let p_8:List St:=p_7++[sg h29,sb h30,sb Zt]
         cases h31:(↑(zad xs).length:Int)==2
         ·exact wk At.Ac (p_8++[sb h31]) kr
         ·exact wk At.Ac (p_8++[sg h31]) kr
        ·exact wk At.Ac (p_7++[sg h29,sb h30]) kr
       ·exact wk At.Ac (p_7++[sb h29]) kr
     ·let p_9:List St:=[sb h1,sb h2,sb h3,sb h4,sb h5,sb Zt]
      cases h32:(↑(zad xs).length:Int)==1
      ·exact wk At.Ac (p_9++[sb h32]) kr
      ·exact wk At.Ac (p_9++[sg h32]) kr
    ·let p_10:List St:=[sb h1,sb h2,sb h3,sb h4,sb Zt]
     cases h33:(↑(zad xs).length:Int)==1
     ·exact wk At.Ac (p_10++[sb h33]) kr
     ·exact wk At.Ac (p_10++[sg h33]) kr
   ·let p_11:List St:=[sb h1,sb h2,sb h3,sb Zt]
    cases h34:(↑(zad xs).length:Int)==1
    ·exact wk At.Ac (p_11++[sb h34]) kr
    ·exact wk At.Ac (p_11++[sg h34]) kr
  ·cases h35:(↑(zad xs).length:Int)==0
   ·exact wk At.Ac [sb h1,sb h2,sb h35] kr
   ·exact wk At.Ac [sb h1,sb h2,sg h35] kr
 ·cases h36:(↑(zad xs).length:Int)==0
  ·exact wk At.Ac [sb h1,sb h36] kr
  ·exact wk At.Ac [sb h1,sg h36] kr
def zfB (kind op:Int) (xs:List X):Bool :=
 bif kind==1 then
  bif (↑(zad xs).length:Int)==0 then
   (↑(zag []).length:Int)==(0:Int)
  else
   false
 else
  bif kind==2 then
   bif (↑(zad xs).length:Int)==0 then
    (↑(zag []).length:Int)==(0:Int)
   else
    false
  else
   bif kind==3 then
    bif (↑(zad xs).length:Int)==1 then
     (↑(zag []).length:Int)==(0:Int)
    else
     false
   else
    bif kind==4 then
     bif (↑(zad xs).length:Int)==1 then
      (↑(zag []).length:Int)==(0:Int)
     else
      false
    else
     bif kind==6 then
      bif (↑(zad xs).length:Int)==1 then
       (↑(zag []).length:Int)==(0:Int)
      else
       false
     else
      bif kind==5 then
       bif decide (op < 1) then
        false
       else
        bif decide (13 < op) then
         false
        else
         bif (↑(zad xs).length:Int)==2 then
          (↑(zag []).length:Int)==(0:Int)
         else
          false
      else
       bif kind==7 then
        bif (↑(zad xs).length:Int)==3 then
         (↑(zag []).length:Int)==(0:Int)
        else
         false
       else
        bif kind==8 then
         bif (↑(zad xs).length:Int)==0 then
          false
         else
          false
        else
         bif kind==9 then
          bif (↑(zad xs).length:Int)==0 then
           false
          else
           false
         else
          bif kind==10 then
           bif (↑(zad xs).length:Int)==0 then
            false
           else
            false
          else
           bif kind==11 then
            bif (↑(zad xs).length:Int)==0 then
             false
            else
             false
           else
            bif kind==12 then
             bif (↑(zad xs).length:Int)==0 then
              false
             else
              false
            else
             false
theorem znV (kind op:Int) (xs:List X) (nt:Bool) (val:V) (tn nm:Str):zaa E0 S.Ac [X.av (.mk kind op nt val tn nm xs [])] [] (bv (zfB kind op xs)) []:=by
 unfold zfB
 cases h1:kind==1
 ·cases h2:kind==2
  ·cases h3:kind==3
   ·cases h4:kind==4
    ·cases h5:kind==6
     ·cases h6:kind==5
      ·let p_1:List St:=[sb h1,sb h2,sb h3,sb h4,sb h5,sb h6]
       cases h7:kind==7
       ·cases h8:kind==8
        ·cases h9:kind==9
         ·cases h10:kind==10
          ·cases h11:kind==11
           ·cases h12:kind==12
            ·exact wk At.Ac (p_1++[sb h7,sb h8,sb h9,sb h10,sb h11,sb h12]) kr
            ·let p_2:List St:=p_1++[sb h7,sb h8,sb h9,sb h10,sb h11,sb h12,sb Zf]
             cases h13:(↑(zad xs).length:Int)==0
             ·exact wk At.Ac (p_2++[sb h13]) kr
             ·exact wk At.Ac (p_2++[sg h13,sb Zf]) kr
           ·let p_3:List St:=p_1++[sb h7,sb h8,sb h9,sb h10,sb h11,sb Zf]
            cases h14:(↑(zad xs).length:Int)==0
            ·exact wk At.Ac (p_3++[sb h14]) kr
            ·exact wk At.Ac (p_3++[sg h14,sb Zf]) kr
          ·let p_4:List St:=p_1++[sb h7,sb h8,sb h9,sb h10,sb Zf]
           cases h15:(↑(zad xs).length:Int)==0
           ·exact wk At.Ac (p_4++[sb h15]) kr
           ·exact wk At.Ac (p_4++[sg h15,sb Zf]) kr
         ·let p_5:List St:=p_1++[sb h7,sb h8,sb h9,sb Zf]
          cases h16:(↑(zad xs).length:Int)==0
          ·exact wk At.Ac (p_5++[sb h16]) kr
          ·exact wk At.Ac (p_5++[sg h16,sb Zf]) kr
        ·let p_6:List St:=p_1++[sb h7,sb h8,sb Zf]
         cases h17:(↑(zad xs).length:Int)==0
         ·exact wk At.Ac (p_6++[sb h17]) kr
         ·exact wk At.Ac (p_6++[sg h17,sb Zf]) kr
       ·cases h18:(↑(zad xs).length:Int)==3
        ·exact wk At.Ac (p_1++[sb h7,sb Zt,sb h18]) kr
        ·exact wk At.Ac (p_1++[sb h7,sb Zt,sg h18]) kr
      ·let p_7:List St:=[sb h1,sb h2,sb h3,sb h4,sb h5,sb h6]
       cases h19:decide (op < 1)
       ·cases h20:decide (13 < op)
        ·let p_8:List St:=p_7++[sg h19,sb h20,sb Zt]
         cases h21:(↑(zad xs).length:Int)==2
         ·exact wk At.Ac (p_8++[sb h21]) kr
         ·exact wk At.Ac (p_8++[sg h21]) kr
        ·exact wk At.Ac (p_7++[sg h19,sb h20]) kr
       ·exact wk At.Ac (p_7++[sb h19]) kr
     ·let p_9:List St:=[sb h1,sb h2,sb h3,sb h4,sb h5,sb Zt]
      cases h22:(↑(zad xs).length:Int)==1
      ·exact wk At.Ac (p_9++[sb h22]) kr
      ·exact wk At.Ac (p_9++[sg h22]) kr
    ·let p_10:List St:=[sb h1,sb h2,sb h3,sb h4,sb Zt]
     cases h23:(↑(zad xs).length:Int)==1
     ·exact wk At.Ac (p_10++[sb h23]) kr
     ·exact wk At.Ac (p_10++[sg h23]) kr
   ·let p_11:List St:=[sb h1,sb h2,sb h3,sb Zt]
    cases h24:(↑(zad xs).length:Int)==1
    ·exact wk At.Ac (p_11++[sb h24]) kr
    ·exact wk At.Ac (p_11++[sg h24]) kr
  ·cases h25:(↑(zad xs).length:Int)==0
   ·exact wk At.Ac [sb h1,sb h2,sb h25] kr
   ·exact wk At.Ac [sb h1,sb h2,sg h25] kr
 ·cases h26:(↑(zad xs).length:Int)==0
  ·exact wk At.Ac [sb h1,sb h26] kr
  ·exact wk At.Ac [sb h1,sg h26] kr
def zcQ (e:X):Bool:=match e.sub with
 | []=>zfB e.kind e.op e.args
 | q::r=>zd3 e.kind e.op e.args (q::r) q.star q.items q.wh
theorem zc1 (e:X):Pure S.Ac [e.av] (bv (zcQ e)):=by
 cases e with
 | mk kind op nt val tn nm xs qs =>
  cases qs with
  | nil=>exact znV kind op xs nt val tn nm
  | cons q r=>cases q with
   | mk st it fm wh=>exact znW kind op xs _ st it wh nt val tn nm fm rfl
def zcd (e:X):Bool:=match e.sub with
 | []=>zeV e.kind e.op e.args
 | q::r=>zeW e.kind e.op e.args (q::r) q.items q.wh
theorem zbt (e:X):Pure S.Ab [e.av] (bv (zcd e)):=by
 cases e with
 | mk kind op nt val tn nm xs qs =>
  cases qs with
  | nil=>exact znq kind op xs nt val tn nm
  | cons q r=>cases q with
   | mk st it fm wh=>exact znr kind op xs _ it wh nt val tn nm st fm rfl
theorem zto (frs:List Fr) (q n:Str) (k:Nat) (f:Fr) (els:Int × Int × Bool):∀ (c:List Col) (j:Nat),(zcG frs q n k f els c j=els)\/(∃ (i:Nat) (x:Col),zcG frs q n k f els c j=(((k:Nat):Int),((j+i:Nat):Int),true)/\c[i]?=some x)
 | [],j=>.inl rfl
 | x::r,j=>by
  rcases zto frs q n k f els r (j+1) with h|⟨i,y,h,hy⟩
  ·simp only [zcG,Bool.cond_eq_ite]
   split
   ·exact .inr ⟨0,x,rfl,rfl⟩
   ·exact .inl h
  ·simp only [zcG,Bool.cond_eq_ite]
   split
   ·exact .inr ⟨0,x,rfl,rfl⟩
   ·exact .inr ⟨i+1,y,by rw [h];congr 2;omega,hy⟩
theorem zvd (frs:List Fr) (q n:Str):∀ (k:Nat),k<=frs.length->(rres frs q n k).2.2=true->∃ (i j:Nat) (f:Fr) (c:Col),rres frs q n k=((i:Int),(j:Int),true)/\frs[i]?=some f/\f.cols[j]?=some c
 | 0,_,h=>by simp [rres] at h
 | k+1,hk,h=>by
  have ih:=zvd frs q n k Zo
  have hx:=zmV (l:=frs) (k:=k) zaR Zo
  have hi:=zto frs q n k (frs.getD k zaR) (rres frs q n k) (frs.getD k zaR).cols 0
  simp only [rres,Bool.cond_eq_ite] at h ⊢
  have key:(zcG frs q n k (frs.getD k zaR) (rres frs q n k) (frs.getD k zaR).cols 0).2.2=true->∃ (i j:Nat) (f:Fr) (c:Col),zcG frs q n k (frs.getD k zaR) (rres frs q n k) (frs.getD k zaR).cols 0=((i:Int),(j:Int),true)/\frs[i]?=some f/\f.cols[j]?=some c:=by
   intro h
   rcases hi with e|⟨i,y,e,hy⟩
   ·rw [e] at h ⊢;exact ih h
   ·exact ⟨k,0+i,_,y,e,hx,by simpa using hy⟩
  revert h
  repeat' split
  all_goals first|exact ih|exact key
def cNull:Col:=⟨⟨#[]⟩,0,false,false⟩
def rFr (frs:List Fr) (q n:Str):Fr:=frs.getD (zaM frs q n).1.toNat zaR
def rCol (frs:List Fr) (q n:Str):Col:=(rFr frs q n).cols.getD (zaM frs q n).2.1.toNat cNull
theorem zjm {frs:List Fr} {q n:Str} (h:(zaM frs q n).2.2=true):∃ (i j:Nat),zaM frs q n=((i:Int),(j:Int),true)/\frs[i]?=some (rFr frs q n)/\(rFr frs q n).cols[j]?=some (rCol frs q n):=by
 have h':=h
 unfold zaM at h'
 obtain ⟨i,j,f,c,e,hf,hc⟩:=zvd frs q n frs.length (Nat.le_refl _) h'
 have e':zaM frs q n=((i:Int),(j:Int),true):=e
 have e1:rFr frs q n=f:=by simp [rFr,e',List.getD_eq_getElem?_getD,hf]
 have e2:rCol frs q n=c:=by simp [rCol,e1,e',List.getD_eq_getElem?_getD,hc]
 exact ⟨i,j,e',by rw [e1];exact hf,by rw [e1,e2];exact hc⟩
theorem zsx (frs:List Fr) (q n:Str) (h:(zaM frs q n).2.2=true):ElAt (frs.map Fr.cells) (zaM frs q n).1 (rFr frs q n).cells 4:=by
 obtain ⟨i,j,e,h1,h2⟩:=zjm h
 rw [show (zaM frs q n).1=(i:Int) by rw [e]]
 exact zaf Fr.cells h1 rfl
structure FsOk (n:Nat) (frs:List Fr):Prop where
 len:frs.length+n<=1000000
 cols:∀ f∈frs,zac f.cols
 vals:∀ f∈frs,∀ v∈f.vals,v.small
structure TbOk (tb:List Tb):Prop where
 len:zac tb
 cols:∀ x∈tb,zac x.sch.cols
 rows:∀ x∈tb,x.rows.length<=1000
 vals:∀ x∈tb,∀ r∈x.rows,∀ v∈r.vals,v.small
theorem FsOk.short {n:Nat} {frs:List Fr} (h:FsOk n frs):zac frs:=by have:=h.len;simp only [zac];omega
theorem FsOk.wrap {n:Nat} {frs:List Fr} (h:FsOk n frs):IntKind.i64.wrap ((((frs.map Fr.cells).length:Nat):Int) - 1)=pm1 frs.length:=zAs _ _ h.short
theorem FsOk.less {n:Nat} {frs:List Fr} (h:FsOk (n+1) frs):FsOk n frs:=⟨by have:=h.len;omega,h.cols,h.vals⟩
theorem zaQ {α:Type} {l:List α} (h:Few l):zac l:=by simp only [Few] at h;simp only [zac];omega
abbrev rIns (frs:List Fr) (tb:List Tb) (q:Qy):List Fr:=zax frs (zaN tb q.frm).1 []
theorem zmo (tb:List Tb) (n:Str):∀ (l:List Tb) (i:Nat),(∀ x∈l,zac x.sch.cols)->zac (zfu tb n l i).1.cols
 | [],i,_=>by simp [zfu]
 | x::r,i,h=>by
  simp only [zfu,Bool.cond_eq_ite]
  split
  ·exact h x Zs
  ·exact zmo tb n r _ (fun y hy=>h y (by simp [hy]))
theorem FsOk.ins {n:Nat} {frs:List Fr} (h:FsOk (n+1) frs) {tb:List Tb} (ht:TbOk tb) (q:Qy):FsOk n (rIns frs tb q):=by
 refine ⟨by have:=h.len;simp [zax];omega,fun f hf=>?_,fun f hf=>?_⟩
 ·simp only [zax,List.mem_append,List.mem_singleton] at hf
  rcases hf with hf|rfl
  ·exact h.cols f hf
  ·exact zmo tb q.frm tb 0 ht.cols
 ·simp only [zax,List.mem_append,List.mem_singleton] at hf
  rcases hf with hf|rfl
  ·exact h.vals f hf
  ·intro v hv;cases hv
theorem zna {p:Prop} (h:p:=by first|assumption|exact hh.1|exact hw2.1|exact (zgc _).1|omega|exact (zjE _ _ _ ‹_› (zgc _) Zo).2):p:=h
abbrev uv (n:Int):AV:=.v (.int .u64 n)
theorem zmF {T:TypeId->TI} {h:Heap} {β:List Con} {w:World} {S:Addr->Prop} {x:Value} {l:List AV} {vs:List Value} (hp:PW (RelV T h β w S) (.v x::l) vs):∃ r,vs=x::r/\PW (RelV T h β w S) l r:=by
 cases vs with
 | nil=>have:=hp.1;simp at this
 | cons y r =>
  have h1:=hp.2 0 _ _ rfl rfl
  exact ⟨r,by rw [h1.v_inv],hp.uncons.2⟩
def zcc (a b c:Int):Int × Int:=((a+b+c) % 18446744073709551616,(a+b+c) / 18446744073709551616)
theorem zei (a b c:Int) (ha:0<=a) (hb:0<=b) (hc:0<=c/\c<=1):zaa E0 S.Dq [uv a,uv b,uv c] [] (.tup [uv (zcc a b c).1,uv (zcc a b c).2]) []:=by
 intro β S w vs r hp
 obtain ⟨v1,rfl,hp1⟩:=zmF hp
 obtain ⟨v2,rfl,hp2⟩:=zmF hp1
 obtain ⟨v3,rfl,hp3⟩:=zmF hp2
 have h0:v3=[]:=List.eq_nil_of_length_eq_zero (by have:=hp3.1;simpa using this.symm)
 subst h0
 refine .inr ⟨.tuple [.int .u64 (zcc a b c).1,.int .u64 (zcc a b c).2].toArray,w,?_,?_⟩
 ·have h1:=run_callFunc_extern (e:=add64Entry) At.Dq kr kr kr kr #[.int .u64 a,.int .u64 b,.int .u64 c] w
  rw [run_add64 a b c ha hb hc.1 hc.2] at h1
  exact h1
 ·refine ⟨_,_,β,S,_,rfl,⟨rfl,rfl⟩,r,Ext.refl _ _ _ _,.tup _ _ rfl fun i x y hx hy=>?_⟩
  match i with
  | 0=>cases hx;cases hy;exact zbu _ _
  | 1=>cases hx;cases hy;exact zbu _ _
  | i+2=>cases hx
abbrev U64 (n:Int):Prop:=0<=n/\n < 18446744073709551616
theorem zfC (n:Int):IntKind.u64.wrap n=n % 18446744073709551616:=by simp [IntKind.wrap,IntKind.bits,IntKind.signed]
theorem zgc (n:Int):U64 (IntKind.u64.wrap n):=by rw [zfC];simp only [U64];omega
theorem zjE (a b c:Int) (ha:U64 a) (hb:U64 b) (hc:0<=c/\c<=1):U64 (zcc a b c).1/\0<=(zcc a b c).2/\(zcc a b c).2<=1:=by
 simp only [U64,zcc] at *;omega
noncomputable def L_sumL (l:List Int) (i:Nat) (high low:Int):Cfg:=zaj B.C8 0 [(4,uv high),(5,uv low),(11,isl l),(12,iv ((l.map fun n=>[iv n]).length:Nat)),(13,iv (i:Nat))] []
def sumL (l:List Int):List (Int)->Nat->(Int)->(Int)->Int × Bool
 | [],i,high,low =>
  bif high != IntKind.u64.wrap ((IntKind.i64.wrap low).fdiv (2 ^ min (Int.toNat 63) IntKind.i64.bits)) then
   (0,false)
  else
   (IntKind.i64.wrap low,true)
 | x::r,i,high,low =>
  sumL l r (i+1) ((zcc high (IntKind.u64.wrap (x.fdiv (2 ^ min (Int.toNat 63) IntKind.i64.bits))) (zcc low (IntKind.u64.wrap x) 0).snd).fst) ((zcc low (IntKind.u64.wrap x) 0).fst)
theorem zur (l:List Int) (hl:zac l):∀ (kk i:Nat) (high low:Int),i+kk=(l).length->(U64 high)->(U64 low)->Good E0 B.C8 [] (L_sumL l i high low) (Shut 0 fun r h=>r=(.tup [iv (sumL l ((l).drop i) i high low).1,bv (sumL l ((l).drop i) i high low).2])/\h=[]):=by
 intro kk
 induction kk with
 | zero =>
  intro i high low hi hh hw2
  have h0:decide (((i:Nat):Int) < (((l.map fun n=>[iv n]).length:Nat):Int))=false:=by simp;omega
  have e0:(l).drop i=[]:=List.drop_of_length_le Zo
  rw [e0]
  simp only [sumL]
  refine zab ?_
  let p_1:List St:=[sb h0,si (e:=IntKind.i64.wrap low) rfl,sx (.i ((IntKind.i64.wrap low).fdiv ((2:Int) ^ min (Int.toNat (63:Int)) IntKind.i64.bits))) (show (0:Int)<=(63:Int)/\((IntKind.i64.wrap low).fdiv ((2:Int) ^ min (Int.toNat (63:Int)) IntKind.i64.bits):Int)=(IntKind.i64.wrap low).fdiv ((2:Int) ^ min (Int.toNat (63:Int)) IntKind.i64.bits) from ⟨(by simp_all),rfl⟩),si (e:=IntKind.u64.wrap ((IntKind.i64.wrap low).fdiv (2 ^ min (Int.toNat 63) IntKind.i64.bits))) rfl]
  cases h1:high != IntKind.u64.wrap ((IntKind.i64.wrap low).fdiv (2 ^ min (Int.toNat 63) IntKind.i64.bits))
  ·exact wkr (p_1++[sb h1]) kr
  ·exact wkr (p_1++[sb h1]) kr
 | succ kk ih =>
  intro i high low hi hh hw2
  obtain ⟨x,hx⟩:=zaY (l:=l) (i:=i) Zo
  have h0:decide (((i:Nat):Int) < (((l.map fun n=>[iv n]).length:Nat):Int))=true:=by simp;omega
  have hw:=zaJ i (by first|omega|(simp only [zac,Few] at *;omega))
  rw [zap hx]
  simp only [sumL]
  refine zab ?_
  exact wkl [sb h0,se (zaf (fun n=>[iv n]) hx rfl),si (e:=IntKind.u64.wrap x) rfl,sc (zei low (IntKind.u64.wrap x) 0 zna zna zna),sx (.i (x.fdiv ((2:Int) ^ min (Int.toNat (63:Int)) IntKind.i64.bits))) (show (0:Int)<=(63:Int)/\(x.fdiv ((2:Int) ^ min (Int.toNat (63:Int)) IntKind.i64.bits):Int)=x.fdiv ((2:Int) ^ min (Int.toNat (63:Int)) IntKind.i64.bits) from ⟨(by simp_all),rfl⟩),si (e:=IntKind.u64.wrap (x.fdiv (2 ^ min (Int.toNat 63) IntKind.i64.bits))) rfl,sc (zei high (IntKind.u64.wrap (x.fdiv (2 ^ min (Int.toNat 63) IntKind.i64.bits))) ((zcc low (IntKind.u64.wrap x) 0).snd) zna zna zna),si hw] [4,5,11,12,13] 0 kr (ih (i+1) ((zcc high (IntKind.u64.wrap (x.fdiv (2 ^ min (Int.toNat 63) IntKind.i64.bits))) (zcc low (IntKind.u64.wrap x) 0).snd).fst) ((zcc low (IntKind.u64.wrap x) 0).fst) Zo (by first|assumption|exact (zjE _ _ _ ‹_› (zgc _) (by first|omega|exact (zjE _ _ _ ‹_› (zgc _) Zo).2)).1) (by first|assumption|exact (zjE _ _ _ ‹_› (zgc _) (by first|omega|exact (zjE _ _ _ ‹_› (zgc _) Zo).2)).1))
def aSum (l:List Int):Int × Bool :=
 sumL l l 0 0 (0)
theorem zua (l:List Int) (hl:zac l):zaa E0 S.C8 [isl l] [] (.tup [iv (aSum l).1,bv (aSum l).2]) []:=by
 unfold aSum
 exact wkc At.C8 [] [4,5,11,12,13] 0 kr (by have ih:=zur l hl l.length 0 0 0 Zs (by simp only [U64];omega) (by simp only [U64];omega);exact ih)
noncomputable def zAx (its:List V) (i:Nat) (l:List Int):Cfg:=zaj B.CI 0 [(2,.p 0 0),(4,.own 1 l.length),(9,vsl its),(10,iv ((its.map V.cells).length:Nat)),(11,iv (i:Nat))] [.box [iv 0,iv 0,sv ⟨#[]⟩],.row Ty.int64 (l.map fun n=>[iv n]) false]
def zhc (its:List V):List (V)->Nat->(List Int)->V × Int
 | [],i,l =>
  bif !(aSum l).snd then
   (V.mk 0 0 Zs0,6)
  else
   (V.mk 1 (aSum l).fst Zs0,0)
 | x::r,i,l =>
  zhc its r (i+1) (l++[x.int])
theorem Zcv4 {p:Prop} (h:p:=by first|rfl|(simp;done)|(simp [X.cells,Qy.cells,V.cells,Col.cells,Rw.cells,Tb.cells,Fr.cells,Sch.cells,Tp.cells,Pl.cells,xCol,xLit,xBin,xNeg];done)):p:=h
theorem zsY (its:List V) (hl:zac its):∀ (kk i:Nat) (l:List Int),i+kk=(its).length->(l.length<=i)->Good E0 B.CI [] (zAx its i l) (Shut 0 fun r h=>r=(.tup [(zhc its ((its).drop i) i l).1.av,iv (zhc its ((its).drop i) i l).2])/\h=[]):=by
 intro kk
 induction kk with
 | zero =>
  intro i l hi ho
  have h0:decide (((i:Nat):Int) < (((its.map V.cells).length:Nat):Int))=false:=by simp;omega
  have e0:(its).drop i=[]:=List.drop_of_length_le Zo
  rw [e0]
  simp only [zhc]
  refine zab ?_
  let p_1:List St:=[sb h0,skx (l.length=(List.map (fun n=>[iv n]) l).length/\True) [] (zua l (by first|assumption|(simp only [zac] at *;omega)))]
  cases h1:!(aSum l).snd
  ·exact wkr (p_1++[sb h1,sc (za6 ((aSum l).fst))]) kr
  ·exact wkr (p_1++[sb h1]) kr
 | succ kk ih =>
  intro i l hi ho
  obtain ⟨x,hx⟩:=zaY (l:=its) (i:=i) Zo
  have h0:decide (((i:Nat):Int) < (((its.map V.cells).length:Nat):Int))=true:=by simp;omega
  have hw:=zaJ i (by first|omega|(simp only [zac,Few] at *;omega))
  rw [zap hx]
  simp only [zhc]
  refine zab ?_
  exact wkl [sb h0,se (zaf V.cells hx rfl),sqA (List.map (fun n=>[iv n]) l) [[iv x.int]] l.length 1 8,si hw] [2,4,9,10,11] 2 kr (zao 4 1 (List.map (fun n=>[iv n]) l++[[iv x.int]]) (ih (i+1) (l++[x.int]) Zo (by first|assumption|(simp;done)|(simp;omega)|omega|(simp at *;omega))) (he:=Zcv4) (hm:=Zcv4))
def eSum (its:List V):V × Int :=
 zhc its its 0 ([])
theorem zpT (its:List V) (hl:zac its):zaa E0 S.CI [vsl its] [] (.tup [(eSum its).1.av,iv (eSum its).2]) []:=by
 unfold eSum
 exact wkcN At.CI [] [2,4,9,10,11] 1 [(.ot 4 Ty.int64,2)] kr (by have ih:=zsY its hl its.length 0 ([]) Zs Zs;exact ih)
noncomputable def L_minL (l:List V) (i:Nat) (m:V):Cfg:=zaj B.BN 0 [(0,vsl l),(1,.fn S.Cj []),(4,.p 0 0),(5,.p 1 0),(6,iv (i:Nat))] [.box [iv 0,iv 0,sv ⟨#[]⟩],.box m.cells]
def minL (l:List V):List (V)->Nat->(V)->V
 | [],i,m =>
  m
 | x::r,i,m =>
  bif decide (cmpV x m < 0) then
   minL l r (i+1) (x)
  else
   minL l r (i+1) (m)
theorem zuj (l:List V) (hl:zac l):∀ (kk i:Nat) (m:V),i+kk=(l).length->Good E0 B.BN [] (L_minL l i m) (Shut 0 fun r h=>r=((minL l ((l).drop i) i m).av)/\h=[]):=by
 intro kk
 induction kk with
 | zero =>
  intro i m hi
  have h0:decide (((i:Nat):Int) < (((l.map V.cells).length:Nat):Int))=false:=by simp;omega
  have e0:(l).drop i=[]:=List.drop_of_length_le Zo
  rw [e0]
  simp only [minL]
  refine zab ?_
  exact wkr [sb h0] kr
 | succ kk ih =>
  intro i m hi
  obtain ⟨x,hx⟩:=zaY (l:=l) (i:=i) Zo
  have h0:decide (((i:Nat):Int) < (((l.map V.cells).length:Nat):Int))=true:=by simp;omega
  have hw:=zaJ i (by first|omega|(simp only [zac,Few] at *;omega))
  rw [zap hx]
  simp only [minL]
  refine zab ?_
  let p_1:List St:=[sb h0,sd [(3,[se (zaf V.cells hx rfl)]),(6,[sc (zfm x m)])]]
  cases h1:decide (cmpV x m < 0)
  ·exact wkl (p_1++[sb h1,si hw]) [0,1,4,5,6] 2 kr (ih (i+1) m Zo )
  ·exact wkl (p_1++[sb h1,se (zaf V.cells hx rfl),si hw]) [0,1,4,5,6] 2 kr (ih (i+1) x Zo )
def minV (l:List V):V :=
 minL l (l.drop 1) 1 (l.headD V.null)
theorem zjf (l:List V) (hl:zac l) (hy:l[0]?=some (l.headD V.null)) (hn:decide (((((l.map V.cells).length:Nat):Int)) < 1)=false):zaa E0 S.BN [vsl l,.fn S.Cj []] [] ((minV l).av) []:=by
 unfold minV
 exact wkc At.BN [sb hn,se (zaf V.cells hy rfl)] [0,1,4,5,6] 2 kr (by have hlt:=zbY hy;have ih:=zuj l hl (l.length - 1) 1 (l.headD V.null) Zo;exact ih)
noncomputable def L_maxL (l:List V) (i:Nat) (m:V):Cfg:=zaj B.BO 0 [(0,vsl l),(1,.fn S.Cj []),(4,.p 0 0),(5,.p 1 0),(6,iv (i:Nat))] [.box [iv 0,iv 0,sv ⟨#[]⟩],.box m.cells]
def maxL (l:List V):List (V)->Nat->(V)->V
 | [],i,m =>
  m
 | x::r,i,m =>
  bif decide (0 < cmpV x m) then
   maxL l r (i+1) (x)
  else
   maxL l r (i+1) (m)
theorem zui (l:List V) (hl:zac l):∀ (kk i:Nat) (m:V),i+kk=(l).length->Good E0 B.BO [] (L_maxL l i m) (Shut 0 fun r h=>r=((maxL l ((l).drop i) i m).av)/\h=[]):=by
 intro kk
 induction kk with
 | zero =>
  intro i m hi
  have h0:decide (((i:Nat):Int) < (((l.map V.cells).length:Nat):Int))=false:=by simp;omega
  have e0:(l).drop i=[]:=List.drop_of_length_le Zo
  rw [e0]
  simp only [maxL]
  refine zab ?_
  exact wkr [sb h0] kr
 | succ kk ih =>
  intro i m hi
  obtain ⟨x,hx⟩:=zaY (l:=l) (i:=i) Zo
  have h0:decide (((i:Nat):Int) < (((l.map V.cells).length:Nat):Int))=true:=by simp;omega
  have hw:=zaJ i (by first|omega|(simp only [zac,Few] at *;omega))
  rw [zap hx]
  simp only [maxL]
  refine zab ?_
  let p_1:List St:=[sb h0,sd [(3,[se (zaf V.cells hx rfl)]),(6,[sc (zfm x m)])]]
  cases h1:decide (0 < cmpV x m)
  ·exact wkl (p_1++[sb h1,si hw]) [0,1,4,5,6] 2 kr (ih (i+1) m Zo )
  ·exact wkl (p_1++[sb h1,se (zaf V.cells hx rfl),si hw]) [0,1,4,5,6] 2 kr (ih (i+1) x Zo )
def maxV (l:List V):V :=
 maxL l (l.drop 1) 1 (l.headD V.null)
theorem zje (l:List V) (hl:zac l) (hy:l[0]?=some (l.headD V.null)) (hn:decide (((((l.map V.cells).length:Nat):Int)) < 1)=false):zaa E0 S.BO [vsl l,.fn S.Cj []] [] ((maxV l).av) []:=by
 unfold maxV
 exact wkc At.BO [sb hn,se (zaf V.cells hy rfl)] [0,1,4,5,6] 2 kr (by have hlt:=zbY hy;have ih:=zui l hl (l.length - 1) 1 (l.headD V.null) Zo;exact ih)
def zhO (f:X->V × Int) (x:X):Bool × Int :=
 bif (f x).snd==0 then
  bif !zbn (f x).fst then
   (false,5)
  else
   (zoG (f x).fst,(f x).snd)
 else
  (false,(f x).snd)
theorem zl6 (f:X->V × Int) (x:X) (r:List X) (frs:List Fr) (tb:List Tb) (hf:Pure S.Ai [x.av,fsl frs,tsl tb] (.tup [(f x).1.av,iv (f x).2])) (hs:(f x).1.small):zaa E0 S.AH [xsl (x::r),fsl frs,tsl tb] [] (.tup [bv (zhO f x).1,iv (zhO f x).2]) []:=by
 unfold zhO
 let p_1:List St:=[sb Zf,se (zbr (l:=x::r) (i:=0) (x:=x) rfl),sc hf]
 cases h1:(f x).snd==0
 ·exact wk At.AH (p_1++[sb h1,sb h1]) kr
 ·let p_2:List St:=p_1++[sg h1,sc (zbc ((f x).fst) (by first|assumption|omega|(simp;done)|(simp;omega)))]
  cases h2:!zbn (f x).fst
  ·exact wk At.AH (p_2++[sb h2,sg h1,sc (zpU ((f x).fst))]) kr
  ·exact wk At.AH (p_2++[sb h2,sb Zf]) kr
def zoA :Bool × Int :=
 (true,0)
theorem zl5  (frs:List Fr) (tb:List Tb):zaa E0 S.AH [xsl [],fsl frs,tsl tb] [] (.tup [bv zoA.1,iv zoA.2]) []:=by
 exact wk At.AH [sb Zt] kr
noncomputable def clC (frs:List Fr):Cfg:=(upto (mk E0) (List.range 40) 0 3000 ⟨B.Bk.ntmps,[.code (B.Bk.body.getD .skip)],zb9 0 [fsl frs],[]⟩ []).2
theorem zAX (frs:List Fr) (hl:zac frs):Good E0 B.Bk [] (zbC (clC frs) false) (fun r h=>r=.own 0 frs.length/\h=[.row Ty.Frame (frs.map Fr.cells) false]):=by
 exact zcD E0ok mix0 3000 (y:=AV.own (0:Nat) (List.map Fr.cells frs).length) (H:=[Blk.row Ty.Frame (List.map Fr.cells frs) false]) [sb Zf,sq (show AllLen (List.map Fr.cells frs) (4:Nat)/\((List.map Fr.cells frs).length * (72:Nat)).le (140737488355328:Nat) by first|assumption|(simp;done)|(simp;omega)|omega|rfl|(refine ⟨⟨by simp⟩,?_⟩;first|(simp;done)|(simp;omega)|omega)|(refine ⟨⟨by simp⟩,?_,?_⟩ <;> first|(simp;done)|(simp;omega)|omega))] kr (⟨by first|rfl|(simp;done),rfl⟩)
theorem zAY:Good E0 B.Bk [] (zbC (clC []) true) (fun r h=>r=.nl/\h=[]):=by
 exact zcD E0ok mix0 3000 (y:=AV.nl) (H:=[]) [sb Zt] kr (⟨rfl,rfl⟩)
theorem zfl (frs:List Fr) (hl:zac frs):zaa E0 S.Bk [fsl frs] [] (.own 0 frs.length) [.row Ty.Frame (frs.map Fr.cells) false]:=by
 refine zaV At.Bk rfl kr (Nat.le_of_ble_eq_true kr) (zcK E0ok mix0 3000 [] (List.range 40) 0 (c':=clC frs) kr kr (zeP E0ok (xs:=frs.map Fr.cells) (e:=true) kr fun b hb=>?_))
 cases b with
 | false=>exact zAX frs hl
 | true =>
  cases frs with
  | nil=>exact zcS Ty.Frame zAY ⟨rfl,rfl⟩
  | cons x r=>exact absurd (hb Zs) Zs
def zar (frs:List Fr) (t:Tb) (v:List V):(List Fr) :=
 frs++[Fr.mk t.sch.name false t.sch.cols v]
theorem zg4 (frs:List Fr) (t:Tb) (v:List V) (hl:zac frs):zaa E0 S.Do [fsl frs,t.av,vsl v] [] (fsl (zar frs t v)) []:=by
 unfold zar
 exact (by (try simp only [zsl,xCol,xLit,xBin,xNeg]);exact wk At.Do [sqx ((List.map Fr.cells frs++[[sv t.sch.name,bv false,ZC t.sch.cols,vsl v]]).length=(List.map Fr.cells frs++[[sv t.sch.name,bv false,ZC t.sch.cols,vsl v]]).length),sd [(1,[sc (zfl frs (by first|assumption|omega|(simp;done)|(simp;omega)))]),(11,[sqA (List.map Fr.cells frs) [[sv t.sch.name,bv false,ZC t.sch.cols,vsl v]] frs.length 4 72])]] kr)
theorem zw9 {p:Prop} (h:p:=by first|assumption|(simp;done)|(simp;omega)|omega|(simp at *;omega)):p:=h
abbrev AH (q:Qy) (tb:List Tb) (e:X) (n:Nat) (its:List V):Heap:=[.box [iv (n:Nat)],.box q.cells,.box [tsl tb],.box e.cells,.box [.own 5 its.length],.row Ty.Value (its.map V.cells) false]
noncomputable def L_aggI (f:X->V × Int) (q:Qy) (w:List Fr) (tb:List Tb) (e:X) (n:Nat) (its0:List V) (i:Nat) (its:List V):Cfg:=zaj B.Az 0 [(1,fsl w),(4,.p 2 0),(5,.p 3 0),(6,.p 4 0),(17,xsl q.items),(18,iv ((zad q.items).length:Nat)),(19,iv (i:Nat))] (AH q tb e (n+1) its)
def aggI (f:X->V × Int) (q:Qy) (w:List Fr) (tb:List Tb) (e:X) (n:Nat) (its0:List V):List (X)->Nat->(List V)->Int × (List V)
 | [],i,its =>
  (0,its)
 | x::r,i,its =>
  bif (f x).snd != 0 then
   ((f x).snd,its)
  else
   bif (f x).fst.kind==0 then
    aggI f q w tb e n its0 r (i+1) (its)
   else
    bif e.kind==10 then
     bif (f x).fst.kind != 1 then
      (5,its)
     else
      aggI f q w tb e n its0 r (i+1) (its++[(f x).fst])
    else
     aggI f q w tb e n its0 r (i+1) (its++[(f x).fst])
theorem zt9 (f:X->V × Int) (q:Qy) (w:List Fr) (tb:List Tb) (e:X) (n:Nat) (its0:List V) (hl:q.items.length<=1000) (hi0:its0.length<=2000000) (hf:∀ x∈q.items,Pure S.Ai [x.av,fsl w,tsl tb] (.tup [(f x).1.av,iv (f x).2])):∀ (kk i:Nat) (its:List V),i+kk=(q.items).length->(its.length<=its0.length+i)->Good E0 B.Az (AH q tb e n its0) (L_aggI f q w tb e n its0 i its) (Shut 6 fun r h=>r=(iv (aggI f q w tb e n its0 ((q.items).drop i) i its).1)/\h=(AH q tb e (n+1) (aggI f q w tb e n its0 ((q.items).drop i) i its).2)):=by
 intro kk
 induction kk with
 | zero =>
  intro i its hi ho
  have h0:decide (((i:Nat):Int) < (((zad q.items).length:Nat):Int))=false:=by simp;omega
  have e0:(q.items).drop i=[]:=List.drop_of_length_le Zo
  rw [e0]
  simp only [aggI]
  refine zab ?_
  exact wkr [sb h0] kr
 | succ kk ih =>
  intro i its hi ho
  obtain ⟨x,hx⟩:=zaY (l:=q.items) (i:=i) Zo
  have h0:decide (((i:Nat):Int) < (((zad q.items).length:Nat):Int))=true:=by simp;omega
  have hw:=zaJ i (by first|omega|(simp only [zac,Few] at *;omega))
  have hfx:=hf x (List.mem_of_getElem? hx)
  rw [zap hx]
  simp only [aggI]
  refine zab ?_
  cases h1:(f x).snd != 0
  ·let p_1:List St:=[sb h0,se (zbr hx),sc hfx,sb h1,sc (zae ((f x).fst))]
   cases h2:(f x).fst.kind==0
   ·cases h3:e.kind==10
    ·exact wkl (p_1++[sb h2,sb h3,sqA (List.map V.cells its) [[iv (f x).fst.kind,iv (f x).fst.int,sv (f x).fst.text]] its.length 3 32,si hw]) [1,4,5,6,17,18,19] 6 kr (zaF rfl (show ([Blk.box [iv (↑(n+1):Int)],Blk.box q.cells,Blk.box [tsl tb],Blk.box e.cells,Blk.box [AV.own 5 (List.map V.cells its++[[iv (f x).fst.kind,iv (f x).fst.int,sv (f x).fst.text]]).length],Blk.row Ty.Value (List.map V.cells its++[[iv (f x).fst.kind,iv (f x).fst.int,sv (f x).fst.text]]) false]:Heap)=_ from Zcv4) (ih (i+1) (its++[(f x).fst]) Zo zw9))
    ·cases h4:(f x).fst.kind != 1
     ·exact wkl (p_1++[sb h2,sg h3,sb h4,sqA (List.map V.cells its) [[iv (f x).fst.kind,iv (f x).fst.int,sv (f x).fst.text]] its.length 3 32,si hw]) [1,4,5,6,17,18,19] 6 kr (zaF rfl (show ([Blk.box [iv (↑(n+1):Int)],Blk.box q.cells,Blk.box [tsl tb],Blk.box e.cells,Blk.box [AV.own 5 (List.map V.cells its++[[iv (f x).fst.kind,iv (f x).fst.int,sv (f x).fst.text]]).length],Blk.row Ty.Value (List.map V.cells its++[[iv (f x).fst.kind,iv (f x).fst.int,sv (f x).fst.text]]) false]:Heap)=_ from Zcv4) (ih (i+1) (its++[(f x).fst]) Zo zw9))
     ·exact wkr (p_1++[sb h2,sg h3,sb h4]) kr
   ·exact wkl (p_1++[sb h2,si hw]) [1,4,5,6,17,18,19] 6 kr (ih (i+1) its Zo zw9)
  ·exact wkr [sb h0,se (zbr hx),sc hfx,sb h1] kr
def aggC (f:X->V × Int) (q:Qy) (w:List Fr) (tb:List Tb) (e:X) (n:Nat) (its:List V):Int × (List V) :=
 aggI f q w tb e n its q.items 0 (its)
theorem zis (f:X->V × Int) (q:Qy) (w:List Fr) (tb:List Tb) (e:X) (n:Nat) (its:List V) (rw:Rw) (hl:q.items.length<=1000) (hi0:its.length<=2000000) (hwn:IntKind.i64.wrap (((n:Nat):Int)+1)=((n+1:Nat):Int)) (hf:∀ x∈q.items,Pure S.Ai [x.av,fsl w,tsl tb] (.tup [(f x).1.av,iv (f x).2])):zaa E0 S.Az [.agg (Rw.cells rw),fsl w,.p 0 0,.p 1 0,.p 2 0,.p 3 0,.p 4 0] (AH q tb e n its) (iv (aggC f q w tb e n its).1) (AH q tb e (n+1) (aggC f q w tb e n its).2):=by
 unfold aggC
 exact wkc At.Az [si hwn] [1,4,5,6,17,18,19] 6 kr (by have ih:=zt9 f q w tb e n its hl hi0 hf q.items.length 0 its Zs Zs;exact ih)
theorem zj6 {p:Prop} (h:p:=by first|omega|(have:=hgl x its;omega)):p:=h
noncomputable def L_selA (tr:Rw->Bool × Int) (g:Rw->List V->Int × List V) (q:Qy) (frs:List Fr) (tb:List Tb) (e:X) (t:Tb) (n0:Nat) (its0:List V) (i:Nat) (n:Nat) (its:List V):Cfg:=zaj B.Ax 0 [(1,fsl frs),(2,tsl tb),(3,.fn S.Az [.p 0 0,.p 1 0,.p 2 0,.p 3 0,.p 4 0]),(4,.p 6 0),(9,.p 7 0),(26,.sl (t.rows.map Rw.cells)),(27,iv ((t.rows.map Rw.cells).length:Nat)),(28,iv (i:Nat))] (AH q tb e n its++[.box q.cells,.box t.cells])
def selA (tr:Rw->Bool × Int) (g:Rw->List V->Int × List V) (q:Qy) (frs:List Fr) (tb:List Tb) (e:X) (t:Tb) (n0:Nat) (its0:List V):List (Rw)->Nat->(Nat)->(List V)->Int × Nat × (List V)
 | [],i,n,its =>
  (0,n,its)
 | x::r,i,n,its =>
  bif (tr x).snd==0 then
   bif (tr x).fst then
    bif (g x its).fst != 0 then
     ((g x its).fst,n+1,(g x its).snd)
    else
     selA tr g q frs tb e t n0 its0 r (i+1) (n+1) ((g x its).snd)
   else
    bif (tr x).snd != 0 then
     ((tr x).snd,n,its)
    else
     selA tr g q frs tb e t n0 its0 r (i+1) n (its)
  else
   bif (tr x).snd != 0 then
    ((tr x).snd,n,its)
   else
    selA tr g q frs tb e t n0 its0 r (i+1) n (its)
theorem zun (tr:Rw->Bool × Int) (g:Rw->List V->Int × List V) (q:Qy) (frs:List Fr) (tb:List Tb) (e:X) (t:Tb) (n0:Nat) (its0:List V) (hfr:zac frs) (hrows:t.rows.length<=1000) (hn0:n0<=1000) (hi0:its0.length<=1000) (hgl:∀ (r:Rw) (its:List V),(g r its).2.length<=its.length+1000) (hT:∀ r∈t.rows,Pure S.AH [xsl q.wh,fsl (zar frs t r.vals),tsl tb] (.tup [bv (tr r).1,iv (tr r).2])) (hC:∀ r∈t.rows,∀ (n:Nat) (its:List V),n<=1000000->its.length<=2000000->zaa E0 S.Az [.agg (Rw.cells r),fsl (zar frs t r.vals),.p 0 0,.p 1 0,.p 2 0,.p 3 0,.p 4 0] (AH q tb e n its) (iv (g r its).1) (AH q tb e (n+1) (g r its).2)):∀ (kk i:Nat) (n:Nat) (its:List V),i+kk=(t.rows).length->(n<=n0+i)->(its.length<=its0.length+1000 * i)->Good E0 B.Ax (AH q tb e n0 its0) (L_selA tr g q frs tb e t n0 its0 i n its) (Shut 6 fun r h=>r=(iv (selA tr g q frs tb e t n0 its0 ((t.rows).drop i) i n its).1)/\h=(AH q tb e (selA tr g q frs tb e t n0 its0 ((t.rows).drop i) i n its).2.1 (selA tr g q frs tb e t n0 its0 ((t.rows).drop i) i n its).2.2)):=by
 intro kk
 induction kk with
 | zero =>
  intro i n its hi hn hi2
  have h0:decide (((i:Nat):Int) < (((t.rows.map Rw.cells).length:Nat):Int))=false:=by simp;omega
  have e0:(t.rows).drop i=[]:=List.drop_of_length_le Zo
  rw [e0]
  simp only [selA]
  refine zab ?_
  exact wkr [sb h0] kr
 | succ kk ih =>
  intro i n its hi hn hi2
  obtain ⟨x,hx⟩:=zaY (l:=t.rows) (i:=i) Zo
  have h0:decide (((i:Nat):Int) < (((t.rows.map Rw.cells).length:Nat):Int))=true:=by simp;omega
  have hw:=zaJ i (by first|omega|(simp only [zac,Few] at *;omega))
  have hTx:=hT x (List.mem_of_getElem? hx);have hCx:=hC x (List.mem_of_getElem? hx) n its Zo Zo
  rw [zap hx]
  simp only [selA]
  refine zab ?_
  let p_1:List St:=[sb h0,se (zaf Rw.cells hx rfl),sc (zg4 frs t x.vals (by first|assumption|omega|(simp;done)|(simp;omega))),sc hTx]
  cases h1:(tr x).snd==0
  ·cases h2:(tr x).snd != 0
   ·exact wkl (p_1++[sb h1,sb h2,si hw]) [1,2,3,4,9,26,27,28] 8 kr (ih (i+1) n its Zo zj6 zj6)
   ·exact wkr (p_1++[sb h1,sb h2]) kr
  ·cases h3:(tr x).fst
   ·cases h4:(tr x).snd != 0
    ·exact wkl (p_1++[sg h1,sb h3,sb h4,si hw]) [1,2,3,4,9,26,27,28] 8 kr (ih (i+1) n its Zo zj6 zj6)
    ·exact wkr (p_1++[sg h1,sb h3,sb h4]) kr
   ·let p_2:List St:=p_1++[sg h1,sb h3,sl [0,1,2,3,4,5] hCx]
    cases h5:(g x its).fst != 0
    ·exact wkl (p_2++[sb h5,si hw]) [1,2,3,4,9,26,27,28] 8 kr (ih (i+1) (n+1) ((g x its).snd) Zo zj6 zj6)
    ·exact wkr (p_2++[sb h5]) kr
theorem zh5 {p:Prop} (h:p:=by first|assumption|exact head0 ‹_›|exact len1 ‹_›):p:=h
def zoz (tr:Rw->Bool × Int) (g:Rw->List V->Int × List V) (q:Qy) (frs:List Fr) (tb:List Tb) (e:X) (t:Tb) (n0:Nat) (its0:List V):Int × Nat × (List V) :=
 selA tr g q frs tb e t n0 its0 t.rows 0 n0 (its0)
theorem zi9 (tr:Rw->Bool × Int) (g:Rw->List V->Int × List V) (q:Qy) (frs:List Fr) (tb:List Tb) (e:X) (t:Tb) (n0:Nat) (its0:List V) (hfind:Pure S.BT [tsl tb,sv q.frm] (.tup [t.av,bv true])) (hfr:zac frs) (hrows:t.rows.length<=1000) (hn0:n0<=1000) (hi0:its0.length<=1000) (hgl:∀ (r:Rw) (its:List V),(g r its).2.length<=its.length+1000) (hT:∀ r∈t.rows,Pure S.AH [xsl q.wh,fsl (zar frs t r.vals),tsl tb] (.tup [bv (tr r).1,iv (tr r).2])) (hC:∀ r∈t.rows,∀ (n:Nat) (its:List V),n<=1000000->its.length<=2000000->zaa E0 S.Az [.agg (Rw.cells r),fsl (zar frs t r.vals),.p 0 0,.p 1 0,.p 2 0,.p 3 0,.p 4 0] (AH q tb e n its) (iv (g r its).1) (AH q tb e (n+1) (g r its).2)):zaa E0 S.Ax [q.av,fsl frs,tsl tb,.fn S.Az [.p 0 0,.p 1 0,.p 2 0,.p 3 0,.p 4 0]] (AH q tb e n0 its0) (iv (zoz tr g q frs tb e t n0 its0).1) (AH q tb e (zoz tr g q frs tb e t n0 its0).2.1 (zoz tr g q frs tb e t n0 its0).2.2):=by
 unfold zoz
 exact wkc At.Ax [sc hfind,sb Zf] [1,2,3,4,9,26,27,28] 8 kr (zun tr g q frs tb e t n0 its0 hfr hrows hn0 hi0 hgl hT hC t.rows.length 0 n0 its0 Zs Zs Zs)
def zwy (q:Qy) (frs:List Fr) (tb:List Tb) (e:X) (n0:Nat) (its0:List V):Int × Nat × (List V) :=
 (3,n0,its0)
theorem zi8 (q:Qy) (frs:List Fr) (tb:List Tb) (e:X) (n0:Nat) (its0:List V) (hfind:Pure S.BT [tsl tb,sv q.frm] (.tup [Tb.zero.av,bv false])):zaa E0 S.Ax [q.av,fsl frs,tsl tb,.fn S.Az [.p 0 0,.p 1 0,.p 2 0,.p 3 0,.p 4 0]] (AH q tb e n0 its0) (iv (zwy q frs tb e n0 its0).1) (AH q tb e (zwy q frs tb e n0 its0).2.1 (zwy q frs tb e n0 its0).2.2):=by
 exact wk At.Ax [sc hfind,sb Zt] kr
noncomputable def zhC (e:X) (q:Qy) (frs:List Fr) (tb:List Tb):Cfg:=(upto (mk E0) (List.range 100) 6 3000 ⟨B.AY.ntmps,[.code (B.AY.body.getD .skip)],zb9 0 [e.av,fsl frs,tsl tb],[]⟩ [.el q.cells]).2
noncomputable def aggCfg (e:X) (q:Qy) (frs:List Fr) (tb:List Tb):Cfg:=cut (List.range 100) 7 ⟨(zhC e q frs tb).n,(zhC e q frs tb).todo,(zhC e q frs tb).ts,((zhC e q frs tb).h++[Blk.row Ty.Value [] false]).set 5 (.box (([AV.nl]:List AV).set 0 (.own (zhC e q frs tb).h.length 0)))⟩
theorem agg_to {e:X} {q:Qy} {frs:List Fr} {tb:List Tb} {R:AV->Heap->Prop} (hq:e.sub[0]?=some q) (hg:Good E0 B.AY [] (aggCfg e q frs tb) (Shut 0 R)):zbO E0 S.AY [e.av,fsl frs,tsl tb] [] R :=
 wkc (c':=zhC e q frs tb) At.AY [se (zaC hq)] (List.range 100) 6 kr
  (zf4 (cs:=[AV.nl]) 5 0 Ty.Value (List.range 100) 7 kr kr kr rfl hg)
theorem head0 {l:List V} (h:(((l.length:Nat):Int)==0)=false):l[0]?=some (l.headD V.null):=by
 cases l with
 | nil=>simp at h
 | cons x r=>rfl
theorem len1 {l:List V} (h:(((l.length:Nat):Int)==0)=false):decide ((((l.map V.cells).length:Nat):Int) < 1)=false:=by
 cases l with
 | nil=>simp at h
 | cons x r=>simp;omega
def eAgg (sel:Int × Nat × List V) (e:X):V × Int :=
 bif sel.1 != 0 then (V.null,sel.1)
 else bif e.kind==8 then (⟨2,if decide (0 < ((sel.2.1:Nat):Int)) then 1 else 0,⟨#[]⟩⟩,0)
 else bif e.kind==9 then (⟨1,(sel.2.1:Nat),⟨#[]⟩⟩,0)
 else bif ((sel.2.2.length:Nat):Int)==0 then (V.null,0)
 else bif e.kind==10 then eSum sel.2.2
 else bif e.kind==11 then (minV sel.2.2,0)
 else (maxV sel.2.2,0)
theorem c_agg (sel:Int × Nat × List V) (e:X) (q:Qy) (frs:List Fr) (tb:List Tb) (hq:e.sub[0]?=some q) (hlen:zac sel.2.2) (hsel:zaa E0 S.Ax [q.av,fsl frs,tsl tb,.fn S.Az [.p 0 0,.p 1 0,.p 2 0,.p 3 0,.p 4 0]] (AH q tb e 0 []) (iv sel.1) (AH q tb e sel.2.1 sel.2.2)):zaa E0 S.AY [e.av,fsl frs,tsl tb] [] (.tup [(eAgg sel e).1.av,iv (eAgg sel e).2]) []:=by
 refine agg_to hq ?_
 unfold eAgg
 cases h1:sel.fst != 0
 ·let p_1:List St:=[sl [4,3,1,0,5,6] hsel,sb h1]
  cases h2:e.kind==8
  ·cases h3:e.kind==9
   ·let p_2:List St:=p_1++[sb h2,sb h3,sqx (sel.snd.snd.length=(List.map V.cells sel.snd.snd).length)]
    cases h4:(sel.snd.snd.length:Int)==0
    ·cases h5:e.kind==10
     ·cases h6:e.kind==11
      ·exact wkr (p_2++[sb h4,sb h5,sb h6,skx (sel.snd.snd.length=(List.map V.cells sel.snd.snd).length/\True/\True) [] (zje sel.snd.snd zh5 zh5 zh5)]) kr
      ·exact wkr (p_2++[sb h4,sb h5,sb h6,skx (sel.snd.snd.length=(List.map V.cells sel.snd.snd).length/\True/\True) [] (zjf sel.snd.snd zh5 zh5 zh5)]) kr
     ·exact wkr (p_2++[sb h4,sb h5,skx (sel.snd.snd.length=(List.map V.cells sel.snd.snd).length/\True) [] (zpT sel.snd.snd zh5)]) kr
    ·exact wkr (p_2++[sb h4]) kr
   ·exact wkr (p_1++[sb h2,sb h3,sc (za6 ((sel.snd.fst:Int)))]) kr
  ·exact wkr (p_1++[sb h2,sc (zbH (decide (0 < (sel.snd.fst:Int))))]) kr
 ·exact wkr [sl [4,3,1,0,5,6] hsel,sb h1] kr
theorem zbp {p:Prop} (h:p:=by first|assumption|exact hfo.short|exact hfo.cols|exact hfo.wrap|exact zBJ ‹_›|exact zr2 ‹_›|(simp_all;done)|(simp at *;omega)):p:=h
theorem zkM (frs:List Fr) (q n:Str) (k:Nat) (f:Fr) (els:Int × Int × Bool):∀ (c:List Col) (j:Nat),zcG frs q n k f els c j=bif decide (0<=idxF (fun c=>colC c n) c j) then (pm1 (k+1),idxF (fun c=>colC c n) c j,true) else els
 | [],j=>by simp [zcG,idxF]
 | x::r,j=>by
  rcases Bool.eq_false_or_eq_true (x.name.toList==n.toList) with h|h
  ·simp [zcG,idxF,colC,h]
  ·have ih:=zkM frs q n k f els r (j+1)
   simp only [colC] at ih
   simp only [zcG,idxF,colC,h,cond_false]
   exact ih
theorem zvm (frs:List Fr) (q n:Str):∀ k,sres frs q n k=rres frs q n k
 | 0=>rfl
 | k+1=>by simp only [sres,rres,zkM,zvm frs q n k]
theorem zjn (frs:List Fr) (q n:Str):zb2 frs q n=zaM frs q n:=zvm frs q n _
theorem zsy (frs:List Fr) (q n:Str) (h:(!(zb2 frs q n).2.2)=false):ElAt (frs.map Fr.cells) (zb2 frs q n).1 (rFr frs q n).cells 4:=by
 rw [zjn] at h ⊢;exact zsx frs q n (by simpa using h)
theorem zBJ {frs:List Fr} {q n:Str} (h:(!(zb2 frs q n).2.2)=false):decide ((zb2 frs q n).2.1 < 0)=false:=by
 rw [zjn] at h ⊢
 obtain ⟨i,j,e,_⟩:=zjm (by simpa using h:(zaM frs q n).2.2=true)
 rw [e];simp
theorem zr2 {l:List V} {k:Int} (h:decide ((((l.map V.cells).length:Nat):Int)<=k)=false):k < l.length:=by simp at h;omega
noncomputable def zrm (f:X->V × Int) (op:List V->V × Int) (e:X) (frs:List Fr) (tb:List Tb) (i:Nat) (out:List V):Cfg:=zaj B.Ai 0 [(1,fsl frs),(2,tsl tb),(3,.p 0 0),(6,.p 1 0),(11,.own 2 out.length),(73,xsl e.args),(74,iv ((zad e.args).length:Nat)),(75,iv (i:Nat))] [.box e.cells,.box [iv 0,iv 0,sv ⟨#[]⟩],.row Ty.Value (out.map V.cells) false]
def evL (f:X->V × Int) (op:List V->V × Int) (e:X) (frs:List Fr) (tb:List Tb):List (X)->Nat->(List V)->V × Int
 | [],i,out =>
  ((op out).fst,(op out).snd)
 | x::r,i,out =>
  bif (f x).snd != 0 then
   (V.mk 0 0 Zs0,(f x).snd)
  else
   evL f op e frs tb r (i+1) (out++[(f x).fst])
theorem zwQ (f:X->V × Int) (op:List V->V × Int) (e:X) (frs:List Fr) (tb:List Tb) (hl:Few e.args) (hf:∀ x∈e.args,Pure S.Ai [x.av,fsl frs,tsl tb] (.tup [(f x).1.av,iv (f x).2])) (hfg:∀ x∈e.args,(f x).1.Good) (hop:∀ l:List V,l.length=e.args.length->(∀ v∈l,v.Good)->Pure S.Au [e.av,vsl l] (.tup [(op l).1.av,iv (op l).2])):∀ (kk i:Nat) (out:List V),i+kk=(e.args).length->(out.length=i)->(∀ v∈out,v.Good)->Good E0 B.Ai [] (zrm f op e frs tb i out) (Shut 0 fun r h=>r=(.tup [(evL f op e frs tb ((e.args).drop i) i out).1.av,iv (evL f op e frs tb ((e.args).drop i) i out).2])/\h=[]):=by
 intro kk
 induction kk with
 | zero =>
  intro i out hi ho hg
  have h0:decide (((i:Nat):Int) < (((zad e.args).length:Nat):Int))=false:=by simp;omega
  have e0:(e.args).drop i=[]:=List.drop_of_length_le Zo
  rw [e0]
  simp only [evL]
  refine zab ?_
  exact wkr [sb h0,skx ((True/\True/\True/\True/\True/\True/\True/\True/\True/\True/\True)/\out.length=(List.map V.cells out).length/\True) [] (hop out Zb Zb)] kr
 | succ kk ih =>
  intro i out hi ho hg
  obtain ⟨x,hx⟩:=zaY (l:=e.args) (i:=i) Zo
  have h0:decide (((i:Nat):Int) < (((zad e.args).length:Nat):Int))=true:=by simp;omega
  have hw:=zaJ i (by first|omega|(simp only [zac,Few] at *;omega))
  have hfx:=hf x (List.mem_of_getElem? hx);have hgx:=hfg x (List.mem_of_getElem? hx);have hlen:out.length<=1000:=by have:=zbY hx;simp only [Few] at hl;omega
  rw [zap hx]
  simp only [evL]
  refine zab ?_
  cases h1:(f x).snd != 0
  ·exact wkl [sb h0,se (zbr hx),sc hfx,sb h1,sqA (List.map V.cells out) [[iv (f x).fst.kind,iv (f x).fst.int,sv (f x).fst.text]] out.length 3 32,si hw] [1,2,3,6,11,73,74,75] 3 kr (zao 11 2 (List.map V.cells out++[[iv (f x).fst.kind,iv (f x).fst.int,sv (f x).fst.text]]) (ih (i+1) (out++[(f x).fst]) Zo (by first|assumption|(simp;omega)|exact fun v hv=>(List.mem_append.1 hv).elim (hg v) fun h=>by simp only [List.mem_singleton] at h;exact h ▸ hgx) (by first|assumption|(simp;omega)|exact fun v hv=>(List.mem_append.1 hv).elim (hg v) fun h=>by simp only [List.mem_singleton] at h;exact h ▸ hgx)) (he:=Zcv4) (hm:=Zcv4))
  ·exact wkr [sb h0,se (zbr hx),sc hfx,sb h1] kr
structure OpKind (e:X):Prop where
 fok:zcd e=true
 k1:e.kind≠1
 k2:e.kind≠2
 k8:¬(8<=e.kind/\e.kind<=12)
def valF (f:X->V × Int) (op:List V->V × Int) (agg:V × Int) (e:X) (frs:List Fr) (tb:List Tb):V × Int :=
 bif !zcd e then
  (V.mk 0 0 Zs0,17)
 else
  bif e.kind==1 then
   (e.val,0)
  else
   bif e.kind==2 then
    bif !(zb2 frs e.table e.name).snd.snd then
     (V.mk 0 0 Zs0,3)
    else
     bif decide ((↑(List.map V.cells (rFr frs e.table e.name).vals).length:Int)<=(zb2 frs e.table e.name).snd.fst) then
      (V.mk 0 0 Zs0,17)
     else
      (zaz (rFr frs e.table e.name).vals (zb2 frs e.table e.name).snd.fst,0)
   else
    bif e.kind==8 then
     (agg.fst,agg.snd)
    else
     bif e.kind==9 then
      (agg.fst,agg.snd)
     else
      bif e.kind==10 then
       (agg.fst,agg.snd)
      else
       bif e.kind==11 then
        (agg.fst,agg.snd)
       else
        bif e.kind==12 then
         (agg.fst,agg.snd)
        else
         evL f op e frs tb e.args 0 ([])
theorem zlu (f:X->V × Int) (op:List V->V × Int) (agg:V × Int) (e:X) (frs:List Fr) (tb:List Tb) (n:Nat) (hfo:FsOk n frs) (hl:Few e.args) (hf:∀ x∈e.args,Pure S.Ai [x.av,fsl frs,tsl tb] (.tup [(f x).1.av,iv (f x).2])) (hfg:∀ x∈e.args,(f x).1.Good) (hop:OpKind e->∀ l:List V,l.length=e.args.length->(∀ v∈l,v.Good)->Pure S.Au [e.av,vsl l] (.tup [(op l).1.av,iv (op l).2])) (hagg:zcd e=true->8<=e.kind->e.kind<=12->Pure S.AY [e.av,fsl frs,tsl tb] (.tup [agg.1.av,iv agg.2])):zaa E0 S.Ai [e.av,fsl frs,tsl tb] [] (.tup [(valF f op agg e frs tb).1.av,iv (valF f op agg e frs tb).2]) []:=by
 unfold valF
 cases h1:!zcd e
 ·cases h2:e.kind==1
  ·cases h3:e.kind==2
   ·cases h4:e.kind==8
    ·cases h5:e.kind==9
     ·cases h6:e.kind==10
      ·cases h7:e.kind==11
       ·cases h8:e.kind==12
        ·exact wkc At.Ai (c':=(Cfg.mk (zrm f op e frs tb 0 []).n (zrm f op e frs tb 0 []).todo [(1,fsl frs),(2,tsl tb),(3,AV.p 0 0),(6,AV.p 1 0),(11,AV.nl),(73,AV.sl (zad e.args)),(74,iv (↑(zad e.args).length:Int)),(75,iv 0)] [Blk.box e.cells,Blk.box [iv 0,iv 0,sv Zs0]])) [sc (zbt e),sb h1,sb h2,sb h3,sb h4,sb h5,sb h6,sb h7,sb h8] [1,2,3,6,11,73,74,75] 2 kr (znz (c':=zrm f op e frs tb 0 []) 11 Ty.Value [1,2,3,6,11,73,74,75] 3 kr kr kr (zwQ f op e frs tb hl hf hfg (hop ⟨by simpa using h1,by simpa using h2,by simpa using h3,by simp at *;omega⟩) e.args.length 0 ([]) Zs Zs Zs))
        ·exact wk At.Ai [sc (zbt e),sb h1,sb h2,sb h3,sb h4,sb h5,sb h6,sb h7,sb h8,sc (hagg zbp zbp zbp)] kr
       ·exact wk At.Ai [sc (zbt e),sb h1,sb h2,sb h3,sb h4,sb h5,sb h6,sb h7,sc (hagg zbp zbp zbp)] kr
      ·exact wk At.Ai [sc (zbt e),sb h1,sb h2,sb h3,sb h4,sb h5,sb h6,sc (hagg zbp zbp zbp)] kr
     ·exact wk At.Ai [sc (zbt e),sb h1,sb h2,sb h3,sb h4,sb h5,sc (hagg zbp zbp zbp)] kr
    ·exact wk At.Ai [sc (zbt e),sb h1,sb h2,sb h3,sb h4,sc (hagg zbp zbp zbp)] kr
   ·cases h9:!(zb2 frs e.table e.name).snd.snd
    ·cases h10:decide ((↑(List.map V.cells (rFr frs e.table e.name).vals).length:Int)<=(zb2 frs e.table e.name).snd.fst)
     ·exact wk At.Ai [sc (zbt e),sb h1,sb h2,sb h3,sc (zfk frs e.table e.name zbp zbp zbp),sb h9,se (zsy frs e.table e.name zbp),sb h10,se (zsy frs e.table e.name zbp),se (zeo ((rFr frs e.table e.name).vals) ((zb2 frs e.table e.name).snd.fst) zbp zbp)] kr
     ·exact wk At.Ai [sc (zbt e),sb h1,sb h2,sb h3,sc (zfk frs e.table e.name zbp zbp zbp),sb h9,se (zsy frs e.table e.name zbp),sb h10] kr
    ·exact wk At.Ai [sc (zbt e),sb h1,sb h2,sb h3,sc (zfk frs e.table e.name zbp zbp zbp),sb h9] kr
  ·exact wk At.Ai [sc (zbt e),sb h1,sb h2] kr
 ·exact wk At.Ai [sc (zbt e),sb h1] kr
theorem zdv {k o:Int} {xs:List X} (h:zeV k o xs=true):((k=1\/k=2)/\xs.length=0)\/((k=3\/k=4\/k=6)/\xs.length=1)\/(k=5/\xs.length=2/\1<=o/\o<=13)\/(k=7/\xs.length=3):=by
 simp only [zeV,Bool.cond_eq_ite,zbP] at h
 simp at h
 repeat' split at h
 all_goals simp_all
 all_goals omega
theorem zeC {k o:Int} {xs:List X} {qs:List Qy} {it wh:List X} (hq:qs≠[]) (h:zeW k o xs qs it wh=true):xs.length=0/\qs.length=1/\wh.length<=1/\(((k=8\/k=9)/\it.length=0)\/((k=10\/k=11\/k=12)/\it.length=1)):=by
 simp only [zeW,Bool.cond_eq_ite,zbP,zex] at h
 simp [hq] at h
 obtain ⟨h1,h2,h3,h4,h5,h6,h7,h⟩:=h
 repeat' split at h
 all_goals simp_all
 all_goals omega
def eOp (e:X) (l:List V):V × Int:=match l with
 | [a]=>if e.kind=6 then zkG e.op e.not a else if e.kind=3 then zrB e.op e.not a else zrA e.op e.not a
 | [a,b]=>ziP e.op e.not a b
 | [a,b,c]=>zm7 e.op e.not a b c
 | _=>(V.null,0)
theorem OpKind.cases {e:X} (h:OpKind e):e.sub=[]/\(((e.kind=3\/e.kind=4\/e.kind=6)/\e.args.length=1)\/(e.kind=5/\e.args.length=2/\1<=e.op/\e.op<=13)\/(e.kind=7/\e.args.length=3)):=by
 have hf:=h.fok
 have k1:=h.k1
 have k2:=h.k2
 have k8:=h.k8
 unfold zcd at hf
 cases hs:e.sub with
 | nil =>
  rw [hs] at hf
  have:=zdv hf
  refine ⟨rfl,?_⟩
  omega
 | cons q r =>
  rw [hs] at hf
  have:=(zeC Zs hf).2.2.2
  omega
theorem ztW (e:X) (h:OpKind e) (l:List V) (hl:l.length=e.args.length) (hg:∀ v∈l,v.Good):Pure S.Au [e.av,vsl l] (.tup [(eOp e l).1.av,iv (eOp e l).2]):=by
 obtain ⟨hs,hk⟩:=h.cases
 cases e with
 | mk k o nt val tn nm xs qs =>
  simp only [X.sub_mk,X.kind_mk,X.op_mk,X.args_mk] at hs hk hl
  subst hs
  match l,hl,hg with
  | [],hl,_=>simp at hl;omega
  | [a],hl,hg =>
   have ha:=(hg a Zs).small
   simp only [List.length_cons,List.length_nil] at hl
   have:k=3\/k=4\/k=6:=by omega
   rcases this with rfl|rfl|rfl
   ·exact zhi o nt a val tn nm xs [] ha
   ·exact zhh o nt a val tn nm xs []
   ·exact zf7 o nt a val tn nm xs []
  | [a,b],hl,hg =>
   simp only [List.length_cons,List.length_nil] at hl
   obtain ⟨rfl,ho⟩:k=5/\1<=o/\o<=13:=by omega
   exact zhg o nt a b val tn nm xs [] (hg a Zs).small (hg b Zs).small ho
  | [a,b,c],hl,hg =>
   simp only [List.length_cons,List.length_nil] at hl
   obtain rfl:k=7:=by omega
   exact zhf o nt a b c val tn nm xs []
  | a::b::c::d::r,hl,_=>simp only [List.length_cons] at hl;omega
def rowI (f:X->V × Int) (k:Int):List X->List V->Int × List V
 | [],its=>(0,its)
 | x::r,its=>bif (f x).2 != 0 then ((f x).2,its) else bif (f x).1.kind==0 then rowI f k r its else bif k==10&&(f x).1.kind != 1 then (5,its) else rowI f k r (its++[(f x).1])
theorem zuM (f:X->V × Int) (q:Qy) (w:List Fr) (tb:List Tb) (e:X) (n:Nat) (its0:List V):∀ (l:List X) (i:Nat) (its:List V),aggI f q w tb e n its0 l i its=rowI f e.kind l its
 | [],_,_=>rfl
 | x::r,i,its=>by
  simp only [aggI,rowI,zuM f q w tb e n its0 r]
  cases (f x).2 != 0 <;> cases (f x).1.kind==0 <;> cases e.kind==10 <;> simp
theorem zkL (f:X->V × Int) (k:Int):∀ (l:List X) (its:List V),(rowI f k l its).2.length<=its.length+l.length
 | [],its=>by simp [rowI]
 | x::r,its=>by
  have h1:=zkL f k r its
  have h2:=zkL f k r (its++[(f x).1])
  simp only [List.length_append,List.length_cons,List.length_nil] at h2
  simp only [rowI,Bool.cond_eq_ite,List.length_cons]
  repeat' split
  all_goals (try simp only);omega
theorem zkK {P:V->Prop} (f:X->V × Int) (k:Int):∀ (l:List X) (its:List V),(∀ x∈l,P (f x).1)->(∀ v∈its,P v)->∀ v∈(rowI f k l its).2,P v
 | [],its,_,h=>h
 | x::r,its,hx,h=>by
  simp only [rowI,Bool.cond_eq_ite]
  have hr:∀ y∈r,P (f y).1:=fun y hy=>hx y (by simp [hy])
  repeat' split
  ·exact h
  ·exact zkK f k r its hr h
  ·exact h
  ·exact zkK f k r _ hr fun v hv=>(List.mem_append.1 hv).elim (h v) fun hv=>by simp only [List.mem_singleton] at hv;exact hv ▸ hx x Zs
def selR (tr:Rw->Bool × Int) (g:Rw->List V->Int × List V):List Rw->Nat->List V->Int × Nat × List V
 | [],n,its=>(0,n,its)
 | r::l,n,its=>bif (tr r).2 != 0 then ((tr r).2,n,its) else bif (tr r).1 then (bif (g r its).1 != 0 then ((g r its).1,n+1,(g r its).2) else selR tr g l (n+1) (g r its).2) else selR tr g l n its
theorem zvh (tr:Rw->Bool × Int) (g:Rw->List V->Int × List V) (q:Qy) (frs:List Fr) (tb:List Tb) (e:X) (t:Tb) (n0:Nat) (its0:List V):∀ (l:List Rw) (i n:Nat) (its:List V),selA tr g q frs tb e t n0 its0 l i n its=selR tr g l n its
 | [],_,_,_=>rfl
 | r::l,i,n,its=>by
  simp only [selA,selR,zvh tr g q frs tb e t n0 its0 l,bne]
  cases (tr r).2==0 <;> cases (tr r).1 <;> simp
theorem zn3 (tr:Rw->Bool × Int) (g:Rw->List V->Int × List V) (m:Nat) (hg:∀ r its,(g r its).2.length<=its.length+m):∀ (l:List Rw) (n:Nat) (its:List V),(selR tr g l n its).2.2.length<=its.length+m * l.length
 | [],n,its=>by simp [selR]
 | r::l,n,its=>by
  have h1:=zn3 tr g m hg l n its
  have h2:=zn3 tr g m hg l (n+1) (g r its).2
  have h3:=hg r its
  simp only [selR,Bool.cond_eq_ite,List.length_cons,Nat.mul_add]
  repeat' split
  all_goals (try simp only);omega
theorem zkZ {P:V->Prop} (tr:Rw->Bool × Int) (g:Rw->List V->Int × List V):∀ (l:List Rw) (n:Nat) (its:List V),(∀ r∈l,∀ its,(∀ v∈its,P v)->∀ v∈(g r its).2,P v)->(∀ v∈its,P v)->∀ v∈(selR tr g l n its).2.2,P v
 | [],n,its,_,h=>h
 | r::l,n,its,hg,h=>by
  have hl:∀ r∈l,∀ its,(∀ v∈its,P v)->∀ v∈(g r its).2,P v:=fun y hy=>hg y (by simp [hy])
  simp only [selR,Bool.cond_eq_ite]
  repeat' split
  ·exact h
  ·exact hg r Zs its h
  ·exact zkZ tr g l _ _ hl (hg r Zs its h)
  ·exact zkZ tr g l _ _ hl h
def zba (f:X->V × Int):List X->Bool × Int
 | []=>zoA
 | x::_=>zhO f x
def zeA (F:List Fr->X->V × Int) (e:X) (frs:List Fr) (tb:List Tb):V × Int:=match e.sub with
 | []=>(V.null,0)
 | q::_=>match zaK tb q.frm with
  | none=>eAgg (3,0,[]) e
  | some t=>eAgg (selR (fun r=>zba (F (zar frs t r.vals)) q.wh) (fun r its=>rowI (F (zar frs t r.vals)) e.kind q.items its) t.rows 0 []) e
def eval:Nat->X->List Fr->List Tb->V × Int
 | 0,_,_,_=>(V.null,0)
 | n+1,e,frs,tb=>valF (fun x=>eval n x frs tb) (eOp e) (zeA (fun w x=>eval n x w tb) e frs tb) e frs tb
/- ### values are valid -/
theorem zlV (c:Bool):V.Good ⟨2,if c=true then 1 else 0,⟨#[]⟩⟩:=by
 cases c
 ·exact zeX (n:=0) Zd
 ·exact zeX (n:=1) Zd
theorem gc1 {α:Type} (c:Bool) {a b:V × α} (ha:a.1.Good) (hb:b.1.Good):(bif c then a else b).1.Good:=by cases c <;> assumption
theorem gc0 (c:Bool) {a b:V} (ha:a.Good) (hb:b.Good):(bif c then a else b).Good:=by cases c <;> assumption
theorem ic1 (c:Bool) {a b:Int × Bool} (ha:I64 a.1) (hb:I64 b.1):I64 (bif c then a else b).1:=by cases c <;> assumption
theorem zqK (op:Int) (a b:V):(vCmp op a b).1.Good:=by
 unfold vCmp;repeat' (first|apply gc1|exact zaH|exact zlV _)
theorem zoU (a b:V):(zeG a b).Good:=by
 unfold zeG;repeat' (first|apply gc0|exact zaH|exact zlV _)
theorem zqu (a b:V):(land a b).1.Good:=by
 unfold land;repeat' (first|apply gc1|exact zaH|exact zoU _ _)
theorem zqx (a:V) (ha:a.Good):(lnot a).1.Good:=by
 unfold lnot;repeat' (first|apply gc1|exact zaH|exact ha|exact zlV _)
theorem zz2 (a b:V):(lor a b).1.Good:=by
 unfold lor;repeat' (first|exact zqx _ (zoU _ _)|exact zaH|apply gc1)
theorem zgz (v:V) (ok:Bool) (h:v.Good):(zdk v ok).1.Good:=by
 unfold zdk;repeat' (first|apply gc1|exact zaH|exact h)
theorem aAdd_i (a b:Int):I64 (aAdd a b).1:=by
 unfold aAdd;repeat' (first|apply ic1|exact zda _|exact ⟨by decide,by decide⟩)
theorem aSub_i (a b:Int):I64 (aSub a b).1:=by
 unfold aSub;repeat' (first|apply ic1|exact zda _|exact ⟨by decide,by decide⟩)
theorem aMul_i (a b:Int):I64 (aMul a b).1:=by
 unfold aMul;repeat' (first|apply ic1|exact zda _|exact ⟨by decide,by decide⟩)
theorem aDiv_i (a b:Int):I64 (aDiv a b).1:=by
 unfold aDiv;repeat' (first|apply ic1|exact zda _|exact ⟨by decide,by decide⟩)
theorem aMod_i (a b:Int) (ha:I64 a):I64 (aMod a b).1:=by
 have h:I64 (a.tmod b):=by
  have h0:=Int.natAbs_tmod a b
  have h1:=Nat.mod_le a.natAbs b.natAbs
  have h2:a < 0->a.tmod b<=0:=fun h=>by
   have h3:=Int.tmod_nonneg b (show 0<=-a by omega)
   rw [Int.neg_tmod] at h3;omega
  simp only [I64] at *
  omega
 unfold aMod;repeat' (first|apply ic1|exact h|exact ⟨by decide,by decide⟩)
theorem znJ (op:Int) (a b:V) (ha:a.Good):(zcu op a b).1.Good:=by
 unfold zcu
 repeat' (first|apply gc1|exact zaH|exact zbG (aAdd_i _ _)|exact zbG (aSub_i _ _)|exact zbG (aMul_i _ _)|exact zbG (aDiv_i _ _)|exact zbG (aMod_i _ _ ha.i64)|exact zbG ⟨by decide,by decide⟩)
theorem zzI (e:X) (l:List V) (hg:∀ v∈l,v.Good):(eOp e l).1.Good:=by
 match l,hg with
 | [],_=>exact zaH
 | [a],hg =>
  have ha:=hg a Zs
  simp only [eOp]
  split
  ·exact zlV _
  split
  ·exact zgz _ _ (zqx _ ha)
  ·exact znJ _ _ _ (zbG ⟨by decide,by decide⟩)
 | [a,b],hg =>
  have ha:=hg a Zs
  simp only [eOp,ziP]
  repeat' (first|exact zgz _ _ (zqu _ _)|exact zgz _ _ (zz2 _ _)|exact zqK _ _ _|exact znJ _ _ _ ha|apply gc1)
 | [a,b,c],hg =>
  simp only [eOp,zm7,zeS]
  repeat' (first|exact zaH|exact zgz _ _ (zqu _ _)|apply gc1)
 | a::b::c::d::r,_=>exact zaH
theorem zn1 {P:V->Prop} (l0:List V):∀ (l:List V) (i:Nat) (m:V),(∀ v∈l,P v)->P m->P (minL l0 l i m)
 | [],_,_,_,h=>h
 | x::r,i,m,hl,h=>by
  simp only [minL,Bool.cond_eq_ite]
  split
  ·exact zn1 l0 r _ _ (fun v hv=>hl v (by simp [hv])) (hl x Zs)
  ·exact zn1 l0 r _ _ (fun v hv=>hl v (by simp [hv])) h
theorem zn0 {P:V->Prop} (l0:List V):∀ (l:List V) (i:Nat) (m:V),(∀ v∈l,P v)->P m->P (maxL l0 l i m)
 | [],_,_,_,h=>h
 | x::r,i,m,hl,h=>by
  simp only [maxL,Bool.cond_eq_ite]
  split
  ·exact zn0 l0 r _ _ (fun v hv=>hl v (by simp [hv])) (hl x Zs)
  ·exact zn0 l0 r _ _ (fun v hv=>hl v (by simp [hv])) h
theorem zz4 {P:V->Prop} {l:List V} (h:∀ v∈l,P v) (h0:P V.null):P (minV l) :=
 zn1 l _ _ _ (fun v hv=>h v (List.mem_of_mem_drop hv)) (by cases l with|nil=>exact h0|cons x r=>exact h x Zs)
theorem zz3 {P:V->Prop} {l:List V} (h:∀ v∈l,P v) (h0:P V.null):P (maxV l) :=
 zn0 l _ _ _ (fun v hv=>h v (List.mem_of_mem_drop hv)) (by cases l with|nil=>exact h0|cons x r=>exact h x Zs)
theorem zy7 (l0:List Int):∀ (l:List Int) (i:Nat) (a b:Int),I64 (sumL l0 l i a b).1
 | [],i,a,b=>by
  simp only [sumL]
  repeat' (first|apply ic1|exact zda _|exact ⟨by decide,by decide⟩)
 | x::r,i,a,b=>by simp only [sumL];exact zy7 l0 r _ _ _
theorem zsz (its:List V):∀ (c:List V) (i:Nat) (l:List Int),zhc its c i l=bif !(aSum (l++c.map V.int)).2 then (V.null,6) else (⟨1,(aSum (l++c.map V.int)).1,⟨#[]⟩⟩,0)
 | [],i,l=>by simp [zhc,V.null]
 | x::r,i,l=>by simp only [zhc,List.map_cons];rw [zsz its r];simp
theorem zpM (its:List V):eSum its=bif !(aSum (its.map V.int)).2 then (V.null,6) else (⟨1,(aSum (its.map V.int)).1,⟨#[]⟩⟩,0):=by
 unfold eSum;rw [zsz];simp
theorem zyg (its:List V):(eSum its).1.Good:=by
 rw [zpM]
 exact gc1 _ zaH (zbG (zy7 _ _ _ _ _))
theorem zqi (sel:Int × Nat × List V) (e:X) (hn:sel.2.1<=1000000) (h:∀ v∈sel.2.2,v.Good):(eAgg sel e).1.Good:=by
 unfold eAgg
 have hb:V.Good ⟨2,if decide (0 < ((sel.2.1:Nat):Int)) then 1 else 0,⟨#[]⟩⟩:=zlV _
 repeat' (first|exact zaH|exact hb|exact zbG ⟨by omega,by omega⟩|exact zyg _|exact zz4 h zaH|exact zz3 h zaH|apply gc1)
theorem ztA (tr:Rw->Bool × Int) (g:Rw->List V->Int × List V):∀ (l:List Rw) (n:Nat) (its:List V),(selR tr g l n its).2.1<=n+l.length
 | [],n,its=>by simp [selR]
 | r::l,n,its=>by
  have h1:=ztA tr g l n its
  have h2:=ztA tr g l (n+1) (g r its).2
  simp only [selR,Bool.cond_eq_ite,List.length_cons]
  repeat' split
  all_goals (try simp only);omega
abbrev FsG (frs:List Fr):Prop:=∀ f∈frs,∀ v∈f.vals,v.Good
structure TbG (tb:List Tb):Prop where
 vals:∀ x∈tb,∀ r∈x.rows,∀ v∈r.vals,v.Good
 rows:∀ x∈tb,x.rows.length<=1000
theorem FsG.ins {frs:List Fr} (h:FsG frs) {t:Tb} {v:List V} (hv:∀ x∈v,x.Good):FsG (zar frs t v):=fun f hf=>by
 simp only [zar,List.mem_append,List.mem_singleton] at hf
 rcases hf with hf|rfl
 ·exact h f hf
 ·exact hv
theorem zcR {tb:List Tb} {n:Str} {t:Tb} (h:zaK tb n=some t):t∈tb:=List.mem_of_find?_eq_some h
theorem zwB {F:List Fr->X->V × Int} {n:Nat} {e:X} {frs:List Fr} {tb:List Tb} (he:XOk (n+1) e) (hf:FsG frs) (ht:TbG tb) (hF:∀ w x,XOk n x->FsG w->(F w x).1.Good):(zeA F e frs tb).1.Good:=by
 unfold zeA
 split
 ·exact zaH
 ·rename_i q r hs
  obtain ⟨_,_,_,hsub⟩:=he
  obtain ⟨h1,h2,h3⟩:=hsub q (by rw [hs];simp)
  split
  ·exact zqi _ _ Zs (fun v hv=>by cases hv)
  ·rename_i t hfd
   have htm:=zcR hfd
   refine zqi _ _ ?_ ?_
   ·have:=ztA (fun r=>zba (F (zar frs t r.vals)) q.wh) (fun r its=>rowI (F (zar frs t r.vals)) e.kind q.items its) t.rows 0 []
    have:=ht.rows t htm
    omega
   ·refine zkZ _ _ _ _ _ (fun r hr its hi=>zkK _ _ _ _ (fun x hx=>hF _ x (h2 x hx) (hf.ins (ht.vals t htm r hr))) hi) (fun v hv=>by cases hv)
theorem zsA (f:X->V × Int) (op:List V->V × Int) (e:X) (frs:List Fr) (tb:List Tb) (hop:∀ l,(∀ v∈l,v.Good)->(op l).1.Good):∀ (l:List X) (i:Nat) (out:List V),(∀ x∈l,(f x).1.Good)->(∀ v∈out,v.Good)->(evL f op e frs tb l i out).1.Good
 | [],i,out,_,h=>hop out h
 | x::r,i,out,hl,h=>by
  simp only [evL]
  exact gc1 _ zaH (zsA f op e frs tb hop r _ _ (fun y hy=>hl y (by simp [hy])) fun v hv=>(List.mem_append.1 hv).elim (h v) fun h=>by simp only [List.mem_singleton] at h;exact h ▸ hl x Zs)
theorem zzf {P:V->Prop} {l:List V} (h:∀ v∈l,P v) (h0:P V.null) (k:Int):P (zaz l k):=by
 unfold zaz
 rw [List.getD_eq_getElem?_getD]
 cases hk:l[k.toNat]? with
 | none=>exact h0
 | some v=>exact h v (List.mem_of_getElem? hk)
theorem zBC (frs:List Fr) (q n:Str):rFr frs q n∈frs\/rFr frs q n=zaR:=by
 unfold rFr
 rw [List.getD_eq_getElem?_getD]
 cases hk:frs[(zaM frs q n).1.toNat]? with
 | none=>exact .inr rfl
 | some v=>exact .inl (List.mem_of_getElem? hk)
theorem zbA:∀ (n:Nat) (e:X) (frs:List Fr) (tb:List Tb),XOk n e->FsG frs->TbG tb->(eval n e frs tb).1.Good
 | 0,e,frs,tb,h,_,_=>h.elim
 | n+1,e,frs,tb,h,hf,ht=>by
  have hA:=zwB (F:=fun w x=>eval n x w tb) h hf ht (fun w x hx hw=>zbA n x w tb hx hw ht)
  obtain ⟨h1,h2,h3,h4⟩:=h
  have hv:∀ v∈(rFr frs e.table e.name).vals,v.Good:=by
   rcases zBC frs e.table e.name with h|h
   ·exact hf _ h
   ·rw [h];intro v hv;cases hv
  simp only [eval,valF]
  repeat' (first|exact zaH|exact h1|exact hA|exact zzf hv zaH _|exact zsA _ _ _ _ _ (fun l hl=>zzI e l hl) _ _ _ (fun x hx=>zbA n x frs tb (h3 x hx) hf ht) (fun v hv=>by cases hv)|apply gc1)
theorem FsOk.eins {n:Nat} {frs:List Fr} (h:FsOk (n+1) frs) {t:Tb} (hc:zac t.sch.cols) {v:List V} (hv:∀ x∈v,x.Good):FsOk n (zar frs t v):=by
 refine ⟨by have:=h.len;simp [zar];omega,fun f hf=>?_,fun f hf=>?_⟩
 ·simp only [zar,List.mem_append,List.mem_singleton] at hf
  rcases hf with hf|rfl
  ·exact h.cols f hf
  ·exact hc
 ·simp only [zar,List.mem_append,List.mem_singleton] at hf
  rcases hf with hf|rfl
  ·exact h.vals f hf
  ·exact fun x hx=>(hv x hx).small
theorem zlF {f:X->V × Int} {wh:List X} {frs:List Fr} {tb:List Tb} (hf:∀ x∈wh,Pure S.Ai [x.av,fsl frs,tsl tb] (.tup [(f x).1.av,iv (f x).2])) (hg:∀ x∈wh,(f x).1.Good):Pure S.AH [xsl wh,fsl frs,tsl tb] (.tup [bv (zba f wh).1,iv (zba f wh).2]):=by
 cases wh with
 | nil=>exact zl5 frs tb
 | cons x r=>exact zl6 f x r frs tb (hf x Zs) (hg x Zs).small
theorem zwD {e:X} (h:zcd e=true) (h8:8<=e.kind) (h12:e.kind<=12):∃ q,e.sub=[q]:=by
 unfold zcd at h
 cases hs:e.sub with
 | nil=>rw [hs] at h;have:=zdv h;omega
 | cons q r =>
  rw [hs] at h
  have:=(zeC Zs h).2.1
  cases r with
  | nil=>exact ⟨q,rfl⟩
  | cons x y=>simp at this
theorem zwl {F:List Fr->X->V × Int} {n:Nat} {q:Qy} {frs:List Fr} {tb:List Tb} {e:X} {t:Tb} (hfd:zaK tb q.frm=some t) (hfo:FsOk (n+1) frs) (hto:TbOk tb) (hfg:FsG frs) (htg:TbG tb) (hi:Few q.items)
  (hF:∀ w,FsOk n w->FsG w->∀ x,(x∈q.items\/x∈q.wh)->Pure S.Ai [x.av,fsl w,tsl tb] (.tup [(F w x).1.av,iv (F w x).2])/\(F w x).1.Good) :
  zaa E0 S.Ax [q.av,fsl frs,tsl tb,.fn S.Az [.p 0 0,.p 1 0,.p 2 0,.p 3 0,.p 4 0]] (AH q tb e 0 [])
   (iv (selR (fun r=>zba (F (zar frs t r.vals)) q.wh) (fun r its=>rowI (F (zar frs t r.vals)) e.kind q.items its) t.rows 0 []).1)
   (AH q tb e (selR (fun r=>zba (F (zar frs t r.vals)) q.wh) (fun r its=>rowI (F (zar frs t r.vals)) e.kind q.items its) t.rows 0 []).2.1 (selR (fun r=>zba (F (zar frs t r.vals)) q.wh) (fun r its=>rowI (F (zar frs t r.vals)) e.kind q.items its) t.rows 0 []).2.2):=by
 have htm:=zcR hfd
 have hin:∀ r∈t.rows,FsOk n (zar frs t r.vals)/\FsG (zar frs t r.vals):=fun r hr=>⟨hfo.eins (hto.cols t htm) (htg.vals t htm r hr),hfg.ins (htg.vals t htm r hr)⟩
 have h:=zi9 (fun r=>zba (F (zar frs t r.vals)) q.wh) (fun r its=>rowI (F (zar frs t r.vals)) e.kind q.items its) q frs tb e t 0 [] (zgJ tb q.frm hto.len t hfd) hfo.short (hto.rows t htm) Zs Zs
  (fun r its=>by have:=zkL (F (zar frs t r.vals)) e.kind q.items its;simp only [Few] at hi;omega)
  (fun r hr=>zlF (fun x hx=>(hF _ (hin r hr).1 (hin r hr).2 x (.inr hx)).1) (fun x hx=>(hF _ (hin r hr).1 (hin r hr).2 x (.inr hx)).2))
  (fun r hr n its hn hl=>by
   have h:=zis (F (zar frs t r.vals)) q (zar frs t r.vals) tb e n its r hi hl (by rw [IntKind.wrap_i64];omega) (fun x hx=>(hF _ (hin r hr).1 (hin r hr).2 x (.inl hx)).1)
   simp only [aggC,zuM] at h
   exact h)
 simp only [zoz,zvh] at h
 exact h
theorem ztS {F:List Fr->X->V × Int} {n:Nat} {e:X} {frs:List Fr} {tb:List Tb} (he:XOk (n+1) e) (hs:∃ q,e.sub=[q]) (hfo:FsOk (n+1) frs) (hto:TbOk tb) (hfg:FsG frs) (htg:TbG tb)
  (hF:∀ w,FsOk n w->FsG w->∀ x,XOk n x->Pure S.Ai [x.av,fsl w,tsl tb] (.tup [(F w x).1.av,iv (F w x).2])/\(F w x).1.Good):Pure S.AY [e.av,fsl frs,tsl tb] (.tup [(zeA F e frs tb).1.av,iv (zeA F e frs tb).2]):=by
 obtain ⟨q,hq⟩:=hs
 obtain ⟨_,_,_,h4⟩:=he
 obtain ⟨h5,h6,h7⟩:=h4 q (by rw [hq];simp)
 have hq0:e.sub[0]?=some q:=by rw [hq];rfl
 unfold zeA
 rw [hq]
 simp only
 cases hfd:zaK tb q.frm with
 | none=>exact c_agg (3,0,[]) e q frs tb hq0 Zs (zi8 q frs tb e 0 [] (zgI tb q.frm hto.len hfd))
 | some t =>
  have htm:=zcR hfd
  refine c_agg _ e q frs tb hq0 ?_ (zwl hfd hfo hto hfg htg h5.1.few fun w hw hg x hx=>hF w hw hg x (hx.elim (h6 x) (h7 x)))
  have hl:=zn3 (fun r=>zba (F (zar frs t r.vals)) q.wh) (fun r its=>rowI (F (zar frs t r.vals)) e.kind q.items its) 1000 (fun r its=>by have:=zkL (F (zar frs t r.vals)) e.kind q.items its;simp only [Thin] at h5;omega) t.rows 0 []
  have hr:=hto.rows t htm
  simp only [zac]
  simp only [List.length_nil] at hl
  have:1000 * t.rows.length<=1000 * 1000:=Nat.mul_le_mul_left _ hr
  omega
theorem zdz:∀ (n:Nat) (e:X) (frs:List Fr) (tb:List Tb),XOk n e->FsOk n frs->FsG frs->TbOk tb->TbG tb->Pure S.Ai [e.av,fsl frs,tsl tb] (.tup [(eval n e frs tb).1.av,iv (eval n e frs tb).2])
 | 0,e,frs,tb,h,_,_,_,_=>h.elim
 | n+1,e,frs,tb,h,hf,hg,ht,htg=>by
  have hA:=@ztS (fun w x=>eval n x w tb) n e frs tb h
  obtain ⟨_,h2,h3,_⟩:=id h
  exact zlu (fun x=>eval n x frs tb) (eOp e) (zeA (fun w x=>eval n x w tb) e frs tb) e frs tb (n+1) hf h2.1.few (fun x hx=>zdz n x frs tb (h3 x hx) hf.less hg ht htg) (fun x hx=>zbA n x frs tb (h3 x hx) hg htg)
   (fun ho l hl hl2=>ztW e ho l hl hl2)
   (fun hfm h8 h12=>hA (zwD hfm h8 h12) hf ht hg htg fun w hw hwg x hx=>⟨zdz n x w tb hx hw hwg ht htg,zbA n x w tb hx hwg htg⟩)
noncomputable def clCV (l:List V):Cfg:=(upto (mk E0) (List.range 40) 0 3000 ⟨B.AB.ntmps,[.code (B.AB.body.getD .skip)],zb9 0 [vsl l],[]⟩ []).2
theorem zzF (l:List V) (hl:zac l):Good E0 B.AB [] (zbC (clCV l) false) (fun r h=>r=.own 0 l.length/\h=[.row Ty.Value (l.map V.cells) false]):=by
 exact zcD E0ok mix0 3000 (y:=AV.own 0 (List.map V.cells l).length) (H:=[Blk.row Ty.Value (List.map V.cells l) false]) [sb Zf,sqx (AllLen (List.map V.cells l) 3/\((List.map V.cells l).length * 32).le 140737488355328)] kr (⟨by simp,rfl⟩)
theorem zzG:Good E0 B.AB [] (zbC (clCV []) true) (fun r h=>r=.nl/\h=[]):=by
 exact zcD E0ok mix0 3000 (y:=AV.nl) (H:=[]) [sb Zt] kr (⟨rfl,rfl⟩)
theorem za1 (l:List V) (hl:zac l):zaa E0 S.AB [vsl l] [] (.own 0 l.length) [.row Ty.Value (l.map V.cells) false]:=by
 refine zaV At.AB rfl kr (Nat.le_of_ble_eq_true kr) (zcK E0ok mix0 3000 [] (List.range 40) 0 (c':=clCV l) kr kr (zeP E0ok (xs:=l.map V.cells) (e:=true) kr fun b hb=>?_))
 cases b with
 | false=>exact zzF l hl
 | true =>
  cases l with
  | nil=>exact zcS Ty.Value zzG ⟨rfl,rfl⟩
  | cons x r=>exact absurd (hb Zs) Zs
abbrev vrow (v:List V):List AV:=[vsl v]
abbrev RH (q:Qy) (tb:List Tb) (out:List (List V)):Heap:=[.box q.cells,.box [.own 2 out.length],.row Ty.LValue (out.map vrow) false,.box [tsl tb]]
noncomputable def L_rowL (f:X->V × Int) (q:Qy) (w:List Fr) (tb:List Tb) (out:List (List V)) (i:Nat) (row:List V):Cfg:=zaj B.AR 0 [(1,fsl w),(3,.p 1 0),(4,.p 3 0),(8,.own 4 row.length),(22,xsl q.items),(23,iv ((zad q.items).length:Nat)),(24,iv (i:Nat))] (RH q tb out++[.row Ty.Value (row.map V.cells) false])
def rowL (f:X->V × Int) (q:Qy) (w:List Fr) (tb:List Tb) (out:List (List V)):List (X)->Nat->(List V)->Int × (List (List V))
 | [],i,row =>
  (0,out++[row])
 | x::r,i,row =>
  bif (f x).snd != 0 then
   ((f x).snd,out)
  else
   rowL f q w tb out r (i+1) (row++[(f x).fst])
theorem zul (f:X->V × Int) (q:Qy) (w:List Fr) (tb:List Tb) (out:List (List V)) (hl:q.items.length<=1000) (hout:out.length<=2000000) (hf:∀ x∈q.items,Pure S.Ai [x.av,fsl w,tsl tb] (.tup [(f x).1.av,iv (f x).2])):∀ (kk i:Nat) (row:List V),i+kk=(q.items).length->(row.length<=i)->Good E0 B.AR (RH q tb out) (L_rowL f q w tb out i row) (Shut 4 fun r h=>r=(iv (rowL f q w tb out ((q.items).drop i) i row).1)/\h=(RH q tb (rowL f q w tb out ((q.items).drop i) i row).2)):=by
 intro kk
 induction kk with
 | zero =>
  intro i row hi ho
  have h0:decide (((i:Nat):Int) < (((zad q.items).length:Nat):Int))=false:=by simp;omega
  have e0:(q.items).drop i=[]:=List.drop_of_length_le Zo
  rw [e0]
  simp only [rowL]
  refine zab ?_
  exact wkrS (y:=iv 0) (H:=[Blk.box q.cells,Blk.box [AV.own 2 (List.map vrow out++[[vsl row]]).length],Blk.row Ty.LValue (List.map vrow out++[[vsl row]]) false,Blk.box [tsl tb]]) [sb h0,sqx (row.length=(List.map V.cells row).length/\True),sqA (List.map vrow out) [[vsl row]] out.length 1 24] kr ⟨Zcv4,Zcv4⟩
 | succ kk ih =>
  intro i row hi ho
  obtain ⟨x,hx⟩:=zaY (l:=q.items) (i:=i) Zo
  have h0:decide (((i:Nat):Int) < (((zad q.items).length:Nat):Int))=true:=by simp;omega
  have hw:=zaJ i (by first|omega|(simp only [zac,Few] at *;omega))
  have hfx:=hf x (List.mem_of_getElem? hx);have hrl:row.length<=1000:=by have:=zbY hx;omega
  rw [zap hx]
  simp only [rowL]
  refine zab ?_
  cases h1:(f x).snd != 0
  ·exact wkl [sb h0,se (zbr hx),sc hfx,sb h1,sqA (List.map V.cells row) [[iv (f x).fst.kind,iv (f x).fst.int,sv (f x).fst.text]] row.length 3 32,si hw] [1,3,4,8,22,23,24] 5 kr (zao 8 4 (List.map V.cells row++[[iv (f x).fst.kind,iv (f x).fst.int,sv (f x).fst.text]]) (ih (i+1) (row++[(f x).fst]) Zo (by first|assumption|(simp;done)|(simp;omega)|omega|(simp at *;omega))) (he:=Zcv4) (hm:=Zcv4))
  ·exact wkr [sb h0,se (zbr hx),sc hfx,sb h1] kr
def rowC (f:X->V × Int) (q:Qy) (w:List Fr) (tb:List Tb) (rw:Rw) (out:List (List V)):Int × (List (List V)) :=
 bif q.star then
  (0,out++[rw.vals])
 else
  rowL f q w tb out q.items 0 ([])
theorem zl4 (f:X->V × Int) (q:Qy) (w:List Fr) (tb:List Tb) (rw:Rw) (out:List (List V)) (hl:q.items.length<=1000) (hv:zac rw.vals) (hout:out.length<=2000000) (hf:∀ x∈q.items,Pure S.Ai [x.av,fsl w,tsl tb] (.tup [(f x).1.av,iv (f x).2])):zaa E0 S.AR [.agg (Rw.cells rw),fsl w,.p 0 0,.p 1 0,.p 3 0] (RH q tb out) (iv (rowC f q w tb rw out).1) (RH q tb (rowC f q w tb rw out).2):=by
 unfold rowC
 cases h1:q.star
 ·exact wkcN At.AR [sb h1] [1,3,4,8,22,23,24] 4 [(.ot 8 Ty.Value,5)] kr (zul f q w tb out hl hout hf q.items.length 0 ([]) Zs Zs)
 ·exact wkS At.AR (y:=iv 0) (H:=[Blk.box q.cells,Blk.box [AV.own 2 (List.map vrow out++[[vsl rw.vals]]).length],Blk.row Ty.LValue (List.map vrow out++[[vsl rw.vals]]) false,Blk.box [tsl tb]]) [sb h1,sd [(3,[sc (za1 rw.vals (by first|assumption|omega|(simp;done)|(simp;omega)))]),(4,[sqx (rw.vals.length=(List.map V.cells rw.vals).length/\True)]),(5,[sqA (List.map vrow out) [[vsl rw.vals]] out.length 1 24])]] kr ⟨Zcv4,Zcv4⟩
noncomputable def L_selB (tr:Rw->Bool × Int) (g:Rw->List (List V)->Int × List (List V)) (q:Qy) (frs:List Fr) (tb:List Tb) (t:Tb) (out0:List (List V)) (i:Nat) (out:List (List V)):Cfg:=zaj B.Ax 0 [(1,fsl frs),(2,tsl tb),(3,.fn S.AR [.p 0 0,.p 1 0,.p 3 0]),(4,.p 4 0),(9,.p 5 0),(26,.sl (t.rows.map Rw.cells)),(27,iv ((t.rows.map Rw.cells).length:Nat)),(28,iv (i:Nat))] (RH q tb out++[.box q.cells,.box t.cells])
def selB (tr:Rw->Bool × Int) (g:Rw->List (List V)->Int × List (List V)) (q:Qy) (frs:List Fr) (tb:List Tb) (t:Tb) (out0:List (List V)):List (Rw)->Nat->(List (List V))->Int × (List (List V))
 | [],i,out =>
  (0,out)
 | x::r,i,out =>
  bif (tr x).snd==0 then
   bif (tr x).fst then
    bif (g x out).fst != 0 then
     ((g x out).fst,(g x out).snd)
    else
     selB tr g q frs tb t out0 r (i+1) ((g x out).snd)
   else
    bif (tr x).snd != 0 then
     ((tr x).snd,out)
    else
     selB tr g q frs tb t out0 r (i+1) (out)
  else
   bif (tr x).snd != 0 then
    ((tr x).snd,out)
   else
    selB tr g q frs tb t out0 r (i+1) (out)
theorem zuo (tr:Rw->Bool × Int) (g:Rw->List (List V)->Int × List (List V)) (q:Qy) (frs:List Fr) (tb:List Tb) (t:Tb) (out0:List (List V)) (hfr:zac frs) (hrows:t.rows.length<=1000) (hi0:out0.length<=1000) (hgl:∀ (r:Rw) (out:List (List V)),(g r out).2.length<=out.length+1) (hT:∀ r∈t.rows,Pure S.AH [xsl q.wh,fsl (zar frs t r.vals),tsl tb] (.tup [bv (tr r).1,iv (tr r).2])) (hC:∀ r∈t.rows,∀ (out:List (List V)),out.length<=2000000->zaa E0 S.AR [.agg (Rw.cells r),fsl (zar frs t r.vals),.p 0 0,.p 1 0,.p 3 0] (RH q tb out) (iv (g r out).1) (RH q tb (g r out).2)):∀ (kk i:Nat) (out:List (List V)),i+kk=(t.rows).length->(out.length<=out0.length+i)->Good E0 B.Ax (RH q tb out0) (L_selB tr g q frs tb t out0 i out) (Shut 4 fun r h=>r=(iv (selB tr g q frs tb t out0 ((t.rows).drop i) i out).1)/\h=(RH q tb (selB tr g q frs tb t out0 ((t.rows).drop i) i out).2)):=by
 intro kk
 induction kk with
 | zero =>
  intro i out hi hi2
  have h0:decide (((i:Nat):Int) < (((t.rows.map Rw.cells).length:Nat):Int))=false:=by simp;omega
  have e0:(t.rows).drop i=[]:=List.drop_of_length_le Zo
  rw [e0]
  simp only [selB]
  refine zab ?_
  exact wkr [sb h0] kr
 | succ kk ih =>
  intro i out hi hi2
  obtain ⟨x,hx⟩:=zaY (l:=t.rows) (i:=i) Zo
  have h0:decide (((i:Nat):Int) < (((t.rows.map Rw.cells).length:Nat):Int))=true:=by simp;omega
  have hw:=zaJ i (by first|omega|(simp only [zac,Few] at *;omega))
  have hTx:=hT x (List.mem_of_getElem? hx);have hCx:=hC x (List.mem_of_getElem? hx) out Zo
  rw [zap hx]
  simp only [selB]
  refine zab ?_
  let p_1:List St:=[sb h0,se (zaf Rw.cells hx rfl),sc (zg4 frs t x.vals (by first|assumption|omega|(simp;done)|(simp;omega))),sc hTx]
  cases h1:(tr x).snd==0
  ·cases h2:(tr x).snd != 0
   ·exact wkl (p_1++[sb h1,sb h2,si hw]) [1,2,3,4,9,26,27,28] 6 kr (ih (i+1) out Zo (by first|omega|(have:=hgl x out;omega)))
   ·exact wkr (p_1++[sb h1,sb h2]) kr
  ·cases h3:(tr x).fst
   ·cases h4:(tr x).snd != 0
    ·exact wkl (p_1++[sg h1,sb h3,sb h4,si hw]) [1,2,3,4,9,26,27,28] 6 kr (ih (i+1) out Zo (by first|omega|(have:=hgl x out;omega)))
    ·exact wkr (p_1++[sg h1,sb h3,sb h4]) kr
   ·cases h5:(g x out).fst != 0
    ·exact wkl (p_1++[sg h1,sb h3,sl [0,1,2,3] hCx,sb h5,si hw]) [1,2,3,4,9,26,27,28] 6 kr (ih (i+1) ((g x out).snd) Zo (by first|omega|(have:=hgl x out;omega)))
    ·exact wkr (p_1++[sg h1,sb h3,sl [0,1,2,3] hCx,sb h5]) kr
def zrt (tr:Rw->Bool × Int) (g:Rw->List (List V)->Int × List (List V)) (q:Qy) (frs:List Fr) (tb:List Tb) (t:Tb) (out0:List (List V)):Int × (List (List V)) :=
 selB tr g q frs tb t out0 t.rows 0 (out0)
theorem ziu (tr:Rw->Bool × Int) (g:Rw->List (List V)->Int × List (List V)) (q:Qy) (frs:List Fr) (tb:List Tb) (t:Tb) (out0:List (List V)) (hfind:Pure S.BT [tsl tb,sv q.frm] (.tup [t.av,bv true])) (hfr:zac frs) (hrows:t.rows.length<=1000) (hi0:out0.length<=1000) (hgl:∀ (r:Rw) (out:List (List V)),(g r out).2.length<=out.length+1) (hT:∀ r∈t.rows,Pure S.AH [xsl q.wh,fsl (zar frs t r.vals),tsl tb] (.tup [bv (tr r).1,iv (tr r).2])) (hC:∀ r∈t.rows,∀ (out:List (List V)),out.length<=2000000->zaa E0 S.AR [.agg (Rw.cells r),fsl (zar frs t r.vals),.p 0 0,.p 1 0,.p 3 0] (RH q tb out) (iv (g r out).1) (RH q tb (g r out).2)):zaa E0 S.Ax [q.av,fsl frs,tsl tb,.fn S.AR [.p 0 0,.p 1 0,.p 3 0]] (RH q tb out0) (iv (zrt tr g q frs tb t out0).1) (RH q tb (zrt tr g q frs tb t out0).2):=by
 unfold zrt
 exact wkc At.Ax [sc hfind,sb Zf] [1,2,3,4,9,26,27,28] 6 kr (zuo tr g q frs tb t out0 hfr hrows hi0 hgl hT hC t.rows.length 0 out0 Zs Zs)
def zyf (q:Qy) (frs:List Fr) (tb:List Tb) (out0:List (List V)):Int × (List (List V)) :=
 (3,out0)
theorem zit (q:Qy) (frs:List Fr) (tb:List Tb) (out0:List (List V)) (hfind:Pure S.BT [tsl tb,sv q.frm] (.tup [Tb.zero.av,bv false])):zaa E0 S.Ax [q.av,fsl frs,tsl tb,.fn S.AR [.p 0 0,.p 1 0,.p 3 0]] (RH q tb out0) (iv (zyf q frs tb out0).1) (RH q tb (zyf q frs tb out0).2):=by
 exact wk At.Ax [sc hfind,sb Zt] kr
noncomputable def zgb (q:Qy) (frs:List Fr) (tb:List Tb):Cfg:=(upto (mk E0) (List.range 100) 3 3000 ⟨B.BB.ntmps,[.code (B.BB.body.getD .skip)],zb9 0 [q.av,fsl frs,tsl tb],[]⟩ []).2
noncomputable def zBG (q:Qy) (frs:List Fr) (tb:List Tb):Cfg:=cut (List.range 100) 4 ⟨(zgb q frs tb).n,(zgb q frs tb).todo,(zgb q frs tb).ts,((zgb q frs tb).h++[Blk.row Ty.LValue [] false]).set 2 (.box (([AV.nl]:List AV).set 0 (.own (zgb q frs tb).h.length 0)))⟩
theorem zBH {q:Qy} {frs:List Fr} {tb:List Tb} {R:AV->Heap->Prop} (hg:Good E0 B.BB [] (zBG q frs tb) (Shut 0 R)):zbO E0 S.BB [q.av,fsl frs,tsl tb] [] R :=
 wkc (c':=zgb q frs tb) At.BB [] (List.range 100) 3 kr
  (zf4 (cs:=[AV.nl]) 2 0 Ty.LValue (List.range 100) 4 kr kr kr rfl hg)
def zey (sel:Int × List (List V)):List (List V) × Int:=bif sel.1 != 0 then ([],sel.1) else (sel.2,0)
theorem zxS (sel:Int × List (List V)) (q:Qy) (frs:List Fr) (tb:List Tb) (hsel:zaa E0 S.Ax [q.av,fsl frs,tsl tb,.fn S.AR [.p 0 0,.p 1 0,.p 3 0]] (RH q tb []) (iv sel.1) (RH q tb sel.2)):zaa E0 S.BB [q.av,fsl frs,tsl tb] [] (.tup [.sl ((zey sel).1.map vrow),iv (zey sel).2]) []:=by
 refine zBH ?_
 unfold zey
 cases h1:sel.fst != 0
 ·exact wkr [sqx (sel.2.length=(List.map vrow sel.snd).length/\True/\True),sl [0,2,3,1] hsel,sb h1] kr
 ·exact wkr [sl [0,2,3,1] hsel,sb h1] kr
def zbd (f:X->V × Int):List X->Int × List V
 | []=>(0,[])
 | x::r=>bif (f x).2 != 0 then ((f x).2,[]) else bif (zbd f r).1 != 0 then ((zbd f r).1,[]) else (0,(f x).1::(zbd f r).2)
theorem zvb (f:X->V × Int) (q:Qy) (w:List Fr) (tb:List Tb) (out:List (List V)):∀ (l:List X) (i:Nat) (row:List V),rowL f q w tb out l i row=bif (zbd f l).1 != 0 then ((zbd f l).1,out) else (0,out++[row++(zbd f l).2])
 | [],i,row=>by simp [rowL,zbd]
 | x::r,i,row=>by
  simp only [rowL,zbd,zvb f q w tb out r]
  cases h:(f x).2 != 0
  ·cases h2:(zbd f r).1 != 0
   ·simp
   ·simp [h2]
  ·simp only [cond_true,h]
def rowV (f:X->V × Int) (q:Qy) (r:Rw):Int × List V:=bif q.star then (0,r.vals) else zbd f q.items
theorem zBF (f:X->V × Int) (q:Qy) (w:List Fr) (tb:List Tb) (r:Rw) (out:List (List V)):rowC f q w tb r out=bif (rowV f q r).1 != 0 then ((rowV f q r).1,out) else (0,out++[(rowV f q r).2]):=by
 unfold rowC rowV
 cases q.star
 ·simp only [cond_false,zvb,List.nil_append]
 ·rfl
def za8 (tr:Rw->Bool × Int) (rv:Rw->Int × List V):List Rw->List (List V)->Int × List (List V)
 | [],out=>(0,out)
 | r::l,out=>bif (tr r).2 != 0 then ((tr r).2,out) else bif (tr r).1 then (bif (rv r).1 != 0 then ((rv r).1,out) else za8 tr rv l (out++[(rv r).2])) else za8 tr rv l out
theorem zvi (tr:Rw->Bool × Int) (rv:Rw->Int × List V) (q:Qy) (frs:List Fr) (tb:List Tb) (t:Tb) (out0:List (List V)):∀ (l:List Rw) (i:Nat) (out:List (List V)),selB tr (fun r out=>bif (rv r).1 != 0 then ((rv r).1,out) else (0,out++[(rv r).2])) q frs tb t out0 l i out=za8 tr rv l out
 | [],_,_=>rfl
 | r::l,i,out=>by
  have ih:=zvi tr rv q frs tb t out0 l
  simp only [selB,za8,ih]
  have h0:((0:Int)==0)=true:=rfl
  cases h1:(tr r).2==0 <;> cases h2:(tr r).1 <;> cases h3:(rv r).1==0 <;> simp only [bne,h0,h1,h2,h3,Bool.not_true,Bool.not_false,cond_true,cond_false]
def zbL (n:Nat) (q:Qy) (frs:List Fr) (tb:List Tb):List (List V) × Int:=match zaK tb q.frm with
 | none=>([],3)
 | some t=>zey (za8 (fun r=>zba (fun x=>eval n x (zar frs t r.vals) tb) q.wh) (fun r=>rowV (fun x=>eval n x (zar frs t r.vals) tb) q r) t.rows [])
structure QOk (n:Nat) (q:Qy):Prop where
 few:Few q.items
 items:∀ x∈q.items,XOk n x
 wh:∀ x∈q.wh,XOk n x
theorem zwe {n:Nat} {q:Qy} {frs:List Fr} {tb:List Tb} (hq:QOk n q) (hfo:FsOk (n+1) frs) (hto:TbOk tb) (hfg:FsG frs) (htg:TbG tb) (hv:∀ x∈tb,∀ r∈x.rows,zac r.vals) :
  Pure S.BB [q.av,fsl frs,tsl tb] (.tup [.sl ((zbL n q frs tb).1.map vrow),iv (zbL n q frs tb).2]):=by
 unfold zbL
 cases hfd:zaK tb q.frm with
 | none=>exact zxS (3,[]) q frs tb (zit q frs tb [] (zgI tb q.frm hto.len hfd))
 | some t =>
  have htm:=zcR hfd
  have hin:∀ r∈t.rows,FsOk n (zar frs t r.vals)/\FsG (zar frs t r.vals):=fun r hr=>⟨hfo.eins (hto.cols t htm) (htg.vals t htm r hr),hfg.ins (htg.vals t htm r hr)⟩
  have h:=ziu (fun r=>zba (fun x=>eval n x (zar frs t r.vals) tb) q.wh) (fun r out=>bif (rowV (fun x=>eval n x (zar frs t r.vals) tb) q r).1 != 0 then ((rowV (fun x=>eval n x (zar frs t r.vals) tb) q r).1,out) else (0,out++[(rowV (fun x=>eval n x (zar frs t r.vals) tb) q r).2])) q frs tb t [] (zgJ tb q.frm hto.len t hfd) hfo.short (hto.rows t htm) Zs
   (fun r out=>by cases (rowV (fun x=>eval n x (zar frs t r.vals) tb) q r).1 != 0 <;> simp)
   (fun r hr=>zlF (fun x hx=>zdz n x _ tb (hq.wh x hx) (hin r hr).1 (hin r hr).2 hto htg) (fun x hx=>zbA n x _ tb (hq.wh x hx) (hin r hr).2 htg))
   (fun r hr out hl=>by
    have h:=zl4 (fun x=>eval n x (zar frs t r.vals) tb) q (zar frs t r.vals) tb r out hq.few (hv t htm r hr) hl (fun x hx=>zdz n x _ tb (hq.items x hx) (hin r hr).1 (hin r hr).2 hto htg)
    rw [zBF] at h
    exact h)
  simp only [zrt,zvi] at h
  exact zxS _ q frs tb h
def cmpB (a b:Str):Int:=Lib.compareBytes a.data.toList b.data.toList
theorem zdc (a b:Str):zaa E0 S.BH [sv a,sv b] [] (iv (cmpB a b)) []:=by
 intro β S w vs r hp
 obtain ⟨v1,rfl,hp1⟩:=zmF hp
 obtain ⟨v2,rfl,hp2⟩:=zmF hp1
 have h0:v2=[]:=List.eq_nil_of_length_eq_zero (by have:=hp2.1;simpa using this.symm)
 subst h0
 refine .inr ⟨.int .i64 (cmpB a b),w,?_,?_⟩
 ·have h1:=run_callFunc_extern (e:=Extern.BytealgCompare.compare) At.BH kr kr kr kr #[.string a,.string b] w
  rw [Lib.run_compareString] at h1
  exact h1
 ·exact ⟨_,_,β,S,_,rfl,⟨rfl,rfl⟩,r,Ext.refl _ _ _ _,zbu _ _⟩
def zww (a b:Str):Int :=
 cmpB a b
theorem zeQ (a b:Str) :zaa E0 S.Co [sv a,sv b] [] (iv (zww a b)) []:=by
 exact wk At.Co [sc (zdc a b)] kr
def zwx (a b:Str):Int :=
 zww a b
theorem zns (a b:Str) :zaa E0 S.Dk [sv a,sv b] [] (iv (zwx a b)) []:=by
 exact wk At.Dk [sc (zeQ a b)] kr
def rCmp (a b:V):Int :=
 bif a.kind != b.kind then
  bif decide (a.kind < b.kind) then
   -1
  else
   1
 else
  bif a.int != b.int then
   bif decide (a.int < b.int) then
    -1
   else
    1
  else
   zwx a.text b.text
theorem zjU (a b:V) :zaa E0 S.Cv [a.av,b.av] [] (iv (rCmp a b)) []:=by
 unfold rCmp
 cases h1:a.kind != b.kind
 ·cases h2:a.int != b.int
  ·exact wk At.Cv [sb h1,sb h2,sc (zns a.text b.text)] kr
  ·cases h3:decide (a.int < b.int)
   ·exact wk At.Cv [sb h1,sb h2,sb h3] kr
   ·exact wk At.Cv [sb h1,sb h2,sb h3] kr
 ·cases h4:decide (a.kind < b.kind)
  ·exact wk At.Cv [sb h1,sb h4] kr
  ·exact wk At.Cv [sb h1,sb h4] kr
def zmn (a b:List V):List (V)->Nat->Int
 | [],i =>
  bif decide ((↑(List.map V.cells a).length:Int) < (↑(List.map V.cells b).length:Int)) then
   -1
  else
   bif decide ((↑(List.map V.cells b).length:Int) < (↑(List.map V.cells a).length:Int)) then
    1
   else
    0
 | x::r,i =>
  bif decide ((i:Int) < (↑(List.map V.cells b).length:Int)) then
   bif rCmp x (zaz b (i:Int)) != 0 then
    rCmp x (zaz b (i:Int))
   else
    zmn a b r (i+1)
  else
   bif decide ((↑(List.map V.cells a).length:Int) < (↑(List.map V.cells b).length:Int)) then
    -1
   else
    bif decide ((↑(List.map V.cells b).length:Int) < (↑(List.map V.cells a).length:Int)) then
     1
    else
     0
def ziQ (a b:List V):Int :=
 zmn a b a (0)
theorem zrG {p:Prop} (h:p:=by first|rfl|(rw [List.take_of_length_le Zs];simp;done)|(simp;done)):p:=h
theorem zxa {p:Prop} (h:p:=by first|assumption|omega|(simp;done)|(simp only [Room,List.length_drop,List.length_take] at *;omega)):p:=h
theorem zrH {p:Prop} (h:p:=by first|assumption|omega|(simp;done)|(simp;omega)):p:=h
noncomputable def zcZ (fn:Func) (args:List AV) (h:Heap) (m:Nat):Cfg:=(upto (mk E0) (List.range 40) m 3000 ⟨fn.ntmps,[.code (fn.body.getD .skip)],zb9 0 args,h⟩ []).2
structure Lk where
 fst:Str
 snd:Str
def Lk.cells (l:Lk):List AV:=[sv l.fst,sv l.snd]
abbrev ZL (l:List Lk):AV:=.sl (l.map Lk.cells)
abbrev Lk.av (l:Lk):AV:=.agg l.cells
@[simp] theorem Lk.cells_length (x:Lk):x.cells.length=2:=rfl
structure Im where
 trig:Str
 row:Int
 old:List V
 new:List V
def Im.cells (x:Im):List AV:=[sv x.trig,iv x.row,vsl x.old,vsl x.new]
abbrev Im.av (x:Im):AV:=.agg x.cells
@[simp] theorem Im.cells_length (x:Im):x.cells.length=4:=rfl
theorem zAm:StructEq E0.P Ty.Link [.str,.str] :=
 zy4 E0ok (fs:=E0.P.fieldsOf Ty.Link) kr kr kr kr
abbrev zbw (n:Int):List AV:=[iv n]
theorem zt1 (l:List Tg) (hl:zac l):Good E0 B.AZ [] (zbC (zcZ B.AZ [.sl (l.map Tg.cells)] [] 0) false) (fun r h=>r=.own 0 l.length/\h=[.row Ty.Trigger (l.map Tg.cells) false]) :=
 zcD E0ok mix0 3000 (y:=AV.own 0 (List.map Tg.cells l).length) (H:=[Blk.row Ty.Trigger (List.map Tg.cells l) false]) [sb Zf,sqx (AllLen (List.map Tg.cells l) 11/\((List.map Tg.cells l).length * 200).le 140737488355328)] kr (⟨by simp,rfl⟩)
theorem zt2:Good E0 B.AZ [] (zbC (zcZ B.AZ [.sl []] [] 0) true) (fun r h=>r=.nl/\h=[]) :=
 zcD E0ok mix0 3000 (y:=AV.nl) (H:=[]) [sb Zt] kr (⟨rfl,rfl⟩)
theorem zjc (l:List Tg) (hl:zac l):zaa E0 S.AZ [.sl (l.map Tg.cells)] [] (.own 0 l.length) [.row Ty.Trigger (l.map Tg.cells) false]:=by
 refine zaV At.AZ rfl kr (Nat.le_of_ble_eq_true kr) (zcK E0ok mix0 3000 [] (List.range 40) 0 (c':=zcZ B.AZ [.sl (l.map Tg.cells)] [] 0) kr kr (zeP E0ok (xs:=l.map Tg.cells) (e:=true) kr fun b hb=>?_))
 cases b with
 | false=>exact zt1 l hl
 | true =>
  cases l with
  | nil=>exact zcS Ty.Trigger zt2 ⟨rfl,rfl⟩
  | cons x r=>exact absurd (hb Zs) Zs
abbrev Room (l:List Int):Prop:=l.length<=17592186044416
theorem zAV (l:List Int) (hl:Room l):Good E0 B.Bj [] (zbC (zcZ B.Bj [.sl (l.map zbw)] [] 0) false) (fun r h=>r=.own 0 l.length/\h=[.row Ty.int (l.map zbw) false]) :=
 zcD E0ok mix0 3000 (y:=AV.own 0 (List.map zbw l).length) (H:=[Blk.row Ty.int (List.map zbw l) false]) [sb Zf,sqx (AllLen (List.map zbw l) 1/\((List.map zbw l).length * 8).le 140737488355328)] kr (⟨by simp,rfl⟩)
theorem zAW:Good E0 B.Bj [] (zbC (zcZ B.Bj [.sl []] [] 0) true) (fun r h=>r=.nl/\h=[]) :=
 zcD E0ok mix0 3000 (y:=AV.nl) (H:=[]) [sb Zt] kr (⟨rfl,rfl⟩)
theorem zbB (l:List Int) (hl:Room l):zaa E0 S.Bj [.sl (l.map zbw)] [] (.own 0 l.length) [.row Ty.int (l.map zbw) false]:=by
 refine zaV At.Bj rfl kr (Nat.le_of_ble_eq_true kr) (zcK E0ok mix0 3000 [] (List.range 40) 0 (c':=zcZ B.Bj [.sl (l.map zbw)] [] 0) kr kr (zeP E0ok (xs:=l.map zbw) (e:=true) kr fun b hb=>?_))
 cases b with
 | false=>exact zAV l hl
 | true =>
  cases l with
  | nil=>exact zcS Ty.int zAW ⟨rfl,rfl⟩
  | cons x r=>exact absurd (hb Zs) Zs
theorem zwq (l:List Col) (hl:zac l):Good E0 B.A2 [] (zbC (zcZ B.A2 [.sl (l.map Col.cells)] [] 0) false) (fun r h=>r=.own 0 l.length/\h=[.row Ty.Column (l.map Col.cells) false]) :=
 zcD E0ok mix0 3000 (y:=AV.own 0 (List.map Col.cells l).length) (H:=[Blk.row Ty.Column (List.map Col.cells l) false]) [sb Zf,sqx (AllLen (List.map Col.cells l) 4/\((List.map Col.cells l).length * 32).le 140737488355328)] kr (⟨by simp,rfl⟩)
theorem zwr:Good E0 B.A2 [] (zbC (zcZ B.A2 [.sl []] [] 0) true) (fun r h=>r=.nl/\h=[]) :=
 zcD E0ok mix0 3000 (y:=AV.nl) (H:=[]) [sb Zt] kr (⟨rfl,rfl⟩)
theorem zaX (l:List Col) (hl:zac l):zaa E0 S.A2 [.sl (l.map Col.cells)] [] (.own 0 l.length) [.row Ty.Column (l.map Col.cells) false]:=by
 refine zaV At.A2 rfl kr (Nat.le_of_ble_eq_true kr) (zcK E0ok mix0 3000 [] (List.range 40) 0 (c':=zcZ B.A2 [.sl (l.map Col.cells)] [] 0) kr kr (zeP E0ok (xs:=l.map Col.cells) (e:=true) kr fun b hb=>?_))
 cases b with
 | false=>exact zwq l hl
 | true =>
  cases l with
  | nil=>exact zcS Ty.Column zwr ⟨rfl,rfl⟩
  | cons x r=>exact absurd (hb Zs) Zs
noncomputable def L_lkIx (l:List Lk) (v:Lk) (i:Nat) :Cfg:=zaj B.B9 0 [(0,.sl (l.map Lk.cells)),(3,.p 0 0),(7,iv ((l.map Lk.cells).length:Nat)),(8,iv (i:Nat))] [.box v.cells]
def lkIx (l:List Lk) (v:Lk):List (Lk)->Nat->Int
 | [],i =>
  -1
 | x::r,i =>
  bif v.fst==x.fst&&(v.snd==x.snd&&true) then
   (i:Int)
  else
   lkIx l v r (i+1)
theorem zuh (l:List Lk) (v:Lk) (hl:zac l):∀ (kk i:Nat),i+kk=(l).length->Good E0 B.B9 [] (L_lkIx l v i ) (Shut 0 fun r h=>r=(iv (lkIx l v ((l).drop i) i ))/\h=[]):=by
 intro kk
 induction kk with
 | zero =>
  intro i  hi
  have h0:decide (((i:Nat):Int) < (((l.map Lk.cells).length:Nat):Int))=false:=by simp;omega
  have e0:(l).drop i=[]:=List.drop_of_length_le Zo
  rw [e0]
  simp only [lkIx]
  refine zab ?_
  exact wkr [sb h0] kr
 | succ kk ih =>
  intro i  hi
  obtain ⟨x,hx⟩:=zaY (l:=l) (i:=i) Zo
  have h0:decide (((i:Nat):Int) < (((l.map Lk.cells).length:Nat):Int))=true:=by simp;omega
  have hw:=zaJ i (by first|omega|(simp only [zac,Few] at *;omega))
  rw [zap hx]
  simp only [lkIx]
  refine zab ?_
  let p_1:List St:=[sb h0,sd [(3,[se (zaf Lk.cells hx rfl)]),(5,[sq zAm])]]
  cases h1:v.fst==x.fst&&(v.snd==x.snd&&true)
  ·exact wkl (p_1++[sb h1,si hw]) [0,3,7,8] 1 kr (ih (i+1) Zo )
  ·exact wkr (p_1++[sb h1]) kr
def zpZ (l:List Lk) (v:Lk):Int :=
 lkIx l v l (0)
theorem zlw (l:List Lk) (v:Lk) (hl:zac l):zaa E0 S.B9 [.sl (l.map Lk.cells),v.av] [] (iv (zpZ l v)) []:=by
 unfold zpZ
 exact wkc At.B9 [] [0,3,7,8] 1 kr (zuh l v hl l.length 0 Zs)
def lkHas (l:List Lk) (v:Lk):Bool :=
 decide ((0:Int)<=zpZ l v)
theorem zjd (l:List Lk) (v:Lk) (hl:zac l):zaa E0 S.C1 [.sl (l.map Lk.cells),v.av] [] (bv (lkHas l v)) []:=by
 exact wk At.C1 [sc (zlw l v zrH)] kr
def zm6 (l:List Lk) (a b:Str):Bool :=
 lkHas l (Lk.mk a b)
theorem zhV (l:List Lk) (a b:Str) (hl:zac l):zaa E0 S.Dv [.sl (l.map Lk.cells),sv a,sv b] [] (bv (zm6 l a b)) []:=by
 exact wk At.Dv [sc (zjd l (Lk.mk a b) zrH)] kr
theorem el_ip0 (ps:List Int) (h:((((ps.map zbw).length:Nat):Int)==0)=false):ElAt (ps.map fun n=>[iv n]) 0 [iv (ps.headD 0)] 1:=by
 cases ps with
 | nil=>simp at h
 | cons p r=>exact ⟨by decide,rfl,rfl⟩
def pkC0 (n:Int) (ps:List Int):Int × (List Int) :=
 (0,ps)
theorem c_pkC0 (n:Int) (ps:List Int) (hl:Room ps) (hA:decide (n < (2:Int))=true):zaa E0 S.Cc [iv n,isl ps] [] (.tup [iv (pkC0 n ps).1,isl (pkC0 n ps).2]) []:=by
 exact wk At.Cc [sqx (True/\ps.length=(List.map zbw ps).length/\True),sb hA,sc (zbB ps zrH)] kr
def pkC1 (n:Int) (ps:List Int):Int × (List Int) :=
 (0,ps)
theorem c_pkC1 (n:Int) (ps:List Int) (hl:Room ps) (hA:decide (n < (2:Int))=false) (hB:((((ps.map fun n=>[iv n]).length:Nat):Int)==0)=true):zaa E0 S.Cc [iv n,isl ps] [] (.tup [iv (pkC1 n ps).1,isl (pkC1 n ps).2]) []:=by
 exact wk At.Cc [sqx (True/\ps.length=(List.map zbw ps).length/\True),sg hA,sb hB,sc (zbB ps zrH)] kr
def pkC2 (n:Int) (ps:List Int):Int × (List Int) :=
 bif decide ((ps.headD 0).tmod n < 0) then
  (IntKind.i64.wrap ((ps.headD 0).tmod n+n),List.drop 1 (List.take (List.map (fun n=>[iv n]) ps).length ps))
 else
  ((ps.headD 0).tmod n,List.drop 1 (List.take (List.map (fun n=>[iv n]) ps).length ps))
theorem c_pkC2 (n:Int) (ps:List Int) (hl:Room ps) (hA:decide (n < (2:Int))=false) (hB:((((ps.map fun n=>[iv n]).length:Nat):Int)==0)=false) (hs:SubAt (ps.map fun n=>[iv n]) 1 (((ps.map fun n=>[iv n]).length:Nat):Int) 1):zaa E0 S.Cc [iv n,isl ps] [] (.tup [iv (pkC2 n ps).1,isl (pkC2 n ps).2]) []:=by
 unfold pkC2
 let p_1:List St:=[sqx (True/\(List.drop 1 (List.take (List.map (fun n=>[iv n]) ps).length ps)).length=(List.map zbw (List.drop 1 (List.take (List.map (fun n=>[iv n]) ps).length ps))).length/\True),sg hA,sb hB,se (el_ip0 ps zxa),sx (.i ((ps.headD (0:Int)).tmod n)) (show n≠(0:Int)/\((ps.headD (0:Int)).tmod n:Int)=(ps.headD (0:Int)).tmod n from ⟨(by simp at hA;omega),rfl⟩)]
 cases h1:decide ((ps.headD 0).tmod n < 0)
 ·exact (by (try simp only [zsl,xCol,xLit,xBin,xNeg]);exact wk At.Cc (p_1++[sb h1,sqx (SubAt (List.map (fun n=>[iv n]) ps) 1 (↑(List.map (fun n=>[iv n]) ps).length:Int) 1),sc (conv (args:=[AV.sl (List.drop (Int.toNat 1) (List.take (↑(List.map (fun n=>[iv n]) ps).length:Int).toNat (List.map (fun n=>[iv n]) ps)))]) (hl:=[]) (zbB (List.drop 1 (List.take (List.map (fun n=>[iv n]) ps).length ps)) zxa) zrG zrG)]) kr)
 ·exact (by (try simp only [zsl,xCol,xLit,xBin,xNeg]);exact wk At.Cc (p_1++[sb h1,si (e:=IntKind.i64.wrap ((ps.headD 0).tmod n+n)) rfl,sqx (SubAt (List.map (fun n=>[iv n]) ps) 1 (↑(List.map (fun n=>[iv n]) ps).length:Int) 1),sc (conv (args:=[AV.sl (List.drop (Int.toNat 1) (List.take (↑(List.map (fun n=>[iv n]) ps).length:Int).toNat (List.map (fun n=>[iv n]) ps)))]) (hl:=[]) (zbB (List.drop 1 (List.take (List.map (fun n=>[iv n]) ps).length ps)) zxa) zrG zrG)]) kr)
def zbM (n:Int) (ps:List Int):Int × List Int:=bif decide (n < 2) then (0,ps) else match ps with
 | []=>(0,[])
 | p::r=>(bif decide (p.tmod n < 0) then IntKind.i64.wrap (p.tmod n+n) else p.tmod n,r)
theorem zrb (n:Int) (ps:List Int) (hl:Room ps):zaa E0 S.Cc [iv n,isl ps] [] (.tup [iv (zbM n ps).1,isl (zbM n ps).2]) []:=by
 unfold zbM
 cases h1:decide (n < (2:Int))
 ·cases ps with
  | nil=>exact c_pkC1 n [] hl h1 rfl
  | cons p r =>
   have hz:((((p::r).length:Nat):Int)==0)=false:=by simp;omega
   have h:=c_pkC2 n (p::r) hl h1 (by rw [List.length_map];exact hz) ⟨by decide,by simp;omega,by simp,by simp⟩
   have e:pkC2 n (p::r)=(bif decide (p.tmod n < 0) then IntKind.i64.wrap (p.tmod n+n) else p.tmod n,r):=by
    unfold pkC2
    simp only [List.headD_cons,List.length_map,hz,h1]
    by_cases hq:p.tmod n < 0 <;> simp [hq]
   rw [e] at h
   exact h
 ·exact c_pkC0 n ps hl h1
theorem zkO {p:Prop} (h:p:=by first|assumption|omega|(intro k hk;omega)|(simp;done)|(simp at *;omega)):p:=h
noncomputable def L_elO (its:List Im) (l:List Lk) (i:Nat) (out:List Int):Cfg:=zaj B.Bp 0 [(0,.sl (its.map Im.cells)),(1,.sl (l.map Lk.cells)),(5,.own 0 out.length),(10,.sl (its.map Im.cells)),(11,iv ((its.map Im.cells).length:Nat)),(12,iv (i:Nat))] [.row Ty.int (out.map fun n=>[iv n]) false]
def blk (its:List Im) (l:List Lk) (i k:Nat):Bool:=k != i&&match its[k]?,its[i]? with
 | some y,some x=>zm6 l y.trig x.trig
 | _,_=>false
def zeD (its:List Im) (l:List Lk) (i:Nat):Bool:=(List.range its.length).all fun k=>!blk its l i k
theorem zxR {its:List Im} {l:List Lk} {i k:Nat} {x y:Im} (hx:its[i]?=some x) (hy:its[k]?=some y):blk its l i k=(((k:Nat):Int) != ((i:Nat):Int)&&zm6 l y.trig x.trig):=by
 unfold blk
 rw [hx,hy]
 have e:(k != i)=(((k:Nat):Int) != ((i:Nat):Int)):=by
  rw [Bool.eq_iff_iff,bne_iff_ne,bne_iff_ne];omega
 rw [e]
noncomputable def L_elI (its:List Im) (l:List Lk) (io:Nat) (out:List Int) (xo:Im) (i:Nat) :Cfg:=zaj B.Bp 1 [(0,.sl (its.map Im.cells)),(1,.sl (l.map Lk.cells)),(5,.own 0 out.length),(6,iv (io:Nat)),(7,.p 1 0),(10,.sl (its.map Im.cells)),(11,iv ((its.map Im.cells).length:Nat)),(12,iv (io:Nat)),(17,.sl (its.map Im.cells)),(18,iv ((its.map Im.cells).length:Nat)),(19,iv (i:Nat))] [.row Ty.int (out.map fun n=>[iv n]) false,.box xo.cells]
theorem zht (its:List Im) (l:List Lk) (io:Nat) (out:List Int) (xo:Im) (hl:zac l) (hxo:its[io]?=some xo) (hn:zac its) (i:Nat)  (hi:i<=(its).length) (hI:∀ k,k < i->blk its l io k=false):∃ (i':Nat) ,(∀ k,k < i'->blk its l io k=false)/\(decide (((i':Nat):Int) < (((its.map Im.cells).length:Nat):Int))=true->(((i':Nat):Int) != ((io:Nat):Int))=true)/\(∀ y:Im,its[i']?=some y->decide (((i':Nat):Int) < (((its.map Im.cells).length:Nat):Int))=true->zm6 l y.trig xo.trig=true)/\∀ R,Good E0 B.Bp [] (L_elI its l io out xo i' ) R->Good E0 B.Bp [] (L_elI its l io out xo i ) R:=by
 obtain ⟨kk,hk⟩:∃ kk,i+kk=(its).length:=⟨(its).length - i,by omega⟩
 induction kk generalizing i  with
 | zero =>
  have e0:i=(its).length:=by omega
  subst e0
  exact ⟨(its).length,hI,by simp,by simp,fun R hg=>hg⟩
 | succ kk ih =>
  obtain ⟨x,hx⟩:=zaY (l:=its) (i:=i) Zo
  have h0:decide (((i:Nat):Int) < (((its.map Im.cells).length:Nat):Int))=true:=by simp;omega
  have hw:IntKind.i64.wrap (((i:Nat):Int)+1)=((i+1:Nat):Int):=zaJ i (by first|omega|(simp only [zac,Few] at *;omega))
  have hbe:=zxR (l:=l) hxo hx
  cases hb:blk its l io i with
  | true =>
   rw [hb] at hbe
   have hbe:=hbe.symm
   simp only [Bool.and_eq_true] at hbe
   exact ⟨i,hI,fun _=>hbe.1,fun y hy _=>(by rw [hx] at hy;cases hy;exact hbe.2),fun R hg=>hg⟩
  | false =>
  have hnb:(((i:Nat):Int) != ((io:Nat):Int))=true->zm6 l x.trig xo.trig=false:=fun h=>by rw [hb,h] at hbe;simpa using hbe.symm
  let p_1:List St:=[sb h0,se (zaf Im.cells hx rfl)]
  cases h1:(i:Int) != (io:Int)
  ·obtain ⟨ixZ,qZ,xaZ,xbZ,gZ⟩:=ih (i+1) Zo (by intro k hk;by_cases hki:k=i;(rw [hki];exact hb);exact hI k Zo) Zo;exact ⟨ixZ,qZ,xaZ,xbZ,fun R hg=>zab (wkl (p_1++[sb h1,si hw]) [0,1,5,6,7,10,11,12,17,18,19] 2 kr (gZ R hg))⟩
  ·obtain ⟨ixZ,qZ,xaZ,xbZ,gZ⟩:=ih (i+1) Zo (by intro k hk;by_cases hki:k=i;(rw [hki];exact hb);exact hI k Zo) Zo;exact ⟨ixZ,qZ,xaZ,xbZ,fun R hg=>zab (wkl (p_1++[sg h1,sc (zhV l x.trig xo.trig (by first|assumption|omega|(simp;done)|(simp;omega))),sb (hnb h1),si hw]) [0,1,5,6,7,10,11,12,17,18,19] 2 kr (gZ R hg))⟩
def zaI (its:List Im) (l:List Lk) (n:Nat):List Int:=((List.range n).filter (zeD its l)).map fun (k:Nat)=>(k:Int)
theorem zlP (its:List Im) (l:List Lk) (n:Nat):(zaI its l n).length<=n:=by
 unfold zaI
 rw [List.length_map]
 exact Nat.le_trans (List.length_filter_le _ _) Zs
theorem zez (its:List Im) (l:List Lk) (n:Nat):zaI its l (n+1)=zaI its l n++(bif zeD its l n then [(n:Int)] else []):=by
 unfold zaI
 rw [List.range_succ,List.filter_append,List.map_append]
 simp only [List.filter_cons,List.filter_nil]
 cases zeD its l n <;> rfl
theorem zuX {its:List Im} {l:List Lk} {i:Nat} (h:∀ k,k < its.length->blk its l i k=false):zeD its l i=true:=by
 unfold zeD
 rw [List.all_eq_true]
 intro k hk
 rw [h k (by simpa using hk)];rfl
theorem zoB {its:List Im} {l:List Lk} {i k:Nat} {x y:Im} (hx:its[i]?=some x) (hy:its[k]?=some y) (h1:(((k:Nat):Int) != ((i:Nat):Int))=true) (h2:zm6 l y.trig x.trig=true):zeD its l i=false:=by
 have h:blk its l i k=true:=by rw [zxR hx hy,h1,h2];rfl
 unfold zeD
 rw [List.all_eq_false]
 exact ⟨k,by simp;exact zbY hy,by rw [h];simp⟩
theorem zhu (its:List Im) (l:List Lk) (hl:zac l) (hn:zac its) (i:Nat) (out:List Int) (hi:i<=(its).length) (hI:out=zaI its l i):∃ (out':List Int),(out'=zaI its l (its).length)/\(decide ((((its).length:Nat):Int) < (((its.map Im.cells).length:Nat):Int))=false)/\∀ R,Good E0 B.Bp [] (L_elO its l (its).length out') R->Good E0 B.Bp [] (L_elO its l i out) R:=by
 obtain ⟨kk,hk⟩:∃ kk,i+kk=(its).length:=⟨(its).length - i,by omega⟩
 induction kk generalizing i out with
 | zero =>
  have e0:i=(its).length:=by omega
  subst e0
  exact ⟨out,hI,by simp,fun R hg=>hg⟩
 | succ kk ih =>
  obtain ⟨x,hx⟩:=zaY (l:=its) (i:=i) Zo
  have h0:decide (((i:Nat):Int) < (((its.map Im.cells).length:Nat):Int))=true:=by simp;omega
  have hw:IntKind.i64.wrap (((i:Nat):Int)+1)=((i+1:Nat):Int):=zaJ i (by first|omega|(simp only [zac,Few] at *;omega))
  have hol:out.length<=i:=by rw [hI];exact zlP its l i
  obtain ⟨i1,q1,q1_1,q1_2,g1⟩:=zht its l i out x zkO zkO zkO 0 zkO zkO
  let p_1:List St:=[sb h0,se (zaf Im.cells hx rfl)]
  cases h2:decide ((i1:Int) < (↑(List.map Im.cells its).length:Int))
  ·exact Zih (ih (i+1) (out++[(i:Int)]) Zo (by first|(rw [zez,zuX (fun k hk=>q1 k (by simp at h2;omega)),hI];rfl)|(rw [zez,zoB hx e3 (q1_1 h2) (q1_2 _ e3 h2),hI];simp)) Zo) fun R gY=>zab (wkl p_1 [0,1,5,6,7,10,11,12,17,18,19] 2 kr (g1 _ (zab (wkl [sb h2,sqA (List.map (fun n=>[iv n]) out) [[iv (i:Int)]] out.length 1 8,si hw] [0,1,5,10,11,12] 1 kr (zao 5 0 (List.map (fun n=>[iv n]) out++[[iv (i:Int)]]) gY (he:=Zcv4) (hm:=Zcv4))))))
  ·obtain ⟨x3,e3⟩:=zaY (l:=its) (i:=i1) zkO
   exact Zih (ih (i+1) out Zo (by first|(rw [zez,zuX (fun k hk=>q1 k (by simp at h2;omega)),hI];rfl)|(rw [zez,zoB hx e3 (q1_1 h2) (q1_2 _ e3 h2),hI];simp)) Zo) fun R gY=>zab (wkl p_1 [0,1,5,6,7,10,11,12,17,18,19] 2 kr (g1 _ (zab (wkl [sb h2,se (zaf Im.cells e3 rfl),sg (q1_1 h2),sc (zhV l x3.trig x.trig zkO),sb (q1_2 x3 e3 h2),si hw] [0,1,5,10,11,12] 1 kr gY))))
theorem zwb (its:List Im) (l:List Lk) (hl:zac l) (hn:zac its):∃ (r:List Int),r=zaI its l its.length/\zaa E0 S.Bp [.sl (its.map Im.cells),.sl (l.map Lk.cells)] [] (isl r) []:=by
 obtain ⟨out1,q1,q1_1,g1⟩:=zhu its l Za Za 0 ([]) Za Za
 exact ⟨out1,(by first|assumption|trivial|(simp;done)|omega|(simp;omega)|(simp at *;omega)),wkcN At.Bp [] [0,1,5,10,11,12] 0 [(.ot 5 Ty.int,1)] kr (g1 _ (zab (wkr [sqx (out1.length=(List.map (fun n=>[iv n]) out1).length),sb q1_1] kr)))⟩
theorem zoK (its:List Im) (l:List Lk) (hl:zac l) (hn:zac its):zaa E0 S.Bp [.sl (its.map Im.cells),.sl (l.map Lk.cells)] [] (isl (zaI its l its.length)) []:=by
 obtain ⟨r,rfl,h⟩:=zwb its l hl hn
 exact h
def zb3 (its:List Im) (l:List Lk) (ps:List Int):Nat:=((List.range its.length).filter (zeD its l)).getD (zbM (((((zaI its l its.length).map fun n=>[iv n]).length:Nat):Int)) ps).1.toNat 0
theorem zuy (n:Nat) (ps:List Int) (hn:0 < n) (hs:n<=1000000000):0<=(zbM n ps).1/\(zbM n ps).1 < n:=by
 unfold zbM
 by_cases h2:(n:Int) < 2
 ·rw [decide_eq_true h2,cond_true];omega
 ·rw [decide_eq_false h2,cond_false]
  cases ps with
  | nil=>simp;omega
  | cons p r =>
   have h1:=Int.tmod_lt_of_pos p (show (0:Int) < n by omega)
   have h3:-(n:Int) < p.tmod n:=by
    have:=Int.tmod_lt_of_pos (-p) (show (0:Int) < n by omega)
    rw [Int.neg_tmod] at this;omega
   by_cases hq:p.tmod n < 0
   ·simp only [hq,decide_true,cond_true]
    rw [IntKind.wrap_i64];omega
   ·simp only [hq,decide_false,cond_false];omega
theorem zx3 (its:List Im) (l:List Lk) (ps:List Int) (h:0 < its.length):zb3 its l ps < its.length:=by
 unfold zb3
 rw [List.getD_eq_getElem?_getD]
 cases hx:((List.range its.length).filter (zeD its l))[(zbM (((((zaI its l its.length).map fun n=>[iv n]).length:Nat):Int)) ps).1.toNat]? with
 | none=>exact h
 | some x =>
  have:=List.mem_of_getElem? hx
  rw [List.mem_filter,List.mem_range] at this
  exact this.1
theorem zuW (its:List Im) (l:List Lk) (ps:List Int) (hn:zac its) (h:(((((zaI its l its.length).map fun n=>[iv n]).length:Nat):Int)==0)=false) :
  ElAt ((zaI its l its.length).map fun n=>[iv n]) (zbM (((((zaI its l its.length).map fun n=>[iv n]).length:Nat):Int)) ps).1 [iv ((zb3 its l ps:Nat):Int)] 1:=by
 have h0:0 < (zaI its l its.length).length:=by
  rw [List.length_map] at h
  have:((zaI its l its.length).length:Int)≠0:=by simpa using h
  omega
 have hl:=zlP its l its.length
 have hp:=zuy (zaI its l its.length).length ps h0 (by simp only [zac] at hn;omega)
 refine ⟨by rw [List.length_map];exact hp.1,?_,rfl⟩
 unfold zb3
 simp only [List.length_map] at *
 have he:zaI its l its.length=((List.range its.length).filter (zeD its l)).map fun (k:Nat)=>(k:Int):=rfl
 have hle:(zaI its l its.length).length=((List.range its.length).filter (zeD its l)).length:=by rw [he,List.length_map]
 rw [List.getElem?_map]
 have hk:(zbM ((zaI its l its.length).length:Nat) ps).1.toNat < ((List.range its.length).filter (zeD its l)).length:=by rw [← hle];omega
 generalize (zbM ((zaI its l its.length).length:Nat) ps).1.toNat=q at hk
 rw [he,List.getElem?_map,List.getElem?_eq_getElem hk,List.getD_eq_getElem?_getD,List.getElem?_eq_getElem hk]
 rfl
theorem zdI {p:Prop} (h:p:=by first|assumption|omega|(simp;done)|(simp;omega)):p:=h
theorem zzv (xs:List (List AV)) (n k i:Nat) (hn:n=xs.length) (hz:((((i:Nat):Int)==((i+1:Nat):Int)))=false) (hA:OwnCut xs n 0 ((i:Nat):Int) ((i+1:Nat):Int)/\((i+1:Nat):Int)<=((k - 0:Nat):Int)/\((k - 0:Nat):Int).toNat<=n) (hB:OwnCut xs n 0 0 ((i:Nat):Int)) (hC:OwnCut xs n 0 ((i+1:Nat):Int) ((k - 0:Nat):Int)) (hD:n=xs.length/\AllLen (List.drop (((i+1:Nat):Int)).toNat (List.take (((k - 0:Nat):Int)).toNat xs)) 11/\n=xs.length/\(((i:Nat):Int).toNat+(List.drop (((i+1:Nat):Int)).toNat (List.take (((k - 0:Nat):Int)).toNat xs)).length)<=n) (hE:n=(zbx xs i (List.drop (((i+1:Nat):Int)).toNat (List.take (((k - 0:Nat):Int)).toNat xs))).length) (hF:OwnCut (zbx xs i (List.drop (((i+1:Nat):Int)).toNat (List.take (((k - 0:Nat):Int)).toNat xs))) n 0 ((((((i:Nat):Int).toNat+(List.drop (((i+1:Nat):Int)).toNat (List.take (((k - 0:Nat):Int)).toNat xs)).length) - 0:Nat)):Int) ((k - 0:Nat):Int)):∃ (m:Nat) (ys:List (List AV)),(m=(((i:Nat):Int).toNat+(List.drop (((i+1:Nat):Int)).toNat (List.take (((k - 0:Nat):Int)).toNat xs)).length)/\ys=zbx (zbx xs i (List.drop (((i+1:Nat):Int)).toNat (List.take (((k - 0:Nat):Int)).toNat xs))) ((((i:Nat):Int).toNat+(List.drop (((i+1:Nat):Int)).toNat (List.take (((k - 0:Nat):Int)).toNat xs)).length) - 0) (List.replicate (((k - 0:Nat):Int).toNat - (((((i:Nat):Int).toNat+(List.drop (((i+1:Nat):Int)).toNat (List.take (((k - 0:Nat):Int)).toNat xs)).length) - 0:Nat):Int).toNat) (frzL [] (E0.T Ty.Trigger).zero)))/\zaa E0 S.Cw [.os 0 n 0 k,iv i,iv ((i+1:Nat):Int)] [.row Ty.Trigger xs false] (.os 0 n 0 m) [.row Ty.Trigger ys false]:=by
 exact ⟨(i:Int).toNat+0+(List.drop ((↑(i+1):Int).toNat+0) (List.take ((↑(k - 0):Int).toNat+0) xs)).length,zbx (zbx xs i (List.drop ((↑(i+1):Int).toNat+0) (List.take ((↑(k - 0):Int).toNat+0) xs))) ((i:Int).toNat+0+(List.drop ((↑(i+1):Int).toNat+0) (List.take ((↑(k - 0):Int).toNat+0) xs)).length - 0) (List.replicate ((↑(k - 0):Int).toNat+0 - ((↑((i:Int).toNat+0+(List.drop ((↑(i+1):Int).toNat+0) (List.take ((↑(k - 0):Int).toNat+0) xs)).length - 0):Int).toNat+0)) (frzL [] (E0.T Ty.Trigger).zero)),Zj,wkK At.Cw [sqx (n=xs.length),sqx (OwnCut xs n 0 (i:Int) (↑(i+1):Int)/\((↑(k - 0):Int) - (↑(i+1):Int)).NonNeg/\((↑(k - 0):Int).toNat+0).le n),sb hz,sqx (n=xs.length),sdp [(2,[sqx (OwnCut xs n 0 0 (i:Int))]),(5,[sqx (OwnCut xs n 0 (↑(i+1):Int) (↑(k - 0):Int))]),(6,[sqx (n=xs.length/\AllLen (List.drop ((↑(i+1):Int).toNat+0) (List.take ((↑(k - 0):Int).toNat+0) xs)) 11/\n=xs.length/\((i:Int).toNat+0+(List.drop ((↑(i+1):Int).toNat+0) (List.take ((↑(k - 0):Int).toNat+0) xs)).length).le n)])] [[5,2,6]] [(0,AV.os 0 n 0 ((i:Int).toNat+0+(List.drop ((↑(i+1):Int).toNat+0) (List.take ((↑(k - 0):Int).toNat+0) xs)).length)),(1,iv (i:Int)),(2,iv (↑(i+1):Int)),(6,AV.nl),(7,iv (↑(k - 0):Int)),(8,AV.os 0 n 0 k),(9,iv (i:Int)),(10,iv (↑(i+1):Int)),(11,AV.os 0 n 0 k),(12,iv (↑(k - 0):Int)),(13,AV.un),(14,iv (i:Int)),(15,iv (↑(i+1):Int)),(16,AV.bl false),(18,AV.os 0 n 0 k),(19,iv (↑(k - 0):Int)),(20,AV.os 0 n 0 k),(21,iv (i:Int)),(22,AV.os 0 n 0 ((i:Int).toNat+0)),(23,AV.os 0 n 0 k),(24,iv (↑(i+1):Int)),(25,AV.os 0 n ((↑(i+1):Int).toNat+0) ((↑(k - 0):Int).toNat+0)),(26,AV.os 0 n 0 ((i:Int).toNat+0+(List.drop ((↑(i+1):Int).toNat+0) (List.take ((↑(k - 0):Int).toNat+0) xs)).length))] [Blk.row Ty.Trigger (zbx xs i (List.drop ((↑(i+1):Int).toNat+0) (List.take ((↑(k - 0):Int).toNat+0) xs))) false],sqx (n=(zbx xs i (List.drop ((↑(i+1):Int).toNat+0) (List.take ((↑(k - 0):Int).toNat+0) xs))).length),sqx (OwnCut (zbx xs i (List.drop ((↑(i+1):Int).toNat+0) (List.take ((↑(k - 0):Int).toNat+0) xs))) n 0 (↑((i:Int).toNat+0+(List.drop ((↑(i+1):Int).toNat+0) (List.take ((↑(k - 0):Int).toNat+0) xs)).length - 0):Int) (↑(k - 0):Int)),sqx (n=(zbx xs i (List.drop ((↑(i+1):Int).toNat+0) (List.take ((↑(k - 0):Int).toNat+0) xs))).length)] kr⟩
theorem zst {α:Type} {l:List α} {i k:Nat} (hi:i < k) (hk:k<=l.length):(l.take k).eraseIdx i=l.take i++(l.take k).drop (i+1):=by
 rw [List.eraseIdx_eq_take_drop_succ,List.take_take,Nat.min_eq_left Zo]
theorem zeh (cur:List Tg) (rest:List (List AV)) (n i:Nat) (hn:n=(cur.map Tg.cells++rest).length) (hi:i < cur.length) (hr:∀ c∈rest,c.length=11):∃ (rest':List (List AV)),(n=((cur.eraseIdx i).map Tg.cells++rest').length/\∀ c∈rest',c.length=11) /\
  zaa E0 S.Cw [.os 0 n 0 cur.length,iv i,iv ((i+1:Nat):Int)] [.row Ty.Trigger (cur.map Tg.cells++rest) false] (.os 0 n 0 (cur.eraseIdx i).length) [.row Ty.Trigger ((cur.eraseIdx i).map Tg.cells++rest') false]:=by
 obtain ⟨k,hk⟩:∃ k,k=cur.length:=⟨_,rfl⟩
 obtain ⟨xs,hxs⟩:∃ xs,xs=cur.map Tg.cells++rest:=⟨_,rfl⟩
 have hxl:∀ c∈xs,c.length=11:=fun c hc=>by
  rw [hxs,List.mem_append,List.mem_map] at hc
  rcases hc with ⟨x,_,rfl⟩|hc
  ·rfl
  ·exact hr c hc
 rw [← hxs] at hn
 have hkn:k<=n:=by rw [hn,hxs,hk];simp
 have hz:((((i:Nat):Int)==((i+1:Nat):Int)))=false:=by rw [beq_eq_false_iff_ne];omega
 have hc0:=zzv xs n k i hn hz
 have e1:(List.drop (((i+1:Nat):Int)).toNat (List.take (((k - 0:Nat):Int)).toNat xs))=(xs.take k).drop (i+1):=by simp
 rw [e1] at hc0
 generalize hPe:(xs.take k).drop (i+1)=P at hc0
 have hPl:P.length=k - (i+1):=by rw [← hPe];simp;omega
 rw [← hk] at hi
 have hM:((i:Nat):Int).toNat+P.length=k - 1:=by rw [hPl];simp;omega
 rw [hM] at hc0
 have hlx:(zbx xs i P).length=n:=by rw [zfp (by rw [hPl];omega),hn]
 have hPc:∀ c∈P,c.length=11:=fun c hc=>hxl c (by rw [← hPe] at hc;exact List.mem_of_mem_take (List.mem_of_mem_drop hc))
 have hYt:(zbx xs i P).take (k - 1)=(xs.take k).eraseIdx i:=by
  rw [zst hi Zo,hPe]
  unfold zbx
  rw [← List.append_assoc,List.take_append_of_le_length Zp,List.take_of_length_le Zp]
 have hYc:∀ c∈zbx xs i P,c.length=11:=fun c hc=>by
  unfold zbx at hc
  simp only [List.mem_append] at hc
  rcases hc with hc|hc|hc
  ·exact hxl c (List.mem_of_mem_take hc)
  ·exact hPc c hc
  ·exact hxl c (List.mem_of_mem_drop hc)
 generalize hYe:zbx xs i P=Y at *
 obtain ⟨m,ys,⟨hm,hy⟩,hc⟩:=hc0 ⟨⟨hn,by omega,by omega,by simp;omega⟩,by omega,by simp;omega⟩ ⟨hn,by omega,by omega,by simp;omega⟩ ⟨hn,by omega,by omega,by simp;omega⟩ ⟨hn,⟨hPc⟩,hn,by omega⟩ hlx.symm ⟨hlx.symm,by omega,by omega,by simp;omega⟩
 have hz1:((k - 0:Nat):Int).toNat - ((k - 1 - 0:Nat):Int).toNat=1:=by simp;omega
 rw [hz1] at hy
 have hyl:ys.length=n:=by rw [hy,zfp Zp,hlx]
 have hz11:(frzL [] (E0.T Ty.Trigger).zero).length=11:=by rw [zcM];kernel_rfl
 have hyc:∀ c∈ys,c.length=11:=fun c hc=>by
  rw [hy] at hc
  unfold zbx at hc
  simp only [List.mem_append,List.mem_replicate] at hc
  rcases hc with hc|hc|hc
  ·exact hYc c (List.mem_of_mem_take hc)
  ·rw [hc.2];exact hz11
  ·exact hYc c (List.mem_of_mem_drop hc)
 have hyt:ys.take (k - 1)=(cur.eraseIdx i).map Tg.cells:=by
  have h1:ys.take (k - 1)=Y.take (k - 1):=by
   rw [hy]
   unfold zbx
   rw [Nat.sub_zero,List.take_append_of_le_length Zp,List.take_take,Nat.min_self]
  have e2:xs.take k=cur.map Tg.cells:=by rw [hxs,hk];exact List.take_left' Zs
  rw [h1,hYt,e2,List.eraseIdx_eq_take_drop_succ,List.eraseIdx_eq_take_drop_succ,List.map_append,List.map_take,List.map_drop]
 have hel:(cur.eraseIdx i).length=k - 1:=by rw [List.length_eraseIdx,if_pos Zo,hk]
 have hyd:ys=(cur.eraseIdx i).map Tg.cells++ys.drop (k - 1):=by rw [← hyt,List.take_append_drop]
 refine ⟨ys.drop (k - 1),⟨by rw [← hyd,hyl],fun c hc=>hyc c (List.mem_of_mem_drop hc)⟩,?_⟩
 rw [← hyd,hel,← hm,← hxs,← hk]
 exact hc
theorem zws (l:List V) (hl:zac l):Good E0 B.AB [.row Ty.Value (l.map V.cells) false] (zbC (zcZ B.AB [.own 0 l.length] [.row Ty.Value (l.map V.cells) false] 1) false) (fun r h=>r=.own 1 l.length/\h=[.row Ty.Value (l.map V.cells) false,.row Ty.Value (l.map V.cells) false]) :=
 zcD E0ok mix0 3000 (y:=AV.own 1 (List.map V.cells l).length) (H:=[Blk.row Ty.Value (List.map V.cells l) false,Blk.row Ty.Value (List.map V.cells l) false]) [sb Zf,sq (show l.length=(List.map V.cells l).length/\AllLen (List.map V.cells l) 3/\((List.map V.cells l).length * 32).le 140737488355328 from ⟨by simp,⟨by simp⟩,by simp;omega⟩)] kr (⟨by simp,rfl⟩)
theorem zwt:Good E0 B.AB [.row Ty.Value [] false] (zbC (zcZ B.AB [.own 0 0] [.row Ty.Value [] false] 1) true) (fun r h=>r=.nl/\h=[.row Ty.Value [] false]) :=
 zcD E0ok mix0 3000 (y:=AV.nl) (H:=[.row Ty.Value [] false]) [sb Zt] kr (⟨rfl,rfl⟩)
theorem zca (l:List V) (hl:zac l):zaa E0 S.AB [.own 0 l.length] [.row Ty.Value (l.map V.cells) false] (.own 1 l.length) [.row Ty.Value (l.map V.cells) false,.row Ty.Value (l.map V.cells) false]:=by
 refine zaV At.AB rfl kr (Nat.le_of_ble_eq_true kr) (zcK E0ok mix0 3000 [] (List.range 40) 1 (c':=zcZ B.AB [.own 0 l.length] [.row Ty.Value (l.map V.cells) false] 1) kr kr (zyp E0ok (xs:=l.map V.cells) (n:=l.length) (e:=true) kr Zs fun b hb=>?_))
 cases b with
 | false=>exact zws l hl
 | true =>
  cases l with
  | nil=>exact zcS Ty.Value zwt ⟨rfl,rfl⟩
  | cons x r=>exact absurd (hb Zs) Zs
def za9 (t:Tg) (s:Sch) (a b:List V):(List Fr) :=
 bif !t.each then
  []
 else
  bif t.event==2 then
   bif t.event==1 then
    [Fr.mk ZsO true s.cols a,Fr.mk ZsN true s.cols b]
   else
    [Fr.mk ZsO true s.cols a,Fr.mk ZsN true s.cols b]
  else
   bif t.event==3 then
    bif t.event==1 then
     [Fr.mk ZsO true s.cols a,Fr.mk ZsN true s.cols b]
    else
     [Fr.mk ZsO true s.cols a]
   else
    bif t.event==1 then
     [Fr.mk ZsN true s.cols b]
    else
     []
theorem zb6 (t:Tg) (s:Sch) (a b:List V) (hs:zac s.cols) (ha:zac a) (hb:zac b):zaa E0 S.BF [t.av,s.av,vsl a,.own 0 b.length] [.row Ty.Value (b.map V.cells) false] (fsl (za9 t s a b)) [.row Ty.Value (b.map V.cells) false]:=by
 unfold za9
 cases h1:!t.each
 ·cases h2:t.event==2
  ·cases h3:t.event==3
   ·cases h4:t.event==1
    ·exact wk At.BF [sb h1,sg h2,sb h3,sg h4,sb h2] kr
    ·exact (by (try simp only [zsl,xCol,xLit,xBin,xNeg]);exact wk At.BF [sqx (1=1),sb h1,sg h2,sb h3,sb h4,sc (zaX s.cols zdI),sl [0] (zca b zdI),sqx (True/\True/\s.cols.length=(List.map Col.cells s.cols).length/\b.length=(List.map V.cells b).length/\True),sqx (AllLen [[sv ZsN,bv true,ZC s.cols,vsl b]] 4/\Nat.le 72 140737488355328)] kr)
   ·cases h5:t.event==1
    ·exact (by (try simp only [zsl,xCol,xLit,xBin,xNeg]);exact wk At.BF [sqx (1=1),sb h1,sg h2,sb h3,sc (zaX s.cols zdI),sc (za1 a zdI),sqx (True/\True/\s.cols.length=(List.map Col.cells s.cols).length/\a.length=(List.map V.cells a).length/\True),sqx (AllLen [[sv ZsO,bv true,ZC s.cols,vsl a]] 4/\Nat.le 72 140737488355328),sg h5,sb h2] kr)
    ·exact (by (try simp only [zsl,xCol,xLit,xBin,xNeg]);exact wk At.BF [sqx (2=2),sb h1,sg h2,sb h3,sc (zaX s.cols zdI),sc (za1 a zdI),sqx (True/\True/\s.cols.length=(List.map Col.cells s.cols).length/\a.length=(List.map V.cells a).length/\True),sqx (AllLen [[sv ZsO,bv true,ZC s.cols,vsl a]] 4/\Nat.le 72 140737488355328),sb h5,sc (zaX s.cols zdI),sl [0] (zca b zdI),sqx (True/\True/\s.cols.length=(List.map Col.cells s.cols).length/\b.length=(List.map V.cells b).length/\True),sqx (AllLen [[sv ZsN,bv true,ZC s.cols,vsl b]] 4/\1=1/\Nat.le 144 140737488355328)] kr)
  ·let p_1:List St:=[sqx (2=2),sb h1,sb h2,sc (zaX s.cols zdI),sc (za1 a zdI),sqx (True/\True/\s.cols.length=(List.map Col.cells s.cols).length/\a.length=(List.map V.cells a).length/\True),sqx (AllLen [[sv ZsO,bv true,ZC s.cols,vsl a]] 4/\Nat.le 72 140737488355328)]
   cases h6:t.event==1
   ·exact (by (try simp only [zsl,xCol,xLit,xBin,xNeg]);exact wk At.BF (p_1++[sg h6,sb h2,sc (zaX s.cols zdI),sl [0] (zca b zdI),sqx (True/\True/\s.cols.length=(List.map Col.cells s.cols).length/\b.length=(List.map V.cells b).length/\True),sqx (AllLen [[sv ZsN,bv true,ZC s.cols,vsl b]] 4/\1=1/\Nat.le 144 140737488355328)]) kr)
   ·exact (by (try simp only [zsl,xCol,xLit,xBin,xNeg]);exact wk At.BF (p_1++[sb h6,sc (zaX s.cols zdI),sl [0] (zca b zdI),sqx (True/\True/\s.cols.length=(List.map Col.cells s.cols).length/\b.length=(List.map V.cells b).length/\True),sqx (AllLen [[sv ZsN,bv true,ZC s.cols,vsl b]] 4/\1=1/\Nat.le 144 140737488355328)]) kr)
 ·exact wk At.BF [sb h1] kr
theorem zcO {p:Prop} (h:p:=by first|assumption|omega|(simp;done)|(simp;omega)):p:=h
theorem zeI {p:Prop} (h:p:=by first|assumption|omega|(simp at h2 h4;omega)):p:=h
abbrev RB (s:Sch) (old new:List V) (tb:List Tb):Heap:=[.box [sv s.name,.sl (s.cols.map Col.cells),vsl old,.own 1 new.length,tsl tb],.row Ty.Value (new.map V.cells) false]
def zmx:Se:=⟨⟨#[]⟩,.mk 0 0 false ⟨0,0,⟨#[]⟩⟩ ⟨#[]⟩ ⟨#[]⟩ [] []⟩
def Ac.set0 (a:Ac):Se:=a.sets.headD zmx
theorem zf2 (a:Ac) (h:(((((a.sets.map Se.cells).length:Nat):Int)) != 1)=false):ElAt (a.sets.map Se.cells) 0 (Se.cells a.set0) 11:=by
 unfold Ac.set0
 cases hs:a.sets with
 | nil=>rw [hs] at h;simp at h
 | cons p r=>exact ⟨by decide,rfl,rfl⟩
def zc7 (f:X->V × Int) (a:Ac) (fr:List Fr) (s:Sch) (old new:List V) (tb:List Tb):Int × (List V) :=
 bif (↑(List.map Se.cells a.sets).length:Int) != 1 then
  (17,new)
 else
  bif decide (idxF (fun c=>colC c a.set0.col) s.cols 0 < 0) then
   (3,new)
  else
   bif (f a.set0.ex).snd != 0 then
    ((f a.set0.ex).snd,new)
   else
    bif (new.length:Int) != (↑(List.map Col.cells s.cols).length:Int) then
     (17,new)
    else
     (0,new.set (idxF (fun c=>colC c a.set0.col) s.cols 0).toNat (f a.set0.ex).fst)
theorem zhU (f:X->V × Int) (a:Ac) (fr:List Fr) (s:Sch) (old new:List V) (tb:List Tb) (hs:zac s.cols) (hlt:idxF (fun c=>colC c a.set0.col) s.cols 0 < (s.cols.length:Int)) (hf:Pure S.Ai [a.set0.ex.av,fsl fr,tsl tb] (.tup [(f a.set0.ex).1.av,iv (f a.set0.ex).2])):zaa E0 S.Ce [.p 0 0,a.av,fsl fr] (RB s old new tb) (iv (zc7 f a fr s old new tb).1) (RB s old (zc7 f a fr s old new tb).2 tb):=by
 unfold zc7
 cases h1:(↑(List.map Se.cells a.sets).length:Int) != 1
 ·cases h2:decide (idxF (fun c=>colC c a.set0.col) s.cols 0 < 0)
  ·cases h3:(f a.set0.ex).snd != 0
   ·cases h4:(new.length:Int) != (↑(List.map Col.cells s.cols).length:Int)
    ·obtain ⟨x5,e5⟩:=zaY (l:=new) (i:=(idxF (fun c=>colC c a.set0.col) s.cols 0).toNat) zeI
     exact wkS At.Ce (y:=iv 0) (H:=[Blk.box [sv s.name,ZC s.cols,vsl old,AV.own 1 new.length,tsl tb],Blk.row Ty.Value ((List.map V.cells new).set (idxF (fun c=>colC c a.set0.col) s.cols 0).toNat [iv (f a.set0.ex).fst.kind,iv (f a.set0.ex).fst.int,sv (f a.set0.ex).fst.text]) false]) [sb h1,sd [(6,[se (zf2 a zeI)]),(9,[sc (zbl s a.set0.col zeI)])],sb h2,sdm [(2,[se (zf2 a zeI)]),(10,[sc hf])] 0 [(0,AV.p 0 0),(1,AV.agg [iv a.kind,sv a.table,AV.sl (List.map (fun r=>[AV.sl (zad r)]) a.rows),AV.sl (zag a.query),ZE a.sets,AV.sl (zad a.wh),sv a.text]),(2,fsl fr),(4,AV.p 2 0),(6,iv 0),(7,iv (idxF (fun c=>colC c a.set0.col) s.cols 0)),(8,AV.p 3 0),(9,iv (f a.set0.ex).snd),(10,AV.p 2 4),(11,ZE a.sets),(12,iv (↑(List.map Se.cells a.sets).length:Int)),(13,AV.bl false),(14,AV.p 0 0),(15,AV.p 0 0),(16,AV.p 0 0),(17,AV.agg s.cells),(18,AV.p 2 4),(19,ZE a.sets),(20,AV.dp (sv a.set0.col::a.set0.ex.cells)),(21,AV.dp (sv a.set0.col::a.set0.ex.cells)),(22,sv a.set0.col),(23,iv (idxF (fun c=>colC c a.set0.col) s.cols 0)),(24,iv (idxF (fun c=>colC c a.set0.col) s.cols 0)),(25,AV.bl false),(26,AV.tup [AV.agg [iv (f a.set0.ex).fst.kind,iv (f a.set0.ex).fst.int,sv (f a.set0.ex).fst.text],iv (f a.set0.ex).snd]),(27,AV.p 2 4),(28,ZE a.sets),(29,AV.dp (sv a.set0.col::a.set0.ex.cells)),(30,AV.dp a.set0.ex.cells),(31,AV.agg a.set0.ex.cells),(32,fsl fr),(33,AV.p 0 0),(34,AV.p 0 0),(35,AV.p 0 4),(36,tsl tb),(37,AV.tup [AV.agg [iv (f a.set0.ex).fst.kind,iv (f a.set0.ex).fst.int,sv (f a.set0.ex).fst.text],iv (f a.set0.ex).snd]),(38,AV.agg [iv (f a.set0.ex).fst.kind,iv (f a.set0.ex).fst.int,sv (f a.set0.ex).fst.text]),(39,iv (f a.set0.ex).snd)] [Blk.box [sv s.name,ZC s.cols,vsl old,AV.own 1 new.length,tsl tb],Blk.row Ty.Value (List.map V.cells new) false,Blk.box [iv a.kind,sv a.table,AV.sl (List.map (fun r=>[AV.sl (zad r)]) a.rows),AV.sl (zag a.query),ZE a.sets,AV.sl (zad a.wh),sv a.text],Blk.box [iv (f a.set0.ex).fst.kind,iv (f a.set0.ex).fst.int,sv (f a.set0.ex).fst.text]],sb h3,sd [(4,[sqx (new.length=(List.map V.cells new).length)])],sb h4,sd [(6,[sqx (OwnAt (List.map V.cells new) new.length (idxF (fun c=>colC c a.set0.col) s.cols 0))]),(7,[sx (.el x5.cells) (And.intro (owed (p:=True/\True/\True/\True)) (ze3 V.cells (n:=new.length) Zs e5))])]] kr ⟨by first|rfl|(simp [List.map_set];done)|(simp [List.map_set];rfl),by first|rfl|(simp [List.map_set];done)|(simp [List.map_set];rfl)⟩
    ·exact wk At.Ce [sb h1,sd [(6,[se (zf2 a zeI)]),(9,[sc (zbl s a.set0.col zeI)])],sb h2,sdm [(2,[se (zf2 a zeI)]),(10,[sc hf])] 0 [(0,AV.p 0 0),(1,AV.agg [iv a.kind,sv a.table,AV.sl (List.map (fun r=>[AV.sl (zad r)]) a.rows),AV.sl (zag a.query),ZE a.sets,AV.sl (zad a.wh),sv a.text]),(2,fsl fr),(4,AV.p 2 0),(6,iv 0),(7,iv (idxF (fun c=>colC c a.set0.col) s.cols 0)),(8,AV.p 3 0),(9,iv (f a.set0.ex).snd),(10,AV.p 2 4),(11,ZE a.sets),(12,iv (↑(List.map Se.cells a.sets).length:Int)),(13,AV.bl false),(14,AV.p 0 0),(15,AV.p 0 0),(16,AV.p 0 0),(17,AV.agg s.cells),(18,AV.p 2 4),(19,ZE a.sets),(20,AV.dp (sv a.set0.col::a.set0.ex.cells)),(21,AV.dp (sv a.set0.col::a.set0.ex.cells)),(22,sv a.set0.col),(23,iv (idxF (fun c=>colC c a.set0.col) s.cols 0)),(24,iv (idxF (fun c=>colC c a.set0.col) s.cols 0)),(25,AV.bl false),(26,AV.tup [AV.agg [iv (f a.set0.ex).fst.kind,iv (f a.set0.ex).fst.int,sv (f a.set0.ex).fst.text],iv (f a.set0.ex).snd]),(27,AV.p 2 4),(28,ZE a.sets),(29,AV.dp (sv a.set0.col::a.set0.ex.cells)),(30,AV.dp a.set0.ex.cells),(31,AV.agg a.set0.ex.cells),(32,fsl fr),(33,AV.p 0 0),(34,AV.p 0 0),(35,AV.p 0 4),(36,tsl tb),(37,AV.tup [AV.agg [iv (f a.set0.ex).fst.kind,iv (f a.set0.ex).fst.int,sv (f a.set0.ex).fst.text],iv (f a.set0.ex).snd]),(38,AV.agg [iv (f a.set0.ex).fst.kind,iv (f a.set0.ex).fst.int,sv (f a.set0.ex).fst.text]),(39,iv (f a.set0.ex).snd)] [Blk.box [sv s.name,ZC s.cols,vsl old,AV.own 1 new.length,tsl tb],Blk.row Ty.Value (List.map V.cells new) false,Blk.box [iv a.kind,sv a.table,AV.sl (List.map (fun r=>[AV.sl (zad r)]) a.rows),AV.sl (zag a.query),ZE a.sets,AV.sl (zad a.wh),sv a.text],Blk.box [iv (f a.set0.ex).fst.kind,iv (f a.set0.ex).fst.int,sv (f a.set0.ex).fst.text]],sb h3,sd [(4,[sqx (new.length=(List.map V.cells new).length)])],sb h4] kr
   ·exact wk At.Ce [sb h1,sd [(6,[se (zf2 a zeI)]),(9,[sc (zbl s a.set0.col zeI)])],sb h2,sdm [(2,[se (zf2 a zeI)]),(10,[sc hf])] 0 [(0,AV.p 0 0),(1,AV.agg [iv a.kind,sv a.table,AV.sl (List.map (fun r=>[AV.sl (zad r)]) a.rows),AV.sl (zag a.query),ZE a.sets,AV.sl (zad a.wh),sv a.text]),(2,fsl fr),(4,AV.p 2 0),(6,iv 0),(7,iv (idxF (fun c=>colC c a.set0.col) s.cols 0)),(8,AV.p 3 0),(9,iv (f a.set0.ex).snd),(10,AV.p 2 4),(11,ZE a.sets),(12,iv (↑(List.map Se.cells a.sets).length:Int)),(13,AV.bl false),(14,AV.p 0 0),(15,AV.p 0 0),(16,AV.p 0 0),(17,AV.agg s.cells),(18,AV.p 2 4),(19,ZE a.sets),(20,AV.dp (sv a.set0.col::a.set0.ex.cells)),(21,AV.dp (sv a.set0.col::a.set0.ex.cells)),(22,sv a.set0.col),(23,iv (idxF (fun c=>colC c a.set0.col) s.cols 0)),(24,iv (idxF (fun c=>colC c a.set0.col) s.cols 0)),(25,AV.bl false),(26,AV.tup [AV.agg [iv (f a.set0.ex).fst.kind,iv (f a.set0.ex).fst.int,sv (f a.set0.ex).fst.text],iv (f a.set0.ex).snd]),(27,AV.p 2 4),(28,ZE a.sets),(29,AV.dp (sv a.set0.col::a.set0.ex.cells)),(30,AV.dp a.set0.ex.cells),(31,AV.agg a.set0.ex.cells),(32,fsl fr),(33,AV.p 0 0),(34,AV.p 0 0),(35,AV.p 0 4),(36,tsl tb),(37,AV.tup [AV.agg [iv (f a.set0.ex).fst.kind,iv (f a.set0.ex).fst.int,sv (f a.set0.ex).fst.text],iv (f a.set0.ex).snd]),(38,AV.agg [iv (f a.set0.ex).fst.kind,iv (f a.set0.ex).fst.int,sv (f a.set0.ex).fst.text]),(39,iv (f a.set0.ex).snd)] [Blk.box [sv s.name,ZC s.cols,vsl old,AV.own 1 new.length,tsl tb],Blk.row Ty.Value (List.map V.cells new) false,Blk.box [iv a.kind,sv a.table,AV.sl (List.map (fun r=>[AV.sl (zad r)]) a.rows),AV.sl (zag a.query),ZE a.sets,AV.sl (zad a.wh),sv a.text],Blk.box [iv (f a.set0.ex).fst.kind,iv (f a.set0.ex).fst.int,sv (f a.set0.ex).fst.text]],sb h3] kr
  ·exact wk At.Ce [sb h1,sd [(6,[se (zf2 a zeI)]),(9,[sc (zbl s a.set0.col zeI)])],sb h2] kr
 ·exact wk At.Ce [sb h1] kr
theorem zpO {α:Type} (p:α->Bool):∀ (l:List α) (i:Nat),idxF p l i < ((i+l.length:Nat):Int)\/idxF p l i=-1
 | [],i=>.inr rfl
 | x::r,i=>by
  simp only [idxF]
  cases p x
  ·rcases zpO p r (i+1) with h|h
   ·exact .inl (by simp only [List.length_cons];simpa [Nat.add_assoc,Nat.add_comm 1] using h)
   ·exact .inr h
  ·exact .inl (by simp only [List.length_cons,cond_true];omega)
theorem zA3 (s:Sch) (n:Str):idxF (fun c=>colC c n) s.cols 0 < (s.cols.length:Int):=by
 rcases zpO (fun c=>colC c n) s.cols 0 with h|h
 ·simpa using h
 ·omega
noncomputable def zAy (f:List V->X->V × Int) (I:List V->Prop) (t:Tg) (s:Sch) (old:List V) (tb:List Tb) (new0:List V) (i:Nat) (nw:List V):Cfg:=zaj B.Bv 0 [(0,.p 0 0),(3,.p 2 0),(42,.sl (t.acts.map Ac.cells)),(43,iv ((t.acts.map Ac.cells).length:Nat)),(44,iv (i:Nat))] (RB s old nw tb++[.box t.cells])
def ziH (f:List V->X->V × Int) (I:List V->Prop) (t:Tg) (s:Sch) (old:List V) (tb:List Tb) (new0:List V):List (Ac)->Nat->(List V)->Int × (List V)
 | [],i,nw =>
  (0,nw)
 | x::r,i,nw =>
  bif x.kind==4 then
   (12,nw)
  else
   bif x.kind==5 then
    bif (zc7 (f nw) x (za9 t s old nw) s old nw tb).fst != 0 then
     ((zc7 (f nw) x (za9 t s old nw) s old nw tb).fst,(zc7 (f nw) x (za9 t s old nw) s old nw tb).snd)
    else
     ziH f I t s old tb new0 r (i+1) ((zc7 (f nw) x (za9 t s old nw) s old nw tb).snd)
   else
    (17,nw)
theorem zsZ (f:List V->X->V × Int) (I:List V->Prop) (t:Tg) (s:Sch) (old:List V) (tb:List Tb) (new0:List V) (hs:zac s.cols) (ho:zac old) (hIs:∀ nw,I nw->zac nw) (hf:∀ nw,I nw->∀ a∈t.acts,Pure S.Ai [a.set0.ex.av,fsl (za9 t s old nw),tsl tb] (.tup [(f nw a.set0.ex).1.av,iv (f nw a.set0.ex).2])) (hI:∀ nw,I nw->∀ a∈t.acts,I (zc7 (f nw) a (za9 t s old nw) s old nw tb).2) (hla:zac t.acts):∀ (kk i:Nat) (nw:List V),i+kk=(t.acts).length->(I nw)->Good E0 B.Bv (RB s old new0 tb) (zAy f I t s old tb new0 i nw) (Shut 2 fun r h=>r=(iv (ziH f I t s old tb new0 ((t.acts).drop i) i nw).1)/\h=(RB s old (ziH f I t s old tb new0 ((t.acts).drop i) i nw).2 tb)):=by
 intro kk
 induction kk with
 | zero =>
  intro i nw hi hv
  have h0:decide (((i:Nat):Int) < (((t.acts.map Ac.cells).length:Nat):Int))=false:=by simp;omega
  have e0:(t.acts).drop i=[]:=List.drop_of_length_le Zo
  rw [e0]
  simp only [ziH]
  refine zab ?_
  exact wkr [sb h0] kr
 | succ kk ih =>
  intro i nw hi hv
  obtain ⟨x,hx⟩:=zaY (l:=t.acts) (i:=i) Zo
  have h0:decide (((i:Nat):Int) < (((t.acts.map Ac.cells).length:Nat):Int))=true:=by simp;omega
  have hw:=zaJ i (by first|omega|(simp only [zac,Few] at *;omega))
  have hfx:=hf nw hv x (List.mem_of_getElem? hx)
  have hns:=hIs nw hv
  have hlx:=zA3 s x.set0.col
  rw [zap hx]
  simp only [ziH]
  refine zab ?_
  cases h1:x.kind==4
  ·cases h2:x.kind==5
   ·exact wkr [sb h0,se (zaf Ac.cells hx rfl),sb h1,sb h2,sb Zt] kr
   ·cases h3:(zc7 (f nw) x (za9 t s old nw) s old nw tb).fst != 0
    ·exact wkl [sb h0,se (zaf Ac.cells hx rfl),sb h1,sb h2,sd [(15,[sl [1] (zb6 t s old nw zcO zcO zcO)]),(16,[sl [0,1] (zhU (f nw) x (za9 t s old nw) s old nw tb zcO zcO hfx)])],sb h3,si hw] [0,3,42,43,44] 3 kr (ih (i+1) ((zc7 (f nw) x (za9 t s old nw) s old nw tb).snd) Zo (by first|assumption|exact hI nw hv x (List.mem_of_getElem? hx)))
    ·exact wkr [sb h0,se (zaf Ac.cells hx rfl),sb h1,sb h2,sd [(15,[sl [1] (zb6 t s old nw zcO zcO zcO)]),(16,[sl [0,1] (zhU (f nw) x (za9 t s old nw) s old nw tb zcO zcO hfx)])],sb h3] kr
  ·exact wkr [sb h0,se (zaf Ac.cells hx rfl),sb h1,sb Zt] kr
def fire (tr:List V->Bool × Int) (f:List V->X->V × Int) (I:List V->Prop) (t:Tg) (s:Sch) (old nw:List V) (tb:List Tb):Int × (List V) :=
 bif (tr nw).snd != 0 then
  ((tr nw).snd,nw)
 else
  bif !(tr nw).fst then
   ((tr nw).snd,nw)
  else
   ziH f I t s old tb nw t.acts 0 (nw)
theorem c_fire (tr:List V->Bool × Int) (f:List V->X->V × Int) (I:List V->Prop) (t:Tg) (s:Sch) (old nw:List V) (tb:List Tb) (hs:zac s.cols) (ho:zac old) (hIs:∀ nw,I nw->zac nw) (hf:∀ nw,I nw->∀ a∈t.acts,Pure S.Ai [a.set0.ex.av,fsl (za9 t s old nw),tsl tb] (.tup [(f nw a.set0.ex).1.av,iv (f nw a.set0.ex).2])) (hI:∀ nw,I nw->∀ a∈t.acts,I (zc7 (f nw) a (za9 t s old nw) s old nw tb).2) (hla:zac t.acts) (hT:Pure S.AH [xsl t.when_,fsl (za9 t s old nw),tsl tb] (.tup [bv (tr nw).1,iv (tr nw).2])) (hv:I nw) (hns:zac nw):zaa E0 S.Bv [.p 0 0,t.av] (RB s old nw tb) (iv (fire tr f I t s old nw tb).1) (RB s old (fire tr f I t s old nw tb).2 tb):=by
 unfold fire
 cases h1:(tr nw).snd != 0
 ·cases h2:!(tr nw).fst
  ·exact wkc At.Bv [sd [(15,[sl [1] (zb6 t s old nw zcO zcO zcO)]),(20,[sc hT])],sg h1,sb h2] [0,3,42,43,44] 3 kr (zsZ f I t s old tb nw hs ho hIs hf hI hla t.acts.length 0 nw Zs hv)
  ·exact wk At.Bv [sd [(15,[sl [1] (zb6 t s old nw zcO zcO zcO)]),(20,[sc hT])],sg h1,sb h2] kr
 ·exact wk At.Bv [sd [(15,[sl [1] (zb6 t s old nw zcO zcO zcO)]),(20,[sc hT])],sb h1] kr
structure NwOk (nw:List V):Prop where
 len:nw.length<=1000
 good:∀ v∈nw,v.Good
theorem NwOk.short {nw:List V} (h:NwOk nw):zac nw:=by have:=h.len;simp only [zac];omega
theorem zuE {t:Tg} {s:Sch} {a b:List V}:(za9 t s a b).length<=2/\∀ f∈za9 t s a b,f.cols=s.cols/\(f.vals=a\/f.vals=b):=by
 unfold za9
 cases t.each <;> cases t.event==2 <;> cases t.event==3 <;> cases t.event==1 <;> simp
theorem zpt {t:Tg} {s:Sch} {a b:List V} (hs:Few s.cols) (ha:NwOk a) (hb:NwOk b) (N:Nat) (hN:N<=900000):FsOk N (za9 t s a b)/\FsG (za9 t s a b):=by
 obtain ⟨h1,h2⟩:=zuE (t:=t) (s:=s) (a:=a) (b:=b)
 have hv:∀ f∈za9 t s a b,∀ v∈f.vals,v.Good:=fun f hf v hv=>by
  rcases (h2 f hf).2 with e|e <;> rw [e] at hv
  ·exact ha.good v hv
  ·exact hb.good v hv
 exact ⟨⟨by omega,fun f hf=>by rw [(h2 f hf).1];simp only [Few] at hs;simp only [zac];omega,fun f hf v h=>(hv f hf v h).small⟩,hv⟩
theorem bif2 {α β:Type} {P:β->Prop} {c:Bool} {x y:α × β} (hx:P x.2) (hy:P y.2):P (cond c x y).2:=by cases c <;> assumption
theorem zqE {f:X->V × Int} {a:Ac} {fr:List Fr} {s:Sch} {old nw:List V} {tb:List Tb} (h:NwOk nw) (hf:(f a.set0.ex).1.Good):NwOk (zc7 f a fr s old nw tb).2:=by
 have hset:∀ i,NwOk (nw.set i (f a.set0.ex).1):=fun i=>⟨by rw [List.length_set];exact h.len,fun v hv=>(List.mem_or_eq_of_mem_set hv).elim (h.good v) fun e=>e ▸ hf⟩
 unfold zc7
 repeat' first|exact h|exact hset _|refine bif2 (P:=NwOk) ?_ ?_
structure TrOk (n:Nat) (t:Tg):Prop where
 acts:zac t.acts
 sets:∀ a∈t.acts,XOk n a.set0.ex
 when_:∀ x∈t.when_,XOk n x
def zde (n:Nat) (t:Tg) (s:Sch) (old nw:List V) (tb:List Tb):Int × List V :=
 fire (fun nw=>zba (fun x=>eval n x (za9 t s old nw) tb) t.when_) (fun nw x=>eval n x (za9 t s old nw) tb) NwOk t s old nw tb
theorem zsD {f:List V->X->V × Int} {t:Tg} {s:Sch} {old:List V} {tb:List Tb} {new0:List V} (hI:∀ nw,NwOk nw->∀ a∈t.acts,NwOk (zc7 (f nw) a (za9 t s old nw) s old nw tb).2):∀ (l:List Ac) (i:Nat) (nw:List V),(∀ a∈l,a∈t.acts)->NwOk nw->NwOk (ziH f NwOk t s old tb new0 l i nw).2
 | [],_,_,_,h=>h
 | x::r,i,nw,hm,h=>by
  have h1:=hI nw h x (hm x Zs)
  have h2:=fun j nw h=>zsD (new0:=new0) hI r j nw (fun a ha=>hm a (by simp [ha])) h
  unfold ziH
  repeat' first|exact h|exact h1|exact h2 _ _ h|exact h2 _ _ h1|refine bif2 (P:=NwOk) ?_ ?_
theorem zzM {n:Nat} {t:Tg} {s:Sch} {old nw:List V} {tb:List Tb} (hn:n<=900000) (ht:TrOk n t) (hs:Few s.cols) (ho:NwOk old) (hw:NwOk nw) (htg:TbG tb):NwOk (zde n t s old nw tb).2:=by
 unfold zde fire
 have h:=zsD (f:=fun nw x=>eval n x (za9 t s old nw) tb) (t:=t) (s:=s) (old:=old) (tb:=tb) (new0:=nw) (fun nw h a ha=>zqE h (zbA n _ _ tb (ht.sets a ha) (zpt hs ho h n hn).2 htg)) t.acts 0 nw (fun a ha=>ha) hw
 repeat' first|exact hw|exact h|refine bif2 (P:=NwOk) ?_ ?_
theorem zg3 (n:Nat) (t:Tg) (s:Sch) (old nw:List V) (tb:List Tb) (hn:n<=900000) (ht:TrOk n t) (hs:Few s.cols) (ho:NwOk old) (hw:NwOk nw) (hto:TbOk tb) (htg:TbG tb) :
  zaa E0 S.Bv [.p 0 0,t.av] (RB s old nw tb) (iv (zde n t s old nw tb).1) (RB s old (zde n t s old nw tb).2 tb):=by
 have hss:zac s.cols:=by simp only [Few] at hs;simp only [zac];omega
 have hfr:∀ nw,NwOk nw->FsOk n (za9 t s old nw)/\FsG (za9 t s old nw):=fun nw h=>zpt hs ho h n hn
 exact c_fire (fun nw=>zba (fun x=>eval n x (za9 t s old nw) tb) t.when_) (fun nw x=>eval n x (za9 t s old nw) tb) NwOk t s old nw tb hss ho.short (fun _ h=>h.short)
  (fun nw h a ha=>zdz n _ _ tb (ht.sets a ha) (hfr nw h).1 (hfr nw h).2 hto htg)
  (fun nw h a ha=>zqE h (zbA n _ _ tb (ht.sets a ha) (hfr nw h).2 htg)) ht.acts
  (zlF (fun x hx=>zdz n x _ tb (ht.when_ x hx) (hfr nw hw).1 (hfr nw hw).2 hto htg) (fun x hx=>zbA n x _ tb (ht.when_ x hx) (hfr nw hw).2 htg)) hw hw.short
theorem zdf {p:Prop} (h:p:=by first|assumption|(rw [List.length_eraseIdx,if_pos hcb];omega)|exact (by assumption:n=_/\_).1|exact (by assumption:n=_/\_).2|exact Nat.le_trans (List.length_eraseIdx_le _ _) hc|exact fun t ht=>hT t (List.mem_of_mem_eraseIdx ht)|exact zzM hN hTx hs ho hw0 htg|exact zp2 hp|(simp only [List.length_append,List.length_cons,List.length_nil];omega)|omega):p:=h
theorem zbJ {p:Prop} (h:p:=by first|assumption|omega|(simp;done)|(simp;omega)):p:=h
abbrev RH5 (s:Sch) (old nw:List V) (tb:List Tb) (cur:List Tg) (rest:List (List AV)) (ch:List Int):Heap:=[.box s.cells,.row Ty.Value (nw.map V.cells) false,.box [sv s.name,.sl (s.cols.map Col.cells),vsl old,.own 1 nw.length,tsl tb],.row Ty.Trigger (cur.map Tg.cells++rest) false,.row Ty.int (ch.map fun n=>[iv n]) false]
noncomputable def zAw (N:Nat) (l:List Lk) (s:Sch) (old:List V) (tb:List Tb) (k:Nat) (cur:List Tg) (rest:List (List AV)) (n:Nat) (nw:List V) (ps ch:List Int):Cfg:=zaj B.AE 0 [(1,.sl (l.map Lk.cells)),(6,isl ps),(18,.p 2 0),(19,.os 3 n 0 cur.length),(20,.own 4 ch.length)] (RH5 s old nw tb cur rest ch)
def imOf (t:Tg):Im:=⟨t.name,0,[],[]⟩
theorem zys {cur:List Tg} {i:Nat} {x:Tg} {its:List Im} (hx:cur[i]?=some x) (h:its=(cur.take i).map imOf):its++[⟨x.name,0,[],[]⟩]=(cur.take (i+1)).map imOf:=by
 rw [List.take_add_one,hx,List.map_append,h];rfl
noncomputable def zmM (l:List Lk) (s:Sch) (old:List V) (tb:List Tb) (cur:List Tg) (rest:List (List AV)) (n:Nat) (nw:List V) (ps ch:List Int) (i:Nat) (its:List Im):Cfg:=zaj B.AE 1 [(1,.sl (l.map Lk.cells)),(6,isl ps),(18,.p 2 0),(19,.os 3 n 0 cur.length),(20,.own 4 ch.length),(21,.own 5 its.length),(41,.os 3 n 0 cur.length),(42,iv (cur.length - 0:Nat)),(43,iv (i:Nat))] (RH5 s old nw tb cur rest ch++[.row Ty.Item (its.map Im.cells) false])
theorem Zcv2 {p:Prop} (h:p:=by first|rfl|(simp;done)|(simp [X.cells,Qy.cells,V.cells,Col.cells,Rw.cells,Tb.cells,Fr.cells,Sch.cells,Tp.cells,Pl.cells,xCol,xLit,xBin,xNeg,Im.cells,Lk.cells];done)):p:=h
theorem zAM (l:List Lk) (s:Sch) (old:List V) (tb:List Tb) (cur:List Tg) (rest:List (List AV)) (n:Nat) (nw:List V) (ps ch:List Int) (hn:n=(cur.map Tg.cells++rest).length) (hc:zac cur) (i:Nat) (its:List Im) (hi:i<=((cur.length - 0))) (hI:its=(cur.take i).map imOf):∃ (its':List Im),(its'=(cur.take ((cur.length - 0))).map imOf)/\(decide (((((cur.length - 0)):Nat):Int) < ((((cur.length - 0)):Nat):Int))=false)/\∀ R,Good E0 B.AE [] (zmM l s old tb cur rest n nw ps ch ((cur.length - 0)) its') R->Good E0 B.AE [] (zmM l s old tb cur rest n nw ps ch i its) R:=by
 have hk:=hi;revert i its;refine zlp ((cur.length - 0)) (fun i hlt ih its hi hI _=>?_)
 have h0:decide (((i:Nat):Int) < ((((cur.length - 0)):Nat):Int))=true:=by simp;omega
 have hw:IntKind.i64.wrap (((i:Nat):Int)+1)=((i+1:Nat):Int):=zaJ i (by first|omega|(simp only [zac,Few] at *;omega))
 obtain ⟨x,hx⟩:=zaY (l:=cur) (i:=i) Zo
 have he:OwnEl (cur.map Tg.cells++rest) n i x.cells:=⟨hn,by rw [List.getElem?_append_left Zp];simp [hx]⟩
 have ho:OsEl (cur.map Tg.cells++rest) n 0 cur.length ((i:Nat):Int):=⟨hn,by omega,by simp;omega⟩
 have hil:its.length<=1000000000:=by rw [hI];simp;simp only [zac] at hc;omega
 exact Zih (ih (its++[Im.mk x.name 0 [] []]) Zo (by exact zys hx hI) Zo) fun R gY=>zab (wkl [sb h0,sqx (OsEl (List.map Tg.cells cur++rest) n 0 cur.length (i:Int)),sx (.el x.cells) he,sqA (List.map Im.cells its) [[sv x.name,iv 0,AV.sl [],AV.sl []]] its.length 4 72,si hw] [1,6,18,19,20,21,41,42,43] 6 kr (zaF (show ([(1,ZL l),(6,AV.sl (List.map (fun n=>[iv n]) ps)),(18,AV.p 2 0),(19,AV.os 3 n 0 cur.length),(20,AV.own 4 ch.length),(21,AV.own 5 (List.map Im.cells its++[[sv x.name,iv 0,AV.sl [],AV.sl []]]).length),(41,AV.os 3 n 0 cur.length),(42,iv (↑(cur.length - 0):Int)),(43,iv (↑(i+1):Int))]:TS)=_ from Zcv2) (show ([Blk.box s.cells,Blk.row Ty.Value (List.map V.cells nw) false,Blk.box [sv s.name,ZC s.cols,vsl old,AV.own 1 nw.length,tsl tb],Blk.row Ty.Trigger (List.map Tg.cells cur++rest) false,Blk.row Ty.int (List.map (fun n=>[iv n]) ch) false,Blk.row Ty.Item (List.map Im.cells its++[[sv x.name,iv 0,AV.sl [],AV.sl []]]) false]:Heap)=_ from Zcv2) gY))
theorem zie (l:List Lk) (s:Sch) (old:List V) (tb:List Tb) (cur:List Tg) (rest:List (List AV)) (n:Nat) (nw:List V) (ps ch:List Int) (hn:n=(cur.map Tg.cells++rest).length) (hc:zac cur) :
  (decide (((cur.length - 0:Nat):Int) < ((cur.length - 0:Nat):Int))=false)/\∀ R,Good E0 B.AE [] (zmM l s old tb cur rest n nw ps ch (cur.length - 0) (cur.map imOf)) R->Good E0 B.AE [] (zmM l s old tb cur rest n nw ps ch 0 []) R:=by
 obtain ⟨its,h1,h2,h3⟩:=zAM l s old tb cur rest n nw ps ch hn hc 0 [] Zo Zs
 have e:cur.take (cur.length - 0)=cur:=List.take_of_length_le Zo
 rw [e] at h1
 subst h1
 exact ⟨h2,h3⟩
def zch:Tg:=⟨⟨#[]⟩,⟨#[]⟩,false,0,[],false,[],[],[],[],[]⟩
abbrev pl (cur:List Tg) (l:List Lk) (ps:List Int):Nat:=zb3 (cur.map imOf) l ps
theorem zp2 {n:Int} {ps:List Int} (h:Room ps):Room (zbM n ps).2:=by
 unfold zbM
 cases decide (n < 2)
 ·cases ps with
  | nil=>simp
  | cons p r=>simp only [Room,List.length_cons] at h;simp only [cond_false,Room];omega
 ·exact h
def brow (N:Nat) (l:List Lk) (s:Sch) (old:List V) (tb:List Tb):Nat->(List Tg)->(List V)->(List Int)->(List Int)->(List V) × (List Int) × (List Int) × Int
 | 0,cur,nw,ps,ch =>
  (nw,ps,ch,0)
 | k+1,cur,nw,ps,ch =>
  bif (↑(List.map (fun n=>[iv n]) (zaI (List.map imOf cur) l (List.map imOf cur).length)).length:Int)==0 then
   ([],[],[],17)
  else
   bif decide (1 < (↑(List.map (fun n=>[iv n]) (zaI (List.map imOf cur) l (List.map imOf cur).length)).length:Int)) then
    bif (zde N (cur.getD (pl cur l ps) zch) s old nw tb).fst != 0 then
     ([],[],[],(zde N (cur.getD (pl cur l ps) zch) s old nw tb).fst)
    else
     brow N l s old tb k (cur.eraseIdx (zb3 (List.map imOf cur) l ps)) ((zde N (cur.getD (pl cur l ps) zch) s old nw tb).snd) ((zbM (↑(List.map (fun n=>[iv n]) (zaI (List.map imOf cur) l (List.map imOf cur).length)).length:Int) ps).snd) (ch++[(↑(List.map (fun n=>[iv n]) (zaI (List.map imOf cur) l (List.map imOf cur).length)).length:Int)])
   else
    bif (zde N (cur.getD (pl cur l ps) zch) s old nw tb).fst != 0 then
     ([],[],[],(zde N (cur.getD (pl cur l ps) zch) s old nw tb).fst)
    else
     brow N l s old tb k (cur.eraseIdx (zb3 (List.map imOf cur) l ps)) ((zde N (cur.getD (pl cur l ps) zch) s old nw tb).snd) ((zbM (↑(List.map (fun n=>[iv n]) (zaI (List.map imOf cur) l (List.map imOf cur).length)).length:Int) ps).snd) (ch)
theorem zuc (N:Nat) (l:List Lk) (s:Sch) (old:List V) (tb:List Tb) (hN:N<=900000) (hl:zac l) (hs:Few s.cols) (ho:NwOk old) (hto:TbOk tb) (htg:TbG tb):∀ (k:Nat) (cur:List Tg) (rest:List (List AV)) (n:Nat) (nw:List V) (ps ch:List Int),k<=1000000000->(cur.length=k)->(n=(cur.map Tg.cells++rest).length)->(∀ c∈rest,c.length=11)->(zac cur)->(∀ t∈cur,TrOk N t)->(NwOk nw)->(Room ps)->(ch.length+k<=1000000000)->Good E0 B.AE [] (zAw N l s old tb k cur rest n nw ps ch) (Shut 0 fun r h=>r=(.tup [vsl (brow N l s old tb k cur nw ps ch).1,isl (brow N l s old tb k cur nw ps ch).2.1,isl (brow N l s old tb k cur nw ps ch).2.2.1,iv (brow N l s old tb k cur nw ps ch).2.2.2])/\h=[]):=by
 intro k
 induction k with
 | zero =>
  intro cur rest n nw ps ch hk hk0 hn hr hc hT hw0 hp hch
  have hcl:decide ((0:Int) < ((cur.length - 0:Nat):Int))=false:=by rw [decide_eq_false_iff_not];omega
  simp only [brow]
  refine zab ?_
  exact wkr [sqx (nw.length=(List.map V.cells nw).length/\True/\ch.length=(List.map (fun n=>[iv n]) ch).length/\True/\True),sqx (n=(List.map Tg.cells cur++rest).length),sb hcl] kr
 | succ k ih =>
  intro cur rest n nw ps ch hk hk0 hn hr hc hT hw0 hp hch
  have h0:decide ((0:Int) < ((k+1:Nat):Int))=true:=by first|(simp;done)|(simp;omega)
  have hw:=zi1 k Zo
  have hcl:decide ((0:Int) < ((cur.length - 0:Nat):Int))=true:=by rw [decide_eq_true_iff];omega
  have hcb:zb3 (cur.map imOf) l ps < cur.length:=by have:=zx3 (cur.map imOf) l ps Zp;simpa using this
  have hso:zac (cur.map imOf):=by simp only [zac,List.length_map] at *;exact hc
  have hos:OsEl (cur.map Tg.cells++rest) n 0 cur.length ((pl cur l ps:Nat):Int):=⟨hn,by omega,by simp;omega⟩
  have hge:cur[pl cur l ps]?=some (cur.getD (pl cur l ps) zch):=by rw [List.getD_eq_getElem?_getD,List.getElem?_eq_getElem hcb];rfl
  have hoe:OwnEl (cur.map Tg.cells++rest) n (pl cur l ps) (cur.getD (pl cur l ps) zch).cells:=⟨hn,by rw [List.getElem?_append_left (by rw [List.length_map];exact hcb),List.getElem?_map,hge];rfl⟩
  have hTx:TrOk N (cur.getD (pl cur l ps) zch):=hT _ (List.mem_of_getElem? hge)
  simp only [brow]
  refine zab ?_
  obtain ⟨q1,g1⟩:=zie l s old tb cur rest n nw ps ch zbJ zbJ
  let p_1:List St:=[sqx (n=(List.map Tg.cells cur++rest).length),sb hcl,sqx (n=(List.map Tg.cells cur++rest).length)]
  let p_2:List St:=[sb q1,skx ((List.map imOf cur).length=(List.map Im.cells (List.map imOf cur)).length/\True/\True) [] (zoK (List.map imOf cur) l zbJ zbJ)]
  cases h2:(↑(List.map (fun n=>[iv n]) (zaI (List.map imOf cur) l (List.map imOf cur).length)).length:Int)==0
  ·let p_3:List St:=p_2++[sb h2,sc (zrb ((↑(List.map (fun n=>[iv n]) (zaI (List.map imOf cur) l (List.map imOf cur).length)).length:Int)) ps zbJ)]
   cases h3:decide (1 < (↑(List.map (fun n=>[iv n]) (zaI (List.map imOf cur) l (List.map imOf cur).length)).length:Int))
   ·let p_4:List St:=p_3++[sb h3,se (zuW (List.map imOf cur) l ps zbJ zbJ),sqx (OsEl (List.map Tg.cells cur++rest) n 0 cur.length (↑(zb3 (List.map imOf cur) l ps):Int)),sx (.el ((cur.getD (pl cur l ps) zch).cells)) hoe,sl [2,1] (zg3 N (cur.getD (pl cur l ps) zch) s old nw tb hN zbJ zbJ zbJ zbJ zbJ zbJ)]
    cases h4:(zde N (cur.getD (pl cur l ps) zch) s old nw tb).fst != 0
    ·obtain ⟨rest5,q5,c5⟩:=(zeh cur rest n (zb3 (List.map imOf cur) l ps) zbJ zbJ zbJ)
     exact wklN p_1 [1,6,18,19,20,21,41,42,43] 5 [(.ot 21 Ty.Item,6)] kr (g1 _ (zab (wkl (p_4++[sb h4,si (zbz (t:=(↑(zb3 (List.map imOf cur) l ps):Int)+1) (n:=zb3 (List.map imOf cur) l ps+1) Zo Zo),sl [3] c5]) [1,6,18,19,20] 5 kr (ih (cur.eraseIdx (zb3 (List.map imOf cur) l ps)) rest5 n ((zde N (cur.getD (pl cur l ps) zch) s old nw tb).snd) ((zbM (↑(List.map (fun n=>[iv n]) (zaI (List.map imOf cur) l (List.map imOf cur).length)).length:Int) ps).snd) ch Zo zdf zdf zdf zdf zdf zdf zdf zdf))))
    ·exact wklN p_1 [1,6,18,19,20,21,41,42,43] 5 [(.ot 21 Ty.Item,6)] kr (g1 _ (zab (wkr (p_4++[sb h4]) kr)))
   ·let p_5:List St:=p_3++[sb h3,sqA (List.map (fun n=>[iv n]) ch) [[iv (↑(List.map (fun n=>[iv n]) (zaI (List.map imOf cur) l (List.map imOf cur).length)).length:Int)]] ch.length 1 8,se (zuW (List.map imOf cur) l ps zbJ zbJ),sqx (OsEl (List.map Tg.cells cur++rest) n 0 cur.length (↑(zb3 (List.map imOf cur) l ps):Int)),sx (.el ((cur.getD (pl cur l ps) zch).cells)) hoe,sl [2,1] (zg3 N (cur.getD (pl cur l ps) zch) s old nw tb hN zbJ zbJ zbJ zbJ zbJ zbJ)]
    cases h6:(zde N (cur.getD (pl cur l ps) zch) s old nw tb).fst != 0
    ·obtain ⟨rest7,q7,c7⟩:=(zeh cur rest n (zb3 (List.map imOf cur) l ps) zbJ zbJ zbJ)
     exact wklN p_1 [1,6,18,19,20,21,41,42,43] 5 [(.ot 21 Ty.Item,6)] kr (g1 _ (zab (wkl (p_5++[sb h6,si (zbz (t:=(↑(zb3 (List.map imOf cur) l ps):Int)+1) (n:=zb3 (List.map imOf cur) l ps+1) Zo Zo),sl [3] c7]) [1,6,18,19,20] 5 kr (zaF (show ([(1,ZL l),(6,AV.sl (List.map (fun n=>[iv n]) (zbM (↑(List.map (fun n=>[iv n]) (zaI (List.map imOf cur) l (List.map imOf cur).length)).length:Int) ps).snd)),(18,AV.p 2 0),(19,AV.os 3 n 0 (cur.eraseIdx (zb3 (List.map imOf cur) l ps)).length),(20,AV.own 4 (List.map (fun n=>[iv n]) ch++[[iv (↑(List.map (fun n=>[iv n]) (zaI (List.map imOf cur) l (List.map imOf cur).length)).length:Int)]]).length)]:TS)=_ from Zcv2) (show ([Blk.box s.cells,Blk.row Ty.Value (List.map V.cells (zde N (cur.getD (pl cur l ps) zch) s old nw tb).snd) false,Blk.box [sv s.name,ZC s.cols,vsl old,AV.own 1 (zde N (cur.getD (pl cur l ps) zch) s old nw tb).snd.length,tsl tb],Blk.row Ty.Trigger (List.map Tg.cells (cur.eraseIdx (zb3 (List.map imOf cur) l ps))++rest7) false,Blk.row Ty.int (List.map (fun n=>[iv n]) ch++[[iv (↑(List.map (fun n=>[iv n]) (zaI (List.map imOf cur) l (List.map imOf cur).length)).length:Int)]]) false]:Heap)=_ from Zcv2) (ih (cur.eraseIdx (zb3 (List.map imOf cur) l ps)) rest7 n ((zde N (cur.getD (pl cur l ps) zch) s old nw tb).snd) ((zbM (↑(List.map (fun n=>[iv n]) (zaI (List.map imOf cur) l (List.map imOf cur).length)).length:Int) ps).snd) (ch++[(↑(List.map (fun n=>[iv n]) (zaI (List.map imOf cur) l (List.map imOf cur).length)).length:Int)]) Zo zdf zdf zdf zdf zdf zdf zdf zdf)))))
    ·exact wklN p_1 [1,6,18,19,20,21,41,42,43] 5 [(.ot 21 Ty.Item,6)] kr (g1 _ (zab (wkr (p_5++[sb h6]) kr)))
  ·exact wklN p_1 [1,6,18,19,20,21,41,42,43] 5 [(.ot 21 Ty.Item,6)] kr (g1 _ (zab (wkr (p_2++[sb h2]) kr)))
def bRow (N:Nat) (ts:List Tg) (l:List Lk) (s:Sch) (old new:List V) (tb:List Tb) (ps:List Int):(List V) × (List Int) × (List Int) × Int :=
 brow N l s old tb ts.length ts new ps ([])
theorem zl0 (N:Nat) (ts:List Tg) (l:List Lk) (s:Sch) (old new:List V) (tb:List Tb) (ps:List Int) (hN:N<=900000) (hl:zac l) (hs:Few s.cols) (hss:zac s.cols) (ho:NwOk old) (hto:TbOk tb) (htg:TbG tb) (hts:zac ts) (hT:∀ t∈ts,TrOk N t) (hw0:NwOk new) (hws:zac new) (hp:Room ps):zaa E0 S.AE [.sl (ts.map Tg.cells),.sl (l.map Lk.cells),s.av,vsl old,vsl new,tsl tb,isl ps] [] (.tup [vsl (bRow N ts l s old new tb ps).1,isl (bRow N ts l s old new tb ps).2.1,isl (bRow N ts l s old new tb ps).2.2.1,iv (bRow N ts l s old new tb ps).2.2.2]) []:=by
 unfold bRow
 exact wkcN At.AE [sd [(3,[sc (za1 new zbJ)])],sc (zjc ts zbJ),sc (zbB ps zbJ),sqx (ps.length=(List.map zbw ps).length)] [1,6,18,19,20] 5 [(.fz 6,4),(.os 19,4),(.ot 20 Ty.int,5)] kr (zaF rfl (show ([Blk.box s.cells,Blk.row Ty.Value (List.map V.cells new) false,Blk.box [sv s.name,ZC s.cols,vsl old,AV.own 1 new.length,tsl tb],Blk.row Ty.Trigger (List.map Tg.cells ts) false,Blk.row Ty.int [] false]:Heap)=_ from Zcv2) (zuc N l s old tb hN hl hs ho hto htg ts.length ts ([]) ts.length new ps ([]) hts rfl Zs Zs hts hT hw0 hp (by simpa using hts)))
theorem zgr {p:Prop} (h:p:=by first|assumption|omega|(simp;done)|(simp;omega)):p:=h
abbrev zbh (s:Str):List AV:=[sv s]
theorem zwu (l:List Str) (hl:zac l):Good E0 B.A3 [] (zbC (zcZ B.A3 [.sl (l.map zbh)] [] 0) false) (fun r h=>r=.own 0 l.length/\h=[.row Ty.string (l.map zbh) false]) :=
 zcD E0ok mix0 3000 (y:=AV.own 0 (List.map zbh l).length) (H:=[Blk.row Ty.string (List.map zbh l) false]) [sb Zf,sqx (AllLen (List.map zbh l) 1/\((List.map zbh l).length * 16).le 140737488355328)] kr (⟨by simp,rfl⟩)
theorem zwv:Good E0 B.A3 [] (zbC (zcZ B.A3 [.sl []] [] 0) true) (fun r h=>r=.nl/\h=[]) :=
 zcD E0ok mix0 3000 (y:=AV.nl) (H:=[]) [sb Zt] kr (⟨rfl,rfl⟩)
theorem zdi (l:List Str) (hl:zac l):zaa E0 S.A3 [.sl (l.map zbh)] [] (.own 0 l.length) [.row Ty.string (l.map zbh) false]:=by
 refine zaV At.A3 rfl kr (Nat.le_of_ble_eq_true kr) (zcK E0ok mix0 3000 [] (List.range 40) 0 (c':=zcZ B.A3 [.sl (l.map zbh)] [] 0) kr kr (zeP E0ok (xs:=l.map zbh) (e:=true) kr fun b hb=>?_))
 cases b with
 | false=>exact zwu l hl
 | true =>
  cases l with
  | nil=>exact zcS Ty.string zwv ⟨rfl,rfl⟩
  | cons x r=>exact absurd (hb Zs) Zs
theorem zzD (l:List Rk) (hl:zac l):Good E0 B.Bf [] (zbC (zcZ B.Bf [.sl (l.map Rk.cells)] [] 0) false) (fun r h=>r=.own 0 l.length/\h=[.row Ty.Rank (l.map Rk.cells) false]) :=
 zcD E0ok mix0 3000 (y:=AV.own 0 (List.map Rk.cells l).length) (H:=[Blk.row Ty.Rank (List.map Rk.cells l) false]) [sb Zf,sqx (AllLen (List.map Rk.cells l) 4/\((List.map Rk.cells l).length * 48).le 140737488355328)] kr (⟨by simp,rfl⟩)
theorem zzE:Good E0 B.Bf [] (zbC (zcZ B.Bf [.sl []] [] 0) true) (fun r h=>r=.nl/\h=[]) :=
 zcD E0ok mix0 3000 (y:=AV.nl) (H:=[]) [sb Zt] kr (⟨rfl,rfl⟩)
theorem zlv (l:List Rk) (hl:zac l):zaa E0 S.Bf [.sl (l.map Rk.cells)] [] (.own 0 l.length) [.row Ty.Rank (l.map Rk.cells) false]:=by
 refine zaV At.Bf rfl kr (Nat.le_of_ble_eq_true kr) (zcK E0ok mix0 3000 [] (List.range 40) 0 (c':=zcZ B.Bf [.sl (l.map Rk.cells)] [] 0) kr kr (zeP E0ok (xs:=l.map Rk.cells) (e:=true) kr fun b hb=>?_))
 cases b with
 | false=>exact zzD l hl
 | true =>
  cases l with
  | nil=>exact zcS Ty.Rank zzE ⟨rfl,rfl⟩
  | cons x r=>exact absurd (hb Zs) Zs
@[simp] theorem cellsQ_app (a b:List Qy):zag (a++b)=zag a++zag b:=by simp [zd8]
noncomputable def L_dlX (l:List X) (i:Nat) (out:List X):Cfg:=zaj B.Bm 0 [(1,.fn S.A8 []),(5,.own 0 out.length),(8,.sl (zad l)),(9,iv ((zad l).length:Nat)),(10,iv (i:Nat))] [.row Ty.Expr (zad out) false]
theorem zfD (l:List X) (hl:zac l) (hf:∀ x∈l,zaa E0 S.A8 [x.av] [] x.av []) (i:Nat) (out:List X) (hi:i<=(l).length) (hI:out=l.take i):∃ (out':List X),(out'=l.take (l).length)/\(decide ((((l).length:Nat):Int) < (((zad l).length:Nat):Int))=false)/\∀ R,Good E0 B.Bm [] (L_dlX l (l).length out') R->Good E0 B.Bm [] (L_dlX l i out) R:=by
 have hk:=hi;revert i out;refine zlp ((l).length) (fun i hlt ih out hi hI _=>?_)
 obtain ⟨x,hx,h0,hw⟩:=zlq (l:=l) ((zad l).length) hlt
 have hfx:=hf x (List.mem_of_getElem? hx)
 have ho:out.length<=1000000000:=by rw [hI,List.length_take];simp only [zac] at hl;omega
 exact Zih (ih (out++[x]) Zo (by rw [List.take_add_one,hx,hI];rfl) Zo) fun R gY=>zab (wkl [sb h0,se (zbr hx),sc hfx,sqA (zad out) [x.cells] out.length 10 136,si hw] [1,5,8,9,10] 1 kr (zao 5 0 (zad out++[x.cells]) gY (he:=Zcv2) (hm:=Zcv2)))
theorem zkq (l:List X) (hl:zac l) (hf:∀ x∈l,zaa E0 S.A8 [x.av] [] x.av []):∃ (r:List X),r=l/\zaa E0 S.Bm [.sl (zad l),.fn S.A8 []] [] (.sl (zad r)) []:=by
 obtain ⟨out1,q1,q1_1,g1⟩:=zfD l Za Za 0 ([]) Za Za
 exact ⟨out1,(by first|assumption|(rw [List.take_length] at *;assumption)),wkcN At.Bm [] [1,5,8,9,10] 0 [(.ot 5 Ty.Expr,1)] kr (g1 _ (zab (wkr [sqx (out1.length=(zad out1).length),sb q1_1] kr)))⟩
theorem zfi (l:List X) (hl:zac l) (hf:∀ x∈l,zaa E0 S.A8 [x.av] [] x.av []):zaa E0 S.Bm [.sl (zad l),.fn S.A8 []] [] (.sl (zad l)) []:=by
 obtain ⟨r,rfl,h⟩:=zkq l hl hf
 exact h
noncomputable def L_dlQ (l:List Qy) (i:Nat) (out:List Qy):Cfg:=zaj B.Bi 0 [(1,.fn S.BM []),(5,.own 0 out.length),(8,.sl (zag l)),(9,iv ((zag l).length:Nat)),(10,iv (i:Nat))] [.row Ty.Query (zag out) false]
theorem ze9 (l:List Qy) (hl:zac l) (hf:∀ x∈l,zaa E0 S.BM [x.av] [] x.av []) (i:Nat) (out:List Qy) (hi:i<=(l).length) (hI:out=l.take i):∃ (out':List Qy),(out'=l.take (l).length)/\(decide ((((l).length:Nat):Int) < (((zag l).length:Nat):Int))=false)/\∀ R,Good E0 B.Bi [] (L_dlQ l (l).length out') R->Good E0 B.Bi [] (L_dlQ l i out) R:=by
 have hk:=hi;revert i out;refine zlp ((l).length) (fun i hlt ih out hi hI _=>?_)
 obtain ⟨x,hx,h0,hw⟩:=zlq (l:=l) ((zag l).length) hlt
 have hfx:=hf x (List.mem_of_getElem? hx)
 have ho:out.length<=1000000000:=by rw [hI,List.length_take];simp only [zac] at hl;omega
 exact Zih (ih (out++[x]) Zo (by rw [List.take_add_one,hx,hI];rfl) Zo) fun R gY=>zab (wkl [sb h0,se (zaC hx),sc hfx,sqA (zag out) [x.cells] out.length 4 72,si hw] [1,5,8,9,10] 1 kr (zao 5 0 (zag out++[x.cells]) gY (he:=Zcv2) (hm:=Zcv2)))
theorem zjH (l:List Qy) (hl:zac l) (hf:∀ x∈l,zaa E0 S.BM [x.av] [] x.av []):∃ (r:List Qy),r=l/\zaa E0 S.Bi [.sl (zag l),.fn S.BM []] [] (.sl (zag r)) []:=by
 obtain ⟨out1,q1,q1_1,g1⟩:=ze9 l Za Za 0 ([]) Za Za
 exact ⟨out1,(by first|assumption|(rw [List.take_length] at *;assumption)),wkcN At.Bi [] [1,5,8,9,10] 0 [(.ot 5 Ty.Query,1)] kr (g1 _ (zab (wkr [sqx (out1.length=(zag out1).length),sb q1_1] kr)))⟩
theorem ze0 (l:List Qy) (hl:zac l) (hf:∀ x∈l,zaa E0 S.BM [x.av] [] x.av []):zaa E0 S.Bi [.sl (zag l),.fn S.BM []] [] (.sl (zag l)) []:=by
 obtain ⟨r,rfl,h⟩:=zjH l hl hf
 exact h
theorem zr8 (l:List X) (hl:zac l) (hf:∀ x∈l,zaa E0 S.A8 [x.av] [] x.av []):∃ (r:List X),r=l/\zaa E0 S.B1 [xsl l] [] (xsl r) []:=by
 exact ⟨l,Zr,wk At.B1 [sc (zfi l zgr zgr)] kr⟩
theorem zdS (l:List X) (hl:zac l) (hf:∀ x∈l,zaa E0 S.A8 [x.av] [] x.av []):zaa E0 S.B1 [xsl l] [] (xsl l) []:=by
 obtain ⟨r,rfl,h⟩:=zr8 l hl hf
 exact h
theorem zlG (q:Qy) (hl:zac q.items) (hl2:zac q.wh) (hf:∀ x∈q.items,zaa E0 S.A8 [x.av] [] x.av []) (hf2:∀ x∈q.wh,zaa E0 S.A8 [x.av] [] x.av []):∃ (r:Qy),r=q/\zaa E0 S.BM [q.av] [] r.av []:=by
 exact ⟨q,Zr,wk At.BM [sd [(2,[sc (zdS q.items zgr zgr)]),(5,[sc (zdS q.wh zgr zgr)])]] kr⟩
theorem ztV (e:X) (hl:zac e.args) (hl2:zac e.sub) (hf:∀ x∈e.args,zaa E0 S.A8 [x.av] [] x.av []) (hf2:∀ x∈e.sub,zaa E0 S.BM [x.av] [] x.av []):∃ (r:X),r=e/\zaa E0 S.A8 [e.av] [] r.av []:=by
 exact ⟨e,Zr,wk At.A8 [sd [(2,[sc (zfi e.args zgr zgr)]),(5,[sc (ze0 e.sub zgr zgr)])]] kr⟩
def XSh:Nat->X->Prop
 | 0,_=>False
 | n+1,e=>(zac e.args/\zac e.sub)/\(∀ x∈e.args,XSh n x)/\∀ q∈e.sub,(zac q.items/\zac q.wh)/\(∀ x∈q.items,XSh n x)/\∀ x∈q.wh,XSh n x
theorem XOk.sh:∀ {n:Nat} {e:X},XOk n e->XSh n e
 | 0,_,h=>h.elim
 | _+1,_,⟨_,h2,h3,h4⟩=>⟨⟨h2.1.short,h2.2.short⟩,fun x hx=>(h3 x hx).sh,fun q hq=>⟨⟨(h4 q hq).1.1.short,(h4 q hq).1.2.short⟩,fun x hx=>((h4 q hq).2.1 x hx).sh,fun x hx=>((h4 q hq).2.2 x hx).sh⟩⟩
theorem zbU:∀ (n:Nat) (e:X),XSh n e->zaa E0 S.A8 [e.av] [] e.av []
 | 0,_,h=>h.elim
 | n+1,e,h=>by
  obtain ⟨h2,h3,h4⟩:=h
  obtain ⟨r,rfl,hr⟩:=ztV e h2.1 h2.2 (fun x hx=>zbU n x (h3 x hx)) (fun q hq=>by
   obtain ⟨r,rfl,hr⟩:=zlG q (h4 q hq).1.1 (h4 q hq).1.2 (fun x hx=>zbU n x ((h4 q hq).2.1 x hx)) (fun x hx=>zbU n x ((h4 q hq).2.2 x hx))
   exact hr)
  exact hr
structure QW (n:Nat) (q:Qy):Prop where
 items:Few q.items
 wh:Few q.wh
 hi:∀ x∈q.items,XOk n x
 hw:∀ x∈q.wh,XOk n x
structure QSh (n:Nat) (q:Qy):Prop where
 items:zac q.items
 wh:zac q.wh
 hi:∀ x∈q.items,XSh n x
 hw:∀ x∈q.wh,XSh n x
theorem QW.sh {n:Nat} {q:Qy} (h:QW n q):QSh n q:=⟨zaQ h.items,zaQ h.wh,fun x hx=>(h.hi x hx).sh,fun x hx=>(h.hw x hx).sh⟩
theorem zoI (n:Nat) (q:Qy) (h:QSh n q):zaa E0 S.BM [q.av] [] q.av []:=by
 obtain ⟨r,rfl,hr⟩:=zlG q h.items h.wh (fun x hx=>zbU n x (h.hi x hx)) (fun x hx=>zbU n x (h.hw x hx))
 exact hr
theorem ziT {p:Prop} (h:p:=by first|assumption|omega|(simp;done)|(simp;omega)):p:=h
abbrev zau (r:List X):List AV:=[.sl (zad r)]
theorem zwd (s:Se) (hf:zaa E0 S.A8 [s.ex.av] [] s.ex.av []):∃ (r:Se),r=s/\zaa E0 S.Cs [.agg s.cells] [] (.agg r.cells) []:=by
 exact ⟨s,Zr,wk At.Cs [sd [(4,[sc hf])]] kr⟩
theorem zwP (n:Nat) (s:Se) (h:XSh n s.ex):zaa E0 S.Cs [.agg s.cells] [] (.agg s.cells) []:=by
 obtain ⟨r,rfl,hr⟩:=zwd s (zbU n s.ex h)
 exact hr
noncomputable def L_dlL (l:List (List X)) (i:Nat) (out:List (List X)):Cfg:=zaj B.Bh 0 [(1,.fn S.B1 []),(5,.own 0 out.length),(8,.sl ((l).map zau)),(9,iv (((l).map zau).length:Nat)),(10,iv (i:Nat))] [.row Ty.LExpr ((out).map zau) false]
theorem Zcv1 {p:Prop} (h:p:=by first|rfl|(simp;done)|(simp [X.cells,Qy.cells,V.cells,Col.cells,Rw.cells,Tb.cells,Fr.cells,Sch.cells,Tp.cells,Pl.cells,xCol,xLit,xBin,xNeg,Im.cells,Lk.cells,Ac.cells,Se.cells,Tg.cells];done)):p:=h
theorem ze8 (l:List (List X)) (hl:zac l) (hf:∀ x∈l,zaa E0 S.B1 [xsl x] [] (xsl x) []) (i:Nat) (out:List (List X)) (hi:i<=(l).length) (hI:out=l.take i):∃ (out':List (List X)),(out'=l.take (l).length)/\(decide ((((l).length:Nat):Int) < ((((l).map zau).length:Nat):Int))=false)/\∀ R,Good E0 B.Bh [] (L_dlL l (l).length out') R->Good E0 B.Bh [] (L_dlL l i out) R:=by
 have hk:=hi;revert i out;refine zlp ((l).length) (fun i hlt ih out hi hI _=>?_)
 obtain ⟨x,hx,h0,hw⟩:=zlq (l:=l) (((l).map zau).length) hlt
 have hfx:=hf x (List.mem_of_getElem? hx)
 have ho:out.length<=1000000000:=by rw [hI,List.length_take];simp only [zac] at hl;omega
 exact Zih (ih (out++[x]) Zo (by rw [List.take_add_one,hx,hI];rfl) Zo) fun R gY=>zab (wkl [sb h0,se (zaf zau hx rfl),sc hfx,sqA (List.map zau out) [[AV.sl (zad x)]] out.length 1 24,si hw] [1,5,8,9,10] 1 kr (zao 5 0 (List.map zau out++[[AV.sl (zad x)]]) gY (he:=Zcv1) (hm:=Zcv1)))
theorem zjG (l:List (List X)) (hl:zac l) (hf:∀ x∈l,zaa E0 S.B1 [xsl x] [] (xsl x) []):∃ (r:List (List X)),r=l/\zaa E0 S.Bh [.sl ((l).map zau),.fn S.B1 []] [] (.sl ((r).map zau)) []:=by
 obtain ⟨out1,q1,q1_1,g1⟩:=ze8 l Za Za 0 ([]) Za Za
 exact ⟨out1,(by first|assumption|(rw [List.take_length] at *;assumption)),wkcN At.Bh [] [1,5,8,9,10] 0 [(.ot 5 Ty.LExpr,1)] kr (g1 _ (zab (wkr [sqx (out1.length=(List.map zau out1).length),sb q1_1] kr)))⟩
theorem zjQ (l:List (List X)) (hl:zac l) (hf:∀ x∈l,zaa E0 S.B1 [xsl x] [] (xsl x) []):zaa E0 S.Bh [.sl ((l).map zau),.fn S.B1 []] [] (.sl ((l).map zau)) []:=by
 obtain ⟨r,rfl,h⟩:=zjG l hl hf
 exact h
noncomputable def L_dlS (l:List Se) (i:Nat) (out:List Se):Cfg:=zaj B.Bu 0 [(1,.fn S.Cs []),(5,.own 0 out.length),(8,.sl ((l).map Se.cells)),(9,iv (((l).map Se.cells).length:Nat)),(10,iv (i:Nat))] [.row Ty.Set ((out).map Se.cells) false]
theorem zfP (l:List Se) (hl:zac l) (hf:∀ x∈l,zaa E0 S.Cs [.agg x.cells] [] (.agg x.cells) []) (i:Nat) (out:List Se) (hi:i<=(l).length) (hI:out=l.take i):∃ (out':List Se),(out'=l.take (l).length)/\(decide ((((l).length:Nat):Int) < ((((l).map Se.cells).length:Nat):Int))=false)/\∀ R,Good E0 B.Bu [] (L_dlS l (l).length out') R->Good E0 B.Bu [] (L_dlS l i out) R:=by
 have hk:=hi;revert i out;refine zlp ((l).length) (fun i hlt ih out hi hI _=>?_)
 obtain ⟨x,hx,h0,hw⟩:=zlq (l:=l) (((l).map Se.cells).length) hlt
 have hfx:=hf x (List.mem_of_getElem? hx)
 have ho:out.length<=1000000000:=by rw [hI,List.length_take];simp only [zac] at hl;omega
 exact Zih (ih (out++[x]) Zo (by rw [List.take_add_one,hx,hI];rfl) Zo) fun R gY=>zab (wkl [sb h0,se (zaf Se.cells hx rfl),sc hfx,sqA (List.map Se.cells out) [(sv x.col::x.ex.cells)] out.length 11 152,si hw] [1,5,8,9,10] 1 kr (zao 5 0 (List.map Se.cells out++[(sv x.col::x.ex.cells)]) gY (he:=Zcv1) (hm:=Zcv1)))
theorem zli (l:List Se) (hl:zac l) (hf:∀ x∈l,zaa E0 S.Cs [.agg x.cells] [] (.agg x.cells) []):∃ (r:List Se),r=l/\zaa E0 S.Bu [.sl ((l).map Se.cells),.fn S.Cs []] [] (.sl ((r).map Se.cells)) []:=by
 obtain ⟨out1,q1,q1_1,g1⟩:=zfP l Za Za 0 ([]) Za Za
 exact ⟨out1,(by first|assumption|(rw [List.take_length] at *;assumption)),wkcN At.Bu [] [1,5,8,9,10] 0 [(.ot 5 Ty.Set,1)] kr (g1 _ (zab (wkr [sqx (out1.length=(List.map Se.cells out1).length),sb q1_1] kr)))⟩
theorem zlm (l:List Se) (hl:zac l) (hf:∀ x∈l,zaa E0 S.Cs [.agg x.cells] [] (.agg x.cells) []):zaa E0 S.Bu [.sl ((l).map Se.cells),.fn S.Cs []] [] (.sl ((l).map Se.cells)) []:=by
 obtain ⟨r,rfl,h⟩:=zli l hl hf
 exact h
structure AcOk (n:Nat) (a:Ac):Prop where
 rows:Few a.rows
 row:∀ r∈a.rows,Few r/\∀ x∈r,XOk n x
 query:Few a.query
 qs:∀ q∈a.query,QW n q
 sets:Few a.sets
 set:∀ s∈a.sets,XOk n s.ex
 wh:Few a.wh
 w:∀ x∈a.wh,XOk n x
structure AcSh (n:Nat) (a:Ac):Prop where
 rows:zac a.rows
 row:∀ r∈a.rows,zac r/\∀ x∈r,XSh n x
 query:zac a.query
 qs:∀ q∈a.query,QSh n q
 sets:zac a.sets
 set:∀ s∈a.sets,XSh n s.ex
 wh:zac a.wh
 w:∀ x∈a.wh,XSh n x
theorem AcOk.sh {n:Nat} {a:Ac} (h:AcOk n a):AcSh n a :=
 ⟨zaQ h.rows,fun r hr=>⟨zaQ (h.row r hr).1,fun x hx=>((h.row r hr).2 x hx).sh⟩,zaQ h.query,fun q hq=>(h.qs q hq).sh,zaQ h.sets,fun s hs=>(h.set s hs).sh,zaQ h.wh,fun x hx=>(h.w x hx).sh⟩
def RowsCp (l:List (List X)):Prop:=∀ x∈l,zaa E0 S.B1 [xsl x] [] (xsl x) []
theorem zqR (n:Nat) (a:Ac) (h:AcSh n a) (h1:zac a.rows) (h2:zac a.query) (h3:zac a.sets) (h4:zac a.wh) (hr:RowsCp a.rows) (hq:∀ x∈a.query,zaa E0 S.BM [x.av] [] x.av []) (hs:∀ x∈a.sets,zaa E0 S.Cs [.agg x.cells] [] (.agg x.cells) []) (hw:∀ x∈a.wh,zaa E0 S.A8 [x.av] [] x.av []):∃ (r:Ac),r=a/\zaa E0 S.BI [a.av] [] r.av []:=by
 exact ⟨a,Zr,wk At.BI [sd [(2,[sc (zjQ a.rows (by first|assumption|exact hr) (by first|assumption|exact hr))]),(5,[sc (ze0 a.query (by first|assumption|exact hr) (by first|assumption|exact hr))]),(8,[sc (zlm a.sets (by first|assumption|exact hr) (by first|assumption|exact hr))]),(11,[sc (zdS a.wh (by first|assumption|exact hr) (by first|assumption|exact hr))])]] kr⟩
theorem zq8 (n:Nat) (a:Ac) (h:AcSh n a):zaa E0 S.BI [a.av] [] a.av []:=by
 obtain ⟨r,rfl,hr⟩:=zqR n a h h.rows h.query h.sets h.wh
  (fun x hx=>zdS x (h.row x hx).1 fun y hy=>zbU n y ((h.row x hx).2 y hy))
  (fun q hq=>zoI n q (h.qs q hq)) (fun s hs=>zwP n s (h.set s hs)) (fun x hx=>zbU n x (h.w x hx))
 exact hr
noncomputable def L_dlA (l:List Ac) (i:Nat) (out:List Ac):Cfg:=zaj B.Bb 0 [(1,.fn S.BI []),(5,.own 0 out.length),(8,.sl ((l).map Ac.cells)),(9,iv (((l).map Ac.cells).length:Nat)),(10,iv (i:Nat))] [.row Ty.Action ((out).map Ac.cells) false]
theorem zeT (l:List Ac) (hl:zac l) (hf:∀ x∈l,zaa E0 S.BI [.agg x.cells] [] (.agg x.cells) []) (i:Nat) (out:List Ac) (hi:i<=(l).length) (hI:out=l.take i):∃ (out':List Ac),(out'=l.take (l).length)/\(decide ((((l).length:Nat):Int) < ((((l).map Ac.cells).length:Nat):Int))=false)/\∀ R,Good E0 B.Bb [] (L_dlA l (l).length out') R->Good E0 B.Bb [] (L_dlA l i out) R:=by
 have hk:=hi;revert i out;refine zlp ((l).length) (fun i hlt ih out hi hI _=>?_)
 obtain ⟨x,hx,h0,hw⟩:=zlq (l:=l) (((l).map Ac.cells).length) hlt
 have hfx:=hf x (List.mem_of_getElem? hx)
 have ho:out.length<=1000000000:=by rw [hI,List.length_take];simp only [zac] at hl;omega
 exact Zih (ih (out++[x]) Zo (by rw [List.take_add_one,hx,hI];rfl) Zo) fun R gY=>zab (wkl [sb h0,se (zaf Ac.cells hx rfl),sc hfx,sqA (List.map Ac.cells out) [[iv x.kind,sv x.table,AV.sl (List.map (fun r=>[AV.sl (zad r)]) x.rows),AV.sl (zag x.query),ZE x.sets,AV.sl (zad x.wh),sv x.text]] out.length 7 136,si hw] [1,5,8,9,10] 1 kr (zao 5 0 (List.map Ac.cells out++[[iv x.kind,sv x.table,AV.sl (List.map (fun r=>[AV.sl (zad r)]) x.rows),AV.sl (zag x.query),ZE x.sets,AV.sl (zad x.wh),sv x.text]]) gY (he:=Zcv1) (hm:=Zcv1)))
theorem zi2 (l:List Ac) (hl:zac l) (hf:∀ x∈l,zaa E0 S.BI [.agg x.cells] [] (.agg x.cells) []):∃ (r:List Ac),r=l/\zaa E0 S.Bb [.sl ((l).map Ac.cells),.fn S.BI []] [] (.sl ((r).map Ac.cells)) []:=by
 obtain ⟨out1,q1,q1_1,g1⟩:=zeT l Za Za 0 ([]) Za Za
 exact ⟨out1,(by first|assumption|(rw [List.take_length] at *;assumption)),wkcN At.Bb [] [1,5,8,9,10] 0 [(.ot 5 Ty.Action,1)] kr (g1 _ (zab (wkr [sqx (out1.length=(List.map Ac.cells out1).length),sb q1_1] kr)))⟩
theorem zi7 (l:List Ac) (hl:zac l) (hf:∀ x∈l,zaa E0 S.BI [.agg x.cells] [] (.agg x.cells) []):zaa E0 S.Bb [.sl ((l).map Ac.cells),.fn S.BI []] [] (.sl ((l).map Ac.cells)) []:=by
 obtain ⟨r,rfl,h⟩:=zi2 l hl hf
 exact h
structure TgOk (n:Nat) (t:Tg):Prop where
 of:Few t.of
 prec:Few t.prec
 foll:Few t.foll
 rank:Few t.rank
 whens:Few t.when_
 when_:∀ x∈t.when_,XOk n x
 acts:Few t.acts
 act:∀ a∈t.acts,AcOk n a
structure TgSh (n:Nat) (t:Tg):Prop where
 of:zac t.of
 prec:zac t.prec
 foll:zac t.foll
 rank:zac t.rank
 whens:zac t.when_
 when_:∀ x∈t.when_,XSh n x
 acts:zac t.acts
 act:∀ a∈t.acts,AcSh n a
theorem TgOk.sh {n:Nat} {t:Tg} (h:TgOk n t):TgSh n t :=
 ⟨zaQ h.of,zaQ h.prec,zaQ h.foll,zaQ h.rank,zaQ h.whens,fun x hx=>(h.when_ x hx).sh,zaQ h.acts,fun a ha=>(h.act a ha).sh⟩
theorem zpF (n:Nat) (t:Tg) (h1:zac t.of) (h2:zac t.prec) (h3:zac t.foll) (h4:zac t.rank) (h5:zac t.when_) (h6:zac t.acts) (hw:∀ x∈t.when_,zaa E0 S.A8 [x.av] [] x.av []) (ha:∀ x∈t.acts,zaa E0 S.BI [.agg x.cells] [] (.agg x.cells) []):∃ (r:Tg),r=t/\zaa E0 S.Dg [t.av] [] r.av []:=by
 exact ⟨t,Zr,wk At.Dg [sqx (True/\True/\True/\True/\t.of.length=(List.map zbh t.of).length/\True/\t.prec.length=(List.map zbh t.prec).length/\t.foll.length=(List.map zbh t.foll).length/\t.rank.length=(List.map Rk.cells t.rank).length/\True/\True/\True),sd [(2,[sc (zdi t.of ziT)]),(5,[sc (zdi t.prec ziT)]),(8,[sc (zdi t.foll ziT)]),(11,[sc (zlv t.rank ziT)])],sd [(2,[sc (zdS t.when_ ziT ziT)]),(5,[sc (zi7 t.acts ziT ziT)])]] kr⟩
theorem zf6 (n:Nat) (t:Tg) (h:TgSh n t):zaa E0 S.Dg [t.av] [] t.av []:=by
 obtain ⟨r,rfl,hr⟩:=zpF n t h.of h.prec h.foll h.rank h.whens h.acts
  (fun x hx=>zbU n x (h.when_ x hx)) (fun a ha=>zq8 n a (h.act a ha))
 exact hr
theorem ziU {p:Prop} (h:p:=by rw [List.take_add_one,hx,List.filter_append,← hI];clear hI;simp only [Option.toList_some,List.filter_cons,List.filter_nil,appl,cond_true,cond_false,if_true, *] <;> try simp):p:=h
theorem zhp {p:Prop} (h:p:=by first|assumption|omega|(simp;done)|(simp;omega)):p:=h
noncomputable def L_stIx (l:List Str) (v:Str) (i:Nat) :Cfg:=zaj B.BV 0 [(0,.sl (l.map zbh)),(1,sv v),(7,iv ((l.map zbh).length:Nat)),(8,iv (i:Nat))] []
def stIx (l:List Str) (v:Str):List (Str)->Nat->Int
 | [],i =>
  -1
 | x::r,i =>
  bif ByteArray.toList v==ByteArray.toList x then
   (i:Int)
  else
   stIx l v r (i+1)
theorem zuq (l:List Str) (v:Str) (hl:zac l):∀ (kk i:Nat),i+kk=(l).length->Good E0 B.BV [] (L_stIx l v i ) (Shut 0 fun r h=>r=(iv (stIx l v ((l).drop i) i ))/\h=[]):=by
 intro kk
 induction kk with
 | zero =>
  intro i  hi
  have h0:decide (((i:Nat):Int) < (((l.map zbh).length:Nat):Int))=false:=by simp;omega
  have e0:(l).drop i=[]:=List.drop_of_length_le Zo
  rw [e0]
  simp only [stIx]
  refine zab ?_
  exact wkr [sb h0] kr
 | succ kk ih =>
  intro i  hi
  obtain ⟨x,hx⟩:=zaY (l:=l) (i:=i) Zo
  have h0:decide (((i:Nat):Int) < (((l.map zbh).length:Nat):Int))=true:=by simp;omega
  have hw:=zaJ i (by first|omega|(simp only [zac,Few] at *;omega))
  rw [zap hx]
  simp only [stIx]
  refine zab ?_
  let p_1:List St:=[sb h0,se (zaf zbh hx rfl)]
  cases h1:ByteArray.toList v==ByteArray.toList x
  ·exact wkl (p_1++[sb h1,si hw]) [0,1,7,8] 0 kr (ih (i+1) Zo )
  ·exact wkr (p_1++[sb h1]) kr
def zhI (l:List Str) (v:Str):Int :=
 stIx l v l (0)
theorem zjZ (l:List Str) (v:Str) (hl:zac l):zaa E0 S.BV [ssl l,sv v] [] (iv (zhI l v)) []:=by
 unfold zhI
 exact wkc At.BV [] [0,1,7,8] 0 kr (zuq l v hl l.length 0 Zs)
def hasS (l:List Str) (v:Str):Bool :=
 decide ((0:Int)<=zhI l v)
theorem zdV (l:List Str) (v:Str) (hl:zac l):zaa E0 S.Cq [ssl l,sv v] [] (bv (hasS l v)) []:=by
 exact wk At.Cq [sc (zjZ l v zhp)] kr
def hasC (v:Str) (l:List Str):Bool :=
 hasS l v
theorem zi5 (v:Str) (l:List Str) (hl:zac l):zaa E0 S.BK [sv v,.p 0 0] [.box [ssl l]] (bv (hasC v l)) [.box [ssl l]]:=by
 exact wk At.BK [sc (zdV l v zhp)] kr
noncomputable def L_ofIx (l s:List Str) (i:Nat) :Cfg:=zaj B.Br 0 [(0,ssl l),(1,.fn S.BK [.p 0 0]),(7,iv ((l.map zbh).length:Nat)),(8,iv (i:Nat))] [.box [ssl s]]
def ofIx (l s:List Str):List (Str)->Nat->Int
 | [],i =>
  -1
 | x::r,i =>
  bif hasC x s then
   (i:Int)
  else
   ofIx l s r (i+1)
theorem zuk (l s:List Str) (hl:zac l) (hs:zac s):∀ (kk i:Nat),i+kk=(l).length->Good E0 B.Br [.box [ssl s]] (L_ofIx l s i ) (Shut 1 fun r h=>r=(iv (ofIx l s ((l).drop i) i ))/\h=[.box [ssl s]]):=by
 intro kk
 induction kk with
 | zero =>
  intro i  hi
  have h0:decide (((i:Nat):Int) < (((l.map zbh).length:Nat):Int))=false:=by simp;omega
  have e0:(l).drop i=[]:=List.drop_of_length_le Zo
  rw [e0]
  simp only [ofIx]
  refine zab ?_
  exact wkr [sb h0] kr
 | succ kk ih =>
  intro i  hi
  obtain ⟨x,hx⟩:=zaY (l:=l) (i:=i) Zo
  have h0:decide (((i:Nat):Int) < (((l.map zbh).length:Nat):Int))=true:=by simp;omega
  have hw:=zaJ i (by first|omega|(simp only [zac,Few] at *;omega))
  rw [zap hx]
  simp only [ofIx]
  refine zab ?_
  let p_1:List St:=[sb h0,se (zaf (fun s=>[sv s]) hx rfl),sl [0] (zi5 x s zhp)]
  cases h1:hasC x s
  ·exact wkl (p_1++[sb h1,si hw]) [0,1,7,8] 1 kr (ih (i+1) Zo )
  ·exact wkr (p_1++[sb h1]) kr
def zp1 (l s:List Str):Int :=
 ofIx l s l (0)
theorem zhk (l s:List Str) (hl:zac l) (hs:zac s):zaa E0 S.Br [ssl l,.fn S.BK [.p 0 0]] [.box [ssl s]] (iv (zp1 l s)) [.box [ssl s]]:=by
 unfold zp1
 exact wkc At.Br [] [0,1,7,8] 1 kr (zuk l s hl hs l.length 0 Zs)
def zw1 (l s:List Str):Bool :=
 decide ((0:Int)<=zp1 l s)
theorem zf8 (l s:List Str) (hl:zac l) (hs:zac s):zaa E0 S.CC [ssl l,.fn S.BK [.p 0 0]] [.box [ssl s]] (bv (zw1 l s)) [.box [ssl s]]:=by
 exact wk At.CC [sl [0] (zhk l s zhp zhp)] kr
def appl (table:Str) (ev:Int) (asg:List Str) (each:Bool) (t:Tg):Bool :=
 bif !t.before then false else bif !t.table.toList==table.toList then false else bif t.event != ev then false else bif !t.each==each then false else bif ev != 2 then true else bif (((t.of.map zbh).length:Nat):Int)==0 then true else zw1 t.of asg
noncomputable def L_apL (N:Nat) (ts:List Tg) (table:Str) (ev:Int) (asg:List Str) (each:Bool) (i:Nat) (out:List Tg):Cfg:=zaj B.At 0 [(1,sv table),(2,iv ev),(4,bv each),(8,.p 0 0),(11,.own 1 out.length),(15,.sl (ts.map Tg.cells)),(16,iv ((ts.map Tg.cells).length:Nat)),(17,iv (i:Nat))] [.box [ssl asg],.row Ty.Trigger (out.map Tg.cells) false]
theorem Zcv3 {p:Prop} (h:p:=by first|rfl|(simp;done)|(simp [X.cells,Qy.cells,V.cells,Col.cells,Rw.cells,Tb.cells,Fr.cells,Sch.cells,Tp.cells,Pl.cells,xCol,xLit,xBin,xNeg,Tg.cells];done)):p:=h
theorem zfN (N:Nat) (ts:List Tg) (table:Str) (ev:Int) (asg:List Str) (each:Bool) (hl:zac ts) (hs:zac asg) (hT:∀ t∈ts,TgSh N t) (i:Nat) (out:List Tg) (hi:i<=(ts).length) (hI:out=(ts.take i).filter (appl table ev asg each)):∃ (out':List Tg),(out'=(ts.take (ts).length).filter (appl table ev asg each))/\(decide ((((ts).length:Nat):Int) < (((ts.map Tg.cells).length:Nat):Int))=false)/\∀ R,Good E0 B.At [] (L_apL N ts table ev asg each (ts).length out') R->Good E0 B.At [] (L_apL N ts table ev asg each i out) R:=by
 have hk:=hi;revert i out;refine zlp ((ts).length) (fun i hlt ih out hi hI _=>?_)
 obtain ⟨x,hx,h0,hw⟩:=zlq (l:=ts) ((ts.map Tg.cells).length) hlt
 have hTx:=hT x (List.mem_of_getElem? hx)
 have hof:=hTx.of
 have ho:out.length<=1000000000:=by
  rw [hI];refine Nat.le_trans (List.length_filter_le _ _) ?_;rw [List.length_take];simp only [zac] at hl;omega
 let p_1:List St:=[sb h0,se (zaf Tg.cells hx rfl)]
 cases h1:!x.before
 ·cases h2:!ByteArray.toList x.table==ByteArray.toList table
  ·cases h3:x.event != ev
   ·cases h4:!x.each==each
    ·let p_2:List St:=p_1++[sg h1,sg h2,sg h3,sb h4,sl [0] (zf8 x.of asg (by first|assumption|exact hTx|omega) (by first|assumption|exact hTx|omega))]
     cases h5:ev != 2
     ·cases h6:(↑(List.map (fun s=>[sv s]) x.of).length:Int)==0
      ·cases h7:zw1 x.of asg
       ·exact Zih (ih out Zo ziU Zo) fun R gY=>zab (wkl (p_2++[sg h5,sg h6,sb h7,si hw]) [1,2,4,8,11,15,16,17] 2 kr gY)
       ·exact Zih (ih (out++[x]) Zo ziU Zo) fun R gY=>zab (wkl (p_2++[sg h5,sg h6,sb h7,sc (zf6 N x hTx),sqA (List.map Tg.cells out) [x.cells] out.length 11 200,si hw]) [1,2,4,8,11,15,16,17] 2 kr (zao 11 1 (List.map Tg.cells out++[x.cells]) gY (he:=Zcv3) (hm:=Zcv3)))
      ·exact Zih (ih (out++[x]) Zo ziU Zo) fun R gY=>zab (wkl (p_2++[sg h5,sb h6,sc (zf6 N x hTx),sqA (List.map Tg.cells out) [x.cells] out.length 11 200,si hw]) [1,2,4,8,11,15,16,17] 2 kr (zao 11 1 (List.map Tg.cells out++[x.cells]) gY (he:=Zcv3) (hm:=Zcv3)))
     ·exact Zih (ih (out++[x]) Zo ziU Zo) fun R gY=>zab (wkl (p_2++[sb h5,sc (zf6 N x hTx),sqA (List.map Tg.cells out) [x.cells] out.length 11 200,si hw]) [1,2,4,8,11,15,16,17] 2 kr (zao 11 1 (List.map Tg.cells out++[x.cells]) gY (he:=Zcv3) (hm:=Zcv3)))
    ·exact Zih (ih out Zo ziU Zo) fun R gY=>zab (wkl (p_1++[sg h1,sg h2,sg h3,sb h4,si hw]) [1,2,4,8,11,15,16,17] 2 kr gY)
   ·exact Zih (ih out Zo ziU Zo) fun R gY=>zab (wkl (p_1++[sg h1,sg h2,sb h3,si hw]) [1,2,4,8,11,15,16,17] 2 kr gY)
  ·exact Zih (ih out Zo ziU Zo) fun R gY=>zab (wkl (p_1++[sg h1,sb h2,si hw]) [1,2,4,8,11,15,16,17] 2 kr gY)
 ·exact Zih (ih out Zo ziU Zo) fun R gY=>zab (wkl (p_1++[sb h1,si hw]) [1,2,4,8,11,15,16,17] 2 kr gY)
theorem zlg (N:Nat) (ts:List Tg) (table:Str) (ev:Int) (asg:List Str) (each:Bool) (hl:zac ts) (hs:zac asg) (hT:∀ t∈ts,TgSh N t):∃ (out:List Tg),out=ts.filter (appl table ev asg each)/\zaa E0 S.At [.sl (ts.map Tg.cells),sv table,iv ev,ssl asg,bv each] [] (.sl (out.map Tg.cells)) []:=by
 obtain ⟨out1,q1,q1_1,g1⟩:=zfN N ts table ev asg each zhp zhp hT 0 ([]) zhp zhp
 exact ⟨out1,(by rw [List.take_length] at *;assumption),wkcN At.At [] [1,2,4,8,11,15,16,17] 1 [(.ot 11 Ty.Trigger,2)] kr (g1 _ (zab (wkr [sqx (out1.length=(List.map Tg.cells out1).length),sb q1_1] kr)))⟩
theorem zfW (N:Nat) (ts:List Tg) (table:Str) (ev:Int) (asg:List Str) (each:Bool) (hl:zac ts) (hs:zac asg) (hT:∀ t∈ts,TgSh N t):zaa E0 S.At [.sl (ts.map Tg.cells),sv table,iv ev,ssl asg,bv each] [] (.sl ((ts.filter (appl table ev asg each)).map Tg.cells)) []:=by
 obtain ⟨out,rfl,h⟩:=zlg N ts table ev asg each hl hs hT
 exact h
theorem zBP (l:List Int) (h:(l.take 500).length<=500):Tp.cells ⟨l.take 500,0,h⟩=[.sl (((l.map fun n=>[iv n]).take 500).drop 0),iv 0]:=by simp [Tp.cells,List.map_take]
theorem zuI (l:List Int):∃ (t:Tp),zaa E0 S.DA [isl l] [] (.p 0 0) [.box t.cells]:=by
 cases h1:decide ((500:Int) < (((l.map fun n=>[iv n]).length:Nat):Int))
 ·exact ⟨⟨l,0,by simp at h1;omega⟩,wkK At.DA [sb h1] kr⟩
 ·refine ⟨⟨l.take 500,0,by simp;omega⟩,?_⟩
  rw [zBP]
  exact wkK At.DA [sb h1,sq (show SubAt (l.map fun n=>[iv n]) 0 500 1 from ⟨by decide,by decide,by simpa using Int.le_of_lt (by simpa using h1),by simp⟩)] kr
structure FsT (frs:List Fr):Prop where
 len:frs.length<=900
 rows:∀ f∈frs,zcX f.cols f.vals
 few:∀ f∈frs,Few f.cols
def schT:Sch:=⟨⟨#[116]⟩,[⟨⟨#[105,100]⟩,1,true,true⟩,⟨⟨#[110]⟩,1,false,false⟩,⟨⟨#[98]⟩,2,false,false⟩,⟨⟨#[115]⟩,3,false,false⟩]⟩
theorem zvf:zat ⟨#[116]⟩=schT:=by kernel_rfl
theorem zBK:SchOk schT:=zh9 (by simp [zak,schT])
def zb7 (n:Int):V :=
 V.mk 1 n Zs0
theorem zbZ (n:Int) :zaa E0 S.DG [iv n] [] ((zb7 n).av) []:=by
 exact wk At.DG [] kr
theorem zaT (b:Bool):zaa E0 S.Dx [bv b] [] (V.av ⟨2,if b then 1 else 0,⟨#[]⟩⟩) []:=by
 cases b
 ·exact wk At.Dx [sb Zf] kr
 ·exact wk At.Dx [sb Zt] kr
def zcf:Sch:=⟨⟨#[108,111,103]⟩,[⟨⟨#[110]⟩,1,false,false⟩,⟨⟨#[115]⟩,3,false,false⟩]⟩
theorem zmw:zat ⟨#[108,111,103]⟩=zcf:=by kernel_rfl
theorem zly:zaa E0 S.Cu [sv ⟨#[108,111,103]⟩] [] zcf.av []:=by
 have:=zj0 ⟨#[108,111,103]⟩ zeM
 rw [zmw] at this;exact this
/- known -/
@[simp] theorem ba_self (s:Str):(s==s)=true:=by
 cases s with
 | mk d =>
  have h:(d==d)=true:=by simp
  exact h
theorem TgOk.tr {n:Nat} {t:Tg} (h:TgOk (n+1) t):TrOk (n+1) t:=by
 refine ⟨zaQ h.acts,fun a ha=>?_,h.when_⟩
 have h1:=(h.act a ha).set
 unfold Ac.set0
 cases hs:a.sets with
 | nil=>exact ⟨zaH,⟨by simp [zmx],by simp [zmx]⟩,fun x hx=>by simp [zmx] at hx,fun q hq=>by simp [zmx] at hq⟩
 | cons x r=>rw [hs] at h1;exact h1 x Zs
theorem zoi {s:Str} {i:Int} (h:0<=i/\i < ((s.size:Nat):Int)):∃ c:UInt8,ByteAt s i ((c.toNat:Nat):Int):=by
 obtain ⟨n,rfl⟩:=Int.eq_ofNat_of_zero_le h.1
 have hlt:n < s.size:=by omega
 exact ⟨s[n],⟨by omega,by simp [hlt]⟩⟩
theorem zyi {α:Type} (f:α->List AV) {l:List α} {x:α} {n j m:Nat} (hx:(l.take n)[j]?=some x) (hc:(f x).length=m):ElAt ((l.map f).take n) ((j:Nat):Int) (f x) m:=by
 rw [← List.map_take]
 exact zaf f hx hc
abbrev acc (k:Int) (a:Ac):List AV:=[iv k,sv a.table,.sl (a.rows.map zau),.sl (zag a.query),.sl (a.sets.map Se.cells),.sl (zad a.wh),sv a.text]
def Col.tr (c:Col):Col:=⟨c.name,c.type,false,false⟩
def trTb (n:Str) (s:Sch):Tb:=⟨⟨n,s.cols.map Col.tr⟩,1,[]⟩
def AtI {α:Type} (l:List α) (i:Int) (x:α):Prop:=0<=i/\l[i.toNat]?=some x
theorem zyk {α:Type} {l:List α} {i:Int} (h:0<=i/\i < ((l.length:Nat):Int)):∃ x,AtI l i x :=
 ⟨l[i.toNat]'Zo,h.1,List.getElem?_eq_getElem Zo⟩
theorem ziG {α:Type} (f:α->List AV) {l:List α} {i:Int} {x:α} (h:AtI l i x) {n:Nat} (hn:(f x).length=n):ElAt (l.map f) i (f x) n :=
 ⟨h.1,by simp [h.2],hn⟩
def AcSet (a:Ac):Prop:=a.kind=5->∃ s,a.sets=[s]
theorem TbOk.tr {tb:List Tb} {s:Sch} {tr:List Tb} (h:TbOk tb) (hl:tb.length<=1000) (hs:zac s.cols) (ht:tr.length<=2/\∀ x∈tr,∃ n,x=trTb n s):TbOk (tb++tr):=by
 refine ⟨by have:=ht.1;simp only [zac,List.length_append];omega,fun x hx=>?_,fun x hx=>?_,fun x hx=>?_⟩ <;> rcases List.mem_append.mp hx with hx|hx
 ·exact h.cols x hx
 ·obtain ⟨n,rfl⟩:=ht.2 x hx
  simpa [trTb] using hs
 ·exact h.rows x hx
 ·obtain ⟨n,rfl⟩:=ht.2 x hx
  simp [trTb]
 ·exact h.vals x hx
 ·obtain ⟨n,rfl⟩:=ht.2 x hx
  intro r hr
  cases hr
end Go.AM
namespace Go.AM
open Go.RowKit
theorem ztD {xs:List Value} {s:Shp} (h:xs.map shp=[s]):∃ x,xs=[x]/\shp x=s:=by
 cases xs with
 | nil=>simp at h
 | cons x r =>
  cases r with
  | nil=>simp at h;exact ⟨x,rfl,h⟩
  | cons _ _=>simp at h
theorem zqj {d:TypeDesc} {k:Value} (hs:∀ (y:Value) (r:Bool),zdG k y=some r->Instr.sameNow d k y=some r):∀ (l:List MapEntry) (rs:List Bool) (n:Nat),rs.length=l.length ->
  (∀ (i:Nat) (e:MapEntry) (r:Bool),l[i]?=some e->rs[i]?=some r->∃ ys,e.key=keyV false ys/\zbf [k] ys=some r)->Instr.findNow d k l n=some (zeB l rs n)
 | [],[],_,_,_=>rfl
 | [],_::_,_,h,_=>by simp at h
 | _::_,[],_,h,_=>by simp at h
 | e::l,r::rs,n,hl,hall=>by
  obtain ⟨ys,h1,h2⟩:=hall 0 e r rfl rfl
  have h3:Instr.sameNow d k e.key=some r:=by
   cases ys with
   | nil=>simp [zbf] at h2
   | cons y ys =>
    simp only [zbf] at h2
    split at h2
    ·rename_i a b q1 q2
     cases ys with
     | cons _ _=>simp [zbf] at q2
     | nil =>
      simp [zbf] at q2
      subst q2
      simp only [Bool.and_true,Option.some.injEq] at h2
      subst h2
      rw [h1]
      exact hs _ _ q1
    ·cases h2
  have ih:=zqj hs l rs (n+1) (by simpa using hl) (fun i e r hi hr=>hall (i+1) e r (by simpa using hi) (by simpa using hr))
  unfold Instr.findNow
  rw [h3]
  cases r
  ·exact ih
  ·rfl
theorem zyA {P:Program} {t kt et:TypeId} {ik:IntKind} (hu:P.underlying t=some (.map kt et)) (hk:P.underlying kt=some (.int ik)) (n:Int):KeyOK P t (.v (.int ik n)):=by
 refine ⟨⟨false,[.int ik n],rfl,⟨⟨kt,et,hu,fun e w xs hx=>?_,fun w xs l rs hx hl hall=>?_⟩⟩⟩⟩
 ·obtain ⟨x,rfl,h⟩:=ztD hx
  obtain ⟨a,rfl⟩:=zvl h
  exact MapKept.run_checkKey hk (by simp [MapKept.IsKey,keyV]) e 9999
 ·obtain ⟨x,rfl,h⟩:=ztD hx
  obtain ⟨a,rfl⟩:=zvl h
  refine MapKept.run_findKey hk (zqj (fun y r hy=>?_) l rs 0 hl hall)
  simp only [keyV,List.headD_cons] at hy ⊢
  cases y <;> simp [zdG] at hy
  obtain ⟨rfl,rfl⟩:=hy
  simp [Instr.sameNow]
theorem znv {E:Env0} (ht:zaD E) (em:Bool) (d:Nat) (w:World):∀ (fs:List Field) (px xs:List Value),flat E.T px.length fs (xs.map shp)=true ->
  (forIn (m:=Sem) fs () fun f _=>do
   if f.name ≠ "_" then Instr.checkKey em (d + 1) f.type (← part f.type (px ++ xs).toArray f.offset)
   pure (ForInStep.yield ())).run E.P w=.ok () w
 | [],px,xs,hf=>by simp
 | f::fs,px,[],hf=>by simp [flat] at hf
 | f::fs,px,x::xs,hf=>by
  simp only [List.map_cons,flat,Bool.and_eq_true,bne_iff_ne] at hf
  obtain ⟨⟨⟨hn,ho⟩,hs⟩,hrest⟩:=hf
  have ho:=Nat.eq_of_beq_eq_true ho
  obtain ⟨hsz,hagg,hne⟩:=zpr hs
  obtain ⟨i,dd,z,tok⟩:=ht.at_ hne
  have p1:=zh4 tok w (px++x::xs) f.offset (by rw [hsz,ho];simp)
  rw [hsz,ho] at p1
  simp only [List.drop_left,List.take_succ_cons,List.take_zero,zfq,hagg,List.headD_cons] at p1
  have p2:(Instr.checkKey em (d+1) f.type x).run E.P w=.ok () w:=by
   cases x <;> simp [shp,znj] at hs
   all_goals
    split at hs
    ·rename_i hk
     first
     | (have:=tok.bool_ hk;subst this;exact MapKept.run_checkKey tok.und (by simp [MapKept.IsKey]) em d)
     | (have:=tok.int_ hk;subst this;unfold Instr.checkKey;simp [run_underlying tok.und])
     | (have:=tok.str_ hk;subst this;exact MapKept.run_checkKey tok.und (by simp [MapKept.IsKey]) em d)
    ·cases hs
  have ih:=znv ht em d w fs (px++[x]) xs (by simpa using hrest)
  simp only [List.append_assoc,List.singleton_append] at ih
  simp only [List.forIn_cons,Sem.run_bind,hn,ne_eq,not_false_eq_true,if_true,ho,p1,p2,Result.andThen_ok,Sem.run_pure]
  exact ih
theorem zlT {P:Program} {kt:TypeId} {ss:List Shp} (hq:StructEq P kt ss) (w:World) {xs:List Value} (hx:xs.map shp=ss):∀ (l:List MapEntry) (rs:List Bool) (n:Nat),rs.length=l.length ->
  (∀ (i:Nat) (e:MapEntry) (r:Bool),l[i]?=some e->rs[i]?=some r->∃ ys,e.key=keyV true ys/\zbf xs ys=some r)->(Instr.findAsking kt (.agg xs.toArray) l n).run P w=.ok (zeB l rs n) w
 | [],[],_,_,_=>by simp [Instr.findAsking,zeB]
 | [],_::_,_,h,_=>by simp at h
 | _::_,[],_,h,_=>by simp at h
 | e::l,r::rs,n,hl,hall=>by
  obtain ⟨ys,h1,h2⟩:=hall 0 e r rfl rfl
  have ih:=zlT hq w hx l rs (n+1) (by simpa using hl) (fun i e r hi hr=>hall (i+1) e r (by simpa using hi) (by simpa using hr))
  have h3:=hq.eq w xs ys r hx h2
  simp only [Instr.findAsking,Sem.run_bind,h1,keyV,h3,Result.andThen_ok]
  cases r
  ·simpa [zeB] using ih
  ·simp [zeB]
theorem zs5 {E:Env0} (ht:zaD E) {t kt et:TypeId} {fs:Array Field} {ss:List Shp} (hu:E.P.underlying t=some (.map kt et)) (hk:E.P.underlying kt=some (.struct fs)) (hf:flat E.T 0 fs.toList ss=true) (hq:StructEq E.P kt ss) {cs:List AV} {xs:List Value}
  (hc:zeL cs=some xs) (hs:xs.map shp=ss):KeyOK E.P t (.agg cs):=by
 refine ⟨⟨true,xs,by simp [zcx,hc],⟨⟨kt,et,hu,fun e w us hx=>?_,fun w us l rs hx hl hall=>?_⟩⟩⟩⟩
 ·have h1:=znv ht e 9998 w fs.toList [] us (by rw [hx,hs];exact hf)
  simp only [List.nil_append] at h1
  show (Instr.checkKey e 10000 kt (.agg us.toArray)).run E.P w=.ok () w
  unfold Instr.checkKey
  simp only [Sem.run_bind,run_underlying hk,Result.andThen_ok]
  rw [← Array.forIn_toList]
  have h2:∀ r:Result Unit,r=.ok () w->(r.andThen fun a w'=>(pure ():Sem Unit).run E.P w')=.ok () w:=by
   rintro _ rfl
   rfl
  exact h2 _ h1
 ·show (Instr.findKey kt (.agg us.toArray) l).run E.P w=_
  rw [run_findKey_eq w (by rw [hk]) _ l]
  exact zlT hq w (by rw [hx,hs]) l rs 0 hl hall
end Go.AM
