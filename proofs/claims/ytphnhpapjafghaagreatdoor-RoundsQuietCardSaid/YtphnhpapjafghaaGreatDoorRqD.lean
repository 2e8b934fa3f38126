/-
  Contracts of the program's functions, part 3.
-/
import Derived.Test.YtphnhpapjafghaaGreatDoorRqC
import Derived.Laws.Externs
import Derived.Lib.Bytealg
import Derived.WideKeyRuns
import Derived.Laws.IdiomRangeMap
import Derived.Maps.RangeRun
set_option maxRecDepth 100000
set_option maxHeartbeats 40000000
set_option linter.unusedSimpArgs false
set_option linter.unusedVariables false
namespace Go.AM
def zt4 (kind op:Int) (xs:List X) (qs:List Qy) (st:Bool) (it wh:List X):Bool :=
 bif kind==1 then
  bif (↑(zad xs).length:Int)==0 then
   (↑(zam qs).length:Int)==(0:Int)
  else
   false
 else
  bif kind==2 then
   bif (↑(zad xs).length:Int)==0 then
    (↑(zam qs).length:Int)==(0:Int)
   else
    false
  else
   bif kind==3 then
    bif (↑(zad xs).length:Int)==1 then
     (↑(zam qs).length:Int)==(0:Int)
    else
     false
   else
    bif kind==4 then
     bif (↑(zad xs).length:Int)==1 then
      (↑(zam qs).length:Int)==(0:Int)
     else
      false
    else
     bif kind==6 then
      bif (↑(zad xs).length:Int)==1 then
       (↑(zam qs).length:Int)==(0:Int)
      else
       false
     else
      bif kind==5 then
       bif decide (op < 1) then
        false
       else
        bif decide (13 < op) then
         false
        else
         bif (↑(zad xs).length:Int)==2 then
          (↑(zam qs).length:Int)==(0:Int)
         else
          false
      else
       bif kind==7 then
        bif (↑(zad xs).length:Int)==3 then
         (↑(zam qs).length:Int)==(0:Int)
        else
         false
       else
        bif kind==8 then
         bif (↑(zad xs).length:Int)==0 then
          bif (↑(zam qs).length:Int)==1 then
           bif (↑(zad it).length:Int)==0 then
            decide ((↑(zad wh).length:Int)<=(1:Int))
           else
            false
          else
           false
         else
          false
        else
         bif kind==9 then
          bif (↑(zad xs).length:Int)==0 then
           bif (↑(zam qs).length:Int)==1 then
            bif (↑(zad it).length:Int)==0 then
             decide ((↑(zad wh).length:Int)<=(1:Int))
            else
             false
           else
            false
          else
           false
         else
          bif kind==10 then
           bif (↑(zad xs).length:Int)==0 then
            bif (↑(zam qs).length:Int)==1 then
             bif (↑(zad it).length:Int)==1 then
              decide ((↑(zad wh).length:Int)<=(1:Int))
             else
              false
            else
             false
           else
            false
          else
           bif kind==11 then
            bif (↑(zad xs).length:Int)==0 then
             bif (↑(zam qs).length:Int)==1 then
              bif (↑(zad it).length:Int)==1 then
               decide ((↑(zad wh).length:Int)<=(1:Int))
              else
               false
             else
              false
            else
             false
           else
            bif kind==12 then
             bif (↑(zad xs).length:Int)==0 then
              bif (↑(zam qs).length:Int)==1 then
               bif (↑(zad it).length:Int)==1 then
                decide ((↑(zad wh).length:Int)<=(1:Int))
               else
                false
              else
               false
             else
              false
            else
             false
theorem zoq (kind op:Int) (xs:List X) (qs:List Qy) (st:Bool) (it wh:List X) (nt:Bool) (val:V) (tn nm:Str) (fm:Str) (hq:qs[0]?=some (Qy.mk st it fm wh)):zab E0 S.Ad [X.av (.mk kind op nt val tn nm xs qs)] [] (bv (zt4 kind op xs qs st it wh)) []:=by
 unfold zt4
 cases h1:kind==1
 ·cases h2:kind==2
  ·cases h3:kind==3
   ·cases h4:kind==4
    ·cases h5:kind==6
     ·cases h6:kind==5
      ·let p_1:List St:=[sb h1,sb h2,sb h3,sb h4,sb h5,sb h6]
       cases h7:kind==7
       ·cases h8:kind==8
        ·cases h9:kind==9
         ·cases h10:kind==10
          ·cases h11:kind==11
           ·cases h12:kind==12
            ·exact wk At.Ad (p_1++[sb h7,sb h8,sb h9,sb h10,sb h11,sb h12]) kr
            ·let p_2:List St:=p_1++[sb h7,sb h8,sb h9,sb h10,sb h11,sb h12,sb Zf]
             cases h13:(↑(zad xs).length:Int)==0
             ·exact wk At.Ad (p_2++[sb h13]) kr
             ·cases h14:(↑(zam qs).length:Int)==1
              ·exact wk At.Ad (p_2++[sg h13,sb h14]) kr
              ·cases h15:(↑(zad it).length:Int)==1
               ·exact wk At.Ad (p_2++[sg h13,sg h14,se (zbE hq),sb h15]) kr
               ·exact wk At.Ad (p_2++[sg h13,sg h14,se (zbE hq),sg h15,se (zbE hq)]) kr
           ·let p_3:List St:=p_1++[sb h7,sb h8,sb h9,sb h10,sb h11,sb Zf]
            cases h16:(↑(zad xs).length:Int)==0
            ·exact wk At.Ad (p_3++[sb h16]) kr
            ·cases h17:(↑(zam qs).length:Int)==1
             ·exact wk At.Ad (p_3++[sg h16,sb h17]) kr
             ·cases h18:(↑(zad it).length:Int)==1
              ·exact wk At.Ad (p_3++[sg h16,sg h17,se (zbE hq),sb h18]) kr
              ·exact wk At.Ad (p_3++[sg h16,sg h17,se (zbE hq),sg h18,se (zbE hq)]) kr
          ·let p_4:List St:=p_1++[sb h7,sb h8,sb h9,sb h10,sb Zf]
           cases h19:(↑(zad xs).length:Int)==0
           ·exact wk At.Ad (p_4++[sb h19]) kr
           ·cases h20:(↑(zam qs).length:Int)==1
            ·exact wk At.Ad (p_4++[sg h19,sb h20]) kr
            ·cases h21:(↑(zad it).length:Int)==1
             ·exact wk At.Ad (p_4++[sg h19,sg h20,se (zbE hq),sb h21]) kr
             ·exact wk At.Ad (p_4++[sg h19,sg h20,se (zbE hq),sg h21,se (zbE hq)]) kr
         ·let p_5:List St:=p_1++[sb h7,sb h8,sb h9,sb Zf]
          cases h22:(↑(zad xs).length:Int)==0
          ·exact wk At.Ad (p_5++[sb h22]) kr
          ·cases h23:(↑(zam qs).length:Int)==1
           ·exact wk At.Ad (p_5++[sg h22,sb h23]) kr
           ·cases h24:(↑(zad it).length:Int)==0
            ·exact wk At.Ad (p_5++[sg h22,sg h23,se (zbE hq),sb h24]) kr
            ·exact wk At.Ad (p_5++[sg h22,sg h23,se (zbE hq),sg h24,se (zbE hq)]) kr
        ·let p_6:List St:=p_1++[sb h7,sb h8,sb Zf]
         cases h25:(↑(zad xs).length:Int)==0
         ·exact wk At.Ad (p_6++[sb h25]) kr
         ·cases h26:(↑(zam qs).length:Int)==1
          ·exact wk At.Ad (p_6++[sg h25,sb h26]) kr
          ·cases h27:(↑(zad it).length:Int)==0
           ·exact wk At.Ad (p_6++[sg h25,sg h26,se (zbE hq),sb h27]) kr
           ·exact wk At.Ad (p_6++[sg h25,sg h26,se (zbE hq),sg h27,se (zbE hq)]) kr
       ·cases h28:(↑(zad xs).length:Int)==3
        ·exact wk At.Ad (p_1++[sb h7,sb Zt,sb h28]) kr
        ·exact wk At.Ad (p_1++[sb h7,sb Zt,sg h28]) kr
      ·let p_7:List St:=[sb h1,sb h2,sb h3,sb h4,sb h5,sb h6]
       cases h29:decide (op < 1)
       ·cases h30:decide (13 < op)
        ·let p_8:List St:=p_7++[sg h29,sb h30,sb Zt]
         cases h31:(↑(zad xs).length:Int)==2
         ·exact wk At.Ad (p_8++[sb h31]) kr
         ·exact wk At.Ad (p_8++[sg h31]) kr
        ·exact wk At.Ad (p_7++[sg h29,sb h30]) kr
       ·exact wk At.Ad (p_7++[sb h29]) kr
     ·let p_9:List St:=[sb h1,sb h2,sb h3,sb h4,sb h5,sb Zt]
      cases h32:(↑(zad xs).length:Int)==1
      ·exact wk At.Ad (p_9++[sb h32]) kr
      ·exact wk At.Ad (p_9++[sg h32]) kr
    ·let p_10:List St:=[sb h1,sb h2,sb h3,sb h4,sb Zt]
     cases h33:(↑(zad xs).length:Int)==1
     ·exact wk At.Ad (p_10++[sb h33]) kr
     ·exact wk At.Ad (p_10++[sg h33]) kr
   ·let p_11:List St:=[sb h1,sb h2,sb h3,sb Zt]
    cases h34:(↑(zad xs).length:Int)==1
    ·exact wk At.Ad (p_11++[sb h34]) kr
    ·exact wk At.Ad (p_11++[sg h34]) kr
  ·cases h35:(↑(zad xs).length:Int)==0
   ·exact wk At.Ad [sb h1,sb h2,sb h35] kr
   ·exact wk At.Ad [sb h1,sb h2,sg h35] kr
 ·cases h36:(↑(zad xs).length:Int)==0
  ·exact wk At.Ad [sb h1,sb h36] kr
  ·exact wk At.Ad [sb h1,sg h36] kr
def zt3 (kind op:Int) (xs:List X):Bool :=
 bif kind==1 then
  bif (↑(zad xs).length:Int)==0 then
   (↑(zam []).length:Int)==(0:Int)
  else
   false
 else
  bif kind==2 then
   bif (↑(zad xs).length:Int)==0 then
    (↑(zam []).length:Int)==(0:Int)
   else
    false
  else
   bif kind==3 then
    bif (↑(zad xs).length:Int)==1 then
     (↑(zam []).length:Int)==(0:Int)
    else
     false
   else
    bif kind==4 then
     bif (↑(zad xs).length:Int)==1 then
      (↑(zam []).length:Int)==(0:Int)
     else
      false
    else
     bif kind==6 then
      bif (↑(zad xs).length:Int)==1 then
       (↑(zam []).length:Int)==(0:Int)
      else
       false
     else
      bif kind==5 then
       bif decide (op < 1) then
        false
       else
        bif decide (13 < op) then
         false
        else
         bif (↑(zad xs).length:Int)==2 then
          (↑(zam []).length:Int)==(0:Int)
         else
          false
      else
       bif kind==7 then
        bif (↑(zad xs).length:Int)==3 then
         (↑(zam []).length:Int)==(0:Int)
        else
         false
       else
        bif kind==8 then
         bif (↑(zad xs).length:Int)==0 then
          false
         else
          false
        else
         bif kind==9 then
          bif (↑(zad xs).length:Int)==0 then
           false
          else
           false
         else
          bif kind==10 then
           bif (↑(zad xs).length:Int)==0 then
            false
           else
            false
          else
           bif kind==11 then
            bif (↑(zad xs).length:Int)==0 then
             false
            else
             false
           else
            bif kind==12 then
             bif (↑(zad xs).length:Int)==0 then
              false
             else
              false
            else
             false
theorem zop (kind op:Int) (xs:List X) (nt:Bool) (val:V) (tn nm:Str):zab E0 S.Ad [X.av (.mk kind op nt val tn nm xs [])] [] (bv (zt3 kind op xs)) []:=by
 unfold zt3
 cases h1:kind==1
 ·cases h2:kind==2
  ·cases h3:kind==3
   ·cases h4:kind==4
    ·cases h5:kind==6
     ·cases h6:kind==5
      ·let p_1:List St:=[sb h1,sb h2,sb h3,sb h4,sb h5,sb h6]
       cases h7:kind==7
       ·cases h8:kind==8
        ·cases h9:kind==9
         ·cases h10:kind==10
          ·cases h11:kind==11
           ·cases h12:kind==12
            ·exact wk At.Ad (p_1++[sb h7,sb h8,sb h9,sb h10,sb h11,sb h12]) kr
            ·let p_2:List St:=p_1++[sb h7,sb h8,sb h9,sb h10,sb h11,sb h12,sb Zf]
             cases h13:(↑(zad xs).length:Int)==0
             ·exact wk At.Ad (p_2++[sb h13]) kr
             ·exact wk At.Ad (p_2++[sg h13,sb Zf]) kr
           ·let p_3:List St:=p_1++[sb h7,sb h8,sb h9,sb h10,sb h11,sb Zf]
            cases h14:(↑(zad xs).length:Int)==0
            ·exact wk At.Ad (p_3++[sb h14]) kr
            ·exact wk At.Ad (p_3++[sg h14,sb Zf]) kr
          ·let p_4:List St:=p_1++[sb h7,sb h8,sb h9,sb h10,sb Zf]
           cases h15:(↑(zad xs).length:Int)==0
           ·exact wk At.Ad (p_4++[sb h15]) kr
           ·exact wk At.Ad (p_4++[sg h15,sb Zf]) kr
         ·let p_5:List St:=p_1++[sb h7,sb h8,sb h9,sb Zf]
          cases h16:(↑(zad xs).length:Int)==0
          ·exact wk At.Ad (p_5++[sb h16]) kr
          ·exact wk At.Ad (p_5++[sg h16,sb Zf]) kr
        ·let p_6:List St:=p_1++[sb h7,sb h8,sb Zf]
         cases h17:(↑(zad xs).length:Int)==0
         ·exact wk At.Ad (p_6++[sb h17]) kr
         ·exact wk At.Ad (p_6++[sg h17,sb Zf]) kr
       ·cases h18:(↑(zad xs).length:Int)==3
        ·exact wk At.Ad (p_1++[sb h7,sb Zt,sb h18]) kr
        ·exact wk At.Ad (p_1++[sb h7,sb Zt,sg h18]) kr
      ·let p_7:List St:=[sb h1,sb h2,sb h3,sb h4,sb h5,sb h6]
       cases h19:decide (op < 1)
       ·cases h20:decide (13 < op)
        ·let p_8:List St:=p_7++[sg h19,sb h20,sb Zt]
         cases h21:(↑(zad xs).length:Int)==2
         ·exact wk At.Ad (p_8++[sb h21]) kr
         ·exact wk At.Ad (p_8++[sg h21]) kr
        ·exact wk At.Ad (p_7++[sg h19,sb h20]) kr
       ·exact wk At.Ad (p_7++[sb h19]) kr
     ·let p_9:List St:=[sb h1,sb h2,sb h3,sb h4,sb h5,sb Zt]
      cases h22:(↑(zad xs).length:Int)==1
      ·exact wk At.Ad (p_9++[sb h22]) kr
      ·exact wk At.Ad (p_9++[sg h22]) kr
    ·let p_10:List St:=[sb h1,sb h2,sb h3,sb h4,sb Zt]
     cases h23:(↑(zad xs).length:Int)==1
     ·exact wk At.Ad (p_10++[sb h23]) kr
     ·exact wk At.Ad (p_10++[sg h23]) kr
   ·let p_11:List St:=[sb h1,sb h2,sb h3,sb Zt]
    cases h24:(↑(zad xs).length:Int)==1
    ·exact wk At.Ad (p_11++[sb h24]) kr
    ·exact wk At.Ad (p_11++[sg h24]) kr
  ·cases h25:(↑(zad xs).length:Int)==0
   ·exact wk At.Ad [sb h1,sb h2,sb h25] kr
   ·exact wk At.Ad [sb h1,sb h2,sg h25] kr
 ·cases h26:(↑(zad xs).length:Int)==0
  ·exact wk At.Ad [sb h1,sb h26] kr
  ·exact wk At.Ad [sb h1,sg h26] kr
def znN (e:X):Bool:=match e.sub with
 | []=>zt3 e.kind e.op e.args
 | q::r=>zt4 e.kind e.op e.args (q::r) q.star q.items q.wh
theorem zbr (e:X):Pure S.Ad [e.av] (bv (znN e)):=by
 cases e with
 | mk kind op nt val tn nm xs qs =>
  cases qs with
  | nil=>exact zop kind op xs nt val tn nm
  | cons q r=>cases q with
   | mk st it fm wh=>exact zoq kind op xs _ st it wh nt val tn nm fm rfl
def zs4 (e:X):Bool:=match e.sub with
 | []=>zqn e.kind e.op e.args
 | q::r=>zqo e.kind e.op e.args (q::r) q.items q.wh
theorem ztG (frs:List Fr) (q n:Str) (k:Nat) (f:Fr) (els:Int × Int × Bool):∀ (c:List Col) (j:Nat),(zda frs q n k f els c j=els)\/(∃ (i:Nat) (x:Col),zda frs q n k f els c j=(((k:Nat):Int),((j+i:Nat):Int),true)/\c[i]?=some x)
 | [],j=>.inl rfl
 | x::r,j=>by
  rcases ztG frs q n k f els r (j+1) with h|⟨i,y,h,hy⟩
  ·simp only [zda,Bool.cond_eq_ite]
   split
   ·exact .inr ⟨0,x,rfl,rfl⟩
   ·exact .inl h
  ·simp only [zda,Bool.cond_eq_ite]
   split
   ·exact .inr ⟨0,x,rfl,rfl⟩
   ·exact .inr ⟨i+1,y,by rw [h];congr 2;omega,hy⟩
theorem zvA (frs:List Fr) (q n:Str):∀ (k:Nat),k<=frs.length->(rres frs q n k).2.2=true->∃ (i j:Nat) (f:Fr) (c:Col),rres frs q n k=((i:Int),(j:Int),true)/\frs[i]?=some f/\f.cols[j]?=some c
 | 0,_,h=>by simp [rres] at h
 | k+1,hk,h=>by
  have ih:=zvA frs q n k Zo
  have hx:=zqq (l:=frs) (k:=k) za0 Zo
  have hi:=ztG frs q n k (frs.getD k za0) (rres frs q n k) (frs.getD k za0).cols 0
  simp only [rres,Bool.cond_eq_ite] at h ⊢
  have key:(zda frs q n k (frs.getD k za0) (rres frs q n k) (frs.getD k za0).cols 0).2.2=true->∃ (i j:Nat) (f:Fr) (c:Col),zda frs q n k (frs.getD k za0) (rres frs q n k) (frs.getD k za0).cols 0=((i:Int),(j:Int),true)/\frs[i]?=some f/\f.cols[j]?=some c:=by
   intro h
   rcases hi with e|⟨i,y,e,hy⟩
   ·rw [e] at h ⊢;exact ih h
   ·exact ⟨k,0+i,_,y,e,hx,by simpa using hy⟩
  revert h
  repeat' split
  all_goals first|exact ih|exact key
def cNull:Col:=⟨⟨#[]⟩,0,false,false⟩
def rFr (frs:List Fr) (q n:Str):Fr:=frs.getD (zbm frs q n).1.toNat za0
def rCol (frs:List Fr) (q n:Str):Col:=(rFr frs q n).cols.getD (zbm frs q n).2.1.toNat cNull
theorem zn9 {frs:List Fr} {q n:Str} (h:(zbm frs q n).2.2=true):∃ (i j:Nat),zbm frs q n=((i:Int),(j:Int),true)/\frs[i]?=some (rFr frs q n)/\(rFr frs q n).cols[j]?=some (rCol frs q n):=by
 have h':=h
 unfold zbm at h'
 obtain ⟨i,j,f,c,e,hf,hc⟩:=zvA frs q n frs.length (yJ _) h'
 have e':zbm frs q n=((i:Int),(j:Int),true):=e
 have e1:rFr frs q n=f:=by simp [rFr,e',yAF,hf]
 have e2:rCol frs q n=c:=by simp [rCol,e1,e',yAF,hc]
 exact ⟨i,j,e',by rw [e1];exact hf,by rw [e1,e2];exact hc⟩
theorem zya (frs:List Fr) (q n:Str) (h:(zbm frs q n).2.2=true):ElAt (frs.map Fr.cells) (zbm frs q n).1 (rFr frs q n).cells 4:=by
 obtain ⟨i,j,e,h1,h2⟩:=zn9 h
 rw [show (zbm frs q n).1=(i:Int) by rw [e]]
 exact zaf Fr.cells h1 rfl
theorem zvg (frs:List Fr) (q n:Str) (h:(zbm frs q n).2.2=true):ElAt ((rFr frs q n).cols.map Col.cells) (zbm frs q n).2.1 (rCol frs q n).cells 4:=by
 obtain ⟨i,j,e,h1,h2⟩:=zn9 h
 rw [show (zbm frs q n).2.1=(j:Int) by rw [e]]
 exact zaf Col.cells h2 rfl
def ztC (f:X->Int × Int) (x:X):Int :=
 bif (f x).snd != 0 then
  (f x).snd
 else
  bif !zhK (f x).fst 2 then
   5
  else
   0
theorem zlw (f:X->Int × Int) (x:X) (r:List X) (frs:List Fr) (tb:List Tb) (hn:((((zad (x::r)).length:Nat):Int)==0)=false) (hf:Pure S.AE [x.av,fsl frs,tsl tb] (.tup [iv (f x).1,iv (f x).2])):zab E0 S.AP [xsl (x::r),fsl frs,tsl tb] [] (iv (ztC f x)) []:=by
 unfold ztC
 cases h1:(f x).snd != 0
 ·cases h2:!zhK (f x).fst 2
  ·exact wk At.AP [sb Zf,se (zcD (l:=x::r) (i:=0) (x:=x) rfl),sc hf,sb h1,sc (zbZ ((f x).fst) 2),sb h2] kr
  ·exact wk At.AP [sb Zf,se (zcD (l:=x::r) (i:=0) (x:=x) rfl),sc hf,sb h1,sc (zbZ ((f x).fst) 2),sb h2] kr
 ·exact wk At.AP [sb Zf,se (zcD (l:=x::r) (i:=0) (x:=x) rfl),sc hf,sb h1] kr
def zyF :Int :=
 0
theorem zlv  (frs:List Fr) (tb:List Tb):zab E0 S.AP [xsl [],fsl frs,tsl tb] [] (iv zyF) []:=by
 exact wk At.AP [sb Zt] kr
noncomputable def zoE (f:X->Int × Int) (e:X) (frs:List Fr) (tb:List Tb) (i:Nat) (l:List Int):Cfg:=zai B.AE 0 [(1,fsl frs),(2,tsl tb),(3,.p 0 0),(11,.own 1 l.length),(60,xsl e.args),(61,iv ((zad e.args).length:Nat)),(62,iv (i:Nat))] [.box e.cells,.row Ty.int (l.map fun n=>[iv n]) false]
def rtyL (f:X->Int × Int) (e:X) (frs:List Fr) (tb:List Tb):List (X)->Nat->(List Int)->Int × Int
 | [],i,l =>
  ((zkD e l).fst,(zkD e l).snd)
 | x::r,i,l =>
  bif (f x).snd != 0 then
   (0,(f x).snd)
  else
   rtyL f e frs tb r (i+1) (l++[(f x).fst])
theorem zuS (f:X->Int × Int) (e:X) (frs:List Fr) (tb:List Tb) (hl:zac e.args) (hf:∀ x∈e.args,Pure S.AE [x.av,fsl frs,tsl tb] (.tup [iv (f x).1,iv (f x).2])):∀ (kk i:Nat) (l:List Int),i+kk=(e.args).length->l.length<=i->Good E0 B.AE [] (zoE f e frs tb i l) (Shut 0 fun r h=>r=(.tup [iv (rtyL f e frs tb ((e.args).drop i) i l).1,iv (rtyL f e frs tb ((e.args).drop i) i l).2])/\h=[]):=by
 intro kk
 induction kk with
 | zero =>
  intro i l hi ho
  have h0:decide (((i:Nat):Int) < (((zad e.args).length:Nat):Int))=false:=by simp;omega
  have e0:(e.args).drop i=[]:=yAJ Zo
  rw [e0]
  simp only [rtyL]
  refine zaa ?_
  exact wkr [sb h0,skx ((True/\True/\True/\True/\True/\True/\True/\True/\True/\True/\True)/\l.length=(List.map (fun n=>[iv n]) l).length/\True) [] (zqw e l (by first|assumption|(simp only [zac] at *;omega)))] kr
 | succ kk ih =>
  intro i l hi ho
  obtain ⟨x,hx⟩:=zbc (l:=e.args) (i:=i) Zo
  have h0:decide (((i:Nat):Int) < (((zad e.args).length:Nat):Int))=true:=by simp;omega
  have hw:=zba i (by first|omega|(simp only [zac,Few] at *;omega))
  have hfx:=hf x (yC hx)
  rw [zaB hx]
  simp only [rtyL]
  refine zaa ?_
  cases h1:(f x).snd != 0
  ·exact wkl [sb h0,se (zcD hx),sc hfx,sb h1,sqA (List.map (fun n=>[iv n]) l) [[iv (f x).fst]] l.length 1 8,si hw] [1,2,3,11,60,61,62] 2 kr (zaK 11 1 (List.map (fun n=>[iv n]) l++[[iv (f x).fst]]) (ih (i+1) (l++[(f x).fst]) Zo (by first|assumption|(simp;done)|(simp;omega)|omega|(simp at *;omega))) (he:=Zcv0) (hm:=Zcv0))
  ·exact wkr [sb h0,se (zcD hx),sc hfx,sb h1] kr
noncomputable def L_rtqL (f:X->Int × Int) (cond:Int) (e:X) (q:Qy) (ins:List Fr) (tb:List Tb) (i:Nat) (item:Int):Cfg:=zai B.BN 0 [(2,tsl tb),(3,.p 0 0),(8,.p 1 0),(11,fsl ins),(12,iv item),(35,xsl q.items),(36,iv ((zad q.items).length:Nat)),(37,iv (i:Nat))] [.box e.cells,.box q.cells]
def rtqL (f:X->Int × Int) (cond:Int) (e:X) (q:Qy) (ins:List Fr) (tb:List Tb):List (X)->Nat->(Int)->Int × Int
 | [],i,item =>
  bif cond != 0 then
   (0,cond)
  else
   bif e.kind==10 then
    bif !zhK item 1 then
     (0,5)
    else
     bif e.kind==8 then
      (2,0)
     else
      bif e.kind==11 then
       (item,0)
      else
       bif e.kind==12 then
        (item,0)
       else
        (1,0)
   else
    bif e.kind==8 then
     (2,0)
    else
     bif e.kind==11 then
      (item,0)
     else
      bif e.kind==12 then
       (item,0)
      else
       (1,0)
 | x::r,i,item =>
  bif (f x).snd != 0 then
   (0,(f x).snd)
  else
   rtqL f cond e q ins tb r (i+1) ((f x).fst)
theorem zuR (f:X->Int × Int) (cond:Int) (e:X) (q:Qy) (ins:List Fr) (tb:List Tb) (hl:zac q.items) (hf:∀ x∈q.items,Pure S.AE [x.av,fsl ins,tsl tb] (.tup [iv (f x).1,iv (f x).2])) (hc:Pure S.AP [xsl q.wh,fsl ins,tsl tb] (iv cond)):∀ (kk i:Nat) (item:Int),i+kk=(q.items).length->Good E0 B.BN [] (L_rtqL f cond e q ins tb i item) (Shut 0 fun r h=>r=(.tup [iv (rtqL f cond e q ins tb ((q.items).drop i) i item).1,iv (rtqL f cond e q ins tb ((q.items).drop i) i item).2])/\h=[]):=by
 intro kk
 induction kk with
 | zero =>
  intro i item hi
  have h0:decide (((i:Nat):Int) < (((zad q.items).length:Nat):Int))=false:=by simp;omega
  have e0:(q.items).drop i=[]:=yAJ Zo
  rw [e0]
  simp only [rtqL]
  refine zaa ?_
  cases h1:cond != 0
  ·cases h2:e.kind==10
   ·cases h3:e.kind==8
    ·cases h4:e.kind==11
     ·cases h5:e.kind==12
      ·exact wkr [sb h0,sc hc,sb h1,sb h2,sb h3,sb h4,sb h5] kr
      ·exact wkr [sb h0,sc hc,sb h1,sb h2,sb h3,sb h4,sb h5] kr
     ·exact wkr [sb h0,sc hc,sb h1,sb h2,sb h3,sb h4] kr
    ·exact wkr [sb h0,sc hc,sb h1,sb h2,sb h3] kr
   ·cases h6:!zhK item 1
    ·cases h7:e.kind==8
     ·cases h8:e.kind==11
      ·cases h9:e.kind==12
       ·exact wkr [sb h0,sc hc,sb h1,sg h2,sc (zbZ item 1),sb h6,sb h7,sb h8,sb h9] kr
       ·exact wkr [sb h0,sc hc,sb h1,sg h2,sc (zbZ item 1),sb h6,sb h7,sb h8,sb h9] kr
      ·exact wkr [sb h0,sc hc,sb h1,sg h2,sc (zbZ item 1),sb h6,sb h7,sb h8] kr
     ·exact wkr [sb h0,sc hc,sb h1,sg h2,sc (zbZ item 1),sb h6,sb h7] kr
    ·exact wkr [sb h0,sc hc,sb h1,sg h2,sc (zbZ item 1),sb h6] kr
  ·exact wkr [sb h0,sc hc,sb h1] kr
 | succ kk ih =>
  intro i item hi
  obtain ⟨x,hx⟩:=zbc (l:=q.items) (i:=i) Zo
  have h0:decide (((i:Nat):Int) < (((zad q.items).length:Nat):Int))=true:=by simp;omega
  have hw:=zba i (by first|omega|(simp only [zac,Few] at *;omega))
  have hfx:=hf x (yC hx)
  rw [zaB hx]
  simp only [rtqL]
  refine zaa ?_
  cases h1:(f x).snd != 0
  ·exact wkl [sb h0,se (zcD hx),sc hfx,sb h1,si hw] [2,3,8,11,12,35,36,37] 2 kr (ih (i+1) ((f x).fst) Zo )
  ·exact wkr [sb h0,se (zcD hx),sc hfx,sb h1] kr
theorem zdq {p:Prop} (h:p:=by first|assumption|exact hfo.short|exact hfo.cols|exact hfo.wrap|(simp_all;done)):p:=h
theorem zpE {p:Prop} (h:p:=by first|assumption|exact hfo.short|exact hto.len|exact hto.cols):p:=h
structure FsOk (n:Nat) (frs:List Fr):Prop where
 len:frs.length+n<=1000000
 cols:∀ f∈frs,zac f.cols
 vals:∀ f∈frs,∀ v∈f.vals,v.small
structure TbOk (tb:List Tb):Prop where
 len:zac tb
 cols:∀ x∈tb,zac x.sch.cols
 rows:∀ x∈tb,x.rows.length<=1000
 vals:∀ x∈tb,∀ r∈x.rows,∀ v∈r.vals,v.small
theorem FsOk.short {n:Nat} {frs:List Fr} (h:FsOk n frs):zac frs:=by have:=h.len;simp only [zac];omega
theorem FsOk.wrap {n:Nat} {frs:List Fr} (h:FsOk n frs):IntKind.i64.wrap ((((frs.map Fr.cells).length:Nat):Int) - 1)=pm1 frs.length:=zz2 _ _ h.short
theorem FsOk.less {n:Nat} {frs:List Fr} (h:FsOk (n+1) frs):FsOk n frs:=⟨by have:=h.len;omega,h.cols,h.vals⟩
def rtqF (f:X->Int × Int) (cond:Int) (e:X) (q:Qy) (frs:List Fr) (tb:List Tb):Int × Int :=
 bif !(zaw tb q.frm).snd then
  (0,3)
 else
  rtqL f cond e q (zbg frs (zaw tb q.frm).1 []) tb q.items 0 (1)
theorem zmg (f:X->Int × Int) (cond:Int) (e:X) (q:Qy) (frs:List Fr) (tb:List Tb) (n:Nat) (hq:e.sub[0]?=some q) (hfo:FsOk n frs) (hto:TbOk tb) (hl:zac q.items) (hf:∀ x∈q.items,Pure S.AE [x.av,fsl (zbg frs (zaw tb q.frm).1 []),tsl tb] (.tup [iv (f x).1,iv (f x).2])) (hc:Pure S.AP [xsl q.wh,fsl (zbg frs (zaw tb q.frm).1 []),tsl tb] (iv cond)):zab E0 S.BN [e.av,fsl frs,tsl tb] [] (.tup [iv (rtqF f cond e q frs tb).1,iv (rtqF f cond e q frs tb).2]) []:=by
 unfold rtqF
 cases h1:!(zaw tb q.frm).snd
 ·exact wkc At.BN [se (zbE hq),sc (zb8 tb q.frm zpE zpE),sb h1,sc (zgt frs ((zaw tb q.frm).fst) ([]) zpE)] [2,3,8,11,12,35,36,37] 2 kr (by have ih:=zuR f cond e q (zbg frs (zaw tb q.frm).1 []) tb hl hf hc q.items.length 0 1 Zs;exact ih)
 ·exact wk At.BN [se (zbE hq),sc (zb8 tb q.frm zpE zpE),sb h1] kr
def zse (f:X->Int × Int) (e:X) (frs:List Fr) (tb:List Tb):Int × Int :=
 bif !znN e then
  (0,17)
 else
  bif e.kind==1 then
   (e.val.kind,0)
  else
   bif e.kind==2 then
    bif !(zbm frs e.table e.name).snd.snd then
     (0,3)
    else
     ((rCol frs e.table e.name).type,0)
   else
    rtyL f e frs tb e.args 0 ([])
theorem zpb (f:X->Int × Int) (e:X) (frs:List Fr) (tb:List Tb) (n:Nat) (hfo:FsOk n frs) (hl:zac e.args) (hn:decide ((0:Int) < (((zam e.sub).length:Nat):Int))=false) (hf:∀ x∈e.args,Pure S.AE [x.av,fsl frs,tsl tb] (.tup [iv (f x).1,iv (f x).2])):zab E0 S.AE [e.av,fsl frs,tsl tb] [] (.tup [iv (zse f e frs tb).1,iv (zse f e frs tb).2]) []:=by
 unfold zse
 cases h1:!znN e
 ·cases h2:e.kind==1
  ·cases h3:e.kind==2
   ·exact wkc At.AE (c':=(Cfg.mk (zoE f e frs tb 0 []).n (zoE f e frs tb 0 []).todo [(1,fsl frs),(2,tsl tb),(3,AV.p 0 0),(11,AV.nl),(60,AV.sl (zad e.args)),(61,iv (↑(zad e.args).length:Int)),(62,iv 0)] [Blk.box e.cells])) [sc (zbr e),sb h1,sb h2,sb h3,sb hn] [1,2,3,11,60,61,62] 1 kr (zgM (c':=zoE f e frs tb 0 []) 11 Ty.int [1,2,3,11,60,61,62] 2 kr kr kr (by have ih:=zuS f e frs tb hl hf e.args.length 0 ([]) Zs Zs;exact ih))
   ·cases h4:!(zbm frs e.table e.name).snd.snd
    ·exact wk At.AE [sc (zbr e),sb h1,sb h2,sb h3,sc (zeb frs e.table e.name zdq zdq zdq),sb h4,se (zya frs e.table e.name zdq),se (zvg frs e.table e.name zdq)] kr
    ·exact wk At.AE [sc (zbr e),sb h1,sb h2,sb h3,sc (zeb frs e.table e.name zdq zdq zdq),sb h4] kr
  ·exact wk At.AE [sc (zbr e),sb h1,sb h2] kr
 ·exact wk At.AE [sc (zbr e),sb h1] kr
def zsf (tq:Int × Int) (e:X) (frs:List Fr) (tb:List Tb):Int × Int :=
 bif !znN e then
  (0,17)
 else
  bif e.kind==1 then
   (e.val.kind,0)
  else
   bif e.kind==2 then
    bif !(zbm frs e.table e.name).snd.snd then
     (0,3)
    else
     ((rCol frs e.table e.name).type,0)
   else
    (tq.fst,tq.snd)
theorem zpc (tq:Int × Int) (e:X) (frs:List Fr) (tb:List Tb) (n:Nat) (hfo:FsOk n frs) (hn:decide ((0:Int) < (((zam e.sub).length:Nat):Int))=true) (hq:Pure S.BN [e.av,fsl frs,tsl tb] (.tup [iv tq.1,iv tq.2])):zab E0 S.AE [e.av,fsl frs,tsl tb] [] (.tup [iv (zsf tq e frs tb).1,iv (zsf tq e frs tb).2]) []:=by
 unfold zsf
 cases h1:!znN e
 ·cases h2:e.kind==1
  ·cases h3:e.kind==2
   ·exact wk At.AE [sc (zbr e),sb h1,sb h2,sb h3,sb hn,sc hq] kr
   ·cases h4:!(zbm frs e.table e.name).snd.snd
    ·exact wk At.AE [sc (zbr e),sb h1,sb h2,sb h3,sc (zeb frs e.table e.name zdq zdq zdq),sb h4,se (zya frs e.table e.name zdq),se (zvg frs e.table e.name zdq)] kr
    ·exact wk At.AE [sc (zbr e),sb h1,sb h2,sb h3,sc (zeb frs e.table e.name zdq zdq zdq),sb h4] kr
  ·exact wk At.AE [sc (zbr e),sb h1,sb h2] kr
 ·exact wk At.AE [sc (zbr e),sb h1] kr
theorem zaE {α:Type} {l:List α} (h:Few l):zac l:=by simp only [Few] at h;simp only [zac];omega
def zyG (f:X->Int × Int):List X->Int
 | []=>zyF
 | x::_=>ztC f x
abbrev rIns (frs:List Fr) (tb:List Tb) (q:Qy):List Fr:=zbg frs (zaw tb q.frm).1 []
def zhL:Nat->X->List Fr->List Tb->Int × Int
 | 0,_,_,_=>(0,0)
 | n+1,e,frs,tb=>match e.sub with
  | []=>zse (fun x=>zhL n x frs tb) e frs tb
  | q::_=>zsf (rtqF (fun x=>zhL n x (rIns frs tb q) tb) (zyG (fun x=>zhL n x (rIns frs tb q) tb) q.wh) e q frs tb) e frs tb
theorem zfF (tb:List Tb) (n:Str):∀ (l:List Tb) (i:Nat),(∀ x∈l,zac x.sch.cols)->zac (zfI tb n l i).1.cols
 | [],i,_=>by simp [zfI]
 | x::r,i,h=>by
  simp only [zfI,Bool.cond_eq_ite]
  split
  ·exact h x Zs
  ·exact zfF tb n r _ (fun y hy=>h y (by simp [hy]))
theorem FsOk.ins {n:Nat} {frs:List Fr} (h:FsOk (n+1) frs) {tb:List Tb} (ht:TbOk tb) (q:Qy):FsOk n (rIns frs tb q):=by
 refine ⟨by have:=h.len;simp [zbg];omega,fun f hf=>?_,fun f hf=>?_⟩
 ·simp only [zbg,yK,yF] at hf
  rcases hf with hf|rfl
  ·exact h.cols f hf
  ·exact zfF tb q.frm tb 0 ht.cols
 ·simp only [zbg,yK,yF] at hf
  rcases hf with hf|rfl
  ·exact h.vals f hf
  ·intro v hv;cases hv
theorem zjH {f:X->Int × Int} {wh:List X} {frs:List Fr} {tb:List Tb} (hf:∀ x∈wh,Pure S.AE [x.av,fsl frs,tsl tb] (.tup [iv (f x).1,iv (f x).2])):Pure S.AP [xsl wh,fsl frs,tsl tb] (iv (zyG f wh)):=by
 cases wh with
 | nil=>exact zlv frs tb
 | cons x r=>exact zlw f x r frs tb (by first|(simp;done)|(simp;omega)) (hf x Zs)
theorem zie:∀ (n:Nat) (e:X) (frs:List Fr) (tb:List Tb),XOk n e->FsOk n frs->TbOk tb->Pure S.AE [e.av,fsl frs,tsl tb] (.tup [iv (zhL n e frs tb).1,iv (zhL n e frs tb).2])
 | 0,e,frs,tb,h,_,_=>h.elim
 | n+1,e,frs,tb,h,hf,ht=>by
  obtain ⟨_,ha,hx,hs⟩:=h
  unfold zhL
  cases hsub:e.sub with
  | nil =>
   simp only
   exact zpb (fun x=>zhL n x frs tb) e frs tb (n+1) hf (Thin.short ha.1) (by simp [hsub]) (fun x hx'=>zie n x frs tb (hx x hx') hf.less ht)
  | cons q r =>
   simp only
   obtain ⟨h1,h2,h3⟩:=hs q (by simp [hsub])
   refine zpc _ e frs tb (n+1) hf (by first|(simp [hsub];done)|(simp [hsub];omega)) ?_
   exact zmg _ _ e q frs tb (n+1) (by simp [hsub]) hf ht (Thin.short h1.1) (fun x hx'=>zie n x _ tb (h2 x hx') (hf.ins ht q) ht) (zjH fun x hx'=>zie n x _ tb (h3 x hx') (hf.ins ht q) ht)
theorem zyX {T:TypeId->TI} {h:Heap} {β:List Con} {w:World} {S:Addr->Prop} {x:Value} {l:List AV} {vs:List Value} (hp:PW (RelV T h β w S) (.v x::l) vs):∃ r,vs=x::r/\PW (RelV T h β w S) l r:=by
 cases vs with
 | nil=>have:=hp.1;simp at this
 | cons y r =>
  have h1:=hp.2 0 _ _ rfl rfl
  exact ⟨r,by rw [h1.v_inv],hp.uncons.2⟩
def zwn (a b c:Int):Int × Int:=((a+b+c) % 18446744073709551616,(a+b+c) / 18446744073709551616)
def sumL (l:List Int):List (Int)->Nat->(Int)->(Int)->Int × Bool
 | [],i,high,low =>
  bif high != IntKind.u64.wrap ((IntKind.i64.wrap low).fdiv (2 ^ min (Int.toNat 63) IntKind.i64.bits)) then
   (0,false)
  else
   (IntKind.i64.wrap low,true)
 | x::r,i,high,low =>
  sumL l r (i+1) ((zwn high (IntKind.u64.wrap (x.fdiv (2 ^ min (Int.toNat 63) IntKind.i64.bits))) (zwn low (IntKind.u64.wrap x) 0).snd).fst) ((zwn low (IntKind.u64.wrap x) 0).fst)
def aSum (l:List Int):Int × Bool :=
 sumL l l 0 0 (0)
def esumL (its:List V):List (V)->Nat->(List Int)->V × Int
 | [],i,l =>
  bif !(aSum l).snd then
   (V.mk 0 0 Zs0,6)
  else
   (V.mk 1 (aSum l).fst Zs0,0)
 | x::r,i,l =>
  esumL its r (i+1) (l++[x.int])
def eSum (its:List V):V × Int :=
 esumL its its 0 ([])
def minL (l:List V):List (V)->Nat->(V)->V
 | [],i,m =>
  m
 | x::r,i,m =>
  bif decide (cmpV x m < 0) then
   minL l r (i+1) (x)
  else
   minL l r (i+1) (m)
def minV (l:List V):V :=
 minL l (l.drop 1) 1 (l.headD V.null)
def maxL (l:List V):List (V)->Nat->(V)->V
 | [],i,m =>
  m
 | x::r,i,m =>
  bif decide (0 < cmpV x m) then
   maxL l r (i+1) (x)
  else
   maxL l r (i+1) (m)
def maxV (l:List V):V :=
 maxL l (l.drop 1) 1 (l.headD V.null)
def eTrue1 (f:X->V × Int) (x:X):Bool × Int :=
 bif (f x).snd==0 then
  bif !zkz (f x).fst then
   (false,5)
  else
   (isTrue (f x).fst,(f x).snd)
 else
  (false,(f x).snd)
def eTrue0 :Bool × Int :=
 (true,0)
noncomputable def clC (frs:List Fr):Cfg:=(upto (mk E0) (List.range 40) 0 3000 ⟨B.BC.ntmps,[.code (B.BC.body.getD .skip)],zbV 0 [fsl frs],[]⟩ []).2
theorem zAq (frs:List Fr) (hl:zac frs):Good E0 B.BC [] (zc2 (clC frs) false) (fun r h=>r=.own 0 frs.length/\h=[.row Ty.Frame (frs.map Fr.cells) false]):=by
 exact zdW E0ok mix0 3000 (y:=AV.own (0:Nat) (List.map Fr.cells frs).length) (H:=[Blk.row Ty.Frame (List.map Fr.cells frs) false]) [sb Zf,sq (show AllLen (List.map Fr.cells frs) (4:Nat)/\((List.map Fr.cells frs).length * (72:Nat)).le (140737488355328:Nat) by first|assumption|(simp;done)|(simp;omega)|omega|rfl|(refine ⟨⟨by simp⟩,?_⟩;first|(simp;done)|(simp;omega)|omega)|(refine ⟨⟨by simp⟩,?_,?_⟩ <;> first|(simp;done)|(simp;omega)|omega))] kr (⟨by first|rfl|(simp;done),rfl⟩)
theorem zAr:Good E0 B.BC [] (zc2 (clC []) true) (fun r h=>r=.nl/\h=[]):=by
 exact zdW E0ok mix0 3000 (y:=AV.nl) (H:=[]) [sb Zt] kr (⟨rfl,rfl⟩)
theorem zly (frs:List Fr) (hl:zac frs):zab E0 S.BC [fsl frs] [] (.own 0 frs.length) [.row Ty.Frame (frs.map Fr.cells) false]:=by
 refine za6 At.BC rfl kr (yI kr) (zdz E0ok mix0 3000 [] (List.range 40) 0 (c':=clC frs) kr kr (zii E0ok (xs:=frs.map Fr.cells) (e:=true) kr fun b hb=>?_))
 cases b with
 | false=>exact zAq frs hl
 | true =>
  cases frs with
  | nil=>exact zeH Ty.Frame zAr ⟨rfl,rfl⟩
  | cons x r=>exact absurd (hb Zs) Zs
def zc1 (frs:List Fr) (t:Tb) (v:List V):(List Fr) :=
 frs++[Fr.mk t.sch.name false t.sch.cols v]
def eAgg (sel:Int × Nat × List V) (e:X):V × Int :=
 bif sel.1 != 0 then (V.null,sel.1)
 else bif e.kind==8 then (⟨2,if decide (0 < ((sel.2.1:Nat):Int)) then 1 else 0,⟨#[]⟩⟩,0)
 else bif e.kind==9 then (⟨1,(sel.2.1:Nat),⟨#[]⟩⟩,0)
 else bif ((sel.2.2.length:Nat):Int)==0 then (V.null,0)
 else bif e.kind==10 then eSum sel.2.2
 else bif e.kind==11 then (minV sel.2.2,0)
 else (maxV sel.2.2,0)
theorem ztF (frs:List Fr) (q n:Str) (k:Nat) (f:Fr) (els:Int × Int × Bool):∀ (c:List Col) (j:Nat),zda frs q n k f els c j=bif decide (0<=idxF (fun c=>colC c n) c j) then (pm1 (k+1),idxF (fun c=>colC c n) c j,true) else els
 | [],j=>by simp [zda,idxF]
 | x::r,j=>by
  rcases yD (x.name.toList==n.toList) with h|h
  ·simp [zda,idxF,colC,h]
  ·have ih:=ztF frs q n k f els r (j+1)
   simp only [colC] at ih
   simp only [zda,idxF,colC,h,cond_false]
   exact ih
def evL (f:X->V × Int) (op:List V->V × Int) (e:X) (frs:List Fr) (tb:List Tb):List (X)->Nat->(List V)->V × Int
 | [],i,out =>
  ((op out).fst,(op out).snd)
 | x::r,i,out =>
  bif (f x).snd != 0 then
   (V.mk 0 0 Zs0,(f x).snd)
  else
   evL f op e frs tb r (i+1) (out++[(f x).fst])
structure OpKind (e:X):Prop where
 fok:zs4 e=true
 k1:e.kind≠1
 k2:e.kind≠2
 k8:¬(8<=e.kind/\e.kind<=12)
def valF (f:X->V × Int) (op:List V->V × Int) (agg:V × Int) (e:X) (frs:List Fr) (tb:List Tb):V × Int :=
 bif !zs4 e then
  (V.mk 0 0 Zs0,17)
 else
  bif e.kind==1 then
   (e.val,0)
  else
   bif e.kind==2 then
    bif !(zeo frs e.table e.name).snd.snd then
     (V.mk 0 0 Zs0,3)
    else
     bif decide ((↑(List.map V.cells (rFr frs e.table e.name).vals).length:Int)<=(zeo frs e.table e.name).snd.fst) then
      (V.mk 0 0 Zs0,17)
     else
      (zak (rFr frs e.table e.name).vals (zeo frs e.table e.name).snd.fst,0)
   else
    bif e.kind==8 then
     (agg.fst,agg.snd)
    else
     bif e.kind==9 then
      (agg.fst,agg.snd)
     else
      bif e.kind==10 then
       (agg.fst,agg.snd)
      else
       bif e.kind==11 then
        (agg.fst,agg.snd)
       else
        bif e.kind==12 then
         (agg.fst,agg.snd)
        else
         evL f op e frs tb e.args 0 ([])
theorem zrH {k o:Int} {xs:List X} (h:zqn k o xs=true):((k=1\/k=2)/\xs.length=0)\/((k=3\/k=4\/k=6)/\xs.length=1)\/(k=5/\xs.length=2/\1<=o/\o<=13)\/(k=7/\xs.length=3):=by
 simp only [zqn,Bool.cond_eq_ite,zeU] at h
 simp at h
 repeat' split at h
 all_goals simp_all
 all_goals omega
theorem zrI {k o:Int} {xs:List X} {qs:List Qy} {it wh:List X} (hq:qs≠[]) (h:zqo k o xs qs it wh=true):xs.length=0/\qs.length=1/\wh.length<=1/\(((k=8\/k=9)/\it.length=0)\/((k=10\/k=11\/k=12)/\it.length=1)):=by
 simp only [zqo,Bool.cond_eq_ite,zeU,zlZ] at h
 simp [hq] at h
 obtain ⟨h1,h2,h3,h4,h5,h6,h7,h⟩:=h
 repeat' split at h
 all_goals simp_all
 all_goals omega
def eOp (e:X) (l:List V):V × Int:=match l with
 | [a]=>if e.kind=6 then zzF e.op e.not a else if e.kind=3 then opNot e.op e.not a else opNeg e.op e.not a
 | [a,b]=>opBin e.op e.not a b
 | [a,b,c]=>opBet e.op e.not a b c
 | _=>(V.null,0)
theorem OpKind.cases {e:X} (h:OpKind e):e.sub=[]/\(((e.kind=3\/e.kind=4\/e.kind=6)/\e.args.length=1)\/(e.kind=5/\e.args.length=2/\1<=e.op/\e.op<=13)\/(e.kind=7/\e.args.length=3)):=by
 have hf:=h.fok
 have k1:=h.k1
 have k2:=h.k2
 have k8:=h.k8
 unfold zs4 at hf
 cases hs:e.sub with
 | nil =>
  rw [hs] at hf
  have:=zrH hf
  refine ⟨rfl,?_⟩
  omega
 | cons q r =>
  rw [hs] at hf
  have:=(zrI Zs hf).2.2.2
  omega
def rowI (f:X->V × Int) (k:Int):List X->List V->Int × List V
 | [],its=>(0,its)
 | x::r,its=>bif (f x).2 != 0 then ((f x).2,its) else bif (f x).1.kind==0 then rowI f k r its else bif k==10&&(f x).1.kind != 1 then (5,its) else rowI f k r (its++[(f x).1])
def selR (tr:Rw->Bool × Int) (g:Rw->List V->Int × List V):List Rw->Nat->List V->Int × Nat × List V
 | [],n,its=>(0,n,its)
 | r::l,n,its=>bif (tr r).2 != 0 then ((tr r).2,n,its) else bif (tr r).1 then (bif (g r its).1 != 0 then ((g r its).1,n+1,(g r its).2) else selR tr g l (n+1) (g r its).2) else selR tr g l n its
def zsR (f:X->V × Int):List X->Bool × Int
 | []=>eTrue0
 | x::_=>eTrue1 f x
def evalA (F:List Fr->X->V × Int) (e:X) (frs:List Fr) (tb:List Tb):V × Int:=match e.sub with
 | []=>(V.null,0)
 | q::_=>match zhE tb q.frm with
  | none=>eAgg (3,0,[]) e
  | some t=>eAgg (selR (fun r=>zsR (F (zc1 frs t r.vals)) q.wh) (fun r its=>rowI (F (zc1 frs t r.vals)) e.kind q.items its) t.rows 0 []) e
def eval:Nat->X->List Fr->List Tb->V × Int
 | 0,_,_,_=>(V.null,0)
 | n+1,e,frs,tb=>valF (fun x=>eval n x frs tb) (eOp e) (evalA (fun w x=>eval n x w tb) e frs tb) e frs tb
/- ### values are valid -/
abbrev FsG (frs:List Fr):Prop:=∀ f∈frs,∀ v∈f.vals,v.Good
structure TbG (tb:List Tb):Prop where
 vals:∀ x∈tb,∀ r∈x.rows,∀ v∈r.vals,v.Good
 rows:∀ x∈tb,x.rows.length<=1000
theorem FsG.ins {frs:List Fr} (h:FsG frs) {t:Tb} {v:List V} (hv:∀ x∈v,x.Good):FsG (zc1 frs t v):=fun f hf=>by
 simp only [zc1,yK,yF] at hf
 rcases hf with hf|rfl
 ·exact h f hf
 ·exact hv
theorem FsOk.eins {n:Nat} {frs:List Fr} (h:FsOk (n+1) frs) {t:Tb} (hc:zac t.sch.cols) {v:List V} (hv:∀ x∈v,x.Good):FsOk n (zc1 frs t v):=by
 refine ⟨by have:=h.len;simp [zc1];omega,fun f hf=>?_,fun f hf=>?_⟩
 ·simp only [zc1,yK,yF] at hf
  rcases hf with hf|rfl
  ·exact h.cols f hf
  ·exact hc
 ·simp only [zc1,yK,yF] at hf
  rcases hf with hf|rfl
  ·exact h.vals f hf
  ·exact fun x hx=>(hv x hx).small
noncomputable def clCV (l:List V):Cfg:=(upto (mk E0) (List.range 40) 0 3000 ⟨B.By.ntmps,[.code (B.By.body.getD .skip)],zbV 0 [vsl l],[]⟩ []).2
theorem zzg (l:List V) (hl:zac l):Good E0 B.By [] (zc2 (clCV l) false) (fun r h=>r=.own 0 l.length/\h=[.row Ty.Value (l.map V.cells) false]):=by
 exact zdW E0ok mix0 3000 (y:=AV.own 0 (List.map V.cells l).length) (H:=[Blk.row Ty.Value (List.map V.cells l) false]) [sb Zf,sqx (AllLen (List.map V.cells l) 3/\((List.map V.cells l).length * 32).le 140737488355328)] kr (⟨by simp,rfl⟩)
theorem zzh:Good E0 B.By [] (zc2 (clCV []) true) (fun r h=>r=.nl/\h=[]):=by
 exact zdW E0ok mix0 3000 (y:=AV.nl) (H:=[]) [sb Zt] kr (⟨rfl,rfl⟩)
theorem zaC (l:List V) (hl:zac l):zab E0 S.By [vsl l] [] (.own 0 l.length) [.row Ty.Value (l.map V.cells) false]:=by
 refine za6 At.By rfl kr (yI kr) (zdz E0ok mix0 3000 [] (List.range 40) 0 (c':=clCV l) kr kr (zii E0ok (xs:=l.map V.cells) (e:=true) kr fun b hb=>?_))
 cases b with
 | false=>exact zzg l hl
 | true =>
  cases l with
  | nil=>exact zeH Ty.Value zzh ⟨rfl,rfl⟩
  | cons x r=>exact absurd (hb Zs) Zs
abbrev vrow (v:List V):List AV:=[vsl v]
def eRows (sel:Int × List (List V)):List (List V) × Int:=bif sel.1 != 0 then ([],sel.1) else (sel.2,0)
def zeI (f:X->V × Int):List X->Int × List V
 | []=>(0,[])
 | x::r=>bif (f x).2 != 0 then ((f x).2,[]) else bif (zeI f r).1 != 0 then ((zeI f r).1,[]) else (0,(f x).1::(zeI f r).2)
def rowV (f:X->V × Int) (q:Qy) (r:Rw):Int × List V:=bif q.star then (0,r.vals) else zeI f q.items
def zex (tr:Rw->Bool × Int) (rv:Rw->Int × List V):List Rw->List (List V)->Int × List (List V)
 | [],out=>(0,out)
 | r::l,out=>bif (tr r).2 != 0 then ((tr r).2,out) else bif (tr r).1 then (bif (rv r).1 != 0 then ((rv r).1,out) else zex tr rv l (out++[(rv r).2])) else zex tr rv l out
def zzn (n:Nat) (q:Qy) (frs:List Fr) (tb:List Tb):List (List V) × Int:=match zhE tb q.frm with
 | none=>([],3)
 | some t=>eRows (zex (fun r=>zsR (fun x=>eval n x (zc1 frs t r.vals) tb) q.wh) (fun r=>rowV (fun x=>eval n x (zc1 frs t r.vals) tb) q r) t.rows [])
structure QOk (n:Nat) (q:Qy):Prop where
 few:Few q.items
 items:∀ x∈q.items,XOk n x
 wh:∀ x∈q.wh,XOk n x
def cmpB (a b:Str):Int:=Lib.compareBytes a.data.toList b.data.toList
theorem zdn (a b:Str):zab E0 S.B0 [sv a,sv b] [] (iv (cmpB a b)) []:=by
 intro β S w vs r hp
 obtain ⟨v1,rfl,hp1⟩:=zyX hp
 obtain ⟨v2,rfl,hp2⟩:=zyX hp1
 have h0:v2=[]:=yAQ (by have:=hp2.1;simpa using this.symm)
 subst h0
 refine .inr ⟨.int .i64 (cmpB a b),w,?_,?_⟩
 ·have h1:=run_callFunc_extern (e:=Extern.BytealgCompare.compare) At.B0 kr kr kr kr #[.string a,.string b] w
  rw [Lib.run_compareString] at h1
  exact h1
 ·exact ⟨_,_,β,S,_,rfl,⟨rfl,rfl⟩,r,Ext.refl _ _ _ _,zbG _ _⟩
def zwC (a b:Str):Int :=
 cmpB a b
theorem ze3 (a b:Str) :zab E0 S.CH [sv a,sv b] [] (iv (zwC a b)) []:=by
 exact wk At.CH [sc (zdn a b)] kr
def zwD (a b:Str):Int :=
 zwC a b
theorem znU (a b:Str) :zab E0 S.Ds [sv a,sv b] [] (iv (zwD a b)) []:=by
 exact wk At.Ds [sc (ze3 a b)] kr
def rCmp (a b:V):Int :=
 bif a.kind != b.kind then
  bif decide (a.kind < b.kind) then
   -1
  else
   1
 else
  bif a.int != b.int then
   bif decide (a.int < b.int) then
    -1
   else
    1
  else
   zwD a.text b.text
theorem zqx (a b:V) :zab E0 S.CO [a.av,b.av] [] (iv (rCmp a b)) []:=by
 unfold rCmp
 cases h1:a.kind != b.kind
 ·cases h2:a.int != b.int
  ·exact wk At.CO [sb h1,sb h2,sc (znU a.text b.text)] kr
  ·cases h3:decide (a.int < b.int)
   ·exact wk At.CO [sb h1,sb h2,sb h3] kr
   ·exact wk At.CO [sb h1,sb h2,sb h3] kr
 ·cases h4:decide (a.kind < b.kind)
  ·exact wk At.CO [sb h1,sb h4] kr
  ·exact wk At.CO [sb h1,sb h4] kr
noncomputable def zyZ (a b:List V) (i:Nat) :Cfg:=zai B.Cb 0 [(0,vsl a),(1,vsl b),(5,iv (i:Nat))] []
def zg6 (a b:List V):List (V)->Nat->Int
 | [],i =>
  bif decide ((↑(List.map V.cells a).length:Int) < (↑(List.map V.cells b).length:Int)) then
   -1
  else
   bif decide ((↑(List.map V.cells b).length:Int) < (↑(List.map V.cells a).length:Int)) then
    1
   else
    0
 | x::r,i =>
  bif decide ((i:Int) < (↑(List.map V.cells b).length:Int)) then
   bif rCmp x (zak b (i:Int)) != 0 then
    rCmp x (zak b (i:Int))
   else
    zg6 a b r (i+1)
  else
   bif decide ((↑(List.map V.cells a).length:Int) < (↑(List.map V.cells b).length:Int)) then
    -1
   else
    bif decide ((↑(List.map V.cells b).length:Int) < (↑(List.map V.cells a).length:Int)) then
     1
    else
     0
theorem zrO (a b:List V) (ha:zac a) (hb:zac b):∀ (kk i:Nat),i+kk=(a).length->Good E0 B.Cb [] (zyZ a b i ) (Shut 0 fun r h=>r=(iv (zg6 a b ((a).drop i) i ))/\h=[]):=by
 intro kk
 induction kk with
 | zero =>
  intro i  hi
  have h0:decide (((i:Nat):Int) < (((a.map V.cells).length:Nat):Int))=false:=by simp;omega
  have e0:(a).drop i=[]:=yAJ Zo
  rw [e0]
  simp only [zg6]
  refine zaa ?_
  cases h1:decide ((↑(List.map V.cells a).length:Int) < (↑(List.map V.cells b).length:Int))
  ·cases h2:decide ((↑(List.map V.cells b).length:Int) < (↑(List.map V.cells a).length:Int))
   ·exact wkr [sb h0,sb h1,sb h2] kr
   ·exact wkr [sb h0,sb h1,sb h2] kr
  ·exact wkr [sb h0,sb h1] kr
 | succ kk ih =>
  intro i  hi
  obtain ⟨x,hx⟩:=zbc (l:=a) (i:=i) Zo
  have h0:decide (((i:Nat):Int) < (((a.map V.cells).length:Nat):Int))=true:=by simp;omega
  have hw:=zba i (by first|omega|(simp only [zac,Few] at *;omega))
  rw [zaB hx]
  simp only [zg6]
  refine zaa ?_
  cases h1:decide ((i:Int) < (↑(List.map V.cells b).length:Int))
  ·cases h2:decide ((↑(List.map V.cells a).length:Int) < (↑(List.map V.cells b).length:Int))
   ·cases h3:decide ((↑(List.map V.cells b).length:Int) < (↑(List.map V.cells a).length:Int))
    ·exact wkr [sg h0,sb h1,sb h2,sb h3] kr
    ·exact wkr [sg h0,sb h1,sb h2,sb h3] kr
   ·exact wkr [sg h0,sb h1,sb h2] kr
  ·let p_1:List St:=[sg h0,sb h1,sd [(2,[se (zaf V.cells hx rfl)]),(6,[se (zcT b ((i:Int)) (by first|assumption|(simp;done)|(simp at *;omega)) (by first|assumption|(simp;done)|(simp at *;omega)))]),(8,[sc (zqx x (zak b (i:Int)))])]]
   cases h4:rCmp x (zak b (i:Int)) != 0
   ·exact wkl (p_1++[sb h4,si hw]) [0,1,5] 0 kr (ih (i+1) Zo )
   ·exact wkr (p_1++[sb h4]) kr
def zcM (a b:List V):Int :=
 zg6 a b a (0)
theorem zmN (a b:List V) (ha:zac a) (hb:zac b):zab E0 S.Cb [vsl a,vsl b] [] (iv (zcM a b)) []:=by
 unfold zcM
 exact wkc At.Cb [] [0,1,5] 0 kr (zrO a b ha hb a.length 0 Zs)
theorem sH1_3 {p:Prop} (h:p:=by first|assumption|omega|(simp;done)|(simp;omega)):p:=h
noncomputable def zhO (fn:Func) (args:List AV) (h:Heap) (m:Nat):Cfg:=(upto (mk E0) (List.range 40) m 3000 ⟨fn.ntmps,[.code (fn.body.getD .skip)],zbV 0 args,h⟩ []).2
structure Lk where
 fst:Str
 snd:Str
def Lk.cells (l:Lk):List AV:=[sv l.fst,sv l.snd]
abbrev ZL (l:List Lk):AV:=.sl (l.map Lk.cells)
abbrev Lk.av (l:Lk):AV:=.agg l.cells
@[simp] theorem Lk.cells_length (x:Lk):x.cells.length=2:=rfl
structure Im where
 trig:Str
 row:Int
 old:List V
 new:List V
def Im.cells (x:Im):List AV:=[sv x.trig,iv x.row,vsl x.old,vsl x.new]
abbrev Im.av (x:Im):AV:=.agg x.cells
@[simp] theorem Im.cells_length (x:Im):x.cells.length=4:=rfl
theorem ze6:StructEq E0.P Ty.Link [.str,.str] :=
 zt1 E0ok (fs:=E0.P.fieldsOf Ty.Link) kr kr kr kr
abbrev zbh (n:Int):List AV:=[iv n]
theorem zuB (l:List Tg) (hl:zac l):Good E0 B.A9 [] (zc2 (zhO B.A9 [.sl (l.map Tg.cells)] [] 0) false) (fun r h=>r=.own 0 l.length/\h=[.row Ty.Trigger (l.map Tg.cells) false]) :=
 zdW E0ok mix0 3000 (y:=AV.own 0 (List.map Tg.cells l).length) (H:=[Blk.row Ty.Trigger (List.map Tg.cells l) false]) [sb Zf,sqx (AllLen (List.map Tg.cells l) 11/\((List.map Tg.cells l).length * 200).le 140737488355328)] kr (⟨by simp,rfl⟩)
theorem zuC:Good E0 B.A9 [] (zc2 (zhO B.A9 [.sl []] [] 0) true) (fun r h=>r=.nl/\h=[]) :=
 zdW E0ok mix0 3000 (y:=AV.nl) (H:=[]) [sb Zt] kr (⟨rfl,rfl⟩)
theorem zjN (l:List Tg) (hl:zac l):zab E0 S.A9 [.sl (l.map Tg.cells)] [] (.own 0 l.length) [.row Ty.Trigger (l.map Tg.cells) false]:=by
 refine za6 At.A9 rfl kr (yI kr) (zdz E0ok mix0 3000 [] (List.range 40) 0 (c':=zhO B.A9 [.sl (l.map Tg.cells)] [] 0) kr kr (zii E0ok (xs:=l.map Tg.cells) (e:=true) kr fun b hb=>?_))
 cases b with
 | false=>exact zuB l hl
 | true =>
  cases l with
  | nil=>exact zeH Ty.Trigger zuC ⟨rfl,rfl⟩
  | cons x r=>exact absurd (hb Zs) Zs
abbrev Room (l:List Int):Prop:=l.length<=17592186044416
theorem zAo (l:List Int) (hl:Room l):Good E0 B.Bt [] (zc2 (zhO B.Bt [.sl (l.map zbh)] [] 0) false) (fun r h=>r=.own 0 l.length/\h=[.row Ty.int (l.map zbh) false]) :=
 zdW E0ok mix0 3000 (y:=AV.own 0 (List.map zbh l).length) (H:=[Blk.row Ty.int (List.map zbh l) false]) [sb Zf,sqx (AllLen (List.map zbh l) 1/\((List.map zbh l).length * 8).le 140737488355328)] kr (⟨by simp,rfl⟩)
theorem zAp:Good E0 B.Bt [] (zc2 (zhO B.Bt [.sl []] [] 0) true) (fun r h=>r=.nl/\h=[]) :=
 zdW E0ok mix0 3000 (y:=AV.nl) (H:=[]) [sb Zt] kr (⟨rfl,rfl⟩)
theorem za9 (l:List Int) (hl:Room l):zab E0 S.Bt [.sl (l.map zbh)] [] (.own 0 l.length) [.row Ty.int (l.map zbh) false]:=by
 refine za6 At.Bt rfl kr (yI kr) (zdz E0ok mix0 3000 [] (List.range 40) 0 (c':=zhO B.Bt [.sl (l.map zbh)] [] 0) kr kr (zii E0ok (xs:=l.map zbh) (e:=true) kr fun b hb=>?_))
 cases b with
 | false=>exact zAo l hl
 | true =>
  cases l with
  | nil=>exact zeH Ty.int zAp ⟨rfl,rfl⟩
  | cons x r=>exact absurd (hb Zs) Zs
theorem zwA (l:List Col) (hl:zac l):Good E0 B.Bc [] (zc2 (zhO B.Bc [.sl (l.map Col.cells)] [] 0) false) (fun r h=>r=.own 0 l.length/\h=[.row Ty.Column (l.map Col.cells) false]) :=
 zdW E0ok mix0 3000 (y:=AV.own 0 (List.map Col.cells l).length) (H:=[Blk.row Ty.Column (List.map Col.cells l) false]) [sb Zf,sqx (AllLen (List.map Col.cells l) 4/\((List.map Col.cells l).length * 32).le 140737488355328)] kr (⟨by simp,rfl⟩)
theorem zwB:Good E0 B.Bc [] (zc2 (zhO B.Bc [.sl []] [] 0) true) (fun r h=>r=.nl/\h=[]) :=
 zdW E0ok mix0 3000 (y:=AV.nl) (H:=[]) [sb Zt] kr (⟨rfl,rfl⟩)
theorem za1 (l:List Col) (hl:zac l):zab E0 S.Bc [.sl (l.map Col.cells)] [] (.own 0 l.length) [.row Ty.Column (l.map Col.cells) false]:=by
 refine za6 At.Bc rfl kr (yI kr) (zdz E0ok mix0 3000 [] (List.range 40) 0 (c':=zhO B.Bc [.sl (l.map Col.cells)] [] 0) kr kr (zii E0ok (xs:=l.map Col.cells) (e:=true) kr fun b hb=>?_))
 cases b with
 | false=>exact zwA l hl
 | true =>
  cases l with
  | nil=>exact zeH Ty.Column zwB ⟨rfl,rfl⟩
  | cons x r=>exact absurd (hb Zs) Zs
noncomputable def L_lkIx (l:List Lk) (v:Lk) (i:Nat) :Cfg:=zai B.Cm 0 [(0,.sl (l.map Lk.cells)),(3,.p 0 0),(7,iv ((l.map Lk.cells).length:Nat)),(8,iv (i:Nat))] [.box v.cells]
def lkIx (l:List Lk) (v:Lk):List (Lk)->Nat->Int
 | [],i =>
  -1
 | x::r,i =>
  bif v.fst==x.fst&&(v.snd==x.snd&&true) then
   (i:Int)
  else
   lkIx l v r (i+1)
theorem zuL (l:List Lk) (v:Lk) (hl:zac l):∀ (kk i:Nat),i+kk=(l).length->Good E0 B.Cm [] (L_lkIx l v i ) (Shut 0 fun r h=>r=(iv (lkIx l v ((l).drop i) i ))/\h=[]):=by
 intro kk
 induction kk with
 | zero =>
  intro i  hi
  have h0:decide (((i:Nat):Int) < (((l.map Lk.cells).length:Nat):Int))=false:=by simp;omega
  have e0:(l).drop i=[]:=yAJ Zo
  rw [e0]
  simp only [lkIx]
  refine zaa ?_
  exact wkr [sb h0] kr
 | succ kk ih =>
  intro i  hi
  obtain ⟨x,hx⟩:=zbc (l:=l) (i:=i) Zo
  have h0:decide (((i:Nat):Int) < (((l.map Lk.cells).length:Nat):Int))=true:=by simp;omega
  have hw:=zba i (by first|omega|(simp only [zac,Few] at *;omega))
  rw [zaB hx]
  simp only [lkIx]
  refine zaa ?_
  let p_1:List St:=[sb h0,sd [(3,[se (zaf Lk.cells hx rfl)]),(5,[sq ze6])]]
  cases h1:v.fst==x.fst&&(v.snd==x.snd&&true)
  ·exact wkl (p_1++[sb h1,si hw]) [0,3,7,8] 1 kr (ih (i+1) Zo )
  ·exact wkr (p_1++[sb h1]) kr
def zqB (l:List Lk) (v:Lk):Int :=
 lkIx l v l (0)
theorem zml (l:List Lk) (v:Lk) (hl:zac l):zab E0 S.Cm [.sl (l.map Lk.cells),v.av] [] (iv (zqB l v)) []:=by
 unfold zqB
 exact wkc At.Cm [] [0,3,7,8] 1 kr (zuL l v hl l.length 0 Zs)
def lkHas (l:List Lk) (v:Lk):Bool :=
 decide ((0:Int)<=zqB l v)
theorem zjO (l:List Lk) (v:Lk) (hl:zac l):zab E0 S.Df [.sl (l.map Lk.cells),v.av] [] (bv (lkHas l v)) []:=by
 exact wk At.Df [sc (zml l v sH1_3)] kr
def oPrec (l:List Lk) (a b:Str):Bool :=
 lkHas l (Lk.mk a b)
theorem zir (l:List Lk) (a b:Str) (hl:zac l):zab E0 S.Dw [.sl (l.map Lk.cells),sv a,sv b] [] (bv (oPrec l a b)) []:=by
 exact wk At.Dw [sc (zjO l (Lk.mk a b) sH1_3)] kr
def blk (its:List Im) (l:List Lk) (i k:Nat):Bool:=k != i&&match its[k]?,its[i]? with
 | some y,some x=>oPrec l y.trig x.trig
 | _,_=>false
def znP (t:Tg) (s:Sch) (a b:List V):(List Fr) :=
 bif !t.each then
  []
 else
  bif t.event==2 then
   bif t.event==1 then
    [Fr.mk ZsO true s.cols a,Fr.mk ZsN true s.cols b]
   else
    [Fr.mk ZsO true s.cols a,Fr.mk ZsN true s.cols b]
  else
   bif t.event==3 then
    bif t.event==1 then
     [Fr.mk ZsO true s.cols a,Fr.mk ZsN true s.cols b]
    else
     [Fr.mk ZsO true s.cols a]
   else
    bif t.event==1 then
     [Fr.mk ZsN true s.cols b]
    else
     []
def znf:Se:=⟨⟨#[]⟩,.mk 0 0 false ⟨0,0,⟨#[]⟩⟩ ⟨#[]⟩ ⟨#[]⟩ [] []⟩
def Ac.set0 (a:Ac):Se:=a.sets.headD znf
theorem zvp {α:Type} (p:α->Bool):∀ (l:List α) (i:Nat),idxF p l i < ((i+l.length:Nat):Int)\/idxF p l i=-1
 | [],i=>.inr rfl
 | x::r,i=>by
  simp only [idxF]
  cases p x
  ·rcases zvp p r (i+1) with h|h
   ·exact .inl (by simp only [yAL];simpa [Nat.add_assoc,Nat.add_comm 1] using h)
   ·exact .inr h
  ·exact .inl (by simp only [yAL,cond_true];omega)
structure NwOk (nw:List V):Prop where
 len:nw.length<=1000
 good:∀ v∈nw,v.Good
theorem NwOk.short {nw:List V} (h:NwOk nw):zac nw:=by have:=h.len;simp only [zac];omega
structure TrOk (n:Nat) (t:Tg):Prop where
 acts:zac t.acts
 sets:∀ a∈t.acts,XOk n a.set0.ex
 when_:∀ x∈t.when_,XOk n x
abbrev zbR (s:Str):List AV:=[sv s]
@[simp] theorem cellsQ_app (a b:List Qy):zam (a++b)=zam a++zam b:=by simp [zet]
def XSh:Nat->X->Prop
 | 0,_=>False
 | n+1,e=>(zac e.args/\zac e.sub)/\(∀ x∈e.args,XSh n x)/\∀ q∈e.sub,(zac q.items/\zac q.wh)/\(∀ x∈q.items,XSh n x)/\∀ x∈q.wh,XSh n x
theorem XOk.sh:∀ {n:Nat} {e:X},XOk n e->XSh n e
 | 0,_,h=>h.elim
 | _+1,_,⟨_,h2,h3,h4⟩=>⟨⟨h2.1.short,h2.2.short⟩,fun x hx=>(h3 x hx).sh,fun q hq=>⟨⟨(h4 q hq).1.1.short,(h4 q hq).1.2.short⟩,fun x hx=>((h4 q hq).2.1 x hx).sh,fun x hx=>((h4 q hq).2.2 x hx).sh⟩⟩
structure QW (n:Nat) (q:Qy):Prop where
 items:Few q.items
 wh:Few q.wh
 hi:∀ x∈q.items,XOk n x
 hw:∀ x∈q.wh,XOk n x
structure QSh (n:Nat) (q:Qy):Prop where
 items:zac q.items
 wh:zac q.wh
 hi:∀ x∈q.items,XSh n x
 hw:∀ x∈q.wh,XSh n x
theorem QW.sh {n:Nat} {q:Qy} (h:QW n q):QSh n q:=⟨zaE h.items,zaE h.wh,fun x hx=>(h.hi x hx).sh,fun x hx=>(h.hw x hx).sh⟩
abbrev zaI (r:List X):List AV:=[.sl (zad r)]
structure AcOk (n:Nat) (a:Ac):Prop where
 rows:Few a.rows
 row:∀ r∈a.rows,Few r/\∀ x∈r,XOk n x
 query:Few a.query
 qs:∀ q∈a.query,QW n q
 sets:Few a.sets
 set:∀ s∈a.sets,XOk n s.ex
 wh:Few a.wh
 w:∀ x∈a.wh,XOk n x
structure AcSh (n:Nat) (a:Ac):Prop where
 rows:zac a.rows
 row:∀ r∈a.rows,zac r/\∀ x∈r,XSh n x
 query:zac a.query
 qs:∀ q∈a.query,QSh n q
 sets:zac a.sets
 set:∀ s∈a.sets,XSh n s.ex
 wh:zac a.wh
 w:∀ x∈a.wh,XSh n x
theorem AcOk.sh {n:Nat} {a:Ac} (h:AcOk n a):AcSh n a :=
 ⟨zaE h.rows,fun r hr=>⟨zaE (h.row r hr).1,fun x hx=>((h.row r hr).2 x hx).sh⟩,zaE h.query,fun q hq=>(h.qs q hq).sh,zaE h.sets,fun s hs=>(h.set s hs).sh,zaE h.wh,fun x hx=>(h.w x hx).sh⟩
structure TgOk (n:Nat) (t:Tg):Prop where
 of:Few t.of
 prec:Few t.prec
 foll:Few t.foll
 rank:Few t.rank
 whens:Few t.when_
 when_:∀ x∈t.when_,XOk n x
 acts:Few t.acts
 act:∀ a∈t.acts,AcOk n a
structure TgSh (n:Nat) (t:Tg):Prop where
 of:zac t.of
 prec:zac t.prec
 foll:zac t.foll
 rank:zac t.rank
 whens:zac t.when_
 when_:∀ x∈t.when_,XSh n x
 acts:zac t.acts
 act:∀ a∈t.acts,AcSh n a
theorem TgOk.sh {n:Nat} {t:Tg} (h:TgOk n t):TgSh n t :=
 ⟨zaE h.of,zaE h.prec,zaE h.foll,zaE h.rank,zaE h.whens,fun x hx=>(h.when_ x hx).sh,zaE h.acts,fun a ha=>(h.act a ha).sh⟩
def stIx (l:List Str) (v:Str):List (Str)->Nat->Int
 | [],i =>
  -1
 | x::r,i =>
  bif ByteArray.toList v==ByteArray.toList x then
   (i:Int)
  else
   stIx l v r (i+1)
def zA6 (l:List Str) (v:Str):Int :=
 stIx l v l (0)
def hasS (l:List Str) (v:Str):Bool :=
 decide ((0:Int)<=zA6 l v)
theorem zBb (l:List Int) (h:(l.take 500).length<=500):Tp.cells ⟨l.take 500,0,h⟩=[.sl (((l.map fun n=>[iv n]).take 500).drop 0),iv 0]:=by simp [Tp.cells,List.map_take]
theorem zu8 (l:List Int):∃ (t:Tp),zab E0 S.DB [isl l] [] (.p 0 0) [.box t.cells]:=by
 cases h1:decide ((500:Int) < (((l.map fun n=>[iv n]).length:Nat):Int))
 ·exact ⟨⟨l,0,by simp at h1;omega⟩,wkK At.DB [sb h1] kr⟩
 ·refine ⟨⟨l.take 500,0,by simp;omega⟩,?_⟩
  rw [zBb]
  exact wkK At.DB [sb h1,sq (show SubAt (l.map fun n=>[iv n]) 0 500 1 from ⟨by decide,by decide,by simpa using Int.le_of_lt (by simpa using h1),by simp⟩)] kr
structure FsT (frs:List Fr):Prop where
 len:frs.length<=900
 rows:∀ f∈frs,zbJ f.cols f.vals
 few:∀ f∈frs,Few f.cols
def schT:Sch:=⟨⟨#[116]⟩,[⟨⟨#[105,100]⟩,1,true,true⟩,⟨⟨#[110]⟩,1,false,false⟩,⟨⟨#[98]⟩,2,false,false⟩,⟨⟨#[115]⟩,3,false,false⟩]⟩
theorem zA3:zal ⟨#[116]⟩=schT:=by kernel_rfl
theorem zA4:SchOk schT:=zep (by simp [zan,schT])
def zaS:Sch:=⟨⟨#[108,111,103]⟩,[⟨⟨#[110]⟩,1,false,false⟩,⟨⟨#[115]⟩,3,false,false⟩]⟩
theorem zq9:zal ⟨#[108,111,103]⟩=zaS:=by kernel_rfl
theorem zmm:zab E0 S.CN [sv ⟨#[108,111,103]⟩] [] zaS.av []:=by
 have:=zbx ⟨#[108,111,103]⟩ zdc
 rw [zq9] at this;exact this
/- known -/
@[simp] theorem ba_self (s:Str):(s==s)=true:=by
 cases s with
 | mk d =>
  have h:(d==d)=true:=by simp
  exact h
noncomputable def L_eqV (l:List V) (i:Nat) :Cfg:=zai B.Ar 0 [(0,vsl l),(1,vsl l),(12,iv ((l.map V.cells).length:Nat)),(13,iv (i:Nat))] []
theorem zfU (l:List V) (hl:zac l) (i:Nat)  (hi:i<=(l).length) (hI:True):(True)/\(decide ((((l).length:Nat):Int) < (((l.map V.cells).length:Nat):Int))=false)/\∀ R,Good E0 B.Ar [] (L_eqV l (l).length ) R->Good E0 B.Ar [] (L_eqV l i ) R:=by
 have hk:=hi;revert i hI;refine zlp ((l).length) (fun i hlt ih hi hI _=>?_)
 obtain ⟨x,hx,h0,hw⟩:=zlq (l:=l) ((l.map V.cells).length) hlt
 cases h1:!(x.kind==x.kind&&(x.int==x.int&&(x.text==x.text&&true)))
 ·obtain ⟨qZ,xZ,gZ⟩:=ih Zo (by first|trivial|assumption|(simp;done)|omega|(simp;omega)|(simp at *;omega)) Zo;exact ⟨qZ,xZ,fun R hg=>zaa (wkl [sb h0,sd [(2,[se (zaf V.cells hx rfl)]),(6,[se (zaf V.cells hx rfl)]),(8,[sq zaY])],sb h1,si hw] [0,1,12,13] 0 kr (gZ R hg))⟩
 ·exact False.elim (by simp at *)
theorem zfu (l:List V) (hl:zac l):∃ (r:Bool),r=true/\zab E0 S.Ar [vsl l,vsl l] [] (bv r) []:=by
 cases h1:(↑(List.map V.cells l).length:Int) != (↑(List.map V.cells l).length:Int)
 ·obtain ⟨q2,q2_1,g2⟩:=zfU l (by first|assumption|omega|(simp;done)|(simp;omega)) 0 (by first|assumption|omega|(simp;done)|(simp;omega)) (by first|assumption|omega|(simp;done)|(simp;omega))
  exact ⟨true,by first|rfl|(exfalso;simp at *;done),wkc At.Ar [sb h1] [0,1,12,13] 0 kr (g2 _ (zaa (wkr [sb q2_1] kr)))⟩
 ·exact ⟨false,by first|rfl|(exfalso;simp at *;done),wk At.Ar [sb h1] kr⟩
theorem TgOk.tr {n:Nat} {t:Tg} (h:TgOk (n+1) t):TrOk (n+1) t:=by
 refine ⟨zaE h.acts,fun a ha=>?_,h.when_⟩
 have h1:=(h.act a ha).set
 unfold Ac.set0
 cases hs:a.sets with
 | nil=>exact ⟨zbK,⟨by simp [znf],by simp [znf]⟩,fun x hx=>by simp [znf] at hx,fun q hq=>by simp [znf] at hq⟩
 | cons x r=>rw [hs] at h1;exact h1 x Zs
theorem zay {p:Prop} (h:p:=by first|assumption|omega|(simp;done)|(simp;omega)):p:=h
theorem zcU {p:Prop} (h:p:=by first|trivial|assumption|(simp;done)|omega|(simp;omega)|(simp at *;omega)):p:=h
theorem zkF {p:Prop} (h:p:=by first|assumption|omega|exact yC ‹_›|(simp;done)|(simp;omega)|(simp only [beq_eq_false_iff_ne,ne_eq,zlZ,zeU,yG,decide_eq_false_iff_not,decide_eq_true_eq] at *;omega)):p:=h
theorem ziH {p:Prop} (h:p:=by first|omega|(simp only [zac,Few] at *;omega)):p:=h
theorem ztJ {p:Prop} (h:p:=by first|omega|(simp only [decide_eq_false_iff_not,decide_eq_true_eq] at *;omega)):p:=h
theorem zid {s:Str} {i:Int} (h:0<=i/\i < ((s.size:Nat):Int)):∃ c:UInt8,ByteAt s i ((c.toNat:Nat):Int):=by
 obtain ⟨n,rfl⟩:=Int.eq_ofNat_of_zero_le h.1
 have hlt:n < s.size:=by omega
 exact ⟨s[n],⟨by omega,by simp [hlt]⟩⟩
theorem zl9 (c:Int) :∃ (r:Bool),zab E0 S.CM [.v (.int .u8 c)] [] (bv r) []:=by
 cases h1:decide (97<=c)
 ·exact ⟨false,wk At.CM [sb h1] kr⟩
 ·exact ⟨decide (c<=(122:Int)),wk At.CM [sg h1] kr⟩
theorem zug (c:Int) :∃ (r:Bool),zab E0 S.CU [.v (.int .u8 c)] [] (bv r) []:=by
 cases h1:decide (48<=c)
 ·exact ⟨false,wk At.CU [sb h1] kr⟩
 ·exact ⟨decide (c<=(57:Int)),wk At.CU [sg h1] kr⟩
noncomputable def L_vn (s:Str) (i:Nat) :Cfg:=zai B.Au 0 [(0,sv s),(3,iv (i:Nat))] []
theorem zhY (s:Str) (hs:decide ((12:Int) < ((s.size:Nat):Int))=false) (i:Nat)  (hi:i<=(s.size)) (hI:True):((True)/\(decide ((((s.size):Nat):Int) < (((s.size):Nat):Int))=false)/\∀ R,Good E0 B.Au [] (L_vn s s.size ) R->Good E0 B.Au [] (L_vn s i ) R)\/(∃ (r:Bool),Good E0 B.Au [] (L_vn s i ) (Shut 0 fun rZ hZ=>rZ=(bv r)/\hZ=[])):=by
 have hk:=hi;revert i hI;refine zlp s.size (fun i hlt ih hi hI _=>?_)
 have h0:decide (((i:Nat):Int) < (((s.size):Nat):Int))=true:=by simp;omega
 have hw:IntKind.i64.wrap (((i:Nat):Int)+1)=((i+1:Nat):Int):=zba i (by (simp only [decide_eq_false_iff_not] at hs;omega))
 obtain ⟨c1,b1⟩:=zid (s:=s) (i:=(i:Int)) ztJ
 obtain ⟨r2,c2⟩:=(zl9 ((c1.toNat:Int)))
 cases h3:!r2
 ·exact zie1 (ih Zo zcU Zo) fun R gY=>zaa (wkl [sb h0,sy b1,sc c2,sb h3,si hw] [0,3] 0 kr gY)
 ·obtain ⟨r4,c4⟩:=(zug ((c1.toNat:Int)))
  let p_1:List St:=[sb h0,sy b1,sc c2,sg h3,sy b1,sc c4]
  cases h5:!r4
  ·exact zie1 (ih Zo zcU Zo) fun R gY=>zaa (wkl (p_1++[sb h5,si hw]) [0,3] 0 kr gY)
  ·cases h6:(c1.toNat:Int) != 95
   ·exact zie1 (ih Zo zcU Zo) fun R gY=>zaa (wkl (p_1++[sg h5,sy b1,sb h6,si hw]) [0,3] 0 kr gY)
   ·exact .inr ⟨false,zaa (wkr (p_1++[sg h5,sy b1,sb h6]) kr)⟩
theorem zar (s:Str) :∃ (r:Bool),zab E0 S.Au [sv s] [] (bv r) []:=by
 cases h1:decide ((↑(ByteArray.size s):Int) < 1)
 ·cases h2:decide (12 < (↑(ByteArray.size s):Int))
  ·obtain ⟨c3,b3⟩:=zid (s:=s) (i:=(0:Int)) ztJ
   obtain ⟨r4,c4⟩:=(zl9 ((c3.toNat:Int)))
   cases h5:!r4
   ·rcases zhY s zay 0 zay zay with ⟨q6,q6_1,g6⟩|⟨r6_0,g6⟩
    ·exact ⟨true,wkc At.Au [sg h1,sg h2,sy b3,sc c4,sb h5] [0,3] 0 kr (g6 _ (zaa (wkr [sb q6_1] kr)))⟩
    ·exact ⟨r6_0,wkc At.Au [sg h1,sg h2,sy b3,sc c4,sb h5] [0,3] 0 kr (g6)⟩
   ·exact ⟨false,wk At.Au [sg h1,sg h2,sy b3,sc c4,sb h5] kr⟩
  ·exact ⟨false,wk At.Au [sg h1,sb h2] kr⟩
 ·exact ⟨false,wk At.Au [sb h1] kr⟩
noncomputable def L_rv (v:V) (i:Nat) :Cfg:=zai B.As 0 [(1,.p 0 0),(3,iv (i:Nat))] [.box [iv v.kind,iv v.int,sv v.text]]
theorem zk3 (v:V) (hs:decide ((64:Int) < ((v.text.size:Nat):Int))=false) (i:Nat)  (hi:i<=(v.text.size)) (hI:True):((True)/\(decide ((((v.text.size):Nat):Int) < (((v.text.size):Nat):Int))=false)/\∀ R,Good E0 B.As [] (L_rv v v.text.size ) R->Good E0 B.As [] (L_rv v i ) R)\/(∃ (r:Bool),Good E0 B.As [] (L_rv v i ) (Shut 0 fun rZ hZ=>rZ=(bv r)/\hZ=[])):=by
 have hk:=hi;revert i hI;refine zlp v.text.size (fun i hlt ih hi hI _=>?_)
 have h0:decide (((i:Nat):Int) < (((v.text.size):Nat):Int))=true:=by simp;omega
 have hw:IntKind.i64.wrap (((i:Nat):Int)+1)=((i+1:Nat):Int):=zba i (by (simp only [decide_eq_false_iff_not] at hs;omega))
 obtain ⟨c1,b1⟩:=zid (s:=v.text) (i:=(i:Int)) ztJ
 cases h2:decide ((c1.toNat:Int) < 32)
 ·cases h3:decide (126 < (c1.toNat:Int))
  ·exact zie1 (ih Zo zcU Zo) fun R gY=>zaa (wkl [sb h0,sy b1,sg h2,sy b1,sb h3,si hw] [1,3] 1 kr gY)
  ·exact .inr ⟨false,zaa (wkr [sb h0,sy b1,sg h2,sy b1,sb h3] kr)⟩
 ·exact .inr ⟨false,zaa (wkr [sb h0,sy b1,sb h2] kr)⟩
theorem zdB (v:V) :∃ (r:Bool),zab E0 S.As [v.av] [] (bv r) []:=by
 cases h1:v.kind==0
 ·cases h2:v.kind==1
  ·cases h3:v.kind==2
   ·cases h4:v.kind==3
    ·exact ⟨false,wk At.As [sb h1,sb h2,sb h3,sb h4] kr⟩
    ·cases h5:v.int != 0
     ·cases h6:decide (64 < (↑(ByteArray.size v.text):Int))
      ·let p_1:List St:=[sb h1,sb h2,sb h3,sb h4,sg h5,sb h6]
       rcases zk3 v zay 0 zay zay with ⟨q7,q7_1,g7⟩|⟨r7_0,g7⟩
       ·exact ⟨true,wkc At.As p_1 [1,3] 1 kr (g7 _ (zaa (wkr [sb q7_1] kr)))⟩
       ·exact ⟨r7_0,wkc At.As p_1 [1,3] 1 kr (g7)⟩
      ·exact ⟨false,wk At.As [sb h1,sb h2,sb h3,sb h4,sg h5,sb h6] kr⟩
     ·exact ⟨false,wk At.As [sb h1,sb h2,sb h3,sb h4,sb h5] kr⟩
   ·cases h8:v.int==0
    ·cases h9:v.int==1
     ·exact ⟨false,wk At.As [sb h1,sb h2,sb h3,sg h8,sb h9] kr⟩
     ·exact ⟨ByteArray.toList v.text==Zs0.toList,wk At.As [sb h1,sb h2,sb h3,sg h8,sg h9] kr⟩
    ·exact ⟨ByteArray.toList v.text==Zs0.toList,wk At.As [sb h1,sb h2,sb h3,sb h8] kr⟩
  ·exact ⟨ByteArray.toList v.text==Zs0.toList,wk At.As [sb h1,sb h2] kr⟩
 ·cases h10:v.int==0
  ·exact ⟨false,wk At.As [sb h1,sb h10] kr⟩
  ·exact ⟨ByteArray.toList v.text==Zs0.toList,wk At.As [sb h1,sg h10] kr⟩
theorem ze0 (e:X) :∃ (r:Bool),zab E0 S.Dh [e.av] [] (bv r) []:=by
 cases h1:e.val.kind==0&&(e.val.int==0&&(e.val.text==ByteArray.mk #[]&&true))
 ·exact ⟨false,wk At.Dh [sq zaY,sb h1] kr⟩
 ·cases h2:ByteArray.toList e.table==Zs0.toList
  ·exact ⟨false,wk At.Dh [sq zaY,sg h1,sb h2] kr⟩
  ·exact ⟨ByteArray.toList e.name==Zs0.toList,wk At.Dh [sq zaY,sg h1,sg h2] kr⟩
theorem zc3 (s:Str) :∃ (r:Bool),zab E0 S.Dg [sv s] [] (bv r) []:=by
 obtain ⟨r1,c1⟩:=(zar s)
 rcases (yD r1).symm with h2|h2
 ·cases h3:ByteArray.toList s==ZsI.toList
  ·exact ⟨ByteArray.toList s==(ByteArray.mk #[(68:UInt8),(69:UInt8),(76:UInt8),(69:UInt8),(84:UInt8),(69:UInt8),(68:UInt8)]).toList,wk At.Dg [sc c1,sg h2,sg h3] kr⟩
  ·exact ⟨true,wk At.Dg [sc c1,sg h2,sb h3] kr⟩
 ·exact ⟨true,wk At.Dg [sc c1,sb h2] kr⟩
abbrev VxOk (x:X):Prop:=∃ b:Bool,zab E0 S.Ab [x.av] [] (bv b) []
abbrev VlOk (l:List X):Prop:=∃ b:Bool,zab E0 S.Ax [xsl l] [] (bv b) []
noncomputable def L_al (l:List X) (i:Nat) :Cfg:=zai B.Ax 0 [(5,xsl l),(6,iv ((zad l).length:Nat)),(7,iv (i:Nat))] []
theorem zlU (l:List X) (hl:zac l) (hv:∀ x∈l,VxOk x) (i:Nat)  (hi:i<=(l).length) (hI:True):((True)/\(decide ((((l).length:Nat):Int) < (((zad l).length:Nat):Int))=false)/\∀ R,Good E0 B.Ax [] (L_al l (l).length ) R->Good E0 B.Ax [] (L_al l i ) R)\/(∃ (r:Bool),Good E0 B.Ax [] (L_al l i ) (Shut 0 fun rZ hZ=>rZ=(bv r)/\hZ=[])):=by
 have hk:=hi;revert i hI;refine zlp ((l).length) (fun i hlt ih hi hI _=>?_)
 obtain ⟨x,hx,h0,hw⟩:=zlq (l:=l) ((zad l).length) hlt ziH
 have hvx:=hv x (yC hx)
 obtain ⟨b1,c1⟩:=hvx
 cases h2:!b1
 ·exact zie1 (ih Zo zcU Zo) fun R gY=>zaa (wkl [sb h0,se (zcD hx),sc c1,sb h2,si hw] [5,6,7] 0 kr gY)
 ·exact .inr ⟨false,zaa (wkr [sb h0,se (zcD hx),sc c1,sb h2] kr)⟩
theorem zgJ (l:List X) (hl:zac l) (hv:∀ x∈l,VxOk x):∃ (r:Bool),zab E0 S.Ax [xsl l] [] (bv r) []:=by
 rcases zlU l zay zay 0 zay zay with ⟨q1,q1_1,g1⟩|⟨r1_0,g1⟩
 ·exact ⟨true,wkc At.Ax [] [5,6,7] 0 kr (g1 _ (zaa (wkr [sb q1_1] kr)))⟩
 ·exact ⟨r1_0,wkc At.Ax [] [5,6,7] 0 kr (g1)⟩
noncomputable def L_vx (e:X) (i:Nat) :Cfg:=zai B.Ab 0 [(1,.p 0 0),(99,.sl (zam e.sub)),(100,iv ((zam e.sub).length:Nat)),(101,iv (i:Nat))] [.box e.cells]
theorem zb4 (e:X) (hs:zac e.sub) (hq:∀ q∈e.sub,VlOk q.items/\VlOk q.wh) (i:Nat)  (hi:i<=(e.sub).length) (hI:True):((True)/\(decide ((((e.sub).length:Nat):Int) < (((zam e.sub).length:Nat):Int))=false)/\∀ R,Good E0 B.Ab [] (L_vx e (e.sub).length ) R->Good E0 B.Ab [] (L_vx e i ) R)\/(∃ (r:Bool),Good E0 B.Ab [] (L_vx e i ) (Shut 0 fun rZ hZ=>rZ=(bv r)/\hZ=[])):=by
 have hk:=hi;revert i hI;refine zlp ((e.sub).length) (fun i hlt ih hi hI _=>?_)
 obtain ⟨x,hx,h0,hw⟩:=zlq (l:=e.sub) ((zam e.sub).length) hlt ziH
 have hi1:=(hq x (yC hx)).1;have hi2:=(hq x (yC hx)).2
 cases h1:!x.star==(e.kind==8)
 ·obtain ⟨r2,c2⟩:=(zc3 x.frm)
  cases h3:!r2
  ·obtain ⟨b4,c4⟩:=hi1
   let p_1:List St:=[sb h0,se (zbE hx),sg h1,sc c2,sg h3,sc c4]
   cases h5:!b4
   ·obtain ⟨b6,c6⟩:=hi2
    cases h7:!b6
    ·exact zie1 (ih Zo zcU Zo) fun R gY=>zaa (wkl (p_1++[sg h5,sc c6,sb h7,si hw]) [1,99,100,101] 1 kr gY)
    ·exact .inr ⟨false,zaa (wkr (p_1++[sg h5,sc c6,sb h7]) kr)⟩
   ·exact .inr ⟨false,zaa (wkr (p_1++[sb h5]) kr)⟩
  ·exact .inr ⟨false,zaa (wkr [sb h0,se (zbE hx),sg h1,sc c2,sb h3] kr)⟩
 ·exact .inr ⟨false,zaa (wkr [sb h0,se (zbE hx),sb h1] kr)⟩
theorem znR (e:X) (hs:zac e.sub) (ha:∃ b:Bool,zab E0 S.Ax [xsl e.args] [] (bv b) []) (hq:∀ q∈e.sub,VlOk q.items/\VlOk q.wh):∃ (r:Bool),zab E0 S.Ab [e.av] [] (bv r) []:=by
 cases h1:!znN e
 ·cases h2:e.kind != 5
  ·let p_1:List St:=[sc (zbr e),sg h1,sb h2]
   cases h3:e.kind != 6
   ·cases h4:e.kind==1
    ·cases h5:e.kind==2
     ·obtain ⟨r6,c6⟩:=(ze0 e)
      cases h7:!r6
      ·obtain ⟨b8,c8⟩:=ha
       let p_2:List St:=p_1++[sb h3,sb h4,sb h5,sc c6,sg h7,sc c8]
       cases h9:!b8
       ·rcases zb4 e zay zay 0 zay zay with ⟨q10,q10_1,g10⟩|⟨r10_0,g10⟩
        ·exact ⟨true,wkc At.Ab (p_2++[sb h9]) [1,99,100,101] 1 kr (g10 _ (zaa (wkr [sb q10_1] kr)))⟩
        ·exact ⟨r10_0,wkc At.Ab (p_2++[sb h9]) [1,99,100,101] 1 kr (g10)⟩
       ·exact ⟨false,wk At.Ab (p_2++[sb h9]) kr⟩
      ·exact ⟨false,wk At.Ab (p_1++[sb h3,sb h4,sb h5,sc c6,sb h7]) kr⟩
     ·cases h11:ByteArray.toList e.table==Zs0.toList
      ·obtain ⟨r12,c12⟩:=(zc3 e.table)
       rcases (yD r12).symm with h13|h13
       ·let p_3:List St:=p_1++[sb h3,sb h4,sb h5,sg h11,sc c12,sg h13]
        cases h14:ByteArray.toList e.table==ZsN.toList
        ·cases h15:ByteArray.toList e.table==ZsO.toList
         ·exact ⟨false,wk At.Ab (p_3++[sg h14,sb h15]) kr⟩
         ·obtain ⟨r16,c16⟩:=(zar e.name)
          rcases (yD r16).symm with h17|h17
          ·exact ⟨false,wk At.Ab (p_3++[sg h14,sg h15,sc c16,sb h17]) kr⟩
          ·exact ⟨e.val.kind==(0:Int)&&(e.val.int==(0:Int)&&(e.val.text==ByteArray.mk #[]&&true)),wk At.Ab (p_3++[sg h14,sg h15,sc c16,sg h17,sq zaY]) kr⟩
        ·obtain ⟨r18,c18⟩:=(zar e.name)
         rcases (yD r18).symm with h19|h19
         ·exact ⟨false,wk At.Ab (p_3++[sb h14,sc c18,sb h19]) kr⟩
         ·exact ⟨e.val.kind==(0:Int)&&(e.val.int==(0:Int)&&(e.val.text==ByteArray.mk #[]&&true)),wk At.Ab (p_3++[sb h14,sc c18,sg h19,sq zaY]) kr⟩
       ·obtain ⟨r20,c20⟩:=(zar e.name)
        let p_4:List St:=p_1++[sb h3,sb h4,sb h5,sg h11,sc c12,sb h13,sc c20]
        rcases (yD r20).symm with h21|h21
        ·exact ⟨false,wk At.Ab (p_4++[sb h21]) kr⟩
        ·exact ⟨e.val.kind==(0:Int)&&(e.val.int==(0:Int)&&(e.val.text==ByteArray.mk #[]&&true)),wk At.Ab (p_4++[sg h21,sq zaY]) kr⟩
      ·obtain ⟨r22,c22⟩:=(zar e.name)
       rcases (yD r22).symm with h23|h23
       ·exact ⟨false,wk At.Ab (p_1++[sb h3,sb h4,sb h5,sb h11,sc c22,sb h23]) kr⟩
       ·exact ⟨e.val.kind==(0:Int)&&(e.val.int==(0:Int)&&(e.val.text==ByteArray.mk #[]&&true)),wk At.Ab (p_1++[sb h3,sb h4,sb h5,sb h11,sc c22,sg h23,sq zaY]) kr⟩
    ·obtain ⟨r24,c24⟩:=(zdB e.val)
     rcases (yD r24).symm with h25|h25
     ·exact ⟨false,wk At.Ab (p_1++[sb h3,sb h4,sc c24,sb h25]) kr⟩
     ·cases h26:e.val.kind != 1
      ·cases h27:decide (0<=e.val.int)
       ·exact ⟨false,wk At.Ab (p_1++[sb h3,sb h4,sc c24,sg h25,sg h26,sb h27]) kr⟩
       ·let p_5:List St:=p_1++[sb h3,sb h4,sc c24,sg h25,sg h26,sg h27]
        cases h28:ByteArray.toList e.table==Zs0.toList
        ·exact ⟨false,wk At.Ab (p_5++[sb h28]) kr⟩
        ·exact ⟨ByteArray.toList e.name==Zs0.toList,wk At.Ab (p_5++[sg h28]) kr⟩
      ·cases h29:ByteArray.toList e.table==Zs0.toList
       ·exact ⟨false,wk At.Ab (p_1++[sb h3,sb h4,sc c24,sg h25,sb h26,sb h29]) kr⟩
       ·exact ⟨ByteArray.toList e.name==Zs0.toList,wk At.Ab (p_1++[sb h3,sb h4,sc c24,sg h25,sb h26,sg h29]) kr⟩
   ·cases h30:e.not
    ·cases h31:e.kind==1
     ·cases h32:e.kind==2
      ·obtain ⟨r33,c33⟩:=(ze0 e)
       cases h34:!r33
       ·obtain ⟨b35,c35⟩:=ha
        let p_6:List St:=p_1++[sg h3,sb h30,sb h31,sb h32,sc c33,sg h34,sc c35]
        cases h36:!b35
        ·rcases zb4 e zay zay 0 zay zay with ⟨q37,q37_1,g37⟩|⟨r37_0,g37⟩
         ·exact ⟨true,wkc At.Ab (p_6++[sb h36]) [1,99,100,101] 1 kr (g37 _ (zaa (wkr [sb q37_1] kr)))⟩
         ·exact ⟨r37_0,wkc At.Ab (p_6++[sb h36]) [1,99,100,101] 1 kr (g37)⟩
        ·exact ⟨false,wk At.Ab (p_6++[sb h36]) kr⟩
       ·exact ⟨false,wk At.Ab (p_1++[sg h3,sb h30,sb h31,sb h32,sc c33,sb h34]) kr⟩
      ·cases h38:ByteArray.toList e.table==Zs0.toList
       ·obtain ⟨r39,c39⟩:=(zc3 e.table)
        let p_7:List St:=p_1++[sg h3,sb h30,sb h31,sb h32,sg h38,sc c39]
        rcases (yD r39).symm with h40|h40
        ·cases h41:ByteArray.toList e.table==ZsN.toList
         ·cases h42:ByteArray.toList e.table==ZsO.toList
          ·exact ⟨false,wk At.Ab (p_7++[sg h40,sg h41,sb h42]) kr⟩
          ·obtain ⟨r43,c43⟩:=(zar e.name)
           rcases (yD r43).symm with h44|h44
           ·exact ⟨false,wk At.Ab (p_7++[sg h40,sg h41,sg h42,sc c43,sb h44]) kr⟩
           ·exact ⟨e.val.kind==(0:Int)&&(e.val.int==(0:Int)&&(e.val.text==ByteArray.mk #[]&&true)),wk At.Ab (p_7++[sg h40,sg h41,sg h42,sc c43,sg h44,sq zaY]) kr⟩
         ·obtain ⟨r45,c45⟩:=(zar e.name)
          rcases (yD r45).symm with h46|h46
          ·exact ⟨false,wk At.Ab (p_7++[sg h40,sb h41,sc c45,sb h46]) kr⟩
          ·exact ⟨e.val.kind==(0:Int)&&(e.val.int==(0:Int)&&(e.val.text==ByteArray.mk #[]&&true)),wk At.Ab (p_7++[sg h40,sb h41,sc c45,sg h46,sq zaY]) kr⟩
        ·obtain ⟨r47,c47⟩:=(zar e.name)
         rcases (yD r47).symm with h48|h48
         ·exact ⟨false,wk At.Ab (p_7++[sb h40,sc c47,sb h48]) kr⟩
         ·exact ⟨e.val.kind==(0:Int)&&(e.val.int==(0:Int)&&(e.val.text==ByteArray.mk #[]&&true)),wk At.Ab (p_7++[sb h40,sc c47,sg h48,sq zaY]) kr⟩
       ·obtain ⟨r49,c49⟩:=(zar e.name)
        let p_8:List St:=p_1++[sg h3,sb h30,sb h31,sb h32,sb h38,sc c49]
        rcases (yD r49).symm with h50|h50
        ·exact ⟨false,wk At.Ab (p_8++[sb h50]) kr⟩
        ·exact ⟨e.val.kind==(0:Int)&&(e.val.int==(0:Int)&&(e.val.text==ByteArray.mk #[]&&true)),wk At.Ab (p_8++[sg h50,sq zaY]) kr⟩
     ·obtain ⟨r51,c51⟩:=(zdB e.val)
      rcases (yD r51).symm with h52|h52
      ·exact ⟨false,wk At.Ab (p_1++[sg h3,sb h30,sb h31,sc c51,sb h52]) kr⟩
      ·cases h53:e.val.kind != 1
       ·let p_9:List St:=p_1++[sg h3,sb h30,sb h31,sc c51,sg h52,sg h53]
        cases h54:decide (0<=e.val.int)
        ·exact ⟨false,wk At.Ab (p_9++[sb h54]) kr⟩
        ·cases h55:ByteArray.toList e.table==Zs0.toList
         ·exact ⟨false,wk At.Ab (p_9++[sg h54,sb h55]) kr⟩
         ·exact ⟨ByteArray.toList e.name==Zs0.toList,wk At.Ab (p_9++[sg h54,sg h55]) kr⟩
       ·let p_10:List St:=p_1++[sg h3,sb h30,sb h31,sc c51,sg h52,sb h53]
        cases h56:ByteArray.toList e.table==Zs0.toList
        ·exact ⟨false,wk At.Ab (p_10++[sb h56]) kr⟩
        ·exact ⟨ByteArray.toList e.name==Zs0.toList,wk At.Ab (p_10++[sg h56]) kr⟩
    ·exact ⟨false,wk At.Ab (p_1++[sg h3,sb h30]) kr⟩
  ·let p_11:List St:=[sc (zbr e),sg h1,sg h2]
   cases h57:e.op != 0
   ·cases h58:e.kind != 6
    ·cases h59:e.kind==1
     ·cases h60:e.kind==2
      ·obtain ⟨r61,c61⟩:=(ze0 e)
       let p_12:List St:=p_11++[sg h57,sb h58,sb h59,sb h60,sc c61]
       cases h62:!r61
       ·obtain ⟨b63,c63⟩:=ha
        cases h64:!b63
        ·rcases zb4 e zay zay 0 zay zay with ⟨q65,q65_1,g65⟩|⟨r65_0,g65⟩
         ·exact ⟨true,wkc At.Ab (p_12++[sg h62,sc c63,sb h64]) [1,99,100,101] 1 kr (g65 _ (zaa (wkr [sb q65_1] kr)))⟩
         ·exact ⟨r65_0,wkc At.Ab (p_12++[sg h62,sc c63,sb h64]) [1,99,100,101] 1 kr (g65)⟩
        ·exact ⟨false,wk At.Ab (p_12++[sg h62,sc c63,sb h64]) kr⟩
       ·exact ⟨false,wk At.Ab (p_12++[sb h62]) kr⟩
      ·cases h66:ByteArray.toList e.table==Zs0.toList
       ·obtain ⟨r67,c67⟩:=(zc3 e.table)
        let p_13:List St:=p_11++[sg h57,sb h58,sb h59,sb h60,sg h66,sc c67]
        rcases (yD r67).symm with h68|h68
        ·cases h69:ByteArray.toList e.table==ZsN.toList
         ·cases h70:ByteArray.toList e.table==ZsO.toList
          ·exact ⟨false,wk At.Ab (p_13++[sg h68,sg h69,sb h70]) kr⟩
          ·obtain ⟨r71,c71⟩:=(zar e.name)
           rcases (yD r71).symm with h72|h72
           ·exact ⟨false,wk At.Ab (p_13++[sg h68,sg h69,sg h70,sc c71,sb h72]) kr⟩
           ·exact ⟨e.val.kind==(0:Int)&&(e.val.int==(0:Int)&&(e.val.text==ByteArray.mk #[]&&true)),wk At.Ab (p_13++[sg h68,sg h69,sg h70,sc c71,sg h72,sq zaY]) kr⟩
         ·obtain ⟨r73,c73⟩:=(zar e.name)
          rcases (yD r73).symm with h74|h74
          ·exact ⟨false,wk At.Ab (p_13++[sg h68,sb h69,sc c73,sb h74]) kr⟩
          ·exact ⟨e.val.kind==(0:Int)&&(e.val.int==(0:Int)&&(e.val.text==ByteArray.mk #[]&&true)),wk At.Ab (p_13++[sg h68,sb h69,sc c73,sg h74,sq zaY]) kr⟩
        ·obtain ⟨r75,c75⟩:=(zar e.name)
         rcases (yD r75).symm with h76|h76
         ·exact ⟨false,wk At.Ab (p_13++[sb h68,sc c75,sb h76]) kr⟩
         ·exact ⟨e.val.kind==(0:Int)&&(e.val.int==(0:Int)&&(e.val.text==ByteArray.mk #[]&&true)),wk At.Ab (p_13++[sb h68,sc c75,sg h76,sq zaY]) kr⟩
       ·obtain ⟨r77,c77⟩:=(zar e.name)
        let p_14:List St:=p_11++[sg h57,sb h58,sb h59,sb h60,sb h66,sc c77]
        rcases (yD r77).symm with h78|h78
        ·exact ⟨false,wk At.Ab (p_14++[sb h78]) kr⟩
        ·exact ⟨e.val.kind==(0:Int)&&(e.val.int==(0:Int)&&(e.val.text==ByteArray.mk #[]&&true)),wk At.Ab (p_14++[sg h78,sq zaY]) kr⟩
     ·obtain ⟨r79,c79⟩:=(zdB e.val)
      rcases (yD r79).symm with h80|h80
      ·exact ⟨false,wk At.Ab (p_11++[sg h57,sb h58,sb h59,sc c79,sb h80]) kr⟩
      ·let p_15:List St:=p_11++[sg h57,sb h58,sb h59,sc c79,sg h80]
       cases h81:e.val.kind != 1
       ·cases h82:decide (0<=e.val.int)
        ·exact ⟨false,wk At.Ab (p_15++[sg h81,sb h82]) kr⟩
        ·cases h83:ByteArray.toList e.table==Zs0.toList
         ·exact ⟨false,wk At.Ab (p_15++[sg h81,sg h82,sb h83]) kr⟩
         ·exact ⟨ByteArray.toList e.name==Zs0.toList,wk At.Ab (p_15++[sg h81,sg h82,sg h83]) kr⟩
       ·cases h84:ByteArray.toList e.table==Zs0.toList
        ·exact ⟨false,wk At.Ab (p_15++[sb h81,sb h84]) kr⟩
        ·exact ⟨ByteArray.toList e.name==Zs0.toList,wk At.Ab (p_15++[sb h81,sg h84]) kr⟩
    ·cases h85:e.not
     ·cases h86:e.kind==1
      ·cases h87:e.kind==2
       ·obtain ⟨r88,c88⟩:=(ze0 e)
        let p_16:List St:=p_11++[sg h57,sg h58,sb h85,sb h86,sb h87,sc c88]
        cases h89:!r88
        ·obtain ⟨b90,c90⟩:=ha
         cases h91:!b90
         ·rcases zb4 e zay zay 0 zay zay with ⟨q92,q92_1,g92⟩|⟨r92_0,g92⟩
          ·exact ⟨true,wkc At.Ab (p_16++[sg h89,sc c90,sb h91]) [1,99,100,101] 1 kr (g92 _ (zaa (wkr [sb q92_1] kr)))⟩
          ·exact ⟨r92_0,wkc At.Ab (p_16++[sg h89,sc c90,sb h91]) [1,99,100,101] 1 kr (g92)⟩
         ·exact ⟨false,wk At.Ab (p_16++[sg h89,sc c90,sb h91]) kr⟩
        ·exact ⟨false,wk At.Ab (p_16++[sb h89]) kr⟩
       ·let p_17:List St:=p_11++[sg h57,sg h58,sb h85,sb h86,sb h87]
        cases h93:ByteArray.toList e.table==Zs0.toList
        ·obtain ⟨r94,c94⟩:=(zc3 e.table)
         rcases (yD r94).symm with h95|h95
         ·cases h96:ByteArray.toList e.table==ZsN.toList
          ·cases h97:ByteArray.toList e.table==ZsO.toList
           ·exact ⟨false,wk At.Ab (p_17++[sg h93,sc c94,sg h95,sg h96,sb h97]) kr⟩
           ·obtain ⟨r98,c98⟩:=(zar e.name)
            let p_18:List St:=p_17++[sg h93,sc c94,sg h95,sg h96,sg h97,sc c98]
            rcases (yD r98).symm with h99|h99
            ·exact ⟨false,wk At.Ab (p_18++[sb h99]) kr⟩
            ·exact ⟨e.val.kind==(0:Int)&&(e.val.int==(0:Int)&&(e.val.text==ByteArray.mk #[]&&true)),wk At.Ab (p_18++[sg h99,sq zaY]) kr⟩
          ·obtain ⟨r100,c100⟩:=(zar e.name)
           let p_19:List St:=p_17++[sg h93,sc c94,sg h95,sb h96,sc c100]
           rcases (yD r100).symm with h101|h101
           ·exact ⟨false,wk At.Ab (p_19++[sb h101]) kr⟩
           ·exact ⟨e.val.kind==(0:Int)&&(e.val.int==(0:Int)&&(e.val.text==ByteArray.mk #[]&&true)),wk At.Ab (p_19++[sg h101,sq zaY]) kr⟩
         ·obtain ⟨r102,c102⟩:=(zar e.name)
          rcases (yD r102).symm with h103|h103
          ·exact ⟨false,wk At.Ab (p_17++[sg h93,sc c94,sb h95,sc c102,sb h103]) kr⟩
          ·exact ⟨e.val.kind==(0:Int)&&(e.val.int==(0:Int)&&(e.val.text==ByteArray.mk #[]&&true)),wk At.Ab (p_17++[sg h93,sc c94,sb h95,sc c102,sg h103,sq zaY]) kr⟩
        ·obtain ⟨r104,c104⟩:=(zar e.name)
         rcases (yD r104).symm with h105|h105
         ·exact ⟨false,wk At.Ab (p_17++[sb h93,sc c104,sb h105]) kr⟩
         ·exact ⟨e.val.kind==(0:Int)&&(e.val.int==(0:Int)&&(e.val.text==ByteArray.mk #[]&&true)),wk At.Ab (p_17++[sb h93,sc c104,sg h105,sq zaY]) kr⟩
      ·obtain ⟨r106,c106⟩:=(zdB e.val)
       let p_20:List St:=p_11++[sg h57,sg h58,sb h85,sb h86,sc c106]
       rcases (yD r106).symm with h107|h107
       ·exact ⟨false,wk At.Ab (p_20++[sb h107]) kr⟩
       ·cases h108:e.val.kind != 1
        ·cases h109:decide (0<=e.val.int)
         ·exact ⟨false,wk At.Ab (p_20++[sg h107,sg h108,sb h109]) kr⟩
         ·cases h110:ByteArray.toList e.table==Zs0.toList
          ·exact ⟨false,wk At.Ab (p_20++[sg h107,sg h108,sg h109,sb h110]) kr⟩
          ·exact ⟨ByteArray.toList e.name==Zs0.toList,wk At.Ab (p_20++[sg h107,sg h108,sg h109,sg h110]) kr⟩
        ·cases h111:ByteArray.toList e.table==Zs0.toList
         ·exact ⟨false,wk At.Ab (p_20++[sg h107,sb h108,sb h111]) kr⟩
         ·exact ⟨ByteArray.toList e.name==Zs0.toList,wk At.Ab (p_20++[sg h107,sb h108,sg h111]) kr⟩
     ·exact ⟨false,wk At.Ab (p_11++[sg h57,sg h58,sb h85]) kr⟩
   ·exact ⟨false,wk At.Ab (p_11++[sb h57]) kr⟩
 ·exact ⟨false,wk At.Ab [sc (zbr e),sb h1] kr⟩
theorem vxOk:∀ (n:Nat) (e:X),XOk n e->VxOk e
 | 0,_,h=>h.elim
 | n+1,e,⟨_,ha,hx,hs⟩=>znR e (Thin.short ha.2) (zgJ _ (Thin.short ha.1) fun x h=>vxOk n x (hx x h)) fun q h =>
   ⟨zgJ _ (Thin.short (hs q h).1.1) fun x h'=>vxOk n x ((hs q h).2.1 x h'),zgJ _ (Thin.short (hs q h).1.2) fun x h'=>vxOk n x ((hs q h).2.2 x h')⟩
theorem vlOk {n:Nat} {l:List X} (hf:Few l) (h:∀ x∈l,XOk n x):VlOk l:=zgJ l (zaE hf) fun x hx=>vxOk n x (h x hx)
theorem zmw (q:Qy) (hqa:∃ b:Bool,zab E0 S.Ax [xsl q.items] [] (bv b) []) (hqb:∃ b:Bool,zab E0 S.Ax [xsl q.wh] [] (bv b) []):∃ (r:Bool),zab E0 S.Bh [q.av] [] (bv r) []:=by
 obtain ⟨r1,c1⟩:=(zc3 q.frm)
 cases h2:!r1
 ·cases h3:decide (1 < (↑(zad q.wh).length:Int))
  ·cases h4:decide (8 < (↑(zad q.items).length:Int))
   ·cases h5:!q.star==((↑(zad q.items).length:Int)==0)
    ·obtain ⟨b6,c6⟩:=hqa
     let p_1:List St:=[sc c1,sg h2,sg h3,sg h4,sb h5,sc c6]
     rcases (yD b6).symm with h7|h7
     ·exact ⟨false,wk At.Bh (p_1++[sb h7]) kr⟩
     ·obtain ⟨b8,c8⟩:=hqb
      exact ⟨b8,wk At.Bh (p_1++[sg h7,sc c8]) kr⟩
    ·exact ⟨false,wk At.Bh [sc c1,sg h2,sg h3,sg h4,sb h5] kr⟩
   ·exact ⟨false,wk At.Bh [sc c1,sg h2,sg h3,sb h4] kr⟩
  ·exact ⟨false,wk At.Bh [sc c1,sg h2,sb h3] kr⟩
 ·exact ⟨false,wk At.Bh [sc c1,sb h2] kr⟩
noncomputable def L_vi (a:Ac) (i:Nat) :Cfg:=zai B.Am 0 [(1,.p 0 0),(27,.sl (a.rows.map zaI)),(28,iv ((a.rows.map zaI).length:Nat)),(29,iv (i:Nat))] [.box a.cells]
theorem zgw (a:Ac) (hs:zac a.rows) (hr:∀ r∈a.rows,VlOk r) (i:Nat)  (hi:i<=(a.rows).length) (hI:True):((True)/\(decide ((((a.rows).length:Nat):Int) < (((a.rows.map zaI).length:Nat):Int))=false)/\∀ R,Good E0 B.Am [] (L_vi a (a.rows).length ) R->Good E0 B.Am [] (L_vi a i ) R)\/(∃ (r:Bool),Good E0 B.Am [] (L_vi a i ) (Shut 0 fun rZ hZ=>rZ=(bv r)/\hZ=[])):=by
 have hk:=hi;revert i hI;refine zlp ((a.rows).length) (fun i hlt ih hi hI _=>?_)
 obtain ⟨x,hx,h0,hw⟩:=zlq (l:=a.rows) ((a.rows.map zaI).length) hlt ziH
 have hi1:=hr x (yC hx)
 let p_1:List St:=[sb h0,se (zaf zaI hx rfl)]
 cases h1:decide ((↑(zad x).length:Int) < 1)
 ·cases h2:decide (6 < (↑(zad x).length:Int))
  ·obtain ⟨b3,c3⟩:=hi1
   cases h4:!b3
   ·exact zie1 (ih Zo zcU Zo) fun R gY=>zaa (wkl (p_1++[sg h1,sg h2,sc c3,sb h4,si hw]) [1,27,28,29] 1 kr gY)
   ·exact .inr ⟨false,zaa (wkr (p_1++[sg h1,sg h2,sc c3,sb h4]) kr)⟩
  ·exact .inr ⟨false,zaa (wkr (p_1++[sg h1,sb h2]) kr)⟩
 ·exact .inr ⟨false,zaa (wkr (p_1++[sb h1]) kr)⟩
theorem zmd (a:Ac) (hs:zac a.rows) (hr:∀ r∈a.rows,VlOk r) (hq:∀ q∈a.query,∃ b:Bool,zab E0 S.Bh [q.av] [] (bv b) []):∃ (r:Bool),zab E0 S.Am [a.av] [] (bv r) []:=by
 cases h1:decide (1 < (↑(zam a.query).length:Int))
 ·cases h2:((↑(zam a.query).length:Int)==1)==decide (0 < (↑(List.map (fun r=>[AV.sl (zad r)]) a.rows).length:Int))
  ·cases h3:decide (8 < (↑(List.map (fun r=>[AV.sl (zad r)]) a.rows).length:Int))
   ·rcases zgw a zkF zkF 0 zkF zkF with ⟨q4,q4_1,g4⟩|⟨r4_0,g4⟩
    ·cases h5:(↑(zam a.query).length:Int)==0
     ·obtain ⟨x6,e6⟩:=zbc (l:=a.query) (i:=0) zkF
      obtain ⟨b7,c7⟩:=(hq x6 zkF)
      exact ⟨b7,wkc At.Am [sg h1,sg h2,sb h3] [1,27,28,29] 1 kr (g4 _ (zaa (wkr [sb q4_1,sg h5,se (zbE e6),sc c7] kr)))⟩
     ·exact ⟨true,wkc At.Am [sg h1,sg h2,sb h3] [1,27,28,29] 1 kr (g4 _ (zaa (wkr [sb q4_1,sb h5] kr)))⟩
    ·exact ⟨r4_0,wkc At.Am [sg h1,sg h2,sb h3] [1,27,28,29] 1 kr (g4)⟩
   ·exact ⟨false,wk At.Am [sg h1,sg h2,sb h3] kr⟩
  ·exact ⟨false,wk At.Am [sg h1,sb h2] kr⟩
 ·exact ⟨false,wk At.Am [sb h1] kr⟩
theorem zqL {α:Type} (f:α->List AV) {l:List α} {x:α} {n j m:Nat} (hx:(l.take n)[j]?=some x) (hc:(f x).length=m):ElAt ((l.map f).take n) ((j:Nat):Int) (f x) m:=by
 rw [← List.map_take]
 exact zaf f hx hc
noncomputable def zwi (l:List Se) (io:Nat) (y:Se) (i:Nat) :Cfg:=zai B.AC 1 [(0,.sl (l.map Se.cells)),(4,.p 0 0),(7,.sl (l.map Se.cells)),(8,iv ((l.map Se.cells).length:Nat)),(9,iv (io:Nat)),(26,.sl ((l.map Se.cells).take io)),(27,iv (((l.map Se.cells).take io).length:Nat)),(28,iv (i:Nat))] [.box y.cells]
theorem zhf (l:List Se) (io:Nat) (y:Se) (hl:zac l) (i:Nat)  (hi:i<=((l.take io)).length) (hI:True):((True)/\(decide (((((l.take io)).length:Nat):Int) < ((((l.map Se.cells).take io).length:Nat):Int))=false)/\∀ R,Good E0 B.AC [] (zwi l io y ((l.take io)).length ) R->Good E0 B.AC [] (zwi l io y i ) R)\/(∃ (r:Bool),Good E0 B.AC [] (zwi l io y i ) (Shut 0 fun rZ hZ=>rZ=(bv r)/\hZ=[])):=by
 obtain ⟨kk,hk⟩:∃ kk,i+kk=((l.take io)).length:=⟨((l.take io)).length - i,by omega⟩
 induction kk generalizing i  hI with
 | zero =>
  have e0:i=((l.take io)).length:=by omega
  subst e0
  exact .inl ⟨hI,by simp,fun R hg=>hg⟩
 | succ kk ih =>
  obtain ⟨x,hx⟩:=zbc (l:=(l.take io)) (i:=i) Zo
  have h0:decide (((i:Nat):Int) < ((((l.map Se.cells).take io).length:Nat):Int))=true:=by simp at *;omega
  have hw:IntKind.i64.wrap (((i:Nat):Int)+1)=((i+1:Nat):Int):=zba i (by simp only [zac] at hl;simp at hk;omega)
  have hxe:=zqL Se.cells hx rfl
  cases h1:ByteArray.toList x.col==ByteArray.toList y.col
  ·exact zie1 (ih (i+1) Zo zcU Zo) fun R gY=>zaa (wkl [sb h0,se hxe,sb h1,si hw] [0,4,7,8,9,26,27,28] 1 kr gY)
  ·exact .inr ⟨false,zaa (wkr [sb h0,se hxe,sb h1] kr)⟩
noncomputable def zwj (l:List Se) (i:Nat) :Cfg:=zai B.AC 0 [(0,.sl (l.map Se.cells)),(7,.sl (l.map Se.cells)),(8,iv ((l.map Se.cells).length:Nat)),(9,iv (i:Nat))] []
theorem zhg (l:List Se) (hl:zac l) (hv:∀ s∈l,VxOk s.ex) (i:Nat)  (hi:i<=(l).length) (hI:True):((True)/\(decide ((((l).length:Nat):Int) < (((l.map Se.cells).length:Nat):Int))=false)/\∀ R,Good E0 B.AC [] (zwj l (l).length ) R->Good E0 B.AC [] (zwj l i ) R)\/(∃ (r:Bool),Good E0 B.AC [] (zwj l i ) (Shut 0 fun rZ hZ=>rZ=(bv r)/\hZ=[])):=by
 have hk:=hi;revert i hI;refine zlp ((l).length) (fun i hlt ih hi hI _=>?_)
 obtain ⟨x,hx,h0,hw⟩:=zlq (l:=l) ((l.map Se.cells).length) hlt ziH
 have hi1:=hv x (yC hx)
 obtain ⟨r1,c1⟩:=(zar x.col)
 let p_1:List St:=[sb h0,se (zaf Se.cells hx rfl),sc c1]
 cases h2:!r1
 ·obtain ⟨b3,c3⟩:=hi1
  cases h4:!b3
  ·let p_2:List St:=p_1++[sg h2,sc c3,sb h4,sqx (SubAt (List.map Se.cells l) 0 (i:Int) 11)]
   rcases zhf l i x zay 0 zay zay with ⟨q5,q5_1,g5⟩|⟨r5_0,g5⟩
   ·exact zie1 (ih Zo zcU Zo) fun R gY=>zaa (wkl p_2 [0,4,7,8,9,26,27,28] 1 kr (g5 _ (zaa (wkl [sb q5_1,si hw] [0,7,8,9] 0 kr gY))))
   ·exact .inr ⟨r5_0,zaa (wkl p_2 [0,4,7,8,9,26,27,28] 1 kr g5)⟩
  ·exact .inr ⟨false,zaa (wkr (p_1++[sg h2,sc c3,sb h4]) kr)⟩
 ·exact .inr ⟨false,zaa (wkr (p_1++[sb h2]) kr)⟩
theorem znS (l:List Se) (hl:zac l) (hv:∀ s∈l,VxOk s.ex):∃ (r:Bool),zab E0 S.AC [.sl (l.map Se.cells)] [] (bv r) []:=by
 rcases zhg l zay zay 0 zay zay with ⟨q1,q1_1,g1⟩|⟨r1_0,g1⟩
 ·exact ⟨true,wkc At.AC [] [0,7,8,9] 0 kr (g1 _ (zaa (wkr [sb q1_1] kr)))⟩
 ·exact ⟨r1_0,wkc At.AC [] [0,7,8,9] 0 kr (g1)⟩
noncomputable def zv6 (l:List Str) (io:Nat) (y:Str) (i:Nat) :Cfg:=zai B.Bl 1 [(0,ssl l),(4,sv y),(10,ssl l),(11,iv ((l.map zbR).length:Nat)),(12,iv (io:Nat)),(22,.sl ((l.map zbR).take io)),(23,iv (((l.map zbR).take io).length:Nat)),(24,iv (i:Nat))] []
theorem zja (l:List Str) (io:Nat) (y:Str) (hl:zac l) (i:Nat)  (hi:i<=((l.take io)).length) (hI:True):((True)/\(decide (((((l.take io)).length:Nat):Int) < ((((l.map zbR).take io).length:Nat):Int))=false)/\∀ R,Good E0 B.Bl [] (zv6 l io y ((l.take io)).length ) R->Good E0 B.Bl [] (zv6 l io y i ) R)\/(∃ (r:Bool),Good E0 B.Bl [] (zv6 l io y i ) (Shut 0 fun rZ hZ=>rZ=(bv r)/\hZ=[])):=by
 obtain ⟨kk,hk⟩:∃ kk,i+kk=((l.take io)).length:=⟨((l.take io)).length - i,by omega⟩
 induction kk generalizing i  hI with
 | zero =>
  have e0:i=((l.take io)).length:=by omega
  subst e0
  exact .inl ⟨hI,by simp,fun R hg=>hg⟩
 | succ kk ih =>
  obtain ⟨x,hx⟩:=zbc (l:=(l.take io)) (i:=i) Zo
  have h0:decide (((i:Nat):Int) < ((((l.map zbR).take io).length:Nat):Int))=true:=by simp at *;omega
  have hw:IntKind.i64.wrap (((i:Nat):Int)+1)=((i+1:Nat):Int):=zba i (by simp only [zac] at hl;simp at hk;omega)
  have hxe:=zqL zbR hx rfl
  cases h1:ByteArray.toList x==ByteArray.toList y
  ·exact zie1 (ih (i+1) Zo zcU Zo) fun R gY=>zaa (wkl [sb h0,se hxe,sb h1,si hw] [0,4,10,11,12,22,23,24] 0 kr gY)
  ·exact .inr ⟨false,zaa (wkr [sb h0,se hxe,sb h1] kr)⟩
noncomputable def zv7 (l:List Str) (i:Nat) :Cfg:=zai B.Bl 0 [(0,ssl l),(10,ssl l),(11,iv ((l.map zbR).length:Nat)),(12,iv (i:Nat))] []
theorem zjb (l:List Str) (hl:zac l) (i:Nat)  (hi:i<=(l).length) (hI:True):((True)/\(decide ((((l).length:Nat):Int) < (((l.map zbR).length:Nat):Int))=false)/\∀ R,Good E0 B.Bl [] (zv7 l (l).length ) R->Good E0 B.Bl [] (zv7 l i ) R)\/(∃ (r:Bool),Good E0 B.Bl [] (zv7 l i ) (Shut 0 fun rZ hZ=>rZ=(bv r)/\hZ=[])):=by
 have hk:=hi;revert i hI;refine zlp ((l).length) (fun i hlt ih hi hI _=>?_)
 obtain ⟨x,hx,h0,hw⟩:=zlq (l:=l) ((l.map zbR).length) hlt ziH
 obtain ⟨r1,c1⟩:=(zar x)
 let p_1:List St:=[sb h0,se (zaf (fun s=>[sv s]) hx rfl),sc c1]
 cases h2:!r1
 ·let p_2:List St:=p_1++[sb h2,sqx (SubAt (List.map (fun s=>[sv s]) l) 0 (i:Int) 1)]
  rcases zja l i x zay 0 zay zay with ⟨q3,q3_1,g3⟩|⟨r3_0,g3⟩
  ·exact zie1 (ih Zo zcU Zo) fun R gY=>zaa (wkl p_2 [0,4,10,11,12,22,23,24] 0 kr (g3 _ (zaa (wkl [sb q3_1,si hw] [0,10,11,12] 0 kr gY))))
  ·exact .inr ⟨r3_0,zaa (wkl p_2 [0,4,10,11,12,22,23,24] 0 kr g3)⟩
 ·exact .inr ⟨false,zaa (wkr (p_1++[sb h2]) kr)⟩
theorem zdd (l:List Str) (hl:zac l):∃ (r:Bool),zab E0 S.Bl [ssl l] [] (bv r) []:=by
 cases h1:decide (8 < (↑(List.map (fun s=>[sv s]) l).length:Int))
 ·rcases zjb l zay 0 zay zay with ⟨q2,q2_1,g2⟩|⟨r2_0,g2⟩
  ·exact ⟨true,wkc At.Bl [sb h1] [0,10,11,12] 0 kr (g2 _ (zaa (wkr [sb q2_1] kr)))⟩
  ·exact ⟨r2_0,wkc At.Bl [sb h1] [0,10,11,12] 0 kr (g2)⟩
 ·exact ⟨false,wk At.Bl [sb h1] kr⟩
theorem vqOk {n:Nat} {q:Qy} (h:QW n q):∃ b:Bool,zab E0 S.Bh [q.av] [] (bv b) []:=zmw q (vlOk h.items h.hi) (vlOk h.wh h.hw)
abbrev acc (k:Int) (a:Ac):List AV:=[iv k,sv a.table,.sl (a.rows.map zaI),.sl (zam a.query),.sl (a.sets.map Se.cells),.sl (zad a.wh),sv a.text]
theorem zi5 (a:Ac) (hw:∃ b:Bool,zab E0 S.Ax [xsl a.wh] [] (bv b) []) (hi:∃ b:Bool,zab E0 S.Am [.agg (acc 1 a)] [] (bv b) []) (hs:∃ b:Bool,zab E0 S.AC [.sl (a.sets.map Se.cells)] [] (bv b) []):∃ (r:Bool),zab E0 S.Aa [.agg (acc 1 a)] [] (bv r) []:=by
 cases h1:!(1==5)==(ByteArray.toList a.table==Zs0.toList)
 ·cases h2:!ByteArray.toList a.table==Zs0.toList
  ·let p_1:List St:=[sg Zf,sg h1,sb h2,sg Zt]
   cases h3:!ByteArray.toList a.text==Zs0.toList
   ·let p_2:List St:=p_1++[sb h3,sb Zf,sg Zt,sg Zt]
    cases h4:decide (0 < (↑(List.map Se.cells a.sets).length:Int))
    ·let p_3:List St:=p_2++[sg h4,sg Zt,sg Zt]
     cases h5:decide (0 < (↑(zad a.wh).length:Int))
     ·cases h6:decide (1 < (↑(zad a.wh).length:Int))
      ·obtain ⟨b7,c7⟩:=hw
       cases h8:!b7
       ·obtain ⟨b9,c9⟩:=hi
        exact ⟨b9,wk At.Aa (p_3++[sb h5,sg h6,sc c7,sb h8,sb Zt,sc c9]) kr⟩
       ·exact ⟨false,wk At.Aa (p_3++[sb h5,sg h6,sc c7,sb h8]) kr⟩
      ·exact ⟨false,wk At.Aa (p_3++[sb h5,sb h6]) kr⟩
     ·exact ⟨false,wk At.Aa (p_3++[sb h5]) kr⟩
    ·exact ⟨false,wk At.Aa (p_2++[sb h4]) kr⟩
   ·exact ⟨false,wk At.Aa (p_1++[sb h3]) kr⟩
  ·obtain ⟨r10,c10⟩:=(zar a.table)
   let p_4:List St:=[sg Zf,sg h1,sg h2,sc c10]
   cases h11:!r10
   ·cases h12:!ByteArray.toList a.text==Zs0.toList
    ·let p_5:List St:=p_4++[sg h11,sg Zt,sb h12,sb Zf,sg Zt,sg Zt]
     cases h13:decide (0 < (↑(List.map Se.cells a.sets).length:Int))
     ·let p_6:List St:=p_5++[sg h13,sg Zt,sg Zt]
      cases h14:decide (0 < (↑(zad a.wh).length:Int))
      ·cases h15:decide (1 < (↑(zad a.wh).length:Int))
       ·obtain ⟨b16,c16⟩:=hw
        cases h17:!b16
        ·obtain ⟨b18,c18⟩:=hi
         exact ⟨b18,wk At.Aa (p_6++[sb h14,sg h15,sc c16,sb h17,sb Zt,sc c18]) kr⟩
        ·exact ⟨false,wk At.Aa (p_6++[sb h14,sg h15,sc c16,sb h17]) kr⟩
       ·exact ⟨false,wk At.Aa (p_6++[sb h14,sb h15]) kr⟩
      ·exact ⟨false,wk At.Aa (p_6++[sb h14]) kr⟩
     ·exact ⟨false,wk At.Aa (p_5++[sb h13]) kr⟩
    ·exact ⟨false,wk At.Aa (p_4++[sg h11,sg Zt,sb h12]) kr⟩
   ·exact ⟨false,wk At.Aa (p_4++[sb h11]) kr⟩
 ·exact ⟨false,wk At.Aa [sg Zf,sb h1] kr⟩
theorem zi6 (a:Ac) (hw:∃ b:Bool,zab E0 S.Ax [xsl a.wh] [] (bv b) []) (hi:∃ b:Bool,zab E0 S.Am [.agg (acc 2 a)] [] (bv b) []) (hs:∃ b:Bool,zab E0 S.AC [.sl (a.sets.map Se.cells)] [] (bv b) []):∃ (r:Bool),zab E0 S.Aa [.agg (acc 2 a)] [] (bv r) []:=by
 cases h1:!(2==5)==(ByteArray.toList a.table==Zs0.toList)
 ·cases h2:!ByteArray.toList a.table==Zs0.toList
  ·let p_1:List St:=[sg Zf,sg h1,sb h2,sg Zt]
   cases h3:!ByteArray.toList a.text==Zs0.toList
   ·let p_2:List St:=p_1++[sb h3,sg Zt,si (e:=IntKind.i64.wrap ((↑(List.map zaI a.rows).length:Int)+(↑(zam a.query).length:Int))) rfl]
    cases h4:decide (0 < IntKind.i64.wrap ((↑(List.map zaI a.rows).length:Int)+(↑(zam a.query).length:Int)))
    ·let p_3:List St:=p_2++[sg h4,sb Zf,sb Zf]
     cases h5:decide (1 < (↑(zad a.wh).length:Int))
     ·obtain ⟨b6,c6⟩:=hw
      cases h7:!b6
      ·let p_4:List St:=p_3++[sg h5,sc c6,sb h7,sb Zf,sb Zt]
       cases h8:decide (1<=(↑(List.map Se.cells a.sets).length:Int))
       ·exact ⟨false,wk At.Aa (p_4++[sb h8]) kr⟩
       ·cases h9:decide ((↑(List.map Se.cells a.sets).length:Int)<=8)
        ·exact ⟨false,wk At.Aa (p_4++[sg h8,sb h9]) kr⟩
        ·obtain ⟨b10,c10⟩:=hs
         exact ⟨b10,wk At.Aa (p_4++[sg h8,sg h9,sc c10]) kr⟩
      ·exact ⟨false,wk At.Aa (p_3++[sg h5,sc c6,sb h7]) kr⟩
     ·exact ⟨false,wk At.Aa (p_3++[sb h5]) kr⟩
    ·exact ⟨false,wk At.Aa (p_2++[sb h4]) kr⟩
   ·exact ⟨false,wk At.Aa (p_1++[sb h3]) kr⟩
  ·obtain ⟨r11,c11⟩:=(zar a.table)
   let p_5:List St:=[sg Zf,sg h1,sg h2,sc c11]
   cases h12:!r11
   ·cases h13:!ByteArray.toList a.text==Zs0.toList
    ·let p_6:List St:=p_5++[sg h12,sg Zt,sb h13,sg Zt,si (e:=IntKind.i64.wrap ((↑(List.map zaI a.rows).length:Int)+(↑(zam a.query).length:Int))) rfl]
     cases h14:decide (0 < IntKind.i64.wrap ((↑(List.map zaI a.rows).length:Int)+(↑(zam a.query).length:Int)))
     ·let p_7:List St:=p_6++[sg h14,sb Zf,sb Zf]
      cases h15:decide (1 < (↑(zad a.wh).length:Int))
      ·obtain ⟨b16,c16⟩:=hw
       cases h17:!b16
       ·let p_8:List St:=p_7++[sg h15,sc c16,sb h17,sb Zf,sb Zt]
        cases h18:decide (1<=(↑(List.map Se.cells a.sets).length:Int))
        ·exact ⟨false,wk At.Aa (p_8++[sb h18]) kr⟩
        ·cases h19:decide ((↑(List.map Se.cells a.sets).length:Int)<=8)
         ·exact ⟨false,wk At.Aa (p_8++[sg h18,sb h19]) kr⟩
         ·obtain ⟨b20,c20⟩:=hs
          exact ⟨b20,wk At.Aa (p_8++[sg h18,sg h19,sc c20]) kr⟩
       ·exact ⟨false,wk At.Aa (p_7++[sg h15,sc c16,sb h17]) kr⟩
      ·exact ⟨false,wk At.Aa (p_7++[sb h15]) kr⟩
     ·exact ⟨false,wk At.Aa (p_6++[sb h14]) kr⟩
    ·exact ⟨false,wk At.Aa (p_5++[sg h12,sg Zt,sb h13]) kr⟩
   ·exact ⟨false,wk At.Aa (p_5++[sb h12]) kr⟩
 ·exact ⟨false,wk At.Aa [sg Zf,sb h1] kr⟩
theorem zi7 (a:Ac) (hw:∃ b:Bool,zab E0 S.Ax [xsl a.wh] [] (bv b) []) (hi:∃ b:Bool,zab E0 S.Am [.agg (acc 3 a)] [] (bv b) []) (hs:∃ b:Bool,zab E0 S.AC [.sl (a.sets.map Se.cells)] [] (bv b) []):∃ (r:Bool),zab E0 S.Aa [.agg (acc 3 a)] [] (bv r) []:=by
 cases h1:!(3==5)==(ByteArray.toList a.table==Zs0.toList)
 ·cases h2:!ByteArray.toList a.table==Zs0.toList
  ·let p_1:List St:=[sg Zf,sg h1,sb h2,sg Zt]
   cases h3:!ByteArray.toList a.text==Zs0.toList
   ·let p_2:List St:=p_1++[sb h3,sg Zt,si (e:=IntKind.i64.wrap ((↑(List.map zaI a.rows).length:Int)+(↑(zam a.query).length:Int))) rfl]
    cases h4:decide (0 < IntKind.i64.wrap ((↑(List.map zaI a.rows).length:Int)+(↑(zam a.query).length:Int)))
    ·let p_3:List St:=p_2++[sg h4,sg Zt,sg Zt]
     cases h5:decide (0 < (↑(List.map Se.cells a.sets).length:Int))
     ·let p_4:List St:=p_3++[sg h5,sg Zt,sb Zf]
      cases h6:decide (1 < (↑(zad a.wh).length:Int))
      ·obtain ⟨b7,c7⟩:=hw
       cases h8:!b7
       ·exact ⟨true,wk At.Aa (p_4++[sg h6,sc c7,sb h8,sb Zf,sb Zf,sb Zt]) kr⟩
       ·exact ⟨false,wk At.Aa (p_4++[sg h6,sc c7,sb h8]) kr⟩
      ·exact ⟨false,wk At.Aa (p_4++[sb h6]) kr⟩
     ·exact ⟨false,wk At.Aa (p_3++[sb h5]) kr⟩
    ·exact ⟨false,wk At.Aa (p_2++[sb h4]) kr⟩
   ·exact ⟨false,wk At.Aa (p_1++[sb h3]) kr⟩
  ·obtain ⟨r9,c9⟩:=(zar a.table)
   let p_5:List St:=[sg Zf,sg h1,sg h2,sc c9]
   cases h10:!r9
   ·cases h11:!ByteArray.toList a.text==Zs0.toList
    ·let p_6:List St:=p_5++[sg h10,sg Zt,sb h11,sg Zt,si (e:=IntKind.i64.wrap ((↑(List.map zaI a.rows).length:Int)+(↑(zam a.query).length:Int))) rfl]
     cases h12:decide (0 < IntKind.i64.wrap ((↑(List.map zaI a.rows).length:Int)+(↑(zam a.query).length:Int)))
     ·let p_7:List St:=p_6++[sg h12,sg Zt,sg Zt]
      cases h13:decide (0 < (↑(List.map Se.cells a.sets).length:Int))
      ·let p_8:List St:=p_7++[sg h13,sg Zt,sb Zf]
       cases h14:decide (1 < (↑(zad a.wh).length:Int))
       ·obtain ⟨b15,c15⟩:=hw
        cases h16:!b15
        ·exact ⟨true,wk At.Aa (p_8++[sg h14,sc c15,sb h16,sb Zf,sb Zf,sb Zt]) kr⟩
        ·exact ⟨false,wk At.Aa (p_8++[sg h14,sc c15,sb h16]) kr⟩
       ·exact ⟨false,wk At.Aa (p_8++[sb h14]) kr⟩
      ·exact ⟨false,wk At.Aa (p_7++[sb h13]) kr⟩
     ·exact ⟨false,wk At.Aa (p_6++[sb h12]) kr⟩
    ·exact ⟨false,wk At.Aa (p_5++[sg h10,sg Zt,sb h11]) kr⟩
   ·exact ⟨false,wk At.Aa (p_5++[sb h10]) kr⟩
 ·exact ⟨false,wk At.Aa [sg Zf,sb h1] kr⟩
theorem zi8 (a:Ac) (hw:∃ b:Bool,zab E0 S.Ax [xsl a.wh] [] (bv b) []) (hi:∃ b:Bool,zab E0 S.Am [.agg (acc 4 a)] [] (bv b) []) (hs:∃ b:Bool,zab E0 S.AC [.sl (a.sets.map Se.cells)] [] (bv b) []):∃ (r:Bool),zab E0 S.Aa [.agg (acc 4 a)] [] (bv r) []:=by
 cases h1:!true==(ByteArray.toList a.table==Zs0.toList)
 ·cases h2:!ByteArray.toList a.table==Zs0.toList
  ·let p_1:List St:=[sb Zt,sg h1,sb h2,sb Zf,sg Zt,si (e:=IntKind.i64.wrap ((↑(List.map zaI a.rows).length:Int)+(↑(zam a.query).length:Int))) rfl]
   cases h3:decide (0 < IntKind.i64.wrap ((↑(List.map zaI a.rows).length:Int)+(↑(zam a.query).length:Int)))
   ·let p_2:List St:=p_1++[sg h3,sg Zt,sg Zt]
    cases h4:decide (0 < (↑(List.map Se.cells a.sets).length:Int))
    ·let p_3:List St:=p_2++[sg h4,sg Zt,sg Zt]
     cases h5:decide (0 < (↑(zad a.wh).length:Int))
     ·cases h6:decide (1 < (↑(zad a.wh).length:Int))
      ·obtain ⟨b7,c7⟩:=hw
       cases h8:!b7
       ·obtain ⟨r9,c9⟩:=(zdB (V.mk 3 0 a.text))
        exact ⟨r9,wk At.Aa (p_3++[sb h5,sg h6,sc c7,sb h8,sb Zf,sb Zf,sb Zf,sb Zt,sc c9]) kr⟩
       ·exact ⟨false,wk At.Aa (p_3++[sb h5,sg h6,sc c7,sb h8]) kr⟩
      ·exact ⟨false,wk At.Aa (p_3++[sb h5,sb h6]) kr⟩
     ·exact ⟨false,wk At.Aa (p_3++[sb h5]) kr⟩
    ·exact ⟨false,wk At.Aa (p_2++[sb h4]) kr⟩
   ·exact ⟨false,wk At.Aa (p_1++[sb h3]) kr⟩
  ·obtain ⟨r10,c10⟩:=(zar a.table)
   let p_4:List St:=[sb Zt,sg h1,sg h2,sc c10]
   cases h11:!r10
   ·let p_5:List St:=p_4++[sg h11,sb Zf,sg Zt,si (e:=IntKind.i64.wrap ((↑(List.map zaI a.rows).length:Int)+(↑(zam a.query).length:Int))) rfl]
    cases h12:decide (0 < IntKind.i64.wrap ((↑(List.map zaI a.rows).length:Int)+(↑(zam a.query).length:Int)))
    ·let p_6:List St:=p_5++[sg h12,sg Zt,sg Zt]
     cases h13:decide (0 < (↑(List.map Se.cells a.sets).length:Int))
     ·let p_7:List St:=p_6++[sg h13,sg Zt,sg Zt]
      cases h14:decide (0 < (↑(zad a.wh).length:Int))
      ·cases h15:decide (1 < (↑(zad a.wh).length:Int))
       ·obtain ⟨b16,c16⟩:=hw
        cases h17:!b16
        ·obtain ⟨r18,c18⟩:=(zdB (V.mk 3 0 a.text))
         exact ⟨r18,wk At.Aa (p_7++[sb h14,sg h15,sc c16,sb h17,sb Zf,sb Zf,sb Zf,sb Zt,sc c18]) kr⟩
        ·exact ⟨false,wk At.Aa (p_7++[sb h14,sg h15,sc c16,sb h17]) kr⟩
       ·exact ⟨false,wk At.Aa (p_7++[sb h14,sb h15]) kr⟩
      ·exact ⟨false,wk At.Aa (p_7++[sb h14]) kr⟩
     ·exact ⟨false,wk At.Aa (p_6++[sb h13]) kr⟩
    ·exact ⟨false,wk At.Aa (p_5++[sb h12]) kr⟩
   ·exact ⟨false,wk At.Aa (p_4++[sb h11]) kr⟩
 ·exact ⟨false,wk At.Aa [sb Zt,sb h1] kr⟩
theorem zi9 (a:Ac) (hw:∃ b:Bool,zab E0 S.Ax [xsl a.wh] [] (bv b) []) (hi:∃ b:Bool,zab E0 S.Am [.agg (acc 5 a)] [] (bv b) []) (hs:∃ b:Bool,zab E0 S.AC [.sl (a.sets.map Se.cells)] [] (bv b) []):∃ (r:Bool),zab E0 S.Aa [.agg (acc 5 a)] [] (bv r) []:=by
 cases h1:!(5==5)==(ByteArray.toList a.table==Zs0.toList)
 ·cases h2:!ByteArray.toList a.table==Zs0.toList
  ·let p_1:List St:=[sg Zf,sg h1,sb h2,sg Zt]
   cases h3:!ByteArray.toList a.text==Zs0.toList
   ·let p_2:List St:=p_1++[sb h3,sg Zt,si (e:=IntKind.i64.wrap ((↑(List.map zaI a.rows).length:Int)+(↑(zam a.query).length:Int))) rfl]
    cases h4:decide (0 < IntKind.i64.wrap ((↑(List.map zaI a.rows).length:Int)+(↑(zam a.query).length:Int)))
    ·let p_3:List St:=p_2++[sg h4,sg Zt,sb Zf,sg Zt,sg Zt]
     cases h5:decide (0 < (↑(zad a.wh).length:Int))
     ·cases h6:decide (1 < (↑(zad a.wh).length:Int))
      ·obtain ⟨b7,c7⟩:=hw
       cases h8:!b7
       ·let p_4:List St:=p_3++[sb h5,sg h6,sc c7,sb h8,sb Zf,sb Zf,sb Zf,sb Zf,sb Zt]
        cases h9:(↑(List.map Se.cells a.sets).length:Int)==1
        ·exact ⟨false,wk At.Aa (p_4++[sb h9]) kr⟩
        ·obtain ⟨b10,c10⟩:=hs
         exact ⟨b10,wk At.Aa (p_4++[sg h9,sc c10]) kr⟩
       ·exact ⟨false,wk At.Aa (p_3++[sb h5,sg h6,sc c7,sb h8]) kr⟩
      ·exact ⟨false,wk At.Aa (p_3++[sb h5,sb h6]) kr⟩
     ·exact ⟨false,wk At.Aa (p_3++[sb h5]) kr⟩
    ·exact ⟨false,wk At.Aa (p_2++[sb h4]) kr⟩
   ·exact ⟨false,wk At.Aa (p_1++[sb h3]) kr⟩
  ·obtain ⟨r11,c11⟩:=(zar a.table)
   let p_5:List St:=[sg Zf,sg h1,sg h2,sc c11]
   cases h12:!r11
   ·cases h13:!ByteArray.toList a.text==Zs0.toList
    ·let p_6:List St:=p_5++[sg h12,sg Zt,sb h13,sg Zt,si (e:=IntKind.i64.wrap ((↑(List.map zaI a.rows).length:Int)+(↑(zam a.query).length:Int))) rfl]
     cases h14:decide (0 < IntKind.i64.wrap ((↑(List.map zaI a.rows).length:Int)+(↑(zam a.query).length:Int)))
     ·let p_7:List St:=p_6++[sg h14,sg Zt,sb Zf,sg Zt,sg Zt]
      cases h15:decide (0 < (↑(zad a.wh).length:Int))
      ·cases h16:decide (1 < (↑(zad a.wh).length:Int))
       ·obtain ⟨b17,c17⟩:=hw
        cases h18:!b17
        ·let p_8:List St:=p_7++[sb h15,sg h16,sc c17,sb h18,sb Zf,sb Zf,sb Zf,sb Zf,sb Zt]
         cases h19:(↑(List.map Se.cells a.sets).length:Int)==1
         ·exact ⟨false,wk At.Aa (p_8++[sb h19]) kr⟩
         ·obtain ⟨b20,c20⟩:=hs
          exact ⟨b20,wk At.Aa (p_8++[sg h19,sc c20]) kr⟩
        ·exact ⟨false,wk At.Aa (p_7++[sb h15,sg h16,sc c17,sb h18]) kr⟩
       ·exact ⟨false,wk At.Aa (p_7++[sb h15,sb h16]) kr⟩
      ·exact ⟨false,wk At.Aa (p_7++[sb h15]) kr⟩
     ·exact ⟨false,wk At.Aa (p_6++[sb h14]) kr⟩
    ·exact ⟨false,wk At.Aa (p_5++[sg h12,sg Zt,sb h13]) kr⟩
   ·exact ⟨false,wk At.Aa (p_5++[sb h12]) kr⟩
 ·exact ⟨false,wk At.Aa [sg Zf,sb h1] kr⟩
theorem zi4 (a:Ac) (n1:(a.kind==1)=false) (n2:(a.kind==2)=false) (n3:(a.kind==3)=false) (n4:(a.kind==4)=false) (n5:(a.kind==5)=false) (m1:(a.kind != 1)=true) (m2:(a.kind != 2)=true) (m3:(a.kind != 3)=true) (m4:(a.kind != 4)=true) (m5:(a.kind != 5)=true) (hw:∃ b:Bool,zab E0 S.Ax [xsl a.wh] [] (bv b) []):∃ (r:Bool),zab E0 S.Aa [a.av] [] (bv r) []:=by
 cases h1:!(a.kind==5)==(ByteArray.toList a.table==Zs0.toList)
 ·cases h2:!ByteArray.toList a.table==Zs0.toList
  ·cases h3:!ByteArray.toList a.text==Zs0.toList
   ·let p_1:List St:=[sg n4,sg h1,sb h2,sg m4,sb h3,sg m1,si (e:=IntKind.i64.wrap ((↑(List.map (fun r=>[AV.sl (zad r)]) a.rows).length:Int)+(↑(zam a.query).length:Int))) rfl]
    cases h4:decide (0 < IntKind.i64.wrap ((↑(List.map (fun r=>[AV.sl (zad r)]) a.rows).length:Int)+(↑(zam a.query).length:Int)))
    ·cases h5:decide (0 < (↑(List.map Se.cells a.sets).length:Int))
     ·let p_2:List St:=p_1++[sg h4,sg m2,sg m5,sg h5,sg m2,sg m3]
      cases h6:decide (0 < (↑(zad a.wh).length:Int))
      ·cases h7:decide (1 < (↑(zad a.wh).length:Int))
       ·obtain ⟨b8,c8⟩:=hw
        cases h9:!b8
        ·exact ⟨false,wk At.Aa (p_2++[sb h6,sg h7,sc c8,sb h9,sb n1,sb n2,sb n3,sb n4,sb n5]) kr⟩
        ·exact ⟨false,wk At.Aa (p_2++[sb h6,sg h7,sc c8,sb h9]) kr⟩
       ·exact ⟨false,wk At.Aa (p_2++[sb h6,sb h7]) kr⟩
      ·exact ⟨false,wk At.Aa (p_2++[sb h6]) kr⟩
     ·exact ⟨false,wk At.Aa (p_1++[sg h4,sg m2,sg m5,sb h5]) kr⟩
    ·exact ⟨false,wk At.Aa (p_1++[sb h4]) kr⟩
   ·exact ⟨false,wk At.Aa [sg n4,sg h1,sb h2,sg m4,sb h3] kr⟩
  ·obtain ⟨r10,c10⟩:=(zar a.table)
   cases h11:!r10
   ·let p_3:List St:=[sg n4,sg h1,sg h2,sc c10,sg h11,sg m4]
    cases h12:!ByteArray.toList a.text==Zs0.toList
    ·let p_4:List St:=p_3++[sb h12,sg m1,si (e:=IntKind.i64.wrap ((↑(List.map (fun r=>[AV.sl (zad r)]) a.rows).length:Int)+(↑(zam a.query).length:Int))) rfl]
     cases h13:decide (0 < IntKind.i64.wrap ((↑(List.map (fun r=>[AV.sl (zad r)]) a.rows).length:Int)+(↑(zam a.query).length:Int)))
     ·cases h14:decide (0 < (↑(List.map Se.cells a.sets).length:Int))
      ·let p_5:List St:=p_4++[sg h13,sg m2,sg m5,sg h14,sg m2,sg m3]
       cases h15:decide (0 < (↑(zad a.wh).length:Int))
       ·cases h16:decide (1 < (↑(zad a.wh).length:Int))
        ·obtain ⟨b17,c17⟩:=hw
         cases h18:!b17
         ·exact ⟨false,wk At.Aa (p_5++[sb h15,sg h16,sc c17,sb h18,sb n1,sb n2,sb n3,sb n4,sb n5]) kr⟩
         ·exact ⟨false,wk At.Aa (p_5++[sb h15,sg h16,sc c17,sb h18]) kr⟩
        ·exact ⟨false,wk At.Aa (p_5++[sb h15,sb h16]) kr⟩
       ·exact ⟨false,wk At.Aa (p_5++[sb h15]) kr⟩
      ·exact ⟨false,wk At.Aa (p_4++[sg h13,sg m2,sg m5,sb h14]) kr⟩
     ·exact ⟨false,wk At.Aa (p_4++[sb h13]) kr⟩
    ·exact ⟨false,wk At.Aa (p_3++[sb h12]) kr⟩
   ·exact ⟨false,wk At.Aa [sg n4,sg h1,sg h2,sc c10,sb h11] kr⟩
 ·exact ⟨false,wk At.Aa [sg n4,sb h1] kr⟩
theorem zmc (a:Ac) (hw:∃ b:Bool,zab E0 S.Ax [xsl a.wh] [] (bv b) []) (hi:∃ b:Bool,zab E0 S.Am [a.av] [] (bv b) []) (hs:∃ b:Bool,zab E0 S.AC [.sl (a.sets.map Se.cells)] [] (bv b) []):∃ (r:Bool),zab E0 S.Aa [a.av] [] (bv r) []:=by
 cases a with
 | mk k tb rows query sets wh text =>
  by_cases h1:k=1
  ·subst h1;exact zi5 _ hw hi hs
  by_cases h2:k=2
  ·subst h2;exact zi6 _ hw hi hs
  by_cases h3:k=3
  ·subst h3;exact zi7 _ hw hi hs
  by_cases h4:k=4
  ·subst h4;exact zi8 _ hw hi hs
  by_cases h5:k=5
  ·subst h5;exact zi9 _ hw hi hs
  exact zi4 _ (by simp [h1]) (by simp [h2]) (by simp [h3]) (by simp [h4]) (by simp [h5]) (by simp [h1]) (by simp [h2]) (by simp [h3]) (by simp [h4]) (by simp [h5]) hw
noncomputable def zwk (t:Tg) (i:Nat) :Cfg:=zai B.Ae 1 [(1,.p 0 0),(112,.sl (t.acts.map Ac.cells)),(113,iv ((t.acts.map Ac.cells).length:Nat)),(114,iv (i:Nat))] [.box t.cells]
theorem zfR (t:Tg) (h5:zac t.acts) (ha:∀ a∈t.acts,∃ b:Bool,zab E0 S.Aa [a.av] [] (bv b) []) (i:Nat)  (hi:i<=(t.acts).length) (hI:True):((True)/\(decide ((((t.acts).length:Nat):Int) < (((t.acts.map Ac.cells).length:Nat):Int))=false)/\∀ R,Good E0 B.Ae [] (zwk t (t.acts).length ) R->Good E0 B.Ae [] (zwk t i ) R)\/(∃ (r:Bool),Good E0 B.Ae [] (zwk t i ) (Shut 0 fun rZ hZ=>rZ=(bv r)/\hZ=[])):=by
 have hk:=hi;revert i hI;refine zlp ((t.acts).length) (fun i hlt ih hi hI _=>?_)
 obtain ⟨x,hx,h0,hw⟩:=zlq (l:=t.acts) ((t.acts.map Ac.cells).length) hlt ziH
 have hxa:=ha x (yC hx)
 obtain ⟨b1,c1⟩:=hxa
 let p_1:List St:=[sb h0,se (zaf Ac.cells hx rfl),sc c1]
 cases h2:!b1
 ·cases h3:t.before
  ·cases h4:x.kind==5
   ·exact zie1 (ih Zo zcU Zo) fun R gY=>zaa (wkl (p_1++[sg h2,sb h3,sb h4,si hw]) [1,112,113,114] 1 kr gY)
   ·exact .inr ⟨false,zaa (wkr (p_1++[sg h2,sb h3,sg h4,sb (congrArg Bool.not h3)]) kr)⟩
  ·cases h5:x.kind != 4
   ·cases h6:x.kind==5
    ·exact zie1 (ih Zo zcU Zo) fun R gY=>zaa (wkl (p_1++[sg h2,sg h3,sb h5,sb h6,si hw]) [1,112,113,114] 1 kr gY)
    ·let p_3:List St:=p_1++[sg h2,sg h3,sb h5,sg h6,sg (congrArg Bool.not h3)]
     cases h7:!t.each
     ·cases h8:t.event==3
      ·exact zie1 (ih Zo zcU Zo) fun R gY=>zaa (wkl (p_3++[sg h7,sb h8,si hw]) [1,112,113,114] 1 kr gY)
      ·exact .inr ⟨false,zaa (wkr (p_3++[sg h7,sb h8]) kr)⟩
     ·exact .inr ⟨false,zaa (wkr (p_3++[sb h7]) kr)⟩
   ·cases h9:!x.kind==5
    ·let p_4:List St:=p_1++[sg h2,sg h3,sg h5,sg h9,sg (zzD h9),sg (congrArg Bool.not h3)]
     cases h10:!t.each
     ·cases h11:t.event==3
      ·exact zie1 (ih Zo zcU Zo) fun R gY=>zaa (wkl (p_4++[sg h10,sb h11,si hw]) [1,112,113,114] 1 kr gY)
      ·exact .inr ⟨false,zaa (wkr (p_4++[sg h10,sb h11]) kr)⟩
     ·exact .inr ⟨false,zaa (wkr (p_4++[sb h10]) kr)⟩
    ·exact .inr ⟨false,zaa (wkr (p_1++[sg h2,sg h3,sg h5,sb h9]) kr)⟩
 ·exact .inr ⟨false,zaa (wkr (p_1++[sb h2]) kr)⟩
noncomputable def zr1 (t:Tg) (i:Nat) :Cfg:=zai B.Ae 0 [(1,.p 0 0),(84,.sl (t.rank.map Rk.cells)),(85,iv ((t.rank.map Rk.cells).length:Nat)),(86,iv (i:Nat))] [.box t.cells]
theorem zfS (t:Tg) (h4:zac t.rank) (i:Nat)  (hi:i<=(t.rank).length) (hI:True):((True)/\(decide ((((t.rank).length:Nat):Int) < (((t.rank.map Rk.cells).length:Nat):Int))=false)/\∀ R,Good E0 B.Ae [] (zr1 t (t.rank).length ) R->Good E0 B.Ae [] (zr1 t i ) R)\/(∃ (r:Bool),Good E0 B.Ae [] (zr1 t i ) (Shut 0 fun rZ hZ=>rZ=(bv r)/\hZ=[])):=by
 have hk:=hi;revert i hI;refine zlp ((t.rank).length) (fun i hlt ih hi hI _=>?_)
 obtain ⟨x,hx,h0,hw⟩:=zlq (l:=t.rank) ((t.rank.map Rk.cells).length) hlt ziH
 obtain ⟨r1,c1⟩:=(zar x.table)
 let p_1:List St:=[sb h0,se (zaf Rk.cells hx rfl),sc c1]
 cases h2:!r1
 ·obtain ⟨r3,c3⟩:=(zar x.col)
  cases h4:!r3
  ·cases h5:x.low==-9223372036854775808
   ·cases h6:x.high==-9223372036854775808
    ·exact zie1 (ih Zo zcU Zo) fun R gY=>zaa (wkl (p_1++[sg h2,sc c3,sg h4,sg h5,sb h6,si hw]) [1,84,85,86] 1 kr gY)
    ·exact .inr ⟨false,zaa (wkr (p_1++[sg h2,sc c3,sg h4,sg h5,sb h6]) kr)⟩
   ·exact .inr ⟨false,zaa (wkr (p_1++[sg h2,sc c3,sg h4,sb h5]) kr)⟩
  ·exact .inr ⟨false,zaa (wkr (p_1++[sg h2,sc c3,sb h4]) kr)⟩
 ·exact .inr ⟨false,zaa (wkr (p_1++[sb h2]) kr)⟩
theorem zbF (t:Tg) (ha:∀ a∈t.acts,∃ b:Bool,zab E0 S.Aa [a.av] [] (bv b) []) (hsr:zac t.rank) (hsa:zac t.acts):∃ (r:Bool),Good E0 B.Ae [] (zr1 t 0) (Shut 0 fun rZ hZ=>rZ=(bv r)/\hZ=[]):=by
  rcases zfS t zay 0 zay zay with ⟨q1,q1_1,g1⟩|⟨r1_0,g1⟩
  ·rcases zfR t zay zay 0 zay zay with ⟨q2,q2_1,g2⟩|⟨r2_0,g2⟩
   ·cases h3:decide (1<=(↑(List.map Ac.cells t.acts).length:Int))
    ·exact ⟨false,wkl [] [1,84,85,86] 1 kr (g1 _ (zaa (wkl [sb q1_1] [1,112,113,114] 1 kr (g2 _ (zaa (wkr [sb q2_1,sb h3] kr))))))⟩
    ·exact ⟨decide ((↑(List.map Ac.cells t.acts).length:Int)<=(4:Int)),wkl [] [1,84,85,86] 1 kr (g1 _ (zaa (wkl [sb q1_1] [1,112,113,114] 1 kr (g2 _ (zaa (wkr [sb q2_1,sg h3] kr))))))⟩
   ·exact ⟨r2_0,wkl [] [1,84,85,86] 1 kr (g1 _ (zaa (wkl [sb q1_1] [1,112,113,114] 1 kr g2)))⟩
  ·exact ⟨r1_0,wkl [] [1,84,85,86] 1 kr (g1)⟩
theorem zln (t:Tg) (hw:∃ b:Bool,zab E0 S.Ax [xsl t.when_] [] (bv b) []) (ha:∀ a∈t.acts,∃ b:Bool,zab E0 S.Aa [a.av] [] (bv b) []) (h1:zac t.of) (h2:zac t.prec) (h3:zac t.foll) (h4:zac t.rank) (h5:zac t.acts):∃ (r:Bool),zab E0 S.Ae [t.av] [] (bv r) []:=by
 obtain ⟨r1,c1⟩:=(zar t.name)
 cases h2:!r1
 ·obtain ⟨r3,c3⟩:=(zar t.table)
  cases h4:!r3
  ·cases h5:decide (t.event < 1)
   ·cases h6:decide (3 < t.event)
    ·let p_1:List St:=[sc c1,sg h2,sc c3,sg h4,sg h5,sg h6]
     cases h7:t.event != 2
     ·obtain ⟨r8,c8⟩:=(zdd t.of zay)
      cases h9:!r8
      ·obtain ⟨r10,c10⟩:=(zdd t.prec zay)
       cases h11:!r10
       ·obtain ⟨r12,c12⟩:=(zdd t.foll zay)
        let p_2:List St:=p_1++[sb h7,sc c8,sg h9,sc c10,sg h11,sc c12]
        cases h13:!r12
        ·cases h14:decide (1 < (↑(List.map Rk.cells t.rank).length:Int))
         ·cases h15:t.before
          ·cases h16:decide (1 < (↑(zad t.when_).length:Int))
           ·obtain ⟨b17,c17⟩:=hw
            let p_3:List St:=p_2++[sg h13,sg h14,sb h15,sg h16,sc c17]
            cases h18:!b17
            ·obtain ⟨r19_0,g19⟩:=zbF t zay zay zay
             exact ⟨r19_0,wkc At.Ae (p_3++[sb h18]) [1,84,85,86] 1 kr (g19)⟩
            ·exact ⟨false,wk At.Ae (p_3++[sb h18]) kr⟩
           ·exact ⟨false,wk At.Ae (p_2++[sg h13,sg h14,sb h15,sb h16]) kr⟩
          ·cases h20:decide (0 < (↑(List.map Rk.cells t.rank).length:Int))
           ·cases h21:decide (1 < (↑(zad t.when_).length:Int))
            ·obtain ⟨b22,c22⟩:=hw
             let p_4:List St:=p_2++[sg h13,sg h14,sg h15,sg h20,sg h21,sc c22]
             cases h23:!b22
             ·obtain ⟨r24_0,g24⟩:=zbF t zay zay zay
              exact ⟨r24_0,wkc At.Ae (p_4++[sb h23]) [1,84,85,86] 1 kr (g24)⟩
             ·exact ⟨false,wk At.Ae (p_4++[sb h23]) kr⟩
            ·exact ⟨false,wk At.Ae (p_2++[sg h13,sg h14,sg h15,sg h20,sb h21]) kr⟩
           ·exact ⟨false,wk At.Ae (p_2++[sg h13,sg h14,sg h15,sb h20]) kr⟩
         ·exact ⟨false,wk At.Ae (p_2++[sg h13,sb h14]) kr⟩
        ·exact ⟨false,wk At.Ae (p_2++[sb h13]) kr⟩
       ·exact ⟨false,wk At.Ae (p_1++[sb h7,sc c8,sg h9,sc c10,sb h11]) kr⟩
      ·exact ⟨false,wk At.Ae (p_1++[sb h7,sc c8,sb h9]) kr⟩
     ·cases h25:decide (0 < (↑(List.map (fun s=>[sv s]) t.of).length:Int))
      ·obtain ⟨r26,c26⟩:=(zdd t.of zay)
       cases h27:!r26
       ·obtain ⟨r28,c28⟩:=(zdd t.prec zay)
        cases h29:!r28
        ·obtain ⟨r30,c30⟩:=(zdd t.foll zay)
         let p_5:List St:=p_1++[sg h7,sb h25,sc c26,sg h27,sc c28,sg h29,sc c30]
         cases h31:!r30
         ·cases h32:decide (1 < (↑(List.map Rk.cells t.rank).length:Int))
          ·cases h33:t.before
           ·cases h34:decide (1 < (↑(zad t.when_).length:Int))
            ·obtain ⟨b35,c35⟩:=hw
             let p_6:List St:=p_5++[sg h31,sg h32,sb h33,sg h34,sc c35]
             cases h36:!b35
             ·obtain ⟨r37_0,g37⟩:=zbF t zay zay zay
              exact ⟨r37_0,wkc At.Ae (p_6++[sb h36]) [1,84,85,86] 1 kr (g37)⟩
             ·exact ⟨false,wk At.Ae (p_6++[sb h36]) kr⟩
            ·exact ⟨false,wk At.Ae (p_5++[sg h31,sg h32,sb h33,sb h34]) kr⟩
           ·cases h38:decide (0 < (↑(List.map Rk.cells t.rank).length:Int))
            ·cases h39:decide (1 < (↑(zad t.when_).length:Int))
             ·obtain ⟨b40,c40⟩:=hw
              let p_7:List St:=p_5++[sg h31,sg h32,sg h33,sg h38,sg h39,sc c40]
              cases h41:!b40
              ·obtain ⟨r42_0,g42⟩:=zbF t zay zay zay
               exact ⟨r42_0,wkc At.Ae (p_7++[sb h41]) [1,84,85,86] 1 kr (g42)⟩
              ·exact ⟨false,wk At.Ae (p_7++[sb h41]) kr⟩
             ·exact ⟨false,wk At.Ae (p_5++[sg h31,sg h32,sg h33,sg h38,sb h39]) kr⟩
            ·exact ⟨false,wk At.Ae (p_5++[sg h31,sg h32,sg h33,sb h38]) kr⟩
          ·exact ⟨false,wk At.Ae (p_5++[sg h31,sb h32]) kr⟩
         ·exact ⟨false,wk At.Ae (p_5++[sb h31]) kr⟩
        ·exact ⟨false,wk At.Ae (p_1++[sg h7,sb h25,sc c26,sg h27,sc c28,sb h29]) kr⟩
       ·exact ⟨false,wk At.Ae (p_1++[sg h7,sb h25,sc c26,sb h27]) kr⟩
      ·exact ⟨false,wk At.Ae (p_1++[sg h7,sb h25]) kr⟩
    ·exact ⟨false,wk At.Ae [sc c1,sg h2,sc c3,sg h4,sg h5,sb h6] kr⟩
   ·exact ⟨false,wk At.Ae [sc c1,sg h2,sc c3,sg h4,sb h5] kr⟩
  ·exact ⟨false,wk At.Ae [sc c1,sg h2,sc c3,sb h4] kr⟩
 ·exact ⟨false,wk At.Ae [sc c1,sb h2] kr⟩
theorem vaOk {n:Nat} {a:Ac} (h:AcOk n a):∃ b:Bool,zab E0 S.Aa [a.av] [] (bv b) [] :=
 zmc a (vlOk h.wh h.w) (zmd a (zaE h.rows) (fun r hr=>vlOk (h.row r hr).1 (h.row r hr).2) fun q hq=>vqOk (h.qs q hq)) (znS _ (zaE h.sets) fun s hs=>vxOk n _ (h.set s hs))
theorem vtOk {n:Nat} {t:Tg} (h:TgOk n t):∃ b:Bool,zab E0 S.Ae [t.av] [] (bv b) [] :=
 zln t (vlOk h.whens h.when_) (fun a ha=>vaOk (h.act a ha)) (zaE h.of) (zaE h.prec) (zaE h.foll) (zaE h.rank) (zaE h.acts)
theorem zch {p:Prop} (h:p:=by first|assumption|omega|(simp;done)|(simp;omega)):p:=h
theorem zkG {p:Prop} (h:p:=by first|(simp;done)|(simp;exact ⟨_,rfl⟩)|(simp;exact ⟨⟨_,rfl⟩,⟨_,rfl⟩⟩)):p:=h
theorem zkH {p:Prop} (h:p:=by first|assumption|(simp [zac];done)|(simp only [zac] at *;omega)):p:=h
theorem ztK {p:Prop} (h:p:=by first|trivial|assumption|(simp;done)|omega|(simp;omega)|(simp at *;omega)):p:=h
theorem zpF {p:Prop} (h:p:=by first|omega|(simp only [zac,Few] at *;omega)):p:=h
noncomputable def L_fd (s:Sch) (n:Str) (i:Nat) :Cfg:=zai B.Bo 0 [(1,sv n),(8,.sl (s.cols.map Col.cells)),(9,iv ((s.cols.map Col.cells).length:Nat)),(10,iv (i:Nat))] [.box s.cells]
theorem zlV (s:Sch) (n:Str) (h:zac s.cols) (i:Nat)  (hi:i<=(s.cols).length) (hI:True):((True)/\(decide ((((s.cols).length:Nat):Int) < (((s.cols.map Col.cells).length:Nat):Int))=false)/\∀ R,Good E0 B.Bo [] (L_fd s n (s.cols).length ) R->Good E0 B.Bo [] (L_fd s n i ) R)\/(∃ (r:Int),(-1<=r/\r < s.cols.length)/\Good E0 B.Bo [] (L_fd s n i ) (Shut 0 fun rZ hZ=>rZ=(iv r)/\hZ=[])):=by
 have hk:=hi;revert i hI;refine zlp ((s.cols).length) (fun i hlt ih hi hI _=>?_)
 obtain ⟨x,hx,h0,hw⟩:=zlq (l:=s.cols) ((s.cols.map Col.cells).length) hlt zpF
 let p_1:List St:=[sb h0,se (zaf Col.cells hx rfl)]
 cases h1:ByteArray.toList x.name==ByteArray.toList n
 ·exact zie2 (ih Zo ztK Zo) fun R gY=>zaa (wkl (p_1++[sb h1,si hw]) [1,8,9,10] 1 kr gY)
 ·exact .inr ⟨(i:Int),(by (have:=(yB.mp hx).1;omega)),zaa (wkr (p_1++[sb h1]) kr)⟩
theorem zd8 (s:Sch) (n:Str) (h:zac s.cols):∃ (r:Int),(-1<=r/\r < s.cols.length)/\zab E0 S.Bo [s.av,sv n] [] (iv r) []:=by
 rcases zlV s n zch 0 zch zch with ⟨q1,q1_1,g1⟩|⟨r1_0,p1_0,g1⟩
 ·exact ⟨-1,Zb,wkc At.Bo [] [1,8,9,10] 1 kr (g1 _ (zaa (wkr [sb q1_1] kr)))⟩
 ·exact ⟨r1_0,Zb,wkc At.Bo [] [1,8,9,10] 1 kr (g1)⟩
noncomputable def L_cr0 :Cfg:=zai B.Cc 0 [(3,.nl),(6,.sl []),(7,iv 0),(8,iv 0)] []
theorem zhr :True/\∀ R,Good E0 B.Cc [] (L_cr0 ) R->Good E0 B.Cc [] (L_cr0 ) R:=⟨trivial,fun _ h=>h⟩
theorem zof (_u:Unit) :∃ (r:List Rw),r=[]/\zab E0 S.Cc [.sl []] [] (.sl (r.map Rw.cells)) []:=by
 obtain ⟨q1,g1⟩:=zhr
 exact ⟨[],(by first|assumption|trivial|(simp;done)|omega|(simp;omega)|(simp at *;omega)),wkc At.Cc [] [3,6,7,8] 0 kr (g1 _ (zaa (wkr [sb Zf] kr)))⟩
theorem zor:zab E0 S.Cc [.sl []] [] (.sl []) []:=by
 obtain ⟨r,rfl,h⟩:=zof ()
 exact h
def Col.tr (c:Col):Col:=⟨c.name,c.type,false,false⟩
def trTb (n:Str) (s:Sch):Tb:=⟨⟨n,s.cols.map Col.tr⟩,1,[]⟩
noncomputable def L_tr (n:Str) (s:Sch) (i:Nat) (cs:List Col):Cfg:=zai B.BW 0 [(2,.sl []),(6,.p 1 0),(7,.p 2 0),(16,.sl (s.cols.map Col.cells)),(17,iv ((s.cols.map Col.cells).length:Nat)),(18,iv (i:Nat))] [.box s.cells,.box [sv ⟨#[]⟩,.nl,iv 0,.nl],.box [sv n,.own 3 cs.length,iv 1,.sl []],.row Ty.Column (cs.map Col.cells) false]
theorem Zcv2 {p:Prop} (h:p:=by first|rfl|(simp;done)|(simp [X.cells,Qy.cells,V.cells,Col.cells,Rw.cells,Tb.cells,Fr.cells,Sch.cells,Tp.cells,Pl.cells,xCol,xLit,xBin,xNeg,Im.cells,Lk.cells,Ac.cells,Se.cells,Tg.cells,Rk.cells];done)):p:=h
theorem zhh (n:Str) (s:Sch) (h:zac s.cols) (i:Nat) (cs:List Col) (hi:i<=(s.cols).length) (hI:cs=(s.cols.take i).map Col.tr):∃ (cs':List Col),(cs'=(s.cols.take (s.cols).length).map Col.tr)/\(decide ((((s.cols).length:Nat):Int) < (((s.cols.map Col.cells).length:Nat):Int))=false)/\∀ R,Good E0 B.BW [] (L_tr n s (s.cols).length cs') R->Good E0 B.BW [] (L_tr n s i cs) R:=by
 have hk:=hi;revert i cs;refine zlp ((s.cols).length) (fun i hlt ih cs hi hI _=>?_)
 obtain ⟨x,hx,h0,hw⟩:=zlq (l:=s.cols) ((s.cols.map Col.cells).length) hlt zpF
 have hcl:cs.length<=1000000000:=by rw [hI];simp only [zac,yG,yV] at *;omega
 exact Zih (ih (cs++[Col.mk x.name x.type false false]) Zo (by first|(simp [hI,yP,hx,Col.tr];done)|(simp;done)) Zo) fun R gY=>zaa (wkl [sb h0,se (zaf Col.cells hx rfl),sqA (List.map Col.cells cs) [[sv x.name,iv x.type,bv false,bv false]] cs.length 4 32,si hw] [2,6,7,16,17,18] 4 kr (zas (show ([(2,AV.sl []),(6,AV.p 1 0),(7,AV.p 2 0),(16,ZC s.cols),(17,iv (↑(List.map Col.cells s.cols).length:Int)),(18,iv (↑(i+1):Int))]:TS)=[(2,AV.sl []),(6,AV.p 1 0),(7,AV.p 2 0),(16,ZC s.cols),(17,iv (↑(List.map Col.cells s.cols).length:Int)),(18,iv (↑(i+1):Int))] from Zcv2) (show ([Blk.box s.cells,Blk.box [sv Zs0,AV.nl,iv 0,AV.nl],Blk.box [sv n,AV.own 3 (List.map Col.cells cs++[[sv x.name,iv x.type,bv false,bv false]]).length,iv 1,AV.sl []],Blk.row Ty.Column (List.map Col.cells cs++[[sv x.name,iv x.type,bv false,bv false]]) false]:Heap)=[Blk.box s.cells,Blk.box [sv Zs0,AV.nl,iv 0,AV.nl],Blk.box [sv n,AV.own 3 (cs++[Col.mk x.name x.type false false]).length,iv 1,AV.sl []],Blk.row Ty.Column (List.map Col.cells (cs++[Col.mk x.name x.type false false])) false] from Zcv2) gY))
theorem zmx (n:Str) (s:Sch) (h:zac s.cols):∃ (r:Tb),r=trTb n s/\zab E0 S.BW [sv n,s.av,.sl []] [] r.av []:=by
 obtain ⟨cs1,q1,q1_1,g1⟩:=zhh n s zch 0 ([]) zch zch
 exact ⟨Tb.mk (Sch.mk n cs1) 1 [],(by (subst_vars;simp [trTb])),wkcN At.BW [sc zor] [2,6,7,16,17,18] 3 [(.ob 2 1 Ty.Column,4)] kr (g1 _ (zaa (wkr [sqx (True/\cs1.length=(List.map Col.cells cs1).length/\True/\True/\True),sb q1_1,sb Zf] kr)))⟩
theorem zdf (n:Str) (s:Sch) (h:zac s.cols):zab E0 S.BW [sv n,s.av,.sl []] [] (trTb n s).av []:=by
 obtain ⟨r,rfl,h⟩:=zmx n s h
 exact h
noncomputable def L_tr0 (t:Tg) (s:Sch):Cfg:=zai B.AT 0 [(3,.p 0 0),(4,.p 1 0),(5,.p 2 0),(7,.nl),(8,.nl),(18,.sl []),(19,iv 0),(20,iv 0)] [.box t.cells,.box s.cells,.box [sv ⟨#[]⟩,.sl [],.sl [],.sl []]]
theorem zgf (t:Tg) (s:Sch):True/\∀ R,Good E0 B.AT [] (L_tr0 t s) R->Good E0 B.AT [] (L_tr0 t s) R:=⟨trivial,fun _ h=>h⟩
theorem zgn (t:Tg) (s:Sch) (h:zac s.cols):∃ (r:List Tb),(r.length<=2/\∀ x∈r,∃ n,x=trTb n s)/\zab E0 S.AT [t.av,s.av,.agg [sv ⟨#[]⟩,.sl [],.sl [],.sl []]] [] (tsl r) []:=by
 cases h1:t.before
 ·cases h2:t.each
  ·obtain ⟨q3,g3⟩:=zgf t (s)
   cases h4:t.event==1
   ·cases h5:t.event==3
    ·let p_1:List St:=[sb Zf,sb h4,sb h5]
     cases h6:t.event==2
     ·exact ⟨[],zkG,wkc At.AT [sg h1,sb h2] [3,4,5,7,8,18,19,20] 3 kr (g3 _ (zaa (wkr (p_1++[sb h6]) kr)))⟩
     ·exact ⟨[trTb ZsD s,trTb ZsI s],zkG,wkc At.AT [sg h1,sb h2] [3,4,5,7,8,18,19,20] 3 kr (g3 _ (zaa (wkrS (y:=AV.sl [[sv (trTb ZsD s).sch.name,AV.sl (List.map Col.cells (trTb ZsD s).sch.cols),iv (trTb ZsD s).next,AV.sl []],[sv (trTb ZsI s).sch.name,AV.sl (List.map Col.cells (trTb ZsI s).sch.cols),iv (trTb ZsI s).next,AV.sl []]]) (H:=[]) (p_1++[sb h6,sd [(2,[sc (zdf ZsD s zch)]),(5,[sc (zdf ZsI s zch)])]]) kr ⟨Zcv2,Zcv2⟩)))⟩
    ·exact ⟨[trTb ZsD s],zkG,wkc At.AT [sg h1,sb h2] [3,4,5,7,8,18,19,20] 3 kr (g3 _ (zaa (wkrS (y:=AV.sl [[sv (trTb ZsD s).sch.name,AV.sl (List.map Col.cells (trTb ZsD s).sch.cols),iv (trTb ZsD s).next,AV.sl []]]) (H:=[]) [sb Zf,sb h4,sb h5,sc (zdf ZsD s zch)] kr ⟨Zcv2,Zcv2⟩)))⟩
   ·exact ⟨[trTb ZsI s],zkG,wkc At.AT [sg h1,sb h2] [3,4,5,7,8,18,19,20] 3 kr (g3 _ (zaa (wkrS (y:=AV.sl [[sv (trTb ZsI s).sch.name,AV.sl (List.map Col.cells (trTb ZsI s).sch.cols),iv (trTb ZsI s).next,AV.sl []]]) (H:=[]) [sb Zf,sb h4,sc (zdf ZsI s zch)] kr ⟨Zcv2,Zcv2⟩)))⟩
  ·exact ⟨[],zkG,wk At.AT [sg h1,sb h2] kr⟩
 ·exact ⟨[],zkG,wk At.AT [sb h1] kr⟩
theorem zut (a b:List Tb) (ha:zac a) (hb:zac b):∃ (r:List (List AV)),r=a.map Tb.cells++b.map Tb.cells/\zab E0 S.Di [tsl a,tsl b] [] (.sl r) []:=by
 exact ⟨List.map Tb.cells a++List.map Tb.cells b,Zr,wk At.Di [sqx ((List.map Tb.cells a++List.map Tb.cells b).length=(List.map Tb.cells a++List.map Tb.cells b).length),sqx (AllLen (List.map Tb.cells a) 4/\((List.map Tb.cells a).length * 72).le 140737488355328),sqx (AllLen (List.map Tb.cells b) 4/\(List.map Tb.cells a).length=(List.map Tb.cells a).length/\(((List.map Tb.cells a).length+(List.map Tb.cells b).length) * 72).le 140737488355328)] kr⟩
theorem zn4 (a b:List Tb) (ha:zac a) (hb:zac b):zab E0 S.Di [tsl a,tsl b] [] (tsl (a++b)) []:=by
 obtain ⟨r,rfl,h⟩:=zut a b ha hb
 show zab E0 S.Di [tsl a,tsl b] [] (.sl ((a++b).map Tb.cells)) []
 rw [yAR]
 exact h
noncomputable def L_tyS (q:Qy) (s:Sch) (inn:List Fr) (tb:List Tb) (i:Nat) (is:List Int):Cfg:=zai B.AR 0 [(2,tsl tb),(3,.p 0 0),(10,fsl inn),(11,.own 2 is.length),(34,.sl (s.cols.map Col.cells)),(35,iv ((s.cols.map Col.cells).length:Nat)),(36,iv (i:Nat))] [.box q.cells,.box s.cells,.row Ty.int (is.map fun n=>[iv n]) false]
theorem zjd (q:Qy) (s:Sch) (inn:List Fr) (tb:List Tb) (hs:zac s.cols) (i:Nat) (is:List Int) (hi:i<=(s.cols).length) (hI:is.length=i):∃ (is':List Int),(is'.length=(s.cols).length)/\(decide ((((s.cols).length:Nat):Int) < (((s.cols.map Col.cells).length:Nat):Int))=false)/\∀ R,Good E0 B.AR [] (L_tyS q s inn tb (s.cols).length is') R->Good E0 B.AR [] (L_tyS q s inn tb i is) R:=by
 have hk:=hi;revert i is;refine zlp ((s.cols).length) (fun i hlt ih is hi hI _=>?_)
 obtain ⟨x,hx,h0,hw⟩:=zlq (l:=s.cols) ((s.cols.map Col.cells).length) hlt zpF
 have hil:is.length<=1000000000:=by simp only [zac] at hs;omega
 exact Zih (ih (is++[x.type]) Zo ztK Zo) fun R gY=>zaa (wkl [sb h0,se (zaf Col.cells hx rfl),sqA (List.map (fun n=>[iv n]) is) [[iv x.type]] is.length 1 8,si hw] [2,3,10,11,34,35,36] 3 kr (zaK 11 2 (List.map (fun n=>[iv n]) is++[[iv x.type]]) gY (he:=Zcv2) (hm:=Zcv2)))
noncomputable def zwf (q:Qy) (s:Sch) (inn:List Fr) (tb:List Tb) (f:X->Int × Int) (i:Nat) (is:List Int):Cfg:=zai B.AR 1 [(2,tsl tb),(3,.p 0 0),(10,fsl inn),(11,.own 2 is.length),(47,xsl q.items),(48,iv ((zad q.items).length:Nat)),(49,iv (i:Nat))] [.box q.cells,.box s.cells,.row Ty.int (is.map fun n=>[iv n]) false]
theorem zjc (q:Qy) (s:Sch) (inn:List Fr) (tb:List Tb) (f:X->Int × Int) (hs:zac q.items) (hf:∀ x∈q.items,Pure S.AE [x.av,fsl inn,tsl tb] (.tup [iv (f x).1,iv (f x).2])) (i:Nat) (is:List Int) (hi:i<=(q.items).length) (hI:is.length=i):(∃ (is':List Int),(is'.length=(q.items).length)/\(decide ((((q.items).length:Nat):Int) < (((zad q.items).length:Nat):Int))=false)/\∀ R,Good E0 B.AR [] (zwf q s inn tb f (q.items).length is') R->Good E0 B.AR [] (zwf q s inn tb f i is) R)\/(∃ (r:List Int) (e:Int),zac r/\Good E0 B.AR [] (zwf q s inn tb f i is) (Shut 0 fun rZ hZ=>rZ=(.tup [isl r,iv e])/\hZ=[])):=by
 have hk:=hi;revert i is;refine zlp ((q.items).length) (fun i hlt ih is hi hI _=>?_)
 obtain ⟨x,hx,h0,hw⟩:=zlq (l:=q.items) ((zad q.items).length) hlt zpF
 have hil:is.length<=1000000000:=by simp only [zac] at hs;omega
 have hfx:=hf x (yC hx)
 cases h1:(f x).snd != 0
 ·exact (ih (is++[(f x).fst]) Zo ztK Zo).elim (fun ⟨isZ,qZ,xZ,gZ⟩=>.inl ⟨isZ,qZ,xZ,fun R hg=>zaa (wkl [sb h0,se (zcD hx),sc hfx,sb h1,sqA (List.map (fun n=>[iv n]) is) [[iv (f x).fst]] is.length 1 8,si hw] [2,3,10,11,47,48,49] 3 kr (zaK 11 2 (List.map (fun n=>[iv n]) is++[[iv (f x).fst]]) (gZ R hg) (he:=Zcv2) (hm:=Zcv2)))⟩) (fun ⟨rY,eY,pZ,gZ⟩=>.inr ⟨rY,eY,pZ,zaa (wkl [sb h0,se (zcD hx),sc hfx,sb h1,sqA (List.map (fun n=>[iv n]) is) [[iv (f x).fst]] is.length 1 8,si hw] [2,3,10,11,47,48,49] 3 kr (zaK 11 2 (List.map (fun n=>[iv n]) is++[[iv (f x).fst]]) gZ (he:=Zcv2) (hm:=Zcv2)))⟩)
 ·exact .inr ⟨[],(f x).snd,(by (simp [zac];done)),zaa (wkr [sb h0,se (zcD hx),sc hfx,sb h1] kr)⟩
theorem zrt (q:Qy) (frs:List Fr) (tb:List Tb) (f:X->Int × Int) (c:Int) (h1:zac frs) (h2:zac tb) (h3:∀ x∈tb,zac x.sch.cols) (hs:zac q.items) (hsc:zac (zaw tb q.frm).1.cols) (hf:∀ x∈q.items,Pure S.AE [x.av,fsl (zbg frs (zaw tb q.frm).1 []),tsl tb] (.tup [iv (f x).1,iv (f x).2])) (hc:Pure S.AP [xsl q.wh,fsl (zbg frs (zaw tb q.frm).1 []),tsl tb] (iv c)):∃ (r:List Int) (e:Int),zac r/\zab E0 S.AR [q.av,fsl frs,tsl tb] [] (.tup [isl r,iv e]) []:=by
 let p_1:List St:=[sc (zb8 tb q.frm zch zch)]
 cases h1:!(zaw tb q.frm).snd
 ·let p_2:List St:=p_1++[sb h1,sc (zgt frs ((zaw tb q.frm).fst) ([]) zch)]
  cases h2:q.star
  ·rcases zjc q ((zaw tb q.frm).fst) (zbg frs (zaw tb q.frm).fst []) tb f zch hf 0 ([]) zch zch with ⟨is3,q3,q3_1,g3⟩|⟨r3_0,r3_1,p3_0,g3⟩
   ·cases h4:c != 0
    ·exact ⟨is3,0,zkH,wkcN At.AR (p_2++[sb h2]) [2,3,10,11,47,48,49] 2 [(.ot 11 Ty.int,3)] kr (g3 _ (zaa (wkr [sqx (is3.length=(List.map (fun n=>[iv n]) is3).length/\True/\True),sb q3_1,sc hc,sb h4] kr)))⟩
    ·exact ⟨[],c,zkH,wkcN At.AR (p_2++[sb h2]) [2,3,10,11,47,48,49] 2 [(.ot 11 Ty.int,3)] kr (g3 _ (zaa (wkr [sb q3_1,sc hc,sb h4] kr)))⟩
   ·exact ⟨r3_0,r3_1,zkH,wkcN At.AR (p_2++[sb h2]) [2,3,10,11,47,48,49] 2 [(.ot 11 Ty.int,3)] kr (g3)⟩
  ·obtain ⟨is5,q5,q5_1,g5⟩:=zjd q ((zaw tb q.frm).fst) (zbg frs (zaw tb q.frm).fst []) tb zch 0 ([]) zch zch
   cases h6:c != 0
   ·exact ⟨is5,0,zkH,wkcN At.AR (p_2++[sb h2]) [2,3,10,11,34,35,36] 2 [(.ot 11 Ty.int,3)] kr (g5 _ (zaa (wkr [sqx (is5.length=(List.map (fun n=>[iv n]) is5).length/\True/\True),sb q5_1,sc hc,sb h6] kr)))⟩
   ·exact ⟨[],c,zkH,wkcN At.AR (p_2++[sb h2]) [2,3,10,11,34,35,36] 2 [(.ot 11 Ty.int,3)] kr (g5 _ (zaa (wkr [sb q5_1,sc hc,sb h6] kr)))⟩
 ·exact ⟨[],3,zkH,wk At.AR (p_1++[sb h1]) kr⟩
theorem zbT {p:Prop} (h:p:=by first|assumption|omega|exact hca _ ‹_›|(simp;done)|(simp;omega)):p:=h
theorem zbM {p:Prop} (h:p:=by first|assumption|omega|(simp;done)|(simp;omega)):p:=h
theorem zfK {p:Prop} (h:p:=by first|assumption|omega|(simp only [bne_eq_false_iff_eq,zeU,yG] at *;omega)):p:=h
theorem zg9 {p:Prop} (h:p:=by first|trivial|assumption|(simp;done)|omega|(simp;omega)|(simp at *;omega)):p:=h
theorem ziI {p:Prop} (h:p:=by first|assumption|exact zfF _ _ _ 0 h3):p:=h
theorem zha {p:Prop} (h:p:=by first|omega|(simp only [zac,Few] at *;omega)):p:=h
theorem ztL {p:Prop} (h:p:=by first|omega|(simp only [decide_eq_false_iff_not,decide_eq_true_eq] at *;omega)):p:=h
def AtI {α:Type} (l:List α) (i:Int) (x:α):Prop:=0<=i/\l[i.toNat]?=some x
theorem zdN {α:Type} {l:List α} {i:Int} (h:0<=i/\i < ((l.length:Nat):Int)):∃ x,AtI l i x :=
 ⟨l[i.toNat]'Zo,h.1,yE Zo⟩
theorem zbW {α:Type} (f:α->List AV) {l:List α} {i:Int} {x:α} (h:AtI l i x) {n:Nat} (hn:(f x).length=n):ElAt (l.map f) i (f x) n :=
 ⟨h.1,by simp [h.2],hn⟩
abbrev TyOk (x:X) (frs:List Fr) (tb:List Tb):Prop:=∃ t e:Int,zab E0 S.AE [x.av,fsl frs,tsl tb] [] (.tup [iv t,iv e]) []
theorem zdl (a b:Int) :∃ (r:Bool),zab E0 S.Do [iv a,iv b] [] (bv r) []:=by
 exact ⟨zhK b a,wk At.Do [sc (zbZ b a)] kr⟩
theorem zjj (a:Ac) (s0:Se) (s:Sch) (frs:List Fr) (tb:List Tb) (hs:zac s.cols) (ht:∃ t e:Int,zab E0 S.AE [s0.ex.av,fsl frs,tsl tb] [] (.tup [iv t,iv e]) []):∃ (r:Int),zab E0 S.AU [.agg [iv 5,sv a.table,.sl (a.rows.map zaI),.sl (zam a.query),.sl [s0.cells],.sl (zad a.wh),sv a.text],s.av,fsl frs,tsl tb] [] (iv r) []:=by
 obtain ⟨r1,q1,c1⟩:=(zd8 s s0.col zbM)
 cases h2:decide (r1 < 0)
 ·obtain ⟨t3,e3,c3⟩:=ht
  cases h4:e3 != 0
  ·obtain ⟨x5,e5⟩:=zdN (l:=s.cols) (i:=r1) ztL
   obtain ⟨r6,c6⟩:=(zdl x5.type t3)
   let p_1:List St:=[sb Zf,sb Zt,sd [(3,[se (xs:=[[sv s0.col,iv s0.ex.kind,iv s0.ex.op,bv s0.ex.not,iv s0.ex.val.kind,iv s0.ex.val.int,sv s0.ex.val.text,sv s0.ex.table,sv s0.ex.name,AV.sl (zad s0.ex.args),AV.sl (zam s0.ex.sub)]]) (i:=0) (c:=[sv s0.col,iv s0.ex.kind,iv s0.ex.op,bv s0.ex.not,iv s0.ex.val.kind,iv s0.ex.val.int,sv s0.ex.val.text,sv s0.ex.table,sv s0.ex.name,AV.sl (zad s0.ex.args),AV.sl (zam s0.ex.sub)]) (n:=11) ⟨by decide,rfl,rfl⟩]),(6,[sc c1])],sb h2,se (xs:=[[sv s0.col,iv s0.ex.kind,iv s0.ex.op,bv s0.ex.not,iv s0.ex.val.kind,iv s0.ex.val.int,sv s0.ex.val.text,sv s0.ex.table,sv s0.ex.name,AV.sl (zad s0.ex.args),AV.sl (zam s0.ex.sub)]]) (i:=0) (c:=[sv s0.col,iv s0.ex.kind,iv s0.ex.op,bv s0.ex.not,iv s0.ex.val.kind,iv s0.ex.val.int,sv s0.ex.val.text,sv s0.ex.table,sv s0.ex.name,AV.sl (zad s0.ex.args),AV.sl (zam s0.ex.sub)]) (n:=11) ⟨by decide,rfl,rfl⟩,sc c3,sb h4,se (zbW Col.cells e5 rfl),sc c6]
   cases h7:!r6
   ·exact ⟨0,wk At.AU (p_1++[sb h7]) kr⟩
   ·exact ⟨5,wk At.AU (p_1++[sb h7]) kr⟩
  ·exact ⟨e3,wk At.AU [sb Zf,sb Zt,sd [(3,[se (xs:=[(sv s0.col::s0.ex.cells)]) (i:=0) (c:=(sv s0.col::s0.ex.cells)) (n:=11) ⟨by decide,rfl,rfl⟩]),(6,[sc c1])],sb h2,se (xs:=[(sv s0.col::s0.ex.cells)]) (i:=0) (c:=(sv s0.col::s0.ex.cells)) (n:=11) ⟨by decide,rfl,rfl⟩,sc c3,sb h4] kr⟩
 ·exact ⟨3,wk At.AU [sb Zf,sb Zt,sd [(3,[se (xs:=[(sv s0.col::s0.ex.cells)]) (i:=0) (c:=(sv s0.col::s0.ex.cells)) (n:=11) ⟨by decide,rfl,rfl⟩]),(6,[sc c1])],sb h2] kr⟩
theorem zji (a:Ac) (s:Sch) (frs:List Fr) (tb:List Tb) (h5:(a.kind==5)=false) (hc:∃ e:Int,zab E0 S.Bm [a.av,fsl frs,tsl tb] [] (iv e) []):∃ (r:Int),zab E0 S.AU [a.av,s.av,fsl frs,tsl tb] [] (iv r) []:=by
 cases h1:a.kind==4
 ·obtain ⟨e2,c2⟩:=hc
  exact ⟨e2,wk At.AU [sb h1,sb h5,sc c2] kr⟩
 ·exact ⟨0,wk At.AU [sb h1] kr⟩
noncomputable def zvO (a:Ac) (s:Sch) (frs:List Fr) (tb:List Tb) (io:Nat) (y:List X) (i:Nat) :Cfg:=zai B.An 1 [(2,fsl frs),(3,tsl tb),(4,.p 0 0),(5,.p 1 0),(22,.sl (a.rows.map zaI)),(23,iv ((a.rows.map zaI).length:Nat)),(24,iv (io:Nat)),(34,xsl y),(35,iv ((zad y).length:Nat)),(36,iv (i:Nat))] [.box a.cells,.box s.cells]
theorem zgb (a:Ac) (s:Sch) (frs:List Fr) (tb:List Tb) (io:Nat) (y:List X) (hy:zac y) (hty:∀ x∈y,TyOk x frs tb) (hlen:y.length=s.cols.length) (i:Nat)  (hi:i<=(y).length) (hI:True):((True)/\(decide ((((y).length:Nat):Int) < (((zad y).length:Nat):Int))=false)/\∀ R,Good E0 B.An [] (zvO a s frs tb io y (y).length ) R->Good E0 B.An [] (zvO a s frs tb io y i ) R)\/(∃ (r:Int),Good E0 B.An [] (zvO a s frs tb io y i ) (Shut 0 fun rZ hZ=>rZ=(iv r)/\hZ=[])):=by
 have hk:=hi;revert i hI;refine zlp ((y).length) (fun i hlt ih hi hI _=>?_)
 obtain ⟨x,hx,h0,hw⟩:=zlq (l:=y) ((zad y).length) hlt zha
 have hx1:=hty x (yC hx)
 obtain ⟨t1,e1,c1⟩:=hx1
 cases h2:e1 != 0
 ·obtain ⟨x3,e3⟩:=zbc (l:=s.cols) (i:=i) zbM
  obtain ⟨r4,c4⟩:=(zdl x3.type t1)
  let p_1:List St:=[sb h0,se (zcD hx),sc c1,sb h2,se (zaf Col.cells e3 rfl),sc c4]
  cases h5:!r4
  ·exact zie1 (ih Zo zg9 Zo) fun R gY=>zaa (wkl (p_1++[sb h5,si hw]) [2,3,4,5,22,23,24,34,35,36] 2 kr gY)
  ·exact .inr ⟨5,zaa (wkr (p_1++[sb h5]) kr)⟩
 ·exact .inr ⟨e1,zaa (wkr [sb h0,se (zcD hx),sc c1,sb h2] kr)⟩
noncomputable def zvQ (a:Ac) (s:Sch) (frs:List Fr) (tb:List Tb) (i:Nat) :Cfg:=zai B.An 0 [(2,fsl frs),(3,tsl tb),(4,.p 0 0),(5,.p 1 0),(22,.sl (a.rows.map zaI)),(23,iv ((a.rows.map zaI).length:Nat)),(24,iv (i:Nat))] [.box a.cells,.box s.cells]
theorem zgd (a:Ac) (s:Sch) (frs:List Fr) (tb:List Tb) (hs:zac s.cols) (hr:zac a.rows) (hty:∀ r∈a.rows,zac r/\∀ x∈r,TyOk x frs tb) (i:Nat)  (hi:i<=(a.rows).length) (hI:True):((True)/\(decide ((((a.rows).length:Nat):Int) < (((a.rows.map zaI).length:Nat):Int))=false)/\∀ R,Good E0 B.An [] (zvQ a s frs tb (a.rows).length ) R->Good E0 B.An [] (zvQ a s frs tb i ) R)\/(∃ (r:Int),Good E0 B.An [] (zvQ a s frs tb i ) (Shut 0 fun rZ hZ=>rZ=(iv r)/\hZ=[])):=by
 have hk:=hi;revert i hI;refine zlp ((a.rows).length) (fun i hlt ih hi hI _=>?_)
 obtain ⟨x,hx,h0,hw⟩:=zlq (l:=a.rows) ((a.rows.map zaI).length) hlt zha
 have hx1:=(hty x (yC hx)).1;have hx2:=(hty x (yC hx)).2
 let p_1:List St:=[sb h0,se (zaf zaI hx rfl)]
 cases h1:(↑(zad x).length:Int) != (↑(List.map Col.cells s.cols).length:Int)
 ·rcases zgb a s frs tb i x zfK zfK zfK 0 zfK zfK with ⟨q2,q2_1,g2⟩|⟨r2_0,g2⟩
  ·exact zie1 (ih Zo zg9 Zo) fun R gY=>zaa (wkl (p_1++[sb h1]) [2,3,4,5,22,23,24,34,35,36] 2 kr (g2 _ (zaa (wkl [sb q2_1,si hw] [2,3,4,5,22,23,24] 2 kr gY))))
  ·exact .inr ⟨r2_0,zaa (wkl (p_1++[sb h1]) [2,3,4,5,22,23,24,34,35,36] 2 kr g2)⟩
 ·exact .inr ⟨5,zaa (wkr (p_1++[sb h1]) kr)⟩
noncomputable def zvR (a:Ac) (s:Sch) (frs:List Fr) (tb:List Tb) (io:Nat) (y:List Int) (i:Nat) :Cfg:=zai B.An 3 [(2,fsl frs),(3,tsl tb),(5,.p 1 0),(63,.sl (zam a.query)),(64,iv ((zam a.query).length:Nat)),(65,iv (io:Nat)),(85,isl y),(86,iv ((y.map fun n=>[iv n]).length:Nat)),(87,iv (i:Nat))] [.box a.cells,.box s.cells]
theorem zge (a:Ac) (s:Sch) (frs:List Fr) (tb:List Tb) (io:Nat) (y:List Int) (hy:zac y) (hlen:y.length=s.cols.length) (i:Nat)  (hi:i<=(y).length) (hI:True):((True)/\(decide ((((y).length:Nat):Int) < (((y.map fun n=>[iv n]).length:Nat):Int))=false)/\∀ R,Good E0 B.An [] (zvR a s frs tb io y (y).length ) R->Good E0 B.An [] (zvR a s frs tb io y i ) R)\/(∃ (r:Int),Good E0 B.An [] (zvR a s frs tb io y i ) (Shut 0 fun rZ hZ=>rZ=(iv r)/\hZ=[])):=by
 have hk:=hi;revert i hI;refine zlp ((y).length) (fun i hlt ih hi hI _=>?_)
 obtain ⟨x,hx,h0,hw⟩:=zlq (l:=y) ((y.map fun n=>[iv n]).length) hlt zha
 obtain ⟨x1,e1⟩:=zbc (l:=s.cols) (i:=i) zbM
 obtain ⟨r2,c2⟩:=(zdl x1.type x)
 let p_1:List St:=[sb h0,se (zaf (fun n=>[iv n]) hx rfl),se (zaf Col.cells e1 rfl),sc c2]
 cases h3:!r2
 ·exact zie1 (ih Zo zg9 Zo) fun R gY=>zaa (wkl (p_1++[sb h3,si hw]) [2,3,5,63,64,65,85,86,87] 2 kr gY)
 ·exact .inr ⟨5,zaa (wkr (p_1++[sb h3]) kr)⟩
noncomputable def zvP (a:Ac) (s:Sch) (frs:List Fr) (tb:List Tb) (i:Nat) :Cfg:=zai B.An 2 [(2,fsl frs),(3,tsl tb),(5,.p 1 0),(63,.sl (zam a.query)),(64,iv ((zam a.query).length:Nat)),(65,iv (i:Nat))] [.box a.cells,.box s.cells]
theorem zgc (a:Ac) (s:Sch) (frs:List Fr) (tb:List Tb) (hs:zac s.cols) (hq:zac a.query) (hty:∀ q∈a.query,∃ (r:List Int) (e:Int),zac r/\zab E0 S.AR [q.av,fsl frs,tsl tb] [] (.tup [isl r,iv e]) []) (i:Nat)  (hi:i<=(a.query).length) (hI:True):((True)/\(decide ((((a.query).length:Nat):Int) < (((zam a.query).length:Nat):Int))=false)/\∀ R,Good E0 B.An [] (zvP a s frs tb (a.query).length ) R->Good E0 B.An [] (zvP a s frs tb i ) R)\/(∃ (r:Int),Good E0 B.An [] (zvP a s frs tb i ) (Shut 0 fun rZ hZ=>rZ=(iv r)/\hZ=[])):=by
 have hk:=hi;revert i hI;refine zlp ((a.query).length) (fun i hlt ih hi hI _=>?_)
 obtain ⟨x,hx,h0,hw⟩:=zlq (l:=a.query) ((zam a.query).length) hlt zha
 have hx1:=hty x (yC hx)
 obtain ⟨r1,e1,q1,c1⟩:=hx1
 cases h2:e1 != 0
 ·cases h3:(↑(List.map (fun n=>[iv n]) r1).length:Int) != (↑(List.map Col.cells s.cols).length:Int)
  ·rcases zge a s frs tb i r1 zfK zfK 0 zfK zfK with ⟨q4,q4_1,g4⟩|⟨r4_0,g4⟩
   ·exact zie1 (ih Zo zg9 Zo) fun R gY=>zaa (wkl [sb h0,se (zbE hx),sc c1,sb h2,sb h3] [2,3,5,63,64,65,85,86,87] 2 kr (g4 _ (zaa (wkl [sb q4_1,si hw] [2,3,5,63,64,65] 2 kr gY))))
   ·exact .inr ⟨r4_0,zaa (wkl [sb h0,se (zbE hx),sc c1,sb h2,sb h3] [2,3,5,63,64,65,85,86,87] 2 kr g4)⟩
  ·exact .inr ⟨5,zaa (wkr [sb h0,se (zbE hx),sc c1,sb h2,sb h3] kr)⟩
 ·exact .inr ⟨e1,zaa (wkr [sb h0,se (zbE hx),sc c1,sb h2] kr)⟩
theorem zme (a:Ac) (s:Sch) (frs:List Fr) (tb:List Tb) (hs:zac s.cols) (hr:zac a.rows) (hq:zac a.query) (hty:∀ r∈a.rows,zac r/\∀ x∈r,TyOk x frs tb) (htq:∀ q∈a.query,∃ (r:List Int) (e:Int),zac r/\zab E0 S.AR [q.av,fsl frs,tsl tb] [] (.tup [isl r,iv e]) []):∃ (r:Int),zab E0 S.An [a.av,s.av,fsl frs,tsl tb] [] (iv r) []:=by
 rcases zgd a s frs tb zbM zbM zbM 0 zbM zbM with ⟨q1,q1_1,g1⟩|⟨r1_0,g1⟩
 ·rcases zgc a s frs tb zbM zbM zbM 0 zbM zbM with ⟨q2,q2_1,g2⟩|⟨r2_0,g2⟩
  ·exact ⟨0,wkc At.An [] [2,3,4,5,22,23,24] 2 kr (g1 _ (zaa (wkl [sb q1_1] [2,3,5,63,64,65] 2 kr (g2 _ (zaa (wkr [sb q2_1] kr))))))⟩
  ·exact ⟨r2_0,wkc At.An [] [2,3,4,5,22,23,24] 2 kr (g1 _ (zaa (wkl [sb q1_1] [2,3,5,63,64,65] 2 kr g2)))⟩
 ·exact ⟨r1_0,wkc At.An [] [2,3,4,5,22,23,24] 2 kr (g1)⟩
theorem zrv (a:Ac) (h:∃ b:Bool,zab E0 S.Aa [a.av] [] (bv b) []):∃ (r:Bool),zab E0 S.Cq [a.av] [] (bv r) []:=by
 cases h1:decide (1<=a.kind)
 ·exact ⟨false,wk At.Cq [sb h1] kr⟩
 ·cases h2:decide (a.kind<=3)
  ·exact ⟨false,wk At.Cq [sg h1,sb h2] kr⟩
  ·obtain ⟨b3,c3⟩:=h
   exact ⟨b3,wk At.Cq [sg h1,sg h2,sc c3] kr⟩
noncomputable def zvS (a:Ac) (s:Sch) (inn:List Fr) (tb:List Tb) (i:Nat) :Cfg:=zai B.Bm 0 [(2,tsl tb),(3,.p 0 0),(7,.p 1 0),(9,fsl inn),(39,.sl (a.sets.map Se.cells)),(40,iv ((a.sets.map Se.cells).length:Nat)),(41,iv (i:Nat))] [.box a.cells,.box s.cells]
theorem zje (a:Ac) (s:Sch) (inn:List Fr) (tb:List Tb) (hs:zac s.cols) (hsl:zac a.sets) (hty:∀ x∈a.sets,TyOk x.ex inn tb) (i:Nat)  (hi:i<=(a.sets).length) (hI:True):((True)/\(decide ((((a.sets).length:Nat):Int) < (((a.sets.map Se.cells).length:Nat):Int))=false)/\∀ R,Good E0 B.Bm [] (zvS a s inn tb (a.sets).length ) R->Good E0 B.Bm [] (zvS a s inn tb i ) R)\/(∃ (r:Int),Good E0 B.Bm [] (zvS a s inn tb i ) (Shut 0 fun rZ hZ=>rZ=(iv r)/\hZ=[])):=by
 have hk:=hi;revert i hI;refine zlp ((a.sets).length) (fun i hlt ih hi hI _=>?_)
 obtain ⟨x,hx,h0,hw⟩:=zlq (l:=a.sets) ((a.sets.map Se.cells).length) hlt zha
 have hx1:=hty x (yC hx)
 obtain ⟨r1,q1,c1⟩:=(zd8 s x.col zbM)
 cases h2:decide (r1 < 0)
 ·obtain ⟨t3,e3,c3⟩:=hx1
  cases h4:e3 != 0
  ·obtain ⟨x5,e5⟩:=zdN (l:=s.cols) (i:=r1) ztL
   obtain ⟨r6,c6⟩:=(zdl x5.type t3)
   let p_1:List St:=[sb h0,se (zaf Se.cells hx rfl),sc c1,sb h2,sc c3,sb h4,se (zbW Col.cells e5 rfl),sc c6]
   cases h7:!r6
   ·exact zie1 (ih Zo zg9 Zo) fun R gY=>zaa (wkl (p_1++[sb h7,si hw]) [2,3,7,9,39,40,41] 2 kr gY)
   ·exact .inr ⟨5,zaa (wkr (p_1++[sb h7]) kr)⟩
  ·exact .inr ⟨e3,zaa (wkr [sb h0,se (zaf Se.cells hx rfl),sc c1,sb h2,sc c3,sb h4] kr)⟩
 ·exact .inr ⟨3,zaa (wkr [sb h0,se (zaf Se.cells hx rfl),sc c1,sb h2] kr)⟩
theorem zru (a:Ac) (frs:List Fr) (tb:List Tb) (hsd:∃ b:Bool,zab E0 S.Cq [a.av] [] (bv b) []) (h1:zac frs) (h2:zac tb) (h3:∀ x∈tb,zac x.sch.cols) (hs:zac (zaw tb a.table).1.cols) (hsl:zac a.sets) (hins:∃ e:Int,zab E0 S.An [a.av,(zaw tb a.table).1.av,fsl frs,tsl tb] [] (iv e) []) (hty:∀ x∈a.sets,TyOk x.ex (zbg frs (zaw tb a.table).1 []) tb) (hc:∃ e:Int,zab E0 S.AP [xsl a.wh,fsl (zbg frs (zaw tb a.table).1 []),tsl tb] [] (iv e) []):∃ (r:Int),zab E0 S.Bm [a.av,fsl frs,tsl tb] [] (iv r) []:=by
 obtain ⟨b1,c1⟩:=hsd
 cases h2:!b1
 ·let p_1:List St:=[sc c1,sb h2,sc (zb8 tb a.table zbM zbM)]
  cases h3:!(zaw tb a.table).snd
  ·cases h4:a.kind==1
   ·let p_2:List St:=p_1++[sb h3,sb h4,sc (zgt frs ((zaw tb a.table).fst) ([]) zbM)]
    rcases zje a ((zaw tb a.table).fst) (zbg frs (zaw tb a.table).fst []) tb zbM zbM zbM 0 zbM zbM with ⟨q5,q5_1,g5⟩|⟨r5_0,g5⟩
    ·obtain ⟨e6,c6⟩:=hc
     exact ⟨e6,wkc At.Bm p_2 [2,3,7,9,39,40,41] 2 kr (g5 _ (zaa (wkr [sb q5_1,sc c6] kr)))⟩
    ·exact ⟨r5_0,wkc At.Bm p_2 [2,3,7,9,39,40,41] 2 kr (g5)⟩
   ·obtain ⟨e7,c7⟩:=hins
    exact ⟨e7,wk At.Bm (p_1++[sb h3,sb h4,sc c7]) kr⟩
  ·exact ⟨3,wk At.Bm (p_1++[sb h3]) kr⟩
 ·exact ⟨17,wk At.Bm [sc c1,sb h2] kr⟩
noncomputable def zwd (t:Tg) (s:Sch) (tb:List Tb) (i:Nat) :Cfg:=zai B.AG 0 [(1,tsl tb),(2,.p 0 0),(5,.p 1 0),(33,.sl (t.of.map zbR)),(34,iv ((t.of.map zbR).length:Nat)),(35,iv (i:Nat))] [.box t.cells,.box s.cells]
theorem zjg (t:Tg) (s:Sch) (tb:List Tb) (hs:zac s.cols) (hl:zac t.of) (i:Nat)  (hi:i<=(t.of).length) (hI:True):((True)/\(decide ((((t.of).length:Nat):Int) < (((t.of.map zbR).length:Nat):Int))=false)/\∀ R,Good E0 B.AG [] (zwd t s tb (t.of).length ) R->Good E0 B.AG [] (zwd t s tb i ) R)\/(∃ (r:Int),Good E0 B.AG [] (zwd t s tb i ) (Shut 0 fun rZ hZ=>rZ=(iv r)/\hZ=[])):=by
 have hk:=hi;revert i hI;refine zlp ((t.of).length) (fun i hlt ih hi hI _=>?_)
 obtain ⟨x,hx,h0,hw⟩:=zlq (l:=t.of) ((t.of.map zbR).length) hlt zha
 obtain ⟨r1,q1,c1⟩:=(zd8 s x zbM)
 let p_1:List St:=[sb h0,se (zaf zbR hx rfl),sc c1]
 cases h2:decide (r1 < 0)
 ·exact zie1 (ih Zo zg9 Zo) fun R gY=>zaa (wkl (p_1++[sb h2,si hw]) [1,2,5,33,34,35] 2 kr gY)
 ·exact .inr ⟨3,zaa (wkr (p_1++[sb h2]) kr)⟩
noncomputable def zwe (t:Tg) (s:Sch) (tb:List Tb) (i:Nat) :Cfg:=zai B.AG 1 [(1,tsl tb),(2,.p 0 0),(5,.p 1 0),(45,.sl (t.rank.map Rk.cells)),(46,iv ((t.rank.map Rk.cells).length:Nat)),(47,iv (i:Nat))] [.box t.cells,.box s.cells]
theorem zjh (t:Tg) (s:Sch) (tb:List Tb) (h2:zac tb) (h3:∀ x∈tb,zac x.sch.cols) (hl:zac t.rank) (i:Nat)  (hi:i<=(t.rank).length) (hI:True):((True)/\(decide ((((t.rank).length:Nat):Int) < (((t.rank.map Rk.cells).length:Nat):Int))=false)/\∀ R,Good E0 B.AG [] (zwe t s tb (t.rank).length ) R->Good E0 B.AG [] (zwe t s tb i ) R)\/(∃ (r:Int),Good E0 B.AG [] (zwe t s tb i ) (Shut 0 fun rZ hZ=>rZ=(iv r)/\hZ=[])):=by
 have hk:=hi;revert i hI;refine zlp ((t.rank).length) (fun i hlt ih hi hI _=>?_)
 obtain ⟨x,hx,h0,hw⟩:=zlq (l:=t.rank) ((t.rank.map Rk.cells).length) hlt zha
 obtain ⟨r1,q1,c1⟩:=(zd8 ((zaw tb x.table).fst) x.col ziI)
 cases h2:!(zaw tb x.table).snd
 ·cases h3:decide (r1 < 0)
  ·obtain ⟨x4,e4⟩:=zdN (l:=(zaw tb x.table).fst.cols) (i:=r1) ztL
   let p_1:List St:=[sb h0,se (zaf Rk.cells hx rfl),sc (zb8 tb x.table ziI ziI),sc c1,sg h2,sb h3,se (zbW Col.cells e4 rfl)]
   cases h5:x4.type != 1
   ·exact zie1 (ih Zo zg9 Zo) fun R gY=>zaa (wkl (p_1++[sb h5,si hw]) [1,2,5,45,46,47] 2 kr gY)
   ·exact .inr ⟨5,zaa (wkr (p_1++[sb h5]) kr)⟩
  ·exact .inr ⟨3,zaa (wkr [sb h0,se (zaf Rk.cells hx rfl),sc (zb8 tb x.table ziI ziI),sc c1,sg h2,sb h3] kr)⟩
 ·exact .inr ⟨3,zaa (wkr [sb h0,se (zaf Rk.cells hx rfl),sc (zb8 tb x.table ziI ziI),sc c1,sb h2] kr)⟩
noncomputable def zwc (t:Tg) (s:Sch) (frs:List Fr) (all:List Tb) (i:Nat) :Cfg:=zai B.AG 2 [(5,.p 1 0),(14,fsl frs),(15,tsl all),(94,.sl (t.acts.map Ac.cells)),(95,iv ((t.acts.map Ac.cells).length:Nat)),(96,iv (i:Nat))] [.box t.cells,.box s.cells]
theorem zjf (t:Tg) (s:Sch) (frs:List Fr) (all:List Tb) (hl:zac t.acts) (ha:∀ a∈t.acts,∃ e:Int,zab E0 S.AU [a.av,s.av,fsl frs,tsl all] [] (iv e) []) (i:Nat)  (hi:i<=(t.acts).length) (hI:True):((True)/\(decide ((((t.acts).length:Nat):Int) < (((t.acts.map Ac.cells).length:Nat):Int))=false)/\∀ R,Good E0 B.AG [] (zwc t s frs all (t.acts).length ) R->Good E0 B.AG [] (zwc t s frs all i ) R)\/(∃ (r:Int),Good E0 B.AG [] (zwc t s frs all i ) (Shut 0 fun rZ hZ=>rZ=(iv r)/\hZ=[])):=by
 have hk:=hi;revert i hI;refine zlp ((t.acts).length) (fun i hlt ih hi hI _=>?_)
 obtain ⟨x,hx,h0,hw⟩:=zlq (l:=t.acts) ((t.acts.map Ac.cells).length) hlt zha
 have hx1:=ha x (yC hx)
 obtain ⟨e1,c1⟩:=hx1
 let p_1:List St:=[sb h0,se (zaf Ac.cells hx rfl),sc c1]
 cases h2:e1 != 0
 ·exact zie1 (ih Zo zg9 Zo) fun R gY=>zaa (wkl (p_1++[sb h2,si hw]) [5,14,15,94,95,96] 2 kr gY)
 ·exact .inr ⟨e1,zaa (wkr (p_1++[sb h2]) kr)⟩
theorem zrw (t:Tg) (tb:List Tb) (hvt:∃ b:Bool,zab E0 S.Ae [t.av] [] (bv b) []) (h2:zac tb) (h3:∀ x∈tb,zac x.sch.cols) (hs:zac (zaw tb t.table).1.cols) (ho:zac t.of) (hr:zac t.rank) (hacs:zac t.acts) (hcw:∀ (tr:List Tb),(tr.length<=2/\∀ x∈tr,∃ n,x=trTb n (zaw tb t.table).1)->∃ e:Int,zab E0 S.AP [xsl t.when_,fsl (zcv t (zaw tb t.table).1 [] []),tsl (tb++tr)] [] (iv e) []) (hca:∀ (tr:List Tb),(tr.length<=2/\∀ x∈tr,∃ n,x=trTb n (zaw tb t.table).1)->∀ a∈t.acts,∃ e:Int,zab E0 S.AU [a.av,(zaw tb t.table).1.av,fsl (zcv t (zaw tb t.table).1 [] []),tsl (tb++tr)] [] (iv e) []):∃ (r:Int),zab E0 S.AG [t.av,tsl tb] [] (iv r) []:=by
 obtain ⟨b1,c1⟩:=hvt
 cases h2:!b1
 ·let p_1:List St:=[sc c1,sb h2,sc (zb8 tb t.table zbT zbT)]
  cases h3:!(zaw tb t.table).snd
  ·rcases zjg t ((zaw tb t.table).fst) tb zbT zbT 0 zbT zbT with ⟨q4,q4_1,g4⟩|⟨r4_0,g4⟩
   ·rcases zjh t ((zaw tb t.table).fst) tb zbT zbT zbT 0 zbT zbT with ⟨q5,q5_1,g5⟩|⟨r5_0,g5⟩
    ·obtain ⟨r6,q6,c6⟩:=(zgn t ((zaw tb t.table).fst) zbT)
     obtain ⟨e7,c7⟩:=(hcw r6 zbT)
     let p_2:List St:=[sb q5_1,sc (zkw t ((zaw tb t.table).fst) ([]) ([]) zbT zbT zbT),sc c6,sc (zn4 tb r6 zbT zbT),sc c7]
     cases h8:e7 != 0
     ·rcases zjf t ((zaw tb t.table).fst) (zcv t (zaw tb t.table).fst [] []) (tb++r6) zbT zbT 0 zbT zbT with ⟨q9,q9_1,g9⟩|⟨r9_0,g9⟩
      ·exact ⟨0,wkc At.AG (p_1++[sb h3]) [1,2,5,33,34,35] 2 kr (g4 _ (zaa (wkl [sb q4_1] [1,2,5,45,46,47] 2 kr (g5 _ (zaa (wkl (p_2++[sb h8]) [5,14,15,94,95,96] 2 kr (g9 _ (zaa (wkr [sb q9_1] kr)))))))))⟩
      ·exact ⟨r9_0,wkc At.AG (p_1++[sb h3]) [1,2,5,33,34,35] 2 kr (g4 _ (zaa (wkl [sb q4_1] [1,2,5,45,46,47] 2 kr (g5 _ (zaa (wkl (p_2++[sb h8]) [5,14,15,94,95,96] 2 kr g9))))))⟩
     ·exact ⟨e7,wkc At.AG (p_1++[sb h3]) [1,2,5,33,34,35] 2 kr (g4 _ (zaa (wkl [sb q4_1] [1,2,5,45,46,47] 2 kr (g5 _ (zaa (wkr (p_2++[sb h8]) kr))))))⟩
    ·exact ⟨r5_0,wkc At.AG (p_1++[sb h3]) [1,2,5,33,34,35] 2 kr (g4 _ (zaa (wkl [sb q4_1] [1,2,5,45,46,47] 2 kr g5)))⟩
   ·exact ⟨r4_0,wkc At.AG (p_1++[sb h3]) [1,2,5,33,34,35] 2 kr (g4)⟩
  ·exact ⟨3,wk At.AG (p_1++[sb h3]) kr⟩
 ·exact ⟨17,wk At.AG [sc c1,sb h2] kr⟩
theorem tyOk {n:Nat} {x:X} {frs:List Fr} {tb:List Tb} (h:XOk n x) (hf:FsOk n frs) (ht:TbOk tb):TyOk x frs tb:=⟨_,_,zie n x frs tb h hf ht⟩
theorem zx2 {n:Nat} {l:List X} {frs:List Fr} {tb:List Tb} (h:∀ x∈l,XOk n x) (hf:FsOk n frs) (ht:TbOk tb):∃ e:Int,zab E0 S.AP [xsl l,fsl frs,tsl tb] [] (iv e) [] :=
 ⟨_,zjH (f:=fun x=>zhL n x frs tb) fun x hx=>zie n x frs tb (h x hx) hf ht⟩
theorem zdJ {tb:List Tb} (ht:TbOk tb) (m:Str):zac (zaw tb m).1.cols:=zfF tb m tb 0 ht.cols
theorem zBc {n:Nat} {q:Qy} {frs:List Fr} {tb:List Tb} (h:QW n q) (hf:FsOk (n+1) frs) (ht:TbOk tb):∃ (r:List Int) (e:Int),zac r/\zab E0 S.AR [q.av,fsl frs,tsl tb] [] (.tup [isl r,iv e]) [] :=
 zrt q frs tb (fun x=>zhL n x (rIns frs tb q) tb) _ hf.short ht.len ht.cols (zaE h.items) (zdJ ht q.frm) (fun x hx=>zie n x _ tb (h.hi x hx) (hf.ins ht q) ht) (zjH fun x hx=>zie n x _ tb (h.hw x hx) (hf.ins ht q) ht)
theorem insOk {n:Nat} {a:Ac} {s:Sch} {frs:List Fr} {tb:List Tb} (h:AcOk n a) (hs:zac s.cols) (hf:FsOk (n+1) frs) (ht:TbOk tb):∃ e:Int,zab E0 S.An [a.av,s.av,fsl frs,tsl tb] [] (iv e) [] :=
 zme a s frs tb hs (zaE h.rows) (zaE h.query) (fun r hr=>⟨zaE (h.row r hr).1,fun x hx=>tyOk ((h.row r hr).2 x hx) hf.less ht⟩) (fun q hq=>zBc (h.qs q hq) hf ht)
theorem chkOk {n:Nat} {a:Ac} {frs:List Fr} {tb:List Tb} (h:AcOk n a) (hf:FsOk (n+1) frs) (ht:TbOk tb):∃ e:Int,zab E0 S.Bm [a.av,fsl frs,tsl tb] [] (iv e) [] :=
 zru a frs tb (zrv a (vaOk h)) hf.short ht.len ht.cols (zdJ ht a.table) (zaE h.sets) (insOk h (zdJ ht a.table) hf ht) (fun s hs=>tyOk (h.set s hs) (hf.ins ht (Qy.mk false [] a.table [])) ht) (zx2 h.w (hf.ins ht (Qy.mk false [] a.table [])) ht)
def zrU (a:Ac):Prop:=a.kind=5->∃ s,a.sets=[s]
theorem actOk {n:Nat} {a:Ac} {s:Sch} {frs:List Fr} {tb:List Tb} (h:AcOk n a) (hset:zrU a) (hs:zac s.cols) (hf:FsOk (n+1) frs) (ht:TbOk tb):∃ e:Int,zab E0 S.AU [a.av,s.av,fsl frs,tsl tb] [] (iv e) []:=by
 by_cases h5:a.kind=5
 ·obtain ⟨s0,hs0⟩:=hset h5
  cases a with
  | mk k tbn rows query sets wh text =>
   subst hs0
   subst h5
   exact zjj ⟨5,tbn,rows,query,[s0],wh,text⟩ s0 s frs tb hs (tyOk (h.set s0 Zs) hf.less ht)
 ·exact zji a s frs tb (by simpa using h5) (chkOk h hf ht)
theorem TbOk.tr {tb:List Tb} {s:Sch} {tr:List Tb} (h:TbOk tb) (hl:tb.length<=1000) (hs:zac s.cols) (ht:tr.length<=2/\∀ x∈tr,∃ n,x=trTb n s):TbOk (tb++tr):=by
 refine ⟨by have:=ht.1;simp only [zac,yAO];omega,fun x hx=>?_,fun x hx=>?_,fun x hx=>?_⟩ <;> rcases List.mem_append.mp hx with hx|hx
 ·exact h.cols x hx
 ·obtain ⟨n,rfl⟩:=ht.2 x hx
  simpa [trTb] using hs
 ·exact h.rows x hx
 ·obtain ⟨n,rfl⟩:=ht.2 x hx
  simp [trTb]
 ·exact h.vals x hx
 ·obtain ⟨n,rfl⟩:=ht.2 x hx
  intro r hr
  cases hr
theorem frOk1 {n:Nat} {l:List Fr} {s:Sch} (hs:zac s.cols) (hn:n<=1000) (hl:l.length<=2) (h:∀ f∈l,f.cols=s.cols/\f.vals=[]):FsOk n l :=
 ⟨by omega,fun f hf=>by rw [(h f hf).1];exact hs,fun f hf v hv=>by rw [(h f hf).2] at hv;cases hv⟩
theorem frOk {n:Nat} (t:Tg) {s:Sch} (hs:zac s.cols) (hn:n<=1000):FsOk n (zcv t s [] []):=by
 unfold zcv
 cases t.each <;> cases t.event==2 <;> cases t.event==3 <;> cases t.event==1 <;> exact frOk1 hs hn Zs (by simp [zbd])
theorem zAn {n:Nat} {t:Tg} {tb:List Tb} (h:TgOk n t) (hset:∀ a∈t.acts,zrU a) (ht:TbOk tb) (hl:tb.length<=1000) (hn:n < 1000):∃ r:Int,zab E0 S.AG [t.av,tsl tb] [] (iv r) [] :=
 zrw t tb (vtOk h) ht.len ht.cols (zdJ ht t.table) (zaE h.of) (zaE h.rank) (zaE h.acts)
  (fun tr htr=>zx2 h.when_ (frOk t (zdJ ht t.table) Zo) (ht.tr hl (zdJ ht t.table) htr))
  (fun tr htr a ha=>actOk (h.act a ha) (hset a ha) (zdJ ht t.table) (frOk t (zdJ ht t.table) Zo) (ht.tr hl (zdJ ht t.table) htr))
end Go.AM
namespace Go.AM
open Go.RowKit
theorem zt5 {xs:List Value} {s:Shp} (h:xs.map shp=[s]):∃ x,xs=[x]/\shp x=s:=by
 cases xs with
 | nil=>simp at h
 | cons x r =>
  cases r with
  | nil=>simp at h;exact ⟨x,rfl,h⟩
  | cons _ _=>simp at h
theorem zqM {d:TypeDesc} {k:Value} (hs:∀ (y:Value) (r:Bool),zdp k y=some r->Instr.sameNow d k y=some r):∀ (l:List MapEntry) (rs:List Bool) (n:Nat),rs.length=l.length ->
  (∀ (i:Nat) (e:MapEntry) (r:Bool),l[i]?=some e->rs[i]?=some r->∃ ys,e.key=keyV false ys/\zbj [k] ys=some r)->Instr.findNow d k l n=some (zeV l rs n)
 | [],[],_,_,_=>rfl
 | [],_::_,_,h,_=>by simp at h
 | _::_,[],_,h,_=>by simp at h
 | e::l,r::rs,n,hl,hall=>by
  obtain ⟨ys,h1,h2⟩:=hall 0 e r rfl rfl
  have h3:Instr.sameNow d k e.key=some r:=by
   cases ys with
   | nil=>simp [zbj] at h2
   | cons y ys =>
    simp only [zbj] at h2
    split at h2
    ·rename_i a b q1 q2
     cases ys with
     | cons _ _=>simp [zbj] at q2
     | nil =>
      simp [zbj] at q2
      subst q2
      simp only [Bool.and_true,yA] at h2
      subst h2
      rw [h1]
      exact hs _ _ q1
    ·cases h2
  have ih:=zqM hs l rs (n+1) (by simpa using hl) (fun i e r hi hr=>hall (i+1) e r (by simpa using hi) (by simpa using hr))
  unfold Instr.findNow
  rw [h3]
  cases r
  ·exact ih
  ·rfl
theorem zyn {P:Program} {t kt et:TypeId} {ik:IntKind} (hu:P.underlying t=some (.map kt et)) (hk:P.underlying kt=some (.int ik)) (n:Int):KeyOK P t (.v (.int ik n)):=by
 refine ⟨⟨false,[.int ik n],rfl,⟨⟨kt,et,hu,fun e w xs hx=>?_,fun w xs l rs hx hl hall=>?_⟩⟩⟩⟩
 ·obtain ⟨x,rfl,h⟩:=zt5 hx
  obtain ⟨a,rfl⟩:=zvD h
  exact MapKept.run_checkKey hk (by simp [MapKept.IsKey,keyV]) e 9999
 ·obtain ⟨x,rfl,h⟩:=zt5 hx
  obtain ⟨a,rfl⟩:=zvD h
  refine MapKept.run_findKey hk (zqM (fun y r hy=>?_) l rs 0 hl hall)
  simp only [keyV,List.headD_cons] at hy ⊢
  cases y <;> simp [zdp] at hy
  obtain ⟨rfl,rfl⟩:=hy
  simp [Instr.sameNow]
theorem znY {E:Env0} (ht:zaH E) (em:Bool) (d:Nat) (w:World):∀ (fs:List Field) (px xs:List Value),flat E.T px.length fs (xs.map shp)=true ->
  (forIn (m:=Sem) fs () fun f _=>do
   if f.name ≠ "_" then Instr.checkKey em (d + 1) f.type (← part f.type (px ++ xs).toArray f.offset)
   pure (ForInStep.yield ())).run E.P w=.ok () w
 | [],px,xs,hf=>by simp
 | f::fs,px,[],hf=>by simp [flat] at hf
 | f::fs,px,x::xs,hf=>by
  simp only [yT,flat,yR,bne_iff_ne] at hf
  obtain ⟨⟨⟨hn,ho⟩,hs⟩,hrest⟩:=hf
  have ho:=yN ho
  obtain ⟨hsz,hagg,hne⟩:=zp4 hs
  obtain ⟨i,dd,z,tok⟩:=ht.at_ hne
  have p1:=ziG tok w (px++x::xs) f.offset (by rw [hsz,ho];simp)
  rw [hsz,ho] at p1
  simp only [List.drop_left,List.take_succ_cons,List.take_zero,zfD,hagg,List.headD_cons] at p1
  have p2:(Instr.checkKey em (d+1) f.type x).run E.P w=.ok () w:=by
   cases x <;> simp [shp,znO] at hs
   all_goals
    split at hs
    ·rename_i hk
     first
     | (have:=tok.bool_ hk;subst this;exact MapKept.run_checkKey tok.und (by simp [MapKept.IsKey]) em d)
     | (have:=tok.int_ hk;subst this;unfold Instr.checkKey;simp [run_underlying tok.und])
     | (have:=tok.str_ hk;subst this;exact MapKept.run_checkKey tok.und (by simp [MapKept.IsKey]) em d)
    ·cases hs
  have ih:=znY ht em d w fs (px++[x]) xs (by simpa using hrest)
  simp only [yAV,List.singleton_append] at ih
  simp only [List.forIn_cons,Sem.run_bind,hn,ne_eq,not_false_eq_true,if_true,ho,p1,p2,Result.andThen_ok,Sem.run_pure]
  exact ih
theorem zmF {P:Program} {kt:TypeId} {ss:List Shp} (hq:StructEq P kt ss) (w:World) {xs:List Value} (hx:xs.map shp=ss):∀ (l:List MapEntry) (rs:List Bool) (n:Nat),rs.length=l.length ->
  (∀ (i:Nat) (e:MapEntry) (r:Bool),l[i]?=some e->rs[i]?=some r->∃ ys,e.key=keyV true ys/\zbj xs ys=some r)->(Instr.findAsking kt (.agg xs.toArray) l n).run P w=.ok (zeV l rs n) w
 | [],[],_,_,_=>by simp [Instr.findAsking,zeV]
 | [],_::_,_,h,_=>by simp at h
 | _::_,[],_,h,_=>by simp at h
 | e::l,r::rs,n,hl,hall=>by
  obtain ⟨ys,h1,h2⟩:=hall 0 e r rfl rfl
  have ih:=zmF hq w hx l rs (n+1) (by simpa using hl) (fun i e r hi hr=>hall (i+1) e r (by simpa using hi) (by simpa using hr))
  have h3:=hq.eq w xs ys r hx h2
  simp only [Instr.findAsking,Sem.run_bind,h1,keyV,h3,Result.andThen_ok]
  cases r
  ·simpa [zeV] using ih
  ·simp [zeV]
theorem zmU {E:Env0} (ht:zaH E) {t kt et:TypeId} {fs:Array Field} {ss:List Shp} (hu:E.P.underlying t=some (.map kt et)) (hk:E.P.underlying kt=some (.struct fs)) (hf:flat E.T 0 fs.toList ss=true) (hq:StructEq E.P kt ss) {cs:List AV} {xs:List Value}
  (hc:zeZ cs=some xs) (hs:xs.map shp=ss):KeyOK E.P t (.agg cs):=by
 refine ⟨⟨true,xs,by simp [zcy,hc],⟨⟨kt,et,hu,fun e w us hx=>?_,fun w us l rs hx hl hall=>?_⟩⟩⟩⟩
 ·have h1:=znY ht e 9998 w fs.toList [] us (by rw [hx,hs];exact hf)
  simp only [List.nil_append] at h1
  show (Instr.checkKey e 10000 kt (.agg us.toArray)).run E.P w=.ok () w
  unfold Instr.checkKey
  simp only [Sem.run_bind,run_underlying hk,Result.andThen_ok]
  rw [← Array.forIn_toList]
  have h2:∀ r:Result Unit,r=.ok () w->(r.andThen fun a w'=>(pure ():Sem Unit).run E.P w')=.ok () w:=by
   rintro _ rfl
   rfl
  exact h2 _ h1
 ·show (Instr.findKey kt (.agg us.toArray) l).run E.P w=_
  rw [run_findKey_eq w (by rw [hk]) _ l]
  exact zmF hq w (by rw [hx,hs]) l rs 0 hl hall
end Go.AM
namespace Go.AM
open Go.RowKit
def zrW (E:Env0) (h0:Heap) (β0:List Con) (S0:Addr->Prop) (w0:World) (fn:Func) (RR:Ending->World->Prop) (c:Cfg):Prop :=
 ∀ (β:List Con) (S:Addr->Prop) (w:World) (tmps:Array Value),tmps.size=c.n->Ext h0 β0 S0 w0 c.h β S w->Rel E c.h β S w->zaF E.T c.h β w S c.ts tmps->kont E.P c.todo (bodyPost E.P fn RR) .normal ⟨tmps,[]⟩ w
theorem zub {E:Env0} (ht:zaH E) (hm:E.P.follows .mixedOrders=true) {h0:Heap} {β0:List Con} {S0:Addr->Prop} {w0:World} {fn:Func} {RR:Ending->World->Prop} {c c':Cfg} {os os':List Orc} {q:Option Prop} (hs:step (mk E) c os=some (q,c',os')) (hq:zat q) (hg:zrW E h0 β0 S0 w0 fn RR c'):zrW E h0 β0 S0 w0 fn RR c:=by
 intro β S w tmps hn x0 r rt
 obtain ⟨n,todo,ts,h⟩:=c
 simp only at hn x0 r rt ⊢
 unfold step at hs
 simp only at hs
 cases todo with
 | nil=>cases hs
 | cons it k =>
  cases it with
  | blk id =>
   simp only [yA,Prod.mk.injEq] at hs
   obtain ⟨_,rfl,_⟩:=hs
   exact hg β S w tmps hn x0 r rt
  | lp cc=>cases hs
  | ops all rest =>
   cases rest with
   | nil =>
    simp only [yA,Prod.mk.injEq] at hs
    obtain ⟨_,rfl,_⟩:=hs
    exact hg β S w tmps hn x0 r rt
   | cons o rest =>
    simp only at hs
    split at hs
    ·rename_i x hdst hx
     simp only [yA,Prod.mk.injEq] at hs
     obtain ⟨rfl,rfl,_⟩:=hs
     have hd:zaR tmps.size o.dst=true:=by rw [hn];exact hdst
     simp only [kont,Exit.then]
     refine wpList_step fun K hK=>?_
     have:=zua (Q:=kont E.P k (bodyPost E.P fn RR)) (K:=K) ht r rt hd hx hq ⟨fun β' S' w' tmps' hsz r' e' rt'=>hK _ _ ?_⟩
     ·exact this
     ·have:=hg β' S' w' tmps' (by rw [hsz];exact hn) (x0.trans e') r' rt'
      simp only [kont,Exit.then] at this
      exact this
    ·cases hs
  | code cc =>
   simp only [kont,Exit.then]
   cases cc with
   | skip =>
    simp only [yA,Prod.mk.injEq] at hs
    obtain ⟨_,rfl,_⟩:=hs
    exact wp_skip (hg β S w tmps hn x0 r rt)
   | label l =>
    simp only [yA,Prod.mk.injEq] at hs
    obtain ⟨_,rfl,_⟩:=hs
    exact wp_label (hg β S w tmps hn x0 r rt)
   | scope a =>
    simp only [yA,Prod.mk.injEq] at hs
    obtain ⟨_,rfl,_⟩:=hs
    refine wp_scope_straight (wp_mono (hg β S w tmps hn x0 r rt) fun e a w he=>?_)
    cases e with
    | goto l=>exact zfe k l a w he
    | _=>exact he
   | loop a =>
    simp only [yA,Prod.mk.injEq] at hs
    obtain ⟨_,rfl,_⟩:=hs
    exact zp9 (hg β S w tmps hn x0 r rt)
   | seq a b =>
    simp only [yA,Prod.mk.injEq] at hs
    obtain ⟨_,rfl,_⟩:=hs
    refine wp_seq (wp_mono (hg β S w tmps hn x0 r rt) fun e a w he=>?_)
    cases e <;> exact he
   | block id a =>
    simp only [yA,Prod.mk.injEq] at hs
    obtain ⟨_,rfl,_⟩:=hs
    refine wp_block (wp_mono (hg β S w tmps hn x0 r rt) fun e a w he=>?_)
    cases e <;> exact he
   | region id ops draw =>
    cases draw with
    | true =>
     simp only at hs
     split at hs
     ·rename_i l os1
      split at hs
      ·rename_i qs ts1 h1 hlv hsz
       simp only [yA,Prod.mk.injEq] at hs
       obtain ⟨rfl,rfl,_⟩:=hs
       simp only [zat] at hq
       exact zvK ht hm (yN hsz) hlv hq hn x0 r rt (fun β' S' w' tmps' hn' x' r' rt'=>hg β' S' w' tmps' hn' x' r' rt')
      ·cases hs
     ·cases hs
    | false =>
     simp only [yA,Prod.mk.injEq] at hs
     obtain ⟨_,rfl,_⟩:=hs
     have:=hg β S w tmps hn x0 r rt
     simp only [kont,Exit.then] at this
     exact wp_region_list this
   | exit id =>
    simp only at hs
    split at hs
    ·rename_i k' hk
     simp only [yA,Prod.mk.injEq] at hs
     obtain ⟨_,rfl,_⟩:=hs
     exact wp_exit (ze9 k k' _ _ hk (hg β S w tmps hn x0 r rt))
    ·cases hs
   | cond x a b =>
    have hx:=zaV (ds:=[]) r rt x
    have lit:∀ bb,Act.eval ⟨tmps,[]⟩ x=.bool bb->zaF E.T h β w S (zsa ts bb x) tmps:=by
     intro bb he
     cases x with
     | tmp d=>exact rt.lit he
     | _=>exact rt
    simp only at hs
    split at hs
    ·rename_i he
     simp only [mk_G] at he
     rw [he] at hx
     simp only [yA,Prod.mk.injEq] at hs
     obtain ⟨_,rfl,_⟩:=hs
     exact wp_cond_true hx.bl_inv (hg β S w tmps hn x0 r rt)
    ·rename_i he
     simp only [mk_G] at he
     rw [he] at hx
     simp only [yA,Prod.mk.injEq] at hs
     obtain ⟨_,rfl,_⟩:=hs
     exact wp_cond_false hx.bl_inv (hg β S w tmps hn x0 r rt)
    ·rename_i t he
     simp only [mk_G] at he
     rw [he] at hx
     split at hs
     ·simp only [yA,Prod.mk.injEq] at hs
      obtain ⟨rfl,rfl,_⟩:=hs
      simp only [zat] at hq
      subst hq
      exact wp_cond_true hx.v_inv (hg β S w tmps hn x0 r (lit _ hx.v_inv))
     ·simp only [yA,Prod.mk.injEq] at hs
      obtain ⟨rfl,rfl,_⟩:=hs
      simp only [zat] at hq
      subst hq
      exact wp_cond_false hx.v_inv (hg β S w tmps hn x0 r (lit _ hx.v_inv))
     ·cases hs
    ·cases hs
   | _=>cases hs
theorem zqE {E:Env0} (ht:zaH E) (hm:E.P.follows .mixedOrders=true) {h0:Heap} {β0:List Con} {S0:Addr->Prop} {w0:World} {fn:Func} {RR:Ending->World->Prop}:∀ (n:Nat) (c:Cfg) (os:List Orc),allP (run (mk E) n c os).1->zrW E h0 β0 S0 w0 fn RR (run (mk E) n c os).2.1->zrW E h0 β0 S0 w0 fn RR c
 | 0,c,os,_,hg=>hg
 | n+1,c,os,hq,hg=>by
  unfold run at hq hg
  cases hs:step (mk E) c os with
  | none=>simp only [hs] at hg;exact hg
  | some x =>
   obtain ⟨q,c',os'⟩:=x
   cases q with
   | none =>
    simp only [hs] at hq hg
    exact zub ht hm hs trivial (zqE ht hm n c' os' hq hg)
   | some q =>
    simp only [hs] at hq hg
    obtain ⟨h1,h2⟩:=zjo hq
    exact zub ht hm hs h1 (zqE ht hm n c' os' h2 hg)
structure Foreign (gs:List Nat) (β:List Con) (S:Addr->Prop) (w0 w:World):Prop where
 new:∀ g∈gs.tail,w0.heap.size<=g
 lt:∀ g∈gs,g < w.heap.size
 apart:∀ g∈gs,∀ (b:Nat) (k:Con),β[b]?=some k->k.blk≠some g
 sep:∀ g∈gs,∀ a,S a->a.block≠g
theorem Foreign.ext {gs:List Nat} {h h':Heap} {β β':List Con} {S S':Addr->Prop} {w0 w w':World} (f:Foreign gs β S w0 w) (x:Ext h β S w h' β' S' w'):Foreign gs β' S' w0 w'/\∀ g∈gs,w'.heap[g]?=w.heap[g]? :=
 ⟨⟨f.new,fun g hg=>yAa (f.lt g hg) x.size,fun g hg b k hb hk=>by
  rcases x.new b k g hb hk with ⟨b',k',h1,h2,_⟩|h1
  ·exact f.apart g hg b' k' h1 h2
  ·have:=f.lt g hg;omega,fun g hg a ha he=>by
  rcases x.S_new a ha with h1|h1|⟨b,k,h1,h2⟩
  ·exact f.sep g hg a h1 he
  ·have:=f.lt g hg;omega
  ·exact f.apart g hg b k h1 (by rw [h2,he])⟩,fun g hg=>x.keep g (f.lt g hg) (f.apart g hg)⟩
def zbP (E:Env0) (fn:Func) (h0:Heap) (gs:List Nat) (F:(Addr->Prop)->World->Prop) (c:Cfg) (R:AV->Heap->Prop):Prop :=
 ∀ (β0:List Con) (S0:Addr->Prop) (w0:World) (β:List Con) (S:Addr->Prop) (w:World) (tmps:Array Value),β0.length=h0.length->tmps.size=c.n->Ext h0 β0 S0 w0 c.h β S w->Rel E c.h β S w->zaF E.T c.h β w S c.ts tmps->Foreign gs β S w0 w->F S w ->
  kont E.P c.todo (bodyPost E.P fn (Post E h0 β0 S0 w0 R)) .normal ⟨tmps,[]⟩ w
def Only (gs:List Nat) (F:(Addr->Prop)->World->Prop):Prop:=∀ (S S':Addr->Prop) (w w':World),(∀ a,S a->S' a)->(∀ a,S a->w'.cell? a=w.cell? a)->(∀ g∈gs,w'.heap[g]?=w.heap[g]?)->F S w->F S' w'
theorem zta {E:Env0} {fn:Func} {h0:Heap} {gs:List Nat} {F:(Addr->Prop)->World->Prop} {c:Cfg} {R:AV->Heap->Prop} (hg:Good E fn h0 c R):zbP E fn h0 gs F c R :=
 fun β0 S0 w0 β S w tmps hb hn x r rt _ _=>hg β0 S0 w0 β S w tmps hb hn x r rt
theorem zmG {E:Env0} (ht:zaH E) (hm:E.P.follows .mixedOrders=true) {fn:Func} {h0:Heap} {gs:List Nat} {F:(Addr->Prop)->World->Prop} (hF:Only gs F) {R:AV->Heap->Prop} (n:Nat) {c:Cfg} (os:List Orc) (hq:allP (run (mk E) n c os).1) (hg:zbP E fn h0 gs F (run (mk E) n c os).2.1 R):zbP E fn h0 gs F c R :=
 fun β0 S0 w0 β S w tmps hb hn x r rt hf hw=>zqE ht hm (h0:=c.h) (β0:=β) (S0:=S) (w0:=w) n c os hq (fun β' S' w' tmps' hn' x' r' rt' =>
  hg β0 S0 w0 β' S' w' tmps' hb hn' (x.trans x') r' rt' (hf.ext x').1 (hF S S' w w' x'.S_le x'.S_cell (hf.ext x').2 hw)) β S w tmps hn (Ext.refl _ _ _ _) r rt
theorem zyi {E:Env0} {fn:Func} {R:AV->Heap->Prop} {h0:Heap} {gs:List Nat} {F:(Addr->Prop)->World->Prop} {c:Cfg} (live:List Nat) (m:Nat) (hm:h0.length<=m) (hg:zbP E fn h0 gs F (cut live m c) R):zbP E fn h0 gs F c R:=by
 intro β0 S0 w0 β S w tmps hb0 hn x0 r rt hf hw
 obtain ⟨r1,hv⟩:=r.first m
 refine hg β0 S0 w0 (β.take m) S w tmps hb0 hn (x0.first r hm hb0) r1 (fun t=>?_) ⟨hf.new,hf.lt,fun g hg b k hb=>?_,hf.sep⟩ hw
 ·rcases zjB m c.ts live t with h1|h1
  ·simp only [cut];rw [h1];exact .d _ _ (.un _)
  ·simp only [cut];rw [h1];exact hv _ _ (rt t)
 ·rw [yM] at hb
  split at hb
  ·exact hf.apart g hg b k hb
  ·cases hb
theorem zzr {E:Env0} (ht:zaH E) (hmix:E.P.follows .mixedOrders=true) {fn:Func} {R:AV->Heap->Prop} {h0:Heap} {gs:List Nat} {F:(Addr->Prop)->World->Prop} (hF:Only gs F) {c c':Cfg} (n:Nat) (os:List Orc) (live:List Nat) (m:Nat) {q:List Prop}
  (hm:Nat.ble h0.length m=true) (hq0:(run (mk E) n c os).1=q) (hc:cut live m (run (mk E) n c os).2.1=c') (hq:allP q) (hg:zbP E fn h0 gs F c' R):zbP E fn h0 gs F c R:=by
 subst hq0
 subst hc
 exact zmG ht hmix hF n os hq (zyi live m (yI hm) hg)
structure Touch (g:Nat) (w w':World):Prop where
 os:w'.os=w.os
 tape:w'.tape=w.tape
 drawn:w.drawn<=w'.drawn
 output:w'.output=w.output
 size:w'.heap.size=w.heap.size
 other:∀ b,b≠g->w'.heap[b]?=w.heap[b]?
theorem Touch.cell {g:Nat} {w w':World} (t:Touch g w w') {a:Addr} (ha:a.block≠g):w'.cell? a=w.cell? a:=World.cell?_of_block (t.other a.block ha)
theorem Ext.touch {h0 h:Heap} {β0 β:List Con} {S0 S:Addr->Prop} {w0 w w':World} {gs:List Nat} {g:Nat} (x:Ext h0 β0 S0 w0 h β S w) (t:Touch g w w') (f:Foreign gs β S w0 w) (hg:g∈gs) (hgt:g∈gs.tail):Ext h0 β0 S0 w0 h β S w' where
 box:=x.box
 con:=x.con
 row:=x.row
 mp:=x.mp
 conm:=x.conm
 S_le:=x.S_le
 S_cell:=fun a ha=>(t.cell (f.sep g hg a (x.S_le a ha))).trans (x.S_cell a ha)
 S_new:=x.S_new
 os:=t.os.trans x.os
 tape:=t.tape.trans x.tape
 drawn:=Nat.le_trans x.drawn t.drawn
 output:=t.output.trans x.output
 size:=by rw [t.size];exact x.size
 keep:=fun b hb hne=>(t.other b (by have:=f.new g hgt;omega)).trans (x.keep b hb hne)
 new:=x.new
theorem RelV.cells {T:TypeId->TI} {h:Heap} {β:List Con} {S:Addr->Prop} {w w':World} (hc:∀ a,S a->w'.cell? a=w.cell? a) {x:AV} {y:Value} (hr:RelV T h β w S x y):RelV T h β w' S x y:=by
 induction hr with
 | d x y hd=>exact .d x y (hd.mono (fun _ h=>h) hc)
 | agg cs vs hl ho _ ih=>exact .agg cs vs hl ho ih
 | tup cs vs hl _ ih=>exact .tup cs vs hl ih
 | nl a=>exact .nl a
 | p b off g hb=>exact .p b off g hb
 | own b n y e xs sh hb hn hy ho=>exact .own b n y e xs sh hb hn hy ho
 | ep b n i off g e xs sh hb hn hy=>exact .ep b n i off g e xs sh hb hn hy
 | os b n lo hi y e xs sh hb hn hl hh ho hy=>exact .os b n lo hi y e xs sh hb hn hl hh ho hy
 | fn f caps vs hl _ ih=>exact .fn f caps vs hl ih
 | mp b g hb=>exact .mp b g hb
theorem Rel.touch {E:Env0} {h:Heap} {β:List Con} {S:Addr->Prop} {w0 w w':World} {gs:List Nat} {g:Nat} (r:Rel E h β S w) (t:Touch g w w') (f:Foreign gs β S w0 w) (hg:g∈gs):Rel E h β S w' where
 len:=r.len
 box:=fun b cs hb=>by
  obtain ⟨q,vs,ty,h1,h2,h3,h4⟩:=r.box b cs hb
  exact ⟨q,vs,ty,h1,(t.other q fun e=>f.apart g hg b _ h1 (by rw [← e];rfl)).trans h2,h3,fun i x y hx hy=>⟨(h4 i x y hx hy).1.cells fun a ha=>t.cell (f.sep g hg a ha),(h4 i x y hx hy).2⟩⟩
 row:=fun b e xs sh hb=>by
  obtain ⟨k,h1,h2⟩:=r.row b e xs sh hb
  exact ⟨k,h1,h2.ext (fun _ h=>h) (fun a ha=>t.cell (f.sep g hg a ha)) fun q hq=>t.other q fun e=>f.apart g hg b k h1 (by rw [hq,e])⟩
 mp:=fun b es hb=>by
  obtain ⟨k,h1,h2⟩:=r.mp b es hb
  exact ⟨k,h1,h2.ext (fun _ h=>h) (fun a ha=>t.cell (f.sep g hg a ha)) (t.other k fun e=>f.apart g hg b _ h1 (by rw [← e];rfl))⟩
 apart:=r.apart
 lt:=fun b k q h1 h2=>by rw [t.size];exact r.lt b k q h1 h2
 stable:=fun a ha=>by rw [t.size];exact r.stable a ha
 free:=r.free
 glob:=fun q cs hq=>(r.glob q cs hq).mono (fun _ h=>h) fun a ha=>t.cell (f.sep g hg a ha)
theorem zaF.touch {E:Env0} {h:Heap} {β:List Con} {S:Addr->Prop} {w0 w w':World} {gs:List Nat} {g:Nat} {ts:TS} {tmps:Array Value} (rt:zaF E.T h β w S ts tmps) (t:Touch g w w') (f:Foreign gs β S w0 w) (hg:g∈gs):zaF E.T h β w' S ts tmps :=
 fun q=>(rt q).cells fun a ha=>t.cell (f.sep g hg a ha)
theorem Foreign.touch {gs:List Nat} {β:List Con} {S:Addr->Prop} {w0 w w':World} {g:Nat} (f:Foreign gs β S w0 w) (t:Touch g w w'):Foreign gs β S w0 w':=⟨f.new,fun q hq=>by rw [t.size];exact f.lt q hq,f.apart,f.sep⟩
/-! ### 'for k, v := range m' -/
def zjy (L:List (AV × AV)) (seen:Array Nat):List (AV × AV):=((List.range L.length).filter fun i=>!seen.contains i).filterMap fun i=>L[i]?
def ItF (gm gi:Nat) (l:List (AV × AV)) (cur:Option (AV × AV)) (S:Addr->Prop) (w:World):Prop:=∃ (L:List (AV × AV)) (ents:Array MapEntry) (seen:Array Nat) (c0:Nat),
 w.heap[gm]?=some (.map ents L.length)/\ents.size=L.length/\(∀ (i:Nat) (k x:AV),L[i]?=some (k,x)->∃ (kv xv:Value),ents[i]?=some ⟨kv,xv,i⟩/\RelD w S k kv/\RelD w S x xv) /\
 w.heap[gi]?=some (.mapIter (some gm) L.length seen c0)/\L.length<=c0/\l.Perm (zjy L seen) /\
 ∀ p,cur=some p->∃ (s':Array Nat) (i:Nat),seen=s'.push i/\L[i]?=some p/\c0=L.length
theorem zoc (gm gi:Nat) (l:List (AV × AV)) (cur:Option (AV × AV)):Only [gm,gi] (ItF gm gi l cur):=by
 intro S S' w w' hS hc hg ⟨L,ents,seen,c0,h1,h2,h3,h4,h5,h6,h7⟩
 exact ⟨L,ents,seen,c0,(hg gm Zs).trans h1,h2,fun i k x hi=>by
  obtain ⟨kv,xv,a1,a2,a3⟩:=h3 i k x hi
  exact ⟨kv,xv,a1,a2.mono hS hc,a3.mono hS hc⟩,(hg gi Zs).trans h4,h5,h6,h7⟩
theorem zpv {α:Type} (L:List α):∀ n:Nat,(List.range n).filterMap (fun i=>L[i]?)=L.take n
 | 0=>by simp
 | n+1=>by
  rw [List.range_succ,List.filterMap_append,zpv L n,yP]
  congr 1
theorem zwX (L:List (AV × AV)):zjy L #[]=L:=by
 unfold zjy
 have:(List.range L.length).filter (fun i=>!(#[]:Array Nat).contains i)=List.range L.length:=by simp
 rw [this,zpv,yL]
theorem zwN {E:Env0} {fn:Func} {h0 h:Heap} {all r:List Oper} {o:Oper} {k:List It} {n:Nat} {ts:TS} {R:AV->Heap->Prop} {t kt et:TypeId} {tm b d:Nat} {es:List (AV × AV)} (live:List Nat) (hop:o.op=.range t (.tmp tm)) (hgd:o.guard=none) (hd:o.dst=some d) (hdn:d < n)
  (ht:E.P.underlying t=some (.map kt et)) (hm:look ts tm=.mp b) (hb:h[b]?=some (.mp es)) (hb0:Nat.ble h0.length b=true)
  (H:∀ gm gi,zbP E fn h0 [gm,gi] (ItF gm gi es none) ⟨n,.ops all r::k,(d,.v (.pointer (some ⟨gi,0,none⟩)))::mask live b ts,(h.take b).map (zbf (zcr b))⟩ R):Good E fn h0 ⟨n,.ops all (o::r)::k,ts,h⟩ R:=by
 intro β0 S0 w0 β S w tmps hβ hn x0 r0 rt
 have hb0:=yI hb0
 simp only at hn x0 r0 rt
 obtain ⟨gm,c1,L,ents,c2,c3,c4,c5⟩:=r0.mp b es hb
 have hmv:=rt tm
 rw [hm] at hmv
 generalize hev:tmps.getD tm undef=mv at hmv
 cases hmv with
 | d _ _ hd=>cases hd
 | mp _ g' c1' =>
 rw [c1] at c1'
 cases c1'
 have hgl:gm < w.heap.size:=r0.lt b _ gm c1 rfl
 have hbl:BelowD w.heap.size w (w.alloc (.mapIter (some gm) L.length #[] L.length)):=(BelowD.refl _ _).alloc (yJ _) _
 have x1:Ext h β S w h β S (w.alloc (.mapIter (some gm) L.length #[] L.length)):=Ext.grow r0 hbl (fun _ h=>h) (fun _ h=>.inl h)
 have r1:Rel E h β S (w.alloc (.mapIter (some gm) L.length #[] L.length)):=r0.grow hbl (fun _ h=>h) (fun _ h=>.inl h)
 obtain ⟨r2,hv2⟩:=r1.first b
 have hno:∀ a,S a->a.block≠gm:=by
  intro a ha hag
  obtain ⟨e,xs,h1,_⟩:=r0.free b _ gm a c1 rfl ha hag
  rw [hb] at h1
  cases h1
 simp only [kont,Exit.then]
 refine wpList_step fun K hK=>?_
 show wpG E.P all.toArray o ⟨tmps,[]⟩ w K _
 unfold wpG
 rw [if_pos (by simp [Region.wanted,hgd])]
 unfold Oper.wp
 have hrun:(execOp (Act.eval ⟨tmps,[]⟩) o).run E.P w=.ok (.value (.pointer (some ⟨w.heap.size,0,none⟩))) (w.alloc (.mapIter (some gm) L.length #[] L.length)):=by
  simp only [execOp,hop,Act.eval,hev,run_range_map w t kt et gm ents L.length ht c3,Sem.run_bind,Result.andThen_ok,Sem.run_pure]
 rw [hrun,Oper.upon_value,zb3]
 refine hK _ _ ?_
 have rt2:zaF E.T ((h.take b).map (zbf (zcr b))) (β.take b) (w.alloc (.mapIter (some gm) L.length #[] L.length)) S (mask live b ts) tmps:=fun q=>by
  rcases zjB b ts live q with h1|h1
  ·rw [h1];exact .d _ _ (.un _)
  ·rw [h1];exact hv2 _ _ ((rt q).ext x1)
 have rt3:=rt2.put (d:=some d) (x:=.v (.pointer (some ⟨w.heap.size,0,none⟩))) (y:=.pointer (some ⟨w.heap.size,0,none⟩)) (by simp only [zaR];exact Nat.ble_eq_true_of_le (by rw [hn];exact hdn)) (.d _ _ (.v _ rfl))
 have hsz:(w.alloc (.mapIter (some gm) L.length #[] L.length)).heap.size=w.heap.size+1:=by
  show (w.heap.push _).size=_
  simp
 have hfor:Foreign [gm,w.heap.size] (β.take b) S w0 (w.alloc (.mapIter (some gm) L.length #[] L.length)):=by
  refine ⟨fun g hg=>?_,fun g hg=>?_,fun g hg b' k' hb' hk'=>?_,fun g hg a ha=>?_⟩
  ·simp only [List.tail_cons,yF] at hg;subst hg;exact x0.size
  ·rw [hsz]
   rcases yO.1 hg with rfl|hg
   ·omega
   ·simp only [yF] at hg;omega
  ·rw [yM] at hb'
   split at hb'
   ·rename_i hlt
    rcases yO.1 hg with rfl|hg
    ·have:=r0.apart b' b k' _ g hb' c1 hk' rfl
     omega
    ·simp only [yF] at hg
     subst hg
     have:=r0.lt b' k' _ hb' hk'
     omega
   ·cases hb'
  ·rcases yO.1 hg with rfl|hg
   ·exact hno a ha
   ·simp only [yF] at hg
    have:=r0.stable a ha
    omega
 have hit:ItF gm w.heap.size es none S (w.alloc (.mapIter (some gm) L.length #[] L.length)):=by
  refine ⟨L,ents,#[],L.length,(hbl.block gm hgl).trans c3,c4,fun i k x hi=>?_,heap_alloc_new w _,yJ _,by rw [zwX];exact c2.symm,by simp⟩
  obtain ⟨kv,xv,a1,a2,a3⟩:=c5 i k x hi
  exact ⟨kv,xv,a1,a2.mono (fun _ h=>h) x1.S_cell,a3.mono (fun _ h=>h) x1.S_cell⟩
 have:=H gm w.heap.size β0 S0 w0 (β.take b) S _ _ hβ (by rw [zcz];exact hn) ((x0.trans x1).first r1 hb0 hβ) r2 rt3 hfor hit
 simp only [kont,Exit.then] at this
 rw [hd]
 exact this
theorem zys {L:List (AV × AV)} {seen:Array Nat} {i:Nat} {p:AV × AV} (hi:L[i]?=some p) (hs:seen.contains i=false):(zjy L seen).Perm (p::zjy L (seen.push i)):=by
 have hil:=(yB.1 hi).1
 have hF:((List.range L.length).filter fun j=>!seen.contains j).Perm (i::(List.range L.length).filter fun j=>!(seen.push i).contains j):=by
  have hm:i∈(List.range L.length).filter fun j=>!seen.contains j:=by
   rw [List.mem_filter]
   exact ⟨List.mem_range.2 hil,by rw [hs];rfl⟩
  have h1:=List.perm_cons_erase hm
  have hn:((List.range L.length).filter fun j=>!seen.contains j).Nodup:=List.nodup_range.filter _
  rw [hn.erase_eq_filter,List.filter_filter] at h1
  refine h1.trans (.of_eq (congrArg _ ?_))
  apply List.filter_congr
  intro j _
  rw [contains_push]
  cases seen.contains j <;> cases hji:(j==i) <;> simp [bne,hji]
 have:=hF.filterMap fun j=>L[j]?
 rw [List.filterMap_cons_some hi] at this
 exact this
theorem zo2 {α:Type}:∀ (l:List α) (j:Nat) (p:α),l[j]?=some p->l.Perm (p::l.eraseIdx j)
 | [],j,p,h=>by simp at h
 | a::l,0,p,h=>by simp at h;subst h;exact .refl _
 | a::l,j+1,p,h=>by
  have:=zo2 l j p (by simpa using h)
  exact (this.cons a).trans (.swap _ _ _)
theorem zmu {L:List (AV × AV)} {ents:Array MapEntry} {w:World} {S:Addr->Prop} (hl:ents.size=L.length) (h3:∀ (i:Nat) (k x:AV),L[i]?=some (k,x)->∃ (kv xv:Value),ents[i]?=some ⟨kv,xv,i⟩/\RelD w S k kv/\RelD w S x xv) :
  (∀ e∈ents.toList,ents[e.born]?=some e/\e.born < L.length)/\(ents.toList.map (·.born)).Nodup:=by
 have at_:∀ (i:Nat) (e:MapEntry),ents[i]?=some e->e.born=i/\i < L.length:=by
  intro i e he
  have hi:i < L.length:=by rw [← hl];exact (yAe.1 he).1
  obtain ⟨kv,xv,e1,_⟩:=h3 i L[i].1 L[i].2 (yE hi)
  rw [he] at e1
  cases e1
  exact ⟨rfl,hi⟩
 refine ⟨fun e he=>?_,?_⟩
 ·obtain ⟨i,hi⟩:=yQ he
  rw [yW] at hi
  obtain ⟨h1,h2⟩:=at_ i e hi
  rw [h1]
  exact ⟨hi,h2⟩
 ·have:ents.toList.map (·.born)=List.range L.length:=by
   apply yAZ
   intro i
   rw [yS,yW]
   by_cases hi:i < L.length
   ·have h5:ents[i]?=some (ents[i]'Zo):=yAc Zo
    rw [h5,yAC,(at_ i _ h5).1,List.getElem?_range hi]
   ·rw [yAj Zo,yAX Zp]
    rfl
  rw [this]
  exact List.nodup_range
theorem zyR {w w1:World} {g:Nat} {o:Obj} (h:w1=w\/w1=w.drew):Touch g w (ChangeMaps.setBlock w1 g o):=by
 rcases h with rfl|rfl
 ·exact ⟨rfl,rfl,yJ _,rfl,by simp [ChangeMaps.setBlock],fun b hb=>by simp [ChangeMaps.setBlock,Ne.symm hb]⟩
 ·have hd:∀ v:World,v.drew.heap=v.heap:=fun _=>rfl
  exact ⟨rfl,rfl,Nat.le_succ _,rfl,by simp [ChangeMaps.setBlock,hd],fun b hb=>by simp [ChangeMaps.setBlock,hd,Ne.symm hb]⟩
theorem zwK {E:Env0} {fn:Func} {h0 h:Heap} {all r:List Oper} {o:Oper} {k:List It} {n:Nat} {ts:TS} {R:AV->Heap->Prop} {gm gi ti d:Nat} {l:List (AV × AV)} {cur:Option (AV × AV)} (hop:o.op=.next (.tmp ti) false) (hgd:o.guard=none) (hd:o.dst=some d) (hdn:d < n)
  (hm:look ts ti=.v (.pointer (some ⟨gi,0,none⟩)))
  (H0:l=[]->zbP E fn h0 [gm,gi] (ItF gm gi [] none) ⟨n,.ops all r::k,(d,.tup [.bl false])::ts,h⟩ R)
  (H1:∀ (j:Nat) (kx x:AV),l[j]?=some (kx,x)->zbP E fn h0 [gm,gi] (ItF gm gi (l.eraseIdx j) (some (kx,x))) ⟨n,.ops all r::k,(d,.tup [.bl true,kx,x])::ts,h⟩ R) :
  zbP E fn h0 [gm,gi] (ItF gm gi l cur) ⟨n,.ops all (o::r)::k,ts,h⟩ R:=by
 intro β0 S0 w0 β S w tmps hβ hn x0 r0 rt hf ⟨L,ents,seen,c0,h1,h2,h3,h4,h5,h6,h7⟩
 simp only at hn x0 r0 rt
 have hmv:=rt ti
 rw [hm] at hmv
 have hev:=hmv.v_inv
 obtain ⟨hb1,hb2⟩:=zmu h2 h3
 have hne:gm≠gi:=by
  rintro rfl
  rw [h1] at h4
  cases h4
 simp only [kont,Exit.then]
 refine wpList_step fun K hK=>?_
 show wpG E.P all.toArray o ⟨tmps,[]⟩ w K _
 unfold wpG
 rw [if_pos (by simp [Region.wanted,hgd])]
 unfold Oper.wp
 have hdd:zaR tmps.size (some d)=true:=by simp only [zaR];exact Nat.ble_eq_true_of_le (by rw [hn];exact hdn)
 rcases run_next_at (P:=E.P) w o.type gi gm L.length c0 seen ents L.length h4 h1 (fun x hx=>(hb1 x hx).2) h5 with ⟨hz,hrun⟩|⟨e,he,w1,hw1,hrun⟩
 ·have hrun':(execOp (Act.eval ⟨tmps,[]⟩) o).run E.P w=.ok (.value (.tuple #[.bool false])) w:=by
   simp only [execOp,hop,Act.eval,hev,hrun,Sem.run_bind,Result.andThen_ok,Sem.run_pure]
  rw [hrun',Oper.upon_value,zb3]
  refine hK _ _ ?_
  have hall:=all_seen ents seen hz
  have hnil:zjy L seen=[]:=by
   unfold zjy
   have:((List.range L.length).filter fun i=>!seen.contains i)=[]:=by
    rw [List.filter_eq_nil_iff]
    intro i hi
    have hi:=List.mem_range.1 hi
    obtain ⟨kv,xv,e1,_⟩:=h3 i L[i].1 L[i].2 (yE hi)
    have:=hall _ (Array.mem_toList_iff.2 (Array.mem_of_getElem? e1))
    simp only at this
    rw [this]
    decide
   rw [this]
   rfl
  rw [hnil] at h6
  have hl:=h6.eq_nil
  have:=H0 hl β0 S0 w0 β S w _ hβ (by rw [zcz];exact hn) x0 r0 (rt.put (d:=some d) (x:=.tup [.bl false]) (y:=.tuple #[.bool false]) hdd (.d _ _ (.tup [.bl false] [.bool false] rfl (fun i p q hp hq=>by
   cases i with
   | zero=>simp at hp hq;subst hp;subst hq;exact .bl _
   | succ i=>simp at hp)))) hf ⟨L,ents,seen,c0,h1,h2,h3,h4,h5,by rw [hnil],by simp⟩
  simp only [kont,Exit.then] at this
  rw [hd]
  exact this
 ·have hrun':(execOp (Act.eval ⟨tmps,[]⟩) o).run E.P w=.ok (.value (.tuple #[.bool true,e.key,e.val])) (ChangeMaps.setBlock w1 gi (.mapIter (some gm) L.length (seen.push e.born) L.length)):=by
   simp only [execOp,hop,Act.eval,hev,hrun,Sem.run_bind,Result.andThen_ok,Sem.run_pure]
  rw [hrun',Oper.upon_value,zb3]
  refine hK _ _ ?_
  obtain ⟨hem,hes⟩:=mem_left he
  obtain ⟨hei,hel⟩:=hb1 e hem
  have hLi:L[e.born]?=some L[e.born]:=yE hel
  obtain ⟨kv,xv,e1,e2,e3⟩:=h3 e.born L[e.born].1 L[e.born].2 hLi
  rw [hei] at e1
  have hstep:=zys hLi hes
  have hmem:L[e.born]∈l:=h6.mem_iff.2 (hstep.mem_iff.2 Zs)
  obtain ⟨j,hj⟩:=yQ hmem
  have hperm:(l.eraseIdx j).Perm (zjy L (seen.push e.born)):=by
   have:=(zo2 l j _ hj).symm.trans (h6.trans hstep)
   exact this.cons_inv
  have t:Touch gi w (ChangeMaps.setBlock w1 gi (.mapIter (some gm) L.length (seen.push e.born) L.length)):=zyR hw1
  have hg:gi∈[gm,gi]:=by simp
  have hcell:∀ a,S a->(ChangeMaps.setBlock w1 gi (.mapIter (some gm) L.length (seen.push e.born) L.length)).cell? a=w.cell? a:=fun a ha=>t.cell (hf.sep gi hg a ha)
  have hkk:e.key=kv/\e.val=xv:=by
   have h9:e=⟨kv,xv,e.born⟩:=by injection e1
   exact ⟨congrArg MapEntry.key h9,congrArg MapEntry.val h9⟩
  have rt2:=(rt.touch (E:=E) t hf hg).put (d:=some d) (x:=.tup [.bl true,L[e.born].1,L[e.born].2]) (y:=.tuple #[.bool true,e.key,e.val]) hdd (.d _ _ (.tup [.bl true,L[e.born].1,L[e.born].2] [.bool true,e.key,e.val] rfl (fun i p q hp hq=>by
   match i,hp,hq with
   | 0,hp,hq=>simp at hp hq;subst hp;subst hq;exact .bl _
   | 1,hp,hq=>simp at hp hq;subst hp;subst hq;rw [hkk.1];exact e2.mono (fun _ h=>h) hcell
   | 2,hp,hq=>simp at hp hq;subst hp;subst hq;rw [hkk.2];exact e3.mono (fun _ h=>h) hcell
   | i+3,hp,hq=>simp at hp)))
  have hit:ItF gm gi (l.eraseIdx j) (some (L[e.born].1,L[e.born].2)) S (ChangeMaps.setBlock w1 gi (.mapIter (some gm) L.length (seen.push e.born) L.length)):=by
   refine ⟨L,ents,seen.push e.born,L.length,(t.other gm hne).trans h1,h2,fun i k x hi=>?_,?_,yJ _,hperm,fun p hp=>⟨seen,e.born,rfl,by rw [hLi];exact hp,rfl⟩⟩
   ·obtain ⟨kv,xv,a1,a2,a3⟩:=h3 i k x hi
    exact ⟨kv,xv,a1,a2.mono (fun _ h=>h) hcell,a3.mono (fun _ h=>h) hcell⟩
   ·have hlt:gi < w1.heap.size:=by
     have:=(yAe.1 h4).1
     rcases hw1 with rfl|rfl <;> exact this
    simp [ChangeMaps.setBlock,hlt]
  have:=H1 j L[e.born].1 L[e.born].2 hj β0 S0 w0 β S _ _ hβ (by rw [zcz];exact hn) (x0.touch t hf hg Zs) (r0.touch t hf hg) rt2 (hf.touch t) hit
  simp only [kont,Exit.then] at this
  rw [hd]
  exact this
theorem zuF {E:Env0} {fn:Func} {h0 h:Heap} {all r:List Oper} {o:Oper} {k:List It} {n:Nat} {ts:TS} {R:AV->Heap->Prop} {gm gi ti d:Nat} {l:List (AV × AV)} {kx x:AV} (hop:o.op=.entry (.tmp ti)) (hgd:o.guard=none) (hd:o.dst=some d) (hdn:d < n)
  (hm:look ts ti=.v (.pointer (some ⟨gi,0,none⟩)))
  (H:zbP E fn h0 [gm,gi] (ItF gm gi l (some (kx,x))) ⟨n,.ops all r::k,(d,.tup [kx,x])::ts,h⟩ R) :
  zbP E fn h0 [gm,gi] (ItF gm gi l (some (kx,x))) ⟨n,.ops all (o::r)::k,ts,h⟩ R:=by
 intro β0 S0 w0 β S w tmps hβ hn x0 r0 rt hf hw
 have hw0:=hw
 obtain ⟨L,ents,seen,c0,h1,h2,h3,h4,h5,h6,h7⟩:=hw
 simp only at hn x0 r0 rt
 have hmv:=rt ti
 rw [hm] at hmv
 have hev:=hmv.v_inv
 obtain ⟨hb1,hb2⟩:=zmu h2 h3
 obtain ⟨s',i,rfl,hi,rfl⟩:=h7 _ rfl
 obtain ⟨kv,xv,e1,e2,e3⟩:=h3 i kx x hi
 simp only [kont,Exit.then]
 refine wpList_step fun K hK=>?_
 show wpG E.P all.toArray o ⟨tmps,[]⟩ w K _
 unfold wpG
 rw [if_pos (by simp [Region.wanted,hgd])]
 unfold Oper.wp
 have hrun:=run_entry_at (P:=E.P) w gi gm L.length s' ents L.length ⟨kv,xv,i⟩ h4 h1 (Array.mem_toList_iff.2 (Array.mem_of_getElem? e1)) hb2
 have hrun':(execOp (Act.eval ⟨tmps,[]⟩) o).run E.P w=.ok (.value (.tuple #[kv,xv])) w:=by
  simp only [execOp,hop,Act.eval,hev,hrun,Sem.run_bind,Result.andThen_ok,Sem.run_pure]
 rw [hrun',Oper.upon_value,zb3]
 refine hK _ _ ?_
 have:=H β0 S0 w0 β S w _ hβ (by rw [zcz];exact hn) x0 r0 (rt.put (d:=some d) (x:=.tup [kx,x]) (y:=.tuple #[kv,xv]) (by simp only [zaR];exact Nat.ble_eq_true_of_le (by rw [hn];exact hdn)) (.d _ _ (.tup [kx,x] [kv,xv] rfl (fun i p q hp hq=>by
  match i,hp,hq with
  | 0,hp,hq=>simp at hp hq;subst hp;subst hq;exact e2
  | 1,hp,hq=>simp at hp hq;subst hp;subst hq;exact e3
  | i+2,hp,hq=>simp at hp)))) hf hw0
 simp only [kont,Exit.then] at this
 rw [hd]
 exact this
end Go.AM
namespace Go.AM
theorem zbp (n:Int):KeyOK E0.P Ty.M_int_bool (iv n):=zyn (kt:=Ty.int) (et:=Ty.bool) kr kr n
theorem zbO (a b:Int) (c:Str):KeyOK E0.P Ty.M_Value_bool (.agg [iv a,iv b,sv c]) :=
 zmU E0ok (kt:=Ty.Value) (et:=Ty.bool) (fs:=E0.P.fieldsOf Ty.Value) kr kr kr zaY rfl rfl
noncomputable def zh1 (fn:Func) (args:List AV) (h:Heap):Cfg:=⟨fn.ntmps,[.code (fn.body.getD .skip)],zbV 0 args,h⟩
def itp (gi:Nat):AV:=.v (.pointer (some ⟨gi,0,none⟩))
noncomputable def zsd (h0:Heap) (c:Cfg) (os:List Orc) (b:Nat):Option (List Prop × TypeId × List (AV × AV)):=match run (mk E0) 3000 c os with
 | (q,⟨n,.ops _ (o::_)::_,ts,h⟩,_)=>match o.op,o.guard,o.dst with
  | .range t (.tmp tm),none,some d=>match look ts tm,Nat.blt d n,Nat.ble h0.length b with
   | .mp b',true,true=>match Nat.beq b' b,h[b]? with
    | true,some (.mp es)=>some (q,t,es)
    | _,_=>none
   | _,_,_=>none
  | _,_,_=>none
 | _=>none
noncomputable def rngK (c:Cfg) (os:List Orc) (live:List Nat) (b gi:Nat):Cfg:=match run (mk E0) 3000 c os with
 | (_,⟨n,.ops all (o::r)::k,ts,h⟩,_)=>⟨n,.ops all r::k,(o.dst.getD 0,itp gi)::mask live b ts,(h.take b).map (zbf (zcr b))⟩
 | (_,c',_)=>c'
theorem wkRl {fn:Func} {h0:Heap} {c:Cfg} {R:AV->Heap->Prop} {t kt et:TypeId} {es:List (AV × AV)} (l:List St) (live:List Nat) (b:Nat) (hu:zsd h0 c (orcs l) b=some (zbe l,t,es)) (ht:E0.P.underlying t=some (.map kt et))
  (hg:∀ gm gi,zbP E0 fn h0 [gm,gi] (ItF gm gi es none) (rngK c (orcs l) live b gi) R):Good E0 fn h0 c R:=by
 unfold zsd at hu
 unfold rngK at hg
 split at hu
 ·rename_i q n all o r k ts h os' hrun
  split at hu
  ·rename_i t' tm d hop hgd hd
   split at hu
   ·rename_i b' hm hdn hb0
    split at hu
    ·rename_i es' hbb hb
     simp only [yA,Prod.mk.injEq] at hu
     obtain ⟨rfl,rfl,rfl⟩:=hu
     have:=yN hbb
     subst this
     refine ziF E0ok mix0 3000 c (orcs l) (by rw [hrun];exact za7 l) ?_
     rw [hrun]
     refine zwN live hop hgd hd (yI hdn) ht hm hb hb0 fun gm gi=>?_
     have:=hg gm gi
     rw [hrun] at this
     simp only [hd,Option.getD_some] at this
     exact this
    ·cases hu
   ·cases hu
  ·cases hu
 ·cases hu
def fnOk (fn : Func) (args : List AV) : Bool := fn.body.isSome && !(fn.name == "runtime.NumGoroutine") && Nat.ble args.length fn.ntmps
theorem wkR {f:FuncId} {fn:Func} {args:List AV} {h:Heap} {R:AV->Heap->Prop} {t kt et:TypeId} {es:List (AV × AV)} (hf:E0.P.funcs[f]?=some fn) (l:List St) (live:List Nat) (b:Nat) (hok:fnOk fn args=true) (hu:zsd h (zh1 fn args h) (orcs l) b=some (zbe l,t,es)) (ht:E0.P.underlying t=some (.map kt et))
  (hg:∀ gm gi,zbP E0 fn h [gm,gi] (ItF gm gi es none) (rngK (zh1 fn args h) (orcs l) live b gi) (Shut h.length R)):zbY E0 f args h R:=by
 simp only [fnOk,yR,Bool.not_eq_true',Option.isSome_iff_exists] at hok
 obtain ⟨⟨⟨c,hb⟩,hn⟩,ha⟩:=hok
 have h1:=wkRl l live b hu ht hg
 have:zh1 fn args h=⟨fn.ntmps,[.code c],zbV 0 args,h⟩:=by simp [zh1,hb]
 rw [this] at h1
 exact zd6 (za6 hf hb hn (yI ha) h1)
theorem wkFl {fn:Func} {R:AV->Heap->Prop} {h0:Heap} {c c':Cfg} {gm gi:Nat} {es:List (AV × AV)} {cur:Option (AV × AV)} (l:List St) (live:List Nat) (m:Nat) (hu:zlR h0 live m c (orcs l)=some (zbe l,c')) (hg:zbP E0 fn h0 [gm,gi] (ItF gm gi es cur) c' R):zbP E0 fn h0 [gm,gi] (ItF gm gi es cur) c R:=by
 unfold zlR at hu
 split at hu
 ·rename_i hm
  have hu:=Option.some.inj hu
  unfold upto at hu
  have h1:(run (mk E0) 3000 c (orcs l)).1=zbe l:=congrArg Prod.fst hu
  have h2:cut live m (run (mk E0) 3000 c (orcs l)).2.1=c':=congrArg Prod.snd hu
  exact zzr E0ok mix0 (zoc _ _ _ _) 3000 (orcs l) live m hm h1 h2 (za7 l) hg
 ·cases hu
theorem zmH {E:Env0} {fn:Func} {h0:Heap} {gs:List Nat} {F:(Addr->Prop)->World->Prop} {c:Cfg} {R:AV->Heap->Prop} (hg:zbP E fn h0 gs F (ziN c) R):zbP E fn h0 gs F c R:=by
 unfold ziN at hg
 split at hg
 ·rename_i b k hk
  obtain ⟨n,todo,ts,h⟩:=c
  simp only at hk
  subst hk
  intro β0 S0 w0 β S w tmps hb0 hn x0 r rt hf hw
  have:=hg β0 S0 w0 β S w tmps hb0 hn x0 r rt hf hw
  simp only [kont,Exit.then] at this ⊢
  refine zpp (wp_mono this fun e a w he=>?_)
  cases e <;> exact he
 ·exact hg
noncomputable def nxtOk (c:Cfg) (os:List Orc):Option (List Prop × AV):=match run (mk E0) 3000 c os with
 | (q,⟨n,.ops _ (o::_)::_,ts,_⟩,_)=>match o.op,o.guard,o.dst with
  | .next (.tmp ti) false,none,some d=>match Nat.blt d n with
   | true=>some (q,look ts ti)
   | false=>none
  | _,_,_=>none
 | _=>none
noncomputable def nxtK (c:Cfg) (os:List Orc) (v:AV):Cfg:=match run (mk E0) 3000 c os with
 | (_,⟨n,.ops all (o::r)::k,ts,h⟩,_)=>⟨n,.ops all r::k,(o.dst.getD 0,v)::ts,h⟩
 | (_,c',_)=>c'
theorem wkN {fn:Func} {h0:Heap} {c:Cfg} {R:AV->Heap->Prop} {gm gi:Nat} {es:List (AV × AV)} {cur:Option (AV × AV)} (l:List St) (hu:nxtOk c (orcs l)=some (zbe l,itp gi))
  (H0:es=[]->zbP E0 fn h0 [gm,gi] (ItF gm gi [] none) (nxtK c (orcs l) (.tup [.bl false])) R)
  (H1:∀ (j:Nat) (kx x:AV),es[j]?=some (kx,x)->zbP E0 fn h0 [gm,gi] (ItF gm gi (es.eraseIdx j) (some (kx,x))) (nxtK c (orcs l) (.tup [.bl true,kx,x])) R):zbP E0 fn h0 [gm,gi] (ItF gm gi es cur) c R:=by
 unfold nxtOk at hu
 unfold nxtK at H0 H1
 split at hu
 ·rename_i q n all o r k ts h os' hrun
  split at hu
  ·rename_i ti d hop hgd hd
   split at hu
   ·rename_i hdn
    simp only [yA,Prod.mk.injEq] at hu
    obtain ⟨rfl,hm⟩:=hu
    refine zmG E0ok mix0 (zoc _ _ _ _) 3000 (orcs l) (by rw [hrun];exact za7 l) ?_
    rw [hrun] at H0 H1 ⊢
    simp only [hd,Option.getD_some] at H0 H1
    exact zwK hop hgd hd (yI hdn) hm H0 H1
   ·cases hu
  ·cases hu
 ·cases hu
noncomputable def entOk (c:Cfg) (os:List Orc):Option (List Prop × AV):=match run (mk E0) 3000 c os with
 | (q,⟨n,.ops _ (o::_)::_,ts,_⟩,_)=>match o.op,o.guard,o.dst with
  | .entry (.tmp ti),none,some d=>match Nat.blt d n with
   | true=>some (q,look ts ti)
   | false=>none
  | _,_,_=>none
 | _=>none
theorem wkE2 {fn:Func} {h0:Heap} {c:Cfg} {R:AV->Heap->Prop} {gm gi:Nat} {es:List (AV × AV)} {kx x:AV} (l:List St) (hu:entOk c (orcs l)=some (zbe l,itp gi))
  (H:zbP E0 fn h0 [gm,gi] (ItF gm gi es (some (kx,x))) (nxtK c (orcs l) (.tup [kx,x])) R):zbP E0 fn h0 [gm,gi] (ItF gm gi es (some (kx,x))) c R:=by
 unfold entOk at hu
 unfold nxtK at H
 split at hu
 ·rename_i q n all o r k ts h os' hrun
  split at hu
  ·rename_i ti d hop hgd hd
   split at hu
   ·rename_i hdn
    simp only [yA,Prod.mk.injEq] at hu
    obtain ⟨rfl,hm⟩:=hu
    refine zmG E0ok mix0 (zoc _ _ _ _) 3000 (orcs l) (by rw [hrun];exact za7 l) ?_
    rw [hrun] at H ⊢
    simp only [hd,Option.getD_some] at H
    exact zuF hop hgd hd (yI hdn) hm H
   ·cases hu
  ·cases hu
 ·cases hu
theorem wkRF {f:FuncId} {fn:Func} {args:List AV} {h:Heap} {R:AV->Heap->Prop} {kt et:TypeId} {es:List (AV × AV)} (L:Nat->Cfg) (t:TypeId) (hf:E0.P.funcs[f]?=some fn) (l:List St) (live:List Nat) (b:Nat) (l2:List St) (live2:List Nat) (m:Nat) (hok:fnOk fn args=true) (hu:zsd h (zh1 fn args h) (orcs l) b=some (zbe l,t,es)) (ht:E0.P.underlying t=some (.map kt et))
  (hk:∀ gi,zlR h live2 m (rngK (zh1 fn args h) (orcs l) live b gi) (orcs l2)=some (zbe l2,L gi))
  (hg:∀ gm gi,zbP E0 fn h [gm,gi] (ItF gm gi es none) (L gi) (Shut h.length R)):zbY E0 f args h R :=
 wkR hf l live b hok hu ht fun gm gi=>wkFl l2 live2 m (hk gi) (hg gm gi)
end Go.AM
