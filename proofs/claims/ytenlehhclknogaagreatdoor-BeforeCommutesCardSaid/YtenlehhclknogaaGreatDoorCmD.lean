/-
  Contracts of the program's functions, part 3.
-/
import Derived.Test.YtenlehhclknogaaGreatDoorCmC
import Derived.Laws.Externs
import Derived.Lib.Bytealg
set_option linter.unusedSimpArgs false
set_option linter.unusedVariables false
namespace Go.AM
set_option maxRecDepth 100000
set_option maxHeartbeats 1000000
set_option linter.unusedSimpArgs false
set_option linter.unusedVariables false
def zn2 (kind op:Int) (xs:List X) (qs:List Qy) (st:Bool) (it wh:List X):Bool :=
 bif kind==1 then
  bif (↑(zaa xs).length:Int)==0 then
   (↑(zad qs).length:Int)==0
  else
   false
 else
  bif kind==2 then
   bif (↑(zaa xs).length:Int)==0 then
    (↑(zad qs).length:Int)==0
   else
    false
  else
   bif kind==3 then
    bif (↑(zaa xs).length:Int)==1 then
     (↑(zad qs).length:Int)==0
    else
     false
   else
    bif kind==4 then
     bif (↑(zaa xs).length:Int)==1 then
      (↑(zad qs).length:Int)==0
     else
      false
    else
     bif kind==6 then
      bif (↑(zaa xs).length:Int)==1 then
       (↑(zad qs).length:Int)==0
      else
       false
     else
      bif kind==5 then
       bif decide (op < 1) then
        false
       else
        bif decide (13 < op) then
         false
        else
         bif (↑(zaa xs).length:Int)==2 then
          (↑(zad qs).length:Int)==0
         else
          false
      else
       bif kind==7 then
        bif (↑(zaa xs).length:Int)==3 then
         (↑(zad qs).length:Int)==0
        else
         false
       else
        bif kind==8 then
         bif (↑(zaa xs).length:Int)==0 then
          bif (↑(zad qs).length:Int)==1 then
           bif (↑(zaa it).length:Int)==0 then
            decide ((↑(zaa wh).length:Int)≤1)
           else
            false
          else
           false
         else
          false
        else
         bif kind==9 then
          bif (↑(zaa xs).length:Int)==0 then
           bif (↑(zad qs).length:Int)==1 then
            bif (↑(zaa it).length:Int)==0 then
             decide ((↑(zaa wh).length:Int)≤1)
            else
             false
           else
            false
          else
           false
         else
          bif kind==10 then
           bif (↑(zaa xs).length:Int)==0 then
            bif (↑(zad qs).length:Int)==1 then
             bif (↑(zaa it).length:Int)==1 then
              decide ((↑(zaa wh).length:Int)≤1)
             else
              false
            else
             false
           else
            false
          else
           bif kind==11 then
            bif (↑(zaa xs).length:Int)==0 then
             bif (↑(zad qs).length:Int)==1 then
              bif (↑(zaa it).length:Int)==1 then
               decide ((↑(zaa wh).length:Int)≤1)
              else
               false
             else
              false
            else
             false
           else
            bif kind==12 then
             bif (↑(zaa xs).length:Int)==0 then
              bif (↑(zad qs).length:Int)==1 then
               bif (↑(zaa it).length:Int)==1 then
                decide ((↑(zaa wh).length:Int)≤1)
               else
                false
              else
               false
             else
              false
            else
             false
theorem zk6 (kind op:Int) (xs:List X) (qs:List Qy) (st:Bool) (it wh:List X) (nt:Bool) (val:V) (tn nm:Str) (fm:Str) (hq:qs[0]?=some (Qy.mk st it fm wh)):zac E0 S.ref11_Shape [X.av (.mk kind op nt val tn nm xs qs)] [] (bv (zn2 kind op xs qs st it wh)) []:=by
 unfold zn2
 cases h1:kind==1
 ·cases h2:kind==2
  ·cases h3:kind==3
   ·cases h4:kind==4
    ·cases h5:kind==6
     ·cases h6:kind==5
      ·cases h7:kind==7
       ·cases h8:kind==8
        ·cases h9:kind==9
         ·cases h10:kind==10
          ·cases h11:kind==11
           ·cases h12:kind==12
            ·exact wk At.ref11_Shape [sb h1,sb h2,sb h3,sb h4,sb h5,sb h6,sb h7,sb h8,sb h9,sb h10,sb h11,sb h12] kr
            ·cases h13:(↑(zaa xs).length:Int)==0
             ·exact wk At.ref11_Shape [sb h1,sb h2,sb h3,sb h4,sb h5,sb h6,sb h7,sb h8,sb h9,sb h10,sb h11,sb h12,sb (rfl:false=false),sb h13] kr
             ·cases h14:(↑(zad qs).length:Int)==1
              ·exact wk At.ref11_Shape [sb h1,sb h2,sb h3,sb h4,sb h5,sb h6,sb h7,sb h8,sb h9,sb h10,sb h11,sb h12,sb (rfl:false=false),sg h13,sb h14] kr
              ·cases h15:(↑(zaa it).length:Int)==1
               ·exact wk At.ref11_Shape [sb h1,sb h2,sb h3,sb h4,sb h5,sb h6,sb h7,sb h8,sb h9,sb h10,sb h11,sb h12,sb (rfl:false=false),sg h13,sg h14,se (zaX hq),sb h15] kr
               ·exact wk At.ref11_Shape [sb h1,sb h2,sb h3,sb h4,sb h5,sb h6,sb h7,sb h8,sb h9,sb h10,sb h11,sb h12,sb (rfl:false=false),sg h13,sg h14,se (zaX hq),sg h15,se (zaX hq)] kr
           ·cases h16:(↑(zaa xs).length:Int)==0
            ·exact wk At.ref11_Shape [sb h1,sb h2,sb h3,sb h4,sb h5,sb h6,sb h7,sb h8,sb h9,sb h10,sb h11,sb (rfl:false=false),sb h16] kr
            ·cases h17:(↑(zad qs).length:Int)==1
             ·exact wk At.ref11_Shape [sb h1,sb h2,sb h3,sb h4,sb h5,sb h6,sb h7,sb h8,sb h9,sb h10,sb h11,sb (rfl:false=false),sg h16,sb h17] kr
             ·cases h18:(↑(zaa it).length:Int)==1
              ·exact wk At.ref11_Shape [sb h1,sb h2,sb h3,sb h4,sb h5,sb h6,sb h7,sb h8,sb h9,sb h10,sb h11,sb (rfl:false=false),sg h16,sg h17,se (zaX hq),sb h18] kr
              ·exact wk At.ref11_Shape [sb h1,sb h2,sb h3,sb h4,sb h5,sb h6,sb h7,sb h8,sb h9,sb h10,sb h11,sb (rfl:false=false),sg h16,sg h17,se (zaX hq),sg h18,se (zaX hq)] kr
          ·cases h19:(↑(zaa xs).length:Int)==0
           ·exact wk At.ref11_Shape [sb h1,sb h2,sb h3,sb h4,sb h5,sb h6,sb h7,sb h8,sb h9,sb h10,sb (rfl:false=false),sb h19] kr
           ·cases h20:(↑(zad qs).length:Int)==1
            ·exact wk At.ref11_Shape [sb h1,sb h2,sb h3,sb h4,sb h5,sb h6,sb h7,sb h8,sb h9,sb h10,sb (rfl:false=false),sg h19,sb h20] kr
            ·cases h21:(↑(zaa it).length:Int)==1
             ·exact wk At.ref11_Shape [sb h1,sb h2,sb h3,sb h4,sb h5,sb h6,sb h7,sb h8,sb h9,sb h10,sb (rfl:false=false),sg h19,sg h20,se (zaX hq),sb h21] kr
             ·exact wk At.ref11_Shape [sb h1,sb h2,sb h3,sb h4,sb h5,sb h6,sb h7,sb h8,sb h9,sb h10,sb (rfl:false=false),sg h19,sg h20,se (zaX hq),sg h21,se (zaX hq)] kr
         ·cases h22:(↑(zaa xs).length:Int)==0
          ·exact wk At.ref11_Shape [sb h1,sb h2,sb h3,sb h4,sb h5,sb h6,sb h7,sb h8,sb h9,sb (rfl:false=false),sb h22] kr
          ·cases h23:(↑(zad qs).length:Int)==1
           ·exact wk At.ref11_Shape [sb h1,sb h2,sb h3,sb h4,sb h5,sb h6,sb h7,sb h8,sb h9,sb (rfl:false=false),sg h22,sb h23] kr
           ·cases h24:(↑(zaa it).length:Int)==0
            ·exact wk At.ref11_Shape [sb h1,sb h2,sb h3,sb h4,sb h5,sb h6,sb h7,sb h8,sb h9,sb (rfl:false=false),sg h22,sg h23,se (zaX hq),sb h24] kr
            ·exact wk At.ref11_Shape [sb h1,sb h2,sb h3,sb h4,sb h5,sb h6,sb h7,sb h8,sb h9,sb (rfl:false=false),sg h22,sg h23,se (zaX hq),sg h24,se (zaX hq)] kr
        ·cases h25:(↑(zaa xs).length:Int)==0
         ·exact wk At.ref11_Shape [sb h1,sb h2,sb h3,sb h4,sb h5,sb h6,sb h7,sb h8,sb (rfl:false=false),sb h25] kr
         ·cases h26:(↑(zad qs).length:Int)==1
          ·exact wk At.ref11_Shape [sb h1,sb h2,sb h3,sb h4,sb h5,sb h6,sb h7,sb h8,sb (rfl:false=false),sg h25,sb h26] kr
          ·cases h27:(↑(zaa it).length:Int)==0
           ·exact wk At.ref11_Shape [sb h1,sb h2,sb h3,sb h4,sb h5,sb h6,sb h7,sb h8,sb (rfl:false=false),sg h25,sg h26,se (zaX hq),sb h27] kr
           ·exact wk At.ref11_Shape [sb h1,sb h2,sb h3,sb h4,sb h5,sb h6,sb h7,sb h8,sb (rfl:false=false),sg h25,sg h26,se (zaX hq),sg h27,se (zaX hq)] kr
       ·cases h28:(↑(zaa xs).length:Int)==3
        ·exact wk At.ref11_Shape [sb h1,sb h2,sb h3,sb h4,sb h5,sb h6,sb h7,sb (rfl:true=true),sb h28] kr
        ·exact wk At.ref11_Shape [sb h1,sb h2,sb h3,sb h4,sb h5,sb h6,sb h7,sb (rfl:true=true),sg h28] kr
      ·cases h29:decide (op < 1)
       ·cases h30:decide (13 < op)
        ·cases h31:(↑(zaa xs).length:Int)==2
         ·exact wk At.ref11_Shape [sb h1,sb h2,sb h3,sb h4,sb h5,sb h6,sg h29,sb h30,sb (rfl:true=true),sb h31] kr
         ·exact wk At.ref11_Shape [sb h1,sb h2,sb h3,sb h4,sb h5,sb h6,sg h29,sb h30,sb (rfl:true=true),sg h31] kr
        ·exact wk At.ref11_Shape [sb h1,sb h2,sb h3,sb h4,sb h5,sb h6,sg h29,sb h30] kr
       ·exact wk At.ref11_Shape [sb h1,sb h2,sb h3,sb h4,sb h5,sb h6,sb h29] kr
     ·cases h32:(↑(zaa xs).length:Int)==1
      ·exact wk At.ref11_Shape [sb h1,sb h2,sb h3,sb h4,sb h5,sb (rfl:true=true),sb h32] kr
      ·exact wk At.ref11_Shape [sb h1,sb h2,sb h3,sb h4,sb h5,sb (rfl:true=true),sg h32] kr
    ·cases h33:(↑(zaa xs).length:Int)==1
     ·exact wk At.ref11_Shape [sb h1,sb h2,sb h3,sb h4,sb (rfl:true=true),sb h33] kr
     ·exact wk At.ref11_Shape [sb h1,sb h2,sb h3,sb h4,sb (rfl:true=true),sg h33] kr
   ·cases h34:(↑(zaa xs).length:Int)==1
    ·exact wk At.ref11_Shape [sb h1,sb h2,sb h3,sb (rfl:true=true),sb h34] kr
    ·exact wk At.ref11_Shape [sb h1,sb h2,sb h3,sb (rfl:true=true),sg h34] kr
  ·cases h35:(↑(zaa xs).length:Int)==0
   ·exact wk At.ref11_Shape [sb h1,sb h2,sb h35] kr
   ·exact wk At.ref11_Shape [sb h1,sb h2,sg h35] kr
 ·cases h36:(↑(zaa xs).length:Int)==0
  ·exact wk At.ref11_Shape [sb h1,sb h36] kr
  ·exact wk At.ref11_Shape [sb h1,sg h36] kr
def zol (kind op:Int) (xs:List X):Bool :=
 bif kind==1 then
  bif (↑(zaa xs).length:Int)==0 then
   (↑(zad []).length:Int)==0
  else
   false
 else
  bif kind==2 then
   bif (↑(zaa xs).length:Int)==0 then
    (↑(zad []).length:Int)==0
   else
    false
  else
   bif kind==3 then
    bif (↑(zaa xs).length:Int)==1 then
     (↑(zad []).length:Int)==0
    else
     false
   else
    bif kind==4 then
     bif (↑(zaa xs).length:Int)==1 then
      (↑(zad []).length:Int)==0
     else
      false
    else
     bif kind==6 then
      bif (↑(zaa xs).length:Int)==1 then
       (↑(zad []).length:Int)==0
      else
       false
     else
      bif kind==5 then
       bif decide (op < 1) then
        false
       else
        bif decide (13 < op) then
         false
        else
         bif (↑(zaa xs).length:Int)==2 then
          (↑(zad []).length:Int)==0
         else
          false
      else
       bif kind==7 then
        bif (↑(zaa xs).length:Int)==3 then
         (↑(zad []).length:Int)==0
        else
         false
       else
        bif kind==8 then
         bif (↑(zaa xs).length:Int)==0 then
          false
         else
          false
        else
         bif kind==9 then
          bif (↑(zaa xs).length:Int)==0 then
           false
          else
           false
         else
          bif kind==10 then
           bif (↑(zaa xs).length:Int)==0 then
            false
           else
            false
          else
           bif kind==11 then
            bif (↑(zaa xs).length:Int)==0 then
             false
            else
             false
           else
            bif kind==12 then
             bif (↑(zaa xs).length:Int)==0 then
              false
             else
              false
            else
             false
theorem zk7 (kind op:Int) (xs:List X) (nt:Bool) (val:V) (tn nm:Str):zac E0 S.ref11_Shape [X.av (.mk kind op nt val tn nm xs [])] [] (bv (zol kind op xs)) []:=by
 unfold zol
 cases h1:kind==1
 ·cases h2:kind==2
  ·cases h3:kind==3
   ·cases h4:kind==4
    ·cases h5:kind==6
     ·cases h6:kind==5
      ·cases h7:kind==7
       ·cases h8:kind==8
        ·cases h9:kind==9
         ·cases h10:kind==10
          ·cases h11:kind==11
           ·cases h12:kind==12
            ·exact wk At.ref11_Shape [sb h1,sb h2,sb h3,sb h4,sb h5,sb h6,sb h7,sb h8,sb h9,sb h10,sb h11,sb h12] kr
            ·cases h13:(↑(zaa xs).length:Int)==0
             ·exact wk At.ref11_Shape [sb h1,sb h2,sb h3,sb h4,sb h5,sb h6,sb h7,sb h8,sb h9,sb h10,sb h11,sb h12,sb (rfl:false=false),sb h13] kr
             ·exact wk At.ref11_Shape [sb h1,sb h2,sb h3,sb h4,sb h5,sb h6,sb h7,sb h8,sb h9,sb h10,sb h11,sb h12,sb (rfl:false=false),sg h13,sb (rfl:false=false)] kr
           ·cases h14:(↑(zaa xs).length:Int)==0
            ·exact wk At.ref11_Shape [sb h1,sb h2,sb h3,sb h4,sb h5,sb h6,sb h7,sb h8,sb h9,sb h10,sb h11,sb (rfl:false=false),sb h14] kr
            ·exact wk At.ref11_Shape [sb h1,sb h2,sb h3,sb h4,sb h5,sb h6,sb h7,sb h8,sb h9,sb h10,sb h11,sb (rfl:false=false),sg h14,sb (rfl:false=false)] kr
          ·cases h15:(↑(zaa xs).length:Int)==0
           ·exact wk At.ref11_Shape [sb h1,sb h2,sb h3,sb h4,sb h5,sb h6,sb h7,sb h8,sb h9,sb h10,sb (rfl:false=false),sb h15] kr
           ·exact wk At.ref11_Shape [sb h1,sb h2,sb h3,sb h4,sb h5,sb h6,sb h7,sb h8,sb h9,sb h10,sb (rfl:false=false),sg h15,sb (rfl:false=false)] kr
         ·cases h16:(↑(zaa xs).length:Int)==0
          ·exact wk At.ref11_Shape [sb h1,sb h2,sb h3,sb h4,sb h5,sb h6,sb h7,sb h8,sb h9,sb (rfl:false=false),sb h16] kr
          ·exact wk At.ref11_Shape [sb h1,sb h2,sb h3,sb h4,sb h5,sb h6,sb h7,sb h8,sb h9,sb (rfl:false=false),sg h16,sb (rfl:false=false)] kr
        ·cases h17:(↑(zaa xs).length:Int)==0
         ·exact wk At.ref11_Shape [sb h1,sb h2,sb h3,sb h4,sb h5,sb h6,sb h7,sb h8,sb (rfl:false=false),sb h17] kr
         ·exact wk At.ref11_Shape [sb h1,sb h2,sb h3,sb h4,sb h5,sb h6,sb h7,sb h8,sb (rfl:false=false),sg h17,sb (rfl:false=false)] kr
       ·cases h18:(↑(zaa xs).length:Int)==3
        ·exact wk At.ref11_Shape [sb h1,sb h2,sb h3,sb h4,sb h5,sb h6,sb h7,sb (rfl:true=true),sb h18] kr
        ·exact wk At.ref11_Shape [sb h1,sb h2,sb h3,sb h4,sb h5,sb h6,sb h7,sb (rfl:true=true),sg h18] kr
      ·cases h19:decide (op < 1)
       ·cases h20:decide (13 < op)
        ·cases h21:(↑(zaa xs).length:Int)==2
         ·exact wk At.ref11_Shape [sb h1,sb h2,sb h3,sb h4,sb h5,sb h6,sg h19,sb h20,sb (rfl:true=true),sb h21] kr
         ·exact wk At.ref11_Shape [sb h1,sb h2,sb h3,sb h4,sb h5,sb h6,sg h19,sb h20,sb (rfl:true=true),sg h21] kr
        ·exact wk At.ref11_Shape [sb h1,sb h2,sb h3,sb h4,sb h5,sb h6,sg h19,sb h20] kr
       ·exact wk At.ref11_Shape [sb h1,sb h2,sb h3,sb h4,sb h5,sb h6,sb h19] kr
     ·cases h22:(↑(zaa xs).length:Int)==1
      ·exact wk At.ref11_Shape [sb h1,sb h2,sb h3,sb h4,sb h5,sb (rfl:true=true),sb h22] kr
      ·exact wk At.ref11_Shape [sb h1,sb h2,sb h3,sb h4,sb h5,sb (rfl:true=true),sg h22] kr
    ·cases h23:(↑(zaa xs).length:Int)==1
     ·exact wk At.ref11_Shape [sb h1,sb h2,sb h3,sb h4,sb (rfl:true=true),sb h23] kr
     ·exact wk At.ref11_Shape [sb h1,sb h2,sb h3,sb h4,sb (rfl:true=true),sg h23] kr
   ·cases h24:(↑(zaa xs).length:Int)==1
    ·exact wk At.ref11_Shape [sb h1,sb h2,sb h3,sb (rfl:true=true),sb h24] kr
    ·exact wk At.ref11_Shape [sb h1,sb h2,sb h3,sb (rfl:true=true),sg h24] kr
  ·cases h25:(↑(zaa xs).length:Int)==0
   ·exact wk At.ref11_Shape [sb h1,sb h2,sb h25] kr
   ·exact wk At.ref11_Shape [sb h1,sb h2,sg h25] kr
 ·cases h26:(↑(zaa xs).length:Int)==0
  ·exact wk At.ref11_Shape [sb h1,sb h26] kr
  ·exact wk At.ref11_Shape [sb h1,sg h26] kr
def zkx (e:X):Bool:=match e.sub with
 | []=>zol e.kind e.op e.args
 | q::r=>zn2 e.kind e.op e.args (q::r) q.star q.items q.wh
theorem zbp (e:X):Pure S.ref11_Shape [e.av] (bv (zkx e)):=by
 cases e with
 | mk kind op nt val tn nm xs qs =>
  cases qs with
  | nil=>exact zk7 kind op xs nt val tn nm
  | cons q r=>cases q with
   | mk st it fm wh=>exact zk6 kind op xs _ st it wh nt val tn nm fm rfl
def zfS (e:X):Bool:=match e.sub with
 | []=>za6 e.kind e.op e.args
 | q::r=>zaJ e.kind e.op e.args (q::r) q.items q.wh
theorem zbz (e:X):Pure S.scope_Formed [e.av] (bv (zfS e)):=by
 cases e with
 | mk kind op nt val tn nm xs qs =>
  cases qs with
  | nil=>exact zkJ kind op xs nt val tn nm
  | cons q r=>cases q with
   | mk st it fm wh=>exact zkM kind op xs _ it wh nt val tn nm st fm rfl
theorem zn8 (frs:List Fr) (q n:Str) (k:Nat) (f:Fr) (els:Int × Int × Bool):∀ (c:List Col) (j:Nat),(zcQ frs q n k f els c j=els)∨(∃ (i:Nat) (x:Col),zcQ frs q n k f els c j=(((k:Nat):Int),((j+i:Nat):Int),true)∧c[i]?=some x)
 | [],j=>.inl rfl
 | x::r,j=>by
  rcases zn8 frs q n k f els r (j+1) with h|⟨i,y,h,hy⟩
  ·simp only [zcQ,Bool.cond_eq_ite]
   split
   ·exact .inr ⟨0,x,rfl,rfl⟩
   ·exact .inl h
  ·simp only [zcQ,Bool.cond_eq_ite]
   split
   ·exact .inr ⟨0,x,rfl,rfl⟩
   ·exact .inr ⟨i+1,y,by rw [h];congr 2;omega,hy⟩
theorem zpX (frs:List Fr) (q n:Str):∀ (k:Nat),k≤frs.length→(rres frs q n k).2.2=true→∃ (i j:Nat) (f:Fr) (c:Col),rres frs q n k=((i:Int),(j:Int),true)∧frs[i]?=some f∧f.cols[j]?=some c
 | 0,_,h=>by simp [rres] at h
 | k+1,hk,h=>by
  have ih:=zpX frs q n k (by omega)
  have hx:=zmh (l:=frs) (k:=k) zaO (by omega)
  have hi:=zn8 frs q n k (frs.getD k zaO) (rres frs q n k) (frs.getD k zaO).cols 0
  simp only [rres,Bool.cond_eq_ite] at h ⊢
  have key:(zcQ frs q n k (frs.getD k zaO) (rres frs q n k) (frs.getD k zaO).cols 0).2.2=true→∃ (i j:Nat) (f:Fr) (c:Col),zcQ frs q n k (frs.getD k zaO) (rres frs q n k) (frs.getD k zaO).cols 0=((i:Int),(j:Int),true)∧frs[i]?=some f∧f.cols[j]?=some c:=by
   intro h
   rcases hi with e|⟨i,y,e,hy⟩
   ·rw [e] at h ⊢;exact ih h
   ·exact ⟨k,0+i,_,y,e,hx,by simpa using hy⟩
  revert h
  repeat' split
  all_goals first|exact ih|exact key
end Go.AM
namespace Go.AM
set_option maxRecDepth 100000
set_option maxHeartbeats 1000000
set_option linter.unusedSimpArgs false
set_option linter.unusedVariables false
def cNull:Col:=⟨⟨#[]⟩,0,false,false⟩
def rFr (frs:List Fr) (q n:Str):Fr:=frs.getD (zbi frs q n).1.toNat zaO
def rCol (frs:List Fr) (q n:Str):Col:=(rFr frs q n).cols.getD (zbi frs q n).2.1.toNat cNull
theorem zhN {frs:List Fr} {q n:Str} (h:(zbi frs q n).2.2=true):∃ (i j:Nat),zbi frs q n=((i:Int),(j:Int),true)∧frs[i]?=some (rFr frs q n)∧(rFr frs q n).cols[j]?=some (rCol frs q n):=by
 have h':=h
 unfold zbi at h'
 obtain ⟨i,j,f,c,e,hf,hc⟩:=zpX frs q n frs.length (Nat.le_refl _) h'
 have e':zbi frs q n=((i:Int),(j:Int),true):=e
 have e1:rFr frs q n=f:=by simp [rFr,e',List.getD_eq_getElem?_getD,hf]
 have e2:rCol frs q n=c:=by simp [rCol,e1,e',List.getD_eq_getElem?_getD,hc]
 exact ⟨i,j,e',by rw [e1];exact hf,by rw [e1,e2];exact hc⟩
theorem zow (frs:List Fr) (q n:Str) (h:(zbi frs q n).2.2=true):ElAt (frs.map Fr.cells) (zbi frs q n).1 (rFr frs q n).cells 4:=by
 obtain ⟨i,j,e,h1,h2⟩:=zhN h
 rw [show (zbi frs q n).1=(i:Int) by rw [e]]
 exact zah Fr.cells h1 rfl
theorem zpL (frs:List Fr) (q n:Str) (h:(zbi frs q n).2.2=true):ElAt ((rFr frs q n).cols.map Col.cells) (zbi frs q n).2.1 (rCol frs q n).cells 4:=by
 obtain ⟨i,j,e,h1,h2⟩:=zhN h
 rw [show (zbi frs q n).2.1=(j:Int) by rw [e]]
 exact zah Col.cells h2 rfl
def zor (f:X→Int × Int) (x:X):Int :=
 bif (f x).snd != 0 then
  (f x).snd
 else
  bif !zgA (f x).fst 2 then
   5
  else
   0
theorem zi7 (f:X→Int × Int) (x:X) (r:List X) (frs:List Fr) (tb:List Tb) (hn:((((zaa (x::r)).length:Nat):Int)==0)=false) (hf:Pure S.ref14_Type [x.av,fsl frs,tsl tb] (.tup [iv (f x).1,iv (f x).2])):zac E0 S.ref14_Condition [xsl (x::r),fsl frs,tsl tb] [] (iv (zor f x)) []:=by
 unfold zor
 cases h1:(f x).snd != 0
 ·cases h2:!zgA (f x).fst 2
  ·exact wk At.ref14_Condition [sb (rfl:false=false),se (zbn (l:=x::r) (i:=0) (x:=x) rfl),sc hf,sb h1,sc (zbX ((f x).fst) 2),sb h2] kr
  ·exact wk At.ref14_Condition [sb (rfl:false=false),se (zbn (l:=x::r) (i:=0) (x:=x) rfl),sc hf,sb h1,sc (zbX ((f x).fst) 2),sb h2] kr
 ·exact wk At.ref14_Condition [sb (rfl:false=false),se (zbn (l:=x::r) (i:=0) (x:=x) rfl),sc hf,sb h1] kr
def zrC :Int :=
 0
theorem zjf  (frs:List Fr) (tb:List Tb):zac E0 S.ref14_Condition [xsl [],fsl frs,tsl tb] [] (iv zrC) []:=by
 exact wk At.ref14_Condition [sb (rfl:true=true)] kr
noncomputable def zip (f:X→Int × Int) (e:X) (frs:List Fr) (tb:List Tb) (i:Nat) (l:List Int):Cfg:=zav B.ref14_Type 0 [(1,fsl frs),(2,tsl tb),(3,.p 0 0),(11,.own 1 l.length),(60,xsl e.args),(61,iv ((zaa e.args).length:Nat)),(62,iv (i:Nat))] [.box e.cells,.row Ty.int (l.map fun n=>[iv n]) false]
def rtyL (f:X→Int × Int) (e:X) (frs:List Fr) (tb:List Tb):List (X)→Nat→(List Int)→Int × Int
 | [],i,l =>
  ((zil e l).fst,(zil e l).snd)
 | x::r,i,l =>
  bif (f x).snd != 0 then
   (0,(f x).snd)
  else
   rtyL f e frs tb r (i+1) (l++[(f x).fst])
theorem zo4 (f:X→Int × Int) (e:X) (frs:List Fr) (tb:List Tb) (hl:zae e.args) (hf:∀ x∈e.args,Pure S.ref14_Type [x.av,fsl frs,tsl tb] (.tup [iv (f x).1,iv (f x).2])):∀ (kk i:Nat) (l:List Int),i+kk=(e.args).length→l.length≤i→Good E0 B.ref14_Type [] (zip f e frs tb i l) (Shut 0 fun r h=>r=(.tup [iv (rtyL f e frs tb ((e.args).drop i) i l).1,iv (rtyL f e frs tb ((e.args).drop i) i l).2])∧h=[]):=by
 intro kk
 induction kk with
 | zero =>
  intro i l hi ho
  have h0:decide (((i:Nat):Int) < (((zaa e.args).length:Nat):Int))=false:=by simp;omega
  have e0:(e.args).drop i=[]:=List.drop_of_length_le (by omega)
  rw [e0]
  simp only [rtyL]
  refine zab ?_
  exact wkr [sb h0,skx ((True∧True∧True∧True∧True∧True∧True∧True∧True∧True∧True)∧l.length=(List.map (fun n=>[iv n]) l).length∧True) [] (zmu e l (by first|assumption|(simp only [zae] at *;omega)))] kr
 | succ kk ih =>
  intro i l hi ho
  obtain ⟨x,hx⟩:=zay (l:=e.args) (i:=i) (by omega)
  have h0:decide (((i:Nat):Int) < (((zaa e.args).length:Nat):Int))=true:=by simp;omega
  have hw:=zap i (by first|omega|(simp only [zae,Few] at *;omega))
  have hfx:=hf x (List.mem_of_getElem? hx)
  rw [zbH hx]
  simp only [rtyL]
  refine zab ?_
  cases h1:(f x).snd != 0
  ·exact wkl (c':=(Cfg.mk (zip f e frs tb (i+1) (l++[(f x).fst])).n (zip f e frs tb (i+1) (l++[(f x).fst])).todo [(1,AV.sl (List.map Fr.cells frs)),(2,AV.sl (List.map Tb.cells tb)),(3,AV.p 0 0),(11,AV.own 1 (List.map (fun n=>[iv n]) l++[[iv (f x).fst]]).length),(60,AV.sl (zaa e.args)),(61,iv (↑(zaa e.args).length:Int)),(62,iv (↑(i+1):Int))] [Blk.box [iv e.kind,iv e.op,bv e.not,iv e.val.kind,iv e.val.int,sv e.val.text,sv e.table,sv e.name,AV.sl (zaa e.args),AV.sl (zad e.sub)],Blk.row Ty.int (List.map (fun n=>[iv n]) l++[[iv (f x).fst]]) false])) [sb h0,se (zbn hx),sc hfx,sb h1,sqx (AllLen [[iv (f x).fst]] 1∧l.length=(List.map (fun n=>[iv n]) l).length∧(((List.map (fun n=>[iv n]) l).length+[[iv (f x).fst]].length) * 8).le 140737488355328),si hw] [1,2,3,11,60,61,62] 2 kr (zan (show ([(1,AV.sl (List.map Fr.cells frs)),(2,AV.sl (List.map Tb.cells tb)),(3,AV.p 0 0),(11,AV.own 1 (List.map (fun n=>[iv n]) l++[[iv (f x).fst]]).length),(60,AV.sl (zaa e.args)),(61,iv (↑(zaa e.args).length:Int)),(62,iv (↑(i+1):Int))]:TS)=[(1,AV.sl (List.map Fr.cells frs)),(2,AV.sl (List.map Tb.cells tb)),(3,AV.p 0 0),(11,AV.own 1 (l++[(f x).fst]).length),(60,AV.sl (zaa e.args)),(61,iv (↑(zaa e.args).length:Int)),(62,iv (↑(i+1):Int))] by first|rfl|(simp;done)|(simp [X.cells,Qy.cells,V.cells,Col.cells,Rw.cells,Tb.cells,Fr.cells,Sch.cells,Tp.cells,Pl.cells,xCol,xLit,xBin,xNeg];done)) (show ([Blk.box [iv e.kind,iv e.op,bv e.not,iv e.val.kind,iv e.val.int,sv e.val.text,sv e.table,sv e.name,AV.sl (zaa e.args),AV.sl (zad e.sub)],Blk.row Ty.int (List.map (fun n=>[iv n]) l++[[iv (f x).fst]]) false]:Heap)=[Blk.box [iv e.kind,iv e.op,bv e.not,iv e.val.kind,iv e.val.int,sv e.val.text,sv e.table,sv e.name,AV.sl (zaa e.args),AV.sl (zad e.sub)],Blk.row Ty.int (List.map (fun n=>[iv n]) (l++[(f x).fst])) false] by first|rfl|(simp;done)|(simp [X.cells,Qy.cells,V.cells,Col.cells,Rw.cells,Tb.cells,Fr.cells,Sch.cells,Tp.cells,Pl.cells,xCol,xLit,xBin,xNeg];done)) (ih (i+1) (l++[(f x).fst]) (by omega) (by first|assumption|(simp;done)|(simp;omega)|omega|(simp at *;omega))))
  ·exact wkr [sb h0,se (zbn hx),sc hfx,sb h1] kr
noncomputable def L_rtqL (f:X→Int × Int) (cond:Int) (e:X) (q:Qy) (ins:List Fr) (tb:List Tb) (i:Nat) (item:Int):Cfg:=zav B.ref14_typeOfQuery 0 [(2,tsl tb),(3,.p 0 0),(8,.p 1 0),(11,fsl ins),(12,iv item),(35,xsl q.items),(36,iv ((zaa q.items).length:Nat)),(37,iv (i:Nat))] [.box e.cells,.box q.cells]
def rtqL (f:X→Int × Int) (cond:Int) (e:X) (q:Qy) (ins:List Fr) (tb:List Tb):List (X)→Nat→(Int)→Int × Int
 | [],i,item =>
  bif cond != 0 then
   (0,cond)
  else
   bif e.kind==10 then
    bif !zgA item 1 then
     (0,5)
    else
     bif e.kind==8 then
      (2,0)
     else
      bif e.kind==11 then
       (item,0)
      else
       bif e.kind==12 then
        (item,0)
       else
        (1,0)
   else
    bif e.kind==8 then
     (2,0)
    else
     bif e.kind==11 then
      (item,0)
     else
      bif e.kind==12 then
       (item,0)
      else
       (1,0)
 | x::r,i,item =>
  bif (f x).snd != 0 then
   (0,(f x).snd)
  else
   rtqL f cond e q ins tb r (i+1) ((f x).fst)
theorem zpo (f:X→Int × Int) (cond:Int) (e:X) (q:Qy) (ins:List Fr) (tb:List Tb) (hl:zae q.items) (hf:∀ x∈q.items,Pure S.ref14_Type [x.av,fsl ins,tsl tb] (.tup [iv (f x).1,iv (f x).2])) (hc:Pure S.ref14_Condition [xsl q.wh,fsl ins,tsl tb] (iv cond)):∀ (kk i:Nat) (item:Int),i+kk=(q.items).length→Good E0 B.ref14_typeOfQuery [] (L_rtqL f cond e q ins tb i item) (Shut 0 fun r h=>r=(.tup [iv (rtqL f cond e q ins tb ((q.items).drop i) i item).1,iv (rtqL f cond e q ins tb ((q.items).drop i) i item).2])∧h=[]):=by
 intro kk
 induction kk with
 | zero =>
  intro i item hi
  have h0:decide (((i:Nat):Int) < (((zaa q.items).length:Nat):Int))=false:=by simp;omega
  have e0:(q.items).drop i=[]:=List.drop_of_length_le (by omega)
  rw [e0]
  simp only [rtqL]
  refine zab ?_
  cases h1:cond != 0
  ·cases h2:e.kind==10
   ·cases h3:e.kind==8
    ·cases h4:e.kind==11
     ·cases h5:e.kind==12
      ·exact wkr [sb h0,sc hc,sb h1,sb h2,sb h3,sb h4,sb h5] kr
      ·exact wkr [sb h0,sc hc,sb h1,sb h2,sb h3,sb h4,sb h5] kr
     ·exact wkr [sb h0,sc hc,sb h1,sb h2,sb h3,sb h4] kr
    ·exact wkr [sb h0,sc hc,sb h1,sb h2,sb h3] kr
   ·cases h6:!zgA item 1
    ·cases h7:e.kind==8
     ·cases h8:e.kind==11
      ·cases h9:e.kind==12
       ·exact wkr [sb h0,sc hc,sb h1,sg h2,sc (zbX item 1),sb h6,sb h7,sb h8,sb h9] kr
       ·exact wkr [sb h0,sc hc,sb h1,sg h2,sc (zbX item 1),sb h6,sb h7,sb h8,sb h9] kr
      ·exact wkr [sb h0,sc hc,sb h1,sg h2,sc (zbX item 1),sb h6,sb h7,sb h8] kr
     ·exact wkr [sb h0,sc hc,sb h1,sg h2,sc (zbX item 1),sb h6,sb h7] kr
    ·exact wkr [sb h0,sc hc,sb h1,sg h2,sc (zbX item 1),sb h6] kr
  ·exact wkr [sb h0,sc hc,sb h1] kr
 | succ kk ih =>
  intro i item hi
  obtain ⟨x,hx⟩:=zay (l:=q.items) (i:=i) (by omega)
  have h0:decide (((i:Nat):Int) < (((zaa q.items).length:Nat):Int))=true:=by simp;omega
  have hw:=zap i (by first|omega|(simp only [zae,Few] at *;omega))
  have hfx:=hf x (List.mem_of_getElem? hx)
  rw [zbH hx]
  simp only [rtqL]
  refine zab ?_
  cases h1:(f x).snd != 0
  ·exact wkl [sb h0,se (zbn hx),sc hfx,sb h1,si hw] [2,3,8,11,12,35,36,37] 2 kr (ih (i+1) ((f x).fst) (by omega) )
  ·exact wkr [sb h0,se (zbn hx),sc hfx,sb h1] kr
end Go.AM
namespace Go.AM
set_option maxRecDepth 100000
set_option maxHeartbeats 1000000
set_option linter.unusedSimpArgs false
set_option linter.unusedVariables false
theorem zdd {p:Prop} (h:p:=by first|assumption|exact hfo.short|exact hfo.cols|exact hfo.wrap|(simp_all;done)):p:=h
theorem zlw {p:Prop} (h:p:=by first|assumption|exact hfo.short|exact hto.len|exact hto.cols):p:=h
structure FsOk (n:Nat) (frs:List Fr):Prop where
 len:frs.length+n≤1000000
 cols:∀ f∈frs,zae f.cols
 vals:∀ f∈frs,∀ v∈f.vals,v.small
structure TbOk (tb:List Tb):Prop where
 len:zae tb
 cols:∀ x∈tb,zae x.sch.cols
 rows:∀ x∈tb,x.rows.length≤1000
 vals:∀ x∈tb,∀ r∈x.rows,∀ v∈r.vals,v.small
theorem FsOk.short {n:Nat} {frs:List Fr} (h:FsOk n frs):zae frs:=by have:=h.len;simp only [zae];omega
theorem FsOk.wrap {n:Nat} {frs:List Fr} (h:FsOk n frs):IntKind.i64.wrap ((((frs.map Fr.cells).length:Nat):Int) - 1)=pm1 frs.length:=zsK _ _ h.short
theorem FsOk.less {n:Nat} {frs:List Fr} (h:FsOk (n+1) frs):FsOk n frs:=⟨by have:=h.len;omega,h.cols,h.vals⟩
def rtqF (f:X→Int × Int) (cond:Int) (e:X) (q:Qy) (frs:List Fr) (tb:List Tb):Int × Int :=
 bif !(zaL tb q.frm).snd then
  (0,3)
 else
  rtqL f cond e q (zb3 frs (zaL tb q.frm).1 []) tb q.items 0 (1)
theorem zjz (f:X→Int × Int) (cond:Int) (e:X) (q:Qy) (frs:List Fr) (tb:List Tb) (n:Nat) (hq:e.sub[0]?=some q) (hfo:FsOk n frs) (hto:TbOk tb) (hl:zae q.items) (hf:∀ x∈q.items,Pure S.ref14_Type [x.av,fsl (zb3 frs (zaL tb q.frm).1 []),tsl tb] (.tup [iv (f x).1,iv (f x).2])) (hc:Pure S.ref14_Condition [xsl q.wh,fsl (zb3 frs (zaL tb q.frm).1 []),tsl tb] (iv cond)):zac E0 S.ref14_typeOfQuery [e.av,fsl frs,tsl tb] [] (.tup [iv (rtqF f cond e q frs tb).1,iv (rtqF f cond e q frs tb).2]) []:=by
 unfold rtqF
 cases h1:!(zaL tb q.frm).snd
 ·exact wkc At.ref14_typeOfQuery [se (zaX hq),sc (zbS tb q.frm zlw zlw),sb h1,sc (zfs frs ((zaL tb q.frm).fst) ([]) zlw)] [2,3,8,11,12,35,36,37] 2 kr (by have ih:=zpo f cond e q (zb3 frs (zaL tb q.frm).1 []) tb hl hf hc q.items.length 0 1 (by simp);exact ih)
 ·exact wk At.ref14_typeOfQuery [se (zaX hq),sc (zbS tb q.frm zlw zlw),sb h1] kr
def znA (f:X→Int × Int) (e:X) (frs:List Fr) (tb:List Tb):Int × Int :=
 bif !zkx e then
  (0,17)
 else
  bif e.kind==1 then
   (e.val.kind,0)
  else
   bif e.kind==2 then
    bif !(zbi frs e.table e.name).snd.snd then
     (0,3)
    else
     ((rCol frs e.table e.name).type,0)
   else
    rtyL f e frs tb e.args 0 ([])
theorem zlB (f:X→Int × Int) (e:X) (frs:List Fr) (tb:List Tb) (n:Nat) (hfo:FsOk n frs) (hl:zae e.args) (hn:decide ((0:Int) < (((zad e.sub).length:Nat):Int))=false) (hf:∀ x∈e.args,Pure S.ref14_Type [x.av,fsl frs,tsl tb] (.tup [iv (f x).1,iv (f x).2])):zac E0 S.ref14_Type [e.av,fsl frs,tsl tb] [] (.tup [iv (znA f e frs tb).1,iv (znA f e frs tb).2]) []:=by
 unfold znA
 cases h1:!zkx e
 ·cases h2:e.kind==1
  ·cases h3:e.kind==2
   ·exact wkc At.ref14_Type (c':=(Cfg.mk (zip f e frs tb 0 []).n (zip f e frs tb 0 []).todo [(1,AV.sl (List.map Fr.cells frs)),(2,AV.sl (List.map Tb.cells tb)),(3,AV.p 0 0),(11,AV.nl),(60,AV.sl (zaa e.args)),(61,iv (↑(zaa e.args).length:Int)),(62,iv 0)] [Blk.box [iv e.kind,iv e.op,bv e.not,iv e.val.kind,iv e.val.int,sv e.val.text,sv e.table,sv e.name,AV.sl (zaa e.args),AV.sl (zad e.sub)]])) [sc (zbp e),sb h1,sb h2,sb h3,sb hn] [1,2,3,11,60,61,62] 1 kr (za7 (c':=zip f e frs tb 0 []) 11 Ty.int [1,2,3,11,60,61,62] 2 kr kr kr (by have ih:=zo4 f e frs tb hl hf e.args.length 0 ([]) (by simp) (by simp);exact ih))
   ·cases h4:!(zbi frs e.table e.name).snd.snd
    ·exact wk At.ref14_Type [sc (zbp e),sb h1,sb h2,sb h3,sc (zdE frs e.table e.name zdd zdd zdd),sb h4,se (zow frs e.table e.name zdd),se (zpL frs e.table e.name zdd)] kr
    ·exact wk At.ref14_Type [sc (zbp e),sb h1,sb h2,sb h3,sc (zdE frs e.table e.name zdd zdd zdd),sb h4] kr
  ·exact wk At.ref14_Type [sc (zbp e),sb h1,sb h2] kr
 ·exact wk At.ref14_Type [sc (zbp e),sb h1] kr
def znG (tq:Int × Int) (e:X) (frs:List Fr) (tb:List Tb):Int × Int :=
 bif !zkx e then
  (0,17)
 else
  bif e.kind==1 then
   (e.val.kind,0)
  else
   bif e.kind==2 then
    bif !(zbi frs e.table e.name).snd.snd then
     (0,3)
    else
     ((rCol frs e.table e.name).type,0)
   else
    (tq.fst,tq.snd)
theorem zlO (tq:Int × Int) (e:X) (frs:List Fr) (tb:List Tb) (n:Nat) (hfo:FsOk n frs) (hn:decide ((0:Int) < (((zad e.sub).length:Nat):Int))=true) (hq:Pure S.ref14_typeOfQuery [e.av,fsl frs,tsl tb] (.tup [iv tq.1,iv tq.2])):zac E0 S.ref14_Type [e.av,fsl frs,tsl tb] [] (.tup [iv (znG tq e frs tb).1,iv (znG tq e frs tb).2]) []:=by
 unfold znG
 cases h1:!zkx e
 ·cases h2:e.kind==1
  ·cases h3:e.kind==2
   ·exact wk At.ref14_Type [sc (zbp e),sb h1,sb h2,sb h3,sb hn,sc hq] kr
   ·cases h4:!(zbi frs e.table e.name).snd.snd
    ·exact wk At.ref14_Type [sc (zbp e),sb h1,sb h2,sb h3,sc (zdE frs e.table e.name zdd zdd zdd),sb h4,se (zow frs e.table e.name zdd),se (zpL frs e.table e.name zdd)] kr
    ·exact wk At.ref14_Type [sc (zbp e),sb h1,sb h2,sb h3,sc (zdE frs e.table e.name zdd zdd zdd),sb h4] kr
  ·exact wk At.ref14_Type [sc (zbp e),sb h1,sb h2] kr
 ·exact wk At.ref14_Type [sc (zbp e),sb h1] kr
end Go.AM
namespace Go.AM
set_option maxRecDepth 100000
set_option maxHeartbeats 1000000
set_option linter.unusedSimpArgs false
set_option linter.unusedVariables false
theorem zaK {α:Type} {l:List α} (h:Few l):zae l:=by simp only [Few] at h;simp only [zae];omega
def zrU (f:X→Int × Int):List X→Int
 | []=>zrC
 | x::_=>zor f x
abbrev rIns (frs:List Fr) (tb:List Tb) (q:Qy):List Fr:=zb3 frs (zaL tb q.frm).1 []
def zgv:Nat→X→List Fr→List Tb→Int × Int
 | 0,_,_,_=>(0,0)
 | n+1,e,frs,tb=>match e.sub with
  | []=>znA (fun x=>zgv n x frs tb) e frs tb
  | q::_=>znG (rtqF (fun x=>zgv n x (rIns frs tb q) tb) (zrU (fun x=>zgv n x (rIns frs tb q) tb) q.wh) e q frs tb) e frs tb
theorem zeL (tb:List Tb) (n:Str):∀ (l:List Tb) (i:Nat),(∀ x∈l,zae x.sch.cols)→zae (zgj tb n l i).1.cols
 | [],i,_=>by simp [zgj]
 | x::r,i,h=>by
  simp only [zgj,Bool.cond_eq_ite]
  split
  ·exact h x (by simp)
  ·exact zeL tb n r _ (fun y hy=>h y (by simp [hy]))
theorem FsOk.ins {n:Nat} {frs:List Fr} (h:FsOk (n+1) frs) {tb:List Tb} (ht:TbOk tb) (q:Qy):FsOk n (rIns frs tb q):=by
 refine ⟨by have:=h.len;simp [zb3];omega,fun f hf=>?_,fun f hf=>?_⟩
 ·simp only [zb3,List.mem_append,List.mem_singleton] at hf
  rcases hf with hf|rfl
  ·exact h.cols f hf
  ·exact zeL tb q.frm tb 0 ht.cols
 ·simp only [zb3,List.mem_append,List.mem_singleton] at hf
  rcases hf with hf|rfl
  ·exact h.vals f hf
  ·intro v hv;cases hv
theorem zhH {f:X→Int × Int} {wh:List X} {frs:List Fr} {tb:List Tb} (hf:∀ x∈wh,Pure S.ref14_Type [x.av,fsl frs,tsl tb] (.tup [iv (f x).1,iv (f x).2])):Pure S.ref14_Condition [xsl wh,fsl frs,tsl tb] (iv (zrU f wh)):=by
 cases wh with
 | nil=>exact zjf frs tb
 | cons x r=>exact zi7 f x r frs tb (by first|(simp;done)|(simp;omega)) (hf x (by simp))
theorem zgY:∀ (n:Nat) (e:X) (frs:List Fr) (tb:List Tb),XOk n e→FsOk n frs→TbOk tb→Pure S.ref14_Type [e.av,fsl frs,tsl tb] (.tup [iv (zgv n e frs tb).1,iv (zgv n e frs tb).2])
 | 0,e,frs,tb,h,_,_=>h.elim
 | n+1,e,frs,tb,h,hf,ht=>by
  obtain ⟨_,ha,hx,hs⟩:=h
  unfold zgv
  cases hsub:e.sub with
  | nil =>
   simp only
   exact zlB (fun x=>zgv n x frs tb) e frs tb (n+1) hf (Thin.short ha.1) (by simp [hsub]) (fun x hx'=>zgY n x frs tb (hx x hx') hf.less ht)
  | cons q r =>
   simp only
   obtain ⟨h1,h2,h3⟩:=hs q (by simp [hsub])
   refine zlO _ e frs tb (n+1) hf (by first|(simp [hsub];done)|(simp [hsub];omega)) ?_
   exact zjz _ _ e q frs tb (n+1) (by simp [hsub]) hf ht (Thin.short h1.1) (fun x hx'=>zgY n x _ tb (h2 x hx') (hf.ins ht q) ht) (zhH fun x hx'=>zgY n x _ tb (h3 x hx') (hf.ins ht q) ht)
end Go.AM
namespace Go.AM
set_option maxRecDepth 100000
set_option maxHeartbeats 1000000
set_option linter.unusedSimpArgs false
set_option linter.unusedVariables false
theorem zkq {p:Prop} (h:p:=by first|assumption|exact hh.1|exact hw2.1|exact (zfq _).1|omega|exact (zh5 _ _ _ (by assumption) (zfq _) (by omega)).2):p:=h
abbrev uv (n:Int):AV:=.v (.int .u64 n)
theorem zoJ {T:TypeId→TI} {h:Heap} {β:List Con} {w:World} {S:Addr→Prop} {x:Value} {l:List AV} {vs:List Value} (hp:PW (RelV T h β w S) (.v x::l) vs):∃ r,vs=x::r∧PW (RelV T h β w S) l r:=by
 cases vs with
 | nil=>have:=hp.1;simp at this
 | cons y r =>
  have h1:=hp.2 0 _ _ rfl rfl
  exact ⟨r,by rw [h1.v_inv],hp.uncons.2⟩
def zdr (a b c:Int):Int × Int:=((a+b+c) % 18446744073709551616,(a+b+c) / 18446744073709551616)
theorem zgc (a b c:Int) (ha:0≤a) (hb:0≤b) (hc:0≤c∧c≤1):zac E0 S.math_bits_Add64 [uv a,uv b,uv c] [] (.tup [uv (zdr a b c).1,uv (zdr a b c).2]) []:=by
 intro β S w vs r hp
 obtain ⟨v1,rfl,hp1⟩:=zoJ hp
 obtain ⟨v2,rfl,hp2⟩:=zoJ hp1
 obtain ⟨v3,rfl,hp3⟩:=zoJ hp2
 have h0:v3=[]:=List.eq_nil_of_length_eq_zero (by have:=hp3.1;simpa using this.symm)
 subst h0
 refine .inr ⟨.tuple [.int .u64 (zdr a b c).1,.int .u64 (zdr a b c).2].toArray,w,?_,?_⟩
 ·have h1:=run_callFunc_extern (e:=add64Entry) At.math_bits_Add64 kr kr kr kr #[.int .u64 a,.int .u64 b,.int .u64 c] w
  rw [run_add64 a b c ha hb hc.1 hc.2] at h1
  exact h1
 ·refine ⟨_,_,β,S,_,rfl,⟨rfl,rfl⟩,r,Ext.refl _ _ _ _,.tup _ _ rfl fun i x y hx hy=>?_⟩
  match i with
  | 0=>cases hx;cases hy;exact zbN _ _
  | 1=>cases hx;cases hy;exact zbN _ _
  | i+2=>cases hx
abbrev U64 (n:Int):Prop:=0≤n∧n < 18446744073709551616
theorem wrapU (n:Int):IntKind.u64.wrap n=n % 18446744073709551616:=by simp [IntKind.wrap,IntKind.bits,IntKind.signed]
theorem zfq (n:Int):U64 (IntKind.u64.wrap n):=by rw [wrapU];simp only [U64];omega
theorem zh5 (a b c:Int) (ha:U64 a) (hb:U64 b) (hc:0≤c∧c≤1):U64 (zdr a b c).1∧0≤(zdr a b c).2∧(zdr a b c).2≤1:=by
 simp only [U64,zdr] at *;omega
noncomputable def L_sumL (l:List Int) (i:Nat) (high low:Int):Cfg:=zav B.arith_Sum 0 [(4,uv high),(5,uv low),(11,isl l),(12,iv ((l.map fun n=>[iv n]).length:Nat)),(13,iv (i:Nat))] []
def sumL (l:List Int):List (Int)→Nat→(Int)→(Int)→Int × Bool
 | [],i,high,low =>
  bif high != IntKind.u64.wrap ((IntKind.i64.wrap low).fdiv (2 ^ min (Int.toNat 63) IntKind.i64.bits)) then
   (0,false)
  else
   (IntKind.i64.wrap low,true)
 | x::r,i,high,low =>
  sumL l r (i+1) ((zdr high (IntKind.u64.wrap (x.fdiv (2 ^ min (Int.toNat 63) IntKind.i64.bits))) (zdr low (IntKind.u64.wrap x) 0).snd).fst) ((zdr low (IntKind.u64.wrap x) 0).fst)
theorem zoS (l:List Int) (hl:zae l):∀ (kk i:Nat) (high low:Int),i+kk=(l).length→U64 high→U64 low→Good E0 B.arith_Sum [] (L_sumL l i high low) (Shut 0 fun r h=>r=(.tup [iv (sumL l ((l).drop i) i high low).1,bv (sumL l ((l).drop i) i high low).2])∧h=[]):=by
 intro kk
 induction kk with
 | zero =>
  intro i high low hi hh hw2
  have h0:decide (((i:Nat):Int) < (((l.map fun n=>[iv n]).length:Nat):Int))=false:=by simp;omega
  have e0:(l).drop i=[]:=List.drop_of_length_le (by omega)
  rw [e0]
  simp only [sumL]
  refine zab ?_
  cases h1:high != IntKind.u64.wrap ((IntKind.i64.wrap low).fdiv (2 ^ min (Int.toNat 63) IntKind.i64.bits))
  ·exact wkr [sb h0,si (e:=IntKind.i64.wrap low) rfl,sx (.i ((IntKind.i64.wrap low).fdiv ((2:Int) ^ min (Int.toNat (63:Int)) IntKind.i64.bits))) (show (0:Int)≤(63:Int)∧((IntKind.i64.wrap low).fdiv ((2:Int) ^ min (Int.toNat (63:Int)) IntKind.i64.bits):Int)=(IntKind.i64.wrap low).fdiv ((2:Int) ^ min (Int.toNat (63:Int)) IntKind.i64.bits) from ⟨(by simp_all),rfl⟩),si (e:=IntKind.u64.wrap ((IntKind.i64.wrap low).fdiv (2 ^ min (Int.toNat 63) IntKind.i64.bits))) rfl,sb h1] kr
  ·exact wkr [sb h0,si (e:=IntKind.i64.wrap low) rfl,sx (.i ((IntKind.i64.wrap low).fdiv ((2:Int) ^ min (Int.toNat (63:Int)) IntKind.i64.bits))) (show (0:Int)≤(63:Int)∧((IntKind.i64.wrap low).fdiv ((2:Int) ^ min (Int.toNat (63:Int)) IntKind.i64.bits):Int)=(IntKind.i64.wrap low).fdiv ((2:Int) ^ min (Int.toNat (63:Int)) IntKind.i64.bits) from ⟨(by simp_all),rfl⟩),si (e:=IntKind.u64.wrap ((IntKind.i64.wrap low).fdiv (2 ^ min (Int.toNat 63) IntKind.i64.bits))) rfl,sb h1] kr
 | succ kk ih =>
  intro i high low hi hh hw2
  obtain ⟨x,hx⟩:=zay (l:=l) (i:=i) (by omega)
  have h0:decide (((i:Nat):Int) < (((l.map fun n=>[iv n]).length:Nat):Int))=true:=by simp;omega
  have hw:=zap i (by first|omega|(simp only [zae,Few] at *;omega))
  rw [zbH hx]
  simp only [sumL]
  refine zab ?_
  exact wkl [sb h0,se (zah (fun n=>[iv n]) hx rfl),si (e:=IntKind.u64.wrap x) rfl,sc (zgc low (IntKind.u64.wrap x) 0 zkq zkq zkq),sx (.i (x.fdiv ((2:Int) ^ min (Int.toNat (63:Int)) IntKind.i64.bits))) (show (0:Int)≤(63:Int)∧(x.fdiv ((2:Int) ^ min (Int.toNat (63:Int)) IntKind.i64.bits):Int)=x.fdiv ((2:Int) ^ min (Int.toNat (63:Int)) IntKind.i64.bits) from ⟨(by simp_all),rfl⟩),si (e:=IntKind.u64.wrap (x.fdiv (2 ^ min (Int.toNat 63) IntKind.i64.bits))) rfl,sc (zgc high (IntKind.u64.wrap (x.fdiv (2 ^ min (Int.toNat 63) IntKind.i64.bits))) ((zdr low (IntKind.u64.wrap x) 0).snd) zkq zkq zkq),si hw] [4,5,11,12,13] 0 kr (ih (i+1) ((zdr high (IntKind.u64.wrap (x.fdiv (2 ^ min (Int.toNat 63) IntKind.i64.bits))) (zdr low (IntKind.u64.wrap x) 0).snd).fst) ((zdr low (IntKind.u64.wrap x) 0).fst) (by omega) (by first|assumption|exact (zh5 _ _ _ (by assumption) (zfq _) (by first|omega|exact (zh5 _ _ _ (by assumption) (zfq _) (by omega)).2)).1) (by first|assumption|exact (zh5 _ _ _ (by assumption) (zfq _) (by first|omega|exact (zh5 _ _ _ (by assumption) (zfq _) (by omega)).2)).1))
def aSum (l:List Int):Int × Bool :=
 sumL l l 0 0 (0)
theorem zkV (l:List Int) (hl:zae l):zac E0 S.arith_Sum [isl l] [] (.tup [iv (aSum l).1,bv (aSum l).2]) []:=by
 unfold aSum
 exact wkc At.arith_Sum [] [4,5,11,12,13] 0 kr (by have ih:=zoS l hl l.length 0 0 0 (by simp) (by simp only [U64];omega) (by simp only [U64];omega);exact ih)
noncomputable def zgD (its:List V) (i:Nat) (l:List Int):Cfg:=zav B.evaluate_sum 0 [(2,.p 0 0),(4,.own 1 l.length),(9,vsl its),(10,iv ((its.map V.cells).length:Nat)),(11,iv (i:Nat))] [.box [iv 0,iv 0,sv ⟨#[]⟩],.row Ty.int64 (l.map fun n=>[iv n]) false]
def zgd (its:List V):List (V)→Nat→(List Int)→V × Int
 | [],i,l =>
  bif !(aSum l).snd then
   (V.mk 0 0 (ByteArray.mk #[]),6)
  else
   (V.mk 1 (aSum l).fst (ByteArray.mk #[]),0)
 | x::r,i,l =>
  zgd its r (i+1) (l++[x.int])
theorem zom (its:List V) (hl:zae its):∀ (kk i:Nat) (l:List Int),i+kk=(its).length→l.length≤i→Good E0 B.evaluate_sum [] (zgD its i l) (Shut 0 fun r h=>r=(.tup [(zgd its ((its).drop i) i l).1.av,iv (zgd its ((its).drop i) i l).2])∧h=[]):=by
 intro kk
 induction kk with
 | zero =>
  intro i l hi ho
  have h0:decide (((i:Nat):Int) < (((its.map V.cells).length:Nat):Int))=false:=by simp;omega
  have e0:(its).drop i=[]:=List.drop_of_length_le (by omega)
  rw [e0]
  simp only [zgd]
  refine zab ?_
  cases h1:!(aSum l).snd
  ·exact wkr [sb h0,skx (l.length=(List.map (fun n=>[iv n]) l).length∧True) [] (zkV l (by first|assumption|(simp only [zae] at *;omega))),sb h1,sc (za9 ((aSum l).fst))] kr
  ·exact wkr [sb h0,skx (l.length=(List.map (fun n=>[iv n]) l).length∧True) [] (zkV l (by first|assumption|(simp only [zae] at *;omega))),sb h1] kr
 | succ kk ih =>
  intro i l hi ho
  obtain ⟨x,hx⟩:=zay (l:=its) (i:=i) (by omega)
  have h0:decide (((i:Nat):Int) < (((its.map V.cells).length:Nat):Int))=true:=by simp;omega
  have hw:=zap i (by first|omega|(simp only [zae,Few] at *;omega))
  rw [zbH hx]
  simp only [zgd]
  refine zab ?_
  exact wkl (c':=(Cfg.mk (zgD its (i+1) (l++[x.int])).n (zgD its (i+1) (l++[x.int])).todo [(2,AV.p 0 0),(4,AV.own 1 (List.map (fun n=>[iv n]) l++[[iv x.int]]).length),(9,AV.sl (List.map V.cells its)),(10,iv (↑(List.map V.cells its).length:Int)),(11,iv (↑(i+1):Int))] [Blk.box [iv 0,iv 0,sv (ByteArray.mk #[])],Blk.row Ty.int64 (List.map (fun n=>[iv n]) l++[[iv x.int]]) false])) [sb h0,se (zah V.cells hx rfl),sqx (AllLen [[iv x.int]] 1∧l.length=(List.map (fun n=>[iv n]) l).length∧(((List.map (fun n=>[iv n]) l).length+[[iv x.int]].length) * 8).le 140737488355328),si hw] [2,4,9,10,11] 2 kr (zan (show ([(2,AV.p 0 0),(4,AV.own 1 (List.map (fun n=>[iv n]) l++[[iv x.int]]).length),(9,AV.sl (List.map V.cells its)),(10,iv (↑(List.map V.cells its).length:Int)),(11,iv (↑(i+1):Int))]:TS)=[(2,AV.p 0 0),(4,AV.own 1 (l++[x.int]).length),(9,AV.sl (List.map V.cells its)),(10,iv (↑(List.map V.cells its).length:Int)),(11,iv (↑(i+1):Int))] by first|rfl|(simp;done)|(simp [X.cells,Qy.cells,V.cells,Col.cells,Rw.cells,Tb.cells,Fr.cells,Sch.cells,Tp.cells,Pl.cells,xCol,xLit,xBin,xNeg];done)) (show ([Blk.box [iv 0,iv 0,sv (ByteArray.mk #[])],Blk.row Ty.int64 (List.map (fun n=>[iv n]) l++[[iv x.int]]) false]:Heap)=[Blk.box [iv 0,iv 0,sv (ByteArray.mk #[])],Blk.row Ty.int64 (List.map (fun n=>[iv n]) (l++[x.int])) false] by first|rfl|(simp;done)|(simp [X.cells,Qy.cells,V.cells,Col.cells,Rw.cells,Tb.cells,Fr.cells,Sch.cells,Tp.cells,Pl.cells,xCol,xLit,xBin,xNeg];done)) (ih (i+1) (l++[x.int]) (by omega) (by first|assumption|(simp;done)|(simp;omega)|omega|(simp at *;omega))))
def eSum (its:List V):V × Int :=
 zgd its its 0 ([])
theorem zms (its:List V) (hl:zae its):zac E0 S.evaluate_sum [vsl its] [] (.tup [(eSum its).1.av,iv (eSum its).2]) []:=by
 unfold eSum
 exact wkc At.evaluate_sum (c':=(Cfg.mk (zgD its 0 []).n (zgD its 0 []).todo [(2,AV.p 0 0),(4,AV.nl),(9,AV.sl (List.map V.cells its)),(10,iv (↑(List.map V.cells its).length:Int)),(11,iv 0)] [Blk.box [iv 0,iv 0,sv (ByteArray.mk #[])]])) [] [2,4,9,10,11] 1 kr (za7 (c':=zgD its 0 []) 4 Ty.int64 [2,4,9,10,11] 2 kr kr kr (by have ih:=zom its hl its.length 0 ([]) (by simp) (by simp);exact ih))
end Go.AM
namespace Go.AM
set_option maxRecDepth 100000
set_option maxHeartbeats 1000000
set_option linter.unusedSimpArgs false
set_option linter.unusedVariables false
noncomputable def L_minL (l:List V) (i:Nat) (m:V):Cfg:=zav B.slices_MinFunc_Value 0 [(0,vsl l),(1,.fn S.value_Compare []),(4,.p 0 0),(5,.p 1 0),(6,iv (i:Nat))] [.box [iv 0,iv 0,sv ⟨#[]⟩],.box m.cells]
def minL (l:List V):List (V)→Nat→(V)→V
 | [],i,m =>
  m
 | x::r,i,m =>
  bif decide (cmpV x m < 0) then
   minL l r (i+1) (x)
  else
   minL l r (i+1) (m)
theorem zpp (l:List V) (hl:zae l):∀ (kk i:Nat) (m:V),i+kk=(l).length→Good E0 B.slices_MinFunc_Value [] (L_minL l i m) (Shut 0 fun r h=>r=((minL l ((l).drop i) i m).av)∧h=[]):=by
 intro kk
 induction kk with
 | zero =>
  intro i m hi
  have h0:decide (((i:Nat):Int) < (((l.map V.cells).length:Nat):Int))=false:=by simp;omega
  have e0:(l).drop i=[]:=List.drop_of_length_le (by omega)
  rw [e0]
  simp only [minL]
  refine zab ?_
  exact wkr [sb h0] kr
 | succ kk ih =>
  intro i m hi
  obtain ⟨x,hx⟩:=zay (l:=l) (i:=i) (by omega)
  have h0:decide (((i:Nat):Int) < (((l.map V.cells).length:Nat):Int))=true:=by simp;omega
  have hw:=zap i (by first|omega|(simp only [zae,Few] at *;omega))
  rw [zbH hx]
  simp only [minL]
  refine zab ?_
  cases h1:decide (cmpV x m < 0)
  ·exact wkl [sb h0,sd [(3,[se (zah V.cells hx rfl)]),(6,[sc (zcZ x m)])],sb h1,si hw] [0,1,4,5,6] 2 kr (ih (i+1) m (by omega) )
  ·exact wkl [sb h0,sd [(3,[se (zah V.cells hx rfl)]),(6,[sc (zcZ x m)])],sb h1,se (zah V.cells hx rfl),si hw] [0,1,4,5,6] 2 kr (ih (i+1) x (by omega) )
def minV (l:List V):V :=
 minL l (l.drop 1) 1 (l.headD V.null)
theorem zhJ (l:List V) (hl:zae l) (hy:l[0]?=some (l.headD V.null)) (hn:decide (((((l.map V.cells).length:Nat):Int)) < 1)=false):zac E0 S.slices_MinFunc_Value [vsl l,.fn S.value_Compare []] [] ((minV l).av) []:=by
 unfold minV
 exact wkc At.slices_MinFunc_Value [sb hn,se (zah V.cells hy rfl)] [0,1,4,5,6] 2 kr (by have hlt:=zfB hy;have ih:=zpp l hl (l.length - 1) 1 (l.headD V.null) (by omega);exact ih)
noncomputable def L_maxL (l:List V) (i:Nat) (m:V):Cfg:=zav B.slices_MaxFunc_Value 0 [(0,vsl l),(1,.fn S.value_Compare []),(4,.p 0 0),(5,.p 1 0),(6,iv (i:Nat))] [.box [iv 0,iv 0,sv ⟨#[]⟩],.box m.cells]
def maxL (l:List V):List (V)→Nat→(V)→V
 | [],i,m =>
  m
 | x::r,i,m =>
  bif decide (0 < cmpV x m) then
   maxL l r (i+1) (x)
  else
   maxL l r (i+1) (m)
theorem zoW (l:List V) (hl:zae l):∀ (kk i:Nat) (m:V),i+kk=(l).length→Good E0 B.slices_MaxFunc_Value [] (L_maxL l i m) (Shut 0 fun r h=>r=((maxL l ((l).drop i) i m).av)∧h=[]):=by
 intro kk
 induction kk with
 | zero =>
  intro i m hi
  have h0:decide (((i:Nat):Int) < (((l.map V.cells).length:Nat):Int))=false:=by simp;omega
  have e0:(l).drop i=[]:=List.drop_of_length_le (by omega)
  rw [e0]
  simp only [maxL]
  refine zab ?_
  exact wkr [sb h0] kr
 | succ kk ih =>
  intro i m hi
  obtain ⟨x,hx⟩:=zay (l:=l) (i:=i) (by omega)
  have h0:decide (((i:Nat):Int) < (((l.map V.cells).length:Nat):Int))=true:=by simp;omega
  have hw:=zap i (by first|omega|(simp only [zae,Few] at *;omega))
  rw [zbH hx]
  simp only [maxL]
  refine zab ?_
  cases h1:decide (0 < cmpV x m)
  ·exact wkl [sb h0,sd [(3,[se (zah V.cells hx rfl)]),(6,[sc (zcZ x m)])],sb h1,si hw] [0,1,4,5,6] 2 kr (ih (i+1) m (by omega) )
  ·exact wkl [sb h0,sd [(3,[se (zah V.cells hx rfl)]),(6,[sc (zcZ x m)])],sb h1,se (zah V.cells hx rfl),si hw] [0,1,4,5,6] 2 kr (ih (i+1) x (by omega) )
def maxV (l:List V):V :=
 maxL l (l.drop 1) 1 (l.headD V.null)
theorem zhP (l:List V) (hl:zae l) (hy:l[0]?=some (l.headD V.null)) (hn:decide (((((l.map V.cells).length:Nat):Int)) < 1)=false):zac E0 S.slices_MaxFunc_Value [vsl l,.fn S.value_Compare []] [] ((maxV l).av) []:=by
 unfold maxV
 exact wkc At.slices_MaxFunc_Value [sb hn,se (zah V.cells hy rfl)] [0,1,4,5,6] 2 kr (by have hlt:=zfB hy;have ih:=zoW l hl (l.length - 1) 1 (l.headD V.null) (by omega);exact ih)
def zj5 (f:X→V × Int) (x:X):Bool × Int :=
 bif (f x).snd==0 then
  bif !zc4 (f x).fst then
   (false,5)
  else
   (zr2 (f x).fst,(f x).snd)
 else
  (false,(f x).snd)
theorem zj1 (f:X→V × Int) (x:X) (r:List X) (frs:List Fr) (tb:List Tb) (hf:Pure S.evaluate_Value [x.av,fsl frs,tsl tb] (.tup [(f x).1.av,iv (f x).2])) (hs:(f x).1.small):zac E0 S.evaluate_True [xsl (x::r),fsl frs,tsl tb] [] (.tup [bv (zj5 f x).1,iv (zj5 f x).2]) []:=by
 unfold zj5
 cases h1:(f x).snd==0
 ·exact wk At.evaluate_True [sb (rfl:false=false),se (zbn (l:=x::r) (i:=0) (x:=x) rfl),sc hf,sb h1,sb h1] kr
 ·cases h2:!zc4 (f x).fst
  ·exact wk At.evaluate_True [sb (rfl:false=false),se (zbn (l:=x::r) (i:=0) (x:=x) rfl),sc hf,sg h1,sc (zbb ((f x).fst) (by first|assumption|omega|(simp;done)|(simp;omega))),sb h2,sg h1,sc (zmk ((f x).fst))] kr
  ·exact wk At.evaluate_True [sb (rfl:false=false),se (zbn (l:=x::r) (i:=0) (x:=x) rfl),sc hf,sg h1,sc (zbb ((f x).fst) (by first|assumption|omega|(simp;done)|(simp;omega))),sb h2,sb (rfl:false=false)] kr
def zn5 :Bool × Int :=
 (true,0)
theorem zkj  (frs:List Fr) (tb:List Tb):zac E0 S.evaluate_True [xsl [],fsl frs,tsl tb] [] (.tup [bv zn5.1,iv zn5.2]) []:=by
 exact wk At.evaluate_True [sb (rfl:true=true)] kr
noncomputable def clC (frs:List Fr):Cfg:=(upto (mk E0) (List.range 40) 0 3000 ⟨B.slices_Clone_Frame.ntmps,[.code (B.slices_Clone_Frame.body.getD .skip)],zb0 0 [fsl frs],[]⟩ []).2
theorem zty (frs:List Fr) (hl:zae frs):Good E0 B.slices_Clone_Frame [] (zbC (clC frs) false) (fun r h=>r=.own 0 frs.length∧h=[.row Ty.Frame (frs.map Fr.cells) false]):=by
 exact zct E0ok mix0 3000 (y:=AV.own (0:Nat) (List.map Fr.cells frs).length) (H:=[Blk.row Ty.Frame (List.map Fr.cells frs) false]) [sb (rfl:false=false),sq (show AllLen (List.map Fr.cells frs) (4:Nat)∧((List.map Fr.cells frs).length * (72:Nat)).le (140737488355328:Nat) by first|assumption|(simp;done)|(simp;omega)|omega|rfl|(refine ⟨⟨by simp⟩,?_⟩;first|(simp;done)|(simp;omega)|omega)|(refine ⟨⟨by simp⟩,?_,?_⟩ <;> first|(simp;done)|(simp;omega)|omega))] kr (⟨by first|rfl|(simp;done),rfl⟩)
theorem ztJ:Good E0 B.slices_Clone_Frame [] (zbC (clC []) true) (fun r h=>r=.nl∧h=[]):=by
 exact zct E0ok mix0 3000 (y:=AV.nl) (H:=[]) [sb (rfl:true=true)] kr (⟨rfl,rfl⟩)
end Go.AM
namespace Go.AM
set_option maxRecDepth 100000
set_option maxHeartbeats 1000000
set_option linter.unusedSimpArgs false
set_option linter.unusedVariables false
theorem zi8 (frs:List Fr) (hl:zae frs):zac E0 S.slices_Clone_Frame [fsl frs] [] (.own 0 frs.length) [.row Ty.Frame (frs.map Fr.cells) false]:=by
 refine za2 At.slices_Clone_Frame rfl kr (Nat.le_of_ble_eq_true kr) (zc5 E0ok mix0 3000 [] (List.range 40) 0 (c':=clC frs) kr kr (zek E0ok (xs:=frs.map Fr.cells) (e:=true) kr fun b hb=>?_))
 cases b with
 | false=>exact zty frs hl
 | true =>
  cases frs with
  | nil=>exact zcJ Ty.Frame ztJ ⟨rfl,rfl⟩
  | cons x r=>exact absurd (hb (by simp)) (by simp)
def zaZ (frs:List Fr) (t:Tb) (v:List V):(List Fr) :=
 frs++[Fr.mk t.sch.name false t.sch.cols v]
theorem zce (frs:List Fr) (t:Tb) (v:List V) (hl:zae frs):zac E0 S.evaluate_inside [fsl frs,t.av,vsl v] [] (fsl (zaZ frs t v)) []:=by
 unfold zaZ
 exact (by (try simp only [X.av,Qy.av,V.av,Tb.av,Sch.av,Pl.av,xsl,fsl,vsl,tsl,List.map_append,List.map_cons,List.map_nil,V.cells,Col.cells,Rw.cells,Tb.cells,Fr.cells,Sch.cells,Pl.cells,zaH,zaj,zal,zar,zau,X.cells,Qy.cells,X.args_mk,X.sub_mk,Qy.items_mk,Qy.wh_mk,xCol,xLit,xBin,xNeg]);exact wk At.evaluate_inside [sqx ((List.map Fr.cells frs++[[sv t.sch.name,bv false,AV.sl (List.map Col.cells t.sch.cols),AV.sl (List.map V.cells v)]]).length=(List.map Fr.cells frs++[[sv t.sch.name,bv false,AV.sl (List.map Col.cells t.sch.cols),AV.sl (List.map V.cells v)]]).length),sd [(1,[sc (zi8 frs (by first|assumption|omega|(simp;done)|(simp;omega)))]),(11,[sqx (AllLen [[sv t.sch.name,bv false,AV.sl (List.map Col.cells t.sch.cols),AV.sl (List.map V.cells v)]] 4∧frs.length=(List.map Fr.cells frs).length∧(((List.map Fr.cells frs).length+[[sv t.sch.name,bv false,AV.sl (List.map Col.cells t.sch.cols),AV.sl (List.map V.cells v)]].length) * 72).le 140737488355328)])]] kr)
end Go.AM
namespace Go.AM
set_option maxRecDepth 100000
set_option maxHeartbeats 1000000
set_option linter.unusedSimpArgs false
set_option linter.unusedVariables false
theorem zqK {p:Prop} (h:p:=by first|assumption|(simp;done)|(simp;omega)|omega|(simp at *;omega)):p:=h
abbrev AH (q:Qy) (tb:List Tb) (e:X) (n:Nat) (its:List V):Heap:=[.box [iv (n:Nat)],.box q.cells,.box [tsl tb],.box e.cells,.box [.own 5 its.length],.row Ty.Value (its.map V.cells) false]
noncomputable def zke (f:X→V × Int) (q:Qy) (w:List Fr) (tb:List Tb) (e:X) (n:Nat) (its0:List V) (i:Nat) (its:List V):Cfg:=zav B.evaluate_aggregate_c1 0 [(1,fsl w),(4,.p 2 0),(5,.p 3 0),(6,.p 4 0),(17,xsl q.items),(18,iv ((zaa q.items).length:Nat)),(19,iv (i:Nat))] (AH q tb e (n+1) its)
def aggI (f:X→V × Int) (q:Qy) (w:List Fr) (tb:List Tb) (e:X) (n:Nat) (its0:List V):List (X)→Nat→(List V)→Int × (List V)
 | [],i,its =>
  (0,its)
 | x::r,i,its =>
  bif (f x).snd != 0 then
   ((f x).snd,its)
  else
   bif (f x).fst.kind==0 then
    aggI f q w tb e n its0 r (i+1) (its)
   else
    bif e.kind==10 then
     bif (f x).fst.kind != 1 then
      (5,its)
     else
      aggI f q w tb e n its0 r (i+1) (its++[(f x).fst])
    else
     aggI f q w tb e n its0 r (i+1) (its++[(f x).fst])
theorem zo8 (f:X→V × Int) (q:Qy) (w:List Fr) (tb:List Tb) (e:X) (n:Nat) (its0:List V) (hl:q.items.length≤1000) (hi0:its0.length≤2000000) (hf:∀ x∈q.items,Pure S.evaluate_Value [x.av,fsl w,tsl tb] (.tup [(f x).1.av,iv (f x).2])):∀ (kk i:Nat) (its:List V),i+kk=(q.items).length→its.length≤its0.length+i→Good E0 B.evaluate_aggregate_c1 (AH q tb e n its0) (zke f q w tb e n its0 i its) (Shut 6 fun r h=>r=(iv (aggI f q w tb e n its0 ((q.items).drop i) i its).1)∧h=(AH q tb e (n+1) (aggI f q w tb e n its0 ((q.items).drop i) i its).2)):=by
 intro kk
 induction kk with
 | zero =>
  intro i its hi ho
  have h0:decide (((i:Nat):Int) < (((zaa q.items).length:Nat):Int))=false:=by simp;omega
  have e0:(q.items).drop i=[]:=List.drop_of_length_le (by omega)
  rw [e0]
  simp only [aggI]
  refine zab ?_
  exact wkr [sb h0] kr
 | succ kk ih =>
  intro i its hi ho
  obtain ⟨x,hx⟩:=zay (l:=q.items) (i:=i) (by omega)
  have h0:decide (((i:Nat):Int) < (((zaa q.items).length:Nat):Int))=true:=by simp;omega
  have hw:=zap i (by first|omega|(simp only [zae,Few] at *;omega))
  have hfx:=hf x (List.mem_of_getElem? hx)
  rw [zbH hx]
  simp only [aggI]
  refine zab ?_
  cases h1:(f x).snd != 0
  ·cases h2:(f x).fst.kind==0
   ·cases h3:e.kind==10
    ·exact wkl (c':=(Cfg.mk (zke f q w tb e n its0 (i+1) (its++[(f x).fst])).n (zke f q w tb e n its0 (i+1) (its++[(f x).fst])).todo [(1,AV.sl (List.map Fr.cells w)),(4,AV.p 2 0),(5,AV.p 3 0),(6,AV.p 4 0),(17,AV.sl (zaa q.items)),(18,iv (↑(zaa q.items).length:Int)),(19,iv (↑(i+1):Int))] [Blk.box [iv (↑(n+1):Int)],Blk.box [bv q.star,AV.sl (zaa q.items),sv q.frm,AV.sl (zaa q.wh)],Blk.box [AV.sl (List.map Tb.cells tb)],Blk.box [iv e.kind,iv e.op,bv e.not,iv e.val.kind,iv e.val.int,sv e.val.text,sv e.table,sv e.name,AV.sl (zaa e.args),AV.sl (zad e.sub)],Blk.box [AV.own 5 (List.map V.cells its++[[iv (f x).fst.kind,iv (f x).fst.int,sv (f x).fst.text]]).length],Blk.row Ty.Value (List.map V.cells its++[[iv (f x).fst.kind,iv (f x).fst.int,sv (f x).fst.text]]) false])) [sb h0,se (zbn hx),sc hfx,sb h1,sc (zak ((f x).fst)),sb h2,sb h3,sqx (AllLen [[iv (f x).fst.kind,iv (f x).fst.int,sv (f x).fst.text]] 3∧its.length=(List.map V.cells its).length∧(((List.map V.cells its).length+[[iv (f x).fst.kind,iv (f x).fst.int,sv (f x).fst.text]].length) * 32).le 140737488355328),si hw] [1,4,5,6,17,18,19] 6 kr (zan (show ([(1,AV.sl (List.map Fr.cells w)),(4,AV.p 2 0),(5,AV.p 3 0),(6,AV.p 4 0),(17,AV.sl (zaa q.items)),(18,iv (↑(zaa q.items).length:Int)),(19,iv (↑(i+1):Int))]:TS)=[(1,AV.sl (List.map Fr.cells w)),(4,AV.p 2 0),(5,AV.p 3 0),(6,AV.p 4 0),(17,AV.sl (zaa q.items)),(18,iv (↑(zaa q.items).length:Int)),(19,iv (↑(i+1):Int))] by first|rfl|(simp;done)|(simp [X.cells,Qy.cells,V.cells,Col.cells,Rw.cells,Tb.cells,Fr.cells,Sch.cells,Tp.cells,Pl.cells,xCol,xLit,xBin,xNeg];done)) (show ([Blk.box [iv (↑(n+1):Int)],Blk.box [bv q.star,AV.sl (zaa q.items),sv q.frm,AV.sl (zaa q.wh)],Blk.box [AV.sl (List.map Tb.cells tb)],Blk.box [iv e.kind,iv e.op,bv e.not,iv e.val.kind,iv e.val.int,sv e.val.text,sv e.table,sv e.name,AV.sl (zaa e.args),AV.sl (zad e.sub)],Blk.box [AV.own 5 (List.map V.cells its++[[iv (f x).fst.kind,iv (f x).fst.int,sv (f x).fst.text]]).length],Blk.row Ty.Value (List.map V.cells its++[[iv (f x).fst.kind,iv (f x).fst.int,sv (f x).fst.text]]) false]:Heap)=[Blk.box [iv (↑(n+1):Int)],Blk.box [bv q.star,AV.sl (zaa q.items),sv q.frm,AV.sl (zaa q.wh)],Blk.box [AV.sl (List.map Tb.cells tb)],Blk.box [iv e.kind,iv e.op,bv e.not,iv e.val.kind,iv e.val.int,sv e.val.text,sv e.table,sv e.name,AV.sl (zaa e.args),AV.sl (zad e.sub)],Blk.box [AV.own 5 (its++[(f x).fst]).length],Blk.row Ty.Value (List.map V.cells (its++[(f x).fst])) false] by first|rfl|(simp;done)|(simp [X.cells,Qy.cells,V.cells,Col.cells,Rw.cells,Tb.cells,Fr.cells,Sch.cells,Tp.cells,Pl.cells,xCol,xLit,xBin,xNeg];done)) (ih (i+1) (its++[(f x).fst]) (by omega) zqK))
    ·cases h4:(f x).fst.kind != 1
     ·exact wkl (c':=(Cfg.mk (zke f q w tb e n its0 (i+1) (its++[(f x).fst])).n (zke f q w tb e n its0 (i+1) (its++[(f x).fst])).todo [(1,AV.sl (List.map Fr.cells w)),(4,AV.p 2 0),(5,AV.p 3 0),(6,AV.p 4 0),(17,AV.sl (zaa q.items)),(18,iv (↑(zaa q.items).length:Int)),(19,iv (↑(i+1):Int))] [Blk.box [iv (↑(n+1):Int)],Blk.box [bv q.star,AV.sl (zaa q.items),sv q.frm,AV.sl (zaa q.wh)],Blk.box [AV.sl (List.map Tb.cells tb)],Blk.box [iv e.kind,iv e.op,bv e.not,iv e.val.kind,iv e.val.int,sv e.val.text,sv e.table,sv e.name,AV.sl (zaa e.args),AV.sl (zad e.sub)],Blk.box [AV.own 5 (List.map V.cells its++[[iv (f x).fst.kind,iv (f x).fst.int,sv (f x).fst.text]]).length],Blk.row Ty.Value (List.map V.cells its++[[iv (f x).fst.kind,iv (f x).fst.int,sv (f x).fst.text]]) false])) [sb h0,se (zbn hx),sc hfx,sb h1,sc (zak ((f x).fst)),sb h2,sg h3,sb h4,sqx (AllLen [[iv (f x).fst.kind,iv (f x).fst.int,sv (f x).fst.text]] 3∧its.length=(List.map V.cells its).length∧(((List.map V.cells its).length+[[iv (f x).fst.kind,iv (f x).fst.int,sv (f x).fst.text]].length) * 32).le 140737488355328),si hw] [1,4,5,6,17,18,19] 6 kr (zan (show ([(1,AV.sl (List.map Fr.cells w)),(4,AV.p 2 0),(5,AV.p 3 0),(6,AV.p 4 0),(17,AV.sl (zaa q.items)),(18,iv (↑(zaa q.items).length:Int)),(19,iv (↑(i+1):Int))]:TS)=[(1,AV.sl (List.map Fr.cells w)),(4,AV.p 2 0),(5,AV.p 3 0),(6,AV.p 4 0),(17,AV.sl (zaa q.items)),(18,iv (↑(zaa q.items).length:Int)),(19,iv (↑(i+1):Int))] by first|rfl|(simp;done)|(simp [X.cells,Qy.cells,V.cells,Col.cells,Rw.cells,Tb.cells,Fr.cells,Sch.cells,Tp.cells,Pl.cells,xCol,xLit,xBin,xNeg];done)) (show ([Blk.box [iv (↑(n+1):Int)],Blk.box [bv q.star,AV.sl (zaa q.items),sv q.frm,AV.sl (zaa q.wh)],Blk.box [AV.sl (List.map Tb.cells tb)],Blk.box [iv e.kind,iv e.op,bv e.not,iv e.val.kind,iv e.val.int,sv e.val.text,sv e.table,sv e.name,AV.sl (zaa e.args),AV.sl (zad e.sub)],Blk.box [AV.own 5 (List.map V.cells its++[[iv (f x).fst.kind,iv (f x).fst.int,sv (f x).fst.text]]).length],Blk.row Ty.Value (List.map V.cells its++[[iv (f x).fst.kind,iv (f x).fst.int,sv (f x).fst.text]]) false]:Heap)=[Blk.box [iv (↑(n+1):Int)],Blk.box [bv q.star,AV.sl (zaa q.items),sv q.frm,AV.sl (zaa q.wh)],Blk.box [AV.sl (List.map Tb.cells tb)],Blk.box [iv e.kind,iv e.op,bv e.not,iv e.val.kind,iv e.val.int,sv e.val.text,sv e.table,sv e.name,AV.sl (zaa e.args),AV.sl (zad e.sub)],Blk.box [AV.own 5 (its++[(f x).fst]).length],Blk.row Ty.Value (List.map V.cells (its++[(f x).fst])) false] by first|rfl|(simp;done)|(simp [X.cells,Qy.cells,V.cells,Col.cells,Rw.cells,Tb.cells,Fr.cells,Sch.cells,Tp.cells,Pl.cells,xCol,xLit,xBin,xNeg];done)) (ih (i+1) (its++[(f x).fst]) (by omega) zqK))
     ·exact wkr [sb h0,se (zbn hx),sc hfx,sb h1,sc (zak ((f x).fst)),sb h2,sg h3,sb h4] kr
   ·exact wkl [sb h0,se (zbn hx),sc hfx,sb h1,sc (zak ((f x).fst)),sb h2,si hw] [1,4,5,6,17,18,19] 6 kr (ih (i+1) its (by omega) zqK)
  ·exact wkr [sb h0,se (zbn hx),sc hfx,sb h1] kr
def aggC (f:X→V × Int) (q:Qy) (w:List Fr) (tb:List Tb) (e:X) (n:Nat) (its:List V):Int × (List V) :=
 aggI f q w tb e n its q.items 0 (its)
theorem zhc (f:X→V × Int) (q:Qy) (w:List Fr) (tb:List Tb) (e:X) (n:Nat) (its:List V) (rw:Rw) (hl:q.items.length≤1000) (hi0:its.length≤2000000) (hwn:IntKind.i64.wrap (((n:Nat):Int)+1)=((n+1:Nat):Int)) (hf:∀ x∈q.items,Pure S.evaluate_Value [x.av,fsl w,tsl tb] (.tup [(f x).1.av,iv (f x).2])):zac E0 S.evaluate_aggregate_c1 [.agg (Rw.cells rw),fsl w,.p 0 0,.p 1 0,.p 2 0,.p 3 0,.p 4 0] (AH q tb e n its) (iv (aggC f q w tb e n its).1) (AH q tb e (n+1) (aggC f q w tb e n its).2):=by
 unfold aggC
 exact wkc At.evaluate_aggregate_c1 [si hwn] [1,4,5,6,17,18,19] 6 kr (by have ih:=zo8 f q w tb e n its hl hi0 hf q.items.length 0 its (by simp) (by simp);exact ih)
end Go.AM
namespace Go.AM
set_option maxRecDepth 100000
set_option maxHeartbeats 1000000
set_option linter.unusedSimpArgs false
set_option linter.unusedVariables false
theorem zia {p:Prop} (h:p:=by first|assumption|omega|(simp;done)|(simp;omega)):p:=h
theorem zh8 {p:Prop} (h:p:=by first|omega|(have:=hgl x its;omega)):p:=h
noncomputable def L_selA (tr:Rw→Bool × Int) (g:Rw→List V→Int × List V) (q:Qy) (frs:List Fr) (tb:List Tb) (e:X) (t:Tb) (n0:Nat) (its0:List V) (i:Nat) (n:Nat) (its:List V):Cfg:=zav B.evaluate_selected 0 [(1,fsl frs),(2,tsl tb),(3,.fn S.evaluate_aggregate_c1 [.p 0 0,.p 1 0,.p 2 0,.p 3 0,.p 4 0]),(4,.p 6 0),(9,.p 7 0),(26,.sl (t.rows.map Rw.cells)),(27,iv ((t.rows.map Rw.cells).length:Nat)),(28,iv (i:Nat))] (AH q tb e n its++[.box q.cells,.box t.cells])
def selA (tr:Rw→Bool × Int) (g:Rw→List V→Int × List V) (q:Qy) (frs:List Fr) (tb:List Tb) (e:X) (t:Tb) (n0:Nat) (its0:List V):List (Rw)→Nat→(Nat)→(List V)→Int × Nat × (List V)
 | [],i,n,its =>
  (0,n,its)
 | x::r,i,n,its =>
  bif (tr x).snd==0 then
   bif (tr x).fst then
    bif (g x its).fst != 0 then
     ((g x its).fst,n+1,(g x its).snd)
    else
     selA tr g q frs tb e t n0 its0 r (i+1) (n+1) ((g x its).snd)
   else
    bif (tr x).snd != 0 then
     ((tr x).snd,n,its)
    else
     selA tr g q frs tb e t n0 its0 r (i+1) n (its)
  else
   bif (tr x).snd != 0 then
    ((tr x).snd,n,its)
   else
    selA tr g q frs tb e t n0 its0 r (i+1) n (its)
theorem zoY (tr:Rw→Bool × Int) (g:Rw→List V→Int × List V) (q:Qy) (frs:List Fr) (tb:List Tb) (e:X) (t:Tb) (n0:Nat) (its0:List V) (hfr:zae frs) (hrows:t.rows.length≤1000) (hn0:n0≤1000) (hi0:its0.length≤1000) (hgl:∀ (r:Rw) (its:List V),(g r its).2.length≤its.length+1000) (hT:∀ r∈t.rows,Pure S.evaluate_True [xsl q.wh,fsl (zaZ frs t r.vals),tsl tb] (.tup [bv (tr r).1,iv (tr r).2])) (hC:∀ r∈t.rows,∀ (n:Nat) (its:List V),n≤1000000→its.length≤2000000→zac E0 S.evaluate_aggregate_c1 [.agg (Rw.cells r),fsl (zaZ frs t r.vals),.p 0 0,.p 1 0,.p 2 0,.p 3 0,.p 4 0] (AH q tb e n its) (iv (g r its).1) (AH q tb e (n+1) (g r its).2)):∀ (kk i:Nat) (n:Nat) (its:List V),i+kk=(t.rows).length→n≤n0+i→its.length≤its0.length+1000 * i→Good E0 B.evaluate_selected (AH q tb e n0 its0) (L_selA tr g q frs tb e t n0 its0 i n its) (Shut 6 fun r h=>r=(iv (selA tr g q frs tb e t n0 its0 ((t.rows).drop i) i n its).1)∧h=(AH q tb e (selA tr g q frs tb e t n0 its0 ((t.rows).drop i) i n its).2.1 (selA tr g q frs tb e t n0 its0 ((t.rows).drop i) i n its).2.2)):=by
 intro kk
 induction kk with
 | zero =>
  intro i n its hi hn hi2
  have h0:decide (((i:Nat):Int) < (((t.rows.map Rw.cells).length:Nat):Int))=false:=by simp;omega
  have e0:(t.rows).drop i=[]:=List.drop_of_length_le (by omega)
  rw [e0]
  simp only [selA]
  refine zab ?_
  exact wkr [sb h0] kr
 | succ kk ih =>
  intro i n its hi hn hi2
  obtain ⟨x,hx⟩:=zay (l:=t.rows) (i:=i) (by omega)
  have h0:decide (((i:Nat):Int) < (((t.rows.map Rw.cells).length:Nat):Int))=true:=by simp;omega
  have hw:=zap i (by first|omega|(simp only [zae,Few] at *;omega))
  have hTx:=hT x (List.mem_of_getElem? hx);have hCx:=hC x (List.mem_of_getElem? hx) n its (by omega) (by omega)
  rw [zbH hx]
  simp only [selA]
  refine zab ?_
  cases h1:(tr x).snd==0
  ·cases h2:(tr x).snd != 0
   ·exact wkl [sb h0,se (zah Rw.cells hx rfl),sc (zce frs t x.vals zia),sc hTx,sb h1,sb h2,si hw] [1,2,3,4,9,26,27,28] 8 kr (ih (i+1) n its (by omega) zh8 zh8)
   ·exact wkr [sb h0,se (zah Rw.cells hx rfl),sc (zce frs t x.vals zia),sc hTx,sb h1,sb h2] kr
  ·cases h3:(tr x).fst
   ·cases h4:(tr x).snd != 0
    ·exact wkl [sb h0,se (zah Rw.cells hx rfl),sc (zce frs t x.vals zia),sc hTx,sg h1,sb h3,sb h4,si hw] [1,2,3,4,9,26,27,28] 8 kr (ih (i+1) n its (by omega) zh8 zh8)
    ·exact wkr [sb h0,se (zah Rw.cells hx rfl),sc (zce frs t x.vals zia),sc hTx,sg h1,sb h3,sb h4] kr
   ·cases h5:(g x its).fst != 0
    ·exact wkl [sb h0,se (zah Rw.cells hx rfl),sc (zce frs t x.vals zia),sc hTx,sg h1,sb h3,sl [0,1,2,3,4,5] hCx,sb h5,si hw] [1,2,3,4,9,26,27,28] 8 kr (ih (i+1) (n+1) ((g x its).snd) (by omega) zh8 zh8)
    ·exact wkr [sb h0,se (zah Rw.cells hx rfl),sc (zce frs t x.vals zia),sc hTx,sg h1,sb h3,sl [0,1,2,3,4,5] hCx,sb h5] kr
end Go.AM
namespace Go.AM
set_option maxRecDepth 100000
set_option maxHeartbeats 1000000
set_option linter.unusedSimpArgs false
set_option linter.unusedVariables false
theorem zgZ {p:Prop} (h:p:=by first|assumption|exact head0 (by assumption)|exact len1 (by assumption)):p:=h
def zlH (tr:Rw→Bool × Int) (g:Rw→List V→Int × List V) (q:Qy) (frs:List Fr) (tb:List Tb) (e:X) (t:Tb) (n0:Nat) (its0:List V):Int × Nat × (List V) :=
 selA tr g q frs tb e t n0 its0 t.rows 0 n0 (its0)
theorem zhM (tr:Rw→Bool × Int) (g:Rw→List V→Int × List V) (q:Qy) (frs:List Fr) (tb:List Tb) (e:X) (t:Tb) (n0:Nat) (its0:List V) (hfind:Pure S.evaluate_find [tsl tb,sv q.frm] (.tup [t.av,bv true])) (hfr:zae frs) (hrows:t.rows.length≤1000) (hn0:n0≤1000) (hi0:its0.length≤1000) (hgl:∀ (r:Rw) (its:List V),(g r its).2.length≤its.length+1000) (hT:∀ r∈t.rows,Pure S.evaluate_True [xsl q.wh,fsl (zaZ frs t r.vals),tsl tb] (.tup [bv (tr r).1,iv (tr r).2])) (hC:∀ r∈t.rows,∀ (n:Nat) (its:List V),n≤1000000→its.length≤2000000→zac E0 S.evaluate_aggregate_c1 [.agg (Rw.cells r),fsl (zaZ frs t r.vals),.p 0 0,.p 1 0,.p 2 0,.p 3 0,.p 4 0] (AH q tb e n its) (iv (g r its).1) (AH q tb e (n+1) (g r its).2)):zac E0 S.evaluate_selected [q.av,fsl frs,tsl tb,.fn S.evaluate_aggregate_c1 [.p 0 0,.p 1 0,.p 2 0,.p 3 0,.p 4 0]] (AH q tb e n0 its0) (iv (zlH tr g q frs tb e t n0 its0).1) (AH q tb e (zlH tr g q frs tb e t n0 its0).2.1 (zlH tr g q frs tb e t n0 its0).2.2):=by
 unfold zlH
 exact wkc At.evaluate_selected [sc hfind,sb (rfl:false=false)] [1,2,3,4,9,26,27,28] 8 kr (zoY tr g q frs tb e t n0 its0 hfr hrows hn0 hi0 hgl hT hC t.rows.length 0 n0 its0 (by simp) (by simp) (by simp))
def zqA (q:Qy) (frs:List Fr) (tb:List Tb) (e:X) (n0:Nat) (its0:List V):Int × Nat × (List V) :=
 (3,n0,its0)
theorem zhO (q:Qy) (frs:List Fr) (tb:List Tb) (e:X) (n0:Nat) (its0:List V) (hfind:Pure S.evaluate_find [tsl tb,sv q.frm] (.tup [Tb.zero.av,bv false])):zac E0 S.evaluate_selected [q.av,fsl frs,tsl tb,.fn S.evaluate_aggregate_c1 [.p 0 0,.p 1 0,.p 2 0,.p 3 0,.p 4 0]] (AH q tb e n0 its0) (iv (zqA q frs tb e n0 its0).1) (AH q tb e (zqA q frs tb e n0 its0).2.1 (zqA q frs tb e n0 its0).2.2):=by
 exact wk At.evaluate_selected [sc hfind,sb (rfl:true=true)] kr
noncomputable def zgF (e:X) (q:Qy) (frs:List Fr) (tb:List Tb):Cfg:=(upto (mk E0) (List.range 100) 6 3000 ⟨B.evaluate_aggregate.ntmps,[.code (B.evaluate_aggregate.body.getD .skip)],zb0 0 [e.av,fsl frs,tsl tb],[]⟩ [.el q.cells]).2
noncomputable def aggCfg (e:X) (q:Qy) (frs:List Fr) (tb:List Tb):Cfg:=cut (List.range 100) 7 ⟨(zgF e q frs tb).n,(zgF e q frs tb).todo,(zgF e q frs tb).ts,((zgF e q frs tb).h++[Blk.row Ty.Value [] false]).set 5 (.box (([AV.nl]:List AV).set 0 (.own (zgF e q frs tb).h.length 0)))⟩
theorem agg_to {e:X} {q:Qy} {frs:List Fr} {tb:List Tb} {R:AV→Heap→Prop} (hq:e.sub[0]?=some q) (hg:Good E0 B.evaluate_aggregate [] (aggCfg e q frs tb) (Shut 0 R)):zcY E0 S.evaluate_aggregate [e.av,fsl frs,tsl tb] [] R :=
 wkc (c':=zgF e q frs tb) At.evaluate_aggregate [se (zaX hq)] (List.range 100) 6 kr
  (zh3 (cs:=[AV.nl]) 5 0 Ty.Value (List.range 100) 7 kr kr kr rfl hg)
theorem head0 {l:List V} (h:(((l.length:Nat):Int)==0)=false):l[0]?=some (l.headD V.null):=by
 cases l with
 | nil=>simp at h
 | cons x r=>rfl
theorem len1 {l:List V} (h:(((l.length:Nat):Int)==0)=false):decide ((((l.map V.cells).length:Nat):Int) < 1)=false:=by
 cases l with
 | nil=>simp at h
 | cons x r=>simp;omega
def eAgg (sel:Int × Nat × List V) (e:X):V × Int :=
 bif sel.1 != 0 then (V.null,sel.1)
 else bif e.kind==8 then (⟨2,if decide (0 < ((sel.2.1:Nat):Int)) then 1 else 0,⟨#[]⟩⟩,0)
 else bif e.kind==9 then (⟨1,(sel.2.1:Nat),⟨#[]⟩⟩,0)
 else bif ((sel.2.2.length:Nat):Int)==0 then (V.null,0)
 else bif e.kind==10 then eSum sel.2.2
 else bif e.kind==11 then (minV sel.2.2,0)
 else (maxV sel.2.2,0)
theorem c_agg (sel:Int × Nat × List V) (e:X) (q:Qy) (frs:List Fr) (tb:List Tb) (hq:e.sub[0]?=some q) (hlen:zae sel.2.2) (hsel:zac E0 S.evaluate_selected [q.av,fsl frs,tsl tb,.fn S.evaluate_aggregate_c1 [.p 0 0,.p 1 0,.p 2 0,.p 3 0,.p 4 0]] (AH q tb e 0 []) (iv sel.1) (AH q tb e sel.2.1 sel.2.2)):zac E0 S.evaluate_aggregate [e.av,fsl frs,tsl tb] [] (.tup [(eAgg sel e).1.av,iv (eAgg sel e).2]) []:=by
 refine agg_to hq ?_
 unfold eAgg
 cases h1:sel.fst != 0
 ·cases h2:e.kind==8
  ·cases h3:e.kind==9
   ·cases h4:(sel.snd.snd.length:Int)==0
    ·cases h5:e.kind==10
     ·cases h6:e.kind==11
      ·exact wkr [sl [4,3,1,0,5,6] hsel,sb h1,sb h2,sb h3,sqx (sel.snd.snd.length=(List.map V.cells sel.snd.snd).length),sb h4,sb h5,sb h6,skx (sel.snd.snd.length=(List.map V.cells sel.snd.snd).length∧True∧True) [] (zhP sel.snd.snd zgZ zgZ zgZ)] kr
      ·exact wkr [sl [4,3,1,0,5,6] hsel,sb h1,sb h2,sb h3,sqx (sel.snd.snd.length=(List.map V.cells sel.snd.snd).length),sb h4,sb h5,sb h6,skx (sel.snd.snd.length=(List.map V.cells sel.snd.snd).length∧True∧True) [] (zhJ sel.snd.snd zgZ zgZ zgZ)] kr
     ·exact wkr [sl [4,3,1,0,5,6] hsel,sb h1,sb h2,sb h3,sqx (sel.snd.snd.length=(List.map V.cells sel.snd.snd).length),sb h4,sb h5,skx (sel.snd.snd.length=(List.map V.cells sel.snd.snd).length∧True) [] (zms sel.snd.snd zgZ)] kr
    ·exact wkr [sl [4,3,1,0,5,6] hsel,sb h1,sb h2,sb h3,sqx (sel.snd.snd.length=(List.map V.cells sel.snd.snd).length),sb h4] kr
   ·exact wkr [sl [4,3,1,0,5,6] hsel,sb h1,sb h2,sb h3,sc (za9 ((sel.snd.fst:Int)))] kr
  ·exact wkr [sl [4,3,1,0,5,6] hsel,sb h1,sb h2,sc (zbF (decide (0 < (sel.snd.fst:Int))))] kr
 ·exact wkr [sl [4,3,1,0,5,6] hsel,sb h1] kr
end Go.AM
namespace Go.AM
set_option maxRecDepth 100000
set_option maxHeartbeats 1000000
set_option linter.unusedSimpArgs false
set_option linter.unusedVariables false
theorem zbr {p:Prop} (h:p:=by first|assumption|exact hfo.short|exact hfo.cols|exact hfo.wrap|exact ztg (by assumption)|exact zsv (by assumption)|(simp_all;done)|(simp at *;omega)):p:=h
theorem zn6 (frs:List Fr) (q n:Str) (k:Nat) (f:Fr) (els:Int × Int × Bool):∀ (c:List Col) (j:Nat),zcQ frs q n k f els c j=bif decide (0≤idxF (fun c=>colC c n) c j) then (pm1 (k+1),idxF (fun c=>colC c n) c j,true) else els
 | [],j=>by simp [zcQ,idxF]
 | x::r,j=>by
  rcases Bool.eq_false_or_eq_true (x.name.toList==n.toList) with h|h
  ·simp [zcQ,idxF,colC,h]
  ·have ih:=zn6 frs q n k f els r (j+1)
   simp only [colC] at ih
   simp only [zcQ,idxF,colC,h,cond_false]
   exact ih
theorem zpS (frs:List Fr) (q n:Str):∀ k,sres frs q n k=rres frs q n k
 | 0=>rfl
 | k+1=>by simp only [sres,rres,zn6,zpS frs q n k]
theorem zdW (frs:List Fr) (q n:Str):zbe frs q n=zbi frs q n:=zpS frs q n _
theorem zov (frs:List Fr) (q n:Str) (h:(!(zbe frs q n).2.2)=false):ElAt (frs.map Fr.cells) (zbe frs q n).1 (rFr frs q n).cells 4:=by
 rw [zdW] at h ⊢;exact zow frs q n (by simpa using h)
theorem ztg {frs:List Fr} {q n:Str} (h:(!(zbe frs q n).2.2)=false):decide ((zbe frs q n).2.1 < 0)=false:=by
 rw [zdW] at h ⊢
 obtain ⟨i,j,e,_⟩:=zhN (by simpa using h:(zbi frs q n).2.2=true)
 rw [e];simp
theorem zsv {l:List V} {k:Int} (h:decide ((((l.map V.cells).length:Nat):Int)≤k)=false):k < l.length:=by simp at h;omega
noncomputable def zkE (f:X→V × Int) (op:List V→V × Int) (e:X) (frs:List Fr) (tb:List Tb) (i:Nat) (out:List V):Cfg:=zav B.evaluate_Value 0 [(1,fsl frs),(2,tsl tb),(3,.p 0 0),(6,.p 1 0),(11,.own 2 out.length),(73,xsl e.args),(74,iv ((zaa e.args).length:Nat)),(75,iv (i:Nat))] [.box e.cells,.box [iv 0,iv 0,sv ⟨#[]⟩],.row Ty.Value (out.map V.cells) false]
def evL (f:X→V × Int) (op:List V→V × Int) (e:X) (frs:List Fr) (tb:List Tb):List (X)→Nat→(List V)→V × Int
 | [],i,out =>
  ((op out).fst,(op out).snd)
 | x::r,i,out =>
  bif (f x).snd != 0 then
   (V.mk 0 0 (ByteArray.mk #[]),(f x).snd)
  else
   evL f op e frs tb r (i+1) (out++[(f x).fst])
theorem zqG (f:X→V × Int) (op:List V→V × Int) (e:X) (frs:List Fr) (tb:List Tb) (hl:Few e.args) (hf:∀ x∈e.args,Pure S.evaluate_Value [x.av,fsl frs,tsl tb] (.tup [(f x).1.av,iv (f x).2])) (hfg:∀ x∈e.args,(f x).1.Good) (hop:∀ l:List V,l.length=e.args.length→(∀ v∈l,v.Good)→Pure S.evaluate_operation [e.av,vsl l] (.tup [(op l).1.av,iv (op l).2])):∀ (kk i:Nat) (out:List V),i+kk=(e.args).length→(out.length=i)→(∀ v∈out,v.Good)→Good E0 B.evaluate_Value [] (zkE f op e frs tb i out) (Shut 0 fun r h=>r=(.tup [(evL f op e frs tb ((e.args).drop i) i out).1.av,iv (evL f op e frs tb ((e.args).drop i) i out).2])∧h=[]):=by
 intro kk
 induction kk with
 | zero =>
  intro i out hi ho hg
  have h0:decide (((i:Nat):Int) < (((zaa e.args).length:Nat):Int))=false:=by simp;omega
  have e0:(e.args).drop i=[]:=List.drop_of_length_le (by omega)
  rw [e0]
  simp only [evL]
  refine zab ?_
  exact wkr [sb h0,skx ((True∧True∧True∧True∧True∧True∧True∧True∧True∧True∧True)∧out.length=(List.map V.cells out).length∧True) [] (hop out (by first|assumption|omega) (by first|assumption|omega))] kr
 | succ kk ih =>
  intro i out hi ho hg
  obtain ⟨x,hx⟩:=zay (l:=e.args) (i:=i) (by omega)
  have h0:decide (((i:Nat):Int) < (((zaa e.args).length:Nat):Int))=true:=by simp;omega
  have hw:=zap i (by first|omega|(simp only [zae,Few] at *;omega))
  have hfx:=hf x (List.mem_of_getElem? hx);have hgx:=hfg x (List.mem_of_getElem? hx);have hlen:out.length≤1000:=by have:=zfB hx;simp only [Few] at hl;omega
  rw [zbH hx]
  simp only [evL]
  refine zab ?_
  cases h1:(f x).snd != 0
  ·exact wkl (c':=(Cfg.mk (zkE f op e frs tb (i+1) (out++[(f x).fst])).n (zkE f op e frs tb (i+1) (out++[(f x).fst])).todo [(1,AV.sl (List.map Fr.cells frs)),(2,AV.sl (List.map Tb.cells tb)),(3,AV.p 0 0),(6,AV.p 1 0),(11,AV.own 2 (List.map V.cells out++[[iv (f x).fst.kind,iv (f x).fst.int,sv (f x).fst.text]]).length),(73,AV.sl (zaa e.args)),(74,iv (↑(zaa e.args).length:Int)),(75,iv (↑(i+1):Int))] [Blk.box [iv e.kind,iv e.op,bv e.not,iv e.val.kind,iv e.val.int,sv e.val.text,sv e.table,sv e.name,AV.sl (zaa e.args),AV.sl (zad e.sub)],Blk.box [iv 0,iv 0,sv (ByteArray.mk #[])],Blk.row Ty.Value (List.map V.cells out++[[iv (f x).fst.kind,iv (f x).fst.int,sv (f x).fst.text]]) false])) [sb h0,se (zbn hx),sc hfx,sb h1,sqx (AllLen [[iv (f x).fst.kind,iv (f x).fst.int,sv (f x).fst.text]] 3∧out.length=(List.map V.cells out).length∧(((List.map V.cells out).length+[[iv (f x).fst.kind,iv (f x).fst.int,sv (f x).fst.text]].length) * 32).le 140737488355328),si hw] [1,2,3,6,11,73,74,75] 3 kr (zan (show ([(1,AV.sl (List.map Fr.cells frs)),(2,AV.sl (List.map Tb.cells tb)),(3,AV.p 0 0),(6,AV.p 1 0),(11,AV.own 2 (List.map V.cells out++[[iv (f x).fst.kind,iv (f x).fst.int,sv (f x).fst.text]]).length),(73,AV.sl (zaa e.args)),(74,iv (↑(zaa e.args).length:Int)),(75,iv (↑(i+1):Int))]:TS)=[(1,AV.sl (List.map Fr.cells frs)),(2,AV.sl (List.map Tb.cells tb)),(3,AV.p 0 0),(6,AV.p 1 0),(11,AV.own 2 (out++[(f x).fst]).length),(73,AV.sl (zaa e.args)),(74,iv (↑(zaa e.args).length:Int)),(75,iv (↑(i+1):Int))] by first|rfl|(simp;done)|(simp [X.cells,Qy.cells,V.cells,Col.cells,Rw.cells,Tb.cells,Fr.cells,Sch.cells,Tp.cells,Pl.cells,xCol,xLit,xBin,xNeg];done)) (show ([Blk.box [iv e.kind,iv e.op,bv e.not,iv e.val.kind,iv e.val.int,sv e.val.text,sv e.table,sv e.name,AV.sl (zaa e.args),AV.sl (zad e.sub)],Blk.box [iv 0,iv 0,sv (ByteArray.mk #[])],Blk.row Ty.Value (List.map V.cells out++[[iv (f x).fst.kind,iv (f x).fst.int,sv (f x).fst.text]]) false]:Heap)=[Blk.box [iv e.kind,iv e.op,bv e.not,iv e.val.kind,iv e.val.int,sv e.val.text,sv e.table,sv e.name,AV.sl (zaa e.args),AV.sl (zad e.sub)],Blk.box [iv 0,iv 0,sv (ByteArray.mk #[])],Blk.row Ty.Value (List.map V.cells (out++[(f x).fst])) false] by first|rfl|(simp;done)|(simp [X.cells,Qy.cells,V.cells,Col.cells,Rw.cells,Tb.cells,Fr.cells,Sch.cells,Tp.cells,Pl.cells,xCol,xLit,xBin,xNeg];done)) (ih (i+1) (out++[(f x).fst]) (by omega) (by first|assumption|(simp;omega)|exact fun v hv=>(List.mem_append.1 hv).elim (hg v) fun h=>by simp only [List.mem_singleton] at h;exact h ▸ hgx) (by first|assumption|(simp;omega)|exact fun v hv=>(List.mem_append.1 hv).elim (hg v) fun h=>by simp only [List.mem_singleton] at h;exact h ▸ hgx)))
  ·exact wkr [sb h0,se (zbn hx),sc hfx,sb h1] kr
structure OpKind (e:X):Prop where
 fok:zfS e=true
 k1:e.kind≠1
 k2:e.kind≠2
 k8:¬(8≤e.kind∧e.kind≤12)
def valF (f:X→V × Int) (op:List V→V × Int) (agg:V × Int) (e:X) (frs:List Fr) (tb:List Tb):V × Int :=
 bif !zfS e then
  (V.mk 0 0 (ByteArray.mk #[]),17)
 else
  bif e.kind==1 then
   (e.val,0)
  else
   bif e.kind==2 then
    bif !(zbe frs e.table e.name).snd.snd then
     (V.mk 0 0 (ByteArray.mk #[]),3)
    else
     bif decide ((↑(List.map V.cells (rFr frs e.table e.name).vals).length:Int)≤(zbe frs e.table e.name).snd.fst) then
      (V.mk 0 0 (ByteArray.mk #[]),17)
     else
      (zcx (rFr frs e.table e.name).vals (zbe frs e.table e.name).snd.fst,0)
   else
    bif e.kind==8 then
     (agg.fst,agg.snd)
    else
     bif e.kind==9 then
      (agg.fst,agg.snd)
     else
      bif e.kind==10 then
       (agg.fst,agg.snd)
      else
       bif e.kind==11 then
        (agg.fst,agg.snd)
       else
        bif e.kind==12 then
         (agg.fst,agg.snd)
        else
         evL f op e frs tb e.args 0 ([])
theorem zjA (f:X→V × Int) (op:List V→V × Int) (agg:V × Int) (e:X) (frs:List Fr) (tb:List Tb) (n:Nat) (hfo:FsOk n frs) (hl:Few e.args) (hf:∀ x∈e.args,Pure S.evaluate_Value [x.av,fsl frs,tsl tb] (.tup [(f x).1.av,iv (f x).2])) (hfg:∀ x∈e.args,(f x).1.Good) (hop:OpKind e→∀ l:List V,l.length=e.args.length→(∀ v∈l,v.Good)→Pure S.evaluate_operation [e.av,vsl l] (.tup [(op l).1.av,iv (op l).2])) (hagg:zfS e=true→8≤e.kind→e.kind≤12→Pure S.evaluate_aggregate [e.av,fsl frs,tsl tb] (.tup [agg.1.av,iv agg.2])):zac E0 S.evaluate_Value [e.av,fsl frs,tsl tb] [] (.tup [(valF f op agg e frs tb).1.av,iv (valF f op agg e frs tb).2]) []:=by
 unfold valF
 cases h1:!zfS e
 ·cases h2:e.kind==1
  ·cases h3:e.kind==2
   ·cases h4:e.kind==8
    ·cases h5:e.kind==9
     ·cases h6:e.kind==10
      ·cases h7:e.kind==11
       ·cases h8:e.kind==12
        ·exact wkc At.evaluate_Value (c':=(Cfg.mk (zkE f op e frs tb 0 []).n (zkE f op e frs tb 0 []).todo [(1,AV.sl (List.map Fr.cells frs)),(2,AV.sl (List.map Tb.cells tb)),(3,AV.p 0 0),(6,AV.p 1 0),(11,AV.nl),(73,AV.sl (zaa e.args)),(74,iv (↑(zaa e.args).length:Int)),(75,iv 0)] [Blk.box [iv e.kind,iv e.op,bv e.not,iv e.val.kind,iv e.val.int,sv e.val.text,sv e.table,sv e.name,AV.sl (zaa e.args),AV.sl (zad e.sub)],Blk.box [iv 0,iv 0,sv (ByteArray.mk #[])]])) [sc (zbz e),sb h1,sb h2,sb h3,sb h4,sb h5,sb h6,sb h7,sb h8] [1,2,3,6,11,73,74,75] 2 kr (za7 (c':=zkE f op e frs tb 0 []) 11 Ty.Value [1,2,3,6,11,73,74,75] 3 kr kr kr (zqG f op e frs tb hl hf hfg (hop ⟨by simpa using h1,by simpa using h2,by simpa using h3,by simp at *;omega⟩) e.args.length 0 ([]) (by simp) (by simp) (by simp)))
        ·exact wk At.evaluate_Value [sc (zbz e),sb h1,sb h2,sb h3,sb h4,sb h5,sb h6,sb h7,sb h8,sc (hagg zbr zbr zbr)] kr
       ·exact wk At.evaluate_Value [sc (zbz e),sb h1,sb h2,sb h3,sb h4,sb h5,sb h6,sb h7,sc (hagg zbr zbr zbr)] kr
      ·exact wk At.evaluate_Value [sc (zbz e),sb h1,sb h2,sb h3,sb h4,sb h5,sb h6,sc (hagg zbr zbr zbr)] kr
     ·exact wk At.evaluate_Value [sc (zbz e),sb h1,sb h2,sb h3,sb h4,sb h5,sc (hagg zbr zbr zbr)] kr
    ·exact wk At.evaluate_Value [sc (zbz e),sb h1,sb h2,sb h3,sb h4,sc (hagg zbr zbr zbr)] kr
   ·cases h9:!(zbe frs e.table e.name).snd.snd
    ·cases h10:decide ((↑(List.map V.cells (rFr frs e.table e.name).vals).length:Int)≤(zbe frs e.table e.name).snd.fst)
     ·exact wk At.evaluate_Value [sc (zbz e),sb h1,sb h2,sb h3,sc (zeU frs e.table e.name zbr zbr zbr),sb h9,se (zov frs e.table e.name zbr),sb h10,se (zov frs e.table e.name zbr),se (zoy ((rFr frs e.table e.name).vals) ((zbe frs e.table e.name).snd.fst) zbr zbr)] kr
     ·exact wk At.evaluate_Value [sc (zbz e),sb h1,sb h2,sb h3,sc (zeU frs e.table e.name zbr zbr zbr),sb h9,se (zov frs e.table e.name zbr),sb h10] kr
    ·exact wk At.evaluate_Value [sc (zbz e),sb h1,sb h2,sb h3,sc (zeU frs e.table e.name zbr zbr zbr),sb h9] kr
  ·exact wk At.evaluate_Value [sc (zbz e),sb h1,sb h2] kr
 ·exact wk At.evaluate_Value [sc (zbz e),sb h1] kr
end Go.AM
namespace Go.AM
set_option maxRecDepth 100000
set_option maxHeartbeats 1000000
set_option linter.unusedSimpArgs false
set_option linter.unusedVariables false
theorem zji {k o:Int} {xs:List X} (h:za6 k o xs=true):((k=1∨k=2)∧xs.length=0)∨((k=3∨k=4∨k=6)∧xs.length=1)∨(k=5∧xs.length=2∧1≤o∧o≤13)∨(k=7∧xs.length=3):=by
 simp only [za6,Bool.cond_eq_ite,zd6] at h
 simp at h
 repeat' split at h
 all_goals simp_all
 all_goals omega
theorem zjo {k o:Int} {xs:List X} {qs:List Qy} {it wh:List X} (hq:qs≠[]) (h:zaJ k o xs qs it wh=true):xs.length=0∧qs.length=1∧wh.length≤1∧(((k=8∨k=9)∧it.length=0)∨((k=10∨k=11∨k=12)∧it.length=1)):=by
 simp only [zaJ,Bool.cond_eq_ite,zd6,zjl] at h
 simp [hq] at h
 obtain ⟨h1,h2,h3,h4,h5,h6,h7,h⟩:=h
 repeat' split at h
 all_goals simp_all
 all_goals omega
def eOp (e:X) (l:List V):V × Int:=match l with
 | [a]=>if e.kind=6 then zle e.op e.not a else if e.kind=3 then zp8 e.op e.not a else zqq e.op e.not a
 | [a,b]=>zln e.op e.not a b
 | [a,b,c]=>znI e.op e.not a b c
 | _=>(V.null,0)
theorem OpKind.cases {e:X} (h:OpKind e):e.sub=[]∧(((e.kind=3∨e.kind=4∨e.kind=6)∧e.args.length=1)∨(e.kind=5∧e.args.length=2∧1≤e.op∧e.op≤13)∨(e.kind=7∧e.args.length=3)):=by
 have hf:=h.fok
 have k1:=h.k1
 have k2:=h.k2
 have k8:=h.k8
 unfold zfS at hf
 cases hs:e.sub with
 | nil =>
  rw [hs] at hf
  have:=zji hf
  refine ⟨rfl,?_⟩
  omega
 | cons q r =>
  rw [hs] at hf
  have:=(zjo (by simp) hf).2.2.2
  omega
theorem zpx (e:X) (h:OpKind e) (l:List V) (hl:l.length=e.args.length) (hg:∀ v∈l,v.Good):Pure S.evaluate_operation [e.av,vsl l] (.tup [(eOp e l).1.av,iv (eOp e l).2]):=by
 obtain ⟨hs,hk⟩:=h.cases
 cases e with
 | mk k o nt val tn nm xs qs =>
  simp only [X.sub_mk,X.kind_mk,X.op_mk,X.args_mk] at hs hk hl
  subst hs
  match l,hl,hg with
  | [],hl,_=>simp at hl;omega
  | [a],hl,hg =>
   have ha:=(hg a (by simp)).small
   simp only [List.length_cons,List.length_nil] at hl
   have:k=3∨k=4∨k=6:=by omega
   rcases this with rfl|rfl|rfl
   ·exact zgz o nt a val tn nm xs [] ha
   ·exact zgq o nt a val tn nm xs []
   ·exact zfl o nt a val tn nm xs []
  | [a,b],hl,hg =>
   simp only [List.length_cons,List.length_nil] at hl
   obtain ⟨rfl,ho⟩:k=5∧1≤o∧o≤13:=by omega
   exact zgn o nt a b val tn nm xs [] (hg a (by simp)).small (hg b (by simp)).small ho
  | [a,b,c],hl,hg =>
   simp only [List.length_cons,List.length_nil] at hl
   obtain rfl:k=7:=by omega
   exact zgi o nt a b c val tn nm xs []
  | a::b::c::d::r,hl,_=>simp only [List.length_cons] at hl;omega
def rowI (f:X→V × Int) (k:Int):List X→List V→Int × List V
 | [],its=>(0,its)
 | x::r,its=>bif (f x).2 != 0 then ((f x).2,its) else bif (f x).1.kind==0 then rowI f k r its else bif k==10&&(f x).1.kind != 1 then (5,its) else rowI f k r (its++[(f x).1])
theorem zpQ (f:X→V × Int) (q:Qy) (w:List Fr) (tb:List Tb) (e:X) (n:Nat) (its0:List V):∀ (l:List X) (i:Nat) (its:List V),aggI f q w tb e n its0 l i its=rowI f e.kind l its
 | [],_,_=>rfl
 | x::r,i,its=>by
  simp only [aggI,rowI,zpQ f q w tb e n its0 r]
  cases (f x).2 != 0 <;> cases (f x).1.kind==0 <;> cases e.kind==10 <;> simp
theorem zja (f:X→V × Int) (k:Int):∀ (l:List X) (its:List V),(rowI f k l its).2.length≤its.length+l.length
 | [],its=>by simp [rowI]
 | x::r,its=>by
  have h1:=zja f k r its
  have h2:=zja f k r (its++[(f x).1])
  simp only [List.length_append,List.length_cons,List.length_nil] at h2
  simp only [rowI,Bool.cond_eq_ite,List.length_cons]
  repeat' split
  all_goals (try simp only);omega
theorem zkY {P:V→Prop} (f:X→V × Int) (k:Int):∀ (l:List X) (its:List V),(∀ x∈l,P (f x).1)→(∀ v∈its,P v)→∀ v∈(rowI f k l its).2,P v
 | [],its,_,h=>h
 | x::r,its,hx,h=>by
  simp only [rowI,Bool.cond_eq_ite]
  have hr:∀ y∈r,P (f y).1:=fun y hy=>hx y (by simp [hy])
  repeat' split
  ·exact h
  ·exact zkY f k r its hr h
  ·exact h
  ·exact zkY f k r _ hr fun v hv=>(List.mem_append.1 hv).elim (h v) fun hv=>by simp only [List.mem_singleton] at hv;exact hv ▸ hx x (by simp)
def selR (tr:Rw→Bool × Int) (g:Rw→List V→Int × List V):List Rw→Nat→List V→Int × Nat × List V
 | [],n,its=>(0,n,its)
 | r::l,n,its=>bif (tr r).2 != 0 then ((tr r).2,n,its) else bif (tr r).1 then (bif (g r its).1 != 0 then ((g r its).1,n+1,(g r its).2) else selR tr g l (n+1) (g r its).2) else selR tr g l n its
theorem zpJ (tr:Rw→Bool × Int) (g:Rw→List V→Int × List V) (q:Qy) (frs:List Fr) (tb:List Tb) (e:X) (t:Tb) (n0:Nat) (its0:List V):∀ (l:List Rw) (i n:Nat) (its:List V),selA tr g q frs tb e t n0 its0 l i n its=selR tr g l n its
 | [],_,_,_=>rfl
 | r::l,i,n,its=>by
  simp only [selA,selR,zpJ tr g q frs tb e t n0 its0 l,bne]
  cases (tr r).2==0 <;> cases (tr r).1 <;> simp
theorem zla (tr:Rw→Bool × Int) (g:Rw→List V→Int × List V) (m:Nat) (hg:∀ r its,(g r its).2.length≤its.length+m):∀ (l:List Rw) (n:Nat) (its:List V),(selR tr g l n its).2.2.length≤its.length+m * l.length
 | [],n,its=>by simp [selR]
 | r::l,n,its=>by
  have h1:=zla tr g m hg l n its
  have h2:=zla tr g m hg l (n+1) (g r its).2
  have h3:=hg r its
  simp only [selR,Bool.cond_eq_ite,List.length_cons,Nat.mul_add]
  repeat' split
  all_goals (try simp only);omega
theorem zli {P:V→Prop} (tr:Rw→Bool × Int) (g:Rw→List V→Int × List V):∀ (l:List Rw) (n:Nat) (its:List V),(∀ r∈l,∀ its,(∀ v∈its,P v)→∀ v∈(g r its).2,P v)→(∀ v∈its,P v)→∀ v∈(selR tr g l n its).2.2,P v
 | [],n,its,_,h=>h
 | r::l,n,its,hg,h=>by
  have hl:∀ r∈l,∀ its,(∀ v∈its,P v)→∀ v∈(g r its).2,P v:=fun y hy=>hg y (by simp [hy])
  simp only [selR,Bool.cond_eq_ite]
  repeat' split
  ·exact h
  ·exact hg r (by simp) its h
  ·exact zli tr g l _ _ hl (hg r (by simp) its h)
  ·exact zli tr g l _ _ hl h
def zby (f:X→V × Int):List X→Bool × Int
 | []=>zn5
 | x::_=>zj5 f x
def zfx (F:List Fr→X→V × Int) (e:X) (frs:List Fr) (tb:List Tb):V × Int:=match e.sub with
 | []=>(V.null,0)
 | q::_=>match zfw tb q.frm with
  | none=>eAgg (3,0,[]) e
  | some t=>eAgg (selR (fun r=>zby (F (zaZ frs t r.vals)) q.wh) (fun r its=>rowI (F (zaZ frs t r.vals)) e.kind q.items its) t.rows 0 []) e
def eval:Nat→X→List Fr→List Tb→V × Int
 | 0,_,_,_=>(V.null,0)
 | n+1,e,frs,tb=>valF (fun x=>eval n x frs tb) (eOp e) (zfx (fun w x=>eval n x w tb) e frs tb) e frs tb
/- ### values are valid -/
theorem zkb (c:Bool):V.Good ⟨2,if c=true then 1 else 0,⟨#[]⟩⟩:=by
 cases c
 ·exact zem (n:=0) (by decide)
 ·exact zem (n:=1) (by decide)
theorem gc1 {α:Type} (c:Bool) {a b:V × α} (ha:a.1.Good) (hb:b.1.Good):(bif c then a else b).1.Good:=by cases c <;> assumption
theorem gc0 (c:Bool) {a b:V} (ha:a.Good) (hb:b.Good):(bif c then a else b).Good:=by cases c <;> assumption
theorem ic1 (c:Bool) {a b:Int × Bool} (ha:I64 a.1) (hb:I64 b.1):I64 (bif c then a else b).1:=by cases c <;> assumption
theorem zrt (op:Int) (a b:V):(vCmp op a b).1.Good:=by
 unfold vCmp;repeat' (first|apply gc1|exact zaS|exact zkb _)
theorem zlq (a b:V):(zfJ a b).Good:=by
 unfold zfJ;repeat' (first|apply gc0|exact zaS|exact zkb _)
theorem zmZ (a b:V):(land a b).1.Good:=by
 unfold land;repeat' (first|apply gc1|exact zaS|exact zlq _ _)
theorem zmB (a:V) (ha:a.Good):(lnot a).1.Good:=by
 unfold lnot;repeat' (first|apply gc1|exact zaS|exact ha|exact zkb _)
theorem zsR (a b:V):(lor a b).1.Good:=by
 unfold lor;repeat' (first|exact zmB _ (zlq _ _)|exact zaS|apply gc1)
theorem zfv (v:V) (ok:Bool) (h:v.Good):(zdf v ok).1.Good:=by
 unfold zdf;repeat' (first|apply gc1|exact zaS|exact h)
theorem aAdd_i (a b:Int):I64 (aAdd a b).1:=by
 unfold aAdd;repeat' (first|apply ic1|exact zc7 _|exact ⟨by decide,by decide⟩)
theorem aSub_i (a b:Int):I64 (aSub a b).1:=by
 unfold aSub;repeat' (first|apply ic1|exact zc7 _|exact ⟨by decide,by decide⟩)
theorem aMul_i (a b:Int):I64 (aMul a b).1:=by
 unfold aMul;repeat' (first|apply ic1|exact zc7 _|exact ⟨by decide,by decide⟩)
theorem aDiv_i (a b:Int):I64 (aDiv a b).1:=by
 unfold aDiv;repeat' (first|apply ic1|exact zc7 _|exact ⟨by decide,by decide⟩)
theorem aMod_i (a b:Int) (ha:I64 a):I64 (aMod a b).1:=by
 have h:I64 (a.tmod b):=by
  have h0:=Int.natAbs_tmod a b
  have h1:=Nat.mod_le a.natAbs b.natAbs
  have h2:a < 0→a.tmod b≤0:=fun h=>by
   have h3:=Int.tmod_nonneg b (show 0≤-a by omega)
   rw [Int.neg_tmod] at h3;omega
  simp only [I64] at *
  omega
 unfold aMod;repeat' (first|apply ic1|exact h|exact ⟨by decide,by decide⟩)
theorem zkX (op:Int) (a b:V) (ha:a.Good):(zeE op a b).1.Good:=by
 unfold zeE
 repeat' (first|apply gc1|exact zaS|exact zbv (aAdd_i _ _)|exact zbv (aSub_i _ _)|exact zbv (aMul_i _ _)|exact zbv (aDiv_i _ _)|exact zbv (aMod_i _ _ ha.i64)|exact zbv ⟨by decide,by decide⟩)
theorem zst (e:X) (l:List V) (hg:∀ v∈l,v.Good):(eOp e l).1.Good:=by
 match l,hg with
 | [],_=>exact zaS
 | [a],hg =>
  have ha:=hg a (by simp)
  simp only [eOp]
  split
  ·exact zkb _
  split
  ·exact zfv _ _ (zmB _ ha)
  ·exact zkX _ _ _ (zbv ⟨by decide,by decide⟩)
 | [a,b],hg =>
  have ha:=hg a (by simp)
  simp only [eOp,zln]
  repeat' (first|exact zfv _ _ (zmZ _ _)|exact zfv _ _ (zsR _ _)|exact zrt _ _ _|exact zkX _ _ _ ha|apply gc1)
 | [a,b,c],hg =>
  simp only [eOp,znI,zfi]
  repeat' (first|exact zaS|exact zfv _ _ (zmZ _ _)|apply gc1)
 | a::b::c::d::r,_=>exact zaS
theorem zlc {P:V→Prop} (l0:List V):∀ (l:List V) (i:Nat) (m:V),(∀ v∈l,P v)→P m→P (minL l0 l i m)
 | [],_,_,_,h=>h
 | x::r,i,m,hl,h=>by
  simp only [minL,Bool.cond_eq_ite]
  split
  ·exact zlc l0 r _ _ (fun v hv=>hl v (by simp [hv])) (hl x (by simp))
  ·exact zlc l0 r _ _ (fun v hv=>hl v (by simp [hv])) h
theorem zk1 {P:V→Prop} (l0:List V):∀ (l:List V) (i:Nat) (m:V),(∀ v∈l,P v)→P m→P (maxL l0 l i m)
 | [],_,_,_,h=>h
 | x::r,i,m,hl,h=>by
  simp only [maxL,Bool.cond_eq_ite]
  split
  ·exact zk1 l0 r _ _ (fun v hv=>hl v (by simp [hv])) (hl x (by simp))
  ·exact zk1 l0 r _ _ (fun v hv=>hl v (by simp [hv])) h
theorem zsm {P:V→Prop} {l:List V} (h:∀ v∈l,P v) (h0:P V.null):P (minV l) :=
 zlc l _ _ _ (fun v hv=>h v (List.mem_of_mem_drop hv)) (by cases l with|nil=>exact h0|cons x r=>exact h x (by simp))
theorem zsN {P:V→Prop} {l:List V} (h:∀ v∈l,P v) (h0:P V.null):P (maxV l) :=
 zk1 l _ _ _ (fun v hv=>h v (List.mem_of_mem_drop hv)) (by cases l with|nil=>exact h0|cons x r=>exact h x (by simp))
theorem zr0 (l0:List Int):∀ (l:List Int) (i:Nat) (a b:Int),I64 (sumL l0 l i a b).1
 | [],i,a,b=>by
  simp only [sumL]
  repeat' (first|apply ic1|exact zc7 _|exact ⟨by decide,by decide⟩)
 | x::r,i,a,b=>by simp only [sumL];exact zr0 l0 r _ _ _
theorem zoi (its:List V):∀ (c:List V) (i:Nat) (l:List Int),zgd its c i l=bif !(aSum (l++c.map V.int)).2 then (V.null,6) else (⟨1,(aSum (l++c.map V.int)).1,⟨#[]⟩⟩,0)
 | [],i,l=>by simp [zgd,V.null]
 | x::r,i,l=>by simp only [zgd,List.map_cons];rw [zoi its r];simp
theorem zs0 (its:List V):eSum its=bif !(aSum (its.map V.int)).2 then (V.null,6) else (⟨1,(aSum (its.map V.int)).1,⟨#[]⟩⟩,0):=by
 unfold eSum;rw [zoi];simp
theorem zrk (its:List V):(eSum its).1.Good:=by
 rw [zs0]
 exact gc1 _ zaS (zbv (zr0 _ _ _ _ _))
theorem zmV (sel:Int × Nat × List V) (e:X) (hn:sel.2.1≤1000000) (h:∀ v∈sel.2.2,v.Good):(eAgg sel e).1.Good:=by
 unfold eAgg
 have hb:V.Good ⟨2,if decide (0 < ((sel.2.1:Nat):Int)) then 1 else 0,⟨#[]⟩⟩:=zkb _
 repeat' (first|exact zaS|exact hb|exact zbv ⟨by omega,by omega⟩|exact zrk _|exact zsm h zaS|exact zsN h zaS|apply gc1)
theorem znZ (tr:Rw→Bool × Int) (g:Rw→List V→Int × List V):∀ (l:List Rw) (n:Nat) (its:List V),(selR tr g l n its).2.1≤n+l.length
 | [],n,its=>by simp [selR]
 | r::l,n,its=>by
  have h1:=znZ tr g l n its
  have h2:=znZ tr g l (n+1) (g r its).2
  simp only [selR,Bool.cond_eq_ite,List.length_cons]
  repeat' split
  all_goals (try simp only);omega
abbrev FsG (frs:List Fr):Prop:=∀ f∈frs,∀ v∈f.vals,v.Good
structure TbG (tb:List Tb):Prop where
 vals:∀ x∈tb,∀ r∈x.rows,∀ v∈r.vals,v.Good
 rows:∀ x∈tb,x.rows.length≤1000
theorem FsG.ins {frs:List Fr} (h:FsG frs) {t:Tb} {v:List V} (hv:∀ x∈v,x.Good):FsG (zaZ frs t v):=fun f hf=>by
 simp only [zaZ,List.mem_append,List.mem_singleton] at hf
 rcases hf with hf|rfl
 ·exact h f hf
 ·exact hv
theorem zj8 {tb:List Tb} {n:Str} {t:Tb} (h:zfw tb n=some t):t∈tb:=List.mem_of_find?_eq_some h
theorem zqv {F:List Fr→X→V × Int} {n:Nat} {e:X} {frs:List Fr} {tb:List Tb} (he:XOk (n+1) e) (hf:FsG frs) (ht:TbG tb) (hF:∀ w x,XOk n x→FsG w→(F w x).1.Good):(zfx F e frs tb).1.Good:=by
 unfold zfx
 split
 ·exact zaS
 ·rename_i q r hs
  obtain ⟨_,_,_,hsub⟩:=he
  obtain ⟨h1,h2,h3⟩:=hsub q (by rw [hs];simp)
  split
  ·exact zmV _ _ (by simp) (fun v hv=>by cases hv)
  ·rename_i t hfd
   have htm:=zj8 hfd
   refine zmV _ _ ?_ ?_
   ·have:=znZ (fun r=>zby (F (zaZ frs t r.vals)) q.wh) (fun r its=>rowI (F (zaZ frs t r.vals)) e.kind q.items its) t.rows 0 []
    have:=ht.rows t htm
    omega
   ·refine zli _ _ _ _ _ (fun r hr its hi=>zkY _ _ _ _ (fun x hx=>hF _ x (h2 x hx) (hf.ins (ht.vals t htm r hr))) hi) (fun v hv=>by cases hv)
theorem zoH (f:X→V × Int) (op:List V→V × Int) (e:X) (frs:List Fr) (tb:List Tb) (hop:∀ l,(∀ v∈l,v.Good)→(op l).1.Good):∀ (l:List X) (i:Nat) (out:List V),(∀ x∈l,(f x).1.Good)→(∀ v∈out,v.Good)→(evL f op e frs tb l i out).1.Good
 | [],i,out,_,h=>hop out h
 | x::r,i,out,hl,h=>by
  simp only [evL]
  exact gc1 _ zaS (zoH f op e frs tb hop r _ _ (fun y hy=>hl y (by simp [hy])) fun v hv=>(List.mem_append.1 hv).elim (h v) fun h=>by simp only [List.mem_singleton] at h;exact h ▸ hl x (by simp))
theorem zrh {P:V→Prop} {l:List V} (h:∀ v∈l,P v) (h0:P V.null) (k:Int):P (zcx l k):=by
 unfold zcx
 rw [List.getD_eq_getElem?_getD]
 cases hk:l[k.toNat]? with
 | none=>exact h0
 | some v=>exact h v (List.mem_of_getElem? hk)
theorem ztS (frs:List Fr) (q n:Str):rFr frs q n∈frs∨rFr frs q n=zaO:=by
 unfold rFr
 rw [List.getD_eq_getElem?_getD]
 cases hk:frs[(zbi frs q n).1.toNat]? with
 | none=>exact .inr rfl
 | some v=>exact .inl (List.mem_of_getElem? hk)
theorem zdH:∀ (n:Nat) (e:X) (frs:List Fr) (tb:List Tb),XOk n e→FsG frs→TbG tb→(eval n e frs tb).1.Good
 | 0,e,frs,tb,h,_,_=>h.elim
 | n+1,e,frs,tb,h,hf,ht=>by
  have hA:=zqv (F:=fun w x=>eval n x w tb) h hf ht (fun w x hx hw=>zdH n x w tb hx hw ht)
  obtain ⟨h1,h2,h3,h4⟩:=h
  have hv:∀ v∈(rFr frs e.table e.name).vals,v.Good:=by
   rcases ztS frs e.table e.name with h|h
   ·exact hf _ h
   ·rw [h];intro v hv;cases hv
  simp only [eval,valF]
  repeat' (first|exact zaS|exact h1|exact hA|exact zrh hv zaS _|exact zoH _ _ _ _ _ (fun l hl=>zst e l hl) _ _ _ (fun x hx=>zdH n x frs tb (h3 x hx) hf ht) (fun v hv=>by cases hv)|apply gc1)
end Go.AM
namespace Go.AM
set_option maxRecDepth 100000
set_option maxHeartbeats 1000000
set_option linter.unusedSimpArgs false
set_option linter.unusedVariables false
theorem FsOk.eins {n:Nat} {frs:List Fr} (h:FsOk (n+1) frs) {t:Tb} (hc:zae t.sch.cols) {v:List V} (hv:∀ x∈v,x.Good):FsOk n (zaZ frs t v):=by
 refine ⟨by have:=h.len;simp [zaZ];omega,fun f hf=>?_,fun f hf=>?_⟩
 ·simp only [zaZ,List.mem_append,List.mem_singleton] at hf
  rcases hf with hf|rfl
  ·exact h.cols f hf
  ·exact hc
 ·simp only [zaZ,List.mem_append,List.mem_singleton] at hf
  rcases hf with hf|rfl
  ·exact h.vals f hf
  ·exact fun x hx=>(hv x hx).small
theorem zrD {f:X→V × Int} {wh:List X} {frs:List Fr} {tb:List Tb} (hf:∀ x∈wh,Pure S.evaluate_Value [x.av,fsl frs,tsl tb] (.tup [(f x).1.av,iv (f x).2])) (hg:∀ x∈wh,(f x).1.Good):Pure S.evaluate_True [xsl wh,fsl frs,tsl tb] (.tup [bv (zby f wh).1,iv (zby f wh).2]):=by
 cases wh with
 | nil=>exact zkj frs tb
 | cons x r=>exact zj1 f x r frs tb (hf x (by simp)) (hg x (by simp)).small
theorem zqx {e:X} (h:zfS e=true) (h8:8≤e.kind) (h12:e.kind≤12):∃ q,e.sub=[q]:=by
 unfold zfS at h
 cases hs:e.sub with
 | nil=>rw [hs] at h;have:=zji h;omega
 | cons q r =>
  rw [hs] at h
  have:=(zjo (by simp) h).2.1
  cases r with
  | nil=>exact ⟨q,rfl⟩
  | cons x y=>simp at this
theorem zp4 {F:List Fr→X→V × Int} {n:Nat} {q:Qy} {frs:List Fr} {tb:List Tb} {e:X} {t:Tb} (hfd:zfw tb q.frm=some t) (hfo:FsOk (n+1) frs) (hto:TbOk tb) (hfg:FsG frs) (htg:TbG tb) (hi:Few q.items)
  (hF:∀ w,FsOk n w→FsG w→∀ x,(x∈q.items∨x∈q.wh)→Pure S.evaluate_Value [x.av,fsl w,tsl tb] (.tup [(F w x).1.av,iv (F w x).2])∧(F w x).1.Good) :
  zac E0 S.evaluate_selected [q.av,fsl frs,tsl tb,.fn S.evaluate_aggregate_c1 [.p 0 0,.p 1 0,.p 2 0,.p 3 0,.p 4 0]] (AH q tb e 0 [])
   (iv (selR (fun r=>zby (F (zaZ frs t r.vals)) q.wh) (fun r its=>rowI (F (zaZ frs t r.vals)) e.kind q.items its) t.rows 0 []).1)
   (AH q tb e (selR (fun r=>zby (F (zaZ frs t r.vals)) q.wh) (fun r its=>rowI (F (zaZ frs t r.vals)) e.kind q.items its) t.rows 0 []).2.1 (selR (fun r=>zby (F (zaZ frs t r.vals)) q.wh) (fun r its=>rowI (F (zaZ frs t r.vals)) e.kind q.items its) t.rows 0 []).2.2):=by
 have htm:=zj8 hfd
 have hin:∀ r∈t.rows,FsOk n (zaZ frs t r.vals)∧FsG (zaZ frs t r.vals):=fun r hr=>⟨hfo.eins (hto.cols t htm) (htg.vals t htm r hr),hfg.ins (htg.vals t htm r hr)⟩
 have h:=zhM (fun r=>zby (F (zaZ frs t r.vals)) q.wh) (fun r its=>rowI (F (zaZ frs t r.vals)) e.kind q.items its) q frs tb e t 0 [] (zjP tb q.frm hto.len t hfd) hfo.short (hto.rows t htm) (by simp) (by simp)
  (fun r its=>by have:=zja (F (zaZ frs t r.vals)) e.kind q.items its;simp only [Few] at hi;omega)
  (fun r hr=>zrD (fun x hx=>(hF _ (hin r hr).1 (hin r hr).2 x (.inr hx)).1) (fun x hx=>(hF _ (hin r hr).1 (hin r hr).2 x (.inr hx)).2))
  (fun r hr n its hn hl=>by
   have h:=zhc (F (zaZ frs t r.vals)) q (zaZ frs t r.vals) tb e n its r hi hl (by rw [IntKind.wrap_i64];omega) (fun x hx=>(hF _ (hin r hr).1 (hin r hr).2 x (.inl hx)).1)
   simp only [aggC,zpQ] at h
   exact h)
 simp only [zlH,zpJ] at h
 exact h
theorem zoV {F:List Fr→X→V × Int} {n:Nat} {e:X} {frs:List Fr} {tb:List Tb} (he:XOk (n+1) e) (hs:∃ q,e.sub=[q]) (hfo:FsOk (n+1) frs) (hto:TbOk tb) (hfg:FsG frs) (htg:TbG tb)
  (hF:∀ w,FsOk n w→FsG w→∀ x,XOk n x→Pure S.evaluate_Value [x.av,fsl w,tsl tb] (.tup [(F w x).1.av,iv (F w x).2])∧(F w x).1.Good):Pure S.evaluate_aggregate [e.av,fsl frs,tsl tb] (.tup [(zfx F e frs tb).1.av,iv (zfx F e frs tb).2]):=by
 obtain ⟨q,hq⟩:=hs
 obtain ⟨_,_,_,h4⟩:=he
 obtain ⟨h5,h6,h7⟩:=h4 q (by rw [hq];simp)
 have hq0:e.sub[0]?=some q:=by rw [hq];rfl
 unfold zfx
 rw [hq]
 simp only
 cases hfd:zfw tb q.frm with
 | none=>exact c_agg (3,0,[]) e q frs tb hq0 (by simp) (zhO q frs tb e 0 [] (zjJ tb q.frm hto.len hfd))
 | some t =>
  have htm:=zj8 hfd
  refine c_agg _ e q frs tb hq0 ?_ (zp4 hfd hfo hto hfg htg h5.1.few fun w hw hg x hx=>hF w hw hg x (hx.elim (h6 x) (h7 x)))
  have hl:=zla (fun r=>zby (F (zaZ frs t r.vals)) q.wh) (fun r its=>rowI (F (zaZ frs t r.vals)) e.kind q.items its) 1000 (fun r its=>by have:=zja (F (zaZ frs t r.vals)) e.kind q.items its;simp only [Thin] at h5;omega) t.rows 0 []
  have hr:=hto.rows t htm
  simp only [zae]
  simp only [List.length_nil] at hl
  have:1000 * t.rows.length≤1000 * 1000:=Nat.mul_le_mul_left _ hr
  omega
theorem zkF:∀ (n:Nat) (e:X) (frs:List Fr) (tb:List Tb),XOk n e→FsOk n frs→FsG frs→TbOk tb→TbG tb→Pure S.evaluate_Value [e.av,fsl frs,tsl tb] (.tup [(eval n e frs tb).1.av,iv (eval n e frs tb).2])
 | 0,e,frs,tb,h,_,_,_,_=>h.elim
 | n+1,e,frs,tb,h,hf,hg,ht,htg=>by
  have hA:=@zoV (fun w x=>eval n x w tb) n e frs tb h
  obtain ⟨_,h2,h3,_⟩:=id h
  exact zjA (fun x=>eval n x frs tb) (eOp e) (zfx (fun w x=>eval n x w tb) e frs tb) e frs tb (n+1) hf h2.1.few (fun x hx=>zkF n x frs tb (h3 x hx) hf.less hg ht htg) (fun x hx=>zdH n x frs tb (h3 x hx) hg htg)
   (fun ho l hl hl2=>zpx e ho l hl hl2)
   (fun hfm h8 h12=>hA (zqx hfm h8 h12) hf ht hg htg fun w hw hwg x hx=>⟨zkF n x w tb hx hw hwg ht htg,zdH n x w tb hx hwg htg⟩)
end Go.AM
namespace Go.AM
set_option maxRecDepth 100000
set_option maxHeartbeats 1000000
set_option linter.unusedSimpArgs false
set_option linter.unusedVariables false
noncomputable def clCV (l:List V):Cfg:=(upto (mk E0) (List.range 40) 0 3000 ⟨B.slices_Clone_Value.ntmps,[.code (B.slices_Clone_Value.body.getD .skip)],zb0 0 [vsl l],[]⟩ []).2
theorem zsf (l:List V) (hl:zae l):Good E0 B.slices_Clone_Value [] (zbC (clCV l) false) (fun r h=>r=.own 0 l.length∧h=[.row Ty.Value (l.map V.cells) false]):=by
 exact zct E0ok mix0 3000 (y:=AV.own 0 (List.map V.cells l).length) (H:=[Blk.row Ty.Value (List.map V.cells l) false]) [sb (rfl:false=false),sqx (AllLen (List.map V.cells l) 3∧((List.map V.cells l).length * 32).le 140737488355328)] kr (⟨by simp,rfl⟩)
theorem zsl:Good E0 B.slices_Clone_Value [] (zbC (clCV []) true) (fun r h=>r=.nl∧h=[]):=by
 exact zct E0ok mix0 3000 (y:=AV.nl) (H:=[]) [sb (rfl:true=true)] kr (⟨rfl,rfl⟩)
theorem zca (l:List V) (hl:zae l):zac E0 S.slices_Clone_Value [vsl l] [] (.own 0 l.length) [.row Ty.Value (l.map V.cells) false]:=by
 refine za2 At.slices_Clone_Value rfl kr (Nat.le_of_ble_eq_true kr) (zc5 E0ok mix0 3000 [] (List.range 40) 0 (c':=clCV l) kr kr (zek E0ok (xs:=l.map V.cells) (e:=true) kr fun b hb=>?_))
 cases b with
 | false=>exact zsf l hl
 | true =>
  cases l with
  | nil=>exact zcJ Ty.Value zsl ⟨rfl,rfl⟩
  | cons x r=>exact absurd (hb (by simp)) (by simp)
end Go.AM
namespace Go.AM
set_option maxRecDepth 100000
set_option maxHeartbeats 1000000
set_option linter.unusedSimpArgs false
set_option linter.unusedVariables false
structure QOk (n:Nat) (q:Qy):Prop where
 few:Few q.items
 items:∀ x∈q.items,XOk n x
 wh:∀ x∈q.wh,XOk n x
end Go.AM
namespace Go.AM
set_option maxRecDepth 100000
set_option linter.unusedSimpArgs false
set_option linter.unusedVariables false
def zbh (q:Str):Nat→X→List Str
 | 0,_=>[]
 | n+1,e=>(bif e.kind==2&&e.table.toList==q.toList then [e.name] else [])++(e.args.flatMap (zbh q n)++e.sub.flatMap fun y=>y.items.flatMap (zbh q n)++y.wh.flatMap (zbh q n))
structure AgF (q:Str) (S:List UInt8→Prop) (a b:Fr):Prop where
 name:a.name=b.name
 strict:a.strict=b.strict
 cols:a.cols=b.cols
 len:a.vals.length=b.vals.length
 vals:a.vals=b.vals∨(a.name.toList=q.toList∧a.strict=true∧∀ (i:Nat) (c:Col),a.cols[i]?=some c→S c.name.toList→a.vals[i]?=b.vals[i]?)
theorem AgF.refl (q:Str) (S:List UInt8→Prop) (a:Fr):AgF q S a a:=⟨rfl,rfl,rfl,rfl,.inl rfl⟩
structure AgFs (q:Str) (S:List UInt8→Prop) (f g:List Fr):Prop where
 len:f.length=g.length
 at_:∀ k,AgF q S (f.getD k zaO) (g.getD k zaO)
theorem AgFs.ins {q:Str} {S:List UInt8→Prop} {f g:List Fr} (h:AgFs q S f g) (t:Tb) (v:List V):AgFs q S (zaZ f t v) (zaZ g t v):=by
 refine ⟨by simp [zaZ,h.len],fun k=>?_⟩
 have hk:=h.at_ k
 have hl:=h.len
 simp only [zaZ,List.getD_eq_getElem?_getD] at hk ⊢
 rw [List.getElem?_append,List.getElem?_append,← hl]
 by_cases hlt:k < f.length
 ·rw [if_pos hlt,if_pos hlt];exact hk
 ·rw [if_neg hlt,if_neg hlt];exact .refl _ _ _
theorem zpV {q:Str} {S:List UInt8→Prop} {f g:List Fr} (h:AgFs q S f g) (t n:Str):∀ k,sres f t n k=sres g t n k
 | 0=>rfl
 | k+1=>by simp only [sres,(h.at_ k).name,(h.at_ k).strict,(h.at_ k).cols,zpV h t n k]
theorem zkU {q:Str} {S:List UInt8→Prop} {f g:List Fr} (h:AgFs q S f g) (t n:Str):zbe f t n=zbe g t n:=by
 unfold zbe;rw [h.len];exact zpV h t n _
theorem zlQ (f:List Fr) (t n:Str):∀ k,(sres f t n k).2.2=true→∃ i:Nat,sres f t n k=((i:Int),idxF (fun c=>colC c n) (f.getD i zaO).cols 0,true)∧0≤idxF (fun c=>colC c n) (f.getD i zaO).cols 0∧((f.getD i zaO).strict=false∨(f.getD i zaO).name.toList=t.toList)
 | 0,h=>by simp [sres] at h
 | k+1,h=>by
  have ih:=zlQ f t n k
  simp only [sres,Bool.cond_eq_ite] at h ih ⊢
  by_cases h1:(ByteArray.toList t==(ByteArray.mk #[]).toList)=true
  ·rw [if_pos h1] at h ⊢
   by_cases h2:(f.getD k zaO).strict=true
   ·rw [if_pos h2] at h ⊢;exact ih h
   ·rw [if_neg h2] at h ⊢
    by_cases h3:decide (0≤idxF (fun c=>colC c n) (f.getD k zaO).cols 0)=true
    ·rw [if_pos h3]
     exact ⟨k,by simp [pm1],by simpa using h3,.inl (by simpa using h2)⟩
    ·rw [if_neg h3] at h ⊢;exact ih h
  ·rw [if_neg h1] at h ⊢
   by_cases h2:(!ByteArray.toList (f.getD k zaO).name==ByteArray.toList t)=true
   ·rw [if_pos h2] at h ⊢;exact ih h
   ·rw [if_neg h2] at h ⊢
    by_cases h3:decide (0≤idxF (fun c=>colC c n) (f.getD k zaO).cols 0)=true
    ·rw [if_pos h3]
     exact ⟨k,by simp [pm1],by simpa using h3,.inr (by simpa using h2)⟩
    ·rw [if_neg h3] at h ⊢;exact ih h
theorem zr8 {f g:X→V × Int} {op:List V→V × Int} {e:X} {fr fr':List Fr} {tb:List Tb}:∀ (l:List X) (i:Nat) (out:List V),(∀ x∈l,f x=g x)→evL f op e fr tb l i out=evL g op e fr' tb l i out
 | [],_,_,_=>rfl
 | x::r,i,out,h=>by
  have ih:=fun o=>zr8 (op:=op) (e:=e) (fr:=fr) (fr':=fr') (tb:=tb) r (i+1) o fun y hy=>h y (by simp [hy])
  simp only [evL,h x (by simp),ih]
theorem zpW {f g:X→V × Int} {k:Int}:∀ (l:List X) (its:List V),(∀ x∈l,f x=g x)→rowI f k l its=rowI g k l its
 | [],_,_=>rfl
 | x::r,its,h=>by
  simp only [rowI,h x (by simp),zpW r _ fun y hy=>h y (by simp [hy])]
theorem zmN {f g:X→V × Int}:∀ (l:List X),(∀ x∈l,f x=g x)→zby f l=zby g l
 | [],_=>rfl
 | x::r,h=>by simp only [zby,zj5,h x (by simp)]
theorem ztx {tr tr':Rw→Bool × Int} {g g':Rw→List V→Int × List V} (h:∀ r,tr r=tr' r) (hg:∀ r its,g r its=g' r its) (l:List Rw) (n:Nat) (its:List V):selR tr g l n its=selR tr' g' l n its:=by
 rw [show tr=tr' from funext h,show g=g' from funext fun r=>funext fun i=>hg r i]
theorem ziA {q:Str} {S:List UInt8→Prop} {tb:List Tb}:∀ (n:Nat) (e:X) (f g:List Fr),AgFs q S f g→(∀ s∈zbh q n e,S s.toList)→eval n e f tb=eval n e g tb
 | 0,_,_,_,_,_=>rfl
 | n+1,e,f,g,h,hn=>by
  simp only [zbh,List.mem_append,List.mem_flatMap] at hn
  have hA:zfx (fun w x=>eval n x w tb) e f tb=zfx (fun w x=>eval n x w tb) e g tb:=by
   unfold zfx
   cases hs:e.sub with
   | nil=>rfl
   | cons y r =>
    simp only
    cases zfw tb y.frm with
    | none=>rfl
    | some t =>
     simp only
     have hy:y∈e.sub:=by rw [hs];simp
     rw [ztx (fun r=>zmN y.wh fun x hx=>ziA n x _ _ (h.ins t r.vals) fun s hsx=>hn s (.inr (.inr ⟨y,hy,.inr ⟨x,hx,hsx⟩⟩))) (fun r its=>zpW y.items its fun x hx=>ziA n x _ _ (h.ins t r.vals) fun s hsx=>hn s (.inr (.inr ⟨y,hy,.inl ⟨x,hx,hsx⟩⟩)))]
  have hL:∀ i out,evL (fun x=>eval n x f tb) (eOp e) e f tb e.args i out=evL (fun x=>eval n x g tb) (eOp e) e g tb e.args i out:=fun i out=>zr8 e.args i out fun x hx=>ziA n x f g h fun s hsx=>hn s (.inr (.inl ⟨x,hx,hsx⟩))
  have hR:zbe f e.table e.name=zbe g e.table e.name:=zkU h _ _
  have hrf:AgF q S (rFr f e.table e.name) (rFr g e.table e.name):=by
   unfold rFr
   rw [← zdW,← zdW,hR]
   exact h.at_ _
  simp only [eval,valF,hA,hL,hR]
  cases h2:e.kind==2
  ·rfl
  ·cases h3:(zbe g e.table e.name).2.2
   ·rfl
   ·have hv:zcx (rFr f e.table e.name).vals (zbe g e.table e.name).2.1=zcx (rFr g e.table e.name).vals (zbe g e.table e.name).2.1:=by
     rcases hrf.vals with hv|⟨hq,hst,hv⟩
     ·rw [hv]
     ·obtain ⟨i,h4,h5,h6⟩:=zlQ f e.table e.name f.length (by rw [← zkU h] at h3;exact h3)
      have h4':zbe f e.table e.name=((i:Int),idxF (fun c=>colC c e.name) (f.getD i zaO).cols 0,true):=h4
      have hfr:rFr f e.table e.name=f.getD i zaO:=by
       unfold rFr;rw [← zdW,h4'];rfl
      rw [hfr] at hq hst hv ⊢
      rw [← hR,h4']
      clear h4 h4' hfr
      generalize f.getD i zaO=F at *
      generalize rFr g e.table e.name=G at *
      show zcx F.vals (idxF (fun c=>colC c e.name) F.cols 0)=zcx G.vals (idxF (fun c=>colC c e.name) F.cols 0)
      have ht:e.table.toList=q.toList:=by
       rcases h6 with h6|h6
       ·rw [h6] at hst;cases hst
       ·rw [← h6];exact hq
      have hS:S e.name.toList:=hn e.name (.inl (by rw [h2,ht];simp))
      rcases zis (fun c=>colC c e.name) F.cols 0 with ⟨h7,_⟩|⟨j,c,h7,h8,h9⟩
      ·rw [h7] at h5;omega
      ·have hc:c.name.toList=e.name.toList:=by
        have:=List.find?_some (p:=fun c=>colC c e.name) h9
        simp only [colC] at this
        simpa using this
       have:=hv j c h8 (by rw [hc];exact hS)
       rw [h7]
       unfold zcx
       rw [show ((0+j:Nat):Int).toNat=j by omega,List.getD_eq_getElem?_getD,List.getD_eq_getElem?_getD,this]
    rw [hv]
    simp only [List.length_map,hrf.len]
end Go.AM
namespace Go.AM
open Go.RowKit
set_option linter.unusedSimpArgs false
set_option linter.unusedVariables false
def zno (E:Env0) (c:Cfg):Option (TypeId × Nat × List AV):=match c.todo with
 | .ops all (o::_)::_=>match zhY all o c.ts&&za3 c.n o.dst,o.op with
  | true,.buildSlice t n parts=>match (E.T t).kind with
   | .slice el=>match fill (fun i=>some (i * (E.T el).size,(E.T el).size)) (repl (E.T el).zero n) (parts.toList.map fun (i,x)=>(i,ev E.G c.ts x)),Nat.ble (n * (E.T el).size) 16777216 with
    | some cs,true=>some (el,n,cs)
    | _,_=>none
   | _=>none
  | _,_=>none
 | _=>none
def zie (c:Cfg) (e:TypeId) (n:Nat) (xs:List (List AV)):Cfg:=match c.todo with
 | .ops all (o::rest)::k=>⟨c.n,.ops all rest::k,put c.ts o.dst (.own c.h.length n),c.h++[.row e xs false]⟩
 | _=>c
theorem zsr {E:Env0} (ht:zaM E) {fn:Func} {h0:Heap} {c:Cfg} {R:AV→Heap→Prop} {e:TypeId} {n:Nat} {cs:List AV} (hc:zno E c=some (e,n,cs)) (hn0:0 < n) (ho:frzB c.h cs=none) (hm:zbY cs=[])
  (hg:Good E fn h0 (zie c e n (zcu (E.T e).size n (frzL c.h cs))) R):Good E fn h0 c R:=by
 intro β0 S0 w0 β S w tmps hb0 hn x0 r rt
 obtain ⟨nn,todo,ts,h⟩:=c
 simp only at hn x0 r rt ho ⊢
 unfold zno at hc
 simp only at hc
 split at hc
 ·rename_i all o rest k
  split at hc
  ·rename_i t n' parts hchk hop
   simp only [Bool.and_eq_true] at hchk
   obtain ⟨hgo,hd⟩:=hchk
   split at hc
   ·rename_i e' hk
    split at hc
    ·rename_i cs' hf hle
     simp only [Option.some.injEq,Prod.mk.injEq] at hc
     obtain ⟨rfl,rfl,rfl⟩:=hc
     simp only [kont,Exit.then]
     refine wpList_step fun K hK=>?_
     rw [if_pos (zjV rt hgo)]
     have hpw:=zk3 r rt parts.toList
     have hle:=Nat.le_of_ble_eq_true hle
     obtain ⟨i,d,z,tok⟩:=ht.at_ (zaI (by rw [hk];simp):E.T t≠_)
     obtain ⟨rfl,hes⟩:=tok.slice_ hk
     obtain ⟨i2,d2,z2,tok2⟩:=ht.at_ (zbd hes)
     obtain ⟨z1,z3⟩:=zei (T:=E.T) (h:=h) (β:=β) (w:=w) (S:=S) _ _ tok2.zok
     have hzl:=tok2.zlen
     have hzs:z2.cells.size=(E.T e').size:=by rw [← Array.length_toList,← z1,hzl]
     let zs:List Value:=(List.range (n' * (E.T e').size)).map fun k=>z2.cells[k % z2.cells.size]!
     have hz:PW (RelC E.T h β w S) (repl (E.T e').zero n') zs:=by
      refine ⟨by simp [zs,zc8,hzl],fun k x y hx hy=>?_⟩
      have hkl:k < n' * (E.T e').size:=by have:=(List.getElem?_eq_some_iff.1 hx).1;rwa [zc8,hzl] at this
      rw [zk2 _ n' k (by rw [hzl];exact hkl),hzl] at hx
      have hkm:k % (E.T e').size < z2.cells.size:=by rw [hzs];exact Nat.mod_lt _ (by omega)
      simp [zs,hkl] at hy
      rw [hzs] at hy
      rw [getElem!_pos z2.cells _ hkm] at hy
      refine z3 _ x y hx ?_
      rw [Array.getElem?_toList,Array.getElem?_eq_getElem hkm,hy]
     obtain ⟨out',o1,o2,o3⟩:=zhU (R:=RelC E.T h β w S) rfl _ _ _ _ _ zs hpw hz hf
     have hcl:cs'.length=n' * (E.T e').size:=by rw [o3,zc8,hzl]
     obtain ⟨S1,⟨e1,r1⟩,d1⟩:=zfh E cs' h β S w out' r o2.1 (fun i x y h1 h2=>(o2.2 i x y h1 h2).1) (zpM (by rw [ho];trivial))
     rw [hm] at e1 r1
     have hmax:n'≤maxLen:=by
      have:n' * 1≤n' * (E.T e').size:=Nat.mul_le_mul_left _ (by omega)
      unfold maxLen
      omega
     have hsl:(share h [])=h:=rfl
     rw [hsl] at e1 r1
     let w':=w.alloc (.cells out'.toArray e')
     have hb:Below w.heap.size w w':=(Below.refl _ _).alloc (Nat.le_refl _) _
     have hnew:w'.heap[w.heap.size]?=some (.cells out'.toArray e' (0,0)):=heap_alloc_new w _
     have hsz:w'.heap.size=w.heap.size+1:=by simp [w']
     have hol:out'.length=n' * (E.T e').size:=by rw [← o2.1,hcl]
     have hxl:(frzL h cs').length=n' * (E.T e').size:=by rw [zcq,hcl]
     have hrow:zdM E.T w' S1 e' (zcu (E.T e').size n' (frzL h cs')) (.row w.heap.size n'):=by
      refine ⟨out'.toArray,hnew,by rw [zbZ];exact Nat.le_refl _,hn0,hmax,by simpa using hol,fun i c hi=>?_,fun i j c x hi hj=>?_⟩
      ·have hin:i < n':=by have:=(List.getElem?_eq_some_iff.1 hi).1;rwa [zbZ] at this
       rw [zeD _ n' _ i hin] at hi
       cases hi
       have:(i+1) * (E.T e').size≤n' * (E.T e').size:=Nat.mul_le_mul_right _ hin
       rw [Nat.add_mul,Nat.one_mul] at this
       simp
       omega
      ·have hin:i < n':=by have:=(List.getElem?_eq_some_iff.1 hi).1;rwa [zbZ] at this
       rw [zeD _ n' _ i hin] at hi
       cases hi
       rw [List.getElem?_take] at hj
       split at hj
       ·rename_i hjs
        rw [List.getElem?_drop] at hj
        have hlt:=(List.getElem?_eq_some_iff.1 hj).1
        have hlt2:i * (E.T e').size+j < out'.length:=by rw [hol,← hxl];exact hlt
        have hvj:out'[i * (E.T e').size+j]?=some (out'[i * (E.T e').size+j]'hlt2):=List.getElem?_eq_getElem hlt2
        refine ⟨out'[i * (E.T e').size+j]'hlt2,by simp,(d1 _ _ _ hj hvj).mono (fun _ h=>h) fun a ha=>hb.cell (r1.stable a ha),zhx o2 _ (List.mem_of_getElem? hvj)⟩
       ·cases hj
     obtain ⟨e2,r2⟩:=r1.newRow e' (zcu (E.T e').size n' (frzL h cs')) false (.row w.heap.size n') hb (fun g hg=>by
      simp only [Con.blk,Option.some.injEq] at hg
      subst hg
      exact ⟨Nat.le_refl _,by omega⟩) hrow
     have hkg:(β++[Con.row w.heap.size n'])[h.length]?=some (.row w.heap.size n'):=by rw [← r.len,getElem?_append_new]
     have hgt:¬ (n' * (E.T e').size > 2 ^ 24):=by omega
     have hrun:(execOp (Act.eval ⟨tmps,[]⟩) o).run E.P w=.ok (.value (.slice (some ⟨w.heap.size,0,none⟩) n' n')) w':=by
      have h0:¬ (n' * (E.T e').size=0):=by
       have:=Nat.mul_pos hn0 (Nat.pos_of_ne_zero hes);omega
      have harr:(Array.range (n' * (E.T e').size)).map (fun k=>z2.cells[k % z2.cells.size]!)=zs.toArray:=by
       apply Array.ext'
       simp [zs,Array.toList_map,Array.toList_range]
      simp only [execOp,hop,Instr.buildSlice,Sem.run_bind,run_underlying tok.und,Result.andThen_ok,tok2.sizeOf,if_neg hgt,Sem.run_ite,if_neg h0,tok2.zeroValue,harr,Array.toList_map,o1,Sem.run_pure,newRow,run_newObj]
      simp [w']
     unfold Oper.wp
     rw [hrun,Oper.upon_value,zc1]
     refine hK _ _ ?_
     have ee:=e1.trans e2
     have rt':zaQ E.T (h++[.row e' (zcu (E.T e').size n' (frzL h cs')) false]) (β++[Con.row w.heap.size n']) w' S1 ts tmps:=fun t=>(rt t).ext ee
     have:=hg β0 S0 w0 _ S1 w' (Act.put ⟨tmps,[]⟩ o.dst (.slice (some ⟨w.heap.size,0,none⟩) n' n')).tmps hb0 (by simp only [zie];rw [zdo];exact hn) (x0.trans ee) r2
      (rt'.put (by rw [hn];exact hd) (.own h.length n' _ e' _ false (getElem?_append_new _ _) (by rw [zbZ];exact Nat.le_refl _) (fun _=>by rw [hkg];rfl) rfl))
     simp only [zie,kont,Exit.then] at this
     exact this
    ·cases hc
   ·cases hc
  ·cases hc
 ·cases hc
end Go.AM
namespace Go.AM
set_option maxRecDepth 100000
set_option maxHeartbeats 1000000
set_option linter.unusedSimpArgs false
set_option linter.unusedVariables false
def cmpB (a b:Str):Int:=Lib.compareBytes a.data.toList b.data.toList
def cmpB2 (a b:Str):Int :=
 cmpB a b
def cmpB3 (a b:Str):Int :=
 cmpB2 a b
def rCmp (a b:V):Int :=
 bif a.kind != b.kind then
  bif decide (a.kind < b.kind) then
   -1
  else
   1
 else
  bif a.int != b.int then
   bif decide (a.int < b.int) then
    -1
   else
    1
  else
   cmpB3 a.text b.text
def zjK (a b:List V):List (V)→Nat→Int
 | [],i =>
  bif decide ((↑(List.map V.cells a).length:Int) < (↑(List.map V.cells b).length:Int)) then
   -1
  else
   bif decide ((↑(List.map V.cells b).length:Int) < (↑(List.map V.cells a).length:Int)) then
    1
   else
    0
 | x::r,i =>
  bif decide ((i:Int) < (↑(List.map V.cells b).length:Int)) then
   bif rCmp x (zcx b (i:Int)) != 0 then
    rCmp x (zcx b (i:Int))
   else
    zjK a b r (i+1)
  else
   bif decide ((↑(List.map V.cells a).length:Int) < (↑(List.map V.cells b).length:Int)) then
    -1
   else
    bif decide ((↑(List.map V.cells b).length:Int) < (↑(List.map V.cells a).length:Int)) then
     1
    else
     0
def zkz (a b:List V):Int :=
 zjK a b a (0)
end Go.AM
namespace Go.AM
set_option maxRecDepth 100000
set_option maxHeartbeats 1000000
set_option linter.unusedSimpArgs false
set_option linter.unusedVariables false
theorem znt {p:Prop} (h:p:=by first|assumption|omega|(simp;done)|(simp only [Room,List.length_drop,List.length_take] at *;omega)):p:=h
theorem znJ {p:Prop} (h:p:=by first|rfl|(rw [List.take_of_length_le (by simp)];simp;done)|(simp;done)):p:=h
theorem znq {p:Prop} (h:p:=by first|assumption|omega|(simp;done)|(simp;omega)):p:=h
noncomputable def zcP (fn:Func) (args:List AV) (h:Heap) (m:Nat):Cfg:=(upto (mk E0) (List.range 40) m 3000 ⟨fn.ntmps,[.code (fn.body.getD .skip)],zb0 0 args,h⟩ []).2
structure Lk where
 fst:Str
 snd:Str
def Lk.cells (l:Lk):List AV:=[sv l.fst,sv l.snd]
abbrev Lk.av (l:Lk):AV:=.agg l.cells
@[simp] theorem Lk.cells_length (x:Lk):x.cells.length=2:=rfl
structure Im where
 trig:Str
 row:Int
 old:List V
 new:List V
def Im.cells (x:Im):List AV:=[sv x.trig,iv x.row,vsl x.old,vsl x.new]
abbrev Im.av (x:Im):AV:=.agg x.cells
@[simp] theorem Im.cells_length (x:Im):x.cells.length=4:=rfl
theorem zeb:StructEq E0.P Ty.Link [.str,.str] :=
 zrI E0ok (fs:=E0.P.fieldsOf Ty.Link) kr kr kr kr
abbrev zcr (n:Int):List AV:=[iv n]
theorem zo9 (l:List Tg) (hl:zae l):Good E0 B.slices_Clone_Trigger [] (zbC (zcP B.slices_Clone_Trigger [.sl (l.map Tg.cells)] [] 0) false) (fun r h=>r=.own 0 l.length∧h=[.row Ty.Trigger (l.map Tg.cells) false]) :=
 zct E0ok mix0 3000 (y:=AV.own 0 (List.map Tg.cells l).length) (H:=[Blk.row Ty.Trigger (List.map Tg.cells l) false]) [sb (rfl:false=false),sqx (AllLen (List.map Tg.cells l) 11∧((List.map Tg.cells l).length * 200).le 140737488355328)] kr (⟨by simp,rfl⟩)
theorem zpv:Good E0 B.slices_Clone_Trigger [] (zbC (zcP B.slices_Clone_Trigger [.sl []] [] 0) true) (fun r h=>r=.nl∧h=[]) :=
 zct E0ok mix0 3000 (y:=AV.nl) (H:=[]) [sb (rfl:true=true)] kr (⟨rfl,rfl⟩)
theorem zd1 (l:List Tg) (hl:zae l):zac E0 S.slices_Clone_Trigger [.sl (l.map Tg.cells)] [] (.own 0 l.length) [.row Ty.Trigger (l.map Tg.cells) false]:=by
 refine za2 At.slices_Clone_Trigger rfl kr (Nat.le_of_ble_eq_true kr) (zc5 E0ok mix0 3000 [] (List.range 40) 0 (c':=zcP B.slices_Clone_Trigger [.sl (l.map Tg.cells)] [] 0) kr kr (zek E0ok (xs:=l.map Tg.cells) (e:=true) kr fun b hb=>?_))
 cases b with
 | false=>exact zo9 l hl
 | true =>
  cases l with
  | nil=>exact zcJ Ty.Trigger zpv ⟨rfl,rfl⟩
  | cons x r=>exact absurd (hb (by simp)) (by simp)
abbrev Room (l:List Int):Prop:=l.length≤17592186044416
theorem ztc (l:List Int) (hl:Room l):Good E0 B.slices_Clone_int [] (zbC (zcP B.slices_Clone_int [.sl (l.map zcr)] [] 0) false) (fun r h=>r=.own 0 l.length∧h=[.row Ty.int (l.map zcr) false]) :=
 zct E0ok mix0 3000 (y:=AV.own 0 (List.map zcr l).length) (H:=[Blk.row Ty.int (List.map zcr l) false]) [sb (rfl:false=false),sqx (AllLen (List.map zcr l) 1∧((List.map zcr l).length * 8).le 140737488355328)] kr (⟨by simp,rfl⟩)
theorem ztI:Good E0 B.slices_Clone_int [] (zbC (zcP B.slices_Clone_int [.sl []] [] 0) true) (fun r h=>r=.nl∧h=[]) :=
 zct E0ok mix0 3000 (y:=AV.nl) (H:=[]) [sb (rfl:true=true)] kr (⟨rfl,rfl⟩)
theorem zcw (l:List Int) (hl:Room l):zac E0 S.slices_Clone_int [.sl (l.map zcr)] [] (.own 0 l.length) [.row Ty.int (l.map zcr) false]:=by
 refine za2 At.slices_Clone_int rfl kr (Nat.le_of_ble_eq_true kr) (zc5 E0ok mix0 3000 [] (List.range 40) 0 (c':=zcP B.slices_Clone_int [.sl (l.map zcr)] [] 0) kr kr (zek E0ok (xs:=l.map zcr) (e:=true) kr fun b hb=>?_))
 cases b with
 | false=>exact ztc l hl
 | true =>
  cases l with
  | nil=>exact zcJ Ty.int ztI ⟨rfl,rfl⟩
  | cons x r=>exact absurd (hb (by simp)) (by simp)
theorem zq8 (l:List Col) (hl:zae l):Good E0 B.slices_Clone_Column [] (zbC (zcP B.slices_Clone_Column [.sl (l.map Col.cells)] [] 0) false) (fun r h=>r=.own 0 l.length∧h=[.row Ty.Column (l.map Col.cells) false]) :=
 zct E0ok mix0 3000 (y:=AV.own 0 (List.map Col.cells l).length) (H:=[Blk.row Ty.Column (List.map Col.cells l) false]) [sb (rfl:false=false),sqx (AllLen (List.map Col.cells l) 4∧((List.map Col.cells l).length * 32).le 140737488355328)] kr (⟨by simp,rfl⟩)
theorem zqt:Good E0 B.slices_Clone_Column [] (zbC (zcP B.slices_Clone_Column [.sl []] [] 0) true) (fun r h=>r=.nl∧h=[]) :=
 zct E0ok mix0 3000 (y:=AV.nl) (H:=[]) [sb (rfl:true=true)] kr (⟨rfl,rfl⟩)
theorem zbl (l:List Col) (hl:zae l):zac E0 S.slices_Clone_Column [.sl (l.map Col.cells)] [] (.own 0 l.length) [.row Ty.Column (l.map Col.cells) false]:=by
 refine za2 At.slices_Clone_Column rfl kr (Nat.le_of_ble_eq_true kr) (zc5 E0ok mix0 3000 [] (List.range 40) 0 (c':=zcP B.slices_Clone_Column [.sl (l.map Col.cells)] [] 0) kr kr (zek E0ok (xs:=l.map Col.cells) (e:=true) kr fun b hb=>?_))
 cases b with
 | false=>exact zq8 l hl
 | true =>
  cases l with
  | nil=>exact zcJ Ty.Column zqt ⟨rfl,rfl⟩
  | cons x r=>exact absurd (hb (by simp)) (by simp)
noncomputable def L_lkIx (l:List Lk) (v:Lk) (i:Nat) :Cfg:=zav B.slices_Index_Link 0 [(0,.sl (l.map Lk.cells)),(3,.p 0 0),(7,iv ((l.map Lk.cells).length:Nat)),(8,iv (i:Nat))] [.box v.cells]
def lkIx (l:List Lk) (v:Lk):List (Lk)→Nat→Int
 | [],i =>
  -1
 | x::r,i =>
  bif v.fst==x.fst&&(v.snd==x.snd&&true) then
   (i:Int)
  else
   lkIx l v r (i+1)
theorem zoQ (l:List Lk) (v:Lk) (hl:zae l):∀ (kk i:Nat),i+kk=(l).length→Good E0 B.slices_Index_Link [] (L_lkIx l v i ) (Shut 0 fun r h=>r=(iv (lkIx l v ((l).drop i) i ))∧h=[]):=by
 intro kk
 induction kk with
 | zero =>
  intro i  hi
  have h0:decide (((i:Nat):Int) < (((l.map Lk.cells).length:Nat):Int))=false:=by simp;omega
  have e0:(l).drop i=[]:=List.drop_of_length_le (by omega)
  rw [e0]
  simp only [lkIx]
  refine zab ?_
  exact wkr [sb h0] kr
 | succ kk ih =>
  intro i  hi
  obtain ⟨x,hx⟩:=zay (l:=l) (i:=i) (by omega)
  have h0:decide (((i:Nat):Int) < (((l.map Lk.cells).length:Nat):Int))=true:=by simp;omega
  have hw:=zap i (by first|omega|(simp only [zae,Few] at *;omega))
  rw [zbH hx]
  simp only [lkIx]
  refine zab ?_
  cases h1:v.fst==x.fst&&(v.snd==x.snd&&true)
  ·exact wkl [sb h0,sd [(3,[se (zah Lk.cells hx rfl)]),(5,[sq zeb])],sb h1,si hw] [0,3,7,8] 1 kr (ih (i+1) (by omega) )
  ·exact wkr [sb h0,sd [(3,[se (zah Lk.cells hx rfl)]),(5,[sq zeb])],sb h1] kr
def zmp (l:List Lk) (v:Lk):Int :=
 lkIx l v l (0)
theorem zju (l:List Lk) (v:Lk) (hl:zae l):zac E0 S.slices_Index_Link [.sl (l.map Lk.cells),v.av] [] (iv (zmp l v)) []:=by
 unfold zmp
 exact wkc At.slices_Index_Link [] [0,3,7,8] 1 kr (zoQ l v hl l.length 0 (by simp))
def lkHas (l:List Lk) (v:Lk):Bool :=
 decide ((0:Int)≤zmp l v)
theorem zhR (l:List Lk) (v:Lk) (hl:zae l):zac E0 S.slices_Contains_Link [.sl (l.map Lk.cells),v.av] [] (bv (lkHas l v)) []:=by
 exact wk At.slices_Contains_Link [sc (zju l v znq)] kr
def ziP (l:List Lk) (a b:Str):Bool :=
 lkHas l (Lk.mk a b)
theorem zgR (l:List Lk) (a b:Str) (hl:zae l):zac E0 S.order_Precedes [.sl (l.map Lk.cells),sv a,sv b] [] (bv (ziP l a b)) []:=by
 exact wk At.order_Precedes [sc (zhR l (Lk.mk a b) znq)] kr
theorem zr1 (ps:List Int) (h:((((ps.map zcr).length:Nat):Int)==0)=false):ElAt (ps.map fun n=>[iv n]) 0 [iv (ps.headD 0)] 1:=by
 cases ps with
 | nil=>simp at h
 | cons p r=>exact ⟨by decide,rfl,rfl⟩
def pkC0 (n:Int) (ps:List Int):Int × (List Int) :=
 (0,ps)
theorem c_pkC0 (n:Int) (ps:List Int) (hl:Room ps) (hA:decide (n < (2:Int))=true):zac E0 S.pick_Choose [iv n,isl ps] [] (.tup [iv (pkC0 n ps).1,isl (pkC0 n ps).2]) []:=by
 exact wk At.pick_Choose [sqx (True∧ps.length=(List.map zcr ps).length∧True),sb hA,sc (zcw ps znq)] kr
def pkC1 (n:Int) (ps:List Int):Int × (List Int) :=
 (0,ps)
theorem c_pkC1 (n:Int) (ps:List Int) (hl:Room ps) (hA:decide (n < (2:Int))=false) (hB:((((ps.map fun n=>[iv n]).length:Nat):Int)==0)=true):zac E0 S.pick_Choose [iv n,isl ps] [] (.tup [iv (pkC1 n ps).1,isl (pkC1 n ps).2]) []:=by
 exact wk At.pick_Choose [sqx (True∧ps.length=(List.map zcr ps).length∧True),sg hA,sb hB,sc (zcw ps znq)] kr
def pkC2 (n:Int) (ps:List Int):Int × (List Int) :=
 bif decide ((ps.headD 0).tmod n < 0) then
  (IntKind.i64.wrap ((ps.headD 0).tmod n+n),List.drop 1 (List.take (List.map (fun n=>[iv n]) ps).length ps))
 else
  ((ps.headD 0).tmod n,List.drop 1 (List.take (List.map (fun n=>[iv n]) ps).length ps))
theorem c_pkC2 (n:Int) (ps:List Int) (hl:Room ps) (hA:decide (n < (2:Int))=false) (hB:((((ps.map fun n=>[iv n]).length:Nat):Int)==0)=false) (hs:SubAt (ps.map fun n=>[iv n]) 1 (((ps.map fun n=>[iv n]).length:Nat):Int) 1):zac E0 S.pick_Choose [iv n,isl ps] [] (.tup [iv (pkC2 n ps).1,isl (pkC2 n ps).2]) []:=by
 unfold pkC2
 cases h1:decide ((ps.headD 0).tmod n < 0)
 ·exact (by (try simp only [X.av,Qy.av,V.av,Tb.av,Sch.av,Pl.av,xsl,fsl,vsl,tsl,List.map_append,List.map_cons,List.map_nil,V.cells,Col.cells,Rw.cells,Tb.cells,Fr.cells,Sch.cells,Pl.cells,zaH,zaj,zal,zar,zau,X.cells,Qy.cells,X.args_mk,X.sub_mk,Qy.items_mk,Qy.wh_mk,xCol,xLit,xBin,xNeg]);exact wk At.pick_Choose [sqx (True∧(List.drop 1 (List.take (List.map (fun n=>[iv n]) ps).length ps)).length=(List.map zcr (List.drop 1 (List.take (List.map (fun n=>[iv n]) ps).length ps))).length∧True),sg hA,sb hB,se (zr1 ps znt),sx (.i ((ps.headD (0:Int)).tmod n)) (show n≠(0:Int)∧((ps.headD (0:Int)).tmod n:Int)=(ps.headD (0:Int)).tmod n from ⟨(by simp at hA;omega),rfl⟩),sb h1,sqx (SubAt (List.map (fun n=>[iv n]) ps) 1 (↑(List.map (fun n=>[iv n]) ps).length:Int) 1),sc (conv (args:=[AV.sl (List.drop (Int.toNat 1) (List.take (↑(List.map (fun n=>[iv n]) ps).length:Int).toNat (List.map (fun n=>[iv n]) ps)))]) (hl:=[]) (zcw (List.drop 1 (List.take (List.map (fun n=>[iv n]) ps).length ps)) znt) znJ znJ)] kr)
 ·exact (by (try simp only [X.av,Qy.av,V.av,Tb.av,Sch.av,Pl.av,xsl,fsl,vsl,tsl,List.map_append,List.map_cons,List.map_nil,V.cells,Col.cells,Rw.cells,Tb.cells,Fr.cells,Sch.cells,Pl.cells,zaH,zaj,zal,zar,zau,X.cells,Qy.cells,X.args_mk,X.sub_mk,Qy.items_mk,Qy.wh_mk,xCol,xLit,xBin,xNeg]);exact wk At.pick_Choose [sqx (True∧(List.drop 1 (List.take (List.map (fun n=>[iv n]) ps).length ps)).length=(List.map zcr (List.drop 1 (List.take (List.map (fun n=>[iv n]) ps).length ps))).length∧True),sg hA,sb hB,se (zr1 ps znt),sx (.i ((ps.headD (0:Int)).tmod n)) (show n≠(0:Int)∧((ps.headD (0:Int)).tmod n:Int)=(ps.headD (0:Int)).tmod n from ⟨(by simp at hA;omega),rfl⟩),sb h1,si (e:=IntKind.i64.wrap ((ps.headD 0).tmod n+n)) rfl,sqx (SubAt (List.map (fun n=>[iv n]) ps) 1 (↑(List.map (fun n=>[iv n]) ps).length:Int) 1),sc (conv (args:=[AV.sl (List.drop (Int.toNat 1) (List.take (↑(List.map (fun n=>[iv n]) ps).length:Int).toNat (List.map (fun n=>[iv n]) ps)))]) (hl:=[]) (zcw (List.drop 1 (List.take (List.map (fun n=>[iv n]) ps).length ps)) znt) znJ znJ)] kr)
def zbo (n:Int) (ps:List Int):Int × List Int:=bif decide (n < 2) then (0,ps) else match ps with
 | []=>(0,[])
 | p::r=>(bif decide (p.tmod n < 0) then IntKind.i64.wrap (p.tmod n+n) else p.tmod n,r)
theorem zd4 (n:Int) (ps:List Int) (hl:Room ps):zac E0 S.pick_Choose [iv n,isl ps] [] (.tup [iv (zbo n ps).1,isl (zbo n ps).2]) []:=by
 unfold zbo
 cases h1:decide (n < (2:Int))
 ·cases ps with
  | nil=>exact c_pkC1 n [] hl h1 rfl
  | cons p r =>
   have hz:((((p::r).length:Nat):Int)==0)=false:=by simp;omega
   have h:=c_pkC2 n (p::r) hl h1 (by rw [List.length_map];exact hz) ⟨by decide,by simp;omega,by simp,by simp⟩
   have e:pkC2 n (p::r)=(bif decide (p.tmod n < 0) then IntKind.i64.wrap (p.tmod n+n) else p.tmod n,r):=by
    unfold pkC2
    simp only [List.headD_cons,List.length_map,hz,h1]
    by_cases hq:p.tmod n < 0 <;> simp [hq]
   rw [e] at h
   exact h
 ·exact c_pkC0 n ps hl h1
end Go.AM
namespace Go.AM
set_option maxRecDepth 100000
set_option maxHeartbeats 1000000
set_option linter.unusedSimpArgs false
set_option linter.unusedVariables false
theorem ziF {p:Prop} (h:p:=by first|assumption|omega|(intro k hk;omega)|(simp;done)|(simp at *;omega)):p:=h
noncomputable def zi0 (its:List Im) (l:List Lk) (i:Nat) (out:List Int):Cfg:=zav B.pick_Eligible 0 [(0,.sl (its.map Im.cells)),(1,.sl (l.map Lk.cells)),(5,.own 0 out.length),(10,.sl (its.map Im.cells)),(11,iv ((its.map Im.cells).length:Nat)),(12,iv (i:Nat))] [.row Ty.int (out.map fun n=>[iv n]) false]
def blk (its:List Im) (l:List Lk) (i k:Nat):Bool:=k != i&&match its[k]?,its[i]? with
 | some y,some x=>ziP l y.trig x.trig
 | _,_=>false
def zdP (its:List Im) (l:List Lk) (i:Nat):Bool:=(List.range its.length).all fun k=>!blk its l i k
theorem zsa {its:List Im} {l:List Lk} {i k:Nat} {x y:Im} (hx:its[i]?=some x) (hy:its[k]?=some y):blk its l i k=(((k:Nat):Int) != ((i:Nat):Int)&&ziP l y.trig x.trig):=by
 unfold blk
 rw [hx,hy]
 have e:(k != i)=(((k:Nat):Int) != ((i:Nat):Int)):=by
  rw [Bool.eq_iff_iff,bne_iff_ne,bne_iff_ne];omega
 rw [e]
noncomputable def L_elI (its:List Im) (l:List Lk) (io:Nat) (out:List Int) (xo:Im) (i:Nat) :Cfg:=zav B.pick_Eligible 1 [(0,.sl (its.map Im.cells)),(1,.sl (l.map Lk.cells)),(5,.own 0 out.length),(6,iv (io:Nat)),(7,.p 1 0),(10,.sl (its.map Im.cells)),(11,iv ((its.map Im.cells).length:Nat)),(12,iv (io:Nat)),(17,.sl (its.map Im.cells)),(18,iv ((its.map Im.cells).length:Nat)),(19,iv (i:Nat))] [.row Ty.int (out.map fun n=>[iv n]) false,.box xo.cells]
theorem zgp (its:List Im) (l:List Lk) (io:Nat) (out:List Int) (xo:Im) (hl:zae l) (hxo:its[io]?=some xo) (hn:zae its) (i:Nat)  (hi:i≤(its).length) (hI:∀ k,k < i→blk its l io k=false):∃ (i':Nat) ,(∀ k,k < i'→blk its l io k=false)∧(decide (((i':Nat):Int) < (((its.map Im.cells).length:Nat):Int))=true→(((i':Nat):Int) != ((io:Nat):Int))=true)∧(∀ y:Im,its[i']?=some y→decide (((i':Nat):Int) < (((its.map Im.cells).length:Nat):Int))=true→ziP l y.trig xo.trig=true)∧∀ R,Good E0 B.pick_Eligible [] (L_elI its l io out xo i' ) R→Good E0 B.pick_Eligible [] (L_elI its l io out xo i ) R:=by
 obtain ⟨kk,hk⟩:∃ kk,i+kk=(its).length:=⟨(its).length - i,by omega⟩
 induction kk generalizing i  with
 | zero =>
  have e0:i=(its).length:=by omega
  subst e0
  exact ⟨(its).length,hI,by simp,by simp,fun R hg=>hg⟩
 | succ kk ih =>
  obtain ⟨x,hx⟩:=zay (l:=its) (i:=i) (by omega)
  have h0:decide (((i:Nat):Int) < (((its.map Im.cells).length:Nat):Int))=true:=by simp;omega
  have hw:IntKind.i64.wrap (((i:Nat):Int)+1)=((i+1:Nat):Int):=zap i (by first|omega|(simp only [zae,Few] at *;omega))
  have hbe:=zsa (l:=l) hxo hx
  cases hb:blk its l io i with
  | true =>
   rw [hb] at hbe
   have hbe:=hbe.symm
   simp only [Bool.and_eq_true] at hbe
   exact ⟨i,hI,fun _=>hbe.1,fun y hy _=>(by rw [hx] at hy;cases hy;exact hbe.2),fun R hg=>hg⟩
  | false =>
  have hnb:(((i:Nat):Int) != ((io:Nat):Int))=true→ziP l x.trig xo.trig=false:=fun h=>by rw [hb,h] at hbe;simpa using hbe.symm
  cases h1:(i:Int) != (io:Int)
  ·obtain ⟨ixZ,qZ,xaZ,xbZ,gZ⟩:=ih (i+1) (by omega) (by intro k hk;by_cases hki:k=i;(rw [hki];exact hb);exact hI k (by omega)) (by omega);exact ⟨ixZ,qZ,xaZ,xbZ,fun R hg=>zab (wkl [sb h0,se (zah Im.cells hx rfl),sb h1,si hw] [0,1,5,6,7,10,11,12,17,18,19] 2 kr (gZ R hg))⟩
  ·obtain ⟨ixZ,qZ,xaZ,xbZ,gZ⟩:=ih (i+1) (by omega) (by intro k hk;by_cases hki:k=i;(rw [hki];exact hb);exact hI k (by omega)) (by omega);exact ⟨ixZ,qZ,xaZ,xbZ,fun R hg=>zab (wkl [sb h0,se (zah Im.cells hx rfl),sg h1,sc (zgR l x.trig xo.trig (by first|assumption|omega|(simp;done)|(simp;omega))),sb (hnb h1),si hw] [0,1,5,6,7,10,11,12,17,18,19] 2 kr (gZ R hg))⟩
def zaz (its:List Im) (l:List Lk) (n:Nat):List Int:=((List.range n).filter (zdP its l)).map fun (k:Nat)=>(k:Int)
theorem zjO (its:List Im) (l:List Lk) (n:Nat):(zaz its l n).length≤n:=by
 unfold zaz
 rw [List.length_map]
 exact Nat.le_trans (List.length_filter_le _ _) (by simp)
theorem zea (its:List Im) (l:List Lk) (n:Nat):zaz its l (n+1)=zaz its l n++(bif zdP its l n then [(n:Int)] else []):=by
 unfold zaz
 rw [List.range_succ,List.filter_append,List.map_append]
 simp only [List.filter_cons,List.filter_nil]
 cases zdP its l n <;> rfl
theorem zpC {its:List Im} {l:List Lk} {i:Nat} (h:∀ k,k < its.length→blk its l i k=false):zdP its l i=true:=by
 unfold zdP
 rw [List.all_eq_true]
 intro k hk
 rw [h k (by simpa using hk)];rfl
theorem zmc {its:List Im} {l:List Lk} {i k:Nat} {x y:Im} (hx:its[i]?=some x) (hy:its[k]?=some y) (h1:(((k:Nat):Int) != ((i:Nat):Int))=true) (h2:ziP l y.trig x.trig=true):zdP its l i=false:=by
 have h:blk its l i k=true:=by rw [zsa hx hy,h1,h2];rfl
 unfold zdP
 rw [List.all_eq_false]
 exact ⟨k,by simp;exact zfB hy,by rw [h];simp⟩
theorem zgl (its:List Im) (l:List Lk) (hl:zae l) (hn:zae its) (i:Nat) (out:List Int) (hi:i≤(its).length) (hI:out=zaz its l i):∃ (out':List Int),(out'=zaz its l (its).length)∧(decide ((((its).length:Nat):Int) < (((its.map Im.cells).length:Nat):Int))=false)∧∀ R,Good E0 B.pick_Eligible [] (zi0 its l (its).length out') R→Good E0 B.pick_Eligible [] (zi0 its l i out) R:=by
 obtain ⟨kk,hk⟩:∃ kk,i+kk=(its).length:=⟨(its).length - i,by omega⟩
 induction kk generalizing i out with
 | zero =>
  have e0:i=(its).length:=by omega
  subst e0
  exact ⟨out,hI,by simp,fun R hg=>hg⟩
 | succ kk ih =>
  obtain ⟨x,hx⟩:=zay (l:=its) (i:=i) (by omega)
  have h0:decide (((i:Nat):Int) < (((its.map Im.cells).length:Nat):Int))=true:=by simp;omega
  have hw:IntKind.i64.wrap (((i:Nat):Int)+1)=((i+1:Nat):Int):=zap i (by first|omega|(simp only [zae,Few] at *;omega))
  have hol:out.length≤i:=by rw [hI];exact zjO its l i
  obtain ⟨i1,q1,q1_1,q1_2,g1⟩:=zgp its l i out x ziF ziF ziF 0 ziF ziF
  cases h2:decide ((i1:Int) < (↑(List.map Im.cells its).length:Int))
  ·obtain ⟨outZ,qZ,xZ,gZ⟩:=ih (i+1) (out++[(i:Int)]) (by omega) (by first|(rw [zea,zpC (fun k hk=>q1 k (by simp at h2;omega)),hI];rfl)|(rw [zea,zmc hx e3 (q1_1 h2) (q1_2 _ e3 h2),hI];simp)) (by omega);exact ⟨outZ,qZ,xZ,fun R hg=>zab (wkl [sb h0,se (zah Im.cells hx rfl)] [0,1,5,6,7,10,11,12,17,18,19] 2 kr (g1 _ (zab (wkl (c':=(Cfg.mk (zi0 its l (i+1) (out++[(i:Int)])).n (zi0 its l (i+1) (out++[(i:Int)])).todo [(0,AV.sl (List.map Im.cells its)),(1,AV.sl (List.map Lk.cells l)),(5,AV.own 0 (List.map (fun n=>[iv n]) out++[[iv (i:Int)]]).length),(10,AV.sl (List.map Im.cells its)),(11,iv (↑(List.map Im.cells its).length:Int)),(12,iv (↑(i+1):Int))] [Blk.row Ty.int (List.map (fun n=>[iv n]) out++[[iv (i:Int)]]) false])) [sb h2,sqx (AllLen [[iv (i:Int)]] 1∧out.length=(List.map (fun n=>[iv n]) out).length∧(((List.map (fun n=>[iv n]) out).length+[[iv (i:Int)]].length) * 8).le 140737488355328),si hw] [0,1,5,10,11,12] 1 kr (zan (show ([(0,AV.sl (List.map Im.cells its)),(1,AV.sl (List.map Lk.cells l)),(5,AV.own 0 (List.map (fun n=>[iv n]) out++[[iv (i:Int)]]).length),(10,AV.sl (List.map Im.cells its)),(11,iv (↑(List.map Im.cells its).length:Int)),(12,iv (↑(i+1):Int))]:TS)=[(0,AV.sl (List.map Im.cells its)),(1,AV.sl (List.map Lk.cells l)),(5,AV.own 0 (out++[(i:Int)]).length),(10,AV.sl (List.map Im.cells its)),(11,iv (↑(List.map Im.cells its).length:Int)),(12,iv (↑(i+1):Int))] by first|rfl|(simp;done)|(simp [X.cells,Qy.cells,V.cells,Col.cells,Rw.cells,Tb.cells,Fr.cells,Sch.cells,Tp.cells,Pl.cells,xCol,xLit,xBin,xNeg];done)) (show ([Blk.row Ty.int (List.map (fun n=>[iv n]) out++[[iv (i:Int)]]) false]:Heap)=[Blk.row Ty.int (List.map (fun n=>[iv n]) (out++[(i:Int)])) false] by first|rfl|(simp;done)|(simp [X.cells,Qy.cells,V.cells,Col.cells,Rw.cells,Tb.cells,Fr.cells,Sch.cells,Tp.cells,Pl.cells,xCol,xLit,xBin,xNeg];done)) (gZ R hg))))))⟩
  ·obtain ⟨x3,e3⟩:=zay (l:=its) (i:=i1) ziF
   obtain ⟨outZ,qZ,xZ,gZ⟩:=ih (i+1) out (by omega) (by first|(rw [zea,zpC (fun k hk=>q1 k (by simp at h2;omega)),hI];rfl)|(rw [zea,zmc hx e3 (q1_1 h2) (q1_2 _ e3 h2),hI];simp)) (by omega);exact ⟨outZ,qZ,xZ,fun R hg=>zab (wkl [sb h0,se (zah Im.cells hx rfl)] [0,1,5,6,7,10,11,12,17,18,19] 2 kr (g1 _ (zab (wkl [sb h2,se (zah Im.cells e3 rfl),sg (q1_1 h2),sc (zgR l x3.trig x.trig ziF),sb (q1_2 x3 e3 h2),si hw] [0,1,5,10,11,12] 1 kr (gZ R hg)))))⟩
theorem zp1 (its:List Im) (l:List Lk) (hl:zae l) (hn:zae its):∃ (r:List Int),r=zaz its l its.length∧zac E0 S.pick_Eligible [.sl (its.map Im.cells),.sl (l.map Lk.cells)] [] (isl r) []:=by
 obtain ⟨out1,q1,q1_1,g1⟩:=zgl its l (by first|assumption|rfl|omega) (by first|assumption|rfl|omega) 0 ([]) (by first|assumption|rfl|omega) (by first|assumption|rfl|omega)
 exact ⟨out1,by first|assumption|trivial|(simp;done)|omega|(simp;omega)|(simp at *;omega),wkc At.pick_Eligible (c':=(Cfg.mk (zi0 its l 0 []).n (zi0 its l 0 []).todo [(0,AV.sl (List.map Im.cells its)),(1,AV.sl (List.map Lk.cells l)),(5,AV.nl),(10,AV.sl (List.map Im.cells its)),(11,iv (↑(List.map Im.cells its).length:Int)),(12,iv 0)] [])) [] [0,1,5,10,11,12] 0 kr (za7 (c':=zi0 its l 0 []) 5 Ty.int [0,1,5,10,11,12] 1 kr kr kr (g1 _ (zab (wkr [sqx (out1.length=(List.map (fun n=>[iv n]) out1).length),sb q1_1] kr))))⟩
theorem zcU (its:List Im) (l:List Lk) (hl:zae l) (hn:zae its):zac E0 S.pick_Eligible [.sl (its.map Im.cells),.sl (l.map Lk.cells)] [] (isl (zaz its l its.length)) []:=by
 obtain ⟨r,rfl,h⟩:=zp1 its l hl hn
 exact h
def zbg (its:List Im) (l:List Lk) (ps:List Int):Nat:=((List.range its.length).filter (zdP its l)).getD (zbo (((((zaz its l its.length).map fun n=>[iv n]).length:Nat):Int)) ps).1.toNat 0
theorem zpf (n:Nat) (ps:List Int) (hn:0 < n) (hs:n≤1000000000):0≤(zbo n ps).1∧(zbo n ps).1 < n:=by
 unfold zbo
 by_cases h2:(n:Int) < 2
 ·rw [decide_eq_true h2,cond_true];omega
 ·rw [decide_eq_false h2,cond_false]
  cases ps with
  | nil=>simp;omega
  | cons p r =>
   have h1:=Int.tmod_lt_of_pos p (show (0:Int) < n by omega)
   have h3:-(n:Int) < p.tmod n:=by
    have:=Int.tmod_lt_of_pos (-p) (show (0:Int) < n by omega)
    rw [Int.neg_tmod] at this;omega
   by_cases hq:p.tmod n < 0
   ·simp only [hq,decide_true,cond_true]
    rw [IntKind.wrap_i64];omega
   ·simp only [hq,decide_false,cond_false];omega
theorem zmR (its:List Im) (l:List Lk) (ps:List Int) (h:0 < its.length):zbg its l ps < its.length:=by
 unfold zbg
 rw [List.getD_eq_getElem?_getD]
 cases hx:((List.range its.length).filter (zdP its l))[(zbo (((((zaz its l its.length).map fun n=>[iv n]).length:Nat):Int)) ps).1.toNat]? with
 | none=>exact h
 | some x =>
  have:=List.mem_of_getElem? hx
  rw [List.mem_filter,List.mem_range] at this
  exact this.1
theorem zkA (its:List Im) (l:List Lk) (ps:List Int) (hn:zae its) (h:(((((zaz its l its.length).map fun n=>[iv n]).length:Nat):Int)==0)=false) :
  ElAt ((zaz its l its.length).map fun n=>[iv n]) (zbo (((((zaz its l its.length).map fun n=>[iv n]).length:Nat):Int)) ps).1 [iv ((zbg its l ps:Nat):Int)] 1:=by
 have h0:0 < (zaz its l its.length).length:=by
  rw [List.length_map] at h
  have:((zaz its l its.length).length:Int)≠0:=by simpa using h
  omega
 have hl:=zjO its l its.length
 have hp:=zpf (zaz its l its.length).length ps h0 (by simp only [zae] at hn;omega)
 refine ⟨by rw [List.length_map];exact hp.1,?_,rfl⟩
 unfold zbg
 simp only [List.length_map] at *
 have he:zaz its l its.length=((List.range its.length).filter (zdP its l)).map fun (k:Nat)=>(k:Int):=rfl
 have hle:(zaz its l its.length).length=((List.range its.length).filter (zdP its l)).length:=by rw [he,List.length_map]
 rw [List.getElem?_map]
 have hk:(zbo ((zaz its l its.length).length:Nat) ps).1.toNat < ((List.range its.length).filter (zdP its l)).length:=by rw [← hle];omega
 generalize (zbo ((zaz its l its.length).length:Nat) ps).1.toNat=q at hk
 rw [he,List.getElem?_map,List.getElem?_eq_getElem hk,List.getD_eq_getElem?_getD,List.getElem?_eq_getElem hk]
 rfl
end Go.AM
namespace Go.AM
set_option maxRecDepth 100000
set_option maxHeartbeats 1000000
set_option linter.unusedSimpArgs false
set_option linter.unusedVariables false
theorem zc9 {p:Prop} (h:p:=by first|assumption|omega|(simp;done)|(simp;omega)):p:=h
theorem zsA (xs:List (List AV)) (n k i:Nat) (hn:n=xs.length) (hz:((((i:Nat):Int)==((i+1:Nat):Int)))=false) (hA:OwnCut xs n 0 ((i:Nat):Int) ((i+1:Nat):Int)∧((i+1:Nat):Int)≤((k - 0:Nat):Int)∧((k - 0:Nat):Int).toNat≤n) (hB:OwnCut xs n 0 0 ((i:Nat):Int)) (hC:OwnCut xs n 0 ((i+1:Nat):Int) ((k - 0:Nat):Int)) (hD:n=xs.length∧AllLen (List.drop (((i+1:Nat):Int)).toNat (List.take (((k - 0:Nat):Int)).toNat xs)) 11∧n=xs.length∧(((i:Nat):Int).toNat+(List.drop (((i+1:Nat):Int)).toNat (List.take (((k - 0:Nat):Int)).toNat xs)).length)≤n) (hE:n=(zbs xs i (List.drop (((i+1:Nat):Int)).toNat (List.take (((k - 0:Nat):Int)).toNat xs))).length) (hF:OwnCut (zbs xs i (List.drop (((i+1:Nat):Int)).toNat (List.take (((k - 0:Nat):Int)).toNat xs))) n 0 ((((((i:Nat):Int).toNat+(List.drop (((i+1:Nat):Int)).toNat (List.take (((k - 0:Nat):Int)).toNat xs)).length) - 0:Nat)):Int) ((k - 0:Nat):Int)):∃ (m:Nat) (ys:List (List AV)),(m=(((i:Nat):Int).toNat+(List.drop (((i+1:Nat):Int)).toNat (List.take (((k - 0:Nat):Int)).toNat xs)).length)∧ys=zbs (zbs xs i (List.drop (((i+1:Nat):Int)).toNat (List.take (((k - 0:Nat):Int)).toNat xs))) ((((i:Nat):Int).toNat+(List.drop (((i+1:Nat):Int)).toNat (List.take (((k - 0:Nat):Int)).toNat xs)).length) - 0) (List.replicate (((k - 0:Nat):Int).toNat - (((((i:Nat):Int).toNat+(List.drop (((i+1:Nat):Int)).toNat (List.take (((k - 0:Nat):Int)).toNat xs)).length) - 0:Nat):Int).toNat) (frzL [] (E0.T Ty.Trigger).zero)))∧zac E0 S.slices_Delete_Trigger [.os 0 n 0 k,iv i,iv ((i+1:Nat):Int)] [.row Ty.Trigger xs false] (.os 0 n 0 m) [.row Ty.Trigger ys false]:=by
 exact ⟨(i:Int).toNat+0+(List.drop ((↑(i+1):Int).toNat+0) (List.take ((↑(k - 0):Int).toNat+0) xs)).length,zbs (zbs xs i (List.drop ((↑(i+1):Int).toNat+0) (List.take ((↑(k - 0):Int).toNat+0) xs))) ((i:Int).toNat+0+(List.drop ((↑(i+1):Int).toNat+0) (List.take ((↑(k - 0):Int).toNat+0) xs)).length - 0) (List.replicate ((↑(k - 0):Int).toNat+0 - ((↑((i:Int).toNat+0+(List.drop ((↑(i+1):Int).toNat+0) (List.take ((↑(k - 0):Int).toNat+0) xs)).length - 0):Int).toNat+0)) (frzL [] (E0.T Ty.Trigger).zero)),by exact ⟨rfl,rfl⟩,wkK At.slices_Delete_Trigger [sqx (n=xs.length),sqx (OwnCut xs n 0 (i:Int) (↑(i+1):Int)∧((↑(k - 0):Int) - (↑(i+1):Int)).NonNeg∧((↑(k - 0):Int).toNat+0).le n),sb hz,sqx (n=xs.length),sdp [(2,[sqx (OwnCut xs n 0 0 (i:Int))]),(5,[sqx (OwnCut xs n 0 (↑(i+1):Int) (↑(k - 0):Int))]),(6,[sqx (n=xs.length∧AllLen (List.drop ((↑(i+1):Int).toNat+0) (List.take ((↑(k - 0):Int).toNat+0) xs)) 11∧n=xs.length∧((i:Int).toNat+0+(List.drop ((↑(i+1):Int).toNat+0) (List.take ((↑(k - 0):Int).toNat+0) xs)).length).le n)])] [[5,2,6]] [(0,AV.os 0 n 0 ((i:Int).toNat+0+(List.drop ((↑(i+1):Int).toNat+0) (List.take ((↑(k - 0):Int).toNat+0) xs)).length)),(1,iv (i:Int)),(2,iv (↑(i+1):Int)),(6,AV.nl),(7,iv (↑(k - 0):Int)),(8,AV.os 0 n 0 k),(9,iv (i:Int)),(10,iv (↑(i+1):Int)),(11,AV.os 0 n 0 k),(12,iv (↑(k - 0):Int)),(13,AV.un),(14,iv (i:Int)),(15,iv (↑(i+1):Int)),(16,AV.bl false),(18,AV.os 0 n 0 k),(19,iv (↑(k - 0):Int)),(20,AV.os 0 n 0 k),(21,iv (i:Int)),(22,AV.os 0 n 0 ((i:Int).toNat+0)),(23,AV.os 0 n 0 k),(24,iv (↑(i+1):Int)),(25,AV.os 0 n ((↑(i+1):Int).toNat+0) ((↑(k - 0):Int).toNat+0)),(26,AV.os 0 n 0 ((i:Int).toNat+0+(List.drop ((↑(i+1):Int).toNat+0) (List.take ((↑(k - 0):Int).toNat+0) xs)).length))] [Blk.row Ty.Trigger (zbs xs i (List.drop ((↑(i+1):Int).toNat+0) (List.take ((↑(k - 0):Int).toNat+0) xs))) false],sqx (n=(zbs xs i (List.drop ((↑(i+1):Int).toNat+0) (List.take ((↑(k - 0):Int).toNat+0) xs))).length),sqx (OwnCut (zbs xs i (List.drop ((↑(i+1):Int).toNat+0) (List.take ((↑(k - 0):Int).toNat+0) xs))) n 0 (↑((i:Int).toNat+0+(List.drop ((↑(i+1):Int).toNat+0) (List.take ((↑(k - 0):Int).toNat+0) xs)).length - 0):Int) (↑(k - 0):Int)),sqx (n=(zbs xs i (List.drop ((↑(i+1):Int).toNat+0) (List.take ((↑(k - 0):Int).toNat+0) xs))).length)] kr⟩
theorem zoK {α:Type} {l:List α} {i k:Nat} (hi:i < k) (hk:k≤l.length):(l.take k).eraseIdx i=l.take i++(l.take k).drop (i+1):=by
 rw [List.eraseIdx_eq_take_drop_succ,List.take_take,Nat.min_eq_left (by omega)]
theorem zdT (cur:List Tg) (rest:List (List AV)) (n i:Nat) (hn:n=(cur.map Tg.cells++rest).length) (hi:i < cur.length) (hr:∀ c∈rest,c.length=11):∃ (rest':List (List AV)),(n=((cur.eraseIdx i).map Tg.cells++rest').length∧∀ c∈rest',c.length=11) ∧
  zac E0 S.slices_Delete_Trigger [.os 0 n 0 cur.length,iv i,iv ((i+1:Nat):Int)] [.row Ty.Trigger (cur.map Tg.cells++rest) false] (.os 0 n 0 (cur.eraseIdx i).length) [.row Ty.Trigger ((cur.eraseIdx i).map Tg.cells++rest') false]:=by
 obtain ⟨k,hk⟩:∃ k,k=cur.length:=⟨_,rfl⟩
 obtain ⟨xs,hxs⟩:∃ xs,xs=cur.map Tg.cells++rest:=⟨_,rfl⟩
 have hxl:∀ c∈xs,c.length=11:=fun c hc=>by
  rw [hxs,List.mem_append,List.mem_map] at hc
  rcases hc with ⟨x,_,rfl⟩|hc
  ·rfl
  ·exact hr c hc
 rw [← hxs] at hn
 have hkn:k≤n:=by rw [hn,hxs,hk];simp
 have hz:((((i:Nat):Int)==((i+1:Nat):Int)))=false:=by rw [beq_eq_false_iff_ne];omega
 have hc0:=zsA xs n k i hn hz
 have e1:(List.drop (((i+1:Nat):Int)).toNat (List.take (((k - 0:Nat):Int)).toNat xs))=(xs.take k).drop (i+1):=by simp
 rw [e1] at hc0
 generalize hPe:(xs.take k).drop (i+1)=P at hc0
 have hPl:P.length=k - (i+1):=by rw [← hPe];simp;omega
 rw [← hk] at hi
 have hM:((i:Nat):Int).toNat+P.length=k - 1:=by rw [hPl];simp;omega
 rw [hM] at hc0
 have hlx:(zbs xs i P).length=n:=by rw [zdK (by rw [hPl];omega),hn]
 have hPc:∀ c∈P,c.length=11:=fun c hc=>hxl c (by rw [← hPe] at hc;exact List.mem_of_mem_take (List.mem_of_mem_drop hc))
 have hYt:(zbs xs i P).take (k - 1)=(xs.take k).eraseIdx i:=by
  rw [zoK hi (by omega),hPe]
  unfold zbs
  rw [← List.append_assoc,List.take_append_of_le_length (by simp;omega),List.take_of_length_le (by simp;omega)]
 have hYc:∀ c∈zbs xs i P,c.length=11:=fun c hc=>by
  unfold zbs at hc
  simp only [List.mem_append] at hc
  rcases hc with hc|hc|hc
  ·exact hxl c (List.mem_of_mem_take hc)
  ·exact hPc c hc
  ·exact hxl c (List.mem_of_mem_drop hc)
 generalize hYe:zbs xs i P=Y at *
 obtain ⟨m,ys,⟨hm,hy⟩,hc⟩:=hc0 ⟨⟨hn,by omega,by omega,by simp;omega⟩,by omega,by simp;omega⟩ ⟨hn,by omega,by omega,by simp;omega⟩ ⟨hn,by omega,by omega,by simp;omega⟩ ⟨hn,⟨hPc⟩,hn,by omega⟩ hlx.symm ⟨hlx.symm,by omega,by omega,by simp;omega⟩
 have hz1:((k - 0:Nat):Int).toNat - ((k - 1 - 0:Nat):Int).toNat=1:=by simp;omega
 rw [hz1] at hy
 have hyl:ys.length=n:=by rw [hy,zdK (by simp;omega),hlx]
 have hz11:(frzL [] (E0.T Ty.Trigger).zero).length=11:=by rw [zcq];kernel_rfl
 have hyc:∀ c∈ys,c.length=11:=fun c hc=>by
  rw [hy] at hc
  unfold zbs at hc
  simp only [List.mem_append,List.mem_replicate] at hc
  rcases hc with hc|hc|hc
  ·exact hYc c (List.mem_of_mem_take hc)
  ·rw [hc.2];exact hz11
  ·exact hYc c (List.mem_of_mem_drop hc)
 have hyt:ys.take (k - 1)=(cur.eraseIdx i).map Tg.cells:=by
  have h1:ys.take (k - 1)=Y.take (k - 1):=by
   rw [hy]
   unfold zbs
   rw [Nat.sub_zero,List.take_append_of_le_length (by simp;omega),List.take_take,Nat.min_self]
  have e2:xs.take k=cur.map Tg.cells:=by rw [hxs,hk];exact List.take_left' (by simp)
  rw [h1,hYt,e2,List.eraseIdx_eq_take_drop_succ,List.eraseIdx_eq_take_drop_succ,List.map_append,List.map_take,List.map_drop]
 have hel:(cur.eraseIdx i).length=k - 1:=by rw [List.length_eraseIdx,if_pos (by omega),hk]
 have hyd:ys=(cur.eraseIdx i).map Tg.cells++ys.drop (k - 1):=by rw [← hyt,List.take_append_drop]
 refine ⟨ys.drop (k - 1),⟨by rw [← hyd,hyl],fun c hc=>hyc c (List.mem_of_mem_drop hc)⟩,?_⟩
 rw [← hyd,hel,← hm,← hxs,← hk]
 exact hc
theorem zqw (l:List V) (hl:zae l):Good E0 B.slices_Clone_Value [.row Ty.Value (l.map V.cells) false] (zbC (zcP B.slices_Clone_Value [.own 0 l.length] [.row Ty.Value (l.map V.cells) false] 1) false) (fun r h=>r=.own 1 l.length∧h=[.row Ty.Value (l.map V.cells) false,.row Ty.Value (l.map V.cells) false]) :=
 zct E0ok mix0 3000 (y:=AV.own 1 (List.map V.cells l).length) (H:=[Blk.row Ty.Value (List.map V.cells l) false,Blk.row Ty.Value (List.map V.cells l) false]) [sb (rfl:false=false),sq (show l.length=(List.map V.cells l).length∧AllLen (List.map V.cells l) 3∧((List.map V.cells l).length * 32).le 140737488355328 from ⟨by simp,⟨by simp⟩,by simp;omega⟩)] kr (⟨by simp,rfl⟩)
theorem zp9:Good E0 B.slices_Clone_Value [.row Ty.Value [] false] (zbC (zcP B.slices_Clone_Value [.own 0 0] [.row Ty.Value [] false] 1) true) (fun r h=>r=.nl∧h=[.row Ty.Value [] false]) :=
 zct E0ok mix0 3000 (y:=AV.nl) (H:=[.row Ty.Value [] false]) [sb (rfl:true=true)] kr (⟨rfl,rfl⟩)
theorem zb9 (l:List V) (hl:zae l):zac E0 S.slices_Clone_Value [.own 0 l.length] [.row Ty.Value (l.map V.cells) false] (.own 1 l.length) [.row Ty.Value (l.map V.cells) false,.row Ty.Value (l.map V.cells) false]:=by
 refine za2 At.slices_Clone_Value rfl kr (Nat.le_of_ble_eq_true kr) (zc5 E0ok mix0 3000 [] (List.range 40) 1 (c':=zcP B.slices_Clone_Value [.own 0 l.length] [.row Ty.Value (l.map V.cells) false] 1) kr kr (zrd E0ok (xs:=l.map V.cells) (n:=l.length) (e:=true) kr (by simp) fun b hb=>?_))
 cases b with
 | false=>exact zqw l hl
 | true =>
  cases l with
  | nil=>exact zcJ Ty.Value zp9 ⟨rfl,rfl⟩
  | cons x r=>exact absurd (hb (by simp)) (by simp)
def zaF (t:Tg) (s:Sch) (a b:List V):(List Fr) :=
 bif !t.each then
  []
 else
  bif t.event==2 then
   bif t.event==1 then
    [Fr.mk (ByteArray.mk #[79,76,68]) true s.cols a,Fr.mk (ByteArray.mk #[78,69,87]) true s.cols b]
   else
    [Fr.mk (ByteArray.mk #[79,76,68]) true s.cols a,Fr.mk (ByteArray.mk #[78,69,87]) true s.cols b]
  else
   bif t.event==3 then
    bif t.event==1 then
     [Fr.mk (ByteArray.mk #[79,76,68]) true s.cols a,Fr.mk (ByteArray.mk #[78,69,87]) true s.cols b]
    else
     [Fr.mk (ByteArray.mk #[79,76,68]) true s.cols a]
   else
    bif t.event==1 then
     [Fr.mk (ByteArray.mk #[78,69,87]) true s.cols b]
    else
     []
theorem zb7 (t:Tg) (s:Sch) (a b:List V) (hs:zae s.cols) (ha:zae a) (hb:zae b):zac E0 S.trigger_Frames [t.av,s.av,vsl a,.own 0 b.length] [.row Ty.Value (b.map V.cells) false] (fsl (zaF t s a b)) [.row Ty.Value (b.map V.cells) false]:=by
 unfold zaF
 cases h1:!t.each
 ·cases h2:t.event==2
  ·cases h3:t.event==3
   ·cases h4:t.event==1
    ·exact wk At.trigger_Frames [sb h1,sg h2,sb h3,sg h4,sb h2] kr
    ·exact (by (try simp only [X.av,Qy.av,V.av,Tb.av,Sch.av,Pl.av,xsl,fsl,vsl,tsl,List.map_append,List.map_cons,List.map_nil,V.cells,Col.cells,Rw.cells,Tb.cells,Fr.cells,Sch.cells,Pl.cells,zaH,zaj,zal,zar,zau,X.cells,Qy.cells,X.args_mk,X.sub_mk,Qy.items_mk,Qy.wh_mk,xCol,xLit,xBin,xNeg]);exact wk At.trigger_Frames [sqx (1=1),sb h1,sg h2,sb h3,sb h4,sc (zbl s.cols zc9),sl [0] (zb9 b zc9),sqx (True∧True∧s.cols.length=(List.map Col.cells s.cols).length∧b.length=(List.map V.cells b).length∧True),sqx (AllLen [[sv (ByteArray.mk #[78,69,87]),bv true,AV.sl (List.map Col.cells s.cols),AV.sl (List.map V.cells b)]] 4∧Nat.le 72 140737488355328)] kr)
   ·cases h5:t.event==1
    ·exact (by (try simp only [X.av,Qy.av,V.av,Tb.av,Sch.av,Pl.av,xsl,fsl,vsl,tsl,List.map_append,List.map_cons,List.map_nil,V.cells,Col.cells,Rw.cells,Tb.cells,Fr.cells,Sch.cells,Pl.cells,zaH,zaj,zal,zar,zau,X.cells,Qy.cells,X.args_mk,X.sub_mk,Qy.items_mk,Qy.wh_mk,xCol,xLit,xBin,xNeg]);exact wk At.trigger_Frames [sqx (1=1),sb h1,sg h2,sb h3,sc (zbl s.cols zc9),sc (zca a zc9),sqx (True∧True∧s.cols.length=(List.map Col.cells s.cols).length∧a.length=(List.map V.cells a).length∧True),sqx (AllLen [[sv (ByteArray.mk #[79,76,68]),bv true,AV.sl (List.map Col.cells s.cols),AV.sl (List.map V.cells a)]] 4∧Nat.le 72 140737488355328),sg h5,sb h2] kr)
    ·exact (by (try simp only [X.av,Qy.av,V.av,Tb.av,Sch.av,Pl.av,xsl,fsl,vsl,tsl,List.map_append,List.map_cons,List.map_nil,V.cells,Col.cells,Rw.cells,Tb.cells,Fr.cells,Sch.cells,Pl.cells,zaH,zaj,zal,zar,zau,X.cells,Qy.cells,X.args_mk,X.sub_mk,Qy.items_mk,Qy.wh_mk,xCol,xLit,xBin,xNeg]);exact wk At.trigger_Frames [sqx (2=2),sb h1,sg h2,sb h3,sc (zbl s.cols zc9),sc (zca a zc9),sqx (True∧True∧s.cols.length=(List.map Col.cells s.cols).length∧a.length=(List.map V.cells a).length∧True),sqx (AllLen [[sv (ByteArray.mk #[79,76,68]),bv true,AV.sl (List.map Col.cells s.cols),AV.sl (List.map V.cells a)]] 4∧Nat.le 72 140737488355328),sb h5,sc (zbl s.cols zc9),sl [0] (zb9 b zc9),sqx (True∧True∧s.cols.length=(List.map Col.cells s.cols).length∧b.length=(List.map V.cells b).length∧True),sqx (AllLen [[sv (ByteArray.mk #[78,69,87]),bv true,AV.sl (List.map Col.cells s.cols),AV.sl (List.map V.cells b)]] 4∧1=1∧Nat.le 144 140737488355328)] kr)
  ·cases h6:t.event==1
   ·exact (by (try simp only [X.av,Qy.av,V.av,Tb.av,Sch.av,Pl.av,xsl,fsl,vsl,tsl,List.map_append,List.map_cons,List.map_nil,V.cells,Col.cells,Rw.cells,Tb.cells,Fr.cells,Sch.cells,Pl.cells,zaH,zaj,zal,zar,zau,X.cells,Qy.cells,X.args_mk,X.sub_mk,Qy.items_mk,Qy.wh_mk,xCol,xLit,xBin,xNeg]);exact wk At.trigger_Frames [sqx (2=2),sb h1,sb h2,sc (zbl s.cols zc9),sc (zca a zc9),sqx (True∧True∧s.cols.length=(List.map Col.cells s.cols).length∧a.length=(List.map V.cells a).length∧True),sqx (AllLen [[sv (ByteArray.mk #[79,76,68]),bv true,AV.sl (List.map Col.cells s.cols),AV.sl (List.map V.cells a)]] 4∧Nat.le 72 140737488355328),sg h6,sb h2,sc (zbl s.cols zc9),sl [0] (zb9 b zc9),sqx (True∧True∧s.cols.length=(List.map Col.cells s.cols).length∧b.length=(List.map V.cells b).length∧True),sqx (AllLen [[sv (ByteArray.mk #[78,69,87]),bv true,AV.sl (List.map Col.cells s.cols),AV.sl (List.map V.cells b)]] 4∧1=1∧Nat.le 144 140737488355328)] kr)
   ·exact (by (try simp only [X.av,Qy.av,V.av,Tb.av,Sch.av,Pl.av,xsl,fsl,vsl,tsl,List.map_append,List.map_cons,List.map_nil,V.cells,Col.cells,Rw.cells,Tb.cells,Fr.cells,Sch.cells,Pl.cells,zaH,zaj,zal,zar,zau,X.cells,Qy.cells,X.args_mk,X.sub_mk,Qy.items_mk,Qy.wh_mk,xCol,xLit,xBin,xNeg]);exact wk At.trigger_Frames [sqx (2=2),sb h1,sb h2,sc (zbl s.cols zc9),sc (zca a zc9),sqx (True∧True∧s.cols.length=(List.map Col.cells s.cols).length∧a.length=(List.map V.cells a).length∧True),sqx (AllLen [[sv (ByteArray.mk #[79,76,68]),bv true,AV.sl (List.map Col.cells s.cols),AV.sl (List.map V.cells a)]] 4∧Nat.le 72 140737488355328),sb h6,sc (zbl s.cols zc9),sl [0] (zb9 b zc9),sqx (True∧True∧s.cols.length=(List.map Col.cells s.cols).length∧b.length=(List.map V.cells b).length∧True),sqx (AllLen [[sv (ByteArray.mk #[78,69,87]),bv true,AV.sl (List.map Col.cells s.cols),AV.sl (List.map V.cells b)]] 4∧1=1∧Nat.le 144 140737488355328)] kr)
 ·exact wk At.trigger_Frames [sb h1] kr
end Go.AM
namespace Go.AM
set_option maxRecDepth 100000
set_option maxHeartbeats 1000000
set_option linter.unusedSimpArgs false
set_option linter.unusedVariables false
theorem zcD {p:Prop} (h:p:=by first|assumption|omega|(simp;done)|(simp;omega)):p:=h
theorem zd3 {p:Prop} (h:p:=by first|assumption|omega|(simp at h2 h4;omega)):p:=h
abbrev RB (s:Sch) (old new:List V) (tb:List Tb):Heap:=[.box [sv s.name,.sl (s.cols.map Col.cells),vsl old,.own 1 new.length,tsl tb],.row Ty.Value (new.map V.cells) false]
def zeP:Se:=⟨⟨#[]⟩,.mk 0 0 false ⟨0,0,⟨#[]⟩⟩ ⟨#[]⟩ ⟨#[]⟩ [] []⟩
def Ac.set0 (a:Ac):Se:=a.sets.headD zeP
theorem zfn (a:Ac) (h:(((((a.sets.map Se.cells).length:Nat):Int)) != 1)=false):ElAt (a.sets.map Se.cells) 0 (Se.cells a.set0) 11:=by
 unfold Ac.set0
 cases hs:a.sets with
 | nil=>rw [hs] at h;simp at h
 | cons p r=>exact ⟨by decide,rfl,rfl⟩
def zcv (f:X→V × Int) (a:Ac) (fr:List Fr) (s:Sch) (old new:List V) (tb:List Tb):Int × (List V) :=
 bif (↑(List.map Se.cells a.sets).length:Int) != 1 then
  (17,new)
 else
  bif decide (idxF (fun c=>colC c a.set0.col) s.cols 0 < 0) then
   (3,new)
  else
   bif (f a.set0.ex).snd != 0 then
    ((f a.set0.ex).snd,new)
   else
    bif (new.length:Int) != (↑(List.map Col.cells s.cols).length:Int) then
     (17,new)
    else
     (0,new.set (idxF (fun c=>colC c a.set0.col) s.cols 0).toNat (f a.set0.ex).fst)
theorem zgM (f:X→V × Int) (a:Ac) (fr:List Fr) (s:Sch) (old new:List V) (tb:List Tb) (hs:zae s.cols) (hlt:idxF (fun c=>colC c a.set0.col) s.cols 0 < (s.cols.length:Int)) (hf:Pure S.evaluate_Value [a.set0.ex.av,fsl fr,tsl tb] (.tup [(f a.set0.ex).1.av,iv (f a.set0.ex).2])):zac E0 S.before_row_set [.p 0 0,a.av,fsl fr] (RB s old new tb) (iv (zcv f a fr s old new tb).1) (RB s old (zcv f a fr s old new tb).2 tb):=by
 unfold zcv
 cases h1:(↑(List.map Se.cells a.sets).length:Int) != 1
 ·cases h2:decide (idxF (fun c=>colC c a.set0.col) s.cols 0 < 0)
  ·cases h3:(f a.set0.ex).snd != 0
   ·cases h4:(new.length:Int) != (↑(List.map Col.cells s.cols).length:Int)
    ·obtain ⟨x5,e5⟩:=zay (l:=new) (i:=(idxF (fun c=>colC c a.set0.col) s.cols 0).toNat) zd3
     exact wkS At.before_row_set (y:=iv 0) (H:=[Blk.box [sv s.name,AV.sl (List.map Col.cells s.cols),AV.sl (List.map V.cells old),AV.own 1 new.length,AV.sl (List.map Tb.cells tb)],Blk.row Ty.Value ((List.map V.cells new).set (idxF (fun c=>colC c a.set0.col) s.cols 0).toNat [iv (f a.set0.ex).fst.kind,iv (f a.set0.ex).fst.int,sv (f a.set0.ex).fst.text]) false]) [sb h1,sd [(6,[se (zfn a zd3)]),(9,[sc (zch s a.set0.col zd3)])],sb h2,sdm [(2,[se (zfn a zd3)]),(10,[sc hf])] 0 [(0,AV.p 0 0),(1,AV.agg [iv a.kind,sv a.table,AV.sl (List.map (fun r=>[AV.sl (zaa r)]) a.rows),AV.sl (zad a.query),AV.sl (List.map Se.cells a.sets),AV.sl (zaa a.wh),sv a.text]),(2,AV.sl (List.map Fr.cells fr)),(4,AV.p 2 0),(6,iv 0),(7,iv (idxF (fun c=>colC c a.set0.col) s.cols 0)),(8,AV.p 3 0),(9,iv (f a.set0.ex).snd),(10,AV.p 2 4),(11,AV.sl (List.map Se.cells a.sets)),(12,iv (↑(List.map Se.cells a.sets).length:Int)),(13,AV.bl false),(14,AV.p 0 0),(15,AV.p 0 0),(16,AV.p 0 0),(17,AV.agg [sv s.name,AV.sl (List.map Col.cells s.cols)]),(18,AV.p 2 4),(19,AV.sl (List.map Se.cells a.sets)),(20,AV.dp [sv a.set0.col,iv a.set0.ex.kind,iv a.set0.ex.op,bv a.set0.ex.not,iv a.set0.ex.val.kind,iv a.set0.ex.val.int,sv a.set0.ex.val.text,sv a.set0.ex.table,sv a.set0.ex.name,AV.sl (zaa a.set0.ex.args),AV.sl (zad a.set0.ex.sub)]),(21,AV.dp [sv a.set0.col,iv a.set0.ex.kind,iv a.set0.ex.op,bv a.set0.ex.not,iv a.set0.ex.val.kind,iv a.set0.ex.val.int,sv a.set0.ex.val.text,sv a.set0.ex.table,sv a.set0.ex.name,AV.sl (zaa a.set0.ex.args),AV.sl (zad a.set0.ex.sub)]),(22,sv a.set0.col),(23,iv (idxF (fun c=>colC c a.set0.col) s.cols 0)),(24,iv (idxF (fun c=>colC c a.set0.col) s.cols 0)),(25,AV.bl false),(26,AV.tup [AV.agg [iv (f a.set0.ex).fst.kind,iv (f a.set0.ex).fst.int,sv (f a.set0.ex).fst.text],iv (f a.set0.ex).snd]),(27,AV.p 2 4),(28,AV.sl (List.map Se.cells a.sets)),(29,AV.dp [sv a.set0.col,iv a.set0.ex.kind,iv a.set0.ex.op,bv a.set0.ex.not,iv a.set0.ex.val.kind,iv a.set0.ex.val.int,sv a.set0.ex.val.text,sv a.set0.ex.table,sv a.set0.ex.name,AV.sl (zaa a.set0.ex.args),AV.sl (zad a.set0.ex.sub)]),(30,AV.dp [iv a.set0.ex.kind,iv a.set0.ex.op,bv a.set0.ex.not,iv a.set0.ex.val.kind,iv a.set0.ex.val.int,sv a.set0.ex.val.text,sv a.set0.ex.table,sv a.set0.ex.name,AV.sl (zaa a.set0.ex.args),AV.sl (zad a.set0.ex.sub)]),(31,AV.agg [iv a.set0.ex.kind,iv a.set0.ex.op,bv a.set0.ex.not,iv a.set0.ex.val.kind,iv a.set0.ex.val.int,sv a.set0.ex.val.text,sv a.set0.ex.table,sv a.set0.ex.name,AV.sl (zaa a.set0.ex.args),AV.sl (zad a.set0.ex.sub)]),(32,AV.sl (List.map Fr.cells fr)),(33,AV.p 0 0),(34,AV.p 0 0),(35,AV.p 0 4),(36,AV.sl (List.map Tb.cells tb)),(37,AV.tup [AV.agg [iv (f a.set0.ex).fst.kind,iv (f a.set0.ex).fst.int,sv (f a.set0.ex).fst.text],iv (f a.set0.ex).snd]),(38,AV.agg [iv (f a.set0.ex).fst.kind,iv (f a.set0.ex).fst.int,sv (f a.set0.ex).fst.text]),(39,iv (f a.set0.ex).snd)] [Blk.box [sv s.name,AV.sl (List.map Col.cells s.cols),AV.sl (List.map V.cells old),AV.own 1 new.length,AV.sl (List.map Tb.cells tb)],Blk.row Ty.Value (List.map V.cells new) false,Blk.box [iv a.kind,sv a.table,AV.sl (List.map (fun r=>[AV.sl (zaa r)]) a.rows),AV.sl (zad a.query),AV.sl (List.map Se.cells a.sets),AV.sl (zaa a.wh),sv a.text],Blk.box [iv (f a.set0.ex).fst.kind,iv (f a.set0.ex).fst.int,sv (f a.set0.ex).fst.text]],sb h3,sd [(4,[sqx (new.length=(List.map V.cells new).length)])],sb h4,sd [(6,[sqx (OwnAt (List.map V.cells new) new.length (idxF (fun c=>colC c a.set0.col) s.cols 0))]),(7,[sx (.el x5.cells) (And.intro (owed (p:=True∧True∧True∧True)) (zfZ V.cells (n:=new.length) (by simp) e5))])]] kr ⟨by first|rfl|(simp [List.map_set];done)|(simp [List.map_set];rfl),by first|rfl|(simp [List.map_set];done)|(simp [List.map_set];rfl)⟩
    ·exact wk At.before_row_set [sb h1,sd [(6,[se (zfn a zd3)]),(9,[sc (zch s a.set0.col zd3)])],sb h2,sdm [(2,[se (zfn a zd3)]),(10,[sc hf])] 0 [(0,AV.p 0 0),(1,AV.agg [iv a.kind,sv a.table,AV.sl (List.map (fun r=>[AV.sl (zaa r)]) a.rows),AV.sl (zad a.query),AV.sl (List.map Se.cells a.sets),AV.sl (zaa a.wh),sv a.text]),(2,AV.sl (List.map Fr.cells fr)),(4,AV.p 2 0),(6,iv 0),(7,iv (idxF (fun c=>colC c a.set0.col) s.cols 0)),(8,AV.p 3 0),(9,iv (f a.set0.ex).snd),(10,AV.p 2 4),(11,AV.sl (List.map Se.cells a.sets)),(12,iv (↑(List.map Se.cells a.sets).length:Int)),(13,AV.bl false),(14,AV.p 0 0),(15,AV.p 0 0),(16,AV.p 0 0),(17,AV.agg [sv s.name,AV.sl (List.map Col.cells s.cols)]),(18,AV.p 2 4),(19,AV.sl (List.map Se.cells a.sets)),(20,AV.dp [sv a.set0.col,iv a.set0.ex.kind,iv a.set0.ex.op,bv a.set0.ex.not,iv a.set0.ex.val.kind,iv a.set0.ex.val.int,sv a.set0.ex.val.text,sv a.set0.ex.table,sv a.set0.ex.name,AV.sl (zaa a.set0.ex.args),AV.sl (zad a.set0.ex.sub)]),(21,AV.dp [sv a.set0.col,iv a.set0.ex.kind,iv a.set0.ex.op,bv a.set0.ex.not,iv a.set0.ex.val.kind,iv a.set0.ex.val.int,sv a.set0.ex.val.text,sv a.set0.ex.table,sv a.set0.ex.name,AV.sl (zaa a.set0.ex.args),AV.sl (zad a.set0.ex.sub)]),(22,sv a.set0.col),(23,iv (idxF (fun c=>colC c a.set0.col) s.cols 0)),(24,iv (idxF (fun c=>colC c a.set0.col) s.cols 0)),(25,AV.bl false),(26,AV.tup [AV.agg [iv (f a.set0.ex).fst.kind,iv (f a.set0.ex).fst.int,sv (f a.set0.ex).fst.text],iv (f a.set0.ex).snd]),(27,AV.p 2 4),(28,AV.sl (List.map Se.cells a.sets)),(29,AV.dp [sv a.set0.col,iv a.set0.ex.kind,iv a.set0.ex.op,bv a.set0.ex.not,iv a.set0.ex.val.kind,iv a.set0.ex.val.int,sv a.set0.ex.val.text,sv a.set0.ex.table,sv a.set0.ex.name,AV.sl (zaa a.set0.ex.args),AV.sl (zad a.set0.ex.sub)]),(30,AV.dp [iv a.set0.ex.kind,iv a.set0.ex.op,bv a.set0.ex.not,iv a.set0.ex.val.kind,iv a.set0.ex.val.int,sv a.set0.ex.val.text,sv a.set0.ex.table,sv a.set0.ex.name,AV.sl (zaa a.set0.ex.args),AV.sl (zad a.set0.ex.sub)]),(31,AV.agg [iv a.set0.ex.kind,iv a.set0.ex.op,bv a.set0.ex.not,iv a.set0.ex.val.kind,iv a.set0.ex.val.int,sv a.set0.ex.val.text,sv a.set0.ex.table,sv a.set0.ex.name,AV.sl (zaa a.set0.ex.args),AV.sl (zad a.set0.ex.sub)]),(32,AV.sl (List.map Fr.cells fr)),(33,AV.p 0 0),(34,AV.p 0 0),(35,AV.p 0 4),(36,AV.sl (List.map Tb.cells tb)),(37,AV.tup [AV.agg [iv (f a.set0.ex).fst.kind,iv (f a.set0.ex).fst.int,sv (f a.set0.ex).fst.text],iv (f a.set0.ex).snd]),(38,AV.agg [iv (f a.set0.ex).fst.kind,iv (f a.set0.ex).fst.int,sv (f a.set0.ex).fst.text]),(39,iv (f a.set0.ex).snd)] [Blk.box [sv s.name,AV.sl (List.map Col.cells s.cols),AV.sl (List.map V.cells old),AV.own 1 new.length,AV.sl (List.map Tb.cells tb)],Blk.row Ty.Value (List.map V.cells new) false,Blk.box [iv a.kind,sv a.table,AV.sl (List.map (fun r=>[AV.sl (zaa r)]) a.rows),AV.sl (zad a.query),AV.sl (List.map Se.cells a.sets),AV.sl (zaa a.wh),sv a.text],Blk.box [iv (f a.set0.ex).fst.kind,iv (f a.set0.ex).fst.int,sv (f a.set0.ex).fst.text]],sb h3,sd [(4,[sqx (new.length=(List.map V.cells new).length)])],sb h4] kr
   ·exact wk At.before_row_set [sb h1,sd [(6,[se (zfn a zd3)]),(9,[sc (zch s a.set0.col zd3)])],sb h2,sdm [(2,[se (zfn a zd3)]),(10,[sc hf])] 0 [(0,AV.p 0 0),(1,AV.agg [iv a.kind,sv a.table,AV.sl (List.map (fun r=>[AV.sl (zaa r)]) a.rows),AV.sl (zad a.query),AV.sl (List.map Se.cells a.sets),AV.sl (zaa a.wh),sv a.text]),(2,AV.sl (List.map Fr.cells fr)),(4,AV.p 2 0),(6,iv 0),(7,iv (idxF (fun c=>colC c a.set0.col) s.cols 0)),(8,AV.p 3 0),(9,iv (f a.set0.ex).snd),(10,AV.p 2 4),(11,AV.sl (List.map Se.cells a.sets)),(12,iv (↑(List.map Se.cells a.sets).length:Int)),(13,AV.bl false),(14,AV.p 0 0),(15,AV.p 0 0),(16,AV.p 0 0),(17,AV.agg [sv s.name,AV.sl (List.map Col.cells s.cols)]),(18,AV.p 2 4),(19,AV.sl (List.map Se.cells a.sets)),(20,AV.dp [sv a.set0.col,iv a.set0.ex.kind,iv a.set0.ex.op,bv a.set0.ex.not,iv a.set0.ex.val.kind,iv a.set0.ex.val.int,sv a.set0.ex.val.text,sv a.set0.ex.table,sv a.set0.ex.name,AV.sl (zaa a.set0.ex.args),AV.sl (zad a.set0.ex.sub)]),(21,AV.dp [sv a.set0.col,iv a.set0.ex.kind,iv a.set0.ex.op,bv a.set0.ex.not,iv a.set0.ex.val.kind,iv a.set0.ex.val.int,sv a.set0.ex.val.text,sv a.set0.ex.table,sv a.set0.ex.name,AV.sl (zaa a.set0.ex.args),AV.sl (zad a.set0.ex.sub)]),(22,sv a.set0.col),(23,iv (idxF (fun c=>colC c a.set0.col) s.cols 0)),(24,iv (idxF (fun c=>colC c a.set0.col) s.cols 0)),(25,AV.bl false),(26,AV.tup [AV.agg [iv (f a.set0.ex).fst.kind,iv (f a.set0.ex).fst.int,sv (f a.set0.ex).fst.text],iv (f a.set0.ex).snd]),(27,AV.p 2 4),(28,AV.sl (List.map Se.cells a.sets)),(29,AV.dp [sv a.set0.col,iv a.set0.ex.kind,iv a.set0.ex.op,bv a.set0.ex.not,iv a.set0.ex.val.kind,iv a.set0.ex.val.int,sv a.set0.ex.val.text,sv a.set0.ex.table,sv a.set0.ex.name,AV.sl (zaa a.set0.ex.args),AV.sl (zad a.set0.ex.sub)]),(30,AV.dp [iv a.set0.ex.kind,iv a.set0.ex.op,bv a.set0.ex.not,iv a.set0.ex.val.kind,iv a.set0.ex.val.int,sv a.set0.ex.val.text,sv a.set0.ex.table,sv a.set0.ex.name,AV.sl (zaa a.set0.ex.args),AV.sl (zad a.set0.ex.sub)]),(31,AV.agg [iv a.set0.ex.kind,iv a.set0.ex.op,bv a.set0.ex.not,iv a.set0.ex.val.kind,iv a.set0.ex.val.int,sv a.set0.ex.val.text,sv a.set0.ex.table,sv a.set0.ex.name,AV.sl (zaa a.set0.ex.args),AV.sl (zad a.set0.ex.sub)]),(32,AV.sl (List.map Fr.cells fr)),(33,AV.p 0 0),(34,AV.p 0 0),(35,AV.p 0 4),(36,AV.sl (List.map Tb.cells tb)),(37,AV.tup [AV.agg [iv (f a.set0.ex).fst.kind,iv (f a.set0.ex).fst.int,sv (f a.set0.ex).fst.text],iv (f a.set0.ex).snd]),(38,AV.agg [iv (f a.set0.ex).fst.kind,iv (f a.set0.ex).fst.int,sv (f a.set0.ex).fst.text]),(39,iv (f a.set0.ex).snd)] [Blk.box [sv s.name,AV.sl (List.map Col.cells s.cols),AV.sl (List.map V.cells old),AV.own 1 new.length,AV.sl (List.map Tb.cells tb)],Blk.row Ty.Value (List.map V.cells new) false,Blk.box [iv a.kind,sv a.table,AV.sl (List.map (fun r=>[AV.sl (zaa r)]) a.rows),AV.sl (zad a.query),AV.sl (List.map Se.cells a.sets),AV.sl (zaa a.wh),sv a.text],Blk.box [iv (f a.set0.ex).fst.kind,iv (f a.set0.ex).fst.int,sv (f a.set0.ex).fst.text]],sb h3] kr
  ·exact wk At.before_row_set [sb h1,sd [(6,[se (zfn a zd3)]),(9,[sc (zch s a.set0.col zd3)])],sb h2] kr
 ·exact wk At.before_row_set [sb h1] kr
theorem zpY {α:Type} (p:α→Bool):∀ (l:List α) (i:Nat),idxF p l i < ((i+l.length:Nat):Int)∨idxF p l i=-1
 | [],i=>.inr rfl
 | x::r,i=>by
  simp only [idxF]
  cases p x
  ·rcases zpY p r (i+1) with h|h
   ·exact .inl (by simp only [List.length_cons];simpa [Nat.add_assoc,Nat.add_comm 1] using h)
   ·exact .inr h
  ·exact .inl (by simp only [List.length_cons,cond_true];omega)
theorem ztH (s:Sch) (n:Str):idxF (fun c=>colC c n) s.cols 0 < (s.cols.length:Int):=by
 rcases zpY (fun c=>colC c n) s.cols 0 with h|h
 ·simpa using h
 ·omega
noncomputable def ztm (f:List V→X→V × Int) (I:List V→Prop) (t:Tg) (s:Sch) (old:List V) (tb:List Tb) (new0:List V) (i:Nat) (nw:List V):Cfg:=zav B.before_row_fire 0 [(0,.p 0 0),(3,.p 2 0),(42,.sl (t.acts.map Ac.cells)),(43,iv ((t.acts.map Ac.cells).length:Nat)),(44,iv (i:Nat))] (RB s old nw tb++[.box t.cells])
def zge (f:List V→X→V × Int) (I:List V→Prop) (t:Tg) (s:Sch) (old:List V) (tb:List Tb) (new0:List V):List (Ac)→Nat→(List V)→Int × (List V)
 | [],i,nw =>
  (0,nw)
 | x::r,i,nw =>
  bif x.kind==4 then
   (12,nw)
  else
   bif x.kind==5 then
    bif (zcv (f nw) x (zaF t s old nw) s old nw tb).fst != 0 then
     ((zcv (f nw) x (zaF t s old nw) s old nw tb).fst,(zcv (f nw) x (zaF t s old nw) s old nw tb).snd)
    else
     zge f I t s old tb new0 r (i+1) ((zcv (f nw) x (zaF t s old nw) s old nw tb).snd)
   else
    (17,nw)
theorem zoc (f:List V→X→V × Int) (I:List V→Prop) (t:Tg) (s:Sch) (old:List V) (tb:List Tb) (new0:List V) (hs:zae s.cols) (ho:zae old) (hIs:∀ nw,I nw→zae nw) (hf:∀ nw,I nw→∀ a∈t.acts,Pure S.evaluate_Value [a.set0.ex.av,fsl (zaF t s old nw),tsl tb] (.tup [(f nw a.set0.ex).1.av,iv (f nw a.set0.ex).2])) (hI:∀ nw,I nw→∀ a∈t.acts,I (zcv (f nw) a (zaF t s old nw) s old nw tb).2) (hla:zae t.acts):∀ (kk i:Nat) (nw:List V),i+kk=(t.acts).length→(I nw)→Good E0 B.before_row_fire (RB s old new0 tb) (ztm f I t s old tb new0 i nw) (Shut 2 fun r h=>r=(iv (zge f I t s old tb new0 ((t.acts).drop i) i nw).1)∧h=(RB s old (zge f I t s old tb new0 ((t.acts).drop i) i nw).2 tb)):=by
 intro kk
 induction kk with
 | zero =>
  intro i nw hi hv
  have h0:decide (((i:Nat):Int) < (((t.acts.map Ac.cells).length:Nat):Int))=false:=by simp;omega
  have e0:(t.acts).drop i=[]:=List.drop_of_length_le (by omega)
  rw [e0]
  simp only [zge]
  refine zab ?_
  exact wkr [sb h0] kr
 | succ kk ih =>
  intro i nw hi hv
  obtain ⟨x,hx⟩:=zay (l:=t.acts) (i:=i) (by omega)
  have h0:decide (((i:Nat):Int) < (((t.acts.map Ac.cells).length:Nat):Int))=true:=by simp;omega
  have hw:=zap i (by first|omega|(simp only [zae,Few] at *;omega))
  have hfx:=hf nw hv x (List.mem_of_getElem? hx)
  have hns:=hIs nw hv
  have hlx:=ztH s x.set0.col
  rw [zbH hx]
  simp only [zge]
  refine zab ?_
  cases h1:x.kind==4
  ·cases h2:x.kind==5
   ·exact wkr [sb h0,se (zah Ac.cells hx rfl),sb h1,sb h2,sb (rfl:true=true)] kr
   ·cases h3:(zcv (f nw) x (zaF t s old nw) s old nw tb).fst != 0
    ·exact wkl [sb h0,se (zah Ac.cells hx rfl),sb h1,sb h2,sd [(15,[sl [1] (zb7 t s old nw zcD zcD zcD)]),(16,[sl [0,1] (zgM (f nw) x (zaF t s old nw) s old nw tb zcD zcD hfx)])],sb h3,si hw] [0,3,42,43,44] 3 kr (ih (i+1) ((zcv (f nw) x (zaF t s old nw) s old nw tb).snd) (by omega) (by first|assumption|exact hI nw hv x (List.mem_of_getElem? hx)))
    ·exact wkr [sb h0,se (zah Ac.cells hx rfl),sb h1,sb h2,sd [(15,[sl [1] (zb7 t s old nw zcD zcD zcD)]),(16,[sl [0,1] (zgM (f nw) x (zaF t s old nw) s old nw tb zcD zcD hfx)])],sb h3] kr
  ·exact wkr [sb h0,se (zah Ac.cells hx rfl),sb h1,sb (rfl:true=true)] kr
def fire (tr:List V→Bool × Int) (f:List V→X→V × Int) (I:List V→Prop) (t:Tg) (s:Sch) (old nw:List V) (tb:List Tb):Int × (List V) :=
 bif (tr nw).snd != 0 then
  ((tr nw).snd,nw)
 else
  bif !(tr nw).fst then
   ((tr nw).snd,nw)
  else
   zge f I t s old tb nw t.acts 0 (nw)
theorem c_fire (tr:List V→Bool × Int) (f:List V→X→V × Int) (I:List V→Prop) (t:Tg) (s:Sch) (old nw:List V) (tb:List Tb) (hs:zae s.cols) (ho:zae old) (hIs:∀ nw,I nw→zae nw) (hf:∀ nw,I nw→∀ a∈t.acts,Pure S.evaluate_Value [a.set0.ex.av,fsl (zaF t s old nw),tsl tb] (.tup [(f nw a.set0.ex).1.av,iv (f nw a.set0.ex).2])) (hI:∀ nw,I nw→∀ a∈t.acts,I (zcv (f nw) a (zaF t s old nw) s old nw tb).2) (hla:zae t.acts) (hT:Pure S.evaluate_True [xsl t.when_,fsl (zaF t s old nw),tsl tb] (.tup [bv (tr nw).1,iv (tr nw).2])) (hv:I nw) (hns:zae nw):zac E0 S.before_row_fire [.p 0 0,t.av] (RB s old nw tb) (iv (fire tr f I t s old nw tb).1) (RB s old (fire tr f I t s old nw tb).2 tb):=by
 unfold fire
 cases h1:(tr nw).snd != 0
 ·cases h2:!(tr nw).fst
  ·exact wkc At.before_row_fire [sd [(15,[sl [1] (zb7 t s old nw zcD zcD zcD)]),(20,[sc hT])],sg h1,sb h2] [0,3,42,43,44] 3 kr (zoc f I t s old tb nw hs ho hIs hf hI hla t.acts.length 0 nw (by simp) hv)
  ·exact wk At.before_row_fire [sd [(15,[sl [1] (zb7 t s old nw zcD zcD zcD)]),(20,[sc hT])],sg h1,sb h2] kr
 ·exact wk At.before_row_fire [sd [(15,[sl [1] (zb7 t s old nw zcD zcD zcD)]),(20,[sc hT])],sb h1] kr
structure NwOk (nw:List V):Prop where
 len:nw.length≤1000
 good:∀ v∈nw,v.Good
theorem NwOk.short {nw:List V} (h:NwOk nw):zae nw:=by have:=h.len;simp only [zae];omega
theorem zpb {t:Tg} {s:Sch} {a b:List V}:(zaF t s a b).length≤2∧∀ f∈zaF t s a b,f.cols=s.cols∧(f.vals=a∨f.vals=b):=by
 unfold zaF
 cases t.each <;> cases t.event==2 <;> cases t.event==3 <;> cases t.event==1 <;> simp
theorem zl7 {t:Tg} {s:Sch} {a b:List V} (hs:Few s.cols) (ha:NwOk a) (hb:NwOk b) (N:Nat) (hN:N≤900000):FsOk N (zaF t s a b)∧FsG (zaF t s a b):=by
 obtain ⟨h1,h2⟩:=zpb (t:=t) (s:=s) (a:=a) (b:=b)
 have hv:∀ f∈zaF t s a b,∀ v∈f.vals,v.Good:=fun f hf v hv=>by
  rcases (h2 f hf).2 with e|e <;> rw [e] at hv
  ·exact ha.good v hv
  ·exact hb.good v hv
 exact ⟨⟨by omega,fun f hf=>by rw [(h2 f hf).1];simp only [Few] at hs;simp only [zae];omega,fun f hf v h=>(hv f hf v h).small⟩,hv⟩
theorem bif2 {α β:Type} {P:β→Prop} {c:Bool} {x y:α × β} (hx:P x.2) (hy:P y.2):P (cond c x y).2:=by cases c <;> assumption
theorem zmO {f:X→V × Int} {a:Ac} {fr:List Fr} {s:Sch} {old nw:List V} {tb:List Tb} (h:NwOk nw) (hf:(f a.set0.ex).1.Good):NwOk (zcv f a fr s old nw tb).2:=by
 have hset:∀ i,NwOk (nw.set i (f a.set0.ex).1):=fun i=>⟨by rw [List.length_set];exact h.len,fun v hv=>(List.mem_or_eq_of_mem_set hv).elim (h.good v) fun e=>e ▸ hf⟩
 unfold zcv
 repeat' first|exact h|exact hset _|refine bif2 (P:=NwOk) ?_ ?_
structure TrOk (n:Nat) (t:Tg):Prop where
 acts:zae t.acts
 sets:∀ a∈t.acts,XOk n a.set0.ex
 when_:∀ x∈t.when_,XOk n x
def zbu (n:Nat) (t:Tg) (s:Sch) (old nw:List V) (tb:List Tb):Int × List V :=
 fire (fun nw=>zby (fun x=>eval n x (zaF t s old nw) tb) t.when_) (fun nw x=>eval n x (zaF t s old nw) tb) NwOk t s old nw tb
theorem zoM {f:List V→X→V × Int} {t:Tg} {s:Sch} {old:List V} {tb:List Tb} {new0:List V} (hI:∀ nw,NwOk nw→∀ a∈t.acts,NwOk (zcv (f nw) a (zaF t s old nw) s old nw tb).2):∀ (l:List Ac) (i:Nat) (nw:List V),(∀ a∈l,a∈t.acts)→NwOk nw→NwOk (zge f NwOk t s old tb new0 l i nw).2
 | [],_,_,_,h=>h
 | x::r,i,nw,hm,h=>by
  have h1:=hI nw h x (hm x (by simp))
  have h2:=fun j nw h=>zoM (new0:=new0) hI r j nw (fun a ha=>hm a (by simp [ha])) h
  unfold zge
  repeat' first|exact h|exact h1|exact h2 _ _ h|exact h2 _ _ h1|refine bif2 (P:=NwOk) ?_ ?_
theorem zsh {n:Nat} {t:Tg} {s:Sch} {old nw:List V} {tb:List Tb} (hn:n≤900000) (ht:TrOk n t) (hs:Few s.cols) (ho:NwOk old) (hw:NwOk nw) (htg:TbG tb):NwOk (zbu n t s old nw tb).2:=by
 unfold zbu fire
 have h:=zoM (f:=fun nw x=>eval n x (zaF t s old nw) tb) (t:=t) (s:=s) (old:=old) (tb:=tb) (new0:=nw) (fun nw h a ha=>zmO h (zdH n _ _ tb (ht.sets a ha) (zl7 hs ho h n hn).2 htg)) t.acts 0 nw (fun a ha=>ha) hw
 repeat' first|exact hw|exact h|refine bif2 (P:=NwOk) ?_ ?_
theorem zda (n:Nat) (t:Tg) (s:Sch) (old nw:List V) (tb:List Tb) (hn:n≤900000) (ht:TrOk n t) (hs:Few s.cols) (ho:NwOk old) (hw:NwOk nw) (hto:TbOk tb) (htg:TbG tb) :
  zac E0 S.before_row_fire [.p 0 0,t.av] (RB s old nw tb) (iv (zbu n t s old nw tb).1) (RB s old (zbu n t s old nw tb).2 tb):=by
 have hss:zae s.cols:=by simp only [Few] at hs;simp only [zae];omega
 have hfr:∀ nw,NwOk nw→FsOk n (zaF t s old nw)∧FsG (zaF t s old nw):=fun nw h=>zl7 hs ho h n hn
 exact c_fire (fun nw=>zby (fun x=>eval n x (zaF t s old nw) tb) t.when_) (fun nw x=>eval n x (zaF t s old nw) tb) NwOk t s old nw tb hss ho.short (fun _ h=>h.short)
  (fun nw h a ha=>zkF n _ _ tb (ht.sets a ha) (hfr nw h).1 (hfr nw h).2 hto htg)
  (fun nw h a ha=>zmO h (zdH n _ _ tb (ht.sets a ha) (hfr nw h).2 htg)) ht.acts
  (zrD (fun x hx=>zkF n x _ tb (ht.when_ x hx) (hfr nw hw).1 (hfr nw hw).2 hto htg) (fun x hx=>zdH n x _ tb (ht.when_ x hx) (hfr nw hw).2 htg)) hw hw.short
end Go.AM
namespace Go.AM
set_option maxRecDepth 100000
set_option maxHeartbeats 1000000
set_option linter.unusedSimpArgs false
set_option linter.unusedVariables false
theorem zdc {p:Prop} (h:p:=by first|assumption|(rw [List.length_eraseIdx,if_pos hcb];omega)|exact (by assumption:n=_∧_).1|exact (by assumption:n=_∧_).2|exact Nat.le_trans (List.length_eraseIdx_le _ _) hc|exact fun t ht=>hT t (List.mem_of_mem_eraseIdx ht)|exact zsh hN hTx hs ho hw0 htg|exact zmw hp|(simp only [List.length_append,List.length_cons,List.length_nil];omega)|omega):p:=h
theorem zaT {p:Prop} (h:p:=by first|assumption|omega|(simp;done)|(simp;omega)):p:=h
abbrev RH5 (s:Sch) (old nw:List V) (tb:List Tb) (cur:List Tg) (rest:List (List AV)) (ch:List Int):Heap:=[.box s.cells,.row Ty.Value (nw.map V.cells) false,.box [sv s.name,.sl (s.cols.map Col.cells),vsl old,.own 1 nw.length,tsl tb],.row Ty.Trigger (cur.map Tg.cells++rest) false,.row Ty.int (ch.map fun n=>[iv n]) false]
noncomputable def zdh (N:Nat) (l:List Lk) (s:Sch) (old:List V) (tb:List Tb) (k:Nat) (cur:List Tg) (rest:List (List AV)) (n:Nat) (nw:List V) (ps ch:List Int):Cfg:=zav B.before_Row 0 [(1,.sl (l.map Lk.cells)),(6,isl ps),(18,.p 2 0),(19,.os 3 n 0 cur.length),(20,.own 4 ch.length)] (RH5 s old nw tb cur rest ch)
def imOf (t:Tg):Im:=⟨t.name,0,[],[]⟩
theorem zrQ {cur:List Tg} {i:Nat} {x:Tg} {its:List Im} (hx:cur[i]?=some x) (h:its=(cur.take i).map imOf):its++[⟨x.name,0,[],[]⟩]=(cur.take (i+1)).map imOf:=by
 rw [List.take_add_one,hx,List.map_append,h];rfl
noncomputable def zbI (l:List Lk) (s:Sch) (old:List V) (tb:List Tb) (cur:List Tg) (rest:List (List AV)) (n:Nat) (nw:List V) (ps ch:List Int) (i:Nat) (its:List Im):Cfg:=zav B.before_Row 1 [(1,.sl (l.map Lk.cells)),(6,isl ps),(18,.p 2 0),(19,.os 3 n 0 cur.length),(20,.own 4 ch.length),(21,.own 5 its.length),(41,.os 3 n 0 cur.length),(42,iv (cur.length - 0:Nat)),(43,iv (i:Nat))] (RH5 s old nw tb cur rest ch++[.row Ty.Item (its.map Im.cells) false])
theorem ztT (l:List Lk) (s:Sch) (old:List V) (tb:List Tb) (cur:List Tg) (rest:List (List AV)) (n:Nat) (nw:List V) (ps ch:List Int) (hn:n=(cur.map Tg.cells++rest).length) (hc:zae cur) (i:Nat) (its:List Im) (hi:i≤((cur.length - 0))) (hI:its=(cur.take i).map imOf):∃ (its':List Im),(its'=(cur.take ((cur.length - 0))).map imOf)∧(decide (((((cur.length - 0)):Nat):Int) < ((((cur.length - 0)):Nat):Int))=false)∧∀ R,Good E0 B.before_Row [] (zbI l s old tb cur rest n nw ps ch ((cur.length - 0)) its') R→Good E0 B.before_Row [] (zbI l s old tb cur rest n nw ps ch i its) R:=by
 obtain ⟨kk,hk⟩:∃ kk,i+kk=((cur.length - 0)):=⟨((cur.length - 0)) - i,by omega⟩
 induction kk generalizing i its with
 | zero =>
  have e0:i=((cur.length - 0)):=by omega
  subst e0
  exact ⟨its,hI,by simp,fun R hg=>hg⟩
 | succ kk ih =>
  have h0:decide (((i:Nat):Int) < ((((cur.length - 0)):Nat):Int))=true:=by simp;omega
  have hw:IntKind.i64.wrap (((i:Nat):Int)+1)=((i+1:Nat):Int):=zap i (by first|omega|(simp only [zae,Few] at *;omega))
  obtain ⟨x,hx⟩:=zay (l:=cur) (i:=i) (by omega)
  have he:OwnEl (cur.map Tg.cells++rest) n i x.cells:=⟨hn,by rw [List.getElem?_append_left (by simp;omega)];simp [hx]⟩
  have ho:OsEl (cur.map Tg.cells++rest) n 0 cur.length ((i:Nat):Int):=⟨hn,by omega,by simp;omega⟩
  have hil:its.length≤1000000000:=by rw [hI];simp;simp only [zae] at hc;omega
  obtain ⟨itsZ,qZ,xZ,gZ⟩:=ih (i+1) (its++[Im.mk x.name 0 [] []]) (by omega) (by exact zrQ hx hI) (by omega);exact ⟨itsZ,qZ,xZ,fun R hg=>zab (wkl (c':=(Cfg.mk (zbI l s old tb cur rest n nw ps ch (i+1) (its++[Im.mk x.name 0 [] []])).n (zbI l s old tb cur rest n nw ps ch (i+1) (its++[Im.mk x.name 0 [] []])).todo [(1,AV.sl (List.map Lk.cells l)),(6,AV.sl (List.map (fun n=>[iv n]) ps)),(18,AV.p 2 0),(19,AV.os 3 n 0 cur.length),(20,AV.own 4 ch.length),(21,AV.own 5 (List.map Im.cells its++[[sv x.name,iv 0,AV.sl [],AV.sl []]]).length),(41,AV.os 3 n 0 cur.length),(42,iv (↑(cur.length - 0):Int)),(43,iv (↑(i+1):Int))] [Blk.box [sv s.name,AV.sl (List.map Col.cells s.cols)],Blk.row Ty.Value (List.map V.cells nw) false,Blk.box [sv s.name,AV.sl (List.map Col.cells s.cols),AV.sl (List.map V.cells old),AV.own 1 nw.length,AV.sl (List.map Tb.cells tb)],Blk.row Ty.Trigger (List.map Tg.cells cur++rest) false,Blk.row Ty.int (List.map (fun n=>[iv n]) ch) false,Blk.row Ty.Item (List.map Im.cells its++[[sv x.name,iv 0,AV.sl [],AV.sl []]]) false])) [sb h0,sqx (OsEl (List.map Tg.cells cur++rest) n 0 cur.length (i:Int)),sx (.el x.cells) he,sqx (AllLen [[sv x.name,iv 0,AV.sl [],AV.sl []]] 4∧its.length=(List.map Im.cells its).length∧(((List.map Im.cells its).length+[[sv x.name,iv 0,AV.sl [],AV.sl []]].length) * 72).le 140737488355328),si hw] [1,6,18,19,20,21,41,42,43] 6 kr (zan (show ([(1,AV.sl (List.map Lk.cells l)),(6,AV.sl (List.map (fun n=>[iv n]) ps)),(18,AV.p 2 0),(19,AV.os 3 n 0 cur.length),(20,AV.own 4 ch.length),(21,AV.own 5 (List.map Im.cells its++[[sv x.name,iv 0,AV.sl [],AV.sl []]]).length),(41,AV.os 3 n 0 cur.length),(42,iv (↑(cur.length - 0):Int)),(43,iv (↑(i+1):Int))]:TS)=[(1,AV.sl (List.map Lk.cells l)),(6,AV.sl (List.map (fun n=>[iv n]) ps)),(18,AV.p 2 0),(19,AV.os 3 n 0 cur.length),(20,AV.own 4 ch.length),(21,AV.own 5 (its++[Im.mk x.name 0 [] []]).length),(41,AV.os 3 n 0 cur.length),(42,iv (↑(cur.length - 0):Int)),(43,iv (↑(i+1):Int))] by first|rfl|(simp;done)|(simp [X.cells,Qy.cells,V.cells,Col.cells,Rw.cells,Tb.cells,Fr.cells,Sch.cells,Tp.cells,Pl.cells,xCol,xLit,xBin,xNeg,Im.cells,Lk.cells];done)) (show ([Blk.box [sv s.name,AV.sl (List.map Col.cells s.cols)],Blk.row Ty.Value (List.map V.cells nw) false,Blk.box [sv s.name,AV.sl (List.map Col.cells s.cols),AV.sl (List.map V.cells old),AV.own 1 nw.length,AV.sl (List.map Tb.cells tb)],Blk.row Ty.Trigger (List.map Tg.cells cur++rest) false,Blk.row Ty.int (List.map (fun n=>[iv n]) ch) false,Blk.row Ty.Item (List.map Im.cells its++[[sv x.name,iv 0,AV.sl [],AV.sl []]]) false]:Heap)=[Blk.box [sv s.name,AV.sl (List.map Col.cells s.cols)],Blk.row Ty.Value (List.map V.cells nw) false,Blk.box [sv s.name,AV.sl (List.map Col.cells s.cols),AV.sl (List.map V.cells old),AV.own 1 nw.length,AV.sl (List.map Tb.cells tb)],Blk.row Ty.Trigger (List.map Tg.cells cur++rest) false,Blk.row Ty.int (List.map (fun n=>[iv n]) ch) false,Blk.row Ty.Item (List.map Im.cells (its++[Im.mk x.name 0 [] []])) false] by first|rfl|(simp;done)|(simp [X.cells,Qy.cells,V.cells,Col.cells,Rw.cells,Tb.cells,Fr.cells,Sch.cells,Tp.cells,Pl.cells,xCol,xLit,xBin,xNeg,Im.cells,Lk.cells];done)) (gZ R hg)))⟩
theorem zgX (l:List Lk) (s:Sch) (old:List V) (tb:List Tb) (cur:List Tg) (rest:List (List AV)) (n:Nat) (nw:List V) (ps ch:List Int) (hn:n=(cur.map Tg.cells++rest).length) (hc:zae cur) :
  (decide (((cur.length - 0:Nat):Int) < ((cur.length - 0:Nat):Int))=false)∧∀ R,Good E0 B.before_Row [] (zbI l s old tb cur rest n nw ps ch (cur.length - 0) (cur.map imOf)) R→Good E0 B.before_Row [] (zbI l s old tb cur rest n nw ps ch 0 []) R:=by
 obtain ⟨its,h1,h2,h3⟩:=ztT l s old tb cur rest n nw ps ch hn hc 0 [] (by omega) (by simp)
 have e:cur.take (cur.length - 0)=cur:=List.take_of_length_le (by omega)
 rw [e] at h1
 subst h1
 exact ⟨h2,h3⟩
def zbc:Tg:=⟨⟨#[]⟩,⟨#[]⟩,false,0,[],false,[],[],[],[],[]⟩
abbrev pl (cur:List Tg) (l:List Lk) (ps:List Int):Nat:=zbg (cur.map imOf) l ps
theorem zmw {n:Int} {ps:List Int} (h:Room ps):Room (zbo n ps).2:=by
 unfold zbo
 cases decide (n < 2)
 ·cases ps with
  | nil=>simp
  | cons p r=>simp only [Room,List.length_cons] at h;simp only [cond_false,Room];omega
 ·exact h
def brow (N:Nat) (l:List Lk) (s:Sch) (old:List V) (tb:List Tb):Nat→(List Tg)→(List V)→(List Int)→(List Int)→(List V) × (List Int) × (List Int) × Int
 | 0,cur,nw,ps,ch =>
  (nw,ps,ch,0)
 | k+1,cur,nw,ps,ch =>
  bif (↑(List.map (fun n=>[iv n]) (zaz (List.map imOf cur) l (List.map imOf cur).length)).length:Int)==0 then
   ([],[],[],17)
  else
   bif decide (1 < (↑(List.map (fun n=>[iv n]) (zaz (List.map imOf cur) l (List.map imOf cur).length)).length:Int)) then
    bif (zbu N (cur.getD (pl cur l ps) zbc) s old nw tb).fst != 0 then
     ([],[],[],(zbu N (cur.getD (pl cur l ps) zbc) s old nw tb).fst)
    else
     brow N l s old tb k (cur.eraseIdx (zbg (List.map imOf cur) l ps)) ((zbu N (cur.getD (pl cur l ps) zbc) s old nw tb).snd) ((zbo (↑(List.map (fun n=>[iv n]) (zaz (List.map imOf cur) l (List.map imOf cur).length)).length:Int) ps).snd) (ch++[(↑(List.map (fun n=>[iv n]) (zaz (List.map imOf cur) l (List.map imOf cur).length)).length:Int)])
   else
    bif (zbu N (cur.getD (pl cur l ps) zbc) s old nw tb).fst != 0 then
     ([],[],[],(zbu N (cur.getD (pl cur l ps) zbc) s old nw tb).fst)
    else
     brow N l s old tb k (cur.eraseIdx (zbg (List.map imOf cur) l ps)) ((zbu N (cur.getD (pl cur l ps) zbc) s old nw tb).snd) ((zbo (↑(List.map (fun n=>[iv n]) (zaz (List.map imOf cur) l (List.map imOf cur).length)).length:Int) ps).snd) (ch)
theorem zpl (N:Nat) (l:List Lk) (s:Sch) (old:List V) (tb:List Tb) (hN:N≤900000) (hl:zae l) (hs:Few s.cols) (ho:NwOk old) (hto:TbOk tb) (htg:TbG tb):∀ (k:Nat) (cur:List Tg) (rest:List (List AV)) (n:Nat) (nw:List V) (ps ch:List Int),k≤1000000000→(cur.length=k)→(n=(cur.map Tg.cells++rest).length)→(∀ c∈rest,c.length=11)→(zae cur)→(∀ t∈cur,TrOk N t)→(NwOk nw)→(Room ps)→(ch.length+k≤1000000000)→Good E0 B.before_Row [] (zdh N l s old tb k cur rest n nw ps ch) (Shut 0 fun r h=>r=(.tup [vsl (brow N l s old tb k cur nw ps ch).1,isl (brow N l s old tb k cur nw ps ch).2.1,isl (brow N l s old tb k cur nw ps ch).2.2.1,iv (brow N l s old tb k cur nw ps ch).2.2.2])∧h=[]):=by
 intro k
 induction k with
 | zero =>
  intro cur rest n nw ps ch hk hk0 hn hr hc hT hw0 hp hch
  have hcl:decide ((0:Int) < ((cur.length - 0:Nat):Int))=false:=by rw [decide_eq_false_iff_not];omega
  simp only [brow]
  refine zab ?_
  exact wkr [sqx (nw.length=(List.map V.cells nw).length∧True∧ch.length=(List.map (fun n=>[iv n]) ch).length∧True∧True),sqx (n=(List.map Tg.cells cur++rest).length),sb hcl] kr
 | succ k ih =>
  intro cur rest n nw ps ch hk hk0 hn hr hc hT hw0 hp hch
  have h0:decide ((0:Int) < ((k+1:Nat):Int))=true:=by first|(simp;done)|(simp;omega)
  have hw:=zen k (by omega)
  have hcl:decide ((0:Int) < ((cur.length - 0:Nat):Int))=true:=by rw [decide_eq_true_iff];omega
  have hcb:zbg (cur.map imOf) l ps < cur.length:=by have:=zmR (cur.map imOf) l ps (by simp;omega);simpa using this
  have hso:zae (cur.map imOf):=by simp only [zae,List.length_map] at *;exact hc
  have hos:OsEl (cur.map Tg.cells++rest) n 0 cur.length ((pl cur l ps:Nat):Int):=⟨hn,by omega,by simp;omega⟩
  have hge:cur[pl cur l ps]?=some (cur.getD (pl cur l ps) zbc):=by rw [List.getD_eq_getElem?_getD,List.getElem?_eq_getElem hcb];rfl
  have hoe:OwnEl (cur.map Tg.cells++rest) n (pl cur l ps) (cur.getD (pl cur l ps) zbc).cells:=⟨hn,by rw [List.getElem?_append_left (by rw [List.length_map];exact hcb),List.getElem?_map,hge];rfl⟩
  have hTx:TrOk N (cur.getD (pl cur l ps) zbc):=hT _ (List.mem_of_getElem? hge)
  simp only [brow]
  refine zab ?_
  obtain ⟨q1,g1⟩:=zgX l s old tb cur rest n nw ps ch zaT zaT
  cases h2:(↑(List.map (fun n=>[iv n]) (zaz (List.map imOf cur) l (List.map imOf cur).length)).length:Int)==0
  ·cases h3:decide (1 < (↑(List.map (fun n=>[iv n]) (zaz (List.map imOf cur) l (List.map imOf cur).length)).length:Int))
   ·cases h4:(zbu N (cur.getD (pl cur l ps) zbc) s old nw tb).fst != 0
    ·obtain ⟨rest5,q5,c5⟩:=(zdT cur rest n (zbg (List.map imOf cur) l ps) zaT zaT zaT)
     exact wkl (c':=(Cfg.mk (zbI l s old tb cur rest n nw ps ch 0 []).n (zbI l s old tb cur rest n nw ps ch 0 []).todo [(1,AV.sl (List.map Lk.cells l)),(6,AV.sl (List.map (fun n=>[iv n]) ps)),(18,AV.p 2 0),(19,AV.os 3 n 0 cur.length),(20,AV.own 4 ch.length),(21,AV.nl),(41,AV.os 3 n 0 cur.length),(42,iv (↑(cur.length - 0):Int)),(43,iv 0)] [Blk.box [sv s.name,AV.sl (List.map Col.cells s.cols)],Blk.row Ty.Value (List.map V.cells nw) false,Blk.box [sv s.name,AV.sl (List.map Col.cells s.cols),AV.sl (List.map V.cells old),AV.own 1 nw.length,AV.sl (List.map Tb.cells tb)],Blk.row Ty.Trigger (List.map Tg.cells cur++rest) false,Blk.row Ty.int (List.map (fun n=>[iv n]) ch) false])) [sqx (n=(List.map Tg.cells cur++rest).length),sb hcl,sqx (n=(List.map Tg.cells cur++rest).length)] [1,6,18,19,20,21,41,42,43] 5 kr (za7 (c':=zbI l s old tb cur rest n nw ps ch 0 []) 21 Ty.Item [1,6,18,19,20,21,41,42,43] 6 kr kr kr (g1 _ (zab (wkl [sb q1,skx ((List.map imOf cur).length=(List.map Im.cells (List.map imOf cur)).length∧True∧True) [] (zcU (List.map imOf cur) l zaT zaT),sb h2,sc (zd4 ((↑(List.map (fun n=>[iv n]) (zaz (List.map imOf cur) l (List.map imOf cur).length)).length:Int)) ps zaT),sb h3,se (zkA (List.map imOf cur) l ps zaT zaT),sqx (OsEl (List.map Tg.cells cur++rest) n 0 cur.length (↑(zbg (List.map imOf cur) l ps):Int)),sx (.el ((cur.getD (pl cur l ps) zbc).cells)) hoe,sl [2,1] (zda N (cur.getD (pl cur l ps) zbc) s old nw tb hN zaT zaT zaT zaT zaT zaT),sb h4,si (zaY (t:=(↑(zbg (List.map imOf cur) l ps):Int)+1) (n:=zbg (List.map imOf cur) l ps+1) (by omega) (by omega)),sl [3] c5] [1,6,18,19,20] 5 kr (ih (cur.eraseIdx (zbg (List.map imOf cur) l ps)) rest5 n ((zbu N (cur.getD (pl cur l ps) zbc) s old nw tb).snd) ((zbo (↑(List.map (fun n=>[iv n]) (zaz (List.map imOf cur) l (List.map imOf cur).length)).length:Int) ps).snd) ch (by omega) zdc zdc zdc zdc zdc zdc zdc zdc)))))
    ·exact wkl (c':=(Cfg.mk (zbI l s old tb cur rest n nw ps ch 0 []).n (zbI l s old tb cur rest n nw ps ch 0 []).todo [(1,AV.sl (List.map Lk.cells l)),(6,AV.sl (List.map (fun n=>[iv n]) ps)),(18,AV.p 2 0),(19,AV.os 3 n 0 cur.length),(20,AV.own 4 ch.length),(21,AV.nl),(41,AV.os 3 n 0 cur.length),(42,iv (↑(cur.length - 0):Int)),(43,iv 0)] [Blk.box [sv s.name,AV.sl (List.map Col.cells s.cols)],Blk.row Ty.Value (List.map V.cells nw) false,Blk.box [sv s.name,AV.sl (List.map Col.cells s.cols),AV.sl (List.map V.cells old),AV.own 1 nw.length,AV.sl (List.map Tb.cells tb)],Blk.row Ty.Trigger (List.map Tg.cells cur++rest) false,Blk.row Ty.int (List.map (fun n=>[iv n]) ch) false])) [sqx (n=(List.map Tg.cells cur++rest).length),sb hcl,sqx (n=(List.map Tg.cells cur++rest).length)] [1,6,18,19,20,21,41,42,43] 5 kr (za7 (c':=zbI l s old tb cur rest n nw ps ch 0 []) 21 Ty.Item [1,6,18,19,20,21,41,42,43] 6 kr kr kr (g1 _ (zab (wkr [sb q1,skx ((List.map imOf cur).length=(List.map Im.cells (List.map imOf cur)).length∧True∧True) [] (zcU (List.map imOf cur) l zaT zaT),sb h2,sc (zd4 ((↑(List.map (fun n=>[iv n]) (zaz (List.map imOf cur) l (List.map imOf cur).length)).length:Int)) ps zaT),sb h3,se (zkA (List.map imOf cur) l ps zaT zaT),sqx (OsEl (List.map Tg.cells cur++rest) n 0 cur.length (↑(zbg (List.map imOf cur) l ps):Int)),sx (.el ((cur.getD (pl cur l ps) zbc).cells)) hoe,sl [2,1] (zda N (cur.getD (pl cur l ps) zbc) s old nw tb hN zaT zaT zaT zaT zaT zaT),sb h4] kr))))
   ·cases h6:(zbu N (cur.getD (pl cur l ps) zbc) s old nw tb).fst != 0
    ·obtain ⟨rest7,q7,c7⟩:=(zdT cur rest n (zbg (List.map imOf cur) l ps) zaT zaT zaT)
     exact wkl (c':=(Cfg.mk (zbI l s old tb cur rest n nw ps ch 0 []).n (zbI l s old tb cur rest n nw ps ch 0 []).todo [(1,AV.sl (List.map Lk.cells l)),(6,AV.sl (List.map (fun n=>[iv n]) ps)),(18,AV.p 2 0),(19,AV.os 3 n 0 cur.length),(20,AV.own 4 ch.length),(21,AV.nl),(41,AV.os 3 n 0 cur.length),(42,iv (↑(cur.length - 0):Int)),(43,iv 0)] [Blk.box [sv s.name,AV.sl (List.map Col.cells s.cols)],Blk.row Ty.Value (List.map V.cells nw) false,Blk.box [sv s.name,AV.sl (List.map Col.cells s.cols),AV.sl (List.map V.cells old),AV.own 1 nw.length,AV.sl (List.map Tb.cells tb)],Blk.row Ty.Trigger (List.map Tg.cells cur++rest) false,Blk.row Ty.int (List.map (fun n=>[iv n]) ch) false])) [sqx (n=(List.map Tg.cells cur++rest).length),sb hcl,sqx (n=(List.map Tg.cells cur++rest).length)] [1,6,18,19,20,21,41,42,43] 5 kr (za7 (c':=zbI l s old tb cur rest n nw ps ch 0 []) 21 Ty.Item [1,6,18,19,20,21,41,42,43] 6 kr kr kr (g1 _ (zab (wkl (c':=(Cfg.mk (zdh N l s old tb k (cur.eraseIdx (zbg (List.map imOf cur) l ps)) rest7 n (zbu N (cur.getD (pl cur l ps) zbc) s old nw tb).snd (zbo (↑(List.map (fun n=>[iv n]) (zaz (List.map imOf cur) l (List.map imOf cur).length)).length:Int) ps).snd (ch++[(↑(List.map (fun n=>[iv n]) (zaz (List.map imOf cur) l (List.map imOf cur).length)).length:Int)])).n (zdh N l s old tb k (cur.eraseIdx (zbg (List.map imOf cur) l ps)) rest7 n (zbu N (cur.getD (pl cur l ps) zbc) s old nw tb).snd (zbo (↑(List.map (fun n=>[iv n]) (zaz (List.map imOf cur) l (List.map imOf cur).length)).length:Int) ps).snd (ch++[(↑(List.map (fun n=>[iv n]) (zaz (List.map imOf cur) l (List.map imOf cur).length)).length:Int)])).todo [(1,AV.sl (List.map Lk.cells l)),(6,AV.sl (List.map (fun n=>[iv n]) (zbo (↑(List.map (fun n=>[iv n]) (zaz (List.map imOf cur) l (List.map imOf cur).length)).length:Int) ps).snd)),(18,AV.p 2 0),(19,AV.os 3 n 0 (cur.eraseIdx (zbg (List.map imOf cur) l ps)).length),(20,AV.own 4 (List.map (fun n=>[iv n]) ch++[[iv (↑(List.map (fun n=>[iv n]) (zaz (List.map imOf cur) l (List.map imOf cur).length)).length:Int)]]).length)] [Blk.box [sv s.name,AV.sl (List.map Col.cells s.cols)],Blk.row Ty.Value (List.map V.cells (zbu N (cur.getD (pl cur l ps) zbc) s old nw tb).snd) false,Blk.box [sv s.name,AV.sl (List.map Col.cells s.cols),AV.sl (List.map V.cells old),AV.own 1 (zbu N (cur.getD (pl cur l ps) zbc) s old nw tb).snd.length,AV.sl (List.map Tb.cells tb)],Blk.row Ty.Trigger (List.map Tg.cells (cur.eraseIdx (zbg (List.map imOf cur) l ps))++rest7) false,Blk.row Ty.int (List.map (fun n=>[iv n]) ch++[[iv (↑(List.map (fun n=>[iv n]) (zaz (List.map imOf cur) l (List.map imOf cur).length)).length:Int)]]) false])) [sb q1,skx ((List.map imOf cur).length=(List.map Im.cells (List.map imOf cur)).length∧True∧True) [] (zcU (List.map imOf cur) l zaT zaT),sb h2,sc (zd4 ((↑(List.map (fun n=>[iv n]) (zaz (List.map imOf cur) l (List.map imOf cur).length)).length:Int)) ps zaT),sb h3,sqx (AllLen [[iv (↑(List.map (fun n=>[iv n]) (zaz (List.map imOf cur) l (List.map imOf cur).length)).length:Int)]] 1∧ch.length=(List.map (fun n=>[iv n]) ch).length∧(((List.map (fun n=>[iv n]) ch).length+[[iv (↑(List.map (fun n=>[iv n]) (zaz (List.map imOf cur) l (List.map imOf cur).length)).length:Int)]].length) * 8).le 140737488355328),se (zkA (List.map imOf cur) l ps zaT zaT),sqx (OsEl (List.map Tg.cells cur++rest) n 0 cur.length (↑(zbg (List.map imOf cur) l ps):Int)),sx (.el ((cur.getD (pl cur l ps) zbc).cells)) hoe,sl [2,1] (zda N (cur.getD (pl cur l ps) zbc) s old nw tb hN zaT zaT zaT zaT zaT zaT),sb h6,si (zaY (t:=(↑(zbg (List.map imOf cur) l ps):Int)+1) (n:=zbg (List.map imOf cur) l ps+1) (by omega) (by omega)),sl [3] c7] [1,6,18,19,20] 5 kr (zan (show ([(1,AV.sl (List.map Lk.cells l)),(6,AV.sl (List.map (fun n=>[iv n]) (zbo (↑(List.map (fun n=>[iv n]) (zaz (List.map imOf cur) l (List.map imOf cur).length)).length:Int) ps).snd)),(18,AV.p 2 0),(19,AV.os 3 n 0 (cur.eraseIdx (zbg (List.map imOf cur) l ps)).length),(20,AV.own 4 (List.map (fun n=>[iv n]) ch++[[iv (↑(List.map (fun n=>[iv n]) (zaz (List.map imOf cur) l (List.map imOf cur).length)).length:Int)]]).length)]:TS)=[(1,AV.sl (List.map Lk.cells l)),(6,AV.sl (List.map (fun n=>[iv n]) (zbo (↑(List.map (fun n=>[iv n]) (zaz (List.map imOf cur) l (List.map imOf cur).length)).length:Int) ps).snd)),(18,AV.p 2 0),(19,AV.os 3 n 0 (cur.eraseIdx (zbg (List.map imOf cur) l ps)).length),(20,AV.own 4 (ch++[(↑(List.map (fun n=>[iv n]) (zaz (List.map imOf cur) l (List.map imOf cur).length)).length:Int)]).length)] by first|rfl|(simp;done)|(simp [X.cells,Qy.cells,V.cells,Col.cells,Rw.cells,Tb.cells,Fr.cells,Sch.cells,Tp.cells,Pl.cells,xCol,xLit,xBin,xNeg,Im.cells,Lk.cells];done)) (show ([Blk.box [sv s.name,AV.sl (List.map Col.cells s.cols)],Blk.row Ty.Value (List.map V.cells (zbu N (cur.getD (pl cur l ps) zbc) s old nw tb).snd) false,Blk.box [sv s.name,AV.sl (List.map Col.cells s.cols),AV.sl (List.map V.cells old),AV.own 1 (zbu N (cur.getD (pl cur l ps) zbc) s old nw tb).snd.length,AV.sl (List.map Tb.cells tb)],Blk.row Ty.Trigger (List.map Tg.cells (cur.eraseIdx (zbg (List.map imOf cur) l ps))++rest7) false,Blk.row Ty.int (List.map (fun n=>[iv n]) ch++[[iv (↑(List.map (fun n=>[iv n]) (zaz (List.map imOf cur) l (List.map imOf cur).length)).length:Int)]]) false]:Heap)=[Blk.box [sv s.name,AV.sl (List.map Col.cells s.cols)],Blk.row Ty.Value (List.map V.cells (zbu N (cur.getD (pl cur l ps) zbc) s old nw tb).snd) false,Blk.box [sv s.name,AV.sl (List.map Col.cells s.cols),AV.sl (List.map V.cells old),AV.own 1 (zbu N (cur.getD (pl cur l ps) zbc) s old nw tb).snd.length,AV.sl (List.map Tb.cells tb)],Blk.row Ty.Trigger (List.map Tg.cells (cur.eraseIdx (zbg (List.map imOf cur) l ps))++rest7) false,Blk.row Ty.int (List.map (fun n=>[iv n]) (ch++[(↑(List.map (fun n=>[iv n]) (zaz (List.map imOf cur) l (List.map imOf cur).length)).length:Int)])) false] by first|rfl|(simp;done)|(simp [X.cells,Qy.cells,V.cells,Col.cells,Rw.cells,Tb.cells,Fr.cells,Sch.cells,Tp.cells,Pl.cells,xCol,xLit,xBin,xNeg,Im.cells,Lk.cells];done)) (ih (cur.eraseIdx (zbg (List.map imOf cur) l ps)) rest7 n ((zbu N (cur.getD (pl cur l ps) zbc) s old nw tb).snd) ((zbo (↑(List.map (fun n=>[iv n]) (zaz (List.map imOf cur) l (List.map imOf cur).length)).length:Int) ps).snd) (ch++[(↑(List.map (fun n=>[iv n]) (zaz (List.map imOf cur) l (List.map imOf cur).length)).length:Int)]) (by omega) zdc zdc zdc zdc zdc zdc zdc zdc))))))
    ·exact wkl (c':=(Cfg.mk (zbI l s old tb cur rest n nw ps ch 0 []).n (zbI l s old tb cur rest n nw ps ch 0 []).todo [(1,AV.sl (List.map Lk.cells l)),(6,AV.sl (List.map (fun n=>[iv n]) ps)),(18,AV.p 2 0),(19,AV.os 3 n 0 cur.length),(20,AV.own 4 ch.length),(21,AV.nl),(41,AV.os 3 n 0 cur.length),(42,iv (↑(cur.length - 0):Int)),(43,iv 0)] [Blk.box [sv s.name,AV.sl (List.map Col.cells s.cols)],Blk.row Ty.Value (List.map V.cells nw) false,Blk.box [sv s.name,AV.sl (List.map Col.cells s.cols),AV.sl (List.map V.cells old),AV.own 1 nw.length,AV.sl (List.map Tb.cells tb)],Blk.row Ty.Trigger (List.map Tg.cells cur++rest) false,Blk.row Ty.int (List.map (fun n=>[iv n]) ch) false])) [sqx (n=(List.map Tg.cells cur++rest).length),sb hcl,sqx (n=(List.map Tg.cells cur++rest).length)] [1,6,18,19,20,21,41,42,43] 5 kr (za7 (c':=zbI l s old tb cur rest n nw ps ch 0 []) 21 Ty.Item [1,6,18,19,20,21,41,42,43] 6 kr kr kr (g1 _ (zab (wkr [sb q1,skx ((List.map imOf cur).length=(List.map Im.cells (List.map imOf cur)).length∧True∧True) [] (zcU (List.map imOf cur) l zaT zaT),sb h2,sc (zd4 ((↑(List.map (fun n=>[iv n]) (zaz (List.map imOf cur) l (List.map imOf cur).length)).length:Int)) ps zaT),sb h3,sqx (AllLen [[iv (↑(List.map (fun n=>[iv n]) (zaz (List.map imOf cur) l (List.map imOf cur).length)).length:Int)]] 1∧ch.length=(List.map (fun n=>[iv n]) ch).length∧(((List.map (fun n=>[iv n]) ch).length+[[iv (↑(List.map (fun n=>[iv n]) (zaz (List.map imOf cur) l (List.map imOf cur).length)).length:Int)]].length) * 8).le 140737488355328),se (zkA (List.map imOf cur) l ps zaT zaT),sqx (OsEl (List.map Tg.cells cur++rest) n 0 cur.length (↑(zbg (List.map imOf cur) l ps):Int)),sx (.el ((cur.getD (pl cur l ps) zbc).cells)) hoe,sl [2,1] (zda N (cur.getD (pl cur l ps) zbc) s old nw tb hN zaT zaT zaT zaT zaT zaT),sb h6] kr))))
  ·exact wkl (c':=(Cfg.mk (zbI l s old tb cur rest n nw ps ch 0 []).n (zbI l s old tb cur rest n nw ps ch 0 []).todo [(1,AV.sl (List.map Lk.cells l)),(6,AV.sl (List.map (fun n=>[iv n]) ps)),(18,AV.p 2 0),(19,AV.os 3 n 0 cur.length),(20,AV.own 4 ch.length),(21,AV.nl),(41,AV.os 3 n 0 cur.length),(42,iv (↑(cur.length - 0):Int)),(43,iv 0)] [Blk.box [sv s.name,AV.sl (List.map Col.cells s.cols)],Blk.row Ty.Value (List.map V.cells nw) false,Blk.box [sv s.name,AV.sl (List.map Col.cells s.cols),AV.sl (List.map V.cells old),AV.own 1 nw.length,AV.sl (List.map Tb.cells tb)],Blk.row Ty.Trigger (List.map Tg.cells cur++rest) false,Blk.row Ty.int (List.map (fun n=>[iv n]) ch) false])) [sqx (n=(List.map Tg.cells cur++rest).length),sb hcl,sqx (n=(List.map Tg.cells cur++rest).length)] [1,6,18,19,20,21,41,42,43] 5 kr (za7 (c':=zbI l s old tb cur rest n nw ps ch 0 []) 21 Ty.Item [1,6,18,19,20,21,41,42,43] 6 kr kr kr (g1 _ (zab (wkr [sb q1,skx ((List.map imOf cur).length=(List.map Im.cells (List.map imOf cur)).length∧True∧True) [] (zcU (List.map imOf cur) l zaT zaT),sb h2] kr))))
def bRow (N:Nat) (ts:List Tg) (l:List Lk) (s:Sch) (old new:List V) (tb:List Tb) (ps:List Int):(List V) × (List Int) × (List Int) × Int :=
 brow N l s old tb ts.length ts new ps ([])
theorem zjQ (N:Nat) (ts:List Tg) (l:List Lk) (s:Sch) (old new:List V) (tb:List Tb) (ps:List Int) (hN:N≤900000) (hl:zae l) (hs:Few s.cols) (hss:zae s.cols) (ho:NwOk old) (hto:TbOk tb) (htg:TbG tb) (hts:zae ts) (hT:∀ t∈ts,TrOk N t) (hw0:NwOk new) (hws:zae new) (hp:Room ps):zac E0 S.before_Row [.sl (ts.map Tg.cells),.sl (l.map Lk.cells),s.av,vsl old,vsl new,tsl tb,isl ps] [] (.tup [vsl (bRow N ts l s old new tb ps).1,isl (bRow N ts l s old new tb ps).2.1,isl (bRow N ts l s old new tb ps).2.2.1,iv (bRow N ts l s old new tb ps).2.2.2]) []:=by
 unfold bRow
 exact wkc At.before_Row (c':=(Cfg.mk (zdh N l s old tb 0 ts [] ts.length new ps []).n (zdh N l s old tb 0 ts [] ts.length new ps []).todo [(1,AV.sl (List.map Lk.cells l)),(6,AV.own 4 ps.length),(18,AV.p 2 0),(19,AV.own 3 ts.length),(20,AV.nl)] [Blk.box [sv s.name,AV.sl (List.map Col.cells s.cols)],Blk.row Ty.Value (List.map V.cells new) false,Blk.box [sv s.name,AV.sl (List.map Col.cells s.cols),AV.sl (List.map V.cells old),AV.own 1 new.length,AV.sl (List.map Tb.cells tb)],Blk.row Ty.Trigger (List.map Tg.cells ts) false,Blk.row Ty.int (List.map zcr ps) false])) [sd [(3,[sc (zca new zaT)])],sc (zd1 ts zaT),sc (zcw ps zaT)] [1,6,18,19,20] 5 kr (zfE (c':=(Cfg.mk (zdh N l s old tb 0 ts [] ts.length new ps []).n (zdh N l s old tb 0 ts [] ts.length new ps []).todo [(1,AV.sl (List.map Lk.cells l)),(6,AV.sl (List.map zcr ps)),(18,AV.p 2 0),(19,AV.own 3 ts.length),(20,AV.nl)] [Blk.box [sv s.name,AV.sl (List.map Col.cells s.cols)],Blk.row Ty.Value (List.map V.cells new) false,Blk.box [sv s.name,AV.sl (List.map Col.cells s.cols),AV.sl (List.map V.cells old),AV.own 1 new.length,AV.sl (List.map Tb.cells tb)],Blk.row Ty.Trigger (List.map Tg.cells ts) false])) (v:=AV.own 4 ps.length) (q:=ps.length=(List.map zcr ps).length) 6 [1,6,18,19,20] 4 kr kr owed kr kr (zl6 (c':=(Cfg.mk (zdh N l s old tb 0 ts [] ts.length new ps []).n (zdh N l s old tb 0 ts [] ts.length new ps []).todo [(1,AV.sl (List.map Lk.cells l)),(6,AV.sl (List.map zcr ps)),(18,AV.p 2 0),(19,AV.os 3 ts.length 0 ts.length),(20,AV.nl)] [Blk.box [sv s.name,AV.sl (List.map Col.cells s.cols)],Blk.row Ty.Value (List.map V.cells new) false,Blk.box [sv s.name,AV.sl (List.map Col.cells s.cols),AV.sl (List.map V.cells old),AV.own 1 new.length,AV.sl (List.map Tb.cells tb)],Blk.row Ty.Trigger (List.map Tg.cells ts) false])) 19 3 ts.length [1,6,18,19,20] 4 kr kr kr (za7 (c':=(Cfg.mk (zdh N l s old tb 0 ts [] ts.length new ps []).n (zdh N l s old tb 0 ts [] ts.length new ps []).todo [(1,AV.sl (List.map Lk.cells l)),(6,AV.sl (List.map zcr ps)),(18,AV.p 2 0),(19,AV.os 3 ts.length 0 ts.length),(20,AV.own 4 0)] [Blk.box [sv s.name,AV.sl (List.map Col.cells s.cols)],Blk.row Ty.Value (List.map V.cells new) false,Blk.box [sv s.name,AV.sl (List.map Col.cells s.cols),AV.sl (List.map V.cells old),AV.own 1 new.length,AV.sl (List.map Tb.cells tb)],Blk.row Ty.Trigger (List.map Tg.cells ts) false,Blk.row Ty.int [] false])) 20 Ty.int [1,6,18,19,20] 5 kr kr kr (zan (show ([(1,AV.sl (List.map Lk.cells l)),(6,AV.sl (List.map zcr ps)),(18,AV.p 2 0),(19,AV.os 3 ts.length 0 ts.length),(20,AV.own 4 0)]:TS)=[(1,AV.sl (List.map Lk.cells l)),(6,AV.sl (List.map (fun n=>[iv n]) ps)),(18,AV.p 2 0),(19,AV.os 3 ts.length 0 ts.length),(20,AV.own 4 0)] by first|rfl|(simp;done)|(simp [X.cells,Qy.cells,V.cells,Col.cells,Rw.cells,Tb.cells,Fr.cells,Sch.cells,Tp.cells,Pl.cells,xCol,xLit,xBin,xNeg,Im.cells,Lk.cells];done)) (show ([Blk.box [sv s.name,AV.sl (List.map Col.cells s.cols)],Blk.row Ty.Value (List.map V.cells new) false,Blk.box [sv s.name,AV.sl (List.map Col.cells s.cols),AV.sl (List.map V.cells old),AV.own 1 new.length,AV.sl (List.map Tb.cells tb)],Blk.row Ty.Trigger (List.map Tg.cells ts) false,Blk.row Ty.int [] false]:Heap)=[Blk.box [sv s.name,AV.sl (List.map Col.cells s.cols)],Blk.row Ty.Value (List.map V.cells new) false,Blk.box [sv s.name,AV.sl (List.map Col.cells s.cols),AV.sl (List.map V.cells old),AV.own 1 new.length,AV.sl (List.map Tb.cells tb)],Blk.row Ty.Trigger (List.map Tg.cells ts++[]) false,Blk.row Ty.int [] false] by first|rfl|(simp;done)|(simp [X.cells,Qy.cells,V.cells,Col.cells,Rw.cells,Tb.cells,Fr.cells,Sch.cells,Tp.cells,Pl.cells,xCol,xLit,xBin,xNeg,Im.cells,Lk.cells];done)) (zpl N l s old tb hN hl hs ho hto htg ts.length ts ([]) ts.length new ps ([]) hts rfl (by simp) (by simp) hts hT hw0 hp (by simpa using hts))))))
end Go.AM
namespace Go.AM
set_option maxRecDepth 100000
set_option maxHeartbeats 1000000
set_option linter.unusedSimpArgs false
set_option linter.unusedVariables false
theorem zfH {p:Prop} (h:p:=by first|assumption|omega|(simp;done)|(simp;omega)):p:=h
abbrev zaW (s:Str):List AV:=[sv s]
theorem zp6 (l:List Str) (hl:zae l):Good E0 B.slices_Clone_string [] (zbC (zcP B.slices_Clone_string [.sl (l.map zaW)] [] 0) false) (fun r h=>r=.own 0 l.length∧h=[.row Ty.string (l.map zaW) false]) :=
 zct E0ok mix0 3000 (y:=AV.own 0 (List.map zaW l).length) (H:=[Blk.row Ty.string (List.map zaW l) false]) [sb (rfl:false=false),sqx (AllLen (List.map zaW l) 1∧((List.map zaW l).length * 16).le 140737488355328)] kr (⟨by simp,rfl⟩)
theorem zp0:Good E0 B.slices_Clone_string [] (zbC (zcP B.slices_Clone_string [.sl []] [] 0) true) (fun r h=>r=.nl∧h=[]) :=
 zct E0ok mix0 3000 (y:=AV.nl) (H:=[]) [sb (rfl:true=true)] kr (⟨rfl,rfl⟩)
theorem zdi (l:List Str) (hl:zae l):zac E0 S.slices_Clone_string [.sl (l.map zaW)] [] (.own 0 l.length) [.row Ty.string (l.map zaW) false]:=by
 refine za2 At.slices_Clone_string rfl kr (Nat.le_of_ble_eq_true kr) (zc5 E0ok mix0 3000 [] (List.range 40) 0 (c':=zcP B.slices_Clone_string [.sl (l.map zaW)] [] 0) kr kr (zek E0ok (xs:=l.map zaW) (e:=true) kr fun b hb=>?_))
 cases b with
 | false=>exact zp6 l hl
 | true =>
  cases l with
  | nil=>exact zcJ Ty.string zp0 ⟨rfl,rfl⟩
  | cons x r=>exact absurd (hb (by simp)) (by simp)
theorem zsO (l:List Rk) (hl:zae l):Good E0 B.slices_Clone_Rank [] (zbC (zcP B.slices_Clone_Rank [.sl (l.map Rk.cells)] [] 0) false) (fun r h=>r=.own 0 l.length∧h=[.row Ty.Rank (l.map Rk.cells) false]) :=
 zct E0ok mix0 3000 (y:=AV.own 0 (List.map Rk.cells l).length) (H:=[Blk.row Ty.Rank (List.map Rk.cells l) false]) [sb (rfl:false=false),sqx (AllLen (List.map Rk.cells l) 4∧((List.map Rk.cells l).length * 48).le 140737488355328)] kr (⟨by simp,rfl⟩)
theorem zsz:Good E0 B.slices_Clone_Rank [] (zbC (zcP B.slices_Clone_Rank [.sl []] [] 0) true) (fun r h=>r=.nl∧h=[]) :=
 zct E0ok mix0 3000 (y:=AV.nl) (H:=[]) [sb (rfl:true=true)] kr (⟨rfl,rfl⟩)
theorem zjE (l:List Rk) (hl:zae l):zac E0 S.slices_Clone_Rank [.sl (l.map Rk.cells)] [] (.own 0 l.length) [.row Ty.Rank (l.map Rk.cells) false]:=by
 refine za2 At.slices_Clone_Rank rfl kr (Nat.le_of_ble_eq_true kr) (zc5 E0ok mix0 3000 [] (List.range 40) 0 (c':=zcP B.slices_Clone_Rank [.sl (l.map Rk.cells)] [] 0) kr kr (zek E0ok (xs:=l.map Rk.cells) (e:=true) kr fun b hb=>?_))
 cases b with
 | false=>exact zsO l hl
 | true =>
  cases l with
  | nil=>exact zcJ Ty.Rank zsz ⟨rfl,rfl⟩
  | cons x r=>exact absurd (hb (by simp)) (by simp)
@[simp] theorem cellsQ_app (a b:List Qy):zad (a++b)=zad a++zad b:=by simp [zdQ]
noncomputable def zi9 (l:List X) (i:Nat) (out:List X):Cfg:=zav B.deep_list_api_Expr 0 [(1,.fn S.deep_Expr []),(5,.own 0 out.length),(8,.sl (zaa l)),(9,iv ((zaa l).length:Nat)),(10,iv (i:Nat))] [.row Ty.Expr (zaa out) false]
theorem zeQ (l:List X) (hl:zae l) (hf:∀ x∈l,zac E0 S.deep_Expr [x.av] [] x.av []) (i:Nat) (out:List X) (hi:i≤(l).length) (hI:out=l.take i):∃ (out':List X),(out'=l.take (l).length)∧(decide ((((l).length:Nat):Int) < (((zaa l).length:Nat):Int))=false)∧∀ R,Good E0 B.deep_list_api_Expr [] (zi9 l (l).length out') R→Good E0 B.deep_list_api_Expr [] (zi9 l i out) R:=by
 obtain ⟨kk,hk⟩:∃ kk,i+kk=(l).length:=⟨(l).length - i,by omega⟩
 induction kk generalizing i out with
 | zero =>
  have e0:i=(l).length:=by omega
  subst e0
  exact ⟨out,hI,by simp,fun R hg=>hg⟩
 | succ kk ih =>
  obtain ⟨x,hx⟩:=zay (l:=l) (i:=i) (by omega)
  have h0:decide (((i:Nat):Int) < (((zaa l).length:Nat):Int))=true:=by simp;omega
  have hw:IntKind.i64.wrap (((i:Nat):Int)+1)=((i+1:Nat):Int):=zap i (by first|omega|(simp only [zae,Few] at *;omega))
  have hfx:=hf x (List.mem_of_getElem? hx)
  have ho:out.length≤1000000000:=by rw [hI,List.length_take];simp only [zae] at hl;omega
  obtain ⟨outZ,qZ,xZ,gZ⟩:=ih (i+1) (out++[x]) (by omega) (by rw [List.take_add_one,hx,hI];rfl) (by omega);exact ⟨outZ,qZ,xZ,fun R hg=>zab (wkl (c':=(Cfg.mk (zi9 l (i+1) (out++[x])).n (zi9 l (i+1) (out++[x])).todo [(1,AV.fn S.deep_Expr []),(5,AV.own 0 (zaa out++[[iv x.kind,iv x.op,bv x.not,iv x.val.kind,iv x.val.int,sv x.val.text,sv x.table,sv x.name,AV.sl (zaa x.args),AV.sl (zad x.sub)]]).length),(8,AV.sl (zaa l)),(9,iv (↑(zaa l).length:Int)),(10,iv (↑(i+1):Int))] [Blk.row Ty.Expr (zaa out++[[iv x.kind,iv x.op,bv x.not,iv x.val.kind,iv x.val.int,sv x.val.text,sv x.table,sv x.name,AV.sl (zaa x.args),AV.sl (zad x.sub)]]) false])) [sb h0,se (zbn hx),sc hfx,sqx (AllLen [[iv x.kind,iv x.op,bv x.not,iv x.val.kind,iv x.val.int,sv x.val.text,sv x.table,sv x.name,AV.sl (zaa x.args),AV.sl (zad x.sub)]] 10∧out.length=(zaa out).length∧(((zaa out).length+[[iv x.kind,iv x.op,bv x.not,iv x.val.kind,iv x.val.int,sv x.val.text,sv x.table,sv x.name,AV.sl (zaa x.args),AV.sl (zad x.sub)]].length) * 136).le 140737488355328),si hw] [1,5,8,9,10] 1 kr (zan (show ([(1,AV.fn S.deep_Expr []),(5,AV.own 0 (zaa out++[[iv x.kind,iv x.op,bv x.not,iv x.val.kind,iv x.val.int,sv x.val.text,sv x.table,sv x.name,AV.sl (zaa x.args),AV.sl (zad x.sub)]]).length),(8,AV.sl (zaa l)),(9,iv (↑(zaa l).length:Int)),(10,iv (↑(i+1):Int))]:TS)=[(1,AV.fn S.deep_Expr []),(5,AV.own 0 (out++[x]).length),(8,AV.sl (zaa l)),(9,iv (↑(zaa l).length:Int)),(10,iv (↑(i+1):Int))] by first|rfl|(simp;done)|(simp [X.cells,Qy.cells,V.cells,Col.cells,Rw.cells,Tb.cells,Fr.cells,Sch.cells,Tp.cells,Pl.cells,xCol,xLit,xBin,xNeg,Im.cells,Lk.cells];done)) (show ([Blk.row Ty.Expr (zaa out++[[iv x.kind,iv x.op,bv x.not,iv x.val.kind,iv x.val.int,sv x.val.text,sv x.table,sv x.name,AV.sl (zaa x.args),AV.sl (zad x.sub)]]) false]:Heap)=[Blk.row Ty.Expr (zaa (out++[x])) false] by first|rfl|(simp;done)|(simp [X.cells,Qy.cells,V.cells,Col.cells,Rw.cells,Tb.cells,Fr.cells,Sch.cells,Tp.cells,Pl.cells,xCol,xLit,xBin,xNeg,Im.cells,Lk.cells];done)) (gZ R hg)))⟩
theorem zi3 (l:List X) (hl:zae l) (hf:∀ x∈l,zac E0 S.deep_Expr [x.av] [] x.av []):∃ (r:List X),r=l∧zac E0 S.deep_list_api_Expr [.sl (zaa l),.fn S.deep_Expr []] [] (.sl (zaa r)) []:=by
 obtain ⟨out1,q1,q1_1,g1⟩:=zeQ l (by first|assumption|rfl|omega) (by first|assumption|rfl|omega) 0 ([]) (by first|assumption|rfl|omega) (by first|assumption|rfl|omega)
 exact ⟨out1,by first|assumption|(rw [List.take_length] at *;assumption),wkc At.deep_list_api_Expr (c':=(Cfg.mk (zi9 l 0 []).n (zi9 l 0 []).todo [(1,AV.fn S.deep_Expr []),(5,AV.nl),(8,AV.sl (zaa l)),(9,iv (↑(zaa l).length:Int)),(10,iv 0)] [])) [] [1,5,8,9,10] 0 kr (za7 (c':=zi9 l 0 []) 5 Ty.Expr [1,5,8,9,10] 1 kr kr kr (g1 _ (zab (wkr [sqx (out1.length=(zaa out1).length),sb q1_1] kr))))⟩
theorem zeH (l:List X) (hl:zae l) (hf:∀ x∈l,zac E0 S.deep_Expr [x.av] [] x.av []):zac E0 S.deep_list_api_Expr [.sl (zaa l),.fn S.deep_Expr []] [] (.sl (zaa l)) []:=by
 obtain ⟨r,rfl,h⟩:=zi3 l hl hf
 exact h
noncomputable def ziH (l:List Qy) (i:Nat) (out:List Qy):Cfg:=zav B.deep_list_api_Query 0 [(1,.fn S.deep_Query []),(5,.own 0 out.length),(8,.sl (zad l)),(9,iv ((zad l).length:Nat)),(10,iv (i:Nat))] [.row Ty.Query (zad out) false]
theorem zet (l:List Qy) (hl:zae l) (hf:∀ x∈l,zac E0 S.deep_Query [x.av] [] x.av []) (i:Nat) (out:List Qy) (hi:i≤(l).length) (hI:out=l.take i):∃ (out':List Qy),(out'=l.take (l).length)∧(decide ((((l).length:Nat):Int) < (((zad l).length:Nat):Int))=false)∧∀ R,Good E0 B.deep_list_api_Query [] (ziH l (l).length out') R→Good E0 B.deep_list_api_Query [] (ziH l i out) R:=by
 obtain ⟨kk,hk⟩:∃ kk,i+kk=(l).length:=⟨(l).length - i,by omega⟩
 induction kk generalizing i out with
 | zero =>
  have e0:i=(l).length:=by omega
  subst e0
  exact ⟨out,hI,by simp,fun R hg=>hg⟩
 | succ kk ih =>
  obtain ⟨x,hx⟩:=zay (l:=l) (i:=i) (by omega)
  have h0:decide (((i:Nat):Int) < (((zad l).length:Nat):Int))=true:=by simp;omega
  have hw:IntKind.i64.wrap (((i:Nat):Int)+1)=((i+1:Nat):Int):=zap i (by first|omega|(simp only [zae,Few] at *;omega))
  have hfx:=hf x (List.mem_of_getElem? hx)
  have ho:out.length≤1000000000:=by rw [hI,List.length_take];simp only [zae] at hl;omega
  obtain ⟨outZ,qZ,xZ,gZ⟩:=ih (i+1) (out++[x]) (by omega) (by rw [List.take_add_one,hx,hI];rfl) (by omega);exact ⟨outZ,qZ,xZ,fun R hg=>zab (wkl (c':=(Cfg.mk (ziH l (i+1) (out++[x])).n (ziH l (i+1) (out++[x])).todo [(1,AV.fn S.deep_Query []),(5,AV.own 0 (zad out++[[bv x.star,AV.sl (zaa x.items),sv x.frm,AV.sl (zaa x.wh)]]).length),(8,AV.sl (zad l)),(9,iv (↑(zad l).length:Int)),(10,iv (↑(i+1):Int))] [Blk.row Ty.Query (zad out++[[bv x.star,AV.sl (zaa x.items),sv x.frm,AV.sl (zaa x.wh)]]) false])) [sb h0,se (zaX hx),sc hfx,sqx (AllLen [[bv x.star,AV.sl (zaa x.items),sv x.frm,AV.sl (zaa x.wh)]] 4∧out.length=(zad out).length∧(((zad out).length+[[bv x.star,AV.sl (zaa x.items),sv x.frm,AV.sl (zaa x.wh)]].length) * 72).le 140737488355328),si hw] [1,5,8,9,10] 1 kr (zan (show ([(1,AV.fn S.deep_Query []),(5,AV.own 0 (zad out++[[bv x.star,AV.sl (zaa x.items),sv x.frm,AV.sl (zaa x.wh)]]).length),(8,AV.sl (zad l)),(9,iv (↑(zad l).length:Int)),(10,iv (↑(i+1):Int))]:TS)=[(1,AV.fn S.deep_Query []),(5,AV.own 0 (out++[x]).length),(8,AV.sl (zad l)),(9,iv (↑(zad l).length:Int)),(10,iv (↑(i+1):Int))] by first|rfl|(simp;done)|(simp [X.cells,Qy.cells,V.cells,Col.cells,Rw.cells,Tb.cells,Fr.cells,Sch.cells,Tp.cells,Pl.cells,xCol,xLit,xBin,xNeg,Im.cells,Lk.cells];done)) (show ([Blk.row Ty.Query (zad out++[[bv x.star,AV.sl (zaa x.items),sv x.frm,AV.sl (zaa x.wh)]]) false]:Heap)=[Blk.row Ty.Query (zad (out++[x])) false] by first|rfl|(simp;done)|(simp [X.cells,Qy.cells,V.cells,Col.cells,Rw.cells,Tb.cells,Fr.cells,Sch.cells,Tp.cells,Pl.cells,xCol,xLit,xBin,xNeg,Im.cells,Lk.cells];done)) (gZ R hg)))⟩
theorem zig (l:List Qy) (hl:zae l) (hf:∀ x∈l,zac E0 S.deep_Query [x.av] [] x.av []):∃ (r:List Qy),r=l∧zac E0 S.deep_list_api_Query [.sl (zad l),.fn S.deep_Query []] [] (.sl (zad r)) []:=by
 obtain ⟨out1,q1,q1_1,g1⟩:=zet l (by first|assumption|rfl|omega) (by first|assumption|rfl|omega) 0 ([]) (by first|assumption|rfl|omega) (by first|assumption|rfl|omega)
 exact ⟨out1,by first|assumption|(rw [List.take_length] at *;assumption),wkc At.deep_list_api_Query (c':=(Cfg.mk (ziH l 0 []).n (ziH l 0 []).todo [(1,AV.fn S.deep_Query []),(5,AV.nl),(8,AV.sl (zad l)),(9,iv (↑(zad l).length:Int)),(10,iv 0)] [])) [] [1,5,8,9,10] 0 kr (za7 (c':=ziH l 0 []) 5 Ty.Query [1,5,8,9,10] 1 kr kr kr (g1 _ (zab (wkr [sqx (out1.length=(zad out1).length),sb q1_1] kr))))⟩
theorem zeo (l:List Qy) (hl:zae l) (hf:∀ x∈l,zac E0 S.deep_Query [x.av] [] x.av []):zac E0 S.deep_list_api_Query [.sl (zad l),.fn S.deep_Query []] [] (.sl (zad l)) []:=by
 obtain ⟨r,rfl,h⟩:=zig l hl hf
 exact h
theorem zn7 (l:List X) (hl:zae l) (hf:∀ x∈l,zac E0 S.deep_Expr [x.av] [] x.av []):∃ (r:List X),r=l∧zac E0 S.deep_Exprs [xsl l] [] (xsl r) []:=by
 exact ⟨l,by rfl,wk At.deep_Exprs [sc (zeH l zfH zfH)] kr⟩
theorem zdJ (l:List X) (hl:zae l) (hf:∀ x∈l,zac E0 S.deep_Expr [x.av] [] x.av []):zac E0 S.deep_Exprs [xsl l] [] (xsl l) []:=by
 obtain ⟨r,rfl,h⟩:=zn7 l hl hf
 exact h
theorem zj6 (q:Qy) (hl:zae q.items) (hl2:zae q.wh) (hf:∀ x∈q.items,zac E0 S.deep_Expr [x.av] [] x.av []) (hf2:∀ x∈q.wh,zac E0 S.deep_Expr [x.av] [] x.av []):∃ (r:Qy),r=q∧zac E0 S.deep_Query [q.av] [] r.av []:=by
 exact ⟨q,by rfl,wk At.deep_Query [sd [(2,[sc (zdJ q.items zfH zfH)]),(5,[sc (zdJ q.wh zfH zfH)])]] kr⟩
theorem zpu (e:X) (hl:zae e.args) (hl2:zae e.sub) (hf:∀ x∈e.args,zac E0 S.deep_Expr [x.av] [] x.av []) (hf2:∀ x∈e.sub,zac E0 S.deep_Query [x.av] [] x.av []):∃ (r:X),r=e∧zac E0 S.deep_Expr [e.av] [] r.av []:=by
 exact ⟨e,by rfl,wk At.deep_Expr [sd [(2,[sc (zeH e.args zfH zfH)]),(5,[sc (zeo e.sub zfH zfH)])]] kr⟩
def XSh:Nat→X→Prop
 | 0,_=>False
 | n+1,e=>(zae e.args∧zae e.sub)∧(∀ x∈e.args,XSh n x)∧∀ q∈e.sub,(zae q.items∧zae q.wh)∧(∀ x∈q.items,XSh n x)∧∀ x∈q.wh,XSh n x
theorem XOk.sh:∀ {n:Nat} {e:X},XOk n e→XSh n e
 | 0,_,h=>h.elim
 | _+1,_,⟨_,h2,h3,h4⟩=>⟨⟨h2.1.short,h2.2.short⟩,fun x hx=>(h3 x hx).sh,fun q hq=>⟨⟨(h4 q hq).1.1.short,(h4 q hq).1.2.short⟩,fun x hx=>((h4 q hq).2.1 x hx).sh,fun x hx=>((h4 q hq).2.2 x hx).sh⟩⟩
theorem zbT:∀ (n:Nat) (e:X),XSh n e→zac E0 S.deep_Expr [e.av] [] e.av []
 | 0,_,h=>h.elim
 | n+1,e,h=>by
  obtain ⟨h2,h3,h4⟩:=h
  obtain ⟨r,rfl,hr⟩:=zpu e h2.1 h2.2 (fun x hx=>zbT n x (h3 x hx)) (fun q hq=>by
   obtain ⟨r,rfl,hr⟩:=zj6 q (h4 q hq).1.1 (h4 q hq).1.2 (fun x hx=>zbT n x ((h4 q hq).2.1 x hx)) (fun x hx=>zbT n x ((h4 q hq).2.2 x hx))
   exact hr)
  exact hr
structure QW (n:Nat) (q:Qy):Prop where
 items:Few q.items
 wh:Few q.wh
 hi:∀ x∈q.items,XOk n x
 hw:∀ x∈q.wh,XOk n x
structure QSh (n:Nat) (q:Qy):Prop where
 items:zae q.items
 wh:zae q.wh
 hi:∀ x∈q.items,XSh n x
 hw:∀ x∈q.wh,XSh n x
theorem QW.sh {n:Nat} {q:Qy} (h:QW n q):QSh n q:=⟨zaK h.items,zaK h.wh,fun x hx=>(h.hi x hx).sh,fun x hx=>(h.hw x hx).sh⟩
theorem zlR (n:Nat) (q:Qy) (h:QSh n q):zac E0 S.deep_Query [q.av] [] q.av []:=by
 obtain ⟨r,rfl,hr⟩:=zj6 q h.items h.wh (fun x hx=>zbT n x (h.hi x hx)) (fun x hx=>zbT n x (h.hw x hx))
 exact hr
end Go.AM
