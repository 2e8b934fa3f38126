/-
  Contracts of the program's functions, part 3.
-/
import Derived.Test.YtoanpmnofigncaaGreatDoorAoC
import Derived.Laws.Externs
import Derived.Lib.Bytealg
import Derived.WideKeyRuns
import Derived.Laws.IdiomRangeMap
import Derived.Maps.RangeRun
set_option maxRecDepth 100000
set_option maxHeartbeats 40000000
set_option linter.unusedSimpArgs false
set_option linter.unusedVariables false
namespace Go.AM
def zdX (kind op:Int) (xs:List X) (qs:List Qy) (st:Bool) (it wh:List X):Bool :=
 bif kind==1 then
  bif (↑(zad xs).length:Int)==0 then
   (↑(zah qs).length:Int)==(0:Int)
  else
   false
 else
  bif kind==2 then
   bif (↑(zad xs).length:Int)==0 then
    (↑(zah qs).length:Int)==(0:Int)
   else
    false
  else
   bif kind==3 then
    bif (↑(zad xs).length:Int)==1 then
     (↑(zah qs).length:Int)==(0:Int)
    else
     false
   else
    bif kind==4 then
     bif (↑(zad xs).length:Int)==1 then
      (↑(zah qs).length:Int)==(0:Int)
     else
      false
    else
     bif kind==6 then
      bif (↑(zad xs).length:Int)==1 then
       (↑(zah qs).length:Int)==(0:Int)
      else
       false
     else
      bif kind==5 then
       bif decide (op < 1) then
        false
       else
        bif decide (13 < op) then
         false
        else
         bif (↑(zad xs).length:Int)==2 then
          (↑(zah qs).length:Int)==(0:Int)
         else
          false
      else
       bif kind==7 then
        bif (↑(zad xs).length:Int)==3 then
         (↑(zah qs).length:Int)==(0:Int)
        else
         false
       else
        bif kind==8 then
         bif (↑(zad xs).length:Int)==0 then
          bif (↑(zah qs).length:Int)==1 then
           bif (↑(zad it).length:Int)==0 then
            decide ((↑(zad wh).length:Int)<=(1:Int))
           else
            false
          else
           false
         else
          false
        else
         bif kind==9 then
          bif (↑(zad xs).length:Int)==0 then
           bif (↑(zah qs).length:Int)==1 then
            bif (↑(zad it).length:Int)==0 then
             decide ((↑(zad wh).length:Int)<=(1:Int))
            else
             false
           else
            false
          else
           false
         else
          bif kind==10 then
           bif (↑(zad xs).length:Int)==0 then
            bif (↑(zah qs).length:Int)==1 then
             bif (↑(zad it).length:Int)==1 then
              decide ((↑(zad wh).length:Int)<=(1:Int))
             else
              false
            else
             false
           else
            false
          else
           bif kind==11 then
            bif (↑(zad xs).length:Int)==0 then
             bif (↑(zah qs).length:Int)==1 then
              bif (↑(zad it).length:Int)==1 then
               decide ((↑(zad wh).length:Int)<=(1:Int))
              else
               false
             else
              false
            else
             false
           else
            bif kind==12 then
             bif (↑(zad xs).length:Int)==0 then
              bif (↑(zah qs).length:Int)==1 then
               bif (↑(zad it).length:Int)==1 then
                decide ((↑(zad wh).length:Int)<=(1:Int))
               else
                false
              else
               false
             else
              false
            else
             false
theorem znQ (kind op:Int) (xs:List X) (qs:List Qy) (st:Bool) (it wh:List X) (nt:Bool) (val:V) (tn nm:Str) (fm:Str) (hq:qs[0]?=some (Qy.mk st it fm wh)):zab E0 S.Ad [X.av (.mk kind op nt val tn nm xs qs)] [] (bv (zdX kind op xs qs st it wh)) []:=by
 unfold zdX
 cases h1:kind==1
 ·cases h2:kind==2
  ·cases h3:kind==3
   ·cases h4:kind==4
    ·cases h5:kind==6
     ·cases h6:kind==5
      ·let p_1:List St:=[sb h1,sb h2,sb h3,sb h4,sb h5,sb h6]
       cases h7:kind==7
       ·cases h8:kind==8
        ·cases h9:kind==9
         ·cases h10:kind==10
          ·cases h11:kind==11
           ·cases h12:kind==12
            ·exact wk At.Ad (p_1++[sb h7,sb h8,sb h9,sb h10,sb h11,sb h12]) kr
            ·let p_2:List St:=p_1++[sb h7,sb h8,sb h9,sb h10,sb h11,sb h12,sb Zf]
             cases h13:(↑(zad xs).length:Int)==0
             ·exact wk At.Ad (p_2++[sb h13]) kr
             ·cases h14:(↑(zah qs).length:Int)==1
              ·exact wk At.Ad (p_2++[sg h13,sb h14]) kr
              ·cases h15:(↑(zad it).length:Int)==1
               ·exact wk At.Ad (p_2++[sg h13,sg h14,se (zaB hq),sb h15]) kr
               ·exact wk At.Ad (p_2++[sg h13,sg h14,se (zaB hq),sg h15,se (zaB hq)]) kr
           ·let p_3:List St:=p_1++[sb h7,sb h8,sb h9,sb h10,sb h11,sb Zf]
            cases h16:(↑(zad xs).length:Int)==0
            ·exact wk At.Ad (p_3++[sb h16]) kr
            ·cases h17:(↑(zah qs).length:Int)==1
             ·exact wk At.Ad (p_3++[sg h16,sb h17]) kr
             ·cases h18:(↑(zad it).length:Int)==1
              ·exact wk At.Ad (p_3++[sg h16,sg h17,se (zaB hq),sb h18]) kr
              ·exact wk At.Ad (p_3++[sg h16,sg h17,se (zaB hq),sg h18,se (zaB hq)]) kr
          ·let p_4:List St:=p_1++[sb h7,sb h8,sb h9,sb h10,sb Zf]
           cases h19:(↑(zad xs).length:Int)==0
           ·exact wk At.Ad (p_4++[sb h19]) kr
           ·cases h20:(↑(zah qs).length:Int)==1
            ·exact wk At.Ad (p_4++[sg h19,sb h20]) kr
            ·cases h21:(↑(zad it).length:Int)==1
             ·exact wk At.Ad (p_4++[sg h19,sg h20,se (zaB hq),sb h21]) kr
             ·exact wk At.Ad (p_4++[sg h19,sg h20,se (zaB hq),sg h21,se (zaB hq)]) kr
         ·let p_5:List St:=p_1++[sb h7,sb h8,sb h9,sb Zf]
          cases h22:(↑(zad xs).length:Int)==0
          ·exact wk At.Ad (p_5++[sb h22]) kr
          ·cases h23:(↑(zah qs).length:Int)==1
           ·exact wk At.Ad (p_5++[sg h22,sb h23]) kr
           ·cases h24:(↑(zad it).length:Int)==0
            ·exact wk At.Ad (p_5++[sg h22,sg h23,se (zaB hq),sb h24]) kr
            ·exact wk At.Ad (p_5++[sg h22,sg h23,se (zaB hq),sg h24,se (zaB hq)]) kr
        ·let p_6:List St:=p_1++[sb h7,sb h8,sb Zf]
         cases h25:(↑(zad xs).length:Int)==0
         ·exact wk At.Ad (p_6++[sb h25]) kr
         ·cases h26:(↑(zah qs).length:Int)==1
          ·exact wk At.Ad (p_6++[sg h25,sb h26]) kr
          ·cases h27:(↑(zad it).length:Int)==0
           ·exact wk At.Ad (p_6++[sg h25,sg h26,se (zaB hq),sb h27]) kr
           ·exact wk At.Ad (p_6++[sg h25,sg h26,se (zaB hq),sg h27,se (zaB hq)]) kr
       ·cases h28:(↑(zad xs).length:Int)==3
        ·exact wk At.Ad (p_1++[sb h7,sb Zt,sb h28]) kr
        ·exact wk At.Ad (p_1++[sb h7,sb Zt,sg h28]) kr
      ·let p_7:List St:=[sb h1,sb h2,sb h3,sb h4,sb h5,sb h6]
       cases h29:decide (op < 1)
       ·cases h30:decide (13 < op)
        ·let p_8:List St:=p_7++[sg h29,sb h30,sb Zt]
         cases h31:(↑(zad xs).length:Int)==2
         ·exact wk At.Ad (p_8++[sb h31]) kr
         ·exact wk At.Ad (p_8++[sg h31]) kr
        ·exact wk At.Ad (p_7++[sg h29,sb h30]) kr
       ·exact wk At.Ad (p_7++[sb h29]) kr
     ·let p_9:List St:=[sb h1,sb h2,sb h3,sb h4,sb h5,sb Zt]
      cases h32:(↑(zad xs).length:Int)==1
      ·exact wk At.Ad (p_9++[sb h32]) kr
      ·exact wk At.Ad (p_9++[sg h32]) kr
    ·let p_10:List St:=[sb h1,sb h2,sb h3,sb h4,sb Zt]
     cases h33:(↑(zad xs).length:Int)==1
     ·exact wk At.Ad (p_10++[sb h33]) kr
     ·exact wk At.Ad (p_10++[sg h33]) kr
   ·let p_11:List St:=[sb h1,sb h2,sb h3,sb Zt]
    cases h34:(↑(zad xs).length:Int)==1
    ·exact wk At.Ad (p_11++[sb h34]) kr
    ·exact wk At.Ad (p_11++[sg h34]) kr
  ·cases h35:(↑(zad xs).length:Int)==0
   ·exact wk At.Ad [sb h1,sb h2,sb h35] kr
   ·exact wk At.Ad [sb h1,sb h2,sg h35] kr
 ·cases h36:(↑(zad xs).length:Int)==0
  ·exact wk At.Ad [sb h1,sb h36] kr
  ·exact wk At.Ad [sb h1,sg h36] kr
def zfs (kind op:Int) (xs:List X):Bool :=
 bif kind==1 then
  bif (↑(zad xs).length:Int)==0 then
   (↑(zah []).length:Int)==(0:Int)
  else
   false
 else
  bif kind==2 then
   bif (↑(zad xs).length:Int)==0 then
    (↑(zah []).length:Int)==(0:Int)
   else
    false
  else
   bif kind==3 then
    bif (↑(zad xs).length:Int)==1 then
     (↑(zah []).length:Int)==(0:Int)
    else
     false
   else
    bif kind==4 then
     bif (↑(zad xs).length:Int)==1 then
      (↑(zah []).length:Int)==(0:Int)
     else
      false
    else
     bif kind==6 then
      bif (↑(zad xs).length:Int)==1 then
       (↑(zah []).length:Int)==(0:Int)
      else
       false
     else
      bif kind==5 then
       bif decide (op < 1) then
        false
       else
        bif decide (13 < op) then
         false
        else
         bif (↑(zad xs).length:Int)==2 then
          (↑(zah []).length:Int)==(0:Int)
         else
          false
      else
       bif kind==7 then
        bif (↑(zad xs).length:Int)==3 then
         (↑(zah []).length:Int)==(0:Int)
        else
         false
       else
        bif kind==8 then
         bif (↑(zad xs).length:Int)==0 then
          false
         else
          false
        else
         bif kind==9 then
          bif (↑(zad xs).length:Int)==0 then
           false
          else
           false
         else
          bif kind==10 then
           bif (↑(zad xs).length:Int)==0 then
            false
           else
            false
          else
           bif kind==11 then
            bif (↑(zad xs).length:Int)==0 then
             false
            else
             false
           else
            bif kind==12 then
             bif (↑(zad xs).length:Int)==0 then
              false
             else
              false
            else
             false
theorem znP (kind op:Int) (xs:List X) (nt:Bool) (val:V) (tn nm:Str):zab E0 S.Ad [X.av (.mk kind op nt val tn nm xs [])] [] (bv (zfs kind op xs)) []:=by
 unfold zfs
 cases h1:kind==1
 ·cases h2:kind==2
  ·cases h3:kind==3
   ·cases h4:kind==4
    ·cases h5:kind==6
     ·cases h6:kind==5
      ·let p_1:List St:=[sb h1,sb h2,sb h3,sb h4,sb h5,sb h6]
       cases h7:kind==7
       ·cases h8:kind==8
        ·cases h9:kind==9
         ·cases h10:kind==10
          ·cases h11:kind==11
           ·cases h12:kind==12
            ·exact wk At.Ad (p_1++[sb h7,sb h8,sb h9,sb h10,sb h11,sb h12]) kr
            ·let p_2:List St:=p_1++[sb h7,sb h8,sb h9,sb h10,sb h11,sb h12,sb Zf]
             cases h13:(↑(zad xs).length:Int)==0
             ·exact wk At.Ad (p_2++[sb h13]) kr
             ·exact wk At.Ad (p_2++[sg h13,sb Zf]) kr
           ·let p_3:List St:=p_1++[sb h7,sb h8,sb h9,sb h10,sb h11,sb Zf]
            cases h14:(↑(zad xs).length:Int)==0
            ·exact wk At.Ad (p_3++[sb h14]) kr
            ·exact wk At.Ad (p_3++[sg h14,sb Zf]) kr
          ·let p_4:List St:=p_1++[sb h7,sb h8,sb h9,sb h10,sb Zf]
           cases h15:(↑(zad xs).length:Int)==0
           ·exact wk At.Ad (p_4++[sb h15]) kr
           ·exact wk At.Ad (p_4++[sg h15,sb Zf]) kr
         ·let p_5:List St:=p_1++[sb h7,sb h8,sb h9,sb Zf]
          cases h16:(↑(zad xs).length:Int)==0
          ·exact wk At.Ad (p_5++[sb h16]) kr
          ·exact wk At.Ad (p_5++[sg h16,sb Zf]) kr
        ·let p_6:List St:=p_1++[sb h7,sb h8,sb Zf]
         cases h17:(↑(zad xs).length:Int)==0
         ·exact wk At.Ad (p_6++[sb h17]) kr
         ·exact wk At.Ad (p_6++[sg h17,sb Zf]) kr
       ·cases h18:(↑(zad xs).length:Int)==3
        ·exact wk At.Ad (p_1++[sb h7,sb Zt,sb h18]) kr
        ·exact wk At.Ad (p_1++[sb h7,sb Zt,sg h18]) kr
      ·let p_7:List St:=[sb h1,sb h2,sb h3,sb h4,sb h5,sb h6]
       cases h19:decide (op < 1)
       ·cases h20:decide (13 < op)
        ·let p_8:List St:=p_7++[sg h19,sb h20,sb Zt]
         cases h21:(↑(zad xs).length:Int)==2
         ·exact wk At.Ad (p_8++[sb h21]) kr
         ·exact wk At.Ad (p_8++[sg h21]) kr
        ·exact wk At.Ad (p_7++[sg h19,sb h20]) kr
       ·exact wk At.Ad (p_7++[sb h19]) kr
     ·let p_9:List St:=[sb h1,sb h2,sb h3,sb h4,sb h5,sb Zt]
      cases h22:(↑(zad xs).length:Int)==1
      ·exact wk At.Ad (p_9++[sb h22]) kr
      ·exact wk At.Ad (p_9++[sg h22]) kr
    ·let p_10:List St:=[sb h1,sb h2,sb h3,sb h4,sb Zt]
     cases h23:(↑(zad xs).length:Int)==1
     ·exact wk At.Ad (p_10++[sb h23]) kr
     ·exact wk At.Ad (p_10++[sg h23]) kr
   ·let p_11:List St:=[sb h1,sb h2,sb h3,sb Zt]
    cases h24:(↑(zad xs).length:Int)==1
    ·exact wk At.Ad (p_11++[sb h24]) kr
    ·exact wk At.Ad (p_11++[sg h24]) kr
  ·cases h25:(↑(zad xs).length:Int)==0
   ·exact wk At.Ad [sb h1,sb h2,sb h25] kr
   ·exact wk At.Ad [sb h1,sb h2,sg h25] kr
 ·cases h26:(↑(zad xs).length:Int)==0
  ·exact wk At.Ad [sb h1,sb h26] kr
  ·exact wk At.Ad [sb h1,sg h26] kr
def zcI (e:X):Bool:=match e.sub with
 | []=>zfs e.kind e.op e.args
 | q::r=>zdX e.kind e.op e.args (q::r) q.star q.items q.wh
theorem zcQ (e:X):Pure S.Ad [e.av] (bv (zcI e)):=by
 cases e with
 | mk kind op nt val tn nm xs qs =>
  cases qs with
  | nil=>exact znP kind op xs nt val tn nm
  | cons q r=>cases q with
   | mk st it fm wh=>exact znQ kind op xs _ st it wh nt val tn nm fm rfl
def zb6 (e:X):Bool:=match e.sub with
 | []=>zeS e.kind e.op e.args
 | q::r=>zeT e.kind e.op e.args (q::r) q.items q.wh
theorem zbo (e:X):Pure S.Ac [e.av] (bv (zb6 e)):=by
 cases e with
 | mk kind op nt val tn nm xs qs =>
  cases qs with
  | nil=>exact zne kind op xs nt val tn nm
  | cons q r=>cases q with
   | mk st it fm wh=>exact znf kind op xs _ it wh nt val tn nm st fm rfl
theorem ztI (frs:List Fr) (q n:Str) (k:Nat) (f:Fr) (els:Int × Int × Bool):∀ (c:List Col) (j:Nat),(zcu frs q n k f els c j=els)\/(∃ (i:Nat) (x:Col),zcu frs q n k f els c j=(((k:Nat):Int),((j+i:Nat):Int),true)/\c[i]?=some x)
 | [],j=>.inl rfl
 | x::r,j=>by
  rcases ztI frs q n k f els r (j+1) with h|⟨i,y,h,hy⟩
  ·simp only [zcu,Bool.cond_eq_ite]
   split
   ·exact .inr ⟨0,x,rfl,rfl⟩
   ·exact .inl h
  ·simp only [zcu,Bool.cond_eq_ite]
   split
   ·exact .inr ⟨0,x,rfl,rfl⟩
   ·exact .inr ⟨i+1,y,by rw [h];congr 2;omega,hy⟩
theorem zvG (frs:List Fr) (q n:Str):∀ (k:Nat),k<=frs.length->(rres frs q n k).2.2=true->∃ (i j:Nat) (f:Fr) (c:Col),rres frs q n k=((i:Int),(j:Int),true)/\frs[i]?=some f/\f.cols[j]?=some c
 | 0,_,h=>by simp [rres] at h
 | k+1,hk,h=>by
  have ih:=zvG frs q n k Zo
  have hx:=zmK (l:=frs) (k:=k) zaP Zo
  have hi:=ztI frs q n k (frs.getD k zaP) (rres frs q n k) (frs.getD k zaP).cols 0
  simp only [rres,Bool.cond_eq_ite] at h ⊢
  have key:(zcu frs q n k (frs.getD k zaP) (rres frs q n k) (frs.getD k zaP).cols 0).2.2=true->∃ (i j:Nat) (f:Fr) (c:Col),zcu frs q n k (frs.getD k zaP) (rres frs q n k) (frs.getD k zaP).cols 0=((i:Int),(j:Int),true)/\frs[i]?=some f/\f.cols[j]?=some c:=by
   intro h
   rcases hi with e|⟨i,y,e,hy⟩
   ·rw [e] at h ⊢;exact ih h
   ·exact ⟨k,0+i,_,y,e,hx,by simpa using hy⟩
  revert h
  repeat' split
  all_goals first|exact ih|exact key
def cNull:Col:=⟨⟨#[]⟩,0,false,false⟩
def rFr (frs:List Fr) (q n:Str):Fr:=frs.getD (zaF frs q n).1.toNat zaP
def rCol (frs:List Fr) (q n:Str):Col:=(rFr frs q n).cols.getD (zaF frs q n).2.1.toNat cNull
theorem zi5 {frs:List Fr} {q n:Str} (h:(zaF frs q n).2.2=true):∃ (i j:Nat),zaF frs q n=((i:Int),(j:Int),true)/\frs[i]?=some (rFr frs q n)/\(rFr frs q n).cols[j]?=some (rCol frs q n):=by
 have h':=h
 unfold zaF at h'
 obtain ⟨i,j,f,c,e,hf,hc⟩:=zvG frs q n frs.length (Nat.le_refl _) h'
 have e':zaF frs q n=((i:Int),(j:Int),true):=e
 have e1:rFr frs q n=f:=by simp [rFr,e',List.getD_eq_getElem?_getD,hf]
 have e2:rCol frs q n=c:=by simp [rCol,e1,e',List.getD_eq_getElem?_getD,hc]
 exact ⟨i,j,e',by rw [e1];exact hf,by rw [e1,e2];exact hc⟩
theorem zsR (frs:List Fr) (q n:Str) (h:(zaF frs q n).2.2=true):ElAt (frs.map Fr.cells) (zaF frs q n).1 (rFr frs q n).cells 4:=by
 obtain ⟨i,j,e,h1,h2⟩:=zi5 h
 rw [show (zaF frs q n).1=(i:Int) by rw [e]]
 exact zae Fr.cells h1 rfl
structure FsOk (n:Nat) (frs:List Fr):Prop where
 len:frs.length+n<=1000000
 cols:∀ f∈frs,zac f.cols
 vals:∀ f∈frs,∀ v∈f.vals,v.small
structure TbOk (tb:List Tb):Prop where
 len:zac tb
 cols:∀ x∈tb,zac x.sch.cols
 rows:∀ x∈tb,x.rows.length<=1000
 vals:∀ x∈tb,∀ r∈x.rows,∀ v∈r.vals,v.small
theorem FsOk.short {n:Nat} {frs:List Fr} (h:FsOk n frs):zac frs:=by have:=h.len;simp only [zac];omega
theorem FsOk.wrap {n:Nat} {frs:List Fr} (h:FsOk n frs):IntKind.i64.wrap ((((frs.map Fr.cells).length:Nat):Int) - 1)=pm1 frs.length:=zAT _ _ h.short
theorem FsOk.less {n:Nat} {frs:List Fr} (h:FsOk (n+1) frs):FsOk n frs:=⟨by have:=h.len;omega,h.cols,h.vals⟩
theorem zaM {α:Type} {l:List α} (h:Few l):zac l:=by simp only [Few] at h;simp only [zac];omega
abbrev rIns (frs:List Fr) (tb:List Tb) (q:Qy):List Fr:=zat frs (zaG tb q.frm).1 []
theorem zma (tb:List Tb) (n:Str):∀ (l:List Tb) (i:Nat),(∀ x∈l,zac x.sch.cols)->zac (zfm tb n l i).1.cols
 | [],i,_=>by simp [zfm]
 | x::r,i,h=>by
  simp only [zfm,Bool.cond_eq_ite]
  split
  ·exact h x Zs
  ·exact zma tb n r _ (fun y hy=>h y (by simp [hy]))
theorem FsOk.ins {n:Nat} {frs:List Fr} (h:FsOk (n+1) frs) {tb:List Tb} (ht:TbOk tb) (q:Qy):FsOk n (rIns frs tb q):=by
 refine ⟨by have:=h.len;simp [zat];omega,fun f hf=>?_,fun f hf=>?_⟩
 ·simp only [zat,List.mem_append,List.mem_singleton] at hf
  rcases hf with hf|rfl
  ·exact h.cols f hf
  ·exact zma tb q.frm tb 0 ht.cols
 ·simp only [zat,List.mem_append,List.mem_singleton] at hf
  rcases hf with hf|rfl
  ·exact h.vals f hf
  ·intro v hv;cases hv
theorem zmV {p:Prop} (h:p:=by first|assumption|exact hh.1|exact hw2.1|exact (zf5 _).1|omega|exact (zjA _ _ _ ‹_› (zf5 _) Zo).2):p:=h
abbrev uv (n:Int):AV:=.v (.int .u64 n)
theorem zmr {T:TypeId->TI} {h:Heap} {β:List Con} {w:World} {S:Addr->Prop} {x:Value} {l:List AV} {vs:List Value} (hp:PW (RelV T h β w S) (.v x::l) vs):∃ r,vs=x::r/\PW (RelV T h β w S) l r:=by
 cases vs with
 | nil=>have:=hp.1;simp at this
 | cons y r =>
  have h1:=hp.2 0 _ _ rfl rfl
  exact ⟨r,by rw [h1.v_inv],hp.uncons.2⟩
def zb5 (a b c:Int):Int × Int:=((a+b+c) % 18446744073709551616,(a+b+c) / 18446744073709551616)
theorem zed (a b c:Int) (ha:0<=a) (hb:0<=b) (hc:0<=c/\c<=1):zab E0 S.Do [uv a,uv b,uv c] [] (.tup [uv (zb5 a b c).1,uv (zb5 a b c).2]) []:=by
 intro β S w vs r hp
 obtain ⟨v1,rfl,hp1⟩:=zmr hp
 obtain ⟨v2,rfl,hp2⟩:=zmr hp1
 obtain ⟨v3,rfl,hp3⟩:=zmr hp2
 have h0:v3=[]:=List.eq_nil_of_length_eq_zero (by have:=hp3.1;simpa using this.symm)
 subst h0
 refine .inr ⟨.tuple [.int .u64 (zb5 a b c).1,.int .u64 (zb5 a b c).2].toArray,w,?_,?_⟩
 ·have h1:=run_callFunc_extern (e:=add64Entry) At.Do kr kr kr kr #[.int .u64 a,.int .u64 b,.int .u64 c] w
  rw [run_add64 a b c ha hb hc.1 hc.2] at h1
  exact h1
 ·refine ⟨_,_,β,S,_,rfl,⟨rfl,rfl⟩,r,Ext.refl _ _ _ _,.tup _ _ rfl fun i x y hx hy=>?_⟩
  match i with
  | 0=>cases hx;cases hy;exact zbp _ _
  | 1=>cases hx;cases hy;exact zbp _ _
  | i+2=>cases hx
abbrev U64 (n:Int):Prop:=0<=n/\n < 18446744073709551616
theorem zfu (n:Int):IntKind.u64.wrap n=n % 18446744073709551616:=by simp [IntKind.wrap,IntKind.bits,IntKind.signed]
theorem zf5 (n:Int):U64 (IntKind.u64.wrap n):=by rw [zfu];simp only [U64];omega
theorem zjA (a b c:Int) (ha:U64 a) (hb:U64 b) (hc:0<=c/\c<=1):U64 (zb5 a b c).1/\0<=(zb5 a b c).2/\(zb5 a b c).2<=1:=by
 simp only [U64,zb5] at *;omega
noncomputable def L_sumL (l:List Int) (i:Nat) (high low:Int):Cfg:=zag B.C7 0 [(4,uv high),(5,uv low),(11,isl l),(12,iv ((l.map fun n=>[iv n]).length:Nat)),(13,iv (i:Nat))] []
def sumL (l:List Int):List (Int)->Nat->(Int)->(Int)->Int × Bool
 | [],i,high,low =>
  bif high != IntKind.u64.wrap ((IntKind.i64.wrap low).fdiv (2 ^ min (Int.toNat 63) IntKind.i64.bits)) then
   (0,false)
  else
   (IntKind.i64.wrap low,true)
 | x::r,i,high,low =>
  sumL l r (i+1) ((zb5 high (IntKind.u64.wrap (x.fdiv (2 ^ min (Int.toNat 63) IntKind.i64.bits))) (zb5 low (IntKind.u64.wrap x) 0).snd).fst) ((zb5 low (IntKind.u64.wrap x) 0).fst)
theorem zuW (l:List Int) (hl:zac l):∀ (kk i:Nat) (high low:Int),i+kk=(l).length->(U64 high)->(U64 low)->Good E0 B.C7 [] (L_sumL l i high low) (Shut 0 fun r h=>r=(.tup [iv (sumL l ((l).drop i) i high low).1,bv (sumL l ((l).drop i) i high low).2])/\h=[]):=by
 intro kk
 induction kk with
 | zero =>
  intro i high low hi hh hw2
  have h0:decide (((i:Nat):Int) < (((l.map fun n=>[iv n]).length:Nat):Int))=false:=by simp;omega
  have e0:(l).drop i=[]:=List.drop_of_length_le Zo
  rw [e0]
  simp only [sumL]
  refine zaa ?_
  let p_1:List St:=[sb h0,si (e:=IntKind.i64.wrap low) rfl,sx (.i ((IntKind.i64.wrap low).fdiv ((2:Int) ^ min (Int.toNat (63:Int)) IntKind.i64.bits))) (show (0:Int)<=(63:Int)/\((IntKind.i64.wrap low).fdiv ((2:Int) ^ min (Int.toNat (63:Int)) IntKind.i64.bits):Int)=(IntKind.i64.wrap low).fdiv ((2:Int) ^ min (Int.toNat (63:Int)) IntKind.i64.bits) from ⟨(by simp_all),rfl⟩),si (e:=IntKind.u64.wrap ((IntKind.i64.wrap low).fdiv (2 ^ min (Int.toNat 63) IntKind.i64.bits))) rfl]
  cases h1:high != IntKind.u64.wrap ((IntKind.i64.wrap low).fdiv (2 ^ min (Int.toNat 63) IntKind.i64.bits))
  ·exact wkr (p_1++[sb h1]) kr
  ·exact wkr (p_1++[sb h1]) kr
 | succ kk ih =>
  intro i high low hi hh hw2
  obtain ⟨x,hx⟩:=za4 (l:=l) (i:=i) Zo
  have h0:decide (((i:Nat):Int) < (((l.map fun n=>[iv n]).length:Nat):Int))=true:=by simp;omega
  have hw:=zaL i (by first|omega|(simp only [zac,Few] at *;omega))
  rw [zam hx]
  simp only [sumL]
  refine zaa ?_
  exact wkl [sb h0,se (zae (fun n=>[iv n]) hx rfl),si (e:=IntKind.u64.wrap x) rfl,sc (zed low (IntKind.u64.wrap x) 0 zmV zmV zmV),sx (.i (x.fdiv ((2:Int) ^ min (Int.toNat (63:Int)) IntKind.i64.bits))) (show (0:Int)<=(63:Int)/\(x.fdiv ((2:Int) ^ min (Int.toNat (63:Int)) IntKind.i64.bits):Int)=x.fdiv ((2:Int) ^ min (Int.toNat (63:Int)) IntKind.i64.bits) from ⟨(by simp_all),rfl⟩),si (e:=IntKind.u64.wrap (x.fdiv (2 ^ min (Int.toNat 63) IntKind.i64.bits))) rfl,sc (zed high (IntKind.u64.wrap (x.fdiv (2 ^ min (Int.toNat 63) IntKind.i64.bits))) ((zb5 low (IntKind.u64.wrap x) 0).snd) zmV zmV zmV),si hw] [4,5,11,12,13] 0 kr (ih (i+1) ((zb5 high (IntKind.u64.wrap (x.fdiv (2 ^ min (Int.toNat 63) IntKind.i64.bits))) (zb5 low (IntKind.u64.wrap x) 0).snd).fst) ((zb5 low (IntKind.u64.wrap x) 0).fst) Zo (by first|assumption|exact (zjA _ _ _ ‹_› (zf5 _) (by first|omega|exact (zjA _ _ _ ‹_› (zf5 _) Zo).2)).1) (by first|assumption|exact (zjA _ _ _ ‹_› (zf5 _) (by first|omega|exact (zjA _ _ _ ‹_› (zf5 _) Zo).2)).1))
def aSum (l:List Int):Int × Bool :=
 sumL l l 0 0 (0)
theorem zuE (l:List Int) (hl:zac l):zab E0 S.C7 [isl l] [] (.tup [iv (aSum l).1,bv (aSum l).2]) []:=by
 unfold aSum
 exact wkc At.C7 [] [4,5,11,12,13] 0 kr (by have ih:=zuW l hl l.length 0 0 0 Zs (by simp only [U64];omega) (by simp only [U64];omega);exact ih)
noncomputable def zAX (its:List V) (i:Nat) (l:List Int):Cfg:=zag B.CF 0 [(2,.p 0 0),(4,.own 1 l.length),(9,vsl its),(10,iv ((its.map V.cells).length:Nat)),(11,iv (i:Nat))] [.box [iv 0,iv 0,sv ⟨#[]⟩],.row Ty.int64 (l.map fun n=>[iv n]) false]
def zg5 (its:List V):List (V)->Nat->(List Int)->V × Int
 | [],i,l =>
  bif !(aSum l).snd then
   (V.mk 0 0 Zs0,6)
  else
   (V.mk 1 (aSum l).fst Zs0,0)
 | x::r,i,l =>
  zg5 its r (i+1) (l++[x.int])
theorem Zcv2 {p:Prop} (h:p:=by first|rfl|(simp;done)|(simp [X.cells,Qy.cells,V.cells,Col.cells,Rw.cells,Tb.cells,Fr.cells,Sch.cells,Tp.cells,Pl.cells,xCol,xLit,xBin,xNeg];done)):p:=h
theorem ztg (its:List V) (hl:zac its):∀ (kk i:Nat) (l:List Int),i+kk=(its).length->(l.length<=i)->Good E0 B.CF [] (zAX its i l) (Shut 0 fun r h=>r=(.tup [(zg5 its ((its).drop i) i l).1.av,iv (zg5 its ((its).drop i) i l).2])/\h=[]):=by
 intro kk
 induction kk with
 | zero =>
  intro i l hi ho
  have h0:decide (((i:Nat):Int) < (((its.map V.cells).length:Nat):Int))=false:=by simp;omega
  have e0:(its).drop i=[]:=List.drop_of_length_le Zo
  rw [e0]
  simp only [zg5]
  refine zaa ?_
  let p_1:List St:=[sb h0,skx (l.length=(List.map (fun n=>[iv n]) l).length/\True) [] (zuE l (by first|assumption|(simp only [zac] at *;omega)))]
  cases h1:!(aSum l).snd
  ·exact wkr (p_1++[sb h1,sc (zaZ ((aSum l).fst))]) kr
  ·exact wkr (p_1++[sb h1]) kr
 | succ kk ih =>
  intro i l hi ho
  obtain ⟨x,hx⟩:=za4 (l:=its) (i:=i) Zo
  have h0:decide (((i:Nat):Int) < (((its.map V.cells).length:Nat):Int))=true:=by simp;omega
  have hw:=zaL i (by first|omega|(simp only [zac,Few] at *;omega))
  rw [zam hx]
  simp only [zg5]
  refine zaa ?_
  exact wkl [sb h0,se (zae V.cells hx rfl),sqA (List.map (fun n=>[iv n]) l) [[iv x.int]] l.length 1 8,si hw] [2,4,9,10,11] 2 kr (zaw 4 1 (List.map (fun n=>[iv n]) l++[[iv x.int]]) (ih (i+1) (l++[x.int]) Zo (by first|assumption|(simp;done)|(simp;omega)|omega|(simp at *;omega))) (he:=Zcv2) (hm:=Zcv2))
def eSum (its:List V):V × Int :=
 zg5 its its 0 ([])
theorem zp6 (its:List V) (hl:zac its):zab E0 S.CF [vsl its] [] (.tup [(eSum its).1.av,iv (eSum its).2]) []:=by
 unfold eSum
 exact wkcN At.CF [] [2,4,9,10,11] 1 [(.ot 4 Ty.int64,2)] kr (by have ih:=ztg its hl its.length 0 ([]) Zs Zs;exact ih)
noncomputable def L_minL (l:List V) (i:Nat) (m:V):Cfg:=zag B.BJ 0 [(0,vsl l),(1,.fn S.Cb []),(4,.p 0 0),(5,.p 1 0),(6,iv (i:Nat))] [.box [iv 0,iv 0,sv ⟨#[]⟩],.box m.cells]
def minL (l:List V):List (V)->Nat->(V)->V
 | [],i,m =>
  m
 | x::r,i,m =>
  bif decide (cmpV x m < 0) then
   minL l r (i+1) (x)
  else
   minL l r (i+1) (m)
theorem zuL (l:List V) (hl:zac l):∀ (kk i:Nat) (m:V),i+kk=(l).length->Good E0 B.BJ [] (L_minL l i m) (Shut 0 fun r h=>r=((minL l ((l).drop i) i m).av)/\h=[]):=by
 intro kk
 induction kk with
 | zero =>
  intro i m hi
  have h0:decide (((i:Nat):Int) < (((l.map V.cells).length:Nat):Int))=false:=by simp;omega
  have e0:(l).drop i=[]:=List.drop_of_length_le Zo
  rw [e0]
  simp only [minL]
  refine zaa ?_
  exact wkr [sb h0] kr
 | succ kk ih =>
  intro i m hi
  obtain ⟨x,hx⟩:=za4 (l:=l) (i:=i) Zo
  have h0:decide (((i:Nat):Int) < (((l.map V.cells).length:Nat):Int))=true:=by simp;omega
  have hw:=zaL i (by first|omega|(simp only [zac,Few] at *;omega))
  rw [zam hx]
  simp only [minL]
  refine zaa ?_
  let p_1:List St:=[sb h0,sd [(3,[se (zae V.cells hx rfl)]),(6,[sc (zff x m)])]]
  cases h1:decide (cmpV x m < 0)
  ·exact wkl (p_1++[sb h1,si hw]) [0,1,4,5,6] 2 kr (ih (i+1) m Zo )
  ·exact wkl (p_1++[sb h1,se (zae V.cells hx rfl),si hw]) [0,1,4,5,6] 2 kr (ih (i+1) x Zo )
def minV (l:List V):V :=
 minL l (l.drop 1) 1 (l.headD V.null)
theorem zi0 (l:List V) (hl:zac l) (hy:l[0]?=some (l.headD V.null)) (hn:decide (((((l.map V.cells).length:Nat):Int)) < 1)=false):zab E0 S.BJ [vsl l,.fn S.Cb []] [] ((minV l).av) []:=by
 unfold minV
 exact wkc At.BJ [sb hn,se (zae V.cells hy rfl)] [0,1,4,5,6] 2 kr (by have hlt:=zbu hy;have ih:=zuL l hl (l.length - 1) 1 (l.headD V.null) Zo;exact ih)
noncomputable def L_maxL (l:List V) (i:Nat) (m:V):Cfg:=zag B.BK 0 [(0,vsl l),(1,.fn S.Cb []),(4,.p 0 0),(5,.p 1 0),(6,iv (i:Nat))] [.box [iv 0,iv 0,sv ⟨#[]⟩],.box m.cells]
def maxL (l:List V):List (V)->Nat->(V)->V
 | [],i,m =>
  m
 | x::r,i,m =>
  bif decide (0 < cmpV x m) then
   maxL l r (i+1) (x)
  else
   maxL l r (i+1) (m)
theorem zuK (l:List V) (hl:zac l):∀ (kk i:Nat) (m:V),i+kk=(l).length->Good E0 B.BK [] (L_maxL l i m) (Shut 0 fun r h=>r=((maxL l ((l).drop i) i m).av)/\h=[]):=by
 intro kk
 induction kk with
 | zero =>
  intro i m hi
  have h0:decide (((i:Nat):Int) < (((l.map V.cells).length:Nat):Int))=false:=by simp;omega
  have e0:(l).drop i=[]:=List.drop_of_length_le Zo
  rw [e0]
  simp only [maxL]
  refine zaa ?_
  exact wkr [sb h0] kr
 | succ kk ih =>
  intro i m hi
  obtain ⟨x,hx⟩:=za4 (l:=l) (i:=i) Zo
  have h0:decide (((i:Nat):Int) < (((l.map V.cells).length:Nat):Int))=true:=by simp;omega
  have hw:=zaL i (by first|omega|(simp only [zac,Few] at *;omega))
  rw [zam hx]
  simp only [maxL]
  refine zaa ?_
  let p_1:List St:=[sb h0,sd [(3,[se (zae V.cells hx rfl)]),(6,[sc (zff x m)])]]
  cases h1:decide (0 < cmpV x m)
  ·exact wkl (p_1++[sb h1,si hw]) [0,1,4,5,6] 2 kr (ih (i+1) m Zo )
  ·exact wkl (p_1++[sb h1,se (zae V.cells hx rfl),si hw]) [0,1,4,5,6] 2 kr (ih (i+1) x Zo )
def maxV (l:List V):V :=
 maxL l (l.drop 1) 1 (l.headD V.null)
theorem ziZ (l:List V) (hl:zac l) (hy:l[0]?=some (l.headD V.null)) (hn:decide (((((l.map V.cells).length:Nat):Int)) < 1)=false):zab E0 S.BK [vsl l,.fn S.Cb []] [] ((maxV l).av) []:=by
 unfold maxV
 exact wkc At.BK [sb hn,se (zae V.cells hy rfl)] [0,1,4,5,6] 2 kr (by have hlt:=zbu hy;have ih:=zuK l hl (l.length - 1) 1 (l.headD V.null) Zo;exact ih)
def zhI (f:X->V × Int) (x:X):Bool × Int :=
 bif (f x).snd==0 then
  bif !zbi (f x).fst then
   (false,5)
  else
   (zoL (f x).fst,(f x).snd)
 else
  (false,(f x).snd)
theorem zlQ (f:X->V × Int) (x:X) (r:List X) (frs:List Fr) (tb:List Tb) (hf:Pure S.Aj [x.av,fsl frs,tsl tb] (.tup [(f x).1.av,iv (f x).2])) (hs:(f x).1.small):zab E0 S.AD [xsl (x::r),fsl frs,tsl tb] [] (.tup [bv (zhI f x).1,iv (zhI f x).2]) []:=by
 unfold zhI
 let p_1:List St:=[sb Zf,se (zbt (l:=x::r) (i:=0) (x:=x) rfl),sc hf]
 cases h1:(f x).snd==0
 ·exact wk At.AD (p_1++[sb h1,sb h1]) kr
 ·let p_2:List St:=p_1++[sg h1,sc (zcP ((f x).fst) (by first|assumption|omega|(simp;done)|(simp;omega)))]
  cases h2:!zbi (f x).fst
  ·exact wk At.AD (p_2++[sb h2,sg h1,sc (zp9 ((f x).fst))]) kr
  ·exact wk At.AD (p_2++[sb h2,sb Zf]) kr
def zoF :Bool × Int :=
 (true,0)
theorem zlP  (frs:List Fr) (tb:List Tb):zab E0 S.AD [xsl [],fsl frs,tsl tb] [] (.tup [bv zoF.1,iv zoF.2]) []:=by
 exact wk At.AD [sb Zt] kr
noncomputable def clC (frs:List Fr):Cfg:=(upto (mk E0) (List.range 40) 0 3000 ⟨B.Bj.ntmps,[.code (B.Bj.body.getD .skip)],zb1 0 [fsl frs],[]⟩ []).2
theorem zBl (frs:List Fr) (hl:zac frs):Good E0 B.Bj [] (zcM (clC frs) false) (fun r h=>r=.own 0 frs.length/\h=[.row Ty.Frame (frs.map Fr.cells) false]):=by
 exact zdY E0ok mix0 3000 (y:=AV.own (0:Nat) (List.map Fr.cells frs).length) (H:=[Blk.row Ty.Frame (List.map Fr.cells frs) false]) [sb Zf,sq (show AllLen (List.map Fr.cells frs) (4:Nat)/\((List.map Fr.cells frs).length * (72:Nat)).le (140737488355328:Nat) by first|assumption|(simp;done)|(simp;omega)|omega|rfl|(refine ⟨⟨by simp⟩,?_⟩;first|(simp;done)|(simp;omega)|omega)|(refine ⟨⟨by simp⟩,?_,?_⟩ <;> first|(simp;done)|(simp;omega)|omega))] kr (⟨by first|rfl|(simp;done),rfl⟩)
theorem zBm:Good E0 B.Bj [] (zcM (clC []) true) (fun r h=>r=.nl/\h=[]):=by
 exact zdY E0ok mix0 3000 (y:=AV.nl) (H:=[]) [sb Zt] kr (⟨rfl,rfl⟩)
theorem zfe (frs:List Fr) (hl:zac frs):zab E0 S.Bj [fsl frs] [] (.own 0 frs.length) [.row Ty.Frame (frs.map Fr.cells) false]:=by
 refine za6 At.Bj rfl kr (Nat.le_of_ble_eq_true kr) (zc9 E0ok mix0 3000 [] (List.range 40) 0 (c':=clC frs) kr kr (zhL E0ok (xs:=frs.map Fr.cells) (e:=true) kr fun b hb=>?_))
 cases b with
 | false=>exact zBl frs hl
 | true =>
  cases frs with
  | nil=>exact zej Ty.Frame zBm ⟨rfl,rfl⟩
  | cons x r=>exact absurd (hb Zs) Zs
def zas (frs:List Fr) (t:Tb) (v:List V):(List Fr) :=
 frs++[Fr.mk t.sch.name false t.sch.cols v]
theorem zgV (frs:List Fr) (t:Tb) (v:List V) (hl:zac frs):zab E0 S.Dm [fsl frs,t.av,vsl v] [] (fsl (zas frs t v)) []:=by
 unfold zas
 exact (by (try simp only [zsl,xCol,xLit,xBin,xNeg]);exact wk At.Dm [sqx ((List.map Fr.cells frs++[[sv t.sch.name,bv false,ZC t.sch.cols,vsl v]]).length=(List.map Fr.cells frs++[[sv t.sch.name,bv false,ZC t.sch.cols,vsl v]]).length),sd [(1,[sc (zfe frs (by first|assumption|omega|(simp;done)|(simp;omega)))]),(11,[sqA (List.map Fr.cells frs) [[sv t.sch.name,bv false,ZC t.sch.cols,vsl v]] frs.length 4 72])]] kr)
theorem zxJ {p:Prop} (h:p:=by first|assumption|(simp;done)|(simp;omega)|omega|(simp at *;omega)):p:=h
abbrev AH (q:Qy) (tb:List Tb) (e:X) (n:Nat) (its:List V):Heap:=[.box [iv (n:Nat)],.box q.cells,.box [tsl tb],.box e.cells,.box [.own 5 its.length],.row Ty.Value (its.map V.cells) false]
noncomputable def L_aggI (f:X->V × Int) (q:Qy) (w:List Fr) (tb:List Tb) (e:X) (n:Nat) (its0:List V) (i:Nat) (its:List V):Cfg:=zag B.Ay 0 [(1,fsl w),(4,.p 2 0),(5,.p 3 0),(6,.p 4 0),(17,xsl q.items),(18,iv ((zad q.items).length:Nat)),(19,iv (i:Nat))] (AH q tb e (n+1) its)
def aggI (f:X->V × Int) (q:Qy) (w:List Fr) (tb:List Tb) (e:X) (n:Nat) (its0:List V):List (X)->Nat->(List V)->Int × (List V)
 | [],i,its =>
  (0,its)
 | x::r,i,its =>
  bif (f x).snd != 0 then
   ((f x).snd,its)
  else
   bif (f x).fst.kind==0 then
    aggI f q w tb e n its0 r (i+1) (its)
   else
    bif e.kind==10 then
     bif (f x).fst.kind != 1 then
      (5,its)
     else
      aggI f q w tb e n its0 r (i+1) (its++[(f x).fst])
    else
     aggI f q w tb e n its0 r (i+1) (its++[(f x).fst])
theorem zuD (f:X->V × Int) (q:Qy) (w:List Fr) (tb:List Tb) (e:X) (n:Nat) (its0:List V) (hl:q.items.length<=1000) (hi0:its0.length<=2000000) (hf:∀ x∈q.items,Pure S.Aj [x.av,fsl w,tsl tb] (.tup [(f x).1.av,iv (f x).2])):∀ (kk i:Nat) (its:List V),i+kk=(q.items).length->(its.length<=its0.length+i)->Good E0 B.Ay (AH q tb e n its0) (L_aggI f q w tb e n its0 i its) (Shut 6 fun r h=>r=(iv (aggI f q w tb e n its0 ((q.items).drop i) i its).1)/\h=(AH q tb e (n+1) (aggI f q w tb e n its0 ((q.items).drop i) i its).2)):=by
 intro kk
 induction kk with
 | zero =>
  intro i its hi ho
  have h0:decide (((i:Nat):Int) < (((zad q.items).length:Nat):Int))=false:=by simp;omega
  have e0:(q.items).drop i=[]:=List.drop_of_length_le Zo
  rw [e0]
  simp only [aggI]
  refine zaa ?_
  exact wkr [sb h0] kr
 | succ kk ih =>
  intro i its hi ho
  obtain ⟨x,hx⟩:=za4 (l:=q.items) (i:=i) Zo
  have h0:decide (((i:Nat):Int) < (((zad q.items).length:Nat):Int))=true:=by simp;omega
  have hw:=zaL i (by first|omega|(simp only [zac,Few] at *;omega))
  have hfx:=hf x (List.mem_of_getElem? hx)
  rw [zam hx]
  simp only [aggI]
  refine zaa ?_
  cases h1:(f x).snd != 0
  ·let p_1:List St:=[sb h0,se (zbt hx),sc hfx,sb h1,sc (zbD ((f x).fst))]
   cases h2:(f x).fst.kind==0
   ·cases h3:e.kind==10
    ·exact wkl (p_1++[sb h2,sb h3,sqA (List.map V.cells its) [[iv (f x).fst.kind,iv (f x).fst.int,sv (f x).fst.text]] its.length 3 32,si hw]) [1,4,5,6,17,18,19] 6 kr (zaA rfl (show ([Blk.box [iv (↑(n+1):Int)],Blk.box q.cells,Blk.box [tsl tb],Blk.box e.cells,Blk.box [AV.own 5 (List.map V.cells its++[[iv (f x).fst.kind,iv (f x).fst.int,sv (f x).fst.text]]).length],Blk.row Ty.Value (List.map V.cells its++[[iv (f x).fst.kind,iv (f x).fst.int,sv (f x).fst.text]]) false]:Heap)=_ from Zcv2) (ih (i+1) (its++[(f x).fst]) Zo zxJ))
    ·cases h4:(f x).fst.kind != 1
     ·exact wkl (p_1++[sb h2,sg h3,sb h4,sqA (List.map V.cells its) [[iv (f x).fst.kind,iv (f x).fst.int,sv (f x).fst.text]] its.length 3 32,si hw]) [1,4,5,6,17,18,19] 6 kr (zaA rfl (show ([Blk.box [iv (↑(n+1):Int)],Blk.box q.cells,Blk.box [tsl tb],Blk.box e.cells,Blk.box [AV.own 5 (List.map V.cells its++[[iv (f x).fst.kind,iv (f x).fst.int,sv (f x).fst.text]]).length],Blk.row Ty.Value (List.map V.cells its++[[iv (f x).fst.kind,iv (f x).fst.int,sv (f x).fst.text]]) false]:Heap)=_ from Zcv2) (ih (i+1) (its++[(f x).fst]) Zo zxJ))
     ·exact wkr (p_1++[sb h2,sg h3,sb h4]) kr
   ·exact wkl (p_1++[sb h2,si hw]) [1,4,5,6,17,18,19] 6 kr (ih (i+1) its Zo zxJ)
  ·exact wkr [sb h0,se (zbt hx),sc hfx,sb h1] kr
def aggC (f:X->V × Int) (q:Qy) (w:List Fr) (tb:List Tb) (e:X) (n:Nat) (its:List V):Int × (List V) :=
 aggI f q w tb e n its q.items 0 (its)
theorem zil (f:X->V × Int) (q:Qy) (w:List Fr) (tb:List Tb) (e:X) (n:Nat) (its:List V) (rw:Rw) (hl:q.items.length<=1000) (hi0:its.length<=2000000) (hwn:IntKind.i64.wrap (((n:Nat):Int)+1)=((n+1:Nat):Int)) (hf:∀ x∈q.items,Pure S.Aj [x.av,fsl w,tsl tb] (.tup [(f x).1.av,iv (f x).2])):zab E0 S.Ay [.agg (Rw.cells rw),fsl w,.p 0 0,.p 1 0,.p 2 0,.p 3 0,.p 4 0] (AH q tb e n its) (iv (aggC f q w tb e n its).1) (AH q tb e (n+1) (aggC f q w tb e n its).2):=by
 unfold aggC
 exact wkc At.Ay [si hwn] [1,4,5,6,17,18,19] 6 kr (by have ih:=zuD f q w tb e n its hl hi0 hf q.items.length 0 its Zs Zs;exact ih)
theorem zjX {p:Prop} (h:p:=by first|omega|(have:=hgl x its;omega)):p:=h
noncomputable def L_selA (tr:Rw->Bool × Int) (g:Rw->List V->Int × List V) (q:Qy) (frs:List Fr) (tb:List Tb) (e:X) (t:Tb) (n0:Nat) (its0:List V) (i:Nat) (n:Nat) (its:List V):Cfg:=zag B.Av 0 [(1,fsl frs),(2,tsl tb),(3,.fn S.Ay [.p 0 0,.p 1 0,.p 2 0,.p 3 0,.p 4 0]),(4,.p 6 0),(9,.p 7 0),(26,.sl (t.rows.map Rw.cells)),(27,iv ((t.rows.map Rw.cells).length:Nat)),(28,iv (i:Nat))] (AH q tb e n its++[.box q.cells,.box t.cells])
def selA (tr:Rw->Bool × Int) (g:Rw->List V->Int × List V) (q:Qy) (frs:List Fr) (tb:List Tb) (e:X) (t:Tb) (n0:Nat) (its0:List V):List (Rw)->Nat->(Nat)->(List V)->Int × Nat × (List V)
 | [],i,n,its =>
  (0,n,its)
 | x::r,i,n,its =>
  bif (tr x).snd==0 then
   bif (tr x).fst then
    bif (g x its).fst != 0 then
     ((g x its).fst,n+1,(g x its).snd)
    else
     selA tr g q frs tb e t n0 its0 r (i+1) (n+1) ((g x its).snd)
   else
    bif (tr x).snd != 0 then
     ((tr x).snd,n,its)
    else
     selA tr g q frs tb e t n0 its0 r (i+1) n (its)
  else
   bif (tr x).snd != 0 then
    ((tr x).snd,n,its)
   else
    selA tr g q frs tb e t n0 its0 r (i+1) n (its)
theorem zuS (tr:Rw->Bool × Int) (g:Rw->List V->Int × List V) (q:Qy) (frs:List Fr) (tb:List Tb) (e:X) (t:Tb) (n0:Nat) (its0:List V) (hfr:zac frs) (hrows:t.rows.length<=1000) (hn0:n0<=1000) (hi0:its0.length<=1000) (hgl:∀ (r:Rw) (its:List V),(g r its).2.length<=its.length+1000) (hT:∀ r∈t.rows,Pure S.AD [xsl q.wh,fsl (zas frs t r.vals),tsl tb] (.tup [bv (tr r).1,iv (tr r).2])) (hC:∀ r∈t.rows,∀ (n:Nat) (its:List V),n<=1000000->its.length<=2000000->zab E0 S.Ay [.agg (Rw.cells r),fsl (zas frs t r.vals),.p 0 0,.p 1 0,.p 2 0,.p 3 0,.p 4 0] (AH q tb e n its) (iv (g r its).1) (AH q tb e (n+1) (g r its).2)):∀ (kk i:Nat) (n:Nat) (its:List V),i+kk=(t.rows).length->(n<=n0+i)->(its.length<=its0.length+1000 * i)->Good E0 B.Av (AH q tb e n0 its0) (L_selA tr g q frs tb e t n0 its0 i n its) (Shut 6 fun r h=>r=(iv (selA tr g q frs tb e t n0 its0 ((t.rows).drop i) i n its).1)/\h=(AH q tb e (selA tr g q frs tb e t n0 its0 ((t.rows).drop i) i n its).2.1 (selA tr g q frs tb e t n0 its0 ((t.rows).drop i) i n its).2.2)):=by
 intro kk
 induction kk with
 | zero =>
  intro i n its hi hn hi2
  have h0:decide (((i:Nat):Int) < (((t.rows.map Rw.cells).length:Nat):Int))=false:=by simp;omega
  have e0:(t.rows).drop i=[]:=List.drop_of_length_le Zo
  rw [e0]
  simp only [selA]
  refine zaa ?_
  exact wkr [sb h0] kr
 | succ kk ih =>
  intro i n its hi hn hi2
  obtain ⟨x,hx⟩:=za4 (l:=t.rows) (i:=i) Zo
  have h0:decide (((i:Nat):Int) < (((t.rows.map Rw.cells).length:Nat):Int))=true:=by simp;omega
  have hw:=zaL i (by first|omega|(simp only [zac,Few] at *;omega))
  have hTx:=hT x (List.mem_of_getElem? hx);have hCx:=hC x (List.mem_of_getElem? hx) n its Zo Zo
  rw [zam hx]
  simp only [selA]
  refine zaa ?_
  let p_1:List St:=[sb h0,se (zae Rw.cells hx rfl),sc (zgV frs t x.vals (by first|assumption|omega|(simp;done)|(simp;omega))),sc hTx]
  cases h1:(tr x).snd==0
  ·cases h2:(tr x).snd != 0
   ·exact wkl (p_1++[sb h1,sb h2,si hw]) [1,2,3,4,9,26,27,28] 8 kr (ih (i+1) n its Zo zjX zjX)
   ·exact wkr (p_1++[sb h1,sb h2]) kr
  ·cases h3:(tr x).fst
   ·cases h4:(tr x).snd != 0
    ·exact wkl (p_1++[sg h1,sb h3,sb h4,si hw]) [1,2,3,4,9,26,27,28] 8 kr (ih (i+1) n its Zo zjX zjX)
    ·exact wkr (p_1++[sg h1,sb h3,sb h4]) kr
   ·let p_2:List St:=p_1++[sg h1,sb h3,sl [0,1,2,3,4,5] hCx]
    cases h5:(g x its).fst != 0
    ·exact wkl (p_2++[sb h5,si hw]) [1,2,3,4,9,26,27,28] 8 kr (ih (i+1) (n+1) ((g x its).snd) Zo zjX zjX)
    ·exact wkr (p_2++[sb h5]) kr
theorem zh6 {p:Prop} (h:p:=by first|assumption|exact head0 ‹_›|exact len1 ‹_›):p:=h
def zoE (tr:Rw->Bool × Int) (g:Rw->List V->Int × List V) (q:Qy) (frs:List Fr) (tb:List Tb) (e:X) (t:Tb) (n0:Nat) (its0:List V):Int × Nat × (List V) :=
 selA tr g q frs tb e t n0 its0 t.rows 0 n0 (its0)
theorem ziW (tr:Rw->Bool × Int) (g:Rw->List V->Int × List V) (q:Qy) (frs:List Fr) (tb:List Tb) (e:X) (t:Tb) (n0:Nat) (its0:List V) (hfind:Pure S.BO [tsl tb,sv q.frm] (.tup [t.av,bv true])) (hfr:zac frs) (hrows:t.rows.length<=1000) (hn0:n0<=1000) (hi0:its0.length<=1000) (hgl:∀ (r:Rw) (its:List V),(g r its).2.length<=its.length+1000) (hT:∀ r∈t.rows,Pure S.AD [xsl q.wh,fsl (zas frs t r.vals),tsl tb] (.tup [bv (tr r).1,iv (tr r).2])) (hC:∀ r∈t.rows,∀ (n:Nat) (its:List V),n<=1000000->its.length<=2000000->zab E0 S.Ay [.agg (Rw.cells r),fsl (zas frs t r.vals),.p 0 0,.p 1 0,.p 2 0,.p 3 0,.p 4 0] (AH q tb e n its) (iv (g r its).1) (AH q tb e (n+1) (g r its).2)):zab E0 S.Av [q.av,fsl frs,tsl tb,.fn S.Ay [.p 0 0,.p 1 0,.p 2 0,.p 3 0,.p 4 0]] (AH q tb e n0 its0) (iv (zoE tr g q frs tb e t n0 its0).1) (AH q tb e (zoE tr g q frs tb e t n0 its0).2.1 (zoE tr g q frs tb e t n0 its0).2.2):=by
 unfold zoE
 exact wkc At.Av [sc hfind,sb Zf] [1,2,3,4,9,26,27,28] 8 kr (zuS tr g q frs tb e t n0 its0 hfr hrows hn0 hi0 hgl hT hC t.rows.length 0 n0 its0 Zs Zs Zs)
def zw3 (q:Qy) (frs:List Fr) (tb:List Tb) (e:X) (n0:Nat) (its0:List V):Int × Nat × (List V) :=
 (3,n0,its0)
theorem ziV (q:Qy) (frs:List Fr) (tb:List Tb) (e:X) (n0:Nat) (its0:List V) (hfind:Pure S.BO [tsl tb,sv q.frm] (.tup [Tb.zero.av,bv false])):zab E0 S.Av [q.av,fsl frs,tsl tb,.fn S.Ay [.p 0 0,.p 1 0,.p 2 0,.p 3 0,.p 4 0]] (AH q tb e n0 its0) (iv (zw3 q frs tb e n0 its0).1) (AH q tb e (zw3 q frs tb e n0 its0).2.1 (zw3 q frs tb e n0 its0).2.2):=by
 exact wk At.Av [sc hfind,sb Zt] kr
noncomputable def zhu (e:X) (q:Qy) (frs:List Fr) (tb:List Tb):Cfg:=(upto (mk E0) (List.range 100) 6 3000 ⟨B.AZ.ntmps,[.code (B.AZ.body.getD .skip)],zb1 0 [e.av,fsl frs,tsl tb],[]⟩ [.el q.cells]).2
noncomputable def aggCfg (e:X) (q:Qy) (frs:List Fr) (tb:List Tb):Cfg:=cut (List.range 100) 7 ⟨(zhu e q frs tb).n,(zhu e q frs tb).todo,(zhu e q frs tb).ts,((zhu e q frs tb).h++[Blk.row Ty.Value [] false]).set 5 (.box (([AV.nl]:List AV).set 0 (.own (zhu e q frs tb).h.length 0)))⟩
theorem agg_to {e:X} {q:Qy} {frs:List Fr} {tb:List Tb} {R:AV->Heap->Prop} (hq:e.sub[0]?=some q) (hg:Good E0 B.AZ [] (aggCfg e q frs tb) (Shut 0 R)):zbG E0 S.AZ [e.av,fsl frs,tsl tb] [] R :=
 wkc (c':=zhu e q frs tb) At.AZ [se (zaB hq)] (List.range 100) 6 kr
  (zcL (cs:=[AV.nl]) 5 0 Ty.Value (List.range 100) 7 kr kr kr rfl hg)
theorem head0 {l:List V} (h:(((l.length:Nat):Int)==0)=false):l[0]?=some (l.headD V.null):=by
 cases l with
 | nil=>simp at h
 | cons x r=>rfl
theorem len1 {l:List V} (h:(((l.length:Nat):Int)==0)=false):decide ((((l.map V.cells).length:Nat):Int) < 1)=false:=by
 cases l with
 | nil=>simp at h
 | cons x r=>simp;omega
def eAgg (sel:Int × Nat × List V) (e:X):V × Int :=
 bif sel.1 != 0 then (V.null,sel.1)
 else bif e.kind==8 then (⟨2,if decide (0 < ((sel.2.1:Nat):Int)) then 1 else 0,⟨#[]⟩⟩,0)
 else bif e.kind==9 then (⟨1,(sel.2.1:Nat),⟨#[]⟩⟩,0)
 else bif ((sel.2.2.length:Nat):Int)==0 then (V.null,0)
 else bif e.kind==10 then eSum sel.2.2
 else bif e.kind==11 then (minV sel.2.2,0)
 else (maxV sel.2.2,0)
theorem c_agg (sel:Int × Nat × List V) (e:X) (q:Qy) (frs:List Fr) (tb:List Tb) (hq:e.sub[0]?=some q) (hlen:zac sel.2.2) (hsel:zab E0 S.Av [q.av,fsl frs,tsl tb,.fn S.Ay [.p 0 0,.p 1 0,.p 2 0,.p 3 0,.p 4 0]] (AH q tb e 0 []) (iv sel.1) (AH q tb e sel.2.1 sel.2.2)):zab E0 S.AZ [e.av,fsl frs,tsl tb] [] (.tup [(eAgg sel e).1.av,iv (eAgg sel e).2]) []:=by
 refine agg_to hq ?_
 unfold eAgg
 cases h1:sel.fst != 0
 ·let p_1:List St:=[sl [4,3,1,0,5,6] hsel,sb h1]
  cases h2:e.kind==8
  ·cases h3:e.kind==9
   ·let p_2:List St:=p_1++[sb h2,sb h3,sqx (sel.snd.snd.length=(List.map V.cells sel.snd.snd).length)]
    cases h4:(sel.snd.snd.length:Int)==0
    ·cases h5:e.kind==10
     ·cases h6:e.kind==11
      ·exact wkr (p_2++[sb h4,sb h5,sb h6,skx (sel.snd.snd.length=(List.map V.cells sel.snd.snd).length/\True/\True) [] (ziZ sel.snd.snd zh6 zh6 zh6)]) kr
      ·exact wkr (p_2++[sb h4,sb h5,sb h6,skx (sel.snd.snd.length=(List.map V.cells sel.snd.snd).length/\True/\True) [] (zi0 sel.snd.snd zh6 zh6 zh6)]) kr
     ·exact wkr (p_2++[sb h4,sb h5,skx (sel.snd.snd.length=(List.map V.cells sel.snd.snd).length/\True) [] (zp6 sel.snd.snd zh6)]) kr
    ·exact wkr (p_2++[sb h4]) kr
   ·exact wkr (p_1++[sb h2,sb h3,sc (zaZ ((sel.snd.fst:Int)))]) kr
  ·exact wkr (p_1++[sb h2,sc (zcy (decide (0 < (sel.snd.fst:Int))))]) kr
 ·exact wkr [sl [4,3,1,0,5,6] hsel,sb h1] kr
theorem zbj {p:Prop} (h:p:=by first|assumption|exact hfo.short|exact hfo.cols|exact hfo.wrap|exact zB3 ‹_›|exact zso ‹_›|(simp_all;done)|(simp at *;omega)):p:=h
theorem zkF (frs:List Fr) (q n:Str) (k:Nat) (f:Fr) (els:Int × Int × Bool):∀ (c:List Col) (j:Nat),zcu frs q n k f els c j=bif decide (0<=idxF (fun c=>colC c n) c j) then (pm1 (k+1),idxF (fun c=>colC c n) c j,true) else els
 | [],j=>by simp [zcu,idxF]
 | x::r,j=>by
  rcases Bool.eq_false_or_eq_true (x.name.toList==n.toList) with h|h
  ·simp [zcu,idxF,colC,h]
  ·have ih:=zkF frs q n k f els r (j+1)
   simp only [colC] at ih
   simp only [zcu,idxF,colC,h,cond_false]
   exact ih
theorem zvP (frs:List Fr) (q n:Str):∀ k,sres frs q n k=rres frs q n k
 | 0=>rfl
 | k+1=>by simp only [sres,rres,zkF,zvP frs q n k]
theorem zi6 (frs:List Fr) (q n:Str):zbW frs q n=zaF frs q n:=zvP frs q n _
theorem zsS (frs:List Fr) (q n:Str) (h:(!(zbW frs q n).2.2)=false):ElAt (frs.map Fr.cells) (zbW frs q n).1 (rFr frs q n).cells 4:=by
 rw [zi6] at h ⊢;exact zsR frs q n (by simpa using h)
theorem zB3 {frs:List Fr} {q n:Str} (h:(!(zbW frs q n).2.2)=false):decide ((zbW frs q n).2.1 < 0)=false:=by
 rw [zi6] at h ⊢
 obtain ⟨i,j,e,_⟩:=zi5 (by simpa using h:(zaF frs q n).2.2=true)
 rw [e];simp
theorem zso {l:List V} {k:Int} (h:decide ((((l.map V.cells).length:Nat):Int)<=k)=false):k < l.length:=by simp at h;omega
noncomputable def zrA (f:X->V × Int) (op:List V->V × Int) (e:X) (frs:List Fr) (tb:List Tb) (i:Nat) (out:List V):Cfg:=zag B.Aj 0 [(1,fsl frs),(2,tsl tb),(3,.p 0 0),(6,.p 1 0),(11,.own 2 out.length),(73,xsl e.args),(74,iv ((zad e.args).length:Nat)),(75,iv (i:Nat))] [.box e.cells,.box [iv 0,iv 0,sv ⟨#[]⟩],.row Ty.Value (out.map V.cells) false]
def evL (f:X->V × Int) (op:List V->V × Int) (e:X) (frs:List Fr) (tb:List Tb):List (X)->Nat->(List V)->V × Int
 | [],i,out =>
  ((op out).fst,(op out).snd)
 | x::r,i,out =>
  bif (f x).snd != 0 then
   (V.mk 0 0 Zs0,(f x).snd)
  else
   evL f op e frs tb r (i+1) (out++[(f x).fst])
theorem zxm (f:X->V × Int) (op:List V->V × Int) (e:X) (frs:List Fr) (tb:List Tb) (hl:Few e.args) (hf:∀ x∈e.args,Pure S.Aj [x.av,fsl frs,tsl tb] (.tup [(f x).1.av,iv (f x).2])) (hfg:∀ x∈e.args,(f x).1.Good) (hop:∀ l:List V,l.length=e.args.length->(∀ v∈l,v.Good)->Pure S.At [e.av,vsl l] (.tup [(op l).1.av,iv (op l).2])):∀ (kk i:Nat) (out:List V),i+kk=(e.args).length->(out.length=i)->(∀ v∈out,v.Good)->Good E0 B.Aj [] (zrA f op e frs tb i out) (Shut 0 fun r h=>r=(.tup [(evL f op e frs tb ((e.args).drop i) i out).1.av,iv (evL f op e frs tb ((e.args).drop i) i out).2])/\h=[]):=by
 intro kk
 induction kk with
 | zero =>
  intro i out hi ho hg
  have h0:decide (((i:Nat):Int) < (((zad e.args).length:Nat):Int))=false:=by simp;omega
  have e0:(e.args).drop i=[]:=List.drop_of_length_le Zo
  rw [e0]
  simp only [evL]
  refine zaa ?_
  exact wkr [sb h0,skx ((True/\True/\True/\True/\True/\True/\True/\True/\True/\True/\True)/\out.length=(List.map V.cells out).length/\True) [] (hop out Zb Zb)] kr
 | succ kk ih =>
  intro i out hi ho hg
  obtain ⟨x,hx⟩:=za4 (l:=e.args) (i:=i) Zo
  have h0:decide (((i:Nat):Int) < (((zad e.args).length:Nat):Int))=true:=by simp;omega
  have hw:=zaL i (by first|omega|(simp only [zac,Few] at *;omega))
  have hfx:=hf x (List.mem_of_getElem? hx);have hgx:=hfg x (List.mem_of_getElem? hx);have hlen:out.length<=1000:=by have:=zbu hx;simp only [Few] at hl;omega
  rw [zam hx]
  simp only [evL]
  refine zaa ?_
  cases h1:(f x).snd != 0
  ·exact wkl [sb h0,se (zbt hx),sc hfx,sb h1,sqA (List.map V.cells out) [[iv (f x).fst.kind,iv (f x).fst.int,sv (f x).fst.text]] out.length 3 32,si hw] [1,2,3,6,11,73,74,75] 3 kr (zaw 11 2 (List.map V.cells out++[[iv (f x).fst.kind,iv (f x).fst.int,sv (f x).fst.text]]) (ih (i+1) (out++[(f x).fst]) Zo (by first|assumption|(simp;omega)|exact fun v hv=>(List.mem_append.1 hv).elim (hg v) fun h=>by simp only [List.mem_singleton] at h;exact h ▸ hgx) (by first|assumption|(simp;omega)|exact fun v hv=>(List.mem_append.1 hv).elim (hg v) fun h=>by simp only [List.mem_singleton] at h;exact h ▸ hgx)) (he:=Zcv2) (hm:=Zcv2))
  ·exact wkr [sb h0,se (zbt hx),sc hfx,sb h1] kr
structure OpKind (e:X):Prop where
 fok:zb6 e=true
 k1:e.kind≠1
 k2:e.kind≠2
 k8:¬(8<=e.kind/\e.kind<=12)
def valF (f:X->V × Int) (op:List V->V × Int) (agg:V × Int) (e:X) (frs:List Fr) (tb:List Tb):V × Int :=
 bif !zb6 e then
  (V.mk 0 0 Zs0,17)
 else
  bif e.kind==1 then
   (e.val,0)
  else
   bif e.kind==2 then
    bif !(zbW frs e.table e.name).snd.snd then
     (V.mk 0 0 Zs0,3)
    else
     bif decide ((↑(List.map V.cells (rFr frs e.table e.name).vals).length:Int)<=(zbW frs e.table e.name).snd.fst) then
      (V.mk 0 0 Zs0,17)
     else
      (zao (rFr frs e.table e.name).vals (zbW frs e.table e.name).snd.fst,0)
   else
    bif e.kind==8 then
     (agg.fst,agg.snd)
    else
     bif e.kind==9 then
      (agg.fst,agg.snd)
     else
      bif e.kind==10 then
       (agg.fst,agg.snd)
      else
       bif e.kind==11 then
        (agg.fst,agg.snd)
       else
        bif e.kind==12 then
         (agg.fst,agg.snd)
        else
         evL f op e frs tb e.args 0 ([])
theorem zlg (f:X->V × Int) (op:List V->V × Int) (agg:V × Int) (e:X) (frs:List Fr) (tb:List Tb) (n:Nat) (hfo:FsOk n frs) (hl:Few e.args) (hf:∀ x∈e.args,Pure S.Aj [x.av,fsl frs,tsl tb] (.tup [(f x).1.av,iv (f x).2])) (hfg:∀ x∈e.args,(f x).1.Good) (hop:OpKind e->∀ l:List V,l.length=e.args.length->(∀ v∈l,v.Good)->Pure S.At [e.av,vsl l] (.tup [(op l).1.av,iv (op l).2])) (hagg:zb6 e=true->8<=e.kind->e.kind<=12->Pure S.AZ [e.av,fsl frs,tsl tb] (.tup [agg.1.av,iv agg.2])):zab E0 S.Aj [e.av,fsl frs,tsl tb] [] (.tup [(valF f op agg e frs tb).1.av,iv (valF f op agg e frs tb).2]) []:=by
 unfold valF
 cases h1:!zb6 e
 ·cases h2:e.kind==1
  ·cases h3:e.kind==2
   ·cases h4:e.kind==8
    ·cases h5:e.kind==9
     ·cases h6:e.kind==10
      ·cases h7:e.kind==11
       ·cases h8:e.kind==12
        ·exact wkc At.Aj (c':=(Cfg.mk (zrA f op e frs tb 0 []).n (zrA f op e frs tb 0 []).todo [(1,fsl frs),(2,tsl tb),(3,AV.p 0 0),(6,AV.p 1 0),(11,AV.nl),(73,AV.sl (zad e.args)),(74,iv (↑(zad e.args).length:Int)),(75,iv 0)] [Blk.box e.cells,Blk.box [iv 0,iv 0,sv Zs0]])) [sc (zbo e),sb h1,sb h2,sb h3,sb h4,sb h5,sb h6,sb h7,sb h8] [1,2,3,6,11,73,74,75] 2 kr (znn (c':=zrA f op e frs tb 0 []) 11 Ty.Value [1,2,3,6,11,73,74,75] 3 kr kr kr (zxm f op e frs tb hl hf hfg (hop ⟨by simpa using h1,by simpa using h2,by simpa using h3,by simp at *;omega⟩) e.args.length 0 ([]) Zs Zs Zs))
        ·exact wk At.Aj [sc (zbo e),sb h1,sb h2,sb h3,sb h4,sb h5,sb h6,sb h7,sb h8,sc (hagg zbj zbj zbj)] kr
       ·exact wk At.Aj [sc (zbo e),sb h1,sb h2,sb h3,sb h4,sb h5,sb h6,sb h7,sc (hagg zbj zbj zbj)] kr
      ·exact wk At.Aj [sc (zbo e),sb h1,sb h2,sb h3,sb h4,sb h5,sb h6,sc (hagg zbj zbj zbj)] kr
     ·exact wk At.Aj [sc (zbo e),sb h1,sb h2,sb h3,sb h4,sb h5,sc (hagg zbj zbj zbj)] kr
    ·exact wk At.Aj [sc (zbo e),sb h1,sb h2,sb h3,sb h4,sc (hagg zbj zbj zbj)] kr
   ·cases h9:!(zbW frs e.table e.name).snd.snd
    ·cases h10:decide ((↑(List.map V.cells (rFr frs e.table e.name).vals).length:Int)<=(zbW frs e.table e.name).snd.fst)
     ·exact wk At.Aj [sc (zbo e),sb h1,sb h2,sb h3,sc (zfd frs e.table e.name zbj zbj zbj),sb h9,se (zsS frs e.table e.name zbj),sb h10,se (zsS frs e.table e.name zbj),se (zcB ((rFr frs e.table e.name).vals) ((zbW frs e.table e.name).snd.fst) zbj zbj)] kr
     ·exact wk At.Aj [sc (zbo e),sb h1,sb h2,sb h3,sc (zfd frs e.table e.name zbj zbj zbj),sb h9,se (zsS frs e.table e.name zbj),sb h10] kr
    ·exact wk At.Aj [sc (zbo e),sb h1,sb h2,sb h3,sc (zfd frs e.table e.name zbj zbj zbj),sb h9] kr
  ·exact wk At.Aj [sc (zbo e),sb h1,sb h2] kr
 ·exact wk At.Aj [sc (zbo e),sb h1] kr
theorem zdq {k o:Int} {xs:List X} (h:zeS k o xs=true):((k=1\/k=2)/\xs.length=0)\/((k=3\/k=4\/k=6)/\xs.length=1)\/(k=5/\xs.length=2/\1<=o/\o<=13)\/(k=7/\xs.length=3):=by
 simp only [zeS,Bool.cond_eq_ite,zbK] at h
 simp at h
 repeat' split at h
 all_goals simp_all
 all_goals omega
theorem zez {k o:Int} {xs:List X} {qs:List Qy} {it wh:List X} (hq:qs≠[]) (h:zeT k o xs qs it wh=true):xs.length=0/\qs.length=1/\wh.length<=1/\(((k=8\/k=9)/\it.length=0)\/((k=10\/k=11\/k=12)/\it.length=1)):=by
 simp only [zeT,Bool.cond_eq_ite,zbK,zev] at h
 simp [hq] at h
 obtain ⟨h1,h2,h3,h4,h5,h6,h7,h⟩:=h
 repeat' split at h
 all_goals simp_all
 all_goals omega
def eOp (e:X) (l:List V):V × Int:=match l with
 | [a]=>if e.kind=6 then zkz e.op e.not a else if e.kind=3 then zrS e.op e.not a else zrR e.op e.not a
 | [a,b]=>ziJ e.op e.not a b
 | [a,b,c]=>zmS e.op e.not a b c
 | _=>(V.null,0)
theorem OpKind.cases {e:X} (h:OpKind e):e.sub=[]/\(((e.kind=3\/e.kind=4\/e.kind=6)/\e.args.length=1)\/(e.kind=5/\e.args.length=2/\1<=e.op/\e.op<=13)\/(e.kind=7/\e.args.length=3)):=by
 have hf:=h.fok
 have k1:=h.k1
 have k2:=h.k2
 have k8:=h.k8
 unfold zb6 at hf
 cases hs:e.sub with
 | nil =>
  rw [hs] at hf
  have:=zdq hf
  refine ⟨rfl,?_⟩
  omega
 | cons q r =>
  rw [hs] at hf
  have:=(zez Zs hf).2.2.2
  omega
theorem zui (e:X) (h:OpKind e) (l:List V) (hl:l.length=e.args.length) (hg:∀ v∈l,v.Good):Pure S.At [e.av,vsl l] (.tup [(eOp e l).1.av,iv (eOp e l).2]):=by
 obtain ⟨hs,hk⟩:=h.cases
 cases e with
 | mk k o nt val tn nm xs qs =>
  simp only [X.sub_mk,X.kind_mk,X.op_mk,X.args_mk] at hs hk hl
  subst hs
  match l,hl,hg with
  | [],hl,_=>simp at hl;omega
  | [a],hl,hg =>
   have ha:=(hg a Zs).small
   simp only [List.length_cons,List.length_nil] at hl
   have:k=3\/k=4\/k=6:=by omega
   rcases this with rfl|rfl|rfl
   ·exact zha o nt a val tn nm xs [] ha
   ·exact zg9 o nt a val tn nm xs []
   ·exact zf0 o nt a val tn nm xs []
  | [a,b],hl,hg =>
   simp only [List.length_cons,List.length_nil] at hl
   obtain ⟨rfl,ho⟩:k=5/\1<=o/\o<=13:=by omega
   exact zg8 o nt a b val tn nm xs [] (hg a Zs).small (hg b Zs).small ho
  | [a,b,c],hl,hg =>
   simp only [List.length_cons,List.length_nil] at hl
   obtain rfl:k=7:=by omega
   exact zg7 o nt a b c val tn nm xs []
  | a::b::c::d::r,hl,_=>simp only [List.length_cons] at hl;omega
def rowI (f:X->V × Int) (k:Int):List X->List V->Int × List V
 | [],its=>(0,its)
 | x::r,its=>bif (f x).2 != 0 then ((f x).2,its) else bif (f x).1.kind==0 then rowI f k r its else bif k==10&&(f x).1.kind != 1 then (5,its) else rowI f k r (its++[(f x).1])
theorem zve (f:X->V × Int) (q:Qy) (w:List Fr) (tb:List Tb) (e:X) (n:Nat) (its0:List V):∀ (l:List X) (i:Nat) (its:List V),aggI f q w tb e n its0 l i its=rowI f e.kind l its
 | [],_,_=>rfl
 | x::r,i,its=>by
  simp only [aggI,rowI,zve f q w tb e n its0 r]
  cases (f x).2 != 0 <;> cases (f x).1.kind==0 <;> cases e.kind==10 <;> simp
theorem zkE (f:X->V × Int) (k:Int):∀ (l:List X) (its:List V),(rowI f k l its).2.length<=its.length+l.length
 | [],its=>by simp [rowI]
 | x::r,its=>by
  have h1:=zkE f k r its
  have h2:=zkE f k r (its++[(f x).1])
  simp only [List.length_append,List.length_cons,List.length_nil] at h2
  simp only [rowI,Bool.cond_eq_ite,List.length_cons]
  repeat' split
  all_goals (try simp only);omega
theorem zkD {P:V->Prop} (f:X->V × Int) (k:Int):∀ (l:List X) (its:List V),(∀ x∈l,P (f x).1)->(∀ v∈its,P v)->∀ v∈(rowI f k l its).2,P v
 | [],its,_,h=>h
 | x::r,its,hx,h=>by
  simp only [rowI,Bool.cond_eq_ite]
  have hr:∀ y∈r,P (f y).1:=fun y hy=>hx y (by simp [hy])
  repeat' split
  ·exact h
  ·exact zkD f k r its hr h
  ·exact h
  ·exact zkD f k r _ hr fun v hv=>(List.mem_append.1 hv).elim (h v) fun hv=>by simp only [List.mem_singleton] at hv;exact hv ▸ hx x Zs
def selR (tr:Rw->Bool × Int) (g:Rw->List V->Int × List V):List Rw->Nat->List V->Int × Nat × List V
 | [],n,its=>(0,n,its)
 | r::l,n,its=>bif (tr r).2 != 0 then ((tr r).2,n,its) else bif (tr r).1 then (bif (g r its).1 != 0 then ((g r its).1,n+1,(g r its).2) else selR tr g l (n+1) (g r its).2) else selR tr g l n its
theorem zvK (tr:Rw->Bool × Int) (g:Rw->List V->Int × List V) (q:Qy) (frs:List Fr) (tb:List Tb) (e:X) (t:Tb) (n0:Nat) (its0:List V):∀ (l:List Rw) (i n:Nat) (its:List V),selA tr g q frs tb e t n0 its0 l i n its=selR tr g l n its
 | [],_,_,_=>rfl
 | r::l,i,n,its=>by
  simp only [selA,selR,zvK tr g q frs tb e t n0 its0 l,bne]
  cases (tr r).2==0 <;> cases (tr r).1 <;> simp
theorem zn0 (tr:Rw->Bool × Int) (g:Rw->List V->Int × List V) (m:Nat) (hg:∀ r its,(g r its).2.length<=its.length+m):∀ (l:List Rw) (n:Nat) (its:List V),(selR tr g l n its).2.2.length<=its.length+m * l.length
 | [],n,its=>by simp [selR]
 | r::l,n,its=>by
  have h1:=zn0 tr g m hg l n its
  have h2:=zn0 tr g m hg l (n+1) (g r its).2
  have h3:=hg r its
  simp only [selR,Bool.cond_eq_ite,List.length_cons,Nat.mul_add]
  repeat' split
  all_goals (try simp only);omega
theorem zkT {P:V->Prop} (tr:Rw->Bool × Int) (g:Rw->List V->Int × List V):∀ (l:List Rw) (n:Nat) (its:List V),(∀ r∈l,∀ its,(∀ v∈its,P v)->∀ v∈(g r its).2,P v)->(∀ v∈its,P v)->∀ v∈(selR tr g l n its).2.2,P v
 | [],n,its,_,h=>h
 | r::l,n,its,hg,h=>by
  have hl:∀ r∈l,∀ its,(∀ v∈its,P v)->∀ v∈(g r its).2,P v:=fun y hy=>hg y (by simp [hy])
  simp only [selR,Bool.cond_eq_ite]
  repeat' split
  ·exact h
  ·exact hg r Zs its h
  ·exact zkT tr g l _ _ hl (hg r Zs its h)
  ·exact zkT tr g l _ _ hl h
def zaU (f:X->V × Int):List X->Bool × Int
 | []=>zoF
 | x::_=>zhI f x
def zex (F:List Fr->X->V × Int) (e:X) (frs:List Fr) (tb:List Tb):V × Int:=match e.sub with
 | []=>(V.null,0)
 | q::_=>match zaJ tb q.frm with
  | none=>eAgg (3,0,[]) e
  | some t=>eAgg (selR (fun r=>zaU (F (zas frs t r.vals)) q.wh) (fun r its=>rowI (F (zas frs t r.vals)) e.kind q.items its) t.rows 0 []) e
def eval:Nat->X->List Fr->List Tb->V × Int
 | 0,_,_,_=>(V.null,0)
 | n+1,e,frs,tb=>valF (fun x=>eval n x frs tb) (eOp e) (zex (fun w x=>eval n x w tb) e frs tb) e frs tb
/- ### values are valid -/
theorem zlJ (c:Bool):V.Good ⟨2,if c=true then 1 else 0,⟨#[]⟩⟩:=by
 cases c
 ·exact zeU (n:=0) Zd
 ·exact zeU (n:=1) Zd
theorem gc1 {α:Type} (c:Bool) {a b:V × α} (ha:a.1.Good) (hb:b.1.Good):(bif c then a else b).1.Good:=by cases c <;> assumption
theorem gc0 (c:Bool) {a b:V} (ha:a.Good) (hb:b.Good):(bif c then a else b).Good:=by cases c <;> assumption
theorem ic1 (c:Bool) {a b:Int × Bool} (ha:I64 a.1) (hb:I64 b.1):I64 (bif c then a else b).1:=by cases c <;> assumption
theorem zqZ (op:Int) (a b:V):(vCmp op a b).1.Good:=by
 unfold vCmp;repeat' (first|apply gc1|exact zaH|exact zlJ _)
theorem zoZ (a b:V):(zeC a b).Good:=by
 unfold zeC;repeat' (first|apply gc0|exact zaH|exact zlJ _)
theorem zqH (a b:V):(land a b).1.Good:=by
 unfold land;repeat' (first|apply gc1|exact zaH|exact zoZ _ _)
theorem zqK (a:V) (ha:a.Good):(lnot a).1.Good:=by
 unfold lnot;repeat' (first|apply gc1|exact zaH|exact ha|exact zlJ _)
theorem zAt (a b:V):(lor a b).1.Good:=by
 unfold lor;repeat' (first|exact zqK _ (zoZ _ _)|exact zaH|apply gc1)
theorem zgq (v:V) (ok:Bool) (h:v.Good):(zda v ok).1.Good:=by
 unfold zda;repeat' (first|apply gc1|exact zaH|exact h)
theorem aAdd_i (a b:Int):I64 (aAdd a b).1:=by
 unfold aAdd;repeat' (first|apply ic1|exact zcY _|exact ⟨by decide,by decide⟩)
theorem aSub_i (a b:Int):I64 (aSub a b).1:=by
 unfold aSub;repeat' (first|apply ic1|exact zcY _|exact ⟨by decide,by decide⟩)
theorem aMul_i (a b:Int):I64 (aMul a b).1:=by
 unfold aMul;repeat' (first|apply ic1|exact zcY _|exact ⟨by decide,by decide⟩)
theorem aDiv_i (a b:Int):I64 (aDiv a b).1:=by
 unfold aDiv;repeat' (first|apply ic1|exact zcY _|exact ⟨by decide,by decide⟩)
theorem aMod_i (a b:Int) (ha:I64 a):I64 (aMod a b).1:=by
 have h:I64 (a.tmod b):=by
  have h0:=Int.natAbs_tmod a b
  have h1:=Nat.mod_le a.natAbs b.natAbs
  have h2:a < 0->a.tmod b<=0:=fun h=>by
   have h3:=Int.tmod_nonneg b (show 0<=-a by omega)
   rw [Int.neg_tmod] at h3;omega
  simp only [I64] at *
  omega
 unfold aMod;repeat' (first|apply ic1|exact h|exact ⟨by decide,by decide⟩)
theorem znx (op:Int) (a b:V) (ha:a.Good):(zck op a b).1.Good:=by
 unfold zck
 repeat' (first|apply gc1|exact zaH|exact zbI (aAdd_i _ _)|exact zbI (aSub_i _ _)|exact zbI (aMul_i _ _)|exact zbI (aDiv_i _ _)|exact zbI (aMod_i _ _ ha.i64)|exact zbI ⟨by decide,by decide⟩)
theorem zAb (e:X) (l:List V) (hg:∀ v∈l,v.Good):(eOp e l).1.Good:=by
 match l,hg with
 | [],_=>exact zaH
 | [a],hg =>
  have ha:=hg a Zs
  simp only [eOp]
  split
  ·exact zlJ _
  split
  ·exact zgq _ _ (zqK _ ha)
  ·exact znx _ _ _ (zbI ⟨by decide,by decide⟩)
 | [a,b],hg =>
  have ha:=hg a Zs
  simp only [eOp,ziJ]
  repeat' (first|exact zgq _ _ (zqH _ _)|exact zgq _ _ (zAt _ _)|exact zqZ _ _ _|exact znx _ _ _ ha|apply gc1)
 | [a,b,c],hg =>
  simp only [eOp,zmS,zeQ]
  repeat' (first|exact zaH|exact zgq _ _ (zqH _ _)|apply gc1)
 | a::b::c::d::r,_=>exact zaH
theorem znX {P:V->Prop} (l0:List V):∀ (l:List V) (i:Nat) (m:V),(∀ v∈l,P v)->P m->P (minL l0 l i m)
 | [],_,_,_,h=>h
 | x::r,i,m,hl,h=>by
  simp only [minL,Bool.cond_eq_ite]
  split
  ·exact znX l0 r _ _ (fun v hv=>hl v (by simp [hv])) (hl x Zs)
  ·exact znX l0 r _ _ (fun v hv=>hl v (by simp [hv])) h
theorem znV {P:V->Prop} (l0:List V):∀ (l:List V) (i:Nat) (m:V),(∀ v∈l,P v)->P m->P (maxL l0 l i m)
 | [],_,_,_,h=>h
 | x::r,i,m,hl,h=>by
  simp only [maxL,Bool.cond_eq_ite]
  split
  ·exact znV l0 r _ _ (fun v hv=>hl v (by simp [hv])) (hl x Zs)
  ·exact znV l0 r _ _ (fun v hv=>hl v (by simp [hv])) h
theorem zAw {P:V->Prop} {l:List V} (h:∀ v∈l,P v) (h0:P V.null):P (minV l) :=
 znX l _ _ _ (fun v hv=>h v (List.mem_of_mem_drop hv)) (by cases l with|nil=>exact h0|cons x r=>exact h x Zs)
theorem zAu {P:V->Prop} {l:List V} (h:∀ v∈l,P v) (h0:P V.null):P (maxV l) :=
 znV l _ _ _ (fun v hv=>h v (List.mem_of_mem_drop hv)) (by cases l with|nil=>exact h0|cons x r=>exact h x Zs)
theorem zzy (l0:List Int):∀ (l:List Int) (i:Nat) (a b:Int),I64 (sumL l0 l i a b).1
 | [],i,a,b=>by
  simp only [sumL]
  repeat' (first|apply ic1|exact zcY _|exact ⟨by decide,by decide⟩)
 | x::r,i,a,b=>by simp only [sumL];exact zzy l0 r _ _ _
theorem zsT (its:List V):∀ (c:List V) (i:Nat) (l:List Int),zg5 its c i l=bif !(aSum (l++c.map V.int)).2 then (V.null,6) else (⟨1,(aSum (l++c.map V.int)).1,⟨#[]⟩⟩,0)
 | [],i,l=>by simp [zg5,V.null]
 | x::r,i,l=>by simp only [zg5,List.map_cons];rw [zsT its r];simp
theorem zpW (its:List V):eSum its=bif !(aSum (its.map V.int)).2 then (V.null,6) else (⟨1,(aSum (its.map V.int)).1,⟨#[]⟩⟩,0):=by
 unfold eSum;rw [zsT];simp
theorem zyO (its:List V):(eSum its).1.Good:=by
 rw [zpW]
 exact gc1 _ zaH (zbI (zzy _ _ _ _ _))
theorem zqt (sel:Int × Nat × List V) (e:X) (hn:sel.2.1<=1000000) (h:∀ v∈sel.2.2,v.Good):(eAgg sel e).1.Good:=by
 unfold eAgg
 have hb:V.Good ⟨2,if decide (0 < ((sel.2.1:Nat):Int)) then 1 else 0,⟨#[]⟩⟩:=zlJ _
 repeat' (first|exact zaH|exact hb|exact zbI ⟨by omega,by omega⟩|exact zyO _|exact zAw h zaH|exact zAu h zaH|apply gc1)
theorem ztX (tr:Rw->Bool × Int) (g:Rw->List V->Int × List V):∀ (l:List Rw) (n:Nat) (its:List V),(selR tr g l n its).2.1<=n+l.length
 | [],n,its=>by simp [selR]
 | r::l,n,its=>by
  have h1:=ztX tr g l n its
  have h2:=ztX tr g l (n+1) (g r its).2
  simp only [selR,Bool.cond_eq_ite,List.length_cons]
  repeat' split
  all_goals (try simp only);omega
abbrev FsG (frs:List Fr):Prop:=∀ f∈frs,∀ v∈f.vals,v.Good
structure TbG (tb:List Tb):Prop where
 vals:∀ x∈tb,∀ r∈x.rows,∀ v∈r.vals,v.Good
 rows:∀ x∈tb,x.rows.length<=1000
theorem FsG.ins {frs:List Fr} (h:FsG frs) {t:Tb} {v:List V} (hv:∀ x∈v,x.Good):FsG (zas frs t v):=fun f hf=>by
 simp only [zas,List.mem_append,List.mem_singleton] at hf
 rcases hf with hf|rfl
 ·exact h f hf
 ·exact hv
theorem zcJ {tb:List Tb} {n:Str} {t:Tb} (h:zaJ tb n=some t):t∈tb:=List.mem_of_find?_eq_some h
theorem zw6 {F:List Fr->X->V × Int} {n:Nat} {e:X} {frs:List Fr} {tb:List Tb} (he:XOk (n+1) e) (hf:FsG frs) (ht:TbG tb) (hF:∀ w x,XOk n x->FsG w->(F w x).1.Good):(zex F e frs tb).1.Good:=by
 unfold zex
 split
 ·exact zaH
 ·rename_i q r hs
  obtain ⟨_,_,_,hsub⟩:=he
  obtain ⟨h1,h2,h3⟩:=hsub q (by rw [hs];simp)
  split
  ·exact zqt _ _ Zs (fun v hv=>by cases hv)
  ·rename_i t hfd
   have htm:=zcJ hfd
   refine zqt _ _ ?_ ?_
   ·have:=ztX (fun r=>zaU (F (zas frs t r.vals)) q.wh) (fun r its=>rowI (F (zas frs t r.vals)) e.kind q.items its) t.rows 0 []
    have:=ht.rows t htm
    omega
   ·refine zkT _ _ _ _ _ (fun r hr its hi=>zkD _ _ _ _ (fun x hx=>hF _ x (h2 x hx) (hf.ins (ht.vals t htm r hr))) hi) (fun v hv=>by cases hv)
theorem zsU (f:X->V × Int) (op:List V->V × Int) (e:X) (frs:List Fr) (tb:List Tb) (hop:∀ l,(∀ v∈l,v.Good)->(op l).1.Good):∀ (l:List X) (i:Nat) (out:List V),(∀ x∈l,(f x).1.Good)->(∀ v∈out,v.Good)->(evL f op e frs tb l i out).1.Good
 | [],i,out,_,h=>hop out h
 | x::r,i,out,hl,h=>by
  simp only [evL]
  exact gc1 _ zaH (zsU f op e frs tb hop r _ _ (fun y hy=>hl y (by simp [hy])) fun v hv=>(List.mem_append.1 hv).elim (h v) fun h=>by simp only [List.mem_singleton] at h;exact h ▸ hl x Zs)
theorem zzI {P:V->Prop} {l:List V} (h:∀ v∈l,P v) (h0:P V.null) (k:Int):P (zao l k):=by
 unfold zao
 rw [List.getD_eq_getElem?_getD]
 cases hk:l[k.toNat]? with
 | none=>exact h0
 | some v=>exact h v (List.mem_of_getElem? hk)
theorem zBW (frs:List Fr) (q n:Str):rFr frs q n∈frs\/rFr frs q n=zaP:=by
 unfold rFr
 rw [List.getD_eq_getElem?_getD]
 cases hk:frs[(zaF frs q n).1.toNat]? with
 | none=>exact .inr rfl
 | some v=>exact .inl (List.mem_of_getElem? hk)
theorem zbH:∀ (n:Nat) (e:X) (frs:List Fr) (tb:List Tb),XOk n e->FsG frs->TbG tb->(eval n e frs tb).1.Good
 | 0,e,frs,tb,h,_,_=>h.elim
 | n+1,e,frs,tb,h,hf,ht=>by
  have hA:=zw6 (F:=fun w x=>eval n x w tb) h hf ht (fun w x hx hw=>zbH n x w tb hx hw ht)
  obtain ⟨h1,h2,h3,h4⟩:=h
  have hv:∀ v∈(rFr frs e.table e.name).vals,v.Good:=by
   rcases zBW frs e.table e.name with h|h
   ·exact hf _ h
   ·rw [h];intro v hv;cases hv
  simp only [eval,valF]
  repeat' (first|exact zaH|exact h1|exact hA|exact zzI hv zaH _|exact zsU _ _ _ _ _ (fun l hl=>zAb e l hl) _ _ _ (fun x hx=>zbH n x frs tb (h3 x hx) hf ht) (fun v hv=>by cases hv)|apply gc1)
theorem FsOk.eins {n:Nat} {frs:List Fr} (h:FsOk (n+1) frs) {t:Tb} (hc:zac t.sch.cols) {v:List V} (hv:∀ x∈v,x.Good):FsOk n (zas frs t v):=by
 refine ⟨by have:=h.len;simp [zas];omega,fun f hf=>?_,fun f hf=>?_⟩
 ·simp only [zas,List.mem_append,List.mem_singleton] at hf
  rcases hf with hf|rfl
  ·exact h.cols f hf
  ·exact hc
 ·simp only [zas,List.mem_append,List.mem_singleton] at hf
  rcases hf with hf|rfl
  ·exact h.vals f hf
  ·exact fun x hx=>(hv x hx).small
theorem zoo {f:X->V × Int} {wh:List X} {frs:List Fr} {tb:List Tb} (hf:∀ x∈wh,Pure S.Aj [x.av,fsl frs,tsl tb] (.tup [(f x).1.av,iv (f x).2])) (hg:∀ x∈wh,(f x).1.Good):Pure S.AD [xsl wh,fsl frs,tsl tb] (.tup [bv (zaU f wh).1,iv (zaU f wh).2]):=by
 cases wh with
 | nil=>exact zlP frs tb
 | cons x r=>exact zlQ f x r frs tb (hf x Zs) (hg x Zs).small
theorem zw8 {e:X} (h:zb6 e=true) (h8:8<=e.kind) (h12:e.kind<=12):∃ q,e.sub=[q]:=by
 unfold zb6 at h
 cases hs:e.sub with
 | nil=>rw [hs] at h;have:=zdq h;omega
 | cons q r =>
  rw [hs] at h
  have:=(zez Zs h).2.1
  cases r with
  | nil=>exact ⟨q,rfl⟩
  | cons x y=>simp at this
theorem zwT {F:List Fr->X->V × Int} {n:Nat} {q:Qy} {frs:List Fr} {tb:List Tb} {e:X} {t:Tb} (hfd:zaJ tb q.frm=some t) (hfo:FsOk (n+1) frs) (hto:TbOk tb) (hfg:FsG frs) (htg:TbG tb) (hi:Few q.items)
  (hF:∀ w,FsOk n w->FsG w->∀ x,(x∈q.items\/x∈q.wh)->Pure S.Aj [x.av,fsl w,tsl tb] (.tup [(F w x).1.av,iv (F w x).2])/\(F w x).1.Good) :
  zab E0 S.Av [q.av,fsl frs,tsl tb,.fn S.Ay [.p 0 0,.p 1 0,.p 2 0,.p 3 0,.p 4 0]] (AH q tb e 0 [])
   (iv (selR (fun r=>zaU (F (zas frs t r.vals)) q.wh) (fun r its=>rowI (F (zas frs t r.vals)) e.kind q.items its) t.rows 0 []).1)
   (AH q tb e (selR (fun r=>zaU (F (zas frs t r.vals)) q.wh) (fun r its=>rowI (F (zas frs t r.vals)) e.kind q.items its) t.rows 0 []).2.1 (selR (fun r=>zaU (F (zas frs t r.vals)) q.wh) (fun r its=>rowI (F (zas frs t r.vals)) e.kind q.items its) t.rows 0 []).2.2):=by
 have htm:=zcJ hfd
 have hin:∀ r∈t.rows,FsOk n (zas frs t r.vals)/\FsG (zas frs t r.vals):=fun r hr=>⟨hfo.eins (hto.cols t htm) (htg.vals t htm r hr),hfg.ins (htg.vals t htm r hr)⟩
 have h:=ziW (fun r=>zaU (F (zas frs t r.vals)) q.wh) (fun r its=>rowI (F (zas frs t r.vals)) e.kind q.items its) q frs tb e t 0 [] (zgz tb q.frm hto.len t hfd) hfo.short (hto.rows t htm) Zs Zs
  (fun r its=>by have:=zkE (F (zas frs t r.vals)) e.kind q.items its;simp only [Few] at hi;omega)
  (fun r hr=>zoo (fun x hx=>(hF _ (hin r hr).1 (hin r hr).2 x (.inr hx)).1) (fun x hx=>(hF _ (hin r hr).1 (hin r hr).2 x (.inr hx)).2))
  (fun r hr n its hn hl=>by
   have h:=zil (F (zas frs t r.vals)) q (zas frs t r.vals) tb e n its r hi hl (by rw [IntKind.wrap_i64];omega) (fun x hx=>(hF _ (hin r hr).1 (hin r hr).2 x (.inl hx)).1)
   simp only [aggC,zve] at h
   exact h)
 simp only [zoE,zvK] at h
 exact h
theorem zuf {F:List Fr->X->V × Int} {n:Nat} {e:X} {frs:List Fr} {tb:List Tb} (he:XOk (n+1) e) (hs:∃ q,e.sub=[q]) (hfo:FsOk (n+1) frs) (hto:TbOk tb) (hfg:FsG frs) (htg:TbG tb)
  (hF:∀ w,FsOk n w->FsG w->∀ x,XOk n x->Pure S.Aj [x.av,fsl w,tsl tb] (.tup [(F w x).1.av,iv (F w x).2])/\(F w x).1.Good):Pure S.AZ [e.av,fsl frs,tsl tb] (.tup [(zex F e frs tb).1.av,iv (zex F e frs tb).2]):=by
 obtain ⟨q,hq⟩:=hs
 obtain ⟨_,_,_,h4⟩:=he
 obtain ⟨h5,h6,h7⟩:=h4 q (by rw [hq];simp)
 have hq0:e.sub[0]?=some q:=by rw [hq];rfl
 unfold zex
 rw [hq]
 simp only
 cases hfd:zaJ tb q.frm with
 | none=>exact c_agg (3,0,[]) e q frs tb hq0 Zs (ziV q frs tb e 0 [] (zgy tb q.frm hto.len hfd))
 | some t =>
  have htm:=zcJ hfd
  refine c_agg _ e q frs tb hq0 ?_ (zwT hfd hfo hto hfg htg h5.1.few fun w hw hg x hx=>hF w hw hg x (hx.elim (h6 x) (h7 x)))
  have hl:=zn0 (fun r=>zaU (F (zas frs t r.vals)) q.wh) (fun r its=>rowI (F (zas frs t r.vals)) e.kind q.items its) 1000 (fun r its=>by have:=zkE (F (zas frs t r.vals)) e.kind q.items its;simp only [Thin] at h5;omega) t.rows 0 []
  have hr:=hto.rows t htm
  simp only [zac]
  simp only [List.length_nil] at hl
  have:1000 * t.rows.length<=1000 * 1000:=Nat.mul_le_mul_left _ hr
  omega
theorem zdx:∀ (n:Nat) (e:X) (frs:List Fr) (tb:List Tb),XOk n e->FsOk n frs->FsG frs->TbOk tb->TbG tb->Pure S.Aj [e.av,fsl frs,tsl tb] (.tup [(eval n e frs tb).1.av,iv (eval n e frs tb).2])
 | 0,e,frs,tb,h,_,_,_,_=>h.elim
 | n+1,e,frs,tb,h,hf,hg,ht,htg=>by
  have hA:=@zuf (fun w x=>eval n x w tb) n e frs tb h
  obtain ⟨_,h2,h3,_⟩:=id h
  exact zlg (fun x=>eval n x frs tb) (eOp e) (zex (fun w x=>eval n x w tb) e frs tb) e frs tb (n+1) hf h2.1.few (fun x hx=>zdx n x frs tb (h3 x hx) hf.less hg ht htg) (fun x hx=>zbH n x frs tb (h3 x hx) hg htg)
   (fun ho l hl hl2=>zui e ho l hl hl2)
   (fun hfm h8 h12=>hA (zw8 hfm h8 h12) hf ht hg htg fun w hw hwg x hx=>⟨zdx n x w tb hx hw hwg ht htg,zbH n x w tb hx hwg htg⟩)
noncomputable def clCV (l:List V):Cfg:=(upto (mk E0) (List.range 40) 0 3000 ⟨B.Bh.ntmps,[.code (B.Bh.body.getD .skip)],zb1 0 [vsl l],[]⟩ []).2
theorem zz9 (l:List V) (hl:zac l):Good E0 B.Bh [] (zcM (clCV l) false) (fun r h=>r=.own 0 l.length/\h=[.row Ty.Value (l.map V.cells) false]):=by
 exact zdY E0ok mix0 3000 (y:=AV.own 0 (List.map V.cells l).length) (H:=[Blk.row Ty.Value (List.map V.cells l) false]) [sb Zf,sqx (AllLen (List.map V.cells l) 3/\((List.map V.cells l).length * 32).le 140737488355328)] kr (⟨by simp,rfl⟩)
theorem zAa:Good E0 B.Bh [] (zcM (clCV []) true) (fun r h=>r=.nl/\h=[]):=by
 exact zdY E0ok mix0 3000 (y:=AV.nl) (H:=[]) [sb Zt] kr (⟨rfl,rfl⟩)
theorem zaS (l:List V) (hl:zac l):zab E0 S.Bh [vsl l] [] (.own 0 l.length) [.row Ty.Value (l.map V.cells) false]:=by
 refine za6 At.Bh rfl kr (Nat.le_of_ble_eq_true kr) (zc9 E0ok mix0 3000 [] (List.range 40) 0 (c':=clCV l) kr kr (zhL E0ok (xs:=l.map V.cells) (e:=true) kr fun b hb=>?_))
 cases b with
 | false=>exact zz9 l hl
 | true =>
  cases l with
  | nil=>exact zej Ty.Value zAa ⟨rfl,rfl⟩
  | cons x r=>exact absurd (hb Zs) Zs
abbrev vrow (v:List V):List AV:=[vsl v]
abbrev RH (q:Qy) (tb:List Tb) (out:List (List V)):Heap:=[.box q.cells,.box [.own 2 out.length],.row Ty.LValue (out.map vrow) false,.box [tsl tb]]
noncomputable def L_rowL (f:X->V × Int) (q:Qy) (w:List Fr) (tb:List Tb) (out:List (List V)) (i:Nat) (row:List V):Cfg:=zag B.AQ 0 [(1,fsl w),(3,.p 1 0),(4,.p 3 0),(8,.own 4 row.length),(22,xsl q.items),(23,iv ((zad q.items).length:Nat)),(24,iv (i:Nat))] (RH q tb out++[.row Ty.Value (row.map V.cells) false])
def rowL (f:X->V × Int) (q:Qy) (w:List Fr) (tb:List Tb) (out:List (List V)):List (X)->Nat->(List V)->Int × (List (List V))
 | [],i,row =>
  (0,out++[row])
 | x::r,i,row =>
  bif (f x).snd != 0 then
   ((f x).snd,out)
  else
   rowL f q w tb out r (i+1) (row++[(f x).fst])
theorem zuQ (f:X->V × Int) (q:Qy) (w:List Fr) (tb:List Tb) (out:List (List V)) (hl:q.items.length<=1000) (hout:out.length<=2000000) (hf:∀ x∈q.items,Pure S.Aj [x.av,fsl w,tsl tb] (.tup [(f x).1.av,iv (f x).2])):∀ (kk i:Nat) (row:List V),i+kk=(q.items).length->(row.length<=i)->Good E0 B.AQ (RH q tb out) (L_rowL f q w tb out i row) (Shut 4 fun r h=>r=(iv (rowL f q w tb out ((q.items).drop i) i row).1)/\h=(RH q tb (rowL f q w tb out ((q.items).drop i) i row).2)):=by
 intro kk
 induction kk with
 | zero =>
  intro i row hi ho
  have h0:decide (((i:Nat):Int) < (((zad q.items).length:Nat):Int))=false:=by simp;omega
  have e0:(q.items).drop i=[]:=List.drop_of_length_le Zo
  rw [e0]
  simp only [rowL]
  refine zaa ?_
  exact wkrS (y:=iv 0) (H:=[Blk.box q.cells,Blk.box [AV.own 2 (List.map vrow out++[[vsl row]]).length],Blk.row Ty.LValue (List.map vrow out++[[vsl row]]) false,Blk.box [tsl tb]]) [sb h0,sqx (row.length=(List.map V.cells row).length/\True),sqA (List.map vrow out) [[vsl row]] out.length 1 24] kr ⟨Zcv2,Zcv2⟩
 | succ kk ih =>
  intro i row hi ho
  obtain ⟨x,hx⟩:=za4 (l:=q.items) (i:=i) Zo
  have h0:decide (((i:Nat):Int) < (((zad q.items).length:Nat):Int))=true:=by simp;omega
  have hw:=zaL i (by first|omega|(simp only [zac,Few] at *;omega))
  have hfx:=hf x (List.mem_of_getElem? hx);have hrl:row.length<=1000:=by have:=zbu hx;omega
  rw [zam hx]
  simp only [rowL]
  refine zaa ?_
  cases h1:(f x).snd != 0
  ·exact wkl [sb h0,se (zbt hx),sc hfx,sb h1,sqA (List.map V.cells row) [[iv (f x).fst.kind,iv (f x).fst.int,sv (f x).fst.text]] row.length 3 32,si hw] [1,3,4,8,22,23,24] 5 kr (zaw 8 4 (List.map V.cells row++[[iv (f x).fst.kind,iv (f x).fst.int,sv (f x).fst.text]]) (ih (i+1) (row++[(f x).fst]) Zo (by first|assumption|(simp;done)|(simp;omega)|omega|(simp at *;omega))) (he:=Zcv2) (hm:=Zcv2))
  ·exact wkr [sb h0,se (zbt hx),sc hfx,sb h1] kr
def rowC (f:X->V × Int) (q:Qy) (w:List Fr) (tb:List Tb) (rw:Rw) (out:List (List V)):Int × (List (List V)) :=
 bif q.star then
  (0,out++[rw.vals])
 else
  rowL f q w tb out q.items 0 ([])
theorem zlO (f:X->V × Int) (q:Qy) (w:List Fr) (tb:List Tb) (rw:Rw) (out:List (List V)) (hl:q.items.length<=1000) (hv:zac rw.vals) (hout:out.length<=2000000) (hf:∀ x∈q.items,Pure S.Aj [x.av,fsl w,tsl tb] (.tup [(f x).1.av,iv (f x).2])):zab E0 S.AQ [.agg (Rw.cells rw),fsl w,.p 0 0,.p 1 0,.p 3 0] (RH q tb out) (iv (rowC f q w tb rw out).1) (RH q tb (rowC f q w tb rw out).2):=by
 unfold rowC
 cases h1:q.star
 ·exact wkcN At.AQ [sb h1] [1,3,4,8,22,23,24] 4 [(.ot 8 Ty.Value,5)] kr (zuQ f q w tb out hl hout hf q.items.length 0 ([]) Zs Zs)
 ·exact wkS At.AQ (y:=iv 0) (H:=[Blk.box q.cells,Blk.box [AV.own 2 (List.map vrow out++[[vsl rw.vals]]).length],Blk.row Ty.LValue (List.map vrow out++[[vsl rw.vals]]) false,Blk.box [tsl tb]]) [sb h1,sd [(3,[sc (zaS rw.vals (by first|assumption|omega|(simp;done)|(simp;omega)))]),(4,[sqx (rw.vals.length=(List.map V.cells rw.vals).length/\True)]),(5,[sqA (List.map vrow out) [[vsl rw.vals]] out.length 1 24])]] kr ⟨Zcv2,Zcv2⟩
noncomputable def L_selB (tr:Rw->Bool × Int) (g:Rw->List (List V)->Int × List (List V)) (q:Qy) (frs:List Fr) (tb:List Tb) (t:Tb) (out0:List (List V)) (i:Nat) (out:List (List V)):Cfg:=zag B.Av 0 [(1,fsl frs),(2,tsl tb),(3,.fn S.AQ [.p 0 0,.p 1 0,.p 3 0]),(4,.p 4 0),(9,.p 5 0),(26,.sl (t.rows.map Rw.cells)),(27,iv ((t.rows.map Rw.cells).length:Nat)),(28,iv (i:Nat))] (RH q tb out++[.box q.cells,.box t.cells])
def selB (tr:Rw->Bool × Int) (g:Rw->List (List V)->Int × List (List V)) (q:Qy) (frs:List Fr) (tb:List Tb) (t:Tb) (out0:List (List V)):List (Rw)->Nat->(List (List V))->Int × (List (List V))
 | [],i,out =>
  (0,out)
 | x::r,i,out =>
  bif (tr x).snd==0 then
   bif (tr x).fst then
    bif (g x out).fst != 0 then
     ((g x out).fst,(g x out).snd)
    else
     selB tr g q frs tb t out0 r (i+1) ((g x out).snd)
   else
    bif (tr x).snd != 0 then
     ((tr x).snd,out)
    else
     selB tr g q frs tb t out0 r (i+1) (out)
  else
   bif (tr x).snd != 0 then
    ((tr x).snd,out)
   else
    selB tr g q frs tb t out0 r (i+1) (out)
theorem zuT (tr:Rw->Bool × Int) (g:Rw->List (List V)->Int × List (List V)) (q:Qy) (frs:List Fr) (tb:List Tb) (t:Tb) (out0:List (List V)) (hfr:zac frs) (hrows:t.rows.length<=1000) (hi0:out0.length<=1000) (hgl:∀ (r:Rw) (out:List (List V)),(g r out).2.length<=out.length+1) (hT:∀ r∈t.rows,Pure S.AD [xsl q.wh,fsl (zas frs t r.vals),tsl tb] (.tup [bv (tr r).1,iv (tr r).2])) (hC:∀ r∈t.rows,∀ (out:List (List V)),out.length<=2000000->zab E0 S.AQ [.agg (Rw.cells r),fsl (zas frs t r.vals),.p 0 0,.p 1 0,.p 3 0] (RH q tb out) (iv (g r out).1) (RH q tb (g r out).2)):∀ (kk i:Nat) (out:List (List V)),i+kk=(t.rows).length->(out.length<=out0.length+i)->Good E0 B.Av (RH q tb out0) (L_selB tr g q frs tb t out0 i out) (Shut 4 fun r h=>r=(iv (selB tr g q frs tb t out0 ((t.rows).drop i) i out).1)/\h=(RH q tb (selB tr g q frs tb t out0 ((t.rows).drop i) i out).2)):=by
 intro kk
 induction kk with
 | zero =>
  intro i out hi hi2
  have h0:decide (((i:Nat):Int) < (((t.rows.map Rw.cells).length:Nat):Int))=false:=by simp;omega
  have e0:(t.rows).drop i=[]:=List.drop_of_length_le Zo
  rw [e0]
  simp only [selB]
  refine zaa ?_
  exact wkr [sb h0] kr
 | succ kk ih =>
  intro i out hi hi2
  obtain ⟨x,hx⟩:=za4 (l:=t.rows) (i:=i) Zo
  have h0:decide (((i:Nat):Int) < (((t.rows.map Rw.cells).length:Nat):Int))=true:=by simp;omega
  have hw:=zaL i (by first|omega|(simp only [zac,Few] at *;omega))
  have hTx:=hT x (List.mem_of_getElem? hx);have hCx:=hC x (List.mem_of_getElem? hx) out Zo
  rw [zam hx]
  simp only [selB]
  refine zaa ?_
  let p_1:List St:=[sb h0,se (zae Rw.cells hx rfl),sc (zgV frs t x.vals (by first|assumption|omega|(simp;done)|(simp;omega))),sc hTx]
  cases h1:(tr x).snd==0
  ·cases h2:(tr x).snd != 0
   ·exact wkl (p_1++[sb h1,sb h2,si hw]) [1,2,3,4,9,26,27,28] 6 kr (ih (i+1) out Zo (by first|omega|(have:=hgl x out;omega)))
   ·exact wkr (p_1++[sb h1,sb h2]) kr
  ·cases h3:(tr x).fst
   ·cases h4:(tr x).snd != 0
    ·exact wkl (p_1++[sg h1,sb h3,sb h4,si hw]) [1,2,3,4,9,26,27,28] 6 kr (ih (i+1) out Zo (by first|omega|(have:=hgl x out;omega)))
    ·exact wkr (p_1++[sg h1,sb h3,sb h4]) kr
   ·cases h5:(g x out).fst != 0
    ·exact wkl (p_1++[sg h1,sb h3,sl [0,1,2,3] hCx,sb h5,si hw]) [1,2,3,4,9,26,27,28] 6 kr (ih (i+1) ((g x out).snd) Zo (by first|omega|(have:=hgl x out;omega)))
    ·exact wkr (p_1++[sg h1,sb h3,sl [0,1,2,3] hCx,sb h5]) kr
def zrM (tr:Rw->Bool × Int) (g:Rw->List (List V)->Int × List (List V)) (q:Qy) (frs:List Fr) (tb:List Tb) (t:Tb) (out0:List (List V)):Int × (List (List V)) :=
 selB tr g q frs tb t out0 t.rows 0 (out0)
theorem zin (tr:Rw->Bool × Int) (g:Rw->List (List V)->Int × List (List V)) (q:Qy) (frs:List Fr) (tb:List Tb) (t:Tb) (out0:List (List V)) (hfind:Pure S.BO [tsl tb,sv q.frm] (.tup [t.av,bv true])) (hfr:zac frs) (hrows:t.rows.length<=1000) (hi0:out0.length<=1000) (hgl:∀ (r:Rw) (out:List (List V)),(g r out).2.length<=out.length+1) (hT:∀ r∈t.rows,Pure S.AD [xsl q.wh,fsl (zas frs t r.vals),tsl tb] (.tup [bv (tr r).1,iv (tr r).2])) (hC:∀ r∈t.rows,∀ (out:List (List V)),out.length<=2000000->zab E0 S.AQ [.agg (Rw.cells r),fsl (zas frs t r.vals),.p 0 0,.p 1 0,.p 3 0] (RH q tb out) (iv (g r out).1) (RH q tb (g r out).2)):zab E0 S.Av [q.av,fsl frs,tsl tb,.fn S.AQ [.p 0 0,.p 1 0,.p 3 0]] (RH q tb out0) (iv (zrM tr g q frs tb t out0).1) (RH q tb (zrM tr g q frs tb t out0).2):=by
 unfold zrM
 exact wkc At.Av [sc hfind,sb Zf] [1,2,3,4,9,26,27,28] 6 kr (zuT tr g q frs tb t out0 hfr hrows hi0 hgl hT hC t.rows.length 0 out0 Zs Zs)
def zyN (q:Qy) (frs:List Fr) (tb:List Tb) (out0:List (List V)):Int × (List (List V)) :=
 (3,out0)
theorem zim (q:Qy) (frs:List Fr) (tb:List Tb) (out0:List (List V)) (hfind:Pure S.BO [tsl tb,sv q.frm] (.tup [Tb.zero.av,bv false])):zab E0 S.Av [q.av,fsl frs,tsl tb,.fn S.AQ [.p 0 0,.p 1 0,.p 3 0]] (RH q tb out0) (iv (zyN q frs tb out0).1) (RH q tb (zyN q frs tb out0).2):=by
 exact wk At.Av [sc hfind,sb Zt] kr
noncomputable def zf4 (q:Qy) (frs:List Fr) (tb:List Tb):Cfg:=(upto (mk E0) (List.range 100) 3 3000 ⟨B.Bz.ntmps,[.code (B.Bz.body.getD .skip)],zb1 0 [q.av,fsl frs,tsl tb],[]⟩ []).2
noncomputable def zB0 (q:Qy) (frs:List Fr) (tb:List Tb):Cfg:=cut (List.range 100) 4 ⟨(zf4 q frs tb).n,(zf4 q frs tb).todo,(zf4 q frs tb).ts,((zf4 q frs tb).h++[Blk.row Ty.LValue [] false]).set 2 (.box (([AV.nl]:List AV).set 0 (.own (zf4 q frs tb).h.length 0)))⟩
theorem zB1 {q:Qy} {frs:List Fr} {tb:List Tb} {R:AV->Heap->Prop} (hg:Good E0 B.Bz [] (zB0 q frs tb) (Shut 0 R)):zbG E0 S.Bz [q.av,fsl frs,tsl tb] [] R :=
 wkc (c':=zf4 q frs tb) At.Bz [] (List.range 100) 3 kr
  (zcL (cs:=[AV.nl]) 2 0 Ty.LValue (List.range 100) 4 kr kr kr rfl hg)
def zew (sel:Int × List (List V)):List (List V) × Int:=bif sel.1 != 0 then ([],sel.1) else (sel.2,0)
theorem zyo (sel:Int × List (List V)) (q:Qy) (frs:List Fr) (tb:List Tb) (hsel:zab E0 S.Av [q.av,fsl frs,tsl tb,.fn S.AQ [.p 0 0,.p 1 0,.p 3 0]] (RH q tb []) (iv sel.1) (RH q tb sel.2)):zab E0 S.Bz [q.av,fsl frs,tsl tb] [] (.tup [.sl ((zew sel).1.map vrow),iv (zew sel).2]) []:=by
 refine zB1 ?_
 unfold zew
 cases h1:sel.fst != 0
 ·exact wkr [sqx (sel.2.length=(List.map vrow sel.snd).length/\True/\True),sl [0,2,3,1] hsel,sb h1] kr
 ·exact wkr [sl [0,2,3,1] hsel,sb h1] kr
def zba (f:X->V × Int):List X->Int × List V
 | []=>(0,[])
 | x::r=>bif (f x).2 != 0 then ((f x).2,[]) else bif (zba f r).1 != 0 then ((zba f r).1,[]) else (0,(f x).1::(zba f r).2)
theorem zvE (f:X->V × Int) (q:Qy) (w:List Fr) (tb:List Tb) (out:List (List V)):∀ (l:List X) (i:Nat) (row:List V),rowL f q w tb out l i row=bif (zba f l).1 != 0 then ((zba f l).1,out) else (0,out++[row++(zba f l).2])
 | [],i,row=>by simp [rowL,zba]
 | x::r,i,row=>by
  simp only [rowL,zba,zvE f q w tb out r]
  cases h:(f x).2 != 0
  ·cases h2:(zba f r).1 != 0
   ·simp
   ·simp [h2]
  ·simp only [cond_true,h]
def rowV (f:X->V × Int) (q:Qy) (r:Rw):Int × List V:=bif q.star then (0,r.vals) else zba f q.items
theorem zBZ (f:X->V × Int) (q:Qy) (w:List Fr) (tb:List Tb) (r:Rw) (out:List (List V)):rowC f q w tb r out=bif (rowV f q r).1 != 0 then ((rowV f q r).1,out) else (0,out++[(rowV f q r).2]):=by
 unfold rowC rowV
 cases q.star
 ·simp only [cond_false,zvE,List.nil_append]
 ·rfl
def za2 (tr:Rw->Bool × Int) (rv:Rw->Int × List V):List Rw->List (List V)->Int × List (List V)
 | [],out=>(0,out)
 | r::l,out=>bif (tr r).2 != 0 then ((tr r).2,out) else bif (tr r).1 then (bif (rv r).1 != 0 then ((rv r).1,out) else za2 tr rv l (out++[(rv r).2])) else za2 tr rv l out
theorem zvL (tr:Rw->Bool × Int) (rv:Rw->Int × List V) (q:Qy) (frs:List Fr) (tb:List Tb) (t:Tb) (out0:List (List V)):∀ (l:List Rw) (i:Nat) (out:List (List V)),selB tr (fun r out=>bif (rv r).1 != 0 then ((rv r).1,out) else (0,out++[(rv r).2])) q frs tb t out0 l i out=za2 tr rv l out
 | [],_,_=>rfl
 | r::l,i,out=>by
  have ih:=zvL tr rv q frs tb t out0 l
  simp only [selB,za2,ih]
  have h0:((0:Int)==0)=true:=rfl
  cases h1:(tr r).2==0 <;> cases h2:(tr r).1 <;> cases h3:(rv r).1==0 <;> simp only [bne,h0,h1,h2,h3,Bool.not_true,Bool.not_false,cond_true,cond_false]
def zbm (n:Nat) (q:Qy) (frs:List Fr) (tb:List Tb):List (List V) × Int:=match zaJ tb q.frm with
 | none=>([],3)
 | some t=>zew (za2 (fun r=>zaU (fun x=>eval n x (zas frs t r.vals) tb) q.wh) (fun r=>rowV (fun x=>eval n x (zas frs t r.vals) tb) q r) t.rows [])
structure QOk (n:Nat) (q:Qy):Prop where
 few:Few q.items
 items:∀ x∈q.items,XOk n x
 wh:∀ x∈q.wh,XOk n x
theorem zoq {n:Nat} {q:Qy} {frs:List Fr} {tb:List Tb} (hq:QOk n q) (hfo:FsOk (n+1) frs) (hto:TbOk tb) (hfg:FsG frs) (htg:TbG tb) (hv:∀ x∈tb,∀ r∈x.rows,zac r.vals) :
  Pure S.Bz [q.av,fsl frs,tsl tb] (.tup [.sl ((zbm n q frs tb).1.map vrow),iv (zbm n q frs tb).2]):=by
 unfold zbm
 cases hfd:zaJ tb q.frm with
 | none=>exact zyo (3,[]) q frs tb (zim q frs tb [] (zgy tb q.frm hto.len hfd))
 | some t =>
  have htm:=zcJ hfd
  have hin:∀ r∈t.rows,FsOk n (zas frs t r.vals)/\FsG (zas frs t r.vals):=fun r hr=>⟨hfo.eins (hto.cols t htm) (htg.vals t htm r hr),hfg.ins (htg.vals t htm r hr)⟩
  have h:=zin (fun r=>zaU (fun x=>eval n x (zas frs t r.vals) tb) q.wh) (fun r out=>bif (rowV (fun x=>eval n x (zas frs t r.vals) tb) q r).1 != 0 then ((rowV (fun x=>eval n x (zas frs t r.vals) tb) q r).1,out) else (0,out++[(rowV (fun x=>eval n x (zas frs t r.vals) tb) q r).2])) q frs tb t [] (zgz tb q.frm hto.len t hfd) hfo.short (hto.rows t htm) Zs
   (fun r out=>by cases (rowV (fun x=>eval n x (zas frs t r.vals) tb) q r).1 != 0 <;> simp)
   (fun r hr=>zoo (fun x hx=>zdx n x _ tb (hq.wh x hx) (hin r hr).1 (hin r hr).2 hto htg) (fun x hx=>zbH n x _ tb (hq.wh x hx) (hin r hr).2 htg))
   (fun r hr out hl=>by
    have h:=zlO (fun x=>eval n x (zas frs t r.vals) tb) q (zas frs t r.vals) tb r out hq.few (hv t htm r hr) hl (fun x hx=>zdx n x _ tb (hq.items x hx) (hin r hr).1 (hin r hr).2 hto htg)
    rw [zBZ] at h
    exact h)
  simp only [zrM,zvL] at h
  exact zyo _ q frs tb h
def cmpB (a b:Str):Int:=Lib.compareBytes a.data.toList b.data.toList
theorem zc0 (a b:Str):zab E0 S.BF [sv a,sv b] [] (iv (cmpB a b)) []:=by
 intro β S w vs r hp
 obtain ⟨v1,rfl,hp1⟩:=zmr hp
 obtain ⟨v2,rfl,hp2⟩:=zmr hp1
 have h0:v2=[]:=List.eq_nil_of_length_eq_zero (by have:=hp2.1;simpa using this.symm)
 subst h0
 refine .inr ⟨.int .i64 (cmpB a b),w,?_,?_⟩
 ·have h1:=run_callFunc_extern (e:=Extern.BytealgCompare.compare) At.BF kr kr kr kr #[.string a,.string b] w
  rw [Lib.run_compareString] at h1
  exact h1
 ·exact ⟨_,_,β,S,_,rfl,⟨rfl,rfl⟩,r,Ext.refl _ _ _ _,zbp _ _⟩
def zw0 (a b:Str):Int :=
 cmpB a b
theorem zeO (a b:Str) :zab E0 S.Ck [sv a,sv b] [] (iv (zw0 a b)) []:=by
 exact wk At.Ck [sc (zc0 a b)] kr
def zw1 (a b:Str):Int :=
 zw0 a b
theorem zng (a b:Str) :zab E0 S.Di [sv a,sv b] [] (iv (zw1 a b)) []:=by
 exact wk At.Di [sc (zeO a b)] kr
def rCmp (a b:V):Int :=
 bif a.kind != b.kind then
  bif decide (a.kind < b.kind) then
   -1
  else
   1
 else
  bif a.int != b.int then
   bif decide (a.int < b.int) then
    -1
   else
    1
  else
   zw1 a.text b.text
theorem zf1 (a b:V) :zab E0 S.Cr [a.av,b.av] [] (iv (rCmp a b)) []:=by
 unfold rCmp
 cases h1:a.kind != b.kind
 ·cases h2:a.int != b.int
  ·exact wk At.Cr [sb h1,sb h2,sc (zng a.text b.text)] kr
  ·cases h3:decide (a.int < b.int)
   ·exact wk At.Cr [sb h1,sb h2,sb h3] kr
   ·exact wk At.Cr [sb h1,sb h2,sb h3] kr
 ·cases h4:decide (a.kind < b.kind)
  ·exact wk At.Cr [sb h1,sb h4] kr
  ·exact wk At.Cr [sb h1,sb h4] kr
noncomputable def zzP (a b:List V) (i:Nat) :Cfg:=zag B.BT 0 [(0,vsl a),(1,vsl b),(5,iv (i:Nat))] []
def zgE (a b:List V):List (V)->Nat->Int
 | [],i =>
  bif decide ((↑(List.map V.cells a).length:Int) < (↑(List.map V.cells b).length:Int)) then
   -1
  else
   bif decide ((↑(List.map V.cells b).length:Int) < (↑(List.map V.cells a).length:Int)) then
    1
   else
    0
 | x::r,i =>
  bif decide ((i:Int) < (↑(List.map V.cells b).length:Int)) then
   bif rCmp x (zao b (i:Int)) != 0 then
    rCmp x (zao b (i:Int))
   else
    zgE a b r (i+1)
  else
   bif decide ((↑(List.map V.cells a).length:Int) < (↑(List.map V.cells b).length:Int)) then
    -1
   else
    bif decide ((↑(List.map V.cells b).length:Int) < (↑(List.map V.cells a).length:Int)) then
     1
    else
     0
theorem zrp (a b:List V) (ha:zac a) (hb:zac b):∀ (kk i:Nat),i+kk=(a).length->Good E0 B.BT [] (zzP a b i ) (Shut 0 fun r h=>r=(iv (zgE a b ((a).drop i) i ))/\h=[]):=by
 intro kk
 induction kk with
 | zero =>
  intro i  hi
  have h0:decide (((i:Nat):Int) < (((a.map V.cells).length:Nat):Int))=false:=by simp;omega
  have e0:(a).drop i=[]:=List.drop_of_length_le Zo
  rw [e0]
  simp only [zgE]
  refine zaa ?_
  cases h1:decide ((↑(List.map V.cells a).length:Int) < (↑(List.map V.cells b).length:Int))
  ·cases h2:decide ((↑(List.map V.cells b).length:Int) < (↑(List.map V.cells a).length:Int))
   ·exact wkr [sb h0,sb h1,sb h2] kr
   ·exact wkr [sb h0,sb h1,sb h2] kr
  ·exact wkr [sb h0,sb h1] kr
 | succ kk ih =>
  intro i  hi
  obtain ⟨x,hx⟩:=za4 (l:=a) (i:=i) Zo
  have h0:decide (((i:Nat):Int) < (((a.map V.cells).length:Nat):Int))=true:=by simp;omega
  have hw:=zaL i (by first|omega|(simp only [zac,Few] at *;omega))
  rw [zam hx]
  simp only [zgE]
  refine zaa ?_
  cases h1:decide ((i:Int) < (↑(List.map V.cells b).length:Int))
  ·cases h2:decide ((↑(List.map V.cells a).length:Int) < (↑(List.map V.cells b).length:Int))
   ·cases h3:decide ((↑(List.map V.cells b).length:Int) < (↑(List.map V.cells a).length:Int))
    ·exact wkr [sg h0,sb h1,sb h2,sb h3] kr
    ·exact wkr [sg h0,sb h1,sb h2,sb h3] kr
   ·exact wkr [sg h0,sb h1,sb h2] kr
  ·let p_1:List St:=[sg h0,sb h1,sd [(2,[se (zae V.cells hx rfl)]),(6,[se (zcB b ((i:Int)) (by first|assumption|(simp;done)|(simp at *;omega)) (by first|assumption|(simp;done)|(simp at *;omega)))]),(8,[sc (zf1 x (zao b (i:Int)))])]]
   cases h4:rCmp x (zao b (i:Int)) != 0
   ·exact wkl (p_1++[sb h4,si hw]) [0,1,5] 0 kr (ih (i+1) Zo )
   ·exact wkr (p_1++[sb h4]) kr
def zd6 (a b:List V):Int :=
 zgE a b a (0)
theorem zlS (a b:List V) (ha:zac a) (hb:zac b):zab E0 S.BT [vsl a,vsl b] [] (iv (zd6 a b)) []:=by
 unfold zd6
 exact wkc At.BT [] [0,1,5] 0 kr (zrp a b ha hb a.length 0 Zs)
noncomputable def zhl (fn:Func) (args:List AV) (h:Heap) (m:Nat):Cfg:=(upto (mk E0) (List.range 40) m 3000 ⟨fn.ntmps,[.code (fn.body.getD .skip)],zb1 0 args,h⟩ []).2
structure Lk where
 fst:Str
 snd:Str
def Lk.cells (l:Lk):List AV:=[sv l.fst,sv l.snd]
abbrev ZL (l:List Lk):AV:=.sl (l.map Lk.cells)
abbrev Lk.av (l:Lk):AV:=.agg l.cells
@[simp] theorem Lk.cells_length (x:Lk):x.cells.length=2:=rfl
structure Im where
 trig:Str
 row:Int
 old:List V
 new:List V
def Im.cells (x:Im):List AV:=[sv x.trig,iv x.row,vsl x.old,vsl x.new]
abbrev Im.av (x:Im):AV:=.agg x.cells
@[simp] theorem Im.cells_length (x:Im):x.cells.length=4:=rfl
abbrev zaN (n:Int):List AV:=[iv n]
theorem zuu (l:List Tg) (hl:zac l):Good E0 B.A0 [] (zcM (zhl B.A0 [.sl (l.map Tg.cells)] [] 0) false) (fun r h=>r=.own 0 l.length/\h=[.row Ty.Trigger (l.map Tg.cells) false]) :=
 zdY E0ok mix0 3000 (y:=AV.own 0 (List.map Tg.cells l).length) (H:=[Blk.row Ty.Trigger (List.map Tg.cells l) false]) [sb Zf,sqx (AllLen (List.map Tg.cells l) 11/\((List.map Tg.cells l).length * 200).le 140737488355328)] kr (⟨by simp,rfl⟩)
theorem zuv:Good E0 B.A0 [] (zcM (zhl B.A0 [.sl []] [] 0) true) (fun r h=>r=.nl/\h=[]) :=
 zdY E0ok mix0 3000 (y:=AV.nl) (H:=[]) [sb Zt] kr (⟨rfl,rfl⟩)
theorem ziY (l:List Tg) (hl:zac l):zab E0 S.A0 [.sl (l.map Tg.cells)] [] (.own 0 l.length) [.row Ty.Trigger (l.map Tg.cells) false]:=by
 refine za6 At.A0 rfl kr (Nat.le_of_ble_eq_true kr) (zc9 E0ok mix0 3000 [] (List.range 40) 0 (c':=zhl B.A0 [.sl (l.map Tg.cells)] [] 0) kr kr (zhL E0ok (xs:=l.map Tg.cells) (e:=true) kr fun b hb=>?_))
 cases b with
 | false=>exact zuu l hl
 | true =>
  cases l with
  | nil=>exact zej Ty.Trigger zuv ⟨rfl,rfl⟩
  | cons x r=>exact absurd (hb Zs) Zs
abbrev Room (l:List Int):Prop:=l.length<=17592186044416
theorem zBj (l:List Int) (hl:Room l):Good E0 B.Bg [] (zcM (zhl B.Bg [.sl (l.map zaN)] [] 0) false) (fun r h=>r=.own 0 l.length/\h=[.row Ty.int (l.map zaN) false]) :=
 zdY E0ok mix0 3000 (y:=AV.own 0 (List.map zaN l).length) (H:=[Blk.row Ty.int (List.map zaN l) false]) [sb Zf,sqx (AllLen (List.map zaN l) 1/\((List.map zaN l).length * 8).le 140737488355328)] kr (⟨by simp,rfl⟩)
theorem zBk:Good E0 B.Bg [] (zcM (zhl B.Bg [.sl []] [] 0) true) (fun r h=>r=.nl/\h=[]) :=
 zdY E0ok mix0 3000 (y:=AV.nl) (H:=[]) [sb Zt] kr (⟨rfl,rfl⟩)
theorem zbJ (l:List Int) (hl:Room l):zab E0 S.Bg [.sl (l.map zaN)] [] (.own 0 l.length) [.row Ty.int (l.map zaN) false]:=by
 refine za6 At.Bg rfl kr (Nat.le_of_ble_eq_true kr) (zc9 E0ok mix0 3000 [] (List.range 40) 0 (c':=zhl B.Bg [.sl (l.map zaN)] [] 0) kr kr (zhL E0ok (xs:=l.map zaN) (e:=true) kr fun b hb=>?_))
 cases b with
 | false=>exact zBj l hl
 | true =>
  cases l with
  | nil=>exact zej Ty.int zBk ⟨rfl,rfl⟩
  | cons x r=>exact absurd (hb Zs) Zs
theorem zwY (l:List Col) (hl:zac l):Good E0 B.A3 [] (zcM (zhl B.A3 [.sl (l.map Col.cells)] [] 0) false) (fun r h=>r=.own 0 l.length/\h=[.row Ty.Column (l.map Col.cells) false]) :=
 zdY E0ok mix0 3000 (y:=AV.own 0 (List.map Col.cells l).length) (H:=[Blk.row Ty.Column (List.map Col.cells l) false]) [sb Zf,sqx (AllLen (List.map Col.cells l) 4/\((List.map Col.cells l).length * 32).le 140737488355328)] kr (⟨by simp,rfl⟩)
theorem zwZ:Good E0 B.A3 [] (zcM (zhl B.A3 [.sl []] [] 0) true) (fun r h=>r=.nl/\h=[]) :=
 zdY E0ok mix0 3000 (y:=AV.nl) (H:=[]) [sb Zt] kr (⟨rfl,rfl⟩)
theorem zc6 (l:List Col) (hl:zac l):zab E0 S.A3 [.sl (l.map Col.cells)] [] (.own 0 l.length) [.row Ty.Column (l.map Col.cells) false]:=by
 refine za6 At.A3 rfl kr (Nat.le_of_ble_eq_true kr) (zc9 E0ok mix0 3000 [] (List.range 40) 0 (c':=zhl B.A3 [.sl (l.map Col.cells)] [] 0) kr kr (zhL E0ok (xs:=l.map Col.cells) (e:=true) kr fun b hb=>?_))
 cases b with
 | false=>exact zwY l hl
 | true =>
  cases l with
  | nil=>exact zej Ty.Column zwZ ⟨rfl,rfl⟩
  | cons x r=>exact absurd (hb Zs) Zs
def lkIx (l:List Lk) (v:Lk):List (Lk)->Nat->Int
 | [],i =>
  -1
 | x::r,i =>
  bif v.fst==x.fst&&(v.snd==x.snd&&true) then
   (i:Int)
  else
   lkIx l v r (i+1)
def zBG (l:List Lk) (v:Lk):Int :=
 lkIx l v l (0)
def lkHas (l:List Lk) (v:Lk):Bool :=
 decide ((0:Int)<=zBG l v)
def oPrec (l:List Lk) (a b:Str):Bool :=
 lkHas l (Lk.mk a b)
def blk (its:List Im) (l:List Lk) (i k:Nat):Bool:=k != i&&match its[k]?,its[i]? with
 | some y,some x=>oPrec l y.trig x.trig
 | _,_=>false
def zmk:Se:=⟨⟨#[]⟩,.mk 0 0 false ⟨0,0,⟨#[]⟩⟩ ⟨#[]⟩ ⟨#[]⟩ [] []⟩
def Ac.set0 (a:Ac):Se:=a.sets.headD zmk
theorem zvw {α:Type} (p:α->Bool):∀ (l:List α) (i:Nat),idxF p l i < ((i+l.length:Nat):Int)\/idxF p l i=-1
 | [],i=>.inr rfl
 | x::r,i=>by
  simp only [idxF]
  cases p x
  ·rcases zvw p r (i+1) with h|h
   ·exact .inl (by simp only [List.length_cons];simpa [Nat.add_assoc,Nat.add_comm 1] using h)
   ·exact .inr h
  ·exact .inl (by simp only [List.length_cons,cond_true];omega)
structure NwOk (nw:List V):Prop where
 len:nw.length<=1000
 good:∀ v∈nw,v.Good
theorem NwOk.short {nw:List V} (h:NwOk nw):zac nw:=by have:=h.len;simp only [zac];omega
structure TrOk (n:Nat) (t:Tg):Prop where
 acts:zac t.acts
 sets:∀ a∈t.acts,XOk n a.set0.ex
 when_:∀ x∈t.when_,XOk n x
abbrev zcH (s:Str):List AV:=[sv s]
@[simp] theorem cellsQ_app (a b:List Qy):zah (a++b)=zah a++zah b:=by simp [zd4]
def XSh:Nat->X->Prop
 | 0,_=>False
 | n+1,e=>(zac e.args/\zac e.sub)/\(∀ x∈e.args,XSh n x)/\∀ q∈e.sub,(zac q.items/\zac q.wh)/\(∀ x∈q.items,XSh n x)/\∀ x∈q.wh,XSh n x
theorem XOk.sh:∀ {n:Nat} {e:X},XOk n e->XSh n e
 | 0,_,h=>h.elim
 | _+1,_,⟨_,h2,h3,h4⟩=>⟨⟨h2.1.short,h2.2.short⟩,fun x hx=>(h3 x hx).sh,fun q hq=>⟨⟨(h4 q hq).1.1.short,(h4 q hq).1.2.short⟩,fun x hx=>((h4 q hq).2.1 x hx).sh,fun x hx=>((h4 q hq).2.2 x hx).sh⟩⟩
structure QW (n:Nat) (q:Qy):Prop where
 items:Few q.items
 wh:Few q.wh
 hi:∀ x∈q.items,XOk n x
 hw:∀ x∈q.wh,XOk n x
structure QSh (n:Nat) (q:Qy):Prop where
 items:zac q.items
 wh:zac q.wh
 hi:∀ x∈q.items,XSh n x
 hw:∀ x∈q.wh,XSh n x
theorem QW.sh {n:Nat} {q:Qy} (h:QW n q):QSh n q:=⟨zaM h.items,zaM h.wh,fun x hx=>(h.hi x hx).sh,fun x hx=>(h.hw x hx).sh⟩
abbrev zaE (r:List X):List AV:=[.sl (zad r)]
structure AcOk (n:Nat) (a:Ac):Prop where
 rows:Few a.rows
 row:∀ r∈a.rows,Few r/\∀ x∈r,XOk n x
 query:Few a.query
 qs:∀ q∈a.query,QW n q
 sets:Few a.sets
 set:∀ s∈a.sets,XOk n s.ex
 wh:Few a.wh
 w:∀ x∈a.wh,XOk n x
structure AcSh (n:Nat) (a:Ac):Prop where
 rows:zac a.rows
 row:∀ r∈a.rows,zac r/\∀ x∈r,XSh n x
 query:zac a.query
 qs:∀ q∈a.query,QSh n q
 sets:zac a.sets
 set:∀ s∈a.sets,XSh n s.ex
 wh:zac a.wh
 w:∀ x∈a.wh,XSh n x
theorem AcOk.sh {n:Nat} {a:Ac} (h:AcOk n a):AcSh n a :=
 ⟨zaM h.rows,fun r hr=>⟨zaM (h.row r hr).1,fun x hx=>((h.row r hr).2 x hx).sh⟩,zaM h.query,fun q hq=>(h.qs q hq).sh,zaM h.sets,fun s hs=>(h.set s hs).sh,zaM h.wh,fun x hx=>(h.w x hx).sh⟩
structure TgOk (n:Nat) (t:Tg):Prop where
 of:Few t.of
 prec:Few t.prec
 foll:Few t.foll
 rank:Few t.rank
 whens:Few t.when_
 when_:∀ x∈t.when_,XOk n x
 acts:Few t.acts
 act:∀ a∈t.acts,AcOk n a
structure TgSh (n:Nat) (t:Tg):Prop where
 of:zac t.of
 prec:zac t.prec
 foll:zac t.foll
 rank:zac t.rank
 whens:zac t.when_
 when_:∀ x∈t.when_,XSh n x
 acts:zac t.acts
 act:∀ a∈t.acts,AcSh n a
theorem TgOk.sh {n:Nat} {t:Tg} (h:TgOk n t):TgSh n t :=
 ⟨zaM h.of,zaM h.prec,zaM h.foll,zaM h.rank,zaM h.whens,fun x hx=>(h.when_ x hx).sh,zaM h.acts,fun a ha=>(h.act a ha).sh⟩
theorem sH8_2 {p:Prop} (h:p:=by first|assumption|omega|(simp;done)|(simp;omega)):p:=h
noncomputable def L_stIx (l:List Str) (v:Str) (i:Nat) :Cfg:=zag B.BQ 0 [(0,.sl (l.map zcH)),(1,sv v),(7,iv ((l.map zcH).length:Nat)),(8,iv (i:Nat))] []
def stIx (l:List Str) (v:Str):List (Str)->Nat->Int
 | [],i =>
  -1
 | x::r,i =>
  bif ByteArray.toList v==ByteArray.toList x then
   (i:Int)
  else
   stIx l v r (i+1)
theorem zuV (l:List Str) (v:Str) (hl:zac l):∀ (kk i:Nat),i+kk=(l).length->Good E0 B.BQ [] (L_stIx l v i ) (Shut 0 fun r h=>r=(iv (stIx l v ((l).drop i) i ))/\h=[]):=by
 intro kk
 induction kk with
 | zero =>
  intro i  hi
  have h0:decide (((i:Nat):Int) < (((l.map zcH).length:Nat):Int))=false:=by simp;omega
  have e0:(l).drop i=[]:=List.drop_of_length_le Zo
  rw [e0]
  simp only [stIx]
  refine zaa ?_
  exact wkr [sb h0] kr
 | succ kk ih =>
  intro i  hi
  obtain ⟨x,hx⟩:=za4 (l:=l) (i:=i) Zo
  have h0:decide (((i:Nat):Int) < (((l.map zcH).length:Nat):Int))=true:=by simp;omega
  have hw:=zaL i (by first|omega|(simp only [zac,Few] at *;omega))
  rw [zam hx]
  simp only [stIx]
  refine zaa ?_
  let p_1:List St:=[sb h0,se (zae zcH hx rfl)]
  cases h1:ByteArray.toList v==ByteArray.toList x
  ·exact wkl (p_1++[sb h1,si hw]) [0,1,7,8] 0 kr (ih (i+1) Zo )
  ·exact wkr (p_1++[sb h1]) kr
def zhC (l:List Str) (v:Str):Int :=
 stIx l v l (0)
theorem zjQ (l:List Str) (v:Str) (hl:zac l):zab E0 S.BQ [ssl l,sv v] [] (iv (zhC l v)) []:=by
 unfold zhC
 exact wkc At.BQ [] [0,1,7,8] 0 kr (zuV l v hl l.length 0 Zs)
def hasS (l:List Str) (v:Str):Bool :=
 decide ((0:Int)<=zhC l v)
theorem zhT (l:List Str) (v:Str) (hl:zac l):zab E0 S.Cm [ssl l,sv v] [] (bv (hasS l v)) []:=by
 exact wk At.Cm [sc (zjQ l v sH8_2)] kr
theorem zCa (l:List Int) (h:(l.take 500).length<=500):Tp.cells ⟨l.take 500,0,h⟩=[.sl (((l.map fun n=>[iv n]).take 500).drop 0),iv 0]:=by simp [Tp.cells,List.map_take]
theorem zva (l:List Int):∃ (t:Tp),zab E0 S.Dx [isl l] [] (.p 0 0) [.box t.cells]:=by
 cases h1:decide ((500:Int) < (((l.map fun n=>[iv n]).length:Nat):Int))
 ·exact ⟨⟨l,0,by simp at h1;omega⟩,wkK At.Dx [sb h1] kr⟩
 ·refine ⟨⟨l.take 500,0,by simp;omega⟩,?_⟩
  rw [zCa]
  exact wkK At.Dx [sb h1,sq (show SubAt (l.map fun n=>[iv n]) 0 500 1 from ⟨by decide,by decide,by simpa using Int.le_of_lt (by simpa using h1),by simp⟩)] kr
structure FsT (frs:List Fr):Prop where
 len:frs.length<=900
 rows:∀ f∈frs,zde f.cols f.vals
 few:∀ f∈frs,Few f.cols
def schT:Sch:=⟨⟨#[116]⟩,[⟨⟨#[105,100]⟩,1,true,true⟩,⟨⟨#[110]⟩,1,false,false⟩,⟨⟨#[98]⟩,2,false,false⟩,⟨⟨#[115]⟩,3,false,false⟩]⟩
theorem zvI:zav ⟨#[116]⟩=schT:=by kernel_rfl
theorem zB4:SchOk schT:=zh9 (by simp [zaj,schT])
def zbZ (n:Int):V :=
 V.mk 1 n Zs0
theorem zbT (n:Int) :zab E0 S.DD [iv n] [] ((zbZ n).av) []:=by
 exact wk At.DD [] kr
theorem zaR (b:Bool):zab E0 S.Du [bv b] [] (V.av ⟨2,if b then 1 else 0,⟨#[]⟩⟩) []:=by
 cases b
 ·exact wk At.Du [sb Zf] kr
 ·exact wk At.Du [sb Zt] kr
def zeo:Sch:=⟨⟨#[108,111,103]⟩,[⟨⟨#[110]⟩,1,false,false⟩,⟨⟨#[115]⟩,3,false,false⟩]⟩
theorem zmj:zav ⟨#[108,111,103]⟩=zeo:=by kernel_rfl
theorem zlj:zab E0 S.Cq [sv ⟨#[108,111,103]⟩] [] zeo.av []:=by
 have:=zjR ⟨#[108,111,103]⟩ zeI
 rw [zmj] at this;exact this
/- known -/
@[simp] theorem ba_self (s:Str):(s==s)=true:=by
 cases s with
 | mk d =>
  have h:(d==d)=true:=by simp
  exact h
noncomputable def L_eqV (l:List V) (i:Nat) :Cfg:=zag B.AX 0 [(0,vsl l),(1,vsl l),(12,iv ((l.map V.cells).length:Nat)),(13,iv (i:Nat))] []
theorem zfv (l:List V) (hl:zac l) (i:Nat)  (hi:i<=(l).length) (hI:True):(True)/\(decide ((((l).length:Nat):Int) < (((l.map V.cells).length:Nat):Int))=false)/\∀ R,Good E0 B.AX [] (L_eqV l (l).length ) R->Good E0 B.AX [] (L_eqV l i ) R:=by
 have hk:=hi;revert i hI;refine zlp ((l).length) (fun i hlt ih hi hI _=>?_)
 obtain ⟨x,hx,h0,hw⟩:=zlq (l:=l) ((l.map V.cells).length) hlt
 cases h1:!(x.kind==x.kind&&(x.int==x.int&&(x.text==x.text&&true)))
 ·obtain ⟨qZ,xZ,gZ⟩:=ih Zo (by first|trivial|assumption|(simp;done)|omega|(simp;omega)|(simp at *;omega)) Zo;exact ⟨qZ,xZ,fun R hg=>zaa (wkl [sb h0,sd [(2,[se (zae V.cells hx rfl)]),(6,[se (zae V.cells hx rfl)]),(8,[sq za3])],sb h1,si hw] [0,1,12,13] 0 kr (gZ R hg))⟩
 ·exact False.elim (by simp at *)
theorem ze6 (l:List V) (hl:zac l):∃ (r:Bool),r=true/\zab E0 S.AX [vsl l,vsl l] [] (bv r) []:=by
 cases h1:(↑(List.map V.cells l).length:Int) != (↑(List.map V.cells l).length:Int)
 ·obtain ⟨q2,q2_1,g2⟩:=zfv l (by first|assumption|omega|(simp;done)|(simp;omega)) 0 (by first|assumption|omega|(simp;done)|(simp;omega)) (by first|assumption|omega|(simp;done)|(simp;omega))
  exact ⟨true,by first|rfl|(exfalso;simp at *;done),wkc At.AX [sb h1] [0,1,12,13] 0 kr (g2 _ (zaa (wkr [sb q2_1] kr)))⟩
 ·exact ⟨false,by first|rfl|(exfalso;simp at *;done),wk At.AX [sb h1] kr⟩
theorem TgOk.tr {n:Nat} {t:Tg} (h:TgOk (n+1) t):TrOk (n+1) t:=by
 refine ⟨zaM h.acts,fun a ha=>?_,h.when_⟩
 have h1:=(h.act a ha).set
 unfold Ac.set0
 cases hs:a.sets with
 | nil=>exact ⟨zaH,⟨by simp [zmk],by simp [zmk]⟩,fun x hx=>by simp [zmk] at hx,fun q hq=>by simp [zmk] at hq⟩
 | cons x r=>rw [hs] at h1;exact h1 x Zs
theorem zol {s:Str} {i:Int} (h:0<=i/\i < ((s.size:Nat):Int)):∃ c:UInt8,ByteAt s i ((c.toNat:Nat):Int):=by
 obtain ⟨n,rfl⟩:=Int.eq_ofNat_of_zero_le h.1
 have hlt:n < s.size:=by omega
 exact ⟨s[n],⟨by omega,by simp [hlt]⟩⟩
theorem zyQ {α:Type} (f:α->List AV) {l:List α} {x:α} {n j m:Nat} (hx:(l.take n)[j]?=some x) (hc:(f x).length=m):ElAt ((l.map f).take n) ((j:Nat):Int) (f x) m:=by
 rw [← List.map_take]
 exact zae f hx hc
abbrev acc (k:Int) (a:Ac):List AV:=[iv k,sv a.table,.sl (a.rows.map zaE),.sl (zah a.query),.sl (a.sets.map Se.cells),.sl (zad a.wh),sv a.text]
def Col.tr (c:Col):Col:=⟨c.name,c.type,false,false⟩
def trTb (n:Str) (s:Sch):Tb:=⟨⟨n,s.cols.map Col.tr⟩,1,[]⟩
def AtI {α:Type} (l:List α) (i:Int) (x:α):Prop:=0<=i/\l[i.toNat]?=some x
theorem zjH {α:Type} {l:List α} {i:Int} (h:0<=i/\i < ((l.length:Nat):Int)):∃ x,AtI l i x :=
 ⟨l[i.toNat]'Zo,h.1,List.getElem?_eq_getElem Zo⟩
theorem zdb {α:Type} (f:α->List AV) {l:List α} {i:Int} {x:α} (h:AtI l i x) {n:Nat} (hn:(f x).length=n):ElAt (l.map f) i (f x) n :=
 ⟨h.1,by simp [h.2],hn⟩
def AcSet (a:Ac):Prop:=a.kind=5->∃ s,a.sets=[s]
theorem TbOk.tr {tb:List Tb} {s:Sch} {tr:List Tb} (h:TbOk tb) (hl:tb.length<=1000) (hs:zac s.cols) (ht:tr.length<=2/\∀ x∈tr,∃ n,x=trTb n s):TbOk (tb++tr):=by
 refine ⟨by have:=ht.1;simp only [zac,List.length_append];omega,fun x hx=>?_,fun x hx=>?_,fun x hx=>?_⟩ <;> rcases List.mem_append.mp hx with hx|hx
 ·exact h.cols x hx
 ·obtain ⟨n,rfl⟩:=ht.2 x hx
  simpa [trTb] using hs
 ·exact h.rows x hx
 ·obtain ⟨n,rfl⟩:=ht.2 x hx
  simp [trTb]
 ·exact h.vals x hx
 ·obtain ⟨n,rfl⟩:=ht.2 x hx
  intro r hr
  cases hr
end Go.AM
namespace Go.AM
open Go.RowKit
theorem zt0 {xs:List Value} {s:Shp} (h:xs.map shp=[s]):∃ x,xs=[x]/\shp x=s:=by
 cases xs with
 | nil=>simp at h
 | cons x r =>
  cases r with
  | nil=>simp at h;exact ⟨x,rfl,h⟩
  | cons _ _=>simp at h
theorem zqu {d:TypeDesc} {k:Value} (hs:∀ (y:Value) (r:Bool),zdg k y=some r->Instr.sameNow d k y=some r):∀ (l:List MapEntry) (rs:List Bool) (n:Nat),rs.length=l.length ->
  (∀ (i:Nat) (e:MapEntry) (r:Bool),l[i]?=some e->rs[i]?=some r->∃ ys,e.key=keyV false ys/\za9 [k] ys=some r)->Instr.findNow d k l n=some (zey l rs n)
 | [],[],_,_,_=>rfl
 | [],_::_,_,h,_=>by simp at h
 | _::_,[],_,h,_=>by simp at h
 | e::l,r::rs,n,hl,hall=>by
  obtain ⟨ys,h1,h2⟩:=hall 0 e r rfl rfl
  have h3:Instr.sameNow d k e.key=some r:=by
   cases ys with
   | nil=>simp [za9] at h2
   | cons y ys =>
    simp only [za9] at h2
    split at h2
    ·rename_i a b q1 q2
     cases ys with
     | cons _ _=>simp [za9] at q2
     | nil =>
      simp [za9] at q2
      subst q2
      simp only [Bool.and_true,Option.some.injEq] at h2
      subst h2
      rw [h1]
      exact hs _ _ q1
    ·cases h2
  have ih:=zqu hs l rs (n+1) (by simpa using hl) (fun i e r hi hr=>hall (i+1) e r (by simpa using hi) (by simpa using hr))
  unfold Instr.findNow
  rw [h3]
  cases r
  ·exact ih
  ·rfl
theorem zy3 {P:Program} {t kt et:TypeId} {ik:IntKind} (hu:P.underlying t=some (.map kt et)) (hk:P.underlying kt=some (.int ik)) (n:Int):KeyOK P t (.v (.int ik n)):=by
 refine ⟨⟨false,[.int ik n],rfl,⟨⟨kt,et,hu,fun e w xs hx=>?_,fun w xs l rs hx hl hall=>?_⟩⟩⟩⟩
 ·obtain ⟨x,rfl,h⟩:=zt0 hx
  obtain ⟨a,rfl⟩:=zvO h
  exact MapKept.run_checkKey hk (by simp [MapKept.IsKey,keyV]) e 9999
 ·obtain ⟨x,rfl,h⟩:=zt0 hx
  obtain ⟨a,rfl⟩:=zvO h
  refine MapKept.run_findKey hk (zqu (fun y r hy=>?_) l rs 0 hl hall)
  simp only [keyV,List.headD_cons] at hy ⊢
  cases y <;> simp [zdg] at hy
  obtain ⟨rfl,rfl⟩:=hy
  simp [Instr.sameNow]
theorem znj {E:Env0} (ht:zaC E) (em:Bool) (d:Nat) (w:World):∀ (fs:List Field) (px xs:List Value),flat E.T px.length fs (xs.map shp)=true ->
  (forIn (m:=Sem) fs () fun f _=>do
   if f.name ≠ "_" then Instr.checkKey em (d + 1) f.type (← part f.type (px ++ xs).toArray f.offset)
   pure (ForInStep.yield ())).run E.P w=.ok () w
 | [],px,xs,hf=>by simp
 | f::fs,px,[],hf=>by simp [flat] at hf
 | f::fs,px,x::xs,hf=>by
  simp only [List.map_cons,flat,Bool.and_eq_true,bne_iff_ne] at hf
  obtain ⟨⟨⟨hn,ho⟩,hs⟩,hrest⟩:=hf
  have ho:=Nat.eq_of_beq_eq_true ho
  obtain ⟨hsz,hagg,hne⟩:=zpD hs
  obtain ⟨i,dd,z,tok⟩:=ht.at_ hne
  have p1:=zh5 tok w (px++x::xs) f.offset (by rw [hsz,ho];simp)
  rw [hsz,ho] at p1
  simp only [List.drop_left,List.take_succ_cons,List.take_zero,zfi,hagg,List.headD_cons] at p1
  have p2:(Instr.checkKey em (d+1) f.type x).run E.P w=.ok () w:=by
   cases x <;> simp [shp,zm5] at hs
   all_goals
    split at hs
    ·rename_i hk
     first
     | (have:=tok.bool_ hk;subst this;exact MapKept.run_checkKey tok.und (by simp [MapKept.IsKey]) em d)
     | (have:=tok.int_ hk;subst this;unfold Instr.checkKey;simp [run_underlying tok.und])
     | (have:=tok.str_ hk;subst this;exact MapKept.run_checkKey tok.und (by simp [MapKept.IsKey]) em d)
    ·cases hs
  have ih:=znj ht em d w fs (px++[x]) xs (by simpa using hrest)
  simp only [List.append_assoc,List.singleton_append] at ih
  simp only [List.forIn_cons,Sem.run_bind,hn,ne_eq,not_false_eq_true,if_true,ho,p1,p2,Result.andThen_ok,Sem.run_pure]
  exact ih
theorem zlI {P:Program} {kt:TypeId} {ss:List Shp} (hq:StructEq P kt ss) (w:World) {xs:List Value} (hx:xs.map shp=ss):∀ (l:List MapEntry) (rs:List Bool) (n:Nat),rs.length=l.length ->
  (∀ (i:Nat) (e:MapEntry) (r:Bool),l[i]?=some e->rs[i]?=some r->∃ ys,e.key=keyV true ys/\za9 xs ys=some r)->(Instr.findAsking kt (.agg xs.toArray) l n).run P w=.ok (zey l rs n) w
 | [],[],_,_,_=>by simp [Instr.findAsking,zey]
 | [],_::_,_,h,_=>by simp at h
 | _::_,[],_,h,_=>by simp at h
 | e::l,r::rs,n,hl,hall=>by
  obtain ⟨ys,h1,h2⟩:=hall 0 e r rfl rfl
  have ih:=zlI hq w hx l rs (n+1) (by simpa using hl) (fun i e r hi hr=>hall (i+1) e r (by simpa using hi) (by simpa using hr))
  have h3:=hq.eq w xs ys r hx h2
  simp only [Instr.findAsking,Sem.run_bind,h1,keyV,h3,Result.andThen_ok]
  cases r
  ·simpa [zey] using ih
  ·simp [zey]
theorem zto {E:Env0} (ht:zaC E) {t kt et:TypeId} {fs:Array Field} {ss:List Shp} (hu:E.P.underlying t=some (.map kt et)) (hk:E.P.underlying kt=some (.struct fs)) (hf:flat E.T 0 fs.toList ss=true) (hq:StructEq E.P kt ss) {cs:List AV} {xs:List Value}
  (hc:zeH cs=some xs) (hs:xs.map shp=ss):KeyOK E.P t (.agg cs):=by
 refine ⟨⟨true,xs,by simp [zcl,hc],⟨⟨kt,et,hu,fun e w us hx=>?_,fun w us l rs hx hl hall=>?_⟩⟩⟩⟩
 ·have h1:=znj ht e 9998 w fs.toList [] us (by rw [hx,hs];exact hf)
  simp only [List.nil_append] at h1
  show (Instr.checkKey e 10000 kt (.agg us.toArray)).run E.P w=.ok () w
  unfold Instr.checkKey
  simp only [Sem.run_bind,run_underlying hk,Result.andThen_ok]
  rw [← Array.forIn_toList]
  have h2:∀ r:Result Unit,r=.ok () w->(r.andThen fun a w'=>(pure ():Sem Unit).run E.P w')=.ok () w:=by
   rintro _ rfl
   rfl
  exact h2 _ h1
 ·show (Instr.findKey kt (.agg us.toArray) l).run E.P w=_
  rw [run_findKey_eq w (by rw [hk]) _ l]
  exact zlI hq w (by rw [hx,hs]) l rs 0 hl hall
end Go.AM
namespace Go.AM
open Go.RowKit
def zry (E:Env0) (h0:Heap) (β0:List Con) (S0:Addr->Prop) (w0:World) (fn:Func) (RR:Ending->World->Prop) (c:Cfg):Prop :=
 ∀ (β:List Con) (S:Addr->Prop) (w:World) (tmps:Array Value),tmps.size=c.n->Ext h0 β0 S0 w0 c.h β S w->Rel E c.h β S w->zay E.T c.h β w S c.ts tmps->kont E.P c.todo (bodyPost E.P fn RR) .normal ⟨tmps,[]⟩ w
theorem zt5 {E:Env0} (ht:zaC E) (hm:E.P.follows .mixedOrders=true) {h0:Heap} {β0:List Con} {S0:Addr->Prop} {w0:World} {fn:Func} {RR:Ending->World->Prop} {c c':Cfg} {os os':List Orc} {q:Option Prop} (hs:step (mk E) c os=some (q,c',os')) (hq:zap q) (hg:zry E h0 β0 S0 w0 fn RR c'):zry E h0 β0 S0 w0 fn RR c:=by
 intro β S w tmps hn x0 r rt
 obtain ⟨n,todo,ts,h⟩:=c
 simp only at hn x0 r rt ⊢
 unfold step at hs
 simp only at hs
 cases todo with
 | nil=>cases hs
 | cons it k =>
  cases it with
  | blk id =>
   simp only [Option.some.injEq,Prod.mk.injEq] at hs
   obtain ⟨_,rfl,_⟩:=hs
   exact hg β S w tmps hn x0 r rt
  | lp cc=>cases hs
  | ops all rest =>
   cases rest with
   | nil =>
    simp only [Option.some.injEq,Prod.mk.injEq] at hs
    obtain ⟨_,rfl,_⟩:=hs
    exact hg β S w tmps hn x0 r rt
   | cons o rest =>
    simp only at hs
    split at hs
    ·rename_i x hdst hx
     simp only [Option.some.injEq,Prod.mk.injEq] at hs
     obtain ⟨rfl,rfl,_⟩:=hs
     have hd:zaI tmps.size o.dst=true:=by rw [hn];exact hdst
     simp only [kont,Exit.then]
     refine wpList_step fun K hK=>?_
     have:=zt4 (Q:=kont E.P k (bodyPost E.P fn RR)) (K:=K) ht r rt hd hx hq ⟨fun β' S' w' tmps' hsz r' e' rt'=>hK _ _ ?_⟩
     ·exact this
     ·have:=hg β' S' w' tmps' (by rw [hsz];exact hn) (x0.trans e') r' rt'
      simp only [kont,Exit.then] at this
      exact this
    ·cases hs
  | code cc =>
   simp only [kont,Exit.then]
   cases cc with
   | skip =>
    simp only [Option.some.injEq,Prod.mk.injEq] at hs
    obtain ⟨_,rfl,_⟩:=hs
    exact wp_skip (hg β S w tmps hn x0 r rt)
   | label l =>
    simp only [Option.some.injEq,Prod.mk.injEq] at hs
    obtain ⟨_,rfl,_⟩:=hs
    exact wp_label (hg β S w tmps hn x0 r rt)
   | scope a =>
    simp only [Option.some.injEq,Prod.mk.injEq] at hs
    obtain ⟨_,rfl,_⟩:=hs
    refine wp_scope_straight (wp_mono (hg β S w tmps hn x0 r rt) fun e a w he=>?_)
    cases e with
    | goto l=>exact zeX k l a w he
    | _=>exact he
   | loop a =>
    simp only [Option.some.injEq,Prod.mk.injEq] at hs
    obtain ⟨_,rfl,_⟩:=hs
    exact zpH (hg β S w tmps hn x0 r rt)
   | seq a b =>
    simp only [Option.some.injEq,Prod.mk.injEq] at hs
    obtain ⟨_,rfl,_⟩:=hs
    refine wp_seq (wp_mono (hg β S w tmps hn x0 r rt) fun e a w he=>?_)
    cases e <;> exact he
   | block id a =>
    simp only [Option.some.injEq,Prod.mk.injEq] at hs
    obtain ⟨_,rfl,_⟩:=hs
    refine wp_block (wp_mono (hg β S w tmps hn x0 r rt) fun e a w he=>?_)
    cases e <;> exact he
   | region id ops draw =>
    cases draw with
    | true =>
     simp only at hs
     split at hs
     ·rename_i l os1
      split at hs
      ·rename_i qs ts1 h1 hlv hsz
       simp only [Option.some.injEq,Prod.mk.injEq] at hs
       obtain ⟨rfl,rfl,_⟩:=hs
       simp only [zap] at hq
       exact zvY ht hm (Nat.eq_of_beq_eq_true hsz) hlv hq hn x0 r rt (fun β' S' w' tmps' hn' x' r' rt'=>hg β' S' w' tmps' hn' x' r' rt')
      ·cases hs
     ·cases hs
    | false =>
     simp only [Option.some.injEq,Prod.mk.injEq] at hs
     obtain ⟨_,rfl,_⟩:=hs
     have:=hg β S w tmps hn x0 r rt
     simp only [kont,Exit.then] at this
     exact wp_region_list this
   | exit id =>
    simp only at hs
    split at hs
    ·rename_i k' hk
     simp only [Option.some.injEq,Prod.mk.injEq] at hs
     obtain ⟨_,rfl,_⟩:=hs
     exact wp_exit (zeR k k' _ _ hk (hg β S w tmps hn x0 r rt))
    ·cases hs
   | cond x a b =>
    have hx:=zaK (ds:=[]) r rt x
    have lit:∀ bb,Act.eval ⟨tmps,[]⟩ x=.bool bb->zay E.T h β w S (zrO ts bb x) tmps:=by
     intro bb he
     cases x with
     | tmp d=>exact rt.lit he
     | _=>exact rt
    simp only at hs
    split at hs
    ·rename_i he
     simp only [mk_G] at he
     rw [he] at hx
     simp only [Option.some.injEq,Prod.mk.injEq] at hs
     obtain ⟨_,rfl,_⟩:=hs
     exact wp_cond_true hx.bl_inv (hg β S w tmps hn x0 r rt)
    ·rename_i he
     simp only [mk_G] at he
     rw [he] at hx
     simp only [Option.some.injEq,Prod.mk.injEq] at hs
     obtain ⟨_,rfl,_⟩:=hs
     exact wp_cond_false hx.bl_inv (hg β S w tmps hn x0 r rt)
    ·rename_i t he
     simp only [mk_G] at he
     rw [he] at hx
     split at hs
     ·simp only [Option.some.injEq,Prod.mk.injEq] at hs
      obtain ⟨rfl,rfl,_⟩:=hs
      simp only [zap] at hq
      subst hq
      exact wp_cond_true hx.v_inv (hg β S w tmps hn x0 r (lit _ hx.v_inv))
     ·simp only [Option.some.injEq,Prod.mk.injEq] at hs
      obtain ⟨rfl,rfl,_⟩:=hs
      simp only [zap] at hq
      subst hq
      exact wp_cond_false hx.v_inv (hg β S w tmps hn x0 r (lit _ hx.v_inv))
     ·cases hs
    ·cases hs
   | _=>cases hs
theorem zqh {E:Env0} (ht:zaC E) (hm:E.P.follows .mixedOrders=true) {h0:Heap} {β0:List Con} {S0:Addr->Prop} {w0:World} {fn:Func} {RR:Ending->World->Prop}:∀ (n:Nat) (c:Cfg) (os:List Orc),allP (run (mk E) n c os).1->zry E h0 β0 S0 w0 fn RR (run (mk E) n c os).2.1->zry E h0 β0 S0 w0 fn RR c
 | 0,c,os,_,hg=>hg
 | n+1,c,os,hq,hg=>by
  unfold run at hq hg
  cases hs:step (mk E) c os with
  | none=>simp only [hs] at hg;exact hg
  | some x =>
   obtain ⟨q,c',os'⟩:=x
   cases q with
   | none =>
    simp only [hs] at hq hg
    exact zt5 ht hm hs trivial (zqh ht hm n c' os' hq hg)
   | some q =>
    simp only [hs] at hq hg
    obtain ⟨h1,h2⟩:=zlu hq
    exact zt5 ht hm hs h1 (zqh ht hm n c' os' h2 hg)
structure Foreign (gs:List Nat) (β:List Con) (S:Addr->Prop) (w0 w:World):Prop where
 new:∀ g∈gs.tail,w0.heap.size<=g
 lt:∀ g∈gs,g < w.heap.size
 apart:∀ g∈gs,∀ (b:Nat) (k:Con),β[b]?=some k->k.blk≠some g
 sep:∀ g∈gs,∀ a,S a->a.block≠g
theorem Foreign.ext {gs:List Nat} {h h':Heap} {β β':List Con} {S S':Addr->Prop} {w0 w w':World} (f:Foreign gs β S w0 w) (x:Ext h β S w h' β' S' w'):Foreign gs β' S' w0 w'/\∀ g∈gs,w'.heap[g]?=w.heap[g]? :=
 ⟨⟨f.new,fun g hg=>Nat.lt_of_lt_of_le (f.lt g hg) x.size,fun g hg b k hb hk=>by
  rcases x.new b k g hb hk with ⟨b',k',h1,h2,_⟩|h1
  ·exact f.apart g hg b' k' h1 h2
  ·have:=f.lt g hg;omega,fun g hg a ha he=>by
  rcases x.S_new a ha with h1|h1|⟨b,k,h1,h2⟩
  ·exact f.sep g hg a h1 he
  ·have:=f.lt g hg;omega
  ·exact f.apart g hg b k h1 (by rw [h2,he])⟩,fun g hg=>x.keep g (f.lt g hg) (f.apart g hg)⟩
def zbO (E:Env0) (fn:Func) (h0:Heap) (gs:List Nat) (F:(Addr->Prop)->World->Prop) (c:Cfg) (R:AV->Heap->Prop):Prop :=
 ∀ (β0:List Con) (S0:Addr->Prop) (w0:World) (β:List Con) (S:Addr->Prop) (w:World) (tmps:Array Value),β0.length=h0.length->tmps.size=c.n->Ext h0 β0 S0 w0 c.h β S w->Rel E c.h β S w->zay E.T c.h β w S c.ts tmps->Foreign gs β S w0 w->F S w ->
  kont E.P c.todo (bodyPost E.P fn (Post E h0 β0 S0 w0 R)) .normal ⟨tmps,[]⟩ w
def Only (gs:List Nat) (F:(Addr->Prop)->World->Prop):Prop:=∀ (S S':Addr->Prop) (w w':World),(∀ a,S a->S' a)->(∀ a,S a->w'.cell? a=w.cell? a)->(∀ g∈gs,w'.heap[g]?=w.heap[g]?)->F S w->F S' w'
theorem zs3 {E:Env0} {fn:Func} {h0:Heap} {gs:List Nat} {F:(Addr->Prop)->World->Prop} {c:Cfg} {R:AV->Heap->Prop} (hg:Good E fn h0 c R):zbO E fn h0 gs F c R :=
 fun β0 S0 w0 β S w tmps hb hn x r rt _ _=>hg β0 S0 w0 β S w tmps hb hn x r rt
theorem zlK {E:Env0} (ht:zaC E) (hm:E.P.follows .mixedOrders=true) {fn:Func} {h0:Heap} {gs:List Nat} {F:(Addr->Prop)->World->Prop} (hF:Only gs F) {R:AV->Heap->Prop} (n:Nat) {c:Cfg} (os:List Orc) (hq:allP (run (mk E) n c os).1) (hg:zbO E fn h0 gs F (run (mk E) n c os).2.1 R):zbO E fn h0 gs F c R :=
 fun β0 S0 w0 β S w tmps hb hn x r rt hf hw=>zqh ht hm (h0:=c.h) (β0:=β) (S0:=S) (w0:=w) n c os hq (fun β' S' w' tmps' hn' x' r' rt' =>
  hg β0 S0 w0 β' S' w' tmps' hb hn' (x.trans x') r' rt' (hf.ext x').1 (hF S S' w w' x'.S_le x'.S_cell (hf.ext x').2 hw)) β S w tmps hn (Ext.refl _ _ _ _) r rt
theorem zyV {E:Env0} {fn:Func} {R:AV->Heap->Prop} {h0:Heap} {gs:List Nat} {F:(Addr->Prop)->World->Prop} {c:Cfg} (live:List Nat) (m:Nat) (hm:h0.length<=m) (hg:zbO E fn h0 gs F (cut live m c) R):zbO E fn h0 gs F c R:=by
 intro β0 S0 w0 β S w tmps hb0 hn x0 r rt hf hw
 obtain ⟨r1,hv⟩:=r.first m
 refine hg β0 S0 w0 (β.take m) S w tmps hb0 hn (x0.first r hm hb0) r1 (fun t=>?_) ⟨hf.new,hf.lt,fun g hg b k hb=>?_,hf.sep⟩ hw
 ·rcases ziI m c.ts live t with h1|h1
  ·simp only [cut];rw [h1];exact .d _ _ (.un _)
  ·simp only [cut];rw [h1];exact hv _ _ (rt t)
 ·rw [List.getElem?_take] at hb
  split at hb
  ·exact hf.apart g hg b k hb
  ·cases hb
theorem zAh {E:Env0} (ht:zaC E) (hmix:E.P.follows .mixedOrders=true) {fn:Func} {R:AV->Heap->Prop} {h0:Heap} {gs:List Nat} {F:(Addr->Prop)->World->Prop} (hF:Only gs F) {c c':Cfg} (n:Nat) (os:List Orc) (live:List Nat) (m:Nat) {q:List Prop}
  (hm:Nat.ble h0.length m=true) (hq0:(run (mk E) n c os).1=q) (hc:cut live m (run (mk E) n c os).2.1=c') (hq:allP q) (hg:zbO E fn h0 gs F c' R):zbO E fn h0 gs F c R:=by
 subst hq0
 subst hc
 exact zlK ht hmix hF n os hq (zyV live m (Nat.le_of_ble_eq_true hm) hg)
structure Touch (g:Nat) (w w':World):Prop where
 os:w'.os=w.os
 tape:w'.tape=w.tape
 drawn:w.drawn<=w'.drawn
 output:w'.output=w.output
 size:w'.heap.size=w.heap.size
 other:∀ b,b≠g->w'.heap[b]?=w.heap[b]?
theorem Touch.cell {g:Nat} {w w':World} (t:Touch g w w') {a:Addr} (ha:a.block≠g):w'.cell? a=w.cell? a:=World.cell?_of_block (t.other a.block ha)
theorem Ext.touch {h0 h:Heap} {β0 β:List Con} {S0 S:Addr->Prop} {w0 w w':World} {gs:List Nat} {g:Nat} (x:Ext h0 β0 S0 w0 h β S w) (t:Touch g w w') (f:Foreign gs β S w0 w) (hg:g∈gs) (hgt:g∈gs.tail):Ext h0 β0 S0 w0 h β S w' where
 box:=x.box
 con:=x.con
 row:=x.row
 mp:=x.mp
 conm:=x.conm
 S_le:=x.S_le
 S_cell:=fun a ha=>(t.cell (f.sep g hg a (x.S_le a ha))).trans (x.S_cell a ha)
 S_new:=x.S_new
 os:=t.os.trans x.os
 tape:=t.tape.trans x.tape
 drawn:=Nat.le_trans x.drawn t.drawn
 output:=t.output.trans x.output
 size:=by rw [t.size];exact x.size
 keep:=fun b hb hne=>(t.other b (by have:=f.new g hgt;omega)).trans (x.keep b hb hne)
 new:=x.new
theorem RelV.cells {T:TypeId->TI} {h:Heap} {β:List Con} {S:Addr->Prop} {w w':World} (hc:∀ a,S a->w'.cell? a=w.cell? a) {x:AV} {y:Value} (hr:RelV T h β w S x y):RelV T h β w' S x y:=by
 induction hr with
 | d x y hd=>exact .d x y (hd.mono (fun _ h=>h) hc)
 | agg cs vs hl ho _ ih=>exact .agg cs vs hl ho ih
 | tup cs vs hl _ ih=>exact .tup cs vs hl ih
 | nl a=>exact .nl a
 | p b off g hb=>exact .p b off g hb
 | own b n y e xs sh hb hn hy ho=>exact .own b n y e xs sh hb hn hy ho
 | ep b n i off g e xs sh hb hn hy=>exact .ep b n i off g e xs sh hb hn hy
 | os b n lo hi y e xs sh hb hn hl hh ho hy=>exact .os b n lo hi y e xs sh hb hn hl hh ho hy
 | fn f caps vs hl _ ih=>exact .fn f caps vs hl ih
 | mp b g hb=>exact .mp b g hb
theorem Rel.touch {E:Env0} {h:Heap} {β:List Con} {S:Addr->Prop} {w0 w w':World} {gs:List Nat} {g:Nat} (r:Rel E h β S w) (t:Touch g w w') (f:Foreign gs β S w0 w) (hg:g∈gs):Rel E h β S w' where
 len:=r.len
 box:=fun b cs hb=>by
  obtain ⟨q,vs,ty,h1,h2,h3,h4⟩:=r.box b cs hb
  exact ⟨q,vs,ty,h1,(t.other q fun e=>f.apart g hg b _ h1 (by rw [← e];rfl)).trans h2,h3,fun i x y hx hy=>⟨(h4 i x y hx hy).1.cells fun a ha=>t.cell (f.sep g hg a ha),(h4 i x y hx hy).2⟩⟩
 row:=fun b e xs sh hb=>by
  obtain ⟨k,h1,h2⟩:=r.row b e xs sh hb
  exact ⟨k,h1,h2.ext (fun _ h=>h) (fun a ha=>t.cell (f.sep g hg a ha)) fun q hq=>t.other q fun e=>f.apart g hg b k h1 (by rw [hq,e])⟩
 mp:=fun b es hb=>by
  obtain ⟨k,h1,h2⟩:=r.mp b es hb
  exact ⟨k,h1,h2.ext (fun _ h=>h) (fun a ha=>t.cell (f.sep g hg a ha)) (t.other k fun e=>f.apart g hg b _ h1 (by rw [← e];rfl))⟩
 apart:=r.apart
 lt:=fun b k q h1 h2=>by rw [t.size];exact r.lt b k q h1 h2
 stable:=fun a ha=>by rw [t.size];exact r.stable a ha
 free:=r.free
 glob:=fun q cs hq=>(r.glob q cs hq).mono (fun _ h=>h) fun a ha=>t.cell (f.sep g hg a ha)
theorem zay.touch {E:Env0} {h:Heap} {β:List Con} {S:Addr->Prop} {w0 w w':World} {gs:List Nat} {g:Nat} {ts:TS} {tmps:Array Value} (rt:zay E.T h β w S ts tmps) (t:Touch g w w') (f:Foreign gs β S w0 w) (hg:g∈gs):zay E.T h β w' S ts tmps :=
 fun q=>(rt q).cells fun a ha=>t.cell (f.sep g hg a ha)
theorem Foreign.touch {gs:List Nat} {β:List Con} {S:Addr->Prop} {w0 w w':World} {g:Nat} (f:Foreign gs β S w0 w) (t:Touch g w w'):Foreign gs β S w0 w':=⟨f.new,fun q hq=>by rw [t.size];exact f.lt q hq,f.apart,f.sep⟩
/-! ### 'for k, v := range m' -/
def ziG (L:List (AV × AV)) (seen:Array Nat):List (AV × AV):=((List.range L.length).filter fun i=>!seen.contains i).filterMap fun i=>L[i]?
def ItF (gm gi:Nat) (l:List (AV × AV)) (cur:Option (AV × AV)) (S:Addr->Prop) (w:World):Prop:=∃ (L:List (AV × AV)) (ents:Array MapEntry) (seen:Array Nat) (c0:Nat),
 w.heap[gm]?=some (.map ents L.length)/\ents.size=L.length/\(∀ (i:Nat) (k x:AV),L[i]?=some (k,x)->∃ (kv xv:Value),ents[i]?=some ⟨kv,xv,i⟩/\RelD w S k kv/\RelD w S x xv) /\
 w.heap[gi]?=some (.mapIter (some gm) L.length seen c0)/\L.length<=c0/\l.Perm (ziG L seen) /\
 ∀ p,cur=some p->∃ (s':Array Nat) (i:Nat),seen=s'.push i/\L[i]?=some p/\c0=L.length
theorem zny (gm gi:Nat) (l:List (AV × AV)) (cur:Option (AV × AV)):Only [gm,gi] (ItF gm gi l cur):=by
 intro S S' w w' hS hc hg ⟨L,ents,seen,c0,h1,h2,h3,h4,h5,h6,h7⟩
 exact ⟨L,ents,seen,c0,(hg gm Zs).trans h1,h2,fun i k x hi=>by
  obtain ⟨kv,xv,a1,a2,a3⟩:=h3 i k x hi
  exact ⟨kv,xv,a1,a2.mono hS hc,a3.mono hS hc⟩,(hg gi Zs).trans h4,h5,h6,h7⟩
theorem zo7 {α:Type} (L:List α):∀ n:Nat,(List.range n).filterMap (fun i=>L[i]?)=L.take n
 | 0=>by simp
 | n+1=>by
  rw [List.range_succ,List.filterMap_append,zo7 L n,List.take_add_one]
  congr 1
theorem zxv (L:List (AV × AV)):ziG L #[]=L:=by
 unfold ziG
 have:(List.range L.length).filter (fun i=>!(#[]:Array Nat).contains i)=List.range L.length:=by simp
 rw [this,zo7,List.take_length]
theorem zxf {E:Env0} {fn:Func} {h0 h:Heap} {all r:List Oper} {o:Oper} {k:List It} {n:Nat} {ts:TS} {R:AV->Heap->Prop} {t kt et:TypeId} {tm b d:Nat} {es:List (AV × AV)} (live:List Nat) (hop:o.op=.range t (.tmp tm)) (hgd:o.guard=none) (hd:o.dst=some d) (hdn:d < n)
  (ht:E.P.underlying t=some (.map kt et)) (hm:look ts tm=.mp b) (hb:h[b]?=some (.mp es)) (hb0:Nat.ble h0.length b=true)
  (H:∀ gm gi,zbO E fn h0 [gm,gi] (ItF gm gi es none) ⟨n,.ops all r::k,(d,.v (.pointer (some ⟨gi,0,none⟩)))::mask live b ts,(h.take b).map (za5 (zcn b))⟩ R):Good E fn h0 ⟨n,.ops all (o::r)::k,ts,h⟩ R:=by
 intro β0 S0 w0 β S w tmps hβ hn x0 r0 rt
 have hb0:=Nat.le_of_ble_eq_true hb0
 simp only at hn x0 r0 rt
 obtain ⟨gm,c1,L,ents,c2,c3,c4,c5⟩:=r0.mp b es hb
 have hmv:=rt tm
 rw [hm] at hmv
 generalize hev:tmps.getD tm undef=mv at hmv
 cases hmv with
 | d _ _ hd=>cases hd
 | mp _ g' c1' =>
 rw [c1] at c1'
 cases c1'
 have hgl:gm < w.heap.size:=r0.lt b _ gm c1 rfl
 have hbl:BelowD w.heap.size w (w.alloc (.mapIter (some gm) L.length #[] L.length)):=(BelowD.refl _ _).alloc (Nat.le_refl _) _
 have x1:Ext h β S w h β S (w.alloc (.mapIter (some gm) L.length #[] L.length)):=Ext.grow r0 hbl (fun _ h=>h) (fun _ h=>.inl h)
 have r1:Rel E h β S (w.alloc (.mapIter (some gm) L.length #[] L.length)):=r0.grow hbl (fun _ h=>h) (fun _ h=>.inl h)
 obtain ⟨r2,hv2⟩:=r1.first b
 have hno:∀ a,S a->a.block≠gm:=by
  intro a ha hag
  obtain ⟨e,xs,h1,_⟩:=r0.free b _ gm a c1 rfl ha hag
  rw [hb] at h1
  cases h1
 simp only [kont,Exit.then]
 refine wpList_step fun K hK=>?_
 show wpG E.P all.toArray o ⟨tmps,[]⟩ w K _
 unfold wpG
 rw [if_pos (by simp [Region.wanted,hgd])]
 unfold Oper.wp
 have hrun:(execOp (Act.eval ⟨tmps,[]⟩) o).run E.P w=.ok (.value (.pointer (some ⟨w.heap.size,0,none⟩))) (w.alloc (.mapIter (some gm) L.length #[] L.length)):=by
  simp only [execOp,hop,Act.eval,hev,run_range_map w t kt et gm ents L.length ht c3,Sem.run_bind,Result.andThen_ok,Sem.run_pure]
 rw [hrun,Oper.upon_value,zb9]
 refine hK _ _ ?_
 have rt2:zay E.T ((h.take b).map (za5 (zcn b))) (β.take b) (w.alloc (.mapIter (some gm) L.length #[] L.length)) S (mask live b ts) tmps:=fun q=>by
  rcases ziI b ts live q with h1|h1
  ·rw [h1];exact .d _ _ (.un _)
  ·rw [h1];exact hv2 _ _ ((rt q).ext x1)
 have rt3:=rt2.put (d:=some d) (x:=.v (.pointer (some ⟨w.heap.size,0,none⟩))) (y:=.pointer (some ⟨w.heap.size,0,none⟩)) (by simp only [zaI];exact Nat.ble_eq_true_of_le (by rw [hn];exact hdn)) (.d _ _ (.v _ rfl))
 have hsz:(w.alloc (.mapIter (some gm) L.length #[] L.length)).heap.size=w.heap.size+1:=by
  show (w.heap.push _).size=_
  simp
 have hfor:Foreign [gm,w.heap.size] (β.take b) S w0 (w.alloc (.mapIter (some gm) L.length #[] L.length)):=by
  refine ⟨fun g hg=>?_,fun g hg=>?_,fun g hg b' k' hb' hk'=>?_,fun g hg a ha=>?_⟩
  ·simp only [List.tail_cons,List.mem_singleton] at hg;subst hg;exact x0.size
  ·rw [hsz]
   rcases List.mem_cons.1 hg with rfl|hg
   ·omega
   ·simp only [List.mem_singleton] at hg;omega
  ·rw [List.getElem?_take] at hb'
   split at hb'
   ·rename_i hlt
    rcases List.mem_cons.1 hg with rfl|hg
    ·have:=r0.apart b' b k' _ g hb' c1 hk' rfl
     omega
    ·simp only [List.mem_singleton] at hg
     subst hg
     have:=r0.lt b' k' _ hb' hk'
     omega
   ·cases hb'
  ·rcases List.mem_cons.1 hg with rfl|hg
   ·exact hno a ha
   ·simp only [List.mem_singleton] at hg
    have:=r0.stable a ha
    omega
 have hit:ItF gm w.heap.size es none S (w.alloc (.mapIter (some gm) L.length #[] L.length)):=by
  refine ⟨L,ents,#[],L.length,(hbl.block gm hgl).trans c3,c4,fun i k x hi=>?_,heap_alloc_new w _,Nat.le_refl _,by rw [zxv];exact c2.symm,by simp⟩
  obtain ⟨kv,xv,a1,a2,a3⟩:=c5 i k x hi
  exact ⟨kv,xv,a1,a2.mono (fun _ h=>h) x1.S_cell,a3.mono (fun _ h=>h) x1.S_cell⟩
 have:=H gm w.heap.size β0 S0 w0 (β.take b) S _ _ hβ (by rw [zcz];exact hn) ((x0.trans x1).first r1 hb0 hβ) r2 rt3 hfor hit
 simp only [kont,Exit.then] at this
 rw [hd]
 exact this
theorem zy9 {L:List (AV × AV)} {seen:Array Nat} {i:Nat} {p:AV × AV} (hi:L[i]?=some p) (hs:seen.contains i=false):(ziG L seen).Perm (p::ziG L (seen.push i)):=by
 have hil:=(List.getElem?_eq_some_iff.1 hi).1
 have hF:((List.range L.length).filter fun j=>!seen.contains j).Perm (i::(List.range L.length).filter fun j=>!(seen.push i).contains j):=by
  have hm:i∈(List.range L.length).filter fun j=>!seen.contains j:=by
   rw [List.mem_filter]
   exact ⟨List.mem_range.2 hil,by rw [hs];rfl⟩
  have h1:=List.perm_cons_erase hm
  have hn:((List.range L.length).filter fun j=>!seen.contains j).Nodup:=List.nodup_range.filter _
  rw [hn.erase_eq_filter,List.filter_filter] at h1
  refine h1.trans (.of_eq (congrArg _ ?_))
  apply List.filter_congr
  intro j _
  rw [contains_push]
  cases seen.contains j <;> cases hji:(j==i) <;> simp [bne,hji]
 have:=hF.filterMap fun j=>L[j]?
 rw [List.filterMap_cons_some hi] at this
 exact this
theorem zoG {α:Type}:∀ (l:List α) (j:Nat) (p:α),l[j]?=some p->l.Perm (p::l.eraseIdx j)
 | [],j,p,h=>by simp at h
 | a::l,0,p,h=>by simp at h;subst h;exact .refl _
 | a::l,j+1,p,h=>by
  have:=zoG l j p (by simpa using h)
  exact (this.cons a).trans (.swap _ _ _)
theorem zlt {L:List (AV × AV)} {ents:Array MapEntry} {w:World} {S:Addr->Prop} (hl:ents.size=L.length) (h3:∀ (i:Nat) (k x:AV),L[i]?=some (k,x)->∃ (kv xv:Value),ents[i]?=some ⟨kv,xv,i⟩/\RelD w S k kv/\RelD w S x xv) :
  (∀ e∈ents.toList,ents[e.born]?=some e/\e.born < L.length)/\(ents.toList.map (·.born)).Nodup:=by
 have at_:∀ (i:Nat) (e:MapEntry),ents[i]?=some e->e.born=i/\i < L.length:=by
  intro i e he
  have hi:i < L.length:=by rw [← hl];exact (Array.getElem?_eq_some_iff.1 he).1
  obtain ⟨kv,xv,e1,_⟩:=h3 i L[i].1 L[i].2 (List.getElem?_eq_getElem hi)
  rw [he] at e1
  cases e1
  exact ⟨rfl,hi⟩
 refine ⟨fun e he=>?_,?_⟩
 ·obtain ⟨i,hi⟩:=List.getElem?_of_mem he
  rw [Array.getElem?_toList] at hi
  obtain ⟨h1,h2⟩:=at_ i e hi
  rw [h1]
  exact ⟨hi,h2⟩
 ·have:ents.toList.map (·.born)=List.range L.length:=by
   apply List.ext_getElem?
   intro i
   rw [List.getElem?_map,Array.getElem?_toList]
   by_cases hi:i < L.length
   ·have h5:ents[i]?=some (ents[i]'Zo):=Array.getElem?_eq_getElem Zo
    rw [h5,Option.map_some,(at_ i _ h5).1,List.getElem?_range hi]
   ·rw [Array.getElem?_eq_none Zo,List.getElem?_eq_none Zp]
    rfl
  rw [this]
  exact List.nodup_range
theorem zzA {w w1:World} {g:Nat} {o:Obj} (h:w1=w\/w1=w.drew):Touch g w (ChangeMaps.setBlock w1 g o):=by
 rcases h with rfl|rfl
 ·exact ⟨rfl,rfl,Nat.le_refl _,rfl,by simp [ChangeMaps.setBlock],fun b hb=>by simp [ChangeMaps.setBlock,Ne.symm hb]⟩
 ·have hd:∀ v:World,v.drew.heap=v.heap:=fun _=>rfl
  exact ⟨rfl,rfl,Nat.le_succ _,rfl,by simp [ChangeMaps.setBlock,hd],fun b hb=>by simp [ChangeMaps.setBlock,hd,Ne.symm hb]⟩
theorem zxc {E:Env0} {fn:Func} {h0 h:Heap} {all r:List Oper} {o:Oper} {k:List It} {n:Nat} {ts:TS} {R:AV->Heap->Prop} {gm gi ti d:Nat} {l:List (AV × AV)} {cur:Option (AV × AV)} (hop:o.op=.next (.tmp ti) false) (hgd:o.guard=none) (hd:o.dst=some d) (hdn:d < n)
  (hm:look ts ti=.v (.pointer (some ⟨gi,0,none⟩)))
  (H0:l=[]->zbO E fn h0 [gm,gi] (ItF gm gi [] none) ⟨n,.ops all r::k,(d,.tup [.bl false])::ts,h⟩ R)
  (H1:∀ (j:Nat) (kx x:AV),l[j]?=some (kx,x)->zbO E fn h0 [gm,gi] (ItF gm gi (l.eraseIdx j) (some (kx,x))) ⟨n,.ops all r::k,(d,.tup [.bl true,kx,x])::ts,h⟩ R) :
  zbO E fn h0 [gm,gi] (ItF gm gi l cur) ⟨n,.ops all (o::r)::k,ts,h⟩ R:=by
 intro β0 S0 w0 β S w tmps hβ hn x0 r0 rt hf ⟨L,ents,seen,c0,h1,h2,h3,h4,h5,h6,h7⟩
 simp only at hn x0 r0 rt
 have hmv:=rt ti
 rw [hm] at hmv
 have hev:=hmv.v_inv
 obtain ⟨hb1,hb2⟩:=zlt h2 h3
 have hne:gm≠gi:=by
  rintro rfl
  rw [h1] at h4
  cases h4
 simp only [kont,Exit.then]
 refine wpList_step fun K hK=>?_
 show wpG E.P all.toArray o ⟨tmps,[]⟩ w K _
 unfold wpG
 rw [if_pos (by simp [Region.wanted,hgd])]
 unfold Oper.wp
 have hdd:zaI tmps.size (some d)=true:=by simp only [zaI];exact Nat.ble_eq_true_of_le (by rw [hn];exact hdn)
 rcases run_next_at (P:=E.P) w o.type gi gm L.length c0 seen ents L.length h4 h1 (fun x hx=>(hb1 x hx).2) h5 with ⟨hz,hrun⟩|⟨e,he,w1,hw1,hrun⟩
 ·have hrun':(execOp (Act.eval ⟨tmps,[]⟩) o).run E.P w=.ok (.value (.tuple #[.bool false])) w:=by
   simp only [execOp,hop,Act.eval,hev,hrun,Sem.run_bind,Result.andThen_ok,Sem.run_pure]
  rw [hrun',Oper.upon_value,zb9]
  refine hK _ _ ?_
  have hall:=all_seen ents seen hz
  have hnil:ziG L seen=[]:=by
   unfold ziG
   have:((List.range L.length).filter fun i=>!seen.contains i)=[]:=by
    rw [List.filter_eq_nil_iff]
    intro i hi
    have hi:=List.mem_range.1 hi
    obtain ⟨kv,xv,e1,_⟩:=h3 i L[i].1 L[i].2 (List.getElem?_eq_getElem hi)
    have:=hall _ (Array.mem_toList_iff.2 (Array.mem_of_getElem? e1))
    simp only at this
    rw [this]
    decide
   rw [this]
   rfl
  rw [hnil] at h6
  have hl:=h6.eq_nil
  have:=H0 hl β0 S0 w0 β S w _ hβ (by rw [zcz];exact hn) x0 r0 (rt.put (d:=some d) (x:=.tup [.bl false]) (y:=.tuple #[.bool false]) hdd (.d _ _ (.tup [.bl false] [.bool false] rfl (fun i p q hp hq=>by
   cases i with
   | zero=>simp at hp hq;subst hp;subst hq;exact .bl _
   | succ i=>simp at hp)))) hf ⟨L,ents,seen,c0,h1,h2,h3,h4,h5,by rw [hnil],by simp⟩
  simp only [kont,Exit.then] at this
  rw [hd]
  exact this
 ·have hrun':(execOp (Act.eval ⟨tmps,[]⟩) o).run E.P w=.ok (.value (.tuple #[.bool true,e.key,e.val])) (ChangeMaps.setBlock w1 gi (.mapIter (some gm) L.length (seen.push e.born) L.length)):=by
   simp only [execOp,hop,Act.eval,hev,hrun,Sem.run_bind,Result.andThen_ok,Sem.run_pure]
  rw [hrun',Oper.upon_value,zb9]
  refine hK _ _ ?_
  obtain ⟨hem,hes⟩:=mem_left he
  obtain ⟨hei,hel⟩:=hb1 e hem
  have hLi:L[e.born]?=some L[e.born]:=List.getElem?_eq_getElem hel
  obtain ⟨kv,xv,e1,e2,e3⟩:=h3 e.born L[e.born].1 L[e.born].2 hLi
  rw [hei] at e1
  have hstep:=zy9 hLi hes
  have hmem:L[e.born]∈l:=h6.mem_iff.2 (hstep.mem_iff.2 Zs)
  obtain ⟨j,hj⟩:=List.getElem?_of_mem hmem
  have hperm:(l.eraseIdx j).Perm (ziG L (seen.push e.born)):=by
   have:=(zoG l j _ hj).symm.trans (h6.trans hstep)
   exact this.cons_inv
  have t:Touch gi w (ChangeMaps.setBlock w1 gi (.mapIter (some gm) L.length (seen.push e.born) L.length)):=zzA hw1
  have hg:gi∈[gm,gi]:=by simp
  have hcell:∀ a,S a->(ChangeMaps.setBlock w1 gi (.mapIter (some gm) L.length (seen.push e.born) L.length)).cell? a=w.cell? a:=fun a ha=>t.cell (hf.sep gi hg a ha)
  have hkk:e.key=kv/\e.val=xv:=by
   have h9:e=⟨kv,xv,e.born⟩:=by injection e1
   exact ⟨congrArg MapEntry.key h9,congrArg MapEntry.val h9⟩
  have rt2:=(rt.touch (E:=E) t hf hg).put (d:=some d) (x:=.tup [.bl true,L[e.born].1,L[e.born].2]) (y:=.tuple #[.bool true,e.key,e.val]) hdd (.d _ _ (.tup [.bl true,L[e.born].1,L[e.born].2] [.bool true,e.key,e.val] rfl (fun i p q hp hq=>by
   match i,hp,hq with
   | 0,hp,hq=>simp at hp hq;subst hp;subst hq;exact .bl _
   | 1,hp,hq=>simp at hp hq;subst hp;subst hq;rw [hkk.1];exact e2.mono (fun _ h=>h) hcell
   | 2,hp,hq=>simp at hp hq;subst hp;subst hq;rw [hkk.2];exact e3.mono (fun _ h=>h) hcell
   | i+3,hp,hq=>simp at hp)))
  have hit:ItF gm gi (l.eraseIdx j) (some (L[e.born].1,L[e.born].2)) S (ChangeMaps.setBlock w1 gi (.mapIter (some gm) L.length (seen.push e.born) L.length)):=by
   refine ⟨L,ents,seen.push e.born,L.length,(t.other gm hne).trans h1,h2,fun i k x hi=>?_,?_,Nat.le_refl _,hperm,fun p hp=>⟨seen,e.born,rfl,by rw [hLi];exact hp,rfl⟩⟩
   ·obtain ⟨kv,xv,a1,a2,a3⟩:=h3 i k x hi
    exact ⟨kv,xv,a1,a2.mono (fun _ h=>h) hcell,a3.mono (fun _ h=>h) hcell⟩
   ·have hlt:gi < w1.heap.size:=by
     have:=(Array.getElem?_eq_some_iff.1 h4).1
     rcases hw1 with rfl|rfl <;> exact this
    simp [ChangeMaps.setBlock,hlt]
  have:=H1 j L[e.born].1 L[e.born].2 hj β0 S0 w0 β S _ _ hβ (by rw [zcz];exact hn) (x0.touch t hf hg Zs) (r0.touch t hf hg) rt2 (hf.touch t) hit
  simp only [kont,Exit.then] at this
  rw [hd]
  exact this
theorem zuz {E:Env0} {fn:Func} {h0 h:Heap} {all r:List Oper} {o:Oper} {k:List It} {n:Nat} {ts:TS} {R:AV->Heap->Prop} {gm gi ti d:Nat} {l:List (AV × AV)} {kx x:AV} (hop:o.op=.entry (.tmp ti)) (hgd:o.guard=none) (hd:o.dst=some d) (hdn:d < n)
  (hm:look ts ti=.v (.pointer (some ⟨gi,0,none⟩)))
  (H:zbO E fn h0 [gm,gi] (ItF gm gi l (some (kx,x))) ⟨n,.ops all r::k,(d,.tup [kx,x])::ts,h⟩ R) :
  zbO E fn h0 [gm,gi] (ItF gm gi l (some (kx,x))) ⟨n,.ops all (o::r)::k,ts,h⟩ R:=by
 intro β0 S0 w0 β S w tmps hβ hn x0 r0 rt hf hw
 have hw0:=hw
 obtain ⟨L,ents,seen,c0,h1,h2,h3,h4,h5,h6,h7⟩:=hw
 simp only at hn x0 r0 rt
 have hmv:=rt ti
 rw [hm] at hmv
 have hev:=hmv.v_inv
 obtain ⟨hb1,hb2⟩:=zlt h2 h3
 obtain ⟨s',i,rfl,hi,rfl⟩:=h7 _ rfl
 obtain ⟨kv,xv,e1,e2,e3⟩:=h3 i kx x hi
 simp only [kont,Exit.then]
 refine wpList_step fun K hK=>?_
 show wpG E.P all.toArray o ⟨tmps,[]⟩ w K _
 unfold wpG
 rw [if_pos (by simp [Region.wanted,hgd])]
 unfold Oper.wp
 have hrun:=run_entry_at (P:=E.P) w gi gm L.length s' ents L.length ⟨kv,xv,i⟩ h4 h1 (Array.mem_toList_iff.2 (Array.mem_of_getElem? e1)) hb2
 have hrun':(execOp (Act.eval ⟨tmps,[]⟩) o).run E.P w=.ok (.value (.tuple #[kv,xv])) w:=by
  simp only [execOp,hop,Act.eval,hev,hrun,Sem.run_bind,Result.andThen_ok,Sem.run_pure]
 rw [hrun',Oper.upon_value,zb9]
 refine hK _ _ ?_
 have:=H β0 S0 w0 β S w _ hβ (by rw [zcz];exact hn) x0 r0 (rt.put (d:=some d) (x:=.tup [kx,x]) (y:=.tuple #[kv,xv]) (by simp only [zaI];exact Nat.ble_eq_true_of_le (by rw [hn];exact hdn)) (.d _ _ (.tup [kx,x] [kv,xv] rfl (fun i p q hp hq=>by
  match i,hp,hq with
  | 0,hp,hq=>simp at hp hq;subst hp;subst hq;exact e2
  | 1,hp,hq=>simp at hp hq;subst hp;subst hq;exact e3
  | i+2,hp,hq=>simp at hp)))) hf hw0
 simp only [kont,Exit.then] at this
 rw [hd]
 exact this
end Go.AM
namespace Go.AM
theorem zbd (n:Int):KeyOK E0.P Ty.M_int_bool (iv n):=zy3 (kt:=Ty.int) (et:=Ty.bool) kr kr n
theorem zbN (a b:Int) (c:Str):KeyOK E0.P Ty.M_Value_bool (.agg [iv a,iv b,sv c]) :=
 zto E0ok (kt:=Ty.Value) (et:=Ty.bool) (fs:=E0.P.fieldsOf Ty.Value) kr kr kr za3 rfl rfl
noncomputable def zhv (fn:Func) (args:List AV) (h:Heap):Cfg:=⟨fn.ntmps,[.code (fn.body.getD .skip)],zb1 0 args,h⟩
def itp (gi:Nat):AV:=.v (.pointer (some ⟨gi,0,none⟩))
noncomputable def zrT (h0:Heap) (c:Cfg) (os:List Orc) (b:Nat):Option (List Prop × TypeId × List (AV × AV)):=match run (mk E0) 3000 c os with
 | (q,⟨n,.ops _ (o::_)::_,ts,h⟩,_)=>match o.op,o.guard,o.dst with
  | .range t (.tmp tm),none,some d=>match look ts tm,Nat.blt d n,Nat.ble h0.length b with
   | .mp b',true,true=>match Nat.beq b' b,h[b]? with
    | true,some (.mp es)=>some (q,t,es)
    | _,_=>none
   | _,_,_=>none
  | _,_,_=>none
 | _=>none
noncomputable def rngK (c:Cfg) (os:List Orc) (live:List Nat) (b gi:Nat):Cfg:=match run (mk E0) 3000 c os with
 | (_,⟨n,.ops all (o::r)::k,ts,h⟩,_)=>⟨n,.ops all r::k,(o.dst.getD 0,itp gi)::mask live b ts,(h.take b).map (za5 (zcn b))⟩
 | (_,c',_)=>c'
theorem wkRl {fn:Func} {h0:Heap} {c:Cfg} {R:AV->Heap->Prop} {t kt et:TypeId} {es:List (AV × AV)} (l:List St) (live:List Nat) (b:Nat) (hu:zrT h0 c (orcs l) b=some (zbl l,t,es)) (ht:E0.P.underlying t=some (.map kt et))
  (hg:∀ gm gi,zbO E0 fn h0 [gm,gi] (ItF gm gi es none) (rngK c (orcs l) live b gi) R):Good E0 fn h0 c R:=by
 unfold zrT at hu
 unfold rngK at hg
 split at hu
 ·rename_i q n all o r k ts h os' hrun
  split at hu
  ·rename_i t' tm d hop hgd hd
   split at hu
   ·rename_i b' hm hdn hb0
    split at hu
    ·rename_i es' hbb hb
     simp only [Option.some.injEq,Prod.mk.injEq] at hu
     obtain ⟨rfl,rfl,rfl⟩:=hu
     have:=Nat.eq_of_beq_eq_true hbb
     subst this
     refine zjW E0ok mix0 3000 c (orcs l) (by rw [hrun];exact zbb l) ?_
     rw [hrun]
     refine zxf live hop hgd hd (Nat.le_of_ble_eq_true hdn) ht hm hb hb0 fun gm gi=>?_
     have:=hg gm gi
     rw [hrun] at this
     simp only [hd,Option.getD_some] at this
     exact this
    ·cases hu
   ·cases hu
  ·cases hu
 ·cases hu
def fnOk (fn : Func) (args : List AV) : Bool := fn.body.isSome && !(fn.name == "runtime.NumGoroutine") && Nat.ble args.length fn.ntmps
theorem wkR {f:FuncId} {fn:Func} {args:List AV} {h:Heap} {R:AV->Heap->Prop} {t kt et:TypeId} {es:List (AV × AV)} (hf:E0.P.funcs[f]?=some fn) (l:List St) (live:List Nat) (b:Nat) (hok:fnOk fn args=true) (hu:zrT h (zhv fn args h) (orcs l) b=some (zbl l,t,es)) (ht:E0.P.underlying t=some (.map kt et))
  (hg:∀ gm gi,zbO E0 fn h [gm,gi] (ItF gm gi es none) (rngK (zhv fn args h) (orcs l) live b gi) (Shut h.length R)):zbG E0 f args h R:=by
 simp only [fnOk,Bool.and_eq_true,Bool.not_eq_true',Option.isSome_iff_exists] at hok
 obtain ⟨⟨⟨c,hb⟩,hn⟩,ha⟩:=hok
 have h1:=wkRl l live b hu ht hg
 have:zhv fn args h=⟨fn.ntmps,[.code c],zb1 0 args,h⟩:=by simp [zhv,hb]
 rw [this] at h1
 exact zeh (za6 hf hb hn (Nat.le_of_ble_eq_true ha) h1)
theorem wkFl {fn:Func} {R:AV->Heap->Prop} {h0:Heap} {c c':Cfg} {gm gi:Nat} {es:List (AV × AV)} {cur:Option (AV × AV)} (l:List St) (live:List Nat) (m:Nat) (hu:zkV h0 live m c (orcs l)=some (zbl l,c')) (hg:zbO E0 fn h0 [gm,gi] (ItF gm gi es cur) c' R):zbO E0 fn h0 [gm,gi] (ItF gm gi es cur) c R:=by
 unfold zkV at hu
 split at hu
 ·rename_i hm
  have hu:=Option.some.inj hu
  unfold upto at hu
  have h1:(run (mk E0) 3000 c (orcs l)).1=zbl l:=congrArg Prod.fst hu
  have h2:cut live m (run (mk E0) 3000 c (orcs l)).2.1=c':=congrArg Prod.snd hu
  exact zAh E0ok mix0 (zny _ _ _ _) 3000 (orcs l) live m hm h1 h2 (zbb l) hg
 ·cases hu
theorem zlL {E:Env0} {fn:Func} {h0:Heap} {gs:List Nat} {F:(Addr->Prop)->World->Prop} {c:Cfg} {R:AV->Heap->Prop} (hg:zbO E fn h0 gs F (zj3 c) R):zbO E fn h0 gs F c R:=by
 unfold zj3 at hg
 split at hg
 ·rename_i b k hk
  obtain ⟨n,todo,ts,h⟩:=c
  simp only at hk
  subst hk
  intro β0 S0 w0 β S w tmps hb0 hn x0 r rt hf hw
  have:=hg β0 S0 w0 β S w tmps hb0 hn x0 r rt hf hw
  simp only [kont,Exit.then] at this ⊢
  refine zo2 (wp_mono this fun e a w he=>?_)
  cases e <;> exact he
 ·exact hg
noncomputable def nxtOk (c:Cfg) (os:List Orc):Option (List Prop × AV):=match run (mk E0) 3000 c os with
 | (q,⟨n,.ops _ (o::_)::_,ts,_⟩,_)=>match o.op,o.guard,o.dst with
  | .next (.tmp ti) false,none,some d=>match Nat.blt d n with
   | true=>some (q,look ts ti)
   | false=>none
  | _,_,_=>none
 | _=>none
noncomputable def nxtK (c:Cfg) (os:List Orc) (v:AV):Cfg:=match run (mk E0) 3000 c os with
 | (_,⟨n,.ops all (o::r)::k,ts,h⟩,_)=>⟨n,.ops all r::k,(o.dst.getD 0,v)::ts,h⟩
 | (_,c',_)=>c'
theorem wkN {fn:Func} {h0:Heap} {c:Cfg} {R:AV->Heap->Prop} {gm gi:Nat} {es:List (AV × AV)} {cur:Option (AV × AV)} (l:List St) (hu:nxtOk c (orcs l)=some (zbl l,itp gi))
  (H0:es=[]->zbO E0 fn h0 [gm,gi] (ItF gm gi [] none) (nxtK c (orcs l) (.tup [.bl false])) R)
  (H1:∀ (j:Nat) (kx x:AV),es[j]?=some (kx,x)->zbO E0 fn h0 [gm,gi] (ItF gm gi (es.eraseIdx j) (some (kx,x))) (nxtK c (orcs l) (.tup [.bl true,kx,x])) R):zbO E0 fn h0 [gm,gi] (ItF gm gi es cur) c R:=by
 unfold nxtOk at hu
 unfold nxtK at H0 H1
 split at hu
 ·rename_i q n all o r k ts h os' hrun
  split at hu
  ·rename_i ti d hop hgd hd
   split at hu
   ·rename_i hdn
    simp only [Option.some.injEq,Prod.mk.injEq] at hu
    obtain ⟨rfl,hm⟩:=hu
    refine zlK E0ok mix0 (zny _ _ _ _) 3000 (orcs l) (by rw [hrun];exact zbb l) ?_
    rw [hrun] at H0 H1 ⊢
    simp only [hd,Option.getD_some] at H0 H1
    exact zxc hop hgd hd (Nat.le_of_ble_eq_true hdn) hm H0 H1
   ·cases hu
  ·cases hu
 ·cases hu
noncomputable def entOk (c:Cfg) (os:List Orc):Option (List Prop × AV):=match run (mk E0) 3000 c os with
 | (q,⟨n,.ops _ (o::_)::_,ts,_⟩,_)=>match o.op,o.guard,o.dst with
  | .entry (.tmp ti),none,some d=>match Nat.blt d n with
   | true=>some (q,look ts ti)
   | false=>none
  | _,_,_=>none
 | _=>none
theorem wkE2 {fn:Func} {h0:Heap} {c:Cfg} {R:AV->Heap->Prop} {gm gi:Nat} {es:List (AV × AV)} {kx x:AV} (l:List St) (hu:entOk c (orcs l)=some (zbl l,itp gi))
  (H:zbO E0 fn h0 [gm,gi] (ItF gm gi es (some (kx,x))) (nxtK c (orcs l) (.tup [kx,x])) R):zbO E0 fn h0 [gm,gi] (ItF gm gi es (some (kx,x))) c R:=by
 unfold entOk at hu
 unfold nxtK at H
 split at hu
 ·rename_i q n all o r k ts h os' hrun
  split at hu
  ·rename_i ti d hop hgd hd
   split at hu
   ·rename_i hdn
    simp only [Option.some.injEq,Prod.mk.injEq] at hu
    obtain ⟨rfl,hm⟩:=hu
    refine zlK E0ok mix0 (zny _ _ _ _) 3000 (orcs l) (by rw [hrun];exact zbb l) ?_
    rw [hrun] at H ⊢
    simp only [hd,Option.getD_some] at H
    exact zuz hop hgd hd (Nat.le_of_ble_eq_true hdn) hm H
   ·cases hu
  ·cases hu
 ·cases hu
theorem wkRF {f:FuncId} {fn:Func} {args:List AV} {h:Heap} {R:AV->Heap->Prop} {kt et:TypeId} {es:List (AV × AV)} (L:Nat->Cfg) (t:TypeId) (hf:E0.P.funcs[f]?=some fn) (l:List St) (live:List Nat) (b:Nat) (l2:List St) (live2:List Nat) (m:Nat) (hok:fnOk fn args=true) (hu:zrT h (zhv fn args h) (orcs l) b=some (zbl l,t,es)) (ht:E0.P.underlying t=some (.map kt et))
  (hk:∀ gi,zkV h live2 m (rngK (zhv fn args h) (orcs l) live b gi) (orcs l2)=some (zbl l2,L gi))
  (hg:∀ gm gi,zbO E0 fn h [gm,gi] (ItF gm gi es none) (L gi) (Shut h.length R)):zbG E0 f args h R :=
 wkR hf l live b hok hu ht fun gm gi=>wkFl l2 live2 m (hk gi) (hg gm gi)
def itE (p:Int × Bool):AV × AV:=(iv p.1,bv p.2)
noncomputable def zob (u:Int) (gi:Nat):Cfg:=zag B.BY 0 [(37,itp gi),(1,iv u)] []
noncomputable def zAW (u:Int) (gi:Nat) (p:Int × Bool):Cfg:=nxtK (nxtK (zj3 (zob u gi)) (orcs []) (.tup [.bl true,iv p.1,bv p.2])) (orcs []) (.tup [iv p.1,bv p.2])
def andI (a b:Int):Int:=IntKind.i64.wrap (↑(BitVec.ofInt IntKind.i64.bits a &&& BitVec.ofInt IntKind.i64.bits b).toNat:Int)
def okP (u:Int) (p:Int × Bool):Bool:=bif andI u p.1==0 then p.2 else true
theorem at_itE {L:List (Int × Bool)} {j:Nat} {kx x:AV} (h:(L.map itE)[j]?=some (kx,x)):∃ p,L[j]?=some p/\kx=iv p.1/\x=bv p.2:=by
 rw [List.getElem?_map,Option.map_eq_some_iff] at h
 obtain ⟨p,h1,h2⟩:=h
 cases h2
 exact ⟨p,h1,rfl,rfl⟩
theorem zqn {α:Type} (f:α->Bool):∀ (l:List α) (j:Nat) (p:α),l[j]?=some p->l.all f=(f p&&(l.eraseIdx j).all f)
 | [],j,p,h=>by simp at h
 | a::l,0,p,h=>by simp at h;subst h;rfl
 | a::l,j+1,p,h=>by
  have:=zqn f l j p (by simpa using h)
  simp only [List.all_cons,this,List.eraseIdx_cons_succ]
  cases f a <;> cases f p <;> rfl
theorem zqM {α β:Type} (f:α->β):∀ (l:List α) (j:Nat),(l.map f).eraseIdx j=(l.eraseIdx j).map f
 | [],_=>rfl
 | a::l,0=>rfl
 | a::l,j+1=>by simp [zqM f l j]
theorem znp (u:Int):∀ (n:Nat) (L:List (Int × Bool)) (cur:Option (AV × AV)) (gm gi:Nat),L.length=n->zbO E0 B.BY [] [gm,gi] (ItF gm gi (L.map itE) cur) (zob u gi) (Shut 0 fun r h=>r=bv (L.all (okP u))/\h=[]):=by
 intro n
 induction n with
 | zero =>
  intro L cur gm gi hL
  cases L with
  | cons _ _=>simp at hL
  | nil=>exact zlL (wkN [] kr (fun _=>zs3 (wkr [] kr)) (fun j kx x hj=>by simp at hj))
 | succ n ih =>
  intro L cur gm gi hL
  refine zlL (wkN [] kr (fun h0=>?_) (fun j kx x hj=>?_))
  ·cases L with
   | nil=>simp at hL
   | cons _ _=>simp at h0
  ·obtain ⟨p,hp,rfl,rfl⟩:=at_itE hj
   rw [zqM]
   have hj2:j < L.length:=(List.getElem?_eq_some_iff.1 hp).1
   have hlen:(L.eraseIdx j).length=n:=by rw [List.length_eraseIdx,if_pos hj2];omega
   have ih:=ih (L.eraseIdx j) (some (iv p.1,bv p.2)) gm gi hlen
   rw [zqn (okP u) L j p hp]
   refine wkE2 [] kr ?_
   show zbO E0 B.BY [] [gm,gi] _ (zAW u gi p) _
   cases h1:andI u p.1==0
   ·have e:okP u p=true:=by unfold okP;rw [h1];rfl
    rw [e,Bool.true_and]
    exact wkFl [si (e:=andI u p.1) rfl,sb h1] [37,1] 0 kr ih
   ·cases h2:!p.2
    ·have e:okP u p=true:=by unfold okP;rw [h1];simpa using h2
     rw [e,Bool.true_and]
     exact wkFl [si (e:=andI u p.1) rfl,sg h1,sb h2] [37,1] 0 kr ih
    ·have e:okP u p=false:=by unfold okP;rw [h1];simpa using h2
     rw [e,Bool.false_and]
     exact zs3 (wkr [si (e:=andI u p.1) rfl,sg h1,sb h2] kr)
def zki (e:X) (z:Bool):List (Int × Bool):=[(1,e.op==0),(2,!e.not),(4,e.val.kind==0&&(e.val.int==0&&(e.val.text==ByteArray.mk #[]&&true))),(8,z),(16,((zad e.args).length:Int)==0),(32,((zah e.sub).length:Int)==0)]
def zjS (e:X):Bool:=bif ByteArray.toList e.table==Zs0.toList then ByteArray.toList e.name==Zs0.toList else false
def zbv (e:X) (u:Int):Bool:=(zki e (zjS e)).all (okP u)
theorem zwH (e:X) (u:Int) (h1:(ByteArray.toList e.table==Zs0.toList)=false):zbG E0 S.BY [e.av,iv u] [] (fun r h=>r=bv ((zki e false).all (okP u))/\h=[]):=by
 exact wkRF (es:=(zki e false).map itE) (zob u) Ty.M_int_bool At.BY [sd [(12,[sq za3]),(18,[sb h1]),(19,[sb h1]),(20,[sb h1]),(21,[sb h1]),(4,[sq (zbd 1)]),(8,[sq (zbd 2)]),(13,[sq (zbd 4)]),(22,[sq (zbd 8)]),(27,[sq (zbd 16)]),(32,[sq (zbd 32)])]] [1] 1 [] [37,1] 0 (kt:=Ty.int) (et:=Ty.bool) kr kr kr (fun gi=>by kernel_rfl) fun gm gi=>(znp u 6 (zki e false) none gm gi rfl)
theorem zym (e:X) (u:Int) (h1:(ByteArray.toList e.table==Zs0.toList)=true):zbG E0 S.BY [e.av,iv u] [] (fun r h=>r=bv ((zki e (zjS e)).all (okP u))/\h=[]):=by
 exact wkRF (es:=(zki e (zjS e)).map itE) (zob u) Ty.M_int_bool At.BY [sd [(12,[sq za3]),(18,[sg h1]),(19,[sg h1]),(20,[sg h1]),(4,[sq (zbd 1)]),(8,[sq (zbd 2)]),(13,[sq (zbd 4)]),(22,[sq (zbd 8)]),(27,[sq (zbd 16)]),(32,[sq (zbd 32)])]] [1] 1 [] [37,1] 0 (kt:=Ty.int) (et:=Ty.bool) kr kr kr (fun gi=>by kernel_rfl) fun gm gi=>(znp u 6 (zki e (zjS e)) none gm gi rfl)
theorem zaz (e:X) (u:Int):zab E0 S.BY [e.av,iv u] [] (bv (zbv e u)) []:=by
 cases h1:ByteArray.toList e.table==Zs0.toList
 ·have:zjS e=false:=by unfold zjS;rw [h1];rfl
  unfold zbv
  rw [this]
  exact zwH e u h1
 ·exact zym e u h1
theorem zpl {p:Prop} (h:p:=by first|exact (zq1 s ‹_›).symm|exact (zpG s ‹_›).symm|exact (zu7 ‹_› ‹_›).symm|exact zAQ ‹_› ‹_› ‹_› ‹_› ‹_› ‹_›|(have h:=(by assumption:_/\List.all _ okC=false);rw [zq0 h.2];exact h.1)):p:=h
theorem zkL {p:Prop} (h:p:=by exact zfU hI hx (by simp only [okC];simp only [*];simp)):p:=h
theorem zr3 {p:Prop} (h:p:=by exact ⟨rfl,zhG hx (by simp only [okC];simp only [*];rfl)⟩):p:=h
def okC (c:UInt8):Bool:=decide (97<=((c.toNat:Nat):Int))&&decide (((c.toNat:Nat):Int)<=122) || (decide (48<=((c.toNat:Nat):Int))&&decide (((c.toNat:Nat):Int)<=57)) || ((c.toNat:Nat):Int)==95
def zaD (s:Str):Bool:=decide (1<=s.data.toList.length)&&decide (s.data.toList.length<=12)&&decide (97<=(s.data.toList.getD 0 0).toNat)&&s.data.toList.all okC
theorem zib (s:Str):s.size=s.data.toList.length:=Array.length_toList.symm
theorem zq1 (s:Str) (h:decide (((s.size:Nat):Int) < 1)=true):zaD s=false:=by
 rw [zib] at h;simp only [decide_eq_true_eq] at h;simp only [zaD,Bool.and_eq_false_iff,decide_eq_false_iff_not];omega
theorem zpG (s:Str) (h:decide ((12:Int) < ((s.size:Nat):Int))=true):zaD s=false:=by
 rw [zib] at h;simp only [decide_eq_true_eq] at h;simp only [zaD,Bool.and_eq_false_iff,decide_eq_false_iff_not];omega
theorem zfU {α:Type} {f:α->Bool} {l:List α} {i:Nat} {x:α} (h:(l.take i).all f=true) (hx:l[i]?=some x) (hf:f x=true):(l.take (i+1)).all f=true:=by
 rw [List.take_add_one,hx,List.all_append,h];simp [hf]
theorem zhG {α:Type} {f:α->Bool} {l:List α} {i:Nat} {x:α} (hx:l[i]?=some x) (hf:f x=false):l.all f=false:=by
 rw [Bool.eq_false_iff];intro h;rw [List.all_eq_true] at h
 rw [h x (List.mem_of_getElem? hx)] at hf;simp at hf
noncomputable def L_vp (s:Str) (i:Nat) :Cfg:=zag B.AO 0 [(0,sv s),(19,.sl (s.data.toList.map u8c)),(20,iv ((s.data.toList.map u8c).length:Nat)),(21,iv (i:Nat))] []
theorem zgK (s:Str) (hs:decide ((12:Int) < ((s.size:Nat):Int))=false) (i:Nat)  (hi:i<=(s.data.toList).length) (hI:(s.data.toList.take i).all okC=true):(((s.data.toList.take (s.data.toList).length).all okC=true)/\(decide ((((s.data.toList).length:Nat):Int) < (((s.data.toList.map u8c).length:Nat):Int))=false)/\∀ R,Good E0 B.AO [] (L_vp s (s.data.toList).length ) R->Good E0 B.AO [] (L_vp s i ) R)\/(∃ (r:Bool),(r=false/\s.data.toList.all okC=false)/\Good E0 B.AO [] (L_vp s i ) (Shut 0 fun rZ hZ=>rZ=(bv r)/\hZ=[])):=by
 have hk:=hi;revert i;refine zlp ((s.data.toList).length) (fun i hlt ih hi hI _=>?_)
 obtain ⟨x,hx⟩:=za4 (l:=s.data.toList) (i:=i) Zo
 have h0:decide (((i:Nat):Int) < (((s.data.toList.map u8c).length:Nat):Int))=true:=by (simp only [List.length_map,decide_eq_true_eq];omega)
 have hw:IntKind.i64.wrap (((i:Nat):Int)+1)=((i+1:Nat):Int):=zaL i (by (simp only [decide_eq_false_iff_not,zib] at hs;omega))
 let p_1:List St:=[sb h0,se (zae u8c hx rfl)]
 cases h1:decide (97<=(x.toNat:Int))
 ·cases h2:decide (48<=(x.toNat:Int))
  ·cases h3:(x.toNat:Int)==95
   ·exact .inr ⟨false,zr3,zaa (wkr (p_1++[sb h1,sb h2,sb h3]) kr)⟩
   ·exact zie2 (ih Zo zkL Zo) fun R gY=>zaa (wkl (p_1++[sb h1,sb h2,sb h3,si hw]) [0,19,20,21] 0 kr gY)
  ·cases h4:decide ((x.toNat:Int)<=57)
   ·cases h5:(x.toNat:Int)==95
    ·exact .inr ⟨false,zr3,zaa (wkr (p_1++[sb h1,sg h2,sb h4,sb h5]) kr)⟩
    ·exact zie2 (ih Zo zkL Zo) fun R gY=>zaa (wkl (p_1++[sb h1,sg h2,sb h4,sb h5,si hw]) [0,19,20,21] 0 kr gY)
   ·exact zie2 (ih Zo zkL Zo) fun R gY=>zaa (wkl (p_1++[sb h1,sg h2,sb h4,si hw]) [0,19,20,21] 0 kr gY)
 ·cases h6:decide ((x.toNat:Int)<=122)
  ·cases h7:decide (48<=(x.toNat:Int))
   ·cases h8:(x.toNat:Int)==95
    ·exact .inr ⟨false,zr3,zaa (wkr (p_1++[sg h1,sb h6,sb h7,sb h8]) kr)⟩
    ·exact zie2 (ih Zo zkL Zo) fun R gY=>zaa (wkl (p_1++[sg h1,sb h6,sb h7,sb h8,si hw]) [0,19,20,21] 0 kr gY)
   ·cases h9:decide ((x.toNat:Int)<=57)
    ·cases h10:(x.toNat:Int)==95
     ·exact .inr ⟨false,zr3,zaa (wkr (p_1++[sg h1,sb h6,sg h7,sb h9,sb h10]) kr)⟩
     ·exact zie2 (ih Zo zkL Zo) fun R gY=>zaa (wkl (p_1++[sg h1,sb h6,sg h7,sb h9,sb h10,si hw]) [0,19,20,21] 0 kr gY)
    ·exact zie2 (ih Zo zkL Zo) fun R gY=>zaa (wkl (p_1++[sg h1,sb h6,sg h7,sb h9,si hw]) [0,19,20,21] 0 kr gY)
  ·exact zie2 (ih Zo zkL Zo) fun R gY=>zaa (wkl (p_1++[sg h1,sb h6,si hw]) [0,19,20,21] 0 kr gY)
theorem zoj {s:Str} {c:UInt8} (h:ByteAt s 0 ((c.toNat:Nat):Int)):s.data.toList.getD 0 0=c:=by
 obtain ⟨_,h1⟩:=h
 rw [Option.map_eq_some_iff] at h1
 obtain ⟨b,hb,e⟩:=h1
 have hc:b=c:=UInt8.toNat_inj.1 Zo
 subst hc
 have hb2:s[(0:Nat)]?=some b:=hb
 by_cases h:0 < s.size
 ·rw [getElem?_pos s 0 h,Option.some.injEq] at hb2
  have h2:0 < s.data.size:=h
  rw [List.getD_eq_getElem?_getD,Array.getElem?_toList,Array.getElem?_eq_getElem h2]
  exact hb2
 ·rw [getElem?_neg s 0 h] at hb2;simp at hb2
theorem zu7 {s:Str} {c:UInt8} (h:ByteAt s 0 ((c.toNat:Nat):Int)) (h1:decide (((c.toNat:Nat):Int) < 97)=true):zaD s=false:=by
 have:=zoj h
 simp only [zaD,this,Bool.and_eq_false_iff,decide_eq_false_iff_not];simp at h1;omega
theorem zq0 {s:Str} (h:s.data.toList.all okC=false):zaD s=false:=by simp [zaD,h]
theorem zAQ {s:Str} {c d:UInt8} (h1:decide (((s.size:Nat):Int) < 1)=false) (h2:decide ((12:Int) < ((s.size:Nat):Int))=false) (h:ByteAt s 0 ((c.toNat:Nat):Int)) (h3:decide (((c.toNat:Nat):Int) < 97)=false) (h4:(s.data.toList.take s.data.toList.length).all okC=true) (h5:ByteAt s 0 ((d.toNat:Nat):Int)):(((d.toNat:Nat):Int) != 95)=zaD s:=by
 have e1:=zoj h
 have e2:=zoj h5
 rw [List.take_length] at h4
 subst e2
 rw [zib] at h1 h2
 rw [← e1] at h3
 simp only [decide_eq_false_iff_not] at h1 h2 h3
 have a1:decide (1<=s.data.toList.length)=true:=by simp only [decide_eq_true_eq];omega
 have a2:decide (s.data.toList.length<=12)=true:=by simp only [decide_eq_true_eq];omega
 have a3:decide (97<=(s.data.toList.getD 0 0).toNat)=true:=by simp only [decide_eq_true_eq];omega
 simp only [zaD,a1,a2,a3,h4,Bool.and_true,bne_iff_ne,ne_eq];omega
theorem zly (s:Str) :∃ (r:Bool),r=zaD s/\zab E0 S.AO [sv s] [] (bv r) []:=by
 cases h1:decide ((↑(ByteArray.size s):Int) < 1)
 ·cases h2:decide (12 < (↑(ByteArray.size s):Int))
  ·obtain ⟨c3,b3⟩:=zol (s:=s) (i:=(0:Int)) (by first|omega|(simp only [decide_eq_false_iff_not,decide_eq_true_eq] at *;omega))
   cases h4:decide ((c3.toNat:Int) < 97)
   ·let p_1:List St:=[sg h1,sg h2,sy b3,sb h4,sqx ((ByteArray.size s).le 1000000000000)]
    rcases zgK s (by first|assumption|omega|(simp;done)|(simp;omega)) 0 (by first|assumption|omega|(simp;done)|(simp;omega)) (by first|assumption|omega|(simp;done)|(simp;omega)) with ⟨q5,q5_1,g5⟩|⟨r5_0,p5_0,g5⟩
    ·exact ⟨(c3.toNat:Int) != (95:Int),zpl,wkc At.AO p_1 [0,19,20,21] 0 kr (g5 _ (zaa (wkr [sb q5_1,sy b3] kr)))⟩
    ·exact ⟨r5_0,zpl,wkc At.AO p_1 [0,19,20,21] 0 kr (g5)⟩
   ·exact ⟨false,zpl,wk At.AO [sg h1,sg h2,sy b3,sb h4] kr⟩
  ·exact ⟨false,zpl,wk At.AO [sg h1,sb h2] kr⟩
 ·exact ⟨false,zpl,wk At.AO [sb h1] kr⟩
theorem zak (s:Str):zab E0 S.AO [sv s] [] (bv (zaD s)) []:=by
 obtain ⟨r,rfl,h⟩:=zly s
 exact h
theorem zcG {p:Prop} (h:p:=by first|exact (zAm ‹_›).symm|(rw [zAl ‹_› ‹_›];clear hq hq2;generalize (e.kind==8)=k8 at *;generalize (e.kind==9)=k9 at *;subst_vars;simp only [zlN,cond_false,cond_true,Bool.or_self,Bool.or_false,Bool.true_or,Bool.false_or,Bool.or_true,Bool.true_and,Bool.false_and,Bool.and_true,Bool.and_false, *])):p:=h
theorem zgn {p:Prop} (h:p:=by first|assumption|omega|exact List.mem_of_getElem? ‹_›|(simp only [bne_eq_false_iff_eq,zev] at *;omega)):p:=h
theorem zkM {p:Prop} (h:p:=by (simp only [zkn,zem, *];simp_all)):p:=h
abbrev sINS:Str:=⟨#[73,78,83,69,82,84,69,68]⟩
abbrev sDEL:Str:=⟨#[68,69,76,69,84,69,68]⟩
abbrev sNW:Str:=⟨#[78,69,87]⟩
abbrev sOL:Str:=⟨#[79,76,68]⟩
abbrev sNo:Str:=⟨#[]⟩
def zbQ (s:Str):Bool:=zaD s || s.toList==sINS.toList || s.toList==sDEL.toList
theorem zox (s:Str) :∃ (r:Bool),r=zbQ s/\zab E0 S.CA [sv s] [] (bv r) []:=by
 cases h1:zaD s
 ·let p_1:List St:=[sc (zak s),sg h1]
  cases h2:ByteArray.toList s==ZsI.toList
  ·exact ⟨ByteArray.toList s==(ByteArray.mk #[(68:UInt8),(69:UInt8),(76:UInt8),(69:UInt8),(84:UInt8),(69:UInt8),(68:UInt8)]).toList,(by (simp only [zbQ, *];simp)),wk At.CA (p_1++[sg h2]) kr⟩
  ·exact ⟨true,(by (simp only [zbQ, *];simp)),wk At.CA (p_1++[sb h2]) kr⟩
 ·exact ⟨true,(by (simp only [zbQ, *];simp)),wk At.CA [sc (zak s),sb h1] kr⟩
theorem zaT (s:Str):zab E0 S.CA [sv s] [] (bv (zbQ s)) []:=by
 obtain ⟨r,rfl,h⟩:=zox s
 exact h
def zem (s:Str):Bool:=s.toList==sNo.toList || s.toList==sNW.toList || s.toList==sOL.toList || s.toList==sINS.toList || s.toList==sDEL.toList || zaD s
def zkn (e:X):Bool:=zem e.table&&zaD e.name
theorem zow (e:X) :∃ (r:Bool),r=zkn e/\zab E0 S.BA [e.av] [] (bv r) []:=by
 cases h1:ByteArray.toList e.table==Zs0.toList
 ·cases h2:ByteArray.toList e.table==ZsN.toList
  ·cases h3:ByteArray.toList e.table==ZsO.toList
   ·cases h4:ByteArray.toList e.table==ZsI.toList
    ·cases h5:ByteArray.toList e.table==ZsD.toList
     ·let p_1:List St:=[sb h1,sb h2,sb h3,sb h4,sb h5,sc (zak e.table)]
      cases h6:!zaD e.table
      ·exact ⟨zaD e.name,zkM,wk At.BA (p_1++[sb h6,sc (zak e.name)]) kr⟩
      ·exact ⟨false,zkM,wk At.BA (p_1++[sb h6]) kr⟩
     ·exact ⟨zaD e.name,zkM,wk At.BA [sb h1,sb h2,sb h3,sb h4,sb h5,sc (zak e.name)] kr⟩
    ·exact ⟨zaD e.name,zkM,wk At.BA [sb h1,sb h2,sb h3,sb h4,sc (zak e.name)] kr⟩
   ·exact ⟨zaD e.name,zkM,wk At.BA [sb h1,sb h2,sb h3,sc (zak e.name)] kr⟩
  ·exact ⟨zaD e.name,zkM,wk At.BA [sb h1,sb h2,sc (zak e.name)] kr⟩
 ·exact ⟨zaD e.name,zkM,wk At.BA [sb h1,sc (zak e.name)] kr⟩
theorem zoV (e:X):zab E0 S.BA [e.av] [] (bv (zkn e)) []:=by
 obtain ⟨r,rfl,h⟩:=zow e
 exact h
def argN (k:Int):Int:=bif k==3 || k==4 || k==6 then 1 else bif k==5 then 2 else bif k==7 then 3 else -1
theorem zlA (k:Int) :∃ (r:Int),r=argN k/\zab E0 S.Bl [iv k] [] (iv r) []:=by
 cases h1:k==3
 ·cases h2:k==4
  ·cases h3:k==6
   ·cases h4:k==5
    ·cases h5:k==7
     ·exact ⟨-1,(by (simp only [argN, *];rfl)),wk At.Bl [sb h1,sb h2,sb h3,sb h4,sb h5] kr⟩
     ·exact ⟨3,(by (simp only [argN, *];rfl)),wk At.Bl [sb h1,sb h2,sb h3,sb h4,sb h5] kr⟩
    ·exact ⟨2,(by (simp only [argN, *];rfl)),wk At.Bl [sb h1,sb h2,sb h3,sb h4] kr⟩
   ·exact ⟨1,(by (simp only [argN, *];rfl)),wk At.Bl [sb h1,sb h2,sb h3] kr⟩
  ·exact ⟨1,(by (simp only [argN, *];rfl)),wk At.Bl [sb h1,sb h2] kr⟩
 ·exact ⟨1,(by (simp only [argN, *];rfl)),wk At.Bl [sb h1] kr⟩
theorem zbY (k:Int):zab E0 S.Bl [iv k] [] (iv (argN k)) []:=by
 obtain ⟨r,rfl,h⟩:=zlA k
 exact h
theorem ziS (e:X) (b:Bool) (h:zab E0 S.Ae [e.av] [] (bv b) []):∃ (r:Bool),r=!b/\zab E0 S.A1 [e.av] [] (bv r) []:=by
 exact ⟨!b,Zr,wk At.A1 [sc h] kr⟩
theorem zi1 (e:X) (b:Bool) (h:zab E0 S.Ae [e.av] [] (bv b) []):zab E0 S.A1 [e.av] [] (bv (!b)) []:=by
 obtain ⟨r,rfl,h⟩:=ziS e b h
 exact h
theorem notT {b:Bool} (h:(!b)=false):b=true:=by simpa using h
theorem notF {b:Bool} (h:(!b)=true):b=false:=by simpa using h
noncomputable def zwB (l:List X) (f:X->Bool) (i:Nat) :Cfg:=zag B.AE 0 [(0,xsl l),(1,.fn S.A1 []),(7,iv ((zad l).length:Nat)),(8,iv (i:Nat))] []
theorem zdJ (l:List X) (f:X->Bool) (hl:zac l) (hf:∀ x∈l,Pure S.Ae [x.av] (bv (f x))) (i:Nat)  (hi:i<=(l).length) (hI:(l.take i).all f=true):(((l.take (l).length).all f=true)/\(decide ((((l).length:Nat):Int) < (((zad l).length:Nat):Int))=false)/\∀ R,Good E0 B.AE [] (zwB l f (l).length ) R->Good E0 B.AE [] (zwB l f i ) R)\/(∃ (r:Int),(decide (0<=r)=true/\l.all f=false)/\Good E0 B.AE [] (zwB l f i ) (Shut 0 fun rZ hZ=>rZ=(iv r)/\hZ=[])):=by
 have hk:=hi;revert i;refine zlp ((l).length) (fun i hlt ih hi hI _=>?_)
 obtain ⟨x,hx,h0,hw⟩:=zlq (l:=l) ((zad l).length) hlt
 have hfx:=zi1 x (f x) (hf x (List.mem_of_getElem? hx))
 cases h1:!f x
 ·exact zie2 (ih Zo (by exact zfU hI hx (notT ‹_›)) Zo) fun R gY=>zaa (wkl [sb h0,se (zbt hx),sc hfx,sb h1,si hw] [0,1,7,8] 0 kr gY)
 ·exact .inr ⟨(i:Int),(by exact ⟨by simp,zhG hx (notF ‹_›)⟩),zaa (wkr [sb h0,se (zbt hx),sc hfx,sb h1] kr)⟩
theorem c_ixE (l:List X) (f:X->Bool) (hl:zac l) (hf:∀ x∈l,Pure S.Ae [x.av] (bv (f x))):∃ (r:Int),decide (0<=r)=!l.all f/\zab E0 S.AE [xsl l,.fn S.A1 []] [] (iv r) []:=by
 rcases zdJ l f (by first|assumption|omega|(simp;done)|(simp;omega)) hf 0 (by first|assumption|omega|(simp;done)|(simp;omega)) (by first|assumption|omega|(simp;done)|(simp;omega)) with ⟨q1,q1_1,g1⟩|⟨r1_0,p1_0,g1⟩
 ·exact ⟨-1,(by first|(have h:=(by assumption:List.all (List.take _ _) _=true);rw [List.take_length] at h;rw [h];rfl)|(have h:=(by assumption:_/\List.all _ _=false);rw [h.1,h.2];rfl)),wkc At.AE [] [0,1,7,8] 0 kr (g1 _ (zaa (wkr [sb q1_1] kr)))⟩
 ·exact ⟨r1_0,(by first|(have h:=(by assumption:List.all (List.take _ _) _=true);rw [List.take_length] at h;rw [h];rfl)|(have h:=(by assumption:_/\List.all _ _=false);rw [h.1,h.2];rfl)),wkc At.AE [] [0,1,7,8] 0 kr (g1)⟩
theorem c_cfE (l:List X) (f:X->Bool) (hi:∃ r:Int,decide (0<=r)=(!l.all f)/\zab E0 S.AE [xsl l,.fn S.A1 []] [] (iv r) []):∃ (r:Bool),r=!l.all f/\zab E0 S.BU [xsl l,.fn S.A1 []] [] (bv r) []:=by
 obtain ⟨r1,q1,c1⟩:=hi
 exact ⟨decide ((0:Int)<=r1),‹_›,wk At.BU [sc c1] kr⟩
theorem c_vxs (l:List X) (f:X->Bool) (hc:zab E0 S.BU [xsl l,.fn S.A1 []] [] (bv (!l.all f)) []):∃ (r:Bool),r=l.all f/\zab E0 S.AU [xsl l] [] (bv r) []:=by
 exact ⟨!!l.all f,(by first|rfl|(simp;done)),wk At.AU [sc hc] kr⟩
theorem ze7 (l:List X) (f:X->Bool) (hl:zac l) (hf:∀ x∈l,Pure S.Ae [x.av] (bv (f x))):zab E0 S.AU [xsl l] [] (bv (l.all f)) []:=by
 obtain ⟨r,rfl,h⟩:=c_cfE l f (c_ixE l f hl hf)
 obtain ⟨r,rfl,h⟩:=c_vxs l f h
 exact h
def zlN (f:X->Bool) (k8 k9:Bool) (q:Qy):Bool:=(q.star==k8)&&(((zad q.items).length:Int)==bif k8 || k9 then 0 else 1)&&zbQ q.frm&&decide (((zad q.wh).length:Int)<=1)&&q.items.all f&&q.wh.all f
def zcU (f:X->Bool) (e:X):Bool:=match e.sub with
 | [q]=>zlN f (e.kind==8) (e.kind==9) q
 | _=>false
theorem zAm {f:X->Bool} {e:X} (h:(((zah e.sub).length:Int) != 1)=true):zcU f e=false:=by
 unfold zcU
 split
 ·rename_i h2;rw [h2] at h;simp at h
 ·rfl
theorem zAl {f:X->Bool} {e:X} {q:Qy} (h:(((zah e.sub).length:Int) != 1)=false) (h2:e.sub[0]?=some q):zcU f e=zlN f (e.kind==8) (e.kind==9) q:=by
 have h3:e.sub=[q]:=by
  cases hs:e.sub with
  | nil=>rw [hs] at h2;simp at h2
  | cons a r =>
   rw [hs] at h2 h;simp at h2;subst h2
   cases r with
   | nil=>rfl
   | cons b r=>simp at h;omega
 unfold zcU;rw [h3]
theorem zpT (e:X) (f:X->Bool) (hq:∀ q∈e.sub,zab E0 S.AU [xsl q.items] [] (bv (q.items.all f)) []) (hq2:∀ q∈e.sub,zab E0 S.AU [xsl q.wh] [] (bv (q.wh.all f)) []):∃ (r:Bool),r=zcU f e/\zab E0 S.AC [e.av] [] (bv r) []:=by
 cases h1:(↑(zah e.sub).length:Int) != 1
 ·obtain ⟨x2,e2⟩:=za4 (l:=e.sub) (i:=0) zgn
  cases h3:e.kind==8
  ·cases h4:e.kind==9
   ·cases h5:x2.star==(e.kind==8)
    ·exact ⟨false,zcG,wk At.AC [sb h1,se (zaB e2),sg h3,sb h4,sb h5] kr⟩
    ·cases h6:(↑(zad x2.items).length:Int)==1
     ·exact ⟨false,zcG,wk At.AC [sb h1,se (zaB e2),sg h3,sb h4,sg h5,sb h6] kr⟩
     ·cases h7:zbQ x2.frm
      ·exact ⟨false,zcG,wk At.AC [sb h1,se (zaB e2),sg h3,sb h4,sg h5,sg h6,sc (zaT x2.frm),sb h7] kr⟩
      ·cases h8:decide ((↑(zad x2.wh).length:Int)<=1)
       ·exact ⟨false,zcG,wk At.AC [sb h1,se (zaB e2),sg h3,sb h4,sg h5,sg h6,sc (zaT x2.frm),sg h7,sb h8] kr⟩
       ·cases h9:x2.items.all f
        ·exact ⟨false,zcG,wk At.AC [sb h1,se (zaB e2),sg h3,sb h4,sg h5,sg h6,sc (zaT x2.frm),sg h7,sg h8,sc (hq x2 zgn),sb h9] kr⟩
        ·exact ⟨x2.wh.all f,zcG,wk At.AC [sb h1,se (zaB e2),sg h3,sb h4,sg h5,sg h6,sc (zaT x2.frm),sg h7,sg h8,sc (hq x2 zgn),sg h9,sc (hq2 x2 zgn)] kr⟩
   ·cases h10:x2.star==(e.kind==8)
    ·exact ⟨false,zcG,wk At.AC [sb h1,se (zaB e2),sg h3,sb h4,sb h10] kr⟩
    ·cases h11:(↑(zad x2.items).length:Int)==0
     ·exact ⟨false,zcG,wk At.AC [sb h1,se (zaB e2),sg h3,sb h4,sg h10,sb h11] kr⟩
     ·cases h12:zbQ x2.frm
      ·exact ⟨false,zcG,wk At.AC [sb h1,se (zaB e2),sg h3,sb h4,sg h10,sg h11,sc (zaT x2.frm),sb h12] kr⟩
      ·cases h13:decide ((↑(zad x2.wh).length:Int)<=1)
       ·exact ⟨false,zcG,wk At.AC [sb h1,se (zaB e2),sg h3,sb h4,sg h10,sg h11,sc (zaT x2.frm),sg h12,sb h13] kr⟩
       ·cases h14:x2.items.all f
        ·exact ⟨false,zcG,wk At.AC [sb h1,se (zaB e2),sg h3,sb h4,sg h10,sg h11,sc (zaT x2.frm),sg h12,sg h13,sc (hq x2 zgn),sb h14] kr⟩
        ·exact ⟨x2.wh.all f,zcG,wk At.AC [sb h1,se (zaB e2),sg h3,sb h4,sg h10,sg h11,sc (zaT x2.frm),sg h12,sg h13,sc (hq x2 zgn),sg h14,sc (hq2 x2 zgn)] kr⟩
  ·cases h15:x2.star==(e.kind==8)
   ·exact ⟨false,zcG,wk At.AC [sb h1,se (zaB e2),sb h3,sb h15] kr⟩
   ·cases h16:(↑(zad x2.items).length:Int)==0
    ·exact ⟨false,zcG,wk At.AC [sb h1,se (zaB e2),sb h3,sg h15,sb h16] kr⟩
    ·cases h17:zbQ x2.frm
     ·exact ⟨false,zcG,wk At.AC [sb h1,se (zaB e2),sb h3,sg h15,sg h16,sc (zaT x2.frm),sb h17] kr⟩
     ·cases h18:decide ((↑(zad x2.wh).length:Int)<=1)
      ·exact ⟨false,zcG,wk At.AC [sb h1,se (zaB e2),sb h3,sg h15,sg h16,sc (zaT x2.frm),sg h17,sb h18] kr⟩
      ·cases h19:x2.items.all f
       ·exact ⟨false,zcG,wk At.AC [sb h1,se (zaB e2),sb h3,sg h15,sg h16,sc (zaT x2.frm),sg h17,sg h18,sc (hq x2 zgn),sb h19] kr⟩
       ·exact ⟨x2.wh.all f,zcG,wk At.AC [sb h1,se (zaB e2),sb h3,sg h15,sg h16,sc (zaT x2.frm),sg h17,sg h18,sc (hq x2 zgn),sg h19,sc (hq2 x2 zgn)] kr⟩
 ·exact ⟨false,zcG,wk At.AC [sb h1] kr⟩
theorem zbP {p:Prop} (h:p:=by (clear hva hin;simp only [vXF,zeu,cond_true,cond_false,Bool.or_true,Bool.or_false,Bool.true_or,Bool.false_or,Bool.or_self, *])):p:=h
def zeu (f:X->Bool) (e:X):Bool:=bif ((zad e.args).length:Int)==argN e.kind then e.args.all f else false
def vXF (f:X->Bool) (e:X):Bool :=
 bif e.kind==1 then (bif zbv e 4 then (bif zaW e.val then !(bif e.val.kind==1 then decide (e.val.int < 0) else false) else false) else false)
 else bif e.kind==2 then (bif zbv e 8 then zkn e else false)
 else bif e.kind==8 || e.kind==9 || e.kind==10 || e.kind==11 || e.kind==12 then (bif zbv e 32 then zcU f e else false)
 else bif e.kind==5 then (bif decide (e.op < 1) then false else bif decide (13 < e.op) then false else bif !zbv e 17 then false else zeu f e)
 else bif e.kind==6 then (bif !zbv e 18 then false else zeu f e)
 else bif !zbv e 16 then false else zeu f e
theorem zlz (e:X) (f:X->Bool) (hs:e.val.small) (hva:zab E0 S.AU [xsl e.args] [] (bv (e.args.all f)) []) (hin:zab E0 S.AC [e.av] [] (bv (zcU f e)) []):∃ (r:Bool),r=vXF f e/\zab E0 S.Ae [e.av] [] (bv r) []:=by
 cases h1:e.kind==1
 ·cases h2:e.kind==2
  ·cases h3:e.kind==8
   ·cases h4:e.kind==9
    ·cases h5:e.kind==10
     ·cases h6:e.kind==11
      ·cases h7:e.kind==12
       ·cases h8:e.kind==5
        ·cases h9:e.kind==6
         ·cases h10:!zbv e 16
          ·cases h11:(↑(zad e.args).length:Int)==argN e.kind
           ·exact ⟨false,zbP,wk At.Ae [sb h1,sb h2,sb h3,sb h4,sb h5,sb h6,sb h7,sb h8,sb h9,sc (zaz e 16),sb h10,sd [(5,[sc (zbY e.kind)]),(8,[sb h11]),(9,[sb h11]),(10,[sb h11]),(11,[sb h11])]] kr⟩
           ·exact ⟨bif (↑(zad e.args).length:Int)==argN e.kind then e.args.all f else false,zbP,wk At.Ae [sb h1,sb h2,sb h3,sb h4,sb h5,sb h6,sb h7,sb h8,sb h9,sc (zaz e 16),sb h10,sd [(5,[sc (zbY e.kind)]),(8,[sg h11]),(9,[sg h11]),(10,[so h11 (sc hva)])]] kr⟩
          ·exact ⟨false,zbP,wk At.Ae [sb h1,sb h2,sb h3,sb h4,sb h5,sb h6,sb h7,sb h8,sb h9,sc (zaz e 16),sb h10] kr⟩
         ·cases h12:!zbv e 18
          ·cases h13:(↑(zad e.args).length:Int)==argN e.kind
           ·exact ⟨false,zbP,wk At.Ae [sb h1,sb h2,sb h3,sb h4,sb h5,sb h6,sb h7,sb h8,sb h9,sc (zaz e 18),sb h12,sd [(5,[sc (zbY e.kind)]),(8,[sb h13]),(9,[sb h13]),(10,[sb h13]),(11,[sb h13])]] kr⟩
           ·exact ⟨bif (↑(zad e.args).length:Int)==argN e.kind then e.args.all f else false,zbP,wk At.Ae [sb h1,sb h2,sb h3,sb h4,sb h5,sb h6,sb h7,sb h8,sb h9,sc (zaz e 18),sb h12,sd [(5,[sc (zbY e.kind)]),(8,[sg h13]),(9,[sg h13]),(10,[so h13 (sc hva)])]] kr⟩
          ·exact ⟨false,zbP,wk At.Ae [sb h1,sb h2,sb h3,sb h4,sb h5,sb h6,sb h7,sb h8,sb h9,sc (zaz e 18),sb h12] kr⟩
        ·cases h14:decide (e.op < 1)
         ·cases h15:decide (13 < e.op)
          ·cases h16:!zbv e 17
           ·cases h17:(↑(zad e.args).length:Int)==argN e.kind
            ·exact ⟨false,zbP,wk At.Ae [sb h1,sb h2,sb h3,sb h4,sb h5,sb h6,sb h7,sb h8,sg h14,sg h15,sc (zaz e 17),sb h16,sd [(5,[sc (zbY e.kind)]),(8,[sb h17]),(9,[sb h17]),(10,[sb h17]),(11,[sb h17])]] kr⟩
            ·exact ⟨bif (↑(zad e.args).length:Int)==argN e.kind then e.args.all f else false,zbP,wk At.Ae [sb h1,sb h2,sb h3,sb h4,sb h5,sb h6,sb h7,sb h8,sg h14,sg h15,sc (zaz e 17),sb h16,sd [(5,[sc (zbY e.kind)]),(8,[sg h17]),(9,[sg h17]),(10,[so h17 (sc hva)])]] kr⟩
           ·exact ⟨false,zbP,wk At.Ae [sb h1,sb h2,sb h3,sb h4,sb h5,sb h6,sb h7,sb h8,sg h14,sg h15,sc (zaz e 17),sb h16] kr⟩
          ·exact ⟨false,zbP,wk At.Ae [sb h1,sb h2,sb h3,sb h4,sb h5,sb h6,sb h7,sb h8,sg h14,sb h15] kr⟩
         ·exact ⟨false,zbP,wk At.Ae [sb h1,sb h2,sb h3,sb h4,sb h5,sb h6,sb h7,sb h8,sb h14] kr⟩
       ·cases h18:zbv e 32
        ·exact ⟨false,zbP,wk At.Ae [sb h1,sb h2,sb h3,sb h4,sb h5,sb h6,sb h7,sc (zaz e 32),sb h18] kr⟩
        ·exact ⟨zcU f e,zbP,wk At.Ae [sb h1,sb h2,sb h3,sb h4,sb h5,sb h6,sb h7,sc (zaz e 32),sg h18,sc hin] kr⟩
      ·cases h19:zbv e 32
       ·exact ⟨false,zbP,wk At.Ae [sb h1,sb h2,sb h3,sb h4,sb h5,sb h6,sc (zaz e 32),sb h19] kr⟩
       ·exact ⟨zcU f e,zbP,wk At.Ae [sb h1,sb h2,sb h3,sb h4,sb h5,sb h6,sc (zaz e 32),sg h19,sc hin] kr⟩
     ·cases h20:zbv e 32
      ·exact ⟨false,zbP,wk At.Ae [sb h1,sb h2,sb h3,sb h4,sb h5,sc (zaz e 32),sb h20] kr⟩
      ·exact ⟨zcU f e,zbP,wk At.Ae [sb h1,sb h2,sb h3,sb h4,sb h5,sc (zaz e 32),sg h20,sc hin] kr⟩
    ·cases h21:zbv e 32
     ·exact ⟨false,zbP,wk At.Ae [sb h1,sb h2,sb h3,sb h4,sc (zaz e 32),sb h21] kr⟩
     ·exact ⟨zcU f e,zbP,wk At.Ae [sb h1,sb h2,sb h3,sb h4,sc (zaz e 32),sg h21,sc hin] kr⟩
   ·cases h22:zbv e 32
    ·exact ⟨false,zbP,wk At.Ae [sb h1,sb h2,sb h3,sc (zaz e 32),sb h22] kr⟩
    ·exact ⟨zcU f e,zbP,wk At.Ae [sb h1,sb h2,sb h3,sc (zaz e 32),sg h22,sc hin] kr⟩
  ·cases h23:zbv e 8
   ·exact ⟨false,zbP,wk At.Ae [sb h1,sb h2,sc (zaz e 8),sb h23] kr⟩
   ·exact ⟨zkn e,zbP,wk At.Ae [sb h1,sb h2,sc (zaz e 8),sg h23,sc (zoV e)] kr⟩
 ·cases h24:zbv e 4
  ·exact ⟨false,zbP,wk At.Ae [sb h1,sc (zaz e 4),sb h24] kr⟩
  ·cases h25:zaW e.val
   ·exact ⟨false,zbP,wk At.Ae [sb h1,sc (zaz e 4),sg h24,sc (zdt e.val (by first|assumption|omega|(simp;done)|(simp;omega))),sb h25] kr⟩
   ·cases h26:e.val.kind==1
    ·exact ⟨!false,zbP,wk At.Ae [sb h1,sc (zaz e 4),sg h24,sc (zdt e.val (by first|assumption|omega|(simp;done)|(simp;omega))),sg h25,sb h26] kr⟩
    ·exact ⟨!decide (e.val.int < (0:Int)),zbP,wk At.Ae [sb h1,sc (zaz e 4),sg h24,sc (zdt e.val (by first|assumption|omega|(simp;done)|(simp;omega))),sg h25,sg h26] kr⟩
def vX:Nat->X->Bool
 | 0,_=>false
 | n+1,e=>vXF (vX n) e
theorem zcp:∀ (n:Nat) (e:X),XOk n e->Pure S.Ae [e.av] (bv (vX n e))
 | 0,_,h=>h.elim
 | n+1,e,⟨hg,ha,hx,hs⟩=>by
  obtain ⟨r,rfl,h⟩:=zpT e (vX n) (fun q hq=>ze7 _ _ (Thin.short (hs q hq).1.1) fun x h'=>zcp n x ((hs q hq).2.1 x h')) (fun q hq=>ze7 _ _ (Thin.short (hs q hq).1.2) fun x h'=>zcp n x ((hs q hq).2.2 x h'))
  obtain ⟨r,rfl,h⟩:=zlz e (vX n) hg.small (ze7 _ _ (Thin.short ha.1) fun x h'=>zcp n x (hx x h')) h
  exact h
theorem zh1 {n:Nat} {l:List X} (hf:zac l) (h:∀ x∈l,XOk n x):zab E0 S.AU [xsl l] [] (bv (l.all (vX n))) []:=ze7 l _ hf fun x hx=>zcp n x (h x hx)
def zcE (f:X->Bool) (l:List X):Bool:=bif decide (((zad l).length:Int)<=1) then l.all f else false
theorem zlB (l:List X) (f:X->Bool) (h:zab E0 S.AU [xsl l] [] (bv (l.all f)) []):∃ (r:Bool),r=zcE f l/\zab E0 S.Bk [xsl l] [] (bv r) []:=by
 cases h1:decide ((↑(zad l).length:Int)<=1)
 ·exact ⟨false,(by (clear h;simp only [zcE,cond_true,cond_false, *])),wk At.Bk [sb h1] kr⟩
 ·exact ⟨l.all f,(by (clear h;simp only [zcE,cond_true,cond_false, *])),wk At.Bk [sg h1,sc h] kr⟩
theorem zgC {n:Nat} {l:List X} (hf:zac l) (h:∀ x∈l,XOk n x):zab E0 S.Bk [xsl l] [] (bv (zcE (vX n) l)) []:=by
 obtain ⟨r,rfl,h⟩:=zlB l (vX n) (zh1 hf h)
 exact h
theorem zxU {p:Prop} (h:p:=by first|(have h:=nm_end ‹_›;unfold zfj;rw [h,show decide (8 < ((List.map zcH l).length:Int))=false by assumption];rfl)|(have h:=‹_/\nmL [] _=false›;unfold zfj;rw [h.1,h.2];cases decide (8 < ((List.map zcH l).length:Int)) <;> rfl)|(unfold zfj;rw [show decide (8 < ((List.map zcH l).length:Int))=true by assumption];rfl)):p:=h
theorem zr4 {p:Prop} (h:p:=by first|assumption|omega|(simp;done)|exact ⟨by simp,by simp⟩|(have h9:=And.left ‹_=List.map Se.col _/\List.all _ _=true›;rw [h9];simp only [zac,List.length_map,List.length_take] at *;omega)):p:=h
theorem zmX {p:Prop} (h:p:=by first|assumption|omega|(simp;done)|(simp;omega)):p:=h
theorem zpp {p:Prop} (h:p:=by (clear ha hb;simp only [qyB,cond_true,cond_false, *])):p:=h
def qyB (f:X->Bool) (q:Qy):Bool:=bif !(q.star==(((zad q.items).length:Int)==0)) then false else bif decide (8 < ((zad q.items).length:Int)) then false else bif zbQ q.frm then (bif q.items.all f then zcE f q.wh else false) else false
theorem zk9 (q:Qy) (f:X->Bool) (ha:zab E0 S.AU [xsl q.items] [] (bv (q.items.all f)) []) (hb:zab E0 S.Bk [xsl q.wh] [] (bv (zcE f q.wh)) []):∃ (r:Bool),r=qyB f q/\zab E0 S.AR [q.av] [] (bv r) []:=by
 cases h1:!q.star==((↑(zad q.items).length:Int)==0)
 ·cases h2:decide (8 < (↑(zad q.items).length:Int))
  ·cases h3:zbQ q.frm
   ·exact ⟨false,zpp,wk At.AR [sg h1,sb h2,sc (zaT q.frm),sb h3] kr⟩
   ·cases h4:q.items.all f
    ·exact ⟨false,zpp,wk At.AR [sg h1,sb h2,sc (zaT q.frm),sg h3,sc ha,sb h4] kr⟩
    ·exact ⟨zcE f q.wh,zpp,wk At.AR [sg h1,sb h2,sc (zaT q.frm),sg h3,sc ha,sg h4,sc hb] kr⟩
  ·exact ⟨false,zpp,wk At.AR [sg h1,sb h2] kr⟩
 ·exact ⟨false,zpp,wk At.AR [sb h1] kr⟩
theorem zli {n:Nat} {q:Qy} (h:QW n q):zab E0 S.AR [q.av] [] (bv (qyB (vX n) q)) []:=by
 obtain ⟨r,rfl,h⟩:=zk9 q (vX n) (zh1 (zaM h.items) h.hi) (zgC (zaM h.wh) h.hw)
 exact h
def zcC (f:X->Bool) (l:List X):Bool:=bif decide (((zad l).length:Int) < 1) then true else bif decide (6 < ((zad l).length:Int)) then true else !l.all f
theorem zjD (l:List X) (f:X->Bool) (ha:zab E0 S.AU [xsl l] [] (bv (l.all f)) []):∃ (r:Bool),r=zcC f l/\zab E0 S.AG [xsl l] [] (bv r) []:=by
 cases h1:decide ((↑(zad l).length:Int) < 1)
 ·cases h2:decide (6 < (↑(zad l).length:Int))
  ·exact ⟨!l.all f,(by (clear ha;simp only [zcC,cond_true,cond_false, *])),wk At.AG [sg h1,sg h2,sc ha] kr⟩
  ·exact ⟨true,(by (clear ha;simp only [zcC,cond_true,cond_false, *])),wk At.AG [sg h1,sb h2] kr⟩
 ·exact ⟨true,(by (clear ha;simp only [zcC,cond_true,cond_false, *])),wk At.AG [sb h1] kr⟩
theorem zqd {n:Nat} {l:List X} (hl:zac l) (h:∀ x∈l,XOk n x):zab E0 S.AG [xsl l] [] (bv (zcC (vX n) l)) []:=by
 obtain ⟨r,rfl,h⟩:=zjD l (vX n) (zh1 hl h)
 exact h
noncomputable def zwA (l:List (List X)) (f:X->Bool) (i:Nat) :Cfg:=zag B.AK 0 [(0,.sl (l.map zaE)),(1,.fn S.AG []),(7,iv ((l.map zaE).length:Nat)),(8,iv (i:Nat))] []
theorem zes (l:List (List X)) (f:X->Bool) (hl:zac l) (hf:∀ x∈l,Pure S.AG [xsl x] (bv (zcC f x))) (i:Nat)  (hi:i<=(l).length) (hI:(l.take i).all (fun r=>!zcC f r)=true):(((l.take (l).length).all (fun r=>!zcC f r)=true)/\(decide ((((l).length:Nat):Int) < (((l.map zaE).length:Nat):Int))=false)/\∀ R,Good E0 B.AK [] (zwA l f (l).length ) R->Good E0 B.AK [] (zwA l f i ) R)\/(∃ (r:Int),(decide (0<=r)=true/\l.all (fun r=>!zcC f r)=false)/\Good E0 B.AK [] (zwA l f i ) (Shut 0 fun rZ hZ=>rZ=(iv r)/\hZ=[])):=by
 have hk:=hi;revert i;refine zlp ((l).length) (fun i hlt ih hi hI _=>?_)
 obtain ⟨x,hx,h0,hw⟩:=zlq (l:=l) ((l.map zaE).length) hlt
 have hfx:=hf x (List.mem_of_getElem? hx)
 let p_1:List St:=[sb h0,se (zae zaE hx rfl),sc hfx]
 cases h1:zcC f x
 ·exact zie2 (ih Zo (by exact zfU hI hx (by simp only [*];rfl)) Zo) fun R gY=>zaa (wkl (p_1++[sb h1,si hw]) [0,1,7,8] 0 kr gY)
 ·exact .inr ⟨(i:Int),(by exact ⟨by simp,zhG hx (by simp only [*];rfl)⟩),zaa (wkr (p_1++[sb h1]) kr)⟩
theorem c_ixR (l:List (List X)) (f:X->Bool) (hl:zac l) (hf:∀ x∈l,Pure S.AG [xsl x] (bv (zcC f x))):∃ (r:Int),decide (0<=r)=!l.all (fun r=>!zcC f r)/\zab E0 S.AK [.sl (l.map zaE),.fn S.AG []] [] (iv r) []:=by
 rcases zes l f zmX hf 0 zmX zmX with ⟨q1,q1_1,g1⟩|⟨r1_0,p1_0,g1⟩
 ·exact ⟨-1,(by first|(have h:=(by assumption:List.all (List.take _ _) _=true);rw [List.take_length] at h;rw [h];rfl)|(have h:=(by assumption:_/\List.all _ _=false);rw [h.1,h.2];rfl)),wkc At.AK [] [0,1,7,8] 0 kr (g1 _ (zaa (wkr [sb q1_1] kr)))⟩
 ·exact ⟨r1_0,(by first|(have h:=(by assumption:List.all (List.take _ _) _=true);rw [List.take_length] at h;rw [h];rfl)|(have h:=(by assumption:_/\List.all _ _=false);rw [h.1,h.2];rfl)),wkc At.AK [] [0,1,7,8] 0 kr (g1)⟩
theorem c_cfR (l:List (List X)) (b:Bool) (hi:∃ r:Int,decide (0<=r)=b/\zab E0 S.AK [.sl (l.map zaE),.fn S.AG []] [] (iv r) []):∃ (r:Bool),r=b/\zab E0 S.B9 [.sl (l.map zaE),.fn S.AG []] [] (bv r) []:=by
 obtain ⟨r1,q1,c1⟩:=hi
 exact ⟨decide ((0:Int)<=r1),‹_›,wk At.B9 [sc c1] kr⟩
def zeD (f:X->Bool) (l:List (List X)):Bool:=bif decide (((l.map zaE).length:Int)<=8) then l.all (fun r=>!zcC f r) else false
theorem zlC (l:List (List X)) (f:X->Bool) (hi:zab E0 S.B9 [.sl (l.map zaE),.fn S.AG []] [] (bv (!l.all (fun r=>!zcC f r))) []):∃ (r:Bool),r=zeD f l/\zab E0 S.BD [.sl (l.map zaE)] [] (bv r) []:=by
 cases h1:decide ((↑(List.map zaE l).length:Int)<=8)
 ·exact ⟨false,(by (clear hi;simp only [zeD,cond_true,cond_false,Bool.not_not, *])),wk At.BD [sb h1] kr⟩
 ·exact ⟨!!l.all fun r=>!zcC f r,(by (clear hi;simp only [zeD,cond_true,cond_false,Bool.not_not, *])),wk At.BD [sg h1,sc hi] kr⟩
theorem zlV {n:Nat} {l:List (List X)} (hl:zac l) (h:∀ r∈l,Few r/\∀ x∈r,XOk n x):zab E0 S.BD [.sl (l.map zaE)] [] (bv (zeD (vX n) l)) []:=by
 obtain ⟨r,rfl,h⟩:=c_cfR l _ (c_ixR l (vX n) hl fun x hx=>zqd (zaM (h x hx).1) (h x hx).2)
 obtain ⟨r,rfl,h⟩:=zlC l (vX n) h
 exact h
def nmL:List Str->List Str->Bool
 | _,[]=>true
 | pre,s::r=>bif !zaD s then false else bif hasS pre s then false else nmL (pre++[s]) r
def zfj (l:List Str):Bool:=bif decide (8 < ((l.map zcH).length:Int)) then false else nmL [] l
theorem zBH {l:List Str} {i:Nat} {x:Str} (h:nmL [] l=nmL (l.take i) (l.drop i)) (hx:l[i]?=some x) (h1:(!zaD x)=false) (h2:hasS (l.take i) x=false):nmL [] l=nmL (l.take (i+1)) (l.drop (i+1)):=by
 obtain ⟨hi,e⟩:=List.getElem?_eq_some_iff.1 hx
 rw [h,List.drop_eq_getElem_cons hi,e]
 simp only [nmL,h1,h2,cond_false]
 rw [List.take_add_one,hx];rfl
theorem zo4 {l:List Str} {i:Nat} {x:Str} (h:nmL [] l=nmL (l.take i) (l.drop i)) (hx:l[i]?=some x) (h1:(!zaD x)=true\/hasS (l.take i) x=true):nmL [] l=false:=by
 obtain ⟨hi,e⟩:=List.getElem?_eq_some_iff.1 hx
 rw [h,List.drop_eq_getElem_cons hi,e]
 rcases h1 with h1|h1
 ·simp only [nmL,h1,cond_true]
 ·simp only [nmL,h1,cond_true];cases !zaD x <;> rfl
theorem nm_end {l:List Str} (h:nmL [] l=nmL (l.take l.length) (l.drop l.length)):nmL [] l=true:=by
 rw [h,List.drop_length];rfl
noncomputable def L_nm (l:List Str) (i:Nat) :Cfg:=zag B.Bx 0 [(0,ssl l),(8,ssl l),(9,iv ((l.map zcH).length:Nat)),(10,iv (i:Nat))] []
theorem ziu (l:List Str) (hl:zac l) (i:Nat)  (hi:i<=(l).length) (hI:nmL [] l=nmL (l.take i) (l.drop i)):((nmL [] l=nmL (l.take (l).length) (l.drop (l).length))/\(decide ((((l).length:Nat):Int) < (((l.map zcH).length:Nat):Int))=false)/\∀ R,Good E0 B.Bx [] (L_nm l (l).length ) R->Good E0 B.Bx [] (L_nm l i ) R)\/(∃ (r:Bool),(r=false/\nmL [] l=false)/\Good E0 B.Bx [] (L_nm l i ) (Shut 0 fun rZ hZ=>rZ=(bv r)/\hZ=[])):=by
 have hk:=hi;revert i;refine zlp ((l).length) (fun i hlt ih hi hI _=>?_)
 obtain ⟨x,hx,h0,hw⟩:=zlq (l:=l) ((l.map zcH).length) hlt
 have hc:zab E0 S.Cm [.sl ((l.map zcH).take i),sv x] [] (bv (hasS (l.take i) x)) []:=by
  rw [← List.map_take];exact zhT (l.take i) x (by simp only [zac,List.length_take] at *;omega)
 let p_1:List St:=[sb h0,se (zae (fun s=>[sv s]) hx rfl),sc (zak x)]
 cases h1:!zaD x
 ·let p_2:List St:=p_1++[sg h1,sqx (SubAt (List.map (fun s=>[sv s]) l) 0 (i:Int) 1),sc hc]
  cases h2:hasS (List.take i l) x
  ·exact zie2 (ih Zo (by exact zBH hI hx ‹_› ‹_›) Zo) fun R gY=>zaa (wkl (p_2++[sb h2,si hw]) [0,8,9,10] 0 kr gY)
  ·exact .inr ⟨false,(by first|exact ⟨rfl,zo4 hI hx (.inl ‹_›)⟩|exact ⟨rfl,zo4 hI hx (.inr ‹_›)⟩),zaa (wkr (p_2++[sb h2]) kr)⟩
 ·exact .inr ⟨false,(by first|exact ⟨rfl,zo4 hI hx (.inl ‹_›)⟩|exact ⟨rfl,zo4 hI hx (.inr ‹_›)⟩),zaa (wkr (p_1++[sb h1]) kr)⟩
theorem zpU (l:List Str) (hl:zac l):∃ (r:Bool),r=zfj l/\zab E0 S.Bx [ssl l] [] (bv r) []:=by
 cases h1:decide (8 < (↑(List.map (fun s=>[sv s]) l).length:Int))
 ·rcases ziu l zmX 0 zmX zmX with ⟨q2,q2_1,g2⟩|⟨r2_0,p2_0,g2⟩
  ·exact ⟨true,zxU,wkc At.Bx [sb h1] [0,8,9,10] 0 kr (g2 _ (zaa (wkr [sb q2_1] kr)))⟩
  ·exact ⟨r2_0,zxU,wkc At.Bx [sb h1] [0,8,9,10] 0 kr (g2)⟩
 ·exact ⟨false,zxU,wk At.Bx [sb h1] kr⟩
theorem zqc (l:List Str) (hl:zac l):zab E0 S.Bx [ssl l] [] (bv (zfj l)) []:=by
 obtain ⟨r,rfl,h⟩:=zpU l hl
 exact h
def zdI (f:X->Bool) (l:List Se):Bool:=bif l.all (fun s=>f s.ex) then zfj (l.map Se.col) else false
noncomputable def L_vs (l:List Se) (f:X->Bool) (i:Nat) (cs:List Str):Cfg:=zag B.AP 0 [(3,.own 0 cs.length),(6,.sl (l.map Se.cells)),(7,iv ((l.map Se.cells).length:Nat)),(8,iv (i:Nat))] [.row Ty.string (cs.map zcH) false]
theorem Zcv1 {p:Prop} (h:p:=by first|rfl|(simp;done)|(simp [X.cells,Qy.cells,V.cells,Col.cells,Rw.cells,Tb.cells,Fr.cells,Sch.cells,Tp.cells,Pl.cells,xCol,xLit,xBin,xNeg,Ac.cells,Se.cells];done)):p:=h
theorem zgL (l:List Se) (f:X->Bool) (hl:zac l) (hf:∀ x∈l,Pure S.Ae [x.ex.av] (bv (f x.ex))) (i:Nat) (cs:List Str) (hi:i<=(l).length) (hI:cs=(l.take i).map Se.col/\(l.take i).all (fun s=>f s.ex)=true):(∃ (cs':List Str),(cs'=(l.take (l).length).map Se.col/\(l.take (l).length).all (fun s=>f s.ex)=true)/\(decide ((((l).length:Nat):Int) < (((l.map Se.cells).length:Nat):Int))=false)/\∀ R,Good E0 B.AP [] (L_vs l f (l).length cs') R->Good E0 B.AP [] (L_vs l f i cs) R)\/(∃ (r:Bool),(r=false/\l.all (fun s=>f s.ex)=false)/\Good E0 B.AP [] (L_vs l f i cs) (Shut 0 fun rZ hZ=>rZ=(bv r)/\hZ=[])):=by
 have hk:=hi;revert i cs;refine zlp ((l).length) (fun i hlt ih cs hi hI _=>?_)
 obtain ⟨x,hx,h0,hw⟩:=zlq (l:=l) ((l.map Se.cells).length) hlt
 have hfx:=hf x (List.mem_of_getElem? hx)
 have hcl:cs.length<=1000000000:=by rw [hI.1];simp only [zac,List.length_map,List.length_take] at *;omega
 let p_1:List St:=[sb h0,se (zae Se.cells hx rfl),sqA (List.map zcH cs) [[sv x.col]] cs.length 1 16,sc hfx]
 cases h1:!f x.ex
 ·exact (ih (cs++[x.col]) Zo (by exact ⟨by rw [hI.1,List.take_add_one,hx];simp,zfU hI.2 hx (notT ‹_›)⟩) Zo).elim (fun ⟨csZ,qZ,xZ,gZ⟩=>.inl ⟨csZ,qZ,xZ,fun R hg=>zaa (wkl (p_1++[sb h1,si hw]) [3,6,7,8] 1 kr (zaw 3 0 (List.map zcH cs++[[sv x.col]]) (gZ R hg) (he:=Zcv1) (hm:=Zcv1)))⟩) (fun ⟨rY,pZ,gZ⟩=>.inr ⟨rY,pZ,zaa (wkl [sb h0,se (zae Se.cells hx rfl),sqA (List.map zcH cs) [[sv x.col]] cs.length 1 16,sc hfx,sb h1,si hw] [3,6,7,8] 1 kr (zaw 3 0 (List.map zcH cs++[[sv x.col]]) gZ (he:=Zcv1) (hm:=Zcv1)))⟩)
 ·exact .inr ⟨false,(by exact ⟨rfl,zhG hx (notF ‹_›)⟩),zaa (wkr (p_1++[sb h1]) kr)⟩
theorem zlD (l:List Se) (f:X->Bool) (hl:zac l) (hf:∀ x∈l,Pure S.Ae [x.ex.av] (bv (f x.ex))):∃ (r:Bool),r=zdI f l/\zab E0 S.AP [.sl (l.map Se.cells)] [] (bv r) []:=by
 rcases zgL l f zr4 hf 0 ([]) zr4 zr4 with ⟨cs1,q1,q1_1,g1⟩|⟨r1_0,p1_0,g1⟩
 ·exact ⟨zfj cs1,(by first|(have h:=‹_=List.map Se.col _/\List.all _ _=true›;obtain ⟨h7,h8⟩:=h;rw [List.take_length] at h7 h8;rw [h7];unfold zdI;rw [h8];rfl)|(have h:=‹_/\List.all _ _=false›;unfold zdI;rw [h.1,h.2];rfl)),wkcN At.AP [] [3,6,7,8] 0 [(.ot 3 Ty.string,1)] kr (g1 _ (zaa (wkr [sb q1_1,skx (cs1.length=(List.map zcH cs1).length/\True) [] (zqc cs1 zr4)] kr)))⟩
 ·exact ⟨r1_0,(by first|(have h:=‹_=List.map Se.col _/\List.all _ _=true›;obtain ⟨h7,h8⟩:=h;rw [List.take_length] at h7 h8;rw [h7];unfold zdI;rw [h8];rfl)|(have h:=‹_/\List.all _ _=false›;unfold zdI;rw [h.1,h.2];rfl)),wkcN At.AP [] [3,6,7,8] 0 [(.ot 3 Ty.string,1)] kr (g1)⟩
theorem zlW {n:Nat} {l:List Se} (hl:zac l) (h:∀ s∈l,XOk n s.ex):zab E0 S.AP [.sl (l.map Se.cells)] [] (bv (zdI (vX n) l)) []:=by
 obtain ⟨r,rfl,h⟩:=zlD l (vX n) hl fun s hs=>zcp n s.ex (h s hs)
 exact h
theorem zhj {p:Prop} (h:p:=by (first|rw [← qy0_eq ‹_›]|skip);(clear hr hs hw hq;simp only [zwC,cond_true,cond_false, *])):p:=h
theorem zkN {p:Prop} (h:p:=by (clear hr hs hw hq;simp only [zwD,cond_true,cond_false, *])):p:=h
theorem zmY {p:Prop} (h:p:=by (clear hr hs hw hq;simp only [zwE,cond_true,cond_false, *])):p:=h
abbrev zrN (a:Ac):Bool:=decide (0 < ((a.rows.map zaE).length:Int))
abbrev zxi (a:Ac):Bool:=decide (0 < ((zah a.query).length:Int))
abbrev zxj (a:Ac):Bool:=decide (0 < ((a.sets.map Se.cells).length:Int))
abbrev hasW_ (a:Ac):Bool:=decide (0 < ((zad a.wh).length:Int))
abbrev noT_ (a:Ac):Bool:=a.text.toList==sNo.toList
abbrev eqRQ (a:Ac):Bool:=zrN a==zxi a
def qy0 (f:X->Bool) (a:Ac):Bool:=match a.query with
 | q::_=>qyB f q
 | []=>false
theorem qy0_eq {f:X->Bool} {a:Ac} {q:Qy} (h:a.query[0]?=some q):qy0 f a=qyB f q:=by
 unfold qy0
 cases hq:a.query with
 | nil=>rw [hq] at h;simp at h
 | cons x r=>rw [hq] at h;simp at h;subst h;rfl
def zwC (f:X->Bool) (a:Ac):Bool:=bif !zaD a.table then false else bif eqRQ a then false else bif zxj a then false else bif hasW_ a then false else bif !noT_ a then false else bif zeD f a.rows then (bif zrN a then true else bif ((zah a.query).length:Int)==1 then qy0 f a else false) else false
def zwD (f:X->Bool) (a:Ac):Bool:=bif zaD a.table then (bif !zrN a then (bif !zxi a then (bif zxj a then (bif !!noT_ a then (bif zdI f a.sets then zcE f a.wh else false) else false) else false) else false) else false) else false
def zwE (f:X->Bool) (a:Ac):Bool:=bif zaD a.table then (bif !zrN a then (bif !zxi a then (bif !zxj a then (bif !!noT_ a then zcE f a.wh else false) else false) else false) else false) else false
theorem zii (a:Ac) (f:X->Bool) (hr:zab E0 S.BD [.sl (a.rows.map zaE)] [] (bv (zeD f a.rows)) []) (hs:zab E0 S.AP [.sl (a.sets.map Se.cells)] [] (bv (zdI f a.sets)) []) (hw:zab E0 S.Bk [xsl a.wh] [] (bv (zcE f a.wh)) []) (hq:∀ q∈a.query,zab E0 S.AR [q.av] [] (bv (qyB f q)) []):∃ (r:Bool),r=zwC f a/\zab E0 S.Ah [.agg (acc 1 a)] [] (bv r) []:=by
 cases h1:!zaD a.table
 ·cases h2:decide (0 < (↑(List.map zaE a.rows).length:Int))==decide (0 < (↑(zah a.query).length:Int))
  ·cases h3:decide (0 < (↑(List.map Se.cells a.sets).length:Int))
   ·cases h4:decide (0 < (↑(zad a.wh).length:Int))
    ·cases h5:!ByteArray.toList a.text==Zs0.toList
     ·cases h6:zeD f a.rows
      ·exact ⟨false,zhj,wk At.Ah [sd [],sc (zak a.table),sb Zt,sg h1,sg h2,sg h3,sg h4,sb h5,sc hr,sb h6] kr⟩
      ·cases h7:decide (0 < (↑(List.map zaE a.rows).length:Int))
       ·cases h8:(↑(zah a.query).length:Int)==1
        ·exact ⟨false,zhj,wk At.Ah [sd [],sc (zak a.table),sb Zt,sg h1,sg h2,sg h3,sg h4,sb h5,sc hr,sg h6,sg h7,sb h8] kr⟩
        ·obtain ⟨x9,e9⟩:=za4 (l:=a.query) (i:=0) (by first|assumption|omega|exact List.mem_of_getElem? ‹_›|(simp only [beq_iff_eq,zev] at *;omega))
         exact ⟨qyB f x9,zhj,wk At.Ah [sd [],sc (zak a.table),sb Zt,sg h1,sg h2,sg h3,sg h4,sb h5,sc hr,sg h6,sg h7,sg h8,se (zaB e9),sc (hq x9 (by first|assumption|omega|exact List.mem_of_getElem? ‹_›|(simp only [beq_iff_eq,zev] at *;omega)))] kr⟩
       ·exact ⟨true,zhj,wk At.Ah [sd [],sc (zak a.table),sb Zt,sg h1,sg h2,sg h3,sg h4,sb h5,sc hr,sg h6,sb h7] kr⟩
     ·exact ⟨false,zhj,wk At.Ah [sd [],sc (zak a.table),sb Zt,sg h1,sg h2,sg h3,sg h4,sb h5] kr⟩
    ·exact ⟨false,zhj,wk At.Ah [sd [],sc (zak a.table),sb Zt,sg h1,sg h2,sg h3,sb h4] kr⟩
   ·exact ⟨false,zhj,wk At.Ah [sd [],sc (zak a.table),sb Zt,sg h1,sg h2,sb h3] kr⟩
  ·exact ⟨false,zhj,wk At.Ah [sd [],sc (zak a.table),sb Zt,sg h1,sb h2] kr⟩
 ·exact ⟨false,zhj,wk At.Ah [sd [],sc (zak a.table),sb Zt,sb h1] kr⟩
theorem zij (a:Ac) (f:X->Bool) (hr:zab E0 S.BD [.sl (a.rows.map zaE)] [] (bv (zeD f a.rows)) []) (hs:zab E0 S.AP [.sl (a.sets.map Se.cells)] [] (bv (zdI f a.sets)) []) (hw:zab E0 S.Bk [xsl a.wh] [] (bv (zcE f a.wh)) []) (hq:∀ q∈a.query,zab E0 S.AR [q.av] [] (bv (qyB f q)) []):∃ (r:Bool),r=zwD f a/\zab E0 S.Ah [.agg (acc 2 a)] [] (bv r) []:=by
 cases h1:zaD a.table
 ·exact ⟨false,zkN,wk At.Ah [sd [],sc (zak a.table),sb Zf,sb Zt,sb h1] kr⟩
 ·cases h2:!decide (0 < (↑(List.map zaE a.rows).length:Int))
  ·exact ⟨false,zkN,wk At.Ah [sd [],sc (zak a.table),sb Zf,sb Zt,sg h1,sb h2] kr⟩
  ·cases h3:!decide (0 < (↑(zah a.query).length:Int))
   ·exact ⟨false,zkN,wk At.Ah [sd [],sc (zak a.table),sb Zf,sb Zt,sg h1,sg h2,sb h3] kr⟩
   ·cases h4:decide (0 < (↑(List.map Se.cells a.sets).length:Int))
    ·exact ⟨false,zkN,wk At.Ah [sd [],sc (zak a.table),sb Zf,sb Zt,sg h1,sg h2,sg h3,sb h4] kr⟩
    ·cases h5:!!ByteArray.toList a.text==Zs0.toList
     ·exact ⟨false,zkN,wk At.Ah [sd [],sc (zak a.table),sb Zf,sb Zt,sg h1,sg h2,sg h3,sg h4,sb h5] kr⟩
     ·cases h6:zdI f a.sets
      ·exact ⟨false,zkN,wk At.Ah [sd [],sc (zak a.table),sb Zf,sb Zt,sg h1,sg h2,sg h3,sg h4,sg h5,sc hs,sb h6] kr⟩
      ·exact ⟨zcE f a.wh,zkN,wk At.Ah [sd [],sc (zak a.table),sb Zf,sb Zt,sg h1,sg h2,sg h3,sg h4,sg h5,sc hs,sg h6,sc hw] kr⟩
theorem zik (a:Ac) (f:X->Bool) (hr:zab E0 S.BD [.sl (a.rows.map zaE)] [] (bv (zeD f a.rows)) []) (hs:zab E0 S.AP [.sl (a.sets.map Se.cells)] [] (bv (zdI f a.sets)) []) (hw:zab E0 S.Bk [xsl a.wh] [] (bv (zcE f a.wh)) []) (hq:∀ q∈a.query,zab E0 S.AR [q.av] [] (bv (qyB f q)) []):∃ (r:Bool),r=zwE f a/\zab E0 S.Ah [.agg (acc 3 a)] [] (bv r) []:=by
 cases h1:zaD a.table
 ·exact ⟨false,zmY,wk At.Ah [sd [],sc (zak a.table),sb Zf,sb Zf,sb Zt,sb h1] kr⟩
 ·cases h2:!decide (0 < (↑(List.map zaE a.rows).length:Int))
  ·exact ⟨false,zmY,wk At.Ah [sd [],sc (zak a.table),sb Zf,sb Zf,sb Zt,sg h1,sb h2] kr⟩
  ·cases h3:!decide (0 < (↑(zah a.query).length:Int))
   ·exact ⟨false,zmY,wk At.Ah [sd [],sc (zak a.table),sb Zf,sb Zf,sb Zt,sg h1,sg h2,sb h3] kr⟩
   ·cases h4:!decide (0 < (↑(List.map Se.cells a.sets).length:Int))
    ·exact ⟨false,zmY,wk At.Ah [sd [],sc (zak a.table),sb Zf,sb Zf,sb Zt,sg h1,sg h2,sg h3,sb h4] kr⟩
    ·cases h5:!!ByteArray.toList a.text==Zs0.toList
     ·exact ⟨false,zmY,wk At.Ah [sd [],sc (zak a.table),sb Zf,sb Zf,sb Zt,sg h1,sg h2,sg h3,sg h4,sb h5] kr⟩
     ·exact ⟨zcE f a.wh,zmY,wk At.Ah [sd [],sc (zak a.table),sb Zf,sb Zf,sb Zt,sg h1,sg h2,sg h3,sg h4,sg h5,sc hw] kr⟩
def actB (f:X->Bool) (a:Ac):Bool:=bif a.kind==1 then zwC f a else bif a.kind==2 then zwD f a else zwE f a
theorem zkv {n:Nat} {a:Ac} (h:AcOk n a) (hk:1<=a.kind/\a.kind<=3):zab E0 S.Ah [a.av] [] (bv (actB (vX n) a)) []:=by
 have h1:=zlV (zaM h.rows) h.row
 have h2:=zlW (zaM h.sets) h.set
 have h3:=zgC (zaM h.wh) h.w
 have h4:∀ q∈a.query,zab E0 S.AR [q.av] [] (bv (qyB (vX n) q)) []:=fun q hq=>zli (h.qs q hq)
 have hk:a.kind=1\/a.kind=2\/a.kind=3:=by omega
 rcases hk with hk|hk|hk
 ·obtain ⟨r,rfl,h5⟩:=zii a (vX n) h1 h2 h3 h4
  have e:a.av=.agg (acc 1 a):=by rw [← hk];rfl
  rw [e];unfold actB;rw [hk];exact h5
 ·obtain ⟨r,rfl,h5⟩:=zij a (vX n) h1 h2 h3 h4
  have e:a.av=.agg (acc 2 a):=by rw [← hk];rfl
  rw [e];unfold actB;rw [hk];exact h5
 ·obtain ⟨r,rfl,h5⟩:=zik a (vX n) h1 h2 h3 h4
  have e:a.av=.agg (acc 3 a):=by rw [← hk];rfl
  rw [e];unfold actB;rw [hk];exact h5
def pfit (a b:Int):Bool :=
 bif a==0 then
  true
 else
  bif b==0 then
   true
  else
   a==b
theorem PrefOk.good {cols:List Col} {vals:List V} (h:zde cols vals):∀ v∈vals,v.Good:=fun v hv=>by
 obtain ⟨k,hk,hkv⟩:=List.mem_iff_getElem.1 hv
 have hl:=h.len
 obtain ⟨c,hc⟩:=za4 (l:=cols) (i:=k) Zo
 exact (h.at_ k c v hc (by rw [← hkv];simp)).good
theorem FsT.ok {frs:List Fr} (h:FsT frs) (n:Nat) (hn:n<=900000):FsOk n frs :=
 ⟨by have:=h.len;omega,fun f hf=>zaM (h.few f hf),fun f hf v hv=>((h.rows f hf).good v hv).small⟩
theorem FsT.g {frs:List Fr} (h:FsT frs):FsG frs:=fun f hf v hv=>(h.rows f hf).good v hv
theorem StoreOk.tbOk {l:List Tb} (h:StoreOk l):TbOk l :=
 ⟨by have:=h.len;simp only [zac];omega,fun x hx=>(h.tabs x hx).2.short,fun x hx=>(h.tabs x hx).1.len,fun x hx r hr v hv=>(((h.tabs x hx).1.rows r hr).good v hv).small⟩
theorem StoreOk.tbG {l:List Tb} (h:StoreOk l):TbG l :=
 ⟨fun x hx r hr v hv=>((h.tabs x hx).1.rows r hr).good v hv,fun x hx=>(h.tabs x hx).1.len⟩
theorem zAg (n:Nat) (hn:n<=1000):FsOk n []:=⟨by simp;omega,fun f hf=>(by cases hf),fun f hf=>(by cases hf)⟩
theorem zBt:FsG []:=fun f hf=>by cases hf
structure Sound (ty:Int × Int) (ev:V × Int):Prop where
 code:ty.2=0->ev.2=0\/ev.2=6\/ev.2=7
 kind:ty.2=0->ev.2=0->ev.1.kind=0\/ev.1.kind=ty.1
structure Res (w:Int) (r:V × Int):Prop where
 code:r.2=0\/r.2=6\/r.2=7
 kind:r.2=0->r.1.kind=0\/r.1.kind=w
theorem Res.null {w:Int} (c:Int) (hc:c=0\/c=6\/c=7):Res w (⟨0,0,⟨#[]⟩⟩,c):=⟨hc,fun _=>.inl rfl⟩
abbrev KOk (v:V) (k:Int):Prop:=v.kind=0\/v.kind=k
/- ### types of operations -/
theorem KOk.trans {v:V} {t k:Int} (h:KOk v t) (ht:t=0\/t=k):KOk v k:=by
 rcases h with h|h
 ·exact .inl h
 ·rcases ht with rfl|rfl
  ·exact .inl h
  ·exact .inr h
inductive Typed:List V->List Int->Prop
 | nil:Typed [] []
 | cons {v:V} {t:Int} {l:List V} {ts:List Int}:KOk v t->Typed l ts->Typed (v::l) (t::ts)
theorem Typed.app {v:V} {t:Int} (hv:KOk v t):∀ {l:List V} {ts:List Int},Typed l ts->Typed (l++[v]) (ts++[t])
 | _,_,.nil=>.cons hv .nil
 | _,_,.cons h1 h2=>.cons h1 (h2.app hv)
theorem zrv {k o:Int} {xs:List X} (h:zfs k o xs=true):zeS k o xs=true:=by
 simp only [zfs,Bool.cond_eq_ite,zbK] at h
 simp only [zeS,Bool.cond_eq_ite,zbK]
 simp at h ⊢
 repeat' split at h
 all_goals simp_all
theorem zrw {k o:Int} {xs:List X} {qs:List Qy} {st:Bool} {it wh:List X} (h:zdX k o xs qs st it wh=true):zeT k o xs qs it wh=true:=by
 have hk:k=1\/k=2\/k=3\/k=4\/k=5\/k=6\/k=7\/k=8\/k=9\/k=10\/k=11\/k=12\/(k≠1/\k≠2/\k≠3/\k≠4/\k≠5/\k≠6/\k≠7/\k≠8/\k≠9/\k≠10/\k≠11/\k≠12):=by omega
 rcases hk with rfl|rfl|rfl|rfl|rfl|rfl|rfl|rfl|rfl|rfl|rfl|rfl|⟨h1,h2,h3,h4,h5,h6,h7,h8,h9,h10,h11,h12⟩
 all_goals simp [zdX,Bool.cond_eq_ite, *] at h
 all_goals (try simp [zeT,Bool.cond_eq_ite,h])
theorem ztZ {e:X} (h:zcI e=true):zb6 e=true:=by
 unfold zcI at h
 unfold zb6
 cases hs:e.sub with
 | nil=>rw [hs] at h;exact zrv h
 | cons q r=>rw [hs] at h;exact zrw h
def er (f:Fr):Fr:=⟨f.name,f.strict,f.cols,[]⟩
theorem zvu (frs:List Fr) (k:Nat):(frs.map er).getD k zaP=er (frs.getD k zaP):=by
 simp only [List.getD_eq_getElem?_getD,List.getElem?_map]
 cases frs[k]? <;> rfl
theorem zvF (frs:List Fr) (q n:Str):∀ k,rres (frs.map er) q n k=rres frs q n k
 | 0=>rfl
 | k+1=>by
  simp only [rres,zkF,zvu,zvF frs q n k]
  rfl
theorem zi4 (frs:List Fr) (q n:Str):zaF (frs.map er) q n=zaF frs q n:=by
 unfold zaF;rw [List.length_map,zvF]
theorem zzk (frs:List Fr) (q n:Str):rFr (frs.map er) q n=er (rFr frs q n):=by
 unfold rFr;rw [zi4,zvu]
structure FrRel (tf vf:List Fr):Prop where
 eq:tf.map er=vf.map er
 rows:∀ f∈vf,zde f.cols f.vals
theorem FrRel.res {tf vf:List Fr} (h:FrRel tf vf) (q n:Str):zaF tf q n=zaF vf q n:=by rw [← zi4 tf,h.eq,zi4]
theorem FrRel.cols {tf vf:List Fr} (h:FrRel tf vf) (q n:Str):(rFr tf q n).cols=(rFr vf q n).cols:=by
 have:er (rFr tf q n)=er (rFr vf q n):=by rw [← zzk,← zzk,h.eq]
 exact (congrArg Fr.cols this:(er _).cols=(er _).cols)
theorem FrRel.ins {tf vf:List Fr} (h:FrRel tf vf) {t:Tb} {v:List V} (hv:zde t.sch.cols v):FrRel (zat tf t.sch []) (zas vf t v):=by
 refine ⟨by simp only [zat,zas,List.map_append,h.eq];rfl,fun f hf=>?_⟩
 simp only [zas,List.mem_append,List.mem_singleton] at hf
 rcases hf with hf|rfl
 ·exact h.rows f hf
 ·exact hv
theorem ztJ (tb:List Tb) (n:Str):∀ (l:List Tb) (i:Nat),zfm tb n l i=match l.find? (fun t=>zan t n) with|some t=>(t.sch,true)|none=>(⟨⟨#[]⟩,[]⟩,false)
 | [],i=>rfl
 | x::r,i=>by
  simp only [zfm,List.find?,zan]
  cases h:x.sch.name.toList==n.toList
  ·exact ztJ tb n r _
  ·rfl
theorem zcV (tb:List Tb) (n:Str):zaG tb n=match zaJ tb n with|some t=>(t.sch,true)|none=>(⟨⟨#[]⟩,[]⟩,false):=ztJ tb n tb 0
theorem zAR {f:X->V × Int} {op:List V->V × Int} {agg:V × Int} {e:X} {frs:List Fr} {tb:List Tb} (h:zb6 e=true) (h8:8<=e.kind) (h12:e.kind<=12):valF f op agg e frs tb=agg:=by
 have hk:e.kind=8\/e.kind=9\/e.kind=10\/e.kind=11\/e.kind=12:=by omega
 unfold valF
 rw [h]
 rcases hk with hk|hk|hk|hk|hk <;> rw [hk] <;> rfl
structure TbT (tb:List Tb):Prop where
 rows:∀ x∈tb,∀ r∈x.rows,zde x.sch.cols r.vals
 len:∀ x∈tb,x.rows.length<=1000
theorem TbT.g {tb:List Tb} (h:TbT tb):TbG tb:=⟨fun x hx r hr v hv=>(h.rows x hx r hr).good v hv,h.len⟩
theorem FrRel.g {tf vf:List Fr} (h:FrRel tf vf):FsG vf:=fun f hf v hv=>(h.rows f hf).good v hv
end Go.AM
