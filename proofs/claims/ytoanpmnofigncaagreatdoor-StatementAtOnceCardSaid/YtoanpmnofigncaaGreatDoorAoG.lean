/-
  Contracts of the program's functions, part 6.
-/
import Derived.Test.YtoanpmnofigncaaGreatDoorAoF
set_option maxRecDepth 100000
set_option maxHeartbeats 40000000
set_option linter.unusedSimpArgs false
set_option linter.unusedVariables false
namespace Go.AM
theorem zgk {p:Prop} (h:p:=by first|assumption|rfl|omega|exact fs2_0 _ _|exact zBE ‹_›|exact fs_sh ‹_› hl|exact fs_i ‹_› hgi):p:=h
theorem zr0 {p:Prop} (h:p:=by first|exact fq0 ‹_›|exact fq1 ‹_› ‹_› ‹_› ‹_›|exact fq2 ‹_› ‹_› ‹_› ‹_›|exact fq3 hk ‹_› ‹_› ‹_›):p:=h
theorem zr1 {p:Prop} (h:p:=by first|(unfold ziJ;rw [show (op==2)=false by rw [eq_of_beq ‹(op==1)=true›];rfl];simp only [*,cond_true,cond_false];first|done|rfl)|(unfold ziJ;simp only [*,cond_true,cond_false];first|done|rfl)):p:=h
theorem ziL {p:Prop} (h:p:=by first|assumption|exact zqZ _ _ _|exact ⟨by decide,by decide⟩|omega):p:=h
theorem zkJ {p:Prop} (h:p:=by (rw [hI,zam hx];simp only [zcO,← zqO, *];first|done|rfl)):p:=h
theorem zgl {p:Prop} (h:p:=by first|assumption|omega|(simp at *;omega)):p:=h
theorem zxN {p:Prop} (h:p:=by (unfold zmS zeQ;simp only [*,cond_true,cond_false];first|done|rfl)):p:=h
theorem zxO {p:Prop} (h:p:=by first|assumption|exact zyW|omega|exact ⟨by decide,by decide⟩):p:=h
theorem zfb (op:Int) (a b:V) (hg:a.Good) (hgb:b.Good) (ho:3<=op/\op<=8):zab E0 S.Ba [iv op,a.av,b.av] [] (.tup [(vCmp op a b).1.av,iv (vCmp op a b).2]) []:=by
 obtain ⟨r,ok,e,h⟩:=zor op a b hg hgb ho
 rw [← e];exact h
theorem zjO (op:Int) (a b:V) (ha:a.Good) (hb:b.Good) (ho:9<=op/\op<=13):zab E0 S.Ao [iv op,a.av,b.av] [] (.tup [(zck op a b).1.av,iv (zck op a b).2]) []:=by
 obtain ⟨r,ok,e,h⟩:=zpR op a b ha hb ho ha.i64 hb.i64
 rw [← e];exact h
theorem zyW:V.Good (zbZ 0):=zbI ⟨by decide,by decide⟩
theorem zit (op:Int) (nt:Bool) (a:V) (val:V) (tn nm:Str) (xs:List X) (qs:List Qy) :∃ (r:V) (e:Int),(r,e)=zkz op nt a/\zab E0 S.AI [X.av (.mk 6 op nt val tn nm xs qs),vsl [a]] [] (.tup [r.av,iv e]) []:=by
 exact ⟨V.mk (2:Int) (if (!(a.kind==(0:Int))==nt)=true then (1:Int) else (0:Int)) Zs0,0,Zr,wk At.AI [sb Zf,sb Zt,sd [(1,[se (xs:=[[iv a.kind,iv a.int,sv a.text]]) (i:=0) (c:=[iv a.kind,iv a.int,sv a.text]) (n:=3) ⟨by decide,rfl,rfl⟩]),(8,[sc (zaR (!(a.kind==0)==nt))])]] kr⟩
theorem zk2 (op:Int) (nt:Bool) (a:V) (val:V) (tn nm:Str) (xs:List X) (qs:List Qy) (ha:a.Good):∃ (r:V) (e:Int),(r,e)=zrS op nt a/\zab E0 S.AI [X.av (.mk 3 op nt val tn nm xs qs),vsl [a]] [] (.tup [r.av,iv e]) []:=by
 exact ⟨(r15t (lnot a).fst (lnot a).snd).fst,(r15t (lnot a).fst (lnot a).snd).snd,Zr,wk At.AI [sb Zt,se (xs:=[[iv a.kind,iv a.int,sv a.text]]) (i:=0) (c:=[iv a.kind,iv a.int,sv a.text]) (n:=3) ⟨by decide,rfl,rfl⟩,sc (zxq a (by first|assumption|omega|(simp;done)|(simp;omega))),sc (zeA ((lnot a).fst) ((lnot a).snd))] kr⟩
theorem zk1 (op:Int) (nt:Bool) (a:V) (val:V) (tn nm:Str) (xs:List X) (qs:List Qy) (ha:a.Good):∃ (r:V) (e:Int),(r,e)=zrR op nt a/\zab E0 S.AI [X.av (.mk 4 op nt val tn nm xs qs),vsl [a]] [] (.tup [r.av,iv e]) []:=by
 exact ⟨(zck 10 (zbZ 0) a).fst,(zck 10 (zbZ 0) a).snd,Zr,wk At.AI [sb Zf,sb Zf,sb Zt,sd [(2,[se (xs:=[[iv a.kind,iv a.int,sv a.text]]) (i:=0) (c:=[iv a.kind,iv a.int,sv a.text]) (n:=3) ⟨by decide,rfl,rfl⟩]),(0,[sc (zbT 0)]),(4,[sc (zjO 10 (zbZ 0) a zxO zxO zxO)])]] kr⟩
theorem zkZ (op:Int) (nt:Bool) (a b c:V) (val:V) (tn nm:Str) (xs:List X) (qs:List Qy) (ha:a.Good) (hb:b.Good) (hc:c.Good):∃ (r:V) (e:Int),(r,e)=zmS op nt a b c/\zab E0 S.AI [X.av (.mk 7 op nt val tn nm xs qs),vsl [a,b,c]] [] (.tup [r.av,iv e]) []:=by
 let p_1:List St:=[sb Zf,sb Zf,sb Zf,sb Zt,sdm [(1,[se (xs:=[[iv a.kind,iv a.int,sv a.text],[iv b.kind,iv b.int,sv b.text],[iv c.kind,iv c.int,sv c.text]]) (i:=1) (c:=[iv b.kind,iv b.int,sv b.text]) (n:=3) ⟨by decide,rfl,rfl⟩]),(4,[se (xs:=[[iv a.kind,iv a.int,sv a.text],[iv b.kind,iv b.int,sv b.text],[iv c.kind,iv c.int,sv c.text]]) (i:=0) (c:=[iv a.kind,iv a.int,sv a.text]) (n:=3) ⟨by decide,rfl,rfl⟩]),(6,[sc (zfb 6 b a ziL ziL ziL)])] 0 [(0,AV.agg [iv 7,iv op,bv nt,iv val.kind,iv val.int,sv val.text,sv tn,sv nm,AV.sl (zad xs),AV.sl (zah qs)]),(1,AV.sl [[iv a.kind,iv a.int,sv a.text],[iv b.kind,iv b.int,sv b.text],[iv c.kind,iv c.int,sv c.text]]),(2,AV.p 0 0),(4,AV.p 1 0),(5,iv 0),(6,AV.p 2 0),(7,iv (vCmp 6 b a).snd),(9,AV.p 0 0),(10,iv 7),(11,AV.bl false),(12,bv (7==3)),(22,AV.bl false),(23,bv (7==6)),(33,AV.bl false),(34,bv (7==4)),(42,AV.bl true),(43,bv (7==7)),(44,AV.tup [AV.agg [iv (vCmp 6 b a).fst.kind,iv (vCmp 6 b a).fst.int,sv (vCmp 6 b a).fst.text],iv (vCmp 6 b a).snd]),(45,AV.sl [[iv a.kind,iv a.int,sv a.text],[iv b.kind,iv b.int,sv b.text],[iv c.kind,iv c.int,sv c.text]]),(46,AV.dp [iv b.kind,iv b.int,sv b.text]),(47,AV.agg [iv b.kind,iv b.int,sv b.text]),(48,AV.sl [[iv a.kind,iv a.int,sv a.text],[iv b.kind,iv b.int,sv b.text],[iv c.kind,iv c.int,sv c.text]]),(49,AV.dp [iv a.kind,iv a.int,sv a.text]),(50,AV.agg [iv a.kind,iv a.int,sv a.text]),(51,AV.tup [AV.agg [iv (vCmp 6 b a).fst.kind,iv (vCmp 6 b a).fst.int,sv (vCmp 6 b a).fst.text],iv (vCmp 6 b a).snd]),(52,AV.agg [iv (vCmp 6 b a).fst.kind,iv (vCmp 6 b a).fst.int,sv (vCmp 6 b a).fst.text]),(53,iv (vCmp 6 b a).snd)] [Blk.box [iv 7,iv op,bv nt,iv val.kind,iv val.int,sv val.text,sv tn,sv nm,AV.sl (zad xs),AV.sl (zah qs)],Blk.box [iv 0,iv 0,sv Zs0],Blk.box [iv (vCmp 6 b a).fst.kind,iv (vCmp 6 b a).fst.int,sv (vCmp 6 b a).fst.text]]]
 cases h1:(vCmp 6 b a).snd != 0
 ·let p_2:List St:=p_1++[sb h1,sdm [(1,[se (xs:=[[iv a.kind,iv a.int,sv a.text],[iv b.kind,iv b.int,sv b.text],[iv c.kind,iv c.int,sv c.text]]) (i:=0) (c:=[iv a.kind,iv a.int,sv a.text]) (n:=3) ⟨by decide,rfl,rfl⟩]),(4,[se (xs:=[[iv a.kind,iv a.int,sv a.text],[iv b.kind,iv b.int,sv b.text],[iv c.kind,iv c.int,sv c.text]]) (i:=2) (c:=[iv c.kind,iv c.int,sv c.text]) (n:=3) ⟨by decide,rfl,rfl⟩]),(6,[sc (zfb 6 a c ziL ziL ziL)])] 0 [(0,AV.agg [iv 7,iv op,bv nt,iv val.kind,iv val.int,sv val.text,sv tn,sv nm,AV.sl (zad xs),AV.sl (zah qs)]),(1,AV.sl [[iv a.kind,iv a.int,sv a.text],[iv b.kind,iv b.int,sv b.text],[iv c.kind,iv c.int,sv c.text]]),(2,AV.p 0 0),(4,AV.p 1 0),(5,iv 0),(6,AV.p 2 0),(7,iv (vCmp 6 a c).snd),(8,AV.p 3 0),(9,AV.p 0 0),(10,iv 7),(11,AV.bl false),(12,bv (7==3)),(22,AV.bl false),(23,bv (7==6)),(33,AV.bl false),(34,bv (7==4)),(42,AV.bl true),(43,bv (7==7)),(44,AV.tup [AV.agg [iv (vCmp 6 b a).fst.kind,iv (vCmp 6 b a).fst.int,sv (vCmp 6 b a).fst.text],iv (vCmp 6 b a).snd]),(45,AV.sl [[iv a.kind,iv a.int,sv a.text],[iv b.kind,iv b.int,sv b.text],[iv c.kind,iv c.int,sv c.text]]),(46,AV.dp [iv b.kind,iv b.int,sv b.text]),(47,AV.agg [iv b.kind,iv b.int,sv b.text]),(48,AV.sl [[iv a.kind,iv a.int,sv a.text],[iv b.kind,iv b.int,sv b.text],[iv c.kind,iv c.int,sv c.text]]),(49,AV.dp [iv a.kind,iv a.int,sv a.text]),(50,AV.agg [iv a.kind,iv a.int,sv a.text]),(51,AV.tup [AV.agg [iv (vCmp 6 b a).fst.kind,iv (vCmp 6 b a).fst.int,sv (vCmp 6 b a).fst.text],iv (vCmp 6 b a).snd]),(52,AV.agg [iv (vCmp 6 b a).fst.kind,iv (vCmp 6 b a).fst.int,sv (vCmp 6 b a).fst.text]),(53,iv (vCmp 6 b a).snd),(54,iv (vCmp 6 b a).snd),(55,AV.bl false),(58,AV.tup [AV.agg [iv (vCmp 6 a c).fst.kind,iv (vCmp 6 a c).fst.int,sv (vCmp 6 a c).fst.text],iv (vCmp 6 a c).snd]),(59,AV.sl [[iv a.kind,iv a.int,sv a.text],[iv b.kind,iv b.int,sv b.text],[iv c.kind,iv c.int,sv c.text]]),(60,AV.dp [iv a.kind,iv a.int,sv a.text]),(61,AV.agg [iv a.kind,iv a.int,sv a.text]),(62,AV.sl [[iv a.kind,iv a.int,sv a.text],[iv b.kind,iv b.int,sv b.text],[iv c.kind,iv c.int,sv c.text]]),(63,AV.dp [iv c.kind,iv c.int,sv c.text]),(64,AV.agg [iv c.kind,iv c.int,sv c.text]),(65,AV.tup [AV.agg [iv (vCmp 6 a c).fst.kind,iv (vCmp 6 a c).fst.int,sv (vCmp 6 a c).fst.text],iv (vCmp 6 a c).snd]),(66,AV.agg [iv (vCmp 6 a c).fst.kind,iv (vCmp 6 a c).fst.int,sv (vCmp 6 a c).fst.text]),(67,iv (vCmp 6 a c).snd)] [Blk.box [iv 7,iv op,bv nt,iv val.kind,iv val.int,sv val.text,sv tn,sv nm,AV.sl (zad xs),AV.sl (zah qs)],Blk.box [iv 0,iv 0,sv Zs0],Blk.box [iv (vCmp 6 b a).fst.kind,iv (vCmp 6 b a).fst.int,sv (vCmp 6 b a).fst.text],Blk.box [iv (vCmp 6 a c).fst.kind,iv (vCmp 6 a c).fst.int,sv (vCmp 6 a c).fst.text]]]
  cases h2:(vCmp 6 a c).snd != 0
  ·exact ⟨(r15t (land (vCmp 6 b a).fst (vCmp 6 a c).fst).fst (land (vCmp 6 b a).fst (vCmp 6 a c).fst).snd).fst,(r15t (land (vCmp 6 b a).fst (vCmp 6 a c).fst).fst (land (vCmp 6 b a).fst (vCmp 6 a c).fst).snd).snd,zxN,wk At.AI (p_2++[sb h2,sc (zoO ((vCmp 6 b a).fst) ((vCmp 6 a c).fst) ziL ziL),sc (zeA ((land (vCmp 6 b a).fst (vCmp 6 a c).fst).fst) ((land (vCmp 6 b a).fst (vCmp 6 a c).fst).snd))]) kr⟩
  ·exact ⟨V.mk 0 0 Zs0,(vCmp 6 a c).snd,zxN,wk At.AI (p_2++[sb h2]) kr⟩
 ·exact ⟨V.mk 0 0 Zs0,(vCmp 6 b a).snd,zxN,wk At.AI (p_1++[sb h1]) kr⟩
theorem zk0 (op:Int) (nt:Bool) (a b:V) (val:V) (tn nm:Str) (xs:List X) (qs:List Qy) (ha:a.Good) (hb:b.Good) (ho:1<=op/\op<=13):∃ (r:V) (e:Int),(r,e)=ziJ op nt a b/\zab E0 S.AI [X.av (.mk 5 op nt val tn nm xs qs),vsl [a,b]] [] (.tup [r.av,iv e]) []:=by
 let p_1:List St:=[sb Zf,sb Zf,sb Zf,sb Zf]
 cases h1:op==1
 ·cases h2:op==2
  ·cases h3:decide (op<=8)
   ·exact ⟨(zck op a b).fst,(zck op a b).snd,zr1,wk At.AI (p_1++[sb h1,sb h2,sb h3,sd [(3,[se (xs:=[[iv a.kind,iv a.int,sv a.text],[iv b.kind,iv b.int,sv b.text]]) (i:=0) (c:=[iv a.kind,iv a.int,sv a.text]) (n:=3) ⟨by decide,rfl,rfl⟩]),(6,[se (xs:=[[iv a.kind,iv a.int,sv a.text],[iv b.kind,iv b.int,sv b.text]]) (i:=1) (c:=[iv b.kind,iv b.int,sv b.text]) (n:=3) ⟨by decide,rfl,rfl⟩]),(8,[sc (zjO op a b zgl zgl zgl)])]]) kr⟩
   ·exact ⟨(vCmp op a b).fst,(vCmp op a b).snd,zr1,wk At.AI (p_1++[sb h1,sb h2,sb h3,sd [(3,[se (xs:=[[iv a.kind,iv a.int,sv a.text],[iv b.kind,iv b.int,sv b.text]]) (i:=0) (c:=[iv a.kind,iv a.int,sv a.text]) (n:=3) ⟨by decide,rfl,rfl⟩]),(6,[se (xs:=[[iv a.kind,iv a.int,sv a.text],[iv b.kind,iv b.int,sv b.text]]) (i:=1) (c:=[iv b.kind,iv b.int,sv b.text]) (n:=3) ⟨by decide,rfl,rfl⟩]),(8,[sc (zfb op a b zgl zgl zgl)])]]) kr⟩
  ·exact ⟨(r15t (land a b).fst (land a b).snd).fst,(r15t (land a b).fst (land a b).snd).snd,zr1,wk At.AI (p_1++[sb h1,sb h2,sd [(1,[se (xs:=[[iv a.kind,iv a.int,sv a.text],[iv b.kind,iv b.int,sv b.text]]) (i:=0) (c:=[iv a.kind,iv a.int,sv a.text]) (n:=3) ⟨by decide,rfl,rfl⟩]),(4,[se (xs:=[[iv a.kind,iv a.int,sv a.text],[iv b.kind,iv b.int,sv b.text]]) (i:=1) (c:=[iv b.kind,iv b.int,sv b.text]) (n:=3) ⟨by decide,rfl,rfl⟩]),(6,[sc (zoO a b zgl zgl)]),(9,[sc (zeA ((land a b).fst) ((land a b).snd))])]]) kr⟩
 ·exact ⟨(r15t (lor a b).fst (lor a b).snd).fst,(r15t (lor a b).fst (lor a b).snd).snd,zr1,wk At.AI (p_1++[sb h1,sd [(1,[se (xs:=[[iv a.kind,iv a.int,sv a.text],[iv b.kind,iv b.int,sv b.text]]) (i:=0) (c:=[iv a.kind,iv a.int,sv a.text]) (n:=3) ⟨by decide,rfl,rfl⟩]),(4,[se (xs:=[[iv a.kind,iv a.int,sv a.text],[iv b.kind,iv b.int,sv b.text]]) (i:=1) (c:=[iv b.kind,iv b.int,sv b.text]) (n:=3) ⟨by decide,rfl,rfl⟩]),(6,[sc (zy1 a b zgl zgl)]),(9,[sc (zeA ((lor a b).fst) ((lor a b).snd))])]]) kr⟩
theorem zys {e:X} (h:OpKind e) (l:List V) (hl:l.length=e.args.length) (hg:∀ v∈l,v.Good):Pure S.AI [e.av,vsl l] (.tup [(eOp e l).1.av,iv (eOp e l).2]):=by
 obtain ⟨hs,hk⟩:=h.cases
 cases e with
 | mk k o nt val tn nm xs qs =>
  simp only [X.sub_mk,X.kind_mk,X.op_mk,X.args_mk] at hs hk hl
  subst hs
  match l,hl,hg with
  | [],hl,_=>simp at hl;omega
  | [a],hl,hg =>
   have ha:=hg a Zs
   simp only [List.length_cons,List.length_nil] at hl
   have:k=3\/k=4\/k=6:=by omega
   rcases this with rfl|rfl|rfl
   ·obtain ⟨r,c,e,h⟩:=zk2 o nt a val tn nm xs [] ha
    have e2:(r,c)=eOp (.mk 3 o nt val tn nm xs []) [a]:=e
    rw [← e2];exact h
   ·obtain ⟨r,c,e,h⟩:=zk1 o nt a val tn nm xs [] ha
    have e2:(r,c)=eOp (.mk 4 o nt val tn nm xs []) [a]:=e
    rw [← e2];exact h
   ·obtain ⟨r,c,e,h⟩:=zit o nt a val tn nm xs []
    have e2:(r,c)=eOp (.mk 6 o nt val tn nm xs []) [a]:=e
    rw [← e2];exact h
  | [a,b],hl,hg =>
   simp only [List.length_cons,List.length_nil] at hl
   obtain ⟨rfl,ho⟩:k=5/\1<=o/\o<=13:=by omega
   obtain ⟨r,c,e,h⟩:=zk0 o nt a b val tn nm xs [] (hg a Zs) (hg b Zs) ho
   have e2:(r,c)=eOp (.mk 5 o nt val tn nm xs []) [a,b]:=e
   rw [← e2];exact h
  | [a,b,c],hl,hg =>
   simp only [List.length_cons,List.length_nil] at hl
   obtain rfl:k=7:=by omega
   obtain ⟨r,x,e,h⟩:=zkZ o nt a b c val tn nm xs [] (hg a Zs) (hg b Zs) (hg c Zs)
   have e2:(r,x)=eOp (.mk 7 o nt val tn nm xs []) [a,b,c]:=e
   rw [← e2];exact h
  | a::b::c::d::r,hl,_=>simp only [List.length_cons] at hl;omega
theorem zzq {v:Int} (h:-9223372036854775808<=v/\v<=9223372036854775807):sat v=(v,true):=if_pos h
theorem zvH {v:Int} (h:¬(-9223372036854775808<=v/\v<=9223372036854775807)):sat v=(0,false):=if_neg h
theorem zvS:∀ (l:List Int),(∀ x∈l,I64 x)->-9223372036854775808 * (l.length:Int)<=l.sum/\l.sum<=9223372036854775807 * (l.length:Int)
 | [],_=>by simp
 | x::r,h=>by
  have h1:=zvS r fun y hy=>h y (by simp [hy])
  have h2:=h x Zs
  simp only [I64] at h2
  simp only [List.sum_cons,List.length_cons]
  omega
theorem zt6 (l0:List Int):∀ (l:List Int) (i:Nat) (hi lo S:Int),hi=(S / 18446744073709551616) % 18446744073709551616->lo=S % 18446744073709551616->W128 (S+l.sum)->(∀ x∈l,I64 x)->sumL l0 l i hi lo=sat (S+l.sum)
 | [],i,hi,lo,S,h1,h2,hw,_=>by
  simp only [sumL,List.sum_nil,Int.add_zero] at hw ⊢
  obtain ⟨w1,w2⟩:=hw
  have hS:S=S / 18446744073709551616 * 18446744073709551616+S % 18446744073709551616:=by omega
  have hL:0<=S % 18446744073709551616/\S % 18446744073709551616 < 18446744073709551616:=by omega
  generalize S / 18446744073709551616=H at h1 hS
  generalize S % 18446744073709551616=L at h2 hS hL
  rw [h1,h2,hS]
  rw [hS] at w1 w2
  simp only [zlH,zfu,IntKind.wrap_i64,Bool.cond_eq_ite,bne_iff_ne,ne_eq]
  by_cases hc:L < 9223372036854775808
  ·have e:(L+9223372036854775808) % 18446744073709551616 - 9223372036854775808=L:=by omega
   have e2:L / 9223372036854775808=0:=by omega
   rw [e,e2]
   by_cases h0:H=0
   ·subst h0
    rw [zzq ⟨by omega,by omega⟩];simp
   ·rw [zvH Zo,if_pos Zo]
  ·have e:(L+9223372036854775808) % 18446744073709551616 - 9223372036854775808=L - 18446744073709551616:=by omega
   have e2:(L - 18446744073709551616) / 9223372036854775808=-1:=by omega
   rw [e,e2]
   by_cases h0:H=-1
   ·subst h0
    rw [zzq ⟨by omega,by omega⟩,if_neg Zd]
    simp only [Prod.mk.injEq,and_true];omega
   ·rw [zvH Zo,if_pos Zo]
 | x::r,i,hi,lo,S,h1,h2,hw,hg=>by
  simp only [sumL,List.sum_cons] at hw ⊢
  have hx:=hg x Zs
  have e:S+(x+r.sum)=S+x+r.sum:=by omega
  rw [e] at hw ⊢
  refine zt6 l0 r _ _ _ (S+x) ?_ ?_ hw fun y hy=>hg y (by simp [hy])
  ·simp only [zb5,zfu,zlH]
   subst h1 h2
   simp only [I64] at hx
   have hq:x / 9223372036854775808=x / 18446744073709551616:=by omega
   have hc:(S % 18446744073709551616+x % 18446744073709551616+0) / 18446744073709551616=(S+x) / 18446744073709551616 - S / 18446744073709551616 - x / 18446744073709551616:=by omega
   rw [hq,hc]
   generalize (S+x) / 18446744073709551616=A
   generalize S / 18446744073709551616=B
   generalize x / 18446744073709551616=C
   omega
  ·simp only [zb5,zfu]
   subst h2
   omega
theorem zx7 {l:List Int} (hl:zac l) (hg:∀ x∈l,I64 x):W128 l.sum:=by
 have h:=zvS l hg
 simp only [zac] at hl
 exact ⟨by omega,by omega⟩
theorem zA5 {l:List Int} (hl:zac l) (hg:∀ x∈l,I64 x):aSum l=sat l.sum:=by
 have h:=zt6 l l 0 0 0 0 rfl rfl (by rw [Int.zero_add];exact zx7 hl hg) hg
 rw [Int.zero_add] at h
 exact h
theorem sum_t {l:List Int} (i:Nat) (hl:zac l) (hg:∀ x∈l,I64 x):W128 (l.take i).sum :=
 zx7 (by simp only [zac,List.length_take] at *;omega) fun x hx=>hg x (List.mem_of_mem_take hx)
theorem sum_p {l:List Int} {i:Nat} {hh ll x:Int} (hl:zac l) (hg:∀ x∈l,I64 x) (h:hh=(l.take i).sum / 18446744073709551616/\ll=(l.take i).sum % 18446744073709551616) (hx:l[i]?=some x):zab E0 S.C8 [.agg [iv hh,uv ll],wv x] [] (wv (l.take (i+1)).sum) []:=by
 have h1:=sum_t i hl hg
 have h2:=sum_t (i+1) hl hg
 have hgx:=hg x (List.mem_of_getElem? hx)
 have e:(l.take (i+1)).sum=(l.take i).sum+x:=by rw [List.take_add_one,hx];simp
 rw [e] at h2 ⊢
 rw [h.1,h.2]
 exact zgh _ _ h2 h1 (by simp only [I64] at hgx;exact ⟨by omega,by omega⟩)
noncomputable def zrF (l:List Int) (i:Nat) (hh ll:Int):Cfg:=zag B.Cx 0 [(4,.p 0 0),(7,isl l),(8,iv ((l.map zaN).length:Nat)),(9,iv (i:Nat))] [.box [iv hh,uv ll]]
theorem zk3 (l:List Int) (hl:zac l) (hg:∀ x∈l,I64 x) (i:Nat) (hh ll:Int) (hi:i<=(l).length) (hI:(hh=(l.take i).sum / 18446744073709551616/\ll=(l.take i).sum % 18446744073709551616)):∃ (hh' ll':Int),((hh'=(l.take (l).length).sum / 18446744073709551616/\ll'=(l.take (l).length).sum % 18446744073709551616))/\(decide ((((l).length:Nat):Int) < (((l.map zaN).length:Nat):Int))=false)/\∀ R,Good E0 B.Cx [] (zrF l (l).length hh' ll') R->Good E0 B.Cx [] (zrF l i hh ll) R:=by
 have hk:=hi;revert i hh ll;refine zlp ((l).length) (fun i hlt ih hh ll hi hI _=>?_)
 obtain ⟨x,hx,h0,hw⟩:=zlq (l:=l) ((l.map zaN).length) hlt
 have hgx:=hg x (List.mem_of_getElem? hx);have hpx:=sum_p hl hg hI hx
 obtain ⟨hhZ,llZ,qZ,xZ,gZ⟩:=ih ((List.take (i+1) l).sum / 18446744073709551616) ((List.take (i+1) l).sum % 18446744073709551616) Zo Zj Zo;exact ⟨hhZ,llZ,qZ,xZ,fun R hg=>zaa (wkl [sb h0,se (zae (fun n=>[iv n]) hx rfl),sd [(2,[sc (zgB x (by first|assumption|omega|(simp;done)|(simp;omega)))]),(3,[sc hpx])],si hw] [4,7,8,9] 1 kr (gZ R hg))⟩
theorem zll (l:List Int) (hl:zac l) (hg:∀ x∈l,I64 x):∃ (s:Int),(s=l.sum/\W128 s)/\decide (((l.length:Nat):Int) < (((l.map zaN).length:Nat):Int))=false/\∀ R,Good E0 B.Cx [] (zrF l l.length (s / 18446744073709551616) (s % 18446744073709551616)) R->Good E0 B.Cx [] (zrF l 0 0 0) R:=by
 obtain ⟨hh,ll,⟨h1,h2⟩,h3,h4⟩:=zk3 l hl hg 0 0 0 Zo ⟨rfl,rfl⟩
 rw [List.take_length] at h1 h2
 exact ⟨l.sum,⟨rfl,zx7 hl hg⟩,h3,by rw [← h1,← h2];exact h4⟩
theorem zwQ (l:List Int) (hl:zac l) (hg:∀ x∈l,I64 x):∃ (n:Int) (ok:Bool),(n,ok)=sat l.sum/\zab E0 S.Cx [isl l] [] (.tup [iv n,bv ok]) []:=by
 obtain ⟨s1,q1,q1_1,g1⟩:=zll l (by first|assumption|rfl|exact (‹_/\W128 _›).2|omega) (by first|assumption|rfl|exact (‹_/\W128 _›).2|omega)
 exact ⟨(sat s1).fst,(sat s1).snd,(by (have q:=(‹_=List.sum _/\W128 _›).1;rw [← q])),wkc At.Cx [] [4,7,8,9] 1 kr (g1 _ (zaa (wkr [sb q1_1,sc (zcg s1 (by first|assumption|rfl|exact (‹_/\W128 _›).2|omega))] kr)))⟩
theorem zxs (l:List Int) (hl:zac l) (hg:∀ x∈l,I64 x):zab E0 S.Cx [isl l] [] (.tup [iv (aSum l).1,bv (aSum l).2]) []:=by
 obtain ⟨n,ok,e,h⟩:=zwQ l hl hg
 rw [zA5 hl hg,← e];exact h
noncomputable def L_fs1 (its:List V) (i:Nat) (l:List Int):Cfg:=zag B.Bp 0 [(4,.p 0 0),(6,.own 1 l.length),(21,vsl its),(22,iv ((its.map V.cells).length:Nat)),(23,iv (i:Nat))] [.box [iv 0,iv 0,sv ⟨#[]⟩],.row Ty.int64 (l.map fun n=>[iv n]) false]
theorem zjj (its:List V) (hl:zac its) (i:Nat) (l:List Int) (hi:i<=(its).length) (hI:l=(its.take i).map V.int):∃ (l':List Int),(l'=(its.take (its).length).map V.int)/\(decide ((((its).length:Nat):Int) < (((its.map V.cells).length:Nat):Int))=false)/\∀ R,Good E0 B.Bp [] (L_fs1 its (its).length l') R->Good E0 B.Bp [] (L_fs1 its i l) R:=by
 have hk:=hi;revert i l;refine zlp ((its).length) (fun i hlt ih l hi hI _=>?_)
 obtain ⟨x,hx,h0,hw⟩:=zlq (l:=its) ((its.map V.cells).length) hlt
 have ho:l.length<=1000000000:=(by rw [hI,List.length_map,List.length_take];simp only [zac] at hl;omega)
 exact Zih (ih (l++[x.int]) Zo (by (rw [List.take_add_one,hx,List.map_append,hI];rfl)) Zo) fun R gY=>zaa (wkl [sb h0,se (zae V.cells hx rfl),sqA (List.map (fun n=>[iv n]) l) [[iv x.int]] l.length 1 8,si hw] [4,6,21,22,23] 2 kr (zaw 6 1 (List.map (fun n=>[iv n]) l++[[iv x.int]]) gY (he:=Zcv2) (hm:=Zcv2)))
def zcO (k:Int):List V->V->V
 | [],m=>m
 | x::r,m=>zcO k r (bif (k==11&&decide (cmpV x m < 0)) || (k==12&&decide (0 < cmpV x m)) then x else m)
noncomputable def L_fs2 (k:Int) (its:List V) (i:Nat) (m:V):Cfg:=zag B.Bp 1 [(0,iv k),(4,.p 0 0),(11,.p 1 0),(46,vsl its),(47,iv ((its.map V.cells).length:Nat)),(48,iv (i:Nat))] [.box [iv 0,iv 0,sv ⟨#[]⟩],.box m.cells]
theorem zjk (k:Int) (its:List V) (hl:zac its) (i:Nat) (m:V) (hi:i<=(its).length) (hI:zcO k its (its.headD V.null)=zcO k (its.drop i) m):∃ (m':V),(zcO k its (its.headD V.null)=zcO k (its.drop (its).length) m')/\(decide ((((its).length:Nat):Int) < (((its.map V.cells).length:Nat):Int))=false)/\∀ R,Good E0 B.Bp [] (L_fs2 k its (its).length m') R->Good E0 B.Bp [] (L_fs2 k its i m) R:=by
 have hk:=hi;revert i m;refine zlp ((its).length) (fun i hlt ih m hi hI _=>?_)
 obtain ⟨x,hx,h0,hw⟩:=zlq (l:=its) ((its.map V.cells).length) hlt
 let p_1:List St:=[sb h0,se (zae V.cells hx rfl),sc (zf1 x m)]
 cases h1:k==11
 ·cases h2:k==12
  ·exact Zih (ih m Zo zkJ Zo) fun R gY=>zaa (wkl (p_1++[sb h1,sb h2,si hw]) [0,4,11,46,47,48] 2 kr gY)
  ·cases h3:decide (0 < rCmp x m)
   ·exact Zih (ih m Zo zkJ Zo) fun R gY=>zaa (wkl (p_1++[sb h1,sg h2,sb h3,si hw]) [0,4,11,46,47,48] 2 kr gY)
   ·exact Zih (ih x Zo zkJ Zo) fun R gY=>zaa (wkl (p_1++[sb h1,sg h2,sb h3,si hw]) [0,4,11,46,47,48] 2 kr gY)
 ·cases h4:decide (rCmp x m < 0)
  ·cases h5:k==12
   ·exact Zih (ih m Zo zkJ Zo) fun R gY=>zaa (wkl (p_1++[sg h1,sg h4,sb h5,si hw]) [0,4,11,46,47,48] 2 kr gY)
   ·cases h6:decide (0 < rCmp x m)
    ·exact Zih (ih m Zo zkJ Zo) fun R gY=>zaa (wkl (p_1++[sg h1,sg h4,sg h5,sb h6,si hw]) [0,4,11,46,47,48] 2 kr gY)
    ·exact Zih (ih x Zo zkJ Zo) fun R gY=>zaa (wkl (p_1++[sg h1,sg h4,sg h5,sb h6,si hw]) [0,4,11,46,47,48] 2 kr gY)
  ·exact Zih (ih x Zo zkJ Zo) fun R gY=>zaa (wkl (p_1++[sg h1,sb h4,si hw]) [0,4,11,46,47,48] 2 kr gY)
theorem zyD (a:V):cmpV a a=0:=by
 have h1:∀ n:Int,cmpI n n=0:=fun n=>by simp [cmpI]
 have h2:cmpS a.text a.text=0:=by
  have h:=(zvm).zero a.text a.text
  rw [← h.2 rfl]
  exact (zqq _ _).symm
 simp [cmpV,orI,h1,h2]
theorem zpN (l0:List V):∀ (l:List V) (i:Nat) (m:V),zcO 11 l m=minL l0 l i m
 | [],_,_=>rfl
 | x::r,i,m=>by
  show zcO 11 r (bif ((11:Int)==11&&decide (cmpV x m < 0)) || ((11:Int)==12&&decide (0 < cmpV x m)) then x else m)=bif decide (cmpV x m < 0) then minL l0 r (i+1) x else minL l0 r (i+1) m
  cases decide (cmpV x m < 0)
  ·exact zpN l0 r (i+1) m
  ·exact zpN l0 r (i+1) x
theorem zpM (l0:List V):∀ (l:List V) (i:Nat) (m:V),zcO 12 l m=maxL l0 l i m
 | [],_,_=>rfl
 | x::r,i,m=>by
  show zcO 12 r (bif ((12:Int)==11&&decide (cmpV x m < 0)) || ((12:Int)==12&&decide (0 < cmpV x m)) then x else m)=bif decide (0 < cmpV x m) then maxL l0 r (i+1) x else maxL l0 r (i+1) m
  cases decide (0 < cmpV x m)
  ·exact zpM l0 r (i+1) m
  ·exact zpM l0 r (i+1) x
theorem zyn (k:Int) (x:V) (r:List V):zcO k (x::r) x=zcO k r x:=by
 simp only [zcO,zyD]
 cases k==11 <;> cases k==12 <;> rfl
def zdh (k:Int) (its:List V):V × Int:=bif ((its.length:Nat):Int)==0 then (V.null,0) else bif k==10 then eSum its else bif k==11 then (minV its,0) else (maxV its,0)
theorem fs2_0 (k:Int) (its:List V):zcO k its (its.headD V.null)=zcO k (its.drop 0) (zao its 0):=by
 cases its <;> rfl
theorem zBE {its:List V} (h:(((its.map V.cells).length:Int)==0)=false):0 < (its.length:Int):=by
 cases its with
 | nil=>simp at h
 | cons x r=>simp only [List.length_cons];omega
theorem fs_sh {its:List V} {l:List Int} (h:l=(its.take its.length).map V.int) (hl:zac its):zac l:=by
 rw [h,List.take_length];simpa [zac] using hl
theorem fs_i {its:List V} {l:List Int} (h:l=(its.take its.length).map V.int) (hg:∀ x∈its.map V.int,I64 x):∀ x∈l,I64 x:=by
 rw [h,List.take_length];exact hg
theorem fq0 {k:Int} {its:List V} (h:(((its.map V.cells).length:Int)==0)=true):(V.mk 0 0 Zs0,0)=zdh k its:=by
 unfold zdh;rw [List.length_map] at h;rw [h];rfl
theorem fld0 {k:Int} {its:List V} (h:(((its.map V.cells).length:Int)==0)=false):zdh k its=bif k==10 then eSum its else bif k==11 then (minV its,0) else (maxV its,0):=by
 unfold zdh;rw [List.length_map] at h;rw [h];rfl
theorem fq1 {k:Int} {its:List V} {l:List Int} (h:(((its.map V.cells).length:Int)==0)=false) (h2:(k==10)=true) (hI:l=(its.take its.length).map V.int) (h5:(!(aSum l).snd)=false):(zbZ (aSum l).fst,0)=zdh k its:=by
 rw [List.take_length] at hI
 rw [fld0 h,h2,zpW,← hI,h5];rfl
theorem fq2 {k:Int} {its:List V} {l:List Int} (h:(((its.map V.cells).length:Int)==0)=false) (h2:(k==10)=true) (hI:l=(its.take its.length).map V.int) (h5:(!(aSum l).snd)=true):(V.mk 0 0 Zs0,6)=zdh k its:=by
 rw [List.take_length] at hI
 rw [fld0 h,h2,zpW,← hI,h5];rfl
theorem fq3 {k:Int} {its:List V} {m:V} (hk:k=10\/k=11\/k=12) (h:(((its.map V.cells).length:Int)==0)=false) (h2:(k==10)=false) (hI:zcO k its (its.headD V.null)=zcO k (its.drop its.length) m):(m,0)=zdh k its:=by
 rw [List.drop_length] at hI
 rw [fld0 h,h2]
 have hm:m=zcO k its (its.headD V.null):=hI.symm
 cases its with
 | nil=>simp at h
 | cons x r =>
  rw [show (x::r).headD V.null=x from rfl,zyn] at hm
  rw [hm]
  rcases hk with rfl|rfl|rfl
  ·cases h2
  ·rw [zpN (x::r) r 1 x];rfl
  ·rw [zpM (x::r) r 1 x];rfl
theorem zsz (k:Int) (its:List V) (hl:zac its) (hg:∀ x∈its,x.Good) (hk:k=10\/k=11\/k=12) (hgi:∀ x∈its.map V.int,I64 x):∃ (r:V) (e:Int),(r,e)=zdh k its/\zab E0 S.Bp [iv k,vsl its] [] (.tup [r.av,iv e]) []:=by
 cases h1:(↑(List.map V.cells its).length:Int)==0
 ·cases h2:k==10
  ·obtain ⟨m3,q3,q3_1,g3⟩:=zjk k its zgk 0 (zao its 0) zgk zgk
   exact ⟨m3,0,zr0,wkc At.Bp [sb h1,sb h2,se (zcB its 0 zgk zgk)] [0,4,11,46,47,48] 2 kr (g3 _ (zaa (wkr [sb q3_1] kr)))⟩
  ·obtain ⟨l4,q4,q4_1,g4⟩:=zjj its zgk 0 ([]) zgk zgk
   let p_1:List St:=[sb q4_1,skx (l4.length=(List.map (fun n=>[iv n]) l4).length/\True) [] (zxs l4 zgk zgk)]
   cases h5:!(aSum l4).snd
   ·exact ⟨zbZ (aSum l4).fst,0,zr0,wkcN At.Bp [sb h1,sb h2] [4,6,21,22,23] 1 [(.ot 6 Ty.int64,2)] kr (g4 _ (zaa (wkr (p_1++[sb h5,sc (zbT ((aSum l4).fst))]) kr)))⟩
   ·exact ⟨V.mk 0 0 Zs0,6,zr0,wkcN At.Bp [sb h1,sb h2] [4,6,21,22,23] 1 [(.ot 6 Ty.int64,2)] kr (g4 _ (zaa (wkr (p_1++[sb h5]) kr)))⟩
 ·exact ⟨V.mk 0 0 Zs0,0,zr0,wk At.Bp [sb h1] kr⟩
theorem zti (k:Int) (its:List V) (hl:zac its) (hg:∀ x∈its,x.Good) (hk:k=10\/k=11\/k=12):zab E0 S.Bp [iv k,vsl its] [] (.tup [(zdh k its).1.av,iv (zdh k its).2]) []:=by
 obtain ⟨r,c,e,h⟩:=zsz k its hl hg hk fun x hx=>by
  obtain ⟨v,hv,rfl⟩:=List.mem_map.1 hx
  exact (hg v hv).i64
 rw [← e];exact h
theorem zdF {p:Prop} (h:p:=by first|assumption|exact hfo.short|exact hfo.cols|exact hfo.wrap|exact zBX ‹_›|exact zzl ‹_›|exact zso ‹_›|exact opK hs ‹_› ‹_› ‹_›|exact evI0|exact EvI.len ‹_›|exact EvI.good ‹_›|omega):p:=h
theorem zkK {p:Prop} (h:p:=by (unfold val0;simp only [*,cond_true,cond_false];first|done|rfl|exact (EvI.fin ‹_›).symm)):p:=h
theorem zia (e:X):zcI e=zb6 e:=by
 cases h:zb6 e
 ·cases h2:zcI e
  ·rfl
  ·rw [ztZ h2] at h;cases h
 ·obtain ⟨k,op,nt,val,tn,nm,xs,qs⟩:=e
  cases qs with
  | nil =>
   have hc:=zdq (show zeS k op xs=true from h)
   show zfs k op xs=true
   rcases hc with ⟨hk|hk,h1⟩|⟨hk|hk|hk,h1⟩|⟨hk,h1,h2,h3⟩|⟨hk,h1⟩ <;> subst hk <;> simp [zfs,h1] <;> omega
  | cons q r =>
   obtain ⟨st,it,fm,wh⟩:=q
   obtain ⟨h1,h2,h3,h4⟩:=zez Zs (show zeT k op xs (Qy.mk st it fm wh::r) it wh=true from h)
   show zdX k op xs (Qy.mk st it fm wh::r) st it wh=true
   have h2':r=[]:=by cases r <;> simp_all
   subst h2'
   rcases h4 with ⟨hk|hk,h5⟩|⟨hk|hk|hk,h5⟩ <;> subst hk <;> simp [zdX,h1,h5] <;> omega
def zbe (tb:List Tb) (n:Str):List Rw:=match zaJ tb n with|some t=>t.rows|none=>[]
theorem zxI {tb:List Tb} {n:Str} {i:Nat} {x:Tb} {z:List Rw} (h:z=zbe (tb.drop i) n) (hx:tb[i]?=some x) (hn:(x.sch.name.toList==n.toList)=false):z=zbe (tb.drop (i+1)) n:=by
 rw [h,zam hx];unfold zbe zaJ;rw [List.find?_cons]
 have:zan x n=false:=hn
 rw [this]
theorem zzn {tb:List Tb} {n:Str} {i:Nat} {x:Tb} {z:List Rw} (h:z=zbe (tb.drop i) n) (hx:tb[i]?=some x) (hn:(x.sch.name.toList==n.toList)=true):x.rows=z:=by
 rw [h,zam hx];unfold zbe zaJ;rw [List.find?_cons]
 have:zan x n=true:=hn
 rw [this]
noncomputable def zwr (tb:List Tb) (n:Str) (i:Nat) :Cfg:=zag B.B4 0 [(1,sv n),(8,tsl tb),(9,iv ((tb.map Tb.cells).length:Nat)),(10,iv (i:Nat))] []
theorem zjl (tb:List Tb) (n:Str) (hl:zac tb) (i:Nat)  (hi:i<=(tb).length) (hI:zbe tb n=zbe (tb.drop i) n):((zbe tb n=zbe (tb.drop (tb).length) n)/\(decide ((((tb).length:Nat):Int) < (((tb.map Tb.cells).length:Nat):Int))=false)/\∀ R,Good E0 B.B4 [] (zwr tb n (tb).length ) R->Good E0 B.B4 [] (zwr tb n i ) R)\/(∃ (r:List Rw) (b:Bool),r=zbe tb n/\Good E0 B.B4 [] (zwr tb n i ) (Shut 0 fun rZ hZ=>rZ=(.tup [.sl (r.map Rw.cells),bv b])/\hZ=[])):=by
 have hk:=hi;revert i;refine zlp ((tb).length) (fun i hlt ih hi hI _=>?_)
 obtain ⟨x,hx,h0,hw⟩:=zlq (l:=tb) ((tb.map Tb.cells).length) hlt
 let p_1:List St:=[sb h0,se (zae Tb.cells hx rfl)]
 cases h1:ByteArray.toList x.sch.name==ByteArray.toList n
 ·exact (ih Zo (by exact zxI hI hx ‹_›) Zo).elim (fun ⟨qZ,xZ,gZ⟩=>.inl ⟨qZ,xZ,fun R hg=>zaa (wkl (p_1++[sb h1,si hw]) [1,8,9,10] 0 kr (gZ R hg))⟩) (fun ⟨rY,bY,pZ,gZ⟩=>.inr ⟨rY,bY,pZ,zaa (wkl [sb h0,se (zae Tb.cells hx rfl),sb h1,si hw] [1,8,9,10] 0 kr gZ)⟩)
 ·exact .inr ⟨x.rows,true,(by exact zzn hI hx ‹_›),zaa (wkr (p_1++[sb h1]) kr)⟩
theorem zsA (tb:List Tb) (n:Str) (hl:zac tb):∃ (r:List Rw) (b:Bool),r=zbe tb n/\zab E0 S.B4 [tsl tb,sv n] [] (.tup [.sl (r.map Rw.cells),bv b]) []:=by
 rcases zjl tb n Za 0 Za Za with ⟨q1,q1_1,g1⟩|⟨r1_0,r1_1,p1_0,g1⟩
 ·exact ⟨[],false,(by first|assumption|(rw [‹zbe _ _=zbe _ _›,List.drop_length];rfl)),wkc At.B4 [] [1,8,9,10] 0 kr (g1 _ (zaa (wkr [sb q1_1] kr)))⟩
 ·exact ⟨r1_0,r1_1,(by first|assumption|(rw [‹zbe _ _=zbe _ _›,List.drop_length];rfl)),wkc At.B4 [] [1,8,9,10] 0 kr (g1)⟩
theorem zmu (tb:List Tb) (n:Str) (hl:zac tb):∃ (b:Bool),zab E0 S.B4 [tsl tb,sv n] [] (.tup [.sl ((zbe tb n).map Rw.cells),bv b]) []:=by
 obtain ⟨_,b,rfl,h⟩:=zsA tb n hl
 exact ⟨b,h⟩
theorem zAd {f:X->V × Int} {op:List V->V × Int} {e:X} {frs:List Fr} {tb:List Tb} {l:List X} {i:Nat} {out:List V} {x:X} {z:V × Int} (h:z=evL f op e frs tb (l.drop i) i out) (hx:l[i]?=some x) (h1:((f x).2 != 0)=false):z=evL f op e frs tb (l.drop (i+1)) (i+1) (out++[(f x).1]):=by
 rw [h,zam hx];simp only [evL,h1,cond_false]
theorem zBq {f:X->V × Int} {op:List V->V × Int} {e:X} {frs:List Fr} {tb:List Tb} {l:List X} {i:Nat} {out:List V} {x:X} {z:V × Int} (h:z=evL f op e frs tb (l.drop i) i out) (hx:l[i]?=some x) (h1:((f x).2 != 0)=true):(V.mk 0 0 Zs0,(f x).2)=z:=by
 rw [h,zam hx];simp only [evL,h1,cond_true]
structure EvI (f:X->V × Int) (op:List V->V × Int) (e:X) (frs:List Fr) (tb:List Tb) (i:Nat) (out:List V):Prop where
 eq:evL f op e frs tb e.args 0 []=evL f op e frs tb (e.args.drop i) i out
 len:out.length=i
 good:∀ v∈out,v.Good
theorem EvI.step {f:X->V × Int} {op:List V->V × Int} {e:X} {frs:List Fr} {tb:List Tb} {i:Nat} {out:List V} {x:X} (h:EvI f op e frs tb i out) (hx:e.args[i]?=some x) (h1:((f x).2 != 0)=false) (hg:(f x).1.Good):EvI f op e frs tb (i+1) (out++[(f x).1]) :=
 ⟨zAd h.eq hx h1,by simp [h.len],fun v hv=>(List.mem_append.1 hv).elim (h.good v) fun h=>by simp only [List.mem_singleton] at h;exact h ▸ hg⟩
noncomputable def zws (f:X->V × Int) (e:X) (frs:List Fr) (tb:List Tb) (i:Nat) (out:List V):Cfg:=zag B.Am 0 [(1,fsl frs),(2,tsl tb),(3,.p 0 0),(6,.p 1 0),(11,.own 2 out.length),(69,xsl e.args),(70,iv ((zad e.args).length:Nat)),(71,iv (i:Nat))] [.box e.cells,.box [iv 0,iv 0,sv ⟨#[]⟩],.row Ty.Value (out.map V.cells) false]
theorem Zcv8 {p:Prop} (h:p:=by first|rfl|(simp;done)|(simp [X.cells,Qy.cells,V.cells,Col.cells,Rw.cells,Tb.cells,Fr.cells,Sch.cells,Tp.cells,Pl.cells,xCol,xLit,xBin,xNeg,Rw.cells,zaN];done)):p:=h
theorem zis (f:X->V × Int) (e:X) (frs:List Fr) (tb:List Tb) (hl:Few e.args) (hf:∀ x∈e.args,Pure S.Am [x.av,fsl frs,tsl tb] (.tup [(f x).1.av,iv (f x).2])) (hfg:∀ x∈e.args,(f x).1.Good) (i:Nat) (out:List V) (hi:i<=(e.args).length) (hI:EvI f (eOp e) e frs tb i out):(∃ (out':List V),(EvI f (eOp e) e frs tb (e.args).length out')/\(decide ((((e.args).length:Nat):Int) < (((zad e.args).length:Nat):Int))=false)/\∀ R,Good E0 B.Am [] (zws f e frs tb (e.args).length out') R->Good E0 B.Am [] (zws f e frs tb i out) R)\/(∃ (r:V) (c:Int),(r,c)=evL f (eOp e) e frs tb e.args 0 []/\Good E0 B.Am [] (zws f e frs tb i out) (Shut 0 fun rZ hZ=>rZ=(.tup [V.av r,iv c])/\hZ=[])):=by
 have hk:=hi;revert i out;refine zlp ((e.args).length) (fun i hlt ih out hi hI _=>?_)
 obtain ⟨x,hx,h0,hw⟩:=zlq (l:=e.args) ((zad e.args).length) hlt
 have hfx:=hf x (List.mem_of_getElem? hx);have hgx:=hfg x (List.mem_of_getElem? hx);have hlen:out.length<=1000:=(by have:=zbu hx;have:=hI.len;simp only [Few] at hl;omega)
 cases h1:(f x).snd != 0
 ·exact (ih (out++[(f x).fst]) Zo (by exact hI.step hx ‹_› hgx) Zo).elim (fun ⟨outZ,qZ,xZ,gZ⟩=>.inl ⟨outZ,qZ,xZ,fun R hg=>zaa (wkl [sb h0,se (zbt hx),sc hfx,sb h1,sqA (List.map V.cells out) [[iv (f x).fst.kind,iv (f x).fst.int,sv (f x).fst.text]] out.length 3 32,si hw] [1,2,3,6,11,69,70,71] 3 kr (zaw 11 2 (List.map V.cells out++[[iv (f x).fst.kind,iv (f x).fst.int,sv (f x).fst.text]]) (gZ R hg) (he:=Zcv8) (hm:=Zcv8)))⟩) (fun ⟨rY,cY,pZ,gZ⟩=>.inr ⟨rY,cY,pZ,zaa (wkl [sb h0,se (zbt hx),sc hfx,sb h1,sqA (List.map V.cells out) [[iv (f x).fst.kind,iv (f x).fst.int,sv (f x).fst.text]] out.length 3 32,si hw] [1,2,3,6,11,69,70,71] 3 kr (zaw 11 2 (List.map V.cells out++[[iv (f x).fst.kind,iv (f x).fst.int,sv (f x).fst.text]]) gZ (he:=Zcv8) (hm:=Zcv8)))⟩)
 ·exact .inr ⟨V.mk 0 0 Zs0,(f x).snd,(by exact zBq hI.eq hx ‹_›),zaa (wkr [sb h0,se (zbt hx),sc hfx,sb h1] kr)⟩
theorem zzl {frs:List Fr} {q n:Str} (h:(!(zaF frs q n).2.2)=false):(zaF frs q n).2.2=true:=by simpa using h
theorem zBX {frs:List Fr} {q n:Str} (h:(!(zaF frs q n).2.2)=false):decide ((zaF frs q n).2.1 < 0)=false:=by
 obtain ⟨i,j,e,_⟩:=zi5 (zzl h)
 rw [e];simp
def val0 (f:X->V × Int) (op:List V->V × Int) (e:X) (frs:List Fr) (tb:List Tb):V × Int :=
 bif !zcI e then (V.null,17)
 else bif e.kind==1 then (e.val,0)
 else bif e.kind==2 then
  (bif !(zaF frs e.table e.name).2.2 then (V.null,3)
  else bif decide ((((rFr frs e.table e.name).vals.map V.cells).length:Int)<=(zaF frs e.table e.name).2.1) then (V.null,17)
  else (zao (rFr frs e.table e.name).vals (zaF frs e.table e.name).2.1,0))
 else evL f op e frs tb e.args 0 []
theorem opK {e:X} (hn:e.sub=[]) (h:(!zcI e)=false) (h1:(e.kind==1)=false) (h2:(e.kind==2)=false):OpKind e:=by
 have hf:zb6 e=true:=by rw [← zia];simpa using h
 refine ⟨hf,by simpa using h1,by simpa using h2,fun h8=>?_⟩
 unfold zb6 at hf
 rw [hn] at hf
 have:=zdq hf
 omega
theorem EvI.fin {f:X->V × Int} {op:List V->V × Int} {e:X} {frs:List Fr} {tb:List Tb} {out:List V} (h:EvI f op e frs tb e.args.length out):evL f op e frs tb e.args 0 []=op out:=by
 rw [h.eq,List.drop_length];rfl
theorem evI0 {f:X->V × Int} {op:List V->V × Int} {e:X} {frs:List Fr} {tb:List Tb}:EvI f op e frs tb 0 []:=⟨rfl,rfl,fun v hv=>by cases hv⟩
theorem zn5 (f:X->V × Int) (e:X) (frs:List Fr) (tb:List Tb) (n:Nat) (hfo:FsOk n frs) (hs:e.sub=[]) (hn:decide ((0:Int) < (((zah e.sub).length:Nat):Int))=false) (hl:Few e.args) (hf:∀ x∈e.args,Pure S.Am [x.av,fsl frs,tsl tb] (.tup [(f x).1.av,iv (f x).2])) (hfg:∀ x∈e.args,(f x).1.Good) (hop:OpKind e->∀ l:List V,l.length=e.args.length->(∀ v∈l,v.Good)->Pure S.AI [e.av,vsl l] (.tup [(eOp e l).1.av,iv (eOp e l).2])):∃ (r:V) (c:Int),(r,c)=val0 f (eOp e) e frs tb/\zab E0 S.Am [e.av,fsl frs,tsl tb] [] (.tup [r.av,iv c]) []:=by
 cases h1:!zcI e
 ·cases h2:e.kind==1
  ·let p_1:List St:=[sc (zcQ e),sb h1,sb h2]
   cases h3:e.kind==2
   ·rcases zis f e frs tb zdF hf zdF 0 ([]) zdF zdF with ⟨out4,q4,q4_1,g4⟩|⟨r4_0,r4_1,p4_0,g4⟩
    ·exact ⟨(eOp e out4).fst,(eOp e out4).snd,zkK,wkcN At.Am (p_1++[sb h3,sb hn]) [1,2,3,6,11,69,70,71] 2 [(.ot 11 Ty.Value,3)] kr (g4 _ (zaa (wkr [sb q4_1,skx ((True/\True/\True/\True/\True/\True/\True/\True/\True/\True/\True)/\out4.length=(List.map V.cells out4).length/\True) [] (hop zdF out4 zdF zdF)] kr)))⟩
    ·exact ⟨r4_0,r4_1,zkK,wkcN At.Am (p_1++[sb h3,sb hn]) [1,2,3,6,11,69,70,71] 2 [(.ot 11 Ty.Value,3)] kr (g4)⟩
   ·let p_2:List St:=p_1++[sb h3,sc (zoN frs e.table e.name zdF zdF zdF)]
    cases h5:!(zaF frs e.table e.name).snd.snd
    ·let p_3:List St:=p_2++[sb h5,se (zsR frs e.table e.name zdF)]
     cases h6:decide ((↑(List.map V.cells (rFr frs e.table e.name).vals).length:Int)<=(zaF frs e.table e.name).snd.fst)
     ·exact ⟨zao (rFr frs e.table e.name).vals (zaF frs e.table e.name).snd.fst,0,zkK,wk At.Am (p_3++[sb h6,se (zsR frs e.table e.name zdF),se (zcB ((rFr frs e.table e.name).vals) ((zaF frs e.table e.name).snd.fst) zdF zdF)]) kr⟩
     ·exact ⟨V.mk 0 0 Zs0,17,zkK,wk At.Am (p_3++[sb h6]) kr⟩
    ·exact ⟨V.mk 0 0 Zs0,3,zkK,wk At.Am (p_2++[sb h5]) kr⟩
  ·exact ⟨e.val,0,zkK,wk At.Am [sc (zcQ e),sb h1,sb h2] kr⟩
 ·exact ⟨V.mk 0 0 Zs0,17,zkK,wk At.Am [sc (zcQ e),sb h1] kr⟩
theorem zn6 (agg:V × Int) (e:X) (frs:List Fr) (tb:List Tb) (hk1:(!zcI e)=false->(e.kind==1)=false) (hk2:(!zcI e)=false->(e.kind==2)=false) (hn:decide ((0:Int) < (((zah e.sub).length:Nat):Int))=true) (hagg:(!zcI e)=false->Pure S.AB [e.av,fsl frs,tsl tb] (.tup [agg.1.av,iv agg.2])):∃ (r:V) (c:Int),((r,c)=bif !zcI e then (V.null,17) else agg)/\zab E0 S.Am [e.av,fsl frs,tsl tb] [] (.tup [r.av,iv c]) []:=by
 cases h1:!zcI e
 ·exact ⟨agg.fst,agg.snd,(by (simp only [*,cond_true,cond_false];first|done|rfl)),wk At.Am [sc (zcQ e),sb h1,sb (hk1 h1),sb (hk2 h1),sb hn,sc (hagg (by first|assumption|(simp_all;done)))] kr⟩
 ·exact ⟨V.mk 0 0 Zs0,17,(by (simp only [*,cond_true,cond_false];first|done|rfl)),wk At.Am [sc (zcQ e),sb h1] kr⟩
theorem zfp {p:Prop} (h:p:=by first|assumption|exact se0|exact se_sh ‹_› hrw|exact se_g ‹_› hgd|exact k1012 hk ‹_› ‹_›|omega):p:=h
theorem zpg {p:Prop} (h:p:=by first|exact av0 ‹_›|exact avb ‹_› ‹_›|exact av8 ‹_› ‹_› ‹_›|exact av9 ‹_› ‹_› ‹_› ‹_›|exact avf ‹_› ‹_› ‹_› ‹_›):p:=h
theorem zr2 {p:Prop} (h:p:=by first|exact hI.skip hx ‹_› ‹_›|exact hI.push hx ‹_› ‹_› (.inl ‹_›)|exact hI.push hx ‹_› ‹_› (.inr ‹_›)):p:=h
theorem zxP {p:Prop} (h:p:=by first|(have e0:(f x).2=0:=(by simpa using ‹((f x).snd != 0)=false›);unfold zhI;rw [e0];simp only [*,cond_true,cond_false];rfl)|(have e0:((f x).2==0)=false:=(by simpa using ‹((f x).snd != 0)=true›);unfold zhI;rw [e0];rfl)):p:=h
theorem zmW {p:Prop} (h:p:=by first|assumption|exact ri0|omega):p:=h
abbrev NulC (r:V) (c z:Int):Prop:=r=V.null/\c≠0/\z=c
structure RiI (f:X->V × Int) (k:Int) (l:List X) (its0:List V) (i:Nat) (its:List V):Prop where
 eq:rowI f k l its0=rowI f k (l.drop i) its
 len:its.length<=its0.length+i
section
variable {f : X -> V × Int} {k : Int} {l : List X} {its0 its : List V} {i : Nat} {x : X}
theorem RiI.skip (h:RiI f k l its0 i its) (hx:l[i]?=some x) (h1:((f x).2 != 0)=false) (h2:((f x).1.kind != 0)=false):RiI f k l its0 (i+1) its:=by
 refine ⟨?_,by have:=h.len;omega⟩
 have h3:((f x).1.kind==0)=true:=by simpa using h2
 rw [h.eq,zam hx];simp only [rowI,h1,h3,cond_true,cond_false]
theorem RiI.push (h:RiI f k l its0 i its) (hx:l[i]?=some x) (h1:((f x).2 != 0)=false) (h2:((f x).1.kind != 0)=true) (h4:(k==10)=false\/((f x).1.kind != 1)=false):RiI f k l its0 (i+1) (its++[(f x).1]):=by
 refine ⟨?_,by have:=h.len;simp;omega⟩
 have h3:((f x).1.kind==0)=false:=by simpa using h2
 have h5:(k==10&&(f x).1.kind != 1)=false:=by rcases h4 with h4|h4 <;> rw [h4] <;> simp
 rw [h.eq,zam hx];simp only [rowI,h1,h3,h5,cond_false]
theorem RiI.bad (h:RiI f k l its0 i its) (hx:l[i]?=some x) (h1:((f x).2 != 0)=true):NulC (V.mk 0 0 Zs0) (f x).2 (rowI f k l its0).1:=by
 refine ⟨rfl,by simpa using h1,?_⟩
 rw [h.eq,zam hx];simp only [rowI,h1,cond_true]
theorem RiI.bad5 (h:RiI f k l its0 i its) (hx:l[i]?=some x) (h1:((f x).2 != 0)=false) (h2:((f x).1.kind != 0)=true) (h4:(k==10)=true) (h5:((f x).1.kind != 1)=true):NulC (V.mk 0 0 Zs0) 5 (rowI f k l its0).1:=by
 refine ⟨rfl,by decide,?_⟩
 have h3:((f x).1.kind==0)=false:=by simpa using h2
 rw [h.eq,zam hx];simp only [rowI,h1,h3,h4,h5,Bool.and_self,cond_true,cond_false]
theorem RiI.fin (h:RiI f k l its0 l.length its):rowI f k l its0=(0,its):=by
 rw [h.eq,List.drop_length];rfl
end
noncomputable def zv1 (f:X->V × Int) (e:X) (q:Qy) (s:Sch) (frs inn:List Fr) (tb:List Tb) (rows:List Rw) (io n:Nat) (its0:List V) (i:Nat) (its:List V):Cfg:=zag B.AB 1 [(1,fsl frs),(2,tsl tb),(3,.p 0 0),(6,.p 1 0),(8,.p 2 0),(9,.p 3 0),(13,iv (n:Nat)),(14,.own 4 its.length),(17,fsl inn),(45,.sl (rows.map Rw.cells)),(46,iv ((rows.map Rw.cells).length:Nat)),(47,iv (io:Nat)),(73,xsl q.items),(74,iv ((zad q.items).length:Nat)),(75,iv (i:Nat))] [.box e.cells,.box [iv 0,iv 0,sv ⟨#[]⟩],.box q.cells,.box s.cells,.row Ty.Value (its.map V.cells) false]
theorem Zcv9 {p:Prop} (h:p:=by first|rfl|(simp;done)|(simp [X.cells,Qy.cells,V.cells,Col.cells,Rw.cells,Tb.cells,Fr.cells,Sch.cells,Tp.cells,Pl.cells,xCol,xLit,xBin,xNeg,Rw.cells];done)):p:=h
theorem zgI (f:X->V × Int) (e:X) (q:Qy) (s:Sch) (frs inn:List Fr) (tb:List Tb) (rows:List Rw) (io n:Nat) (its0:List V) (hl:q.items.length<=1000) (hi0:its0.length<=2000000) (hf:∀ x∈q.items,Pure S.Am [x.av,fsl inn,tsl tb] (.tup [(f x).1.av,iv (f x).2])) (i:Nat) (its:List V) (hi:i<=(q.items).length) (hI:RiI f e.kind q.items its0 i its):(∃ (its':List V),(RiI f e.kind q.items its0 (q.items).length its')/\(decide ((((q.items).length:Nat):Int) < (((zad q.items).length:Nat):Int))=false)/\∀ R,Good E0 B.AB [] (zv1 f e q s frs inn tb rows io n its0 (q.items).length its') R->Good E0 B.AB [] (zv1 f e q s frs inn tb rows io n its0 i its) R)\/(∃ (r:V) (c:Int),NulC r c (rowI f e.kind q.items its0).1/\Good E0 B.AB [] (zv1 f e q s frs inn tb rows io n its0 i its) (Shut 0 fun rZ hZ=>rZ=(.tup [V.av r,iv c])/\hZ=[])):=by
 have hk:=hi;revert i its;refine zlp ((q.items).length) (fun i hlt ih its hi hI _=>?_)
 obtain ⟨x,hx,h0,hw⟩:=zlq (l:=q.items) ((zad q.items).length) hlt
 have hfx:=hf x (List.mem_of_getElem? hx);have ho:its.length<=1000000000:=(by have:=hI.len;have:=zbu hx;omega)
 cases h1:(f x).snd != 0
 ·let p_1:List St:=[sb h0,se (zbt hx),sc hfx,sb h1]
  let p_2:List St:=[sb h0,se (zbt hx),sc hfx,sb h1]
  cases h2:e.kind==10
  ·cases h3:(f x).fst.kind != 0
   ·exact (ih its Zo zr2 Zo).elim (fun ⟨itsZ,qZ,xZ,gZ⟩=>.inl ⟨itsZ,qZ,xZ,fun R hg=>zaa (wkl (p_1++[sb h2,sb h3,si hw]) [1,2,3,6,8,9,13,14,17,45,46,47,73,74,75] 5 kr (gZ R hg))⟩) (fun ⟨rY,cY,pZ,gZ⟩=>.inr ⟨rY,cY,pZ,zaa (wkl (p_2++[sb h2,sb h3,si hw]) [1,2,3,6,8,9,13,14,17,45,46,47,73,74,75] 5 kr gZ)⟩)
   ·exact (ih (its++[(f x).fst]) Zo zr2 Zo).elim (fun ⟨itsZ,qZ,xZ,gZ⟩=>.inl ⟨itsZ,qZ,xZ,fun R hg=>zaa (wkl (p_1++[sb h2,sb h3,sqA (List.map V.cells its) [[iv (f x).fst.kind,iv (f x).fst.int,sv (f x).fst.text]] its.length 3 32,si hw]) [1,2,3,6,8,9,13,14,17,45,46,47,73,74,75] 5 kr (zaw 14 4 (List.map V.cells its++[[iv (f x).fst.kind,iv (f x).fst.int,sv (f x).fst.text]]) (gZ R hg) (he:=Zcv9) (hm:=Zcv9)))⟩) (fun ⟨rY,cY,pZ,gZ⟩=>.inr ⟨rY,cY,pZ,zaa (wkl (p_2++[sb h2,sb h3,sqA (List.map V.cells its) [[iv (f x).fst.kind,iv (f x).fst.int,sv (f x).fst.text]] its.length 3 32,si hw]) [1,2,3,6,8,9,13,14,17,45,46,47,73,74,75] 5 kr (zaw 14 4 (List.map V.cells its++[[iv (f x).fst.kind,iv (f x).fst.int,sv (f x).fst.text]]) gZ (he:=Zcv9) (hm:=Zcv9)))⟩)
  ·cases h4:(f x).fst.kind != 0
   ·exact (ih its Zo zr2 Zo).elim (fun ⟨itsZ,qZ,xZ,gZ⟩=>.inl ⟨itsZ,qZ,xZ,fun R hg=>zaa (wkl (p_1++[sg h2,sb h4,sb h4,si hw]) [1,2,3,6,8,9,13,14,17,45,46,47,73,74,75] 5 kr (gZ R hg))⟩) (fun ⟨rY,cY,pZ,gZ⟩=>.inr ⟨rY,cY,pZ,zaa (wkl (p_2++[sg h2,sb h4,sb h4,si hw]) [1,2,3,6,8,9,13,14,17,45,46,47,73,74,75] 5 kr gZ)⟩)
   ·cases h5:(f x).fst.kind != 1
    ·exact (ih (its++[(f x).fst]) Zo zr2 Zo).elim (fun ⟨itsZ,qZ,xZ,gZ⟩=>.inl ⟨itsZ,qZ,xZ,fun R hg=>zaa (wkl (p_1++[sg h2,sg h4,sb h5,sb h4,sqA (List.map V.cells its) [[iv (f x).fst.kind,iv (f x).fst.int,sv (f x).fst.text]] its.length 3 32,si hw]) [1,2,3,6,8,9,13,14,17,45,46,47,73,74,75] 5 kr (zaw 14 4 (List.map V.cells its++[[iv (f x).fst.kind,iv (f x).fst.int,sv (f x).fst.text]]) (gZ R hg) (he:=Zcv9) (hm:=Zcv9)))⟩) (fun ⟨rY,cY,pZ,gZ⟩=>.inr ⟨rY,cY,pZ,zaa (wkl (p_2++[sg h2,sg h4,sb h5,sb h4,sqA (List.map V.cells its) [[iv (f x).fst.kind,iv (f x).fst.int,sv (f x).fst.text]] its.length 3 32,si hw]) [1,2,3,6,8,9,13,14,17,45,46,47,73,74,75] 5 kr (zaw 14 4 (List.map V.cells its++[[iv (f x).fst.kind,iv (f x).fst.int,sv (f x).fst.text]]) gZ (he:=Zcv9) (hm:=Zcv9)))⟩)
    ·exact .inr ⟨V.mk 0 0 Zs0,5,(by first|exact hI.bad hx ‹_›|exact hI.bad5 hx ‹_› ‹_› ‹_› ‹_›),zaa (wkr (p_1++[sg h2,sg h4,sb h5]) kr)⟩
 ·exact .inr ⟨V.mk 0 0 Zs0,(f x).snd,(by first|exact hI.bad hx ‹_›|exact hI.bad5 hx ‹_› ‹_› ‹_› ‹_›),zaa (wkr [sb h0,se (zbt hx),sc hfx,sb h1] kr)⟩
theorem ri0 {f:X->V × Int} {k:Int} {l:List X} {its:List V}:RiI f k l its 0 its:=⟨rfl,by omega⟩
structure SeI (tr:Rw->Bool × Int) (F:Rw->X->V × Int) (k:Int) (items:List X) (rows:List Rw) (i n:Nat) (its:List V):Prop where
 eq:selR tr (fun r its=>rowI (F r) k items its) rows 0 []=selR tr (fun r its=>rowI (F r) k items its) (rows.drop i) n its
 num:n<=i
 len:its.length<=1000 * i
section
variable {tr : Rw -> Bool × Int} {F : Rw -> X -> V × Int} {k : Int} {items : List X} {rows : List Rw} {i n : Nat} {its its2 : List V} {x : Rw} {r : V} {c : Int}
theorem SeI.skip (h:SeI tr F k items rows i n its) (hx:rows[i]?=some x) (h1:((tr x).2 != 0)=false) (h2:(!(tr x).1)=true):SeI tr F k items rows (i+1) n its:=by
 refine ⟨?_,by have:=h.num;omega,by have:=h.len;omega⟩
 have h3:(tr x).1=false:=by simpa using h2
 rw [h.eq,zam hx];simp only [selR,h1,h3,cond_false]
theorem SeI.go (h:SeI tr F k items rows i n its) (hx:rows[i]?=some x) (h1:((tr x).2 != 0)=false) (h2:(!(tr x).1)=false) (hr:RiI (F x) k items its items.length its2) (hl:items.length<=1000):SeI tr F k items rows (i+1) (n+1) its2:=by
 refine ⟨?_,by have:=h.num;omega,by have:=h.len;have:=hr.len;omega⟩
 have h3:(tr x).1=true:=by simpa using h2
 have h4:((0:Int) != 0)=false:=rfl
 rw [h.eq,zam hx];simp only [selR,h1,h3,hr.fin,h4,cond_true,cond_false]
theorem SeI.bad (h:SeI tr F k items rows i n its) (hx:rows[i]?=some x) (h1:((tr x).2 != 0)=true):NulC (V.mk 0 0 Zs0) (tr x).2 (selR tr (fun r its=>rowI (F r) k items its) rows 0 []).1:=by
 refine ⟨rfl,by simpa using h1,?_⟩
 rw [h.eq,zam hx];simp only [selR,h1,cond_true]
theorem SeI.bad2 (h:SeI tr F k items rows i n its) (hx:rows[i]?=some x) (h1:((tr x).2 != 0)=false) (h2:(!(tr x).1)=false) (hc:NulC r c (rowI (F x) k items its).1):NulC r c (selR tr (fun r its=>rowI (F r) k items its) rows 0 []).1:=by
 refine ⟨hc.1,hc.2.1,?_⟩
 have h3:(tr x).1=true:=by simpa using h2
 have h4:(c != 0)=true:=by simpa using hc.2.1
 rw [h.eq,zam hx];simp only [selR,h1,h3,hc.2.2,h4,cond_true,cond_false]
end
noncomputable def zv2 (tr:Rw->Bool × Int) (F:Rw->X->V × Int) (e:X) (q:Qy) (s:Sch) (frs:List Fr) (tb:List Tb) (rows:List Rw) (i:Nat) (n:Nat) (its:List V):Cfg:=zag B.AB 0 [(1,fsl frs),(2,tsl tb),(3,.p 0 0),(6,.p 1 0),(8,.p 2 0),(9,.p 3 0),(13,iv (n:Nat)),(14,.own 4 its.length),(45,.sl (rows.map Rw.cells)),(46,iv ((rows.map Rw.cells).length:Nat)),(47,iv (i:Nat))] [.box e.cells,.box [iv 0,iv 0,sv ⟨#[]⟩],.box q.cells,.box s.cells,.row Ty.Value (its.map V.cells) false]
theorem zgJ (tr:Rw->Bool × Int) (F:Rw->X->V × Int) (e:X) (q:Qy) (s:Sch) (frs:List Fr) (tb:List Tb) (rows:List Rw) (hl:q.items.length<=1000) (hrw:rows.length<=1000) (hfr:zac frs) (hT:∀ r∈rows,Pure S.A4 [xsl q.wh,fsl (zat frs s r.vals),tsl tb] (.tup [bv (tr r).1,iv (tr r).2])) (hF:∀ r∈rows,∀ x∈q.items,Pure S.Am [x.av,fsl (zat frs s r.vals),tsl tb] (.tup [(F r x).1.av,iv (F r x).2])) (i:Nat) (n:Nat) (its:List V) (hi:i<=(rows).length) (hI:SeI tr F e.kind q.items rows i n its):(∃ (n':Nat) (its':List V),(SeI tr F e.kind q.items rows (rows).length n' its')/\(decide ((((rows).length:Nat):Int) < (((rows.map Rw.cells).length:Nat):Int))=false)/\∀ R,Good E0 B.AB [] (zv2 tr F e q s frs tb rows (rows).length n' its') R->Good E0 B.AB [] (zv2 tr F e q s frs tb rows i n its) R)\/(∃ (r:V) (c:Int),NulC r c (selR tr (fun r its=>rowI (F r) e.kind q.items its) rows 0 []).1/\Good E0 B.AB [] (zv2 tr F e q s frs tb rows i n its) (Shut 0 fun rZ hZ=>rZ=(.tup [V.av r,iv c])/\hZ=[])):=by
 have hk:=hi;revert i n its;refine zlp ((rows).length) (fun i hlt ih n its hi hI _=>?_)
 obtain ⟨x,hx,h0,hw⟩:=zlq (l:=rows) ((rows.map Rw.cells).length) hlt
 have hTx:=hT x (List.mem_of_getElem? hx);have hFx:=hF x (List.mem_of_getElem? hx);have hil:=zbu hx;have hi2:its.length<=2000000:=(by have:=hI.len;omega);have hwn:=zaL n (by have:=hI.num;omega)
 let p_1:List St:=[sb h0,se (zae Rw.cells hx rfl),sc (zbg frs s x.vals zmW),sc hTx]
 cases h1:(tr x).snd != 0
 ·cases h2:!(tr x).fst
  ·rcases zgI (F x) e q s frs (zat frs s x.vals) tb rows i (n+1) its zmW hi2 hFx 0 its zmW zmW with ⟨its3,q3,q3_1,g3⟩|⟨r3_0,r3_1,p3_0,g3⟩
   ·exact (ih (n+1) its3 Zo (by first|exact hI.skip hx ‹_› ‹_›|exact hI.go hx ‹_› ‹_› ‹_› hl) Zo).elim (fun ⟨nZ,itsZ,qZ,xZ,gZ⟩=>.inl ⟨nZ,itsZ,qZ,xZ,fun R hg=>zaa (wkl (p_1++[sb h1,sb h2,si hwn]) [1,2,3,6,8,9,13,14,17,45,46,47,73,74,75] 5 kr (g3 _ (zaa (wkl [sb q3_1,si hw] [1,2,3,6,8,9,13,14,45,46,47] 5 kr (gZ R hg)))))⟩) (fun ⟨rY,cY,pZ,gZ⟩=>.inr ⟨rY,cY,pZ,zaa (wkl [sb h0,se (zae Rw.cells hx rfl),sc (zbg frs s x.vals zmW),sc hTx,sb h1,sb h2,si hwn] [1,2,3,6,8,9,13,14,17,45,46,47,73,74,75] 5 kr (g3 _ (zaa (wkl [sb q3_1,si hw] [1,2,3,6,8,9,13,14,45,46,47] 5 kr gZ))))⟩)
   ·exact .inr ⟨r3_0,r3_1,(by first|exact hI.bad hx ‹_›|exact hI.bad2 hx ‹_› ‹_› ‹_›),zaa (wkl (p_1++[sb h1,sb h2,si hwn]) [1,2,3,6,8,9,13,14,17,45,46,47,73,74,75] 5 kr g3)⟩
  ·exact (ih n its Zo (by first|exact hI.skip hx ‹_› ‹_›|exact hI.go hx ‹_› ‹_› ‹_› hl) Zo).elim (fun ⟨nZ,itsZ,qZ,xZ,gZ⟩=>.inl ⟨nZ,itsZ,qZ,xZ,fun R hg=>zaa (wkl (p_1++[sb h1,sb h2,si hw]) [1,2,3,6,8,9,13,14,45,46,47] 5 kr (gZ R hg))⟩) (fun ⟨rY,cY,pZ,gZ⟩=>.inr ⟨rY,cY,pZ,zaa (wkl [sb h0,se (zae Rw.cells hx rfl),sc (zbg frs s x.vals zmW),sc hTx,sb h1,sb h2,si hw] [1,2,3,6,8,9,13,14,45,46,47] 5 kr gZ)⟩)
 ·exact .inr ⟨V.mk 0 0 Zs0,(tr x).snd,(by first|exact hI.bad hx ‹_›|exact hI.bad2 hx ‹_› ‹_› ‹_›),zaa (wkr (p_1++[sb h1]) kr)⟩
section
variable {tr : Rw -> Bool × Int} {F : Rw -> X -> V × Int} {items : List X} {rows : List Rw} {n : Nat} {its : List V} {e : X} {r : V} {c : Int} {b : Bool}
theorem SeI.fin {k:Int} (h:SeI tr F k items rows rows.length n its):selR tr (fun r its=>rowI (F r) k items its) rows 0 []=(0,n,its):=by
 rw [h.eq,List.drop_length];rfl
def aggV (b:Bool) (tr:Rw->Bool × Int) (F:Rw->X->V × Int) (items:List X) (rows:List Rw) (e:X):V × Int:=bif !b then (V.null,3) else eAgg (selR tr (fun r its=>rowI (F r) e.kind items its) rows 0 []) e
theorem av0 (h:(!b)=true):(V.mk 0 0 Zs0,3)=aggV b tr F items rows e:=by unfold aggV;rw [h];rfl
theorem avb (h:(!b)=false) (hc:NulC r c (selR tr (fun r its=>rowI (F r) e.kind items its) rows 0 []).1):(r,c)=aggV b tr F items rows e:=by
 have h4:(c != 0)=true:=by simpa using hc.2.1
 unfold aggV eAgg;rw [h,hc.2.2,h4,hc.1];rfl
theorem av8 (h:(!b)=false) (hs:SeI tr F e.kind items rows rows.length n its) (hk:(e.kind==8)=true):(V.mk 2 (if decide ((0:Int) < ((n:Nat):Int))=true then 1 else 0) Zs0,0)=aggV b tr F items rows e:=by
 unfold aggV eAgg;rw [h,hs.fin,hk];rfl
theorem av9 (h:(!b)=false) (hs:SeI tr F e.kind items rows rows.length n its) (h8:(e.kind==8)=false) (hk:(e.kind==9)=true):(zbZ ((n:Nat):Int),0)=aggV b tr F items rows e:=by
 unfold aggV eAgg;rw [h,hs.fin,h8,hk];rfl
theorem avf (h:(!b)=false) (hs:SeI tr F e.kind items rows rows.length n its) (h8:(e.kind==8)=false) (h9:(e.kind==9)=false):((zdh e.kind its).1,(zdh e.kind its).2)=aggV b tr F items rows e:=by
 unfold aggV eAgg zdh;rw [h,hs.fin,h8,h9];rfl
theorem k1012 (hk:8<=e.kind/\e.kind<=12) (h8:(e.kind==8)=false) (h9:(e.kind==9)=false):e.kind=10\/e.kind=11\/e.kind=12:=by
 simp only [beq_eq_false_iff_ne,ne_eq] at h8 h9
 omega
theorem se0 {k:Int}:SeI tr F k items rows 0 0 []:=⟨rfl,by omega,by simp⟩
theorem se_sh {k:Int} (hs:SeI tr F k items rows rows.length n its) (h:rows.length<=1000):zac its:=by
 have:=hs.len;simp only [zac];omega
theorem se_g {k:Int} (hs:SeI tr F k items rows rows.length n its) (h:∀ v∈(selR tr (fun r its=>rowI (F r) k items its) rows 0 []).2.2,v.Good):∀ v∈its,v.Good:=by
 rw [hs.fin] at h;exact h
end
theorem zm8 (tr:Rw->Bool × Int) (F:Rw->X->V × Int) (e:X) (q:Qy) (frs:List Fr) (tb:List Tb) (hq:e.sub[0]?=some q) (hl:q.items.length<=1000) (htb:zac tb) (htc:∀ x∈tb,zac x.sch.cols) (hrw:(zbe tb q.frm).length<=1000) (hfr:zac frs) (hk:8<=e.kind/\e.kind<=12) (hT:∀ r∈zbe tb q.frm,Pure S.A4 [xsl q.wh,fsl (zat frs (zaG tb q.frm).1 r.vals),tsl tb] (.tup [bv (tr r).1,iv (tr r).2])) (hF:∀ r∈zbe tb q.frm,∀ x∈q.items,Pure S.Am [x.av,fsl (zat frs (zaG tb q.frm).1 r.vals),tsl tb] (.tup [(F r x).1.av,iv (F r x).2])) (hgd:∀ v∈(selR tr (fun r its=>rowI (F r) e.kind q.items its) (zbe tb q.frm) 0 []).2.2,v.Good):∃ (r:V) (c:Int),(r,c)=aggV (zaG tb q.frm).2 tr F q.items (zbe tb q.frm) e/\zab E0 S.AB [e.av,fsl frs,tsl tb] [] (.tup [r.av,iv c]) []:=by
 let p_1:List St:=[se (zaB hq),sc (zjN tb q.frm zfp zfp)]
 cases h1:!(zaG tb q.frm).snd
 ·obtain ⟨b2,c2⟩:=(zmu tb q.frm zfp)
  rcases zgJ tr F e q ((zaG tb q.frm).fst) frs tb (zbe tb q.frm) zfp zfp zfp hT hF 0 0 ([]) zfp zfp with ⟨n3,its3,q3,q3_1,g3⟩|⟨r3_0,r3_1,p3_0,g3⟩
  ·cases h4:e.kind==8
   ·cases h5:e.kind==9
    ·exact ⟨(zdh e.kind its3).fst,(zdh e.kind its3).snd,zpg,wkcN At.AB (p_1++[sb h1,sc c2]) [1,2,3,6,8,9,13,14,45,46,47] 4 [(.ot 14 Ty.Value,5)] kr (g3 _ (zaa (wkr [sb q3_1,sb h4,sb h5,skx (True/\its3.length=(List.map V.cells its3).length/\True) [] (zti e.kind its3 zfp zfp zfp)] kr)))⟩
    ·exact ⟨zbZ (n3:Int),0,zpg,wkcN At.AB (p_1++[sb h1,sc c2]) [1,2,3,6,8,9,13,14,45,46,47] 4 [(.ot 14 Ty.Value,5)] kr (g3 _ (zaa (wkr [sb q3_1,sb h4,sb h5,sc (zbT ((n3:Int)))] kr)))⟩
   ·exact ⟨V.mk (2:Int) (if decide ((0:Int) < (n3:Int))=true then (1:Int) else (0:Int)) Zs0,0,zpg,wkcN At.AB (p_1++[sb h1,sc c2]) [1,2,3,6,8,9,13,14,45,46,47] 4 [(.ot 14 Ty.Value,5)] kr (g3 _ (zaa (wkr [sb q3_1,sb h4,sc (zaR (decide (0 < (n3:Int))))] kr)))⟩
  ·exact ⟨r3_0,r3_1,zpg,wkcN At.AB (p_1++[sb h1,sc c2]) [1,2,3,6,8,9,13,14,45,46,47] 4 [(.ot 14 Ty.Value,5)] kr (g3)⟩
 ·exact ⟨V.mk 0 0 Zs0,3,zpg,wk At.AB (p_1++[sb h1]) kr⟩
theorem zpJ (f:X->V × Int) (x:X) (r:List X) (frs:List Fr) (tb:List Tb) (hf:Pure S.Am [x.av,fsl frs,tsl tb] (.tup [(f x).1.av,iv (f x).2])) (hg:(f x).1.Good):∃ (b:Bool) (e:Int),(b,e)=zhI f x/\zab E0 S.A4 [xsl (x::r),fsl frs,tsl tb] [] (.tup [bv b,iv e]) []:=by
 let p_1:List St:=[sb Zf,se (zbt (l:=x::r) (i:=0) (x:=x) rfl),sc hf]
 cases h1:(f x).snd != 0
 ·let p_2:List St:=p_1++[sb h1,sc (zc5 ((f x).fst) (by first|assumption|omega|(simp;done)|(simp;omega)))]
  cases h2:!zbi (f x).fst
  ·exact ⟨rIsT (f x).fst,0,zxP,wk At.A4 (p_2++[sb h2,sc (zeB ((f x).fst))]) kr⟩
  ·exact ⟨false,5,zxP,wk At.A4 (p_2++[sb h2]) kr⟩
 ·exact ⟨false,(f x).snd,zxP,wk At.A4 (p_1++[sb h1]) kr⟩
theorem zpI (frs:List Fr) (tb:List Tb) :∃ (b:Bool) (e:Int),(b,e)=zoF/\zab E0 S.A4 [xsl [],fsl frs,tsl tb] [] (.tup [bv b,iv e]) []:=by
 exact ⟨true,0,Zr,wk At.A4 [sb Zt] kr⟩
theorem zxQ {p:Prop} (h:p:=by first|exact hI.skip hx ‹_› ‹_›|exact hI.star hx ‹_› ‹_› ‹_›|exact hI.go hx ‹_› ‹_› ‹_› ‹_›):p:=h
theorem zgm {p:Prop} (h:p:=by first|assumption|exact ir0|omega):p:=h
theorem zhi {p:Prop} (h:p:=by first|assumption|exact sr0|omega):p:=h
theorem zxR {p:Prop} (h:p:=by first|exact rv0 ‹_›|exact rvb ‹_› ‹_›|exact rvf ‹_› ‹_›):p:=h
structure IrI (f:X->V × Int) (l:List X) (i:Nat) (row:List V):Prop where
 eq:zba f l=bif (zba f (l.drop i)).1 != 0 then ((zba f (l.drop i)).1,[]) else (0,row++(zba f (l.drop i)).2)
 len:row.length<=i
section
variable {f : X -> V × Int} {l : List X} {i : Nat} {row : List V} {x : X}
theorem ir0:IrI f l 0 []:=by
 refine ⟨?_,by simp⟩
 rw [List.drop_zero,List.nil_append]
 cases h:(zba f l).1 != 0
 ·have:(zba f l).1=0:=by simpa using h
  rw [cond_false,← this]
 ·rw [cond_true]
  cases l with
  | nil=>simp [zba] at h
  | cons x r =>
   simp only [zba] at h ⊢
   cases h1:(f x).2 != 0
   ·cases h2:(zba f r).1 != 0
    ·simp only [h1,h2,cond_false] at h;cases h
    ·rfl
   ·rfl
theorem IrI.step (h:IrI f l i row) (hx:l[i]?=some x) (h1:((f x).2 != 0)=false):IrI f l (i+1) (row++[(f x).1]):=by
 refine ⟨?_,by have:=h.len;simp;omega⟩
 rw [h.eq,zam hx]
 simp only [zba,h1,cond_false]
 cases h2:(zba f (l.drop (i+1))).1 != 0
 ·simp
 ·simp only [cond_true,h2]
theorem IrI.bad (h:IrI f l i row) (hx:l[i]?=some x) (h1:((f x).2 != 0)=true):(f x).2≠0/\(zba f l).1=(f x).2:=by
 refine ⟨by simpa using h1,?_⟩
 rw [h.eq,zam hx]
 simp only [zba,h1,cond_true]
theorem IrI.fin (h:IrI f l l.length row):zba f l=(0,row):=by
 rw [h.eq,List.drop_length];simp [zba]
end
noncomputable def zwu (f:X->V × Int) (q:Qy) (s:Sch) (frs inn:List Fr) (tb:List Tb) (rows:List Rw) (io:Nat) (out:List (List V)) (i:Nat) (row:List V):Cfg:=zag B.A7 1 [(1,fsl frs),(2,tsl tb),(3,.p 0 0),(8,.p 1 0),(12,.own 2 out.length),(15,fsl inn),(18,.own 3 row.length),(39,.sl (rows.map Rw.cells)),(40,iv ((rows.map Rw.cells).length:Nat)),(41,iv (io:Nat)),(70,xsl q.items),(71,iv ((zad q.items).length:Nat)),(72,iv (i:Nat))] [.box q.cells,.box s.cells,.row Ty.LValue (out.map vrow) false,.row Ty.Value (row.map V.cells) false]
theorem zjh (f:X->V × Int) (q:Qy) (s:Sch) (frs inn:List Fr) (tb:List Tb) (rows:List Rw) (io:Nat) (out:List (List V)) (hl:q.items.length<=1000) (hf:∀ x∈q.items,Pure S.Am [x.av,fsl inn,tsl tb] (.tup [(f x).1.av,iv (f x).2])) (i:Nat) (row:List V) (hi:i<=(q.items).length) (hI:IrI f q.items i row):(∃ (row':List V),(IrI f q.items (q.items).length row')/\(decide ((((q.items).length:Nat):Int) < (((zad q.items).length:Nat):Int))=false)/\∀ R,Good E0 B.A7 [] (zwu f q s frs inn tb rows io out (q.items).length row') R->Good E0 B.A7 [] (zwu f q s frs inn tb rows io out i row) R)\/(∃ (r:List (List V)) (c:Int),(r=[]/\c≠0/\(zba f q.items).1=c)/\Good E0 B.A7 [] (zwu f q s frs inn tb rows io out i row) (Shut 0 fun rZ hZ=>rZ=(.tup [.sl (r.map vrow),iv c])/\hZ=[])):=by
 have hk:=hi;revert i row;refine zlp ((q.items).length) (fun i hlt ih row hi hI _=>?_)
 obtain ⟨x,hx,h0,hw⟩:=zlq (l:=q.items) ((zad q.items).length) hlt
 have hfx:=hf x (List.mem_of_getElem? hx);have ho:row.length<=1000000000:=(by have:=hI.len;have:=zbu hx;omega)
 cases h1:(f x).snd != 0
 ·exact (ih (row++[(f x).fst]) Zo (by exact hI.step hx ‹_›) Zo).elim (fun ⟨rowZ,qZ,xZ,gZ⟩=>.inl ⟨rowZ,qZ,xZ,fun R hg=>zaa (wkl [sb h0,se (zbt hx),sc hfx,sb h1,sqA (List.map V.cells row) [[iv (f x).fst.kind,iv (f x).fst.int,sv (f x).fst.text]] row.length 3 32,si hw] [1,2,3,8,12,15,18,39,40,41,70,71,72] 4 kr (zaw 18 3 (List.map V.cells row++[[iv (f x).fst.kind,iv (f x).fst.int,sv (f x).fst.text]]) (gZ R hg) (he:=Zcv9) (hm:=Zcv9)))⟩) (fun ⟨rY,cY,pZ,gZ⟩=>.inr ⟨rY,cY,pZ,zaa (wkl [sb h0,se (zbt hx),sc hfx,sb h1,sqA (List.map V.cells row) [[iv (f x).fst.kind,iv (f x).fst.int,sv (f x).fst.text]] row.length 3 32,si hw] [1,2,3,8,12,15,18,39,40,41,70,71,72] 4 kr (zaw 18 3 (List.map V.cells row++[[iv (f x).fst.kind,iv (f x).fst.int,sv (f x).fst.text]]) gZ (he:=Zcv9) (hm:=Zcv9)))⟩)
 ·exact .inr ⟨[],(f x).snd,(by exact ⟨rfl,hI.bad hx ‹_›⟩),zaa (wkr [sb h0,se (zbt hx),sc hfx,sb h1] kr)⟩
structure SrI (tr:Rw->Bool × Int) (F:Rw->X->V × Int) (q:Qy) (rows:List Rw) (i:Nat) (out:List (List V)):Prop where
 eq:za2 tr (fun r=>rowV (F r) q r) rows []=za2 tr (fun r=>rowV (F r) q r) (rows.drop i) out
 len:out.length<=i
section
variable {tr : Rw -> Bool × Int} {F : Rw -> X -> V × Int} {q : Qy} {rows : List Rw} {i : Nat} {out : List (List V)} {x : Rw} {row : List V} {r : List (List V)} {c : Int} {b : Bool}
theorem sr0:SrI tr F q rows 0 []:=⟨rfl,by simp⟩
theorem SrI.skip (h:SrI tr F q rows i out) (hx:rows[i]?=some x) (h1:((tr x).2 != 0)=false) (h2:(!(tr x).1)=true):SrI tr F q rows (i+1) out:=by
 refine ⟨?_,by have:=h.len;omega⟩
 have h3:(tr x).1=false:=by simpa using h2
 rw [h.eq,zam hx];simp only [za2,h1,h3,cond_false]
theorem SrI.star (h:SrI tr F q rows i out) (hx:rows[i]?=some x) (h1:((tr x).2 != 0)=false) (h2:(!(tr x).1)=false) (hq:(!q.star)=false):SrI tr F q rows (i+1) (out++[x.vals]):=by
 refine ⟨?_,by have:=h.len;simp;omega⟩
 have h3:(tr x).1=true:=by simpa using h2
 have h4:q.star=true:=by simpa using hq
 have h5:((0:Int) != 0)=false:=rfl
 rw [h.eq,zam hx];simp only [za2,rowV,h1,h3,h4,h5,cond_true,cond_false]
theorem SrI.go (h:SrI tr F q rows i out) (hx:rows[i]?=some x) (h1:((tr x).2 != 0)=false) (h2:(!(tr x).1)=false) (hq:(!q.star)=true) (hr:IrI (F x) q.items q.items.length row):SrI tr F q rows (i+1) (out++[row]):=by
 refine ⟨?_,by have:=h.len;simp;omega⟩
 have h3:(tr x).1=true:=by simpa using h2
 have h4:q.star=false:=by simpa using hq
 have h5:((0:Int) != 0)=false:=rfl
 rw [h.eq,zam hx];simp only [za2,rowV,h1,h3,h4,h5,hr.fin,cond_true,cond_false]
theorem SrI.bad (h:SrI tr F q rows i out) (hx:rows[i]?=some x) (h1:((tr x).2 != 0)=true):([]:List (List V))=[]/\(tr x).2≠0/\(za2 tr (fun r=>rowV (F r) q r) rows []).1=(tr x).2:=by
 refine ⟨rfl,by simpa using h1,?_⟩
 rw [h.eq,zam hx];simp only [za2,h1,cond_true]
theorem SrI.bad2 (h:SrI tr F q rows i out) (hx:rows[i]?=some x) (h1:((tr x).2 != 0)=false) (h2:(!(tr x).1)=false) (hq:(!q.star)=true) (hc:r=[]/\c≠0/\(zba (F x) q.items).1=c):r=[]/\c≠0/\(za2 tr (fun r=>rowV (F r) q r) rows []).1=c:=by
 refine ⟨hc.1,hc.2.1,?_⟩
 have h3:(tr x).1=true:=by simpa using h2
 have h4:q.star=false:=by simpa using hq
 have h5:(c != 0)=true:=by simpa using hc.2.1
 rw [h.eq,zam hx];simp only [za2,rowV,h1,h3,h4,hc.2.2,h5,cond_true,cond_false]
theorem SrI.fin (h:SrI tr F q rows rows.length out):za2 tr (fun r=>rowV (F r) q r) rows []=(0,out):=by
 rw [h.eq,List.drop_length];rfl
def ziK (b:Bool) (tr:Rw->Bool × Int) (F:Rw->X->V × Int) (q:Qy) (rows:List Rw):List (List V) × Int:=bif !b then ([],3) else zew (za2 tr (fun r=>rowV (F r) q r) rows [])
theorem rv0 (h:(!b)=true):(([]:List (List V)),3)=ziK b tr F q rows:=by unfold ziK;rw [h];rfl
theorem rvb (h:(!b)=false) (hc:r=[]/\c≠0/\(za2 tr (fun r=>rowV (F r) q r) rows []).1=c):(r,c)=ziK b tr F q rows:=by
 have h4:(c != 0)=true:=by simpa using hc.2.1
 unfold ziK zew;rw [h,hc.2.2,h4,hc.1];rfl
theorem rvf (h:(!b)=false) (hs:SrI tr F q rows rows.length out):(out,0)=ziK b tr F q rows:=by
 unfold ziK zew;rw [h,hs.fin];rfl
end
noncomputable def zwv (tr:Rw->Bool × Int) (F:Rw->X->V × Int) (q:Qy) (s:Sch) (frs:List Fr) (tb:List Tb) (rows:List Rw) (i:Nat) (out:List (List V)):Cfg:=zag B.A7 0 [(1,fsl frs),(2,tsl tb),(3,.p 0 0),(8,.p 1 0),(12,.own 2 out.length),(39,.sl (rows.map Rw.cells)),(40,iv ((rows.map Rw.cells).length:Nat)),(41,iv (i:Nat))] [.box q.cells,.box s.cells,.row Ty.LValue (out.map vrow) false]
theorem zji (tr:Rw->Bool × Int) (F:Rw->X->V × Int) (q:Qy) (s:Sch) (frs:List Fr) (tb:List Tb) (rows:List Rw) (hl:q.items.length<=1000) (hrw:rows.length<=1000) (hfr:zac frs) (hv:∀ r∈rows,zac r.vals) (hT:∀ r∈rows,Pure S.A4 [xsl q.wh,fsl (zat frs s r.vals),tsl tb] (.tup [bv (tr r).1,iv (tr r).2])) (hF:∀ r∈rows,∀ x∈q.items,Pure S.Am [x.av,fsl (zat frs s r.vals),tsl tb] (.tup [(F r x).1.av,iv (F r x).2])) (i:Nat) (out:List (List V)) (hi:i<=(rows).length) (hI:SrI tr F q rows i out):(∃ (out':List (List V)),(SrI tr F q rows (rows).length out')/\(decide ((((rows).length:Nat):Int) < (((rows.map Rw.cells).length:Nat):Int))=false)/\∀ R,Good E0 B.A7 [] (zwv tr F q s frs tb rows (rows).length out') R->Good E0 B.A7 [] (zwv tr F q s frs tb rows i out) R)\/(∃ (r:List (List V)) (c:Int),(r=[]/\c≠0/\(za2 tr (fun r=>rowV (F r) q r) rows []).1=c)/\Good E0 B.A7 [] (zwv tr F q s frs tb rows i out) (Shut 0 fun rZ hZ=>rZ=(.tup [.sl (r.map vrow),iv c])/\hZ=[])):=by
 have hk:=hi;revert i out;refine zlp ((rows).length) (fun i hlt ih out hi hI _=>?_)
 obtain ⟨x,hx,h0,hw⟩:=zlq (l:=rows) ((rows.map Rw.cells).length) hlt
 have hTx:=hT x (List.mem_of_getElem? hx);have hFx:=hF x (List.mem_of_getElem? hx);have hvx:=hv x (List.mem_of_getElem? hx);have hil:=zbu hx;have ho:out.length<=1000000000:=(by have:=hI.len;omega)
 let p_1:List St:=[sb h0,se (zae Rw.cells hx rfl),sc (zbg frs s x.vals zgm),sc hTx]
 cases h1:(tr x).snd != 0
 ·cases h2:!(tr x).fst
  ·let p_2:List St:=p_1++[sb h1,sb h2,sc (zcK x.vals zgm)]
   cases h3:!q.star
   ·exact (ih (out++[za8 x.vals]) Zo zxQ Zo).elim (fun ⟨outZ,qZ,xZ,gZ⟩=>.inl ⟨outZ,qZ,xZ,fun R hg=>zaa (wkl (p_2++[sb h3,sqA (List.map vrow out) [[vsl (za8 x.vals)]] out.length 1 24,si hw]) [1,2,3,8,12,39,40,41] 3 kr (zaw 12 2 (List.map vrow out++[[vsl (za8 x.vals)]]) (gZ R hg) (he:=by first|rfl|(simp only [List.map_append,List.map_cons,List.map_nil,List.length_append,List.length_map,List.length_cons,List.length_nil,za8] <;> rfl)) (hm:=by first|rfl|(simp only [List.map_append,List.map_cons,List.map_nil,List.length_append,List.length_map,List.length_cons,List.length_nil,za8] <;> rfl))))⟩) (fun ⟨rY,cY,pZ,gZ⟩=>.inr ⟨rY,cY,pZ,zaa (wkl [sb h0,se (zae Rw.cells hx rfl),sc (zbg frs s x.vals zgm),sc hTx,sb h1,sb h2,sc (zcK x.vals zgm),sb h3,sqA (List.map vrow out) [[vsl (za8 x.vals)]] out.length 1 24,si hw] [1,2,3,8,12,39,40,41] 3 kr (zaw 12 2 (List.map vrow out++[[vsl (za8 x.vals)]]) gZ (he:=by first|rfl|(simp only [List.map_append,List.map_cons,List.map_nil,List.length_append,List.length_map,List.length_cons,List.length_nil,za8] <;> rfl)) (hm:=by first|rfl|(simp only [List.map_append,List.map_cons,List.map_nil,List.length_append,List.length_map,List.length_cons,List.length_nil,za8] <;> rfl))))⟩)
   ·rcases zjh (F x) q s frs (zat frs s x.vals) tb rows i out zgm hFx 0 ([]) zgm zgm with ⟨row4,q4,q4_1,g4⟩|⟨r4_0,r4_1,p4_0,g4⟩
    ·exact (ih (out++[row4]) Zo zxQ Zo).elim (fun ⟨outZ,qZ,xZ,gZ⟩=>.inl ⟨outZ,qZ,xZ,fun R hg=>zaa (wklN (p_2++[sb h3]) [1,2,3,8,12,15,18,39,40,41,70,71,72] 3 [(.ot 18 Ty.Value,4)] kr (g4 _ (zaa (wkl [sb q4_1,sqx (row4.length=(List.map V.cells row4).length/\True),sqA (List.map vrow out) [[vsl row4]] out.length 1 24,si hw] [1,2,3,8,12,39,40,41] 3 kr (zaw 12 2 (List.map vrow out++[[vsl row4]]) (gZ R hg) (he:=by first|rfl|(simp only [List.map_append,List.map_cons,List.map_nil,List.length_append,List.length_map,List.length_cons,List.length_nil,za8] <;> rfl)) (hm:=by first|rfl|(simp only [List.map_append,List.map_cons,List.map_nil,List.length_append,List.length_map,List.length_cons,List.length_nil,za8] <;> rfl)))))))⟩) (fun ⟨rY,cY,pZ,gZ⟩=>.inr ⟨rY,cY,pZ,zaa (wklN [sb h0,se (zae Rw.cells hx rfl),sc (zbg frs s x.vals zgm),sc hTx,sb h1,sb h2,sc (zcK x.vals zgm),sb h3] [1,2,3,8,12,15,18,39,40,41,70,71,72] 3 [(.ot 18 Ty.Value,4)] kr (g4 _ (zaa (wkl [sb q4_1,sqx (row4.length=(List.map V.cells row4).length/\True),sqA (List.map vrow out) [[vsl row4]] out.length 1 24,si hw] [1,2,3,8,12,39,40,41] 3 kr (zaw 12 2 (List.map vrow out++[[vsl row4]]) gZ (he:=by first|rfl|(simp only [List.map_append,List.map_cons,List.map_nil,List.length_append,List.length_map,List.length_cons,List.length_nil,za8] <;> rfl)) (hm:=by first|rfl|(simp only [List.map_append,List.map_cons,List.map_nil,List.length_append,List.length_map,List.length_cons,List.length_nil,za8] <;> rfl)))))))⟩)
    ·exact .inr ⟨r4_0,r4_1,(by first|exact hI.bad hx ‹_›|exact hI.bad2 hx ‹_› ‹_› ‹_› ‹_›),zaa (wklN (p_2++[sb h3]) [1,2,3,8,12,15,18,39,40,41,70,71,72] 3 [(.ot 18 Ty.Value,4)] kr g4)⟩
  ·exact (ih out Zo zxQ Zo).elim (fun ⟨outZ,qZ,xZ,gZ⟩=>.inl ⟨outZ,qZ,xZ,fun R hg=>zaa (wkl (p_1++[sb h1,sb h2,si hw]) [1,2,3,8,12,39,40,41] 3 kr (gZ R hg))⟩) (fun ⟨rY,cY,pZ,gZ⟩=>.inr ⟨rY,cY,pZ,zaa (wkl [sb h0,se (zae Rw.cells hx rfl),sc (zbg frs s x.vals zgm),sc hTx,sb h1,sb h2,si hw] [1,2,3,8,12,39,40,41] 3 kr gZ)⟩)
 ·exact .inr ⟨[],(tr x).snd,(by first|exact hI.bad hx ‹_›|exact hI.bad2 hx ‹_› ‹_› ‹_› ‹_›),zaa (wkr (p_1++[sb h1]) kr)⟩
theorem zsy (tr:Rw->Bool × Int) (F:Rw->X->V × Int) (q:Qy) (frs:List Fr) (tb:List Tb) (hl:q.items.length<=1000) (htb:zac tb) (htc:∀ x∈tb,zac x.sch.cols) (hrw:(zbe tb q.frm).length<=1000) (hfr:zac frs) (hv:∀ r∈zbe tb q.frm,zac r.vals) (hT:∀ r∈zbe tb q.frm,Pure S.A4 [xsl q.wh,fsl (zat frs (zaG tb q.frm).1 r.vals),tsl tb] (.tup [bv (tr r).1,iv (tr r).2])) (hF:∀ r∈zbe tb q.frm,∀ x∈q.items,Pure S.Am [x.av,fsl (zat frs (zaG tb q.frm).1 r.vals),tsl tb] (.tup [(F r x).1.av,iv (F r x).2])):∃ (r:List (List V)) (c:Int),(r,c)=ziK (zaG tb q.frm).2 tr F q (zbe tb q.frm)/\zab E0 S.A7 [q.av,fsl frs,tsl tb] [] (.tup [.sl (r.map vrow),iv c]) []:=by
 let p_1:List St:=[sc (zjN tb q.frm zhi zhi)]
 cases h1:!(zaG tb q.frm).snd
 ·obtain ⟨b2,c2⟩:=(zmu tb q.frm zhi)
  rcases zji tr F q ((zaG tb q.frm).fst) frs tb (zbe tb q.frm) zhi zhi zhi zhi hT hF 0 ([]) zhi zhi with ⟨out3,q3,q3_1,g3⟩|⟨r3_0,r3_1,p3_0,g3⟩
  ·exact ⟨out3,0,zxR,wkcN At.A7 (p_1++[sb h1,sc c2]) [1,2,3,8,12,39,40,41] 2 [(.ot 12 Ty.LValue,3)] kr (g3 _ (zaa (wkr [sqx (out3.length=(List.map vrow out3).length/\True/\True),sb q3_1] kr)))⟩
  ·exact ⟨r3_0,r3_1,zxR,wkcN At.A7 (p_1++[sb h1,sc c2]) [1,2,3,8,12,39,40,41] 2 [(.ot 12 Ty.LValue,3)] kr (g3)⟩
 ·exact ⟨[],3,zxR,wk At.A7 (p_1++[sb h1]) kr⟩
theorem zCd {f:X->V × Int} {e:X} {frs:List Fr} {tb:List Tb} (agg:V × Int) (hs:e.sub=[]):val0 f (eOp e) e frs tb=valF f (eOp e) agg e frs tb:=by
 unfold val0 valF
 rw [zia,zi6]
 cases hf:zb6 e
 ·rfl
 ·simp only [Bool.not_true,cond_false]
  cases h1:e.kind==1
  ·cases h2:e.kind==2
   ·have hk:¬(8<=e.kind/\e.kind<=12):=by
     intro h8
     unfold zb6 at hf
     rw [hs] at hf
     have:=zdq hf
     omega
    have e8:(e.kind==8)=false:=by simp;omega
    have e9:(e.kind==9)=false:=by simp;omega
    have e10:(e.kind==10)=false:=by simp;omega
    have e11:(e.kind==11)=false:=by simp;omega
    have e12:(e.kind==12)=false:=by simp;omega
    simp only [e8,e9,e10,e11,e12,cond_false]
   ·rfl
  ·rfl
theorem zhf {tb:List Tb} {n:Str} {t:Tb} (h:zaJ tb n=some t):zbe tb n=t.rows/\zaG tb n=(t.sch,true):=by
 rw [zcV];unfold zbe;rw [h];exact ⟨rfl,rfl⟩
theorem zhe {tb:List Tb} {n:Str} (h:zaJ tb n=none):zbe tb n=[]/\(zaG tb n).2=false:=by
 rw [zcV];unfold zbe;rw [h];exact ⟨rfl,rfl⟩
abbrev rIn (frs:List Fr) (tb:List Tb) (n:Str) (r:Rw):List Fr:=zat frs (zaG tb n).1 r.vals
theorem zA6 {F:List Fr->X->V × Int} {e:X} {q:Qy} {r:List Qy} {frs:List Fr} {tb:List Tb} (hs:e.sub=q::r):aggV (zaG tb q.frm).2 (fun w=>zaU (F (rIn frs tb q.frm w)) q.wh) (fun w=>F (rIn frs tb q.frm w)) q.items (zbe tb q.frm) e=zex F e frs tb:=by
 unfold zex aggV
 rw [hs]
 simp only
 cases hf:zaJ tb q.frm with
 | none =>
  rw [(zhe hf).2];rfl
 | some t =>
  obtain ⟨h1,h2⟩:=zhf hf
  simp only [h1,h2,rIn,Bool.not_true,cond_false]
  rfl
theorem znC {f:X->V × Int} {wh:List X} {frs:List Fr} {tb:List Tb} (hf:∀ x∈wh,Pure S.Am [x.av,fsl frs,tsl tb] (.tup [(f x).1.av,iv (f x).2])) (hg:∀ x∈wh,(f x).1.Good):Pure S.A4 [xsl wh,fsl frs,tsl tb] (.tup [bv (zaU f wh).1,iv (zaU f wh).2]):=by
 cases wh with
 | nil =>
  obtain ⟨b,c,e,h⟩:=zpI frs tb
  have e2:(b,c)=zaU f []:=e
  rw [← e2];exact h
 | cons x r =>
  obtain ⟨b,c,e,h⟩:=zpJ f x r frs tb (hf x Zs) (hg x Zs)
  have e2:(b,c)=zaU f (x::r):=e
  rw [← e2];exact h
theorem ztH {tb:List Tb} {n:Str} {r:Rw} (h:r∈zbe tb n):∃ t,zaJ tb n=some t/\t∈tb/\r∈t.rows/\(zaG tb n).1=t.sch:=by
 cases hf:zaJ tb n with
 | none=>rw [(zhe hf).1] at h;cases h
 | some t =>
  obtain ⟨h1,h2⟩:=zhf hf
  rw [h1] at h
  exact ⟨t,rfl,zcJ hf,h,by rw [h2]⟩
theorem ztG {tb:List Tb} (ht:TbOk tb) (n:Str):(zbe tb n).length<=1000:=by
 cases hf:zaJ tb n with
 | none=>rw [(zhe hf).1];simp
 | some t=>rw [(zhf hf).1];exact ht.rows t (zcJ hf)
theorem zdS {n:Nat} {frs:List Fr} {tb:List Tb} {nm:Str} {r:Rw} (hf:FsOk (n+1) frs) (hg:FsG frs) (ht:TbOk tb) (htg:TbG tb) (hr:r∈zbe tb nm):FsOk n (rIn frs tb nm r)/\FsG (rIn frs tb nm r):=by
 obtain ⟨t,_,hm,hr,hs⟩:=ztH hr
 unfold rIn;rw [hs]
 exact ⟨hf.eins (t:=t) (ht.cols t hm) (htg.vals t hm r hr),hg.ins (t:=t) (htg.vals t hm r hr)⟩
theorem zBb {n:Nat} {e:X} {q:Qy} {r:List Qy} {frs:List Fr} {tb:List Tb} (he:XOk (n+1) e) (hs:e.sub=q::r) (hk:8<=e.kind/\e.kind<=12) (hf:FsOk (n+1) frs) (hg:FsG frs) (ht:TbOk tb) (htg:TbG tb)
  (hV:∀ w x,XOk n x->FsOk n w->FsG w->Pure S.Am [x.av,fsl w,tsl tb] (.tup [(eval n x w tb).1.av,iv (eval n x w tb).2])):Pure S.AB [e.av,fsl frs,tsl tb] (.tup [(zex (fun w x=>eval n x w tb) e frs tb).1.av,iv (zex (fun w x=>eval n x w tb) e frs tb).2]):=by
 obtain ⟨_,_,_,hsub⟩:=id he
 obtain ⟨h1,h2,h3⟩:=hsub q (by rw [hs];simp)
 obtain ⟨v,c,ev,h⟩:=zm8 (fun w=>zaU (fun x=>eval n x (rIn frs tb q.frm w) tb) q.wh) (fun w x=>eval n x (rIn frs tb q.frm w) tb) e q frs tb (by rw [hs];rfl) (by have:=h1.1;simp only [Thin] at this;omega) ht.len ht.cols (ztG ht _) hf.short hk
  (fun w hw=>znC (fun x hx=>hV _ x (h3 x hx) (zdS hf hg ht htg hw).1 (zdS hf hg ht htg hw).2) fun x hx=>zbH n x _ tb (h3 x hx) (zdS hf hg ht htg hw).2 htg)
  (fun w hw x hx=>hV _ x (h2 x hx) (zdS hf hg ht htg hw).1 (zdS hf hg ht htg hw).2)
  (zkT _ _ _ _ _ (fun w hw its hi=>zkD _ _ _ _ (fun x hx=>zbH n x _ tb (h2 x hx) (zdS hf hg ht htg hw).2 htg) hi) (fun v hv=>by cases hv))
 have ea:=zA6 (F:=fun w x=>eval n x w tb) (frs:=frs) (tb:=tb) hs
 rw [← ea,← ev];exact h
theorem zdL:∀ (n:Nat) (e:X) (frs:List Fr) (tb:List Tb),XOk n e->FsOk n frs->FsG frs->TbOk tb->TbG tb->Pure S.Am [e.av,fsl frs,tsl tb] (.tup [(eval n e frs tb).1.av,iv (eval n e frs tb).2])
 | 0,e,frs,tb,h,_,_,_,_=>h.elim
 | n+1,e,frs,tb,h,hf,hg,ht,htg=>by
  obtain ⟨_,h2,h3,h4⟩:=id h
  cases hs:e.sub with
  | nil =>
   obtain ⟨v,c,ev,hc⟩:=zn5 (fun x=>eval n x frs tb) e frs tb (n+1) hf hs (by rw [hs];rfl) h2.1.few (fun x hx=>zdL n x frs tb (h3 x hx) hf.less hg ht htg) (fun x hx=>zbH n x frs tb (h3 x hx) hg htg) fun ho l hl hl2=>zys ho l hl hl2
   have e2:(v,c)=eval (n+1) e frs tb:=by rw [ev,zCd _ hs];rfl
   rw [← e2];exact hc
  | cons q r =>
   have hfk:(!zcI e)=false->8<=e.kind/\e.kind<=12:=fun h=>by
    have hfm:zb6 e=true:=by rw [← zia];simpa using h
    unfold zb6 at hfm
    rw [hs] at hfm
    have:=(zez Zs hfm).2.2.2
    omega
   obtain ⟨v,c,ev,hc⟩:=zn6 (zex (fun w x=>eval n x w tb) e frs tb) e frs tb (fun h=>by have:=hfk h;simp;omega) (fun h=>by have:=hfk h;simp;omega) (by rw [hs];first|(simp;done)|(simp;omega)) fun hsh =>
    zBb h hs (hfk hsh) hf hg ht htg fun w x hx hw hwg=>zdL n x w tb hx hw hwg ht htg
   have e2:(v,c)=eval (n+1) e frs tb:=by
    rw [ev]
    show _=valF _ _ _ _ _ _
    cases hsh:zcI e
    ·unfold valF
     rw [zia] at hsh
     rw [hsh];rfl
    ·have h8:=hfk (by rw [hsh];rfl)
     rw [zAR (by rw [← zia];exact hsh) h8.1 h8.2];rfl
   rw [← e2];exact hc
theorem zzZ {n:Nat} {q:Qy} {frs:List Fr} {tb:List Tb} (hq:QOk n q) (hfo:FsOk (n+1) frs) (hto:TbOk tb) (hfg:FsG frs) (htg:TbG tb) (hv:∀ x∈tb,∀ r∈x.rows,zac r.vals) :
  Pure S.A7 [q.av,fsl frs,tsl tb] (.tup [.sl ((zbm n q frs tb).1.map vrow),iv (zbm n q frs tb).2]):=by
 obtain ⟨v,c,ev,h⟩:=zsy (fun w=>zaU (fun x=>eval n x (rIn frs tb q.frm w) tb) q.wh) (fun w x=>eval n x (rIn frs tb q.frm w) tb) q frs tb (by have:=hq.few;simp only [Few] at this;omega) hto.len hto.cols (ztG hto _) hfo.short
  (fun r hr=>by obtain ⟨t,_,hm,hr,_⟩:=ztH hr;exact hv t hm r hr)
  (fun w hw=>znC (fun x hx=>zdL n x _ tb (hq.wh x hx) (zdS hfo hfg hto htg hw).1 (zdS hfo hfg hto htg hw).2 hto htg) fun x hx=>zbH n x _ tb (hq.wh x hx) (zdS hfo hfg hto htg hw).2 htg)
  (fun w hw x hx=>zdL n x _ tb (hq.items x hx) (zdS hfo hfg hto htg hw).1 (zdS hfo hfg hto htg hw).2 hto htg)
 have e2:(v,c)=zbm n q frs tb:=by
  rw [ev]
  unfold zbm ziK
  cases hf:zaJ tb q.frm with
  | none=>rw [(zhe hf).2];rfl
  | some t =>
   obtain ⟨h1,h2⟩:=zhf hf
   simp only [h1,h2,rIn,Bool.not_true,cond_false]
   rfl
 rw [← e2];exact h
theorem zxS {p:Prop} (h:p:=by first|assumption|(have q1:=‹decide (idxF _ _ _ < (0:Int))=false›;have q2:=‹decide (_<=idxF _ _ _)=false›;simp only [decide_eq_false_iff_not,Int.not_lt,Int.not_le,List.length_map] at q1 q2;omega)):p:=h
theorem zxT {p:Prop} (h:p:=by first|exact hI.bad3 hx ‹_›|exact hI.badv hx ‹_› ‹_›|exact hI.bad17 hx ‹_› ‹_› ‹_›):p:=h
theorem ziM {p:Prop} (h:p:=by first|assumption|exact as0|omega):p:=h
theorem ziN {p:Prop} (h:p:=by first|assumption|exact tu0|omega):p:=h
def asgR (f:X->V × Int) (s:Sch):List Se->List V->List V × Int
 | [],v=>(v,0)
 | x::r,v=>bif decide (idxF (fun c=>colC c x.col) s.cols 0 < 0) then ([],3) else bif (f x.ex).2 != 0 then ([],(f x.ex).2) else bif decide ((v.length:Int)<=idxF (fun c=>colC c x.col) s.cols 0) then ([],17) else asgR f s r (v.set (idxF (fun c=>colC c x.col) s.cols 0).toNat (f x.ex).1)
def tchU (tr:Rw->Bool × Int) (ag:Rw->List V × Int):List Rw->List Pr->Ch × Int
 | [],u=>(⟨[],[],u⟩,0)
 | r::l,u=>bif (tr r).2 != 0 then (ch0,(tr r).2) else bif !(tr r).1 then tchU tr ag l u else bif (ag r).2 != 0 then (ch0,(ag r).2) else tchU tr ag l (u++[⟨r.id,r.vals,(ag r).1⟩])
structure TuI (tr:Rw->Bool × Int) (ag:Rw->List V × Int) (rows:List Rw) (i:Nat) (u:List Pr):Prop where
 eq:tchU tr ag rows []=tchU tr ag (rows.drop i) u
 len:u.length<=i
theorem zzi {nw:List V} {k:Int} (h1:decide (k < 0)=false) (h3:decide ((nw.length:Int)<=k)=false):OwnAt (nw.map V.cells) nw.length k:=by
 simp only [decide_eq_false_iff_not,Int.not_lt,Int.not_le] at h1 h3
 exact ⟨by simp,h1,by omega⟩
structure AsI (f:X->V × Int) (s:Sch) (sets:List Se) (v0:List V) (i:Nat) (nw:List V):Prop where
 eq:asgR f s sets v0=asgR f s (sets.drop i) nw
 len:nw.length=v0.length
section
variable {f : X -> V × Int} {s : Sch} {sets : List Se} {v0 nw : List V} {i : Nat} {x : Se} {c : Int}
theorem as0:AsI f s sets v0 0 v0:=⟨rfl,rfl⟩
theorem AsI.go (h:AsI f s sets v0 i nw) (hx:sets[i]?=some x) (h1:decide (idxF (fun c=>colC c x.col) s.cols 0 < 0)=false) (h2:((f x.ex).2 != 0)=false) (h3:decide ((nw.length:Int)<=idxF (fun c=>colC c x.col) s.cols 0)=false):AsI f s sets v0 (i+1) (nw.set (idxF (fun c=>colC c x.col) s.cols 0).toNat (f x.ex).1):=by
 refine ⟨?_,by rw [List.length_set];exact h.len⟩
 rw [h.eq,zam hx];simp only [asgR,h1,h2,h3,cond_false]
theorem AsI.bad3 (h:AsI f s sets v0 i nw) (hx:sets[i]?=some x) (h1:decide (idxF (fun c=>colC c x.col) s.cols 0 < 0)=true):ch0=ch0/\(3:Int)≠0/\(asgR f s sets v0).2=3:=by
 refine ⟨rfl,by decide,?_⟩
 rw [h.eq,zam hx];simp only [asgR,h1,cond_true]
theorem AsI.badv (h:AsI f s sets v0 i nw) (hx:sets[i]?=some x) (h1:decide (idxF (fun c=>colC c x.col) s.cols 0 < 0)=false) (h2:((f x.ex).2 != 0)=true):ch0=ch0/\(f x.ex).2≠0/\(asgR f s sets v0).2=(f x.ex).2:=by
 refine ⟨rfl,by simpa using h2,?_⟩
 rw [h.eq,zam hx];simp only [asgR,h1,h2,cond_true,cond_false]
theorem AsI.bad17 (h:AsI f s sets v0 i nw) (hx:sets[i]?=some x) (h1:decide (idxF (fun c=>colC c x.col) s.cols 0 < 0)=false) (h2:((f x.ex).2 != 0)=false) (h3:decide ((nw.length:Int)<=idxF (fun c=>colC c x.col) s.cols 0)=true):ch0=ch0/\(17:Int)≠0/\(asgR f s sets v0).2=17:=by
 refine ⟨rfl,by decide,?_⟩
 rw [h.eq,zam hx];simp only [asgR,h1,h2,h3,cond_true,cond_false]
theorem AsI.fin (h:AsI f s sets v0 sets.length nw):asgR f s sets v0=(nw,0):=by
 rw [h.eq,List.drop_length];rfl
end
theorem zsE (l:List V) (hl:zac l):∃ (n:Nat),n=l.length/\zab E0 S.C5 [vsl l] [] (.own 0 n) [.row Ty.Value (l.map V.cells) false]:=by
 exact ⟨(List.map V.cells l).length,Zs,wkK At.C5 [sqx (AllLen (List.map V.cells l) 3/\((List.map V.cells l).length * 32).le 140737488355328)] kr⟩
noncomputable def zww (f:X->V × Int) (a:Ac) (t:Tb) (frs inn:List Fr) (tb:List Tb) (io:Nat) (y:Rw) (u:List Pr) (i:Nat) (nw:List V):Cfg:=zag B.Aw 1 [(2,fsl frs),(3,tsl tb),(4,.p 0 0),(5,.p 1 0),(8,.p 2 0),(10,.p 3 0),(12,.p 5 0),(13,fsl inn),(16,.own 6 nw.length),(23,.sl (t.rows.map Rw.cells)),(24,iv ((t.rows.map Rw.cells).length:Nat)),(25,iv (io:Nat)),(63,.sl (a.sets.map Se.cells)),(64,iv ((a.sets.map Se.cells).length:Nat)),(65,iv (i:Nat))] [.box a.cells,.box t.cells,.box [.nl,.nl,.nl],.box [.nl,.nl,.own 4 u.length],.row Ty.Pair (u.map Pr.cells) false,.box y.cells,.row Ty.Value (nw.map V.cells) false]
theorem zhq (f:X->V × Int) (a:Ac) (t:Tb) (frs inn:List Fr) (tb:List Tb) (io:Nat) (y:Rw) (u:List Pr) (hcl:zac t.sch.cols) (hl:zac a.sets) (hvy:zac y.vals) (hf:∀ x∈a.sets,Pure S.Am [x.ex.av,fsl inn,tsl tb] (.tup [(f x.ex).1.av,iv (f x.ex).2])) (i:Nat) (nw:List V) (hi:i<=(a.sets).length) (hI:AsI f t.sch a.sets y.vals i nw):(∃ (nw':List V),(AsI f t.sch a.sets y.vals (a.sets).length nw')/\(decide ((((a.sets).length:Nat):Int) < (((a.sets.map Se.cells).length:Nat):Int))=false)/\∀ R,Good E0 B.Aw [] (zww f a t frs inn tb io y u (a.sets).length nw') R->Good E0 B.Aw [] (zww f a t frs inn tb io y u i nw) R)\/(∃ (r:Ch) (c:Int),(r=ch0/\c≠0/\(asgR f t.sch a.sets y.vals).2=c)/\Good E0 B.Aw [] (zww f a t frs inn tb io y u i nw) (Shut 0 fun rZ hZ=>rZ=(.tup [Ch.av r,iv c])/\hZ=[])):=by
 have hk:=hi;revert i nw;refine zlp ((a.sets).length) (fun i hlt ih nw hi hI _=>?_)
 obtain ⟨x,hx,h0,hw⟩:=zlq (l:=a.sets) ((a.sets.map Se.cells).length) hlt
 have hfx:=hf x (List.mem_of_getElem? hx);have hnl:zac nw:=(by have:=hI.len;simp only [zac] at *;omega)
 let p_1:List St:=[sb h0,se (zae Se.cells hx rfl),sc (zgi t.sch x.col zxS)]
 cases h1:decide (idxF (fun c=>colC c x.col) t.sch.cols 0 < 0)
 ·cases h2:(f x.ex).snd != 0
  ·let p_2:List St:=p_1++[sb h1,sc hfx,sb h2,sqx (nw.length=(List.map V.cells nw).length)]
   cases h3:decide ((nw.length:Int)<=idxF (fun c=>colC c x.col) t.sch.cols 0)
   ·obtain ⟨x4,e4⟩:=za4 (l:=nw) (i:=(idxF (fun c=>colC c x.col) t.sch.cols 0).toNat) zxS
    exact (ih (nw.set (idxF (fun c=>colC c x.col) t.sch.cols 0).toNat (f x.ex).fst) Zo (by exact hI.go hx ‹_› ‹_› ‹_›) Zo).elim (fun ⟨nwZ,qZ,xZ,gZ⟩=>.inl ⟨nwZ,qZ,xZ,fun R hg=>zaa (wkl (p_2++[sb h3,sq (zzi h1 h3),sx (.el x4.cells) (And.intro (owed (p:=True/\True/\True/\True)) (zdQ V.cells (n:=nw.length) Zs e4)),si hw]) [2,3,4,5,8,10,12,13,16,23,24,25,63,64,65] 7 kr (zaA (show ([(2,fsl frs),(3,tsl tb),(4,AV.p 0 0),(5,AV.p 1 0),(8,AV.p 2 0),(10,AV.p 3 0),(12,AV.p 5 0),(13,fsl inn),(16,AV.own 6 nw.length),(23,ZW t.rows),(24,iv (↑(List.map Rw.cells t.rows).length:Int)),(25,iv (io:Int)),(63,ZE a.sets),(64,iv (↑(List.map Se.cells a.sets).length:Int)),(65,iv (↑(i+1):Int))]:TS)=_ from Zcv4) (show ([Blk.box [iv a.kind,sv a.table,AV.sl (List.map (fun r=>[AV.sl (zad r)]) a.rows),AV.sl (zah a.query),ZE a.sets,AV.sl (zad a.wh),sv a.text],Blk.box [sv t.sch.name,ZC t.sch.cols,iv t.next,ZW t.rows],Blk.box [AV.nl,AV.nl,AV.nl],Blk.box [AV.nl,AV.nl,AV.own 4 u.length],Blk.row Ty.Pair (List.map Pr.cells u) false,Blk.box [iv y.id,vsl y.vals],Blk.row Ty.Value ((List.map V.cells nw).set (idxF (fun c=>colC c x.col) t.sch.cols 0).toNat [iv (f x.ex).fst.kind,iv (f x.ex).fst.int,sv (f x.ex).fst.text]) false]:Heap)=_ from Zcv4) (gZ R hg)))⟩) (fun ⟨rY,cY,pZ,gZ⟩=>.inr ⟨rY,cY,pZ,zaa (wkl [sb h0,se (zae Se.cells hx rfl),sc (zgi t.sch x.col zxS),sb h1,sc hfx,sb h2,sqx (nw.length=(List.map V.cells nw).length),sb h3,sq (zzi h1 h3),sx (.el x4.cells) (And.intro (owed (p:=True/\True/\True/\True)) (zdQ V.cells (n:=nw.length) Zs e4)),si hw] [2,3,4,5,8,10,12,13,16,23,24,25,63,64,65] 7 kr (zaA (show ([(2,fsl frs),(3,tsl tb),(4,AV.p 0 0),(5,AV.p 1 0),(8,AV.p 2 0),(10,AV.p 3 0),(12,AV.p 5 0),(13,fsl inn),(16,AV.own 6 nw.length),(23,ZW t.rows),(24,iv (↑(List.map Rw.cells t.rows).length:Int)),(25,iv (io:Int)),(63,ZE a.sets),(64,iv (↑(List.map Se.cells a.sets).length:Int)),(65,iv (↑(i+1):Int))]:TS)=_ from Zcv4) (show ([Blk.box [iv a.kind,sv a.table,AV.sl (List.map (fun r=>[AV.sl (zad r)]) a.rows),AV.sl (zah a.query),ZE a.sets,AV.sl (zad a.wh),sv a.text],Blk.box [sv t.sch.name,ZC t.sch.cols,iv t.next,ZW t.rows],Blk.box [AV.nl,AV.nl,AV.nl],Blk.box [AV.nl,AV.nl,AV.own 4 u.length],Blk.row Ty.Pair (List.map Pr.cells u) false,Blk.box [iv y.id,vsl y.vals],Blk.row Ty.Value ((List.map V.cells nw).set (idxF (fun c=>colC c x.col) t.sch.cols 0).toNat [iv (f x.ex).fst.kind,iv (f x.ex).fst.int,sv (f x.ex).fst.text]) false]:Heap)=_ from Zcv4) gZ))⟩)
   ·exact .inr ⟨Ch.mk [] [] [],17,zxT,zaa (wkr (p_2++[sb h3]) kr)⟩
  ·exact .inr ⟨Ch.mk [] [] [],(f x.ex).snd,zxT,zaa (wkr (p_1++[sb h1,sc hfx,sb h2]) kr)⟩
 ·exact .inr ⟨Ch.mk [] [] [],3,zxT,zaa (wkr (p_1++[sb h1]) kr)⟩
section
variable {tr : Rw -> Bool × Int} {ag : Rw -> List V × Int} {rows : List Rw} {i : Nat} {u : List Pr} {x : Rw} {nw : List V} {r : Ch} {c : Int}
theorem tu0:TuI tr ag rows 0 []:=⟨rfl,by simp⟩
theorem TuI.skip (h:TuI tr ag rows i u) (hx:rows[i]?=some x) (h1:((tr x).2 != 0)=false) (h2:(!(tr x).1)=true):TuI tr ag rows (i+1) u:=by
 refine ⟨?_,by have:=h.len;omega⟩
 rw [h.eq,zam hx];simp only [tchU,h1,h2,cond_true,cond_false]
theorem TuI.go (h:TuI tr ag rows i u) (hx:rows[i]?=some x) (h1:((tr x).2 != 0)=false) (h2:(!(tr x).1)=false) (ha:ag x=(nw,0)):TuI tr ag rows (i+1) (u++[⟨x.id,x.vals,nw⟩]):=by
 refine ⟨?_,by have:=h.len;simp;omega⟩
 have h5:((0:Int) != 0)=false:=rfl
 rw [h.eq,zam hx];simp only [tchU,h1,h2,ha,h5,cond_false]
theorem TuI.bad (h:TuI tr ag rows i u) (hx:rows[i]?=some x) (h1:((tr x).2 != 0)=true):(ch0,(tr x).2)=tchU tr ag rows []:=by
 rw [h.eq,zam hx];simp only [tchU,h1,cond_true]
theorem TuI.bad2 (h:TuI tr ag rows i u) (hx:rows[i]?=some x) (h1:((tr x).2 != 0)=false) (h2:(!(tr x).1)=false) (hc:r=ch0/\c≠0/\(ag x).2=c):(r,c)=tchU tr ag rows []:=by
 have h5:(c != 0)=true:=by simpa using hc.2.1
 rw [h.eq,zam hx,hc.1];simp only [tchU,h1,h2,hc.2.2,h5,cond_true,cond_false]
theorem TuI.fin (h:TuI tr ag rows rows.length u):(Ch.mk [] [] u,0)=tchU tr ag rows []:=by
 rw [h.eq,List.drop_length];rfl
end
abbrev agR (F:Rw->X->V × Int) (t:Tb) (a:Ac) (r:Rw):List V × Int:=asgR (F r) t.sch a.sets r.vals
theorem copyO (l:List V) (hl:zac l):zab E0 S.C5 [vsl l] [] (.own 0 l.length) [.row Ty.Value (l.map V.cells) false]:=by
 obtain ⟨n,rfl,h⟩:=zsE l hl
 exact h
noncomputable def zwy (tr:Rw->Bool × Int) (F:Rw->X->V × Int) (a:Ac) (t:Tb) (frs:List Fr) (tb:List Tb) (i:Nat) (u:List Pr):Cfg:=zag B.Aw 0 [(2,fsl frs),(3,tsl tb),(4,.p 0 0),(5,.p 1 0),(8,.p 2 0),(10,.p 3 0),(23,.sl (t.rows.map Rw.cells)),(24,iv ((t.rows.map Rw.cells).length:Nat)),(25,iv (i:Nat))] [.box a.cells,.box t.cells,.box [.nl,.nl,.nl],.box [.nl,.nl,.own 4 u.length],.row Ty.Pair (u.map Pr.cells) false]
theorem zhs (tr:Rw->Bool × Int) (F:Rw->X->V × Int) (a:Ac) (t:Tb) (frs:List Fr) (tb:List Tb) (hkd:(a.kind==3)=false) (hrw:t.rows.length<=1000) (hfr:zac frs) (hcl:zac t.sch.cols) (hsl:zac a.sets) (hv:∀ r∈t.rows,zac r.vals) (hT:∀ r∈t.rows,Pure S.A4 [xsl a.wh,fsl (zat frs t.sch r.vals),tsl tb] (.tup [bv (tr r).1,iv (tr r).2])) (hF:∀ r∈t.rows,∀ x∈a.sets,Pure S.Am [x.ex.av,fsl (zat frs t.sch r.vals),tsl tb] (.tup [(F r x.ex).1.av,iv (F r x.ex).2])) (i:Nat) (u:List Pr) (hi:i<=(t.rows).length) (hI:TuI tr (agR F t a) t.rows i u):(∃ (u':List Pr),(TuI tr (agR F t a) t.rows (t.rows).length u')/\(decide ((((t.rows).length:Nat):Int) < (((t.rows.map Rw.cells).length:Nat):Int))=false)/\∀ R,Good E0 B.Aw [] (zwy tr F a t frs tb (t.rows).length u') R->Good E0 B.Aw [] (zwy tr F a t frs tb i u) R)\/(∃ (r:Ch) (c:Int),(r,c)=tchU tr (agR F t a) t.rows []/\Good E0 B.Aw [] (zwy tr F a t frs tb i u) (Shut 0 fun rZ hZ=>rZ=(.tup [Ch.av r,iv c])/\hZ=[])):=by
 have hk:=hi;revert i u;refine zlp ((t.rows).length) (fun i hlt ih u hi hI _=>?_)
 obtain ⟨x,hx,h0,hw⟩:=zlq (l:=t.rows) ((t.rows.map Rw.cells).length) hlt
 have hTx:=hT x (List.mem_of_getElem? hx);have hFx:=hF x (List.mem_of_getElem? hx);have hvx:=hv x (List.mem_of_getElem? hx);have hcp:=copyO x.vals hvx;have ho:u.length<=1000000000:=(by have:=hI.len;have:=zbu hx;omega)
 let p_1:List St:=[sb h0,se (zae Rw.cells hx rfl),sc (zbg frs t.sch x.vals ziM),sc hTx]
 cases h1:(tr x).snd != 0
 ·cases h2:!(tr x).fst
  ·rcases zhq (F x) a t frs (zat frs t.sch x.vals) tb i x u ziM ziM ziM hFx 0 x.vals ziM ziM with ⟨nw3,q3,q3_1,g3⟩|⟨r3_0,r3_1,p3_0,g3⟩
   ·exact (ih (u++[Pr.mk x.id x.vals nw3]) Zo (by first|exact hI.skip hx ‹_› ‹_›|exact hI.go hx ‹_› ‹_› (AsI.fin ‹_›)) Zo).elim (fun ⟨uZ,qZ,xZ,gZ⟩=>.inl ⟨uZ,qZ,xZ,fun R hg=>zaa (wkl (p_1++[sb h1,sb h2,sb hkd,sc hcp]) [2,3,4,5,8,10,12,13,16,23,24,25,63,64,65] 7 kr (g3 _ (zaa (wkl [sb q3_1,sd [(6,[sc hcp]),(9,[sqx (True/\x.vals.length=(List.map V.cells x.vals).length/\nw3.length=(List.map V.cells nw3).length/\True)]),(10,[sqA (List.map Pr.cells u) [[iv x.id,vsl x.vals,vsl nw3]] u.length 3 56])],si hw] [2,3,4,5,8,10,23,24,25] 5 kr (zaA rfl (show ([Blk.box [iv a.kind,sv a.table,AV.sl (List.map (fun r=>[AV.sl (zad r)]) a.rows),AV.sl (zah a.query),ZE a.sets,AV.sl (zad a.wh),sv a.text],Blk.box [sv t.sch.name,ZC t.sch.cols,iv t.next,ZW t.rows],Blk.box [AV.nl,AV.nl,AV.nl],Blk.box [AV.nl,AV.nl,AV.own 4 (List.map Pr.cells u++[[iv x.id,vsl x.vals,vsl nw3]]).length],Blk.row Ty.Pair (List.map Pr.cells u++[[iv x.id,vsl x.vals,vsl nw3]]) false]:Heap)=_ from Zcv4) (gZ R hg))))))⟩) (fun ⟨rY,cY,pZ,gZ⟩=>.inr ⟨rY,cY,pZ,zaa (wkl [sb h0,se (zae Rw.cells hx rfl),sc (zbg frs t.sch x.vals ziM),sc hTx,sb h1,sb h2,sb hkd,sc hcp] [2,3,4,5,8,10,12,13,16,23,24,25,63,64,65] 7 kr (g3 _ (zaa (wkl [sb q3_1,sd [(6,[sc hcp]),(9,[sqx (True/\x.vals.length=(List.map V.cells x.vals).length/\nw3.length=(List.map V.cells nw3).length/\True)]),(10,[sqA (List.map Pr.cells u) [[iv x.id,vsl x.vals,vsl nw3]] u.length 3 56])],si hw] [2,3,4,5,8,10,23,24,25] 5 kr (zaA rfl (show ([Blk.box [iv a.kind,sv a.table,AV.sl (List.map (fun r=>[AV.sl (zad r)]) a.rows),AV.sl (zah a.query),ZE a.sets,AV.sl (zad a.wh),sv a.text],Blk.box [sv t.sch.name,ZC t.sch.cols,iv t.next,ZW t.rows],Blk.box [AV.nl,AV.nl,AV.nl],Blk.box [AV.nl,AV.nl,AV.own 4 (List.map Pr.cells u++[[iv x.id,vsl x.vals,vsl nw3]]).length],Blk.row Ty.Pair (List.map Pr.cells u++[[iv x.id,vsl x.vals,vsl nw3]]) false]:Heap)=_ from Zcv4) gZ)))))⟩)
   ·exact .inr ⟨r3_0,r3_1,(by first|exact hI.bad hx ‹_›|exact hI.bad2 hx ‹_› ‹_› ‹_›),zaa (wkl (p_1++[sb h1,sb h2,sb hkd,sc hcp]) [2,3,4,5,8,10,12,13,16,23,24,25,63,64,65] 7 kr g3)⟩
  ·exact (ih u Zo (by first|exact hI.skip hx ‹_› ‹_›|exact hI.go hx ‹_› ‹_› (AsI.fin ‹_›)) Zo).elim (fun ⟨uZ,qZ,xZ,gZ⟩=>.inl ⟨uZ,qZ,xZ,fun R hg=>zaa (wkl (p_1++[sb h1,sb h2,si hw]) [2,3,4,5,8,10,23,24,25] 5 kr (gZ R hg))⟩) (fun ⟨rY,cY,pZ,gZ⟩=>.inr ⟨rY,cY,pZ,zaa (wkl [sb h0,se (zae Rw.cells hx rfl),sc (zbg frs t.sch x.vals ziM),sc hTx,sb h1,sb h2,si hw] [2,3,4,5,8,10,23,24,25] 5 kr gZ)⟩)
 ·exact .inr ⟨Ch.mk [] [] [],(tr x).snd,(by first|exact hI.bad hx ‹_›|exact hI.bad2 hx ‹_› ‹_› ‹_›),zaa (wkr (p_1++[sb h1]) kr)⟩
theorem zmw (tr:Rw->Bool × Int) (F:Rw->X->V × Int) (a:Ac) (t:Tb) (frs:List Fr) (tb:List Tb) (hkd:(a.kind==3)=false) (hrw:t.rows.length<=1000) (hfr:zac frs) (hcl:zac t.sch.cols) (hsl:zac a.sets) (hv:∀ r∈t.rows,zac r.vals) (hT:∀ r∈t.rows,Pure S.A4 [xsl a.wh,fsl (zat frs t.sch r.vals),tsl tb] (.tup [bv (tr r).1,iv (tr r).2])) (hF:∀ r∈t.rows,∀ x∈a.sets,Pure S.Am [x.ex.av,fsl (zat frs t.sch r.vals),tsl tb] (.tup [(F r x.ex).1.av,iv (F r x.ex).2])):∃ (r:Ch) (c:Int),(r,c)=tchU tr (agR F t a) t.rows []/\zab E0 S.Aw [a.av,t.av,fsl frs,tsl tb] [] (.tup [r.av,iv c]) []:=by
 rcases zhs tr F a t frs tb ziN ziN ziN ziN ziN ziN hT hF 0 ([]) ziN ziN with ⟨u1,q1,q1_1,g1⟩|⟨r1_0,r1_1,p1_0,g1⟩
 ·exact ⟨Ch.mk [] [] u1,0,(by first|assumption|exact TuI.fin ‹_›),wkcN At.Aw [] [2,3,4,5,8,10,23,24,25] 4 [(.ob 3 2 Ty.Pair,5)] kr (g1 _ (zaa (wkr [sqx ((True/\True/\u1.length=(List.map Pr.cells u1).length/\True)/\True/\True),sb q1_1] kr)))⟩
 ·exact ⟨r1_0,r1_1,(by first|assumption|exact TuI.fin ‹_›),wkcN At.Aw [] [2,3,4,5,8,10,23,24,25] 4 [(.ob 3 2 Ty.Pair,5)] kr (g1)⟩
theorem zmd {p:Prop} (h:p:=by first|assumption|exact td0|omega):p:=h
def tchD (tr:Rw->Bool × Int):List Rw->List Int->Ch × Int
 | [],d=>(⟨[],d,[]⟩,0)
 | r::l,d=>bif (tr r).2 != 0 then (ch0,(tr r).2) else bif !(tr r).1 then tchD tr l d else tchD tr l (d++[r.id])
structure TdI (tr:Rw->Bool × Int) (rows:List Rw) (i:Nat) (d:List Int):Prop where
 eq:tchD tr rows []=tchD tr (rows.drop i) d
 len:d.length<=i
section
variable {tr : Rw -> Bool × Int} {rows : List Rw} {i : Nat} {d : List Int} {x : Rw}
theorem td0:TdI tr rows 0 []:=⟨rfl,by simp⟩
theorem TdI.skip (h:TdI tr rows i d) (hx:rows[i]?=some x) (h1:((tr x).2 != 0)=false) (h2:(!(tr x).1)=true):TdI tr rows (i+1) d:=by
 refine ⟨?_,by have:=h.len;omega⟩
 rw [h.eq,zam hx];simp only [tchD,h1,h2,cond_true,cond_false]
theorem TdI.go (h:TdI tr rows i d) (hx:rows[i]?=some x) (h1:((tr x).2 != 0)=false) (h2:(!(tr x).1)=false):TdI tr rows (i+1) (d++[x.id]):=by
 refine ⟨?_,by have:=h.len;simp;omega⟩
 rw [h.eq,zam hx];simp only [tchD,h1,h2,cond_false]
theorem TdI.bad (h:TdI tr rows i d) (hx:rows[i]?=some x) (h1:((tr x).2 != 0)=true):(ch0,(tr x).2)=tchD tr rows []:=by
 rw [h.eq,zam hx];simp only [tchD,h1,cond_true]
theorem TdI.fin (h:TdI tr rows rows.length d):(Ch.mk [] d [],0)=tchD tr rows []:=by
 rw [h.eq,List.drop_length];rfl
end
noncomputable def zwx (tr:Rw->Bool × Int) (a:Ac) (t:Tb) (frs:List Fr) (tb:List Tb) (i:Nat) (d:List Int):Cfg:=zag B.Aw 0 [(2,fsl frs),(3,tsl tb),(4,.p 0 0),(5,.p 1 0),(8,.p 2 0),(10,.p 3 0),(23,.sl (t.rows.map Rw.cells)),(24,iv ((t.rows.map Rw.cells).length:Nat)),(25,iv (i:Nat))] [.box a.cells,.box t.cells,.box [.nl,.nl,.nl],.box [.nl,.own 4 d.length,.nl],.row Ty.int (d.map fun n=>[iv n]) false]
theorem zhr (tr:Rw->Bool × Int) (a:Ac) (t:Tb) (frs:List Fr) (tb:List Tb) (hkd:(a.kind==3)=true) (hrw:t.rows.length<=1000) (hfr:zac frs) (hT:∀ r∈t.rows,Pure S.A4 [xsl a.wh,fsl (zat frs t.sch r.vals),tsl tb] (.tup [bv (tr r).1,iv (tr r).2])) (i:Nat) (d:List Int) (hi:i<=(t.rows).length) (hI:TdI tr t.rows i d):(∃ (d':List Int),(TdI tr t.rows (t.rows).length d')/\(decide ((((t.rows).length:Nat):Int) < (((t.rows.map Rw.cells).length:Nat):Int))=false)/\∀ R,Good E0 B.Aw [] (zwx tr a t frs tb (t.rows).length d') R->Good E0 B.Aw [] (zwx tr a t frs tb i d) R)\/(∃ (r:Ch) (c:Int),(r,c)=tchD tr t.rows []/\Good E0 B.Aw [] (zwx tr a t frs tb i d) (Shut 0 fun rZ hZ=>rZ=(.tup [Ch.av r,iv c])/\hZ=[])):=by
 have hk:=hi;revert i d;refine zlp ((t.rows).length) (fun i hlt ih d hi hI _=>?_)
 obtain ⟨x,hx,h0,hw⟩:=zlq (l:=t.rows) ((t.rows.map Rw.cells).length) hlt
 have hTx:=hT x (List.mem_of_getElem? hx);have ho:d.length<=1000000000:=(by have:=hI.len;have:=zbu hx;omega)
 let p_1:List St:=[sb h0,se (zae Rw.cells hx rfl),sc (zbg frs t.sch x.vals (by first|assumption|omega|(simp;done)|(simp;omega))),sc hTx]
 let p_2:List St:=[sb h0,se (zae Rw.cells hx rfl),sc (zbg frs t.sch x.vals (by first|assumption|omega|(simp;done)|(simp;omega))),sc hTx]
 cases h1:(tr x).snd != 0
 ·cases h2:!(tr x).fst
  ·exact (ih (d++[x.id]) Zo (by first|exact hI.skip hx ‹_› ‹_›|exact hI.go hx ‹_› ‹_›) Zo).elim (fun ⟨dZ,qZ,xZ,gZ⟩=>.inl ⟨dZ,qZ,xZ,fun R hg=>zaa (wkl (p_1++[sb h1,sb h2,sb hkd,sqA (List.map (fun n=>[iv n]) d) [[iv x.id]] d.length 1 8,si hw]) [2,3,4,5,8,10,23,24,25] 5 kr (zaA rfl (show ([Blk.box [iv a.kind,sv a.table,AV.sl (List.map (fun r=>[AV.sl (zad r)]) a.rows),AV.sl (zah a.query),ZE a.sets,AV.sl (zad a.wh),sv a.text],Blk.box [sv t.sch.name,ZC t.sch.cols,iv t.next,ZW t.rows],Blk.box [AV.nl,AV.nl,AV.nl],Blk.box [AV.nl,AV.own 4 (List.map (fun n=>[iv n]) d++[[iv x.id]]).length,AV.nl],Blk.row Ty.int (List.map (fun n=>[iv n]) d++[[iv x.id]]) false]:Heap)=_ from Zcv4) (gZ R hg)))⟩) (fun ⟨rY,cY,pZ,gZ⟩=>.inr ⟨rY,cY,pZ,zaa (wkl (p_2++[sb h1,sb h2,sb hkd,sqA (List.map (fun n=>[iv n]) d) [[iv x.id]] d.length 1 8,si hw]) [2,3,4,5,8,10,23,24,25] 5 kr (zaA rfl (show ([Blk.box [iv a.kind,sv a.table,AV.sl (List.map (fun r=>[AV.sl (zad r)]) a.rows),AV.sl (zah a.query),ZE a.sets,AV.sl (zad a.wh),sv a.text],Blk.box [sv t.sch.name,ZC t.sch.cols,iv t.next,ZW t.rows],Blk.box [AV.nl,AV.nl,AV.nl],Blk.box [AV.nl,AV.own 4 (List.map (fun n=>[iv n]) d++[[iv x.id]]).length,AV.nl],Blk.row Ty.int (List.map (fun n=>[iv n]) d++[[iv x.id]]) false]:Heap)=_ from Zcv4) gZ))⟩)
  ·exact (ih d Zo (by first|exact hI.skip hx ‹_› ‹_›|exact hI.go hx ‹_› ‹_›) Zo).elim (fun ⟨dZ,qZ,xZ,gZ⟩=>.inl ⟨dZ,qZ,xZ,fun R hg=>zaa (wkl (p_1++[sb h1,sb h2,si hw]) [2,3,4,5,8,10,23,24,25] 5 kr (gZ R hg))⟩) (fun ⟨rY,cY,pZ,gZ⟩=>.inr ⟨rY,cY,pZ,zaa (wkl (p_2++[sb h1,sb h2,si hw]) [2,3,4,5,8,10,23,24,25] 5 kr gZ)⟩)
 ·exact .inr ⟨Ch.mk [] [] [],(tr x).snd,(by exact hI.bad hx ‹_›),zaa (wkr (p_1++[sb h1]) kr)⟩
theorem zmv (tr:Rw->Bool × Int) (a:Ac) (t:Tb) (frs:List Fr) (tb:List Tb) (hkd:(a.kind==3)=true) (hrw:t.rows.length<=1000) (hfr:zac frs) (hT:∀ r∈t.rows,Pure S.A4 [xsl a.wh,fsl (zat frs t.sch r.vals),tsl tb] (.tup [bv (tr r).1,iv (tr r).2])):∃ (r:Ch) (c:Int),(r,c)=tchD tr t.rows []/\zab E0 S.Aw [a.av,t.av,fsl frs,tsl tb] [] (.tup [r.av,iv c]) []:=by
 rcases zhr tr a t frs tb zmd zmd zmd hT 0 ([]) zmd zmd with ⟨d1,q1,q1_1,g1⟩|⟨r1_0,r1_1,p1_0,g1⟩
 ·exact ⟨Ch.mk [] d1 [],0,(by first|assumption|exact TdI.fin ‹_›),wkcN At.Aw [] [2,3,4,5,8,10,23,24,25] 4 [(.ob 3 1 Ty.int,5)] kr (g1 _ (zaa (wkr [sqx ((True/\d1.length=(List.map (fun n=>[iv n]) d1).length/\True/\True)/\True/\True),sb q1_1] kr)))⟩
 ·exact ⟨r1_0,r1_1,(by first|assumption|exact TdI.fin ‹_›),wkcN At.Aw [] [2,3,4,5,8,10,23,24,25] 4 [(.ob 3 1 Ty.int,5)] kr (g1)⟩
theorem zjY {p:Prop} (h:p:=by first|assumption|(simp only [zac] at *;omega)|exact ⟨Nat.le_refl _,rfl⟩|exact inq0 ‹_› hr|(simp;done)):p:=h
theorem ztL {p:Prop} (h:p:=by first|exact zAo ‹_› ‹_›|exact zBy ‹_› ‹_›|exact zBx ‹_›):p:=h
theorem ztM {p:Prop} (h:p:=by first|exact cq0 ‹_›|exact cqe ‹_› ‹_›|exact cqn ‹_› ‹_›):p:=h
theorem zmc {p:Prop} (h:p:=by first|omega|(simp only [zac,Few] at *;omega)):p:=h
abbrev PEr (f:X->V × Int) (x:X) (frs:List Fr) (tb:List Tb):Prop:=Pure S.Am [x.av,fsl frs,tsl tb] (.tup [(f x).1.av,iv (f x).2])
abbrev PRr (g:Qy->List (List V) × Int) (q:Qy) (frs:List Fr) (tb:List Tb):Prop:=Pure S.A7 [q.av,fsl frs,tsl tb] (.tup [.sl ((g q).1.map vrow),iv (g q).2])
noncomputable def zwm (a:Ac) (t:Tb) (frs:List Fr) (tb:List Tb) (f:X->V × Int) (io:Nat) (y:List X) (out:List (List V)) (i:Nat) (row:List V):Cfg:=zag B.As 1 [(2,fsl frs),(3,tsl tb),(4,.p 0 0),(8,.p 2 0),(10,.p 3 0),(11,iv ((t.sch.cols.map Col.cells).length:Nat)),(14,.own 5 row.length),(30,.sl (a.rows.map zaE)),(31,iv ((a.rows.map zaE).length:Nat)),(32,iv (io:Nat)),(41,xsl y),(42,iv ((zad y).length:Nat)),(43,iv (i:Nat))] [.box a.cells,.box t.cells,.box [.nl,.nl,.nl],.box [.own 4 out.length,.nl,.nl],.row Ty.LValue (out.map vrow) false,.row Ty.Value (row.map V.cells) false]
theorem zhn (a:Ac) (t:Tb) (frs:List Fr) (tb:List Tb) (f:X->V × Int) (io:Nat) (y:List X) (out:List (List V)) (hy:zac y) (hf:∀ x∈y,PEr f x frs tb) (i:Nat) (row:List V) (hi:i<=(y).length) (hI:row.length<=i/\zbk f y []=zbk f (y.drop i) row):(∃ (row':List V),(row'.length<=(y).length/\zbk f y []=zbk f (y.drop (y).length) row')/\(decide ((((y).length:Nat):Int) < (((zad y).length:Nat):Int))=false)/\∀ R,Good E0 B.As [] (zwm a t frs tb f io y out (y).length row') R->Good E0 B.As [] (zwm a t frs tb f io y out i row) R)\/(∃ (r:Ch) (c:Int),(r=ch0/\c≠0/\zbk f y []=([],c))/\Good E0 B.As [] (zwm a t frs tb f io y out i row) (Shut 0 fun rZ hZ=>rZ=(.tup [Ch.av r,iv c])/\hZ=[])):=by
 have hk:=hi;revert i row;refine zlp ((y).length) (fun i hlt ih row hi hI _=>?_)
 obtain ⟨x,hx,h0,hw⟩:=zlq (l:=y) ((zad y).length) hlt zmc
 have hx1:=hf x (List.mem_of_getElem? hx);have hrl:row.length<=1000000000:=by have:=hI.1;simp only [zac] at hy;omega
 cases h1:(f x).snd != 0
 ·exact (ih (row++[(f x).fst]) Zo (by exact ⟨by have:=hI.1;simp;omega,zq2 hI.2 hx ‹_›⟩) Zo).elim (fun ⟨rowZ,qZ,xZ,gZ⟩=>.inl ⟨rowZ,qZ,xZ,fun R hg=>zaa (wkl [sb h0,se (zbt hx),sc hx1,sb h1,sqA (List.map V.cells row) [[iv (f x).fst.kind,iv (f x).fst.int,sv (f x).fst.text]] row.length 3 32,si hw] [2,3,4,8,10,11,14,30,31,32,41,42,43] 6 kr (zaw 14 5 (List.map V.cells row++[[iv (f x).fst.kind,iv (f x).fst.int,sv (f x).fst.text]]) (gZ R hg) (he:=Zcv4) (hm:=Zcv4)))⟩) (fun ⟨rY,cY,pZ,gZ⟩=>.inr ⟨rY,cY,pZ,zaa (wkl [sb h0,se (zbt hx),sc hx1,sb h1,sqA (List.map V.cells row) [[iv (f x).fst.kind,iv (f x).fst.int,sv (f x).fst.text]] row.length 3 32,si hw] [2,3,4,8,10,11,14,30,31,32,41,42,43] 6 kr (zaw 14 5 (List.map V.cells row++[[iv (f x).fst.kind,iv (f x).fst.int,sv (f x).fst.text]]) gZ (he:=Zcv4) (hm:=Zcv4)))⟩)
 ·exact .inr ⟨Ch.mk [] [] [],(f x).snd,(by exact ⟨rfl,zt9 hI.2 hx ‹_›⟩),zaa (wkr [sb h0,se (zbt hx),sc hx1,sb h1] kr)⟩
theorem zza {x:List X} {n:Nat} {c:List Col} (h:((((zad x).length:Nat):Int) != (((c.map Col.cells).length:Nat):Int))=true):x.length≠c.length:=by
 simp only [bne_iff_ne,ne_eq,zbK,List.length_map] at h;omega
theorem ztr {x:List X} {c:List Col} (h:((((zad x).length:Nat):Int) != (((c.map Col.cells).length:Nat):Int))=false):x.length=c.length:=by
 simp only [bne_eq_false_iff_eq,zbK,List.length_map] at h;omega
noncomputable def zwo (a:Ac) (t:Tb) (frs:List Fr) (tb:List Tb) (f:X->V × Int) (i:Nat) (out:List (List V)):Cfg:=zag B.As 0 [(2,fsl frs),(3,tsl tb),(4,.p 0 0),(8,.p 2 0),(10,.p 3 0),(11,iv ((t.sch.cols.map Col.cells).length:Nat)),(30,.sl (a.rows.map zaE)),(31,iv ((a.rows.map zaE).length:Nat)),(32,iv (i:Nat))] [.box a.cells,.box t.cells,.box [.nl,.nl,.nl],.box [.own 4 out.length,.nl,.nl],.row Ty.LValue (out.map vrow) false]
theorem zhp (a:Ac) (t:Tb) (frs:List Fr) (tb:List Tb) (f:X->V × Int) (hr:zac a.rows) (hf:∀ r∈a.rows,zac r/\∀ x∈r,PEr f x frs tb) (i:Nat) (out:List (List V)) (hi:i<=(a.rows).length) (hI:out.length<=i/\insL f t.sch.cols.length a.rows []=insL f t.sch.cols.length (a.rows.drop i) out):(∃ (out':List (List V)),(out'.length<=(a.rows).length/\insL f t.sch.cols.length a.rows []=insL f t.sch.cols.length (a.rows.drop (a.rows).length) out')/\(decide ((((a.rows).length:Nat):Int) < (((a.rows.map zaE).length:Nat):Int))=false)/\∀ R,Good E0 B.As [] (zwo a t frs tb f (a.rows).length out') R->Good E0 B.As [] (zwo a t frs tb f i out) R)\/(∃ (r:Ch) (c:Int),(r=ch0/\c≠0/\insL f t.sch.cols.length a.rows []=([],c))/\Good E0 B.As [] (zwo a t frs tb f i out) (Shut 0 fun rZ hZ=>rZ=(.tup [Ch.av r,iv c])/\hZ=[])):=by
 have hk:=hi;revert i out;refine zlp ((a.rows).length) (fun i hlt ih out hi hI _=>?_)
 obtain ⟨x,hx,h0,hw⟩:=zlq (l:=a.rows) ((a.rows.map zaE).length) hlt zmc
 have hx1:=(hf x (List.mem_of_getElem? hx)).1;have hx2:=(hf x (List.mem_of_getElem? hx)).2;have hol:out.length<=1000000000:=by have:=hI.1;simp only [zac] at hr;omega
 let p_1:List St:=[sb h0,se (zae zaE hx rfl)]
 cases h1:(↑(zad x).length:Int) != (↑(List.map Col.cells t.sch.cols).length:Int)
 ·rcases zhn a t frs tb f i x out (by first|assumption|exact ⟨by simp,rfl⟩|omega) hx2 0 ([]) (by first|assumption|exact ⟨by simp,rfl⟩|omega) (by first|assumption|exact ⟨by simp,rfl⟩|omega) with ⟨row2,q2,q2_1,g2⟩|⟨r2_0,r2_1,p2_0,g2⟩
  ·exact (ih (out++[row2]) Zo (by exact ⟨by have:=hI.1;simp;omega,ztc hI.2 hx (ztr ‹_›) (zua (And.right ‹_<=_/\zbk f x []=_›))⟩) Zo).elim (fun ⟨outZ,qZ,xZ,gZ⟩=>.inl ⟨outZ,qZ,xZ,fun R hg=>zaa (wklN (p_1++[sb h1]) [2,3,4,8,10,11,14,30,31,32,41,42,43] 5 [(.ot 14 Ty.Value,6)] kr (g2 _ (zaa (wkl [sb q2_1,sqx (row2.length=(List.map V.cells row2).length/\True),sqA (List.map vrow out) [[vsl row2]] out.length 1 24,si hw] [2,3,4,8,10,11,30,31,32] 5 kr (zaA rfl (show ([Blk.box [iv a.kind,sv a.table,AV.sl (List.map (fun r=>[AV.sl (zad r)]) a.rows),AV.sl (zah a.query),ZE a.sets,AV.sl (zad a.wh),sv a.text],Blk.box [sv t.sch.name,ZC t.sch.cols,iv t.next,ZW t.rows],Blk.box [AV.nl,AV.nl,AV.nl],Blk.box [AV.own 4 (List.map vrow out++[[vsl row2]]).length,AV.nl,AV.nl],Blk.row Ty.LValue (List.map vrow out++[[vsl row2]]) false]:Heap)=_ from Zcv4) (gZ R hg))))))⟩) (fun ⟨rY,cY,pZ,gZ⟩=>.inr ⟨rY,cY,pZ,zaa (wklN [sb h0,se (zae zaE hx rfl),sb h1] [2,3,4,8,10,11,14,30,31,32,41,42,43] 5 [(.ot 14 Ty.Value,6)] kr (g2 _ (zaa (wkl [sb q2_1,sqx (row2.length=(List.map V.cells row2).length/\True),sqA (List.map vrow out) [[vsl row2]] out.length 1 24,si hw] [2,3,4,8,10,11,30,31,32] 5 kr (zaA rfl (show ([Blk.box [iv a.kind,sv a.table,AV.sl (List.map (fun r=>[AV.sl (zad r)]) a.rows),AV.sl (zah a.query),ZE a.sets,AV.sl (zad a.wh),sv a.text],Blk.box [sv t.sch.name,ZC t.sch.cols,iv t.next,ZW t.rows],Blk.box [AV.nl,AV.nl,AV.nl],Blk.box [AV.own 4 (List.map vrow out++[[vsl row2]]).length,AV.nl,AV.nl],Blk.row Ty.LValue (List.map vrow out++[[vsl row2]]) false]:Heap)=_ from Zcv4) gZ)))))⟩)
  ·exact .inr ⟨r2_0,r2_1,(by first|exact ⟨rfl,by decide,zmO hI.2 hx (zza (n:=0) ‹_›)⟩|exact ⟨(And.left ‹_=ch0/\_≠(0:Int)/\_›),(And.right ‹_=ch0/\_≠(0:Int)/\_›).1,zmN hI.2 hx (ztr ‹_›) (And.right ‹_=ch0/\_≠(0:Int)/\_›).2 (And.right ‹_=ch0/\_≠(0:Int)/\_›).1⟩),zaa (wklN (p_1++[sb h1]) [2,3,4,8,10,11,14,30,31,32,41,42,43] 5 [(.ot 14 Ty.Value,6)] kr g2)⟩
 ·exact .inr ⟨Ch.mk [] [] [],5,(by first|exact ⟨rfl,by decide,zmO hI.2 hx (zza (n:=0) ‹_›)⟩|exact ⟨(And.left ‹_=ch0/\_≠(0:Int)/\_›),(And.right ‹_=ch0/\_≠(0:Int)/\_›).1,zmN hI.2 hx (ztr ‹_›) (And.right ‹_=ch0/\_≠(0:Int)/\_›).2 (And.right ‹_=ch0/\_≠(0:Int)/\_›).1⟩),zaa (wkr (p_1++[sb h1]) kr)⟩
theorem zAz {s:Sch} {l:List (List V)} {i:Nat} {x:List V} (h:(l.take i).all (okW s)=true) (hx:l[i]?=some x) (h1:((((x.map V.cells).length:Nat):Int) != (((s.cols.map Col.cells).length:Nat):Int))=false):(l.take (i+1)).all (okW s)=true :=
 zfU h hx (by unfold okW wid;rw [h1];rfl)
theorem zBL {s:Sch} {l:List (List V)} {i:Nat} {x:List V} (hx:l[i]?=some x) (h1:((((x.map V.cells).length:Nat):Int) != (((s.cols.map Col.cells).length:Nat):Int))=true):(!l.all (okW s))=true:=by
 rw [zhG hx (show okW s x=false by unfold okW wid;rw [h1];rfl)];rfl
theorem zBM {s:Sch} {l:List (List V)} (h:(l.take l.length).all (okW s)=true):(!l.all (okW s))=false:=by
 rw [List.take_length] at h;rw [h];rfl
noncomputable def zwl (a:Ac) (t:Tb) (frs:List Fr) (tb:List Tb) (io:Nat) (l:List (List V)) (out:List (List V)) (i:Nat) :Cfg:=zag B.As 3 [(2,fsl frs),(3,tsl tb),(8,.p 2 0),(10,.p 3 0),(11,iv ((t.sch.cols.map Col.cells).length:Nat)),(21,.sl (l.map vrow)),(71,.sl (zah a.query)),(72,iv ((zah a.query).length:Nat)),(73,iv (io:Nat)),(88,.sl (l.map vrow)),(89,iv ((l.map vrow).length:Nat)),(90,iv (i:Nat))] [.box a.cells,.box t.cells,.box [.nl,.nl,.nl],.box [.own 4 out.length,.nl,.nl],.row Ty.LValue (out.map vrow) false]
theorem zhm (a:Ac) (t:Tb) (frs:List Fr) (tb:List Tb) (io:Nat) (l:List (List V)) (out:List (List V)) (hl:zac l) (i:Nat)  (hi:i<=(l).length) (hI:(l.take i).all (okW t.sch)=true):(((l.take (l).length).all (okW t.sch)=true)/\(decide ((((l).length:Nat):Int) < (((l.map vrow).length:Nat):Int))=false)/\∀ R,Good E0 B.As [] (zwl a t frs tb io l out (l).length ) R->Good E0 B.As [] (zwl a t frs tb io l out i ) R)\/(∃ (r:Ch) (c:Int),(r=ch0/\c=5/\(!l.all (okW t.sch))=true)/\Good E0 B.As [] (zwl a t frs tb io l out i ) (Shut 0 fun rZ hZ=>rZ=(.tup [Ch.av r,iv c])/\hZ=[])):=by
 have hk:=hi;revert i;refine zlp ((l).length) (fun i hlt ih hi hI _=>?_)
 obtain ⟨x,hx,h0,hw⟩:=zlq (l:=l) ((l.map vrow).length) hlt zmc
 let p_1:List St:=[sb h0,se (zae vrow hx rfl)]
 cases h1:(↑(List.map V.cells x).length:Int) != (↑(List.map Col.cells t.sch.cols).length:Int)
 ·exact (ih Zo (by exact zAz hI hx ‹_›) Zo).elim (fun ⟨qZ,xZ,gZ⟩=>.inl ⟨qZ,xZ,fun R hg=>zaa (wkl (p_1++[sb h1,si hw]) [2,3,8,10,11,21,71,72,73,88,89,90] 5 kr (gZ R hg))⟩) (fun ⟨rY,cY,pZ,gZ⟩=>.inr ⟨rY,cY,pZ,zaa (wkl [sb h0,se (zae vrow hx rfl),sb h1,si hw] [2,3,8,10,11,21,71,72,73,88,89,90] 5 kr gZ)⟩)
 ·exact .inr ⟨Ch.mk [] [] [],5,(by exact ⟨rfl,rfl,zBL hx ‹_›⟩),zaa (wkr (p_1++[sb h1]) kr)⟩
theorem zqF {g:Qy->List (List V) × Int} {s:Sch} {l:List Qy} {i:Nat} {x:Qy} {acc a0:List (List V)} {r:Ch} {c:Int} (h:insQ g s l a0=insQ g s (l.drop i) acc) (hx:l[i]?=some x) (h1:((g x).2 != 0)=false) (hc:r=ch0/\c=5/\(!(g x).1.all (okW s))=true):r=ch0/\c≠0/\insQ g s l a0=([],c):=by
 have:=znN h hx h1 hc.2.2
 exact ⟨hc.1,by omega,by rw [this.2,hc.2.1]⟩
noncomputable def zwn (a:Ac) (t:Tb) (frs:List Fr) (tb:List Tb) (f:X->V × Int) (g:Qy->List (List V) × Int) (i:Nat) (out:List (List V)):Cfg:=zag B.As 2 [(2,fsl frs),(3,tsl tb),(8,.p 2 0),(10,.p 3 0),(11,iv ((t.sch.cols.map Col.cells).length:Nat)),(71,.sl (zah a.query)),(72,iv ((zah a.query).length:Nat)),(73,iv (i:Nat))] [.box a.cells,.box t.cells,.box [.nl,.nl,.nl],.box [.own 4 out.length,.nl,.nl],.row Ty.LValue (out.map vrow) false]
theorem zho (a:Ac) (t:Tb) (frs:List Fr) (tb:List Tb) (f:X->V × Int) (g:Qy->List (List V) × Int) (hf:∀ r∈a.rows,zac r/\∀ x∈r,PEr f x frs tb) (hq:a.query.length<=1000) (hg:∀ q∈a.query,(g q).1.length<=100000/\PRr g q frs tb) (i:Nat) (out:List (List V)) (hi:i<=(a.query).length) (hI:out.length<=bndQ i/\insQ g t.sch a.query (insA f t.sch a)=insQ g t.sch (a.query.drop i) out):(∃ (out':List (List V)),(out'.length<=bndQ (a.query).length/\insQ g t.sch a.query (insA f t.sch a)=insQ g t.sch (a.query.drop (a.query).length) out')/\(decide ((((a.query).length:Nat):Int) < (((zah a.query).length:Nat):Int))=false)/\∀ R,Good E0 B.As [] (zwn a t frs tb f g (a.query).length out') R->Good E0 B.As [] (zwn a t frs tb f g i out) R)\/(∃ (r:Ch) (c:Int),(r=ch0/\c≠0/\insQ g t.sch a.query (insA f t.sch a)=([],c))/\Good E0 B.As [] (zwn a t frs tb f g i out) (Shut 0 fun rZ hZ=>rZ=(.tup [Ch.av r,iv c])/\hZ=[])):=by
 have hk:=hi;revert i out;refine zlp ((a.query).length) (fun i hlt ih out hi hI _=>?_)
 obtain ⟨x,hx,h0,hw⟩:=zlq (l:=a.query) ((zah a.query).length) hlt zmc
 have hx0:=(hg x (List.mem_of_getElem? hx)).1;have hx1:zac (g x).1:=(by simp only [zac];omega);have hx2:=(hg x (List.mem_of_getElem? hx)).2;have hil:i < a.query.length:=(List.getElem?_eq_some_iff.1 hx).1;have hol:out.length+(g x).1.length<=1000000000:=zvj hI.1 hx0 Zo
 cases h1:(g x).snd != 0
 ·let p_1:List St:=[sb h0,se (zaB hx),sc hx2,sb h1]
  rcases zhm a t frs tb i ((g x).fst) out Za 0 Za Za with ⟨q2,q2_1,g2⟩|⟨r2_0,r2_1,p2_0,g2⟩
  ·exact (ih (out++(g x).fst) Zo (by exact ⟨by rw [List.length_append];exact zqo hI.1 (hg x (List.mem_of_getElem? hx)).1,zqE hI.2 hx ‹_› (zBM ‹_›)⟩) Zo).elim (fun ⟨outZ,qZ,xZ,gZ⟩=>.inl ⟨outZ,qZ,xZ,fun R hg=>zaa (wkl p_1 [2,3,8,10,11,21,71,72,73,88,89,90] 5 kr (g2 _ (zaa (wkl [sb q2_1,sqx (AllLen (List.map vrow (g x).fst) 1/\out.length=(List.map vrow out).length/\(((List.map vrow out).length+(List.map vrow (g x).fst).length) * 24).le 140737488355328),si hw] [2,3,8,10,11,71,72,73] 5 kr (zaA rfl (show ([Blk.box [iv a.kind,sv a.table,AV.sl (List.map (fun r=>[AV.sl (zad r)]) a.rows),AV.sl (zah a.query),ZE a.sets,AV.sl (zad a.wh),sv a.text],Blk.box [sv t.sch.name,ZC t.sch.cols,iv t.next,ZW t.rows],Blk.box [AV.nl,AV.nl,AV.nl],Blk.box [AV.own 4 (List.map vrow out++List.map vrow (g x).fst).length,AV.nl,AV.nl],Blk.row Ty.LValue (List.map vrow out++List.map vrow (g x).fst) false]:Heap)=_ from Zcv4) (gZ R hg))))))⟩) (fun ⟨rY,cY,pZ,gZ⟩=>.inr ⟨rY,cY,pZ,zaa (wkl [sb h0,se (zaB hx),sc hx2,sb h1] [2,3,8,10,11,21,71,72,73,88,89,90] 5 kr (g2 _ (zaa (wkl [sb q2_1,sqx (AllLen (List.map vrow (g x).fst) 1/\out.length=(List.map vrow out).length/\(((List.map vrow out).length+(List.map vrow (g x).fst).length) * 24).le 140737488355328),si hw] [2,3,8,10,11,71,72,73] 5 kr (zaA rfl (show ([Blk.box [iv a.kind,sv a.table,AV.sl (List.map (fun r=>[AV.sl (zad r)]) a.rows),AV.sl (zah a.query),ZE a.sets,AV.sl (zad a.wh),sv a.text],Blk.box [sv t.sch.name,ZC t.sch.cols,iv t.next,ZW t.rows],Blk.box [AV.nl,AV.nl,AV.nl],Blk.box [AV.own 4 (List.map vrow out++List.map vrow (g x).fst).length,AV.nl,AV.nl],Blk.row Ty.LValue (List.map vrow out++List.map vrow (g x).fst) false]:Heap)=_ from Zcv4) gZ)))))⟩)
  ·exact .inr ⟨r2_0,r2_1,(by first|exact ⟨rfl,zks hI.2 hx ‹_›⟩|exact zqF hI.2 hx ‹_› ‹_›),zaa (wkl p_1 [2,3,8,10,11,21,71,72,73,88,89,90] 5 kr g2)⟩
 ·exact .inr ⟨Ch.mk [] [] [],(g x).snd,(by first|exact ⟨rfl,zks hI.2 hx ‹_›⟩|exact zqF hI.2 hx ‹_› ‹_›),zaa (wkr [sb h0,se (zaB hx),sc hx2,sb h1] kr)⟩
section
variable {f : X -> V × Int} {g : Qy -> List (List V) × Int} {s : Sch} {a : Ac} {out1 out2 : List (List V)} {r : Ch} {c : Int}
def zdD (f:X->V × Int) (g:Qy->List (List V) × Int) (s:Sch) (a:Ac):Ch × Int:=(⟨(insB f g s a).1,[],[]⟩,(insB f g s a).2)
theorem zAo (q1:out1.length<=a.rows.length/\insL f s.cols.length a.rows []=insL f s.cols.length (a.rows.drop a.rows.length) out1) (q2:out2.length<=bndQ a.query.length/\insQ g s a.query (insA f s a)=insQ g s (a.query.drop a.query.length) out2):(Ch.mk out2 [] [],0)=zdD f g s a:=by
 have h:=zp1 q1 q2
 unfold zdD;rw [← h]
theorem zBy (q1:out1.length<=a.rows.length/\insL f s.cols.length a.rows []=insL f s.cols.length (a.rows.drop a.rows.length) out1) (h:r=ch0/\c≠0/\insQ g s a.query (insA f s a)=([],c)):(r,c)=zdD f g s a:=by
 have h2:=zs7 (r:=[]) q1 ⟨rfl,h.2⟩
 unfold zdD;rw [← h2,h.1]
theorem zBx (h:r=ch0/\c≠0/\insL f s.cols.length a.rows []=([],c)):(r,c)=zdD f g s a:=by
 have h2:=zs6 (g:=g) (r:=[]) ⟨rfl,h.2⟩
 unfold zdD;rw [← h2,h.1]
end
theorem zos (a:Ac) (t:Tb) (frs:List Fr) (tb:List Tb) (f:X->V × Int) (g:Qy->List (List V) × Int) (hr:a.rows.length<=1000000) (hf:∀ r∈a.rows,zac r/\∀ x∈r,PEr f x frs tb) (hq:a.query.length<=1000) (hg:∀ q∈a.query,(g q).1.length<=100000/\PRr g q frs tb):∃ (r:Ch) (c:Int),(r,c)=zdD f g t.sch a/\zab E0 S.As [a.av,t.av,fsl frs,tsl tb] [] (.tup [r.av,iv c]) []:=by
 rcases zhp a t frs tb f zjY hf 0 ([]) zjY zjY with ⟨out1,q1,q1_1,g1⟩|⟨r1_0,r1_1,p1_0,g1⟩
 ·rcases zho a t frs tb f g hf zjY hg 0 out1 zjY zjY with ⟨out2,q2,q2_1,g2⟩|⟨r2_0,r2_1,p2_0,g2⟩
  ·exact ⟨Ch.mk out2 [] [],0,ztL,wkcN At.As [] [2,3,4,8,10,11,30,31,32] 4 [(.ob 3 0 Ty.LValue,5)] kr (g1 _ (zaa (wkl [sb q1_1] [2,3,8,10,11,71,72,73] 5 kr (g2 _ (zaa (wkr [sqx ((out2.length=(List.map vrow out2).length/\True/\True/\True)/\True/\True),sb q2_1] kr))))))⟩
  ·exact ⟨r2_0,r2_1,ztL,wkcN At.As [] [2,3,4,8,10,11,30,31,32] 4 [(.ob 3 0 Ty.LValue,5)] kr (g1 _ (zaa (wkl [sb q1_1] [2,3,8,10,11,71,72,73] 5 kr g2)))⟩
 ·exact ⟨r1_0,r1_1,ztL,wkcN At.As [] [2,3,4,8,10,11,30,31,32] 4 [(.ob 3 0 Ty.LValue,5)] kr (g1)⟩
def chgT (n:Nat) (a:Ac) (frs:List Fr) (tb:List Tb) (t:Tb):Ch × Int :=
 bif a.kind==1 then zdD (fun x=>eval n x frs tb) (fun q=>zbm n q frs tb) t.sch a
 else bif a.kind==3 then tchD (fun r=>zaU (fun x=>eval n x (zat frs t.sch r.vals) tb) a.wh) t.rows []
 else tchU (fun r=>zaU (fun x=>eval n x (zat frs t.sch r.vals) tb) a.wh) (agR (fun r x=>eval n x (zat frs t.sch r.vals) tb) t a) t.rows []
def zge (b:Bool) (G:Tb->Ch × Int) (tb:List Tb) (n:Str):Ch × Int:=bif !b then (ch0,17) else match zaJ tb n with|none=>(ch0,3)|some t=>G t
def zg3 (b:Bool) (n:Nat) (a:Ac) (frs:List Fr) (tb:List Tb):Ch × Int:=zge b (chgT n a frs tb) tb a.table
theorem zw7 {tb:List Tb} {n:Str} {i:Nat} {x:Tb} {z:Option Tb} (h:z=zaJ (tb.drop i) n) (hx:tb[i]?=some x) (hn:(!(x.sch.name.toList==n.toList))=true):z=zaJ (tb.drop (i+1)) n:=by
 have hc:zan x n=false:=by
  have h2:(x.sch.name.toList==n.toList)=false:=by simpa using hn
  exact h2
 rw [h,zam hx];unfold zaJ;rw [List.find?_cons,hc]
theorem zqv {tb:List Tb} {n:Str} {i:Nat} {x:Tb} {z:Option Tb} (h:z=zaJ (tb.drop i) n) (hx:tb[i]?=some x) (hn:(!(x.sch.name.toList==n.toList))=false):z=some x:=by
 have hc:zan x n=true:=by
  have h2:(x.sch.name.toList==n.toList)=true:=by simpa using hn
  exact h2
 rw [h,zam hx];unfold zaJ;rw [List.find?_cons,hc]
noncomputable def zv5 (G:Tb->Ch × Int) (a:Ac) (frs:List Fr) (tb:List Tb) (i:Nat) :Cfg:=zag B.AN 0 [(1,fsl frs),(2,tsl tb),(3,.p 0 0),(6,.p 1 0),(14,tsl tb),(15,iv ((tb.map Tb.cells).length:Nat)),(16,iv (i:Nat))] [.box a.cells,.box [.nl,.nl,.nl]]
theorem zf6 (G:Tb->Ch × Int) (a:Ac) (frs:List Fr) (tb:List Tb) (hl:zac tb) (hins:(a.kind==1)=true->∀ t∈tb,Pure S.As [a.av,t.av,fsl frs,tsl tb] (.tup [(G t).1.av,iv (G t).2])) (htch:(a.kind==1)=false->∀ t∈tb,Pure S.Aw [a.av,t.av,fsl frs,tsl tb] (.tup [(G t).1.av,iv (G t).2])) (i:Nat)  (hi:i<=(tb).length) (hI:zaJ tb a.table=zaJ (tb.drop i) a.table):((zaJ tb a.table=zaJ (tb.drop (tb).length) a.table)/\(decide ((((tb).length:Nat):Int) < (((tb.map Tb.cells).length:Nat):Int))=false)/\∀ R,Good E0 B.AN [] (zv5 G a frs tb (tb).length ) R->Good E0 B.AN [] (zv5 G a frs tb i ) R)\/(∃ (r:Ch) (c:Int),(∃ t,zaJ tb a.table=some t/\(r,c)=G t)/\Good E0 B.AN [] (zv5 G a frs tb i ) (Shut 0 fun rZ hZ=>rZ=(.tup [Ch.av r,iv c])/\hZ=[])):=by
 have hk:=hi;revert i;refine zlp ((tb).length) (fun i hlt ih hi hI _=>?_)
 obtain ⟨x,hx,h0,hw⟩:=zlq (l:=tb) ((tb.map Tb.cells).length) hlt zmc
 have hi1:=fun h=>hins h x (List.mem_of_getElem? hx);have ht1:=fun h=>htch h x (List.mem_of_getElem? hx)
 let p_1:List St:=[sb h0,se (zae Tb.cells hx rfl)]
 cases h1:!ByteArray.toList x.sch.name==ByteArray.toList a.table
 ·cases h2:a.kind==1
  ·exact .inr ⟨(G x).fst,(G x).snd,(by exact ⟨x,zqv hI hx ‹_›,rfl⟩),zaa (wkr (p_1++[sb h1,sb h2,sc (ht1 (by first|assumption|omega|(simp;done)|(simp;omega)))]) kr)⟩
  ·exact .inr ⟨(G x).fst,(G x).snd,(by exact ⟨x,zqv hI hx ‹_›,rfl⟩),zaa (wkr (p_1++[sb h1,sb h2,sc (hi1 (by first|assumption|omega|(simp;done)|(simp;omega)))]) kr)⟩
 ·exact (ih Zo (by exact zw7 hI hx ‹_›) Zo).elim (fun ⟨qZ,xZ,gZ⟩=>.inl ⟨qZ,xZ,fun R hg=>zaa (wkl (p_1++[sb h1,si hw]) [1,2,3,6,14,15,16] 2 kr (gZ R hg))⟩) (fun ⟨rY,cY,pZ,gZ⟩=>.inr ⟨rY,cY,pZ,zaa (wkl [sb h0,se (zae Tb.cells hx rfl),sb h1,si hw] [1,2,3,6,14,15,16] 2 kr gZ)⟩)
theorem cq0 {b:Bool} {G:Tb->Ch × Int} {tb:List Tb} {n:Str} (h:(!b)=true):(Ch.mk [] [] [],17)=zge b G tb n:=by unfold zge;rw [h];rfl
theorem cqe {b:Bool} {G:Tb->Ch × Int} {tb:List Tb} {n:Str} {r:Ch} {c:Int} (h:(!b)=false) (hr:∃ t,zaJ tb n=some t/\(r,c)=G t):(r,c)=zge b G tb n:=by
 obtain ⟨t,h1,h2⟩:=hr
 unfold zge;rw [h,h1,h2];rfl
theorem cqn {b:Bool} {G:Tb->Ch × Int} {tb:List Tb} {n:Str} (h:(!b)=false) (hr:zaJ tb n=zaJ (tb.drop tb.length) n):(Ch.mk [] [] [],3)=zge b G tb n:=by
 unfold zge;rw [h,hr,List.drop_length];rfl
theorem zlw (G:Tb->Ch × Int) (b:Bool) (a:Ac) (frs:List Fr) (tb:List Tb) (hl:zac tb) (hso:zab E0 S.CL [a.av] [] (bv b) []) (hins:(a.kind==1)=true->∀ t∈tb,Pure S.As [a.av,t.av,fsl frs,tsl tb] (.tup [(G t).1.av,iv (G t).2])) (htch:(a.kind==1)=false->∀ t∈tb,Pure S.Aw [a.av,t.av,fsl frs,tsl tb] (.tup [(G t).1.av,iv (G t).2])):∃ (r:Ch) (c:Int),(r,c)=zge b G tb a.table/\zab E0 S.AN [a.av,fsl frs,tsl tb] [] (.tup [r.av,iv c]) []:=by
 cases h1:!b
 ·rcases zf6 G a frs tb Za hins Za 0 Za Za with ⟨q2,q2_1,g2⟩|⟨r2_0,r2_1,p2_0,g2⟩
  ·exact ⟨Ch.mk [] [] [],3,ztM,wkc At.AN [sc hso,sb h1] [1,2,3,6,14,15,16] 2 kr (g2 _ (zaa (wkr [sb q2_1] kr)))⟩
  ·exact ⟨r2_0,r2_1,ztM,wkc At.AN [sc hso,sb h1] [1,2,3,6,14,15,16] 2 kr (g2)⟩
 ·exact ⟨Ch.mk [] [] [],17,ztM,wk At.AN [sc hso,sb h1] kr⟩
structure CandIn (n:Nat) (a:Ac) (frs:List Fr) (tb:List Tb):Prop where
 ac:AcOk n a
 fo:FsOk (n+1) frs
 fg:FsG frs
 to:TbOk tb
 tg:TbG tb
 tv:∀ x∈tb,∀ r∈x.rows,zac r.vals
section
variable {n : Nat} {a : Ac} {frs : List Fr} {tb : List Tb}
theorem CandIn.ins (h:CandIn n a frs tb) {t:Tb} (ht:t∈tb) {r:Rw} (hr:r∈t.rows):FsOk n (zat frs t.sch r.vals)/\FsG (zat frs t.sch r.vals) :=
 ⟨h.fo.eins (t:=t) (h.to.cols t ht) (h.tg.vals t ht r hr),h.fg.ins (t:=t) (h.tg.vals t ht r hr)⟩
theorem zuw (s:Int × List (List V)):(zew s).1.length<=s.2.length:=by
 unfold zew;cases s.1 != 0 <;> simp
theorem zgP {tr:Rw->Bool × Int} {rv:Rw->Int × List V}:∀ (l:List Rw) (out:List (List V)),(za2 tr rv l out).2.length<=out.length+l.length
 | [],out=>by simp [za2]
 | r::l,out=>by
  have h1:=zgP (tr:=tr) (rv:=rv) l out
  have h2:=zgP (tr:=tr) (rv:=rv) l (out++[(rv r).2])
  simp only [za2]
  cases (tr r).2 != 0 <;> cases (tr r).1 <;> cases (rv r).1 != 0 <;> simp at * <;> omega
theorem zjG {n:Nat} {q:Qy} {frs:List Fr} {tb:List Tb} (h:TbOk tb):(zbm n q frs tb).1.length<=1000:=by
 unfold zbm
 cases hf:zaJ tb q.frm with
 | none=>simp
 | some t =>
  have h1:=h.rows t (zcJ hf)
  have h2:=zuw (za2 (fun r=>zaU (fun x=>eval n x (zas frs t r.vals) tb) q.wh) (fun r=>rowV (fun x=>eval n x (zas frs t r.vals) tb) q r) t.rows [])
  have h3:=zgP (tr:=fun r=>zaU (fun x=>eval n x (zas frs t r.vals) tb) q.wh) (rv:=fun r=>rowV (fun x=>eval n x (zas frs t r.vals) tb) q r) t.rows []
  simp only [List.length_nil] at h3
  simp only;omega
theorem zz0 (h:CandIn n a frs tb) {b:Bool} (hb:zab E0 S.CL [a.av] [] (bv b) []):Pure S.AN [a.av,fsl frs,tsl tb] (.tup [(zg3 b n a frs tb).1.av,iv (zg3 b n a frs tb).2]):=by
 have hT:∀ t∈tb,∀ r∈t.rows,Pure S.A4 [xsl a.wh,fsl (zat frs t.sch r.vals),tsl tb] (.tup [bv (zaU (fun x=>eval n x (zat frs t.sch r.vals) tb) a.wh).1,iv (zaU (fun x=>eval n x (zat frs t.sch r.vals) tb) a.wh).2]):=fun t ht r hr =>
  znC (fun x hx=>zdL n x _ tb (h.ac.w x hx) (h.ins ht hr).1 (h.ins ht hr).2 h.to h.tg) fun x hx=>zbH n x _ tb (h.ac.w x hx) (h.ins ht hr).2 h.tg
 obtain ⟨r,c,e,hc⟩:=zlw (chgT n a frs tb) b a frs tb h.to.len hb
  (fun hk t ht=>by
   have hr:=h.ac.rows
   have hq:=h.ac.query
   obtain ⟨r,c,e,hc⟩:=zos a t frs tb (fun x=>eval n x frs tb) (fun q=>zbm n q frs tb) (by simp only [Few] at hr;omega) (fun r hr=>⟨zaM (h.ac.row r hr).1,fun x hx=>zdL n x frs tb ((h.ac.row r hr).2 x hx) h.fo.less h.fg h.to h.tg⟩) hq fun q hq =>
    ⟨by have:=zjG (n:=n) (q:=q) (frs:=frs) h.to;omega,zzZ ⟨(h.ac.qs q hq).items,(h.ac.qs q hq).hi,(h.ac.qs q hq).hw⟩ h.fo h.to h.fg h.tg h.tv⟩
   have e2:(r,c)=chgT n a frs tb t:=by unfold chgT;rw [hk];exact e
   rw [← e2];exact hc)
  (fun hk t ht=>by
   cases h3:a.kind==3
   ·obtain ⟨r,c,e,hc⟩:=zmw (fun r=>zaU (fun x=>eval n x (zat frs t.sch r.vals) tb) a.wh) (fun r x=>eval n x (zat frs t.sch r.vals) tb) a t frs tb h3 (h.to.rows t ht) h.fo.short (h.to.cols t ht) (zaM h.ac.sets) (h.tv t ht) (hT t ht) fun r hr x hx=>zdL n x.ex _ tb (h.ac.set x hx) (h.ins ht hr).1 (h.ins ht hr).2 h.to h.tg
    have e2:(r,c)=chgT n a frs tb t:=by unfold chgT;rw [hk,h3];exact e
    rw [← e2];exact hc
   ·obtain ⟨r,c,e,hc⟩:=zmv (fun r=>zaU (fun x=>eval n x (zat frs t.sch r.vals) tb) a.wh) a t frs tb h3 (h.to.rows t ht) h.fo.short (hT t ht)
    have e2:(r,c)=chgT n a frs tb t:=by unfold chgT;rw [hk,h3];exact e
    rw [← e2];exact hc)
 have e2:(r,c)=zg3 b n a frs tb:=e
 rw [← e2];exact hc
end
theorem zsH {tr:Rw->Bool × Int} {a:Ac} {s:Sch} {frs:List Fr} {tb:List Tb} {t:Tb}:∀ (l:List Rw) (i:Nat) (d:List Int),cndD tr a s frs tb t l i d=tchD tr l d
 | [],i,d=>rfl
 | r::l,i,d=>by
  simp only [cndD,tchD,zsH l]
theorem znA {f:X->V × Int} {a:Ac} {s:Sch} {frs:List Fr} {tb:List Tb}:∀ (l:List Se) (i:Nat) (v:List V),asgL f a s frs tb l i v=asgR f s l v
 | [],i,v=>rfl
 | x::l,i,v=>by
  simp only [asgL,asgR,znA l]
theorem zsI {tr:Rw->Bool × Int} {ag:Rw->List V × Int} {a:Ac} {s:Sch} {frs:List Fr} {tb:List Tb} {t:Tb}:∀ (l:List Rw) (i:Nat) (u:List Pr),cndU tr ag a s frs tb t l i u=tchU tr ag l u
 | [],i,u=>rfl
 | r::l,i,u=>by
  simp only [cndU,tchU,zsI l]
theorem znM {g:Qy->List (List V) × Int} {s:Sch}:∀ (l:List Qy) (acc:List (List V)),((insQ g s l acc).2 != 0)=true->(insQ g s l acc).1=[]
 | [],acc,h=>by simp [insQ] at h
 | q::l,acc,h=>by
  simp only [insQ] at h ⊢
  cases h1:(g q).2 != 0
  ·rw [h1] at h
   cases h2:!(g q).1.all (okW s)
   ·rw [h2] at h
    simp only [cond_false] at h ⊢
    exact znM l _ h
   ·rfl
  ·rfl
theorem zyA {f:X->V × Int} {g:Qy->List (List V) × Int} {s:Sch} {a:Ac}:zmA (insB f g s a) a=zdD f g s a:=by
 unfold zmA zdD
 cases h:(insB f g s a).2 != 0
 ·rw [cond_false,show (insB f g s a).2=0 by simpa using h]
 ·have e:(insB f g s a).1=[]:=by
   unfold insB at h ⊢
   cases h1:(insL f s.cols.length a.rows []).2 != 0
   ·rw [h1] at h;simp only [cond_false] at h ⊢;exact znM _ _ h
   ·rfl
  rw [cond_true,e]
theorem znu (n:Nat) (a:Ac) (frs:List Fr) (tb:List Tb):zaq n a frs tb=zg3 (actB (vX n) a) n a frs tb:=by
 unfold zaq zg3 zge
 cases hb:actB (vX n) a
 ·rfl
 ·have e:tgt a true tb=bif !(zaG tb a.table).2 then (⟨⟨#[]⟩,[]⟩,3) else ((zaG tb a.table).1,0):=rfl
  rw [e,zcV]
  cases hf:zaJ tb a.table with
  | none=>rfl
  | some t =>
   have ht:tabC tb a.table=t:=by unfold tabC;rw [hf];rfl
   simp only [ht,Bool.not_true,cond_false]
   show (bif (0:Int) != 0 then _ else _)=_
   rw [show ((0:Int) != 0)=false from rfl,cond_false]
   unfold chgT
   cases h1:a.kind==1
   ·cases h3:a.kind==3
    ·simp only [cond_false]
     unfold zoz
     rw [zsI,ht]
     have:(fun r=>cAg n a frs t.sch tb r)=agR (fun r x=>eval n x (zat frs t.sch r.vals) tb) t a:=by
      funext r
      show asgn _ a t.sch r.vals _ tb=asgR _ t.sch a.sets r.vals
      unfold asgn
      rw [znA]
     have e2:cAg n a frs t.sch tb=agR (fun r x=>eval n x (zat frs t.sch r.vals) tb) t a:=this
     rw [e2];rfl
    ·simp only [cond_false,cond_true]
     unfold zoy
     rw [zsH,ht];rfl
   ·simp only [cond_true]
    exact zyA
noncomputable def L_dlT (l:List Tb) (i:Nat) (out:List Tb):Cfg:=zag B.Bd 0 [(1,.fn S.BV []),(5,.own 0 out.length),(8,.sl (l.map Tb.cells)),(9,iv ((l.map Tb.cells).length:Nat)),(10,iv (i:Nat))] [.row Ty.Table (out.map Tb.cells) false]
theorem ze2 (l:List Tb) (hl:zac l) (hf:∀ x∈l,zab E0 S.BV [.agg x.cells] [] (.agg x.cells) []) (i:Nat) (out:List Tb) (hi:i<=(l).length) (hI:out=l.take i):∃ (out':List Tb),(out'=l.take (l).length)/\(decide ((((l).length:Nat):Int) < (((l.map Tb.cells).length:Nat):Int))=false)/\∀ R,Good E0 B.Bd [] (L_dlT l (l).length out') R->Good E0 B.Bd [] (L_dlT l i out) R:=by
 have hk:=hi;revert i out;refine zlp ((l).length) (fun i hlt ih out hi hI _=>?_)
 obtain ⟨x,hx,h0,hw⟩:=zlq (l:=l) ((l.map Tb.cells).length) hlt
 have hfx:=hf x (List.mem_of_getElem? hx)
 have ho:out.length<=1000000000:=by rw [hI,List.length_take];simp only [zac] at hl;omega
 exact Zih (ih (out++[x]) Zo (by rw [List.take_add_one,hx,hI];rfl) Zo) fun R gY=>zaa (wkl [sb h0,se (zae Tb.cells hx rfl),sc hfx,sqA (List.map Tb.cells out) [[sv x.sch.name,ZC x.sch.cols,iv x.next,ZW x.rows]] out.length 4 72,si hw] [1,5,8,9,10] 1 kr (zaw 5 0 (List.map Tb.cells out++[[sv x.sch.name,ZC x.sch.cols,iv x.next,ZW x.rows]]) gY (he:=Zcv4) (hm:=Zcv4)))
theorem zq7 (l:List Tb) (hl:zac l) (hf:∀ x∈l,zab E0 S.BV [.agg x.cells] [] (.agg x.cells) []):∃ (r:List Tb),r=l.take l.length/\zab E0 S.Bd [.sl (l.map Tb.cells),.fn S.BV []] [] (.own 0 r.length) [.row Ty.Table (r.map Tb.cells) false]:=by
 obtain ⟨out1,q1,q1_1,g1⟩:=ze2 l Za Za 0 ([]) Za Za
 exact ⟨out1,(by first|assumption|trivial|(simp;done)|omega|(simp;omega)|(simp at *;omega)),zyd At.Bd [] [1,5,8,9,10] 0 [(.ot 5 Ty.Table,1)] kr (g1 _ (zaa (wkrK [sb q1_1] kr)))⟩
theorem zgN (l:List Tb) (hl:zac l) (hf:∀ x∈l,zab E0 S.BV [.agg x.cells] [] (.agg x.cells) []):zab E0 S.Bd [.sl (l.map Tb.cells),.fn S.BV []] [] (.own 0 l.length) [.row Ty.Table (l.map Tb.cells) false]:=by
 obtain ⟨r,hr,h⟩:=zq7 l hl hf
 rw [List.take_length] at hr;subst hr;exact h
theorem zq6 (l:List Tb) (hl:zac l) (hf:∀ x∈l,zab E0 S.BV [.agg x.cells] [] (.agg x.cells) []):∃ (r:List Tb),r=l/\zab E0 S.Dp [tsl l] [] (.own 0 r.length) [.row Ty.Table (r.map Tb.cells) false]:=by
 exact ⟨l,Zr,wkK At.Dp [sc (zgN l (by first|assumption|omega|(simp;done)|(simp;omega)) (by first|assumption|omega|(simp;done)|(simp;omega)))] kr⟩
theorem zdN (l:List Tb) (hl:zac l) (hc:∀ t∈l,zac t.sch.cols/\zac t.rows/\∀ r∈t.rows,zac r.vals):zab E0 S.Dp [tsl l] [] (.own 0 l.length) [.row Ty.Table (l.map Tb.cells) false]:=by
 obtain ⟨r,rfl,h⟩:=zq6 l hl fun x hx=>zte x (hc x hx).1 (hc x hx).2.1 (hc x hx).2.2
 exact h
noncomputable def L_bs (tb:List Tb) (i:Nat):Cfg:=zag B.BC 0 [(1,tsl tb),(11,.sl []),(12,iv (([]:List (List AV)).length:Nat)),(13,iv (i:Nat))] []
theorem zgF (tb:List Tb) (i:Nat):True/\∀ R,Good E0 B.BC [] (L_bs tb i) R->Good E0 B.BC [] (L_bs tb i) R:=⟨trivial,fun _ h=>h⟩
theorem zq4 (tb:List Tb) :∃ (r:Int),r=0/\zab E0 S.BC [.sl [],tsl tb] [] (iv r) []:=by
 obtain ⟨q1,g1⟩:=zgF tb (0)
 exact ⟨0,Zr,wkc At.BC [] [1,11,12,13] 0 kr (g1 _ (zaa (wkr [sb Zf] kr)))⟩
theorem zc3 (tb:List Tb):zab E0 S.BC [.sl [],tsl tb] [] (iv 0) []:=by
 obtain ⟨r,rfl,h⟩:=zq4 tb
 exact h
def vNul:V:=⟨0,0,⟨#[]⟩⟩
abbrev vCnt (n:Nat):V:=⟨1,(n:Int),⟨#[]⟩⟩
structure LogIn (t:Tb) (r:List Tb):Prop where
 sch:t.sch=zeo
 tab:∀ x∈t::r,TabV x
 to:TbOk (t::r)
 tg:TbG (t::r)
 ml:(t::r).length<=1000
structure SeesIn (m:List Tb):Prop where
 ex:∃ t r,m=t::r/\LogIn t r/\t.rows.length<=5/\t.next<=3000
def hdT (m:List Tb):Tb:=m.headD zzz
abbrev newR (m:List Tb) (rows:List (List X)):List (List V):=List.replicate rows.length [vCnt (hdT m).rows.length,vNul]
structure SeesRows (rows:List (List X)):Prop where
 rep:rows=List.replicate rows.length [xLit vNul,xLit vNul]
 lo:1<=rows.length
 hi:rows.length<=5
structure SeesOut (m:List Tb) (rows:List (List X)) (m2:List Tb):Prop where
 len:m2.length=m.length
 at_:m2[0]?=some (insT (hdT m) (newR m rows))
theorem SeesIn.short {m:List Tb} (h:SeesIn m):zac m:=by
 obtain ⟨t,r,rfl,h1,_⟩:=h.ex;exact h1.to.len
theorem SeesIn.ml {m:List Tb} (h:SeesIn m):m.length<=1000:=by
 obtain ⟨t,r,rfl,h1,_⟩:=h.ex;exact h1.ml
theorem SeesIn.pos {m:List Tb} (h:SeesIn m):0 < m.length:=by
 obtain ⟨t,r,rfl,_⟩:=h.ex;simp
theorem SeesOut.hd {m m2:List Tb} {rows:List (List X)} (h:SeesOut m rows m2):hdT m2=insT (hdT m) (newR m rows):=by
 have h1:=h.at_
 cases m2 with
 | nil=>simp at h1
 | cons a r=>simp only [List.getElem?_cons_zero,Option.some.injEq] at h1;exact h1
theorem SeesOut.pos {m m2:List Tb} {rows:List (List X)} (h:SeesOut m rows m2):0 < m2.length:=by
 have h1:=h.at_
 cases m2 with
 | nil=>simp at h1
 | cons a r=>simp
abbrev sUu:Str:=⟨#[117]⟩
abbrev schU2:Sch:=zav sUu
structure RowU (row:List V):Prop where
 ok:zde schU2.cols row
structure Dl where
 table:Str
 ins:List Rw
 del:List Rw
 upd:List Pr
def Dl.cells (d:Dl):List AV:=[sv d.table,.sl (d.ins.map Rw.cells),.sl (d.del.map Rw.cells),.sl (d.upd.map Pr.cells)]
abbrev Dl.av (d:Dl):AV:=.agg d.cells
structure Itm where
 name:Str
 row:Int
 old:List V
 nw:List V
def Itm.cells (i:Itm):List AV:=[sv i.name,iv i.row,vsl i.old,vsl i.nw]
abbrev Itm.av (i:Itm):AV:=.agg i.cells
abbrev zoK (a:Tb) (r:Rw):Bool:=!(get6 r.id a.rows).2
def updS (a:Tb) (r:Rw):Option Pr:=bif (get6 r.id a.rows).2&&(zd6 (get6 r.id a.rows).1 r.vals != 0) then some ⟨r.id,(get6 r.id a.rows).1,r.vals⟩ else none
structure BwI (a b:Tb) (i:Nat) (ins:List Rw) (upd:List Pr):Prop where
 ins:ins=(b.rows.take i).filter (zoK a)
 upd:upd=(b.rows.take i).filterMap (updS a)
theorem zt7 {α:Type} {p:α->Bool} {l:List α} {i:Nat} {x:α} (hx:l[i]?=some x):(l.take (i+1)).filter p=(l.take i).filter p++(bif p x then [x] else []):=by
 rw [List.take_add_one,hx,List.filter_append]
 cases h:p x <;> simp [h]
theorem zqj {α β:Type} {p:α->Option β} {l:List α} {i:Nat} {x:α} (hx:l[i]?=some x):(l.take (i+1)).filterMap p=(l.take i).filterMap p++(p x).toList:=by
 rw [List.take_add_one,hx,List.filterMap_append]
 cases h:p x <;> simp [h]
section
variable {a b : Tb} {i : Nat} {ins : List Rw} {upd : List Pr} {x : Rw}
theorem BwI.new (h:BwI a b i ins upd) (hx:b.rows[i]?=some x) (h1:(!(get6 x.id a.rows).2)=true):BwI a b (i+1) (ins++[x]) upd:=by
 have h2:(get6 x.id a.rows).2=false:=by simpa using h1
 refine ⟨?_,?_⟩
 ·rw [zt7 hx,h.ins,show zoK a x=true from h1];rfl
 ·rw [zqj hx,h.upd];simp [updS,h2]
theorem BwI.up (h:BwI a b i ins upd) (hx:b.rows[i]?=some x) (h1:(!(get6 x.id a.rows).2)=false) (h2:(zd6 (get6 x.id a.rows).1 x.vals != 0)=true):BwI a b (i+1) ins (upd++[⟨x.id,(get6 x.id a.rows).1,x.vals⟩]):=by
 have h3:(get6 x.id a.rows).2=true:=by simpa using h1
 refine ⟨?_,?_⟩
 ·rw [zt7 hx,h.ins,show zoK a x=false from h1];simp
 ·rw [zqj hx,h.upd];simp only [updS,h2,h3,Bool.and_self,cond_true];rfl
theorem BwI.same (h:BwI a b i ins upd) (hx:b.rows[i]?=some x) (h1:(!(get6 x.id a.rows).2)=false) (h2:(zd6 (get6 x.id a.rows).1 x.vals != 0)=false):BwI a b (i+1) ins upd:=by
 refine ⟨?_,?_⟩
 ·rw [zt7 hx,h.ins,show zoK a x=false from h1];simp
 ·rw [zqj hx,h.upd];simp only [updS,h2,Bool.and_false,cond_false];simp
theorem BwI.len (h:BwI a b i ins upd):ins.length<=b.rows.length/\upd.length<=b.rows.length:=by
 rw [h.ins,h.upd]
 have h1:=List.length_filter_le (zoK a) (b.rows.take i)
 have h2:=List.length_filterMap_le (updS a) (b.rows.take i)
 have h3:=List.length_take_le i b.rows
 rw [List.length_take] at *
 omega
end
structure GrowT (a b:Tb):Prop where
 sch:b.sch=a.sch
 next:a.next<=b.next
 rows:∀ r∈b.rows,(get6 r.id a.rows).2=true\/a.next<=r.id
theorem zuy {c:Ch} {k:Nat} (h:∀ p∈c.upd,p.nw.length=k) (hk:k<=1000000000) (n:Int):zac (fnd7 n c.upd).1:=by
 have:∀ l:List Pr,(∀ p∈l,p.nw.length=k)->zac (fnd7 n l).1:=fun l=>by
  induction l with
  | nil=>intro _;simp [fnd7]
  | cons p r ih =>
   intro h
   unfold fnd7
   cases p.id==n
   ·exact ih fun q hq=>h q (by simp [hq])
   ·have:=h p Zs;simp only [zac,cond_true];omega
 exact this _ h
theorem zvr {n:Int}:∀ {l:List Pr},(fnd7 n l).2=true->∃ p∈l,p.id=n/\(fnd7 n l).1=p.nw
 | p::r,h=>by
  unfold fnd7 at h ⊢
  cases hp:p.id==n
  ·rw [hp] at h
   obtain ⟨q,h1,h2,h3⟩:=zvr (l:=r) h
   exact ⟨q,by simp [h1],h2,h3⟩
  ·exact ⟨p,by simp,by simpa using hp,rfl⟩
theorem ztb:∀ {l:List (List V)} {n:Int} {r:Rw},r∈insN n l->n<=r.id/\r.id < n+l.length/\r.vals∈l
 | v::l,n,r,h=>by
  simp only [insN,List.mem_cons] at h
  rcases h with rfl|h
  ·exact ⟨Int.le_refl _,by simp only [List.length_cons];omega,by simp⟩
  ·have:=ztb h
   simp only [List.length_cons]
   exact ⟨by omega,by omega,by simp [this.2.2]⟩
theorem zAv {c:Ch} {l:List Rw} {r:Rw} (h:r∈midR c l):∃ q∈l,anyI c.del q.id=false/\r.id=q.id/\(r.vals=q.vals\/∃ p∈c.upd,p.id=q.id/\r.vals=p.nw):=by
 obtain ⟨q,hq,he⟩:=List.mem_filterMap.1 h
 unfold midS at he
 cases hd:anyI c.del q.id
 ·rw [hd] at he
  simp only [cond_false,Option.some.injEq] at he
  subst he
  refine ⟨q,hq,hd,rfl,?_⟩
  cases hf:(fnd7 q.id c.upd).2
  ·exact .inl rfl
  ·obtain ⟨p,h1,h2,h3⟩:=zvr hf
   exact .inr ⟨p,h1,h2,h3⟩
 ·rw [hd] at he;cases he
structure ChG (t:Tb) (c:Ch):Prop where
 v:ChV t c
 u:∀ p∈c.upd,∀ v∈p.nw,v.Good
 i:∀ r∈c.ins,∀ v∈r,v.Good
theorem zlv (n:Int):anyI [] n=false:=by
 cases h:anyI [] n
 ·rfl
 ·have:=zeK.1 h;cases this
theorem zs1 {l:List Rw} (h:l.Pairwise fun a b=>a.id < b.id) {r:Rw} (hr:r∈l):get6 r.id l=(r.vals,true):=by
 induction l with
 | nil=>cases hr
 | cons q l ih =>
  unfold get6
  rcases List.mem_cons.1 hr with rfl|hr
  ·simp
  ·have:=(List.pairwise_cons.1 h).1 r hr
   have e:(q.id==r.id)=false:=by rw [beq_eq_false_iff_ne];omega
   rw [e];exact ih (List.pairwise_cons.1 h).2 hr
theorem zm6 {tr:Rw->Bool × Int}:∀ (l:List Rw) (d:List Int),(tchD tr l d).2=0->(tchD tr l d).1=⟨[],d++(l.filter fun r=>(tr r).1).map Rw.id,[]⟩
 | [],d,_=>by simp [tchD]
 | r::l,d,h=>by
  simp only [tchD] at h ⊢
  cases h1:(tr r).2 != 0
  ·rw [h1] at h
   cases h2:(tr r).1
   ·rw [h2] at h
    simp only [Bool.not_false,cond_true,cond_false] at h ⊢
    rw [zm6 l d h,List.filter_cons,h2];simp
   ·rw [h2] at h
    simp only [Bool.not_true,cond_true,cond_false] at h ⊢
    rw [zm6 l _ h,List.filter_cons,h2];simp
  ·rw [h1] at h;simp only [cond_true] at h;rw [h] at h1;simp at h1
theorem zm7 {tr:Rw->Bool × Int} {ag:Rw->List V × Int}:∀ (l:List Rw) (u:List Pr),(tchU tr ag l u).2=0->(tchU tr ag l u).1=⟨[],[],u++(l.filter fun r=>(tr r).1).map fun r=>⟨r.id,r.vals,(ag r).1⟩⟩/\∀ r∈l.filter (fun r=>(tr r).1),(ag r).2=0
 | [],u,_=>by simp [tchU]
 | r::l,u,h=>by
  simp only [tchU] at h ⊢
  cases h1:(tr r).2 != 0
  ·rw [h1] at h
   cases h2:(tr r).1
   ·rw [h2] at h
    simp only [Bool.not_false,cond_true,cond_false] at h ⊢
    have ih:=zm7 l u h
    rw [List.filter_cons,h2];simpa using ih
   ·rw [h2] at h
    simp only [Bool.not_true,cond_true,cond_false] at h ⊢
    cases h3:(ag r).2 != 0
    ·rw [h3] at h
     simp only [cond_false] at h ⊢
     have ih:=zm7 l _ h
     rw [List.filter_cons,h2]
     refine ⟨by rw [ih.1];simp,fun x hx=>?_⟩
     simp only [if_true,List.mem_cons] at hx
     rcases hx with rfl|hx
     ·simpa using h3
     ·exact ih.2 x hx
    ·rw [h3] at h;simp only [cond_true] at h;rw [h] at h3;simp at h3
  ·rw [h1] at h;simp only [cond_true] at h;rw [h] at h1;simp at h1
structure AsK (s:Sch) (sets:List Se) (v w:List V):Prop where
 len:w.length=v.length
 at_:∀ (i:Nat) (c:Col),s.cols[i]?=some c->(∀ x∈sets,colC c x.col=false)->w[i]?=v[i]?
theorem zvh {f:X->V × Int} {s:Sch}:∀ (l:List Se) (v:List V),(asgR f s l v).2=0->AsK s l v (asgR f s l v).1/\((∀ x∈l,(f x.ex).1.Good)->(∀ x∈v,x.Good)->∀ x∈(asgR f s l v).1,x.Good)
 | [],v,_=>⟨⟨rfl,fun _ _ _ _=>rfl⟩,fun _ h=>h⟩
 | x::l,v,h=>by
  simp only [asgR] at h ⊢
  cases h1:decide (idxF (fun c=>colC c x.col) s.cols 0 < 0)
  ·rw [h1] at h
   cases h2:(f x.ex).2 != 0
   ·rw [h2] at h
    cases h3:decide ((v.length:Int)<=idxF (fun c=>colC c x.col) s.cols 0)
    ·rw [h3] at h
     simp only [cond_false] at h ⊢
     obtain ⟨a,b⟩:=zvh l _ h
     refine ⟨⟨by rw [a.len,List.length_set],fun i c hc hn=>?_⟩,fun hf hv=>b (fun y hy=>hf y (by simp [hy])) fun y hy=>?_⟩
     ·rw [a.at_ i c hc fun y hy=>hn y (by simp [hy])]
      rcases zdz (fun c=>colC c x.col) s.cols 0 with ⟨e1,_⟩|⟨j,y,e1,e2,e3⟩
      ·rw [e1] at h1;simp at h1
      ·rw [e1]
       have hne:(((0+j:Nat):Int)).toNat≠i:=by
        intro he
        have hj:j=i:=by omega
        subst hj
        rw [e2] at hc;cases hc
        have hp:colC c x.col=true:=List.find?_some (p:=fun c=>colC c x.col) e3
        rw [hn x Zs] at hp;cases hp
       exact List.getElem?_set_ne hne
     ·rcases List.mem_or_eq_of_mem_set hy with h4|h4
      ·exact hv y h4
      ·rw [h4];exact hf x Zs
    ·rw [h3] at h;simp at h
   ·rw [h2] at h;simp only [cond_true,cond_false] at h;rw [h] at h2;simp at h2
  ·rw [h1] at h;simp at h
theorem zno {f:X->V × Int}:∀ (l:List X),(∀ x∈l,(f x).1.Good)->∀ v∈(zba f l).2,v.Good
 | [],_,v,h=>by simp [zba] at h
 | x::l,hf,v,h=>by
  simp only [zba] at h
  cases h1:(f x).2 != 0 <;> rw [h1] at h
  ·cases h2:(zba f l).1 != 0 <;> rw [h2] at h
   ·simp only [cond_false,List.mem_cons] at h
    rcases h with rfl|h
    ·exact hf x Zs
    ·exact zno l (fun y hy=>hf y (by simp [hy])) v h
   ·simp at h
  ·simp at h
theorem zml {tr:Rw->Bool × Int} {rv:Rw->Int × List V} {P:List V->Prop}:∀ (l:List Rw) (out:List (List V)),(∀ r∈l,P (rv r).2)->(∀ v∈out,P v)->∀ v∈(za2 tr rv l out).2,P v
 | [],out,_,ho,v,h=>ho v h
 | r::l,out,hp,ho,v,h=>by
  simp only [za2] at h
  have hl:∀ q∈l,P (rv q).2:=fun q hq=>hp q (by simp [hq])
  have ho2:∀ v∈out++[(rv r).2],P v:=fun w hw=>by
   rcases List.mem_append.1 hw with hw|hw
   ·exact ho w hw
   ·simp only [List.mem_singleton] at hw;rw [hw];exact hp r Zs
  cases h1:(tr r).2 != 0 <;> rw [h1] at h
  ·cases h2:(tr r).1 <;> rw [h2] at h
   ·exact zml l out hl ho v h
   ·cases h3:(rv r).1 != 0 <;> rw [h3] at h
    ·exact zml l _ hl ho2 v h
    ·exact ho v h
  ·exact ho v h
abbrev zet (l:List V):Prop:=∀ v∈l,v.Good
theorem zrk {n:Nat} {q:Qy} {frs:List Fr} {tb:List Tb} (hi:∀ x∈q.items,XOk n x) (hg:FsG frs) (ht:TbG tb):∀ r∈(zbm n q frs tb).1,zet r:=fun r hr=>by
 unfold zbm at hr
 cases hf:zaJ tb q.frm with
 | none=>rw [hf] at hr;simp at hr
 | some t =>
  rw [hf] at hr
  have hm:=zcJ hf
  have key:=zml (P:=zet) (tr:=fun r=>zaU (fun x=>eval n x (zas frs t r.vals) tb) q.wh) (rv:=fun r=>rowV (fun x=>eval n x (zas frs t r.vals) tb) q r) t.rows [] (fun r hr=>by
   unfold rowV
   cases q.star
   ·exact zno _ fun x hx=>zbH n x _ tb (hi x hx) (hg.ins (ht.vals t hm r hr)) ht
   ·exact ht.vals t hm r hr) (fun v hv=>by cases hv)
  unfold zew at hr
  simp only at hr
  cases h1:(za2 (fun r=>zaU (fun x=>eval n x (zas frs t r.vals) tb) q.wh) (fun r=>rowV (fun x=>eval n x (zas frs t r.vals) tb) q r) t.rows []).1 != 0
  ·rw [h1] at hr;exact key r hr
  ·rw [h1] at hr;simp at hr
theorem zvX {f:X->V × Int}:∀ (l:List X) (acc:List V),(zbk f l acc).2=0->(zbk f l acc).1.length=acc.length+l.length/\(zet acc->(∀ x∈l,(f x).1.Good)->zet (zbk f l acc).1)
 | [],acc,_=>⟨rfl,fun h _=>h⟩
 | x::l,acc,h=>by
  simp only [zbk] at h ⊢
  cases h1:(f x).2 != 0 <;> rw [h1] at h
  ·obtain ⟨a,b⟩:=zvX l _ h
   refine ⟨by rw [cond_false,a];simp;omega,fun ha hf=>b (fun v hv=>?_) fun y hy=>hf y (by simp [hy])⟩
   rcases List.mem_append.1 hv with hv|hv
   ·exact ha v hv
   ·simp only [List.mem_singleton] at hv;rw [hv];exact hf x Zs
  ·simp only [cond_true] at h;rw [h] at h1;simp at h1
structure InsP (n:Nat) (l:List (List V)):Prop where
 len:∀ r∈l,r.length=n
 good:∀ r∈l,zet r
theorem InsP.app {n:Nat} {a b:List (List V)} (h1:InsP n a) (h2:InsP n b):InsP n (a++b) :=
 ⟨fun r hr=>(List.mem_append.1 hr).elim (h1.len r) (h2.len r),fun r hr=>(List.mem_append.1 hr).elim (h1.good r) (h2.good r)⟩
theorem zyY {f:X->V × Int} {n:Nat}:∀ (l:List (List X)) (acc:List (List V)),(∀ r∈l,∀ x∈r,(f x).1.Good)->InsP n acc->(insL f n l acc).2=0->InsP n (insL f n l acc).1/\(insL f n l acc).1.length=acc.length+l.length
 | [],acc,_,ha,_=>⟨ha,rfl⟩
 | y::l,acc,hf,ha,h=>by
  simp only [insL] at h ⊢
  cases h1:y.length != n <;> rw [h1] at h
  ·cases h2:(zbk f y []).2 != 0 <;> rw [h2] at h
   ·obtain ⟨a,b⟩:=zvX y [] (by simpa using h2)
    have h3:y.length=n:=by simpa using h1
    obtain ⟨c,d⟩:=zyY l _ (fun r hr=>hf r (by simp [hr])) (ha.app ⟨fun r hr=>by simp only [List.mem_singleton] at hr;rw [hr,a];simpa using h3,fun r hr=>by simp only [List.mem_singleton] at hr;rw [hr];exact b (fun v hv=>by cases hv) (hf y Zs)⟩) h
    exact ⟨c,by rw [cond_false,cond_false,d];simp;omega⟩
   ·simp only [cond_true,cond_false] at h;rw [h] at h2;simp at h2
  ·simp at h
theorem zyZ {g:Qy->List (List V) × Int} {s:Sch} {K:Nat}:∀ (l:List Qy) (acc:List (List V)),(∀ q∈l,(∀ r∈(g q).1,zet r)/\(g q).1.length<=K)->InsP s.cols.length acc->(insQ g s l acc).2=0->InsP s.cols.length (insQ g s l acc).1/\(insQ g s l acc).1.length<=acc.length+l.length * K
 | [],acc,_,ha,_=>⟨ha,by simp [insQ]⟩
 | q::l,acc,hg,ha,h=>by
  simp only [insQ] at h ⊢
  cases h1:(g q).2 != 0 <;> rw [h1] at h
  ·cases h2:(!(g q).1.all (okW s)) <;> rw [h2] at h
   ·have hq:=hg q Zs
    have h3:∀ r∈(g q).1,r.length=s.cols.length:=fun r hr=>by
     have:=List.all_eq_true.1 (by simpa using h2:(g q).1.all (okW s)=true) r hr
     unfold okW wid at this;simp only [List.length_map,Bool.not_eq_true',bne_eq_false_iff_eq] at this;omega
    obtain ⟨c,d⟩:=zyZ l _ (fun r hr=>hg r (by simp [hr])) (ha.app ⟨h3,hq.1⟩) h
    refine ⟨c,?_⟩
    simp only [cond_false]
    have:=hq.2
    rw [List.length_append] at d
    rw [List.length_cons,Nat.succ_mul];omega
   ·simp at h
  ·simp only [cond_true] at h;rw [h] at h1;simp at h1
theorem zBw {f:X->V × Int} {g:Qy->List (List V) × Int} {s:Sch} {a:Ac} {K:Nat} (hf:∀ r∈a.rows,∀ x∈r,(f x).1.Good) (hg:∀ q∈a.query,(∀ r∈(g q).1,zet r)/\(g q).1.length<=K) (h:(insB f g s a).2=0):InsP s.cols.length (insB f g s a).1/\(insB f g s a).1.length<=a.rows.length+a.query.length * K:=by
 unfold insB at h ⊢
 cases h1:(insL f s.cols.length a.rows []).2 != 0 <;> rw [h1] at h
 ·obtain ⟨b,c⟩:=zyY a.rows [] hf ⟨fun r hr=>(by cases hr),fun r hr=>(by cases hr)⟩ (by simpa using h1)
  obtain ⟨d,e⟩:=zyZ a.query _ hg b h
  refine ⟨d,?_⟩
  simp only [cond_false];simp only [List.length_nil] at c;omega
 ·simp only [cond_true] at h;rw [h] at h1;simp at h1
structure CandG (a:Ac) (t:Tb) (c:Ch):Prop where
 g:ChG t c
 go:∀ p∈c.upd,zet p.old
 li:c.ins.length<=10000
 ld:c.del.length<=100
 lu:c.upd.length<=100
 ki:c.ins≠[]->a.kind=1
 kd:c.del≠[]->a.kind=3
 ku:∀ p∈c.upd,AsK t.sch a.sets p.old p.nw
theorem TabV.l100 {t:Tb} (h:TabV t):t.rows.length<=100:=by have:=h.len;simp only [List.length_map,decide_eq_false_iff_not] at this;omega
theorem cgU {a:Ac} {t:Tb} (hv:TabV t) {p:Rw->Bool} {ag:Rw->List V} (hrg:∀ r∈t.rows,zet r.vals) (ha:∀ r∈t.rows.filter p,AsK t.sch a.sets r.vals (ag r)/\zet (ag r)):CandG a t ⟨[],[],[]++(t.rows.filter p).map fun (r:Rw)=>(⟨r.id,r.vals,ag r⟩:Pr)⟩:=by
 have h100:=hv.l100
 have hm:∀ q∈([]++(t.rows.filter p).map fun (r:Rw)=>(⟨r.id,r.vals,ag r⟩:Pr)),∃ r∈t.rows,q.id=r.id/\q.old=r.vals/\AsK t.sch a.sets r.vals q.nw/\zet q.nw:=fun q hq=>by
  simp only [List.nil_append,List.mem_map] at hq
  obtain ⟨r,hr,rfl⟩:=hq
  exact ⟨r,(List.mem_filter.1 hr).1,rfl,rfl,(ha r hr).1,(ha r hr).2⟩
 have hl:([]++(t.rows.filter p).map fun (r:Rw)=>(⟨r.id,r.vals,ag r⟩:Pr)).length<=100:=by
  have:=List.length_filter_le p t.rows
  simp only [List.nil_append,List.length_map];omega
 have hasc:([]++(t.rows.filter p).map fun (r:Rw)=>(⟨r.id,r.vals,ag r⟩:Pr)).Pairwise fun (a b:Pr)=>a.id < b.id:=by
  simp only [List.nil_append,List.pairwise_map]
  exact hv.rows.asc.sublist List.filter_sublist
 generalize ([]++(t.rows.filter p).map fun (r:Rw)=>(⟨r.id,r.vals,ag r⟩:Pr))=U at hm hl hasc ⊢
 refine ⟨⟨⟨.nil,fun _ h=>(by cases h),hasc,fun q hq=>?_,fun _ h=>(by cases h),by simp,by show U.length<=_;omega,by simp⟩,fun q hq=>?_,fun _ h=>(by cases h)⟩,fun q hq=>?_,by simp,by simp,hl,fun h=>absurd rfl h,fun h=>absurd rfl h,fun q hq=>?_⟩
 ·obtain ⟨r,hr,e1,e2,e3,_⟩:=hm q hq
  refine ⟨by rw [e1,e2];exact zs1 hv.rows.asc hr,zlv _,by rw [e3.len];exact (hv.rows.fit r hr).len⟩
 ·obtain ⟨_,_,_,_,_,e4⟩:=hm q hq;exact e4
 ·obtain ⟨r,hr,_,e2,_,_⟩:=hm q hq;rw [e2];exact hrg r hr
 ·obtain ⟨r,hr,_,e2,e3,_⟩:=hm q hq;rw [e2];exact e3
theorem cgD {a:Ac} {t:Tb} (hv:TabV t) {p:Rw->Bool} (hk:a.kind=3):CandG a t ⟨[],[]++(t.rows.filter p).map Rw.id,[]⟩:=by
 have h100:=hv.l100
 have hl:([]++(t.rows.filter p).map Rw.id).length<=100:=by
  have:=List.length_filter_le p t.rows
  simp only [List.nil_append,List.length_map];omega
 refine ⟨⟨⟨?_,fun d hd=>?_,.nil,fun _ h=>(by cases h),fun _ h=>(by cases h),Nat.le_trans hl Zd,by simp,by simp⟩,fun _ h=>(by cases h),fun _ h=>(by cases h)⟩,fun _ h=>(by cases h),by simp,hl,by simp,fun h=>absurd rfl h,fun _=>hk,fun _ h=>(by cases h)⟩
 ·simp only [List.nil_append,List.pairwise_map]
  exact hv.rows.asc.sublist List.filter_sublist
 ·simp only [List.nil_append,List.mem_map] at hd
  obtain ⟨r,hr,rfl⟩:=hd
  rw [zs1 hv.rows.asc (List.mem_filter.1 hr).1]
theorem zvl {n:Nat} {a:Ac} {frs:List Fr} {tb:List Tb} {t:Tb} (hc:CandIn n a frs tb) (hq:a.query.length<=8) (hr:a.rows.length<=1000) (ht:t∈tb) (hv:TabV t) (h:(chgT n a frs tb t).2=0):CandG a t (chgT n a frs tb t).1:=by
 have hrg:∀ r∈t.rows,zet r.vals:=fun r hr=>hc.tg.vals t ht r hr
 unfold chgT at h ⊢
 cases h1:a.kind==1 <;> rw [h1] at h
 ·cases h3:a.kind==3 <;> rw [h3] at h
  ·simp only [cond_false] at h ⊢
   obtain ⟨e,e2⟩:=zm7 _ _ h
   rw [e]
   refine cgU hv hrg fun r hr=>?_
   have hrt:=(List.mem_filter.1 hr).1
   obtain ⟨x,y⟩:=zvh a.sets r.vals (e2 r hr)
   exact ⟨x,y (fun z hz=>zbH n _ _ tb (hc.ac.set z hz) (hc.ins ht hrt).2 hc.tg) (hrg r hrt)⟩
  ·simp only [cond_true,cond_false] at h ⊢
   rw [zm6 _ _ h]
   exact cgD hv (by simpa using h3)
 ·simp only [cond_true] at h ⊢
  unfold zdD at h ⊢
  obtain ⟨b,c⟩:=zBw (K:=1000) (fun r hr x hx=>zbH n x frs tb ((hc.ac.row r hr).2 x hx) hc.fg hc.tg) (fun q hq=>⟨zrk (hc.ac.qs q hq).hi hc.fg hc.tg,zjG hc.to⟩) h
  have hl:(insB (fun x=>eval n x frs tb) (fun q=>zbm n q frs tb) t.sch a).1.length<=10000:=by
   have:a.query.length * 1000<=8 * 1000:=Nat.mul_le_mul_right _ hq
   omega
  exact ⟨⟨⟨.nil,fun _ h=>(by cases h),.nil,fun _ h=>(by cases h),b.len,by simp,by simp,by show (insB (fun x=>eval n x frs tb) (fun q=>zbm n q frs tb) t.sch a).1.length<=100000;omega⟩,fun _ h=>(by cases h),b.good⟩,fun _ h=>(by cases h),hl,by simp,by simp,fun _=>by simpa using h1,fun h=>absurd rfl h,fun _ h=>(by cases h)⟩
theorem zyX:∀ n,n<=1000->(Pl.mk [] zaj).OkN n:=fun n hn=>⟨by simpa using hn,by simp,by simp [zaj],by simp [zaj],by simp [zaj]⟩
section
variable {M : Nat} {m : List Tb} {a : Ac} {k : Int}
theorem ActT.lens {tbs:List Sch} {frs:List Fr} (h:ActT tbs M frs a):a.query.length<=8/\a.rows.length<=1000/\a.sets.length<=1000:=by
 cases h with
 | rows hs h1 h2 hr=>exact ⟨by simp,by simp only;omega,by simp⟩
 | copy hs hq=>simp
 | upd hs h1 hI hw hx=>exact ⟨by simp,by simp,by have:=hI.len;have:=hI.two;simp only;omega⟩
 | del hs hw hx=>simp
structure HomeC (M:Nat) (m:List Tb) (a:Ac) (t:Tb) (j:Nat):Prop where
 st:∀ t∈m,TabV t
 ml:m.length<=1000
 ix:idxF (fun t=>zan t a.table) m 0=((j:Nat):Int)
 at_:m[j]?=some t
 tab:tabC m a.table=t
 din:DmlIn M a [] m
 pr:zab E0 S.Ai [a.av,fsl [],tsl m] [] (.tup [(zaq M a [] m).1.av,iv (zaq M a [] m).2]) []
 ok:(zaq M a [] m).2=0->CandG a t (zaq M a [] m).1
 ceq:zaq M a [] m=chgT M a [] m t
 tg:zab E0 S.By [a.av,tsl m] [] (.tup [t.sch.av,iv 0]) []
theorem zxk (hm:StoreV k m) (hk:k<=100) (hM:M<=900) (h:ActT zaj M [] a):∃ t j,HomeC M m a t j:=by
 have hin:=zsM hm Zo hM h.ok.1 h.ok.2
 have htv:∀ t∈m,TabV t:=fun t ht=>hm.tabV hk ht
 have hlen:m.length=3:=by have:=congrArg List.length hm.schs;simpa [zaj] using this
 have hci:CandIn M a [] m:=⟨hin.ac,hin.fo,hin.fg,hin.to,hin.tg,hin.tv⟩
 have hsrc:∃ s∈zaj,a.table=s.name:=by cases h <;> exact ⟨_,by assumption,rfl⟩
 obtain ⟨s,hs,hn⟩:=hsrc
 have hst:=zqU hm (zfq hs).1
 rw [← hn] at hst
 have hact:=h.act znJ (zhx hm) (zhx hm) zpZ
 have e:zaq M a [] m=zg3 true M a [] m:=by rw [znu,hact]
 rcases zdz (fun t=>zan t a.table) m 0 with ⟨e1,_⟩|⟨j,t,e1,e2,e3⟩
 ·have:=hst.1;rw [e1] at this;simp at this
 ·have ht:tabC m a.table=t:=by unfold tabC zaJ;rw [e3];rfl
  have h1:zg3 true M a [] m=chgT M a [] m t:=by
   unfold zg3 zge zaJ;rw [e3];rfl
  have htg:=hin.target
  have h2:tgt a (actB (vX M) a) m=(t.sch,0):=by
   rw [hact]
   show (bif !(zaG m a.table).2 then _ else _)=_
   rw [zcV]
   unfold zaJ
   rw [e3];rfl
  rw [h2] at htg
  refine ⟨t,j,htv,by omega,by rw [e1];congr 1;omega,e2,ht,hin,zyq hin,fun h0=>?_,e.trans h1,htg⟩
  rw [e,h1] at h0 ⊢
  exact zvl hci h.lens.1 h.lens.2.1 (List.mem_of_getElem? e2) (htv t (List.mem_of_getElem? e2)) h0
theorem homeRf (hm:StoreV k m) (hk:k<=100) (hM:M<=900) (h:ActT zaj M [] a):zab E0 S.AN [a.av,fsl [],tsl m] [] (.tup [(zaq M a [] m).1.av,iv (zaq M a [] m).2]) []:=by
 have hin:=zsM hm Zo hM h.ok.1 h.ok.2
 have hci:CandIn M a [] m:=⟨hin.ac,hin.fo,hin.fg,hin.to,hin.tg,hin.tv⟩
 have hact:=h.act znJ (zhx hm) (zhx hm) zpZ
 have e:zaq M a [] m=zg3 true M a [] m:=by rw [znu,hact]
 rw [e];exact zz0 hci (h.snd znJ (zhx hm) (zhx hm) zpZ)
theorem HomeC.mem {t:Tb} {j:Nat} (h:HomeC M m a t j):t∈m:=List.mem_of_getElem? h.at_
theorem HomeC.tv {t:Tb} {j:Nat} (h:HomeC M m a t j):TabV t:=h.st t h.mem
theorem HomeC.cols {t:Tb} {j:Nat} (h:HomeC M m a t j):t.sch.cols.length<=1000:=by
 have:=h.tv.sch.hi
 simp only [List.length_map,decide_eq_false_iff_not] at this;omega
theorem HomeC.find {t:Tb} {j:Nat} (h:HomeC M m a t j):zab E0 S.Cc [tsl m,sv a.table] [] (iv ((j:Nat):Int)) []:=by
 have h1:=ztl m a.table h.din.to.len
 rw [h.ix] at h1;exact h1
theorem HomeC.shs {t:Tb} {j:Nat} (h:HomeC M m a t j):∀ t∈m,zac t.sch.cols/\zac t.rows/\∀ r∈t.rows,zac r.vals:=fun x hx=>⟨(h.st x hx).sch.short,(h.st x hx).shr,(h.st x hx).vals⟩
theorem HomeC.insN {t:Tb} {j:Nat} (h:HomeC M m a t j) {c:Ch} (hc:CandG a t c) {r:List V} (hr:r∈c.ins):NwOk r :=
 ⟨by have:=hc.g.v.ins r hr;have:=h.cols;omega,hc.g.i r hr⟩
end
noncomputable def zwf (l:List Int) (n:Int) (i:Nat) :Cfg:=zag B.A8 0 [(0,isl l),(1,iv n),(7,iv ((l.map zaN).length:Nat)),(8,iv (i:Nat))] []
theorem zf8 (l:List Int) (n:Int) (hl:zac l) (i:Nat)  (hi:i<=(l).length) (hI:idxF (fun t=>n==t) l 0=idxF (fun t=>n==t) (l.drop i) i):((idxF (fun t=>n==t) l 0=idxF (fun t=>n==t) (l.drop (l).length) (l).length)/\(decide ((((l).length:Nat):Int) < (((l.map zaN).length:Nat):Int))=false)/\∀ R,Good E0 B.A8 [] (zwf l n (l).length ) R->Good E0 B.A8 [] (zwf l n i ) R)\/(∃ (r:Int),r=idxF (fun t=>n==t) l 0/\Good E0 B.A8 [] (zwf l n i ) (Shut 0 fun rZ hZ=>rZ=(iv r)/\hZ=[])):=by
 have hk:=hi;revert i;refine zlp ((l).length) (fun i hlt ih hi hI _=>?_)
 obtain ⟨x,hx,h0,hw⟩:=zlq (l:=l) ((l.map zaN).length) hlt
 let p_1:List St:=[sb h0,se (zae (fun n=>[iv n]) hx rfl)]
 cases h1:n==x
 ·exact zie2 (ih Zo (by exact zhz hI hx ‹_›) Zo) fun R gY=>zaa (wkl (p_1++[sb h1,si hw]) [0,1,7,8] 0 kr gY)
 ·exact .inr ⟨(i:Int),(by exact zjK hI hx ‹_›),zaa (wkr (p_1++[sb h1]) kr)⟩
theorem c_ixN (l:List Int) (n:Int) (hl:zac l):∃ (r:Int),r=idxF (fun t=>n==t) l 0/\zab E0 S.A8 [isl l,iv n] [] (iv r) []:=by
 rcases zf8 l n Za 0 Za Za with ⟨q1,q1_1,g1⟩|⟨r1_0,p1_0,g1⟩
 ·exact ⟨-1,(by first|assumption|exact zds ‹_›),wkc At.A8 [] [0,1,7,8] 0 kr (g1 _ (zaa (wkr [sb q1_1] kr)))⟩
 ·exact ⟨r1_0,(by first|assumption|exact zds ‹_›),wkc At.A8 [] [0,1,7,8] 0 kr (g1)⟩
theorem zAk {l:List Int} {n:Int}:decide (0<=idxF (fun t=>n==t) l 0)=anyI l n:=by
 rcases zdz (fun t=>n==t) l 0 with ⟨h1,h2⟩|⟨j,x,h1,h2,h3⟩
 ·rw [h1]
  cases ha:anyI l n
  ·rfl
  ·have hm:=zeK.1 ha
   have:=List.find?_eq_none.1 h2 n hm
   simp at this
 ·rw [h1]
  have hx:=List.find?_some h3
  simp only [beq_iff_eq] at hx
  have:anyI l n=true:=zeK.2 (hx ▸ List.mem_of_getElem? h2)
  rw [this];simp
theorem c_conI (l:List Int) (n:Int) (hx:∃ r:Int,r=idxF (fun t=>n==t) l 0/\zab E0 S.A8 [isl l,iv n] [] (iv r) []):∃ (r:Bool),r=anyI l n/\zab E0 S.CB [isl l,iv n] [] (bv r) []:=by
 obtain ⟨r1,q1,c1⟩:=hx
 exact ⟨decide ((0:Int)<=r1),(by (rw [← zAk];subst_vars;first|rfl|assumption|simp_all)),wk At.CB [sc c1] kr⟩
theorem zbE (l:List Int) (n:Int) (hl:zac l):zab E0 S.CB [isl l,iv n] [] (bv (anyI l n)) []:=by
 obtain ⟨r,rfl,h⟩:=c_conI l n (c_ixN l n hl)
 exact h
noncomputable def zv8 (t:Tb) (n:Int) (i:Nat) :Cfg:=zag B.Ch 0 [(1,iv n),(9,.sl (t.rows.map Rw.cells)),(10,iv ((t.rows.map Rw.cells).length:Nat)),(11,iv (i:Nat))] [.box t.cells]
theorem zke (t:Tb) (n:Int) (hl:zac t.rows) (hv:∀ r∈t.rows,zac r.vals) (i:Nat)  (hi:i<=(t.rows).length) (hI:get6 n t.rows=get6 n (t.rows.drop i)):((get6 n t.rows=get6 n (t.rows.drop (t.rows).length))/\(decide ((((t.rows).length:Nat):Int) < (((t.rows.map Rw.cells).length:Nat):Int))=false)/\∀ R,Good E0 B.Ch [] (zv8 t n (t.rows).length ) R->Good E0 B.Ch [] (zv8 t n i ) R)\/(∃ (v:List V) (r:Bool),(v,r)=get6 n t.rows/\Good E0 B.Ch [] (zv8 t n i ) (Shut 0 fun rZ hZ=>rZ=(.tup [vsl v,bv r])/\hZ=[])):=by
 have hk:=hi;revert i;refine zlp ((t.rows).length) (fun i hlt ih hi hI _=>?_)
 obtain ⟨x,hx,h0,hw⟩:=zlq (l:=t.rows) ((t.rows.map Rw.cells).length) hlt
 have hvx:=hv x (List.mem_of_getElem? hx)
 cases h1:x.id==n
 ·exact (ih Zo (by (rw [hI,zam hx];simp only [get6, *,cond_false])) Zo).elim (fun ⟨qZ,xZ,gZ⟩=>.inl ⟨qZ,xZ,fun R hg=>zaa (wkl [sb h0,se (zae Rw.cells hx rfl),sb h1,si hw] [1,9,10,11] 1 kr (gZ R hg))⟩) (fun ⟨vY,rY,pZ,gZ⟩=>.inr ⟨vY,rY,pZ,zaa (wkl [sb h0,se (zae Rw.cells hx rfl),sb h1,si hw] [1,9,10,11] 1 kr gZ)⟩)
 ·exact .inr ⟨x.vals,true,(by (rw [hI,zam hx];simp only [get6, *,cond_true];try rfl)),zaa (wkr [sqx (x.vals.length=(List.map V.cells x.vals).length/\True/\True),sb h0,se (zae Rw.cells hx rfl),sb h1,sc (zaS x.vals (by first|assumption|omega|(simp;done)|(simp;omega)))] kr)⟩
theorem zut (t:Tb) (n:Int) (hl:zac t.rows) (hv:∀ r∈t.rows,zac r.vals):∃ (v:List V) (r:Bool),(v,r)=get6 n t.rows/\zab E0 S.Ch [t.av,iv n] [] (.tup [vsl v,bv r]) []:=by
 rcases zke t n Za Za 0 Za Za with ⟨q1,q1_1,g1⟩|⟨r1_0,r1_1,p1_0,g1⟩
 ·exact ⟨[],false,(by first|assumption|(rw [‹get6 _ _=get6 _ _›,List.drop_length];rfl)),wkc At.Ch [] [1,9,10,11] 1 kr (g1 _ (zaa (wkr [sb q1_1] kr)))⟩
 ·exact ⟨r1_0,r1_1,(by first|assumption|(rw [‹get6 _ _=get6 _ _›,List.drop_length];rfl)),wkc At.Ch [] [1,9,10,11] 1 kr (g1)⟩
theorem zi2 (t:Tb) (n:Int) (hl:zac t.rows) (hv:∀ r∈t.rows,zac r.vals):zab E0 S.Ch [t.av,iv n] [] (.tup [vsl (get6 n t.rows).1,bv (get6 n t.rows).2]) []:=by
 obtain ⟨v,r,h,h2⟩:=zut t n hl hv
 rw [← h];exact h2
structure FiStep (ts:List Tg) (frs:List Fr) (ex:List Tb) (m m2:List Tb) (a:Ac):Prop where
 kind:a.kind=1\/a.kind=2\/a.kind=3
 run:∃ n:Int,zab E0 S.AF [tsl m,.sl (ts.map Tg.cells),.sl [],.agg a.cells,fsl frs,tsl ex,.sl []] [] (.tup [tsl m2,.sl [],.sl [],iv n,iv 0]) []
abbrev cc3 (tb ex:List Tb):List (List AV):=[[tsl tb],[tsl ex]]
noncomputable def L_ez (tb ex:List Tb) (i:Nat) (sz:Int):Cfg:=zag B.AM 0 [(0,.sl (cc3 tb ex)),(3,iv sz),(9,.sl (cc3 tb ex)),(10,iv ((cc3 tb ex).length:Nat)),(11,iv (i:Nat))] []
theorem zcc (tb ex:List Tb) (i:Nat) (sz:Int):True/\∀ R,Good E0 B.AM [] (L_ez tb ex i sz) R->Good E0 B.AM [] (L_ez tb ex i sz) R:=⟨trivial,fun _ h=>h⟩
noncomputable def L_eb (tb ex:List Tb) (i:Nat) (xs:List Tb):Cfg:=zag B.AM 1 [(6,.own 0 xs.length),(25,.sl (cc3 tb ex)),(26,iv ((cc3 tb ex).length:Nat)),(27,iv (i:Nat))] [.row Ty.Table (xs.map Tb.cells) false]
theorem zcb (tb ex:List Tb) (i:Nat) (xs:List Tb):True/\∀ R,Good E0 B.AM [] (L_eb tb ex i xs) R->Good E0 B.AM [] (L_eb tb ex i xs) R:=⟨trivial,fun _ h=>h⟩
theorem Zcv7 {p:Prop} (h:p:=by first|rfl|(simp;done)|(simp [X.cells,Qy.cells,V.cells,Col.cells,Rw.cells,Tb.cells,Fr.cells,Sch.cells,Tp.cells,Pl.cells,xCol,xLit,xBin,xNeg,Ac.cells,Se.cells,Pr.cells,Ch.cells,Rw.cells,Dl.cells,Itm.cells];done)):p:=h
theorem zyr (tb ex:List Tb) (hl:tb.length<=1000) (hle:ex.length<=1000) (w1:IntKind.i64.wrap (0+((tb.map Tb.cells).length:Int))=((tb.length:Nat):Int)) (w2:IntKind.i64.wrap (((tb.length:Nat):Int)+((ex.map Tb.cells).length:Int))=((tb.length+ex.length:Nat):Int)) (w3:decide (((tb.length:Nat):Int) < 0)=false) (w4:decide (((tb.length+ex.length:Nat):Int) < 0)=false):∃ (r:List Tb),r=tb++ex/\zab E0 S.AM [.sl (cc3 tb ex)] [] (tsl r) []:=by
 obtain ⟨q1,g1⟩:=zcc tb ex 0 (0)
 obtain ⟨q2,g2⟩:=zcc tb ex (0+1) ((tb.length:Int))
 obtain ⟨q3,g3⟩:=zcc tb ex (0+1+1) ((↑(tb.length+ex.length):Int))
 obtain ⟨q4,g4⟩:=zcb tb ex 0 ([])
 obtain ⟨q5,g5⟩:=zcb tb ex (0+1) ([]++tb)
 obtain ⟨q6,g6⟩:=zcb tb ex (0+1+1) ([]++tb++ex)
 exact ⟨[]++tb++ex,(by first|rfl|(simp;done)),wkc At.AM [] [0,3,9,10,11] 0 kr (g1 _ (zaa (wkl [sb Zt,se (xs:=[[tsl tb],[tsl ex]]) (i:=0) (c:=[tsl tb]) (n:=1) ⟨by decide,rfl,rfl⟩,si w1,sb Zf,si (zbB (t:=(↑0:Int)+1) (n:=0+1) Zo Zo)] [0,3,9,10,11] 0 kr (g2 _ (zaa (wkl [sb Zt,se (zyR ([tsl tb]) ([tsl ex]) Za),si w2,sb Zf,si (zbB (t:=(↑(0+1):Int)+1) (n:=0+1+1) Zo Zo)] [0,3,9,10,11] 0 kr (g3 _ (zaa (wkl [sb Zf,sln [] (zlh (tb.length+ex.length) Za)] [6,25,26,27] 1 kr (g4 _ (zaa (wkl [sb Zt,se (xs:=[[tsl tb],[tsl ex]]) (i:=0) (c:=[tsl tb]) (n:=1) ⟨by decide,rfl,rfl⟩,sqx (AllLen (List.map Tb.cells tb) 4/\0=0/\((([]:List (List AV)).length+(List.map Tb.cells tb).length) * 72).le 140737488355328),si (zbB (t:=(↑0:Int)+1) (n:=0+1) Zo Zo)] [6,25,26,27] 1 kr (zaA (show ([(6,AV.own 0 ([]++List.map Tb.cells tb).length),(25,AV.sl [[tsl tb],[tsl ex]]),(26,iv (↑[[tsl tb],[tsl ex]].length:Int)),(27,iv (↑(0+1):Int))]:TS)=_ from Zcv7) rfl (g5 _ (zaa (wkl [sb Zt,se (zyR ([tsl tb]) ([tsl ex]) Za),sqx (AllLen (List.map Tb.cells ex) 4/\([]++tb).length=(List.map Tb.cells ([]++tb)).length/\(((List.map Tb.cells ([]++tb)).length+(List.map Tb.cells ex).length) * 72).le 140737488355328),si (zbB (t:=(↑(0+1):Int)+1) (n:=0+1+1) Zo Zo)] [6,25,26,27] 1 kr (zaw 6 0 (List.map Tb.cells ([]++tb)++List.map Tb.cells ex) (g6 _ (zaa (wkr [sqx (([]++tb++ex).length=(List.map Tb.cells ([]++tb++ex)).length),sb Zf] kr))) (he:=Zcv7) (hm:=Zcv7))))))))))))))))))⟩
theorem zb7 (tb ex:List Tb) (hl:tb.length<=1000) (hle:ex.length<=1000):zab E0 S.AM [.sl (cc3 tb ex)] [] (tsl (tb++ex)) []:=by
 obtain ⟨r,rfl,h⟩:=zyr tb ex hl hle (by rw [List.length_map,IntKind.wrap_i64];omega) (by rw [List.length_map,IntKind.wrap_i64];omega) Zs Zp
 exact h
theorem el_one (a b:AV):ElAt [[a,b]] (IntKind.i64.wrap ((([[a,b]]:List (List AV)).length:Int) - 1)) [a,b] 2:=⟨by show (0:Int)<=IntKind.i64.wrap 0;decide,rfl,rfl⟩
end Go.AM
namespace Go.AM
open Go.WideShapes
theorem zx2 {h:Heap} {b b':Nat} {cs:List AV} (hb:h[b]?=some (.box cs)):(zep h b')[b]?=some (.box cs):=by
 unfold zep
 split
 ·rename_i e xs sh h1
  have hne:b'≠b:=fun e=>by subst e;rw [hb] at h1;cases h1
  rw [List.getElem?_set_ne hne];exact hb
 ·exact hb
theorem zqS {b:Nat} {cs:List AV}:∀ (l:List Nat) {h:Heap},h[b]?=some (.box cs)->(share h l)[b]?=some (.box cs)
 | [],_,hb=>hb
 | x::r,h,hb=>by
  show (share (zep h x) r)[b]?=_
  exact zqS r (zx2 hb)
theorem zfY {E:Env0} {fn:Func} {h0:Heap} {c c':Cfg} {R:AV->Heap->Prop} (b i:Nat) {v:AV} {q:Prop} (live:List Nat) (m:Nat) {cs:List AV} (hb:c.h[b]?=some (.box cs)) (hi:cs[i]?=some v) (hq:frzO c.h v=q) (ho:q) (hm:Nat.ble h0.length m=true)
  (he:cut live m ⟨c.n,c.todo,c.ts,(share c.h (frzM v)).set b (.box (cs.set i (frz c.h v)))⟩=c') (hg:Good E fn h0 c' R):Good E fn h0 c R:=by
 have hg':=zdi live m (Nat.le_of_ble_eq_true hm) (he ▸ hg)
 intro β0 S0 w0 β S w tmps hb0 hn x0 r rt
 obtain ⟨g,vs,t,h2,h3,h4,h5⟩:=r.box b cs hb
 have hil:i < vs.length:=by rw [← h4];exact (List.getElem?_eq_some_iff.1 hi).1
 have hv:=h5 i v vs[i] hi (by simp [hil])
 obtain ⟨S',⟨x1,r1⟩,d1⟩:=zoI E v c.h β S w _ r hv.1 (by rw [hq];exact ho)
 have hb1:=zqS (frzM v) hb
 have x2:=zfa (β:=β) (S:=S') (w:=w) hb1 (cs.set i (frz c.h v))
 have r2:=r1.setBox hb1 (cs.set i (frz c.h v)) (fun g' vs' t' e2 e3 e4 e5=>by
  refine ⟨by simpa using e4,fun j x y hx hy=>?_⟩
  by_cases hij:i=j
  ·subst hij
   rw [List.getElem?_set_self (List.getElem?_eq_some_iff.1 hi).1] at hx
   cases hx
   have:=e5 i v y hi hy
   refine ⟨?_,this.2⟩
   rw [h2] at e2
   cases e2
   rw [h3] at e3
   have hvs:vs=vs':=by
    have e6:vs.toArray=vs'.toArray:=by injection e3 with e3;injection e3
    simpa using congrArg Array.toList e6
   subst hvs
   have:y=vs[i]:=by
    rw [List.getElem?_eq_getElem hil] at hy
    cases hy
    rfl
   rw [this]
   exact .d _ _ d1
  ·rw [List.getElem?_set_ne hij] at hx
   exact e5 j x y hx hy)
 exact hg' β0 S0 w0 β S' w tmps hb0 hn ((x0.trans x1).trans x2) r2 fun t'=>((rt t').ext x1).ext x2
end Go.AM
namespace Go.AM
theorem zpy {p:Prop} (h:p:=by first|assumption|omega|(simp;done)|(simp;omega)):p:=h
abbrev runN (m:List Tb) (s:Sch) (p c:AV):List AV:=[tsl m,.sl [],.sl [],sv s.name,.sl (s.cols.map Col.cells),p,c]
noncomputable def L_bn0 (s:Sch) (old nw:List V) (tb:List Tb) (ps:List Int) (n:Nat):Cfg:=zag B.Cu 0 [(1,.sl []),(6,isl ps),(18,.p 2 0),(19,.os 3 n 0 0),(20,.own 4 0)] [.box s.cells,.row Ty.Value (nw.map V.cells) false,.box [sv s.name,.sl (s.cols.map Col.cells),vsl old,.own 1 nw.length,tsl tb],.row Ty.Trigger [] false,.row Ty.int [] false]
theorem zi8 (s:Sch) (old nw:List V) (tb:List Tb) (ps:List Int) (n:Nat):True/\∀ R,Good E0 B.Cu [] (L_bn0 s old nw tb ps n) R->Good E0 B.Cu [] (L_bn0 s old nw tb ps n) R:=⟨trivial,fun _ h=>h⟩
theorem zug (s:Sch) (old new:List V) (tb:List Tb) (ps:List Int) (hn:zac new) (hp:Room ps):∃ (a:List V) (b c:List Int) (e:Int),(a=new/\b=ps/\c=[]/\e=0)/\zab E0 S.Cu [.sl [],.sl [],s.av,vsl old,vsl new,tsl tb,isl ps] [] (.tup [vsl a,isl b,isl c,iv e]) []:=by
 obtain ⟨q1,g1⟩:=zi8 s old new tb ps (0)
 exact ⟨new,ps,[],0,(by exact ⟨rfl,rfl,rfl,rfl⟩),wkcN At.Cu [sd [(3,[sc (zaS new zpy)])],sc (ziY ([]) zpy),sc (zbJ ps zpy),sqx (ps.length=(List.map zaN ps).length)] [1,6,18,19,20] 5 [(.fz 6,4),(.os 19,4),(.ot 20 Ty.int,5)] kr (g1 _ (zaa (wkr [sqx (new.length=(List.map V.cells new).length/\True/\0=0/\True/\True),sqx (0=0),sb Zf] kr)))⟩
theorem zm9 (s:Sch) (old new:List V) (tb:List Tb) (ps:List Int) (hn:zac new) (hp:Room ps):zab E0 S.Cu [.sl [],.sl [],s.av,vsl old,vsl new,tsl tb,isl ps] [] (.tup [vsl new,isl ps,.sl [],iv 0]) []:=by
 obtain ⟨_,_,_,_,⟨rfl,rfl,rfl,rfl⟩,h⟩:=zug s old new tb ps hn hp
 exact h
noncomputable def L_ap0 (table:Str) (ev:Int) (asg:List Str) (each:Bool) (i:Nat):Cfg:=zag B.Bq 0 [(1,sv table),(2,iv ev),(4,bv each),(8,.p 0 0),(11,.own 1 0),(15,.sl []),(16,iv 0),(17,iv (i:Nat))] [.box [ssl asg],.row Ty.Trigger [] false]
theorem zfL (table:Str) (ev:Int) (asg:List Str) (each:Bool) (i:Nat):True/\∀ R,Good E0 B.Bq [] (L_ap0 table ev asg each i) R->Good E0 B.Bq [] (L_ap0 table ev asg each i) R:=⟨trivial,fun _ h=>h⟩
theorem zz2 (table:Str) (ev:Int) (asg:List Str) (each:Bool) :∃ (r:List (List AV)),r=[]/\zab E0 S.Bq [.sl [],sv table,iv ev,ssl asg,bv each] [] (.sl r) []:=by
 obtain ⟨q1,g1⟩:=zfL table ev asg each (0)
 exact ⟨[],Zr,wkcN At.Bq [] [1,2,4,8,11,15,16,17] 1 [(.ot 11 Ty.Trigger,2)] kr (g1 _ (zaa (wkr [sqx (0=0),sb Zf] kr)))⟩
theorem zbn (table:Str) (ev:Int) (asg:List Str) (each:Bool):zab E0 S.Bq [.sl [],sv table,iv ev,ssl asg,bv each] [] (.sl []) []:=by
 obtain ⟨_,rfl,h⟩:=zz2 table ev asg each
 exact h
theorem zyv (m:List Tb) (s:Sch) (old nw:List V) (ps:List Int) (hn:zac nw) (hp:Room ps):∃ (r:List V) (e:Int),(r=nw/\e=0)/\zab E0 S.CK [.p 0 0,vsl old,vsl nw] [.box (runN m s (isl ps) (.own 1 0)),.row Ty.int [] false] (.tup [vsl r,iv e]) [.box (runN m s (isl ps) (.own 1 0)),.row Ty.int [] false]:=by
 exact ⟨nw,0,Zj,wk At.CK [sd [(22,[sc (zm9 s old nw m ps zpy zpy)])],sb Zf,sqx (AllLen [] 1/\0=0/\Nat.le 0 140737488355328)] kr⟩
theorem zcZ (m:List Tb) (s:Sch) (old nw:List V) (ps:List Int) (hn:zac nw) (hp:Room ps):zab E0 S.CK [.p 0 0,vsl old,vsl nw] [.box (runN m s (isl ps) (.own 1 0)),.row Ty.int [] false] (.tup [vsl nw,iv 0]) [.box (runN m s (isl ps) (.own 1 0)),.row Ty.int [] false]:=by
 obtain ⟨r,e,⟨rfl,rfl⟩,h⟩:=zyv m s old nw ps hn hp
 exact h
theorem zb3 {p:Prop} (h:p:=by first|assumption|omega|(simp;done)|(simp;omega)):p:=h
theorem zsa {p:Prop} (h:p:=by first|trivial|assumption|(simp;done)|omega|(simp;omega)|(simp at *;omega)):p:=h
theorem zzv {α:Type} {l:List α} {i:Nat} {x:α} (h:l[i]?=some x):l.set i x=l:=by
 refine List.ext_getElem? fun j=>?_
 by_cases e:i=j
 ·subst e;rw [List.getElem?_set_self (List.getElem?_eq_some_iff.1 h).1,h]
 ·rw [List.getElem?_set_ne e]
abbrev pK (ps:List Int):Blk:=.row Ty.int (ps.map fun n=>[iv n]) false
abbrev pT (ps:List Int):Blk:=.row Ty.int (ps.map fun n=>[iv n]) true
abbrev odH0 (m:List Tb) (s:Sch) (ps:List Int) (c:List AV) (r:List Blk):Heap:=.box (runN m s (.own 1 ps.length) .nl)::pK ps::.box c::r
/- ### deletes -/
abbrev odC (del:List Int):List AV:=[.sl [],isl del,.sl []]
abbrev odH1 (m:List Tb) (s:Sch) (t:Tb) (ps del:List Int):Heap:=[.box (runN m s (isl ps) (.own 4 0)),pT ps,.box (odC del),.box t.cells,.row Ty.int [] false]
noncomputable def zrC (m:List Tb) (s:Sch) (t:Tb) (ps del:List Int) (i:Nat) :Cfg:=zag B.Ab 0 [(0,.p 0 0),(1,.p 2 0),(20,.sl (t.rows.map Rw.cells)),(21,iv ((t.rows.map Rw.cells).length:Nat)),(22,iv (i:Nat))] (odH1 m s t ps del)
theorem zfy (m:List Tb) (s:Sch) (t:Tb) (ps del:List Int) (hr:zac t.rows) (hd:zac del) (hp:Room ps) (i:Nat)  (hi:i<=(t.rows).length) (hI:True):(True)/\(decide ((((t.rows).length:Nat):Int) < (((t.rows.map Rw.cells).length:Nat):Int))=false)/\∀ R,Good E0 B.Ab (odH0 m s ps (odC del) []) (zrC m s t ps del (t.rows).length ) R->Good E0 B.Ab (odH0 m s ps (odC del) []) (zrC m s t ps del i ) R:=by
 have hk:=hi;revert i hI;refine zlp ((t.rows).length) (fun i hlt ih hi hI _=>?_)
 obtain ⟨x,hx,h0,hw⟩:=zlq (l:=t.rows) ((t.rows.map Rw.cells).length) hlt
 let p_1:List St:=[sb h0,se (zae Rw.cells hx rfl),sd [(6,[sc (zbE del x.id zb3)])]]
 cases h1:anyI del x.id
 ·obtain ⟨qZ,xZ,gZ⟩:=ih Zo zsa Zo;exact ⟨qZ,xZ,fun R hg=>zaa (wkl (p_1++[sb h1,si hw]) [0,1,20,21,22] 5 kr (gZ R hg))⟩
 ·obtain ⟨qZ,xZ,gZ⟩:=ih Zo zsa Zo;exact ⟨qZ,xZ,fun R hg=>zaa (wkl (p_1++[sb h1,sl [0,4] (zcZ m s x.vals ([]) ps zb3 zb3),sb Zf,si hw]) [0,1,20,21,22] 5 kr (gZ R hg))⟩
noncomputable def L_odU (m:List Tb) (s:Sch) (t:Tb) (ps del:List Int) (i:Nat):Cfg:=zag B.Ab 1 [(0,.p 0 0),(1,.p 2 0),(47,.sl []),(48,iv 0),(49,iv (i:Nat))] (odH1 m s t ps del)
theorem zfz (m:List Tb) (s:Sch) (t:Tb) (ps del:List Int) (i:Nat):True/\∀ R,Good E0 B.Ab (odH0 m s ps (odC del) []) (L_odU m s t ps del i) R->Good E0 B.Ab (odH0 m s ps (odC del) []) (L_odU m s t ps del i) R:=⟨trivial,fun _ h=>h⟩
noncomputable def L_odI (m:List Tb) (s:Sch) (t:Tb) (ps del:List Int) (i:Nat):Cfg:=zag B.Ab 2 [(0,.p 0 0),(1,.p 2 0),(78,.sl []),(79,iv 0),(80,iv (i:Nat))] (odH1 m s t ps del)
theorem zfx (m:List Tb) (s:Sch) (t:Tb) (ps del:List Int) (i:Nat):True/\∀ R,Good E0 B.Ab (odH0 m s ps (odC del) []) (L_odI m s t ps del i) R->Good E0 B.Ab (odH0 m s ps (odC del) []) (L_odI m s t ps del i) R:=⟨trivial,fun _ h=>h⟩
noncomputable def L_od0 (m:List Tb) (s:Sch) (t:Tb) (ps del:List Int):Cfg:=zag B.Ab 0 [(0,.p 0 0),(1,.p 2 0),(20,.sl (t.rows.map Rw.cells)),(21,iv ((t.rows.map Rw.cells).length:Nat)),(22,iv 0)] (odH0 m s ps (odC del) [.box t.cells])
noncomputable def L_od1 (m:List Tb) (s:Sch) (t:Tb) (ps del:List Int):Cfg:=zag B.Ab 0 [(0,.p 0 0),(1,.p 2 0),(20,.sl (t.rows.map Rw.cells)),(21,iv ((t.rows.map Rw.cells).length:Nat)),(22,iv 0)] [.box (runN m s (isl ps) .nl),pT ps,.box (odC del),.box t.cells]
theorem zfw (m:List Tb) (s:Sch) (t:Tb) (ps del:List Int) (hr:zac t.rows) (hd:zac del) (hp:Room ps):decide (((t.rows.length:Nat):Int) < (((t.rows.map Rw.cells).length:Nat):Int))=false/\∀ R,Good E0 B.Ab (odH0 m s ps (odC del) []) (zrC m s t ps del t.rows.length) R->Good E0 B.Ab (odH0 m s ps (odC del) []) (L_od0 m s t ps del) R:=by
 obtain ⟨_,h1,h2⟩:=zfy m s t ps del hr hd hp 0 (Nat.zero_le _) trivial
 refine ⟨h1,fun R h=>?_⟩
 exact zfY (c':=L_od1 m s t ps del) (q:=(ps.length=(ps.map fun n=>[iv n]).length)) (cs:=runN m s (.own 1 ps.length) .nl) 0 5 (v:=.own 1 ps.length) [0,1,20,21,22] 4 kr kr kr Zs kr kr (zcL (c':=zrC m s t ps del 0) (cs:=runN m s (isl ps) .nl) 0 6 Ty.int [0,1,20,21,22] 5 kr kr kr kr (h2 R h))
theorem zuq (m:List Tb) (s:Sch) (t:Tb) (ps del:List Int) (hr:zac t.rows) (hd:zac del) (hp:Room ps):∃ (r:Int),r=0/\zab E0 S.Ab [.p 0 0,.p 2 0,t.av] (odH0 m s ps (odC del) []) (iv r) (odH1 m s t ps del):=by
 obtain ⟨q1,g1⟩:=zfw m s t ps del zb3 zb3 zb3
 obtain ⟨q2,g2⟩:=zfz m s t ps del (0)
 obtain ⟨q3,g3⟩:=zfx m s t ps del (0)
 exact ⟨0,Zr,wkcK At.Ab [] [0,1,20,21,22] 4 kr (g1 _ (zaa (wkl [sb q1] [0,1,47,48,49] 5 kr (g2 _ (zaa (wkl [sb Zf] [0,1,78,79,80] 5 kr (g3 _ (zaa (wkrK [sb Zf] kr)))))))))⟩
theorem zhX (m:List Tb) (s:Sch) (t:Tb) (ps del:List Int) (hr:zac t.rows) (hd:zac del) (hp:Room ps):zab E0 S.Ab [.p 0 0,.p 2 0,t.av] (odH0 m s ps (odC del) []) (iv 0) (odH1 m s t ps del):=by
 obtain ⟨r,rfl,h⟩:=zuq m s t ps del hr hd hp
 exact h
/- ### updates -/
abbrev ouC (upd:List Pr):List AV:=[.nl,.nl,.own 3 upd.length]
abbrev ouB (upd:List Pr):Blk:=.row Ty.Pair (upd.map Pr.cells) false
abbrev ouH1 (m:List Tb) (s:Sch) (t:Tb) (ps:List Int) (upd:List Pr):Heap:=[.box (runN m s (isl ps) (.own 5 0)),pT ps,.box (ouC upd),ouB upd,.box t.cells,.row Ty.int [] false]
noncomputable def L_ouD (m:List Tb) (s:Sch) (t:Tb) (ps:List Int) (upd:List Pr) (i:Nat) :Cfg:=zag B.Ab 0 [(0,.p 0 0),(1,.p 2 0),(20,.sl (t.rows.map Rw.cells)),(21,iv ((t.rows.map Rw.cells).length:Nat)),(22,iv (i:Nat))] (odH0 m s ps (ouC upd) [ouB upd,.box t.cells])
theorem zfF (m:List Tb) (s:Sch) (t:Tb) (ps:List Int) (upd:List Pr) (hr:zac t.rows) (i:Nat)  (hi:i<=(t.rows).length) (hI:True):(True)/\(decide ((((t.rows).length:Nat):Int) < (((t.rows.map Rw.cells).length:Nat):Int))=false)/\∀ R,Good E0 B.Ab (odH0 m s ps (ouC upd) [ouB upd]) (L_ouD m s t ps upd (t.rows).length ) R->Good E0 B.Ab (odH0 m s ps (ouC upd) [ouB upd]) (L_ouD m s t ps upd i ) R:=by
 have hk:=hi;revert i hI;refine zlp ((t.rows).length) (fun i hlt ih hi hI _=>?_)
 obtain ⟨x,hx,h0,hw⟩:=zlq (l:=t.rows) ((t.rows.map Rw.cells).length) hlt
 obtain ⟨qZ,xZ,gZ⟩:=ih Zo zsa Zo;exact ⟨qZ,xZ,fun R hg=>zaa (wkl [sb h0,se (zae Rw.cells hx rfl),sd [(6,[sc (zbE ([]) x.id zb3)])],sb Zf,si hw] [0,1,20,21,22] 5 kr (gZ R hg))⟩
noncomputable def zrE (m:List Tb) (s:Sch) (t:Tb) (ps:List Int) (upd:List Pr) (i:Nat) (out:List Pr):Cfg:=zag B.Ab 1 [(0,.p 0 0),(1,.p 2 0),(47,.own 3 upd.length),(48,iv (upd.length:Nat)),(49,iv (i:Nat))] [.box (runN m s (isl ps) (.own 5 0)),pT ps,.box (ouC upd),.row Ty.Pair (out.map Pr.cells) false,.box t.cells,.row Ty.int [] false]
theorem zfH (m:List Tb) (s:Sch) (t:Tb) (ps:List Int) (upd:List Pr) (hl:zac upd) (hp:Room ps) (hS:∀ p∈upd,zac p.old/\zac p.nw) (i:Nat) (out:List Pr) (hi:i<=(upd.length)) (hI:out=upd):∃ (out':List Pr),(out'=upd)/\(decide ((((upd.length):Nat):Int) < (((upd.length):Nat):Int))=false)/\∀ R,Good E0 B.Ab (odH0 m s ps (ouC upd) [ouB upd]) (zrE m s t ps upd upd.length out') R->Good E0 B.Ab (odH0 m s ps (ouC upd) [ouB upd]) (zrE m s t ps upd i out) R:=by
 have hk:=hi;revert i out;refine zlp upd.length (fun i hlt ih out hi hI _=>?_)
 have h0:decide (((i:Nat):Int) < (((upd.length):Nat):Int))=true:=by simp;omega
 have hw:IntKind.i64.wrap (((i:Nat):Int)+1)=((i+1:Nat):Int):=zaL i (by (simp only [zac] at hl;omega))
 obtain ⟨x,hx⟩:=za4 (l:=upd) (i:=i) Zo
 obtain ⟨hx1,hx2⟩:=hS x (List.mem_of_getElem? hx)
 have hol:(out.map Pr.cells).length=upd.length:=by rw [List.length_map,hI]
 have he:OwnEl (out.map Pr.cells) upd.length i x.cells:=⟨hol.symm,by rw [List.getElem?_map,hI,hx];rfl⟩
 have ho:OwnAt (out.map Pr.cells) upd.length ((i:Nat):Int):=⟨hol.symm,by omega,by omega⟩
 exact Zih (ih (out.set i x) Zo (by (rw [hI];exact zzv hx)) Zo) fun R gY=>zaa (wkl [sb h0,sqx (OwnAt (List.map Pr.cells out) upd.length (i:Int)),sx (.el x.cells) he,sl [0,5] (zcZ m s x.old x.nw ps zb3 zb3),sb Zf,sqx (OwnAt (List.map Pr.cells out) upd.length (i:Int)),sx (.el x.cells) (And.intro (owed (p:=True/\True)) he),si hw] [0,1,47,48,49] 6 kr (zaA rfl (show ([Blk.box [tsl m,AV.sl [],AV.sl [],sv s.name,ZC s.cols,AV.sl (List.map (fun n=>[iv n]) ps),AV.own 5 0],Blk.row Ty.int (List.map (fun n=>[iv n]) ps) true,Blk.box [AV.nl,AV.nl,AV.own 3 upd.length],Blk.row Ty.Pair ((List.map Pr.cells out).set i [iv x.id,vsl x.old,vsl x.nw]) false,Blk.box [sv t.sch.name,ZC t.sch.cols,iv t.next,ZW t.rows],Blk.row Ty.int [] false]:Heap)=_ from Zcv4) gY))
noncomputable def L_ou0 (m:List Tb) (s:Sch) (t:Tb) (ps:List Int) (upd:List Pr):Cfg:=zag B.Ab 1 [(0,.p 0 0),(1,.p 2 0),(47,.own 3 upd.length),(48,iv (upd.length:Nat)),(49,iv 0)] (odH0 m s ps (ouC upd) [ouB upd,.box t.cells])
noncomputable def L_ou1 (m:List Tb) (s:Sch) (t:Tb) (ps:List Int) (upd:List Pr):Cfg:=zag B.Ab 1 [(0,.p 0 0),(1,.p 2 0),(47,.own 3 upd.length),(48,iv (upd.length:Nat)),(49,iv 0)] [.box (runN m s (isl ps) .nl),pT ps,.box (ouC upd),ouB upd,.box t.cells]
theorem zfE (m:List Tb) (s:Sch) (t:Tb) (ps:List Int) (upd:List Pr) (hl:zac upd) (hp:Room ps) (hS:∀ p∈upd,zac p.old/\zac p.nw):decide (((upd.length:Nat):Int) < ((upd.length:Nat):Int))=false/\∀ R,Good E0 B.Ab (odH0 m s ps (ouC upd) [ouB upd]) (zrE m s t ps upd upd.length upd) R->Good E0 B.Ab (odH0 m s ps (ouC upd) [ouB upd]) (L_ou0 m s t ps upd) R:=by
 obtain ⟨out,hout,h1,h2⟩:=zfH m s t ps upd hl hp hS 0 upd (Nat.zero_le _) rfl
 subst hout
 refine ⟨h1,fun R h=>?_⟩
 exact zfY (c':=L_ou1 m s t ps out) (q:=(ps.length=(ps.map fun n=>[iv n]).length)) (cs:=runN m s (.own 1 ps.length) .nl) 0 5 (v:=.own 1 ps.length) [0,1,47,48,49] 5 kr kr kr Zs kr kr (zcL (c':=zrE m s t ps out 0 out) (cs:=runN m s (isl ps) .nl) 0 6 Ty.int [0,1,47,48,49] 6 kr kr kr kr (h2 R h))
noncomputable def L_ouI (m:List Tb) (s:Sch) (t:Tb) (ps:List Int) (upd:List Pr) (i:Nat):Cfg:=zag B.Ab 2 [(0,.p 0 0),(1,.p 2 0),(78,.nl),(79,iv 0),(80,iv (i:Nat))] (ouH1 m s t ps upd)
theorem zfG (m:List Tb) (s:Sch) (t:Tb) (ps:List Int) (upd:List Pr) (i:Nat):True/\∀ R,Good E0 B.Ab (odH0 m s ps (ouC upd) [ouB upd]) (L_ouI m s t ps upd i) R->Good E0 B.Ab (odH0 m s ps (ouC upd) [ouB upd]) (L_ouI m s t ps upd i) R:=⟨trivial,fun _ h=>h⟩
theorem zus (m:List Tb) (s:Sch) (t:Tb) (ps:List Int) (upd:List Pr) (hr:zac t.rows) (hl:zac upd) (hp:Room ps) (hS:∀ p∈upd,zac p.old/\zac p.nw):∃ (r:Int),r=0/\zab E0 S.Ab [.p 0 0,.p 2 0,t.av] (odH0 m s ps (ouC upd) [ouB upd]) (iv r) (ouH1 m s t ps upd):=by
 obtain ⟨q1,q1_1,g1⟩:=zfF m s t ps upd zb3 0 zb3 zb3
 obtain ⟨q2,g2⟩:=zfE m s t ps upd zb3 zb3 zb3
 obtain ⟨q3,g3⟩:=zfG m s t ps upd (0)
 exact ⟨0,Zr,wkcK At.Ab [] [0,1,20,21,22] 5 kr (g1 _ (zaa (wkl [sb q1_1,sqx (upd.length=(List.map Pr.cells upd).length)] [0,1,47,48,49] 5 kr (g2 _ (zaa (wkl [sb q2] [0,1,78,79,80] 6 kr (g3 _ (zaa (wkrK [sb Zf] kr)))))))))⟩
theorem zhZ (m:List Tb) (s:Sch) (t:Tb) (ps:List Int) (upd:List Pr) (hr:zac t.rows) (hl:zac upd) (hp:Room ps) (hS:∀ p∈upd,zac p.old/\zac p.nw):zab E0 S.Ab [.p 0 0,.p 2 0,t.av] (odH0 m s ps (ouC upd) [ouB upd]) (iv 0) (ouH1 m s t ps upd):=by
 obtain ⟨r,rfl,h⟩:=zus m s t ps upd hr hl hp hS
 exact h
/- ### inserts -/
abbrev oiC (ins:List (List V)):List AV:=[.own 3 ins.length,.nl,.nl]
abbrev oiB (ins:List (List V)):Blk:=.row Ty.LValue (ins.map vrow) false
abbrev oiH1 (m:List Tb) (s:Sch) (t:Tb) (ps:List Int) (ins:List (List V)):Heap:=[.box (runN m s (isl ps) (.own 5 0)),pT ps,.box (oiC ins),oiB ins,.box t.cells,.row Ty.int [] false]
noncomputable def L_oiD (m:List Tb) (s:Sch) (t:Tb) (ps:List Int) (ins:List (List V)) (i:Nat) :Cfg:=zag B.Ab 0 [(0,.p 0 0),(1,.p 2 0),(20,.sl (t.rows.map Rw.cells)),(21,iv ((t.rows.map Rw.cells).length:Nat)),(22,iv (i:Nat))] (odH0 m s ps (oiC ins) [oiB ins,.box t.cells])
theorem zfB (m:List Tb) (s:Sch) (t:Tb) (ps:List Int) (ins:List (List V)) (hr:zac t.rows) (i:Nat)  (hi:i<=(t.rows).length) (hI:True):(True)/\(decide ((((t.rows).length:Nat):Int) < (((t.rows.map Rw.cells).length:Nat):Int))=false)/\∀ R,Good E0 B.Ab (odH0 m s ps (oiC ins) [oiB ins]) (L_oiD m s t ps ins (t.rows).length ) R->Good E0 B.Ab (odH0 m s ps (oiC ins) [oiB ins]) (L_oiD m s t ps ins i ) R:=by
 have hk:=hi;revert i hI;refine zlp ((t.rows).length) (fun i hlt ih hi hI _=>?_)
 obtain ⟨x,hx,h0,hw⟩:=zlq (l:=t.rows) ((t.rows.map Rw.cells).length) hlt
 obtain ⟨qZ,xZ,gZ⟩:=ih Zo zsa Zo;exact ⟨qZ,xZ,fun R hg=>zaa (wkl [sb h0,se (zae Rw.cells hx rfl),sd [(6,[sc (zbE ([]) x.id zb3)])],sb Zf,si hw] [0,1,20,21,22] 5 kr (gZ R hg))⟩
noncomputable def L_oiU (m:List Tb) (s:Sch) (t:Tb) (ps:List Int) (ins:List (List V)) (i:Nat):Cfg:=zag B.Ab 1 [(0,.p 0 0),(1,.p 2 0),(47,.nl),(48,iv 0),(49,iv (i:Nat))] (odH0 m s ps (oiC ins) [oiB ins,.box t.cells])
theorem zfD (m:List Tb) (s:Sch) (t:Tb) (ps:List Int) (ins:List (List V)) (i:Nat):True/\∀ R,Good E0 B.Ab (odH0 m s ps (oiC ins) [oiB ins]) (L_oiU m s t ps ins i) R->Good E0 B.Ab (odH0 m s ps (oiC ins) [oiB ins]) (L_oiU m s t ps ins i) R:=⟨trivial,fun _ h=>h⟩
noncomputable def zrD (m:List Tb) (s:Sch) (t:Tb) (ps:List Int) (ins:List (List V)) (i:Nat) (out:List (List V)):Cfg:=zag B.Ab 2 [(0,.p 0 0),(1,.p 2 0),(78,.own 3 ins.length),(79,iv (ins.length:Nat)),(80,iv (i:Nat))] [.box (runN m s (isl ps) (.own 5 0)),pT ps,.box (oiC ins),.row Ty.LValue (out.map vrow) false,.box t.cells,.row Ty.int [] false]
theorem zfC (m:List Tb) (s:Sch) (t:Tb) (ps:List Int) (ins:List (List V)) (hl:zac ins) (hp:Room ps) (hS:∀ p∈ins,zac p) (i:Nat) (out:List (List V)) (hi:i<=(ins.length)) (hI:out=ins):∃ (out':List (List V)),(out'=ins)/\(decide ((((ins.length):Nat):Int) < (((ins.length):Nat):Int))=false)/\∀ R,Good E0 B.Ab (odH0 m s ps (oiC ins) [oiB ins]) (zrD m s t ps ins ins.length out') R->Good E0 B.Ab (odH0 m s ps (oiC ins) [oiB ins]) (zrD m s t ps ins i out) R:=by
 have hk:=hi;revert i out;refine zlp ins.length (fun i hlt ih out hi hI _=>?_)
 have h0:decide (((i:Nat):Int) < (((ins.length):Nat):Int))=true:=by simp;omega
 have hw:IntKind.i64.wrap (((i:Nat):Int)+1)=((i+1:Nat):Int):=zaL i (by (simp only [zac] at hl;omega))
 obtain ⟨x,hx⟩:=za4 (l:=ins) (i:=i) Zo
 have hx2:=hS x (List.mem_of_getElem? hx)
 have hol:(out.map vrow).length=ins.length:=by rw [List.length_map,hI]
 have he:OwnEl (out.map vrow) ins.length i (vrow x):=⟨hol.symm,by rw [List.getElem?_map,hI,hx];rfl⟩
 have ho:OwnAt (out.map vrow) ins.length ((i:Nat):Int):=⟨hol.symm,by omega,by omega⟩
 exact Zih (ih (out.set i x) Zo (by (rw [hI];exact zzv hx)) Zo) fun R gY=>zaa (wkl [sb h0,sqx (OwnAt (List.map vrow out) ins.length (i:Int)),sx (.el (vrow x)) he,sl [0,5] (zcZ m s ([]) x ps zb3 zb3),sb Zf,sqx (OwnAt (List.map vrow out) ins.length (i:Int)),sx (.el (vrow x)) (And.intro (owed (p:=True/\True)) he),si hw] [0,1,78,79,80] 6 kr (zaA rfl (show ([Blk.box [tsl m,AV.sl [],AV.sl [],sv s.name,ZC s.cols,AV.sl (List.map (fun n=>[iv n]) ps),AV.own 5 0],Blk.row Ty.int (List.map (fun n=>[iv n]) ps) true,Blk.box [AV.own 3 ins.length,AV.nl,AV.nl],Blk.row Ty.LValue ((List.map vrow out).set i [vsl x]) false,Blk.box [sv t.sch.name,ZC t.sch.cols,iv t.next,ZW t.rows],Blk.row Ty.int [] false]:Heap)=_ from Zcv4) gY))
noncomputable def L_oi0 (m:List Tb) (s:Sch) (t:Tb) (ps:List Int) (ins:List (List V)):Cfg:=zag B.Ab 2 [(0,.p 0 0),(1,.p 2 0),(78,.own 3 ins.length),(79,iv (ins.length:Nat)),(80,iv 0)] (odH0 m s ps (oiC ins) [oiB ins,.box t.cells])
noncomputable def L_oi1 (m:List Tb) (s:Sch) (t:Tb) (ps:List Int) (ins:List (List V)):Cfg:=zag B.Ab 2 [(0,.p 0 0),(1,.p 2 0),(78,.own 3 ins.length),(79,iv (ins.length:Nat)),(80,iv 0)] [.box (runN m s (isl ps) .nl),pT ps,.box (oiC ins),oiB ins,.box t.cells]
theorem zfA (m:List Tb) (s:Sch) (t:Tb) (ps:List Int) (ins:List (List V)) (hl:zac ins) (hp:Room ps) (hS:∀ p∈ins,zac p):decide (((ins.length:Nat):Int) < ((ins.length:Nat):Int))=false/\∀ R,Good E0 B.Ab (odH0 m s ps (oiC ins) [oiB ins]) (zrD m s t ps ins ins.length ins) R->Good E0 B.Ab (odH0 m s ps (oiC ins) [oiB ins]) (L_oi0 m s t ps ins) R:=by
 obtain ⟨out,hout,h1,h2⟩:=zfC m s t ps ins hl hp hS 0 ins (Nat.zero_le _) rfl
 subst hout
 refine ⟨h1,fun R h=>?_⟩
 exact zfY (c':=L_oi1 m s t ps out) (q:=(ps.length=(ps.map fun n=>[iv n]).length)) (cs:=runN m s (.own 1 ps.length) .nl) 0 5 (v:=.own 1 ps.length) [0,1,78,79,80] 5 kr kr kr Zs kr kr (zcL (c':=zrD m s t ps out 0 out) (cs:=runN m s (isl ps) .nl) 0 6 Ty.int [0,1,78,79,80] 6 kr kr kr kr (h2 R h))
theorem zur (m:List Tb) (s:Sch) (t:Tb) (ps:List Int) (ins:List (List V)) (hr:zac t.rows) (hl:zac ins) (hp:Room ps) (hS:∀ p∈ins,zac p):∃ (r:Int),r=0/\zab E0 S.Ab [.p 0 0,.p 2 0,t.av] (odH0 m s ps (oiC ins) [oiB ins]) (iv r) (oiH1 m s t ps ins):=by
 obtain ⟨q1,q1_1,g1⟩:=zfB m s t ps ins zb3 0 zb3 zb3
 obtain ⟨q2,g2⟩:=zfD m s t ps ins (0)
 obtain ⟨q3,g3⟩:=zfA m s t ps ins zb3 zb3 zb3
 exact ⟨0,Zr,wkcK At.Ab [] [0,1,20,21,22] 5 kr (g1 _ (zaa (wkl [sb q1_1] [0,1,47,48,49] 5 kr (g2 _ (zaa (wkl [sb Zf,sqx (ins.length=(List.map vrow ins).length)] [0,1,78,79,80] 5 kr (g3 _ (zaa (wkrK [sb q3] kr)))))))))⟩
theorem zhY (m:List Tb) (s:Sch) (t:Tb) (ps:List Int) (ins:List (List V)) (hr:zac t.rows) (hl:zac ins) (hp:Room ps) (hS:∀ p∈ins,zac p):zab E0 S.Ab [.p 0 0,.p 2 0,t.av] (odH0 m s ps (oiC ins) [oiB ins]) (iv 0) (oiH1 m s t ps ins):=by
 obtain ⟨r,rfl,h⟩:=zur m s t ps ins hr hl hp hS
 exact h
end Go.AM
