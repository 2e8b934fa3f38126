/-
  Contracts of the program's functions, part 5.
-/
import Derived.Test.YtoanpmnofigncaaGreatDoorAbE
import Derived.Shelf.Spec.SlicesGrow
set_option maxRecDepth 100000
set_option maxHeartbeats 40000000
set_option linter.unusedSimpArgs false
set_option linter.unusedVariables false
namespace Go.AM
theorem za3 {p:Prop} (h:p:=by first|exact zvw ‹_› Zo Zo|exact .lit zaH (.inl rfl) (fun h=>by simp at h)|exact zp8 ‹_› ‹_›|exact .col ((by assumption:_=true->ColT _ _ _) ‹_›)|exact xt_qW ‹_› ‹_› (by first|rfl|(simp;omega)|(rw [IntKind.wrap_i64];simp;omega))|exact xt_2W ‹_› ‹_›|exact xt_neg ‹_› ‹_›|exact zn9 ‹_› (opAt_r ‹_›) ‹_› ‹_›):p:=h
theorem za0 {p:Prop} (h:p:=by first|assumption|(simp;done)|omega|(rw [IntKind.wrap_i64];omega)):p:=h
theorem zdK {p:Prop} (h:p:=by first|exact zvw ‹_› Zo Zo|exact .lit zaH (.inl rfl) (fun h=>by simp at h)|exact zp8 ‹_› ‹_›|exact .col ((by assumption:_=true->ColT _ _ _) ‹_›)):p:=h
theorem zpg {p:Prop} (h:p:=by first|exact .un (.inl ⟨rfl,rfl⟩) ‹_›|exact .isn ‹_›|exact .btw ‹_› ‹_› ‹_›|exact zzj Zo ‹_› ‹_›|exact zzh Zo ‹_› ‹_›|exact zzj (by rw [IntKind.wrap_i64];omega) ‹_› ‹_›|exact zzh (by rw [IntKind.wrap_i64];omega) ‹_› ‹_›):p:=h
theorem zrP {p:Prop} (h:p:=by first|exact .qry (it:=[]) (List.mem_of_getElem? ‹_›) (qryT_0 hk ‹_›) Zs (by exact xt0) (by first|exact xt0|exact xt1 ‹_›)|exact .qry (it:=[_]) (List.mem_of_getElem? ‹_›) (qryT_1 hk ‹_›) Zs (by exact xt1 ‹_›) (by first|exact xt0|exact xt1 ‹_›)):p:=h
theorem zrQ {p:Prop} (h:p:=by exact ⟨by (try simp only [List.length_append,List.length_cons,List.length_nil]);omega,by first|exact hI.2|exact hI.2.app (zx8 hfi hx ‹_›)|exact (hI.2.app (zx8 hfi hx ‹_›)).app (colT_u hfi hx ‹_› ‹_› ‹_› hfl)⟩):p:=h
theorem ziY {p:Prop} (h:p:=by first|assumption|exact ⟨_,_,by assumption,rfl⟩|(simp;done)|omega|(simp only [List.length_map] at *;omega)):p:=h
theorem znf {p:Prop} (h:p:=by first|assumption|exact ⟨by simp,zyc _ _⟩|exact zBz ‹_› Zo|omega):p:=h
theorem zng {p:Prop} (h:p:=by first|assumption|(simp;done)|omega|exact ⟨by simp only [Few] at hfx;omega,hI.2⟩):p:=h
theorem zd1 {p:Prop} (h:p:=by first|assumption|(simp;done)|omega):p:=h
theorem zmu {p:Prop} (h:p:=by first|assumption|omega|(simp;done)|(simp;omega)):p:=h
def zgj (frs:List Fr) (w:Int) (l:List X):Prop:=∀ x∈l,ColT frs w x
theorem zgj.app {frs:List Fr} {w:Int} {l:List X} {x:X} (h:zgj frs w l) (hx:ColT frs w x):zgj frs w (l++[x]):=fun y hy=>(List.mem_append.1 hy).elim (h y) fun h=>by simp only [List.mem_singleton] at h;exact h ▸ hx
theorem zx8 {frs:List Fr} {w:Int} {io i:Nat} {f:Fr} {c:Col} (hf:frs[io]?=some f) (hx:f.cols[i]?=some c) (hw:(c.type != w)=false):ColT frs w (xCol f.name c.name) :=
 ⟨io,f,c,f.name,hf,List.mem_of_getElem? hx,by simpa using hw,rfl,.inl rfl⟩
theorem colT_u {frs:List Fr} {w:Int} {io i:Nat} {f:Fr} {c:Col} (hf:frs[io]?=some f) (hx:f.cols[i]?=some c) (hw:(c.type != w)=false) (hs:(!f.strict)=true) (he:((io:Int)==IntKind.i64.wrap (((frs.map Fr.cells).length:Int) - 1))=true) (hl:frs.length<=1000):ColT frs w (xCol ⟨#[]⟩ c.name) :=
 ⟨io,f,c,⟨#[]⟩,hf,List.mem_of_getElem? hx,by simpa using hw,rfl,.inr ⟨rfl,by simpa using hs,by rw [IntKind.wrap_i64] at he;simp at he;omega⟩⟩
noncomputable def zuK (t0:Tp) (p:Pl) (w:Int) (i:Nat) (l:List X):Cfg:=zaj B.AA 0 [(0,.p 0 0),(2,iv w),(4,.p 1 0),(6,.p 2 0),(8,.own 3 l.length),(14,fsl p.frs),(15,iv ((p.frs.map Fr.cells).length:Nat)),(16,iv (i:Nat))] [.box t0.cells,.box p.cells,.box zX,.row Ty.Expr (zad l) false]
noncomputable def zuJ (t0:Tp) (p:Pl) (w:Int) (io:Nat) (f:Fr) (i:Nat) (l:List X):Cfg:=zaj B.AA 1 [(0,.p 0 0),(2,iv w),(4,.p 1 0),(6,.p 2 0),(8,.own 3 l.length),(9,iv (io:Nat)),(10,.p 4 0),(14,fsl p.frs),(15,iv ((p.frs.map Fr.cells).length:Nat)),(16,iv (io:Nat)),(22,.sl (f.cols.map Col.cells)),(23,iv ((f.cols.map Col.cells).length:Nat)),(24,iv (i:Nat))] [.box t0.cells,.box p.cells,.box zX,.row Ty.Expr (zad l) false,.box f.cells]
theorem zfc (t0:Tp) (p:Pl) (w:Int) (io:Nat) (f:Fr) (hl:Few f.cols) (hio:io<=1000) (hfi:p.frs[io]?=some f) (hfl:p.frs.length<=1000) (i:Nat) (l:List X) (hi:i<=(f.cols).length) (hI:l.length+2 * (f.cols.length - i)<=2000 * (io+1)/\zgj p.frs w l):∃ (l':List X),(l'.length+2 * (f.cols.length - (f.cols).length)<=2000 * (io+1)/\zgj p.frs w l')/\(decide ((((f.cols).length:Nat):Int) < (((f.cols.map Col.cells).length:Nat):Int))=false)/\∀ R,Good E0 B.AA [.box t0.cells] (zuJ t0 p w io f (f.cols).length l') R->Good E0 B.AA [.box t0.cells] (zuJ t0 p w io f i l) R:=by
 have hk:=hi;revert i l;refine zlp ((f.cols).length) (fun i hlt ih l hi hI _=>?_)
 obtain ⟨x,hx,h0,hw⟩:=zlq (l:=f.cols) ((f.cols.map Col.cells).length) hlt
 have hil:=zbY hx;have hlen:l.length<=2002000:=by omega
 let p_1:List St:=[sb h0,se (zaf Col.cells hx rfl)]
 cases h1:x.type != w
 ·let p_2:List St:=p_1++[sb h1,sc (zjk f.name x.name),sqA (zad l) [[iv (xCol f.name x.name).kind,iv (xCol f.name x.name).op,bv (xCol f.name x.name).not,iv (xCol f.name x.name).val.kind,iv (xCol f.name x.name).val.int,sv (xCol f.name x.name).val.text,sv (xCol f.name x.name).table,sv (xCol f.name x.name).name,AV.sl (zad []),AV.sl (zag [])]] l.length 10 136]
  cases h2:!f.strict
  ·exact Zih (ih (l++[xCol f.name x.name]) Zo zrQ Zo) fun R gY=>zab (wkl (p_2++[sb h2,si hw]) [0,2,4,6,8,9,10,14,15,16,22,23,24] 5 kr (zao 8 3 (zad l++[(xCol f.name x.name).cells]) gY (he:=Zcv4) (hm:=Zcv4)))
  ·let p_3:List St:=p_2++[sg h2,si (e:=IntKind.i64.wrap ((↑(List.map Fr.cells p.frs).length:Int) - 1)) rfl]
   cases h3:(io:Int)==IntKind.i64.wrap ((↑(List.map Fr.cells p.frs).length:Int) - 1)
   ·exact Zih (ih (l++[xCol f.name x.name]) Zo zrQ Zo) fun R gY=>zab (wkl (p_3++[sb h3,si hw]) [0,2,4,6,8,9,10,14,15,16,22,23,24] 5 kr (zao 8 3 (zad l++[(xCol f.name x.name).cells]) gY (he:=Zcv4) (hm:=Zcv4)))
   ·exact Zih (ih (l++[xCol f.name x.name]++[xCol Zs0 x.name]) Zo zrQ Zo) fun R gY=>zab (wkl (p_3++[sb h3,sc (zjk Zs0 x.name),sqA (zad l++[(xCol f.name x.name).cells]) [(xCol Zs0 x.name).cells] ((zad l++[(xCol f.name x.name).cells]).length) 10 136,si hw]) [0,2,4,6,8,9,10,14,15,16,22,23,24] 5 kr (zao 8 3 (zad l++[(xCol f.name x.name).cells]++[(xCol Zs0 x.name).cells]) gY (he:=Zcv4) (hm:=Zcv4)))
 ·exact Zih (ih l Zo zrQ Zo) fun R gY=>zab (wkl (p_1++[sb h1,si hw]) [0,2,4,6,8,9,10,14,15,16,22,23,24] 5 kr gY)
theorem zfd (t0:Tp) (p:Pl) (w:Int) (hf:Few p.frs) (hc:∀ f∈p.frs,Few f.cols) (i:Nat) (l:List X) (hi:i<=(p.frs).length) (hI:l.length<=2000 * i/\zgj p.frs w l):∃ (l':List X),(l'.length<=2000 * (p.frs).length/\zgj p.frs w l')/\(decide ((((p.frs).length:Nat):Int) < (((p.frs.map Fr.cells).length:Nat):Int))=false)/\∀ R,Good E0 B.AA [.box t0.cells] (zuK t0 p w (p.frs).length l') R->Good E0 B.AA [.box t0.cells] (zuK t0 p w i l) R:=by
 have hk:=hi;revert i l;refine zlp ((p.frs).length) (fun i hlt ih l hi hI _=>?_)
 obtain ⟨x,hx,h0,hw⟩:=zlq (l:=p.frs) ((p.frs.map Fr.cells).length) hlt
 have hfx:=hc x (List.mem_of_getElem? hx);have hix:i<=1000:=by simp only [Few] at hf;omega
 obtain ⟨l1,q1,q1_1,g1⟩:=zfc t0 p w i x zng zng zng zng 0 l zng zng
 exact Zih (ih l1 Zo (by first|trivial|assumption|(simp;done)|omega|(simp;omega)|(simp at *;omega)) Zo) fun R gY=>zab (wkl [sb h0,se (zaf Fr.cells hx rfl)] [0,2,4,6,8,9,10,14,15,16,22,23,24] 5 kr (g1 _ (zab (wkl [sb q1_1,si hw] [0,2,4,6,8,14,15,16] 4 kr gY))))
theorem zyc (frs:List Fr) (w:Int):zgj frs w []:=fun _ h=>by cases h
theorem zcB (t:Tp) (p:Pl) (w:Int) (hf:Few p.frs) (hc:∀ f∈p.frs,Few f.cols):∃ (x:X) (ok:Bool) (t':Tp),(ok=true->ColT p.frs w x)/\zaa E0 S.AA [.p 0 0,p.av,iv w] [.box t.cells] (.tup [x.av,bv ok]) [.box t'.cells]:=by
 obtain ⟨l1,q1,q1_1,g1⟩:=zfd t p w znf znf 0 ([]) znf znf
 let p_1:List St:=[sb q1_1,sqx (l1.length=(zad l1).length)]
 cases h2:(l1.length:Int)==0
 ·obtain ⟨a3,t3,q3,c3⟩:=(zai t ((l1.length:Int)) znf)
  obtain ⟨x4,e4⟩:=zaY (l:=l1) (i:=(a3:Int).toNat) znf
  exact ⟨x4,true,t3,(by first|(simp;done)|exact fun _=>(‹_/\zgj _ _ _›).2 _ (List.mem_of_getElem? ‹_›)),wkcN At.AA [] [0,2,4,6,8,14,15,16] 3 [(.ot 8 Ty.Expr,4)] kr (g1 _ (zab (wkr (p_1++[sb h2,sqx (l1.length=(zad l1).length),sl [0] c3,sqx (OwnAt (zad l1) l1.length (a3:Int)),sx (.el x4.cells) (zBy (n:=l1.length) Zs e4)]) kr)))⟩
 ·exact ⟨X.mk 0 0 false (V.mk 0 0 Zs0) Zs0 Zs0 [] [],false,t,(by first|(simp;done)|exact fun _=>(‹_/\zgj _ _ _›).2 _ (List.mem_of_getElem? ‹_›)),wkcN At.AA [] [0,2,4,6,8,14,15,16] 3 [(.ot 8 Ty.Expr,4)] kr (g1 _ (zab (wkr (p_1++[sb h2]) kr)))⟩
section
variable {tbs : List Sch} {n : Nat} {frs : List Fr} {w : Int} {a b : X}
theorem zpA {a:Int} (h:-9223372036854775808 < a) (h2:a<=9223372036854775807):XT tbs (n+2) frs 1 (xNum a):=by
 unfold xNum
 cases hd:decide (a < 0)
 ·simp only [decide_eq_false_iff_not] at hd
  exact .lit (zbG ⟨by omega,by omega⟩) (.inr rfl) (fun _=>by show (0:Int)<=a;omega)
 ·simp only [decide_eq_true_eq] at hd
  have hw:IntKind.i64.wrap (-a)=-a:=by rw [IntKind.wrap_i64];omega
  exact .un (.inr ⟨rfl,rfl⟩) (.lit (zbG (zda _)) (.inr rfl) (fun _=>by show (0:Int)<=IntKind.i64.wrap (-a);omega))
theorem zvw {a:Int} (hw:(w==1)=true) (h:-9223372036854775808 < a) (h2:a<=9223372036854775807):XT tbs (n+2) frs w (xNum a):=by
 rw [show w=1 by simpa using hw];exact zpA h h2
theorem zp8 {v:V} (hw:(w==1)=false) (h:v.kind=zbI w/\v.Good):XT tbs (n+1) frs w (xLit v):=by
 have h1:w≠1:=by simpa using hw
 refine .lit h.2 ?_ fun h2=>?_
 ·rw [h.1];unfold zbI;split
  ·exact .inr rfl
  ·exact .inl rfl
 ·exfalso;rw [h.1] at h2;unfold zbI at h2;split at h2 <;> omega
theorem zn9 {op:Int} (hw:(w==1)=true) (ho:9<=op/\op<=13) (ha:XT tbs n frs w a) (hb:XT tbs n frs w b):XT tbs (n+1) frs w (xA 5 op false [a,b]):=by
 have e:w=1:=by simpa using hw
 subst e
 exact .bin (.inr (.inr ⟨ho.1,ho.2,rfl,rfl⟩)) ha hb
theorem xt_neg (hw:(w==1)=true) (ha:XT tbs n frs w a):XT tbs (n+1) frs w (xA 4 0 false [a]):=by
 have e:w=1:=by simpa using hw
 subst e
 exact .un (.inr ⟨rfl,rfl⟩) ha
theorem zzh {op w':Int} (ho:3<=op/\op<=8) (ha:XT tbs n frs w' a) (hb:XT tbs n frs w' b):XT tbs (n+1) frs 2 (xA 5 op false [a,b]):=.bin (.inr (.inl ⟨ho.1,ho.2,rfl⟩)) ha hb
theorem zzj {op:Int} (ho:1<=op/\op<=2) (ha:XT tbs n frs 2 a) (hb:XT tbs n frs 2 b):XT tbs (n+1) frs 2 (xA 5 op false [a,b]):=.bin (.inl ⟨ho.1,ho.2,rfl,rfl⟩) ha hb
theorem xt_qW {k:Int} (hw:(w==1)=true) (h:XT tbs n frs (bif k==8 then 2 else 1) a) (hk:(k==8)=false):XT tbs n frs w a:=by
 rw [show w=1 by simpa using hw];rw [hk] at h;exact h
theorem xt_2W (hw:(w==2)=true) (h:XT tbs n frs 2 a):XT tbs n frs w a:=by
 rw [show w=2 by simpa using hw];exact h
theorem opAt_r {k:Nat} (h:(k:Int) < 6):9<=opAt k/\opAt k<=13:=by
 have h:k=0\/k=1\/k=2\/k=3\/k=4\/k=5:=by omega
 rcases h with rfl|rfl|rfl|rfl|rfl|rfl <;> decide
theorem qryT_0 {k:Int} (h:8<=k/\k<=12) (h2:decide (10<=k)=false):QryT k (bif k==8 then 2 else 1) (k==8) 0:=by
 simp only [decide_eq_false_iff_not] at h2
 have:k=8\/k=9:=by omega
 rcases this with rfl|rfl
 ·exact .inl ⟨rfl,rfl,rfl,rfl⟩
 ·exact .inr (.inl ⟨rfl,rfl,rfl,rfl⟩)
theorem qryT_1 {k:Int} (h:8<=k/\k<=12) (h2:decide (10<=k)=true):QryT k (bif k==8 then 2 else 1) (k==8) 1:=by
 simp only [decide_eq_true_eq] at h2
 have:k=10\/k=11\/k=12:=by omega
 rcases this with rfl|rfl|rfl <;> exact .inr (.inr ⟨by omega,by omega,rfl,rfl,rfl⟩)
theorem xt0 {s:Sch} {w:Int}:∀ x∈([]:List X),XT tbs n (frIn frs s) w x:=fun x hx=>by cases hx
theorem xt1 {s:Sch} {w:Int} (h:XT tbs n (frIn frs s) w a):∀ x∈[a],XT tbs n (frIn frs s) w x:=fun x hx=>by simp only [List.mem_singleton] at hx;exact hx ▸ h
end
def PIn (p pi:Pl):Prop:=∃ (k:Nat) (s:Sch),p.tbs[k]?=some s/\pi=plIn p s
abbrev RecT (n m:Nat) (d:Int):Prop:=∀ (t:Tp) (p:Pl) (w:Int),p.OkN n->∃ (e:X) (t':Tp),XT p.tbs m p.frs w e/\zaa E0 S.Aa [.p 0 0,p.av,iv w,iv d] [.box t.cells] e.av [.box t'.cells]
theorem zr7 (t:Tp) (p:Pl) (m:Nat) (d:Int) (hf:∀ (t:Tp) (w:Int),∃ (e:X) (t':Tp),XT p.tbs m p.frs w e/\zaa E0 S.Aa [.p 0 0,p.av,iv w,iv (IntKind.i64.wrap (d - 1))] [.box t.cells] e.av [.box t'.cells]):∃ (x:X) (t':Tp),XT p.tbs (m+1) p.frs 2 x/\zaa E0 S.A9 [.p 0 0,p.av,iv d] [.box t.cells] x.av [.box t'.cells]:=by
 obtain ⟨a1,t1,q1,c1⟩:=(zai t 3 zmu)
 obtain ⟨a2,t2,q2,c2⟩:=(zai t1 6 zmu)
 let p_1:List St:=[sl [0] c1,si (e:=IntKind.i64.wrap (1+(a1:Int))) rfl,sl [0] c2]
 cases h3:(a2:Int)==0
 ·cases h4:(a2:Int)==1
  ·cases h5:(a2:Int)==2
   ·cases h6:(a2:Int)==3
    ·obtain ⟨a7,t7,q7,c7⟩:=(zai t2 6 zmu)
     obtain ⟨e8,t8,q8,c8⟩:=(hf t7 (IntKind.i64.wrap (1+(a1:Int))))
     obtain ⟨e9,t9,q9,c9⟩:=(hf t8 (IntKind.i64.wrap (1+(a1:Int))))
     exact ⟨xBin (IntKind.i64.wrap (3+(a7:Int))) e8 e9,t9,zpg,wk At.A9 (p_1++[sb h3,sb h4,sb h5,sb h6,sd [(7,[si (e:=IntKind.i64.wrap (d - 1)) rfl]),(13,[si (e:=IntKind.i64.wrap (d - 1)) rfl]),(1,[sl [0] c7]),(2,[si (e:=IntKind.i64.wrap (3+(a7:Int))) rfl]),(8,[sl [0] c8]),(14,[sl [0] c9]),(15,[sc (zbQ (IntKind.i64.wrap (3+(a7:Int))) e8 e9)])]]) kr⟩
    ·obtain ⟨e10,t10,q10,c10⟩:=(hf t2 1)
     obtain ⟨e11,t11,q11,c11⟩:=(hf t10 1)
     obtain ⟨e12,t12,q12,c12⟩:=(hf t11 1)
     exact ⟨X.mk 7 0 false (V.mk 0 0 Zs0) Zs0 Zs0 [e10,e11,e12] [],t12,zpg,(by (try simp only [zsl,xCol,xLit,xBin,xNeg]);exact wk At.A9 (p_1++[sb h3,sb h4,sb h5,sb h6,sd [(3,[si (e:=IntKind.i64.wrap (d - 1)) rfl]),(8,[si (e:=IntKind.i64.wrap (d - 1)) rfl]),(13,[si (e:=IntKind.i64.wrap (d - 1)) rfl]),(4,[sl [0] c10]),(9,[sl [0] c11]),(14,[sl [0] c12])]]) kr)⟩
   ·obtain ⟨b13,t13,c13⟩:=(zam t2 2 zmu)
    obtain ⟨e14,t14,q14,c14⟩:=(hf t13 (IntKind.i64.wrap (1+(a1:Int))))
    exact ⟨X.mk 6 0 b13 (V.mk 0 0 Zs0) Zs0 Zs0 [e14] [],t14,zpg,(by (try simp only [zsl,xCol,xLit,xBin,xNeg]);exact wk At.A9 (p_1++[sb h3,sb h4,sb h5,sd [(6,[si (e:=IntKind.i64.wrap (d - 1)) rfl]),(1,[sl [0] c13]),(7,[sl [0] c14])]]) kr)⟩
  ·obtain ⟨a15,t15,q15,c15⟩:=(zai t2 2 zmu)
   obtain ⟨e16,t16,q16,c16⟩:=(hf t15 2)
   obtain ⟨e17,t17,q17,c17⟩:=(hf t16 2)
   exact ⟨xBin (IntKind.i64.wrap (1+(a15:Int))) e16 e17,t17,zpg,wk At.A9 (p_1++[sb h3,sb h4,sd [(6,[si (e:=IntKind.i64.wrap (d - 1)) rfl]),(11,[si (e:=IntKind.i64.wrap (d - 1)) rfl]),(1,[sl [0] c15]),(2,[si (e:=IntKind.i64.wrap (1+(a15:Int))) rfl]),(7,[sl [0] c16]),(12,[sl [0] c17]),(13,[sc (zbQ (IntKind.i64.wrap (1+(a15:Int))) e16 e17)])]]) kr⟩
 ·obtain ⟨e18,t18,q18,c18⟩:=(hf t2 2)
  exact ⟨X.mk 3 0 false (V.mk 0 0 Zs0) Zs0 Zs0 [e18] [],t18,zpg,(by (try simp only [zsl,xCol,xLit,xBin,xNeg]);exact wk At.A9 (p_1++[sb h3,si (e:=IntKind.i64.wrap (d - 1)) rfl,sl [0] c18]) kr)⟩
theorem zzC (t:Tp) (p:Pl) (kind:Int) (m:Nat) (d:Int) (hk:8<=kind/\kind<=12) (hps:Pos (((p.tbs.map Sch.cells).length:Nat):Int)) (hpf:zac p.frs) (hf1:∀ (t:Tp) (pi:Pl) (w:Int),PIn p pi->∃ (e:X) (t':Tp),XT p.tbs m pi.frs w e/\zaa E0 S.Aa [.p 0 0,pi.av,iv w,iv (IntKind.i64.wrap (d - 1))] [.box t.cells] e.av [.box t'.cells]) (hf2:∀ (t:Tp) (pi:Pl) (w:Int),PIn p pi->∃ (e:X) (t':Tp),XT p.tbs m pi.frs w e/\zaa E0 S.Aa [.p 0 0,pi.av,iv w,iv (IntKind.i64.wrap (d - 2))] [.box t.cells] e.av [.box t'.cells]):∃ (x:X) (t':Tp),XT p.tbs (m+1) p.frs (bif kind==8 then 2 else 1) x/\zaa E0 S.BX [.p 0 0,p.av,iv kind,iv d] [.box t.cells] x.av [.box t'.cells]:=by
 obtain ⟨a1,t1,q1,c1⟩:=(zai t ((↑(List.map Sch.cells p.tbs).length:Int)) ziY)
 obtain ⟨x2,e2⟩:=zaY (l:=p.tbs) (i:=a1) ziY
 let p_1:List St:=[sdm [(6,[sl [0] c1]),(7,[se (zaf Sch.cells e2 rfl)])] 0 [(0,AV.p 0 0),(1,AV.agg [fsl p.frs,ZS p.tbs]),(2,iv kind),(3,iv d),(5,AV.p 1 0),(8,AV.p 2 0),(9,AV.p 3 0),(12,AV.p 1 1),(13,ZS p.tbs),(14,AV.p 0 0),(15,AV.p 1 1),(16,ZS p.tbs),(17,iv (↑(List.map Sch.cells p.tbs).length:Int)),(18,iv (a1:Int)),(19,AV.dp [sv x2.name,ZC x2.cols]),(20,AV.agg [sv x2.name,ZC x2.cols])] [Blk.box [AV.sl (List.map (fun n=>[iv n]) t1.l),iv (t1.pos:Int)],Blk.box [fsl p.frs,ZS p.tbs],Blk.box [iv 0,iv 0,AV.bl false,iv 0,iv 0,sv Zs0,sv Zs0,sv Zs0,AV.nl,AV.nl],Blk.box [sv x2.name,ZC x2.cols]],sc (zf9 p x2 ziY)]
 cases h3:decide (10<=kind)
 ·obtain ⟨b4,t4,c4⟩:=(zam t1 3 ziY)
  cases h5:!b4
  ·exact ⟨X.mk kind (0:Int) false (V.mk (0:Int) (0:Int) Zs0) Zs0 Zs0 [] [Qy.mk (kind==(8:Int)) [] x2.name []],t4,zrP,(by (try simp only [zsl,xCol,xLit,xBin,xNeg]);exact wk At.BX (p_1++[sb h3,sl [0] c4,sb h5]) kr)⟩
  ·obtain ⟨e6,t6,q6,c6⟩:=(hf1 t4 (plIn p x2) 2 ziY)
   exact ⟨X.mk kind (0:Int) false (V.mk (0:Int) (0:Int) Zs0) Zs0 Zs0 [] [Qy.mk (kind==(8:Int)) [] x2.name [e6]],t6,zrP,(by (try simp only [zsl,xCol,xLit,xBin,xNeg]);exact wk At.BX (p_1++[sb h3,sl [0] c4,sb h5,si (e:=IntKind.i64.wrap (d - 1)) rfl,sl [0] c6]) kr)⟩
 ·obtain ⟨e7,t7,q7,c7⟩:=(hf2 t1 (plIn p x2) 1 ziY)
  obtain ⟨b8,t8,c8⟩:=(zam t7 3 ziY)
  let p_2:List St:=p_1++[sb h3,si (e:=IntKind.i64.wrap (d - 2)) rfl,sl [0] c7,sl [0] c8]
  cases h9:!b8
  ·exact ⟨X.mk kind (0:Int) false (V.mk (0:Int) (0:Int) Zs0) Zs0 Zs0 [] [Qy.mk (kind==(8:Int)) [e7] x2.name []],t8,zrP,(by (try simp only [zsl,xCol,xLit,xBin,xNeg]);exact wk At.BX (p_2++[sb h9]) kr)⟩
  ·obtain ⟨e10,t10,q10,c10⟩:=(hf1 t8 (plIn p x2) 2 ziY)
   exact ⟨X.mk kind (0:Int) false (V.mk (0:Int) (0:Int) Zs0) Zs0 Zs0 [] [Qy.mk (kind==(8:Int)) [e7] x2.name [e10]],t10,zrP,(by (try simp only [zsl,xCol,xLit,xBin,xNeg]);exact wk At.BX (p_2++[sb h9,si (e:=IntKind.i64.wrap (d - 1)) rfl,sl [0] c10]) kr)⟩
theorem zr4 (t:Tp) (p:Pl) (w:Int) (d:Int) (hd:decide (d<=(0:Int))=true) (hd2:decide ((0:Int) < d)=false) (hcol:∀ (t:Tp) (w:Int),∃ (x:X) (ok:Bool) (t':Tp),(ok=true->ColT p.frs w x)/\zaa E0 S.AA [.p 0 0,p.av,iv w] [.box t.cells] (.tup [x.av,bv ok]) [.box t'.cells]):∃ (x:X) (t':Tp),XT p.tbs 2 p.frs w x/\zaa E0 S.Aa [.p 0 0,p.av,iv w,iv d] [.box t.cells] x.av [.box t'.cells]:=by
 obtain ⟨a1,t1,q1,c1⟩:=(zai t 6 zd1)
 cases h2:decide (4<=(a1:Int))
 ·obtain ⟨x3,ok3,t3,q3,c3⟩:=(hcol t1 w)
  rcases (Bool.eq_false_or_eq_true ok3).symm with h4|h4
  ·obtain ⟨b5,t5,c5⟩:=(zam t3 8 zd1)
   let p_1:List St:=[sl [0] c1,sb h2,sb hd,sl [0] c3,sb h4,sl [0] c5]
   rcases (Bool.eq_false_or_eq_true b5).symm with h6|h6
   ·cases h7:w==1
    ·obtain ⟨v8,t8,q8,c8⟩:=(zaS t5 w)
     exact ⟨xLit v8,t8,zdK,wk At.Aa (p_1++[sb h6,sb h7,sl [0] c8,sc (zaP v8)]) kr⟩
    ·obtain ⟨a9,t9,q9,c9⟩:=(za2 t5)
     exact ⟨xNum a9,t9,zdK,wk At.Aa (p_1++[sb h6,sb h7,sl [0] c9,sc (zbR a9 zd1)]) kr⟩
   ·exact ⟨xLit (V.mk 0 0 Zs0),t5,zdK,wk At.Aa (p_1++[sb h6,sc (zaP (V.mk 0 0 Zs0))]) kr⟩
  ·obtain ⟨b10,t10,c10⟩:=(zam t3 3 zd1)
   let p_2:List St:=[sl [0] c1,sb h2,sb hd,sl [0] c3,sg h4,sl [0] c10]
   cases h11:!b10
   ·obtain ⟨b12,t12,c12⟩:=(zam t10 8 zd1)
    rcases (Bool.eq_false_or_eq_true b12).symm with h13|h13
    ·cases h14:w==1
     ·obtain ⟨v15,t15,q15,c15⟩:=(zaS t12 w)
      exact ⟨xLit v15,t15,zdK,wk At.Aa (p_2++[sb h11,sl [0] c12,sb h13,sb h14,sl [0] c15,sc (zaP v15)]) kr⟩
     ·obtain ⟨a16,t16,q16,c16⟩:=(za2 t12)
      exact ⟨xNum a16,t16,zdK,wk At.Aa (p_2++[sb h11,sl [0] c12,sb h13,sb h14,sl [0] c16,sc (zbR a16 zd1)]) kr⟩
    ·exact ⟨xLit (V.mk 0 0 Zs0),t12,zdK,wk At.Aa (p_2++[sb h11,sl [0] c12,sb h13,sc (zaP (V.mk 0 0 Zs0))]) kr⟩
   ·exact ⟨x3,t10,zdK,wk At.Aa (p_2++[sb h11]) kr⟩
 ·obtain ⟨x17,ok17,t17,q17,c17⟩:=(hcol t1 w)
  let p_3:List St:=[sl [0] c1,sg h2,sb hd2,sb hd,sl [0] c17]
  rcases (Bool.eq_false_or_eq_true ok17).symm with h18|h18
  ·obtain ⟨b19,t19,c19⟩:=(zam t17 8 zd1)
   rcases (Bool.eq_false_or_eq_true b19).symm with h20|h20
   ·cases h21:w==1
    ·obtain ⟨v22,t22,q22,c22⟩:=(zaS t19 w)
     exact ⟨xLit v22,t22,zdK,wk At.Aa (p_3++[sb h18,sl [0] c19,sb h20,sb h21,sl [0] c22,sc (zaP v22)]) kr⟩
    ·obtain ⟨a23,t23,q23,c23⟩:=(za2 t19)
     exact ⟨xNum a23,t23,zdK,wk At.Aa (p_3++[sb h18,sl [0] c19,sb h20,sb h21,sl [0] c23,sc (zbR a23 zd1)]) kr⟩
   ·exact ⟨xLit (V.mk 0 0 Zs0),t19,zdK,wk At.Aa (p_3++[sb h18,sl [0] c19,sb h20,sc (zaP (V.mk 0 0 Zs0))]) kr⟩
  ·obtain ⟨b24,t24,c24⟩:=(zam t17 3 zd1)
   cases h25:!b24
   ·obtain ⟨b26,t26,c26⟩:=(zam t24 8 zd1)
    let p_4:List St:=p_3++[sg h18,sl [0] c24,sb h25,sl [0] c26]
    rcases (Bool.eq_false_or_eq_true b26).symm with h27|h27
    ·cases h28:w==1
     ·obtain ⟨v29,t29,q29,c29⟩:=(zaS t26 w)
      exact ⟨xLit v29,t29,zdK,wk At.Aa (p_4++[sb h27,sb h28,sl [0] c29,sc (zaP v29)]) kr⟩
     ·obtain ⟨a30,t30,q30,c30⟩:=(za2 t26)
      exact ⟨xNum a30,t30,zdK,wk At.Aa (p_4++[sb h27,sb h28,sl [0] c30,sc (zbR a30 zd1)]) kr⟩
    ·exact ⟨xLit (V.mk 0 0 Zs0),t26,zdK,wk At.Aa (p_4++[sb h27,sc (zaP (V.mk 0 0 Zs0))]) kr⟩
   ·exact ⟨x17,t24,zdK,wk At.Aa (p_3++[sg h18,sl [0] c24,sb h25]) kr⟩
theorem zzw (t:Tp) (p:Pl) (w:Int) (d:Int) (m:Nat) (hd:decide (d<=(0:Int))=false) (hd2:decide ((0:Int) < d)=true) (hcol:∀ (t:Tp) (w:Int),∃ (x:X) (ok:Bool) (t':Tp),(ok=true->ColT p.frs w x)/\zaa E0 S.AA [.p 0 0,p.av,iv w] [.box t.cells] (.tup [x.av,bv ok]) [.box t'.cells]) (hf1:∀ (t:Tp) (w:Int),∃ (e:X) (t':Tp),XT p.tbs (m+1) p.frs w e/\zaa E0 S.Aa [.p 0 0,p.av,iv w,iv (IntKind.i64.wrap (d - 1))] [.box t.cells] e.av [.box t'.cells]) (hq:∀ (t:Tp) (k:Int),8<=k/\k<=12->∃ (e:X) (t':Tp),XT p.tbs (m+2) p.frs (bif k==8 then 2 else 1) e/\zaa E0 S.BX [.p 0 0,p.av,iv k,iv d] [.box t.cells] e.av [.box t'.cells]) (hcd:∀ (t:Tp),∃ (e:X) (t':Tp),XT p.tbs (m+2) p.frs 2 e/\zaa E0 S.A9 [.p 0 0,p.av,iv d] [.box t.cells] e.av [.box t'.cells]):∃ (x:X) (t':Tp),XT p.tbs (m+2) p.frs w x/\zaa E0 S.Aa [.p 0 0,p.av,iv w,iv d] [.box t.cells] x.av [.box t'.cells]:=by
 obtain ⟨a1,t1,q1,c1⟩:=(zai t 6 za0)
 cases h2:decide (4<=(a1:Int))
 ·cases h3:decide (3<=(a1:Int))
  ·cases h4:w==1
   ·cases h5:w==2
    ·obtain ⟨v6,t6,q6,c6⟩:=(zaS t1 w)
     exact ⟨xLit v6,t6,za3,wk At.Aa [sl [0] c1,sb h2,sg hd,sb h3,sb h4,sb h5,sb h4,sb h5,sl [0] c6,sc (zaP v6)] kr⟩
    ·let p_1:List St:=[sl [0] c1,sb h2,sg hd,sb h3,sb h4,sg h5]
     cases h7:(a1:Int)==0
     ·obtain ⟨e8,t8,q8,c8⟩:=(hcd t1)
      exact ⟨e8,t8,za3,wk At.Aa (p_1++[sb h7,sb h4,sb h5,sl [0] c8]) kr⟩
     ·cases h9:decide (0 < (↑(List.map Sch.cells p.tbs).length:Int))
      ·obtain ⟨e10,t10,q10,c10⟩:=(hcd t1)
       exact ⟨e10,t10,za3,wk At.Aa (p_1++[sg h7,sb h9,sb h4,sb h5,sl [0] c10]) kr⟩
      ·obtain ⟨b11,t11,c11⟩:=(zam t1 2 za0)
       rcases (Bool.eq_false_or_eq_true b11).symm with h12|h12
       ·obtain ⟨e13,t13,q13,c13⟩:=(hcd t11)
        exact ⟨e13,t13,za3,wk At.Aa (p_1++[sg h7,sg h9,sl [0] c11,sb h12,sb h4,sb h5,sl [0] c13]) kr⟩
       ·obtain ⟨e14,t14,q14,c14⟩:=(hq t11 8 za0)
        exact ⟨e14,t14,za3,wk At.Aa (p_1++[sg h7,sg h9,sl [0] c11,sb h12,sl [0] c14]) kr⟩
   ·cases h15:(a1:Int)==0
    ·let p_2:List St:=[sl [0] c1,sb h2,sg hd,sb h3,sg h4,sb h15]
     cases h16:w==2
     ·obtain ⟨b17,t17,c17⟩:=(zam t1 6 za0)
      rcases (Bool.eq_false_or_eq_true b17).symm with h18|h18
      ·obtain ⟨a19,t19,q19,c19⟩:=(zai t17 6 za0)
       obtain ⟨e20,t20,q20,c20⟩:=(hf1 t19 w)
       obtain ⟨e21,t21,q21,c21⟩:=(hf1 t20 w)
       exact ⟨xBin (opAt a19) e20 e21,t21,za3,wk At.Aa (p_2++[sb h16,sb h4,sl [0] c17,sb h18,sd [(9,[si (e:=IntKind.i64.wrap (d - 1)) rfl]),(15,[si (e:=IntKind.i64.wrap (d - 1)) rfl]),(2,[sl [0] c19]),(3,[se (zgF a19 za0)]),(10,[sl [0] c20]),(16,[sl [0] c21]),(17,[sc (zbQ (opAt a19) e20 e21)])]]) kr⟩
      ·obtain ⟨e22,t22,q22,c22⟩:=(hf1 t17 w)
       exact ⟨X.mk 4 0 false (V.mk 0 0 Zs0) Zs0 Zs0 [e22] [],t22,za3,(by (try simp only [zsl,xCol,xLit,xBin,xNeg]);exact wk At.Aa (p_2++[sb h16,sb h4,sl [0] c17,sb h18,si (e:=IntKind.i64.wrap (d - 1)) rfl,sl [0] c22]) kr)⟩
     ·obtain ⟨b23,t23,c23⟩:=(zam t1 6 za0)
      rcases (Bool.eq_false_or_eq_true b23).symm with h24|h24
      ·obtain ⟨a25,t25,q25,c25⟩:=(zai t23 6 za0)
       obtain ⟨e26,t26,q26,c26⟩:=(hf1 t25 w)
       obtain ⟨e27,t27,q27,c27⟩:=(hf1 t26 w)
       exact ⟨xBin (opAt a25) e26 e27,t27,za3,wk At.Aa (p_2++[sg h16,sb h15,sb h4,sl [0] c23,sb h24,sd [(9,[si (e:=IntKind.i64.wrap (d - 1)) rfl]),(15,[si (e:=IntKind.i64.wrap (d - 1)) rfl]),(2,[sl [0] c25]),(3,[se (zgF a25 za0)]),(10,[sl [0] c26]),(16,[sl [0] c27]),(17,[sc (zbQ (opAt a25) e26 e27)])]]) kr⟩
      ·obtain ⟨e28,t28,q28,c28⟩:=(hf1 t23 w)
       exact ⟨X.mk 4 0 false (V.mk 0 0 Zs0) Zs0 Zs0 [e28] [],t28,za3,(by (try simp only [zsl,xCol,xLit,xBin,xNeg]);exact wk At.Aa (p_2++[sg h16,sb h15,sb h4,sl [0] c23,sb h24,si (e:=IntKind.i64.wrap (d - 1)) rfl,sl [0] c28]) kr)⟩
    ·let p_3:List St:=[sl [0] c1,sb h2,sg hd,sb h3,sg h4,sg h15]
     cases h29:decide (0 < (↑(List.map Sch.cells p.tbs).length:Int))
     ·cases h30:w==2
      ·obtain ⟨b31,t31,c31⟩:=(zam t1 6 za0)
       rcases (Bool.eq_false_or_eq_true b31).symm with h32|h32
       ·obtain ⟨a33,t33,q33,c33⟩:=(zai t31 6 za0)
        obtain ⟨e34,t34,q34,c34⟩:=(hf1 t33 w)
        obtain ⟨e35,t35,q35,c35⟩:=(hf1 t34 w)
        exact ⟨xBin (opAt a33) e34 e35,t35,za3,wk At.Aa (p_3++[sb h29,sb h30,sb h4,sl [0] c31,sb h32,sd [(9,[si (e:=IntKind.i64.wrap (d - 1)) rfl]),(15,[si (e:=IntKind.i64.wrap (d - 1)) rfl]),(2,[sl [0] c33]),(3,[se (zgF a33 za0)]),(10,[sl [0] c34]),(16,[sl [0] c35]),(17,[sc (zbQ (opAt a33) e34 e35)])]]) kr⟩
       ·obtain ⟨e36,t36,q36,c36⟩:=(hf1 t31 w)
        exact ⟨X.mk 4 0 false (V.mk 0 0 Zs0) Zs0 Zs0 [e36] [],t36,za3,(by (try simp only [zsl,xCol,xLit,xBin,xNeg]);exact wk At.Aa (p_3++[sb h29,sb h30,sb h4,sl [0] c31,sb h32,si (e:=IntKind.i64.wrap (d - 1)) rfl,sl [0] c36]) kr)⟩
      ·obtain ⟨b37,t37,c37⟩:=(zam t1 6 za0)
       let p_4:List St:=p_3++[sb h29,sg h30,sg h15,sb h29,sb h4,sl [0] c37]
       rcases (Bool.eq_false_or_eq_true b37).symm with h38|h38
       ·obtain ⟨a39,t39,q39,c39⟩:=(zai t37 6 za0)
        obtain ⟨e40,t40,q40,c40⟩:=(hf1 t39 w)
        obtain ⟨e41,t41,q41,c41⟩:=(hf1 t40 w)
        exact ⟨xBin (opAt a39) e40 e41,t41,za3,wk At.Aa (p_4++[sb h38,sd [(9,[si (e:=IntKind.i64.wrap (d - 1)) rfl]),(15,[si (e:=IntKind.i64.wrap (d - 1)) rfl]),(2,[sl [0] c39]),(3,[se (zgF a39 za0)]),(10,[sl [0] c40]),(16,[sl [0] c41]),(17,[sc (zbQ (opAt a39) e40 e41)])]]) kr⟩
       ·obtain ⟨e42,t42,q42,c42⟩:=(hf1 t37 w)
        exact ⟨X.mk 4 0 false (V.mk 0 0 Zs0) Zs0 Zs0 [e42] [],t42,za3,(by (try simp only [zsl,xCol,xLit,xBin,xNeg]);exact wk At.Aa (p_4++[sb h38,si (e:=IntKind.i64.wrap (d - 1)) rfl,sl [0] c42]) kr)⟩
     ·obtain ⟨a43,t43,q43,c43⟩:=(zai t1 4 za0)
      obtain ⟨e44,t44,q44,c44⟩:=(hq t43 (IntKind.i64.wrap (9+(a43:Int))) za0)
      exact ⟨e44,t44,za3,wk At.Aa (p_3++[sb h29,sd [(3,[sl [0] c43]),(4,[si (e:=IntKind.i64.wrap (9+(a43:Int))) rfl]),(6,[sl [0] c44])]]) kr⟩
  ·obtain ⟨x45,ok45,t45,q45,c45⟩:=(hcol t1 w)
   let p_5:List St:=[sl [0] c1,sb h2,sg hd,sb h3,sl [0] c45]
   rcases (Bool.eq_false_or_eq_true ok45).symm with h46|h46
   ·obtain ⟨b47,t47,c47⟩:=(zam t45 8 za0)
    rcases (Bool.eq_false_or_eq_true b47).symm with h48|h48
    ·cases h49:w==1
     ·obtain ⟨v50,t50,q50,c50⟩:=(zaS t47 w)
      exact ⟨xLit v50,t50,za3,wk At.Aa (p_5++[sb h46,sl [0] c47,sb h48,sb h49,sl [0] c50,sc (zaP v50)]) kr⟩
     ·obtain ⟨a51,t51,q51,c51⟩:=(za2 t47)
      exact ⟨xNum a51,t51,za3,wk At.Aa (p_5++[sb h46,sl [0] c47,sb h48,sb h49,sl [0] c51,sc (zbR a51 za0)]) kr⟩
    ·exact ⟨xLit (V.mk 0 0 Zs0),t47,za3,wk At.Aa (p_5++[sb h46,sl [0] c47,sb h48,sc (zaP (V.mk 0 0 Zs0))]) kr⟩
   ·obtain ⟨b52,t52,c52⟩:=(zam t45 3 za0)
    cases h53:!b52
    ·obtain ⟨b54,t54,c54⟩:=(zam t52 8 za0)
     let p_6:List St:=p_5++[sg h46,sl [0] c52,sb h53,sl [0] c54]
     rcases (Bool.eq_false_or_eq_true b54).symm with h55|h55
     ·cases h56:w==1
      ·obtain ⟨v57,t57,q57,c57⟩:=(zaS t54 w)
       exact ⟨xLit v57,t57,za3,wk At.Aa (p_6++[sb h55,sb h56,sl [0] c57,sc (zaP v57)]) kr⟩
      ·obtain ⟨a58,t58,q58,c58⟩:=(za2 t54)
       exact ⟨xNum a58,t58,za3,wk At.Aa (p_6++[sb h55,sb h56,sl [0] c58,sc (zbR a58 za0)]) kr⟩
     ·exact ⟨xLit (V.mk 0 0 Zs0),t54,za3,wk At.Aa (p_6++[sb h55,sc (zaP (V.mk 0 0 Zs0))]) kr⟩
    ·exact ⟨x45,t52,za3,wk At.Aa (p_5++[sg h46,sl [0] c52,sb h53]) kr⟩
 ·obtain ⟨a59,t59,q59,c59⟩:=(zai t1 4 za0)
  let p_7:List St:=[sl [0] c1,sg h2,sb hd2,sl [0] c59,sg hd]
  cases h60:decide (3<=(a59:Int))
  ·cases h61:w==1
   ·cases h62:w==2
    ·obtain ⟨v63,t63,q63,c63⟩:=(zaS t59 w)
     exact ⟨xLit v63,t63,za3,wk At.Aa (p_7++[sb h60,sb h61,sb h62,sb h61,sb h62,sl [0] c63,sc (zaP v63)]) kr⟩
    ·cases h64:(a59:Int)==0
     ·obtain ⟨e65,t65,q65,c65⟩:=(hcd t59)
      exact ⟨e65,t65,za3,wk At.Aa (p_7++[sb h60,sb h61,sg h62,sb h64,sb h61,sb h62,sl [0] c65]) kr⟩
     ·cases h66:decide (0 < (↑(List.map Sch.cells p.tbs).length:Int))
      ·obtain ⟨e67,t67,q67,c67⟩:=(hcd t59)
       exact ⟨e67,t67,za3,wk At.Aa (p_7++[sb h60,sb h61,sg h62,sg h64,sb h66,sb h61,sb h62,sl [0] c67]) kr⟩
      ·obtain ⟨b68,t68,c68⟩:=(zam t59 2 za0)
       let p_8:List St:=p_7++[sb h60,sb h61,sg h62,sg h64,sg h66,sl [0] c68]
       rcases (Bool.eq_false_or_eq_true b68).symm with h69|h69
       ·obtain ⟨e70,t70,q70,c70⟩:=(hcd t68)
        exact ⟨e70,t70,za3,wk At.Aa (p_8++[sb h69,sb h61,sb h62,sl [0] c70]) kr⟩
       ·obtain ⟨e71,t71,q71,c71⟩:=(hq t68 8 za0)
        exact ⟨e71,t71,za3,wk At.Aa (p_8++[sb h69,sl [0] c71]) kr⟩
   ·cases h72:(a59:Int)==0
    ·cases h73:w==2
     ·obtain ⟨b74,t74,c74⟩:=(zam t59 6 za0)
      let p_9:List St:=p_7++[sb h60,sg h61,sb h72,sb h73,sb h61,sl [0] c74]
      rcases (Bool.eq_false_or_eq_true b74).symm with h75|h75
      ·obtain ⟨a76,t76,q76,c76⟩:=(zai t74 6 za0)
       obtain ⟨e77,t77,q77,c77⟩:=(hf1 t76 w)
       obtain ⟨e78,t78,q78,c78⟩:=(hf1 t77 w)
       exact ⟨xBin (opAt a76) e77 e78,t78,za3,wk At.Aa (p_9++[sb h75,sd [(9,[si (e:=IntKind.i64.wrap (d - 1)) rfl]),(15,[si (e:=IntKind.i64.wrap (d - 1)) rfl]),(2,[sl [0] c76]),(3,[se (zgF a76 za0)]),(10,[sl [0] c77]),(16,[sl [0] c78]),(17,[sc (zbQ (opAt a76) e77 e78)])]]) kr⟩
      ·obtain ⟨e79,t79,q79,c79⟩:=(hf1 t74 w)
       exact ⟨X.mk 4 0 false (V.mk 0 0 Zs0) Zs0 Zs0 [e79] [],t79,za3,(by (try simp only [zsl,xCol,xLit,xBin,xNeg]);exact wk At.Aa (p_9++[sb h75,si (e:=IntKind.i64.wrap (d - 1)) rfl,sl [0] c79]) kr)⟩
     ·obtain ⟨b80,t80,c80⟩:=(zam t59 6 za0)
      let p_10:List St:=p_7++[sb h60,sg h61,sb h72,sg h73,sb h72,sb h61,sl [0] c80]
      rcases (Bool.eq_false_or_eq_true b80).symm with h81|h81
      ·obtain ⟨a82,t82,q82,c82⟩:=(zai t80 6 za0)
       obtain ⟨e83,t83,q83,c83⟩:=(hf1 t82 w)
       obtain ⟨e84,t84,q84,c84⟩:=(hf1 t83 w)
       exact ⟨xBin (opAt a82) e83 e84,t84,za3,wk At.Aa (p_10++[sb h81,sd [(9,[si (e:=IntKind.i64.wrap (d - 1)) rfl]),(15,[si (e:=IntKind.i64.wrap (d - 1)) rfl]),(2,[sl [0] c82]),(3,[se (zgF a82 za0)]),(10,[sl [0] c83]),(16,[sl [0] c84]),(17,[sc (zbQ (opAt a82) e83 e84)])]]) kr⟩
      ·obtain ⟨e85,t85,q85,c85⟩:=(hf1 t80 w)
       exact ⟨X.mk 4 0 false (V.mk 0 0 Zs0) Zs0 Zs0 [e85] [],t85,za3,(by (try simp only [zsl,xCol,xLit,xBin,xNeg]);exact wk At.Aa (p_10++[sb h81,si (e:=IntKind.i64.wrap (d - 1)) rfl,sl [0] c85]) kr)⟩
    ·cases h86:decide (0 < (↑(List.map Sch.cells p.tbs).length:Int))
     ·cases h87:w==2
      ·obtain ⟨b88,t88,c88⟩:=(zam t59 6 za0)
       let p_11:List St:=p_7++[sb h60,sg h61,sg h72,sb h86,sb h87,sb h61,sl [0] c88]
       rcases (Bool.eq_false_or_eq_true b88).symm with h89|h89
       ·obtain ⟨a90,t90,q90,c90⟩:=(zai t88 6 za0)
        obtain ⟨e91,t91,q91,c91⟩:=(hf1 t90 w)
        obtain ⟨e92,t92,q92,c92⟩:=(hf1 t91 w)
        exact ⟨xBin (opAt a90) e91 e92,t92,za3,wk At.Aa (p_11++[sb h89,sd [(9,[si (e:=IntKind.i64.wrap (d - 1)) rfl]),(15,[si (e:=IntKind.i64.wrap (d - 1)) rfl]),(2,[sl [0] c90]),(3,[se (zgF a90 za0)]),(10,[sl [0] c91]),(16,[sl [0] c92]),(17,[sc (zbQ (opAt a90) e91 e92)])]]) kr⟩
       ·obtain ⟨e93,t93,q93,c93⟩:=(hf1 t88 w)
        exact ⟨X.mk 4 0 false (V.mk 0 0 Zs0) Zs0 Zs0 [e93] [],t93,za3,(by (try simp only [zsl,xCol,xLit,xBin,xNeg]);exact wk At.Aa (p_11++[sb h89,si (e:=IntKind.i64.wrap (d - 1)) rfl,sl [0] c93]) kr)⟩
      ·obtain ⟨b94,t94,c94⟩:=(zam t59 6 za0)
       let p_12:List St:=p_7++[sb h60,sg h61,sg h72,sb h86,sg h87,sg h72,sb h86,sb h61,sl [0] c94]
       rcases (Bool.eq_false_or_eq_true b94).symm with h95|h95
       ·obtain ⟨a96,t96,q96,c96⟩:=(zai t94 6 za0)
        obtain ⟨e97,t97,q97,c97⟩:=(hf1 t96 w)
        obtain ⟨e98,t98,q98,c98⟩:=(hf1 t97 w)
        exact ⟨xBin (opAt a96) e97 e98,t98,za3,wk At.Aa (p_12++[sb h95,sd [(9,[si (e:=IntKind.i64.wrap (d - 1)) rfl]),(15,[si (e:=IntKind.i64.wrap (d - 1)) rfl]),(2,[sl [0] c96]),(3,[se (zgF a96 za0)]),(10,[sl [0] c97]),(16,[sl [0] c98]),(17,[sc (zbQ (opAt a96) e97 e98)])]]) kr⟩
       ·obtain ⟨e99,t99,q99,c99⟩:=(hf1 t94 w)
        exact ⟨X.mk 4 0 false (V.mk 0 0 Zs0) Zs0 Zs0 [e99] [],t99,za3,(by (try simp only [zsl,xCol,xLit,xBin,xNeg]);exact wk At.Aa (p_12++[sb h95,si (e:=IntKind.i64.wrap (d - 1)) rfl,sl [0] c99]) kr)⟩
     ·obtain ⟨a100,t100,q100,c100⟩:=(zai t59 4 za0)
      obtain ⟨e101,t101,q101,c101⟩:=(hq t100 (IntKind.i64.wrap (9+(a100:Int))) za0)
      exact ⟨e101,t101,za3,wk At.Aa (p_7++[sb h60,sg h61,sg h72,sb h86,sd [(3,[sl [0] c100]),(4,[si (e:=IntKind.i64.wrap (9+(a100:Int))) rfl]),(6,[sl [0] c101])]]) kr⟩
  ·obtain ⟨x102,ok102,t102,q102,c102⟩:=(hcol t59 w)
   rcases (Bool.eq_false_or_eq_true ok102).symm with h103|h103
   ·obtain ⟨b104,t104,c104⟩:=(zam t102 8 za0)
    let p_13:List St:=p_7++[sb h60,sl [0] c102,sb h103,sl [0] c104]
    rcases (Bool.eq_false_or_eq_true b104).symm with h105|h105
    ·cases h106:w==1
     ·obtain ⟨v107,t107,q107,c107⟩:=(zaS t104 w)
      exact ⟨xLit v107,t107,za3,wk At.Aa (p_13++[sb h105,sb h106,sl [0] c107,sc (zaP v107)]) kr⟩
     ·obtain ⟨a108,t108,q108,c108⟩:=(za2 t104)
      exact ⟨xNum a108,t108,za3,wk At.Aa (p_13++[sb h105,sb h106,sl [0] c108,sc (zbR a108 za0)]) kr⟩
    ·exact ⟨xLit (V.mk 0 0 Zs0),t104,za3,wk At.Aa (p_13++[sb h105,sc (zaP (V.mk 0 0 Zs0))]) kr⟩
   ·obtain ⟨b109,t109,c109⟩:=(zam t102 3 za0)
    let p_14:List St:=p_7++[sb h60,sl [0] c102,sg h103,sl [0] c109]
    cases h110:!b109
    ·obtain ⟨b111,t111,c111⟩:=(zam t109 8 za0)
     rcases (Bool.eq_false_or_eq_true b111).symm with h112|h112
     ·cases h113:w==1
      ·obtain ⟨v114,t114,q114,c114⟩:=(zaS t111 w)
       exact ⟨xLit v114,t114,za3,wk At.Aa (p_14++[sb h110,sl [0] c111,sb h112,sb h113,sl [0] c114,sc (zaP v114)]) kr⟩
      ·obtain ⟨a115,t115,q115,c115⟩:=(za2 t111)
       exact ⟨xNum a115,t115,za3,wk At.Aa (p_14++[sb h110,sl [0] c111,sb h112,sb h113,sl [0] c115,sc (zbR a115 za0)]) kr⟩
     ·exact ⟨xLit (V.mk 0 0 Zs0),t111,za3,wk At.Aa (p_14++[sb h110,sl [0] c111,sb h112,sc (zaP (V.mk 0 0 Zs0))]) kr⟩
    ·exact ⟨x102,t109,za3,wk At.Aa (p_14++[sb h110]) kr⟩
theorem zpE:∀ (n:Nat),n<=500->RecT n (n+2) (dpt n)
 | 0,_,t,p,w,hp=>zr4 t p w _ Zd Zd fun t w=>zcB t p w hp.few1 hp.cols
 | 1,_,t,p,w,hp=>by
  obtain ⟨e,t',h,hc⟩:=zr4 t p w (dpt 1) Zd Zd fun t w=>zcB t p w hp.few1 hp.cols
  exact ⟨e,t',h.mono,hc⟩
 | n+2,hn,t,p,w,hp=>by
  have h1:=zpE (n+1) Zo
  have h2:=zpE n Zo
  have e1:=dpt1 n Zo
  have e2:=dpt2 n Zo
  have hf1:RecT (n+1) (n+3) (IntKind.i64.wrap (dpt (n+2) - 1)):=by rw [e1];exact h1
  have hf2:RecT (n+1) (n+3) (IntKind.i64.wrap (dpt (n+2) - 2)):=by
   rw [e2]
   intro t p w hp
   obtain ⟨e,t',h,hc⟩:=h2 t p w hp.less
   exact ⟨e,t',h.mono,hc⟩
  exact zzw t p w (dpt (n+2)) (n+2) (by simp only [dpt];simp;omega) (by simp only [dpt];simp;omega) (fun t w=>zcB t p w hp.few1 hp.cols) (fun t w=>hf1 t p w hp.less)
   (fun t k hk=>zzC t p k (n+3) (dpt (n+2)) hk hp.pos hp.short (fun t pi w ⟨k,s,hs,e⟩=>e ▸ hf1 t (plIn p s) w (hp.ins hs)) (fun t pi w ⟨k,s,hs,e⟩=>e ▸ hf2 t (plIn p s) w (hp.ins hs))) (fun t=>zr7 t p (n+3) (dpt (n+2)) (fun t w=>hf1 t p w hp.less))
theorem zeJ {p:Prop} (h:p:=by first|assumption|exact hp.pos|omega|exact hp.ins ‹_›|(simp [plIn];done)|(simp at *;omega)|exact hp.short|exact zqg):p:=h
theorem zph {p:Prop} (h:p:=by first|assumption|omega|(simp only [Few,List.length_drop,List.length_take];omega)|exact fun f hf=>hp.cols f (List.mem_of_mem_take (List.mem_of_mem_drop hf))|(simp;done)):p:=h
theorem zxm {p:Prop} (h:p:=by first|exact zfg hI hx ‹_›|exact zfg hI hx (cpKey hkey hx ‹_› ((by assumption:_=true->ColT _ _ _) ‹_›) Zs Zo Zo hM)):p:=h
structure Deep (M:Nat):Prop where
 ge:3<=M
def zdd (tbs:List Sch) (M:Nat) (frs:List Fr) (cols:List Col) (i:Nat) (its:List X):Prop:=its.length=i/\∀ (j:Nat) (c:Col) (x:X),cols[j]?=some c->its[j]?=some x->XT tbs M frs c.type x
section
variable {tbs : List Sch} {M : Nat} {frs : List Fr} {cols : List Col} {i : Nat} {its : List X} {c : Col} {e e0 : X}
theorem zqg:zdd tbs M frs cols 0 []:=⟨rfl,fun j c x _ h=>by simp at h⟩
theorem zfg (h:zdd tbs M frs cols i its) (hx:cols[i]?=some c) (he:XT tbs M frs c.type e):zdd tbs M frs cols (i+1) (its++[e]):=by
 refine ⟨by simp [h.1],fun j c' x hc hj=>?_⟩
 by_cases hk:j < its.length
 ·rw [List.getElem?_append_left hk] at hj
  exact h.2 j c' x hc hj
 ·have h1:=h.1
  have h2:=zbY hj
  simp only [List.length_append,List.length_cons,List.length_nil] at h2
  have:j=i:=by omega
  subst this
  rw [hx] at hc;cases hc
  rw [List.getElem?_append_right Zo] at hj
  have h3:j - its.length=0:=by omega
  rw [h3] at hj
  simp only [List.getElem?_cons_zero,Option.some.injEq] at hj
  exact hj ▸ he
theorem zx6 {k:Nat} {w:Int} {x:X} (h:ColT (frs.drop k) w x):ColT frs w x:=by
 obtain ⟨j,f,c,a,h1,h2,h3,h4,h5⟩:=h
 rw [List.getElem?_drop] at h1
 refine ⟨k+j,f,c,a,h1,h2,h3,h4,h5.imp id fun ⟨q1,q2,q3⟩=>⟨q1,q2,?_⟩⟩
 rw [List.length_drop] at q3;have:=zbY h1;omega
theorem zx7 {k n:Nat} {w:Int} {x:X} (hn:n=frs.length) (h:ColT ((frs.take n).drop k) w x):ColT frs w x:=by
 rw [List.take_of_length_le Zo] at h;exact zx6 h
theorem cpKey {s:Sch} {x:X} {n k:Nat} {a:Int} (hs:∀ c∈s.cols,c.key=true->c.type=1) (hx:s.cols[i]?=some c) (hk:c.key=true) (hc:ColT ((frs.take n).drop k) 1 x) (hn:n=frs.length) (h:-9223372036854775808 < a) (h2:a<=9223372036854775807) (hM:Deep M):XT tbs M frs c.type (xA 5 9 false [x,xNum a]):=by
 rw [hs c (List.mem_of_getElem? hx) hk]
 exact (zn9 (n:=2) rfl ⟨by omega,by omega⟩ (.col (zx7 hn hc)) (zpA h h2)).le hM.ge
end
noncomputable def L_cpT (t0:Tp) (p pi:Pl) (s f:Sch) (d:Int) (M k:Nat) (i:Nat) (u:Tp) (its:List X):Cfg:=zaj B.Bs 0 [(0,.p 0 0),(3,iv d),(8,.p 3 0),(10,.p 5 0),(11,.p 6 0),(33,.sl (s.cols.map Col.cells)),(34,iv ((s.cols.map Col.cells).length:Nat)),(35,iv (i:Nat))] [.box u.cells,.box p.cells,.box s.cells,.box [.bl false,.nl,sv ⟨#[]⟩,.nl],.box f.cells,.box pi.cells,.box [.bl false,.own 7 its.length,sv f.name,.nl],.row Ty.Expr (zad its) false]
theorem Zcv8 {p:Prop} (h:p:=by first|rfl|(simp;done)|(simp [X.cells,Qy.cells,V.cells,Col.cells,Rw.cells,Tb.cells,Fr.cells,Sch.cells,Tp.cells,Pl.cells,xCol,xLit,xBin,xNeg,Im.cells,Lk.cells,Ac.cells,Se.cells,Tg.cells,Rk.cells];done)):p:=h
theorem zfV (t0:Tp) (p pi:Pl) (s f:Sch) (d:Int) (M k:Nat) (hp:pi.OkN k) (hs:Few s.cols) (hfr:pi.frs≠[]) (hkey:∀ c∈s.cols,c.key=true->c.type=1) (hM:Deep M) (hcol:∀ (t:Tp) (p:Pl) (w:Int),Few p.frs->(∀ f∈p.frs,Few f.cols)->∃ (x:X) (ok:Bool) (t':Tp),(ok=true->ColT p.frs w x)/\zaa E0 S.AA [.p 0 0,p.av,iv w] [.box t.cells] (.tup [x.av,bv ok]) [.box t'.cells]) (hE:∀ (t:Tp) (p:Pl) (w:Int),p.OkN k->∃ (e:X) (t':Tp),XT p.tbs M p.frs w e/\zaa E0 S.Aa [.p 0 0,p.av,iv w,iv d] [.box t.cells] e.av [.box t'.cells]) (i:Nat) (u:Tp) (its:List X) (hi:i<=(s.cols).length) (hI:zdd pi.tbs M pi.frs s.cols i its):∃ (u':Tp) (its':List X),(zdd pi.tbs M pi.frs s.cols (s.cols).length its')/\(decide ((((s.cols).length:Nat):Int) < (((s.cols.map Col.cells).length:Nat):Int))=false)/\∀ R,Good E0 B.Bs [.box t0.cells] (L_cpT t0 p pi s f d M k (s.cols).length u' its') R->Good E0 B.Bs [.box t0.cells] (L_cpT t0 p pi s f d M k i u its) R:=by
 have hk:=hi;revert i u its;refine zlp ((s.cols).length) (fun i hlt ih u its hi hI _=>?_)
 obtain ⟨x,hx,h0,hw⟩:=zlq (l:=s.cols) ((s.cols.map Col.cells).length) hlt
 have hfl:pi.frs.length<=1000/\0 < pi.frs.length:=⟨by have:=hp.frs;omega,List.length_pos_iff.2 hfr⟩
 have hil:its.length<=1000:=by have:=hI.1;simp only [Few] at hs;omega
 have hsa:=zxv pi.frs hfl
 obtain ⟨e1,t1,q1,c1⟩:=(hE u pi x.type zph)
 let p_1:List St:=[sb h0,se (zaf Col.cells hx rfl),sl [0] c1]
 cases h2:x.key
 ·obtain ⟨uZ,itsZ,qZ,xZ,gZ⟩:=ih t1 (its++[e1]) Zo zxm Zo;exact ⟨uZ,itsZ,qZ,xZ,fun R hg=>zab (wkl (p_1++[sb h2,sqA (zad its) [e1.cells] its.length 10 136,si hw]) [0,3,8,10,11,33,34,35] 8 kr (zaF rfl (show ([Blk.box [AV.sl (List.map (fun n=>[iv n]) t1.l),iv (t1.pos:Int)],Blk.box [fsl p.frs,ZS p.tbs],Blk.box s.cells,Blk.box [AV.bl false,AV.nl,sv Zs0,AV.nl],Blk.box f.cells,Blk.box [fsl pi.frs,ZS pi.tbs],Blk.box [AV.bl false,AV.own 7 (zad its++[e1.cells]).length,sv f.name,AV.nl],Blk.row Ty.Expr (zad its++[e1.cells]) false]:Heap)=_ from Zcv8) (gZ R hg)))⟩
 ·obtain ⟨x3,ok3,t3,q3,c3⟩:=(hcol t1 (Pl.mk (List.drop (IntKind.i64.wrap ((↑(List.map Fr.cells pi.frs).length:Int) - 1)).toNat (List.take (List.map Fr.cells pi.frs).length pi.frs)) []) 1 zph zph)
  let p_2:List St:=p_1++[sb h2,si (e:=IntKind.i64.wrap ((↑(List.map Fr.cells pi.frs).length:Int) - 1)) rfl,sqx (SubAt (List.map Fr.cells pi.frs) (IntKind.i64.wrap ((↑(List.map Fr.cells pi.frs).length:Int) - 1)) (↑(List.map Fr.cells pi.frs).length:Int) 4),sl [0] (conv (args:=[AV.p 0 0,AV.agg [AV.sl (List.drop (IntKind.i64.wrap ((↑(List.map Fr.cells pi.frs).length:Int) - 1)).toNat (List.take (↑(List.map Fr.cells pi.frs).length:Int).toNat (List.map Fr.cells pi.frs))),AV.sl []],iv 1]) (hl:=[Blk.box [AV.sl (List.map (fun n=>[iv n]) t1.l),iv (t1.pos:Int)]]) c3 (by first|(simp;done)|(simp [Pl.cells,Tp.cells,List.map_drop,List.map_take,List.take_of_length_le];done)|rfl) (by first|(simp;done)|(simp [Pl.cells,Tp.cells,List.map_drop,List.map_take,List.take_of_length_le];done)|rfl))]
  rcases (Bool.eq_false_or_eq_true ok3).symm with h4|h4
  ·obtain ⟨uZ,itsZ,qZ,xZ,gZ⟩:=ih t3 (its++[e1]) Zo zxm Zo;exact ⟨uZ,itsZ,qZ,xZ,fun R hg=>zab (wkl (p_2++[sb h4,sqA (zad its) [e1.cells] its.length 10 136,si hw]) [0,3,8,10,11,33,34,35] 8 kr (zaF rfl (show ([Blk.box [AV.sl (List.map (fun n=>[iv n]) t3.l),iv (t3.pos:Int)],Blk.box [fsl p.frs,ZS p.tbs],Blk.box s.cells,Blk.box [AV.bl false,AV.nl,sv Zs0,AV.nl],Blk.box f.cells,Blk.box [fsl pi.frs,ZS pi.tbs],Blk.box [AV.bl false,AV.own 7 (zad its++[e1.cells]).length,sv f.name,AV.nl],Blk.row Ty.Expr (zad its++[e1.cells]) false]:Heap)=_ from Zcv8) (gZ R hg)))⟩
  ·obtain ⟨a5,t5,q5,c5⟩:=(zai t3 20 zph)
   obtain ⟨uZ,itsZ,qZ,xZ,gZ⟩:=ih t5 (its++[xBin 9 x3 (xNum (↑(10+a5):Int))]) Zo zxm Zo;exact ⟨uZ,itsZ,qZ,xZ,fun R hg=>zab (wkl (p_2++[sb h4,sd [(2,[sl [0] c5]),(3,[si (zbz (t:=10+(a5:Int)) (n:=10+a5) Zo Zo)]),(4,[sc (zbR ((↑(10+a5):Int)) zph)]),(5,[sc (zbQ 9 x3 (xNum (↑(10+a5):Int)))])],sqA (zad its) [(xBin 9 x3 (xNum (↑(10+a5):Int))).cells] its.length 10 136,si hw]) [0,3,8,10,11,33,34,35] 8 kr (zaF rfl (show ([Blk.box [AV.sl (List.map (fun n=>[iv n]) t5.l),iv (t5.pos:Int)],Blk.box [fsl p.frs,ZS p.tbs],Blk.box s.cells,Blk.box [AV.bl false,AV.nl,sv Zs0,AV.nl],Blk.box f.cells,Blk.box [fsl pi.frs,ZS pi.tbs],Blk.box [AV.bl false,AV.own 7 (zad its++[(xBin 9 x3 (xNum (↑(10+a5):Int))).cells]).length,sv f.name,AV.nl],Blk.row Ty.Expr (zad its++[(xBin 9 x3 (xNum (↑(10+a5):Int))).cells]) false]:Heap)=_ from Zcv8) (gZ R hg)))⟩
inductive QyT (tbs:List Sch) (M:Nat) (frs:List Fr) (s:Sch):Qy->Prop
 | mk {f:Sch} {its wh:List X}:f∈tbs->zdd tbs M (frIn frs f) s.cols s.cols.length its->wh.length<=1->(∀ x∈wh,XT tbs M (frIn frs f) 2 x)->QyT tbs M frs s (Qy.mk false its f.name wh)
theorem zjD (t:Tp) (p:Pl) (s:Sch) (d:Int) (M k:Nat) (hp:p.OkN (k+1)) (hs:Few s.cols) (hkey:∀ c∈s.cols,c.key=true->c.type=1) (hM:Deep M) (hcol:∀ (t:Tp) (p:Pl) (w:Int),Few p.frs->(∀ f∈p.frs,Few f.cols)->∃ (x:X) (ok:Bool) (t':Tp),(ok=true->ColT p.frs w x)/\zaa E0 S.AA [.p 0 0,p.av,iv w] [.box t.cells] (.tup [x.av,bv ok]) [.box t'.cells]) (hE:∀ (t:Tp) (p:Pl) (w:Int),p.OkN k->∃ (e:X) (t':Tp),XT p.tbs M p.frs w e/\zaa E0 S.Aa [.p 0 0,p.av,iv w,iv d] [.box t.cells] e.av [.box t'.cells]):∃ (qy:Qy) (t':Tp),QyT p.tbs M p.frs s qy/\zaa E0 S.Bs [.p 0 0,p.av,s.av,iv d] [.box t.cells] qy.av [.box t'.cells]:=by
 obtain ⟨a1,t1,q1,c1⟩:=(zai t ((↑(List.map Sch.cells p.tbs).length:Int)) zeJ)
 obtain ⟨x2,e2⟩:=zaY (l:=p.tbs) (i:=a1) zeJ
 obtain ⟨u3,its3,q3,q3_1,g3⟩:=zfV t p (plIn p x2) s x2 d M k zeJ zeJ zeJ zeJ hM zeJ hE 0 t1 ([]) zeJ zeJ
 obtain ⟨b4,t4,c4⟩:=(zam u3 2 zeJ)
 let p_1:List St:=[sdm [(6,[sl [0] c1]),(7,[se (zaf Sch.cells e2 rfl)])] 0 [(0,AV.p 0 0),(1,AV.agg [fsl p.frs,ZS p.tbs]),(2,AV.agg [sv s.name,ZC s.cols]),(3,iv d),(5,AV.p 1 0),(6,AV.p 2 0),(8,AV.p 3 0),(9,AV.p 4 0),(17,AV.p 1 1),(18,ZS p.tbs),(19,AV.p 0 0),(20,AV.p 1 1),(21,ZS p.tbs),(22,iv (↑(List.map Sch.cells p.tbs).length:Int)),(23,iv (a1:Int)),(24,AV.dp [sv x2.name,ZC x2.cols]),(25,AV.agg [sv x2.name,ZC x2.cols])] [Blk.box [AV.sl (List.map (fun n=>[iv n]) t1.l),iv (t1.pos:Int)],Blk.box [fsl p.frs,ZS p.tbs],Blk.box [sv s.name,ZC s.cols],Blk.box [AV.bl false,AV.nl,sv Zs0,AV.nl],Blk.box [sv x2.name,ZC x2.cols]],sc (zf9 p x2 zeJ)]
 let p_2:List St:=[sqx (True/\its3.length=(zad its3).length/\True/\True/\True),sb q3_1,sl [0] c4]
 rcases (Bool.eq_false_or_eq_true b4).symm with h5|h5
 ·exact ⟨Qy.mk false its3 x2.name [],t4,(by exact .mk (List.mem_of_getElem? ‹_›) ‹_› Zs (by first|exact xt0|exact xt1 ‹_›)),wkcN At.Bs p_1 [0,3,8,10,11,33,34,35] 7 [(.ob 6 1 Ty.Expr,8)] kr (g3 _ (zab (wkr (p_2++[sb h5]) kr)))⟩
 ·obtain ⟨e6,t6,q6,c6⟩:=(hE t4 (plIn p x2) 2 zeJ)
  exact ⟨Qy.mk false its3 x2.name [e6],t6,(by exact .mk (List.mem_of_getElem? ‹_›) ‹_› Zs (by first|exact xt0|exact xt1 ‹_›)),wkcN At.Bs p_1 [0,3,8,10,11,33,34,35] 7 [(.ob 6 1 Ty.Expr,8)] kr (g3 _ (zab (wkrS (y:=AV.agg [bv false,AV.sl (zad its3),sv x2.name,AV.sl [e6.cells]]) (H:=[Blk.box [AV.sl (List.map (fun n=>[iv n]) t6.l),iv (t6.pos:Int)]]) (p_2++[sb h5,sl [0] c6]) kr ⟨Zcv8,Zcv8⟩)))⟩
theorem zgw {p:Prop} (h:p:=by first|assumption|omega|exact hI.push ‹_› (lt2 ‹_› ‹_›) ‹_› ‹_›|exact hI.push ‹_› (lt2 ‹_› ‹_›) ‹_› (zzi ‹_› ‹_› Zo Zo Zo hM)|(simp;done)):p:=h
theorem zpi {p:Prop} (h:p:=by first|exact zfg hI hx ‹_›|exact zya hI hx ‹_› ‹_› hM|exact zyb hI hx ‹_› (by have hq:=hI.1;simp only [List.length_append,List.length_cons,List.length_nil,zbP];rw [IntKind.wrap_i64];omega) Zo Zo hM):p:=h
theorem zkX {p:Prop} (h:p:=by first|assumption|exact zzm hk hsm hI (by first|exact hI.some0 ‹_›|exact hI.some1 hf ‹_›) Zs (by first|exact xt0|exact xt1 ‹_›)):p:=h
theorem znh {p:Prop} (h:p:=by first|assumption|omega|(simp;done)|(simp;omega)):p:=h
theorem zrR {p:Prop} (h:p:=by first|assumption|omega|exact zqg|(simp;done)):p:=h
abbrev zrX (k:Int) (n:Str):List AV:=[iv k,sv n,.nl,.nl,.nl,.nl,sv ⟨#[]⟩]
theorem zzg {n:Nat} (h:n<=1000):(IntKind.i64.wrap (((n+1:Nat):Int) - 1)).toNat=n:=by
 rw [IntKind.wrap_i64];omega
theorem zsw (xs:List X) (c:List AV) (h:xs.length<=1000):OwnEl (zad xs++[c]) (zad xs++[c]).length (IntKind.i64.wrap ((((zad xs++[c]).length:Nat):Int) - 1)).toNat c:=by
 have h1:(zad xs++[c]).length=xs.length+1:=by simp
 refine ⟨rfl,?_⟩
 rw [h1,zzg h]
 simp
theorem modOkT {a n:Nat} (h:0 < n):0<=((a:Nat):Int).tmod ((n:Nat):Int)/\((a:Nat):Int).tmod ((n:Nat):Int) < ((n:Nat):Int) :=
 ⟨Int.tmod_nonneg _ Zo,Int.tmod_lt_of_pos _ Zo⟩
theorem zu7 {n:Nat} {p:Pl} {s:Sch} (h:p.OkN (n+1)) (hs:Few s.cols):(plIn p s).OkN n:=by
 refine ⟨by have:=h.frs;simp [plIn];omega,fun f hf=>?_,h.ne,h.few,h.tcols⟩
 simp only [plIn,List.mem_append,List.mem_singleton] at hf
 rcases hf with hf|rfl
 ·exact h.cols f hf
 ·exact hs
theorem zAh {w:Str} (h:TabN w):Pos ((((zat w).cols.map Col.cells).length:Nat):Int):=by
 have h1:=(zdE h).few
 have h2:=List.length_pos_iff.2 (zdE h).ne
 simp only [Few] at h1
 rw [List.length_map]
 exact ⟨by omega,by omega⟩
section
variable {tbs : List Sch} {M : Nat} {frs : List Fr} {cols : List Col} {i n : Nat} {its : List X} {c : Col} {e e0 : X}
theorem zyb (h:zdd tbs M frs cols i its) (hx:cols[i]?=some c) (ht:(c.type==1)=true) (hn:n=i) {a:Int} (h1:-9223372036854775808 < a) (h2:a<=9223372036854775807) (hM:Deep M):zdd tbs M frs cols (i+1) ((its++[e0]).set n (xNum a)):=by
 have e1:(its++[e0]).set n (xNum a)=its++[xNum a]:=by
  rw [List.set_append_right _ _ (by have:=h.1;omega),hn,h.1];simp
 rw [e1]
 exact zfg h hx (by rw [show c.type=1 by simpa using ht];exact (zpA (n:=0) h1 h2).le (Nat.le_trans Zo hM.ge))
theorem zya (h:zdd tbs M frs cols i its) (hx:cols[i]?=some c) (ht:(c.type==1)=false) {v:V} (hv:v.kind=zbI c.type/\v.Good) (hM:Deep M):zdd tbs M frs cols (i+1) (its++[xLit v]) :=
 zfg h hx ((zp8 (n:=0) ht hv).le (Nat.le_trans Zo hM.ge))
end
noncomputable def L_ctC (t0:Tp) (p pi:Pl) (s:Sch) (kd:Int) (rows:List (List X)) (kq:Nat) (d:Int) (M k:Nat) (i:Nat) (u:Tp) (xs:List X):Cfg:=zaj B.Aq 1 [(0,.p 0 0),(2,iv d),(4,.p 1 0),(6,.p 2 0),(7,.p 3 0),(8,.p 4 0),(9,.p 5 0),(10,iv (kq:Nat)),(11,.own 7 xs.length),(52,.sl (s.cols.map Col.cells)),(53,iv ((s.cols.map Col.cells).length:Nat)),(54,iv (i:Nat))] [.box u.cells,.box p.cells,.box (zrX 0 ⟨#[]⟩),.box s.cells,.box pi.cells,.box [iv kd,sv s.name,.own 6 rows.length,.nl,.nl,.nl,sv ⟨#[]⟩],.row Ty.LExpr (rows.map zau) false,.row Ty.Expr (zad xs) false]
theorem Zcv9 {p:Prop} (h:p:=by first|rfl|(simp;done)|(simp [zbm,List.map_set,Tp.cells,X.cells,Pl.cells,Sch.cells,xCol,xLit,xBin,xNeg];done)):p:=h
theorem zfS (t0:Tp) (p pi:Pl) (s:Sch) (kd:Int) (rows:List (List X)) (kq:Nat) (d:Int) (M k:Nat) (hp:p.OkN k) (hs:Few s.cols) (hM:Deep M) (hE:∀ (t:Tp) (p:Pl) (w:Int),p.OkN k->∃ (e:X) (t':Tp),XT p.tbs M p.frs w e/\zaa E0 S.Aa [.p 0 0,p.av,iv w,iv d] [.box t.cells] e.av [.box t'.cells]) (i:Nat) (u:Tp) (xs:List X) (hi:i<=(s.cols).length) (hI:zdd p.tbs M p.frs s.cols i xs):∃ (u':Tp) (xs':List X),(zdd p.tbs M p.frs s.cols (s.cols).length xs')/\(decide ((((s.cols).length:Nat):Int) < (((s.cols.map Col.cells).length:Nat):Int))=false)/\∀ R,Good E0 B.Aq [.box t0.cells] (L_ctC t0 p pi s kd rows kq d M k (s.cols).length u' xs') R->Good E0 B.Aq [.box t0.cells] (L_ctC t0 p pi s kd rows kq d M k i u xs) R:=by
 have hk:=hi;revert i u xs;refine zlp ((s.cols).length) (fun i hlt ih u xs hi hI _=>?_)
 obtain ⟨x,hx,h0,hw⟩:=zlq (l:=s.cols) ((s.cols.map Col.cells).length) hlt
 have hil:xs.length<=1000:=by have:=hI.1;simp only [Few] at hs;omega
 have hwx:IntKind.i64.wrap ((xs.length:Nat):Int)=((xs.length:Nat):Int):=by rw [IntKind.wrap_i64];omega
 let p_1:List St:=[sb h0,se (zaf Col.cells hx rfl)]
 cases h1:x.key
 ·obtain ⟨b2,t2,c2⟩:=(zam u 3 znh)
  rcases (Bool.eq_false_or_eq_true b2).symm with h3|h3
  ·obtain ⟨e4,t4,q4,c4⟩:=(hE t2 p x.type znh)
   obtain ⟨uZ,xsZ,qZ,xZ,gZ⟩:=ih t4 (xs++[e4]) Zo zpi Zo;exact ⟨uZ,xsZ,qZ,xZ,fun R hg=>zab (wkl (p_1++[sg h1,sl [0] c2,sb h3,sl [0] c4,sqA (zad xs) [e4.cells] xs.length 10 136,si hw]) [0,2,4,6,7,8,9,10,11,52,53,54] 8 kr (zao 11 7 (zad xs++[e4.cells]) (gZ R hg) (he:=Zcv9) (hm:=Zcv9)))⟩
  ·obtain ⟨v5,t5,q5,c5⟩:=(zaS t2 x.type)
   let p_2:List St:=p_1++[sg h1,sl [0] c2,sb h3,sl [0] c5,sc (zaP v5),sqA (zad xs) [[iv (xLit v5).kind,iv (xLit v5).op,bv (xLit v5).not,iv (xLit v5).val.kind,iv (xLit v5).val.int,sv (xLit v5).val.text,sv (xLit v5).table,sv (xLit v5).name,AV.sl (zad []),AV.sl (zag [])]] xs.length 10 136]
   cases h6:x.type==1
   ·obtain ⟨uZ,xsZ,qZ,xZ,gZ⟩:=ih t5 (xs++[xLit v5]) Zo zpi Zo;exact ⟨uZ,xsZ,qZ,xZ,fun R hg=>zab (wkl (p_2++[sb h6,si hw]) [0,2,4,6,7,8,9,10,11,52,53,54] 8 kr (zao 11 7 (zad xs++[(xLit v5).cells]) (gZ R hg) (he:=Zcv9) (hm:=Zcv9)))⟩
   ·obtain ⟨a7,t7,q7,c7⟩:=(za2 t5)
    obtain ⟨uZ,xsZ,qZ,xZ,gZ⟩:=ih t7 ((xs++[xLit v5]).set (IntKind.i64.wrap ((↑(zad xs++[(xLit v5).cells]).length:Int) - 1)).toNat (xNum a7)) Zo zpi Zo;exact ⟨uZ,xsZ,qZ,xZ,fun R hg=>zab (wkl (p_2++[sb h6,sqx ((zad xs++[(xLit v5).cells]).length=(zad xs++[(xLit v5).cells]).length),si (e:=IntKind.i64.wrap ((↑(zad xs++[(xLit v5).cells]).length:Int) - 1)) rfl,sl [0] c7,sc (zbR a7 znh),sqx (OwnAt (zad xs++[(xLit v5).cells]) (zad xs++[(xLit v5).cells]).length (IntKind.i64.wrap ((↑(zad xs++[(xLit v5).cells]).length:Int) - 1))),sx (.el ((xLit v5).cells)) (And.intro (owed (p:=True/\True/\True/\True/\True/\True/\True/\True/\True/\True/\True)) (zsw xs ((xLit v5).cells) znh)),si hw]) [0,2,4,6,7,8,9,10,11,52,53,54] 8 kr (zaF (show ([(0,AV.p 0 0),(2,iv d),(4,AV.p 1 0),(6,AV.p 2 0),(7,AV.p 3 0),(8,AV.p 4 0),(9,AV.p 5 0),(10,iv (kq:Int)),(11,AV.own 7 (zad xs++[(xLit v5).cells]).length),(52,ZC s.cols),(53,iv (↑(List.map Col.cells s.cols).length:Int)),(54,iv (↑(i+1):Int))]:TS)=_ from Zcv9) (show ([Blk.box [AV.sl (List.map (fun n=>[iv n]) t7.l),iv (t7.pos:Int)],Blk.box [fsl p.frs,ZS p.tbs],Blk.box [iv 0,sv Zs0,AV.nl,AV.nl,AV.nl,AV.nl,sv Zs0],Blk.box s.cells,Blk.box [fsl pi.frs,ZS pi.tbs],Blk.box [iv kd,sv s.name,AV.own 6 rows.length,AV.nl,AV.nl,AV.nl,sv Zs0],Blk.row Ty.LExpr (List.map zau rows) false,Blk.row Ty.Expr ((zad xs++[(xLit v5).cells]).set (IntKind.i64.wrap ((↑(zad xs++[(xLit v5).cells]).length:Int) - 1)).toNat (xNum a7).cells) false]:Heap)=_ from Zcv9) (gZ R hg)))⟩
 ·obtain ⟨v8,t8,q8,c8⟩:=(zaS u x.type)
  let p_3:List St:=p_1++[sb h1,sl [0] c8,sc (zaP v8),sqA (zad xs) [[iv (xLit v8).kind,iv (xLit v8).op,bv (xLit v8).not,iv (xLit v8).val.kind,iv (xLit v8).val.int,sv (xLit v8).val.text,sv (xLit v8).table,sv (xLit v8).name,AV.sl (zad []),AV.sl (zag [])]] xs.length 10 136]
  cases h9:x.type==1
  ·obtain ⟨uZ,xsZ,qZ,xZ,gZ⟩:=ih t8 (xs++[xLit v8]) Zo zpi Zo;exact ⟨uZ,xsZ,qZ,xZ,fun R hg=>zab (wkl (p_3++[sb h9,si hw]) [0,2,4,6,7,8,9,10,11,52,53,54] 8 kr (zao 11 7 (zad xs++[(xLit v8).cells]) (gZ R hg) (he:=Zcv9) (hm:=Zcv9)))⟩
  ·obtain ⟨a10,t10,q10,c10⟩:=(za2 t8)
   obtain ⟨uZ,xsZ,qZ,xZ,gZ⟩:=ih t10 ((xs++[xLit v8]).set (IntKind.i64.wrap ((↑(zad xs++[(xLit v8).cells]).length:Int) - 1)).toNat (xNum a10)) Zo zpi Zo;exact ⟨uZ,xsZ,qZ,xZ,fun R hg=>zab (wkl (p_3++[sb h9,sqx ((zad xs++[(xLit v8).cells]).length=(zad xs++[(xLit v8).cells]).length),si (e:=IntKind.i64.wrap ((↑(zad xs++[(xLit v8).cells]).length:Int) - 1)) rfl,sl [0] c10,sc (zbR a10 znh),sqx (OwnAt (zad xs++[(xLit v8).cells]) (zad xs++[(xLit v8).cells]).length (IntKind.i64.wrap ((↑(zad xs++[(xLit v8).cells]).length:Int) - 1))),sx (.el ((xLit v8).cells)) (And.intro (owed (p:=True/\True/\True/\True/\True/\True/\True/\True/\True/\True/\True)) (zsw xs ((xLit v8).cells) znh)),si hw]) [0,2,4,6,7,8,9,10,11,52,53,54] 8 kr (zaF (show ([(0,AV.p 0 0),(2,iv d),(4,AV.p 1 0),(6,AV.p 2 0),(7,AV.p 3 0),(8,AV.p 4 0),(9,AV.p 5 0),(10,iv (kq:Int)),(11,AV.own 7 (zad xs++[(xLit v8).cells]).length),(52,ZC s.cols),(53,iv (↑(List.map Col.cells s.cols).length:Int)),(54,iv (↑(i+1):Int))]:TS)=_ from Zcv9) (show ([Blk.box [AV.sl (List.map (fun n=>[iv n]) t10.l),iv (t10.pos:Int)],Blk.box [fsl p.frs,ZS p.tbs],Blk.box [iv 0,sv Zs0,AV.nl,AV.nl,AV.nl,AV.nl,sv Zs0],Blk.box s.cells,Blk.box [fsl pi.frs,ZS pi.tbs],Blk.box [iv kd,sv s.name,AV.own 6 rows.length,AV.nl,AV.nl,AV.nl,sv Zs0],Blk.row Ty.LExpr (List.map zau rows) false,Blk.row Ty.Expr ((zad xs++[(xLit v8).cells]).set (IntKind.i64.wrap ((↑(zad xs++[(xLit v8).cells]).length:Int) - 1)).toNat (xNum a10).cells) false]:Heap)=_ from Zcv9) (gZ R hg)))⟩
def ziD (tbs:List Sch) (M:Nat) (frs:List Fr) (s:Sch) (rows:List (List X)):Prop:=∀ r∈rows,zdd tbs M frs s.cols s.cols.length r
theorem zw7 {tbs:List Sch} {M:Nat} {frs:List Fr} {s:Sch} {rows:List (List X)} {k:Nat} {xs:List X} (h:rows.length+(k+1)<=3/\1<=rows.length+(k+1)/\ziD tbs M frs s rows) (hx:zdd tbs M frs s.cols s.cols.length xs) :
  (rows++[xs]).length+k<=3/\1<=(rows++[xs]).length+k/\ziD tbs M frs s (rows++[xs]) :=
 ⟨by have:=h.1;simp;omega,by simp;omega,fun r hr=>by
  simp only [List.mem_append,List.mem_singleton] at hr
  rcases hr with hr|rfl
  ·exact h.2.2 r hr
  ·exact hx⟩
noncomputable def L_ctR (t0:Tp) (p pi:Pl) (s:Sch) (kd:Int) (d:Int) (M kk2:Nat) (k:Nat) (u:Tp) (rows:List (List X)):Cfg:=zaj B.Aq 0 [(0,.p 0 0),(2,iv d),(4,.p 1 0),(6,.p 2 0),(7,.p 3 0),(8,.p 4 0),(9,.p 5 0),(10,iv (k:Nat))] [.box u.cells,.box p.cells,.box (zrX 0 ⟨#[]⟩),.box s.cells,.box pi.cells,.box [iv kd,sv s.name,.own 6 rows.length,.nl,.nl,.nl,sv ⟨#[]⟩],.row Ty.LExpr (rows.map zau) false]
theorem zfT (t0:Tp) (p pi:Pl) (s:Sch) (kd:Int) (d:Int) (M kk2:Nat) (hE:∀ (t:Tp) (p:Pl) (w:Int),p.OkN kk2->∃ (e:X) (t':Tp),XT p.tbs M p.frs w e/\zaa E0 S.Aa [.p 0 0,p.av,iv w,iv d] [.box t.cells] e.av [.box t'.cells]) (hp:p.OkN kk2) (hs:SchOk s) (hM:Deep M) (k:Nat) (u:Tp) (rows:List (List X)) (hi:k<=1000000000) (hI:rows.length+k<=3/\1<=rows.length+k/\ziD p.tbs M p.frs s rows):∃ (u':Tp) (rows':List (List X)),(rows'.length+0<=3/\1<=rows'.length+0/\ziD p.tbs M p.frs s rows')/\(decide ((0:Int) < ((0:Nat):Int))=false)/\∀ R,Good E0 B.Aq [.box t0.cells] (L_ctR t0 p pi s kd d M kk2 0 u' rows') R->Good E0 B.Aq [.box t0.cells] (L_ctR t0 p pi s kd d M kk2 k u rows) R:=by
 induction k generalizing u rows with
 | zero=>exact ⟨u,rows,hI,by decide,fun R hg=>hg⟩
 | succ k ih =>
  have h0:decide ((0:Int) < (((k+1):Nat):Int))=true:=by first|(simp;done)|(simp;omega)
  have hw:IntKind.i64.wrap (((k+1:Nat):Int) - 1)=((k:Nat):Int):=zi1 k Zo
  have hss:=hs.few;have hrl:rows.length<=3:=by omega
  obtain ⟨u1,xs1,q1,q1_1,g1⟩:=zfS t0 p pi s kd rows (k+1) d M kk2 hp zrR hM zrR 0 u ([]) zrR zrR
  obtain ⟨uZ,rowsZ,qZ,xZ,gZ⟩:=ih u1 (rows++[xs1]) Zo (by exact zw7 hI ‹_›);exact ⟨uZ,rowsZ,qZ,xZ,fun R hg=>zab (wklN [sb h0] [0,2,4,6,7,8,9,10,11,52,53,54] 7 [(.ot 11 Ty.Expr,8)] kr (g1 _ (zab (wkl [sb q1_1,sqx (xs1.length=(zad xs1).length/\True),sqA (List.map zau rows) [[AV.sl (zad xs1)]] rows.length 1 24,si hw] [0,2,4,6,7,8,9,10] 7 kr (zaF rfl (show ([Blk.box [AV.sl (List.map (fun n=>[iv n]) u1.l),iv (u1.pos:Int)],Blk.box [fsl p.frs,ZS p.tbs],Blk.box [iv 0,sv Zs0,AV.nl,AV.nl,AV.nl,AV.nl,sv Zs0],Blk.box s.cells,Blk.box [fsl pi.frs,ZS pi.tbs],Blk.box [iv kd,sv s.name,AV.own 6 (List.map zau rows++[[AV.sl (zad xs1)]]).length,AV.nl,AV.nl,AV.nl,sv Zs0],Blk.row Ty.LExpr (List.map zau rows++[[AV.sl (zad xs1)]]) false]:Heap)=_ from Zcv8) (gZ R hg))))))⟩
noncomputable def zv2 (d:Int) (p pi:Pl) (s:Sch) (kd:Int) (first i:Nat) (u:Tp) (sets:List Se):Cfg:=zaj B.Aq 2 [(0,.p 0 0),(2,iv d),(6,.p 2 0),(7,.p 3 0),(8,.p 4 0),(9,.p 5 0),(14,iv (first:Nat)),(15,iv (i:Nat))] [.box u.cells,.box p.cells,.box (zrX 0 ⟨#[]⟩),.box s.cells,.box pi.cells,.box [iv kd,sv s.name,.nl,.nl,.own 6 sets.length,.nl,sv ⟨#[]⟩],.row Ty.Set (sets.map Se.cells) false]
structure SetsT (tbs:List Sch) (M:Nat) (frs:List Fr) (s:Sch) (first i:Nat) (sets:List Se):Prop where
 len:sets.length=i
 at_:∀ (j:Nat) (x:Se),sets[j]?=some x->∃ c:Col,s.cols[(first+j) % s.cols.length]?=some c/\x.col=c.name/\XT tbs M (frIn frs s) c.type x.ex
 two:i<=2
 lim:i<=s.cols.length
inductive ActT (tbs:List Sch) (M:Nat) (frs:List Fr):Ac->Prop
 | rows {s:Sch} {rows:List (List X)}:s∈zak->1<=rows.length->rows.length<=3->ziD tbs M frs s rows->ActT tbs M frs (Ac.mk 1 s.name rows [] [] [] ⟨#[]⟩)
 | copy {s:Sch} {q:Qy}:s∈zak->QyT tbs M frs s q->ActT tbs M frs (Ac.mk 1 s.name [] [q] [] [] ⟨#[]⟩)
 | upd {s:Sch} {first i:Nat} {sets:List Se} {wh:List X}:s∈zak->1<=i->SetsT tbs M frs s first i sets->wh.length<=1->(∀ x∈wh,XT tbs M (frIn frs s) 2 x)->ActT tbs M frs (Ac.mk 2 s.name [] [] sets wh ⟨#[]⟩)
 | del {s:Sch} {wh:List X}:s∈zak->wh.length<=1->(∀ x∈wh,XT tbs M (frIn frs s) 2 x)->ActT tbs M frs (Ac.mk 3 s.name [] [] [] wh ⟨#[]⟩)
section
variable {tbs : List Sch} {M : Nat} {frs : List Fr} {s : Sch} {first i : Nat} {sets : List Se} {e : X} {cc : Col} {z : Int}
theorem SetsT.push (h:SetsT tbs M frs s first i sets) (hi:decide ((i:Int) < (((s.cols.map Col.cells).length:Nat):Int))=true) (h2:i < 2) (hc:AtI s.cols (((first+i:Nat):Int).tmod (((s.cols.map Col.cells).length:Nat):Int)) cc) (he:XT tbs M (frIn frs s) cc.type e):SetsT tbs M frs s first (i+1) (sets++[⟨cc.name,e⟩]):=by
 simp only [decide_eq_true_eq,List.length_map] at hi
 refine ⟨by simp [h.len],fun j x hj=>?_,by omega,by omega⟩
 by_cases hk:j < sets.length
 ·rw [List.getElem?_append_left hk] at hj
  exact h.at_ j x hj
 ·have h3:=zbY hj
  have h4:=h.len
  simp only [List.length_append,List.length_cons,List.length_nil] at h3
  have:j=i:=by omega
  subst this
  rw [List.getElem?_append_right Zo,show j - sets.length=0 by omega] at hj
  simp only [List.getElem?_cons_zero,Option.some.injEq] at hj
  subst hj
  refine ⟨cc,?_,rfl,he⟩
  have h5:=hc.2
  rw [List.length_map] at h5
  have h6:(((first+j:Nat):Int).tmod ((s.cols.length:Nat):Int)).toNat=(first+j) % s.cols.length:=by
   rw [← Int.ofNat_tmod];exact Int.toNat_natCast _
  rwa [h6] at h5
theorem zzi {k:Nat} {a:Int} (ht:(cc.type==1)=true) (hc:AtI s.cols z cc) (hk:9<=(k:Int)/\(k:Int)<=13) (h1:-9223372036854775808 < a) (h2:a<=9223372036854775807) (hM:Deep M):XT tbs M (frIn frs s) cc.type (xA 5 (k:Int) false [xCol ⟨#[]⟩ cc.name,xNum a]):=by
 have e1:cc.type=1:=by simpa using ht
 rw [e1]
 refine (zn9 (n:=2) rfl hk (.col ⟨frs.length,⟨s.name,false,s.cols,[]⟩,cc,⟨#[]⟩,?_,List.mem_of_getElem? hc.2,e1,rfl,.inr ⟨rfl,rfl,by simp⟩⟩) (zpA h1 h2)).le hM.ge
 simp
theorem SetsT.some0 (h:SetsT tbs M frs s first i sets) {a:Nat} (hi:decide ((i:Int) < ((1+a:Nat):Int))=false):1<=i:=by simp only [decide_eq_false_iff_not] at hi;omega
theorem SetsT.some1 (h:SetsT tbs M frs s first i sets) (hf:first < s.cols.length) (hi:decide ((i:Int) < (((s.cols.map Col.cells).length:Nat):Int))=false):1<=i:=by simp only [decide_eq_false_iff_not,List.length_map] at hi;omega
theorem zzm {kd:Int} {wh:List X} (hk:kd=2) (hs:s∈zak) (hI:SetsT tbs M frs s first i sets) (h1:1<=i) (hw:wh.length<=1) (hx:∀ x∈wh,XT tbs M (frIn frs s) 2 x):ActT tbs M frs (Ac.mk kd s.name [] [] sets wh ⟨#[]⟩):=by
 subst hk;exact .upd hs h1 hI hw hx
theorem lt2 {i a:Nat} (h:decide ((i:Int) < ((1+a:Nat):Int))=true) (ha:(a:Int) < 2):i < 2:=by simp only [decide_eq_true_eq] at h;omega
end
theorem zwm (d:Int) (M k:Nat) (t0:Tp) (p pi:Pl) (s:Sch) (kd:Int) (first i:Nat) (u:Tp) (sets:List Se) (hsm:s∈zak) (hs:Few s.cols) (hss:zac s.cols) (hpi:pi.OkN k) (hpf:pi=plIn p s) (hM:Deep M) (hE:∀ (t:Tp) (w:Int),∃ (e:X) (t':Tp),XT p.tbs M (frIn p.frs s) w e/\zaa E0 S.Aa [.p 0 0,pi.av,iv w,iv d] [.box t.cells] e.av [.box t'.cells]) (hk:kd=2) (hf:first < s.cols.length) (hf2:s.cols.length<=1000) (hI:SetsT p.tbs M p.frs s first i sets) (hi2:i<=2) (hsl:sets.length<=2) (ihl:∀ (u':Tp) (sets':List Se),SetsT p.tbs M p.frs s first (i+1) sets'->∃ (r:Ac) (t':Tp),ActT p.tbs M p.frs r/\Good E0 B.Aq [.box t0.cells] (zv2 d p pi s kd first (i+1) u' sets') (Shut 1 fun rZ hZ=>rZ=r.av/\hZ=[.box t'.cells])):∃ (r:Ac) (t':Tp),ActT p.tbs M p.frs r/\Good E0 B.Aq [.box t0.cells] (zkc (zv2 d p pi s kd first i u sets)) (Shut 1 fun rZ hZ=>rZ=(r.av)/\hZ=[.box t'.cells]):=by
  obtain ⟨a1,t1,q1,c1⟩:=(zai u 2 zgw)
  cases h2:decide ((i:Int) < (↑(1+a1):Int))
  ·obtain ⟨b3,t3,c3⟩:=(zam t1 4 zgw)
   cases h4:!b3
   ·exact ⟨Ac.mk kd s.name [] [] sets [] Zs0,t3,zkX,wkr [sqx (True/\True/\True/\True/\sets.length=(List.map Se.cells sets).length/\True/\True/\True),sl [0] c1,si (zbz (t:=1+(a1:Int)) (n:=1+a1) Zo Zo),sb h2,sl [0] c3,sb h4] kr⟩
   ·obtain ⟨e5,t5,q5,c5⟩:=(hE t3 2)
    exact ⟨Ac.mk kd s.name [] [] sets [e5] Zs0,t5,zkX,wkrS (y:=AV.agg [iv kd,sv s.name,AV.sl [],AV.sl [],ZE sets,AV.sl [e5.cells],sv Zs0]) (H:=[Blk.box [AV.sl (List.map (fun n=>[iv n]) t5.l),iv (t5.pos:Int)]]) [sqx (True/\True/\True/\True/\sets.length=(List.map Se.cells sets).length/\True/\True/\True),sl [0] c1,si (zbz (t:=1+(a1:Int)) (n:=1+a1) Zo Zo),sb h2,sl [0] c3,sb h4,sl [0] c5] kr ⟨Zcv8,Zcv8⟩⟩
  ·cases h6:decide ((i:Int) < (↑(List.map Col.cells s.cols).length:Int))
   ·obtain ⟨b7,t7,c7⟩:=(zam t1 4 zgw)
    cases h8:!b7
    ·exact ⟨Ac.mk kd s.name [] [] sets [] Zs0,t7,zkX,wkr [sqx (True/\True/\True/\True/\sets.length=(List.map Se.cells sets).length/\True/\True/\True),sl [0] c1,si (zbz (t:=1+(a1:Int)) (n:=1+a1) Zo Zo),sg h2,sb h6,sl [0] c7,sb h8] kr⟩
    ·obtain ⟨e9,t9,q9,c9⟩:=(hE t7 2)
     exact ⟨Ac.mk kd s.name [] [] sets [e9] Zs0,t9,zkX,wkrS (y:=AV.agg [iv kd,sv s.name,AV.sl [],AV.sl [],ZE sets,AV.sl [e9.cells],sv Zs0]) (H:=[Blk.box [AV.sl (List.map (fun n=>[iv n]) t9.l),iv (t9.pos:Int)]]) [sqx (True/\True/\True/\True/\sets.length=(List.map Se.cells sets).length/\True/\True/\True),sl [0] c1,si (zbz (t:=1+(a1:Int)) (n:=1+a1) Zo Zo),sg h2,sb h6,sl [0] c7,sb h8,sl [0] c9] kr ⟨Zcv8,Zcv8⟩⟩
   ·obtain ⟨x10,e10⟩:=zyk (l:=s.cols) (i:=(↑(first+i):Int).tmod (↑(List.map Col.cells s.cols).length:Int)) (by (rw [List.length_map];exact modOkT Zo))
    obtain ⟨e11,t11,q11,c11⟩:=(hE t1 x10.type)
    cases h12:x10.type==1
    ·obtain ⟨r13_0,r13_1,p13_0,g13⟩:=ihl t11 (sets++[Se.mk x10.name e11]) zgw
     exact ⟨r13_0,r13_1,zkX,wkl [sl [0] c1,si (zbz (t:=1+(a1:Int)) (n:=1+a1) Zo Zo),sg h2,sb h6,sd [(4,[si (zbz (t:=(first:Int)+(i:Int)) (n:=first+i) Zo Zo)]),(8,[sx (.i ((↑(first+i):Int).tmod (↑(List.map Col.cells s.cols).length:Int))) (show (↑(List.map Col.cells s.cols).length:Int)≠(0:Int)/\((↑(first+i):Int).tmod (↑(List.map Col.cells s.cols).length:Int):Int)=(↑(first+i):Int).tmod (↑(List.map Col.cells s.cols).length:Int) from ⟨(by rw [List.length_map];omega),rfl⟩)]),(9,[se (ziG Col.cells e10 rfl)])],sdm [(7,[sl [0] c11])] 0 [(0,AV.p 0 0),(2,iv d),(6,AV.p 2 0),(7,AV.p 3 0),(8,AV.p 4 0),(9,AV.p 5 0),(14,iv (first:Int)),(15,iv (i:Int)),(16,AV.p 7 0),(17,AV.p 8 0),(107,iv (i:Int)),(108,AV.p 0 0),(109,iv (a1:Int)),(110,iv (↑(1+a1):Int)),(111,bv (decide ((i:Int) < (↑(1+a1):Int)))),(112,AV.bl true),(113,iv (i:Int)),(114,AV.p 3 1),(115,ZC s.cols),(116,iv (↑(List.map Col.cells s.cols).length:Int)),(117,bv (decide ((i:Int) < (↑(List.map Col.cells s.cols).length:Int)))),(118,AV.bl true),(121,AV.p 3 1),(122,ZC s.cols),(123,iv (first:Int)),(124,iv (i:Int)),(125,iv (↑(first+i):Int)),(126,AV.p 3 1),(127,ZC s.cols),(128,iv (↑(List.map Col.cells s.cols).length:Int)),(129,iv ((↑(first+i):Int).tmod (↑(List.map Col.cells s.cols).length:Int))),(130,AV.dp x10.cells),(131,AV.agg x10.cells),(132,AV.p 7 0),(133,sv x10.name),(134,AV.p 0 0),(135,AV.agg [fsl pi.frs,ZS pi.tbs]),(136,AV.p 7 1),(137,iv x10.type),(138,iv d),(139,AV.agg e11.cells),(140,AV.agg (sv x10.name::e11.cells))] [Blk.box [AV.sl (List.map (fun n=>[iv n]) t11.l),iv (t11.pos:Int)],Blk.box [fsl p.frs,ZS p.tbs],Blk.box [iv 0,sv Zs0,AV.nl,AV.nl,AV.nl,AV.nl,sv Zs0],Blk.box s.cells,Blk.box [fsl pi.frs,ZS pi.tbs],Blk.box [iv kd,sv s.name,AV.nl,AV.nl,AV.own 6 sets.length,AV.nl,sv Zs0],Blk.row Ty.Set (List.map Se.cells sets) false,Blk.box x10.cells,Blk.box (sv x10.name::e11.cells)],sb h12,sqA (List.map Se.cells sets) [(sv x10.name::e11.cells)] sets.length 11 152,si (zbz (t:=(i:Int)+1) (n:=i+1) Zo Zo)] [0,2,6,7,8,9,14,15] 7 kr (zaF rfl (show ([Blk.box [AV.sl (List.map (fun n=>[iv n]) t11.l),iv (t11.pos:Int)],Blk.box [fsl p.frs,ZS p.tbs],Blk.box [iv 0,sv Zs0,AV.nl,AV.nl,AV.nl,AV.nl,sv Zs0],Blk.box s.cells,Blk.box [fsl pi.frs,ZS pi.tbs],Blk.box [iv kd,sv s.name,AV.nl,AV.nl,AV.own 6 (List.map Se.cells sets++[(sv x10.name::e11.cells)]).length,AV.nl,sv Zs0],Blk.row Ty.Set (List.map Se.cells sets++[(sv x10.name::e11.cells)]) false]:Heap)=_ from Zcv8) g13)⟩
    ·obtain ⟨b14,t14,c14⟩:=(zam t11 2 zgw)
     rcases (Bool.eq_false_or_eq_true b14).symm with h15|h15
     ·obtain ⟨r16_0,r16_1,p16_0,g16⟩:=ihl t14 (sets++[Se.mk x10.name e11]) zgw
      exact ⟨r16_0,r16_1,zkX,wkl [sl [0] c1,si (zbz (t:=1+(a1:Int)) (n:=1+a1) Zo Zo),sg h2,sb h6,sd [(4,[si (zbz (t:=(first:Int)+(i:Int)) (n:=first+i) Zo Zo)]),(8,[sx (.i ((↑(first+i):Int).tmod (↑(List.map Col.cells s.cols).length:Int))) (show (↑(List.map Col.cells s.cols).length:Int)≠(0:Int)/\((↑(first+i):Int).tmod (↑(List.map Col.cells s.cols).length:Int):Int)=(↑(first+i):Int).tmod (↑(List.map Col.cells s.cols).length:Int) from ⟨(by rw [List.length_map];omega),rfl⟩)]),(9,[se (ziG Col.cells e10 rfl)])],sdm [(7,[sl [0] c11])] 0 [(0,AV.p 0 0),(2,iv d),(6,AV.p 2 0),(7,AV.p 3 0),(8,AV.p 4 0),(9,AV.p 5 0),(14,iv (first:Int)),(15,iv (i:Int)),(16,AV.p 7 0),(17,AV.p 8 0),(107,iv (i:Int)),(108,AV.p 0 0),(109,iv (a1:Int)),(110,iv (↑(1+a1):Int)),(111,bv (decide ((i:Int) < (↑(1+a1):Int)))),(112,AV.bl true),(113,iv (i:Int)),(114,AV.p 3 1),(115,ZC s.cols),(116,iv (↑(List.map Col.cells s.cols).length:Int)),(117,bv (decide ((i:Int) < (↑(List.map Col.cells s.cols).length:Int)))),(118,AV.bl true),(121,AV.p 3 1),(122,ZC s.cols),(123,iv (first:Int)),(124,iv (i:Int)),(125,iv (↑(first+i):Int)),(126,AV.p 3 1),(127,ZC s.cols),(128,iv (↑(List.map Col.cells s.cols).length:Int)),(129,iv ((↑(first+i):Int).tmod (↑(List.map Col.cells s.cols).length:Int))),(130,AV.dp x10.cells),(131,AV.agg x10.cells),(132,AV.p 7 0),(133,sv x10.name),(134,AV.p 0 0),(135,AV.agg [fsl pi.frs,ZS pi.tbs]),(136,AV.p 7 1),(137,iv x10.type),(138,iv d),(139,AV.agg e11.cells),(140,AV.agg (sv x10.name::e11.cells))] [Blk.box [AV.sl (List.map (fun n=>[iv n]) t11.l),iv (t11.pos:Int)],Blk.box [fsl p.frs,ZS p.tbs],Blk.box [iv 0,sv Zs0,AV.nl,AV.nl,AV.nl,AV.nl,sv Zs0],Blk.box s.cells,Blk.box [fsl pi.frs,ZS pi.tbs],Blk.box [iv kd,sv s.name,AV.nl,AV.nl,AV.own 6 sets.length,AV.nl,sv Zs0],Blk.row Ty.Set (List.map Se.cells sets) false,Blk.box x10.cells,Blk.box (sv x10.name::e11.cells)],sg h12,sl [0] c14,sb h15,sqA (List.map Se.cells sets) [(sv x10.name::e11.cells)] sets.length 11 152,si (zbz (t:=(i:Int)+1) (n:=i+1) Zo Zo)] [0,2,6,7,8,9,14,15] 7 kr (zaF rfl (show ([Blk.box [AV.sl (List.map (fun n=>[iv n]) t14.l),iv (t14.pos:Int)],Blk.box [fsl p.frs,ZS p.tbs],Blk.box [iv 0,sv Zs0,AV.nl,AV.nl,AV.nl,AV.nl,sv Zs0],Blk.box s.cells,Blk.box [fsl pi.frs,ZS pi.tbs],Blk.box [iv kd,sv s.name,AV.nl,AV.nl,AV.own 6 (List.map Se.cells sets++[(sv x10.name::e11.cells)]).length,AV.nl,sv Zs0],Blk.row Ty.Set (List.map Se.cells sets++[(sv x10.name::e11.cells)]) false]:Heap)=_ from Zcv8) g16)⟩
     ·obtain ⟨a17,t17,q17,c17⟩:=(zai t14 2 zgw)
      obtain ⟨a18,t18,q18,c18⟩:=(zai t17 4 zgw)
      obtain ⟨r19_0,r19_1,p19_0,g19⟩:=ihl t18 (sets++[Se.mk x10.name (xBin (↑(9+a17):Int) (xCol Zs0 x10.name) (xNum (a18:Int)))]) zgw
      exact ⟨r19_0,r19_1,zkX,wkl [sl [0] c1,si (zbz (t:=1+(a1:Int)) (n:=1+a1) Zo Zo),sg h2,sb h6,sd [(4,[si (zbz (t:=(first:Int)+(i:Int)) (n:=first+i) Zo Zo)]),(8,[sx (.i ((↑(first+i):Int).tmod (↑(List.map Col.cells s.cols).length:Int))) (show (↑(List.map Col.cells s.cols).length:Int)≠(0:Int)/\((↑(first+i):Int).tmod (↑(List.map Col.cells s.cols).length:Int):Int)=(↑(first+i):Int).tmod (↑(List.map Col.cells s.cols).length:Int) from ⟨(by rw [List.length_map];omega),rfl⟩)]),(9,[se (ziG Col.cells e10 rfl)])],sdm [(7,[sl [0] c11])] 0 [(0,AV.p 0 0),(2,iv d),(6,AV.p 2 0),(7,AV.p 3 0),(8,AV.p 4 0),(9,AV.p 5 0),(14,iv (first:Int)),(15,iv (i:Int)),(16,AV.p 7 0),(17,AV.p 8 0),(107,iv (i:Int)),(108,AV.p 0 0),(109,iv (a1:Int)),(110,iv (↑(1+a1):Int)),(111,bv (decide ((i:Int) < (↑(1+a1):Int)))),(112,AV.bl true),(113,iv (i:Int)),(114,AV.p 3 1),(115,ZC s.cols),(116,iv (↑(List.map Col.cells s.cols).length:Int)),(117,bv (decide ((i:Int) < (↑(List.map Col.cells s.cols).length:Int)))),(118,AV.bl true),(121,AV.p 3 1),(122,ZC s.cols),(123,iv (first:Int)),(124,iv (i:Int)),(125,iv (↑(first+i):Int)),(126,AV.p 3 1),(127,ZC s.cols),(128,iv (↑(List.map Col.cells s.cols).length:Int)),(129,iv ((↑(first+i):Int).tmod (↑(List.map Col.cells s.cols).length:Int))),(130,AV.dp x10.cells),(131,AV.agg x10.cells),(132,AV.p 7 0),(133,sv x10.name),(134,AV.p 0 0),(135,AV.agg [fsl pi.frs,ZS pi.tbs]),(136,AV.p 7 1),(137,iv x10.type),(138,iv d),(139,AV.agg e11.cells),(140,AV.agg (sv x10.name::e11.cells))] [Blk.box [AV.sl (List.map (fun n=>[iv n]) t11.l),iv (t11.pos:Int)],Blk.box [fsl p.frs,ZS p.tbs],Blk.box [iv 0,sv Zs0,AV.nl,AV.nl,AV.nl,AV.nl,sv Zs0],Blk.box s.cells,Blk.box [fsl pi.frs,ZS pi.tbs],Blk.box [iv kd,sv s.name,AV.nl,AV.nl,AV.own 6 sets.length,AV.nl,sv Zs0],Blk.row Ty.Set (List.map Se.cells sets) false,Blk.box x10.cells,Blk.box (sv x10.name::e11.cells)],sg h12,sl [0] c14,sb h15,sd [(1,[sl [0] c17]),(2,[si (zbz (t:=9+(a17:Int)) (n:=9+a17) Zo Zo)]),(5,[sc (zjk Zs0 x10.name)]),(7,[sl [0] c18]),(8,[sc (zbR ((a18:Int)) zgw)]),(9,[sc (zbQ ((↑(9+a17):Int)) (xCol Zs0 x10.name) (xNum (a18:Int)))])],sqA (List.map Se.cells sets) [(sv x10.name::(xBin (↑(9+a17):Int) (xCol Zs0 x10.name) (xNum (a18:Int))).cells)] sets.length 11 152,si (zbz (t:=(i:Int)+1) (n:=i+1) Zo Zo)] [0,2,6,7,8,9,14,15] 7 kr (zaF rfl (show ([Blk.box [AV.sl (List.map (fun n=>[iv n]) t18.l),iv (t18.pos:Int)],Blk.box [fsl p.frs,ZS p.tbs],Blk.box [iv 0,sv Zs0,AV.nl,AV.nl,AV.nl,AV.nl,sv Zs0],Blk.box s.cells,Blk.box [fsl pi.frs,ZS pi.tbs],Blk.box [iv kd,sv s.name,AV.nl,AV.nl,AV.own 6 (List.map Se.cells sets++[(sv x10.name::(xBin (↑(9+a17):Int) (xCol Zs0 x10.name) (xNum (a18:Int))).cells)]).length,AV.nl,sv Zs0],Blk.row Ty.Set (List.map Se.cells sets++[(sv x10.name::(xBin (↑(9+a17):Int) (xCol Zs0 x10.name) (xNum (a18:Int))).cells)]) false]:Heap)=_ from Zcv8) g19)⟩
theorem zb1 {p:Prop} (h:p:=by first|assumption|omega|exact (zdE ‹_›).few|exact zdE ‹_›|exact zd2 ‹_›|exact zBe ‹_›|exact hp.short|exact zu7 hp (zdE ‹_›).few|exact fun t w'=>hE t (plIn p _) w' (zu7 hp (zdE ‹_›).few)|exact zAh ‹_›|exact zy5|rfl|exact eq_of_beq ‹_›|exact ⟨by simp only [List.length_nil];omega,by simp only [List.length_nil];omega,by simp [ziD]⟩|(simp only [List.length_map] at *;omega)|(simp;done)):p:=h
theorem zpj {p:Prop} (h:p:=by first|assumption|exact zxF ‹_› ‹_› ‹_›|exact zxE ‹_› ‹_› ‹_›|exact zzl ‹_› ‹_› ‹_› Zs (by first|exact xt0|exact xt1 ‹_›) Zo):p:=h
theorem zfU (d:Int) (M k:Nat) (t0:Tp) (p pi:Pl) (s:Sch) (kd:Int) (first i:Nat) (u:Tp) (sets:List Se) (hsm:s∈zak) (hs:Few s.cols) (hpi:pi.OkN k) (hpf:pi=plIn p s) (hM:Deep M) (hE:∀ (t:Tp) (w:Int),∃ (e:X) (t':Tp),XT p.tbs M (frIn p.frs s) w e/\zaa E0 S.Aa [.p 0 0,pi.av,iv w,iv d] [.box t.cells] e.av [.box t'.cells]) (hk:kd=2) (hf:first < s.cols.length) (hI:SetsT p.tbs M p.frs s first i sets) :
  ∃ (r:Ac) (t':Tp),ActT p.tbs M p.frs r/\Good E0 B.Aq [.box t0.cells] (zv2 d p pi s kd first i u sets) (Shut 1 fun rZ hZ=>rZ=r.av/\hZ=[.box t'.cells]):=by
 obtain ⟨q,hq⟩:∃ q,i+q=3:=⟨3 - i,by have:=hI.two;omega⟩
 induction q generalizing i u sets with
 | zero=>have:=hI.two;omega
 | succ q ih =>
  obtain ⟨r,t',hr,hg⟩:=zwm d M k t0 p pi s kd first i u sets hsm hs (zaQ hs) hpi hpf hM hE hk hf hs hI hI.two (by have:=hI.len;have:=hI.two;omega) fun u' sets' h'=>ih (i+1) u' sets' h' Zo
  exact ⟨r,t',hr,zab hg⟩
theorem zd2 {w:Str} (h:TabN w):zat w∈zak:=by
 rcases h with rfl|rfl|rfl
 ·rw [zvf];simp [zak,schT]
 ·rw [zvg];simp [zak,schU]
 ·rw [zmw];simp [zak,zcf]
theorem zy5 {tbs:List Sch} {M:Nat} {frs:List Fr} {s:Sch} {first:Nat}:SetsT tbs M frs s first 0 []:=⟨rfl,fun j x h=>by simp at h,by omega,by omega⟩
theorem zBe {w:Str} (h:TabN w):∀ c∈(zat w).cols,c.key=true->c.type=1:=by
 have h0:∀ s∈zak,∀ c∈s.cols,c.key=true->c.type=1:=by simp [zak]
 exact h0 _ (zd2 h)
section
variable {tbs : List Sch} {M : Nat} {frs : List Fr} {w : Str} {kd : Int}
theorem zxF {rows:List (List X)} (hw:TabN w) (hk:(kd==1)=true) (h:rows.length+0<=3/\1<=rows.length+0/\ziD tbs M frs (zat w) rows):ActT tbs M frs (Ac.mk kd (zat w).name rows [] [] [] ⟨#[]⟩):=by
 rw [show kd=1 by simpa using hk];exact .rows (zd2 hw) Zo Zo h.2.2
theorem zxE {q:Qy} (hw:TabN w) (hk:(kd==1)=true) (h:QyT tbs M frs (zat w) q):ActT tbs M frs (Ac.mk kd (zat w).name [] [q] [] [] ⟨#[]⟩):=by
 rw [show kd=1 by simpa using hk];exact .copy (zd2 hw) h
theorem zzl {wh:List X} (hw:TabN w) (h1:(kd==1)=false) (h2:(kd==2)=false) (h:wh.length<=1) (hx:∀ x∈wh,XT tbs M (frIn frs (zat w)) 2 x) (hr:1<=kd/\kd<=3):ActT tbs M frs (Ac.mk kd (zat w).name [] [] [] wh ⟨#[]⟩):=by
 have e1:kd≠1:=by simpa using h1
 have e2:kd≠2:=by simpa using h2
 rw [show kd=3 by omega];exact .del (zd2 hw) h hx
end
theorem zjC (t:Tp) (p:Pl) (d:Int) (M k:Nat) (hp:p.OkN (k+1)) (hpk:p.OkN k) (hsh:zac zak) (hM:Deep M) (hcol:∀ (t:Tp) (p:Pl) (w:Int),Few p.frs->(∀ f∈p.frs,Few f.cols)->∃ (x:X) (ok:Bool) (t':Tp),(ok=true->ColT p.frs w x)/\zaa E0 S.AA [.p 0 0,p.av,iv w] [.box t.cells] (.tup [x.av,bv ok]) [.box t'.cells]) (hE:∀ (t:Tp) (p:Pl) (w:Int),p.OkN k->∃ (e:X) (t':Tp),XT p.tbs M p.frs w e/\zaa E0 S.Aa [.p 0 0,p.av,iv w,iv d] [.box t.cells] e.av [.box t'.cells]):∃ (r:Ac) (t':Tp),ActT p.tbs M p.frs r/\zaa E0 S.Aq [.p 0 0,p.av,iv d] [.box t.cells] r.av [.box t'.cells]:=by
 obtain ⟨w1,t1,q1,c1⟩:=(zmK t)
 obtain ⟨a2,t2,q2,c2⟩:=(zai t1 3 zb1)
 let p_1:List St:=[sl [0] c1,sc (zj0 w1 zb1),sc (zf9 p (zat w1) zb1),sdm [(1,[sl [0] c2]),(2,[si (zbz (t:=1+(a2:Int)) (n:=1+a2) Zo Zo)])] 0 [(0,AV.p 0 0),(1,AV.agg [fsl p.frs,ZS p.tbs]),(2,iv d),(4,AV.p 1 0),(6,AV.p 2 0),(7,AV.p 3 0),(8,AV.p 4 0),(9,AV.p 5 0),(18,AV.p 0 0),(19,sv w1),(20,AV.agg [sv (zat w1).name,AV.sl (List.map Col.cells (zat w1).cols)]),(21,AV.agg [fsl p.frs,ZS p.tbs]),(22,AV.agg [sv (zat w1).name,AV.sl (List.map Col.cells (zat w1).cols)]),(23,AV.agg [AV.sl (List.map Fr.cells (plIn p (zat w1)).frs),AV.sl (List.map Sch.cells (plIn p (zat w1)).tbs)]),(24,AV.p 0 0),(25,iv (a2:Int)),(26,iv (↑(1+a2):Int)),(27,AV.p 3 0),(28,sv (zat w1).name),(29,AV.agg [iv (↑(1+a2):Int),sv (zat w1).name,AV.nl,AV.nl,AV.nl,AV.nl,sv Zs0])] [Blk.box [AV.sl (List.map (fun n=>[iv n]) t2.l),iv (t2.pos:Int)],Blk.box [fsl p.frs,ZS p.tbs],Blk.box [iv 0,sv Zs0,AV.nl,AV.nl,AV.nl,AV.nl,sv Zs0],Blk.box [sv (zat w1).name,AV.sl (List.map Col.cells (zat w1).cols)],Blk.box [AV.sl (List.map Fr.cells (plIn p (zat w1)).frs),AV.sl (List.map Sch.cells (plIn p (zat w1)).tbs)],Blk.box [iv (↑(1+a2):Int),sv (zat w1).name,AV.nl,AV.nl,AV.nl,AV.nl,sv Zs0]]]
 cases h3:(↑(1+a2):Int)==1
 ·cases h4:(↑(1+a2):Int)==2
  ·obtain ⟨b5,t5,c5⟩:=(zam t2 4 zb1)
   cases h6:!b5
   ·exact ⟨Ac.mk (↑(1+a2):Int) (zat w1).name [] [] [] [] Zs0,t5,zpj,wk At.Aq (p_1++[sb h3,sb h4,sl [0] c5,sb h6]) kr⟩
   ·obtain ⟨e7,t7,q7,c7⟩:=(hE t5 (plIn p (zat w1)) 2 zb1)
    exact ⟨Ac.mk (↑(1+a2):Int) (zat w1).name [] [] [] [e7] Zs0,t7,zpj,(by (try simp only [Ac.av,Ac.cells,zen,zff,zgn,zhb]);exact wk At.Aq (p_1++[sb h3,sb h4,sl [0] c5,sb h6,sl [0] c7]) kr)⟩
  ·obtain ⟨a8,t8,q8,c8⟩:=(zai t2 ((↑(List.map Col.cells (zat w1).cols).length:Int)) zb1)
   obtain ⟨r9_0,r9_1,p9_0,g9⟩:=zfU d M k t p (plIn p (zat w1)) (zat w1) ((↑(1+a2):Int)) a8 0 t8 ([]) zb1 zb1 zb1 zb1 hM zb1 zb1 zb1 zb1
   exact ⟨r9_0,r9_1,zpj,wkcN At.Aq (p_1++[sb h3,sb h4,sl [0] c8]) [0,2,6,7,8,9,14,15] 6 [(.ob 5 4 Ty.Set,7)] kr (g9)⟩
 ·obtain ⟨b10,t10,c10⟩:=(zam t2 4 zb1)
  rcases (Bool.eq_false_or_eq_true b10).symm with h11|h11
  ·obtain ⟨a12,t12,q12,c12⟩:=(zai t10 3 zb1)
   obtain ⟨u13,rows13,q13,q13_1,g13⟩:=zfT t p (plIn p (zat w1)) (zat w1) ((↑(1+a2):Int)) d M k hE zb1 zb1 zb1 (1+a12) t12 ([]) zb1 zb1
   exact ⟨Ac.mk (↑(1+a2):Int) (zat w1).name rows13 [] [] [] Zs0,u13,zpj,wkcN At.Aq (p_1++[sb h3,sl [0] c10,sb h11,sl [0] c12,si (zbz (t:=1+(a12:Int)) (n:=1+a12) Zo Zo)]) [0,2,4,6,7,8,9,10] 6 [(.ob 5 2 Ty.LExpr,7)] kr (g13 _ (zab (wkr [sqx (True/\True/\rows13.length=(List.map zau rows13).length/\True/\True/\True/\True/\True),sb Zf] kr)))⟩
  ·obtain ⟨qy14,t14,q14,c14⟩:=(zjD t10 p (zat w1) d M k hp zb1 zb1 hM zb1 zb1)
   exact ⟨Ac.mk (↑(1+a2):Int) (zat w1).name [] [qy14] [] [] Zs0,t14,zpj,(by (try simp only [Ac.av,Ac.cells,zen,zff,zgn,zhb]);exact wk At.Aq (p_1++[sb h3,sl [0] c10,sb h11,sl [0] c14]) kr)⟩
theorem zm2 {α:Type} {p:α->Bool} {l:List α} {i:Nat} {x:α} {z:Int} (h:z=idxF p (l.drop i) i) (hx:l[i]?=some x) (hp:p x=false):z=idxF p (l.drop (i+1)) (i+1):=by
 rw [zap hx] at h;rw [h];simp only [idxF,hp,cond_false]
theorem zoH {α:Type} {p:α->Bool} {l:List α} {i:Nat} {x:α} {z:Int} (h:z=idxF p (l.drop i) i) (hx:l[i]?=some x) (hp:p x=true):((i:Nat):Int)=z:=by
 rw [zap hx] at h;rw [h];simp only [idxF,hp,cond_true]
theorem zgH {α:Type} {p:α->Bool} {l:List α} {z:Int} (h:z=idxF p (l.drop l.length) l.length):-1=z:=by
 rw [List.drop_length] at h;rw [h];rfl
abbrev acD (w:Str) (x:X):Ac:=⟨3,w,[],[],[],[x],⟨#[]⟩⟩
abbrev acU (w:Str) (c:Str) (v x:X):Ac:=⟨2,w,[],[],[⟨c,v⟩],[x],⟨#[]⟩⟩
abbrev xOne:X:=xLit ⟨1,1,⟨#[]⟩⟩
abbrev xNotE (e:X):X:=X.mk 3 0 false ⟨0,0,⟨#[]⟩⟩ ⟨#[]⟩ ⟨#[]⟩ [e] []
abbrev xNulE (e:X):X:=X.mk 6 0 false ⟨0,0,⟨#[]⟩⟩ ⟨#[]⟩ ⟨#[]⟩ [e] []
abbrev tcEs (e:X):List X:=[e,xNotE e,xNulE e]
def tcD (m:List Tb) (w:Str) (e:X) (j:Nat):Ch × Int:=zaZ (bif j==0 then 5 else 6) (acD w ((tcEs e).getD j e)) [] m
def tcU (m:List Tb) (w:Str) (e:X) (j:Nat):Ch × Int:=zaZ (bif j==0 then 5 else 6) (acU w sN xOne ((tcEs e).getD j e)) [] m
structure TcOk (cd cu:Ch × Int):Prop where
 code:cd.2=cu.2
 ids:cu.1.upd.map Pr.id=cd.1.del
 len:cd.1.del.length<=900
abbrev tcAll (m:List Tb) (w:Str) (e:X) (i:Nat):List Int:=(List.range i).flatMap (fun j=>(tcD m w e j).1.del)
structure TcIn (m:List Tb) (w:Str) (e:X):Prop where
 cd:∀ j x,(tcEs e)[j]?=some x->Pure S.Ak [(acD w x).av,fsl [],tsl m] (.tup [(tcD m w e j).1.av,iv (tcD m w e j).2])
 cu:∀ j x,(tcEs e)[j]?=some x->Pure S.Ak [(acU w sN xOne x).av,fsl [],tsl m] (.tup [(tcU m w e j).1.av,iv (tcU m w e j).2])
 ok:∀ j,j < 3->TcOk (tcD m w e j) (tcU m w e j)
 fin:(∀ j,j < 3->(tcD m w e j).2=0)->srt1 (tcAll m w e 3)=(tabC m w).rows.map Rw.id/\(tcAll m w e 3).length<=12
 tab:decide (idxF (fun t=>zaw t w) m 0 < 0)=false
 rows:(tabC m w).rows.length<=1000
theorem TcOk.eq {cd cu:Ch × Int} (h:TcOk cd cu) {ids:List Int} (hi:ids.length<=cu.1.upd.length/\ids=(cu.1.upd.take cu.1.upd.length).map Pr.id):ids=cd.1.del:=by
 rw [hi.2,List.take_length];exact h.ids
/- ### sorting -/
/- ### the tables -/
theorem zqH {n:Int} {m:List Tb} {w:Str} (h:StoreV n m) (hw:TabN w):decide (idxF (fun t=>zaw t w) m 0 < 0)=false/\tabC m w∈m/\(tabC m w).sch=zat w/\(zaN m w).2=true:=by
 have hs:=h.schs
 match m,hs with
 | [a,b,c],hs =>
  simp only [List.map_cons,List.map_nil,zak,List.cons.injEq,and_true] at hs
  obtain ⟨h1,h2,h3⟩:=hs
  have key:∀ t,t∈[a,b,c]->zaK [a,b,c] w=some t->t.sch=zat w->decide (idxF (fun t=>zaw t w) [a,b,c] 0 < 0)=false/\tabC [a,b,c] w∈[a,b,c]/\(tabC [a,b,c] w).sch=zat w/\(zaN [a,b,c] w).2=true:=fun t ht hf hsch=>by
   have hr:(zaN [a,b,c] w).2=true:=by rw [zc6,hf]
   obtain ⟨k1,k2,k3,k4⟩:=zps hr
   rw [hf] at k1
   rw [← Option.some.inj k1]
   exact ⟨k4,ht,hsch,hr⟩
  rcases hw with rfl|rfl|rfl
  ·have e1:zaw a ⟨#[116]⟩=false:=by unfold zaw;rw [h1];kernel_rfl
   have e2:zaw b ⟨#[116]⟩=true:=by unfold zaw;rw [h2];kernel_rfl
   exact key b Zs (by simp [zaK,e1,e2]) (by rw [h2];kernel_rfl)
  ·have e1:zaw a ⟨#[117]⟩=false:=by unfold zaw;rw [h1];kernel_rfl
   have e2:zaw b ⟨#[117]⟩=false:=by unfold zaw;rw [h2];kernel_rfl
   have e3:zaw c ⟨#[117]⟩=true:=by unfold zaw;rw [h3];kernel_rfl
   exact key c Zs (by simp [zaK,e1,e2,e3]) (by rw [h3];kernel_rfl)
  ·have e1:zaw a ⟨#[108,111,103]⟩=true:=by unfold zaw;rw [h1];kernel_rfl
   exact key a Zs (by simp [zaK,e1]) (by rw [h1];kernel_rfl)
 | [],hs=>simp [zak] at hs
 | [a],hs=>simp [zak] at hs
 | [a,b],hs=>simp [zak] at hs
 | a::b::c::d::r,hs=>simp [zak] at hs
theorem StoreV.short {n:Int} {m:List Tb} (h:StoreV n m) (hn:n<=1000):∀ x∈m,∀ r∈x.rows,zac r.vals:=fun x hx r hr=>by
 have h1:=((h.rows x hx).fit r hr).len
 have h2:=((h.ok hn).tabs x hx).2.few
 have h3:r.vals.length=x.sch.cols.length:=h1
 simp only [zac,Few] at *;omega
theorem zzH {n:Int} {k:Nat} {a:Ac} {m:List Tb} (h:StoreV n m) (hn:n<=1000) (hk:k<=900) (ha:AcOk k a) (h1:1<=a.kind/\a.kind<=3):DmlIn k a [] m :=
 ⟨ha,h1,zzR (k+1) Zo,zA7,(h.ok hn).tbOk,(h.ok hn).tbG,h.short hn⟩
/- ### the codes -/
/- ### three values -/
theorem zn2:∀ {l:List UInt8} {i:Nat} {c:UInt8},zh1 l=true->l[i]?=some c->okB c.toNat=true
 | [],i,c,_,h=>by simp at h
 | a::l,0,c,h,hx=>by simp at hx;subst hx;simp only [zh1,Bool.and_eq_true] at h;exact h.1
 | a::l,i+1,c,h,hx=>by simp only [zh1,Bool.and_eq_true] at h;exact zn2 h.2 (by simpa using hx)
theorem zyN {v:V} {c:UInt8} {i:Nat} (h:zdY v.text=true) (hx:v.text.data.toList[i]?=some c) (h1:decide (((c.toNat:Nat):Int) < 32)=true):False:=by
 simp only [zdY,Bool.and_eq_true] at h
 have:=zn2 h.1 hx
 simp [okB] at this h1;omega
theorem zyM {v:V} {c:UInt8} {i:Nat} (h:zdY v.text=true) (hx:v.text.data.toList[i]?=some c) (h1:decide ((126:Int) < ((c.toNat:Nat):Int))=true):False:=by
 simp only [zdY,Bool.and_eq_true] at h
 have:=zn2 h.1 hx
 simp [okB] at this h1;omega
noncomputable def L_rvG (v:V) (i:Nat) :Cfg:=zaj B.AU 0 [(1,.p 0 0),(3,iv (i:Nat))] [.box [iv v.kind,iv v.int,sv v.text]]
theorem zjA (v:V) (hp:zdY v.text=true) (hs:decide ((64:Int) < ((v.text.size:Nat):Int))=false) (i:Nat)  (hi:i<=(v.text.size)) (hI:True):(True)/\(decide ((((v.text.size):Nat):Int) < (((v.text.size):Nat):Int))=false)/\∀ R,Good E0 B.AU [] (L_rvG v v.text.size ) R->Good E0 B.AU [] (L_rvG v i ) R:=by
 have hk:=hi;revert i hI;refine zlp v.text.size (fun i hlt ih hi hI _=>?_)
 have h0:decide (((i:Nat):Int) < (((v.text.size):Nat):Int))=true:=by simp;omega
 have hw:IntKind.i64.wrap (((i:Nat):Int)+1)=((i+1:Nat):Int):=zaJ i (by (simp only [decide_eq_false_iff_not] at hs;omega))
 obtain ⟨c1,b1⟩:=zoi (s:=v.text) (i:=(i:Int)) (by first|omega|(simp only [decide_eq_false_iff_not,decide_eq_true_eq] at *;omega))
 cases h2:decide ((c1.toNat:Int) < 32)
 ·cases h3:decide (126 < (c1.toNat:Int))
  ·obtain ⟨qZ,xZ,gZ⟩:=ih Zo (by first|trivial|assumption|(simp;done)|omega|(simp;omega)|(simp at *;omega)) Zo;exact ⟨qZ,xZ,fun R hg=>zab (wkl [sb h0,sy b1,sg h2,sy b1,sb h3,si hw] [1,3] 1 kr (gZ R hg))⟩
  ·exact False.elim (by first|exact zyN hp (zmN ‹_›) ‹_›|exact zyM hp (zmN ‹_›) ‹_›)
 ·exact False.elim (by first|exact zyN hp (zmN ‹_›) ‹_›|exact zyM hp (zmN ‹_›) ‹_›)
theorem zh2 {v:V} (hv:zaE v=true) (h0:(v.kind==0)=false) (h1:(v.kind==1)=false) (h2:(v.kind==2)=false):zdY v.text=true:=by
 unfold zaE at hv;rw [h0,h1,h2] at hv
 cases h3:v.kind==3 <;> rw [h3] at hv
 ·simp at hv
 ·cases h4:v.int==0 <;> rw [h4] at hv
  ·simp at hv
  ·exact hv
theorem zeq {v:V} (hv:zaE v=true) (h0:(v.kind==0)=true):(ByteArray.toList v.text==Zs0.toList)=true:=by
 unfold zaE at hv;rw [h0] at hv
 simp only [cond_true,Bool.and_true,Bool.true_and,Bool.and_eq_true] at hv
 rw [zrq hv.2];exact beq_self_eq_true _
theorem zep {v:V} (hv:zaE v=true) (h0:(v.kind==0)=true) (h1:(v.int==0)=false):False:=by
 unfold zaE at hv;rw [h0,h1] at hv
 simp at hv
theorem zcA {v:V} (hv:zaE v=true) (h0:(v.kind==0)=false) (h1:(v.kind==1)=false) (h2:(v.kind==2)=false) (h:decide ((64:Int) < ((v.text.size:Nat):Int))=true):False:=by
 have hp:=zh2 hv h0 h1 h2
 simp only [zdY,Bool.and_eq_true,decide_eq_true_eq] at hp h
 have:=hp.2
 omega
theorem zdb {v:V} (hv:zaE v=true) (h0:(v.kind==0)=false) (h1:(v.kind==1)=false) (h2:(v.kind==2)=false) (h:(v.int != 0)=true):False:=by
 unfold zaE at hv;rw [h0,h1,h2] at hv
 have h5:(v.int==0)=false:=by simpa using h
 rw [h5] at hv;simp at hv
theorem zqY (v:V) (hv:zaE v=true):∃ (r:Bool),r=true/\zaa E0 S.AU [v.av] [] (bv r) []:=by
 cases h1:v.kind==0
 ·cases h2:v.kind==1
  ·cases h3:v.kind==2
   ·cases h4:v.kind==3
    ·exact ⟨false,(by first|rfl|exact zeq hv ‹_›|exact (zep hv ‹_› ‹_›).elim|exact (zcA hv ‹_› ‹_› ‹_› ‹_›).elim|exact (zdb hv ‹_› ‹_› ‹_› ‹_›).elim|(exfalso;unfold zaE at hv;simp only [*] at hv;simp at hv;done)|(unfold zaE at hv;simp only [*] at hv;simpa using hv)),wk At.AU [sb h1,sb h2,sb h3,sb h4] kr⟩
    ·cases h5:v.int != 0
     ·cases h6:decide (64 < (↑(ByteArray.size v.text):Int))
      ·obtain ⟨q7,q7_1,g7⟩:=zjA v (by first|assumption|omega|exact zh2 hv ‹_› ‹_› ‹_›|trivial) (by first|assumption|omega|exact zh2 hv ‹_› ‹_› ‹_›|trivial) 0 (by first|assumption|omega|exact zh2 hv ‹_› ‹_› ‹_›|trivial) (by first|assumption|omega|exact zh2 hv ‹_› ‹_› ‹_›|trivial)
       exact ⟨true,(by first|rfl|exact zeq hv ‹_›|exact (zep hv ‹_› ‹_›).elim|exact (zcA hv ‹_› ‹_› ‹_› ‹_›).elim|exact (zdb hv ‹_› ‹_› ‹_› ‹_›).elim|(exfalso;unfold zaE at hv;simp only [*] at hv;simp at hv;done)|(unfold zaE at hv;simp only [*] at hv;simpa using hv)),wkc At.AU [sb h1,sb h2,sb h3,sb h4,sg h5,sb h6] [1,3] 1 kr (g7 _ (zab (wkr [sb q7_1] kr)))⟩
      ·exact ⟨false,(by first|rfl|exact zeq hv ‹_›|exact (zep hv ‹_› ‹_›).elim|exact (zcA hv ‹_› ‹_› ‹_› ‹_›).elim|exact (zdb hv ‹_› ‹_› ‹_› ‹_›).elim|(exfalso;unfold zaE at hv;simp only [*] at hv;simp at hv;done)|(unfold zaE at hv;simp only [*] at hv;simpa using hv)),wk At.AU [sb h1,sb h2,sb h3,sb h4,sg h5,sb h6] kr⟩
     ·exact ⟨false,(by first|rfl|exact zeq hv ‹_›|exact (zep hv ‹_› ‹_›).elim|exact (zcA hv ‹_› ‹_› ‹_› ‹_›).elim|exact (zdb hv ‹_› ‹_› ‹_› ‹_›).elim|(exfalso;unfold zaE at hv;simp only [*] at hv;simp at hv;done)|(unfold zaE at hv;simp only [*] at hv;simpa using hv)),wk At.AU [sb h1,sb h2,sb h3,sb h4,sb h5] kr⟩
   ·cases h8:v.int==0
    ·cases h9:v.int==1
     ·exact ⟨false,(by first|rfl|exact zeq hv ‹_›|exact (zep hv ‹_› ‹_›).elim|exact (zcA hv ‹_› ‹_› ‹_› ‹_›).elim|exact (zdb hv ‹_› ‹_› ‹_› ‹_›).elim|(exfalso;unfold zaE at hv;simp only [*] at hv;simp at hv;done)|(unfold zaE at hv;simp only [*] at hv;simpa using hv)),wk At.AU [sb h1,sb h2,sb h3,sg h8,sb h9] kr⟩
     ·exact ⟨ByteArray.toList v.text==Zs0.toList,(by first|rfl|exact zeq hv ‹_›|exact (zep hv ‹_› ‹_›).elim|exact (zcA hv ‹_› ‹_› ‹_› ‹_›).elim|exact (zdb hv ‹_› ‹_› ‹_› ‹_›).elim|(exfalso;unfold zaE at hv;simp only [*] at hv;simp at hv;done)|(unfold zaE at hv;simp only [*] at hv;simpa using hv)),wk At.AU [sb h1,sb h2,sb h3,sg h8,sg h9] kr⟩
    ·exact ⟨ByteArray.toList v.text==Zs0.toList,(by first|rfl|exact zeq hv ‹_›|exact (zep hv ‹_› ‹_›).elim|exact (zcA hv ‹_› ‹_› ‹_› ‹_›).elim|exact (zdb hv ‹_› ‹_› ‹_› ‹_›).elim|(exfalso;unfold zaE at hv;simp only [*] at hv;simp at hv;done)|(unfold zaE at hv;simp only [*] at hv;simpa using hv)),wk At.AU [sb h1,sb h2,sb h3,sb h8] kr⟩
  ·exact ⟨ByteArray.toList v.text==Zs0.toList,(by first|rfl|exact zeq hv ‹_›|exact (zep hv ‹_› ‹_›).elim|exact (zcA hv ‹_› ‹_› ‹_› ‹_›).elim|exact (zdb hv ‹_› ‹_› ‹_› ‹_›).elim|(exfalso;unfold zaE at hv;simp only [*] at hv;simp at hv;done)|(unfold zaE at hv;simp only [*] at hv;simpa using hv)),wk At.AU [sb h1,sb h2] kr⟩
 ·cases h10:v.int==0
  ·exact ⟨false,(by first|rfl|exact zeq hv ‹_›|exact (zep hv ‹_› ‹_›).elim|exact (zcA hv ‹_› ‹_› ‹_› ‹_›).elim|exact (zdb hv ‹_› ‹_› ‹_› ‹_›).elim|(exfalso;unfold zaE at hv;simp only [*] at hv;simp at hv;done)|(unfold zaE at hv;simp only [*] at hv;simpa using hv)),wk At.AU [sb h1,sb h10] kr⟩
  ·exact ⟨ByteArray.toList v.text==Zs0.toList,(by first|rfl|exact zeq hv ‹_›|exact (zep hv ‹_› ‹_›).elim|exact (zcA hv ‹_› ‹_› ‹_› ‹_›).elim|exact (zdb hv ‹_› ‹_› ‹_› ‹_›).elim|(exfalso;unfold zaE at hv;simp only [*] at hv;simp at hv;done)|(unfold zaE at hv;simp only [*] at hv;simpa using hv)),wk At.AU [sb h1,sg h10] kr⟩
theorem ziL (v:V) (hv:zaE v=true):zaa E0 S.AU [v.av] [] (bv true) []:=by
 obtain ⟨r,rfl,h⟩:=zqY v hv
 exact h
def fit4 (c:Col) (v:V):Int :=
 bif v.kind==0 then
  bif c.notNull then
   8
  else
   0
 else
  bif v.kind != c.type then
   5
  else
   0
def fitL:List Col->List V->Int
 | c::cs,v::vs=>bif fit4 c v != 0 then fit4 c v else fitL cs vs
 | _,_=>0
def fit5 (s:Sch) (l:List V):Int:=bif l.length != s.cols.length then 17 else fitL s.cols l
theorem zyl {cs:List Col} {vs:List V} {i:Nat} {c:Col} {v:V} {z:Int} (h:z=fitL (cs.drop i) (vs.drop i)) (hc:cs[i]?=some c) (hv:vs[i]?=some v) (h0:(fit4 c v != 0)=false):z=fitL (cs.drop (i+1)) (vs.drop (i+1)):=by
 rw [zap hc,zap hv] at h;rw [h];simp only [fitL,h0,cond_false]
theorem zzN {cs:List Col} {vs:List V} {i:Nat} {c:Col} {v:V} {z:Int} (h:z=fitL (cs.drop i) (vs.drop i)) (hc:cs[i]?=some c) (hv:vs[i]?=some v) (h0:(fit4 c v != 0)=true):fit4 c v=z:=by
 rw [zap hc,zap hv] at h;rw [h];simp only [fitL,h0,cond_true]
theorem zzO {cs:List Col} {vs:List V} {n:Nat} {z:Int} (h:z=fitL (cs.drop n) (vs.drop n)) (hn:n=cs.length):0=z:=by
 rw [h,hn,List.drop_length];rfl
def fnd7 (n:Int):List Pr->List V × Bool
 | []=>([],false)
 | p::r=>bif p.id==n then (p.nw,true) else fnd7 n r
abbrev itI (n:Int):AV × AV:=(iv n,bv true)
abbrev anyI (ks:List Int) (n:Int):Bool:=ks.any fun x=>x==n
theorem zkl {ks:List Int} {n:Int}:anyI ks n=true↔n∈ks:=by
 simp [anyI]
/- values -/
abbrev itV (v:V):AV × AV:=(v.av,bv true)
def eqV (a b:V):Bool:=a.kind==b.kind&&(a.int==b.int&&(a.text==b.text&&true))
theorem zmS {a b:V}:eqV a b=true↔a=b:=by
 obtain ⟨k,i,t⟩:=a;obtain ⟨k',i',t'⟩:=b
 constructor
 ·intro h
  simp only [eqV,Bool.and_eq_true,Bool.and_true,beq_iff_eq] at h
  obtain ⟨rfl,rfl,h⟩:=h
  rw [zrq h]
 ·intro h;cases h;simp [eqV,zuR]
abbrev anyV (ks:List V) (n:V):Bool:=ks.any fun x=>eqV n x
theorem zm3 (n m:V):zc2 n.av m.av (eqV n m):=⟨true,[.int .i64 n.kind,.int .i64 n.int,.string n.text],[.int .i64 m.kind,.int .i64 m.int,.string m.text],rfl,rfl,by simp [zbf,zdG,eqV]⟩
theorem zkm {ks:List V} {n:V}:anyV ks n=true↔n∈ks:=by
 simp only [anyV,List.any_eq_true,zmS]
 constructor
 ·rintro ⟨x,hx,rfl⟩;exact hx
 ·intro h;exact ⟨n,h,rfl⟩
theorem zuO {ks:List V} {n:V} (h:anyV ks n=false):n ∉ ks:=fun hm=>by rw [zkm.2 hm] at h;cases h
theorem zuY (ks:List V) (n:V) (h:anyV ks n=false):PutAt (ks.map itV) n.av (bv true) ((ks++[n]).map itV):=by
 refine .new (fun p hp=>?_) ?_
 ·obtain ⟨m,hm,rfl⟩:=List.mem_map.1 hp
  have h1:=zm3 n m
  have h2:eqV n m=false:=by
   cases he:eqV n m
   ·rfl
   ·exact absurd (zmS.1 he ▸ hm) (zuO h)
  rwa [h2] at h1
 ·rw [List.map_append];exact List.perm_append_comm
theorem lookV (ks:List V) (n:V):LookAt (ks.map itV) n.av (bif anyV ks n then some (bv true) else none) where
 all:=fun p hp=>by obtain ⟨m,hm,rfl⟩:=List.mem_map.1 hp;exact ⟨_,zm3 n m⟩
 at_:=fun p hp h=>by
  obtain ⟨m,hm,rfl⟩:=List.mem_map.1 hp
  have h1:eqV n m=true:=zc2.det (zm3 n m) h
  have:n∈ks:=zmS.1 h1 ▸ hm
  rw [zkm.2 this];rfl
 some_:=fun x hx=>by
  cases h:anyV ks n
  ·rw [h] at hx;cases hx
  ·have hm:=zkm.1 h
   refine ⟨itV n,List.mem_map.2 ⟨n,hm,rfl⟩,?_⟩
   have:=zm3 n n;rwa [zmS.2 rfl] at this
theorem znR (ks:List V) (n:V):LookV (ks.map itV) n.av (.bl false) (bv (anyV ks n)) :=
 ⟨_,lookV ks n,by cases anyV ks n <;> first|exact .inr rfl|exact .inl rfl⟩
def zc5 (kc:Int) (r:Rw):Option V:=bif decide (0<=kc)&&decide (kc < ((r.vals.map V.cells).length:Int)) then some (zaz r.vals kc) else none
def zbs (kc:Int) (l:List Rw):List V:=l.filterMap (zc5 kc)
theorem zme {kc:Int} {l:List Rw} {i:Nat} {x:Rw} (hx:l[i]?=some x):zbs kc (l.take (i+1))=zbs kc (l.take i)++(zc5 kc x).toList:=by
 unfold zbs
 rw [List.take_add_one,hx,List.filterMap_append]
 cases h:zc5 kc x <;> simp [h]
theorem zuV {kc:Int} {l:List Rw} {i:Nat} {x:Rw} {ks:List V} (hI:ks=zbs kc (l.take i)/\ks.Nodup) (hx:l[i]?=some x) (h:zc5 kc x=none):ks=zbs kc (l.take (i+1))/\ks.Nodup:=by
 rw [zme hx,h];simpa using hI
theorem zyd {kc:Int} {l:List Rw} {i:Nat} {x:Rw} {ks:List V} {v:V} (hI:ks=zbs kc (l.take i)/\ks.Nodup) (hx:l[i]?=some x) (h:zc5 kc x=some v) (hn:anyV ks v=false):ks++[v]=zbs kc (l.take (i+1))/\(ks++[v]).Nodup:=by
 rw [zme hx,h]
 refine ⟨by rw [hI.1];rfl,?_⟩
 rw [List.nodup_append]
 exact ⟨hI.2,by simp,fun a ha b hb=>by simp only [List.mem_singleton] at hb;subst hb;rintro rfl;exact zuO hn ha⟩
theorem du_dup {kc:Int} {l:List Rw} {i:Nat} {x:Rw} {ks:List V} {v:V} (hI:ks=zbs kc (l.take i)/\ks.Nodup) (hx:l[i]?=some x) (h:zc5 kc x=some v) (hn:anyV ks v=true):¬ (zbs kc l).Nodup:=by
 intro hd
 have h1:zbs kc l=zbs kc (l.take (i+1))++zbs kc (l.drop (i+1)):=by unfold zbs;rw [← List.filterMap_append,List.take_append_drop]
 rw [h1,zme hx,h] at hd
 have h2:=(List.nodup_append.1 hd).1
 have h3:=(List.nodup_append.1 h2).2.2 v (by rw [← hI.1];exact zkm.1 hn) v Zs
 exact h3 rfl
theorem zBg {kc:Int} {x:Rw} (h:decide ((0:Int)<=kc)=false):zc5 kc x=none:=by simp only [zc5,h,Bool.false_and,cond_false]
theorem zBh {kc:Int} {x:Rw} (h:decide (kc < ((x.vals.map V.cells).length:Int))=false):zc5 kc x=none:=by simp only [zc5,h,Bool.and_false,cond_false]
theorem zBi {kc:Int} {x:Rw} (h:decide ((0:Int)<=kc)=true) (h2:decide (kc < ((x.vals.map V.cells).length:Int))=true):zc5 kc x=some (zaz x.vals kc):=by simp only [zc5,h,h2,Bool.and_self,cond_true]
noncomputable def zvD (s:Sch) (n:Str) (i:Nat) :Cfg:=zaj B.Cm 0 [(1,sv n),(8,.sl (s.cols.map Col.cells)),(9,iv ((s.cols.map Col.cells).length:Nat)),(10,iv (i:Nat))] [.box s.cells]
theorem zkh (s:Sch) (n:Str) (h:zac s.cols) (i:Nat)  (hi:i<=(s.cols).length) (hI:idxF (fun c=>colC c n) s.cols 0=idxF (fun c=>colC c n) (s.cols.drop i) i):((idxF (fun c=>colC c n) s.cols 0=idxF (fun c=>colC c n) (s.cols.drop (s.cols).length) (s.cols).length)/\(decide ((((s.cols).length:Nat):Int) < (((s.cols.map Col.cells).length:Nat):Int))=false)/\∀ R,Good E0 B.Cm [] (zvD s n (s.cols).length ) R->Good E0 B.Cm [] (zvD s n i ) R)\/(∃ (r:Int),r=idxF (fun c=>colC c n) s.cols 0/\Good E0 B.Cm [] (zvD s n i ) (Shut 0 fun rZ hZ=>rZ=(iv r)/\hZ=[])):=by
 have hk:=hi;revert i;refine zlp ((s.cols).length) (fun i hlt ih hi hI _=>?_)
 obtain ⟨x,hx,h0,hw⟩:=zlq (l:=s.cols) ((s.cols.map Col.cells).length) hlt
 let p_1:List St:=[sb h0,se (zaf Col.cells hx rfl)]
 cases h1:ByteArray.toList x.name==ByteArray.toList n
 ·exact zie2 (ih Zo (by exact zm2 hI hx ‹_›) Zo) fun R gY=>zab (wkl (p_1++[sb h1,si hw]) [1,8,9,10] 1 kr gY)
 ·exact .inr ⟨(i:Int),(by exact zoH hI hx ‹_›),zab (wkr (p_1++[sb h1]) kr)⟩
theorem ztZ (s:Sch) (n:Str) (hs:zac s.cols):∃ (r:Int),r=idxF (fun c=>colC c n) s.cols 0/\zaa E0 S.Cm [s.av,sv n] [] (iv r) []:=by
 rcases zkh s n Za 0 Za Za with ⟨q1,q1_1,g1⟩|⟨r1_0,p1_0,g1⟩
 ·exact ⟨-1,(by first|assumption|exact zgH ‹_›),wkc At.Cm [] [1,8,9,10] 1 kr (g1 _ (zab (wkr [sb q1_1] kr)))⟩
 ·exact ⟨r1_0,(by first|assumption|exact zgH ‹_›),wkc At.Cm [] [1,8,9,10] 1 kr (g1)⟩
theorem znE (s:Sch) (n:Str) (hs:zac s.cols):zaa E0 S.Cm [s.av,sv n] [] (iv (idxF (fun c=>colC c n) s.cols 0)) []:=by
 obtain ⟨r,rfl,h⟩:=ztZ s n hs
 exact h
structure ColV (s:Sch) (i:Nat) (x:Col):Prop where
 name:(!zaG x.name)=false
 lo:decide (x.type < 1)=false
 hi:decide ((3:Int) < x.type)=false
 key:x.key=true->x.notNull=true
 at_:(idxF (fun c=>colC c x.name) s.cols 0 != ((i:Nat):Int))=false
structure SchV (s:Sch):Prop where
 name:(!zaG s.name)=false
 lo:decide (((s.cols.map Col.cells).length:Int) < 1)=false
 hi:decide ((6:Int) < ((s.cols.map Col.cells).length:Int))=false
 cols:∀ i x,s.cols[i]?=some x->ColV s i x
 keys:s.cols.countP (fun c=>c.key)<=1
theorem SchV.short {s:Sch} (h:SchV s):zac s.cols:=by have:=h.hi;simp only [List.length_map,decide_eq_false_iff_not] at this;simp only [zac];omega
theorem zqf {l:List Col} {i k:Nat} {x:Col} (h:k=(l.take i).countP (fun c=>c.key)) (hx:l[i]?=some x) (hk:x.key=true):k+1=(l.take (i+1)).countP (fun c=>c.key):=by
 rw [List.take_add_one,hx,List.countP_append,h];simp [hk]
theorem zqe {l:List Col} {i k:Nat} {x:Col} (h:k=(l.take i).countP (fun c=>c.key)) (hx:l[i]?=some x) (hk:x.key=false):k=(l.take (i+1)).countP (fun c=>c.key):=by
 rw [List.take_add_one,hx,List.countP_append,h];simp [hk]
def get6 (n:Int):List Rw->List V × Bool
 | []=>([],false)
 | r::l=>bif r.id==n then (r.vals,true) else get6 n l
structure TabV (t:Tb):Prop where
 sch:SchV t.sch
 len:decide ((100:Int) < ((t.rows.map Rw.cells).length:Int))=false
 rows:RowsV t.sch t.next t.rows
 max:decide ((2147483648:Int) < t.next)=false
 key:idxF (fun c=>c.key) t.sch.cols 0=keyC t.sch
theorem TabV.shr {t:Tb} (h:TabV t):zac t.rows:=by have:=h.len;simp only [List.length_map,decide_eq_false_iff_not] at this;simp only [zac];omega
theorem TabV.vals {t:Tb} (h:TabV t):∀ r∈t.rows,zac r.vals:=fun r hr=>by
 have h1:=(h.rows.fit r hr).len
 have h2:=h.sch.short
 have h3:r.vals.length=t.sch.cols.length:=h1
 simp only [zac] at *;omega
theorem zA4 {c:Col} {v:V} (h:ValOk c v) (hc:zgi c):fit4 c v=0:=by
 unfold fit4
 cases h0:v.kind==0
 ·have hk:v.kind=c.type:=h.kind.resolve_left (by simpa using h0)
  simp [hk]
 ·have h1:v.kind=0:=by simpa using h0
  cases hn:c.notNull
  ·rfl
  ·have:=h.nn hn;simp only [zgi] at hc;omega
theorem zu2:∀ (cs:List Col) (vs:List V),(∀ c∈cs,zgi c)->(∀ (k:Nat) (c:Col) (v:V),cs[k]?=some c->vs[k]?=some v->ValOk c v)->fitL cs vs=0
 | [],_,_,_=>by unfold fitL;rfl
 | _::_,[],_,_=>rfl
 | c::cs,v::vs,hc,h=>by
  have h0:=zA4 (h 0 c v rfl rfl) (hc c Zs)
  simp only [fitL,h0,bne_self_eq_false,cond_false]
  exact zu2 cs vs (fun c h=>hc c (by simp [h])) fun k c v h1 h2=>h (k+1) c v (by simpa using h1) (by simpa using h2)
theorem SchV.cok {s:Sch} (h:SchV s):∀ c∈s.cols,zgi c:=fun c hc=>by
 obtain ⟨i,hi⟩:=List.getElem?_of_mem hc
 have h1:=(h.cols i c hi).lo
 have h2:=(h.cols i c hi).hi
 simp only [decide_eq_false_iff_not] at h1 h2
 simp only [zgi];omega
theorem zu1 {s:Sch} {vs:List V} (hs:SchV s) (h:zcX s.cols vs):fit5 s vs=0:=by
 unfold fit5
 rw [show (vs.length != s.cols.length)=false by have:=h.len;simpa using this]
 exact zu2 _ _ hs.cok h.at_
theorem ztl {cols:List Col} {vals:List V} (h:zcX cols vals):∀ v∈vals,v.Good:=PrefOk.good h
structure RowF (t:Tb) (x:Rw):Prop where
 lo:decide (x.id < 1)=false
 hi:decide (t.next<=x.id)=false
 fit:zaa E0 S.DS [t.sch.av,vsl x.vals] [] (iv 0) []
theorem zoT {kc:Int}:∀ (l:List Rw),(0<=kc->l.Pairwise fun a b=>zaz a.vals kc≠zaz b.vals kc)->(zbs kc l).Nodup
 | [],_=>by simp [zbs]
 | r::l,h=>by
  have ih:=zoT l fun hk=>(List.pairwise_cons.1 (h hk)).2
  unfold zbs at ih ⊢
  rw [List.filterMap_cons]
  cases hr:zc5 kc r with
  | none=>exact ih
  | some v =>
   refine List.nodup_cons.2 ⟨fun hm=>?_,ih⟩
   obtain ⟨q,hq,hv⟩:=List.mem_filterMap.1 hm
   unfold zc5 at hr hv
   by_cases hk:0<=kc
   ·cases c1:decide (kc < ((r.vals.map V.cells).length:Int)) <;> rw [c1] at hr
    ·simp at hr
    ·cases c2:decide (kc < ((q.vals.map V.cells).length:Int)) <;> rw [c2] at hv
     ·simp at hv
     ·simp only [hk,decide_true,Bool.and_self,cond_true,Option.some.injEq] at hr hv
      exact (List.pairwise_cons.1 (h hk)).1 q hq (hr.trans hv.symm)
   ·simp [hk] at hr
structure CmpOk {α:Type} (c:α->α->Int):Prop where
 zero:∀ a b,c a b=0↔a=b
 anti:∀ a b,c a b < 0↔0 < c b a
 trans:∀ {a b d},c a b < 0->c b d < 0->c a d < 0
def lexC {α:Type} (c:α->α->Int):List α->List α->Int
 | [],[]=>0
 | [],_::_=>-1
 | _::_,[]=>1
 | a::x,b::y=>if c a b=0 then lexC c x y else c a b
theorem zqw {α:Type} {c:α->α->Int} (h:CmpOk c):∀ a b,lexC c a b=0↔a=b
 | [],[]=>by simp [lexC]
 | [],_::_=>by simp [lexC]
 | _::_,[]=>by simp [lexC]
 | a::x,b::y=>by
  have ih:=zqw h x y
  have hz:=h.zero a b
  simp only [lexC,List.cons.injEq]
  split
  ·rename_i e;simp [ih,hz.1 e]
  ·rename_i e;exact ⟨fun k=>absurd k e,fun k=>absurd (hz.2 k.1) e⟩
theorem zqv {α:Type} {c:α->α->Int} (h:CmpOk c):∀ a b,lexC c a b < 0↔0 < lexC c b a
 | [],[]=>by simp [lexC]
 | [],_::_=>by simp [lexC]
 | _::_,[]=>by simp [lexC]
 | a::x,b::y=>by
  have ih:=zqv h x y
  have hz:=h.zero a b
  have hz2:=h.zero b a
  have ha:=h.anti a b
  simp only [lexC]
  by_cases e:a=b
  ·rw [if_pos (hz.2 e),if_pos (hz2.2 e.symm)];exact ih
  ·rw [if_neg (fun k=>e (hz.1 k)),if_neg (fun k=>e (hz2.1 k).symm)];exact ha
theorem zoW {α:Type} {c:α->α->Int} (h:CmpOk c):∀ {a b d},lexC c a b < 0->lexC c b d < 0->lexC c a d < 0
 | x,y,[],_,h2=>by cases y <;> simp [lexC] at h2
 | x,[],e::z,h1,_=>by cases x <;> simp [lexC] at h1
 | [],b::y,e::z,_,_=>by simp [lexC]
 | a::x,b::y,e::z,h1,h2=>by
  simp only [lexC] at h1 h2 ⊢
  by_cases e1:a=b
  ·subst e1
   rw [if_pos ((h.zero a a).2 rfl)] at h1
   by_cases e2:a=e
   ·subst e2
    rw [if_pos ((h.zero a a).2 rfl)] at h2 ⊢
    exact zoW h h1 h2
   ·rw [if_neg (fun k=>e2 ((h.zero _ _).1 k))] at h2 ⊢
    exact h2
  ·rw [if_neg (fun k=>e1 ((h.zero _ _).1 k))] at h1
   by_cases e2:b=e
   ·subst e2
    rw [if_neg (fun k=>e1 ((h.zero _ _).1 k))]
    exact h1
   ·rw [if_neg (fun k=>e2 ((h.zero _ _).1 k))] at h2
    have h3:=h.trans h1 h2
    rw [if_neg Zo]
    exact h3
theorem CmpOk.lex {α:Type} {c:α->α->Int} (h:CmpOk c):CmpOk (lexC c):=⟨zqw h,zqv h,zoW h⟩
def zrr (a b:UInt8):Int:=if a < b then -1 else if b < a then 1 else 0
theorem zzr:CmpOk zrr:=by
 refine ⟨fun a b=>?_,fun a b=>?_,fun {a b d} h1 h2=>?_⟩
 all_goals simp only [zrr,UInt8.lt_iff_toNat_lt,← UInt8.toNat_inj] at *
 all_goals repeat' split
 all_goals (try omega)
 all_goals (repeat' split at h1)
 all_goals (try omega)
 all_goals (repeat' split at h2)
 all_goals omega
theorem zdn:∀ a b,Lib.compareBytes a b=lexC zrr a b
 | [],[]=>rfl
 | [],_::_=>rfl
 | _::_,[]=>rfl
 | a::x,b::y=>by
  have ih:=zdn x y
  simp only [Lib.compareBytes,lexC,zrr,ih]
  by_cases h1:a < b
  ·simp [h1]
  ·by_cases h2:b < a
   ·simp [h1,h2]
   ·simp [h1,h2]
theorem zAZ:CmpOk cmpI:=by
 refine ⟨fun a b=>?_,fun a b=>?_,fun {a b d} h1 h2=>?_⟩
 all_goals simp only [cmpI] at *
 all_goals repeat' split
 all_goals (try omega)
 all_goals (repeat' split at h1)
 all_goals (try omega)
 all_goals (repeat' split at h2)
 all_goals omega
theorem zuU:CmpOk cmpB:=by
 have h:=zzr.lex
 refine ⟨fun a b=>?_,fun a b=>?_,fun {a b d} h1 h2=>?_⟩
 ·simp only [cmpB,zdn,h.zero]
  constructor
  ·intro e;cases a;cases b;simp at e;rw [e]
  ·intro e;rw [e]
 ·simp only [cmpB,zdn];exact h.anti _ _
 ·simp only [cmpB,zdn] at *;exact h.trans h1 h2
theorem zj2 (a b:V):rCmp a b=if cmpI a.kind b.kind=0 then (if cmpI a.int b.int=0 then cmpB a.text b.text else cmpI a.int b.int) else cmpI a.kind b.kind:=by
 unfold rCmp zwx zww
 rcases Int.lt_trichotomy a.kind b.kind with h1|h1|h1
 ·have e:(a.kind != b.kind)=true:=by simp;omega
  rw [zmR h1];simp [h1,e]
 ·rw [zmP h1]
  rcases Int.lt_trichotomy a.int b.int with h2|h2|h2
  ·have e:(a.int != b.int)=true:=by simp;omega
   rw [zmR h2];simp [h1,h2,e]
  ·rw [zmP h2];simp [h1,h2]
  ·have e:(a.int != b.int)=true:=by simp;omega
   have e2:¬ a.int < b.int:=by omega
   rw [zmQ h2];simp [h1,e,e2]
 ·have e:(a.kind != b.kind)=true:=by simp;omega
  have e2:¬ a.kind < b.kind:=by omega
  rw [zmQ h1];simp [e,e2]
theorem zBB:CmpOk rCmp:=by
 have hi:=zAZ
 have hb:=zuU
 refine ⟨fun a b=>?_,fun a b=>?_,fun {a b d} h1 h2=>?_⟩
 ·rw [zj2]
  have z1:=hi.zero a.kind b.kind
  have z2:=hi.zero a.int b.int
  have z3:=hb.zero a.text b.text
  constructor
  ·intro h
   split at h
   ·split at h
    ·cases a;cases b;simp_all
    ·omega
   ·omega
  ·rintro rfl
   simp [(hi.zero _ _).2 rfl,(hb.zero _ _).2 rfl]
 ·rw [zj2,zj2]
  have z1:=hi.zero a.kind b.kind
  have z1':=hi.zero b.kind a.kind
  have z2:=hi.zero a.int b.int
  have z2':=hi.zero b.int a.int
  by_cases e1:a.kind=b.kind
  ·rw [if_pos (z1.2 e1),if_pos (z1'.2 e1.symm)]
   by_cases e2:a.int=b.int
   ·rw [if_pos (z2.2 e2),if_pos (z2'.2 e2.symm)];exact hb.anti _ _
   ·rw [if_neg (fun k=>e2 (z2.1 k)),if_neg (fun k=>e2 (z2'.1 k).symm)];exact hi.anti _ _
  ·rw [if_neg (fun k=>e1 (z1.1 k)),if_neg (fun k=>e1 (z1'.1 k).symm)];exact hi.anti _ _
 ·have key:∀ x y:V,rCmp x y < 0↔x.kind < y.kind\/(x.kind=y.kind/\(x.int < y.int\/(x.int=y.int/\cmpB x.text y.text < 0))):=by
   intro x y
   rw [zj2]
   rcases Int.lt_trichotomy x.kind y.kind with h1|h1|h1
   ·rw [zmR h1];simp [h1]
   ·rw [zmP h1]
    rcases Int.lt_trichotomy x.int y.int with h2|h2|h2
    ·rw [zmR h2];simp [h1,h2]
    ·rw [zmP h2];simp [h1,h2]
    ·have e:¬ x.int < y.int:=by omega
     have e2:x.int≠y.int:=by omega
     rw [zmQ h2];simp [h1,e,e2]
   ·have e:¬ x.kind < y.kind:=by omega
    have e2:x.kind≠y.kind:=by omega
    rw [zmQ h1];simp [e,e2]
  rw [key] at h1 h2 ⊢
  rcases h1 with h1|⟨e1,h1|⟨f1,h1⟩⟩ <;> rcases h2 with h2|⟨e2,h2|⟨f2,h2⟩⟩
  all_goals first|(left;omega)|(right;refine ⟨by omega,?_⟩;first|(left;omega)|(right;exact ⟨by omega,hb.trans h1 h2⟩))
theorem zqC (a b:List V):∀ (l:List V) (i:Nat),i<=b.length->a.length=i+l.length->zmn a b l i=lexC rCmp l (b.drop i)
 | [],i,hi,ha=>by
  simp only [zmn,List.length_map]
  simp at ha
  by_cases h:i=b.length
  ·have e1:b.drop i=[]:=List.drop_of_length_le Zo
   have e2:¬ ((a.length:Nat):Int) < (b.length:Nat):=by omega
   have e3:¬ ((b.length:Nat):Int) < (a.length:Nat):=by omega
   rw [e1];simp only [lexC,e2,e3,decide_false,cond_false]
  ·have e2:((a.length:Nat):Int) < (b.length:Nat):=by omega
   cases hd:b.drop i with
   | nil=>have:=congrArg List.length hd;simp at this;omega
   | cons y s=>simp only [lexC,e2,decide_true,cond_true]
 | x::r,i,hi,ha=>by
  simp only [zmn,List.length_map]
  by_cases h:i < b.length
  ·have e2:((i:Nat):Int) < (b.length:Nat):=by omega
   have hv:zaz b ((i:Nat):Int)=b[i]:=by simp [zaz,h]
   rw [List.drop_eq_getElem_cons h]
   have ih:=zqC a b r (i+1) Zo (by simp at ha;omega)
   simp only [e2,decide_true,cond_true,hv,ih,lexC]
   by_cases hz:rCmp x b[i]=0
   ·simp [hz]
   ·have hb:(rCmp x b[i] != 0)=true:=by simpa using hz
    simp [hz,hb]
  ·have e2:¬ ((i:Nat):Int) < (b.length:Nat):=by omega
   have e1:b.drop i=[]:=List.drop_of_length_le Zo
   have f1:¬ ((a.length:Nat):Int) < (b.length:Nat):=by simp at ha;omega
   have f2:((b.length:Nat):Int) < (a.length:Nat):=by simp at ha;omega
   rw [e1]
   simp only [e2,f1,f2,decide_false,decide_true,cond_false,cond_true,lexC]
theorem zAi (a b:List V):ziQ a b=lexC rCmp a b:=zqC a b a 0 Zo Zo
theorem zti:CmpOk ziQ:=by
 have:ziQ=lexC rCmp:=funext fun a=>funext fun b=>zAi a b
 rw [this];exact zBB.lex
/- ### sorting -/
abbrev LeR (x y:List V):Prop:=¬ 0 < ziQ x y
theorem zBk (x y:List V):LeR x y↔ziQ x y < 0\/x=y:=by
 have h:=zti.zero x y
 unfold LeR
 constructor
 ·intro h1
  by_cases h2:ziQ x y=0
  ·exact .inr (h.1 h2)
  ·exact .inl Zo
 ·rintro (h1|h1)
  ·omega
  ·rw [h.2 h1];omega
theorem LeR.trans {x y z:List V} (h1:LeR x y) (h2:LeR y z):LeR x z:=by
 rw [zBk] at *
 rcases h1 with h1|rfl
 ·rcases h2 with h2|rfl
  ·exact .inl (zti.trans h1 h2)
  ·exact .inl h1
 ·exact h2
structure ChV (t:Tb) (c:Ch):Prop where
 del:c.del.Pairwise fun a b=>a < b
 delIn:∀ d∈c.del,(get6 d t.rows).2=true
 upd:c.upd.Pairwise fun a b=>a.id < b.id
 updIn:∀ p∈c.upd,get6 p.id t.rows=(p.old,true)/\anyI c.del p.id=false/\p.nw.length=t.sch.cols.length
 ins:∀ r∈c.ins,r.length=t.sch.cols.length
 ld:c.del.length<=100000
 lu:c.upd.length<=100000
 li:c.ins.length<=100000
structure UpF (t:Tb) (c:Ch) (x:Pr):Prop where
 get:zaa E0 S.DT [t.av,iv x.id] [] (.tup [vsl x.old,bv true]) []
 cmp:zaa E0 S.DJ [vsl x.old,vsl x.old] [] (iv 0) []
 look:LookV (c.del.map itI) (iv x.id) (.bl false) (bv false)
 len:(((x.nw.map V.cells).length:Int) != ((t.sch.cols.map Col.cells).length:Int))=false
theorem zql {n:Int}:∀ (l:List Rw),(get6 n l).2=true->∃ r∈l,r.id=n/\(get6 n l).1=r.vals
 | [],h=>by cases h
 | r::l,h=>by
  unfold get6 at h ⊢
  cases h1:r.id==n
  ·rw [h1] at h
   obtain ⟨q,hq,h2⟩:=zql l h
   exact ⟨q,by simp [hq],h2⟩
  ·exact ⟨r,by simp,by simpa using h1,rfl⟩
def zrv (s:Sch):List Pr->Int
 | []=>0
 | p::r=>bif fit5 s p.nw != 0 then fit5 s p.nw else zrv s r
def zru (s:Sch):List (List V)->Int
 | []=>0
 | p::r=>bif fit5 s p != 0 then fit5 s p else zru s r
def midS (c:Ch) (r:Rw):Option Rw:=bif anyI c.del r.id then none else some ⟨r.id,bif (fnd7 r.id c.upd).2 then (fnd7 r.id c.upd).1 else r.vals⟩
def midR (c:Ch) (l:List Rw):List Rw:=l.filterMap (midS c)
def insN:Int->List (List V)->List Rw
 | _,[]=>[]
 | n,v::r=>⟨n,v⟩::insN (n+1) r
theorem zsS:∀ (l:List (List V)) (n:Int) (v:List V),insN n (l++[v])=insN n l++[⟨n+(l.length:Int),v⟩]
 | [],n,v=>by simp [insN]
 | x::l,n,v=>by
  have:=zsS l (n+1) v
  simp only [List.cons_append,insN,this,List.length_cons]
  have e:n+1+(l.length:Int)=n+((l.length+1:Nat):Int):=by omega
  rw [e]
theorem zhT:∀ (l:List (List V)) (n:Int),(insN n l).length=l.length
 | [],_=>rfl
 | _::l,n=>by simp [insN,zhT l]
def apT (t:Tb) (c:Ch):Tb:=⟨t.sch,t.next+(c.ins.length:Int),midR c t.rows++insN t.next c.ins⟩
abbrev zxJ (t:Tb) (c:Ch):List V:=zbs (idxF (fun z=>z.key) t.sch.cols 0) (midR c t.rows++insN t.next c.ins)
structure ApQ (t:Tb) (c:Ch) (x:Tb) (g:Int):Prop where
 ok:g=0->x=apT t c/\zrv t.sch c.upd=0/\zru t.sch c.ins=0/\(zxJ t c).Nodup
 err:g=0\/g=9\/g=10\/g=zrv t.sch c.upd\/g=zru t.sch c.ins
 good:zrv t.sch c.upd=0->zru t.sch c.ins=0->(midR c t.rows).length+c.ins.length<=100->(c.ins.length:Int)<=2147483648 - t.next->(zxJ t c).Nodup->g=0
 lim:g=0->(midR c t.rows).length+c.ins.length<=100/\(c.ins.length:Int)<=2147483648 - t.next
section
variable {t x : Tb} {c : Ch} {g nx : Int} {rs rs' : List Rw} {b : Bool}
end
abbrev tab1 (m:List Tb) (w:Str) (c:Ch):List Tb:=m.set (idxF (fun t=>zaw t w) m 0).toNat (apT (tabC m w) c)
def twC (m:List Tb) (a:Ac):Ch × Int:=zaZ 6 a [] m
def twD (m:List Tb) (w:Str) (a:Ac):Ch × Int:=zaZ 6 a [] (tab1 m w (twC m a).1)
structure TwD (m:List Tb) (w:Str) (e:X):Prop where
 c:Pure S.Ak [(acD w e).av,fsl [],tsl m] (.tup [(twC m (acD w e)).1.av,iv (twC m (acD w e)).2])
 a:((twC m (acD w e)).2 != 0)=false->Pure S.DM [(tabC m w).av,(twC m (acD w e)).1.av] (.tup [(apT (tabC m w) (twC m (acD w e)).1).av,iv 0])
 d:((twC m (acD w e)).2 != 0)=false->Pure S.Ak [(acD w e).av,fsl [],tsl (tab1 m w (twC m (acD w e)).1)] (.tup [Ch.av ⟨[],[],[]⟩,iv 0])
 l:((twC m (acD w e)).2 != 0)=false->((((apT (tabC m w) (twC m (acD w e)).1).rows.map Rw.cells).length:Int) != IntKind.i64.wrap ((((tabC m w).rows.map Rw.cells).length:Int) - (((twC m (acD w e)).1.del.map zbw).length:Int)))=false
 tab:decide (idxF (fun t=>zaw t w) m 0 < 0)=false
 short:zac m
structure TwU (m:List Tb) (w:Str) (v e:X):Prop where
 c:Pure S.Ak [(acU w sN v e).av,fsl [],tsl m] (.tup [(twC m (acU w sN v e)).1.av,iv (twC m (acU w sN v e)).2])
 a:((twC m (acU w sN v e)).2 != 0)=false->Pure S.DM [(tabC m w).av,(twC m (acU w sN v e)).1.av] (.tup [(apT (tabC m w) (twC m (acU w sN v e)).1).av,iv 0])
 d:((twC m (acU w sN v e)).2 != 0)=false->Pure S.Ak [(acU w sN v e).av,fsl [],tsl (tab1 m w (twC m (acU w sN v e)).1)] (.tup [(twD m w (acU w sN v e)).1.av,iv (twD m w (acU w sN v e)).2])
 u:((twC m (acU w sN v e)).2 != 0)=false->((twD m w (acU w sN v e)).2==0)=true->∀ p∈(twD m w (acU w sN v e)).1.upd,p.old=p.nw
 lu:((twC m (acU w sN v e)).2 != 0)=false->∀ p∈(twD m w (acU w sN v e)).1.upd,zac p.old
 ul:((twC m (acU w sN v e)).2 != 0)=false->zac (twD m w (acU w sN v e)).1.upd
theorem zd9 {s:Sch} {i:Nat} {x:Col} (h:(zaG x.name&&decide (1<=x.type)&&decide (x.type<=3)&&(!x.key || x.notNull)&&(idxF (fun c=>colC c x.name) s.cols 0==((i:Nat):Int)))=true):ColV s i x:=by
 simp only [Bool.and_eq_true,decide_eq_true_eq,beq_iff_eq,Bool.or_eq_true,Bool.not_eq_true'] at h
 obtain ⟨⟨⟨⟨h1,h2⟩,h3⟩,h4⟩,h5⟩:=h
 refine ⟨by rw [h1];rfl,by simp;omega,by simp;omega,fun hk=>?_,by simp [h5]⟩
 rcases h4 with h4|h4
 ·rw [hk] at h4;cases h4
 ·exact h4
theorem zed {s:Sch} (hs:s∈zak):SchV s:=by
 simp only [zak,List.mem_cons,List.not_mem_nil,or_false] at hs
 rcases hs with rfl|rfl|rfl
 ·refine ⟨by kernel_rfl,by kernel_rfl,by kernel_rfl,fun i x hx=>?_,by decide⟩
  match i,hx with
  | 0,hx=>cases hx;exact zd9 kr
  | 1,hx=>cases hx;exact zd9 kr
  | i+2,hx=>simp at hx
 ·refine ⟨by kernel_rfl,by kernel_rfl,by kernel_rfl,fun i x hx=>?_,by decide⟩
  match i,hx with
  | 0,hx=>cases hx;exact zd9 kr
  | 1,hx=>cases hx;exact zd9 kr
  | 2,hx=>cases hx;exact zd9 kr
  | 3,hx=>cases hx;exact zd9 kr
  | i+4,hx=>simp at hx
 ·refine ⟨by kernel_rfl,by kernel_rfl,by kernel_rfl,fun i x hx=>?_,by decide⟩
  match i,hx with
  | 0,hx=>cases hx;exact zd9 kr
  | 1,hx=>cases hx;exact zd9 kr
  | 2,hx=>cases hx;exact zd9 kr
  | i+3,hx=>simp at hx
theorem zyC {s:Sch} (hs:s∈zak):idxF (fun c=>c.key) s.cols 0=keyC s:=by
 simp only [zak,List.mem_cons,List.not_mem_nil,or_false] at hs
 rcases hs with rfl|rfl|rfl <;> kernel_rfl
theorem StoreV.tabV {n:Int} {m:List Tb} (h:StoreV n m) (hn:n<=100) {t:Tb} (ht:t∈m):TabV t:=by
 have hs:t.sch∈zak:=by rw [← h.schs];exact List.mem_map_of_mem ht
 have h1:=h.len t ht
 have h2:=h.next t ht
 exact ⟨zed hs,by simp;omega,h.rows t ht,by simp;omega,zyC hs⟩
theorem StoreV.set {n:Int} {m:List Tb} (h:StoreV n m) {i:Nat} {t u:Tb} (hi:m[i]?=some t) (hs:u.sch=t.sch) (hr:RowsV u.sch u.next u.rows) (hx:u.next<=3000) (hl:(u.rows.length:Int)<=n):StoreV n (m.set i u):=by
 have hm:∀ x∈m.set i u,x∈m\/x=u:=fun x hx=>List.mem_or_eq_of_mem_set hx
 refine ⟨?_,fun x hx=>?_,fun x hx=>?_,fun x hx=>?_⟩
 ·rw [List.map_set,hs]
  have:(m.map Tb.sch).set i t.sch=m.map Tb.sch:=by
   obtain ⟨hl,e⟩:=List.getElem?_eq_some_iff.1 hi
   have e2:t.sch=(m.map Tb.sch)[i]'(by simpa using hl):=by simp [e]
   rw [e2];exact List.set_getElem_self _
  rw [this];exact h.schs
 ·rcases hm x hx with h1|rfl
  ·exact h.rows x h1
  ·exact hr
 ·rcases hm x hx with h1|rfl
  ·exact h.next x h1
  ·assumption
 ·rcases hm x hx with h1|rfl
  ·exact h.len x h1
  ·exact hl
section
variable {G : Str -> List Col} {tbs : List Sch} {tb : List Tb} {M n : Nat} {frs : List Fr} {w : Int} {s : Sch} {a : Ac} {q : Qy}
theorem zgD {cols:List Col} {its:List X} (h:zdd tbs M frs cols cols.length its) {x:X} (hx:x∈its):∃ c∈cols,XT tbs M frs c.type x:=by
 obtain ⟨j,hj⟩:=List.getElem?_of_mem hx
 have:=zbY hj
 obtain ⟨c,hc⟩:=zaY (l:=cols) (i:=j) (by have:=h.1;omega)
 exact ⟨c,List.mem_of_getElem? hc,h.2 j c x hc hj⟩
theorem ze5 (hs:s∈zak):2<=s.cols.length/\s.cols.length<=4:=by
 simp only [zak,List.mem_cons,List.not_mem_nil,or_false] at hs
 rcases hs with rfl|rfl|rfl <;> simp
theorem QyT.ok (hs:s∈zak) (h:QyT tbs M frs s q):QW M q:=by
 cases h with
 | mk hf hc hw hx =>
  refine ⟨?_,?_,fun x h=>?_,fun x h=>(hx x h).ok⟩
  ·have h1:=hc.1;have h2:=ze5 hs;simp only [Few,Qy.items_mk];omega
  ·simp only [Few,Qy.wh_mk];omega
  ·obtain ⟨c,_,h1⟩:=zgD hc h;exact h1.ok
theorem ActT.ok (h:ActT tbs M frs a):AcOk M a/\(1<=a.kind/\a.kind<=3):=by
 cases h with
 | @rows s rows hs h1 h2 hr =>
  refine ⟨⟨by simp only [Few];omega,fun r h=>⟨?_,fun x hx=>?_⟩,by simp,by simp,by simp,by simp,by simp,by simp⟩,by simp⟩
  ·have h3:=(hr r h).1;have h4:=ze5 hs;simp only [Few];omega
  ·obtain ⟨c,_,h1⟩:=zgD (hr r h) hx;exact h1.ok
 | copy hs hq =>
  refine ⟨⟨by simp,by simp,by simp,fun x hx=>?_,by simp,by simp,by simp,by simp⟩,by simp⟩
  simp only [List.mem_singleton] at hx;subst hx;exact hq.ok hs
 | @upd s first i sets wh hs h1 hI hw hx =>
  refine ⟨⟨by simp,by simp,by simp,by simp,by have:=hI.len;have:=hI.two;simp only [Few];omega,fun x hx=>?_,by simp only [Few];omega,fun x h=>(hx x h).ok⟩,by simp⟩
  obtain ⟨j,hj⟩:=List.getElem?_of_mem hx
  obtain ⟨c,_,_,h3⟩:=hI.at_ j x hj
  exact h3.ok
 | del hs hw hx=>exact ⟨⟨by simp,by simp,by simp,by simp,by simp,by simp,by simp only [Few];omega,fun x h=>(hx x h).ok⟩,by simp⟩
/- ### validity -/
theorem zrZ (hG:EnvT G) (ht:TbE G tbs tb) {l:List X} {fr:List Fr} (hf:FsT' G fr) (h:∀ x∈l,∃ w,XT tbs M fr w x):l.all (vX M)=true:=List.all_eq_true.2 fun x hx=>by
 obtain ⟨w,h1⟩:=h x hx
 exact h1.vx hG ht hf
theorem znQ (hG:EnvT G) (ht:TbE G tbs tb) {l:List X} {fr:List Fr} (hf:FsT' G fr) (hl:l.length<=1) (h:∀ x∈l,XT tbs M fr 2 x):zcL (vX M) l=true:=by
 unfold zcL
 rw [zrZ hG ht hf fun x hx=>⟨2,h x hx⟩]
 have:decide (((zad l).length:Int)<=1)=true:=by simp;omega
 rw [this];rfl
theorem zAj (hG:EnvT G) (ht:TbE G tbs tb) (hf:FsT' G frs) (hs:s∈zak) {rows:List (List X)} (hl:rows.length<=3) (h:ziD tbs M frs s rows):zeH (vX M) rows=true:=by
 unfold zeH
 have h1:decide (((rows.map zau).length:Int)<=8)=true:=by simp;omega
 rw [h1,cond_true,List.all_eq_true]
 intro r hr
 have h2:=(h r hr).1
 have h3:=ze5 hs
 have h4:decide (((zad r).length:Int) < 1)=false:=by simp;omega
 have h5:decide (6 < ((zad r).length:Int))=false:=by simp;omega
 unfold zcJ
 rw [h4,h5,zrZ hG ht hf fun x hx=>(by obtain ⟨c,_,h6⟩:=zgD (h r hr) hx;exact ⟨_,h6⟩)];rfl
theorem qyB_ok (hG:EnvT G) (ht:TbE G tbs tb) (hf:FsT' G frs) (hs:s∈zak) (h:QyT tbs M frs s q):qyB (vX M) q=true:=by
 cases h with
 | @mk f its wh hfm hc hw hx =>
  have h2:=hc.1
  have h3:=ze5 hs
  have hfi:=hf.ins ht hfm
  have h4:(!(false==(((zad its).length:Int)==0)))=false:=by
   have:(((zad its).length:Int)==0)=false:=by simp;intro h;rw [h] at h2;simp at h2;omega
   rw [this];rfl
  have h5:decide (8 < ((zad its).length:Int))=false:=by simp;omega
  show (bif !(false==(((zad its).length:Int)==0)) then false else bif decide (8 < ((zad its).length:Int)) then false else bif zbW f.name then (bif its.all (vX M) then zcL (vX M) wh else false) else false)=true
  rw [h4,h5,ht.src f hfm,znQ hG ht hfi hw hx,zrZ hG ht hfi fun x hx=>(by obtain ⟨c,_,h6⟩:=zgD hc hx;exact ⟨_,h6⟩)];rfl
theorem zdt (hs:s∈zak):zaG s.name=true:=by have:=(zed hs).name;simpa using this
theorem zx9 (hs:s∈zak) {i j:Nat} {c d:Col} (hc:s.cols[i]?=some c) (hd:s.cols[j]?=some d) (h:c.name=d.name):i=j:=by
 have h1:=((zed hs).cols i c hc).at_
 have h2:=((zed hs).cols j d hd).at_
 rw [h] at h1
 simp only [bne_eq_false_iff_eq] at h1 h2
 omega
theorem zA8 {a b:Str} (h:a≠b):hasS [a] b=false:=by
 have h1:(ByteArray.toList a==ByteArray.toList b)=false:=by
  cases hb:ByteArray.toList a==ByteArray.toList b
  ·rfl
  ·exact absurd (zkb (by simpa using hb)) h
 have h2:(ByteArray.toList b==ByteArray.toList a)=false:=by rw [BEq.comm];exact h1
 unfold hasS zhI
 simp [stIx,h1,h2]
theorem zz5 (hs:s∈zak) {first i:Nat} {sets:List Se} (h:SetsT tbs M frs s first i sets):zfr (sets.map Se.col)=true:=by
 have h0:=ze5 hs
 have hl:=h.len
 have h2:=h.two
 have hv:∀ x∈sets,zaG x.col=true:=fun x hx=>by
  obtain ⟨j,hj⟩:=List.getElem?_of_mem hx
  obtain ⟨c,h1,h3,_⟩:=h.at_ j x hj
  have:=((zed hs).cols _ c h1).name
  rw [h3];simpa using this
 match sets,hl,hv,h.at_ with
 | [],_,_,_=>rfl
 | [x],_,hv,_ =>
  show (bif _ then false else nmL [] [x.col])=true
  have:=hv x Zs
  simp [zfr,nmL,this,hasS,zhI,stIx]
 | [x,y],_,hv,hat =>
  obtain ⟨c,c1,c2,_⟩:=hat 0 x rfl
  obtain ⟨d,d1,d2,_⟩:=hat 1 y rfl
  have hne:x.col≠y.col:=fun e=>by
   rw [c2,d2] at e
   have h5:=zx9 hs c1 d1 e
   have h6:(first+0) % s.cols.length=(first+1) % s.cols.length:=h5
   have h7:s.cols.length=2\/s.cols.length=3\/s.cols.length=4:=by omega
   rcases h7 with h7|h7|h7 <;> rw [h7] at h6 <;> omega
  have e1:=hv x Zs
  have e2:=hv y Zs
  have e3:=zA8 hne
  have e4:hasS [] x.col=false:=by simp [hasS,zhI,stIx]
  show (bif decide (8 < ((2:Nat):Int)) then false else bif !zaG x.col then false else bif hasS [] x.col then false else bif !zaG y.col then false else bif hasS [x.col] y.col then false else true)=true
  rw [e1,e2,e3,e4];rfl
 | _::_::_::_,hl,_,_=>simp at hl;omega
theorem ActT.act (hG:EnvT G) (ht:TbE G tbs tb) (hS:TbE G zak tb) (hf:FsT' G frs) (h:ActT tbs M frs a):actB (vX M) a=true:=by
 cases h with
 | @rows s rows hs h1 h2 hr =>
  have e1:=zdt hs
  have e2:decide (0 < ((rows.map zau).length:Int))=true:=by simp;omega
  have e3:=zAj hG ht hf hs h2 hr
  have:actB (vX M) (Ac.mk 1 s.name rows [] [] [] ⟨#[]⟩)=bif !zaG s.name then false else bif (decide (0 < ((rows.map zau).length:Int))==false) then false else bif zeH (vX M) rows then (bif decide (0 < ((rows.map zau).length:Int)) then true else bif ((zag []).length:Int)==1 then qy0 (vX M) (Ac.mk 1 s.name rows [] [] [] ⟨#[]⟩) else false) else false:=by kernel_rfl
  rw [this,e1,e2,e3];rfl
 | @copy s q hs hq =>
  have e1:=zdt hs
  have e3:=qyB_ok hG ht hf hs hq
  have:actB (vX M) (Ac.mk 1 s.name [] [q] [] [] ⟨#[]⟩)=bif !zaG s.name then false else qyB (vX M) q:=by kernel_rfl
  rw [this,e1,e3];rfl
 | @upd s first i sets wh hs h1 hI hw hx =>
  have e1:=zdt hs
  have hfi:=hf.ins hS hs
  have e2:decide (0 < ((sets.map Se.cells).length:Int))=true:=by have:=hI.len;simp;omega
  have e3:zdM (vX M) sets=true:=by
   unfold zdM
   have h3:sets.all (fun s=>vX M s.ex)=true:=List.all_eq_true.2 fun x hx=>by
    obtain ⟨j,hj⟩:=List.getElem?_of_mem hx
    obtain ⟨c,_,_,h3⟩:=hI.at_ j x hj
    exact h3.vx hG ht hfi
   rw [h3];exact zz5 hs hI
  have e4:=znQ hG ht hfi hw hx
  have:actB (vX M) (Ac.mk 2 s.name [] [] sets wh ⟨#[]⟩)=bif zaG s.name then (bif decide (0 < ((sets.map Se.cells).length:Int)) then (bif zdM (vX M) sets then zcL (vX M) wh else false) else false) else false:=by kernel_rfl
  rw [this,e1,e2,e3,e4];rfl
 | @del s wh hs hw hx =>
  have e1:=zdt hs
  have e4:=znQ hG ht (hf.ins hS hs) hw hx
  have:actB (vX M) (Ac.mk 3 s.name [] [] [] wh ⟨#[]⟩)=bif zaG s.name then zcL (vX M) wh else false:=by kernel_rfl
  rw [this,e1,e4];rfl
/- ### types -/
end
/- ### the home of a statement -/
theorem zfz {s:Sch} (hs:s∈zak):TabN s.name/\zat s.name=s:=by
 simp only [zak,List.mem_cons,List.not_mem_nil,or_false] at hs
 rcases hs with rfl|rfl|rfl
 ·exact ⟨.inr (.inr rfl),by kernel_rfl⟩
 ·exact ⟨.inl rfl,by kernel_rfl⟩
 ·exact ⟨.inr (.inl rfl),by kernel_rfl⟩
theorem zj9 (n:Str):zat n∈zak\/(zat n).cols=[]:=by
 unfold zat zak
 simp only [zhH]
 cases ByteArray.toList _==ByteArray.toList n
 ·cases ByteArray.toList _==ByteArray.toList n
  ·cases ByteArray.toList _==ByteArray.toList n
   ·exact .inr rfl
   ·exact .inl Zs
  ·exact .inl Zs
 ·exact .inl Zs
def zmY (n:Str):List Col:=(zat n).cols
theorem zsN:EnvT zmY:=by
 refine ⟨fun n c hc=>?_,fun n i c hc=>?_⟩
 ·rcases zj9 n with h|h
  ·obtain ⟨i,hi⟩:=List.getElem?_of_mem hc
   have:=((zed h).cols i c hi).name
   simpa using this
  ·unfold zmY at hc;rw [h] at hc;cases hc
 ·rcases zj9 n with h|h
  ·have:=((zed h).cols i c hc).at_
   simp only [bne_eq_false_iff_eq] at this
   exact this
  ·unfold zmY at hc;rw [h] at hc;simp at hc
theorem zmZ {k:Int} {m:List Tb} (hm:StoreV k m):TbE zmY zak m:=by
 refine ⟨fun s hs=>?_,fun s hs=>?_,fun s hs=>?_⟩
 ·unfold zmY;rw [(zfz hs).2]
 ·unfold zbW;rw [zdt hs];rfl
 ·obtain ⟨t1,t2,t3,t4⟩:=zqH hm (zfz hs).1
  have h1:=(zps t4).2.1
  rw [t3,(zfz hs).2] at h1
  exact Prod.ext h1 t4
theorem zu5:FsT' zmY []:=⟨by simp,by simp,by simp⟩
theorem zc8 {p:Prop} (h:p:=by first|assumption|omega|(simp;done)|(simp;omega)):p:=h
theorem zo7 {p:Prop} (h:p:=by first|rfl|exact (zBA ha ‹_› ‹_› ‹_› ‹_›).elim):p:=h
theorem zxb {p:Prop} (h:p:=by first|exact beq_self_eq_true _|(have h9:=hi ‹_›;have h8:decide (0<=v.int)=false:=‹_›;rw [h8] at h9;cases h9)):p:=h
theorem zrI {p:Prop} (h:p:=by first|trivial|assumption|(simp;done)|omega|(simp;omega)|(simp at *;omega)):p:=h
abbrev VxT (x:X):Prop:=zaa E0 S.Aj [x.av] [] (bv true) []
theorem zAS (s:Str) :∃ (r:Bool),r=zbW s/\zaa E0 S.BP [sv s] [] (bv r) []:=by
 cases h1:zaG s
 ·let p_1:List St:=[sc (zdF s),sg h1]
  cases h2:ByteArray.toList s==ZsI.toList
  ·exact ⟨ByteArray.toList s==(ByteArray.mk #[(68:UInt8),(69:UInt8),(76:UInt8),(69:UInt8),(84:UInt8),(69:UInt8),(68:UInt8)]).toList,(by (simp only [zbW, *];simp)),wk At.BP (p_1++[sg h2]) kr⟩
  ·exact ⟨true,(by (simp only [zbW, *];simp)),wk At.BP (p_1++[sb h2]) kr⟩
 ·exact ⟨true,(by (simp only [zbW, *];simp)),wk At.BP [sc (zdF s),sb h1] kr⟩
theorem zg5 (s:Str):zaa E0 S.BP [sv s] [] (bv (zbW s)) []:=by
 obtain ⟨r,rfl,h⟩:=zAS s
 exact h
theorem zBA {a:Str} (ha:zes a=true) (e1:(a.toList==sNo.toList)=false) (e2:zbW a=false) (e3:(a.toList==sNW.toList)=false) (e4:(a.toList==sOL.toList)=false):False:=by
 unfold zbW at e2
 simp only [Bool.or_eq_false_iff] at e2
 unfold zes at ha
 rw [e1,e3,e4,e2.1.1,e2.1.2,e2.2] at ha
 cases ha
theorem zjs (v:V) (hsh:zaa E0 S.Ac [(xLit v).av] [] (bv true) []) (hv:zaa E0 S.AU [v.av] [] (bv true) []) (hi:(v.kind != 1)=false->decide (0<=v.int)=true):∃ (r:Bool),r=true/\zaa E0 S.Aj [(xLit v).av] [] (bv r) []:=by
 let p_1:List St:=[sc hsh,sg Zf,sg Zt,sg Zf,sg Zt,sb Zf,sb Zt,sc hv,sg Zt]
 cases h1:(xLit v).val.kind != 1
 ·cases h2:decide (0<=(xLit v).val.int)
  ·exact ⟨false,zxb,wk At.Aj (p_1++[sg h1,sb h2]) kr⟩
  ·exact ⟨ByteArray.toList (xLit v).name==Zs0.toList,zxb,wk At.Aj (p_1++[sg h1,sg h2,sg Zt]) kr⟩
 ·exact ⟨ByteArray.toList (xLit v).name==Zs0.toList,zxb,wk At.Aj (p_1++[sb h1,sg Zt]) kr⟩
theorem zjr (a b:Str) (hsh:zaa E0 S.Ac [(xCol a b).av] [] (bv true) []) (ha:zes a=true) (hn:zaa E0 S.Aw [sv b] [] (bv true) []) (hso:zaa E0 S.BP [sv a] [] (bv (zbW a)) []):∃ (r:Bool),r=true/\zaa E0 S.Aj [(xCol a b).av] [] (bv r) []:=by
 let p_1:List St:=[sc hsh,sg Zf,sg Zt,sg Zf,sg Zt,sb Zf,sb Zf,sb Zt]
 cases h1:ByteArray.toList (xCol a b).table==Zs0.toList
 ·cases h2:zbW a
  ·cases h3:ByteArray.toList (xCol a b).table==ZsN.toList
   ·cases h4:ByteArray.toList (xCol a b).table==ZsO.toList
    ·exact ⟨false,zo7,wk At.Aj (p_1++[sg h1,sc hso,sg h2,sg h3,sb h4]) kr⟩
    ·exact ⟨(xCol a b).val.kind==(0:Int)&&((xCol a b).val.int==(0:Int)&&((xCol a b).val.text==ByteArray.mk #[]&&true)),zo7,wk At.Aj (p_1++[sg h1,sc hso,sg h2,sg h3,sg h4,sc hn,sg Zt,sq zaW]) kr⟩
   ·exact ⟨(xCol a b).val.kind==(0:Int)&&((xCol a b).val.int==(0:Int)&&((xCol a b).val.text==ByteArray.mk #[]&&true)),zo7,wk At.Aj (p_1++[sg h1,sc hso,sg h2,sb h3,sc hn,sg Zt,sq zaW]) kr⟩
  ·exact ⟨(xCol a b).val.kind==(0:Int)&&((xCol a b).val.int==(0:Int)&&((xCol a b).val.text==ByteArray.mk #[]&&true)),zo7,wk At.Aj (p_1++[sg h1,sc hso,sb h2,sc hn,sg Zt,sq zaW]) kr⟩
 ·exact ⟨(xCol a b).val.kind==(0:Int)&&((xCol a b).val.int==(0:Int)&&((xCol a b).val.text==ByteArray.mk #[]&&true)),zo7,wk At.Aj (p_1++[sb h1,sc hn,sg Zt,sq zaW]) kr⟩
noncomputable def L_alT (l:List X) (i:Nat) :Cfg:=zaj B.AX 0 [(5,xsl l),(6,iv ((zad l).length:Nat)),(7,iv (i:Nat))] []
theorem zkg (l:List X) (hl:zac l) (hv:∀ x∈l,VxT x) (i:Nat)  (hi:i<=(l).length) (hI:True):(True)/\(decide ((((l).length:Nat):Int) < (((zad l).length:Nat):Int))=false)/\∀ R,Good E0 B.AX [] (L_alT l (l).length ) R->Good E0 B.AX [] (L_alT l i ) R:=by
 have hk:=hi;revert i hI;refine zlp ((l).length) (fun i hlt ih hi hI _=>?_)
 obtain ⟨x,hx,h0,hw⟩:=zlq (l:=l) ((zad l).length) hlt
 have hvx:=hv x (List.mem_of_getElem? hx)
 obtain ⟨qZ,xZ,gZ⟩:=ih Zo zrI Zo;exact ⟨qZ,xZ,fun R hg=>zab (wkl [sb h0,se (zbr hx),sc hvx,sb Zf,si hw] [5,6,7] 0 kr (gZ R hg))⟩
theorem zAL (l:List X) (hl:zac l) (hv:∀ x∈l,VxT x):∃ (r:Bool),r=true/\zaa E0 S.AX [xsl l] [] (bv r) []:=by
 obtain ⟨q1,q1_1,g1⟩:=zkg l zc8 zc8 0 zc8 zc8
 exact ⟨true,Zr,wkc At.AX [] [5,6,7] 0 kr (g1 _ (zab (wkr [sb q1_1] kr)))⟩
theorem zbK (l:List X) (hl:zac l) (hv:∀ x∈l,VxT x):zaa E0 S.AX [xsl l] [] (bv true) []:=by
 obtain ⟨r,rfl,h⟩:=zAL l hl hv
 exact h
theorem zAQ (k o:Int) (nt:Bool) (l:List X) (q:List Qy) :∃ (r:Bool),r=true/\zaa E0 S.CP [(X.mk k o nt ⟨0,0,⟨#[]⟩⟩ ⟨#[]⟩ ⟨#[]⟩ l q).av] [] (bv r) []:=by
 exact ⟨Zs0.toList==Zs0.toList,(by exact beq_self_eq_true _),wk At.CP [sq zaW,sg Zt,sg Zt] kr⟩
noncomputable def L_vqA (k o:Int) (nt:Bool) (l:List X) (i:Nat):Cfg:=zaj B.Aj 0 [(1,.p 0 0),(99,.sl []),(100,iv 0),(101,iv (i:Nat))] [.box (xA k o nt l).cells]
theorem zbX (k o:Int) (nt:Bool) (l:List X) (i:Nat):True/\∀ R,Good E0 B.Aj [] (L_vqA k o nt l i) R->Good E0 B.Aj [] (L_vqA k o nt l i) R:=⟨trivial,fun _ h=>h⟩
theorem zk5 (k o:Int) (nt:Bool) (l:List X) (hsh:zaa E0 S.Ac [(xA k o nt l).av] [] (bv true) []) (hpl:zaa E0 S.CP [(xA k o nt l).av] [] (bv true) []) (ha:zaa E0 S.AX [xsl l] [] (bv true) []) (k1:((xA k o nt l).kind==1)=false) (k2:((xA k o nt l).kind==2)=false) (ho:((xA k o nt l).kind != 5)=true->((xA k o nt l).op != 0)=false) (hn:((xA k o nt l).kind != 6)=true->(xA k o nt l).not=false):∃ (r:Bool),r=true/\zaa E0 S.Aj [(xA k o nt l).av] [] (bv r) []:=by
 let p_1:List St:=[sc hsh,sg Zf]
 cases h1:(xA k o nt l).kind != 5
 ·cases h2:(xA k o nt l).kind != 6
  ·obtain ⟨q3,g3⟩:=zbX ((xA k o nt l).kind) ((xA k o nt l).op) ((xA k o nt l).not) ((xA k o nt l).args) (0)
   exact ⟨true,Zr,wkc At.Aj (p_1++[sb h1,sb h2,sb k1,sb k2,sc hpl,sg Zf,sc ha,sb Zf]) [1,99,100,101] 1 kr (g3 _ (zab (wkr [sb Zf] kr)))⟩
  ·obtain ⟨q4,g4⟩:=zbX ((xA k o nt l).kind) ((xA k o nt l).op) ((xA k o nt l).not) ((xA k o nt l).args) (0)
   exact ⟨true,Zr,wkc At.Aj (p_1++[sb h1,sg h2,sb (hn h2),sb k1,sb k2,sc hpl,sg Zf,sc ha,sb Zf]) [1,99,100,101] 1 kr (g4 _ (zab (wkr [sb Zf] kr)))⟩
 ·cases h5:(xA k o nt l).kind != 6
  ·obtain ⟨q6,g6⟩:=zbX ((xA k o nt l).kind) ((xA k o nt l).op) ((xA k o nt l).not) ((xA k o nt l).args) (0)
   exact ⟨true,Zr,wkc At.Aj (p_1++[sg h1,sg (ho h1),sb h5,sb k1,sb k2,sc hpl,sg Zf,sc ha,sb Zf]) [1,99,100,101] 1 kr (g6 _ (zab (wkr [sb Zf] kr)))⟩
  ·obtain ⟨q7,g7⟩:=zbX ((xA k o nt l).kind) ((xA k o nt l).op) ((xA k o nt l).not) ((xA k o nt l).args) (0)
   exact ⟨true,Zr,wkc At.Aj (p_1++[sg h1,sg (ho h1),sg h5,sb (hn h5),sb k1,sb k2,sc hpl,sg Zf,sc ha,sb Zf]) [1,99,100,101] 1 kr (g7 _ (zab (wkr [sb Zf] kr)))⟩
noncomputable def L_vqQ (k:Int) (st:Bool) (it:List X) (f:Str) (wh:List X) (i:Nat):Cfg:=zaj B.Aj 0 [(1,.p 0 0),(99,.sl [[bv st,xsl it,sv f,xsl wh]]),(100,iv 1),(101,iv (i:Nat))] [.box (xQ k st it f wh).cells]
theorem zdm (k:Int) (st:Bool) (it:List X) (f:Str) (wh:List X) (i:Nat):True/\∀ R,Good E0 B.Aj [] (L_vqQ k st it f wh i) R->Good E0 B.Aj [] (L_vqQ k st it f wh i) R:=⟨trivial,fun _ h=>h⟩
theorem zk6 (k:Int) (st:Bool) (it:List X) (f:Str) (wh:List X) (hsh:zaa E0 S.Ac [(xQ k st it f wh).av] [] (bv true) []) (hpl:zaa E0 S.CP [(xQ k st it f wh).av] [] (bv true) []) (h00:zaa E0 S.AX [.sl []] [] (bv true) []) (hit:zaa E0 S.AX [xsl it] [] (bv true) []) (hwh:zaa E0 S.AX [xsl wh] [] (bv true) []) (hso:zaa E0 S.BP [sv f] [] (bv true) []) (k1:((xQ k st it f wh).kind==1)=false) (k2:((xQ k st it f wh).kind==2)=false) (k5:((xQ k st it f wh).kind != 5)=true) (k6:((xQ k st it f wh).kind != 6)=true) (hst:(!st==(k==8))=false):∃ (r:Bool),r=true/\zaa E0 S.Aj [(xQ k st it f wh).av] [] (bv r) []:=by
 obtain ⟨q1,g1⟩:=zdm ((xQ k st it f wh).kind) st it f wh (0)
 let p_1:List St:=[sc hsh,sg Zf,sg k5,sg Zf,sg k6,sb Zf,sb k1,sb k2,sc hpl,sg Zf,sc h00,sb Zf]
 let p_2:List St:=[sb Zt,se (xs:=[[bv st,AV.sl (zad it),sv f,AV.sl (zad wh)]]) (i:=0) (c:=[bv st,AV.sl (zad it),sv f,AV.sl (zad wh)]) (n:=4) ⟨by decide,rfl,rfl⟩]
 cases h2:!st==((xQ (xQ k st it f wh).kind st it f wh).kind==8)
 ·obtain ⟨q3,g3⟩:=zdm ((xQ (xQ k st it f wh).kind st it f wh).kind) st it f wh (0+1)
  exact ⟨true,(by first|rfl|exact absurd (hst.symm.trans ‹_›) Zs),wkc At.Aj p_1 [1,99,100,101] 1 kr (g1 _ (zab (wkl (p_2++[sg h2,sc hso,sg Zf,sc hit,sg Zf,sc hwh,sb Zf,si (zbz (t:=(↑0:Int)+1) (n:=0+1) Zo Zo)]) [1,99,100,101] 1 kr (g3 _ (zab (wkr [sb Zf] kr))))))⟩
 ·exact ⟨false,(by first|rfl|exact absurd (hst.symm.trans ‹_›) Zs),wkc At.Aj p_1 [1,99,100,101] 1 kr (g1 _ (zab (wkr (p_2++[sb h2]) kr)))⟩
theorem c_vq11 (st:Bool) (it:List X) (f:Str) (wh:List X) (hit:zaa E0 S.AX [xsl it] [] (bv true) []) (hwh:zaa E0 S.AX [xsl wh] [] (bv true) []) (hso:zaa E0 S.BP [sv f] [] (bv true) []) (g1:decide ((1:Int) < (((zad wh).length:Nat):Int))=false) (g8:decide ((8:Int) < (((zad it).length:Nat):Int))=false) (hst:(st != ((((zad it).length:Nat):Int)==0))=false):∃ (r:Bool),r=true/\zaa E0 S.CV [(Qy.mk st it f wh).av] [] (bv r) []:=by
 exact ⟨true,Zr,wk At.CV [sc hso,sg Zf,sg g1,sg g8,sb hst,sc hit,sg Zt,sc hwh] kr⟩
noncomputable def L_viT (nm:Str) (l:List (List X)) (i:Nat) :Cfg:=zaj B.AM 0 [(1,.p 0 0),(27,.sl (l.map zau)),(28,iv ((l.map zau).length:Nat)),(29,iv (i:Nat))] [.box (Ac.mk 1 nm l [] [] [] ⟨#[]⟩).cells]
theorem zfR (nm:Str) (l:List (List X)) (hl:zac l) (hr:∀ r∈l,(1<=r.length/\r.length<=6)/\zaa E0 S.AX [xsl r] [] (bv true) []) (i:Nat)  (hi:i<=(l).length) (hI:True):(True)/\(decide ((((l).length:Nat):Int) < (((l.map zau).length:Nat):Int))=false)/\∀ R,Good E0 B.AM [] (L_viT nm l (l).length ) R->Good E0 B.AM [] (L_viT nm l i ) R:=by
 have hk:=hi;revert i hI;refine zlp ((l).length) (fun i hlt ih hi hI _=>?_)
 obtain ⟨x,hx,h0,hw⟩:=zlq (l:=l) ((l.map zau).length) hlt
 obtain ⟨hw1,hi1⟩:=hr x (List.mem_of_getElem? hx);have g1:decide ((((zad x).length:Nat):Int) < 1)=false:=Zp;have g2:decide ((6:Int) < (((zad x).length:Nat):Int))=false:=Zp
 obtain ⟨qZ,xZ,gZ⟩:=ih Zo zrI Zo;exact ⟨qZ,xZ,fun R hg=>zab (wkl [sb h0,se (zaf zau hx rfl),sg g1,sg g2,sc hi1,sb Zf,si hw] [1,27,28,29] 1 kr (gZ R hg))⟩
theorem zju (nm:Str) (l:List (List X)) (hl:zac l) (hr:∀ r∈l,(1<=r.length/\r.length<=6)/\zaa E0 S.AX [xsl r] [] (bv true) []) (g0:(((((zag []).length:Nat):Int)==1)==decide ((0:Int) < (((l.map (fun r=>[AV.sl (zad r)])).length:Nat):Int)))=false) (g8:decide ((8:Int) < (((l.map (fun r=>[AV.sl (zad r)])).length:Nat):Int))=false):∃ (r:Bool),r=true/\zaa E0 S.AM [(Ac.mk 1 nm l [] [] [] ⟨#[]⟩).av] [] (bv r) []:=by
 obtain ⟨q1,q1_1,g1⟩:=zfR nm l zc8 zc8 0 zc8 zc8
 exact ⟨true,Zr,wkc At.AM [sg Zf,sg g0,sb g8] [1,27,28,29] 1 kr (g1 _ (zab (wkr [sb q1_1,sb Zt] kr)))⟩
noncomputable def L_viQ (nm:Str) (q:Qy) (i:Nat):Cfg:=zaj B.AM 0 [(1,.p 0 0),(27,.sl []),(28,iv 0),(29,iv (i:Nat))] [.box (Ac.mk 1 nm [] [q] [] [] ⟨#[]⟩).cells]
theorem zfQ (nm:Str) (q:Qy) (i:Nat):True/\∀ R,Good E0 B.AM [] (L_viQ nm q i) R->Good E0 B.AM [] (L_viQ nm q i) R:=⟨trivial,fun _ h=>h⟩
theorem zjt (nm:Str) (st:Bool) (it:List X) (f:Str) (wh:List X) (hq:zaa E0 S.CV [(Qy.mk st it f wh).av] [] (bv true) []):∃ (r:Bool),r=true/\zaa E0 S.AM [(Ac.mk 1 nm [] [Qy.mk st it f wh] [] [] ⟨#[]⟩).av] [] (bv r) []:=by
 obtain ⟨q1,g1⟩:=zfQ nm (Qy.mk st it f wh) (0)
 exact ⟨true,Zr,wkc At.AM [sg Zf,sg Zf,sb Zf] [1,27,28,29] 1 kr (g1 _ (zab (wkr [sb Zf,sg Zf,se (zaC (l:=[Qy.mk st it f wh]) (i:=0) (x:=Qy.mk st it f wh) rfl),sc hq] kr)))⟩
noncomputable def L_vsJ (l:List Se) (io:Nat) (y:Se) (i:Nat) :Cfg:=zaj B.A7 1 [(0,.sl (l.map Se.cells)),(4,.p 0 0),(7,.sl (l.map Se.cells)),(8,iv ((l.map Se.cells).length:Nat)),(9,iv (io:Nat)),(26,.sl ((l.map Se.cells).take io)),(27,iv (((l.map Se.cells).take io).length:Nat)),(28,iv (i:Nat))] [.box y.cells]
theorem zgP (l:List Se) (io:Nat) (y:Se) (hl:l.length<=2) (hdx:∀ (j:Nat) (x:Se),(l.take io)[j]?=some x->(x.col.toList==y.col.toList)=false) (i:Nat)  (hi:i<=((l.take io)).length) (hI:True):(True)/\(decide (((((l.take io)).length:Nat):Int) < ((((l.map Se.cells).take io).length:Nat):Int))=false)/\∀ R,Good E0 B.A7 [] (L_vsJ l io y ((l.take io)).length ) R->Good E0 B.A7 [] (L_vsJ l io y i ) R:=by
 obtain ⟨kk,hk⟩:∃ kk,i+kk=((l.take io)).length:=⟨((l.take io)).length - i,by omega⟩
 induction kk generalizing i  hI with
 | zero =>
  have e0:i=((l.take io)).length:=by omega
  subst e0
  exact ⟨hI,by simp,fun R hg=>hg⟩
 | succ kk ih =>
  obtain ⟨x,hx⟩:=zaY (l:=(l.take io)) (i:=i) Zo
  have h0:decide (((i:Nat):Int) < ((((l.map Se.cells).take io).length:Nat):Int))=true:=by simp at *;omega
  have hw:IntKind.i64.wrap (((i:Nat):Int)+1)=((i+1:Nat):Int):=zaJ i (by simp at hk;omega)
  have hxe:=zyi Se.cells hx rfl;have hne:=hdx i x hx
  obtain ⟨qZ,xZ,gZ⟩:=ih (i+1) Zo zrI Zo;exact ⟨qZ,xZ,fun R hg=>zab (wkl [sb h0,se hxe,sb hne,si hw] [0,4,7,8,9,26,27,28] 1 kr (gZ R hg))⟩
noncomputable def L_vsT (l:List Se) (i:Nat) :Cfg:=zaj B.A7 0 [(0,.sl (l.map Se.cells)),(7,.sl (l.map Se.cells)),(8,iv ((l.map Se.cells).length:Nat)),(9,iv (i:Nat))] []
theorem zgQ (l:List Se) (hl:l.length<=2) (hv:∀ s∈l,zaa E0 S.Aw [sv s.col] [] (bv true) []/\VxT s.ex) (hd:∀ (i j:Nat) (x y:Se),l[i]?=some x->l[j]?=some y->j < i->(y.col.toList==x.col.toList)=false) (i:Nat)  (hi:i<=(l).length) (hI:True):(True)/\(decide ((((l).length:Nat):Int) < (((l.map Se.cells).length:Nat):Int))=false)/\∀ R,Good E0 B.A7 [] (L_vsT l (l).length ) R->Good E0 B.A7 [] (L_vsT l i ) R:=by
 have hk:=hi;revert i hI;refine zlp ((l).length) (fun i hlt ih hi hI _=>?_)
 obtain ⟨x,hx,h0,hw⟩:=zlq (l:=l) ((l.map Se.cells).length) hlt
 have hi1:=(hv x (List.mem_of_getElem? hx)).2;have hi2:=(hv x (List.mem_of_getElem? hx)).1;have hdx:∀ (j:Nat) (y:Se),(l.take i)[j]?=some y->(y.col.toList==x.col.toList)=false:=(fun j y hj=>by have h1:=zbY hj;rw [List.length_take] at h1;rw [List.getElem?_take_of_lt Zo] at hj;exact hd i j x y hx hj Zo)
 obtain ⟨q1,q1_1,g1⟩:=zgP l i x zc8 zc8 0 zc8 zc8
 obtain ⟨qZ,xZ,gZ⟩:=ih Zo zrI Zo;exact ⟨qZ,xZ,fun R hg=>zab (wkl [sb h0,se (zaf Se.cells hx rfl),sc hi2,sg Zf,sc hi1,sb Zf,sqx (SubAt (List.map Se.cells l) 0 (i:Int) 11)] [0,4,7,8,9,26,27,28] 1 kr (g1 _ (zab (wkl [sb q1_1,si hw] [0,7,8,9] 0 kr (gZ R hg)))))⟩
theorem c_vs11 (l:List Se) (hl:l.length<=2) (hv:∀ s∈l,zaa E0 S.Aw [sv s.col] [] (bv true) []/\VxT s.ex) (hd:∀ (i j:Nat) (x y:Se),l[i]?=some x->l[j]?=some y->j < i->(y.col.toList==x.col.toList)=false):∃ (r:Bool),r=true/\zaa E0 S.A7 [.sl (l.map Se.cells)] [] (bv r) []:=by
 obtain ⟨q1,q1_1,g1⟩:=zgQ l zc8 zc8 zc8 0 zc8 zc8
 exact ⟨true,Zr,wkc At.A7 [] [0,7,8,9] 0 kr (g1 _ (zab (wkr [sb q1_1] kr)))⟩
theorem zeg (nm:Str) (rows:List (List X)) (q:List Qy) (hn0:(!((1:Int)==5)==(nm.toList==Zs0.toList))=false) (hn1:(!nm.toList==Zs0.toList)=true) (hvn:zaa E0 S.Aw [sv nm] [] (bv true) []) (h00:zaa E0 S.AX [.sl []] [] (bv true) []) (hvi:zaa E0 S.AM [(Ac.mk 1 nm rows q [] [] ⟨#[]⟩).av] [] (bv true) []):∃ (r:Bool),r=true/\zaa E0 S.Be [(Ac.mk 1 nm rows q [] [] ⟨#[]⟩).av] [] (bv r) []:=by
 exact ⟨true,Zr,wk At.Be [sg Zf,sg hn0,sg hn1,sc hvn,sg Zf,sg Zt,sb Zf,sb Zf,sg Zt,sg Zt,sg Zf,sg Zt,sg Zt,sb Zf,sg Zf,sc h00,sb Zf,sb Zt,sc hvi] kr⟩
theorem ziv (nm:Str) (sets:List Se) (wh:List X) (hn0:(!((2:Int)==5)==(nm.toList==Zs0.toList))=false) (hn1:(!nm.toList==Zs0.toList)=true) (hvn:zaa E0 S.Aw [sv nm] [] (bv true) []) (hwh:zaa E0 S.AX [xsl wh] [] (bv true) []) (g1:decide ((1:Int) < (((zad wh).length:Nat):Int))=false) (s1:decide ((1:Int)<=(((sets.map Se.cells).length:Nat):Int))=true) (s8:decide ((((sets.map Se.cells).length:Nat):Int)<=8)=true) (hvs:zaa E0 S.A7 [.sl (sets.map Se.cells)] [] (bv true) []):∃ (r:Bool),r=true/\zaa E0 S.Be [(Ac.mk 2 nm [] [] sets wh ⟨#[]⟩).av] [] (bv r) []:=by
 exact ⟨true,Zr,wk At.Be [sg Zf,sg hn0,sg hn1,sc hvn,sg Zf,sg Zt,sb Zf,sg Zt,si (e:=IntKind.i64.wrap ((([]:List (List AV)).length:Int)+(↑(zag []).length:Int))) rfl,sg Zf,sb Zf,sb Zf,sg g1,sc hwh,sb Zf,sb Zf,sb Zt,sg s1,sg s8,sc hvs] kr⟩
theorem ziw (nm:Str) (wh:List X) (hn0:(!((3:Int)==5)==(nm.toList==Zs0.toList))=false) (hn1:(!nm.toList==Zs0.toList)=true) (hvn:zaa E0 S.Aw [sv nm] [] (bv true) []) (hwh:zaa E0 S.AX [xsl wh] [] (bv true) []) (g1:decide ((1:Int) < (((zad wh).length:Nat):Int))=false):∃ (r:Bool),r=true/\zaa E0 S.Be [(Ac.mk 3 nm [] [] [] wh ⟨#[]⟩).av] [] (bv r) []:=by
 exact ⟨true,Zr,wk At.Be [sg Zf,sg hn0,sg hn1,sc hvn,sg Zf,sg Zt,sb Zf,sg Zt,si (e:=IntKind.i64.wrap ((([]:List (List AV)).length:Int)+(↑(zag []).length:Int))) rfl,sg Zf,sg Zt,sg Zt,sg Zf,sg Zt,sb Zf,sg g1,sc hwh,sb Zf,sb Zf,sb Zf,sb Zt] kr⟩
theorem zAR (a:Ac) (g1:decide ((1:Int)<=a.kind)=true) (g3:decide (a.kind<=(3:Int))=true) (hv:zaa E0 S.Be [a.av] [] (bv true) []):∃ (b:Bool),b=true/\zaa E0 S.CN [a.av] [] (bv b) []:=by
 exact ⟨true,Zr,wk At.CN [sg g1,sg g3,sc hv] kr⟩
theorem shP {e:X} (h:zcQ e=true):zaa E0 S.Ac [e.av] [] (bv true) []:=by
 have:=zc1 e;rw [h] at this;exact this
theorem srcP {s:Str} (h:zbW s=true):zaa E0 S.BP [sv s] [] (bv true) []:=by
 have:=zg5 s;rw [h] at this;exact this
theorem vnP {s:Str} (h:zaG s=true):zaa E0 S.Aw [sv s] [] (bv true) []:=by
 have:=zdF s;rw [h] at this;exact this
theorem plP (k o:Int) (nt:Bool) (l:List X) (q:List Qy):zaa E0 S.CP [(X.mk k o nt ⟨0,0,⟨#[]⟩⟩ ⟨#[]⟩ ⟨#[]⟩ l q).av] [] (bv true) []:=by
 obtain ⟨_,rfl,h⟩:=zAQ k o nt l q;exact h
theorem vxA {k o:Int} {nt:Bool} {l:List X} (hk:OpK k) (hs:zcQ (xA k o nt l)=true) (ho:k≠5->o=0) (hn:k≠6->nt=false) (hl:zac l) (hv:∀ x∈l,VxT x):VxT (xA k o nt l):=by
 obtain ⟨_,rfl,h⟩:=zk5 k o nt l (shP hs) (plP _ _ _ _ _) (zbK l hl hv) (by rcases hk with rfl|rfl|rfl|rfl|rfl <;> rfl) (by rcases hk with rfl|rfl|rfl|rfl|rfl <;> rfl)
  (fun e=>by have:=ho (by simpa using e);subst this;rfl) (fun e=>hn (by simpa using e))
 exact h
theorem mem2 {P:X->Prop} {a b:X} (ha:P a) (hb:P b):∀ x∈[a,b],P x:=fun x hx=>by
 simp only [List.mem_cons,List.not_mem_nil,or_false] at hx
 rcases hx with rfl|rfl <;> assumption
theorem mem3 {P:X->Prop} {a b c:X} (ha:P a) (hb:P b) (hc:P c):∀ x∈[a,b,c],P x:=fun x hx=>by
 simp only [List.mem_cons,List.not_mem_nil,or_false] at hx
 rcases hx with rfl|rfl|rfl <;> assumption
section
variable {G : Str -> List Col} {tbs : List Sch} {tb : List Tb} {n M : Nat} {frs : List Fr} {w : Int} {e : X} {s : Sch} {a : Ac} {q : Qy}
theorem XT.vt (hG:EnvT G) (ht:TbE G tbs tb) (h:XT tbs n frs w e):FsT' G frs->VxT e:=by
 induction h with
 | @lit n frs w v hg _ hi =>
  intro _
  obtain ⟨_,rfl,h⟩:=zjs v (shP kr) (ziL v hg.valid) (fun h=>by have:=hi (by simpa using h);simpa using this)
  exact h
 | @col n frs w x h =>
  intro hf
  obtain ⟨a,b,rfl,_,_,h1,h2⟩:=h.res hG hf
  obtain ⟨_,rfl,h⟩:=zjr a b (shP kr) h1 (vnP h2) (zg5 a)
  exact h
 | @un n frs k w a hk _ ih =>
  intro hf
  exact vxA (by rcases hk with ⟨h,_⟩|⟨h,_⟩ <;> simp [OpK,h]) (zni (.inl ⟨by rcases hk with ⟨h,_⟩|⟨h,_⟩ <;> simp [h],rfl⟩)) (fun _=>rfl) (fun _=>rfl) (by simp [zac]) (fun x hx=>by simp only [List.mem_singleton] at hx;subst hx;exact ih hf)
 | @isn n frs w nt a _ ih =>
  intro hf
  exact vxA (by simp [OpK]) (zni (.inl ⟨.inr (.inr rfl),rfl⟩)) (fun _=>rfl) (fun h=>absurd rfl h) (by simp [zac]) (fun x hx=>by simp only [List.mem_singleton] at hx;subst hx;exact ih hf)
 | @bin n frs op w' w a b hb _ _ i1 i2 =>
  intro hf
  exact vxA (by simp [OpK]) (zni (.inr (.inl ⟨rfl,rfl,by rcases hb with h|h|h <;> omega,by rcases hb with h|h|h <;> omega⟩))) (fun h=>absurd rfl h) (fun _=>rfl) (by simp [zac]) (mem2 (i1 hf) (i2 hf))
 | @btw n frs a b c _ _ _ i1 i2 i3 =>
  intro hf
  exact vxA (by simp [OpK]) (zni (.inr (.inr ⟨rfl,rfl⟩))) (fun _=>rfl) (fun _=>rfl) (by simp [zac]) (mem3 (i1 hf) (i2 hf) (i3 hf))
 | @qry n frs k w st it wh s hs hq hw _ _ i1 i2 =>
  intro hf
  have hfi:=hf.ins ht hs
  have hk:k=8\/k=9\/k=10\/k=11\/k=12:=by rcases hq with h|h|h <;> omega
  have hil:it.length<=1:=by rcases hq with ⟨_,_,_,h⟩|⟨_,_,_,h⟩|⟨_,_,_,_,h⟩ <;> omega
  have hst:(!st==(k==8))=false:=by
   rcases hq with ⟨rfl,_,rfl,_⟩|⟨rfl,_,rfl,_⟩|⟨h1,h2,_,rfl,_⟩
   ·rfl
   ·rfl
   ·have h3:k=10\/k=11\/k=12:=by omega
    rcases h3 with rfl|rfl|rfl <;> rfl
  obtain ⟨_,rfl,h⟩:=zk6 k st it s.name wh (shP (zBL hq hw)) (plP _ _ _ _ _) (zbK [] (by simp [zac]) (fun x hx=>by cases hx)) (zbK it (by simp only [zac];omega) fun x hx=>i1 x hx hfi) (zbK wh (by simp only [zac];omega) fun x hx=>i2 x hx hfi) (srcP (ht.src s hs))
   (by rcases hk with rfl|rfl|rfl|rfl|rfl <;> rfl) (by rcases hk with rfl|rfl|rfl|rfl|rfl <;> rfl) (by rcases hk with rfl|rfl|rfl|rfl|rfl <;> rfl) (by rcases hk with rfl|rfl|rfl|rfl|rfl <;> rfl) hst
  exact h
theorem colsV (hG:EnvT G) (ht:TbE G tbs tb) {fr:List Fr} (hf:FsT' G fr) {cols:List Col} {its:List X} (h:zdd tbs M fr cols cols.length its):∀ x∈its,VxT x:=fun x hx=>by
 obtain ⟨c,_,h6⟩:=zgD h hx
 exact h6.vt hG ht hf
theorem zrU {nm:Str} (h:zaG nm=true):(nm.toList==Zs0.toList)=false:=by
 cases hb:nm.toList==Zs0.toList
 ·rfl
 ·exact absurd (zkb (by simpa using hb)) (zAp h)
theorem zxG:zaa E0 S.AX [.sl []] [] (bv true) []:=zbK [] (by simp [zac]) (fun x hx=>by cases hx)
theorem ActT.va (hG:EnvT G) (ht:TbE G tbs tb) (hS:TbE G zak tb) (hf:FsT' G frs) (h:ActT tbs M frs a):zaa E0 S.Be [a.av] [] (bv true) []:=by
 cases h with
 | @rows s rows hs h1 h2 hr =>
  have e1:=zdt hs
  have e0:=zrU e1
  have h3:=ze5 hs
  have h5:decide ((0:Int) < (((rows.map fun r=>[AV.sl (zad r)]).length:Nat):Int))=true:=by simp;omega
  obtain ⟨_,rfl,hi⟩:=zju s.name rows (by simp only [zac];omega) (fun r hr2=>⟨by have h2:=(hr r hr2).1;omega,zbK r (by have h2:=(hr r hr2).1;simp only [zac];omega) (colsV hG ht hf (hr r hr2))⟩) (by rw [h5];rfl) Zp
  obtain ⟨_,rfl,h⟩:=zeg s.name rows [] (by rw [e0];rfl) (by rw [e0];rfl) (vnP e1) zxG hi
  exact h
 | @copy s q hs hq =>
  have e1:=zdt hs
  have e0:=zrU e1
  have h3:=ze5 hs
  cases hq with
  | @mk f its wh hfm hc hw hx =>
   have h2:=hc.1
   have hfi:=hf.ins ht hfm
   have h6:((((zad its).length:Nat):Int)==0)=false:=by rw [beq_eq_false_iff_ne];simp only [zbP];omega
   obtain ⟨_,rfl,h4⟩:=c_vq11 false its f.name wh (zbK its (by simp only [zac];omega) (colsV hG ht hfi hc)) (zbK wh (by simp only [zac];omega) fun x h=>(hx x h).vt hG ht hfi) (srcP (ht.src f hfm)) Zp Zp (by rw [h6];rfl)
   obtain ⟨_,rfl,hi⟩:=zjt s.name false its f.name wh h4
   obtain ⟨_,rfl,h⟩:=zeg s.name [] [Qy.mk false its f.name wh] (by rw [e0];rfl) (by rw [e0];rfl) (vnP e1) zxG hi
   exact h
 | @upd s first i sets wh hs h1 hI hw hx =>
  have e1:=zdt hs
  have e0:=zrU e1
  have h3:=ze5 hs
  have hfi:=hf.ins hS hs
  have hl:=hI.len
  have h2:=hI.two
  have hA:∀ x∈sets,zaa E0 S.Aw [sv x.col] [] (bv true) []/\VxT x.ex:=fun x hx=>by
   obtain ⟨j,hj⟩:=List.getElem?_of_mem hx
   obtain ⟨c,c1,c2,c3⟩:=hI.at_ j x hj
   have h8:=((zed hs).cols _ c c1).name
   exact ⟨vnP (by rw [c2];simpa using h8),c3.vt hG ht hfi⟩
  have hB:∀ (i2 j2:Nat) (x y:Se),sets[i2]?=some x->sets[j2]?=some y->j2 < i2->(y.col.toList==x.col.toList)=false:=fun i2 j2 x y hx hy hlt=>by
   have h8:=zbY hx
   have hi2:i2=1:=by omega
   have hj2:j2=0:=by omega
   subst hi2
   subst hj2
   obtain ⟨c,c1,c2,_⟩:=hI.at_ 0 y hy
   obtain ⟨d,d1,d2,_⟩:=hI.at_ 1 x hx
   cases hb:y.col.toList==x.col.toList
   ·rfl
   ·exfalso
    have e:=zkb (by simpa using hb:y.col.toList=x.col.toList)
    rw [c2,d2] at e
    have h6:(first+0) % s.cols.length=(first+1) % s.cols.length:=zx9 hs c1 d1 e
    have h7:s.cols.length=2\/s.cols.length=3\/s.cols.length=4:=by omega
    rcases h7 with h7|h7|h7 <;> rw [h7] at h6 <;> omega
  obtain ⟨_,rfl,hv⟩:=c_vs11 sets Zo hA hB
  obtain ⟨_,rfl,h⟩:=ziv s.name sets wh (by rw [e0];rfl) (by rw [e0];rfl) (vnP e1) (zbK wh (by simp only [zac];omega) fun x h=>(hx x h).vt hG ht hfi) Zp Zp Zp hv
  exact h
 | @del s wh hs hw hx =>
  have e1:=zdt hs
  have e0:=zrU e1
  have hfi:=hf.ins hS hs
  obtain ⟨_,rfl,h⟩:=ziw s.name wh (by rw [e0];rfl) (by rw [e0];rfl) (vnP e1) (zbK wh (by simp only [zac];omega) fun x h=>(hx x h).vt hG ht hfi) Zp
  exact h
theorem ActT.snd (hG:EnvT G) (ht:TbE G tbs tb) (hS:TbE G zak tb) (hf:FsT' G frs) (h:ActT tbs M frs a):zaa E0 S.CN [a.av] [] (bv true) []:=by
 have hk:=h.ok.2
 obtain ⟨_,rfl,h2⟩:=zAR a Zp Zp (h.va hG ht hS hf)
 exact h2
end
theorem zkY {p:Prop} (h:p:=by (clear hv;first|(simp only [fit4,cond_true,cond_false, *];done)|(exfalso;simp_all;done))):p:=h
theorem zxn {p:Prop} (h:p:=by first|(unfold fit5;rw [show (l.length != s.cols.length)=false by simp at *;omega];first|assumption|exact zzO ‹_› rfl)|(unfold fit5;rw [show (l.length != s.cols.length)=true by simp at *;omega];rfl)):p:=h
theorem zpk {p:Prop} (h:p:=by first|assumption|rfl|omega|(simp only [List.length_map] at *;simp at *;omega)):p:=h
theorem zq3 (c:Col) (v:V) (hv:zaa E0 S.BJ [v.av] [] (bv true) []):∃ (e:Int),e=fit4 c v/\zaa E0 S.B2 [.agg c.cells,v.av] [] (iv e) []:=by
 cases h1:v.kind==0
 ·cases h2:v.kind != 0
  ·exact ⟨0,zkY,wk At.B2 [sc hv,sb Zf,sb h1,sb h2] kr⟩
  ·cases h3:v.kind != c.type
   ·exact ⟨0,zkY,wk At.B2 [sc hv,sb Zf,sb h1,sg h2,sb h3] kr⟩
   ·exact ⟨5,zkY,wk At.B2 [sc hv,sb Zf,sb h1,sg h2,sb h3] kr⟩
 ·cases h4:c.notNull
  ·cases h5:v.kind != 0
   ·exact ⟨0,zkY,wk At.B2 [sc hv,sb Zf,sg h1,sb h4,sb h5] kr⟩
   ·cases h6:v.kind != c.type
    ·exact ⟨0,zkY,wk At.B2 [sc hv,sb Zf,sg h1,sb h4,sg h5,sb h6] kr⟩
    ·exact ⟨5,zkY,wk At.B2 [sc hv,sb Zf,sg h1,sb h4,sg h5,sb h6] kr⟩
  ·exact ⟨8,zkY,wk At.B2 [sc hv,sb Zf,sg h1,sb h4] kr⟩
theorem zre (c:Col) (v:V) (hg:v.Good):zaa E0 S.B2 [.agg c.cells,v.av] [] (iv (fit4 c v)) []:=by
 have h1:=zcH v hg.small
 rw [hg.valid] at h1
 obtain ⟨e,rfl,h⟩:=zq3 c v h1
 exact h
noncomputable def zvS (s:Sch) (l:List V) (i:Nat) :Cfg:=zaj B.BL 0 [(1,vsl l),(15,.sl (s.cols.map Col.cells)),(16,iv ((s.cols.map Col.cells).length:Nat)),(17,iv (i:Nat))] [.box s.cells]
theorem zjB (s:Sch) (l:List V) (hs:zac s.cols) (hll:l.length=s.cols.length) (hg:∀ v∈l,v.Good) (i:Nat)  (hi:i<=(s.cols).length) (hI:fitL s.cols l=fitL (s.cols.drop i) (l.drop i)):((fitL s.cols l=fitL (s.cols.drop (s.cols).length) (l.drop (s.cols).length))/\(decide ((((s.cols).length:Nat):Int) < (((s.cols.map Col.cells).length:Nat):Int))=false)/\∀ R,Good E0 B.BL [] (zvS s l (s.cols).length ) R->Good E0 B.BL [] (zvS s l i ) R)\/(∃ (r:Int),r=fitL s.cols l/\Good E0 B.BL [] (zvS s l i ) (Shut 0 fun rZ hZ=>rZ=(iv r)/\hZ=[])):=by
 have hk:=hi;revert i;refine zlp ((s.cols).length) (fun i hlt ih hi hI _=>?_)
 obtain ⟨x,hx,h0,hw⟩:=zlq (l:=s.cols) ((s.cols.map Col.cells).length) hlt
 obtain ⟨y,hy⟩:=zaY (l:=l) (i:=i) (by have:=zbY hx;omega);have hyv:=hg y (List.mem_of_getElem? hy)
 let p_1:List St:=[sb h0,se (zaf Col.cells hx rfl),sd [(3,[se (zaf V.cells hy rfl)]),(5,[sc (zre x y (by first|assumption|omega|(simp;done)|(simp;omega)))])]]
 cases h1:fit4 x y != 0
 ·exact zie2 (ih Zo (by exact zyl hI hx hy ‹_›) Zo) fun R gY=>zab (wkl (p_1++[sb h1,si hw]) [1,15,16,17] 1 kr gY)
 ·exact .inr ⟨fit4 x y,(by exact zzN hI hx hy ‹_›),zab (wkr (p_1++[sb h1]) kr)⟩
theorem zsn (s:Sch) (l:List V) (hs:zac s.cols) (hg:∀ v∈l,v.Good):∃ (r:Int),r=fit5 s l/\zaa E0 S.BL [s.av,vsl l] [] (iv r) []:=by
 cases h1:(↑(List.map V.cells l).length:Int) != (↑(List.map Col.cells s.cols).length:Int)
 ·rcases zjB s l zpk zpk zpk 0 zpk zpk with ⟨q2,q2_1,g2⟩|⟨r2_0,p2_0,g2⟩
  ·exact ⟨0,zxn,wkc At.BL [sb h1] [1,15,16,17] 1 kr (g2 _ (zab (wkr [sb q2_1] kr)))⟩
  ·exact ⟨r2_0,zxn,wkc At.BL [sb h1] [1,15,16,17] 1 kr (g2)⟩
 ·exact ⟨17,zxn,wk At.BL [sb h1] kr⟩
theorem zmd (s:Sch) (l:List V) (hs:zac s.cols) (hg:∀ v∈l,v.Good):zaa E0 S.BL [s.av,vsl l] [] (iv (fit5 s l)) []:=by
 obtain ⟨r,rfl,h⟩:=zsn s l hs hg
 exact h
theorem zAN (c:Col) :∃ (b:Bool),b=c.key/\zaa E0 S.By [.agg c.cells] [] (bv b) []:=by
 exact ⟨c.key,Zr,wk At.By [] kr⟩
theorem zjV (c:Col):zaa E0 S.By [.agg c.cells] [] (bv c.key) []:=by
 obtain ⟨b,rfl,h⟩:=zAN c
 exact h
noncomputable def zvJ (l:List Col) (i:Nat) :Cfg:=zaj B.Ar 0 [(0,.sl (l.map Col.cells)),(1,.fn S.By []),(7,iv ((l.map Col.cells).length:Nat)),(8,iv (i:Nat))] []
theorem zee (l:List Col) (hl:zac l) (i:Nat)  (hi:i<=(l).length) (hI:idxF (fun c=>c.key) l 0=idxF (fun c=>c.key) (l.drop i) i):((idxF (fun c=>c.key) l 0=idxF (fun c=>c.key) (l.drop (l).length) (l).length)/\(decide ((((l).length:Nat):Int) < (((l.map Col.cells).length:Nat):Int))=false)/\∀ R,Good E0 B.Ar [] (zvJ l (l).length ) R->Good E0 B.Ar [] (zvJ l i ) R)\/(∃ (r:Int),r=idxF (fun c=>c.key) l 0/\Good E0 B.Ar [] (zvJ l i ) (Shut 0 fun rZ hZ=>rZ=(iv r)/\hZ=[])):=by
 have hk:=hi;revert i;refine zlp ((l).length) (fun i hlt ih hi hI _=>?_)
 obtain ⟨x,hx,h0,hw⟩:=zlq (l:=l) ((l.map Col.cells).length) hlt
 let p_1:List St:=[sb h0,se (zaf Col.cells hx rfl),sc (zjV x)]
 cases h1:x.key
 ·exact zie2 (ih Zo (by exact zm2 hI hx ‹_›) Zo) fun R gY=>zab (wkl (p_1++[sb h1,si hw]) [0,1,7,8] 0 kr gY)
 ·exact .inr ⟨(i:Int),(by exact zoH hI hx ‹_›),zab (wkr (p_1++[sb h1]) kr)⟩
theorem c_ixK (l:List Col) (hl:zac l):∃ (r:Int),r=idxF (fun c=>c.key) l 0/\zaa E0 S.Ar [.sl (l.map Col.cells),.fn S.By []] [] (iv r) []:=by
 rcases zee l Za 0 Za Za with ⟨q1,q1_1,g1⟩|⟨r1_0,p1_0,g1⟩
 ·exact ⟨-1,(by first|assumption|exact zgH ‹_›),wkc At.Ar [] [0,1,7,8] 0 kr (g1 _ (zab (wkr [sb q1_1] kr)))⟩
 ·exact ⟨r1_0,(by first|assumption|exact zgH ‹_›),wkc At.Ar [] [0,1,7,8] 0 kr (g1)⟩
theorem zlI (s:Sch) (hs:zac s.cols) (hx:∃ r:Int,r=idxF (fun c=>c.key) s.cols 0/\zaa E0 S.Ar [.sl (s.cols.map Col.cells),.fn S.By []] [] (iv r) []):∃ (r:Int),r=idxF (fun c=>c.key) s.cols 0/\zaa E0 S.CU [s.av] [] (iv r) []:=by
 obtain ⟨r1,q1,c1⟩:=hx
 exact ⟨r1,‹_›,wk At.CU [sc c1] kr⟩
theorem zl9 (s:Sch) (hs:zac s.cols):zaa E0 S.CU [s.av] [] (iv (idxF (fun c=>c.key) s.cols 0)) []:=by
 obtain ⟨r,rfl,h⟩:=zlI s hs (c_ixK s.cols hs)
 exact h
theorem at_lt0 {s:Sch} {x:Col} {i:Nat} (h:(idxF (fun c=>colC c x.name) s.cols 0 != ((i:Nat):Int))=false):decide (idxF (fun c=>colC c x.name) s.cols 0 < ((i:Nat):Int))=false:=by
 simp only [bne_eq_false_iff_eq] at h;rw [h];simp
noncomputable def L_psv (s:Sch) (i:Nat) (keys:Nat):Cfg:=zaj B.B5 0 [(1,.p 0 0),(3,iv (keys:Nat)),(23,.sl (s.cols.map Col.cells)),(24,iv ((s.cols.map Col.cells).length:Nat)),(25,iv (i:Nat))] [.box s.cells]
theorem zim (s:Sch) (hs:zac s.cols) (hv:SchV s) (i:Nat) (keys:Nat) (hi:i<=(s.cols).length) (hI:keys=(s.cols.take i).countP (fun c=>c.key)):∃ (keys':Nat),(keys'=(s.cols.take (s.cols).length).countP (fun c=>c.key))/\(decide ((((s.cols).length:Nat):Int) < (((s.cols.map Col.cells).length:Nat):Int))=false)/\∀ R,Good E0 B.B5 [] (L_psv s (s.cols).length keys') R->Good E0 B.B5 [] (L_psv s i keys) R:=by
 have hk:=hi;revert i keys;refine zlp ((s.cols).length) (fun i hlt ih keys hi hI _=>?_)
 obtain ⟨x,hx,h0,hw⟩:=zlq (l:=s.cols) ((s.cols.map Col.cells).length) hlt
 obtain ⟨a1,a2,a3,a4,a5'⟩:=hv.cols i x hx;have a5:=at_lt0 a5';have hkl:keys<=1000:=(by have h1:=List.countP_le_length (p:=fun c:Col=>c.key) (l:=s.cols.take i);have h2:=hv.hi;simp only [List.length_map,decide_eq_false_iff_not] at h2;rw [← hI,List.length_take] at h1;omega)
 let p_1:List St:=[sb h0,se (zaf Col.cells hx rfl),sc (zal x.name),sg a1,sc (zbl s x.name (by first|assumption|omega|(simp;done)|(simp;omega))),sg a5,sg a2,sg a3]
 cases h1:x.key
 ·exact Zih (ih keys Zo (by first|exact zqf hI hx ‹_›|exact zqe hI hx ‹_›) Zo) fun R gY=>zab (wkl (p_1++[sb h1,sb h1,si hw]) [1,3,23,24,25] 1 kr gY)
 ·cases h2:!x.notNull
  ·exact Zih (ih (keys+1) Zo (by first|exact zqf hI hx ‹_›|exact zqe hI hx ‹_›) Zo) fun R gY=>zab (wkl (p_1++[sg h1,sb h2,sb h1,si (zbz (t:=(keys:Int)+1) (n:=keys+1) Zo Zo),si hw]) [1,3,23,24,25] 1 kr gY)
  ·exact False.elim (by simp_all)
theorem zop (s:Sch) (hs:zac s.cols) (hv:SchV s) (n1:(!zaG s.name)=false) (n2:decide (((s.cols.map Col.cells).length:Int) < 1)=false) (n3:decide ((6:Int) < ((s.cols.map Col.cells).length:Int))=false):∃ (r:Bool),r=true/\zaa E0 S.B5 [s.av] [] (bv r) []:=by
 obtain ⟨keys1,q1,q1_1,g1⟩:=zim s Za Za 0 0 Za Za
 exact ⟨decide ((keys1:Int)<=(1:Int)),(by first|rfl|(rw [List.take_length] at *;have hkz:=hv.keys;simp;omega)),wkc At.B5 [sc (zal s.name),sg n1,sg n2,sb n3] [1,3,23,24,25] 1 kr (g1 _ (zab (wkr [sb q1_1] kr)))⟩
theorem znp (s:Sch) (hv:SchV s):zaa E0 S.B5 [s.av] [] (bv true) []:=by
 obtain ⟨r,rfl,h⟩:=zop s hv.short hv hv.name hv.lo hv.hi
 exact h
theorem TabV.hiF {t:Tb} (h:TabV t) {x:Rw} (hx:x∈t.rows):decide (t.next<=x.id)=false:=by
 have h1:=h.rows.ids x hx
 simp;omega
theorem zeK {p:Prop} (h:p:=by first|assumption|omega|(simp only [decide_eq_false_iff_not,decide_eq_true_eq,List.length_map] at *;omega)|(simp;done)):p:=h
theorem zxo {p:Prop} (h:p:=by first|(have hq1:=‹_=zbs _ _/\List.Nodup _›;rw [List.take_length] at hq1;exact ⟨fun _=>hq1.1 ▸ hq1.2,fun _=>rfl⟩)|(have hq1:=‹_=true/\¬ List.Nodup _›;rw [hq1.1];exact ⟨fun h=>(by cases h),fun h=>absurd h hq1.2⟩)|exact ⟨fun _=>zBf ‹_› _,fun _=>rfl⟩):p:=h
theorem zpl {p:Prop} (h:p:=by first|assumption|omega|(intro r hr2;have:=(ht.rows.ids r (List.mem_of_mem_drop hr2)).1;omega)|(simp;done)):p:=h
theorem zpm {p:Prop} (h:p:=by first|assumption|omega|exact ⟨rfl,by simp⟩|(simp;done)):p:=h
theorem zrS {p:Prop} (h:p:=by simp only [decide_eq_true_eq,decide_eq_false_iff_not] at *;omega):p:=h
theorem zyB {kc:Int} {x:Rw} (h:decide (((x.vals.map V.cells).length:Int)<=kc)=true):zc5 kc x=none :=
 zBh zrS
theorem zs7 {kc:Int} {x:Rw} (h0:decide (kc < 0)=false) (h:decide (((x.vals.map V.cells).length:Int)<=kc)=false):zc5 kc x=some (zaz x.vals kc) :=
 zBi zrS zrS
theorem zBf {kc:Int} (h0:decide (kc < 0)=true) (l:List Rw):(zbs kc l).Nodup:=by
 have:zbs kc l=[]:=by
  unfold zbs
  rw [List.filterMap_eq_nil_iff]
  intro r _
  exact zBg zrS
 rw [this];simp
noncomputable def zvR (t:Tb) (kc:Int) (i:Nat) (ks:List V):Cfg:=zaj B.AT 0 [(3,iv kc),(4,.mp 1),(14,.sl (t.rows.map Rw.cells)),(15,iv ((t.rows.map Rw.cells).length:Nat)),(16,iv (i:Nat))] [.box t.cells,.mp (ks.map itV)]
theorem zgW (t:Tb) (kc:Int) (hs:zac t.rows) (hk0:decide (kc < 0)=false) (i:Nat) (ks:List V) (hi:i<=(t.rows).length) (hI:ks=zbs kc (t.rows.take i)/\ks.Nodup):(∃ (ks':List V),(ks'=zbs kc (t.rows.take (t.rows).length)/\ks'.Nodup)/\(decide ((((t.rows).length:Nat):Int) < (((t.rows.map Rw.cells).length:Nat):Int))=false)/\∀ R,Good E0 B.AT [] (zvR t kc (t.rows).length ks') R->Good E0 B.AT [] (zvR t kc i ks) R)\/(∃ (r:Bool),(r=true/\¬ (zbs kc t.rows).Nodup)/\Good E0 B.AT [] (zvR t kc i ks) (Shut 0 fun rZ hZ=>rZ=(bv r)/\hZ=[])):=by
 have hk:=hi;revert i ks;refine zlp ((t.rows).length) (fun i hlt ih ks hi hI _=>?_)
 obtain ⟨x,hx,h0,hw⟩:=zlq (l:=t.rows) ((t.rows.map Rw.cells).length) hlt
 cases h1:decide ((↑(List.map V.cells x.vals).length:Int)<=kc)
 ·cases h2:anyV ks (zaz x.vals kc)
  ·exact (ih (ks++[zaz x.vals kc]) Zo (by first|exact zuV hI hx (zyB ‹_›)|exact zyd hI hx (zs7 hk0 ‹_›) ‹_›) Zo).elim (fun ⟨ksZ,qZ,xZ,gZ⟩=>.inl ⟨ksZ,qZ,xZ,fun R hg=>zab (wkl [sb h0,se (zaf Rw.cells hx rfl),sb h1,se (zeo x.vals kc zeK zeK),sx (.el [bv (anyV ks (zaz x.vals kc))]) (And.intro (zdx ((zaz x.vals kc).kind) ((zaz x.vals kc).int) ((zaz x.vals kc).text)) (znR ks (zaz x.vals kc))),sb h2,se (zeo x.vals kc zeK zeK),sx (.call [] .un [.mp (List.map itV (ks++[zaz x.vals kc]))]) (And.intro (zdx ((zaz x.vals kc).kind) ((zaz x.vals kc).int) ((zaz x.vals kc).text)) (zuY ks (zaz x.vals kc) zeK)),si hw] [3,4,14,15,16] 2 kr (gZ R hg))⟩) (fun ⟨rY,pZ,gZ⟩=>.inr ⟨rY,pZ,zab (wkl [sb h0,se (zaf Rw.cells hx rfl),sb h1,se (zeo x.vals kc zeK zeK),sx (.el [bv (anyV ks (zaz x.vals kc))]) (And.intro (zdx ((zaz x.vals kc).kind) ((zaz x.vals kc).int) ((zaz x.vals kc).text)) (znR ks (zaz x.vals kc))),sb h2,se (zeo x.vals kc zeK zeK),sx (.call [] .un [.mp (List.map itV (ks++[zaz x.vals kc]))]) (And.intro (zdx ((zaz x.vals kc).kind) ((zaz x.vals kc).int) ((zaz x.vals kc).text)) (zuY ks (zaz x.vals kc) zeK)),si hw] [3,4,14,15,16] 2 kr gZ)⟩)
  ·exact .inr ⟨true,(by exact ⟨rfl,du_dup hI hx (zs7 hk0 ‹_›) ‹_›⟩),zab (wkr [sb h0,se (zaf Rw.cells hx rfl),sb h1,se (zeo x.vals kc zeK zeK),sx (.el [bv (anyV ks (zaz x.vals kc))]) (And.intro (zdx ((zaz x.vals kc).kind) ((zaz x.vals kc).int) ((zaz x.vals kc).text)) (znR ks (zaz x.vals kc))),sb h2] kr)⟩
 ·exact (ih ks Zo (by first|exact zuV hI hx (zyB ‹_›)|exact zyd hI hx (zs7 hk0 ‹_›) ‹_›) Zo).elim (fun ⟨ksZ,qZ,xZ,gZ⟩=>.inl ⟨ksZ,qZ,xZ,fun R hg=>zab (wkl [sb h0,se (zaf Rw.cells hx rfl),sb h1,si hw] [3,4,14,15,16] 2 kr (gZ R hg))⟩) (fun ⟨rY,pZ,gZ⟩=>.inr ⟨rY,pZ,zab (wkl [sb h0,se (zaf Rw.cells hx rfl),sb h1,si hw] [3,4,14,15,16] 2 kr gZ)⟩)
theorem zg8 (t:Tb) (hs:zac t.sch.cols) (hr:zac t.rows):∃ (b:Bool),(b=false↔(zbs (idxF (fun c=>c.key) t.sch.cols 0) t.rows).Nodup)/\zaa E0 S.AT [t.av] [] (bv b) []:=by
 let p_1:List St:=[sc (zl9 t.sch zpm)]
 cases h1:decide (idxF (fun c=>c.key) t.sch.cols 0 < 0)
 ·rcases zgW t (idxF (fun c=>c.key) t.sch.cols 0) zpm zpm 0 ([]) zpm zpm with ⟨ks2,q2,q2_1,g2⟩|⟨r2_0,p2_0,g2⟩
  ·exact ⟨false,zxo,wkc At.AT (p_1++[sb h1]) [3,4,14,15,16] 2 kr (g2 _ (zab (wkr [sb q2_1] kr)))⟩
  ·exact ⟨r2_0,zxo,wkc At.AT (p_1++[sb h1]) [3,4,14,15,16] 2 kr (g2)⟩
 ·exact ⟨false,zxo,wk At.AT (p_1++[sb h1]) kr⟩
theorem TabV.pfit {t:Tb} (h:TabV t) {x:Rw} (hx:x∈t.rows):zaa E0 S.BL [t.sch.av,vsl x.vals] [] (iv 0) []:=by
 have h2:=zmd t.sch x.vals h.sch.short (ztl (h.rows.fit x hx))
 rwa [zu1 h.sch (h.rows.fit x hx)] at h2
def zro (l:List Rw) (i:Nat) (last:Int):Prop:=∀ r∈l.drop i,last < r.id
theorem zyD {l:List Rw} {i:Nat} {x:Rw} (ha:l.Pairwise fun a b=>a.id < b.id) (hx:l[i]?=some x):zro l (i+1) x.id:=by
 intro r hr
 obtain ⟨j,hj⟩:=List.getElem?_of_mem hr
 rw [List.getElem?_drop] at hj
 obtain ⟨a1,a2⟩:=List.getElem?_eq_some_iff.1 hx
 obtain ⟨b1,b2⟩:=List.getElem?_eq_some_iff.1 hj
 have:=List.pairwise_iff_getElem.1 ha i (i+1+j) a1 b1 Zo
 rwa [a2,b2] at this
theorem zBj {l:List Rw} {i:Nat} {x:Rw} {last:Int} (h:zro l i last) (hx:l[i]?=some x):decide (x.id<=last)=false:=by
 have:=h x (by rw [zap hx];simp)
 simp;omega
noncomputable def L_pv6 (t:Tb) (i:Nat) (last:Int):Cfg:=zaj B.Cb 0 [(1,.p 0 0),(3,iv last),(27,.sl (t.rows.map Rw.cells)),(28,iv ((t.rows.map Rw.cells).length:Nat)),(29,iv (i:Nat))] [.box t.cells]
theorem ziA (t:Tb) (ht:TabV t) (hs:zac t.sch.cols) (hr:zac t.rows) (i:Nat) (last:Int) (hi:i<=(t.rows).length) (hI:zro t.rows i last):∃ (last':Int),(zro t.rows (t.rows).length last')/\(decide ((((t.rows).length:Nat):Int) < (((t.rows.map Rw.cells).length:Nat):Int))=false)/\∀ R,Good E0 B.Cb [] (L_pv6 t (t.rows).length last') R->Good E0 B.Cb [] (L_pv6 t i last) R:=by
 have hk:=hi;revert i last;refine zlp ((t.rows).length) (fun i hlt ih last hi hI _=>?_)
 obtain ⟨x,hx,h0,hw⟩:=zlq (l:=t.rows) ((t.rows.map Rw.cells).length) hlt
 have a1:=zBj hI hx;have a2:=ht.hiF (List.mem_of_getElem? hx);have a3:=ht.pfit (List.mem_of_getElem? hx)
 exact Zih (ih x.id Zo (by exact zyD ht.rows.asc hx) Zo) fun R gY=>zab (wkl [sb h0,se (zaf Rw.cells hx rfl),sg a1,sg a2,sc a3,sb Zf,si hw] [1,3,27,28,29] 1 kr gY)
theorem zpL (t:Tb) (ht:TabV t) (hs:zac t.sch.cols) (hr:zac t.rows) (hv:zaa E0 S.B5 [t.sch.av] [] (bv true) []) (h1a:decide ((100:Int) < ((t.rows.map Rw.cells).length:Int))=false) (h2a:decide (t.next < 1)=false) (h3a:decide ((2147483648:Int) < t.next)=false) (hd:zaa E0 S.AT [t.av] [] (bv false) []):∃ (b:Bool),b=true/\zaa E0 S.Cb [t.av] [] (bv b) []:=by
 obtain ⟨last1,q1,q1_1,g1⟩:=ziA t zpl zpl zpl 0 0 zpl zpl
 exact ⟨!false,Zr,wkc At.Cb [sc hv,sg Zf,sg h1a,sg h2a,sb h3a] [1,3,27,28,29] 1 kr (g1 _ (zab (wkr [sb q1_1,sc hd] kr)))⟩
theorem TabV.pdup {t:Tb} (h:TabV t):zaa E0 S.AT [t.av] [] (bv false) []:=by
 obtain ⟨b,hb,hc⟩:=zg8 t h.sch.short h.shr
 have h1:b=false:=hb.2 (by rw [h.key];exact zoT _ h.rows.keys)
 rw [h1] at hc;exact hc
theorem znY (t:Tb) (ht:TabV t):zaa E0 S.Cb [t.av] [] (bv true) []:=by
 have hp:=ht.rows.pos
 obtain ⟨r,rfl,h⟩:=zpL t ht ht.sch.short ht.shr (znp _ ht.sch) ht.len Zp ht.max ht.pdup
 exact h
theorem zec {p:Prop} (h:p:=by first|assumption|rfl|omega|(have hq:=‹_=List.take t.rows.length t.rows›;rw [hq,List.take_length];simp [insN];done)|(simp [insN];done)|exact zmA hlr (by rw [zhT];simp;omega)|(have hq:=‹_=t.rows++insN t.next (ins.take ins.length)›;rw [hq];exact zmA hlr (by rw [zhT];simp;omega))):p:=h
theorem zdL {p:Prop} (h:p:=by first|assumption|omega|(simp;done)|(simp;omega)):p:=h
theorem zrT {p:Prop} (h:p:=by first|omega|(simp only [zac,Few] at *;omega)):p:=h
abbrev insC (ins:List (List V)):AV:=.agg [.sl (ins.map vrow),.sl [],.sl []]
noncomputable def L_kr (t:Tb) (i:Nat):Cfg:=zaj B.CG 0 [(1,.sl []),(2,.sl []),(3,.p 0 0),(11,.sl []),(12,iv (([]:List (List AV)).length:Nat)),(13,iv (i:Nat))] [.box t.cells]
theorem zk4 (t:Tb) (i:Nat):True/\∀ R,Good E0 B.CG [] (L_kr t i) R->Good E0 B.CG [] (L_kr t i) R:=⟨trivial,fun _ h=>h⟩
theorem zsd (t:Tb) :∃ (r:Bool),r=true/\zaa E0 S.CG [t.av,.sl [],.sl []] [] (bv r) []:=by
 obtain ⟨q1,g1⟩:=zk4 t (0)
 exact ⟨true,Zr,wkc At.CG [] [1,2,3,11,12,13] 1 kr (g1 _ (zab (wkr [sb Zf] kr)))⟩
theorem zjR (t:Tb):zaa E0 S.CG [t.av,.sl [],.sl []] [] (bv true) []:=by
 obtain ⟨r,rfl,h⟩:=zsd t
 exact h
theorem zzB (v:List V) (n:Int) :∃ (r:Bool),r=(((v.map V.cells).length:Int) != n)/\zaa E0 S.BR [vsl v,.p 0 0] [.box [iv n]] (bv r) [.box [iv n]]:=by
 exact ⟨(↑(List.map V.cells v).length:Int) != n,Zr,wk At.BR [] kr⟩
theorem zoJ (v:List V) (n:Int) (h:(((v.map V.cells).length:Int) != n)=false):zaa E0 S.BR [vsl v,.p 0 0] [.box [iv n]] (bv false) [.box [iv n]]:=by
 obtain ⟨r,hr,hc⟩:=zzB v n
 rw [h] at hr;subst hr;exact hc
noncomputable def L_ixW (l:List (List V)) (n:Int) (i:Nat) :Cfg:=zaj B.Ao 0 [(0,.sl (l.map vrow)),(1,.fn S.BR [.p 0 0]),(7,iv ((l.map vrow).length:Nat)),(8,iv (i:Nat))] [.box [iv n]]
theorem zel (l:List (List V)) (n:Int) (hl:zac l) (hwd:∀ v∈l,(((v.map V.cells).length:Int) != n)=false) (i:Nat)  (hi:i<=(l).length) (hI:True):(True)/\(decide ((((l).length:Nat):Int) < (((l.map vrow).length:Nat):Int))=false)/\∀ R,Good E0 B.Ao [.box [iv n]] (L_ixW l n (l).length ) R->Good E0 B.Ao [.box [iv n]] (L_ixW l n i ) R:=by
 have hk:=hi;revert i hI;refine zlp ((l).length) (fun i hlt ih hi hI _=>?_)
 obtain ⟨x,hx,h0,hw⟩:=zlq (l:=l) ((l.map vrow).length) hlt zrT
 have hc:=zoJ x n (hwd x (List.mem_of_getElem? hx))
 obtain ⟨qZ,xZ,gZ⟩:=ih Zo (by first|trivial|assumption|(simp;done)|omega|(simp;omega)|(simp at *;omega)) Zo;exact ⟨qZ,xZ,fun R hg=>zab (wkl [sb h0,se (zaf vrow hx rfl),sl [0] hc,sb Zf,si hw] [0,1,7,8] 1 kr (gZ R hg))⟩
theorem c_ixW (l:List (List V)) (n:Int) (hl:zac l) (hwd:∀ v∈l,(((v.map V.cells).length:Int) != n)=false):∃ (r:Int),r=-1/\zaa E0 S.Ao [.sl (l.map vrow),.fn S.BR [.p 0 0]] [.box [iv n]] (iv r) [.box [iv n]]:=by
 obtain ⟨q1,q1_1,g1⟩:=zel l n zdL zdL 0 zdL zdL
 exact ⟨-1,Zr,wkc At.Ao [] [0,1,7,8] 1 kr (g1 _ (zab (wkr [sb q1_1] kr)))⟩
theorem c_cfV2 (l:List (List V)) (n:Int) (hi:∃ r:Int,r=-1/\zaa E0 S.Ao [.sl (l.map vrow),.fn S.BR [.p 0 0]] [.box [iv n]] (iv r) [.box [iv n]]):∃ (r:Bool),r=false/\zaa E0 S.A1 [.sl (l.map vrow),.fn S.BR [.p 0 0]] [.box [iv n]] (bv r) [.box [iv n]]:=by
 obtain ⟨r1,q1,c1⟩:=hi
 exact ⟨decide ((0:Int)<=r1),(by (subst_vars;rfl)),wk At.A1 [sl [0] c1] kr⟩
theorem ze7 (l:List (List V)) (n:Int) (hl:zac l) (hwd:∀ v∈l,(((v.map V.cells).length:Int) != n)=false):zaa E0 S.A1 [.sl (l.map vrow),.fn S.BR [.p 0 0]] [.box [iv n]] (bv false) [.box [iv n]]:=by
 obtain ⟨r,rfl,h⟩:=c_cfV2 l n (c_ixW l n hl hwd)
 exact h
noncomputable def L_kv (t:Tb) (ins:List (List V)) (i:Nat):Cfg:=zaj B.Cl 0 [(2,.p 0 0),(3,.p 1 0),(5,.nl),(6,.p 2 0),(26,.sl []),(27,iv (([]:List (List AV)).length:Nat)),(28,iv (i:Nat))] [.box t.cells,.box [.sl (ins.map vrow),.sl [],.sl []],.box [iv ((t.sch.cols.map Col.cells).length:Nat)]]
theorem zke (t:Tb) (ins:List (List V)) (i:Nat):True/\∀ R,Good E0 B.Cl [] (L_kv t ins i) R->Good E0 B.Cl [] (L_kv t ins i) R:=⟨trivial,fun _ h=>h⟩
theorem zqW (t:Tb) (ins:List (List V)) (hv:zaa E0 S.Cb [t.av] [] (bv true) []) (hl:zac ins) (hw:∀ v∈ins,(((v.map V.cells).length:Int) != ((t.sch.cols.map Col.cells).length:Int))=false):∃ (r:Bool),r=true/\zaa E0 S.Cl [t.av,insC ins] [] (bv r) []:=by
 obtain ⟨q1,g1⟩:=zke t ins (0)
 exact ⟨!false,Zr,wkc At.Cl [sc hv,sg Zf,sc (zjR t),sb Zf] [2,3,5,6,26,27,28] 3 kr (g1 _ (zab (wkr [sb Zf,sc (zjR t),sg Zt,sl [2] (ze7 ins ((↑(List.map Col.cells t.sch.cols).length:Int)) zdL zdL)] kr)))⟩
noncomputable def L_kf (t:Tb) (ins:List (List V)) (i:Nat):Cfg:=zaj B.B4 0 [(2,.p 0 0),(3,.p 1 0),(12,.sl []),(13,iv (([]:List (List AV)).length:Nat)),(14,iv (i:Nat))] [.box t.cells,.box [.sl (ins.map vrow),.sl [],.sl []]]
theorem zk3 (t:Tb) (ins:List (List V)) (i:Nat):True/\∀ R,Good E0 B.B4 [] (L_kf t ins i) R->Good E0 B.B4 [] (L_kf t ins i) R:=⟨trivial,fun _ h=>h⟩
noncomputable def L_kfI (t:Tb) (ins:List (List V)) (i:Nat) :Cfg:=zaj B.B4 1 [(2,.p 0 0),(28,.sl (ins.map vrow)),(29,iv ((ins.map vrow).length:Nat)),(30,iv (i:Nat))] [.box t.cells,.box [.sl (ins.map vrow),.sl [],.sl []]]
theorem zkf (t:Tb) (ins:List (List V)) (hl:zac ins) (hs:zac t.sch.cols) (hf:∀ v∈ins,fit5 t.sch v=0) (hg:∀ v∈ins,∀ x∈v,x.Good) (i:Nat)  (hi:i<=(ins).length) (hI:True):(True)/\(decide ((((ins).length:Nat):Int) < (((ins.map vrow).length:Nat):Int))=false)/\∀ R,Good E0 B.B4 [] (L_kfI t ins (ins).length ) R->Good E0 B.B4 [] (L_kfI t ins i ) R:=by
 have hk:=hi;revert i hI;refine zlp ((ins).length) (fun i hlt ih hi hI _=>?_)
 obtain ⟨x,hx,h0,hw⟩:=zlq (l:=ins) ((ins.map vrow).length) hlt zrT
 have hc:=zmd t.sch x hs (hg x (List.mem_of_getElem? hx));rw [hf x (List.mem_of_getElem? hx)] at hc
 obtain ⟨qZ,xZ,gZ⟩:=ih Zo (by first|trivial|assumption|(simp;done)|omega|(simp;omega)|(simp at *;omega)) Zo;exact ⟨qZ,xZ,fun R hg=>zab (wkl [sb h0,se (zaf vrow hx rfl),sc hc,sb Zf,si hw] [2,28,29,30] 2 kr (gZ R hg))⟩
theorem zsc (t:Tb) (ins:List (List V)) (hl:zac ins) (hs:zac t.sch.cols) (hf:∀ v∈ins,fit5 t.sch v=0) (hg:∀ v∈ins,∀ x∈v,x.Good):∃ (r:Int),r=0/\zaa E0 S.B4 [t.av,insC ins] [] (iv r) []:=by
 obtain ⟨q1,g1⟩:=zk3 t ins (0)
 obtain ⟨q2,q2_1,g2⟩:=zkf t ins zdL zdL zdL zdL 0 zdL zdL
 exact ⟨0,Zr,wkc At.B4 [] [2,3,12,13,14] 2 kr (g1 _ (zab (wkl [sb Zf] [2,28,29,30] 2 kr (g2 _ (zab (wkr [sb q2_1] kr))))))⟩
noncomputable def L_i0 (n:Int) (i:Nat):Cfg:=zaj B.AF 0 [(0,.sl []),(1,iv n),(7,iv (([]:List (List AV)).length:Nat)),(8,iv (i:Nat))] []
theorem zgU (n:Int) (i:Nat):True/\∀ R,Good E0 B.AF [] (L_i0 n i) R->Good E0 B.AF [] (L_i0 n i) R:=⟨trivial,fun _ h=>h⟩
theorem zzz (n:Int) :∃ (r:Int),r=-1/\zaa E0 S.AF [.sl [],iv n] [] (iv r) []:=by
 obtain ⟨q1,g1⟩:=zgU n (0)
 exact ⟨-1,Zr,wkc At.AF [] [0,1,7,8] 0 kr (g1 _ (zab (wkr [sb Zf] kr)))⟩
theorem zjY (n:Int):zaa E0 S.AF [.sl [],iv n] [] (iv (-1)) []:=by
 obtain ⟨r,rfl,h⟩:=zzz n
 exact h
theorem ztU (n:Int) :∃ (r:Bool),r=false/\zaa E0 S.Bx [.sl [],iv n] [] (bv r) []:=by
 exact ⟨decide ((0:Int)<=(-1:Int)),Zr,wk At.Bx [sc (zjY n)] kr⟩
theorem zdU (n:Int):zaa E0 S.Bx [.sl [],iv n] [] (bv false) []:=by
 obtain ⟨r,rfl,h⟩:=ztU n
 exact h
noncomputable def L_kaR (t:Tb) (ins:List (List V)) (nx:Int) (i:Nat) (rs:List Rw):Cfg:=zaj B.BA 0 [(2,.p 0 0),(3,.p 1 0),(4,.p 2 0),(7,.p 3 0),(8,.sl []),(66,.sl (t.rows.map Rw.cells)),(67,iv ((t.rows.map Rw.cells).length:Nat)),(68,iv (i:Nat))] [.box t.cells,.box [.sl (ins.map vrow),.sl [],.sl []],.box [sv ⟨#[]⟩,.nl,iv 0,.nl],.box [sv t.sch.name,.own 4 t.sch.cols.length,iv nx,.own 5 rs.length],.row Ty.Column (t.sch.cols.map Col.cells) false,.row Ty.Row (rs.map Rw.cells) false]
theorem zjq (t:Tb) (ins:List (List V)) (nx:Int) (hl:zac t.rows) (hvs:∀ r∈t.rows,zac r.vals) (i:Nat) (rs:List Rw) (hi:i<=(t.rows).length) (hI:rs=t.rows.take i):∃ (rs':List Rw),(rs'=t.rows.take (t.rows).length)/\(decide ((((t.rows).length:Nat):Int) < (((t.rows.map Rw.cells).length:Nat):Int))=false)/\∀ R,Good E0 B.BA [] (L_kaR t ins nx (t.rows).length rs') R->Good E0 B.BA [] (L_kaR t ins nx i rs) R:=by
 have hk:=hi;revert i rs;refine zlp ((t.rows).length) (fun i hlt ih rs hi hI _=>?_)
 obtain ⟨x,hx,h0,hw⟩:=zlq (l:=t.rows) ((t.rows.map Rw.cells).length) hlt zrT
 have hvx:=hvs x (List.mem_of_getElem? hx);have hol:rs.length<=1000000000:=(by rw [hI,List.length_take];simp only [zac] at hl;omega)
 exact Zih (ih (rs++[x]) Zo (by (rw [List.take_add_one,hx,← hI];rfl)) Zo) fun R gY=>zab (wkl [sb h0,se (zaf Rw.cells hx rfl),sc (zdU x.id),sb Zf,sd [(4,[sb Zf]),(5,[sb Zf]),(6,[sb Zf]),(7,[sb Zf]),(8,[sb Zf]),(9,[sb Zf]),(10,[sb Zf]),(11,[sb Zf])],sd [(5,[sc (za1 x.vals zdL)]),(7,[sqx (True/\x.vals.length=(List.map V.cells x.vals).length/\True)]),(8,[sqA (List.map Rw.cells rs) [[iv x.id,vsl x.vals]] rs.length 2 32])],si hw] [2,3,4,7,8,66,67,68] 6 kr (zaF rfl (show ([Blk.box [sv t.sch.name,ZC t.sch.cols,iv t.next,ZW t.rows],Blk.box [AV.sl (List.map vrow ins),AV.sl [],AV.sl []],Blk.box [sv Zs0,AV.nl,iv 0,AV.nl],Blk.box [sv t.sch.name,AV.own 4 t.sch.cols.length,iv nx,AV.own 5 (List.map Rw.cells rs++[[iv x.id,vsl x.vals]]).length],Blk.row Ty.Column (List.map Col.cells t.sch.cols) false,Blk.row Ty.Row (List.map Rw.cells rs++[[iv x.id,vsl x.vals]]) false]:Heap)=_ by first|rfl|(simp [Rw.cells,Tb.cells,zdg];done)) gY))
abbrev insT (t:Tb) (ins:List (List V)):Tb:=⟨t.sch,t.next+(ins.length:Int),t.rows++insN t.next ins⟩
theorem zqq {t:Tb} {ins:List (List V)} {i:Nat} {rs:List Rw} {x:List V} {z:Int} (hI:rs=t.rows++insN t.next (ins.take i)) (hx:ins[i]?=some x) (hz:z=t.next+(i:Int)):rs++[⟨z,x⟩]=t.rows++insN t.next (ins.take (i+1)):=by
 have hl:(ins.take i).length=i:=by have:=(List.getElem?_eq_some_iff.1 hx).1;simp;omega
 rw [hI,List.take_add_one,hx,List.append_assoc,hz]
 simp only [Option.toList_some]
 rw [zsS,hl]
noncomputable def L_kaI (t:Tb) (ins:List (List V)) (nx:Int) (i:Nat) (rs:List Rw):Cfg:=zaj B.BA 1 [(2,.p 0 0),(4,.p 2 0),(7,.p 3 0),(109,.sl (ins.map vrow)),(110,iv ((ins.map vrow).length:Nat)),(111,iv (i:Nat))] [.box t.cells,.box [.sl (ins.map vrow),.sl [],.sl []],.box [sv ⟨#[]⟩,.nl,iv 0,.nl],.box [sv t.sch.name,.own 4 t.sch.cols.length,iv nx,.own 5 rs.length],.row Ty.Column (t.sch.cols.map Col.cells) false,.row Ty.Row (rs.map Rw.cells) false]
theorem zjp (t:Tb) (ins:List (List V)) (nx:Int) (hl:zac t.rows) (hli:ins.length<=100000) (hlr:t.rows.length<=100000) (hn:1<=t.next/\t.next<=2147483648) (hvi:∀ r∈ins,zac r) (i:Nat) (rs:List Rw) (hi:i<=(ins).length) (hI:rs=t.rows++insN t.next (ins.take i)):∃ (rs':List Rw),(rs'=t.rows++insN t.next (ins.take (ins).length))/\(decide ((((ins).length:Nat):Int) < (((ins.map vrow).length:Nat):Int))=false)/\∀ R,Good E0 B.BA [] (L_kaI t ins nx (ins).length rs') R->Good E0 B.BA [] (L_kaI t ins nx i rs) R:=by
 have hk:=hi;revert i rs;refine zlp ((ins).length) (fun i hlt ih rs hi hI _=>?_)
 obtain ⟨x,hx,h0,hw⟩:=zlq (l:=ins) ((ins.map vrow).length) hlt zrT
 have hvx:=hvi x (List.mem_of_getElem? hx);have hil:=(List.getElem?_eq_some_iff.1 hx).1;have hol:rs.length<=1000000000:=(by rw [hI,List.length_append,zhT,List.length_take];omega)
 have hw1:IntKind.i64.wrap (t.next+((i:Nat):Int))=t.next+((i:Nat):Int):=(by rw [IntKind.wrap_i64];omega)
 exact Zih (ih (rs++[Rw.mk (t.next+(i:Int)) x]) Zo (by first|exact zqq hI hx rfl|exact zqq hI hx hw1) Zo) fun R gY=>zab (wkl [sb h0,se (zaf vrow hx rfl),sd [(5,[si hw1]),(7,[sc (za1 x zdL)]),(9,[sqx (True/\x.length=(List.map V.cells x).length/\True)]),(10,[sqA (List.map Rw.cells rs) [[iv (t.next+(i:Int)),vsl x]] rs.length 2 32])],si hw] [2,4,7,109,110,111] 6 kr (zaF rfl (show ([Blk.box [sv t.sch.name,ZC t.sch.cols,iv t.next,ZW t.rows],Blk.box [AV.sl (List.map vrow ins),AV.sl [],AV.sl []],Blk.box [sv Zs0,AV.nl,iv 0,AV.nl],Blk.box [sv t.sch.name,AV.own 4 t.sch.cols.length,iv nx,AV.own 5 (List.map Rw.cells rs++[[iv (t.next+(i:Int)),vsl x]]).length],Blk.row Ty.Column (List.map Col.cells t.sch.cols) false,Blk.row Ty.Row (List.map Rw.cells rs++[[iv (t.next+(i:Int)),vsl x]]) false]:Heap)=_ by first|rfl|(simp [Rw.cells,Tb.cells,zdg];done)) gY))
theorem zmA {a b:List Rw} (ha:a.length<=100000) (hb:b.length<=100000):zac (a++b):=by simp only [zac,List.length_append];omega
theorem zqV (t:Tb) (ins:List (List V)) (hv:zaa E0 S.Cl [t.av,insC ins] [] (bv true) []) (hr:zaa E0 S.B4 [t.av,insC ins] [] (iv 0) []) (hl:zac t.rows) (hlr:t.rows.length<=100000) (hli:ins.length<=100000) (hvs:∀ r∈t.rows,zac r.vals) (hvi:∀ r∈ins,zac r) (hsc:zac t.sch.cols) (hn:1<=t.next/\t.next<=2147483648) (b1:decide ((100:Int) < IntKind.i64.wrap (IntKind.i64.wrap (((t.rows.map Rw.cells).length:Int) - (([]:List (List AV)).length:Int))+((ins.map vrow).length:Int)))=false) (b2:decide (IntKind.i64.wrap (2147483648 - t.next) < ((ins.map vrow).length:Int))=false) (hd:∀ (nx:Int) (rs:List Rw),rs=t.rows++insN t.next (ins.take ins.length)->zaa E0 S.AT [Tb.av ⟨t.sch,nx,rs⟩] [] (bv false) []):∃ (x:Tb) (e:Int),(e=0/\∃ nx:Int,nx=IntKind.i64.wrap (t.next+((ins.map vrow).length:Int))/\x=⟨t.sch,nx,t.rows++insN t.next ins⟩)/\zaa E0 S.BA [t.av,insC ins] [] (.tup [x.av,iv e]) []:=by
 obtain ⟨rs1,q1,q1_1,g1⟩:=zjq t ins (IntKind.i64.wrap (t.next+(↑(List.map vrow ins).length:Int))) zec zec 0 ([]) zec zec
 obtain ⟨rs2,q2,q2_1,g2⟩:=zjp t ins (IntKind.i64.wrap (t.next+(↑(List.map vrow ins).length:Int))) zec zec zec zec zec 0 rs1 zec zec
 exact ⟨Tb.mk t.sch (IntKind.i64.wrap (t.next+(↑(List.map vrow ins).length:Int))) rs2,0,(by (have hq:=‹_=t.rows++insN t.next (ins.take ins.length)›;rw [List.take_length] at hq;exact ⟨rfl,_,rfl,by rw [hq]⟩)),wkcN At.BA [sc hv,sb Zf,sc hr,sb Zf,si (e:=IntKind.i64.wrap ((↑(List.map Rw.cells t.rows).length:Int) - (([]:List (List AV)).length:Int))) rfl,si (e:=IntKind.i64.wrap (IntKind.i64.wrap ((↑(List.map Rw.cells t.rows).length:Int) - (([]:List (List AV)).length:Int))+(↑(List.map vrow ins).length:Int))) rfl,sg b1,si (e:=IntKind.i64.wrap (2147483648 - t.next)) rfl,sb b2,si (e:=IntKind.i64.wrap (t.next+(↑(List.map vrow ins).length:Int))) rfl,sc (zaX t.sch.cols zec)] [2,3,4,7,8,66,67,68] 5 [(.ob 3 3 Ty.Row,6)] kr (g1 _ (zab (wkl [sb q1_1] [2,4,7,109,110,111] 6 kr (g2 _ (zab (wkr [sqx ((True/\t.sch.cols.length=(List.map Col.cells t.sch.cols).length/\True/\rs2.length=(List.map Rw.cells rs2).length/\True)/\True/\True),sb q2_1,skx ((True/\t.sch.cols.length=(List.map Col.cells t.sch.cols).length/\True/\rs2.length=(List.map Rw.cells rs2).length/\True)/\True) [] (hd (IntKind.i64.wrap (t.next+(↑(List.map vrow ins).length:Int))) rs2 zec),sb Zf] kr))))))⟩
theorem wkcK {f:FuncId} {fn:Func} {args:List AV} {h:Heap} {R:AV->Heap->Prop} {c':Cfg} (hf:E0.P.funcs[f]?=some fn) (l:List St) (live:List Nat) (m:Nat) (hu:zk2 fn args h live m (orcs l)=some (zbo l,c'))
  (hg:Good E0 fn h c' R):zbO E0 f args h R:=by
 unfold zk2 at hu
 split at hu
 ·rename_i c hb hn ha hm
  exact zym E0ok mix0 hf hb hn ha 3000 l live m hm (Option.some.inj hu) hg
 ·cases hu
theorem wkcNK {f:FuncId} {fn:Func} {args:List AV} {h:Heap} {R:AV->Heap->Prop} {c':Cfg} (hf:E0.P.funcs[f]?=some fn) (l:List St) (live:List Nat) (m:Nat) (k:List (Ct × Nat)) (hu:zpv fn args h live m k (orcs l)=some (zbo l,c'))
  (hg:Good E0 fn h c' R):zbO E0 f args h R:=by
 unfold zpv at hu
 split at hu
 ·rename_i q c1 h1
  unfold zk2 at h1
  split at h1
  ·rename_i c hb hn ha hm
   obtain ⟨q2,h2⟩:=zjJ hu
   have h3:=za5 l
   have h4:allP q:=by
    rw [h2] at h3
    exact (zd7 h3).1
   exact zaV hf hb hn (Nat.le_of_ble_eq_true ha) (zmE hm (Option.some.inj h1) h4 (zow hu h3 hg))
  ·cases h1
 ·cases hu
theorem wkrK {fn:Func} {h0:Heap} {c:Cfg} {r:AV} {H:Heap} (l:List St) (hfin:finK (mk E0) fn 3000 c (orcs l)=some (zbo l,r,H)):Good E0 fn h0 c (fun y h=>y=r/\h=H) :=
 zcD E0ok mix0 3000 l hfin ⟨rfl,rfl⟩
end Go.AM
namespace Go.AM
theorem zgx {p:Prop} (h:p:=by first|assumption|omega|rfl|(simp;done)):p:=h
theorem znn (t:Tb) (ins:List (List V)) (ht:TabV t) (hr:∀ r∈ins,zcX t.sch.cols r) (hlen:t.rows.length+ins.length<=100) (hnx:t.next+(ins.length:Int)<=2147483648) (hk:(zbs (idxF (fun c=>c.key) t.sch.cols 0) (t.rows++insN t.next ins)).Nodup):zaa E0 S.BA [t.av,insC ins] [] (.tup [(insT t ins).av,iv 0]) []:=by
 have hp:=ht.rows.pos
 have hsc:=ht.sch.short
 have hvi:∀ r∈ins,zac r:=fun r h=>by have h1:=(hr r h).len;simp only [zac] at *;omega
 have hV:zaa E0 S.Cl [t.av,insC ins] [] (bv true) []:=by
  obtain ⟨r,rfl,h⟩:=zqW t ins (znY t ht) (by simp only [zac];omega) fun v hv=>by have h9:v.length=t.sch.cols.length:=(hr v hv).len;simp [h9]
  exact h
 have hF:zaa E0 S.B4 [t.av,insC ins] [] (iv 0) []:=by
  obtain ⟨r,rfl,h⟩:=zsc t ins (by simp only [zac];omega) hsc (fun v hv=>zu1 ht.sch (hr v hv)) fun v hv=>ztl (hr v hv)
  exact h
 obtain ⟨x,e,⟨he,nx,hnx2,hx⟩,h⟩:=zqV t ins hV hF ht.shr Zo Zo ht.vals hvi hsc ⟨hp,by omega⟩ (by simp [IntKind.wrap_i64];omega) (by simp [IntKind.wrap_i64];omega) fun nx rs hrs=>by
  rw [List.take_length] at hrs
  obtain ⟨b,hb,hc⟩:=zg8 ⟨t.sch,nx,rs⟩ hsc (by simp only [hrs];exact zmA Zo (by rw [zhT];omega))
  have h1:b=false:=hb.2 (by simp only [hrs];exact hk)
  rw [h1] at hc;exact hc
 have e2:nx=t.next+(ins.length:Int):=by rw [hnx2,List.length_map,IntKind.wrap_i64];omega
 rw [he,hx,e2] at h;exact h
abbrev evR (f:X->V × Int) (rows:List (List X)):List (List V):=rows.map fun y=>y.map fun x=>(f x).1
abbrev zay (nm:Str) (rows:List (List X)):Ac:=⟨1,nm,rows,[],[],[],⟨#[]⟩⟩
noncomputable def L_niI (nm:Str) (rows:List (List X)) (s:Sch) (frs:List Fr) (tb:List Tb) (f:X->V × Int) (io:Nat) (y:List X) (out:List (List V)) (i:Nat) (row:List V):Cfg:=zaj B.Am 1 [(2,fsl frs),(3,tsl tb),(4,.p 0 0),(5,.p 1 0),(10,.own 2 out.length),(13,.own 3 row.length),(23,.sl (rows.map zau)),(24,iv ((rows.map zau).length:Nat)),(25,iv (io:Nat)),(35,xsl y),(36,iv ((zad y).length:Nat)),(37,iv (i:Nat))] [.box (zay nm rows).cells,.box s.cells,.row Ty.LValue (out.map vrow) false,.row Ty.Value (row.map V.cells) false]
theorem zij (nm:Str) (rows:List (List X)) (s:Sch) (frs:List Fr) (tb:List Tb) (f:X->V × Int) (io:Nat) (y:List X) (out:List (List V)) (hy:zac y) (hf:∀ x∈y,PEv f x frs tb) (hf0:∀ x∈y,((f x).2 != 0)=false) (i:Nat) (row:List V) (hi:i<=(y).length) (hI:row=(y.take i).map fun x=>(f x).1):∃ (row':List V),(row'=(y.take (y).length).map fun x=>(f x).1)/\(decide ((((y).length:Nat):Int) < (((zad y).length:Nat):Int))=false)/\∀ R,Good E0 B.Am [] (L_niI nm rows s frs tb f io y out (y).length row') R->Good E0 B.Am [] (L_niI nm rows s frs tb f io y out i row) R:=by
 have hk:=hi;revert i row;refine zlp ((y).length) (fun i hlt ih row hi hI _=>?_)
 obtain ⟨x,hx,h0,hw⟩:=zlq (l:=y) ((zad y).length) hlt
 have hx1:=hf x (List.mem_of_getElem? hx);have hx0:=hf0 x (List.mem_of_getElem? hx);have hrl:row.length<=1000000000:=by rw [hI];simp only [List.length_map,List.length_take,zac] at *;omega
 exact Zih (ih (row++[(f x).fst]) Zo (by (rw [List.take_add_one,hx,List.map_append,← hI];rfl)) Zo) fun R gY=>zab (wkl [sb h0,se (zbr hx),sc hx1,sb hx0,sqA (List.map V.cells row) [[iv (f x).fst.kind,iv (f x).fst.int,sv (f x).fst.text]] row.length 3 32,si hw] [2,3,4,5,10,13,23,24,25,35,36,37] 4 kr (zao 13 3 (List.map V.cells row++[[iv (f x).fst.kind,iv (f x).fst.int,sv (f x).fst.text]]) gY (he:=Zcv5) (hm:=Zcv5)))
theorem zzK {f:X->V × Int} {rows:List (List X)} {i:Nat} {x:List X} {out:List (List V)} {row:List V} (hI:out=evR f (rows.take i)) (hx:rows[i]?=some x) (hq:row=(x.take x.length).map fun x=>(f x).1):out++[row]=evR f (rows.take (i+1)):=by
 rw [List.take_length] at hq
 rw [hI,hq];unfold evR
 rw [List.take_add_one,hx,List.map_append];rfl
noncomputable def L_niR (nm:Str) (rows:List (List X)) (s:Sch) (frs:List Fr) (tb:List Tb) (f:X->V × Int) (i:Nat) (out:List (List V)):Cfg:=zaj B.Am 0 [(2,fsl frs),(3,tsl tb),(4,.p 0 0),(5,.p 1 0),(10,.own 2 out.length),(23,.sl (rows.map zau)),(24,iv ((rows.map zau).length:Nat)),(25,iv (i:Nat))] [.box (zay nm rows).cells,.box s.cells,.row Ty.LValue (out.map vrow) false]
theorem zil (nm:Str) (rows:List (List X)) (s:Sch) (frs:List Fr) (tb:List Tb) (f:X->V × Int) (hs:zac s.cols) (hr:zac rows) (hf:∀ r∈rows,zac r/\∀ x∈r,PEv f x frs tb) (hf0:∀ r∈rows,∀ x∈r,((f x).2 != 0)=false) (hfl:∀ r∈rows,(((zad r).length:Int) != ((s.cols.map Col.cells).length:Int))=false) (i:Nat) (out:List (List V)) (hi:i<=(rows).length) (hI:out=evR f (rows.take i)):∃ (out':List (List V)),(out'=evR f (rows.take (rows).length))/\(decide ((((rows).length:Nat):Int) < (((rows.map zau).length:Nat):Int))=false)/\∀ R,Good E0 B.Am [] (L_niR nm rows s frs tb f (rows).length out') R->Good E0 B.Am [] (L_niR nm rows s frs tb f i out) R:=by
 have hk:=hi;revert i out;refine zlp ((rows).length) (fun i hlt ih out hi hI _=>?_)
 obtain ⟨x,hx,h0,hw⟩:=zlq (l:=rows) ((rows.map zau).length) hlt
 have hx1:=(hf x (List.mem_of_getElem? hx)).1;have hx2:=(hf x (List.mem_of_getElem? hx)).2;have hx3:=hf0 x (List.mem_of_getElem? hx);have hx4:=hfl x (List.mem_of_getElem? hx);have hol:out.length<=1000000000:=by rw [hI];simp only [evR,List.length_map,List.length_take,zac] at *;omega
 obtain ⟨row1,q1,q1_1,g1⟩:=zij ((zay nm rows).table) ((zay nm rows).rows) s frs tb f i x out zgx hx2 zgx 0 ([]) zgx zgx
 exact Zih (ih (out++[row1]) Zo (by exact zzK hI hx ‹_›) Zo) fun R gY=>zab (wklN [sb h0,se (zaf zau hx rfl),sb hx4] [2,3,4,5,10,13,23,24,25,35,36,37] 3 [(.ot 13 Ty.Value,4)] kr (g1 _ (zab (wkl [sb q1_1,sqx (row1.length=(List.map V.cells row1).length/\True),sqA (List.map vrow out) [[vsl row1]] out.length 1 24,si hw] [2,3,4,5,10,23,24,25] 3 kr (zao 10 2 (List.map vrow out++[[vsl row1]]) gY (he:=Zcv5) (hm:=Zcv5))))))
noncomputable def L_niQ (nm:Str) (rows:List (List X)) (s:Sch) (frs:List Fr) (tb:List Tb) (out:List (List V)) (i:Nat):Cfg:=zaj B.Am 2 [(2,fsl frs),(3,tsl tb),(5,.p 1 0),(10,.own 2 out.length),(62,.sl []),(63,iv (([]:List (List AV)).length:Nat)),(64,iv (i:Nat))] [.box (zay nm rows).cells,.box s.cells,.row Ty.LValue (out.map vrow) false]
theorem zik (nm:Str) (rows:List (List X)) (s:Sch) (frs:List Fr) (tb:List Tb) (out:List (List V)) (i:Nat):True/\∀ R,Good E0 B.Am [] (L_niQ nm rows s frs tb out i) R->Good E0 B.Am [] (L_niQ nm rows s frs tb out i) R:=⟨trivial,fun _ h=>h⟩
theorem zlz (nm:Str) (rows:List (List X)) (s:Sch) (frs:List Fr) (tb:List Tb) (f:X->V × Int) (hs:zac s.cols) (hr:zac rows) (hf:∀ r∈rows,zac r/\∀ x∈r,PEv f x frs tb) (hf0:∀ r∈rows,∀ x∈r,((f x).2 != 0)=false) (hfl:∀ r∈rows,(((zad r).length:Int) != ((s.cols.map Col.cells).length:Int))=false):∃ (out:List (List V)),out=evR f (rows.take rows.length)/\zaa E0 S.Am [(zay nm rows).av,s.av,fsl frs,tsl tb] [] (.tup [.own 2 out.length,iv 0]) [.box (zay nm rows).cells,.box s.cells,.row Ty.LValue (out.map vrow) false]:=by
 obtain ⟨out1,q1,q1_1,g1⟩:=zil ((zay nm rows).table) ((zay nm rows).rows) s frs tb f zgx zgx hf zgx zgx 0 ([]) zgx zgx
 obtain ⟨q2,g2⟩:=zik ((zay (zay nm rows).table (zay nm rows).rows).table) ((zay (zay nm rows).table (zay nm rows).rows).rows) s frs tb out1 (0)
 exact ⟨out1,(by first|assumption|trivial|(simp;done)|omega|(simp;omega)|(simp at *;omega)),wkcNK At.Am [] [2,3,4,5,10,23,24,25] 2 [(.ot 10 Ty.LValue,3)] kr (g1 _ (zab (wkl [sb q1_1] [2,3,5,10,62,63,64] 3 kr (g2 _ (zab (wkrK [sb Zf] kr))))))⟩
end Go.AM
namespace Go.Proofs
open Go.Shelf
shelf_lay_g Lays8.n4 Nm8 4 at Tryz 60 as Tryz.growT
end Go.Proofs
namespace Go.AM
open Go.Shelf Go.RowKit Go.Lib
theorem zwL {w:World} (o:Obj):BelowD w.heap.size w (w.drew.alloc o):=(BelowD.refl _ w).drew.alloc (Nat.le_refl _) o
theorem zfY (n:Nat) (hn:n<=1000000):zaa E0 S.CM [.nl,iv (n:Int)] [] (.own 0 0) [.row Ty.Table [] false]:=by
 intro β S w vs r hp
 obtain ⟨hl,hv⟩:=hp
 match vs,hl,hv with
 | [v1,v2],_,hv =>
  have h1:=hv 0 .nl v1 rfl rfl
  have h2:=hv 1 (iv (n:Int)) v2 rfl rfl
  obtain ⟨a,rfl⟩:∃ a,v1=.slice a 0 0:=by
   cases h1 with
   | d _ _ h=>cases h
   | nl a=>exact ⟨a,rfl⟩
  obtain rfl:v2=.int .i64 (n:Int):=by
   cases h2 with
   | d _ _ h=>cases h with|v _ _=>rfl
  refine .inl ⟨⟨_,At.CM,by kernel_rfl,by kernel_rfl⟩,?_⟩
  have hb0:β.length=0:=r.len
  have hβ:β=[]:=List.length_eq_zero_iff.1 hb0
  subst hβ
  rcases Nat.eq_zero_or_pos n with h0|hpos
  ·subst h0
   have hc:=Go.Proofs.Any8.slices_Grow_room Go.Proofs.Tryz.growT a 0 0 0 w (Nat.le_refl _) Zo Zo Zo
   refine Calls.mono (P:=E0.P) hc ?_
   rintro e w' ⟨rfl,rfl⟩
   obtain ⟨x,r'⟩:=r.newRow Ty.Table [] false (.nil a) (BelowD.refl _ _) (fun g hg=>by cases hg) rfl
   exact ⟨_,_,_,_,_,rfl,⟨rfl,rfl⟩,r',x,.own 0 0 _ Ty.Table [] false rfl (Nat.le_refl _) (fun _=>rfl) rfl⟩
  ·obtain ⟨i,d,z,tok⟩:=E0ok.at_ (t:=Ty.Table) (by
    intro h
    have:(E0.T Ty.Table).size=4:=by kernel_rfl
    rw [h] at this;cases this)
   have hs:(E0.T Ty.Table).size=4:=by kernel_rfl
   have hby:(E0.T Ty.Table).bytes<=1000:=Nat.le_of_ble_eq_true kr
   have hbytes:n * i.bytes<=140737488355328:=by
    rw [tok.bytes]
    exact Nat.le_trans (Nat.mul_le_mul hn hby) Zo
   have hc:=Go.Proofs.Any8.slices_Grow_grow Go.Proofs.Tryz.growT i z tok.info tok.zero (by rw [tok.size,hs];omega) a 0 0 n [] w (Nat.le_refl _) Zo (by rw [Nat.zero_add];exact hbytes) Zo Zs (fun _=>rfl) (fun _ _ j v h=>by simp at h)
   have hc2:Calls E0.P Go.AM.S.CM #[.slice a 0 0,.int .i64 (n:Int)] w fun e w'=>e=.returned (.slice (some ⟨w.heap.size,0,none⟩) 0 (grownCap w (0+n) 0 Ty.Table))/\w'=w.drew.alloc (.cells (([]:List Value).toArray++Builtin.zeroCells z.cells (0+n - 0)++Builtin.zeroCells z.cells (grownCap w (0+n) 0 Ty.Table - (0+n))) Ty.Table):=hc
   refine Calls.mono (P:=E0.P) hc2 ?_
   rintro e w' ⟨rfl,rfl⟩
   have hge:=grownCap_ge w (0+n) 0 Ty.Table
   have hle:=grownCap_le_maxLen w (0+n) 0 Ty.Table (by unfold maxLen;omega)
   have hzl:z.cells.size=(E0.T Ty.Table).size:=by
    have:=(zd4 (T:=E0.T) (h:=([]:Heap)) (β:=[]) (w:=w) (S:=S) _ _ tok.zok).1
    rw [Array.length_toList] at this
    rw [← this,tok.zlen]
   have hsz:(([]:List Value).toArray++Builtin.zeroCells z.cells (0+n - 0)++Builtin.zeroCells z.cells (grownCap w (0+n) 0 Ty.Table - (0+n))).size=grownCap w (0+n) 0 Ty.Table * (E0.T Ty.Table).size:=by
    simp only [Array.size_append,List.size_toArray,size_zeroCells,hzl,List.length_nil,Nat.zero_add,← Nat.add_mul]
    congr 1
    simp only [Nat.zero_add] at hge
    omega
   obtain ⟨x,r'⟩:=r.newRow Ty.Table [] false (.row w.heap.size (grownCap w (0+n) 0 Ty.Table)) (zwL _) (fun g hg=>by cases hg;exact ⟨Nat.le_refl _,by simp⟩)
    ⟨_,heap_alloc_new w.drew (.cells (([]:List Value).toArray++Builtin.zeroCells z.cells (0+n - 0)++Builtin.zeroCells z.cells (grownCap w (0+n) 0 Ty.Table - (0+n))) Ty.Table),Nat.zero_le _,by omega,hle,hsz,by simp,by simp⟩
   exact ⟨_,_,_,_,_,rfl,⟨rfl,rfl⟩,r',x,.own 0 0 _ Ty.Table [] false rfl (Nat.le_refl _) (fun _=>rfl) rfl⟩
end Go.AM
namespace Go.AM
theorem znZ (i:Nat):zaa E0 S.CW [iv (i:Nat)] [] (X.av (xLit ⟨1,i,⟨#[]⟩⟩)) [] :=
 zr5 i (by rw [decide_eq_false_iff_not];omega)
end Go.AM
