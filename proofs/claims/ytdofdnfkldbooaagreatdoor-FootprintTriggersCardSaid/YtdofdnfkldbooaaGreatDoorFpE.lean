/-
  Contracts of the program's functions, part 4.
-/
import Derived.Test.YtdofdnfkldbooaaGreatDoorFpD
import Derived.Lib.Strings
import Derived.Sort.Walk0
import Derived.Shelf.SlSortCmp.NoneTotal
import Derived.Shelf.Spec.SlicesGrow
set_option maxRecDepth 100000
set_option maxHeartbeats 40000000
set_option linter.unusedSimpArgs false
set_option linter.unusedVariables false
namespace Go.AM
theorem zk2 {p:Prop} (h:p:=by first|exact (hI.1.s1 hx ‹_›).both|exact (hI.1.s2 hn hx ‹_›).both|exact ((hI.1.add ‹_›).s1 hx ‹_›).both|exact ((hI.1.add ‹_›).s2 hn hx ‹_›).both):p:=h
theorem zcg {p:Prop} (h:p:=by first|assumption|omega|(simp;done)|(simp;omega)):p:=h
theorem ziP {p:Prop} (h:p:=by first|trivial|assumption|(simp;done)|omega|(simp;omega)|(simp at *;omega)):p:=h
theorem zk3 {p:Prop} (h:p:=by first|assumption|exact ⟨h,fun _ hz=>hz⟩|(simp;done)):p:=h
theorem zpZ {p:Prop} (h:p:=by first|assumption|(simp;done)|exact ⟨⟨by simp,by simp,by simp,by simp⟩,by simp⟩):p:=h
theorem zk4 {p:Prop} (h:p:=by first|omega|(simp only [zac,Few] at *;omega)):p:=h
abbrev lsl (l:List Lk):AV:=.sl (l.map Lk.cells)
theorem zlj (a b:Lk) :∃ (r:Bool),zab E0 S.CJ [a.av,b.av] [] (bv r) []:=by
 cases h1:Op.bytesLess (ByteArray.toList a.fst) (ByteArray.toList b.fst)
 ·cases h2:ByteArray.toList a.fst==ByteArray.toList b.fst
  ·exact ⟨false,wk At.CJ [sg h1,sb h2] kr⟩
  ·exact ⟨Op.bytesLess (ByteArray.toList a.snd) (ByteArray.toList b.snd),wk At.CJ [sg h1,sg h2] kr⟩
 ·exact ⟨true,wk At.CJ [sb h1] kr⟩
noncomputable def L_pr (l:List Lk) (a b:Str) (i:Nat) :Cfg:=zan B.BN 0 [(1,sv a),(2,sv b),(9,lsl l),(10,iv ((l.map Lk.cells).length:Nat)),(11,iv (i:Nat))] []
theorem zh7 (l:List Lk) (a b:Str) (hl:zac l) (i:Nat)  (hi:i<=(l).length) (hI:True):((True)/\(decide ((((l).length:Nat):Int) < (((l.map Lk.cells).length:Nat):Int))=false)/\∀ R,Good E0 B.BN [] (L_pr l a b (l).length ) R->Good E0 B.BN [] (L_pr l a b i ) R)\/(∃ (r:Bool),Good E0 B.BN [] (L_pr l a b i ) (Shut 0 fun rZ hZ=>rZ=(bv r)/\hZ=[])):=by
 have hk:=hi;revert i hI;refine zlp ((l).length) (fun i hlt ih hi hI _=>?_)
 obtain ⟨x,hx,h0,hw⟩:=zlq (l:=l) ((l.map Lk.cells).length) hlt zk4
 let p_1:List St:=[sb h0,se (zai Lk.cells hx rfl)]
 cases h1:ByteArray.toList x.fst==ByteArray.toList a
 ·exact zie1 (ih Zo ziP Zo) fun R gY=>zaa (wkl (p_1++[sb h1,si hw]) [1,2,9,10,11] 0 kr gY)
 ·cases h2:ByteArray.toList x.snd==ByteArray.toList b
  ·exact zie1 (ih Zo ziP Zo) fun R gY=>zaa (wkl (p_1++[sg h1,sb h2,si hw]) [1,2,9,10,11] 0 kr gY)
  ·exact .inr ⟨true,zaa (wkr (p_1++[sg h1,sb h2]) kr)⟩
theorem zoW (l:List Lk) (a b:Str) (hl:zac l):∃ (r:Bool),zab E0 S.BN [lsl l,sv a,sv b] [] (bv r) []:=by
 rcases zh7 l a b zcg 0 zcg zcg with ⟨q1,q1_1,g1⟩|⟨r1_0,g1⟩
 ·exact ⟨false,wkc At.BN [] [1,2,9,10,11] 0 kr (g1 _ (zaa (wkr [sb q1_1] kr)))⟩
 ·exact ⟨r1_0,wkc At.BN [] [1,2,9,10,11] 0 kr (g1)⟩
noncomputable def zwf (l:List Lk) (io:Nat) (y:Lk) (i:Nat) :Cfg:=zan B.Bw 1 [(0,lsl l),(4,.p 0 0),(7,lsl l),(8,iv ((l.map Lk.cells).length:Nat)),(9,iv (io:Nat)),(33,lsl l),(34,iv ((l.map Lk.cells).length:Nat)),(35,iv (i:Nat))] [.box y.cells]
theorem zeP (l:List Lk) (io:Nat) (y:Lk) (hl:zac l) (i:Nat)  (hi:i<=(l).length) (hI:True):((True)/\(decide ((((l).length:Nat):Int) < (((l.map Lk.cells).length:Nat):Int))=false)/\∀ R,Good E0 B.Bw [] (zwf l io y (l).length ) R->Good E0 B.Bw [] (zwf l io y i ) R)\/(∃ (r:Bool),Good E0 B.Bw [] (zwf l io y i ) (Shut 0 fun rZ hZ=>rZ=(bv r)/\hZ=[])):=by
 have hk:=hi;revert i hI;refine zlp ((l).length) (fun i hlt ih hi hI _=>?_)
 obtain ⟨x,hx,h0,hw⟩:=zlq (l:=l) ((l.map Lk.cells).length) hlt zk4
 let p_1:List St:=[sb h0,se (zai Lk.cells hx rfl)]
 cases h1:ByteArray.toList y.snd==ByteArray.toList x.fst
 ·exact zie1 (ih Zo ziP Zo) fun R gY=>zaa (wkl (p_1++[sb h1,si hw]) [0,4,7,8,9,33,34,35] 1 kr gY)
 ·obtain ⟨r2,c2⟩:=(zoW l y.fst x.snd zcg)
  cases h3:!r2
  ·exact zie1 (ih Zo ziP Zo) fun R gY=>zaa (wkl (p_1++[sg h1,sc c2,sb h3,si hw]) [0,4,7,8,9,33,34,35] 1 kr gY)
  ·exact .inr ⟨false,zaa (wkr (p_1++[sg h1,sc c2,sb h3]) kr)⟩
noncomputable def L_va (l:List Lk) (i:Nat) :Cfg:=zan B.Bw 0 [(0,lsl l),(7,lsl l),(8,iv ((l.map Lk.cells).length:Nat)),(9,iv (i:Nat))] []
theorem zkp (l:List Lk) (hl:zac l) (i:Nat)  (hi:i<=(l).length) (hI:True):((True)/\(decide ((((l).length:Nat):Int) < (((l.map Lk.cells).length:Nat):Int))=false)/\∀ R,Good E0 B.Bw [] (L_va l (l).length ) R->Good E0 B.Bw [] (L_va l i ) R)\/(∃ (r:Bool),Good E0 B.Bw [] (L_va l i ) (Shut 0 fun rZ hZ=>rZ=(bv r)/\hZ=[])):=by
 have hk:=hi;revert i hI;refine zlp ((l).length) (fun i hlt ih hi hI _=>?_)
 obtain ⟨x,hx,h0,hw⟩:=zlq (l:=l) ((l.map Lk.cells).length) hlt zk4
 let p_1:List St:=[sb h0,se (zai Lk.cells hx rfl)]
 cases h1:ByteArray.toList x.fst==ByteArray.toList x.snd
 ·cases h2:decide (0 < (i:Int))
  ·let p_3:List St:=p_1++[sd [(6,[sg h1]),(7,[sg h1]),(8,[sg h1]),(9,[sb h2]),(10,[sb h2]),(11,[sb h2]),(12,[sb h2]),(13,[sb h2]),(14,[sb h2]),(15,[sb h2]),(16,[sb h2]),(17,[so h1 (sb h2)])]]
   cases h3:bif ByteArray.toList x.fst==ByteArray.toList x.snd then true else false
   ·rcases zeP l i x zcg 0 zcg zcg with ⟨q4,q4_1,g4⟩|⟨r4_0,g4⟩
    ·exact zie1 (ih Zo ziP Zo) fun R gY=>zaa (wkl (p_3++[sb h3]) [0,4,7,8,9,33,34,35] 1 kr (g4 _ (zaa (wkl [sb q4_1,si hw] [0,7,8,9] 0 kr gY))))
    ·exact .inr ⟨r4_0,zaa (wkl (p_3++[sb h3]) [0,4,7,8,9,33,34,35] 1 kr g4)⟩
   ·exact .inr ⟨false,zaa (wkr (p_3++[sb h3]) kr)⟩
  ·obtain ⟨x5,e5⟩:=zkM (l:=l) (i:=IntKind.i64.wrap ((i:Int) - (1:Int))) (by (have:=(List.getElem?_eq_some_iff.mp hx).1;simp only [zac] at hl;simp only [decide_eq_true_eq,IntKind.wrap_i64] at *;omega))
   obtain ⟨r6,c6⟩:=(zlj x5 x)
   let p_4:List St:=p_1++[sd [(6,[sg h1]),(7,[sg h1]),(8,[sg h1]),(9,[sg h2]),(10,[sg h2]),(11,[so h2 (si (e:=IntKind.i64.wrap ((i:Int) - 1)) rfl)]),(12,[so h2 (se (zdH Lk.cells e5 rfl))]),(13,[sg h2]),(14,[sg h2]),(15,[so h2 (sc c6)]),(16,[sg h2]),(17,[sg h1])]]
   cases h7:bif ByteArray.toList x.fst==ByteArray.toList x.snd then true else bif decide (0 < (i:Int)) then !r6 else false
   ·rcases zeP l i x zcg 0 zcg zcg with ⟨q8,q8_1,g8⟩|⟨r8_0,g8⟩
    ·exact zie1 (ih Zo ziP Zo) fun R gY=>zaa (wkl (p_4++[sb h7]) [0,4,7,8,9,33,34,35] 1 kr (g8 _ (zaa (wkl [sb q8_1,si hw] [0,7,8,9] 0 kr gY))))
    ·exact .inr ⟨r8_0,zaa (wkl (p_4++[sb h7]) [0,4,7,8,9,33,34,35] 1 kr g8)⟩
   ·exact .inr ⟨false,zaa (wkr (p_4++[sb h7]) kr)⟩
 ·exact .inr ⟨false,zaa (wkr (p_1++[sd [(6,[sb h1]),(7,[sb h1]),(8,[sb h1]),(17,[sb h1]),(18,[sb h1])]]) kr)⟩
theorem zmi (l:List Lk) (hl:zac l):∃ (r:Bool),zab E0 S.Bw [lsl l] [] (bv r) []:=by
 rcases zkp l zcg 0 zcg zcg with ⟨q1,q1_1,g1⟩|⟨r1_0,g1⟩
 ·exact ⟨true,wkc At.Bw [] [0,7,8,9] 0 kr (g1 _ (zaa (wkr [sb q1_1] kr)))⟩
 ·exact ⟨r1_0,wkc At.Bw [] [0,7,8,9] 0 kr (g1)⟩
noncomputable def L_is (l:List Lk) (u:Lk) (i:Nat) (out:List Lk) (done:Bool):Cfg:=zan B.Cg 0 [(3,.p 0 0),(5,.own 1 out.length),(6,bv done),(9,lsl l),(10,iv ((l.map Lk.cells).length:Nat)),(11,iv (i:Nat))] [.box u.cells,.row Ty.Link (out.map Lk.cells) false]
theorem zjA (l:List Lk) (u:Lk) (hl:zac l) (hn:l.Nodup) (i:Nat) (out:List Lk) (done:Bool) (hi:i<=(l).length) (hI:InsI l u i out done/\out.length<=i+1):∃ (out':List Lk) (done':Bool),(InsI l u (l).length out' done'/\out'.length<=(l).length+1)/\(decide ((((l).length:Nat):Int) < (((l.map Lk.cells).length:Nat):Int))=false)/\∀ R,Good E0 B.Cg [] (L_is l u (l).length out' done') R->Good E0 B.Cg [] (L_is l u i out done) R:=by
 have hk:=hi;revert i out done;refine zlp ((l).length) (fun i hlt ih out done hi hI _=>?_)
 obtain ⟨x,hx,h0,hw⟩:=zlq (l:=l) ((l.map Lk.cells).length) hlt zk4
 have hol:out.length<=1000000000:=by have:=hI.2;simp only [zac] at hl;omega
 let p_1:List St:=[sb h0,se (zai Lk.cells hx rfl)]
 cases h1:!done
 ·cases h2:!(x.fst==u.fst&&(x.snd==u.snd&&true))
  ·obtain ⟨outZ,doneZ,qZ,xZ,gZ⟩:=ih out done Zo zk2 Zo;exact ⟨outZ,doneZ,qZ,xZ,fun R hg=>zaa (wkl (p_1++[sb h1,sq ziR,sb h2,si hw]) [3,5,6,9,10,11] 2 kr (gZ R hg))⟩
  ·obtain ⟨outZ,doneZ,qZ,xZ,gZ⟩:=ih (out++[x]) done Zo zk2 Zo;exact ⟨outZ,doneZ,qZ,xZ,fun R hg=>zaa (wkl (p_1++[sb h1,sq ziR,sb h2,sqA (List.map Lk.cells out) [[sv x.fst,sv x.snd]] out.length 2 32,si hw]) [3,5,6,9,10,11] 2 kr (zaE 5 1 (List.map Lk.cells out++[[sv x.fst,sv x.snd]]) (gZ R hg) (he:=Zcv1) (hm:=Zcv1)))⟩
 ·obtain ⟨r3,c3⟩:=(zlj x u)
  cases h4:!r3
  ·cases h5:!(x.fst==u.fst&&(x.snd==u.snd&&true))
   ·obtain ⟨outZ,doneZ,qZ,xZ,gZ⟩:=ih out done Zo zk2 Zo;exact ⟨outZ,doneZ,qZ,xZ,fun R hg=>zaa (wkl (p_1++[sg h1,sc c3,sb h4,sq ziR,sb h5,si hw]) [3,5,6,9,10,11] 2 kr (gZ R hg))⟩
   ·obtain ⟨outZ,doneZ,qZ,xZ,gZ⟩:=ih (out++[x]) done Zo zk2 Zo;exact ⟨outZ,doneZ,qZ,xZ,fun R hg=>zaa (wkl (p_1++[sg h1,sc c3,sb h4,sq ziR,sb h5,sqA (List.map Lk.cells out) [[sv x.fst,sv x.snd]] out.length 2 32,si hw]) [3,5,6,9,10,11] 2 kr (zaE 5 1 (List.map Lk.cells out++[[sv x.fst,sv x.snd]]) (gZ R hg) (he:=Zcv1) (hm:=Zcv1)))⟩
  ·let p_2:List St:=p_1++[sg h1,sc c3,sb h4,sqA (List.map Lk.cells out) [[sv u.fst,sv u.snd]] out.length 2 32,sq ziR]
   cases h6:!(x.fst==u.fst&&(x.snd==u.snd&&true))
   ·obtain ⟨outZ,doneZ,qZ,xZ,gZ⟩:=ih (out++[u]) true Zo zk2 Zo;exact ⟨outZ,doneZ,qZ,xZ,fun R hg=>zaa (wklN (p_2++[sb h6,si hw]) [3,5,6,9,10,11] 2 [(.bl 6,2)] kr (zaE 5 1 (List.map Lk.cells out++[[sv u.fst,sv u.snd]]) (gZ R hg) (he:=Zcv1) (hm:=Zcv1)))⟩
   ·obtain ⟨outZ,doneZ,qZ,xZ,gZ⟩:=ih (out++[u]++[x]) true Zo zk2 Zo;exact ⟨outZ,doneZ,qZ,xZ,fun R hg=>zaa (wklN (p_2++[sb h6,sqA (List.map Lk.cells out++[[sv u.fst,sv u.snd]]) [[sv x.fst,sv x.snd]] ((List.map Lk.cells out++[[sv u.fst,sv u.snd]]).length) 2 32,si hw]) [3,5,6,9,10,11] 2 [(.bl 6,2)] kr (zaE 5 1 (List.map Lk.cells out++[[sv u.fst,sv u.snd]]++[[sv x.fst,sv x.snd]]) (gZ R hg) (he:=Zcv1) (hm:=Zcv1)))⟩
theorem zgR (l:List Lk) (u:Lk) (hl:zac l) (hn:l.Nodup):∃ (r:List Lk),InsR l u r/\zab E0 S.Cg [lsl l,u.av] [] (lsl r) []:=by
 obtain ⟨out1,done1,q1,q1_1,g1⟩:=zjA l u zpZ zpZ 0 ([]) false zpZ zpZ
 cases h2:!done1
 ·exact ⟨out1,(by first|exact InsI.done (And.left ‹_›) ‹_›|exact InsI.end_ (And.left ‹_›) ‹_›),wkcN At.Cg [] [3,5,6,9,10,11] 1 [(.bl 6,1),(.ot 5 Ty.Link,2)] kr (g1 _ (zaa (wkr [sqx (out1.length=(List.map Lk.cells out1).length),sb q1_1,sb h2] kr)))⟩
 ·exact ⟨out1++[u],(by first|exact InsI.done (And.left ‹_›) ‹_›|exact InsI.end_ (And.left ‹_›) ‹_›),wkcN At.Cg [] [3,5,6,9,10,11] 1 [(.bl 6,1),(.ot 5 Ty.Link,2)] kr (g1 _ (zaa (wkrS (y:=AV.sl (List.map Lk.cells out1++[[sv u.fst,sv u.snd]])) (H:=[]) [sqx ((List.map Lk.cells out1++[[sv u.fst,sv u.snd]]).length=(List.map Lk.cells out1++[[sv u.fst,sv u.snd]]).length),sb q1_1,sb h2,sqA (List.map Lk.cells out1) [[sv u.fst,sv u.snd]] out1.length 2 32] kr ⟨Zcv1,Zcv1⟩)))⟩
noncomputable def L_cl (l:List Lk):Cfg:=zan B.A1 0 [(0,lsl l)] []
abbrev zfe (N:List Str) (l out:List Lk):Prop:=LkN N out/\∀ z∈l,z∈out
theorem zfe.short {N:List Str} {l out:List Lk} (h:zfe N l out) (hN:N.length<=1000):zac out:=by
 have h1:=h.1.len
 have h2:=Nat.mul_le_mul hN hN
 simp only [zac];omega
theorem zfe.ins {N:List Str} {l out:List Lk} {a b:Lk} {i j:Nat} {r:List Lk} (h:zfe N l out) (hl:LkN N l) (hx:l[i]?=some a) (hy:l[j]?=some b) (hr:InsR out ⟨a.fst,b.snd⟩ r):zfe N l r :=
 ⟨hr.lk h.1 (hl.mem a (List.mem_of_getElem? hx)).1 (hl.mem b (List.mem_of_getElem? hy)).2,fun z hz=>hr.sup z (h.2 z hz)⟩
noncomputable def L_clI (l:List Lk) (N:List Str) (io:Nat) (a:Lk) (i:Nat) (out:List Lk):Cfg:=zan B.A1 2 [(0,lsl l),(3,lsl out),(5,.p 0 0),(9,lsl l),(10,iv ((l.map Lk.cells).length:Nat)),(11,iv (io:Nat)),(15,lsl l),(16,iv ((l.map Lk.cells).length:Nat)),(17,iv (i:Nat))] [.box a.cells]
theorem zh9 (l:List Lk) (N:List Str) (io:Nat) (a:Lk) (hN:N.length<=1000) (h:LkN N l) (hs:zac l) (ha:l[io]?=some a) (i:Nat) (out:List Lk) (hi:i<=(l).length) (hI:zfe N l out):∃ (out':List Lk),(zfe N l out')/\(decide ((((l).length:Nat):Int) < (((l.map Lk.cells).length:Nat):Int))=false)/\∀ R,Good E0 B.A1 [] (L_clI l N io a (l).length out') R->Good E0 B.A1 [] (L_clI l N io a i out) R:=by
 have hk:=hi;revert i out;refine zlp ((l).length) (fun i hlt ih out hi hI _=>?_)
 obtain ⟨x,hx,h0,hw⟩:=zlq (l:=l) ((l.map Lk.cells).length) hlt zk4
 have hol:=hI.short hN;have hon:=hI.1.nd
 let p_1:List St:=[sb h0,se (zai Lk.cells hx rfl)]
 cases h1:ByteArray.toList a.snd==ByteArray.toList x.fst
 ·exact Zih (ih out Zo (by first|exact hI|exact hI.ins h ha hx ‹_›) Zo) fun R gY=>zaa (wkl (p_1++[sb h1,si hw]) [0,3,5,9,10,11,15,16,17] 1 kr gY)
 ·obtain ⟨r2,q2,c2⟩:=(zgR out (Lk.mk a.fst x.snd) zcg zcg)
  exact Zih (ih r2 Zo (by first|exact hI|exact hI.ins h ha hx ‹_›) Zo) fun R gY=>zaa (wkl (p_1++[sb h1,sc c2,si hw]) [0,3,5,9,10,11,15,16,17] 1 kr gY)
noncomputable def L_clO (l:List Lk) (N:List Str) (i:Nat) (out:List Lk):Cfg:=zan B.A1 1 [(0,lsl l),(3,lsl out),(9,lsl l),(10,iv ((l.map Lk.cells).length:Nat)),(11,iv (i:Nat))] []
theorem zia (l:List Lk) (N:List Str) (hN:N.length<=1000) (h:LkN N l) (hs:zac l) (i:Nat) (out:List Lk) (hi:i<=(l).length) (hI:zfe N l out):∃ (out':List Lk),(zfe N l out')/\(decide ((((l).length:Nat):Int) < (((l.map Lk.cells).length:Nat):Int))=false)/\∀ R,Good E0 B.A1 [] (L_clO l N (l).length out') R->Good E0 B.A1 [] (L_clO l N i out) R:=by
 have hk:=hi;revert i out;refine zlp ((l).length) (fun i hlt ih out hi hI _=>?_)
 obtain ⟨x,hx,h0,hw⟩:=zlq (l:=l) ((l.map Lk.cells).length) hlt zk4
 obtain ⟨out1,q1,q1_1,g1⟩:=zh9 l N i x hN zcg zcg zcg 0 out zcg zcg
 exact Zih (ih out1 Zo ziP Zo) fun R gY=>zaa (wkl [sb h0,se (zai Lk.cells hx rfl)] [0,3,5,9,10,11,15,16,17] 1 kr (g1 _ (zaa (wkl [sb q1_1,si hw] [0,3,9,10,11] 0 kr gY))))
theorem zkE (l:List Lk) (N:List Str) (hN:N.length<=1000) (h:LkN N l) (hs:zac l) (ihl:∀ l':List Lk,zfe N l l'->(((((l'.map Lk.cells).length:Nat):Int)==(((l.map Lk.cells).length:Nat):Int))=false)->∃ r,LkN N r/\Good E0 B.A1 [] (L_cl l') (Shut 0 fun rZ hZ=>rZ=lsl r/\hZ=[])):∃ (r:List Lk),LkN N r/\Good E0 B.A1 [] (ziU (L_cl l)) (Shut 0 fun rZ hZ=>rZ=(lsl r)/\hZ=[]):=by
  obtain ⟨out1,q1,q1_1,g1⟩:=zia l N hN zk3 zk3 0 l zk3 zk3
  cases h2:(↑(List.map Lk.cells out1).length:Int)==(↑(List.map Lk.cells l).length:Int)
  ·obtain ⟨r3_0,p3_0,g3⟩:=ihl out1 zk3 zk3
   exact ⟨r3_0,(by first|assumption|exact And.left ‹_›),wkl [] [0,3,9,10,11] 0 kr (g1 _ (zaa (wkl [sb q1_1,sb h2] [0] 0 kr g3)))⟩
  ·exact ⟨out1,(by first|assumption|exact And.left ‹_›),wkl [] [0,3,9,10,11] 0 kr (g1 _ (zaa (wkr [sb q1_1,sb h2] kr)))⟩
theorem zh8 (N:List Str) (hN:N.length<=1000):∀ (k:Nat) (l:List Lk),N.length * N.length - l.length<=k->LkN N l->∃ r,LkN N r/\Good E0 B.A1 [] (L_cl l) (Shut 0 fun rZ hZ=>rZ=lsl r/\hZ=[]):=by
 intro k
 induction k with
 | zero =>
  intro l hk h
  have hs:zac l:=zfe.short (N:=N) (l:=l) ⟨h,fun _ hz=>hz⟩ hN
  obtain ⟨r,hr,hg⟩:=zkE l N hN h hs fun l' h' hne=>by
   exfalso
   have h1:=zhl l l' h.nd h'.2
   have h2:=h'.1.len
   simp only [List.length_map,beq_eq_false_iff_ne,ne_eq,Int.natCast_inj] at hne
   omega
  exact ⟨r,hr,zaa hg⟩
 | succ k ih =>
  intro l hk h
  have hs:zac l:=zfe.short (N:=N) (l:=l) ⟨h,fun _ hz=>hz⟩ hN
  obtain ⟨r,hr,hg⟩:=zkE l N hN h hs fun l' h' hne=>ih l' (by
   have h1:=zhl l l' h.nd h'.2
   have h2:=h'.1.len
   simp only [List.length_map,beq_eq_false_iff_ne,ne_eq,Int.natCast_inj] at hne
   omega) h'.1
  exact ⟨r,hr,zaa hg⟩
theorem zqu (l:List Lk) (N:List Str) (hN:N.length<=1000) (h:LkN N l):∃ (r:List Lk),LkN N r/\zab E0 S.A1 [lsl l] [] (lsl r) []:=by
 obtain ⟨r1_0,p1_0,g1⟩:=zh8 N hN (?k) l (by first|assumption|exact Nat.le_refl _) (by first|assumption|exact Nat.le_refl _)
 exact ⟨r1_0,(by first|assumption|trivial|(simp;done)|omega|(simp;omega)|(simp at *;omega)),wkc At.A1 [] [0] 0 kr (g1)⟩
theorem zdC {p:Prop} (h:p:=by first|assumption|omega|exact LkN.short ‹_› hN):p:=h
theorem zp0 {p:Prop} (h:p:=by first|assumption|omega|(simp;done)|(simp;omega)):p:=h
theorem zsv (N:List Str):LkN N []:=⟨by simp,by simp⟩
theorem LkN.short {N:List Str} {l:List Lk} (h:LkN N l) (hN:N.length<=1000):zac l:=by
 have h1:=h.len
 have h2:=Nat.mul_le_mul hN hN
 simp only [zac];omega
noncomputable def zjJ (l:List Lk) (n:Str) (ps fs:List Str) (N:List Str) (i:Nat) (out:List Lk):Cfg:=zan B.BU 0 [(1,sv n),(3,ssl fs),(10,lsl out),(20,ssl ps),(21,iv ((ps.map za0).length:Nat)),(22,iv (i:Nat))] [.row Ty.Link (l.map Lk.cells) true]
theorem zli (l:List Lk) (n:Str) (ps fs:List Str) (N:List Str) (hN:N.length<=1000) (hn:n∈N) (hp:zac ps) (hps:∀ s∈ps,s∈N) (i:Nat) (out:List Lk) (hi:i<=(ps).length) (hI:LkN N out):∃ (out':List Lk),(LkN N out')/\(decide ((((ps).length:Nat):Int) < (((ps.map za0).length:Nat):Int))=false)/\∀ R,Good E0 B.BU [] (zjJ l n ps fs N (ps).length out') R->Good E0 B.BU [] (zjJ l n ps fs N i out) R:=by
 have hk:=hi;revert i out;refine zlp ((ps).length) (fun i hlt ih out hi hI _=>?_)
 obtain ⟨x,hx,h0,hw⟩:=zlq (l:=ps) ((ps.map za0).length) hlt
 have hol:=hI.short hN;have hon:=hI.nd
 obtain ⟨r1,q1,c1⟩:=(zgR out (Lk.mk n x) zp0 zp0)
 exact Zih (ih r1 Zo (by exact InsR.lk ‹_› hI hn (hps _ (List.mem_of_getElem? hx))) Zo) fun R gY=>zaa (wkl [sb h0,se (zai (fun s=>[sv s]) hx rfl),sc c1,si hw] [1,3,10,20,21,22] 1 kr gY)
noncomputable def L_adF (l:List Lk) (n:Str) (fs:List Str) (N:List Str) (i:Nat) (out:List Lk):Cfg:=zan B.BU 1 [(1,sv n),(10,lsl out),(32,ssl fs),(33,iv ((fs.map za0).length:Nat)),(34,iv (i:Nat))] [.row Ty.Link (l.map Lk.cells) true]
theorem zlh (l:List Lk) (n:Str) (fs:List Str) (N:List Str) (hN:N.length<=1000) (hn:n∈N) (hf:zac fs) (hfs:∀ s∈fs,s∈N) (i:Nat) (out:List Lk) (hi:i<=(fs).length) (hI:LkN N out):∃ (out':List Lk),(LkN N out')/\(decide ((((fs).length:Nat):Int) < (((fs.map za0).length:Nat):Int))=false)/\∀ R,Good E0 B.BU [] (L_adF l n fs N (fs).length out') R->Good E0 B.BU [] (L_adF l n fs N i out) R:=by
 have hk:=hi;revert i out;refine zlp ((fs).length) (fun i hlt ih out hi hI _=>?_)
 obtain ⟨x,hx,h0,hw⟩:=zlq (l:=fs) ((fs.map za0).length) hlt
 have hol:=hI.short hN;have hon:=hI.nd
 obtain ⟨r1,q1,c1⟩:=(zgR out (Lk.mk x n) zp0 zp0)
 exact Zih (ih r1 Zo (by exact InsR.lk ‹_› hI (hfs _ (List.mem_of_getElem? hx)) hn) Zo) fun R gY=>zaa (wkl [sb h0,se (zai (fun s=>[sv s]) hx rfl),sc c1,si hw] [1,10,32,33,34] 1 kr gY)
theorem zuG (l:List Lk) (n:Str) (ps fs:List Str) (N:List Str) (hN:N.length<=1000) (h:LkN N l) (hl:zac l) (hn:n∈N) (hp:zac ps) (hf:zac fs) (hps:∀ s∈ps,s∈N) (hfs:∀ s∈fs,s∈N):∃ (r:List Lk) (e:Int),LkN N r/\zab E0 S.BU [lsl l,sv n,ssl ps,ssl fs] [] (.tup [lsl r,iv e]) []:=by
 obtain ⟨r1,c1⟩:=(zmi l zdC)
 cases h2:!r1
 ·obtain ⟨out3,q3,q3_1,g3⟩:=zli l n ps fs N hN zdC zdC zdC 0 l zdC zdC
  obtain ⟨out4,q4,q4_1,g4⟩:=zlh l n fs N hN zdC zdC zdC 0 out3 zdC zdC
  obtain ⟨r5,q5,c5⟩:=(zqu out4 N hN zdC)
  obtain ⟨r6,c6⟩:=(zmi r5 zdC)
  cases h7:!r6
  ·exact ⟨r5,0,by first|exact zsv N|assumption,wkc At.BU (c':=(Cfg.mk (zjJ l n ps fs N 0 l).n (zjJ l n ps fs N 0 l).todo [(1,sv n),(3,AV.sl (List.map (fun s=>[sv s]) fs)),(10,AV.own 0 (List.map Lk.cells l).length),(20,AV.sl (List.map (fun s=>[sv s]) ps)),(21,iv (↑(List.map (fun s=>[sv s]) ps).length:Int)),(22,iv 0)] [Blk.row Ty.Link (List.map Lk.cells l) false])) [sc c1,sb h2,sqx (AllLen (List.map Lk.cells l) 2/\((List.map Lk.cells l).length * 32).le 140737488355328)] [1,3,10,20,21,22] 1 kr (zkg (c':=zjJ l n ps fs N 0 l) (v:=AV.own 0 (List.map Lk.cells l).length) (q:=(List.map Lk.cells l).length=(List.map Lk.cells l).length) 10 [1,3,10,20,21,22] 1 kr kr owed kr kr (g3 _ (zaa (wkl [sb q3_1] [1,10,32,33,34] 1 kr (g4 _ (zaa (wkr [sb q4_1,sc c5,sc c6,sb h7] kr)))))))⟩
  ·exact ⟨[],13,by first|exact zsv N|assumption,wkc At.BU (c':=(Cfg.mk (zjJ l n ps fs N 0 l).n (zjJ l n ps fs N 0 l).todo [(1,sv n),(3,AV.sl (List.map (fun s=>[sv s]) fs)),(10,AV.own 0 (List.map Lk.cells l).length),(20,AV.sl (List.map (fun s=>[sv s]) ps)),(21,iv (↑(List.map (fun s=>[sv s]) ps).length:Int)),(22,iv 0)] [Blk.row Ty.Link (List.map Lk.cells l) false])) [sc c1,sb h2,sqx (AllLen (List.map Lk.cells l) 2/\((List.map Lk.cells l).length * 32).le 140737488355328)] [1,3,10,20,21,22] 1 kr (zkg (c':=zjJ l n ps fs N 0 l) (v:=AV.own 0 (List.map Lk.cells l).length) (q:=(List.map Lk.cells l).length=(List.map Lk.cells l).length) 10 [1,3,10,20,21,22] 1 kr kr owed kr kr (g3 _ (zaa (wkl [sb q3_1] [1,10,32,33,34] 1 kr (g4 _ (zaa (wkr [sb q4_1,sc c5,sc c6,sb h7] kr)))))))⟩
 ·exact ⟨[],17,by first|exact zsv N|assumption,wk At.BU [sc c1,sb h2] kr⟩
noncomputable def litC (fn:Func) (n:Nat):Cfg:=(upto (mk E0) (List.range 40) 0 n ⟨fn.ntmps,[.code (fn.body.getD .skip)],zbU 0 [],[]⟩ []).2
theorem lit_at:zso E0 (litC B.AG 21)=some (Ty.Schema,3,(zao.map Sch.cells).flatten):=by kernel_rfl
theorem lit_h:(litC B.AG 21).h=[]:=by kernel_rfl
theorem lit_b:frzB [] (zao.map Sch.cells).flatten=none:=by kernel_rfl
theorem lit_m:zbx (zao.map Sch.cells).flatten=[]:=by kernel_rfl
theorem lit_c:zcH (E0.T Ty.Schema).size 3 (frzL [] (zao.map Sch.cells).flatten)=zao.map Sch.cells:=by kernel_rfl
theorem lit_up:upto (mk E0) (List.range 40) 0 21 ⟨(B.AG).ntmps,[.code ((B.AG).body.getD .skip)],zbU 0 [],[]⟩ (orcs [])=(zbg [],litC B.AG 21):=by kernel_rfl
theorem zA6:finK (mk E0) B.AG 3000 (zkB (litC B.AG 21) Ty.Schema 3 (zao.map Sch.cells)) (orcs [])=some (zbg [],AV.own 0 3,[Blk.row Ty.Schema (zao.map Sch.cells) false]):=by kernel_rfl
theorem zzX:B.AG.body=some (B.AG.body.getD .skip):=by kernel_rfl
theorem zzY : (B.AG.name == "runtime.NumGoroutine") = false := by kernel_rfl
theorem litAll {f : FuncId} {fn : Func} {y : AV} {H : Heap} {c : Cfg} {e : TypeId} {n N : Nat} {cs : List AV} {xs : List (List AV)} (hf : E0.P.funcs[f]? = some fn) (hb : fn.body = some (fn.body.getD .skip)) (hname : (fn.name == "runtime.NumGoroutine") = false)
  (hu:upto (mk E0) (List.range 40) 0 N ⟨fn.ntmps,[.code (fn.body.getD .skip)],zbU 0 [],[]⟩ (orcs [])=(zbg [],c))
  (h1:zso E0 c=some (e,n,cs)) (h2:0 < n) (h3:c.h=[]) (h4:frzB [] cs=none) (h5:zbx cs=[]) (h6:zcH (E0.T e).size n (frzL [] cs)=xs)
  (he:finK (mk E0) fn 3000 (zkB c e n xs) (orcs [])=some (zbg [],y,H)):zab E0 f [] [] y H:=by
 refine zaY hf hb hname Zs ?_
 refine zdW E0ok mix0 N [] (List.range 40) 0 rfl hu ?_
 refine zzR E0ok h1 h2 (by rw [h3];exact h4) h5 ?_
 rw [h3,h6]
 exact zdn E0ok mix0 3000 [] he ⟨rfl,rfl⟩
theorem zod:zab E0 S.AG [] [] (.own 0 3) [.row Ty.Schema (zao.map Sch.cells) false] :=
 @litAll S.AG B.AG (.own 0 3) [Blk.row Ty.Schema (zao.map Sch.cells) false] (litC B.AG 21) Ty.Schema 3 21 (zao.map Sch.cells).flatten (zao.map Sch.cells) At.AG zzX zzY lit_up lit_at Zd lit_h lit_b lit_m lit_c zA6
theorem ze5 {p:Prop} (h:p:=by first|assumption|omega|(simp;done)|(simp;omega)):p:=h
theorem zt5 {p:Prop} (h:p:=by first|exact hI|(refine ⟨by simp at *;omega,fun s hs=>?_⟩;simp only [List.mem_append,List.mem_singleton] at hs;rcases hs with hs|rfl;exact hI.2 s hs;exact List.mem_map.2 ⟨x,List.mem_of_getElem? hx,rfl⟩)):p:=h
theorem zp1 {p:Prop} (h:p:=by first|assumption|exact ⟨rfl,by simp⟩|omega):p:=h
def zxm (k:Nat):Str:=([⟨#[116]⟩,⟨#[117]⟩,⟨#[108,111,103]⟩]:List Str).getD k ⟨#[]⟩
theorem zAR (k:Nat) (h:(k:Int) < 3):ElAt [[sv ⟨#[116]⟩],[sv ⟨#[117]⟩],[sv ⟨#[108,111,103]⟩]] (k:Int) [sv (zxm k)] 1:=by
 have:k=0\/k=1\/k=2:=by omega
 rcases this with rfl|rfl|rfl <;> exact ⟨by decide,rfl,rfl⟩
def TabN (w:Str):Prop:=w=⟨#[116]⟩\/w=⟨#[117]⟩\/w=⟨#[108,111,103]⟩
theorem zBv {k:Nat} (h:(k:Int) < 3):TabN (zxm k):=by
 have:k=0\/k=1\/k=2:=by omega
 rcases this with rfl|rfl|rfl
 ·exact .inl rfl
 ·exact .inr (.inl rfl)
 ·exact .inr (.inr rfl)
theorem zcM (t:Tp) :∃ (w:Str) (t':Tp),TabN w/\zab E0 S.CQ [.p 0 0] [.box t.cells] (sv w) [.box t'.cells]:=by
 obtain ⟨a1,t1,q1,c1⟩:=(zag t 3 ze5)
 exact ⟨zxm a1,t1,by exact zBv Zo,wk At.CQ [sl [0] c1,se (zAR a1 ze5)] kr⟩
def schU:Sch:=⟨⟨#[117]⟩,[⟨⟨#[105,100]⟩,1,true,true⟩,⟨⟨#[110]⟩,1,true,false⟩,⟨⟨#[109]⟩,1,false,false⟩]⟩
theorem zle:zaj ⟨#[117]⟩=schU:=by kernel_rfl
theorem zbO {w:Str} (h:TabN w):SchOk (zaj w):=by
 rcases h with rfl|rfl|rfl
 ·rw [zld];exact zBm
 ·rw [zle];exact zfo (by simp [zao,schU])
 ·rw [zj7];exact zfo (by simp [zao,zlc])
noncomputable def L_nm (t0:Tp) (l:List Tg) (i:Nat) (u:Tp) (out:List Str):Cfg:=zan B.BZ 0 [(0,.p 0 0),(5,.own 1 out.length),(8,.sl (l.map Tg.cells)),(9,iv ((l.map Tg.cells).length:Nat)),(10,iv (i:Nat))] [.box u.cells,.row Ty.string (out.map za0) false]
theorem zhC (t0:Tp) (l:List Tg) (hl:zac l) (i:Nat) (u:Tp) (out:List Str) (hi:i<=(l).length) (hI:out.length<=8/\∀ s∈out,s∈l.map Tg.name):∃ (u':Tp) (out':List Str),(out'.length<=8/\∀ s∈out',s∈l.map Tg.name)/\(decide ((((l).length:Nat):Int) < (((l.map Tg.cells).length:Nat):Int))=false)/\∀ R,Good E0 B.BZ [.box t0.cells] (L_nm t0 l (l).length u' out') R->Good E0 B.BZ [.box t0.cells] (L_nm t0 l i u out) R:=by
 have hk:=hi;revert i u out;refine zlp ((l).length) (fun i hlt ih u out hi hI _=>?_)
 obtain ⟨x,hx,h0,hw⟩:=zlq (l:=l) ((l.map Tg.cells).length) hlt
 obtain ⟨b1,t1,c1⟩:=(zam u 4 ze5)
 rcases (Bool.eq_false_or_eq_true b1).symm with h2|h2
 ·obtain ⟨uZ,outZ,qZ,xZ,gZ⟩:=ih t1 out Zo zt5 Zo;exact ⟨uZ,outZ,qZ,xZ,fun R hg=>zaa (wkl [sb h0,se (zai Tg.cells hx rfl),sl [0] c1,sb h2,si hw] [0,5,8,9,10] 2 kr (gZ R hg))⟩
 ·cases h3:decide ((out.length:Int) < 8)
  ·obtain ⟨uZ,outZ,qZ,xZ,gZ⟩:=ih t1 out Zo zt5 Zo;exact ⟨uZ,outZ,qZ,xZ,fun R hg=>zaa (wkl [sb h0,se (zai Tg.cells hx rfl),sl [0] c1,sg h2,sqx (out.length=(List.map za0 out).length),sb h3,si hw] [0,5,8,9,10] 2 kr (gZ R hg))⟩
  ·obtain ⟨uZ,outZ,qZ,xZ,gZ⟩:=ih t1 (out++[x.name]) Zo zt5 Zo;exact ⟨uZ,outZ,qZ,xZ,fun R hg=>zaa (wkl [sb h0,se (zai Tg.cells hx rfl),sl [0] c1,sg h2,sqx (out.length=(List.map za0 out).length),sb h3,sqA (List.map za0 out) [[sv x.name]] out.length 1 16,si hw] [0,5,8,9,10] 2 kr (zaE 5 1 (List.map za0 out++[[sv x.name]]) (gZ R hg) (he:=Zcv1) (hm:=Zcv1)))⟩
theorem zck (t:Tp) (l:List Tg) (hl:zac l):∃ (r:List Str) (t':Tp),(r.length<=8/\∀ s∈r,s∈l.map Tg.name)/\zab E0 S.BZ [.p 0 0,.sl (l.map Tg.cells)] [.box t.cells] (ssl r) [.box t'.cells]:=by
 obtain ⟨u1,out1,q1,q1_1,g1⟩:=zhC t l (by first|assumption|omega|exact ⟨by simp,by simp⟩) 0 t ([]) (by first|assumption|omega|exact ⟨by simp,by simp⟩) (by first|assumption|omega|exact ⟨by simp,by simp⟩)
 exact ⟨out1,u1,by first|assumption|trivial|(simp;done)|omega|(simp;omega)|(simp at *;omega),wkc At.BZ (c':=(Cfg.mk (L_nm t l 0 t []).n (L_nm t l 0 t []).todo [(0,AV.p 0 0),(5,AV.nl),(8,ZG l),(9,iv (↑(List.map Tg.cells l).length:Int)),(10,iv 0)] [Blk.box [AV.sl (List.map (fun n=>[iv n]) t.l),iv (t.pos:Int)]])) [] [0,5,8,9,10] 1 kr (zcl (c':=L_nm t l 0 t []) 5 Ty.string [0,5,8,9,10] 2 kr kr kr (g1 _ (zaa (wkr [sqx (out1.length=(List.map za0 out1).length),sb q1_1] kr))))⟩
noncomputable def L_sv (s:Sch) (i:Nat) (keys:Int):Cfg:=zan B.BQ 0 [(1,.p 0 0),(3,iv keys),(23,.sl (s.cols.map Col.cells)),(24,iv ((s.cols.map Col.cells).length:Nat)),(25,iv (i:Nat))] [.box s.cells]
theorem zlm (s:Sch) (h:zac s.cols) (i:Nat) (keys:Int) (hi:i<=(s.cols).length) (hI:True):(∃ (keys':Int),(True)/\(decide ((((s.cols).length:Nat):Int) < (((s.cols.map Col.cells).length:Nat):Int))=false)/\∀ R,Good E0 B.BQ [] (L_sv s (s.cols).length keys') R->Good E0 B.BQ [] (L_sv s i keys) R)\/(∃ (r:Bool),Good E0 B.BQ [] (L_sv s i keys) (Shut 0 fun rZ hZ=>rZ=(bv r)/\hZ=[])):=by
 have hk:=hi;revert i keys hI;refine zlp ((s.cols).length) (fun i hlt ih keys hi hI _=>?_)
 obtain ⟨x,hx,h0,hw⟩:=zlq (l:=s.cols) ((s.cols.map Col.cells).length) hlt
 obtain ⟨r1,c1⟩:=(zau x.name)
 cases h2:!r1
 ·cases h3:decide (x.type < 1)
  ·cases h4:decide (3 < x.type)
   ·cases h5:x.key
    ·obtain ⟨r6,q6,c6⟩:=(zd2 s x.name ze5)
     cases h7:r6 != (i:Int)
     ·exact (ih keys Zo (by first|trivial|assumption|(simp;done)|omega|(simp;omega)|(simp at *;omega)) Zo).elim (fun ⟨keysZ,qZ,xZ,gZ⟩=>.inl ⟨keysZ,qZ,xZ,fun R hg=>zaa (wkl [sb h0,se (zai Col.cells hx rfl),sc c1,sg h2,sg h3,sg h4,sb h5,sc c6,sb h7,sb h5,si hw] [1,3,23,24,25] 1 kr (gZ R hg))⟩) (fun ⟨rY,gZ⟩=>.inr ⟨rY,zaa (wkl [sb h0,se (zai Col.cells hx rfl),sc c1,sg h2,sg h3,sg h4,sb h5,sc c6,sb h7,sb h5,si hw] [1,3,23,24,25] 1 kr gZ)⟩)
     ·exact .inr ⟨false,zaa (wkr [sb h0,se (zai Col.cells hx rfl),sc c1,sg h2,sg h3,sg h4,sb h5,sc c6,sb h7] kr)⟩
    ·cases h8:!x.notNull
     ·obtain ⟨r9,q9,c9⟩:=(zd2 s x.name ze5)
      cases h10:r9 != (i:Int)
      ·exact (ih (IntKind.i64.wrap (keys+1)) Zo (by first|trivial|assumption|(simp;done)|omega|(simp;omega)|(simp at *;omega)) Zo).elim (fun ⟨keysZ,qZ,xZ,gZ⟩=>.inl ⟨keysZ,qZ,xZ,fun R hg=>zaa (wkl [sb h0,se (zai Col.cells hx rfl),sc c1,sg h2,sg h3,sg h4,sg h5,sg h8,sc c9,sb h10,sb h5,si (e:=IntKind.i64.wrap (keys+1)) rfl,si hw] [1,3,23,24,25] 1 kr (gZ R hg))⟩) (fun ⟨rY,gZ⟩=>.inr ⟨rY,zaa (wkl [sb h0,se (zai Col.cells hx rfl),sc c1,sg h2,sg h3,sg h4,sg h5,sg h8,sc c9,sb h10,sb h5,si (e:=IntKind.i64.wrap (keys+1)) rfl,si hw] [1,3,23,24,25] 1 kr gZ)⟩)
      ·exact .inr ⟨false,zaa (wkr [sb h0,se (zai Col.cells hx rfl),sc c1,sg h2,sg h3,sg h4,sg h5,sg h8,sc c9,sb h10] kr)⟩
     ·exact .inr ⟨false,zaa (wkr [sb h0,se (zai Col.cells hx rfl),sc c1,sg h2,sg h3,sg h4,sg h5,sb h8] kr)⟩
   ·exact .inr ⟨false,zaa (wkr [sb h0,se (zai Col.cells hx rfl),sc c1,sg h2,sg h3,sb h4] kr)⟩
  ·exact .inr ⟨false,zaa (wkr [sb h0,se (zai Col.cells hx rfl),sc c1,sg h2,sb h3] kr)⟩
 ·exact .inr ⟨false,zaa (wkr [sb h0,se (zai Col.cells hx rfl),sc c1,sb h2] kr)⟩
theorem zuw (s:Sch) (h:zac s.cols):∃ (r:Bool),zab E0 S.BQ [s.av] [] (bv r) []:=by
 obtain ⟨r1,c1⟩:=(zau s.name)
 cases h2:!r1
 ·cases h3:decide ((↑(List.map Col.cells s.cols).length:Int) < 1)
  ·cases h4:decide (6 < (↑(List.map Col.cells s.cols).length:Int))
   ·rcases zlm s ze5 0 0 ze5 ze5 with ⟨keys5,q5,q5_1,g5⟩|⟨r5_0,g5⟩
    ·exact ⟨decide (keys5<=(1:Int)),wkc At.BQ [sc c1,sg h2,sg h3,sb h4] [1,3,23,24,25] 1 kr (g5 _ (zaa (wkr [sb q5_1] kr)))⟩
    ·exact ⟨r5_0,wkc At.BQ [sc c1,sg h2,sg h3,sb h4] [1,3,23,24,25] 1 kr (g5)⟩
   ·exact ⟨false,wk At.BQ [sc c1,sg h2,sg h3,sb h4] kr⟩
  ·exact ⟨false,wk At.BQ [sc c1,sg h2,sb h3] kr⟩
 ·exact ⟨false,wk At.BQ [sc c1,sb h2] kr⟩
abbrev Bare (x:Tb):Prop:=x.rows=[]/\zac x.sch.cols
theorem zxq (s:Sch) (h:zac s.cols):∃ (x:Tb) (e:Int),Bare x/\zab E0 S.C8 [s.av] [] (.tup [x.av,iv e]) []:=by
 obtain ⟨r1,c1⟩:=(zuw s ze5)
 cases h2:!r1
 ·exact ⟨Tb.mk s 1 [],0,by first|exact ⟨rfl,h⟩|exact ⟨rfl,by simp⟩,wk At.C8 [sqx ((True/\(List.map Col.cells s.cols).length=(List.map Col.cells s.cols).length/\True/\True/\True)/\True/\True),sc c1,sb h2,sqx (AllLen (List.map Col.cells s.cols) 4/\((List.map Col.cells s.cols).length * 32).le 140737488355328)] kr⟩
 ·exact ⟨Tb.mk (Sch.mk Zs0 []) 0 [],17,by first|exact ⟨rfl,h⟩|exact ⟨rfl,by simp⟩,wk At.C8 [sc c1,sb h2] kr⟩
noncomputable def L_tb  (i:Nat) (out:List Tb):Cfg:=zan B.Cc 0 [(3,.own 0 out.length),(12,.sl (zao.map Sch.cells)),(13,iv ((zao.map Sch.cells).length:Nat)),(14,iv (i:Nat))] [.row Ty.Table (out.map Tb.cells) false]
theorem zie  (hc:∀ s∈zao,zac s.cols) (hs:zac zao) (i:Nat) (out:List Tb) (hi:i<=(zao).length) (hI:out.length=i/\∀ x∈out,Bare x):∃ (out':List Tb),(out'.length=(zao).length/\∀ x∈out',Bare x)/\(decide ((((zao).length:Nat):Int) < (((zao.map Sch.cells).length:Nat):Int))=false)/\∀ R,Good E0 B.Cc [] (L_tb  (zao).length out') R->Good E0 B.Cc [] (L_tb  i out) R:=by
 have hk:=hi;revert i out;refine zlp ((zao).length) (fun i hlt ih out hi hI _=>?_)
 obtain ⟨x,hx,h0,hw⟩:=zlq (l:=zao) ((zao.map Sch.cells).length) hlt
 have hxs:=hc x (List.mem_of_getElem? hx)
 have hol:out.length<=1000000000:=by have:=hI.1;simp only [zac] at hs;omega
 obtain ⟨x1,e1,q1,c1⟩:=(zxq x ze5)
 exact Zih (ih (out++[x1]) Zo (by (refine ⟨by simp;omega,fun z hz=>?_⟩;simp only [List.mem_append,List.mem_singleton] at hz;rcases hz with hz|rfl;exact hI.2 z hz;assumption)) Zo) fun R gY=>zaa (wkl [sb h0,se (zai Sch.cells hx rfl),sc c1,sqA (List.map Tb.cells out) [[sv x1.sch.name,ZC x1.sch.cols,iv x1.next,ZW x1.rows]] out.length 4 72,si hw] [3,12,13,14] 1 kr (zaE 3 0 (List.map Tb.cells out++[[sv x1.sch.name,ZC x1.sch.cols,iv x1.next,ZW x1.rows]]) gY (he:=Zcv1) (hm:=Zcv1)))
theorem zoX  (hc:∀ s∈zao,zac s.cols) (hs:zac zao):∃ (out:List Tb),(out.length=zao.length/\∀ x∈out,Bare x)/\zab E0 S.Cc [.sl []] [] (tsl out) []:=by
 obtain ⟨out1,q1,q1_1,g1⟩:=zie zp1 zp1 0 ([]) zp1 zp1
 exact ⟨out1,by first|assumption|trivial|(simp;done)|omega|(simp;omega)|(simp at *;omega),wkc At.Cc (c':=(Cfg.mk (L_tb 0 []).n (L_tb 0 []).todo [(3,AV.nl),(12,ZS zao),(13,iv (↑(List.map Sch.cells zao).length:Int)),(14,iv 0)] [])) [sb Zf,sc zfZ] [3,12,13,14] 0 kr (zcl (c':=L_tb 0 []) 3 Ty.Table [3,12,13,14] 1 kr kr kr (g1 _ (zaa (wkr [sqx (out1.length=(List.map Tb.cells out1).length),sb Zf] kr))))⟩
theorem frFew (g:Tg) {s:Sch} (hs:Few s.cols) (a b:List V):(zaJ g s a b).length<=2/\∀ f∈zaJ g s a b,Few f.cols:=by
 unfold zaJ
 cases g.each <;> cases g.event==2 <;> cases g.event==3 <;> cases g.event==1 <;> simp [hs]
def nmAt (k:Nat):Str:=([⟨#[110]⟩,⟨#[109]⟩]:List Str).getD k ⟨#[]⟩
theorem zg1 (k:Nat) (h:(k:Int) < 2):ElAt [[sv ⟨#[110]⟩],[sv ⟨#[109]⟩]] (k:Int) [sv (nmAt k)] 1:=by
 have:k=0\/k=1:=by omega
 rcases this with rfl|rfl <;> exact ⟨by decide,rfl,rfl⟩
def tuAt (k:Nat):Str:=([⟨#[116]⟩,⟨#[117]⟩]:List Str).getD k ⟨#[]⟩
theorem znD (k:Nat) (h:(k:Int) < 2):ElAt [[sv ⟨#[116]⟩],[sv ⟨#[117]⟩]] (k:Int) [sv (tuAt k)] 1:=by
 have:k=0\/k=1:=by omega
 rcases this with rfl|rfl <;> exact ⟨by decide,rfl,rfl⟩
def xBtw (c:Str) (lo hi:Int):X :=
 X.mk 7 0 false (V.mk 0 0 Zs0) Zs0 Zs0 [xCol Zs0 c,xNum lo,xNum hi] []
theorem zd9 (c:Str) (lo hi:Int) (h1:-9223372036854775808 < lo) (h2:-9223372036854775808 < hi):zab E0 S.C2 [sv c,iv lo,iv hi] [] ((xBtw c lo hi).av) []:=by
 unfold xBtw
 exact (by (try simp only [zsl,xCol,xLit,xBin,xNeg,Im.cells,Lk.cells,Ac.cells,Se.cells,Tg.cells,Rk.cells]);exact wk At.C2 [sc (zaO Zs0 c),sc (za2 lo (by first|assumption|omega|(simp;done)|(simp;omega))),sc (za2 hi (by first|assumption|omega|(simp;done)|(simp;omega)))] kr)
structure GenOk (x:Tg):Prop where
 ok:TgOk 6 x
 set:∀ a∈x.acts,zo0 a
structure CertOk (x x':Tg):Prop where
 gen:GenOk x->GenOk x'
 name:x'.name=x.name
 table:x'.table=x.table
 prec:x'.prec=x.prec
 foll:x'.foll=x.foll
theorem zds {n:Nat} (a b:Str):XOk (n+1) (xCol a b):=⟨zb3,⟨by simp [xCol,Few],by simp [xCol,Few]⟩,by simp [xCol],by simp [xCol]⟩
theorem zxl (l:List Fr) (h:l.length<=1000/\0 < l.length):SubAt (l.map Fr.cells) (IntKind.i64.wrap ((((l.map Fr.cells).length:Nat):Int) - 1)) (((l.map Fr.cells).length:Nat):Int) 4:=by
 have h1:IntKind.i64.wrap ((((l.map Fr.cells).length:Nat):Int) - 1)=((l.length:Nat):Int) - 1:=by rw [IntKind.wrap_i64];simp;omega
 rw [h1]
 refine ⟨by omega,by simp;omega,by simp,?_⟩
 simp
structure SetsOk (i:Nat) (sets:List Se):Prop where
 len:sets.length<=i
 ex:∀ s∈sets,XOk 5 s.ex
 two:i<=2
theorem SetsOk.push {i:Nat} {sets:List Se} {c:Str} {e:X} (h:SetsOk i sets) (hi:i < 2) (he:XOk 4 e):SetsOk (i+1) (sets++[⟨c,e⟩]) :=
 ⟨by have:=h.len;simp;omega,fun s hs=>by
  simp only [List.mem_append,List.mem_singleton] at hs
  rcases hs with hs|rfl
  ·exact h.ex s hs
  ·exact he.le Zo,by omega⟩
structure DmlIn (n:Nat) (a:Ac) (frs:List Fr) (tb:List Tb):Prop where
 ac:AcOk n a
 kd:1<=a.kind/\a.kind<=3
 fo:FsOk (n+1) frs
 fg:FsG frs
 to:TbOk tb
 tg:TbG tb
 tv:∀ x∈tb,∀ r∈x.rows,zac r.vals
section
variable {n : Nat} {a : Ac} {frs : List Fr} {tb : List Tb}
theorem DmlIn.ins (h:DmlIn n a frs tb) {t:Tb} (ht:t∈tb) {r:Rw} (hr:r∈t.rows):FsOk n (zar frs t.sch r.vals)/\FsG (zar frs t.sch r.vals) :=
 ⟨h.fo.eins (t:=t) (h.to.cols t ht) (h.tg.vals t ht r hr),h.fg.ins (t:=t) (h.tg.vals t ht r hr)⟩
end
section
variable {n : Nat} {a : Ac} {frs : List Fr} {tb : List Tb}
end
theorem zvt {α:Type} {p:α->Bool} {l:List α} {i:Nat} {x:α} {z:Int} (h:z=idxF p (l.drop i) i) (hx:l[i]?=some x) (hp:p x=false):z=idxF p (l.drop (i+1)) (i+1):=by
 rw [zcN hx] at h;rw [h];simp only [idxF,hp,cond_false]
theorem zyj {α:Type} {p:α->Bool} {l:List α} {i:Nat} {x:α} {z:Int} (h:z=idxF p (l.drop i) i) (hx:l[i]?=some x) (hp:p x=true):((i:Nat):Int)=z:=by
 rw [zcN hx] at h;rw [h];simp only [idxF,hp,cond_true]
theorem zpx {α:Type} {p:α->Bool} {l:List α} {z:Int} (h:z=idxF p (l.drop l.length) l.length):-1=z:=by
 rw [List.drop_length] at h;rw [h];rfl
structure TcOk (cd cu:Ch × Int):Prop where
 code:cd.2=cu.2
 ids:cu.1.upd.map Pr.id=cd.1.del
 len:cd.1.del.length<=900
theorem TcOk.eq {cd cu:Ch × Int} (h:TcOk cd cu) {ids:List Int} (hi:ids.length<=cu.1.upd.length/\ids=(cu.1.upd.take cu.1.upd.length).map Pr.id):ids=cd.1.del:=by
 rw [hi.2,List.take_length];exact h.ids
/- ### the order of values -/
theorem znC {a b:Int} (h:a < b):cmpI a b=-1:=by simp [cmpI,h]
theorem znA {a b:Int} (h:a=b):cmpI a b=0:=by simp [cmpI,h]
theorem znB {a b:Int} (h:b < a):cmpI a b=1:=by
 have:¬ a < b:=by omega
 simp [cmpI,h,this]
/- ### least and greatest items -/
/- ### sums -/
/- ### sorting -/
/- ### the tables -/
theorem StoreV.short {n:Int} {m:List Tb} (h:StoreV n m) (hn:n<=1000):∀ x∈m,∀ r∈x.rows,zac r.vals:=fun x hx r hr=>by
 have h1:=((h.rows x hx).fit r hr).len
 have h2:=((h.ok hn).tabs x hx).2.few
 have h3:r.vals.length=x.sch.cols.length:=h1
 simp only [zac,Few] at *;omega
/- ### the codes -/
/- ### three values -/
def fit4 (c:Col) (v:V):Int :=
 bif v.kind==0 then
  bif c.notNull then
   8
  else
   0
 else
  bif v.kind != c.type then
   5
  else
   0
def fitL:List Col->List V->Int
 | c::cs,v::vs=>bif fit4 c v != 0 then fit4 c v else fitL cs vs
 | _,_=>0
def fit5 (s:Sch) (l:List V):Int:=bif l.length != s.cols.length then 17 else fitL s.cols l
noncomputable def zv3 (s:Sch) (i:Nat) :Cfg:=zan B.Bz 0 [(6,.sl (s.cols.map Col.cells)),(7,iv ((s.cols.map Col.cells).length:Nat)),(8,iv (i:Nat))] [.box s.cells]
theorem zhJ (s:Sch) (hs:zac s.cols) (i:Nat)  (hi:i<=(s.cols).length) (hI:idxF (fun c=>c.key) s.cols 0=idxF (fun c=>c.key) (s.cols.drop i) i):((idxF (fun c=>c.key) s.cols 0=idxF (fun c=>c.key) (s.cols.drop (s.cols).length) (s.cols).length)/\(decide ((((s.cols).length:Nat):Int) < (((s.cols.map Col.cells).length:Nat):Int))=false)/\∀ R,Good E0 B.Bz [] (zv3 s (s.cols).length ) R->Good E0 B.Bz [] (zv3 s i ) R)\/(∃ (r:Int),r=idxF (fun c=>c.key) s.cols 0/\Good E0 B.Bz [] (zv3 s i ) (Shut 0 fun rZ hZ=>rZ=(iv r)/\hZ=[])):=by
 have hk:=hi;revert i;refine zlp ((s.cols).length) (fun i hlt ih hi hI _=>?_)
 obtain ⟨x,hx,h0,hw⟩:=zlq (l:=s.cols) ((s.cols.map Col.cells).length) hlt
 let p_1:List St:=[sb h0,se (zai Col.cells hx rfl)]
 cases h1:x.key
 ·exact zie2 (ih Zo (by exact zvt hI hx ‹_›) Zo) fun R gY=>zaa (wkl (p_1++[sb h1,si hw]) [6,7,8] 1 kr gY)
 ·exact .inr ⟨(i:Int),(by exact zyj hI hx ‹_›),zaa (wkr (p_1++[sb h1]) kr)⟩
theorem zov (s:Sch) (hs:zac s.cols):∃ (r:Int),r=idxF (fun c=>c.key) s.cols 0/\zab E0 S.Bz [s.av] [] (iv r) []:=by
 rcases zhJ s Za 0 Za Za with ⟨q1,q1_1,g1⟩|⟨r1_0,p1_0,g1⟩
 ·exact ⟨-1,(by first|assumption|exact zpx ‹_›),wkc At.Bz [] [6,7,8] 1 kr (g1 _ (zaa (wkr [sb q1_1] kr)))⟩
 ·exact ⟨r1_0,(by first|assumption|exact zpx ‹_›),wkc At.Bz [] [6,7,8] 1 kr (g1)⟩
theorem zoI (s:Sch) (hs:zac s.cols):zab E0 S.Bz [s.av] [] (iv (idxF (fun c=>c.key) s.cols 0)) []:=by
 obtain ⟨r,rfl,h⟩:=zov s hs
 exact h
def fnd7 (n:Int):List Pr->List V × Bool
 | []=>([],false)
 | p::r=>bif p.id==n then (p.nw,true) else fnd7 n r
abbrev anyI (ks:List Int) (n:Int):Bool:=ks.any fun x=>x==n
/- values -/
def keyOf (kc:Int) (r:Rw):Option V:=bif decide (0<=kc)&&decide (kc < ((r.vals.map V.cells).length:Int)) then some (zee r.vals kc) else none
def keysOf (kc:Int) (l:List Rw):List V:=l.filterMap (keyOf kc)
structure Acc where
 tab:Str
 col:Str
 mode:Int
def Acc.cells (a:Acc):List AV:=[sv a.tab,sv a.col,iv a.mode]
abbrev ZK (l:List Acc):AV:=.sl (l.map Acc.cells)
abbrev Acc.av (a:Acc):AV:=.agg a.cells
@[simp] theorem Acc.cells_length (a:Acc):a.cells.length=3:=rfl
def eqA (a b:Acc):Bool:=a.tab==b.tab&&(a.col==b.col&&(a.mode==b.mode&&true))
theorem zdb {a b:Acc}:eqA a b=true↔a=b:=by
 obtain ⟨k,i,t⟩:=a;obtain ⟨k',i',t'⟩:=b
 constructor
 ·intro h
  simp only [eqA,Bool.and_eq_true,Bool.and_true,beq_iff_eq] at h
  obtain ⟨h1,h2,rfl⟩:=h
  rw [zjL h1,zjL h2]
 ·intro h;cases h;simp [eqA,zfr]
abbrev itA (a:Acc):AV × AV:=(a.av,bv true)
theorem zqO (n m:Acc):zdv n.av m.av (eqA n m):=⟨true,[.string n.tab,.string n.col,.int .i64 n.mode],[.string m.tab,.string m.col,.int .i64 m.mode],rfl,rfl,by simp [zbI,zff,eqA]⟩
theorem zdM:StructEq E0.P Ty.Access [.str,.str,.int .i64] :=
 zud E0ok (fs:=E0.P.fieldsOf Ty.Access) kr kr kr kr
theorem zqQ (a b:Str) (c:Int):KeyOK E0.P Ty.M_Access_bool (.agg [sv a,sv b,iv c]) :=
 ztK E0ok (kt:=Ty.Access) (et:=Ty.bool) (fs:=E0.P.fieldsOf Ty.Access) kr kr kr zdM rfl rfl
theorem zdc {a b:Str}:ltS a b=true↔a.toList < b.toList:=by
 unfold ltS;rw [Go.Proofs.bytesLess_eq];simp
def ltA (a b:Acc):Bool:=ltS a.tab b.tab || (a.tab==b.tab&&(ltS a.col b.col || (a.col==b.col&&decide (a.mode < b.mode))))
theorem zfB {a b:Str} (h:a.toList=b.toList):a=b:=by
 rw [Go.Lib.toList_data,Go.Lib.toList_data] at h
 exact ByteArray.ext (Array.toList_inj.1 h)
theorem znO {a b:Acc}:ltA a b=true↔a.tab.toList < b.tab.toList\/(a.tab=b.tab/\(a.col.toList < b.col.toList\/(a.col=b.col/\a.mode < b.mode))):=by
 have e:∀ x y:Str,(x==y)=true↔x=y:=fun x y=>⟨zjL,fun h=>by subst h;exact zfr x⟩
 simp only [ltA,Bool.or_eq_true,Bool.and_eq_true,zdc,e,decide_eq_true_eq]
theorem zby (a:Acc):ltA a a=false:=by
 cases h:ltA a a
 ·rfl
 ·rcases znO.1 h with h|⟨_,h|⟨_,h⟩⟩
  ·exact absurd h (List.lt_irrefl _)
  ·exact absurd h (List.lt_irrefl _)
  ·omega
theorem zdl {a b c:Acc} (h1:ltA a b=true) (h2:ltA b c=true):ltA a c=true:=by
 rw [znO] at *
 rcases h1 with h1|⟨e1,h1⟩
 ·rcases h2 with h2|⟨e2,_⟩
  ·exact .inl (List.lt_trans h1 h2)
  ·rw [← e2];exact .inl h1
 ·rcases h2 with h2|⟨e2,h2⟩
  ·rw [e1];exact .inl h2
  ·refine .inr ⟨e1.trans e2,?_⟩
   rcases h1 with h1|⟨e3,h1⟩
   ·rcases h2 with h2|⟨e4,_⟩
    ·exact .inl (List.lt_trans h1 h2)
    ·rw [← e4];exact .inl h1
   ·rcases h2 with h2|⟨e4,h2⟩
    ·rw [e3];exact .inl h2
    ·exact .inr ⟨e3.trans e4,by omega⟩
theorem zlg (a b:Str):a.toList < b.toList\/a=b\/b.toList < a.toList:=by
 by_cases h1:a.toList < b.toList
 ·exact .inl h1
 ·by_cases h2:b.toList < a.toList
  ·exact .inr (.inr h2)
  ·exact .inr (.inl (zfB (List.le_antisymm (List.not_lt.1 h2) (List.not_lt.1 h1))))
theorem zig (a b:Acc):ltA a b=true\/a=b\/ltA b a=true:=by
 rw [znO,znO]
 rcases zlg a.tab b.tab with h|h|h
 ·exact .inl (.inl h)
 ·rcases zlg a.col b.col with h1|h1|h1
  ·exact .inl (.inr ⟨h,.inl h1⟩)
  ·rcases Int.lt_trichotomy a.mode b.mode with h2|h2|h2
   ·exact .inl (.inr ⟨h,.inr ⟨h1,h2⟩⟩)
   ·refine .inr (.inl ?_)
    obtain ⟨x,y,z⟩:=a
    obtain ⟨x',y',z'⟩:=b
    simp only at h h1 h2
    subst h;subst h1;subst h2;rfl
   ·exact .inr (.inr (.inr ⟨h.symm,.inr ⟨h1.symm,h2⟩⟩))
  ·exact .inr (.inr (.inr ⟨h.symm,.inl h1⟩))
 ·exact .inr (.inr (.inl h))
def AccS (ks:List Acc):Prop:=ks.Pairwise fun a b=>ltA a b=true
def addK:List Acc->Acc->List Acc
 | [],a=>[a]
 | b::r,a=>bif eqA a b then b::r else bif ltA a b then a::b::r else b::addK r a
theorem zlQ {a x:Acc}:∀ ks:List Acc,x∈addK ks a↔x=a\/x∈ks
 | []=>by simp [addK]
 | b::r=>by
  unfold addK
  cases h:eqA a b
  ·cases h2:ltA a b
   ·simp only [cond_false,List.mem_cons,zlQ r]
    exact ⟨fun h=>by rcases h with h|h|h <;> simp [h],fun h=>by rcases h with h|h|h <;> simp [h]⟩
   ·simp
  ·have:=zdb.1 h
   subst this
   simp
theorem AccS.ins {ks:List Acc} (h:AccS ks) (a:Acc):AccS (addK ks a):=by
 induction ks with
 | nil=>simp [AccS,addK]
 | cons b r ih =>
  obtain ⟨h1,h2⟩:=List.pairwise_cons.1 h
  unfold addK
  cases h3:eqA a b
  ·cases h4:ltA a b
   ·simp only [cond_false]
    refine List.pairwise_cons.2 ⟨fun x hx=>?_,ih h2⟩
    rcases (zlQ r).1 hx with rfl|hx
    ·rcases zig b x with h5|h5|h5
     ·exact h5
     ·rw [zdb.2 h5.symm] at h3;cases h3
     ·rw [h4] at h5;cases h5
    ·exact h1 x hx
   ·simp only [cond_false,cond_true]
    refine List.pairwise_cons.2 ⟨fun x hx=>?_,h⟩
    rcases List.mem_cons.1 hx with rfl|hx
    ·exact h4
    ·exact zdl h4 (h1 x hx)
  ·exact h
theorem AccS.nodup {ks:List Acc} (h:AccS ks):ks.Nodup:=h.imp fun {a b} hab e=>by subst e;rw [zby] at hab;cases hab
theorem zs0 {a:Acc}:∀ {ks:List Acc},a ∉ ks->(addK ks a).Perm (a::ks)
 | [],_=>.refl _
 | b::r,h=>by
  unfold addK
  have h1:eqA a b=false:=by
   cases he:eqA a b
   ·rfl
   ·exact absurd (by rw [zdb.1 he];exact List.mem_cons_self) h
  rw [h1]
  cases h2:ltA a b
  ·simp only [cond_false]
   exact ((zs0 fun hm=>h (List.mem_cons_of_mem _ hm)).cons b).trans (.swap _ _ _)
  ·exact .refl _
theorem zlt {l r:List Acc} (hl:AccS l) (hr:AccS r) (h:∀ x,x∈l↔x∈r):l=r:=by
 induction l generalizing r with
 | nil =>
  cases r with
  | nil=>rfl
  | cons b r=>exact absurd ((h b).2 List.mem_cons_self) Zs
 | cons a l ih =>
  cases r with
  | nil=>exact absurd ((h a).1 List.mem_cons_self) Zs
  | cons b r =>
   obtain ⟨a1,a2⟩:=List.pairwise_cons.1 hl
   obtain ⟨b1,b2⟩:=List.pairwise_cons.1 hr
   have e:a=b:=by
    rcases List.mem_cons.1 ((h a).1 List.mem_cons_self) with e|ha
    ·exact e
    ·rcases List.mem_cons.1 ((h b).2 List.mem_cons_self) with e|hb
     ·exact e.symm
     ·have:=zdl (a1 b hb) (b1 a ha)
      rw [zby] at this;cases this
   subst e
   congr 1
   refine ih a2 b2 fun x=>⟨fun hx=>?_,fun hx=>?_⟩
   ·rcases List.mem_cons.1 ((h x).1 (List.mem_cons_of_mem _ hx)) with e|h1
    ·subst e;have:=a1 x hx;rw [zby] at this;cases this
    ·exact h1
   ·rcases List.mem_cons.1 ((h x).2 (List.mem_cons_of_mem _ hx)) with e|h1
    ·subst e;have:=b1 x hx;rw [zby] at this;cases this
    ·exact h1
theorem zze {ks:List Acc} (h:AccS ks) {a:Acc} (ha:a∈ks):addK ks a=ks :=
 zlt (h.ins a) h fun x=>by rw [zlQ];exact ⟨fun hx=>by rcases hx with rfl|hx <;> assumption,.inr⟩
theorem zA8 (ks:List Acc) (a:Acc) (h:AccS ks):PutAt (ks.map itA) a.av (bv true) ((addK ks a).map itA):=by
 by_cases ha:a∈ks
 ·rw [zze h ha]
  obtain ⟨la,lb,rfl⟩:=List.append_of_mem ha
  have hn:=h.nodup
  refine PutAt.old (la.map itA) (lb.map itA) a.av (bv true) Zs ?_ (fun p hp=>?_) ?_
  ·have:=zqO a a;rwa [zdb.2 rfl] at this
  ·rw [← List.map_append] at hp
   obtain ⟨m,hm,rfl⟩:=List.mem_map.1 hp
   have h1:=zqO a m
   have h2:eqA a m=false:=by
    cases he:eqA a m
    ·rfl
    ·have:=zdb.1 he
     subst this
     have hn:=List.perm_middle.nodup_iff.1 hn
     exact absurd hm (List.nodup_cons.1 hn).1
   rwa [h2] at h1
  ·rw [List.map_append,List.map_cons];exact List.perm_middle
 ·refine PutAt.new (fun p hp=>?_) ?_
  ·obtain ⟨m,hm,rfl⟩:=List.mem_map.1 hp
   have h1:=zqO a m
   have h2:eqA a m=false:=by
    cases he:eqA a m
    ·rfl
    ·exact absurd (zdb.1 he ▸ hm) ha
   rwa [h2] at h1
  ·exact (zs0 ha).map itA
def zae (ks l:List Acc):List Acc:=l.foldl addK ks
theorem zaP (ks a b:List Acc):zae ks (a++b)=zae (zae ks a) b:=by simp [zae]
theorem zeD {x:Acc}:∀ (l ks:List Acc),x∈zae ks l↔x∈ks\/x∈l
 | [],ks=>by simp [zae]
 | a::l,ks=>by
  have:=zeD (x:=x) l (addK ks a)
  simp only [zae,List.foldl_cons,List.mem_cons] at this ⊢
  rw [this,zlQ]
  exact ⟨fun h=>by rcases h with (h|h)|h <;> simp [h],fun h=>by rcases h with h|h|h <;> simp [h]⟩
theorem AccS.all {ks:List Acc} (h:AccS ks):∀ l:List Acc,AccS (zae ks l)
 | []=>h
 | a::l=>(h.ins a).all l
theorem AccS.nil:AccS []:=List.Pairwise.nil
end Go.AM
namespace Go.AM
open Go.Shelf Go.RowKit Go.Lib Go.Sort
open Go.Proofs (ltOf CmpLays sortWorldK)
instance:Inhabited Acc:=⟨⟨⟨#[]⟩,⟨#[]⟩,0⟩⟩
def encA (a:Acc):List Value:=[.string a.tab,.string a.col,.int .i64 a.mode]
theorem zis (a:Acc):(encA a).length=3:=rfl
theorem zoy (a:Acc):∀ v∈encA a,v.oneCell'=true:=by
 intro v hv;simp only [encA,List.mem_cons,List.not_mem_nil,or_false] at hv
 rcases hv with rfl|rfl|rfl <;> rfl
def flA (xa:List Acc):List Value:=xa.flatMap encA
theorem znG:∀ xa:List Acc,(flA xa).length=xa.length * 3
 | []=>rfl
 | a::r=>by
  have:=znG r
  simp only [flA,List.flatMap_cons,List.length_append,List.length_cons] at this ⊢
  rw [this,zis];omega
theorem znF:∀ (xa:List Acc) (i j:Nat) (a:Acc),xa[i]?=some a->j < 3->(flA xa)[i * 3+j]?=(encA a)[j]?
 | [],i,j,a,h,_=>by simp at h
 | b::r,0,j,a,h,hj=>by
  simp only [List.getElem?_cons_zero,Option.some.injEq] at h
  subst h
  simp only [flA,List.flatMap_cons,Nat.zero_mul,Nat.zero_add]
  rw [List.getElem?_append_left (by rw [zis];exact hj)]
 | b::r,i+1,j,a,h,hj=>by
  have:=znF r i j a (by simpa using h) hj
  simp only [flA,List.flatMap_cons] at this ⊢
  rw [List.getElem?_append_right (by rw [zis];omega),zis,← this]
  congr 1;omega
theorem zq7 (xa:List Acc) (t:Nat) (ht:t < xa.length * 3):(flatK encA 3 xa.toArray)[t]! = (flA xa)[t]!:=by
 rw [get_flatK encA 3 xa.toArray t (by simpa using ht)]
 have h1:t / 3 < xa.length:=by omega
 have h2:t % 3 < 3:=Nat.mod_lt _ Zo
 have h3:xa[t / 3]?=some xa[t / 3]:=List.getElem?_eq_getElem h1
 have h4:=znF xa (t / 3) (t % 3) _ h3 h2
 rw [show t / 3 * 3+t % 3=t by omega] at h4
 have e1:(xa.toArray)[t / 3]! = xa[t / 3]:=by simp [h1]
 rw [e1,List.getElem!_eq_getElem?_getD,List.getElem!_eq_getElem?_getD,h4]
theorem zAU (xa:List Acc):∀ u∈flA xa,u.oneCell'=true:=by
 intro u hu
 obtain ⟨a,_,h⟩:=List.mem_flatMap.1 hu
 exact zoy a u h
theorem zxV {w:World} {S:Addr->Prop} {cs:Array Value} {xa:List Acc} (hrel:∀ (i j:Nat) (c:List AV) (x:AV),(xa.map Acc.cells)[i]?=some c->c[j]?=some x->∃ y,cs[i * 3+j]?=some y/\RelD w S x y/\y.oneCell'=true) (t:Nat) (ht:t < xa.length * 3):cs[t]?=some ((flA xa)[t]!):=by
 have h1:t / 3 < xa.length:=by omega
 have h2:t % 3 < 3:=Nat.mod_lt _ Zo
 have h3:xa[t / 3]?=some xa[t / 3]:=List.getElem?_eq_getElem h1
 have h4:=znF xa (t / 3) (t % 3) _ h3 h2
 rw [show t / 3 * 3+t % 3=t by omega] at h4
 have h5:(xa.map Acc.cells)[t / 3]?=some (xa[t / 3]).cells:=by rw [List.getElem?_map,h3];rfl
 generalize xa[t / 3]=a at h4 h5
 have h6:∃ y,cs[t]?=some y/\(encA a)[t % 3]?=some y:=by
  match hq:t % 3,h2 with
  | 0,_ =>
   obtain ⟨y,y1,y2,_⟩:=hrel (t / 3) 0 _ (sv a.tab) h5 rfl
   cases y2
   exact ⟨_,by rw [← y1];congr 1;omega,rfl⟩
  | 1,_ =>
   obtain ⟨y,y1,y2,_⟩:=hrel (t / 3) 1 _ (sv a.col) h5 rfl
   cases y2
   exact ⟨_,by rw [← y1];congr 1;omega,rfl⟩
  | 2,_ =>
   obtain ⟨y,y1,y2,_⟩:=hrel (t / 3) 2 _ (iv a.mode) h5 rfl
   cases y2
   exact ⟨_,by rw [← y1];congr 1;omega,rfl⟩
 obtain ⟨y,y1,y2⟩:=h6
 rw [y1,List.getElem!_eq_getElem?_getD,h4,y2];rfl
def cfA (a b:Acc):Int:=orI [cmpS a.tab b.tab,cmpS a.col b.col,cmpI a.mode b.mode]
theorem zgM (a:Str):ltS a a=false:=by
 cases h:ltS a a
 ·rfl
 ·exact absurd (zdc.1 h) (List.lt_irrefl _)
theorem ztg (a b:Str):(ltS a b=true/\cmpS a b=-1/\(a==b)=false)\/(a=b/\cmpS a b=0)\/(ltS a b=false/\cmpS a b=1/\(a==b)=false):=by
 have hne:∀ {x y:Str},x.toList < y.toList->(x==y)=false:=fun {x y} h=>by
  cases he:x==y
  ·rfl
  ·rw [zjL he] at h;exact absurd h (List.lt_irrefl _)
 rcases zlg a b with h|h|h
 ·have h1:=zdc.2 h
  exact .inl ⟨h1,by simp [cmpS,h1],hne h⟩
 ·subst h
  exact .inr (.inl ⟨rfl,by simp [cmpS,zgM,eqS]⟩)
 ·have h1:ltS a b=false:=by
   cases h2:ltS a b
   ·rfl
   ·exact absurd (List.lt_trans h (zdc.1 h2)) (List.lt_irrefl _)
  have h2:eqS a b=false:=by
   cases he:eqS a b
   ·rfl
   ·have:a.toList=b.toList:=by simpa [eqS] using he
    rw [this] at h;exact absurd h (List.lt_irrefl _)
  refine .inr (.inr ⟨h1,by simp [cmpS,h1,h2],?_⟩)
  cases he:a==b
  ·rfl
  ·rw [zjL he] at h;exact absurd h (List.lt_irrefl _)
theorem cfA_lt (a b:Acc):ltOf cfA a b=ltA a b:=by
 unfold ltOf cfA ltA
 rcases ztg a.tab b.tab with ⟨h1,h2,h3⟩|⟨h1,h2⟩|⟨h1,h2,h3⟩
 ·rw [h1,h2];rfl
 ·rw [h1,zgM,zfr]
  simp only [h1] at h2
  rw [h2]
  rcases ztg a.col b.col with ⟨g1,g2,g3⟩|⟨g1,g2⟩|⟨g1,g2,g3⟩
  ·rw [g1,g2];rfl
  ·rw [g1,zgM,zfr]
   simp only [g1] at g2
   rw [g2]
   simp only [orI,cmpI,if_true,Bool.false_or,Bool.true_and]
   by_cases k1:a.mode < b.mode
   ·simp [k1]
   ·by_cases k2:b.mode < a.mode <;> simp [k1,k2]
  ·rw [g1,g2,g3];rfl
 ·rw [h1,h2,h3];rfl
theorem zfs:ltOf cfA=ltA:=by funext a b;exact cfA_lt a b
theorem swoA:SWO (ltOf cfA) where
 irrefl x:=by rw [zfs];exact zby x
 trans x y z h1 h2:=by rw [zfs] at *;exact zdl h1 h2
 ntrans x y z h1 h2:=by
  rw [zfs] at *
  cases h:ltA x z
  ·rfl
  ·rcases zig y z with h3|h3|h3
   ·rw [h3] at h2;cases h2
   ·subst h3;rw [h] at h1;cases h1
   ·have:=zdl h h3;rw [this] at h1;cases h1
theorem totA (x y:Acc) (h1:ltOf cfA x y=false) (h2:ltOf cfA y x=false):x=y:=by
 rw [zfs] at *
 rcases zig x y with h|h|h
 ·rw [h] at h1;cases h1
 ·exact h
 ·rw [h] at h2;cases h2
def srtA (xa:List Acc):List Acc:=xa.mergeSort fun x y=>!(ltOf cfA) y x
theorem zrn (xa:List Acc):(srtA xa).Perm xa:=List.mergeSort_perm _ _
theorem zoQ (xa:List Acc):(srtA xa).length=xa.length:=(zrn xa).length_eq
theorem zBq {xa ks:List Acc} (hk:AccS ks) (hp:xa.Perm ks):srtA xa=ks:=by
 have h1:(srtA xa).Pairwise fun x y=>(!(ltOf cfA) y x)=true:=List.pairwise_mergeSort (fun x y z a b=>by
  rw [zfs] at *
  simp only [Bool.not_eq_true'] at *
  have:=swoA.ntrans z y x;rw [zfs] at this;exact this b a) (fun x y=>by
  rw [zfs]
  rcases zig x y with h|h|h
  ·have:ltA y x=false:=by
    cases h2:ltA y x
    ·rfl
    ·have:=zdl h h2;rw [zby] at this;cases this
   simp [this]
  ·subst h;simp [zby]
  ·have:ltA x y=false:=by
    cases h2:ltA x y
    ·rfl
    ·have:=zdl h h2;rw [zby] at this;cases this
   simp [this]) xa
 have hp2:=(zrn xa).trans hp
 have hn:(srtA xa).Nodup:=hp2.nodup_iff.2 hk.nodup
 have h2:AccS (srtA xa):=by
  refine (h1.and hn).imp fun {a b} ⟨x,y⟩=>?_
  rw [zfs] at x
  rcases zig a b with h|h|h
  ·exact h
  ·exact absurd h y
  ·rw [h] at x;cases x
 exact zlt h2 hk fun x=>hp2.mem_iff
end Go.AM
namespace Go.AM
open Go.Shelf Go.RowKit Go.Lib Go.Sort
open Go.Proofs (ltOf CmpLays sortWorldK)
theorem holdsA {w:World} {S:Addr->Prop} {g:Nat} {cs:Array Value} {xa:List Acc} (hg:w.heap[g]?=some (.cells cs Ty.Access (0,0)))
  (hrel:∀ (i j:Nat) (c:List AV) (x:AV),(xa.map Acc.cells)[i]?=some c->c[j]?=some x->∃ y,cs[i * 3+j]?=some y/\RelD w S x y/\y.oneCell'=true):HoldsK encA 3 w g 0 xa.toArray:=by
 intro j hj
 simp only [size_flatK,List.size_toArray] at hj
 refine ⟨?_,?_⟩
 ·rw [zq7 xa j hj]
  simp only [World.cell?,hg,Nat.zero_add]
  exact zxV hrel j hj
 ·simp only [World.frozen?,hg,Nat.zero_add]
  simp
theorem zBh {w:World} {g:Nat} {cs:Array Value} (bs:List Acc) (m:Nat) (hg:w.heap[g]?=some (.cells cs Ty.Access (0,0))) :
  ∃ cs':Array Value,(putRowK encA 3 (Sort.ahead w m) g 0 bs.toArray).heap[g]?=some (.cells cs' Ty.Access (0,0))/\cs'.size=cs.size/\∀ k,cs'[k]?=if k < bs.length * 3 then (cs[k]?).map (fun _=>(flA bs)[k]!) else cs[k]?:=by
 refine ⟨putCells id 0 (flatK encA 3 bs.toArray) cs,?_,by simp [putCells],fun k=>?_⟩
 ·show ((Sort.ahead w m).heap.modify g _)[g]?=_
  rw [Array.getElem?_modify,if_pos rfl,show (Sort.ahead w m).heap=w.heap from rfl,hg]
  rfl
 ·simp only [putCells,Array.getElem?_mapIdx,size_flatK,List.size_toArray,Nat.zero_le,true_and,Nat.zero_add,Nat.sub_zero]
  by_cases hk:k < bs.length * 3
  ·simp only [hk,if_true]
   rw [zq7 bs k hk];rfl
  ·simp only [hk,if_false]
   cases cs[k]? <;> rfl
theorem zrP {w:World} {g:Nat} (bs:List Acc) (m:Nat) (k:Nat) (hk:k≠g):(putRowK encA 3 (Sort.ahead w m) g 0 bs.toArray).heap[k]?=w.heap[k]?:=by
 show ((Sort.ahead w m).heap.modify g _)[k]?=_
 rw [Array.getElem?_modify,if_neg (fun h=>hk h.symm)]
 rfl
theorem zwy {g:FuncId} (hgo:GoFn E0.P g) (hcl:∀ a b:Acc,zab E0 g [a.av,b.av] [] (iv (cfA a b)) []) {S:Addr->Prop} {w:World} {q:Nat} (r:Rel E0 [] [] S w) (hq:∀ a,S a->a.block≠q) (hqs:q < w.heap.size) (size:Nat):CmpLays E0.P g #[] encA 3 cfA q 0 size w:=by
 intro m os dk hdk x y
 have hkeep:∀ b,b < w.heap.size->b≠q->(sortWorldK encA 3 w q 0 m dk os).heap[b]?=w.heap[b]?:=fun b hb hne=>by
  show ((putRowK encA 3 (Sort.ahead w m) q 0 dk).heap++os)[b]?=_
  rw [Array.getElem?_append_left (by simpa [putRowK,Sort.ahead] using hb)]
  show ((Sort.ahead w m).heap.modify q _)[b]?=_
  rw [Array.getElem?_modify,if_neg (fun h=>hne h.symm)]
  rfl
 have hsz:w.heap.size<=(sortWorldK encA 3 w q 0 m dk os).heap.size:=by simp [sortWorldK,Sort.grow,putRowK,Sort.ahead]
 generalize sortWorldK encA 3 w q 0 m dk os=W at hkeep hsz ⊢
 have hcell:∀ a,S a->W.cell? a=w.cell? a:=fun a ha=>World.cell?_of_block (hkeep a.block (r.stable a ha) (hq a ha))
 have r':Rel E0 [] [] S W:=⟨rfl,fun b cs hb=>by simp at hb,fun b e xs sh hb=>by simp at hb,fun b es hb=>by simp at hb,fun b b' k k' g hb=>by simp at hb,fun b k g hb=>by simp at hb,fun a ha=>Nat.lt_of_lt_of_le (r.stable a ha) hsz,fun b k g a hb=>by simp at hb,fun g cs hg=>(r.glob g cs hg).mono (fun _ h=>h) hcell⟩
 have harg:∀ a:Acc,RelV E0.T [] [] W S a.av (.agg (encA a).toArray):=fun a=>.agg a.cells (encA a) rfl (zoy a) (fun i u v hu hv=>by
  match i,hu,hv with
  | 0,hu,hv=>cases hu;cases hv;exact .d _ _ (.v _ rfl)
  | 1,hu,hv=>cases hu;cases hv;exact .d _ _ (.v _ rfl)
  | 2,hu,hv=>cases hu;cases hv;exact .d _ _ (.v _ rfl)
  | i+3,hu,_=>simp [Acc.cells] at hu)
 obtain ⟨fn,hf1,hf2,hf3⟩:=hgo
 rcases hcl x y [] S W [.agg (encA x).toArray,.agg (encA y).toArray] r' (PW.cons (harg x) (PW.cons (harg y) PW.nil)) with ⟨_,hc⟩|⟨v,w',hrun,_⟩
 ·refine Calls.mono (P:=E0.P) (by simpa using hc) ?_
  rintro e W' ⟨rv,h',β',S',v,rfl,⟨rfl,rfl⟩,_,ex,hv⟩
  refine ⟨by rw [hv.v_inv],W'.drawn - W.drawn,W'.heap.extract W.heap.size W'.heap.size,?_⟩
  have hb:∀ k,k < W.heap.size->W'.heap[k]?=W.heap[k]?:=fun k hk=>ex.keep k hk fun b' k' hb=>by simp at hb
  have hd:=ex.drawn
  have hs:=ex.size
  have e1:=ex.os
  have e2:=ex.tape
  have e3:=ex.output
  obtain ⟨heap',tape',drawn',os',output'⟩:=W'
  simp only at e1 e2 e3 hb hd hs
  subst e1;subst e2;subst e3
  have eh:heap'=W.heap++heap'.extract W.heap.size heap'.size:=by
   apply Array.ext_getElem?
   intro k
   by_cases hk:k < W.heap.size
   ·rw [Array.getElem?_append_left hk];exact hb k hk
   ·rw [Array.getElem?_append_right Zo,Array.getElem?_extract]
    by_cases hk2:k < heap'.size
    ·rw [if_pos Zo];congr 1;omega
    ·rw [if_neg Zo,Array.getElem?_eq_none Zo]
  simp only [Sort.grow,World.drewN]
  congr 1
  omega
 ·exfalso
  simp only [callFunc,Sem.run_bind,Sem.run_pure,Result.andThen_ok,run_program,hf1,hf2,hf3,Bool.false_eq_true,if_false] at hrun
  cases hrun
theorem zBo {f g : FuncId} {fn : Func} (hfn : E0.P.funcs[f]? = some fn) (hn : (fn.name == "runtime.NumGoroutine") = false) (hb : fn.body.isNone = false)
  (hnil:∀ (a:Option Addr) (w:World),Calls E0.P f #[.slice a 0 0,.func (.func g) #[] #[]] w fun e w'=>e=.returned (.tuple #[])/\w'=w)
  (hgo:GoFn E0.P g) (hcl:∀ a b:Acc,zab E0 g [a.av,b.av] [] (iv (cfA a b)) [])
  (hall:∀ (q:Nat) (cap:Nat) (d:Array Acc) (w:World),CmpLays E0.P g #[] encA 3 cfA q 0 d.size w->HoldsK encA 3 w q 0 d->q < w.heap.size->d.size < 4611686018427387904 ->
   Calls E0.P f #[.slice (some ⟨q,0,none⟩) d.size cap,.func (.func g) #[] #[]] w fun e w'=>e=.returned (.tuple #[])/\∃ n os,w'=sortWorldK encA 3 w q 0 n (d.toList.mergeSort fun x y=>!(ltOf cfA) y x).toArray os)
  (hs:(E0.T Ty.Access).size=3) (xa:List Acc) (hxa:xa.length<=1000000000):zab E0 f [.own 0 xa.length,.fn g []] [.row Ty.Access (xa.map Acc.cells) false] (.tup []) [.row Ty.Access ((srtA xa).map Acc.cells) false]:=by
 intro β S w vs r hp
 obtain ⟨hl,hv⟩:=hp
 match vs,hl,hv with
 | [v1,v2],_,hv =>
  have h1:=hv 0 _ v1 rfl rfl
  have h2:=hv 1 _ v2 rfl rfl
  obtain rfl:v2=.func (.func g) #[] #[]:=by
   cases h2 with
   | d _ _ h=>cases h
   | fn f caps vs hl _ =>
    have:vs=[]:=List.length_eq_zero_iff.1 (by simpa using hl.symm)
    subst this;rfl
  refine .inl ⟨⟨fn,hfn,hn,hb⟩,?_⟩
  obtain ⟨k,k1,hrow⟩:=r.row 0 Ty.Access (xa.map Acc.cells) false rfl
  have hv1:(β[0]?).bind (Con.cur xa.length)=some v1:=by
   cases h1 with
   | d _ _ h=>cases h
   | own b n y e xs sh c1 c2 c3 c4 =>
    simp only [List.getElem?_cons_zero,Option.some.injEq,Blk.row.injEq] at c1
    obtain ⟨rfl,rfl,rfl⟩:=c1
    exact c3 Zs
  rw [k1] at hv1
  simp only [Option.bind_some] at hv1
  cases k with
  | box _=>exact hrow.elim
  | mp _=>exact hrow.elim
  | nil a =>
   have ha0:xa.map Acc.cells=[]:=hrow
   have ha:xa=[]:=by simpa using ha0
   subst ha
   simp only [Con.cur,Option.some.injEq] at hv1
   subst hv1
   refine Calls.mono (P:=E0.P) (hnil a w) ?_
   rintro e w' ⟨rfl,rfl⟩
   have e0:srtA []=[]:=List.length_eq_zero_iff.1 (zoQ [])
   rw [e0]
   exact ⟨_,_,β,S,_,rfl,⟨rfl,rfl⟩,r,Ext.refl _ _ _ _,.tup [] [] rfl (fun i x y h=>by simp at h)⟩
  | row q cap =>
   simp only [Con.cur,Option.some.injEq] at hv1
   subst hv1
   obtain ⟨cs,q1,q2,q3,q4,q5,q6,q7⟩:=hrow
   rw [hs] at q5 q6 q7
   have hq:=r.lt 0 _ q k1 rfl
   have hH:=holdsA (xa:=xa) q1 q7
   rw [List.length_map] at q2
   have hc:=hall q cap xa.toArray w (zwy hgo hcl (r.first 0).1 (fun a ha e=>by
    obtain ⟨e1,xs1,h1,_⟩:=r.free 0 _ q a k1 rfl ha e
    simp at h1) hq _) hH hq (by
    simp only [List.size_toArray]
    omega)
   refine Calls.mono (P:=E0.P) (by simpa using hc) ?_
   rintro e w' ⟨rfl,n,os,rfl⟩
   have hlen:=zoQ xa
   obtain ⟨cs',p1,p2,p3⟩:=zBh (g:=q) (srtA xa) n q1
   have hlay:=r.lay (b:=0) (d:=0) (ys:=(srtA xa).map Acc.cells) (L:=flA (srtA xa)) (w':=putRowK encA 3 (Sort.ahead w n) q 0 (srtA xa).toArray) rfl k1 q1 (by simp [hlen]) (by rw [znG,hs];simp) (zAU _) (fun c hc=>by
     obtain ⟨a,_,rfl⟩:=List.mem_map.1 hc;rw [hs];rfl)
    (fun i j c x hi hj=>by
     rw [List.getElem?_map,Option.map_eq_some_iff] at hi
     obtain ⟨a,hi,rfl⟩:=hi
     have hj3:j < 3:=by have:=(List.getElem?_eq_some_iff.1 hj).1;simpa using this
     rw [hs,znF _ _ _ _ hi hj3]
     match j,hj3,hj with
     | 0,_,hj=>cases hj;exact ⟨_,rfl,.v _ rfl⟩
     | 1,_,hj=>cases hj;exact ⟨_,rfl,.v _ rfl⟩
     | 2,_,hj=>cases hj;exact ⟨_,rfl,.v _ rfl⟩)
    ⟨cs',p1,p2,fun k=>by
     rw [p3 k,hs]
     simp only [Nat.zero_mul,Nat.not_lt_zero,if_false,Nat.zero_add,znG,Nat.sub_zero]
     by_cases hk:k < (srtA xa).length * 3
     ·simp only [hk,if_true]
      have hk2:k < cs.size:=by
       rw [q5]
       have:xa.length * 3<=cap * 3:=Nat.mul_le_mul_right _ q2
       omega
      rw [Array.getElem?_eq_getElem hk2,Option.map_some,List.getElem!_eq_getElem?_getD,List.getElem?_eq_getElem (by rw [znG];exact hk)]
      rfl
     ·simp only [hk,if_false]⟩
    (fun k hk=>zrP _ n k hk) (by simp [putRowK,Sort.ahead]) rfl rfl (by show w.drawn<=w.drawn+n;omega) rfl
   obtain ⟨x1,r1⟩:=hlay
   have e0:zcV (xa.map Acc.cells) 0 ((srtA xa).map Acc.cells)=(srtA xa).map Acc.cells:=by
    apply List.ext_getElem?
    intro i
    rw [zhj (by simp [hlen])]
    simp only [Nat.not_lt_zero,if_false,Nat.zero_add,List.length_map,Nat.sub_zero]
    by_cases hi:i < (srtA xa).length
    ·simp [hi]
    ·simp only [hi,if_false]
     rw [List.getElem?_eq_none Zp,List.getElem?_eq_none Zp]
   rw [e0] at x1 r1
   have hbl:BelowD (putRowK encA 3 (Sort.ahead w n) q 0 (srtA xa).toArray).heap.size (putRowK encA 3 (Sort.ahead w n) q 0 (srtA xa).toArray) (sortWorldK encA 3 w q 0 n (srtA xa).toArray os) :=
    ⟨⟨rfl,rfl,rfl,by simp [sortWorldK,Sort.grow],fun b hb=>by
     show ((putRowK encA 3 (Sort.ahead w n) q 0 (srtA xa).toArray).heap++os)[b]?=_
     rw [Array.getElem?_append_left hb]⟩,Nat.le_refl _⟩
   have x2:=Ext.grow r1 hbl (fun _ h=>h) (fun _ h=>.inl h)
   have r2:=r1.grow hbl (fun _ h=>h) (fun _ h=>.inl h)
   exact ⟨_,_,β,S,_,rfl,⟨rfl,rfl⟩,r2,x1.trans x2,.tup [] [] rfl (fun i x y h=>by simp at h)⟩
end Go.AM
namespace Go.Proofs
open Go.Shelf
shelf_lay_g SlLaysF0.n6 Slsf 6 at Tryz 129 as Tryz.sortA
end Go.Proofs
namespace Go.AM
theorem zxP (a b:Acc) :∃ (r:Int),r=cfA a b/\zab E0 S.AO [a.av,b.av] [] (iv r) []:=by
 exact ⟨orI [cmpS a.tab b.tab,cmpS a.col b.col,cmpI a.mode b.mode],Zr,(by (try simp only [zsl,Acc.cells]);exact wk At.AO [sd [(4,[sc (zfS a.tab b.tab)]),(9,[sc (zfS a.col b.col)]),(14,[sc (zob a.mode b.mode)]),(16,[sc (ztG ([cmpS a.tab b.tab,cmpS a.col b.col,cmpI a.mode b.mode]) (by first|assumption|omega|(simp;done)|(simp;omega)))])]] kr)⟩
theorem zgj (a b:Acc):zab E0 S.AO [a.av,b.av] [] (iv (cfA a b)) []:=by
 obtain ⟨r,rfl,h⟩:=zxP a b
 exact h
theorem ziE (xa:List Acc) (hl:xa.length<=1000000000):zab E0 S.Cz [.own 0 xa.length,.fn S.AO []] [.row Ty.Access (xa.map Acc.cells) false] (.tup []) [.row Ty.Access ((srtA xa).map Acc.cells) false] :=
 zBo At.Cz kr kr
  (fun a w=>Go.Proofs.AnyF.slices_SortFunc_none { Go.Proofs.Tryz.sortA with } a 0 _ w)
  ⟨_,At.AO,by kernel_rfl,by kernel_rfl⟩ zgj
  (fun q cap d w hcl hH hq hsz=>Go.Proofs.AnyQ.slices_SortFunc_total Go.Proofs.Tryz.sortA 3 (fun w=>by kernel_rfl) (fun w=>by kernel_rfl) encA zis zoy cfA swoA S.AO #[] q 0 cap d w (Go.Proofs.enters_of At.AO kr rfl) hcl hH hq hsz totA) kr xa hl
noncomputable def zmH (gi:Nat) (o:List Acc):Cfg:=zan B.AE 0 [(9,itp gi),(3,.own 0 o.length)] [.row Ty.Access (o.map Acc.cells) false]
noncomputable def zAr (gi:Nat) (o:List Acc) (a:Acc):Cfg:=nxtK (nxtK (ziU (zmH gi o)) (orcs []) (.tup [.bl true,a.av,bv true])) (orcs []) (.tup [a.av,bv true])
noncomputable def zvb (gi:Nat) (o:List Acc) (a:Acc):Cfg:=zan B.AE 0 [(9,itp gi),(3,.own 0 (o.map Acc.cells++[a.cells]).length)] [.row Ty.Access (o.map Acc.cells++[a.cells]) false]
theorem zv4 (gi:Nat) (o:List Acc) (a:Acc):zvb gi o a=zmH gi (o++[a]):=by
 unfold zvb zmH
 rw [show (o++[a]).map Acc.cells=o.map Acc.cells++[a.cells] by simp,show (o.map Acc.cells++[a.cells]).length=(o++[a]).length by simp]
theorem at_itA {L:List Acc} {j:Nat} {kx x:AV} (h:(L.map itA)[j]?=some (kx,x)):∃ a,L[j]?=some a/\kx=a.av/\x=bv true:=by
 rw [List.getElem?_map,Option.map_eq_some_iff] at h
 obtain ⟨p,h1,h2⟩:=h
 cases h2
 exact ⟨p,h1,rfl,rfl⟩
theorem zyo {ks:List Acc} (hks:AccS ks):∀ (n:Nat) (L o:List Acc) (cur:Option (AV × AV)) (gm gi:Nat),L.length=n->o.length+L.length<=1000000000->(o++L).Perm ks->zbJ E0 B.AE [] [gm,gi] (ItF gm gi (L.map itA) cur) (zmH gi o) (Shut 0 fun r h=>r=.sl (ks.map Acc.cells)/\h=[]):=by
 intro n
 induction n with
 | zero =>
  intro L o cur gm gi hL hlen hp
  cases L with
  | cons _ _=>simp at hL
  | nil =>
   rw [List.append_nil] at hp
   have e:=zBq hks hp
   rw [← e]
   have hc:=ziE o (by simpa using hlen)
   refine zmY (wkN [] kr (fun _=>zzP ?_) (fun j kx x hj=>by simp at hj))
   exact wkr [sqx (o.length=(List.map Acc.cells (srtA o)).length) (by rw [List.length_map,zoQ]),sl [0] hc] kr
 | succ n ih =>
  intro L o cur gm gi hL hlen hp
  refine zmY (wkN [] kr (fun h0=>?_) (fun j kx x hj=>?_))
  ·cases L with
   | nil=>simp at hL
   | cons _ _=>simp at h0
  ·obtain ⟨a,ha,rfl,rfl⟩:=at_itA hj
   have hj2:j < L.length:=(List.getElem?_eq_some_iff.1 ha).1
   have hle:(L.eraseIdx j).length=n:=by rw [List.length_eraseIdx,if_pos hj2];omega
   have me:(L.map itA).eraseIdx j=(L.eraseIdx j).map itA:=by
    clear hp ih hL hlen hle hj ha hj2
    induction L generalizing j with
    | nil=>rfl
    | cons b l ihl=>cases j with
     | zero=>rfl
     | succ j=>simp [ihl]
   rw [me]
   have hp2:((o++[a])++L.eraseIdx j).Perm ks:=by
    have h1:=zlD L j a ha
    rw [List.append_assoc]
    exact (List.Perm.append_left o h1.symm).trans hp
   have ih:=ih (L.eraseIdx j) (o++[a]) (some (a.av,bv true)) gm gi hle Zp hp2
   refine wkE2 [] kr ?_
   show zbJ E0 B.AE [] [gm,gi] _ (zAr gi o a) _
   rw [← zv4] at ih
   exact wkFl [sqA (List.map Acc.cells o) [a.cells] o.length 3 40 ⟨⟨fun c hc=>by simp only [List.mem_singleton] at hc;subst hc;rfl⟩,by simp,by show ((List.map Acc.cells o).length+1) * 40<=140737488355328;rw [List.length_map];omega⟩] [9,3] 1 kr ih
theorem zdU (tbs:AV) (ks:List Acc) (hks:AccS ks) (hl:ks.length<=1000000000):zab E0 S.AE [.p 0 0] [.box [tbs,.mp 1],.mp (ks.map itA)] (.sl (ks.map Acc.cells)) [.box [tbs,.mp 1],.mp (ks.map itA)]:=by
 have h:=wkRL (f:=S.AE) (fn:=B.AE) (args:=[.p 0 0]) (h:=[.box [tbs,.mp 1],.mp (ks.map itA)]) (R:=fun r h=>r=.sl (ks.map Acc.cells)/\h=[]) (kt:=Ty.Access) (et:=Ty.bool) (es:=ks.map itA) Ty.M_Access_bool At.AE [] [3] 1 kr kr kr (fun gm gi=>?_)
 ·exact h.mono fun r h' ⟨⟨h1,_⟩,h2⟩=>⟨h1,h2⟩
 ·refine wkFl (c':=zan B.AE 0 [(9,itp gi),(3,.nl)] []) [] [9,3] 0 kr ?_
  refine ztw 3 Ty.Access [9,3] 1 kr kr (show _=zmH gi [] from by kernel_rfl) ?_
  exact zyo hks ks.length ks [] none gm gi rfl (by simpa using hl) Zs
noncomputable def zvZ (s:Sch) (n:Str) (i:Nat) :Cfg:=zan B.Bk 0 [(1,sv n),(8,.sl (s.cols.map Col.cells)),(9,iv ((s.cols.map Col.cells).length:Nat)),(10,iv (i:Nat))] [.box s.cells]
theorem zll (s:Sch) (n:Str) (h:zac s.cols) (i:Nat)  (hi:i<=(s.cols).length) (hI:idxF (fun c=>colC c n) s.cols 0=idxF (fun c=>colC c n) (s.cols.drop i) i):((idxF (fun c=>colC c n) s.cols 0=idxF (fun c=>colC c n) (s.cols.drop (s.cols).length) (s.cols).length)/\(decide ((((s.cols).length:Nat):Int) < (((s.cols.map Col.cells).length:Nat):Int))=false)/\∀ R,Good E0 B.Bk [] (zvZ s n (s.cols).length ) R->Good E0 B.Bk [] (zvZ s n i ) R)\/(∃ (r:Int),r=idxF (fun c=>colC c n) s.cols 0/\Good E0 B.Bk [] (zvZ s n i ) (Shut 0 fun rZ hZ=>rZ=(iv r)/\hZ=[])):=by
 have hk:=hi;revert i;refine zlp ((s.cols).length) (fun i hlt ih hi hI _=>?_)
 obtain ⟨x,hx,h0,hw⟩:=zlq (l:=s.cols) ((s.cols.map Col.cells).length) hlt
 let p_1:List St:=[sb h0,se (zai Col.cells hx rfl)]
 cases h1:ByteArray.toList x.name==ByteArray.toList n
 ·exact zie2 (ih Zo (by exact zvt hI hx ‹_›) Zo) fun R gY=>zaa (wkl (p_1++[sb h1,si hw]) [1,8,9,10] 1 kr gY)
 ·exact .inr ⟨(i:Int),(by exact zyj hI hx ‹_›),zaa (wkr (p_1++[sb h1]) kr)⟩
theorem zuI (s:Sch) (n:Str) (hs:zac s.cols):∃ (r:Int),r=idxF (fun c=>colC c n) s.cols 0/\zab E0 S.Bk [s.av,sv n] [] (iv r) []:=by
 rcases zll s n Za 0 Za Za with ⟨q1,q1_1,g1⟩|⟨r1_0,p1_0,g1⟩
 ·exact ⟨-1,(by first|assumption|exact zpx ‹_›),wkc At.Bk [] [1,8,9,10] 1 kr (g1 _ (zaa (wkr [sb q1_1] kr)))⟩
 ·exact ⟨r1_0,(by first|assumption|exact zpx ‹_›),wkc At.Bk [] [1,8,9,10] 1 kr (g1)⟩
theorem zuQ (s:Sch) (n:Str) (hs:zac s.cols):zab E0 S.Bk [s.av,sv n] [] (iv (idxF (fun c=>colC c n) s.cols 0)) []:=by
 obtain ⟨r,rfl,h⟩:=zuI s n hs
 exact h
structure ColV (s:Sch) (i:Nat) (x:Col):Prop where
 name:(!zqs x.name)=false
 lo:decide (x.type < 1)=false
 hi:decide ((3:Int) < x.type)=false
 key:x.key=true->x.notNull=true
 at_:(idxF (fun c=>colC c x.name) s.cols 0 != ((i:Nat):Int))=false
structure SchV (s:Sch):Prop where
 name:(!zqs s.name)=false
 lo:decide (((s.cols.map Col.cells).length:Int) < 1)=false
 hi:decide ((6:Int) < ((s.cols.map Col.cells).length:Int))=false
 cols:∀ i x,s.cols[i]?=some x->ColV s i x
 keys:s.cols.countP (fun c=>c.key)<=1
theorem SchV.short {s:Sch} (h:SchV s):zac s.cols:=by have:=h.hi;simp only [List.length_map,decide_eq_false_iff_not] at this;simp only [zac];omega
structure TabV (t:Tb):Prop where
 sch:SchV t.sch
 len:decide ((100:Int) < ((t.rows.map Rw.cells).length:Int))=false
 rows:RowsV t.sch t.next t.rows
 max:decide ((2147483648:Int) < t.next)=false
 key:idxF (fun c=>c.key) t.sch.cols 0=keyC t.sch
theorem TabV.shr {t:Tb} (h:TabV t):zac t.rows:=by have:=h.len;simp only [List.length_map,decide_eq_false_iff_not] at this;simp only [zac];omega
theorem TabV.vals {t:Tb} (h:TabV t):∀ r∈t.rows,zac r.vals:=fun r hr=>by
 have h1:=(h.rows.fit r hr).len
 have h2:=h.sch.short
 have h3:r.vals.length=t.sch.cols.length:=h1
 simp only [zac] at *;omega
structure RowF (t:Tb) (x:Rw):Prop where
 lo:decide (x.id < 1)=false
 hi:decide (t.next<=x.id)=false
 fit:zab E0 S.Dg [t.sch.av,vsl x.vals] [] (iv 0) []
def zss (s:Sch):List Pr->Int
 | []=>0
 | p::r=>bif fit5 s p.nw != 0 then fit5 s p.nw else zss s r
def zsr (s:Sch):List (List V)->Int
 | []=>0
 | p::r=>bif fit5 s p != 0 then fit5 s p else zsr s r
def midS (c:Ch) (r:Rw):Option Rw:=bif anyI c.del r.id then none else some ⟨r.id,bif (fnd7 r.id c.upd).2 then (fnd7 r.id c.upd).1 else r.vals⟩
def midR (c:Ch) (l:List Rw):List Rw:=l.filterMap (midS c)
def insN:Int->List (List V)->List Rw
 | _,[]=>[]
 | n,v::r=>⟨n,v⟩::insN (n+1) r
def apT (t:Tb) (c:Ch):Tb:=⟨t.sch,t.next+(c.ins.length:Int),midR c t.rows++insN t.next c.ins⟩
abbrev zxC (t:Tb) (c:Ch):List V:=keysOf (idxF (fun z=>z.key) t.sch.cols 0) (midR c t.rows++insN t.next c.ins)
structure ApQ (t:Tb) (c:Ch) (x:Tb) (g:Int):Prop where
 ok:g=0->x=apT t c/\zss t.sch c.upd=0/\zsr t.sch c.ins=0/\(zxC t c).Nodup
 err:g=0\/g=9\/g=10\/g=zss t.sch c.upd\/g=zsr t.sch c.ins
 good:zss t.sch c.upd=0->zsr t.sch c.ins=0->(midR c t.rows).length+c.ins.length<=100->(c.ins.length:Int)<=2147483648 - t.next->(zxC t c).Nodup->g=0
section
variable {t x : Tb} {c : Ch} {g nx : Int} {rs rs' : List Rw} {b : Bool}
end
abbrev insT (t:Tb) (ins:List (List V)):Tb:=⟨t.sch,t.next+(ins.length:Int),t.rows++insN t.next ins⟩
end Go.AM
namespace Go.AM
theorem wkcK {f:FuncId} {fn:Func} {args:List AV} {h:Heap} {R:AV->Heap->Prop} {c':Cfg} (hf:E0.P.funcs[f]?=some fn) (l:List St) (live:List Nat) (m:Nat) (hu:zl3 fn args h live m (orcs l)=some (zbg l,c'))
  (hg:Good E0 fn h c' R):zcd E0 f args h R:=by
 unfold zl3 at hu
 split at hu
 ·rename_i c hb hn ha hm
  exact zyf E0ok mix0 hf hb hn ha 3000 l live m hm (Option.some.inj hu) hg
 ·cases hu
theorem zsR {f:FuncId} {fn:Func} {args:List AV} {h:Heap} {R:AV->Heap->Prop} {c':Cfg} (hf:E0.P.funcs[f]?=some fn) (l:List St) (live:List Nat) (m:Nat) (k:List (Ct × Nat)) (hu:zqq fn args h live m k (orcs l)=some (zbg l,c'))
  (hg:Good E0 fn h c' R):zcd E0 f args h R:=by
 unfold zqq at hu
 split at hu
 ·rename_i q c1 h1
  unfold zl3 at h1
  split at h1
  ·rename_i c hb hn ha hm
   obtain ⟨q2,h2⟩:=zkJ hu
   have h3:=zaZ l
   have h4:allP q:=by
    rw [h2] at h3
    exact (zdg h3).1
   exact zaY hf hb hn (Nat.le_of_ble_eq_true ha) (znr hm (Option.some.inj h1) h4 (zpq hu h3 hg))
  ·cases h1
 ·cases hu
theorem wkrK {fn:Func} {h0:Heap} {c:Cfg} {r:AV} {H:Heap} (l:List St) (hfin:finK (mk E0) fn 3000 c (orcs l)=some (zbg l,r,H)):Good E0 fn h0 c (fun y h=>y=r/\h=H) :=
 zdn E0ok mix0 3000 l hfin ⟨rfl,rfl⟩
end Go.AM
namespace Go.Proofs
open Go.Shelf
shelf_lay_g Lays8.n4 Nm8 4 at Tryz 200 as Tryz.growT
end Go.Proofs
namespace Go.AM
open Go.Shelf Go.RowKit Go.Lib
theorem zwL {w:World} (o:Obj):BelowD w.heap.size w (w.drew.alloc o):=(BelowD.refl _ w).drew.alloc (Nat.le_refl _) o
theorem zmx (n:Nat) (hn:n<=1000000):zab E0 S.Cy [.nl,iv (n:Int)] [] (.own 0 0) [.row Ty.Table [] false]:=by
 intro β S w vs r hp
 obtain ⟨hl,hv⟩:=hp
 match vs,hl,hv with
 | [v1,v2],_,hv =>
  have h1:=hv 0 .nl v1 rfl rfl
  have h2:=hv 1 (iv (n:Int)) v2 rfl rfl
  obtain ⟨a,rfl⟩:∃ a,v1=.slice a 0 0:=by
   cases h1 with
   | d _ _ h=>cases h
   | nl a=>exact ⟨a,rfl⟩
  obtain rfl:v2=.int .i64 (n:Int):=by
   cases h2 with
   | d _ _ h=>cases h with|v _ _=>rfl
  refine .inl ⟨⟨_,At.Cy,by kernel_rfl,by kernel_rfl⟩,?_⟩
  have hb0:β.length=0:=r.len
  have hβ:β=[]:=List.length_eq_zero_iff.1 hb0
  subst hβ
  rcases Nat.eq_zero_or_pos n with h0|hpos
  ·subst h0
   have hc:=Go.Proofs.Any8.slices_Grow_room Go.Proofs.Tryz.growT a 0 0 0 w (Nat.le_refl _) Zo Zo Zo
   refine Calls.mono (P:=E0.P) hc ?_
   rintro e w' ⟨rfl,rfl⟩
   obtain ⟨x,r'⟩:=r.newRow Ty.Table [] false (.nil a) (BelowD.refl _ _) (fun g hg=>by cases hg) rfl
   exact ⟨_,_,_,_,_,rfl,⟨rfl,rfl⟩,r',x,.own 0 0 _ Ty.Table [] false rfl (Nat.le_refl _) (fun _=>rfl) rfl⟩
  ·obtain ⟨i,d,z,tok⟩:=E0ok.at_ (t:=Ty.Table) (by
    intro h
    have:(E0.T Ty.Table).size=4:=by kernel_rfl
    rw [h] at this;cases this)
   have hs:(E0.T Ty.Table).size=4:=by kernel_rfl
   have hby:(E0.T Ty.Table).bytes<=1000:=Nat.le_of_ble_eq_true kr
   have hbytes:n * i.bytes<=140737488355328:=by
    rw [tok.bytes]
    exact Nat.le_trans (Nat.mul_le_mul hn hby) Zo
   have hc:=Go.Proofs.Any8.slices_Grow_grow Go.Proofs.Tryz.growT i z tok.info tok.zero (by rw [tok.size,hs];omega) a 0 0 n [] w (Nat.le_refl _) Zo (by rw [Nat.zero_add];exact hbytes) Zo Zs (fun _=>rfl) (fun _ _ j v h=>by simp at h)
   have hc2:Calls E0.P Go.AM.S.Cy #[.slice a 0 0,.int .i64 (n:Int)] w fun e w'=>e=.returned (.slice (some ⟨w.heap.size,0,none⟩) 0 (grownCap w (0+n) 0 Ty.Table))/\w'=w.drew.alloc (.cells (([]:List Value).toArray++Builtin.zeroCells z.cells (0+n - 0)++Builtin.zeroCells z.cells (grownCap w (0+n) 0 Ty.Table - (0+n))) Ty.Table):=hc
   refine Calls.mono (P:=E0.P) hc2 ?_
   rintro e w' ⟨rfl,rfl⟩
   have hge:=grownCap_ge w (0+n) 0 Ty.Table
   have hle:=grownCap_le_maxLen w (0+n) 0 Ty.Table (by unfold maxLen;omega)
   have hzl:z.cells.size=(E0.T Ty.Table).size:=by
    have:=(zdQ (T:=E0.T) (h:=([]:Heap)) (β:=[]) (w:=w) (S:=S) _ _ tok.zok).1
    rw [Array.length_toList] at this
    rw [← this,tok.zlen]
   have hsz:(([]:List Value).toArray++Builtin.zeroCells z.cells (0+n - 0)++Builtin.zeroCells z.cells (grownCap w (0+n) 0 Ty.Table - (0+n))).size=grownCap w (0+n) 0 Ty.Table * (E0.T Ty.Table).size:=by
    simp only [Array.size_append,List.size_toArray,size_zeroCells,hzl,List.length_nil,Nat.zero_add,← Nat.add_mul]
    congr 1
    simp only [Nat.zero_add] at hge
    omega
   obtain ⟨x,r'⟩:=r.newRow Ty.Table [] false (.row w.heap.size (grownCap w (0+n) 0 Ty.Table)) (zwL _) (fun g hg=>by cases hg;exact ⟨Nat.le_refl _,by simp⟩)
    ⟨_,heap_alloc_new w.drew (.cells (([]:List Value).toArray++Builtin.zeroCells z.cells (0+n - 0)++Builtin.zeroCells z.cells (grownCap w (0+n) 0 Ty.Table - (0+n))) Ty.Table),Nat.zero_le _,by omega,hle,hsz,by simp,by simp⟩
   exact ⟨_,_,_,_,_,rfl,⟨rfl,rfl⟩,r',x,.own 0 0 _ Ty.Table [] false rfl (Nat.le_refl _) (fun _=>rfl) rfl⟩
end Go.AM
namespace Go.AM
theorem zoJ (i:Nat):zab E0 S.CF [iv (i:Nat)] [] (X.av (xLit ⟨1,i,⟨#[]⟩⟩)) [] :=
 ztb i (by rw [decide_eq_false_iff_not];omega)
theorem zx9 (a b:List AV) (h:b.length=1):ElAt [a,b] ((0+1:Nat):Int) b 1:=⟨by decide,rfl,h⟩
noncomputable def L_dlR (l:List Rw) (i:Nat) (out:List Rw):Cfg:=zan B.BF 0 [(1,.fn S.CL []),(5,.own 0 out.length),(8,.sl ((l).map Rw.cells)),(9,iv (((l).map Rw.cells).length:Nat)),(10,iv (i:Nat))] [.row Ty.Row ((out).map Rw.cells) false]
theorem Zcv6 {p:Prop} (h:p:=by first|rfl|(simp;done)|(simp [X.cells,Qy.cells,V.cells,Col.cells,Rw.cells,Tb.cells,Fr.cells,Sch.cells,Tp.cells,Pl.cells,xCol,xLit,xBin,xNeg,Ac.cells,Se.cells,Pr.cells,Ch.cells,Rw.cells];done)):p:=h
theorem zgk (l:List Rw) (hl:zac l) (hf:∀ x∈l,zab E0 S.CL [.agg x.cells] [] (.agg x.cells) []) (i:Nat) (out:List Rw) (hi:i<=(l).length) (hI:out=l.take i):∃ (out':List Rw),(out'=l.take (l).length)/\(decide ((((l).length:Nat):Int) < ((((l).map Rw.cells).length:Nat):Int))=false)/\∀ R,Good E0 B.BF [] (L_dlR l (l).length out') R->Good E0 B.BF [] (L_dlR l i out) R:=by
 have hk:=hi;revert i out;refine zlp ((l).length) (fun i hlt ih out hi hI _=>?_)
 obtain ⟨x,hx,h0,hw⟩:=zlq (l:=l) (((l).map Rw.cells).length) hlt
 have hfx:=hf x (List.mem_of_getElem? hx)
 have ho:out.length<=1000000000:=by rw [hI,List.length_take];simp only [zac] at hl;omega
 exact Zih (ih (out++[x]) Zo (by rw [List.take_add_one,hx,hI];rfl) Zo) fun R gY=>zaa (wkl [sb h0,se (zai Rw.cells hx rfl),sc hfx,sqA (List.map Rw.cells out) [[iv x.id,vsl x.vals]] out.length 2 32,si hw] [1,5,8,9,10] 1 kr (zaE 5 0 (List.map Rw.cells out++[[iv x.id,vsl x.vals]]) gY (he:=Zcv6) (hm:=Zcv6)))
theorem zml (l:List Rw) (hl:zac l) (hf:∀ x∈l,zab E0 S.CL [.agg x.cells] [] (.agg x.cells) []):∃ (r:List Rw),r=l/\zab E0 S.BF [.sl ((l).map Rw.cells),.fn S.CL []] [] (.sl ((r).map Rw.cells)) []:=by
 obtain ⟨out1,q1,q1_1,g1⟩:=zgk l Za Za 0 ([]) Za Za
 exact ⟨out1,(by first|assumption|(rw [List.take_length] at *;assumption)),wkcN At.BF [] [1,5,8,9,10] 0 [(.ot 5 Ty.Row,1)] kr (g1 _ (zaa (wkr [sqx (out1.length=(List.map Rw.cells out1).length),sb q1_1] kr)))⟩
theorem zmr (l:List Rw) (hl:zac l) (hf:∀ x∈l,zab E0 S.CL [.agg x.cells] [] (.agg x.cells) []):zab E0 S.BF [.sl ((l).map Rw.cells),.fn S.CL []] [] (.sl ((l).map Rw.cells)) []:=by
 obtain ⟨r,rfl,h⟩:=zml l hl hf
 exact h
def vNul:V:=⟨0,0,⟨#[]⟩⟩
abbrev vCnt (n:Nat):V:=⟨1,(n:Int),⟨#[]⟩⟩
structure LogIn (t:Tb) (r:List Tb):Prop where
 sch:t.sch=zlc
 tab:∀ x∈t::r,TabV x
 to:TbOk (t::r)
 tg:TbG (t::r)
 ml:(t::r).length<=1000
structure SeesIn (m:List Tb):Prop where
 ex:∃ t r,m=t::r/\LogIn t r/\t.rows.length<=5/\t.next<=3000
def hdT (m:List Tb):Tb:=m.headD tbNull
abbrev newR (m:List Tb) (rows:List (List X)):List (List V):=List.replicate rows.length [vCnt (hdT m).rows.length,vNul]
structure SeesRows (rows:List (List X)):Prop where
 rep:rows=List.replicate rows.length [xLit vNul,xLit vNul]
 lo:1<=rows.length
 hi:rows.length<=5
structure SeesOut (m:List Tb) (rows:List (List X)) (m2:List Tb):Prop where
 len:m2.length=m.length
 at_:m2[0]?=some (insT (hdT m) (newR m rows))
theorem SeesIn.short {m:List Tb} (h:SeesIn m):zac m:=by
 obtain ⟨t,r,rfl,h1,_⟩:=h.ex;exact h1.to.len
theorem SeesIn.pos {m:List Tb} (h:SeesIn m):0 < m.length:=by
 obtain ⟨t,r,rfl,_⟩:=h.ex;simp
theorem SeesOut.hd {m m2:List Tb} {rows:List (List X)} (h:SeesOut m rows m2):hdT m2=insT (hdT m) (newR m rows):=by
 have h1:=h.at_
 cases m2 with
 | nil=>simp at h1
 | cons a r=>simp only [List.getElem?_cons_zero,Option.some.injEq] at h1;exact h1
theorem SeesOut.pos {m m2:List Tb} {rows:List (List X)} (h:SeesOut m rows m2):0 < m2.length:=by
 have h1:=h.at_
 cases m2 with
 | nil=>simp at h1
 | cons a r=>simp
abbrev sUu:Str:=⟨#[117]⟩
abbrev schU2:Sch:=zaj sUu
structure RowU (row:List V):Prop where
 ok:zgX schU2.cols row
theorem zeb {p:Prop} (h:p:=by first|assumption|omega|(simp;done)|(simp;omega)):p:=h
theorem zlW {p:Prop} (h:p:=by (simp only [zbZ,cond_true,cond_false, *] <;> rfl)):p:=h
structure Dl where
 table:Str
 ins:List Rw
 del:List Rw
 upd:List Pr
def Dl.cells (d:Dl):List AV:=[sv d.table,.sl (d.ins.map Rw.cells),.sl (d.del.map Rw.cells),.sl (d.upd.map Pr.cells)]
abbrev Dl.av (d:Dl):AV:=.agg d.cells
structure Itm where
 name:Str
 row:Int
 old:List V
 nw:List V
def Itm.cells (i:Itm):List AV:=[sv i.name,iv i.row,vsl i.old,vsl i.nw]
abbrev Itm.av (i:Itm):AV:=.agg i.cells
theorem zwr (t:Tg) (s:Sch) (a b:List V) (hs:zac s.cols) (ha:zac a) (hb:zac b):∃ (r:List Fr),r=zbZ t s a b/\zab E0 S.By [t.av,s.av,vsl a,vsl b] [] (fsl r) []:=by
 cases h1:!t.each
 ·cases h2:t.event==2
  ·cases h3:t.event==3
   ·cases h4:t.event==1
    ·exact ⟨[],zlW,wk At.By [sb h1,sg h2,sb h3,sg h4,sb h2] kr⟩
    ·exact ⟨[Fr.mk ZsN true s.cols b],zlW,(by (try simp only [zsl,xCol,xLit,xBin,xNeg,Ac.cells,Se.cells,Pr.cells,Ch.cells,Rw.cells,Dl.cells,Itm.cells]);exact wk At.By [sqx (1=1),sb h1,sg h2,sb h3,sb h4,sc (zbn s.cols zeb),sc (zbH b zeb),sqx (True/\True/\s.cols.length=(List.map Col.cells s.cols).length/\b.length=(List.map V.cells b).length/\True),sqx (AllLen [[sv ZsN,bv true,ZC s.cols,vsl b]] 4/\Nat.le 72 140737488355328)] kr)⟩
   ·cases h5:t.event==1
    ·exact ⟨[Fr.mk ZsO true s.cols a],zlW,(by (try simp only [zsl,xCol,xLit,xBin,xNeg,Ac.cells,Se.cells,Pr.cells,Ch.cells,Rw.cells,Dl.cells,Itm.cells]);exact wk At.By [sqx (1=1),sb h1,sg h2,sb h3,sc (zbn s.cols zeb),sc (zbH a zeb),sqx (True/\True/\s.cols.length=(List.map Col.cells s.cols).length/\a.length=(List.map V.cells a).length/\True),sqx (AllLen [[sv ZsO,bv true,ZC s.cols,vsl a]] 4/\Nat.le 72 140737488355328),sg h5,sb h2] kr)⟩
    ·exact ⟨[Fr.mk ZsO true s.cols a,Fr.mk ZsN true s.cols b],zlW,(by (try simp only [zsl,xCol,xLit,xBin,xNeg,Ac.cells,Se.cells,Pr.cells,Ch.cells,Rw.cells,Dl.cells,Itm.cells]);exact wk At.By [sqx (2=2),sb h1,sg h2,sb h3,sc (zbn s.cols zeb),sc (zbH a zeb),sqx (True/\True/\s.cols.length=(List.map Col.cells s.cols).length/\a.length=(List.map V.cells a).length/\True),sqx (AllLen [[sv ZsO,bv true,ZC s.cols,vsl a]] 4/\Nat.le 72 140737488355328),sb h5,sc (zbn s.cols zeb),sc (zbH b zeb),sqx (True/\True/\s.cols.length=(List.map Col.cells s.cols).length/\b.length=(List.map V.cells b).length/\True),sqx (AllLen [[sv ZsN,bv true,ZC s.cols,vsl b]] 4/\1=1/\Nat.le 144 140737488355328)] kr)⟩
  ·let p_1:List St:=[sqx (2=2),sb h1,sb h2,sc (zbn s.cols zeb),sc (zbH a zeb),sqx (True/\True/\s.cols.length=(List.map Col.cells s.cols).length/\a.length=(List.map V.cells a).length/\True),sqx (AllLen [[sv ZsO,bv true,ZC s.cols,vsl a]] 4/\Nat.le 72 140737488355328)]
   cases h6:t.event==1
   ·exact ⟨[Fr.mk ZsO true s.cols a,Fr.mk ZsN true s.cols b],zlW,(by (try simp only [zsl,xCol,xLit,xBin,xNeg,Ac.cells,Se.cells,Pr.cells,Ch.cells,Rw.cells,Dl.cells,Itm.cells]);exact wk At.By (p_1++[sg h6,sb h2,sc (zbn s.cols zeb),sc (zbH b zeb),sqx (True/\True/\s.cols.length=(List.map Col.cells s.cols).length/\b.length=(List.map V.cells b).length/\True),sqx (AllLen [[sv ZsN,bv true,ZC s.cols,vsl b]] 4/\1=1/\Nat.le 144 140737488355328)]) kr)⟩
   ·exact ⟨[Fr.mk ZsO true s.cols a,Fr.mk ZsN true s.cols b],zlW,(by (try simp only [zsl,xCol,xLit,xBin,xNeg,Ac.cells,Se.cells,Pr.cells,Ch.cells,Rw.cells,Dl.cells,Itm.cells]);exact wk At.By (p_1++[sb h6,sc (zbn s.cols zeb),sc (zbH b zeb),sqx (True/\True/\s.cols.length=(List.map Col.cells s.cols).length/\b.length=(List.map V.cells b).length/\True),sqx (AllLen [[sv ZsN,bv true,ZC s.cols,vsl b]] 4/\1=1/\Nat.le 144 140737488355328)]) kr)⟩
 ·exact ⟨[],zlW,wk At.By [sb h1] kr⟩
abbrev cc3 (tb ex:List Tb):List (List AV):=[[tsl tb],[tsl ex]]
noncomputable def L_ez (tb ex:List Tb) (i:Nat) (sz:Int):Cfg:=zan B.AQ 0 [(0,.sl (cc3 tb ex)),(3,iv sz),(9,.sl (cc3 tb ex)),(10,iv ((cc3 tb ex).length:Nat)),(11,iv (i:Nat))] []
theorem zcq (tb ex:List Tb) (i:Nat) (sz:Int):True/\∀ R,Good E0 B.AQ [] (L_ez tb ex i sz) R->Good E0 B.AQ [] (L_ez tb ex i sz) R:=⟨trivial,fun _ h=>h⟩
noncomputable def L_eb (tb ex:List Tb) (i:Nat) (xs:List Tb):Cfg:=zan B.AQ 1 [(6,.own 0 xs.length),(25,.sl (cc3 tb ex)),(26,iv ((cc3 tb ex).length:Nat)),(27,iv (i:Nat))] [.row Ty.Table (xs.map Tb.cells) false]
theorem zcp (tb ex:List Tb) (i:Nat) (xs:List Tb):True/\∀ R,Good E0 B.AQ [] (L_eb tb ex i xs) R->Good E0 B.AQ [] (L_eb tb ex i xs) R:=⟨trivial,fun _ h=>h⟩
theorem Zcv5 {p:Prop} (h:p:=by first|rfl|(simp;done)|(simp [X.cells,Qy.cells,V.cells,Col.cells,Rw.cells,Tb.cells,Fr.cells,Sch.cells,Tp.cells,Pl.cells,xCol,xLit,xBin,xNeg,Ac.cells,Se.cells,Pr.cells,Ch.cells,Rw.cells,Dl.cells,Itm.cells];done)):p:=h
theorem zxI (tb ex:List Tb) (hl:tb.length<=1000) (hle:ex.length<=1000) (w1:IntKind.i64.wrap (0+((tb.map Tb.cells).length:Int))=((tb.length:Nat):Int)) (w2:IntKind.i64.wrap (((tb.length:Nat):Int)+((ex.map Tb.cells).length:Int))=((tb.length+ex.length:Nat):Int)) (w3:decide (((tb.length:Nat):Int) < 0)=false) (w4:decide (((tb.length+ex.length:Nat):Int) < 0)=false):∃ (r:List Tb),r=tb++ex/\zab E0 S.AQ [.sl (cc3 tb ex)] [] (tsl r) []:=by
 obtain ⟨q1,g1⟩:=zcq tb ex 0 (0)
 obtain ⟨q2,g2⟩:=zcq tb ex (0+1) ((tb.length:Int))
 obtain ⟨q3,g3⟩:=zcq tb ex (0+1+1) ((↑(tb.length+ex.length):Int))
 obtain ⟨q4,g4⟩:=zcp tb ex 0 ([])
 obtain ⟨q5,g5⟩:=zcp tb ex (0+1) ([]++tb)
 obtain ⟨q6,g6⟩:=zcp tb ex (0+1+1) ([]++tb++ex)
 exact ⟨[]++tb++ex,(by first|rfl|(simp;done)),wkc At.AQ [] [0,3,9,10,11] 0 kr (g1 _ (zaa (wkl [sb Zt,se (xs:=[[tsl tb],[tsl ex]]) (i:=0) (c:=[tsl tb]) (n:=1) ⟨by decide,rfl,rfl⟩,si w1,sb Zf,si (zaU (t:=(↑0:Int)+1) (n:=0+1) Zo Zo)] [0,3,9,10,11] 0 kr (g2 _ (zaa (wkl [sb Zt,se (zx9 ([tsl tb]) ([tsl ex]) Za),si w2,sb Zf,si (zaU (t:=(↑(0+1):Int)+1) (n:=0+1+1) Zo Zo)] [0,3,9,10,11] 0 kr (g3 _ (zaa (wkl [sb Zf,sln [] (zmx (tb.length+ex.length) Za)] [6,25,26,27] 1 kr (g4 _ (zaa (wkl [sb Zt,se (xs:=[[tsl tb],[tsl ex]]) (i:=0) (c:=[tsl tb]) (n:=1) ⟨by decide,rfl,rfl⟩,sqx (AllLen (List.map Tb.cells tb) 4/\0=0/\((([]:List (List AV)).length+(List.map Tb.cells tb).length) * 72).le 140737488355328),si (zaU (t:=(↑0:Int)+1) (n:=0+1) Zo Zo)] [6,25,26,27] 1 kr (zaR (show ([(6,AV.own 0 ([]++List.map Tb.cells tb).length),(25,AV.sl [[tsl tb],[tsl ex]]),(26,iv (↑[[tsl tb],[tsl ex]].length:Int)),(27,iv (↑(0+1):Int))]:TS)=_ from Zcv5) rfl (g5 _ (zaa (wkl [sb Zt,se (zx9 ([tsl tb]) ([tsl ex]) Za),sqx (AllLen (List.map Tb.cells ex) 4/\([]++tb).length=(List.map Tb.cells ([]++tb)).length/\(((List.map Tb.cells ([]++tb)).length+(List.map Tb.cells ex).length) * 72).le 140737488355328),si (zaU (t:=(↑(0+1):Int)+1) (n:=0+1+1) Zo Zo)] [6,25,26,27] 1 kr (zaE 6 0 (List.map Tb.cells ([]++tb)++List.map Tb.cells ex) (g6 _ (zaa (wkr [sqx (([]++tb++ex).length=(List.map Tb.cells ([]++tb++ex)).length),sb Zf] kr))) (he:=Zcv5) (hm:=Zcv5))))))))))))))))))⟩
theorem ziD (tb ex:List Tb) (hl:tb.length<=1000) (hle:ex.length<=1000):zab E0 S.AQ [.sl (cc3 tb ex)] [] (tsl (tb++ex)) []:=by
 obtain ⟨r,rfl,h⟩:=zxI tb ex hl hle (by rw [List.length_map,IntKind.wrap_i64];omega) (by rw [List.length_map,IntKind.wrap_i64];omega) Zs Zp
 exact h
theorem zfV (m:List Tb):zab E0 S.CT [tsl m] [] (.p 1 0) [.mp [],.box [tsl m,.mp 0]]:=wkK At.CT [] kr
theorem zA9 (ks:List Acc) (a b:Str) (c:Int) (h:AccS ks):PutAt (ks.map itA) (.agg [sv a,sv b,iv c]) (bv true) ((addK ks ⟨a,b,c⟩).map itA):=zA8 ks ⟨a,b,c⟩ h
theorem zxH (m:List Tb) (ks:List Acc) (a b:Str) (c:Int) (hs:AccS ks):∃ (r:List Acc),r=addK ks ⟨a,b,c⟩/\zab E0 S.Ci [.p 0 0,sv a,sv b,iv c] [.box [tsl m,.mp 1],.mp (ks.map itA)] (.tup []) [.box [tsl m,.mp 1],.mp (r.map itA)]:=by
 exact ⟨addK ks (Acc.mk a b c),Zr,wkE At.Ci [sx (.call [] .un [.mp (List.map itA (addK ks (Acc.mk a b c)))]) (And.intro (zqQ a b c) (zA9 ks a b c (by first|assumption|omega|(simp;done)|(simp;omega))))] kr⟩
theorem zfh {p:Prop} (h:p:=by first|assumption|omega|(simp;done)|(simp;omega)):p:=h
theorem zaI (m:List Tb) (ks:List Acc) (a b:Str) (c:Int) (hs:AccS ks):zab E0 S.Ci [.p 0 0,sv a,sv b,iv c] [.box [tsl m,.mp 1],.mp (ks.map itA)] (.tup []) [.box [tsl m,.mp 1],.mp ((addK ks ⟨a,b,c⟩).map itA)]:=by
 obtain ⟨r,rfl,h⟩:=zxH m ks a b c hs
 exact h
def knS (m:List Tb) (n:Str):Sch × Bool :=
 bif ByteArray.toList n==ZsI.toList then (Sch.mk Zs0 [],false)
 else bif ByteArray.toList n==ZsD.toList then (Sch.mk Zs0 [],false)
 else ((zaf m n).fst,(zaf m n).snd)
def fpKn (m:List Tb) (n:Str) (es:List (AV × AV)):Sch × Bool :=
 bif ByteArray.toList n==ZsI.toList then
  (Sch.mk Zs0 [],false)
 else
  bif ByteArray.toList n==ZsD.toList then
   (Sch.mk Zs0 [],false)
  else
   ((zaf m n).fst,(zaf m n).snd)
theorem zwp (m:List Tb) (n:Str) (es:List (AV × AV)) (hm:zac m) (hc:∀ x∈m,zac x.sch.cols):zab E0 S.Bq [.p 0 0,sv n] [.box [tsl m,.mp 1],.mp es] (.tup [(fpKn m n es).1.av,bv (fpKn m n es).2]) [.box [tsl m,.mp 1],.mp es]:=by
 unfold fpKn
 cases h1:ByteArray.toList n==ZsI.toList
 ·cases h2:ByteArray.toList n==ZsD.toList
  ·exact wk At.Bq [sg h1,sb h2,sc (zgL m n zfh zfh)] kr
  ·exact wk At.Bq [sg h1,sb h2] kr
 ·exact wk At.Bq [sb h1] kr
theorem zb4 (m:List Tb) (n:Str) (es:List (AV × AV)) (hm:zac m) (hc:∀ x∈m,zac x.sch.cols):zab E0 S.Bq [.p 0 0,sv n] [.box [tsl m,.mp 1],.mp es] (.tup [(knS m n).1.av,bv (knS m n).2]) [.box [tsl m,.mp 1],.mp es] :=
 zwp m n es hm hc
theorem zuD (frs:List Fr) (s:Sch) (hf:zac frs):∃ (r:List Fr),r=zar frs s []/\zab E0 S.CD [fsl frs,s.av] [] (fsl r) []:=by
 exact ⟨frs++[Fr.mk s.name false s.cols []],Zr,(by (try simp only [zsl,Acc.cells]);exact wk At.CD [sqx ((List.map Fr.cells frs++[[sv s.name,bv false,ZC s.cols,AV.sl []]]).length=(List.map Fr.cells frs++[[sv s.name,bv false,ZC s.cols,AV.sl []]]).length),sd [(1,[sc (zlM frs zfh)]),(8,[sqA (List.map Fr.cells frs) [[sv s.name,bv false,ZC s.cols,AV.sl []]] frs.length 4 72])]] kr)⟩
theorem zhi (frs:List Fr) (s:Sch) (hf:zac frs):zab E0 S.CD [fsl frs,s.av] [] (fsl (zar frs s [])) []:=by
 obtain ⟨r,rfl,h⟩:=zuD frs s hf
 exact h
def zst (m:List Tb) (ks:List Acc) (e:X) (frs:List Fr):(List Acc) :=
 bif !(zcn frs e.table e.name).snd.snd then
  ks
 else
  bif (rFr frs e.table e.name).strict then
   ks
  else
   bif (knS m (rFr frs e.table e.name).name).snd then
    addK ks (Acc.mk (rFr frs e.table e.name).name e.name 1)
   else
    ks
theorem zuC (m:List Tb) (ks:List Acc) (e:X) (frs:List Fr) (hm:zac m) (hc:∀ x∈m,zac x.sch.cols) (hs:AccS ks) (hf:zac frs) (hg:∀ f∈frs,zac f.cols) (hw0:IntKind.i64.wrap ((((frs.map Fr.cells).length:Nat):Int) - 1)=pm1 frs.length):zab E0 S.A2 [.p 0 0,e.av,fsl frs] [.box [tsl m,.mp 1],.mp (ks.map itA)] (.tup []) [.box [tsl m,.mp 1],.mp ((zst m ks e frs).map itA)]:=by
 unfold zst
 let p_1:List St:=[sc (zpE frs e.table e.name zfh zfh zfh)]
 cases h1:!(zcn frs e.table e.name).snd.snd
 ·let p_2:List St:=p_1++[sg h1,se (ztn frs e.table e.name zfh)]
  cases h2:(rFr frs e.table e.name).strict
  ·let p_3:List St:=p_2++[sb h2,se (ztn frs e.table e.name zfh),sl [0,1] (zb4 m ((rFr frs e.table e.name).name) (List.map itA ks) zfh zfh)]
   cases h3:(knS m (rFr frs e.table e.name).name).snd
   ·exact wkE At.A2 (p_3++[sb h3]) kr
   ·exact wkE At.A2 (p_3++[sb h3,sd [(3,[se (ztn frs e.table e.name zfh)]),(8,[sl [0,1] (zaI m ks ((rFr frs e.table e.name).name) e.name 1 zfh)])]]) kr
  ·exact wk At.A2 (p_2++[sb h2]) kr
 ·exact wk At.A2 (p_1++[sb h1]) kr
def zcw (m:List Tb) (e:X) (frs:List Fr):List Acc :=
 bif !(zcn frs e.table e.name).2.2 then [] else bif (rFr frs e.table e.name).strict then [] else bif (knS m (rFr frs e.table e.name).name).2 then [⟨(rFr frs e.table e.name).name,e.name,1⟩] else []
theorem zzM (m:List Tb) (ks:List Acc) (e:X) (frs:List Fr):zst m ks e frs=zae ks (zcw m e frs):=by
 unfold zst zcw
 cases !(zcn frs e.table e.name).2.2
 ·cases (rFr frs e.table e.name).strict
  ·cases (knS m (rFr frs e.table e.name).name).2 <;> rfl
  ·rfl
 ·rfl
structure FrB (n:Nat) (frs:List Fr):Prop where
 len:frs.length+n<=1000
 cols:∀ f∈frs,zac f.cols
theorem FrB.short {n:Nat} {frs:List Fr} (h:FrB n frs):zac frs:=by have:=h.len;simp only [zac];omega
theorem FrB.wrap {n:Nat} {frs:List Fr} (h:FrB n frs):IntKind.i64.wrap ((((frs.map Fr.cells).length:Nat):Int) - 1)=pm1 frs.length:=zuu _ _ h.short
theorem FrB.ins {n:Nat} {frs:List Fr} (h:FrB (n+1) frs) {s:Sch} (hs:zac s.cols):FrB n (zar frs s []) :=
 ⟨by have:=h.len;simp [zar];omega,fun f hf=>by
  rcases List.mem_append.1 hf with h1|h1
  ·exact h.cols f h1
  ·simp only [List.mem_singleton] at h1;subst h1;exact hs⟩
structure FpC (m:List Tb):Prop where
 short:zac m
 cols:∀ x∈m,zac x.sch.cols
theorem FpC.src {m:List Tb} (h:FpC m) (n:Str):zac (zaf m n).1.cols:=zer m n m 0 h.cols
theorem zgI (m:List Tb) (ks:List Acc) (e:X) (frs:List Fr) (n:Nat) (ht:FpC m) (hs:AccS ks) (hf:FrB n frs):zab E0 S.A2 [.p 0 0,e.av,fsl frs] [.box [tsl m,.mp 1],.mp (ks.map itA)] (.tup []) [.box [tsl m,.mp 1],.mp ((zae ks (zcw m e frs)).map itA)]:=by
 rw [← zzM]
 exact zuC m ks e frs ht.short ht.cols hs hf.short hf.cols hf.wrap
theorem zg6 {p:Prop} (h:p:=by first|assumption|exact zc0 ‹_›|exact zbc ‹_›|exact zbc (zc0 ‹_›)|(simp;done)):p:=h
theorem zj2 {p:Prop} (h:p:=by first|assumption|exact zbc ‹_›|exact zbc (zbc ‹_›)|(simp [zae];done)|omega):p:=h
theorem zp7 {p:Prop} (h:p:=by first|assumption|(simp [zae];done)|omega):p:=h
def accQ (m:List Tb) (f:List X->List Fr->List Acc) (q:Qy) (frs:List Fr):List Acc :=
 bif !(zaf m q.frm).2 then [] else (bif (knS m q.frm).2 then [⟨q.frm,⟨#[]⟩,5⟩] else [])++f q.items (zar frs (zaf m q.frm).1 [])++f q.wh (zar frs (zaf m q.frm).1 [])
def accX (m:List Tb) (f:List X->List Fr->List Acc) (e:X) (frs:List Fr):List Acc :=
 (bif e.kind==2 then zcw m e frs else [])++f e.args frs++e.sub.flatMap fun q=>accQ m f q frs
def zas (m:List Tb):Nat->List X->List Fr->List Acc
 | 0,_,_=>[]
 | n+1,l,frs=>l.flatMap fun e=>accX m (zas m n) e frs
def ExC (m:List Tb) (l:List X) (frs:List Fr) (a:List Acc):Prop:=∀ ks,AccS ks->zab E0 S.Ak [.p 0 0,xsl l,fsl frs] [.box [tsl m,.mp 1],.mp (ks.map itA)] (.tup []) [.box [tsl m,.mp 1],.mp ((zae ks a).map itA)]
def QuC (m:List Tb) (q:Qy) (frs:List Fr) (a:List Acc):Prop:=∀ ks,AccS ks->zab E0 S.AN [.p 0 0,q.av,fsl frs] [.box [tsl m,.mp 1],.mp (ks.map itA)] (.tup []) [.box [tsl m,.mp 1],.mp ((zae ks a).map itA)]
theorem zc0 {ks:List Acc} {a:Acc} (h:AccS ks):AccS (addK ks a):=h.ins a
theorem zbc {ks l:List Acc} (h:AccS ks):AccS (zae ks l):=h.all l
theorem zwq (m:List Tb) (ks:List Acc) (q:Qy) (frs:List Fr) (n:Nat) (a b:List Acc) (ht:FpC m) (hm:zac m) (hc:∀ x∈m,zac x.sch.cols) (hs:AccS ks) (hf:FrB (n+1) frs) (hfs:zac frs) (hi:∀ ks,AccS ks->zab E0 S.Ak [.p 0 0,xsl q.items,fsl (zar frs (zaf m q.frm).1 [])] [.box [tsl m,.mp 1],.mp (ks.map itA)] (.tup []) [.box [tsl m,.mp 1],.mp ((zae ks a).map itA)]) (hw:∀ ks,AccS ks->zab E0 S.Ak [.p 0 0,xsl q.wh,fsl (zar frs (zaf m q.frm).1 [])] [.box [tsl m,.mp 1],.mp (ks.map itA)] (.tup []) [.box [tsl m,.mp 1],.mp ((zae ks b).map itA)]):∃ (r:List Acc),(r=bif !(zaf m q.frm).2 then ks else zae (zae (bif (knS m q.frm).2 then addK ks ⟨q.frm,⟨#[]⟩,5⟩ else ks) a) b)/\zab E0 S.AN [.p 0 0,q.av,fsl frs] [.box [tsl m,.mp 1],.mp (ks.map itA)] (.tup []) [.box [tsl m,.mp 1],.mp (r.map itA)]:=by
 let p_1:List St:=[sdm [(6,[sc (zgL m q.frm zg6 zg6)])] 0 [(0,AV.p 0 0),(1,AV.agg [bv q.star,AV.sl (zad q.items),sv q.frm,AV.sl (zad q.wh)]),(2,fsl frs),(4,AV.p 2 0),(6,AV.p 3 0),(7,bv (zaf m q.frm).snd),(10,AV.tup [AV.agg [sv (zaf m q.frm).fst.name,AV.sl (List.map Col.cells (zaf m q.frm).fst.cols)],bv (zaf m q.frm).snd]),(11,AV.p 0 0),(12,AV.p 0 0),(13,AV.p 0 0),(14,tsl m),(15,AV.p 2 2),(16,sv q.frm),(17,AV.tup [AV.agg [sv (zaf m q.frm).fst.name,AV.sl (List.map Col.cells (zaf m q.frm).fst.cols)],bv (zaf m q.frm).snd]),(18,AV.agg [sv (zaf m q.frm).fst.name,AV.sl (List.map Col.cells (zaf m q.frm).fst.cols)]),(19,bv (zaf m q.frm).snd)] [Blk.box [tsl m,AV.mp 1],Blk.mp (List.map itA ks),Blk.box [bv q.star,AV.sl (zad q.items),sv q.frm,AV.sl (zad q.wh)],Blk.box [sv (zaf m q.frm).fst.name,AV.sl (List.map Col.cells (zaf m q.frm).fst.cols)]]]
 cases h1:!(zaf m q.frm).snd
 ·let p_2:List St:=p_1++[sb h1,sc (zhi frs ((zaf m q.frm).fst) zg6),sl [0,1] (zb4 m q.frm (List.map itA ks) zg6 zg6)]
  cases h2:(knS m q.frm).snd
  ·exact ⟨zae (zae ks a) b,(by simp only [*,cond_true,cond_false]),wkE At.AN (p_2++[sb h2,sl [0,1] (hi ks zg6),sl [0,1] (hw (zae ks a) zg6)]) kr⟩
  ·exact ⟨zae (zae (addK ks (Acc.mk q.frm Zs0 5)) a) b,(by simp only [*,cond_true,cond_false]),wkE At.AN (p_2++[sb h2,sl [0,1] (zaI m ks q.frm Zs0 5 zg6),sl [0,1] (hi (addK ks (Acc.mk q.frm Zs0 5)) zg6),sl [0,1] (hw (zae (addK ks (Acc.mk q.frm Zs0 5)) a) zg6)]) kr⟩
 ·exact ⟨ks,(by simp only [*,cond_true,cond_false]),wk At.AN (p_1++[sb h1]) kr⟩
theorem zts {m:List Tb} {f:List X->List Fr->List Acc} {q:Qy} {frs:List Fr} {n:Nat} (ht:FpC m) (hf:FrB (n+1) frs) (hi:ExC m q.items (zar frs (zaf m q.frm).1 []) (f q.items (zar frs (zaf m q.frm).1 []))) (hw:ExC m q.wh (zar frs (zaf m q.frm).1 []) (f q.wh (zar frs (zaf m q.frm).1 []))):QuC m q frs (accQ m f q frs):=by
 intro ks hs
 obtain ⟨r,hr,h⟩:=zwq m ks q frs n _ _ ht ht.short ht.cols hs hf hf.short hi hw
 have e:r=zae ks (accQ m f q frs):=by
  rw [hr]
  unfold accQ
  cases !(zaf m q.frm).2
  ·simp only [cond_false]
   cases (knS m q.frm).2
   ·simp [zaP]
   ·simp [zaP,zae]
  ·rfl
 rw [← e]
 exact h
noncomputable def L_xq (m:List Tb) (kz k0:List Acc) (l:List X) (frs:List Fr) (e:X) (io:Nat) (f:Qy->List Acc) (i:Nat) (ks:List Acc):Cfg:=zan B.Ak 1 [(0,.p 0 0),(2,fsl frs),(10,xsl l),(11,iv ((zad l).length:Nat)),(12,iv (io:Nat)),(29,.sl (zal e.sub)),(30,iv ((zal e.sub).length:Nat)),(31,iv (i:Nat))] [.box [tsl m,.mp 1],.mp (ks.map itA)]
theorem zey (m:List Tb) (kz k0:List Acc) (l:List X) (frs:List Fr) (e:X) (io:Nat) (f:Qy->List Acc) (hu:zac e.sub) (hq:∀ q∈e.sub,QuC m q frs (f q)) (hk0:AccS k0) (i:Nat) (ks:List Acc) (hi:i<=(e.sub).length) (hI:ks=zae k0 ((e.sub.take i).flatMap f)):∃ (ks':List Acc),(ks'=zae k0 ((e.sub.take (e.sub).length).flatMap f))/\(decide ((((e.sub).length:Nat):Int) < (((zal e.sub).length:Nat):Int))=false)/\∀ R,Good E0 B.Ak [.box [tsl m,.mp 1],.mp (kz.map itA)] (L_xq m kz k0 l frs e io f (e.sub).length ks') R->Good E0 B.Ak [.box [tsl m,.mp 1],.mp (kz.map itA)] (L_xq m kz k0 l frs e io f i ks) R:=by
 have hk:=hi;revert i ks;refine zlp ((e.sub).length) (fun i hlt ih ks hi hI _=>?_)
 obtain ⟨x,hx,h0,hw⟩:=zlq (l:=e.sub) ((zal e.sub).length) hlt
 have hfx:=hq x (List.mem_of_getElem? hx);have hks:AccS ks:=(by rw [hI];exact hk0.all _)
 exact Zih (ih (zae ks (f x)) Zo (by (rw [hI,List.take_add_one,hx];simp [zaP])) Zo) fun R gY=>zaa (wkl [sb h0,se (zba hx),sl [0,1] (hfx ks (by first|assumption|omega|(simp;done)|(simp;omega))),si hw] [0,2,10,11,12,29,30,31] 2 kr gY)
theorem zcK (m:List Tb) (kz:List Acc) (l:List X) (frs:List Fr) (e:X) (io:Nat) (f:Qy->List Acc) (hu:zac e.sub) (hq:∀ q∈e.sub,QuC m q frs (f q)) (ks:List Acc) (hks:AccS ks):∃ (ks':List Acc),ks'=zae ks (e.sub.flatMap f)/\decide (((e.sub.length:Nat):Int) < (((zal e.sub).length:Nat):Int))=false/\∀ R,Good E0 B.Ak [.box [tsl m,.mp 1],.mp (kz.map itA)] (L_xq m kz ks l frs e io f e.sub.length ks') R->Good E0 B.Ak [.box [tsl m,.mp 1],.mp (kz.map itA)] (L_xq m kz ks l frs e io f 0 ks) R:=by
 obtain ⟨k',h1,h2,h3⟩:=zey m kz ks l frs e io f hu hq hks 0 ks Zo (by simp [zae])
 exact ⟨k',by rw [h1,List.take_length],h2,h3⟩
def accG (m:List Tb) (fa:X->List Acc) (fq:Qy->List Acc) (frs:List Fr) (e:X):List Acc:=(bif e.kind==2 then zcw m e frs else [])++fa e++e.sub.flatMap fq
noncomputable def L_xe (m:List Tb) (kz k0:List Acc) (l:List X) (frs:List Fr) (n:Nat) (fa:X->List Acc) (fq:Qy->List Acc) (i:Nat) (ks:List Acc):Cfg:=zan B.Ak 0 [(0,.p 0 0),(2,fsl frs),(10,xsl l),(11,iv ((zad l).length:Nat)),(12,iv (i:Nat))] [.box [tsl m,.mp 1],.mp (ks.map itA)]
theorem zex (m:List Tb) (kz k0:List Acc) (l:List X) (frs:List Fr) (n:Nat) (fa:X->List Acc) (fq:Qy->List Acc) (ht:FpC m) (hf:FrB n frs) (hl:zac l) (ha:∀ e∈l,ExC m e.args frs (fa e)) (hu:∀ e∈l,zac e.sub) (hq:∀ e∈l,∀ q∈e.sub,QuC m q frs (fq q)) (hk0:AccS k0) (i:Nat) (ks:List Acc) (hi:i<=(l).length) (hI:ks=zae k0 ((l.take i).flatMap (accG m fa fq frs))):∃ (ks':List Acc),(ks'=zae k0 ((l.take (l).length).flatMap (accG m fa fq frs)))/\(decide ((((l).length:Nat):Int) < (((zad l).length:Nat):Int))=false)/\∀ R,Good E0 B.Ak [.box [tsl m,.mp 1],.mp (kz.map itA)] (L_xe m kz k0 l frs n fa fq (l).length ks') R->Good E0 B.Ak [.box [tsl m,.mp 1],.mp (kz.map itA)] (L_xe m kz k0 l frs n fa fq i ks) R:=by
 have hk:=hi;revert i ks;refine zlp ((l).length) (fun i hlt ih ks hi hI _=>?_)
 obtain ⟨x,hx,h0,hw⟩:=zlq (l:=l) ((zad l).length) hlt
 have hax:=ha x (List.mem_of_getElem? hx);have hqx:=hq x (List.mem_of_getElem? hx);have hux:=hu x (List.mem_of_getElem? hx);have hks:AccS ks:=(by rw [hI];exact hk0.all _)
 cases h1:x.kind==2
 ·obtain ⟨ks2,q2,q2_1,g2⟩:=zcK m kz l frs x i fq zj2 hqx (zae ks (fa x)) zj2
  exact Zih (ih ks2 Zo (by (rw [List.take_add_one,hx];simp [zaP,accG, *])) Zo) fun R gY=>zaa (wkl [sb h0,se (zak hx),sb h1,sl [0,1] (hax ks zj2)] [0,2,10,11,12,29,30,31] 2 kr (g2 _ (zaa (wkl [sb q2_1,si hw] [0,2,10,11,12] 2 kr gY))))
 ·obtain ⟨ks3,q3,q3_1,g3⟩:=zcK m kz l frs x i fq zj2 hqx (zae (zae ks (zcw m x frs)) (fa x)) zj2
  exact Zih (ih ks3 Zo (by (rw [List.take_add_one,hx];simp [zaP,accG, *])) Zo) fun R gY=>zaa (wkl [sb h0,se (zak hx),sb h1,sl [0,1] (zgI m ks x frs n zj2 zj2 hf),sl [0,1] (hax (zae ks (zcw m x frs)) zj2)] [0,2,10,11,12,29,30,31] 2 kr (g3 _ (zaa (wkl [sb q3_1,si hw] [0,2,10,11,12] 2 kr gY))))
theorem zpk (m:List Tb) (kz:List Acc) (l:List X) (frs:List Fr) (n:Nat) (fa:X->List Acc) (fq:Qy->List Acc) (ht:FpC m) (hf:FrB n frs) (hl:zac l) (ha:∀ e∈l,ExC m e.args frs (fa e)) (hu:∀ e∈l,zac e.sub) (hq:∀ e∈l,∀ q∈e.sub,QuC m q frs (fq q)) (hk0:AccS kz):∃ (r:List Acc),r=zae kz ((l.take l.length).flatMap (accG m fa fq frs))/\zab E0 S.Ak [.p 0 0,xsl l,fsl frs] [.box [tsl m,.mp 1],.mp (kz.map itA)] (.tup []) [.box [tsl m,.mp 1],.mp (r.map itA)]:=by
 obtain ⟨ks1,q1,q1_1,g1⟩:=zex m kz kz l frs n fa fq zp7 hf zp7 ha zp7 hq hk0 0 kz zp7 zp7
 exact ⟨ks1,‹_›,wkc At.Ak [] [0,2,10,11,12] 2 kr (g1 _ (zaa (wkrE [sb q1_1] kr)))⟩
theorem FrB.less {n:Nat} {frs:List Fr} (h:FrB (n+1) frs):FrB n frs:=⟨by have:=h.len;omega,h.cols⟩
theorem zdq {m:List Tb} (ht:FpC m):∀ (n:Nat) (l:List X) (frs:List Fr),zac l->(∀ e∈l,XSh n e)->FrB n frs->ExC m l frs (zas m n l frs)
 | 0,l,frs,hl,hx,hf=>by
  intro ks hs
  have:l=[]:=by
   cases l with
   | nil=>rfl
   | cons a r=>exact (hx a Zs).elim
  subst this
  obtain ⟨r,rfl,h⟩:=zpk m ks [] frs 0 (fun _=>[]) (fun _=>[]) ht hf hl Zs Zs Zs hs
  exact h
 | n+1,l,frs,hl,hx,hf=>by
  intro ks hs
  obtain ⟨r,rfl,h⟩:=zpk m ks l frs (n+1) (fun e=>zas m n e.args frs) (fun q=>accQ m (zas m n) q frs) ht hf hl
   (fun e he=>zdq ht n e.args frs (hx e he).1.1 (hx e he).2.1 hf.less) (fun e he=>(hx e he).1.2)
   (fun e he q hq=>zts ht hf (zdq ht n _ _ ((hx e he).2.2 q hq).1.1 ((hx e he).2.2 q hq).2.1 (hf.ins (ht.src _))) (zdq ht n _ _ ((hx e he).2.2 q hq).1.2 ((hx e he).2.2 q hq).2.2 (hf.ins (ht.src _)))) hs
  rw [List.take_length] at h
  exact h
theorem zye {m:List Tb} (ht:FpC m) (n:Nat) (q:Qy) (frs:List Fr) (hq:QSh n q) (hf:FrB (n+1) frs):QuC m q frs (accQ m (zas m n) q frs) :=
 zts ht hf (zdq ht n _ _ hq.items hq.hi (hf.ins (ht.src _))) (zdq ht n _ _ hq.wh hq.hw (hf.ins (ht.src _)))
theorem znX {p:Prop} (h:p:=by first|exact znx hl hI.1 hx (ad_1 ‹_› ‹_›)|exact znx hl hI.1 hx (ad_2 ‹_› ‹_›)|exact znx hl hI.1 hx (ad_3 ‹_› ‹_› ‹_›)|exact znx hl hI.1 hx (ad_4 ‹_› ‹_› ‹_›)|exact znx hl hI.1 hx (ad_5 ‹_› ‹_› ‹_›)|exact znx hl hI.1 hx (ad_6 ‹_› ‹_› ‹_›)):p:=h
theorem zw4 {p:Prop} (h:p:=by first|exact less_1 ‹_›|exact less_2 ‹_› ‹_›|exact less_3 ‹_› ‹_›):p:=h
theorem zyS {a b:Str} (h:(!ByteArray.toList a==ByteArray.toList b)=true):(a==b)=false:=by
 cases e:a==b
 ·rfl
 ·rw [zjL e] at h;simp at h
theorem zuq {a b:Str} (h:(!ByteArray.toList a==ByteArray.toList b)=false):a=b:=zfB (by simpa using h)
theorem less_1 {a b:Acc} (h:(!ByteArray.toList a.tab==ByteArray.toList b.tab)=true):Op.bytesLess (ByteArray.toList a.tab) (ByteArray.toList b.tab)=ltA a b:=by
 simp [ltA,zyS h,ltS]
theorem less_2 {a b:Acc} (h:(!ByteArray.toList a.tab==ByteArray.toList b.tab)=false) (h2:(!ByteArray.toList a.col==ByteArray.toList b.col)=true):Op.bytesLess (ByteArray.toList a.col) (ByteArray.toList b.col)=ltA a b:=by
 simp only [ltA,zuq h,zgM,zfr,zyS h2,Bool.false_or,Bool.true_and,Bool.false_and,Bool.or_false];rfl
theorem less_3 {a b:Acc} (h:(!ByteArray.toList a.tab==ByteArray.toList b.tab)=false) (h2:(!ByteArray.toList a.col==ByteArray.toList b.col)=false):decide (a.mode < b.mode)=ltA a b:=by
 simp only [ltA,zuq h,zuq h2,zgM,zfr,Bool.false_or,Bool.true_and]
theorem ztf (a b:Acc) :∃ (r:Bool),r=ltA a b/\zab E0 S.CI [a.av,b.av] [] (bv r) []:=by
 cases h1:!ByteArray.toList a.tab==ByteArray.toList b.tab
 ·cases h2:!ByteArray.toList a.col==ByteArray.toList b.col
  ·exact ⟨decide (a.mode < b.mode),zw4,wk At.CI [sb h1,sb h2] kr⟩
  ·exact ⟨Op.bytesLess (ByteArray.toList a.col) (ByteArray.toList b.col),zw4,wk At.CI [sb h1,sb h2] kr⟩
 ·exact ⟨Op.bytesLess (ByteArray.toList a.tab) (ByteArray.toList b.tab),zw4,wk At.CI [sb h1] kr⟩
theorem ztI (a b:Acc):zab E0 S.CI [a.av,b.av] [] (bv (ltA a b)) []:=by
 obtain ⟨r,rfl,h⟩:=ztf a b
 exact h
def addS (a:Acc) (st:List Acc × Bool) (y:Acc):List Acc × Bool :=
 (bif eqA y a then (bif !st.2&&!ltA y a then st.1++[a] else st.1) else (bif !st.2&&!ltA y a then st.1++[a] else st.1)++[y],st.2 || !ltA y a)
def addE (a:Acc) (st:List Acc × Bool):List Acc:=bif !st.2 then st.1++[a] else st.1
theorem zzf (a:Acc) (l:List Acc):∀ st:List Acc × Bool,(l.foldl (addS a) st).1.length<=st.1.length+2 * l.length:=by
 induction l with
 | nil=>intro st;simp
 | cons y r ih =>
  intro st
  have h:=ih (addS a st y)
  have:(addS a st y).1.length<=st.1.length+2:=by
   unfold addS
   cases eqA y a <;> cases (!st.2&&!ltA y a) <;> simp
  simp only [List.foldl_cons,List.length_cons]
  omega
theorem znx {l:List Acc} {a x:Acc} {i:Nat} {o2:List Acc} {d2:Bool} {st:List Acc × Bool} (hl:l.length<=300000000) (hI:st=(l.take i).foldl (addS a) ([],false)) (hx:l[i]?=some x) (h:(o2,d2)=addS a st x):(o2,d2)=(l.take (i+1)).foldl (addS a) ([],false)/\o2.length<=900000000:=by
 have e:(o2,d2)=(l.take (i+1)).foldl (addS a) ([],false):=by rw [List.take_add_one,hx,Option.toList_some,List.foldl_append,← hI];exact h
 refine ⟨e,?_⟩
 have h9:=zzf a (l.take (i+1)) ([],false)
 rw [← e] at h9
 simp only [List.length_nil,List.length_take] at h9
 omega
section
variable {a x : Acc} {out : List Acc} {dn : Bool}
theorem ad_1 (h1:(!dn)=false) (h2:(!eqA x a)=false):(out,dn)=addS a (out,dn) x:=by
 have e1:dn=true:=by simpa using h1
 have e2:eqA x a=true:=by simpa using h2
 subst e1;simp only [addS,e2];rfl
theorem ad_2 (h1:(!dn)=false) (h2:(!eqA x a)=true):(out++[x],dn)=addS a (out,dn) x:=by
 have e1:dn=true:=by simpa using h1
 have e2:eqA x a=false:=by simpa using h2
 subst e1;simp only [addS,e2];rfl
theorem ad_3 (h1:(!dn)=true) (h3:(!ltA x a)=false) (h2:(!eqA x a)=false):(out,dn)=addS a (out,dn) x:=by
 have e1:dn=false:=by simpa using h1
 have e2:eqA x a=true:=by simpa using h2
 subst e1;simp only [addS,e2,h3];rfl
theorem ad_4 (h1:(!dn)=true) (h3:(!ltA x a)=false) (h2:(!eqA x a)=true):(out++[x],dn)=addS a (out,dn) x:=by
 have e1:dn=false:=by simpa using h1
 have e2:eqA x a=false:=by simpa using h2
 subst e1;simp only [addS,e2,h3];rfl
theorem ad_5 (h1:(!dn)=true) (h3:(!ltA x a)=true) (h2:(!eqA x a)=false):(out++[a],true)=addS a (out,dn) x:=by
 have e1:dn=false:=by simpa using h1
 have e2:eqA x a=true:=by simpa using h2
 subst e1;simp only [addS,e2,h3];rfl
theorem ad_6 (h1:(!dn)=true) (h3:(!ltA x a)=true) (h2:(!eqA x a)=true):(out++[a]++[x],true)=addS a (out,dn) x:=by
 have e1:dn=false:=by simpa using h1
 have e2:eqA x a=false:=by simpa using h2
 subst e1;simp only [addS,e2,h3];rfl
end
noncomputable def L_ad (l:List Acc) (a:Acc) (i:Nat) (out:List Acc) (dn:Bool):Cfg:=zan B.Cn 0 [(3,.p 0 0),(5,.own 1 out.length),(6,bv dn),(9,.sl (l.map Acc.cells)),(10,iv ((l.map Acc.cells).length:Nat)),(11,iv (i:Nat))] [.box a.cells,.row Ty.Access (out.map Acc.cells) false]
theorem Zcv7 {p:Prop} (h:p:=by first|rfl|(simp;done)|(simp [X.cells,Qy.cells,V.cells,Col.cells,Rw.cells,Tb.cells,Fr.cells,Sch.cells,Tp.cells,Pl.cells,Acc.cells];done)):p:=h
theorem zma (l:List Acc) (a:Acc) (hl:l.length<=300000000) (i:Nat) (out:List Acc) (dn:Bool) (hi:i<=(l).length) (hI:(out,dn)=(l.take i).foldl (addS a) ([],false)/\out.length<=900000000):∃ (out':List Acc) (dn':Bool),((out',dn')=(l.take (l).length).foldl (addS a) ([],false)/\out'.length<=900000000)/\(decide ((((l).length:Nat):Int) < (((l.map Acc.cells).length:Nat):Int))=false)/\∀ R,Good E0 B.Cn [] (L_ad l a (l).length out' dn') R->Good E0 B.Cn [] (L_ad l a i out dn) R:=by
 have hk:=hi;revert i out dn;refine zlp ((l).length) (fun i hlt ih out dn hi hI _=>?_)
 obtain ⟨x,hx,h0,hw⟩:=zlq (l:=l) ((l.map Acc.cells).length) hlt
 have ho:out.length<=900000000:=hI.2
 let p_1:List St:=[sb h0,se (zai Acc.cells hx rfl)]
 cases h1:!dn
 ·cases h2:!(x.tab==a.tab&&(x.col==a.col&&(x.mode==a.mode&&true)))
  ·obtain ⟨outZ,dnZ,qZ,xZ,gZ⟩:=ih out dn Zo znX Zo;exact ⟨outZ,dnZ,qZ,xZ,fun R hg=>zaa (wkl (p_1++[sb h1,sq zdM,sb h2,si hw]) [3,5,6,9,10,11] 2 kr (gZ R hg))⟩
  ·obtain ⟨outZ,dnZ,qZ,xZ,gZ⟩:=ih (out++[x]) dn Zo znX Zo;exact ⟨outZ,dnZ,qZ,xZ,fun R hg=>zaa (wkl (p_1++[sb h1,sq zdM,sb h2,sqA (List.map Acc.cells out) [[sv x.tab,sv x.col,iv x.mode]] out.length 3 40,si hw]) [3,5,6,9,10,11] 2 kr (zaE 5 1 (List.map Acc.cells out++[[sv x.tab,sv x.col,iv x.mode]]) (gZ R hg) (he:=Zcv7) (hm:=Zcv7)))⟩
 ·let p_2:List St:=p_1++[sg h1,sc (ztI x a)]
  cases h3:!ltA x a
  ·cases h4:!(x.tab==a.tab&&(x.col==a.col&&(x.mode==a.mode&&true)))
   ·obtain ⟨outZ,dnZ,qZ,xZ,gZ⟩:=ih out dn Zo znX Zo;exact ⟨outZ,dnZ,qZ,xZ,fun R hg=>zaa (wkl (p_2++[sb h3,sq zdM,sb h4,si hw]) [3,5,6,9,10,11] 2 kr (gZ R hg))⟩
   ·obtain ⟨outZ,dnZ,qZ,xZ,gZ⟩:=ih (out++[x]) dn Zo znX Zo;exact ⟨outZ,dnZ,qZ,xZ,fun R hg=>zaa (wkl (p_2++[sb h3,sq zdM,sb h4,sqA (List.map Acc.cells out) [[sv x.tab,sv x.col,iv x.mode]] out.length 3 40,si hw]) [3,5,6,9,10,11] 2 kr (zaE 5 1 (List.map Acc.cells out++[[sv x.tab,sv x.col,iv x.mode]]) (gZ R hg) (he:=Zcv7) (hm:=Zcv7)))⟩
  ·let p_3:List St:=p_2++[sb h3,sqA (List.map Acc.cells out) [[sv a.tab,sv a.col,iv a.mode]] out.length 3 40,sq zdM]
   cases h5:!(x.tab==a.tab&&(x.col==a.col&&(x.mode==a.mode&&true)))
   ·obtain ⟨outZ,dnZ,qZ,xZ,gZ⟩:=ih (out++[a]) true Zo znX Zo;exact ⟨outZ,dnZ,qZ,xZ,fun R hg=>zaa (wklN (p_3++[sb h5,si hw]) [3,5,6,9,10,11] 2 [(.bl 6,2)] kr (zaE 5 1 (List.map Acc.cells out++[[sv a.tab,sv a.col,iv a.mode]]) (gZ R hg) (he:=Zcv7) (hm:=Zcv7)))⟩
   ·obtain ⟨outZ,dnZ,qZ,xZ,gZ⟩:=ih (out++[a]++[x]) true Zo znX Zo;exact ⟨outZ,dnZ,qZ,xZ,fun R hg=>zaa (wklN (p_3++[sb h5,sqA (List.map Acc.cells out++[[sv a.tab,sv a.col,iv a.mode]]) [[sv x.tab,sv x.col,iv x.mode]] ((List.map Acc.cells out++[[sv a.tab,sv a.col,iv a.mode]]).length) 3 40,si hw]) [3,5,6,9,10,11] 2 [(.bl 6,2)] kr (zaE 5 1 (List.map Acc.cells out++[[sv a.tab,sv a.col,iv a.mode]]++[[sv x.tab,sv x.col,iv x.mode]]) (gZ R hg) (he:=Zcv7) (hm:=Zcv7)))⟩
theorem ad_e0 {l:List Acc} {a:Acc} {out:List Acc} {dn:Bool} (hl:l.length<=300000000) (hI:(out,dn)=(l.take l.length).foldl (addS a) ([],false)/\out.length<=900000000) (h:(!dn)=true):out++[a]=addE a (l.foldl (addS a) ([],false)):=by
 replace hI:=hI.1;rw [List.take_length] at hI;rw [← hI];simp only [addE,h];rfl
theorem ad_e1 {l:List Acc} {a:Acc} {out:List Acc} {dn:Bool} (hl:l.length<=300000000) (hI:(out,dn)=(l.take l.length).foldl (addS a) ([],false)/\out.length<=900000000) (h:(!dn)=false):out=addE a (l.foldl (addS a) ([],false)):=by
 replace hI:=hI.1;rw [List.take_length] at hI;rw [← hI];simp only [addE,h];rfl
theorem zuH (l:List Acc) (a:Acc) (hl:l.length<=300000000):∃ (r:List Acc),r=addE a (l.foldl (addS a) ([],false))/\zab E0 S.Cn [.sl (l.map Acc.cells),a.av] [] (.sl (r.map Acc.cells)) []:=by
 obtain ⟨out1,dn1,q1,q1_1,g1⟩:=zma l a (by first|assumption|omega|exact ⟨rfl,by simp⟩|(simp;done)) 0 ([]) false (by first|assumption|omega|exact ⟨rfl,by simp⟩|(simp;done)) (by first|assumption|omega|exact ⟨rfl,by simp⟩|(simp;done))
 cases h2:!dn1
 ·exact ⟨out1,(by first|exact ad_e0 hl ‹_› ‹_›|exact ad_e1 hl ‹_› ‹_›),wkcN At.Cn [] [3,5,6,9,10,11] 1 [(.bl 6,1),(.ot 5 Ty.Access,2)] kr (g1 _ (zaa (wkr [sqx (out1.length=(List.map Acc.cells out1).length),sb q1_1,sb h2] kr)))⟩
 ·exact ⟨out1++[a],(by first|exact ad_e0 hl ‹_› ‹_›|exact ad_e1 hl ‹_› ‹_›),wkcN At.Cn [] [3,5,6,9,10,11] 1 [(.bl 6,1),(.ot 5 Ty.Access,2)] kr (g1 _ (zaa (wkrS (y:=AV.sl (List.map Acc.cells out1++[[sv a.tab,sv a.col,iv a.mode]])) (H:=[]) [sqx ((List.map Acc.cells out1++[[sv a.tab,sv a.col,iv a.mode]]).length=(List.map Acc.cells out1++[[sv a.tab,sv a.col,iv a.mode]]).length),sb q1_1,sb h2,sqA (List.map Acc.cells out1) [[sv a.tab,sv a.col,iv a.mode]] out1.length 3 40] kr ⟨Zcv7,Zcv7⟩)))⟩
theorem zmK (a:Acc):∀ (l out:List Acc),AccS l->(∀ y∈l,ltA a y=true)->l.foldl (addS a) (out,true)=(out++l,true)
 | [],out,_,_=>by simp
 | y::r,out,h,hy=>by
  have e:eqA y a=false:=by
   cases e:eqA y a
   ·rfl
   ·have:=zdb.1 e;subst this;have:=hy y Zs;rw [zby] at this;cases this
  rw [List.foldl_cons,show addS a (out,true) y=(out++[y],true) by simp [addS,e],zmK a r _ (List.Pairwise.tail h) fun z hz=>hy z (by simp [hz])]
  simp
theorem zvf (a:Acc):∀ (l out:List Acc),AccS l->addE a (l.foldl (addS a) (out,false))=out++addK l a
 | [],out,_=>by simp [addE,addK]
 | y::r,out,h=>by
  rw [List.foldl_cons]
  rcases zig y a with h1|h1|h1
  ·have e:eqA y a=false:=by
    cases e:eqA y a
    ·rfl
    ·have:=zdb.1 e;subst this;rw [zby] at h1;cases h1
   have e2:ltA a y=false:=by
    cases e2:ltA a y
    ·rfl
    ·have:=zdl h1 e2;rw [zby] at this;cases this
   have e3:eqA a y=false:=by
    cases e3:eqA a y
    ·rfl
    ·have:=zdb.1 e3;subst this;rw [zby] at h1;cases h1
   rw [show addS a (out,false) y=(out++[y],false) by simp [addS,e,h1],zvf a r _ (List.Pairwise.tail h)]
   simp [addK,e2,e3]
  ·subst h1
   have e:eqA y y=true:=zdb.2 rfl
   rw [show addS y (out,false) y=(out++[y],true) by simp [addS,e,zby],zmK y r _ (List.Pairwise.tail h) fun z hz=>(List.pairwise_cons.1 h).1 z hz]
   simp [addE,addK,e]
  ·have e2:ltA y a=false:=by
    cases e2:ltA y a
    ·rfl
    ·have:=zdl h1 e2;rw [zby] at this;cases this
   have e:eqA y a=false:=by
    cases e:eqA y a
    ·rfl
    ·have:=zdb.1 e;subst this;rw [zby] at h1;cases h1
   have e3:eqA a y=false:=by
    cases e3:eqA a y
    ·rfl
    ·have:=zdb.1 e3;subst this;rw [zby] at h1;cases h1
   rw [show addS a (out,false) y=(out++[a]++[y],true) by simp [addS,e,e2],zmK a r _ (List.Pairwise.tail h) fun z hz=>zdl h1 ((List.pairwise_cons.1 h).1 z hz)]
   simp [addE,addK,h1,e3]
theorem zbN (l:List Acc) (a:Acc) (hs:AccS l) (hl:l.length<=300000000):zab E0 S.Cn [.sl (l.map Acc.cells),a.av] [] (.sl ((addK l a).map Acc.cells)) []:=by
 obtain ⟨r,hr,h⟩:=zuH l a hl
 rw [zvf a l [] hs] at hr
 rw [hr] at h
 exact h
theorem bbS {a b:Str}:(a==b)=true↔a=b:=⟨zjL,fun h=>by subst h;exact zfr a⟩
theorem zlP (a:Str):ltS a a=false:=zgM a
theorem zm8 {a b c:Str} (h1:ltS a b=true) (h2:ltS b c=true):ltS a c=true:=zdc.2 (List.lt_trans (zdc.1 h1) (zdc.1 h2))
theorem zvu (a b:Str):ltS a b=true\/a=b\/ltS b a=true:=by
 rw [zdc,zdc];exact zlg a b
def SrtS (ks:List Str):Prop:=ks.Pairwise fun a b=>ltS a b=true
def inKs:List Str->Str->List Str
 | [],a=>[a]
 | b::r,a=>bif a==b then b::r else bif ltS a b then a::b::r else b::inKs r a
theorem ziI {a x:Str}:∀ ks:List Str,x∈inKs ks a↔x=a\/x∈ks
 | []=>by simp [inKs]
 | b::r=>by
  unfold inKs
  cases h:a==b
  ·cases h2:ltS a b
   ·simp only [cond_false,List.mem_cons,ziI r]
    exact ⟨fun h=>by rcases h with h|h|h <;> simp [h],fun h=>by rcases h with h|h|h <;> simp [h]⟩
   ·simp
  ·have:=bbS.1 h
   subst this
   simp
theorem SrtS.ins {ks:List Str} (h:SrtS ks) (a:Str):SrtS (inKs ks a):=by
 induction ks with
 | nil=>simp [SrtS,inKs]
 | cons b r ih =>
  obtain ⟨h1,h2⟩:=List.pairwise_cons.1 h
  unfold inKs
  cases h3:a==b
  ·cases h4:ltS a b
   ·simp only [cond_false]
    refine List.pairwise_cons.2 ⟨fun x hx=>?_,ih h2⟩
    rcases (ziI r).1 hx with rfl|hx
    ·rcases zvu b x with h5|h5|h5
     ·exact h5
     ·rw [bbS.2 h5.symm] at h3;cases h3
     ·rw [h4] at h5;cases h5
    ·exact h1 x hx
   ·simp only [cond_false,cond_true]
    refine List.pairwise_cons.2 ⟨fun x hx=>?_,h⟩
    rcases List.mem_cons.1 hx with rfl|hx
    ·exact h4
    ·exact zm8 h4 (h1 x hx)
  ·exact h
theorem zoR {l r:List Str} (hl:SrtS l) (hr:SrtS r) (h:∀ x,x∈l↔x∈r):l=r:=by
 induction l generalizing r with
 | nil =>
  cases r with
  | nil=>rfl
  | cons b r=>exact absurd ((h b).2 List.mem_cons_self) Zs
 | cons a l ih =>
  cases r with
  | nil=>exact absurd ((h a).1 List.mem_cons_self) Zs
  | cons b r =>
   obtain ⟨h1,h2⟩:=List.pairwise_cons.1 hl
   obtain ⟨h3,h4⟩:=List.pairwise_cons.1 hr
   have e:a=b:=by
    rcases List.mem_cons.1 ((h a).1 List.mem_cons_self) with h5|h5
    ·exact h5
    ·rcases List.mem_cons.1 ((h b).2 List.mem_cons_self) with h6|h6
     ·exact h6.symm
     ·have:=zm8 (h1 b h6) (h3 a h5);rw [zlP] at this;cases this
   subst e
   congr 1
   refine ih h2 h4 fun x=>⟨fun hx=>?_,fun hx=>?_⟩
   ·rcases List.mem_cons.1 ((h x).1 (List.mem_cons_of_mem _ hx)) with rfl|h5
    ·have:=h1 _ hx;rw [zlP] at this;cases this
    ·exact h5
   ·rcases List.mem_cons.1 ((h x).2 (List.mem_cons_of_mem _ hx)) with rfl|h5
    ·have:=h3 _ hx;rw [zlP] at this;cases this
    ·exact h5
def srtS (l:List Str):List Str:=l.foldl inKs []
theorem zro (l:List Str):∀ ks:List Str,SrtS ks->SrtS (l.foldl inKs ks)/\∀ x,x∈l.foldl inKs ks↔x∈ks\/x∈l:=by
 induction l with
 | nil=>intro ks h;exact ⟨h,fun x=>by simp⟩
 | cons a r ih =>
  intro ks h
  obtain ⟨h1,h2⟩:=ih _ (h.ins a)
  refine ⟨h1,fun x=>?_⟩
  rw [List.foldl_cons,h2,ziI,List.mem_cons]
  exact ⟨fun h=>by rcases h with (h|h)|h <;> simp [h],fun h=>by rcases h with h|h|h <;> simp [h]⟩
theorem zoT (l:List Str):SrtS (srtS l):=(zro l [] List.Pairwise.nil).1
theorem ztO {l:List Str} {x:Str}:x∈srtS l↔x∈l:=by
 rw [srtS,(zro l [] List.Pairwise.nil).2];simp
theorem zBr {l r:List Str} (hr:SrtS r) (h:∀ x,x∈r↔x∈l):r=srtS l:=zoR hr (zoT l) fun x=>by rw [ztO,h]
theorem zul (l:List Str):∀ ks:List Str,(l.foldl inKs ks).length<=ks.length+l.length:=by
 have h1:∀ (ks:List Str) (a:Str),(inKs ks a).length<=ks.length+1:=fun ks a=>by
  induction ks with
  | nil=>simp [inKs]
  | cons b r ih=>unfold inKs;cases a==b <;> cases ltS a b <;> simp <;> omega
 induction l with
 | nil=>intro ks;simp
 | cons a r ih =>
  intro ks
  have h2:=ih (inKs ks a)
  have h3:=h1 ks a
  simp only [List.foldl_cons,List.length_cons]
  omega
theorem zoS (l:List Str):(srtS l).length<=l.length:=by have:=zul l [];rw [List.length_nil,Nat.zero_add] at this;exact this
theorem zhP {a l:List Acc} (h:AccS a):zae a (zae [] l)=zae a l :=
 zlt (h.all _) (h.all _) fun x=>by
  rw [zeD,zeD,zeD];simp
theorem zbQ:AccS []:=List.Pairwise.nil
theorem zha (l:List Acc):AccS (zae [] l):=zbQ.all l
theorem zhO {a l:List Acc} {x:Acc}:zae a (l++[x])=addK (zae a l) x:=by rw [zaP];rfl
theorem zmJ {l r:List Acc} (h:∀ x,x∈l↔x∈r):zae [] l=zae [] r :=
 zlt (zha l) (zha r) fun x=>by rw [zeD,zeD];simp [h]
def flX:Nat->List X->List X
 | 0,_=>[]
 | n+1,l=>l.flatMap fun e=>e::(flX n e.args++e.sub.flatMap fun q=>flX n q.items++flX n q.wh)
def flQ (n:Nat) (l:List Qy):List X:=l.flatMap fun q=>flX n q.items++flX n q.wh
def nmE (q:Str) (e:X):List Str:=bif e.kind==2&&e.table.toList==q.toList then [e.name] else []
def zaq (q:Str):Nat->X->List Str
 | 0,_=>[]
 | n+1,e=>(bif e.kind==2&&e.table.toList==q.toList then [e.name] else [])++(e.args.flatMap (zaq q n)++e.sub.flatMap fun y=>y.items.flatMap (zaq q n)++y.wh.flatMap (zaq q n))
structure AgF (q:Str) (S:List UInt8->Prop) (a b:Fr):Prop where
 name:a.name=b.name
 strict:a.strict=b.strict
 cols:a.cols=b.cols
 len:a.vals.length=b.vals.length
 vals:a.vals=b.vals\/(a.name.toList=q.toList/\a.strict=true/\∀ (i:Nat) (c:Col),a.cols[i]?=some c->S c.name.toList->a.vals[i]?=b.vals[i]?)
theorem AgF.refl (q:Str) (S:List UInt8->Prop) (a:Fr):AgF q S a a:=⟨rfl,rfl,rfl,rfl,.inl rfl⟩
structure AgFs (q:Str) (S:List UInt8->Prop) (f g:List Fr):Prop where
 len:f.length=g.length
 at_:∀ k,AgF q S (f.getD k za1) (g.getD k za1)
theorem AgFs.ins {q:Str} {S:List UInt8->Prop} {f g:List Fr} (h:AgFs q S f g) (t:Tb) (v:List V):AgFs q S (zcA f t v) (zcA g t v):=by
 refine ⟨by simp [zcA,h.len],fun k=>?_⟩
 have hk:=h.at_ k
 have hl:=h.len
 simp only [zcA,List.getD_eq_getElem?_getD] at hk ⊢
 rw [List.getElem?_append,List.getElem?_append,← hl]
 by_cases hlt:k < f.length
 ·rw [if_pos hlt,if_pos hlt];exact hk
 ·rw [if_neg hlt,if_neg hlt];exact .refl _ _ _
theorem zcy {p:Prop} (h:p:=by first|assumption|exact FmI.start (zyy ‹_›) Zs|exact FmI.start (zyz ‹_› ‹_›) Zs|exact FmI.start (zyA ‹_› ‹_›) Zs|exact FmI.second ‹_› ha|omega|(simp;done)):p:=h
theorem znf {p:Prop} (h:p:=by first|assumption|exact FmI.start hI.eq.symm hI.len|omega|(simp;done)):p:=h
@[simp] theorem xcells_len (x:X):x.cells.length=10:=by cases x;rfl
@[simp] theorem mem_cellsX (c:List AV) (l:List X):c∈zad l↔∃ x∈l,x.cells=c:=by rw [zbj,List.mem_map]
structure FmI {α β:Type} (l:List α) (f:α->List β) (pre out:List β) (B C i:Nat):Prop where
 eq:out=pre++(l.take i).flatMap f
 len:out.length<=B+i * C
theorem FmI.zero {α β:Type} {l:List α} {f:α->List β} {pre:List β} {B C:Nat} (h:pre.length<=B):FmI l f pre pre B C 0:=⟨by simp,by simpa using h⟩
theorem FmI.step {α β:Type} {l:List α} {f:α->List β} {pre out:List β} {B C i:Nat} {x:α} (h:FmI l f pre out B C i) (hx:l[i]?=some x) (hl:(f x).length<=C):FmI l f pre (out++f x) B C (i+1) :=
 ⟨by rw [List.take_add_one,hx,List.flatMap_append,h.eq];simp,by have:=h.len;rw [List.length_append,Nat.succ_mul];omega⟩
theorem FmI.all {α β:Type} {l:List α} {f:α->List β} {pre out:List β} {B C:Nat} (h:FmI l f pre out B C l.length):out=pre++l.flatMap f:=by have:=h.eq;rwa [List.take_length] at this
theorem FmI.room {α β:Type} {l:List α} {f:α->List β} {pre out:List β} {B C i n k:Nat} (h:FmI l f pre out B C i) (hi:i<=n) (hk:B+n * C+k<=1000000000) {m:Nat} (hm:m<=k):out.length+m<=1000000000:=by
 have h1:=h.len
 have h2:=Nat.mul_le_mul_right C hi
 omega
abbrev NamC (q:Str) (f:X->List Str) (x:X):Prop:=zab E0 S.AL [x.av,sv q] [] (ssl (f x)) []/\(f x).length<=4000000
def preN (e:X) (q:Str):List Str:=bif e.kind==2&&e.table.toList==q.toList then [e.name] else []
theorem zyy {e:X} {q:Str} (h:(e.kind==2)=false):preN e q=[]:=by simp [preN,h]
theorem zyz {e:X} {q:Str} (h:(e.kind==2)=true) (h2:(e.table.toList==q.toList)=false):preN e q=[]:=by simp [preN,h,h2]
theorem zyA {e:X} {q:Str} (h:(e.kind==2)=true) (h2:(e.table.toList==q.toList)=true):preN e q=[e.name]:=by simp [preN,h,h2]
theorem FmI.start {α β:Type} {l:List α} {f:α->List β} {pre out:List β} {B C:Nat} (he:pre=out) (h:out.length<=B):FmI l f pre out B C 0:=⟨by simp [he],by simpa using h⟩
noncomputable def L_nmA (e:X) (q:Str) (f:X->List Str) (i:Nat) (out:List Str):Cfg:=zan B.AL 0 [(1,sv q),(2,.p 0 0),(5,.own 1 out.length),(27,.sl (zad e.args)),(28,iv ((zad e.args).length:Nat)),(29,iv (i:Nat))] [.box e.cells,.row Ty.string (out.map fun s=>[sv s]) false]
theorem zbE (e:X) (q:Str) (f:X->List Str) (ha:Thin 3 e.args) (hr:∀ x∈e.args,NamC q f x) (i:Nat) (out:List Str) (hi:i<=(e.args).length) (hI:FmI e.args f (preN e q) out 1 4000000 i):∃ (out':List Str),(FmI e.args f (preN e q) out' 1 4000000 (e.args).length)/\(decide ((((e.args).length:Nat):Int) < (((zad e.args).length:Nat):Int))=false)/\∀ R,Good E0 B.AL [] (L_nmA e q f (e.args).length out') R->Good E0 B.AL [] (L_nmA e q f i out) R:=by
 have hk:=hi;revert i out;refine zlp ((e.args).length) (fun i hlt ih out hi hI _=>?_)
 obtain ⟨x,hx,h0,hw⟩:=zlq (l:=e.args) ((zad e.args).length) hlt
 have hfx:=(hr x (List.mem_of_getElem? hx)).1
 have hfl:=(hr x (List.mem_of_getElem? hx)).2
 have hol:=hI.room (n:=3) (k:=4000000) (by simp only [Thin] at ha;omega) Zo hfl
 exact Zih (ih (out++f x) Zo (by exact hI.step hx hfl) Zo) fun R gY=>zaa (wkl [sb h0,se (zak hx),sc hfx,sqx (AllLen (List.map (fun s=>[sv s]) (f x)) 1/\out.length=(List.map (fun s=>[sv s]) out).length/\(((List.map (fun s=>[sv s]) out).length+(List.map (fun s=>[sv s]) (f x)).length) * 16).le 140737488355328),si hw] [1,2,5,27,28,29] 2 kr (zaE 5 1 (List.map (fun s=>[sv s]) out++List.map (fun s=>[sv s]) (f x)) gY (he:=Zcv1) (hm:=Zcv1)))
def subN (f:X->List Str) (y:Qy):List Str:=(y.items++y.wh).flatMap f
abbrev preQ (e:X) (q:Str) (f:X->List Str):List Str:=preN e q++e.args.flatMap f
theorem namS {q:Str} {f:X->List Str} {y:Qy} (h:(∀ x∈y.items,NamC q f x)/\∀ x∈y.wh,NamC q f x):∀ x∈y.items++y.wh,NamC q f x:=fun x hx=>(List.mem_append.1 hx).elim (h.1 x) (h.2 x)
theorem FmI.next {l:List Qy} {f:X->List Str} {pre out out':List Str} {B i:Nat} {y:Qy} (h:FmI l (subN f) pre out B 36000000 i) (hx:l[i]?=some y) (h1:Thin 8 y.items) (h2:Thin 1 y.wh) (h3:FmI (y.items++y.wh) f (pre++(l.take i).flatMap (subN f)) out' (B+i * 36000000) 4000000 (y.items++y.wh).length):FmI l (subN f) pre out' B 36000000 (i+1) :=
 ⟨by rw [h3.all,List.take_add_one,hx,List.flatMap_append];simp [subN],by have:=h3.len;simp only [Thin,List.length_append] at *;omega⟩
theorem zvk {a b:List X} {i:Nat} {x:X} (hx:(a++b)[i]?=some x):ElAt (zad a++zad b) (i:Int) x.cells 10:=by
 rw [← zpn];exact zak hx
noncomputable def L_nmX (e:X) (q:Str) (f:X->List Str) (io:Nat) (y:Qy) (i:Nat) (out:List Str):Cfg:=zan B.AL 2 [(1,sv q),(5,.own 1 out.length),(40,.sl (zal e.sub)),(41,iv ((zal e.sub).length:Nat)),(42,iv (io:Nat)),(51,.sl (zad y.items++zad y.wh)),(52,iv ((zad y.items++zad y.wh).length:Nat)),(53,iv (i:Nat))] [.box e.cells,.row Ty.string (out.map fun s=>[sv s]) false]
theorem zjG (e:X) (q:Str) (f:X->List Str) (io:Nat) (y:Qy) (hio:io<=1) (h1:Thin 8 y.items) (h2:Thin 1 y.wh) (hr:∀ x∈y.items++y.wh,NamC q f x) (i:Nat) (out:List Str) (hi:i<=((y.items++y.wh)).length) (hI:FmI (y.items++y.wh) f (preQ e q f++(e.sub.take io).flatMap (subN f)) out (12000001+io * 36000000) 4000000 i):∃ (out':List Str),(FmI (y.items++y.wh) f (preQ e q f++(e.sub.take io).flatMap (subN f)) out' (12000001+io * 36000000) 4000000 ((y.items++y.wh)).length)/\(decide (((((y.items++y.wh)).length:Nat):Int) < (((zad y.items++zad y.wh).length:Nat):Int))=false)/\∀ R,Good E0 B.AL [] (L_nmX e q f io y ((y.items++y.wh)).length out') R->Good E0 B.AL [] (L_nmX e q f io y i out) R:=by
 obtain ⟨kk,hk⟩:∃ kk,i+kk=((y.items++y.wh)).length:=⟨((y.items++y.wh)).length - i,by omega⟩
 induction kk generalizing i out with
 | zero =>
  have e0:i=((y.items++y.wh)).length:=by omega
  subst e0
  exact ⟨out,hI,by simp,fun R hg=>hg⟩
 | succ kk ih =>
  obtain ⟨x,hx⟩:=zbK (l:=(y.items++y.wh)) (i:=i) Zo
  have h0:decide (((i:Nat):Int) < (((zad y.items++zad y.wh).length:Nat):Int))=true:=by (simp only [List.length_append] at hk;simp;omega)
  have hw:IntKind.i64.wrap (((i:Nat):Int)+1)=((i+1:Nat):Int):=zbw i (by simp only [Thin,List.length_append] at *;omega)
  have hel:=zvk hx
  have hfx:=(hr x (List.mem_of_getElem? hx)).1
  have hfl:=(hr x (List.mem_of_getElem? hx)).2
  have hol:=hI.room (n:=9) (k:=4000000) (by simp only [Thin,List.length_append] at *;omega) Zo hfl
  exact Zih (ih (i+1) (out++f x) Zo (by exact hI.step hx hfl) Zo) fun R gY=>zaa (wkl [sb h0,se hel,sc hfx,sqx (AllLen (List.map (fun s=>[sv s]) (f x)) 1/\out.length=(List.map (fun s=>[sv s]) out).length/\(((List.map (fun s=>[sv s]) out).length+(List.map (fun s=>[sv s]) (f x)).length) * 16).le 140737488355328),si hw] [1,5,40,41,42,51,52,53] 2 kr (zaR (show ([(1,sv q),(5,AV.own 1 (List.map (fun s=>[sv s]) out++List.map (fun s=>[sv s]) (f x)).length),(40,AV.sl (zal e.sub)),(41,iv (↑(zal e.sub).length:Int)),(42,iv (io:Int)),(51,AV.sl (zad y.items++zad y.wh)),(52,iv (↑(zad y.items++zad y.wh).length:Int)),(53,iv (↑(i+1):Int))]:TS)=_ from Zcv1) (show ([Blk.box e.cells,Blk.row Ty.string (List.map (fun s=>[sv s]) out++List.map (fun s=>[sv s]) (f x)) false]:Heap)=_ from Zcv1) gY))
theorem FmI.second {e:X} {q:Str} {f:X->List Str} {out:List Str} (h:FmI e.args f (preN e q) out 1 4000000 e.args.length) (ha:Thin 3 e.args):FmI e.sub (subN f) (preQ e q f) out 12000001 36000000 0 :=
 .start h.all.symm (by have:=h.len;simp only [Thin] at ha;omega)
theorem FmI.third {e:X} {q:Str} {f:X->List Str} {out:List Str} (h:FmI e.sub (subN f) (preQ e q f) out 12000001 36000000 e.sub.length) (hu:Thin 1 e.sub):out=preQ e q f++e.sub.flatMap (subN f):=h.all
noncomputable def L_nmQ (e:X) (q:Str) (f:X->List Str) (i:Nat) (out:List Str):Cfg:=zan B.AL 1 [(1,sv q),(5,.own 1 out.length),(40,.sl (zal e.sub)),(41,iv ((zal e.sub).length:Nat)),(42,iv (i:Nat))] [.box e.cells,.row Ty.string (out.map fun s=>[sv s]) false]
theorem zbF (e:X) (q:Str) (f:X->List Str) (hu:Thin 1 e.sub) (hq:∀ y∈e.sub,(Thin 8 y.items/\Thin 1 y.wh)/\(∀ x∈y.items,NamC q f x)/\∀ x∈y.wh,NamC q f x) (i:Nat) (out:List Str) (hi:i<=(e.sub).length) (hI:FmI e.sub (subN f) (preQ e q f) out 12000001 36000000 i):∃ (out':List Str),(FmI e.sub (subN f) (preQ e q f) out' 12000001 36000000 (e.sub).length)/\(decide ((((e.sub).length:Nat):Int) < (((zal e.sub).length:Nat):Int))=false)/\∀ R,Good E0 B.AL [] (L_nmQ e q f (e.sub).length out') R->Good E0 B.AL [] (L_nmQ e q f i out) R:=by
 have hk:=hi;revert i out;refine zlp ((e.sub).length) (fun i hlt ih out hi hI _=>?_)
 obtain ⟨x,hx,h0,hw⟩:=zlq (l:=e.sub) ((zal e.sub).length) hlt
 have hi1:=(hq x (List.mem_of_getElem? hx)).1.1;have hi2:=(hq x (List.mem_of_getElem? hx)).1.2;have hrr:=namS (hq x (List.mem_of_getElem? hx)).2;have hi9:i<=1:=by (simp only [Thin] at hu;omega)
 obtain ⟨out1,q1,q1_1,g1⟩:=zjG e q f i x znf znf znf hrr 0 out znf znf
 exact Zih (ih out1 Zo (by exact hI.next hx hi1 hi2 ‹_›) Zo) fun R gY=>zaa (wklN [sb h0,se (zba hx),sd [(2,[sqx (AllLen (zad x.items) 10/\((zad x.items).length * 136).le 140737488355328)]),(5,[sqx (AllLen (zad x.wh) 10/\(zad x.items).length=(zad x.items).length/\(((zad x.items).length+(zad x.wh).length) * 136).le 140737488355328)]),(6,[sqx ((zad x.items++zad x.wh).length=(zad x.items++zad x.wh).length)])],sqx ((zad x.items++zad x.wh).length=(zad x.items++zad x.wh).length)] [1,5,40,41,42,51,52,53] 4 [(.fz 51,2)] kr (g1 _ (zaa (wkl [sb q1_1,si hw] [1,5,40,41,42] 2 kr gY))))
theorem zrB (e:X) (q:Str) (f:X->List Str) (ha:Thin 3 e.args) (hr:∀ x∈e.args,NamC q f x) (hu:Thin 1 e.sub) (hq:∀ y∈e.sub,(Thin 8 y.items/\Thin 1 y.wh)/\(∀ x∈y.items,NamC q f x)/\∀ x∈y.wh,NamC q f x):∃ (r:List Str),r=preQ e q f++e.sub.flatMap (subN f)/\zab E0 S.AL [e.av,sv q] [] (ssl r) []:=by
 cases h1:e.kind==2
 ·obtain ⟨out2,q2,q2_1,g2⟩:=zbE e q f zcy hr 0 ([]) zcy zcy
  obtain ⟨out3,q3,q3_1,g3⟩:=zbF e q f zcy hq 0 out2 zcy zcy
  exact ⟨out3,(by exact FmI.third ‹_› hu),wkcN At.AL [sb h1] [1,2,5,27,28,29] 1 [(.ot 5 Ty.string,2)] kr (g2 _ (zaa (wkl [sb q2_1] [1,5,40,41,42] 2 kr (g3 _ (zaa (wkr [sqx (out3.length=(List.map (fun s=>[sv s]) out3).length),sb q3_1] kr))))))⟩
 ·cases h4:ByteArray.toList e.table==ByteArray.toList q
  ·obtain ⟨out5,q5,q5_1,g5⟩:=zbE e q f zcy hr 0 ([]) zcy zcy
   obtain ⟨out6,q6,q6_1,g6⟩:=zbF e q f zcy hq 0 out5 zcy zcy
   exact ⟨out6,(by exact FmI.third ‹_› hu),wkcN At.AL [sg h1,sb h4] [1,2,5,27,28,29] 1 [(.ot 5 Ty.string,2)] kr (g5 _ (zaa (wkl [sb q5_1] [1,5,40,41,42] 2 kr (g6 _ (zaa (wkr [sqx (out6.length=(List.map (fun s=>[sv s]) out6).length),sb q6_1] kr))))))⟩
  ·obtain ⟨out7,q7,q7_1,g7⟩:=zbE e q f zcy hr 0 ([e.name]) zcy zcy
   obtain ⟨out8,q8,q8_1,g8⟩:=zbF e q f zcy hq 0 out7 zcy zcy
   exact ⟨out8,(by exact FmI.third ‹_› hu),wkc At.AL [sg h1,sb h4,sqx (AllLen [[sv e.name]] 1/\Nat.le 16 140737488355328)] [1,2,5,27,28,29] 2 kr (g7 _ (zaa (wkl [sb q7_1] [1,5,40,41,42] 2 kr (g8 _ (zaa (wkr [sqx (out8.length=(List.map (fun s=>[sv s]) out8).length),sb q8_1] kr))))))⟩
theorem zvI (f:X->List Str):subN f=fun y=>y.items.flatMap f++y.wh.flatMap f:=by funext y;simp [subN]
theorem zaz {α β:Type} {l:List α} {f:α->List β} {C:Nat} (h:∀ x∈l,(f x).length<=C):(l.flatMap f).length<=l.length * C:=by
 induction l with
 | nil=>simp
 | cons a r ih =>
  rw [List.flatMap_cons,List.length_append,List.length_cons,Nat.succ_mul]
  have h1:=h a Zs
  have h2:=ih fun x hx=>h x (by simp [hx])
  omega
def nb:Nat->Nat
 | 0=>0
 | n+1=>1+12 * nb n
theorem zeq (q:Str):∀ (n:Nat) (e:X),XOk n e->(zaq q n e).length<=nb n
 | 0,_,h=>h.elim
 | n+1,e,⟨_,hl,ha,hs⟩=>by
  have h1:=zaz (f:=zaq q n) fun x hx=>zeq q n x (ha x hx)
  have h2:(e.sub.flatMap fun y=>y.items.flatMap (zaq q n)++y.wh.flatMap (zaq q n)).length<=e.sub.length * (9 * nb n):=zaz fun y hy=>by
   have h3:=zaz (f:=zaq q n) fun x hx=>zeq q n x ((hs y hy).2.1 x hx)
   have h4:=zaz (f:=zaq q n) fun x hx=>zeq q n x ((hs y hy).2.2 x hx)
   have h5:=Nat.mul_le_mul_right (nb n) (hs y hy).1.1
   have h6:=Nat.mul_le_mul_right (nb n) (hs y hy).1.2
   rw [List.length_append]
   omega
  have h7:=Nat.mul_le_mul_right (nb n) hl.1
  have h8:=Nat.mul_le_mul_right (9 * nb n) hl.2
  have h9:(bif e.kind==2&&e.table.toList==q.toList then [e.name] else []).length<=1:=by
   cases e.kind==2&&e.table.toList==q.toList <;> simp
  simp only [zaq,List.length_append,nb] at *
  omega
theorem zsw:∀ {n:Nat},n<=6->nb n<=300000:=fun {n} h=>by
 have:n=0\/n=1\/n=2\/n=3\/n=4\/n=5\/n=6:=by omega
 rcases this with rfl|rfl|rfl|rfl|rfl|rfl|rfl <;> decide
theorem nb_le7:∀ {n:Nat},n<=7->nb n<=4000000:=fun {n} h=>by
 by_cases h7:n=7
 ·subst h7;decide
 ·exact Nat.le_trans (zsw Zo) Zo
theorem namC:∀ (n:Nat) (e:X) (q:Str),n<=7->XOk n e->NamC q (zaq q n) e
 | 0,_,_,_,h=>h.elim
 | n+1,e,q,hn,h=>by
  have h0:=h
  obtain ⟨_,hl,ha,hs⟩:=h
  refine ⟨?_,Nat.le_trans (zeq q (n+1) e h0) (nb_le7 hn)⟩
  obtain ⟨r,hr,hc⟩:=zrB e q (zaq q n) hl.1 (fun x hx=>namC n x q Zo (ha x hx)) hl.2 fun y hy=>⟨(hs y hy).1,fun x hx=>namC n x q Zo ((hs y hy).2.1 x hx),fun x hx=>namC n x q Zo ((hs y hy).2.2 x hx)⟩
  have:r=zaq q (n+1) e:=by
   rw [hr]
   simp only [zaq,preQ,preN,zvI,List.append_assoc]
  rw [← this]
  exact hc
end Go.AM
namespace Go.AM
open Go.RowKit
theorem zxp {E:Env0} (ht:zaL E) (hm:E.P.follows .mixedOrders=true) {id:Nat} {ops:Array Oper} {osl:List (Nat × List Orc)} {n:Nat} {ts:TS} {h hb:Heap} {Q:Exit->Act->World->Prop} {βb β:List Con} {Sb S:Addr->Prop} {wb w:World} {tmps:Array Value} {Ls:List (List Prop × TS × Heap)}
  (hsz:ops.toList.length=ops.size) (hlv:zdk (mk E) ops.toList osl n ops.toList.length [] ts h=some Ls) (hq:∀ l∈Ls,allP l.1) (hn:tmps.size=n) (x:Ext hb βb Sb wb h β S w) (r:Rel E h β S w) (rt:zaK E.T h β w S ts tmps)
  (hK:∀ l∈Ls,∀ (β':List Con) (S':Addr->Prop) (w':World) (tmps':Array Value),tmps'.size=n->Ext hb βb Sb wb l.2.2 β' S' w'->Rel E l.2.2 β' S' w'->zaK E.T l.2.2 β' w' S' l.2.1 tmps'->Q .normal ⟨tmps',[]⟩ w') :
  (Code.region id ops true).wp E.P Q ⟨tmps,[]⟩ w:=by
 refine wp_region_any hm ?_
 have hdg:=zre (E:=mk E) (K:=fun L hh=>∃ l∈Ls,L=look l.2.1/\hh=l.2.2) ops.toList.length [] (Array.replicate ops.size false) ts h _ ⟨by simp,fun j hj=>?_⟩ Zs (fun j o ho hj=>?_) hlv (fun l hl=>?_)
 ·have hbel:BelowD w.heap.size w { w with drawn:=w.drawn+1 }:=⟨⟨rfl,rfl,rfl,Nat.le_refl _,fun _ _=>rfl⟩,Nat.le_succ _⟩
  have x1:Ext h β S w h β S { w with drawn:=w.drawn+1 }:=Ext.grow r hbel (fun _ h=>h) (fun _ h=>.inl h)
  have r1:Rel E h β S { w with drawn:=w.drawn+1 }:=r.grow hbel (fun _ h=>h) (fun _ h=>.inl h)
  have:=zsS (Q:=Q) ht (fun L hh β' S' w' tmps' hKK hn' x' r' rl'=>by
   obtain ⟨l,hl,rfl,rfl⟩:=hKK
   exact hK l hl β' S' w' tmps' hn' x' r' rl') ops.toList.length _ _ _ β S _ tmps hdg hn (x.trans x1) r1 (fun t=>(rt t).ext x1)
  rw [hsz] at this
  simpa using this
 ·have:j < ops.size:=by simpa using hj
  simp [memN,this]
 ·by_cases hjs:j < ops.size
  ·simp [hjs] at hj
  ·simp [hjs] at hj
 ·exact ⟨hq l hl,l,hl,rfl,rfl⟩
def zwA (E:Env) (c:Cfg) (osl:List (Nat × List Orc)):Option (List It × List (List Prop × TS × Heap)):=match c.todo with
 | .code (.region _ ops true)::k=>match zdk E ops.toList osl c.n ops.toList.length [] c.ts c.h,Nat.beq ops.toList.length ops.size with
  | some l,true=>some (k,l)
  | _,_=>none
 | _=>none
theorem ztx {E:Env0} (ht:zaL E) (hm:E.P.follows .mixedOrders=true) {fn:Func} {R:AV->Heap->Prop} {h0:Heap} {c:Cfg} {osl:List (Nat × List Orc)} {k:List It} {Ls:List (List Prop × TS × Heap)} (hd:zwA (mk E) c osl=some (k,Ls)) (hq:∀ l∈Ls,allP l.1) (hg:∀ l∈Ls,Good E fn h0 ⟨c.n,k,l.2.1,l.2.2⟩ R):Good E fn h0 c R:=by
 intro β0 S0 w0 β S w tmps hb0 hn x0 r rt
 obtain ⟨n,todo,ts,h⟩:=c
 simp only at hn x0 r rt ⊢
 unfold zwA at hd
 simp only at hd
 split at hd
 ·rename_i id ops k'
  split at hd
  ·rename_i Ls' hlv hsz
   cases hd
   simp only [kont,Exit.then]
   exact zxp ht hm (Nat.eq_of_beq_eq_true hsz) hlv hq hn x0 r rt fun l hl β' S' w' tmps' hn' x' r' rt'=>hg l hl β0 S0 w0 β' S' w' tmps' hb0 hn' x' r' rt'
  ·cases hd
 ·cases hd
noncomputable def zpt (fn:Func) (m n:Nat) (k:List It) (os1:List Orc):List (List Prop × TS × Heap)->Option (List (List Prop × AV × Heap))
 | []=>some []
 | (q,t,h)::r=>match fin (mk E0) fn m 3000 ⟨n,k,t,h⟩ os1,zpt fn m n k os1 r with
  | some (p,y,H),some l=>some ((q++p,y,H)::l)
  | _,_=>none
noncomputable def runDs (fn:Func) (args:List AV) (h:Heap) (n:Nat) (os0:List Orc) (osl:List (Nat × List Orc)) (os1:List Orc):Option (List Prop × List (List Prop × AV × Heap)) :=
 match fn.body, (fn.name == "runtime.NumGoroutine"), Nat.ble args.length fn.ntmps with
 | some c,false,true=>match run (mk E0) n ⟨fn.ntmps,[.code c],zbU 0 args,h⟩ os0 with
  | (q0,c1,_)=>match zwA (mk E0) c1 osl with
   | some (k,Ls)=>(zpt fn h.length c1.n k os1 Ls).map fun l=>(q0,l)
   | none=>none
 | _,_,_=>none
theorem zmU {fn:Func} {h0:Heap} {m n:Nat} {k:List It} {l1:List St} {r:AV} {H:Heap}:∀ {Ls:List (List Prop × TS × Heap)} {aa:List (List St)},zpt fn m n k (orcs l1) Ls=some (aa.map fun a=>(zbg (a++l1),r,H)) ->
  ∀ l∈Ls,allP l.1/\Good E0 fn h0 ⟨n,k,l.2.1,l.2.2⟩ (Shut m fun y h=>y=r/\h=H)
 | [],_,_,l,hl=>by cases hl
 | (q,t,h)::Ls,aa,hf,l,hl=>by
  unfold zpt at hf
  split at hf
  ·rename_i p y H' rest h1 h2
   cases aa with
   | nil=>simp at hf
   | cons a aa =>
    simp only [List.map_cons,Option.some.injEq,List.cons.injEq,Prod.mk.injEq] at hf
    obtain ⟨⟨e1,rfl,rfl⟩,e2⟩:=hf
    have hp:=zaZ (a++l1)
    rw [← e1] at hp
    rcases List.mem_cons.1 hl with rfl|hl
    ·exact ⟨(zdg hp).1,ziv E0ok mix0 3000 (orcs l1) h1 (zdg hp).2 ⟨rfl,rfl⟩⟩
    ·exact zmU (aa:=aa) (by rw [h2,e2]) l hl
  ·cases hf
theorem wkDs {f:FuncId} {fn:Func} {args:List AV} {h H:Heap} {r:AV} (hf:E0.P.funcs[f]?=some fn) (l0:List St) (n:Nat) (osl:List (Nat × List Orc)) (aa:List (List St)) (l1:List St) (hfin:runDs fn args h n (orcs l0) osl (orcs l1)=some (zbg l0,aa.map fun a=>(zbg (a++l1),r,H))):zab E0 f args h r H:=by
 unfold runDs at hfin
 split at hfin
 ·rename_i c hb hname ha
  split at hfin
  rename_i q0 c1 os' hrun
  split at hfin
  ·rename_i k Ls hd
   simp only [Option.map_eq_some_iff,Prod.mk.injEq] at hfin
   obtain ⟨l,h1,e0,rfl⟩:=hfin
   refine zdX (zaY hf hb hname (Nat.le_of_ble_eq_true ha) (zhm E0ok mix0 n _ (orcs l0) (by rw [hrun,e0];exact zaZ l0) ?_))
   rw [hrun]
   exact ztx E0ok mix0 hd (fun l hl=>(zmU (h0:=h) h1 l hl).1) fun l hl=>(zmU h1 l hl).2
  ·cases hfin
 ·cases hfin
end Go.AM
namespace Go.AM
theorem zw5 {p:Prop} (h:p:=by (unfold knS;cases hh1:(ByteArray.toList n==ZsI.toList) <;> cases hh2:(ByteArray.toList n==ZsD.toList) <;> simp only [cond_true,cond_false] <;> simp_all)):p:=h
theorem zlu (ks:List Acc) (a:Acc):(addK ks a).length<=ks.length+1:=by
 induction ks with
 | nil=>simp [addK]
 | cons b r ih=>unfold addK;cases eqA a b <;> cases ltA a b <;> simp <;> omega
theorem za4 (l:List Acc):∀ ks:List Acc,(zae ks l).length<=ks.length+l.length:=by
 induction l with
 | nil=>intro ks;simp [zae]
 | cons a r ih =>
  intro ks
  have h1:=ih (addK ks a)
  have h2:=zlu ks a
  simp only [zae,List.foldl_cons,List.length_cons] at *
  omega
theorem zuz {a b:List Acc} {x:Acc} {i:Nat} (hx:b[i]?=some x):zae a (b.take (i+1))=addK (zae a (b.take i)) x:=by
 rw [List.take_add_one,hx,Option.toList_some,zaP];rfl
noncomputable def L_un (a b:List Acc) (i:Nat) (out:List Acc):Cfg:=zan B.Cm 0 [(5,.sl (out.map Acc.cells)),(10,.sl (b.map Acc.cells)),(11,iv ((b.map Acc.cells).length:Nat)),(12,iv (i:Nat))] []
theorem zkt (a b:List Acc) (hs:AccS a) (hl:a.length+b.length<=300000000) (i:Nat) (out:List Acc) (hi:i<=(b).length) (hI:out=zae a (b.take i)):∃ (out':List Acc),(out'=zae a (b.take (b).length))/\(decide ((((b).length:Nat):Int) < (((b.map Acc.cells).length:Nat):Int))=false)/\∀ R,Good E0 B.Cm [] (L_un a b (b).length out') R->Good E0 B.Cm [] (L_un a b i out) R:=by
 have hk:=hi;revert i out;refine zlp ((b).length) (fun i hlt ih out hi hI _=>?_)
 obtain ⟨x,hx,h0,hw⟩:=zlq (l:=b) ((b.map Acc.cells).length) hlt
 have hso:AccS out:=hI ▸ hs.all _
 have ho:out.length<=300000000:=(by have h9:=za4 (b.take i) a;rw [← hI] at h9;simp only [List.length_take] at h9;omega)
 exact Zih (ih (addK out x) Zo (by (rw [zuz hx,hI])) Zo) fun R gY=>zaa (wkl [sb h0,se (zai Acc.cells hx rfl),sc (zbN out x Zb Zb),si hw] [5,10,11,12] 0 kr gY)
theorem zrA (a b:List Acc) (hs:AccS a) (hl:a.length+b.length<=300000000):∃ (r:List Acc),r=zae a b/\zab E0 S.Cm [.sl (a.map Acc.cells),.sl (b.map Acc.cells)] [] (.sl (r.map Acc.cells)) []:=by
 obtain ⟨out1,q1,q1_1,g1⟩:=zkt a b hs (by first|assumption|omega|rfl) 0 a (by first|assumption|omega|rfl) (by first|assumption|omega|rfl)
 exact ⟨out1,(by (rw [List.take_length] at *;assumption)),wkcN At.Cm [sqx (AllLen (List.map Acc.cells a) 3/\((List.map Acc.cells a).length * 40).le 140737488355328),sqx ((List.map Acc.cells a).length=(List.map Acc.cells a).length)] [5,10,11,12] 1 [(.fz 5,0)] kr (g1 _ (zaa (wkr [sb q1_1] kr)))⟩
theorem zbz (a b:List Acc) (hs:AccS a) (hl:a.length+b.length<=300000000):zab E0 S.Cm [.sl (a.map Acc.cells),.sl (b.map Acc.cells)] [] (.sl ((zae a b).map Acc.cells)) []:=by
 obtain ⟨r,rfl,h⟩:=zrA a b hs hl
 exact h
theorem zqz (m:List Tb) (n:Str) (hm:zac m) (hc:∀ x∈m,zac x.sch.cols):∃ (r:Bool),r=(knS m n).2/\zab E0 S.Cv [tsl m,sv n] [] (bv r) []:=by
 let p_1:List St:=[sc (zbe m n (by first|assumption|omega|(simp;done)|(simp;omega)) (by first|assumption|omega|(simp;done)|(simp;omega)))]
 cases h1:(zaf m n).snd
 ·exact ⟨false,zw5,wk At.Cv (p_1++[sb h1]) kr⟩
 ·cases h2:!ByteArray.toList n==ZsI.toList
  ·exact ⟨false,zw5,wk At.Cv (p_1++[sg h1,sb h2]) kr⟩
  ·exact ⟨!ByteArray.toList n==(ByteArray.mk #[(68:UInt8),(69:UInt8),(76:UInt8),(69:UInt8),(84:UInt8),(69:UInt8),(68:UInt8)]).toList,zw5,wk At.Cv (p_1++[sg h1,sg h2]) kr⟩
theorem zgK (m:List Tb) (n:Str) (hm:zac m) (hc:∀ x∈m,zac x.sch.cols):zab E0 S.Cv [tsl m,sv n] [] (bv (knS m n).2) []:=by
 obtain ⟨r,rfl,h⟩:=zqz m n hm hc
 exact h
theorem zbi {p:Prop} (h:p:=by first|assumption|exact zbQ|exact zbQ.ins _|exact zbc zbQ|exact zbc (zbQ.ins _)|(subst_vars;first|exact zbc zbQ|exact zbc (zbQ.ins _))|exact zpH Zo Zs|exact zpH Zo (zpc _)|exact zyn hC ‹_› Zs Zo|exact zyn hC ‹_› (zpc _) Zo|omega|(simp;done)):p:=h
theorem zqa {p:Prop} (h:p:=by first|exact zyG (m:=m) (frs:=frs) (pre:=[]) ‹_› ‹_› Zr (by simp only [zor, *,cond_true,cond_false])|exact zyG (m:=m) (frs:=frs) (pre:=[_]) ‹_› ‹_› Zr (by simp only [zor, *,cond_true,cond_false])):p:=h
def RxC (m:List Tb) (e:X) (frs:List Fr) (a:List Acc):Prop:=zab E0 S.AW [e.av,fsl frs,tsl m] [] (.sl ((zae [] a).map Acc.cells)) []
def RqC (m:List Tb) (q:Qy) (frs:List Fr) (a:List Acc):Prop:=zab E0 S.BI [q.av,fsl frs,tsl m] [] (.sl ((zae [] a).map Acc.cells)) []
section
variable {α : Type} {l : List α} {f : α -> List Acc} {k0 out : List Acc} {C N i : Nat} {x : α}
theorem zsV (hI:out=zae k0 ((l.take i).flatMap f)) (hC:∀ x∈l,(f x).length<=C) (hi:i<=l.length):out.length<=k0.length+i * C:=by
 rw [hI]
 have h1:=za4 ((l.take i).flatMap f) k0
 have h2:=zaz (l:=l.take i) (f:=f) (C:=C) fun x hx=>hC x (List.mem_of_mem_take hx)
 rw [List.length_take] at h2
 have:min i l.length=i:=by omega
 rw [this] at h2
 omega
theorem zqw (hI:out=zae k0 ((l.take i).flatMap f)) (hx:l[i]?=some x) (hC:∀ x∈l,(f x).length<=C) (hB:k0.length+l.length * C<=N):out.length+(zae [] (f x)).length<=N:=by
 have h0:=zfM hx
 have h1:=zsV hI hC Zo
 have h2:=za4 (f x) []
 have h3:=hC x (List.mem_of_getElem? hx)
 have h4:(i+1) * C<=l.length * C:=Nat.mul_le_mul_right C h0
 rw [Nat.succ_mul] at h4
 simp only [List.length_nil] at h2
 omega
theorem zeB (hks:AccS k0) (hI:out=zae k0 ((l.take i).flatMap f)) (hx:l[i]?=some x):zae out (zae [] (f x))=zae k0 ((l.take (i+1)).flatMap f):=by
 rw [zhP (hI ▸ hks.all _),hI,← zaP,List.take_add_one,hx]
 simp
theorem zel (hks:AccS k0) (hI:out=zae k0 ((l.take i).flatMap f)):AccS out:=hI ▸ hks.all _
end
noncomputable def zr9 (m:List Tb) (e:X) (frs:List Fr) (k0:List Acc) (f:X->List Acc) (C:Nat) (i:Nat) (out:List Acc):Cfg:=zan B.AW 0 [(1,fsl frs),(2,tsl m),(3,.p 0 0),(7,.sl (out.map Acc.cells)),(57,xsl e.args),(58,iv ((zad e.args).length:Nat)),(59,iv (i:Nat))] [.box e.cells]
theorem zkq (m:List Tb) (e:X) (frs:List Fr) (k0:List Acc) (f:X->List Acc) (C:Nat) (hf:∀ x∈e.args,RxC m x frs (f x)) (hC:∀ x∈e.args,(f x).length<=C) (hks:AccS k0) (hB:k0.length+e.args.length * C<=300000000) (hl:zac e.args) (i:Nat) (out:List Acc) (hi:i<=(e.args).length) (hI:out=zae k0 ((e.args.take i).flatMap f)):∃ (out':List Acc),(out'=zae k0 ((e.args.take (e.args).length).flatMap f))/\(decide ((((e.args).length:Nat):Int) < (((zad e.args).length:Nat):Int))=false)/\∀ R,Good E0 B.AW [] (zr9 m e frs k0 f C (e.args).length out') R->Good E0 B.AW [] (zr9 m e frs k0 f C i out) R:=by
 have hk:=hi;revert i out;refine zlp ((e.args).length) (fun i hlt ih out hi hI _=>?_)
 obtain ⟨x,hx,h0,hw⟩:=zlq (l:=e.args) ((zad e.args).length) hlt
 have hso:=zel hks hI;have hro:=zqw hI hx hC hB;have hfx:=hf x (List.mem_of_getElem? hx)
 exact Zih (ih (zae out (zae [] (f x))) Zo (by exact zeB hks hI hx) Zo) fun R gY=>zaa (wkl [sb h0,se (zak hx),sc hfx,sc (zbz out (zae [] (f x)) Zb Zb),si hw] [1,2,3,7,57,58,59] 1 kr gY)
theorem zci (m:List Tb) (e:X) (frs:List Fr) (f:X->List Acc) (C:Nat) (hf:∀ x∈e.args,RxC m x frs (f x)) (hC:∀ x∈e.args,(f x).length<=C) (hl:zac e.args) (ks:List Acc) (hks:AccS ks) (hB:ks.length+e.args.length * C<=300000000):∃ (ks':List Acc),ks'=zae ks (e.args.flatMap f)/\decide (((e.args.length:Nat):Int) < (((zad e.args).length:Nat):Int))=false/\∀ R,Good E0 B.AW [] (zr9 m e frs ks f C e.args.length ks') R->Good E0 B.AW [] (zr9 m e frs ks f C 0 ks) R:=by
 obtain ⟨k',h1,h2,h3⟩:=zkq m e frs ks f C hf hC hks hB hl 0 ks Zo (by simp [zae])
 exact ⟨k',by rw [h1,List.take_length],h2,h3⟩
noncomputable def zsa (m:List Tb) (e:X) (frs:List Fr) (k0:List Acc) (g:Qy->List Acc) (D:Nat) (i:Nat) (out:List Acc):Cfg:=zan B.AW 1 [(1,fsl frs),(2,tsl m),(7,.sl (out.map Acc.cells)),(71,.sl (zal e.sub)),(72,iv ((zal e.sub).length:Nat)),(73,iv (i:Nat))] [.box e.cells]
theorem zkr (m:List Tb) (e:X) (frs:List Fr) (k0:List Acc) (g:Qy->List Acc) (D:Nat) (hg:∀ x∈e.sub,RqC m x frs (g x)) (hD:∀ x∈e.sub,(g x).length<=D) (hks:AccS k0) (hB:k0.length+e.sub.length * D<=300000000) (hl:zac e.sub) (i:Nat) (out:List Acc) (hi:i<=(e.sub).length) (hI:out=zae k0 ((e.sub.take i).flatMap g)):∃ (out':List Acc),(out'=zae k0 ((e.sub.take (e.sub).length).flatMap g))/\(decide ((((e.sub).length:Nat):Int) < (((zal e.sub).length:Nat):Int))=false)/\∀ R,Good E0 B.AW [] (zsa m e frs k0 g D (e.sub).length out') R->Good E0 B.AW [] (zsa m e frs k0 g D i out) R:=by
 have hk:=hi;revert i out;refine zlp ((e.sub).length) (fun i hlt ih out hi hI _=>?_)
 obtain ⟨x,hx,h0,hw⟩:=zlq (l:=e.sub) ((zal e.sub).length) hlt
 have hso:=zel hks hI;have hro:=zqw hI hx hD hB;have hfx:=hg x (List.mem_of_getElem? hx)
 exact Zih (ih (zae out (zae [] (g x))) Zo (by exact zeB hks hI hx) Zo) fun R gY=>zaa (wkl [sb h0,se (zba hx),sc hfx,sc (zbz out (zae [] (g x)) Zb Zb),si hw] [1,2,7,71,72,73] 1 kr gY)
theorem zcj (m:List Tb) (e:X) (frs:List Fr) (g:Qy->List Acc) (D:Nat) (hg:∀ x∈e.sub,RqC m x frs (g x)) (hD:∀ x∈e.sub,(g x).length<=D) (hl:zac e.sub) (ks:List Acc) (hks:AccS ks) (hB:ks.length+e.sub.length * D<=300000000):∃ (ks':List Acc),ks'=zae ks (e.sub.flatMap g)/\decide (((e.sub.length:Nat):Int) < (((zal e.sub).length:Nat):Int))=false/\∀ R,Good E0 B.AW [] (zsa m e frs ks g D e.sub.length ks') R->Good E0 B.AW [] (zsa m e frs ks g D 0 ks) R:=by
 obtain ⟨k',h1,h2,h3⟩:=zkr m e frs ks g D hg hD hks hB hl 0 ks Zo (by simp [zae])
 exact ⟨k',by rw [h1,List.take_length],h2,h3⟩
theorem zor (m:List Tb) (e:X) (frs:List Fr):zcw m e frs=bif (za6 frs e.table e.name).2.2 then bif !(rFr frs e.table e.name).strict then bif (knS m (rFr frs e.table e.name).name).2 then [⟨(rFr frs e.table e.name).name,e.name,1⟩] else [] else [] else []:=by
 unfold zcw;rw [zom]
 cases (za6 frs e.table e.name).2.2 <;> cases (rFr frs e.table e.name).strict <;> rfl
theorem zyG {m:List Tb} {e:X} {frs:List Fr} {f:X->List Acc} {g:Qy->List Acc} {k k1 r:List Acc} {pre:List Acc} {b:Bool} (h1:k1=zae k (e.args.flatMap f)) (h2:r=zae k1 (e.sub.flatMap g)) (hks:k=zae [] pre) (hp:pre=bif b then zcw m e frs else []):r=zae [] ((bif b then zcw m e frs else [])++e.args.flatMap f++e.sub.flatMap g):=by
 rw [h2,h1,hks,← hp,zaP,zaP]
theorem zpH {ks:List Acc} {a:Nat} (h:1+a<=300000000) (hks:ks.length<=1):ks.length+a<=300000000:=by omega
theorem zyn {α:Type} {l:List α} {f:α->List Acc} {ks k1:List Acc} {C a:Nat} (hC:∀ x∈l,(f x).length<=C) (h1:k1=zae ks (l.flatMap f)) (hks:ks.length<=1) (h:1+l.length * C+a<=300000000):k1.length+a<=300000000:=by
 have h2:=za4 (l.flatMap f) ks
 have h3:=zaz (l:=l) (f:=f) (C:=C) hC
 rw [← h1] at h2
 omega
theorem zpc (a:Acc):(addK [] a).length<=1:=by simp [addK]
theorem zte (m:List Tb) (e:X) (frs:List Fr) (n:Nat) (f:X->List Acc) (g:Qy->List Acc) (C D:Nat) (hm:zac m) (hc:∀ x∈m,zac x.sch.cols) (hfb:FrB n frs) (hfs:zac frs) (hfc:∀ f∈frs,zac f.cols) (hw0:IntKind.i64.wrap ((((frs.map Fr.cells).length:Nat):Int) - 1)=pm1 frs.length) (hf:∀ x∈e.args,RxC m x frs (f x)) (hC:∀ x∈e.args,(f x).length<=C) (hg:∀ x∈e.sub,RqC m x frs (g x)) (hD:∀ x∈e.sub,(g x).length<=D) (hla:zac e.args) (hls:zac e.sub) (hB:1+e.args.length * C+e.sub.length * D<=300000000):∃ (r:List Acc),r=zae [] ((bif e.kind==2 then zcw m e frs else [])++e.args.flatMap f++e.sub.flatMap g)/\zab E0 S.AW [e.av,fsl frs,tsl m] [] (.sl (r.map Acc.cells)) []:=by
 cases h1:e.kind==2
 ·obtain ⟨ks2,q2,q2_1,g2⟩:=zci m e frs f C hf hC zbi ([]) zbi zbi
  obtain ⟨ks3,q3,q3_1,g3⟩:=zcj m e frs g D hg hD zbi ks2 zbi zbi
  exact ⟨ks3,zqa,wkcN At.AW [sb h1,sqx True] [1,2,3,7,57,58,59] 1 [(.fz 7,1)] kr (g2 _ (zaa (wkl [sb q2_1] [1,2,7,71,72,73] 1 kr (g3 _ (zaa (wkr [sb q3_1] kr))))))⟩
 ·let p_1:List St:=[sb h1,sc (zdi frs e.table e.name zbi zbi zbi)]
  cases h4:(za6 frs e.table e.name).snd.snd
  ·obtain ⟨ks5,q5,q5_1,g5⟩:=zci m e frs f C hf hC zbi ([]) zbi zbi
   obtain ⟨ks6,q6,q6_1,g6⟩:=zcj m e frs g D hg hD zbi ks5 zbi zbi
   exact ⟨ks6,zqa,wkcN At.AW (p_1++[sb h4,sqx True]) [1,2,3,7,57,58,59] 1 [(.fz 7,1)] kr (g5 _ (zaa (wkl [sb q5_1] [1,2,7,71,72,73] 1 kr (g6 _ (zaa (wkr [sb q6_1] kr))))))⟩
  ·let p_2:List St:=p_1++[sg h4,se (zkL frs e.table e.name zbi)]
   cases h7:!(rFr frs e.table e.name).strict
   ·obtain ⟨ks8,q8,q8_1,g8⟩:=zci m e frs f C hf hC zbi ([]) zbi zbi
    obtain ⟨ks9,q9,q9_1,g9⟩:=zcj m e frs g D hg hD zbi ks8 zbi zbi
    exact ⟨ks9,zqa,wkcN At.AW (p_2++[sb h7,sqx True]) [1,2,3,7,57,58,59] 1 [(.fz 7,1)] kr (g8 _ (zaa (wkl [sb q8_1] [1,2,7,71,72,73] 1 kr (g9 _ (zaa (wkr [sb q9_1] kr))))))⟩
   ·let p_3:List St:=p_2++[sg h7,se (zkL frs e.table e.name zbi),sc (zgK m ((rFr frs e.table e.name).name) zbi zbi)]
    cases h10:(knS m (rFr frs e.table e.name).name).snd
    ·obtain ⟨ks11,q11,q11_1,g11⟩:=zci m e frs f C hf hC zbi ([]) zbi zbi
     obtain ⟨ks12,q12,q12_1,g12⟩:=zcj m e frs g D hg hD zbi ks11 zbi zbi
     exact ⟨ks12,zqa,wkcN At.AW (p_3++[sb h10,sqx True]) [1,2,3,7,57,58,59] 1 [(.fz 7,1)] kr (g11 _ (zaa (wkl [sb q11_1] [1,2,7,71,72,73] 1 kr (g12 _ (zaa (wkr [sb q12_1] kr))))))⟩
    ·obtain ⟨ks13,q13,q13_1,g13⟩:=zci m e frs f C hf hC zbi ([Acc.mk (rFr frs e.table e.name).name e.name 1]) zbi zbi
     obtain ⟨ks14,q14,q14_1,g14⟩:=zcj m e frs g D hg hD zbi ks13 zbi zbi
     exact ⟨ks14,zqa,wkc At.AW (p_3++[sb h10,sd [(3,[se (zkL frs e.table e.name zbi)]),(9,[sc (zbN ([]) (Acc.mk (rFr frs e.table e.name).name e.name 1) zbi zbi)])]]) [1,2,3,7,57,58,59] 1 kr (g13 _ (zaa (wkl [sb q13_1] [1,2,7,71,72,73] 1 kr (g14 _ (zaa (wkr [sb q14_1] kr))))))⟩
def ab:Nat->Nat
 | 0=>0
 | n+1=>2+12 * ab n
theorem zwj (m:List Tb) (e:X) (frs:List Fr):(zcw m e frs).length<=1:=by
 rw [zor]
 cases (za6 frs e.table e.name).2.2 <;> cases (!(rFr frs e.table e.name).strict) <;> cases (knS m (rFr frs e.table e.name).name).2 <;> simp
theorem zcs (m:List Tb):∀ (n:Nat) (l:List X) (frs:List Fr),(∀ e∈l,XOk n e)->(zas m n l frs).length<=l.length * ab n
 | 0,l,frs,h=>by simp [zas]
 | n+1,l,frs,h=>by
  refine zaz (C:=ab (n+1)) fun e he=>?_
  obtain ⟨_,hl,ha,hs⟩:=h e he
  have h1:=zcs m n e.args frs ha
  have h2:(e.sub.flatMap fun q=>accQ m (zas m n) q frs).length<=e.sub.length * (1+9 * ab n):=zaz fun q hq=>by
   have h3:=zcs m n q.items (zar frs (zaf m q.frm).1 []) (hs q hq).2.1
   have h4:=zcs m n q.wh (zar frs (zaf m q.frm).1 []) (hs q hq).2.2
   have h5:=Nat.mul_le_mul_right (ab n) (hs q hq).1.1
   have h6:=Nat.mul_le_mul_right (ab n) (hs q hq).1.2
   unfold accQ
   cases !(zaf m q.frm).2
   ·cases (knS m q.frm).2 <;> simp only [cond_true,cond_false,List.length_append,List.length_cons,List.length_nil] <;> omega
   ·simp
  have h5:=Nat.mul_le_mul_right (ab n) hl.1
  have h6:=Nat.mul_le_mul_right (1+9 * ab n) hl.2
  have h7:=zwj m e frs
  have h8:(bif e.kind==2 then zcw m e frs else []).length<=1:=by cases e.kind==2 <;> simp [h7]
  simp only [accX,List.length_append,ab] at *
  omega
theorem zhM:∀ {n:Nat},n<=6->ab n<=600000:=fun {n} h=>by
 have:n=0\/n=1\/n=2\/n=3\/n=4\/n=5\/n=6:=by omega
 rcases this with rfl|rfl|rfl|rfl|rfl|rfl|rfl <;> decide
theorem zec {p:Prop} (h:p:=by first|assumption|exact zbQ|exact zbQ.ins _|exact zpH Zo Zs|exact zpH Zo (zpc _)|omega|(simp;done)):p:=h
theorem zw6 {p:Prop} (h:p:=by first|rfl|assumption|(simp only [cond_true,cond_false];assumption)):p:=h
noncomputable def zr7 (m:List Tb) (q:Qy) (s:Sch) (inn:List Fr) (k0:List Acc) (f:X->List Acc) (C:Nat) (i:Nat) (out:List Acc):Cfg:=zan B.BI 0 [(2,tsl m),(9,.sl (out.map Acc.cells)),(10,fsl inn),(39,.sl (zad q.items++zad q.wh)),(40,iv ((zad q.items++zad q.wh).length:Nat)),(41,iv (i:Nat))] [.box q.cells,.box s.cells]
theorem zjH (m:List Tb) (q:Qy) (s:Sch) (inn:List Fr) (k0:List Acc) (f:X->List Acc) (C:Nat) (hf:∀ x∈q.items++q.wh,RxC m x inn (f x)) (hC:∀ x∈q.items++q.wh,(f x).length<=C) (hks:AccS k0) (hB:k0.length+(q.items++q.wh).length * C<=300000000) (hl:q.items.length+q.wh.length<=1000) (i:Nat) (out:List Acc) (hi:i<=((q.items++q.wh)).length) (hI:out=zae k0 (((q.items++q.wh).take i).flatMap f)):∃ (out':List Acc),(out'=zae k0 (((q.items++q.wh).take ((q.items++q.wh)).length).flatMap f))/\(decide (((((q.items++q.wh)).length:Nat):Int) < (((zad q.items++zad q.wh).length:Nat):Int))=false)/\∀ R,Good E0 B.BI [] (zr7 m q s inn k0 f C ((q.items++q.wh)).length out') R->Good E0 B.BI [] (zr7 m q s inn k0 f C i out) R:=by
 obtain ⟨kk,hk⟩:∃ kk,i+kk=((q.items++q.wh)).length:=⟨((q.items++q.wh)).length - i,by omega⟩
 induction kk generalizing i out with
 | zero =>
  have e0:i=((q.items++q.wh)).length:=by omega
  subst e0
  exact ⟨out,hI,by simp,fun R hg=>hg⟩
 | succ kk ih =>
  obtain ⟨x,hx⟩:=zbK (l:=(q.items++q.wh)) (i:=i) Zo
  have h0:decide (((i:Nat):Int) < (((zad q.items++zad q.wh).length:Nat):Int))=true:=by (simp only [List.length_append] at hk;simp;omega)
  have hw:IntKind.i64.wrap (((i:Nat):Int)+1)=((i+1:Nat):Int):=zbw i (by simp only [List.length_append] at *;omega)
  have hel:=zvk hx;have hso:=zel hks hI;have hro:=zqw hI hx hC hB;have hfx:=hf x (List.mem_of_getElem? hx)
  exact Zih (ih (i+1) (zae out (zae [] (f x))) Zo (by exact zeB hks hI hx) Zo) fun R gY=>zaa (wkl [sb h0,se hel,sc hfx,sc (zbz out (zae [] (f x)) Zb Zb),si hw] [2,9,10,39,40,41] 2 kr gY)
theorem ze9 (m:List Tb) (q:Qy) (s:Sch) (inn:List Fr) (f:X->List Acc) (C:Nat) (hf:∀ x∈q.items++q.wh,RxC m x inn (f x)) (hC:∀ x∈q.items++q.wh,(f x).length<=C) (hl:q.items.length+q.wh.length<=1000) (ks:List Acc) (hks:AccS ks) (hB:ks.length+(q.items++q.wh).length * C<=300000000):∃ (ks':List Acc),ks'=zae ks ((q.items++q.wh).flatMap f)/\decide ((((q.items++q.wh).length:Nat):Int) < (((zad q.items++zad q.wh).length:Nat):Int))=false/\∀ R,Good E0 B.BI [] (zr7 m q s inn ks f C (q.items++q.wh).length ks') R->Good E0 B.BI [] (zr7 m q s inn ks f C 0 ks) R:=by
 obtain ⟨k',h1,h2,h3⟩:=zjH m q s inn ks f C hf hC hks hB hl 0 ks Zo (by simp [zae])
 exact ⟨k',by rw [h1,List.take_length],h2,h3⟩
theorem zrC (m:List Tb) (q:Qy) (frs:List Fr) (f:X->List Acc) (C:Nat) (hm:zac m) (hc:∀ x∈m,zac x.sch.cols) (hfs:zac frs) (hf:∀ x∈q.items++q.wh,RxC m x (zar frs (zaf m q.frm).1 []) (f x)) (hC:∀ x∈q.items++q.wh,(f x).length<=C) (hl:q.items.length+q.wh.length<=1000) (hB:1+(q.items++q.wh).length * C<=300000000):∃ (r:List Acc),(r=bif !(zaf m q.frm).2 then [] else zae (bif (knS m q.frm).2 then addK [] ⟨q.frm,⟨#[]⟩,5⟩ else []) ((q.items++q.wh).flatMap f))/\zab E0 S.BI [q.av,fsl frs,tsl m] [] (.sl (r.map Acc.cells)) []:=by
 let p_1:List St:=[sc (zbe m q.frm zec zec)]
 cases h1:!(zaf m q.frm).snd
 ·let p_2:List St:=p_1++[sb h1,sc (zgK m q.frm zec zec)]
  cases h2:(knS m q.frm).snd
  ·obtain ⟨ks3,q3,q3_1,g3⟩:=ze9 m q ((zaf m q.frm).fst) (zar frs (zaf m q.frm).fst []) f C hf hC zec ([]) zec zec
   exact ⟨ks3,zw6,wkcN At.BI (p_2++[sb h2,sc (zc2 frs ((zaf m q.frm).fst) ([]) zec),sd [(2,[sqx (AllLen (zad q.items) 10/\((zad q.items).length * 136).le 140737488355328)]),(5,[sqx (AllLen (zad q.wh) 10/\(zad q.items).length=(zad q.items).length/\(((zad q.items).length+(zad q.wh).length) * 136).le 140737488355328)]),(6,[sqx ((zad q.items++zad q.wh).length=(zad q.items++zad q.wh).length)])],sqx True,sqx ((zad q.items++zad q.wh).length=(zad q.items++zad q.wh).length)]) [2,9,10,39,40,41] 3 [(.fz 9,3),(.fz 39,2)] kr (g3 _ (zaa (wkr [sb q3_1] kr)))⟩
  ·obtain ⟨ks4,q4,q4_1,g4⟩:=ze9 m q ((zaf m q.frm).fst) (zar frs (zaf m q.frm).fst []) f C hf hC zec ([Acc.mk q.frm Zs0 5]) zec zec
   exact ⟨ks4,zw6,wkcN At.BI (p_2++[sb h2,sc (zbN ([]) (Acc.mk q.frm Zs0 5) zec zec),sc (zc2 frs ((zaf m q.frm).fst) ([]) zec),sd [(2,[sqx (AllLen (zad q.items) 10/\((zad q.items).length * 136).le 140737488355328)]),(5,[sqx (AllLen (zad q.wh) 10/\(zad q.items).length=(zad q.items).length/\(((zad q.items).length+(zad q.wh).length) * 136).le 140737488355328)]),(6,[sqx ((zad q.items++zad q.wh).length=(zad q.items++zad q.wh).length)])],sqx ((zad q.items++zad q.wh).length=(zad q.items++zad q.wh).length)]) [2,9,10,39,40,41] 3 [(.fz 39,2)] kr (g4 _ (zaa (wkr [sb q4_1] kr)))⟩
 ·exact ⟨[],zw6,wk At.BI (p_1++[sb h1]) kr⟩
theorem zcR (m:List Tb):∀ (n:Nat) (l:List X) (frs:List Fr),zas m n l frs=l.flatMap fun e=>zas m n [e] frs
 | 0,l,frs=>by simp [zas]
 | n+1,l,frs=>by
  show l.flatMap (fun e=>accX m (zas m n) e frs)=l.flatMap fun e=>[e].flatMap fun e=>accX m (zas m n) e frs
  congr 1
  funext e
  simp
theorem zhb (m:List Tb) (n:Nat) (e:X) (frs:List Fr):zas m (n+1) [e] frs=(bif e.kind==2 then zcw m e frs else [])++e.args.flatMap (fun x=>zas m n [x] frs)++e.sub.flatMap fun q=>accQ m (zas m n) q frs:=by
 show [e].flatMap (fun e=>accX m (zas m n) e frs)=_
 rw [← zcR m n e.args frs]
 simp [accX]
theorem zde (m:List Tb) {n:Nat} {e:X} (frs:List Fr) (h:XOk n e):(zas m n [e] frs).length<=ab n:=by
 have:=zcs m n [e] frs (by intro x hx;simp only [List.mem_singleton] at hx;exact hx ▸ h)
 simpa using this
theorem rq_of {m:List Tb} (ht:FpC m) {n:Nat} (hn:n<=6) {q:Qy} {frs:List Fr} (hi:q.items.length<=8) (hw:q.wh.length<=1) (hxi:∀ x∈q.items,XOk n x) (hxw:∀ x∈q.wh,XOk n x) (hfs:zac frs) (hr:∀ x:X,XOk n x->RxC m x (zar frs (zaf m q.frm).1 []) (zas m n [x] (zar frs (zaf m q.frm).1 []))):RqC m q frs (accQ m (zas m n) q frs):=by
 have hx:∀ x∈q.items++q.wh,XOk n x:=fun x hx=>(List.mem_append.1 hx).elim (hxi x) (hxw x)
 have hl:(q.items++q.wh).length<=9:=by rw [List.length_append];omega
 have h6:=zhM hn
 have h7:=Nat.mul_le_mul_right (ab n) hl
 obtain ⟨r,hr,h⟩:=zrC m q frs (fun x=>zas m n [x] (zar frs (zaf m q.frm).1 [])) (ab n) ht.short ht.cols hfs (fun x h=>hr x (hx x h)) (fun x h=>zde m _ (hx x h)) Zo Zo
 have e:r=zae [] (accQ m (zas m n) q frs):=by
  rw [hr]
  unfold accQ
  cases !(zaf m q.frm).2
  ·simp only [cond_false]
   rw [List.flatMap_append,← zcR,← zcR,List.append_assoc,zaP []]
   cases (knS m q.frm).2 <;> rfl
  ·rfl
 rw [e] at h
 exact h
theorem zho {m:List Tb} (ht:FpC m):∀ (n:Nat) (e:X) (frs:List Fr),n<=6->XOk n e->FrB n frs->RxC m e frs (zas m n [e] frs)
 | 0,_,_,_,h,_=>h.elim
 | n+1,e,frs,hn,h,hf=>by
  obtain ⟨_,hl,ha,hs⟩:=h
  have h6:=zhM (n:=n) Zo
  have h7:=Nat.mul_le_mul_right (ab n) hl.1
  have h8:=Nat.mul_le_mul_right (1+9 * ab n) hl.2
  obtain ⟨r,hr,h⟩:=zte m e frs (n+1) (fun x=>zas m n [x] frs) (fun q=>accQ m (zas m n) q frs) (ab n) (1+9 * ab n) ht.short ht.cols hf hf.short hf.cols hf.wrap
   (fun x hx=>zho ht n x frs Zo (ha x hx) hf.less) (fun x hx=>zde m frs (ha x hx))
   (fun q hq=>rq_of ht Zo (hs q hq).1.1 (hs q hq).1.2 (hs q hq).2.1 (hs q hq).2.2 hf.short fun x hx=>zho ht n x _ Zo hx (hf.ins (ht.src _)))
   (fun q hq=>by
    have h3:=zcs m n q.items (zar frs (zaf m q.frm).1 []) (hs q hq).2.1
    have h4:=zcs m n q.wh (zar frs (zaf m q.frm).1 []) (hs q hq).2.2
    have h5:=Nat.mul_le_mul_right (ab n) (hs q hq).1.1
    have h6:=Nat.mul_le_mul_right (ab n) (hs q hq).1.2
    unfold accQ
    cases !(zaf m q.frm).2
    ·cases (knS m q.frm).2 <;> simp only [cond_true,cond_false,List.length_append,List.length_cons,List.length_nil] <;> omega
    ·simp)
   (by have:=hl.1;simp only [Thin,zac] at *;omega) (by have:=hl.2;simp only [Thin,zac] at *;omega) Zo
  rw [← zhb] at hr
  rw [hr] at h
  exact h
theorem rq_all {m:List Tb} (ht:FpC m) (n:Nat) (q:Qy) (frs:List Fr) (hn:n<=6) (hi:q.items.length<=8) (hw:q.wh.length<=1) (hxi:∀ x∈q.items,XOk n x) (hxw:∀ x∈q.wh,XOk n x) (hf:FrB (n+1) frs):RqC m q frs (accQ m (zas m n) q frs) :=
 rq_of ht hn hi hw hxi hxw hf.short fun x hx=>zho ht n x _ hn hx (hf.ins (ht.src _))
structure CmpOk {α:Type} (c:α->α->Int):Prop where
 zero:∀ a b,c a b=0↔a=b
 anti:∀ a b,c a b < 0↔0 < c b a
 trans:∀ {a b d},c a b < 0->c b d < 0->c a d < 0
def lexC {α:Type} (c:α->α->Int):List α->List α->Int
 | [],[]=>0
 | [],_::_=>-1
 | _::_,[]=>1
 | a::x,b::y=>if c a b=0 then lexC c x y else c a b
theorem zrg {α:Type} {c:α->α->Int} (h:CmpOk c):∀ a b,lexC c a b=0↔a=b
 | [],[]=>by simp [lexC]
 | [],_::_=>by simp [lexC]
 | _::_,[]=>by simp [lexC]
 | a::x,b::y=>by
  have ih:=zrg h x y
  have hz:=h.zero a b
  simp only [lexC,List.cons.injEq]
  split
  ·rename_i e;simp [ih,hz.1 e]
  ·rename_i e;exact ⟨fun k=>absurd k e,fun k=>absurd (hz.2 k.1) e⟩
theorem zrf {α:Type} {c:α->α->Int} (h:CmpOk c):∀ a b,lexC c a b < 0↔0 < lexC c b a
 | [],[]=>by simp [lexC]
 | [],_::_=>by simp [lexC]
 | _::_,[]=>by simp [lexC]
 | a::x,b::y=>by
  have ih:=zrf h x y
  have hz:=h.zero a b
  have hz2:=h.zero b a
  have ha:=h.anti a b
  simp only [lexC]
  by_cases e:a=b
  ·rw [if_pos (hz.2 e),if_pos (hz2.2 e.symm)];exact ih
  ·rw [if_neg (fun k=>e (hz.1 k)),if_neg (fun k=>e (hz2.1 k).symm)];exact ha
theorem zpI {α:Type} {c:α->α->Int} (h:CmpOk c):∀ {a b d},lexC c a b < 0->lexC c b d < 0->lexC c a d < 0
 | x,y,[],_,h2=>by cases y <;> simp [lexC] at h2
 | x,[],e::z,h1,_=>by cases x <;> simp [lexC] at h1
 | [],b::y,e::z,_,_=>by simp [lexC]
 | a::x,b::y,e::z,h1,h2=>by
  simp only [lexC] at h1 h2 ⊢
  by_cases e1:a=b
  ·subst e1
   rw [if_pos ((h.zero a a).2 rfl)] at h1
   by_cases e2:a=e
   ·subst e2
    rw [if_pos ((h.zero a a).2 rfl)] at h2 ⊢
    exact zpI h h1 h2
   ·rw [if_neg (fun k=>e2 ((h.zero _ _).1 k))] at h2 ⊢
    exact h2
  ·rw [if_neg (fun k=>e1 ((h.zero _ _).1 k))] at h1
   by_cases e2:b=e
   ·subst e2
    rw [if_neg (fun k=>e1 ((h.zero _ _).1 k))]
    exact h1
   ·rw [if_neg (fun k=>e2 ((h.zero _ _).1 k))] at h2
    have h3:=h.trans h1 h2
    rw [if_neg Zo]
    exact h3
theorem CmpOk.lex {α:Type} {c:α->α->Int} (h:CmpOk c):CmpOk (lexC c):=⟨zrg h,zrf h,zpI h⟩
def zsp (a b:UInt8):Int:=if a < b then -1 else if b < a then 1 else 0
theorem zzm:CmpOk zsp:=by
 refine ⟨fun a b=>?_,fun a b=>?_,fun {a b d} h1 h2=>?_⟩
 all_goals simp only [zsp,UInt8.lt_iff_toNat_lt,← UInt8.toNat_inj] at *
 all_goals repeat' split
 all_goals (try omega)
 all_goals (repeat' split at h1)
 all_goals (try omega)
 all_goals (repeat' split at h2)
 all_goals omega
theorem zdJ:∀ a b,Lib.compareBytes a b=lexC zsp a b
 | [],[]=>rfl
 | [],_::_=>rfl
 | _::_,[]=>rfl
 | a::x,b::y=>by
  have ih:=zdJ x y
  simp only [Lib.compareBytes,lexC,zsp,ih]
  by_cases h1:a < b
  ·simp [h1]
  ·by_cases h2:b < a
   ·simp [h1,h2]
   ·simp [h1,h2]
theorem zAO:CmpOk cmpI:=by
 refine ⟨fun a b=>?_,fun a b=>?_,fun {a b d} h1 h2=>?_⟩
 all_goals simp only [cmpI] at *
 all_goals repeat' split
 all_goals (try omega)
 all_goals (repeat' split at h1)
 all_goals (try omega)
 all_goals (repeat' split at h2)
 all_goals omega
theorem zAN:CmpOk cmpB:=by
 have h:=zzm.lex
 refine ⟨fun a b=>?_,fun a b=>?_,fun {a b d} h1 h2=>?_⟩
 ·simp only [cmpB,zdJ,h.zero]
  constructor
  ·intro e;cases a;cases b;simp at e;rw [e]
  ·intro e;rw [e]
 ·simp only [cmpB,zdJ];exact h.anti _ _
 ·simp only [cmpB,zdJ] at *;exact h.trans h1 h2
theorem znQ (a b:V):rCmp a b=if cmpI a.kind b.kind=0 then (if cmpI a.int b.int=0 then cmpB a.text b.text else cmpI a.int b.int) else cmpI a.kind b.kind:=by
 unfold rCmp cmpB3 cmpB2
 rcases Int.lt_trichotomy a.kind b.kind with h1|h1|h1
 ·have e:(a.kind != b.kind)=true:=by simp;omega
  rw [znC h1];simp [h1,e]
 ·rw [znA h1]
  rcases Int.lt_trichotomy a.int b.int with h2|h2|h2
  ·have e:(a.int != b.int)=true:=by simp;omega
   rw [znC h2];simp [h1,h2,e]
  ·rw [znA h2];simp [h1,h2]
  ·have e:(a.int != b.int)=true:=by simp;omega
   have e2:¬ a.int < b.int:=by omega
   rw [znB h2];simp [h1,e,e2]
 ·have e:(a.kind != b.kind)=true:=by simp;omega
  have e2:¬ a.kind < b.kind:=by omega
  rw [znB h1];simp [e,e2]
theorem zBi:CmpOk rCmp:=by
 have hi:=zAO
 have hb:=zAN
 refine ⟨fun a b=>?_,fun a b=>?_,fun {a b d} h1 h2=>?_⟩
 ·rw [znQ]
  have z1:=hi.zero a.kind b.kind
  have z2:=hi.zero a.int b.int
  have z3:=hb.zero a.text b.text
  constructor
  ·intro h
   split at h
   ·split at h
    ·cases a;cases b;simp_all
    ·omega
   ·omega
  ·rintro rfl
   simp [(hi.zero _ _).2 rfl,(hb.zero _ _).2 rfl]
 ·rw [znQ,znQ]
  have z1:=hi.zero a.kind b.kind
  have z1':=hi.zero b.kind a.kind
  have z2:=hi.zero a.int b.int
  have z2':=hi.zero b.int a.int
  by_cases e1:a.kind=b.kind
  ·rw [if_pos (z1.2 e1),if_pos (z1'.2 e1.symm)]
   by_cases e2:a.int=b.int
   ·rw [if_pos (z2.2 e2),if_pos (z2'.2 e2.symm)];exact hb.anti _ _
   ·rw [if_neg (fun k=>e2 (z2.1 k)),if_neg (fun k=>e2 (z2'.1 k).symm)];exact hi.anti _ _
  ·rw [if_neg (fun k=>e1 (z1.1 k)),if_neg (fun k=>e1 (z1'.1 k).symm)];exact hi.anti _ _
 ·have key:∀ x y:V,rCmp x y < 0↔x.kind < y.kind\/(x.kind=y.kind/\(x.int < y.int\/(x.int=y.int/\cmpB x.text y.text < 0))):=by
   intro x y
   rw [znQ]
   rcases Int.lt_trichotomy x.kind y.kind with h1|h1|h1
   ·rw [znC h1];simp [h1]
   ·rw [znA h1]
    rcases Int.lt_trichotomy x.int y.int with h2|h2|h2
    ·rw [znC h2];simp [h1,h2]
    ·rw [znA h2];simp [h1,h2]
    ·have e:¬ x.int < y.int:=by omega
     have e2:x.int≠y.int:=by omega
     rw [znB h2];simp [h1,e,e2]
   ·have e:¬ x.kind < y.kind:=by omega
    have e2:x.kind≠y.kind:=by omega
    rw [znB h1];simp [e,e2]
  rw [key] at h1 h2 ⊢
  rcases h1 with h1|⟨e1,h1|⟨f1,h1⟩⟩ <;> rcases h2 with h2|⟨e2,h2|⟨f2,h2⟩⟩
  all_goals first|(left;omega)|(right;refine ⟨by omega,?_⟩;first|(left;omega)|(right;exact ⟨by omega,hb.trans h1 h2⟩))
theorem zrj (a b:List V):∀ (l:List V) (i:Nat),i<=b.length->a.length=i+l.length->znb a b l i=lexC rCmp l (b.drop i)
 | [],i,hi,ha=>by
  simp only [znb,List.length_map]
  simp at ha
  by_cases h:i=b.length
  ·have e1:b.drop i=[]:=List.drop_of_length_le Zo
   have e2:¬ ((a.length:Nat):Int) < (b.length:Nat):=by omega
   have e3:¬ ((b.length:Nat):Int) < (a.length:Nat):=by omega
   rw [e1];simp only [lexC,e2,e3,decide_false,cond_false]
  ·have e2:((a.length:Nat):Int) < (b.length:Nat):=by omega
   cases hd:b.drop i with
   | nil=>have:=congrArg List.length hd;simp at this;omega
   | cons y s=>simp only [lexC,e2,decide_true,cond_true]
 | x::r,i,hi,ha=>by
  simp only [znb,List.length_map]
  by_cases h:i < b.length
  ·have e2:((i:Nat):Int) < (b.length:Nat):=by omega
   have hv:zee b ((i:Nat):Int)=b[i]:=by simp [zee,h]
   rw [List.drop_eq_getElem_cons h]
   have ih:=zrj a b r (i+1) Zo (by simp at ha;omega)
   simp only [e2,decide_true,cond_true,hv,ih,lexC]
   by_cases hz:rCmp x b[i]=0
   ·simp [hz]
   ·have hb:(rCmp x b[i] != 0)=true:=by simpa using hz
    simp [hz,hb]
  ·have e2:¬ ((i:Nat):Int) < (b.length:Nat):=by omega
   have e1:b.drop i=[]:=List.drop_of_length_le Zo
   have f1:¬ ((a.length:Nat):Int) < (b.length:Nat):=by simp at ha;omega
   have f2:((b.length:Nat):Int) < (a.length:Nat):=by simp at ha;omega
   rw [e1]
   simp only [e2,f1,f2,decide_false,decide_true,cond_false,cond_true,lexC]
theorem zAe (a b:List V):znR a b=lexC rCmp a b:=zrj a b a 0 Zo Zo
theorem ztV:CmpOk znR:=by
 have:znR=lexC rCmp:=funext fun a=>funext fun b=>zAe a b
 rw [this];exact zBi.lex
/- ### sorting -/
abbrev LeR (x y:List V):Prop:=¬ 0 < znR x y
theorem zA5 (x y:List V):LeR x y↔znR x y < 0\/x=y:=by
 have h:=ztV.zero x y
 unfold LeR
 constructor
 ·intro h1
  by_cases h2:znR x y=0
  ·exact .inr (h.1 h2)
  ·exact .inl Zo
 ·rintro (h1|h1)
  ·omega
  ·rw [h.2 h1];omega
theorem LeR.trans {x y z:List V} (h1:LeR x y) (h2:LeR y z):LeR x z:=by
 rw [zA5] at *
 rcases h1 with h1|rfl
 ·rcases h2 with h2|rfl
  ·exact .inl (ztV.trans h1 h2)
  ·exact .inl h1
 ·exact h2
def insP {α:Type} (x:α) (out:List α) (p:Nat):List α:=out.take p++x::out.drop p
theorem zm0 {α:Type} (x:α) (out:List α) (p:Nat):(insP x out p).Perm (x::out):=by
 unfold insP
 refine List.perm_middle.trans ?_
 rw [List.take_append_drop]
@[simp] theorem zBF {α:Type} (x:α) (out:List α) (p:Nat):(insP x out p).length=out.length+1:=by
 rw [(zm0 x out p).length_eq];rfl
abbrev cpX (xs:List (List AV)) (d s:Nat):List (List AV):=zdh xs d xs.length s xs.length
theorem zqD {xs:List (List AV)} {d s:Nat} (hd:d<=xs.length) (hs:s<=xs.length) (i:Nat):(cpX xs d s)[i]?=if i < d then xs[i]? else if i < d+min (xs.length - s) (xs.length - d) then xs[s+(i - d)]? else xs[i]?:=by
 have hl:=zg2 (xs:=xs) (s:=s) (t:=xs.length) (m:=xs.length - d) hs (Nat.le_refl _)
 show (zcV _ _ _)[i]?=_
 rw [zhj (by rw [hl];omega),hl,Nat.min_comm]
 by_cases h1:i < d
 ·rw [if_pos h1,if_pos h1]
 ·rw [if_neg h1,if_neg h1]
  by_cases h2:i < d+min (xs.length - s) (xs.length - d)
  ·rw [if_pos h2,if_pos h2,List.getElem?_take,if_pos Zo,List.getElem?_drop,List.getElem?_take,if_pos Zo]
  ·rw [if_neg h2,if_neg h2]
theorem zvi (xs:List (List AV)) (d s:Nat) (hd:d<=xs.length) (hs:s<=xs.length):(cpX xs d s).length=xs.length:=zrE hd (Nat.le_refl _) hs (Nat.le_refl _)
theorem zx5 {α:Type} (f:α->List AV) (z:List AV) (out:List α) (p:Nat) (hp:p<=out.length) {c:List AV} (hc:(out.map f++[z])[p]?=some c):OwnEl (cpX (out.map f++[z]) (p+1) p) (out.map f++[z]).length p c :=
 ⟨by rw [zvi _ _ _ Zp Zp],by rw [zqD Zp Zp,if_pos Zo];exact hc⟩
theorem zx6 {α:Type} (f:α->List AV) (z:List AV) (out:List α) (p:Nat) (hp:p<=out.length):(cpX (out.map f++[z]) (p+1) p).length=out.length+1:=by rw [zvi _ _ _ Zp Zp];simp
@[simp] theorem copyP_lenS {α:Type} (f:α->List AV) (z:List AV) (out:List α) (p:Nat):(zdh (out.map f++[z]) (p+1) (out.length+1) p (out.length+1)).length=out.length+1:=by
 unfold zdh zcV;simp;omega
theorem zx7 {α:Type} (f:α->List AV) (z:List AV) (out:List α) (x:α) (p:Nat) (hp:p<=out.length):(cpX (out.map f++[z]) (p+1) p).set p (f x)=(insP x out p).map f:=by
 unfold insP
 have hL:(out.map f++[z]).length=out.length+1:=by simp
 have hl:=zx6 f z out p hp
 have ht:((out.take p).map f).length=p:=by simp;omega
 have hg:∀ i,i < out.length->(out.map f++[z])[i]?=(out.map f)[i]?:=fun i hi=>List.getElem?_append_left Zp
 apply List.ext_getElem?
 intro i
 rw [List.map_append,List.map_cons]
 by_cases h1:i < p
 ·rw [List.getElem?_set_ne Zo,zqD Zo Zo,if_pos Zo,hg i Zo,List.getElem?_append_left Zo,List.map_take,List.getElem?_take,if_pos h1]
 ·by_cases h2:i=p
  ·subst h2
   rw [List.getElem?_set_self Zo,List.getElem?_append_right Zo,ht,Nat.sub_self]
   rfl
  ·rw [List.getElem?_set_ne Zo,zqD Zo Zo,if_neg Zo,List.getElem?_append_right (l₁:=(out.take p).map f) Zo,ht]
   have e:i - p=(i - p - 1)+1:=by omega
   rw [e,List.getElem?_cons_succ,List.map_drop,List.getElem?_drop,hL]
   by_cases h3:i < out.length+1
   ·rw [if_pos Zo,hg _ Zo]
    exact congrArg (fun j=>(out.map f)[j]?) Zo
   ·rw [if_neg Zo,List.getElem?_eq_none Zo,List.getElem?_eq_none Zp]
theorem znY {p:Prop} (h:p:=by first|assumption|omega|exact lt_ofW ‹_›|exact ⟨Nat.zero_le _,fun j u h=>absurd h (Nat.not_lt_zero _)⟩|exact And.left ‹_›|(simp;done)):p:=h
theorem zw7 {p:Prop} (h:p:=by first|exact zBn hI hx ‹_› ‹_›|exact zyO hI hx ‹_› ‹_› (zAV ‹_›)|exact zyO hI hx ‹_› ‹_› (zAz ‹_› ‹_›)):p:=h
theorem zya (out:List Str) (p:Nat) (hp:p<=out.length):OwnEl (zdh (out.map (fun s=>[sv s])++[[sv ⟨#[]⟩]]) (p+1) (out.map (fun s=>[sv s])++[[sv ⟨#[]⟩]]).length p (out.map (fun s=>[sv s])++[[sv ⟨#[]⟩]]).length) (out.map (fun s=>[sv s])++[[sv ⟨#[]⟩]]).length p [sv (((out++[(⟨#[]⟩:Str)])[p]?).getD ⟨#[]⟩)]:=by
 refine zx5 (fun s:Str=>[sv s]) [sv ⟨#[]⟩] out p hp ?_
 have:(out.map (fun s=>[sv s])++[[sv (⟨#[]⟩:Str)]])=(out++[(⟨#[]⟩:Str)]).map fun s=>[sv s]:=by simp
 rw [this,List.getElem?_map]
 have h2:p < (out++[(⟨#[]⟩:Str)]).length:=by simp;omega
 rw [List.getElem?_eq_getElem h2]
 rfl
theorem zcu {x:Str} {out:List Str} {p:Nat} (hp:p<=out.length):[Blk.row Ty.string ((cpX (out.map (fun s=>[sv s])++[[sv (⟨#[]⟩:Str)]]) (p+1) p).set p [sv x]) false]=[Blk.row Ty.string ((insP x out p).map fun s=>[sv s]) false]:=by
 rw [zx7 (fun s:Str=>[sv s]) _ out x p hp]
theorem lt_ofW {a b:Nat} (h:decide ((a:Int) < (b:Int))=true):a < b:=by simpa using h
theorem zrp {l:List Str} {i:Nat} {x:Str} (hx:l[i]?=some x):srtS (l.take (i+1))=inKs (srtS (l.take i)) x:=by
 rw [List.take_add_one,hx,Option.toList_some,srtS,List.foldl_append];rfl
theorem zzV {out:List Str} (h:SrtS out) {x:Str} (hx:x∈out):inKs out x=out :=
 zoR (h.ins x) h fun y=>by rw [ziI];exact ⟨fun h=>h.elim (fun e=>e ▸ hx) id,.inr⟩
def BefW (out:List Str) (y:Str) (i:Nat):Prop:=∀ j u,j < i->out[j]?=some u->ltS u y=true
theorem BefW.next {out:List Str} {y:Str} {i:Nat} (h:BefW out y i) (hbl:∀ u:Str,out[i]?=some u->Op.bytesLess u.toList y.toList=true):BefW out y (i+1):=fun j u hj hu=>by
 by_cases hji:j=i
 ·subst hji;exact hbl u hu
 ·exact h j u Zo hu
theorem zA2 {out:List Str} (h:SrtS out) {x:Str} {p:Nat} (hp:p<=out.length) (h1:BefW out x p) (h2:∀ u:Str,out[p]?=some u->Op.bytesLess u.toList x.toList=false) (h3:∀ u:Str,out[p]?=some u->u≠x):insP x out p=inKs out x:=by
 refine zoR ?_ (h.ins x) fun y=>by rw [(zm0 x out p).mem_iff,List.mem_cons,ziI]
 have hg:∀ b∈out.drop p,ltS x b=true:=fun b hb=>by
  obtain ⟨j,hj⟩:=List.getElem?_of_mem hb
  rw [List.getElem?_drop] at hj
  have hlen:=(List.getElem?_eq_some_iff.1 hj).1
  obtain ⟨u,hu⟩:=zbK (l:=out) (i:=p) Zo
  have h4:ltS x u=true:=by
   rcases zvu x u with h5|h5|h5
   ·exact h5
   ·exact absurd h5.symm (h3 u hu)
   ·have:=h2 u hu
    exact absurd h5 (by rw [show ltS u x=false from this];simp)
  by_cases hj0:j=0
  ·subst hj0
   rw [Nat.add_zero,hu] at hj;cases hj;exact h4
  ·obtain ⟨a1,a2⟩:=List.getElem?_eq_some_iff.1 hu
   obtain ⟨b1,b2⟩:=List.getElem?_eq_some_iff.1 hj
   have:=List.pairwise_iff_getElem.1 h p (p+j) a1 b1 Zo
   rw [a2,b2] at this
   exact zm8 h4 this
 have hl:∀ a∈out.take p,ltS a x=true:=fun a ha=>by
  obtain ⟨j,hj⟩:=List.getElem?_of_mem ha
  have hlen:=(List.getElem?_eq_some_iff.1 hj).1
  rw [List.length_take] at hlen
  rw [List.getElem?_take_of_lt Zo] at hj
  exact h1 j a Zo hj
 have hs:SrtS (out.take p++out.drop p):=by rw [List.take_append_drop];exact h
 obtain ⟨p1,p2,p3⟩:=List.pairwise_append.1 hs
 refine List.pairwise_append.2 ⟨p1,List.pairwise_cons.2 ⟨hg,p2⟩,fun a ha b hb=>?_⟩
 rcases List.mem_cons.1 hb with rfl|hb
 ·exact hl a ha
 ·exact p3 a ha b hb
theorem zBn {l out:List Str} {i p:Nat} {x u:Str} (hI:out=srtS (l.take i)/\out.length<=i) (hx:l[i]?=some x) (hu:out[p]?=some u) (he:(u.toList==x.toList)=true):out=srtS (l.take (i+1))/\out.length<=i+1:=by
 have e:u=x:=zfB (by simpa using he)
 subst e
 refine ⟨?_,by have:=hI.2;omega⟩
 rw [zrp hx,← hI.1,zzV (hI.1 ▸ zoT _) (List.mem_of_getElem? hu)]
theorem zyO {l out:List Str} {i p:Nat} {x:Str} (hI:out=srtS (l.take i)/\out.length<=i) (hx:l[i]?=some x) (hq:p<=out.length/\BefW out x p) (h2:∀ u:Str,out[p]?=some u->Op.bytesLess u.toList x.toList=false) (h3:∀ u:Str,out[p]?=some u->(u.toList==x.toList)=false):insP x out p=srtS (l.take (i+1))/\(insP x out p).length<=i+1:=by
 refine ⟨?_,by have:=(zm0 x out p).length_eq;have:=hI.2;rw [List.length_cons] at *;omega⟩
 rw [zrp hx,← hI.1,zA2 (hI.1 ▸ zoT _) hq.1 hq.2 h2 fun u hu e=>by have:=h3 u hu;subst e;simp at this]
theorem zAV {out:List Str} {p:Nat} {x:Str} (h:decide ((p:Int) < (out.length:Int))=false):∀ u:Str,out[p]?=some u->(u.toList==x.toList)=false:=fun u hu=>by
 have:=(List.getElem?_eq_some_iff.1 hu).1
 simp at h;omega
theorem zAz {out:List Str} {p:Nat} {x v:Str} (hv:out[p]?=some v) (h:(v.toList==x.toList)=false):∀ u:Str,out[p]?=some u->(u.toList==x.toList)=false:=fun u hu=>by
 rw [hv] at hu;cases hu;exact h
noncomputable def L_soa (l out:List Str) (io:Nat) (y:Str) (i:Nat) :Cfg:=zan B.BH 1 [(3,.own 0 out.length),(5,sv y),(6,iv (i:Nat)),(7,ssl l),(8,iv ((l.map fun s=>[sv s]).length:Nat)),(9,iv (io:Nat))] [.row Ty.string (out.map fun s=>[sv s]) false]
theorem zjb (l out:List Str) (io:Nat) (y:Str) (hl:zac out) (i:Nat)  (hi:i<=(out.length)) (hI:i<=out.length/\BefW out y i):∃ (i':Nat) ,(i'<=out.length/\BefW out y i')/\(∀ u:Str,out[i']?=some u->Op.bytesLess u.toList y.toList=false)/\∀ R,Good E0 B.BH [] (L_soa l out io y i' ) R->Good E0 B.BH [] (L_soa l out io y i ) R:=by
 have hk:=hi;revert i;refine zlp out.length (fun i hlt ih hi hI _=>?_) (z:=fun _ hI _=>⟨(out.length),hI,by simp,fun R hg=>hg⟩)
 have h0:decide (((i:Nat):Int) < (((out.length):Nat):Int))=true:=by simp;omega
 have hw:IntKind.i64.wrap (((i:Nat):Int)+1)=((i+1:Nat):Int):=zbw i (by first|omega|(simp only [zac,Few] at *;omega))
 have hlo:i < out.length:=by omega
 cases hb:Op.bytesLess (out[i]'hlo).toList y.toList with
 | false=>exact ⟨i,hI,(fun u hu=>by rw [List.getElem?_eq_getElem hlo] at hu;cases hu;exact hb),fun R hg=>hg⟩
 | true =>
 have hbl:∀ u:Str,out[i]?=some u->Op.bytesLess u.toList y.toList=true:=fun u hu=>by rw [List.getElem?_eq_getElem hlo] at hu;cases hu;exact hb
 obtain ⟨x1,e1⟩:=zbK (l:=out) (i:=(i:Int).toNat) (by first|assumption|omega|(simp;done)|(simp;omega))
 obtain ⟨ixZ,qZ,xaZ,gZ⟩:=ih Zo (by exact ⟨by omega,hI.2.next hbl⟩) Zo;exact ⟨ixZ,qZ,xaZ,fun R hg=>zaa (wkl [sqx (out.length=(List.map (fun s=>[sv s]) out).length),sg h0,sqx (OwnAt (List.map (fun s=>[sv s]) out) out.length (i:Int)),sx (.el ([sv x1])) (zjX (fun s=>[sv s]) (n:=out.length) Zs e1),sb (hbl x1 e1),si hw] [3,5,6,7,8,9] 1 kr (gZ R hg))⟩
noncomputable def L_sob (l:List Str) (i:Nat) (out:List Str):Cfg:=zan B.BH 0 [(3,.own 0 out.length),(7,ssl l),(8,iv ((l.map fun s=>[sv s]).length:Nat)),(9,iv (i:Nat))] [.row Ty.string (out.map fun s=>[sv s]) false]
theorem zjc (l:List Str) (hl:zac l) (i:Nat) (out:List Str) (hi:i<=(l).length) (hI:out=srtS (l.take i)/\out.length<=i):∃ (out':List Str),(out'=srtS (l.take (l).length)/\out'.length<=(l).length)/\(decide ((((l).length:Nat):Int) < (((l.map fun s=>[sv s]).length:Nat):Int))=false)/\∀ R,Good E0 B.BH [] (L_sob l (l).length out') R->Good E0 B.BH [] (L_sob l i out) R:=by
 have hk:=hi;revert i out;refine zlp ((l).length) (fun i hlt ih out hi hI _=>?_)
 obtain ⟨x,hx,h0,hw⟩:=zlq (l:=l) ((l.map fun s=>[sv s]).length) hlt
 have hol:out.length<=1000000000:=by have:=hI.2;simp only [zac] at hl;omega
 obtain ⟨i1,q1,q1_1,g1⟩:=zjb l out i x znY 0 znY znY
 let p_1:List St:=[sb h0,se (zai (fun s=>[sv s]) hx rfl)]
 let p_2:List St:=[sqx (out.length=(List.map (fun s=>[sv s]) out).length)]
 cases h2:decide ((i1:Int) < (out.length:Int))
 ·exact Zih (ih (insP x out i1) Zo zw7 Zo) fun R gY=>zaa (wkl p_1 [3,5,6,7,8,9] 1 kr (g1 _ (zaa (wkl (p_2++[sb h2,sqx (out.length=(List.map (fun s=>[sv s]) out).length),sb h2,sqA (List.map (fun s=>[sv s]) out) [[sv Zs0]] out.length 1 16,sdp [(2,[si (zaU (t:=(i1:Int)+1) (n:=i1+1) Zo Zo)]),(3,[sqx (OwnCut (List.map (fun s=>[sv s]) out++[[sv Zs0]]) (List.map (fun s=>[sv s]) out++[[sv Zs0]]).length 0 (↑(i1+1):Int) (↑(List.map (fun s=>[sv s]) out++[[sv Zs0]]).length:Int))]),(6,[sqx (OwnCut (List.map (fun s=>[sv s]) out++[[sv Zs0]]) (List.map (fun s=>[sv s]) out++[[sv Zs0]]).length 0 (i1:Int) (↑(List.map (fun s=>[sv s]) out++[[sv Zs0]]).length:Int))]),(7,[sqx ((List.map (fun s=>[sv s]) out++[[sv Zs0]]).length=(List.map (fun s=>[sv s]) out++[[sv Zs0]]).length/\(List.map (fun s=>[sv s]) out++[[sv Zs0]]).length=(List.map (fun s=>[sv s]) out++[[sv Zs0]]).length)])] [[2,6,3,7]] [(3,AV.own 0 (List.map (fun s=>[sv s]) out++[[sv Zs0]]).length),(5,sv x),(6,iv (i1:Int)),(7,AV.sl (List.map (fun s=>[sv s]) l)),(8,iv (↑(List.map (fun s=>[sv s]) l).length:Int)),(9,iv (i:Int)),(13,iv (i1:Int)),(14,AV.own 0 out.length),(15,iv (out.length:Int)),(16,bv (decide ((i1:Int) < (out.length:Int)))),(17,AV.bl false),(18,AV.tup []),(19,AV.tup []),(20,AV.tup []),(21,AV.tup []),(22,AV.tup []),(23,AV.tup []),(24,AV.bl false),(27,iv (i1:Int)),(28,AV.own 0 out.length),(29,iv (out.length:Int)),(30,bv (decide ((i1:Int) < (out.length:Int)))),(31,AV.bl false),(32,AV.tup []),(33,AV.tup []),(34,AV.tup []),(35,AV.tup []),(36,AV.tup []),(37,AV.tup []),(38,AV.bl false),(39,AV.own 0 out.length),(40,AV.sl [[sv Zs0]]),(41,AV.own 0 (List.map (fun s=>[sv s]) out++[[sv Zs0]]).length),(42,AV.own 0 (List.map (fun s=>[sv s]) out++[[sv Zs0]]).length),(43,iv (i1:Int)),(44,iv (↑(i1+1):Int)),(45,AV.os 0 (List.map (fun s=>[sv s]) out++[[sv Zs0]]).length (↑(i1+1):Int).toNat (↑(List.map (fun s=>[sv s]) out++[[sv Zs0]]).length:Int).toNat),(46,AV.own 0 (List.map (fun s=>[sv s]) out++[[sv Zs0]]).length),(47,iv (i1:Int)),(48,AV.os 0 (List.map (fun s=>[sv s]) out++[[sv Zs0]]).length (i1:Int).toNat (↑(List.map (fun s=>[sv s]) out++[[sv Zs0]]).length:Int).toNat),(49,AV.un)] [Blk.row Ty.string (zdh (List.map (fun s=>[sv s]) out++[[sv Zs0]]) (i1+1) (List.map (fun s=>[sv s]) out++[[sv Zs0]]).length i1 (List.map (fun s=>[sv s]) out++[[sv Zs0]]).length) false],sqx (OwnAt (zdh (List.map (fun s=>[sv s]) out++[[sv Zs0]]) (i1+1) (List.map (fun s=>[sv s]) out++[[sv Zs0]]).length i1 (List.map (fun s=>[sv s]) out++[[sv Zs0]]).length) (List.map (fun s=>[sv s]) out++[[sv Zs0]]).length (i1:Int)),sx (.el ([sv ((out++[ByteArray.mk #[]])[i1]?.getD Zs0)])) (And.intro (owed (p:=True/\True)) (zya out i1 znY)),si hw]) [3,7,8,9] 1 kr (zaR (show ([(3,AV.own 0 (List.map (fun s=>[sv s]) out++[[sv Zs0]]).length),(7,AV.sl (List.map (fun s=>[sv s]) l)),(8,iv (↑(List.map (fun s=>[sv s]) l).length:Int)),(9,iv (↑(i+1):Int))]:TS)=_ by first|rfl|exact zcu ‹_›|exact zcu (And.left ‹_›)|exact zcu Zo|(simp;done)|(simp;omega)) (show ([Blk.row Ty.string ((zdh (List.map (fun s=>[sv s]) out++[[sv Zs0]]) (i1+1) (List.map (fun s=>[sv s]) out++[[sv Zs0]]).length i1 (List.map (fun s=>[sv s]) out++[[sv Zs0]]).length).set i1 [sv x]) false]:Heap)=_ by first|rfl|exact zcu ‹_›|exact zcu (And.left ‹_›)|exact zcu Zo|(simp;done)|(simp;omega)) gY)))))
 ·obtain ⟨x3,e3⟩:=zbK (l:=out) (i:=(i1:Int).toNat) znY
  let p_3:List St:=p_2++[sg h2,sqx (OwnAt (List.map (fun s=>[sv s]) out) out.length (i1:Int)),sx (.el ([sv x3])) (zjX (fun s=>[sv s]) (n:=out.length) Zs e3),sb (q1_1 x3 e3),sqx (out.length=(List.map (fun s=>[sv s]) out).length),sg h2,sqx (OwnAt (List.map (fun s=>[sv s]) out) out.length (i1:Int)),sx (.el ([sv x3])) (zjX (fun s=>[sv s]) (n:=out.length) Zs e3)]
  cases h4:ByteArray.toList x3==ByteArray.toList x
  ·exact Zih (ih (insP x out i1) Zo zw7 Zo) fun R gY=>zaa (wkl p_1 [3,5,6,7,8,9] 1 kr (g1 _ (zaa (wkl (p_3++[sb h4,sqA (List.map (fun s=>[sv s]) out) [[sv Zs0]] out.length 1 16,sdp [(2,[si (zaU (t:=(i1:Int)+1) (n:=i1+1) Zo Zo)]),(3,[sqx (OwnCut (List.map (fun s=>[sv s]) out++[[sv Zs0]]) (List.map (fun s=>[sv s]) out++[[sv Zs0]]).length 0 (↑(i1+1):Int) (↑(List.map (fun s=>[sv s]) out++[[sv Zs0]]).length:Int))]),(6,[sqx (OwnCut (List.map (fun s=>[sv s]) out++[[sv Zs0]]) (List.map (fun s=>[sv s]) out++[[sv Zs0]]).length 0 (i1:Int) (↑(List.map (fun s=>[sv s]) out++[[sv Zs0]]).length:Int))]),(7,[sqx ((List.map (fun s=>[sv s]) out++[[sv Zs0]]).length=(List.map (fun s=>[sv s]) out++[[sv Zs0]]).length/\(List.map (fun s=>[sv s]) out++[[sv Zs0]]).length=(List.map (fun s=>[sv s]) out++[[sv Zs0]]).length)])] [[2,6,3,7]] [(3,AV.own 0 (List.map (fun s=>[sv s]) out++[[sv Zs0]]).length),(5,sv x),(6,iv (i1:Int)),(7,AV.sl (List.map (fun s=>[sv s]) l)),(8,iv (↑(List.map (fun s=>[sv s]) l).length:Int)),(9,iv (i:Int)),(13,iv (i1:Int)),(14,AV.own 0 out.length),(15,iv (out.length:Int)),(16,bv (decide ((i1:Int) < (out.length:Int)))),(17,AV.bl true),(18,AV.own 0 out.length),(19,iv (i1:Int)),(20,AV.ep 0 out.length (i1:Int).toNat 0),(21,sv x3),(22,sv x),(23,bv (Op.bytesLess (ByteArray.toList x3) (ByteArray.toList x))),(24,AV.bl false),(27,iv (i1:Int)),(28,AV.own 0 out.length),(29,iv (out.length:Int)),(30,bv (decide ((i1:Int) < (out.length:Int)))),(31,AV.bl true),(32,AV.own 0 out.length),(33,iv (i1:Int)),(34,AV.ep 0 out.length (i1:Int).toNat 0),(35,sv x3),(36,sv x),(37,bv (ByteArray.toList x3==ByteArray.toList x)),(38,AV.bl false),(39,AV.own 0 out.length),(40,AV.sl [[sv Zs0]]),(41,AV.own 0 (List.map (fun s=>[sv s]) out++[[sv Zs0]]).length),(42,AV.own 0 (List.map (fun s=>[sv s]) out++[[sv Zs0]]).length),(43,iv (i1:Int)),(44,iv (↑(i1+1):Int)),(45,AV.os 0 (List.map (fun s=>[sv s]) out++[[sv Zs0]]).length (↑(i1+1):Int).toNat (↑(List.map (fun s=>[sv s]) out++[[sv Zs0]]).length:Int).toNat),(46,AV.own 0 (List.map (fun s=>[sv s]) out++[[sv Zs0]]).length),(47,iv (i1:Int)),(48,AV.os 0 (List.map (fun s=>[sv s]) out++[[sv Zs0]]).length (i1:Int).toNat (↑(List.map (fun s=>[sv s]) out++[[sv Zs0]]).length:Int).toNat),(49,AV.un)] [Blk.row Ty.string (zdh (List.map (fun s=>[sv s]) out++[[sv Zs0]]) (i1+1) (List.map (fun s=>[sv s]) out++[[sv Zs0]]).length i1 (List.map (fun s=>[sv s]) out++[[sv Zs0]]).length) false],sqx (OwnAt (zdh (List.map (fun s=>[sv s]) out++[[sv Zs0]]) (i1+1) (List.map (fun s=>[sv s]) out++[[sv Zs0]]).length i1 (List.map (fun s=>[sv s]) out++[[sv Zs0]]).length) (List.map (fun s=>[sv s]) out++[[sv Zs0]]).length (i1:Int)),sx (.el ([sv ((out++[ByteArray.mk #[]])[i1]?.getD Zs0)])) (And.intro (owed (p:=True/\True)) (zya out i1 znY)),si hw]) [3,7,8,9] 1 kr (zaR (show ([(3,AV.own 0 (List.map (fun s=>[sv s]) out++[[sv Zs0]]).length),(7,AV.sl (List.map (fun s=>[sv s]) l)),(8,iv (↑(List.map (fun s=>[sv s]) l).length:Int)),(9,iv (↑(i+1):Int))]:TS)=_ by first|rfl|exact zcu ‹_›|exact zcu (And.left ‹_›)|exact zcu Zo|(simp;done)|(simp;omega)) (show ([Blk.row Ty.string ((zdh (List.map (fun s=>[sv s]) out++[[sv Zs0]]) (i1+1) (List.map (fun s=>[sv s]) out++[[sv Zs0]]).length i1 (List.map (fun s=>[sv s]) out++[[sv Zs0]]).length).set i1 [sv x]) false]:Heap)=_ by first|rfl|exact zcu ‹_›|exact zcu (And.left ‹_›)|exact zcu Zo|(simp;done)|(simp;omega)) gY)))))
  ·exact Zih (ih out Zo zw7 Zo) fun R gY=>zaa (wkl p_1 [3,5,6,7,8,9] 1 kr (g1 _ (zaa (wkl (p_3++[sb h4,si hw]) [3,7,8,9] 1 kr gY))))
theorem zxQ (l:List Str) (hl:zac l):∃ (r:List Str),r=srtS l/\zab E0 S.BH [ssl l] [] (ssl r) []:=by
 obtain ⟨out1,q1,q1_1,g1⟩:=zjc l (by first|assumption|omega|exact ⟨rfl,by simp⟩|(simp;done)) 0 ([]) (by first|assumption|omega|exact ⟨rfl,by simp⟩|(simp;done)) (by first|assumption|omega|exact ⟨rfl,by simp⟩|(simp;done))
 exact ⟨out1,(by (rw [List.take_length] at *;exact And.left ‹_›)),wkcN At.BH [] [3,7,8,9] 0 [(.ot 3 Ty.string,1)] kr (g1 _ (zaa (wkr [sqx (out1.length=(List.map (fun s=>[sv s]) out1).length),sb q1_1] kr)))⟩
theorem zkU (l:List Str) (hl:zac l):zab E0 S.BH [ssl l] [] (ssl (srtS l)) []:=by
 obtain ⟨r,rfl,h⟩:=zxQ l hl
 exact h
theorem zt6 {p:Prop} (h:p:=by first|assumption|omega|(simp;done)|(simp;omega)):p:=h
theorem sH40_2 {p:Prop} (h:p:=by first|trivial|assumption|(simp;done)|omega|(simp;omega)|(simp at *;omega)):p:=h
theorem sH40_3 {p:Prop} (h:p:=by first|omega|(simp only [zac,Few] at *;omega)):p:=h
noncomputable def L_eqS (l:List Str) (i:Nat) :Cfg:=zan B.Bn 0 [(0,ssl l),(1,ssl l),(12,iv ((l.map fun s=>[sv s]).length:Nat)),(13,iv (i:Nat))] []
theorem zfH (l:List Str) (hl:zac l) (i:Nat)  (hi:i<=(l).length) (hI:True):(True)/\(decide ((((l).length:Nat):Int) < (((l.map fun s=>[sv s]).length:Nat):Int))=false)/\∀ R,Good E0 B.Bn [] (L_eqS l (l).length ) R->Good E0 B.Bn [] (L_eqS l i ) R:=by
 have hk:=hi;revert i hI;refine zlp ((l).length) (fun i hlt ih hi hI _=>?_)
 obtain ⟨x,hx,h0,hw⟩:=zlq (l:=l) ((l.map fun s=>[sv s]).length) hlt sH40_3
 have hq:(x.toList==x.toList)=true:=by simp
 cases h1:!ByteArray.toList x==ByteArray.toList x
 ·obtain ⟨qZ,xZ,gZ⟩:=ih Zo sH40_2 Zo;exact ⟨qZ,xZ,fun R hg=>zaa (wkl [sb h0,sd [(2,[se (zai (fun s=>[sv s]) hx rfl)]),(6,[se (zai (fun s=>[sv s]) hx rfl)])],sb h1,si hw] [0,1,12,13] 0 kr (gZ R hg))⟩
 ·exact False.elim (by simp at *)
theorem zkI (l:List Str) (hl:zac l) (hz:((((l.map fun s=>[sv s]).length:Nat):Int) != (((l.map fun s=>[sv s]).length:Nat):Int))=false):∃ (r:Bool),r=true/\zab E0 S.Bn [ssl l,ssl l] [] (bv r) []:=by
 obtain ⟨q1,q1_1,g1⟩:=zfH l zt6 0 zt6 zt6
 exact ⟨true,Zr,wkc At.Bn [sb hz] [0,1,12,13] 0 kr (g1 _ (zaa (wkr [sb q1_1] kr)))⟩
theorem zfw (l:List Str) (hl:zac l):zab E0 S.Bn [ssl l,ssl l] [] (bv true) []:=by
 obtain ⟨r,rfl,h⟩:=zkI l hl Zs
 exact h
end Go.AM
