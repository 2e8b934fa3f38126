/-
  Contracts of the program's functions, part 5.
-/
import Derived.Test.YtdofdnfkldbooaaGreatDoorFpE
import Derived.Shelf.SortG.SortNone
import Derived.Shelf.SortG.Plain
import Derived.Shelf.SlicesG.CompactS
set_option maxRecDepth 100000
set_option maxHeartbeats 40000000
set_option linter.unusedSimpArgs false
set_option linter.unusedVariables false
namespace Go.AM
theorem zhr {p:Prop} (h:p:=by first|exact znc hI hx (ap1 ‹_›)|exact znc hI hx (ap2 ‹_› ‹_›)|exact znc hI hx (ap3 ‹_› ‹_› ‹_›)|exact znc hI hx (ap4 ‹_› ‹_› ‹_› ‹_›)|exact raKeep hI hx ((ap5 ‹_› ‹_› ‹_› ‹_› ‹_›).trans ‹_›)|exact znc hI hx ((ap5 ‹_› ‹_› ‹_› ‹_› ‹_›).trans ‹_›)):p:=h
theorem zhs {p:Prop} (h:p:=by first|assumption|(simp [zhQ, *];done)|omega|(simp;done)):p:=h
theorem zk5 {p:Prop} (h:p:=by first|assumption|omega|(simp;done)|(simp;omega)):p:=h
def hasR (l:List Str) (s:Str):Bool:=l.any fun u=>s.toList==u.toList
theorem zoU (l:List Str) (v:Str):∀ (r:List Str) (i:Nat),decide ((0:Int)<=stIx l v r i)=hasR r v
 | [],_=>rfl
 | x::r,i=>by
  have ih:=zoU l v r (i+1)
  simp only [stIx,hasR,List.any_cons] at ih ⊢
  by_cases hc:(v.toList==x.toList)=true
  ·simp only [hc,cond_true,Bool.true_or];simp
  ·simp only [Bool.not_eq_true] at hc;simp only [hc,cond_false,Bool.false_or];exact ih
theorem ztQ (l s:List Str):∀ (r:List Str) (i:Nat),decide ((0:Int)<=ofIx l s r i)=r.any (hasR s)
 | [],_=>rfl
 | x::r,i=>by
  have ih:=ztQ l s r (i+1)
  have h:hasC x s=hasR s x:=zoU s x s 0
  simp only [ofIx,List.any_cons,h] at ih ⊢
  by_cases hc:hasR s x=true
  ·simp only [hc,cond_true,Bool.true_or];simp
  ·simp only [Bool.not_eq_true] at hc;simp only [hc,cond_false,Bool.false_or];exact ih
theorem zyt (l s:List Str):zsx l s=l.any (hasR s):=ztQ l s l 0
def zhQ (ev:Int) (t:Tg):Bool:=bif ev != 2 then true else (((t.of.map fun s=>[sv s]).length:Nat):Int)==0
section
variable {table : Str} {ev : Int} {asg : List Str} {each : Bool} {t : Tg}
theorem ap1 (h:(!t.before)=true):appl table ev asg each t=false:=by simp [appl,h]
theorem ap2 (h1:(!t.before)=false) (h:(!t.table.toList==table.toList)=true):appl table ev asg each t=false:=by simp [appl,h1,h]
theorem ap3 (h1:(!t.before)=false) (h2:(!t.table.toList==table.toList)=false) (h:(t.event != ev)=true):appl table ev asg each t=false:=by simp [appl,h1,h2,h]
theorem ap4 (h1:(!t.before)=false) (h2:(!t.table.toList==table.toList)=false) (h3:(t.event != ev)=false) (h:(!t.each==each)=true):appl table ev asg each t=false:=by simp [appl,h1,h2,h3,h]
theorem ap5 (h1:(!t.before)=false) (h2:(!t.table.toList==table.toList)=false) (h3:(t.event != ev)=false) (h4:(!t.each==each)=false) {y:Bool} (hy:y=(zhQ ev t || (t.of.take t.of.length).any (hasR asg))):appl table ev asg each t=y:=by
 rw [hy,List.take_length]
 simp only [appl,h1,h2,h3,h4,cond_false,zyt,zhQ]
 cases ev != 2
 ·simp only [cond_false]
  cases h5:((((t.of.map fun s=>[sv s]).length:Nat):Int)==0) <;> simp
 ·simp
end
theorem znc {ts out:List Tg} {p:Tg->Bool} {i:Nat} {x:Tg} (hI:out=(ts.take i).filter p) (hx:ts[i]?=some x) (hp:p x=false):out=(ts.take (i+1)).filter p:=by
 rw [List.take_add_one,hx,List.filter_append,← hI];simp [hp]
theorem raKeep {ts out:List Tg} {p:Tg->Bool} {i:Nat} {x:Tg} (hI:out=(ts.take i).filter p) (hx:ts[i]?=some x) (hp:p x=true):out++[x]=(ts.take (i+1)).filter p:=by
 rw [List.take_add_one,hx,List.filter_append,← hI];simp [hp]
theorem zAW {l:List Str} {s x:Str} {i:Nat} (h:hasR (l.take i) s=false) (hx:l[i]?=some x) (hn:(x.toList==s.toList)=false):hasR (l.take (i+1)) s=false:=by
 have h2:(s.toList==x.toList)=false:=by
  rw [Bool.eq_false_iff] at hn ⊢
  intro h3
  simp only [beq_iff_eq] at h3
  simp [h3] at hn
 rw [List.take_add_one,hx]
 simp only [hasR,List.any_append,Option.toList_some,List.any_cons,List.any_nil,h2] at h ⊢
 simp [h]
theorem zAX {l:List Str} {s x:Str} {i:Nat} (hx:l[i]?=some x) (hn:(x.toList==s.toList)=true):true=hasR l s:=by
 symm
 simp only [hasR,List.any_eq_true]
 exact ⟨x,List.mem_of_getElem? hx,by simp only [beq_iff_eq] at hn ⊢;exact hn.symm⟩
noncomputable def L_ha (l:List Str) (s:Str) (i:Nat) :Cfg:=zan B.Co 0 [(1,sv s),(7,ssl l),(8,iv ((l.map fun s=>[sv s]).length:Nat)),(9,iv (i:Nat))] []
theorem zl9 (l:List Str) (s:Str) (hl:zac l) (i:Nat)  (hi:i<=(l).length) (hI:hasR (l.take i) s=false):((hasR (l.take (l).length) s=false)/\(decide ((((l).length:Nat):Int) < (((l.map fun s=>[sv s]).length:Nat):Int))=false)/\∀ R,Good E0 B.Co [] (L_ha l s (l).length ) R->Good E0 B.Co [] (L_ha l s i ) R)\/(∃ (r:Bool),r=hasR l s/\Good E0 B.Co [] (L_ha l s i ) (Shut 0 fun rZ hZ=>rZ=(bv r)/\hZ=[])):=by
 have hk:=hi;revert i;refine zlp ((l).length) (fun i hlt ih hi hI _=>?_)
 obtain ⟨x,hx,h0,hw⟩:=zlq (l:=l) ((l.map fun s=>[sv s]).length) hlt
 let p_1:List St:=[sb h0,se (zai (fun s=>[sv s]) hx rfl)]
 cases h1:ByteArray.toList x==ByteArray.toList s
 ·exact zie2 (ih Zo (by exact zAW hI hx ‹_›) Zo) fun R gY=>zaa (wkl (p_1++[sb h1,si hw]) [1,7,8,9] 0 kr gY)
 ·exact .inr ⟨true,(by first|exact zAX hx ‹_›|assumption),zaa (wkr (p_1++[sb h1]) kr)⟩
theorem zop (l:List Str) (s:Str) (hl:zac l):∃ (r:Bool),r=hasR l s/\zab E0 S.Co [ssl l,sv s] [] (bv r) []:=by
 rcases zl9 l s (by first|assumption|(simp [hasR];done)|(simp;done)|omega) 0 (by first|assumption|(simp [hasR];done)|(simp;done)|omega) (by first|assumption|(simp [hasR];done)|(simp;done)|omega) with ⟨q1,q1_1,g1⟩|⟨r1_0,p1_0,g1⟩
 ·exact ⟨false,(by first|assumption|(rw [List.take_length] at *;exact Eq.symm ‹_›)),wkc At.Co [] [1,7,8,9] 0 kr (g1 _ (zaa (wkr [sb q1_1] kr)))⟩
 ·exact ⟨r1_0,(by first|assumption|(rw [List.take_length] at *;exact Eq.symm ‹_›)),wkc At.Co [] [1,7,8,9] 0 kr (g1)⟩
theorem zvT {z:Tg} {ev:Int} {asg:List Str} {i:Nat} {x:Str} {y r:Bool} (h:y=(zhQ ev z || (z.of.take i).any (hasR asg))) (hx:z.of[i]?=some x) (hr:r=hasR asg x) (hy:y=false):r=(zhQ ev z || (z.of.take (i+1)).any (hasR asg)):=by
 rw [List.take_add_one,hx,List.any_append,← Bool.or_assoc,← h,hy,hr]
 simp
theorem zvS {z:Tg} {ev:Int} {asg:List Str} {i:Nat} {x:Str} {y:Bool} (h:y=(zhQ ev z || (z.of.take i).any (hasR asg))) (hx:z.of[i]?=some x) (hy:y=true):true=(zhQ ev z || (z.of.take (i+1)).any (hasR asg)):=by
 rw [List.take_add_one,hx,List.any_append,← Bool.or_assoc,← h,hy]
 simp
noncomputable def L_raI (ts:List Tg) (table:Str) (ev:Int) (asg:List Str) (each:Bool) (io:Nat) (out:List Tg) (z:Tg) (i:Nat) (y:Bool):Cfg:=zan B.AJ 1 [(1,sv table),(2,iv ev),(3,ssl asg),(4,bv each),(11,.own 0 out.length),(13,.p 1 0),(14,bv y),(17,.sl (ts.map Tg.cells)),(18,iv ((ts.map Tg.cells).length:Nat)),(19,iv (io:Nat)),(53,ssl z.of),(54,iv ((z.of.map fun s=>[sv s]).length:Nat)),(55,iv (i:Nat))] [.row Ty.Trigger (out.map Tg.cells) false,.box z.cells]
theorem zdF (ts:List Tg) (table:Str) (ev:Int) (asg:List Str) (each:Bool) (io:Nat) (out:List Tg) (z:Tg) (hs:zac asg) (hof:zac z.of) (i:Nat) (y:Bool) (hi:i<=(z.of).length) (hI:y=(zhQ ev z || (z.of.take i).any (hasR asg))):∃ (y':Bool),(y'=(zhQ ev z || (z.of.take (z.of).length).any (hasR asg)))/\(decide ((((z.of).length:Nat):Int) < (((z.of.map fun s=>[sv s]).length:Nat):Int))=false)/\∀ R,Good E0 B.AJ [] (L_raI ts table ev asg each io out z (z.of).length y') R->Good E0 B.AJ [] (L_raI ts table ev asg each io out z i y) R:=by
 have hk:=hi;revert i y;refine zlp ((z.of).length) (fun i hlt ih y hi hI _=>?_)
 obtain ⟨x,hx,h0,hw⟩:=zlq (l:=z.of) ((z.of.map fun s=>[sv s]).length) hlt
 let p_1:List St:=[sb h0,se (zai (fun s=>[sv s]) hx rfl)]
 rcases (Bool.eq_false_or_eq_true y).symm with h1|h1
 ·obtain ⟨r2,q2,c2⟩:=(zop asg x zk5)
  exact Zih (ih r2 Zo (by first|exact zvT hI hx ‹_› ‹_›|exact zvS hI hx ‹_›) Zo) fun R gY=>zaa (wkl (p_1++[sg h1,sc c2,si hw]) [1,2,3,4,11,13,14,17,18,19,53,54,55] 2 kr gY)
 ·exact Zih (ih true Zo (by first|exact zvT hI hx ‹_› ‹_›|exact zvS hI hx ‹_›) Zo) fun R gY=>zaa (wklN (p_1++[sb h1,si hw]) [1,2,3,4,11,13,14,17,18,19,53,54,55] 2 [(.bl 14,2)] kr gY)
noncomputable def L_raO (ts:List Tg) (table:Str) (ev:Int) (asg:List Str) (each:Bool) (i:Nat) (out:List Tg):Cfg:=zan B.AJ 0 [(1,sv table),(2,iv ev),(3,ssl asg),(4,bv each),(11,.own 0 out.length),(17,.sl (ts.map Tg.cells)),(18,iv ((ts.map Tg.cells).length:Nat)),(19,iv (i:Nat))] [.row Ty.Trigger (out.map Tg.cells) false]
theorem zdG (ts:List Tg) (table:Str) (ev:Int) (asg:List Str) (each:Bool) (hl:zac ts) (hs:zac asg) (hof:∀ t∈ts,zac t.of) (i:Nat) (out:List Tg) (hi:i<=(ts).length) (hI:out=(ts.take i).filter (appl table ev asg each)):∃ (out':List Tg),(out'=(ts.take (ts).length).filter (appl table ev asg each))/\(decide ((((ts).length:Nat):Int) < (((ts.map Tg.cells).length:Nat):Int))=false)/\∀ R,Good E0 B.AJ [] (L_raO ts table ev asg each (ts).length out') R->Good E0 B.AJ [] (L_raO ts table ev asg each i out) R:=by
 have hk:=hi;revert i out;refine zlp ((ts).length) (fun i hlt ih out hi hI _=>?_)
 obtain ⟨x,hx,h0,hw⟩:=zlq (l:=ts) ((ts.map Tg.cells).length) hlt
 have hx1:=hof x (List.mem_of_getElem? hx)
 have ho:out.length<=1000000000:=by
  rw [hI];refine Nat.le_trans (List.length_filter_le _ _) ?_;rw [List.length_take];simp only [zac] at hl;omega
 let p_1:List St:=[sb h0,se (zai Tg.cells hx rfl)]
 cases h1:!x.before
 ·cases h2:!ByteArray.toList x.table==ByteArray.toList table
  ·cases h3:x.event != ev
   ·cases h4:!x.each==each
    ·cases h5:ev != 2
     ·obtain ⟨y6,q6,q6_1,g6⟩:=zdF ts table ev asg each i out x zhs zhs 0 ((↑(List.map (fun s=>[sv s]) x.of).length:Int)==0) zhs zhs
      rcases (Bool.eq_false_or_eq_true y6).symm with h7|h7
      ·exact Zih (ih out Zo zhr Zo) fun R gY=>zaa (wkl (p_1++[sg h1,sg h2,sg h3,sb h4,sg h5]) [1,2,3,4,11,13,14,17,18,19,53,54,55] 2 kr (g6 _ (zaa (wkl [sb q6_1,sb h7,si hw] [1,2,3,4,11,17,18,19] 1 kr gY))))
      ·exact Zih (ih (out++[x]) Zo zhr Zo) fun R gY=>zaa (wkl (p_1++[sg h1,sg h2,sg h3,sb h4,sg h5]) [1,2,3,4,11,13,14,17,18,19,53,54,55] 2 kr (g6 _ (zaa (wkl [sb q6_1,sb h7,sqA (List.map Tg.cells out) [x.cells] out.length 11 200,si hw] [1,2,3,4,11,17,18,19] 1 kr (zaE 11 0 (List.map Tg.cells out++[x.cells]) gY (he:=Zcv1) (hm:=Zcv1))))))
     ·obtain ⟨y8,q8,q8_1,g8⟩:=zdF ts table ev asg each i out x zhs zhs 0 true zhs zhs
      rcases (Bool.eq_false_or_eq_true y8).symm with h9|h9
      ·exact Zih (ih out Zo zhr Zo) fun R gY=>zaa (wklN (p_1++[sg h1,sg h2,sg h3,sb h4,sb h5]) [1,2,3,4,11,13,14,17,18,19,53,54,55] 2 [(.bl 14,2)] kr (g8 _ (zaa (wkl [sb q8_1,sb h9,si hw] [1,2,3,4,11,17,18,19] 1 kr gY))))
      ·exact Zih (ih (out++[x]) Zo zhr Zo) fun R gY=>zaa (wklN (p_1++[sg h1,sg h2,sg h3,sb h4,sb h5]) [1,2,3,4,11,13,14,17,18,19,53,54,55] 2 [(.bl 14,2)] kr (g8 _ (zaa (wkl [sb q8_1,sb h9,sqA (List.map Tg.cells out) [x.cells] out.length 11 200,si hw] [1,2,3,4,11,17,18,19] 1 kr (zaE 11 0 (List.map Tg.cells out++[x.cells]) gY (he:=Zcv1) (hm:=Zcv1))))))
    ·exact Zih (ih out Zo zhr Zo) fun R gY=>zaa (wkl (p_1++[sg h1,sg h2,sg h3,sb h4,si hw]) [1,2,3,4,11,17,18,19] 1 kr gY)
   ·exact Zih (ih out Zo zhr Zo) fun R gY=>zaa (wkl (p_1++[sg h1,sg h2,sb h3,si hw]) [1,2,3,4,11,17,18,19] 1 kr gY)
  ·exact Zih (ih out Zo zhr Zo) fun R gY=>zaa (wkl (p_1++[sg h1,sb h2,si hw]) [1,2,3,4,11,17,18,19] 1 kr gY)
 ·exact Zih (ih out Zo zhr Zo) fun R gY=>zaa (wkl (p_1++[sb h1,si hw]) [1,2,3,4,11,17,18,19] 1 kr gY)
theorem zmQ (ts:List Tg) (table:Str) (ev:Int) (asg:List Str) (each:Bool) (hl:zac ts) (hs:zac asg) (hof:∀ t∈ts,zac t.of):∃ (out:List Tg),out=ts.filter (appl table ev asg each)/\zab E0 S.AJ [.sl (ts.map Tg.cells),sv table,iv ev,ssl asg,bv each] [] (.sl (out.map Tg.cells)) []:=by
 obtain ⟨out1,q1,q1_1,g1⟩:=zdG ts table ev asg each zk5 zk5 zk5 0 ([]) zk5 zk5
 exact ⟨out1,(by rw [List.take_length] at *;assumption),wkcN At.AJ [] [1,2,3,4,11,17,18,19] 0 [(.ot 11 Ty.Trigger,1)] kr (g1 _ (zaa (wkr [sqx (out1.length=(List.map Tg.cells out1).length),sb q1_1] kr)))⟩
theorem zm3 (ts:List Tg) (table:Str) (ev:Int) (asg:List Str) (each:Bool) (hl:zac ts) (hs:zac asg) (hof:∀ t∈ts,zac t.of):zab E0 S.AJ [.sl (ts.map Tg.cells),sv table,iv ev,ssl asg,bv each] [] (.sl ((ts.filter (appl table ev asg each)).map Tg.cells)) []:=by
 obtain ⟨out,rfl,h⟩:=zmQ ts table ev asg each hl hs hof
 exact h
theorem zlY {p:Prop} (h:p:=by first|assumption|omega|(simp;done)|(simp;omega)):p:=h
theorem zxa {p:Prop} (h:p:=by first|(simp only [appB, *,cond_true,cond_false,List.map_append];done)|(simp only [appB, *,cond_true,cond_false,List.map_append];rfl)):p:=h
theorem zqf {p:Prop} (h:p:=by first|assumption|(simp;done)|omega):p:=h
theorem zxb {p:Prop} (h:p:=by first|assumption|rfl|omega|(refine ⟨?_,by simp⟩;cases k2 <;> rfl)):p:=h
theorem zqg {p:Prop} (h:p:=by first|assumption|omega|exact hT):p:=h
def asgS (a:Ac):List Str:=bif a.kind==2 then a.sets.map Se.col else []
noncomputable def L_asp (a:Ac) (i:Nat) (out:List Str):Cfg:=zan B.B4 0 [(3,.own 1 out.length),(10,.sl (a.sets.map Se.cells)),(11,iv ((a.sets.map Se.cells).length:Nat)),(12,iv (i:Nat))] [.box a.cells,.row Ty.string (out.map fun s=>[sv s]) false]
theorem Zcv9 {p:Prop} (h:p:=by first|rfl|(simp;done)|(simp [X.cells,Qy.cells,V.cells,Col.cells,Rw.cells,Tb.cells,Fr.cells,Sch.cells,Tp.cells,Pl.cells,Acc.cells,Ac.cells,Se.cells];done)):p:=h
theorem ziW (a:Ac) (hl:a.sets.length<=1000) (i:Nat) (out:List Str) (hi:i<=(a.sets).length) (hI:out=(a.sets.take i).map Se.col):∃ (out':List Str),(out'=(a.sets.take (a.sets).length).map Se.col)/\(decide ((((a.sets).length:Nat):Int) < (((a.sets.map Se.cells).length:Nat):Int))=false)/\∀ R,Good E0 B.B4 [] (L_asp a (a.sets).length out') R->Good E0 B.B4 [] (L_asp a i out) R:=by
 have hk:=hi;revert i out;refine zlp ((a.sets).length) (fun i hlt ih out hi hI _=>?_)
 obtain ⟨x,hx,h0,hw⟩:=zlq (l:=a.sets) ((a.sets.map Se.cells).length) hlt
 have ho:out.length<=1000:=(by rw [hI,List.length_map,List.length_take];omega)
 exact Zih (ih (out++[x.col]) Zo (by (rw [List.take_add_one,hx,List.map_append,hI];rfl)) Zo) fun R gY=>zaa (wkl [sb h0,se (zai Se.cells hx rfl),sqA (List.map (fun s=>[sv s]) out) [[sv x.col]] out.length 1 16,si hw] [3,10,11,12] 2 kr (zaE 3 1 (List.map (fun s=>[sv s]) out++[[sv x.col]]) gY (he:=Zcv9) (hm:=Zcv9)))
theorem c_asg (a:Ac) (hl:a.sets.length<=1000):∃ (r:List Str),r=asgS a/\zab E0 S.B4 [a.av] [] (ssl r) []:=by
 cases h1:a.kind != 2
 ·obtain ⟨out2,q2,q2_1,g2⟩:=ziW a zlY 0 ([]) zlY zlY
  exact ⟨out2,(by (simp only [bne,Bool.not_eq_true',Bool.not_eq_false'] at *;simp only [asgS, *,cond_true,cond_false,List.take_length])),wkcN At.B4 [sb h1] [3,10,11,12] 1 [(.ot 3 Ty.string,2)] kr (g2 _ (zaa (wkr [sqx (out2.length=(List.map (fun s=>[sv s]) out2).length),sb q2_1] kr)))⟩
 ·exact ⟨[],(by (simp only [bne,Bool.not_eq_true',Bool.not_eq_false'] at *;simp only [asgS, *,cond_true,cond_false,List.take_length])),wk At.B4 [sb h1] kr⟩
theorem zqK (a:Ac) (hl:a.sets.length<=1000):zab E0 S.B4 [a.av] [] (ssl (asgS a)) []:=by
 obtain ⟨r,rfl,h⟩:=c_asg a hl
 exact h
theorem zs5 {l:List Se} {out:List Str} {k2 b:Bool} {i:Nat} {x:Se} {o2:List Str} (h:out=bif k2 then (l.take i).map Se.col else []) (hx:l[i]?=some x) (hb:k2=b) (ho:o2=bif b then out++[x.col] else out:=by rfl):o2=bif k2 then (l.take (i+1)).map Se.col else []:=by
 subst hb
 rw [ho,h]
 cases k2
 ·rfl
 ·simp [List.take_add_one,hx]
noncomputable def L_asr (a:Ac) (k2:Bool) (i:Nat) (out:List Str):Cfg:=zan B.B0 0 [(1,.p 0 0),(3,.own 1 out.length),(7,.sl (a.sets.map Se.cells)),(8,iv ((a.sets.map Se.cells).length:Nat)),(9,iv (i:Nat))] [.box a.cells,.row Ty.string (out.map fun s=>[sv s]) false]
theorem zhH (a:Ac) (k2:Bool) (hk2:(a.kind==2)=k2) (hl:a.sets.length<=1000) (i:Nat) (out:List Str) (hi:i<=(a.sets).length) (hI:(out=bif k2 then (a.sets.take i).map Se.col else [])/\out.length<=i):∃ (out':List Str),((out'=bif k2 then (a.sets.take (a.sets).length).map Se.col else [])/\out'.length<=(a.sets).length)/\(decide ((((a.sets).length:Nat):Int) < (((a.sets.map Se.cells).length:Nat):Int))=false)/\∀ R,Good E0 B.B0 [] (L_asr a k2 (a.sets).length out') R->Good E0 B.B0 [] (L_asr a k2 i out) R:=by
 have hk:=hi;revert i out;refine zlp ((a.sets).length) (fun i hlt ih out hi hI _=>?_)
 obtain ⟨x,hx,h0,hw⟩:=zlq (l:=a.sets) ((a.sets.map Se.cells).length) hlt
 have ho:out.length<=1000:=(by have:=hI.2;omega)
 let p_1:List St:=[sb h0,se (zai Se.cells hx rfl)]
 cases h1:a.kind==2
 ·exact Zih (ih out Zo (by (refine ⟨?_,by have:=hI.2;simp;omega⟩;exact zs5 hI.1 hx (hk2.symm.trans ‹_›))) Zo) fun R gY=>zaa (wkl (p_1++[sb h1,si hw]) [1,3,7,8,9] 2 kr gY)
 ·exact Zih (ih (out++[x.col]) Zo (by (refine ⟨?_,by have:=hI.2;simp;omega⟩;exact zs5 hI.1 hx (hk2.symm.trans ‹_›))) Zo) fun R gY=>zaa (wkl (p_1++[sb h1,sqA (List.map (fun s=>[sv s]) out) [[sv x.col]] out.length 1 16,si hw]) [1,3,7,8,9] 2 kr (zaE 3 1 (List.map (fun s=>[sv s]) out++[[sv x.col]]) gY (he:=Zcv9) (hm:=Zcv9)))
theorem c_asgR (a:Ac) (k2:Bool) (hk2:(a.kind==2)=k2) (hl:a.sets.length<=1000):∃ (r:List Str),r=asgS a/\zab E0 S.B0 [a.av] [] (ssl r) []:=by
 obtain ⟨out1,q1,q1_1,g1⟩:=zhH a k2 hk2 zxb 0 ([]) zxb zxb
 exact ⟨out1,(by (simp only [List.take_length] at *;subst hk2;exact And.left ‹_›)),wkcN At.B0 [] [1,3,7,8,9] 1 [(.ot 3 Ty.string,2)] kr (g1 _ (zaa (wkr [sqx (out1.length=(List.map (fun s=>[sv s]) out1).length),sb q1_1] kr)))⟩
theorem ziA (a:Ac) (hl:a.sets.length<=1000):zab E0 S.B0 [a.av] [] (ssl (asgS a)) []:=by
 obtain ⟨r,rfl,h⟩:=c_asgR a _ rfl hl
 exact h
theorem c_aplW (N:Nat) (ts:List Tg) (table:Str) (ev:Int) (asg:List Str) (each:Bool) (hl:zac ts) (hs:zac asg) (hT:∀ t∈ts,TgSh N t):∃ (r:List Tg),r=(ts.take ts.length).filter (appl table ev asg each)/\zab E0 S.AU [.sl (ts.map Tg.cells),sv table,iv ev,ssl asg,bv each] [] (.own 1 r.length) [.box [ssl asg],.row Ty.Trigger (r.map Tg.cells) false]:=by
 obtain ⟨out1,q1,q1_1,g1⟩:=zdt N ts table ev asg each zlY zlY hT 0 ([]) zlY zlY
 exact ⟨out1,‹_›,zsR At.AU [] [1,2,4,8,11,15,16,17] 1 [(.ot 11 Ty.Trigger,2)] kr (g1 _ (zaa (wkrK [sb q1_1] kr)))⟩
theorem ziy (N:Nat) (ts:List Tg) (table:Str) (ev:Int) (asg:List Str) (hl:zac ts) (hs:zac asg) (hT:∀ t∈ts,TgSh N t):zab E0 S.AU [.sl (ts.map Tg.cells),sv table,iv ev,ssl asg,bv true] [] (.own 1 (ts.filter (appl table ev asg true)).length) [.box [ssl asg],.row Ty.Trigger ((ts.filter (appl table ev asg true)).map Tg.cells) false]:=by
 obtain ⟨r,hr,h⟩:=c_aplW N ts table ev asg true hl hs hT
 rw [List.take_length] at hr
 subst hr
 exact h
theorem zhh (N:Nat) (ts:List Tg) (table:Str) (ev:Int) (asg:List Str) (hl:zac ts) (hs:zac asg) (hT:∀ t∈ts,TgSh N t):zab E0 S.AU [.sl (ts.map Tg.cells),sv table,iv ev,ssl asg,bv false] [] (.sl ((ts.filter (appl table ev asg false)).map Tg.cells)) [] :=
 zmq N ts table ev asg false hl hs hT
theorem zAF (ts:List Tg) (table:Str) (ev:Int) (asg:List Str) (each:Bool) (hl:zac ts) (hs:zac asg) (hof:∀ t∈ts,zac t.of):∃ (out:List Tg),out=ts.filter (appl table ev asg each)/\zab E0 S.AJ [.sl (ts.map Tg.cells),sv table,iv ev,ssl asg,bv each] [] (.own 0 out.length) [.row Ty.Trigger (out.map Tg.cells) false]:=by
 obtain ⟨out1,q1,q1_1,g1⟩:=zdG ts table ev asg each zqf zqf zqf 0 ([]) zqf zqf
 exact ⟨out1,(by (rw [List.take_length] at *;assumption)),zsR At.AJ [] [1,2,3,4,11,17,18,19] 0 [(.ot 11 Ty.Trigger,1)] kr (g1 _ (zaa (wkrK [sb q1_1] kr)))⟩
theorem zje (ts:List Tg) (table:Str) (ev:Int) (asg:List Str) (hl:zac ts) (hs:zac asg) (hof:∀ t∈ts,zac t.of):zab E0 S.AJ [.sl (ts.map Tg.cells),sv table,iv ev,ssl asg,bv true] [] (.own 0 (ts.filter (appl table ev asg true)).length) [.row Ty.Trigger ((ts.filter (appl table ev asg true)).map Tg.cells) false]:=by
 obtain ⟨r,rfl,h⟩:=zAF ts table ev asg true hl hs hof
 exact h
theorem zhE (ts:List Tg) (table:Str) (ev:Int) (asg:List Str) (hl:zac ts) (hs:zac asg) (hof:∀ t∈ts,zac t.of):zab E0 S.AJ [.sl (ts.map Tg.cells),sv table,iv ev,ssl asg,bv false] [] (.sl ((ts.filter (appl table ev asg false)).map Tg.cells)) [] :=
 zm3 ts table ev asg false hl hs hof
def appB (a:Ac) (ts:List Tg):List Tg:=bif decide (a.kind < 1) then [] else bif decide (3 < a.kind) then [] else ts.filter (appl a.table a.kind (asgS a) true)++ts.filter (appl a.table a.kind (asgS a) false)
theorem zs4 (a:Ac) (hl:a.sets.length<=1000):zac (asgS a):=by
 unfold asgS;cases a.kind==2 <;> simp [zac] <;> omega
theorem znE {f:Tg->Bool} {ts:List Tg} (h:ts.length<=1000):(ts.filter f).length<=1000:=Nat.le_trans (List.length_filter_le _ _) h
def appR (a:Ac) (ts:List Tg):List Tg:=bif decide (3 < a.kind) then [] else ts.filter (appl a.table a.kind (asgS a) true)++ts.filter (appl a.table a.kind (asgS a) false)
theorem zzx (a:Ac) (ts:List Tg) (N:Nat) (hl:zac ts) (hs:zac (asgS a)) (hsl:a.sets.length<=1000) (hT:∀ t∈ts,TgSh N t) (hn1:(ts.filter (appl a.table a.kind (asgS a) true)).length<=1000) (hn2:(ts.filter (appl a.table a.kind (asgS a) false)).length<=1000):∃ (r:List (List AV)),r=(appB a ts).map Tg.cells/\zab E0 S.AV [a.av,.sl (ts.map Tg.cells)] [] (.sl r) []:=by
 cases h1:decide (a.kind < 1)
 ·cases h2:decide (3 < a.kind)
  ·exact ⟨List.map Tg.cells (List.filter (appl a.table a.kind (asgS a) true) ts)++List.map Tg.cells (List.filter (appl a.table a.kind (asgS a) false) ts),zxa,wk At.AV [sqx ((List.map Tg.cells (List.filter (appl a.table a.kind (asgS a) true) ts)++List.map Tg.cells (List.filter (appl a.table a.kind (asgS a) false) ts)).length=(List.map Tg.cells (List.filter (appl a.table a.kind (asgS a) true) ts)++List.map Tg.cells (List.filter (appl a.table a.kind (asgS a) false) ts)).length),sg h1,sb h2,sc (zqK a zqg),sd [(6,[sc (ziy N ts a.table a.kind (asgS a) zqg zqg hT)]),(13,[sc (zhh N ts a.table a.kind (asgS a) zqg zqg hT)]),(14,[sqx (AllLen (List.map Tg.cells (List.filter (appl a.table a.kind (asgS a) false) ts)) 11/\(List.filter (appl a.table a.kind (asgS a) true) ts).length=(List.map Tg.cells (List.filter (appl a.table a.kind (asgS a) true) ts)).length/\(((List.map Tg.cells (List.filter (appl a.table a.kind (asgS a) true) ts)).length+(List.map Tg.cells (List.filter (appl a.table a.kind (asgS a) false) ts)).length) * 200).le 140737488355328) (by refine ⟨⟨fun c hc=>by obtain ⟨t,_,rfl⟩:=List.mem_map.1 hc;rfl⟩,by simp,?_⟩;simp only [List.length_map];exact Nat.le_of_lt Zo)])]] kr⟩
  ·exact ⟨[],zxa,wk At.AV [sg h1,sb h2] kr⟩
 ·exact ⟨[],zxa,wk At.AV [sb h1] kr⟩
theorem zpl (a:Ac) (ts:List Tg) (hl:zac ts) (hs:zac (asgS a)) (hsl:a.sets.length<=1000) (hof:∀ t∈ts,zac t.of) (hn1:(ts.filter (appl a.table a.kind (asgS a) true)).length<=1000) (hn2:(ts.filter (appl a.table a.kind (asgS a) false)).length<=1000):∃ (r:List (List AV)),(r=(appR a ts).map Tg.cells)/\zab E0 S.CC [a.av,.sl (ts.map Tg.cells)] [] (.sl r) []:=by
 cases h1:decide (3 < a.kind)
 ·exact ⟨List.map Tg.cells (List.filter (appl a.table a.kind (asgS a) true) ts)++List.map Tg.cells (List.filter (appl a.table a.kind (asgS a) false) ts),(by first|(simp only [appR, *,cond_true,cond_false,List.map_append];done)|(simp only [appR, *,cond_true,cond_false,List.map_append];rfl)),wk At.CC [sqx ((List.map Tg.cells (List.filter (appl a.table a.kind (asgS a) true) ts)++List.map Tg.cells (List.filter (appl a.table a.kind (asgS a) false) ts)).length=(List.map Tg.cells (List.filter (appl a.table a.kind (asgS a) true) ts)++List.map Tg.cells (List.filter (appl a.table a.kind (asgS a) false) ts)).length),sb h1,sd [(6,[sc (ziA a Zb)]),(7,[sc (zje ts a.table a.kind (asgS a) Zb Zb Zb)])],sd [(7,[sc (ziA a Zb)]),(8,[sc (zhE ts a.table a.kind (asgS a) Zb Zb Zb)]),(9,[sqx (AllLen (List.map Tg.cells (List.filter (appl a.table a.kind (asgS a) false) ts)) 11/\(List.filter (appl a.table a.kind (asgS a) true) ts).length=(List.map Tg.cells (List.filter (appl a.table a.kind (asgS a) true) ts)).length/\(((List.map Tg.cells (List.filter (appl a.table a.kind (asgS a) true) ts)).length+(List.map Tg.cells (List.filter (appl a.table a.kind (asgS a) false) ts)).length) * 200).le 140737488355328) (by refine ⟨⟨fun c hc=>by obtain ⟨t,_,rfl⟩:=List.mem_map.1 hc;rfl⟩,by simp,?_⟩;simp only [List.length_map];exact Nat.le_of_lt Zo)])]] kr⟩
 ·exact ⟨[],(by first|(simp only [appR, *,cond_true,cond_false,List.map_append];done)|(simp only [appR, *,cond_true,cond_false,List.map_append];rfl)),wk At.CC [sb h1] kr⟩
theorem ze3 (a:Ac) (ts:List Tg) (N:Nat) (hl:ts.length<=1000) (hsl:a.sets.length<=1000) (hT:∀ t∈ts,TgSh N t):zab E0 S.AV [a.av,.sl (ts.map Tg.cells)] [] (.sl ((appB a ts).map Tg.cells)) []:=by
 obtain ⟨r,rfl,h⟩:=zzx a ts N (by simp only [zac];omega) (zs4 a hsl) hsl hT (znE hl) (znE hl)
 exact h
theorem zAw {a:Ac} (ts:List Tg) (h:1<=a.kind):appR a ts=appB a ts:=by
 unfold appR appB
 rw [show decide (a.kind < 1)=false by simp;omega];rfl
theorem zfW (a:Ac) (ts:List Tg) (hl:ts.length<=1000) (hk:1<=a.kind) (hsl:a.sets.length<=1000) (hof:∀ t∈ts,zac t.of):zab E0 S.CC [a.av,.sl (ts.map Tg.cells)] [] (.sl ((appB a ts).map Tg.cells)) []:=by
 obtain ⟨r,rfl,h⟩:=zpl a ts (by simp only [zac];omega) (zs4 a hsl) hsl hof (znE hl) (znE hl)
 rw [zAw ts hk] at h
 exact h
theorem zxc {p:Prop} (h:p:=by first|(rw [vnE_0 ‹_›];simp;done)|(rw [vnE_1 ‹_› ‹_›];simp;done)|(rw [vnE_2 ‹_› ‹_›];simp;done)):p:=h
theorem zqh {p:Prop} (h:p:=by first|assumption|(simp only [vnG,vnQ,List.length_append] at *;omega)):p:=h
theorem zqi {p:Prop} (h:p:=by first|assumption|omega|(simp;done)|(simp;omega)):p:=h
def vnE :X->List Str:=nmE ⟨#[78,69,87]⟩
def vnG  (fa fq:X->List Str) (e:X):List Str:=vnE  e++(fa e++fq e)
def vnQ  (fi fw:Qy->List Str) (q:Qy):List Str:=fi q++fw q
def vnC  (l:List X) (f:List Str):Prop:=∀ k:List Str,(k).length+(f).length<=900000000->zab E0 S.Ai [.fn S.Ap [.p 0 0],xsl l] [.box [.own 1 (k).length],.row Ty.string ((k).map fun s=>[sv s]) false] (bv true) [.box [.own 1 ((k++f)).length],.row Ty.string (((k++f)).map fun s=>[sv s]) false]
def vnD  (l:List Qy) (f:List Str):Prop:=∀ k:List Str,(k).length+(f).length<=900000000->zab E0 S.Aj [.fn S.Ap [.p 0 0],.sl (zal l)] [.box [.own 1 (k).length],.row Ty.string ((k).map fun s=>[sv s]) false] (bv true) [.box [.own 1 ((k++f)).length],.row Ty.string (((k++f)).map fun s=>[sv s]) false]
theorem vnE_0 {e:X} (h:(e.kind==2)=false):vnE e=[]:=by simp [vnE,nmE,h]
theorem vnE_1 {e:X} (h:(e.kind==2)=true) (h2:(e.table.toList==ZsN.toList)=false):vnE e=[]:=by
 unfold vnE nmE;rw [h,h2];rfl
theorem vnE_2 {e:X} (h:(e.kind==2)=true) (h2:(e.table.toList==ZsN.toList)=true):vnE e=[e.name]:=by
 unfold vnE nmE;rw [h,h2];rfl
section
variable {α : Type} {l : List α} {f : α -> List Str} {k k0 o : List Str} {i : Nat} {x : α}
theorem zns (hI:k=k0++(l.take i).flatMap f) (hx:l[i]?=some x) (hB:k0.length+(l.flatMap f).length<=900000000):k.length+(f x).length<=900000000:=by
 have h1:l=l.take (i+1)++l.drop (i+1):=(List.take_append_drop _ _).symm
 have h2:(l.flatMap f).length=((l.take (i+1)).flatMap f).length+((l.drop (i+1)).flatMap f).length:=by
  conv=>lhs;rw [h1]
  rw [List.flatMap_append,List.length_append]
 have h3:((l.take (i+1)).flatMap f).length=((l.take i).flatMap f).length+(f x).length:=by
  rw [List.take_add_one,hx];simp
 rw [hI,List.length_append]
 omega
theorem znt (hI:k=k0++(l.take i).flatMap f) (hx:l[i]?=some x) (ho:o=k++f x):o=k0++(l.take (i+1)).flatMap f:=by
 rw [ho,hI,List.take_add_one,hx];simp
end
theorem c_vnc (e:X) (k:List Str) (hB:k.length<=900000000):∃ (n:Nat) (r:List (List AV)),(n=(k++vnE e).length/\r=(k++vnE e).map fun s=>[sv s])/\zab E0 S.Ap [e.av,.p 0 0] [.box [.own 1 (k).length],.row Ty.string ((k).map fun s=>[sv s]) false] (bv true) [.box [.own 1 n],.row Ty.string r false]:=by
 cases h1:e.kind==2
 ·exact ⟨k.length,List.map (fun s=>[sv s]) k,zxc,(by (try simp only [zsl,Acc.cells,Ac.cells,Se.cells]);exact wk At.Ap [sb h1] kr)⟩
 ·cases h2:ByteArray.toList e.table==ZsN.toList
  ·exact ⟨k.length,List.map (fun s=>[sv s]) k,zxc,(by (try simp only [zsl,Acc.cells,Ac.cells,Se.cells]);exact wk At.Ap [sg h1,sb h2] kr)⟩
  ·exact ⟨(List.map (fun s=>[sv s]) k++[[sv e.name]]).length,List.map (fun s=>[sv s]) k++[[sv e.name]],zxc,(by (try simp only [zsl,Acc.cells,Ac.cells,Se.cells]);exact wk At.Ap [sg h1,sb h2,sqA (List.map (fun s=>[sv s]) k) [[sv e.name]] k.length 1 16] kr)⟩
theorem zm2 (e:X) (k:List Str) (hB:k.length<=900000000):zab E0 S.Ap [e.av,.p 0 0] [.box [.own 1 (k).length],.row Ty.string ((k).map fun s=>[sv s]) false] (bv true) [.box [.own 1 (k++vnE e).length],.row Ty.string ((k++vnE e).map fun s=>[sv s]) false]:=by
 obtain ⟨n,r,⟨rfl,rfl⟩,h⟩:=c_vnc e k hB
 exact h
noncomputable def zsg  (k0 kz:List Str) (l:List X) (fa fq:X->List Str) (i:Nat) (k:List Str):Cfg:=zan B.Ai 0 [(0,.fn S.Ap [.p 0 0]),(7,xsl l),(8,iv ((zad l).length:Nat)),(9,iv (i:Nat))] [.box [.own 1 (k).length],.row Ty.string ((k).map fun s=>[sv s]) false]
theorem zfd  (k0 kz:List Str) (l:List X) (fa fq:X->List Str) (ha:∀ e∈l,vnC  e.args (fa e)) (hq:∀ e∈l,vnD  e.sub (fq e)) (hl:zac l) (hB:(k0).length+((l.flatMap (vnG  fa fq))).length<=900000000) (i:Nat) (k:List Str) (hi:i<=(l).length) (hI:k=(k0++((l.take i).flatMap (vnG  fa fq)))):∃ (k':List Str),(k'=(k0++((l.take (l).length).flatMap (vnG  fa fq))))/\(decide ((((l).length:Nat):Int) < (((zad l).length:Nat):Int))=false)/\∀ R,Good E0 B.Ai [.box [.own 1 (kz).length],.row Ty.string ((kz).map fun s=>[sv s]) false] (zsg k0 kz l fa fq (l).length k') R->Good E0 B.Ai [.box [.own 1 (kz).length],.row Ty.string ((kz).map fun s=>[sv s]) false] (zsg k0 kz l fa fq i k) R:=by
 have hk:=hi;revert i k;refine zlp ((l).length) (fun i hlt ih k hi hI _=>?_)
 obtain ⟨x,hx,h0,hw⟩:=zlq (l:=l) ((zad l).length) hlt
 have hro:=zns hI hx hB;have hax:=ha x (List.mem_of_getElem? hx);have hqx:=hq x (List.mem_of_getElem? hx)
 exact Zih (ih (k++vnE x++fa x++fq x) Zo (by exact znt hI hx (by simp only [vnG,vnQ,List.append_assoc])) Zo) fun R gY=>zaa (wkl [sb h0,se (zak hx),sl [0,1] (zm2 x k zqh),sg Zf,sl [0,1] (hax (k++vnE x) zqh),sg Zf,sl [0,1] (hqx (k++vnE x++fa x) zqh),sb Zf,si hw] [0,7,8,9] 2 kr gY)
theorem zfb  (l:List X) (fa fq:X->List Str) (kz:List Str) (ha:∀ e∈l,vnC  e.args (fa e)) (hq:∀ e∈l,vnD  e.sub (fq e)) (hl:zac l) (k:List Str) (hB:(k).length+((l.flatMap (vnG  fa fq))).length<=900000000):∃ k':List Str,k'=(k++(l.flatMap (vnG  fa fq)))/\decide (((l.length:Nat):Int) < (((zad l).length:Nat):Int))=false/\∀ R,Good E0 B.Ai [.box [.own 1 (kz).length],.row Ty.string ((kz).map fun s=>[sv s]) false] (zsg  k kz l fa fq l.length k') R->Good E0 B.Ai [.box [.own 1 (kz).length],.row Ty.string ((kz).map fun s=>[sv s]) false] (zsg  k kz l fa fq 0 k) R:=by
 obtain ⟨k',h1,h2,h3⟩:=zfd  k kz l fa fq ha hq hl hB 0 k Zo Zs
 exact ⟨k',by rw [h1,List.take_length],h2,h3⟩
theorem c_vnx  (k:List Str) (l:List X) (fa fq:X->List Str) (ha:∀ e∈l,vnC  e.args (fa e)) (hq:∀ e∈l,vnD  e.sub (fq e)) (hl:zac l) (hB:(k).length+((l.flatMap (vnG  fa fq))).length<=900000000):∃ (r:List Str),r=(k++(l.flatMap (vnG  fa fq)))/\zab E0 S.Ai [.fn S.Ap [.p 0 0],xsl l] [.box [.own 1 (k).length],.row Ty.string ((k).map fun s=>[sv s]) false] (bv true) [.box [.own 1 (r).length],.row Ty.string ((r).map fun s=>[sv s]) false]:=by
 obtain ⟨k1,q1,q1_1,g1⟩:=zfb l fa fq k ha hq zqi k zqi
 exact ⟨k1,‹_›,wkc At.Ai [] [0,7,8,9] 2 kr (g1 _ (zaa (wkr [sb q1_1] kr)))⟩
noncomputable def zsd  (k0 kz:List Str) (l:List Qy) (fi fw:Qy->List Str) (i:Nat) (k:List Str):Cfg:=zan B.Aj 0 [(0,.fn S.Ap [.p 0 0]),(7,.sl (zal l)),(8,iv ((zal l).length:Nat)),(9,iv (i:Nat))] [.box [.own 1 (k).length],.row Ty.string ((k).map fun s=>[sv s]) false]
theorem zeM  (k0 kz:List Str) (l:List Qy) (fi fw:Qy->List Str) (ha:∀ q∈l,vnC  q.items (fi q)) (hq:∀ q∈l,vnC  q.wh (fw q)) (hl:zac l) (hB:(k0).length+((l.flatMap (vnQ  fi fw))).length<=900000000) (i:Nat) (k:List Str) (hi:i<=(l).length) (hI:k=(k0++((l.take i).flatMap (vnQ  fi fw)))):∃ (k':List Str),(k'=(k0++((l.take (l).length).flatMap (vnQ  fi fw))))/\(decide ((((l).length:Nat):Int) < (((zal l).length:Nat):Int))=false)/\∀ R,Good E0 B.Aj [.box [.own 1 (kz).length],.row Ty.string ((kz).map fun s=>[sv s]) false] (zsd k0 kz l fi fw (l).length k') R->Good E0 B.Aj [.box [.own 1 (kz).length],.row Ty.string ((kz).map fun s=>[sv s]) false] (zsd k0 kz l fi fw i k) R:=by
 have hk:=hi;revert i k;refine zlp ((l).length) (fun i hlt ih k hi hI _=>?_)
 obtain ⟨x,hx,h0,hw⟩:=zlq (l:=l) ((zal l).length) hlt
 have hro:=zns hI hx hB;have hax:=ha x (List.mem_of_getElem? hx);have hqx:=hq x (List.mem_of_getElem? hx)
 exact Zih (ih (k++fi x++fw x) Zo (by exact znt hI hx (by simp only [vnG,vnQ,List.append_assoc])) Zo) fun R gY=>zaa (wkl [sb h0,se (zba hx),sl [0,1] (hax k zqh),sg Zf,sl [0,1] (hqx (k++fi x) zqh),sb Zf,si hw] [0,7,8,9] 2 kr gY)
theorem zeK  (l:List Qy) (fi fw:Qy->List Str) (kz:List Str) (ha:∀ q∈l,vnC  q.items (fi q)) (hq:∀ q∈l,vnC  q.wh (fw q)) (hl:zac l) (k:List Str) (hB:(k).length+((l.flatMap (vnQ  fi fw))).length<=900000000):∃ k':List Str,k'=(k++(l.flatMap (vnQ  fi fw)))/\decide (((l.length:Nat):Int) < (((zal l).length:Nat):Int))=false/\∀ R,Good E0 B.Aj [.box [.own 1 (kz).length],.row Ty.string ((kz).map fun s=>[sv s]) false] (zsd  k kz l fi fw l.length k') R->Good E0 B.Aj [.box [.own 1 (kz).length],.row Ty.string ((kz).map fun s=>[sv s]) false] (zsd  k kz l fi fw 0 k) R:=by
 obtain ⟨k',h1,h2,h3⟩:=zeM  k kz l fi fw ha hq hl hB 0 k Zo Zs
 exact ⟨k',by rw [h1,List.take_length],h2,h3⟩
theorem c_vnq  (k:List Str) (l:List Qy) (fi fw:Qy->List Str) (ha:∀ q∈l,vnC  q.items (fi q)) (hq:∀ q∈l,vnC  q.wh (fw q)) (hl:zac l) (hB:(k).length+((l.flatMap (vnQ  fi fw))).length<=900000000):∃ (r:List Str),r=(k++(l.flatMap (vnQ  fi fw)))/\zab E0 S.Aj [.fn S.Ap [.p 0 0],.sl (zal l)] [.box [.own 1 (k).length],.row Ty.string ((k).map fun s=>[sv s]) false] (bv true) [.box [.own 1 (r).length],.row Ty.string ((r).map fun s=>[sv s]) false]:=by
 obtain ⟨k1,q1,q1_1,g1⟩:=zeK l fi fw k ha hq zqi k zqi
 exact ⟨k1,‹_›,wkc At.Aj [] [0,7,8,9] 2 kr (g1 _ (zaa (wkr [sb q1_1] kr)))⟩
theorem zy3  {l:List Qy} {fi fw:Qy->List Str} (ha:∀ q∈l,vnC  q.items (fi q)) (hq:∀ q∈l,vnC  q.wh (fw q)) (hl:zac l):vnD  l (l.flatMap (vnQ  fi fw)):=fun k hB=>by
 obtain ⟨r,rfl,h⟩:=c_vnq  k l fi fw ha hq hl hB
 exact h
theorem zy2  {l:List X} {fa fq:X->List Str} (ha:∀ e∈l,vnC  e.args (fa e)) (hq:∀ e∈l,vnD  e.sub (fq e)) (hl:zac l):vnC  l (l.flatMap (vnG  fa fq)):=fun k hB=>by
 obtain ⟨r,rfl,h⟩:=c_vnx  k l fa fq ha hq hl hB
 exact h
theorem zdP :∀ (n:Nat) (l:List X),zac l->(∀ e∈l,XSh n e)->vnC  l ((flX n l).flatMap (vnE ))
 | 0,l,hl,hx=>by
  have:l=[]:=by
   cases l with
   | nil=>rfl
   | cons a r=>exact (hx a Zs).elim
  subst this
  exact zy2  (l:=[]) (fa:=fun _=>[]) (fq:=fun _=>[]) Zs Zs hl
 | n+1,l,hl,hx=>by
  have h:=zy2  (l:=l) (fa:=fun e=>(flX n e.args).flatMap (vnE )) (fq:=fun e=>e.sub.flatMap (vnQ  (fun q=>(flX n q.items).flatMap (vnE )) (fun q=>(flX n q.wh).flatMap (vnE ))))
   (fun e he=>zdP  n e.args (hx e he).1.1 (hx e he).2.1)
   (fun e he=>zy3  (fun q hq=>zdP  n q.items ((hx e he).2.2 q hq).1.1 ((hx e he).2.2 q hq).2.1) (fun q hq=>zdP  n q.wh ((hx e he).2.2 q hq).1.2 ((hx e he).2.2 q hq).2.2) (hx e he).1.2) hl
  have e:(flX (n+1) l).flatMap (vnE )=l.flatMap (vnG  (fun e=>(flX n e.args).flatMap (vnE )) (fun e=>e.sub.flatMap (vnQ  (fun q=>(flX n q.items).flatMap (vnE )) (fun q=>(flX n q.wh).flatMap (vnE ))))):=by
   simp only [flX,List.flatMap_assoc,List.flatMap_cons,List.flatMap_append];rfl
  rw [e]
  exact h
theorem c_vnva  (k:List Str) (l:List X) (f:List Str) (hv:∀ k:List Str,(k).length+(f).length<=900000000->zab E0 S.Ai [.fn S.Ap [.p 0 0],xsl l] [.box [.own 1 (k).length],.row Ty.string ((k).map fun s=>[sv s]) false] (bv true) [.box [.own 1 ((k++f)).length],.row Ty.string (((k++f)).map fun s=>[sv s]) false]) (hB:(k).length+(f).length<=900000000):∃ (r:List Str),r=(k++f)/\zab E0 S.A5 [xsl l,.fn S.Ap [.p 0 0]] [.box [.own 1 (k).length],.row Ty.string ((k).map fun s=>[sv s]) false] (bv true) [.box [.own 1 (r).length],.row Ty.string ((r).map fun s=>[sv s]) false]:=by
 exact ⟨k++f,Zr,wk At.A5 [sl [0,1] (hv k zqi)] kr⟩
theorem zkm  (n:Nat) (k:List Str) (l:List X) (hl:zac l) (hx:∀ e∈l,XSh n e) (hB:(k).length+(((flX n l).flatMap (vnE ))).length<=900000000):zab E0 S.A5 [xsl l,.fn S.Ap [.p 0 0]] [.box [.own 1 (k).length],.row Ty.string ((k).map fun s=>[sv s]) false] (bv true) [.box [.own 1 ((k++((flX n l).flatMap (vnE )))).length],.row Ty.string (((k++((flX n l).flatMap (vnE )))).map fun s=>[sv s]) false]:=by
 obtain ⟨r,rfl,h⟩:=c_vnva  k l _ (zdP  n l hl hx) hB
 exact h
end Go.AM
namespace Go.AM
theorem zn0 {p:Prop} (h:p:=by (simp only [vcE, *,Bool.true_and,Bool.false_and,Bool.true_or,Bool.false_or,Bool.or_true,Bool.or_false,Bool.and_true,Bool.and_false,cond_true,cond_false];first|done|rfl)):p:=h
theorem zn1 {p:Prop} (h:p:=by first|assumption|exact zbc ‹_›|exact zbc (zbc ‹_›)|exact zbc (zbc (zbc ‹_›))):p:=h
theorem zf7 {p:Prop} (h:p:=by first|assumption|omega|(simp;done)|(simp;omega)):p:=h
def vcE (m:List Tb) (s:Sch):X->List Acc:=fun e=>bif e.kind==2&&(e.table.toList==ZsO.toList || e.table.toList==ZsN.toList)&&decide (0<=idxF (fun c=>colC c e.name) s.cols 0) then [⟨s.name,e.name,1⟩] else []
def vcG (m:List Tb) (s:Sch) (fa fq:X->List Acc) (e:X):List Acc:=vcE m s e++(fa e++fq e)
def vcQ (m:List Tb) (s:Sch) (fi fw:Qy->List Acc) (q:Qy):List Acc:=fi q++fw q
def vcC (m:List Tb) (s:Sch) (l:List X) (f:List Acc):Prop:=∀ k:List Acc,AccS k->zab E0 S.Ai [.fn S.Al [.p 0 0,.p 1 0],xsl l] [.box s.cells,.box [.p 2 0],.box [tsl m,.mp 3],.mp ((k).map itA)] (bv true) [.box s.cells,.box [.p 2 0],.box [tsl m,.mp 3],.mp (((zae k f)).map itA)]
def vcD (m:List Tb) (s:Sch) (l:List Qy) (f:List Acc):Prop:=∀ k:List Acc,AccS k->zab E0 S.Aj [.fn S.Al [.p 0 0,.p 1 0],.sl (zal l)] [.box s.cells,.box [.p 2 0],.box [tsl m,.mp 3],.mp ((k).map itA)] (bv true) [.box s.cells,.box [.p 2 0],.box [tsl m,.mp 3],.mp (((zae k f)).map itA)]
section
variable {α : Type} {l : List α} {f : α -> List Acc} {k k0 o : List Acc} {i : Nat} {x : α}
theorem zy0 (hI:k=zae k0 ((l.take i).flatMap f)) (hx:l[i]?=some x) (hB:AccS k0):AccS k:=hI ▸ hB.all _
theorem zy1 (hI:k=zae k0 ((l.take i).flatMap f)) (hx:l[i]?=some x) (ho:o=zae k (f x)):o=zae k0 ((l.take (i+1)).flatMap f):=by
 rw [ho,hI,← zaP,List.take_add_one,hx];simp
end
theorem c_vcc (m:List Tb) (s:Sch) (hsc:zac s.cols) (e:X) (k:List Acc) (hB:AccS k):∃ (r:List Acc),r=zae k (vcE m s e)/\zab E0 S.Al [e.av,.p 0 0,.p 1 0] [.box s.cells,.box [.p 2 0],.box [tsl m,.mp 3],.mp ((k).map itA)] (bv true) [.box s.cells,.box [.p 2 0],.box [tsl m,.mp 3],.mp ((r).map itA)]:=by
 cases h1:e.kind==2
 ·exact ⟨k,zn0,wk At.Al [sb h1] kr⟩
 ·cases h2:ByteArray.toList e.table==ZsO.toList
  ·cases h3:ByteArray.toList e.table==ZsN.toList
   ·exact ⟨k,zn0,wk At.Al [sg h1,sg h2,sb h3] kr⟩
   ·let p_1:List St:=[sg h1,sg h2,sg h3,sc (zct s e.name zf7)]
    cases h4:decide (0<=idxF (fun c=>colC c e.name) s.cols 0)
    ·exact ⟨k,zn0,wk At.Al (p_1++[sb h4]) kr⟩
    ·exact ⟨addK k (Acc.mk s.name e.name 1),zn0,wk At.Al (p_1++[sb h4,sl [2,3] (zaI m k s.name e.name 1 zf7)]) kr⟩
  ·let p_2:List St:=[sg h1,sb h2,sc (zct s e.name zf7)]
   cases h5:decide (0<=idxF (fun c=>colC c e.name) s.cols 0)
   ·exact ⟨k,zn0,wk At.Al (p_2++[sb h5]) kr⟩
   ·exact ⟨addK k (Acc.mk s.name e.name 1),zn0,wk At.Al (p_2++[sb h5,sl [2,3] (zaI m k s.name e.name 1 zf7)]) kr⟩
theorem zfD (m:List Tb) (s:Sch) (hsc:zac s.cols) (e:X) (k:List Acc) (hB:AccS k):zab E0 S.Al [e.av,.p 0 0,.p 1 0] [.box s.cells,.box [.p 2 0],.box [tsl m,.mp 3],.mp ((k).map itA)] (bv true) [.box s.cells,.box [.p 2 0],.box [tsl m,.mp 3],.mp ((zae k (vcE m s e)).map itA)]:=by
 obtain ⟨r,rfl,h⟩:=c_vcc m s hsc e k hB
 exact h
noncomputable def zsc (m:List Tb) (s:Sch) (k0 kz:List Acc) (l:List X) (fa fq:X->List Acc) (i:Nat) (k:List Acc):Cfg:=zan B.Ai 0 [(0,.fn S.Al [.p 0 0,.p 1 0]),(7,xsl l),(8,iv ((zad l).length:Nat)),(9,iv (i:Nat))] [.box s.cells,.box [.p 2 0],.box [tsl m,.mp 3],.mp ((k).map itA)]
theorem zfc (m:List Tb) (s:Sch) (k0 kz:List Acc) (l:List X) (fa fq:X->List Acc) (hsc:zac s.cols) (ha:∀ e∈l,vcC m s e.args (fa e)) (hq:∀ e∈l,vcD m s e.sub (fq e)) (hl:zac l) (hB:AccS k0) (i:Nat) (k:List Acc) (hi:i<=(l).length) (hI:k=(zae k0 ((l.take i).flatMap (vcG m s fa fq)))):∃ (k':List Acc),(k'=(zae k0 ((l.take (l).length).flatMap (vcG m s fa fq))))/\(decide ((((l).length:Nat):Int) < (((zad l).length:Nat):Int))=false)/\∀ R,Good E0 B.Ai [.box s.cells,.box [.p 2 0],.box [tsl m,.mp 3],.mp ((kz).map itA)] (zsc m s k0 kz l fa fq (l).length k') R->Good E0 B.Ai [.box s.cells,.box [.p 2 0],.box [tsl m,.mp 3],.mp ((kz).map itA)] (zsc m s k0 kz l fa fq i k) R:=by
 have hk:=hi;revert i k;refine zlp ((l).length) (fun i hlt ih k hi hI _=>?_)
 obtain ⟨x,hx,h0,hw⟩:=zlq (l:=l) ((zad l).length) hlt
 have hro:=zy0 hI hx hB;have hax:=ha x (List.mem_of_getElem? hx);have hqx:=hq x (List.mem_of_getElem? hx)
 exact Zih (ih (zae (zae (zae k (vcE m s x)) (fa x)) (fq x)) Zo (by exact zy1 hI hx (by simp only [vcG,vcQ,zaP])) Zo) fun R gY=>zaa (wkl [sb h0,se (zak hx),sl [0,1,2,3] (zfD m s zn1 x k zn1),sg Zf,sl [0,1,2,3] (hax (zae k (vcE m s x)) zn1),sg Zf,sl [0,1,2,3] (hqx (zae (zae k (vcE m s x)) (fa x)) zn1),sb Zf,si hw] [0,7,8,9] 4 kr gY)
theorem zfa (m:List Tb) (s:Sch) (hsc:zac s.cols) (l:List X) (fa fq:X->List Acc) (kz:List Acc) (ha:∀ e∈l,vcC m s e.args (fa e)) (hq:∀ e∈l,vcD m s e.sub (fq e)) (hl:zac l) (k:List Acc) (hB:AccS k):∃ k':List Acc,k'=(zae k (l.flatMap (vcG m s fa fq)))/\decide (((l.length:Nat):Int) < (((zad l).length:Nat):Int))=false/\∀ R,Good E0 B.Ai [.box s.cells,.box [.p 2 0],.box [tsl m,.mp 3],.mp ((kz).map itA)] (zsc m s k kz l fa fq l.length k') R->Good E0 B.Ai [.box s.cells,.box [.p 2 0],.box [tsl m,.mp 3],.mp ((kz).map itA)] (zsc m s k kz l fa fq 0 k) R:=by
 obtain ⟨k',h1,h2,h3⟩:=zfc m s k kz l fa fq hsc ha hq hl hB 0 k Zo (by simp [zae])
 exact ⟨k',by rw [h1,List.take_length],h2,h3⟩
theorem c_vcx (m:List Tb) (s:Sch) (k:List Acc) (l:List X) (fa fq:X->List Acc) (hsc:zac s.cols) (ha:∀ e∈l,vcC m s e.args (fa e)) (hq:∀ e∈l,vcD m s e.sub (fq e)) (hl:zac l) (hB:AccS k):∃ (r:List Acc),r=(zae k (l.flatMap (vcG m s fa fq)))/\zab E0 S.Ai [.fn S.Al [.p 0 0,.p 1 0],xsl l] [.box s.cells,.box [.p 2 0],.box [tsl m,.mp 3],.mp ((k).map itA)] (bv true) [.box s.cells,.box [.p 2 0],.box [tsl m,.mp 3],.mp ((r).map itA)]:=by
 obtain ⟨k1,q1,q1_1,g1⟩:=zfa m s zf7 l fa fq k ha hq zf7 k zf7
 exact ⟨k1,‹_›,wkc At.Ai [] [0,7,8,9] 4 kr (g1 _ (zaa (wkr [sb q1_1] kr)))⟩
noncomputable def zsb (m:List Tb) (s:Sch) (k0 kz:List Acc) (l:List Qy) (fi fw:Qy->List Acc) (i:Nat) (k:List Acc):Cfg:=zan B.Aj 0 [(0,.fn S.Al [.p 0 0,.p 1 0]),(7,.sl (zal l)),(8,iv ((zal l).length:Nat)),(9,iv (i:Nat))] [.box s.cells,.box [.p 2 0],.box [tsl m,.mp 3],.mp ((k).map itA)]
theorem zeL (m:List Tb) (s:Sch) (k0 kz:List Acc) (l:List Qy) (fi fw:Qy->List Acc) (hsc:zac s.cols) (ha:∀ q∈l,vcC m s q.items (fi q)) (hq:∀ q∈l,vcC m s q.wh (fw q)) (hl:zac l) (hB:AccS k0) (i:Nat) (k:List Acc) (hi:i<=(l).length) (hI:k=(zae k0 ((l.take i).flatMap (vcQ m s fi fw)))):∃ (k':List Acc),(k'=(zae k0 ((l.take (l).length).flatMap (vcQ m s fi fw))))/\(decide ((((l).length:Nat):Int) < (((zal l).length:Nat):Int))=false)/\∀ R,Good E0 B.Aj [.box s.cells,.box [.p 2 0],.box [tsl m,.mp 3],.mp ((kz).map itA)] (zsb m s k0 kz l fi fw (l).length k') R->Good E0 B.Aj [.box s.cells,.box [.p 2 0],.box [tsl m,.mp 3],.mp ((kz).map itA)] (zsb m s k0 kz l fi fw i k) R:=by
 have hk:=hi;revert i k;refine zlp ((l).length) (fun i hlt ih k hi hI _=>?_)
 obtain ⟨x,hx,h0,hw⟩:=zlq (l:=l) ((zal l).length) hlt
 have hro:=zy0 hI hx hB;have hax:=ha x (List.mem_of_getElem? hx);have hqx:=hq x (List.mem_of_getElem? hx)
 exact Zih (ih (zae (zae k (fi x)) (fw x)) Zo (by exact zy1 hI hx (by simp only [vcG,vcQ,zaP])) Zo) fun R gY=>zaa (wkl [sb h0,se (zba hx),sl [0,1,2,3] (hax k zn1),sg Zf,sl [0,1,2,3] (hqx (zae k (fi x)) zn1),sb Zf,si hw] [0,7,8,9] 4 kr gY)
theorem zeJ (m:List Tb) (s:Sch) (hsc:zac s.cols) (l:List Qy) (fi fw:Qy->List Acc) (kz:List Acc) (ha:∀ q∈l,vcC m s q.items (fi q)) (hq:∀ q∈l,vcC m s q.wh (fw q)) (hl:zac l) (k:List Acc) (hB:AccS k):∃ k':List Acc,k'=(zae k (l.flatMap (vcQ m s fi fw)))/\decide (((l.length:Nat):Int) < (((zal l).length:Nat):Int))=false/\∀ R,Good E0 B.Aj [.box s.cells,.box [.p 2 0],.box [tsl m,.mp 3],.mp ((kz).map itA)] (zsb m s k kz l fi fw l.length k') R->Good E0 B.Aj [.box s.cells,.box [.p 2 0],.box [tsl m,.mp 3],.mp ((kz).map itA)] (zsb m s k kz l fi fw 0 k) R:=by
 obtain ⟨k',h1,h2,h3⟩:=zeL m s k kz l fi fw hsc ha hq hl hB 0 k Zo (by simp [zae])
 exact ⟨k',by rw [h1,List.take_length],h2,h3⟩
theorem c_vcq (m:List Tb) (s:Sch) (k:List Acc) (l:List Qy) (fi fw:Qy->List Acc) (hsc:zac s.cols) (ha:∀ q∈l,vcC m s q.items (fi q)) (hq:∀ q∈l,vcC m s q.wh (fw q)) (hl:zac l) (hB:AccS k):∃ (r:List Acc),r=(zae k (l.flatMap (vcQ m s fi fw)))/\zab E0 S.Aj [.fn S.Al [.p 0 0,.p 1 0],.sl (zal l)] [.box s.cells,.box [.p 2 0],.box [tsl m,.mp 3],.mp ((k).map itA)] (bv true) [.box s.cells,.box [.p 2 0],.box [tsl m,.mp 3],.mp ((r).map itA)]:=by
 obtain ⟨k1,q1,q1_1,g1⟩:=zeJ m s zf7 l fi fw k ha hq zf7 k zf7
 exact ⟨k1,‹_›,wkc At.Aj [] [0,7,8,9] 4 kr (g1 _ (zaa (wkr [sb q1_1] kr)))⟩
theorem vcd_of (m:List Tb) (s:Sch) (hsc:zac s.cols) {l:List Qy} {fi fw:Qy->List Acc} (ha:∀ q∈l,vcC m s q.items (fi q)) (hq:∀ q∈l,vcC m s q.wh (fw q)) (hl:zac l):vcD m s l (l.flatMap (vcQ m s fi fw)):=fun k hB=>by
 obtain ⟨r,rfl,h⟩:=c_vcq m s k l fi fw hsc ha hq hl hB
 exact h
theorem zyZ (m:List Tb) (s:Sch) (hsc:zac s.cols) {l:List X} {fa fq:X->List Acc} (ha:∀ e∈l,vcC m s e.args (fa e)) (hq:∀ e∈l,vcD m s e.sub (fq e)) (hl:zac l):vcC m s l (l.flatMap (vcG m s fa fq)):=fun k hB=>by
 obtain ⟨r,rfl,h⟩:=c_vcx m s k l fa fq hsc ha hq hl hB
 exact h
theorem zl6 (m:List Tb) (s:Sch) (hsc:zac s.cols):∀ (n:Nat) (l:List X),zac l->(∀ e∈l,XSh n e)->vcC m s l ((flX n l).flatMap (vcE m s))
 | 0,l,hl,hx=>by
  have:l=[]:=by
   cases l with
   | nil=>rfl
   | cons a r=>exact (hx a Zs).elim
  subst this
  exact zyZ m s hsc (l:=[]) (fa:=fun _=>[]) (fq:=fun _=>[]) Zs Zs hl
 | n+1,l,hl,hx=>by
  have h:=zyZ m s hsc (l:=l) (fa:=fun e=>(flX n e.args).flatMap (vcE m s)) (fq:=fun e=>e.sub.flatMap (vcQ m s (fun q=>(flX n q.items).flatMap (vcE m s)) (fun q=>(flX n q.wh).flatMap (vcE m s))))
   (fun e he=>zl6 m s hsc n e.args (hx e he).1.1 (hx e he).2.1)
   (fun e he=>vcd_of m s hsc (fun q hq=>zl6 m s hsc n q.items ((hx e he).2.2 q hq).1.1 ((hx e he).2.2 q hq).2.1) (fun q hq=>zl6 m s hsc n q.wh ((hx e he).2.2 q hq).1.2 ((hx e he).2.2 q hq).2.2) (hx e he).1.2) hl
  have e:(flX (n+1) l).flatMap (vcE m s)=l.flatMap (vcG m s (fun e=>(flX n e.args).flatMap (vcE m s)) (fun e=>e.sub.flatMap (vcQ m s (fun q=>(flX n q.items).flatMap (vcE m s)) (fun q=>(flX n q.wh).flatMap (vcE m s))))):=by
   simp only [flX,List.flatMap_assoc,List.flatMap_cons,List.flatMap_append];rfl
  rw [e]
  exact h
theorem c_vcva (m:List Tb) (s:Sch) (k:List Acc) (l:List X) (f:List Acc) (hsc:zac s.cols) (hv:∀ k:List Acc,AccS k->zab E0 S.Ai [.fn S.Al [.p 0 0,.p 1 0],xsl l] [.box s.cells,.box [.p 2 0],.box [tsl m,.mp 3],.mp ((k).map itA)] (bv true) [.box s.cells,.box [.p 2 0],.box [tsl m,.mp 3],.mp (((zae k f)).map itA)]) (hB:AccS k):∃ (r:List Acc),r=(zae k f)/\zab E0 S.A5 [xsl l,.fn S.Al [.p 0 0,.p 1 0]] [.box s.cells,.box [.p 2 0],.box [tsl m,.mp 3],.mp ((k).map itA)] (bv true) [.box s.cells,.box [.p 2 0],.box [tsl m,.mp 3],.mp ((r).map itA)]:=by
 exact ⟨zae k f,Zr,wk At.A5 [sl [0,1,2,3] (hv k zf7)] kr⟩
theorem zkl (m:List Tb) (s:Sch) (hsc:zac s.cols) (n:Nat) (k:List Acc) (l:List X) (hl:zac l) (hx:∀ e∈l,XSh n e) (hB:AccS k):zab E0 S.A5 [xsl l,.fn S.Al [.p 0 0,.p 1 0]] [.box s.cells,.box [.p 2 0],.box [tsl m,.mp 3],.mp ((k).map itA)] (bv true) [.box s.cells,.box [.p 2 0],.box [tsl m,.mp 3],.mp (((zae k ((flX n l).flatMap (vcE m s)))).map itA)]:=by
 obtain ⟨r,rfl,h⟩:=c_vcva m s k l _ hsc (zl6 m s hsc n l hl hx) hB
 exact h
end Go.AM
namespace Go.Proofs
open Go.Shelf
shelf_lay_g SlLaysN.n54 Slgn 54 at Tryz 40 as Tryz.sortT
end Go.Proofs
namespace Go.AM
open Go.Shelf Go.RowKit Go.Lib Go.Sort
open Go.Proofs (encStr)
def stS (l:List UInt8):Str:=⟨l.toArray⟩
theorem zqo (s:Str):stS s.toList=s:=by
 apply zfB
 rw [Go.Lib.toList_data]
 simp [stS]
theorem ze7 (l:List UInt8):(stS l).toList=l:=by rw [Go.Lib.toList_data];simp [stS]
def za9 (xs:List Str):List Str:=((xs.map ByteArray.toList).mergeSort fun x y=>decide (x<=y)).map stS
theorem zqn (xs:List Str):(za9 xs).Perm xs:=by
 have h:=(List.mergeSort_perm (xs.map ByteArray.toList) fun x y=>decide (x<=y)).map stS
 rw [List.map_map] at h
 have e:(stS ∘ ByteArray.toList)=id:=funext zqo
 rw [e,List.map_id] at h
 exact h
theorem zhv (xs:List Str):(za9 xs).length=xs.length:=(zqn xs).length_eq
theorem zuh (xs:List Str):(za9 xs).Pairwise fun a b=>ltS b a=false:=by
 have h:((xs.map ByteArray.toList).mergeSort fun x y=>decide (x<=y)).Pairwise fun x y=>decide (x<=y)=true:=List.pairwise_mergeSort (fun x y z a b=>by
   simp only [decide_eq_true_eq] at *;exact List.le_trans a b) (fun x y=>by
   simp only [Bool.or_eq_true,decide_eq_true_eq];exact List.le_total x y) _
 refine List.pairwise_map.2 (h.imp fun {a b} hab=>?_)
 cases h2:ltS (stS b) (stS a)
 ·rfl
 ·rw [zdc,ze7,ze7] at h2
  exact absurd (by simpa using hab) (List.not_le.2 h2)
theorem zto (xs:List Str) (i:Nat) (hi:i < xs.length):encStr ((xs.map ByteArray.toList).toArray)[i]! = .string xs[i]:=by
 have:((xs.map ByteArray.toList).toArray)[i]! = (xs[i]).toList:=by simp [hi]
 rw [this]
 show Value.string (stS (xs[i]).toList)=_
 rw [zqo]
theorem zyi {w:World} {S:Addr->Prop} {g:Nat} {cs:Array Value} {xa:List Str} (hg:w.heap[g]?=some (.cells cs Ty.string (0,0)))
  (hrel:∀ (i j:Nat) (c:List AV) (x:AV),(xa.map fun s=>[sv s])[i]?=some c->c[j]?=some x->∃ y,cs[i * 1+j]?=some y/\RelD w S x y/\y.oneCell'=true):Go.Sort.Holds encStr w g 0 (xa.map ByteArray.toList).toArray:=by
 intro j hj
 have hj':j < xa.length:=by simpa using hj
 rw [zto xa j hj']
 refine ⟨?_,?_⟩
 ·simp only [World.cell?,hg,Nat.zero_add]
  obtain ⟨y,y1,y2,_⟩:=hrel j 0 [sv xa[j]] (sv xa[j]) (by simp [hj']) rfl
  cases y2
  rw [Nat.mul_one,Nat.add_zero] at y1
  exact y1
 ·simp only [World.frozen?,hg,Nat.zero_add]
  simp
theorem zyP (xs:List Str):((xs.map ByteArray.toList).mergeSort fun x y=>decide (x<=y))=(za9 xs).map ByteArray.toList:=by
 rw [za9,List.map_map]
 have e:(ByteArray.toList ∘ stS)=id:=funext ze7
 rw [e,List.map_id]
theorem zvz {w:World} {g:Nat} {cs:Array Value} (bs:List Str) (m:Nat) (hg:w.heap[g]?=some (.cells cs Ty.string (0,0))) :
  ∃ cs':Array Value,(putRow encStr (Sort.ahead w m) g 0 (bs.map ByteArray.toList).toArray).heap[g]?=some (.cells cs' Ty.string (0,0))/\cs'.size=cs.size/\∀ k,cs'[k]?=if h:k < bs.length then (cs[k]?).map (fun _=>.string bs[k]) else cs[k]?:=by
 refine ⟨putCells encStr 0 (bs.map ByteArray.toList).toArray cs,?_,by simp [putCells],fun k=>?_⟩
 ·show ((Sort.ahead w m).heap.modify g _)[g]?=_
  rw [Array.getElem?_modify,if_pos rfl,show (Sort.ahead w m).heap=w.heap from rfl,hg]
  rfl
 ·simp only [putCells,Array.getElem?_mapIdx,List.size_toArray,Nat.zero_le,true_and,Nat.zero_add,Nat.sub_zero,List.length_map]
  by_cases hk:k < bs.length
  ·simp only [hk,if_true,dite_true]
   rw [zto bs k hk]
  ·simp only [hk,if_false,dite_false]
   cases cs[k]? <;> rfl
theorem zmf {w:World} {g:Nat} (bs:List Str) (m:Nat) (k:Nat) (hk:k≠g):(putRow encStr (Sort.ahead w m) g 0 (bs.map ByteArray.toList).toArray).heap[k]?=w.heap[k]?:=by
 show ((Sort.ahead w m).heap.modify g _)[k]?=_
 rw [Array.getElem?_modify,if_neg (fun h=>hk h.symm)]
 rfl
theorem zAi {f : FuncId} {fn : Func} (hfn : E0.P.funcs[f]? = some fn) (hn : (fn.name == "runtime.NumGoroutine") = false) (hb : fn.body.isNone = false)
  (hnil:∀ (a:Option Addr) (cap:Nat) (w:World),Calls E0.P f #[.slice a 0 cap] w fun e w'=>e=.returned (.tuple #[])/\w'=w)
  (hall:∀ (q:Nat) (cap:Nat) (ss:List (List UInt8)) (w:World),Go.Sort.Holds encStr w q 0 ss.toArray->q < w.heap.size->ss.length < 4611686018427387904 ->
   Calls E0.P f #[.slice (some ⟨q,0,none⟩) ss.length cap] w fun e w'=>e=.returned (.tuple #[])/\∃ n os,w'=grow (putRow encStr (Sort.ahead w n) q 0 (ss.mergeSort fun x y=>decide (x<=y)).toArray) os)
  (hs:(E0.T Ty.string).size=1) (xa:List Str) (hxa:xa.length<=1000000000):zab E0 f [.own 0 xa.length] [.row Ty.string (xa.map fun s=>[sv s]) false] (.tup []) [.row Ty.string ((za9 xa).map fun s=>[sv s]) false]:=by
 intro β S w vs r hp
 obtain ⟨hl,hv⟩:=hp
 match vs,hl,hv with
 | [v1],_,hv =>
  have h1:=hv 0 _ v1 rfl rfl
  refine .inl ⟨⟨fn,hfn,hn,hb⟩,?_⟩
  obtain ⟨k,k1,hrow⟩:=r.row 0 Ty.string (xa.map fun s=>[sv s]) false rfl
  have hv1:(β[0]?).bind (Con.cur xa.length)=some v1:=by
   cases h1 with
   | d _ _ h=>cases h
   | own b n y e xs sh c1 c2 c3 c4 =>
    simp only [List.getElem?_cons_zero,Option.some.injEq,Blk.row.injEq] at c1
    obtain ⟨rfl,rfl,rfl⟩:=c1
    exact c3 Zs
  rw [k1] at hv1
  simp only [Option.bind_some] at hv1
  cases k with
  | box _=>exact hrow.elim
  | mp _=>exact hrow.elim
  | nil a =>
   have ha0:(xa.map fun s=>[sv s])=[]:=hrow
   have ha:xa=[]:=by simpa using ha0
   subst ha
   simp only [Con.cur,Option.some.injEq] at hv1
   subst hv1
   refine Calls.mono (P:=E0.P) (hnil a 0 w) ?_
   rintro e w' ⟨rfl,rfl⟩
   have e0:za9 []=[]:=List.length_eq_zero_iff.1 (zhv [])
   rw [e0]
   exact ⟨_,_,β,S,_,rfl,⟨rfl,rfl⟩,r,Ext.refl _ _ _ _,.tup [] [] rfl (fun i x y h=>by simp at h)⟩
  | row q cap =>
   simp only [Con.cur,Option.some.injEq] at hv1
   subst hv1
   obtain ⟨cs,q1,q2,q3,q4,q5,q6,q7⟩:=hrow
   rw [hs] at q5 q6 q7
   have hq:=r.lt 0 _ q k1 rfl
   have hH:=zyi (xa:=xa) q1 q7
   rw [List.length_map] at q2
   have hc:=hall q cap (xa.map ByteArray.toList) w hH hq (by
    rw [List.length_map]
    omega)
   rw [List.length_map] at hc
   refine Calls.mono (P:=E0.P) (by simpa using hc) ?_
   rintro e w' ⟨rfl,n,os,rfl⟩
   rw [zyP]
   have hlen:=zhv xa
   obtain ⟨cs',p1,p2,p3⟩:=zvz (g:=q) (za9 xa) n q1
   have hlay:=r.lay (b:=0) (d:=0) (ys:=(za9 xa).map fun s=>[sv s]) (L:=(za9 xa).map Value.string) (w':=putRow encStr (Sort.ahead w n) q 0 ((za9 xa).map ByteArray.toList).toArray) rfl k1 q1 (by simp [hlen]) (by rw [hs];simp) (fun u hu=>by
     obtain ⟨a,_,rfl⟩:=List.mem_map.1 hu;rfl) (fun c hc=>by
     obtain ⟨a,_,rfl⟩:=List.mem_map.1 hc;rw [hs];rfl)
    (fun i j c x hi hj=>by
     rw [List.getElem?_map,Option.map_eq_some_iff] at hi
     obtain ⟨a,hi,rfl⟩:=hi
     have hj3:j < 1:=by have:=(List.getElem?_eq_some_iff.1 hj).1;simpa using this
     have hj0:j=0:=by omega
     subst hj0
     cases hj
     exact ⟨_,by rw [hs,Nat.mul_one,Nat.add_zero,List.getElem?_map,hi];rfl,.v _ rfl⟩)
    ⟨cs',p1,p2,fun k=>by
     rw [p3 k,hs]
     simp only [Nat.zero_mul,Nat.not_lt_zero,if_false,Nat.zero_add,List.length_map,Nat.sub_zero]
     by_cases hk:k < (za9 xa).length
     ·simp only [hk,if_true,dite_true]
      have hk2:k < cs.size:=by
       rw [q5]
       omega
      rw [Array.getElem?_eq_getElem hk2,Option.map_some,List.getElem?_map,List.getElem?_eq_getElem hk]
      rfl
     ·simp only [hk,if_false,dite_false]⟩
    (fun k hk=>zmf _ n k hk) (by simp [putRow,mapBlock,Sort.ahead]) rfl rfl (by show w.drawn<=w.drawn+n;omega) rfl
   obtain ⟨x1,r1⟩:=hlay
   have e0:zcV (xa.map fun s=>[sv s]) 0 ((za9 xa).map fun s=>[sv s])=(za9 xa).map fun s=>[sv s]:=by
    apply List.ext_getElem?
    intro i
    rw [zhj (by simp [hlen])]
    simp only [Nat.not_lt_zero,if_false,Nat.zero_add,List.length_map,Nat.sub_zero]
    by_cases hi:i < (za9 xa).length
    ·simp [hi]
    ·simp only [hi,if_false]
     rw [List.getElem?_eq_none Zp,List.getElem?_eq_none Zp]
   rw [e0] at x1 r1
   have hbl:BelowD (putRow encStr (Sort.ahead w n) q 0 ((za9 xa).map ByteArray.toList).toArray).heap.size (putRow encStr (Sort.ahead w n) q 0 ((za9 xa).map ByteArray.toList).toArray) (grow (putRow encStr (Sort.ahead w n) q 0 ((za9 xa).map ByteArray.toList).toArray) os) :=
    ⟨⟨rfl,rfl,rfl,by simp [Sort.grow],fun b hb=>by
     show ((putRow encStr (Sort.ahead w n) q 0 ((za9 xa).map ByteArray.toList).toArray).heap++os)[b]?=_
     rw [Array.getElem?_append_left hb]⟩,Nat.le_refl _⟩
   have x2:=Ext.grow r1 hbl (fun _ h=>h) (fun _ h=>.inl h)
   have r2:=r1.grow hbl (fun _ h=>h) (fun _ h=>.inl h)
   exact ⟨_,_,β,S,_,rfl,⟨rfl,rfl⟩,r2,x1.trans x2,.tup [] [] rfl (fun i x y h=>by simp at h)⟩
theorem zfY (xa:List Str) (hl:xa.length<=1000000000):zab E0 S.CN [.own 0 xa.length] [.row Ty.string (xa.map fun s=>[sv s]) false] (.tup []) [.row Ty.string ((za9 xa).map fun s=>[sv s]) false] :=
 zAi At.CN kr kr
  (fun a cap w=>Go.Proofs.AnyG.slices_Sort_string_none Go.Proofs.Tryz.sortT a cap w)
  (fun q cap ss w hH hq hsz=>Go.Proofs.AnyG.slices_Sort_string Go.Proofs.Tryz.sortT q 0 cap ss w hH hq hsz) kr xa hl
end Go.AM
namespace Go.Proofs
open Go.Shelf
shelf_lay_g SlLaysN.n44 Slgn 44 at Tryz 41 as Tryz.compT
end Go.Proofs
namespace Go.AM
open Go.Shelf Go.RowKit Go.Lib Go.Sort
open Go.Proofs (encStr)
def cpcS (xs:List Str):List Str:=(Lib.compact (xs.map ByteArray.toList)).map stS
theorem zpp {α:Type} [Inhabited α] [DecidableEq α] (d:Array α) (m:Nat):(Lib.compactUpTo d m).length<=m:=by
 unfold Lib.compactUpTo
 rw [List.length_map]
 exact Nat.le_trans (List.length_filter_le _ _) Zs
theorem zox (xs:List Str):(cpcS xs).length<=xs.length:=by
 rw [cpcS,List.length_map]
 have:=zpp (xs.map ByteArray.toList).toArray (xs.map ByteArray.toList).length
 rw [List.length_map] at this
 unfold Lib.compact
 rw [List.length_map]
 exact this
def cpcZ (xs:List Str):List Str:=cpcS xs++List.replicate (xs.length - (cpcS xs).length) ⟨#[]⟩
theorem zlC (xs:List Str):(cpcZ xs).length=xs.length:=by
 have:=zox xs
 rw [cpcZ,List.length_append,List.length_replicate];omega
theorem zzJ (xs:List Str):Lib.compact (xs.map ByteArray.toList)++List.replicate (xs.length - (Lib.compact (xs.map ByteArray.toList)).length) []=(cpcZ xs).map ByteArray.toList:=by
 have hcl:(Lib.compact (xs.map ByteArray.toList)).length=(cpcS xs).length:=by rw [cpcS,List.length_map]
 rw [cpcZ,List.map_append,List.map_replicate,hcl,show ByteArray.toList (⟨#[]⟩:Str)=[] by simp]
 congr 1
 rw [cpcS,List.map_map]
 have e:(ByteArray.toList ∘ stS)=id:=funext ze7
 rw [e,List.map_id]
theorem zzI {f : FuncId} {fn : Func} (hfn : E0.P.funcs[f]? = some fn) (hn : (fn.name == "runtime.NumGoroutine") = false) (hb : fn.body.isNone = false)
  (hnil:∀ (a:Option Addr) (cap:Nat) (w:World),Calls E0.P f #[.slice a 0 cap] w fun e w'=>e=.returned (.slice a 0 cap)/\w'=w)
  (hall:∀ (q:Nat) (cap:Nat) (ss:List (List UInt8)) (w:World),Go.Sort.Holds encStr w q 0 ss.toArray->ss.length<=9223372036854775807->ss.length<=cap ->
   Calls E0.P f #[.slice (some ⟨q,0,none⟩) ss.length cap] w fun e w'=>e=.returned (.slice (some ⟨q,0,none⟩) (Lib.compact ss).length cap)/\∃ n,w'=putRow encStr (Sort.ahead w n) q 0 (Lib.compact ss++List.replicate (ss.length - (Lib.compact ss).length) []).toArray)
  (hs:(E0.T Ty.string).size=1) (xa:List Str) (hxa:xa.length<=1000000000):zab E0 f [.own 0 xa.length] [.row Ty.string (xa.map fun s=>[sv s]) false] (.os 0 xa.length 0 (cpcS xa).length) [.row Ty.string ((cpcZ xa).map fun s=>[sv s]) false]:=by
 intro β S w vs r hp
 obtain ⟨hl,hv⟩:=hp
 match vs,hl,hv with
 | [v1],_,hv =>
  have h1:=hv 0 _ v1 rfl rfl
  refine .inl ⟨⟨fn,hfn,hn,hb⟩,?_⟩
  obtain ⟨k,k1,hrow⟩:=r.row 0 Ty.string (xa.map fun s=>[sv s]) false rfl
  have hv1:(β[0]?).bind (Con.cur xa.length)=some v1:=by
   cases h1 with
   | d _ _ h=>cases h
   | own b n y e xs sh c1 c2 c3 c4 =>
    simp only [List.getElem?_cons_zero,Option.some.injEq,Blk.row.injEq] at c1
    obtain ⟨rfl,rfl,rfl⟩:=c1
    exact c3 Zs
  rw [k1] at hv1
  simp only [Option.bind_some] at hv1
  cases k with
  | box _=>exact hrow.elim
  | mp _=>exact hrow.elim
  | nil a =>
   have ha0:(xa.map fun s=>[sv s])=[]:=hrow
   have ha:xa=[]:=by simpa using ha0
   subst ha
   simp only [Con.cur,Option.some.injEq] at hv1
   subst hv1
   refine Calls.mono (P:=E0.P) (hnil a 0 w) ?_
   rintro e w' ⟨rfl,rfl⟩
   have e0:cpcZ []=[]:=List.length_eq_zero_iff.1 (zlC [])
   have e1:cpcS []=[]:=List.length_eq_zero_iff.1 (Nat.le_zero.1 (zox []))
   rw [e0,e1]
   exact ⟨_,_,β,S,_,rfl,⟨rfl,rfl⟩,r,Ext.refl _ _ _ _,.os 0 0 0 0 _ Ty.string [] false rfl (Nat.le_refl _) (Nat.le_refl _) (Nat.le_refl _) rfl fun _=>⟨_,k1,rfl,_,rfl⟩⟩
  | row q cap =>
   simp only [Con.cur,Option.some.injEq] at hv1
   subst hv1
   obtain ⟨cs,q1,q2,q3,q4,q5,q6,q7⟩:=hrow
   rw [hs] at q5 q6 q7
   have hq:=r.lt 0 _ q k1 rfl
   have hH:=zyi (xa:=xa) q1 q7
   rw [List.length_map] at q2
   have hc:=hall q cap (xa.map ByteArray.toList) w hH (by
    rw [List.length_map]
    omega) (by rw [List.length_map];exact q2)
   rw [List.length_map] at hc
   refine Calls.mono (P:=E0.P) (by simpa using hc) ?_
   rintro e w' ⟨rfl,n,rfl⟩
   have hcl:(Lib.compact (xa.map ByteArray.toList)).length=(cpcS xa).length:=by rw [cpcS,List.length_map]
   have harr:Lib.compact (xa.map ByteArray.toList)++List.replicate (xa.length - (Lib.compact (xa.map ByteArray.toList)).length) []=(cpcZ xa).map ByteArray.toList:=zzJ xa
   rw [hcl]
   rw [hcl] at harr
   rw [harr]
   have hlen:=zlC xa
   obtain ⟨cs',p1,p2,p3⟩:=zvz (g:=q) (cpcZ xa) n q1
   have hlay:=r.lay (b:=0) (d:=0) (ys:=(cpcZ xa).map fun s=>[sv s]) (L:=(cpcZ xa).map Value.string) (w':=putRow encStr (Sort.ahead w n) q 0 ((cpcZ xa).map ByteArray.toList).toArray) rfl k1 q1 (by simp [hlen]) (by rw [hs];simp) (fun u hu=>by
     obtain ⟨a,_,rfl⟩:=List.mem_map.1 hu;rfl) (fun c hc=>by
     obtain ⟨a,_,rfl⟩:=List.mem_map.1 hc;rw [hs];rfl)
    (fun i j c x hi hj=>by
     rw [List.getElem?_map,Option.map_eq_some_iff] at hi
     obtain ⟨a,hi,rfl⟩:=hi
     have hj3:j < 1:=by have:=(List.getElem?_eq_some_iff.1 hj).1;simpa using this
     have hj0:j=0:=by omega
     subst hj0
     cases hj
     exact ⟨_,by rw [hs,Nat.mul_one,Nat.add_zero,List.getElem?_map,hi];rfl,.v _ rfl⟩)
    ⟨cs',p1,p2,fun k=>by
     rw [p3 k,hs]
     simp only [Nat.zero_mul,Nat.not_lt_zero,if_false,Nat.zero_add,List.length_map,Nat.sub_zero]
     by_cases hk:k < (cpcZ xa).length
     ·simp only [hk,if_true,dite_true]
      have hk2:k < cs.size:=by
       rw [q5]
       omega
      rw [Array.getElem?_eq_getElem hk2,Option.map_some,List.getElem?_map,List.getElem?_eq_getElem hk]
      rfl
     ·simp only [hk,if_false,dite_false]⟩
    (fun k hk=>zmf _ n k hk) (by simp [putRow,mapBlock,Sort.ahead]) rfl rfl (by show w.drawn<=w.drawn+n;omega) rfl
   obtain ⟨x1,r1⟩:=hlay
   have e0:zcV (xa.map fun s=>[sv s]) 0 ((cpcZ xa).map fun s=>[sv s])=(cpcZ xa).map fun s=>[sv s]:=by
    apply List.ext_getElem?
    intro i
    rw [zhj (by simp [hlen])]
    simp only [Nat.not_lt_zero,if_false,Nat.zero_add,List.length_map,Nat.sub_zero]
    by_cases hi:i < (cpcZ xa).length
    ·simp [hi]
    ·simp only [hi,if_false]
     rw [List.getElem?_eq_none Zp,List.getElem?_eq_none Zp]
   rw [e0] at x1 r1
   exact ⟨_,_,β,S,_,rfl,⟨rfl,rfl⟩,r1,x1,.os 0 xa.length 0 (cpcS xa).length _ Ty.string _ false rfl (by rw [List.length_map,hlen];exact Nat.le_refl _) (Nat.zero_le _) (zox xa) rfl fun _=>⟨_,k1,some ⟨q,0,none⟩,by simp,fun _=>by simp⟩⟩
theorem zeO (xa:List Str) (hl:xa.length<=1000000000):zab E0 S.CE [.own 0 xa.length] [.row Ty.string (xa.map fun s=>[sv s]) false] (.os 0 xa.length 0 (cpcS xa).length) [.row Ty.string ((cpcZ xa).map fun s=>[sv s]) false] :=
 zzI At.CE kr kr
  (fun a cap w=>Go.Proofs.AnyG.slices_Compact_string_empty Go.Proofs.Tryz.compT a cap w)
  (fun q cap ss w hH hq hsz=>Go.Proofs.AnyG.slices_Compact_string Go.Proofs.Tryz.compT q 0 cap ss w hH hq hsz) kr xa hl
end Go.AM
namespace Go.AM
open Go.Lib
theorem zxG (a b:List UInt8):a < b\/a=b\/b < a:=by
 have h:=zlg (stS a) (stS b)
 rw [ze7,ze7] at h
 rcases h with h|h|h
 ·exact .inl h
 ·refine .inr (.inl ?_)
  have:=congrArg ByteArray.toList h
  rwa [ze7,ze7] at this
 ·exact .inr (.inr h)
theorem zx8 (d:List (List UInt8)) (hs:d.Pairwise fun a b=>¬ b < a):∀ m,m<=d.length->(compactUpTo d.toArray m).Pairwise (fun a b=>a < b)/\∀ x,x∈compactUpTo d.toArray m↔∃ j,j < m/\d[j]?=some x
 | 0,_=>⟨by simp [compactUpTo],fun x=>by simp [compactUpTo]⟩
 | m+1,hm=>by
  obtain ⟨h1,h2⟩:=zx8 d hs m Zo
  have hm':m < d.length:=by omega
  have hget:∀ j,j < d.length->∃ y,d[j]?=some y/\d.toArray[j]! = y:=fun j hj=>⟨d[j],List.getElem?_eq_getElem hj,by simp [hj]⟩
  have hle:∀ i j x y,i < j->d[i]?=some x->d[j]?=some y->¬ y < x:=fun i j x y hij hx hy=>by
   obtain ⟨a1,a2⟩:=List.getElem?_eq_some_iff.1 hx
   obtain ⟨b1,b2⟩:=List.getElem?_eq_some_iff.1 hy
   have:=List.pairwise_iff_getElem.1 hs i j a1 b1 hij
   rwa [a2,b2] at this
  obtain ⟨y,hy,hy2⟩:=hget m hm'
  rw [compactUpTo_succ,hy2]
  by_cases hk:keeps d.toArray m=true
  ·rw [if_pos hk]
   refine ⟨List.pairwise_append.2 ⟨h1,by simp,fun x hx z hz=>?_⟩,fun x=>?_⟩
   ·simp only [List.mem_singleton] at hz
    subst hz
    obtain ⟨j,hj,hx⟩:=(h2 x).1 hx
    simp only [keeps,decide_eq_true_eq] at hk
    rcases hk with hk|hk
    ·omega
    ·obtain ⟨u,hu,hu2⟩:=hget (m - 1) Zo
     rw [hy2,hu2] at hk
     have h3:u < z:=by
      rcases zxG u z with h|h|h
      ·exact h
      ·exact absurd h.symm hk
      ·exact absurd h (hle (m - 1) m u z Zo hu hy)
     by_cases hjm:j=m - 1
     ·subst hjm
      rw [hu] at hx;cases hx;exact h3
     ·rcases zxG x u with h|h|h
      ·exact List.lt_trans h h3
      ·rw [h];exact h3
      ·exact absurd h (hle j (m - 1) x u Zo hx hu)
   ·rw [List.mem_append,h2,List.mem_singleton]
    constructor
    ·rintro (⟨j,hj,hx⟩|rfl)
     ·exact ⟨j,by omega,hx⟩
     ·exact ⟨m,by omega,hy⟩
    ·rintro ⟨j,hj,hx⟩
     by_cases hjm:j=m
     ·subst hjm;rw [hy] at hx;cases hx;exact .inr rfl
     ·exact .inl ⟨j,by omega,hx⟩
  ·rw [if_neg hk,List.append_nil]
   refine ⟨h1,fun x=>?_⟩
   rw [h2]
   simp only [keeps,decide_eq_true_eq,not_or,ne_eq,Decidable.not_not] at hk
   constructor
   ·rintro ⟨j,hj,hx⟩
    exact ⟨j,by omega,hx⟩
   ·rintro ⟨j,hj,hx⟩
    by_cases hjm:j=m
    ·subst hjm
     obtain ⟨u,hu,hu2⟩:=hget (j - 1) Zo
     rw [hy2,hu2] at hk
     rw [hy] at hx;cases hx
     exact ⟨j - 1,by omega,by rw [hu,hk.2]⟩
    ·exact ⟨j,by omega,hx⟩
theorem zAP {xs:List Str} (hs:xs.Pairwise fun a b=>ltS b a=false):SrtS (cpcS xs)/\∀ x,x∈cpcS xs↔x∈xs:=by
 have h0:(xs.map ByteArray.toList).Pairwise fun a b=>¬ b < a:=List.pairwise_map.2 (hs.imp fun {a b} h hab=>by rw [zdc.2 hab] at h;cases h)
 obtain ⟨h1,h2⟩:=zx8 _ h0 (xs.map ByteArray.toList).length (Nat.le_refl _)
 refine ⟨List.pairwise_map.2 (h1.imp fun {a b} h=>zdc.2 (by rw [ze7,ze7];exact h)),fun x=>?_⟩
 rw [cpcS,List.mem_map]
 constructor
 ·rintro ⟨y,hy,rfl⟩
  obtain ⟨j,_,hj⟩:=(h2 y).1 hy
  have:=List.mem_of_getElem? hj
  obtain ⟨z,hz,rfl⟩:=List.mem_map.1 this
  rw [zqo];exact hz
 ·intro hx
  obtain ⟨j,hj⟩:=List.getElem?_of_mem (List.mem_map.2 ⟨x,hx,rfl⟩:x.toList∈xs.map ByteArray.toList)
  exact ⟨x.toList,(h2 _).2 ⟨j,(List.getElem?_eq_some_iff.1 hj).1,hj⟩,zqo x⟩
theorem zAQ (xs:List Str):cpcS (za9 xs)=srtS xs:=by
 obtain ⟨h1,h2⟩:=zAP (zuh xs)
 exact zBr h1 fun x=>by rw [h2,(zqn xs).mem_iff]
end Go.AM
namespace Go.AM
theorem zru {E:Env0} {f:FuncId} {args:List AV} {h:Heap} {R:AV->Heap->Prop} (b i:Nat) (e:TypeId) {cs:List AV} (hb:h[b]?=some (.box cs)) (hi:cs[i]?=some .nl)
  (hc:zcd E f args ((h++[Blk.row e [] false]).set b (.box (cs.set i (.own h.length 0)))) R):zcd E f args h R:=by
 intro β S w vs r hp
 obtain ⟨g,vs1,t,h2,h3,h4,h5⟩:=r.box b cs hb
 have hil:i < vs1.length:=by rw [← h4];exact (List.getElem?_eq_some_iff.1 hi).1
 have hv:=h5 i .nl vs1[i] hi (by simp [hil])
 obtain ⟨a,ha⟩:=zgN hv.1
 obtain ⟨x1,r1⟩:=r.nilRow e a
 have hb1:(h++[Blk.row e [] false])[b]?=some (.box cs):=by rw [List.getElem?_append_left (List.getElem?_eq_some_iff.1 hb).1];exact hb
 have x2:=zfP (β:=β++[.nil a]) (S:=S) (w:=w) hb1 (cs.set i (.own h.length 0))
 have r2:=r1.setBox hb1 (cs.set i (.own h.length 0)) (fun g' vs' t' e2 e3 e4 e5=>by
  refine ⟨by simpa using e4,fun j x y hx hy=>?_⟩
  by_cases hij:i=j
  ·subst hij
   rw [List.getElem?_set_self (List.getElem?_eq_some_iff.1 hi).1] at hx
   cases hx
   have:=e5 i .nl y hi hy
   refine ⟨?_,this.2⟩
   have hg:(β++[Con.nil a])[b]?=some (.box g):=x1.con b g h2
   rw [hg] at e2
   cases e2
   rw [h3] at e3
   have hvs:vs1=vs':=by
    have e6:vs1.toArray=vs'.toArray:=by injection e3 with e3;injection e3
    simpa using congrArg Array.toList e6
   subst hvs
   have:y=vs1[i]:=by
    rw [List.getElem?_eq_getElem hil] at hy
    cases hy
    rfl
   rw [this,ha]
   exact r.ownNil e a
  ·rw [List.getElem?_set_ne hij] at hx
   exact e5 j x y hx hy)
 have x:=x1.trans x2
 refine (hc (β++[.nil a]) S w vs r2 (hp.imp fun x' y h=>h.ext x)).mono ?_
 rintro en w' ⟨y,h',β',S',v,c1,c2,c3,c4,c5⟩
 exact ⟨y,h',β',S',v,c1,c2,c3,x.trans c4,c5⟩
theorem zo9 {E:Env0} {f:FuncId} {args:List AV} {h h1 h':Heap} {r:AV} (b i:Nat) (e:TypeId) {cs:List AV} (hb:h[b]?=some (.box cs)) (hi:cs[i]?=some .nl)
  (he:(h++[Blk.row e [] false]).set b (.box (cs.set i (.own h.length 0)))=h1) (hc:zab E f args h1 r h'):zab E f args h r h' :=
 zru b i e hb hi (he ▸ hc)
theorem zlZ {p:Prop} (h:p:=by first|assumption|omega|(simp only [zac];omega)|(simp;done)):p:=h
theorem zsN {p:Prop} (h:p:=by first|assumption|omega|exact ⟨rfl,by simp⟩|(simp;done)):p:=h
def setQ (a:Ac):List Se:=bif a.kind==5 then a.sets else []
def zbb (t:Tg):List Se:=t.acts.flatMap setQ
theorem zyM {a:Ac} (h:(a.kind==5)=true):setQ a=a.sets:=by simp [setQ,h]
theorem zyL {a:Ac} (h:(a.kind==5)=false):setQ a=[]:=by simp [setQ,h]
theorem zoO {a:Ac} (h:a.sets.length<=2):(setQ a).length<=2:=by unfold setQ;cases a.kind==5 <;> simp [h]
theorem zn6 {l:List Ac} {o o2:List Se} {i:Nat} {x:Ac} (h:o=(l.take i).flatMap setQ/\o.length<=2 * i) (hx:l[i]?=some x) (hs:x.sets.length<=2) (ho:o2=o++setQ x):o2=(l.take (i+1)).flatMap setQ/\o2.length<=2 * (i+1):=by
 refine ⟨by rw [ho,h.1,List.take_add_one,hx];simp,?_⟩
 have h1:=zoO hs
 have h2:=h.2
 rw [ho,List.length_append]
 omega
noncomputable def L_sp (t:Tg) (i:Nat) (out:List Se):Cfg:=zan B.BY 0 [(3,.own 1 out.length),(7,.sl (t.acts.map Ac.cells)),(8,iv ((t.acts.map Ac.cells).length:Nat)),(9,iv (i:Nat))] [.box t.cells,.row Ty.Set (out.map Se.cells) false]
theorem Zcv8 {p:Prop} (h:p:=by first|rfl|(simp;done)|(simp [X.cells,Qy.cells,V.cells,Col.cells,Rw.cells,Tb.cells,Fr.cells,Sch.cells,Tp.cells,Pl.cells,Acc.cells,Ac.cells,Se.cells,Tg.cells,Rk.cells];done)):p:=h
theorem zh5 (t:Tg) (ha:t.acts.length<=3) (hs:∀ a∈t.acts,a.sets.length<=2) (i:Nat) (out:List Se) (hi:i<=(t.acts).length) (hI:out=(t.acts.take i).flatMap setQ/\out.length<=2 * i):∃ (out':List Se),(out'=(t.acts.take (t.acts).length).flatMap setQ/\out'.length<=2 * (t.acts).length)/\(decide ((((t.acts).length:Nat):Int) < (((t.acts.map Ac.cells).length:Nat):Int))=false)/\∀ R,Good E0 B.BY [] (L_sp t (t.acts).length out') R->Good E0 B.BY [] (L_sp t i out) R:=by
 have hk:=hi;revert i out;refine zlp ((t.acts).length) (fun i hlt ih out hi hI _=>?_)
 obtain ⟨x,hx,h0,hw⟩:=zlq (l:=t.acts) ((t.acts.map Ac.cells).length) hlt
 have hsx:=hs x (List.mem_of_getElem? hx);have ho:out.length<=6:=(by have:=hI.2;omega)
 let p_1:List St:=[sb h0,se (zai Ac.cells hx rfl)]
 cases h1:x.kind==5
 ·exact Zih (ih out Zo (by first|exact zn6 hI hx hsx (by rw [zyL ‹_›,List.append_nil])|exact zn6 hI hx hsx (by rw [zyM ‹_›])) Zo) fun R gY=>zaa (wkl (p_1++[sb h1,si hw]) [3,7,8,9] 2 kr gY)
 ·exact Zih (ih (out++x.sets) Zo (by first|exact zn6 hI hx hsx (by rw [zyL ‹_›,List.append_nil])|exact zn6 hI hx hsx (by rw [zyM ‹_›])) Zo) fun R gY=>zaa (wkl (p_1++[sb h1,sqx (AllLen (List.map Se.cells x.sets) 11/\out.length=(List.map Se.cells out).length/\(((List.map Se.cells out).length+(List.map Se.cells x.sets).length) * 152).le 140737488355328),si hw]) [3,7,8,9] 2 kr (zaE 3 1 (List.map Se.cells out++List.map Se.cells x.sets) gY (he:=Zcv8) (hm:=Zcv8)))
theorem zxM (t:Tg) (ha:t.acts.length<=3) (hs:∀ a∈t.acts,a.sets.length<=2):∃ (r:List Se),r=zbb t/\zab E0 S.BY [t.av] [] (.sl (r.map Se.cells)) []:=by
 obtain ⟨out1,q1,q1_1,g1⟩:=zh5 t zsN zsN 0 ([]) zsN zsN
 exact ⟨out1,(by (rw [List.take_length] at *;exact And.left ‹_›)),wkcN At.BY [] [3,7,8,9] 1 [(.ot 3 Ty.Set,2)] kr (g1 _ (zaa (wkr [sqx (out1.length=(List.map Se.cells out1).length),sb q1_1] kr)))⟩
theorem ziz (t:Tg) (ha:t.acts.length<=3) (hs:∀ a∈t.acts,a.sets.length<=2):zab E0 S.BY [t.av] [] (.sl ((zbb t).map Se.cells)) []:=by
 obtain ⟨r,rfl,h⟩:=zxM t ha hs
 exact h
theorem znl {t:Tg} (ha:t.acts.length<=3) (hs:∀ a∈t.acts,a.sets.length<=2):(zbb t).length<=6:=by
 have:=zaz (l:=t.acts) (f:=setQ) (C:=2) fun a h=>zoO (hs a h)
 unfold zbb;omega
theorem zzC (l:List X) (hl:zac l):Good E0 B.Ba [] (zcD (zfj B.Ba [.sl (l.map X.cells)] [] 0) false) (fun r h=>r=.own 0 l.length/\h=[.row Ty.Expr (l.map X.cells) false]) :=
 zdn E0ok mix0 3000 (y:=AV.own 0 (List.map X.cells l).length) (H:=[Blk.row Ty.Expr (List.map X.cells l) false]) [sb Zf,sqx (AllLen (List.map X.cells l) 10/\((List.map X.cells l).length * 136).le 140737488355328)] kr (⟨by simp,rfl⟩)
theorem zzD:Good E0 B.Ba [] (zcD (zfj B.Ba [.sl []] [] 0) true) (fun r h=>r=.nl/\h=[]) :=
 zdn E0ok mix0 3000 (y:=AV.nl) (H:=[]) [sb Zt] kr (⟨rfl,rfl⟩)
theorem zmv (l:List X) (hl:zac l):zab E0 S.Ba [.sl (l.map X.cells)] [] (.own 0 l.length) [.row Ty.Expr (l.map X.cells) false]:=by
 refine zaY At.Ba rfl kr (Nat.le_of_ble_eq_true kr) (zdW E0ok mix0 3000 [] (List.range 40) 0 (c':=zfj B.Ba [.sl (l.map X.cells)] [] 0) kr kr (zgE E0ok (xs:=l.map X.cells) (e:=true) kr fun b hb=>?_))
 cases b with
 | false=>exact zzC l hl
 | true =>
  cases l with
  | nil=>exact zd0 Ty.Expr zzD ⟨rfl,rfl⟩
  | cons x r=>exact absurd (hb Zs) Zs
theorem zkj (l:List X) (hl:zac l):zab E0 S.Ba [xsl l] [] (.own 0 l.length) [.row Ty.Expr (zad l) false]:=by
 have h:=zmv l hl
 rw [← zbj] at h
 exact h
noncomputable def L_us (t:Tg) (l:List Se) (i:Nat) (out:List X):Cfg:=zan B.B3 0 [(3,.own 1 out.length),(10,.sl (l.map Se.cells)),(11,iv ((l.map Se.cells).length:Nat)),(12,iv (i:Nat))] [.box t.cells,.row Ty.Expr (zad out) false]
theorem zh6 (t:Tg) (l:List Se) (hl:l.length<=6) (hw:t.when_.length<=1) (i:Nat) (out:List X) (hi:i<=(l).length) (hI:out=t.when_++(l.take i).map Se.ex):∃ (out':List X),(out'=t.when_++(l.take (l).length).map Se.ex)/\(decide ((((l).length:Nat):Int) < (((l.map Se.cells).length:Nat):Int))=false)/\∀ R,Good E0 B.B3 [] (L_us t l (l).length out') R->Good E0 B.B3 [] (L_us t l i out) R:=by
 have hk:=hi;revert i out;refine zlp ((l).length) (fun i hlt ih out hi hI _=>?_)
 obtain ⟨x,hx,h0,hw⟩:=zlq (l:=l) ((l.map Se.cells).length) hlt
 have ho:out.length<=7:=(by rw [hI,List.length_append,List.length_map,List.length_take];omega)
 exact Zih (ih (out++[x.ex]) Zo (by (rw [List.take_add_one,hx,hI];simp)) Zo) fun R gY=>zaa (wkl [sb h0,se (zai Se.cells hx rfl),sqA (zad out) [x.ex.cells] out.length 10 136,si hw] [3,10,11,12] 2 kr (zaE 3 1 (zad out++[x.ex.cells]) gY (he:=Zcv8) (hm:=Zcv8)))
def zb0 (t:Tg):List X:=t.when_++(zbb t).map Se.ex
theorem zxO (t:Tg) (ha:t.acts.length<=3) (hs:∀ a∈t.acts,a.sets.length<=2) (hw:t.when_.length<=1) (hl:(zbb t).length<=6):∃ (r:List X),r=zb0 t/\zab E0 S.B3 [t.av] [] (xsl r) []:=by
 obtain ⟨out1,q1,q1_1,g1⟩:=zh6 t (zbb t) zlZ zlZ 0 t.when_ zlZ zlZ
 exact ⟨out1,(by (rw [List.take_length] at *;assumption)),wkc At.B3 [sc (zkj t.when_ zlZ),sc (ziz t zlZ zlZ)] [3,10,11,12] 2 kr (g1 _ (zaa (wkr [sqx (out1.length=(zad out1).length),sb q1_1] kr)))⟩
theorem zoD (t:Tg) (ha:t.acts.length<=3) (hs:∀ a∈t.acts,a.sets.length<=2) (hw:t.when_.length<=1):zab E0 S.B3 [t.av] [] (xsl (zb0 t)) []:=by
 obtain ⟨r,rfl,h⟩:=zxO t ha hs hw (znl ha hs)
 exact h
theorem zn2 {p:Prop} (h:p:=by first|assumption|omega|(subst_vars;simp only [List.length_append];omega)):p:=h
noncomputable def zse (a:Ac) (k0 kz:List Str) (f:List X->List Str) (i:Nat) (k:List Str):Cfg:=zan B.Ah 0 [(0,.fn S.Ap [.p 0 0]),(3,.p 2 0),(10,.sl (a.rows.map zaA)),(11,iv ((a.rows.map zaA).length:Nat)),(12,iv (i:Nat))] [.box [.own 1 (k).length],.row Ty.string ((k).map fun s=>[sv s]) false,.box a.cells]
theorem zeY (a:Ac) (k0 kz:List Str) (f:List X->List Str) (hf:∀ r∈a.rows,vnC r (f r)) (hl:zac a.rows) (hB:k0.length+(a.rows.flatMap f).length<=900000000) (i:Nat) (k:List Str) (hi:i<=(a.rows).length) (hI:k=k0++(a.rows.take i).flatMap f):∃ (k':List Str),(k'=k0++(a.rows.take (a.rows).length).flatMap f)/\(decide ((((a.rows).length:Nat):Int) < (((a.rows.map zaA).length:Nat):Int))=false)/\∀ R,Good E0 B.Ah [.box [.own 1 (kz).length],.row Ty.string ((kz).map fun s=>[sv s]) false] (zse a k0 kz f (a.rows).length k') R->Good E0 B.Ah [.box [.own 1 (kz).length],.row Ty.string ((kz).map fun s=>[sv s]) false] (zse a k0 kz f i k) R:=by
 have hk:=hi;revert i k;refine zlp ((a.rows).length) (fun i hlt ih k hi hI _=>?_)
 obtain ⟨x,hx,h0,hw⟩:=zlq (l:=a.rows) ((a.rows.map zaA).length) hlt
 have hro:=zns hI hx hB;have hfx:=hf x (List.mem_of_getElem? hx)
 exact Zih (ih (k++f x) Zo (by exact znt hI hx rfl) Zo) fun R gY=>zaa (wkl [sb h0,se (zai zaA hx rfl),sl [0,1] (hfx k (by first|assumption|omega|(simp;done)|(simp;omega))),sb Zf,si hw] [0,3,10,11,12] 3 kr gY)
theorem zeU (a:Ac) (kz:List Str) (f:List X->List Str) (hf:∀ r∈a.rows,vnC r (f r)) (hl:zac a.rows) (k:List Str) (hB:k.length+(a.rows.flatMap f).length<=900000000):∃ k':List Str,k'=k++a.rows.flatMap f/\decide (((a.rows.length:Nat):Int) < (((a.rows.map zaA).length:Nat):Int))=false/\∀ R,Good E0 B.Ah [.box [.own 1 (kz).length],.row Ty.string ((kz).map fun s=>[sv s]) false] (zse a k kz f a.rows.length k') R->Good E0 B.Ah [.box [.own 1 (kz).length],.row Ty.string ((kz).map fun s=>[sv s]) false] (zse a k kz f 0 k) R:=by
 obtain ⟨k',h1,h2,h3⟩:=zeY a k kz f hf hl hB 0 k Zo Zs
 exact ⟨k',by rw [h1,List.take_length],h2,h3⟩
noncomputable def zsf (a:Ac) (k0 kz:List Str) (g:Se->List Str) (i:Nat) (k:List Str):Cfg:=zan B.Ah 1 [(0,.fn S.Ap [.p 0 0]),(3,.p 2 0),(22,.sl (a.sets.map Se.cells)),(23,iv ((a.sets.map Se.cells).length:Nat)),(24,iv (i:Nat))] [.box [.own 1 (k).length],.row Ty.string ((k).map fun s=>[sv s]) false,.box a.cells]
theorem zeZ (a:Ac) (k0 kz:List Str) (g:Se->List Str) (hg:∀ s∈a.sets,vnC [s.ex] (g s)) (hl:zac a.sets) (hB:k0.length+(a.sets.flatMap g).length<=900000000) (i:Nat) (k:List Str) (hi:i<=(a.sets).length) (hI:k=k0++(a.sets.take i).flatMap g):∃ (k':List Str),(k'=k0++(a.sets.take (a.sets).length).flatMap g)/\(decide ((((a.sets).length:Nat):Int) < (((a.sets.map Se.cells).length:Nat):Int))=false)/\∀ R,Good E0 B.Ah [.box [.own 1 (kz).length],.row Ty.string ((kz).map fun s=>[sv s]) false] (zsf a k0 kz g (a.sets).length k') R->Good E0 B.Ah [.box [.own 1 (kz).length],.row Ty.string ((kz).map fun s=>[sv s]) false] (zsf a k0 kz g i k) R:=by
 have hk:=hi;revert i k;refine zlp ((a.sets).length) (fun i hlt ih k hi hI _=>?_)
 obtain ⟨x,hx,h0,hw⟩:=zlq (l:=a.sets) ((a.sets.map Se.cells).length) hlt
 have hro:=zns hI hx hB;have hfx:=hg x (List.mem_of_getElem? hx)
 exact Zih (ih (k++g x) Zo (by exact znt hI hx rfl) Zo) fun R gY=>zaa (wkl [sb h0,se (zai Se.cells hx rfl),sl [0,1] (conv (args:=[AV.fn S.Ap [AV.p 0 0],AV.sl [x.ex.cells]]) (hl:=[Blk.box [AV.own 1 k.length],Blk.row Ty.string (List.map (fun s=>[sv s]) k) false]) (hfx k (by first|assumption|omega|(simp;done)|(simp;omega))) (by first|(simp;done)|(simp [X.cells];done)) (by first|(simp;done)|(simp [X.cells];done))),sb Zf,si hw] [0,3,22,23,24] 3 kr gY)
theorem zeV (a:Ac) (kz:List Str) (g:Se->List Str) (hg:∀ s∈a.sets,vnC [s.ex] (g s)) (hl:zac a.sets) (k:List Str) (hB:k.length+(a.sets.flatMap g).length<=900000000):∃ k':List Str,k'=k++a.sets.flatMap g/\decide (((a.sets.length:Nat):Int) < (((a.sets.map Se.cells).length:Nat):Int))=false/\∀ R,Good E0 B.Ah [.box [.own 1 (kz).length],.row Ty.string ((kz).map fun s=>[sv s]) false] (zsf a k kz g a.sets.length k') R->Good E0 B.Ah [.box [.own 1 (kz).length],.row Ty.string ((kz).map fun s=>[sv s]) false] (zsf a k kz g 0 k) R:=by
 obtain ⟨k',h1,h2,h3⟩:=zeZ a k kz g hg hl hB 0 k Zo Zs
 exact ⟨k',by rw [h1,List.take_length],h2,h3⟩
theorem zAJ (a:Ac) (k:List Str) (f:List X->List Str) (g:Se->List Str) (q w:List Str) (hf:∀ r∈a.rows,vnC r (f r)) (hg:∀ s∈a.sets,vnC [s.ex] (g s)) (hq:∀ k:List Str,k.length+q.length<=900000000->zab E0 S.Aj [.fn S.Ap [.p 0 0],.sl (zal a.query)] [.box [.own 1 k.length],.row Ty.string (k.map fun s=>[sv s]) false] (bv true) [.box [.own 1 (k++q).length],.row Ty.string ((k++q).map fun s=>[sv s]) false]) (hw:∀ k:List Str,k.length+w.length<=900000000->zab E0 S.Ai [.fn S.Ap [.p 0 0],xsl a.wh] [.box [.own 1 k.length],.row Ty.string (k.map fun s=>[sv s]) false] (bv true) [.box [.own 1 (k++w).length],.row Ty.string ((k++w).map fun s=>[sv s]) false]) (hlr:zac a.rows) (hls:zac a.sets) (hB:k.length+((a.rows.flatMap f).length+(a.sets.flatMap g).length+q.length+w.length)<=900000000):∃ (r:List Str),r=k++(a.rows.flatMap f++(a.sets.flatMap g++(q++w)))/\zab E0 S.Ah [.fn S.Ap [.p 0 0],a.av] [.box [.own 1 (k).length],.row Ty.string ((k).map fun s=>[sv s]) false] (bv true) [.box [.own 1 (r).length],.row Ty.string ((r).map fun s=>[sv s]) false]:=by
 obtain ⟨k1,q1,q1_1,g1⟩:=zeU a k f hf zn2 k zn2
 obtain ⟨k2,q2,q2_1,g2⟩:=zeV a k g hg zn2 k1 zn2
 exact ⟨k2++q++w,(by (subst_vars;simp only [List.append_assoc])),wkc At.Ah [] [0,3,10,11,12] 3 kr (g1 _ (zaa (wkl [sb q1_1] [0,3,22,23,24] 3 kr (g2 _ (zaa (wkr [sb q2_1,sl [0,1] (hq k2 zn2),sg Zt,sl [0,1] (hw (k2++q) zn2)] kr))))))⟩
def vnA (n:Nat) (a:Ac):List Str:=a.rows.flatMap (fun r=>(flX n r).flatMap vnE)++(a.sets.flatMap (fun s=>(flX n [s.ex]).flatMap vnE)++((flQ n a.query).flatMap vnE++(flX n a.wh).flatMap vnE))
theorem zxU (a:Ac) (k r0:List Str) (hv:zab E0 S.Ah [.fn S.Ap [.p 0 0],a.av] [.box [.own 1 (k).length],.row Ty.string ((k).map fun s=>[sv s]) false] (bv true) [.box [.own 1 (r0).length],.row Ty.string ((r0).map fun s=>[sv s]) false]):∃ (r:List Str),r=r0/\zab E0 S.Cj [a.av,.fn S.Ap [.p 0 0]] [.box [.own 1 (k).length],.row Ty.string ((k).map fun s=>[sv s]) false] (bv true) [.box [.own 1 (r).length],.row Ty.string ((r).map fun s=>[sv s]) false]:=by
 exact ⟨r0,Zr,wk At.Cj [sl [0,1] hv] kr⟩
theorem zmz (n:Nat) (a:Ac) (k:List Str) (ha:AcSh n a) (hB:k.length+(vnA n a).length<=900000000):zab E0 S.Cj [a.av,.fn S.Ap [.p 0 0]] [.box [.own 1 (k).length],.row Ty.string ((k).map fun s=>[sv s]) false] (bv true) [.box [.own 1 (k++vnA n a).length],.row Ty.string ((k++vnA n a).map fun s=>[sv s]) false]:=by
 have e:(flQ n a.query).flatMap vnE=a.query.flatMap (vnQ (fun q=>(flX n q.items).flatMap vnE) (fun q=>(flX n q.wh).flatMap vnE)):=by
  simp only [flQ,List.flatMap_assoc,List.flatMap_append];rfl
 obtain ⟨r,rfl,h⟩:=zAJ a k (fun r=>(flX n r).flatMap vnE) (fun s=>(flX n [s.ex]).flatMap vnE) ((flQ n a.query).flatMap vnE) ((flX n a.wh).flatMap vnE)
  (fun r hr=>zdP n r (ha.row r hr).1 (ha.row r hr).2) (fun s hs=>zdP n [s.ex] (by simp [zac]) (by intro x hx;simp only [List.mem_singleton] at hx;subst hx;exact ha.set s hs))
  (by rw [e];exact zy3 (fun q hq=>zdP n q.items (ha.qs q hq).items (ha.qs q hq).hi) (fun q hq=>zdP n q.wh (ha.qs q hq).wh (ha.qs q hq).hw) ha.query) (zdP n a.wh ha.wh ha.w) ha.rows ha.sets (by simp only [vnA,List.length_append] at hB;omega)
 obtain ⟨r,rfl,h⟩:=zxU a k _ h
 exact h
theorem zeF {p:Prop} (h:p:=by first|assumption|omega|(subst_vars;simp only [zhv,zlC,List.length_append,List.length_map,List.length_take];omega)|(simp;done)):p:=h
theorem zxd {p:Prop} (h:p:=by first|(simp only [rowP, *,cond_true,cond_false,List.map_nil];first|done|exact ⟨rfl,rfl⟩|exact ⟨trivial,trivial⟩)|exact zBk ‹_› ‹_› ‹_› ‹_›):p:=h
theorem zsO {p:Prop} (h:p:=by first|(simp;done)|(simp [zhv];done)):p:=h
theorem ziu:∀ (n:Nat) (l:List X),flX n l=l.flatMap fun e=>flX n [e]
 | 0,l=>by simp [flX]
 | n+1,l=>by
  show l.flatMap _=l.flatMap fun e=>[e].flatMap _
  congr 1;funext e;simp
theorem zgC (q:Str):∀ (n:Nat) (e:X),(flX n [e]).flatMap (nmE q)=zaq q n e
 | 0,e=>by simp [flX,zaq]
 | n+1,e=>by
  have h0:∀ l:List X,(flX n l).flatMap (nmE q)=l.flatMap (zaq q n):=fun l=>by
   rw [ziu,List.flatMap_assoc];congr 1;funext x;exact zgC q n x
  show ([e].flatMap fun e=>e::(flX n e.args++e.sub.flatMap fun q=>flX n q.items++flX n q.wh)).flatMap (nmE q)=_
  simp only [List.flatMap_cons,List.flatMap_nil,List.append_nil,List.flatMap_append,List.flatMap_assoc,h0]
  rfl
theorem zq6 (q:Str) (n:Nat) (l:List X):(flX n l).flatMap (nmE q)=l.flatMap (zaq q n):=by
 rw [ziu,List.flatMap_assoc];congr 1;funext x;exact zgC q n x
theorem zik {n:Nat} {l:List X} (h:∀ e∈l,XOk n e):((flX n l).flatMap vnE).length<=l.length * nb n:=by
 show ((flX n l).flatMap (nmE ⟨#[78,69,87]⟩)).length<=_
 rw [zq6]
 exact zaz fun e he=>zeq _ n e (h e he)
structure AcLi (n:Nat) (a:Ac):Prop where
 rows:a.rows.length<=3
 row:∀ r∈a.rows,r.length<=4/\∀ x∈r,XOk n x
 query:a.query.length<=1
 qs:∀ q∈a.query,(q.items.length<=8/\q.wh.length<=1)/\(∀ x∈q.items,XOk n x)/\∀ x∈q.wh,XOk n x
 sets:a.sets.length<=2
 set:∀ s∈a.sets,XOk n s.ex
 wh:a.wh.length<=1
 w:∀ x∈a.wh,XOk n x
theorem AcLi.sh {n:Nat} {a:Ac} (h:AcLi n a):AcSh n a :=
 ⟨by have:=h.rows;simp only [zac];omega,fun r hr=>⟨by have:=(h.row r hr).1;simp only [zac];omega,fun x hx=>((h.row r hr).2 x hx).sh⟩,by have:=h.query;simp only [zac];omega,
  fun q hq=>⟨by have:=(h.qs q hq).1.1;simp only [zac];omega,by have:=(h.qs q hq).1.2;simp only [zac];omega,fun x hx=>((h.qs q hq).2.1 x hx).sh,fun x hx=>((h.qs q hq).2.2 x hx).sh⟩,
  by have:=h.sets;simp only [zac];omega,fun s hs=>(h.set s hs).sh,by have:=h.wh;simp only [zac];omega,fun x hx=>(h.w x hx).sh⟩
theorem zBz {n:Nat} {a:Ac} (h:AcLi n a):(vnA n a).length<=24 * nb n:=by
 have h1:=zaz (l:=a.rows) (f:=fun r=>(flX n r).flatMap vnE) (C:=4 * nb n) fun r hr=>Nat.le_trans (zik (h.row r hr).2) (Nat.mul_le_mul_right _ (h.row r hr).1)
 have h2:=zaz (l:=a.sets) (f:=fun s=>(flX n [s.ex]).flatMap vnE) (C:=nb n) fun s hs=>by
  have:=zik (n:=n) (l:=[s.ex]) (by intro e he;simp only [List.mem_singleton] at he;subst he;exact h.set s hs)
  simpa using this
 have e3:(flQ n a.query).flatMap vnE=a.query.flatMap fun q=>(flX n q.items).flatMap vnE++(flX n q.wh).flatMap vnE:=by
  simp only [flQ,List.flatMap_assoc,List.flatMap_append]
 have h3:=zaz (l:=a.query) (f:=fun q=>(flX n q.items).flatMap vnE++(flX n q.wh).flatMap vnE) (C:=9 * nb n) fun q hq=>by
  have g1:=zik (h.qs q hq).2.1
  have g2:=zik (h.qs q hq).2.2
  have g3:=Nat.mul_le_mul_right (nb n) (h.qs q hq).1.1
  have g4:=Nat.mul_le_mul_right (nb n) (h.qs q hq).1.2
  rw [List.length_append];omega
 have h4:=zik h.w
 have k1:=Nat.mul_le_mul_right (4 * nb n) h.rows
 have k2:=Nat.mul_le_mul_right (nb n) h.sets
 have k3:=Nat.mul_le_mul_right (9 * nb n) h.query
 have k4:=Nat.mul_le_mul_right (nb n) h.wh
 simp only [vnA,List.length_append,e3]
 omega
structure TgLi (n:Nat) (t:Tg):Prop where
 acts:t.acts.length<=3
 act:∀ a∈t.acts,AcLi n a
 whl:t.when_.length<=1
 wh:∀ x∈t.when_,XOk n x
theorem TgLi.sets {n:Nat} {t:Tg} (h:TgLi n t):∀ a∈t.acts,a.sets.length<=2:=fun a ha=>(h.act a ha).sets
def ziJ (n:Nat) (t:Tg):List Str:=(flX n t.when_).flatMap vnE++t.acts.flatMap (vnA n)
theorem zpR {n:Nat} {t:Tg} (h:TgLi n t) (hn:n<=6):(ziJ n t).length<=30000000:=by
 have h1:=zik h.wh
 have h2:=zaz (l:=t.acts) (f:=vnA n) (C:=24 * nb n) fun a ha=>zBz (h.act a ha)
 have h3:=zsw hn
 have k1:=Nat.mul_le_mul_right (nb n) h.whl
 have k2:=Nat.mul_le_mul_right (24 * nb n) h.acts
 simp only [ziJ,List.length_append]
 omega
def rowP (n:Nat) (t:Tg):List Str × List Str:=bif !t.before then ([],[]) else bif !t.each then ([],[]) else (srtS (ziJ n t),srtS ((zbb t).map Se.col))
theorem zjf (n:Nat) (l:List X) (hl:zac l) (hx:∀ e∈l,XSh n e) (hB:((flX n l).flatMap vnE).length<=900000000):zab E0 S.A5 [xsl l,.fn S.Ap [.p 0 0]] [.box [.nl]] (bv true) [.box [.own 1 ((flX n l).flatMap vnE).length],.row Ty.string (((flX n l).flatMap vnE).map fun s=>[sv s]) false] :=
 zo9 0 0 Ty.string (cs:=[.nl]) rfl rfl rfl (zkm n [] l hl hx (by simpa using hB))
noncomputable def zr8 (t:Tg) (n:Nat) (k0:List Str) (i:Nat) (k:List Str):Cfg:=zan B.AS 0 [(1,.p 0 0),(4,.p 1 0),(5,.nl),(6,.fn S.Ap [.p 1 0]),(25,.sl (t.acts.map Ac.cells)),(26,iv ((t.acts.map Ac.cells).length:Nat)),(27,iv (i:Nat))] [.box t.cells,.box [.own 2 (k).length],.row Ty.string ((k).map fun s=>[sv s]) false]
theorem zh3 (t:Tg) (n:Nat) (k0:List Str) (ha:∀ a∈t.acts,AcSh n a) (hl:t.acts.length<=3) (hB:k0.length+(t.acts.flatMap (vnA n)).length<=900000000) (i:Nat) (k:List Str) (hi:i<=(t.acts).length) (hI:k=k0++(t.acts.take i).flatMap (vnA n)):∃ (k':List Str),(k'=k0++(t.acts.take (t.acts).length).flatMap (vnA n))/\(decide ((((t.acts).length:Nat):Int) < (((t.acts.map Ac.cells).length:Nat):Int))=false)/\∀ R,Good E0 B.AS [] (zr8 t n k0 (t.acts).length k') R->Good E0 B.AS [] (zr8 t n k0 i k) R:=by
 have hk:=hi;revert i k;refine zlp ((t.acts).length) (fun i hlt ih k hi hI _=>?_)
 obtain ⟨x,hx,h0,hw⟩:=zlq (l:=t.acts) ((t.acts.map Ac.cells).length) hlt
 have hax:=ha x (List.mem_of_getElem? hx);have hro:=zns hI hx hB
 exact Zih (ih (k++vnA n x) Zo (by exact znt hI hx rfl) Zo) fun R gY=>zaa (wkl [sb h0,se (zai Ac.cells hx rfl),sl [1,2] (zmz n x k hax (by first|assumption|omega|(simp;done)|(simp;omega))),si hw] [1,4,5,6,25,26,27] 3 kr gY)
theorem ziY (t:Tg) (n:Nat) (ha:∀ a∈t.acts,AcSh n a) (hl:t.acts.length<=3) (k:List Str) (hB:k.length+(t.acts.flatMap (vnA n)).length<=900000000):∃ k':List Str,k'=k++t.acts.flatMap (vnA n)/\decide (((t.acts.length:Nat):Int) < (((t.acts.map Ac.cells).length:Nat):Int))=false/\∀ R,Good E0 B.AS [] (zr8 t n k t.acts.length k') R->Good E0 B.AS [] (zr8 t n k 0 k) R:=by
 obtain ⟨k',h1,h2,h3⟩:=zh3 t n k ha hl hB 0 k Zo Zs
 exact ⟨k',by rw [h1,List.take_length],h2,h3⟩
noncomputable def L_rwS (t:Tg) (k:List Str) (l:List Se) (i:Nat) (out:List Str):Cfg:=zan B.AS 1 [(4,.p 1 0),(5,.own 3 out.length),(36,.sl (l.map Se.cells)),(37,iv ((l.map Se.cells).length:Nat)),(38,iv (i:Nat))] [.box t.cells,.box [.own 2 (k).length],.row Ty.string ((k).map fun s=>[sv s]) false,.row Ty.string ((out).map fun s=>[sv s]) false]
theorem zh4 (t:Tg) (k:List Str) (l:List Se) (hl:l.length<=6) (i:Nat) (out:List Str) (hi:i<=(l).length) (hI:out=(l.take i).map Se.col):∃ (out':List Str),(out'=(l.take (l).length).map Se.col)/\(decide ((((l).length:Nat):Int) < (((l.map Se.cells).length:Nat):Int))=false)/\∀ R,Good E0 B.AS [] (L_rwS t k l (l).length out') R->Good E0 B.AS [] (L_rwS t k l i out) R:=by
 have hk:=hi;revert i out;refine zlp ((l).length) (fun i hlt ih out hi hI _=>?_)
 obtain ⟨x,hx,h0,hw⟩:=zlq (l:=l) ((l.map Se.cells).length) hlt
 have ho:out.length<=6:=(by rw [hI,List.length_map,List.length_take];omega)
 exact Zih (ih (out++[x.col]) Zo (by (rw [List.take_add_one,hx,hI];simp)) Zo) fun R gY=>zaa (wkl [sb h0,se (zai Se.cells hx rfl),sqA (List.map (fun s=>[sv s]) out) [[sv x.col]] out.length 1 16,si hw] [4,5,36,37,38] 4 kr (zaE 5 3 (List.map (fun s=>[sv s]) out++[[sv x.col]]) gY (he:=Zcv8) (hm:=Zcv8)))
@[simp] theorem sortM_lenS (xs:List Str):(za9 xs).length=xs.length:=zhv xs
@[simp] theorem cpcZ_lenS (xs:List Str):(cpcZ xs).length=xs.length:=zlC xs
theorem zti (k:List Str):List.drop 0 (List.take (cpcS (za9 k)).length (List.map (fun s=>[sv s]) (cpcZ (za9 k))))=(srtS k).map fun s=>[sv s]:=by
 rw [List.drop_zero,← List.map_take,← zAQ]
 congr 1
 rw [cpcZ,List.take_left']
 rfl
theorem zBk {t:Tg} {n:Nat} {k o:List Str} (h1:(!t.before)=false) (h2:(!t.each)=false) (hk:k=(flX n t.when_).flatMap vnE++t.acts.flatMap (vnA n)) (ho:o=((zbb t).take (zbb t).length).map Se.col) :
  List.drop 0 (List.take (cpcS (za9 k)).length (List.map (fun s=>[sv s]) (cpcZ (za9 k))))=List.map (fun s=>[sv s]) (rowP n t).1/\List.drop 0 (List.take (cpcS (za9 o)).length (List.map (fun s=>[sv s]) (cpcZ (za9 o))))=List.map (fun s=>[sv s]) (rowP n t).2:=by
 rw [zti,zti,hk,ho,List.take_length]
 simp only [rowP,h1,h2,cond_false]
 exact ⟨rfl,trivial⟩
theorem zzv (t:Tg) (n:Nat) (ha:∀ a∈t.acts,AcSh n a) (hw:∀ x∈t.when_,XSh n x) (hal:t.acts.length<=3) (hs:∀ a∈t.acts,a.sets.length<=2) (hwl:zac t.when_) (hsl:(zbb t).length<=6) (hB:((flX n t.when_).flatMap vnE).length+(t.acts.flatMap (vnA n)).length<=30000000):∃ (r1 r2:List (List AV)),(r1=((rowP n t).1.map fun s=>[sv s])/\r2=((rowP n t).2.map fun s=>[sv s]))/\zab E0 S.AS [t.av] [] (.tup [.sl r1,.sl r2]) []:=by
 cases h1:!t.before
 ·cases h2:!t.each
  ·obtain ⟨k3,q3,q3_1,g3⟩:=ziY t n ha zeF (List.flatMap vnE (flX n t.when_)) zeF
   obtain ⟨out4,q4,q4_1,g4⟩:=zh4 t k3 (zbb t) zeF 0 ([]) zeF zeF
   exact ⟨List.drop 0 (List.take (cpcS (za9 k3)).length (List.map (fun s=>[sv s]) (cpcZ (za9 k3)))),List.drop 0 (List.take (cpcS (za9 out4)).length (List.map (fun s=>[sv s]) (cpcZ (za9 out4)))),zxd,wkc At.AS [sg h1,sb h2,sl [1] (zjf n t.when_ zeF hw zeF)] [1,4,5,6,25,26,27] 3 kr (g3 _ (zaa (wklN [sb q3_1,sc (ziz t zeF zeF)] [4,5,36,37,38] 3 [(.ot 5 Ty.string,4)] kr (g4 _ (zaa (wkrS (y:=AV.tup [AV.sl (List.drop 0 (List.take (cpcS (za9 k3)).length (List.map (fun s=>[sv s]) (cpcZ (za9 k3))))),AV.sl (List.drop 0 (List.take (cpcS (za9 out4)).length (List.map (fun s=>[sv s]) (cpcZ (za9 out4)))))]) (H:=[]) [sqx ((za9 k3).length=(List.map (fun s=>[sv s]) (cpcZ (za9 k3))).length/\(za9 out4).length=(List.map (fun s=>[sv s]) (cpcZ (za9 out4))).length/\True),sb q4_1,sl [2] (zfY k3 zeF),sl [3] (zfY out4 zeF),sl [2] (conv (args:=[AV.own 0 k3.length]) (hl:=[Blk.row Ty.string (List.map (fun s=>[sv s]) (za9 k3)) false]) (zeO (za9 k3) zeF) zsO zsO),sl [3] (conv (args:=[AV.own 0 out4.length]) (hl:=[Blk.row Ty.string (List.map (fun s=>[sv s]) (za9 out4)) false]) (zeO (za9 out4) zeF) zsO zsO)] kr ⟨Zcv8,Zcv8⟩))))))⟩
  ·exact ⟨[],[],zxd,wk At.AS [sg h1,sb h2] kr⟩
 ·exact ⟨[],[],zxd,wk At.AS [sb h1] kr⟩
def stP9 (c:Str) (k:Int) (nt:Bool) (v:V) (t n:Str) (a b:X) (u:List Qy) (tb:Str):Int × Bool :=
 bif k != 5 then
  (0,false)
 else
  bif a.kind != 2 then
   (0,false)
  else
   bif !ByteArray.toList a.name==ByteArray.toList c then
    (0,false)
   else
    bif !ByteArray.toList a.table==Zs0.toList then
     bif !ByteArray.toList a.table==ByteArray.toList tb then
      (0,false)
     else
      bif b.kind != 1 then
       (0,false)
      else
       bif b.val.kind != 1 then
        (0,false)
       else
        (3,true)
    else
     bif b.kind != 1 then
      (0,false)
     else
      bif b.val.kind != 1 then
       (0,false)
      else
       (3,true)
theorem zmt (c:Str) (k:Int) (nt:Bool) (v:V) (t n:Str) (a b:X) (u:List Qy) (tb:Str) :zab E0 S.Ao [.agg (Se.mk c (X.mk k 9 nt v t n [a,b] u)).cells,sv tb] [] (.tup [iv (stP9 c k nt v t n a b u tb).1,bv (stP9 c k nt v t n a b u tb).2]) []:=by
 unfold stP9
 cases h1:k != 5
 ·cases h2:a.kind != 2
  ·cases h3:!ByteArray.toList a.name==ByteArray.toList c
   ·cases h4:!ByteArray.toList a.table==Zs0.toList
    ·cases h5:b.kind != 1
     ·cases h6:b.val.kind != 1
      ·exact wkDs At.Ao [sg h1,sb Zf,sb Zf] 200 (zbh [(2,[se (zak (l:=[a,b]) (i:=0) (x:=a) rfl)]),(6,[se (zak (l:=[a,b]) (i:=1) (x:=b) rfl)])]) (List.replicate 8 [se (zak (l:=[a,b]) (i:=0) (x:=a) rfl),se (zak (l:=[a,b]) (i:=1) (x:=b) rfl)]) [sg h2,sg h3,sb h4,sg h5,sb h6,sb Zt] kr
      ·exact wkDs At.Ao [sg h1,sb Zf,sb Zf] 200 (zbh [(2,[se (zak (l:=[a,b]) (i:=0) (x:=a) rfl)]),(6,[se (zak (l:=[a,b]) (i:=1) (x:=b) rfl)])]) (List.replicate 8 [se (zak (l:=[a,b]) (i:=0) (x:=a) rfl),se (zak (l:=[a,b]) (i:=1) (x:=b) rfl)]) [sg h2,sg h3,sb h4,sg h5,sb h6] kr
     ·exact wkDs At.Ao [sg h1,sb Zf,sb Zf] 200 (zbh [(2,[se (zak (l:=[a,b]) (i:=0) (x:=a) rfl)]),(6,[se (zak (l:=[a,b]) (i:=1) (x:=b) rfl)])]) (List.replicate 8 [se (zak (l:=[a,b]) (i:=0) (x:=a) rfl),se (zak (l:=[a,b]) (i:=1) (x:=b) rfl)]) [sg h2,sg h3,sb h4,sb h5] kr
    ·cases h7:!ByteArray.toList a.table==ByteArray.toList tb
     ·cases h8:b.kind != 1
      ·cases h9:b.val.kind != 1
       ·exact wkDs At.Ao [sg h1,sb Zf,sb Zf] 200 (zbh [(2,[se (zak (l:=[a,b]) (i:=0) (x:=a) rfl)]),(6,[se (zak (l:=[a,b]) (i:=1) (x:=b) rfl)])]) (List.replicate 8 [se (zak (l:=[a,b]) (i:=0) (x:=a) rfl),se (zak (l:=[a,b]) (i:=1) (x:=b) rfl)]) [sg h2,sg h3,sg h4,sg h7,sg h8,sb h9,sb Zt] kr
       ·exact wkDs At.Ao [sg h1,sb Zf,sb Zf] 200 (zbh [(2,[se (zak (l:=[a,b]) (i:=0) (x:=a) rfl)]),(6,[se (zak (l:=[a,b]) (i:=1) (x:=b) rfl)])]) (List.replicate 8 [se (zak (l:=[a,b]) (i:=0) (x:=a) rfl),se (zak (l:=[a,b]) (i:=1) (x:=b) rfl)]) [sg h2,sg h3,sg h4,sg h7,sg h8,sb h9] kr
      ·exact wkDs At.Ao [sg h1,sb Zf,sb Zf] 200 (zbh [(2,[se (zak (l:=[a,b]) (i:=0) (x:=a) rfl)]),(6,[se (zak (l:=[a,b]) (i:=1) (x:=b) rfl)])]) (List.replicate 8 [se (zak (l:=[a,b]) (i:=0) (x:=a) rfl),se (zak (l:=[a,b]) (i:=1) (x:=b) rfl)]) [sg h2,sg h3,sg h4,sg h7,sb h8] kr
     ·exact wkDs At.Ao [sg h1,sb Zf,sb Zf] 200 (zbh [(2,[se (zak (l:=[a,b]) (i:=0) (x:=a) rfl)]),(6,[se (zak (l:=[a,b]) (i:=1) (x:=b) rfl)])]) (List.replicate 8 [se (zak (l:=[a,b]) (i:=0) (x:=a) rfl),se (zak (l:=[a,b]) (i:=1) (x:=b) rfl)]) [sg h2,sg h3,sg h4,sb h7] kr
   ·exact wkDs At.Ao [sg h1,sb Zf,sb Zf] 200 (zbh [(2,[se (zak (l:=[a,b]) (i:=0) (x:=a) rfl)]),(6,[se (zak (l:=[a,b]) (i:=1) (x:=b) rfl)])]) (List.replicate 8 [se (zak (l:=[a,b]) (i:=0) (x:=a) rfl),se (zak (l:=[a,b]) (i:=1) (x:=b) rfl)]) [sg h2,sb h3] kr
  ·exact wkDs At.Ao [sg h1,sb Zf,sb Zf] 200 (zbh [(2,[se (zak (l:=[a,b]) (i:=0) (x:=a) rfl)]),(6,[se (zak (l:=[a,b]) (i:=1) (x:=b) rfl)])]) (List.replicate 8 [se (zak (l:=[a,b]) (i:=0) (x:=a) rfl),se (zak (l:=[a,b]) (i:=1) (x:=b) rfl)]) [sb h2] kr
 ·exact wk At.Ao [sb h1] kr
def zsQ (c:Str) (k:Int) (nt:Bool) (v:V) (t n:Str) (a b:X) (u:List Qy) (tb:Str):Int × Bool :=
 bif k != 5 then
  (0,false)
 else
  bif a.kind != 2 then
   (0,false)
  else
   bif !ByteArray.toList a.name==ByteArray.toList c then
    (0,false)
   else
    bif !ByteArray.toList a.table==Zs0.toList then
     bif !ByteArray.toList a.table==ByteArray.toList tb then
      (0,false)
     else
      bif b.kind != 1 then
       (0,false)
      else
       bif b.val.kind != 1 then
        (0,false)
       else
        (4,true)
    else
     bif b.kind != 1 then
      (0,false)
     else
      bif b.val.kind != 1 then
       (0,false)
      else
       (4,true)
theorem zlJ (c:Str) (k:Int) (nt:Bool) (v:V) (t n:Str) (a b:X) (u:List Qy) (tb:Str) :zab E0 S.Ao [.agg (Se.mk c (X.mk k 10 nt v t n [a,b] u)).cells,sv tb] [] (.tup [iv (zsQ c k nt v t n a b u tb).1,bv (zsQ c k nt v t n a b u tb).2]) []:=by
 unfold zsQ
 cases h1:k != 5
 ·cases h2:a.kind != 2
  ·cases h3:!ByteArray.toList a.name==ByteArray.toList c
   ·cases h4:!ByteArray.toList a.table==Zs0.toList
    ·cases h5:b.kind != 1
     ·cases h6:b.val.kind != 1
      ·exact wkDs At.Ao [sg h1,sg Zt,sg Zf,sb Zf] 200 (zbh [(2,[se (zak (l:=[a,b]) (i:=0) (x:=a) rfl)]),(6,[se (zak (l:=[a,b]) (i:=1) (x:=b) rfl)])]) (List.replicate 8 [se (zak (l:=[a,b]) (i:=0) (x:=a) rfl),se (zak (l:=[a,b]) (i:=1) (x:=b) rfl)]) [sg h2,sg h3,sb h4,sg h5,sb h6,sb Zf] kr
      ·exact wkDs At.Ao [sg h1,sg Zt,sg Zf,sb Zf] 200 (zbh [(2,[se (zak (l:=[a,b]) (i:=0) (x:=a) rfl)]),(6,[se (zak (l:=[a,b]) (i:=1) (x:=b) rfl)])]) (List.replicate 8 [se (zak (l:=[a,b]) (i:=0) (x:=a) rfl),se (zak (l:=[a,b]) (i:=1) (x:=b) rfl)]) [sg h2,sg h3,sb h4,sg h5,sb h6] kr
     ·exact wkDs At.Ao [sg h1,sg Zt,sg Zf,sb Zf] 200 (zbh [(2,[se (zak (l:=[a,b]) (i:=0) (x:=a) rfl)]),(6,[se (zak (l:=[a,b]) (i:=1) (x:=b) rfl)])]) (List.replicate 8 [se (zak (l:=[a,b]) (i:=0) (x:=a) rfl),se (zak (l:=[a,b]) (i:=1) (x:=b) rfl)]) [sg h2,sg h3,sb h4,sb h5] kr
    ·cases h7:!ByteArray.toList a.table==ByteArray.toList tb
     ·cases h8:b.kind != 1
      ·cases h9:b.val.kind != 1
       ·exact wkDs At.Ao [sg h1,sg Zt,sg Zf,sb Zf] 200 (zbh [(2,[se (zak (l:=[a,b]) (i:=0) (x:=a) rfl)]),(6,[se (zak (l:=[a,b]) (i:=1) (x:=b) rfl)])]) (List.replicate 8 [se (zak (l:=[a,b]) (i:=0) (x:=a) rfl),se (zak (l:=[a,b]) (i:=1) (x:=b) rfl)]) [sg h2,sg h3,sg h4,sg h7,sg h8,sb h9,sb Zf] kr
       ·exact wkDs At.Ao [sg h1,sg Zt,sg Zf,sb Zf] 200 (zbh [(2,[se (zak (l:=[a,b]) (i:=0) (x:=a) rfl)]),(6,[se (zak (l:=[a,b]) (i:=1) (x:=b) rfl)])]) (List.replicate 8 [se (zak (l:=[a,b]) (i:=0) (x:=a) rfl),se (zak (l:=[a,b]) (i:=1) (x:=b) rfl)]) [sg h2,sg h3,sg h4,sg h7,sg h8,sb h9] kr
      ·exact wkDs At.Ao [sg h1,sg Zt,sg Zf,sb Zf] 200 (zbh [(2,[se (zak (l:=[a,b]) (i:=0) (x:=a) rfl)]),(6,[se (zak (l:=[a,b]) (i:=1) (x:=b) rfl)])]) (List.replicate 8 [se (zak (l:=[a,b]) (i:=0) (x:=a) rfl),se (zak (l:=[a,b]) (i:=1) (x:=b) rfl)]) [sg h2,sg h3,sg h4,sg h7,sb h8] kr
     ·exact wkDs At.Ao [sg h1,sg Zt,sg Zf,sb Zf] 200 (zbh [(2,[se (zak (l:=[a,b]) (i:=0) (x:=a) rfl)]),(6,[se (zak (l:=[a,b]) (i:=1) (x:=b) rfl)])]) (List.replicate 8 [se (zak (l:=[a,b]) (i:=0) (x:=a) rfl),se (zak (l:=[a,b]) (i:=1) (x:=b) rfl)]) [sg h2,sg h3,sg h4,sb h7] kr
   ·exact wkDs At.Ao [sg h1,sg Zt,sg Zf,sb Zf] 200 (zbh [(2,[se (zak (l:=[a,b]) (i:=0) (x:=a) rfl)]),(6,[se (zak (l:=[a,b]) (i:=1) (x:=b) rfl)])]) (List.replicate 8 [se (zak (l:=[a,b]) (i:=0) (x:=a) rfl),se (zak (l:=[a,b]) (i:=1) (x:=b) rfl)]) [sg h2,sb h3] kr
  ·exact wkDs At.Ao [sg h1,sg Zt,sg Zf,sb Zf] 200 (zbh [(2,[se (zak (l:=[a,b]) (i:=0) (x:=a) rfl)]),(6,[se (zak (l:=[a,b]) (i:=1) (x:=b) rfl)])]) (List.replicate 8 [se (zak (l:=[a,b]) (i:=0) (x:=a) rfl),se (zak (l:=[a,b]) (i:=1) (x:=b) rfl)]) [sb h2] kr
 ·exact wk At.Ao [sb h1] kr
theorem c_stPx (c:Str) (e:X) (tb:Str) (h9:(e.op != 9)=true) (h10:(e.op != 10)=true):∃ (i:Int) (ok:Bool),(i=0/\ok=false)/\zab E0 S.Ao [.agg (Se.mk c e).cells,sv tb] [] (.tup [iv i,bv ok]) []:=by
 cases h1:e.kind != 5
 ·exact ⟨0,false,Zj,wk At.Ao [sg h1,sg h9,sb h10] kr⟩
 ·exact ⟨0,false,Zj,wk At.Ao [sb h1] kr⟩
theorem c_stP0 (c:Str) (e:X) (tb:Str) (hn:(((zad e.args).length:Int) != 2)=true):∃ (i:Int) (ok:Bool),(i=0/\ok=false)/\zab E0 S.Ao [.agg (Se.mk c e).cells,sv tb] [] (.tup [iv i,bv ok]) []:=by
 cases h1:e.kind != 5
 ·cases h2:e.op != 9
  ·exact ⟨0,false,Zj,wk At.Ao [sg h1,sb h2,sb hn] kr⟩
  ·cases h3:e.op != 10
   ·exact ⟨0,false,Zj,wk At.Ao [sg h1,sg h2,sg h3,sb hn] kr⟩
   ·exact ⟨0,false,Zj,wk At.Ao [sg h1,sg h2,sb h3] kr⟩
 ·exact ⟨0,false,Zj,wk At.Ao [sb h1] kr⟩
def stR9 (c:Str) (k:Int) (nt:Bool) (v:V) (t n:Str) (a b:X) (u:List Qy) (tb:Str):Int × Bool :=
 bif k != 5 then
  (0,false)
 else
  bif a.kind != 2 then
   (0,false)
  else
   bif !ByteArray.toList a.name==ByteArray.toList c then
    (0,false)
   else
    bif !ByteArray.toList a.table==Zs0.toList then
     bif !ByteArray.toList a.table==ByteArray.toList tb then
      (0,false)
     else
      bif b.kind != 1 then
       (0,false)
      else
       bif b.val.kind != 1 then
        (0,false)
       else
        (3,true)
    else
     bif b.kind != 1 then
      (0,false)
     else
      bif b.val.kind != 1 then
       (0,false)
      else
       (3,true)
theorem zpC (c:Str) (k:Int) (nt:Bool) (v:V) (t n:Str) (a b:X) (u:List Qy) (tb:Str) :zab E0 S.Av [(X.mk k 9 nt v t n [a,b] u).av,sv tb,sv c] [] (.tup [iv (stR9 c k nt v t n a b u tb).1,bv (stR9 c k nt v t n a b u tb).2]) []:=by
 unfold stR9
 cases h1:k != 5
 ·cases h2:a.kind != 2
  ·cases h3:!ByteArray.toList a.name==ByteArray.toList c
   ·cases h4:!ByteArray.toList a.table==Zs0.toList
    ·cases h5:b.kind != 1
     ·cases h6:b.val.kind != 1
      ·exact wkDs At.Av [sg h1,sb Zf,sb Zf] 200 (zbh [(2,[se (zak (l:=[a,b]) (i:=0) (x:=a) rfl)]),(6,[se (zak (l:=[a,b]) (i:=1) (x:=b) rfl)])]) (List.replicate 8 [se (zak (l:=[a,b]) (i:=0) (x:=a) rfl),se (zak (l:=[a,b]) (i:=1) (x:=b) rfl)]) [sg h2,sg h3,sb h4,sg h5,sb h6,sb Zt] kr
      ·exact wkDs At.Av [sg h1,sb Zf,sb Zf] 200 (zbh [(2,[se (zak (l:=[a,b]) (i:=0) (x:=a) rfl)]),(6,[se (zak (l:=[a,b]) (i:=1) (x:=b) rfl)])]) (List.replicate 8 [se (zak (l:=[a,b]) (i:=0) (x:=a) rfl),se (zak (l:=[a,b]) (i:=1) (x:=b) rfl)]) [sg h2,sg h3,sb h4,sg h5,sb h6] kr
     ·exact wkDs At.Av [sg h1,sb Zf,sb Zf] 200 (zbh [(2,[se (zak (l:=[a,b]) (i:=0) (x:=a) rfl)]),(6,[se (zak (l:=[a,b]) (i:=1) (x:=b) rfl)])]) (List.replicate 8 [se (zak (l:=[a,b]) (i:=0) (x:=a) rfl),se (zak (l:=[a,b]) (i:=1) (x:=b) rfl)]) [sg h2,sg h3,sb h4,sb h5] kr
    ·cases h7:!ByteArray.toList a.table==ByteArray.toList tb
     ·cases h8:b.kind != 1
      ·cases h9:b.val.kind != 1
       ·exact wkDs At.Av [sg h1,sb Zf,sb Zf] 200 (zbh [(2,[se (zak (l:=[a,b]) (i:=0) (x:=a) rfl)]),(6,[se (zak (l:=[a,b]) (i:=1) (x:=b) rfl)])]) (List.replicate 8 [se (zak (l:=[a,b]) (i:=0) (x:=a) rfl),se (zak (l:=[a,b]) (i:=1) (x:=b) rfl)]) [sg h2,sg h3,sg h4,sg h7,sg h8,sb h9,sb Zt] kr
       ·exact wkDs At.Av [sg h1,sb Zf,sb Zf] 200 (zbh [(2,[se (zak (l:=[a,b]) (i:=0) (x:=a) rfl)]),(6,[se (zak (l:=[a,b]) (i:=1) (x:=b) rfl)])]) (List.replicate 8 [se (zak (l:=[a,b]) (i:=0) (x:=a) rfl),se (zak (l:=[a,b]) (i:=1) (x:=b) rfl)]) [sg h2,sg h3,sg h4,sg h7,sg h8,sb h9] kr
      ·exact wkDs At.Av [sg h1,sb Zf,sb Zf] 200 (zbh [(2,[se (zak (l:=[a,b]) (i:=0) (x:=a) rfl)]),(6,[se (zak (l:=[a,b]) (i:=1) (x:=b) rfl)])]) (List.replicate 8 [se (zak (l:=[a,b]) (i:=0) (x:=a) rfl),se (zak (l:=[a,b]) (i:=1) (x:=b) rfl)]) [sg h2,sg h3,sg h4,sg h7,sb h8] kr
     ·exact wkDs At.Av [sg h1,sb Zf,sb Zf] 200 (zbh [(2,[se (zak (l:=[a,b]) (i:=0) (x:=a) rfl)]),(6,[se (zak (l:=[a,b]) (i:=1) (x:=b) rfl)])]) (List.replicate 8 [se (zak (l:=[a,b]) (i:=0) (x:=a) rfl),se (zak (l:=[a,b]) (i:=1) (x:=b) rfl)]) [sg h2,sg h3,sg h4,sb h7] kr
   ·exact wkDs At.Av [sg h1,sb Zf,sb Zf] 200 (zbh [(2,[se (zak (l:=[a,b]) (i:=0) (x:=a) rfl)]),(6,[se (zak (l:=[a,b]) (i:=1) (x:=b) rfl)])]) (List.replicate 8 [se (zak (l:=[a,b]) (i:=0) (x:=a) rfl),se (zak (l:=[a,b]) (i:=1) (x:=b) rfl)]) [sg h2,sb h3] kr
  ·exact wkDs At.Av [sg h1,sb Zf,sb Zf] 200 (zbh [(2,[se (zak (l:=[a,b]) (i:=0) (x:=a) rfl)]),(6,[se (zak (l:=[a,b]) (i:=1) (x:=b) rfl)])]) (List.replicate 8 [se (zak (l:=[a,b]) (i:=0) (x:=a) rfl),se (zak (l:=[a,b]) (i:=1) (x:=b) rfl)]) [sb h2] kr
 ·exact wk At.Av [sb h1] kr
def zxi (c:Str) (k:Int) (nt:Bool) (v:V) (t n:Str) (a b:X) (u:List Qy) (tb:Str):Int × Bool :=
 bif k != 5 then
  (0,false)
 else
  bif a.kind != 2 then
   (0,false)
  else
   bif !ByteArray.toList a.name==ByteArray.toList c then
    (0,false)
   else
    bif !ByteArray.toList a.table==Zs0.toList then
     bif !ByteArray.toList a.table==ByteArray.toList tb then
      (0,false)
     else
      bif b.kind != 1 then
       (0,false)
      else
       bif b.val.kind != 1 then
        (0,false)
       else
        (4,true)
    else
     bif b.kind != 1 then
      (0,false)
     else
      bif b.val.kind != 1 then
       (0,false)
      else
       (4,true)
theorem zoH (c:Str) (k:Int) (nt:Bool) (v:V) (t n:Str) (a b:X) (u:List Qy) (tb:Str) :zab E0 S.Av [(X.mk k 10 nt v t n [a,b] u).av,sv tb,sv c] [] (.tup [iv (zxi c k nt v t n a b u tb).1,bv (zxi c k nt v t n a b u tb).2]) []:=by
 unfold zxi
 cases h1:k != 5
 ·cases h2:a.kind != 2
  ·cases h3:!ByteArray.toList a.name==ByteArray.toList c
   ·cases h4:!ByteArray.toList a.table==Zs0.toList
    ·cases h5:b.kind != 1
     ·cases h6:b.val.kind != 1
      ·exact wkDs At.Av [sg h1,sg Zt,sg Zf,sb Zf] 200 (zbh [(2,[se (zak (l:=[a,b]) (i:=0) (x:=a) rfl)]),(6,[se (zak (l:=[a,b]) (i:=1) (x:=b) rfl)])]) (List.replicate 8 [se (zak (l:=[a,b]) (i:=0) (x:=a) rfl),se (zak (l:=[a,b]) (i:=1) (x:=b) rfl)]) [sg h2,sg h3,sb h4,sg h5,sb h6,sb Zf] kr
      ·exact wkDs At.Av [sg h1,sg Zt,sg Zf,sb Zf] 200 (zbh [(2,[se (zak (l:=[a,b]) (i:=0) (x:=a) rfl)]),(6,[se (zak (l:=[a,b]) (i:=1) (x:=b) rfl)])]) (List.replicate 8 [se (zak (l:=[a,b]) (i:=0) (x:=a) rfl),se (zak (l:=[a,b]) (i:=1) (x:=b) rfl)]) [sg h2,sg h3,sb h4,sg h5,sb h6] kr
     ·exact wkDs At.Av [sg h1,sg Zt,sg Zf,sb Zf] 200 (zbh [(2,[se (zak (l:=[a,b]) (i:=0) (x:=a) rfl)]),(6,[se (zak (l:=[a,b]) (i:=1) (x:=b) rfl)])]) (List.replicate 8 [se (zak (l:=[a,b]) (i:=0) (x:=a) rfl),se (zak (l:=[a,b]) (i:=1) (x:=b) rfl)]) [sg h2,sg h3,sb h4,sb h5] kr
    ·cases h7:!ByteArray.toList a.table==ByteArray.toList tb
     ·cases h8:b.kind != 1
      ·cases h9:b.val.kind != 1
       ·exact wkDs At.Av [sg h1,sg Zt,sg Zf,sb Zf] 200 (zbh [(2,[se (zak (l:=[a,b]) (i:=0) (x:=a) rfl)]),(6,[se (zak (l:=[a,b]) (i:=1) (x:=b) rfl)])]) (List.replicate 8 [se (zak (l:=[a,b]) (i:=0) (x:=a) rfl),se (zak (l:=[a,b]) (i:=1) (x:=b) rfl)]) [sg h2,sg h3,sg h4,sg h7,sg h8,sb h9,sb Zf] kr
       ·exact wkDs At.Av [sg h1,sg Zt,sg Zf,sb Zf] 200 (zbh [(2,[se (zak (l:=[a,b]) (i:=0) (x:=a) rfl)]),(6,[se (zak (l:=[a,b]) (i:=1) (x:=b) rfl)])]) (List.replicate 8 [se (zak (l:=[a,b]) (i:=0) (x:=a) rfl),se (zak (l:=[a,b]) (i:=1) (x:=b) rfl)]) [sg h2,sg h3,sg h4,sg h7,sg h8,sb h9] kr
      ·exact wkDs At.Av [sg h1,sg Zt,sg Zf,sb Zf] 200 (zbh [(2,[se (zak (l:=[a,b]) (i:=0) (x:=a) rfl)]),(6,[se (zak (l:=[a,b]) (i:=1) (x:=b) rfl)])]) (List.replicate 8 [se (zak (l:=[a,b]) (i:=0) (x:=a) rfl),se (zak (l:=[a,b]) (i:=1) (x:=b) rfl)]) [sg h2,sg h3,sg h4,sg h7,sb h8] kr
     ·exact wkDs At.Av [sg h1,sg Zt,sg Zf,sb Zf] 200 (zbh [(2,[se (zak (l:=[a,b]) (i:=0) (x:=a) rfl)]),(6,[se (zak (l:=[a,b]) (i:=1) (x:=b) rfl)])]) (List.replicate 8 [se (zak (l:=[a,b]) (i:=0) (x:=a) rfl),se (zak (l:=[a,b]) (i:=1) (x:=b) rfl)]) [sg h2,sg h3,sg h4,sb h7] kr
   ·exact wkDs At.Av [sg h1,sg Zt,sg Zf,sb Zf] 200 (zbh [(2,[se (zak (l:=[a,b]) (i:=0) (x:=a) rfl)]),(6,[se (zak (l:=[a,b]) (i:=1) (x:=b) rfl)])]) (List.replicate 8 [se (zak (l:=[a,b]) (i:=0) (x:=a) rfl),se (zak (l:=[a,b]) (i:=1) (x:=b) rfl)]) [sg h2,sb h3] kr
  ·exact wkDs At.Av [sg h1,sg Zt,sg Zf,sb Zf] 200 (zbh [(2,[se (zak (l:=[a,b]) (i:=0) (x:=a) rfl)]),(6,[se (zak (l:=[a,b]) (i:=1) (x:=b) rfl)])]) (List.replicate 8 [se (zak (l:=[a,b]) (i:=0) (x:=a) rfl),se (zak (l:=[a,b]) (i:=1) (x:=b) rfl)]) [sb h2] kr
 ·exact wk At.Av [sb h1] kr
theorem c_stRx (c:Str) (e:X) (tb:Str) (h9:(e.op != 9)=true) (h10:(e.op != 10)=true):∃ (i:Int) (ok:Bool),(i=0/\ok=false)/\zab E0 S.Av [e.av,sv tb,sv c] [] (.tup [iv i,bv ok]) []:=by
 cases h1:e.kind != 5
 ·exact ⟨0,false,Zj,wk At.Av [sg h1,sg h9,sb h10] kr⟩
 ·exact ⟨0,false,Zj,wk At.Av [sb h1] kr⟩
theorem c_stR0 (c:Str) (e:X) (tb:Str) (hn:(((zad e.args).length:Int) != 2)=true):∃ (i:Int) (ok:Bool),(i=0/\ok=false)/\zab E0 S.Av [e.av,sv tb,sv c] [] (.tup [iv i,bv ok]) []:=by
 cases h1:e.kind != 5
 ·cases h2:e.op != 9
  ·exact ⟨0,false,Zj,wk At.Av [sg h1,sb h2,sb hn] kr⟩
  ·cases h3:e.op != 10
   ·exact ⟨0,false,Zj,wk At.Av [sg h1,sg h2,sg h3,sb hn] kr⟩
   ·exact ⟨0,false,Zj,wk At.Av [sg h1,sg h2,sb h3] kr⟩
 ·exact ⟨0,false,Zj,wk At.Av [sb h1] kr⟩
theorem ze6 {p:Prop} (h:p:=by first|assumption|omega|(simp;done)|(simp;omega)):p:=h
def zbC (x:Se) (tb:Str):Int × Bool:=match x.ex with
 | .mk k o nt v t n [a,b] u=>bif o==9 then stP9 x.col k nt v t n a b u tb else bif o==10 then zsQ x.col k nt v t n a b u tb else (0,false)
 | _=>(0,false)
theorem zvF {c:Str} {e:X} {tb:Str} (h:(((zad e.args).length:Int) != 2)=true):zbC ⟨c,e⟩ tb=(0,false):=by
 cases e with
 | mk k o nt v t n l u =>
  cases l with
  | nil=>rfl
  | cons a l =>
   cases l with
   | nil=>rfl
   | cons b l =>
    cases l with
    | nil=>simp at h
    | cons d l=>rfl
theorem zoC (x:Se) (tb:Str):zab E0 S.Ao [.agg x.cells,sv tb] [] (.tup [iv (zbC x tb).1,bv (zbC x tb).2]) []:=by
 obtain ⟨c,e⟩:=x
 cases hn:(((zad e.args).length:Int) != 2)
 ·cases e with
  | mk k o nt v t n l u =>
   match l,hn with
   | [],hn=>simp at hn
   | [a],hn=>simp at hn
   | [a,b],_ =>
    by_cases h9:o=9
    ·subst h9;exact zmt c k nt v t n a b u tb
    ·by_cases h10:o=10
     ·subst h10;exact zlJ c k nt v t n a b u tb
     ·obtain ⟨i,ok,⟨rfl,rfl⟩,h⟩:=c_stPx c (X.mk k o nt v t n [a,b] u) tb (by simpa using h9) (by simpa using h10)
      have e:zbC ⟨c,X.mk k o nt v t n [a,b] u⟩ tb=(0,false):=by
       simp only [zbC]
       rw [show (o==9)=false by simpa using h9,show (o==10)=false by simpa using h10];rfl
      rw [e];exact h
   | a::b::d::l,hn=>simp at hn;omega
 ·obtain ⟨i,ok,⟨rfl,rfl⟩,h⟩:=c_stP0 c e tb hn
  rw [zvF hn];exact h
theorem ztH (c:Str) (e:X) (tb:Str):zab E0 S.Av [e.av,sv tb,sv c] [] (.tup [iv (zbC ⟨c,e⟩ tb).1,bv (zbC ⟨c,e⟩ tb).2]) []:=by
 cases hn:(((zad e.args).length:Int) != 2)
 ·cases e with
  | mk k o nt v t n l u =>
   match l,hn with
   | [],hn=>simp at hn
   | [a],hn=>simp at hn
   | [a,b],_ =>
    by_cases h9:o=9
    ·subst h9;exact zpC c k nt v t n a b u tb
    ·by_cases h10:o=10
     ·subst h10;exact zoH c k nt v t n a b u tb
     ·obtain ⟨i,ok,⟨rfl,rfl⟩,h⟩:=c_stRx c (X.mk k o nt v t n [a,b] u) tb (by simpa using h9) (by simpa using h10)
      have e:zbC ⟨c,X.mk k o nt v t n [a,b] u⟩ tb=(0,false):=by
       simp only [zbC]
       rw [show (o==9)=false by simpa using h9,show (o==10)=false by simpa using h10];rfl
      rw [e];exact h
   | a::b::d::l,hn=>simp at hn;omega
 ·obtain ⟨i,ok,⟨rfl,rfl⟩,h⟩:=c_stR0 c e tb hn
  rw [zvF hn];exact h
def zcY (m:List Tb) (q:Qy):List Acc:=bif q.star then (knS m q.frm).1.cols.map fun c=>⟨q.frm,c.name,1⟩ else []
theorem zrq {l:List Col} {f:Str} {b b2:Bool} {k0 k k2:List Acc} {i:Nat} {x:Col} (hI:k=zae k0 (bif b then (l.take i).map fun c=>(⟨f,c.name,1⟩:Acc) else [])) (hx:l[i]?=some x) (hb:b=b2) (ho:k2=bif b2 then addK k ⟨f,x.name,1⟩ else k):k2=zae k0 (bif b then (l.take (i+1)).map fun c=>(⟨f,c.name,1⟩:Acc) else []):=by
 subst hb
 rw [ho,hI]
 cases b
 ·rfl
 ·simp only [cond_true,List.take_add_one,hx,Option.toList_some,List.map_append,List.map_cons,List.map_nil,zhO]
noncomputable def L_st (m:List Tb) (kz k0:List Acc) (q:Qy) (s:Sch) (b:Bool) (i:Nat) (ks:List Acc):Cfg:=zan B.Aw 0 [(0,.p 0 0),(3,.p 2 0),(16,.sl (s.cols.map Col.cells)),(17,iv ((s.cols.map Col.cells).length:Nat)),(18,iv (i:Nat))] [.box [tsl m,.mp 1],.mp (ks.map itA),.box q.cells]
theorem zeH (m:List Tb) (kz k0:List Acc) (q:Qy) (s:Sch) (b:Bool) (hb:q.star=b) (hk0:AccS k0) (hl:zac s.cols) (i:Nat) (ks:List Acc) (hi:i<=(s.cols).length) (hI:ks=zae k0 (bif b then (s.cols.take i).map fun c=>⟨q.frm,c.name,1⟩ else [])):∃ (ks':List Acc),(ks'=zae k0 (bif b then (s.cols.take (s.cols).length).map fun c=>⟨q.frm,c.name,1⟩ else []))/\(decide ((((s.cols).length:Nat):Int) < (((s.cols.map Col.cells).length:Nat):Int))=false)/\∀ R,Good E0 B.Aw [.box [tsl m,.mp 1],.mp (kz.map itA)] (L_st m kz k0 q s b (s.cols).length ks') R->Good E0 B.Aw [.box [tsl m,.mp 1],.mp (kz.map itA)] (L_st m kz k0 q s b i ks) R:=by
 have hk:=hi;revert i ks;refine zlp ((s.cols).length) (fun i hlt ih ks hi hI _=>?_)
 obtain ⟨x,hx,h0,hw⟩:=zlq (l:=s.cols) ((s.cols.map Col.cells).length) hlt
 have hks:AccS ks:=(by rw [hI];exact hk0.all _)
 let p_1:List St:=[sb h0,se (zai Col.cells hx rfl)]
 cases h1:q.star
 ·exact Zih (ih ks Zo (by exact zrq hI hx (hb.symm.trans ‹_›) rfl) Zo) fun R gY=>zaa (wkl (p_1++[sb h1,si hw]) [0,3,16,17,18] 3 kr gY)
 ·exact Zih (ih (addK ks (Acc.mk q.frm x.name 1)) Zo (by exact zrq hI hx (hb.symm.trans ‹_›) rfl) Zo) fun R gY=>zaa (wkl (p_1++[sb h1,sl [0,1] (zaI m ks q.frm x.name 1 ze6),si hw]) [0,3,16,17,18] 3 kr gY)
theorem zeG (m:List Tb) (kz:List Acc) (q:Qy) (s:Sch) (b:Bool) (hb:q.star=b) (hl:zac s.cols) (ks:List Acc) (hks:AccS ks):∃ (ks':List Acc),(ks'=zae ks (bif b then s.cols.map fun c=>⟨q.frm,c.name,1⟩ else []))/\decide (((s.cols.length:Nat):Int) < (((s.cols.map Col.cells).length:Nat):Int))=false/\∀ R,Good E0 B.Aw [.box [tsl m,.mp 1],.mp (kz.map itA)] (L_st m kz ks q s b s.cols.length ks') R->Good E0 B.Aw [.box [tsl m,.mp 1],.mp (kz.map itA)] (L_st m kz ks q s b 0 ks) R:=by
 obtain ⟨k',h1,h2,h3⟩:=zeH m kz ks q s b hb hks hl 0 ks Zo (by cases b <;> simp [zae])
 exact ⟨k',by rw [h1,List.take_length],h2,h3⟩
theorem zxN (m:List Tb) (ks:List Acc) (q:Qy) (b:Bool) (hb:q.star=b) (hm:zac m) (hc:∀ x∈m,zac x.sch.cols) (hs:AccS ks) (hk:zac (knS m q.frm).1.cols):∃ (r:List Acc),r=zae ks (zcY m q)/\zab E0 S.Aw [.p 0 0,q.av] [.box [tsl m,.mp 1],.mp (ks.map itA)] (.tup []) [.box [tsl m,.mp 1],.mp (r.map itA)]:=by
 obtain ⟨ks1,q1,q1_1,g1⟩:=zeG m ks q ((knS m q.frm).fst) b hb ze6 ks ze6
 exact ⟨ks1,(by (unfold zcY;rw [hb];assumption)),wkc At.Aw [sl [0,1] (zb4 m q.frm (List.map itA ks) ze6 ze6)] [0,3,16,17,18] 3 kr (g1 _ (zaa (wkrE [sb q1_1] kr)))⟩
theorem zhD (m:List Tb) (ks:List Acc) (q:Qy) (ht:FpC m) (hks:zac (knS m q.frm).1.cols) (hs:AccS ks):zab E0 S.Aw [.p 0 0,q.av] [.box [tsl m,.mp 1],.mp (ks.map itA)] (.tup []) [.box [tsl m,.mp 1],.mp ((zae ks (zcY m q)).map itA)]:=by
 obtain ⟨r,rfl,h⟩:=zxN m ks q _ rfl ht.short ht.cols hs hks
 exact h
theorem zfU (t:Tg) (n:Nat) (hn:n<=6) (h:TgLi n t):zab E0 S.AS [t.av] [] (.tup [ssl (rowP n t).1,ssl (rowP n t).2]) []:=by
 have hb:=zpR h hn
 obtain ⟨r1,r2,⟨rfl,rfl⟩,hc⟩:=zzv t n (fun a ha=>(h.act a ha).sh) (fun x hx=>(h.wh x hx).sh) h.acts h.sets (by have:=h.whl;simp only [zac];omega) (znl h.acts h.sets) (by simpa only [ziJ,List.length_append] using hb)
 exact hc
theorem zlU {t:Tg} {n:Nat} (hn:n<=6) (h:TgLi n t):zac (rowP n t).1/\zac (rowP n t).2:=by
 have h1:=zpR h hn
 have h2:=znl h.acts h.sets
 have h3:=zoS (ziJ n t)
 have h4:=zoS ((zbb t).map Se.col)
 rw [List.length_map] at h4
 unfold rowP
 cases !t.before <;> cases !t.each <;> simp only [cond_true,cond_false,zac,List.length_nil] <;> omega
theorem zzs (t:Tg) (x:Se) (n:Nat) (hn:n<=6) (ht:TgLi n t) (h2:zac (rowP n t).2):∃ (r:Bool),r=hasS (rowP n t).2 x.col/\zab E0 S.AY [t.av,.p 0 0] [.box x.cells] (bv r) [.box x.cells]:=by
 exact ⟨hasS (rowP n t).snd x.col,Zr,wk At.AY [sc (zfU t n hn ze6),sc (zeo ((rowP n t).snd) x.col ze6)] kr⟩
noncomputable def zv2 (g:FuncId) (p:Tg->Bool) (x0:Se) (ts:List Tg) (i:Nat) :Cfg:=zan B.AK 0 [(0,.sl (ts.map Tg.cells)),(1,.fn g [.p 0 0]),(7,iv ((ts.map Tg.cells).length:Nat)),(8,iv (i:Nat))] [.box x0.cells]
theorem zez (g:FuncId) (p:Tg->Bool) (x0:Se) (ts:List Tg) (hl:zac ts) (hp:∀ t∈ts,zab E0 g [t.av,.p 0 0] [.box x0.cells] (bv (p t)) [.box x0.cells]) (i:Nat)  (hi:i<=(ts).length) (hI:(ts.take i).any p=false):(((ts.take (ts).length).any p=false)/\(decide ((((ts).length:Nat):Int) < (((ts.map Tg.cells).length:Nat):Int))=false)/\∀ R,Good E0 B.AK [.box x0.cells] (zv2 g p x0 ts (ts).length ) R->Good E0 B.AK [.box x0.cells] (zv2 g p x0 ts i ) R)\/(∃ (r:Int),(decide (0<=r)=ts.any p)/\Good E0 B.AK [.box x0.cells] (zv2 g p x0 ts i ) (Shut 1 fun rZ hZ=>rZ=(iv r)/\hZ=[.box x0.cells])):=by
 have hk:=hi;revert i;refine zlp ((ts).length) (fun i hlt ih hi hI _=>?_)
 obtain ⟨x,hx,h0,hw⟩:=zlq (l:=ts) ((ts.map Tg.cells).length) hlt
 have hpx:=hp x (List.mem_of_getElem? hx)
 let p_1:List St:=[sb h0,se (zai Tg.cells hx rfl),sl [0] hpx]
 cases h1:p x
 ·exact zie2 (ih Zo (by (rw [List.take_add_one,hx,List.any_append,hI];simp [*])) Zo) fun R gY=>zaa (wkl (p_1++[sb h1,si hw]) [0,1,7,8] 1 kr gY)
 ·exact .inr ⟨(i:Int),(by (rw [show (ts.any p)=true from List.any_eq_true.2 ⟨x,List.mem_of_getElem? hx,by assumption⟩];simp)),zaa (wkr (p_1++[sb h1]) kr)⟩
theorem c_ixT (g:FuncId) (p:Tg->Bool) (x0:Se) (ts:List Tg) (hl:zac ts) (hp:∀ t∈ts,zab E0 g [t.av,.p 0 0] [.box x0.cells] (bv (p t)) [.box x0.cells]):∃ (r:Int),(decide (0<=r)=ts.any p)/\zab E0 S.AK [.sl (ts.map Tg.cells),.fn g [.p 0 0]] [.box x0.cells] (iv r) [.box x0.cells]:=by
 rcases zez g p x0 ts ze6 hp 0 ze6 ze6 with ⟨q1,q1_1,g1⟩|⟨r1_0,p1_0,g1⟩
 ·exact ⟨-1,(by first|assumption|(rw [List.take_length] at *;rw [(by assumption:ts.any p=false)];rfl)),wkc At.AK [] [0,1,7,8] 1 kr (g1 _ (zaa (wkr [sb q1_1] kr)))⟩
 ·exact ⟨r1_0,(by first|assumption|(rw [List.take_length] at *;rw [(by assumption:ts.any p=false)];rfl)),wkc At.AK [] [0,1,7,8] 1 kr (g1)⟩
theorem zdV {p:Prop} (h:p:=by first|assumption|exact zbc ‹_›|exact zbc (zbc ‹_›)|(simp;done)):p:=h
theorem zeu {p:Prop} (h:p:=by first|assumption|exact zc0 ‹_›|exact zbc ‹_›|(simp;done)):p:=h
theorem znh {p:Prop} (h:p:=by (simp only [asgP, *,cond_true,cond_false];first|done|rfl)):p:=h
theorem zla {p:Prop} (h:p:=by first|(simp;done)|(simp [X.cells];done)):p:=h
theorem zt8 {p:Prop} (h:p:=by (simp only [befP, *,cond_true,cond_false,List.append_nil,zaP])):p:=h
theorem c_cfT (g:FuncId) (b:Bool) (x0:Se) (ts:List Tg) (hi:∃ r:Int,decide (0<=r)=b/\zab E0 S.AK [.sl (ts.map Tg.cells),.fn g [.p 0 0]] [.box x0.cells] (iv r) [.box x0.cells]):∃ (r:Bool),r=b/\zab E0 S.B5 [.sl (ts.map Tg.cells),.fn g [.p 0 0]] [.box x0.cells] (bv r) [.box x0.cells]:=by
 obtain ⟨r1,q1,c1⟩:=hi
 exact ⟨decide ((0:Int)<=r1),‹_›,wk At.B5 [sl [0] c1] kr⟩
def zmM (n:Nat) (c:Str) (b:List Tg):Bool:=b.any fun t=>hasS (rowP n t).2 c
theorem zeR (n:Nat) (x:Se) (ts:List Tg) (hn:n<=6) (hl:zac ts) (ht:∀ t∈ts,TgLi n t):zab E0 S.B5 [.sl (ts.map Tg.cells),.fn S.AY [.p 0 0]] [.box x.cells] (bv (zmM n x.col ts)) [.box x.cells]:=by
 have hi:=c_ixT S.AY (fun t=>hasS (rowP n t).2 x.col) x ts hl fun t h=>by
  obtain ⟨r,rfl,hc⟩:=zzs t x n hn (ht t h) (zlU hn (ht t h)).2
  exact hc
 obtain ⟨r,rfl,h⟩:=c_cfT S.AY _ x ts hi
 exact h
def zg0 (s:Sch) (c:Str):Col:=(s.cols.find? fun k=>colC k c).getD zwn
theorem zzK (s:Sch) (c:Str) (h:decide (idxF (fun k=>colC k c) s.cols 0 < 0)=false):ElAt (s.cols.map Col.cells) (idxF (fun k=>colC k c) s.cols 0) (zg0 s c).cells 4:=by
 simp only [decide_eq_false_iff_not] at h
 rcases zkO (fun k=>colC k c) s.cols 0 with ⟨h2,_⟩|⟨j,y,h2,h3,h4⟩
 ·omega
 ·have e:zg0 s c=y:=by unfold zg0;rw [h4];rfl
  rw [e,h2]
  have:((0+j:Nat):Int)=(j:Int):=by omega
  rw [this]
  exact zai Col.cells h3 rfl
def asgP (m:List Tb) (n:Nat) (tb:Str) (s:Sch) (x:Se) (fr:List Fr) (b:List Tg):List Acc :=
 bif decide (idxF (fun k=>colC k x.col) s.cols 0 < 0) then [] else bif (zbC x tb).2 then bif !zmM n x.col b then bif !(zg0 s x.col).key then [⟨tb,x.col,(zbC x tb).1⟩] else ⟨tb,x.col,2⟩::zas m n [x.ex] fr else ⟨tb,x.col,2⟩::zas m n [x.ex] fr else ⟨tb,x.col,2⟩::zas m n [x.ex] fr
theorem zxL (m:List Tb) (ks:List Acc) (tb:Str) (s:Sch) (x:Se) (fr:List Fr) (b:List Tg) (n:Nat) (hn:n<=6) (ht:FpC m) (hs:AccS ks) (hsc:zac s.cols) (hl:zac b) (hb:∀ t∈b,TgLi n t) (hex:∀ ks,AccS ks->zab E0 S.Ak [.p 0 0,xsl [x.ex],fsl fr] [.box [tsl m,.mp 1],.mp (ks.map itA)] (.tup []) [.box [tsl m,.mp 1],.mp ((zae ks (zas m n [x.ex] fr)).map itA)]):∃ (r:List Acc),r=zae ks (asgP m n tb s x fr b)/\zab E0 S.Ax [.p 0 0,sv tb,s.av,.agg x.cells,fsl fr,.sl (b.map Tg.cells)] [.box [tsl m,.mp 1],.mp (ks.map itA)] (.tup []) [.box [tsl m,.mp 1],.mp (r.map itA)]:=by
 let p_1:List St:=[sc (zct s x.col zeu),sl [3] (zeR n x b hn zeu zeu)]
 cases h1:decide (idxF (fun c=>colC c x.col) s.cols 0 < 0)
 ·let p_2:List St:=p_1++[sb h1,sc (zoC x tb)]
  cases h2:(zbC x tb).snd
  ·exact ⟨zae (addK ks (Acc.mk tb x.col 2)) (zas m n [x.ex] fr),znh,(by (try simp only [zsl,Acc.cells,Ac.cells,Se.cells,Tg.cells,Rk.cells]);exact wkE At.Ax (p_2++[sb h2,sl [0,1] (zaI m ks tb x.col 2 zeu),sl [0,1] (conv (args:=[AV.p 0 0,AV.sl [x.ex.cells],fsl fr]) (hl:=[Blk.box [tsl m,AV.mp 1],Blk.mp (List.map itA (addK ks (Acc.mk tb x.col 2)))]) (hex (addK ks (Acc.mk tb x.col 2)) zeu) zla zla)]) kr)⟩
  ·cases h3:!zmM n x.col b
   ·exact ⟨zae (addK ks (Acc.mk tb x.col 2)) (zas m n [x.ex] fr),znh,(by (try simp only [zsl,Acc.cells,Ac.cells,Se.cells,Tg.cells,Rk.cells]);exact wkE At.Ax (p_2++[sg h2,sb h3,sl [0,1] (zaI m ks tb x.col 2 zeu),sl [0,1] (conv (args:=[AV.p 0 0,AV.sl [x.ex.cells],fsl fr]) (hl:=[Blk.box [tsl m,AV.mp 1],Blk.mp (List.map itA (addK ks (Acc.mk tb x.col 2)))]) (hex (addK ks (Acc.mk tb x.col 2)) zeu) zla zla)]) kr)⟩
   ·let p_3:List St:=p_2++[sg h2,sg h3,se (zzK s x.col zeu)]
    cases h4:!(zg0 s x.col).key
    ·exact ⟨zae (addK ks (Acc.mk tb x.col 2)) (zas m n [x.ex] fr),znh,(by (try simp only [zsl,Acc.cells,Ac.cells,Se.cells,Tg.cells,Rk.cells]);exact wkE At.Ax (p_3++[sb h4,sl [0,1] (zaI m ks tb x.col 2 zeu),sl [0,1] (conv (args:=[AV.p 0 0,AV.sl [x.ex.cells],fsl fr]) (hl:=[Blk.box [tsl m,AV.mp 1],Blk.mp (List.map itA (addK ks (Acc.mk tb x.col 2)))]) (hex (addK ks (Acc.mk tb x.col 2)) zeu) zla zla)]) kr)⟩
    ·exact ⟨addK ks (Acc.mk tb x.col (zbC x tb).fst),znh,wk At.Ax (p_3++[sb h4,sl [0,1] (zaI m ks tb x.col ((zbC x tb).fst) zeu)]) kr⟩
 ·exact ⟨ks,znh,wk At.Ax (p_1++[sb h1]) kr⟩
def befC (s:Sch) (c:Str):List Acc:=bif decide (0<=idxF (fun k=>colC k c) s.cols 0) then [⟨s.name,c,2⟩] else []
def befP (m:List Tb) (n:Nat) (t:Tg) (kind:Int) (s:Sch):List Acc :=
 zas m n (zb0 t) (zbZ t s [] [])++bif kind==1 then [] else (flX n (zb0 t)).flatMap (vcE m s)++bif kind != 2 then [] else (rowP n t).2.flatMap (befC s)
theorem zs7 {l:List Str} {s:Sch} {k0 k k2:List Acc} {i:Nat} {x:Str} (hI:k=zae k0 ((l.take i).flatMap (befC s))) (hx:l[i]?=some x) (ho:k2=zae k (befC s x)):k2=zae k0 ((l.take (i+1)).flatMap (befC s)):=by
 rw [ho,hI,← zaP,List.take_add_one,hx];simp
noncomputable def L_bf (m:List Tb) (kz k0:List Acc) (t:Tg) (s:Sch) (l:List Str) (i:Nat) (ks:List Acc):Cfg:=zan B.Ar 0 [(4,.p 2 0),(7,.p 4 0),(35,ssl l),(36,iv ((l.map fun s=>[sv s]).length:Nat)),(37,iv (i:Nat))] [.box [tsl m,.mp 1],.mp (ks.map itA),.box [.p 0 0],.box t.cells,.box s.cells]
theorem zej (m:List Tb) (kz k0:List Acc) (t:Tg) (s:Sch) (l:List Str) (hk0:AccS k0) (hl:zac l) (hsc:zac s.cols) (i:Nat) (ks:List Acc) (hi:i<=(l).length) (hI:ks=zae k0 ((l.take i).flatMap (befC s))):∃ (ks':List Acc),(ks'=zae k0 ((l.take (l).length).flatMap (befC s)))/\(decide ((((l).length:Nat):Int) < (((l.map fun s=>[sv s]).length:Nat):Int))=false)/\∀ R,Good E0 B.Ar [.box [tsl m,.mp 1],.mp (kz.map itA)] (L_bf m kz k0 t s l (l).length ks') R->Good E0 B.Ar [.box [tsl m,.mp 1],.mp (kz.map itA)] (L_bf m kz k0 t s l i ks) R:=by
 have hk:=hi;revert i ks;refine zlp ((l).length) (fun i hlt ih ks hi hI _=>?_)
 obtain ⟨x,hx,h0,hw⟩:=zlq (l:=l) ((l.map fun s=>[sv s]).length) hlt
 have hks:AccS ks:=(by rw [hI];exact hk0.all _)
 let p_1:List St:=[sb h0,se (zai (fun s=>[sv s]) hx rfl),sc (zct s x (by first|assumption|omega|(simp;done)|(simp;omega)))]
 cases h1:decide (0<=idxF (fun c=>colC c x) s.cols 0)
 ·exact Zih (ih ks Zo (by exact zs7 hI hx (by simp only [befC, *,cond_true,cond_false];first|done|rfl)) Zo) fun R gY=>zaa (wkl (p_1++[sb h1,si hw]) [4,7,35,36,37] 5 kr gY)
 ·exact Zih (ih (addK ks (Acc.mk s.name x 2)) Zo (by exact zs7 hI hx (by simp only [befC, *,cond_true,cond_false];first|done|rfl)) Zo) fun R gY=>zaa (wkl (p_1++[sb h1,sl [0,1] (zaI m ks s.name x 2 (by first|assumption|omega|(simp;done)|(simp;omega))),si hw]) [4,7,35,36,37] 5 kr gY)
theorem zei (m:List Tb) (kz:List Acc) (t:Tg) (s:Sch) (l:List Str) (hl:zac l) (hsc:zac s.cols) (ks:List Acc) (hks:AccS ks):∃ (ks':List Acc),ks'=zae ks (l.flatMap (befC s))/\decide (((l.length:Nat):Int) < (((l.map fun s=>[sv s]).length:Nat):Int))=false/\∀ R,Good E0 B.Ar [.box [tsl m,.mp 1],.mp (kz.map itA)] (L_bf m kz ks t s l l.length ks') R->Good E0 B.Ar [.box [tsl m,.mp 1],.mp (kz.map itA)] (L_bf m kz ks t s l 0 ks) R:=by
 obtain ⟨k',h1,h2,h3⟩:=zej m kz ks t s l hks hl hsc 0 ks Zo (by simp [zae])
 exact ⟨k',by rw [h1,List.take_length],h2,h3⟩
theorem zgw (t:Tg) (s:Sch) (hs:zac s.cols):zab E0 S.By [t.av,s.av,.sl [],.sl []] [] (fsl (zbZ t s [] [])) []:=by
 obtain ⟨r,rfl,h⟩:=zwr t s [] [] hs (by simp [zac]) (by simp [zac])
 exact h
theorem zzy (m:List Tb) (ks:List Acc) (t:Tg) (kind:Int) (s:Sch) (n:Nat) (hn:n<=6) (hs:AccS ks) (hsc:zac s.cols) (ht:TgLi n t) (ha:t.acts.length<=3) (hse:∀ a∈t.acts,a.sets.length<=2) (hwl:t.when_.length<=1) (hul:zac (zb0 t)) (hux:∀ e∈zb0 t,XSh n e) (hr2:zac (rowP n t).2) (hex:∀ ks,AccS ks->zab E0 S.Ak [.p 0 0,xsl (zb0 t),fsl (zbZ t s [] [])] [.box [tsl m,.mp 1],.mp (ks.map itA)] (.tup []) [.box [tsl m,.mp 1],.mp ((zae ks (zas m n (zb0 t) (zbZ t s [] []))).map itA)]):∃ (r:List Acc),r=zae ks (befP m n t kind s)/\zab E0 S.Ar [.p 0 0,t.av,iv kind,s.av] [.box [tsl m,.mp 1],.mp (ks.map itA)] (.tup []) [.box [tsl m,.mp 1],.mp (r.map itA)]:=by
 let p_1:List St:=[sc (zgw t s zdV),sc (zoD t zdV zdV zdV),sl [0,1] (hex ks zdV)]
 cases h1:kind==1
 ·let p_2:List St:=p_1++[sb h1,sl [4,2,0,1] (zkl m s zdV n (zae ks (zas m n (zb0 t) (zbZ t s [] []))) (zb0 t) zdV hux zdV)]
  cases h2:kind != 2
  ·obtain ⟨ks3,q3,q3_1,g3⟩:=zei m ks t s ((rowP n t).snd) zdV zdV (zae (zae ks (zas m n (zb0 t) (zbZ t s [] []))) (List.flatMap (vcE m s) (flX n (zb0 t)))) zdV
   exact ⟨ks3,zt8,wkc At.Ar (p_2++[sb h2,sc (zfU t n hn zdV)]) [4,7,35,36,37] 5 kr (g3 _ (zaa (wkrE [sb q3_1] kr)))⟩
  ·exact ⟨zae (zae ks (zas m n (zb0 t) (zbZ t s [] []))) (List.flatMap (vcE m s) (flX n (zb0 t))),zt8,wk At.Ar (p_2++[sb h2]) kr⟩
 ·exact ⟨zae ks (zas m n (zb0 t) (zbZ t s [] [])),zt8,wk At.Ar (p_1++[sb h1]) kr⟩
theorem zbR {p:Prop} (h:p:=by first|assumption|(subst_vars;first|assumption|exact zc0 ‹_›|exact zbc ‹_›|exact zbc (zc0 ‹_›)|exact zbc (zbc (zc0 ‹_›))|exact zbc (zc0 (zc0 ‹_›))|exact zc0 (zc0 ‹_›))|(simp;done)):p:=h
theorem zqc {p:Prop} (h:p:=by (subst_vars;simp only [actG, *,cond_true,cond_false,zaP,zdY,List.nil_append];first|done|rfl)):p:=h
theorem zqd {p:Prop} (h:p:=by first|omega|(simp only [zac,Few] at *;omega)):p:=h
section
variable {α : Type} {l : List α} {f : α -> List Acc} {k0 k k2 : List Acc} {i : Nat} {x : α}
theorem zmI (hI:k=zae k0 ((l.take i).flatMap f)) (hB:AccS k0):AccS k:=hI ▸ hB.all _
theorem zgy (hI:k=zae k0 ((l.take i).flatMap f)) (hx:l[i]?=some x) (ho:k2=zae k (f x)):k2=zae k0 ((l.take (i+1)).flatMap f):=by
 rw [ho,hI,← zaP,List.take_add_one,hx];simp
end
def AddC (m:List Tb) (f:FuncId) (args:List AV) (a:List Acc):Prop:=∀ ks,AccS ks->zab E0 f args [.box [tsl m,.mp 1],.mp (ks.map itA)] (.tup []) [.box [tsl m,.mp 1],.mp ((zae ks a).map itA)]
noncomputable def zr1 (m:List Tb) (kz k0:List Acc) (a:Ac) (s:Sch) (fr:List Fr) (b:List Tg) (f:List X->List Acc) (i:Nat) (ks:List Acc):Cfg:=zan B.Ad 0 [(0,.p 0 0),(2,fsl fr),(3,.sl (b.map Tg.cells)),(5,.p 2 0),(8,.p 3 0),(38,.sl (a.rows.map zaA)),(39,iv ((a.rows.map zaA).length:Nat)),(40,iv (i:Nat))] [.box [tsl m,.mp 1],.mp (ks.map itA),.box a.cells,.box s.cells]
theorem zd6 (m:List Tb) (kz k0:List Acc) (a:Ac) (s:Sch) (fr:List Fr) (b:List Tg) (f:List X->List Acc) (hf:∀ r∈a.rows,AddC m S.Ak [.p 0 0,xsl r,fsl fr] (f r)) (hk0:AccS k0) (hl:zac a.rows) (i:Nat) (ks:List Acc) (hi:i<=(a.rows).length) (hI:ks=zae k0 ((a.rows.take i).flatMap f)):∃ (ks':List Acc),(ks'=zae k0 ((a.rows.take (a.rows).length).flatMap f))/\(decide ((((a.rows).length:Nat):Int) < (((a.rows.map zaA).length:Nat):Int))=false)/\∀ R,Good E0 B.Ad [.box [tsl m,.mp 1],.mp (kz.map itA)] (zr1 m kz k0 a s fr b f (a.rows).length ks') R->Good E0 B.Ad [.box [tsl m,.mp 1],.mp (kz.map itA)] (zr1 m kz k0 a s fr b f i ks) R:=by
 have hk:=hi;revert i ks;refine zlp ((a.rows).length) (fun i hlt ih ks hi hI _=>?_)
 obtain ⟨x,hx,h0,hw⟩:=zlq (l:=a.rows) ((a.rows.map zaA).length) hlt zqd
 have hks:=zmI hI hk0;have hfx:=hf x (List.mem_of_getElem? hx)
 exact Zih (ih (zae ks (f x)) Zo (by exact zgy hI hx rfl) Zo) fun R gY=>zaa (wkl [sb h0,se (zai zaA hx rfl),sl [0,1] (hfx ks (by first|assumption|omega|(simp;done)|(simp;omega))),si hw] [0,2,3,5,8,38,39,40] 4 kr gY)
theorem zef (m:List Tb) (kz:List Acc) (a:Ac) (s:Sch) (fr:List Fr) (b:List Tg) (f:List X->List Acc) (hf:∀ r∈a.rows,AddC m S.Ak [.p 0 0,xsl r,fsl fr] (f r)) (hl:zac a.rows) (ks:List Acc) (hks:AccS ks):∃ (ks':List Acc),ks'=zae ks (a.rows.flatMap f)/\decide (((a.rows.length:Nat):Int) < (((a.rows.map zaA).length:Nat):Int))=false/\∀ R,Good E0 B.Ad [.box [tsl m,.mp 1],.mp (kz.map itA)] (zr1 m kz ks a s fr b f a.rows.length ks') R->Good E0 B.Ad [.box [tsl m,.mp 1],.mp (kz.map itA)] (zr1 m kz ks a s fr b f 0 ks) R:=by
 obtain ⟨k',h1,h2,h3⟩:=zd6 m kz ks a s fr b f hf hks hl 0 ks Zo (by simp [zae])
 exact ⟨k',by rw [h1,List.take_length],h2,h3⟩
noncomputable def zr0 (m:List Tb) (kz k0:List Acc) (a:Ac) (s:Sch) (fr:List Fr) (b:List Tg) (g:Qy->List Acc) (i:Nat) (ks:List Acc):Cfg:=zan B.Ad 1 [(0,.p 0 0),(2,fsl fr),(3,.sl (b.map Tg.cells)),(5,.p 2 0),(8,.p 3 0),(50,.sl (zal a.query)),(51,iv ((zal a.query).length:Nat)),(52,iv (i:Nat))] [.box [tsl m,.mp 1],.mp (ks.map itA),.box a.cells,.box s.cells]
theorem zd5 (m:List Tb) (kz k0:List Acc) (a:Ac) (s:Sch) (fr:List Fr) (b:List Tg) (g:Qy->List Acc) (hg:∀ q∈a.query,AddC m S.AN [.p 0 0,q.av,fsl fr] (g q)) (hst:∀ q∈a.query,AddC m S.Aw [.p 0 0,q.av] (zcY m q)) (hk0:AccS k0) (hl:zac a.query) (i:Nat) (ks:List Acc) (hi:i<=(a.query).length) (hI:ks=zae k0 ((a.query.take i).flatMap fun q=>g q++zcY m q)):∃ (ks':List Acc),(ks'=zae k0 ((a.query.take (a.query).length).flatMap fun q=>g q++zcY m q))/\(decide ((((a.query).length:Nat):Int) < (((zal a.query).length:Nat):Int))=false)/\∀ R,Good E0 B.Ad [.box [tsl m,.mp 1],.mp (kz.map itA)] (zr0 m kz k0 a s fr b g (a.query).length ks') R->Good E0 B.Ad [.box [tsl m,.mp 1],.mp (kz.map itA)] (zr0 m kz k0 a s fr b g i ks) R:=by
 have hk:=hi;revert i ks;refine zlp ((a.query).length) (fun i hlt ih ks hi hI _=>?_)
 obtain ⟨x,hx,h0,hw⟩:=zlq (l:=a.query) ((zal a.query).length) hlt zqd
 have hks:=zmI hI hk0;have hfx:=hg x (List.mem_of_getElem? hx);have hsx:=hst x (List.mem_of_getElem? hx)
 exact Zih (ih (zae (zae ks (g x)) (zcY m x)) Zo (by exact zgy (f:=fun q=>g q++zcY m q) hI hx (by rw [zaP])) Zo) fun R gY=>zaa (wkl [sb h0,se (zba hx),sl [0,1] (hfx ks (by first|assumption|exact zbc ‹_›)),sl [0,1] (hsx (zae ks (g x)) (by first|assumption|exact zbc ‹_›)),si hw] [0,2,3,5,8,50,51,52] 4 kr gY)
theorem zeg (m:List Tb) (kz:List Acc) (a:Ac) (s:Sch) (fr:List Fr) (b:List Tg) (g:Qy->List Acc) (hg:∀ q∈a.query,AddC m S.AN [.p 0 0,q.av,fsl fr] (g q)) (hst:∀ q∈a.query,AddC m S.Aw [.p 0 0,q.av] (zcY m q)) (hl:zac a.query) (ks:List Acc) (hks:AccS ks):∃ (ks':List Acc),(ks'=zae ks (a.query.flatMap fun q=>g q++zcY m q))/\decide (((a.query.length:Nat):Int) < (((zal a.query).length:Nat):Int))=false/\∀ R,Good E0 B.Ad [.box [tsl m,.mp 1],.mp (kz.map itA)] (zr0 m kz ks a s fr b g a.query.length ks') R->Good E0 B.Ad [.box [tsl m,.mp 1],.mp (kz.map itA)] (zr0 m kz ks a s fr b g 0 ks) R:=by
 obtain ⟨k',h1,h2,h3⟩:=zd5 m kz ks a s fr b g hg hst hks hl 0 ks Zo (by simp [zae])
 exact ⟨k',by rw [h1,List.take_length],h2,h3⟩
noncomputable def zr2 (m:List Tb) (kz k0:List Acc) (a:Ac) (s:Sch) (w:List Fr) (b:List Tg) (h:Se->List Acc) (i:Nat) (ks:List Acc):Cfg:=zan B.Ad 2 [(0,.p 0 0),(3,.sl (b.map Tg.cells)),(5,.p 2 0),(8,.p 3 0),(10,fsl w),(91,.sl (a.sets.map Se.cells)),(92,iv ((a.sets.map Se.cells).length:Nat)),(93,iv (i:Nat))] [.box [tsl m,.mp 1],.mp (ks.map itA),.box a.cells,.box s.cells]
theorem zd7 (m:List Tb) (kz k0:List Acc) (a:Ac) (s:Sch) (w:List Fr) (b:List Tg) (h:Se->List Acc) (hh:∀ x∈a.sets,AddC m S.Ax [.p 0 0,sv a.table,s.av,.agg x.cells,fsl w,.sl (b.map Tg.cells)] (h x)) (hk0:AccS k0) (hl:zac a.sets) (i:Nat) (ks:List Acc) (hi:i<=(a.sets).length) (hI:ks=zae k0 ((a.sets.take i).flatMap h)):∃ (ks':List Acc),(ks'=zae k0 ((a.sets.take (a.sets).length).flatMap h))/\(decide ((((a.sets).length:Nat):Int) < (((a.sets.map Se.cells).length:Nat):Int))=false)/\∀ R,Good E0 B.Ad [.box [tsl m,.mp 1],.mp (kz.map itA)] (zr2 m kz k0 a s w b h (a.sets).length ks') R->Good E0 B.Ad [.box [tsl m,.mp 1],.mp (kz.map itA)] (zr2 m kz k0 a s w b h i ks) R:=by
 have hk:=hi;revert i ks;refine zlp ((a.sets).length) (fun i hlt ih ks hi hI _=>?_)
 obtain ⟨x,hx,h0,hw⟩:=zlq (l:=a.sets) ((a.sets.map Se.cells).length) hlt zqd
 have hks:=zmI hI hk0;have hfx:=hh x (List.mem_of_getElem? hx)
 exact Zih (ih (zae ks (h x)) Zo (by exact zgy hI hx rfl) Zo) fun R gY=>zaa (wkl [sb h0,se (zai Se.cells hx rfl),sl [0,1] (hfx ks (by first|assumption|omega|(simp;done)|(simp;omega))),si hw] [0,3,5,8,10,91,92,93] 4 kr gY)
theorem zeh (m:List Tb) (kz:List Acc) (a:Ac) (s:Sch) (w:List Fr) (b:List Tg) (h:Se->List Acc) (hh:∀ x∈a.sets,AddC m S.Ax [.p 0 0,sv a.table,s.av,.agg x.cells,fsl w,.sl (b.map Tg.cells)] (h x)) (hl:zac a.sets) (ks:List Acc) (hks:AccS ks):∃ (ks':List Acc),ks'=zae ks (a.sets.flatMap h)/\decide (((a.sets.length:Nat):Int) < (((a.sets.map Se.cells).length:Nat):Int))=false/\∀ R,Good E0 B.Ad [.box [tsl m,.mp 1],.mp (kz.map itA)] (zr2 m kz ks a s w b h a.sets.length ks') R->Good E0 B.Ad [.box [tsl m,.mp 1],.mp (kz.map itA)] (zr2 m kz ks a s w b h 0 ks) R:=by
 obtain ⟨k',h1,h2,h3⟩:=zd7 m kz ks a s w b h hh hks hl 0 ks Zo (by simp [zae])
 exact ⟨k',by rw [h1,List.take_length],h2,h3⟩
noncomputable def zrZ (m:List Tb) (kz k0:List Acc) (a:Ac) (s:Sch) (b:List Tg) (j:Tg->List Acc) (i:Nat) (ks:List Acc):Cfg:=zan B.Ad 3 [(0,.p 0 0),(5,.p 2 0),(8,.p 3 0),(106,.sl (b.map Tg.cells)),(107,iv ((b.map Tg.cells).length:Nat)),(108,iv (i:Nat))] [.box [tsl m,.mp 1],.mp (ks.map itA),.box a.cells,.box s.cells]
theorem zd4 (m:List Tb) (kz k0:List Acc) (a:Ac) (s:Sch) (b:List Tg) (j:Tg->List Acc) (hj:∀ t∈b,AddC m S.Ar [.p 0 0,t.av,iv a.kind,s.av] (j t)) (hk0:AccS k0) (hl:zac b) (i:Nat) (ks:List Acc) (hi:i<=(b).length) (hI:ks=zae k0 ((b.take i).flatMap j)):∃ (ks':List Acc),(ks'=zae k0 ((b.take (b).length).flatMap j))/\(decide ((((b).length:Nat):Int) < (((b.map Tg.cells).length:Nat):Int))=false)/\∀ R,Good E0 B.Ad [.box [tsl m,.mp 1],.mp (kz.map itA)] (zrZ m kz k0 a s b j (b).length ks') R->Good E0 B.Ad [.box [tsl m,.mp 1],.mp (kz.map itA)] (zrZ m kz k0 a s b j i ks) R:=by
 have hk:=hi;revert i ks;refine zlp ((b).length) (fun i hlt ih ks hi hI _=>?_)
 obtain ⟨x,hx,h0,hw⟩:=zlq (l:=b) ((b.map Tg.cells).length) hlt zqd
 have hks:=zmI hI hk0;have hfx:=hj x (List.mem_of_getElem? hx)
 exact Zih (ih (zae ks (j x)) Zo (by exact zgy hI hx rfl) Zo) fun R gY=>zaa (wkl [sb h0,se (zai Tg.cells hx rfl),sl [0,1] (hfx ks (by first|assumption|omega|(simp;done)|(simp;omega))),si hw] [0,5,8,106,107,108] 4 kr gY)
theorem zbr (m:List Tb) (kz:List Acc) (a:Ac) (s:Sch) (b:List Tg) (j:Tg->List Acc) (hj:∀ t∈b,AddC m S.Ar [.p 0 0,t.av,iv a.kind,s.av] (j t)) (hl:zac b) (ks:List Acc) (hks:AccS ks):∃ (ks':List Acc),ks'=zae ks (b.flatMap j)/\decide (((b.length:Nat):Int) < (((b.map Tg.cells).length:Nat):Int))=false/\∀ R,Good E0 B.Ad [.box [tsl m,.mp 1],.mp (kz.map itA)] (zrZ m kz ks a s b j b.length ks') R->Good E0 B.Ad [.box [tsl m,.mp 1],.mp (kz.map itA)] (zrZ m kz ks a s b j 0 ks) R:=by
 obtain ⟨k',h1,h2,h3⟩:=zd4 m kz ks a s b j hj hks hl 0 ks Zo (by simp [zae])
 exact ⟨k',by rw [h1,List.take_length],h2,h3⟩
theorem zdY {ks l:List Acc} {x:Acc}:zae ks (x::l)=zae (addK ks x) l:=rfl
def actG (a:Ac) (f:List X->List Acc) (g h:List Acc) (w j:List Acc):List Acc :=
 (bif a.kind==1 then ⟨a.table,⟨#[]⟩,6⟩::(a.rows.flatMap f++g) else bif a.kind==3 then ⟨a.table,⟨#[]⟩,7⟩::⟨a.table,⟨#[]⟩,5⟩::w else bif a.kind==2 then ⟨a.table,⟨#[]⟩,5⟩::(w++h) else [])++j
theorem zxJ (m:List Tb) (ks:List Acc) (a:Ac) (fr:List Fr) (b:List Tg) (f:List X->List Acc) (g:Qy->List Acc) (h:Se->List Acc) (j:Tg->List Acc) (wa:List Acc) (ht:FpC m) (hs:AccS ks) (hm:zac m) (hc:∀ x∈m,zac x.sch.cols) (hsc:zac (knS m a.table).1.cols) (hfs:zac fr) (hf:∀ r∈a.rows,AddC m S.Ak [.p 0 0,xsl r,fsl fr] (f r)) (hlr:zac a.rows) (hg:∀ q∈a.query,AddC m S.AN [.p 0 0,q.av,fsl fr] (g q)) (hst:∀ q∈a.query,AddC m S.Aw [.p 0 0,q.av] (zcY m q)) (hlq:zac a.query) (hh:∀ x∈a.sets,AddC m S.Ax [.p 0 0,sv a.table,(knS m a.table).1.av,.agg x.cells,fsl (zar fr (knS m a.table).1 []),.sl (b.map Tg.cells)] (h x)) (hls:zac a.sets) (hj:∀ t∈b,AddC m S.Ar [.p 0 0,t.av,iv a.kind,(knS m a.table).1.av] (j t)) (hlb:zac b) (hw:∀ ks,AccS ks->zab E0 S.Ak [.p 0 0,xsl a.wh,fsl (zar fr (knS m a.table).1 [])] [.box [tsl m,.mp 1],.mp (ks.map itA)] (.tup []) [.box [tsl m,.mp 1],.mp ((zae ks wa).map itA)]):∃ (r:List Acc),(r=zae ks (actG a f (a.query.flatMap fun q=>g q++zcY m q) (a.sets.flatMap h) wa (b.flatMap j)))/\zab E0 S.Ad [.p 0 0,a.av,fsl fr,.sl (b.map Tg.cells)] [.box [tsl m,.mp 1],.mp (ks.map itA)] (.tup []) [.box [tsl m,.mp 1],.mp (r.map itA)]:=by
 let p_1:List St:=[sl [0,1] (zb4 m a.table (List.map itA ks) zbR zbR),sc (zhi fr ((knS m a.table).fst) zbR)]
 cases h1:a.kind==1
 ·cases h2:a.kind==3
  ·cases h3:a.kind==2
   ·obtain ⟨ks4,q4,q4_1,g4⟩:=zbr m ks a ((knS m a.table).fst) b j hj zbR ks zbR
    exact ⟨ks4,zqc,wkc At.Ad (p_1++[sb h1,sb h2,sb h3]) [0,5,8,106,107,108] 4 kr (g4 _ (zaa (wkrE [sb q4_1] kr)))⟩
   ·obtain ⟨ks5,q5,q5_1,g5⟩:=zeh m ks a ((knS m a.table).fst) (zar fr (knS m a.table).fst []) b h hh zbR (zae (addK ks (Acc.mk a.table Zs0 5)) wa) zbR
    obtain ⟨ks6,q6,q6_1,g6⟩:=zbr m ks a ((knS m a.table).fst) b j hj zbR ks5 zbR
    exact ⟨ks6,zqc,wkc At.Ad (p_1++[sb h1,sb h2,sb h3,sl [0,1] (zaI m ks a.table Zs0 5 zbR),sl [0,1] (hw (addK ks (Acc.mk a.table Zs0 5)) zbR)]) [0,3,5,8,10,91,92,93] 4 kr (g5 _ (zaa (wkl [sb q5_1] [0,5,8,106,107,108] 4 kr (g6 _ (zaa (wkrE [sb q6_1] kr))))))⟩
  ·obtain ⟨ks7,q7,q7_1,g7⟩:=zbr m ks a ((knS m a.table).fst) b j hj zbR (zae (addK (addK ks (Acc.mk a.table Zs0 7)) (Acc.mk a.table Zs0 5)) wa) zbR
   exact ⟨ks7,zqc,wkc At.Ad (p_1++[sb h1,sb h2,sl [0,1] (zaI m ks a.table Zs0 7 zbR),sl [0,1] (zaI m (addK ks (Acc.mk a.table Zs0 7)) a.table Zs0 5 zbR),sl [0,1] (hw (addK (addK ks (Acc.mk a.table Zs0 7)) (Acc.mk a.table Zs0 5)) zbR)]) [0,5,8,106,107,108] 4 kr (g7 _ (zaa (wkrE [sb q7_1] kr)))⟩
 ·obtain ⟨ks8,q8,q8_1,g8⟩:=zef m ks a ((knS m a.table).fst) fr b f hf zbR (addK ks (Acc.mk a.table Zs0 6)) zbR
  obtain ⟨ks9,q9,q9_1,g9⟩:=zeg m ks a ((knS m a.table).fst) fr b g hg zbR zbR ks8 zbR
  obtain ⟨ks10,q10,q10_1,g10⟩:=zbr m ks a ((knS m a.table).fst) b j hj zbR ks9 zbR
  exact ⟨ks10,zqc,wkc At.Ad (p_1++[sb h1,sl [0,1] (zaI m ks a.table Zs0 6 zbR)]) [0,2,3,5,8,38,39,40] 4 kr (g8 _ (zaa (wkl [sb q8_1] [0,2,3,5,8,50,51,52] 4 kr (g9 _ (zaa (wkl [sb q9_1] [0,5,8,106,107,108] 4 kr (g10 _ (zaa (wkrE [sb q10_1] kr)))))))))⟩
abbrev frIn (frs:List Fr) (s:Sch):List Fr:=frs++[⟨s.name,false,s.cols,[]⟩]
abbrev xA (k o:Int) (nt:Bool) (l:List X):X:=X.mk k o nt ⟨0,0,⟨#[]⟩⟩ ⟨#[]⟩ ⟨#[]⟩ l []
abbrev xQ (k:Int) (st:Bool) (it:List X) (f:Str) (wh:List X):X:=X.mk k 0 false ⟨0,0,⟨#[]⟩⟩ ⟨#[]⟩ ⟨#[]⟩ [] [Qy.mk st it f wh]
def ColT (frs:List Fr) (w:Int) (x:X):Prop:=∃ (i:Nat) (f:Fr) (c:Col) (a:Str),frs[i]?=some f/\c∈f.cols/\c.type=w/\x=xCol a c.name/\(a=f.name\/(a=⟨#[]⟩/\f.strict=false/\i+1=frs.length))
def BinT (op w' w:Int):Prop:=(1<=op/\op<=2/\w'=2/\w=2)\/(3<=op/\op<=8/\w=2)\/(9<=op/\op<=13/\w'=1/\w=1)
def QryT (k w:Int) (st:Bool) (m:Nat):Prop:=(k=8/\w=2/\st=true/\m=0)\/(k=9/\w=1/\st=false/\m=0)\/(10<=k/\k<=12/\w=1/\st=false/\m=1)
inductive XT (tbs:List Sch):Nat->List Fr->Int->X->Prop
 | lit {n:Nat} {frs:List Fr} {w:Int} {v:V}:v.Good->(v.kind=0\/v.kind=w)->(v.kind=1->0<=v.int)->XT tbs (n+1) frs w (xLit v)
 | col {n:Nat} {frs:List Fr} {w:Int} {x:X}:ColT frs w x->XT tbs (n+1) frs w x
 | un {n:Nat} {frs:List Fr} {k w:Int} {a:X}:(k=3/\w=2\/k=4/\w=1)->XT tbs n frs w a->XT tbs (n+1) frs w (xA k 0 false [a])
 | isn {n:Nat} {frs:List Fr} {w:Int} {nt:Bool} {a:X}:XT tbs n frs w a->XT tbs (n+1) frs 2 (xA 6 0 nt [a])
 | bin {n:Nat} {frs:List Fr} {op w' w:Int} {a b:X}:BinT op w' w->XT tbs n frs w' a->XT tbs n frs w' b->XT tbs (n+1) frs w (xA 5 op false [a,b])
 | btw {n:Nat} {frs:List Fr} {a b c:X}:XT tbs n frs 1 a->XT tbs n frs 1 b->XT tbs n frs 1 c->XT tbs (n+1) frs 2 (xA 7 0 false [a,b,c])
 | qry {n:Nat} {frs:List Fr} {k w:Int} {st:Bool} {it wh:List X} {s:Sch}:s∈tbs->QryT k w st it.length->wh.length<=1->(∀ x∈it,XT tbs n (frIn frs s) 1 x)->(∀ x∈wh,XT tbs n (frIn frs s) 2 x)->XT tbs (n+1) frs w (xQ k st it s.name wh)
theorem ColT.is {frs:List Fr} {w:Int} {x:X} (h:ColT frs w x):zrS x:=by
 obtain ⟨i,f,c,a,_,_,_,h,_⟩:=h
 exact ⟨a,c.name,h⟩
theorem XT.ok {tbs:List Sch} {n:Nat} {frs:List Fr} {w:Int} {e:X} (h:XT tbs n frs w e):XOk n e:=by
 induction h with
 | lit h _ _=>exact zfC h
 | col h=>exact zlo h.is
 | un _ _ ih=>exact zxr ih
 | isn _ ih=>exact zxr ih
 | bin _ _ _ i1 i2=>exact zkb i1 i2
 | btw _ _ _ i1 i2 i3=>exact zxs i1 i2 i3
 | @qry n frs k w st it wh s hs hq hw _ _ i1 i2 =>
  refine xok_q ?_ i1 i2 hw
  rcases hq with ⟨_,_,_,h⟩|⟨_,_,_,h⟩|⟨_,_,_,_,h⟩ <;> simp [Thin,h]
theorem XT.mono {tbs:List Sch} {n:Nat} {frs:List Fr} {w:Int} {e:X} (h:XT tbs n frs w e):XT tbs (n+1) frs w e:=by
 induction h with
 | lit h h2 h3=>exact .lit h h2 h3
 | col h=>exact .col h
 | un h _ ih=>exact .un h ih
 | isn _ ih=>exact .isn ih
 | bin h _ _ i1 i2=>exact .bin h i1 i2
 | btw _ _ _ i1 i2 i3=>exact .btw i1 i2 i3
 | qry hs hq hw _ _ i1 i2=>exact .qry hs hq hw i1 i2
theorem XT.le {tbs:List Sch} {n m:Nat} {frs:List Fr} {w:Int} {e:X} (h:XT tbs n frs w e) (hm:n<=m):XT tbs m frs w e:=by
 induction hm with
 | refl=>exact h
 | step _ ih=>exact ih.mono
structure EnvT (G:Str->List Col):Prop where
 name:∀ n c,c∈G n->zqs c.name=true
 at_:∀ n (i:Nat) c,(G n)[i]?=some c->idxF (fun x=>colC x c.name) (G n) 0=(i:Int)
structure FsT' (G:Str->List Col) (frs:List Fr):Prop where
 cols:∀ f∈frs,f.cols=G f.name
 qual:∀ f∈frs,ztU f.name=true
 ne:∀ f∈frs,f.name≠⟨#[]⟩
structure TbE (G:Str->List Col) (tbs:List Sch) (tb:List Tb):Prop where
 cols:∀ s∈tbs,s.cols=G s.name
 src:∀ s∈tbs,zsP s.name=true
 get:∀ s∈tbs,zaf tb s.name=(s,true)
theorem zBp {s:Str} (h:zsP s=true):ztU s=true/\s≠⟨#[]⟩:=by
 have h0:zsP ⟨#[]⟩=false:=by kernel_rfl
 refine ⟨?_,fun e=>by subst e;rw [h0] at h;cases h⟩
 simp only [zsP,Bool.or_eq_true] at h
 simp only [ztU,Bool.or_eq_true]
 rcases h with (h|h)|h
 ·exact .inr h
 ·exact .inl (.inl (.inr h))
 ·exact .inl (.inr h)
theorem FsT'.ins {G:Str->List Col} {tbs:List Sch} {tb:List Tb} {frs:List Fr} (h:FsT' G frs) (ht:TbE G tbs tb) {s:Sch} (hs:s∈tbs):FsT' G (frIn frs s):=by
 have h1:=zBp (ht.src s hs)
 refine ⟨fun f hf=>?_,fun f hf=>?_,fun f hf=>?_⟩ <;> simp only [List.mem_append,List.mem_singleton] at hf <;> rcases hf with hf|rfl
 ·exact h.cols f hf
 ·exact ht.cols s hs
 ·exact h.qual f hf
 ·exact h1.1
 ·exact h.ne f hf
 ·exact h1.2
theorem zbd {p:Prop} (h:p:=by first|exact zvQ ‹_› Zo Zo|exact .lit zb3 (.inl rfl) (fun h=>by simp at h)|exact zqY ‹_› ‹_›|exact .col ((by assumption:_=true->ColT _ _ _) ‹_›)|exact xt_qW ‹_› ‹_› (by first|rfl|(simp;omega)|(rw [IntKind.wrap_i64];simp;omega))|exact xt_2W ‹_› ‹_›|exact xt_neg ‹_› ‹_›|exact zoZ ‹_› (opAt_r ‹_›) ‹_› ‹_›):p:=h
theorem za8 {p:Prop} (h:p:=by first|assumption|(simp;done)|omega|(rw [IntKind.wrap_i64];omega)):p:=h
theorem zea {p:Prop} (h:p:=by first|exact zvQ ‹_› Zo Zo|exact .lit zb3 (.inl rfl) (fun h=>by simp at h)|exact zqY ‹_› ‹_›|exact .col ((by assumption:_=true->ColT _ _ _) ‹_›)):p:=h
theorem zp2 {p:Prop} (h:p:=by first|exact .un (.inl ⟨rfl,rfl⟩) ‹_›|exact .isn ‹_›|exact .btw ‹_› ‹_› ‹_›|exact zy7 Zo ‹_› ‹_›|exact zy5 Zo ‹_› ‹_›|exact zy7 (by rw [IntKind.wrap_i64];omega) ‹_› ‹_›|exact zy5 (by rw [IntKind.wrap_i64];omega) ‹_› ‹_›):p:=h
theorem zsD {p:Prop} (h:p:=by first|exact .qry (it:=[]) (List.mem_of_getElem? ‹_›) (qryT_0 hk ‹_›) Zs (by exact xt0) (by first|exact xt0|exact xt1 ‹_›)|exact .qry (it:=[_]) (List.mem_of_getElem? ‹_›) (qryT_1 hk ‹_›) Zs (by exact xt1 ‹_›) (by first|exact xt0|exact xt1 ‹_›)):p:=h
theorem zsE {p:Prop} (h:p:=by exact ⟨by (try simp only [List.length_append,List.length_cons,List.length_nil]);omega,by first|exact hI.2|exact hI.2.app (zx0 hfi hx ‹_›)|exact (hI.2.app (zx0 hfi hx ‹_›)).app (colT_u hfi hx ‹_› ‹_› ‹_› hfl)⟩):p:=h
theorem zj1 {p:Prop} (h:p:=by first|assumption|exact ⟨_,_,by assumption,rfl⟩|(simp;done)|omega|(simp only [List.length_map] at *;omega)):p:=h
theorem znU {p:Prop} (h:p:=by first|assumption|exact ⟨by simp,zx3 _ _⟩|exact zBg ‹_› Zo|omega):p:=h
theorem znV {p:Prop} (h:p:=by first|assumption|(simp;done)|omega|exact ⟨by simp only [Few] at hfx;omega,hI.2⟩):p:=h
theorem zet {p:Prop} (h:p:=by first|assumption|(simp;done)|omega):p:=h
theorem zng {p:Prop} (h:p:=by first|assumption|omega|(simp;done)|(simp;omega)):p:=h
def zgV (frs:List Fr) (w:Int) (l:List X):Prop:=∀ x∈l,ColT frs w x
theorem zgV.app {frs:List Fr} {w:Int} {l:List X} {x:X} (h:zgV frs w l) (hx:ColT frs w x):zgV frs w (l++[x]):=fun y hy=>(List.mem_append.1 hy).elim (h y) fun h=>by simp only [List.mem_singleton] at h;exact h ▸ hx
theorem zx0 {frs:List Fr} {w:Int} {io i:Nat} {f:Fr} {c:Col} (hf:frs[io]?=some f) (hx:f.cols[i]?=some c) (hw:(c.type != w)=false):ColT frs w (xCol f.name c.name) :=
 ⟨io,f,c,f.name,hf,List.mem_of_getElem? hx,by simpa using hw,rfl,.inl rfl⟩
theorem colT_u {frs:List Fr} {w:Int} {io i:Nat} {f:Fr} {c:Col} (hf:frs[io]?=some f) (hx:f.cols[i]?=some c) (hw:(c.type != w)=false) (hs:(!f.strict)=true) (he:((io:Int)==IntKind.i64.wrap (((frs.map Fr.cells).length:Int) - 1))=true) (hl:frs.length<=1000):ColT frs w (xCol ⟨#[]⟩ c.name) :=
 ⟨io,f,c,⟨#[]⟩,hf,List.mem_of_getElem? hx,by simpa using hw,rfl,.inr ⟨rfl,by simpa using hs,by rw [IntKind.wrap_i64] at he;simp at he;omega⟩⟩
noncomputable def zva (t0:Tp) (p:Pl) (w:Int) (i:Nat) (l:List X):Cfg:=zan B.AB 0 [(0,.p 0 0),(2,iv w),(4,.p 1 0),(6,.p 2 0),(8,.own 3 l.length),(14,fsl p.frs),(15,iv ((p.frs.map Fr.cells).length:Nat)),(16,iv (i:Nat))] [.box t0.cells,.box p.cells,.box zX,.row Ty.Expr (zad l) false]
noncomputable def zu9 (t0:Tp) (p:Pl) (w:Int) (io:Nat) (f:Fr) (i:Nat) (l:List X):Cfg:=zan B.AB 1 [(0,.p 0 0),(2,iv w),(4,.p 1 0),(6,.p 2 0),(8,.own 3 l.length),(9,iv (io:Nat)),(10,.p 4 0),(14,fsl p.frs),(15,iv ((p.frs.map Fr.cells).length:Nat)),(16,iv (io:Nat)),(22,.sl (f.cols.map Col.cells)),(23,iv ((f.cols.map Col.cells).length:Nat)),(24,iv (i:Nat))] [.box t0.cells,.box p.cells,.box zX,.row Ty.Expr (zad l) false,.box f.cells]
theorem zfJ (t0:Tp) (p:Pl) (w:Int) (io:Nat) (f:Fr) (hl:Few f.cols) (hio:io<=1000) (hfi:p.frs[io]?=some f) (hfl:p.frs.length<=1000) (i:Nat) (l:List X) (hi:i<=(f.cols).length) (hI:l.length+2 * (f.cols.length - i)<=2000 * (io+1)/\zgV p.frs w l):∃ (l':List X),(l'.length+2 * (f.cols.length - (f.cols).length)<=2000 * (io+1)/\zgV p.frs w l')/\(decide ((((f.cols).length:Nat):Int) < (((f.cols.map Col.cells).length:Nat):Int))=false)/\∀ R,Good E0 B.AB [.box t0.cells] (zu9 t0 p w io f (f.cols).length l') R->Good E0 B.AB [.box t0.cells] (zu9 t0 p w io f i l) R:=by
 have hk:=hi;revert i l;refine zlp ((f.cols).length) (fun i hlt ih l hi hI _=>?_)
 obtain ⟨x,hx,h0,hw⟩:=zlq (l:=f.cols) ((f.cols.map Col.cells).length) hlt
 have hil:=zfM hx;have hlen:l.length<=2002000:=by omega
 let p_1:List St:=[sb h0,se (zai Col.cells hx rfl)]
 cases h1:x.type != w
 ·let p_2:List St:=p_1++[sb h1,sc (zaO f.name x.name),sqA (zad l) [[iv (xCol f.name x.name).kind,iv (xCol f.name x.name).op,bv (xCol f.name x.name).not,iv (xCol f.name x.name).val.kind,iv (xCol f.name x.name).val.int,sv (xCol f.name x.name).val.text,sv (xCol f.name x.name).table,sv (xCol f.name x.name).name,AV.sl (zad []),AV.sl (zal [])]] l.length 10 136]
  cases h2:!f.strict
  ·exact Zih (ih (l++[xCol f.name x.name]) Zo zsE Zo) fun R gY=>zaa (wkl (p_2++[sb h2,si hw]) [0,2,4,6,8,9,10,14,15,16,22,23,24] 5 kr (zaE 8 3 (zad l++[(xCol f.name x.name).cells]) gY (he:=Zcv0) (hm:=Zcv0)))
  ·let p_3:List St:=p_2++[sg h2,si (e:=IntKind.i64.wrap ((↑(List.map Fr.cells p.frs).length:Int) - 1)) rfl]
   cases h3:(io:Int)==IntKind.i64.wrap ((↑(List.map Fr.cells p.frs).length:Int) - 1)
   ·exact Zih (ih (l++[xCol f.name x.name]) Zo zsE Zo) fun R gY=>zaa (wkl (p_3++[sb h3,si hw]) [0,2,4,6,8,9,10,14,15,16,22,23,24] 5 kr (zaE 8 3 (zad l++[(xCol f.name x.name).cells]) gY (he:=Zcv0) (hm:=Zcv0)))
   ·exact Zih (ih (l++[xCol f.name x.name]++[xCol Zs0 x.name]) Zo zsE Zo) fun R gY=>zaa (wkl (p_3++[sb h3,sc (zaO Zs0 x.name),sqA (zad l++[(xCol f.name x.name).cells]) [(xCol Zs0 x.name).cells] ((zad l++[(xCol f.name x.name).cells]).length) 10 136,si hw]) [0,2,4,6,8,9,10,14,15,16,22,23,24] 5 kr (zaE 8 3 (zad l++[(xCol f.name x.name).cells]++[(xCol Zs0 x.name).cells]) gY (he:=Zcv0) (hm:=Zcv0)))
 ·exact Zih (ih l Zo zsE Zo) fun R gY=>zaa (wkl (p_1++[sb h1,si hw]) [0,2,4,6,8,9,10,14,15,16,22,23,24] 5 kr gY)
theorem zfK (t0:Tp) (p:Pl) (w:Int) (hf:Few p.frs) (hc:∀ f∈p.frs,Few f.cols) (i:Nat) (l:List X) (hi:i<=(p.frs).length) (hI:l.length<=2000 * i/\zgV p.frs w l):∃ (l':List X),(l'.length<=2000 * (p.frs).length/\zgV p.frs w l')/\(decide ((((p.frs).length:Nat):Int) < (((p.frs.map Fr.cells).length:Nat):Int))=false)/\∀ R,Good E0 B.AB [.box t0.cells] (zva t0 p w (p.frs).length l') R->Good E0 B.AB [.box t0.cells] (zva t0 p w i l) R:=by
 have hk:=hi;revert i l;refine zlp ((p.frs).length) (fun i hlt ih l hi hI _=>?_)
 obtain ⟨x,hx,h0,hw⟩:=zlq (l:=p.frs) ((p.frs.map Fr.cells).length) hlt
 have hfx:=hc x (List.mem_of_getElem? hx);have hix:i<=1000:=by simp only [Few] at hf;omega
 obtain ⟨l1,q1,q1_1,g1⟩:=zfJ t0 p w i x znV znV znV znV 0 l znV znV
 exact Zih (ih l1 Zo (by first|trivial|assumption|(simp;done)|omega|(simp;omega)|(simp at *;omega)) Zo) fun R gY=>zaa (wkl [sb h0,se (zai Fr.cells hx rfl)] [0,2,4,6,8,9,10,14,15,16,22,23,24] 5 kr (g1 _ (zaa (wkl [sb q1_1,si hw] [0,2,4,6,8,14,15,16] 4 kr gY))))
theorem zx3 (frs:List Fr) (w:Int):zgV frs w []:=fun _ h=>by cases h
theorem zb8 (t:Tp) (p:Pl) (w:Int) (hf:Few p.frs) (hc:∀ f∈p.frs,Few f.cols):∃ (x:X) (ok:Bool) (t':Tp),(ok=true->ColT p.frs w x)/\zab E0 S.AB [.p 0 0,p.av,iv w] [.box t.cells] (.tup [x.av,bv ok]) [.box t'.cells]:=by
 obtain ⟨l1,q1,q1_1,g1⟩:=zfK t p w znU znU 0 ([]) znU znU
 let p_1:List St:=[sb q1_1,sqx (l1.length=(zad l1).length)]
 cases h2:(l1.length:Int)==0
 ·obtain ⟨a3,t3,q3,c3⟩:=(zag t ((l1.length:Int)) znU)
  obtain ⟨x4,e4⟩:=zbK (l:=l1) (i:=(a3:Int).toNat) znU
  exact ⟨x4,true,t3,(by first|(simp;done)|exact fun _=>(‹_/\zgV _ _ _›).2 _ (List.mem_of_getElem? ‹_›)),wkcN At.AB [] [0,2,4,6,8,14,15,16] 3 [(.ot 8 Ty.Expr,4)] kr (g1 _ (zaa (wkr (p_1++[sb h2,sqx (l1.length=(zad l1).length),sl [0] c3,sqx (OwnAt (zad l1) l1.length (a3:Int)),sx (.el x4.cells) (zvy (n:=l1.length) Zs e4)]) kr)))⟩
 ·exact ⟨X.mk 0 0 false (V.mk 0 0 Zs0) Zs0 Zs0 [] [],false,t,(by first|(simp;done)|exact fun _=>(‹_/\zgV _ _ _›).2 _ (List.mem_of_getElem? ‹_›)),wkcN At.AB [] [0,2,4,6,8,14,15,16] 3 [(.ot 8 Ty.Expr,4)] kr (g1 _ (zaa (wkr (p_1++[sb h2]) kr)))⟩
section
variable {tbs : List Sch} {n : Nat} {frs : List Fr} {w : Int} {a b : X}
theorem zqv {a:Int} (h:-9223372036854775808 < a) (h2:a<=9223372036854775807):XT tbs (n+2) frs 1 (xNum a):=by
 unfold xNum
 cases hd:decide (a < 0)
 ·simp only [decide_eq_false_iff_not] at hd
  exact .lit (zcB ⟨by omega,by omega⟩) (.inr rfl) (fun _=>by show (0:Int)<=a;omega)
 ·simp only [decide_eq_true_eq] at hd
  have hw:IntKind.i64.wrap (-a)=-a:=by rw [IntKind.wrap_i64];omega
  exact .un (.inr ⟨rfl,rfl⟩) (.lit (zcB (zgG _)) (.inr rfl) (fun _=>by show (0:Int)<=IntKind.i64.wrap (-a);omega))
theorem zvQ {a:Int} (hw:(w==1)=true) (h:-9223372036854775808 < a) (h2:a<=9223372036854775807):XT tbs (n+2) frs w (xNum a):=by
 rw [show w=1 by simpa using hw];exact zqv h h2
theorem zqY {v:V} (hw:(w==1)=false) (h:v.kind=zb7 w/\v.Good):XT tbs (n+1) frs w (xLit v):=by
 have h1:w≠1:=by simpa using hw
 refine .lit h.2 ?_ fun h2=>?_
 ·rw [h.1];unfold zb7;split
  ·exact .inr rfl
  ·exact .inl rfl
 ·exfalso;rw [h.1] at h2;unfold zb7 at h2;split at h2 <;> omega
theorem zoZ {op:Int} (hw:(w==1)=true) (ho:9<=op/\op<=13) (ha:XT tbs n frs w a) (hb:XT tbs n frs w b):XT tbs (n+1) frs w (xA 5 op false [a,b]):=by
 have e:w=1:=by simpa using hw
 subst e
 exact .bin (.inr (.inr ⟨ho.1,ho.2,rfl,rfl⟩)) ha hb
theorem xt_neg (hw:(w==1)=true) (ha:XT tbs n frs w a):XT tbs (n+1) frs w (xA 4 0 false [a]):=by
 have e:w=1:=by simpa using hw
 subst e
 exact .un (.inr ⟨rfl,rfl⟩) ha
theorem zy5 {op w':Int} (ho:3<=op/\op<=8) (ha:XT tbs n frs w' a) (hb:XT tbs n frs w' b):XT tbs (n+1) frs 2 (xA 5 op false [a,b]):=.bin (.inr (.inl ⟨ho.1,ho.2,rfl⟩)) ha hb
theorem zy7 {op:Int} (ho:1<=op/\op<=2) (ha:XT tbs n frs 2 a) (hb:XT tbs n frs 2 b):XT tbs (n+1) frs 2 (xA 5 op false [a,b]):=.bin (.inl ⟨ho.1,ho.2,rfl,rfl⟩) ha hb
theorem xt_qW {k:Int} (hw:(w==1)=true) (h:XT tbs n frs (bif k==8 then 2 else 1) a) (hk:(k==8)=false):XT tbs n frs w a:=by
 rw [show w=1 by simpa using hw];rw [hk] at h;exact h
theorem xt_2W (hw:(w==2)=true) (h:XT tbs n frs 2 a):XT tbs n frs w a:=by
 rw [show w=2 by simpa using hw];exact h
theorem opAt_r {k:Nat} (h:(k:Int) < 6):9<=opAt k/\opAt k<=13:=by
 have h:k=0\/k=1\/k=2\/k=3\/k=4\/k=5:=by omega
 rcases h with rfl|rfl|rfl|rfl|rfl|rfl <;> decide
theorem qryT_0 {k:Int} (h:8<=k/\k<=12) (h2:decide (10<=k)=false):QryT k (bif k==8 then 2 else 1) (k==8) 0:=by
 simp only [decide_eq_false_iff_not] at h2
 have:k=8\/k=9:=by omega
 rcases this with rfl|rfl
 ·exact .inl ⟨rfl,rfl,rfl,rfl⟩
 ·exact .inr (.inl ⟨rfl,rfl,rfl,rfl⟩)
theorem qryT_1 {k:Int} (h:8<=k/\k<=12) (h2:decide (10<=k)=true):QryT k (bif k==8 then 2 else 1) (k==8) 1:=by
 simp only [decide_eq_true_eq] at h2
 have:k=10\/k=11\/k=12:=by omega
 rcases this with rfl|rfl|rfl <;> exact .inr (.inr ⟨by omega,by omega,rfl,rfl,rfl⟩)
theorem xt0 {s:Sch} {w:Int}:∀ x∈([]:List X),XT tbs n (frIn frs s) w x:=fun x hx=>by cases hx
theorem xt1 {s:Sch} {w:Int} (h:XT tbs n (frIn frs s) w a):∀ x∈[a],XT tbs n (frIn frs s) w x:=fun x hx=>by simp only [List.mem_singleton] at hx;exact hx ▸ h
end
def PIn (p pi:Pl):Prop:=∃ (k:Nat) (s:Sch),p.tbs[k]?=some s/\pi=plIn p s
abbrev RecT (n m:Nat) (d:Int):Prop:=∀ (t:Tp) (p:Pl) (w:Int),p.OkN n->∃ (e:X) (t':Tp),XT p.tbs m p.frs w e/\zab E0 S.Ac [.p 0 0,p.av,iv w,iv d] [.box t.cells] e.av [.box t'.cells]
theorem ztc (t:Tp) (p:Pl) (m:Nat) (d:Int) (hf:∀ (t:Tp) (w:Int),∃ (e:X) (t':Tp),XT p.tbs m p.frs w e/\zab E0 S.Ac [.p 0 0,p.av,iv w,iv (IntKind.i64.wrap (d - 1))] [.box t.cells] e.av [.box t'.cells]):∃ (x:X) (t':Tp),XT p.tbs (m+1) p.frs 2 x/\zab E0 S.Bd [.p 0 0,p.av,iv d] [.box t.cells] x.av [.box t'.cells]:=by
 obtain ⟨a1,t1,q1,c1⟩:=(zag t 3 zng)
 obtain ⟨a2,t2,q2,c2⟩:=(zag t1 6 zng)
 let p_1:List St:=[sl [0] c1,si (e:=IntKind.i64.wrap (1+(a1:Int))) rfl,sl [0] c2]
 cases h3:(a2:Int)==0
 ·cases h4:(a2:Int)==1
  ·cases h5:(a2:Int)==2
   ·cases h6:(a2:Int)==3
    ·obtain ⟨a7,t7,q7,c7⟩:=(zag t2 6 zng)
     obtain ⟨e8,t8,q8,c8⟩:=(hf t7 (IntKind.i64.wrap (1+(a1:Int))))
     obtain ⟨e9,t9,q9,c9⟩:=(hf t8 (IntKind.i64.wrap (1+(a1:Int))))
     exact ⟨xBin (IntKind.i64.wrap (3+(a7:Int))) e8 e9,t9,zp2,wk At.Bd (p_1++[sb h3,sb h4,sb h5,sb h6,sd [(7,[si (e:=IntKind.i64.wrap (d - 1)) rfl]),(13,[si (e:=IntKind.i64.wrap (d - 1)) rfl]),(1,[sl [0] c7]),(2,[si (e:=IntKind.i64.wrap (3+(a7:Int))) rfl]),(8,[sl [0] c8]),(14,[sl [0] c9]),(15,[sc (zaC (IntKind.i64.wrap (3+(a7:Int))) e8 e9)])]]) kr⟩
    ·obtain ⟨e10,t10,q10,c10⟩:=(hf t2 1)
     obtain ⟨e11,t11,q11,c11⟩:=(hf t10 1)
     obtain ⟨e12,t12,q12,c12⟩:=(hf t11 1)
     exact ⟨X.mk 7 0 false (V.mk 0 0 Zs0) Zs0 Zs0 [e10,e11,e12] [],t12,zp2,(by (try simp only [zsl,xCol,xLit,xBin,xNeg]);exact wk At.Bd (p_1++[sb h3,sb h4,sb h5,sb h6,sd [(3,[si (e:=IntKind.i64.wrap (d - 1)) rfl]),(8,[si (e:=IntKind.i64.wrap (d - 1)) rfl]),(13,[si (e:=IntKind.i64.wrap (d - 1)) rfl]),(4,[sl [0] c10]),(9,[sl [0] c11]),(14,[sl [0] c12])]]) kr)⟩
   ·obtain ⟨b13,t13,c13⟩:=(zam t2 2 zng)
    obtain ⟨e14,t14,q14,c14⟩:=(hf t13 (IntKind.i64.wrap (1+(a1:Int))))
    exact ⟨X.mk 6 0 b13 (V.mk 0 0 Zs0) Zs0 Zs0 [e14] [],t14,zp2,(by (try simp only [zsl,xCol,xLit,xBin,xNeg]);exact wk At.Bd (p_1++[sb h3,sb h4,sb h5,sd [(6,[si (e:=IntKind.i64.wrap (d - 1)) rfl]),(1,[sl [0] c13]),(7,[sl [0] c14])]]) kr)⟩
  ·obtain ⟨a15,t15,q15,c15⟩:=(zag t2 2 zng)
   obtain ⟨e16,t16,q16,c16⟩:=(hf t15 2)
   obtain ⟨e17,t17,q17,c17⟩:=(hf t16 2)
   exact ⟨xBin (IntKind.i64.wrap (1+(a15:Int))) e16 e17,t17,zp2,wk At.Bd (p_1++[sb h3,sb h4,sd [(6,[si (e:=IntKind.i64.wrap (d - 1)) rfl]),(11,[si (e:=IntKind.i64.wrap (d - 1)) rfl]),(1,[sl [0] c15]),(2,[si (e:=IntKind.i64.wrap (1+(a15:Int))) rfl]),(7,[sl [0] c16]),(12,[sl [0] c17]),(13,[sc (zaC (IntKind.i64.wrap (1+(a15:Int))) e16 e17)])]]) kr⟩
 ·obtain ⟨e18,t18,q18,c18⟩:=(hf t2 2)
  exact ⟨X.mk 3 0 false (V.mk 0 0 Zs0) Zs0 Zs0 [e18] [],t18,zp2,(by (try simp only [zsl,xCol,xLit,xBin,xNeg]);exact wk At.Bd (p_1++[sb h3,si (e:=IntKind.i64.wrap (d - 1)) rfl,sl [0] c18]) kr)⟩
theorem zzA (t:Tp) (p:Pl) (kind:Int) (m:Nat) (d:Int) (hk:8<=kind/\kind<=12) (hps:Pos (((p.tbs.map Sch.cells).length:Nat):Int)) (hpf:zac p.frs) (hf1:∀ (t:Tp) (pi:Pl) (w:Int),PIn p pi->∃ (e:X) (t':Tp),XT p.tbs m pi.frs w e/\zab E0 S.Ac [.p 0 0,pi.av,iv w,iv (IntKind.i64.wrap (d - 1))] [.box t.cells] e.av [.box t'.cells]) (hf2:∀ (t:Tp) (pi:Pl) (w:Int),PIn p pi->∃ (e:X) (t':Tp),XT p.tbs m pi.frs w e/\zab E0 S.Ac [.p 0 0,pi.av,iv w,iv (IntKind.i64.wrap (d - 2))] [.box t.cells] e.av [.box t'.cells]):∃ (x:X) (t':Tp),XT p.tbs (m+1) p.frs (bif kind==8 then 2 else 1) x/\zab E0 S.B2 [.p 0 0,p.av,iv kind,iv d] [.box t.cells] x.av [.box t'.cells]:=by
 obtain ⟨a1,t1,q1,c1⟩:=(zag t ((↑(List.map Sch.cells p.tbs).length:Int)) zj1)
 obtain ⟨x2,e2⟩:=zbK (l:=p.tbs) (i:=a1) zj1
 let p_1:List St:=[sdm [(6,[sl [0] c1]),(7,[se (zai Sch.cells e2 rfl)])] 0 [(0,AV.p 0 0),(1,AV.agg [fsl p.frs,ZS p.tbs]),(2,iv kind),(3,iv d),(5,AV.p 1 0),(8,AV.p 2 0),(9,AV.p 3 0),(12,AV.p 1 1),(13,ZS p.tbs),(14,AV.p 0 0),(15,AV.p 1 1),(16,ZS p.tbs),(17,iv (↑(List.map Sch.cells p.tbs).length:Int)),(18,iv (a1:Int)),(19,AV.dp [sv x2.name,ZC x2.cols]),(20,AV.agg [sv x2.name,ZC x2.cols])] [Blk.box [AV.sl (List.map (fun n=>[iv n]) t1.l),iv (t1.pos:Int)],Blk.box [fsl p.frs,ZS p.tbs],Blk.box [iv 0,iv 0,AV.bl false,iv 0,iv 0,sv Zs0,sv Zs0,sv Zs0,AV.nl,AV.nl],Blk.box [sv x2.name,ZC x2.cols]],sc (zbX p x2 zj1)]
 cases h3:decide (10<=kind)
 ·obtain ⟨b4,t4,c4⟩:=(zam t1 3 zj1)
  cases h5:!b4
  ·exact ⟨X.mk kind (0:Int) false (V.mk (0:Int) (0:Int) Zs0) Zs0 Zs0 [] [Qy.mk (kind==(8:Int)) [] x2.name []],t4,zsD,(by (try simp only [zsl,xCol,xLit,xBin,xNeg]);exact wk At.B2 (p_1++[sb h3,sl [0] c4,sb h5]) kr)⟩
  ·obtain ⟨e6,t6,q6,c6⟩:=(hf1 t4 (plIn p x2) 2 zj1)
   exact ⟨X.mk kind (0:Int) false (V.mk (0:Int) (0:Int) Zs0) Zs0 Zs0 [] [Qy.mk (kind==(8:Int)) [] x2.name [e6]],t6,zsD,(by (try simp only [zsl,xCol,xLit,xBin,xNeg]);exact wk At.B2 (p_1++[sb h3,sl [0] c4,sb h5,si (e:=IntKind.i64.wrap (d - 1)) rfl,sl [0] c6]) kr)⟩
 ·obtain ⟨e7,t7,q7,c7⟩:=(hf2 t1 (plIn p x2) 1 zj1)
  obtain ⟨b8,t8,c8⟩:=(zam t7 3 zj1)
  let p_2:List St:=p_1++[sb h3,si (e:=IntKind.i64.wrap (d - 2)) rfl,sl [0] c7,sl [0] c8]
  cases h9:!b8
  ·exact ⟨X.mk kind (0:Int) false (V.mk (0:Int) (0:Int) Zs0) Zs0 Zs0 [] [Qy.mk (kind==(8:Int)) [e7] x2.name []],t8,zsD,(by (try simp only [zsl,xCol,xLit,xBin,xNeg]);exact wk At.B2 (p_2++[sb h9]) kr)⟩
  ·obtain ⟨e10,t10,q10,c10⟩:=(hf1 t8 (plIn p x2) 2 zj1)
   exact ⟨X.mk kind (0:Int) false (V.mk (0:Int) (0:Int) Zs0) Zs0 Zs0 [] [Qy.mk (kind==(8:Int)) [e7] x2.name [e10]],t10,zsD,(by (try simp only [zsl,xCol,xLit,xBin,xNeg]);exact wk At.B2 (p_2++[sb h9,si (e:=IntKind.i64.wrap (d - 1)) rfl,sl [0] c10]) kr)⟩
theorem zta (t:Tp) (p:Pl) (w:Int) (d:Int) (hd:decide (d<=(0:Int))=true) (hd2:decide ((0:Int) < d)=false) (hcol:∀ (t:Tp) (w:Int),∃ (x:X) (ok:Bool) (t':Tp),(ok=true->ColT p.frs w x)/\zab E0 S.AB [.p 0 0,p.av,iv w] [.box t.cells] (.tup [x.av,bv ok]) [.box t'.cells]):∃ (x:X) (t':Tp),XT p.tbs 2 p.frs w x/\zab E0 S.Ac [.p 0 0,p.av,iv w,iv d] [.box t.cells] x.av [.box t'.cells]:=by
 obtain ⟨a1,t1,q1,c1⟩:=(zag t 6 zet)
 cases h2:decide (4<=(a1:Int))
 ·obtain ⟨x3,ok3,t3,q3,c3⟩:=(hcol t1 w)
  rcases (Bool.eq_false_or_eq_true ok3).symm with h4|h4
  ·obtain ⟨b5,t5,c5⟩:=(zam t3 8 zet)
   let p_1:List St:=[sl [0] c1,sb h2,sb hd,sl [0] c3,sb h4,sl [0] c5]
   rcases (Bool.eq_false_or_eq_true b5).symm with h6|h6
   ·cases h7:w==1
    ·obtain ⟨v8,t8,q8,c8⟩:=(za5 t5 w)
     exact ⟨xLit v8,t8,zea,wk At.Ac (p_1++[sb h6,sb h7,sl [0] c8,sc (zaT v8)]) kr⟩
    ·obtain ⟨a9,t9,q9,c9⟩:=(zaW t5)
     exact ⟨xNum a9,t9,zea,wk At.Ac (p_1++[sb h6,sb h7,sl [0] c9,sc (za2 a9 zet)]) kr⟩
   ·exact ⟨xLit (V.mk 0 0 Zs0),t5,zea,wk At.Ac (p_1++[sb h6,sc (zaT (V.mk 0 0 Zs0))]) kr⟩
  ·obtain ⟨b10,t10,c10⟩:=(zam t3 3 zet)
   let p_2:List St:=[sl [0] c1,sb h2,sb hd,sl [0] c3,sg h4,sl [0] c10]
   cases h11:!b10
   ·obtain ⟨b12,t12,c12⟩:=(zam t10 8 zet)
    rcases (Bool.eq_false_or_eq_true b12).symm with h13|h13
    ·cases h14:w==1
     ·obtain ⟨v15,t15,q15,c15⟩:=(za5 t12 w)
      exact ⟨xLit v15,t15,zea,wk At.Ac (p_2++[sb h11,sl [0] c12,sb h13,sb h14,sl [0] c15,sc (zaT v15)]) kr⟩
     ·obtain ⟨a16,t16,q16,c16⟩:=(zaW t12)
      exact ⟨xNum a16,t16,zea,wk At.Ac (p_2++[sb h11,sl [0] c12,sb h13,sb h14,sl [0] c16,sc (za2 a16 zet)]) kr⟩
    ·exact ⟨xLit (V.mk 0 0 Zs0),t12,zea,wk At.Ac (p_2++[sb h11,sl [0] c12,sb h13,sc (zaT (V.mk 0 0 Zs0))]) kr⟩
   ·exact ⟨x3,t10,zea,wk At.Ac (p_2++[sb h11]) kr⟩
 ·obtain ⟨x17,ok17,t17,q17,c17⟩:=(hcol t1 w)
  let p_3:List St:=[sl [0] c1,sg h2,sb hd2,sb hd,sl [0] c17]
  rcases (Bool.eq_false_or_eq_true ok17).symm with h18|h18
  ·obtain ⟨b19,t19,c19⟩:=(zam t17 8 zet)
   rcases (Bool.eq_false_or_eq_true b19).symm with h20|h20
   ·cases h21:w==1
    ·obtain ⟨v22,t22,q22,c22⟩:=(za5 t19 w)
     exact ⟨xLit v22,t22,zea,wk At.Ac (p_3++[sb h18,sl [0] c19,sb h20,sb h21,sl [0] c22,sc (zaT v22)]) kr⟩
    ·obtain ⟨a23,t23,q23,c23⟩:=(zaW t19)
     exact ⟨xNum a23,t23,zea,wk At.Ac (p_3++[sb h18,sl [0] c19,sb h20,sb h21,sl [0] c23,sc (za2 a23 zet)]) kr⟩
   ·exact ⟨xLit (V.mk 0 0 Zs0),t19,zea,wk At.Ac (p_3++[sb h18,sl [0] c19,sb h20,sc (zaT (V.mk 0 0 Zs0))]) kr⟩
  ·obtain ⟨b24,t24,c24⟩:=(zam t17 3 zet)
   cases h25:!b24
   ·obtain ⟨b26,t26,c26⟩:=(zam t24 8 zet)
    let p_4:List St:=p_3++[sg h18,sl [0] c24,sb h25,sl [0] c26]
    rcases (Bool.eq_false_or_eq_true b26).symm with h27|h27
    ·cases h28:w==1
     ·obtain ⟨v29,t29,q29,c29⟩:=(za5 t26 w)
      exact ⟨xLit v29,t29,zea,wk At.Ac (p_4++[sb h27,sb h28,sl [0] c29,sc (zaT v29)]) kr⟩
     ·obtain ⟨a30,t30,q30,c30⟩:=(zaW t26)
      exact ⟨xNum a30,t30,zea,wk At.Ac (p_4++[sb h27,sb h28,sl [0] c30,sc (za2 a30 zet)]) kr⟩
    ·exact ⟨xLit (V.mk 0 0 Zs0),t26,zea,wk At.Ac (p_4++[sb h27,sc (zaT (V.mk 0 0 Zs0))]) kr⟩
   ·exact ⟨x17,t24,zea,wk At.Ac (p_3++[sg h18,sl [0] c24,sb h25]) kr⟩
theorem zzo (t:Tp) (p:Pl) (w:Int) (d:Int) (m:Nat) (hd:decide (d<=(0:Int))=false) (hd2:decide ((0:Int) < d)=true) (hcol:∀ (t:Tp) (w:Int),∃ (x:X) (ok:Bool) (t':Tp),(ok=true->ColT p.frs w x)/\zab E0 S.AB [.p 0 0,p.av,iv w] [.box t.cells] (.tup [x.av,bv ok]) [.box t'.cells]) (hf1:∀ (t:Tp) (w:Int),∃ (e:X) (t':Tp),XT p.tbs (m+1) p.frs w e/\zab E0 S.Ac [.p 0 0,p.av,iv w,iv (IntKind.i64.wrap (d - 1))] [.box t.cells] e.av [.box t'.cells]) (hq:∀ (t:Tp) (k:Int),8<=k/\k<=12->∃ (e:X) (t':Tp),XT p.tbs (m+2) p.frs (bif k==8 then 2 else 1) e/\zab E0 S.B2 [.p 0 0,p.av,iv k,iv d] [.box t.cells] e.av [.box t'.cells]) (hcd:∀ (t:Tp),∃ (e:X) (t':Tp),XT p.tbs (m+2) p.frs 2 e/\zab E0 S.Bd [.p 0 0,p.av,iv d] [.box t.cells] e.av [.box t'.cells]):∃ (x:X) (t':Tp),XT p.tbs (m+2) p.frs w x/\zab E0 S.Ac [.p 0 0,p.av,iv w,iv d] [.box t.cells] x.av [.box t'.cells]:=by
 obtain ⟨a1,t1,q1,c1⟩:=(zag t 6 za8)
 cases h2:decide (4<=(a1:Int))
 ·cases h3:decide (3<=(a1:Int))
  ·cases h4:w==1
   ·cases h5:w==2
    ·obtain ⟨v6,t6,q6,c6⟩:=(za5 t1 w)
     exact ⟨xLit v6,t6,zbd,wk At.Ac [sl [0] c1,sb h2,sg hd,sb h3,sb h4,sb h5,sb h4,sb h5,sl [0] c6,sc (zaT v6)] kr⟩
    ·let p_1:List St:=[sl [0] c1,sb h2,sg hd,sb h3,sb h4,sg h5]
     cases h7:(a1:Int)==0
     ·obtain ⟨e8,t8,q8,c8⟩:=(hcd t1)
      exact ⟨e8,t8,zbd,wk At.Ac (p_1++[sb h7,sb h4,sb h5,sl [0] c8]) kr⟩
     ·cases h9:decide (0 < (↑(List.map Sch.cells p.tbs).length:Int))
      ·obtain ⟨e10,t10,q10,c10⟩:=(hcd t1)
       exact ⟨e10,t10,zbd,wk At.Ac (p_1++[sg h7,sb h9,sb h4,sb h5,sl [0] c10]) kr⟩
      ·obtain ⟨b11,t11,c11⟩:=(zam t1 2 za8)
       rcases (Bool.eq_false_or_eq_true b11).symm with h12|h12
       ·obtain ⟨e13,t13,q13,c13⟩:=(hcd t11)
        exact ⟨e13,t13,zbd,wk At.Ac (p_1++[sg h7,sg h9,sl [0] c11,sb h12,sb h4,sb h5,sl [0] c13]) kr⟩
       ·obtain ⟨e14,t14,q14,c14⟩:=(hq t11 8 za8)
        exact ⟨e14,t14,zbd,wk At.Ac (p_1++[sg h7,sg h9,sl [0] c11,sb h12,sl [0] c14]) kr⟩
   ·cases h15:(a1:Int)==0
    ·let p_2:List St:=[sl [0] c1,sb h2,sg hd,sb h3,sg h4,sb h15]
     cases h16:w==2
     ·obtain ⟨b17,t17,c17⟩:=(zam t1 6 za8)
      rcases (Bool.eq_false_or_eq_true b17).symm with h18|h18
      ·obtain ⟨a19,t19,q19,c19⟩:=(zag t17 6 za8)
       obtain ⟨e20,t20,q20,c20⟩:=(hf1 t19 w)
       obtain ⟨e21,t21,q21,c21⟩:=(hf1 t20 w)
       exact ⟨xBin (opAt a19) e20 e21,t21,zbd,wk At.Ac (p_2++[sb h16,sb h4,sl [0] c17,sb h18,sd [(9,[si (e:=IntKind.i64.wrap (d - 1)) rfl]),(15,[si (e:=IntKind.i64.wrap (d - 1)) rfl]),(2,[sl [0] c19]),(3,[se (zhf a19 za8)]),(10,[sl [0] c20]),(16,[sl [0] c21]),(17,[sc (zaC (opAt a19) e20 e21)])]]) kr⟩
      ·obtain ⟨e22,t22,q22,c22⟩:=(hf1 t17 w)
       exact ⟨X.mk 4 0 false (V.mk 0 0 Zs0) Zs0 Zs0 [e22] [],t22,zbd,(by (try simp only [zsl,xCol,xLit,xBin,xNeg]);exact wk At.Ac (p_2++[sb h16,sb h4,sl [0] c17,sb h18,si (e:=IntKind.i64.wrap (d - 1)) rfl,sl [0] c22]) kr)⟩
     ·obtain ⟨b23,t23,c23⟩:=(zam t1 6 za8)
      rcases (Bool.eq_false_or_eq_true b23).symm with h24|h24
      ·obtain ⟨a25,t25,q25,c25⟩:=(zag t23 6 za8)
       obtain ⟨e26,t26,q26,c26⟩:=(hf1 t25 w)
       obtain ⟨e27,t27,q27,c27⟩:=(hf1 t26 w)
       exact ⟨xBin (opAt a25) e26 e27,t27,zbd,wk At.Ac (p_2++[sg h16,sb h15,sb h4,sl [0] c23,sb h24,sd [(9,[si (e:=IntKind.i64.wrap (d - 1)) rfl]),(15,[si (e:=IntKind.i64.wrap (d - 1)) rfl]),(2,[sl [0] c25]),(3,[se (zhf a25 za8)]),(10,[sl [0] c26]),(16,[sl [0] c27]),(17,[sc (zaC (opAt a25) e26 e27)])]]) kr⟩
      ·obtain ⟨e28,t28,q28,c28⟩:=(hf1 t23 w)
       exact ⟨X.mk 4 0 false (V.mk 0 0 Zs0) Zs0 Zs0 [e28] [],t28,zbd,(by (try simp only [zsl,xCol,xLit,xBin,xNeg]);exact wk At.Ac (p_2++[sg h16,sb h15,sb h4,sl [0] c23,sb h24,si (e:=IntKind.i64.wrap (d - 1)) rfl,sl [0] c28]) kr)⟩
    ·let p_3:List St:=[sl [0] c1,sb h2,sg hd,sb h3,sg h4,sg h15]
     cases h29:decide (0 < (↑(List.map Sch.cells p.tbs).length:Int))
     ·cases h30:w==2
      ·obtain ⟨b31,t31,c31⟩:=(zam t1 6 za8)
       rcases (Bool.eq_false_or_eq_true b31).symm with h32|h32
       ·obtain ⟨a33,t33,q33,c33⟩:=(zag t31 6 za8)
        obtain ⟨e34,t34,q34,c34⟩:=(hf1 t33 w)
        obtain ⟨e35,t35,q35,c35⟩:=(hf1 t34 w)
        exact ⟨xBin (opAt a33) e34 e35,t35,zbd,wk At.Ac (p_3++[sb h29,sb h30,sb h4,sl [0] c31,sb h32,sd [(9,[si (e:=IntKind.i64.wrap (d - 1)) rfl]),(15,[si (e:=IntKind.i64.wrap (d - 1)) rfl]),(2,[sl [0] c33]),(3,[se (zhf a33 za8)]),(10,[sl [0] c34]),(16,[sl [0] c35]),(17,[sc (zaC (opAt a33) e34 e35)])]]) kr⟩
       ·obtain ⟨e36,t36,q36,c36⟩:=(hf1 t31 w)
        exact ⟨X.mk 4 0 false (V.mk 0 0 Zs0) Zs0 Zs0 [e36] [],t36,zbd,(by (try simp only [zsl,xCol,xLit,xBin,xNeg]);exact wk At.Ac (p_3++[sb h29,sb h30,sb h4,sl [0] c31,sb h32,si (e:=IntKind.i64.wrap (d - 1)) rfl,sl [0] c36]) kr)⟩
      ·obtain ⟨b37,t37,c37⟩:=(zam t1 6 za8)
       let p_4:List St:=p_3++[sb h29,sg h30,sg h15,sb h29,sb h4,sl [0] c37]
       rcases (Bool.eq_false_or_eq_true b37).symm with h38|h38
       ·obtain ⟨a39,t39,q39,c39⟩:=(zag t37 6 za8)
        obtain ⟨e40,t40,q40,c40⟩:=(hf1 t39 w)
        obtain ⟨e41,t41,q41,c41⟩:=(hf1 t40 w)
        exact ⟨xBin (opAt a39) e40 e41,t41,zbd,wk At.Ac (p_4++[sb h38,sd [(9,[si (e:=IntKind.i64.wrap (d - 1)) rfl]),(15,[si (e:=IntKind.i64.wrap (d - 1)) rfl]),(2,[sl [0] c39]),(3,[se (zhf a39 za8)]),(10,[sl [0] c40]),(16,[sl [0] c41]),(17,[sc (zaC (opAt a39) e40 e41)])]]) kr⟩
       ·obtain ⟨e42,t42,q42,c42⟩:=(hf1 t37 w)
        exact ⟨X.mk 4 0 false (V.mk 0 0 Zs0) Zs0 Zs0 [e42] [],t42,zbd,(by (try simp only [zsl,xCol,xLit,xBin,xNeg]);exact wk At.Ac (p_4++[sb h38,si (e:=IntKind.i64.wrap (d - 1)) rfl,sl [0] c42]) kr)⟩
     ·obtain ⟨a43,t43,q43,c43⟩:=(zag t1 4 za8)
      obtain ⟨e44,t44,q44,c44⟩:=(hq t43 (IntKind.i64.wrap (9+(a43:Int))) za8)
      exact ⟨e44,t44,zbd,wk At.Ac (p_3++[sb h29,sd [(3,[sl [0] c43]),(4,[si (e:=IntKind.i64.wrap (9+(a43:Int))) rfl]),(6,[sl [0] c44])]]) kr⟩
  ·obtain ⟨x45,ok45,t45,q45,c45⟩:=(hcol t1 w)
   let p_5:List St:=[sl [0] c1,sb h2,sg hd,sb h3,sl [0] c45]
   rcases (Bool.eq_false_or_eq_true ok45).symm with h46|h46
   ·obtain ⟨b47,t47,c47⟩:=(zam t45 8 za8)
    rcases (Bool.eq_false_or_eq_true b47).symm with h48|h48
    ·cases h49:w==1
     ·obtain ⟨v50,t50,q50,c50⟩:=(za5 t47 w)
      exact ⟨xLit v50,t50,zbd,wk At.Ac (p_5++[sb h46,sl [0] c47,sb h48,sb h49,sl [0] c50,sc (zaT v50)]) kr⟩
     ·obtain ⟨a51,t51,q51,c51⟩:=(zaW t47)
      exact ⟨xNum a51,t51,zbd,wk At.Ac (p_5++[sb h46,sl [0] c47,sb h48,sb h49,sl [0] c51,sc (za2 a51 za8)]) kr⟩
    ·exact ⟨xLit (V.mk 0 0 Zs0),t47,zbd,wk At.Ac (p_5++[sb h46,sl [0] c47,sb h48,sc (zaT (V.mk 0 0 Zs0))]) kr⟩
   ·obtain ⟨b52,t52,c52⟩:=(zam t45 3 za8)
    cases h53:!b52
    ·obtain ⟨b54,t54,c54⟩:=(zam t52 8 za8)
     let p_6:List St:=p_5++[sg h46,sl [0] c52,sb h53,sl [0] c54]
     rcases (Bool.eq_false_or_eq_true b54).symm with h55|h55
     ·cases h56:w==1
      ·obtain ⟨v57,t57,q57,c57⟩:=(za5 t54 w)
       exact ⟨xLit v57,t57,zbd,wk At.Ac (p_6++[sb h55,sb h56,sl [0] c57,sc (zaT v57)]) kr⟩
      ·obtain ⟨a58,t58,q58,c58⟩:=(zaW t54)
       exact ⟨xNum a58,t58,zbd,wk At.Ac (p_6++[sb h55,sb h56,sl [0] c58,sc (za2 a58 za8)]) kr⟩
     ·exact ⟨xLit (V.mk 0 0 Zs0),t54,zbd,wk At.Ac (p_6++[sb h55,sc (zaT (V.mk 0 0 Zs0))]) kr⟩
    ·exact ⟨x45,t52,zbd,wk At.Ac (p_5++[sg h46,sl [0] c52,sb h53]) kr⟩
 ·obtain ⟨a59,t59,q59,c59⟩:=(zag t1 4 za8)
  let p_7:List St:=[sl [0] c1,sg h2,sb hd2,sl [0] c59,sg hd]
  cases h60:decide (3<=(a59:Int))
  ·cases h61:w==1
   ·cases h62:w==2
    ·obtain ⟨v63,t63,q63,c63⟩:=(za5 t59 w)
     exact ⟨xLit v63,t63,zbd,wk At.Ac (p_7++[sb h60,sb h61,sb h62,sb h61,sb h62,sl [0] c63,sc (zaT v63)]) kr⟩
    ·cases h64:(a59:Int)==0
     ·obtain ⟨e65,t65,q65,c65⟩:=(hcd t59)
      exact ⟨e65,t65,zbd,wk At.Ac (p_7++[sb h60,sb h61,sg h62,sb h64,sb h61,sb h62,sl [0] c65]) kr⟩
     ·cases h66:decide (0 < (↑(List.map Sch.cells p.tbs).length:Int))
      ·obtain ⟨e67,t67,q67,c67⟩:=(hcd t59)
       exact ⟨e67,t67,zbd,wk At.Ac (p_7++[sb h60,sb h61,sg h62,sg h64,sb h66,sb h61,sb h62,sl [0] c67]) kr⟩
      ·obtain ⟨b68,t68,c68⟩:=(zam t59 2 za8)
       let p_8:List St:=p_7++[sb h60,sb h61,sg h62,sg h64,sg h66,sl [0] c68]
       rcases (Bool.eq_false_or_eq_true b68).symm with h69|h69
       ·obtain ⟨e70,t70,q70,c70⟩:=(hcd t68)
        exact ⟨e70,t70,zbd,wk At.Ac (p_8++[sb h69,sb h61,sb h62,sl [0] c70]) kr⟩
       ·obtain ⟨e71,t71,q71,c71⟩:=(hq t68 8 za8)
        exact ⟨e71,t71,zbd,wk At.Ac (p_8++[sb h69,sl [0] c71]) kr⟩
   ·cases h72:(a59:Int)==0
    ·cases h73:w==2
     ·obtain ⟨b74,t74,c74⟩:=(zam t59 6 za8)
      let p_9:List St:=p_7++[sb h60,sg h61,sb h72,sb h73,sb h61,sl [0] c74]
      rcases (Bool.eq_false_or_eq_true b74).symm with h75|h75
      ·obtain ⟨a76,t76,q76,c76⟩:=(zag t74 6 za8)
       obtain ⟨e77,t77,q77,c77⟩:=(hf1 t76 w)
       obtain ⟨e78,t78,q78,c78⟩:=(hf1 t77 w)
       exact ⟨xBin (opAt a76) e77 e78,t78,zbd,wk At.Ac (p_9++[sb h75,sd [(9,[si (e:=IntKind.i64.wrap (d - 1)) rfl]),(15,[si (e:=IntKind.i64.wrap (d - 1)) rfl]),(2,[sl [0] c76]),(3,[se (zhf a76 za8)]),(10,[sl [0] c77]),(16,[sl [0] c78]),(17,[sc (zaC (opAt a76) e77 e78)])]]) kr⟩
      ·obtain ⟨e79,t79,q79,c79⟩:=(hf1 t74 w)
       exact ⟨X.mk 4 0 false (V.mk 0 0 Zs0) Zs0 Zs0 [e79] [],t79,zbd,(by (try simp only [zsl,xCol,xLit,xBin,xNeg]);exact wk At.Ac (p_9++[sb h75,si (e:=IntKind.i64.wrap (d - 1)) rfl,sl [0] c79]) kr)⟩
     ·obtain ⟨b80,t80,c80⟩:=(zam t59 6 za8)
      let p_10:List St:=p_7++[sb h60,sg h61,sb h72,sg h73,sb h72,sb h61,sl [0] c80]
      rcases (Bool.eq_false_or_eq_true b80).symm with h81|h81
      ·obtain ⟨a82,t82,q82,c82⟩:=(zag t80 6 za8)
       obtain ⟨e83,t83,q83,c83⟩:=(hf1 t82 w)
       obtain ⟨e84,t84,q84,c84⟩:=(hf1 t83 w)
       exact ⟨xBin (opAt a82) e83 e84,t84,zbd,wk At.Ac (p_10++[sb h81,sd [(9,[si (e:=IntKind.i64.wrap (d - 1)) rfl]),(15,[si (e:=IntKind.i64.wrap (d - 1)) rfl]),(2,[sl [0] c82]),(3,[se (zhf a82 za8)]),(10,[sl [0] c83]),(16,[sl [0] c84]),(17,[sc (zaC (opAt a82) e83 e84)])]]) kr⟩
      ·obtain ⟨e85,t85,q85,c85⟩:=(hf1 t80 w)
       exact ⟨X.mk 4 0 false (V.mk 0 0 Zs0) Zs0 Zs0 [e85] [],t85,zbd,(by (try simp only [zsl,xCol,xLit,xBin,xNeg]);exact wk At.Ac (p_10++[sb h81,si (e:=IntKind.i64.wrap (d - 1)) rfl,sl [0] c85]) kr)⟩
    ·cases h86:decide (0 < (↑(List.map Sch.cells p.tbs).length:Int))
     ·cases h87:w==2
      ·obtain ⟨b88,t88,c88⟩:=(zam t59 6 za8)
       let p_11:List St:=p_7++[sb h60,sg h61,sg h72,sb h86,sb h87,sb h61,sl [0] c88]
       rcases (Bool.eq_false_or_eq_true b88).symm with h89|h89
       ·obtain ⟨a90,t90,q90,c90⟩:=(zag t88 6 za8)
        obtain ⟨e91,t91,q91,c91⟩:=(hf1 t90 w)
        obtain ⟨e92,t92,q92,c92⟩:=(hf1 t91 w)
        exact ⟨xBin (opAt a90) e91 e92,t92,zbd,wk At.Ac (p_11++[sb h89,sd [(9,[si (e:=IntKind.i64.wrap (d - 1)) rfl]),(15,[si (e:=IntKind.i64.wrap (d - 1)) rfl]),(2,[sl [0] c90]),(3,[se (zhf a90 za8)]),(10,[sl [0] c91]),(16,[sl [0] c92]),(17,[sc (zaC (opAt a90) e91 e92)])]]) kr⟩
       ·obtain ⟨e93,t93,q93,c93⟩:=(hf1 t88 w)
        exact ⟨X.mk 4 0 false (V.mk 0 0 Zs0) Zs0 Zs0 [e93] [],t93,zbd,(by (try simp only [zsl,xCol,xLit,xBin,xNeg]);exact wk At.Ac (p_11++[sb h89,si (e:=IntKind.i64.wrap (d - 1)) rfl,sl [0] c93]) kr)⟩
      ·obtain ⟨b94,t94,c94⟩:=(zam t59 6 za8)
       let p_12:List St:=p_7++[sb h60,sg h61,sg h72,sb h86,sg h87,sg h72,sb h86,sb h61,sl [0] c94]
       rcases (Bool.eq_false_or_eq_true b94).symm with h95|h95
       ·obtain ⟨a96,t96,q96,c96⟩:=(zag t94 6 za8)
        obtain ⟨e97,t97,q97,c97⟩:=(hf1 t96 w)
        obtain ⟨e98,t98,q98,c98⟩:=(hf1 t97 w)
        exact ⟨xBin (opAt a96) e97 e98,t98,zbd,wk At.Ac (p_12++[sb h95,sd [(9,[si (e:=IntKind.i64.wrap (d - 1)) rfl]),(15,[si (e:=IntKind.i64.wrap (d - 1)) rfl]),(2,[sl [0] c96]),(3,[se (zhf a96 za8)]),(10,[sl [0] c97]),(16,[sl [0] c98]),(17,[sc (zaC (opAt a96) e97 e98)])]]) kr⟩
       ·obtain ⟨e99,t99,q99,c99⟩:=(hf1 t94 w)
        exact ⟨X.mk 4 0 false (V.mk 0 0 Zs0) Zs0 Zs0 [e99] [],t99,zbd,(by (try simp only [zsl,xCol,xLit,xBin,xNeg]);exact wk At.Ac (p_12++[sb h95,si (e:=IntKind.i64.wrap (d - 1)) rfl,sl [0] c99]) kr)⟩
     ·obtain ⟨a100,t100,q100,c100⟩:=(zag t59 4 za8)
      obtain ⟨e101,t101,q101,c101⟩:=(hq t100 (IntKind.i64.wrap (9+(a100:Int))) za8)
      exact ⟨e101,t101,zbd,wk At.Ac (p_7++[sb h60,sg h61,sg h72,sb h86,sd [(3,[sl [0] c100]),(4,[si (e:=IntKind.i64.wrap (9+(a100:Int))) rfl]),(6,[sl [0] c101])]]) kr⟩
  ·obtain ⟨x102,ok102,t102,q102,c102⟩:=(hcol t59 w)
   rcases (Bool.eq_false_or_eq_true ok102).symm with h103|h103
   ·obtain ⟨b104,t104,c104⟩:=(zam t102 8 za8)
    let p_13:List St:=p_7++[sb h60,sl [0] c102,sb h103,sl [0] c104]
    rcases (Bool.eq_false_or_eq_true b104).symm with h105|h105
    ·cases h106:w==1
     ·obtain ⟨v107,t107,q107,c107⟩:=(za5 t104 w)
      exact ⟨xLit v107,t107,zbd,wk At.Ac (p_13++[sb h105,sb h106,sl [0] c107,sc (zaT v107)]) kr⟩
     ·obtain ⟨a108,t108,q108,c108⟩:=(zaW t104)
      exact ⟨xNum a108,t108,zbd,wk At.Ac (p_13++[sb h105,sb h106,sl [0] c108,sc (za2 a108 za8)]) kr⟩
    ·exact ⟨xLit (V.mk 0 0 Zs0),t104,zbd,wk At.Ac (p_13++[sb h105,sc (zaT (V.mk 0 0 Zs0))]) kr⟩
   ·obtain ⟨b109,t109,c109⟩:=(zam t102 3 za8)
    let p_14:List St:=p_7++[sb h60,sl [0] c102,sg h103,sl [0] c109]
    cases h110:!b109
    ·obtain ⟨b111,t111,c111⟩:=(zam t109 8 za8)
     rcases (Bool.eq_false_or_eq_true b111).symm with h112|h112
     ·cases h113:w==1
      ·obtain ⟨v114,t114,q114,c114⟩:=(za5 t111 w)
       exact ⟨xLit v114,t114,zbd,wk At.Ac (p_14++[sb h110,sl [0] c111,sb h112,sb h113,sl [0] c114,sc (zaT v114)]) kr⟩
      ·obtain ⟨a115,t115,q115,c115⟩:=(zaW t111)
       exact ⟨xNum a115,t115,zbd,wk At.Ac (p_14++[sb h110,sl [0] c111,sb h112,sb h113,sl [0] c115,sc (za2 a115 za8)]) kr⟩
     ·exact ⟨xLit (V.mk 0 0 Zs0),t111,zbd,wk At.Ac (p_14++[sb h110,sl [0] c111,sb h112,sc (zaT (V.mk 0 0 Zs0))]) kr⟩
    ·exact ⟨x102,t109,zbd,wk At.Ac (p_14++[sb h110]) kr⟩
theorem zkD:∀ (n:Nat),n<=500->RecT n (n+2) (dpt n)
 | 0,_,t,p,w,hp=>zta t p w _ Zd Zd fun t w=>zb8 t p w hp.few1 hp.cols
 | 1,_,t,p,w,hp=>by
  obtain ⟨e,t',h,hc⟩:=zta t p w (dpt 1) Zd Zd fun t w=>zb8 t p w hp.few1 hp.cols
  exact ⟨e,t',h.mono,hc⟩
 | n+2,hn,t,p,w,hp=>by
  have h1:=zkD (n+1) Zo
  have h2:=zkD n Zo
  have e1:=dpt1 n Zo
  have e2:=dpt2 n Zo
  have hf1:RecT (n+1) (n+3) (IntKind.i64.wrap (dpt (n+2) - 1)):=by rw [e1];exact h1
  have hf2:RecT (n+1) (n+3) (IntKind.i64.wrap (dpt (n+2) - 2)):=by
   rw [e2]
   intro t p w hp
   obtain ⟨e,t',h,hc⟩:=h2 t p w hp.less
   exact ⟨e,t',h.mono,hc⟩
  exact zzo t p w (dpt (n+2)) (n+2) (by simp only [dpt];simp;omega) (by simp only [dpt];simp;omega) (fun t w=>zb8 t p w hp.few1 hp.cols) (fun t w=>hf1 t p w hp.less)
   (fun t k hk=>zzA t p k (n+3) (dpt (n+2)) hk hp.pos hp.short (fun t pi w ⟨k,s,hs,e⟩=>e ▸ hf1 t (plIn p s) w (hp.ins hs)) (fun t pi w ⟨k,s,hs,e⟩=>e ▸ hf2 t (plIn p s) w (hp.ins hs))) (fun t=>ztc t p (n+3) (dpt (n+2)) (fun t w=>hf1 t p w hp.less))
theorem zfg {p:Prop} (h:p:=by first|assumption|exact hp.pos|omega|exact hp.ins ‹_›|(simp [plIn];done)|(simp at *;omega)|exact hp.short|exact zq2):p:=h
theorem zp3 {p:Prop} (h:p:=by first|assumption|omega|(simp only [Few,List.length_drop,List.length_take];omega)|exact fun f hf=>hp.cols f (List.mem_of_mem_take (List.mem_of_mem_drop hf))|(simp;done)):p:=h
theorem zw3 {p:Prop} (h:p:=by first|exact zfO hI hx ‹_›|exact zfO hI hx (cpKey hkey hx ‹_› ((by assumption:_=true->ColT _ _ _) ‹_›) Zs Zo Zo hM)):p:=h
structure Deep (M:Nat):Prop where
 ge:3<=M
def zdI (tbs:List Sch) (M:Nat) (frs:List Fr) (cols:List Col) (i:Nat) (its:List X):Prop:=its.length=i/\∀ (j:Nat) (c:Col) (x:X),cols[j]?=some c->its[j]?=some x->XT tbs M frs c.type x
section
variable {tbs : List Sch} {M : Nat} {frs : List Fr} {cols : List Col} {i : Nat} {its : List X} {c : Col} {e e0 : X}
theorem zq2:zdI tbs M frs cols 0 []:=⟨rfl,fun j c x _ h=>by simp at h⟩
theorem zfO (h:zdI tbs M frs cols i its) (hx:cols[i]?=some c) (he:XT tbs M frs c.type e):zdI tbs M frs cols (i+1) (its++[e]):=by
 refine ⟨by simp [h.1],fun j c' x hc hj=>?_⟩
 by_cases hk:j < its.length
 ·rw [List.getElem?_append_left hk] at hj
  exact h.2 j c' x hc hj
 ·have h1:=h.1
  have h2:=zfM hj
  simp only [List.length_append,List.length_cons,List.length_nil] at h2
  have:j=i:=by omega
  subst this
  rw [hx] at hc;cases hc
  rw [List.getElem?_append_right Zo] at hj
  have h3:j - its.length=0:=by omega
  rw [h3] at hj
  simp only [List.getElem?_cons_zero,Option.some.injEq] at hj
  exact hj ▸ he
theorem zxY {k:Nat} {w:Int} {x:X} (h:ColT (frs.drop k) w x):ColT frs w x:=by
 obtain ⟨j,f,c,a,h1,h2,h3,h4,h5⟩:=h
 rw [List.getElem?_drop] at h1
 refine ⟨k+j,f,c,a,h1,h2,h3,h4,h5.imp id fun ⟨q1,q2,q3⟩=>⟨q1,q2,?_⟩⟩
 rw [List.length_drop] at q3;have:=zfM h1;omega
theorem zxZ {k n:Nat} {w:Int} {x:X} (hn:n=frs.length) (h:ColT ((frs.take n).drop k) w x):ColT frs w x:=by
 rw [List.take_of_length_le Zo] at h;exact zxY h
theorem cpKey {s:Sch} {x:X} {n k:Nat} {a:Int} (hs:∀ c∈s.cols,c.key=true->c.type=1) (hx:s.cols[i]?=some c) (hk:c.key=true) (hc:ColT ((frs.take n).drop k) 1 x) (hn:n=frs.length) (h:-9223372036854775808 < a) (h2:a<=9223372036854775807) (hM:Deep M):XT tbs M frs c.type (xA 5 9 false [x,xNum a]):=by
 rw [hs c (List.mem_of_getElem? hx) hk]
 exact (zoZ (n:=2) rfl ⟨by omega,by omega⟩ (.col (zxZ hn hc)) (zqv h h2)).le hM.ge
end
noncomputable def L_cpT (t0:Tp) (p pi:Pl) (s f:Sch) (d:Int) (M k:Nat) (i:Nat) (u:Tp) (its:List X):Cfg:=zan B.BD 0 [(0,.p 0 0),(3,iv d),(8,.p 3 0),(10,.p 5 0),(11,.p 6 0),(33,.sl (s.cols.map Col.cells)),(34,iv ((s.cols.map Col.cells).length:Nat)),(35,iv (i:Nat))] [.box u.cells,.box p.cells,.box s.cells,.box [.bl false,.nl,sv ⟨#[]⟩,.nl],.box f.cells,.box pi.cells,.box [.bl false,.own 7 its.length,sv f.name,.nl],.row Ty.Expr (zad its) false]
theorem zgu (t0:Tp) (p pi:Pl) (s f:Sch) (d:Int) (M k:Nat) (hp:pi.OkN k) (hs:Few s.cols) (hfr:pi.frs≠[]) (hkey:∀ c∈s.cols,c.key=true->c.type=1) (hM:Deep M) (hcol:∀ (t:Tp) (p:Pl) (w:Int),Few p.frs->(∀ f∈p.frs,Few f.cols)->∃ (x:X) (ok:Bool) (t':Tp),(ok=true->ColT p.frs w x)/\zab E0 S.AB [.p 0 0,p.av,iv w] [.box t.cells] (.tup [x.av,bv ok]) [.box t'.cells]) (hE:∀ (t:Tp) (p:Pl) (w:Int),p.OkN k->∃ (e:X) (t':Tp),XT p.tbs M p.frs w e/\zab E0 S.Ac [.p 0 0,p.av,iv w,iv d] [.box t.cells] e.av [.box t'.cells]) (i:Nat) (u:Tp) (its:List X) (hi:i<=(s.cols).length) (hI:zdI pi.tbs M pi.frs s.cols i its):∃ (u':Tp) (its':List X),(zdI pi.tbs M pi.frs s.cols (s.cols).length its')/\(decide ((((s.cols).length:Nat):Int) < (((s.cols.map Col.cells).length:Nat):Int))=false)/\∀ R,Good E0 B.BD [.box t0.cells] (L_cpT t0 p pi s f d M k (s.cols).length u' its') R->Good E0 B.BD [.box t0.cells] (L_cpT t0 p pi s f d M k i u its) R:=by
 have hk:=hi;revert i u its;refine zlp ((s.cols).length) (fun i hlt ih u its hi hI _=>?_)
 obtain ⟨x,hx,h0,hw⟩:=zlq (l:=s.cols) ((s.cols.map Col.cells).length) hlt
 have hfl:pi.frs.length<=1000/\0 < pi.frs.length:=⟨by have:=hp.frs;omega,List.length_pos_iff.2 hfr⟩
 have hil:its.length<=1000:=by have:=hI.1;simp only [Few] at hs;omega
 have hsa:=zxl pi.frs hfl
 obtain ⟨e1,t1,q1,c1⟩:=(hE u pi x.type zp3)
 let p_1:List St:=[sb h0,se (zai Col.cells hx rfl),sl [0] c1]
 cases h2:x.key
 ·obtain ⟨uZ,itsZ,qZ,xZ,gZ⟩:=ih t1 (its++[e1]) Zo zw3 Zo;exact ⟨uZ,itsZ,qZ,xZ,fun R hg=>zaa (wkl (p_1++[sb h2,sqA (zad its) [e1.cells] its.length 10 136,si hw]) [0,3,8,10,11,33,34,35] 8 kr (zaR rfl (show ([Blk.box [AV.sl (List.map (fun n=>[iv n]) t1.l),iv (t1.pos:Int)],Blk.box [fsl p.frs,ZS p.tbs],Blk.box s.cells,Blk.box [AV.bl false,AV.nl,sv Zs0,AV.nl],Blk.box f.cells,Blk.box [fsl pi.frs,ZS pi.tbs],Blk.box [AV.bl false,AV.own 7 (zad its++[e1.cells]).length,sv f.name,AV.nl],Blk.row Ty.Expr (zad its++[e1.cells]) false]:Heap)=_ from Zcv1) (gZ R hg)))⟩
 ·obtain ⟨x3,ok3,t3,q3,c3⟩:=(hcol t1 (Pl.mk (List.drop (IntKind.i64.wrap ((↑(List.map Fr.cells pi.frs).length:Int) - 1)).toNat (List.take (List.map Fr.cells pi.frs).length pi.frs)) []) 1 zp3 zp3)
  let p_2:List St:=p_1++[sb h2,si (e:=IntKind.i64.wrap ((↑(List.map Fr.cells pi.frs).length:Int) - 1)) rfl,sqx (SubAt (List.map Fr.cells pi.frs) (IntKind.i64.wrap ((↑(List.map Fr.cells pi.frs).length:Int) - 1)) (↑(List.map Fr.cells pi.frs).length:Int) 4),sl [0] (conv (args:=[AV.p 0 0,AV.agg [AV.sl (List.drop (IntKind.i64.wrap ((↑(List.map Fr.cells pi.frs).length:Int) - 1)).toNat (List.take (↑(List.map Fr.cells pi.frs).length:Int).toNat (List.map Fr.cells pi.frs))),AV.sl []],iv 1]) (hl:=[Blk.box [AV.sl (List.map (fun n=>[iv n]) t1.l),iv (t1.pos:Int)]]) c3 (by first|(simp;done)|(simp [Pl.cells,Tp.cells,List.map_drop,List.map_take,List.take_of_length_le];done)|rfl) (by first|(simp;done)|(simp [Pl.cells,Tp.cells,List.map_drop,List.map_take,List.take_of_length_le];done)|rfl))]
  rcases (Bool.eq_false_or_eq_true ok3).symm with h4|h4
  ·obtain ⟨uZ,itsZ,qZ,xZ,gZ⟩:=ih t3 (its++[e1]) Zo zw3 Zo;exact ⟨uZ,itsZ,qZ,xZ,fun R hg=>zaa (wkl (p_2++[sb h4,sqA (zad its) [e1.cells] its.length 10 136,si hw]) [0,3,8,10,11,33,34,35] 8 kr (zaR rfl (show ([Blk.box [AV.sl (List.map (fun n=>[iv n]) t3.l),iv (t3.pos:Int)],Blk.box [fsl p.frs,ZS p.tbs],Blk.box s.cells,Blk.box [AV.bl false,AV.nl,sv Zs0,AV.nl],Blk.box f.cells,Blk.box [fsl pi.frs,ZS pi.tbs],Blk.box [AV.bl false,AV.own 7 (zad its++[e1.cells]).length,sv f.name,AV.nl],Blk.row Ty.Expr (zad its++[e1.cells]) false]:Heap)=_ from Zcv1) (gZ R hg)))⟩
  ·obtain ⟨a5,t5,q5,c5⟩:=(zag t3 20 zp3)
   obtain ⟨uZ,itsZ,qZ,xZ,gZ⟩:=ih t5 (its++[xBin 9 x3 (xNum (↑(10+a5):Int))]) Zo zw3 Zo;exact ⟨uZ,itsZ,qZ,xZ,fun R hg=>zaa (wkl (p_2++[sb h4,sd [(2,[sl [0] c5]),(3,[si (zaU (t:=10+(a5:Int)) (n:=10+a5) Zo Zo)]),(4,[sc (za2 ((↑(10+a5):Int)) zp3)]),(5,[sc (zaC 9 x3 (xNum (↑(10+a5):Int)))])],sqA (zad its) [(xBin 9 x3 (xNum (↑(10+a5):Int))).cells] its.length 10 136,si hw]) [0,3,8,10,11,33,34,35] 8 kr (zaR rfl (show ([Blk.box [AV.sl (List.map (fun n=>[iv n]) t5.l),iv (t5.pos:Int)],Blk.box [fsl p.frs,ZS p.tbs],Blk.box s.cells,Blk.box [AV.bl false,AV.nl,sv Zs0,AV.nl],Blk.box f.cells,Blk.box [fsl pi.frs,ZS pi.tbs],Blk.box [AV.bl false,AV.own 7 (zad its++[(xBin 9 x3 (xNum (↑(10+a5):Int))).cells]).length,sv f.name,AV.nl],Blk.row Ty.Expr (zad its++[(xBin 9 x3 (xNum (↑(10+a5):Int))).cells]) false]:Heap)=_ from Zcv1) (gZ R hg)))⟩
inductive QyT (tbs:List Sch) (M:Nat) (frs:List Fr) (s:Sch):Qy->Prop
 | mk {f:Sch} {its wh:List X}:f∈tbs->zdI tbs M (frIn frs f) s.cols s.cols.length its->wh.length<=1->(∀ x∈wh,XT tbs M (frIn frs f) 2 x)->QyT tbs M frs s (Qy.mk false its f.name wh)
theorem zkz (t:Tp) (p:Pl) (s:Sch) (d:Int) (M k:Nat) (hp:p.OkN (k+1)) (hs:Few s.cols) (hkey:∀ c∈s.cols,c.key=true->c.type=1) (hM:Deep M) (hcol:∀ (t:Tp) (p:Pl) (w:Int),Few p.frs->(∀ f∈p.frs,Few f.cols)->∃ (x:X) (ok:Bool) (t':Tp),(ok=true->ColT p.frs w x)/\zab E0 S.AB [.p 0 0,p.av,iv w] [.box t.cells] (.tup [x.av,bv ok]) [.box t'.cells]) (hE:∀ (t:Tp) (p:Pl) (w:Int),p.OkN k->∃ (e:X) (t':Tp),XT p.tbs M p.frs w e/\zab E0 S.Ac [.p 0 0,p.av,iv w,iv d] [.box t.cells] e.av [.box t'.cells]):∃ (qy:Qy) (t':Tp),QyT p.tbs M p.frs s qy/\zab E0 S.BD [.p 0 0,p.av,s.av,iv d] [.box t.cells] qy.av [.box t'.cells]:=by
 obtain ⟨a1,t1,q1,c1⟩:=(zag t ((↑(List.map Sch.cells p.tbs).length:Int)) zfg)
 obtain ⟨x2,e2⟩:=zbK (l:=p.tbs) (i:=a1) zfg
 obtain ⟨u3,its3,q3,q3_1,g3⟩:=zgu t p (plIn p x2) s x2 d M k zfg zfg zfg zfg hM zfg hE 0 t1 ([]) zfg zfg
 obtain ⟨b4,t4,c4⟩:=(zam u3 2 zfg)
 let p_1:List St:=[sdm [(6,[sl [0] c1]),(7,[se (zai Sch.cells e2 rfl)])] 0 [(0,AV.p 0 0),(1,AV.agg [fsl p.frs,ZS p.tbs]),(2,AV.agg [sv s.name,ZC s.cols]),(3,iv d),(5,AV.p 1 0),(6,AV.p 2 0),(8,AV.p 3 0),(9,AV.p 4 0),(17,AV.p 1 1),(18,ZS p.tbs),(19,AV.p 0 0),(20,AV.p 1 1),(21,ZS p.tbs),(22,iv (↑(List.map Sch.cells p.tbs).length:Int)),(23,iv (a1:Int)),(24,AV.dp [sv x2.name,ZC x2.cols]),(25,AV.agg [sv x2.name,ZC x2.cols])] [Blk.box [AV.sl (List.map (fun n=>[iv n]) t1.l),iv (t1.pos:Int)],Blk.box [fsl p.frs,ZS p.tbs],Blk.box [sv s.name,ZC s.cols],Blk.box [AV.bl false,AV.nl,sv Zs0,AV.nl],Blk.box [sv x2.name,ZC x2.cols]],sc (zbX p x2 zfg)]
 let p_2:List St:=[sqx (True/\its3.length=(zad its3).length/\True/\True/\True),sb q3_1,sl [0] c4]
 rcases (Bool.eq_false_or_eq_true b4).symm with h5|h5
 ·exact ⟨Qy.mk false its3 x2.name [],t4,(by exact .mk (List.mem_of_getElem? ‹_›) ‹_› Zs (by first|exact xt0|exact xt1 ‹_›)),wkcN At.BD p_1 [0,3,8,10,11,33,34,35] 7 [(.ob 6 1 Ty.Expr,8)] kr (g3 _ (zaa (wkr (p_2++[sb h5]) kr)))⟩
 ·obtain ⟨e6,t6,q6,c6⟩:=(hE t4 (plIn p x2) 2 zfg)
  exact ⟨Qy.mk false its3 x2.name [e6],t6,(by exact .mk (List.mem_of_getElem? ‹_›) ‹_› Zs (by first|exact xt0|exact xt1 ‹_›)),wkcN At.BD p_1 [0,3,8,10,11,33,34,35] 7 [(.ob 6 1 Ty.Expr,8)] kr (g3 _ (zaa (wkrS (y:=AV.agg [bv false,AV.sl (zad its3),sv x2.name,AV.sl [e6.cells]]) (H:=[Blk.box [AV.sl (List.map (fun n=>[iv n]) t6.l),iv (t6.pos:Int)]]) (p_2++[sb h5,sl [0] c6]) kr ⟨Zcv1,Zcv1⟩)))⟩
end Go.AM
