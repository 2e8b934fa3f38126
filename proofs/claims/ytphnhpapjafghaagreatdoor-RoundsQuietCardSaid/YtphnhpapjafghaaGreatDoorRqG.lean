/-
  Contracts of the program's functions, part 6.
-/
import Derived.Test.YtphnhpapjafghaaGreatDoorRqF
set_option maxRecDepth 100000
set_option maxHeartbeats 40000000
set_option linter.unusedSimpArgs false
set_option linter.unusedVariables false
namespace Go.AM
theorem zp1 {p:Prop} (h:p:=by first|assumption|omega|(simp only [yG,bne_eq_false_iff_eq,Int.natCast_inj] at *;omega)|exact fun j hj=>absurd hj Zo):p:=h
theorem ztX {p:Prop} (h:p:=by first|exact eqG_q1 ‹_› ‹_›|exact eqG_q2 ‹_›|exact eqG_q3 ‹_›):p:=h
theorem zyK {p:Prop} (h:p:=by first|assumption|omega|(simp;done)|(simp;omega)):p:=h
def EqI (a b:List V) (i:Nat):Prop:=∀ j,j < i->a[j]?=b[j]?
theorem zri {b:List V} {i:Nat} (h:i < b.length):b[i]?=some (zak b (i:Int)):=by
 unfold zak
 rw [yAF,Int.toNat_natCast,yE h];rfl
theorem EqI.go {a b:List V} {i:Nat} {x:V} (h:EqI a b i) (hb:b.length=a.length) (hx:a[i]?=some x) (h1:(!(x.kind==(zak b (i:Int)).kind&&(x.int==(zak b (i:Int)).int&&(x.text==(zak b (i:Int)).text&&true))))=false):EqI a b (i+1):=fun j hj=>by
 by_cases e:j < i
 ·exact h j e
 ·obtain rfl:j=i:=by omega
  have h2:eqV x (zak b (j:Int))=true:=by simpa [eqV] using h1
  rw [hx,zri (by have:=zb1 hx;omega),zh2.1 h2]
theorem eqG_no {a b:List V} {i:Nat} {x:V} (hb:b.length=a.length) (hx:a[i]?=some x) (h1:(!(x.kind==(zak b (i:Int)).kind&&(x.int==(zak b (i:Int)).int&&(x.text==(zak b (i:Int)).text&&true))))=true):a≠b:=fun e=>by
 have h3:=zri (b:=b) (i:=i) (by have:=zb1 hx;omega)
 rw [← e,hx] at h3
 have h4:x=zak a (i:Int):=Option.some.inj h3
 have h2:eqV x (zak b (i:Int))=true:=zh2.2 (by rw [← e];exact h4)
 unfold eqV at h2
 rw [h2] at h1;cases h1
theorem zAD {a b:List V} (h:EqI a b a.length) (hb:b.length=a.length):a=b:=yAZ fun j=>by
 by_cases e:j < a.length
 ·exact h j e
 ·rw [yAX Zo,yAX Zo]
theorem eqG_q1 {a b:List V} (h:EqI a b a.length) (h1:((((a.map V.cells).length:Nat):Int) != (((b.map V.cells).length:Nat):Int))=false):(true=true↔a=b) :=
 ⟨fun _=>zAD h (by simp only [yG,bne_eq_false_iff_eq,Int.natCast_inj] at h1;exact h1.symm),fun _=>rfl⟩
theorem eqG_q2 {a b:List V} (h1:((((a.map V.cells).length:Nat):Int) != (((b.map V.cells).length:Nat):Int))=true):(false=true↔a=b) :=
 ⟨fun h=>(by cases h),fun h=>(by subst h;simp at h1)⟩
theorem eqG_q3 {a b:List V} {r:Bool} (h:r=false/\a≠b):(r=true↔a=b) :=
 ⟨fun h2=>(by rw [h.1] at h2;cases h2),fun h2=>absurd h2 h.2⟩
noncomputable def zvT (a b:List V) (i:Nat) :Cfg:=zai B.Ar 0 [(0,vsl a),(1,vsl b),(12,iv ((a.map V.cells).length:Nat)),(13,iv (i:Nat))] []
theorem zfT (a b:List V) (hl:zac a) (hb:b.length=a.length) (i:Nat)  (hi:i<=(a).length) (hI:EqI a b i):((EqI a b (a).length)/\(decide ((((a).length:Nat):Int) < (((a.map V.cells).length:Nat):Int))=false)/\∀ R,Good E0 B.Ar [] (zvT a b (a).length ) R->Good E0 B.Ar [] (zvT a b i ) R)\/(∃ (r:Bool),(r=false/\a≠b)/\Good E0 B.Ar [] (zvT a b i ) (Shut 0 fun rZ hZ=>rZ=(bv r)/\hZ=[])):=by
 have hk:=hi;revert i;refine zlp ((a).length) (fun i hlt ih hi hI _=>?_)
 obtain ⟨x,hx,h0,hw⟩:=zlq (l:=a) ((a.map V.cells).length) hlt
 let p_1:List St:=[sb h0,sd [(2,[se (zaf V.cells hx rfl)]),(6,[se (zcT b ((i:Int)) zyK zyK)]),(8,[sq zaY])]]
 cases h1:!(x.kind==(zak b (i:Int)).kind&&(x.int==(zak b (i:Int)).int&&(x.text==(zak b (i:Int)).text&&true)))
 ·exact zie2 (ih Zo (by exact hI.go hb hx ‹_›) Zo) fun R gY=>zaa (wkl (p_1++[sb h1,si hw]) [0,1,12,13] 0 kr gY)
 ·exact .inr ⟨false,(by exact ⟨rfl,eqG_no hb hx ‹_›⟩),zaa (wkr (p_1++[sb h1]) kr)⟩
theorem zkk (a b:List V) (hl:zac a) (hs:zac b):∃ (r:Bool),(r=true↔a=b)/\zab E0 S.Ar [vsl a,vsl b] [] (bv r) []:=by
 cases h1:(↑(List.map V.cells a).length:Int) != (↑(List.map V.cells b).length:Int)
 ·rcases zfT a b zp1 zp1 0 zp1 zp1 with ⟨q2,q2_1,g2⟩|⟨r2_0,p2_0,g2⟩
  ·exact ⟨true,ztX,wkc At.Ar [sb h1] [0,1,12,13] 0 kr (g2 _ (zaa (wkr [sb q2_1] kr)))⟩
  ·exact ⟨r2_0,ztX,wkc At.Ar [sb h1] [0,1,12,13] 0 kr (g2)⟩
 ·exact ⟨false,ztX,wk At.Ar [sb h1] kr⟩
theorem zeA (a b:List V) (ha:zac a) (hb:zac b):zab E0 S.Ar [vsl a,vsl b] [] (bv (zcM a b==0)) []:=by
 obtain ⟨r,h,hc⟩:=zkk a b ha hb
 have e:r=(zcM a b==0):=by
  rw [Bool.eq_iff_iff,h,beq_iff_eq]
  exact (zlH.zero a b).symm
 rw [← e];exact hc
theorem znz {n:Int}:∀ {l:List Rw},(∀ x∈l,x.id≠n)->get6 n l=([],false)
 | [],_=>rfl
 | x::r,h=>by
  unfold get6
  rw [beq_eq_false_iff_ne.2 (h x Zs)]
  exact znz fun y hy=>h y (by simp [hy])
structure DbO (a b:Tb) (i:Nat) (bef ins del:List Rw) (upd:List Pr):Prop where
 ex:∃ k,bef=a.rows.drop k/\del=(a.rows.take k).filter (zcW b)/\∀ x∈a.rows.take k,∀ r∈b.rows.drop i,x.id < r.id
 hi:∀ x∈bef,∀ r∈b.rows.take i,r.id < x.id
 bw:BwI a b i ins upd
structure DbM (a b:Tb) (i:Nat) (r:Rw) (bef del:List Rw):Prop where
 ex:∃ k,bef=a.rows.drop k/\del=(a.rows.take k).filter (zcW b)/\∀ x∈a.rows.take k,x.id < r.id
 hi:∀ x∈bef,∀ r∈b.rows.take i,r.id < x.id
section
variable {a b : Tb} {i : Nat} {bef ins del bef' del' : List Rw} {upd : List Pr} {r : Rw}
theorem zqD {l:List Rw} (h:l.Pairwise fun a b=>a.id < b.id) {i:Nat} {r:Rw} (hr:l[i]?=some r):(∀ x∈l.drop (i+1),r.id < x.id)/\∀ x∈l.take i,x.id < r.id:=by
 have hi:=zb1 hr
 have e:l=l.take i++r::l.drop (i+1):=by
  have h1:=(List.take_append_drop i l).symm
  rwa [zaB hr] at h1
 have h2:=h
 rw [e] at h2
 obtain ⟨h3,h4,h5⟩:=yAq.1 h2
 exact ⟨(yAK.1 h4).1,fun x hx=>h5 x hx r Zs⟩
theorem zAv (h:DbO a b i bef ins del upd) (hb:TabV b) (hr:b.rows[i]?=some r) (hj:DbJ r bef del bef' del'):DbM a b i r bef' del':=by
 obtain ⟨k,e1,e2,h3⟩:=h.ex
 obtain ⟨s,f1,f2,f3⟩:=hj.ex
 have hmem:r∈b.rows.drop i:=by rw [zaB hr];simp
 have hs:a.rows.take (k+s.length)=a.rows.take k++s:=by
  rw [List.take_add,← e1,f1,List.take_left' rfl]
 have hsub:∀ x∈s,x∈bef:=fun x hx=>by rw [f1];simp [hx]
 refine ⟨⟨k+s.length,?_,?_,fun x hx=>?_⟩,fun x hx=>h.hi x (by rw [f1];simp [hx])⟩
 ·rw [← List.drop_drop,← e1,f1,List.drop_left' rfl]
 ·rw [hs,List.filter_append,← e2,f2]
  congr 1
  refine (List.filter_eq_self.2 fun x hx=>?_).symm
  have:get6 x.id b.rows=([],false):=znz fun y hy=>by
   rcases List.mem_iff_getElem?.1 hy with ⟨j,hj⟩
   by_cases hji:j < i
   ·have:=h.hi x (hsub x hx) y (yC (by rw [yM,if_pos hji];exact hj))
    omega
   ·by_cases e:j=i
    ·subst e;rw [hr] at hj;cases hj
     have:=f3 x hx;omega
    ·have h5:=(zqD hb.rows.asc hr).1 y (yC (i:=j - (i+1)) (by rw [yX];rw [show i+1+(j - (i+1))=j by omega];exact hj))
     have:=f3 x hx;omega
  unfold zcW;rw [this];rfl
 ·rw [hs] at hx
  rcases yK.1 hx with hx|hx
  ·exact h3 x hx r hmem
  ·exact f3 x hx
theorem DbM.len (h:DbM a b i r bef del):bef.length<=a.rows.length/\del.length<=a.rows.length:=by
 obtain ⟨k,e1,e2,h3⟩:=h.ex
 have h4:=yAm (zcW b) (a.rows.take k)
 rw [e1,e2]
 simp only [yAt,yV] at *
 omega
theorem DbO.len (h:DbO a b i bef ins del upd):bef.length+del.length<=a.rows.length:=by
 obtain ⟨k,e1,e2,h3⟩:=h.ex
 have h4:=yAm (zcW b) (a.rows.take k)
 rw [e1,e2]
 simp only [yAt,yV] at *
 omega
theorem DbM.asc (h:DbM a b i r bef del) (ha:TabV a):bef.Pairwise fun a b=>a.id < b.id:=by
 obtain ⟨k,e1,_⟩:=h.ex
 rw [e1];exact ha.rows.asc.sublist (List.drop_sublist _ _)
theorem DbM.sub (h:DbM a b i r bef del):∀ x∈bef,x∈a.rows:=fun x hx=>by
 obtain ⟨k,e1,_⟩:=h.ex
 rw [e1] at hx;exact List.mem_of_mem_drop hx
theorem DbM.none_ (h:DbM a b i r bef del) (hn:∀ x∈bef,r.id < x.id):get6 r.id a.rows=([],false):=znz fun x hx=>by
 obtain ⟨k,e1,e2,h3⟩:=h.ex
 rw [← List.take_append_drop k a.rows] at hx
 rcases yK.1 hx with hx|hx
 ·have:=h3 x hx;omega
 ·rw [← e1] at hx;have:=hn x hx;omega
theorem DbM.new (h:DbM a b i r bef del) (hb:TabV b) (hw:BwI a b i ins upd) (hr:b.rows[i]?=some r) (hn:∀ x∈bef,r.id < x.id):DbO a b (i+1) bef (ins++[r]) del upd:=by
 have h1:=h.none_ hn
 obtain ⟨k,e1,e2,h3⟩:=h.ex
 refine ⟨⟨k,e1,e2,fun x hx q hq=>?_⟩,fun x hx q hq=>?_,hw.new hr (by rw [h1];rfl)⟩
 ·have:=h3 x hx;have:=(zqD hb.rows.asc hr).1 q hq;omega
 ·rw [yP,hr] at hq
  rcases yK.1 hq with hq|hq
  ·exact h.hi x hx q hq
  ·simp at hq;subst hq;exact hn x hx
theorem AtI0 {α:Type} {l:List α} {y:α} (h:AtI l 0 y):l=y::l.drop 1:=by
 have:=h.2
 cases l with
 | nil=>simp at this
 | cons x t=>simp at this;subst this;rfl
theorem DbM.hit (h:DbM a b i r bef del) (ha:TabV a) (hb:TabV b) (hr:b.rows[i]?=some r) {y:Rw} (hy:AtI bef 0 y) (h1:y.id=r.id):get6 r.id a.rows=(y.vals,true)/\∀ ins upd,BwI a b (i+1) ins upd->DbO a b (i+1) (bef.drop 1) ins del upd:=by
 have e:=AtI0 hy
 have hym:y∈bef:=by rw [e];simp
 have hg:get6 r.id a.rows=(y.vals,true):=by rw [← h1];exact zih ha.rows.asc (h.sub y hym)
 have hpw:=h.asc ha
 rw [e] at hpw
 have hgt:=(yAK.1 hpw).1
 refine ⟨hg,fun ins upd hw=>?_⟩
 obtain ⟨k,e1,e2,h3⟩:=h.ex
 have hk:a.rows[k]?=some y:=by
  have h5:=hy.2
  rw [e1] at h5
  simpa using h5
 have ht:a.rows.take (k+1)=a.rows.take k++[y]:=by rw [yP,hk];rfl
 have hyn:zcW b y=false:=by
  unfold zcW
  rw [h1,zih hb.rows.asc (yC hr)];rfl
 refine ⟨⟨k+1,by rw [e1,List.drop_drop],by rw [ht,List.filter_append,e2];simp [hyn],fun x hx q hq=>?_⟩,fun x hx q hq=>?_,hw⟩
 ·have h6:=(zqD hb.rows.asc hr).1 q hq
  rw [ht] at hx
  rcases yK.1 hx with hx|hx
  ·have:=h3 x hx;omega
  ·simp at hx;subst hx;omega
 ·rw [yP,hr] at hq
  have h7:=hgt x hx
  rcases yK.1 hq with hq|hq
  ·exact h.hi x (List.mem_of_mem_drop hx) q hq
  ·simp at hq;subst hq;omega
/- the zdv -/
theorem nil_gt (h1:decide ((0:Int) < (((bef.map Rw.cells).length:Nat):Int))=false):∀ x∈bef,r.id < x.id:=fun x hx=>by
 have:=List.length_pos_of_mem hx
 simp at h1;subst h1;cases hx
theorem hd_gt (hp:bef.Pairwise fun a b=>a.id < b.id) {y:Rw} (hy:AtI bef 0 y) (h0:decide ((0:Int) < (((bef.map Rw.cells).length:Nat):Int))=true) (h1:(bif decide ((0:Int) < (((bef.map Rw.cells).length:Nat):Int)) then decide (y.id<=r.id) else false)=false):∀ x∈bef,r.id < x.id:=fun x hx=>by
 rw [h0] at h1
 simp at h1
 rw [AtI0 hy] at hx hp
 rcases yO.1 hx with rfl|hx
 ·exact h1
 ·have:=(yAK.1 hp).1 x hx;omega
theorem hd_eq {y:Rw} (h0:decide ((0:Int) < (((bef.map Rw.cells).length:Nat):Int))=true) (h1:(bif decide ((0:Int) < (((bef.map Rw.cells).length:Nat):Int)) then decide (y.id<=r.id) else false)=true) (hf:decide (y.id < r.id)=false):y.id=r.id:=by
 rw [h0] at h1
 simp at h1 hf
 omega
end
theorem zhb {p:Prop} (h:p:=by first|assumption|omega|(simp;done)|(simp;omega)):p:=h
section
variable {a b : Tb} {i : Nat} {bef ins del : List Rw} {upd : List Pr} {r y : Rw}
theorem DbM.hitU (h:DbM a b i r bef del) (ha:TabV a) (hb:TabV b) (hw:BwI a b i ins upd) (hr:b.rows[i]?=some r) (hy:AtI bef 0 y) (h1:y.id=r.id) (h2:(!(zcM y.vals r.vals==0))=true):DbO a b (i+1) (bef.drop 1) ins del (upd++[⟨r.id,y.vals,r.vals⟩]):=by
 obtain ⟨hg,hf⟩:=h.hit ha hb hr hy h1
 refine hf _ _ ?_
 have:=hw.up hr (by rw [hg];rfl) (by rw [hg];exact h2)
 rwa [hg] at this
theorem DbM.hitS (h:DbM a b i r bef del) (ha:TabV a) (hb:TabV b) (hw:BwI a b i ins upd) (hr:b.rows[i]?=some r) (hy:AtI bef 0 y) (h1:y.id=r.id) (h2:(!(zcM y.vals r.vals==0))=false):DbO a b (i+1) (bef.drop 1) ins del upd:=by
 obtain ⟨hg,hf⟩:=h.hit ha hb hr hy h1
 exact hf _ _ (hw.same hr (by rw [hg];rfl) (by rw [hg];exact h2))
theorem DbM.sh (h:DbM a b i r bef del) (ha:TabV a) (hy:AtI bef 0 y):zac y.vals:=ha.vals y (h.sub y (by rw [AtI0 hy];simp))
theorem dbBad (h:DbM a b i r bef del) (hgr:∀ r∈b.rows,(!(get6 r.id a.rows).2)=true->decide (r.id < a.next)=false) (hr:b.rows[i]?=some r) (hn:∀ x∈bef,r.id < x.id) (h1:decide (r.id < a.next)=true):False:=by
 have:=hgr r (yC hr) (by rw [h.none_ hn];rfl)
 rw [this] at h1;cases h1
theorem DbO.befSh (h:DbO a b i bef ins del upd) (ha:TabV a):∀ x∈bef,zac x.vals:=fun x hx=>by
 obtain ⟨k,e1,_⟩:=h.ex
 rw [e1] at hx;exact ha.vals x (List.mem_of_mem_drop hx)
theorem dbO_0 (a b:Tb):DbO a b 0 a.rows [] [] []:=⟨⟨0,rfl,rfl,by simp⟩,by simp,bw0⟩
end
noncomputable def zgF (a b:Tb) (i:Nat) (bef ins del:List Rw) (upd:List Pr):Cfg:=zai B.Ap 0 [(2,.p 0 0),(4,.p 2 0),(6,.p 3 0),(7,.sl (bef.map Rw.cells)),(44,.sl (b.rows.map Rw.cells)),(45,iv ((b.rows.map Rw.cells).length:Nat)),(46,iv (i:Nat))] [.box a.cells,.box b.cells,.box [sv ⟨#[]⟩,.nl,.nl,.nl],.box [sv a.sch.name,.own 4 ins.length,.own 5 del.length,.own 6 upd.length],.row Ty.Row (ins.map Rw.cells) false,.row Ty.Row (del.map Rw.cells) false,.row Ty.Pair (upd.map Pr.cells) false]
theorem Zcv12 {p:Prop} (h:p:=by first|rfl|(simp;done)|(simp [X.cells,Qy.cells,V.cells,Col.cells,Rw.cells,Tb.cells,Fr.cells,Sch.cells,Tp.cells,Pl.cells,Dl.cells,Tb.cells,Pr.cells,Ch.cells,Rw.cells];done)):p:=h
theorem dbn_0 (a b:Tb) (r:Rw) (i:Nat) (ins:List Rw) (upd:List Pr) (bef del:List Rw) (h0:decide ((0:Int) < (((bef.map Rw.cells).length:Nat):Int))=false) (h1:decide (r.id < a.next)=false) (hvx:zac r.vals) (hli:ins.length<=1000000000) (hw:IntKind.i64.wrap (((i:Nat):Int)+1)=((i+1:Nat):Int)) (R:AV->Heap->Prop) (hg:Good E0 B.Ap [] (zgF a b (i+1) bef (ins++[r]) del upd) R):Good E0 B.Ap [] (zgE a b r i ins upd bef del) R:=by
 refine zaa ?_
 exact wkl [sd [(4,[sb h0]),(5,[sb h0]),(6,[sb h0]),(7,[sb h0]),(8,[sb h0]),(9,[sb h0]),(10,[sb h0]),(11,[sb h0])],sb h1,sd [(3,[sc (zev r zhb)]),(5,[sqA (List.map Rw.cells ins) [[iv r.id,vsl r.vals]] ins.length 2 32])],si hw] [2,4,6,7,44,45,46] 7 kr (zas rfl (show ([Blk.box [sv a.sch.name,ZC a.sch.cols,iv a.next,ZW a.rows],Blk.box [sv b.sch.name,ZC b.sch.cols,iv b.next,ZW b.rows],Blk.box [sv Zs0,AV.nl,AV.nl,AV.nl],Blk.box [sv a.sch.name,AV.own 4 (List.map Rw.cells ins++[[iv r.id,vsl r.vals]]).length,AV.own 5 del.length,AV.own 6 upd.length],Blk.row Ty.Row (List.map Rw.cells ins++[[iv r.id,vsl r.vals]]) false,Blk.row Ty.Row (List.map Rw.cells del) false,Blk.row Ty.Pair (List.map Pr.cells upd) false]:Heap)=_ from Zcv12) hg)
theorem dbn_1 (a b:Tb) (r:Rw) (i:Nat) (ins:List Rw) (upd:List Pr) (bef del:List Rw) (y:Rw) (hy:bef[0]?=some y) (h0:decide ((0:Int) < (((bef.map Rw.cells).length:Nat):Int))=true) (h3:(bif decide ((0:Int) < (((bef.map Rw.cells).length:Nat):Int)) then decide (y.id<=r.id) else false)=false) (h1:decide (r.id < a.next)=false) (hvx:zac r.vals) (hli:ins.length<=1000000000) (hw:IntKind.i64.wrap (((i:Nat):Int)+1)=((i+1:Nat):Int)) (R:AV->Heap->Prop) (hg:Good E0 B.Ap [] (zgF a b (i+1) bef (ins++[r]) del upd) R):Good E0 B.Ap [] (zgE a b r i ins upd bef del) R:=by
 refine zaa ?_
 exact wkl [sd [(4,[sg h0]),(5,[so h0 (se (zaf Rw.cells hy rfl))]),(6,[sg h0]),(7,[sg h0]),(8,[sg h0]),(9,[sg h0]),(10,[sg h0])],sb h3,sb h1,sd [(3,[sc (zev r zhb)]),(5,[sqA (List.map Rw.cells ins) [[iv r.id,vsl r.vals]] ins.length 2 32])],si hw] [2,4,6,7,44,45,46] 7 kr (zas rfl (show ([Blk.box [sv a.sch.name,ZC a.sch.cols,iv a.next,ZW a.rows],Blk.box [sv b.sch.name,ZC b.sch.cols,iv b.next,ZW b.rows],Blk.box [sv Zs0,AV.nl,AV.nl,AV.nl],Blk.box [sv a.sch.name,AV.own 4 (List.map Rw.cells ins++[[iv r.id,vsl r.vals]]).length,AV.own 5 del.length,AV.own 6 upd.length],Blk.row Ty.Row (List.map Rw.cells ins++[[iv r.id,vsl r.vals]]) false,Blk.row Ty.Row (List.map Rw.cells del) false,Blk.row Ty.Pair (List.map Pr.cells upd) false]:Heap)=_ from Zcv12) hg)
theorem dbn_2 (a b:Tb) (r:Rw) (i:Nat) (ins:List Rw) (upd:List Pr) (bef del:List Rw) (y:Rw) (hy:bef[0]?=some y) (h0:decide ((0:Int) < (((bef.map Rw.cells).length:Nat):Int))=true) (h3:(bif decide ((0:Int) < (((bef.map Rw.cells).length:Nat):Int)) then decide (y.id<=r.id) else false)=true) (h2:decide (y.id < r.id)=false) (h4:(!(zcM y.vals r.vals==0))=false) (hvx:zac r.vals) (hvy:zac y.vals) (hw:IntKind.i64.wrap (((i:Nat):Int)+1)=((i+1:Nat):Int)) (R:AV->Heap->Prop) (hg:Good E0 B.Ap [] (zgF a b (i+1) (bef.drop 1) ins del upd) R):Good E0 B.Ap [] (zgE a b r i ins upd bef del) R:=by
 refine zaa ?_
 exact wkl [sd [(4,[sg h0]),(5,[so h0 (se (zaf Rw.cells hy rfl))]),(6,[sg h0]),(7,[sg h0]),(8,[sg h0]),(9,[sg h0]),(10,[sg h0])],sb h3,se (zaf Rw.cells hy rfl),sqx (SubAt (List.map Rw.cells bef) 1 (↑(List.map Rw.cells bef).length:Int) 2),sb h2,sc (zeA y.vals r.vals zhb zhb),sb h4,si hw] [2,4,6,7,44,45,46] 7 kr (zas (show ([(2,AV.p 0 0),(4,AV.p 2 0),(6,AV.p 3 0),(7,AV.sl (List.drop (Int.toNat 1) (List.take (↑(List.map Rw.cells bef).length:Int).toNat (List.map Rw.cells bef)))),(44,ZW b.rows),(45,iv (↑(List.map Rw.cells b.rows).length:Int)),(46,iv (↑(i+1):Int))]:TS)=_ by first|rfl|(simp [Rw.cells];rw [yAP Zs];done)|(simp [Rw.cells];exact ⟨rfl,rfl⟩)|(simp [Rw.cells,Pr.cells,Tb.cells];done)) rfl hg)
theorem dbn_3 (a b:Tb) (r:Rw) (i:Nat) (ins:List Rw) (upd:List Pr) (bef del:List Rw) (y:Rw) (hy:bef[0]?=some y) (h0:decide ((0:Int) < (((bef.map Rw.cells).length:Nat):Int))=true) (h3:(bif decide ((0:Int) < (((bef.map Rw.cells).length:Nat):Int)) then decide (y.id<=r.id) else false)=true) (h2:decide (y.id < r.id)=false) (h4:(!(zcM y.vals r.vals==0))=true) (hvx:zac r.vals) (hvy:zac y.vals) (hlu:upd.length<=1000000000) (hw:IntKind.i64.wrap (((i:Nat):Int)+1)=((i+1:Nat):Int)) (R:AV->Heap->Prop) (hg:Good E0 B.Ap [] (zgF a b (i+1) (bef.drop 1) ins del (upd++[⟨r.id,y.vals,r.vals⟩])) R):Good E0 B.Ap [] (zgE a b r i ins upd bef del) R:=by
 refine zaa ?_
 exact wkl [sd [(4,[sg h0]),(5,[so h0 (se (zaf Rw.cells hy rfl))]),(6,[sg h0]),(7,[sg h0]),(8,[sg h0]),(9,[sg h0]),(10,[sg h0])],sb h3,se (zaf Rw.cells hy rfl),sqx (SubAt (List.map Rw.cells bef) 1 (↑(List.map Rw.cells bef).length:Int) 2),sb h2,sc (zeA y.vals r.vals zhb zhb),sb h4,sd [(6,[sc (zaC y.vals zhb)]),(9,[sc (zaC r.vals zhb)]),(11,[sqx (True/\y.vals.length=(List.map V.cells y.vals).length/\r.vals.length=(List.map V.cells r.vals).length/\True)]),(12,[sqA (List.map Pr.cells upd) [[iv r.id,vsl y.vals,vsl r.vals]] upd.length 3 56])],si hw] [2,4,6,7,44,45,46] 7 kr (zas (show ([(2,AV.p 0 0),(4,AV.p 2 0),(6,AV.p 3 0),(7,AV.sl (List.drop (Int.toNat 1) (List.take (↑(List.map Rw.cells bef).length:Int).toNat (List.map Rw.cells bef)))),(44,ZW b.rows),(45,iv (↑(List.map Rw.cells b.rows).length:Int)),(46,iv (↑(i+1):Int))]:TS)=_ by first|rfl|(simp [Rw.cells];rw [yAP Zs];done)|(simp [Rw.cells];exact ⟨rfl,rfl⟩)|(simp [Rw.cells,Pr.cells,Tb.cells];done)) (show ([Blk.box [sv a.sch.name,ZC a.sch.cols,iv a.next,ZW a.rows],Blk.box [sv b.sch.name,ZC b.sch.cols,iv b.next,ZW b.rows],Blk.box [sv Zs0,AV.nl,AV.nl,AV.nl],Blk.box [sv a.sch.name,AV.own 4 ins.length,AV.own 5 del.length,AV.own 6 (List.map Pr.cells upd++[[iv r.id,vsl y.vals,vsl r.vals]]).length],Blk.row Ty.Row (List.map Rw.cells ins) false,Blk.row Ty.Row (List.map Rw.cells del) false,Blk.row Ty.Pair (List.map Pr.cells upd++[[iv r.id,vsl y.vals,vsl r.vals]]) false]:Heap)=_ by first|rfl|(simp [Rw.cells];rw [yAP Zs];done)|(simp [Rw.cells];exact ⟨rfl,rfl⟩)|(simp [Rw.cells,Pr.cells,Tb.cells];done)) hg)
theorem dbn_s (a b:Tb) (i:Nat) (bef ins del:List Rw) (upd:List Pr) (x:Rw) (hx:b.rows[i]?=some x) (h0:decide (((i:Nat):Int) < (((b.rows.map Rw.cells).length:Nat):Int))=true) (R:AV->Heap->Prop) (hg:Good E0 B.Ap [] (zgE a b x i ins upd bef del) R):Good E0 B.Ap [] (zgF a b i bef ins del upd) R:=by
 refine zaa ?_
 exact wkl [sb h0,se (zaf Rw.cells hx rfl)] [2,4,6,7,9,44,45,46] 8 kr (hg)
theorem zhQ (a b:Tb) (ha:TabV a) (hb:TabV b) (hgr:∀ r∈b.rows,(!(get6 r.id a.rows).2)=true->decide (r.id < a.next)=false) (i:Nat) (bef ins del:List Rw) (upd:List Pr) (hi:i<=b.rows.length) (hI:DbO a b i bef ins del upd):∃ (bef' ins' del':List Rw) (upd':List Pr),(DbO a b b.rows.length bef' ins' del' upd')/\(decide (((b.rows.length:Nat):Int) < (((b.rows.map Rw.cells).length:Nat):Int))=false)/\∀ R,Good E0 B.Ap [] (zgF a b b.rows.length bef' ins' del' upd') R->Good E0 B.Ap [] (zgF a b i bef ins del upd) R:=by
 have hk:=hi;revert i bef ins del upd;refine zlp b.rows.length (fun i hlt ih bef ins del upd hi hI _=>?_) (z:=fun bef ins del upd _ hI _=>⟨bef,ins,del,upd,hI,by simp,fun R h=>h⟩)
 obtain ⟨x,hx⟩:=zbc (l:=b.rows) (i:=i) Zo
 have h0:decide (((i:Nat):Int) < (((b.rows.map Rw.cells).length:Nat):Int))=true:=by simp;omega
 have hb100:=hb.l100
 have hw:IntKind.i64.wrap (((i:Nat):Int)+1)=((i+1:Nat):Int):=zba i Zo
 have hvx:=hb.vals x (yC hx)
 obtain ⟨bf,dl,hj,hf,hg⟩:=zhP a b x i ins upd bef del (by have:=hI.len;have:=ha.l100;omega) (hI.befSh ha)
 have hm:=zAv hI hb hx hj
 have hli:=hI.bw.len
 have fin:∀ (bef2 ins2 del2:List Rw) (upd2:List Pr),DbO a b (i+1) bef2 ins2 del2 upd2->(∀ R,Good E0 B.Ap [] (zgF a b (i+1) bef2 ins2 del2 upd2) R->Good E0 B.Ap [] (zgE a b x i ins upd bf dl) R)->∃ (bef' ins' del':List Rw) (upd':List Pr),(DbO a b b.rows.length bef' ins' del' upd')/\(decide (((b.rows.length:Nat):Int) < (((b.rows.map Rw.cells).length:Nat):Int))=false)/\∀ R,Good E0 B.Ap [] (zgF a b b.rows.length bef' ins' del' upd') R->Good E0 B.Ap [] (zgF a b i bef ins del upd) R:=fun bef2 ins2 del2 upd2 hO hR=>by
  obtain ⟨b3,i3,d3,u3,q,e,g⟩:=ih bef2 ins2 del2 upd2 Zo hO Zo
  exact ⟨b3,i3,d3,u3,q,e,fun R hq=>dbn_s a b i bef ins del upd x hx h0 R (hg R (hR R (g R hq)))⟩
 cases hl:decide ((0:Int) < (((bf.map Rw.cells).length:Nat):Int))
 ·have hn:=nil_gt (r:=x) hl
  have h1:decide (x.id < a.next)=false:=Bool.eq_false_iff.2 fun h=>dbBad hm hgr hx hn h
  exact fin _ _ _ _ (hm.new hb hI.bw hx hn) (dbn_0 a b x i ins upd bf dl hl h1 hvx Zo hw)
 ·have hlb:0 < bf.length:=by simpa using hl
  obtain ⟨y,hy⟩:=zbc hlb
  have hat:AtI bf 0 y:=⟨by decide,hy⟩
  have hvy:=hm.sh ha hat
  cases h3:(bif decide ((0:Int) < (((bf.map Rw.cells).length:Nat):Int)) then decide (y.id<=x.id) else false)
  ·have hn:=hd_gt (hm.asc ha) hat hl h3
   have h1:decide (x.id < a.next)=false:=Bool.eq_false_iff.2 fun h=>dbBad hm hgr hx hn h
   exact fin _ _ _ _ (hm.new hb hI.bw hx hn) (dbn_1 a b x i ins upd bf dl y hy hl h3 h1 hvx Zo hw)
  ·have h2:=hf y hat
   have he:=hd_eq hl h3 h2
   cases h4:!(zcM y.vals x.vals==0)
   ·exact fin _ _ _ _ (hm.hitS ha hb hI.bw hx hat he h4) (dbn_2 a b x i ins upd bf dl y hy hl h3 h2 h4 hvx hvy hw)
   ·exact fin _ _ _ _ (hm.hitU ha hb hI.bw hx hat he h4) (dbn_3 a b x i ins upd bf dl y hy hl h3 h2 h4 hvx hvy Zo hw)
theorem zfP {p:Prop} (h:p:=by first|assumption|rfl|exact dbO_0 _ _|exact ((DbO.fin1 ‹_› ha).1)|exact DbO.r0 ‹_›|(simp;done)|omega):p:=h
theorem dbR_go {l del0 del:List Rw} {i:Nat} {x:Rw} (hx:l[i]?=some x) (h:del=del0++l.take i):del++[x]=del0++l.take (i+1):=by rw [yP,hx,h];simp
structure DbR (a b:Tb) (ins bef:List Rw) (upd:List Pr) (i:Nat) (del:List Rw):Prop where
 ex:∃ del0,DbO a b b.rows.length bef ins del0 upd/\del=del0++bef.take i
theorem DbR.go {a b:Tb} {ins bef:List Rw} {upd:List Pr} {i:Nat} {del:List Rw} {x:Rw} (h:DbR a b ins bef upd i del) (hx:bef[i]?=some x):DbR a b ins bef upd (i+1) (del++[x]):=by
 obtain ⟨d0,h1,h2⟩:=h.ex
 exact ⟨d0,h1,dbR_go hx h2⟩
theorem DbR.facts {a b:Tb} {ins bef:List Rw} {upd:List Pr} {i:Nat} {del:List Rw} (h:DbR a b ins bef upd i del) (ha:TabV a):(∀ x∈bef,zac x.vals)/\del.length<=1000:=by
 obtain ⟨d0,h1,h2⟩:=h.ex
 have:=h1.len;have:=ha.l100
 exact ⟨h1.befSh ha,by rw [h2,yAO,yV];omega⟩
noncomputable def L_dbR (a b:Tb) (ins bef:List Rw) (upd:List Pr) (i:Nat) (del:List Rw):Cfg:=zai B.Ap 2 [(4,.p 2 0),(6,.p 3 0),(113,.sl (bef.map Rw.cells)),(114,iv ((bef.map Rw.cells).length:Nat)),(115,iv (i:Nat))] [.box a.cells,.box b.cells,.box [sv ⟨#[]⟩,.nl,.nl,.nl],.box [sv a.sch.name,.own 4 ins.length,.own 5 del.length,.own 6 upd.length],.row Ty.Row (ins.map Rw.cells) false,.row Ty.Row (del.map Rw.cells) false,.row Ty.Pair (upd.map Pr.cells) false]
theorem zhR (a b:Tb) (ins bef:List Rw) (upd:List Pr) (ha:TabV a) (hb0:zac bef) (i:Nat) (del:List Rw) (hi:i<=(bef).length) (hI:DbR a b ins bef upd i del):∃ (del':List Rw),(DbR a b ins bef upd (bef).length del')/\(decide ((((bef).length:Nat):Int) < (((bef.map Rw.cells).length:Nat):Int))=false)/\∀ R,Good E0 B.Ap [] (L_dbR a b ins bef upd (bef).length del') R->Good E0 B.Ap [] (L_dbR a b ins bef upd i del) R:=by
 have hk:=hi;revert i del;refine zlp ((bef).length) (fun i hlt ih del hi hI _=>?_)
 obtain ⟨x,hx,h0,hw⟩:=zlq (l:=bef) ((bef.map Rw.cells).length) hlt
 have hvx:=(hI.facts ha).1 x (yC hx);have hld:=(hI.facts ha).2
 exact Zih (ih (del++[x]) Zo (by exact hI.go hx) Zo) fun R gY=>zaa (wkl [sb h0,se (zaf Rw.cells hx rfl),sd [(3,[sc (zev x (by first|assumption|omega|(simp;done)|(simp;omega)))]),(5,[sqA (List.map Rw.cells del) [[iv x.id,vsl x.vals]] del.length 2 32])],si hw] [4,6,113,114,115] 7 kr (zas rfl (show ([Blk.box [sv a.sch.name,ZC a.sch.cols,iv a.next,ZW a.rows],Blk.box [sv b.sch.name,ZC b.sch.cols,iv b.next,ZW b.rows],Blk.box [sv Zs0,AV.nl,AV.nl,AV.nl],Blk.box [sv a.sch.name,AV.own 4 ins.length,AV.own 5 (List.map Rw.cells del++[[iv x.id,vsl x.vals]]).length,AV.own 6 upd.length],Blk.row Ty.Row (List.map Rw.cells ins) false,Blk.row Ty.Row (List.map Rw.cells del++[[iv x.id,vsl x.vals]]) false,Blk.row Ty.Pair (List.map Pr.cells upd) false]:Heap)=_ from Zcv6) gY))
theorem DbO.r0 {a b:Tb} {bef ins del:List Rw} {upd:List Pr} (h:DbO a b b.rows.length bef ins del upd):DbR a b ins bef upd 0 del:=⟨del,h,by simp⟩
theorem zAw {a b:Tb} {bef ins d2:List Rw} {upd:List Pr} (hr:DbR a b ins bef upd bef.length d2):Dl.mk a.sch.name ins d2 upd=btw a b:=by
 obtain ⟨del,h,hd⟩:=hr.ex
 obtain ⟨k,e1,e2,_⟩:=h.ex
 refine btw_of h.bw ?_
 rw [hd,yL,yL,e2]
 have h1:bef.filter (zcW b)=bef:=List.filter_eq_self.2 fun x hx=>by
  have:get6 x.id b.rows=([],false):=znz fun y hy=>by
   have:=h.hi x hx y (by rw [yL];exact hy)
   omega
  unfold zcW;rw [this];rfl
 conv=>lhs;rhs;rw [← h1,e1]
 rw [← List.filter_append,List.take_append_drop]
theorem DbO.fin1 {a b:Tb} {i:Nat} {bef ins del:List Rw} {upd:List Pr} (h:DbO a b i bef ins del upd) (ha:TabV a):zac bef/\del.length+bef.length<=1000:=by
 have:=h.len;have:=ha.l100
 exact ⟨by simp only [zac];omega,by omega⟩
theorem zoR (a b:Tb) (ha:TabV a) (hb:TabV b) (hgr:∀ r∈b.rows,(!(get6 r.id a.rows).2)=true->decide (r.id < a.next)=false) (h1:zab E0 S.BF [a.av] [] (bv true) []) (h2:zab E0 S.BF [b.av] [] (bv true) []) (hss:zab E0 S.CT [a.sch.av,b.sch.av] [] (bv true) []) (hnx:decide (b.next < a.next)=false):∃ (d:Dl) (ok:Bool),(d=btw a b/\ok=true)/\zab E0 S.Ap [a.av,b.av] [] (.tup [d.av,bv ok]) []:=by
 obtain ⟨bef1,ins1,del1,upd1,q1,q1_1,g1⟩:=zhQ a b zfP zfP zfP 0 a.rows ([]) ([]) ([]) zfP zfP
 obtain ⟨del2,q2,q2_1,g2⟩:=zhR a b ins1 bef1 upd1 zfP zfP 0 del1 zfP zfP
 exact ⟨Dl.mk a.sch.name ins1 del2 upd1,true,(by exact ⟨zAw ‹_›,rfl⟩),wkcN At.Ap [sc h1,sg Zf,sc h2,sg Zf,sc hss,sg Zf,sb hnx] [2,4,6,7,44,45,46] 4 [(.ob 3 1 Ty.Row,5),(.ob 3 2 Ty.Row,6),(.ob 3 3 Ty.Pair,7)] kr (g1 _ (zaa (wkl [sb q1_1] [4,6,113,114,115] 7 kr (g2 _ (zaa (wkr [sqx ((True/\ins1.length=(List.map Rw.cells ins1).length/\del2.length=(List.map Rw.cells del2).length/\upd1.length=(List.map Pr.cells upd1).length/\True)/\True/\True),sb q2_1] kr))))))⟩
theorem zo7 (a b:Tb) (ha:TabV a) (hb:TabV b) (hg:GrowT a b):zab E0 S.Ap [a.av,b.av] [] (.tup [(btw a b).av,bv true]) []:=by
 obtain ⟨_,_,⟨rfl,rfl⟩,h⟩:=zoR a b ha hb (fun r hr h1=>by
  rcases hg.rows r hr with h|h
  ·rw [h] at h1;cases h1
  ·simp;omega) (zc8 a ha) (zc8 b hb) (by rw [hg.sch];exact zmK a.sch ha.sch.short) (by have:=hg.next;simp;omega)
 exact h
theorem zAe (a b:Tb):(btw a b).ins.length<=b.rows.length/\(btw a b).del.length<=a.rows.length/\(btw a b).upd.length<=b.rows.length :=
 ⟨yAm _ _,yAm _ _,yAr _ _⟩
theorem zrp (d:Dl) :∃ (r:Bool),r=(bif bif (((d.ins.map Rw.cells).length:Nat):Int)==0 then (((d.del.map Rw.cells).length:Nat):Int)==0 else false then (((d.upd.map Pr.cells).length:Nat):Int)==0 else false)/\zab E0 S.C5 [d.av] [] (bv r) []:=by
 cases h1:(↑(List.map Rw.cells d.ins).length:Int)==0
 ·exact ⟨false,(by first|rfl|(simp only [*,cond_true,cond_false])),wk At.C5 [sb h1] kr⟩
 ·cases h2:(↑(List.map Rw.cells d.del).length:Int)==0
  ·exact ⟨false,(by first|rfl|(simp only [*,cond_true,cond_false])),wk At.C5 [sg h1,sb h2] kr⟩
  ·exact ⟨(↑(List.map Pr.cells d.upd).length:Int)==(0:Int),(by first|rfl|(simp only [*,cond_true,cond_false])),wk At.C5 [sg h1,sg h2] kr⟩
structure SmD (d:Dl):Prop where
 ins:d.ins.length<=1000
 del:d.del.length<=1000
 upd:d.upd.length<=1000
theorem smD {x y:Tb} (hx:TabV x) (hy:TabV y):SmD (btw x y):=by
 have h:=zAe x y
 have h1:=hx.l100;have h2:=hy.l100
 exact ⟨by omega,by omega,by omega⟩
theorem zrM (d:Dl) (h:SmD d):zab E0 S.C5 [d.av] [] (bv (emD d)) []:=by
 obtain ⟨r,hr,hc⟩:=zrp d
 have e:r=emD d:=by
  have h1:=h.ins;have h2:=h.del;have h3:=h.upd
  rw [hr];unfold emD
  simp only [yG]
  rw [show IntKind.i64.wrap (IntKind.i64.wrap ((d.ins.length:Int)+(d.del.length:Int))+(d.upd.length:Int))=(d.ins.length:Int)+(d.del.length:Int)+(d.upd.length:Int) by rw [IntKind.wrap_i64 ((d.ins.length:Int)+(d.del.length:Int))];rw [IntKind.wrap_i64];omega]
  cases h4:((d.ins.length:Nat):Int)==0
  ·simp only [cond_false];symm;rw [beq_eq_false_iff_ne] at *;omega
  ·cases h5:((d.del.length:Nat):Int)==0
   ·simp only [cond_true,cond_false];symm;rw [beq_eq_false_iff_ne] at *;omega
   ·simp only [cond_true]
    have e4:d.ins.length=0:=by simpa using h4
    have e5:d.del.length=0:=by simpa using h5
    rw [e4,e5];simp
 rw [← e];exact hc
noncomputable def L_dlP (a b:List Tb) (i:Nat) (out:List Dl):Cfg:=zai B.AS 0 [(0,tsl a),(1,tsl b),(6,.own 0 out.length),(26,iv ((a.map Tb.cells).length:Nat)),(27,iv (i:Nat))] [.row Ty.Delta (out.map Dl.cells) false]
theorem Zcv10 {p:Prop} (h:p:=by first|rfl|(simp;done)|(simp [X.cells,Qy.cells,V.cells,Col.cells,Rw.cells,Tb.cells,Fr.cells,Sch.cells,Tp.cells,Pl.cells,Pr.cells,Rw.cells,Dl.cells,Col.cells,Sch.cells,Tb.cells,Itm.cells];done)):p:=h
theorem ziU (a b:List Tb) (hla:a.length<=1000) (hta:∀ t∈a,TabV t) (htb:∀ t∈b,TabV t) (hg:GrowS a b) (i:Nat) (out:List Dl) (hi:i<=(a).length) (hI:out=((a.zip b).take i).filterMap dlS):∃ (out':List Dl),(out'=((a.zip b).take (a).length).filterMap dlS)/\(decide ((((a).length:Nat):Int) < (((a.map Tb.cells).length:Nat):Int))=false)/\∀ R,Good E0 B.AS [] (L_dlP a b (a).length out') R->Good E0 B.AS [] (L_dlP a b i out) R:=by
 have hk:=hi;revert i out;refine zlp ((a).length) (fun i hlt ih out hi hI _=>?_)
 obtain ⟨x,hx,h0,hw⟩:=zlq (l:=a) ((a.map Tb.cells).length) hlt
 obtain ⟨y,hy⟩:=zbc (l:=b) (i:=i) (by have:=zb1 hx;have:=hg.len;omega);have hsm:=smD (hta x (yC hx)) (htb y (yC hy));have hbt:=zo7 x y (hta x (yC hx)) (htb y (yC hy)) (hg.tabs i x y hx hy);have ho:out.length<=1000:=(by have h1:=yAr dlS ((a.zip b).take i);have h2:=List.length_take_le i (a.zip b);rw [hI];omega)
 let p_1:List St:=[sb h0,sdm [(2,[se (zaf Tb.cells hx rfl)]),(6,[se (zaf Tb.cells hy rfl)]),(8,[sc hbt])] 0 [(0,tsl a),(1,tsl b),(6,AV.own 0 out.length),(7,iv (i:Int)),(8,AV.p 1 0),(9,bv true),(26,iv (↑(List.map Tb.cells a).length:Int)),(27,iv (i:Int)),(28,AV.bl true),(29,iv (i:Int)),(30,AV.tup [AV.agg [sv (btw x y).table,AV.sl (List.map Rw.cells (btw x y).ins),AV.sl (List.map Rw.cells (btw x y).del),AV.sl (List.map Pr.cells (btw x y).upd)],bv true]),(31,tsl a),(32,iv (i:Int)),(33,AV.dp [sv x.sch.name,ZC x.sch.cols,iv x.next,ZW x.rows]),(34,AV.agg [sv x.sch.name,ZC x.sch.cols,iv x.next,ZW x.rows]),(35,tsl b),(36,iv (i:Int)),(37,AV.dp [sv y.sch.name,ZC y.sch.cols,iv y.next,ZW y.rows]),(38,AV.agg [sv y.sch.name,ZC y.sch.cols,iv y.next,ZW y.rows]),(39,AV.tup [AV.agg [sv (btw x y).table,AV.sl (List.map Rw.cells (btw x y).ins),AV.sl (List.map Rw.cells (btw x y).del),AV.sl (List.map Pr.cells (btw x y).upd)],bv true]),(40,AV.agg [sv (btw x y).table,AV.sl (List.map Rw.cells (btw x y).ins),AV.sl (List.map Rw.cells (btw x y).del),AV.sl (List.map Pr.cells (btw x y).upd)]),(41,bv true)] [Blk.row Ty.Delta (List.map Dl.cells out) false,Blk.box [sv (btw x y).table,AV.sl (List.map Rw.cells (btw x y).ins),AV.sl (List.map Rw.cells (btw x y).del),AV.sl (List.map Pr.cells (btw x y).upd)]],sb Zf,sc (zrM (btw x y) (by first|assumption|omega|(simp;done)|(simp;omega)))]
 cases h1:!emD (btw x y)
 ·exact Zih (ih out Zo (by first|exact zx6 hI hx hy ‹_›|exact zx7 hI hx hy ‹_›) Zo) fun R gY=>zaa (wkl (p_1++[sb h1,si hw]) [0,1,6,26,27] 1 kr gY)
 ·exact Zih (ih (out++[btw x y]) Zo (by first|exact zx6 hI hx hy ‹_›|exact zx7 hI hx hy ‹_›) Zo) fun R gY=>zaa (wkl (p_1++[sb h1,sqA (List.map Dl.cells out) [[sv (btw x y).table,AV.sl (List.map Rw.cells (btw x y).ins),AV.sl (List.map Rw.cells (btw x y).del),AV.sl (List.map Pr.cells (btw x y).upd)]] out.length 4 88,si hw]) [0,1,6,26,27] 1 kr (zaK 6 0 (List.map Dl.cells out++[[sv (btw x y).table,AV.sl (List.map Rw.cells (btw x y).ins),AV.sl (List.map Rw.cells (btw x y).del),AV.sl (List.map Pr.cells (btw x y).upd)]]) gY (he:=Zcv10) (hm:=Zcv10)))
theorem zqj (a b:List Tb) (ha:zab E0 S.BQ [tsl a] [] (bv true) []) (hb:zab E0 S.BQ [tsl b] [] (bv true) []) (hg:GrowS a b) (hla:a.length<=1000) (hta:∀ t∈a,TabV t) (htb:∀ t∈b,TabV t) (hll:((((a.map Tb.cells).length:Nat):Int) != (((b.map Tb.cells).length:Nat):Int))=false):∃ (r:List Dl) (ok:Bool),(r=dls a b/\ok=true)/\zab E0 S.AS [tsl a,tsl b] [] (.tup [.sl (r.map Dl.cells),bv ok]) []:=by
 obtain ⟨out1,q1,q1_1,g1⟩:=ziU a b Za Za Za Za 0 ([]) Za Za
 exact ⟨out1,true,(by exact ⟨zAx hg ‹_›,rfl⟩),wkcN At.AS [sc ha,sg Zf,sc hb,sg Zf,sb hll] [0,1,6,26,27] 0 [(.ot 6 Ty.Delta,1)] kr (g1 _ (zaa (wkr [sqx (out1.length=(List.map Dl.cells out1).length/\True/\True),sb q1_1] kr)))⟩
theorem zdu (a b:List Tb) (ha:StA a) (hb:StA b) (hg:GrowS a b):zab E0 S.AS [tsl a,tsl b] [] (.tup [.sl ((dls a b).map Dl.cells),bv true]) []:=by
 obtain ⟨_,_,⟨rfl,rfl⟩,h⟩:=zqj a b (zix a ha) (zix b hb) hg (by have:=ha.len;omega) ha.val hb.val (by have:=hg.len;simp;omega)
 exact h
theorem zhc {p:Prop} (h:p:=by first|assumption|omega|(simp;done)|(simp;omega)):p:=h
theorem zy8 (n:Str) (hix:zab E0 S.AB [.sl [],.fn S.BT [.p 0 0]] [.box [sv n]] (iv (-1)) [.box [sv n]]):∃ (r:Dl) (b:Bool),b=false/\zab E0 S.A5 [.sl [],sv n] [] (.tup [r.av,bv b]) []:=by
 exact ⟨Dl.mk Zs0 [] [] [],false,Zr,wk At.A5 [sl [0] hix,sb Zt] kr⟩
theorem znm (n:Str):∃ d:Dl,zab E0 S.A5 [.sl [],sv n] [] (.tup [d.av,bv false]) []:=by
 obtain ⟨d,_,rfl,h⟩:=zy8 n (zbL [] n (by simp [zac]))
 exact ⟨d,h⟩
noncomputable def L_eiN (ts:List Tg) (a:List Tb) (i:Nat) :Cfg:=zai B.At 0 [(1,tsl a),(2,.sl []),(7,.nl),(14,.sl (ts.map Tg.cells)),(15,iv ((ts.map Tg.cells).length:Nat)),(16,iv (i:Nat))] []
theorem zi1 (ts:List Tg) (a:List Tb) (hl:zac a) (ht:zac ts) (hc:∀ x∈a,zac x.sch.cols) (i:Nat)  (hi:i<=(ts).length) (hI:True):(True)/\(decide ((((ts).length:Nat):Int) < (((ts.map Tg.cells).length:Nat):Int))=false)/\∀ R,Good E0 B.At [] (L_eiN ts a (ts).length ) R->Good E0 B.At [] (L_eiN ts a i ) R:=by
 have hk:=hi;revert i hI;refine zlp ((ts).length) (fun i hlt ih hi hI _=>?_)
 obtain ⟨x,hx,h0,hw⟩:=zlq (l:=ts) ((ts.map Tg.cells).length) hlt
 obtain ⟨d1,c1⟩:=(znm x.table)
 let p_1:List St:=[sb h0,se (zaf Tg.cells hx rfl),sc c1,sc (zcw a x.table zhc zhc)]
 cases h2:x.before
 ·obtain ⟨qZ,xZ,gZ⟩:=ih Zo (by first|trivial|assumption|(simp;done)|omega|(simp;omega)|(simp at *;omega)) Zo;exact ⟨qZ,xZ,fun R hg=>zaa (wkl (p_1++[sg h2,sb Zt,si hw]) [1,2,7,14,15,16] 0 kr (gZ R hg))⟩
 ·obtain ⟨qZ,xZ,gZ⟩:=ih Zo (by first|trivial|assumption|(simp;done)|omega|(simp;omega)|(simp at *;omega)) Zo;exact ⟨qZ,xZ,fun R hg=>zaa (wkl (p_1++[sb h2,si hw]) [1,2,7,14,15,16] 0 kr (gZ R hg))⟩
theorem zxR (ts:List Tg) (a:List Tb) (hl:zac a) (ht:zac ts) (hc:∀ x∈a,zac x.sch.cols):∃ (r:List Itm),r=[]/\zab E0 S.At [.sl (ts.map Tg.cells),tsl a,.sl []] [] (.sl (r.map Itm.cells)) []:=by
 obtain ⟨q1,q1_1,g1⟩:=zi1 ts a zhc zhc zhc 0 zhc zhc
 exact ⟨[],Zr,wkc At.At [] [1,2,7,14,15,16] 0 kr (g1 _ (zaa (wkr [sb q1_1] kr)))⟩
noncomputable def L_eiE (a:List Tb) (ds:List Dl):Cfg:=zai B.At 0 [(1,tsl a),(2,.sl (ds.map Dl.cells)),(7,.nl),(14,.sl []),(15,iv (0:Nat)),(16,iv (0:Nat))] []
theorem zi0 (a:List Tb) (ds:List Dl):True/\∀ R,Good E0 B.At [] (L_eiE a ds) R->Good E0 B.At [] (L_eiE a ds) R:=⟨trivial,fun _ h=>h⟩
theorem zxS (a:List Tb) (ds:List Dl) :∃ (r:List Itm),r=[]/\zab E0 S.At [.sl [],tsl a,.sl (ds.map Dl.cells)] [] (.sl (r.map Itm.cells)) []:=by
 obtain ⟨q1,g1⟩:=zi0 a (ds)
 exact ⟨[],Zr,wkc At.At [] [1,2,7,14,15,16] 0 kr (g1 _ (zaa (wkr [sb Zf] kr)))⟩
noncomputable def L_prU (l m:List Tb) (ts:List Tg) (o:List Lk) (n:Int):Cfg:=zai B.Aj 0 [(0,tsl l),(2,.sl (ts.map Tg.cells)),(12,.p 0 0),(14,.p 1 0)] [.box [.nl,iv 0,iv 0,.nl,.nl],.box [tsl m,iv 0,iv 0,.nl,.own 2 0,.sl (ts.map Tg.cells),lsl o,iv n],.row Ty.int [] false]
theorem zcS (l m:List Tb) (ts:List Tg) (o:List Lk) (n:Int):True/\∀ R,Good E0 B.Aj [] (L_prU l m ts o n) R->Good E0 B.Aj [] (L_prU l m ts o n) R:=⟨trivial,fun _ h=>h⟩
theorem zoT (l m:List Tb) (ts:List Tg) (o:List Lk) (n:Int) (ds:List Dl) (h1:zab E0 S.A1 [lsl o] [] (bv true) []) (h2:decide (n < 0)=false) (h3:zab E0 S.Ce [tsl m] [] (tsl m) []) (h4:zab E0 S.AS [tsl l,tsl m] [] (.tup [.sl (ds.map Dl.cells),bv true]) []) (h5:zab E0 S.At [.sl (ts.map Tg.cells),tsl m,.sl (ds.map Dl.cells)] [] (.sl []) []):∃ (e:Int),e=0/\zab E0 S.Aj [tsl l,tsl m,.sl (ts.map Tg.cells),lsl o,.sl [],iv n] [] (.tup [.agg [tsl m,iv 0,iv 0,.sl [],.sl []],iv e]) []:=by
 obtain ⟨q1,g1⟩:=zcS l m ts o (n)
 exact ⟨0,Zr,wkc At.Aj [sc h1,sg Zf,sb h2,sc h3,sc (za9 ([]) zhc)] [0,2,12,14] 3 kr (g1 _ (zaa (wkr [sqx ((True/\True/\True/\True/\0=0/\True)/\True/\True),sc h4,sb Zf,sc h5,sb Zt] kr)))⟩
theorem zh7 {p:Prop} (h:p:=by first|assumption|omega|(simp;done)|(simp;omega)):p:=h
theorem StV.stA {l:List Tb} (h:StV l):StA l:=by
 match l,h with
 | [a,b,c],h =>
  have h1:=h.schs
  simp only [yT,yAD] at h1
  have e1:a.sch.name=⟨#[108,111,103]⟩:=by injection h1 with h2 _;rw [h2]
  have e2:b.sch.name=⟨#[116]⟩:=by injection h1 with _ h2;injection h2 with h2 _;rw [h2]
  have e3:c.sch.name=⟨#[117]⟩:=by injection h1 with _ h2;injection h2 with _ h2;injection h2 with h2 _;rw [h2]
  refine ⟨by simp,h.tabs,?_⟩
  simp only [yAK,yO,yAE,or_false,forall_eq_or_imp,forall_eq,e1,e2,e3]
  exact ⟨⟨by kernel_rfl,by kernel_rfl⟩,by kernel_rfl,by simp,List.Pairwise.nil⟩
 | [],h=>have:=h.len;cases this
 | [_],h=>have:=h.len;cases this
 | [_,_],h=>have:=h.len;cases this
 | _::_::_::_::_,h=>have:=h.len;simp only [yAL] at this;omega
theorem zlg (t:Tp):∃ (m:List Tb) (t':Tp),(m.length=3/\StV m)/\zab E0 S.BU [.p 0 0,iv 3] [.box t.cells] (tsl m) [.box t'.cells]:=by
 obtain ⟨m,t',hm,h⟩:=zlh t 3 zdc Zd
 have hv:StV m:=⟨hm.schs,fun x hx=>hm.tabV Zd hx⟩
 exact ⟨m,t',⟨hv.len,hv⟩,h⟩
structure ChI (l m:List Tb) (i:Nat):Prop where
 st:StV m
 gr:GrowS l m
 eq:∀ j,i<=j->m[j]?=l[j]?
theorem zhG (a:Tb):GrowT a a:=⟨rfl,Int.le_refl _,fun r hr=>.inl (zs8 hr)⟩
theorem zo5 (l:List Tb):GrowS l l:=⟨rfl,fun i x y hx hy=>by rw [hx] at hy;cases hy;exact zhG x⟩
theorem zwz {l:List Tb} (h:StV l):ChI l l 0:=⟨h,zo5 l,fun _ _=>rfl⟩
section
variable {l m : List Tb} {i : Nat} {x : Tb}
theorem ChI.skip (h:ChI l m i):ChI l m (i+1):=⟨h.st,h.gr,fun j hj=>h.eq j Zo⟩
theorem ChI.set (h:ChI l m i) (hx:m[i]?=some x) {c:Ch} (hc:ChG x c) (h0:((apS x c).2==0)=true):ChI l (m.set i (apS x c).1) (i+1):=by
 have hv:=h.st.tabs x (yC hx)
 have hq:=apS_q hv hc
 rw [show (apS x c).2=0 by simpa using h0] at hq
 obtain ⟨e,ht⟩:=zAc hv hc hq
 rw [e]
 refine ⟨h.st.set hx rfl ht,⟨by rw [List.length_set];exact h.gr.len,fun j a b ha hb=>?_⟩,fun j hj=>?_⟩
 ·by_cases e2:i=j
  ·subst e2
   rw [yAI (zb1 hx)] at hb
   cases hb
   rw [h.eq i (yJ i)] at hx
   rw [hx] at ha;cases ha
   exact zAF _ c
  ·rw [yZ e2] at hb
   exact h.gr.tabs j a b ha hb
 ·rw [yZ Zo];exact h.eq j Zo
end
theorem schCol {m:List Tb} (h:StV m) {x:Tb} (hx:x∈m):∀ c∈x.sch.cols,zdo c:=(zep (by rw [← h.schs];exact List.mem_map_of_mem hx)).cols
noncomputable def L_chL (t0:Tp) (l:List Tb) (i:Nat) (u:Tp) (m:List Tb):Cfg:=zai B.Cx 0 [(0,.p 0 0),(4,tsl l),(5,.own 1 (m.map Tb.cells).length),(15,iv ((l.map Tb.cells).length:Nat)),(16,iv (i:Nat))] [.box u.cells,.row Ty.Table (m.map Tb.cells) false]
theorem Zcv9 {p:Prop} (h:p:=by first|rfl|(simp;done)|(simp [X.cells,Qy.cells,V.cells,Col.cells,Rw.cells,Tb.cells,Fr.cells,Sch.cells,Tp.cells,Pl.cells,Pr.cells,Rw.cells,Dl.cells,Col.cells,Sch.cells,Tb.cells,Itm.cells,Lk.cells];done)):p:=h
theorem zhS (t0:Tp) (l:List Tb) (hl:l.length<=1000) (i:Nat) (u:Tp) (m:List Tb) (hi:i<=((l.map Tb.cells).length)) (hI:ChI l m i):∃ (u':Tp) (m':List Tb),(ChI l m' ((l.map Tb.cells).length))/\(decide (((((l.map Tb.cells).length):Nat):Int) < ((((l.map Tb.cells).length):Nat):Int))=false)/\∀ R,Good E0 B.Cx [.box t0.cells] (L_chL t0 l ((l.map Tb.cells).length) u' m') R->Good E0 B.Cx [.box t0.cells] (L_chL t0 l i u m) R:=by
 obtain ⟨kk,hk⟩:∃ kk,i+kk=((l.map Tb.cells).length):=⟨((l.map Tb.cells).length) - i,by omega⟩
 induction kk generalizing i u m with
 | zero =>
  have e0:i=((l.map Tb.cells).length):=by omega
  subst e0
  exact ⟨u,m,hI,by simp,fun R hg=>hg⟩
 | succ kk ih =>
  have h0:decide (((i:Nat):Int) < ((((l.map Tb.cells).length):Nat):Int))=true:=by simp at hk ⊢;omega
  have hw:IntKind.i64.wrap (((i:Nat):Int)+1)=((i+1:Nat):Int):=zba i (by (have hi2:=h0;simp at hi2;omega))
  obtain ⟨x,hx⟩:=zbc (l:=m) (i:=i) (by have:=hI.gr.len;have hi2:=h0;simp at hi2;omega);have hiL:=zb1 hx;have hv:=hI.st.tabs x (yC hx);have hsr:=hv.shr;have hsc:=hv.sch.short;have hco:=schCol hI.st (yC hx)
  obtain ⟨cz1,u1,q1,c1⟩:=(zle u x zh7 zh7 zh7 zh7)
  let p_1:List St:=[sb h0,sdp [(2,[sqx (OwnAt (List.map Tb.cells m) (List.map Tb.cells m).length (i:Int))]),(3,[sx (.el x.cells) (zcp Tb.cells (n:=(List.map Tb.cells m).length) Zs hx)]),(7,[sqx (OwnAt (List.map Tb.cells m) (List.map Tb.cells m).length (i:Int))]),(8,[sx (.el x.cells) (zcp Tb.cells (n:=(List.map Tb.cells m).length) Zs hx)]),(9,[sl [0] c1]),(10,[sc (zmP x cz1 zh7 zh7)])] [[2,3,7,8,9,10],[2,3,7,8,9,10],[2,3,7,8,9,10],[2,3,7,8,9,10],[2,7,3,8,9,10],[2,7,3,8,9,10],[2,7,3,8,9,10],[2,7,3,8,9,10],[2,7,8,3,9,10],[2,7,8,3,9,10],[2,7,8,3,9,10],[2,7,8,9,3,10],[2,7,8,9,3,10],[2,7,8,9,3,10],[2,7,8,3,9,10],[2,7,8,9,3,10],[2,7,3,8,9,10],[2,7,8,3,9,10],[2,7,8,9,3,10],[2,3,7,8,9,10],[2,7,3,8,9,10],[2,7,8,3,9,10],[2,7,8,9,3,10],[7,2,3,8,9,10],[7,2,3,8,9,10],[7,2,3,8,9,10],[7,2,3,8,9,10],[7,2,8,3,9,10],[7,2,8,3,9,10],[7,2,8,3,9,10],[7,2,8,9,3,10],[7,2,8,9,3,10],[7,2,8,9,3,10],[7,2,8,3,9,10],[7,2,8,9,3,10],[7,2,3,8,9,10],[7,2,8,3,9,10],[7,2,8,9,3,10],[7,8,2,3,9,10],[7,8,2,3,9,10],[7,8,2,3,9,10],[7,8,2,9,3,10],[7,8,2,9,3,10],[7,8,2,9,3,10],[7,8,2,3,9,10],[7,8,2,9,3,10],[7,8,9,2,3,10],[7,8,9,2,3,10],[7,8,9,2,3,10],[7,8,9,2,3,10],[7,8,2,3,9,10],[7,8,2,9,3,10],[7,8,9,2,3,10],[7,2,3,8,9,10],[7,2,8,3,9,10],[7,2,8,9,3,10],[7,8,2,3,9,10],[7,8,2,9,3,10],[7,8,9,2,3,10],[2,3,7,8,9,10],[2,7,3,8,9,10],[2,7,8,3,9,10],[2,7,8,9,3,10],[7,2,3,8,9,10],[7,2,8,3,9,10],[7,2,8,9,3,10],[7,8,2,3,9,10],[7,8,2,9,3,10],[7,8,9,2,3,10]] [(0,AV.p 0 0),(4,tsl l),(5,AV.own 1 (List.map Tb.cells m).length),(6,iv (i:Int)),(7,AV.p 2 0),(8,iv (apS x cz1).snd),(15,iv (↑(List.map Tb.cells l).length:Int)),(16,iv (i:Int)),(17,AV.bl true),(18,iv (i:Int)),(19,AV.tup [AV.agg [sv (apS x cz1).fst.sch.name,AV.sl (List.map Col.cells (apS x cz1).fst.sch.cols),iv (apS x cz1).fst.next,AV.sl (List.map Rw.cells (apS x cz1).fst.rows)],iv (apS x cz1).snd]),(20,AV.own 1 (List.map Tb.cells m).length),(21,iv (i:Int)),(22,AV.ep 1 (List.map Tb.cells m).length (i:Int).toNat 0),(23,AV.agg [sv x.sch.name,ZC x.sch.cols,iv x.next,ZW x.rows]),(24,AV.p 0 0),(25,AV.own 1 (List.map Tb.cells m).length),(26,iv (i:Int)),(27,AV.ep 1 (List.map Tb.cells m).length (i:Int).toNat 0),(28,AV.agg [sv x.sch.name,ZC x.sch.cols,iv x.next,ZW x.rows]),(29,AV.agg [AV.sl (List.map vrow cz1.ins),AV.sl (List.map (fun n=>[iv n]) cz1.del),AV.sl (List.map Pr.cells cz1.upd)]),(30,AV.tup [AV.agg [sv (apS x cz1).fst.sch.name,AV.sl (List.map Col.cells (apS x cz1).fst.sch.cols),iv (apS x cz1).fst.next,AV.sl (List.map Rw.cells (apS x cz1).fst.rows)],iv (apS x cz1).snd]),(31,AV.agg [sv (apS x cz1).fst.sch.name,AV.sl (List.map Col.cells (apS x cz1).fst.sch.cols),iv (apS x cz1).fst.next,AV.sl (List.map Rw.cells (apS x cz1).fst.rows)]),(32,iv (apS x cz1).snd)] [Blk.box [AV.sl (List.map (fun n=>[iv n]) u1.l),iv (u1.pos:Int)],Blk.row Ty.Table (List.map Tb.cells m) false,Blk.box [sv (apS x cz1).fst.sch.name,AV.sl (List.map Col.cells (apS x cz1).fst.sch.cols),iv (apS x cz1).fst.next,AV.sl (List.map Rw.cells (apS x cz1).fst.rows)]]]
  cases h2:(apS x cz1).snd==0
  ·obtain ⟨uZ,mZ,qZ,xZ,gZ⟩:=ih (i+1) u1 m Zo (by first|exact hI.skip|exact hI.set hx ‹_› ‹_›) Zo;exact ⟨uZ,mZ,qZ,xZ,fun R hg=>zaa (wkl (p_1++[sb h2,si hw]) [0,4,5,15,16] 2 kr (gZ R hg))⟩
  ·obtain ⟨uZ,mZ,qZ,xZ,gZ⟩:=ih (i+1) u1 (m.set i (apS x cz1).fst) Zo (by first|exact hI.skip|exact hI.set hx ‹_› ‹_›) Zo;exact ⟨uZ,mZ,qZ,xZ,fun R hg=>zaa (wkl (p_1++[sb h2,sqx (OwnAt (List.map Tb.cells m) (List.map Tb.cells m).length (i:Int)),sx (.el x.cells) (And.intro (owed (p:=True/\True/\True/\True/\True)) (zcp Tb.cells (n:=(List.map Tb.cells m).length) Zs hx)),si hw]) [0,4,5,15,16] 2 kr (zas (show ([(0,AV.p 0 0),(4,tsl l),(5,AV.own 1 (List.map Tb.cells m).length),(15,iv (↑(List.map Tb.cells l).length:Int)),(16,iv (↑(i+1):Int))]:TS)=_ from Zcv9) (show ([Blk.box [AV.sl (List.map (fun n=>[iv n]) u1.l),iv (u1.pos:Int)],Blk.row Ty.Table ((List.map Tb.cells m).set i [sv (apS x cz1).fst.sch.name,AV.sl (List.map Col.cells (apS x cz1).fst.sch.cols),iv (apS x cz1).fst.next,AV.sl (List.map Rw.cells (apS x cz1).fst.rows)]) false]:Heap)=_ from Zcv9) (gZ R hg)))⟩
theorem zqa (t0:Tp) :∃ (l m:List Tb) (t1:Tp),(StV l/\StV m/\GrowS l m)/\zab E0 S.Cx [.p 0 0] [.box t0.cells] (.tup [tsl l,tsl m]) [.box t1.cells]:=by
 obtain ⟨m1,t1,q1,c1⟩:=(zlg t0)
 obtain ⟨u2,m2,q2,q2_1,g2⟩:=zhS t0 m1 (by first|assumption|exact zwz (And.right ‹_/\StV _›)|omega) 0 t1 m1 (by first|assumption|exact zwz (And.right ‹_/\StV _›)|omega) (by first|assumption|exact zwz (And.right ‹_/\StV _›)|omega)
 exact ⟨m1,m2,u2,(by exact ⟨And.right ‹_/\StV _›,ChI.st ‹_›,ChI.gr ‹_›⟩),wkc At.Cx [sl [0] c1,sqx (AllLen (List.map Tb.cells m1) 4/\((List.map Tb.cells m1).length * 72).le 140737488355328),sqx ((List.map Tb.cells m1).length=(List.map Tb.cells m1).length)] [0,4,5,15,16] 2 kr (g2 _ (zaa (wkr [sqx (True/\(List.map Tb.cells m2).length=(List.map Tb.cells m2).length/\True),sb q2_1] kr)))⟩
abbrev sUk:Str:=⟨#[117]⟩
abbrev nA:Str:=⟨#[97]⟩
abbrev nB:Str:=⟨#[98]⟩
abbrev v1k (n:Int):V:=⟨1,n,⟨#[]⟩⟩
abbrev l0k:List Tb:=[⟨zaS,1,[]⟩,⟨zaW,1,[]⟩]
abbrev r1k:Rw:=⟨1,[v1k 1,v1k 1,v1k 1]⟩
abbrev r2k:Rw:=⟨2,[v1k 2,v1k 1,v1k 1]⟩
abbrev m0k:List Tb:=[⟨zaS,1,[]⟩,⟨zaW,3,[r1k,r2k]⟩]
abbrev acB:Ac:=⟨3,sLog,[],[],[],[],⟨#[]⟩⟩
abbrev tgA:Tg:=zyQ []
abbrev tgB:Tg:=⟨nB,sLog,false,1,[],false,[],[],[],[],[acB]⟩
abbrev rK (n:Int):List X:=[xLit (v1k n),xLit (v1k 1),xLit (v1k 1)]
abbrev znI:List (List X):=[rK 1,rK 2]
abbrev acK:Ac:=zaD sUk znI
def tsK:List Tg:=[tgA,tgB]
theorem zyS:∀ t∈tsK,t.before=false:=fun t ht=>by
 simp only [tsK,yO,yAE,or_false] at ht
 rcases ht with rfl|rfl <;> rfl
theorem zp5:zac tsK:=by decide
theorem c_shK (n:Int) :∃ (r:Bool),r=true/\zab E0 S.Ad [(xLit (v1k n)).av] [] (bv r) []:=by
 exact ⟨(↑(zam []).length:Int)==(0:Int),Zr,wk At.Ad [sb Zt,sg Zt] kr⟩
theorem zg2 (n:Int):zab E0 S.Ad [(xLit (v1k n)).av] [] (bv true) []:=by
 obtain ⟨_,rfl,h⟩:=c_shK n
 exact h
theorem c_vxK (n:Int) (hn:decide (0<=(xLit (v1k n)).val.int)=true) (hv:zbu (v1k n)=true):∃ (r:Bool),r=true/\zab E0 S.Ab [(xLit (v1k n)).av] [] (bv r) []:=by
 exact ⟨ByteArray.toList (xLit (v1k n)).name==Zs0.toList,(by first|rfl|(show _=_;kernel_rfl)),wk At.Ab [sc (zg2 n),sg Zf,sg Zt,sg Zf,sg Zt,sb Zf,sb Zt,sc (zjw ((xLit (v1k n)).val) (by first|assumption|omega|(simp;done)|(simp;omega))),sg Zt,sg Zf,sg hn,sg Zt] kr⟩
theorem zeJ (n:Int) (hn:decide (0<=n)=true) (hv:zbu (v1k n)=true):zab E0 S.Ab [(xLit (v1k n)).av] [] (bv true) []:=by
 obtain ⟨_,rfl,h⟩:=c_vxK n hn hv
 exact h
theorem c_evK (n:Int) (tb:List Tb) :∃ (v:V) (r:Int),(v=v1k n/\r=0)/\zab E0 S.Dv [(xLit (v1k n)).av,.sl [],tsl tb] [] (.tup [v.av,iv r]) []:=by
 exact ⟨(xLit (v1k n)).val,0,Zj,wk At.Dv [sc (zg2 n),sb Zf,sb Zt] kr⟩
theorem zb9 (n:Int) (tb:List Tb):zab E0 S.Dv [(xLit (v1k n)).av,.sl [],tsl tb] [] (.tup [(v1k n).av,iv 0]) []:=by
 obtain ⟨_,_,⟨rfl,rfl⟩,h⟩:=c_evK n tb
 exact h
theorem zyb:ElAt (List.map zaI znI) ((0:Nat):Int) (zaI (rK 1)) 1:=⟨by decide,rfl,rfl⟩
theorem zyc:ElAt (List.map zaI znI) ((0+1:Nat):Int) (zaI (rK 2)) 1:=⟨by decide,rfl,rfl⟩
theorem zsU (n:Int):ElAt (zad [xLit (v1k n),xLit (v1k 1),xLit (v1k 1)]) ((0:Nat):Int) (xLit (v1k n)).cells 10:=⟨by decide,rfl,rfl⟩
theorem zsV (n:Int):ElAt (zad [xLit (v1k n),xLit (v1k 1),xLit (v1k 1)]) ((0+1:Nat):Int) (xLit (v1k 1)).cells 10:=⟨by decide,rfl,rfl⟩
theorem zsW (n:Int):ElAt (zad [xLit (v1k n),xLit (v1k 1),xLit (v1k 1)]) ((0+1+1:Nat):Int) (xLit (v1k 1)).cells 10:=⟨by decide,rfl,rfl⟩
noncomputable def L_alK (n:Int) (i:Nat):Cfg:=zai B.Ax 0 [(5,xsl (rK n)),(6,iv (3:Nat)),(7,iv (i:Nat))] []
theorem zcN (n:Int) (i:Nat):True/\∀ R,Good E0 B.Ax [] (L_alK n i) R->Good E0 B.Ax [] (L_alK n i) R:=⟨trivial,fun _ h=>h⟩
theorem zxO (n:Int) (h:zab E0 S.Ab [(xLit (v1k n)).av] [] (bv true) []) (hz:zab E0 S.Ab [(xLit (v1k 1)).av] [] (bv true) []):∃ (r:Bool),r=true/\zab E0 S.Ax [xsl (rK n)] [] (bv r) []:=by
 obtain ⟨q1,g1⟩:=zcN n (0)
 obtain ⟨q2,g2⟩:=zcN n (0+1)
 obtain ⟨q3,g3⟩:=zcN n (0+1+1)
 obtain ⟨q4,g4⟩:=zcN n (0+1+1+1)
 exact ⟨true,Zr,wkc At.Ax [] [5,6,7] 0 kr (g1 _ (zaa (wkl [sb Zt,se (zsU n),sc h,sb Zf,si (zap (t:=(↑0:Int)+1) (n:=0+1) Zo Zo)] [5,6,7] 0 kr (g2 _ (zaa (wkl [sb Zt,se (zsV n),sc hz,sb Zf,si (zap (t:=(↑(0+1):Int)+1) (n:=0+1+1) Zo Zo)] [5,6,7] 0 kr (g3 _ (zaa (wkl [sb Zt,se (zsW n),sc hz,sb Zf,si (zap (t:=(↑(0+1+1):Int)+1) (n:=0+1+1+1) Zo Zo)] [5,6,7] 0 kr (g4 _ (zaa (wkr [sb Zf] kr))))))))))))⟩
abbrev chK:Ch:=⟨[r1k.vals,r2k.vals],[],[]⟩
noncomputable def L_al0 :Cfg:=zai B.Ax 0 [(5,.sl []),(6,iv (0:Nat)),(7,iv (0:Nat))] []
theorem zkZ :True/\∀ R,Good E0 B.Ax [] (L_al0 ) R->Good E0 B.Ax [] (L_al0 ) R:=⟨trivial,fun _ h=>h⟩
theorem c_all0  :∃ (r:Bool),r=true/\zab E0 S.Ax [.sl []] [] (bv r) []:=by
 obtain ⟨q1,g1⟩:=zkZ
 exact ⟨true,Zr,wkc At.Ax [] [5,6,7] 0 kr (g1 _ (zaa (wkr [sb Zf] kr)))⟩
noncomputable def L_viK (i:Nat):Cfg:=zai B.Am 0 [(1,.p 0 0),(27,.sl (znI.map zaI)),(28,iv (2:Nat)),(29,iv (i:Nat))] [.box acK.cells]
theorem zcq (i:Nat):True/\∀ R,Good E0 B.Am [] (L_viK i) R->Good E0 B.Am [] (L_viK i) R:=⟨trivial,fun _ h=>h⟩
theorem c_viK  (h:zab E0 S.Ax [xsl (rK 1)] [] (bv true) []) (ha:zab E0 S.Ax [xsl (rK 2)] [] (bv true) []):∃ (r:Bool),r=true/\zab E0 S.Am [acK.av] [] (bv r) []:=by
 obtain ⟨q1,g1⟩:=zcq (0)
 obtain ⟨q2,g2⟩:=zcq (0+1)
 obtain ⟨q3,g3⟩:=zcq (0+1+1)
 exact ⟨true,Zr,wkc At.Am [sg Zf,sg Zf,sb Zf] [1,27,28,29] 1 kr (g1 _ (zaa (wkl [sb Zt,se (zyb ),sg Zf,sg Zf,sc h,sb Zf,si (zap (t:=(↑0:Int)+1) (n:=0+1) Zo Zo)] [1,27,28,29] 1 kr (g2 _ (zaa (wkl [sb Zt,se (zyc ),sg Zf,sg Zf,sc ha,sb Zf,si (zap (t:=(↑(0+1):Int)+1) (n:=0+1+1) Zo Zo)] [1,27,28,29] 1 kr (g3 _ (zaa (wkr [sb Zf,sb Zt] kr)))))))))⟩
noncomputable def L_niK (tb:List Tb) (t:Tb) (out:List (List V)) (i:Nat):Cfg:=zai B.A4 0 [(2,.sl []),(3,tsl tb),(4,.p 0 0),(8,.p 2 0),(10,.p 3 0),(11,iv (3:Nat)),(30,.sl (znI.map zaI)),(31,iv (2:Nat)),(32,iv (i:Nat))] [.box acK.cells,.box t.cells,.box [.nl,.nl,.nl],.box [.own 4 out.length,.nl,.nl],.row Ty.LValue (out.map vrow) false]
theorem zc0 (tb:List Tb) (t:Tb) (out:List (List V)) (i:Nat):True/\∀ R,Good E0 B.A4 [] (L_niK tb t out i) R->Good E0 B.A4 [] (L_niK tb t out i) R:=⟨trivial,fun _ h=>h⟩
noncomputable def L_njK (tb:List Tb) (t:Tb) (n:Int) (out:List (List V)) (io:Nat) (row:List V) (i:Nat):Cfg:=zai B.A4 1 [(2,.sl []),(3,tsl tb),(4,.p 0 0),(8,.p 2 0),(10,.p 3 0),(11,iv (3:Nat)),(14,.own 5 row.length),(30,.sl (znI.map zaI)),(31,iv (2:Nat)),(32,iv (io:Nat)),(41,xsl (rK n)),(42,iv (3:Nat)),(43,iv (i:Nat))] [.box acK.cells,.box t.cells,.box [.nl,.nl,.nl],.box [.own 4 out.length,.nl,.nl],.row Ty.LValue (out.map vrow) false,.row Ty.Value (row.map V.cells) false]
theorem za5 (tb:List Tb) (t:Tb) (n:Int) (out:List (List V)) (io:Nat) (row:List V) (i:Nat):True/\∀ R,Good E0 B.A4 [] (L_njK tb t n out io row i) R->Good E0 B.A4 [] (L_njK tb t n out io row i) R:=⟨trivial,fun _ h=>h⟩
noncomputable def L_nqK (tb:List Tb) (t:Tb) (out:List (List V)):Cfg:=zai B.A4 2 [(2,.sl []),(3,tsl tb),(8,.p 2 0),(10,.p 3 0),(11,iv (3:Nat)),(71,.sl []),(72,iv (0:Nat)),(73,iv (0:Nat))] [.box acK.cells,.box t.cells,.box [.nl,.nl,.nl],.box [.own 4 out.length,.nl,.nl],.row Ty.LValue (out.map vrow) false]
theorem zhT (tb:List Tb) (t:Tb) (out:List (List V)):True/\∀ R,Good E0 B.A4 [] (L_nqK tb t out) R->Good E0 B.A4 [] (L_nqK tb t out) R:=⟨trivial,fun _ h=>h⟩
theorem Zcv7 {p:Prop} (h:p:=by first|rfl|(simp;done)|(simp [X.cells,Qy.cells,V.cells,Col.cells,Rw.cells,Tb.cells,Fr.cells,Sch.cells,Tp.cells,Pl.cells,xCol,xLit,xBin,xNeg,Pr.cells,Rw.cells,Dl.cells,Col.cells,Sch.cells,Tb.cells,Itm.cells,Lk.cells,Ac.cells,Tg.cells];done)):p:=h
theorem c_niK  :∃ (cz:Ch) (r:Int),(cz=chK/\r=0)/\zab E0 S.A4 [acK.av,(⟨zaW,1,[]⟩:Tb).av,.sl [],tsl l0k] [] (.tup [cz.av,iv r]) []:=by
 obtain ⟨q1,g1⟩:=zc0 l0k (Tb.mk zaW 1 []) ([]) (0)
 obtain ⟨q2,g2⟩:=za5 l0k (Tb.mk zaW 1 []) 1 ([]) 0 ([]) (0)
 obtain ⟨q3,g3⟩:=za5 l0k (Tb.mk zaW 1 []) 1 ([]) 0 ([v1k 1]) (0+1)
 obtain ⟨q4,g4⟩:=za5 l0k (Tb.mk zaW 1 []) 1 ([]) 0 ([v1k 1,v1k 1]) (0+1+1)
 obtain ⟨q5,g5⟩:=za5 l0k (Tb.mk zaW 1 []) 1 ([]) 0 ([v1k 1,v1k 1,v1k 1]) (0+1+1+1)
 obtain ⟨q6,g6⟩:=zc0 l0k (Tb.mk zaW 1 []) ([[v1k 1,v1k 1,v1k 1]]) (0+1)
 obtain ⟨q7,g7⟩:=za5 l0k (Tb.mk zaW 1 []) 2 ([[v1k 1,v1k 1,v1k 1]]) (0+1) ([]) (0)
 obtain ⟨q8,g8⟩:=za5 l0k (Tb.mk zaW 1 []) 2 ([[v1k 1,v1k 1,v1k 1]]) (0+1) ([v1k 2]) (0+1)
 obtain ⟨q9,g9⟩:=za5 l0k (Tb.mk zaW 1 []) 2 ([[v1k 1,v1k 1,v1k 1]]) (0+1) ([v1k 2,v1k 1]) (0+1+1)
 obtain ⟨q10,g10⟩:=za5 l0k (Tb.mk zaW 1 []) 2 ([[v1k 1,v1k 1,v1k 1]]) (0+1) ([v1k 2,v1k 1,v1k 1]) (0+1+1+1)
 obtain ⟨q11,g11⟩:=zc0 l0k (Tb.mk zaW 1 []) ([[v1k 1,v1k 1,v1k 1],[v1k 2,v1k 1,v1k 1]]) (0+1+1)
 obtain ⟨q12,g12⟩:=zhT l0k (Tb.mk zaW 1 []) ([[v1k 1,v1k 1,v1k 1],[v1k 2,v1k 1,v1k 1]])
 exact ⟨Ch.mk [[v1k 1,v1k 1,v1k 1],[v1k 2,v1k 1,v1k 1]] [] [],0,Zj,wkcN At.A4 [] [2,3,4,8,10,11,30,31,32] 4 [(.ob 3 0 Ty.LValue,5)] kr (g1 _ (zaa (wklN [sb Zt,se (zyb ),sb Zf] [2,3,4,8,10,11,14,30,31,32,41,42,43] 5 [(.ot 14 Ty.Value,6)] kr (g2 _ (zaa (wkl [sb Zt,se (zsU 1),sc (zb9 1 l0k),sb Zf,sqx (AllLen [[iv (v1k 1).kind,iv (v1k 1).int,sv (v1k 1).text]] 3/\0=0/\Nat.le 32 140737488355328),si (zap (t:=(↑0:Int)+1) (n:=0+1) Zo Zo)] [2,3,4,8,10,11,14,30,31,32,41,42,43] 6 kr (g3 _ (zaa (wkl [sb Zt,se (zsV 1),sc (zb9 1 l0k),sb Zf,sqx (AllLen [[iv (v1k 1).kind,iv (v1k 1).int,sv (v1k 1).text]] 3/\1=1/\Nat.le 64 140737488355328),si (zap (t:=(↑(0+1):Int)+1) (n:=0+1+1) Zo Zo)] [2,3,4,8,10,11,14,30,31,32,41,42,43] 6 kr (g4 _ (zaa (wkl [sb Zt,se (zsW 1),sc (zb9 1 l0k),sb Zf,sqx (AllLen [[iv (v1k 1).kind,iv (v1k 1).int,sv (v1k 1).text]] 3/\2=2/\Nat.le 96 140737488355328),si (zap (t:=(↑(0+1+1):Int)+1) (n:=0+1+1+1) Zo Zo)] [2,3,4,8,10,11,14,30,31,32,41,42,43] 6 kr (g5 _ (zaa (wkl [sb Zf,sqx (3=3/\True),sqx (AllLen [[AV.sl [[iv (v1k 1).kind,iv (v1k 1).int,sv (v1k 1).text],[iv (v1k 1).kind,iv (v1k 1).int,sv (v1k 1).text],[iv (v1k 1).kind,iv (v1k 1).int,sv (v1k 1).text]]]] 1/\0=0/\Nat.le 24 140737488355328),si (zap (t:=(↑0:Int)+1) (n:=0+1) Zo Zo)] [2,3,4,8,10,11,30,31,32] 5 kr (g6 _ (zaa (wklN [sb Zt,se (zyc ),sb Zf] [2,3,4,8,10,11,14,30,31,32,41,42,43] 5 [(.ot 14 Ty.Value,6)] kr (g7 _ (zaa (wkl [sb Zt,se (zsU 2),sc (zb9 2 l0k),sb Zf,sqx (AllLen [[iv (v1k 2).kind,iv (v1k 2).int,sv (v1k 2).text]] 3/\0=0/\Nat.le 32 140737488355328),si (zap (t:=(↑0:Int)+1) (n:=0+1) Zo Zo)] [2,3,4,8,10,11,14,30,31,32,41,42,43] 6 kr (g8 _ (zaa (wkl [sb Zt,se (zsV 2),sc (zb9 1 l0k),sb Zf,sqx (AllLen [[iv (v1k 1).kind,iv (v1k 1).int,sv (v1k 1).text]] 3/\1=1/\Nat.le 64 140737488355328),si (zap (t:=(↑(0+1):Int)+1) (n:=0+1+1) Zo Zo)] [2,3,4,8,10,11,14,30,31,32,41,42,43] 6 kr (g9 _ (zaa (wkl [sb Zt,se (zsW 2),sc (zb9 1 l0k),sb Zf,sqx (AllLen [[iv (v1k 1).kind,iv (v1k 1).int,sv (v1k 1).text]] 3/\2=2/\Nat.le 96 140737488355328),si (zap (t:=(↑(0+1+1):Int)+1) (n:=0+1+1+1) Zo Zo)] [2,3,4,8,10,11,14,30,31,32,41,42,43] 6 kr (g10 _ (zaa (wkl [sb Zf,sqx (3=3/\True),sqx (AllLen [[AV.sl [[iv (v1k 2).kind,iv (v1k 2).int,sv (v1k 2).text],[iv (v1k 1).kind,iv (v1k 1).int,sv (v1k 1).text],[iv (v1k 1).kind,iv (v1k 1).int,sv (v1k 1).text]]]] 1/\1=1/\Nat.le 48 140737488355328),si (zap (t:=(↑(0+1):Int)+1) (n:=0+1+1) Zo Zo)] [2,3,4,8,10,11,30,31,32] 5 kr (g11 _ (zaa (wkl [sb Zf] [2,3,8,10,11,71,72,73] 5 kr (g12 _ (zaa (wkrS (y:=AV.tup [AV.agg [AV.sl [[AV.sl [[iv (v1k 1).kind,iv (v1k 1).int,sv (v1k 1).text],[iv (v1k 1).kind,iv (v1k 1).int,sv (v1k 1).text],[iv (v1k 1).kind,iv (v1k 1).int,sv (v1k 1).text]]],[AV.sl [[iv (v1k 2).kind,iv (v1k 2).int,sv (v1k 2).text],[iv (v1k 1).kind,iv (v1k 1).int,sv (v1k 1).text],[iv (v1k 1).kind,iv (v1k 1).int,sv (v1k 1).text]]]],AV.sl [],AV.sl []],iv 0]) (H:=[]) [sqx ((2=2/\True/\True/\True)/\True/\True),sb Zf] kr ⟨Zcv7,Zcv7⟩))))))))))))))))))))))))))))))))))))⟩
theorem c_vaK  (h:zab E0 S.Am [acK.av] [] (bv true) []) (ha:zab E0 S.Ax [.sl []] [] (bv true) []):∃ (r:Bool),r=true/\zab E0 S.Aa [acK.av] [] (bv r) []:=by
 exact ⟨true,Zr,wk At.Aa [sg Zf,sg Zf,sg Zt,sc (zd9 acK.table),sg Zf,sg Zt,sb Zf,sb Zf,sg Zt,sg Zt,sg Zf,sg Zt,sg Zt,sb Zf,sg Zf,sc ha,sb Zf,sb Zt,sc h] kr⟩
theorem c_soK  (h:zab E0 S.Aa [acK.av] [] (bv true) []):∃ (r:Bool),r=true/\zab E0 S.Cq [acK.av] [] (bv r) []:=by
 exact ⟨true,Zr,wk At.Cq [sg Zt,sg Zt,sc h] kr⟩
theorem el_l0a:ElAt (List.map Tb.cells l0k) ((0:Nat):Int) (Tb.mk zaS 1 []).cells 4:=⟨by decide,rfl,rfl⟩
theorem el_l0b:ElAt (List.map Tb.cells l0k) ((0+1:Nat):Int) (Tb.mk zaW 1 []).cells 4:=⟨by decide,rfl,rfl⟩
noncomputable def L_cdK (i:Nat):Cfg:=zai B.Bw 0 [(1,.sl []),(2,tsl l0k),(3,.p 0 0),(6,.p 1 0),(14,tsl l0k),(15,iv (2:Nat)),(16,iv (i:Nat))] [.box acK.cells,.box [.nl,.nl,.nl]]
theorem zdA (i:Nat):True/\∀ R,Good E0 B.Bw [] (L_cdK i) R->Good E0 B.Bw [] (L_cdK i) R:=⟨trivial,fun _ h=>h⟩
theorem c_cdK  (h:zab E0 S.Cq [acK.av] [] (bv true) []) (ha:zab E0 S.A4 [acK.av,(⟨zaW,1,[]⟩:Tb).av,.sl [],tsl l0k] [] (.tup [chK.av,iv 0]) []):∃ (cz:Ch) (r:Int),(cz=chK/\r=0)/\zab E0 S.Bw [acK.av,.sl [],tsl l0k] [] (.tup [cz.av,iv r]) []:=by
 obtain ⟨q1,g1⟩:=zdA (0)
 obtain ⟨q2,g2⟩:=zdA (0+1)
 exact ⟨Ch.mk [[v1k 1,v1k 1,v1k 1],[v1k 2,v1k 1,v1k 1]] [] [],0,Zj,wkc At.Bw [sc h,sb Zf] [1,2,3,6,14,15,16] 2 kr (g1 _ (zaa (wkl [sb Zt,se (el_l0a ),sb Zt,si (zap (t:=(↑0:Int)+1) (n:=0+1) Zo Zo)] [1,2,3,6,14,15,16] 2 kr (g2 _ (zaa (wkrS (y:=AV.tup [AV.agg [AV.sl [[AV.sl [[iv (v1k 1).kind,iv (v1k 1).int,sv (v1k 1).text],[iv (v1k 1).kind,iv (v1k 1).int,sv (v1k 1).text],[iv (v1k 1).kind,iv (v1k 1).int,sv (v1k 1).text]]],[AV.sl [[iv (v1k 2).kind,iv (v1k 2).int,sv (v1k 2).text],[iv (v1k 1).kind,iv (v1k 1).int,sv (v1k 1).text],[iv (v1k 1).kind,iv (v1k 1).int,sv (v1k 1).text]]]],AV.sl [],AV.sl []],iv 0]) (H:=[]) [sb Zt,se (el_l0b ),sb Zf,sb Zt,sc ha] kr ⟨Zcv7,Zcv7⟩))))))⟩
theorem zqv:zab E0 S.Ax [.sl []] [] (bv true) []:=by
 obtain ⟨_,rfl,h⟩:=c_all0
 exact h
theorem zkv:zab E0 S.Bw [acK.av,.sl [],tsl l0k] [] (.tup [chK.av,iv 0]) []:=by
 have hv1:=zeJ 1 Zd kr
 have hv2:=zeJ 2 Zd kr
 obtain ⟨_,rfl,h1⟩:=zxO 1 hv1 hv1
 obtain ⟨_,rfl,h2⟩:=zxO 2 hv2 hv1
 obtain ⟨_,rfl,h3⟩:=c_viK h1 h2
 obtain ⟨_,rfl,h4⟩:=c_vaK h3 zqv
 obtain ⟨_,rfl,h5⟩:=c_soK h4
 obtain ⟨_,_,⟨rfl,rfl⟩,h6⟩:=c_niK
 obtain ⟨_,_,⟨rfl,rfl⟩,h7⟩:=c_cdK h5 h6
 exact h7
theorem zdj {p:Prop} (h:p:=by first|assumption|omega|(simp;done)|(simp;omega)):p:=h
theorem zAu {l r:List Tb} (h:r=l.take l.length):r.length=l.length/\r.map Tb.cells=l.map Tb.cells:=by rw [yL] at h;rw [h];exact ⟨rfl,rfl⟩
theorem zsI (l:List Tb) (hl:l.length<=1000) (ht:∀ t∈l,TabV t):∃ (n:Nat) (xs:List (List AV)),(n=l.length/\xs=l.map Tb.cells)/\zab E0 S.CZ [tsl l] [] (.own 0 n) [.row Ty.Table xs false]:=by
 obtain ⟨out1,q1,q1_1,g1⟩:=zlb l zdj zdj 0 ([]) zdj zdj
 exact ⟨out1.length,List.map Tb.cells out1,(by exact zAu ‹_›),znQ At.CZ [] [3,6,7,8] 0 [(.ot 3 Ty.Table,1)] kr (g1 _ (zaa (wkrK [sb q1_1] kr)))⟩
noncomputable def L_apK (ts:List Tg) (tb:Str) (b:Bool) (i:Nat) :Cfg:=zai B.Bx 0 [(1,sv tb),(2,iv 1),(3,.sl []),(4,bv b),(11,.nl),(17,.sl (ts.map Tg.cells)),(18,iv ((ts.map Tg.cells).length:Nat)),(19,iv (i:Nat))] []
theorem zgy (ts:List Tg) (tb:Str) (b:Bool) (hl:zac ts) (hb:∀ t∈ts,t.before=false) (i:Nat)  (hi:i<=(ts).length) (hI:True):(True)/\(decide ((((ts).length:Nat):Int) < (((ts.map Tg.cells).length:Nat):Int))=false)/\∀ R,Good E0 B.Bx [] (L_apK ts tb b (ts).length ) R->Good E0 B.Bx [] (L_apK ts tb b i ) R:=by
 have hk:=hi;revert i hI;refine zlp ((ts).length) (fun i hlt ih hi hI _=>?_)
 obtain ⟨x,hx,h0,hw⟩:=zlq (l:=ts) ((ts.map Tg.cells).length) hlt
 have hbx:(!x.before)=true:=(by rw [hb x (yC hx)];rfl)
 obtain ⟨qZ,xZ,gZ⟩:=ih Zo (by first|trivial|assumption|(simp;done)|omega|(simp;omega)|(simp at *;omega)) Zo;exact ⟨qZ,xZ,fun R hg=>zaa (wkl [sb h0,se (zaf Tg.cells hx rfl),sb hbx,si hw] [1,2,3,4,11,17,18,19] 0 kr (gZ R hg))⟩
theorem c_apK (ts:List Tg) (tb:Str) (b:Bool) (hl:zac ts) (hb:∀ t∈ts,t.before=false):∃ (r:List Tg),r=[]/\zab E0 S.Bx [.sl (ts.map Tg.cells),sv tb,iv 1,.sl [],bv b] [] (.sl (r.map Tg.cells)) []:=by
 obtain ⟨q1,q1_1,g1⟩:=zgy ts tb b zdj zdj 0 zdj zdj
 exact ⟨[],Zr,wkc At.Bx [] [1,2,3,4,11,17,18,19] 0 kr (g1 _ (zaa (wkr [sb q1_1] kr)))⟩
noncomputable def L_saK (tb:List Tb):Cfg:=zai B.B2 0 [(1,tsl tb),(11,.sl []),(12,iv (0:Nat)),(13,iv (0:Nat))] []
theorem zhi (tb:List Tb):True/\∀ R,Good E0 B.B2 [] (L_saK tb) R->Good E0 B.B2 [] (L_saK tb) R:=⟨trivial,fun _ h=>h⟩
theorem c_saK (tb:List Tb) :∃ (r:Int),r=0/\zab E0 S.B2 [.sl [],tsl tb] [] (iv r) []:=by
 obtain ⟨q1,g1⟩:=zhi (tb)
 exact ⟨0,Zr,wkc At.B2 [] [1,11,12,13] 0 kr (g1 _ (zaa (wkr [sb Zf] kr)))⟩
noncomputable def L_asK :Cfg:=zai B.B9 0 [(1,.p 0 0),(3,.nl),(7,.sl []),(8,iv (0:Nat)),(9,iv (0:Nat))] [.box acK.cells]
theorem zhq :True/\∀ R,Good E0 B.B9 [] (L_asK ) R->Good E0 B.B9 [] (L_asK ) R:=⟨trivial,fun _ h=>h⟩
theorem c_asK  :∃ (r:List Str),r=[]/\zab E0 S.B9 [acK.av] [] (ssl r) []:=by
 obtain ⟨q1,g1⟩:=zhq
 exact ⟨[],Zr,wkc At.B9 [] [1,3,7,8,9] 1 kr (g1 _ (zaa (wkr [sb Zf] kr)))⟩
noncomputable def L_rwK (s:Sch) (m:List Tb) (nw:List V):Cfg:=zai B.CR 0 [(1,.sl []),(3,.sl []),(4,vsl nw),(5,tsl m),(6,.own 2 0),(9,.p 0 0),(18,.own 1 0),(19,.nl)] [.box s.cells,.row Ty.Trigger [] false,.row Ty.int [] false]
theorem zk4 (s:Sch) (m:List Tb) (nw:List V):True/\∀ R,Good E0 B.CR [] (L_rwK s m nw) R->Good E0 B.CR [] (L_rwK s m nw) R:=⟨trivial,fun _ h=>h⟩
theorem c_rwK (s:Sch) (m:List Tb) (nw:List V) (hs:zac nw):∃ (r:List V) (e:Int),(r=nw/\e=0)/\zab E0 S.CR [.sl [],.sl [],s.av,.sl [],vsl nw,tsl m,.sl []] [] (.tup [vsl r,.sl [],.sl [],iv e]) []:=by
 obtain ⟨q1,g1⟩:=zk4 s m (zbd nw)
 exact ⟨zbd nw,0,Zj,wkc At.CR [sqx (AllLen [] 11/\Nat.le 0 140737488355328),sc (zbN nw zdj),sqx (AllLen [] 1/\Nat.le 0 140737488355328)] [1,3,4,5,6,9,18,19] 3 kr (g1 _ (zaa (wkr [sqx (True/\0=0/\True/\True/\True),sqx (0=0),sb Zf] kr)))⟩
theorem c_rr1 (m:List Tb) (s:Sch) (nw:List V) (h:zab E0 S.CR [.sl [],.sl [],s.av,.sl [],vsl nw,tsl m,.sl []] [] (.tup [vsl nw,.sl [],.sl [],iv 0]) []):∃ (e:Int),e=0/\zab E0 S.Cz [.p 0 0,.sl [],vsl nw] [.box [.sl [],.sl [],sv s.name,.sl (s.cols.map Col.cells),tsl m,.own 1 0,.nl],.row Ty.int [] false] (.tup [vsl nw,iv e]) [.box [.sl [],.sl [],sv s.name,.sl (s.cols.map Col.cells),tsl m,.sl [],.own 2 0],.row Ty.int [] true,.row Ty.int [] false]:=by
 exact ⟨0,Zr,wkK At.Cz [sd [(22,[skx (True/\True/\(True/\True/\True)/\True/\True/\True/\0=0/\True) [] h])],sb Zf,sqx (AllLen [] 1/\Nat.le 0 140737488355328)] kr⟩
theorem c_rr2 (m:List Tb) (s:Sch) (nw:List V) (h:zab E0 S.CR [.sl [],.sl [],s.av,.sl [],vsl nw,tsl m,.sl []] [] (.tup [vsl nw,.sl [],.sl [],iv 0]) []):∃ (e:Int),e=0/\zab E0 S.Cz [.p 0 0,.sl [],vsl nw] [.box [.sl [],.sl [],sv s.name,.sl (s.cols.map Col.cells),tsl m,.sl [],.own 1 0],.row Ty.int [] false] (.tup [vsl nw,iv e]) [.box [.sl [],.sl [],sv s.name,.sl (s.cols.map Col.cells),tsl m,.sl [],.own 1 0],.row Ty.int [] false]:=by
 exact ⟨0,Zr,wkK At.Cz [sd [(22,[sc h])],sb Zf,sqx (AllLen [] 1/\0=0/\Nat.le 0 140737488355328)] kr⟩
theorem zmh (m:List Tb) (s:Sch) (nw:List V) (hs:zac nw):zab E0 S.Cz [.p 0 0,.sl [],vsl nw] [.box [.sl [],.sl [],sv s.name,.sl (s.cols.map Col.cells),tsl m,.own 1 0,.nl],.row Ty.int [] false] (.tup [vsl nw,iv 0]) [.box [.sl [],.sl [],sv s.name,.sl (s.cols.map Col.cells),tsl m,.sl [],.own 2 0],.row Ty.int [] true,.row Ty.int [] false]:=by
 obtain ⟨_,_,⟨rfl,rfl⟩,h0⟩:=c_rwK s m nw hs
 obtain ⟨_,rfl,h⟩:=c_rr1 m s _ h0
 exact h
theorem zmi (m:List Tb) (s:Sch) (nw:List V) (hs:zac nw):zab E0 S.Cz [.p 0 0,.sl [],vsl nw] [.box [.sl [],.sl [],sv s.name,.sl (s.cols.map Col.cells),tsl m,.sl [],.own 1 0],.row Ty.int [] false] (.tup [vsl nw,iv 0]) [.box [.sl [],.sl [],sv s.name,.sl (s.cols.map Col.cells),tsl m,.sl [],.own 1 0],.row Ty.int [] false]:=by
 obtain ⟨_,_,⟨rfl,rfl⟩,h0⟩:=c_rwK s m nw hs
 obtain ⟨_,rfl,h⟩:=c_rr2 m s _ h0
 exact h
noncomputable def zxC (m:List Tb) (s:Sch) (t:Tb) (a b:List V):Cfg:=zai B.AN 0 [(0,.p 0 0),(4,.p 2 0),(5,.p 3 0),(6,.p 4 0),(8,.p 6 0),(28,.sl []),(29,iv (0:Nat)),(30,iv (0:Nat))] [.box [.sl [],.sl [],sv s.name,.sl (s.cols.map Col.cells),tsl m,.own 1 0,.nl],.row Ty.int [] false,.box t.cells,.box (Ch.mk [a,b] [] []).cells,.box [.nl,.nl,.nl],.row Ty.int [] false,.box [.nl,.own 5 0,.nl]]
theorem zhs (m:List Tb) (s:Sch) (t:Tb) (a b:List V):True/\∀ R,Good E0 B.AN [.box [.sl [],.sl [],sv s.name,.sl (s.cols.map Col.cells),tsl m,.own 1 0,.nl],.row Ty.int [] false] (zxC m s t a b) R->Good E0 B.AN [.box [.sl [],.sl [],sv s.name,.sl (s.cols.map Col.cells),tsl m,.own 1 0,.nl],.row Ty.int [] false] (zxC m s t a b) R:=⟨trivial,fun _ h=>h⟩
noncomputable def zxD (m:List Tb) (s:Sch) (t:Tb) (a b:List V):Cfg:=zai B.AN 2 [(0,.p 0 0),(5,.p 3 0),(6,.p 4 0),(8,.p 6 0),(59,.sl []),(60,iv (0:Nat)),(61,iv (0:Nat))] [.box [.sl [],.sl [],sv s.name,.sl (s.cols.map Col.cells),tsl m,.own 1 0,.nl],.row Ty.int [] false,.box t.cells,.box (Ch.mk [a,b] [] []).cells,.box [.nl,.nl,.nl],.row Ty.int [] false,.box [.nl,.own 5 0,.nl]]
theorem zht (m:List Tb) (s:Sch) (t:Tb) (a b:List V):True/\∀ R,Good E0 B.AN [.box [.sl [],.sl [],sv s.name,.sl (s.cols.map Col.cells),tsl m,.own 1 0,.nl],.row Ty.int [] false] (zxD m s t a b) R->Good E0 B.AN [.box [.sl [],.sl [],sv s.name,.sl (s.cols.map Col.cells),tsl m,.own 1 0,.nl],.row Ty.int [] false] (zxD m s t a b) R:=⟨trivial,fun _ h=>h⟩
noncomputable def zxE (m:List Tb) (s:Sch) (t:Tb) (a b:List V):Cfg:=zai B.AN 3 [(0,.p 0 0),(6,.p 4 0),(8,.p 6 0),(92,.sl [vrow a,vrow b]),(93,iv (2:Nat)),(94,iv (0:Nat))] [.box [.sl [],.sl [],sv s.name,.sl (s.cols.map Col.cells),tsl m,.own 1 0,.nl],.row Ty.int [] false,.box t.cells,.box (Ch.mk [a,b] [] []).cells,.box [.nl,.nl,.nl],.row Ty.int [] false,.box [.nl,.own 5 0,.nl]]
theorem zhu (m:List Tb) (s:Sch) (t:Tb) (a b:List V):True/\∀ R,Good E0 B.AN [.box [.sl [],.sl [],sv s.name,.sl (s.cols.map Col.cells),tsl m,.own 1 0,.nl],.row Ty.int [] false] (zxE m s t a b) R->Good E0 B.AN [.box [.sl [],.sl [],sv s.name,.sl (s.cols.map Col.cells),tsl m,.own 1 0,.nl],.row Ty.int [] false] (zxE m s t a b) R:=⟨trivial,fun _ h=>h⟩
noncomputable def zxF (m:List Tb) (s:Sch) (t:Tb) (a b:List V) (out:List (List V)) (i:Nat):Cfg:=zai B.AN 3 [(0,.p 0 0),(6,.p 4 0),(8,.p 6 0),(92,.sl [vrow a,vrow b]),(93,iv (2:Nat)),(94,iv (i:Nat))] [.box [.sl [],.sl [],sv s.name,.sl (s.cols.map Col.cells),tsl m,.sl [],.own 7 0],.row Ty.int [] true,.box t.cells,.box (Ch.mk [a,b] [] []).cells,.box [.nl,.nl,.nl],.row Ty.int [] false,.box [.own 8 out.length,.own 5 0,.nl],.row Ty.int [] false,.row Ty.LValue (out.map vrow) false]
theorem zd1 (m:List Tb) (s:Sch) (t:Tb) (a b:List V) (out:List (List V)) (i:Nat):True/\∀ R,Good E0 B.AN [.box [.sl [],.sl [],sv s.name,.sl (s.cols.map Col.cells),tsl m,.own 1 0,.nl],.row Ty.int [] false] (zxF m s t a b out i) R->Good E0 B.AN [.box [.sl [],.sl [],sv s.name,.sl (s.cols.map Col.cells),tsl m,.own 1 0,.nl],.row Ty.int [] false] (zxF m s t a b out i) R:=⟨trivial,fun _ h=>h⟩
theorem c_raK (m:List Tb) (s:Sch) (t:Tb) (a b:List V) (ha:zac a) (hb:zac b):∃ (e:Int),e=0/\zab E0 S.AN [.p 0 0,t.av,(Ch.mk [a,b] [] []).av] [.box [.sl [],.sl [],sv s.name,.sl (s.cols.map Col.cells),tsl m,.own 1 0,.nl],.row Ty.int [] false] (.tup [.agg [.own 8 2,.own 5 0,.nl],iv e]) [.box [.sl [],.sl [],sv s.name,.sl (s.cols.map Col.cells),tsl m,.sl [],.own 7 0],.row Ty.int [] true,.box t.cells,.box (Ch.mk [a,b] [] []).cells,.box [.own 8 2,.own 5 0,.nl],.row Ty.int [] false,.box [.own 8 2,.own 5 0,.nl],.row Ty.int [] false,.row Ty.LValue [vrow a,vrow b] false]:=by
 obtain ⟨q1,g1⟩:=zhs m s t a (b)
 obtain ⟨q2,g2⟩:=zht m s t a (b)
 obtain ⟨q3,g3⟩:=zhu m s t a (b)
 obtain ⟨q4,g4⟩:=zd1 m s t a b ([a]) (0+1)
 obtain ⟨q5,g5⟩:=zd1 m s t a b ([a,b]) (0+1+1)
 exact ⟨0,Zr,wkcK At.AN [sqx (AllLen [] 1/\Nat.le 0 140737488355328)] [0,4,5,6,8,28,29,30] 7 kr (g1 _ (zaa (wkl [sb Zf] [0,5,6,8,59,60,61] 7 kr (g2 _ (zaa (wkl [sb Zf] [0,6,8,92,93,94] 7 kr (g3 _ (zaa (wkl [sb Zt,se (xs:=[[vsl a],[vsl b]]) (i:=0) (c:=[vsl a]) (n:=1) ⟨by decide,rfl,rfl⟩,sl [0,1] (zmh m s a zdj),sb Zf,sqx (AllLen [[vsl a]] 1/\Nat.le 24 140737488355328),si (zap (t:=(↑0:Int)+1) (n:=0+1) Zo Zo)] [0,6,8,92,93,94] 9 kr (g4 _ (zaa (wkl [sb Zt,se (zmC ([vsl a]) ([vsl b]) zdj),sl [0,7] (zmi m s b zdj),sb Zf,sqx (AllLen [[vsl b]] 1/\1=1/\Nat.le 48 140737488355328),si (zap (t:=(↑(0+1):Int)+1) (n:=0+1+1) Zo Zo)] [0,6,8,92,93,94] 9 kr (g5 _ (zaa (wkrK [sb Zf] kr)))))))))))))))⟩
theorem zmO (m:List Tb) (s:Sch) (t:Tb) (a b:List V) (ha:zac a) (hb:zac b):zab E0 S.AN [.p 0 0,t.av,(Ch.mk [a,b] [] []).av] [.box [.sl [],.sl [],sv s.name,.sl (s.cols.map Col.cells),tsl m,.own 1 0,.nl],.row Ty.int [] false] (.tup [.agg [.own 8 2,.own 5 0,.nl],iv 0]) [.box [.sl [],.sl [],sv s.name,.sl (s.cols.map Col.cells),tsl m,.sl [],.own 7 0],.row Ty.int [] true,.box t.cells,.box (Ch.mk [a,b] [] []).cells,.box [.own 8 2,.own 5 0,.nl],.row Ty.int [] false,.box [.own 8 2,.own 5 0,.nl],.row Ty.int [] false,.row Ty.LValue [vrow a,vrow b] false]:=by
 obtain ⟨_,rfl,h⟩:=c_raK m s t a b ha hb
 exact h
theorem c_runK (l:List Tb) (ts:List Tg) (a:Ac) (t t2:Tb) (x y:List V) (i:Nat) (hF:zab E0 S.Cp [tsl l,sv a.table] [] (iv (i:Nat)) []) (hn:decide (((i:Nat):Int) < 0)=false) (hA:zab E0 S.Di [tsl l,.sl []] [] (tsl l) []) (hC:zab E0 S.Bw [a.av,.sl [],tsl l] [] (.tup [(Ch.mk [x,y] [] []).av,iv 0]) []) (hAs:zab E0 S.B9 [a.av] [] (.sl []) []) (hAp:∀ b:Bool,zab E0 S.Bx [.sl (ts.map Tg.cells),sv a.table,iv a.kind,.sl [],bv b] [] (.sl []) []) (hS:zab E0 S.B2 [.sl [],tsl l] [] (iv 0) []) (hx:l[i]?=some t) (hil:i < l.length) (hsx:zac x) (hsy:zac y) (hR:zab E0 S.Az [t.av,(Ch.mk [x,y] [] []).av] [] (.tup [t2.av,iv 0]) []) (hcp:zab E0 S.CZ [tsl l] [] (.own 0 l.length) [.row Ty.Table (l.map Tb.cells) false]):∃ (r:List (List AV)) (n e:Int),(r=(l.map Tb.cells).set i t2.cells/\e=0)/\zab E0 S.DD [tsl l,.sl (ts.map Tg.cells),.sl [],a.av,.sl [],.sl [],.sl []] [] (.tup [.sl r,.sl [],.sl [],iv n,iv e]) []:=by
 exact ⟨(List.map Tb.cells l).set i [sv t2.sch.name,ZC t2.sch.cols,iv t2.next,ZW t2.rows],IntKind.i64.wrap (IntKind.i64.wrap ((↑[[vsl x],[vsl y]].length:Int)+(([]:List (List AV)).length:Int))+(([]:List (List AV)).length:Int)),0,Zj,(by (try simp only [zsl,xCol,xLit,xBin,xNeg,Pr.cells,Rw.cells,Dl.cells,Col.cells,Sch.cells,Tb.cells,Itm.cells,Lk.cells,Ac.cells,Tg.cells]);exact wk At.DD [sqx (l.length=((List.map Tb.cells l).set i [sv t2.sch.name,ZC t2.sch.cols,iv t2.next,ZW t2.rows]).length/\True/\0=0/\True/\True/\True),sc hF,sb Zf,sdm [(4,[sc hA]),(5,[sc hC])] 1 [(0,tsl l),(1,ZG ts),(2,AV.sl []),(3,AV.agg [iv a.kind,sv a.table,AV.sl (List.map (fun r=>[AV.sl (zad r)]) a.rows),AV.sl (zam a.query),ZE a.sets,AV.sl (zad a.wh),sv a.text]),(4,AV.sl []),(5,AV.sl []),(6,AV.sl []),(10,AV.p 0 0),(14,AV.nl),(15,AV.nl),(16,AV.nl),(17,iv 0),(18,iv 0),(19,iv (i:Int)),(20,AV.p 1 0),(21,iv 0),(28,tsl l),(29,AV.p 0 1),(30,sv a.table),(31,iv (i:Int)),(32,iv (i:Int)),(33,AV.bl false),(34,AV.tup [AV.agg [AV.sl [[vsl x],[vsl y]],AV.sl [],AV.sl []],iv 0]),(35,AV.agg [iv a.kind,sv a.table,AV.sl (List.map (fun r=>[AV.sl (zad r)]) a.rows),AV.sl (zam a.query),ZE a.sets,AV.sl (zad a.wh),sv a.text]),(36,AV.sl []),(37,tsl l),(38,AV.sl []),(39,tsl l),(40,AV.tup [AV.agg [AV.sl [[vsl x],[vsl y]],AV.sl [],AV.sl []],iv 0]),(41,AV.agg [AV.sl [[vsl x],[vsl y]],AV.sl [],AV.sl []]),(42,iv 0)] [Blk.box [iv a.kind,sv a.table,AV.sl (List.map (fun r=>[AV.sl (zad r)]) a.rows),AV.sl (zam a.query),ZE a.sets,AV.sl (zad a.wh),sv a.text],Blk.box [AV.sl [[vsl x],[vsl y]],AV.sl [],AV.sl []]],sb Zf,si (e:=IntKind.i64.wrap ((↑[[vsl x],[vsl y]].length:Int)+(([]:List (List AV)).length:Int))) rfl,si (e:=IntKind.i64.wrap (IntKind.i64.wrap ((↑[[vsl x],[vsl y]].length:Int)+(([]:List (List AV)).length:Int))+(([]:List (List AV)).length:Int))) rfl,sb Zf,sd [(6,[sc hAs]),(7,[sc (hAp false)]),(9,[sc hS])],sb Zf,se (zaf Tb.cells hx rfl),sd [(6,[sc hAs]),(7,[sc (hAp true)]),(13,[sqx (AllLen [] 1/\Nat.le 0 140737488355328)])],sl [4,3] (zmO l t.sch t x y zdj zdj),sb Zf,skx ((True/\True/\True/\True/\True)/\(2=2/\0=0/\True/\True)/\True) [] hR,sb Zf,sc hcp,sqx (OwnAt (List.map Tb.cells l) l.length (i:Int)),sx (.el t.cells) (And.intro (owed (p:=True/\True/\True/\True/\True)) (zcp Tb.cells (n:=l.length) Zs hx)),sd []] kr)⟩
theorem zqH:TabV ⟨zaW,1,[]⟩:=⟨zgv zjE,by decide,RowsV.nil Zd,by decide,ziz zjE⟩
theorem zBa:TabV ⟨zaS,1,[]⟩:=tbK_v
theorem l0k_v:∀ t∈l0k,TabV t:=fun t ht=>by
 simp only [yO,yAE,or_false] at ht
 rcases ht with rfl|rfl
 ·exact zBa
 ·exact zqH
theorem keysK:(zc6 ⟨zaW,1,[]⟩ chK).Nodup:=by
 have e:zc6 ⟨zaW,1,[]⟩ chK=[v1k 1,v1k 2]:=by kernel_rfl
 rw [e];simp
theorem chK_g:ChG ⟨zaW,1,[]⟩ chK:=by
 refine ⟨⟨.nil,fun _ h=>(by cases h),.nil,fun _ h=>(by cases h),fun r hr=>?_,by decide,by decide,by decide⟩,fun _ h=>(by cases h),fun r hr v hv=>?_⟩
 ·simp only [yO,yAE,or_false] at hr
  rcases hr with rfl|rfl <;> kernel_rfl
 ·simp only [yO,yAE,or_false] at hr
  rcases hr with rfl|rfl <;> (simp only [yO,yAE,or_false] at hv;rcases hv with rfl|rfl|rfl <;> exact zbU Zd)
theorem zpf:zab E0 S.Az [(⟨zaW,1,[]⟩:Tb).av,chK.av] [] (.tup [(⟨zaW,3,[r1k,r2k]⟩:Tb).av,iv 0]) []:=by
 have hq:=apS_q zqH chK_g
 have h0:(apS ⟨zaW,1,[]⟩ chK).2=0:=hq.good rfl kr Zd Zd keysK
 have h:=zmP _ _ zqH chK_g
 have e:=(hq.ok h0).1
 rw [h0,e] at h
 exact h
theorem zqy:∃ n:Int,zab E0 S.DD [tsl l0k,.sl (tsK.map Tg.cells),.sl [],acK.av,.sl [],.sl [],.sl []] [] (.tup [tsl m0k,.sl [],.sl [],iv n,iv 0]) []:=by
 obtain ⟨_,rfl,h1⟩:=c_asK
 have h2:∀ b:Bool,zab E0 S.Bx [.sl (tsK.map Tg.cells),sv acK.table,iv acK.kind,.sl [],bv b] [] (.sl []) []:=fun b=>by
  obtain ⟨_,rfl,h⟩:=c_apK tsK acK.table b zp5 zyS
  exact h
 obtain ⟨_,rfl,h3⟩:=c_saK l0k
 have hF:=zuP l0k acK.table Zd
 rw [show idxF (fun t=>zaT t acK.table) l0k 0=((1:Nat):Int) by kernel_rfl] at hF
 have hA:=zn4 l0k [] Zd Zd
 obtain ⟨_,_,⟨rfl,rfl⟩,hcp⟩:=zsI l0k Zd l0k_v
 obtain ⟨_,n,_,⟨rfl,rfl⟩,h⟩:=c_runK l0k tsK acK ⟨zaW,1,[]⟩ ⟨zaW,3,[r1k,r2k]⟩ r1k.vals r2k.vals 1 hF Zd hA zkv h1 h2 h3 rfl Zd Zd Zd zpf hcp
 exact ⟨n,h⟩
theorem zgQ {p:Prop} (h:p:=by first|assumption|rfl|omega|simp [Room]):p:=h
theorem zw9 {p:Prop} (h:p:=by first|trivial|assumption|(simp;done)|omega|(simp;omega)|(simp at *;omega)):p:=h
structure FiStep (ts:List Tg) (frs:List Fr) (ex:List Tb) (m m2:List Tb) (a:Ac):Prop where
 kind:a.kind=1\/a.kind=2\/a.kind=3
 run:∃ n:Int,zab E0 S.Bi [tsl m,.sl (ts.map Tg.cells),.sl [],.agg a.cells,fsl frs,tsl ex,.sl []] [] (.tup [tsl m2,.sl [],.sl [],iv n,iv 0]) []
noncomputable def L_fiL (ts:List Tg) (n:Itm) (t:Tg) (s:Sch) (d:Dl) (frs:List Fr) (ex m0:List Tb) (ms:Nat->List Tb) (i:Nat) :Cfg:=zai B.Bv 0 [(1,.sl (ts.map Tg.cells)),(2,.sl []),(5,.sl []),(22,fsl frs),(23,tsl ex),(26,tsl (ms i)),(27,.own 6 0),(101,.sl (t.acts.map Ac.cells)),(102,iv ((t.acts.map Ac.cells).length:Nat)),(103,iv (i:Nat))] [.box n.cells,.box t.cells,.box s.cells,.box d.cells,.row Ty.Table (m0.map Tb.cells) true,.row Ty.int [] true,.row Ty.int [] false]
theorem zkV (ts:List Tg) (n:Itm) (t:Tg) (s:Sch) (d:Dl) (frs:List Fr) (ex m0:List Tb) (ms:Nat->List Tb) (hacts:zac t.acts) (hR:∀ (i:Nat) (a:Ac),t.acts[i]?=some a->FiStep ts frs ex (ms i) (ms (i+1)) a) (i:Nat)  (hi:i<=(t.acts).length) (hI:True):(True)/\(decide ((((t.acts).length:Nat):Int) < (((t.acts.map Ac.cells).length:Nat):Int))=false)/\∀ R,Good E0 B.Bv [] (L_fiL ts n t s d frs ex m0 ms (t.acts).length ) R->Good E0 B.Bv [] (L_fiL ts n t s d frs ex m0 ms i ) R:=by
 have hk:=hi;revert i hI;refine zlp ((t.acts).length) (fun i hlt ih hi hI _=>?_)
 obtain ⟨x,hx,h0,hw⟩:=zlq (l:=t.acts) ((t.acts.map Ac.cells).length) hlt
 obtain ⟨hk3,hrn,hru⟩:=hR i x hx;have h4:(x.kind==4)=false:=by rw [beq_eq_false_iff_ne];omega
 let p_1:List St:=[sb h0,se (zaf Ac.cells hx rfl),sb h4]
 cases h1:x.kind==1
 ·cases h2:x.kind==2
  ·cases h3:x.kind==3
   ·exact False.elim (by (simp at *;omega))
   ·obtain ⟨qZ,xZ,gZ⟩:=ih Zo zw9 Zo;exact ⟨qZ,xZ,fun R hg=>zaa (wkl (p_1++[sb h1,sb h2,sb h3,sc hru,sb Zf,sqx (AllLen [] 1/\0=0/\Nat.le 0 140737488355328),si hw]) [1,2,5,22,23,26,27,101,102,103] 7 kr (gZ R hg))⟩
  ·obtain ⟨qZ,xZ,gZ⟩:=ih Zo zw9 Zo;exact ⟨qZ,xZ,fun R hg=>zaa (wkl (p_1++[sb h1,sb h2,sc hru,sb Zf,sqx (AllLen [] 1/\0=0/\Nat.le 0 140737488355328),si hw]) [1,2,5,22,23,26,27,101,102,103] 7 kr (gZ R hg))⟩
 ·obtain ⟨qZ,xZ,gZ⟩:=ih Zo zw9 Zo;exact ⟨qZ,xZ,fun R hg=>zaa (wkl (p_1++[sb h1,sc hru,sb Zf,sqx (AllLen [] 1/\0=0/\Nat.le 0 140737488355328),si hw]) [1,2,5,22,23,26,27,101,102,103] 7 kr (gZ R hg))⟩
structure FiIn (m:List Tb) (ts:List Tg) (ds:List Dl) (n:Itm) (t:Tg) (s:Sch) (d d2:Dl) (frs:List Fr) (ex:List Tb) (k:Nat) (b:Bool):Prop where
 at_:ts[k]?=some t/\k < ts.length
 ix:zab E0 S.AA [.sl (ts.map Tg.cells),.fn S.Ci [.p 0 0]] [.box n.cells] (iv (k:Nat)) [.box n.cells]
 src:zab E0 S.AO [tsl m,sv t.table] [] (.tup [s.av,bv true]) []
 find:zab E0 S.A5 [.sl (ds.map Dl.cells),sv t.table] [] (.tup [d.av,bv true]) []
 frames:zab E0 S.Bn [t.av,s.av,vsl n.old,vsl n.nw] [] (fsl frs) []
 mat:zab E0 S.BV [t.av,s.av,d.av] [] d2.av []
 tra:zab E0 S.Br [t.av,s.av,d2.av] [] (tsl ex) []
 conc:zab E0 S.Ah [.sl [[tsl m],[tsl ex]]] [] (tsl (m++ex)) []
 true_:zab E0 S.Cy [xsl t.when_,fsl frs,tsl (m++ex)] [] (.tup [bv b,iv 0]) []
 short:zac m/\∀ t∈m,zac t.sch.cols/\zac t.rows/\∀ r∈t.rows,zac r.vals
theorem zuq (ts:List Tg) (ds:List Dl) (n:Itm) (t:Tg) (s:Sch) (d d2:Dl) (frs:List Fr) (ex:List Tb) (k:Nat) (b:Bool) (ms:Nat->List Tb) (hms:zac (ms 0)) (hk:ts[k]?=some t) (hkl:k < ts.length) (hI:zab E0 S.AA [.sl (ts.map Tg.cells),.fn S.Ci [.p 0 0]] [.box n.cells] (iv (k:Nat)) [.box n.cells]) (hn:decide (((k:Nat):Int) < 0)=false) (hS:zab E0 S.AO [tsl (ms 0),sv t.table] [] (.tup [s.av,bv true]) []) (hF:zab E0 S.A5 [.sl (ds.map Dl.cells),sv t.table] [] (.tup [d.av,bv true]) []) (hFr:zab E0 S.Bn [t.av,s.av,vsl n.old,vsl n.nw] [] (fsl frs) []) (hM:zab E0 S.BV [t.av,s.av,d.av] [] d2.av []) (hX:zab E0 S.Br [t.av,s.av,d2.av] [] (tsl ex) []) (hCo:zab E0 S.Ah [.sl [[tsl (ms 0)],[tsl ex]]] [] (tsl (ms 0++ex)) []) (hT:zab E0 S.Cy [xsl t.when_,fsl frs,tsl (ms 0++ex)] [] (.tup [bv b,iv 0]) []) (hd:∀ t∈ms 0,zac t.sch.cols/\zac t.rows/\∀ r∈t.rows,zac r.vals) (hacts:zac t.acts) (hR:∀ (i:Nat) (a:Ac),t.acts[i]?=some a->FiStep ts frs ex (ms i) (ms (i+1)) a):∃ (r:List (List AV)) (e:Int),(r=(bif b then (ms t.acts.length).map Tb.cells else (ms 0).map Tb.cells)/\e=0)/\zab E0 S.Bv [tsl (ms 0),.sl (ts.map Tg.cells),.sl [],.sl (ds.map Dl.cells),n.av,.sl []] [] (.tup [.sl r,.sl [],.sl [],iv e]) []:=by
 cases h1:!b
 ·obtain ⟨q2,q2_1,g2⟩:=zkV ts n t s d frs ex (ms 0) ms zgQ zgQ 0 zgQ zgQ
  exact ⟨List.map Tb.cells (ms t.acts.length),0,(by exact ⟨by (cases b <;> first|rfl|(cases h1)),rfl⟩),wkcN At.Bv [sl [0] hI,sb Zf,se (zaf Tg.cells hk rfl),sc hS,sc hF,sg Zf,sb Zf,sc hFr,sd [(5,[sc hM]),(6,[sc hX])],sd [(6,[sc hCo]),(7,[sc hT])],sb Zf,sc (zcE (ms 0) zgQ zgQ),sc (za9 ([]) zgQ),sb h1,sqx (0=0),sqx ((ms 0).length=(List.map Tb.cells (ms 0)).length)] [1,2,5,22,23,26,27,101,102,103] 6 [(.fz 5,6),(.fz 26,6),(.ot 27 Ty.int,7)] kr (g2 _ (zaa (wkr [sqx (True/\True/\0=0/\True/\True),sb q2_1] kr)))⟩
 ·exact ⟨List.map Tb.cells (ms 0),0,(by exact ⟨by (cases b <;> first|rfl|(cases h1)),rfl⟩),wk At.Bv [sqx ((ms 0).length=(List.map Tb.cells (ms 0)).length/\0=0/\True/\True/\True),sl [0] hI,sb Zf,se (zaf Tg.cells hk rfl),sc hS,sc hF,sg Zf,sb Zf,sc hFr,sd [(5,[sc hM]),(6,[sc hX])],sd [(6,[sc hCo]),(7,[sc hT])],sb Zf,sc (zcE (ms 0) zgQ zgQ),sc (za9 ([]) zgQ),sb h1] kr⟩
theorem zn3 {m:List Tb} {ts:List Tg} {ds:List Dl} {n:Itm} {t:Tg} {s:Sch} {d d2:Dl} {frs:List Fr} {ex:List Tb} {k:Nat} {b:Bool} (h:FiIn m ts ds n t s d d2 frs ex k b) (ms:Nat->List Tb) (h0:ms 0=m) (hacts:zac t.acts) (hR:∀ (i:Nat) (a:Ac),t.acts[i]?=some a->FiStep ts frs ex (ms i) (ms (i+1)) a) :
  zab E0 S.Bv [tsl m,.sl (ts.map Tg.cells),.sl [],.sl (ds.map Dl.cells),n.av,.sl []] [] (.tup [tsl (bif b then ms t.acts.length else m),.sl [],.sl [],iv 0]) []:=by
 subst h0
 obtain ⟨r,e,⟨rfl,rfl⟩,h⟩:=zuq ts ds n t s d d2 frs ex k b ms h.short.1 h.at_.1 h.at_.2 h.ix Zs h.src h.find h.frames h.mat h.tra h.conc h.true_ h.short.2 hacts hR
 cases b <;> exact h
abbrev cc3 (tb ex:List Tb):List (List AV):=[[tsl tb],[tsl ex]]
noncomputable def L_ez (tb ex:List Tb) (i:Nat) (sz:Int):Cfg:=zai B.Ah 0 [(0,.sl (cc3 tb ex)),(3,iv sz),(9,.sl (cc3 tb ex)),(10,iv ((cc3 tb ex).length:Nat)),(11,iv (i:Nat))] []
theorem zcn (tb ex:List Tb) (i:Nat) (sz:Int):True/\∀ R,Good E0 B.Ah [] (L_ez tb ex i sz) R->Good E0 B.Ah [] (L_ez tb ex i sz) R:=⟨trivial,fun _ h=>h⟩
noncomputable def L_eb (tb ex:List Tb) (i:Nat) (xs:List Tb):Cfg:=zai B.Ah 1 [(6,.own 0 xs.length),(25,.sl (cc3 tb ex)),(26,iv ((cc3 tb ex).length:Nat)),(27,iv (i:Nat))] [.row Ty.Table (xs.map Tb.cells) false]
theorem zcm (tb ex:List Tb) (i:Nat) (xs:List Tb):True/\∀ R,Good E0 B.Ah [] (L_eb tb ex i xs) R->Good E0 B.Ah [] (L_eb tb ex i xs) R:=⟨trivial,fun _ h=>h⟩
theorem Zcv8 {p:Prop} (h:p:=by first|rfl|(simp;done)|(simp [X.cells,Qy.cells,V.cells,Col.cells,Rw.cells,Tb.cells,Fr.cells,Sch.cells,Tp.cells,Pl.cells,xCol,xLit,xBin,xNeg,Ac.cells,Se.cells,Pr.cells,Ch.cells,Rw.cells,Dl.cells,Itm.cells];done)):p:=h
theorem zxQ (tb ex:List Tb) (hl:tb.length<=1000) (hle:ex.length<=1000) (w1:IntKind.i64.wrap (0+((tb.map Tb.cells).length:Int))=((tb.length:Nat):Int)) (w2:IntKind.i64.wrap (((tb.length:Nat):Int)+((ex.map Tb.cells).length:Int))=((tb.length+ex.length:Nat):Int)) (w3:decide (((tb.length:Nat):Int) < 0)=false) (w4:decide (((tb.length+ex.length:Nat):Int) < 0)=false):∃ (r:List Tb),r=tb++ex/\zab E0 S.Ah [.sl (cc3 tb ex)] [] (tsl r) []:=by
 obtain ⟨q1,g1⟩:=zcn tb ex 0 (0)
 obtain ⟨q2,g2⟩:=zcn tb ex (0+1) ((tb.length:Int))
 obtain ⟨q3,g3⟩:=zcn tb ex (0+1+1) ((↑(tb.length+ex.length):Int))
 obtain ⟨q4,g4⟩:=zcm tb ex 0 ([])
 obtain ⟨q5,g5⟩:=zcm tb ex (0+1) ([]++tb)
 obtain ⟨q6,g6⟩:=zcm tb ex (0+1+1) ([]++tb++ex)
 exact ⟨[]++tb++ex,(by first|rfl|(simp;done)),wkc At.Ah [] [0,3,9,10,11] 0 kr (g1 _ (zaa (wkl [sb Zt,se (xs:=[[tsl tb],[tsl ex]]) (i:=0) (c:=[tsl tb]) (n:=1) ⟨by decide,rfl,rfl⟩,si w1,sb Zf,si (zap (t:=(↑0:Int)+1) (n:=0+1) Zo Zo)] [0,3,9,10,11] 0 kr (g2 _ (zaa (wkl [sb Zt,se (zmC ([tsl tb]) ([tsl ex]) Za),si w2,sb Zf,si (zap (t:=(↑(0+1):Int)+1) (n:=0+1+1) Zo Zo)] [0,3,9,10,11] 0 kr (g3 _ (zaa (wkl [sb Zf,sln [] (zgm (tb.length+ex.length) Za)] [6,25,26,27] 1 kr (g4 _ (zaa (wkl [sb Zt,se (xs:=[[tsl tb],[tsl ex]]) (i:=0) (c:=[tsl tb]) (n:=1) ⟨by decide,rfl,rfl⟩,sqx (AllLen (List.map Tb.cells tb) 4/\0=0/\((([]:List (List AV)).length+(List.map Tb.cells tb).length) * 72).le 140737488355328),si (zap (t:=(↑0:Int)+1) (n:=0+1) Zo Zo)] [6,25,26,27] 1 kr (zas (show ([(6,AV.own 0 ([]++List.map Tb.cells tb).length),(25,AV.sl [[tsl tb],[tsl ex]]),(26,iv (↑[[tsl tb],[tsl ex]].length:Int)),(27,iv (↑(0+1):Int))]:TS)=_ from Zcv8) rfl (g5 _ (zaa (wkl [sb Zt,se (zmC ([tsl tb]) ([tsl ex]) Za),sqx (AllLen (List.map Tb.cells ex) 4/\([]++tb).length=(List.map Tb.cells ([]++tb)).length/\(((List.map Tb.cells ([]++tb)).length+(List.map Tb.cells ex).length) * 72).le 140737488355328),si (zap (t:=(↑(0+1):Int)+1) (n:=0+1+1) Zo Zo)] [6,25,26,27] 1 kr (zaK 6 0 (List.map Tb.cells ([]++tb)++List.map Tb.cells ex) (g6 _ (zaa (wkr [sqx (([]++tb++ex).length=(List.map Tb.cells ([]++tb++ex)).length),sb Zf] kr))) (he:=Zcv8) (hm:=Zcv8))))))))))))))))))⟩
theorem zit (tb ex:List Tb) (hl:tb.length<=1000) (hle:ex.length<=1000):zab E0 S.Ah [.sl (cc3 tb ex)] [] (tsl (tb++ex)) []:=by
 obtain ⟨r,rfl,h⟩:=zxQ tb ex hl hle (by rw [yG,IntKind.wrap_i64];omega) (by rw [yG,IntKind.wrap_i64];omega) Zs Zp
 exact h
def colT (c:Col):Col:=⟨c.name,c.type,false,false⟩
structure FiA (ts:List Tg) (frs:List Fr) (ex:List Tb) (ms:Nat->List Tb) (t:Tg) (pre:List Ac) (ab:Ac):Prop where
 acts:t.acts=pre++[ab]
 ab:(ab.kind==4)=true
 len:pre.length<=100
 run:∀ (i:Nat) (a:Ac),pre[i]?=some a->FiStep ts frs ex (ms i) (ms (i+1)) a
noncomputable def zv2 (l:List Int) (n:Int) (i:Nat) :Cfg:=zai B.AJ 0 [(0,isl l),(1,iv n),(7,iv ((l.map zbh).length:Nat)),(8,iv (i:Nat))] []
theorem zgA (l:List Int) (n:Int) (hl:zac l) (i:Nat)  (hi:i<=(l).length) (hI:idxF (fun t=>n==t) l 0=idxF (fun t=>n==t) (l.drop i) i):((idxF (fun t=>n==t) l 0=idxF (fun t=>n==t) (l.drop (l).length) (l).length)/\(decide ((((l).length:Nat):Int) < (((l.map zbh).length:Nat):Int))=false)/\∀ R,Good E0 B.AJ [] (zv2 l n (l).length ) R->Good E0 B.AJ [] (zv2 l n i ) R)\/(∃ (r:Int),r=idxF (fun t=>n==t) l 0/\Good E0 B.AJ [] (zv2 l n i ) (Shut 0 fun rZ hZ=>rZ=(iv r)/\hZ=[])):=by
 have hk:=hi;revert i;refine zlp ((l).length) (fun i hlt ih hi hI _=>?_)
 obtain ⟨x,hx,h0,hw⟩:=zlq (l:=l) ((l.map zbh).length) hlt
 let p_1:List St:=[sb h0,se (zaf (fun n=>[iv n]) hx rfl)]
 cases h1:n==x
 ·exact zie2 (ih Zo (by exact zfb hI hx ‹_›) Zo) fun R gY=>zaa (wkl (p_1++[sb h1,si hw]) [0,1,7,8] 0 kr gY)
 ·exact .inr ⟨(i:Int),(by exact zg0 hI hx ‹_›),zaa (wkr (p_1++[sb h1]) kr)⟩
theorem c_ixN (l:List Int) (n:Int) (hl:zac l):∃ (r:Int),r=idxF (fun t=>n==t) l 0/\zab E0 S.AJ [isl l,iv n] [] (iv r) []:=by
 rcases zgA l n Za 0 Za Za with ⟨q1,q1_1,g1⟩|⟨r1_0,p1_0,g1⟩
 ·exact ⟨-1,(by first|assumption|exact zdt ‹_›),wkc At.AJ [] [0,1,7,8] 0 kr (g1 _ (zaa (wkr [sb q1_1] kr)))⟩
 ·exact ⟨r1_0,(by first|assumption|exact zdt ‹_›),wkc At.AJ [] [0,1,7,8] 0 kr (g1)⟩
theorem zzw {l:List Int} {n:Int}:decide (0<=idxF (fun t=>n==t) l 0)=anyI l n:=by
 rcases zh3 (fun t=>n==t) l 0 with ⟨h1,h2⟩|⟨j,x,h1,h2,h3⟩
 ·rw [h1]
  cases ha:anyI l n
  ·rfl
  ·have hm:=ze1.1 ha
   have:=List.find?_eq_none.1 h2 n hm
   simp at this
 ·rw [h1]
  have hx:=List.find?_some h3
  simp only [beq_iff_eq] at hx
  have:anyI l n=true:=ze1.2 (hx ▸ yC h2)
  rw [this];simp
theorem c_conI (l:List Int) (n:Int) (hx:∃ r:Int,r=idxF (fun t=>n==t) l 0/\zab E0 S.AJ [isl l,iv n] [] (iv r) []):∃ (r:Bool),r=anyI l n/\zab E0 S.BO [isl l,iv n] [] (bv r) []:=by
 obtain ⟨r1,q1,c1⟩:=hx
 exact ⟨decide ((0:Int)<=r1),(by (rw [← zzw];subst_vars;first|rfl|assumption|simp_all)),wk At.BO [sc c1] kr⟩
theorem zcL (l:List Int) (n:Int) (hl:zac l):zab E0 S.BO [isl l,iv n] [] (bv (anyI l n)) []:=by
 obtain ⟨r,rfl,h⟩:=c_conI l n (c_ixN l n hl)
 exact h
noncomputable def zvW (t:Tb) (n:Int) (i:Nat) :Cfg:=zai B.CJ 0 [(1,iv n),(9,.sl (t.rows.map Rw.cells)),(10,iv ((t.rows.map Rw.cells).length:Nat)),(11,iv (i:Nat))] [.box t.cells]
theorem zld (t:Tb) (n:Int) (hl:zac t.rows) (hv:∀ r∈t.rows,zac r.vals) (i:Nat)  (hi:i<=(t.rows).length) (hI:get6 n t.rows=get6 n (t.rows.drop i)):((get6 n t.rows=get6 n (t.rows.drop (t.rows).length))/\(decide ((((t.rows).length:Nat):Int) < (((t.rows.map Rw.cells).length:Nat):Int))=false)/\∀ R,Good E0 B.CJ [] (zvW t n (t.rows).length ) R->Good E0 B.CJ [] (zvW t n i ) R)\/(∃ (v:List V) (r:Bool),(v,r)=get6 n t.rows/\Good E0 B.CJ [] (zvW t n i ) (Shut 0 fun rZ hZ=>rZ=(.tup [vsl v,bv r])/\hZ=[])):=by
 have hk:=hi;revert i;refine zlp ((t.rows).length) (fun i hlt ih hi hI _=>?_)
 obtain ⟨x,hx,h0,hw⟩:=zlq (l:=t.rows) ((t.rows.map Rw.cells).length) hlt
 have hvx:=hv x (yC hx)
 cases h1:x.id==n
 ·exact (ih Zo (by (rw [hI,zaB hx];simp only [get6, *,cond_false])) Zo).elim (fun ⟨qZ,xZ,gZ⟩=>.inl ⟨qZ,xZ,fun R hg=>zaa (wkl [sb h0,se (zaf Rw.cells hx rfl),sb h1,si hw] [1,9,10,11] 1 kr (gZ R hg))⟩) (fun ⟨vY,rY,pZ,gZ⟩=>.inr ⟨vY,rY,pZ,zaa (wkl [sb h0,se (zaf Rw.cells hx rfl),sb h1,si hw] [1,9,10,11] 1 kr gZ)⟩)
 ·exact .inr ⟨x.vals,true,(by (rw [hI,zaB hx];simp only [get6, *,cond_true];try rfl)),zaa (wkr [sqx (x.vals.length=(List.map V.cells x.vals).length/\True/\True),sb h0,se (zaf Rw.cells hx rfl),sb h1,sc (zaC x.vals (by first|assumption|omega|(simp;done)|(simp;omega)))] kr)⟩
theorem zuA (t:Tb) (n:Int) (hl:zac t.rows) (hv:∀ r∈t.rows,zac r.vals):∃ (v:List V) (r:Bool),(v,r)=get6 n t.rows/\zab E0 S.CJ [t.av,iv n] [] (.tup [vsl v,bv r]) []:=by
 rcases zld t n Za Za 0 Za Za with ⟨q1,q1_1,g1⟩|⟨r1_0,r1_1,p1_0,g1⟩
 ·exact ⟨[],false,(by first|assumption|(rw [‹get6 _ _=get6 _ _›,yAG];rfl)),wkc At.CJ [] [1,9,10,11] 1 kr (g1 _ (zaa (wkr [sb q1_1] kr)))⟩
 ·exact ⟨r1_0,r1_1,(by first|assumption|(rw [‹get6 _ _=get6 _ _›,yAG];rfl)),wkc At.CJ [] [1,9,10,11] 1 kr (g1)⟩
theorem zjU (t:Tb) (n:Int) (hl:zac t.rows) (hv:∀ r∈t.rows,zac r.vals):zab E0 S.CJ [t.av,iv n] [] (.tup [vsl (get6 n t.rows).1,bv (get6 n t.rows).2]) []:=by
 obtain ⟨v,r,h,h2⟩:=zuA t n hl hv
 rw [← h];exact h2
theorem znL {p:Prop} (h:p:=by first|assumption|omega|(simp;done)|(simp;omega)):p:=h
structure RwV (t:Tb) (ids gone:List Int):Prop where
 asc:ids.Pairwise fun a b=>a < b
 inn:∀ d∈ids,(get6 d t.rows).2=true/\anyI gone d=false
 len:ids.length<=100000
noncomputable def zrX (t:Tb) (ids gone:List Int) (i:Nat) :Cfg:=zai B.CI 0 [(1,isl ids),(2,isl gone),(3,.p 0 0),(11,isl ids),(12,iv ((ids.map zbh).length:Nat)),(13,iv (i:Nat))] [.box t.cells]
theorem zkY (t:Tb) (ids gone:List Int) (hs:zac t.rows) (hvs:∀ r∈t.rows,zac r.vals) (hg:zac gone) (hc:RwV t ids gone) (i:Nat)  (hi:i<=(ids).length) (hI:1<=i):(1<=(ids).length)/\(decide ((((ids).length:Nat):Int) < (((ids.map zbh).length:Nat):Int))=false)/\∀ R,Good E0 B.CI [] (zrX t ids gone (ids).length ) R->Good E0 B.CI [] (zrX t ids gone i ) R:=by
 have hk:=hi;revert i;refine zlp ((ids).length) (fun i hlt ih hi hI _=>?_)
 obtain ⟨x,hx,h0,hw⟩:=zlq (l:=ids) ((ids.map zbh).length) hlt (by (have:=hc.len;omega))
 have a1:(!(get6 x t.rows).2)=false:=(by rw [(hc.inn x (yC hx)).1];rfl);have a5:decide ((0:Int) < ((i:Nat):Int))=true:=Zp;have hil:=zb1 hx;have hld:=hc.len
 have a4:∀ y,AtI ids (IntKind.i64.wrap (((i:Nat):Int) - 1)) y->decide (x<=y)=false:=fun y hy=>zoJ (f:=fun z=>z) hc.asc hx hI Zo hy
 have a8:anyI gone x=false:=(hc.inn x (yC hx)).2
 obtain ⟨x1,e1⟩:=zdN (l:=ids) (i:=IntKind.i64.wrap ((i:Int) - (1:Int))) (by exact zoO hx hI Zo)
 obtain ⟨qZ,xZ,gZ⟩:=ih Zo Zo Zo;exact ⟨qZ,xZ,fun R hg=>zaa (wkl [sb h0,se (zaf (fun n=>[iv n]) hx rfl),sc (zjU t x znL znL),sg a1,sg a5,si (e:=IntKind.i64.wrap ((i:Int) - 1)) rfl,se (zbW (fun n=>[iv n]) e1 rfl),sg (a4 x1 e1),sc (zcL gone x znL),sb a8,si hw] [1,2,3,11,12,13] 1 kr (gZ R hg))⟩
theorem zj2 (t:Tb) (ids gone:List Int) (hs:zac t.rows) (hvs:∀ r∈t.rows,zac r.vals) (hg:zac gone) (hc:RwV t ids gone):decide (((ids.length:Nat):Int) < (((ids.map zbh).length:Nat):Int))=false/\∀ R,Good E0 B.CI [] (zrX t ids gone ids.length) R->Good E0 B.CI [] (zrX t ids gone 0) R:=by
 cases hrw:ids with
 | nil=>exact ⟨by simp,fun R h=>h⟩
 | cons x r =>
  have hx:ids[0]?=some x:=by rw [hrw];rfl
  obtain ⟨_,h1,h2⟩:=zkY t ids gone hs hvs hg hc 1 (by rw [hrw];simp) (yJ 1)
  rw [← hrw]
  refine ⟨h1,fun R h=>?_⟩
  have hgg:=h2 R h
  have h0:decide (((0:Nat):Int) < (((ids.map zbh).length:Nat):Int))=true:=by rw [hrw];simp
  have a1:(!(get6 x t.rows).2)=false:=(by rw [(hc.inn x (yC hx)).1];rfl)
  have a8:anyI gone x=false:=(hc.inn x (yC hx)).2
  refine zaa ?_
  exact wkl [sb h0,se (zaf (fun n=>[iv n]) hx rfl),sc (zjU t x znL znL),sg a1,sb Zf,sc (zcL gone x znL),sb a8,si (zap (t:=(↑0:Int)+1) (n:=0+1) Zo Zo)] [1,2,3,11,12,13] 1 kr (hgg)
theorem zsF (t:Tb) (ids gone:List Int) (hs:zac t.rows) (hvs:∀ r∈t.rows,zac r.vals) (hg:zac gone) (hc:RwV t ids gone):∃ (r:Bool),r=true/\zab E0 S.CI [t.av,isl ids,isl gone] [] (bv r) []:=by
 obtain ⟨q1,g1⟩:=zj2 t ids gone Za Za Za Za
 exact ⟨true,Zr,wkc At.CI [] [1,2,3,11,12,13] 1 kr (g1 _ (zaa (wkr [sb q1] kr)))⟩
theorem zku (t:Tb) (ids gone:List Int) (hs:zac t.rows) (hvs:∀ r∈t.rows,zac r.vals) (hg:zac gone) (hc:RwV t ids gone):zab E0 S.CI [t.av,isl ids,isl gone] [] (bv true) []:=by
 obtain ⟨r,rfl,h⟩:=zsF t ids gone hs hvs hg hc
 exact h
theorem zdi {p:Prop} (h:p:=by first|assumption|rfl|exact hc.rwD|exact hc.rwU ‹_›|omega|(simp [zac];done)):p:=h
theorem zeh {p:Prop} (h:p:=by first|assumption|omega|(simp;done)|(simp;omega)):p:=h
theorem zxb {p:Prop} (h:p:=by first|exact fc_u ‹_›|exact fc_i ‹_› ‹_›|exact fc_0 ‹_› ‹_›):p:=h
theorem ChV.rwD {t:Tb} {c:Ch} (h:ChV t c):RwV t c.del []:=⟨h.del,fun d hd=>⟨h.delIn d hd,rfl⟩,h.ld⟩
theorem ChV.rwU {t:Tb} {c:Ch} (h:ChV t c) {ids:List Int} (hi:ids=(c.upd.take c.upd.length).map Pr.id):RwV t ids c.del:=by
 rw [yL] at hi
 subst hi
 refine ⟨List.pairwise_map.2 h.upd,fun d hd=>?_,by rw [yG];exact h.lu⟩
 obtain ⟨p,hp,rfl⟩:=yAT.1 hd
 have:=h.updIn p hp
 exact ⟨by rw [this.1],this.2.1⟩
theorem ziv (l:List V) (hl:zac l):zab E0 S.Ar [vsl l,vsl l] [] (bv true) []:=by
 obtain ⟨r,rfl,h⟩:=zfu l hl
 exact h
noncomputable def L_kvU (t:Tb) (c:Ch) (i:Nat) (ids:List Int):Cfg:=zai B.CG 0 [(2,.p 0 0),(3,.p 1 0),(5,.own 3 ids.length),(6,.p 2 0),(26,.sl (c.upd.map Pr.cells)),(27,iv ((c.upd.map Pr.cells).length:Nat)),(28,iv (i:Nat))] [.box t.cells,.box c.cells,.box [iv ((t.sch.cols.map Col.cells).length:Nat)],.row Ty.int (ids.map zbh) false]
theorem zj1 (t:Tb) (c:Ch) (hl:zac c.upd) (hs:zac t.rows) (hvs:∀ r∈t.rows,zac r.vals) (hvo:∀ p∈c.upd,zac p.old) (hc:ChV t c) (i:Nat) (ids:List Int) (hi:i<=(c.upd).length) (hI:ids=(c.upd.take i).map Pr.id):∃ (ids':List Int),(ids'=(c.upd.take (c.upd).length).map Pr.id)/\(decide ((((c.upd).length:Nat):Int) < (((c.upd.map Pr.cells).length:Nat):Int))=false)/\∀ R,Good E0 B.CG [] (L_kvU t c (c.upd).length ids') R->Good E0 B.CG [] (L_kvU t c i ids) R:=by
 have hk:=hi;revert i ids;refine zlp ((c.upd).length) (fun i hlt ih ids hi hI _=>?_)
 obtain ⟨x,hx,h0,hw⟩:=zlq (l:=c.upd) ((c.upd.map Pr.cells).length) hlt
 have hm:=yC hx;have hgt:=zjU t x.id hs hvs;rw [(hc.updIn x hm).1] at hgt;have he:=ziv x.old (hvo x hm)
 have hn:((((x.nw.map V.cells).length:Nat):Int) != (((t.sch.cols.map Col.cells).length:Nat):Int))=false:=(by have:=(hc.updIn x hm).2.2;simp [this])
 have ho:ids.length<=1000000000:=(by rw [hI,yG,yV];simp only [zac] at hl;omega)
 exact Zih (ih (ids++[x.id]) Zo (by (rw [yP,hx,hI,yAR];rfl)) Zo) fun R gY=>zaa (wkl [sb h0,se (zaf Pr.cells hx rfl),sc hgt,sg Zf,sc he,sg Zf,sb hn,sqA (List.map zbh ids) [[iv x.id]] ids.length 1 8,si hw] [2,3,5,6,26,27,28] 4 kr (zaK 5 3 (List.map zbh ids++[[iv x.id]]) gY (he:=Zcv3) (hm:=Zcv3)))
theorem zsE (t:Tb) (c:Ch) (hv:zab E0 S.BF [t.av] [] (bv true) []) (hl:zac c.upd) (hd:zac c.del) (hi:zac c.ins) (hs:zac t.rows) (hvs:∀ r∈t.rows,zac r.vals) (hvo:∀ p∈c.upd,zac p.old) (hc:ChV t c) (hw:∀ v∈c.ins,(((v.map V.cells).length:Int) != ((t.sch.cols.map Col.cells).length:Int))=false):∃ (r:Bool),r=true/\zab E0 S.CG [t.av,c.av] [] (bv r) []:=by
 obtain ⟨ids1,q1,q1_1,g1⟩:=zj1 t c zdi zdi zdi zdi zdi 0 ([]) zdi zdi
 exact ⟨!false,Zr,wkcN At.CG [sc hv,sg Zf,sc (zku t c.del ([]) zdi zdi zdi zdi),sb Zf] [2,3,5,6,26,27,28] 3 [(.ot 5 Ty.int,4)] kr (g1 _ (zaa (wkr [sb q1_1,skx ((True/\True/\True/\True/\True)/\ids1.length=(List.map zbh ids1).length/\True/\True) [] (zku t ids1 c.del zdi zdi zdi zdi),sg Zt,sl [2] (zfl c.ins ((↑(List.map Col.cells t.sch.cols).length:Int)) zdi zdi)] kr)))⟩
theorem zoo (t:Tb) (c:Ch) (ht:TabV t) (hc:ChV t c) (hvo:∀ p∈c.upd,zac p.old):zab E0 S.CG [t.av,c.av] [] (bv true) []:=by
 have h1:=hc.ld;have h2:=hc.lu;have h3:=hc.li
 obtain ⟨r,rfl,h⟩:=zsE t c (zc8 t ht) (by simp only [zac];omega) (by simp only [zac];omega) (by simp only [zac];omega) ht.shr ht.vals hvo hc (fun v hv=>by simp [hc.ins v hv])
 exact h
noncomputable def zv5 (t:Tb) (c:Ch) (i:Nat) :Cfg:=zai B.BB 0 [(2,.p 0 0),(3,.p 1 0),(12,.sl (c.upd.map Pr.cells)),(13,iv ((c.upd.map Pr.cells).length:Nat)),(14,iv (i:Nat))] [.box t.cells,.box c.cells]
theorem zkX (t:Tb) (c:Ch) (hl:zac c.upd) (hs:zac t.sch.cols) (hg:∀ p∈c.upd,∀ v∈p.nw,v.Good) (i:Nat)  (hi:i<=(c.upd).length) (hI:zbl t.sch c.upd=zbl t.sch (c.upd.drop i)):((zbl t.sch c.upd=zbl t.sch (c.upd.drop (c.upd).length))/\(decide ((((c.upd).length:Nat):Int) < (((c.upd.map Pr.cells).length:Nat):Int))=false)/\∀ R,Good E0 B.BB [] (zv5 t c (c.upd).length ) R->Good E0 B.BB [] (zv5 t c i ) R)\/(∃ (r:Int),(r≠0/\r=zbl t.sch c.upd)/\Good E0 B.BB [] (zv5 t c i ) (Shut 0 fun rZ hZ=>rZ=(iv r)/\hZ=[])):=by
 have hk:=hi;revert i;refine zlp ((c.upd).length) (fun i hlt ih hi hI _=>?_)
 obtain ⟨x,hx,h0,hw⟩:=zlq (l:=c.upd) ((c.upd.map Pr.cells).length) hlt
 have hgx:=hg x (yC hx)
 let p_1:List St:=[sb h0,se (zaf Pr.cells hx rfl),sc (ziy t.sch x.nw zeh zeh)]
 cases h1:fit5 t.sch x.nw != 0
 ·exact zie2 (ih Zo (by (rw [hI,zaB hx];simp only [zbl, *,cond_false])) Zo) fun R gY=>zaa (wkl (p_1++[sb h1,si hw]) [2,3,12,13,14] 2 kr gY)
 ·exact .inr ⟨fit5 t.sch x.nw,(by (refine ⟨by simpa using ‹(fit5 _ _ != 0)=true›,?_⟩;rw [hI,zaB hx];simp only [zbl, *,cond_true])),zaa (wkr (p_1++[sb h1]) kr)⟩
noncomputable def zv4 (t:Tb) (c:Ch) (i:Nat) :Cfg:=zai B.BB 1 [(2,.p 0 0),(28,.sl (c.ins.map vrow)),(29,iv ((c.ins.map vrow).length:Nat)),(30,iv (i:Nat))] [.box t.cells,.box c.cells]
theorem zkW (t:Tb) (c:Ch) (hl:zac c.ins) (hs:zac t.sch.cols) (hg:∀ p∈c.ins,∀ v∈p,v.Good) (i:Nat)  (hi:i<=(c.ins).length) (hI:zbB t.sch c.ins=zbB t.sch (c.ins.drop i)):((zbB t.sch c.ins=zbB t.sch (c.ins.drop (c.ins).length))/\(decide ((((c.ins).length:Nat):Int) < (((c.ins.map vrow).length:Nat):Int))=false)/\∀ R,Good E0 B.BB [] (zv4 t c (c.ins).length ) R->Good E0 B.BB [] (zv4 t c i ) R)\/(∃ (r:Int),(r≠0/\r=zbB t.sch c.ins)/\Good E0 B.BB [] (zv4 t c i ) (Shut 0 fun rZ hZ=>rZ=(iv r)/\hZ=[])):=by
 have hk:=hi;revert i;refine zlp ((c.ins).length) (fun i hlt ih hi hI _=>?_)
 obtain ⟨x,hx,h0,hw⟩:=zlq (l:=c.ins) ((c.ins.map vrow).length) hlt
 have hgx:=hg x (yC hx)
 let p_1:List St:=[sb h0,se (zaf vrow hx rfl),sc (ziy t.sch x zeh zeh)]
 cases h1:fit5 t.sch x != 0
 ·exact zie2 (ih Zo (by (rw [hI,zaB hx];simp only [zbB, *,cond_false])) Zo) fun R gY=>zaa (wkl (p_1++[sb h1,si hw]) [2,28,29,30] 2 kr gY)
 ·exact .inr ⟨fit5 t.sch x,(by (refine ⟨by simpa using ‹(fit5 _ _ != 0)=true›,?_⟩;rw [hI,zaB hx];simp only [zbB, *,cond_true])),zaa (wkr (p_1++[sb h1]) kr)⟩
def zbH (s:Sch) (c:Ch):Int:=bif zbl s c.upd != 0 then zbl s c.upd else zbB s c.ins
theorem fc_u {s:Sch} {c:Ch} {r:Int} (h:r≠0/\r=zbl s c.upd):r=zbH s c:=by
 have h1:(zbl s c.upd != 0)=true:=by rw [← h.2];simpa using h.1
 unfold zbH;rw [h1];exact h.2
theorem fc_z {s:Sch} {c:Ch} (h:zbl s c.upd=zbl s (c.upd.drop c.upd.length)):(zbl s c.upd != 0)=false:=by
 rw [h,yAG];rfl
theorem fc_i {s:Sch} {c:Ch} {r:Int} (h:zbl s c.upd=zbl s (c.upd.drop c.upd.length)) (h2:r≠0/\r=zbB s c.ins):r=zbH s c:=by
 unfold zbH;rw [fc_z h];exact h2.2
theorem fc_0 {s:Sch} {c:Ch} (h:zbl s c.upd=zbl s (c.upd.drop c.upd.length)) (h2:zbB s c.ins=zbB s (c.ins.drop c.ins.length)):(0:Int)=zbH s c:=by
 unfold zbH;rw [fc_z h,h2,yAG];rfl
theorem zur (t:Tb) (c:Ch) (hl:zac c.upd) (hi:zac c.ins) (hs:zac t.sch.cols) (hg:∀ p∈c.upd,∀ v∈p.nw,v.Good) (hgi:∀ p∈c.ins,∀ v∈p,v.Good):∃ (r:Int),r=zbH t.sch c/\zab E0 S.BB [t.av,c.av] [] (iv r) []:=by
 rcases zkX t c zeh zeh zeh 0 zeh zeh with ⟨q1,q1_1,g1⟩|⟨r1_0,p1_0,g1⟩
 ·rcases zkW t c zeh zeh zeh 0 zeh zeh with ⟨q2,q2_1,g2⟩|⟨r2_0,p2_0,g2⟩
  ·exact ⟨0,zxb,wkc At.BB [] [2,3,12,13,14] 2 kr (g1 _ (zaa (wkl [sb q1_1] [2,28,29,30] 2 kr (g2 _ (zaa (wkr [sb q2_1] kr))))))⟩
  ·exact ⟨r2_0,zxb,wkc At.BB [] [2,3,12,13,14] 2 kr (g1 _ (zaa (wkl [sb q1_1] [2,28,29,30] 2 kr g2)))⟩
 ·exact ⟨r1_0,zxb,wkc At.BB [] [2,3,12,13,14] 2 kr (g1)⟩
theorem zqu (t:Tb) (c:Ch) (hl:zac c.upd) (hi:zac c.ins) (hs:zac t.sch.cols) (hg:∀ p∈c.upd,∀ v∈p.nw,v.Good) (hgi:∀ p∈c.ins,∀ v∈p,v.Good):zab E0 S.BB [t.av,c.av] [] (iv (zbH t.sch c)) []:=by
 obtain ⟨r,rfl,h⟩:=zur t c hl hi hs hg hgi
 exact h
def updF (t:Tb) (c:Ch) (i:Nat):List Pr:=c.upd.filter fun p=>(t.rows.take i).all fun y=>decide (y.id < p.id)
theorem updF_0 (t:Tb) (c:Ch):updF t c 0=c.upd:=by
 unfold updF;rw [List.take_zero];exact List.filter_eq_self.2 fun _ _=>rfl
theorem zrf {t:Tb} {c:Ch} {i:Nat} {x:Rw} (hx:t.rows[i]?=some x):updF t c (i+1)=(updF t c i).filter fun p=>decide (x.id < p.id):=by
 unfold updF
 rw [List.filter_filter]
 refine List.filter_congr fun p _=>?_
 rw [yP,hx,List.all_append]
 simp [Bool.and_comm]
theorem zvn {n:Int}:∀ {l:List Rw},(get6 n l).2=true->∃ r∈l,r.id=n
 | [],h=>by simp [get6] at h
 | r::l,h=>by
  unfold get6 at h
  cases hr:r.id==n
  ·rw [hr] at h
   obtain ⟨y,hy,e⟩:=zvn (l:=l) h
   exact ⟨y,List.mem_cons_of_mem _ hy,e⟩
  ·exact ⟨r,by simp,by simpa using hr⟩
theorem zox {t:Tb} {c:Ch} {i:Nat} {p:Pr} (h:p∈updF t c i):p∈c.upd:=(List.mem_filter.1 h).1
theorem zvI {t:Tb} {c:Ch} (hc:ChV t c) (ha:t.rows.Pairwise fun a b=>a.id < b.id) {i:Nat} {x:Rw} (hx:t.rows[i]?=some x) {p:Pr} (hp:p∈updF t c i):x.id<=p.id:=by
 obtain ⟨h1,h2⟩:=List.mem_filter.1 hp
 obtain ⟨r,hr,e⟩:=zvn (n:=p.id) (l:=t.rows) (by rw [(hc.updIn p h1).1])
 obtain ⟨j,hj⟩:=yQ hr
 obtain ⟨a1,a2⟩:=yB.1 hx
 obtain ⟨b1,b2⟩:=yB.1 hj
 by_cases hlt:j < i
 ·have:=yAd.1 h2 r (List.mem_iff_getElem?.2 ⟨j,by rw [List.getElem?_take_of_lt hlt];exact hj⟩)
  simp only [decide_eq_true_eq] at this;omega
 ·rcases Nat.lt_or_eq_of_le (Nat.le_of_not_lt hlt) with h|h
  ·have:=yAW.1 ha i j a1 b1 h
   rw [a2,b2] at this;omega
  ·subst h
   rw [hx] at hj;cases hj;omega
theorem zBd {t:Tb} {c:Ch} (ha:t.rows.Pairwise fun a b=>a.id < b.id) {i:Nat} {x:Rw} (hx:t.rows[i]?=some x) {p:Pr} (hp:p∈c.upd) (e:p.id=x.id):p∈updF t c i:=by
 refine List.mem_filter.2 ⟨hp,yAd.2 fun y hy=>?_⟩
 obtain ⟨j,hj⟩:=List.mem_iff_getElem?.1 hy
 have hji:j < i:=by
  have:=(yB.1 hj).1;simp at this;omega
 rw [List.getElem?_take_of_lt hji] at hj
 obtain ⟨a1,a2⟩:=yB.1 hx
 obtain ⟨b1,b2⟩:=yB.1 hj
 have:=yAW.1 ha j i b1 a1 hji
 rw [a2,b2] at this
 simp only [decide_eq_true_eq];omega
theorem zvJ {t:Tb} {c:Ch} (hc:ChV t c) (i:Nat):(updF t c i).Pairwise fun a b=>a.id < b.id:=hc.upd.filter _
theorem zre {t:Tb} {c:Ch} (hc:ChV t c) (ha:t.rows.Pairwise fun a b=>a.id < b.id) {i:Nat} {x:Rw} (hx:t.rows[i]?=some x) (h:∀ p∈updF t c i,p.id≠x.id):updF t c (i+1)=updF t c i:=by
 rw [zrf hx]
 refine List.filter_eq_self.2 fun p hp=>?_
 have:=zvI hc ha hx hp
 have:=h p hp
 simp only [decide_eq_true_eq];omega
theorem zyT {t:Tb} {c:Ch} (hc:ChV t c) {i:Nat} {x:Rw} (hx:t.rows[i]?=some x) {p:Pr} {r:List Pr} (h:updF t c i=p::r) (e:p.id=x.id):updF t c (i+1)=r:=by
 have hp:=zvJ hc i
 rw [zrf hx,h,List.filter_cons]
 rw [h,yAK] at hp
 have h1:decide (x.id < p.id)=false:=by simp;omega
 rw [h1]
 refine List.filter_eq_self.2 fun q hq=>?_
 have:=hp.1 q hq
 simp only [decide_eq_true_eq];omega
theorem zqQ {n:Int}:∀ {l:List Pr},(∀ p∈l,p.id≠n)->fnd7 n l=([],false)
 | [],_=>rfl
 | p::r,h=>by
  have h1:(p.id==n)=false:=by simpa using h p Zs
  simp only [fnd7,h1,cond_false]
  exact zqQ fun q hq=>h q (by simp [hq])
theorem zqR {n:Int} {p:Pr} (e:p.id=n):∀ {l:List Pr},l.Pairwise (fun a b=>a.id < b.id)->p∈l->fnd7 n l=(p.nw,true)
 | q::r,hp,hm=>by
  rw [yAK] at hp
  simp only [yO] at hm
  rcases hm with rfl|hm
  ·simp [fnd7,e]
  ·have:=hp.1 p hm
   have h1:(q.id==n)=false:=by rw [beq_eq_false_iff_ne];omega
   simp only [fnd7,h1,cond_false]
   exact zqR e hp.2 hm
structure KaI (t:Tb) (c:Ch) (i:Nat) (up:List Pr) (rs:List Rw):Prop where
 up:up=updF t c i
 len:rs.length<=i
 rs:rs=midR c (t.rows.take i)
section
variable {t : Tb} {c : Ch} {i : Nat} {up : List Pr} {rs : List Rw} {x : Rw}
theorem KaI.zero (t:Tb) (c:Ch):KaI t c 0 c.upd []:=⟨(updF_0 t c).symm,by simp,rfl⟩
theorem KaI.no (hI:KaI t c i up rs) (hc:ChV t c) (ha:t.rows.Pairwise fun a b=>a.id < b.id) (hx:t.rows[i]?=some x) (h:up=[]\/∃ p,up[0]?=some p/\(p.id==x.id)=false):∀ p∈updF t c i,p.id≠x.id:=by
 have hp:=zvJ hc i
 rw [← hI.up] at hp ⊢
 rcases h with rfl|⟨p,h1,h2⟩
 ·simp
 ·cases hu:up with
  | nil=>simp
  | cons q r =>
   rw [hu] at h1 hp
   simp only [yAB,yA] at h1
   subst h1
   rw [yAK] at hp
   have h3:q.id≠x.id:=by simpa using h2
   have h4:=zvI hc ha hx (p:=q) (by rw [← hI.up,hu];simp)
   intro p hp'
   simp only [yO] at hp'
   rcases hp' with rfl|hp'
   ·exact h3
   ·have:=hp.1 p hp';omega
theorem KaI.del (hI:KaI t c i up rs) (hc:ChV t c) (ha:t.rows.Pairwise fun a b=>a.id < b.id) (hx:t.rows[i]?=some x) (h:anyI c.del x.id=true):KaI t c (i+1) up rs:=by
 have hn:∀ p∈updF t c i,p.id≠x.id:=fun p hp e=>by
  have:=(hc.updIn p (zox hp)).2.1
  rw [e,h] at this;cases this
 have hm:=mid_0 ⟨hI.len,hI.rs⟩ hx h
 exact ⟨by rw [zre hc ha hx hn];exact hI.up,hm.1,hm.2⟩
theorem KaI.keep (hI:KaI t c i up rs) (hc:ChV t c) (ha:t.rows.Pairwise fun a b=>a.id < b.id) (hx:t.rows[i]?=some x) (hd:anyI c.del x.id=false) (h:up=[]\/∃ p,up[0]?=some p/\(p.id==x.id)=false):KaI t c (i+1) up (rs++[⟨x.id,x.vals⟩]):=by
 have hn:=hI.no hc ha hx h
 have hf:fnd7 x.id c.upd=([],false):=zqQ fun p hp e=>hn p (zBd ha hx hp e) e
 have hm:=zwZ (v:=x.vals) ⟨hI.len,hI.rs⟩ hx hd (by rw [hf];rfl)
 exact ⟨by rw [zre hc ha hx hn];exact hI.up,hm.1,hm.2⟩
theorem KaI.upd (hI:KaI t c i up rs) (hc:ChV t c) (hx:t.rows[i]?=some x) (hd:anyI c.del x.id=false) {p:Pr} (h1:up[0]?=some p) (h2:(p.id==x.id)=true):KaI t c (i+1) (up.drop 1) (rs++[⟨x.id,p.nw⟩]):=by
 have e:p.id=x.id:=by simpa using h2
 cases hu:up with
 | nil=>rw [hu] at h1;simp at h1
 | cons q r =>
  rw [hu] at h1
  simp only [yAB,yA] at h1
  subst h1
  have hu2:updF t c i=q::r:=by rw [← hI.up,hu]
  have hf:=zqR e hc.upd (zox (by rw [hu2];simp))
  have hm:=zwZ (v:=q.nw) ⟨hI.len,hI.rs⟩ hx hd (by rw [hf];rfl)
  exact ⟨by rw [zyT hc hx hu2 e];rfl,hm.1,hm.2⟩
end
theorem zpY {p:Prop} (h:p:=by first|exact apx_f ‹_›|exact apx_l1 hks hli ‹_› ‹_›|exact apx_l2 hn ‹_› ‹_›|exact apx_d ‹_› (noLim hks hli hn ‹_› ‹_›) ‹_› ‹_› ‹_›|exact apx_0 ‹_› (noLim hks hli hn ‹_› ‹_›) ‹_› ‹_› ‹_› (nxt_eq hli hn)):p:=h
theorem zeY {p:Prop} (h:p:=by first|assumption|rfl|exact KaI.zero t c|exact kaJ_0 ‹_›|exact zvq ‹_› hm hli|omega):p:=h
theorem zsr {p:Prop} (h:p:=by first|exact hI.del hks.v hks.asc hx ‹_›|exact hI.keep hks.v hks.asc hx ‹_› (.inl (upd_hd ‹_›))|exact hI.keep2 hks.v hks.asc hx ‹_› ‹_› ‹_› ‹_›|exact hI.upd2 hks.v hx ‹_› ‹_› ‹_› ‹_›):p:=h
theorem zpZ {p:Prop} (h:p:=by first|assumption|exact hup.1|exact hup.2|exact hI.nwS hks ‹_›|exact zBe ‹_›|omega):p:=h
theorem upd_hd {up:List Pr} (h:decide ((0:Int) < (((up.map Pr.cells).length:Nat):Int))=false):up=[]:=by
 cases up with
 | nil=>rfl
 | cons a r=>simp at h
theorem zBe {up:List Pr} (h:decide ((0:Int) < (((up.map Pr.cells).length:Nat):Int))=true):0 < up.length:=by simpa using h
theorem bif_t {d b r:Bool} (h:d=true) (h2:(bif d then b else false)=r):b=r:=by rw [h] at h2;exact h2
theorem KaI.upd2 {t:Tb} {c:Ch} {i:Nat} {up:List Pr} {rs:List Rw} {x:Rw} (hI:KaI t c i up rs) (hc:ChV t c) (hx:t.rows[i]?=some x) (hd:anyI c.del x.id=false) {p:Pr} (h1:up[0]?=some p) (h0:decide ((0:Int) < (((up.map Pr.cells).length:Nat):Int))=true) (h2:(bif decide ((0:Int) < (((up.map Pr.cells).length:Nat):Int)) then p.id==x.id else false)=true):KaI t c (i+1) (List.drop 1 (List.take (up.map Pr.cells).length up)) (rs++[⟨x.id,p.nw⟩]):=by
 rw [yG,yL];exact hI.upd hc hx hd h1 (bif_t h0 h2)
theorem KaI.keep2 {t:Tb} {c:Ch} {i:Nat} {up:List Pr} {rs:List Rw} {x:Rw} (hI:KaI t c i up rs) (hc:ChV t c) (ha:t.rows.Pairwise fun a b=>a.id < b.id) (hx:t.rows[i]?=some x) (hd:anyI c.del x.id=false) {p:Pr} (h1:up[0]?=some p) (h0:decide ((0:Int) < (((up.map Pr.cells).length:Nat):Int))=true) (h2:(bif decide ((0:Int) < (((up.map Pr.cells).length:Nat):Int)) then p.id==x.id else false)=false):KaI t c (i+1) up (rs++[⟨x.id,x.vals⟩]):=hI.keep hc ha hx hd (.inr ⟨_,h1,bif_t h0 h2⟩)
structure KaS (t:Tb) (c:Ch):Prop where
 v:ChV t c
 asc:t.rows.Pairwise fun a b=>a.id < b.id
 lr:t.rows.length<=100000
 vs:∀ r∈t.rows,zac r.vals
 nw:∀ p∈c.upd,zac p.nw
theorem KaI.sh {t:Tb} {c:Ch} {i:Nat} {up:List Pr} {rs:List Rw} (hI:KaI t c i up rs) (hs:KaS t c):zac up/\zac c.del:=by
 have h1:=hs.v.lu
 have h2:=hs.v.ld
 have h3:up.length<=c.upd.length:=by rw [hI.up];exact yAm _ _
 exact ⟨by simp only [zac];omega,by simp only [zac];omega⟩
theorem KaI.nwS {t:Tb} {c:Ch} {i:Nat} {up:List Pr} {rs:List Rw} (hI:KaI t c i up rs) (hs:KaS t c) {p:Pr} (h:up[0]?=some p):zac p.nw:=hs.nw p (zox (by rw [← hI.up];exact yC h))
noncomputable def L_kaV (t:Tb) (c:Ch) (nx:Int) (i:Nat) (up:List Pr) (rs:List Rw):Cfg:=zai B.AV 0 [(2,.p 0 0),(3,.p 1 0),(4,.p 2 0),(7,.p 3 0),(8,.sl (up.map Pr.cells)),(66,.sl (t.rows.map Rw.cells)),(67,iv ((t.rows.map Rw.cells).length:Nat)),(68,iv (i:Nat))] [.box t.cells,.box c.cells,.box [sv ⟨#[]⟩,.nl,iv 0,.nl],.box [sv t.sch.name,.own 4 t.sch.cols.length,iv nx,.own 5 rs.length],.row Ty.Column (t.sch.cols.map Col.cells) false,.row Ty.Row (rs.map Rw.cells) false]
theorem zj0 (t:Tb) (c:Ch) (nx:Int) (hks:KaS t c) (i:Nat) (up:List Pr) (rs:List Rw) (hi:i<=(t.rows).length) (hI:KaI t c i up rs):∃ (up':List Pr) (rs':List Rw),(KaI t c (t.rows).length up' rs')/\(decide ((((t.rows).length:Nat):Int) < (((t.rows.map Rw.cells).length:Nat):Int))=false)/\∀ R,Good E0 B.AV [] (L_kaV t c nx (t.rows).length up' rs') R->Good E0 B.AV [] (L_kaV t c nx i up rs) R:=by
 have hk:=hi;revert i up rs;refine zlp ((t.rows).length) (fun i hlt ih up rs hi hI _=>?_)
 obtain ⟨x,hx,h0,hw⟩:=zlq (l:=t.rows) ((t.rows.map Rw.cells).length) hlt (by (have:=hks.lr;omega))
 have hvx:=hks.vs x (yC hx);have hup:=hI.sh hks;have hol:rs.length<=1000000000:=(by have:=hI.len;have:=hks.lr;omega)
 let p_1:List St:=[sb h0,se (zaf Rw.cells hx rfl),sc (zcL c.del x.id zpZ)]
 cases h1:anyI c.del x.id
 ·cases h2:decide (0 < (↑(List.map Pr.cells up).length:Int))
  ·obtain ⟨upZ,rsZ,qZ,xZ,gZ⟩:=ih up (rs++[x]) Zo zsr Zo;exact ⟨upZ,rsZ,qZ,xZ,fun R hg=>zaa (wkl (p_1++[sb h1,sd [(4,[sb h2]),(5,[sb h2]),(6,[sb h2]),(7,[sb h2]),(8,[sb h2]),(9,[sb h2]),(10,[sb h2]),(11,[sb h2])],sd [(5,[sc (zaC x.vals zpZ)]),(7,[sqx (True/\x.vals.length=(List.map V.cells x.vals).length/\True)]),(8,[sqA (List.map Rw.cells rs) [[iv x.id,vsl x.vals]] rs.length 2 32])],si hw]) [2,3,4,7,8,66,67,68] 6 kr (zas rfl (show ([Blk.box [sv t.sch.name,ZC t.sch.cols,iv t.next,ZW t.rows],Blk.box [AV.sl (List.map vrow c.ins),AV.sl (List.map (fun n=>[iv n]) c.del),AV.sl (List.map Pr.cells c.upd)],Blk.box [sv Zs0,AV.nl,iv 0,AV.nl],Blk.box [sv t.sch.name,AV.own 4 t.sch.cols.length,iv nx,AV.own 5 (List.map Rw.cells rs++[[iv x.id,vsl x.vals]]).length],Blk.row Ty.Column (List.map Col.cells t.sch.cols) false,Blk.row Ty.Row (List.map Rw.cells rs++[[iv x.id,vsl x.vals]]) false]:Heap)=_ by first|rfl|(simp [Rw.cells,Tb.cells,Ch.cells,Pr.cells,zbd,yAP];done)) (gZ R hg)))⟩
  ·obtain ⟨x3,e3⟩:=zbc (l:=up) (i:=0) zpZ
   let p_2:List St:=p_1++[sb h1,sd [(4,[sg h2]),(5,[so h2 (se (zaf Pr.cells e3 rfl))]),(6,[sg h2]),(7,[sg h2]),(8,[sg h2]),(9,[sg h2]),(10,[sg h2])]]
   cases h4:bif decide (0 < (↑(List.map Pr.cells up).length:Int)) then x3.id==x.id else false
   ·obtain ⟨upZ,rsZ,qZ,xZ,gZ⟩:=ih up (rs++[x]) Zo zsr Zo;exact ⟨upZ,rsZ,qZ,xZ,fun R hg=>zaa (wkl (p_2++[sb h4,sd [(5,[sc (zaC x.vals zpZ)]),(7,[sqx (True/\x.vals.length=(List.map V.cells x.vals).length/\True)]),(8,[sqA (List.map Rw.cells rs) [[iv x.id,vsl x.vals]] rs.length 2 32])],si hw]) [2,3,4,7,8,66,67,68] 6 kr (zas rfl (show ([Blk.box [sv t.sch.name,ZC t.sch.cols,iv t.next,ZW t.rows],Blk.box [AV.sl (List.map vrow c.ins),AV.sl (List.map (fun n=>[iv n]) c.del),AV.sl (List.map Pr.cells c.upd)],Blk.box [sv Zs0,AV.nl,iv 0,AV.nl],Blk.box [sv t.sch.name,AV.own 4 t.sch.cols.length,iv nx,AV.own 5 (List.map Rw.cells rs++[[iv x.id,vsl x.vals]]).length],Blk.row Ty.Column (List.map Col.cells t.sch.cols) false,Blk.row Ty.Row (List.map Rw.cells rs++[[iv x.id,vsl x.vals]]) false]:Heap)=_ by first|rfl|(simp [Rw.cells,Tb.cells,Ch.cells,Pr.cells,zbd,yAP];done)) (gZ R hg)))⟩
   ·obtain ⟨upZ,rsZ,qZ,xZ,gZ⟩:=ih (List.drop 1 (List.take (List.map Pr.cells up).length up)) (rs++[Rw.mk x.id x3.nw]) Zo zsr Zo;exact ⟨upZ,rsZ,qZ,xZ,fun R hg=>zaa (wkl (p_2++[sb h4,sd [(1,[se (zaf Pr.cells e3 rfl)]),(5,[sqx (SubAt (List.map Pr.cells up) 1 (↑(List.map Pr.cells up).length:Int) 3)])],sd [(5,[sc (zaC x3.nw zpZ)]),(7,[sqx (True/\x3.nw.length=(List.map V.cells x3.nw).length/\True)]),(8,[sqA (List.map Rw.cells rs) [[iv x.id,vsl x3.nw]] rs.length 2 32])],si hw]) [2,3,4,7,8,66,67,68] 6 kr (zas (show ([(2,AV.p 0 0),(3,AV.p 1 0),(4,AV.p 2 0),(7,AV.p 3 0),(8,AV.sl (List.drop (Int.toNat 1) (List.take (↑(List.map Pr.cells up).length:Int).toNat (List.map Pr.cells up)))),(66,ZW t.rows),(67,iv (↑(List.map Rw.cells t.rows).length:Int)),(68,iv (↑(i+1):Int))]:TS)=_ by first|rfl|(simp [Rw.cells,Tb.cells,Ch.cells,Pr.cells,zbd,yAP];done)) (show ([Blk.box [sv t.sch.name,ZC t.sch.cols,iv t.next,ZW t.rows],Blk.box [AV.sl (List.map vrow c.ins),AV.sl (List.map (fun n=>[iv n]) c.del),AV.sl (List.map Pr.cells c.upd)],Blk.box [sv Zs0,AV.nl,iv 0,AV.nl],Blk.box [sv t.sch.name,AV.own 4 t.sch.cols.length,iv nx,AV.own 5 (List.map Rw.cells rs++[[iv x.id,vsl x3.nw]]).length],Blk.row Ty.Column (List.map Col.cells t.sch.cols) false,Blk.row Ty.Row (List.map Rw.cells rs++[[iv x.id,vsl x3.nw]]) false]:Heap)=_ by first|rfl|(simp [Rw.cells,Tb.cells,Ch.cells,Pr.cells,zbd,yAP];done)) (gZ R hg)))⟩
 ·obtain ⟨upZ,rsZ,qZ,xZ,gZ⟩:=ih up rs Zo zsr Zo;exact ⟨upZ,rsZ,qZ,xZ,fun R hg=>zaa (wkl (p_1++[sb h1,si hw]) [2,3,4,7,8,66,67,68] 6 kr (gZ R hg))⟩
def zft (t:Tb) (c:Ch):Prop:=100 < (t.rows.length:Int) - (c.del.length:Int)+(c.ins.length:Int)\/2147483648 - t.next < (c.ins.length:Int)
structure ApX (t:Tb) (c:Ch) (x:Tb) (g:Int):Prop where
 fit:zbH t.sch c≠0->g=zbH t.sch c
 lim:zbH t.sch c=0->zft t c->g=10
 dup:zbH t.sch c=0->¬ zft t c->¬ (zc6 t c).Nodup->g=9
 ok:zbH t.sch c=0->¬ zft t c->(zc6 t c).Nodup->g=0/\x=apT t c
def KaJ (t:Tb) (c:Ch) (i:Nat) (rs:List Rw):Prop:=rs=midR c t.rows++insN t.next (c.ins.take i)
theorem kaJ_0 {t:Tb} {c:Ch} {up:List Pr} {rs:List Rw} (h:KaI t c t.rows.length up rs):KaJ t c 0 rs:=by
 have h1:=h.rs
 rw [yL] at h1
 unfold KaJ;rw [h1];simp [insN]
theorem zvq {t:Tb} {c:Ch} {rs:List Rw} {i:Nat} (h:KaJ t c i rs) (hm:(midR c t.rows).length<=100000) (hl:c.ins.length<=100000):zac rs:=by
 unfold KaJ at h
 rw [h];simp only [zac];rw [yAO,zim,yV];omega
theorem ztn {t:Tb} {c:Ch} {i:Nat} {rs:List Rw} {x:List V} {z:Int} (hI:KaJ t c i rs) (hx:c.ins[i]?=some x) (hz:z=t.next+(i:Int)):KaJ t c (i+1) (rs++[⟨z,x⟩]):=by
 unfold KaJ at *
 have hl:(c.ins.take i).length=i:=by have:=(yB.1 hx).1;simp;omega
 rw [hI,yP,hx,yAV,hz]
 simp only [Option.toList_some]
 rw [zom,hl]
noncomputable def L_kaJ (t:Tb) (c:Ch) (nx:Int) (i:Nat) (rs:List Rw):Cfg:=zai B.AV 1 [(2,.p 0 0),(4,.p 2 0),(7,.p 3 0),(109,.sl (c.ins.map vrow)),(110,iv ((c.ins.map vrow).length:Nat)),(111,iv (i:Nat))] [.box t.cells,.box c.cells,.box [sv ⟨#[]⟩,.nl,iv 0,.nl],.box [sv t.sch.name,.own 4 t.sch.cols.length,iv nx,.own 5 rs.length],.row Ty.Column (t.sch.cols.map Col.cells) false,.row Ty.Row (rs.map Rw.cells) false]
theorem zjZ (t:Tb) (c:Ch) (nx:Int) (hl:c.ins.length<=100000) (hn:1<=t.next/\t.next<=2147483648) (hvi:∀ r∈c.ins,zac r) (hm:(midR c t.rows).length<=100000) (i:Nat) (rs:List Rw) (hi:i<=(c.ins).length) (hI:KaJ t c i rs):∃ (rs':List Rw),(KaJ t c (c.ins).length rs')/\(decide ((((c.ins).length:Nat):Int) < (((c.ins.map vrow).length:Nat):Int))=false)/\∀ R,Good E0 B.AV [] (L_kaJ t c nx (c.ins).length rs') R->Good E0 B.AV [] (L_kaJ t c nx i rs) R:=by
 have hk:=hi;revert i rs;refine zlp ((c.ins).length) (fun i hlt ih rs hi hI _=>?_)
 obtain ⟨x,hx,h0,hw⟩:=zlq (l:=c.ins) ((c.ins.map vrow).length) hlt Zo
 have hvx:=hvi x (yC hx);have hil:=zb1 hx;have hw1:IntKind.i64.wrap (t.next+((i:Nat):Int))=t.next+((i:Nat):Int):=(by rw [IntKind.wrap_i64];omega)
 have hol:rs.length<=1000000000:=(by have:=zvq hI hm hl;exact this)
 exact Zih (ih (rs++[Rw.mk (t.next+(i:Int)) x]) Zo (by first|exact ztn hI hx rfl|exact ztn hI hx hw1) Zo) fun R gY=>zaa (wkl [sb h0,se (zaf vrow hx rfl),sd [(5,[si hw1]),(7,[sc (zaC x (by first|assumption|omega|(simp;done)|(simp;omega)))]),(9,[sqx (True/\x.length=(List.map V.cells x).length/\True)]),(10,[sqA (List.map Rw.cells rs) [[iv (t.next+(i:Int)),vsl x]] rs.length 2 32])],si hw] [2,4,7,109,110,111] 6 kr (zas rfl (show ([Blk.box [sv t.sch.name,ZC t.sch.cols,iv t.next,ZW t.rows],Blk.box [AV.sl (List.map vrow c.ins),AV.sl (List.map (fun n=>[iv n]) c.del),AV.sl (List.map Pr.cells c.upd)],Blk.box [sv Zs0,AV.nl,iv 0,AV.nl],Blk.box [sv t.sch.name,AV.own 4 t.sch.cols.length,iv nx,AV.own 5 (List.map Rw.cells rs++[[iv (t.next+(i:Int)),vsl x]]).length],Blk.row Ty.Column (List.map Col.cells t.sch.cols) false,Blk.row Ty.Row (List.map Rw.cells rs++[[iv (t.next+(i:Int)),vsl x]]) false]:Heap)=_ by first|rfl|(simp [Rw.cells,Tb.cells,Ch.cells,Pr.cells,zbd,yAP];done)) gY))
section
variable {t x : Tb} {c : Ch} {g nx : Int} {rs : List Rw} {b : Bool}
theorem apx_f (h:(zbH t.sch c != 0)=true):ApX t c x (zbH t.sch c):=by
 have h1:zbH t.sch c≠0:=by simpa using h
 exact ⟨fun _=>rfl,fun e=>absurd e h1,fun e=>absurd e h1,fun e=>absurd e h1⟩
theorem zwo (h:(zbH t.sch c != 0)=false):zbH t.sch c=0:=by simpa using h
theorem apx_l (h0:(zbH t.sch c != 0)=false) (hl:zft t c):ApX t c x 10 :=
 ⟨fun e=>absurd (zwo h0) e,fun _ _=>rfl,fun _ e=>absurd hl e,fun _ e=>absurd hl e⟩
theorem lim_1 (hr:t.rows.length<=100000) (hd:c.del.length<=100000) (hi:c.ins.length<=100000):IntKind.i64.wrap (IntKind.i64.wrap (((t.rows.map Rw.cells).length:Int) - ((c.del.map fun n=>[iv n]).length:Int))+((c.ins.map vrow).length:Int))=(t.rows.length:Int) - (c.del.length:Int)+(c.ins.length:Int):=by
 simp only [yG,IntKind.wrap_i64];omega
theorem lim_2 (hn:1<=t.next/\t.next<=2147483648):IntKind.i64.wrap (2147483648 - t.next)=2147483648 - t.next:=by
 rw [IntKind.wrap_i64];omega
theorem apx_d (h0:(zbH t.sch c != 0)=false) (hn:¬ zft t c) (hI:KaJ t c c.ins.length rs) (hb:b=false↔(zaX (idxF (fun z=>z.key) t.sch.cols 0) rs).Nodup) (h:b=true):ApX t c x 9:=by
 unfold KaJ at hI
 rw [yL] at hI
 have h3:¬ (zc6 t c).Nodup:=fun e=>by
  unfold zc6 at e;rw [← hI] at e
  have:=hb.2 e
  rw [h] at this;cases this
 exact ⟨fun e=>absurd (zwo h0) e,fun _ e=>absurd e hn,fun _ _ _=>rfl,fun _ _ e=>absurd e h3⟩
theorem apx_0 (h0:(zbH t.sch c != 0)=false) (hn:¬ zft t c) (hI:KaJ t c c.ins.length rs) (hb:b=false↔(zaX (idxF (fun z=>z.key) t.sch.cols 0) rs).Nodup) (h:b=false) (hx:nx=t.next+(c.ins.length:Int)):ApX t c ⟨t.sch,nx,rs⟩ 0:=by
 unfold KaJ at hI
 rw [yL] at hI
 have h3:(zc6 t c).Nodup:=by unfold zc6;rw [← hI];exact hb.1 h
 exact ⟨fun e=>absurd (zwo h0) e,fun _ e=>absurd e hn,fun _ _ e=>absurd h3 e,fun _ _ _=>⟨rfl,by unfold apT;rw [hx,hI]⟩⟩
theorem apx_l1 (hks:KaS t c) (hi:c.ins.length<=100000) (h0:(zbH t.sch c != 0)=false) (h:decide ((100:Int) < IntKind.i64.wrap (IntKind.i64.wrap (((t.rows.map Rw.cells).length:Int) - ((c.del.map fun n=>[iv n]).length:Int))+((c.ins.map vrow).length:Int)))=true):ApX t c x 10:=by
 refine apx_l h0 (.inl ?_)
 rw [lim_1 hks.lr hks.v.ld hi] at h;simpa using h
theorem apx_l2 (hn:1<=t.next/\t.next<=2147483648) (h0:(zbH t.sch c != 0)=false) (h:decide (IntKind.i64.wrap (2147483648 - t.next) < ((c.ins.map vrow).length:Int))=true):ApX t c x 10:=by
 refine apx_l h0 (.inr ?_)
 rw [lim_2 hn,yG] at h;simpa using h
theorem noLim (hks:KaS t c) (hi:c.ins.length<=100000) (hn:1<=t.next/\t.next<=2147483648) (h:decide ((100:Int) < IntKind.i64.wrap (IntKind.i64.wrap (((t.rows.map Rw.cells).length:Int) - ((c.del.map fun n=>[iv n]).length:Int))+((c.ins.map vrow).length:Int)))=false) (h2:decide (IntKind.i64.wrap (2147483648 - t.next) < ((c.ins.map vrow).length:Int))=false):¬ zft t c:=by
 rw [lim_1 hks.lr hks.v.ld hi,decide_eq_false_iff_not] at h
 rw [lim_2 hn,yG,decide_eq_false_iff_not] at h2
 unfold zft;omega
theorem nxt_eq (hi:c.ins.length<=100000) (hn:1<=t.next/\t.next<=2147483648):IntKind.i64.wrap (t.next+((c.ins.map vrow).length:Int))=t.next+(c.ins.length:Int):=by
 rw [yG,IntKind.wrap_i64];omega
end
theorem zrq (t:Tb) (c:Ch) (hks:KaS t c) (hv:zab E0 S.CG [t.av,c.av] [] (bv true) []) (hf:zab E0 S.BB [t.av,c.av] [] (iv (zbH t.sch c)) []) (hli:c.ins.length<=100000) (hvi:∀ r∈c.ins,zac r) (hsc:zac t.sch.cols) (hn:1<=t.next/\t.next<=2147483648) (hm:(midR c t.rows).length<=100000):∃ (x:Tb) (g:Int),ApX t c x g/\zab E0 S.AV [t.av,c.av] [] (.tup [x.av,iv g]) []:=by
 let p_1:List St:=[sc hv,sb Zf,sc hf]
 cases h1:zbH t.sch c != 0
 ·let p_2:List St:=p_1++[sb h1,si (e:=IntKind.i64.wrap ((↑(List.map Rw.cells t.rows).length:Int) - (↑(List.map (fun n=>[iv n]) c.del).length:Int))) rfl,si (e:=IntKind.i64.wrap (IntKind.i64.wrap ((↑(List.map Rw.cells t.rows).length:Int) - (↑(List.map (fun n=>[iv n]) c.del).length:Int))+(↑(List.map vrow c.ins).length:Int))) rfl]
  cases h2:decide (100 < IntKind.i64.wrap (IntKind.i64.wrap ((↑(List.map Rw.cells t.rows).length:Int) - (↑(List.map (fun n=>[iv n]) c.del).length:Int))+(↑(List.map vrow c.ins).length:Int)))
  ·let p_3:List St:=p_2++[sg h2,si (e:=IntKind.i64.wrap (2147483648 - t.next)) rfl]
   cases h3:decide (IntKind.i64.wrap (2147483648 - t.next) < (↑(List.map vrow c.ins).length:Int))
   ·obtain ⟨up4,rs4,q4,q4_1,g4⟩:=zj0 t c (IntKind.i64.wrap (t.next+(↑(List.map vrow c.ins).length:Int))) zeY 0 c.upd ([]) zeY zeY
    obtain ⟨rs5,q5,q5_1,g5⟩:=zjZ t c (IntKind.i64.wrap (t.next+(↑(List.map vrow c.ins).length:Int))) zeY zeY zeY zeY 0 rs4 zeY zeY
    obtain ⟨b6,q6,c6⟩:=(zhB (Tb.mk t.sch (IntKind.i64.wrap (t.next+(↑(List.map vrow c.ins).length:Int))) rs5) zeY zeY)
    let p_4:List St:=p_3++[sb h3,si (e:=IntKind.i64.wrap (t.next+(↑(List.map vrow c.ins).length:Int))) rfl,sc (za1 t.sch.cols zeY)]
    rcases (yD b6).symm with h7|h7
    ·exact ⟨Tb.mk t.sch (IntKind.i64.wrap (t.next+(↑(List.map vrow c.ins).length:Int))) rs5,0,zpY,wkcN At.AV p_4 [2,3,4,7,8,66,67,68] 5 [(.ob 3 3 Ty.Row,6)] kr (g4 _ (zaa (wkl [sb q4_1] [2,4,7,109,110,111] 6 kr (g5 _ (zaa (wkr [sqx ((True/\t.sch.cols.length=(List.map Col.cells t.sch.cols).length/\True/\rs5.length=(List.map Rw.cells rs5).length/\True)/\True/\True),sb q5_1,skx ((True/\t.sch.cols.length=(List.map Col.cells t.sch.cols).length/\True/\rs5.length=(List.map Rw.cells rs5).length/\True)/\True) [] c6,sb h7] kr))))))⟩
    ·exact ⟨Tb.mk (Sch.mk Zs0 []) 0 [],9,zpY,wkcN At.AV p_4 [2,3,4,7,8,66,67,68] 5 [(.ob 3 3 Ty.Row,6)] kr (g4 _ (zaa (wkl [sb q4_1] [2,4,7,109,110,111] 6 kr (g5 _ (zaa (wkr [sb q5_1,skx ((True/\t.sch.cols.length=(List.map Col.cells t.sch.cols).length/\True/\rs5.length=(List.map Rw.cells rs5).length/\True)/\True) [] c6,sb h7] kr))))))⟩
   ·exact ⟨Tb.mk (Sch.mk Zs0 []) 0 [],10,zpY,wk At.AV (p_3++[sb h3]) kr⟩
  ·exact ⟨Tb.mk (Sch.mk Zs0 []) 0 [],10,zpY,wk At.AV (p_2++[sb h2]) kr⟩
 ·exact ⟨Tb.mk (Sch.mk Zs0 []) 0 [],zbH t.sch c,zpY,wk At.AV (p_1++[sb h1]) kr⟩
end Go.AM
namespace Go.AM
open Go.WideShapes
theorem zxg {h:Heap} {b b':Nat} {cs:List AV} (hb:h[b]?=some (.box cs)):(zeQ h b')[b]?=some (.box cs):=by
 unfold zeQ
 split
 ·rename_i e xs sh h1
  have hne:b'≠b:=fun e=>by subst e;rw [hb] at h1;cases h1
  rw [yZ hne];exact hb
 ·exact hb
theorem zra {b:Nat} {cs:List AV}:∀ (l:List Nat) {h:Heap},h[b]?=some (.box cs)->(share h l)[b]?=some (.box cs)
 | [],_,hb=>hb
 | x::r,h,hb=>by
  show (share (zeQ h x) r)[b]?=_
  exact zra r (zxg hb)
theorem zqr {E:Env0} {fn:Func} {h0:Heap} {c c':Cfg} {R:AV->Heap->Prop} (b i:Nat) {v:AV} {q:Prop} (live:List Nat) (m:Nat) {cs:List AV} (hb:c.h[b]?=some (.box cs)) (hi:cs[i]?=some v) (hq:frzO c.h v=q) (ho:q) (hm:Nat.ble h0.length m=true)
  (he:cut live m ⟨c.n,c.todo,c.ts,(share c.h (frzM v)).set b (.box (cs.set i (frz c.h v)))⟩=c') (hg:Good E fn h0 c' R):Good E fn h0 c R:=by
 have hg':=zdE live m (yI hm) (he ▸ hg)
 intro β0 S0 w0 β S w tmps hb0 hn x0 r rt
 obtain ⟨g,vs,t,h2,h3,h4,h5⟩:=r.box b cs hb
 have hil:i < vs.length:=by rw [← h4];exact (yB.1 hi).1
 have hv:=h5 i v vs[i] hi (by simp [hil])
 obtain ⟨S',⟨x1,r1⟩,d1⟩:=zo4 E v c.h β S w _ r hv.1 (by rw [hq];exact ho)
 have hb1:=zra (frzM v) hb
 have x2:=zfw (β:=β) (S:=S') (w:=w) hb1 (cs.set i (frz c.h v))
 have r2:=r1.setBox hb1 (cs.set i (frz c.h v)) (fun g' vs' t' e2 e3 e4 e5=>by
  refine ⟨by simpa using e4,fun j x y hx hy=>?_⟩
  by_cases hij:i=j
  ·subst hij
   rw [yAI (yB.1 hi).1] at hx
   cases hx
   have:=e5 i v y hi hy
   refine ⟨?_,this.2⟩
   rw [h2] at e2
   cases e2
   rw [h3] at e3
   have hvs:vs=vs':=by
    have e6:vs.toArray=vs'.toArray:=by injection e3 with e3;injection e3
    simpa using congrArg Array.toList e6
   subst hvs
   have:y=vs[i]:=by
    rw [yE hil] at hy
    cases hy
    rfl
   rw [this]
   exact .d _ _ d1
  ·rw [yZ hij] at hx
   exact e5 j x y hx hy)
 exact hg' β0 S0 w0 β S' w tmps hb0 hn ((x0.trans x1).trans x2) r2 fun t'=>((rt t').ext x1).ext x2
end Go.AM
namespace Go.AM
theorem zss {p:Prop} (h:p:=by first|assumption|omega|(simp;done)|(simp;omega)):p:=h
abbrev BRow (m:List Tb) (trig:List (List AV)) (s:Sch) (old nw g:List V):Prop:=zab E0 S.A0 [.sl trig,.sl [],s.av,vsl old,vsl nw,tsl m,.sl []] [] (.tup [vsl g,.sl [],.sl [],iv 0]) []
theorem zxV (m:List Tb) (trig:List (List AV)) (s:Sch) (old nw g:List V) (hR:zab E0 S.A0 [.sl trig,.sl [],s.av,vsl old,vsl nw,tsl m,.sl []] [] (.tup [vsl g,.sl [],.sl [],iv 0]) []):∃ (r:List V) (e:Int),(r=g/\e=0)/\zab E0 S.Bd [.p 0 0,vsl old,vsl nw] [.box (runB m trig s (.sl []) (.own 1 0)),.row Ty.int [] false] (.tup [vsl r,iv e]) [.box (runB m trig s (.sl []) (.own 1 0)),.row Ty.int [] false]:=by
 exact ⟨g,0,Zj,wk At.Bd [sd [(22,[sc hR])],sb Zf,sqx (AllLen [] 1/\0=0/\Nat.le 0 140737488355328)] kr⟩
theorem zjS (m:List Tb) (trig:List (List AV)) (s:Sch) (old nw g:List V) (hR:BRow m trig s old nw g):zab E0 S.Bd [.p 0 0,vsl old,vsl nw] [.box (runB m trig s (.sl []) (.own 1 0)),.row Ty.int [] false] (.tup [vsl g,iv 0]) [.box (runB m trig s (.sl []) (.own 1 0)),.row Ty.int [] false]:=by
 obtain ⟨r,e,⟨rfl,rfl⟩,h⟩:=zxV m trig s old nw g hR
 exact h
abbrev rdH0 (m:List Tb) (trig:List (List AV)) (s:Sch) (del:List Int):Heap:=[.box (runB m trig s (.own 1 0) .nl),.row Ty.int [] false,.box [.sl [],isl del,.sl []]]
abbrev rdH1 (m:List Tb) (trig:List (List AV)) (s:Sch) (t:Tb) (del:List Int):Heap:=[.box (runB m trig s (.sl []) (.own 4 0)),.row Ty.int [] true,.box [.sl [],isl del,.sl []],.box t.cells,.row Ty.int [] false]
noncomputable def zrZ (m:List Tb) (trig:List (List AV)) (s:Sch) (t:Tb) (del:List Int) (i:Nat) :Cfg:=zai B.Ag 0 [(0,.p 0 0),(1,.p 2 0),(20,.sl (t.rows.map Rw.cells)),(21,iv ((t.rows.map Rw.cells).length:Nat)),(22,iv (i:Nat))] (rdH1 m trig s t del)
theorem zfX (m:List Tb) (trig:List (List AV)) (s:Sch) (t:Tb) (del:List Int) (hr:zac t.rows) (hd:zac del) (hR:∀ r∈t.rows,BRow m trig s r.vals [] []) (i:Nat)  (hi:i<=(t.rows).length) (hI:True):(True)/\(decide ((((t.rows).length:Nat):Int) < (((t.rows.map Rw.cells).length:Nat):Int))=false)/\∀ R,Good E0 B.Ag (rdH0 m trig s del) (zrZ m trig s t del (t.rows).length ) R->Good E0 B.Ag (rdH0 m trig s del) (zrZ m trig s t del i ) R:=by
 have hk:=hi;revert i hI;refine zlp ((t.rows).length) (fun i hlt ih hi hI _=>?_)
 obtain ⟨x,hx,h0,hw⟩:=zlq (l:=t.rows) ((t.rows.map Rw.cells).length) hlt
 have hxR:=hR x (yC hx)
 let p_1:List St:=[sb h0,se (zaf Rw.cells hx rfl),sd [(6,[sc (zcL del x.id zss)])]]
 cases h1:anyI del x.id
 ·obtain ⟨qZ,xZ,gZ⟩:=ih Zo (by first|trivial|assumption|(simp;done)|omega|(simp;omega)|(simp at *;omega)) Zo;exact ⟨qZ,xZ,fun R hg=>zaa (wkl (p_1++[sb h1,si hw]) [0,1,20,21,22] 5 kr (gZ R hg))⟩
 ·obtain ⟨qZ,xZ,gZ⟩:=ih Zo (by first|trivial|assumption|(simp;done)|omega|(simp;omega)|(simp at *;omega)) Zo;exact ⟨qZ,xZ,fun R hg=>zaa (wkl (p_1++[sb h1,sl [0,4] (zjS m trig s x.vals ([]) ([]) hxR),sb Zf,si hw]) [0,1,20,21,22] 5 kr (gZ R hg))⟩
noncomputable def L_rdU (m:List Tb) (trig:List (List AV)) (s:Sch) (t:Tb) (del:List Int) (i:Nat):Cfg:=zai B.Ag 1 [(0,.p 0 0),(1,.p 2 0),(47,.sl []),(48,iv 0),(49,iv (i:Nat))] (rdH1 m trig s t del)
theorem zfY (m:List Tb) (trig:List (List AV)) (s:Sch) (t:Tb) (del:List Int) (i:Nat):True/\∀ R,Good E0 B.Ag (rdH0 m trig s del) (L_rdU m trig s t del i) R->Good E0 B.Ag (rdH0 m trig s del) (L_rdU m trig s t del i) R:=⟨trivial,fun _ h=>h⟩
noncomputable def L_rdI (m:List Tb) (trig:List (List AV)) (s:Sch) (t:Tb) (del:List Int) (i:Nat):Cfg:=zai B.Ag 2 [(0,.p 0 0),(1,.p 2 0),(78,.sl []),(79,iv 0),(80,iv (i:Nat))] (rdH1 m trig s t del)
theorem zfW (m:List Tb) (trig:List (List AV)) (s:Sch) (t:Tb) (del:List Int) (i:Nat):True/\∀ R,Good E0 B.Ag (rdH0 m trig s del) (L_rdI m trig s t del i) R->Good E0 B.Ag (rdH0 m trig s del) (L_rdI m trig s t del i) R:=⟨trivial,fun _ h=>h⟩
noncomputable def L_rd0 (m:List Tb) (trig:List (List AV)) (s:Sch) (t:Tb) (del:List Int):Cfg:=zai B.Ag 0 [(0,.p 0 0),(1,.p 2 0),(20,.sl (t.rows.map Rw.cells)),(21,iv ((t.rows.map Rw.cells).length:Nat)),(22,iv 0)] (rdH0 m trig s del++[.box t.cells])
noncomputable def L_rd1 (m:List Tb) (trig:List (List AV)) (s:Sch) (t:Tb) (del:List Int):Cfg:=zai B.Ag 0 [(0,.p 0 0),(1,.p 2 0),(20,.sl (t.rows.map Rw.cells)),(21,iv ((t.rows.map Rw.cells).length:Nat)),(22,iv 0)] [.box (runB m trig s (.sl []) .nl),.row Ty.int [] true,.box [.sl [],isl del,.sl []],.box t.cells]
theorem zfV (m:List Tb) (trig:List (List AV)) (s:Sch) (t:Tb) (del:List Int) (hr:zac t.rows) (hd:zac del) (hR:∀ r∈t.rows,BRow m trig s r.vals [] []):decide (((t.rows.length:Nat):Int) < (((t.rows.map Rw.cells).length:Nat):Int))=false/\∀ R,Good E0 B.Ag (rdH0 m trig s del) (zrZ m trig s t del t.rows.length) R->Good E0 B.Ag (rdH0 m trig s del) (L_rd0 m trig s t del) R:=by
 obtain ⟨_,h1,h2⟩:=zfX m trig s t del hr hd hR 0 (yAh _) trivial
 refine ⟨h1,fun R h=>?_⟩
 exact zqr (c':=L_rd1 m trig s t del) (q:=(0=([]:List (List AV)).length)) (cs:=runB m trig s (.own 1 0) .nl) 0 5 (v:=.own 1 0) [0,1,20,21,22] 4 kr kr kr rfl kr kr (zkq (c':=zrZ m trig s t del 0) (cs:=runB m trig s (.sl []) .nl) 0 6 Ty.int [0,1,20,21,22] 5 kr kr kr kr (h2 R h))
theorem zww (m:List Tb) (trig:List (List AV)) (s:Sch) (t:Tb) (del:List Int) (hr:zac t.rows) (hd:zac del) (hR:∀ r∈t.rows,BRow m trig s r.vals [] []):∃ (r:Int),r=0/\zab E0 S.Ag [.p 0 0,.p 2 0,t.av] (rdH0 m trig s del) (iv r) (rdH1 m trig s t del):=by
 obtain ⟨q1,g1⟩:=zfV m trig s t del zss zss zss
 obtain ⟨q2,g2⟩:=zfY m trig s t del (0)
 obtain ⟨q3,g3⟩:=zfW m trig s t del (0)
 exact ⟨0,Zr,wkcK At.Ag [] [0,1,20,21,22] 4 kr (g1 _ (zaa (wkl [sb q1] [0,1,47,48,49] 5 kr (g2 _ (zaa (wkl [sb Zf] [0,1,78,79,80] 5 kr (g3 _ (zaa (wkrK [sb Zf] kr)))))))))⟩
theorem zhI (m:List Tb) (trig:List (List AV)) (s:Sch) (t:Tb) (del:List Int) (hr:zac t.rows) (hd:zac del) (hR:∀ r∈t.rows,BRow m trig s r.vals [] []):zab E0 S.Ag [.p 0 0,.p 2 0,t.av] (rdH0 m trig s del) (iv 0) (rdH1 m trig s t del):=by
 obtain ⟨r,rfl,h⟩:=zww m trig s t del hr hd hR
 exact h
abbrev zxt (tr:Rw->Bool) (a:Ac) (s:Sch) (frs:List Fr) (tb:List Tb) (r:Rw):Prop:=zab E0 S.Cy [xsl a.wh,fsl (zbg frs s r.vals),tsl tb] [] (.tup [bv (tr r),iv 0]) []
def delC (tr:Rw->Bool) (l:List Rw):List Int:=(l.filter tr).map Rw.id
theorem zvi {tr:Rw->Bool} {l:List Rw} {i:Nat} {x:Rw} (hx:l[i]?=some x):(l.take (i+1)).filter tr=(l.take i).filter tr++bif tr x then [x] else []:=by
 rw [yP,hx,List.filter_append]
 cases h:tr x <;> simp [h]
theorem zx3 {tr:Rw->Bool} {l:List Rw} {i:Nat} {x:Rw} {del:List Int} (hI:del.length<=i/\del=delC tr (l.take i)) (hx:l[i]?=some x) (h:tr x=false):del.length<=i+1/\del=delC tr (l.take (i+1)):=by
 unfold delC at *;rw [zvi hx,h];exact ⟨by omega,by simpa using hI.2⟩
theorem zx4 {tr:Rw->Bool} {l:List Rw} {i:Nat} {x:Rw} {del:List Int} (hI:del.length<=i/\del=delC tr (l.take i)) (hx:l[i]?=some x) (h:tr x=true):(del++[x.id]).length<=i+1/\del++[x.id]=delC tr (l.take (i+1)):=by
 unfold delC at *;rw [zvi hx,h,hI.2];refine ⟨?_,by simp⟩
 rw [← hI.2];simp;omega
theorem zkO {p:Prop} (h:p:=by first|assumption|rfl|exact ⟨yAh _,rfl⟩|omega):p:=h
noncomputable def L_cdL (tr:Rw->Bool) (a:Ac) (s:Sch) (frs:List Fr) (tb:List Tb) (t:Tb) (i:Nat) (del:List Int):Cfg:=zai B.AF 0 [(1,fsl frs),(2,tsl tb),(3,.p 0 0),(6,.p 1 0),(8,.p 2 0),(12,.p 3 0),(55,.sl (t.rows.map Rw.cells)),(56,iv ((t.rows.map Rw.cells).length:Nat)),(57,iv (i:Nat))] [.box a.cells,.box [.nl,.nl,.nl],.box s.cells,.box [.nl,.own 4 del.length,.nl],.row Ty.int (del.map zbh) false]
theorem zhp (tr:Rw->Bool) (a:Ac) (s:Sch) (frs:List Fr) (tb:List Tb) (t:Tb) (h3:zac frs) (hk3:(a.kind==3)=true) (hl:zac t.rows) (ht:∀ r∈t.rows,zxt tr a s frs tb r) (i:Nat) (del:List Int) (hi:i<=(t.rows).length) (hI:del.length<=i/\del=delC tr (t.rows.take i)):∃ (del':List Int),(del'.length<=(t.rows).length/\del'=delC tr (t.rows.take (t.rows).length))/\(decide ((((t.rows).length:Nat):Int) < (((t.rows.map Rw.cells).length:Nat):Int))=false)/\∀ R,Good E0 B.AF [] (L_cdL tr a s frs tb t (t.rows).length del') R->Good E0 B.AF [] (L_cdL tr a s frs tb t i del) R:=by
 have hk:=hi;revert i del;refine zlp ((t.rows).length) (fun i hlt ih del hi hI _=>?_)
 obtain ⟨x,hx,h0,hw⟩:=zlq (l:=t.rows) ((t.rows.map Rw.cells).length) hlt
 have hfx:=ht x (yC hx);have ho:del.length<=1000000000:=(by have:=hI.1;simp only [zac] at hl;omega)
 let p_1:List St:=[sb h0,se (zaf Rw.cells hx rfl),sc (ztj frs s x.vals (by first|assumption|omega|(simp;done)|(simp;omega))),sc hfx,sb Zf]
 cases h1:!tr x
 ·exact Zih (ih (del++[x.id]) Zo (by first|exact zx3 hI hx (by simpa using h1)|exact zx4 hI hx (by simpa using h1)) Zo) fun R gY=>zaa (wkl (p_1++[sb h1,sb hk3,sqA (List.map zbh del) [[iv x.id]] del.length 1 8,si hw]) [1,2,3,6,8,12,55,56,57] 5 kr (zas rfl (show ([Blk.box [iv a.kind,sv a.table,AV.sl (List.map (fun r=>[AV.sl (zad r)]) a.rows),AV.sl (zam a.query),ZE a.sets,AV.sl (zad a.wh),sv a.text],Blk.box [AV.nl,AV.nl,AV.nl],Blk.box s.cells,Blk.box [AV.nl,AV.own 4 (List.map zbh del++[[iv x.id]]).length,AV.nl],Blk.row Ty.int (List.map zbh del++[[iv x.id]]) false]:Heap)=_ from Zcv3) gY))
 ·exact Zih (ih del Zo (by first|exact zx3 hI hx (by simpa using h1)|exact zx4 hI hx (by simpa using h1)) Zo) fun R gY=>zaa (wkl (p_1++[sb h1,si hw]) [1,2,3,6,8,12,55,56,57] 5 kr gY)
theorem zxP (tr:Rw->Bool) (a:Ac) (s:Sch) (frs:List Fr) (tb:List Tb) (hk1:(a.kind==1)=false) (hk3:(a.kind==3)=true) (h2:zac tb) (h3:zac frs) (hv:zab E0 S.C2 [a.av,tsl tb] [] (.tup [s.av,iv 0]) []) (hix:zab E0 S.Al [.sl (tb.map Tb.cells),.fn S.Cn [.p 0 0]] [.box a.cells] (iv (idxF (fun t=>zaT t a.table) tb 0)) [.box a.cells]) (hn:decide (idxF (fun t=>zaT t a.table) tb 0 < 0)=false) (hl:zac (tabC tb a.table).rows) (ht:∀ r∈(tabC tb a.table).rows,zxt tr a s frs tb r):∃ (del:List Int),del=delC tr (tabC tb a.table).rows/\zab E0 S.AF [a.av,fsl frs,tsl tb] [] (.tup [.agg [.sl [],isl del,.sl []],iv 0]) []:=by
 obtain ⟨del1,q1,q1_1,g1⟩:=zhp tr a s frs tb (tabC tb a.table) zkO zkO zkO ht 0 ([]) zkO zkO
 exact ⟨del1,(by (have hq:=And.right ‹_/\_›;rw [yL] at hq;exact hq)),wkcN At.AF [sc hv,sb Zf,sb hk1,sl [0] hix,se (zAA tb a.table zkO)] [1,2,3,6,8,12,55,56,57] 4 [(.ob 3 1 Ty.int,5)] kr (g1 _ (zaa (wkr [sqx ((True/\del1.length=(List.map zbh del1).length/\True/\True)/\True/\True),sb q1_1] kr)))⟩
theorem zhN {p:Prop} (h:p:=by first|assumption|rfl|omega|(simp [zac];done)|decide|simp [Room]):p:=h
theorem zpC {m:List (List AV)} {n:Nat} {x:List AV} {a:Nat} (h:(((n:Nat):Int)==0)=true):m=bif n==0 then m else m.set a x:=by
 have:(n==0)=true:=by simpa using h
 rw [this];rfl
theorem zyJ {m:List (List AV)} {n:Nat} {x:List AV} {a:Nat} (h:(((n:Nat):Int)==0)=false):m.set a x=bif n==0 then m else m.set a x:=by
 have:(n==0)=false:=by rw [beq_eq_false_iff_ne] at *;omega
 rw [this];rfl
theorem zzf (m ex:List Tb) (frs:List Fr) (ac:Ac) (ts:List Tg) (trig:List (List AV)) (t t2:Tb) (a:Nat) (del:List Int) (hx:m[a]?=some t) (hal:a < m.length) (hfd:zab E0 S.CF [tsl m,sv ac.table] [] (iv (a:Nat)) []) (hn:decide (((a:Nat):Int) < 0)=false) (hCo:zab E0 S.Ah [.sl [[tsl m],[tsl ex]]] [] (tsl (m++ex)) []) (hC:zab E0 S.AF [ac.av,fsl frs,tsl (m++ex)] [] (.tup [.agg [.sl [],isl del,.sl []],iv 0]) []) (hms:zac m) (w1:IntKind.i64.wrap (((del.map fun n=>[iv n]).length:Int)+(([]:List (List AV)).length:Int))=((del.length:Nat):Int)) (w2:IntKind.i64.wrap (((del.length:Nat):Int)+(([]:List (List AV)).length:Int))=((del.length:Nat):Int)) (hd:∀ t∈m,zac t.sch.cols/\zac t.rows/\∀ r∈t.rows,zac r.vals) (hAs:zab E0 S.Cv [ac.av] [] (.sl []) []) (hF:zab E0 S.AD [.sl (ts.map Tg.cells),sv ac.table,iv ac.kind,.sl [],bv false] [] (.sl []) []) (hT:zab E0 S.AD [.sl (ts.map Tg.cells),sv ac.table,iv ac.kind,.sl [],bv true] [] (.sl trig) []) (hr:zac t.rows) (hds:zac del) (hR:∀ r∈t.rows,BRow m trig t.sch r.vals [] []) (hA:zab E0 S.AV [t.av,.agg [.sl [],isl del,.sl []]] [] (.tup [t2.av,iv 0]) []):∃ (r:List (List AV)) (n e:Int),(e=0/\n=((del.length:Nat):Int)/\r=bif del.length==0 then m.map Tb.cells else (m.map Tb.cells).set a t2.cells)/\zab E0 S.Bi [tsl m,.sl (ts.map Tg.cells),.sl [],ac.av,fsl frs,tsl ex,.sl []] [] (.tup [.sl r,.sl [],.sl [],iv n,iv e]) []:=by
 cases h1:(del.length:Int)==0
 ·exact ⟨(List.map Tb.cells m).set a [sv t2.sch.name,ZC t2.sch.cols,iv t2.next,ZW t2.rows],(del.length:Int),0,(by first|exact ⟨rfl,rfl,zyJ ‹_›⟩|exact ⟨rfl,(by simpa using h1),zpC ‹_›⟩|exact ⟨rfl,(by have h2:=h1;simp at h2;simp [h2]),zpC ‹_›⟩),(by (try simp only [zsl,xCol,xLit,xBin,xNeg,Ac.cells,Se.cells,Pr.cells,Ch.cells,Rw.cells]);exact wk At.Bi [sqx (m.length=((List.map Tb.cells m).set a [sv t2.sch.name,ZC t2.sch.cols,iv t2.next,ZW t2.rows]).length/\True/\0=0/\True/\True/\True),sc hfd,sc hCo,sb Zf,sc hC,sb Zf,si w1,si w2,sc (zcE m zhN zhN),sb h1,sc hAs,sc hF,sc (zfc m),sb Zf,sd [(11,[se (zaf Tb.cells hx rfl)]),(7,[sc hT]),(15,[sc (za9 ([]) zhN)])],se (zaf Tb.cells hx rfl),sl [4,3,1] (zhI m trig t.sch t del zhN zhN zhN),sb Zf,sdm [(2,[se (zaf Tb.cells hx rfl)]),(5,[sc hA])] 0 [(0,tsl m),(1,ZG ts),(2,AV.sl []),(3,AV.agg [iv ac.kind,sv ac.table,AV.sl (List.map (fun r=>[AV.sl (zad r)]) ac.rows),AV.sl (zam ac.query),ZE ac.sets,AV.sl (zad ac.wh),sv ac.text]),(4,fsl frs),(5,tsl ex),(6,AV.sl []),(10,AV.p 0 0),(14,AV.nl),(15,AV.nl),(16,AV.nl),(17,iv 0),(18,iv 0),(19,iv (a:Int)),(20,tsl (m++ex)),(21,AV.p 1 0),(22,iv 0),(23,iv (del.length:Int)),(24,AV.own 2 m.length),(25,AV.sl []),(26,iv 0),(27,AV.p 4 0),(28,iv 0),(29,AV.p 7 0),(30,tsl m),(31,AV.p 0 1),(32,sv ac.table),(33,iv (a:Int)),(34,tsl m),(35,tsl ex),(36,AV.sl [[tsl m],[tsl ex]]),(37,tsl (m++ex)),(38,iv (a:Int)),(39,AV.bl false),(41,AV.tup [AV.agg [AV.sl [],AV.sl (List.map (fun n=>[iv n]) del),AV.sl []],iv 0]),(42,AV.agg [iv ac.kind,sv ac.table,AV.sl (List.map (fun r=>[AV.sl (zad r)]) ac.rows),AV.sl (zam ac.query),ZE ac.sets,AV.sl (zad ac.wh),sv ac.text]),(43,fsl frs),(44,tsl (m++ex)),(45,AV.tup [AV.agg [AV.sl [],AV.sl (List.map (fun n=>[iv n]) del),AV.sl []],iv 0]),(46,AV.agg [AV.sl [],AV.sl (List.map (fun n=>[iv n]) del),AV.sl []]),(47,iv 0),(48,iv 0),(49,AV.bl false),(51,AV.p 1 1),(52,AV.sl (List.map (fun n=>[iv n]) del)),(53,iv (↑(List.map (fun n=>[iv n]) del).length:Int)),(54,AV.p 1 2),(55,AV.sl []),(56,iv (([]:List (List AV)).length:Int)),(57,iv (del.length:Int)),(58,AV.p 1 0),(59,AV.sl []),(60,iv (([]:List (List AV)).length:Int)),(61,iv (del.length:Int)),(62,tsl m),(63,AV.own 2 m.length),(64,iv (del.length:Int)),(65,AV.bl false),(69,AV.agg [iv ac.kind,sv ac.table,AV.sl (List.map (fun r=>[AV.sl (zad r)]) ac.rows),AV.sl (zam ac.query),ZE ac.sets,AV.sl (zad ac.wh),sv ac.text]),(70,AV.sl []),(71,ZG ts),(72,AV.p 0 1),(73,sv ac.table),(74,AV.p 0 0),(75,iv ac.kind),(76,AV.sl []),(77,AV.sl []),(78,tsl m),(79,iv 0),(80,iv 0),(81,AV.bl false),(83,tsl m),(84,ZG ts),(85,AV.p 0 1),(86,sv ac.table),(87,AV.p 0 0),(88,iv ac.kind),(89,AV.sl []),(90,AV.sl trig),(91,AV.sl []),(92,tsl m),(93,iv (a:Int)),(94,AV.dp [sv t.sch.name,ZC t.sch.cols,iv t.next,ZW t.rows]),(95,AV.dp [sv t.sch.name,ZC t.sch.cols,iv t.next,ZW t.rows]),(96,AV.agg t.sch.cells),(97,AV.sl []),(98,AV.own 3 0),(99,AV.agg [tsl m,AV.sl trig,AV.sl [],sv t.sch.name,ZC t.sch.cols,AV.own 3 0,AV.nl]),(100,AV.p 4 0),(101,AV.p 4 0),(102,tsl m),(103,iv (a:Int)),(104,AV.dp [sv t.sch.name,ZC t.sch.cols,iv t.next,ZW t.rows]),(105,AV.agg [sv t.sch.name,ZC t.sch.cols,iv t.next,ZW t.rows]),(106,iv 0),(107,iv 0),(108,AV.bl false),(110,AV.tup [AV.agg [sv t2.sch.name,ZC t2.sch.cols,iv t2.next,ZW t2.rows],iv 0]),(111,tsl m),(112,iv (a:Int)),(113,AV.dp [sv t.sch.name,ZC t.sch.cols,iv t.next,ZW t.rows]),(114,AV.agg [sv t.sch.name,ZC t.sch.cols,iv t.next,ZW t.rows]),(115,AV.agg [AV.sl [],AV.sl (List.map (fun n=>[iv n]) del),AV.sl []]),(116,AV.tup [AV.agg [sv t2.sch.name,ZC t2.sch.cols,iv t2.next,ZW t2.rows],iv 0]),(117,AV.agg [sv t2.sch.name,ZC t2.sch.cols,iv t2.next,ZW t2.rows]),(118,iv 0)] [Blk.box [iv ac.kind,sv ac.table,AV.sl (List.map (fun r=>[AV.sl (zad r)]) ac.rows),AV.sl (zam ac.query),ZE ac.sets,AV.sl (zad ac.wh),sv ac.text],Blk.box [AV.sl [],AV.sl (List.map (fun n=>[iv n]) del),AV.sl []],Blk.row Ty.Table (List.map Tb.cells m) false,Blk.row Ty.int [] true,Blk.box [tsl m,AV.sl trig,AV.sl [],sv t.sch.name,ZC t.sch.cols,AV.sl [],AV.own 6 0],Blk.box [sv t.sch.name,ZC t.sch.cols,iv t.next,ZW t.rows],Blk.row Ty.int [] false,Blk.box [sv t2.sch.name,ZC t2.sch.cols,iv t2.next,ZW t2.rows]],sb Zf,sqx (OwnAt (List.map Tb.cells m) m.length (a:Int)),sx (.el t.cells) (And.intro (owed (p:=True/\True/\True/\True/\True)) (zcp Tb.cells (n:=m.length) Zs hx)),sd []] kr)⟩
 ·exact ⟨List.map Tb.cells m,0,0,(by first|exact ⟨rfl,rfl,zyJ ‹_›⟩|exact ⟨rfl,(by simpa using h1),zpC ‹_›⟩|exact ⟨rfl,(by have h2:=h1;simp at h2;simp [h2]),zpC ‹_›⟩),wk At.Bi [sqx (m.length=(List.map Tb.cells m).length/\0=0/\True/\True/\True/\True),sc hfd,sc hCo,sb Zf,sc hC,sb Zf,si w1,si w2,sc (zcE m zhN zhN),sb h1,sc (za9 ([]) zhN)] kr⟩
theorem zlz (m ex:List Tb) (frs:List Fr) (ac:Ac) (ts:List Tg) (trig:List (List AV)) (t t2:Tb) (a:Nat) (del:List Int) (hx:m[a]?=some t) (hfd:zab E0 S.CF [tsl m,sv ac.table] [] (iv (a:Nat)) []) (hCo:zab E0 S.Ah [.sl [[tsl m],[tsl ex]]] [] (tsl (m++ex)) []) (hC:zab E0 S.AF [ac.av,fsl frs,tsl (m++ex)] [] (.tup [.agg [.sl [],isl del,.sl []],iv 0]) []) (hms:zac m) (hd:∀ t∈m,zac t.sch.cols/\zac t.rows/\∀ r∈t.rows,zac r.vals) (hAs:zab E0 S.Cv [ac.av] [] (.sl []) []) (hF:zab E0 S.AD [.sl (ts.map Tg.cells),sv ac.table,iv ac.kind,.sl [],bv false] [] (.sl []) []) (hT:zab E0 S.AD [.sl (ts.map Tg.cells),sv ac.table,iv ac.kind,.sl [],bv true] [] (.sl trig) []) (hds:del.length<=100000) (hR:∀ r∈t.rows,BRow m trig t.sch r.vals [] []) (hA:zab E0 S.AV [t.av,.agg [.sl [],isl del,.sl []]] [] (.tup [t2.av,iv 0]) []) :
  zab E0 S.Bi [tsl m,.sl (ts.map Tg.cells),.sl [],ac.av,fsl frs,tsl ex,.sl []] [] (.tup [tsl (bif del.length==0 then m else m.set a t2),.sl [],.sl [],iv (del.length:Nat),iv 0]) []:=by
 have hal:=(yB.1 hx).1
 obtain ⟨r,n,e,⟨rfl,rfl,rfl⟩,h⟩:=zzf m ex frs ac ts trig t t2 a del hx hal hfd Zs hCo hC hms (by rw [yG,IntKind.wrap_i64];simp only [yAS];omega) (by rw [IntKind.wrap_i64];simp only [yAS];omega) hd hAs hF hT (hd t (yC hx)).2.1 (by simp only [zac];omega) hR hA
 cases hb:del.length==0
 ·rw [hb,cond_false,← List.map_set] at h;exact h
 ·rw [hb] at h;exact h
abbrev ShTs (m:List Tb):Prop:=∀ t∈m,zac t.sch.cols/\zac t.rows/\∀ r∈t.rows,zac r.vals
structure FireIn (m:List Tb):Prop where
 sees:SeesIn m
 src:zaw m sUu=(zaW,true)
theorem FireIn.tabs {m:List Tb} (h:FireIn m):∀ x∈m,TabV x:=by
 obtain ⟨t,r,rfl,h1,_⟩:=h.sees.ex;exact h1.tab
theorem FireIn.sh {m:List Tb} (h:FireIn m):ShTs m:=fun x hx=>⟨(h.tabs x hx).sch.short,(h.tabs x hx).shr,(h.tabs x hx).vals⟩
structure NoteOut (m:List Tb) (row:List V) (m2:List Tb):Prop where
 eq:m2=noteT m row
 len:m2.length=m.length
 hd:(hdT m2).rows.length=(hdT m).rows.length+1
 short:zac m2
 sh:ShTs m2
theorem RowU.sh {row:List V} (h:RowU row):zac row:=by
 obtain ⟨a,b,c,rfl,_⟩:=zvy h.ok;simp [zac]
theorem FireIn.pos {m:List Tb} (h:FireIn m):0 < m.length:=h.sees.pos
theorem NoteOut.pos {m m2:List Tb} {row:List V} (h:NoteOut m row m2) (h0:FireIn m):0 < m2.length:=by rw [h.len];exact h0.pos
structure WhenOut (m m2:List Tb) (n:Nat) (m3:List Tb):Prop where
 eq:m3=bif n==2 then m2 else m
 short:zac m3
 sh:ShTs m3
abbrev sIns:Str:=⟨#[73,78,83,69,82,84,69,68]⟩
abbrev zlQ (row:List V):Tb:=⟨⟨sIns,zaW.cols.map colT⟩,1+1,[⟨1,row⟩]⟩
abbrev zgG:Ac:=⟨3,sLog,[],[],[],[],⟨#[]⟩⟩
abbrev vInt (n:Int):V:=⟨1,n,⟨#[]⟩⟩
theorem zqU {n:Int} (h:0<=n/\n<=1000):(vInt n).Good:=zbU (by constructor <;> omega)
/- contracts of the program's keys -/
theorem ziq (t:Tb) (c:Ch) (ht:TabV t) (hc:ChV t c) (hold:∀ p∈c.upd,zac p.old) (hg:∀ p∈c.upd,∀ v∈p.nw,v.Good) (hgi:∀ p∈c.ins,∀ v∈p,v.Good) (hf:zbH t.sch c=0) (hl:¬ zft t c) (hd:(zc6 t c).Nodup) :
  zab E0 S.AV [t.av,c.av] [] (.tup [(apT t c).av,iv 0]) []:=by
 have h1:=hc.ld;have h2:=hc.lu;have h3:=hc.li
 have hsc:=ht.sch.short
 have hnx:=ht.rows.pos
 have hmx:=ht.max
 have hln:=ht.len
 simp only [decide_eq_false_iff_not,yG] at hmx hln
 have hm:(midR c t.rows).length<=100000:=by have:=yAr (midS c) t.rows;unfold midR;omega
 have hnw:∀ p∈c.upd,zac p.nw:=fun p hp=>by have:=(hc.updIn p hp).2.2;simp only [zac] at *;omega
 have hins:∀ r∈c.ins,zac r:=fun p hp=>by have:=hc.ins p hp;simp only [zac] at *;omega
 have hfit:=zqu t c (by simp only [zac];omega) (by simp only [zac];omega) hsc hg hgi
 obtain ⟨x,g,hq,h⟩:=zrq t c ⟨hc,ht.rows.asc,by omega,ht.vals,hnw⟩ (zoo t c ht hc hold) hfit h3 hins hsc ⟨hnx,by omega⟩ hm
 obtain ⟨e1,e2⟩:=hq.ok hf hl hd
 rw [e1,e2] at h;exact h
/- tables -/
theorem zyP {l:List Tb} (hl:l.length<=1000) (h:∀ x∈l,zac x.sch.cols/\x.rows.length<=1000/\∀ r∈x.rows,∀ v∈r.vals,v.Good):TbOk l/\TbG l :=
 ⟨⟨by simp only [zac];omega,fun x hx=>(h x hx).1,fun x hx=>(h x hx).2.1,fun x hx r hr v hv=>((h x hx).2.2 r hr v hv).small⟩,⟨fun x hx=>(h x hx).2.2,fun x hx=>(h x hx).2.1⟩⟩
structure StR (r:List Tb) (row:List V):Prop where
 tab:∀ x∈r,TabV x
 len:r.length<=900
 row:RowU row
structure LogT (T:Tb):Prop where
 sch:T.sch=zaS
 v:TabV T
 rl:T.rows.length<=5
 nx:T.next<=3002
theorem TabV.tb {x:Tb} (h:TabV x):zac x.sch.cols/\x.rows.length<=1000/\∀ r∈x.rows,∀ v∈r.vals,v.Good:=by
 have hln:=h.len
 simp only [decide_eq_false_iff_not,yG] at hln
 exact ⟨h.sch.short,by omega,fun r hr=>zlK (h.rows.fit r hr)⟩
theorem zyI {row:List V} (h:RowU row):∀ v∈row,v.Good:=by
 obtain ⟨a,b,c,rfl,hk,ha,hb,hc⟩:=zvy h.ok
 intro v hv
 simp only [yO,yAE,or_false] at hv
 rcases hv with rfl|rfl|rfl <;> assumption
section
variable {T : Tb} {r : List Tb} {row : List V}
theorem StR.log (h:StR r row) (hT:LogT T):LogIn T r:=by
 have ht:∀ x∈T::r,TabV x:=fun x hx=>by
  simp only [yO] at hx
  rcases hx with rfl|hx
  ·exact hT.v
  ·exact h.tab x hx
 have hl:=h.len
 obtain ⟨h1,h2⟩:=zyP (l:=T::r) Zp fun x hx=>(ht x hx).tb
 exact ⟨hT.sch,ht,h1,h2,by simp;omega⟩
theorem zAH:(zaW.cols.map colT).length=3:=by kernel_rfl
theorem StR.all (h:StR r row) (hT:LogT T):TbOk ((T::r)++[zlQ row])/\TbG ((T::r)++[zlQ row]):=by
 have hl:=h.len
 refine zyP Zp fun x hx=>?_
 simp only [yK,yF] at hx
 rcases hx with hx|rfl
 ·exact ((h.log hT).tab x hx).tb
 ·refine ⟨by simp only [zlQ,zac];rw [zAH];omega,by simp [zlQ],fun y hy=>?_⟩
  simp only [zlQ,yF] at hy
  subst hy;exact zyI h.row
theorem StR.vals (h:StR r row) (hT:LogT T):∀ x∈(T::r)++[zlQ row],∀ y∈x.rows,zac y.vals:=fun x hx y hy=>by
 simp only [yK,yF] at hx
 rcases hx with hx|rfl
 ·exact ((h.log hT).tab x hx).vals y hy
 ·simp only [zlQ,yF] at hy
  subst hy;exact h.row.sh
theorem StR.sh (h:StR r row) (hT:LogT T):ShTs (T::r):=fun x hx=>⟨((h.log hT).tab x hx).sch.short,((h.log hT).tab x hx).shr,((h.log hT).tab x hx).vals⟩
end
theorem zul (nm:Str) :∃ (r:List Str),r=[]/\zab E0 S.Cv [Ac.av ⟨3,nm,[],[],[],[],⟨#[]⟩⟩] [] (ssl r) []:=by
 exact ⟨[],Zr,wk At.Cv [sb Zt] kr⟩
abbrev tab1 (m:List Tb) (w:Str) (c:Ch):List Tb:=m.set (idxF (fun t=>zaT t w) m 0).toNat (apT (tabC m w) c)
def twC (m:List Tb) (a:Ac):Ch × Int:=zsc 6 a [] m
def twD (m:List Tb) (w:Str) (a:Ac):Ch × Int:=zsc 6 a [] (tab1 m w (twC m a).1)
structure TwD (m:List Tb) (w:Str) (e:X):Prop where
 c:Pure S.AF [(acD w e).av,fsl [],tsl m] (.tup [(twC m (acD w e)).1.av,iv (twC m (acD w e)).2])
 a:((twC m (acD w e)).2 != 0)=false->Pure S.Az [(tabC m w).av,(twC m (acD w e)).1.av] (.tup [(apT (tabC m w) (twC m (acD w e)).1).av,iv 0])
 d:((twC m (acD w e)).2 != 0)=false->Pure S.AF [(acD w e).av,fsl [],tsl (tab1 m w (twC m (acD w e)).1)] (.tup [Ch.av ⟨[],[],[]⟩,iv 0])
 l:((twC m (acD w e)).2 != 0)=false->((((apT (tabC m w) (twC m (acD w e)).1).rows.map Rw.cells).length:Int) != IntKind.i64.wrap ((((tabC m w).rows.map Rw.cells).length:Int) - (((twC m (acD w e)).1.del.map zbh).length:Int)))=false
 tab:decide (idxF (fun t=>zaT t w) m 0 < 0)=false
 short:zac m
structure TwU (m:List Tb) (w:Str) (v e:X):Prop where
 c:Pure S.AF [(acU w sN v e).av,fsl [],tsl m] (.tup [(twC m (acU w sN v e)).1.av,iv (twC m (acU w sN v e)).2])
 a:((twC m (acU w sN v e)).2 != 0)=false->Pure S.Az [(tabC m w).av,(twC m (acU w sN v e)).1.av] (.tup [(apT (tabC m w) (twC m (acU w sN v e)).1).av,iv 0])
 d:((twC m (acU w sN v e)).2 != 0)=false->Pure S.AF [(acU w sN v e).av,fsl [],tsl (tab1 m w (twC m (acU w sN v e)).1)] (.tup [(twD m w (acU w sN v e)).1.av,iv (twD m w (acU w sN v e)).2])
 u:((twC m (acU w sN v e)).2 != 0)=false->((twD m w (acU w sN v e)).2==0)=true->∀ p∈(twD m w (acU w sN v e)).1.upd,p.old=p.nw
 lu:((twC m (acU w sN v e)).2 != 0)=false->∀ p∈(twD m w (acU w sN v e)).1.upd,zac p.old
 ul:((twC m (acU w sN v e)).2 != 0)=false->zac (twD m w (acU w sN v e)).1.upd
theorem StoreV.set {n:Int} {m:List Tb} (h:StoreV n m) {i:Nat} {t u:Tb} (hi:m[i]?=some t) (hs:u.sch=t.sch) (hr:RowsV u.sch u.next u.rows) (hx:u.next<=3000) (hl:(u.rows.length:Int)<=n):StoreV n (m.set i u):=by
 have hm:∀ x∈m.set i u,x∈m\/x=u:=fun x hx=>List.mem_or_eq_of_mem_set hx
 refine ⟨?_,fun x hx=>?_,fun x hx=>?_,fun x hx=>?_⟩
 ·rw [List.map_set,hs]
  have:(m.map Tb.sch).set i t.sch=m.map Tb.sch:=by
   obtain ⟨hl,e⟩:=yB.1 hi
   have e2:t.sch=(m.map Tb.sch)[i]'(by simpa using hl):=by simp [e]
   rw [e2];exact List.set_getElem_self _
  rw [this];exact h.schs
 ·rcases hm x hx with h1|rfl
  ·exact h.rows x h1
  ·exact hr
 ·rcases hm x hx with h1|rfl
  ·exact h.next x h1
  ·assumption
 ·rcases hm x hx with h1|rfl
  ·exact h.len x h1
  ·exact hl
theorem RowsV.sub {s:Sch} {next:Int} {l k:List Rw} (h:RowsV s next l) (hk:k.Sublist l):RowsV s next k :=
 ⟨fun r hr=>h.fit r (hk.subset hr),h.asc.sublist hk,fun r hr=>h.ids r (hk.subset hr),fun h0=>(h.keys h0).sublist hk,h.pos⟩
section
variable {T : Tb} {r : List Tb} {row : List V}
theorem zt9 (hs:T.sch=zaS) (l:List Tb):tabC (T::l) sLog=T/\idxF (fun x=>zaT x sLog) (T::l) 0=0/\zaw (T::l) sLog=(zaS,true):=by
 obtain ⟨h1,h2⟩:=zsY (t:=T) (m:=l) hs
 refine ⟨by unfold tabC;rw [h1];rfl,h2,?_⟩
 rw [zfG,h1,← hs]
end
theorem zfO {p:Prop} (h:p:=by first|assumption|omega|(simp;done)|(simp;omega)):p:=h
theorem j_foL (v:V) :∃ (r:Bool),r=true/\zab E0 S.CQ [(xLit v).av] [] (bv r) []:=by
 exact ⟨true,(by first|rfl|(show _=_;kernel_rfl)),wk At.CQ [sb Zt,sg Zf,sb Zf,sb Zt] kr⟩
theorem j_foC (a b:Str) :∃ (r:Bool),r=true/\zab E0 S.CQ [(xCol a b).av] [] (bv r) []:=by
 exact ⟨true,(by first|rfl|(show _=_;kernel_rfl)),wk At.CQ [sb Zf,sb Zt,sg Zf,sb Zf,sb Zt] kr⟩
theorem j_evL (v:V) (frs:List Fr) (tb:List Tb) (hf:zab E0 S.CQ [(xLit v).av] [] (bv true) []):∃ (w:V) (e:Int),(w=v/\e=0)/\zab E0 S.CP [(xLit v).av,fsl frs,tsl tb] [] (.tup [w.av,iv e]) []:=by
 exact ⟨(xLit v).val,0,Zj,wk At.CP [sc hf,sb Zf,sb Zt] kr⟩
theorem j_evC (a b:Str) (f:Fr) (v:V) (r:List V) (tb:List Tb) (hf:zab E0 S.CQ [(xCol a b).av] [] (bv true) []) (hfv:f.vals=v::r) (hr:zab E0 S.CA [fsl [f],sv a,sv b] [] (.tup [iv 0,iv 0,bv true]) []) (hl:decide (((f.vals.map V.cells).length:Int)<=0)=false) (hl0:(0:Int) < (f.vals.length:Int)):∃ (w:V) (e:Int),(w=zak f.vals 0/\e=0)/\zab E0 S.CP [(xCol a b).av,fsl [f],tsl tb] [] (.tup [w.av,iv e]) []:=by
 exact ⟨zak f.vals 0,0,Zj,wk At.CP [sc hf,sb Zf,sb Zf,sb Zt,sc hr,sb Zf,se (xs:=[f.cells]) (i:=0) (c:=f.cells) (n:=4) ⟨by decide,rfl,rfl⟩,sb hl,se (xs:=[f.cells]) (i:=0) (c:=f.cells) (n:=4) ⟨by decide,rfl,rfl⟩,se (zcT f.vals 0 zfO zfO)] kr⟩
theorem j_veL (v:V) (hb:zab E0 S.BS [(xLit v).av,iv 4] [] (bv true) []) (hv:zab E0 S.BR [v.av] [] (bv true) []) (hkk:((xLit v).val.kind==1)=false):∃ (r:Bool),r=true/\zab E0 S.AW [(xLit v).av] [] (bv r) []:=by
 exact ⟨!false,Zr,wk At.AW [sb Zt,sc hb,sg Zt,sc hv,sg Zt,sb hkk] kr⟩
theorem j_veC (a b:Str) (hb:zab E0 S.BS [(xCol a b).av,iv 8] [] (bv true) []) (hc:zab E0 S.BG [(xCol a b).av] [] (bv true) []):∃ (r:Bool),r=true/\zab E0 S.AW [(xCol a b).av] [] (bv r) []:=by
 exact ⟨true,Zr,wk At.AW [sb Zf,sb Zt,sc hb,sg Zt,sc hc] kr⟩
theorem j_tgt (a:Ac) (tb:List Tb) (s:Sch) (ha1:decide (a.kind < 1)=false) (ha2:decide (3 < a.kind)=false) (ha3:zab E0 S.Bf [a.av] [] (bv true) []) (ha4:zab E0 S.AO [tsl tb,sv a.table] [] (.tup [s.av,bv true]) []):∃ (x:Sch) (e:Int),(x=s/\e=0)/\zab E0 S.C2 [a.av,tsl tb] [] (.tup [x.av,iv e]) []:=by
 exact ⟨s,0,Zj,wk At.C2 [sg ha1,sg ha2,sc ha3,sb Zf,sc ha4,sb Zf] kr⟩
noncomputable def L_brU (s:Sch) (m:List Tb) (old nw:List V):Cfg:=zai B.A0 0 [(1,.sl []),(6,.own 4 0),(18,.p 2 0),(19,.own 3 0),(20,.nl)] [.box s.cells,.row Ty.Value (nw.map V.cells) false,.box [sv s.name,.sl (s.cols.map Col.cells),vsl old,.own 1 nw.length,tsl m],.row Ty.Trigger [] false,.row Ty.int [] false]
theorem zjV (s:Sch) (m:List Tb) (old nw:List V):True/\∀ R,Good E0 B.A0 [] (L_brU s m old nw) R->Good E0 B.A0 [] (L_brU s m old nw) R:=⟨trivial,fun _ h=>h⟩
theorem j_brow (s:Sch) (m:List Tb) (old nw:List V) (hs:zac nw):∃ (r:List V) (e:Int),(r=nw/\e=0)/\zab E0 S.A0 [.sl [],.sl [],s.av,vsl old,vsl nw,tsl m,.sl []] [] (.tup [vsl r,.sl [],.sl [],iv e]) []:=by
 obtain ⟨q1,g1⟩:=zjV s m old (nw)
 exact ⟨nw,0,Zj,wkc At.A0 [sd [(3,[sc (zaC nw zfO)])],sc (zjN ([]) zfO),sc (za9 ([]) zfO)] [1,6,18,19,20] 5 kr (g1 _ (zaa (wkr [sqx (nw.length=(List.map V.cells nw).length/\0=0/\True/\True/\True),sqx (0=0),sb Zf] kr)))⟩
theorem j_et (frs:List Fr) (tb:List Tb) :∃ (b:Bool) (e:Int),(b=true/\e=0)/\zab E0 S.Cy [.sl [],fsl frs,tsl tb] [] (.tup [bv b,iv e]) []:=by
 exact ⟨true,0,Zj,wk At.Cy [sb Zt] kr⟩
theorem j_vaD  (hn:zab E0 S.AI [sv sLog] [] (bv true) []) (hc:zab E0 S.Db [.sl []] [] (bv true) []):∃ (r:Bool),r=true/\zab E0 S.Bf [zgG.av] [] (bv r) []:=by
 exact ⟨true,Zr,wk At.Bf [sd [],sc hn,sb Zf,sb Zf,sb Zt,sg Zt,sg Zt,sg Zt,sg Zt,sg Zt,sc hc] kr⟩
theorem j_vaI (rows:List (List X)) (hl:decide ((0:Int) < ((((zaD sLog rows).rows.map fun r=>[AV.sl (zad r)]).length:Nat):Int))=true) (hn:zab E0 S.AI [sv sLog] [] (bv true) []) (hc:zab E0 S.CV [.sl (rows.map zaI)] [] (bv true) []) (he:(decide ((0:Int) < ((((zaD sLog rows).rows.map fun r=>[AV.sl (zad r)]).length:Nat):Int))==decide ((0:Int) < (((zam []).length:Nat):Int)))=false):∃ (r:Bool),r=true/\zab E0 S.Bf [(zaD sLog rows).av] [] (bv r) []:=by
 exact ⟨true,Zr,wk At.Bf [sd [],sc hn,sb Zt,sg Zf,sg he,sg Zf,sg Zf,sb Zf,sc hc,sg Zt,sb hl] kr⟩
theorem j_cn0  (h:zab E0 S.B4 [.sl []] [] (bv true) []):∃ (r:Bool),r=true/\zab E0 S.Db [.sl []] [] (bv r) []:=by
 exact ⟨true,Zr,wk At.Db [sg Zt,sc h] kr⟩
noncomputable def L_apP (ts:List Tg) (tb:Str) (ev:Int) (b:Bool) (i:Nat) :Cfg:=zai B.AD 0 [(1,sv tb),(2,iv ev),(4,bv b),(8,.p 0 0),(11,.nl),(15,.sl (ts.map Tg.cells)),(16,iv ((ts.map Tg.cells).length:Nat)),(17,iv (i:Nat))] [.box [.sl []]]
theorem zf9 (ts:List Tg) (tb:Str) (ev:Int) (b:Bool) (hl:zac ts) (hb:∀ t∈ts,t.before=false) (i:Nat)  (hi:i<=(ts).length) (hI:True):(True)/\(decide ((((ts).length:Nat):Int) < (((ts.map Tg.cells).length:Nat):Int))=false)/\∀ R,Good E0 B.AD [] (L_apP ts tb ev b (ts).length ) R->Good E0 B.AD [] (L_apP ts tb ev b i ) R:=by
 have hk:=hi;revert i hI;refine zlp ((ts).length) (fun i hlt ih hi hI _=>?_)
 obtain ⟨x,hx,h0,hw⟩:=zlq (l:=ts) ((ts.map Tg.cells).length) hlt
 have hbx:(!x.before)=true:=(by rw [hb x (yC hx)];rfl)
 obtain ⟨qZ,xZ,gZ⟩:=ih Zo (by first|trivial|assumption|(simp;done)|omega|(simp;omega)|(simp at *;omega)) Zo;exact ⟨qZ,xZ,fun R hg=>zaa (wkl [sb h0,se (zaf Tg.cells hx rfl),sb hbx,si hw] [1,2,4,8,11,15,16,17] 1 kr (gZ R hg))⟩
theorem j_ap (ts:List Tg) (tb:Str) (ev:Int) (b:Bool) (hl:zac ts) (hb:∀ t∈ts,t.before=false):∃ (r:List Tg),r=[]/\zab E0 S.AD [.sl (ts.map Tg.cells),sv tb,iv ev,.sl [],bv b] [] (.sl (r.map Tg.cells)) []:=by
 obtain ⟨q1,q1_1,g1⟩:=zf9 ts tb ev b zfO zfO 0 zfO zfO
 exact ⟨[],Zr,wkc At.AD [] [1,2,4,8,11,15,16,17] 1 kr (g1 _ (zaa (wkr [sb q1_1] kr)))⟩
theorem jAp (k:Int) (b:Bool):zab E0 S.AD [.sl (tsK.map Tg.cells),sv sLog,iv k,.sl [],bv b] [] (.sl []) []:=by
 obtain ⟨_,rfl,h⟩:=j_ap tsK sLog k b zp5 zyS
 exact h
theorem zwS (frs:List Fr) (tb:List Tb):zab E0 S.Cy [xsl [],fsl frs,tsl tb] [] (.tup [bv true,iv 0]) []:=by
 obtain ⟨_,_,⟨rfl,rfl⟩,h⟩:=j_et frs tb
 exact h
theorem jBrow (s:Sch) (m:List Tb) (old nw:List V) (h:zac nw):BRow m [] s old nw nw:=by
 obtain ⟨_,_,⟨rfl,rfl⟩,h⟩:=j_brow s m old nw h
 exact h
theorem jName:zab E0 S.AI [sv sLog] [] (bv true) []:=by
 have h:=zbk sLog
 rwa [show zbi sLog=true from by kernel_rfl] at h
theorem jVx (l:List X) (hl:zac l) (h:∀ x∈l,zab E0 S.AW [x.av] [] (bv true) []):zab E0 S.B4 [xsl l] [] (bv (l.all fun _=>true)) [] :=
 zsL l (fun _=>true) hl h
theorem jVD:zab E0 S.Bf [zgG.av] [] (bv true) []:=by
 obtain ⟨_,rfl,h1⟩:=j_cn0 (jVx [] (by simp [zac]) fun x hx=>by cases hx)
 obtain ⟨_,rfl,h⟩:=j_vaD jName h1
 exact h
theorem jEx:∀ x∈[xCol zdr sId2,xLit vNul],zab E0 S.AW [x.av] [] (bv true) []:=fun x hx=>by
 simp only [yO,yAE,or_false] at hx
 rcases hx with rfl|rfl
 ·have hb:=zl4 (xCol zdr sId2) 8
  rw [show zgH (xCol zdr sId2) 8=true from by kernel_rfl] at hb
  have hc:=zpj (xCol zdr sId2)
  rw [show zoY (xCol zdr sId2)=true from by kernel_rfl] at hc
  obtain ⟨_,rfl,h⟩:=j_veC zdr sId2 hb hc
  exact h
 ·have hb:=zl4 (xLit vNul) 4
  rw [show zgH (xLit vNul) 4=true from by kernel_rfl] at hb
  have hc:=zl5 vNul zbK.small
  rw [show zbu vNul=true from by kernel_rfl] at hc
  obtain ⟨_,rfl,h⟩:=j_veL vNul hb hc rfl
  exact h
theorem jVI:zab E0 S.Bf [(zaD sLog zcg).av] [] (bv true) []:=by
 have hx:=jVx [xCol zdr sId2,xLit vNul] (by simp [zac]) jEx
 obtain ⟨_,rfl,h1⟩:=zkl _ (fun _=>true) hx
 obtain ⟨_,rfl,h2⟩:=c_cfR zcg _ (c_ixR zcg (fun _=>true) Zd fun x hx=>by
  simp only [zcg,yF] at hx
  subst hx;exact h1)
 obtain ⟨r,hr,h3⟩:=zmB zcg (fun _=>true) h2
 rw [show zpA (fun _=>true) zcg=true from by kernel_rfl] at hr
 subst hr
 obtain ⟨_,rfl,h⟩:=j_vaI zcg kr jName h3 kr
 exact h
theorem jTgt {a:Ac} {m:List Tb} (h1:zab E0 S.Bf [a.av] [] (bv true) []) (h2:decide (a.kind < 1)=false) (h3:decide (3 < a.kind)=false) (h4:zab E0 S.AO [tsl m,sv a.table] [] (.tup [zaS.av,bv true]) []):zab E0 S.C2 [a.av,tsl m] [] (.tup [zaS.av,iv 0]) []:=by
 obtain ⟨_,_,⟨rfl,rfl⟩,h⟩:=j_tgt a m zaS h2 h3 h1 h4
 exact h
def fNote (v:V) (x:X):V × Int:=(bif x.kind==2 then v else vNul,0)
theorem jEv (v b c:V) (m:List Tb):∀ x∈[xCol zdr sId2,xLit vNul],PEv (fNote v) x (zeG [v,b,c]) m:=fun x hx=>by
 simp only [yO,yAE,or_false] at hx
 rcases hx with rfl|rfl
 ·obtain ⟨_,rfl,h1⟩:=j_foC zdr sId2
  have h2:=zph (zeG [v,b,c]) zdr sId2 (by simp [zac]) (fun f hf=>by
   simp only [yF] at hf;subst hf;exact zaE zyf) (by show IntKind.i64.wrap 0=0;decide)
  have e:zeo (zeG [v,b,c]) zdr sId2=(0,0,true):=by show _=_;kernel_rfl
  rw [e] at h2
  obtain ⟨_,_,⟨rfl,rfl⟩,h⟩:=j_evC zdr sId2 (Fr.mk zdr true zaW.cols [v,b,c]) v [b,c] m h1 rfl h2 Zs Zs
  exact h
 ·obtain ⟨_,rfl,h1⟩:=j_foL vNul
  obtain ⟨_,_,⟨rfl,rfl⟩,h⟩:=j_evL vNul (zeG [v,b,c]) m h1
  exact h
theorem jIns (T t2:Tb) (r:List Tb) (v b c:V) (hs:T.sch=zaS) (hl:(T::r).length<=1000) (hv:∀ x∈T::r,TabV x) (hsrc:zab E0 S.AO [tsl (T::r),sv sLog] [] (.tup [zaS.av,bv true]) []) (hA:zab E0 S.AV [T.av,insC [[v,vNul]]] [] (.tup [t2.av,iv 0]) []) :
  zab E0 S.Bi [tsl (T::r),.sl (tsK.map Tg.cells),.sl [],(zaD sLog zcg).av,fsl (zeG [v,b,c]),.sl [],.sl []] [] (.tup [tsl (t2::r),.sl [],.sl [],iv 1,iv 0]) []:=by
 have hm:∀ l∈zcg,l=[xCol zdr sId2,xLit vNul]:=fun l hl=>by simpa [zcg] using hl
 obtain ⟨out,hout,hC⟩:=zkU sLog zcg zaS (zeG [v,b,c]) (T::r) (fNote v) (jTgt jVI Zd Zd hsrc) Zd Zd
  (fun l hl=>by rw [hm l hl];exact ⟨by simp [zac],jEv v b c (T::r)⟩) (fun l hl x hx=>rfl) (fun l hl=>by rw [hm l hl];rfl)
 have e:out=[[v,vNul]]:=by rw [hout];rfl
 subst e
 have hfd:=zmS (T::r) sLog (by simp only [zac];omega)
 rw [(zsY (m:=r) hs).2] at hfd
 exact zlA (T::r) (zeG [v,b,c]) sLog zcg tsK [] T t2 0 [[v,vNul]] id hl rfl Zs hfd Zd (by rw [hs];exact hC)
  (fun x hx=>⟨(hv x hx).sch.short,(hv x hx).shr,(hv x hx).vals⟩) (jAp 1 false) (jAp 1 true) Zs (hv T Zs).shr (by simp [zac]) Zs
  (fun l hl=>by simp only [yF] at hl;subst hl;exact jBrow T.sch (T::r) [] [v,vNul] (by simp [zac])) hA
abbrev tbU:Tb:=⟨zaW,3,[r1k,r2k]⟩
abbrev lgT (n:Int) (rows:List Rw):Tb:=⟨zaS,n,rows⟩
abbrev mK (n:Int) (rows:List Rw):List Tb:=[lgT n rows,tbU]
abbrev g1k:Rw:=⟨1,[v1k 1,vNul]⟩
abbrev g2k:Rw:=⟨2,[v1k 2,vNul]⟩
abbrev m1k:List Tb:=mK 2 [g1k]
abbrev m2k:List Tb:=mK 3 [g1k,g2k]
abbrev m3k:List Tb:=mK 3 []
theorem ztE {n:Int} (h:0<=n/\n<=1000):RowU [v1k n,v1k 1,v1k 1]:=⟨by
 refine ⟨by kernel_rfl,fun k c w h1 h2=>?_⟩
 have hc:zaW.cols=[⟨⟨#[105,100]⟩,1,true,true⟩,⟨⟨#[110]⟩,1,true,false⟩,⟨⟨#[109]⟩,1,false,false⟩]:=by kernel_rfl
 rw [hc] at h1
 match k,h1,h2 with
 | 0,h1,h2=>cases h1;cases h2;exact ⟨zqU h,.inr rfl,fun _=>rfl⟩
 | 1,h1,h2=>cases h1;cases h2;exact ⟨zbU Zd,.inr rfl,fun _=>rfl⟩
 | 2,h1,h2=>cases h1;cases h2;exact ⟨zbU Zd,.inr rfl,fun h=>by cases h⟩
 | k+3,h1,h2=>simp at h1⟩
theorem keyU2:keyC zaW=0:=by kernel_rfl
theorem tbU_v:TabV tbU:=by
 have h1:=RowsV.push (s:=zaW) (next:=1) (m:=2) (rows:=[]) (RowsV.nil Zd) (ztE (n:=1) Zd).ok (fun r hr=>by cases hr) Zd
 have h2:=RowsV.push (m:=3) h1 (ztE (n:=2) Zd).ok (fun r hr=>.inr (by
  simp only [List.nil_append,yF] at hr
  subst hr
  rw [keyU2];show v1k 1≠v1k 2;simp)) Zd
 exact ⟨zgv zjE,by decide,h2,by decide,ziz zjE⟩
theorem keyLog:keyC zaS < 0:=by decide
theorem zjA (n:Int) (h:1<=n/\n<=1000):TabV (lgT n []):=⟨zgv zff,by simp,RowsV.nil h.1,by simp;omega,ziz zff⟩
theorem lg1_v:TabV (lgT 2 [g1k]):=by
 have h1:=RowsV.push (s:=zaS) (next:=1) (m:=2) (rows:=[]) (RowsV.nil Zd) (zm5 (v:=v1k 1) (zbU Zd) (.inr rfl)) (fun r hr=>by cases hr) Zd
 exact ⟨zgv zff,by decide,h1,by decide,ziz zff⟩
theorem zlC:TabV (lgT 3 [g1k,g2k]):=by
 have h1:=RowsV.push (m:=3) lg1_v.rows (zm5 (v:=v1k 2) (zbU Zd) (.inr rfl)) (fun r hr=>.inl keyLog) Zd
 exact ⟨zgv zff,by decide,h1,by decide,ziz zff⟩
theorem zkA {n:Int} {rows:List Rw} (h:TabV (lgT n rows)):∀ x∈mK n rows,TabV x:=fun x hx=>by
 simp only [yO,yAE,or_false] at hx
 rcases hx with rfl|rfl
 ·exact h
 ·exact tbU_v
theorem zgN {n:Int} {rows:List Rw} (h:TabV (lgT n rows)):ShTs (mK n rows):=fun x hx=>⟨(zkA h x hx).sch.short,(zkA h x hx).shr,(zkA h x hx).vals⟩
theorem zq5 {ins:List (List V)}:∀ l:List Rw,midR ⟨ins,[],[]⟩ l=l
 | []=>rfl
 | q::l=>by
  have ih:=zq5 (ins:=ins) l
  unfold midR at ih ⊢
  rw [List.filterMap_cons,ih];rfl
theorem zg7 (n:Int) (rows:List Rw):zaw (mK n rows) sUu=(zaW,true)/\zaw (mK n rows) sLog=(zaS,true):=by
 constructor
 ·rw [zfG];show _=_;kernel_rfl
 ·rw [zfG];show _=_;kernel_rfl
/- the note of a row -/
theorem zzU {n:Int} {rows:List Rw} (h:TabV (lgT n rows)) (hl:rows.length<=5) (hn:n<=100) {v:Int} (hv:0<=v/\v<=1000):zab E0 S.Bi [tsl (mK n rows),.sl (tsK.map Tg.cells),.sl [],(zaD sLog zcg).av,fsl (zeG [v1k v,v1k 1,v1k 1]),.sl [],.sl []] [] (.tup [tsl (insT (lgT n rows) [[v1k v,vNul]]::[tbU]),.sl [],.sl [],iv 1,iv 0]) []:=by
 have hrow:zbJ zaS.cols [v1k v,vNul]:=zm5 (zqU hv) (.inr rfl)
 have hA:=ziq (lgT n rows) ⟨[[v1k v,vNul]],[],[]⟩ h ⟨.nil,fun _ h=>(by cases h),.nil,fun _ h=>(by cases h),fun r hr=>by simp only [yF] at hr;subst hr;rfl,by simp,by simp,by simp⟩ (fun p hp=>by cases hp) (fun p hp=>by cases hp)
  (fun p hp=>by simp only [yF] at hp;subst hp;exact zlK hrow)
  (by
   have h5:fit5 zaS [v1k v,vNul]=0:=zqm h.sch hrow
   show zbH zaS _=0
   unfold zbH zbB;simp only [h5];rfl)
  (by unfold zft;simp;omega) (by unfold zc6;rw [zyt];exact List.nodup_nil)
 have e:apT (lgT n rows) ⟨[[v1k v,vNul]],[],[]⟩=insT (lgT n rows) [[v1k v,vNul]]:=by unfold apT;rw [zq5]
 rw [e] at hA
 have hs:=zcw (mK n rows) sLog (by simp [zac]) (fun x hx=>(zgN h x hx).1)
 rw [(zg7 n rows).2] at hs
 exact jIns (lgT n rows) _ [tbU] (v1k v) (v1k 1) (v1k 1) rfl Zs (zkA h) hs hA
abbrev d1k:Dl:=⟨sUu,[r1k,r2k],[],[]⟩
abbrev itA (r:Rw):Itm:=⟨nA,r.id,[],r.vals⟩
theorem fiIn_a {n:Int} {rows:List Rw} (h:TabV (lgT n rows)) (k:Int) {v:Int} (hv:0<=v/\v<=1000):FiIn (mK n rows) tsK [d1k] (itA ⟨k,[v1k v,v1k 1,v1k 1]⟩) tgA zaW d1k d1k (zeG [v1k v,v1k 1,v1k 1]) [] 0 true:=by
 have hru:=ztE hv
 refine ⟨⟨rfl,by decide⟩,?_,?_,?_,?_,?_,?_,?_,?_,by simp [zac],zgN h⟩
 ·have h1:=zdR tsK (itA ⟨k,[v1k v,v1k 1,v1k 1]⟩) zp5
  have e:idxF (fun t=>tgN t nA) tsK 0=(0:Nat):=by show _=_;kernel_rfl
  rw [show (itA ⟨k,[v1k v,v1k 1,v1k 1]⟩).name=nA from rfl,e] at h1;exact h1
 ·have h1:=zcw (mK n rows) sUu (by simp [zac]) (fun x hx=>(zgN h x hx).1)
  rw [(zg7 n rows).1] at h1;exact h1
 ·have h1:=zbL [d1k] sUu (by simp [zac])
  have e:idxF (fun t=>dlC t sUu) [d1k] 0=(0:Nat):=by show _=_;kernel_rfl
  rw [e] at h1
  obtain ⟨r,b,⟨rfl,rfl⟩,h2⟩:=zqh [d1k] sUu 0 d1k rfl Zs h1 Zd
  exact h2
 ·obtain ⟨r,hr2,h2⟩:=zoW tgA zaW [] [v1k v,v1k 1,v1k 1] (zaE zyf) (by simp [zac]) hru.sh
  rw [zuc] at hr2
  subst hr2;exact h2
 ·obtain ⟨r,hr2,h2⟩:=zgW tgA zaW d1k rfl (by simp [zac]) (fun x hx=>by
   simp only [yO,yAE,or_false] at hx
   rcases hx with rfl|rfl <;> exact zdH _ (by simp [zac]))
  subst hr2;exact h2
 ·obtain ⟨r,hr2,h2⟩:=zxY tgA zaW d1k rfl
  subst hr2;exact h2
 ·have h1:=zfd (mK n rows) Zs
  rw [List.append_nil];exact h1
 ·rw [List.append_nil];exact zwS _ _
theorem zkt {n:Int} {rows:List Rw} (h:TabV (lgT n rows)) (hl:rows.length<=5) (hn:n<=100) (k:Int) {v:Int} (hv:0<=v/\v<=1000) :
  zab E0 S.Bv [tsl (mK n rows),.sl (tsK.map Tg.cells),.sl [],.sl ([d1k].map Dl.cells),(itA ⟨k,[v1k v,v1k 1,v1k 1]⟩).av,.sl []] [] (.tup [tsl (insT (lgT n rows) [[v1k v,vNul]]::[tbU]),.sl [],.sl [],iv 0]) [] :=
 zn3 (fiIn_a h k hv) (fun i=>bif i==0 then mK n rows else insT (lgT n rows) [[v1k v,vNul]]::[tbU]) rfl (by simp [zac]) (fun i a ha=>by
  match i,ha with
  | 0,ha =>
   simp only [yAB,yA] at ha
   subst ha
   exact ⟨.inl rfl,1,zzU h hl hn hv⟩
  | i+1,ha=>simp at ha)
theorem zkQ {p:Prop} (h:p:=by first|assumption|rfl|(simp [zac];done)|exact (fun _ h=>nomatch h)|omega):p:=h
theorem el_yz (y z:Rw):ElAt [y.cells,z.cells] (1:Int) z.cells 2:=⟨by decide,rfl,rfl⟩
noncomputable def zxH (nm:Str) (s:Sch) (y z:Rw) (i:Nat) (out:List Col):Cfg:=zai B.BA 0 [(2,.sl ([y,z].map Rw.cells)),(6,.p 1 0),(7,.p 2 0),(16,.sl (s.cols.map Col.cells)),(17,iv ((s.cols.map Col.cells).length:Nat)),(18,iv (i:Nat))] [.box s.cells,.box [sv ⟨#[]⟩,.nl,iv 0,.nl],.box [sv nm,.own 3 out.length,iv 1,.sl ([y,z].map Rw.cells)],.row Ty.Column (out.map Col.cells) false]
theorem Zcv11 {p:Prop} (h:p:=by first|rfl|(simp;done)|(simp [X.cells,Qy.cells,V.cells,Col.cells,Rw.cells,Tb.cells,Fr.cells,Sch.cells,Tp.cells,Pl.cells,Ac.cells,Se.cells,Pr.cells,Ch.cells,Rw.cells,Dl.cells,Itm.cells];done)):p:=h
theorem zfp (nm:Str) (s:Sch) (y z:Rw) (hs:zac s.cols) (i:Nat) (out:List Col) (hi:i<=(s.cols).length) (hI:out=(s.cols.take i).map colT):∃ (out':List Col),(out'=(s.cols.take (s.cols).length).map colT)/\(decide ((((s.cols).length:Nat):Int) < (((s.cols.map Col.cells).length:Nat):Int))=false)/\∀ R,Good E0 B.BA [] (zxH nm s y z (s.cols).length out') R->Good E0 B.BA [] (zxH nm s y z i out) R:=by
 have hk:=hi;revert i out;refine zlp ((s.cols).length) (fun i hlt ih out hi hI _=>?_)
 obtain ⟨x,hx,h0,hw⟩:=zlq (l:=s.cols) ((s.cols.map Col.cells).length) hlt
 have ho:out.length<=1000000000:=(by rw [hI,yG,yV];simp only [zac] at hs;omega)
 exact Zih (ih (out++[Col.mk x.name x.type false false]) Zo (by (rw [yP,hx,yAR,hI];rfl)) Zo) fun R gY=>zaa (wkl [sb h0,se (zaf Col.cells hx rfl),sqA (List.map Col.cells out) [[sv x.name,iv x.type,bv false,bv false]] out.length 4 32,si hw] [2,6,7,16,17,18] 4 kr (zas rfl (show ([Blk.box s.cells,Blk.box [sv Zs0,AV.nl,iv 0,AV.nl],Blk.box [sv nm,AV.own 3 (List.map Col.cells out++[[sv x.name,iv x.type,bv false,bv false]]).length,iv 1,AV.sl [[iv y.id,vsl y.vals],[iv z.id,vsl z.vals]]],Blk.row Ty.Column (List.map Col.cells out++[[sv x.name,iv x.type,bv false,bv false]]) false]:Heap)=_ from Zcv11) gY))
theorem zrD (nm:Str) (s:Sch) (y z:Rw) (hs:zac s.cols) (hw1:IntKind.i64.wrap (z.id+1)=z.id+1):∃ (r:Tb),r=⟨⟨nm,s.cols.map colT⟩,z.id+1,[y,z]⟩/\zab E0 S.BA [sv nm,s.av,.sl ([y,z].map Rw.cells)] [] r.av []:=by
 obtain ⟨out1,q1,q1_1,g1⟩:=zfp nm s y z Za 0 ([]) Za Za
 exact ⟨Tb.mk (Sch.mk nm out1) (z.id+1) [y,z],(by (rw [yL] at *;subst_vars;rfl)),wkcN At.BA [] [2,6,7,16,17,18] 3 [(.ob 2 1 Ty.Column,4)] kr (g1 _ (zaa (wkrS (y:=AV.agg [sv nm,ZC out1,iv (z.id+1),AV.sl [[iv y.id,vsl y.vals],[iv z.id,vsl z.vals]]]) (H:=[]) [sqx (True/\out1.length=(List.map Col.cells out1).length/\True/\True/\True),sb q1_1,sb Zt,si (e:=IntKind.i64.wrap ((↑[[iv y.id,vsl y.vals],[iv z.id,vsl z.vals]].length:Int) - 1)) rfl,se (el_yz y z),si hw1] kr ⟨Zcv11,Zcv11⟩)))⟩
theorem ziZ (nm:Str) (s:Sch) (y z:Rw) (hs:zac s.cols) (hw1:IntKind.i64.wrap (z.id+1)=z.id+1):zab E0 S.BA [sv nm,s.av,.sl ([y,z].map Rw.cells)] [] (Tb.av ⟨⟨nm,s.cols.map colT⟩,z.id+1,[y,z]⟩) []:=by
 obtain ⟨_,rfl,h⟩:=zrD nm s y z hs hw1
 exact h
theorem zxX (t:Tg) (s:Sch) (tb:Str) (y z:Rw) (hbe:t.before=false) (he:t.each=false) (e1:(t.event==2)=false) (e2:(t.event==3)=false) (e3:(t.event==1)=true) (hf:zab E0 S.BL [.agg y.cells] [] (.agg y.cells) []) (hfl:∀ x∈[y,z],zab E0 S.BL [.agg x.cells] [] (.agg x.cells) []) (hs:zac s.cols) (hw1:IntKind.i64.wrap (z.id+1)=z.id+1):∃ (r:List Tb),r=[⟨⟨⟨#[73,78,83,69,82,84,69,68]⟩,s.cols.map colT⟩,z.id+1,[y,z]⟩]/\zab E0 S.Br [t.av,s.av,Dl.av ⟨tb,[y,z],[],[]⟩] [] (tsl r) []:=by
 exact ⟨[Tb.mk (Sch.mk ZsI (List.map colT s.cols)) (z.id+1) [y,z]],Zr,(by (try simp only [zsl,Ac.cells,Se.cells,Pr.cells,Ch.cells,Rw.cells,Dl.cells,Itm.cells]);exact wk At.Br [sqx (1=1),sg hbe,sb he,sd [(2,[sc (zjK ([]) zkQ zkQ)]),(5,[sc (zjK ([y,z]) zkQ zkQ)])],sb e1,sg e1,sb e2,sb e3,sc (ziZ ZsI s y z zkQ zkQ),sqx (AllLen [[sv ZsI,ZC (List.map colT s.cols),iv (z.id+1),AV.sl [[iv y.id,vsl y.vals],[iv z.id,vsl z.vals]]]] 4/\Nat.le 72 140737488355328)] kr)⟩
abbrev exI:Tb:=⟨⟨sIns,zaS.cols.map colT⟩,2+1,[g1k,g2k]⟩
abbrev d2k:Dl:=⟨sLog,[g1k,g2k],[],[]⟩
abbrev itB:Itm:=⟨nB,0,[],[]⟩
theorem zyv:zab E0 S.C2 [zgG.av,tsl (m2k++[exI])] [] (.tup [zaS.av,iv 0]) []:=by
 have hs:=zcw (m2k++[exI]) sLog (by simp [zac]) (fun x hx=>by
  simp only [yK,yF] at hx
  rcases hx with hx|rfl
  ·exact (zkA zlC x hx).sch.short
  ·decide)
 rw [List.cons_append,(zt9 rfl ([tbU]++[exI])).2.2] at hs
 exact jTgt jVD Zd Zd hs
theorem zvt:zab E0 S.Ah [.sl [[tsl m2k],[tsl [exI]]]] [] (tsl (m2k++[exI])) []:=zit m2k [exI] Zs Zs
theorem zzT:∃ n:Int,zab E0 S.Bi [tsl m2k,.sl (tsK.map Tg.cells),.sl [],zgG.av,fsl [],tsl [exI],.sl []] [] (.tup [tsl m3k,.sl [],.sl [],iv n,iv 0]) []:=by
 have hT:=zlC
 have hlen:(m2k++[exI]).length<=1000000000:=by simp
 have htb:=zt9 (T:=lgT 3 [g1k,g2k]) rfl ([tbU]++[exI])
 obtain ⟨del,hdel,hC⟩:=zxP (fun _=>true) zgG zaS [] (m2k++[exI]) rfl rfl hlen Zs zyv (zzc _ zgG hlen) (by rw [List.cons_append,show zgG.table=sLog from rfl,htb.2.1];rfl)
  (by rw [List.cons_append,show zgG.table=sLog from rfl,htb.1];exact hT.shr) (fun x _=>zwS _ _)
 rw [List.cons_append,show zgG.table=sLog from rfl,htb.1] at hdel
 have hdl:del=[1,2]:=by rw [hdel];rfl
 subst hdl
 have hcv:ChV (lgT 3 [g1k,g2k]) ⟨[],[1,2],[]⟩:=⟨by simp,fun d hd=>by
   simp only [yO,yAE,or_false] at hd
   rcases hd with rfl|rfl <;> rfl,.nil,fun p hp=>by simp at hp,fun p hp=>by simp at hp,by simp,by simp,by simp⟩
 have hmid:midR ⟨[],[1,2],[]⟩ [g1k,g2k]=[]:=rfl
 have hA:=ziq (lgT 3 [g1k,g2k]) ⟨[],[1,2],[]⟩ hT hcv (fun p hp=>by simp at hp) (fun p hp=>by simp at hp) (fun p hp=>by simp at hp) rfl (by unfold zft;simp) (by unfold zc6;rw [hmid];exact List.nodup_nil)
 have hap:apT (lgT 3 [g1k,g2k]) ⟨[],[1,2],[]⟩=lgT 3 []:=rfl
 rw [hap] at hA
 have hfd:zab E0 S.CF [tsl m2k,sv sLog] [] (iv ((0:Nat):Int)) []:=by
  have h1:=zmS m2k sLog (by simp [zac])
  rw [(zt9 (T:=lgT 3 [g1k,g2k]) rfl [tbU]).2.1] at h1;exact h1
 have hrun:=zlz m2k [exI] [] zgG tsK [] (lgT 3 [g1k,g2k]) (lgT 3 []) 0 [1,2] rfl hfd zvt hC (by simp [zac]) (zgN hT) (by
   obtain ⟨o,ho,hc⟩:=zul sLog
   subst ho;exact hc) (jAp 3 false) (jAp 3 true) Zs (fun x hx=>jBrow _ _ _ _ (by simp [zac])) hA
 exact ⟨_,hrun⟩
theorem fiIn_b:FiIn m2k tsK [d2k] itB tgB zaS d2k d2k [] [exI] 1 true:=by
 refine ⟨⟨rfl,by decide⟩,?_,?_,?_,?_,?_,?_,?_,?_,by simp [zac],zgN zlC⟩
 ·have h1:=zdR tsK itB zp5
  have e:idxF (fun t=>tgN t itB.name) tsK 0=(1:Nat):=by show _=_;kernel_rfl
  rw [e] at h1;exact h1
 ·have h1:=zcw m2k sLog (by simp [zac]) (fun x hx=>(zgN zlC x hx).1)
  rw [(zg7 3 [g1k,g2k]).2] at h1;exact h1
 ·have h1:=zbL [d2k] sLog (by simp [zac])
  have e:idxF (fun t=>dlC t sLog) [d2k] 0=(0:Nat):=by show _=_;kernel_rfl
  rw [e] at h1
  obtain ⟨r,b,⟨rfl,rfl⟩,h2⟩:=zqh [d2k] sLog 0 d2k rfl Zs h1 Zd
  exact h2
 ·obtain ⟨o,ho,h2⟩:=zoW tgB zaS [] [] Zd (by simp [zac]) (by simp [zac])
  have e:znP tgB zaS [] []=[]:=by show _=_;kernel_rfl
  rw [e] at ho
  subst ho;exact h2
 ·obtain ⟨o,ho,h2⟩:=zgW tgB zaS d2k rfl (by simp [zac]) (fun x hx=>by
   simp only [yO,yAE,or_false] at hx
   rcases hx with rfl|rfl <;> exact zdH _ (by simp [zac]))
  subst ho;exact h2
 ·obtain ⟨o,ho,h2⟩:=zxX tgB zaS sLog g1k g2k rfl rfl rfl rfl rfl (zdH _ (by simp [zac])) (fun x hx=>by
   simp only [yO,yAE,or_false] at hx
   rcases hx with rfl|rfl <;> exact zdH _ (by simp [zac])) Zd (by show IntKind.i64.wrap 3=3;decide)
  subst ho;exact h2
 ·exact zvt
 ·exact zwS _ _
theorem zqs:zab E0 S.Bv [tsl m2k,.sl (tsK.map Tg.cells),.sl [],.sl ([d2k].map Dl.cells),itB.av,.sl []] [] (.tup [tsl m3k,.sl [],.sl [],iv 0]) [] :=
 zn3 fiIn_b (fun i=>bif i==0 then m2k else m3k) rfl (by simp [zac]) (fun i a ha=>by
  match i,ha with
  | 0,ha =>
   simp only [yAB,yA] at ha
   subst ha
   exact ⟨.inr (.inr rfl),zzT⟩
  | i+1,ha=>simp at ha)
theorem zdU {p:Prop} (h:p:=by first|assumption|decide|omega):p:=h
def selI (a b:Itm) (i:Nat):Itm:=if i=0 then a else b
theorem zgL (a b:Itm) (i:Nat) (h:i < 2):OwnEl [a.cells,b.cells] 2 i (selI a b i).cells:=by
 have:i=0\/i=1:=by omega
 rcases this with rfl|rfl <;> exact ⟨rfl,rfl⟩
theorem zwG (a:Itm) (i:Nat) (h:i < 1):OwnEl [a.cells] 1 i a.cells:=by
 obtain rfl:i=0:=by omega
 exact ⟨rfl,rfl⟩
noncomputable def zxB (a b:Itm) (out:List Int) (i:Nat):Cfg:=zai B.Aq 0 [(0,.own 0 2),(1,.sl []),(5,.own 1 out.length),(10,.own 0 2),(11,iv (2:Nat)),(12,iv (i:Nat))] [.row Ty.Item [a.cells,b.cells] false,.row Ty.int (out.map fun n=>[iv n]) false]
theorem zcR (a b:Itm) (out:List Int) (i:Nat):True/\∀ R,Good E0 B.Aq [.row Ty.Item [a.cells,b.cells] false] (zxB a b out i) R->Good E0 B.Aq [.row Ty.Item [a.cells,b.cells] false] (zxB a b out i) R:=⟨trivial,fun _ h=>h⟩
noncomputable def zxy (a b:Itm) (out:List Int) (io:Nat) (x:Itm) (k:Nat):Cfg:=zai B.Aq 1 [(0,.own 0 2),(1,.sl []),(5,.own 1 out.length),(6,iv (io:Nat)),(7,.p 2 0),(10,.own 0 2),(11,iv (2:Nat)),(12,iv (io:Nat)),(17,.own 0 2),(18,iv (2:Nat)),(19,iv (k:Nat))] [.row Ty.Item [a.cells,b.cells] false,.row Ty.int (out.map fun n=>[iv n]) false,.box x.cells]
theorem zbs (a b:Itm) (out:List Int) (io:Nat) (x:Itm) (k:Nat):True/\∀ R,Good E0 B.Aq [.row Ty.Item [a.cells,b.cells] false] (zxy a b out io x k) R->Good E0 B.Aq [.row Ty.Item [a.cells,b.cells] false] (zxy a b out io x k) R:=⟨trivial,fun _ h=>h⟩
theorem c_el2 (a b:Itm) :∃ (l:List Int),l=[0,1]/\zab E0 S.Aq [.own 0 2,.sl []] [.row Ty.Item [a.cells,b.cells] false] (isl l) [.row Ty.Item [a.cells,b.cells] false]:=by
 obtain ⟨q1,g1⟩:=zcR a b ([]) (0)
 obtain ⟨q2,g2⟩:=zbs a b ([]) 0 (selI a b 0) (0)
 obtain ⟨q3,g3⟩:=zbs a b ([]) 0 (selI a b 0) (0+1)
 obtain ⟨q4,g4⟩:=zbs a b ([]) 0 (selI a b 0) (0+1+1)
 obtain ⟨q5,g5⟩:=zcR a b ([(↑0:Int)]) (0+1)
 obtain ⟨q6,g6⟩:=zbs a b ([(↑0:Int)]) (0+1) (selI a b 1) (0)
 obtain ⟨q7,g7⟩:=zbs a b ([(↑0:Int)]) (0+1) (selI a b 1) (0+1)
 obtain ⟨q8,g8⟩:=zbs a b ([(↑0:Int)]) (0+1) (selI a b 1) (0+1+1)
 obtain ⟨q9,g9⟩:=zcR a b ([(↑0:Int),(↑(0+1):Int)]) (0+1+1)
 exact ⟨[(↑0:Int),(↑(0+1):Int)],Zr,wkcN At.Aq [sqx (2=2)] [0,1,5,10,11,12] 1 [(.ot 5 Ty.int,2)] kr (g1 _ (zaa (wkl [sb Zt,sqx (OwnAt [[sv a.name,iv a.row,vsl a.old,vsl a.nw],[sv b.name,iv b.row,vsl b.old,vsl b.nw]] 2 (↑0:Int)),sx (.el ((selI a b 0).cells)) (zgL a b 0 zdU),sqx (2=2)] [0,1,5,6,7,10,11,12,17,18,19] 3 kr (g2 _ (zaa (wkl [sb Zt,sqx (OwnAt [[sv a.name,iv a.row,vsl a.old,vsl a.nw],[sv b.name,iv b.row,vsl b.old,vsl b.nw]] 2 (↑0:Int)),sx (.el ((selI a b 0).cells)) (zgL a b 0 zdU),sb Zf,si (zap (t:=(↑0:Int)+1) (n:=0+1) Zo Zo)] [0,1,5,6,7,10,11,12,17,18,19] 3 kr (g3 _ (zaa (wkl [sb Zt,sqx (OwnAt [[sv a.name,iv a.row,vsl a.old,vsl a.nw],[sv b.name,iv b.row,vsl b.old,vsl b.nw]] 2 (↑(0+1):Int)),sx (.el ((selI a b 1).cells)) (zgL a b 1 zdU),sg Zt,sc (zir ([]) ((selI a b 1).name) ((selI a b 0).name) zdU),sb Zf,si (zap (t:=(↑(0+1):Int)+1) (n:=0+1+1) Zo Zo)] [0,1,5,6,7,10,11,12,17,18,19] 3 kr (g4 _ (zaa (wkl [sb Zf,sqx (AllLen [[iv (↑0:Int)]] 1/\0=0/\Nat.le 8 140737488355328),si (zap (t:=(↑0:Int)+1) (n:=0+1) Zo Zo)] [0,1,5,10,11,12] 2 kr (g5 _ (zaa (wkl [sb Zt,sqx (OwnAt [[sv a.name,iv a.row,vsl a.old,vsl a.nw],[sv b.name,iv b.row,vsl b.old,vsl b.nw]] 2 (↑(0+1):Int)),sx (.el ((selI a b 1).cells)) (zgL a b 1 zdU),sqx (2=2)] [0,1,5,6,7,10,11,12,17,18,19] 3 kr (g6 _ (zaa (wkl [sb Zt,sqx (OwnAt [[sv a.name,iv a.row,vsl a.old,vsl a.nw],[sv b.name,iv b.row,vsl b.old,vsl b.nw]] 2 (↑0:Int)),sx (.el ((selI a b 0).cells)) (zgL a b 0 zdU),sg Zt,sc (zir ([]) ((selI a b 0).name) ((selI a b 1).name) zdU),sb Zf,si (zap (t:=(↑0:Int)+1) (n:=0+1) Zo Zo)] [0,1,5,6,7,10,11,12,17,18,19] 3 kr (g7 _ (zaa (wkl [sb Zt,sqx (OwnAt [[sv a.name,iv a.row,vsl a.old,vsl a.nw],[sv b.name,iv b.row,vsl b.old,vsl b.nw]] 2 (↑(0+1):Int)),sx (.el ((selI a b 1).cells)) (zgL a b 1 zdU),sb Zf,si (zap (t:=(↑(0+1):Int)+1) (n:=0+1+1) Zo Zo)] [0,1,5,6,7,10,11,12,17,18,19] 3 kr (g8 _ (zaa (wkl [sb Zf,sqx (AllLen [[iv (↑(0+1):Int)]] 1/\1=1/\Nat.le 16 140737488355328),si (zap (t:=(↑(0+1):Int)+1) (n:=0+1+1) Zo Zo)] [0,1,5,10,11,12] 2 kr (g9 _ (zaa (wkrS (y:=AV.sl [[iv (↑0:Int)],[iv (↑(0+1):Int)]]) (H:=[Blk.row Ty.Item [[sv a.name,iv a.row,vsl a.old,vsl a.nw],[sv b.name,iv b.row,vsl b.old,vsl b.nw]] false]) [sqx (2=2),sb Zf] kr ⟨Zcv11,Zcv11⟩)))))))))))))))))))))))))))⟩
theorem zmM (a b:Itm):zab E0 S.Aq [.own 0 2,.sl []] [.row Ty.Item [a.cells,b.cells] false] (isl [0,1]) [.row Ty.Item [a.cells,b.cells] false]:=by
 obtain ⟨_,rfl,h⟩:=c_el2 a b
 exact h
noncomputable def zxA (a b:Itm) (out:List Int) (i:Nat):Cfg:=zai B.Aq 0 [(0,.os 0 2 0 1),(1,.sl []),(5,.own 1 out.length),(10,.os 0 2 0 1),(11,iv (1:Nat)),(12,iv (i:Nat))] [.row Ty.Item [a.cells,b.cells] false,.row Ty.int (out.map fun n=>[iv n]) false]
theorem zd0 (a b:Itm) (out:List Int) (i:Nat):True/\∀ R,Good E0 B.Aq [.row Ty.Item [a.cells,b.cells] false] (zxA a b out i) R->Good E0 B.Aq [.row Ty.Item [a.cells,b.cells] false] (zxA a b out i) R:=⟨trivial,fun _ h=>h⟩
noncomputable def zxx (a b:Itm) (out:List Int) (io:Nat) (x:Itm) (k:Nat):Cfg:=zai B.Aq 1 [(0,.os 0 2 0 1),(1,.sl []),(5,.own 1 out.length),(6,iv (io:Nat)),(7,.p 2 0),(10,.os 0 2 0 1),(11,iv (1:Nat)),(12,iv (io:Nat)),(17,.os 0 2 0 1),(18,iv (1:Nat)),(19,iv (k:Nat))] [.row Ty.Item [a.cells,b.cells] false,.row Ty.int (out.map fun n=>[iv n]) false,.box x.cells]
theorem zdY (a b:Itm) (out:List Int) (io:Nat) (x:Itm) (k:Nat):True/\∀ R,Good E0 B.Aq [.row Ty.Item [a.cells,b.cells] false] (zxx a b out io x k) R->Good E0 B.Aq [.row Ty.Item [a.cells,b.cells] false] (zxx a b out io x k) R:=⟨trivial,fun _ h=>h⟩
theorem c_el1 (a b:Itm) :∃ (l:List Int),l=[0]/\zab E0 S.Aq [.os 0 2 0 1,.sl []] [.row Ty.Item [a.cells,b.cells] false] (isl l) [.row Ty.Item [a.cells,b.cells] false]:=by
 obtain ⟨q1,g1⟩:=zd0 a b ([]) (0)
 obtain ⟨q2,g2⟩:=zdY a b ([]) 0 (selI a b 0) (0)
 obtain ⟨q3,g3⟩:=zdY a b ([]) 0 (selI a b 0) (0+1)
 obtain ⟨q4,g4⟩:=zd0 a b ([(↑0:Int)]) (0+1)
 exact ⟨[(↑0:Int)],Zr,wkcN At.Aq [sqx (2=2)] [0,1,5,10,11,12] 1 [(.ot 5 Ty.int,2)] kr (g1 _ (zaa (wkl [sb Zt,sqx (OsEl [[sv a.name,iv a.row,vsl a.old,vsl a.nw],[sv b.name,iv b.row,vsl b.old,vsl b.nw]] 2 0 1 (↑0:Int)),sx (.el ((selI a b 0).cells)) (zgL a b 0 zdU),sqx (2=2)] [0,1,5,6,7,10,11,12,17,18,19] 3 kr (g2 _ (zaa (wkl [sb Zt,sqx (OsEl [[sv a.name,iv a.row,vsl a.old,vsl a.nw],[sv b.name,iv b.row,vsl b.old,vsl b.nw]] 2 0 1 (↑0:Int)),sx (.el ((selI a b 0).cells)) (zgL a b 0 zdU),sb Zf,si (zap (t:=(↑0:Int)+1) (n:=0+1) Zo Zo)] [0,1,5,6,7,10,11,12,17,18,19] 3 kr (g3 _ (zaa (wkl [sb Zf,sqx (AllLen [[iv (↑0:Int)]] 1/\0=0/\Nat.le 8 140737488355328),si (zap (t:=(↑0:Int)+1) (n:=0+1) Zo Zo)] [0,1,5,10,11,12] 2 kr (g4 _ (zaa (wkrS (y:=AV.sl [[iv (↑0:Int)]]) (H:=[Blk.row Ty.Item [[sv a.name,iv a.row,vsl a.old,vsl a.nw],[sv b.name,iv b.row,vsl b.old,vsl b.nw]] false]) [sqx (1=1),sb Zf] kr ⟨Zcv11,Zcv11⟩))))))))))))⟩
theorem zmL (a b:Itm):zab E0 S.Aq [.os 0 2 0 1,.sl []] [.row Ty.Item [a.cells,b.cells] false] (isl [0]) [.row Ty.Item [a.cells,b.cells] false]:=by
 obtain ⟨_,rfl,h⟩:=c_el1 a b
 exact h
noncomputable def zxz (a:Itm) (out:List Int) (i:Nat):Cfg:=zai B.Aq 0 [(0,.own 0 1),(1,.sl []),(5,.own 1 out.length),(10,.own 0 1),(11,iv (1:Nat)),(12,iv (i:Nat))] [.row Ty.Item [a.cells] false,.row Ty.int (out.map fun n=>[iv n]) false]
theorem zdZ (a:Itm) (out:List Int) (i:Nat):True/\∀ R,Good E0 B.Aq [.row Ty.Item [a.cells] false] (zxz a out i) R->Good E0 B.Aq [.row Ty.Item [a.cells] false] (zxz a out i) R:=⟨trivial,fun _ h=>h⟩
noncomputable def zxw (a:Itm) (out:List Int) (io:Nat) (x:Itm) (k:Nat):Cfg:=zai B.Aq 1 [(0,.own 0 1),(1,.sl []),(5,.own 1 out.length),(6,iv (io:Nat)),(7,.p 2 0),(10,.own 0 1),(11,iv (1:Nat)),(12,iv (io:Nat)),(17,.own 0 1),(18,iv (1:Nat)),(19,iv (k:Nat))] [.row Ty.Item [a.cells] false,.row Ty.int (out.map fun n=>[iv n]) false,.box x.cells]
theorem zdX (a:Itm) (out:List Int) (io:Nat) (x:Itm) (k:Nat):True/\∀ R,Good E0 B.Aq [.row Ty.Item [a.cells] false] (zxw a out io x k) R->Good E0 B.Aq [.row Ty.Item [a.cells] false] (zxw a out io x k) R:=⟨trivial,fun _ h=>h⟩
theorem c_el0 (a:Itm) :∃ (l:List Int),l=[0]/\zab E0 S.Aq [.own 0 1,.sl []] [.row Ty.Item [a.cells] false] (isl l) [.row Ty.Item [a.cells] false]:=by
 obtain ⟨q1,g1⟩:=zdZ a ([]) (0)
 obtain ⟨q2,g2⟩:=zdX a ([]) 0 a (0)
 obtain ⟨q3,g3⟩:=zdX a ([]) 0 a (0+1)
 obtain ⟨q4,g4⟩:=zdZ a ([(↑0:Int)]) (0+1)
 exact ⟨[(↑0:Int)],Zr,wkcN At.Aq [sqx (1=1)] [0,1,5,10,11,12] 1 [(.ot 5 Ty.int,2)] kr (g1 _ (zaa (wkl [sb Zt,sqx (OwnAt [[sv a.name,iv a.row,vsl a.old,vsl a.nw]] 1 (↑0:Int)),sx (.el a.cells) (zwG a 0 zdU),sqx (1=1)] [0,1,5,6,7,10,11,12,17,18,19] 3 kr (g2 _ (zaa (wkl [sb Zt,sqx (OwnAt [[sv a.name,iv a.row,vsl a.old,vsl a.nw]] 1 (↑0:Int)),sx (.el a.cells) (zwG a 0 zdU),sb Zf,si (zap (t:=(↑0:Int)+1) (n:=0+1) Zo Zo)] [0,1,5,6,7,10,11,12,17,18,19] 3 kr (g3 _ (zaa (wkl [sb Zf,sqx (AllLen [[iv (↑0:Int)]] 1/\0=0/\Nat.le 8 140737488355328),si (zap (t:=(↑0:Int)+1) (n:=0+1) Zo Zo)] [0,1,5,10,11,12] 2 kr (g4 _ (zaa (wkrS (y:=AV.sl [[iv (↑0:Int)]]) (H:=[Blk.row Ty.Item [[sv a.name,iv a.row,vsl a.old,vsl a.nw]] false]) [sqx (1=1),sb Zf] kr ⟨Zcv11,Zcv11⟩))))))))))))⟩
theorem zg1 (a:Itm):zab E0 S.Aq [.own 0 1,.sl []] [.row Ty.Item [a.cells] false] (isl [0]) [.row Ty.Item [a.cells] false]:=by
 obtain ⟨_,rfl,h⟩:=c_el0 a
 exact h
theorem c_chA (n:Int) (h0:decide (n < 2)=false):∃ (r:Int),r=0/\zab E0 S.C6 [iv n,.sl []] [] (.tup [iv r,.sl []]) []:=by
 exact ⟨0,Zr,wk At.C6 [sqx (True/\0=0/\True),sg h0,sb Zt,sc (za9 ([]) (by first|assumption|omega|(simp;done)|(simp;omega)))] kr⟩
theorem c_chB (n:Int) (h0:decide (n < 2)=true):∃ (r:Int),r=0/\zab E0 S.C6 [iv n,.sl []] [] (.tup [iv r,.sl []]) []:=by
 exact ⟨0,Zr,wk At.C6 [sqx (True/\0=0/\True),sb h0,sc (za9 ([]) (by first|assumption|omega|(simp;done)|(simp;omega)))] kr⟩
theorem ze4 (n:Int):zab E0 S.C6 [iv n,.sl []] [] (.tup [iv 0,.sl []]) []:=by
 cases h:decide (n < 2)
 ·obtain ⟨_,rfl,h⟩:=c_chA n h
  exact h
 ·obtain ⟨_,rfl,h⟩:=c_chB n h
  exact h
theorem zbz {p:Prop} (h:p:=by first|rfl|exact ⟨⟨rfl,sdT,sdT,sdT⟩,sdT,sdT⟩|exact ⟨rfl,sdT,sdT,sdT⟩|exact ⟨rfl,⟨by simp [Itm.cells]⟩,rfl,sdT⟩|exact ⟨rfl,⟨rfl,sdT,sdT,sdT⟩,sdT⟩):p:=h
theorem sdT {p:Prop} (h:p:=by first|(simp;done)|decide|exact yI rfl|exact Int.NonNeg.mk _):p:=h
abbrev itZ:Itm:=⟨⟨#[]⟩,0,[],[]⟩
theorem c_sdI2 (a b:Itm) :∃ (m:Nat) (ys:List (List AV)),(m=1/\ys=[b.cells,itZ.cells])/\zab E0 S.A6 [.own 0 2,iv 0,iv 1] [.row Ty.Item [a.cells,b.cells] false] (.os 0 2 0 m) [.row Ty.Item ys false]:=by
 exact ⟨1,[[sv b.name,iv b.row,vsl b.old,vsl b.nw],[sv Zs0,iv 0,AV.sl [],AV.sl []]],Zj,(by (try simp only [zsl,Ac.cells,Se.cells,Pr.cells,Ch.cells,Rw.cells,Dl.cells,Itm.cells]);exact wkK At.A6 [sqx (h:=zbz) (2=2),sqx (h:=zbz) (OwnCut [[sv a.name,iv a.row,vsl a.old,vsl a.nw],[sv b.name,iv b.row,vsl b.old,vsl b.nw]] 2 0 0 1/\((↑2:Int) - 1).NonNeg/\Nat.le 2 2),sb Zf,sqx (h:=zbz) (2=2),sdp [(2,[sqx (h:=zbz) (OwnCut [[sv a.name,iv a.row,vsl a.old,vsl a.nw],[sv b.name,iv b.row,vsl b.old,vsl b.nw]] 2 0 0 0)]),(5,[sqx (h:=zbz) (OwnCut [[sv a.name,iv a.row,vsl a.old,vsl a.nw],[sv b.name,iv b.row,vsl b.old,vsl b.nw]] 2 0 1 (↑2:Int))]),(6,[sqx (h:=zbz) (2=2/\AllLen [[sv b.name,iv b.row,vsl b.old,vsl b.nw]] 4/\2=2/\Nat.le 1 2)])] [[5,2,6]] [(0,AV.os 0 2 0 1),(1,iv 0),(2,iv 1),(6,AV.nl),(7,iv (↑2:Int)),(8,AV.own 0 2),(9,iv 0),(10,iv 1),(11,AV.own 0 2),(12,iv (↑2:Int)),(13,AV.un),(14,iv 0),(15,iv 1),(16,AV.bl false),(18,AV.own 0 2),(19,iv (↑2:Int)),(20,AV.own 0 2),(21,iv 0),(22,AV.os 0 2 0 0),(23,AV.own 0 2),(24,iv 1),(25,AV.os 0 2 1 2),(26,AV.os 0 2 0 1)] [Blk.row Ty.Item [[sv b.name,iv b.row,vsl b.old,vsl b.nw],[sv b.name,iv b.row,vsl b.old,vsl b.nw]] false],sqx (h:=zbz) (2=2),sqx (h:=zbz) (OwnCut [[sv b.name,iv b.row,vsl b.old,vsl b.nw],[sv b.name,iv b.row,vsl b.old,vsl b.nw]] 2 0 (↑(Int.toNat 0+(List.drop (Int.toNat 1) (List.take (↑2:Int).toNat [[sv a.name,iv a.row,vsl a.old,vsl a.nw],[sv b.name,iv b.row,vsl b.old,vsl b.nw]])).length - 0):Int) (↑2:Int)),sqx (h:=zbz) (2=2)] kr)⟩
theorem c_sdI1 (a b:Itm) :∃ (m:Nat) (ys:List (List AV)),(m=0/\ys=[itZ.cells,b.cells])/\zab E0 S.A6 [.os 0 2 0 1,iv 0,iv 1] [.row Ty.Item [a.cells,b.cells] false] (.os 0 2 0 m) [.row Ty.Item ys false]:=by
 exact ⟨0,[[sv Zs0,iv 0,AV.sl [],AV.sl []],[sv b.name,iv b.row,vsl b.old,vsl b.nw]],Zj,(by (try simp only [zsl,Ac.cells,Se.cells,Pr.cells,Ch.cells,Rw.cells,Dl.cells,Itm.cells]);exact wkK At.A6 [sqx (h:=zbz) (2=2),sqx (h:=zbz) (OwnCut [[sv a.name,iv a.row,vsl a.old,vsl a.nw],[sv b.name,iv b.row,vsl b.old,vsl b.nw]] 2 0 0 1/\((↑(1 - 0):Int) - 1).NonNeg/\Nat.le 1 2),sb Zf,sqx (h:=zbz) (2=2),sdp [(2,[sqx (h:=zbz) (OwnCut [[sv a.name,iv a.row,vsl a.old,vsl a.nw],[sv b.name,iv b.row,vsl b.old,vsl b.nw]] 2 0 0 0)]),(5,[sqx (h:=zbz) (OwnCut [[sv a.name,iv a.row,vsl a.old,vsl a.nw],[sv b.name,iv b.row,vsl b.old,vsl b.nw]] 2 0 1 (↑(1 - 0):Int))]),(6,[sqx (h:=zbz) (2=2/\AllLen [] 4/\2=2/\Nat.le 0 2)])] [[5,2,6]] [(0,AV.os 0 2 0 0),(1,iv 0),(2,iv 1),(6,AV.nl),(7,iv (↑(1 - 0):Int)),(8,AV.os 0 2 0 1),(9,iv 0),(10,iv 1),(11,AV.os 0 2 0 1),(12,iv (↑(1 - 0):Int)),(13,AV.un),(14,iv 0),(15,iv 1),(16,AV.bl false),(18,AV.os 0 2 0 1),(19,iv (↑(1 - 0):Int)),(20,AV.os 0 2 0 1),(21,iv 0),(22,AV.os 0 2 0 0),(23,AV.os 0 2 0 1),(24,iv 1),(25,AV.os 0 2 1 1),(26,AV.os 0 2 0 0)] [Blk.row Ty.Item [[sv a.name,iv a.row,vsl a.old,vsl a.nw],[sv b.name,iv b.row,vsl b.old,vsl b.nw]] false],sqx (h:=zbz) (2=2),sqx (h:=zbz) (OwnCut [[sv a.name,iv a.row,vsl a.old,vsl a.nw],[sv b.name,iv b.row,vsl b.old,vsl b.nw]] 2 0 (↑(Int.toNat 0+0+(List.drop (Int.toNat 1+0) (List.take ((↑(1 - 0):Int).toNat+0) [[sv a.name,iv a.row,vsl a.old,vsl a.nw],[sv b.name,iv b.row,vsl b.old,vsl b.nw]])).length - 0):Int) (↑(1 - 0):Int)),sqx (h:=zbz) (2=2)] kr)⟩
theorem c_sdI0 (a:Itm) :∃ (m:Nat) (ys:List (List AV)),(m=0/\ys=[itZ.cells])/\zab E0 S.A6 [.own 0 1,iv 0,iv 1] [.row Ty.Item [a.cells] false] (.os 0 1 0 m) [.row Ty.Item ys false]:=by
 exact ⟨0,[[sv Zs0,iv 0,AV.sl [],AV.sl []]],Zj,(by (try simp only [zsl,Ac.cells,Se.cells,Pr.cells,Ch.cells,Rw.cells,Dl.cells,Itm.cells]);exact wkK At.A6 [sqx (h:=zbz) (1=1),sqx (h:=zbz) (OwnCut [[sv a.name,iv a.row,vsl a.old,vsl a.nw]] 1 0 0 1/\((↑1:Int) - 1).NonNeg/\Nat.le 1 1),sb Zf,sqx (h:=zbz) (1=1),sdp [(2,[sqx (h:=zbz) (OwnCut [[sv a.name,iv a.row,vsl a.old,vsl a.nw]] 1 0 0 0)]),(5,[sqx (h:=zbz) (OwnCut [[sv a.name,iv a.row,vsl a.old,vsl a.nw]] 1 0 1 (↑1:Int))]),(6,[sqx (h:=zbz) (1=1/\AllLen [] 4/\1=1/\Nat.le 0 1)])] [[5,2,6]] [(0,AV.os 0 1 0 0),(1,iv 0),(2,iv 1),(6,AV.nl),(7,iv (↑1:Int)),(8,AV.own 0 1),(9,iv 0),(10,iv 1),(11,AV.own 0 1),(12,iv (↑1:Int)),(13,AV.un),(14,iv 0),(15,iv 1),(16,AV.bl false),(18,AV.own 0 1),(19,iv (↑1:Int)),(20,AV.own 0 1),(21,iv 0),(22,AV.os 0 1 0 0),(23,AV.own 0 1),(24,iv 1),(25,AV.os 0 1 1 1),(26,AV.os 0 1 0 0)] [Blk.row Ty.Item [[sv a.name,iv a.row,vsl a.old,vsl a.nw]] false],sqx (h:=zbz) (1=1),sqx (h:=zbz) (OwnCut [[sv a.name,iv a.row,vsl a.old,vsl a.nw]] 1 0 (↑(Int.toNat 0+(List.drop (Int.toNat 1) (List.take (↑1:Int).toNat [[sv a.name,iv a.row,vsl a.old,vsl a.nw]])).length - 0):Int) (↑1:Int)),sqx (h:=zbz) (1=1)] kr)⟩
theorem ziY (a b:Itm):zab E0 S.A6 [.own 0 2,iv 0,iv 1] [.row Ty.Item [a.cells,b.cells] false] (.os 0 2 0 1) [.row Ty.Item [b.cells,itZ.cells] false]:=by
 obtain ⟨_,_,⟨rfl,rfl⟩,h⟩:=c_sdI2 a b
 exact h
theorem ziX (a b:Itm):zab E0 S.A6 [.os 0 2 0 1,iv 0,iv 1] [.row Ty.Item [a.cells,b.cells] false] (.os 0 2 0 0) [.row Ty.Item [itZ.cells,b.cells] false]:=by
 obtain ⟨_,_,⟨rfl,rfl⟩,h⟩:=c_sdI1 a b
 exact h
theorem ziW (a:Itm):zab E0 S.A6 [.own 0 1,iv 0,iv 1] [.row Ty.Item [a.cells] false] (.os 0 1 0 0) [.row Ty.Item [itZ.cells] false]:=by
 obtain ⟨_,_,⟨rfl,rfl⟩,h⟩:=c_sdI0 a
 exact h
end Go.AM
