/-
  Contracts of the program's functions, part 3.
-/
import Derived.Test.YtdofdnfkldbooaaGreatDoorFpC
import Derived.WideKeyRuns
import Derived.Laws.IdiomRangeMap
import Derived.Maps.RangeRun
set_option maxRecDepth 100000
set_option maxHeartbeats 40000000
set_option linter.unusedSimpArgs false
set_option linter.unusedVariables false
namespace Go.AM
def znk:Se:=⟨⟨#[]⟩,.mk 0 0 false ⟨0,0,⟨#[]⟩⟩ ⟨#[]⟩ ⟨#[]⟩ [] []⟩
def Ac.set0 (a:Ac):Se:=a.sets.headD znk
theorem zvr {α:Type} (p:α->Bool):∀ (l:List α) (i:Nat),idxF p l i < ((i+l.length:Nat):Int)\/idxF p l i=-1
 | [],i=>.inr rfl
 | x::r,i=>by
  simp only [idxF]
  cases p x
  ·rcases zvr p r (i+1) with h|h
   ·exact .inl (by simp only [List.length_cons];simpa [Nat.add_assoc,Nat.add_comm 1] using h)
   ·exact .inr h
  ·exact .inl (by simp only [List.length_cons,cond_true];omega)
structure NwOk (nw:List V):Prop where
 len:nw.length<=1000
 good:∀ v∈nw,v.Good
theorem NwOk.short {nw:List V} (h:NwOk nw):zac nw:=by have:=h.len;simp only [zac];omega
structure TrOk (n:Nat) (t:Tg):Prop where
 acts:zac t.acts
 sets:∀ a∈t.acts,XOk n a.set0.ex
 when_:∀ x∈t.when_,XOk n x
theorem zg3 {p:Prop} (h:p:=by first|assumption|omega|(simp;done)|(simp;omega)):p:=h
abbrev za0 (s:Str):List AV:=[sv s]
theorem zww (l:List Str) (hl:zac l):Good E0 B.A8 [] (zcD (zfj B.A8 [.sl (l.map za0)] [] 0) false) (fun r h=>r=.own 0 l.length/\h=[.row Ty.string (l.map za0) false]) :=
 zdn E0ok mix0 3000 (y:=AV.own 0 (List.map za0 l).length) (H:=[Blk.row Ty.string (List.map za0 l) false]) [sb Zf,sqx (AllLen (List.map za0 l) 1/\((List.map za0 l).length * 16).le 140737488355328)] kr (⟨by simp,rfl⟩)
theorem zwx:Good E0 B.A8 [] (zcD (zfj B.A8 [.sl []] [] 0) true) (fun r h=>r=.nl/\h=[]) :=
 zdn E0ok mix0 3000 (y:=AV.nl) (H:=[]) [sb Zt] kr (⟨rfl,rfl⟩)
theorem zdA (l:List Str) (hl:zac l):zab E0 S.A8 [.sl (l.map za0)] [] (.own 0 l.length) [.row Ty.string (l.map za0) false]:=by
 refine zaY At.A8 rfl kr (Nat.le_of_ble_eq_true kr) (zdW E0ok mix0 3000 [] (List.range 40) 0 (c':=zfj B.A8 [.sl (l.map za0)] [] 0) kr kr (zgE E0ok (xs:=l.map za0) (e:=true) kr fun b hb=>?_))
 cases b with
 | false=>exact zww l hl
 | true =>
  cases l with
  | nil=>exact zd0 Ty.string zwx ⟨rfl,rfl⟩
  | cons x r=>exact absurd (hb Zs) Zs
theorem zzE (l:List Rk) (hl:zac l):Good E0 B.Bl [] (zcD (zfj B.Bl [.sl (l.map Rk.cells)] [] 0) false) (fun r h=>r=.own 0 l.length/\h=[.row Ty.Rank (l.map Rk.cells) false]) :=
 zdn E0ok mix0 3000 (y:=AV.own 0 (List.map Rk.cells l).length) (H:=[Blk.row Ty.Rank (List.map Rk.cells l) false]) [sb Zf,sqx (AllLen (List.map Rk.cells l) 4/\((List.map Rk.cells l).length * 48).le 140737488355328)] kr (⟨by simp,rfl⟩)
theorem zzF:Good E0 B.Bl [] (zcD (zfj B.Bl [.sl []] [] 0) true) (fun r h=>r=.nl/\h=[]) :=
 zdn E0ok mix0 3000 (y:=AV.nl) (H:=[]) [sb Zt] kr (⟨rfl,rfl⟩)
theorem zmw (l:List Rk) (hl:zac l):zab E0 S.Bl [.sl (l.map Rk.cells)] [] (.own 0 l.length) [.row Ty.Rank (l.map Rk.cells) false]:=by
 refine zaY At.Bl rfl kr (Nat.le_of_ble_eq_true kr) (zdW E0ok mix0 3000 [] (List.range 40) 0 (c':=zfj B.Bl [.sl (l.map Rk.cells)] [] 0) kr kr (zgE E0ok (xs:=l.map Rk.cells) (e:=true) kr fun b hb=>?_))
 cases b with
 | false=>exact zzE l hl
 | true =>
  cases l with
  | nil=>exact zd0 Ty.Rank zzF ⟨rfl,rfl⟩
  | cons x r=>exact absurd (hb Zs) Zs
@[simp] theorem cellsQ_app (a b:List Qy):zal (a++b)=zal a++zal b:=by simp [zeC]
noncomputable def zo6 (l:List X) (i:Nat) (out:List X):Cfg:=zan B.Bv 0 [(1,.fn S.A9 []),(5,.own 0 out.length),(8,.sl (zad l)),(9,iv ((zad l).length:Nat)),(10,iv (i:Nat))] [.row Ty.Expr (zad out) false]
theorem Zcv3 {p:Prop} (h:p:=by first|rfl|(simp;done)|(simp [X.cells,Qy.cells,V.cells,Col.cells,Rw.cells,Tb.cells,Fr.cells,Sch.cells,Tp.cells,Pl.cells,xCol,xLit,xBin,xNeg,Im.cells,Lk.cells];done)):p:=h
theorem zgd (l:List X) (hl:zac l) (hf:∀ x∈l,zab E0 S.A9 [x.av] [] x.av []) (i:Nat) (out:List X) (hi:i<=(l).length) (hI:out=l.take i):∃ (out':List X),(out'=l.take (l).length)/\(decide ((((l).length:Nat):Int) < (((zad l).length:Nat):Int))=false)/\∀ R,Good E0 B.Bv [] (zo6 l (l).length out') R->Good E0 B.Bv [] (zo6 l i out) R:=by
 have hk:=hi;revert i out;refine zlp ((l).length) (fun i hlt ih out hi hI _=>?_)
 obtain ⟨x,hx,h0,hw⟩:=zlq (l:=l) ((zad l).length) hlt
 have hfx:=hf x (List.mem_of_getElem? hx)
 have ho:out.length<=1000000000:=by rw [hI,List.length_take];simp only [zac] at hl;omega
 exact Zih (ih (out++[x]) Zo (by rw [List.take_add_one,hx,hI];rfl) Zo) fun R gY=>zaa (wkl [sb h0,se (zak hx),sc hfx,sqA (zad out) [x.cells] out.length 10 136,si hw] [1,5,8,9,10] 1 kr (zaE 5 0 (zad out++[x.cells]) gY (he:=Zcv3) (hm:=Zcv3)))
theorem zlx (l:List X) (hl:zac l) (hf:∀ x∈l,zab E0 S.A9 [x.av] [] x.av []):∃ (r:List X),r=l/\zab E0 S.Bv [.sl (zad l),.fn S.A9 []] [] (.sl (zad r)) []:=by
 obtain ⟨out1,q1,q1_1,g1⟩:=zgd l Za Za 0 ([]) Za Za
 exact ⟨out1,by first|assumption|(rw [List.take_length] at *;assumption),wkc At.Bv (c':=(Cfg.mk (zo6 l 0 []).n (zo6 l 0 []).todo [(1,AV.fn S.A9 []),(5,AV.nl),(8,AV.sl (zad l)),(9,iv (↑(zad l).length:Int)),(10,iv 0)] [])) [] [1,5,8,9,10] 0 kr (zcl (c':=zo6 l 0 []) 5 Ty.Expr [1,5,8,9,10] 1 kr kr kr (g1 _ (zaa (wkr [sqx (out1.length=(zad out1).length),sb q1_1] kr))))⟩
theorem zfT (l:List X) (hl:zac l) (hf:∀ x∈l,zab E0 S.A9 [x.av] [] x.av []):zab E0 S.Bv [.sl (zad l),.fn S.A9 []] [] (.sl (zad l)) []:=by
 obtain ⟨r,rfl,h⟩:=zlx l hl hf
 exact h
noncomputable def zo4 (l:List Qy) (i:Nat) (out:List Qy):Cfg:=zan B.Bp 0 [(1,.fn S.BK []),(5,.own 0 out.length),(8,.sl (zal l)),(9,iv ((zal l).length:Nat)),(10,iv (i:Nat))] [.row Ty.Query (zal out) false]
theorem zfF (l:List Qy) (hl:zac l) (hf:∀ x∈l,zab E0 S.BK [x.av] [] x.av []) (i:Nat) (out:List Qy) (hi:i<=(l).length) (hI:out=l.take i):∃ (out':List Qy),(out'=l.take (l).length)/\(decide ((((l).length:Nat):Int) < (((zal l).length:Nat):Int))=false)/\∀ R,Good E0 B.Bp [] (zo4 l (l).length out') R->Good E0 B.Bp [] (zo4 l i out) R:=by
 have hk:=hi;revert i out;refine zlp ((l).length) (fun i hlt ih out hi hI _=>?_)
 obtain ⟨x,hx,h0,hw⟩:=zlq (l:=l) ((zal l).length) hlt
 have hfx:=hf x (List.mem_of_getElem? hx)
 have ho:out.length<=1000000000:=by rw [hI,List.length_take];simp only [zac] at hl;omega
 exact Zih (ih (out++[x]) Zo (by rw [List.take_add_one,hx,hI];rfl) Zo) fun R gY=>zaa (wkl [sb h0,se (zba hx),sc hfx,sqA (zal out) [x.cells] out.length 4 72,si hw] [1,5,8,9,10] 1 kr (zaE 5 0 (zal out++[x.cells]) gY (he:=Zcv3) (hm:=Zcv3)))
theorem zkG (l:List Qy) (hl:zac l) (hf:∀ x∈l,zab E0 S.BK [x.av] [] x.av []):∃ (r:List Qy),r=l/\zab E0 S.Bp [.sl (zal l),.fn S.BK []] [] (.sl (zal r)) []:=by
 obtain ⟨out1,q1,q1_1,g1⟩:=zfF l Za Za 0 ([]) Za Za
 exact ⟨out1,by first|assumption|(rw [List.take_length] at *;assumption),wkc At.Bp (c':=(Cfg.mk (zo4 l 0 []).n (zo4 l 0 []).todo [(1,AV.fn S.BK []),(5,AV.nl),(8,AV.sl (zal l)),(9,iv (↑(zal l).length:Int)),(10,iv 0)] [])) [] [1,5,8,9,10] 0 kr (zcl (c':=zo4 l 0 []) 5 Ty.Query [1,5,8,9,10] 1 kr kr kr (g1 _ (zaa (wkr [sqx (out1.length=(zal out1).length),sb q1_1] kr))))⟩
theorem zfv (l:List Qy) (hl:zac l) (hf:∀ x∈l,zab E0 S.BK [x.av] [] x.av []):zab E0 S.Bp [.sl (zal l),.fn S.BK []] [] (.sl (zal l)) []:=by
 obtain ⟨r,rfl,h⟩:=zkG l hl hf
 exact h
theorem ztd (l:List X) (hl:zac l) (hf:∀ x∈l,zab E0 S.A9 [x.av] [] x.av []):∃ (r:List X),r=l/\zab E0 S.BS [xsl l] [] (xsl r) []:=by
 exact ⟨l,by rfl,wk At.BS [sc (zfT l zg3 zg3)] kr⟩
theorem zen (l:List X) (hl:zac l) (hf:∀ x∈l,zab E0 S.A9 [x.av] [] x.av []):zab E0 S.BS [xsl l] [] (xsl l) []:=by
 obtain ⟨r,rfl,h⟩:=ztd l hl hf
 exact h
theorem zmN (q:Qy) (hl:zac q.items) (hl2:zac q.wh) (hf:∀ x∈q.items,zab E0 S.A9 [x.av] [] x.av []) (hf2:∀ x∈q.wh,zab E0 S.A9 [x.av] [] x.av []):∃ (r:Qy),r=q/\zab E0 S.BK [q.av] [] r.av []:=by
 exact ⟨q,by rfl,wk At.BK [sd [(2,[sc (zen q.items zg3 zg3)]),(5,[sc (zen q.wh zg3 zg3)])]] kr⟩
theorem zuA (e:X) (hl:zac e.args) (hl2:zac e.sub) (hf:∀ x∈e.args,zab E0 S.A9 [x.av] [] x.av []) (hf2:∀ x∈e.sub,zab E0 S.BK [x.av] [] x.av []):∃ (r:X),r=e/\zab E0 S.A9 [e.av] [] r.av []:=by
 exact ⟨e,by rfl,wk At.A9 [sd [(2,[sc (zfT e.args zg3 zg3)]),(5,[sc (zfv e.sub zg3 zg3)])]] kr⟩
def XSh:Nat->X->Prop
 | 0,_=>False
 | n+1,e=>(zac e.args/\zac e.sub)/\(∀ x∈e.args,XSh n x)/\∀ q∈e.sub,(zac q.items/\zac q.wh)/\(∀ x∈q.items,XSh n x)/\∀ x∈q.wh,XSh n x
theorem XOk.sh:∀ {n:Nat} {e:X},XOk n e->XSh n e
 | 0,_,h=>h.elim
 | _+1,_,⟨_,h2,h3,h4⟩=>⟨⟨h2.1.short,h2.2.short⟩,fun x hx=>(h3 x hx).sh,fun q hq=>⟨⟨(h4 q hq).1.1.short,(h4 q hq).1.2.short⟩,fun x hx=>((h4 q hq).2.1 x hx).sh,fun x hx=>((h4 q hq).2.2 x hx).sh⟩⟩
theorem zbV:∀ (n:Nat) (e:X),XSh n e->zab E0 S.A9 [e.av] [] e.av []
 | 0,_,h=>h.elim
 | n+1,e,h=>by
  obtain ⟨h2,h3,h4⟩:=h
  obtain ⟨r,rfl,hr⟩:=zuA e h2.1 h2.2 (fun x hx=>zbV n x (h3 x hx)) (fun q hq=>by
   obtain ⟨r,rfl,hr⟩:=zmN q (h4 q hq).1.1 (h4 q hq).1.2 (fun x hx=>zbV n x ((h4 q hq).2.1 x hx)) (fun x hx=>zbV n x ((h4 q hq).2.2 x hx))
   exact hr)
  exact hr
structure QW (n:Nat) (q:Qy):Prop where
 items:Few q.items
 wh:Few q.wh
 hi:∀ x∈q.items,XOk n x
 hw:∀ x∈q.wh,XOk n x
structure QSh (n:Nat) (q:Qy):Prop where
 items:zac q.items
 wh:zac q.wh
 hi:∀ x∈q.items,XSh n x
 hw:∀ x∈q.wh,XSh n x
theorem QW.sh {n:Nat} {q:Qy} (h:QW n q):QSh n q:=⟨zaD h.items,zaD h.wh,fun x hx=>(h.hi x hx).sh,fun x hx=>(h.hw x hx).sh⟩
theorem zpz (n:Nat) (q:Qy) (h:QSh n q):zab E0 S.BK [q.av] [] q.av []:=by
 obtain ⟨r,rfl,hr⟩:=zmN q h.items h.wh (fun x hx=>zbV n x (h.hi x hx)) (fun x hx=>zbV n x (h.hw x hx))
 exact hr
theorem zjY {p:Prop} (h:p:=by first|assumption|omega|(simp;done)|(simp;omega)):p:=h
abbrev zaA (r:List X):List AV:=[.sl (zad r)]
theorem zwo (s:Se) (hf:zab E0 S.A9 [s.ex.av] [] s.ex.av []):∃ (r:Se),r=s/\zab E0 S.Ch [.agg s.cells] [] (.agg r.cells) []:=by
 exact ⟨s,by rfl,wk At.Ch [sd [(4,[sc hf])]] kr⟩
theorem zwM (n:Nat) (s:Se) (h:XSh n s.ex):zab E0 S.Ch [.agg s.cells] [] (.agg s.cells) []:=by
 obtain ⟨r,rfl,hr⟩:=zwo s (zbV n s.ex h)
 exact hr
noncomputable def zo3 (l:List (List X)) (i:Nat) (out:List (List X)):Cfg:=zan B.Bo 0 [(1,.fn S.BS []),(5,.own 0 out.length),(8,.sl ((l).map zaA)),(9,iv (((l).map zaA).length:Nat)),(10,iv (i:Nat))] [.row Ty.LExpr ((out).map zaA) false]
theorem Zcv2 {p:Prop} (h:p:=by first|rfl|(simp;done)|(simp [X.cells,Qy.cells,V.cells,Col.cells,Rw.cells,Tb.cells,Fr.cells,Sch.cells,Tp.cells,Pl.cells,xCol,xLit,xBin,xNeg,Im.cells,Lk.cells,Ac.cells,Se.cells,Tg.cells];done)):p:=h
theorem zfE (l:List (List X)) (hl:zac l) (hf:∀ x∈l,zab E0 S.BS [xsl x] [] (xsl x) []) (i:Nat) (out:List (List X)) (hi:i<=(l).length) (hI:out=l.take i):∃ (out':List (List X)),(out'=l.take (l).length)/\(decide ((((l).length:Nat):Int) < ((((l).map zaA).length:Nat):Int))=false)/\∀ R,Good E0 B.Bo [] (zo3 l (l).length out') R->Good E0 B.Bo [] (zo3 l i out) R:=by
 have hk:=hi;revert i out;refine zlp ((l).length) (fun i hlt ih out hi hI _=>?_)
 obtain ⟨x,hx,h0,hw⟩:=zlq (l:=l) (((l).map zaA).length) hlt
 have hfx:=hf x (List.mem_of_getElem? hx)
 have ho:out.length<=1000000000:=by rw [hI,List.length_take];simp only [zac] at hl;omega
 exact Zih (ih (out++[x]) Zo (by rw [List.take_add_one,hx,hI];rfl) Zo) fun R gY=>zaa (wkl [sb h0,se (zai zaA hx rfl),sc hfx,sqA (List.map zaA out) [[AV.sl (zad x)]] out.length 1 24,si hw] [1,5,8,9,10] 1 kr (zaE 5 0 (List.map zaA out++[[AV.sl (zad x)]]) gY (he:=Zcv2) (hm:=Zcv2)))
theorem zkF (l:List (List X)) (hl:zac l) (hf:∀ x∈l,zab E0 S.BS [xsl x] [] (xsl x) []):∃ (r:List (List X)),r=l/\zab E0 S.Bo [.sl ((l).map zaA),.fn S.BS []] [] (.sl ((r).map zaA)) []:=by
 obtain ⟨out1,q1,q1_1,g1⟩:=zfE l Za Za 0 ([]) Za Za
 exact ⟨out1,by first|assumption|(rw [List.take_length] at *;assumption),wkc At.Bo (c':=(Cfg.mk (zo3 l 0 []).n (zo3 l 0 []).todo [(1,AV.fn S.BS []),(5,AV.nl),(8,AV.sl (List.map zaA l)),(9,iv (↑(List.map zaA l).length:Int)),(10,iv 0)] [])) [] [1,5,8,9,10] 0 kr (zcl (c':=zo3 l 0 []) 5 Ty.LExpr [1,5,8,9,10] 1 kr kr kr (g1 _ (zaa (wkr [sqx (out1.length=(List.map zaA out1).length),sb q1_1] kr))))⟩
theorem zkR (l:List (List X)) (hl:zac l) (hf:∀ x∈l,zab E0 S.BS [xsl x] [] (xsl x) []):zab E0 S.Bo [.sl ((l).map zaA),.fn S.BS []] [] (.sl ((l).map zaA)) []:=by
 obtain ⟨r,rfl,h⟩:=zkF l hl hf
 exact h
noncomputable def zo5 (l:List Se) (i:Nat) (out:List Se):Cfg:=zan B.BG 0 [(1,.fn S.Ch []),(5,.own 0 out.length),(8,.sl ((l).map Se.cells)),(9,iv (((l).map Se.cells).length:Nat)),(10,iv (i:Nat))] [.row Ty.Set ((out).map Se.cells) false]
theorem zgl (l:List Se) (hl:zac l) (hf:∀ x∈l,zab E0 S.Ch [.agg x.cells] [] (.agg x.cells) []) (i:Nat) (out:List Se) (hi:i<=(l).length) (hI:out=l.take i):∃ (out':List Se),(out'=l.take (l).length)/\(decide ((((l).length:Nat):Int) < ((((l).map Se.cells).length:Nat):Int))=false)/\∀ R,Good E0 B.BG [] (zo5 l (l).length out') R->Good E0 B.BG [] (zo5 l i out) R:=by
 have hk:=hi;revert i out;refine zlp ((l).length) (fun i hlt ih out hi hI _=>?_)
 obtain ⟨x,hx,h0,hw⟩:=zlq (l:=l) (((l).map Se.cells).length) hlt
 have hfx:=hf x (List.mem_of_getElem? hx)
 have ho:out.length<=1000000000:=by rw [hI,List.length_take];simp only [zac] at hl;omega
 exact Zih (ih (out++[x]) Zo (by rw [List.take_add_one,hx,hI];rfl) Zo) fun R gY=>zaa (wkl [sb h0,se (zai Se.cells hx rfl),sc hfx,sqA (List.map Se.cells out) [(sv x.col::x.ex.cells)] out.length 11 152,si hw] [1,5,8,9,10] 1 kr (zaE 5 0 (List.map Se.cells out++[(sv x.col::x.ex.cells)]) gY (he:=Zcv2) (hm:=Zcv2)))
theorem zmm (l:List Se) (hl:zac l) (hf:∀ x∈l,zab E0 S.Ch [.agg x.cells] [] (.agg x.cells) []):∃ (r:List Se),r=l/\zab E0 S.BG [.sl ((l).map Se.cells),.fn S.Ch []] [] (.sl ((r).map Se.cells)) []:=by
 obtain ⟨out1,q1,q1_1,g1⟩:=zgl l Za Za 0 ([]) Za Za
 exact ⟨out1,by first|assumption|(rw [List.take_length] at *;assumption),wkc At.BG (c':=(Cfg.mk (zo5 l 0 []).n (zo5 l 0 []).todo [(1,AV.fn S.Ch []),(5,AV.nl),(8,ZE l),(9,iv (↑(List.map Se.cells l).length:Int)),(10,iv 0)] [])) [] [1,5,8,9,10] 0 kr (zcl (c':=zo5 l 0 []) 5 Ty.Set [1,5,8,9,10] 1 kr kr kr (g1 _ (zaa (wkr [sqx (out1.length=(List.map Se.cells out1).length),sb q1_1] kr))))⟩
theorem zms (l:List Se) (hl:zac l) (hf:∀ x∈l,zab E0 S.Ch [.agg x.cells] [] (.agg x.cells) []):zab E0 S.BG [.sl ((l).map Se.cells),.fn S.Ch []] [] (.sl ((l).map Se.cells)) []:=by
 obtain ⟨r,rfl,h⟩:=zmm l hl hf
 exact h
structure AcOk (n:Nat) (a:Ac):Prop where
 rows:Few a.rows
 row:∀ r∈a.rows,Few r/\∀ x∈r,XOk n x
 query:Few a.query
 qs:∀ q∈a.query,QW n q
 sets:Few a.sets
 set:∀ s∈a.sets,XOk n s.ex
 wh:Few a.wh
 w:∀ x∈a.wh,XOk n x
structure AcSh (n:Nat) (a:Ac):Prop where
 rows:zac a.rows
 row:∀ r∈a.rows,zac r/\∀ x∈r,XSh n x
 query:zac a.query
 qs:∀ q∈a.query,QSh n q
 sets:zac a.sets
 set:∀ s∈a.sets,XSh n s.ex
 wh:zac a.wh
 w:∀ x∈a.wh,XSh n x
theorem AcOk.sh {n:Nat} {a:Ac} (h:AcOk n a):AcSh n a :=
 ⟨zaD h.rows,fun r hr=>⟨zaD (h.row r hr).1,fun x hx=>((h.row r hr).2 x hx).sh⟩,zaD h.query,fun q hq=>(h.qs q hq).sh,zaD h.sets,fun s hs=>(h.set s hs).sh,zaD h.wh,fun x hx=>(h.w x hx).sh⟩
def RowsCp (l:List (List X)):Prop:=∀ x∈l,zab E0 S.BS [xsl x] [] (xsl x) []
theorem zrv (n:Nat) (a:Ac) (h:AcSh n a) (h1:zac a.rows) (h2:zac a.query) (h3:zac a.sets) (h4:zac a.wh) (hr:RowsCp a.rows) (hq:∀ x∈a.query,zab E0 S.BK [x.av] [] x.av []) (hs:∀ x∈a.sets,zab E0 S.Ch [.agg x.cells] [] (.agg x.cells) []) (hw:∀ x∈a.wh,zab E0 S.A9 [x.av] [] x.av []):∃ (r:Ac),r=a/\zab E0 S.BJ [a.av] [] r.av []:=by
 exact ⟨a,by rfl,wk At.BJ [sd [(2,[sc (zkR a.rows (by first|assumption|exact hr) (by first|assumption|exact hr))]),(5,[sc (zfv a.query (by first|assumption|exact hr) (by first|assumption|exact hr))]),(8,[sc (zms a.sets (by first|assumption|exact hr) (by first|assumption|exact hr))]),(11,[sc (zen a.wh (by first|assumption|exact hr) (by first|assumption|exact hr))])]] kr⟩
theorem zrL (n:Nat) (a:Ac) (h:AcSh n a):zab E0 S.BJ [a.av] [] a.av []:=by
 obtain ⟨r,rfl,hr⟩:=zrv n a h h.rows h.query h.sets h.wh
  (fun x hx=>zen x (h.row x hx).1 fun y hy=>zbV n y ((h.row x hx).2 y hy))
  (fun q hq=>zpz n q (h.qs q hq)) (fun s hs=>zwM n s (h.set s hs)) (fun x hx=>zbV n x (h.w x hx))
 exact hr
noncomputable def zo2 (l:List Ac) (i:Nat) (out:List Ac):Cfg:=zan B.Be 0 [(1,.fn S.BJ []),(5,.own 0 out.length),(8,.sl ((l).map Ac.cells)),(9,iv (((l).map Ac.cells).length:Nat)),(10,iv (i:Nat))] [.row Ty.Action ((out).map Ac.cells) false]
theorem zfp (l:List Ac) (hl:zac l) (hf:∀ x∈l,zab E0 S.BJ [.agg x.cells] [] (.agg x.cells) []) (i:Nat) (out:List Ac) (hi:i<=(l).length) (hI:out=l.take i):∃ (out':List Ac),(out'=l.take (l).length)/\(decide ((((l).length:Nat):Int) < ((((l).map Ac.cells).length:Nat):Int))=false)/\∀ R,Good E0 B.Be [] (zo2 l (l).length out') R->Good E0 B.Be [] (zo2 l i out) R:=by
 have hk:=hi;revert i out;refine zlp ((l).length) (fun i hlt ih out hi hI _=>?_)
 obtain ⟨x,hx,h0,hw⟩:=zlq (l:=l) (((l).map Ac.cells).length) hlt
 have hfx:=hf x (List.mem_of_getElem? hx)
 have ho:out.length<=1000000000:=by rw [hI,List.length_take];simp only [zac] at hl;omega
 exact Zih (ih (out++[x]) Zo (by rw [List.take_add_one,hx,hI];rfl) Zo) fun R gY=>zaa (wkl [sb h0,se (zai Ac.cells hx rfl),sc hfx,sqA (List.map Ac.cells out) [[iv x.kind,sv x.table,AV.sl (List.map (fun r=>[AV.sl (zad r)]) x.rows),AV.sl (zal x.query),ZE x.sets,AV.sl (zad x.wh),sv x.text]] out.length 7 136,si hw] [1,5,8,9,10] 1 kr (zaE 5 0 (List.map Ac.cells out++[[iv x.kind,sv x.table,AV.sl (List.map (fun r=>[AV.sl (zad r)]) x.rows),AV.sl (zal x.query),ZE x.sets,AV.sl (zad x.wh),sv x.text]]) gY (he:=Zcv2) (hm:=Zcv2)))
theorem zkd (l:List Ac) (hl:zac l) (hf:∀ x∈l,zab E0 S.BJ [.agg x.cells] [] (.agg x.cells) []):∃ (r:List Ac),r=l/\zab E0 S.Be [.sl ((l).map Ac.cells),.fn S.BJ []] [] (.sl ((r).map Ac.cells)) []:=by
 obtain ⟨out1,q1,q1_1,g1⟩:=zfp l Za Za 0 ([]) Za Za
 exact ⟨out1,by first|assumption|(rw [List.take_length] at *;assumption),wkc At.Be (c':=(Cfg.mk (zo2 l 0 []).n (zo2 l 0 []).todo [(1,AV.fn S.BJ []),(5,AV.nl),(8,ZA l),(9,iv (↑(List.map Ac.cells l).length:Int)),(10,iv 0)] [])) [] [1,5,8,9,10] 0 kr (zcl (c':=zo2 l 0 []) 5 Ty.Action [1,5,8,9,10] 1 kr kr kr (g1 _ (zaa (wkr [sqx (out1.length=(List.map Ac.cells out1).length),sb q1_1] kr))))⟩
theorem zkh (l:List Ac) (hl:zac l) (hf:∀ x∈l,zab E0 S.BJ [.agg x.cells] [] (.agg x.cells) []):zab E0 S.Be [.sl ((l).map Ac.cells),.fn S.BJ []] [] (.sl ((l).map Ac.cells)) []:=by
 obtain ⟨r,rfl,h⟩:=zkd l hl hf
 exact h
structure TgOk (n:Nat) (t:Tg):Prop where
 of:Few t.of
 prec:Few t.prec
 foll:Few t.foll
 rank:Few t.rank
 whens:Few t.when_
 when_:∀ x∈t.when_,XOk n x
 acts:Few t.acts
 act:∀ a∈t.acts,AcOk n a
structure TgSh (n:Nat) (t:Tg):Prop where
 of:zac t.of
 prec:zac t.prec
 foll:zac t.foll
 rank:zac t.rank
 whens:zac t.when_
 when_:∀ x∈t.when_,XSh n x
 acts:zac t.acts
 act:∀ a∈t.acts,AcSh n a
theorem TgOk.sh {n:Nat} {t:Tg} (h:TgOk n t):TgSh n t :=
 ⟨zaD h.of,zaD h.prec,zaD h.foll,zaD h.rank,zaD h.whens,fun x hx=>(h.when_ x hx).sh,zaD h.acts,fun a ha=>(h.act a ha).sh⟩
theorem zqy (n:Nat) (t:Tg) (h1:zac t.of) (h2:zac t.prec) (h3:zac t.foll) (h4:zac t.rank) (h5:zac t.when_) (h6:zac t.acts) (hw:∀ x∈t.when_,zab E0 S.A9 [x.av] [] x.av []) (ha:∀ x∈t.acts,zab E0 S.BJ [.agg x.cells] [] (.agg x.cells) []):∃ (r:Tg),r=t/\zab E0 S.CS [t.av] [] r.av []:=by
 exact ⟨t,by rfl,wk At.CS [sqx (True/\True/\True/\True/\t.of.length=(List.map za0 t.of).length/\True/\t.prec.length=(List.map za0 t.prec).length/\t.foll.length=(List.map za0 t.foll).length/\t.rank.length=(List.map Rk.cells t.rank).length/\True/\True/\True),sd [(2,[sc (zdA t.of zjY)]),(5,[sc (zdA t.prec zjY)]),(8,[sc (zdA t.foll zjY)]),(11,[sc (zmw t.rank zjY)])],sd [(2,[sc (zen t.when_ zjY zjY)]),(5,[sc (zkh t.acts zjY zjY)])]] kr⟩
theorem zgH (n:Nat) (t:Tg) (h:TgSh n t):zab E0 S.CS [t.av] [] t.av []:=by
 obtain ⟨r,rfl,hr⟩:=zqy n t h.of h.prec h.foll h.rank h.whens h.acts
  (fun x hx=>zbV n x (h.when_ x hx)) (fun a ha=>zrL n a (h.act a ha))
 exact hr
theorem zjZ {p:Prop} (h:p:=by rw [List.take_add_one,hx,List.filter_append,← hI];clear hI;simp only [Option.toList_some,List.filter_cons,List.filter_nil,appl,cond_true,cond_false,if_true, *] <;> try simp):p:=h
theorem zg4 {p:Prop} (h:p:=by first|assumption|omega|(simp;done)|(simp;omega)):p:=h
theorem zj0 {p:Prop} (h:p:=by first|assumption|exact hTx|omega):p:=h
noncomputable def L_stIx (l:List Str) (v:Str) (i:Nat) :Cfg:=zan B.BX 0 [(0,.sl (l.map za0)),(1,sv v),(7,iv ((l.map za0).length:Nat)),(8,iv (i:Nat))] []
def stIx (l:List Str) (v:Str):List (Str)->Nat->Int
 | [],i =>
  -1
 | x::r,i =>
  bif ByteArray.toList v==ByteArray.toList x then
   (i:Int)
  else
   stIx l v r (i+1)
theorem zuV (l:List Str) (v:Str) (hl:zac l):∀ (kk i:Nat),i+kk=(l).length->Good E0 B.BX [] (L_stIx l v i ) (Shut 0 fun r h=>r=(iv (stIx l v ((l).drop i) i ))/\h=[]):=by
 intro kk
 induction kk with
 | zero =>
  intro i  hi
  have h0:decide (((i:Nat):Int) < (((l.map za0).length:Nat):Int))=false:=by simp;omega
  have e0:(l).drop i=[]:=List.drop_of_length_le Zo
  rw [e0]
  simp only [stIx]
  refine zaa ?_
  exact wkr [sb h0] kr
 | succ kk ih =>
  intro i  hi
  obtain ⟨x,hx⟩:=zbK (l:=l) (i:=i) Zo
  have h0:decide (((i:Nat):Int) < (((l.map za0).length:Nat):Int))=true:=by simp;omega
  have hw:=zbw i (by first|omega|(simp only [zac,Few] at *;omega))
  rw [zcN hx]
  simp only [stIx]
  refine zaa ?_
  cases h1:ByteArray.toList v==ByteArray.toList x
  ·exact wkl [sb h0,se (zai za0 hx rfl),sb h1,si hw] [0,1,7,8] 0 kr (ih (i+1) Zo )
  ·exact wkr [sb h0,se (zai za0 hx rfl),sb h1] kr
def zqX (l:List Str) (v:Str):Int :=
 stIx l v l (0)
theorem zkV (l:List Str) (v:Str) (hl:zac l):zab E0 S.BX [ssl l,sv v] [] (iv (zqX l v)) []:=by
 unfold zqX
 exact wkc At.BX [] [0,1,7,8] 0 kr (zuV l v hl l.length 0 Zs)
def hasS (l:List Str) (v:Str):Bool :=
 decide ((0:Int)<=zqX l v)
theorem zeo (l:List Str) (v:Str) (hl:zac l):zab E0 S.CA [ssl l,sv v] [] (bv (hasS l v)) []:=by
 exact wk At.CA [sc (zkV l v zg4)] kr
def hasC (v:Str) (l:List Str):Bool :=
 hasS l v
theorem ze1 (v:Str) (l:List Str) (hl:zac l):zab E0 S.BR [sv v,.p 0 0] [.box [ssl l]] (bv (hasC v l)) [.box [ssl l]]:=by
 exact wk At.BR [sc (zeo l v zg4)] kr
noncomputable def L_ofIx (l s:List Str) (i:Nat) :Cfg:=zan B.BB 0 [(0,ssl l),(1,.fn S.BR [.p 0 0]),(7,iv ((l.map za0).length:Nat)),(8,iv (i:Nat))] [.box [ssl s]]
def ofIx (l s:List Str):List (Str)->Nat->Int
 | [],i =>
  -1
 | x::r,i =>
  bif hasC x s then
   (i:Int)
  else
   ofIx l s r (i+1)
theorem zuO (l s:List Str) (hl:zac l) (hs:zac s):∀ (kk i:Nat),i+kk=(l).length->Good E0 B.BB [.box [ssl s]] (L_ofIx l s i ) (Shut 1 fun r h=>r=(iv (ofIx l s ((l).drop i) i ))/\h=[.box [ssl s]]):=by
 intro kk
 induction kk with
 | zero =>
  intro i  hi
  have h0:decide (((i:Nat):Int) < (((l.map za0).length:Nat):Int))=false:=by simp;omega
  have e0:(l).drop i=[]:=List.drop_of_length_le Zo
  rw [e0]
  simp only [ofIx]
  refine zaa ?_
  exact wkr [sb h0] kr
 | succ kk ih =>
  intro i  hi
  obtain ⟨x,hx⟩:=zbK (l:=l) (i:=i) Zo
  have h0:decide (((i:Nat):Int) < (((l.map za0).length:Nat):Int))=true:=by simp;omega
  have hw:=zbw i (by first|omega|(simp only [zac,Few] at *;omega))
  rw [zcN hx]
  simp only [ofIx]
  refine zaa ?_
  cases h1:hasC x s
  ·exact wkl [sb h0,se (zai (fun s=>[sv s]) hx rfl),sl [0] (ze1 x s zg4),sb h1,si hw] [0,1,7,8] 1 kr (ih (i+1) Zo )
  ·exact wkr [sb h0,se (zai (fun s=>[sv s]) hx rfl),sl [0] (ze1 x s zg4),sb h1] kr
def zqT (l s:List Str):Int :=
 ofIx l s l (0)
theorem zhV (l s:List Str) (hl:zac l) (hs:zac s):zab E0 S.BB [ssl l,.fn S.BR [.p 0 0]] [.box [ssl s]] (iv (zqT l s)) [.box [ssl s]]:=by
 unfold zqT
 exact wkc At.BB [] [0,1,7,8] 1 kr (zuO l s hl hs l.length 0 Zs)
def zsx (l s:List Str):Bool :=
 decide ((0:Int)<=zqT l s)
theorem zbW (l s:List Str) (hl:zac l) (hs:zac s):zab E0 S.Cr [ssl l,.fn S.BR [.p 0 0]] [.box [ssl s]] (bv (zsx l s)) [.box [ssl s]]:=by
 exact wk At.Cr [sl [0] (zhV l s zg4 zg4)] kr
def appl (table:Str) (ev:Int) (asg:List Str) (each:Bool) (t:Tg):Bool :=
 bif !t.before then false else bif !t.table.toList==table.toList then false else bif t.event != ev then false else bif !t.each==each then false else bif ev != 2 then true else bif (((t.of.map za0).length:Nat):Int)==0 then true else zsx t.of asg
noncomputable def zo1 (N:Nat) (ts:List Tg) (table:Str) (ev:Int) (asg:List Str) (each:Bool) (i:Nat) (out:List Tg):Cfg:=zan B.AU 0 [(1,sv table),(2,iv ev),(4,bv each),(8,.p 0 0),(11,.own 1 out.length),(15,.sl (ts.map Tg.cells)),(16,iv ((ts.map Tg.cells).length:Nat)),(17,iv (i:Nat))] [.box [ssl asg],.row Ty.Trigger (out.map Tg.cells) false]
theorem Zcv4 {p:Prop} (h:p:=by first|rfl|(simp;done)|(simp [X.cells,Qy.cells,V.cells,Col.cells,Rw.cells,Tb.cells,Fr.cells,Sch.cells,Tp.cells,Pl.cells,xCol,xLit,xBin,xNeg,Tg.cells];done)):p:=h
theorem zdt (N:Nat) (ts:List Tg) (table:Str) (ev:Int) (asg:List Str) (each:Bool) (hl:zac ts) (hs:zac asg) (hT:∀ t∈ts,TgSh N t) (i:Nat) (out:List Tg) (hi:i<=(ts).length) (hI:out=(ts.take i).filter (appl table ev asg each)):∃ (out':List Tg),(out'=(ts.take (ts).length).filter (appl table ev asg each))/\(decide ((((ts).length:Nat):Int) < (((ts.map Tg.cells).length:Nat):Int))=false)/\∀ R,Good E0 B.AU [] (zo1 N ts table ev asg each (ts).length out') R->Good E0 B.AU [] (zo1 N ts table ev asg each i out) R:=by
 have hk:=hi;revert i out;refine zlp ((ts).length) (fun i hlt ih out hi hI _=>?_)
 obtain ⟨x,hx,h0,hw⟩:=zlq (l:=ts) ((ts.map Tg.cells).length) hlt
 have hTx:=hT x (List.mem_of_getElem? hx)
 have hof:=hTx.of
 have ho:out.length<=1000000000:=by
  rw [hI];refine Nat.le_trans (List.length_filter_le _ _) ?_;rw [List.length_take];simp only [zac] at hl;omega
 cases h1:!x.before
 ·cases h2:!ByteArray.toList x.table==ByteArray.toList table
  ·cases h3:x.event != ev
   ·cases h4:!x.each==each
    ·cases h5:ev != 2
     ·cases h6:(↑(List.map (fun s=>[sv s]) x.of).length:Int)==0
      ·cases h7:zsx x.of asg
       ·exact Zih (ih out Zo zjZ Zo) fun R gY=>zaa (wkl [sb h0,se (zai Tg.cells hx rfl),sg h1,sg h2,sg h3,sb h4,sl [0] (zbW x.of asg zj0 zj0),sg h5,sg h6,sb h7,si hw] [1,2,4,8,11,15,16,17] 2 kr gY)
       ·exact Zih (ih (out++[x]) Zo zjZ Zo) fun R gY=>zaa (wkl [sb h0,se (zai Tg.cells hx rfl),sg h1,sg h2,sg h3,sb h4,sl [0] (zbW x.of asg zj0 zj0),sg h5,sg h6,sb h7,sc (zgH N x hTx),sqA (List.map Tg.cells out) [x.cells] out.length 11 200,si hw] [1,2,4,8,11,15,16,17] 2 kr (zaE 11 1 (List.map Tg.cells out++[x.cells]) gY (he:=Zcv4) (hm:=Zcv4)))
      ·exact Zih (ih (out++[x]) Zo zjZ Zo) fun R gY=>zaa (wkl [sb h0,se (zai Tg.cells hx rfl),sg h1,sg h2,sg h3,sb h4,sl [0] (zbW x.of asg zj0 zj0),sg h5,sb h6,sc (zgH N x hTx),sqA (List.map Tg.cells out) [x.cells] out.length 11 200,si hw] [1,2,4,8,11,15,16,17] 2 kr (zaE 11 1 (List.map Tg.cells out++[x.cells]) gY (he:=Zcv4) (hm:=Zcv4)))
     ·exact Zih (ih (out++[x]) Zo zjZ Zo) fun R gY=>zaa (wkl [sb h0,se (zai Tg.cells hx rfl),sg h1,sg h2,sg h3,sb h4,sl [0] (zbW x.of asg zj0 zj0),sb h5,sc (zgH N x hTx),sqA (List.map Tg.cells out) [x.cells] out.length 11 200,si hw] [1,2,4,8,11,15,16,17] 2 kr (zaE 11 1 (List.map Tg.cells out++[x.cells]) gY (he:=Zcv4) (hm:=Zcv4)))
    ·exact Zih (ih out Zo zjZ Zo) fun R gY=>zaa (wkl [sb h0,se (zai Tg.cells hx rfl),sg h1,sg h2,sg h3,sb h4,si hw] [1,2,4,8,11,15,16,17] 2 kr gY)
   ·exact Zih (ih out Zo zjZ Zo) fun R gY=>zaa (wkl [sb h0,se (zai Tg.cells hx rfl),sg h1,sg h2,sb h3,si hw] [1,2,4,8,11,15,16,17] 2 kr gY)
  ·exact Zih (ih out Zo zjZ Zo) fun R gY=>zaa (wkl [sb h0,se (zai Tg.cells hx rfl),sg h1,sb h2,si hw] [1,2,4,8,11,15,16,17] 2 kr gY)
 ·exact Zih (ih out Zo zjZ Zo) fun R gY=>zaa (wkl [sb h0,se (zai Tg.cells hx rfl),sb h1,si hw] [1,2,4,8,11,15,16,17] 2 kr gY)
theorem zmk (N:Nat) (ts:List Tg) (table:Str) (ev:Int) (asg:List Str) (each:Bool) (hl:zac ts) (hs:zac asg) (hT:∀ t∈ts,TgSh N t):∃ (out:List Tg),out=ts.filter (appl table ev asg each)/\zab E0 S.AU [.sl (ts.map Tg.cells),sv table,iv ev,ssl asg,bv each] [] (.sl (out.map Tg.cells)) []:=by
 obtain ⟨out1,q1,q1_1,g1⟩:=zdt N ts table ev asg each zg4 zg4 hT 0 ([]) zg4 zg4
 exact ⟨out1,by rw [List.take_length] at *;assumption,wkc At.AU (c':=(Cfg.mk (zo1 N ts table ev asg each 0 []).n (zo1 N ts table ev asg each 0 []).todo [(1,sv table),(2,iv ev),(4,bv each),(8,AV.p 0 0),(11,AV.nl),(15,ZG ts),(16,iv (↑(List.map Tg.cells ts).length:Int)),(17,iv 0)] [Blk.box [AV.sl (List.map (fun s=>[sv s]) asg)]])) [] [1,2,4,8,11,15,16,17] 1 kr (zcl (c':=zo1 N ts table ev asg each 0 []) 11 Ty.Trigger [1,2,4,8,11,15,16,17] 2 kr kr kr (g1 _ (zaa (wkr [sqx (out1.length=(List.map Tg.cells out1).length),sb q1_1] kr))))⟩
theorem zmq (N:Nat) (ts:List Tg) (table:Str) (ev:Int) (asg:List Str) (each:Bool) (hl:zac ts) (hs:zac asg) (hT:∀ t∈ts,TgSh N t):zab E0 S.AU [.sl (ts.map Tg.cells),sv table,iv ev,ssl asg,bv each] [] (.sl ((ts.filter (appl table ev asg each)).map Tg.cells)) []:=by
 obtain ⟨out,rfl,h⟩:=zmk N ts table ev asg each hl hs hT
 exact h
theorem zBw (l:List Int) (h:(l.take 500).length<=500):Tp.cells ⟨l.take 500,0,h⟩=[.sl (((l.map fun n=>[iv n]).take 500).drop 0),iv 0]:=by simp [Tp.cells,List.map_take]
theorem zu8 (l:List Int):∃ (t:Tp),zab E0 S.C3 [isl l] [] (.p 0 0) [.box t.cells]:=by
 cases h1:decide ((500:Int) < (((l.map fun n=>[iv n]).length:Nat):Int))
 ·exact ⟨⟨l,0,by simp at h1;omega⟩,wkK At.C3 [sb h1] kr⟩
 ·refine ⟨⟨l.take 500,0,by simp;omega⟩,?_⟩
  rw [zBw]
  exact wkK At.C3 [sb h1,sq (show SubAt (l.map fun n=>[iv n]) 0 500 1 from ⟨by decide,by decide,by simpa using Int.le_of_lt (by simpa using h1),by simp⟩)] kr
structure FsT (frs:List Fr):Prop where
 len:frs.length<=900
 rows:∀ f∈frs,zgX f.cols f.vals
 few:∀ f∈frs,Few f.cols
def schT:Sch:=⟨⟨#[116]⟩,[⟨⟨#[105,100]⟩,1,true,true⟩,⟨⟨#[110]⟩,1,false,false⟩,⟨⟨#[98]⟩,2,false,false⟩,⟨⟨#[115]⟩,3,false,false⟩]⟩
theorem zld:zaj ⟨#[116]⟩=schT:=by kernel_rfl
theorem zBm:SchOk schT:=zfo (by simp [zao,schT])
def kn:List Int:=[9223372036854775807,1,-1]
def zlc:Sch:=⟨⟨#[108,111,103]⟩,[⟨⟨#[110]⟩,1,false,false⟩,⟨⟨#[115]⟩,3,false,false⟩]⟩
theorem zj7:zaj ⟨#[108,111,103]⟩=zlc:=by kernel_rfl
/- known -/
@[simp] theorem ba_self (s:Str):(s==s)=true:=by
 cases s with
 | mk d =>
  have h:(d==d)=true:=by simp
  exact h
theorem TgOk.tr {n:Nat} {t:Tg} (h:TgOk (n+1) t):TrOk (n+1) t:=by
 refine ⟨zaD h.acts,fun a ha=>?_,h.when_⟩
 have h1:=(h.act a ha).set
 unfold Ac.set0
 cases hs:a.sets with
 | nil=>exact ⟨zb3,⟨by simp [znk],by simp [znk]⟩,fun x hx=>by simp [znk] at hx,fun q hq=>by simp [znk] at hq⟩
 | cons x r=>rw [hs] at h1;exact h1 x Zs
theorem zaF {p:Prop} (h:p:=by first|assumption|omega|(simp;done)|(simp;omega)):p:=h
theorem zcQ {p:Prop} (h:p:=by first|trivial|assumption|(simp;done)|omega|(simp;omega)|(simp at *;omega)):p:=h
theorem zkZ {p:Prop} (h:p:=by first|assumption|omega|exact List.mem_of_getElem? ‹_›|(simp;done)|(simp;omega)|(simp only [beq_eq_false_iff_ne,ne_eq,zmd,zdR,List.length_map,decide_eq_false_iff_not,decide_eq_true_eq] at *;omega)):p:=h
theorem ziN {p:Prop} (h:p:=by first|omega|(simp only [zac,Few] at *;omega)):p:=h
theorem zt2 {p:Prop} (h:p:=by first|omega|(simp only [decide_eq_false_iff_not,decide_eq_true_eq] at *;omega)):p:=h
theorem zs9 {s:Str} {i:Int} (h:0<=i/\i < ((s.size:Nat):Int)):∃ c:UInt8,ByteAt s i ((c.toNat:Nat):Int):=by
 obtain ⟨n,rfl⟩:=Int.eq_ofNat_of_zero_le h.1
 have hlt:n < s.size:=by omega
 exact ⟨s[n],⟨by omega,by simp [hlt]⟩⟩
theorem zmj (c:Int) :∃ (r:Bool),zab E0 S.CY [.v (.int .u8 c)] [] (bv r) []:=by
 cases h1:decide (97<=c)
 ·exact ⟨false,wk At.CY [sb h1] kr⟩
 ·exact ⟨decide (c<=(122:Int)),wk At.CY [sg h1] kr⟩
theorem zuv (c:Int) :∃ (r:Bool),zab E0 S.C0 [.v (.int .u8 c)] [] (bv r) []:=by
 cases h1:decide (48<=c)
 ·exact ⟨false,wk At.C0 [sb h1] kr⟩
 ·exact ⟨decide (c<=(57:Int)),wk At.C0 [sg h1] kr⟩
noncomputable def L_vn (s:Str) (i:Nat) :Cfg:=zan B.Bb 0 [(0,sv s),(3,iv (i:Nat))] []
theorem zid (s:Str) (hs:decide ((12:Int) < ((s.size:Nat):Int))=false) (i:Nat)  (hi:i<=(s.size)) (hI:True):((True)/\(decide ((((s.size):Nat):Int) < (((s.size):Nat):Int))=false)/\∀ R,Good E0 B.Bb [] (L_vn s s.size ) R->Good E0 B.Bb [] (L_vn s i ) R)\/(∃ (r:Bool),Good E0 B.Bb [] (L_vn s i ) (Shut 0 fun rZ hZ=>rZ=(bv r)/\hZ=[])):=by
 have hk:=hi;revert i hI;refine zlp s.size (fun i hlt ih hi hI _=>?_)
 have h0:decide (((i:Nat):Int) < (((s.size):Nat):Int))=true:=by simp;omega
 have hw:IntKind.i64.wrap (((i:Nat):Int)+1)=((i+1:Nat):Int):=zbw i (by (simp only [decide_eq_false_iff_not] at hs;omega))
 obtain ⟨c1,b1⟩:=zs9 (s:=s) (i:=(i:Int)) zt2
 obtain ⟨r2,c2⟩:=(zmj ((c1.toNat:Int)))
 cases h3:!r2
 ·exact zie1 (ih Zo zcQ Zo) fun R gY=>zaa (wkl [sb h0,sy b1,sc c2,sb h3,si hw] [0,3] 0 kr gY)
 ·obtain ⟨r4,c4⟩:=(zuv ((c1.toNat:Int)))
  let p_1:List St:=[sb h0,sy b1,sc c2,sg h3,sy b1,sc c4]
  cases h5:!r4
  ·exact zie1 (ih Zo zcQ Zo) fun R gY=>zaa (wkl (p_1++[sb h5,si hw]) [0,3] 0 kr gY)
  ·cases h6:(c1.toNat:Int) != 95
   ·exact zie1 (ih Zo zcQ Zo) fun R gY=>zaa (wkl (p_1++[sg h5,sy b1,sb h6,si hw]) [0,3] 0 kr gY)
   ·exact .inr ⟨false,zaa (wkr (p_1++[sg h5,sy b1,sb h6]) kr)⟩
theorem zau (s:Str) :∃ (r:Bool),zab E0 S.Bb [sv s] [] (bv r) []:=by
 cases h1:decide ((↑(ByteArray.size s):Int) < 1)
 ·cases h2:decide (12 < (↑(ByteArray.size s):Int))
  ·obtain ⟨c3,b3⟩:=zs9 (s:=s) (i:=(0:Int)) zt2
   obtain ⟨r4,c4⟩:=(zmj ((c3.toNat:Int)))
   cases h5:!r4
   ·rcases zid s zaF 0 zaF zaF with ⟨q6,q6_1,g6⟩|⟨r6_0,g6⟩
    ·exact ⟨true,wkc At.Bb [sg h1,sg h2,sy b3,sc c4,sb h5] [0,3] 0 kr (g6 _ (zaa (wkr [sb q6_1] kr)))⟩
    ·exact ⟨r6_0,wkc At.Bb [sg h1,sg h2,sy b3,sc c4,sb h5] [0,3] 0 kr (g6)⟩
   ·exact ⟨false,wk At.Bb [sg h1,sg h2,sy b3,sc c4,sb h5] kr⟩
  ·exact ⟨false,wk At.Bb [sg h1,sb h2] kr⟩
 ·exact ⟨false,wk At.Bb [sb h1] kr⟩
noncomputable def L_rv (v:V) (i:Nat) :Cfg:=zan B.A3 0 [(1,.p 0 0),(3,iv (i:Nat))] [.box [iv v.kind,iv v.int,sv v.text]]
theorem zlk (v:V) (hs:decide ((64:Int) < ((v.text.size:Nat):Int))=false) (i:Nat)  (hi:i<=(v.text.size)) (hI:True):((True)/\(decide ((((v.text.size):Nat):Int) < (((v.text.size):Nat):Int))=false)/\∀ R,Good E0 B.A3 [] (L_rv v v.text.size ) R->Good E0 B.A3 [] (L_rv v i ) R)\/(∃ (r:Bool),Good E0 B.A3 [] (L_rv v i ) (Shut 0 fun rZ hZ=>rZ=(bv r)/\hZ=[])):=by
 have hk:=hi;revert i hI;refine zlp v.text.size (fun i hlt ih hi hI _=>?_)
 have h0:decide (((i:Nat):Int) < (((v.text.size):Nat):Int))=true:=by simp;omega
 have hw:IntKind.i64.wrap (((i:Nat):Int)+1)=((i+1:Nat):Int):=zbw i (by (simp only [decide_eq_false_iff_not] at hs;omega))
 obtain ⟨c1,b1⟩:=zs9 (s:=v.text) (i:=(i:Int)) zt2
 cases h2:decide ((c1.toNat:Int) < 32)
 ·cases h3:decide (126 < (c1.toNat:Int))
  ·exact zie1 (ih Zo zcQ Zo) fun R gY=>zaa (wkl [sb h0,sy b1,sg h2,sy b1,sb h3,si hw] [1,3] 1 kr gY)
  ·exact .inr ⟨false,zaa (wkr [sb h0,sy b1,sg h2,sy b1,sb h3] kr)⟩
 ·exact .inr ⟨false,zaa (wkr [sb h0,sy b1,sb h2] kr)⟩
theorem zdE (v:V) :∃ (r:Bool),zab E0 S.A3 [v.av] [] (bv r) []:=by
 cases h1:v.kind==0
 ·cases h2:v.kind==1
  ·cases h3:v.kind==2
   ·cases h4:v.kind==3
    ·exact ⟨false,wk At.A3 [sb h1,sb h2,sb h3,sb h4] kr⟩
    ·cases h5:v.int != 0
     ·cases h6:decide (64 < (↑(ByteArray.size v.text):Int))
      ·let p_1:List St:=[sb h1,sb h2,sb h3,sb h4,sg h5,sb h6]
       rcases zlk v zaF 0 zaF zaF with ⟨q7,q7_1,g7⟩|⟨r7_0,g7⟩
       ·exact ⟨true,wkc At.A3 p_1 [1,3] 1 kr (g7 _ (zaa (wkr [sb q7_1] kr)))⟩
       ·exact ⟨r7_0,wkc At.A3 p_1 [1,3] 1 kr (g7)⟩
      ·exact ⟨false,wk At.A3 [sb h1,sb h2,sb h3,sb h4,sg h5,sb h6] kr⟩
     ·exact ⟨false,wk At.A3 [sb h1,sb h2,sb h3,sb h4,sb h5] kr⟩
   ·cases h8:v.int==0
    ·cases h9:v.int==1
     ·exact ⟨false,wk At.A3 [sb h1,sb h2,sb h3,sg h8,sb h9] kr⟩
     ·exact ⟨ByteArray.toList v.text==Zs0.toList,wk At.A3 [sb h1,sb h2,sb h3,sg h8,sg h9] kr⟩
    ·exact ⟨ByteArray.toList v.text==Zs0.toList,wk At.A3 [sb h1,sb h2,sb h3,sb h8] kr⟩
  ·exact ⟨ByteArray.toList v.text==Zs0.toList,wk At.A3 [sb h1,sb h2] kr⟩
 ·cases h10:v.int==0
  ·exact ⟨false,wk At.A3 [sb h1,sb h10] kr⟩
  ·exact ⟨ByteArray.toList v.text==Zs0.toList,wk At.A3 [sb h1,sg h10] kr⟩
theorem zfk (e:X) :∃ (r:Bool),zab E0 S.CM [e.av] [] (bv r) []:=by
 cases h1:e.val.kind==0&&(e.val.int==0&&(e.val.text==ByteArray.mk #[]&&true))
 ·exact ⟨false,wk At.CM [sq zbv,sb h1] kr⟩
 ·cases h2:ByteArray.toList e.table==Zs0.toList
  ·exact ⟨false,wk At.CM [sq zbv,sg h1,sb h2] kr⟩
  ·exact ⟨ByteArray.toList e.name==Zs0.toList,wk At.CM [sq zbv,sg h1,sg h2] kr⟩
theorem zc3 (s:Str) :∃ (r:Bool),zab E0 S.CK [sv s] [] (bv r) []:=by
 obtain ⟨r1,c1⟩:=(zau s)
 rcases (Bool.eq_false_or_eq_true r1).symm with h2|h2
 ·cases h3:ByteArray.toList s==ZsI.toList
  ·exact ⟨ByteArray.toList s==(ByteArray.mk #[(68:UInt8),(69:UInt8),(76:UInt8),(69:UInt8),(84:UInt8),(69:UInt8),(68:UInt8)]).toList,wk At.CK [sc c1,sg h2,sg h3] kr⟩
  ·exact ⟨true,wk At.CK [sc c1,sg h2,sb h3] kr⟩
 ·exact ⟨true,wk At.CK [sc c1,sb h2] kr⟩
abbrev VxOk (x:X):Prop:=∃ b:Bool,zab E0 S.Ab [x.av] [] (bv b) []
abbrev VlOk (l:List X):Prop:=∃ b:Bool,zab E0 S.AZ [xsl l] [] (bv b) []
noncomputable def L_al (l:List X) (i:Nat) :Cfg:=zan B.AZ 0 [(5,xsl l),(6,iv ((zad l).length:Nat)),(7,iv (i:Nat))] []
theorem zl7 (l:List X) (hl:zac l) (hv:∀ x∈l,VxOk x) (i:Nat)  (hi:i<=(l).length) (hI:True):((True)/\(decide ((((l).length:Nat):Int) < (((zad l).length:Nat):Int))=false)/\∀ R,Good E0 B.AZ [] (L_al l (l).length ) R->Good E0 B.AZ [] (L_al l i ) R)\/(∃ (r:Bool),Good E0 B.AZ [] (L_al l i ) (Shut 0 fun rZ hZ=>rZ=(bv r)/\hZ=[])):=by
 have hk:=hi;revert i hI;refine zlp ((l).length) (fun i hlt ih hi hI _=>?_)
 obtain ⟨x,hx,h0,hw⟩:=zlq (l:=l) ((zad l).length) hlt ziN
 have hvx:=hv x (List.mem_of_getElem? hx)
 obtain ⟨b1,c1⟩:=hvx
 cases h2:!b1
 ·exact zie1 (ih Zo zcQ Zo) fun R gY=>zaa (wkl [sb h0,se (zak hx),sc c1,sb h2,si hw] [5,6,7] 0 kr gY)
 ·exact .inr ⟨false,zaa (wkr [sb h0,se (zak hx),sc c1,sb h2] kr)⟩
theorem zgZ (l:List X) (hl:zac l) (hv:∀ x∈l,VxOk x):∃ (r:Bool),zab E0 S.AZ [xsl l] [] (bv r) []:=by
 rcases zl7 l zaF zaF 0 zaF zaF with ⟨q1,q1_1,g1⟩|⟨r1_0,g1⟩
 ·exact ⟨true,wkc At.AZ [] [5,6,7] 0 kr (g1 _ (zaa (wkr [sb q1_1] kr)))⟩
 ·exact ⟨r1_0,wkc At.AZ [] [5,6,7] 0 kr (g1)⟩
noncomputable def L_vx (e:X) (i:Nat) :Cfg:=zan B.Ab 0 [(1,.p 0 0),(99,.sl (zal e.sub)),(100,iv ((zal e.sub).length:Nat)),(101,iv (i:Nat))] [.box e.cells]
theorem zcc (e:X) (hs:zac e.sub) (hq:∀ q∈e.sub,VlOk q.items/\VlOk q.wh) (i:Nat)  (hi:i<=(e.sub).length) (hI:True):((True)/\(decide ((((e.sub).length:Nat):Int) < (((zal e.sub).length:Nat):Int))=false)/\∀ R,Good E0 B.Ab [] (L_vx e (e.sub).length ) R->Good E0 B.Ab [] (L_vx e i ) R)\/(∃ (r:Bool),Good E0 B.Ab [] (L_vx e i ) (Shut 0 fun rZ hZ=>rZ=(bv r)/\hZ=[])):=by
 have hk:=hi;revert i hI;refine zlp ((e.sub).length) (fun i hlt ih hi hI _=>?_)
 obtain ⟨x,hx,h0,hw⟩:=zlq (l:=e.sub) ((zal e.sub).length) hlt ziN
 have hi1:=(hq x (List.mem_of_getElem? hx)).1;have hi2:=(hq x (List.mem_of_getElem? hx)).2
 cases h1:!x.star==(e.kind==8)
 ·obtain ⟨r2,c2⟩:=(zc3 x.frm)
  cases h3:!r2
  ·obtain ⟨b4,c4⟩:=hi1
   let p_1:List St:=[sb h0,se (zba hx),sg h1,sc c2,sg h3,sc c4]
   cases h5:!b4
   ·obtain ⟨b6,c6⟩:=hi2
    cases h7:!b6
    ·exact zie1 (ih Zo zcQ Zo) fun R gY=>zaa (wkl (p_1++[sg h5,sc c6,sb h7,si hw]) [1,99,100,101] 1 kr gY)
    ·exact .inr ⟨false,zaa (wkr (p_1++[sg h5,sc c6,sb h7]) kr)⟩
   ·exact .inr ⟨false,zaa (wkr (p_1++[sb h5]) kr)⟩
  ·exact .inr ⟨false,zaa (wkr [sb h0,se (zba hx),sg h1,sc c2,sb h3] kr)⟩
 ·exact .inr ⟨false,zaa (wkr [sb h0,se (zba hx),sb h1] kr)⟩
theorem zn9 (e:X) (hs:zac e.sub) (ha:∃ b:Bool,zab E0 S.AZ [xsl e.args] [] (bv b) []) (hq:∀ q∈e.sub,VlOk q.items/\VlOk q.wh):∃ (r:Bool),zab E0 S.Ab [e.av] [] (bv r) []:=by
 cases h1:!zn4 e
 ·cases h2:e.kind != 5
  ·let p_1:List St:=[sc (zbu e),sg h1,sb h2]
   cases h3:e.kind != 6
   ·cases h4:e.kind==1
    ·cases h5:e.kind==2
     ·obtain ⟨r6,c6⟩:=(zfk e)
      cases h7:!r6
      ·obtain ⟨b8,c8⟩:=ha
       let p_2:List St:=p_1++[sb h3,sb h4,sb h5,sc c6,sg h7,sc c8]
       cases h9:!b8
       ·rcases zcc e zaF zaF 0 zaF zaF with ⟨q10,q10_1,g10⟩|⟨r10_0,g10⟩
        ·exact ⟨true,wkc At.Ab (p_2++[sb h9]) [1,99,100,101] 1 kr (g10 _ (zaa (wkr [sb q10_1] kr)))⟩
        ·exact ⟨r10_0,wkc At.Ab (p_2++[sb h9]) [1,99,100,101] 1 kr (g10)⟩
       ·exact ⟨false,wk At.Ab (p_2++[sb h9]) kr⟩
      ·exact ⟨false,wk At.Ab (p_1++[sb h3,sb h4,sb h5,sc c6,sb h7]) kr⟩
     ·cases h11:ByteArray.toList e.table==Zs0.toList
      ·obtain ⟨r12,c12⟩:=(zc3 e.table)
       rcases (Bool.eq_false_or_eq_true r12).symm with h13|h13
       ·let p_3:List St:=p_1++[sb h3,sb h4,sb h5,sg h11,sc c12,sg h13]
        cases h14:ByteArray.toList e.table==ZsN.toList
        ·cases h15:ByteArray.toList e.table==ZsO.toList
         ·exact ⟨false,wk At.Ab (p_3++[sg h14,sb h15]) kr⟩
         ·obtain ⟨r16,c16⟩:=(zau e.name)
          rcases (Bool.eq_false_or_eq_true r16).symm with h17|h17
          ·exact ⟨false,wk At.Ab (p_3++[sg h14,sg h15,sc c16,sb h17]) kr⟩
          ·exact ⟨e.val.kind==(0:Int)&&(e.val.int==(0:Int)&&(e.val.text==ByteArray.mk #[]&&true)),wk At.Ab (p_3++[sg h14,sg h15,sc c16,sg h17,sq zbv]) kr⟩
        ·obtain ⟨r18,c18⟩:=(zau e.name)
         rcases (Bool.eq_false_or_eq_true r18).symm with h19|h19
         ·exact ⟨false,wk At.Ab (p_3++[sb h14,sc c18,sb h19]) kr⟩
         ·exact ⟨e.val.kind==(0:Int)&&(e.val.int==(0:Int)&&(e.val.text==ByteArray.mk #[]&&true)),wk At.Ab (p_3++[sb h14,sc c18,sg h19,sq zbv]) kr⟩
       ·obtain ⟨r20,c20⟩:=(zau e.name)
        let p_4:List St:=p_1++[sb h3,sb h4,sb h5,sg h11,sc c12,sb h13,sc c20]
        rcases (Bool.eq_false_or_eq_true r20).symm with h21|h21
        ·exact ⟨false,wk At.Ab (p_4++[sb h21]) kr⟩
        ·exact ⟨e.val.kind==(0:Int)&&(e.val.int==(0:Int)&&(e.val.text==ByteArray.mk #[]&&true)),wk At.Ab (p_4++[sg h21,sq zbv]) kr⟩
      ·obtain ⟨r22,c22⟩:=(zau e.name)
       rcases (Bool.eq_false_or_eq_true r22).symm with h23|h23
       ·exact ⟨false,wk At.Ab (p_1++[sb h3,sb h4,sb h5,sb h11,sc c22,sb h23]) kr⟩
       ·exact ⟨e.val.kind==(0:Int)&&(e.val.int==(0:Int)&&(e.val.text==ByteArray.mk #[]&&true)),wk At.Ab (p_1++[sb h3,sb h4,sb h5,sb h11,sc c22,sg h23,sq zbv]) kr⟩
    ·obtain ⟨r24,c24⟩:=(zdE e.val)
     rcases (Bool.eq_false_or_eq_true r24).symm with h25|h25
     ·exact ⟨false,wk At.Ab (p_1++[sb h3,sb h4,sc c24,sb h25]) kr⟩
     ·cases h26:e.val.kind != 1
      ·cases h27:decide (0<=e.val.int)
       ·exact ⟨false,wk At.Ab (p_1++[sb h3,sb h4,sc c24,sg h25,sg h26,sb h27]) kr⟩
       ·let p_5:List St:=p_1++[sb h3,sb h4,sc c24,sg h25,sg h26,sg h27]
        cases h28:ByteArray.toList e.table==Zs0.toList
        ·exact ⟨false,wk At.Ab (p_5++[sb h28]) kr⟩
        ·exact ⟨ByteArray.toList e.name==Zs0.toList,wk At.Ab (p_5++[sg h28]) kr⟩
      ·cases h29:ByteArray.toList e.table==Zs0.toList
       ·exact ⟨false,wk At.Ab (p_1++[sb h3,sb h4,sc c24,sg h25,sb h26,sb h29]) kr⟩
       ·exact ⟨ByteArray.toList e.name==Zs0.toList,wk At.Ab (p_1++[sb h3,sb h4,sc c24,sg h25,sb h26,sg h29]) kr⟩
   ·cases h30:e.not
    ·cases h31:e.kind==1
     ·cases h32:e.kind==2
      ·obtain ⟨r33,c33⟩:=(zfk e)
       cases h34:!r33
       ·obtain ⟨b35,c35⟩:=ha
        let p_6:List St:=p_1++[sg h3,sb h30,sb h31,sb h32,sc c33,sg h34,sc c35]
        cases h36:!b35
        ·rcases zcc e zaF zaF 0 zaF zaF with ⟨q37,q37_1,g37⟩|⟨r37_0,g37⟩
         ·exact ⟨true,wkc At.Ab (p_6++[sb h36]) [1,99,100,101] 1 kr (g37 _ (zaa (wkr [sb q37_1] kr)))⟩
         ·exact ⟨r37_0,wkc At.Ab (p_6++[sb h36]) [1,99,100,101] 1 kr (g37)⟩
        ·exact ⟨false,wk At.Ab (p_6++[sb h36]) kr⟩
       ·exact ⟨false,wk At.Ab (p_1++[sg h3,sb h30,sb h31,sb h32,sc c33,sb h34]) kr⟩
      ·cases h38:ByteArray.toList e.table==Zs0.toList
       ·obtain ⟨r39,c39⟩:=(zc3 e.table)
        let p_7:List St:=p_1++[sg h3,sb h30,sb h31,sb h32,sg h38,sc c39]
        rcases (Bool.eq_false_or_eq_true r39).symm with h40|h40
        ·cases h41:ByteArray.toList e.table==ZsN.toList
         ·cases h42:ByteArray.toList e.table==ZsO.toList
          ·exact ⟨false,wk At.Ab (p_7++[sg h40,sg h41,sb h42]) kr⟩
          ·obtain ⟨r43,c43⟩:=(zau e.name)
           rcases (Bool.eq_false_or_eq_true r43).symm with h44|h44
           ·exact ⟨false,wk At.Ab (p_7++[sg h40,sg h41,sg h42,sc c43,sb h44]) kr⟩
           ·exact ⟨e.val.kind==(0:Int)&&(e.val.int==(0:Int)&&(e.val.text==ByteArray.mk #[]&&true)),wk At.Ab (p_7++[sg h40,sg h41,sg h42,sc c43,sg h44,sq zbv]) kr⟩
         ·obtain ⟨r45,c45⟩:=(zau e.name)
          rcases (Bool.eq_false_or_eq_true r45).symm with h46|h46
          ·exact ⟨false,wk At.Ab (p_7++[sg h40,sb h41,sc c45,sb h46]) kr⟩
          ·exact ⟨e.val.kind==(0:Int)&&(e.val.int==(0:Int)&&(e.val.text==ByteArray.mk #[]&&true)),wk At.Ab (p_7++[sg h40,sb h41,sc c45,sg h46,sq zbv]) kr⟩
        ·obtain ⟨r47,c47⟩:=(zau e.name)
         rcases (Bool.eq_false_or_eq_true r47).symm with h48|h48
         ·exact ⟨false,wk At.Ab (p_7++[sb h40,sc c47,sb h48]) kr⟩
         ·exact ⟨e.val.kind==(0:Int)&&(e.val.int==(0:Int)&&(e.val.text==ByteArray.mk #[]&&true)),wk At.Ab (p_7++[sb h40,sc c47,sg h48,sq zbv]) kr⟩
       ·obtain ⟨r49,c49⟩:=(zau e.name)
        let p_8:List St:=p_1++[sg h3,sb h30,sb h31,sb h32,sb h38,sc c49]
        rcases (Bool.eq_false_or_eq_true r49).symm with h50|h50
        ·exact ⟨false,wk At.Ab (p_8++[sb h50]) kr⟩
        ·exact ⟨e.val.kind==(0:Int)&&(e.val.int==(0:Int)&&(e.val.text==ByteArray.mk #[]&&true)),wk At.Ab (p_8++[sg h50,sq zbv]) kr⟩
     ·obtain ⟨r51,c51⟩:=(zdE e.val)
      rcases (Bool.eq_false_or_eq_true r51).symm with h52|h52
      ·exact ⟨false,wk At.Ab (p_1++[sg h3,sb h30,sb h31,sc c51,sb h52]) kr⟩
      ·cases h53:e.val.kind != 1
       ·let p_9:List St:=p_1++[sg h3,sb h30,sb h31,sc c51,sg h52,sg h53]
        cases h54:decide (0<=e.val.int)
        ·exact ⟨false,wk At.Ab (p_9++[sb h54]) kr⟩
        ·cases h55:ByteArray.toList e.table==Zs0.toList
         ·exact ⟨false,wk At.Ab (p_9++[sg h54,sb h55]) kr⟩
         ·exact ⟨ByteArray.toList e.name==Zs0.toList,wk At.Ab (p_9++[sg h54,sg h55]) kr⟩
       ·let p_10:List St:=p_1++[sg h3,sb h30,sb h31,sc c51,sg h52,sb h53]
        cases h56:ByteArray.toList e.table==Zs0.toList
        ·exact ⟨false,wk At.Ab (p_10++[sb h56]) kr⟩
        ·exact ⟨ByteArray.toList e.name==Zs0.toList,wk At.Ab (p_10++[sg h56]) kr⟩
    ·exact ⟨false,wk At.Ab (p_1++[sg h3,sb h30]) kr⟩
  ·let p_11:List St:=[sc (zbu e),sg h1,sg h2]
   cases h57:e.op != 0
   ·cases h58:e.kind != 6
    ·cases h59:e.kind==1
     ·cases h60:e.kind==2
      ·obtain ⟨r61,c61⟩:=(zfk e)
       let p_12:List St:=p_11++[sg h57,sb h58,sb h59,sb h60,sc c61]
       cases h62:!r61
       ·obtain ⟨b63,c63⟩:=ha
        cases h64:!b63
        ·rcases zcc e zaF zaF 0 zaF zaF with ⟨q65,q65_1,g65⟩|⟨r65_0,g65⟩
         ·exact ⟨true,wkc At.Ab (p_12++[sg h62,sc c63,sb h64]) [1,99,100,101] 1 kr (g65 _ (zaa (wkr [sb q65_1] kr)))⟩
         ·exact ⟨r65_0,wkc At.Ab (p_12++[sg h62,sc c63,sb h64]) [1,99,100,101] 1 kr (g65)⟩
        ·exact ⟨false,wk At.Ab (p_12++[sg h62,sc c63,sb h64]) kr⟩
       ·exact ⟨false,wk At.Ab (p_12++[sb h62]) kr⟩
      ·cases h66:ByteArray.toList e.table==Zs0.toList
       ·obtain ⟨r67,c67⟩:=(zc3 e.table)
        let p_13:List St:=p_11++[sg h57,sb h58,sb h59,sb h60,sg h66,sc c67]
        rcases (Bool.eq_false_or_eq_true r67).symm with h68|h68
        ·cases h69:ByteArray.toList e.table==ZsN.toList
         ·cases h70:ByteArray.toList e.table==ZsO.toList
          ·exact ⟨false,wk At.Ab (p_13++[sg h68,sg h69,sb h70]) kr⟩
          ·obtain ⟨r71,c71⟩:=(zau e.name)
           rcases (Bool.eq_false_or_eq_true r71).symm with h72|h72
           ·exact ⟨false,wk At.Ab (p_13++[sg h68,sg h69,sg h70,sc c71,sb h72]) kr⟩
           ·exact ⟨e.val.kind==(0:Int)&&(e.val.int==(0:Int)&&(e.val.text==ByteArray.mk #[]&&true)),wk At.Ab (p_13++[sg h68,sg h69,sg h70,sc c71,sg h72,sq zbv]) kr⟩
         ·obtain ⟨r73,c73⟩:=(zau e.name)
          rcases (Bool.eq_false_or_eq_true r73).symm with h74|h74
          ·exact ⟨false,wk At.Ab (p_13++[sg h68,sb h69,sc c73,sb h74]) kr⟩
          ·exact ⟨e.val.kind==(0:Int)&&(e.val.int==(0:Int)&&(e.val.text==ByteArray.mk #[]&&true)),wk At.Ab (p_13++[sg h68,sb h69,sc c73,sg h74,sq zbv]) kr⟩
        ·obtain ⟨r75,c75⟩:=(zau e.name)
         rcases (Bool.eq_false_or_eq_true r75).symm with h76|h76
         ·exact ⟨false,wk At.Ab (p_13++[sb h68,sc c75,sb h76]) kr⟩
         ·exact ⟨e.val.kind==(0:Int)&&(e.val.int==(0:Int)&&(e.val.text==ByteArray.mk #[]&&true)),wk At.Ab (p_13++[sb h68,sc c75,sg h76,sq zbv]) kr⟩
       ·obtain ⟨r77,c77⟩:=(zau e.name)
        let p_14:List St:=p_11++[sg h57,sb h58,sb h59,sb h60,sb h66,sc c77]
        rcases (Bool.eq_false_or_eq_true r77).symm with h78|h78
        ·exact ⟨false,wk At.Ab (p_14++[sb h78]) kr⟩
        ·exact ⟨e.val.kind==(0:Int)&&(e.val.int==(0:Int)&&(e.val.text==ByteArray.mk #[]&&true)),wk At.Ab (p_14++[sg h78,sq zbv]) kr⟩
     ·obtain ⟨r79,c79⟩:=(zdE e.val)
      rcases (Bool.eq_false_or_eq_true r79).symm with h80|h80
      ·exact ⟨false,wk At.Ab (p_11++[sg h57,sb h58,sb h59,sc c79,sb h80]) kr⟩
      ·let p_15:List St:=p_11++[sg h57,sb h58,sb h59,sc c79,sg h80]
       cases h81:e.val.kind != 1
       ·cases h82:decide (0<=e.val.int)
        ·exact ⟨false,wk At.Ab (p_15++[sg h81,sb h82]) kr⟩
        ·cases h83:ByteArray.toList e.table==Zs0.toList
         ·exact ⟨false,wk At.Ab (p_15++[sg h81,sg h82,sb h83]) kr⟩
         ·exact ⟨ByteArray.toList e.name==Zs0.toList,wk At.Ab (p_15++[sg h81,sg h82,sg h83]) kr⟩
       ·cases h84:ByteArray.toList e.table==Zs0.toList
        ·exact ⟨false,wk At.Ab (p_15++[sb h81,sb h84]) kr⟩
        ·exact ⟨ByteArray.toList e.name==Zs0.toList,wk At.Ab (p_15++[sb h81,sg h84]) kr⟩
    ·cases h85:e.not
     ·cases h86:e.kind==1
      ·cases h87:e.kind==2
       ·obtain ⟨r88,c88⟩:=(zfk e)
        let p_16:List St:=p_11++[sg h57,sg h58,sb h85,sb h86,sb h87,sc c88]
        cases h89:!r88
        ·obtain ⟨b90,c90⟩:=ha
         cases h91:!b90
         ·rcases zcc e zaF zaF 0 zaF zaF with ⟨q92,q92_1,g92⟩|⟨r92_0,g92⟩
          ·exact ⟨true,wkc At.Ab (p_16++[sg h89,sc c90,sb h91]) [1,99,100,101] 1 kr (g92 _ (zaa (wkr [sb q92_1] kr)))⟩
          ·exact ⟨r92_0,wkc At.Ab (p_16++[sg h89,sc c90,sb h91]) [1,99,100,101] 1 kr (g92)⟩
         ·exact ⟨false,wk At.Ab (p_16++[sg h89,sc c90,sb h91]) kr⟩
        ·exact ⟨false,wk At.Ab (p_16++[sb h89]) kr⟩
       ·let p_17:List St:=p_11++[sg h57,sg h58,sb h85,sb h86,sb h87]
        cases h93:ByteArray.toList e.table==Zs0.toList
        ·obtain ⟨r94,c94⟩:=(zc3 e.table)
         rcases (Bool.eq_false_or_eq_true r94).symm with h95|h95
         ·cases h96:ByteArray.toList e.table==ZsN.toList
          ·cases h97:ByteArray.toList e.table==ZsO.toList
           ·exact ⟨false,wk At.Ab (p_17++[sg h93,sc c94,sg h95,sg h96,sb h97]) kr⟩
           ·obtain ⟨r98,c98⟩:=(zau e.name)
            let p_18:List St:=p_17++[sg h93,sc c94,sg h95,sg h96,sg h97,sc c98]
            rcases (Bool.eq_false_or_eq_true r98).symm with h99|h99
            ·exact ⟨false,wk At.Ab (p_18++[sb h99]) kr⟩
            ·exact ⟨e.val.kind==(0:Int)&&(e.val.int==(0:Int)&&(e.val.text==ByteArray.mk #[]&&true)),wk At.Ab (p_18++[sg h99,sq zbv]) kr⟩
          ·obtain ⟨r100,c100⟩:=(zau e.name)
           let p_19:List St:=p_17++[sg h93,sc c94,sg h95,sb h96,sc c100]
           rcases (Bool.eq_false_or_eq_true r100).symm with h101|h101
           ·exact ⟨false,wk At.Ab (p_19++[sb h101]) kr⟩
           ·exact ⟨e.val.kind==(0:Int)&&(e.val.int==(0:Int)&&(e.val.text==ByteArray.mk #[]&&true)),wk At.Ab (p_19++[sg h101,sq zbv]) kr⟩
         ·obtain ⟨r102,c102⟩:=(zau e.name)
          rcases (Bool.eq_false_or_eq_true r102).symm with h103|h103
          ·exact ⟨false,wk At.Ab (p_17++[sg h93,sc c94,sb h95,sc c102,sb h103]) kr⟩
          ·exact ⟨e.val.kind==(0:Int)&&(e.val.int==(0:Int)&&(e.val.text==ByteArray.mk #[]&&true)),wk At.Ab (p_17++[sg h93,sc c94,sb h95,sc c102,sg h103,sq zbv]) kr⟩
        ·obtain ⟨r104,c104⟩:=(zau e.name)
         rcases (Bool.eq_false_or_eq_true r104).symm with h105|h105
         ·exact ⟨false,wk At.Ab (p_17++[sb h93,sc c104,sb h105]) kr⟩
         ·exact ⟨e.val.kind==(0:Int)&&(e.val.int==(0:Int)&&(e.val.text==ByteArray.mk #[]&&true)),wk At.Ab (p_17++[sb h93,sc c104,sg h105,sq zbv]) kr⟩
      ·obtain ⟨r106,c106⟩:=(zdE e.val)
       let p_20:List St:=p_11++[sg h57,sg h58,sb h85,sb h86,sc c106]
       rcases (Bool.eq_false_or_eq_true r106).symm with h107|h107
       ·exact ⟨false,wk At.Ab (p_20++[sb h107]) kr⟩
       ·cases h108:e.val.kind != 1
        ·cases h109:decide (0<=e.val.int)
         ·exact ⟨false,wk At.Ab (p_20++[sg h107,sg h108,sb h109]) kr⟩
         ·cases h110:ByteArray.toList e.table==Zs0.toList
          ·exact ⟨false,wk At.Ab (p_20++[sg h107,sg h108,sg h109,sb h110]) kr⟩
          ·exact ⟨ByteArray.toList e.name==Zs0.toList,wk At.Ab (p_20++[sg h107,sg h108,sg h109,sg h110]) kr⟩
        ·cases h111:ByteArray.toList e.table==Zs0.toList
         ·exact ⟨false,wk At.Ab (p_20++[sg h107,sb h108,sb h111]) kr⟩
         ·exact ⟨ByteArray.toList e.name==Zs0.toList,wk At.Ab (p_20++[sg h107,sb h108,sg h111]) kr⟩
     ·exact ⟨false,wk At.Ab (p_11++[sg h57,sg h58,sb h85]) kr⟩
   ·exact ⟨false,wk At.Ab (p_11++[sb h57]) kr⟩
 ·exact ⟨false,wk At.Ab [sc (zbu e),sb h1] kr⟩
theorem vxOk:∀ (n:Nat) (e:X),XOk n e->VxOk e
 | 0,_,h=>h.elim
 | n+1,e,⟨_,ha,hx,hs⟩=>zn9 e (Thin.short ha.2) (zgZ _ (Thin.short ha.1) fun x h=>vxOk n x (hx x h)) fun q h =>
   ⟨zgZ _ (Thin.short (hs q h).1.1) fun x h'=>vxOk n x ((hs q h).2.1 x h'),zgZ _ (Thin.short (hs q h).1.2) fun x h'=>vxOk n x ((hs q h).2.2 x h')⟩
theorem vlOk {n:Nat} {l:List X} (hf:Few l) (h:∀ x∈l,XOk n x):VlOk l:=zgZ l (zaD hf) fun x hx=>vxOk n x (h x hx)
theorem zmO (q:Qy) (hqa:∃ b:Bool,zab E0 S.AZ [xsl q.items] [] (bv b) []) (hqb:∃ b:Bool,zab E0 S.AZ [xsl q.wh] [] (bv b) []):∃ (r:Bool),zab E0 S.Bf [q.av] [] (bv r) []:=by
 obtain ⟨r1,c1⟩:=(zc3 q.frm)
 cases h2:!r1
 ·cases h3:decide (1 < (↑(zad q.wh).length:Int))
  ·cases h4:decide (8 < (↑(zad q.items).length:Int))
   ·cases h5:!q.star==((↑(zad q.items).length:Int)==0)
    ·obtain ⟨b6,c6⟩:=hqa
     let p_1:List St:=[sc c1,sg h2,sg h3,sg h4,sb h5,sc c6]
     rcases (Bool.eq_false_or_eq_true b6).symm with h7|h7
     ·exact ⟨false,wk At.Bf (p_1++[sb h7]) kr⟩
     ·obtain ⟨b8,c8⟩:=hqb
      exact ⟨b8,wk At.Bf (p_1++[sg h7,sc c8]) kr⟩
    ·exact ⟨false,wk At.Bf [sc c1,sg h2,sg h3,sg h4,sb h5] kr⟩
   ·exact ⟨false,wk At.Bf [sc c1,sg h2,sg h3,sb h4] kr⟩
  ·exact ⟨false,wk At.Bf [sc c1,sg h2,sb h3] kr⟩
 ·exact ⟨false,wk At.Bf [sc c1,sb h2] kr⟩
noncomputable def L_vi (a:Ac) (i:Nat) :Cfg:=zan B.Au 0 [(1,.p 0 0),(27,.sl (a.rows.map zaA)),(28,iv ((a.rows.map zaA).length:Nat)),(29,iv (i:Nat))] [.box a.cells]
theorem zgQ (a:Ac) (hs:zac a.rows) (hr:∀ r∈a.rows,VlOk r) (i:Nat)  (hi:i<=(a.rows).length) (hI:True):((True)/\(decide ((((a.rows).length:Nat):Int) < (((a.rows.map zaA).length:Nat):Int))=false)/\∀ R,Good E0 B.Au [] (L_vi a (a.rows).length ) R->Good E0 B.Au [] (L_vi a i ) R)\/(∃ (r:Bool),Good E0 B.Au [] (L_vi a i ) (Shut 0 fun rZ hZ=>rZ=(bv r)/\hZ=[])):=by
 have hk:=hi;revert i hI;refine zlp ((a.rows).length) (fun i hlt ih hi hI _=>?_)
 obtain ⟨x,hx,h0,hw⟩:=zlq (l:=a.rows) ((a.rows.map zaA).length) hlt ziN
 have hi1:=hr x (List.mem_of_getElem? hx)
 let p_1:List St:=[sb h0,se (zai zaA hx rfl)]
 cases h1:decide ((↑(zad x).length:Int) < 1)
 ·cases h2:decide (6 < (↑(zad x).length:Int))
  ·obtain ⟨b3,c3⟩:=hi1
   cases h4:!b3
   ·exact zie1 (ih Zo zcQ Zo) fun R gY=>zaa (wkl (p_1++[sg h1,sg h2,sc c3,sb h4,si hw]) [1,27,28,29] 1 kr gY)
   ·exact .inr ⟨false,zaa (wkr (p_1++[sg h1,sg h2,sc c3,sb h4]) kr)⟩
  ·exact .inr ⟨false,zaa (wkr (p_1++[sg h1,sb h2]) kr)⟩
 ·exact .inr ⟨false,zaa (wkr (p_1++[sb h1]) kr)⟩
theorem zmo (a:Ac) (hs:zac a.rows) (hr:∀ r∈a.rows,VlOk r) (hq:∀ q∈a.query,∃ b:Bool,zab E0 S.Bf [q.av] [] (bv b) []):∃ (r:Bool),zab E0 S.Au [a.av] [] (bv r) []:=by
 cases h1:decide (1 < (↑(zal a.query).length:Int))
 ·cases h2:((↑(zal a.query).length:Int)==1)==decide (0 < (↑(List.map (fun r=>[AV.sl (zad r)]) a.rows).length:Int))
  ·cases h3:decide (8 < (↑(List.map (fun r=>[AV.sl (zad r)]) a.rows).length:Int))
   ·rcases zgQ a zkZ zkZ 0 zkZ zkZ with ⟨q4,q4_1,g4⟩|⟨r4_0,g4⟩
    ·cases h5:(↑(zal a.query).length:Int)==0
     ·obtain ⟨x6,e6⟩:=zbK (l:=a.query) (i:=0) zkZ
      obtain ⟨b7,c7⟩:=(hq x6 zkZ)
      exact ⟨b7,wkc At.Au [sg h1,sg h2,sb h3] [1,27,28,29] 1 kr (g4 _ (zaa (wkr [sb q4_1,sg h5,se (zba e6),sc c7] kr)))⟩
     ·exact ⟨true,wkc At.Au [sg h1,sg h2,sb h3] [1,27,28,29] 1 kr (g4 _ (zaa (wkr [sb q4_1,sb h5] kr)))⟩
    ·exact ⟨r4_0,wkc At.Au [sg h1,sg h2,sb h3] [1,27,28,29] 1 kr (g4)⟩
   ·exact ⟨false,wk At.Au [sg h1,sg h2,sb h3] kr⟩
  ·exact ⟨false,wk At.Au [sg h1,sb h2] kr⟩
 ·exact ⟨false,wk At.Au [sb h1] kr⟩
theorem zq4 {α:Type} (f:α->List AV) {l:List α} {x:α} {n j m:Nat} (hx:(l.take n)[j]?=some x) (hc:(f x).length=m):ElAt ((l.map f).take n) ((j:Nat):Int) (f x) m:=by
 rw [← List.map_take]
 exact zai f hx hc
noncomputable def zwg (l:List Se) (io:Nat) (y:Se) (i:Nat) :Cfg:=zan B.AA 1 [(0,.sl (l.map Se.cells)),(4,.p 0 0),(7,.sl (l.map Se.cells)),(8,iv ((l.map Se.cells).length:Nat)),(9,iv (io:Nat)),(26,.sl ((l.map Se.cells).take io)),(27,iv (((l.map Se.cells).take io).length:Nat)),(28,iv (i:Nat))] [.box y.cells]
theorem zhx (l:List Se) (io:Nat) (y:Se) (hl:zac l) (i:Nat)  (hi:i<=((l.take io)).length) (hI:True):((True)/\(decide (((((l.take io)).length:Nat):Int) < ((((l.map Se.cells).take io).length:Nat):Int))=false)/\∀ R,Good E0 B.AA [] (zwg l io y ((l.take io)).length ) R->Good E0 B.AA [] (zwg l io y i ) R)\/(∃ (r:Bool),Good E0 B.AA [] (zwg l io y i ) (Shut 0 fun rZ hZ=>rZ=(bv r)/\hZ=[])):=by
 obtain ⟨kk,hk⟩:∃ kk,i+kk=((l.take io)).length:=⟨((l.take io)).length - i,by omega⟩
 induction kk generalizing i  hI with
 | zero =>
  have e0:i=((l.take io)).length:=by omega
  subst e0
  exact .inl ⟨hI,by simp,fun R hg=>hg⟩
 | succ kk ih =>
  obtain ⟨x,hx⟩:=zbK (l:=(l.take io)) (i:=i) Zo
  have h0:decide (((i:Nat):Int) < ((((l.map Se.cells).take io).length:Nat):Int))=true:=by simp at *;omega
  have hw:IntKind.i64.wrap (((i:Nat):Int)+1)=((i+1:Nat):Int):=zbw i (by simp only [zac] at hl;simp at hk;omega)
  have hxe:=zq4 Se.cells hx rfl
  cases h1:ByteArray.toList x.col==ByteArray.toList y.col
  ·exact zie1 (ih (i+1) Zo zcQ Zo) fun R gY=>zaa (wkl [sb h0,se hxe,sb h1,si hw] [0,4,7,8,9,26,27,28] 1 kr gY)
  ·exact .inr ⟨false,zaa (wkr [sb h0,se hxe,sb h1] kr)⟩
noncomputable def zwh (l:List Se) (i:Nat) :Cfg:=zan B.AA 0 [(0,.sl (l.map Se.cells)),(7,.sl (l.map Se.cells)),(8,iv ((l.map Se.cells).length:Nat)),(9,iv (i:Nat))] []
theorem zhy (l:List Se) (hl:zac l) (hv:∀ s∈l,VxOk s.ex) (i:Nat)  (hi:i<=(l).length) (hI:True):((True)/\(decide ((((l).length:Nat):Int) < (((l.map Se.cells).length:Nat):Int))=false)/\∀ R,Good E0 B.AA [] (zwh l (l).length ) R->Good E0 B.AA [] (zwh l i ) R)\/(∃ (r:Bool),Good E0 B.AA [] (zwh l i ) (Shut 0 fun rZ hZ=>rZ=(bv r)/\hZ=[])):=by
 have hk:=hi;revert i hI;refine zlp ((l).length) (fun i hlt ih hi hI _=>?_)
 obtain ⟨x,hx,h0,hw⟩:=zlq (l:=l) ((l.map Se.cells).length) hlt ziN
 have hi1:=hv x (List.mem_of_getElem? hx)
 obtain ⟨r1,c1⟩:=(zau x.col)
 let p_1:List St:=[sb h0,se (zai Se.cells hx rfl),sc c1]
 cases h2:!r1
 ·obtain ⟨b3,c3⟩:=hi1
  cases h4:!b3
  ·let p_2:List St:=p_1++[sg h2,sc c3,sb h4,sqx (SubAt (List.map Se.cells l) 0 (i:Int) 11)]
   rcases zhx l i x zaF 0 zaF zaF with ⟨q5,q5_1,g5⟩|⟨r5_0,g5⟩
   ·exact zie1 (ih Zo zcQ Zo) fun R gY=>zaa (wkl p_2 [0,4,7,8,9,26,27,28] 1 kr (g5 _ (zaa (wkl [sb q5_1,si hw] [0,7,8,9] 0 kr gY))))
   ·exact .inr ⟨r5_0,zaa (wkl p_2 [0,4,7,8,9,26,27,28] 1 kr g5)⟩
  ·exact .inr ⟨false,zaa (wkr (p_1++[sg h2,sc c3,sb h4]) kr)⟩
 ·exact .inr ⟨false,zaa (wkr (p_1++[sb h2]) kr)⟩
theorem zoa (l:List Se) (hl:zac l) (hv:∀ s∈l,VxOk s.ex):∃ (r:Bool),zab E0 S.AA [.sl (l.map Se.cells)] [] (bv r) []:=by
 rcases zhy l zaF zaF 0 zaF zaF with ⟨q1,q1_1,g1⟩|⟨r1_0,g1⟩
 ·exact ⟨true,wkc At.AA [] [0,7,8,9] 0 kr (g1 _ (zaa (wkr [sb q1_1] kr)))⟩
 ·exact ⟨r1_0,wkc At.AA [] [0,7,8,9] 0 kr (g1)⟩
noncomputable def zv5 (l:List Str) (io:Nat) (y:Str) (i:Nat) :Cfg:=zan B.Bh 1 [(0,ssl l),(4,sv y),(10,ssl l),(11,iv ((l.map za0).length:Nat)),(12,iv (io:Nat)),(22,.sl ((l.map za0).take io)),(23,iv (((l.map za0).take io).length:Nat)),(24,iv (i:Nat))] []
theorem zjn (l:List Str) (io:Nat) (y:Str) (hl:zac l) (i:Nat)  (hi:i<=((l.take io)).length) (hI:True):((True)/\(decide (((((l.take io)).length:Nat):Int) < ((((l.map za0).take io).length:Nat):Int))=false)/\∀ R,Good E0 B.Bh [] (zv5 l io y ((l.take io)).length ) R->Good E0 B.Bh [] (zv5 l io y i ) R)\/(∃ (r:Bool),Good E0 B.Bh [] (zv5 l io y i ) (Shut 0 fun rZ hZ=>rZ=(bv r)/\hZ=[])):=by
 obtain ⟨kk,hk⟩:∃ kk,i+kk=((l.take io)).length:=⟨((l.take io)).length - i,by omega⟩
 induction kk generalizing i  hI with
 | zero =>
  have e0:i=((l.take io)).length:=by omega
  subst e0
  exact .inl ⟨hI,by simp,fun R hg=>hg⟩
 | succ kk ih =>
  obtain ⟨x,hx⟩:=zbK (l:=(l.take io)) (i:=i) Zo
  have h0:decide (((i:Nat):Int) < ((((l.map za0).take io).length:Nat):Int))=true:=by simp at *;omega
  have hw:IntKind.i64.wrap (((i:Nat):Int)+1)=((i+1:Nat):Int):=zbw i (by simp only [zac] at hl;simp at hk;omega)
  have hxe:=zq4 za0 hx rfl
  cases h1:ByteArray.toList x==ByteArray.toList y
  ·exact zie1 (ih (i+1) Zo zcQ Zo) fun R gY=>zaa (wkl [sb h0,se hxe,sb h1,si hw] [0,4,10,11,12,22,23,24] 0 kr gY)
  ·exact .inr ⟨false,zaa (wkr [sb h0,se hxe,sb h1] kr)⟩
noncomputable def zv6 (l:List Str) (i:Nat) :Cfg:=zan B.Bh 0 [(0,ssl l),(10,ssl l),(11,iv ((l.map za0).length:Nat)),(12,iv (i:Nat))] []
theorem zjo (l:List Str) (hl:zac l) (i:Nat)  (hi:i<=(l).length) (hI:True):((True)/\(decide ((((l).length:Nat):Int) < (((l.map za0).length:Nat):Int))=false)/\∀ R,Good E0 B.Bh [] (zv6 l (l).length ) R->Good E0 B.Bh [] (zv6 l i ) R)\/(∃ (r:Bool),Good E0 B.Bh [] (zv6 l i ) (Shut 0 fun rZ hZ=>rZ=(bv r)/\hZ=[])):=by
 have hk:=hi;revert i hI;refine zlp ((l).length) (fun i hlt ih hi hI _=>?_)
 obtain ⟨x,hx,h0,hw⟩:=zlq (l:=l) ((l.map za0).length) hlt ziN
 obtain ⟨r1,c1⟩:=(zau x)
 let p_1:List St:=[sb h0,se (zai (fun s=>[sv s]) hx rfl),sc c1]
 cases h2:!r1
 ·let p_2:List St:=p_1++[sb h2,sqx (SubAt (List.map (fun s=>[sv s]) l) 0 (i:Int) 1)]
  rcases zjn l i x zaF 0 zaF zaF with ⟨q3,q3_1,g3⟩|⟨r3_0,g3⟩
  ·exact zie1 (ih Zo zcQ Zo) fun R gY=>zaa (wkl p_2 [0,4,10,11,12,22,23,24] 0 kr (g3 _ (zaa (wkl [sb q3_1,si hw] [0,10,11,12] 0 kr gY))))
  ·exact .inr ⟨r3_0,zaa (wkl p_2 [0,4,10,11,12,22,23,24] 0 kr g3)⟩
 ·exact .inr ⟨false,zaa (wkr (p_1++[sb h2]) kr)⟩
theorem zdd (l:List Str) (hl:zac l):∃ (r:Bool),zab E0 S.Bh [ssl l] [] (bv r) []:=by
 cases h1:decide (8 < (↑(List.map (fun s=>[sv s]) l).length:Int))
 ·rcases zjo l zaF 0 zaF zaF with ⟨q2,q2_1,g2⟩|⟨r2_0,g2⟩
  ·exact ⟨true,wkc At.Bh [sb h1] [0,10,11,12] 0 kr (g2 _ (zaa (wkr [sb q2_1] kr)))⟩
  ·exact ⟨r2_0,wkc At.Bh [sb h1] [0,10,11,12] 0 kr (g2)⟩
 ·exact ⟨false,wk At.Bh [sb h1] kr⟩
theorem vqOk {n:Nat} {q:Qy} (h:QW n q):∃ b:Bool,zab E0 S.Bf [q.av] [] (bv b) []:=zmO q (vlOk h.items h.hi) (vlOk h.wh h.hw)
abbrev acc (k:Int) (a:Ac):List AV:=[iv k,sv a.table,.sl (a.rows.map zaA),.sl (zal a.query),.sl (a.sets.map Se.cells),.sl (zad a.wh),sv a.text]
theorem zji (a:Ac) (hw:∃ b:Bool,zab E0 S.AZ [xsl a.wh] [] (bv b) []) (hi:∃ b:Bool,zab E0 S.Au [.agg (acc 1 a)] [] (bv b) []) (hs:∃ b:Bool,zab E0 S.AA [.sl (a.sets.map Se.cells)] [] (bv b) []):∃ (r:Bool),zab E0 S.Aa [.agg (acc 1 a)] [] (bv r) []:=by
 cases h1:!(1==5)==(ByteArray.toList a.table==Zs0.toList)
 ·cases h2:!ByteArray.toList a.table==Zs0.toList
  ·let p_1:List St:=[sg Zf,sg h1,sb h2,sg Zt]
   cases h3:!ByteArray.toList a.text==Zs0.toList
   ·let p_2:List St:=p_1++[sb h3,sb Zf,sg Zt,sg Zt]
    cases h4:decide (0 < (↑(List.map Se.cells a.sets).length:Int))
    ·let p_3:List St:=p_2++[sg h4,sg Zt,sg Zt]
     cases h5:decide (0 < (↑(zad a.wh).length:Int))
     ·cases h6:decide (1 < (↑(zad a.wh).length:Int))
      ·obtain ⟨b7,c7⟩:=hw
       cases h8:!b7
       ·obtain ⟨b9,c9⟩:=hi
        exact ⟨b9,wk At.Aa (p_3++[sb h5,sg h6,sc c7,sb h8,sb Zt,sc c9]) kr⟩
       ·exact ⟨false,wk At.Aa (p_3++[sb h5,sg h6,sc c7,sb h8]) kr⟩
      ·exact ⟨false,wk At.Aa (p_3++[sb h5,sb h6]) kr⟩
     ·exact ⟨false,wk At.Aa (p_3++[sb h5]) kr⟩
    ·exact ⟨false,wk At.Aa (p_2++[sb h4]) kr⟩
   ·exact ⟨false,wk At.Aa (p_1++[sb h3]) kr⟩
  ·obtain ⟨r10,c10⟩:=(zau a.table)
   let p_4:List St:=[sg Zf,sg h1,sg h2,sc c10]
   cases h11:!r10
   ·cases h12:!ByteArray.toList a.text==Zs0.toList
    ·let p_5:List St:=p_4++[sg h11,sg Zt,sb h12,sb Zf,sg Zt,sg Zt]
     cases h13:decide (0 < (↑(List.map Se.cells a.sets).length:Int))
     ·let p_6:List St:=p_5++[sg h13,sg Zt,sg Zt]
      cases h14:decide (0 < (↑(zad a.wh).length:Int))
      ·cases h15:decide (1 < (↑(zad a.wh).length:Int))
       ·obtain ⟨b16,c16⟩:=hw
        cases h17:!b16
        ·obtain ⟨b18,c18⟩:=hi
         exact ⟨b18,wk At.Aa (p_6++[sb h14,sg h15,sc c16,sb h17,sb Zt,sc c18]) kr⟩
        ·exact ⟨false,wk At.Aa (p_6++[sb h14,sg h15,sc c16,sb h17]) kr⟩
       ·exact ⟨false,wk At.Aa (p_6++[sb h14,sb h15]) kr⟩
      ·exact ⟨false,wk At.Aa (p_6++[sb h14]) kr⟩
     ·exact ⟨false,wk At.Aa (p_5++[sb h13]) kr⟩
    ·exact ⟨false,wk At.Aa (p_4++[sg h11,sg Zt,sb h12]) kr⟩
   ·exact ⟨false,wk At.Aa (p_4++[sb h11]) kr⟩
 ·exact ⟨false,wk At.Aa [sg Zf,sb h1] kr⟩
theorem zjj (a:Ac) (hw:∃ b:Bool,zab E0 S.AZ [xsl a.wh] [] (bv b) []) (hi:∃ b:Bool,zab E0 S.Au [.agg (acc 2 a)] [] (bv b) []) (hs:∃ b:Bool,zab E0 S.AA [.sl (a.sets.map Se.cells)] [] (bv b) []):∃ (r:Bool),zab E0 S.Aa [.agg (acc 2 a)] [] (bv r) []:=by
 cases h1:!(2==5)==(ByteArray.toList a.table==Zs0.toList)
 ·cases h2:!ByteArray.toList a.table==Zs0.toList
  ·let p_1:List St:=[sg Zf,sg h1,sb h2,sg Zt]
   cases h3:!ByteArray.toList a.text==Zs0.toList
   ·let p_2:List St:=p_1++[sb h3,sg Zt,si (e:=IntKind.i64.wrap ((↑(List.map zaA a.rows).length:Int)+(↑(zal a.query).length:Int))) rfl]
    cases h4:decide (0 < IntKind.i64.wrap ((↑(List.map zaA a.rows).length:Int)+(↑(zal a.query).length:Int)))
    ·let p_3:List St:=p_2++[sg h4,sb Zf,sb Zf]
     cases h5:decide (1 < (↑(zad a.wh).length:Int))
     ·obtain ⟨b6,c6⟩:=hw
      cases h7:!b6
      ·let p_4:List St:=p_3++[sg h5,sc c6,sb h7,sb Zf,sb Zt]
       cases h8:decide (1<=(↑(List.map Se.cells a.sets).length:Int))
       ·exact ⟨false,wk At.Aa (p_4++[sb h8]) kr⟩
       ·cases h9:decide ((↑(List.map Se.cells a.sets).length:Int)<=8)
        ·exact ⟨false,wk At.Aa (p_4++[sg h8,sb h9]) kr⟩
        ·obtain ⟨b10,c10⟩:=hs
         exact ⟨b10,wk At.Aa (p_4++[sg h8,sg h9,sc c10]) kr⟩
      ·exact ⟨false,wk At.Aa (p_3++[sg h5,sc c6,sb h7]) kr⟩
     ·exact ⟨false,wk At.Aa (p_3++[sb h5]) kr⟩
    ·exact ⟨false,wk At.Aa (p_2++[sb h4]) kr⟩
   ·exact ⟨false,wk At.Aa (p_1++[sb h3]) kr⟩
  ·obtain ⟨r11,c11⟩:=(zau a.table)
   let p_5:List St:=[sg Zf,sg h1,sg h2,sc c11]
   cases h12:!r11
   ·cases h13:!ByteArray.toList a.text==Zs0.toList
    ·let p_6:List St:=p_5++[sg h12,sg Zt,sb h13,sg Zt,si (e:=IntKind.i64.wrap ((↑(List.map zaA a.rows).length:Int)+(↑(zal a.query).length:Int))) rfl]
     cases h14:decide (0 < IntKind.i64.wrap ((↑(List.map zaA a.rows).length:Int)+(↑(zal a.query).length:Int)))
     ·let p_7:List St:=p_6++[sg h14,sb Zf,sb Zf]
      cases h15:decide (1 < (↑(zad a.wh).length:Int))
      ·obtain ⟨b16,c16⟩:=hw
       cases h17:!b16
       ·let p_8:List St:=p_7++[sg h15,sc c16,sb h17,sb Zf,sb Zt]
        cases h18:decide (1<=(↑(List.map Se.cells a.sets).length:Int))
        ·exact ⟨false,wk At.Aa (p_8++[sb h18]) kr⟩
        ·cases h19:decide ((↑(List.map Se.cells a.sets).length:Int)<=8)
         ·exact ⟨false,wk At.Aa (p_8++[sg h18,sb h19]) kr⟩
         ·obtain ⟨b20,c20⟩:=hs
          exact ⟨b20,wk At.Aa (p_8++[sg h18,sg h19,sc c20]) kr⟩
       ·exact ⟨false,wk At.Aa (p_7++[sg h15,sc c16,sb h17]) kr⟩
      ·exact ⟨false,wk At.Aa (p_7++[sb h15]) kr⟩
     ·exact ⟨false,wk At.Aa (p_6++[sb h14]) kr⟩
    ·exact ⟨false,wk At.Aa (p_5++[sg h12,sg Zt,sb h13]) kr⟩
   ·exact ⟨false,wk At.Aa (p_5++[sb h12]) kr⟩
 ·exact ⟨false,wk At.Aa [sg Zf,sb h1] kr⟩
theorem zjk (a:Ac) (hw:∃ b:Bool,zab E0 S.AZ [xsl a.wh] [] (bv b) []) (hi:∃ b:Bool,zab E0 S.Au [.agg (acc 3 a)] [] (bv b) []) (hs:∃ b:Bool,zab E0 S.AA [.sl (a.sets.map Se.cells)] [] (bv b) []):∃ (r:Bool),zab E0 S.Aa [.agg (acc 3 a)] [] (bv r) []:=by
 cases h1:!(3==5)==(ByteArray.toList a.table==Zs0.toList)
 ·cases h2:!ByteArray.toList a.table==Zs0.toList
  ·let p_1:List St:=[sg Zf,sg h1,sb h2,sg Zt]
   cases h3:!ByteArray.toList a.text==Zs0.toList
   ·let p_2:List St:=p_1++[sb h3,sg Zt,si (e:=IntKind.i64.wrap ((↑(List.map zaA a.rows).length:Int)+(↑(zal a.query).length:Int))) rfl]
    cases h4:decide (0 < IntKind.i64.wrap ((↑(List.map zaA a.rows).length:Int)+(↑(zal a.query).length:Int)))
    ·let p_3:List St:=p_2++[sg h4,sg Zt,sg Zt]
     cases h5:decide (0 < (↑(List.map Se.cells a.sets).length:Int))
     ·let p_4:List St:=p_3++[sg h5,sg Zt,sb Zf]
      cases h6:decide (1 < (↑(zad a.wh).length:Int))
      ·obtain ⟨b7,c7⟩:=hw
       cases h8:!b7
       ·exact ⟨true,wk At.Aa (p_4++[sg h6,sc c7,sb h8,sb Zf,sb Zf,sb Zt]) kr⟩
       ·exact ⟨false,wk At.Aa (p_4++[sg h6,sc c7,sb h8]) kr⟩
      ·exact ⟨false,wk At.Aa (p_4++[sb h6]) kr⟩
     ·exact ⟨false,wk At.Aa (p_3++[sb h5]) kr⟩
    ·exact ⟨false,wk At.Aa (p_2++[sb h4]) kr⟩
   ·exact ⟨false,wk At.Aa (p_1++[sb h3]) kr⟩
  ·obtain ⟨r9,c9⟩:=(zau a.table)
   let p_5:List St:=[sg Zf,sg h1,sg h2,sc c9]
   cases h10:!r9
   ·cases h11:!ByteArray.toList a.text==Zs0.toList
    ·let p_6:List St:=p_5++[sg h10,sg Zt,sb h11,sg Zt,si (e:=IntKind.i64.wrap ((↑(List.map zaA a.rows).length:Int)+(↑(zal a.query).length:Int))) rfl]
     cases h12:decide (0 < IntKind.i64.wrap ((↑(List.map zaA a.rows).length:Int)+(↑(zal a.query).length:Int)))
     ·let p_7:List St:=p_6++[sg h12,sg Zt,sg Zt]
      cases h13:decide (0 < (↑(List.map Se.cells a.sets).length:Int))
      ·let p_8:List St:=p_7++[sg h13,sg Zt,sb Zf]
       cases h14:decide (1 < (↑(zad a.wh).length:Int))
       ·obtain ⟨b15,c15⟩:=hw
        cases h16:!b15
        ·exact ⟨true,wk At.Aa (p_8++[sg h14,sc c15,sb h16,sb Zf,sb Zf,sb Zt]) kr⟩
        ·exact ⟨false,wk At.Aa (p_8++[sg h14,sc c15,sb h16]) kr⟩
       ·exact ⟨false,wk At.Aa (p_8++[sb h14]) kr⟩
      ·exact ⟨false,wk At.Aa (p_7++[sb h13]) kr⟩
     ·exact ⟨false,wk At.Aa (p_6++[sb h12]) kr⟩
    ·exact ⟨false,wk At.Aa (p_5++[sg h10,sg Zt,sb h11]) kr⟩
   ·exact ⟨false,wk At.Aa (p_5++[sb h10]) kr⟩
 ·exact ⟨false,wk At.Aa [sg Zf,sb h1] kr⟩
theorem zjl (a:Ac) (hw:∃ b:Bool,zab E0 S.AZ [xsl a.wh] [] (bv b) []) (hi:∃ b:Bool,zab E0 S.Au [.agg (acc 4 a)] [] (bv b) []) (hs:∃ b:Bool,zab E0 S.AA [.sl (a.sets.map Se.cells)] [] (bv b) []):∃ (r:Bool),zab E0 S.Aa [.agg (acc 4 a)] [] (bv r) []:=by
 cases h1:!true==(ByteArray.toList a.table==Zs0.toList)
 ·cases h2:!ByteArray.toList a.table==Zs0.toList
  ·let p_1:List St:=[sb Zt,sg h1,sb h2,sb Zf,sg Zt,si (e:=IntKind.i64.wrap ((↑(List.map zaA a.rows).length:Int)+(↑(zal a.query).length:Int))) rfl]
   cases h3:decide (0 < IntKind.i64.wrap ((↑(List.map zaA a.rows).length:Int)+(↑(zal a.query).length:Int)))
   ·let p_2:List St:=p_1++[sg h3,sg Zt,sg Zt]
    cases h4:decide (0 < (↑(List.map Se.cells a.sets).length:Int))
    ·let p_3:List St:=p_2++[sg h4,sg Zt,sg Zt]
     cases h5:decide (0 < (↑(zad a.wh).length:Int))
     ·cases h6:decide (1 < (↑(zad a.wh).length:Int))
      ·obtain ⟨b7,c7⟩:=hw
       cases h8:!b7
       ·obtain ⟨r9,c9⟩:=(zdE (V.mk 3 0 a.text))
        exact ⟨r9,wk At.Aa (p_3++[sb h5,sg h6,sc c7,sb h8,sb Zf,sb Zf,sb Zf,sb Zt,sc c9]) kr⟩
       ·exact ⟨false,wk At.Aa (p_3++[sb h5,sg h6,sc c7,sb h8]) kr⟩
      ·exact ⟨false,wk At.Aa (p_3++[sb h5,sb h6]) kr⟩
     ·exact ⟨false,wk At.Aa (p_3++[sb h5]) kr⟩
    ·exact ⟨false,wk At.Aa (p_2++[sb h4]) kr⟩
   ·exact ⟨false,wk At.Aa (p_1++[sb h3]) kr⟩
  ·obtain ⟨r10,c10⟩:=(zau a.table)
   let p_4:List St:=[sb Zt,sg h1,sg h2,sc c10]
   cases h11:!r10
   ·let p_5:List St:=p_4++[sg h11,sb Zf,sg Zt,si (e:=IntKind.i64.wrap ((↑(List.map zaA a.rows).length:Int)+(↑(zal a.query).length:Int))) rfl]
    cases h12:decide (0 < IntKind.i64.wrap ((↑(List.map zaA a.rows).length:Int)+(↑(zal a.query).length:Int)))
    ·let p_6:List St:=p_5++[sg h12,sg Zt,sg Zt]
     cases h13:decide (0 < (↑(List.map Se.cells a.sets).length:Int))
     ·let p_7:List St:=p_6++[sg h13,sg Zt,sg Zt]
      cases h14:decide (0 < (↑(zad a.wh).length:Int))
      ·cases h15:decide (1 < (↑(zad a.wh).length:Int))
       ·obtain ⟨b16,c16⟩:=hw
        cases h17:!b16
        ·obtain ⟨r18,c18⟩:=(zdE (V.mk 3 0 a.text))
         exact ⟨r18,wk At.Aa (p_7++[sb h14,sg h15,sc c16,sb h17,sb Zf,sb Zf,sb Zf,sb Zt,sc c18]) kr⟩
        ·exact ⟨false,wk At.Aa (p_7++[sb h14,sg h15,sc c16,sb h17]) kr⟩
       ·exact ⟨false,wk At.Aa (p_7++[sb h14,sb h15]) kr⟩
      ·exact ⟨false,wk At.Aa (p_7++[sb h14]) kr⟩
     ·exact ⟨false,wk At.Aa (p_6++[sb h13]) kr⟩
    ·exact ⟨false,wk At.Aa (p_5++[sb h12]) kr⟩
   ·exact ⟨false,wk At.Aa (p_4++[sb h11]) kr⟩
 ·exact ⟨false,wk At.Aa [sb Zt,sb h1] kr⟩
theorem zjm (a:Ac) (hw:∃ b:Bool,zab E0 S.AZ [xsl a.wh] [] (bv b) []) (hi:∃ b:Bool,zab E0 S.Au [.agg (acc 5 a)] [] (bv b) []) (hs:∃ b:Bool,zab E0 S.AA [.sl (a.sets.map Se.cells)] [] (bv b) []):∃ (r:Bool),zab E0 S.Aa [.agg (acc 5 a)] [] (bv r) []:=by
 cases h1:!(5==5)==(ByteArray.toList a.table==Zs0.toList)
 ·cases h2:!ByteArray.toList a.table==Zs0.toList
  ·let p_1:List St:=[sg Zf,sg h1,sb h2,sg Zt]
   cases h3:!ByteArray.toList a.text==Zs0.toList
   ·let p_2:List St:=p_1++[sb h3,sg Zt,si (e:=IntKind.i64.wrap ((↑(List.map zaA a.rows).length:Int)+(↑(zal a.query).length:Int))) rfl]
    cases h4:decide (0 < IntKind.i64.wrap ((↑(List.map zaA a.rows).length:Int)+(↑(zal a.query).length:Int)))
    ·let p_3:List St:=p_2++[sg h4,sg Zt,sb Zf,sg Zt,sg Zt]
     cases h5:decide (0 < (↑(zad a.wh).length:Int))
     ·cases h6:decide (1 < (↑(zad a.wh).length:Int))
      ·obtain ⟨b7,c7⟩:=hw
       cases h8:!b7
       ·let p_4:List St:=p_3++[sb h5,sg h6,sc c7,sb h8,sb Zf,sb Zf,sb Zf,sb Zf,sb Zt]
        cases h9:(↑(List.map Se.cells a.sets).length:Int)==1
        ·exact ⟨false,wk At.Aa (p_4++[sb h9]) kr⟩
        ·obtain ⟨b10,c10⟩:=hs
         exact ⟨b10,wk At.Aa (p_4++[sg h9,sc c10]) kr⟩
       ·exact ⟨false,wk At.Aa (p_3++[sb h5,sg h6,sc c7,sb h8]) kr⟩
      ·exact ⟨false,wk At.Aa (p_3++[sb h5,sb h6]) kr⟩
     ·exact ⟨false,wk At.Aa (p_3++[sb h5]) kr⟩
    ·exact ⟨false,wk At.Aa (p_2++[sb h4]) kr⟩
   ·exact ⟨false,wk At.Aa (p_1++[sb h3]) kr⟩
  ·obtain ⟨r11,c11⟩:=(zau a.table)
   let p_5:List St:=[sg Zf,sg h1,sg h2,sc c11]
   cases h12:!r11
   ·cases h13:!ByteArray.toList a.text==Zs0.toList
    ·let p_6:List St:=p_5++[sg h12,sg Zt,sb h13,sg Zt,si (e:=IntKind.i64.wrap ((↑(List.map zaA a.rows).length:Int)+(↑(zal a.query).length:Int))) rfl]
     cases h14:decide (0 < IntKind.i64.wrap ((↑(List.map zaA a.rows).length:Int)+(↑(zal a.query).length:Int)))
     ·let p_7:List St:=p_6++[sg h14,sg Zt,sb Zf,sg Zt,sg Zt]
      cases h15:decide (0 < (↑(zad a.wh).length:Int))
      ·cases h16:decide (1 < (↑(zad a.wh).length:Int))
       ·obtain ⟨b17,c17⟩:=hw
        cases h18:!b17
        ·let p_8:List St:=p_7++[sb h15,sg h16,sc c17,sb h18,sb Zf,sb Zf,sb Zf,sb Zf,sb Zt]
         cases h19:(↑(List.map Se.cells a.sets).length:Int)==1
         ·exact ⟨false,wk At.Aa (p_8++[sb h19]) kr⟩
         ·obtain ⟨b20,c20⟩:=hs
          exact ⟨b20,wk At.Aa (p_8++[sg h19,sc c20]) kr⟩
        ·exact ⟨false,wk At.Aa (p_7++[sb h15,sg h16,sc c17,sb h18]) kr⟩
       ·exact ⟨false,wk At.Aa (p_7++[sb h15,sb h16]) kr⟩
      ·exact ⟨false,wk At.Aa (p_7++[sb h15]) kr⟩
     ·exact ⟨false,wk At.Aa (p_6++[sb h14]) kr⟩
    ·exact ⟨false,wk At.Aa (p_5++[sg h12,sg Zt,sb h13]) kr⟩
   ·exact ⟨false,wk At.Aa (p_5++[sb h12]) kr⟩
 ·exact ⟨false,wk At.Aa [sg Zf,sb h1] kr⟩
theorem zjh (a:Ac) (n1:(a.kind==1)=false) (n2:(a.kind==2)=false) (n3:(a.kind==3)=false) (n4:(a.kind==4)=false) (n5:(a.kind==5)=false) (m1:(a.kind != 1)=true) (m2:(a.kind != 2)=true) (m3:(a.kind != 3)=true) (m4:(a.kind != 4)=true) (m5:(a.kind != 5)=true) (hw:∃ b:Bool,zab E0 S.AZ [xsl a.wh] [] (bv b) []):∃ (r:Bool),zab E0 S.Aa [a.av] [] (bv r) []:=by
 cases h1:!(a.kind==5)==(ByteArray.toList a.table==Zs0.toList)
 ·cases h2:!ByteArray.toList a.table==Zs0.toList
  ·cases h3:!ByteArray.toList a.text==Zs0.toList
   ·let p_1:List St:=[sg n4,sg h1,sb h2,sg m4,sb h3,sg m1,si (e:=IntKind.i64.wrap ((↑(List.map (fun r=>[AV.sl (zad r)]) a.rows).length:Int)+(↑(zal a.query).length:Int))) rfl]
    cases h4:decide (0 < IntKind.i64.wrap ((↑(List.map (fun r=>[AV.sl (zad r)]) a.rows).length:Int)+(↑(zal a.query).length:Int)))
    ·cases h5:decide (0 < (↑(List.map Se.cells a.sets).length:Int))
     ·let p_2:List St:=p_1++[sg h4,sg m2,sg m5,sg h5,sg m2,sg m3]
      cases h6:decide (0 < (↑(zad a.wh).length:Int))
      ·cases h7:decide (1 < (↑(zad a.wh).length:Int))
       ·obtain ⟨b8,c8⟩:=hw
        cases h9:!b8
        ·exact ⟨false,wk At.Aa (p_2++[sb h6,sg h7,sc c8,sb h9,sb n1,sb n2,sb n3,sb n4,sb n5]) kr⟩
        ·exact ⟨false,wk At.Aa (p_2++[sb h6,sg h7,sc c8,sb h9]) kr⟩
       ·exact ⟨false,wk At.Aa (p_2++[sb h6,sb h7]) kr⟩
      ·exact ⟨false,wk At.Aa (p_2++[sb h6]) kr⟩
     ·exact ⟨false,wk At.Aa (p_1++[sg h4,sg m2,sg m5,sb h5]) kr⟩
    ·exact ⟨false,wk At.Aa (p_1++[sb h4]) kr⟩
   ·exact ⟨false,wk At.Aa [sg n4,sg h1,sb h2,sg m4,sb h3] kr⟩
  ·obtain ⟨r10,c10⟩:=(zau a.table)
   cases h11:!r10
   ·let p_3:List St:=[sg n4,sg h1,sg h2,sc c10,sg h11,sg m4]
    cases h12:!ByteArray.toList a.text==Zs0.toList
    ·let p_4:List St:=p_3++[sb h12,sg m1,si (e:=IntKind.i64.wrap ((↑(List.map (fun r=>[AV.sl (zad r)]) a.rows).length:Int)+(↑(zal a.query).length:Int))) rfl]
     cases h13:decide (0 < IntKind.i64.wrap ((↑(List.map (fun r=>[AV.sl (zad r)]) a.rows).length:Int)+(↑(zal a.query).length:Int)))
     ·cases h14:decide (0 < (↑(List.map Se.cells a.sets).length:Int))
      ·let p_5:List St:=p_4++[sg h13,sg m2,sg m5,sg h14,sg m2,sg m3]
       cases h15:decide (0 < (↑(zad a.wh).length:Int))
       ·cases h16:decide (1 < (↑(zad a.wh).length:Int))
        ·obtain ⟨b17,c17⟩:=hw
         cases h18:!b17
         ·exact ⟨false,wk At.Aa (p_5++[sb h15,sg h16,sc c17,sb h18,sb n1,sb n2,sb n3,sb n4,sb n5]) kr⟩
         ·exact ⟨false,wk At.Aa (p_5++[sb h15,sg h16,sc c17,sb h18]) kr⟩
        ·exact ⟨false,wk At.Aa (p_5++[sb h15,sb h16]) kr⟩
       ·exact ⟨false,wk At.Aa (p_5++[sb h15]) kr⟩
      ·exact ⟨false,wk At.Aa (p_4++[sg h13,sg m2,sg m5,sb h14]) kr⟩
     ·exact ⟨false,wk At.Aa (p_4++[sb h13]) kr⟩
    ·exact ⟨false,wk At.Aa (p_3++[sb h12]) kr⟩
   ·exact ⟨false,wk At.Aa [sg n4,sg h1,sg h2,sc c10,sb h11] kr⟩
 ·exact ⟨false,wk At.Aa [sg n4,sb h1] kr⟩
theorem zmn (a:Ac) (hw:∃ b:Bool,zab E0 S.AZ [xsl a.wh] [] (bv b) []) (hi:∃ b:Bool,zab E0 S.Au [a.av] [] (bv b) []) (hs:∃ b:Bool,zab E0 S.AA [.sl (a.sets.map Se.cells)] [] (bv b) []):∃ (r:Bool),zab E0 S.Aa [a.av] [] (bv r) []:=by
 cases a with
 | mk k tb rows query sets wh text =>
  by_cases h1:k=1
  ·subst h1;exact zji _ hw hi hs
  by_cases h2:k=2
  ·subst h2;exact zjj _ hw hi hs
  by_cases h3:k=3
  ·subst h3;exact zjk _ hw hi hs
  by_cases h4:k=4
  ·subst h4;exact zjl _ hw hi hs
  by_cases h5:k=5
  ·subst h5;exact zjm _ hw hi hs
  exact zjh _ (by simp [h1]) (by simp [h2]) (by simp [h3]) (by simp [h4]) (by simp [h5]) (by simp [h1]) (by simp [h2]) (by simp [h3]) (by simp [h4]) (by simp [h5]) hw
noncomputable def zwi (t:Tg) (i:Nat) :Cfg:=zan B.Af 1 [(1,.p 0 0),(112,.sl (t.acts.map Ac.cells)),(113,iv ((t.acts.map Ac.cells).length:Nat)),(114,iv (i:Nat))] [.box t.cells]
theorem zgf (t:Tg) (h5:zac t.acts) (ha:∀ a∈t.acts,∃ b:Bool,zab E0 S.Aa [a.av] [] (bv b) []) (i:Nat)  (hi:i<=(t.acts).length) (hI:True):((True)/\(decide ((((t.acts).length:Nat):Int) < (((t.acts.map Ac.cells).length:Nat):Int))=false)/\∀ R,Good E0 B.Af [] (zwi t (t.acts).length ) R->Good E0 B.Af [] (zwi t i ) R)\/(∃ (r:Bool),Good E0 B.Af [] (zwi t i ) (Shut 0 fun rZ hZ=>rZ=(bv r)/\hZ=[])):=by
 have hk:=hi;revert i hI;refine zlp ((t.acts).length) (fun i hlt ih hi hI _=>?_)
 obtain ⟨x,hx,h0,hw⟩:=zlq (l:=t.acts) ((t.acts.map Ac.cells).length) hlt ziN
 have hxa:=ha x (List.mem_of_getElem? hx)
 obtain ⟨b1,c1⟩:=hxa
 let p_1:List St:=[sb h0,se (zai Ac.cells hx rfl),sc c1]
 cases h2:!b1
 ·cases h3:t.before
  ·cases h4:x.kind==5
   ·exact zie1 (ih Zo zcQ Zo) fun R gY=>zaa (wkl (p_1++[sg h2,sb h3,sb h4,si hw]) [1,112,113,114] 1 kr gY)
   ·exact .inr ⟨false,zaa (wkr (p_1++[sg h2,sb h3,sg h4,sb (congrArg Bool.not h3)]) kr)⟩
  ·cases h5:x.kind != 4
   ·cases h6:x.kind==5
    ·exact zie1 (ih Zo zcQ Zo) fun R gY=>zaa (wkl (p_1++[sg h2,sg h3,sb h5,sb h6,si hw]) [1,112,113,114] 1 kr gY)
    ·let p_3:List St:=p_1++[sg h2,sg h3,sb h5,sg h6,sg (congrArg Bool.not h3)]
     cases h7:!t.each
     ·cases h8:t.event==3
      ·exact zie1 (ih Zo zcQ Zo) fun R gY=>zaa (wkl (p_3++[sg h7,sb h8,si hw]) [1,112,113,114] 1 kr gY)
      ·exact .inr ⟨false,zaa (wkr (p_3++[sg h7,sb h8]) kr)⟩
     ·exact .inr ⟨false,zaa (wkr (p_3++[sb h7]) kr)⟩
   ·cases h9:!x.kind==5
    ·let p_4:List St:=p_1++[sg h2,sg h3,sg h5,sg h9,sg (zz0 h9),sg (congrArg Bool.not h3)]
     cases h10:!t.each
     ·cases h11:t.event==3
      ·exact zie1 (ih Zo zcQ Zo) fun R gY=>zaa (wkl (p_4++[sg h10,sb h11,si hw]) [1,112,113,114] 1 kr gY)
      ·exact .inr ⟨false,zaa (wkr (p_4++[sg h10,sb h11]) kr)⟩
     ·exact .inr ⟨false,zaa (wkr (p_4++[sb h10]) kr)⟩
    ·exact .inr ⟨false,zaa (wkr (p_1++[sg h2,sg h3,sg h5,sb h9]) kr)⟩
 ·exact .inr ⟨false,zaa (wkr (p_1++[sb h2]) kr)⟩
noncomputable def zsh (t:Tg) (i:Nat) :Cfg:=zan B.Af 0 [(1,.p 0 0),(84,.sl (t.rank.map Rk.cells)),(85,iv ((t.rank.map Rk.cells).length:Nat)),(86,iv (i:Nat))] [.box t.cells]
theorem zgg (t:Tg) (h4:zac t.rank) (i:Nat)  (hi:i<=(t.rank).length) (hI:True):((True)/\(decide ((((t.rank).length:Nat):Int) < (((t.rank.map Rk.cells).length:Nat):Int))=false)/\∀ R,Good E0 B.Af [] (zsh t (t.rank).length ) R->Good E0 B.Af [] (zsh t i ) R)\/(∃ (r:Bool),Good E0 B.Af [] (zsh t i ) (Shut 0 fun rZ hZ=>rZ=(bv r)/\hZ=[])):=by
 have hk:=hi;revert i hI;refine zlp ((t.rank).length) (fun i hlt ih hi hI _=>?_)
 obtain ⟨x,hx,h0,hw⟩:=zlq (l:=t.rank) ((t.rank.map Rk.cells).length) hlt ziN
 obtain ⟨r1,c1⟩:=(zau x.table)
 let p_1:List St:=[sb h0,se (zai Rk.cells hx rfl),sc c1]
 cases h2:!r1
 ·obtain ⟨r3,c3⟩:=(zau x.col)
  cases h4:!r3
  ·cases h5:x.low==-9223372036854775808
   ·cases h6:x.high==-9223372036854775808
    ·exact zie1 (ih Zo zcQ Zo) fun R gY=>zaa (wkl (p_1++[sg h2,sc c3,sg h4,sg h5,sb h6,si hw]) [1,84,85,86] 1 kr gY)
    ·exact .inr ⟨false,zaa (wkr (p_1++[sg h2,sc c3,sg h4,sg h5,sb h6]) kr)⟩
   ·exact .inr ⟨false,zaa (wkr (p_1++[sg h2,sc c3,sg h4,sb h5]) kr)⟩
  ·exact .inr ⟨false,zaa (wkr (p_1++[sg h2,sc c3,sb h4]) kr)⟩
 ·exact .inr ⟨false,zaa (wkr (p_1++[sb h2]) kr)⟩
theorem zbL (t:Tg) (ha:∀ a∈t.acts,∃ b:Bool,zab E0 S.Aa [a.av] [] (bv b) []) (hsr:zac t.rank) (hsa:zac t.acts):∃ (r:Bool),Good E0 B.Af [] (zsh t 0) (Shut 0 fun rZ hZ=>rZ=(bv r)/\hZ=[]):=by
  rcases zgg t zaF 0 zaF zaF with ⟨q1,q1_1,g1⟩|⟨r1_0,g1⟩
  ·rcases zgf t zaF zaF 0 zaF zaF with ⟨q2,q2_1,g2⟩|⟨r2_0,g2⟩
   ·cases h3:decide (1<=(↑(List.map Ac.cells t.acts).length:Int))
    ·exact ⟨false,wkl [] [1,84,85,86] 1 kr (g1 _ (zaa (wkl [sb q1_1] [1,112,113,114] 1 kr (g2 _ (zaa (wkr [sb q2_1,sb h3] kr))))))⟩
    ·exact ⟨decide ((↑(List.map Ac.cells t.acts).length:Int)<=(4:Int)),wkl [] [1,84,85,86] 1 kr (g1 _ (zaa (wkl [sb q1_1] [1,112,113,114] 1 kr (g2 _ (zaa (wkr [sb q2_1,sg h3] kr))))))⟩
   ·exact ⟨r2_0,wkl [] [1,84,85,86] 1 kr (g1 _ (zaa (wkl [sb q1_1] [1,112,113,114] 1 kr g2)))⟩
  ·exact ⟨r1_0,wkl [] [1,84,85,86] 1 kr (g1)⟩
theorem zlz (t:Tg) (hw:∃ b:Bool,zab E0 S.AZ [xsl t.when_] [] (bv b) []) (ha:∀ a∈t.acts,∃ b:Bool,zab E0 S.Aa [a.av] [] (bv b) []) (h1:zac t.of) (h2:zac t.prec) (h3:zac t.foll) (h4:zac t.rank) (h5:zac t.acts):∃ (r:Bool),zab E0 S.Af [t.av] [] (bv r) []:=by
 obtain ⟨r1,c1⟩:=(zau t.name)
 cases h2:!r1
 ·obtain ⟨r3,c3⟩:=(zau t.table)
  cases h4:!r3
  ·cases h5:decide (t.event < 1)
   ·cases h6:decide (3 < t.event)
    ·let p_1:List St:=[sc c1,sg h2,sc c3,sg h4,sg h5,sg h6]
     cases h7:t.event != 2
     ·obtain ⟨r8,c8⟩:=(zdd t.of zaF)
      cases h9:!r8
      ·obtain ⟨r10,c10⟩:=(zdd t.prec zaF)
       cases h11:!r10
       ·obtain ⟨r12,c12⟩:=(zdd t.foll zaF)
        let p_2:List St:=p_1++[sb h7,sc c8,sg h9,sc c10,sg h11,sc c12]
        cases h13:!r12
        ·cases h14:decide (1 < (↑(List.map Rk.cells t.rank).length:Int))
         ·cases h15:t.before
          ·cases h16:decide (1 < (↑(zad t.when_).length:Int))
           ·obtain ⟨b17,c17⟩:=hw
            let p_3:List St:=p_2++[sg h13,sg h14,sb h15,sg h16,sc c17]
            cases h18:!b17
            ·obtain ⟨r19_0,g19⟩:=zbL t zaF zaF zaF
             exact ⟨r19_0,wkc At.Af (p_3++[sb h18]) [1,84,85,86] 1 kr (g19)⟩
            ·exact ⟨false,wk At.Af (p_3++[sb h18]) kr⟩
           ·exact ⟨false,wk At.Af (p_2++[sg h13,sg h14,sb h15,sb h16]) kr⟩
          ·cases h20:decide (0 < (↑(List.map Rk.cells t.rank).length:Int))
           ·cases h21:decide (1 < (↑(zad t.when_).length:Int))
            ·obtain ⟨b22,c22⟩:=hw
             let p_4:List St:=p_2++[sg h13,sg h14,sg h15,sg h20,sg h21,sc c22]
             cases h23:!b22
             ·obtain ⟨r24_0,g24⟩:=zbL t zaF zaF zaF
              exact ⟨r24_0,wkc At.Af (p_4++[sb h23]) [1,84,85,86] 1 kr (g24)⟩
             ·exact ⟨false,wk At.Af (p_4++[sb h23]) kr⟩
            ·exact ⟨false,wk At.Af (p_2++[sg h13,sg h14,sg h15,sg h20,sb h21]) kr⟩
           ·exact ⟨false,wk At.Af (p_2++[sg h13,sg h14,sg h15,sb h20]) kr⟩
         ·exact ⟨false,wk At.Af (p_2++[sg h13,sb h14]) kr⟩
        ·exact ⟨false,wk At.Af (p_2++[sb h13]) kr⟩
       ·exact ⟨false,wk At.Af (p_1++[sb h7,sc c8,sg h9,sc c10,sb h11]) kr⟩
      ·exact ⟨false,wk At.Af (p_1++[sb h7,sc c8,sb h9]) kr⟩
     ·cases h25:decide (0 < (↑(List.map (fun s=>[sv s]) t.of).length:Int))
      ·obtain ⟨r26,c26⟩:=(zdd t.of zaF)
       cases h27:!r26
       ·obtain ⟨r28,c28⟩:=(zdd t.prec zaF)
        cases h29:!r28
        ·obtain ⟨r30,c30⟩:=(zdd t.foll zaF)
         let p_5:List St:=p_1++[sg h7,sb h25,sc c26,sg h27,sc c28,sg h29,sc c30]
         cases h31:!r30
         ·cases h32:decide (1 < (↑(List.map Rk.cells t.rank).length:Int))
          ·cases h33:t.before
           ·cases h34:decide (1 < (↑(zad t.when_).length:Int))
            ·obtain ⟨b35,c35⟩:=hw
             let p_6:List St:=p_5++[sg h31,sg h32,sb h33,sg h34,sc c35]
             cases h36:!b35
             ·obtain ⟨r37_0,g37⟩:=zbL t zaF zaF zaF
              exact ⟨r37_0,wkc At.Af (p_6++[sb h36]) [1,84,85,86] 1 kr (g37)⟩
             ·exact ⟨false,wk At.Af (p_6++[sb h36]) kr⟩
            ·exact ⟨false,wk At.Af (p_5++[sg h31,sg h32,sb h33,sb h34]) kr⟩
           ·cases h38:decide (0 < (↑(List.map Rk.cells t.rank).length:Int))
            ·cases h39:decide (1 < (↑(zad t.when_).length:Int))
             ·obtain ⟨b40,c40⟩:=hw
              let p_7:List St:=p_5++[sg h31,sg h32,sg h33,sg h38,sg h39,sc c40]
              cases h41:!b40
              ·obtain ⟨r42_0,g42⟩:=zbL t zaF zaF zaF
               exact ⟨r42_0,wkc At.Af (p_7++[sb h41]) [1,84,85,86] 1 kr (g42)⟩
              ·exact ⟨false,wk At.Af (p_7++[sb h41]) kr⟩
             ·exact ⟨false,wk At.Af (p_5++[sg h31,sg h32,sg h33,sg h38,sb h39]) kr⟩
            ·exact ⟨false,wk At.Af (p_5++[sg h31,sg h32,sg h33,sb h38]) kr⟩
          ·exact ⟨false,wk At.Af (p_5++[sg h31,sb h32]) kr⟩
         ·exact ⟨false,wk At.Af (p_5++[sb h31]) kr⟩
        ·exact ⟨false,wk At.Af (p_1++[sg h7,sb h25,sc c26,sg h27,sc c28,sb h29]) kr⟩
       ·exact ⟨false,wk At.Af (p_1++[sg h7,sb h25,sc c26,sb h27]) kr⟩
      ·exact ⟨false,wk At.Af (p_1++[sg h7,sb h25]) kr⟩
    ·exact ⟨false,wk At.Af [sc c1,sg h2,sc c3,sg h4,sg h5,sb h6] kr⟩
   ·exact ⟨false,wk At.Af [sc c1,sg h2,sc c3,sg h4,sb h5] kr⟩
  ·exact ⟨false,wk At.Af [sc c1,sg h2,sc c3,sb h4] kr⟩
 ·exact ⟨false,wk At.Af [sc c1,sb h2] kr⟩
theorem vaOk {n:Nat} {a:Ac} (h:AcOk n a):∃ b:Bool,zab E0 S.Aa [a.av] [] (bv b) [] :=
 zmn a (vlOk h.wh h.w) (zmo a (zaD h.rows) (fun r hr=>vlOk (h.row r hr).1 (h.row r hr).2) fun q hq=>vqOk (h.qs q hq)) (zoa _ (zaD h.sets) fun s hs=>vxOk n _ (h.set s hs))
theorem vtOk {n:Nat} {t:Tg} (h:TgOk n t):∃ b:Bool,zab E0 S.Af [t.av] [] (bv b) [] :=
 zlz t (vlOk h.whens h.when_) (fun a ha=>vaOk (h.act a ha)) (zaD h.of) (zaD h.prec) (zaD h.foll) (zaD h.rank) (zaD h.acts)
theorem zcm {p:Prop} (h:p:=by first|assumption|omega|(simp;done)|(simp;omega)):p:=h
theorem zk0 {p:Prop} (h:p:=by first|(simp;done)|(simp;exact ⟨_,rfl⟩)|(simp;exact ⟨⟨_,rfl⟩,⟨_,rfl⟩⟩)):p:=h
theorem zk1 {p:Prop} (h:p:=by first|assumption|(simp [zac];done)|(simp only [zac] at *;omega)):p:=h
theorem zt3 {p:Prop} (h:p:=by first|trivial|assumption|(simp;done)|omega|(simp;omega)|(simp at *;omega)):p:=h
theorem zpY {p:Prop} (h:p:=by first|omega|(simp only [zac,Few] at *;omega)):p:=h
noncomputable def L_fd (s:Sch) (n:Str) (i:Nat) :Cfg:=zan B.Bk 0 [(1,sv n),(8,.sl (s.cols.map Col.cells)),(9,iv ((s.cols.map Col.cells).length:Nat)),(10,iv (i:Nat))] [.box s.cells]
theorem zmb (s:Sch) (n:Str) (h:zac s.cols) (i:Nat)  (hi:i<=(s.cols).length) (hI:True):((True)/\(decide ((((s.cols).length:Nat):Int) < (((s.cols.map Col.cells).length:Nat):Int))=false)/\∀ R,Good E0 B.Bk [] (L_fd s n (s.cols).length ) R->Good E0 B.Bk [] (L_fd s n i ) R)\/(∃ (r:Int),(-1<=r/\r < s.cols.length)/\Good E0 B.Bk [] (L_fd s n i ) (Shut 0 fun rZ hZ=>rZ=(iv r)/\hZ=[])):=by
 have hk:=hi;revert i hI;refine zlp ((s.cols).length) (fun i hlt ih hi hI _=>?_)
 obtain ⟨x,hx,h0,hw⟩:=zlq (l:=s.cols) ((s.cols.map Col.cells).length) hlt zpY
 let p_1:List St:=[sb h0,se (zai Col.cells hx rfl)]
 cases h1:ByteArray.toList x.name==ByteArray.toList n
 ·exact zie2 (ih Zo zt3 Zo) fun R gY=>zaa (wkl (p_1++[sb h1,si hw]) [1,8,9,10] 1 kr gY)
 ·exact .inr ⟨(i:Int),(by (have:=(List.getElem?_eq_some_iff.mp hx).1;omega)),zaa (wkr (p_1++[sb h1]) kr)⟩
theorem zd2 (s:Sch) (n:Str) (h:zac s.cols):∃ (r:Int),(-1<=r/\r < s.cols.length)/\zab E0 S.Bk [s.av,sv n] [] (iv r) []:=by
 rcases zmb s n zcm 0 zcm zcm with ⟨q1,q1_1,g1⟩|⟨r1_0,p1_0,g1⟩
 ·exact ⟨-1,Zb,wkc At.Bk [] [1,8,9,10] 1 kr (g1 _ (zaa (wkr [sb q1_1] kr)))⟩
 ·exact ⟨r1_0,Zb,wkc At.Bk [] [1,8,9,10] 1 kr (g1)⟩
noncomputable def L_cr0 :Cfg:=zan B.B1 0 [(3,.nl),(6,.sl []),(7,iv 0),(8,iv 0)] []
theorem zhI :True/\∀ R,Good E0 B.B1 [] (L_cr0 ) R->Good E0 B.B1 [] (L_cr0 ) R:=⟨trivial,fun _ h=>h⟩
theorem zou (_u:Unit) :∃ (r:List Rw),r=[]/\zab E0 S.B1 [.sl []] [] (.sl (r.map Rw.cells)) []:=by
 obtain ⟨q1,g1⟩:=zhI
 exact ⟨[],(by first|assumption|trivial|(simp;done)|omega|(simp;omega)|(simp at *;omega)),wkc At.B1 [] [3,6,7,8] 0 kr (g1 _ (zaa (wkr [sb Zf] kr)))⟩
theorem zoG:zab E0 S.B1 [.sl []] [] (.sl []) []:=by
 obtain ⟨r,rfl,h⟩:=zou ()
 exact h
def Col.tr (c:Col):Col:=⟨c.name,c.type,false,false⟩
def trTb (n:Str) (s:Sch):Tb:=⟨⟨n,s.cols.map Col.tr⟩,1,[]⟩
noncomputable def L_tr (n:Str) (s:Sch) (i:Nat) (cs:List Col):Cfg:=zan B.BL 0 [(2,.sl []),(6,.p 1 0),(7,.p 2 0),(16,.sl (s.cols.map Col.cells)),(17,iv ((s.cols.map Col.cells).length:Nat)),(18,iv (i:Nat))] [.box s.cells,.box [sv ⟨#[]⟩,.nl,iv 0,.nl],.box [sv n,.own 3 cs.length,iv 1,.sl []],.row Ty.Column (cs.map Col.cells) false]
theorem Zcv1 {p:Prop} (h:p:=by first|rfl|(simp;done)|(simp [X.cells,Qy.cells,V.cells,Col.cells,Rw.cells,Tb.cells,Fr.cells,Sch.cells,Tp.cells,Pl.cells,xCol,xLit,xBin,xNeg,Im.cells,Lk.cells,Ac.cells,Se.cells,Tg.cells,Rk.cells];done)):p:=h
theorem zhz (n:Str) (s:Sch) (h:zac s.cols) (i:Nat) (cs:List Col) (hi:i<=(s.cols).length) (hI:cs=(s.cols.take i).map Col.tr):∃ (cs':List Col),(cs'=(s.cols.take (s.cols).length).map Col.tr)/\(decide ((((s.cols).length:Nat):Int) < (((s.cols.map Col.cells).length:Nat):Int))=false)/\∀ R,Good E0 B.BL [] (L_tr n s (s.cols).length cs') R->Good E0 B.BL [] (L_tr n s i cs) R:=by
 have hk:=hi;revert i cs;refine zlp ((s.cols).length) (fun i hlt ih cs hi hI _=>?_)
 obtain ⟨x,hx,h0,hw⟩:=zlq (l:=s.cols) ((s.cols.map Col.cells).length) hlt zpY
 have hcl:cs.length<=1000000000:=by rw [hI];simp only [zac,List.length_map,List.length_take] at *;omega
 exact Zih (ih (cs++[Col.mk x.name x.type false false]) Zo (by first|(simp [hI,List.take_add_one,hx,Col.tr];done)|(simp;done)) Zo) fun R gY=>zaa (wkl [sb h0,se (zai Col.cells hx rfl),sqA (List.map Col.cells cs) [[sv x.name,iv x.type,bv false,bv false]] cs.length 4 32,si hw] [2,6,7,16,17,18] 4 kr (zaR (show ([(2,AV.sl []),(6,AV.p 1 0),(7,AV.p 2 0),(16,ZC s.cols),(17,iv (↑(List.map Col.cells s.cols).length:Int)),(18,iv (↑(i+1):Int))]:TS)=[(2,AV.sl []),(6,AV.p 1 0),(7,AV.p 2 0),(16,ZC s.cols),(17,iv (↑(List.map Col.cells s.cols).length:Int)),(18,iv (↑(i+1):Int))] from Zcv1) (show ([Blk.box s.cells,Blk.box [sv Zs0,AV.nl,iv 0,AV.nl],Blk.box [sv n,AV.own 3 (List.map Col.cells cs++[[sv x.name,iv x.type,bv false,bv false]]).length,iv 1,AV.sl []],Blk.row Ty.Column (List.map Col.cells cs++[[sv x.name,iv x.type,bv false,bv false]]) false]:Heap)=[Blk.box s.cells,Blk.box [sv Zs0,AV.nl,iv 0,AV.nl],Blk.box [sv n,AV.own 3 (cs++[Col.mk x.name x.type false false]).length,iv 1,AV.sl []],Blk.row Ty.Column (List.map Col.cells (cs++[Col.mk x.name x.type false false])) false] from Zcv1) gY))
theorem zmP (n:Str) (s:Sch) (h:zac s.cols):∃ (r:Tb),r=trTb n s/\zab E0 S.BL [sv n,s.av,.sl []] [] r.av []:=by
 obtain ⟨cs1,q1,q1_1,g1⟩:=zhz n s zcm 0 ([]) zcm zcm
 exact ⟨Tb.mk (Sch.mk n cs1) 1 [],(by (subst_vars;simp [trTb])),wkcN At.BL [sc zoG] [2,6,7,16,17,18] 3 [(.ob 2 1 Ty.Column,4)] kr (g1 _ (zaa (wkr [sqx (True/\cs1.length=(List.map Col.cells cs1).length/\True/\True/\True),sb q1_1,sb Zf] kr)))⟩
theorem zbD (n:Str) (s:Sch) (h:zac s.cols):zab E0 S.BL [sv n,s.av,.sl []] [] (trTb n s).av []:=by
 obtain ⟨r,rfl,h⟩:=zmP n s h
 exact h
noncomputable def L_tr0 (t:Tg) (s:Sch):Cfg:=zan B.As 0 [(3,.p 0 0),(4,.p 1 0),(5,.p 2 0),(7,.nl),(8,.nl),(18,.sl []),(19,iv 0),(20,iv 0)] [.box t.cells,.box s.cells,.box [sv ⟨#[]⟩,.sl [],.sl [],.sl []]]
theorem zdu (t:Tg) (s:Sch):True/\∀ R,Good E0 B.As [] (L_tr0 t s) R->Good E0 B.As [] (L_tr0 t s) R:=⟨trivial,fun _ h=>h⟩
theorem zmB (t:Tg) (s:Sch) (h:zac s.cols):∃ (r:List Tb),(r.length<=2/\∀ x∈r,∃ n,x=trTb n s)/\zab E0 S.As [t.av,s.av,.agg [sv ⟨#[]⟩,.sl [],.sl [],.sl []]] [] (tsl r) []:=by
 cases h1:t.before
 ·cases h2:t.each
  ·obtain ⟨q3,g3⟩:=zdu t (s)
   cases h4:t.event==1
   ·cases h5:t.event==3
    ·let p_1:List St:=[sb Zf,sb h4,sb h5]
     cases h6:t.event==2
     ·exact ⟨[],zk0,wkc At.As [sg h1,sb h2] [3,4,5,7,8,18,19,20] 3 kr (g3 _ (zaa (wkr (p_1++[sb h6]) kr)))⟩
     ·exact ⟨[trTb ZsD s,trTb ZsI s],zk0,wkc At.As [sg h1,sb h2] [3,4,5,7,8,18,19,20] 3 kr (g3 _ (zaa (wkrS (y:=AV.sl [[sv (trTb ZsD s).sch.name,AV.sl (List.map Col.cells (trTb ZsD s).sch.cols),iv (trTb ZsD s).next,AV.sl []],[sv (trTb ZsI s).sch.name,AV.sl (List.map Col.cells (trTb ZsI s).sch.cols),iv (trTb ZsI s).next,AV.sl []]]) (H:=[]) (p_1++[sb h6,sd [(2,[sc (zbD ZsD s zcm)]),(5,[sc (zbD ZsI s zcm)])]]) kr ⟨Zcv1,Zcv1⟩)))⟩
    ·exact ⟨[trTb ZsD s],zk0,wkc At.As [sg h1,sb h2] [3,4,5,7,8,18,19,20] 3 kr (g3 _ (zaa (wkrS (y:=AV.sl [[sv (trTb ZsD s).sch.name,AV.sl (List.map Col.cells (trTb ZsD s).sch.cols),iv (trTb ZsD s).next,AV.sl []]]) (H:=[]) [sb Zf,sb h4,sb h5,sc (zbD ZsD s zcm)] kr ⟨Zcv1,Zcv1⟩)))⟩
   ·exact ⟨[trTb ZsI s],zk0,wkc At.As [sg h1,sb h2] [3,4,5,7,8,18,19,20] 3 kr (g3 _ (zaa (wkrS (y:=AV.sl [[sv (trTb ZsI s).sch.name,AV.sl (List.map Col.cells (trTb ZsI s).sch.cols),iv (trTb ZsI s).next,AV.sl []]]) (H:=[]) [sb Zf,sb h4,sc (zbD ZsI s zcm)] kr ⟨Zcv1,Zcv1⟩)))⟩
  ·exact ⟨[],zk0,wk At.As [sg h1,sb h2] kr⟩
 ·exact ⟨[],zk0,wk At.As [sb h1] kr⟩
theorem zuF (a b:List Tb) (ha:zac a) (hb:zac b):∃ (r:List (List AV)),r=a.map Tb.cells++b.map Tb.cells/\zab E0 S.CU [tsl a,tsl b] [] (.sl r) []:=by
 exact ⟨List.map Tb.cells a++List.map Tb.cells b,Zr,wk At.CU [sqx ((List.map Tb.cells a++List.map Tb.cells b).length=(List.map Tb.cells a++List.map Tb.cells b).length),sqx (AllLen (List.map Tb.cells a) 4/\((List.map Tb.cells a).length * 72).le 140737488355328),sqx (AllLen (List.map Tb.cells b) 4/\(List.map Tb.cells a).length=(List.map Tb.cells a).length/\(((List.map Tb.cells a).length+(List.map Tb.cells b).length) * 72).le 140737488355328)] kr⟩
theorem zki (a b:List Tb) (ha:zac a) (hb:zac b):zab E0 S.CU [tsl a,tsl b] [] (tsl (a++b)) []:=by
 obtain ⟨r,rfl,h⟩:=zuF a b ha hb
 show zab E0 S.CU [tsl a,tsl b] [] (.sl ((a++b).map Tb.cells)) []
 rw [List.map_append]
 exact h
noncomputable def L_tyS (q:Qy) (s:Sch) (inn:List Fr) (tb:List Tb) (i:Nat) (is:List Int):Cfg:=zan B.AR 0 [(2,tsl tb),(3,.p 0 0),(10,fsl inn),(11,.own 2 is.length),(34,.sl (s.cols.map Col.cells)),(35,iv ((s.cols.map Col.cells).length:Nat)),(36,iv (i:Nat))] [.box q.cells,.box s.cells,.row Ty.int (is.map fun n=>[iv n]) false]
theorem zjq (q:Qy) (s:Sch) (inn:List Fr) (tb:List Tb) (hs:zac s.cols) (i:Nat) (is:List Int) (hi:i<=(s.cols).length) (hI:is.length=i):∃ (is':List Int),(is'.length=(s.cols).length)/\(decide ((((s.cols).length:Nat):Int) < (((s.cols.map Col.cells).length:Nat):Int))=false)/\∀ R,Good E0 B.AR [] (L_tyS q s inn tb (s.cols).length is') R->Good E0 B.AR [] (L_tyS q s inn tb i is) R:=by
 have hk:=hi;revert i is;refine zlp ((s.cols).length) (fun i hlt ih is hi hI _=>?_)
 obtain ⟨x,hx,h0,hw⟩:=zlq (l:=s.cols) ((s.cols.map Col.cells).length) hlt zpY
 have hil:is.length<=1000000000:=by simp only [zac] at hs;omega
 exact Zih (ih (is++[x.type]) Zo zt3 Zo) fun R gY=>zaa (wkl [sb h0,se (zai Col.cells hx rfl),sqA (List.map (fun n=>[iv n]) is) [[iv x.type]] is.length 1 8,si hw] [2,3,10,11,34,35,36] 3 kr (zaE 11 2 (List.map (fun n=>[iv n]) is++[[iv x.type]]) gY (he:=Zcv1) (hm:=Zcv1)))
noncomputable def zwa (q:Qy) (s:Sch) (inn:List Fr) (tb:List Tb) (f:X->Int × Int) (i:Nat) (is:List Int):Cfg:=zan B.AR 1 [(2,tsl tb),(3,.p 0 0),(10,fsl inn),(11,.own 2 is.length),(47,xsl q.items),(48,iv ((zad q.items).length:Nat)),(49,iv (i:Nat))] [.box q.cells,.box s.cells,.row Ty.int (is.map fun n=>[iv n]) false]
theorem zjp (q:Qy) (s:Sch) (inn:List Fr) (tb:List Tb) (f:X->Int × Int) (hs:zac q.items) (hf:∀ x∈q.items,Pure S.AC [x.av,fsl inn,tsl tb] (.tup [iv (f x).1,iv (f x).2])) (i:Nat) (is:List Int) (hi:i<=(q.items).length) (hI:is.length=i):(∃ (is':List Int),(is'.length=(q.items).length)/\(decide ((((q.items).length:Nat):Int) < (((zad q.items).length:Nat):Int))=false)/\∀ R,Good E0 B.AR [] (zwa q s inn tb f (q.items).length is') R->Good E0 B.AR [] (zwa q s inn tb f i is) R)\/(∃ (r:List Int) (e:Int),zac r/\Good E0 B.AR [] (zwa q s inn tb f i is) (Shut 0 fun rZ hZ=>rZ=(.tup [isl r,iv e])/\hZ=[])):=by
 have hk:=hi;revert i is;refine zlp ((q.items).length) (fun i hlt ih is hi hI _=>?_)
 obtain ⟨x,hx,h0,hw⟩:=zlq (l:=q.items) ((zad q.items).length) hlt zpY
 have hil:is.length<=1000000000:=by simp only [zac] at hs;omega
 have hfx:=hf x (List.mem_of_getElem? hx)
 cases h1:(f x).snd != 0
 ·exact (ih (is++[(f x).fst]) Zo zt3 Zo).elim (fun ⟨isZ,qZ,xZ,gZ⟩=>.inl ⟨isZ,qZ,xZ,fun R hg=>zaa (wkl [sb h0,se (zak hx),sc hfx,sb h1,sqA (List.map (fun n=>[iv n]) is) [[iv (f x).fst]] is.length 1 8,si hw] [2,3,10,11,47,48,49] 3 kr (zaE 11 2 (List.map (fun n=>[iv n]) is++[[iv (f x).fst]]) (gZ R hg) (he:=Zcv1) (hm:=Zcv1)))⟩) (fun ⟨rY,eY,pZ,gZ⟩=>.inr ⟨rY,eY,pZ,zaa (wkl [sb h0,se (zak hx),sc hfx,sb h1,sqA (List.map (fun n=>[iv n]) is) [[iv (f x).fst]] is.length 1 8,si hw] [2,3,10,11,47,48,49] 3 kr (zaE 11 2 (List.map (fun n=>[iv n]) is++[[iv (f x).fst]]) gZ (he:=Zcv1) (hm:=Zcv1)))⟩)
 ·exact .inr ⟨[],(f x).snd,(by (simp [zac];done)),zaa (wkr [sb h0,se (zak hx),sc hfx,sb h1] kr)⟩
theorem zrw (q:Qy) (frs:List Fr) (tb:List Tb) (f:X->Int × Int) (c:Int) (h1:zac frs) (h2:zac tb) (h3:∀ x∈tb,zac x.sch.cols) (hs:zac q.items) (hsc:zac (zaf tb q.frm).1.cols) (hf:∀ x∈q.items,Pure S.AC [x.av,fsl (zar frs (zaf tb q.frm).1 []),tsl tb] (.tup [iv (f x).1,iv (f x).2])) (hc:Pure S.AP [xsl q.wh,fsl (zar frs (zaf tb q.frm).1 []),tsl tb] (iv c)):∃ (r:List Int) (e:Int),zac r/\zab E0 S.AR [q.av,fsl frs,tsl tb] [] (.tup [isl r,iv e]) []:=by
 let p_1:List St:=[sc (zbe tb q.frm zcm zcm)]
 cases h1:!(zaf tb q.frm).snd
 ·let p_2:List St:=p_1++[sb h1,sc (zc2 frs ((zaf tb q.frm).fst) ([]) zcm)]
  cases h2:q.star
  ·rcases zjp q ((zaf tb q.frm).fst) (zar frs (zaf tb q.frm).fst []) tb f zcm hf 0 ([]) zcm zcm with ⟨is3,q3,q3_1,g3⟩|⟨r3_0,r3_1,p3_0,g3⟩
   ·cases h4:c != 0
    ·exact ⟨is3,0,zk1,wkcN At.AR (p_2++[sb h2]) [2,3,10,11,47,48,49] 2 [(.ot 11 Ty.int,3)] kr (g3 _ (zaa (wkr [sqx (is3.length=(List.map (fun n=>[iv n]) is3).length/\True/\True),sb q3_1,sc hc,sb h4] kr)))⟩
    ·exact ⟨[],c,zk1,wkcN At.AR (p_2++[sb h2]) [2,3,10,11,47,48,49] 2 [(.ot 11 Ty.int,3)] kr (g3 _ (zaa (wkr [sb q3_1,sc hc,sb h4] kr)))⟩
   ·exact ⟨r3_0,r3_1,zk1,wkcN At.AR (p_2++[sb h2]) [2,3,10,11,47,48,49] 2 [(.ot 11 Ty.int,3)] kr (g3)⟩
  ·obtain ⟨is5,q5,q5_1,g5⟩:=zjq q ((zaf tb q.frm).fst) (zar frs (zaf tb q.frm).fst []) tb zcm 0 ([]) zcm zcm
   cases h6:c != 0
   ·exact ⟨is5,0,zk1,wkcN At.AR (p_2++[sb h2]) [2,3,10,11,34,35,36] 2 [(.ot 11 Ty.int,3)] kr (g5 _ (zaa (wkr [sqx (is5.length=(List.map (fun n=>[iv n]) is5).length/\True/\True),sb q5_1,sc hc,sb h6] kr)))⟩
   ·exact ⟨[],c,zk1,wkcN At.AR (p_2++[sb h2]) [2,3,10,11,34,35,36] 2 [(.ot 11 Ty.int,3)] kr (g5 _ (zaa (wkr [sb q5_1,sc hc,sb h6] kr)))⟩
 ·exact ⟨[],3,zk1,wk At.AR (p_1++[sb h1]) kr⟩
theorem zb1 {p:Prop} (h:p:=by first|assumption|omega|exact hca _ ‹_›|(simp;done)|(simp;omega)):p:=h
theorem zbT {p:Prop} (h:p:=by first|assumption|omega|(simp;done)|(simp;omega)):p:=h
theorem zf6 {p:Prop} (h:p:=by first|assumption|omega|(simp only [bne_eq_false_iff_eq,zdR,List.length_map] at *;omega)):p:=h
theorem zhp {p:Prop} (h:p:=by first|trivial|assumption|(simp;done)|omega|(simp;omega)|(simp at *;omega)):p:=h
theorem ziO {p:Prop} (h:p:=by first|assumption|exact zer _ _ _ 0 h3):p:=h
theorem zhq {p:Prop} (h:p:=by first|omega|(simp only [zac,Few] at *;omega)):p:=h
theorem zt4 {p:Prop} (h:p:=by first|omega|(simp only [decide_eq_false_iff_not,decide_eq_true_eq] at *;omega)):p:=h
def AtI {α:Type} (l:List α) (i:Int) (x:α):Prop:=0<=i/\l[i.toNat]?=some x
theorem zkM {α:Type} {l:List α} {i:Int} (h:0<=i/\i < ((l.length:Nat):Int)):∃ x,AtI l i x :=
 ⟨l[i.toNat]'Zo,h.1,List.getElem?_eq_getElem Zo⟩
theorem zdH {α:Type} (f:α->List AV) {l:List α} {i:Int} {x:α} (h:AtI l i x) {n:Nat} (hn:(f x).length=n):ElAt (l.map f) i (f x) n :=
 ⟨h.1,by simp [h.2],hn⟩
abbrev TyOk (x:X) (frs:List Fr) (tb:List Tb):Prop:=∃ t e:Int,zab E0 S.AC [x.av,fsl frs,tsl tb] [] (.tup [iv t,iv e]) []
theorem zdp (a b:Int) :∃ (r:Bool),zab E0 S.CR [iv a,iv b] [] (bv r) []:=by
 exact ⟨zhX b a,wk At.CR [sc (zb6 b a)] kr⟩
theorem zjz (a:Ac) (s0:Se) (s:Sch) (frs:List Fr) (tb:List Tb) (hs:zac s.cols) (ht:∃ t e:Int,zab E0 S.AC [s0.ex.av,fsl frs,tsl tb] [] (.tup [iv t,iv e]) []):∃ (r:Int),zab E0 S.AT [.agg [iv 5,sv a.table,.sl (a.rows.map zaA),.sl (zal a.query),.sl [s0.cells],.sl (zad a.wh),sv a.text],s.av,fsl frs,tsl tb] [] (iv r) []:=by
 obtain ⟨r1,q1,c1⟩:=(zd2 s s0.col zbT)
 cases h2:decide (r1 < 0)
 ·obtain ⟨t3,e3,c3⟩:=ht
  cases h4:e3 != 0
  ·obtain ⟨x5,e5⟩:=zkM (l:=s.cols) (i:=r1) zt4
   obtain ⟨r6,c6⟩:=(zdp x5.type t3)
   let p_1:List St:=[sb Zf,sb Zt,sd [(3,[se (xs:=[[sv s0.col,iv s0.ex.kind,iv s0.ex.op,bv s0.ex.not,iv s0.ex.val.kind,iv s0.ex.val.int,sv s0.ex.val.text,sv s0.ex.table,sv s0.ex.name,AV.sl (zad s0.ex.args),AV.sl (zal s0.ex.sub)]]) (i:=0) (c:=[sv s0.col,iv s0.ex.kind,iv s0.ex.op,bv s0.ex.not,iv s0.ex.val.kind,iv s0.ex.val.int,sv s0.ex.val.text,sv s0.ex.table,sv s0.ex.name,AV.sl (zad s0.ex.args),AV.sl (zal s0.ex.sub)]) (n:=11) ⟨by decide,rfl,rfl⟩]),(6,[sc c1])],sb h2,se (xs:=[[sv s0.col,iv s0.ex.kind,iv s0.ex.op,bv s0.ex.not,iv s0.ex.val.kind,iv s0.ex.val.int,sv s0.ex.val.text,sv s0.ex.table,sv s0.ex.name,AV.sl (zad s0.ex.args),AV.sl (zal s0.ex.sub)]]) (i:=0) (c:=[sv s0.col,iv s0.ex.kind,iv s0.ex.op,bv s0.ex.not,iv s0.ex.val.kind,iv s0.ex.val.int,sv s0.ex.val.text,sv s0.ex.table,sv s0.ex.name,AV.sl (zad s0.ex.args),AV.sl (zal s0.ex.sub)]) (n:=11) ⟨by decide,rfl,rfl⟩,sc c3,sb h4,se (zdH Col.cells e5 rfl),sc c6]
   cases h7:!r6
   ·exact ⟨0,wk At.AT (p_1++[sb h7]) kr⟩
   ·exact ⟨5,wk At.AT (p_1++[sb h7]) kr⟩
  ·exact ⟨e3,wk At.AT [sb Zf,sb Zt,sd [(3,[se (xs:=[(sv s0.col::s0.ex.cells)]) (i:=0) (c:=(sv s0.col::s0.ex.cells)) (n:=11) ⟨by decide,rfl,rfl⟩]),(6,[sc c1])],sb h2,se (xs:=[(sv s0.col::s0.ex.cells)]) (i:=0) (c:=(sv s0.col::s0.ex.cells)) (n:=11) ⟨by decide,rfl,rfl⟩,sc c3,sb h4] kr⟩
 ·exact ⟨3,wk At.AT [sb Zf,sb Zt,sd [(3,[se (xs:=[(sv s0.col::s0.ex.cells)]) (i:=0) (c:=(sv s0.col::s0.ex.cells)) (n:=11) ⟨by decide,rfl,rfl⟩]),(6,[sc c1])],sb h2] kr⟩
theorem zjy (a:Ac) (s:Sch) (frs:List Fr) (tb:List Tb) (h5:(a.kind==5)=false) (hc:∃ e:Int,zab E0 S.Bi [a.av,fsl frs,tsl tb] [] (iv e) []):∃ (r:Int),zab E0 S.AT [a.av,s.av,fsl frs,tsl tb] [] (iv r) []:=by
 cases h1:a.kind==4
 ·obtain ⟨e2,c2⟩:=hc
  exact ⟨e2,wk At.AT [sb h1,sb h5,sc c2] kr⟩
 ·exact ⟨0,wk At.AT [sb h1] kr⟩
noncomputable def zvU (a:Ac) (s:Sch) (frs:List Fr) (tb:List Tb) (io:Nat) (y:List X) (i:Nat) :Cfg:=zan B.Aq 1 [(2,fsl frs),(3,tsl tb),(4,.p 0 0),(5,.p 1 0),(22,.sl (a.rows.map zaA)),(23,iv ((a.rows.map zaA).length:Nat)),(24,iv (io:Nat)),(34,xsl y),(35,iv ((zad y).length:Nat)),(36,iv (i:Nat))] [.box a.cells,.box s.cells]
theorem zgm (a:Ac) (s:Sch) (frs:List Fr) (tb:List Tb) (io:Nat) (y:List X) (hy:zac y) (hty:∀ x∈y,TyOk x frs tb) (hlen:y.length=s.cols.length) (i:Nat)  (hi:i<=(y).length) (hI:True):((True)/\(decide ((((y).length:Nat):Int) < (((zad y).length:Nat):Int))=false)/\∀ R,Good E0 B.Aq [] (zvU a s frs tb io y (y).length ) R->Good E0 B.Aq [] (zvU a s frs tb io y i ) R)\/(∃ (r:Int),Good E0 B.Aq [] (zvU a s frs tb io y i ) (Shut 0 fun rZ hZ=>rZ=(iv r)/\hZ=[])):=by
 have hk:=hi;revert i hI;refine zlp ((y).length) (fun i hlt ih hi hI _=>?_)
 obtain ⟨x,hx,h0,hw⟩:=zlq (l:=y) ((zad y).length) hlt zhq
 have hx1:=hty x (List.mem_of_getElem? hx)
 obtain ⟨t1,e1,c1⟩:=hx1
 cases h2:e1 != 0
 ·obtain ⟨x3,e3⟩:=zbK (l:=s.cols) (i:=i) zbT
  obtain ⟨r4,c4⟩:=(zdp x3.type t1)
  let p_1:List St:=[sb h0,se (zak hx),sc c1,sb h2,se (zai Col.cells e3 rfl),sc c4]
  cases h5:!r4
  ·exact zie1 (ih Zo zhp Zo) fun R gY=>zaa (wkl (p_1++[sb h5,si hw]) [2,3,4,5,22,23,24,34,35,36] 2 kr gY)
  ·exact .inr ⟨5,zaa (wkr (p_1++[sb h5]) kr)⟩
 ·exact .inr ⟨e1,zaa (wkr [sb h0,se (zak hx),sc c1,sb h2] kr)⟩
noncomputable def zvW (a:Ac) (s:Sch) (frs:List Fr) (tb:List Tb) (i:Nat) :Cfg:=zan B.Aq 0 [(2,fsl frs),(3,tsl tb),(4,.p 0 0),(5,.p 1 0),(22,.sl (a.rows.map zaA)),(23,iv ((a.rows.map zaA).length:Nat)),(24,iv (i:Nat))] [.box a.cells,.box s.cells]
theorem zgo (a:Ac) (s:Sch) (frs:List Fr) (tb:List Tb) (hs:zac s.cols) (hr:zac a.rows) (hty:∀ r∈a.rows,zac r/\∀ x∈r,TyOk x frs tb) (i:Nat)  (hi:i<=(a.rows).length) (hI:True):((True)/\(decide ((((a.rows).length:Nat):Int) < (((a.rows.map zaA).length:Nat):Int))=false)/\∀ R,Good E0 B.Aq [] (zvW a s frs tb (a.rows).length ) R->Good E0 B.Aq [] (zvW a s frs tb i ) R)\/(∃ (r:Int),Good E0 B.Aq [] (zvW a s frs tb i ) (Shut 0 fun rZ hZ=>rZ=(iv r)/\hZ=[])):=by
 have hk:=hi;revert i hI;refine zlp ((a.rows).length) (fun i hlt ih hi hI _=>?_)
 obtain ⟨x,hx,h0,hw⟩:=zlq (l:=a.rows) ((a.rows.map zaA).length) hlt zhq
 have hx1:=(hty x (List.mem_of_getElem? hx)).1;have hx2:=(hty x (List.mem_of_getElem? hx)).2
 let p_1:List St:=[sb h0,se (zai zaA hx rfl)]
 cases h1:(↑(zad x).length:Int) != (↑(List.map Col.cells s.cols).length:Int)
 ·rcases zgm a s frs tb i x zf6 zf6 zf6 0 zf6 zf6 with ⟨q2,q2_1,g2⟩|⟨r2_0,g2⟩
  ·exact zie1 (ih Zo zhp Zo) fun R gY=>zaa (wkl (p_1++[sb h1]) [2,3,4,5,22,23,24,34,35,36] 2 kr (g2 _ (zaa (wkl [sb q2_1,si hw] [2,3,4,5,22,23,24] 2 kr gY))))
  ·exact .inr ⟨r2_0,zaa (wkl (p_1++[sb h1]) [2,3,4,5,22,23,24,34,35,36] 2 kr g2)⟩
 ·exact .inr ⟨5,zaa (wkr (p_1++[sb h1]) kr)⟩
noncomputable def zvX (a:Ac) (s:Sch) (frs:List Fr) (tb:List Tb) (io:Nat) (y:List Int) (i:Nat) :Cfg:=zan B.Aq 3 [(2,fsl frs),(3,tsl tb),(5,.p 1 0),(63,.sl (zal a.query)),(64,iv ((zal a.query).length:Nat)),(65,iv (io:Nat)),(85,isl y),(86,iv ((y.map fun n=>[iv n]).length:Nat)),(87,iv (i:Nat))] [.box a.cells,.box s.cells]
theorem zgp (a:Ac) (s:Sch) (frs:List Fr) (tb:List Tb) (io:Nat) (y:List Int) (hy:zac y) (hlen:y.length=s.cols.length) (i:Nat)  (hi:i<=(y).length) (hI:True):((True)/\(decide ((((y).length:Nat):Int) < (((y.map fun n=>[iv n]).length:Nat):Int))=false)/\∀ R,Good E0 B.Aq [] (zvX a s frs tb io y (y).length ) R->Good E0 B.Aq [] (zvX a s frs tb io y i ) R)\/(∃ (r:Int),Good E0 B.Aq [] (zvX a s frs tb io y i ) (Shut 0 fun rZ hZ=>rZ=(iv r)/\hZ=[])):=by
 have hk:=hi;revert i hI;refine zlp ((y).length) (fun i hlt ih hi hI _=>?_)
 obtain ⟨x,hx,h0,hw⟩:=zlq (l:=y) ((y.map fun n=>[iv n]).length) hlt zhq
 obtain ⟨x1,e1⟩:=zbK (l:=s.cols) (i:=i) zbT
 obtain ⟨r2,c2⟩:=(zdp x1.type x)
 let p_1:List St:=[sb h0,se (zai (fun n=>[iv n]) hx rfl),se (zai Col.cells e1 rfl),sc c2]
 cases h3:!r2
 ·exact zie1 (ih Zo zhp Zo) fun R gY=>zaa (wkl (p_1++[sb h3,si hw]) [2,3,5,63,64,65,85,86,87] 2 kr gY)
 ·exact .inr ⟨5,zaa (wkr (p_1++[sb h3]) kr)⟩
noncomputable def zvV (a:Ac) (s:Sch) (frs:List Fr) (tb:List Tb) (i:Nat) :Cfg:=zan B.Aq 2 [(2,fsl frs),(3,tsl tb),(5,.p 1 0),(63,.sl (zal a.query)),(64,iv ((zal a.query).length:Nat)),(65,iv (i:Nat))] [.box a.cells,.box s.cells]
theorem zgn (a:Ac) (s:Sch) (frs:List Fr) (tb:List Tb) (hs:zac s.cols) (hq:zac a.query) (hty:∀ q∈a.query,∃ (r:List Int) (e:Int),zac r/\zab E0 S.AR [q.av,fsl frs,tsl tb] [] (.tup [isl r,iv e]) []) (i:Nat)  (hi:i<=(a.query).length) (hI:True):((True)/\(decide ((((a.query).length:Nat):Int) < (((zal a.query).length:Nat):Int))=false)/\∀ R,Good E0 B.Aq [] (zvV a s frs tb (a.query).length ) R->Good E0 B.Aq [] (zvV a s frs tb i ) R)\/(∃ (r:Int),Good E0 B.Aq [] (zvV a s frs tb i ) (Shut 0 fun rZ hZ=>rZ=(iv r)/\hZ=[])):=by
 have hk:=hi;revert i hI;refine zlp ((a.query).length) (fun i hlt ih hi hI _=>?_)
 obtain ⟨x,hx,h0,hw⟩:=zlq (l:=a.query) ((zal a.query).length) hlt zhq
 have hx1:=hty x (List.mem_of_getElem? hx)
 obtain ⟨r1,e1,q1,c1⟩:=hx1
 cases h2:e1 != 0
 ·cases h3:(↑(List.map (fun n=>[iv n]) r1).length:Int) != (↑(List.map Col.cells s.cols).length:Int)
  ·rcases zgp a s frs tb i r1 zf6 zf6 0 zf6 zf6 with ⟨q4,q4_1,g4⟩|⟨r4_0,g4⟩
   ·exact zie1 (ih Zo zhp Zo) fun R gY=>zaa (wkl [sb h0,se (zba hx),sc c1,sb h2,sb h3] [2,3,5,63,64,65,85,86,87] 2 kr (g4 _ (zaa (wkl [sb q4_1,si hw] [2,3,5,63,64,65] 2 kr gY))))
   ·exact .inr ⟨r4_0,zaa (wkl [sb h0,se (zba hx),sc c1,sb h2,sb h3] [2,3,5,63,64,65,85,86,87] 2 kr g4)⟩
  ·exact .inr ⟨5,zaa (wkr [sb h0,se (zba hx),sc c1,sb h2,sb h3] kr)⟩
 ·exact .inr ⟨e1,zaa (wkr [sb h0,se (zba hx),sc c1,sb h2] kr)⟩
theorem zmp (a:Ac) (s:Sch) (frs:List Fr) (tb:List Tb) (hs:zac s.cols) (hr:zac a.rows) (hq:zac a.query) (hty:∀ r∈a.rows,zac r/\∀ x∈r,TyOk x frs tb) (htq:∀ q∈a.query,∃ (r:List Int) (e:Int),zac r/\zab E0 S.AR [q.av,fsl frs,tsl tb] [] (.tup [isl r,iv e]) []):∃ (r:Int),zab E0 S.Aq [a.av,s.av,fsl frs,tsl tb] [] (iv r) []:=by
 rcases zgo a s frs tb zbT zbT zbT 0 zbT zbT with ⟨q1,q1_1,g1⟩|⟨r1_0,g1⟩
 ·rcases zgn a s frs tb zbT zbT zbT 0 zbT zbT with ⟨q2,q2_1,g2⟩|⟨r2_0,g2⟩
  ·exact ⟨0,wkc At.Aq [] [2,3,4,5,22,23,24] 2 kr (g1 _ (zaa (wkl [sb q1_1] [2,3,5,63,64,65] 2 kr (g2 _ (zaa (wkr [sb q2_1] kr))))))⟩
  ·exact ⟨r2_0,wkc At.Aq [] [2,3,4,5,22,23,24] 2 kr (g1 _ (zaa (wkl [sb q1_1] [2,3,5,63,64,65] 2 kr g2)))⟩
 ·exact ⟨r1_0,wkc At.Aq [] [2,3,4,5,22,23,24] 2 kr (g1)⟩
theorem zry (a:Ac) (h:∃ b:Bool,zab E0 S.Aa [a.av] [] (bv b) []):∃ (r:Bool),zab E0 S.CB [a.av] [] (bv r) []:=by
 cases h1:decide (1<=a.kind)
 ·exact ⟨false,wk At.CB [sb h1] kr⟩
 ·cases h2:decide (a.kind<=3)
  ·exact ⟨false,wk At.CB [sg h1,sb h2] kr⟩
  ·obtain ⟨b3,c3⟩:=h
   exact ⟨b3,wk At.CB [sg h1,sg h2,sc c3] kr⟩
noncomputable def zvY (a:Ac) (s:Sch) (inn:List Fr) (tb:List Tb) (i:Nat) :Cfg:=zan B.Bi 0 [(2,tsl tb),(3,.p 0 0),(7,.p 1 0),(9,fsl inn),(39,.sl (a.sets.map Se.cells)),(40,iv ((a.sets.map Se.cells).length:Nat)),(41,iv (i:Nat))] [.box a.cells,.box s.cells]
theorem zjr (a:Ac) (s:Sch) (inn:List Fr) (tb:List Tb) (hs:zac s.cols) (hsl:zac a.sets) (hty:∀ x∈a.sets,TyOk x.ex inn tb) (i:Nat)  (hi:i<=(a.sets).length) (hI:True):((True)/\(decide ((((a.sets).length:Nat):Int) < (((a.sets.map Se.cells).length:Nat):Int))=false)/\∀ R,Good E0 B.Bi [] (zvY a s inn tb (a.sets).length ) R->Good E0 B.Bi [] (zvY a s inn tb i ) R)\/(∃ (r:Int),Good E0 B.Bi [] (zvY a s inn tb i ) (Shut 0 fun rZ hZ=>rZ=(iv r)/\hZ=[])):=by
 have hk:=hi;revert i hI;refine zlp ((a.sets).length) (fun i hlt ih hi hI _=>?_)
 obtain ⟨x,hx,h0,hw⟩:=zlq (l:=a.sets) ((a.sets.map Se.cells).length) hlt zhq
 have hx1:=hty x (List.mem_of_getElem? hx)
 obtain ⟨r1,q1,c1⟩:=(zd2 s x.col zbT)
 cases h2:decide (r1 < 0)
 ·obtain ⟨t3,e3,c3⟩:=hx1
  cases h4:e3 != 0
  ·obtain ⟨x5,e5⟩:=zkM (l:=s.cols) (i:=r1) zt4
   obtain ⟨r6,c6⟩:=(zdp x5.type t3)
   let p_1:List St:=[sb h0,se (zai Se.cells hx rfl),sc c1,sb h2,sc c3,sb h4,se (zdH Col.cells e5 rfl),sc c6]
   cases h7:!r6
   ·exact zie1 (ih Zo zhp Zo) fun R gY=>zaa (wkl (p_1++[sb h7,si hw]) [2,3,7,9,39,40,41] 2 kr gY)
   ·exact .inr ⟨5,zaa (wkr (p_1++[sb h7]) kr)⟩
  ·exact .inr ⟨e3,zaa (wkr [sb h0,se (zai Se.cells hx rfl),sc c1,sb h2,sc c3,sb h4] kr)⟩
 ·exact .inr ⟨3,zaa (wkr [sb h0,se (zai Se.cells hx rfl),sc c1,sb h2] kr)⟩
theorem zrx (a:Ac) (frs:List Fr) (tb:List Tb) (hsd:∃ b:Bool,zab E0 S.CB [a.av] [] (bv b) []) (h1:zac frs) (h2:zac tb) (h3:∀ x∈tb,zac x.sch.cols) (hs:zac (zaf tb a.table).1.cols) (hsl:zac a.sets) (hins:∃ e:Int,zab E0 S.Aq [a.av,(zaf tb a.table).1.av,fsl frs,tsl tb] [] (iv e) []) (hty:∀ x∈a.sets,TyOk x.ex (zar frs (zaf tb a.table).1 []) tb) (hc:∃ e:Int,zab E0 S.AP [xsl a.wh,fsl (zar frs (zaf tb a.table).1 []),tsl tb] [] (iv e) []):∃ (r:Int),zab E0 S.Bi [a.av,fsl frs,tsl tb] [] (iv r) []:=by
 obtain ⟨b1,c1⟩:=hsd
 cases h2:!b1
 ·let p_1:List St:=[sc c1,sb h2,sc (zbe tb a.table zbT zbT)]
  cases h3:!(zaf tb a.table).snd
  ·cases h4:a.kind==1
   ·let p_2:List St:=p_1++[sb h3,sb h4,sc (zc2 frs ((zaf tb a.table).fst) ([]) zbT)]
    rcases zjr a ((zaf tb a.table).fst) (zar frs (zaf tb a.table).fst []) tb zbT zbT zbT 0 zbT zbT with ⟨q5,q5_1,g5⟩|⟨r5_0,g5⟩
    ·obtain ⟨e6,c6⟩:=hc
     exact ⟨e6,wkc At.Bi p_2 [2,3,7,9,39,40,41] 2 kr (g5 _ (zaa (wkr [sb q5_1,sc c6] kr)))⟩
    ·exact ⟨r5_0,wkc At.Bi p_2 [2,3,7,9,39,40,41] 2 kr (g5)⟩
   ·obtain ⟨e7,c7⟩:=hins
    exact ⟨e7,wk At.Bi (p_1++[sb h3,sb h4,sc c7]) kr⟩
  ·exact ⟨3,wk At.Bi (p_1++[sb h3]) kr⟩
 ·exact ⟨17,wk At.Bi [sc c1,sb h2] kr⟩
noncomputable def zv8 (t:Tg) (s:Sch) (tb:List Tb) (i:Nat) :Cfg:=zan B.AD 0 [(1,tsl tb),(2,.p 0 0),(5,.p 1 0),(33,.sl (t.of.map za0)),(34,iv ((t.of.map za0).length:Nat)),(35,iv (i:Nat))] [.box t.cells,.box s.cells]
theorem zjt (t:Tg) (s:Sch) (tb:List Tb) (hs:zac s.cols) (hl:zac t.of) (i:Nat)  (hi:i<=(t.of).length) (hI:True):((True)/\(decide ((((t.of).length:Nat):Int) < (((t.of.map za0).length:Nat):Int))=false)/\∀ R,Good E0 B.AD [] (zv8 t s tb (t.of).length ) R->Good E0 B.AD [] (zv8 t s tb i ) R)\/(∃ (r:Int),Good E0 B.AD [] (zv8 t s tb i ) (Shut 0 fun rZ hZ=>rZ=(iv r)/\hZ=[])):=by
 have hk:=hi;revert i hI;refine zlp ((t.of).length) (fun i hlt ih hi hI _=>?_)
 obtain ⟨x,hx,h0,hw⟩:=zlq (l:=t.of) ((t.of.map za0).length) hlt zhq
 obtain ⟨r1,q1,c1⟩:=(zd2 s x zbT)
 let p_1:List St:=[sb h0,se (zai za0 hx rfl),sc c1]
 cases h2:decide (r1 < 0)
 ·exact zie1 (ih Zo zhp Zo) fun R gY=>zaa (wkl (p_1++[sb h2,si hw]) [1,2,5,33,34,35] 2 kr gY)
 ·exact .inr ⟨3,zaa (wkr (p_1++[sb h2]) kr)⟩
noncomputable def zv9 (t:Tg) (s:Sch) (tb:List Tb) (i:Nat) :Cfg:=zan B.AD 1 [(1,tsl tb),(2,.p 0 0),(5,.p 1 0),(45,.sl (t.rank.map Rk.cells)),(46,iv ((t.rank.map Rk.cells).length:Nat)),(47,iv (i:Nat))] [.box t.cells,.box s.cells]
theorem zju (t:Tg) (s:Sch) (tb:List Tb) (h2:zac tb) (h3:∀ x∈tb,zac x.sch.cols) (hl:zac t.rank) (i:Nat)  (hi:i<=(t.rank).length) (hI:True):((True)/\(decide ((((t.rank).length:Nat):Int) < (((t.rank.map Rk.cells).length:Nat):Int))=false)/\∀ R,Good E0 B.AD [] (zv9 t s tb (t.rank).length ) R->Good E0 B.AD [] (zv9 t s tb i ) R)\/(∃ (r:Int),Good E0 B.AD [] (zv9 t s tb i ) (Shut 0 fun rZ hZ=>rZ=(iv r)/\hZ=[])):=by
 have hk:=hi;revert i hI;refine zlp ((t.rank).length) (fun i hlt ih hi hI _=>?_)
 obtain ⟨x,hx,h0,hw⟩:=zlq (l:=t.rank) ((t.rank.map Rk.cells).length) hlt zhq
 obtain ⟨r1,q1,c1⟩:=(zd2 ((zaf tb x.table).fst) x.col ziO)
 cases h2:!(zaf tb x.table).snd
 ·cases h3:decide (r1 < 0)
  ·obtain ⟨x4,e4⟩:=zkM (l:=(zaf tb x.table).fst.cols) (i:=r1) zt4
   let p_1:List St:=[sb h0,se (zai Rk.cells hx rfl),sc (zbe tb x.table ziO ziO),sc c1,sg h2,sb h3,se (zdH Col.cells e4 rfl)]
   cases h5:x4.type != 1
   ·exact zie1 (ih Zo zhp Zo) fun R gY=>zaa (wkl (p_1++[sb h5,si hw]) [1,2,5,45,46,47] 2 kr gY)
   ·exact .inr ⟨5,zaa (wkr (p_1++[sb h5]) kr)⟩
  ·exact .inr ⟨3,zaa (wkr [sb h0,se (zai Rk.cells hx rfl),sc (zbe tb x.table ziO ziO),sc c1,sg h2,sb h3] kr)⟩
 ·exact .inr ⟨3,zaa (wkr [sb h0,se (zai Rk.cells hx rfl),sc (zbe tb x.table ziO ziO),sc c1,sb h2] kr)⟩
noncomputable def zv7 (t:Tg) (s:Sch) (frs:List Fr) (all:List Tb) (i:Nat) :Cfg:=zan B.AD 2 [(5,.p 1 0),(14,fsl frs),(15,tsl all),(94,.sl (t.acts.map Ac.cells)),(95,iv ((t.acts.map Ac.cells).length:Nat)),(96,iv (i:Nat))] [.box t.cells,.box s.cells]
theorem zjs (t:Tg) (s:Sch) (frs:List Fr) (all:List Tb) (hl:zac t.acts) (ha:∀ a∈t.acts,∃ e:Int,zab E0 S.AT [a.av,s.av,fsl frs,tsl all] [] (iv e) []) (i:Nat)  (hi:i<=(t.acts).length) (hI:True):((True)/\(decide ((((t.acts).length:Nat):Int) < (((t.acts.map Ac.cells).length:Nat):Int))=false)/\∀ R,Good E0 B.AD [] (zv7 t s frs all (t.acts).length ) R->Good E0 B.AD [] (zv7 t s frs all i ) R)\/(∃ (r:Int),Good E0 B.AD [] (zv7 t s frs all i ) (Shut 0 fun rZ hZ=>rZ=(iv r)/\hZ=[])):=by
 have hk:=hi;revert i hI;refine zlp ((t.acts).length) (fun i hlt ih hi hI _=>?_)
 obtain ⟨x,hx,h0,hw⟩:=zlq (l:=t.acts) ((t.acts.map Ac.cells).length) hlt zhq
 have hx1:=ha x (List.mem_of_getElem? hx)
 obtain ⟨e1,c1⟩:=hx1
 let p_1:List St:=[sb h0,se (zai Ac.cells hx rfl),sc c1]
 cases h2:e1 != 0
 ·exact zie1 (ih Zo zhp Zo) fun R gY=>zaa (wkl (p_1++[sb h2,si hw]) [5,14,15,94,95,96] 2 kr gY)
 ·exact .inr ⟨e1,zaa (wkr (p_1++[sb h2]) kr)⟩
theorem zrz (t:Tg) (tb:List Tb) (hvt:∃ b:Bool,zab E0 S.Af [t.av] [] (bv b) []) (h2:zac tb) (h3:∀ x∈tb,zac x.sch.cols) (hs:zac (zaf tb t.table).1.cols) (ho:zac t.of) (hr:zac t.rank) (hacs:zac t.acts) (hcw:∀ (tr:List Tb),(tr.length<=2/\∀ x∈tr,∃ n,x=trTb n (zaf tb t.table).1)->∃ e:Int,zab E0 S.AP [xsl t.when_,fsl (zaJ t (zaf tb t.table).1 [] []),tsl (tb++tr)] [] (iv e) []) (hca:∀ (tr:List Tb),(tr.length<=2/\∀ x∈tr,∃ n,x=trTb n (zaf tb t.table).1)->∀ a∈t.acts,∃ e:Int,zab E0 S.AT [a.av,(zaf tb t.table).1.av,fsl (zaJ t (zaf tb t.table).1 [] []),tsl (tb++tr)] [] (iv e) []):∃ (r:Int),zab E0 S.AD [t.av,tsl tb] [] (iv r) []:=by
 obtain ⟨b1,c1⟩:=hvt
 cases h2:!b1
 ·let p_1:List St:=[sc c1,sb h2,sc (zbe tb t.table zb1 zb1)]
  cases h3:!(zaf tb t.table).snd
  ·rcases zjt t ((zaf tb t.table).fst) tb zb1 zb1 0 zb1 zb1 with ⟨q4,q4_1,g4⟩|⟨r4_0,g4⟩
   ·rcases zju t ((zaf tb t.table).fst) tb zb1 zb1 zb1 0 zb1 zb1 with ⟨q5,q5_1,g5⟩|⟨r5_0,g5⟩
    ·obtain ⟨r6,q6,c6⟩:=(zmB t ((zaf tb t.table).fst) zb1)
     obtain ⟨e7,c7⟩:=(hcw r6 zb1)
     let p_2:List St:=[sb q5_1,sc (zdz t ((zaf tb t.table).fst) ([]) ([]) zb1 zb1 zb1),sc c6,sc (zki tb r6 zb1 zb1),sc c7]
     cases h8:e7 != 0
     ·rcases zjs t ((zaf tb t.table).fst) (zaJ t (zaf tb t.table).fst [] []) (tb++r6) zb1 zb1 0 zb1 zb1 with ⟨q9,q9_1,g9⟩|⟨r9_0,g9⟩
      ·exact ⟨0,wkc At.AD (p_1++[sb h3]) [1,2,5,33,34,35] 2 kr (g4 _ (zaa (wkl [sb q4_1] [1,2,5,45,46,47] 2 kr (g5 _ (zaa (wkl (p_2++[sb h8]) [5,14,15,94,95,96] 2 kr (g9 _ (zaa (wkr [sb q9_1] kr)))))))))⟩
      ·exact ⟨r9_0,wkc At.AD (p_1++[sb h3]) [1,2,5,33,34,35] 2 kr (g4 _ (zaa (wkl [sb q4_1] [1,2,5,45,46,47] 2 kr (g5 _ (zaa (wkl (p_2++[sb h8]) [5,14,15,94,95,96] 2 kr g9))))))⟩
     ·exact ⟨e7,wkc At.AD (p_1++[sb h3]) [1,2,5,33,34,35] 2 kr (g4 _ (zaa (wkl [sb q4_1] [1,2,5,45,46,47] 2 kr (g5 _ (zaa (wkr (p_2++[sb h8]) kr))))))⟩
    ·exact ⟨r5_0,wkc At.AD (p_1++[sb h3]) [1,2,5,33,34,35] 2 kr (g4 _ (zaa (wkl [sb q4_1] [1,2,5,45,46,47] 2 kr g5)))⟩
   ·exact ⟨r4_0,wkc At.AD (p_1++[sb h3]) [1,2,5,33,34,35] 2 kr (g4)⟩
  ·exact ⟨3,wk At.AD (p_1++[sb h3]) kr⟩
 ·exact ⟨17,wk At.AD [sc c1,sb h2] kr⟩
theorem tyOk {n:Nat} {x:X} {frs:List Fr} {tb:List Tb} (h:XOk n x) (hf:FsOk n frs) (ht:TbOk tb):TyOk x frs tb:=⟨_,_,zir n x frs tb h hf ht⟩
theorem zx4 {n:Nat} {l:List X} {frs:List Fr} {tb:List Tb} (h:∀ x∈l,XOk n x) (hf:FsOk n frs) (ht:TbOk tb):∃ e:Int,zab E0 S.AP [xsl l,fsl frs,tsl tb] [] (iv e) [] :=
 ⟨_,zkc (f:=fun x=>zhY n x frs tb) fun x hx=>zir n x frs tb (h x hx) hf ht⟩
theorem zdN {tb:List Tb} (ht:TbOk tb) (m:Str):zac (zaf tb m).1.cols:=zer tb m tb 0 ht.cols
theorem zBx {n:Nat} {q:Qy} {frs:List Fr} {tb:List Tb} (h:QW n q) (hf:FsOk (n+1) frs) (ht:TbOk tb):∃ (r:List Int) (e:Int),zac r/\zab E0 S.AR [q.av,fsl frs,tsl tb] [] (.tup [isl r,iv e]) [] :=
 zrw q frs tb (fun x=>zhY n x (rIns frs tb q) tb) _ hf.short ht.len ht.cols (zaD h.items) (zdN ht q.frm) (fun x hx=>zir n x _ tb (h.hi x hx) (hf.ins ht q) ht) (zkc fun x hx=>zir n x _ tb (h.hw x hx) (hf.ins ht q) ht)
theorem insOk {n:Nat} {a:Ac} {s:Sch} {frs:List Fr} {tb:List Tb} (h:AcOk n a) (hs:zac s.cols) (hf:FsOk (n+1) frs) (ht:TbOk tb):∃ e:Int,zab E0 S.Aq [a.av,s.av,fsl frs,tsl tb] [] (iv e) [] :=
 zmp a s frs tb hs (zaD h.rows) (zaD h.query) (fun r hr=>⟨zaD (h.row r hr).1,fun x hx=>tyOk ((h.row r hr).2 x hx) hf.less ht⟩) (fun q hq=>zBx (h.qs q hq) hf ht)
theorem chkOk {n:Nat} {a:Ac} {frs:List Fr} {tb:List Tb} (h:AcOk n a) (hf:FsOk (n+1) frs) (ht:TbOk tb):∃ e:Int,zab E0 S.Bi [a.av,fsl frs,tsl tb] [] (iv e) [] :=
 zrx a frs tb (zry a (vaOk h)) hf.short ht.len ht.cols (zdN ht a.table) (zaD h.sets) (insOk h (zdN ht a.table) hf ht) (fun s hs=>tyOk (h.set s hs) (hf.ins ht (Qy.mk false [] a.table [])) ht) (zx4 h.w (hf.ins ht (Qy.mk false [] a.table [])) ht)
def zo0 (a:Ac):Prop:=a.kind=5->∃ s,a.sets=[s]
theorem actOk {n:Nat} {a:Ac} {s:Sch} {frs:List Fr} {tb:List Tb} (h:AcOk n a) (hset:zo0 a) (hs:zac s.cols) (hf:FsOk (n+1) frs) (ht:TbOk tb):∃ e:Int,zab E0 S.AT [a.av,s.av,fsl frs,tsl tb] [] (iv e) []:=by
 by_cases h5:a.kind=5
 ·obtain ⟨s0,hs0⟩:=hset h5
  cases a with
  | mk k tbn rows query sets wh text =>
   subst hs0
   subst h5
   exact zjz ⟨5,tbn,rows,query,[s0],wh,text⟩ s0 s frs tb hs (tyOk (h.set s0 Zs) hf.less ht)
 ·exact zjy a s frs tb (by simpa using h5) (chkOk h hf ht)
theorem TbOk.tr {tb:List Tb} {s:Sch} {tr:List Tb} (h:TbOk tb) (hl:tb.length<=1000) (hs:zac s.cols) (ht:tr.length<=2/\∀ x∈tr,∃ n,x=trTb n s):TbOk (tb++tr):=by
 refine ⟨by have:=ht.1;simp only [zac,List.length_append];omega,fun x hx=>?_,fun x hx=>?_,fun x hx=>?_⟩ <;> rcases List.mem_append.mp hx with hx|hx
 ·exact h.cols x hx
 ·obtain ⟨n,rfl⟩:=ht.2 x hx
  simpa [trTb] using hs
 ·exact h.rows x hx
 ·obtain ⟨n,rfl⟩:=ht.2 x hx
  simp [trTb]
 ·exact h.vals x hx
 ·obtain ⟨n,rfl⟩:=ht.2 x hx
  intro r hr
  cases hr
theorem frOk1 {n:Nat} {l:List Fr} {s:Sch} (hs:zac s.cols) (hn:n<=1000) (hl:l.length<=2) (h:∀ f∈l,f.cols=s.cols/\f.vals=[]):FsOk n l :=
 ⟨by omega,fun f hf=>by rw [(h f hf).1];exact hs,fun f hf v hv=>by rw [(h f hf).2] at hv;cases hv⟩
theorem frOk {n:Nat} (t:Tg) {s:Sch} (hs:zac s.cols) (hn:n<=1000):FsOk n (zaJ t s [] []):=by
 unfold zaJ
 cases t.each <;> cases t.event==2 <;> cases t.event==3 <;> cases t.event==1 <;> exact frOk1 hs hn Zs (by simp [zdO])
theorem zAK {n:Nat} {t:Tg} {tb:List Tb} (h:TgOk n t) (hset:∀ a∈t.acts,zo0 a) (ht:TbOk tb) (hl:tb.length<=1000) (hn:n < 1000):∃ r:Int,zab E0 S.AD [t.av,tsl tb] [] (iv r) [] :=
 zrz t tb (vtOk h) ht.len ht.cols (zdN ht t.table) (zaD h.of) (zaD h.rank) (zaD h.acts)
  (fun tr htr=>zx4 h.when_ (frOk t (zdN ht t.table) Zo) (ht.tr hl (zdN ht t.table) htr))
  (fun tr htr a ha=>actOk (h.act a ha) (hset a ha) (zdN ht t.table) (frOk t (zdN ht t.table) Zo) (ht.tr hl (zdN ht t.table) htr))
end Go.AM
namespace Go.AM
open Go.RowKit
theorem zoe {E:Env0} (ht:zaL E) (em:Bool) (d:Nat) (w:World):∀ (fs:List Field) (px xs:List Value),flat E.T px.length fs (xs.map shp)=true ->
  (forIn (m:=Sem) fs () fun f _=>do
   if f.name ≠ "_" then Instr.checkKey em (d + 1) f.type (← part f.type (px ++ xs).toArray f.offset)
   pure (ForInStep.yield ())).run E.P w=.ok () w
 | [],px,xs,hf=>by simp
 | f::fs,px,[],hf=>by simp [flat] at hf
 | f::fs,px,x::xs,hf=>by
  simp only [List.map_cons,flat,Bool.and_eq_true,bne_iff_ne] at hf
  obtain ⟨⟨⟨hn,ho⟩,hs⟩,hrest⟩:=hf
  have ho:=Nat.eq_of_beq_eq_true ho
  obtain ⟨hsz,hagg,hne⟩:=zqm hs
  obtain ⟨i,dd,z,tok⟩:=ht.at_ hne
  have p1:=ziM tok w (px++x::xs) f.offset (by rw [hsz,ho];simp)
  rw [hsz,ho] at p1
  simp only [List.drop_left,List.take_succ_cons,List.take_zero,zf1,hagg,List.headD_cons] at p1
  have p2:(Instr.checkKey em (d+1) f.type x).run E.P w=.ok () w:=by
   cases x <;> simp [shp,zn5] at hs
   all_goals
    split at hs
    ·rename_i hk
     first
     | (have:=tok.bool_ hk;subst this;exact MapKept.run_checkKey tok.und (by simp [MapKept.IsKey]) em d)
     | (have:=tok.int_ hk;subst this;unfold Instr.checkKey;simp [run_underlying tok.und])
     | (have:=tok.str_ hk;subst this;exact MapKept.run_checkKey tok.und (by simp [MapKept.IsKey]) em d)
    ·cases hs
  have ih:=zoe ht em d w fs (px++[x]) xs (by simpa using hrest)
  simp only [List.append_assoc,List.singleton_append] at ih
  simp only [List.forIn_cons,Sem.run_bind,hn,ne_eq,not_false_eq_true,if_true,ho,p1,p2,Result.andThen_ok,Sem.run_pure]
  exact ih
theorem zmV {P:Program} {kt:TypeId} {ss:List Shp} (hq:StructEq P kt ss) (w:World) {xs:List Value} (hx:xs.map shp=ss):∀ (l:List MapEntry) (rs:List Bool) (n:Nat),rs.length=l.length ->
  (∀ (i:Nat) (e:MapEntry) (r:Bool),l[i]?=some e->rs[i]?=some r->∃ ys,e.key=keyV true ys/\zbI xs ys=some r)->(Instr.findAsking kt (.agg xs.toArray) l n).run P w=.ok (zfQ l rs n) w
 | [],[],_,_,_=>by simp [Instr.findAsking,zfQ]
 | [],_::_,_,h,_=>by simp at h
 | _::_,[],_,h,_=>by simp at h
 | e::l,r::rs,n,hl,hall=>by
  obtain ⟨ys,h1,h2⟩:=hall 0 e r rfl rfl
  have ih:=zmV hq w hx l rs (n+1) (by simpa using hl) (fun i e r hi hr=>hall (i+1) e r (by simpa using hi) (by simpa using hr))
  have h3:=hq.eq w xs ys r hx h2
  simp only [Instr.findAsking,Sem.run_bind,h1,keyV,h3,Result.andThen_ok]
  cases r
  ·simpa [zfQ] using ih
  ·simp [zfQ]
theorem ztK {E:Env0} (ht:zaL E) {t kt et:TypeId} {fs:Array Field} {ss:List Shp} (hu:E.P.underlying t=some (.map kt et)) (hk:E.P.underlying kt=some (.struct fs)) (hf:flat E.T 0 fs.toList ss=true) (hq:StructEq E.P kt ss) {cs:List AV} {xs:List Value}
  (hc:zfi cs=some xs) (hs:xs.map shp=ss):KeyOK E.P t (.agg cs):=by
 refine ⟨⟨true,xs,by simp [zcC,hc],⟨⟨kt,et,hu,fun e w us hx=>?_,fun w us l rs hx hl hall=>?_⟩⟩⟩⟩
 ·have h1:=zoe ht e 9998 w fs.toList [] us (by rw [hx,hs];exact hf)
  simp only [List.nil_append] at h1
  show (Instr.checkKey e 10000 kt (.agg us.toArray)).run E.P w=.ok () w
  unfold Instr.checkKey
  simp only [Sem.run_bind,run_underlying hk,Result.andThen_ok]
  rw [← Array.forIn_toList]
  have h2:∀ r:Result Unit,r=.ok () w->(r.andThen fun a w'=>(pure ():Sem Unit).run E.P w')=.ok () w:=by
   rintro _ rfl
   rfl
  exact h2 _ h1
 ·show (Instr.findKey kt (.agg us.toArray) l).run E.P w=_
  rw [run_findKey_eq w (by rw [hk]) _ l]
  exact zmV hq w (by rw [hx,hs]) l rs 0 hl hall
end Go.AM
namespace Go.AM
open Go.RowKit
def zrR (E:Env0) (h0:Heap) (β0:List Con) (S0:Addr->Prop) (w0:World) (fn:Func) (RR:Ending->World->Prop) (c:Cfg):Prop :=
 ∀ (β:List Con) (S:Addr->Prop) (w:World) (tmps:Array Value),tmps.size=c.n->Ext h0 β0 S0 w0 c.h β S w->Rel E c.h β S w->zaK E.T c.h β w S c.ts tmps->kont E.P c.todo (bodyPost E.P fn RR) .normal ⟨tmps,[]⟩ w
theorem zup {E:Env0} (ht:zaL E) (hm:E.P.follows .mixedOrders=true) {h0:Heap} {β0:List Con} {S0:Addr->Prop} {w0:World} {fn:Func} {RR:Ending->World->Prop} {c c':Cfg} {os os':List Orc} {q:Option Prop} (hs:step (mk E) c os=some (q,c',os')) (hq:zaw q) (hg:zrR E h0 β0 S0 w0 fn RR c'):zrR E h0 β0 S0 w0 fn RR c:=by
 intro β S w tmps hn x0 r rt
 obtain ⟨n,todo,ts,h⟩:=c
 simp only at hn x0 r rt ⊢
 unfold step at hs
 simp only at hs
 cases todo with
 | nil=>cases hs
 | cons it k =>
  cases it with
  | blk id =>
   simp only [Option.some.injEq,Prod.mk.injEq] at hs
   obtain ⟨_,rfl,_⟩:=hs
   exact hg β S w tmps hn x0 r rt
  | lp cc=>cases hs
  | ops all rest =>
   cases rest with
   | nil =>
    simp only [Option.some.injEq,Prod.mk.injEq] at hs
    obtain ⟨_,rfl,_⟩:=hs
    exact hg β S w tmps hn x0 r rt
   | cons o rest =>
    simp only at hs
    split at hs
    ·rename_i x hdst hx
     simp only [Option.some.injEq,Prod.mk.injEq] at hs
     obtain ⟨rfl,rfl,_⟩:=hs
     have hd:zaV tmps.size o.dst=true:=by rw [hn];exact hdst
     simp only [kont,Exit.then]
     refine wpList_step fun K hK=>?_
     have:=zuo (Q:=kont E.P k (bodyPost E.P fn RR)) (K:=K) ht r rt hd hx hq ⟨fun β' S' w' tmps' hsz r' e' rt'=>hK _ _ ?_⟩
     ·exact this
     ·have:=hg β' S' w' tmps' (by rw [hsz];exact hn) (x0.trans e') r' rt'
      simp only [kont,Exit.then] at this
      exact this
    ·cases hs
  | code cc =>
   simp only [kont,Exit.then]
   cases cc with
   | skip =>
    simp only [Option.some.injEq,Prod.mk.injEq] at hs
    obtain ⟨_,rfl,_⟩:=hs
    exact wp_skip (hg β S w tmps hn x0 r rt)
   | label l =>
    simp only [Option.some.injEq,Prod.mk.injEq] at hs
    obtain ⟨_,rfl,_⟩:=hs
    exact wp_label (hg β S w tmps hn x0 r rt)
   | scope a =>
    simp only [Option.some.injEq,Prod.mk.injEq] at hs
    obtain ⟨_,rfl,_⟩:=hs
    refine wp_scope_straight (wp_mono (hg β S w tmps hn x0 r rt) fun e a w he=>?_)
    cases e with
    | goto l=>exact zfx k l a w he
    | _=>exact he
   | loop a =>
    simp only [Option.some.injEq,Prod.mk.injEq] at hs
    obtain ⟨_,rfl,_⟩:=hs
    exact zqt (hg β S w tmps hn x0 r rt)
   | seq a b =>
    simp only [Option.some.injEq,Prod.mk.injEq] at hs
    obtain ⟨_,rfl,_⟩:=hs
    refine wp_seq (wp_mono (hg β S w tmps hn x0 r rt) fun e a w he=>?_)
    cases e <;> exact he
   | block id a =>
    simp only [Option.some.injEq,Prod.mk.injEq] at hs
    obtain ⟨_,rfl,_⟩:=hs
    refine wp_block (wp_mono (hg β S w tmps hn x0 r rt) fun e a w he=>?_)
    cases e <;> exact he
   | region id ops draw =>
    cases draw with
    | true =>
     simp only at hs
     split at hs
     ·rename_i l os1
      split at hs
      ·rename_i qs ts1 h1 hlv hsz
       simp only [Option.some.injEq,Prod.mk.injEq] at hs
       obtain ⟨rfl,rfl,_⟩:=hs
       simp only [zaw] at hq
       exact zvP ht hm (Nat.eq_of_beq_eq_true hsz) hlv hq hn x0 r rt (fun β' S' w' tmps' hn' x' r' rt'=>hg β' S' w' tmps' hn' x' r' rt')
      ·cases hs
     ·cases hs
    | false =>
     simp only [Option.some.injEq,Prod.mk.injEq] at hs
     obtain ⟨_,rfl,_⟩:=hs
     have:=hg β S w tmps hn x0 r rt
     simp only [kont,Exit.then] at this
     exact wp_region_list this
   | exit id =>
    simp only at hs
    split at hs
    ·rename_i k' hk
     simp only [Option.some.injEq,Prod.mk.injEq] at hs
     obtain ⟨_,rfl,_⟩:=hs
     exact wp_exit (zft k k' _ _ hk (hg β S w tmps hn x0 r rt))
    ·cases hs
   | cond x a b =>
    have hx:=zaX (ds:=[]) r rt x
    have lit:∀ bb,Act.eval ⟨tmps,[]⟩ x=.bool bb->zaK E.T h β w S (zsu ts bb x) tmps:=by
     intro bb he
     cases x with
     | tmp d=>exact rt.lit he
     | _=>exact rt
    simp only at hs
    split at hs
    ·rename_i he
     simp only [mk_G] at he
     rw [he] at hx
     simp only [Option.some.injEq,Prod.mk.injEq] at hs
     obtain ⟨_,rfl,_⟩:=hs
     exact wp_cond_true hx.bl_inv (hg β S w tmps hn x0 r rt)
    ·rename_i he
     simp only [mk_G] at he
     rw [he] at hx
     simp only [Option.some.injEq,Prod.mk.injEq] at hs
     obtain ⟨_,rfl,_⟩:=hs
     exact wp_cond_false hx.bl_inv (hg β S w tmps hn x0 r rt)
    ·rename_i t he
     simp only [mk_G] at he
     rw [he] at hx
     split at hs
     ·simp only [Option.some.injEq,Prod.mk.injEq] at hs
      obtain ⟨rfl,rfl,_⟩:=hs
      simp only [zaw] at hq
      subst hq
      exact wp_cond_true hx.v_inv (hg β S w tmps hn x0 r (lit _ hx.v_inv))
     ·simp only [Option.some.injEq,Prod.mk.injEq] at hs
      obtain ⟨rfl,rfl,_⟩:=hs
      simp only [zaw] at hq
      subst hq
      exact wp_cond_false hx.v_inv (hg β S w tmps hn x0 r (lit _ hx.v_inv))
     ·cases hs
    ·cases hs
   | _=>cases hs
theorem zqU {E:Env0} (ht:zaL E) (hm:E.P.follows .mixedOrders=true) {h0:Heap} {β0:List Con} {S0:Addr->Prop} {w0:World} {fn:Func} {RR:Ending->World->Prop}:∀ (n:Nat) (c:Cfg) (os:List Orc),allP (run (mk E) n c os).1->zrR E h0 β0 S0 w0 fn RR (run (mk E) n c os).2.1->zrR E h0 β0 S0 w0 fn RR c
 | 0,c,os,_,hg=>hg
 | n+1,c,os,hq,hg=>by
  unfold run at hq hg
  cases hs:step (mk E) c os with
  | none=>simp only [hs] at hg;exact hg
  | some x =>
   obtain ⟨q,c',os'⟩:=x
   cases q with
   | none =>
    simp only [hs] at hq hg
    exact zup ht hm hs trivial (zqU ht hm n c' os' hq hg)
   | some q =>
    simp only [hs] at hq hg
    obtain ⟨h1,h2⟩:=zjK hq
    exact zup ht hm hs h1 (zqU ht hm n c' os' h2 hg)
structure Foreign (gs:List Nat) (β:List Con) (S:Addr->Prop) (w0 w:World):Prop where
 new:∀ g∈gs.tail,w0.heap.size<=g
 lt:∀ g∈gs,g < w.heap.size
 apart:∀ g∈gs,∀ (b:Nat) (k:Con),β[b]?=some k->k.blk≠some g
 sep:∀ g∈gs,∀ a,S a->a.block≠g
theorem Foreign.ext {gs:List Nat} {h h':Heap} {β β':List Con} {S S':Addr->Prop} {w0 w w':World} (f:Foreign gs β S w0 w) (x:Ext h β S w h' β' S' w'):Foreign gs β' S' w0 w'/\∀ g∈gs,w'.heap[g]?=w.heap[g]? :=
 ⟨⟨f.new,fun g hg=>Nat.lt_of_lt_of_le (f.lt g hg) x.size,fun g hg b k hb hk=>by
  rcases x.new b k g hb hk with ⟨b',k',h1,h2,_⟩|h1
  ·exact f.apart g hg b' k' h1 h2
  ·have:=f.lt g hg;omega,fun g hg a ha he=>by
  rcases x.S_new a ha with h1|h1|⟨b,k,h1,h2⟩
  ·exact f.sep g hg a h1 he
  ·have:=f.lt g hg;omega
  ·exact f.apart g hg b k h1 (by rw [h2,he])⟩,fun g hg=>x.keep g (f.lt g hg) (f.apart g hg)⟩
def zbJ (E:Env0) (fn:Func) (h0:Heap) (gs:List Nat) (F:(Addr->Prop)->World->Prop) (c:Cfg) (R:AV->Heap->Prop):Prop :=
 ∀ (β0:List Con) (S0:Addr->Prop) (w0:World) (β:List Con) (S:Addr->Prop) (w:World) (tmps:Array Value),β0.length=h0.length->tmps.size=c.n->Ext h0 β0 S0 w0 c.h β S w->Rel E c.h β S w->zaK E.T c.h β w S c.ts tmps->Foreign gs β S w0 w->F S w ->
  kont E.P c.todo (bodyPost E.P fn (Post E h0 β0 S0 w0 R)) .normal ⟨tmps,[]⟩ w
def Only (gs:List Nat) (F:(Addr->Prop)->World->Prop):Prop:=∀ (S S':Addr->Prop) (w w':World),(∀ a,S a->S' a)->(∀ a,S a->w'.cell? a=w.cell? a)->(∀ g∈gs,w'.heap[g]?=w.heap[g]?)->F S w->F S' w'
theorem zzP {E:Env0} {fn:Func} {h0:Heap} {gs:List Nat} {F:(Addr->Prop)->World->Prop} {c:Cfg} {R:AV->Heap->Prop} (hg:Good E fn h0 c R):zbJ E fn h0 gs F c R :=
 fun β0 S0 w0 β S w tmps hb hn x r rt _ _=>hg β0 S0 w0 β S w tmps hb hn x r rt
theorem zmX {E:Env0} (ht:zaL E) (hm:E.P.follows .mixedOrders=true) {fn:Func} {h0:Heap} {gs:List Nat} {F:(Addr->Prop)->World->Prop} (hF:Only gs F) {R:AV->Heap->Prop} (n:Nat) {c:Cfg} (os:List Orc) (hq:allP (run (mk E) n c os).1) (hg:zbJ E fn h0 gs F (run (mk E) n c os).2.1 R):zbJ E fn h0 gs F c R :=
 fun β0 S0 w0 β S w tmps hb hn x r rt hf hw=>zqU ht hm (h0:=c.h) (β0:=β) (S0:=S) (w0:=w) n c os hq (fun β' S' w' tmps' hn' x' r' rt' =>
  hg β0 S0 w0 β' S' w' tmps' hb hn' (x.trans x') r' rt' (hf.ext x').1 (hF S S' w w' x'.S_le x'.S_cell (hf.ext x').2 hw)) β S w tmps hn (Ext.refl _ _ _ _) r rt
theorem zq8 {E:Env0} {fn:Func} {R:AV->Heap->Prop} {h0:Heap} {gs:List Nat} {F:(Addr->Prop)->World->Prop} {c:Cfg} (live:List Nat) (m:Nat) (hm:h0.length<=m) (hg:zbJ E fn h0 gs F (cut live m c) R):zbJ E fn h0 gs F c R:=by
 intro β0 S0 w0 β S w tmps hb0 hn x0 r rt hf hw
 obtain ⟨r1,hv⟩:=r.first m
 refine hg β0 S0 w0 (β.take m) S w tmps hb0 hn (x0.first r hm hb0) r1 (fun t=>?_) ⟨hf.new,hf.lt,fun g hg b k hb=>?_,hf.sep⟩ hw
 ·rcases zjV m c.ts live t with h1|h1
  ·simp only [cut];rw [h1];exact .d _ _ (.un _)
  ·simp only [cut];rw [h1];exact hv _ _ (rt t)
 ·rw [List.getElem?_take] at hb
  split at hb
  ·exact hf.apart g hg b k hb
  ·cases hb
theorem zzQ {E:Env0} (ht:zaL E) (hmix:E.P.follows .mixedOrders=true) {fn:Func} {R:AV->Heap->Prop} {h0:Heap} {gs:List Nat} {F:(Addr->Prop)->World->Prop} (hF:Only gs F) {c c':Cfg} (n:Nat) (os:List Orc) (live:List Nat) (m:Nat) {q:List Prop}
  (hm:Nat.ble h0.length m=true) (hq0:(run (mk E) n c os).1=q) (hc:cut live m (run (mk E) n c os).2.1=c') (hq:allP q) (hg:zbJ E fn h0 gs F c' R):zbJ E fn h0 gs F c R:=by
 subst hq0
 subst hc
 exact zmX ht hmix hF n os hq (zq8 live m (Nat.le_of_ble_eq_true hm) hg)
structure Touch (g:Nat) (w w':World):Prop where
 os:w'.os=w.os
 tape:w'.tape=w.tape
 drawn:w.drawn<=w'.drawn
 output:w'.output=w.output
 size:w'.heap.size=w.heap.size
 other:∀ b,b≠g->w'.heap[b]?=w.heap[b]?
theorem Touch.cell {g:Nat} {w w':World} (t:Touch g w w') {a:Addr} (ha:a.block≠g):w'.cell? a=w.cell? a:=World.cell?_of_block (t.other a.block ha)
theorem Ext.touch {h0 h:Heap} {β0 β:List Con} {S0 S:Addr->Prop} {w0 w w':World} {gs:List Nat} {g:Nat} (x:Ext h0 β0 S0 w0 h β S w) (t:Touch g w w') (f:Foreign gs β S w0 w) (hg:g∈gs) (hgt:g∈gs.tail):Ext h0 β0 S0 w0 h β S w' where
 box:=x.box
 con:=x.con
 row:=x.row
 mp:=x.mp
 conm:=x.conm
 S_le:=x.S_le
 S_cell:=fun a ha=>(t.cell (f.sep g hg a (x.S_le a ha))).trans (x.S_cell a ha)
 S_new:=x.S_new
 os:=t.os.trans x.os
 tape:=t.tape.trans x.tape
 drawn:=Nat.le_trans x.drawn t.drawn
 output:=t.output.trans x.output
 size:=by rw [t.size];exact x.size
 keep:=fun b hb hne=>(t.other b (by have:=f.new g hgt;omega)).trans (x.keep b hb hne)
 new:=x.new
theorem RelV.cells {T:TypeId->TI} {h:Heap} {β:List Con} {S:Addr->Prop} {w w':World} (hc:∀ a,S a->w'.cell? a=w.cell? a) {x:AV} {y:Value} (hr:RelV T h β w S x y):RelV T h β w' S x y:=by
 induction hr with
 | d x y hd=>exact .d x y (hd.mono (fun _ h=>h) hc)
 | agg cs vs hl ho _ ih=>exact .agg cs vs hl ho ih
 | tup cs vs hl _ ih=>exact .tup cs vs hl ih
 | nl a=>exact .nl a
 | p b off g hb=>exact .p b off g hb
 | own b n y e xs sh hb hn hy ho=>exact .own b n y e xs sh hb hn hy ho
 | ep b n i off g e xs sh hb hn hy=>exact .ep b n i off g e xs sh hb hn hy
 | os b n lo hi y e xs sh hb hn hl hh ho hy=>exact .os b n lo hi y e xs sh hb hn hl hh ho hy
 | fn f caps vs hl _ ih=>exact .fn f caps vs hl ih
 | mp b g hb=>exact .mp b g hb
theorem Rel.touch {E:Env0} {h:Heap} {β:List Con} {S:Addr->Prop} {w0 w w':World} {gs:List Nat} {g:Nat} (r:Rel E h β S w) (t:Touch g w w') (f:Foreign gs β S w0 w) (hg:g∈gs):Rel E h β S w' where
 len:=r.len
 box:=fun b cs hb=>by
  obtain ⟨q,vs,ty,h1,h2,h3,h4⟩:=r.box b cs hb
  exact ⟨q,vs,ty,h1,(t.other q fun e=>f.apart g hg b _ h1 (by rw [← e];rfl)).trans h2,h3,fun i x y hx hy=>⟨(h4 i x y hx hy).1.cells fun a ha=>t.cell (f.sep g hg a ha),(h4 i x y hx hy).2⟩⟩
 row:=fun b e xs sh hb=>by
  obtain ⟨k,h1,h2⟩:=r.row b e xs sh hb
  exact ⟨k,h1,h2.ext (fun _ h=>h) (fun a ha=>t.cell (f.sep g hg a ha)) fun q hq=>t.other q fun e=>f.apart g hg b k h1 (by rw [hq,e])⟩
 mp:=fun b es hb=>by
  obtain ⟨k,h1,h2⟩:=r.mp b es hb
  exact ⟨k,h1,h2.ext (fun _ h=>h) (fun a ha=>t.cell (f.sep g hg a ha)) (t.other k fun e=>f.apart g hg b _ h1 (by rw [← e];rfl))⟩
 apart:=r.apart
 lt:=fun b k q h1 h2=>by rw [t.size];exact r.lt b k q h1 h2
 stable:=fun a ha=>by rw [t.size];exact r.stable a ha
 free:=r.free
 glob:=fun q cs hq=>(r.glob q cs hq).mono (fun _ h=>h) fun a ha=>t.cell (f.sep g hg a ha)
theorem zaK.touch {E:Env0} {h:Heap} {β:List Con} {S:Addr->Prop} {w0 w w':World} {gs:List Nat} {g:Nat} {ts:TS} {tmps:Array Value} (rt:zaK E.T h β w S ts tmps) (t:Touch g w w') (f:Foreign gs β S w0 w) (hg:g∈gs):zaK E.T h β w' S ts tmps :=
 fun q=>(rt q).cells fun a ha=>t.cell (f.sep g hg a ha)
theorem Foreign.touch {gs:List Nat} {β:List Con} {S:Addr->Prop} {w0 w w':World} {g:Nat} (f:Foreign gs β S w0 w) (t:Touch g w w'):Foreign gs β S w0 w':=⟨f.new,fun q hq=>by rw [t.size];exact f.lt q hq,f.apart,f.sep⟩
/-! ### 'for k, v := range m' -/
def zjT (L:List (AV × AV)) (seen:Array Nat):List (AV × AV):=((List.range L.length).filter fun i=>!seen.contains i).filterMap fun i=>L[i]?
def ItF (gm gi:Nat) (l:List (AV × AV)) (cur:Option (AV × AV)) (S:Addr->Prop) (w:World):Prop:=∃ (L:List (AV × AV)) (ents:Array MapEntry) (seen:Array Nat) (c0:Nat),
 w.heap[gm]?=some (.map ents L.length)/\ents.size=L.length/\(∀ (i:Nat) (k x:AV),L[i]?=some (k,x)->∃ (kv xv:Value),ents[i]?=some ⟨kv,xv,i⟩/\RelD w S k kv/\RelD w S x xv) /\
 w.heap[gi]?=some (.mapIter (some gm) L.length seen c0)/\L.length<=c0/\l.Perm (zjT L seen) /\
 ∀ p,cur=some p->∃ (s':Array Nat) (i:Nat),seen=s'.push i/\L[i]?=some p/\c0=L.length
theorem zoq (gm gi:Nat) (l:List (AV × AV)) (cur:Option (AV × AV)):Only [gm,gi] (ItF gm gi l cur):=by
 intro S S' w w' hS hc hg ⟨L,ents,seen,c0,h1,h2,h3,h4,h5,h6,h7⟩
 exact ⟨L,ents,seen,c0,(hg gm Zs).trans h1,h2,fun i k x hi=>by
  obtain ⟨kv,xv,a1,a2,a3⟩:=h3 i k x hi
  exact ⟨kv,xv,a1,a2.mono hS hc,a3.mono hS hc⟩,(hg gi Zs).trans h4,h5,h6,h7⟩
theorem zpQ {α:Type} (L:List α):∀ n:Nat,(List.range n).filterMap (fun i=>L[i]?)=L.take n
 | 0=>by simp
 | n+1=>by
  rw [List.range_succ,List.filterMap_append,zpQ L n,List.take_add_one]
  congr 1
theorem zwR (L:List (AV × AV)):zjT L #[]=L:=by
 unfold zjT
 have:(List.range L.length).filter (fun i=>!(#[]:Array Nat).contains i)=List.range L.length:=by simp
 rw [this,zpQ,List.take_length]
theorem zuM {E:Env0} {fn:Func} {h0:Heap} {all r:List Oper} {o:Oper} {k:List It} {n:Nat} {ts:TS} {R:AV->Heap->Prop} {t kt et:TypeId} {tm b d:Nat} {es:List (AV × AV)} (live:List Nat) (hop:o.op=.range t (.tmp tm)) (hgd:o.guard=none) (hd:o.dst=some d) (hdn:d < n)
  (ht:E.P.underlying t=some (.map kt et)) (hm:look ts tm=.mp b) (hb:h0[b]?=some (.mp es))
  (H:∀ gm gi,zbJ E fn [] [gm,gi] (ItF gm gi es none) ⟨n,.ops all r::k,(d,.v (.pointer (some ⟨gi,0,none⟩)))::mask live 0 ts,[]⟩ (Shut 0 R)):Good E fn h0 ⟨n,.ops all (o::r)::k,ts,h0⟩ (fun y h=>R y []/\h=h0):=by
 intro β0 S0 w0 β S w tmps hβ hn x0 r0 rt
 simp only at hn x0 r0 rt
 obtain ⟨gm,c1,L,ents,c2,c3,c4,c5⟩:=r0.mp b es hb
 have hmv:=rt tm
 rw [hm] at hmv
 generalize hev:tmps.getD tm undef=mv at hmv
 cases hmv with
 | d _ _ hd=>cases hd
 | mp _ g' c1' =>
 rw [c1] at c1'
 cases c1'
 have hgl:gm < w.heap.size:=r0.lt b _ gm c1 rfl
 have hbl:BelowD w.heap.size w (w.alloc (.mapIter (some gm) L.length #[] L.length)):=(BelowD.refl _ _).alloc (Nat.le_refl _) _
 have x1:Ext h0 β S w h0 β S (w.alloc (.mapIter (some gm) L.length #[] L.length)):=Ext.grow r0 hbl (fun _ h=>h) (fun _ h=>.inl h)
 have r1:Rel E h0 β S (w.alloc (.mapIter (some gm) L.length #[] L.length)):=r0.grow hbl (fun _ h=>h) (fun _ h=>.inl h)
 have rz:Rel E [] [] S w:=(r0.first 0).1
 obtain ⟨r2,hv2⟩:=r1.first 0
 have hno:∀ a,S a->a.block≠gm:=by
  intro a ha hag
  obtain ⟨e,xs,h1,_⟩:=r0.free b _ gm a c1 rfl ha hag
  rw [hb] at h1
  cases h1
 simp only [kont,Exit.then]
 refine wpList_step fun K hK=>?_
 show wpG E.P all.toArray o ⟨tmps,[]⟩ w K _
 unfold wpG
 rw [if_pos (by simp [Region.wanted,hgd])]
 unfold Oper.wp
 have hrun:(execOp (Act.eval ⟨tmps,[]⟩) o).run E.P w=.ok (.value (.pointer (some ⟨w.heap.size,0,none⟩))) (w.alloc (.mapIter (some gm) L.length #[] L.length)):=by
  simp only [execOp,hop,Act.eval,hev,run_range_map w t kt et gm ents L.length ht c3,Sem.run_bind,Result.andThen_ok,Sem.run_pure]
 rw [hrun,Oper.upon_value,zca]
 refine hK _ _ ?_
 have rt2:zaK E.T [] [] (w.alloc (.mapIter (some gm) L.length #[] L.length)) S (mask live 0 ts) tmps:=fun q=>by
  rcases zjV 0 ts live q with h1|h1
  ·rw [h1];exact .d _ _ (.un _)
  ·rw [h1];exact hv2 _ _ ((rt q).ext x1)
 have rt3:=rt2.put (d:=some d) (x:=.v (.pointer (some ⟨w.heap.size,0,none⟩))) (y:=.pointer (some ⟨w.heap.size,0,none⟩)) (by simp only [zaV];exact Nat.ble_eq_true_of_le (by rw [hn];exact hdn)) (.d _ _ (.v _ rfl))
 have hsz:(w.alloc (.mapIter (some gm) L.length #[] L.length)).heap.size=w.heap.size+1:=by
  show (w.heap.push _).size=_
  simp
 have hfor:Foreign [gm,w.heap.size] [] S w (w.alloc (.mapIter (some gm) L.length #[] L.length)):=by
  refine ⟨fun g hg=>?_,fun g hg=>?_,fun g hg b' k' hb' hk'=>by simp at hb',fun g hg a ha=>?_⟩
  ·simp only [List.tail_cons,List.mem_singleton] at hg;subst hg;exact Nat.le_refl _
  ·rw [hsz]
   rcases List.mem_cons.1 hg with rfl|hg
   ·omega
   ·simp only [List.mem_singleton] at hg;omega
  ·rcases List.mem_cons.1 hg with rfl|hg
   ·exact hno a ha
   ·simp only [List.mem_singleton] at hg
    have:=r0.stable a ha
    omega
 have hit:ItF gm w.heap.size es none S (w.alloc (.mapIter (some gm) L.length #[] L.length)):=by
  refine ⟨L,ents,#[],L.length,(hbl.block gm hgl).trans c3,c4,fun i k x hi=>?_,heap_alloc_new w _,Nat.le_refl _,by rw [zwR];exact c2.symm,by simp⟩
  obtain ⟨kv,xv,a1,a2,a3⟩:=c5 i k x hi
  exact ⟨kv,xv,a1,a2.mono (fun _ h=>h) x1.S_cell,a3.mono (fun _ h=>h) x1.S_cell⟩
 have hG:=H gm w.heap.size [] S w [] S _ _ rfl (by rw [zcE];exact hn) (Ext.grow rz hbl (fun _ h=>h) (fun _ h=>.inl h)) r2 rt3 hfor hit
 have h9:=zdj (zmc (R':=Post E h0 β0 S0 w0 (fun y h=>R y []/\h=h0)) fun e w' hp=>by
  obtain ⟨y,h',β',S',v,he,⟨ho,hR⟩,r',x',hv⟩:=hp
  obtain ⟨S1,⟨e1,r1'⟩,d1⟩:=zpv E y h' β' S' w' v r' hv ho
  have xx:=x'.trans e1
  have hb':BelowD w.heap.size w w':=⟨⟨xx.os,xx.tape,xx.output,xx.size,fun g hg=>xx.keep g hg Zs⟩,xx.drawn⟩
  have hS1:∀ a,S1 a->S a\/w.heap.size<=a.block:=fun a ha=>by
   rcases xx.S_new a ha with h1|h1|⟨b',k',h1,_⟩
   ·exact .inl h1
   ·exact .inr h1
   ·simp at h1
  have rG:Rel E h0 β S1 w':=r0.grow hb' xx.S_le fun a ha=>(hS1 a ha).imp id fun h1=>⟨h1,r1'.stable a ha⟩
  have xG:Ext h0 β S w h0 β S1 w':=Ext.grow r0 hb' xx.S_le hS1
  exact ⟨_,h0,β,S1,v,he,⟨hR,rfl⟩,rG,x0.trans xG,.d _ _ d1⟩) _ _ _ _ hG
 simp only [kont,Exit.then] at h9
 rw [hd]
 exact h9
theorem zym {L:List (AV × AV)} {seen:Array Nat} {i:Nat} {p:AV × AV} (hi:L[i]?=some p) (hs:seen.contains i=false):(zjT L seen).Perm (p::zjT L (seen.push i)):=by
 have hil:=(List.getElem?_eq_some_iff.1 hi).1
 have hF:((List.range L.length).filter fun j=>!seen.contains j).Perm (i::(List.range L.length).filter fun j=>!(seen.push i).contains j):=by
  have hm:i∈(List.range L.length).filter fun j=>!seen.contains j:=by
   rw [List.mem_filter]
   exact ⟨List.mem_range.2 hil,by rw [hs];rfl⟩
  have h1:=List.perm_cons_erase hm
  have hn:((List.range L.length).filter fun j=>!seen.contains j).Nodup:=List.nodup_range.filter _
  rw [hn.erase_eq_filter,List.filter_filter] at h1
  refine h1.trans (.of_eq (congrArg _ ?_))
  apply List.filter_congr
  intro j _
  rw [contains_push]
  cases seen.contains j <;> cases hji:(j==i) <;> simp [bne,hji]
 have:=hF.filterMap fun j=>L[j]?
 rw [List.filterMap_cons_some hi] at this
 exact this
theorem zlD {α:Type}:∀ (l:List α) (j:Nat) (p:α),l[j]?=some p->l.Perm (p::l.eraseIdx j)
 | [],j,p,h=>by simp at h
 | a::l,0,p,h=>by simp at h;subst h;exact .refl _
 | a::l,j+1,p,h=>by
  have:=zlD l j p (by simpa using h)
  exact (this.cons a).trans (.swap _ _ _)
theorem zmL {L:List (AV × AV)} {ents:Array MapEntry} {w:World} {S:Addr->Prop} (hl:ents.size=L.length) (h3:∀ (i:Nat) (k x:AV),L[i]?=some (k,x)->∃ (kv xv:Value),ents[i]?=some ⟨kv,xv,i⟩/\RelD w S k kv/\RelD w S x xv) :
  (∀ e∈ents.toList,ents[e.born]?=some e/\e.born < L.length)/\(ents.toList.map (·.born)).Nodup:=by
 have at_:∀ (i:Nat) (e:MapEntry),ents[i]?=some e->e.born=i/\i < L.length:=by
  intro i e he
  have hi:i < L.length:=by rw [← hl];exact (Array.getElem?_eq_some_iff.1 he).1
  obtain ⟨kv,xv,e1,_⟩:=h3 i L[i].1 L[i].2 (List.getElem?_eq_getElem hi)
  rw [he] at e1
  cases e1
  exact ⟨rfl,hi⟩
 refine ⟨fun e he=>?_,?_⟩
 ·obtain ⟨i,hi⟩:=List.getElem?_of_mem he
  rw [Array.getElem?_toList] at hi
  obtain ⟨h1,h2⟩:=at_ i e hi
  rw [h1]
  exact ⟨hi,h2⟩
 ·have:ents.toList.map (·.born)=List.range L.length:=by
   apply List.ext_getElem?
   intro i
   rw [List.getElem?_map,Array.getElem?_toList]
   by_cases hi:i < L.length
   ·have h5:ents[i]?=some (ents[i]'Zo):=Array.getElem?_eq_getElem Zo
    rw [h5,Option.map_some,(at_ i _ h5).1,List.getElem?_range hi]
   ·rw [Array.getElem?_eq_none Zo,List.getElem?_eq_none Zp]
    rfl
  rw [this]
  exact List.nodup_range
theorem zyT {w w1:World} {g:Nat} {o:Obj} (h:w1=w\/w1=w.drew):Touch g w (ChangeMaps.setBlock w1 g o):=by
 rcases h with rfl|rfl
 ·exact ⟨rfl,rfl,Nat.le_refl _,rfl,by simp [ChangeMaps.setBlock],fun b hb=>by simp [ChangeMaps.setBlock,Ne.symm hb]⟩
 ·have hd:∀ v:World,v.drew.heap=v.heap:=fun _=>rfl
  exact ⟨rfl,rfl,Nat.le_succ _,rfl,by simp [ChangeMaps.setBlock,hd],fun b hb=>by simp [ChangeMaps.setBlock,hd,Ne.symm hb]⟩
theorem zwH {E:Env0} {fn:Func} {h0 h:Heap} {all r:List Oper} {o:Oper} {k:List It} {n:Nat} {ts:TS} {R:AV->Heap->Prop} {gm gi ti d:Nat} {l:List (AV × AV)} {cur:Option (AV × AV)} (hop:o.op=.next (.tmp ti) false) (hgd:o.guard=none) (hd:o.dst=some d) (hdn:d < n)
  (hm:look ts ti=.v (.pointer (some ⟨gi,0,none⟩)))
  (H0:l=[]->zbJ E fn h0 [gm,gi] (ItF gm gi [] none) ⟨n,.ops all r::k,(d,.tup [.bl false])::ts,h⟩ R)
  (H1:∀ (j:Nat) (kx x:AV),l[j]?=some (kx,x)->zbJ E fn h0 [gm,gi] (ItF gm gi (l.eraseIdx j) (some (kx,x))) ⟨n,.ops all r::k,(d,.tup [.bl true,kx,x])::ts,h⟩ R) :
  zbJ E fn h0 [gm,gi] (ItF gm gi l cur) ⟨n,.ops all (o::r)::k,ts,h⟩ R:=by
 intro β0 S0 w0 β S w tmps hβ hn x0 r0 rt hf ⟨L,ents,seen,c0,h1,h2,h3,h4,h5,h6,h7⟩
 simp only at hn x0 r0 rt
 have hmv:=rt ti
 rw [hm] at hmv
 have hev:=hmv.v_inv
 obtain ⟨hb1,hb2⟩:=zmL h2 h3
 have hne:gm≠gi:=by
  rintro rfl
  rw [h1] at h4
  cases h4
 simp only [kont,Exit.then]
 refine wpList_step fun K hK=>?_
 show wpG E.P all.toArray o ⟨tmps,[]⟩ w K _
 unfold wpG
 rw [if_pos (by simp [Region.wanted,hgd])]
 unfold Oper.wp
 have hdd:zaV tmps.size (some d)=true:=by simp only [zaV];exact Nat.ble_eq_true_of_le (by rw [hn];exact hdn)
 rcases run_next_at (P:=E.P) w o.type gi gm L.length c0 seen ents L.length h4 h1 (fun x hx=>(hb1 x hx).2) h5 with ⟨hz,hrun⟩|⟨e,he,w1,hw1,hrun⟩
 ·have hrun':(execOp (Act.eval ⟨tmps,[]⟩) o).run E.P w=.ok (.value (.tuple #[.bool false])) w:=by
   simp only [execOp,hop,Act.eval,hev,hrun,Sem.run_bind,Result.andThen_ok,Sem.run_pure]
  rw [hrun',Oper.upon_value,zca]
  refine hK _ _ ?_
  have hall:=all_seen ents seen hz
  have hnil:zjT L seen=[]:=by
   unfold zjT
   have:((List.range L.length).filter fun i=>!seen.contains i)=[]:=by
    rw [List.filter_eq_nil_iff]
    intro i hi
    have hi:=List.mem_range.1 hi
    obtain ⟨kv,xv,e1,_⟩:=h3 i L[i].1 L[i].2 (List.getElem?_eq_getElem hi)
    have:=hall _ (Array.mem_toList_iff.2 (Array.mem_of_getElem? e1))
    simp only at this
    rw [this]
    decide
   rw [this]
   rfl
  rw [hnil] at h6
  have hl:=h6.eq_nil
  have:=H0 hl β0 S0 w0 β S w _ hβ (by rw [zcE];exact hn) x0 r0 (rt.put (d:=some d) (x:=.tup [.bl false]) (y:=.tuple #[.bool false]) hdd (.d _ _ (.tup [.bl false] [.bool false] rfl (fun i p q hp hq=>by
   cases i with
   | zero=>simp at hp hq;subst hp;subst hq;exact .bl _
   | succ i=>simp at hp)))) hf ⟨L,ents,seen,c0,h1,h2,h3,h4,h5,by rw [hnil],by simp⟩
  simp only [kont,Exit.then] at this
  rw [hd]
  exact this
 ·have hrun':(execOp (Act.eval ⟨tmps,[]⟩) o).run E.P w=.ok (.value (.tuple #[.bool true,e.key,e.val])) (ChangeMaps.setBlock w1 gi (.mapIter (some gm) L.length (seen.push e.born) L.length)):=by
   simp only [execOp,hop,Act.eval,hev,hrun,Sem.run_bind,Result.andThen_ok,Sem.run_pure]
  rw [hrun',Oper.upon_value,zca]
  refine hK _ _ ?_
  obtain ⟨hem,hes⟩:=mem_left he
  obtain ⟨hei,hel⟩:=hb1 e hem
  have hLi:L[e.born]?=some L[e.born]:=List.getElem?_eq_getElem hel
  obtain ⟨kv,xv,e1,e2,e3⟩:=h3 e.born L[e.born].1 L[e.born].2 hLi
  rw [hei] at e1
  have hstep:=zym hLi hes
  have hmem:L[e.born]∈l:=h6.mem_iff.2 (hstep.mem_iff.2 Zs)
  obtain ⟨j,hj⟩:=List.getElem?_of_mem hmem
  have hperm:(l.eraseIdx j).Perm (zjT L (seen.push e.born)):=by
   have:=(zlD l j _ hj).symm.trans (h6.trans hstep)
   exact this.cons_inv
  have t:Touch gi w (ChangeMaps.setBlock w1 gi (.mapIter (some gm) L.length (seen.push e.born) L.length)):=zyT hw1
  have hg:gi∈[gm,gi]:=by simp
  have hcell:∀ a,S a->(ChangeMaps.setBlock w1 gi (.mapIter (some gm) L.length (seen.push e.born) L.length)).cell? a=w.cell? a:=fun a ha=>t.cell (hf.sep gi hg a ha)
  have hkk:e.key=kv/\e.val=xv:=by
   have h9:e=⟨kv,xv,e.born⟩:=by injection e1
   exact ⟨congrArg MapEntry.key h9,congrArg MapEntry.val h9⟩
  have rt2:=(rt.touch (E:=E) t hf hg).put (d:=some d) (x:=.tup [.bl true,L[e.born].1,L[e.born].2]) (y:=.tuple #[.bool true,e.key,e.val]) hdd (.d _ _ (.tup [.bl true,L[e.born].1,L[e.born].2] [.bool true,e.key,e.val] rfl (fun i p q hp hq=>by
   match i,hp,hq with
   | 0,hp,hq=>simp at hp hq;subst hp;subst hq;exact .bl _
   | 1,hp,hq=>simp at hp hq;subst hp;subst hq;rw [hkk.1];exact e2.mono (fun _ h=>h) hcell
   | 2,hp,hq=>simp at hp hq;subst hp;subst hq;rw [hkk.2];exact e3.mono (fun _ h=>h) hcell
   | i+3,hp,hq=>simp at hp)))
  have hit:ItF gm gi (l.eraseIdx j) (some (L[e.born].1,L[e.born].2)) S (ChangeMaps.setBlock w1 gi (.mapIter (some gm) L.length (seen.push e.born) L.length)):=by
   refine ⟨L,ents,seen.push e.born,L.length,(t.other gm hne).trans h1,h2,fun i k x hi=>?_,?_,Nat.le_refl _,hperm,fun p hp=>⟨seen,e.born,rfl,by rw [hLi];exact hp,rfl⟩⟩
   ·obtain ⟨kv,xv,a1,a2,a3⟩:=h3 i k x hi
    exact ⟨kv,xv,a1,a2.mono (fun _ h=>h) hcell,a3.mono (fun _ h=>h) hcell⟩
   ·have hlt:gi < w1.heap.size:=by
     have:=(Array.getElem?_eq_some_iff.1 h4).1
     rcases hw1 with rfl|rfl <;> exact this
    simp [ChangeMaps.setBlock,hlt]
  have:=H1 j L[e.born].1 L[e.born].2 hj β0 S0 w0 β S _ _ hβ (by rw [zcE];exact hn) (x0.touch t hf hg Zs) (r0.touch t hf hg) rt2 (hf.touch t) hit
  simp only [kont,Exit.then] at this
  rw [hd]
  exact this
theorem zuK {E:Env0} {fn:Func} {h0 h:Heap} {all r:List Oper} {o:Oper} {k:List It} {n:Nat} {ts:TS} {R:AV->Heap->Prop} {gm gi ti d:Nat} {l:List (AV × AV)} {kx x:AV} (hop:o.op=.entry (.tmp ti)) (hgd:o.guard=none) (hd:o.dst=some d) (hdn:d < n)
  (hm:look ts ti=.v (.pointer (some ⟨gi,0,none⟩)))
  (H:zbJ E fn h0 [gm,gi] (ItF gm gi l (some (kx,x))) ⟨n,.ops all r::k,(d,.tup [kx,x])::ts,h⟩ R) :
  zbJ E fn h0 [gm,gi] (ItF gm gi l (some (kx,x))) ⟨n,.ops all (o::r)::k,ts,h⟩ R:=by
 intro β0 S0 w0 β S w tmps hβ hn x0 r0 rt hf hw
 have hw0:=hw
 obtain ⟨L,ents,seen,c0,h1,h2,h3,h4,h5,h6,h7⟩:=hw
 simp only at hn x0 r0 rt
 have hmv:=rt ti
 rw [hm] at hmv
 have hev:=hmv.v_inv
 obtain ⟨hb1,hb2⟩:=zmL h2 h3
 obtain ⟨s',i,rfl,hi,rfl⟩:=h7 _ rfl
 obtain ⟨kv,xv,e1,e2,e3⟩:=h3 i kx x hi
 simp only [kont,Exit.then]
 refine wpList_step fun K hK=>?_
 show wpG E.P all.toArray o ⟨tmps,[]⟩ w K _
 unfold wpG
 rw [if_pos (by simp [Region.wanted,hgd])]
 unfold Oper.wp
 have hrun:=run_entry_at (P:=E.P) w gi gm L.length s' ents L.length ⟨kv,xv,i⟩ h4 h1 (Array.mem_toList_iff.2 (Array.mem_of_getElem? e1)) hb2
 have hrun':(execOp (Act.eval ⟨tmps,[]⟩) o).run E.P w=.ok (.value (.tuple #[kv,xv])) w:=by
  simp only [execOp,hop,Act.eval,hev,hrun,Sem.run_bind,Result.andThen_ok,Sem.run_pure]
 rw [hrun',Oper.upon_value,zca]
 refine hK _ _ ?_
 have:=H β0 S0 w0 β S w _ hβ (by rw [zcE];exact hn) x0 r0 (rt.put (d:=some d) (x:=.tup [kx,x]) (y:=.tuple #[kv,xv]) (by simp only [zaV];exact Nat.ble_eq_true_of_le (by rw [hn];exact hdn)) (.d _ _ (.tup [kx,x] [kv,xv] rfl (fun i p q hp hq=>by
  match i,hp,hq with
  | 0,hp,hq=>simp at hp hq;subst hp;subst hq;exact e2
  | 1,hp,hq=>simp at hp hq;subst hp;subst hq;exact e3
  | i+2,hp,hq=>simp at hp)))) hf hw0
 simp only [kont,Exit.then] at this
 rw [hd]
 exact this
end Go.AM
namespace Go.AM
noncomputable def znz (fn:Func) (args:List AV) (h:Heap):Cfg:=⟨fn.ntmps,[.code (fn.body.getD .skip)],zbU 0 args,h⟩
def itp (gi:Nat):AV:=.v (.pointer (some ⟨gi,0,none⟩))
def fnOk (fn : Func) (args : List AV) : Bool := fn.body.isSome && !(fn.name == "runtime.NumGoroutine") && Nat.ble args.length fn.ntmps
noncomputable def ztX (c:Cfg) (os:List Orc) (b:Nat):Option (List Prop × TypeId × List (AV × AV) × Heap):=match run (mk E0) 3000 c os with
 | (q,⟨n,.ops _ (o::_)::_,ts,h⟩,_)=>match o.op,o.guard,o.dst with
  | .range t (.tmp tm),none,some d=>match look ts tm,Nat.blt d n with
   | .mp b',true=>match Nat.beq b' b,h[b]? with
    | true,some (.mp es)=>some (q,t,es,h)
    | _,_=>none
   | _,_=>none
  | _,_,_=>none
 | _=>none
noncomputable def zw0 (c:Cfg) (os:List Orc) (live:List Nat) (gi:Nat):Cfg:=match run (mk E0) 3000 c os with
 | (_,⟨n,.ops all (o::r)::k,ts,_⟩,_)=>⟨n,.ops all r::k,(o.dst.getD 0,itp gi)::mask live 0 ts,[]⟩
 | (_,c',_)=>c'
theorem wkRlL {fn:Func} {h0:Heap} {c:Cfg} {R:AV->Heap->Prop} {t kt et:TypeId} {es:List (AV × AV)} (l:List St) (live:List Nat) (b:Nat) (hu:ztX c (orcs l) b=some (zbg l,t,es,h0)) (ht:E0.P.underlying t=some (.map kt et))
  (hg:∀ gm gi,zbJ E0 fn [] [gm,gi] (ItF gm gi es none) (zw0 c (orcs l) live gi) (Shut 0 R)):Good E0 fn h0 c (fun y h=>R y []/\h=h0):=by
 unfold ztX at hu
 unfold zw0 at hg
 split at hu
 ·rename_i q n all o r k ts h os' hrun
  split at hu
  ·rename_i t' tm d hop hgd hd
   split at hu
   ·rename_i b' hm hdn
    split at hu
    ·rename_i es' hbb hb
     simp only [Option.some.injEq,Prod.mk.injEq] at hu
     obtain ⟨rfl,rfl,rfl,rfl⟩:=hu
     have:=Nat.eq_of_beq_eq_true hbb
     subst this
     refine zhm E0ok mix0 3000 c (orcs l) (by rw [hrun];exact zaZ l) ?_
     rw [hrun]
     refine zuM live hop hgd hd (Nat.le_of_ble_eq_true hdn) ht hm hb fun gm gi=>?_
     have:=hg gm gi
     rw [hrun] at this
     simp only [hd,Option.getD_some] at this
     exact this
    ·cases hu
   ·cases hu
  ·cases hu
 ·cases hu
theorem wkRL {f:FuncId} {fn:Func} {args:List AV} {h:Heap} {R:AV->Heap->Prop} {kt et:TypeId} {es:List (AV × AV)} (t:TypeId) (hf:E0.P.funcs[f]?=some fn) (l:List St) (live:List Nat) (b:Nat) (hok:fnOk fn args=true) (hu:ztX (znz fn args h) (orcs l) b=some (zbg l,t,es,h)) (ht:E0.P.underlying t=some (.map kt et))
  (hg:∀ gm gi,zbJ E0 fn [] [gm,gi] (ItF gm gi es none) (zw0 (znz fn args h) (orcs l) live gi) (Shut 0 R)):zcd E0 f args h (fun y h'=>R y []/\h'=h):=by
 simp only [fnOk,Bool.and_eq_true,Bool.not_eq_true',Option.isSome_iff_exists] at hok
 obtain ⟨⟨⟨c,hb⟩,hn⟩,ha⟩:=hok
 have h1:=wkRlL l live b hu ht hg
 have:znz fn args h=⟨fn.ntmps,[.code c],zbU 0 args,h⟩:=by simp [znz,hb]
 rw [this] at h1
 exact zaY hf hb hn (Nat.le_of_ble_eq_true ha) h1
theorem wkFl {fn:Func} {R:AV->Heap->Prop} {h0:Heap} {c c':Cfg} {gm gi:Nat} {es:List (AV × AV)} {cur:Option (AV × AV)} (l:List St) (live:List Nat) (m:Nat) (hu:zn7 h0 live m c (orcs l)=some (zbg l,c')) (hg:zbJ E0 fn h0 [gm,gi] (ItF gm gi es cur) c' R):zbJ E0 fn h0 [gm,gi] (ItF gm gi es cur) c R:=by
 unfold zn7 at hu
 split at hu
 ·rename_i hm
  have hu:=Option.some.inj hu
  unfold upto at hu
  have h1:(run (mk E0) 3000 c (orcs l)).1=zbg l:=congrArg Prod.fst hu
  have h2:cut live m (run (mk E0) 3000 c (orcs l)).2.1=c':=congrArg Prod.snd hu
  exact zzQ E0ok mix0 (zoq _ _ _ _) 3000 (orcs l) live m hm h1 h2 (zaZ l) hg
 ·cases hu
theorem zyh {E:Env0} {fn:Func} {h0:Heap} {gs:List Nat} {F:(Addr->Prop)->World->Prop} {c:Cfg} {R:AV->Heap->Prop} (t:Nat) (e:TypeId) (hc:look c.ts t=.nl)
  (hg:zbJ E fn h0 gs F ⟨c.n,c.todo,(t,.own c.h.length 0)::c.ts,c.h++[Blk.row e [] false]⟩ R):zbJ E fn h0 gs F c R:=by
 intro β0 S0 w0 β S w tmps hb0 hn x0 r rt hf hw
 have ht:=rt t
 rw [hc] at ht
 obtain ⟨a,ha⟩:=zgN ht
 obtain ⟨x1,r1⟩:=r.nilRow e a
 refine hg β0 S0 w0 _ S w tmps hb0 hn (x0.trans x1) r1 (fun t'=>?_) (hf.ext x1).1 hw
 simp only [look]
 cases hb:Nat.beq t t' with
 | true =>
  have:=Nat.eq_of_beq_eq_true hb
  subst this
  simp only
  rw [ha]
  exact r.ownNil e a
 | false=>exact (rt t').ext x1
theorem ztw {E:Env0} {fn:Func} {h0:Heap} {gs:List Nat} {F:(Addr->Prop)->World->Prop} {c c':Cfg} {R:AV->Heap->Prop} (t:Nat) (e:TypeId) (live:List Nat) (m:Nat) (hc:look c.ts t=.nl) (hm:Nat.ble h0.length m=true)
  (he:cut live m ⟨c.n,c.todo,(t,.own c.h.length 0)::c.ts,c.h++[Blk.row e [] false]⟩=c') (hg:zbJ E fn h0 gs F c' R):zbJ E fn h0 gs F c R :=
 zyh t e hc (zq8 live m (Nat.le_of_ble_eq_true hm) (he ▸ hg))
theorem zmY {E:Env0} {fn:Func} {h0:Heap} {gs:List Nat} {F:(Addr->Prop)->World->Prop} {c:Cfg} {R:AV->Heap->Prop} (hg:zbJ E fn h0 gs F (ziU c) R):zbJ E fn h0 gs F c R:=by
 unfold ziU at hg
 split at hg
 ·rename_i b k hk
  obtain ⟨n,todo,ts,h⟩:=c
  simp only at hk
  subst hk
  intro β0 S0 w0 β S w tmps hb0 hn x0 r rt hf hw
  have:=hg β0 S0 w0 β S w tmps hb0 hn x0 r rt hf hw
  simp only [kont,Exit.then] at this ⊢
  refine zpJ (wp_mono this fun e a w he=>?_)
  cases e <;> exact he
 ·exact hg
noncomputable def nxtOk (c:Cfg) (os:List Orc):Option (List Prop × AV):=match run (mk E0) 3000 c os with
 | (q,⟨n,.ops _ (o::_)::_,ts,_⟩,_)=>match o.op,o.guard,o.dst with
  | .next (.tmp ti) false,none,some d=>match Nat.blt d n with
   | true=>some (q,look ts ti)
   | false=>none
  | _,_,_=>none
 | _=>none
noncomputable def nxtK (c:Cfg) (os:List Orc) (v:AV):Cfg:=match run (mk E0) 3000 c os with
 | (_,⟨n,.ops all (o::r)::k,ts,h⟩,_)=>⟨n,.ops all r::k,(o.dst.getD 0,v)::ts,h⟩
 | (_,c',_)=>c'
theorem wkN {fn:Func} {h0:Heap} {c:Cfg} {R:AV->Heap->Prop} {gm gi:Nat} {es:List (AV × AV)} {cur:Option (AV × AV)} (l:List St) (hu:nxtOk c (orcs l)=some (zbg l,itp gi))
  (H0:es=[]->zbJ E0 fn h0 [gm,gi] (ItF gm gi [] none) (nxtK c (orcs l) (.tup [.bl false])) R)
  (H1:∀ (j:Nat) (kx x:AV),es[j]?=some (kx,x)->zbJ E0 fn h0 [gm,gi] (ItF gm gi (es.eraseIdx j) (some (kx,x))) (nxtK c (orcs l) (.tup [.bl true,kx,x])) R):zbJ E0 fn h0 [gm,gi] (ItF gm gi es cur) c R:=by
 unfold nxtOk at hu
 unfold nxtK at H0 H1
 split at hu
 ·rename_i q n all o r k ts h os' hrun
  split at hu
  ·rename_i ti d hop hgd hd
   split at hu
   ·rename_i hdn
    simp only [Option.some.injEq,Prod.mk.injEq] at hu
    obtain ⟨rfl,hm⟩:=hu
    refine zmX E0ok mix0 (zoq _ _ _ _) 3000 (orcs l) (by rw [hrun];exact zaZ l) ?_
    rw [hrun] at H0 H1 ⊢
    simp only [hd,Option.getD_some] at H0 H1
    exact zwH hop hgd hd (Nat.le_of_ble_eq_true hdn) hm H0 H1
   ·cases hu
  ·cases hu
 ·cases hu
noncomputable def entOk (c:Cfg) (os:List Orc):Option (List Prop × AV):=match run (mk E0) 3000 c os with
 | (q,⟨n,.ops _ (o::_)::_,ts,_⟩,_)=>match o.op,o.guard,o.dst with
  | .entry (.tmp ti),none,some d=>match Nat.blt d n with
   | true=>some (q,look ts ti)
   | false=>none
  | _,_,_=>none
 | _=>none
theorem wkE2 {fn:Func} {h0:Heap} {c:Cfg} {R:AV->Heap->Prop} {gm gi:Nat} {es:List (AV × AV)} {kx x:AV} (l:List St) (hu:entOk c (orcs l)=some (zbg l,itp gi))
  (H:zbJ E0 fn h0 [gm,gi] (ItF gm gi es (some (kx,x))) (nxtK c (orcs l) (.tup [kx,x])) R):zbJ E0 fn h0 [gm,gi] (ItF gm gi es (some (kx,x))) c R:=by
 unfold entOk at hu
 unfold nxtK at H
 split at hu
 ·rename_i q n all o r k ts h os' hrun
  split at hu
  ·rename_i ti d hop hgd hd
   split at hu
   ·rename_i hdn
    simp only [Option.some.injEq,Prod.mk.injEq] at hu
    obtain ⟨rfl,hm⟩:=hu
    refine zmX E0ok mix0 (zoq _ _ _ _) 3000 (orcs l) (by rw [hrun];exact zaZ l) ?_
    rw [hrun] at H ⊢
    simp only [hd,Option.getD_some] at H
    exact zuK hop hgd hd (Nat.le_of_ble_eq_true hdn) hm H
   ·cases hu
  ·cases hu
 ·cases hu
def okC (c:UInt8):Bool:=decide (97<=((c.toNat:Nat):Int))&&decide (((c.toNat:Nat):Int)<=122) || (decide (48<=((c.toNat:Nat):Int))&&decide (((c.toNat:Nat):Int)<=57)) || ((c.toNat:Nat):Int)==95
def zqs (s:Str):Bool:=decide (1<=s.data.toList.length)&&decide (s.data.toList.length<=12)&&decide (97<=(s.data.toList.getD 0 0).toNat)&&s.data.toList.all okC
abbrev sINS:Str:=⟨#[73,78,83,69,82,84,69,68]⟩
abbrev sDEL:Str:=⟨#[68,69,76,69,84,69,68]⟩
abbrev sNW:Str:=⟨#[78,69,87]⟩
abbrev sOL:Str:=⟨#[79,76,68]⟩
abbrev sNo:Str:=⟨#[]⟩
def zsP (s:Str):Bool:=zqs s || s.toList==sINS.toList || s.toList==sDEL.toList
def ztU (s:Str):Bool:=s.toList==sNo.toList || s.toList==sNW.toList || s.toList==sOL.toList || s.toList==sINS.toList || s.toList==sDEL.toList || zqs s
theorem PrefOk.good {cols:List Col} {vals:List V} (h:zgX cols vals):∀ v∈vals,v.Good:=fun v hv=>by
 obtain ⟨k,hk,hkv⟩:=List.mem_iff_getElem.1 hv
 have hl:=h.len
 obtain ⟨c,hc⟩:=zbK (l:=cols) (i:=k) Zo
 exact (h.at_ k c v hc (by rw [← hkv];simp)).good
theorem FsT.ok {frs:List Fr} (h:FsT frs) (n:Nat) (hn:n<=900000):FsOk n frs :=
 ⟨by have:=h.len;omega,fun f hf=>zaD (h.few f hf),fun f hf v hv=>((h.rows f hf).good v hv).small⟩
theorem FsT.g {frs:List Fr} (h:FsT frs):FsG frs:=fun f hf v hv=>(h.rows f hf).good v hv
structure Sound (ty:Int × Int) (ev:V × Int):Prop where
 code:ty.2=0->ev.2=0\/ev.2=6\/ev.2=7
 kind:ty.2=0->ev.2=0->ev.1.kind=0\/ev.1.kind=ty.1
structure Res (w:Int) (r:V × Int):Prop where
 code:r.2=0\/r.2=6\/r.2=7
 kind:r.2=0->r.1.kind=0\/r.1.kind=w
abbrev KOk (v:V) (k:Int):Prop:=v.kind=0\/v.kind=k
/- ### types of operations -/
theorem KOk.trans {v:V} {t k:Int} (h:KOk v t) (ht:t=0\/t=k):KOk v k:=by
 rcases h with h|h
 ·exact .inl h
 ·rcases ht with rfl|rfl
  ·exact .inl h
  ·exact .inr h
inductive Typed:List V->List Int->Prop
 | nil:Typed [] []
 | cons {v:V} {t:Int} {l:List V} {ts:List Int}:KOk v t->Typed l ts->Typed (v::l) (t::ts)
theorem Typed.app {v:V} {t:Int} (hv:KOk v t):∀ {l:List V} {ts:List Int},Typed l ts->Typed (l++[v]) (ts++[t])
 | _,_,.nil=>.cons hv .nil
 | _,_,.cons h1 h2=>.cons h1 (h2.app hv)
def er (f:Fr):Fr:=⟨f.name,f.strict,f.cols,[]⟩
theorem zvo (frs:List Fr) (k:Nat):(frs.map er).getD k za1=er (frs.getD k za1):=by
 simp only [List.getD_eq_getElem?_getD,List.getElem?_map]
 cases frs[k]? <;> rfl
theorem zvA (frs:List Fr) (q n:Str):∀ k,rres (frs.map er) q n k=rres frs q n k
 | 0=>rfl
 | k+1=>by
  simp only [rres,zoN,zvo,zvA frs q n k]
  rfl
theorem zu0 (frs:List Fr) (q n:Str):za6 (frs.map er) q n=za6 frs q n:=by
 unfold za6;rw [List.length_map,zvA]
theorem zyC (frs:List Fr) (q n:Str):rFr (frs.map er) q n=er (rFr frs q n):=by
 unfold rFr;rw [zu0,zvo]
structure FrRel (tf vf:List Fr):Prop where
 eq:tf.map er=vf.map er
 rows:∀ f∈vf,zgX f.cols f.vals
theorem FrRel.cols {tf vf:List Fr} (h:FrRel tf vf) (q n:Str):(rFr tf q n).cols=(rFr vf q n).cols:=by
 have:er (rFr tf q n)=er (rFr vf q n):=by rw [← zyC,← zyC,h.eq]
 exact (congrArg Fr.cols this:(er _).cols=(er _).cols)
theorem FrRel.ins {tf vf:List Fr} (h:FrRel tf vf) {t:Tb} {v:List V} (hv:zgX t.sch.cols v):FrRel (zar tf t.sch []) (zcA vf t v):=by
 refine ⟨by simp only [zar,zcA,List.map_append,h.eq];rfl,fun f hf=>?_⟩
 simp only [zcA,List.mem_append,List.mem_singleton] at hf
 rcases hf with hf|rfl
 ·exact h.rows f hf
 ·exact hv
theorem zt0 (tb:List Tb) (n:Str):∀ (l:List Tb) (i:Nat),zbS tb n l i=match l.find? (fun t=>zc6 t n) with|some t=>(t.sch,true)|none=>(⟨⟨#[]⟩,[]⟩,false)
 | [],i=>rfl
 | x::r,i=>by
  simp only [zbS,List.find?,zc6]
  cases h:x.sch.name.toList==n.toList
  ·exact zt0 tb n r _
  ·rfl
theorem zpO (tb:List Tb) (n:Str):zaf tb n=match zsq tb n with|some t=>(t.sch,true)|none=>(⟨⟨#[]⟩,[]⟩,false):=zt0 tb n tb 0
structure TbT (tb:List Tb):Prop where
 rows:∀ x∈tb,∀ r∈x.rows,zgX x.sch.cols r.vals
 len:∀ x∈tb,x.rows.length<=1000
theorem TbT.g {tb:List Tb} (h:TbT tb):TbG tb:=⟨fun x hx r hr v hv=>(h.rows x hx r hr).good v hv,h.len⟩
theorem FrRel.g {tf vf:List Fr} (h:FrRel tf vf):FsG vf:=fun f hf v hv=>(h.rows f hf).good v hv
theorem zuj {tb:List Tb} {n:Str} {x:Tb} (h:AtI tb (idxF (fun t=>zc6 t n) tb 0) x):zaf tb n=(x.sch,true):=by
 obtain ⟨h0,h1⟩:=h
 rw [zpO]
 rcases zkO (fun t=>zc6 t n) tb 0 with ⟨h2,_⟩|⟨j,y,h2,h3,h4⟩
 ·omega
 ·rw [h2] at h1
  have:((0+j:Nat):Int).toNat=j:=by omega
  rw [this,h3] at h1
  cases h1
  unfold zsq;rw [h4]
theorem zui {tb:List Tb} {n:Str} (h:decide (idxF (fun t=>zc6 t n) tb 0 < 0)=true):zaf tb n=(⟨⟨#[]⟩,[]⟩,false):=by
 rw [zpO]
 rcases zkO (fun t=>zc6 t n) tb 0 with ⟨_,h2⟩|⟨j,y,h2,h3,h4⟩
 ·unfold zsq;rw [h2]
 ·simp only [decide_eq_true_eq] at h;omega
theorem zA1 {tb:List Tb} {n:Str} (h:decide (idxF (fun t=>zc6 t n) tb 0 < 0)=false):0<=idxF (fun t=>zc6 t n) tb 0/\idxF (fun t=>zc6 t n) tb 0 < ((tb.length:Nat):Int):=by
 simp only [decide_eq_false_iff_not] at h
 have:=zvr (fun t=>zc6 t n) tb 0
 exact ⟨by omega,by rcases this with h|h <;> omega⟩
theorem zhL (t:Tb) (n:Str) :zab E0 S.Cl [.agg t.cells,.p 0 0] [.box [sv n]] (bv (zc6 t n)) [.box [sv n]]:=by
 exact wk At.Cl [] kr
noncomputable def zsU (tb:List Tb) (n:Str) (i:Nat):Cfg:=zan B.Bj 0 [(0,.sl (tb.map Tb.cells)),(1,.fn S.Cl [.p 0 0]),(7,iv ((tb.map Tb.cells).length:Nat)),(8,iv (i:Nat))] [.box [sv n]]
theorem zuN (tb:List Tb) (n:Str) (hl:zac tb):∀ (k i:Nat),i+k=tb.length->Good E0 B.Bj [.box [sv n]] (zsU tb n i) (Shut 1 fun r h=>r=iv (idxF (fun t=>zc6 t n) (tb.drop i) i)/\h=[.box [sv n]]):=by
 intro k
 induction k with
 | zero =>
  intro i hi
  refine zaa ?_
  have h0:decide ((i:Int) < (((tb.map Tb.cells).length:Nat):Int))=false:=by simp;omega
  have e0:tb.drop i=[]:=List.drop_of_length_le Zo
  rw [e0]
  exact zqp E0ok mix0 3000 (y:=AV.v (Value.int IntKind.i64 (-1:Int))) (H:=[Blk.box [AV.v (Value.string n)]]) [sb h0] kr (⟨rfl,rfl⟩)
 | succ k ih =>
  intro i hi
  have ih:=ih (i+1) Zo
  obtain ⟨x,hx⟩:=zbK (l:=tb) (i:=i) Zo
  have h0:decide ((i:Int) < (((tb.map Tb.cells).length:Nat):Int))=true:=by simp;omega
  have hw:=zbw i Zo
  rw [zcN hx]
  simp only [idxF]
  refine zaa ?_
  cases h1:zc6 x n
  ·exact zdW E0ok mix0 3000 (c':=zsU tb n (i+(1:Nat))) [sb h0,se (zai Tb.cells hx rfl),sl [(0:Nat)] (zhL x n),sb h1,si hw] [0,1,7,8] 1 kr kr (by simpa only [cond_true,cond_false,h1] using ih)
  ·exact zqp E0ok mix0 3000 (y:=AV.v (Value.int IntKind.i64 (i:Int))) (H:=[Blk.box [AV.v (Value.string n)]]) [sb h0,se (zai Tb.cells hx rfl),sl [(0:Nat)] (zhL x n),sb h1] kr (⟨by simp only [cond_true,cond_false,h1],rfl⟩)
theorem zzz (tb:List Tb) (n:Str) (hl:zac tb):zab E0 S.Bj [.sl (tb.map Tb.cells),.fn S.Cl [.p 0 0]] [.box [sv n]] (iv (idxF (fun t=>zc6 t n) tb 0)) [.box [sv n]]:=by
 exact zoA E0ok mix0 At.Bj rfl kr kr 3000 (c':=zsU tb n (0:Nat)) [] [0,1,7,8] 1 kr kr (by simpa using zuN tb n hl tb.length 0 Zs)
theorem zqA (tb:List Tb) (n:Str) (h2:zac tb) (h3:∀ x∈tb,zac x.sch.cols) (hix:zab E0 S.Bj [.sl (tb.map Tb.cells),.fn S.Cl [.p 0 0]] [.box [sv n]] (iv (idxF (fun t=>zc6 t n) tb 0)) [.box [sv n]]):∃ (s:Sch) (b:Bool),(s,b)=zaf tb n/\zab E0 S.CG [tsl tb,sv n] [] (.tup [s.av,bv b]) []:=by
 cases h1:decide (idxF (fun t=>zc6 t n) tb 0 < 0)
 ·obtain ⟨x2,e2⟩:=zkM (l:=tb) (i:=idxF (fun t=>zc6 t n) tb (0:Nat)) (by exact zA1 ‹_›)
  exact ⟨x2.sch,true,(by first|exact (zuj ‹_›).symm|exact (zui ‹_›).symm),wk At.CG [sqx ((True/\x2.sch.cols.length=(List.map Col.cells x2.sch.cols).length/\True)/\True/\True),sl [0] hix,sb h1,se (zdH Tb.cells e2 rfl),sc (zbn x2.sch.cols (by first|assumption|exact h3 _ (List.mem_of_getElem? (And.right ‹AtI _ _ _›))))] kr⟩
 ·exact ⟨Sch.mk Zs0 [],false,(by first|exact (zuj ‹_›).symm|exact (zui ‹_›).symm),wk At.CG [sl [0] hix,sb h1] kr⟩
theorem zgL (tb:List Tb) (n:Str) (h2:zac tb) (h3:∀ x∈tb,zac x.sch.cols):zab E0 S.CG [tsl tb,sv n] [] (.tup [(zaf tb n).1.av,bv (zaf tb n).2]) []:=by
 obtain ⟨s,b,h,h2⟩:=zqA tb n h2 h3 (zzz tb n h2)
 rw [← h];exact h2
structure Pr where
 id:Int
 old:List V
 nw:List V
def Pr.cells (p:Pr):List AV:=[iv p.id,vsl p.old,vsl p.nw]
@[simp] theorem Pr.cells_length (x:Pr):x.cells.length=3:=rfl
structure Ch where
 ins:List (List V)
 del:List Int
 upd:List Pr
def Ch.cells (c:Ch):List AV:=[.sl (c.ins.map vrow),isl c.del,.sl (c.upd.map Pr.cells)]
abbrev Ch.av (c:Ch):AV:=.agg c.cells
def tbNull:Tb:=⟨⟨⟨#[]⟩,[]⟩,0,[]⟩
section
variable {f : X -> V × Int} {g : Qy -> List (List V) × Int} {s : Sch} {a : Ac} {out1 out2 r : List (List V)} {c : Int}
end
def keyL:List Col->Nat->Int->Int
 | [],_,k=>k
 | c::r,i,k=>keyL r (i+1) (bif c.key then (i:Int) else k)
abbrev keyC (s:Sch):Int:=keyL s.cols 0 (-1)
structure RowsV (s:Sch) (next:Int) (rows:List Rw):Prop where
 fit:zkA s rows
 asc:rows.Pairwise fun a b=>a.id < b.id
 ids:∀ r∈rows,1<=r.id/\r.id < next
 keys:0<=keyC s->rows.Pairwise fun a b=>zee a.vals (keyC s)≠zee b.vals (keyC s)
 pos:1<=next
theorem RowsV.nil {s:Sch} {next:Int} (h:1<=next):RowsV s next []:=⟨fun _ h=>(by cases h),.nil,fun _ h=>(by cases h),fun _=>.nil,h⟩
theorem RowsV.more {s:Sch} {next m:Int} {rows:List Rw} (h:RowsV s next rows) (hm:next<=m):RowsV s m rows:=⟨h.fit,h.asc,fun r hr=>⟨(h.ids r hr).1,by have:=(h.ids r hr).2;omega⟩,h.keys,by have:=h.pos;omega⟩
theorem RowsV.push {s:Sch} {next m:Int} {rows:List Rw} {v:List V} (h:RowsV s next rows) (hv:zgX s.cols v) (hf:∀ r∈rows,keyC s < 0\/zee r.vals (keyC s)≠zee v (keyC s)) (hm:next < m):RowsV s m (rows++[⟨next,v⟩]):=by
 refine ⟨h.fit.push hv,?_,?_,?_,by have:=h.pos;omega⟩
 ·rw [List.pairwise_append];exact ⟨h.asc,by simp,fun a ha b hb=>by simp only [List.mem_singleton] at hb;subst hb;exact (h.ids a ha).2⟩
 ·intro r hr
  rcases List.mem_append.1 hr with hr|hr
  ·have:=h.ids r hr;omega
  ·simp only [List.mem_singleton] at hr;subst hr;have:=h.pos;simp only;omega
 ·intro hk
  rw [List.pairwise_append];exact ⟨h.keys hk,by simp,fun a ha b hb=>by simp only [List.mem_singleton] at hb;subst hb;exact (hf a ha).resolve_left Zo⟩
def zsT (key:Int) (rv:List V) (rows:List Rw):Prop:=∀ r∈rows,key < 0\/zee r.vals key≠zee rv key
theorem zsT.step {key:Int} {rv:List V} {rows:List Rw} {i:Nat} {x:Rw} {f g:Bool} (h:f=true->zsT key rv (rows.take i)) (hx:rows[i]?=some x) (hg:g=true->f=true/\(key < 0\/zee x.vals key≠zee rv key)):g=true->zsT key rv (rows.take (i+1)):=by
 intro hg1 r hr
 rw [List.take_add_one,hx] at hr
 rcases List.mem_append.1 hr with hr|hr
 ·exact h (hg hg1).1 r hr
 ·simp at hr;subst hr;exact (hg hg1).2
structure StoreV (n:Int) (l:List Tb):Prop where
 schs:l.map Tb.sch=zao
 rows:∀ t∈l,RowsV t.sch t.next t.rows
 next:∀ t∈l,t.next<=3000
 len:∀ t∈l,(t.rows.length:Int)<=n
structure StoreP (n:Int) (i:Nat) (l:List Tb):Prop where
 schs:l.map Tb.sch=zao.take i
 tabs:∀ t∈l,RowsV t.sch t.next t.rows/\t.next<=3000/\(t.rows.length:Int)<=n
theorem StoreP.push {n:Int} {i:Nat} {l:List Tb} {x:Sch} {nx:Int} {rs:List Rw} (h:StoreP n i l) (hx:zao[i]?=some x) (ht:(rs.length:Int)<=n/\RowsV x nx rs/\nx<=3000):StoreP n (i+1) (l++[⟨x,nx,rs⟩]) :=
 ⟨by rw [List.map_append,h.schs,List.take_add_one,hx];rfl,fun t hm=>(List.mem_append.1 hm).elim (h.tabs t) fun h=>by simp only [List.mem_singleton] at h;subst h;exact ⟨ht.2.1,ht.2.2,ht.1⟩⟩
theorem StoreP.all {n:Int} {l:List Tb} (h:StoreP n zao.length l):StoreV n l :=
 ⟨by rw [h.schs,List.take_length],fun t ht=>(h.tabs t ht).1,fun t ht=>(h.tabs t ht).2.1,fun t ht=>(h.tabs t ht).2.2⟩
theorem StoreV.ok {n:Int} {l:List Tb} (h:StoreV n l) (hn:n<=1000:=by decide):StoreOk l :=
 ⟨by have:=congrArg List.length h.schs;simp [zao] at this;omega,fun t ht=>⟨⟨(h.rows t ht).fit,by have:=h.len t ht;omega⟩,zfo (by rw [← h.schs];exact List.mem_map_of_mem ht)⟩⟩
def XFl:Nat->X->Prop
 | 0,_=>False
 | n+1,e=>e.val.Good/\Thin 3 e.args/\e.sub=[]/\∀ x∈e.args,XFl n x
theorem XFl.ok:∀ {n:Nat} {e:X},XFl n e->XOk n e
 | 0,_,h=>h.elim
 | n+1,e,⟨h1,h2,h3,h4⟩=>⟨h1,⟨h2,by rw [h3];simp⟩,fun x hx=>(h4 x hx).ok,fun q hq=>by rw [h3] at hq;cases hq⟩
theorem XFl.mono:∀ {n:Nat} {e:X},XFl n e->XFl (n+1) e
 | 0,_,h=>h.elim
 | n+1,e,⟨h1,h2,h3,h4⟩=>⟨h1,h2,h3,fun x hx=>(h4 x hx).mono⟩
def insI:Nat->List Int->List Int
 | 0,l=>l
 | k+1,l=>bif decide (l.getD (k+1) 0 < l.getD k 0) then insI k ((l.set (k+1) (l.getD k 0)).set k (l.getD (k+1) 0)) else l
theorem ztF:∀ (k:Nat) (l:List Int),(insI k l).length=l.length
 | 0,_=>rfl
 | k+1,l=>by
  unfold insI
  cases decide (l.getD (k+1) 0 < l.getD k 0)
  ·rfl
  ·rw [cond_true,ztF];simp
def srtI:Nat->Nat->List Int->List Int
 | 0,_,l=>l
 | m+1,i,l=>srtI m (i+1) (insI i l)
def srt1 (l:List Int):List Int:=srtI (l.length - 1) 1 l
theorem zuk:∀ (m i:Nat) (l:List Int),(srtI m i l).length=l.length
 | 0,_,_=>rfl
 | m+1,i,l=>by unfold srtI;rw [zuk,ztF]
@[simp] theorem srt1_len (l:List Int):(srt1 l).length=l.length:=zuk _ _ _
end Go.AM
namespace Go.AM
open Go.RowKit
def zso (E:Env0) (c:Cfg):Option (TypeId × Nat × List AV):=match c.todo with
 | .ops all (o::_)::_=>match znK all o c.ts&&zaV c.n o.dst,o.op with
  | true,.buildSlice t n parts=>match (E.T t).kind with
   | .slice el=>match fill (fun i=>some (i * (E.T el).size,(E.T el).size)) (repl (E.T el).zero n) (parts.toList.map fun (i,x)=>(i,ev E.G c.ts x)),Nat.ble (n * (E.T el).size) 16777216 with
    | some cs,true=>some (el,n,cs)
    | _,_=>none
   | _=>none
  | _,_=>none
 | _=>none
def zkB (c:Cfg) (e:TypeId) (n:Nat) (xs:List (List AV)):Cfg:=match c.todo with
 | .ops all (o::rest)::k=>⟨c.n,.ops all rest::k,put c.ts o.dst (.own c.h.length n),c.h++[.row e xs false]⟩
 | _=>c
theorem zzR {E:Env0} (ht:zaL E) {fn:Func} {h0:Heap} {c:Cfg} {R:AV->Heap->Prop} {e:TypeId} {n:Nat} {cs:List AV} (hc:zso E c=some (e,n,cs)) (hn0:0 < n) (ho:frzB c.h cs=none) (hm:zbx cs=[])
  (hg:Good E fn h0 (zkB c e n (zcH (E.T e).size n (frzL c.h cs))) R):Good E fn h0 c R:=by
 intro β0 S0 w0 β S w tmps hb0 hn x0 r rt
 obtain ⟨nn,todo,ts,h⟩:=c
 simp only at hn x0 r rt ho ⊢
 unfold zso at hc
 simp only at hc
 split at hc
 ·rename_i all o rest k
  split at hc
  ·rename_i t n' parts hchk hop
   simp only [Bool.and_eq_true] at hchk
   obtain ⟨hgo,hd⟩:=hchk
   split at hc
   ·rename_i e' hk
    split at hc
    ·rename_i cs' hf hle
     simp only [Option.some.injEq,Prod.mk.injEq] at hc
     obtain ⟨rfl,rfl,rfl⟩:=hc
     simp only [kont,Exit.then]
     refine wpList_step fun K hK=>?_
     rw [if_pos (zrt rt hgo)]
     have hpw:=zoK r rt parts.toList
     have hle:=Nat.le_of_ble_eq_true hle
     obtain ⟨i,d,z,tok⟩:=ht.at_ (zaG (by rw [hk];simp):E.T t≠_)
     obtain ⟨rfl,hes⟩:=tok.slice_ hk
     obtain ⟨i2,d2,z2,tok2⟩:=ht.at_ (zbf hes)
     obtain ⟨z1,z3⟩:=zdQ (T:=E.T) (h:=h) (β:=β) (w:=w) (S:=S) _ _ tok2.zok
     have hzl:=tok2.zlen
     have hzs:z2.cells.size=(E.T e').size:=by rw [← Array.length_toList,← z1,hzl]
     let zs:List Value:=(List.range (n' * (E.T e').size)).map fun k=>z2.cells[k % z2.cells.size]!
     have hz:PW (RelC E.T h β w S) (repl (E.T e').zero n') zs:=by
      refine ⟨by simp [zs,zdr,hzl],fun k x y hx hy=>?_⟩
      have hkl:k < n' * (E.T e').size:=by have:=(List.getElem?_eq_some_iff.1 hx).1;rwa [zdr,hzl] at this
      rw [zoL _ n' k (by rw [hzl];exact hkl),hzl] at hx
      have hkm:k % (E.T e').size < z2.cells.size:=by rw [hzs];exact Nat.mod_lt _ Zo
      simp [zs,hkl] at hy
      rw [hzs] at hy
      rw [getElem!_pos z2.cells _ hkm] at hy
      refine z3 _ x y hx ?_
      rw [Array.getElem?_toList,Array.getElem?_eq_getElem hkm,hy]
     obtain ⟨out',o1,o2,o3⟩:=zkN (R:=RelC E.T h β w S) rfl _ _ _ _ _ zs hpw hz hf
     have hcl:cs'.length=n' * (E.T e').size:=by rw [o3,zdr,hzl]
     obtain ⟨S1,⟨e1,r1⟩,d1⟩:=zgD E cs' h β S w out' r o2.1 (fun i x y h1 h2=>(o2.2 i x y h1 h2).1) (zvm (by rw [ho];trivial))
     rw [hm] at e1 r1
     have hmax:n'<=maxLen:=by
      have:n' * 1<=n' * (E.T e').size:=Nat.mul_le_mul_left _ Zo
      unfold maxLen
      omega
     have hsl:(share h [])=h:=rfl
     rw [hsl] at e1 r1
     let w':=w.alloc (.cells out'.toArray e')
     have hb:BelowD w.heap.size w w':=(BelowD.refl _ _).alloc (Nat.le_refl _) _
     have hnew:w'.heap[w.heap.size]?=some (.cells out'.toArray e' (0,0)):=heap_alloc_new w _
     have hsz:w'.heap.size=w.heap.size+1:=by simp [w']
     have hol:out'.length=n' * (E.T e').size:=by rw [← o2.1,hcl]
     have hxl:(frzL h cs').length=n' * (E.T e').size:=by rw [zcU,hcl]
     have hrow:zek E.T w' S1 e' (zcH (E.T e').size n' (frzL h cs')) (.row w.heap.size n'):=by
      refine ⟨out'.toArray,hnew,by rw [zb9];exact Nat.le_refl _,hn0,hmax,by simpa using hol,fun i c hi=>?_,fun i j c x hi hj=>?_⟩
      ·have hin:i < n':=by have:=(List.getElem?_eq_some_iff.1 hi).1;rwa [zb9] at this
       rw [zfN _ n' _ i hin] at hi
       cases hi
       have:(i+1) * (E.T e').size<=n' * (E.T e').size:=Nat.mul_le_mul_right _ hin
       rw [Nat.add_mul,Nat.one_mul] at this
       simp
       omega
      ·have hin:i < n':=by have:=(List.getElem?_eq_some_iff.1 hi).1;rwa [zb9] at this
       rw [zfN _ n' _ i hin] at hi
       cases hi
       rw [List.getElem?_take] at hj
       split at hj
       ·rename_i hjs
        rw [List.getElem?_drop] at hj
        have hlt:=(List.getElem?_eq_some_iff.1 hj).1
        have hlt2:i * (E.T e').size+j < out'.length:=by rw [hol,← hxl];exact hlt
        have hvj:out'[i * (E.T e').size+j]?=some (out'[i * (E.T e').size+j]'hlt2):=List.getElem?_eq_getElem hlt2
        refine ⟨out'[i * (E.T e').size+j]'hlt2,by simp,(d1 _ _ _ hj hvj).mono (fun _ h=>h) fun a ha=>hb.cell (r1.stable a ha),zjW o2 _ (List.mem_of_getElem? hvj)⟩
       ·cases hj
     obtain ⟨e2,r2⟩:=r1.newRow e' (zcH (E.T e').size n' (frzL h cs')) false (.row w.heap.size n') hb (fun g hg=>by
      simp only [Con.blk,Option.some.injEq] at hg
      subst hg
      exact ⟨Nat.le_refl _,by omega⟩) hrow
     have hkg:(β++[Con.row w.heap.size n'])[h.length]?=some (.row w.heap.size n'):=by rw [← r.len,getElem?_append_new]
     have hgt:¬ (n' * (E.T e').size > 2 ^ 24):=by omega
     have hrun:(execOp (Act.eval ⟨tmps,[]⟩) o).run E.P w=.ok (.value (.slice (some ⟨w.heap.size,0,none⟩) n' n')) w':=by
      have h0:¬ (n' * (E.T e').size=0):=by
       have:=Nat.mul_pos hn0 (Nat.pos_of_ne_zero hes);omega
      have harr:(Array.range (n' * (E.T e').size)).map (fun k=>z2.cells[k % z2.cells.size]!)=zs.toArray:=by
       apply Array.ext'
       simp [zs,Array.toList_map,Array.toList_range]
      simp only [execOp,hop,Instr.buildSlice,Sem.run_bind,run_underlying tok.und,Result.andThen_ok,tok2.sizeOf,if_neg hgt,Sem.run_ite,if_neg h0,tok2.zeroValue,harr,Array.toList_map,o1,Sem.run_pure,newRow,run_newObj]
      simp [w']
     unfold Oper.wp
     rw [hrun,Oper.upon_value,zca]
     refine hK _ _ ?_
     have ee:=e1.trans e2
     have rt':zaK E.T (h++[.row e' (zcH (E.T e').size n' (frzL h cs')) false]) (β++[Con.row w.heap.size n']) w' S1 ts tmps:=fun t=>(rt t).ext ee
     have:=hg β0 S0 w0 _ S1 w' (Act.put ⟨tmps,[]⟩ o.dst (.slice (some ⟨w.heap.size,0,none⟩) n' n')).tmps hb0 (by simp only [zkB];rw [zcE];exact hn) (x0.trans ee) r2
      (rt'.put (by rw [hn];exact hd) (.own h.length n' _ e' _ false (getElem?_append_new _ _) (by rw [zb9];exact Nat.le_refl _) (fun _=>by rw [hkg];rfl) rfl))
     simp only [zkB,kont,Exit.then] at this
     exact this
    ·cases hc
   ·cases hc
  ·cases hc
 ·cases hc
end Go.AM
namespace Go.AM
structure InsI (l:List Lk) (x:Lk) (i:Nat) (out:List Lk) (done:Bool):Prop where
 nd:out.Nodup
 sub:∀ z∈out,z=x\/z∈l.take i
 sup:∀ z∈l.take i,z=x\/z∈out
 dn:x∈out↔done=true
theorem zhl {α:Type}:∀ (l m:List α),l.Nodup->(∀ x∈l,x∈m)->l.length<=m.length
 | [],_,_,_=>by simp
 | x::r,m,hn,hs=>by
  haveI:DecidableEq α:=fun a b=>Classical.propDecidable (a=b)
  rw [List.nodup_cons] at hn
  have hx:x∈m:=hs x Zs
  have h1:=zhl r (m.erase x) hn.2 fun y hy=>(List.mem_erase_of_ne (by rintro rfl;exact hn.1 hy)).2 (hs y (by simp [hy]))
  rw [List.length_erase_of_mem hx] at h1
  have h2:=List.length_pos_of_mem hx
  simp only [List.length_cons]
  omega
theorem zvH {a b:Str} (h:(a==b)=true):a=b:=by
 cases a with
 | mk a=>cases b with
  | mk b =>
   have h':(a==b)=true:=h
   rw [eq_of_beq h']
theorem zBt (s:Str):(s==s)=true:=by
 cases s with
 | mk d =>
  have h:(d==d)=true:=by simp
  exact h
theorem lk_eq {x u:Lk} (h:(!(x.fst==u.fst&&(x.snd==u.snd&&true)))=false):x=u:=by
 simp only [Bool.not_eq_false',Bool.and_eq_true,and_true] at h
 cases x;cases u
 simp only at h
 rw [zvH h.1,zvH h.2]
theorem lk_ne {x u:Lk} (h:(!(x.fst==u.fst&&(x.snd==u.snd&&true)))=true):x≠u:=by
 rintro rfl;simp [zBt] at h
theorem zga {l:List Lk} {i:Nat} {x:Lk} (hx:l[i]?=some x) (z:Lk):z∈l.take (i+1)↔z∈l.take i\/z=x:=by
 rw [List.take_add_one,hx];simp
theorem zqS {l:List Lk} (hn:l.Nodup) {i:Nat} {x:Lk} (hx:l[i]?=some x):x ∉ l.take i:=by
 intro h
 obtain ⟨j,hj,hje⟩:=List.mem_iff_getElem.mp h
 obtain ⟨hi,hie⟩:=List.getElem?_eq_some_iff.mp hx
 simp only [List.length_take] at hj
 rw [List.getElem_take] at hje
 have h2:=hn
 unfold List.Nodup at h2
 rw [List.pairwise_iff_getElem] at h2
 exact h2 j i Zo hi Zo (hje.trans hie.symm)
theorem InsI.len {l:List Lk} {u:Lk} {i:Nat} {out:List Lk} {d:Bool} (h:InsI l u i out d):out.length<=i+1:=by
 have:=zhl out (u::l.take i) h.nd fun z hz=>by simpa using h.sub z hz
 simp only [List.length_cons,List.length_take] at this
 omega
theorem InsI.s1 {l:List Lk} {u x:Lk} {i:Nat} {out:List Lk} {d:Bool} (h:InsI l u i out d) (hx:l[i]?=some x) (e:(!(x.fst==u.fst&&(x.snd==u.snd&&true)))=false):InsI l u (i+1) out d:=by
 obtain rfl:=lk_eq e
 refine ⟨h.nd,fun z hz=>?_,fun z hz=>?_,h.dn⟩
 ·rcases h.sub z hz with h1|h1
  ·exact .inl h1
  ·exact .inr ((zga hx z).2 (.inl h1))
 ·rcases (zga hx z).1 hz with h1|h1
  ·exact h.sup z h1
  ·exact .inl h1
theorem InsI.s2 {l:List Lk} {u x:Lk} {i:Nat} {out:List Lk} {d:Bool} (h:InsI l u i out d) (hn:l.Nodup) (hx:l[i]?=some x) (e:(!(x.fst==u.fst&&(x.snd==u.snd&&true)))=true):InsI l u (i+1) (out++[x]) d:=by
 have hne:=lk_ne e
 refine ⟨?_,fun z hz=>?_,fun z hz=>?_,?_⟩
 ·refine List.nodup_append.2 ⟨h.nd,by simp,fun a ha b hb=>?_⟩
  simp only [List.mem_singleton] at hb
  subst hb
  rintro rfl
  rcases h.sub a ha with h1|h1
  ·exact hne h1
  ·exact zqS hn hx h1
 ·simp only [List.mem_append,List.mem_singleton] at hz
  rcases hz with hz|hz
  ·rcases h.sub z hz with h1|h1
   ·exact .inl h1
   ·exact .inr ((zga hx z).2 (.inl h1))
  ·exact .inr ((zga hx z).2 (.inr hz))
 ·simp only [List.mem_append,List.mem_singleton]
  rcases (zga hx z).1 hz with h1|h1
  ·rcases h.sup z h1 with h2|h2
   ·exact .inl h2
   ·exact .inr (.inl h2)
  ·exact .inr (.inr h1)
 ·simp only [List.mem_append,List.mem_singleton]
  rw [← h.dn]
  exact ⟨fun h1=>h1.resolve_right fun h2=>hne h2.symm,.inl⟩
theorem InsI.add {l:List Lk} {u:Lk} {i:Nat} {out:List Lk} {d:Bool} (h:InsI l u i out d) (e:(!d)=true):InsI l u i (out++[u]) true:=by
 have hnu:u ∉ out:=fun hu=>by have:=h.dn.1 hu;subst this;simp at e
 refine ⟨?_,fun z hz=>?_,fun z hz=>?_,by simp⟩
 ·refine List.nodup_append.2 ⟨h.nd,by simp,fun a ha b hb=>?_⟩
  simp only [List.mem_singleton] at hb
  subst hb
  rintro rfl
  exact hnu ha
 ·simp only [List.mem_append,List.mem_singleton] at hz
  rcases hz with hz|hz
  ·exact h.sub z hz
  ·exact .inl hz
 ·simp only [List.mem_append,List.mem_singleton]
  rcases h.sup z hz with h2|h2
  ·exact .inl h2
  ·exact .inr (.inl h2)
theorem InsI.both {l:List Lk} {u:Lk} {i:Nat} {out:List Lk} {d:Bool} (h:InsI l u i out d):InsI l u i out d/\out.length<=i+1:=⟨h,h.len⟩
structure InsR (l:List Lk) (u:Lk) (r:List Lk):Prop where
 nd:r.Nodup
 sub:∀ z∈r,z=u\/z∈l
 sup:∀ z∈l,z∈r
theorem InsI.done {l:List Lk} {u:Lk} {out:List Lk} {d:Bool} (h:InsI l u l.length out d) (e:(!d)=false):InsR l u out:=by
 have hd:d=true:=by simpa using e
 have hu:=h.dn.2 hd
 refine ⟨h.nd,fun z hz=>by simpa using h.sub z hz,fun z hz=>?_⟩
 rcases h.sup z (by simpa using hz) with rfl|h1
 ·exact hu
 ·exact h1
theorem InsI.end_ {l:List Lk} {u:Lk} {out:List Lk} {d:Bool} (h:InsI l u l.length out d) (e:(!d)=true):InsR l u (out++[u]):=(h.add e).done rfl
structure LkN (N:List Str) (l:List Lk):Prop where
 nd:l.Nodup
 mem:∀ z∈l,z.fst∈N/\z.snd∈N
theorem InsR.lk {N:List Str} {l:List Lk} {u:Lk} {r:List Lk} (h:InsR l u r) (hl:LkN N l) (h1:u.fst∈N) (h2:u.snd∈N):LkN N r :=
 ⟨h.nd,fun z hz=>by rcases h.sub z hz with rfl|hz;exact ⟨h1,h2⟩;exact hl.mem z hz⟩
theorem ztq {α β:Type} (f:α->List β) (k:Nat) (hf:∀ a,(f a).length=k):∀ l:List α,(l.flatMap f).length=l.length * k
 | []=>by simp
 | a::r=>by rw [List.flatMap_cons,List.length_append,hf,ztq f k hf r,List.length_cons,Nat.add_mul];omega
theorem LkN.len {N:List Str} {l:List Lk} (h:LkN N l):l.length<=N.length * N.length:=by
 have h1:=zhl l (N.flatMap fun a=>N.map fun b=>⟨a,b⟩) h.nd fun z hz=>by
  simp only [List.mem_flatMap,List.mem_map]
  exact ⟨z.fst,(h.mem z hz).1,z.snd,(h.mem z hz).2,by cases z;rfl⟩
 have h2:(N.flatMap fun a=>N.map fun b=>(⟨a,b⟩:Lk)).length=N.length * N.length:=by
  exact ztq _ _ (fun a=>by simp) N
 omega
end Go.AM
