/-
  Contracts of the program's functions, part 7.
-/
import Derived.Test.YtphnhpapjafghaaGreatDoorRqG
import Derived.Carry
import Derived.ChangeSame
import Derived.Lib.LaidU8
import Derived.FnData
set_option maxRecDepth 100000
set_option maxHeartbeats 40000000
set_option linter.unusedSimpArgs false
set_option linter.unusedVariables false
namespace Go.AM
theorem zh6 {p:Prop} (h:p:=by first|assumption|omega|(simp;done)|(simp;omega)):p:=h
noncomputable def L_er0 (t:Tg) (tb:Str) (ins:List Rw) (i:Nat) (out:List Itm):Cfg:=zai B.BI 0 [(2,.p 0 0),(3,.p 1 0),(5,.own 2 out.length),(13,.sl (ins.map Rw.cells)),(14,iv ((ins.map Rw.cells).length:Nat)),(15,iv (i:Nat))] [.box t.cells,.box (Dl.mk tb ins [] []).cells,.row Ty.Item (out.map Itm.cells) false]
theorem zjW (t:Tg) (tb:Str) (ins:List Rw) (hl:ins.length<=1000) (i:Nat) (out:List Itm) (hi:i<=(ins).length) (hI:out=(ins.take i).map fun r=>⟨t.name,r.id,[],r.vals⟩):∃ (out':List Itm),(out'=(ins.take (ins).length).map fun r=>⟨t.name,r.id,[],r.vals⟩)/\(decide ((((ins).length:Nat):Int) < (((ins.map Rw.cells).length:Nat):Int))=false)/\∀ R,Good E0 B.BI [] (L_er0 t tb ins (ins).length out') R->Good E0 B.BI [] (L_er0 t tb ins i out) R:=by
 have hk:=hi;revert i out;refine zlp ((ins).length) (fun i hlt ih out hi hI _=>?_)
 obtain ⟨x,hx,h0,hw⟩:=zlq (l:=ins) ((ins.map Rw.cells).length) hlt
 have ho:out.length<=1000:=(by rw [hI,yG,yV];omega)
 exact Zih (ih (out++[Itm.mk t.name x.id [] x.vals]) Zo (by (rw [yP,hx,yAR,hI];rfl)) Zo) fun R gY=>zaa (wkl [sb h0,se (zaf Rw.cells hx rfl),sqA (List.map Itm.cells out) [[sv t.name,iv x.id,AV.sl [],vsl x.vals]] out.length 4 72,si hw] [2,3,5,13,14,15] 3 kr (zaK 5 2 (List.map Itm.cells out++[[sv t.name,iv x.id,AV.sl [],vsl x.vals]]) gY (he:=by first|rfl|(simp [Itm.cells,Tg.cells,Dl.cells];done)) (hm:=by first|rfl|(simp [Itm.cells,Tg.cells,Dl.cells];done))))
noncomputable def L_er1 (t:Tg) (tb:Str) (ins:List Rw) (out:List Itm):Cfg:=zai B.BI 1 [(2,.p 0 0),(3,.p 1 0),(5,.own 2 out.length),(31,.sl []),(32,iv (0:Nat)),(33,iv (0:Nat))] [.box t.cells,.box (Dl.mk tb ins [] []).cells,.row Ty.Item (out.map Itm.cells) false]
theorem zjX (t:Tg) (tb:Str) (ins:List Rw) (out:List Itm):True/\∀ R,Good E0 B.BI [] (L_er1 t tb ins out) R->Good E0 B.BI [] (L_er1 t tb ins out) R:=⟨trivial,fun _ h=>h⟩
noncomputable def L_er2 (t:Tg) (tb:Str) (ins:List Rw) (out:List Itm):Cfg:=zai B.BI 2 [(2,.p 0 0),(5,.own 2 out.length),(49,.sl []),(50,iv (0:Nat)),(51,iv (0:Nat))] [.box t.cells,.box (Dl.mk tb ins [] []).cells,.row Ty.Item (out.map Itm.cells) false]
theorem zjY (t:Tg) (tb:Str) (ins:List Rw) (out:List Itm):True/\∀ R,Good E0 B.BI [] (L_er2 t tb ins out) R->Good E0 B.BI [] (L_er2 t tb ins out) R:=⟨trivial,fun _ h=>h⟩
theorem zAi (t:Tg) (tb:Str) (ins:List Rw) (hl:ins.length<=1000):∃ (r:List Itm),(r=ins.map fun r=>⟨t.name,r.id,[],r.vals⟩)/\zab E0 S.BI [t.av,Dl.av ⟨tb,ins,[],[]⟩] [] (.sl (r.map Itm.cells)) []:=by
 obtain ⟨out1,q1,q1_1,g1⟩:=zjW t tb ins zh6 0 ([]) zh6 zh6
 obtain ⟨q2,g2⟩:=zjX t tb ins (out1)
 obtain ⟨q3,g3⟩:=zjY t tb ins (out1)
 exact ⟨out1,(by (rw [yL] at *;assumption)),wkcN At.BI [] [2,3,5,13,14,15] 2 [(.ot 5 Ty.Item,3)] kr (g1 _ (zaa (wkl [sb q1_1] [2,3,5,31,32,33] 3 kr (g2 _ (zaa (wkl [sb Zf] [2,5,49,50,51] 3 kr (g3 _ (zaa (wkr [sqx (out1.length=(List.map Itm.cells out1).length),sb Zf] kr)))))))))⟩
@[simp] theorem Itm.cells_length (i:Itm):i.cells.length=4:=rfl
theorem zsX (a b:List AV) (h:b.length=11):ElAt [a,b] ((0+1:Nat):Int) b 11:=⟨by decide,rfl,h⟩
noncomputable def L_eiK (t1 t2:Tg) (m:List Tb) (ds:List Dl) (out:List Itm) (i:Nat):Cfg:=zai B.At 0 [(1,tsl m),(2,.sl (ds.map Dl.cells)),(7,.own 0 out.length),(14,.sl ([t1,t2].map Tg.cells)),(15,iv (2:Nat)),(16,iv (i:Nat))] [.row Ty.Item (out.map Itm.cells) false]
theorem za3 (t1 t2:Tg) (m:List Tb) (ds:List Dl) (out:List Itm) (i:Nat):True/\∀ R,Good E0 B.At [] (L_eiK t1 t2 m ds out i) R->Good E0 B.At [] (L_eiK t1 t2 m ds out i) R:=⟨trivial,fun _ h=>h⟩
theorem c_eiA (t1 t2:Tg) (m:List Tb) (ds:List Dl) (d dz d2:Dl) (s1 s2:Sch) (b2:Bool) (xs:List Itm) (hxs:xs.length<=1000) (bA:t1.before=false) (bB:t2.before=false) (eA:t1.each=true) (fA:zab E0 S.A5 [.sl (ds.map Dl.cells),sv t1.table] [] (.tup [d.av,bv true]) []) (sA:zab E0 S.AO [tsl m,sv t1.table] [] (.tup [s1.av,bv true]) []) (mA:zab E0 S.BV [t1.av,s1.av,d.av] [] d2.av []) (rA:zab E0 S.BI [t1.av,d2.av] [] (.sl (xs.map Itm.cells)) []) (fB:zab E0 S.A5 [.sl (ds.map Dl.cells),sv t2.table] [] (.tup [dz.av,bv false]) []) (sB:zab E0 S.AO [tsl m,sv t2.table] [] (.tup [s2.av,bv b2]) []):∃ (n:Nat) (ys:List (List AV)),(n=xs.length/\ys=xs.map Itm.cells)/\zab E0 S.At [.sl ([t1,t2].map Tg.cells),tsl m,.sl (ds.map Dl.cells)] [] (.own 0 n) [.row Ty.Item ys false]:=by
 obtain ⟨q1,g1⟩:=za3 t1 t2 m ds ([]) (0)
 obtain ⟨q2,g2⟩:=za3 t1 t2 m ds ([]++xs) (0+1)
 obtain ⟨q3,g3⟩:=za3 t1 t2 m ds ([]++xs) (0+1+1)
 exact ⟨([]++xs).length,List.map Itm.cells ([]++xs),(by exact ⟨by simp,by simp⟩),znQ At.At [] [1,2,7,14,15,16] 0 [(.ot 7 Ty.Item,1)] kr (g1 _ (zaa (wkl [sb Zt,se (xs:=[t1.cells,t2.cells]) (i:=0) (c:=t1.cells) (n:=11) ⟨by decide,rfl,rfl⟩,sc fA,sc sA,sg bA,sg Zf,sb Zf,sc mA,sb eA,sc rA,sqx (AllLen (List.map Itm.cells xs) 4/\0=0/\((([]:List (List AV)).length+(List.map Itm.cells xs).length) * 72).le 140737488355328),si (zap (t:=(↑0:Int)+1) (n:=0+1) Zo Zo)] [1,2,7,14,15,16] 1 kr (zas (show ([(1,tsl m),(2,AV.sl (List.map Dl.cells ds)),(7,AV.own 0 ([]++List.map Itm.cells xs).length),(14,AV.sl [t1.cells,t2.cells]),(15,iv (↑2:Int)),(16,iv (↑(0+1):Int))]:TS)=_ by first|rfl|(simp [Itm.cells,Tg.cells];done)|(simp [Itm.cells];exact ⟨rfl,rfl⟩)) rfl (g2 _ (zaa (wkl [sb Zt,se (zsX t1.cells t2.cells zh6),sc fB,sc sB,sg bB,sb Zt,si (zap (t:=(↑(0+1):Int)+1) (n:=0+1+1) Zo Zo)] [1,2,7,14,15,16] 1 kr (g3 _ (zaa (wkrK [sb Zf] kr))))))))))⟩
theorem c_eiB (t1 t2:Tg) (m:List Tb) (ds:List Dl) (d dz d2:Dl) (k:Int) (s1 s2:Sch) (b2:Bool) (bA:t1.before=false) (bB:t2.before=false) (eA:t2.each=false) (fA:zab E0 S.A5 [.sl (ds.map Dl.cells),sv t1.table] [] (.tup [dz.av,bv false]) []) (sA:zab E0 S.AO [tsl m,sv t1.table] [] (.tup [s1.av,bv b2]) []) (mA:zab E0 S.BV [t2.av,s2.av,d.av] [] d2.av []) (rA:zab E0 S.C0 [d2.av,iv t2.event] [] (iv k) []) (hkk:decide (0 < k)=true) (fB:zab E0 S.A5 [.sl (ds.map Dl.cells),sv t2.table] [] (.tup [d.av,bv true]) []) (sB:zab E0 S.AO [tsl m,sv t2.table] [] (.tup [s2.av,bv true]) []):∃ (n:Nat) (ys:List (List AV)),(n=1/\ys=[(Itm.mk t2.name 0 [] []).cells])/\zab E0 S.At [.sl ([t1,t2].map Tg.cells),tsl m,.sl (ds.map Dl.cells)] [] (.own 0 n) [.row Ty.Item ys false]:=by
 obtain ⟨q1,g1⟩:=za3 t1 t2 m ds ([]) (0)
 obtain ⟨q2,g2⟩:=za3 t1 t2 m ds ([]) (0+1)
 obtain ⟨q3,g3⟩:=za3 t1 t2 m ds ([Itm.mk t2.name 0 [] []]) (0+1+1)
 exact ⟨1,[[sv t2.name,iv 0,AV.sl [],AV.sl []]],Zj,znQ At.At [] [1,2,7,14,15,16] 0 [(.ot 7 Ty.Item,1)] kr (g1 _ (zaa (wkl [sb Zt,se (xs:=[t1.cells,t2.cells]) (i:=0) (c:=t1.cells) (n:=11) ⟨by decide,rfl,rfl⟩,sc fA,sc sA,sg bA,sb Zt,si (zap (t:=(↑0:Int)+1) (n:=0+1) Zo Zo)] [1,2,7,14,15,16] 1 kr (g2 _ (zaa (wkl [sb Zt,se (zsX t1.cells t2.cells zh6),sc fB,sc sB,sg bB,sg Zf,sb Zf,sc mA,sb eA,sc rA,sb hkk,sqx (AllLen [[sv t2.name,iv 0,AV.sl [],AV.sl []]] 4/\0=0/\Nat.le 72 140737488355328),si (zap (t:=(↑(0+1):Int)+1) (n:=0+1+1) Zo Zo)] [1,2,7,14,15,16] 1 kr (g3 _ (zaa (wkrSK (y:=AV.own 0 1) (H:=[Blk.row Ty.Item [[sv t2.name,iv 0,AV.sl [],AV.sl []]] false]) [sb Zf] kr ⟨by first|rfl|(simp [Itm.cells,Tg.cells];done)|(simp [Itm.cells];exact ⟨rfl,rfl⟩),by first|rfl|(simp [Itm.cells,Tg.cells];done)|(simp [Itm.cells];exact ⟨rfl,rfl⟩)⟩)))))))))⟩
theorem c_eiC (t1 t2:Tg) (m:List Tb) (ds:List Dl) (d dz d2:Dl) (k:Int) (s1 s2:Sch) (b2:Bool) (bA:t1.before=false) (bB:t2.before=false) (eA:t2.each=false) (fA:zab E0 S.A5 [.sl (ds.map Dl.cells),sv t1.table] [] (.tup [dz.av,bv false]) []) (sA:zab E0 S.AO [tsl m,sv t1.table] [] (.tup [s1.av,bv b2]) []) (mA:zab E0 S.BV [t2.av,s2.av,d.av] [] d2.av []) (rA:zab E0 S.C0 [d2.av,iv t2.event] [] (iv k) []) (hkk:decide (0 < k)=false) (fB:zab E0 S.A5 [.sl (ds.map Dl.cells),sv t2.table] [] (.tup [d.av,bv true]) []) (sB:zab E0 S.AO [tsl m,sv t2.table] [] (.tup [s2.av,bv true]) []):∃ (r:List Itm),r=[]/\zab E0 S.At [.sl ([t1,t2].map Tg.cells),tsl m,.sl (ds.map Dl.cells)] [] (.sl (r.map Itm.cells)) []:=by
 obtain ⟨q1,g1⟩:=za3 t1 t2 m ds ([]) (0)
 obtain ⟨q2,g2⟩:=za3 t1 t2 m ds ([]) (0+1)
 obtain ⟨q3,g3⟩:=za3 t1 t2 m ds ([]) (0+1+1)
 exact ⟨[],Zr,wkcN At.At [] [1,2,7,14,15,16] 0 [(.ot 7 Ty.Item,1)] kr (g1 _ (zaa (wkl [sb Zt,se (xs:=[t1.cells,t2.cells]) (i:=0) (c:=t1.cells) (n:=11) ⟨by decide,rfl,rfl⟩,sc fA,sc sA,sg bA,sb Zt,si (zap (t:=(↑0:Int)+1) (n:=0+1) Zo Zo)] [1,2,7,14,15,16] 1 kr (g2 _ (zaa (wkl [sb Zt,se (zsX t1.cells t2.cells zh6),sc fB,sc sB,sg bB,sg Zf,sb Zf,sc mA,sb eA,sc rA,sb hkk,si (zap (t:=(↑(0+1):Int)+1) (n:=0+1+1) Zo Zo)] [1,2,7,14,15,16] 1 kr (g3 _ (zaa (wkr [sqx (0=0),sb Zf] kr)))))))))⟩
theorem zy9 (l:List Dl) (n:Str) (hk:zab E0 S.AB [.sl (l.map Dl.cells),.fn S.BT [.p 0 0]] [.box [sv n]] (iv (-1)) [.box [sv n]]):∃ (r:Dl) (b:Bool),b=false/\zab E0 S.A5 [.sl (l.map Dl.cells),sv n] [] (.tup [r.av,bv b]) []:=by
 exact ⟨Dl.mk Zs0 [] [] [],false,Zr,wk At.A5 [sl [0] hk,sb Zt] kr⟩
theorem ze8 (d:Dl) (n:Str) (h:dlC d n=false):∃ dz:Dl,zab E0 S.A5 [.sl ([d].map Dl.cells),sv n] [] (.tup [dz.av,bv false]) []:=by
 have h1:=zbL [d] n (by simp [zac])
 have e:idxF (fun t=>dlC t n) [d] 0=-1:=by
  unfold idxF;rw [h];rfl
 rw [e] at h1
 obtain ⟨dz,_,rfl,h2⟩:=zy9 [d] n h1
 exact ⟨dz,h2⟩
theorem zfz (d:Dl) (n:Str) (h:dlC d n=true):zab E0 S.A5 [.sl ([d].map Dl.cells),sv n] [] (.tup [d.av,bv true]) []:=by
 have h1:=zbL [d] n (by simp [zac])
 have e:idxF (fun t=>dlC t n) [d] 0=((0:Nat):Int):=by
  unfold idxF;rw [h];rfl
 rw [e] at h1
 obtain ⟨r,b,⟨rfl,rfl⟩,h2⟩:=zqh [d] n 0 d rfl Zs h1 Zd
 exact h2
abbrev d3k:Dl:=⟨sLog,[],[g1k,g2k],[]⟩
theorem zxh {n:Int} {rows:List Rw} (h:TabV (lgT n rows)):zab E0 S.AO [tsl (mK n rows),sv sUu] [] (.tup [zaW.av,bv true]) []/\zab E0 S.AO [tsl (mK n rows),sv sLog] [] (.tup [zaS.av,bv true]) []:=by
 have h1:=zcw (mK n rows) sUu (by simp [zac]) (fun x hx=>(zgN h x hx).1)
 have h2:=zcw (mK n rows) sLog (by simp [zac]) (fun x hx=>(zgN h x hx).1)
 rw [(zg7 n rows).1] at h1
 rw [(zg7 n rows).2] at h2
 exact ⟨h1,h2⟩
theorem zsP {a b:Rw} (ha:zac a.vals) (hb:zac b.vals):∀ x∈[a,b],zab E0 S.BL [.agg x.cells] [] (.agg x.cells) []:=fun x hx=>by
 simp only [yO,yAE,or_false] at hx
 rcases hx with rfl|rfl
 ·exact zdH _ ha
 ·exact zdH _ hb
theorem zin:zab E0 S.At [.sl (tsK.map Tg.cells),tsl m0k,.sl ([d1k].map Dl.cells)] [] (.own 0 2) [.row Ty.Item [(itA r1k).cells,(itA r2k).cells] false]:=by
 obtain ⟨_,rfl,m1⟩:=zgW tgA zaW d1k rfl (by simp [zac]) (zsP (by simp [zac]) (by simp [zac]))
 obtain ⟨_,rfl,r1⟩:=zAi tgA sUu [r1k,r2k] Zs
 obtain ⟨dz,f2⟩:=ze8 d1k sLog (by show _=_;kernel_rfl)
 obtain ⟨g1,g2⟩:=zxh (zjA 1 Zd)
 obtain ⟨_,_,⟨rfl,rfl⟩,h⟩:=c_eiA tgA tgB m0k [d1k] d1k dz d1k zaW zaS true [itA r1k,itA r2k] Zs rfl rfl rfl (zfz d1k sUu (by show _=_;kernel_rfl)) g1 m1 r1 f2 g2
 exact h
theorem c_dR2 (tb:Str) (a b:Rw) :∃ (n:Int),n=2/\zab E0 S.C0 [Dl.av ⟨tb,[a,b],[],[]⟩,iv 1] [] (iv n) []:=by
 exact ⟨(↑[[iv a.id,vsl a.vals],[iv b.id,vsl b.vals]].length:Int),Zr,(by (try simp only [zsl,Ac.cells,Se.cells,Pr.cells,Ch.cells,Rw.cells,Dl.cells,Itm.cells]);exact wk At.C0 [sb Zt] kr)⟩
theorem c_dR0 (tb:Str) :∃ (n:Int),n=0/\zab E0 S.C0 [Dl.av ⟨tb,[],[],[]⟩,iv 1] [] (iv n) []:=by
 exact ⟨(([]:List (List AV)).length:Int),Zr,wk At.C0 [sb Zt] kr⟩
theorem zio:zab E0 S.At [.sl (tsK.map Tg.cells),tsl m2k,.sl ([d2k].map Dl.cells)] [] (.own 0 1) [.row Ty.Item [itB.cells] false]:=by
 obtain ⟨_,rfl,m1⟩:=zgW tgB zaS d2k rfl (by simp [zac]) (zsP (by simp [zac]) (by simp [zac]))
 obtain ⟨_,rfl,r1⟩:=c_dR2 sLog g1k g2k
 obtain ⟨dz,f2⟩:=ze8 d2k sUu (by show _=_;kernel_rfl)
 obtain ⟨g1,g2⟩:=zxh zlC
 obtain ⟨_,_,⟨rfl,rfl⟩,h⟩:=c_eiB tgA tgB m2k [d2k] d2k dz d2k 2 zaW zaS true rfl rfl rfl f2 g1 m1 r1 Zd (zfz d2k sLog (by show _=_;kernel_rfl)) g2
 exact h
theorem zon:zab E0 S.At [.sl (tsK.map Tg.cells),tsl m3k,.sl ([d3k].map Dl.cells)] [] (.sl []) []:=by
 obtain ⟨_,rfl,m1⟩:=zgW tgB zaS d3k rfl (by simp [zac]) (fun x hx=>by simp at hx)
 obtain ⟨_,rfl,r1⟩:=c_dR0 sLog
 obtain ⟨dz,f2⟩:=ze8 d3k sUu (by show _=_;kernel_rfl)
 obtain ⟨g1,g2⟩:=zxh (zjA 3 Zd)
 obtain ⟨_,rfl,h⟩:=c_eiC tgA tgB m3k [d3k] d3k dz ⟨sLog,[],[],[]⟩ 0 zaW zaS true rfl rfl rfl f2 g1 m1 r1 Zd (zfz d3k sLog (by show _=_;kernel_rfl)) g2
 exact h
theorem c_pf1 (m m2:List Tb) (ts:List Tg) (ds:List Dl) (a b:Itm) (n r:Int) (hn:decide (n<=0)=false) (hI:zab E0 S.Bv [tsl m,.sl (ts.map Tg.cells),.sl [],.sl (ds.map Dl.cells),a.av,.sl []] [] (.tup [tsl m2,.sl [],.sl [],iv 0]) []):∃ (e:Int),e=0/\zab E0 S.Aw [.p 0 0,.own 2 2,.sl (ds.map Dl.cells)] [.box [tsl m,iv 0,iv r,.nl,.own 1 0,.sl (ts.map Tg.cells),.sl [],iv n],.row Ty.int [] false,.row Ty.Item [a.cells,b.cells] false] (.tup [.os 2 2 0 1,iv e]) [.box [tsl m2,iv 1,iv r,.own 3 1,.sl [],.sl (ts.map Tg.cells),.sl [],iv n],.row Ty.int [] true,.row Ty.Item [b.cells,itZ.cells] false,.row Ty.int [[iv 2]] false]:=by
 exact ⟨0,Zr,wkK At.Aw [sl [2] (zmM a b),sd [],sb hn,sb Zf,skx (True/\0=0/\True) [] (ze4 ((↑[[iv 0],[iv 1]].length:Int))),sb Zt,sqx (AllLen [[iv (↑[[iv 0],[iv 1]].length:Int)]] 1/\Nat.le 8 140737488355328),se (xs:=[[iv 0],[iv 1]]) (i:=0) (c:=[iv 0]) (n:=1) ⟨by decide,rfl,rfl⟩,sd [(16,[sqx (OwnAt [[sv a.name,iv a.row,vsl a.old,vsl a.nw],[sv b.name,iv b.row,vsl b.old,vsl b.nw]] 2 0)]),(17,[sx (.el ((selI a b 0).cells)) (zgL a b 0 (by first|assumption|omega|(simp;done)|(simp;omega)))]),(19,[sc hI])],sb Zf,sqx (AllLen [] 1/\1=1/\Nat.le 8 140737488355328),si (zap (t:=0+1) (n:=0+1) Zo Zo),si (zap (t:=0+1) (n:=0+1) Zo Zo),sl [2] (ziY a b)] kr⟩
theorem c_pf2 (m m2:List Tb) (ts:List Tg) (ds:List Dl) (a b:Itm) (n r:Int) (hn:decide (n<=1)=false) (hI:zab E0 S.Bv [tsl m,.sl (ts.map Tg.cells),.sl [],.sl (ds.map Dl.cells),a.av,.sl []] [] (.tup [tsl m2,.sl [],.sl [],iv 0]) []):∃ (e:Int),e=0/\zab E0 S.Aw [.p 0 0,.os 2 2 0 1,.sl (ds.map Dl.cells)] [.box [tsl m,iv 1,iv r,.own 1 1,.sl [],.sl (ts.map Tg.cells),.sl [],iv n],.row Ty.int [[iv 2]] false,.row Ty.Item [a.cells,b.cells] false] (.tup [.os 2 2 0 0,iv e]) [.box [tsl m2,iv 2,iv r,.own 1 1,.sl [],.sl (ts.map Tg.cells),.sl [],iv n],.row Ty.int [[iv 2]] false,.row Ty.Item [itZ.cells,b.cells] false]:=by
 exact ⟨0,Zr,wkK At.Aw [sl [2] (zmL a b),sd [],sb hn,sb Zf,sc (ze4 ((↑[[iv 0]].length:Int))),sb Zf,se (xs:=[[iv 0]]) (i:=0) (c:=[iv 0]) (n:=1) ⟨by decide,rfl,rfl⟩,sd [(16,[sqx (OsEl [[sv a.name,iv a.row,vsl a.old,vsl a.nw],[sv b.name,iv b.row,vsl b.old,vsl b.nw]] 2 0 1 0)]),(17,[sx (.el ((selI a b 0).cells)) (zgL a b 0 (by first|assumption|omega|(simp;done)|(simp;omega)))]),(19,[sc hI])],sb Zf,sqx (AllLen [] 1/\1=1/\Nat.le 8 140737488355328),si (zap (t:=1+1) (n:=1+1) Zo Zo),si (zap (t:=0+1) (n:=0+1) Zo Zo),sl [2] (ziX a b)] kr⟩
theorem c_pf3 (m m2:List Tb) (ts:List Tg) (ds:List Dl) (a:Itm) (n r:Int) (hn:decide (n<=2)=false) (hI:zab E0 S.Bv [tsl m,.sl (ts.map Tg.cells),.sl [],.sl (ds.map Dl.cells),a.av,.sl []] [] (.tup [tsl m2,.sl [],.sl [],iv 0]) []):∃ (e:Int),e=0/\zab E0 S.Aw [.p 0 0,.own 2 1,.sl (ds.map Dl.cells)] [.box [tsl m,iv 2,iv r,.own 1 1,.sl [],.sl (ts.map Tg.cells),.sl [],iv n],.row Ty.int [[iv 2]] false,.row Ty.Item [a.cells] false] (.tup [.os 2 1 0 0,iv e]) [.box [tsl m2,iv 3,iv r,.own 1 1,.sl [],.sl (ts.map Tg.cells),.sl [],iv n],.row Ty.int [[iv 2]] false,.row Ty.Item [itZ.cells] false]:=by
 exact ⟨0,Zr,wkK At.Aw [sl [2] (zg1 a),sd [],sb hn,sb Zf,sc (ze4 ((↑[[iv 0]].length:Int))),sb Zf,se (xs:=[[iv 0]]) (i:=0) (c:=[iv 0]) (n:=1) ⟨by decide,rfl,rfl⟩,sd [(16,[sqx (OwnAt [[sv a.name,iv a.row,vsl a.old,vsl a.nw]] 1 0)]),(17,[sx (.el a.cells) (zwG a 0 (by first|assumption|omega|(simp;done)|(simp;omega)))]),(19,[sc hI])],sb Zf,sqx (AllLen [] 1/\1=1/\Nat.le 8 140737488355328),si (zap (t:=2+1) (n:=2+1) Zo Zo),si (zap (t:=0+1) (n:=0+1) Zo Zo),sl [2] (ziW a)] kr⟩
theorem c_pf4 (m:List Tb) (ts:List Tg) (ds:List Dl) (a:Itm) (n r:Int) (hn:decide (n<=2)=true):∃ (e:Int),e=11/\zab E0 S.Aw [.p 0 0,.own 2 1,.sl (ds.map Dl.cells)] [.box [tsl m,iv 2,iv r,.own 1 1,.sl [],.sl (ts.map Tg.cells),.sl [],iv n],.row Ty.int [[iv 2]] false,.row Ty.Item [a.cells] false] (.tup [.nl,iv e]) [.box [tsl m,iv 2,iv r,.own 1 1,.sl [],.sl (ts.map Tg.cells),.sl [],iv n],.row Ty.int [[iv 2]] false,.row Ty.Item [a.cells] false]:=by
 exact ⟨11,Zr,wkK At.Aw [sl [2] (zg1 a),sd [],sb hn] kr⟩
theorem za4 {p:Prop} (h:p:=by first|exact actC ‹_›|exact act0 Zd|exact act5 (XOk.le ‹_› Zo)|exact actW Zd (XOk.le (zf8 (n:=3) (zc9 _ _) (by first|exact zc4 (zbU ⟨by omega,by omega⟩)|exact zgD ((by assumption:_->zfs _) ‹_›))) Zo)|exact actS Zd (XOk.le (zf8 (n:=2) (zc9 _ _) (zde Zo Zo)) Zo)|exact zr4 Zd (XOk.le (zf8 (n:=2) (zc9 _ _) (zde Zo Zo)) Zo) (XOk.le (zxs (n:=2) (zc9 _ _) (zde Zo Zo) (zde Zo Zo)) Zo)|exact zr4 Zd (XOk.le (n:=3) (by first|exact zc4 (zbU ⟨by omega,by omega⟩)|exact zgD ((by assumption:_->zfs _) ‹_›)) Zo) (XOk.le (zf8 (n:=3) (zc9 _ _) (zc9 _ _)) Zo)|exact zr4 Zd (XOk.le (n:=3) (by first|exact zc4 (zbU ⟨by omega,by omega⟩)|exact zgD ((by assumption:_->zfs _) ‹_›)) Zo) (zf8 (n:=5) (XOk.le (zf8 (n:=3) (zc9 _ _) (zc9 _ _)) Zo) ‹_›)|exact actR Zd (XOk.le (n:=3) (by first|exact zc4 (zbU ⟨by omega,by omega⟩)|exact zgD ((by assumption:_->zfs _) ‹_›)) Zo) (XOk.le (zc4 (n:=3) hnm) Zo)):p:=h
theorem zao {p:Prop} (h:p:=by first|assumption|omega|exact hp.less|exact hp.few1|exact hp.cols|exact hp.short|exact hp.less.less|exact zyk hp (zcB (tuN ‹_›)).few|(simp only [yG] at *;omega)|(simp;done)):p:=h
def ActQ (r:Ac):Prop:=AcOk 6 r/\zrU r
theorem tuN {a:Nat} (h:(a:Int) < 2):TabN (tuAt a):=by
 have:a=0\/a=1:=by omega
 rcases this with rfl|rfl
 ·exact .inl rfl
 ·exact .inr (.inl rfl)
theorem AcOk.le {n m:Nat} {a:Ac} (h:AcOk n a) (hm:n<=m):AcOk m a :=
 ⟨h.rows,fun r hr=>⟨(h.row r hr).1,fun x hx=>((h.row r hr).2 x hx).le hm⟩,h.query,fun q hq=>⟨(h.qs q hq).items,(h.qs q hq).wh,fun x hx=>((h.qs q hq).hi x hx).le hm,fun x hx=>((h.qs q hq).hw x hx).le hm⟩,h.sets,fun s hs=>(h.set s hs).le hm,h.wh,fun x hx=>(h.w x hx).le hm⟩
theorem actC {a:Ac} (h:AcOk 5 a/\a.kind≠5):ActQ a:=⟨h.1.le Zo,fun h5=>absurd h5 h.2⟩
theorem act0 {k:Int} {nm tx:Str} (hk:k≠5):ActQ (Ac.mk k nm [] [] [] [] tx):=actC (zxI hk)
theorem actW {k:Int} {nm tx:Str} {w:X} (hk:k≠5) (hw:XOk 6 w):ActQ (Ac.mk k nm [] [] [] [w] tx) :=
 ⟨⟨by simp [Few],by simp,by simp [Few],by simp,by simp [Few],by simp,by simp [Few],by simpa using hw⟩,fun h=>absurd h hk⟩
theorem actS {k:Int} {nm tx c:Str} {e:X} (hk:k≠5) (he:XOk 6 e):ActQ (Ac.mk k nm [] [] [⟨c,e⟩] [] tx) :=
 ⟨⟨by simp [Few],by simp,by simp [Few],by simp,by simp [Few],by simpa using he,by simp [Few],by simp⟩,fun h=>absurd h hk⟩
theorem zr4 {k:Int} {nm tx c:Str} {e w:X} (hk:k≠5) (he:XOk 6 e) (hw:XOk 6 w):ActQ (Ac.mk k nm [] [] [⟨c,e⟩] [w] tx) :=
 ⟨⟨by simp [Few],by simp,by simp [Few],by simp,by simp [Few],by simpa using he,by simp [Few],by simpa using hw⟩,fun h=>absurd h hk⟩
theorem actR {k:Int} {nm tx:Str} {a b:X} (hk:k≠5) (ha:XOk 6 a) (hb:XOk 6 b):ActQ (Ac.mk k nm [[a,b]] [] [] [] tx) :=
 ⟨⟨by simp [Few],by
  intro r hr
  simp only [yF] at hr
  subst hr
  refine ⟨by simp [Few],fun x hx=>?_⟩
  simp only [yO,yAE,or_false] at hx
  rcases hx with rfl|rfl <;> assumption,by simp [Few],by simp,by simp [Few],by simp,by simp [Few],by simp⟩,fun h=>absurd h hk⟩
theorem act5 {nm tx c:Str} {e:X} (he:XOk 6 e):ActQ (Ac.mk 5 nm [] [] [⟨c,e⟩] [] tx) :=
 ⟨⟨by simp [Few],by simp,by simp [Few],by simp,by simp [Few],by simpa using he,by simp [Few],by simp⟩,fun _=>⟨_,rfl⟩⟩
theorem zms (t:Tp) (x:Tg) (s:Sch) (p:Pl) (hp:p.OkN 4) (hs:Few s.cols) (hpos:Pos (((s.cols.map Col.cells).length:Nat):Int)) (hsh:zac zan) (hnm:V.Good ⟨3,0,x.name⟩):∃ (r:Ac) (t':Tp),ActQ r/\zab E0 S.Af [.p 0 0,x.av,s.av,p.av] [.box t.cells] r.av [.box t'.cells]:=by
 obtain ⟨b1,t1,c1⟩:=(zah t 9 zao)
 rcases (yD b1).symm with h2|h2
 ·cases h3:x.before
  ·obtain ⟨a4,t4,q4,c4⟩:=(zae t1 5 zao)
   obtain ⟨x5,ok5,t5,q5,c5⟩:=(zbX t4 (Pl.mk p.frs []) 1 zao zao)
   let p_1:List St:=[sl [0] c1,sg h2,sb h3,sb h3,sl [0] c4,sc (zaP (V.mk 1 (a4:Int) Zs0)),sl [0] c5]
   rcases (yD ok5).symm with h6|h6
   ·obtain ⟨a7,t7,q7,c7⟩:=(zae t5 7 zao)
    cases h8:(a7:Int)==0
    ·cases h9:(a7:Int)==1
     ·cases h10:(a7:Int)==2
      ·let p_2:List St:=p_1++[sb h6,sl [0] c7,sb h8,sb h9,sb h10]
       cases h11:(a7:Int)==3
       ·cases h12:(a7:Int)==4
        ·obtain ⟨r13,t13,q13,c13⟩:=(zbn t7 p zao zao)
         exact ⟨r13,t13,za4,wk At.Af (p_2++[sb h11,sb h12,sl [0] c13]) kr⟩
        ·obtain ⟨w14,t14,q14,c14⟩:=(zcH t7)
         exact ⟨Ac.mk 3 w14 [] [] [] [xBin 5 (xCol Zs0 Zsn) (xLit (V.mk 1 (a4:Int) Zs0))] Zs0,t14,za4,(by (try simp only [Ac.av,Ac.cells,yT,yAD,Se.cells,zaG,zaL,zaJ,zaN]);exact wk At.Af (p_2++[sb h11,sb h12,sd [(1,[sl [0] c14]),(2,[sc (zaM Zs0 Zsn)]),(4,[sc (zaz 5 (xCol Zs0 Zsn) (xLit (V.mk 1 (a4:Int) Zs0)))])]]) kr)⟩
       ·cases h15:x.each
        ·obtain ⟨r16,t16,q16,c16⟩:=(zbn t7 p zao zao)
         exact ⟨r16,t16,za4,wk At.Af (p_2++[sb h11,sb h15,sl [0] c16]) kr⟩
        ·cases h17:!ByteArray.toList x.table==Zsl.toList
         ·obtain ⟨r18,t18,q18,c18⟩:=(zbn t7 p zao zao)
          exact ⟨r18,t18,za4,wk At.Af (p_2++[sb h11,sg h15,sb h17,sl [0] c18]) kr⟩
         ·cases h19:x.event==3
          ·obtain ⟨a20,t20,q20,c20⟩:=(zae t7 2 zao)
           obtain ⟨b21,t21,c21⟩:=(zah t20 3 zao)
           let p_3:List St:=p_2++[sb h11,sg h15,sb h17,sb h19,sl [0] c20,se (znw a20 zao),sc (zaM Zs0 Zsi),sc (zaM ZsN Zsi),sc (zaz 3 (xCol Zs0 Zsi) (xCol ZsN Zsi)),sl [0] c21]
           rcases (yD b21).symm with h22|h22
           ·exact ⟨Ac.mk 2 (tuAt a20) [] [] [Se.mk Zsn (xLit (V.mk 1 (a4:Int) Zs0))] [xBin 3 (xCol Zs0 Zsi) (xCol ZsN Zsi)] Zs0,t21,za4,(by (try simp only [Ac.av,Ac.cells,yT,yAD,Se.cells,zaG,zaL,zaJ,zaN]);exact wk At.Af (p_3++[sb h22]) kr)⟩
           ·obtain ⟨e23,t23,q23,c23⟩:=(zbI t21 (plIn p (zal (tuAt a20))) 2 zao)
            exact ⟨Ac.mk 2 (tuAt a20) [] [] [Se.mk Zsn (xLit (V.mk 1 (a4:Int) Zs0))] [xBin 2 (xBin 3 (xCol Zs0 Zsi) (xCol ZsN Zsi)) e23] Zs0,t23,za4,(by (try simp only [Ac.av,Ac.cells,yT,yAD,Se.cells,zaG,zaL,zaJ,zaN]);exact wk At.Af (p_3++[sb h22,sd [(4,[sc (zbx (tuAt a20) zao)]),(5,[sc (zbQ p (zal (tuAt a20)) zao)]),(6,[sl [0] c23]),(7,[sc (zaz 2 (xBin 3 (xCol Zs0 Zsi) (xCol ZsN Zsi)) e23)])]]) kr)⟩
          ·obtain ⟨a24,t24,q24,c24⟩:=(zae t7 2 zao)
           obtain ⟨b25,t25,c25⟩:=(zah t24 3 zao)
           let p_4:List St:=p_2++[sb h11,sg h15,sb h17,sb h19,sl [0] c24,se (znw a24 zao),sc (zaM Zs0 Zsi),sc (zaM ZsO Zsi),sc (zaz 3 (xCol Zs0 Zsi) (xCol ZsO Zsi)),sl [0] c25]
           rcases (yD b25).symm with h26|h26
           ·exact ⟨Ac.mk 2 (tuAt a24) [] [] [Se.mk Zsn (xLit (V.mk 1 (a4:Int) Zs0))] [xBin 3 (xCol Zs0 Zsi) (xCol ZsO Zsi)] Zs0,t25,za4,(by (try simp only [Ac.av,Ac.cells,yT,yAD,Se.cells,zaG,zaL,zaJ,zaN]);exact wk At.Af (p_4++[sb h26]) kr)⟩
           ·obtain ⟨e27,t27,q27,c27⟩:=(zbI t25 (plIn p (zal (tuAt a24))) 2 zao)
            exact ⟨Ac.mk 2 (tuAt a24) [] [] [Se.mk Zsn (xLit (V.mk 1 (a4:Int) Zs0))] [xBin 2 (xBin 3 (xCol Zs0 Zsi) (xCol ZsO Zsi)) e27] Zs0,t27,za4,(by (try simp only [Ac.av,Ac.cells,yT,yAD,Se.cells,zaG,zaL,zaJ,zaN]);exact wk At.Af (p_4++[sb h26,sd [(4,[sc (zbx (tuAt a24) zao)]),(5,[sc (zbQ p (zal (tuAt a24)) zao)]),(6,[sl [0] c27]),(7,[sc (zaz 2 (xBin 3 (xCol Zs0 Zsi) (xCol ZsO Zsi)) e27)])]]) kr)⟩
      ·obtain ⟨a28,t28,q28,c28⟩:=(zae t7 2 zao)
       obtain ⟨a29,t29,q29,c29⟩:=(zae t28 2 zao)
       obtain ⟨a30,t30,q30,c30⟩:=(zae t29 3 zao)
       obtain ⟨a31,t31,q31,c31⟩:=(zaQ t30)
       exact ⟨Ac.mk 2 Zsu [] [] [Se.mk (nmAt a28) (xBin (↑(9+a29):Int) (xCol Zs0 (nmAt a28)) (xNum (↑(1+a30):Int)))] [xBtw (nmAt a28) a31 9] Zs0,t31,za4,(by (try simp only [Ac.av,Ac.cells,yT,yAD,Se.cells,zaG,zaL,zaJ,zaN]);exact wk At.Af (p_1++[sb h6,sl [0] c7,sb h8,sb h9,sb h10,sl [0] c28,se (zgK a28 zao),sl [0] c29,si (zap (t:=9+(a29:Int)) (n:=9+a29) Zo Zo),sc (zaM Zs0 (nmAt a28)),sl [0] c30,si (zap (t:=1+(a30:Int)) (n:=1+a30) Zo Zo),sc (zaZ ((↑(1+a30):Int)) zao),sc (zaz ((↑(9+a29):Int)) (xCol Zs0 (nmAt a28)) (xNum (↑(1+a30):Int))),sl [0] c31,sc (zed (nmAt a28) a31 9 zao zao)]) kr)⟩
     ·obtain ⟨a32,t32,q32,c32⟩:=(zae t7 2 zao)
      obtain ⟨a33,t33,q33,c33⟩:=(zae t32 2 zao)
      obtain ⟨a34,t34,q34,c34⟩:=(zae t33 2 zao)
      obtain ⟨a35,t35,q35,c35⟩:=(zae t34 3 zao)
      exact ⟨Ac.mk 2 Zsu [] [] [Se.mk (nmAt a32) (xBin (↑(9+a33):Int) (xCol Zs0 (nmAt a34)) (xNum (↑(1+a35):Int)))] [] Zs0,t35,za4,(by (try simp only [Ac.av,Ac.cells,yT,yAD,Se.cells,zaG,zaL,zaJ,zaN]);exact wk At.Af (p_1++[sb h6,sl [0] c7,sb h8,sb h9,sd [(2,[sl [0] c32]),(3,[se (zgK a32 zao)]),(6,[sl [0] c33]),(7,[si (zap (t:=9+(a33:Int)) (n:=9+a33) Zo Zo)]),(10,[sl [0] c34]),(11,[se (zgK a34 zao)]),(13,[sc (zaM Zs0 (nmAt a34))]),(15,[sl [0] c35]),(16,[si (zap (t:=1+(a35:Int)) (n:=1+a35) Zo Zo)]),(17,[sc (zaZ ((↑(1+a35):Int)) zao)]),(18,[sc (zaz ((↑(9+a33):Int)) (xCol Zs0 (nmAt a34)) (xNum (↑(1+a35):Int)))])]]) kr)⟩
    ·exact ⟨Ac.mk 1 Zsl [[xLit (V.mk 1 (a4:Int) Zs0),xLit (V.mk 3 0 x.name)]] [] [] [] Zs0,t7,za4,(by (try simp only [Ac.av,Ac.cells,yT,yAD,Se.cells,zaG,zaL,zaJ,zaN]);exact wk At.Af (p_1++[sb h6,sl [0] c7,sb h8,sd [(4,[sc (zaP (V.mk 3 0 x.name))])]]) kr)⟩
   ·obtain ⟨b36,t36,c36⟩:=(zah t5 2 zao)
    rcases (yD b36).symm with h37|h37
    ·obtain ⟨a38,t38,q38,c38⟩:=(zae t36 7 zao)
     let p_5:List St:=p_1++[sg h6,sl [0] c36,sb h37,sl [0] c38]
     cases h39:(a38:Int)==0
     ·cases h40:(a38:Int)==1
      ·cases h41:(a38:Int)==2
       ·cases h42:(a38:Int)==3
        ·cases h43:(a38:Int)==4
         ·obtain ⟨r44,t44,q44,c44⟩:=(zbn t38 p zao zao)
          exact ⟨r44,t44,za4,wk At.Af (p_5++[sb h39,sb h40,sb h41,sb h42,sb h43,sl [0] c44]) kr⟩
         ·obtain ⟨w45,t45,q45,c45⟩:=(zcH t38)
          exact ⟨Ac.mk 3 w45 [] [] [] [xBin 5 (xCol Zs0 Zsn) (xLit (V.mk 1 (a4:Int) Zs0))] Zs0,t45,za4,(by (try simp only [Ac.av,Ac.cells,yT,yAD,Se.cells,zaG,zaL,zaJ,zaN]);exact wk At.Af (p_5++[sb h39,sb h40,sb h41,sb h42,sb h43,sd [(1,[sl [0] c45]),(2,[sc (zaM Zs0 Zsn)]),(4,[sc (zaz 5 (xCol Zs0 Zsn) (xLit (V.mk 1 (a4:Int) Zs0)))])]]) kr)⟩
        ·cases h46:x.each
         ·obtain ⟨r47,t47,q47,c47⟩:=(zbn t38 p zao zao)
          exact ⟨r47,t47,za4,wk At.Af (p_5++[sb h39,sb h40,sb h41,sb h42,sb h46,sl [0] c47]) kr⟩
         ·let p_6:List St:=p_5++[sb h39,sb h40,sb h41,sb h42,sg h46]
          cases h48:!ByteArray.toList x.table==Zsl.toList
          ·obtain ⟨r49,t49,q49,c49⟩:=(zbn t38 p zao zao)
           exact ⟨r49,t49,za4,wk At.Af (p_6++[sb h48,sl [0] c49]) kr⟩
          ·cases h50:x.event==3
           ·obtain ⟨a51,t51,q51,c51⟩:=(zae t38 2 zao)
            obtain ⟨b52,t52,c52⟩:=(zah t51 3 zao)
            let p_7:List St:=p_6++[sb h48,sb h50,sl [0] c51,se (znw a51 zao),sc (zaM Zs0 Zsi),sc (zaM ZsN Zsi),sc (zaz 3 (xCol Zs0 Zsi) (xCol ZsN Zsi)),sl [0] c52]
            rcases (yD b52).symm with h53|h53
            ·exact ⟨Ac.mk 2 (tuAt a51) [] [] [Se.mk Zsn (xLit (V.mk 1 (a4:Int) Zs0))] [xBin 3 (xCol Zs0 Zsi) (xCol ZsN Zsi)] Zs0,t52,za4,(by (try simp only [Ac.av,Ac.cells,yT,yAD,Se.cells,zaG,zaL,zaJ,zaN]);exact wk At.Af (p_7++[sb h53]) kr)⟩
            ·obtain ⟨e54,t54,q54,c54⟩:=(zbI t52 (plIn p (zal (tuAt a51))) 2 zao)
             exact ⟨Ac.mk 2 (tuAt a51) [] [] [Se.mk Zsn (xLit (V.mk 1 (a4:Int) Zs0))] [xBin 2 (xBin 3 (xCol Zs0 Zsi) (xCol ZsN Zsi)) e54] Zs0,t54,za4,(by (try simp only [Ac.av,Ac.cells,yT,yAD,Se.cells,zaG,zaL,zaJ,zaN]);exact wk At.Af (p_7++[sb h53,sd [(4,[sc (zbx (tuAt a51) zao)]),(5,[sc (zbQ p (zal (tuAt a51)) zao)]),(6,[sl [0] c54]),(7,[sc (zaz 2 (xBin 3 (xCol Zs0 Zsi) (xCol ZsN Zsi)) e54)])]]) kr)⟩
           ·obtain ⟨a55,t55,q55,c55⟩:=(zae t38 2 zao)
            obtain ⟨b56,t56,c56⟩:=(zah t55 3 zao)
            let p_8:List St:=p_6++[sb h48,sb h50,sl [0] c55,se (znw a55 zao),sc (zaM Zs0 Zsi),sc (zaM ZsO Zsi),sc (zaz 3 (xCol Zs0 Zsi) (xCol ZsO Zsi)),sl [0] c56]
            rcases (yD b56).symm with h57|h57
            ·exact ⟨Ac.mk 2 (tuAt a55) [] [] [Se.mk Zsn (xLit (V.mk 1 (a4:Int) Zs0))] [xBin 3 (xCol Zs0 Zsi) (xCol ZsO Zsi)] Zs0,t56,za4,(by (try simp only [Ac.av,Ac.cells,yT,yAD,Se.cells,zaG,zaL,zaJ,zaN]);exact wk At.Af (p_8++[sb h57]) kr)⟩
            ·obtain ⟨e58,t58,q58,c58⟩:=(zbI t56 (plIn p (zal (tuAt a55))) 2 zao)
             exact ⟨Ac.mk 2 (tuAt a55) [] [] [Se.mk Zsn (xLit (V.mk 1 (a4:Int) Zs0))] [xBin 2 (xBin 3 (xCol Zs0 Zsi) (xCol ZsO Zsi)) e58] Zs0,t58,za4,(by (try simp only [Ac.av,Ac.cells,yT,yAD,Se.cells,zaG,zaL,zaJ,zaN]);exact wk At.Af (p_8++[sb h57,sd [(4,[sc (zbx (tuAt a55) zao)]),(5,[sc (zbQ p (zal (tuAt a55)) zao)]),(6,[sl [0] c58]),(7,[sc (zaz 2 (xBin 3 (xCol Zs0 Zsi) (xCol ZsO Zsi)) e58)])]]) kr)⟩
       ·obtain ⟨a59,t59,q59,c59⟩:=(zae t38 2 zao)
        obtain ⟨a60,t60,q60,c60⟩:=(zae t59 2 zao)
        obtain ⟨a61,t61,q61,c61⟩:=(zae t60 3 zao)
        obtain ⟨a62,t62,q62,c62⟩:=(zaQ t61)
        exact ⟨Ac.mk 2 Zsu [] [] [Se.mk (nmAt a59) (xBin (↑(9+a60):Int) (xCol Zs0 (nmAt a59)) (xNum (↑(1+a61):Int)))] [xBtw (nmAt a59) a62 9] Zs0,t62,za4,(by (try simp only [Ac.av,Ac.cells,yT,yAD,Se.cells,zaG,zaL,zaJ,zaN]);exact wk At.Af (p_5++[sb h39,sb h40,sb h41,sl [0] c59,se (zgK a59 zao),sl [0] c60,si (zap (t:=9+(a60:Int)) (n:=9+a60) Zo Zo),sc (zaM Zs0 (nmAt a59)),sl [0] c61,si (zap (t:=1+(a61:Int)) (n:=1+a61) Zo Zo),sc (zaZ ((↑(1+a61):Int)) zao),sc (zaz ((↑(9+a60):Int)) (xCol Zs0 (nmAt a59)) (xNum (↑(1+a61):Int))),sl [0] c62,sc (zed (nmAt a59) a62 9 zao zao)]) kr)⟩
      ·obtain ⟨a63,t63,q63,c63⟩:=(zae t38 2 zao)
       obtain ⟨a64,t64,q64,c64⟩:=(zae t63 2 zao)
       obtain ⟨a65,t65,q65,c65⟩:=(zae t64 2 zao)
       obtain ⟨a66,t66,q66,c66⟩:=(zae t65 3 zao)
       exact ⟨Ac.mk 2 Zsu [] [] [Se.mk (nmAt a63) (xBin (↑(9+a64):Int) (xCol Zs0 (nmAt a65)) (xNum (↑(1+a66):Int)))] [] Zs0,t66,za4,(by (try simp only [Ac.av,Ac.cells,yT,yAD,Se.cells,zaG,zaL,zaJ,zaN]);exact wk At.Af (p_5++[sb h39,sb h40,sd [(2,[sl [0] c63]),(3,[se (zgK a63 zao)]),(6,[sl [0] c64]),(7,[si (zap (t:=9+(a64:Int)) (n:=9+a64) Zo Zo)]),(10,[sl [0] c65]),(11,[se (zgK a65 zao)]),(13,[sc (zaM Zs0 (nmAt a65))]),(15,[sl [0] c66]),(16,[si (zap (t:=1+(a66:Int)) (n:=1+a66) Zo Zo)]),(17,[sc (zaZ ((↑(1+a66):Int)) zao)]),(18,[sc (zaz ((↑(9+a64):Int)) (xCol Zs0 (nmAt a65)) (xNum (↑(1+a66):Int)))])]]) kr)⟩
     ·exact ⟨Ac.mk 1 Zsl [[xLit (V.mk 1 (a4:Int) Zs0),xLit (V.mk 3 0 x.name)]] [] [] [] Zs0,t38,za4,(by (try simp only [Ac.av,Ac.cells,yT,yAD,Se.cells,zaG,zaL,zaJ,zaN]);exact wk At.Af (p_5++[sb h39,sd [(4,[sc (zaP (V.mk 3 0 x.name))])]]) kr)⟩
    ·obtain ⟨a67,t67,q67,c67⟩:=(zae t36 7 zao)
     let p_9:List St:=p_1++[sg h6,sl [0] c36,sb h37,sl [0] c67]
     cases h68:(a67:Int)==0
     ·cases h69:(a67:Int)==1
      ·cases h70:(a67:Int)==2
       ·cases h71:(a67:Int)==3
        ·cases h72:(a67:Int)==4
         ·obtain ⟨r73,t73,q73,c73⟩:=(zbn t67 p zao zao)
          exact ⟨r73,t73,za4,wk At.Af (p_9++[sb h68,sb h69,sb h70,sb h71,sb h72,sl [0] c73]) kr⟩
         ·obtain ⟨w74,t74,q74,c74⟩:=(zcH t67)
          exact ⟨Ac.mk 3 w74 [] [] [] [xBin 5 (xCol Zs0 Zsn) x5] Zs0,t74,za4,(by (try simp only [Ac.av,Ac.cells,yT,yAD,Se.cells,zaG,zaL,zaJ,zaN]);exact wk At.Af (p_9++[sb h68,sb h69,sb h70,sb h71,sb h72,sd [(1,[sl [0] c74]),(2,[sc (zaM Zs0 Zsn)]),(4,[sc (zaz 5 (xCol Zs0 Zsn) x5)])]]) kr)⟩
        ·cases h75:x.each
         ·obtain ⟨r76,t76,q76,c76⟩:=(zbn t67 p zao zao)
          exact ⟨r76,t76,za4,wk At.Af (p_9++[sb h68,sb h69,sb h70,sb h71,sb h75,sl [0] c76]) kr⟩
         ·let p_10:List St:=p_9++[sb h68,sb h69,sb h70,sb h71,sg h75]
          cases h77:!ByteArray.toList x.table==Zsl.toList
          ·obtain ⟨r78,t78,q78,c78⟩:=(zbn t67 p zao zao)
           exact ⟨r78,t78,za4,wk At.Af (p_10++[sb h77,sl [0] c78]) kr⟩
          ·cases h79:x.event==3
           ·obtain ⟨a80,t80,q80,c80⟩:=(zae t67 2 zao)
            obtain ⟨b81,t81,c81⟩:=(zah t80 3 zao)
            let p_11:List St:=p_10++[sb h77,sb h79,sl [0] c80,se (znw a80 zao),sc (zaM Zs0 Zsi),sc (zaM ZsN Zsi),sc (zaz 3 (xCol Zs0 Zsi) (xCol ZsN Zsi)),sl [0] c81]
            rcases (yD b81).symm with h82|h82
            ·exact ⟨Ac.mk 2 (tuAt a80) [] [] [Se.mk Zsn x5] [xBin 3 (xCol Zs0 Zsi) (xCol ZsN Zsi)] Zs0,t81,za4,(by (try simp only [Ac.av,Ac.cells,yT,yAD,Se.cells,zaG,zaL,zaJ,zaN]);exact wk At.Af (p_11++[sb h82]) kr)⟩
            ·obtain ⟨e83,t83,q83,c83⟩:=(zbI t81 (plIn p (zal (tuAt a80))) 2 zao)
             exact ⟨Ac.mk 2 (tuAt a80) [] [] [Se.mk Zsn x5] [xBin 2 (xBin 3 (xCol Zs0 Zsi) (xCol ZsN Zsi)) e83] Zs0,t83,za4,(by (try simp only [Ac.av,Ac.cells,yT,yAD,Se.cells,zaG,zaL,zaJ,zaN]);exact wk At.Af (p_11++[sb h82,sd [(4,[sc (zbx (tuAt a80) zao)]),(5,[sc (zbQ p (zal (tuAt a80)) zao)]),(6,[sl [0] c83]),(7,[sc (zaz 2 (xBin 3 (xCol Zs0 Zsi) (xCol ZsN Zsi)) e83)])]]) kr)⟩
           ·obtain ⟨a84,t84,q84,c84⟩:=(zae t67 2 zao)
            obtain ⟨b85,t85,c85⟩:=(zah t84 3 zao)
            let p_12:List St:=p_10++[sb h77,sb h79,sl [0] c84,se (znw a84 zao),sc (zaM Zs0 Zsi),sc (zaM ZsO Zsi),sc (zaz 3 (xCol Zs0 Zsi) (xCol ZsO Zsi)),sl [0] c85]
            rcases (yD b85).symm with h86|h86
            ·exact ⟨Ac.mk 2 (tuAt a84) [] [] [Se.mk Zsn x5] [xBin 3 (xCol Zs0 Zsi) (xCol ZsO Zsi)] Zs0,t85,za4,(by (try simp only [Ac.av,Ac.cells,yT,yAD,Se.cells,zaG,zaL,zaJ,zaN]);exact wk At.Af (p_12++[sb h86]) kr)⟩
            ·obtain ⟨e87,t87,q87,c87⟩:=(zbI t85 (plIn p (zal (tuAt a84))) 2 zao)
             exact ⟨Ac.mk 2 (tuAt a84) [] [] [Se.mk Zsn x5] [xBin 2 (xBin 3 (xCol Zs0 Zsi) (xCol ZsO Zsi)) e87] Zs0,t87,za4,(by (try simp only [Ac.av,Ac.cells,yT,yAD,Se.cells,zaG,zaL,zaJ,zaN]);exact wk At.Af (p_12++[sb h86,sd [(4,[sc (zbx (tuAt a84) zao)]),(5,[sc (zbQ p (zal (tuAt a84)) zao)]),(6,[sl [0] c87]),(7,[sc (zaz 2 (xBin 3 (xCol Zs0 Zsi) (xCol ZsO Zsi)) e87)])]]) kr)⟩
       ·obtain ⟨a88,t88,q88,c88⟩:=(zae t67 2 zao)
        obtain ⟨a89,t89,q89,c89⟩:=(zae t88 2 zao)
        obtain ⟨a90,t90,q90,c90⟩:=(zae t89 3 zao)
        obtain ⟨a91,t91,q91,c91⟩:=(zaQ t90)
        exact ⟨Ac.mk 2 Zsu [] [] [Se.mk (nmAt a88) (xBin (↑(9+a89):Int) (xCol Zs0 (nmAt a88)) (xNum (↑(1+a90):Int)))] [xBtw (nmAt a88) a91 9] Zs0,t91,za4,(by (try simp only [Ac.av,Ac.cells,yT,yAD,Se.cells,zaG,zaL,zaJ,zaN]);exact wk At.Af (p_9++[sb h68,sb h69,sb h70,sl [0] c88,se (zgK a88 zao),sl [0] c89,si (zap (t:=9+(a89:Int)) (n:=9+a89) Zo Zo),sc (zaM Zs0 (nmAt a88)),sl [0] c90,si (zap (t:=1+(a90:Int)) (n:=1+a90) Zo Zo),sc (zaZ ((↑(1+a90):Int)) zao),sc (zaz ((↑(9+a89):Int)) (xCol Zs0 (nmAt a88)) (xNum (↑(1+a90):Int))),sl [0] c91,sc (zed (nmAt a88) a91 9 zao zao)]) kr)⟩
      ·obtain ⟨a92,t92,q92,c92⟩:=(zae t67 2 zao)
       obtain ⟨a93,t93,q93,c93⟩:=(zae t92 2 zao)
       obtain ⟨a94,t94,q94,c94⟩:=(zae t93 2 zao)
       obtain ⟨a95,t95,q95,c95⟩:=(zae t94 3 zao)
       exact ⟨Ac.mk 2 Zsu [] [] [Se.mk (nmAt a92) (xBin (↑(9+a93):Int) (xCol Zs0 (nmAt a94)) (xNum (↑(1+a95):Int)))] [] Zs0,t95,za4,(by (try simp only [Ac.av,Ac.cells,yT,yAD,Se.cells,zaG,zaL,zaJ,zaN]);exact wk At.Af (p_9++[sb h68,sb h69,sd [(2,[sl [0] c92]),(3,[se (zgK a92 zao)]),(6,[sl [0] c93]),(7,[si (zap (t:=9+(a93:Int)) (n:=9+a93) Zo Zo)]),(10,[sl [0] c94]),(11,[se (zgK a94 zao)]),(13,[sc (zaM Zs0 (nmAt a94))]),(15,[sl [0] c95]),(16,[si (zap (t:=1+(a95:Int)) (n:=1+a95) Zo Zo)]),(17,[sc (zaZ ((↑(1+a95):Int)) zao)]),(18,[sc (zaz ((↑(9+a93):Int)) (xCol Zs0 (nmAt a94)) (xNum (↑(1+a95):Int)))])]]) kr)⟩
     ·exact ⟨Ac.mk 1 Zsl [[x5,xLit (V.mk 3 0 x.name)]] [] [] [] Zs0,t67,za4,(by (try simp only [Ac.av,Ac.cells,yT,yAD,Se.cells,zaG,zaL,zaJ,zaN]);exact wk At.Af (p_9++[sb h68,sd [(4,[sc (zaP (V.mk 3 0 x.name))])]]) kr)⟩
  ·cases h96:!x.each
   ·cases h97:x.event==3
    ·obtain ⟨a98,t98,q98,c98⟩:=(zae t1 ((↑(List.map Col.cells s.cols).length:Int)) zao)
     obtain ⟨x99,e99⟩:=zbc (l:=s.cols) (i:=a98) zao
     obtain ⟨e100,t100,q100,c100⟩:=(zaA t98 p x99.type zao)
     exact ⟨Ac.mk 5 Zs0 [] [] [Se.mk x99.name e100] [] Zs0,t100,za4,(by (try simp only [Ac.av,Ac.cells,yT,yAD,Se.cells,zaG,zaL,zaJ,zaN]);exact wk At.Af [sl [0] c1,sg h2,sg h3,sg h96,sb h97,sb h3,sdm [(6,[sl [0] c98]),(7,[se (zaf Col.cells e99 rfl)])] 0 [(0,AV.p 0 0),(1,AV.agg x.cells),(2,AV.agg s.cells),(3,AV.agg [fsl p.frs,ZS p.tbs]),(5,AV.p 1 0),(6,AV.p 2 0),(7,AV.p 3 0),(8,AV.p 4 0),(9,AV.p 5 0),(17,AV.p 0 0),(18,bv b1),(19,AV.bl false),(20,AV.p 1 2),(21,bv x.before),(22,AV.bl true),(23,AV.p 1 5),(24,bv x.each),(25,bv !x.each),(26,AV.bl false),(27,AV.p 1 3),(28,iv x.event),(29,bv (x.event==3)),(30,bv (x.event==3)),(31,bv (x.event==3)),(32,AV.bl false),(36,AV.p 1 2),(37,AV.bl true),(38,AV.p 2 1),(39,ZC s.cols),(40,AV.p 0 0),(41,AV.p 2 1),(42,ZC s.cols),(43,iv (↑(List.map Col.cells s.cols).length:Int)),(44,iv (a98:Int)),(45,AV.dp x99.cells),(46,AV.agg x99.cells)] [Blk.box [AV.sl (List.map (fun n=>[iv n]) t98.l),iv (t98.pos:Int)],Blk.box x.cells,Blk.box s.cells,Blk.box [fsl p.frs,ZS p.tbs],Blk.box [iv 0,sv Zs0,AV.nl,AV.nl,AV.nl,AV.nl,sv Zs0],Blk.box x99.cells],sd [(6,[sl [0] c100])]] kr)⟩
    ·obtain ⟨w101,t101,q101,c101⟩:=(zds t1)
     exact ⟨Ac.mk 4 Zs0 [] [] [] [] w101,t101,za4,wk At.Af [sl [0] c1,sg h2,sg h3,sg h96,sb h97,sl [0] c101] kr⟩
   ·obtain ⟨w102,t102,q102,c102⟩:=(zds t1)
    exact ⟨Ac.mk 4 Zs0 [] [] [] [] w102,t102,za4,wk At.Af [sl [0] c1,sg h2,sg h3,sb h96,sl [0] c102] kr⟩
 ·obtain ⟨w103,t103,q103,c103⟩:=(zds t1)
  exact ⟨Ac.mk 4 Zs0 [] [] [] [] w103,t103,za4,wk At.Af [sl [0] c1,sb h2,sl [0] c103] kr⟩
theorem zpK {p:Prop} (h:p:=by first|exact trigQ w1 w2 w3 (by simp [Few]) w4 w5 (few3 ‹_›) (And.right ‹_›)|exact trigQ w1 w2 w3 (by simp [Few]) (by simp [Few]) Zs (by simp [Few]) (fun a ha=>by simp only [yF] at ha;subst ha;assumption)):p:=h
theorem zfM {p:Prop} (h:p:=by first|assumption|omega|(rw [IntKind.wrap_i64];omega)|(simp;done)):p:=h
theorem zpL {p:Prop} (h:p:=by first|exact certA _ _ _ _ _ _ _ _ _ _|exact certB _ _ _ _ _ _ _ _ _ _ _ _ _ _|exact certC _ _ _ _ _ _ _ _ _ _ _ _ _ _ _ _ _ Zo (by rw [IntKind.wrap_i64];omega) Zo):p:=h
theorem ziK {p:Prop} (h:p:=by first|assumption|omega|exact ⟨by simp;omega,by simp⟩|(simp;done)):p:=h
theorem zm9 {p:Prop} (h:p:=by first|assumption|omega|(simp;done)|(simp;omega)):p:=h
abbrev trBx (b:Nat) (nm tb:Str) (bf:Bool) (ev:Int) (off:List Str) (ea:Bool) (pc fo:List Str) (wh:List X) (n:Nat):List AV:=[sv nm,sv tb,bv bf,iv ev,ssl off,bv ea,ssl pc,ssl fo,.nl,.sl (zad wh),.own b n]
abbrev trBox (nm tb:Str) (bf:Bool) (ev:Int) (off:List Str) (ea:Bool) (pc fo:List Str) (wh:List X) (n:Nat):List AV:=trBx 5 nm tb bf ev off ea pc fo wh n
def trD (k1 k2:Bool) (nm tb:Str) (bf:Bool) (ev:Int) (off:List Str) (ea:Bool) (pc fo:List Str) (wh:List X) (n:Nat) (ra:Rk) (a:Ac):List AV:=match k1 with
 | false=>trBx 2 nm tb bf ev off ea pc fo wh n
 | true=>match k2 with
  | false=>[sv nm,sv tb,bv bf,iv ev,ssl off,bv ea,ssl pc,ssl fo,.sl [ra.cells],.sl (zad wh),.own 2 n]
  | true=>[sv nm,sv tb,bv bf,iv ev,ssl off,.bl false,ssl pc,ssl fo,.sl [ra.cells],.nl,.sl [a.cells]]
def zrV (nm tb:Str) (bf:Bool) (ev:Int) (off:List Str) (ea:Bool) (pc fo:List Str) (wh:List X) (n:Nat) (cs:List AV):Prop:=∃ (k1 k2:Bool) (ra:Rk) (a:Ac),cs=trD k1 k2 nm tb bf ev off ea pc fo wh n ra a/\ActQ a
theorem actAb:ActQ (Ac.mk 4 ⟨#[]⟩ [] [] [] [] ⟨#[]⟩):=act0 Zd
theorem certA (nm tb:Str) (bf:Bool) (ev:Int) (off:List Str) (ea:Bool) (pc fo:List Str) (wh:List X) (n:Nat):zrV nm tb bf ev off ea pc fo wh n (trBx 2 nm tb bf ev off ea pc fo wh n):=⟨false,false,⟨⟨#[]⟩,⟨#[]⟩,0,0⟩,_,rfl,actAb⟩
theorem certB (nm tb:Str) (bf:Bool) (ev:Int) (off:List Str) (ea:Bool) (pc fo:List Str) (wh:List X) (n:Nat) (a b:Str) (lo hi:Int):zrV nm tb bf ev off ea pc fo wh n [sv nm,sv tb,bv bf,iv ev,ssl off,bv ea,ssl pc,ssl fo,.sl [[sv a,sv b,iv lo,iv hi]],.sl (zad wh),.own 2 n]:=⟨true,false,⟨a,b,lo,hi⟩,_,rfl,actAb⟩
theorem certC (nm tb:Str) (bf:Bool) (ev:Int) (off:List Str) (ea:Bool) (pc fo:List Str) (wh:List X) (n:Nat) (a b tbn c:Str) (lo hi m:Int) (h1:-9223372036854775808 < lo/\lo<=9223372036854775807) (h2:-9223372036854775808 < hi/\hi<=9223372036854775807) (h3:-9223372036854775808 < m/\m<=9223372036854775807) :
  zrV nm tb bf ev off ea pc fo wh n [sv nm,sv tb,bv bf,iv ev,ssl off,.bl false,ssl pc,ssl fo,.sl [[sv a,sv b,iv lo,iv hi]],.nl,.sl [Ac.cells ⟨2,tbn,[],[],[⟨c,xBin 10 (xCol ⟨#[]⟩ c) (xNum m)⟩],[xBtw c lo hi],⟨#[]⟩⟩]] :=
 ⟨true,true,⟨a,b,lo,hi⟩,_,rfl,zr4 Zd (XOk.le (zf8 (n:=2) (zc9 _ _) (zde h3.1 h3.2)) Zo) (XOk.le (zxs (n:=2) (zc9 _ _) (zde h1.1 h1.2) (zde h2.1 h2.2)) Zo)⟩
theorem zqe (t:Tp) (nm tb:Str) (bf:Bool) (ev:Int) (off:List Str) (ea:Bool) (pc fo:List Str) (wh:List X) (acts:List Ac) (sh:Bool) :∃ (cs:List AV) (t':Tp),zrV nm tb bf ev off ea pc fo wh acts.length cs/\zab E0 S.BY [.p 0 0,.p 1 0] [.box t.cells,.box (trBx 2 nm tb bf ev off ea pc fo wh acts.length),.row Ty.Action (acts.map Ac.cells) sh] (.tup []) [.box t'.cells,.box cs,.row Ty.Action (acts.map Ac.cells) sh]:=by
 rcases (yD bf).symm with h1|h1
 ·obtain ⟨b2,t2,c2⟩:=(zah t 3 zfM)
  cases h3:!b2
  ·obtain ⟨a4,t4,q4,c4⟩:=(zae t2 2 zfM)
   obtain ⟨a5,t5,q5,c5⟩:=(zaQ t4)
   obtain ⟨a6,t6,q6,c6⟩:=(zae t5 12 zfM)
   obtain ⟨b7,t7,c7⟩:=(zah t6 2 zfM)
   let p_1:List St:=[sg h1,sl [0] c2,sb h3,sl [0] c4,se (zgK a4 zfM),sl [0] c5,sl [0] c6,si (e:=IntKind.i64.wrap (a5+(a6:Int))) rfl,sl [0] c7]
   rcases (yD b7).symm with h8|h8
   ·obtain ⟨a9,t9,q9,c9⟩:=(zae t7 3 zfM)
    exact ⟨[sv nm,sv tb,bv bf,iv ev,AV.sl (List.map (fun s=>[sv s]) off),AV.bl false,AV.sl (List.map (fun s=>[sv s]) pc),AV.sl (List.map (fun s=>[sv s]) fo),AV.sl [[sv Zsu,sv (nmAt a4),iv a5,iv (IntKind.i64.wrap (a5+(a6:Int)))]],AV.nl,AV.sl [[iv 2,sv Zsu,AV.sl [],AV.sl [],AV.sl [(sv (nmAt a4)::(xBin 10 (xCol Zs0 (nmAt a4)) (xNum (↑(1+a9):Int))).cells)],AV.sl [(xBtw (nmAt a4) a5 (IntKind.i64.wrap (a5+(a6:Int)))).cells],sv Zs0]]],t9,zpL,(by (try simp only [false_and]);exact wkE At.BY (p_1++[sb h8,sd [(17,[se (xs:=[[sv Zsu,sv (nmAt a4),iv a5,iv (IntKind.i64.wrap (a5+(a6:Int)))]]) (i:=0) (c:=[sv Zsu,sv (nmAt a4),iv a5,iv (IntKind.i64.wrap (a5+(a6:Int)))]) (n:=4) ⟨by decide,rfl,rfl⟩]),(3,[sc (zaM Zs0 (nmAt a4))]),(5,[sl [0] c9]),(6,[si (zap (t:=1+(a9:Int)) (n:=1+a9) Zo Zo)]),(7,[sc (zaZ ((↑(1+a9):Int)) zfM)]),(8,[sc (zaz 10 (xCol Zs0 (nmAt a4)) (xNum (↑(1+a9):Int)))]),(20,[sc (zed (nmAt a4) a5 (IntKind.i64.wrap (a5+(a6:Int))) zfM zfM)])]]) kr)⟩
   ·exact ⟨[sv nm,sv tb,bv bf,iv ev,AV.sl (List.map (fun s=>[sv s]) off),bv ea,AV.sl (List.map (fun s=>[sv s]) pc),AV.sl (List.map (fun s=>[sv s]) fo),AV.sl [[sv Zsu,sv (nmAt a4),iv a5,iv (IntKind.i64.wrap (a5+(a6:Int)))]],AV.sl (zad wh),AV.own 2 acts.length],t7,zpL,(by (try simp only [false_and]);exact wk At.BY (p_1++[sb h8]) kr)⟩
  ·exact ⟨[sv nm,sv tb,bv bf,iv ev,AV.sl (List.map (fun s=>[sv s]) off),bv ea,AV.sl (List.map (fun s=>[sv s]) pc),AV.sl (List.map (fun s=>[sv s]) fo),AV.nl,AV.sl (zad wh),AV.own 2 acts.length],t2,zpL,(by (try simp only [false_and]);exact wk At.BY [sg h1,sl [0] c2,sb h3] kr)⟩
 ·exact ⟨[sv nm,sv tb,bv bf,iv ev,AV.sl (List.map (fun s=>[sv s]) off),bv ea,AV.sl (List.map (fun s=>[sv s]) pc),AV.sl (List.map (fun s=>[sv s]) fo),AV.nl,AV.sl (zad wh),AV.own 2 acts.length],t,zpL,(by (try simp only [false_and]);exact wk At.BY [sb h1] kr)⟩
theorem zhz (t:Tp) (nm tb:Str) (bf:Bool) (ev:Int) (off:List Str) (ea:Bool) (pc fo:List Str) (wh:List X) (acts:List Ac) (sh:Bool):∃ (kka kkb:Bool) (ra:Rk) (a:Ac) (t':Tp),ActQ a/\zab E0 S.BY [.p 0 0,.p 1 0] [.box t.cells,.box (trBx 2 nm tb bf ev off ea pc fo wh acts.length),.row Ty.Action (acts.map Ac.cells) sh] (.tup []) [.box t'.cells,.box (trD kka kkb nm tb bf ev off ea pc fo wh acts.length ra a),.row Ty.Action (acts.map Ac.cells) sh]:=by
 obtain ⟨cs,t',⟨k1,k2,ra,a,rfl,h⟩,hc⟩:=zqe t nm tb bf ev off ea pc fo wh acts sh
 exact ⟨k1,k2,ra,a,t',h,hc⟩
abbrev trZero:List AV:=[sv ⟨#[]⟩,sv ⟨#[]⟩,.bl false,iv 0,.nl,.bl false,.nl,.nl,.nl,.nl,.nl]
noncomputable def L_ta (t0:Tp) (nm tb:Str) (bf:Bool) (ev:Int) (off:List Str) (ea:Bool) (pc fo:List Str) (wh:List X) (s:Sch) (p:Pl) (k:Nat) (u:Tp) (acts:List Ac) (sh:Bool):Cfg:=zai B.Ak 0 [(0,.p 0 0),(6,.p 1 0),(7,.p 2 0),(8,.p 3 0),(9,.p 4 0),(10,iv (k:Nat))] [.box u.cells,.box trZero,.box (trBox nm tb bf ev off ea pc fo wh acts.length),.box s.cells,.box p.cells,.row Ty.Action (acts.map Ac.cells) sh]
theorem zgj (t0:Tp) (nm tb:Str) (bf:Bool) (ev:Int) (off:List Str) (ea:Bool) (pc fo:List Str) (wh:List X) (s:Sch) (p:Pl) (hp:p.OkN 4) (hs:Few s.cols) (hpos:Pos (((s.cols.map Col.cells).length:Nat):Int)) (hsh:zac zan) (hnm:V.Good ⟨3,0,nm⟩) (k:Nat) (u:Tp) (acts:List Ac) (sh:Bool) (hi:k<=1000000000) (hI:acts.length+k<=3/\∀ a∈acts,ActQ a):∃ (u':Tp) (acts':List Ac) (sh':Bool),(acts'.length+0<=3/\∀ a∈acts',ActQ a)/\(decide ((0:Int) < ((0:Nat):Int))=false)/\∀ R,Good E0 B.Ak [.box t0.cells] (L_ta t0 nm tb bf ev off ea pc fo wh s p 0 u' acts' sh') R->Good E0 B.Ak [.box t0.cells] (L_ta t0 nm tb bf ev off ea pc fo wh s p k u acts sh) R:=by
 induction k generalizing u acts sh with
 | zero=>exact ⟨u,acts,sh,hI,by decide,fun R hg=>hg⟩
 | succ k ih =>
  have h0:decide ((0:Int) < (((k+1):Nat):Int))=true:=by first|(simp;done)|(simp;omega)
  have hw:IntKind.i64.wrap (((k+1:Nat):Int) - 1)=((k:Nat):Int):=zfj k Zo
  obtain ⟨r1,t1,q1,c1⟩:=(zms u (Tg.mk nm tb bf ev off ea pc fo [] wh acts) s p zm9 zm9 zm9 zm9 zm9)
  obtain ⟨uZ,actsZ,shZ,qZ,xZ,gZ⟩:=ih t1 (acts++[r1]) true Zo (by (refine ⟨by simp;omega,fun z hz=>?_⟩;simp only [yK,yF] at hz;rcases hz with hz|rfl;exact hI.2 z hz;assumption));exact ⟨uZ,actsZ,shZ,qZ,xZ,fun R hg=>zaa (wkl [sb h0,sd [(6,[skx (True/\(True/\True/\True/\True/\True/\True/\True/\True/\True/\True/\acts.length=(List.map Ac.cells acts).length/\True)/\(True/\True/\True)/\(True/\True/\True)/\True) [0] c1]),(8,[sqA (List.map Ac.cells acts) [[iv r1.kind,sv r1.table,AV.sl (List.map (fun r=>[AV.sl (zad r)]) r1.rows),AV.sl (zam r1.query),ZE r1.sets,AV.sl (zad r1.wh),sv r1.text]] acts.length 7 136])],si hw] [0,6,7,8,9,10] 6 kr (zas (show ([(0,AV.p 0 0),(6,AV.p 1 0),(7,AV.p 2 0),(8,AV.p 3 0),(9,AV.p 4 0),(10,iv (k:Int))]:TS)=[(0,AV.p 0 0),(6,AV.p 1 0),(7,AV.p 2 0),(8,AV.p 3 0),(9,AV.p 4 0),(10,iv (k:Int))] by first|rfl|(simp only [yAR,yT,yAD,yAO,yG,yAL,yAS];rfl)) (show ([Blk.box [AV.sl (List.map (fun n=>[iv n]) t1.l),iv (t1.pos:Int)],Blk.box [sv Zs0,sv Zs0,AV.bl false,iv 0,AV.nl,AV.bl false,AV.nl,AV.nl,AV.nl,AV.nl,AV.nl],Blk.box [sv nm,sv tb,bv bf,iv ev,AV.sl (List.map (fun s=>[sv s]) off),bv ea,AV.sl (List.map (fun s=>[sv s]) pc),AV.sl (List.map (fun s=>[sv s]) fo),AV.nl,AV.sl (zad wh),AV.own 5 (List.map Ac.cells acts++[[iv r1.kind,sv r1.table,AV.sl (List.map (fun r=>[AV.sl (zad r)]) r1.rows),AV.sl (zam r1.query),ZE r1.sets,AV.sl (zad r1.wh),sv r1.text]]).length],Blk.box s.cells,Blk.box [fsl p.frs,ZS p.tbs],Blk.row Ty.Action (List.map Ac.cells acts++[[iv r1.kind,sv r1.table,AV.sl (List.map (fun r=>[AV.sl (zad r)]) r1.rows),AV.sl (zam r1.query),ZE r1.sets,AV.sl (zad r1.wh),sv r1.text]]) true]:Heap)=[Blk.box t1.cells,Blk.box [sv Zs0,sv Zs0,AV.bl false,iv 0,AV.nl,AV.bl false,AV.nl,AV.nl,AV.nl,AV.nl,AV.nl],Blk.box [sv nm,sv tb,bv bf,iv ev,AV.sl (List.map (fun s=>[sv s]) off),bv ea,AV.sl (List.map (fun s=>[sv s]) pc),AV.sl (List.map (fun s=>[sv s]) fo),AV.nl,AV.sl (zad wh),AV.own 5 (acts++[r1]).length],Blk.box s.cells,Blk.box [fsl p.frs,ZS p.tbs],Blk.row Ty.Action (List.map Ac.cells (acts++[r1])) true] by first|rfl|(simp only [yAR,yT,yAD,yAO,yG,yAL,yAS];rfl)) (gZ R hg)))⟩
structure TrigQ (nm tb:Str) (pc fo:List Str) (r:Tg):Prop where
 gen:GenOk r
 name:r.name=nm
 table:r.table=tb
 prec:r.prec=pc
 foll:r.foll=fo
theorem trigQ {nm tb:Str} {bf:Bool} {ev:Int} {off:List Str} {ea:Bool} {pc fo:List Str} {rk:List Rk} {wh:List X} {acts:List Ac} (h1:Few off) (h2:Few pc) (h3:Few fo) (h4:Few rk) (h5:Few wh) (h6:∀ x∈wh,XOk 6 x) (h7:Few acts) (h8:∀ a∈acts,ActQ a):TrigQ nm tb pc fo (Tg.mk nm tb bf ev off ea pc fo rk wh acts) :=
 ⟨⟨⟨h1,h2,h3,h4,h5,h6,h7,fun a ha=>(h8 a ha).1⟩,fun a ha=>(h8 a ha).2⟩,rfl,rfl,rfl,rfl⟩
theorem few3 {α:Type} {l:List α} {p:Prop} (h:l.length+0<=3/\p):Few l:=by simp only [Few];omega
theorem zaq (t0:Tp) (nm tb:Str) (bf:Bool) (ev:Int) (off:List Str) (ea:Bool) (pc fo:List Str) (wh:List X) (s:Sch) (p:Pl) (k:Nat) (u:Tp) (hp:p.OkN 4) (hs:Few s.cols) (hpos:Pos (((s.cols.map Col.cells).length:Nat):Int)) (hsh:zac zan) (hnm:V.Good ⟨3,0,nm⟩) (hk:k<=3) (w1:Few off) (w2:Few pc) (w3:Few fo) (w4:Few wh) (w5:∀ x∈wh,XOk 6 x):∃ (r:Tg) (t':Tp),TrigQ nm tb pc fo r/\Good E0 B.Ak [.box t0.cells] (L_ta t0 nm tb bf ev off ea pc fo wh s p k u [] false) (Shut 1 fun rZ hZ=>rZ=(r.av)/\hZ=[.box t'.cells]):=by
  obtain ⟨u1,acts1,sh1,q1,q1_1,g1⟩:=zgj t0 nm tb bf ev off ea pc fo wh s p ziK ziK ziK ziK ziK k u ([]) false ziK ziK
  obtain ⟨kka2,kkb2,ra2,a2,t2,q2,c2⟩:=(zhz u1 nm tb bf ev off ea pc fo wh acts1 sh1)
  cases kka2
  ·let p_1:List St:=[sqx (True/\True/\True/\True/\True/\True/\True/\True/\True/\True/\acts1.length=(List.map Ac.cells acts1).length/\True),sb Zf,sl [0,2,5] c2]
   cases kkb2
   ·exact ⟨Tg.mk nm tb bf ev off ea pc fo [] wh acts1,t2,zpK,wkl [] [0,6,7,8,9,10] 6 kr (g1 _ (zaa (wkr p_1 kr)))⟩
   ·exact ⟨Tg.mk nm tb bf ev off ea pc fo [] wh acts1,t2,zpK,wkl [] [0,6,7,8,9,10] 6 kr (g1 _ (zaa (wkr p_1 kr)))⟩
  ·cases kkb2
   ·exact ⟨Tg.mk nm tb bf ev off ea pc fo [ra2] wh acts1,t2,zpK,wkl [] [0,6,7,8,9,10] 6 kr (g1 _ (zaa (wkrS (y:=AV.agg [sv nm,sv tb,bv bf,iv ev,AV.sl (List.map (fun s=>[sv s]) off),bv ea,AV.sl (List.map (fun s=>[sv s]) pc),AV.sl (List.map (fun s=>[sv s]) fo),AV.sl [[sv ra2.table,sv ra2.col,iv ra2.low,iv ra2.high]],AV.sl (zad wh),ZA acts1]) (H:=[Blk.box [AV.sl (List.map (fun n=>[iv n]) t2.l),iv (t2.pos:Int)]]) [sqx (True/\True/\True/\True/\True/\True/\True/\True/\True/\True/\acts1.length=(List.map Ac.cells acts1).length/\True),sb Zf,sl [0,2,5] c2] kr ⟨Zcv2,Zcv2⟩)))⟩
   ·exact ⟨Tg.mk nm tb bf ev off false pc fo [ra2] [] [a2],t2,zpK,wkl [] [0,6,7,8,9,10] 6 kr (g1 _ (zaa (wkrS (y:=AV.agg [sv nm,sv tb,bv bf,iv ev,AV.sl (List.map (fun s=>[sv s]) off),bv false,AV.sl (List.map (fun s=>[sv s]) pc),AV.sl (List.map (fun s=>[sv s]) fo),AV.sl [[sv ra2.table,sv ra2.col,iv ra2.low,iv ra2.high]],AV.sl [],AV.sl [[iv a2.kind,sv a2.table,AV.sl (List.map (fun r=>[AV.sl (zad r)]) a2.rows),AV.sl (zam a2.query),ZE a2.sets,AV.sl (zad a2.wh),sv a2.text]]]) (H:=[Blk.box [AV.sl (List.map (fun n=>[iv n]) t2.l),iv (t2.pos:Int)]]) [sb Zf,sl [0,2,5] c2] kr ⟨Zcv2,Zcv2⟩)))⟩
theorem zag {p:Prop} (h:p:=by first|assumption|omega|exact (zcB ‹_›).few|exact zvx ‹_›|exact Pl.OkN.less (Pl.OkN.less ‹_›)|exact all0|exact all1 (XOk.le (n:=4) ‹_› Zo)|(simp only [yG] at *;omega)|(simp [Few];done)):p:=h
theorem zcu {p:Prop} (h:p:=by first|exact trX ‹_› ‹_› no0 no0|exact trX ‹_› ‹_› (And.right ‹_›) no0|exact trX ‹_› ‹_› no0 (And.right ‹_›)):p:=h
structure TrX (name:Str) (l:List Tg) (r:Tg):Prop where
 gen:GenOk r
 name:r.name=name
 table:TabN r.table
 prec:∀ z∈r.prec,z∈l.map Tg.name
 foll:∀ z∈r.foll,z∈l.map Tg.name
theorem trX {nm tb:Str} {pc fo:List Str} {l:List Tg} {r:Tg} (h:TrigQ nm tb pc fo r) (ht:TabN tb) (h1:∀ z∈pc,z∈l.map Tg.name) (h2:∀ z∈fo,z∈l.map Tg.name):TrX nm l r :=
 ⟨h.gen,h.name,by rw [h.table];exact ht,by rw [h.prec];exact h1,by rw [h.foll];exact h2⟩
theorem no0 {l:List Tg}:∀ z∈([]:List Str),z∈l.map Tg.name:=fun _ h=>by cases h
theorem zlY (t:Tp) (name:Str) (l:List Tg) (hl:zac l) (hsh:zac zan) (hnm:V.Good ⟨3,0,name⟩):∃ (r:Tg) (t':Tp),TrX name l r/\zab E0 S.Ak [.p 0 0,sv name,.sl (l.map Tg.cells)] [.box t.cells] r.av [.box t'.cells]:=by
 obtain ⟨w1,t1,q1,c1⟩:=(zcH t)
 obtain ⟨a2,t2,q2,c2⟩:=(zae t1 3 zag)
 obtain ⟨b3,t3,c3⟩:=(zah t2 2 zag)
 obtain ⟨b4,t4,c4⟩:=(zah t3 4 zag)
 let p_1:List St:=[sl [0] c1,sl [0] c2,si (zap (t:=1+(a2:Int)) (n:=1+a2) Zo Zo),sl [0] c3,sl [0] c4,sc (zbx w1 zag)]
 cases h5:(↑(1+a2):Int)==2
 ·obtain ⟨a6,t6,q6,c6⟩:=(zae t4 3 zag)
  cases h7:(a6:Int)==0
  ·cases h8:(a6:Int)==1
   ·obtain ⟨p9,q9,c9⟩:=(zb6 (Tg.mk name w1 b4 (↑(1+a2):Int) [] b3 [] [] [] [] []) zag)
    obtain ⟨b10,t10,c10⟩:=(zah t6 3 zag)
    let p_2:List St:=p_1++[sb h5,sl [0] c6,sb h7,sb h8,sc c9,sl [0] c10]
    rcases (yD b10).symm with h11|h11
    ·obtain ⟨a12,t12,q12,c12⟩:=(zae t10 2 zag)
     obtain ⟨r13_0,r13_1,p13_0,g13⟩:=zaq t name w1 b4 ((↑(1+a2):Int)) ([]) b3 ([]) ([]) ([]) (zal w1) p9 (1+a12) t12 zag zag zag zag zag zag zag zag zag zag zag
     exact ⟨r13_0,r13_1,zcu,wkcN At.Ak (p_2++[sb h11,sl [0] c12,si (zap (t:=1+(a12:Int)) (n:=1+a12) Zo Zo)]) [0,6,7,8,9,10] 5 [(.nl 2 4,5),(.nl 2 6,5),(.nl 2 7,5),(.nl 2 9,5),(.ob 2 10 Ty.Action,6)] kr (g13)⟩
    ·obtain ⟨e14,t14,q14,c14⟩:=(zaA t10 p9 2 zag)
     obtain ⟨a15,t15,q15,c15⟩:=(zae t14 2 zag)
     obtain ⟨r16_0,r16_1,p16_0,g16⟩:=zaq t name w1 b4 ((↑(1+a2):Int)) ([]) b3 ([]) ([]) ([e14]) (zal w1) p9 (1+a15) t15 zag zag zag zag zag zag zag zag zag zag zag
     exact ⟨r16_0,r16_1,zcu,wkcN At.Ak (p_2++[sb h11,sl [0] c14,sl [0] c15,si (zap (t:=1+(a15:Int)) (n:=1+a15) Zo Zo)]) [0,6,7,8,9,10] 5 [(.nl 2 4,5),(.nl 2 6,5),(.nl 2 7,5),(.ob 2 10 Ty.Action,6)] kr (zas (show ([(0,AV.p 0 0),(6,AV.p 1 0),(7,AV.p 2 0),(8,AV.p 3 0),(9,AV.p 4 0),(10,iv (↑(1+a15):Int))]:TS)=[(0,AV.p 0 0),(6,AV.p 1 0),(7,AV.p 2 0),(8,AV.p 3 0),(9,AV.p 4 0),(10,iv (↑(1+a15):Int))] from Zcv2) (show ([Blk.box [AV.sl (List.map (fun n=>[iv n]) t15.l),iv (t15.pos:Int)],Blk.box [sv Zs0,sv Zs0,AV.bl false,iv 0,AV.nl,AV.bl false,AV.nl,AV.nl,AV.nl,AV.nl,AV.nl],Blk.box [sv name,sv w1,bv b4,iv (↑(1+a2):Int),AV.sl [],bv b3,AV.sl [],AV.sl [],AV.nl,AV.sl [e14.cells],AV.own 5 0],Blk.box (zal w1).cells,Blk.box [fsl p9.frs,ZS p9.tbs],Blk.row Ty.Action [] false]:Heap)=[Blk.box t15.cells,Blk.box [sv Zs0,sv Zs0,AV.bl false,iv 0,AV.nl,AV.bl false,AV.nl,AV.nl,AV.nl,AV.nl,AV.nl],Blk.box [sv name,sv w1,bv b4,iv (↑(1+a2):Int),AV.sl [],bv b3,AV.sl [],AV.sl [],AV.nl,AV.sl (zad [e14]),AV.own 5 0],Blk.box (zal w1).cells,Blk.box [fsl p9.frs,ZS p9.tbs],Blk.row Ty.Action [] false] from Zcv2) g16)⟩
   ·obtain ⟨r17,t17,q17,c17⟩:=(zcc t6 l zag)
    obtain ⟨p18,q18,c18⟩:=(zb6 (Tg.mk name w1 b4 (↑(1+a2):Int) [] b3 [] r17 [] [] []) zag)
    obtain ⟨b19,t19,c19⟩:=(zah t17 3 zag)
    let p_3:List St:=p_1++[sb h5,sl [0] c6,sb h7,sb h8,sl [0] c17,sc c18,sl [0] c19]
    rcases (yD b19).symm with h20|h20
    ·obtain ⟨a21,t21,q21,c21⟩:=(zae t19 2 zag)
     obtain ⟨r22_0,r22_1,p22_0,g22⟩:=zaq t name w1 b4 ((↑(1+a2):Int)) ([]) b3 ([]) r17 ([]) (zal w1) p18 (1+a21) t21 zag zag zag zag zag zag zag zag zag zag zag
     exact ⟨r22_0,r22_1,zcu,wkcN At.Ak (p_3++[sb h20,sl [0] c21,si (zap (t:=1+(a21:Int)) (n:=1+a21) Zo Zo)]) [0,6,7,8,9,10] 5 [(.nl 2 4,5),(.nl 2 6,5),(.nl 2 9,5),(.ob 2 10 Ty.Action,6)] kr (g22)⟩
    ·obtain ⟨e23,t23,q23,c23⟩:=(zaA t19 p18 2 zag)
     obtain ⟨a24,t24,q24,c24⟩:=(zae t23 2 zag)
     obtain ⟨r25_0,r25_1,p25_0,g25⟩:=zaq t name w1 b4 ((↑(1+a2):Int)) ([]) b3 ([]) r17 ([e23]) (zal w1) p18 (1+a24) t24 zag zag zag zag zag zag zag zag zag zag zag
     exact ⟨r25_0,r25_1,zcu,wkcN At.Ak (p_3++[sb h20,sl [0] c23,sl [0] c24,si (zap (t:=1+(a24:Int)) (n:=1+a24) Zo Zo)]) [0,6,7,8,9,10] 5 [(.nl 2 4,5),(.nl 2 6,5),(.ob 2 10 Ty.Action,6)] kr (zas (show ([(0,AV.p 0 0),(6,AV.p 1 0),(7,AV.p 2 0),(8,AV.p 3 0),(9,AV.p 4 0),(10,iv (↑(1+a24):Int))]:TS)=[(0,AV.p 0 0),(6,AV.p 1 0),(7,AV.p 2 0),(8,AV.p 3 0),(9,AV.p 4 0),(10,iv (↑(1+a24):Int))] from Zcv2) (show ([Blk.box [AV.sl (List.map (fun n=>[iv n]) t24.l),iv (t24.pos:Int)],Blk.box [sv Zs0,sv Zs0,AV.bl false,iv 0,AV.nl,AV.bl false,AV.nl,AV.nl,AV.nl,AV.nl,AV.nl],Blk.box [sv name,sv w1,bv b4,iv (↑(1+a2):Int),AV.sl [],bv b3,AV.sl [],AV.sl (List.map (fun s=>[sv s]) r17),AV.nl,AV.sl [e23.cells],AV.own 5 0],Blk.box (zal w1).cells,Blk.box [fsl p18.frs,ZS p18.tbs],Blk.row Ty.Action [] false]:Heap)=[Blk.box t24.cells,Blk.box [sv Zs0,sv Zs0,AV.bl false,iv 0,AV.nl,AV.bl false,AV.nl,AV.nl,AV.nl,AV.nl,AV.nl],Blk.box [sv name,sv w1,bv b4,iv (↑(1+a2):Int),AV.sl [],bv b3,AV.sl [],AV.sl (List.map (fun s=>[sv s]) r17),AV.nl,AV.sl (zad [e23]),AV.own 5 0],Blk.box (zal w1).cells,Blk.box [fsl p18.frs,ZS p18.tbs],Blk.row Ty.Action [] false] from Zcv2) g25)⟩
  ·obtain ⟨r26,t26,q26,c26⟩:=(zcc t6 l zag)
   obtain ⟨p27,q27,c27⟩:=(zb6 (Tg.mk name w1 b4 (↑(1+a2):Int) [] b3 r26 [] [] [] []) zag)
   obtain ⟨b28,t28,c28⟩:=(zah t26 3 zag)
   let p_4:List St:=p_1++[sb h5,sl [0] c6,sb h7,sl [0] c26,sc c27,sl [0] c28]
   rcases (yD b28).symm with h29|h29
   ·obtain ⟨a30,t30,q30,c30⟩:=(zae t28 2 zag)
    obtain ⟨r31_0,r31_1,p31_0,g31⟩:=zaq t name w1 b4 ((↑(1+a2):Int)) ([]) b3 r26 ([]) ([]) (zal w1) p27 (1+a30) t30 zag zag zag zag zag zag zag zag zag zag zag
    exact ⟨r31_0,r31_1,zcu,wkcN At.Ak (p_4++[sb h29,sl [0] c30,si (zap (t:=1+(a30:Int)) (n:=1+a30) Zo Zo)]) [0,6,7,8,9,10] 5 [(.nl 2 4,5),(.nl 2 7,5),(.nl 2 9,5),(.ob 2 10 Ty.Action,6)] kr (g31)⟩
   ·obtain ⟨e32,t32,q32,c32⟩:=(zaA t28 p27 2 zag)
    obtain ⟨a33,t33,q33,c33⟩:=(zae t32 2 zag)
    obtain ⟨r34_0,r34_1,p34_0,g34⟩:=zaq t name w1 b4 ((↑(1+a2):Int)) ([]) b3 r26 ([]) ([e32]) (zal w1) p27 (1+a33) t33 zag zag zag zag zag zag zag zag zag zag zag
    exact ⟨r34_0,r34_1,zcu,wkcN At.Ak (p_4++[sb h29,sl [0] c32,sl [0] c33,si (zap (t:=1+(a33:Int)) (n:=1+a33) Zo Zo)]) [0,6,7,8,9,10] 5 [(.nl 2 4,5),(.nl 2 7,5),(.ob 2 10 Ty.Action,6)] kr (zas (show ([(0,AV.p 0 0),(6,AV.p 1 0),(7,AV.p 2 0),(8,AV.p 3 0),(9,AV.p 4 0),(10,iv (↑(1+a33):Int))]:TS)=[(0,AV.p 0 0),(6,AV.p 1 0),(7,AV.p 2 0),(8,AV.p 3 0),(9,AV.p 4 0),(10,iv (↑(1+a33):Int))] from Zcv2) (show ([Blk.box [AV.sl (List.map (fun n=>[iv n]) t33.l),iv (t33.pos:Int)],Blk.box [sv Zs0,sv Zs0,AV.bl false,iv 0,AV.nl,AV.bl false,AV.nl,AV.nl,AV.nl,AV.nl,AV.nl],Blk.box [sv name,sv w1,bv b4,iv (↑(1+a2):Int),AV.sl [],bv b3,AV.sl (List.map (fun s=>[sv s]) r26),AV.sl [],AV.nl,AV.sl [e32.cells],AV.own 5 0],Blk.box (zal w1).cells,Blk.box [fsl p27.frs,ZS p27.tbs],Blk.row Ty.Action [] false]:Heap)=[Blk.box t33.cells,Blk.box [sv Zs0,sv Zs0,AV.bl false,iv 0,AV.nl,AV.bl false,AV.nl,AV.nl,AV.nl,AV.nl,AV.nl],Blk.box [sv name,sv w1,bv b4,iv (↑(1+a2):Int),AV.sl [],bv b3,AV.sl (List.map (fun s=>[sv s]) r26),AV.sl [],AV.nl,AV.sl (zad [e32]),AV.own 5 0],Blk.box (zal w1).cells,Blk.box [fsl p27.frs,ZS p27.tbs],Blk.row Ty.Action [] false] from Zcv2) g34)⟩
 ·obtain ⟨b35,t35,c35⟩:=(zah t4 2 zag)
  rcases (yD b35).symm with h36|h36
  ·obtain ⟨a37,t37,q37,c37⟩:=(zae t35 3 zag)
   let p_5:List St:=p_1++[sg h5,sl [0] c35,sb h36,sl [0] c37]
   cases h38:(a37:Int)==0
   ·cases h39:(a37:Int)==1
    ·obtain ⟨p40,q40,c40⟩:=(zb6 (Tg.mk name w1 b4 (↑(1+a2):Int) [] b3 [] [] [] [] []) zag)
     obtain ⟨b41,t41,c41⟩:=(zah t37 3 zag)
     rcases (yD b41).symm with h42|h42
     ·obtain ⟨a43,t43,q43,c43⟩:=(zae t41 2 zag)
      obtain ⟨r44_0,r44_1,p44_0,g44⟩:=zaq t name w1 b4 ((↑(1+a2):Int)) ([]) b3 ([]) ([]) ([]) (zal w1) p40 (1+a43) t43 zag zag zag zag zag zag zag zag zag zag zag
      exact ⟨r44_0,r44_1,zcu,wkcN At.Ak (p_5++[sb h38,sb h39,sc c40,sl [0] c41,sb h42,sl [0] c43,si (zap (t:=1+(a43:Int)) (n:=1+a43) Zo Zo)]) [0,6,7,8,9,10] 5 [(.nl 2 4,5),(.nl 2 6,5),(.nl 2 7,5),(.nl 2 9,5),(.ob 2 10 Ty.Action,6)] kr (g44)⟩
     ·obtain ⟨e45,t45,q45,c45⟩:=(zaA t41 p40 2 zag)
      obtain ⟨a46,t46,q46,c46⟩:=(zae t45 2 zag)
      obtain ⟨r47_0,r47_1,p47_0,g47⟩:=zaq t name w1 b4 ((↑(1+a2):Int)) ([]) b3 ([]) ([]) ([e45]) (zal w1) p40 (1+a46) t46 zag zag zag zag zag zag zag zag zag zag zag
      exact ⟨r47_0,r47_1,zcu,wkcN At.Ak (p_5++[sb h38,sb h39,sc c40,sl [0] c41,sb h42,sl [0] c45,sl [0] c46,si (zap (t:=1+(a46:Int)) (n:=1+a46) Zo Zo)]) [0,6,7,8,9,10] 5 [(.nl 2 4,5),(.nl 2 6,5),(.nl 2 7,5),(.ob 2 10 Ty.Action,6)] kr (zas (show ([(0,AV.p 0 0),(6,AV.p 1 0),(7,AV.p 2 0),(8,AV.p 3 0),(9,AV.p 4 0),(10,iv (↑(1+a46):Int))]:TS)=[(0,AV.p 0 0),(6,AV.p 1 0),(7,AV.p 2 0),(8,AV.p 3 0),(9,AV.p 4 0),(10,iv (↑(1+a46):Int))] from Zcv2) (show ([Blk.box [AV.sl (List.map (fun n=>[iv n]) t46.l),iv (t46.pos:Int)],Blk.box [sv Zs0,sv Zs0,AV.bl false,iv 0,AV.nl,AV.bl false,AV.nl,AV.nl,AV.nl,AV.nl,AV.nl],Blk.box [sv name,sv w1,bv b4,iv (↑(1+a2):Int),AV.sl [],bv b3,AV.sl [],AV.sl [],AV.nl,AV.sl [e45.cells],AV.own 5 0],Blk.box (zal w1).cells,Blk.box [fsl p40.frs,ZS p40.tbs],Blk.row Ty.Action [] false]:Heap)=[Blk.box t46.cells,Blk.box [sv Zs0,sv Zs0,AV.bl false,iv 0,AV.nl,AV.bl false,AV.nl,AV.nl,AV.nl,AV.nl,AV.nl],Blk.box [sv name,sv w1,bv b4,iv (↑(1+a2):Int),AV.sl [],bv b3,AV.sl [],AV.sl [],AV.nl,AV.sl (zad [e45]),AV.own 5 0],Blk.box (zal w1).cells,Blk.box [fsl p40.frs,ZS p40.tbs],Blk.row Ty.Action [] false] from Zcv2) g47)⟩
    ·obtain ⟨r48,t48,q48,c48⟩:=(zcc t37 l zag)
     obtain ⟨p49,q49,c49⟩:=(zb6 (Tg.mk name w1 b4 (↑(1+a2):Int) [] b3 [] r48 [] [] []) zag)
     obtain ⟨b50,t50,c50⟩:=(zah t48 3 zag)
     let p_6:List St:=p_5++[sb h38,sb h39,sl [0] c48,sc c49,sl [0] c50]
     rcases (yD b50).symm with h51|h51
     ·obtain ⟨a52,t52,q52,c52⟩:=(zae t50 2 zag)
      obtain ⟨r53_0,r53_1,p53_0,g53⟩:=zaq t name w1 b4 ((↑(1+a2):Int)) ([]) b3 ([]) r48 ([]) (zal w1) p49 (1+a52) t52 zag zag zag zag zag zag zag zag zag zag zag
      exact ⟨r53_0,r53_1,zcu,wkcN At.Ak (p_6++[sb h51,sl [0] c52,si (zap (t:=1+(a52:Int)) (n:=1+a52) Zo Zo)]) [0,6,7,8,9,10] 5 [(.nl 2 4,5),(.nl 2 6,5),(.nl 2 9,5),(.ob 2 10 Ty.Action,6)] kr (g53)⟩
     ·obtain ⟨e54,t54,q54,c54⟩:=(zaA t50 p49 2 zag)
      obtain ⟨a55,t55,q55,c55⟩:=(zae t54 2 zag)
      obtain ⟨r56_0,r56_1,p56_0,g56⟩:=zaq t name w1 b4 ((↑(1+a2):Int)) ([]) b3 ([]) r48 ([e54]) (zal w1) p49 (1+a55) t55 zag zag zag zag zag zag zag zag zag zag zag
      exact ⟨r56_0,r56_1,zcu,wkcN At.Ak (p_6++[sb h51,sl [0] c54,sl [0] c55,si (zap (t:=1+(a55:Int)) (n:=1+a55) Zo Zo)]) [0,6,7,8,9,10] 5 [(.nl 2 4,5),(.nl 2 6,5),(.ob 2 10 Ty.Action,6)] kr (zas (show ([(0,AV.p 0 0),(6,AV.p 1 0),(7,AV.p 2 0),(8,AV.p 3 0),(9,AV.p 4 0),(10,iv (↑(1+a55):Int))]:TS)=[(0,AV.p 0 0),(6,AV.p 1 0),(7,AV.p 2 0),(8,AV.p 3 0),(9,AV.p 4 0),(10,iv (↑(1+a55):Int))] from Zcv2) (show ([Blk.box [AV.sl (List.map (fun n=>[iv n]) t55.l),iv (t55.pos:Int)],Blk.box [sv Zs0,sv Zs0,AV.bl false,iv 0,AV.nl,AV.bl false,AV.nl,AV.nl,AV.nl,AV.nl,AV.nl],Blk.box [sv name,sv w1,bv b4,iv (↑(1+a2):Int),AV.sl [],bv b3,AV.sl [],AV.sl (List.map (fun s=>[sv s]) r48),AV.nl,AV.sl [e54.cells],AV.own 5 0],Blk.box (zal w1).cells,Blk.box [fsl p49.frs,ZS p49.tbs],Blk.row Ty.Action [] false]:Heap)=[Blk.box t55.cells,Blk.box [sv Zs0,sv Zs0,AV.bl false,iv 0,AV.nl,AV.bl false,AV.nl,AV.nl,AV.nl,AV.nl,AV.nl],Blk.box [sv name,sv w1,bv b4,iv (↑(1+a2):Int),AV.sl [],bv b3,AV.sl [],AV.sl (List.map (fun s=>[sv s]) r48),AV.nl,AV.sl (zad [e54]),AV.own 5 0],Blk.box (zal w1).cells,Blk.box [fsl p49.frs,ZS p49.tbs],Blk.row Ty.Action [] false] from Zcv2) g56)⟩
   ·obtain ⟨r57,t57,q57,c57⟩:=(zcc t37 l zag)
    obtain ⟨p58,q58,c58⟩:=(zb6 (Tg.mk name w1 b4 (↑(1+a2):Int) [] b3 r57 [] [] [] []) zag)
    obtain ⟨b59,t59,c59⟩:=(zah t57 3 zag)
    let p_7:List St:=p_5++[sb h38,sl [0] c57,sc c58,sl [0] c59]
    rcases (yD b59).symm with h60|h60
    ·obtain ⟨a61,t61,q61,c61⟩:=(zae t59 2 zag)
     obtain ⟨r62_0,r62_1,p62_0,g62⟩:=zaq t name w1 b4 ((↑(1+a2):Int)) ([]) b3 r57 ([]) ([]) (zal w1) p58 (1+a61) t61 zag zag zag zag zag zag zag zag zag zag zag
     exact ⟨r62_0,r62_1,zcu,wkcN At.Ak (p_7++[sb h60,sl [0] c61,si (zap (t:=1+(a61:Int)) (n:=1+a61) Zo Zo)]) [0,6,7,8,9,10] 5 [(.nl 2 4,5),(.nl 2 7,5),(.nl 2 9,5),(.ob 2 10 Ty.Action,6)] kr (g62)⟩
    ·obtain ⟨e63,t63,q63,c63⟩:=(zaA t59 p58 2 zag)
     obtain ⟨a64,t64,q64,c64⟩:=(zae t63 2 zag)
     obtain ⟨r65_0,r65_1,p65_0,g65⟩:=zaq t name w1 b4 ((↑(1+a2):Int)) ([]) b3 r57 ([]) ([e63]) (zal w1) p58 (1+a64) t64 zag zag zag zag zag zag zag zag zag zag zag
     exact ⟨r65_0,r65_1,zcu,wkcN At.Ak (p_7++[sb h60,sl [0] c63,sl [0] c64,si (zap (t:=1+(a64:Int)) (n:=1+a64) Zo Zo)]) [0,6,7,8,9,10] 5 [(.nl 2 4,5),(.nl 2 7,5),(.ob 2 10 Ty.Action,6)] kr (zas (show ([(0,AV.p 0 0),(6,AV.p 1 0),(7,AV.p 2 0),(8,AV.p 3 0),(9,AV.p 4 0),(10,iv (↑(1+a64):Int))]:TS)=[(0,AV.p 0 0),(6,AV.p 1 0),(7,AV.p 2 0),(8,AV.p 3 0),(9,AV.p 4 0),(10,iv (↑(1+a64):Int))] from Zcv2) (show ([Blk.box [AV.sl (List.map (fun n=>[iv n]) t64.l),iv (t64.pos:Int)],Blk.box [sv Zs0,sv Zs0,AV.bl false,iv 0,AV.nl,AV.bl false,AV.nl,AV.nl,AV.nl,AV.nl,AV.nl],Blk.box [sv name,sv w1,bv b4,iv (↑(1+a2):Int),AV.sl [],bv b3,AV.sl (List.map (fun s=>[sv s]) r57),AV.sl [],AV.nl,AV.sl [e63.cells],AV.own 5 0],Blk.box (zal w1).cells,Blk.box [fsl p58.frs,ZS p58.tbs],Blk.row Ty.Action [] false]:Heap)=[Blk.box t64.cells,Blk.box [sv Zs0,sv Zs0,AV.bl false,iv 0,AV.nl,AV.bl false,AV.nl,AV.nl,AV.nl,AV.nl,AV.nl],Blk.box [sv name,sv w1,bv b4,iv (↑(1+a2):Int),AV.sl [],bv b3,AV.sl (List.map (fun s=>[sv s]) r57),AV.sl [],AV.nl,AV.sl (zad [e63]),AV.own 5 0],Blk.box (zal w1).cells,Blk.box [fsl p58.frs,ZS p58.tbs],Blk.row Ty.Action [] false] from Zcv2) g65)⟩
  ·obtain ⟨a66,t66,q66,c66⟩:=(zae t35 ((↑(List.map Col.cells (zal w1).cols).length:Int)) zag)
   obtain ⟨x67,e67⟩:=zbc (l:=(zal w1).cols) (i:=a66) zag
   obtain ⟨a68,t68,q68,c68⟩:=(zae t66 3 zag)
   let p_8:List St:=p_1++[sg h5,sl [0] c35,sb h36,sd [(6,[sl [0] c66]),(7,[se (zaf Col.cells e67 rfl)])],sl [0] c68]
   cases h69:(a68:Int)==0
   ·cases h70:(a68:Int)==1
    ·obtain ⟨p71,q71,c71⟩:=(zb6 (Tg.mk name w1 b4 (↑(1+a2):Int) [x67.name] b3 [] [] [] [] []) zag)
     obtain ⟨b72,t72,c72⟩:=(zah t68 3 zag)
     rcases (yD b72).symm with h73|h73
     ·obtain ⟨a74,t74,q74,c74⟩:=(zae t72 2 zag)
      obtain ⟨r75_0,r75_1,p75_0,g75⟩:=zaq t name w1 b4 ((↑(1+a2):Int)) ([x67.name]) b3 ([]) ([]) ([]) (zal w1) p71 (1+a74) t74 zag zag zag zag zag zag zag zag zag zag zag
      exact ⟨r75_0,r75_1,zcu,wkcN At.Ak (p_8++[sb h69,sb h70,sc c71,sl [0] c72,sb h73,sl [0] c74,si (zap (t:=1+(a74:Int)) (n:=1+a74) Zo Zo)]) [0,6,7,8,9,10] 5 [(.nl 2 6,5),(.nl 2 7,5),(.nl 2 9,5),(.ob 2 10 Ty.Action,6)] kr (g75)⟩
     ·obtain ⟨e76,t76,q76,c76⟩:=(zaA t72 p71 2 zag)
      obtain ⟨a77,t77,q77,c77⟩:=(zae t76 2 zag)
      obtain ⟨r78_0,r78_1,p78_0,g78⟩:=zaq t name w1 b4 ((↑(1+a2):Int)) ([x67.name]) b3 ([]) ([]) ([e76]) (zal w1) p71 (1+a77) t77 zag zag zag zag zag zag zag zag zag zag zag
      exact ⟨r78_0,r78_1,zcu,wkcN At.Ak (p_8++[sb h69,sb h70,sc c71,sl [0] c72,sb h73,sl [0] c76,sl [0] c77,si (zap (t:=1+(a77:Int)) (n:=1+a77) Zo Zo)]) [0,6,7,8,9,10] 5 [(.nl 2 6,5),(.nl 2 7,5),(.ob 2 10 Ty.Action,6)] kr (zas (show ([(0,AV.p 0 0),(6,AV.p 1 0),(7,AV.p 2 0),(8,AV.p 3 0),(9,AV.p 4 0),(10,iv (↑(1+a77):Int))]:TS)=[(0,AV.p 0 0),(6,AV.p 1 0),(7,AV.p 2 0),(8,AV.p 3 0),(9,AV.p 4 0),(10,iv (↑(1+a77):Int))] from Zcv2) (show ([Blk.box [AV.sl (List.map (fun n=>[iv n]) t77.l),iv (t77.pos:Int)],Blk.box [sv Zs0,sv Zs0,AV.bl false,iv 0,AV.nl,AV.bl false,AV.nl,AV.nl,AV.nl,AV.nl,AV.nl],Blk.box [sv name,sv w1,bv b4,iv (↑(1+a2):Int),AV.sl [[sv x67.name]],bv b3,AV.sl [],AV.sl [],AV.nl,AV.sl [e76.cells],AV.own 5 0],Blk.box (zal w1).cells,Blk.box [fsl p71.frs,ZS p71.tbs],Blk.row Ty.Action [] false]:Heap)=[Blk.box t77.cells,Blk.box [sv Zs0,sv Zs0,AV.bl false,iv 0,AV.nl,AV.bl false,AV.nl,AV.nl,AV.nl,AV.nl,AV.nl],Blk.box [sv name,sv w1,bv b4,iv (↑(1+a2):Int),AV.sl [[sv x67.name]],bv b3,AV.sl [],AV.sl [],AV.nl,AV.sl (zad [e76]),AV.own 5 0],Blk.box (zal w1).cells,Blk.box [fsl p71.frs,ZS p71.tbs],Blk.row Ty.Action [] false] from Zcv2) g78)⟩
    ·obtain ⟨r79,t79,q79,c79⟩:=(zcc t68 l zag)
     obtain ⟨p80,q80,c80⟩:=(zb6 (Tg.mk name w1 b4 (↑(1+a2):Int) [x67.name] b3 [] r79 [] [] []) zag)
     obtain ⟨b81,t81,c81⟩:=(zah t79 3 zag)
     let p_9:List St:=p_8++[sb h69,sb h70,sl [0] c79,sc c80,sl [0] c81]
     rcases (yD b81).symm with h82|h82
     ·obtain ⟨a83,t83,q83,c83⟩:=(zae t81 2 zag)
      obtain ⟨r84_0,r84_1,p84_0,g84⟩:=zaq t name w1 b4 ((↑(1+a2):Int)) ([x67.name]) b3 ([]) r79 ([]) (zal w1) p80 (1+a83) t83 zag zag zag zag zag zag zag zag zag zag zag
      exact ⟨r84_0,r84_1,zcu,wkcN At.Ak (p_9++[sb h82,sl [0] c83,si (zap (t:=1+(a83:Int)) (n:=1+a83) Zo Zo)]) [0,6,7,8,9,10] 5 [(.nl 2 6,5),(.nl 2 9,5),(.ob 2 10 Ty.Action,6)] kr (g84)⟩
     ·obtain ⟨e85,t85,q85,c85⟩:=(zaA t81 p80 2 zag)
      obtain ⟨a86,t86,q86,c86⟩:=(zae t85 2 zag)
      obtain ⟨r87_0,r87_1,p87_0,g87⟩:=zaq t name w1 b4 ((↑(1+a2):Int)) ([x67.name]) b3 ([]) r79 ([e85]) (zal w1) p80 (1+a86) t86 zag zag zag zag zag zag zag zag zag zag zag
      exact ⟨r87_0,r87_1,zcu,wkcN At.Ak (p_9++[sb h82,sl [0] c85,sl [0] c86,si (zap (t:=1+(a86:Int)) (n:=1+a86) Zo Zo)]) [0,6,7,8,9,10] 5 [(.nl 2 6,5),(.ob 2 10 Ty.Action,6)] kr (zas (show ([(0,AV.p 0 0),(6,AV.p 1 0),(7,AV.p 2 0),(8,AV.p 3 0),(9,AV.p 4 0),(10,iv (↑(1+a86):Int))]:TS)=[(0,AV.p 0 0),(6,AV.p 1 0),(7,AV.p 2 0),(8,AV.p 3 0),(9,AV.p 4 0),(10,iv (↑(1+a86):Int))] from Zcv2) (show ([Blk.box [AV.sl (List.map (fun n=>[iv n]) t86.l),iv (t86.pos:Int)],Blk.box [sv Zs0,sv Zs0,AV.bl false,iv 0,AV.nl,AV.bl false,AV.nl,AV.nl,AV.nl,AV.nl,AV.nl],Blk.box [sv name,sv w1,bv b4,iv (↑(1+a2):Int),AV.sl [[sv x67.name]],bv b3,AV.sl [],AV.sl (List.map (fun s=>[sv s]) r79),AV.nl,AV.sl [e85.cells],AV.own 5 0],Blk.box (zal w1).cells,Blk.box [fsl p80.frs,ZS p80.tbs],Blk.row Ty.Action [] false]:Heap)=[Blk.box t86.cells,Blk.box [sv Zs0,sv Zs0,AV.bl false,iv 0,AV.nl,AV.bl false,AV.nl,AV.nl,AV.nl,AV.nl,AV.nl],Blk.box [sv name,sv w1,bv b4,iv (↑(1+a2):Int),AV.sl [[sv x67.name]],bv b3,AV.sl [],AV.sl (List.map (fun s=>[sv s]) r79),AV.nl,AV.sl (zad [e85]),AV.own 5 0],Blk.box (zal w1).cells,Blk.box [fsl p80.frs,ZS p80.tbs],Blk.row Ty.Action [] false] from Zcv2) g87)⟩
   ·obtain ⟨r88,t88,q88,c88⟩:=(zcc t68 l zag)
    obtain ⟨p89,q89,c89⟩:=(zb6 (Tg.mk name w1 b4 (↑(1+a2):Int) [x67.name] b3 r88 [] [] [] []) zag)
    obtain ⟨b90,t90,c90⟩:=(zah t88 3 zag)
    let p_10:List St:=p_8++[sb h69,sl [0] c88,sc c89,sl [0] c90]
    rcases (yD b90).symm with h91|h91
    ·obtain ⟨a92,t92,q92,c92⟩:=(zae t90 2 zag)
     obtain ⟨r93_0,r93_1,p93_0,g93⟩:=zaq t name w1 b4 ((↑(1+a2):Int)) ([x67.name]) b3 r88 ([]) ([]) (zal w1) p89 (1+a92) t92 zag zag zag zag zag zag zag zag zag zag zag
     exact ⟨r93_0,r93_1,zcu,wkcN At.Ak (p_10++[sb h91,sl [0] c92,si (zap (t:=1+(a92:Int)) (n:=1+a92) Zo Zo)]) [0,6,7,8,9,10] 5 [(.nl 2 7,5),(.nl 2 9,5),(.ob 2 10 Ty.Action,6)] kr (g93)⟩
    ·obtain ⟨e94,t94,q94,c94⟩:=(zaA t90 p89 2 zag)
     obtain ⟨a95,t95,q95,c95⟩:=(zae t94 2 zag)
     obtain ⟨r96_0,r96_1,p96_0,g96⟩:=zaq t name w1 b4 ((↑(1+a2):Int)) ([x67.name]) b3 r88 ([]) ([e94]) (zal w1) p89 (1+a95) t95 zag zag zag zag zag zag zag zag zag zag zag
     exact ⟨r96_0,r96_1,zcu,wkcN At.Ak (p_10++[sb h91,sl [0] c94,sl [0] c95,si (zap (t:=1+(a95:Int)) (n:=1+a95) Zo Zo)]) [0,6,7,8,9,10] 5 [(.nl 2 7,5),(.ob 2 10 Ty.Action,6)] kr (zas (show ([(0,AV.p 0 0),(6,AV.p 1 0),(7,AV.p 2 0),(8,AV.p 3 0),(9,AV.p 4 0),(10,iv (↑(1+a95):Int))]:TS)=[(0,AV.p 0 0),(6,AV.p 1 0),(7,AV.p 2 0),(8,AV.p 3 0),(9,AV.p 4 0),(10,iv (↑(1+a95):Int))] from Zcv2) (show ([Blk.box [AV.sl (List.map (fun n=>[iv n]) t95.l),iv (t95.pos:Int)],Blk.box [sv Zs0,sv Zs0,AV.bl false,iv 0,AV.nl,AV.bl false,AV.nl,AV.nl,AV.nl,AV.nl,AV.nl],Blk.box [sv name,sv w1,bv b4,iv (↑(1+a2):Int),AV.sl [[sv x67.name]],bv b3,AV.sl (List.map (fun s=>[sv s]) r88),AV.sl [],AV.nl,AV.sl [e94.cells],AV.own 5 0],Blk.box (zal w1).cells,Blk.box [fsl p89.frs,ZS p89.tbs],Blk.row Ty.Action [] false]:Heap)=[Blk.box t95.cells,Blk.box [sv Zs0,sv Zs0,AV.bl false,iv 0,AV.nl,AV.bl false,AV.nl,AV.nl,AV.nl,AV.nl,AV.nl],Blk.box [sv name,sv w1,bv b4,iv (↑(1+a2):Int),AV.sl [[sv x67.name]],bv b3,AV.sl (List.map (fun s=>[sv s]) r88),AV.sl [],AV.nl,AV.sl (zad [e94]),AV.own 5 0],Blk.box (zal w1).cells,Blk.box [fsl p89.frs,ZS p89.tbs],Blk.row Ty.Action [] false] from Zcv2) g96)⟩
theorem zdh {p:Prop} (h:p:=by first|assumption|exact TrX.gen ‹_›|exact hI.2.2.1|exact TrX.nameMem ‹_› hll|exact (TrX.gen ‹_›).ok.prec|exact (TrX.gen ‹_›).ok.foll|exact (TrX.inN ‹_› hI.2.1).1|exact (TrX.inN ‹_› hI.2.1).2|omega):p:=h
theorem zna {p:Prop} (h:p:=by first|assumption|exact zzW|exact ⟨by simp;omega,⟨by simp,by simp⟩,lkNil _,zuf⟩|(rw [IntKind.wrap_i64];omega)|(simp only [Pos];omega)|omega):p:=h
theorem ztR {p:Prop} (h:p:=by first|exact ⟨by omega,hI.2⟩|exact ⟨by simp;omega,hI.2.1.push ‹_› hll,adGot ‹_› ‹_›⟩):p:=h
def ze7 (i:Nat):Str:=za8.getD i ⟨#[]⟩
theorem zyd (i:Nat) (h:(i:Int) < 8):ArrAt (za8.map sv) i 8 [sv (ze7 i)] 1:=by
 have:i=0\/i=1\/i=2\/i=3\/i=4\/i=5\/i=6\/i=7:=by omega
 rcases this with rfl|rfl|rfl|rfl|rfl|rfl|rfl|rfl <;> exact ⟨by decide,by decide,rfl,rfl⟩
theorem zxm {i:Nat} (h:i < 8):ze7 i∈za8:=by
 have:i=0\/i=1\/i=2\/i=3\/i=4\/i=5\/i=6\/i=7:=by omega
 rcases this with rfl|rfl|rfl|rfl|rfl|rfl|rfl|rfl <;> simp [ze7,za8]
theorem zu3 {i:Nat} (h:i < 8):V.Good ⟨3,0,ze7 i⟩:=by
 have:i=0\/i=1\/i=2\/i=3\/i=4\/i=5\/i=6\/i=7:=by omega
 rcases this with rfl|rfl|rfl|rfl|rfl|rfl|rfl|rfl <;> exact ⟨by kernel_rfl,by decide,by decide⟩
abbrev BareL (tb:List Tb):Prop:=tb.length=zan.length/\∀ x∈tb,Bare x
theorem zxL {tb:List Tb} (h:BareL tb):TbOk tb/\tb.length<=1000:=by
 have hl:tb.length=3:=h.1
 refine ⟨⟨by simp only [zac];omega,fun x hx=>(h.2 x hx).2,fun x hx=>by rw [(h.2 x hx).1];simp,fun x hx r hr=>by rw [(h.2 x hx).1] at hr;cases hr⟩,by omega⟩
theorem zrS (t:Tg) (tb:List Tb) (h:GenOk t) (ht:BareL tb):∃ (e:Int),zab E0 S.AG [t.av,tsl tb] [] (iv e) [] :=
 zAn h.ok h.set (zxL ht).1 (zxL ht).2 Zd
theorem zu7 (l:List Lk) (n:Str) (ps fs:List Str) (h:LkN za8 l) (hn:n∈za8) (hp:Few ps) (hf:Few fs) (hps:∀ s∈ps,s∈za8) (hfs:∀ s∈fs,s∈za8):∃ (r:List Lk) (e:Int),(LkN za8 r/\(e=0->VldL r))/\zab E0 S.B5 [lsl l,sv n,ssl ps,ssl fs] [] (.tup [lsl r,iv e]) [] :=
 zuu l n ps fs za8 Zd h (h.short Zd) hn (zaE hp) (zaE hf) hps hfs
structure TrsI (l:List Tg):Prop where
 gen:∀ x∈l,GenOk x
 names:∀ x∈l,x.name∈za8
theorem TrX.nameMem {l:List Tg} {r:Tg} (h:TrX (ze7 l.length) l r) (hl:l.length < 8):r.name∈za8:=by rw [h.name];exact zxm hl
theorem TrX.inN {nm:Str} {l:List Tg} {r:Tg} (h:TrX nm l r) (hl:TrsI l):(∀ s∈r.prec,s∈za8)/\∀ s∈r.foll,s∈za8:=by
 refine ⟨fun s hs=>?_,fun s hs=>?_⟩
 ·obtain ⟨x,hx,rfl⟩:=yAT.1 (h.prec s hs)
  exact hl.names x hx
 ·obtain ⟨x,hx,rfl⟩:=yAT.1 (h.foll s hs)
  exact hl.names x hx
theorem TrsI.push {l:List Tg} {r:Tg} (h:TrsI l) (hr:TrX (ze7 l.length) l r) (hl:l.length < 8):TrsI (l++[r]) :=
 ⟨fun x hx=>by
  simp only [yK,yF] at hx
  rcases hx with hx|rfl
  ·exact h.gen x hx
  ·exact hr.gen,fun x hx=>by
  simp only [yK,yF] at hx
  rcases hx with hx|rfl
  ·exact h.names x hx
  ·exact hr.nameMem hl⟩
theorem adGot {l:List Lk} {e:Int} (h:LkN za8 l/\(e=0->VldL l)) (h2:(e==0)=true):LkN za8 l/\VldL l:=⟨h.1,h.2 (by simpa using h2)⟩
noncomputable def L_tg (t0:Tp) (k:Nat) (u:Tp) (l:List Tg) (o:List Lk) (sh:Bool):Cfg:=zai B.Bp 0 [(0,.p 0 0),(6,.own 1 l.length),(7,lsl o),(8,iv (k:Nat))] [.box u.cells,.row Ty.Trigger (l.map Tg.cells) sh]
theorem zf5 (t0:Tp) (hsh:zac zan) (hc:∀ s∈zan,zac s.cols) (k:Nat) (u:Tp) (l:List Tg) (o:List Lk) (sh:Bool) (hi:k<=1000000000) (hI:l.length+k<=8/\TrsI l/\LkN za8 o/\VldL o):∃ (u':Tp) (l':List Tg) (o':List Lk) (sh':Bool),(l'.length+0<=8/\TrsI l'/\LkN za8 o'/\VldL o')/\(decide ((0:Int) < ((0:Nat):Int))=false)/\∀ R,Good E0 B.Bp [.box t0.cells] (L_tg t0 0 u' l' o' sh') R->Good E0 B.Bp [.box t0.cells] (L_tg t0 k u l o sh) R:=by
 induction k generalizing u l o sh with
 | zero=>exact ⟨u,l,o,sh,hI,by decide,fun R hg=>hg⟩
 | succ k ih =>
  have h0:decide ((0:Int) < (((k+1):Nat):Int))=true:=by first|(simp;done)|(simp;omega)
  have hw:IntKind.i64.wrap (((k+1:Nat):Int) - 1)=((k:Nat):Int):=zfj k Zo
  have hll:l.length < 8:=by omega
  have hls:zac l:=by (simp only [zac];omega)
  have hgn:=zu3 hll
  obtain ⟨r1,t1,q1,c1⟩:=(zlY u (ze7 l.length) l zdh zdh zdh)
  obtain ⟨out2,q2,c2⟩:=(zoB zdh zdh)
  obtain ⟨e3,c3⟩:=(zrS r1 out2 zdh zdh)
  let p_1:List St:=[sb h0,sqx (l.length=(List.map Tg.cells l).length),sa (zyd l.length zdh),skx (True/\True/\l.length=(List.map Tg.cells l).length/\True) [0] c1,sd [(1,[sc c2]),(2,[sc c3])]]
  cases h4:e3 != 0
  ·obtain ⟨r5,e5,q5,c5⟩:=(zu7 o r1.name r1.prec r1.foll zdh zdh zdh zdh zdh zdh)
   cases h6:e5==0
   ·obtain ⟨uZ,lZ,oZ,shZ,qZ,xZ,gZ⟩:=ih t1 l o true Zo ztR;exact ⟨uZ,lZ,oZ,shZ,qZ,xZ,fun R hg=>zaa (wkl (p_1++[sb h4,sc c5,sb h6,si hw]) [0,6,7,8] 2 kr (gZ R hg))⟩
   ·obtain ⟨uZ,lZ,oZ,shZ,qZ,xZ,gZ⟩:=ih t1 (l++[r1]) r5 true Zo ztR;exact ⟨uZ,lZ,oZ,shZ,qZ,xZ,fun R hg=>zaa (wkl (p_1++[sb h4,sc c5,sb h6,sqA (List.map Tg.cells l) [r1.cells] l.length 11 200,si hw]) [0,6,7,8] 2 kr (zaK 6 1 (List.map Tg.cells l++[r1.cells]) (gZ R hg) (he:=by first|rfl|(simp only [yAR,yT,yAD,yAO,yG,yAL,yAS] <;> rfl)) (hm:=by first|rfl|(simp only [yAR,yT,yAD,yAO,yG,yAL,yAS] <;> rfl))))⟩
  ·obtain ⟨uZ,lZ,oZ,shZ,qZ,xZ,gZ⟩:=ih t1 l o true Zo ztR;exact ⟨uZ,lZ,oZ,shZ,qZ,xZ,fun R hg=>zaa (wkl (p_1++[sb h4,si hw]) [0,6,7,8] 2 kr (gZ R hg))⟩
structure TrsQ (l:List Tg) (o:List Lk):Prop where
 len:l.length<=8
 trs:TrsI l
 ord:LkN za8 o
 vld:VldL o
theorem trsQ {l:List Tg} {o:List Lk} (h:l.length+0<=8/\TrsI l/\LkN za8 o/\VldL o):TrsQ l o:=⟨by have:=h.1;omega,h.2.1,h.2.2.1,h.2.2.2⟩
theorem zzW:∀ s∈zan,zac s.cols:=fun s hs=>zaE (zep hs).few
theorem zkm (t:Tp) (n:Int) (hn:0<=n/\n<=8) (hsh:zac zan) (hw:IntKind.i64.wrap (n+1)=n+1):∃ (l:List Tg) (o:List Lk) (t':Tp),TrsQ l o/\zab E0 S.Bp [.p 0 0,iv n] [.box t.cells] (.tup [.sl (l.map Tg.cells),lsl o]) [.box t'.cells]:=by
 obtain ⟨a1,t1,q1,c1⟩:=(zae t (n+1) zna)
 obtain ⟨u2,l2,o2,sh2,q2,q2_1,g2⟩:=zf5 t zna zna a1 t1 ([]) ([]) false zna zna
 exact ⟨l2,o2,u2,(by exact trsQ ‹_›),wkcN At.Bp [si hw,sl [0] c1,sqx True] [0,6,7,8] 1 [(.fz 7,1),(.ot 6 Ty.Trigger,2)] kr (g2 _ (zaa (wkr [sqx (l2.length=(List.map Tg.cells l2).length/\True/\True),sb Zf] kr)))⟩
theorem zli (t:Tp) (n:Int) (hn:0<=n/\n<=8):∃ (l:List Tg) (o:List Lk) (t':Tp),TrsQ l o/\zab E0 S.Bp [.p 0 0,iv n] [.box t.cells] (.tup [.sl (l.map Tg.cells),lsl o]) [.box t'.cells] :=
 zkm t n hn zdc (by rw [IntKind.wrap_i64];omega)
theorem zcb {p:Prop} (h:p:=by first|assumption|omega|(simp;done)|(simp;omega)):p:=h
abbrev itL (n:Lk):AV × AV:=(n.av,bv true)
def eqL (a b:Lk):Bool:=a.fst==b.fst&&(a.snd==b.snd&&true)
theorem znx {a b:Lk}:eqL a b=true↔a=b:=by
 obtain ⟨k,t⟩:=a;obtain ⟨k',t'⟩:=b
 constructor
 ·intro h
  simp only [eqL,yR,Bool.and_true] at h
  rw [zoK h.1,zoK h.2]
 ·intro h;cases h;simp [eqL,zqd]
abbrev anyL (ks:List Lk) (n:Lk):Bool:=ks.any fun x=>eqL n x
theorem znC (n m:Lk):zcA n.av m.av (eqL n m):=⟨true,[.string n.fst,.string n.snd],[.string m.fst,.string m.snd],rfl,rfl,by simp [zbj,zdp,eqL]⟩
theorem zmW (a b:Str):KeyOK E0.P Ty.M_Link_bool (.agg [sv a,sv b]) :=
 zmU E0ok (kt:=Ty.Link) (et:=Ty.bool) (fs:=E0.P.fieldsOf Ty.Link) kr kr kr ze6 rfl rfl
theorem zib {ks:List Lk} {n:Lk}:anyL ks n=true↔n∈ks:=by
 simp only [anyL,List.any_eq_true,znx]
 constructor
 ·rintro ⟨x,hx,rfl⟩;exact hx
 ·intro h;exact ⟨n,h,rfl⟩
theorem zAa {ks:List Lk} {n:Lk} (h:anyL ks n=false):n ∉ ks:=fun hm=>by rw [zib.2 hm] at h;cases h
theorem zAy (ks:List Lk) (n:Lk) (h:anyL ks n=false):PutAt (ks.map itL) n.av (bv true) ((ks++[n]).map itL):=by
 refine .new (fun p hp=>?_) ?_
 ·obtain ⟨m,hm,rfl⟩:=yAT.1 hp
  have h1:=znC n m
  have h2:eqL n m=false:=by
   cases he:eqL n m
   ·rfl
   ·exact absurd (znx.1 he ▸ hm) (zAa h)
  rwa [h2] at h1
 ·rw [yAR];exact List.perm_append_comm
theorem lookL (ks:List Lk) (n:Lk):LookAt (ks.map itL) n.av (bif anyL ks n then some (bv true) else none) where
 all:=fun p hp=>by obtain ⟨m,hm,rfl⟩:=yAT.1 hp;exact ⟨_,znC n m⟩
 at_:=fun p hp h=>by
  obtain ⟨m,hm,rfl⟩:=yAT.1 hp
  have h1:eqL n m=true:=zcA.det (znC n m) h
  have:n∈ks:=znx.1 h1 ▸ hm
  rw [zib.2 this];rfl
 some_:=fun x hx=>by
  cases h:anyL ks n
  ·rw [h] at hx;cases hx
  ·have hm:=zib.1 h
   refine ⟨itL n,yAT.2 ⟨n,hm,rfl⟩,?_⟩
   have:=znC n n;rwa [znx.2 rfl] at this
theorem zzl (ks:List Lk) (a b:Str):LookV (ks.map itL) (.agg [sv a,sv b]) (.bl false) (bv (anyL ks ⟨a,b⟩)) :=
 ⟨_,lookL ks ⟨a,b⟩,by cases anyL ks ⟨a,b⟩ <;> first|exact .inr rfl|exact .inl rfl⟩
theorem zzB {l:List Lk} (hn:l.Nodup) {i:Nat} {x:Lk} (hx:l[i]?=some x):anyL (l.take i) x=false:=by
 cases h:anyL (l.take i) x
 ·rfl
 ·exact absurd (zib.1 h) (zkC hn hx)
theorem zoS (a b:Lk) :∃ (r:Int),r=orI [cmpS a.fst b.fst,cmpS a.snd b.snd]/\zab E0 S.Dk [a.av,b.av] [] (iv r) []:=by
 exact ⟨orI [cmpS a.fst b.fst,cmpS a.snd b.snd],Zr,(by (try simp only [zsl,Lk.cells]);exact wk At.Dk [sd [(4,[sc (zfy a.fst b.fst)]),(9,[sc (zfy a.snd b.snd)]),(11,[sc (zti ([cmpS a.fst b.fst,cmpS a.snd b.snd]) zcb)])]] kr)⟩
theorem zpa (a b:Lk):zab E0 S.Dk [a.av,b.av] [] (iv (orI [cmpS a.fst b.fst,cmpS a.snd b.snd])) []:=by
 obtain ⟨_,rfl,h⟩:=zoS a b
 exact h
theorem lk_put {l ks:List Lk} {i:Nat} {x:Lk} (hx:l[i]?=some x) (hI:ks=l.take i):ks++[x]=l.take (i+1):=by rw [yP,hx,hI];rfl
noncomputable def L_os (l:List Lk) (i:Nat) (ks:List Lk):Cfg:=zai B.CY 0 [(3,.mp 0),(7,lsl l),(8,iv ((l.map Lk.cells).length:Nat)),(9,iv (i:Nat))] [.mp (ks.map itL)]
theorem zlT (l:List Lk) (hl:zac l) (hn:l.Nodup) (i:Nat) (ks:List Lk) (hi:i<=(l).length) (hI:ks=l.take i):∃ (ks':List Lk),(ks'=l.take (l).length)/\(decide ((((l).length:Nat):Int) < (((l.map Lk.cells).length:Nat):Int))=false)/\∀ R,Good E0 B.CY [] (L_os l (l).length ks') R->Good E0 B.CY [] (L_os l i ks) R:=by
 have hk:=hi;revert i ks;refine zlp ((l).length) (fun i hlt ih ks hi hI _=>?_)
 obtain ⟨x,hx,h0,hw⟩:=zlq (l:=l) ((l.map Lk.cells).length) hlt
 have hf:anyL ks x=false:=(by rw [hI];exact zzB hn hx)
 exact Zih (ih (ks++[x]) Zo (by exact lk_put hx hI) Zo) fun R gY=>zaa (wkl [sb h0,se (zaf Lk.cells hx rfl),sx (.call [] .un [.mp (List.map itL (ks++[x]))]) (And.intro (zmW x.fst x.snd) (zAy ks x zcb)),si hw] [3,7,8,9] 1 kr gY)
theorem zus (l:List Lk) (hl:zac l) (hn:l.Nodup):∃ (r:List Lk),r=l/\zab E0 S.CY [lsl l] [] (.mp 0) [.mp (r.map itL)]:=by
 obtain ⟨ks1,q1,q1_1,g1⟩:=zlT l zcb zcb 0 ([]) zcb zcb
 exact ⟨ks1,(by (rw [yL] at *;assumption)),wkcK At.CY [] [3,7,8,9] 1 kr (g1 _ (zaa (wkrK [sb q1_1] kr)))⟩
theorem zuM (l:List Lk) (hl:zac l) (hn:l.Nodup):zab E0 S.CY [lsl l] [] (.mp 0) [.mp (l.map itL)]:=by
 obtain ⟨_,rfl,h⟩:=zus l hl hn
 exact h
theorem zAg {α:Type} {l:List α} {i:Nat} {x:α} (hx:l[i]?=some x) (h1:1<=i) (hl:i<=1000000000):0<=IntKind.i64.wrap (((i:Nat):Int) - 1)/\IntKind.i64.wrap (((i:Nat):Int) - 1) < ((l.length:Nat):Int):=by
 have:=(yB.1 hx).1
 rw [IntKind.wrap_i64];omega
theorem orI_lt {a b:Lk} (h:ltL a b=true):decide (0<=orI [cmpS a.fst b.fst,cmpS a.snd b.snd])=false:=by
 unfold ltL at h
 unfold orI
 cases h1:ltS a.fst b.fst
 ·rw [h1] at h
  cases h2:a.fst.toList==b.fst.toList
  ·rw [h2] at h;cases h
  ·rw [h2] at h
   simp only [cond_true,cond_false] at h
   have e:=strB h2
   rw [e] at h1
   simp [cmpS,orI,eqS,h,h1,e]
 ·simp [cmpS,h1]
theorem VaI.get {l:List Lk} (h:VldL l) {i:Nat} {x y:Lk} (hs:zac l) (hx:l[i]?=some x) (h1:1<=i) (hy:AtI l (IntKind.i64.wrap (((i:Nat):Int) - 1)) y):(bif x.fst.toList==x.snd.toList then true else bif decide (0 < (i:Int)) then decide (0<=orI [cmpS y.fst x.fst,cmpS y.snd x.snd]) else false)=false:=by
 have hi:=(yB.mp hx).1
 obtain ⟨j,rfl⟩:∃ j,i=j+1:=⟨i - 1,by omega⟩
 have e:IntKind.i64.wrap ((((j+1:Nat)):Int) - 1)=((j:Nat):Int):=by simp only [zac] at hs;rw [IntKind.wrap_i64];omega
 have h3:=hy.2
 rw [e,Int.toNat_natCast] at h3
 rw [h.irr x (by rw [yL];exact yC hx),orI_lt (h.asc j y x hi h3 hx)]
 simp
theorem VaI.tr {l:List Lk} (h:VldL l) {x y:Lk} (hx:x∈l) (hy:y∈l):(bif x.snd.toList==y.fst.toList then !anyL l ⟨x.fst,y.snd⟩ else false)=false:=by
 cases h1:x.snd.toList==y.fst.toList
 ·rfl
 ·have:=h.cls x (by rw [yL];exact hx) y (by rw [yL];exact hy) h1
  rw [zib.2 this];rfl
noncomputable def L_orI (l:List Lk) (io:Nat) (u:Lk) (i:Nat) :Cfg:=zai B.A1 1 [(0,lsl l),(3,.mp 0),(5,.p 1 0),(10,lsl l),(11,iv ((l.map Lk.cells).length:Nat)),(12,iv (io:Nat)),(36,lsl l),(37,iv ((l.map Lk.cells).length:Nat)),(38,iv (i:Nat))] [.mp (l.map itL),.box u.cells]
theorem zeB (l:List Lk) (io:Nat) (u:Lk) (hl:zac l) (hv:VldL l) (hu:u∈l) (i:Nat)  (hi:i<=(l).length) (hI:True):(True)/\(decide ((((l).length:Nat):Int) < (((l.map Lk.cells).length:Nat):Int))=false)/\∀ R,Good E0 B.A1 [] (L_orI l io u (l).length ) R->Good E0 B.A1 [] (L_orI l io u i ) R:=by
 have hk:=hi;revert i hI;refine zlp ((l).length) (fun i hlt ih hi hI _=>?_)
 obtain ⟨x,hx,h0,hw⟩:=zlq (l:=l) ((l.map Lk.cells).length) hlt
 have a1:=hv.tr hu (yC hx)
 cases h1:ByteArray.toList u.snd==ByteArray.toList x.fst
 ·obtain ⟨qZ,xZ,gZ⟩:=ih Zo (by first|trivial|assumption|(simp;done)|omega|(simp;omega)|(simp at *;omega)) Zo;exact ⟨qZ,xZ,fun R hg=>zaa (wkl [sb h0,se (zaf Lk.cells hx rfl),sb h1,si hw] [0,3,5,10,11,12,36,37,38] 2 kr (gZ R hg))⟩
 ·cases h2:!anyL l (Lk.mk u.fst x.snd)
  ·obtain ⟨qZ,xZ,gZ⟩:=ih Zo (by first|trivial|assumption|(simp;done)|omega|(simp;omega)|(simp at *;omega)) Zo;exact ⟨qZ,xZ,fun R hg=>zaa (wkl [sb h0,se (zaf Lk.cells hx rfl),sg h1,sx (.el [bv (anyL l (Lk.mk u.fst x.snd))]) (And.intro (zmW u.fst x.snd) (zzl l u.fst x.snd)),sb h2,si hw] [0,3,5,10,11,12,36,37,38] 2 kr (gZ R hg))⟩
  ·exact False.elim (by simp_all)
noncomputable def zrY (l:List Lk) (i:Nat) :Cfg:=zai B.A1 0 [(0,lsl l),(3,.mp 0),(10,lsl l),(11,iv ((l.map Lk.cells).length:Nat)),(12,iv (i:Nat))] [.mp (l.map itL)]
theorem zi3 (l:List Lk) (hl:zac l) (hv:VldL l) (i:Nat)  (hi:i<=(l).length) (hI:1<=i):(1<=(l).length)/\(decide ((((l).length:Nat):Int) < (((l.map Lk.cells).length:Nat):Int))=false)/\∀ R,Good E0 B.A1 [] (zrY l (l).length ) R->Good E0 B.A1 [] (zrY l i ) R:=by
 have hk:=hi;revert i;refine zlp ((l).length) (fun i hlt ih hi hI _=>?_)
 obtain ⟨x,hx,h0,hw⟩:=zlq (l:=l) ((l.map Lk.cells).length) hlt
 have hu:=yC hx;have a1:=hv.irr x (by rw [yL];exact hu);have a5:decide ((0:Int) < ((i:Nat):Int))=true:=Zp;have hil:=(yB.mp hx).1
 have a7:∀ y,AtI l (IntKind.i64.wrap (((i:Nat):Int) - 1)) y->(bif x.fst.toList==x.snd.toList then true else bif decide (0 < (i:Int)) then decide (0<=orI [cmpS y.fst x.fst,cmpS y.snd x.snd]) else false)=false:=fun y hy=>hv.get hl hx hI hy
 obtain ⟨x1,e1⟩:=zdN (l:=l) (i:=IntKind.i64.wrap ((i:Int) - (1:Int))) (by exact zAg hx hI (by simp only [zac] at hl;omega))
 obtain ⟨q2,q2_1,g2⟩:=zeB l i x zcb zcb zcb 0 zcb zcb
 obtain ⟨qZ,xZ,gZ⟩:=ih Zo Zo Zo;exact ⟨qZ,xZ,fun R hg=>zaa (wkl [sb h0,se (zaf Lk.cells hx rfl),sd [(6,[sg a1]),(7,[sg a1]),(8,[sg a1]),(9,[sg a5]),(10,[sg a5]),(11,[so a5 (si (e:=IntKind.i64.wrap ((i:Int) - 1)) rfl)]),(12,[so a5 (se (zbW Lk.cells e1 rfl))]),(13,[sg a5]),(14,[sg a5]),(15,[so a5 (sc (zpa x1 x))]),(16,[sg a5]),(17,[sg a1])],sb (a7 x1 e1)] [0,3,5,10,11,12,36,37,38] 2 kr (g2 _ (zaa (wkl [sb q2_1,si hw] [0,3,10,11,12] 1 kr (gZ R hg)))))⟩
theorem zi2 (l:List Lk) (hl:zac l) (hv:VldL l):decide (((l.length:Nat):Int) < (((l.map Lk.cells).length:Nat):Int))=false/\∀ R,Good E0 B.A1 [] (zrY l l.length) R->Good E0 B.A1 [] (zrY l 0) R:=by
 cases hrw:l with
 | nil=>exact ⟨by simp,fun R h=>h⟩
 | cons x r =>
  have hx:l[0]?=some x:=by rw [hrw];rfl
  obtain ⟨_,h1,h2⟩:=zi3 l hl hv 1 (by rw [hrw];simp) (yJ 1)
  rw [← hrw]
  refine ⟨h1,fun R h=>?_⟩
  have hg:=h2 R h
  have h0:decide (((0:Nat):Int) < (((l.map Lk.cells).length:Nat):Int))=true:=by rw [hrw];simp
  have hu:=yC hx
  have a1:=hv.irr x (by rw [yL];exact hu)
  have a2:(bif x.fst.toList==x.snd.toList then true else false)=false:=by rw [a1];rfl
  refine zaa ?_
  obtain ⟨q1,q1_1,g1⟩:=zeB l 0 x zcb zcb zcb 0 zcb zcb
  exact wkl [sb h0,se (zaf Lk.cells hx rfl),sd [(6,[sg a1]),(7,[sg a1]),(8,[sg a1]),(9,[sb Zf]),(10,[sb Zf]),(11,[sb Zf]),(12,[sb Zf]),(13,[sb Zf]),(14,[sb Zf]),(15,[sb Zf]),(16,[sb Zf]),(17,[so a1 (sb Zf)])],sb a2] [0,3,5,10,11,12,36,37,38] 2 kr (g1 _ (zaa (wkl [sb q1_1,si (zap (t:=(↑0:Int)+1) (n:=0+1) Zo Zo)] [0,3,10,11,12] 1 kr hg)))
theorem zrs (l:List Lk) (hl:zac l) (hn:l.Nodup) (hv:VldL l):∃ (r:Bool),r=true/\zab E0 S.A1 [lsl l] [] (bv r) []:=by
 obtain ⟨q1,g1⟩:=zi2 l zcb zcb
 exact ⟨true,Zr,wkc At.A1 [sc (zuM l zcb zcb)] [0,3,10,11,12] 1 kr (g1 _ (zaa (wkr [sb q1] kr)))⟩
theorem zl0 (l:List Lk) (hl:zac l) (hn:l.Nodup) (hv:VldL l):zab E0 S.A1 [lsl l] [] (bv true) []:=by
 obtain ⟨_,rfl,h⟩:=zrs l hl hn hv
 exact h
theorem znM {p:Prop} (h:p:=by first|assumption|omega|(simp;done)|(simp;omega)):p:=h
noncomputable def L_prA (m0:List Tb) (ts:List Tg) (ds:List Dl) (a b:Itm) (n:Int):Cfg:=zai B.Aj 1 [(0,tsl m0),(2,.sl (ts.map Tg.cells)),(12,.p 0 0),(14,.p 1 0),(15,.sl (ds.map Dl.cells)),(17,.own 3 2)] [.box [.nl,iv 0,iv 0,.nl,.nl],.box [tsl m0,iv 0,iv (0+1:Nat),.nl,.own 2 0,.sl (ts.map Tg.cells),.sl [],iv n],.row Ty.int [] false,.row Ty.Item [a.cells,b.cells] false]
theorem zd2 (m0:List Tb) (ts:List Tg) (ds:List Dl) (a b:Itm) (n:Int):True/\∀ R,Good E0 B.Aj [] (L_prA m0 ts ds a b n) R->Good E0 B.Aj [] (L_prA m0 ts ds a b n) R:=⟨trivial,fun _ h=>h⟩
noncomputable def L_prB (m0 m:List Tb) (ts:List Tg) (ds:List Dl) (a b:Itm) (n f:Int) (hi:Nat):Cfg:=zai B.Aj 1 [(0,tsl m0),(2,.sl (ts.map Tg.cells)),(12,.p 0 0),(14,.p 1 0),(15,.sl (ds.map Dl.cells)),(17,.os 3 2 0 hi)] [.box [.nl,iv 0,iv 0,.nl,.nl],.box [tsl m,iv f,iv (0+1:Nat),.own 4 1,.sl [],.sl (ts.map Tg.cells),.sl [],iv n],.row Ty.int [] true,.row Ty.Item [a.cells,b.cells] false,.row Ty.int [[iv 2]] false]
theorem zb5 (m0 m:List Tb) (ts:List Tg) (ds:List Dl) (a b:Itm) (n f:Int) (hi:Nat):True/\∀ R,Good E0 B.Aj [] (L_prB m0 m ts ds a b n f hi) R->Good E0 B.Aj [] (L_prB m0 m ts ds a b n f hi) R:=⟨trivial,fun _ h=>h⟩
noncomputable def L_prC (l m:List Tb) (ts:List Tg) (a b:Itm) (n f:Int):Cfg:=zai B.Aj 0 [(0,tsl l),(2,.sl (ts.map Tg.cells)),(12,.p 0 0),(14,.p 1 0)] [.box [.nl,iv 0,iv 0,.nl,.nl],.box [tsl m,iv f,iv (0+1:Nat),.own 4 1,.sl [],.sl (ts.map Tg.cells),.sl [],iv n],.row Ty.int [] true,.row Ty.Item [a.cells,b.cells] false,.row Ty.int [[iv 2]] false]
theorem zd3 (l m:List Tb) (ts:List Tg) (a b:Itm) (n f:Int):True/\∀ R,Good E0 B.Aj [] (L_prC l m ts a b n f) R->Good E0 B.Aj [] (L_prC l m ts a b n f) R:=⟨trivial,fun _ h=>h⟩
noncomputable def L_prE (l m:List Tb) (ts:List Tg) (ds:List Dl) (a b c:Itm) (n:Int):Cfg:=zai B.Aj 1 [(0,tsl l),(2,.sl (ts.map Tg.cells)),(12,.p 0 0),(14,.p 1 0),(15,.sl (ds.map Dl.cells)),(17,.os 5 1 0 0)] [.box [.nl,iv 0,iv 0,.nl,.nl],.box [tsl m,iv 3,iv (0+1+1:Nat),.own 4 1,.sl [],.sl (ts.map Tg.cells),.sl [],iv n],.row Ty.int [] true,.row Ty.Item [a.cells,b.cells] false,.row Ty.int [[iv 2]] false,.row Ty.Item [c.cells] false]
theorem zhx (l m:List Tb) (ts:List Tg) (ds:List Dl) (a b c:Itm) (n:Int):True/\∀ R,Good E0 B.Aj [] (L_prE l m ts ds a b c n) R->Good E0 B.Aj [] (L_prE l m ts ds a b c n) R:=⟨trivial,fun _ h=>h⟩
noncomputable def L_prD (l m:List Tb) (ts:List Tg) (ds:List Dl) (a b c:Itm) (n f:Int):Cfg:=zai B.Aj 1 [(0,tsl l),(2,.sl (ts.map Tg.cells)),(12,.p 0 0),(14,.p 1 0),(15,.sl (ds.map Dl.cells)),(17,.own 5 1)] [.box [.nl,iv 0,iv 0,.nl,.nl],.box [tsl m,iv f,iv (0+1+1:Nat),.own 4 1,.sl [],.sl (ts.map Tg.cells),.sl [],iv n],.row Ty.int [] true,.row Ty.Item [a.cells,b.cells] false,.row Ty.int [[iv 2]] false,.row Ty.Item [c.cells] false]
theorem zd4 (l m:List Tb) (ts:List Tg) (ds:List Dl) (a b c:Itm) (n f:Int):True/\∀ R,Good E0 B.Aj [] (L_prD l m ts ds a b c n f) R->Good E0 B.Aj [] (L_prD l m ts ds a b c n f) R:=⟨trivial,fun _ h=>h⟩
noncomputable def L_prF (l m:List Tb) (ts:List Tg) (a b c:Itm) (n f:Int):Cfg:=zai B.Aj 0 [(0,tsl l),(2,.sl (ts.map Tg.cells)),(12,.p 0 0),(14,.p 1 0)] [.box [.nl,iv 0,iv 0,.nl,.nl],.box [tsl m,iv f,iv (0+1+1:Nat),.own 4 1,.sl [],.sl (ts.map Tg.cells),.sl [],iv n],.row Ty.int [] true,.row Ty.Item [a.cells,b.cells] false,.row Ty.int [[iv 2]] false,.row Ty.Item [c.cells] false]
theorem zhy (l m:List Tb) (ts:List Tg) (a b c:Itm) (n f:Int):True/\∀ R,Good E0 B.Aj [] (L_prF l m ts a b c n f) R->Good E0 B.Aj [] (L_prF l m ts a b c n f) R:=⟨trivial,fun _ h=>h⟩
theorem c_rpK (l m0 m1 m2 m3:List Tb) (ts:List Tg) (d1 d2 d3:List Dl) (a b c:Itm) (n:Int) (hV:zab E0 S.A1 [.sl []] [] (bv true) []) (hn0:decide (n < 0)=false) (hD:zab E0 S.Ce [tsl m0] [] (tsl m0) []) (sA:zab E0 S.AS [tsl l,tsl m0] [] (.tup [.sl (d1.map Dl.cells),bv true]) []) (iA:zab E0 S.At [.sl (ts.map Tg.cells),tsl m0,.sl (d1.map Dl.cells)] [] (.own 0 2) [.row Ty.Item [a.cells,b.cells] false]) (pA:∀ r:Int,zab E0 S.Aw [.p 0 0,.own 2 2,.sl (d1.map Dl.cells)] [.box [tsl m0,iv 0,iv r,.nl,.own 1 0,.sl (ts.map Tg.cells),.sl [],iv n],.row Ty.int [] false,.row Ty.Item [a.cells,b.cells] false] (.tup [.os 2 2 0 1,iv 0]) [.box [tsl m1,iv 1,iv r,.own 3 1,.sl [],.sl (ts.map Tg.cells),.sl [],iv n],.row Ty.int [] true,.row Ty.Item [b.cells,itZ.cells] false,.row Ty.int [[iv 2]] false]) (pB:∀ r:Int,zab E0 S.Aw [.p 0 0,.os 2 2 0 1,.sl (d1.map Dl.cells)] [.box [tsl m1,iv 1,iv r,.own 1 1,.sl [],.sl (ts.map Tg.cells),.sl [],iv n],.row Ty.int [[iv 2]] false,.row Ty.Item [b.cells,itZ.cells] false] (.tup [.os 2 2 0 0,iv 0]) [.box [tsl m2,iv 2,iv r,.own 1 1,.sl [],.sl (ts.map Tg.cells),.sl [],iv n],.row Ty.int [[iv 2]] false,.row Ty.Item [itZ.cells,itZ.cells] false]) (sB:zab E0 S.AS [tsl m0,tsl m2] [] (.tup [.sl (d2.map Dl.cells),bv true]) []) (iB:zab E0 S.At [.sl (ts.map Tg.cells),tsl m2,.sl (d2.map Dl.cells)] [] (.own 0 1) [.row Ty.Item [c.cells] false]) (pC:∀ r:Int,zab E0 S.Aw [.p 0 0,.own 2 1,.sl (d2.map Dl.cells)] [.box [tsl m2,iv 2,iv r,.own 1 1,.sl [],.sl (ts.map Tg.cells),.sl [],iv n],.row Ty.int [[iv 2]] false,.row Ty.Item [c.cells] false] (.tup [.os 2 1 0 0,iv 0]) [.box [tsl m3,iv 3,iv r,.own 1 1,.sl [],.sl (ts.map Tg.cells),.sl [],iv n],.row Ty.int [[iv 2]] false,.row Ty.Item [itZ.cells] false]) (sC:zab E0 S.AS [tsl m2,tsl m3] [] (.tup [.sl (d3.map Dl.cells),bv true]) []) (iC:zab E0 S.At [.sl (ts.map Tg.cells),tsl m3,.sl (d3.map Dl.cells)] [] (.sl []) []):∃ (e:Int),e=0/\zab E0 S.Aj [tsl l,tsl m0,.sl (ts.map Tg.cells),.sl [],.sl [],iv n] [] (.tup [.agg [tsl m3,iv 3,iv 2,isl [2],.sl []],iv e]) []:=by
 obtain ⟨q1,g1⟩:=zcS l m0 ts ([]) (n)
 obtain ⟨q2,g2⟩:=zd2 m0 ts d1 a b (n)
 obtain ⟨q3,g3⟩:=zb5 m0 m1 ts d1 b itZ n 1 (1)
 obtain ⟨q4,g4⟩:=zb5 m0 m2 ts d1 itZ itZ n 2 (0)
 obtain ⟨q5,g5⟩:=zd3 m0 m2 ts itZ itZ n (2)
 obtain ⟨q6,g6⟩:=zd4 m2 m2 ts d2 itZ itZ c n (2)
 obtain ⟨q7,g7⟩:=zhx m2 m3 ts d2 itZ itZ itZ (n)
 obtain ⟨q8,g8⟩:=zhy m2 m3 ts itZ itZ itZ n (3)
 exact ⟨0,Zr,wkc At.Aj [sc hV,sg Zf,sb hn0,sc hD,sc (za9 ([]) znM)] [0,2,12,14] 3 kr (g1 _ (zaa (wkl [sc sA,sb Zf,sc iA,sqx (2=2),sb Zf,si (zap (t:=0+1) (n:=0+1) Zo Zo)] [0,2,12,14,15,17] 4 kr (g2 _ (zaa (wkl [sqx (2=2),sb Zt,sl [1,2,3] (pA ((↑(0+1):Int))),sb Zf] [0,2,12,14,15,17] 5 kr (g3 _ (zaa (wkl [sqx (2=2),sb Zt,sl [1,4,3] (pB ((↑(0+1):Int))),sb Zf] [0,2,12,14,15,17] 5 kr (g4 _ (zaa (wkl [sqx (2=2),sb Zf] [0,2,12,14] 5 kr (g5 _ (zaa (wkl [sc sB,sb Zf,sc iB,sqx (1=1),sb Zf,si (zap (t:=(↑(0+1):Int)+1) (n:=0+1+1) Zo Zo)] [0,2,12,14,15,17] 6 kr (g6 _ (zaa (wkl [sqx (1=1),sb Zt,sl [1,4,5] (pC ((↑(0+1+1):Int))),sb Zf] [0,2,12,14,15,17] 6 kr (g7 _ (zaa (wkl [sqx (1=1),sb Zf] [0,2,12,14] 6 kr (g8 _ (zaa (wkr [sqx ((True/\True/\True/\1=1/\True/\True)/\True/\True),sc sC,sb Zf,sc iC,sb Zt] kr))))))))))))))))))))))))⟩
theorem c_rpB (l m0 m1 m2:List Tb) (ts:List Tg) (d1 d2:List Dl) (a b c:Itm) (n:Int) (hV:zab E0 S.A1 [.sl []] [] (bv true) []) (hn0:decide (n < 0)=false) (hD:zab E0 S.Ce [tsl m0] [] (tsl m0) []) (sA:zab E0 S.AS [tsl l,tsl m0] [] (.tup [.sl (d1.map Dl.cells),bv true]) []) (iA:zab E0 S.At [.sl (ts.map Tg.cells),tsl m0,.sl (d1.map Dl.cells)] [] (.own 0 2) [.row Ty.Item [a.cells,b.cells] false]) (pA:∀ r:Int,zab E0 S.Aw [.p 0 0,.own 2 2,.sl (d1.map Dl.cells)] [.box [tsl m0,iv 0,iv r,.nl,.own 1 0,.sl (ts.map Tg.cells),.sl [],iv n],.row Ty.int [] false,.row Ty.Item [a.cells,b.cells] false] (.tup [.os 2 2 0 1,iv 0]) [.box [tsl m1,iv 1,iv r,.own 3 1,.sl [],.sl (ts.map Tg.cells),.sl [],iv n],.row Ty.int [] true,.row Ty.Item [b.cells,itZ.cells] false,.row Ty.int [[iv 2]] false]) (pB:∀ r:Int,zab E0 S.Aw [.p 0 0,.os 2 2 0 1,.sl (d1.map Dl.cells)] [.box [tsl m1,iv 1,iv r,.own 1 1,.sl [],.sl (ts.map Tg.cells),.sl [],iv n],.row Ty.int [[iv 2]] false,.row Ty.Item [b.cells,itZ.cells] false] (.tup [.os 2 2 0 0,iv 0]) [.box [tsl m2,iv 2,iv r,.own 1 1,.sl [],.sl (ts.map Tg.cells),.sl [],iv n],.row Ty.int [[iv 2]] false,.row Ty.Item [itZ.cells,itZ.cells] false]) (sB:zab E0 S.AS [tsl m0,tsl m2] [] (.tup [.sl (d2.map Dl.cells),bv true]) []) (iB:zab E0 S.At [.sl (ts.map Tg.cells),tsl m2,.sl (d2.map Dl.cells)] [] (.own 0 1) [.row Ty.Item [c.cells] false]) (pC:∀ r:Int,zab E0 S.Aw [.p 0 0,.own 2 1,.sl (d2.map Dl.cells)] [.box [tsl m2,iv 2,iv r,.own 1 1,.sl [],.sl (ts.map Tg.cells),.sl [],iv n],.row Ty.int [[iv 2]] false,.row Ty.Item [c.cells] false] (.tup [.nl,iv 11]) [.box [tsl m2,iv 2,iv r,.own 1 1,.sl [],.sl (ts.map Tg.cells),.sl [],iv n],.row Ty.int [[iv 2]] false,.row Ty.Item [c.cells] false]):∃ (e:Int),e=11/\zab E0 S.Aj [tsl l,tsl m0,.sl (ts.map Tg.cells),.sl [],.sl [],iv n] [] (.tup [.agg [.sl [],iv 0,iv 0,.sl [],.sl []],iv e]) []:=by
 obtain ⟨q1,g1⟩:=zcS l m0 ts ([]) (n)
 obtain ⟨q2,g2⟩:=zd2 m0 ts d1 a b (n)
 obtain ⟨q3,g3⟩:=zb5 m0 m1 ts d1 b itZ n 1 (1)
 obtain ⟨q4,g4⟩:=zb5 m0 m2 ts d1 itZ itZ n 2 (0)
 obtain ⟨q5,g5⟩:=zd3 m0 m2 ts itZ itZ n (2)
 obtain ⟨q6,g6⟩:=zd4 m2 m2 ts d2 itZ itZ c n (2)
 exact ⟨11,Zr,wkc At.Aj [sc hV,sg Zf,sb hn0,sc hD,sc (za9 ([]) znM)] [0,2,12,14] 3 kr (g1 _ (zaa (wkl [sc sA,sb Zf,sc iA,sqx (2=2),sb Zf,si (zap (t:=0+1) (n:=0+1) Zo Zo)] [0,2,12,14,15,17] 4 kr (g2 _ (zaa (wkl [sqx (2=2),sb Zt,sl [1,2,3] (pA ((↑(0+1):Int))),sb Zf] [0,2,12,14,15,17] 5 kr (g3 _ (zaa (wkl [sqx (2=2),sb Zt,sl [1,4,3] (pB ((↑(0+1):Int))),sb Zf] [0,2,12,14,15,17] 5 kr (g4 _ (zaa (wkl [sqx (2=2),sb Zf] [0,2,12,14] 5 kr (g5 _ (zaa (wkl [sc sB,sb Zf,sc iB,sqx (1=1),sb Zf,si (zap (t:=(↑(0+1):Int)+1) (n:=0+1+1) Zo Zo)] [0,2,12,14,15,17] 6 kr (g6 _ (zaa (wkr [sqx (1=1),sb Zt,sl [1,4,5] (pC ((↑(0+1+1):Int))),sb Zt] kr))))))))))))))))))⟩
theorem zpq {n:Int} {rows:List Rw} (h:TabV (lgT n rows)):StA (mK n rows):=⟨by simp,zkA h,by
 simp only [yAK,yO,yAE,or_false,forall_eq]
 exact ⟨by show _=_;kernel_rfl,by simp,List.Pairwise.nil⟩⟩
theorem l0_st:StA l0k:=⟨by simp,l0k_v,by
 simp only [yAK,yO,yAE,or_false,forall_eq]
 exact ⟨by show _=_;kernel_rfl,by simp,List.Pairwise.nil⟩⟩
theorem ztc {a b c d:Tb} (h1:GrowT a c) (h2:GrowT b d):GrowS [a,b] [c,d]:=⟨rfl,fun i x y hx hy=>by
 match i,hx,hy with
 | 0,hx,hy=>cases hx;cases hy;exact h1
 | 1,hx,hy=>cases hx;cases hy;exact h2
 | i+2,hx,hy=>simp at hx⟩
theorem s1k:zab E0 S.AS [tsl l0k,tsl m0k] [] (.tup [.sl ([d1k].map Dl.cells),bv true]) []:=by
 have h:=zdu l0k m0k l0_st (zpq (zjA 1 Zd)) (ztc (zhG _) ⟨rfl,by decide,fun r hr=>by
  simp only [yO,yAE,or_false] at hr
  rcases hr with rfl|rfl <;> exact .inr Zd⟩)
 have e:dls l0k m0k=[d1k]:=by show _=_;kernel_rfl
 rw [e] at h;exact h
theorem s2k:zab E0 S.AS [tsl m0k,tsl m2k] [] (.tup [.sl ([d2k].map Dl.cells),bv true]) []:=by
 have h:=zdu m0k m2k (zpq (zjA 1 Zd)) (zpq zlC) (ztc ⟨rfl,by decide,fun r hr=>by
  simp only [yO,yAE,or_false] at hr
  rcases hr with rfl|rfl <;> exact .inr Zd⟩ (zhG _))
 have e:dls m0k m2k=[d2k]:=by show _=_;kernel_rfl
 rw [e] at h;exact h
theorem s3k:zab E0 S.AS [tsl m2k,tsl m3k] [] (.tup [.sl ([d3k].map Dl.cells),bv true]) []:=by
 have h:=zdu m2k m3k (zpq zlC) (zpq (zjA 3 Zd)) (ztc ⟨rfl,by decide,fun r hr=>by cases hr⟩ (zhG _))
 have e:dls m2k m3k=[d3k]:=by show _=_;kernel_rfl
 rw [e] at h;exact h
theorem zqf (l:List Tb) (hl:zac l) (hf:∀ x∈l,zab E0 S.B1 [.agg x.cells] [] (.agg x.cells) []):∃ (r:List Tb),r=l/\zab E0 S.Ce [tsl l] [] (tsl r) []:=by
 exact ⟨l,Zr,wk At.Ce [sqx (l.length=(List.map Tb.cells l).length),sc (zdP l znM znM)] kr⟩
theorem zdI (l:List Tb) (hl:zac l) (hc:∀ t∈l,zac t.sch.cols/\zac t.rows/\∀ r∈t.rows,zac r.vals):zab E0 S.Ce [tsl l] [] (tsl l) []:=by
 obtain ⟨_,rfl,h⟩:=zqf l hl fun x hx=>zmJ x (hc x hx).1 (hc x hx).2.1 (hc x hx).2.2
 exact h
theorem ov0:zab E0 S.A1 [.sl []] [] (bv true) []:=zl0 [] (by simp [zac]) List.nodup_nil zuf
theorem fA1:zab E0 S.Bv [tsl m0k,.sl (tsK.map Tg.cells),.sl [],.sl ([d1k].map Dl.cells),(itA r1k).av,.sl []] [] (.tup [tsl m1k,.sl [],.sl [],iv 0]) []:=zkt (zjA 1 Zd) Zd Zd 1 Zd
theorem fA2:zab E0 S.Bv [tsl m1k,.sl (tsK.map Tg.cells),.sl [],.sl ([d1k].map Dl.cells),(itA r2k).av,.sl []] [] (.tup [tsl m2k,.sl [],.sl [],iv 0]) []:=zkt lg1_v Zd Zd 2 Zd
theorem zmk:zab E0 S.Aj [tsl l0k,tsl m0k,.sl (tsK.map Tg.cells),.sl [],.sl [],iv 3] [] (.tup [.agg [tsl m3k,iv 3,iv 2,isl [2],.sl []],iv 0]) []:=by
 obtain ⟨_,rfl,h⟩:=c_rpK l0k m0k m1k m2k m3k tsK [d1k] [d2k] [d3k] (itA r1k) (itA r2k) itB 3 ov0 Zd (zdI m0k (by simp [zac]) (zgN (zjA 1 Zd))) s1k zin
  (fun r=>by obtain ⟨_,rfl,h⟩:=c_pf1 m0k m1k tsK [d1k] (itA r1k) (itA r2k) 3 r Zd fA1;exact h)
  (fun r=>by obtain ⟨_,rfl,h⟩:=c_pf2 m1k m2k tsK [d1k] (itA r2k) itZ 3 r Zd fA2;exact h) s2k zio
  (fun r=>by obtain ⟨_,rfl,h⟩:=c_pf3 m2k m3k tsK [d2k] itB 3 r Zd zqs;exact h) s3k zon
 exact h
theorem zmj:zab E0 S.Aj [tsl l0k,tsl m0k,.sl (tsK.map Tg.cells),.sl [],.sl [],iv 2] [] (.tup [.agg [.sl [],iv 0,iv 0,.sl [],.sl []],iv 11]) []:=by
 obtain ⟨_,rfl,h⟩:=c_rpB l0k m0k m1k m2k tsK [d1k] [d2k] (itA r1k) (itA r2k) itB 2 ov0 Zd (zdI m0k (by simp [zac]) (zgN (zjA 1 Zd))) s1k zin
  (fun r=>by obtain ⟨_,rfl,h⟩:=c_pf1 m0k m1k tsK [d1k] (itA r1k) (itA r2k) 2 r Zd fA1;exact h)
  (fun r=>by obtain ⟨_,rfl,h⟩:=c_pf2 m1k m2k tsK [d1k] (itA r2k) itZ 2 r Zd fA2;exact h) s2k zio
  (fun r=>by obtain ⟨_,rfl,h⟩:=c_pf4 m2k tsK [d2k] itB 2 r Zd;exact h)
 exact h
theorem zfh {p:Prop} (h:p:=by first|assumption|exact zdc|exact (znd ‹_›).1.1|exact (znd ‹_›).1.2.1|exact (znd ‹_›).1.2.2|exact (znd ‹_›).2.1|exact (znd ‹_›).2.2|decide|omega):p:=h
theorem zkP {p:Prop} (h:p:=by first|assumption|exact zdc|decide|omega):p:=h
theorem zrr  :∃ (r:Bool),r=true/\zab E0 S.Dt [] [] (bv r) []:=by
 obtain ⟨n1,c1⟩:=zqy
 exact ⟨true,Zr,wk At.Dt [sc zmm,sc (zbx Zsu zkP),sc (zaM ZsN Zsi),sc (zaP (V.mk 0 0 Zs0)),sc (zcx 1),sc (zcx 1),sc (zcx 1),sc (zcx 2),sc (zcx 1),sc (zcx 1),sc c1,sc zmk,sc zmj,sg Zt,sg Zt,sg Zt,sg Zt,sg Zt,sg Zt,se (zx9 m3k zkP),sg Zt,se (zx9 m3k zkP),sg Zt,sc (zjP ([2]) ([2]) zkP zkP)] kr⟩
theorem zrN:zab E0 S.Dt [] [] (bv true) []:=by
 obtain ⟨_,rfl,h⟩:=zrr
 exact h
theorem zy4 {t:Tb} (h:TabV t):btw t t=⟨t.sch.name,[],[],[]⟩:=by
 have hg:∀ r∈t.rows,get6 r.id t.rows=(r.vals,true):=fun r hr=>zih h.rows.asc hr
 have h1:t.rows.filter (zcW t)=[]:=List.filter_eq_nil_iff.2 fun r hr=>by unfold zcW;rw [hg r hr];simp
 have h2:t.rows.filterMap (updS t)=[]:=List.filterMap_eq_nil_iff.2 fun r hr=>by
  unfold updS;rw [hg r hr];simp only [zpu];rfl
 unfold btw;rw [h1,h2]
theorem zzj {l:List Tb} (h:∀ t∈l,TabV t):dls l l=[]:=by
 unfold dls
 refine List.filterMap_eq_nil_iff.2 fun p hp=>?_
 obtain ⟨i,hi⟩:=yQ hp
 rw [List.getElem?_zip_eq_some] at hi
 have e:p.1=p.2:=Option.some.inj (hi.1.symm.trans hi.2)
 have hv:=h p.2 (yC hi.2)
 unfold dlS
 rw [e,zy4 hv];rfl
theorem StV.shs {l:List Tb} (h:StV l):∀ t∈l,zac t.sch.cols/\zac t.rows/\∀ r∈t.rows,zac r.vals:=fun t ht=>⟨(h.tabs t ht).sch.short,(h.tabs t ht).shr,(h.tabs t ht).vals⟩
theorem zjM (l:List Tb) (ts:List Tg) (o:List Lk) (h:StV l) (ht:TrsQ ts o):zab E0 S.Aj [tsl l,tsl l,.sl (ts.map Tg.cells),lsl o,.sl [],iv 0] [] (.tup [.agg [tsl l,iv 0,iv 0,.sl [],.sl []],iv 0]) []:=by
 have hd:=zdu l l h.stA h.stA (zo5 l)
 rw [zzj h.tabs] at hd
 have hts:zac ts:=by have:=ht.len;simp only [zac];omega
 obtain ⟨_,rfl,hi⟩:=zxR ts l h.shr hts (fun x hx=>(h.shs x hx).1)
 obtain ⟨_,rfl,hp⟩:=zoT l l ts o 0 [] (zl0 o (ht.ord.short Zd) ht.ord.nd ht.vld) Zd (zdI l h.shr h.shs) hd hi
 exact hp
theorem zjL (l m:List Tb) (h:StV l/\StV m/\GrowS l m):zab E0 S.Aj [tsl l,tsl m,.sl [],.sl [],.sl [],iv 0] [] (.tup [.agg [tsl m,iv 0,iv 0,.sl [],.sl []],iv 0]) []:=by
 obtain ⟨hl,hm,hg⟩:=h
 have hd:=zdu l m hl.stA hm.stA hg
 obtain ⟨_,rfl,hi⟩:=zxS m (dls l m)
 obtain ⟨_,rfl,hp⟩:=zoT l m [] [] 0 (dls l m) ov0 Zd (zdI m hm.shr hm.shs) hd hi
 exact hp
theorem znd {l m:List Tb} (h:StV l/\StV m/\GrowS l m):(StV l/\zac l/\ShTs l)/\(zac m/\ShTs m):=⟨⟨h.1,h.1.shr,h.1.shs⟩,h.2.1.shr,h.2.1.shs⟩
theorem zmb (l:List Int) :∃ (r:Bool),r=true/\zab E0 S.C3 [isl l] [] (bv r) []:=by
 obtain ⟨t1,c1⟩:=(zu8 l)
 obtain ⟨l2,o2,t2,q2,c2⟩:=(zli t1 6 zfh)
 obtain ⟨l3,m3,t13,q3,c3⟩:=(zqa t2)
 exact ⟨true,Zr,wk At.C3 [sc c1,sl [0] c2,sl [0] c3,sc (zjM l3 l2 o2 zfh zfh),sc (zjL l3 m3 zfh),sg Zt,sg Zt,si (zap (t:=0+0) (n:=0+0) Zo Zo),si (zap (t:=(↑(0+0):Int)+0) (n:=0+0+0) Zo Zo),si (zap (t:=(↑(0+0+0):Int)+0) (n:=0+0+0+0) Zo Zo),sg Zt,sc (zg3 l3 zfh zfh),sg Zt,sc (zg3 m3 zfh zfh),so Zt (sc zrN)] kr⟩
theorem zzQ (l:List Int):zab E0 S.C3 [isl l] [] (bv true) []:=by
 obtain ⟨_,rfl,h⟩:=zmb l
 exact h
end Go.AM
namespace Go.AM
open Go.RowKit
abbrev old (W:World):Addr->Prop:=fun a=>a.block < W.heap.size
theorem zvd {W:World} {a:Addr} {v:Value} (h:W.cell? a=some v):a.block < W.heap.size:=by
 unfold World.cell? at h
 cases hb:W.heap[a.block]? with
 | none=>rw [hb] at h;cases h
 | some o=>exact (yAe.1 hb).1
theorem relD_strs {W:World} {g:Nat} (l:List Str) (h:∀ (j:Nat) (s:Str),l[j]?=some s->W.cell? ⟨g,j,none⟩=some (.string s)):RelD W (old W) (.dp (l.map sv)) (.pointer (some ⟨g,0,none⟩)):=by
 refine .dp _ g 0 (fun j=>.string (l.getD j ⟨#[]⟩)) (fun j x hx=>?_) (fun j x hx=>?_)
 ·simp only [yS,yAH] at hx
  obtain ⟨s,hs,rfl⟩:=hx
  have hc:=h j s hs
  rw [yAi]
  refine ⟨zvd hc,?_,rfl⟩
  rw [hc,yAF,hs];rfl
 ·simp only [yS,yAH] at hx
  obtain ⟨s,hs,rfl⟩:=hx
  have:l.getD j ⟨#[]⟩=s:=by rw [yAF,hs];rfl
  simp only [this]
  exact .v _ rfl
theorem zy6 {s:ByteArray} {l:List UInt8} (h:s.data.toList=l):s=zcZ l:=by
 cases s with
 | mk d=>simp only [zcZ];congr;rw [← h]
theorem laid_strs {P:Program} {W:World} {n:String} {g:Nat} {t e:TypeId} {k:Nat} {l:List (List UInt8)} (hr:Lib.VarReads P W n (.agg (l.map fun b=>.lit (.string b)))) (hg:P.globalNamed n=some g) (hty:(P.globals[g]?).map (·.type)=some t)
  (ht:P.underlying t=some (.array k e)) (he:P.underlying e=some .string) (hc:P.cellsOf e=1) (hk:l.length=k):∀ (j:Nat) (s:Str),(l.map zcZ)[j]?=some s->W.cell? ⟨g,j,none⟩=some (.string s):=by
 intro j s hs
 obtain ⟨g',t',cs,fuel,p,h1,h2,h3,h4⟩:=hr
 obtain rfl:g'=g:=Option.some.inj (h1.symm.trans hg)
 obtain rfl:t'=t:=Option.some.inj (h2.symm.trans hty)
 simp only [yS,yAH] at hs
 obtain ⟨b,hb,rfl⟩:=hs
 have hj:=zb1 hb
 obtain ⟨f',d,q,hd,hq⟩:=Lib.array_elem ht h4 j Zo
 simp only [yS,hb,yAC,yA] at hd
 subst hd
 obtain ⟨s,e1,e2,_⟩:=DataW.trod_string he hq
 rw [World.var?_cell h1 h3]
 rw [hc,Nat.mul_one] at e1
 have e3:cs.toList[j]?=some (.string s):=by
  have:=congrArg (·[0]?) e1
  simpa [yM,yX] using this
 have e4:s=zcZ b:=zy6 (by simp only [Prod.mk.injEq,DataW.lit.injEq,Lit.string.injEq] at e2;exact e2.1.symm)
 rw [← e4]
 simpa using e3
theorem relV_ints {W:World} {a:Addr} {len cap:Nat} {zs:List Int} (h1:len<=cap) (h2:cap<=maxLen) (h3:zs.length=cap) (hc:∀ i,i < zs.length->W.cell? (a.add i)=some (.int .i64 (zs.getD i 0))) :
  RelV E0.T [] [] W (old W) (isl (zs.take len)) (.slice (some a) len cap):=by
 have hlen:((zs.take len).map fun n=>[iv n]).length=len:=by simp;omega
 have key:=RelD.sl (w:=W) (S:=old W) ((zs.take len).map fun n=>[iv n]) (some a) cap a.block a.off 1 (fun k=>.int .i64 (zs.getD k 0)) ?_ (by rw [hlen];exact h1) h2 (fun i c hi=>?_) (fun i j c x hi hj=>?_) (fun i j c x hi hj=>?_)
 ·rw [hlen] at key
  exact .d _ _ key
 ·intro hne
  have hz:0 < zs.length:=by
   rcases Nat.eq_zero_or_pos zs.length with h|h
   ·exact absurd (by simp [yAQ h]) hne
   ·exact h
  have h0:=hc 0 hz
  have:a.spot=none:=by
   simp only [Addr.add,if_pos] at h0
   unfold World.cell? at h0
   split at h0
   ·cases hs:a.spot with
    | none=>rfl
    | some x=>rw [hs] at h0;simp at h0
   ·cases h0
  cases a
  simp only at this
  subst this
  rfl
 ·simp only [yS,yAH] at hi
  obtain ⟨n,_,rfl⟩:=hi
  rfl
 ·simp only [yS,yAH] at hi
  obtain ⟨n,hn,rfl⟩:=hi
  have hi2:=zb1 hn
  simp only [yV] at hi2
  have hj0:j=0:=by
   cases j with
   | zero=>rfl
   | succ j=>simp at hj
  subst hj0
  have h0:=hc i Zo
  have e:a.add i=⟨a.block,a.off+(i * 1+0),none⟩:=by
   unfold Addr.add
   split
   ·rename_i hi0
    subst hi0
    have:a.spot=none:=by
     simp only [Addr.add,if_pos] at h0
     unfold World.cell? at h0
     split at h0
     ·cases hs:a.spot with
      | none=>rfl
      | some x=>rw [hs] at h0;simp at h0
     ·cases h0
    cases a
    simp only at this
    subst this
    rfl
   ·simp
  rw [e] at h0
  refine ⟨zvd h0,?_,rfl⟩
  rw [h0];simp
 ·simp only [yS,yAH] at hi
  obtain ⟨n,hn,rfl⟩:=hi
  have hj0:j=0:=by
   cases j with
   | zero=>rfl
   | succ j=>simp at hj
  subst hj0
  simp only [yAB,yA] at hj
  subst hj
  have:zs.getD (i * 1+0) 0=n:=by
   rw [yM] at hn
   split at hn
   ·simp only [Nat.mul_one,yAg,yAF,hn];rfl
   ·cases hn
  simp only [this]
  exact .v _ rfl
theorem relV_nil {W:World}:RelV E0.T [] [] W (old W) (isl []) (.slice none 0 0) :=
 .d _ _ (RelD.sl [] none 0 0 0 1 (fun _=>.int .i64 0) (fun h=>absurd rfl h) (yJ _) Zd (fun i c h=>by simp at h) (fun i j c x h=>by simp at h) (fun i j c x h=>by simp at h))
theorem oneCell_ok {P:Program} {w:World} {r:Reach} {b:Nat} {u:TypeId} {y:Value} (h:Cell.okWide P w r b u y):y.oneCell'=true:=by
 have h2:∀ y,Cell.ok P w r b u y->y.oneCell'=true:=by
  intro y h
  unfold Cell.ok at h
  split at h <;> first|rfl|exact h.elim
 unfold Cell.okWide at h
 split at h <;> first|rfl|exact h2 _ h
theorem calls_of {f:FuncId} {args:List AV} {b:Bool} (h:zab E0 f args [] (bv b) []) (hgo:GoFn E0.P f) {W:World} {vs:List Value} (hglob:∀ g cs,globs g=some cs->RelD W (old W) (.dp cs) (.pointer (some ⟨g,0,none⟩))) (hargs:PW (RelV E0.T [] [] W (old W)) args vs) :
  Calls E0.P f vs.toArray W fun e W'=>e=.returned (.bool b)/\Below W.heap.size W W':=by
 have hrel:Rel E0 [] [] (old W) W:=⟨rfl,fun b cs hb=>by simp at hb,fun b e xs sh hb=>by simp at hb,fun b es hb=>by simp at hb,fun b b' k k' g hb=>by simp at hb,fun b k g hb=>by simp at hb,fun a ha=>ha,fun b k g a hb=>by simp at hb,hglob⟩
 obtain ⟨fn,hf1,hf2,hf3⟩:=hgo
 have hp:∀ e W',Post E0 [] [] (old W) W (fun r' h''=>r'=bv b/\h''=[]) e W'->e=.returned (.bool b)/\Below W.heap.size W W':=by
  rintro e W' ⟨r,h',β',S',y,rfl,⟨rfl,rfl⟩,_,ex,rv⟩
  refine ⟨?_,ex.os,ex.tape,ex.output,ex.size,fun k hk=>ex.keep k hk fun b' k' hb=>by simp at hb⟩
  rw [rv.v_inv]
 rcases h [] (old W) W vs hrel hargs with ⟨_,hc⟩|⟨y,w',hrun,_⟩
 ·exact hc.mono hp
 ·exfalso
  simp only [callFunc,Sem.run_bind,Sem.run_pure,Result.andThen_ok,run_program,hf1,hf2,hf3,Bool.false_eq_true,if_false] at hrun
  cases hrun
end Go.AM
