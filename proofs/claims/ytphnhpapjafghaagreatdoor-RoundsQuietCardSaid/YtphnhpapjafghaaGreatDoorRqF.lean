/-
  Contracts of the program's functions, part 5.
-/
import Derived.Test.YtphnhpapjafghaaGreatDoorRqE
import Derived.Laws.MathBits
import Derived.Shelf.Spec.SlicesGrow
set_option maxRecDepth 100000
set_option maxHeartbeats 40000000
set_option linter.unusedSimpArgs false
set_option linter.unusedVariables false
namespace Go.AM
def get6 (n:Int):List Rw->List V × Bool
 | []=>([],false)
 | r::l=>bif r.id==n then (r.vals,true) else get6 n l
noncomputable def L_ge (t:Tb) (n:Int) (i:Nat) :Cfg:=zai B.CL 0 [(1,iv n),(9,.sl (t.rows.map Rw.cells)),(10,iv ((t.rows.map Rw.cells).length:Nat)),(11,iv (i:Nat))] [.box t.cells]
theorem zmp (t:Tb) (n:Int) (hl:zac t.rows) (hv:∀ r∈t.rows,zac r.vals) (i:Nat)  (hi:i<=(t.rows).length) (hI:get6 n t.rows=get6 n (t.rows.drop i)):((get6 n t.rows=get6 n (t.rows.drop (t.rows).length))/\(decide ((((t.rows).length:Nat):Int) < (((t.rows.map Rw.cells).length:Nat):Int))=false)/\∀ R,Good E0 B.CL [] (L_ge t n (t.rows).length ) R->Good E0 B.CL [] (L_ge t n i ) R)\/(∃ (v:List V) (r:Bool),(v,r)=get6 n t.rows/\Good E0 B.CL [] (L_ge t n i ) (Shut 0 fun rZ hZ=>rZ=(.tup [vsl v,bv r])/\hZ=[])):=by
 have hk:=hi;revert i;refine zlp ((t.rows).length) (fun i hlt ih hi hI _=>?_)
 obtain ⟨x,hx,h0,hw⟩:=zlq (l:=t.rows) ((t.rows.map Rw.cells).length) hlt
 have hvx:=hv x (yC hx)
 let p_1:List St:=[sb h0,se (zaf Rw.cells hx rfl)]
 cases h1:x.id==n
 ·exact (ih Zo (by (rw [hI,zaB hx];simp only [get6, *,cond_false])) Zo).elim (fun ⟨qZ,xZ,gZ⟩=>.inl ⟨qZ,xZ,fun R hg=>zaa (wkl (p_1++[sb h1,si hw]) [1,9,10,11] 1 kr (gZ R hg))⟩) (fun ⟨vY,rY,pZ,gZ⟩=>.inr ⟨vY,rY,pZ,zaa (wkl [sb h0,se (zaf Rw.cells hx rfl),sb h1,si hw] [1,9,10,11] 1 kr gZ)⟩)
 ·exact .inr ⟨zbd x.vals,true,(by (rw [hI,zaB hx];simp only [get6, *,cond_true];try rfl)),zaa (wkr (p_1++[sb h1,sc (zbN x.vals (by first|assumption|omega|(simp;done)|(simp;omega)))]) kr)⟩
theorem zwu (t:Tb) (n:Int) (hl:zac t.rows) (hv:∀ r∈t.rows,zac r.vals):∃ (v:List V) (r:Bool),(v,r)=get6 n t.rows/\zab E0 S.CL [t.av,iv n] [] (.tup [vsl v,bv r]) []:=by
 rcases zmp t n Za Za 0 Za Za with ⟨q1,q1_1,g1⟩|⟨r1_0,r1_1,p1_0,g1⟩
 ·exact ⟨[],false,(by first|assumption|(rw [‹get6 _ _=get6 _ _›,yAG];rfl)),wkc At.CL [] [1,9,10,11] 1 kr (g1 _ (zaa (wkr [sb q1_1] kr)))⟩
 ·exact ⟨r1_0,r1_1,(by first|assumption|(rw [‹get6 _ _=get6 _ _›,yAG];rfl)),wkc At.CL [] [1,9,10,11] 1 kr (g1)⟩
theorem zlx (t:Tb) (n:Int) (hl:zac t.rows) (hv:∀ r∈t.rows,zac r.vals):zab E0 S.CL [t.av,iv n] [] (.tup [vsl (get6 n t.rows).1,bv (get6 n t.rows).2]) []:=by
 obtain ⟨v,r,h,h2⟩:=zwu t n hl hv
 rw [← h];exact h2
noncomputable def L_cp6 (t:Tb) (i:Nat) (rs:List Rw):Cfg:=zai B.CX 0 [(1,.p 0 0),(2,.p 1 0),(3,.own 3 rs.length),(13,.sl (t.rows.map Rw.cells)),(14,iv ((t.rows.map Rw.cells).length:Nat)),(15,iv (i:Nat))] [.box [sv t.sch.name,.own 2 (t.sch.cols.map Col.cells).length,iv t.next,.sl (t.rows.map Rw.cells)],.box [sv ⟨#[]⟩,.nl,iv 0,.nl],.row Ty.Column (t.sch.cols.map Col.cells) false,.row Ty.Row (rs.map Rw.cells) false]
theorem zk7 (t:Tb) (hl:zac t.rows) (hv:∀ r∈t.rows,zac r.vals) (i:Nat) (rs:List Rw) (hi:i<=(t.rows).length) (hI:rs=t.rows.take i):∃ (rs':List Rw),(rs'=t.rows.take (t.rows).length)/\(decide ((((t.rows).length:Nat):Int) < (((t.rows.map Rw.cells).length:Nat):Int))=false)/\∀ R,Good E0 B.CX [] (L_cp6 t (t.rows).length rs') R->Good E0 B.CX [] (L_cp6 t i rs) R:=by
 have hk:=hi;revert i rs;refine zlp ((t.rows).length) (fun i hlt ih rs hi hI _=>?_)
 obtain ⟨x,hx,h0,hw⟩:=zlq (l:=t.rows) ((t.rows.map Rw.cells).length) hlt
 have hvx:=hv x (yC hx);have hol:rs.length<=1000000000:=(by rw [hI,yV];simp only [zac] at hl;omega)
 exact Zih (ih (rs++[x]) Zo (by (rw [yP,hx,← hI];rfl)) Zo) fun R gY=>zaa (wkl [sb h0,se (zaf Rw.cells hx rfl),sd [(5,[sc (zbN x.vals (by first|assumption|omega|(simp;done)|(simp;omega)))]),(8,[sqA (List.map Rw.cells rs) [[iv x.id,vsl (zbd x.vals)]] rs.length 2 32])],si hw] [1,2,3,13,14,15] 4 kr (zaK 3 3 (List.map Rw.cells rs++[[iv x.id,vsl (zbd x.vals)]]) gY (he:=by first|rfl|(simp [Rw.cells,zbd];done)) (hm:=by first|rfl|(simp [Rw.cells,zbd];done))))
theorem zux (t:Tb) (hl:zac t.rows) (hc:zac t.sch.cols) (hv:∀ r∈t.rows,zac r.vals):∃ (r:Tb),r=t/\zab E0 S.CX [t.av] [] r.av []:=by
 obtain ⟨rs1,q1,q1_1,g1⟩:=zk7 t Za Za 0 ([]) Za Za
 exact ⟨Tb.mk t.sch t.next rs1,(by (rw [yL] at *;subst_vars;rfl)),wkcN At.CX [sqx (AllLen (List.map Col.cells t.sch.cols) 4/\((List.map Col.cells t.sch.cols).length * 32).le 140737488355328)] [1,2,3,13,14,15] 3 [(.ot 3 Ty.Row,4)] kr (g1 _ (zaa (wkr [sqx (True/\(List.map Col.cells t.sch.cols).length=(List.map Col.cells t.sch.cols).length/\True/\rs1.length=(List.map Rw.cells rs1).length/\True),sb q1_1] kr)))⟩
theorem zn6 (t:Tb) (hl:zac t.rows) (hc:zac t.sch.cols) (hv:∀ r∈t.rows,zac r.vals):zab E0 S.CX [t.av] [] t.av []:=by
 obtain ⟨r,rfl,h⟩:=zux t hl hc hv
 exact h
structure TabV (t:Tb):Prop where
 sch:SchV t.sch
 len:decide ((100:Int) < ((t.rows.map Rw.cells).length:Int))=false
 rows:RowsV t.sch t.next t.rows
 max:decide ((2147483648:Int) < t.next)=false
 key:idxF (fun c=>c.key) t.sch.cols 0=keyC t.sch
theorem TabV.shr {t:Tb} (h:TabV t):zac t.rows:=by have:=h.len;simp only [yG,decide_eq_false_iff_not] at this;simp only [zac];omega
theorem TabV.vals {t:Tb} (h:TabV t):∀ r∈t.rows,zac r.vals:=fun r hr=>by
 have h1:=(h.rows.fit r hr).len
 have h2:=h.sch.short
 have h3:r.vals.length=t.sch.cols.length:=h1
 simp only [zac] at *;omega
theorem zAE {c:Col} {v:V} (h:ValOk c v) (hc:zdo c):fit4 c v=0:=by
 unfold fit4
 cases h0:v.kind==0
 ·have hk:v.kind=c.type:=h.kind.resolve_left (by simpa using h0)
  simp [hk]
 ·have h1:v.kind=0:=by simpa using h0
  cases hn:c.notNull
  ·rfl
  ·have:=h.nn hn;simp only [zdo] at hc;omega
theorem zvj:∀ (cs:List Col) (vs:List V),(∀ c∈cs,zdo c)->(∀ (k:Nat) (c:Col) (v:V),cs[k]?=some c->vs[k]?=some v->ValOk c v)->fitL cs vs=0
 | [],_,_,_=>by unfold fitL;rfl
 | _::_,[],_,_=>rfl
 | c::cs,v::vs,hc,h=>by
  have h0:=zAE (h 0 c v rfl rfl) (hc c Zs)
  simp only [fitL,h0,bne_self_eq_false,cond_false]
  exact zvj cs vs (fun c h=>hc c (by simp [h])) fun k c v h1 h2=>h (k+1) c v (by simpa using h1) (by simpa using h2)
theorem SchV.cok {s:Sch} (h:SchV s):∀ c∈s.cols,zdo c:=fun c hc=>by
 obtain ⟨i,hi⟩:=yQ hc
 have h1:=(h.cols i c hi).lo
 have h2:=(h.cols i c hi).hi
 simp only [decide_eq_false_iff_not] at h1 h2
 simp only [zdo];omega
theorem zqm {s:Sch} {vs:List V} (hs:SchV s) (h:zbJ s.cols vs):fit5 s vs=0:=by
 unfold fit5
 rw [show (vs.length != s.cols.length)=false by have:=h.len;simpa using this]
 exact zvj _ _ hs.cok h.at_
theorem zlK {cols:List Col} {vals:List V} (h:zbJ cols vals):∀ v∈vals,v.Good:=PrefOk.good h
structure RowF (t:Tb) (x:Rw):Prop where
 lo:decide (x.id < 1)=false
 hi:decide (t.next<=x.id)=false
 fit:zab E0 S.Ch [t.sch.av,vsl x.vals] [] (iv 0) []
theorem TabV.rowF {t:Tb} (h:TabV t) {x:Rw} (hx:x∈t.rows):RowF t x:=by
 have h1:=h.rows.ids x hx
 refine ⟨by simp;omega,by simp;omega,?_⟩
 have h2:=zeK t.sch x.vals h.sch.short (zlK (h.rows.fit x hx))
 rwa [zqm h.sch (h.rows.fit x hx)] at h2
theorem zoJ {α:Type} {f:α->Int} {l:List α} (h:l.Pairwise fun a b=>f a < f b) {i:Nat} {x y:α} (hx:l[i]?=some x) (h1:1<=i) (hl:i<=1000000000) (hy:AtI l (IntKind.i64.wrap (((i:Nat):Int) - 1)) y):decide (f x<=f y)=false:=by
 have e:IntKind.i64.wrap (((i:Nat):Int) - 1)=((i - 1:Nat):Int):=by rw [IntKind.wrap_i64];omega
 rw [e] at hy
 have h2:l[i - 1]?=some y:=by simpa using hy.2
 obtain ⟨a1,a2⟩:=yB.1 hx
 obtain ⟨b1,b2⟩:=yB.1 h2
 have:=yAW.1 h (i - 1) i b1 a1 Zo
 rw [a2,b2] at this
 rw [decide_eq_false_iff_not];omega
theorem zoO {α:Type} {l:List α} {i:Nat} {x:α} (hx:l[i]?=some x) (h1:1<=i) (hl:i<=1000000000):0<=IntKind.i64.wrap (((i:Nat):Int) - 1)/\IntKind.i64.wrap (((i:Nat):Int) - 1) < ((l.length:Nat):Int):=by
 have:=(yB.1 hx).1
 rw [IntKind.wrap_i64];omega
noncomputable def L_v6 (t:Tb) (i:Nat) :Cfg:=zai B.Cf 0 [(1,.p 0 0),(26,.sl (t.rows.map Rw.cells)),(27,iv ((t.rows.map Rw.cells).length:Nat)),(28,iv (i:Nat))] [.box t.cells]
theorem zk8 (t:Tb) (ht:TabV t) (hs:zac t.sch.cols) (hr:zac t.rows) (i:Nat)  (hi:i<=(t.rows).length) (hI:1<=i):(1<=(t.rows).length)/\(decide ((((t.rows).length:Nat):Int) < (((t.rows.map Rw.cells).length:Nat):Int))=false)/\∀ R,Good E0 B.Cf [] (L_v6 t (t.rows).length ) R->Good E0 B.Cf [] (L_v6 t i ) R:=by
 have hk:=hi;revert i;refine zlp ((t.rows).length) (fun i hlt ih hi hI _=>?_)
 obtain ⟨x,hx,h0,hw⟩:=zlq (l:=t.rows) ((t.rows.map Rw.cells).length) hlt
 obtain ⟨a1,a2,a3⟩:=ht.rowF (yC hx);have a5:decide ((0:Int) < ((i:Nat):Int))=true:=Zp;have hil:=zb1 hx
 have a6:(bif decide (x.id < 1) then true else decide (t.next<=x.id))=false:=(by rw [a1,a2];rfl)
 have a4:∀ y,AtI t.rows (IntKind.i64.wrap (((i:Nat):Int) - 1)) y->(bif (bif decide (x.id < 1) then true else decide (t.next<=x.id)) then true else bif decide ((0:Int) < ((i:Nat):Int)) then decide (x.id<=y.id) else false)=false:=fun y hy=>(by rw [a6,a5,zoJ ht.rows.asc hx hI (by simp only [zac] at hr;omega) hy];rfl)
 have a7:∀ y,AtI t.rows (IntKind.i64.wrap (((i:Nat):Int) - 1)) y->(bif (bif (bif decide (x.id < 1) then true else decide (t.next<=x.id)) then true else bif decide ((0:Int) < ((i:Nat):Int)) then decide (x.id<=y.id) else false) then true else ((0:Int) != 0))=false:=fun y hy=>(by rw [a4 y hy];rfl)
 obtain ⟨x1,e1⟩:=zdN (l:=t.rows) (i:=IntKind.i64.wrap ((i:Int) - (1:Int))) (by exact zoO hx hI (by simp only [zac] at hr;omega))
 obtain ⟨qZ,xZ,gZ⟩:=ih Zo Zo Zo;exact ⟨qZ,xZ,fun R hg=>zaa (wkl [sb h0,se (zaf Rw.cells hx rfl),sd [(4,[sg a1]),(5,[sg a1]),(6,[sg a1]),(7,[sg a1]),(8,[sg a1]),(11,[sg a6]),(12,[sg a6]),(13,[sg a6]),(14,[sg a5]),(15,[sg a5]),(16,[sg a5]),(17,[so a5 (si (e:=IntKind.i64.wrap ((i:Int) - 1)) rfl)]),(18,[so a5 (se (zbW Rw.cells e1 rfl))]),(19,[sg a5]),(20,[sg a5]),(21,[sg a5]),(22,[sg a5]),(23,[sg a5]),(24,[sg a6]),(27,[sg (a4 x1 e1)]),(28,[sg (a4 x1 e1)]),(29,[sg (a4 x1 e1)]),(30,[sg (a4 x1 e1)]),(31,[so (a4 x1 e1) (sc a3)]),(32,[sg (a4 x1 e1)])],sb (a7 x1 e1),si hw] [1,26,27,28] 1 kr (gZ R hg))⟩
theorem zj6 (t:Tb) (ht:TabV t) (hs:zac t.sch.cols) (hr:zac t.rows):decide (((t.rows.length:Nat):Int) < (((t.rows.map Rw.cells).length:Nat):Int))=false/\∀ R,Good E0 B.Cf [] (L_v6 t t.rows.length) R->Good E0 B.Cf [] (L_v6 t 0) R:=by
 cases hrw:t.rows with
 | nil=>exact ⟨by simp,fun R h=>h⟩
 | cons x r =>
  have hx:t.rows[0]?=some x:=by rw [hrw];rfl
  obtain ⟨_,h1,h2⟩:=zk8 t ht hs hr 1 (by rw [hrw];simp) (yJ 1)
  rw [← hrw]
  refine ⟨h1,fun R h=>?_⟩
  have hg:=h2 R h
  have h0:decide (((0:Nat):Int) < (((t.rows.map Rw.cells).length:Nat):Int))=true:=by rw [hrw];simp
  obtain ⟨a1,a2,a3⟩:=ht.rowF (yC hx)
  have a6:(bif decide (x.id < 1) then true else decide (t.next<=x.id))=false:=(by rw [a1,a2];rfl)
  have a7:(bif (bif decide (x.id < 1) then true else decide (t.next<=x.id)) then true else false)=false:=(by rw [a6];rfl)
  have a8:(bif (bif (bif decide (x.id < 1) then true else decide (t.next<=x.id)) then true else false) then true else ((0:Int) != 0))=false:=(by rw [a7];rfl)
  refine zaa ?_
  exact wkl [sb h0,se (zaf Rw.cells hx rfl),sd [(4,[sg a1]),(5,[sg a1]),(6,[sg a1]),(7,[sg a1]),(8,[sg a1]),(11,[sg a6]),(12,[sg a6]),(13,[sg a6]),(14,[sb Zf]),(15,[sb Zf]),(16,[sb Zf]),(17,[sb Zf]),(18,[sb Zf]),(19,[sb Zf]),(20,[sb Zf]),(21,[sb Zf]),(22,[sb Zf]),(23,[sb Zf]),(24,[so a6 (sb Zf)]),(27,[sg a7]),(28,[sg a7]),(29,[sg a7]),(30,[sg a7]),(31,[so a7 (sc a3)]),(32,[sg a7])],sb a8,si (zap (t:=(↑0:Int)+1) (n:=0+1) Zo Zo)] [1,26,27,28] 1 kr (hg)
theorem zrA (t:Tb) (ht:TabV t) (hs:zac t.sch.cols) (hr:zac t.rows) (hv:zab E0 S.AZ [t.sch.av] [] (bv true) []) (h1a:decide ((100:Int) < ((t.rows.map Rw.cells).length:Int))=false) (h2a:decide (t.next < 1)=false) (h3a:decide ((2147483648:Int) < t.next)=false) (hd:zab E0 S.Bk [t.av] [] (bv false) []):∃ (b:Bool),b=true/\zab E0 S.Cf [t.av] [] (bv b) []:=by
 obtain ⟨q1,g1⟩:=zj6 t (by first|assumption|omega|(simp;done)|(simp;omega)) (by first|assumption|omega|(simp;done)|(simp;omega)) (by first|assumption|omega|(simp;done)|(simp;omega))
 exact ⟨!false,Zr,wkc At.Cf [sc hv,sg Zf,sg h1a,sg h2a,sb h3a] [1,26,27,28] 1 kr (g1 _ (zaa (wkr [sb q1,sc hd] kr)))⟩
theorem zlB {kc:Int}:∀ (l:List Rw),(0<=kc->l.Pairwise fun a b=>zak a.vals kc≠zak b.vals kc)->(zaX kc l).Nodup
 | [],_=>by simp [zaX]
 | r::l,h=>by
  have ih:=zlB l fun hk=>(yAK.1 (h hk)).2
  unfold zaX at ih ⊢
  rw [List.filterMap_cons]
  cases hr:zcX kc r with
  | none=>exact ih
  | some v =>
   refine List.nodup_cons.2 ⟨fun hm=>?_,ih⟩
   obtain ⟨q,hq,hv⟩:=List.mem_filterMap.1 hm
   unfold zcX at hr hv
   by_cases hk:0<=kc
   ·cases c1:decide (kc < ((r.vals.map V.cells).length:Int)) <;> rw [c1] at hr
    ·simp at hr
    ·cases c2:decide (kc < ((q.vals.map V.cells).length:Int)) <;> rw [c2] at hv
     ·simp at hv
     ·simp only [hk,decide_true,Bool.and_self,cond_true,yA] at hr hv
      exact (yAK.1 (h hk)).1 q hq (hr.trans hv.symm)
   ·simp [hk] at hr
theorem TabV.dup {t:Tb} (h:TabV t):zab E0 S.Bk [t.av] [] (bv false) []:=by
 obtain ⟨b,hb,hc⟩:=ziS t h.sch.short h.shr
 have h1:b=false:=hb.2 (by rw [h.key];exact zlB _ h.rows.keys)
 rw [h1] at hc;exact hc
theorem zpe (t:Tb) (ht:TabV t):zab E0 S.Cf [t.av] [] (bv true) []:=by
 have hp:=ht.rows.pos
 obtain ⟨r,rfl,h⟩:=zrA t ht ht.sch.short ht.shr (zpd _ ht.sch) ht.len Zp ht.max ht.dup
 exact h
structure CmpOk {α:Type} (c:α->α->Int):Prop where
 zero:∀ a b,c a b=0↔a=b
 anti:∀ a b,c a b < 0↔0 < c b a
 trans:∀ {a b d},c a b < 0->c b d < 0->c a d < 0
def lexC {α:Type} (c:α->α->Int):List α->List α->Int
 | [],[]=>0
 | [],_::_=>-1
 | _::_,[]=>1
 | a::x,b::y=>if c a b=0 then lexC c x y else c a b
theorem zq0 {α:Type} {c:α->α->Int} (h:CmpOk c):∀ a b,lexC c a b=0↔a=b
 | [],[]=>by simp [lexC]
 | [],_::_=>by simp [lexC]
 | _::_,[]=>by simp [lexC]
 | a::x,b::y=>by
  have ih:=zq0 h x y
  have hz:=h.zero a b
  simp only [lexC,List.cons.injEq]
  split
  ·rename_i e;simp [ih,hz.1 e]
  ·rename_i e;exact ⟨fun k=>absurd k e,fun k=>absurd (hz.2 k.1) e⟩
theorem zqZ {α:Type} {c:α->α->Int} (h:CmpOk c):∀ a b,lexC c a b < 0↔0 < lexC c b a
 | [],[]=>by simp [lexC]
 | [],_::_=>by simp [lexC]
 | _::_,[]=>by simp [lexC]
 | a::x,b::y=>by
  have ih:=zqZ h x y
  have hz:=h.zero a b
  have hz2:=h.zero b a
  have ha:=h.anti a b
  simp only [lexC]
  by_cases e:a=b
  ·rw [if_pos (hz.2 e),if_pos (hz2.2 e.symm)];exact ih
  ·rw [if_neg (fun k=>e (hz.1 k)),if_neg (fun k=>e (hz2.1 k).symm)];exact ha
theorem zpo {α:Type} {c:α->α->Int} (h:CmpOk c):∀ {a b d},lexC c a b < 0->lexC c b d < 0->lexC c a d < 0
 | x,y,[],_,h2=>by cases y <;> simp [lexC] at h2
 | x,[],e::z,h1,_=>by cases x <;> simp [lexC] at h1
 | [],b::y,e::z,_,_=>by simp [lexC]
 | a::x,b::y,e::z,h1,h2=>by
  simp only [lexC] at h1 h2 ⊢
  by_cases e1:a=b
  ·subst e1
   rw [if_pos ((h.zero a a).2 rfl)] at h1
   by_cases e2:a=e
   ·subst e2
    rw [if_pos ((h.zero a a).2 rfl)] at h2 ⊢
    exact zpo h h1 h2
   ·rw [if_neg (fun k=>e2 ((h.zero _ _).1 k))] at h2 ⊢
    exact h2
  ·rw [if_neg (fun k=>e1 ((h.zero _ _).1 k))] at h1
   by_cases e2:b=e
   ·subst e2
    rw [if_neg (fun k=>e1 ((h.zero _ _).1 k))]
    exact h1
   ·rw [if_neg (fun k=>e2 ((h.zero _ _).1 k))] at h2
    have h3:=h.trans h1 h2
    rw [if_neg Zo]
    exact h3
theorem CmpOk.lex {α:Type} {c:α->α->Int} (h:CmpOk c):CmpOk (lexC c):=⟨zq0 h,zqZ h,zpo h⟩
def zr6 (a b:UInt8):Int:=if a < b then -1 else if b < a then 1 else 0
theorem zy5:CmpOk zr6:=by
 refine ⟨fun a b=>?_,fun a b=>?_,fun {a b d} h1 h2=>?_⟩
 all_goals simp only [zr6,UInt8.lt_iff_toNat_lt,← UInt8.toNat_inj] at *
 all_goals repeat' split
 all_goals (try omega)
 all_goals (repeat' split at h1)
 all_goals (try omega)
 all_goals (repeat' split at h2)
 all_goals omega
theorem zdD:∀ a b,Lib.compareBytes a b=lexC zr6 a b
 | [],[]=>rfl
 | [],_::_=>rfl
 | _::_,[]=>rfl
 | a::x,b::y=>by
  have ih:=zdD x y
  simp only [Lib.compareBytes,lexC,zr6,ih]
  by_cases h1:a < b
  ·simp [h1]
  ·by_cases h2:b < a
   ·simp [h1,h2]
   ·simp [h1,h2]
theorem zAt:CmpOk cmpI:=by
 refine ⟨fun a b=>?_,fun a b=>?_,fun {a b d} h1 h2=>?_⟩
 all_goals simp only [cmpI] at *
 all_goals repeat' split
 all_goals (try omega)
 all_goals (repeat' split at h1)
 all_goals (try omega)
 all_goals (repeat' split at h2)
 all_goals omega
theorem zAs:CmpOk cmpB:=by
 have h:=zy5.lex
 refine ⟨fun a b=>?_,fun a b=>?_,fun {a b d} h1 h2=>?_⟩
 ·simp only [cmpB,zdD,h.zero]
  constructor
  ·intro e;cases a;cases b;simp at e;rw [e]
  ·intro e;rw [e]
 ·simp only [cmpB,zdD];exact h.anti _ _
 ·simp only [cmpB,zdD] at *;exact h.trans h1 h2
theorem znH (a b:V):rCmp a b=if cmpI a.kind b.kind=0 then (if cmpI a.int b.int=0 then cmpB a.text b.text else cmpI a.int b.int) else cmpI a.kind b.kind:=by
 unfold rCmp zwD zwC
 rcases Int.lt_trichotomy a.kind b.kind with h1|h1|h1
 ·have e:(a.kind != b.kind)=true:=by simp;omega
  rw [znt h1];simp [h1,e]
 ·rw [znr h1]
  rcases Int.lt_trichotomy a.int b.int with h2|h2|h2
  ·have e:(a.int != b.int)=true:=by simp;omega
   rw [znt h2];simp [h1,h2,e]
  ·rw [znr h2];simp [h1,h2]
  ·have e:(a.int != b.int)=true:=by simp;omega
   have e2:¬ a.int < b.int:=by omega
   rw [zns h2];simp [h1,e,e2]
 ·have e:(a.kind != b.kind)=true:=by simp;omega
  have e2:¬ a.kind < b.kind:=by omega
  rw [zns h1];simp [e,e2]
theorem zAZ:CmpOk rCmp:=by
 have hi:=zAt
 have hb:=zAs
 refine ⟨fun a b=>?_,fun a b=>?_,fun {a b d} h1 h2=>?_⟩
 ·rw [znH]
  have z1:=hi.zero a.kind b.kind
  have z2:=hi.zero a.int b.int
  have z3:=hb.zero a.text b.text
  constructor
  ·intro h
   split at h
   ·split at h
    ·cases a;cases b;simp_all
    ·omega
   ·omega
  ·rintro rfl
   simp [(hi.zero _ _).2 rfl,(hb.zero _ _).2 rfl]
 ·rw [znH,znH]
  have z1:=hi.zero a.kind b.kind
  have z1':=hi.zero b.kind a.kind
  have z2:=hi.zero a.int b.int
  have z2':=hi.zero b.int a.int
  by_cases e1:a.kind=b.kind
  ·rw [if_pos (z1.2 e1),if_pos (z1'.2 e1.symm)]
   by_cases e2:a.int=b.int
   ·rw [if_pos (z2.2 e2),if_pos (z2'.2 e2.symm)];exact hb.anti _ _
   ·rw [if_neg (fun k=>e2 (z2.1 k)),if_neg (fun k=>e2 (z2'.1 k).symm)];exact hi.anti _ _
  ·rw [if_neg (fun k=>e1 (z1.1 k)),if_neg (fun k=>e1 (z1'.1 k).symm)];exact hi.anti _ _
 ·have key:∀ x y:V,rCmp x y < 0↔x.kind < y.kind\/(x.kind=y.kind/\(x.int < y.int\/(x.int=y.int/\cmpB x.text y.text < 0))):=by
   intro x y
   rw [znH]
   rcases Int.lt_trichotomy x.kind y.kind with h1|h1|h1
   ·rw [znt h1];simp [h1]
   ·rw [znr h1]
    rcases Int.lt_trichotomy x.int y.int with h2|h2|h2
    ·rw [znt h2];simp [h1,h2]
    ·rw [znr h2];simp [h1,h2]
    ·have e:¬ x.int < y.int:=by omega
     have e2:x.int≠y.int:=by omega
     rw [zns h2];simp [h1,e,e2]
   ·have e:¬ x.kind < y.kind:=by omega
    have e2:x.kind≠y.kind:=by omega
    rw [zns h1];simp [e,e2]
  rw [key] at h1 h2 ⊢
  rcases h1 with h1|⟨e1,h1|⟨f1,h1⟩⟩ <;> rcases h2 with h2|⟨e2,h2|⟨f2,h2⟩⟩
  all_goals first|(left;omega)|(right;refine ⟨by omega,?_⟩;first|(left;omega)|(right;exact ⟨by omega,hb.trans h1 h2⟩))
theorem zq7 (a b:List V):∀ (l:List V) (i:Nat),i<=b.length->a.length=i+l.length->zg6 a b l i=lexC rCmp l (b.drop i)
 | [],i,hi,ha=>by
  simp only [zg6,yG]
  simp at ha
  by_cases h:i=b.length
  ·have e1:b.drop i=[]:=yAJ Zo
   have e2:¬ ((a.length:Nat):Int) < (b.length:Nat):=by omega
   have e3:¬ ((b.length:Nat):Int) < (a.length:Nat):=by omega
   rw [e1];simp only [lexC,e2,e3,decide_false,cond_false]
  ·have e2:((a.length:Nat):Int) < (b.length:Nat):=by omega
   cases hd:b.drop i with
   | nil=>have:=congrArg List.length hd;simp at this;omega
   | cons y s=>simp only [lexC,e2,decide_true,cond_true]
 | x::r,i,hi,ha=>by
  simp only [zg6,yG]
  by_cases h:i < b.length
  ·have e2:((i:Nat):Int) < (b.length:Nat):=by omega
   have hv:zak b ((i:Nat):Int)=b[i]:=by simp [zak,h]
   rw [yAf h]
   have ih:=zq7 a b r (i+1) Zo (by simp at ha;omega)
   simp only [e2,decide_true,cond_true,hv,ih,lexC]
   by_cases hz:rCmp x b[i]=0
   ·simp [hz]
   ·have hb:(rCmp x b[i] != 0)=true:=by simpa using hz
    simp [hz,hb]
  ·have e2:¬ ((i:Nat):Int) < (b.length:Nat):=by omega
   have e1:b.drop i=[]:=yAJ Zo
   have f1:¬ ((a.length:Nat):Int) < (b.length:Nat):=by simp at ha;omega
   have f2:((b.length:Nat):Int) < (a.length:Nat):=by simp at ha;omega
   rw [e1]
   simp only [e2,f1,f2,decide_false,decide_true,cond_false,cond_true,lexC]
theorem zzP (a b:List V):zcM a b=lexC rCmp a b:=zq7 a b a 0 Zo Zo
theorem zlH:CmpOk zcM:=by
 have:zcM=lexC rCmp:=funext fun a=>funext fun b=>zzP a b
 rw [this];exact zAZ.lex
/- ### sorting -/
abbrev LeR (x y:List V):Prop:=¬ 0 < zcM x y
theorem zAL (x y:List V):LeR x y↔zcM x y < 0\/x=y:=by
 have h:=zlH.zero x y
 unfold LeR
 constructor
 ·intro h1
  by_cases h2:zcM x y=0
  ·exact .inr (h.1 h2)
  ·exact .inl Zo
 ·rintro (h1|h1)
  ·omega
  ·rw [h.2 h1];omega
theorem LeR.trans {x y z:List V} (h1:LeR x y) (h2:LeR y z):LeR x z:=by
 rw [zAL] at *
 rcases h1 with h1|rfl
 ·rcases h2 with h2|rfl
  ·exact .inl (zlH.trans h1 h2)
  ·exact .inl h1
 ·exact h2
theorem zcG {p:Prop} (h:p:=by first|assumption|omega|(simp;done)|(simp;omega)):p:=h
structure ChV (t:Tb) (c:Ch):Prop where
 del:c.del.Pairwise fun a b=>a < b
 delIn:∀ d∈c.del,(get6 d t.rows).2=true
 upd:c.upd.Pairwise fun a b=>a.id < b.id
 updIn:∀ p∈c.upd,get6 p.id t.rows=(p.old,true)/\anyI c.del p.id=false/\p.nw.length=t.sch.cols.length
 ins:∀ r∈c.ins,r.length=t.sch.cols.length
 ld:c.del.length<=100000
 lu:c.upd.length<=100000
 li:c.ins.length<=100000
theorem ztu {l:List Int} (h:l.Pairwise fun a b=>a < b) {i:Nat} {x:Int} (hx:l[i]?=some x):anyI (l.take i) x=false:=by
 cases ha:anyI (l.take i) x
 ·rfl
 ·exfalso
  have hm:=ze1.1 ha
  obtain ⟨j,hj⟩:=yQ hm
  have hj1:j < i:=by
   have:=(yB.1 hj).1;simp at this;omega
  rw [List.getElem?_take_of_lt hj1] at hj
  obtain ⟨a1,a2⟩:=yB.1 hx
  obtain ⟨b1,b2⟩:=yB.1 hj
  have:=yAW.1 h j i b1 a1 hj1
  rw [a2,b2] at this;omega
noncomputable def L_vd (t:Tb) (c:Ch) (i:Nat) (ks:List Int):Cfg:=zai B.AY 0 [(2,.p 0 0),(3,.p 1 0),(5,iv ((t.sch.cols.map Col.cells).length:Nat)),(6,.mp 2),(26,isl c.del),(27,iv ((c.del.map zbh).length:Nat)),(28,iv (i:Nat))] [.box t.cells,.box c.cells,.mp (ks.map itI)]
theorem zk9 (t:Tb) (c:Ch) (hs:zac t.rows) (hvs:∀ r∈t.rows,zac r.vals) (hc:ChV t c) (i:Nat) (ks:List Int) (hi:i<=(c.del).length) (hI:1<=i/\ks=c.del.take i):∃ (ks':List Int),(1<=(c.del).length/\ks'=c.del.take (c.del).length)/\(decide ((((c.del).length:Nat):Int) < (((c.del.map zbh).length:Nat):Int))=false)/\∀ R,Good E0 B.AY [] (L_vd t c (c.del).length ks') R->Good E0 B.AY [] (L_vd t c i ks) R:=by
 have hk:=hi;revert i ks;refine zlp ((c.del).length) (fun i hlt ih ks hi hI _=>?_)
 obtain ⟨x,hx,h0,hw⟩:=zlq (l:=c.del) ((c.del.map zbh).length) hlt (by (have:=hc.ld;omega))
 have a1:(!(get6 x t.rows).2)=false:=(by rw [hc.delIn x (yC hx)];rfl);have a5:decide ((0:Int) < ((i:Nat):Int))=true:=Zp;have hil:=zb1 hx;have hld:=hc.ld
 have a4:∀ y,AtI c.del (IntKind.i64.wrap (((i:Nat):Int) - 1)) y->decide (x<=y)=false:=fun y hy=>zoJ (f:=fun z=>z) hc.del hx hI.1 Zo hy
 have a8:anyI ks x=false:=(by rw [hI.2];exact ztu hc.del hx)
 obtain ⟨x1,e1⟩:=zdN (l:=c.del) (i:=IntKind.i64.wrap ((i:Int) - (1:Int))) (by exact zoO hx hI.1 Zo)
 exact Zih (ih (ks++[x]) Zo (by exact ⟨by omega,by rw [yP,hx,← hI.2];rfl⟩) Zo) fun R gY=>zaa (wkl [sb h0,se (zaf (fun n=>[iv n]) hx rfl),sc (zlx t x zcG zcG),sg a1,sg a5,si (e:=IntKind.i64.wrap ((i:Int) - 1)) rfl,se (zbW (fun n=>[iv n]) e1 rfl),sb (a4 x1 e1),sx (.call [] .un [.mp (List.map itI (ks++[x]))]) (And.intro (zbp x) (zvf ks x zcG)),si hw] [2,3,5,6,26,27,28] 3 kr gY)
theorem zkb (t:Tb) (c:Ch) (hs:zac t.rows) (hvs:∀ r∈t.rows,zac r.vals) (hc:ChV t c):decide (((c.del.length:Nat):Int) < (((c.del.map zbh).length:Nat):Int))=false/\∀ R,Good E0 B.AY [] (L_vd t c c.del.length c.del) R->Good E0 B.AY [] (L_vd t c 0 []) R:=by
 cases hrw:c.del with
 | nil=>exact ⟨by simp,fun R h=>h⟩
 | cons x r =>
  have hx:c.del[0]?=some x:=by rw [hrw];rfl
  obtain ⟨ks,⟨_,hks⟩,h1,h2⟩:=zk9 t c hs hvs hc 1 [x] (by rw [hrw];simp) ⟨yJ 1,by rw [hrw];rfl⟩
  rw [← hrw]
  refine ⟨h1,fun R h=>?_⟩
  rw [yL] at hks
  subst hks
  have hg:=h2 R h
  have h0:decide (((0:Nat):Int) < (((c.del.map zbh).length:Nat):Int))=true:=by rw [hrw];simp
  have a1:(!(get6 x t.rows).2)=false:=(by rw [hc.delIn x (yC hx)];rfl)
  have a8:anyI [] x=false:=rfl
  refine zaa ?_
  exact wkl [sb h0,se (zaf (fun n=>[iv n]) hx rfl),sc (zlx t x zcG zcG),sg a1,sb Zf,sx (.call [] .un [.mp (List.map itI ([]++[x]))]) (And.intro (zbp x) (zvf ([]) x zcG)),si (zap (t:=(↑0:Int)+1) (n:=0+1) Zo Zo)] [2,3,5,6,26,27,28] 3 kr (hg)
theorem zpu (a:List V):(zcM a a != 0)=false:=by
 rw [(zlH.zero a a).2 rfl];rfl
structure UpF (t:Tb) (c:Ch) (x:Pr):Prop where
 get:zab E0 S.CL [t.av,iv x.id] [] (.tup [vsl x.old,bv true]) []
 cmp:zab E0 S.Cb [vsl x.old,vsl x.old] [] (iv 0) []
 look:LookV (c.del.map itI) (iv x.id) (.bl false) (bv false)
 len:(((x.nw.map V.cells).length:Int) != ((t.sch.cols.map Col.cells).length:Int))=false
theorem ChV.upF {t:Tb} {c:Ch} (hc:ChV t c) (hs:zac t.rows) (hvs:∀ r∈t.rows,zac r.vals) {x:Pr} (hx:x∈c.upd) (hso:zac x.old):UpF t c x:=by
 obtain ⟨b1,b2,b3⟩:=hc.updIn x hx
 refine ⟨?_,?_,?_,by simp [b3]⟩
 ·have h:=zlx t x.id hs hvs;rwa [b1] at h
 ·have h:=zmN x.old x.old hso hso
  have e:zcM x.old x.old=0:=by simpa using zpu x.old
  rwa [e] at h
 ·have h:=zzk c.del x.id;rwa [b2] at h
noncomputable def L_vu (t:Tb) (c:Ch) (i:Nat) :Cfg:=zai B.AY 1 [(2,.p 0 0),(3,.p 1 0),(5,iv ((t.sch.cols.map Col.cells).length:Nat)),(6,.mp 2),(59,.sl (c.upd.map Pr.cells)),(60,iv ((c.upd.map Pr.cells).length:Nat)),(61,iv (i:Nat))] [.box t.cells,.box c.cells,.mp (c.del.map itI)]
theorem zla (t:Tb) (c:Ch) (hs:zac t.rows) (hvs:∀ r∈t.rows,zac r.vals) (hc:ChV t c) (hso:∀ p∈c.upd,zac p.old) (i:Nat)  (hi:i<=(c.upd).length) (hI:1<=i):(1<=(c.upd).length)/\(decide ((((c.upd).length:Nat):Int) < (((c.upd.map Pr.cells).length:Nat):Int))=false)/\∀ R,Good E0 B.AY [] (L_vu t c (c.upd).length ) R->Good E0 B.AY [] (L_vu t c i ) R:=by
 have hk:=hi;revert i;refine zlp ((c.upd).length) (fun i hlt ih hi hI _=>?_)
 obtain ⟨x,hx,h0,hw⟩:=zlq (l:=c.upd) ((c.upd.map Pr.cells).length) hlt (by (have:=hc.lu;omega))
 obtain ⟨f1,f2,f3,a7⟩:=hc.upF hs hvs (yC hx) (hso x (yC hx));have hil:=zb1 hx;have hlu:=hc.lu;have a5:decide ((0:Int) < ((i:Nat):Int))=true:=Zp
 have a4:∀ y,AtI c.upd (IntKind.i64.wrap (((i:Nat):Int) - 1)) y->decide (x.id<=y.id)=false:=fun y hy=>zoJ (f:=fun z=>z.id) hc.upd hx hI Zo hy
 have a6:∀ y,AtI c.upd (IntKind.i64.wrap (((i:Nat):Int) - 1)) y->(bif decide ((0:Int) < ((i:Nat):Int)) then decide (x.id<=y.id) else false)=false:=fun y hy=>(by rw [a5,a4 y hy];rfl)
 have d3:∀ y,AtI c.upd (IntKind.i64.wrap (((i:Nat):Int) - 1)) y->(bif (bif decide ((0:Int) < ((i:Nat):Int)) then decide (x.id<=y.id) else false) then true else ((0:Int) != 0))=false:=fun y hy=>(by rw [a6 y hy];rfl)
 have d4:∀ y,AtI c.upd (IntKind.i64.wrap (((i:Nat):Int) - 1)) y->(bif (bif (bif decide ((0:Int) < ((i:Nat):Int)) then decide (x.id<=y.id) else false) then true else ((0:Int) != 0)) then true else ((x.nw.map V.cells).length:Int) != ((t.sch.cols.map Col.cells).length:Int))=false:=fun y hy=>(by rw [d3 y hy,a7];rfl)
 obtain ⟨x1,e1⟩:=zdN (l:=c.upd) (i:=IntKind.i64.wrap ((i:Int) - (1:Int))) (by exact zoO hx hI Zo)
 obtain ⟨qZ,xZ,gZ⟩:=ih Zo Zo Zo;exact ⟨qZ,xZ,fun R hg=>zaa (wkl [sb h0,se (zaf Pr.cells hx rfl),sc f1,sd [(3,[sg Zf]),(4,[sg Zf]),(5,[sg Zf]),(6,[so Zf (sx (.el [bv false]) (And.intro (zbp x.id) f3))]),(9,[sg Zf]),(10,[sg Zf]),(11,[sg Zf]),(12,[sg a5]),(13,[sg a5]),(14,[sg a5]),(15,[so a5 (si (e:=IntKind.i64.wrap ((i:Int) - 1)) rfl)]),(16,[so a5 (se (zbW Pr.cells e1 rfl))]),(17,[sg a5]),(18,[sg a5]),(19,[sg a5]),(20,[sg a5]),(21,[sg a5]),(22,[sg Zf]),(25,[sg (a6 x1 e1)]),(26,[sg (a6 x1 e1)]),(27,[sg (a6 x1 e1)]),(28,[so (a6 x1 e1) (sc f2)]),(29,[sg (a6 x1 e1)]),(32,[sg (d3 x1 e1)]),(33,[sg (d3 x1 e1)]),(34,[sg (d3 x1 e1)]),(35,[sg (d3 x1 e1)]),(36,[sg (d3 x1 e1)])],sb (d4 x1 e1),si hw] [2,3,5,6,59,60,61] 3 kr (gZ R hg))⟩
theorem zkd (t:Tb) (c:Ch) (hs:zac t.rows) (hvs:∀ r∈t.rows,zac r.vals) (hc:ChV t c) (hso:∀ p∈c.upd,zac p.old):decide (((c.upd.length:Nat):Int) < (((c.upd.map Pr.cells).length:Nat):Int))=false/\∀ R,Good E0 B.AY [] (L_vu t c c.upd.length) R->Good E0 B.AY [] (L_vu t c 0) R:=by
 cases hrw:c.upd with
 | nil=>exact ⟨by simp,fun R h=>h⟩
 | cons x r =>
  have hx:c.upd[0]?=some x:=by rw [hrw];rfl
  obtain ⟨_,h1,h2⟩:=zla t c hs hvs hc hso 1 (by rw [hrw];simp) (yJ 1)
  rw [← hrw]
  refine ⟨h1,fun R h=>?_⟩
  have hg:=h2 R h
  have h0:decide (((0:Nat):Int) < (((c.upd.map Pr.cells).length:Nat):Int))=true:=by rw [hrw];simp
  obtain ⟨f1,f2,f3,a7⟩:=hc.upF hs hvs (yC hx) (hso x (yC hx))
  refine zaa ?_
  exact wkl [sb h0,se (zaf Pr.cells hx rfl),sc f1,sd [(3,[sg Zf]),(4,[sg Zf]),(5,[sg Zf]),(6,[so Zf (sx (.el [bv false]) (And.intro (zbp x.id) f3))]),(9,[sg Zf]),(10,[sg Zf]),(11,[sg Zf]),(12,[sb Zf]),(13,[sb Zf]),(14,[sb Zf]),(15,[sb Zf]),(16,[sb Zf]),(17,[sb Zf]),(18,[sb Zf]),(19,[sb Zf]),(20,[sb Zf]),(21,[sb Zf]),(22,[so Zf (sb Zf)]),(25,[sg Zf]),(26,[sg Zf]),(27,[sg Zf]),(28,[so Zf (sc f2)]),(29,[sg Zf]),(32,[sg Zf]),(33,[sg Zf]),(34,[sg Zf]),(35,[sg Zf]),(36,[sg Zf])],sb a7,si (zap (t:=(↑0:Int)+1) (n:=0+1) Zo Zo)] [2,3,5,6,59,60,61] 3 kr (hg)
noncomputable def L_vi7 (t:Tb) (c:Ch) (i:Nat) :Cfg:=zai B.AY 2 [(5,iv ((t.sch.cols.map Col.cells).length:Nat)),(113,.sl (c.ins.map vrow)),(114,iv ((c.ins.map vrow).length:Nat)),(115,iv (i:Nat))] [.box t.cells,.box c.cells,.mp (c.del.map itI)]
theorem zkc (t:Tb) (c:Ch) (hl:zac c.ins) (hc:∀ r∈c.ins,r.length=t.sch.cols.length) (i:Nat)  (hi:i<=(c.ins).length) (hI:True):(True)/\(decide ((((c.ins).length:Nat):Int) < (((c.ins.map vrow).length:Nat):Int))=false)/\∀ R,Good E0 B.AY [] (L_vi7 t c (c.ins).length ) R->Good E0 B.AY [] (L_vi7 t c i ) R:=by
 have hk:=hi;revert i hI;refine zlp ((c.ins).length) (fun i hlt ih hi hI _=>?_)
 obtain ⟨x,hx,h0,hw⟩:=zlq (l:=c.ins) ((c.ins.map vrow).length) hlt
 have a7:(((x.map V.cells).length:Int) != ((t.sch.cols.map Col.cells).length:Int))=false:=(by simp [hc x (yC hx)])
 obtain ⟨qZ,xZ,gZ⟩:=ih Zo (by first|trivial|assumption|(simp;done)|omega|(simp;omega)|(simp at *;omega)) Zo;exact ⟨qZ,xZ,fun R hg=>zaa (wkl [sb h0,se (zaf vrow hx rfl),sb a7,si hw] [5,113,114,115] 3 kr (gZ R hg))⟩
theorem zrB (t:Tb) (c:Ch) (hs:zac t.rows) (hvs:∀ r∈t.rows,zac r.vals) (hc:ChV t c) (hso:∀ p∈c.upd,zac p.old) (hli:zac c.ins) (hin:∀ r∈c.ins,r.length=t.sch.cols.length) (hv:zab E0 S.Cf [t.av] [] (bv true) []):∃ (b:Bool),b=true/\zab E0 S.AY [t.av,c.av] [] (bv b) []:=by
 obtain ⟨q1,g1⟩:=zkb t c zcG zcG zcG
 obtain ⟨q2,g2⟩:=zkd t c zcG zcG zcG zcG
 obtain ⟨q3,q3_1,g3⟩:=zkc t c zcG zcG 0 zcG zcG
 exact ⟨true,Zr,wkc At.AY [sc hv,sb Zf] [2,3,5,6,26,27,28] 3 kr (g1 _ (zaa (wkl [sb q1] [2,3,5,6,59,60,61] 3 kr (g2 _ (zaa (wkl [sb q2] [5,113,114,115] 3 kr (g3 _ (zaa (wkr [sb q3_1] kr)))))))))⟩
theorem zqS {n:Int}:∀ (l:List Rw),(get6 n l).2=true->∃ r∈l,r.id=n/\(get6 n l).1=r.vals
 | [],h=>by cases h
 | r::l,h=>by
  unfold get6 at h ⊢
  cases h1:r.id==n
  ·rw [h1] at h
   obtain ⟨q,hq,h2⟩:=zqS l h
   exact ⟨q,by simp [hq],h2⟩
  ·exact ⟨r,by simp,by simpa using h1,rfl⟩
theorem zpg (t:Tb) (c:Ch) (ht:TabV t) (hc:ChV t c):zab E0 S.AY [t.av,c.av] [] (bv true) []:=by
 have hso:∀ p∈c.upd,zac p.old:=fun p hp=>by
  have h1:=(hc.updIn p hp).1
  obtain ⟨r,hr,_,h2⟩:=zqS (n:=p.id) t.rows (by rw [h1])
  rw [h1] at h2
  have h3:p.old=r.vals:=h2
  rw [h3];exact ht.vals r hr
 obtain ⟨b,rfl,h⟩:=zrB t c ht.shr ht.vals hc hso (by have:=hc.li;simp only [zac];omega) hc.ins (zpe t ht)
 exact h
theorem zbw {p:Prop} (h:p:=by first|assumption|rfl|exact ⟨yAh _,rfl⟩|exact apI_0 ‹_›|exact zAb ‹_› hm hl5|omega):p:=h
theorem zkN {p:Prop} (h:p:=by first|exact apq_u ‹_›|exact apq_i ‹_›|exact apq_l1 ‹_› hl5 hr5 ‹_›|exact apq_l2 hn ‹_›|exact apq_d ‹_› ‹_› ‹_›|exact apq_0 ‹_› hl5 hr5 hn ‹_› ‹_› ‹_› ‹_› ‹_› ‹_› ‹_›):p:=h
theorem zdy {p:Prop} (h:p:=by first|assumption|omega|(simp;done)|(simp;omega)):p:=h
theorem ztW {p:Prop} (h:p:=by first|exact mid_0 hI hx ‹_›|exact zwZ hI hx ‹_› (by simp only [*];rfl)):p:=h
def zbl (s:Sch):List Pr->Int
 | []=>0
 | p::r=>bif fit5 s p.nw != 0 then fit5 s p.nw else zbl s r
def zbB (s:Sch):List (List V)->Int
 | []=>0
 | p::r=>bif fit5 s p != 0 then fit5 s p else zbB s r
noncomputable def zvN (t:Tb) (c:Ch) (i:Nat) :Cfg:=zai B.Az 0 [(2,.p 0 0),(3,.p 1 0),(4,.p 2 0),(26,.sl (c.upd.map Pr.cells)),(27,iv ((c.upd.map Pr.cells).length:Nat)),(28,iv (i:Nat))] [.box t.cells,.box c.cells,.box [sv ⟨#[]⟩,.nl,iv 0,.nl]]
theorem zka (t:Tb) (c:Ch) (hl:zac c.upd) (hs:zac t.sch.cols) (hg:∀ p∈c.upd,∀ v∈p.nw,v.Good) (i:Nat)  (hi:i<=(c.upd).length) (hI:zbl t.sch c.upd=zbl t.sch (c.upd.drop i)):((zbl t.sch c.upd=zbl t.sch (c.upd.drop (c.upd).length))/\(decide ((((c.upd).length:Nat):Int) < (((c.upd.map Pr.cells).length:Nat):Int))=false)/\∀ R,Good E0 B.Az [] (zvN t c (c.upd).length ) R->Good E0 B.Az [] (zvN t c i ) R)\/(∃ (x':Tb) (r:Int),(r≠0/\r=zbl t.sch c.upd)/\Good E0 B.Az [] (zvN t c i ) (Shut 0 fun rZ hZ=>rZ=(.tup [Tb.av x',iv r])/\hZ=[])):=by
 have hk:=hi;revert i;refine zlp ((c.upd).length) (fun i hlt ih hi hI _=>?_)
 obtain ⟨x,hx,h0,hw⟩:=zlq (l:=c.upd) ((c.upd.map Pr.cells).length) hlt
 have hgx:=hg x (yC hx)
 let p_1:List St:=[sb h0,se (zaf Pr.cells hx rfl),sc (zeK t.sch x.nw zdy zdy)]
 cases h1:fit5 t.sch x.nw != 0
 ·exact (ih Zo (by (rw [hI,zaB hx];simp only [zbl, *,cond_false])) Zo).elim (fun ⟨qZ,xZ,gZ⟩=>.inl ⟨qZ,xZ,fun R hg=>zaa (wkl (p_1++[sb h1,si hw]) [2,3,4,26,27,28] 3 kr (gZ R hg))⟩) (fun ⟨x'Y,rY,pZ,gZ⟩=>.inr ⟨x'Y,rY,pZ,zaa (wkl [sb h0,se (zaf Pr.cells hx rfl),sc (zeK t.sch x.nw zdy zdy),sb h1,si hw] [2,3,4,26,27,28] 3 kr gZ)⟩)
 ·exact .inr ⟨Tb.mk (Sch.mk Zs0 []) 0 [],fit5 t.sch x.nw,(by (refine ⟨by simpa using ‹(fit5 _ _ != 0)=true›,?_⟩;rw [hI,zaB hx];simp only [zbl, *,cond_true])),zaa (wkr (p_1++[sb h1]) kr)⟩
noncomputable def zvM (t:Tb) (c:Ch) (i:Nat) :Cfg:=zai B.Az 1 [(2,.p 0 0),(3,.p 1 0),(4,.p 2 0),(43,.sl (c.ins.map vrow)),(44,iv ((c.ins.map vrow).length:Nat)),(45,iv (i:Nat))] [.box t.cells,.box c.cells,.box [sv ⟨#[]⟩,.nl,iv 0,.nl]]
theorem zj7 (t:Tb) (c:Ch) (hl:zac c.ins) (hs:zac t.sch.cols) (hg:∀ p∈c.ins,∀ v∈p,v.Good) (i:Nat)  (hi:i<=(c.ins).length) (hI:zbB t.sch c.ins=zbB t.sch (c.ins.drop i)):((zbB t.sch c.ins=zbB t.sch (c.ins.drop (c.ins).length))/\(decide ((((c.ins).length:Nat):Int) < (((c.ins.map vrow).length:Nat):Int))=false)/\∀ R,Good E0 B.Az [] (zvM t c (c.ins).length ) R->Good E0 B.Az [] (zvM t c i ) R)\/(∃ (x':Tb) (r:Int),(r≠0/\r=zbB t.sch c.ins)/\Good E0 B.Az [] (zvM t c i ) (Shut 0 fun rZ hZ=>rZ=(.tup [Tb.av x',iv r])/\hZ=[])):=by
 have hk:=hi;revert i;refine zlp ((c.ins).length) (fun i hlt ih hi hI _=>?_)
 obtain ⟨x,hx,h0,hw⟩:=zlq (l:=c.ins) ((c.ins.map vrow).length) hlt
 have hgx:=hg x (yC hx)
 let p_1:List St:=[sb h0,se (zaf vrow hx rfl),sc (zeK t.sch x zdy zdy)]
 cases h1:fit5 t.sch x != 0
 ·exact (ih Zo (by (rw [hI,zaB hx];simp only [zbB, *,cond_false])) Zo).elim (fun ⟨qZ,xZ,gZ⟩=>.inl ⟨qZ,xZ,fun R hg=>zaa (wkl (p_1++[sb h1,si hw]) [2,3,4,43,44,45] 3 kr (gZ R hg))⟩) (fun ⟨x'Y,rY,pZ,gZ⟩=>.inr ⟨x'Y,rY,pZ,zaa (wkl [sb h0,se (zaf vrow hx rfl),sc (zeK t.sch x zdy zdy),sb h1,si hw] [2,3,4,43,44,45] 3 kr gZ)⟩)
 ·exact .inr ⟨Tb.mk (Sch.mk Zs0 []) 0 [],fit5 t.sch x,(by (refine ⟨by simpa using ‹(fit5 _ _ != 0)=true›,?_⟩;rw [hI,zaB hx];simp only [zbB, *,cond_true])),zaa (wkr (p_1++[sb h1]) kr)⟩
def midS (c:Ch) (r:Rw):Option Rw:=bif anyI c.del r.id then none else some ⟨r.id,bif (fnd7 r.id c.upd).2 then (fnd7 r.id c.upd).1 else r.vals⟩
def midR (c:Ch) (l:List Rw):List Rw:=l.filterMap (midS c)
theorem zvu {c:Ch} {l:List Rw} {i:Nat} {x:Rw} (hx:l[i]?=some x):midR c (l.take (i+1))=midR c (l.take i)++(midS c x).toList:=by
 unfold midR
 rw [yP,hx,List.filterMap_append]
 cases h:midS c x <;> simp [h]
theorem mid_0 {c:Ch} {l:List Rw} {i:Nat} {x:Rw} {rs:List Rw} (hI:rs.length<=i/\rs=midR c (l.take i)) (hx:l[i]?=some x) (h:anyI c.del x.id=true):rs.length<=i+1/\rs=midR c (l.take (i+1)):=by
 rw [zvu hx,midS,h];exact ⟨by omega,by simpa using hI.2⟩
theorem zwZ {c:Ch} {l:List Rw} {i:Nat} {x:Rw} {rs:List Rw} {v:List V} (hI:rs.length<=i/\rs=midR c (l.take i)) (hx:l[i]?=some x) (h:anyI c.del x.id=false) (hv:v=bif (fnd7 x.id c.upd).2 then (fnd7 x.id c.upd).1 else x.vals):(rs++[Rw.mk x.id v]).length<=i+1/\rs++[⟨x.id,v⟩]=midR c (l.take (i+1)):=by
 rw [zvu hx,midS,h,← hI.2,hv];exact ⟨by simp;omega,by simp⟩
noncomputable def L_apR (t:Tb) (c:Ch) (i:Nat) (rs:List Rw):Cfg:=zai B.Az 2 [(2,.p 0 0),(3,.p 1 0),(4,.p 2 0),(12,.p 3 0),(65,.sl (t.rows.map Rw.cells)),(66,iv ((t.rows.map Rw.cells).length:Nat)),(67,iv (i:Nat))] [.box t.cells,.box c.cells,.box [sv ⟨#[]⟩,.nl,iv 0,.nl],.box [sv t.sch.name,.sl (t.sch.cols.map Col.cells),iv t.next,.own 4 rs.length],.row Ty.Row (rs.map Rw.cells) false]
theorem zj9 (t:Tb) (c:Ch) (hl:zac c.upd) (hd:zac c.del) (hrs:zac t.rows) (hvs:∀ r∈t.rows,zac r.vals) (hfs:∀ n,zac (fnd7 n c.upd).1) (i:Nat) (rs:List Rw) (hi:i<=(t.rows).length) (hI:rs.length<=i/\rs=midR c (t.rows.take i)):∃ (rs':List Rw),(rs'.length<=(t.rows).length/\rs'=midR c (t.rows.take (t.rows).length))/\(decide ((((t.rows).length:Nat):Int) < (((t.rows.map Rw.cells).length:Nat):Int))=false)/\∀ R,Good E0 B.Az [] (L_apR t c (t.rows).length rs') R->Good E0 B.Az [] (L_apR t c i rs) R:=by
 have hk:=hi;revert i rs;refine zlp ((t.rows).length) (fun i hlt ih rs hi hI _=>?_)
 obtain ⟨x,hx,h0,hw⟩:=zlq (l:=t.rows) ((t.rows.map Rw.cells).length) hlt
 have hvx:=hvs x (yC hx);have hfx:=hfs x.id;have hol:rs.length<=1000000000:=(by have:=hI.1;simp only [zac] at hrs;omega)
 let p_1:List St:=[sb h0,se (zaf Rw.cells hx rfl),sc (zwU c.del x.id zdy)]
 cases h1:c.del.any fun x_1=>x_1==x.id
 ·let p_2:List St:=p_1++[sb h1,sc (zuO c.upd x.id zdy)]
  cases h2:(fnd7 x.id c.upd).snd
  ·exact Zih (ih (rs++[x]) Zo ztW Zo) fun R gY=>zaa (wkl (p_2++[sb h2,sd [(5,[sc (zbN x.vals zdy)]),(8,[sqA (List.map Rw.cells rs) [[iv x.id,vsl (zbd x.vals)]] rs.length 2 32])],si hw]) [2,3,4,12,65,66,67] 5 kr (zas rfl (show ([Blk.box [sv t.sch.name,ZC t.sch.cols,iv t.next,ZW t.rows],Blk.box [AV.sl (List.map vrow c.ins),AV.sl (List.map (fun n=>[iv n]) c.del),AV.sl (List.map Pr.cells c.upd)],Blk.box [sv Zs0,AV.nl,iv 0,AV.nl],Blk.box [sv t.sch.name,ZC t.sch.cols,iv t.next,AV.own 4 (List.map Rw.cells rs++[[iv x.id,vsl (zbd x.vals)]]).length],Blk.row Ty.Row (List.map Rw.cells rs++[[iv x.id,vsl (zbd x.vals)]]) false]:Heap)=_ by first|rfl|(simp [Rw.cells,Tb.cells,Ch.cells,Pr.cells,zbd];done)) gY))
  ·exact Zih (ih (rs++[Rw.mk x.id (zbd (fnd7 x.id c.upd).fst)]) Zo ztW Zo) fun R gY=>zaa (wkl (p_2++[sb h2,sd [(5,[sc (zbN ((fnd7 x.id c.upd).fst) zdy)]),(8,[sqA (List.map Rw.cells rs) [[iv x.id,vsl (zbd (fnd7 x.id c.upd).fst)]] rs.length 2 32])],si hw]) [2,3,4,12,65,66,67] 5 kr (zas rfl (show ([Blk.box [sv t.sch.name,ZC t.sch.cols,iv t.next,ZW t.rows],Blk.box [AV.sl (List.map vrow c.ins),AV.sl (List.map (fun n=>[iv n]) c.del),AV.sl (List.map Pr.cells c.upd)],Blk.box [sv Zs0,AV.nl,iv 0,AV.nl],Blk.box [sv t.sch.name,ZC t.sch.cols,iv t.next,AV.own 4 (List.map Rw.cells rs++[[iv x.id,vsl (zbd (fnd7 x.id c.upd).fst)]]).length],Blk.row Ty.Row (List.map Rw.cells rs++[[iv x.id,vsl (zbd (fnd7 x.id c.upd).fst)]]) false]:Heap)=_ by first|rfl|(simp [Rw.cells,Tb.cells,Ch.cells,Pr.cells,zbd];done)) gY))
 ·exact Zih (ih rs Zo ztW Zo) fun R gY=>zaa (wkl (p_1++[sb h1,si hw]) [2,3,4,12,65,66,67] 5 kr gY)
def insN:Int->List (List V)->List Rw
 | _,[]=>[]
 | n,v::r=>⟨n,v⟩::insN (n+1) r
theorem zom:∀ (l:List (List V)) (n:Int) (v:List V),insN n (l++[v])=insN n l++[⟨n+(l.length:Int),v⟩]
 | [],n,v=>by simp [insN]
 | x::l,n,v=>by
  have:=zom l (n+1) v
  simp only [List.cons_append,insN,this,yAL]
  have e:n+1+(l.length:Int)=n+((l.length+1:Nat):Int):=by omega
  rw [e]
theorem zim:∀ (l:List (List V)) (n:Int),(insN n l).length=l.length
 | [],_=>rfl
 | _::l,n=>by simp [insN,zim l]
def ApI (t:Tb) (c:Ch) (i:Nat) (nx:Int) (rs:List Rw):Prop:=nx=t.next+(i:Int)/\rs=midR c t.rows++insN t.next (c.ins.take i)
theorem apI_0 {t:Tb} {c:Ch} {rs:List Rw} (h:rs.length<=t.rows.length/\rs=midR c (t.rows.take t.rows.length)):ApI t c 0 t.next rs:=by
 refine ⟨by omega,?_⟩
 rw [h.2,yL];simp [insN]
theorem zAb {t:Tb} {c:Ch} {nx:Int} {rs:List Rw} {i:Nat} (h:ApI t c i nx rs) (hm:(midR c t.rows).length<=100000) (hl:c.ins.length<=100000):zac rs:=by
 rw [h.2];simp only [zac];rw [yAO,zim,yV];omega
theorem zy1 {t:Tb} {c:Ch} {i:Nat} {nx:Int} {rs:List Rw} {x:List V} (hI:ApI t c i nx rs) (hx:c.ins[i]?=some x):ApI t c (i+1) (nx+1) (rs++[⟨nx,x⟩]):=by
 obtain ⟨rfl,rfl⟩:=hI
 have hl:(c.ins.take i).length=i:=by have:=(yB.1 hx).1;simp;omega
 refine ⟨by omega,?_⟩
 rw [yP,hx,yAV]
 simp only [Option.toList_some]
 rw [zom,hl]
noncomputable def L_apN (t:Tb) (c:Ch) (i:Nat) (nx:Int) (rs:List Rw):Cfg:=zai B.Az 3 [(4,.p 2 0),(12,.p 3 0),(118,.sl (c.ins.map vrow)),(119,iv ((c.ins.map vrow).length:Nat)),(120,iv (i:Nat))] [.box t.cells,.box c.cells,.box [sv ⟨#[]⟩,.nl,iv 0,.nl],.box [sv t.sch.name,.sl (t.sch.cols.map Col.cells),iv nx,.own 4 rs.length],.row Ty.Row (rs.map Rw.cells) false]
theorem zj8 (t:Tb) (c:Ch) (hl:c.ins.length<=100000) (hn:1<=t.next/\t.next<=2147483648) (hvs:∀ r∈c.ins,zac r) (hm:(midR c t.rows).length<=100000) (i:Nat) (nx:Int) (rs:List Rw) (hi:i<=(c.ins).length) (hI:ApI t c i nx rs):∃ (nx':Int) (rs':List Rw),(ApI t c (c.ins).length nx' rs')/\(decide ((((c.ins).length:Nat):Int) < (((c.ins.map vrow).length:Nat):Int))=false)/\∀ R,Good E0 B.Az [] (L_apN t c (c.ins).length nx' rs') R->Good E0 B.Az [] (L_apN t c i nx rs) R:=by
 have hk:=hi;revert i nx rs;refine zlp ((c.ins).length) (fun i hlt ih nx rs hi hI _=>?_)
 obtain ⟨x,hx,h0,hw⟩:=zlq (l:=c.ins) ((c.ins.map vrow).length) hlt Zo
 have hvx:=hvs x (yC hx);have hw1:IntKind.i64.wrap (nx+1)=nx+1:=(by rw [hI.1,IntKind.wrap_i64];omega)
 have hol:rs.length<=1000000000:=by rw [hI.2,yAO,zim,yV];omega
 obtain ⟨nxZ,rsZ,qZ,xZ,gZ⟩:=ih (nx+1) (rs++[Rw.mk nx (zbd x)]) Zo (by exact zy1 hI hx) Zo;exact ⟨nxZ,rsZ,qZ,xZ,fun R hg=>zaa (wkl [sb h0,se (zaf vrow hx rfl),sd [(5,[sc (zbN x zdy)]),(8,[sqA (List.map Rw.cells rs) [[iv nx,vsl (zbd x)]] rs.length 2 32])],si hw1,si hw] [4,12,118,119,120] 5 kr (zas rfl (show ([Blk.box [sv t.sch.name,ZC t.sch.cols,iv t.next,ZW t.rows],Blk.box [AV.sl (List.map vrow c.ins),AV.sl (List.map (fun n=>[iv n]) c.del),AV.sl (List.map Pr.cells c.upd)],Blk.box [sv Zs0,AV.nl,iv 0,AV.nl],Blk.box [sv t.sch.name,ZC t.sch.cols,iv (nx+1),AV.own 4 (List.map Rw.cells rs++[[iv nx,vsl (zbd x)]]).length],Blk.row Ty.Row (List.map Rw.cells rs++[[iv nx,vsl (zbd x)]]) false]:Heap)=_ by first|rfl|(simp [Rw.cells,Tb.cells,Ch.cells,Pr.cells,zbd];done)) (gZ R hg)))⟩
def apT (t:Tb) (c:Ch):Tb:=⟨t.sch,t.next+(c.ins.length:Int),midR c t.rows++insN t.next c.ins⟩
abbrev zc6 (t:Tb) (c:Ch):List V:=zaX (idxF (fun z=>z.key) t.sch.cols 0) (midR c t.rows++insN t.next c.ins)
structure ApQ (t:Tb) (c:Ch) (x:Tb) (g:Int):Prop where
 ok:g=0->x=apT t c/\zbl t.sch c.upd=0/\zbB t.sch c.ins=0/\(zc6 t c).Nodup
 err:g=0\/g=9\/g=10\/g=zbl t.sch c.upd\/g=zbB t.sch c.ins
 good:zbl t.sch c.upd=0->zbB t.sch c.ins=0->(midR c t.rows).length+c.ins.length<=100->(c.ins.length:Int)<=2147483648 - t.next->(zc6 t c).Nodup->g=0
 lim:g=0->(midR c t.rows).length+c.ins.length<=100/\(c.ins.length:Int)<=2147483648 - t.next
section
variable {t x : Tb} {c : Ch} {g nx : Int} {rs rs' : List Rw} {b : Bool}
theorem fu0 (h:zbl t.sch c.upd=zbl t.sch (c.upd.drop c.upd.length)):zbl t.sch c.upd=0:=by rw [h,yAG];rfl
theorem fi0 (h:zbB t.sch c.ins=zbB t.sch (c.ins.drop c.ins.length)):zbB t.sch c.ins=0:=by rw [h,yAG];rfl
theorem apq_u (h:g≠0/\g=zbl t.sch c.upd):ApQ t c x g:=⟨fun e=>absurd e h.1,.inr (.inr (.inr (.inl h.2))),fun e=>absurd (h.2.trans e) h.1,fun e=>absurd e h.1⟩
theorem apq_i (h:g≠0/\g=zbB t.sch c.ins):ApQ t c x g:=⟨fun e=>absurd e h.1,.inr (.inr (.inr (.inr h.2))),fun _ e=>absurd (h.2.trans e) h.1,fun e=>absurd e h.1⟩
theorem apq_l1 (hr:rs.length<=t.rows.length/\rs=midR c (t.rows.take t.rows.length)) (hl:c.ins.length<=100000) (hl2:t.rows.length<=100000) (h:decide ((100:Int) < IntKind.i64.wrap ((rs.length:Int)+((c.ins.map vrow).length:Int)))=true):ApQ t c x 10:=by
 refine ⟨fun e=>by omega,.inr (.inr (.inl rfl)),fun _ _ e=>?_,fun e=>by omega⟩
 rw [yL] at hr
 simp only [decide_eq_true_eq,yG,IntKind.wrap_i64] at h
 rw [← hr.2] at e;omega
theorem apq_l2 (hn:1<=t.next/\t.next<=2147483648) (h:decide (IntKind.i64.wrap (2147483648 - t.next) < ((c.ins.map vrow).length:Int))=true):ApQ t c x 10:=by
 refine ⟨fun e=>by omega,.inr (.inr (.inl rfl)),fun _ _ _ e=>?_,fun e=>by omega⟩
 simp only [decide_eq_true_eq,yG,IntKind.wrap_i64] at h
 omega
theorem apq_d (hI:ApI t c c.ins.length nx rs') (hb:b=false↔(zaX (idxF (fun z=>z.key) t.sch.cols 0) rs').Nodup) (h:b=true):ApQ t c x 9:=by
 refine ⟨fun e=>by omega,.inr (.inl rfl),fun _ _ _ _ e=>?_,fun e=>by omega⟩
 have e2:=hI.2
 rw [yL] at e2
 unfold zc6 at e;rw [← e2] at e
 rw [h] at hb;exact absurd (hb.2 e) Zs
theorem apq_0 (hr:rs.length<=t.rows.length/\rs=midR c (t.rows.take t.rows.length)) (hl:c.ins.length<=100000) (hl2:t.rows.length<=100000) (hn:1<=t.next/\t.next<=2147483648) (ha:decide ((100:Int) < IntKind.i64.wrap ((rs.length:Int)+((c.ins.map vrow).length:Int)))=false) (hc:decide (IntKind.i64.wrap (2147483648 - t.next) < ((c.ins.map vrow).length:Int))=false) (h1:zbl t.sch c.upd=zbl t.sch (c.upd.drop c.upd.length)) (h2:zbB t.sch c.ins=zbB t.sch (c.ins.drop c.ins.length)) (hI:ApI t c c.ins.length nx rs') (hb:b=false↔(zaX (idxF (fun z=>z.key) t.sch.cols 0) rs').Nodup) (h:b=false):ApQ t c ⟨t.sch,nx,rs'⟩ 0:=by
 obtain ⟨e1,e2⟩:=hI
 rw [yL] at e2
 refine ⟨fun _=>⟨by unfold apT;rw [e1,e2],fu0 h1,fi0 h2,?_⟩,.inl rfl,fun _ _ _ _ _=>rfl,fun _=>?_⟩
 ·unfold zc6;rw [← e2];exact hb.1 h
 ·rw [yL] at hr
  simp only [decide_eq_false_iff_not,yG,IntKind.wrap_i64] at ha hc
  rw [← hr.2];exact ⟨by omega,by omega⟩
end
theorem zsH (t:Tb) (c:Ch) (hl:zac c.upd) (hli:zac c.ins) (hl5:c.ins.length<=100000) (hd:zac c.del) (hs:zac t.sch.cols) (hg:∀ p∈c.upd,∀ v∈p.nw,v.Good) (hgi:∀ p∈c.ins,∀ v∈p,v.Good) (hvi:∀ r∈c.ins,zac r) (hrs:zac t.rows) (hr5:t.rows.length<=100000) (hm:(midR c t.rows).length<=100000) (hvs:∀ r∈t.rows,zac r.vals) (hfs:∀ n,zac (fnd7 n c.upd).1) (hn:1<=t.next/\t.next<=2147483648) (hv:zab E0 S.AY [t.av,c.av] [] (bv true) []):∃ (x:Tb) (g:Int),ApQ t c x g/\zab E0 S.Az [t.av,c.av] [] (.tup [x.av,iv g]) []:=by
 rcases zka t c zbw zbw zbw 0 zbw zbw with ⟨q1,q1_1,g1⟩|⟨r1_0,r1_1,p1_0,g1⟩
 ·rcases zj7 t c zbw zbw zbw 0 zbw zbw with ⟨q2,q2_1,g2⟩|⟨r2_0,r2_1,p2_0,g2⟩
  ·obtain ⟨rs3,q3,q3_1,g3⟩:=zj9 t c zbw zbw zbw zbw zbw 0 ([]) zbw zbw
   let p_1:List St:=[sb q2_1,sdm [(1,[sc (zn6 t zbw zbw zbw)]),(2,[sqx (some 65=some 65)])] 0 [(2,AV.p 0 0),(3,AV.p 1 0),(4,AV.p 2 0),(12,AV.p 3 0),(43,AV.sl (List.map vrow c.ins)),(44,iv (↑(List.map vrow c.ins).length:Int)),(45,iv (c.1.length:Int)),(46,AV.bl false),(58,AV.agg [sv t.sch.name,ZC t.sch.cols,iv t.next,ZW t.rows]),(59,AV.agg [sv t.sch.name,ZC t.sch.cols,iv t.next,ZW t.rows]),(60,AV.agg [sv t.sch.name,ZC t.sch.cols]),(61,AV.p 0 2),(62,iv t.next),(63,AV.agg [sv t.sch.name,ZC t.sch.cols,iv t.next,AV.nl])] [Blk.box [sv t.sch.name,ZC t.sch.cols,iv t.next,ZW t.rows],Blk.box [AV.sl (List.map vrow c.ins),AV.sl (List.map (fun n=>[iv n]) c.del),AV.sl (List.map Pr.cells c.upd)],Blk.box [sv Zs0,AV.nl,iv 0,AV.nl],Blk.box [sv t.sch.name,ZC t.sch.cols,iv t.next,AV.nl]]]
   let p_2:List St:=[sb q3_1,sqx (rs3.length=(List.map Rw.cells rs3).length),si (e:=IntKind.i64.wrap ((rs3.length:Int)+(↑(List.map vrow c.ins).length:Int))) rfl]
   cases h4:decide (100 < IntKind.i64.wrap ((rs3.length:Int)+(↑(List.map vrow c.ins).length:Int)))
   ·let p_3:List St:=p_2++[sg h4,si (e:=IntKind.i64.wrap (2147483648 - t.next)) rfl]
    cases h5:decide (IntKind.i64.wrap (2147483648 - t.next) < (↑(List.map vrow c.ins).length:Int))
    ·obtain ⟨nx6,rs6,q6,q6_1,g6⟩:=zj8 t c zbw zbw zbw zbw 0 t.next rs3 zbw zbw
     obtain ⟨b7,q7,c7⟩:=(ziS (Tb.mk t.sch nx6 rs6) zbw zbw)
     let p_4:List St:=[sb q2_1,skx ((True/\True/\True/\rs6.length=(List.map Rw.cells rs6).length/\True)/\True) [] c7]
     rcases (yD b7).symm with h8|h8
     ·exact ⟨Tb.mk t.sch nx6 rs6,0,zkN,wkc At.Az [sc hv,sb Zf] [2,3,4,26,27,28] 3 kr (g1 _ (zaa (wkl [sb q1_1] [2,3,4,43,44,45] 3 kr (g2 _ (zaa (wklN p_1 [2,3,4,12,65,66,67] 4 [(.ob 3 3 Ty.Row,5)] kr (g3 _ (zaa (wkl (p_3++[sb h5]) [4,12,118,119,120] 5 kr (g6 _ (zaa (wkr ([sqx ((True/\True/\True/\rs6.length=(List.map Rw.cells rs6).length/\True)/\True/\True)]++(p_4++[sb h8])) kr))))))))))))⟩
     ·exact ⟨Tb.mk (Sch.mk Zs0 []) 0 [],9,zkN,wkc At.Az [sc hv,sb Zf] [2,3,4,26,27,28] 3 kr (g1 _ (zaa (wkl [sb q1_1] [2,3,4,43,44,45] 3 kr (g2 _ (zaa (wklN p_1 [2,3,4,12,65,66,67] 4 [(.ob 3 3 Ty.Row,5)] kr (g3 _ (zaa (wkl (p_3++[sb h5]) [4,12,118,119,120] 5 kr (g6 _ (zaa (wkr (p_4++[sb h8]) kr))))))))))))⟩
    ·exact ⟨Tb.mk (Sch.mk Zs0 []) 0 [],10,zkN,wkc At.Az [sc hv,sb Zf] [2,3,4,26,27,28] 3 kr (g1 _ (zaa (wkl [sb q1_1] [2,3,4,43,44,45] 3 kr (g2 _ (zaa (wklN p_1 [2,3,4,12,65,66,67] 4 [(.ob 3 3 Ty.Row,5)] kr (g3 _ (zaa (wkr (p_3++[sb h5]) kr)))))))))⟩
   ·exact ⟨Tb.mk (Sch.mk Zs0 []) 0 [],10,zkN,wkc At.Az [sc hv,sb Zf] [2,3,4,26,27,28] 3 kr (g1 _ (zaa (wkl [sb q1_1] [2,3,4,43,44,45] 3 kr (g2 _ (zaa (wklN p_1 [2,3,4,12,65,66,67] 4 [(.ob 3 3 Ty.Row,5)] kr (g3 _ (zaa (wkr (p_2++[sb h4]) kr)))))))))⟩
  ·exact ⟨r2_0,r2_1,zkN,wkc At.Az [sc hv,sb Zf] [2,3,4,26,27,28] 3 kr (g1 _ (zaa (wkl [sb q1_1] [2,3,4,43,44,45] 3 kr g2)))⟩
 ·exact ⟨r1_0,r1_1,zkN,wkc At.Az [sc hv,sb Zf] [2,3,4,26,27,28] 3 kr (g1)⟩
abbrev W128 (v:Int):Prop:=-170141183460469231731687303715884105728<=v/\v < 170141183460469231731687303715884105728
abbrev W127 (v:Int):Prop:=-170141183460469231731687303715884105728 < v/\v < 170141183460469231731687303715884105728
theorem W127.w {v:Int} (h:W127 v):W128 v:=⟨by have:=h.1;omega,h.2⟩
structure EvI (f:X->V × Int) (op:List V->V × Int) (e:X) (frs:List Fr) (tb:List Tb) (i:Nat) (out:List V):Prop where
 eq:evL f op e frs tb e.args 0 []=evL f op e frs tb (e.args.drop i) i out
 len:out.length=i
 good:∀ v∈out,v.Good
theorem EvI.fin {f:X->V × Int} {op:List V->V × Int} {e:X} {frs:List Fr} {tb:List Tb} {out:List V} (h:EvI f op e frs tb e.args.length out):evL f op e frs tb e.args 0 []=op out:=by
 rw [h.eq,yAG];rfl
structure RiI (f:X->V × Int) (k:Int) (l:List X) (its0:List V) (i:Nat) (its:List V):Prop where
 eq:rowI f k l its0=rowI f k (l.drop i) its
 len:its.length<=its0.length+i
section
variable {f : X -> V × Int} {k : Int} {l : List X} {its0 its : List V} {i : Nat} {x : X}
theorem RiI.skip (h:RiI f k l its0 i its) (hx:l[i]?=some x) (h1:((f x).2 != 0)=false) (h2:((f x).1.kind != 0)=false):RiI f k l its0 (i+1) its:=by
 refine ⟨?_,by have:=h.len;omega⟩
 have h3:((f x).1.kind==0)=true:=by simpa using h2
 rw [h.eq,zaB hx];simp only [rowI,h1,h3,cond_true,cond_false]
theorem RiI.push (h:RiI f k l its0 i its) (hx:l[i]?=some x) (h1:((f x).2 != 0)=false) (h2:((f x).1.kind != 0)=true) (h4:(k==10)=false\/((f x).1.kind != 1)=false):RiI f k l its0 (i+1) (its++[(f x).1]):=by
 refine ⟨?_,by have:=h.len;simp;omega⟩
 have h3:((f x).1.kind==0)=false:=by simpa using h2
 have h5:(k==10&&(f x).1.kind != 1)=false:=by rcases h4 with h4|h4 <;> rw [h4] <;> simp
 rw [h.eq,zaB hx];simp only [rowI,h1,h3,h5,cond_false]
theorem RiI.fin (h:RiI f k l its0 l.length its):rowI f k l its0=(0,its):=by
 rw [h.eq,yAG];rfl
end
structure SeI (tr:Rw->Bool × Int) (F:Rw->X->V × Int) (k:Int) (items:List X) (rows:List Rw) (i n:Nat) (its:List V):Prop where
 eq:selR tr (fun r its=>rowI (F r) k items its) rows 0 []=selR tr (fun r its=>rowI (F r) k items its) (rows.drop i) n its
 num:n<=i
 len:its.length<=1000 * i
section
variable {tr : Rw -> Bool × Int} {F : Rw -> X -> V × Int} {k : Int} {items : List X} {rows : List Rw} {i n : Nat} {its its2 : List V} {x : Rw} {r : V} {c : Int}
theorem SeI.skip (h:SeI tr F k items rows i n its) (hx:rows[i]?=some x) (h1:((tr x).2 != 0)=false) (h2:(!(tr x).1)=true):SeI tr F k items rows (i+1) n its:=by
 refine ⟨?_,by have:=h.num;omega,by have:=h.len;omega⟩
 have h3:(tr x).1=false:=by simpa using h2
 rw [h.eq,zaB hx];simp only [selR,h1,h3,cond_false]
theorem SeI.go (h:SeI tr F k items rows i n its) (hx:rows[i]?=some x) (h1:((tr x).2 != 0)=false) (h2:(!(tr x).1)=false) (hr:RiI (F x) k items its items.length its2) (hl:items.length<=1000):SeI tr F k items rows (i+1) (n+1) its2:=by
 refine ⟨?_,by have:=h.num;omega,by have:=h.len;have:=hr.len;omega⟩
 have h3:(tr x).1=true:=by simpa using h2
 have h4:((0:Int) != 0)=false:=rfl
 rw [h.eq,zaB hx];simp only [selR,h1,h3,hr.fin,h4,cond_true,cond_false]
end
section
variable {tr : Rw -> Bool × Int} {F : Rw -> X -> V × Int} {items : List X} {rows : List Rw} {n : Nat} {its : List V} {e : X} {r : V} {c : Int} {b : Bool}
theorem SeI.fin {k:Int} (h:SeI tr F k items rows rows.length n its):selR tr (fun r its=>rowI (F r) k items its) rows 0 []=(0,n,its):=by
 rw [h.eq,yAG];rfl
end
structure IrI (f:X->V × Int) (l:List X) (i:Nat) (row:List V):Prop where
 eq:zeI f l=bif (zeI f (l.drop i)).1 != 0 then ((zeI f (l.drop i)).1,[]) else (0,row++(zeI f (l.drop i)).2)
 len:row.length<=i
section
variable {f : X -> V × Int} {l : List X} {i : Nat} {row : List V} {x : X}
theorem IrI.fin (h:IrI f l l.length row):zeI f l=(0,row):=by
 rw [h.eq,yAG];simp [zeI]
end
structure SrI (tr:Rw->Bool × Int) (F:Rw->X->V × Int) (q:Qy) (rows:List Rw) (i:Nat) (out:List (List V)):Prop where
 eq:zex tr (fun r=>rowV (F r) q r) rows []=zex tr (fun r=>rowV (F r) q r) (rows.drop i) out
 len:out.length<=i
section
variable {tr : Rw -> Bool × Int} {F : Rw -> X -> V × Int} {q : Qy} {rows : List Rw} {i : Nat} {out : List (List V)} {x : Rw} {row : List V} {r : List (List V)} {c : Int} {b : Bool}
theorem SrI.skip (h:SrI tr F q rows i out) (hx:rows[i]?=some x) (h1:((tr x).2 != 0)=false) (h2:(!(tr x).1)=true):SrI tr F q rows (i+1) out:=by
 refine ⟨?_,by have:=h.len;omega⟩
 have h3:(tr x).1=false:=by simpa using h2
 rw [h.eq,zaB hx];simp only [zex,h1,h3,cond_false]
theorem SrI.star (h:SrI tr F q rows i out) (hx:rows[i]?=some x) (h1:((tr x).2 != 0)=false) (h2:(!(tr x).1)=false) (hq:(!q.star)=false):SrI tr F q rows (i+1) (out++[x.vals]):=by
 refine ⟨?_,by have:=h.len;simp;omega⟩
 have h3:(tr x).1=true:=by simpa using h2
 have h4:q.star=true:=by simpa using hq
 have h5:((0:Int) != 0)=false:=rfl
 rw [h.eq,zaB hx];simp only [zex,rowV,h1,h3,h4,h5,cond_true,cond_false]
theorem SrI.go (h:SrI tr F q rows i out) (hx:rows[i]?=some x) (h1:((tr x).2 != 0)=false) (h2:(!(tr x).1)=false) (hq:(!q.star)=true) (hr:IrI (F x) q.items q.items.length row):SrI tr F q rows (i+1) (out++[row]):=by
 refine ⟨?_,by have:=h.len;simp;omega⟩
 have h3:(tr x).1=true:=by simpa using h2
 have h4:q.star=false:=by simpa using hq
 have h5:((0:Int) != 0)=false:=rfl
 rw [h.eq,zaB hx];simp only [zex,rowV,h1,h3,h4,h5,hr.fin,cond_true,cond_false]
theorem SrI.fin (h:SrI tr F q rows rows.length out):zex tr (fun r=>rowV (F r) q r) rows []=(0,out):=by
 rw [h.eq,yAG];rfl
end
def asgR (f:X->V × Int) (s:Sch):List Se->List V->List V × Int
 | [],v=>(v,0)
 | x::r,v=>bif decide (idxF (fun c=>colC c x.col) s.cols 0 < 0) then ([],3) else bif (f x.ex).2 != 0 then ([],(f x.ex).2) else bif decide ((v.length:Int)<=idxF (fun c=>colC c x.col) s.cols 0) then ([],17) else asgR f s r (v.set (idxF (fun c=>colC c x.col) s.cols 0).toNat (f x.ex).1)
def tchU (tr:Rw->Bool × Int) (ag:Rw->List V × Int):List Rw->List Pr->Ch × Int
 | [],u=>(⟨[],[],u⟩,0)
 | r::l,u=>bif (tr r).2 != 0 then (ch0,(tr r).2) else bif !(tr r).1 then tchU tr ag l u else bif (ag r).2 != 0 then (ch0,(ag r).2) else tchU tr ag l (u++[⟨r.id,r.vals,(ag r).1⟩])
structure TuI (tr:Rw->Bool × Int) (ag:Rw->List V × Int) (rows:List Rw) (i:Nat) (u:List Pr):Prop where
 eq:tchU tr ag rows []=tchU tr ag (rows.drop i) u
 len:u.length<=i
structure AsI (f:X->V × Int) (s:Sch) (sets:List Se) (v0:List V) (i:Nat) (nw:List V):Prop where
 eq:asgR f s sets v0=asgR f s (sets.drop i) nw
 len:nw.length=v0.length
section
variable {f : X -> V × Int} {s : Sch} {sets : List Se} {v0 nw : List V} {i : Nat} {x : Se} {c : Int}
theorem AsI.go (h:AsI f s sets v0 i nw) (hx:sets[i]?=some x) (h1:decide (idxF (fun c=>colC c x.col) s.cols 0 < 0)=false) (h2:((f x.ex).2 != 0)=false) (h3:decide ((nw.length:Int)<=idxF (fun c=>colC c x.col) s.cols 0)=false):AsI f s sets v0 (i+1) (nw.set (idxF (fun c=>colC c x.col) s.cols 0).toNat (f x.ex).1):=by
 refine ⟨?_,by rw [List.length_set];exact h.len⟩
 rw [h.eq,zaB hx];simp only [asgR,h1,h2,h3,cond_false]
theorem AsI.fin (h:AsI f s sets v0 sets.length nw):asgR f s sets v0=(nw,0):=by
 rw [h.eq,yAG];rfl
end
section
variable {tr : Rw -> Bool × Int} {ag : Rw -> List V × Int} {rows : List Rw} {i : Nat} {u : List Pr} {x : Rw} {nw : List V} {r : Ch} {c : Int}
theorem TuI.skip (h:TuI tr ag rows i u) (hx:rows[i]?=some x) (h1:((tr x).2 != 0)=false) (h2:(!(tr x).1)=true):TuI tr ag rows (i+1) u:=by
 refine ⟨?_,by have:=h.len;omega⟩
 rw [h.eq,zaB hx];simp only [tchU,h1,h2,cond_true,cond_false]
theorem TuI.go (h:TuI tr ag rows i u) (hx:rows[i]?=some x) (h1:((tr x).2 != 0)=false) (h2:(!(tr x).1)=false) (ha:ag x=(nw,0)):TuI tr ag rows (i+1) (u++[⟨x.id,x.vals,nw⟩]):=by
 refine ⟨?_,by have:=h.len;simp;omega⟩
 have h5:((0:Int) != 0)=false:=rfl
 rw [h.eq,zaB hx];simp only [tchU,h1,h2,ha,h5,cond_false]
theorem TuI.fin (h:TuI tr ag rows rows.length u):(Ch.mk [] [] u,0)=tchU tr ag rows []:=by
 rw [h.eq,yAG];rfl
end
def tchD (tr:Rw->Bool × Int):List Rw->List Int->Ch × Int
 | [],d=>(⟨[],d,[]⟩,0)
 | r::l,d=>bif (tr r).2 != 0 then (ch0,(tr r).2) else bif !(tr r).1 then tchD tr l d else tchD tr l (d++[r.id])
structure TdI (tr:Rw->Bool × Int) (rows:List Rw) (i:Nat) (d:List Int):Prop where
 eq:tchD tr rows []=tchD tr (rows.drop i) d
 len:d.length<=i
section
variable {tr : Rw -> Bool × Int} {rows : List Rw} {i : Nat} {d : List Int} {x : Rw}
theorem TdI.skip (h:TdI tr rows i d) (hx:rows[i]?=some x) (h1:((tr x).2 != 0)=false) (h2:(!(tr x).1)=true):TdI tr rows (i+1) d:=by
 refine ⟨?_,by have:=h.len;omega⟩
 rw [h.eq,zaB hx];simp only [tchD,h1,h2,cond_true,cond_false]
theorem TdI.go (h:TdI tr rows i d) (hx:rows[i]?=some x) (h1:((tr x).2 != 0)=false) (h2:(!(tr x).1)=false):TdI tr rows (i+1) (d++[x.id]):=by
 refine ⟨?_,by have:=h.len;simp;omega⟩
 rw [h.eq,zaB hx];simp only [tchD,h1,h2,cond_false]
theorem TdI.fin (h:TdI tr rows rows.length d):(Ch.mk [] d [],0)=tchD tr rows []:=by
 rw [h.eq,yAG];rfl
end
section
variable {f : X -> V × Int} {g : Qy -> List (List V) × Int} {s : Sch} {a : Ac} {out1 out2 : List (List V)} {r : Ch} {c : Int}
end
structure CandIn (n:Nat) (a:Ac) (frs:List Fr) (tb:List Tb):Prop where
 ac:AcOk n a
 fo:FsOk (n+1) frs
 fg:FsG frs
 to:TbOk tb
 tg:TbG tb
 tv:∀ x∈tb,∀ r∈x.rows,zac r.vals
section
variable {n : Nat} {a : Ac} {frs : List Fr} {tb : List Tb}
theorem CandIn.ins (h:CandIn n a frs tb) {t:Tb} (ht:t∈tb) {r:Rw} (hr:r∈t.rows):FsOk n (zbg frs t.sch r.vals)/\FsG (zbg frs t.sch r.vals) :=
 ⟨h.fo.eins (t:=t) (h.to.cols t ht) (h.tg.vals t ht r hr),h.fg.ins (t:=t) (h.tg.vals t ht r hr)⟩
end
theorem zlN {p:Prop} (h:p:=by (clear hv;first|(simp only [fit4,cond_true,cond_false, *];done)|(exfalso;simp_all;done))):p:=h
theorem zw7 {p:Prop} (h:p:=by first|(unfold fit5;rw [show (l.length != s.cols.length)=false by simp at *;omega];first|assumption|exact zs1 ‹_› rfl)|(unfold fit5;rw [show (l.length != s.cols.length)=true by simp at *;omega];rfl)):p:=h
theorem zpT {p:Prop} (h:p:=by first|assumption|rfl|omega|(simp only [yG] at *;simp at *;omega)):p:=h
theorem zrC (c:Col) (v:V) (hv:zab E0 S.BR [v.av] [] (bv true) []):∃ (e:Int),e=fit4 c v/\zab E0 S.Cg [.agg c.cells,v.av] [] (iv e) []:=by
 cases h1:v.kind==0
 ·cases h2:v.kind != 0
  ·exact ⟨0,zlN,wk At.Cg [sc hv,sb Zf,sb h1,sb h2] kr⟩
  ·cases h3:v.kind != c.type
   ·exact ⟨0,zlN,wk At.Cg [sc hv,sb Zf,sb h1,sg h2,sb h3] kr⟩
   ·exact ⟨5,zlN,wk At.Cg [sc hv,sb Zf,sb h1,sg h2,sb h3] kr⟩
 ·cases h4:c.notNull
  ·cases h5:v.kind != 0
   ·exact ⟨0,zlN,wk At.Cg [sc hv,sb Zf,sg h1,sb h4,sb h5] kr⟩
   ·cases h6:v.kind != c.type
    ·exact ⟨0,zlN,wk At.Cg [sc hv,sb Zf,sg h1,sb h4,sg h5,sb h6] kr⟩
    ·exact ⟨5,zlN,wk At.Cg [sc hv,sb Zf,sg h1,sb h4,sg h5,sb h6] kr⟩
  ·exact ⟨8,zlN,wk At.Cg [sc hv,sb Zf,sg h1,sb h4] kr⟩
theorem zrP (c:Col) (v:V) (hg:v.Good):zab E0 S.Cg [.agg c.cells,v.av] [] (iv (fit4 c v)) []:=by
 have h1:=zl5 v hg.small
 rw [hg.valid] at h1
 obtain ⟨e,rfl,h⟩:=zrC c v h1
 exact h
noncomputable def zv9 (s:Sch) (l:List V) (i:Nat) :Cfg:=zai B.B3 0 [(1,vsl l),(15,.sl (s.cols.map Col.cells)),(16,iv ((s.cols.map Col.cells).length:Nat)),(17,iv (i:Nat))] [.box s.cells]
theorem zke (s:Sch) (l:List V) (hs:zac s.cols) (hll:l.length=s.cols.length) (hg:∀ v∈l,v.Good) (i:Nat)  (hi:i<=(s.cols).length) (hI:fitL s.cols l=fitL (s.cols.drop i) (l.drop i)):((fitL s.cols l=fitL (s.cols.drop (s.cols).length) (l.drop (s.cols).length))/\(decide ((((s.cols).length:Nat):Int) < (((s.cols.map Col.cells).length:Nat):Int))=false)/\∀ R,Good E0 B.B3 [] (zv9 s l (s.cols).length ) R->Good E0 B.B3 [] (zv9 s l i ) R)\/(∃ (r:Int),r=fitL s.cols l/\Good E0 B.B3 [] (zv9 s l i ) (Shut 0 fun rZ hZ=>rZ=(iv r)/\hZ=[])):=by
 have hk:=hi;revert i;refine zlp ((s.cols).length) (fun i hlt ih hi hI _=>?_)
 obtain ⟨x,hx,h0,hw⟩:=zlq (l:=s.cols) ((s.cols.map Col.cells).length) hlt
 obtain ⟨y,hy⟩:=zbc (l:=l) (i:=i) (by have:=zb1 hx;omega);have hyv:=hg y (yC hy)
 let p_1:List St:=[sb h0,se (zaf Col.cells hx rfl),sd [(3,[se (zaf V.cells hy rfl)]),(5,[sc (zrP x y (by first|assumption|omega|(simp;done)|(simp;omega)))])]]
 cases h1:fit4 x y != 0
 ·exact zie2 (ih Zo (by exact zqN hI hx hy ‹_›) Zo) fun R gY=>zaa (wkl (p_1++[sb h1,si hw]) [1,15,16,17] 1 kr gY)
 ·exact .inr ⟨fit4 x y,(by exact zs0 hI hx hy ‹_›),zaa (wkr (p_1++[sb h1]) kr)⟩
theorem zsK (s:Sch) (l:List V) (hs:zac s.cols) (hg:∀ v∈l,v.Good):∃ (r:Int),r=fit5 s l/\zab E0 S.B3 [s.av,vsl l] [] (iv r) []:=by
 cases h1:(↑(List.map V.cells l).length:Int) != (↑(List.map Col.cells s.cols).length:Int)
 ·rcases zke s l zpT zpT zpT 0 zpT zpT with ⟨q2,q2_1,g2⟩|⟨r2_0,p2_0,g2⟩
  ·exact ⟨0,zw7,wkc At.B3 [sb h1] [1,15,16,17] 1 kr (g2 _ (zaa (wkr [sb q2_1] kr)))⟩
  ·exact ⟨r2_0,zw7,wkc At.B3 [sb h1] [1,15,16,17] 1 kr (g2)⟩
 ·exact ⟨17,zw7,wk At.B3 [sb h1] kr⟩
theorem ziy (s:Sch) (l:List V) (hs:zac s.cols) (hg:∀ v∈l,v.Good):zab E0 S.B3 [s.av,vsl l] [] (iv (fit5 s l)) []:=by
 obtain ⟨r,rfl,h⟩:=zsK s l hs hg
 exact h
theorem zAj (c:Col) :∃ (b:Bool),b=c.key/\zab E0 S.BP [.agg c.cells] [] (bv b) []:=by
 exact ⟨c.key,Zr,wk At.BP [] kr⟩
theorem zkx (c:Col):zab E0 S.BP [.agg c.cells] [] (bv c.key) []:=by
 obtain ⟨b,rfl,h⟩:=zAj c
 exact h
noncomputable def zv1 (l:List Col) (i:Nat) :Cfg:=zai B.Av 0 [(0,.sl (l.map Col.cells)),(1,.fn S.BP []),(7,iv ((l.map Col.cells).length:Nat)),(8,iv (i:Nat))] []
theorem zey (l:List Col) (hl:zac l) (i:Nat)  (hi:i<=(l).length) (hI:idxF (fun c=>c.key) l 0=idxF (fun c=>c.key) (l.drop i) i):((idxF (fun c=>c.key) l 0=idxF (fun c=>c.key) (l.drop (l).length) (l).length)/\(decide ((((l).length:Nat):Int) < (((l.map Col.cells).length:Nat):Int))=false)/\∀ R,Good E0 B.Av [] (zv1 l (l).length ) R->Good E0 B.Av [] (zv1 l i ) R)\/(∃ (r:Int),r=idxF (fun c=>c.key) l 0/\Good E0 B.Av [] (zv1 l i ) (Shut 0 fun rZ hZ=>rZ=(iv r)/\hZ=[])):=by
 have hk:=hi;revert i;refine zlp ((l).length) (fun i hlt ih hi hI _=>?_)
 obtain ⟨x,hx,h0,hw⟩:=zlq (l:=l) ((l.map Col.cells).length) hlt
 let p_1:List St:=[sb h0,se (zaf Col.cells hx rfl),sc (zkx x)]
 cases h1:x.key
 ·exact zie2 (ih Zo (by exact zfb hI hx ‹_›) Zo) fun R gY=>zaa (wkl (p_1++[sb h1,si hw]) [0,1,7,8] 0 kr gY)
 ·exact .inr ⟨(i:Int),(by exact zg0 hI hx ‹_›),zaa (wkr (p_1++[sb h1]) kr)⟩
theorem c_ixK (l:List Col) (hl:zac l):∃ (r:Int),r=idxF (fun c=>c.key) l 0/\zab E0 S.Av [.sl (l.map Col.cells),.fn S.BP []] [] (iv r) []:=by
 rcases zey l Za 0 Za Za with ⟨q1,q1_1,g1⟩|⟨r1_0,p1_0,g1⟩
 ·exact ⟨-1,(by first|assumption|exact zdt ‹_›),wkc At.Av [] [0,1,7,8] 0 kr (g1 _ (zaa (wkr [sb q1_1] kr)))⟩
 ·exact ⟨r1_0,(by first|assumption|exact zdt ‹_›),wkc At.Av [] [0,1,7,8] 0 kr (g1)⟩
theorem zmy (s:Sch) (hs:zac s.cols) (hx:∃ r:Int,r=idxF (fun c=>c.key) s.cols 0/\zab E0 S.Av [.sl (s.cols.map Col.cells),.fn S.BP []] [] (iv r) []):∃ (r:Int),r=idxF (fun c=>c.key) s.cols 0/\zab E0 S.Da [s.av] [] (iv r) []:=by
 obtain ⟨r1,q1,c1⟩:=hx
 exact ⟨r1,‹_›,wk At.Da [sc c1] kr⟩
theorem zmR (s:Sch) (hs:zac s.cols):zab E0 S.Da [s.av] [] (iv (idxF (fun c=>c.key) s.cols 0)) []:=by
 obtain ⟨r,rfl,h⟩:=zmy s hs (c_ixK s.cols hs)
 exact h
theorem at_lt0 {s:Sch} {x:Col} {i:Nat} (h:(idxF (fun c=>colC c x.name) s.cols 0 != ((i:Nat):Int))=false):decide (idxF (fun c=>colC c x.name) s.cols 0 < ((i:Nat):Int))=false:=by
 simp only [bne_eq_false_iff_eq] at h;rw [h];simp
noncomputable def L_psv (s:Sch) (i:Nat) (keys:Nat):Cfg:=zai B.Cj 0 [(1,.p 0 0),(3,iv (keys:Nat)),(23,.sl (s.cols.map Col.cells)),(24,iv ((s.cols.map Col.cells).length:Nat)),(25,iv (i:Nat))] [.box s.cells]
theorem ziT (s:Sch) (hs:zac s.cols) (hv:SchV s) (i:Nat) (keys:Nat) (hi:i<=(s.cols).length) (hI:keys=(s.cols.take i).countP (fun c=>c.key)):∃ (keys':Nat),(keys'=(s.cols.take (s.cols).length).countP (fun c=>c.key))/\(decide ((((s.cols).length:Nat):Int) < (((s.cols.map Col.cells).length:Nat):Int))=false)/\∀ R,Good E0 B.Cj [] (L_psv s (s.cols).length keys') R->Good E0 B.Cj [] (L_psv s i keys) R:=by
 have hk:=hi;revert i keys;refine zlp ((s.cols).length) (fun i hlt ih keys hi hI _=>?_)
 obtain ⟨x,hx,h0,hw⟩:=zlq (l:=s.cols) ((s.cols.map Col.cells).length) hlt
 obtain ⟨a1,a2,a3,a4,a5'⟩:=hv.cols i x hx;have a5:=at_lt0 a5';have hkl:keys<=1000:=(by have h1:=List.countP_le_length (p:=fun c:Col=>c.key) (l:=s.cols.take i);have h2:=hv.hi;simp only [yG,decide_eq_false_iff_not] at h2;rw [← hI,yV] at h1;omega)
 let p_1:List St:=[sb h0,se (zaf Col.cells hx rfl),sc (zbk x.name),sg a1,sc (zdQ s x.name (by first|assumption|omega|(simp;done)|(simp;omega))),sg a5,sg a2,sg a3]
 cases h1:x.key
 ·exact Zih (ih keys Zo (by first|exact zjq hI hx ‹_›|exact zjp hI hx ‹_›) Zo) fun R gY=>zaa (wkl (p_1++[sb h1,sb h1,si hw]) [1,3,23,24,25] 1 kr gY)
 ·cases h2:!x.notNull
  ·exact Zih (ih (keys+1) Zo (by first|exact zjq hI hx ‹_›|exact zjp hI hx ‹_›) Zo) fun R gY=>zaa (wkl (p_1++[sg h1,sb h2,sb h1,si (zap (t:=(keys:Int)+1) (n:=keys+1) Zo Zo),si hw]) [1,3,23,24,25] 1 kr gY)
  ·exact False.elim (by simp_all)
theorem zoU (s:Sch) (hs:zac s.cols) (hv:SchV s) (n1:(!zbi s.name)=false) (n2:decide (((s.cols.map Col.cells).length:Int) < 1)=false) (n3:decide ((6:Int) < ((s.cols.map Col.cells).length:Int))=false):∃ (r:Bool),r=true/\zab E0 S.Cj [s.av] [] (bv r) []:=by
 obtain ⟨keys1,q1,q1_1,g1⟩:=ziT s Za Za 0 0 Za Za
 exact ⟨decide ((keys1:Int)<=(1:Int)),(by first|rfl|(rw [yL] at *;have hkz:=hv.keys;simp;omega)),wkc At.Cj [sc (zbk s.name),sg n1,sg n2,sb n3] [1,3,23,24,25] 1 kr (g1 _ (zaa (wkr [sb q1_1] kr)))⟩
theorem znT (s:Sch) (hv:SchV s):zab E0 S.Cj [s.av] [] (bv true) []:=by
 obtain ⟨r,rfl,h⟩:=zoU s hv.short hv hv.name hv.lo hv.hi
 exact h
theorem TabV.hiF {t:Tb} (h:TabV t) {x:Rw} (hx:x∈t.rows):decide (t.next<=x.id)=false:=by
 have h1:=h.rows.ids x hx
 simp;omega
theorem zeX {p:Prop} (h:p:=by first|assumption|omega|(simp only [decide_eq_false_iff_not,decide_eq_true_eq,yG] at *;omega)|(simp;done)):p:=h
theorem zw8 {p:Prop} (h:p:=by first|(have hq1:=‹_=zaX _ _/\List.Nodup _›;rw [yL] at hq1;exact ⟨fun _=>hq1.1 ▸ hq1.2,fun _=>rfl⟩)|(have hq1:=‹_=true/\¬ List.Nodup _›;rw [hq1.1];exact ⟨fun h=>(by cases h),fun h=>absurd h hq1.2⟩)|exact ⟨fun _=>zAJ ‹_› _,fun _=>rfl⟩):p:=h
theorem zpU {p:Prop} (h:p:=by first|assumption|omega|(intro r hr2;have:=(ht.rows.ids r (List.mem_of_mem_drop hr2)).1;omega)|(simp;done)):p:=h
theorem zpV {p:Prop} (h:p:=by first|assumption|omega|exact ⟨rfl,by simp⟩|(simp;done)):p:=h
theorem zso {p:Prop} (h:p:=by simp only [decide_eq_true_eq,decide_eq_false_iff_not] at *;omega):p:=h
theorem zyo {kc:Int} {x:Rw} (h:decide (((x.vals.map V.cells).length:Int)<=kc)=true):zcX kc x=none :=
 zvs zso
theorem ztp {kc:Int} {x:Rw} (h0:decide (kc < 0)=false) (h:decide (((x.vals.map V.cells).length:Int)<=kc)=false):zcX kc x=some (zak x.vals kc) :=
 zqA zso zso
theorem zAJ {kc:Int} (h0:decide (kc < 0)=true) (l:List Rw):(zaX kc l).Nodup:=by
 have:zaX kc l=[]:=by
  unfold zaX
  rw [List.filterMap_eq_nil_iff]
  intro r _
  exact zvr zso
 rw [this];simp
noncomputable def zv8 (t:Tb) (kc:Int) (i:Nat) (ks:List V):Cfg:=zai B.A8 0 [(3,iv kc),(4,.mp 1),(14,.sl (t.rows.map Rw.cells)),(15,iv ((t.rows.map Rw.cells).length:Nat)),(16,iv (i:Nat))] [.box t.cells,.mp (ks.map itV)]
theorem zhl (t:Tb) (kc:Int) (hs:zac t.rows) (hk0:decide (kc < 0)=false) (i:Nat) (ks:List V) (hi:i<=(t.rows).length) (hI:ks=zaX kc (t.rows.take i)/\ks.Nodup):(∃ (ks':List V),(ks'=zaX kc (t.rows.take (t.rows).length)/\ks'.Nodup)/\(decide ((((t.rows).length:Nat):Int) < (((t.rows.map Rw.cells).length:Nat):Int))=false)/\∀ R,Good E0 B.A8 [] (zv8 t kc (t.rows).length ks') R->Good E0 B.A8 [] (zv8 t kc i ks) R)\/(∃ (r:Bool),(r=true/\¬ (zaX kc t.rows).Nodup)/\Good E0 B.A8 [] (zv8 t kc i ks) (Shut 0 fun rZ hZ=>rZ=(bv r)/\hZ=[])):=by
 have hk:=hi;revert i ks;refine zlp ((t.rows).length) (fun i hlt ih ks hi hI _=>?_)
 obtain ⟨x,hx,h0,hw⟩:=zlq (l:=t.rows) ((t.rows.map Rw.cells).length) hlt
 cases h1:decide ((↑(List.map V.cells x.vals).length:Int)<=kc)
 ·cases h2:anyV ks (zak x.vals kc)
  ·exact (ih (ks++[zak x.vals kc]) Zo (by first|exact znu hI hx (zyo ‹_›)|exact zsQ hI hx (ztp hk0 ‹_›) ‹_›) Zo).elim (fun ⟨ksZ,qZ,xZ,gZ⟩=>.inl ⟨ksZ,qZ,xZ,fun R hg=>zaa (wkl [sb h0,se (zaf Rw.cells hx rfl),sb h1,se (zcT x.vals kc zeX zeX),sx (.el [bv (anyV ks (zak x.vals kc))]) (And.intro (zbO ((zak x.vals kc).kind) ((zak x.vals kc).int) ((zak x.vals kc).text)) (zgp ks (zak x.vals kc))),sb h2,se (zcT x.vals kc zeX zeX),sx (.call [] .un [.mp (List.map itV (ks++[zak x.vals kc]))]) (And.intro (zbO ((zak x.vals kc).kind) ((zak x.vals kc).int) ((zak x.vals kc).text)) (znv ks (zak x.vals kc) zeX)),si hw] [3,4,14,15,16] 2 kr (gZ R hg))⟩) (fun ⟨rY,pZ,gZ⟩=>.inr ⟨rY,pZ,zaa (wkl [sb h0,se (zaf Rw.cells hx rfl),sb h1,se (zcT x.vals kc zeX zeX),sx (.el [bv (anyV ks (zak x.vals kc))]) (And.intro (zbO ((zak x.vals kc).kind) ((zak x.vals kc).int) ((zak x.vals kc).text)) (zgp ks (zak x.vals kc))),sb h2,se (zcT x.vals kc zeX zeX),sx (.call [] .un [.mp (List.map itV (ks++[zak x.vals kc]))]) (And.intro (zbO ((zak x.vals kc).kind) ((zak x.vals kc).int) ((zak x.vals kc).text)) (znv ks (zak x.vals kc) zeX)),si hw] [3,4,14,15,16] 2 kr gZ)⟩)
  ·exact .inr ⟨true,(by exact ⟨rfl,zx8 hI hx (ztp hk0 ‹_›) ‹_›⟩),zaa (wkr [sb h0,se (zaf Rw.cells hx rfl),sb h1,se (zcT x.vals kc zeX zeX),sx (.el [bv (anyV ks (zak x.vals kc))]) (And.intro (zbO ((zak x.vals kc).kind) ((zak x.vals kc).int) ((zak x.vals kc).text)) (zgp ks (zak x.vals kc))),sb h2] kr)⟩
 ·exact (ih ks Zo (by first|exact znu hI hx (zyo ‹_›)|exact zsQ hI hx (ztp hk0 ‹_›) ‹_›) Zo).elim (fun ⟨ksZ,qZ,xZ,gZ⟩=>.inl ⟨ksZ,qZ,xZ,fun R hg=>zaa (wkl [sb h0,se (zaf Rw.cells hx rfl),sb h1,si hw] [3,4,14,15,16] 2 kr (gZ R hg))⟩) (fun ⟨rY,pZ,gZ⟩=>.inr ⟨rY,pZ,zaa (wkl [sb h0,se (zaf Rw.cells hx rfl),sb h1,si hw] [3,4,14,15,16] 2 kr gZ)⟩)
theorem zhB (t:Tb) (hs:zac t.sch.cols) (hr:zac t.rows):∃ (b:Bool),(b=false↔(zaX (idxF (fun c=>c.key) t.sch.cols 0) t.rows).Nodup)/\zab E0 S.A8 [t.av] [] (bv b) []:=by
 let p_1:List St:=[sc (zmR t.sch zpV)]
 cases h1:decide (idxF (fun c=>c.key) t.sch.cols 0 < 0)
 ·rcases zhl t (idxF (fun c=>c.key) t.sch.cols 0) zpV zpV 0 ([]) zpV zpV with ⟨ks2,q2,q2_1,g2⟩|⟨r2_0,p2_0,g2⟩
  ·exact ⟨false,zw8,wkc At.A8 (p_1++[sb h1]) [3,4,14,15,16] 2 kr (g2 _ (zaa (wkr [sb q2_1] kr)))⟩
  ·exact ⟨r2_0,zw8,wkc At.A8 (p_1++[sb h1]) [3,4,14,15,16] 2 kr (g2)⟩
 ·exact ⟨false,zw8,wk At.A8 (p_1++[sb h1]) kr⟩
theorem TabV.pfit {t:Tb} (h:TabV t) {x:Rw} (hx:x∈t.rows):zab E0 S.B3 [t.sch.av,vsl x.vals] [] (iv 0) []:=by
 have h2:=ziy t.sch x.vals h.sch.short (zlK (h.rows.fit x hx))
 rwa [zqm h.sch (h.rows.fit x hx)] at h2
def zr2 (l:List Rw) (i:Nat) (last:Int):Prop:=∀ r∈l.drop i,last < r.id
theorem zyp {l:List Rw} {i:Nat} {x:Rw} (ha:l.Pairwise fun a b=>a.id < b.id) (hx:l[i]?=some x):zr2 l (i+1) x.id:=by
 intro r hr
 obtain ⟨j,hj⟩:=yQ hr
 rw [yX] at hj
 obtain ⟨a1,a2⟩:=yB.1 hx
 obtain ⟨b1,b2⟩:=yB.1 hj
 have:=yAW.1 ha i (i+1+j) a1 b1 Zo
 rwa [a2,b2] at this
theorem zAK {l:List Rw} {i:Nat} {x:Rw} {last:Int} (h:zr2 l i last) (hx:l[i]?=some x):decide (x.id<=last)=false:=by
 have:=h x (by rw [zaB hx];simp)
 simp;omega
noncomputable def L_pv6 (t:Tb) (i:Nat) (last:Int):Cfg:=zai B.BF 0 [(1,.p 0 0),(3,iv last),(27,.sl (t.rows.map Rw.cells)),(28,iv ((t.rows.map Rw.cells).length:Nat)),(29,iv (i:Nat))] [.box t.cells]
theorem zjm (t:Tb) (ht:TabV t) (hs:zac t.sch.cols) (hr:zac t.rows) (i:Nat) (last:Int) (hi:i<=(t.rows).length) (hI:zr2 t.rows i last):∃ (last':Int),(zr2 t.rows (t.rows).length last')/\(decide ((((t.rows).length:Nat):Int) < (((t.rows.map Rw.cells).length:Nat):Int))=false)/\∀ R,Good E0 B.BF [] (L_pv6 t (t.rows).length last') R->Good E0 B.BF [] (L_pv6 t i last) R:=by
 have hk:=hi;revert i last;refine zlp ((t.rows).length) (fun i hlt ih last hi hI _=>?_)
 obtain ⟨x,hx,h0,hw⟩:=zlq (l:=t.rows) ((t.rows.map Rw.cells).length) hlt
 have a1:=zAK hI hx;have a2:=ht.hiF (yC hx);have a3:=ht.pfit (yC hx)
 exact Zih (ih x.id Zo (by exact zyp ht.rows.asc hx) Zo) fun R gY=>zaa (wkl [sb h0,se (zaf Rw.cells hx rfl),sg a1,sg a2,sc a3,sb Zf,si hw] [1,3,27,28,29] 1 kr gY)
theorem zql (t:Tb) (ht:TabV t) (hs:zac t.sch.cols) (hr:zac t.rows) (hv:zab E0 S.Cj [t.sch.av] [] (bv true) []) (h1a:decide ((100:Int) < ((t.rows.map Rw.cells).length:Int))=false) (h2a:decide (t.next < 1)=false) (h3a:decide ((2147483648:Int) < t.next)=false) (hd:zab E0 S.A8 [t.av] [] (bv false) []):∃ (b:Bool),b=true/\zab E0 S.BF [t.av] [] (bv b) []:=by
 obtain ⟨last1,q1,q1_1,g1⟩:=zjm t zpU zpU zpU 0 0 zpU zpU
 exact ⟨!false,Zr,wkc At.BF [sc hv,sg Zf,sg h1a,sg h2a,sb h3a] [1,3,27,28,29] 1 kr (g1 _ (zaa (wkr [sb q1_1,sc hd] kr)))⟩
theorem TabV.pdup {t:Tb} (h:TabV t):zab E0 S.A8 [t.av] [] (bv false) []:=by
 obtain ⟨b,hb,hc⟩:=zhB t h.sch.short h.shr
 have h1:b=false:=hb.2 (by rw [h.key];exact zlB _ h.rows.keys)
 rw [h1] at hc;exact hc
theorem zc8 (t:Tb) (ht:TabV t):zab E0 S.BF [t.av] [] (bv true) []:=by
 have hp:=ht.rows.pos
 obtain ⟨r,rfl,h⟩:=zql t ht ht.sch.short ht.shr (znT _ ht.sch) ht.len Zp ht.max ht.pdup
 exact h
theorem zsp {p:Prop} (h:p:=by first|assumption|omega|(simp;done)|(simp;omega)):p:=h
theorem sN3_3 {p:Prop} (h:p:=by first|omega|(simp only [zac,Few] at *;omega)):p:=h
abbrev insC (ins:List (List V)):AV:=.agg [.sl (ins.map vrow),.sl [],.sl []]
theorem zze (v:List V) (n:Int) :∃ (r:Bool),r=(((v.map V.cells).length:Int) != n)/\zab E0 S.B7 [vsl v,.p 0 0] [.box [iv n]] (bv r) [.box [iv n]]:=by
 exact ⟨(↑(List.map V.cells v).length:Int) != n,Zr,wk At.B7 [] kr⟩
theorem zo9 (v:List V) (n:Int) (h:(((v.map V.cells).length:Int) != n)=false):zab E0 S.B7 [vsl v,.p 0 0] [.box [iv n]] (bv false) [.box [iv n]]:=by
 obtain ⟨r,hr,hc⟩:=zze v n
 rw [h] at hr;subst hr;exact hc
noncomputable def L_ixW (l:List (List V)) (n:Int) (i:Nat) :Cfg:=zai B.Bb 0 [(0,.sl (l.map vrow)),(1,.fn S.B7 [.p 0 0]),(7,iv ((l.map vrow).length:Nat)),(8,iv (i:Nat))] [.box [iv n]]
theorem zeF (l:List (List V)) (n:Int) (hl:zac l) (hwd:∀ v∈l,(((v.map V.cells).length:Int) != n)=false) (i:Nat)  (hi:i<=(l).length) (hI:True):(True)/\(decide ((((l).length:Nat):Int) < (((l.map vrow).length:Nat):Int))=false)/\∀ R,Good E0 B.Bb [.box [iv n]] (L_ixW l n (l).length ) R->Good E0 B.Bb [.box [iv n]] (L_ixW l n i ) R:=by
 have hk:=hi;revert i hI;refine zlp ((l).length) (fun i hlt ih hi hI _=>?_)
 obtain ⟨x,hx,h0,hw⟩:=zlq (l:=l) ((l.map vrow).length) hlt sN3_3
 have hc:=zo9 x n (hwd x (yC hx))
 obtain ⟨qZ,xZ,gZ⟩:=ih Zo (by first|trivial|assumption|(simp;done)|omega|(simp;omega)|(simp at *;omega)) Zo;exact ⟨qZ,xZ,fun R hg=>zaa (wkl [sb h0,se (zaf vrow hx rfl),sl [0] hc,sb Zf,si hw] [0,1,7,8] 1 kr (gZ R hg))⟩
theorem c_ixW (l:List (List V)) (n:Int) (hl:zac l) (hwd:∀ v∈l,(((v.map V.cells).length:Int) != n)=false):∃ (r:Int),r=-1/\zab E0 S.Bb [.sl (l.map vrow),.fn S.B7 [.p 0 0]] [.box [iv n]] (iv r) [.box [iv n]]:=by
 obtain ⟨q1,q1_1,g1⟩:=zeF l n zsp zsp 0 zsp zsp
 exact ⟨-1,Zr,wkc At.Bb [] [0,1,7,8] 1 kr (g1 _ (zaa (wkr [sb q1_1] kr)))⟩
theorem c_cfV2 (l:List (List V)) (n:Int) (hi:∃ r:Int,r=-1/\zab E0 S.Bb [.sl (l.map vrow),.fn S.B7 [.p 0 0]] [.box [iv n]] (iv r) [.box [iv n]]):∃ (r:Bool),r=false/\zab E0 S.Co [.sl (l.map vrow),.fn S.B7 [.p 0 0]] [.box [iv n]] (bv r) [.box [iv n]]:=by
 obtain ⟨r1,q1,c1⟩:=hi
 exact ⟨decide ((0:Int)<=r1),(by (subst_vars;rfl)),wk At.Co [sl [0] c1] kr⟩
theorem zfl (l:List (List V)) (n:Int) (hl:zac l) (hwd:∀ v∈l,(((v.map V.cells).length:Int) != n)=false):zab E0 S.Co [.sl (l.map vrow),.fn S.B7 [.p 0 0]] [.box [iv n]] (bv false) [.box [iv n]]:=by
 obtain ⟨r,rfl,h⟩:=c_cfV2 l n (c_ixW l n hl hwd)
 exact h
noncomputable def L_i0 (n:Int) (i:Nat):Cfg:=zai B.AJ 0 [(0,.sl []),(1,iv n),(7,iv (([]:List (List AV)).length:Nat)),(8,iv (i:Nat))] []
theorem zhk (n:Int) (i:Nat):True/\∀ R,Good E0 B.AJ [] (L_i0 n i) R->Good E0 B.AJ [] (L_i0 n i) R:=⟨trivial,fun _ h=>h⟩
theorem zzb (n:Int) :∃ (r:Int),r=-1/\zab E0 S.AJ [.sl [],iv n] [] (iv r) []:=by
 obtain ⟨q1,g1⟩:=zhk n (0)
 exact ⟨-1,Zr,wkc At.AJ [] [0,1,7,8] 0 kr (g1 _ (zaa (wkr [sb Zf] kr)))⟩
theorem zky (n:Int):zab E0 S.AJ [.sl [],iv n] [] (iv (-1)) []:=by
 obtain ⟨r,rfl,h⟩:=zzb n
 exact h
theorem zuo (n:Int) :∃ (r:Bool),r=false/\zab E0 S.BO [.sl [],iv n] [] (bv r) []:=by
 exact ⟨decide ((0:Int)<=(-1:Int)),Zr,wk At.BO [sc (zky n)] kr⟩
theorem ziu (n:Int):zab E0 S.BO [.sl [],iv n] [] (bv false) []:=by
 obtain ⟨r,rfl,h⟩:=zuo n
 exact h
abbrev insT (t:Tb) (ins:List (List V)):Tb:=⟨t.sch,t.next+(ins.length:Int),t.rows++insN t.next ins⟩
theorem wkcK {f:FuncId} {fn:Func} {args:List AV} {h:Heap} {R:AV->Heap->Prop} {c':Cfg} (hf:E0.P.funcs[f]?=some fn) (l:List St) (live:List Nat) (m:Nat) (hu:zlS fn args h live m (orcs l)=some (zbe l,c'))
  (hg:Good E0 fn h c' R):zbY E0 f args h R:=by
 unfold zlS at hu
 split at hu
 ·rename_i c hb hn ha hm
  exact zyg E0ok mix0 hf hb hn ha 3000 l live m hm (Option.some.inj hu) hg
 ·cases hu
theorem znQ {f:FuncId} {fn:Func} {args:List AV} {h:Heap} {R:AV->Heap->Prop} {c':Cfg} (hf:E0.P.funcs[f]?=some fn) (l:List St) (live:List Nat) (m:Nat) (k:List (Ct × Nat)) (hu:zp6 fn args h live m k (orcs l)=some (zbe l,c'))
  (hg:Good E0 fn h c' R):zbY E0 f args h R:=by
 unfold zp6 at hu
 split at hu
 ·rename_i q c1 h1
  unfold zlS at h1
  split at h1
  ·rename_i c hb hn ha hm
   obtain ⟨q2,h2⟩:=zkn hu
   have h3:=za7 l
   have h4:allP q:=by
    rw [h2] at h3
    exact (zes h3).1
   exact za6 hf hb hn (yI ha) (znk hm (Option.some.inj h1) h4 (zoZ hu h3 hg))
  ·cases h1
 ·cases hu
theorem wkrK {fn:Func} {h0:Heap} {c:Cfg} {r:AV} {H:Heap} (l:List St) (hfin:finK (mk E0) fn 3000 c (orcs l)=some (zbe l,r,H)):Good E0 fn h0 c (fun y h=>y=r/\h=H) :=
 zdW E0ok mix0 3000 l hfin ⟨rfl,rfl⟩
theorem wkrSK {fn:Func} {h0:Heap} {c:Cfg} {r y:AV} {H H':Heap} (l:List St) (hfin:finK (mk E0) fn 3000 c (orcs l)=some (zbe l,y,H)) (e:y=r/\H=H'):Good E0 fn h0 c (fun y h=>y=r/\h=H'):=by
 obtain ⟨rfl,rfl⟩:=e
 exact wkrK l hfin
end Go.AM
namespace Go.AM
theorem zgP {p:Prop} (h:p:=by first|assumption|omega|rfl|(simp;done)):p:=h
abbrev evR (f:X->V × Int) (rows:List (List X)):List (List V):=rows.map fun y=>y.map fun x=>(f x).1
abbrev zaD (nm:Str) (rows:List (List X)):Ac:=⟨1,nm,rows,[],[],[],⟨#[]⟩⟩
noncomputable def L_niI (nm:Str) (rows:List (List X)) (s:Sch) (frs:List Fr) (tb:List Tb) (f:X->V × Int) (io:Nat) (y:List X) (out:List (List V)) (i:Nat) (row:List V):Cfg:=zai B.Bj 1 [(2,fsl frs),(3,tsl tb),(4,.p 0 0),(5,.p 1 0),(10,.own 2 out.length),(13,.own 3 row.length),(23,.sl (rows.map zaI)),(24,iv ((rows.map zaI).length:Nat)),(25,iv (io:Nat)),(35,xsl y),(36,iv ((zad y).length:Nat)),(37,iv (i:Nat))] [.box (zaD nm rows).cells,.box s.cells,.row Ty.LValue (out.map vrow) false,.row Ty.Value (row.map V.cells) false]
theorem ziP (nm:Str) (rows:List (List X)) (s:Sch) (frs:List Fr) (tb:List Tb) (f:X->V × Int) (io:Nat) (y:List X) (out:List (List V)) (hy:zac y) (hf:∀ x∈y,PEv f x frs tb) (hf0:∀ x∈y,((f x).2 != 0)=false) (i:Nat) (row:List V) (hi:i<=(y).length) (hI:row=(y.take i).map fun x=>(f x).1):∃ (row':List V),(row'=(y.take (y).length).map fun x=>(f x).1)/\(decide ((((y).length:Nat):Int) < (((zad y).length:Nat):Int))=false)/\∀ R,Good E0 B.Bj [] (L_niI nm rows s frs tb f io y out (y).length row') R->Good E0 B.Bj [] (L_niI nm rows s frs tb f io y out i row) R:=by
 have hk:=hi;revert i row;refine zlp ((y).length) (fun i hlt ih row hi hI _=>?_)
 obtain ⟨x,hx,h0,hw⟩:=zlq (l:=y) ((zad y).length) hlt
 have hx1:=hf x (yC hx);have hx0:=hf0 x (yC hx);have hrl:row.length<=1000000000:=by rw [hI];simp only [yG,yV,zac] at *;omega
 exact Zih (ih (row++[(f x).fst]) Zo (by (rw [yP,hx,yAR,← hI];rfl)) Zo) fun R gY=>zaa (wkl [sb h0,se (zcD hx),sc hx1,sb hx0,sqA (List.map V.cells row) [[iv (f x).fst.kind,iv (f x).fst.int,sv (f x).fst.text]] row.length 3 32,si hw] [2,3,4,5,10,13,23,24,25,35,36,37] 4 kr (zaK 13 3 (List.map V.cells row++[[iv (f x).fst.kind,iv (f x).fst.int,sv (f x).fst.text]]) gY (he:=Zcv3) (hm:=Zcv3)))
theorem zzm {f:X->V × Int} {rows:List (List X)} {i:Nat} {x:List X} {out:List (List V)} {row:List V} (hI:out=evR f (rows.take i)) (hx:rows[i]?=some x) (hq:row=(x.take x.length).map fun x=>(f x).1):out++[row]=evR f (rows.take (i+1)):=by
 rw [yL] at hq
 rw [hI,hq];unfold evR
 rw [yP,hx,yAR];rfl
noncomputable def L_niR (nm:Str) (rows:List (List X)) (s:Sch) (frs:List Fr) (tb:List Tb) (f:X->V × Int) (i:Nat) (out:List (List V)):Cfg:=zai B.Bj 0 [(2,fsl frs),(3,tsl tb),(4,.p 0 0),(5,.p 1 0),(10,.own 2 out.length),(23,.sl (rows.map zaI)),(24,iv ((rows.map zaI).length:Nat)),(25,iv (i:Nat))] [.box (zaD nm rows).cells,.box s.cells,.row Ty.LValue (out.map vrow) false]
theorem ziR (nm:Str) (rows:List (List X)) (s:Sch) (frs:List Fr) (tb:List Tb) (f:X->V × Int) (hs:zac s.cols) (hr:zac rows) (hf:∀ r∈rows,zac r/\∀ x∈r,PEv f x frs tb) (hf0:∀ r∈rows,∀ x∈r,((f x).2 != 0)=false) (hfl:∀ r∈rows,(((zad r).length:Int) != ((s.cols.map Col.cells).length:Int))=false) (i:Nat) (out:List (List V)) (hi:i<=(rows).length) (hI:out=evR f (rows.take i)):∃ (out':List (List V)),(out'=evR f (rows.take (rows).length))/\(decide ((((rows).length:Nat):Int) < (((rows.map zaI).length:Nat):Int))=false)/\∀ R,Good E0 B.Bj [] (L_niR nm rows s frs tb f (rows).length out') R->Good E0 B.Bj [] (L_niR nm rows s frs tb f i out) R:=by
 have hk:=hi;revert i out;refine zlp ((rows).length) (fun i hlt ih out hi hI _=>?_)
 obtain ⟨x,hx,h0,hw⟩:=zlq (l:=rows) ((rows.map zaI).length) hlt
 have hx1:=(hf x (yC hx)).1;have hx2:=(hf x (yC hx)).2;have hx3:=hf0 x (yC hx);have hx4:=hfl x (yC hx);have hol:out.length<=1000000000:=by rw [hI];simp only [evR,yG,yV,zac] at *;omega
 obtain ⟨row1,q1,q1_1,g1⟩:=ziP ((zaD nm rows).table) ((zaD nm rows).rows) s frs tb f i x out zgP hx2 zgP 0 ([]) zgP zgP
 exact Zih (ih (out++[row1]) Zo (by exact zzm hI hx ‹_›) Zo) fun R gY=>zaa (wklN [sb h0,se (zaf zaI hx rfl),sb hx4] [2,3,4,5,10,13,23,24,25,35,36,37] 3 [(.ot 13 Ty.Value,4)] kr (g1 _ (zaa (wkl [sb q1_1,sqx (row1.length=(List.map V.cells row1).length/\True),sqA (List.map vrow out) [[vsl row1]] out.length 1 24,si hw] [2,3,4,5,10,23,24,25] 3 kr (zaK 10 2 (List.map vrow out++[[vsl row1]]) gY (he:=Zcv3) (hm:=Zcv3))))))
noncomputable def L_niQ (nm:Str) (rows:List (List X)) (s:Sch) (frs:List Fr) (tb:List Tb) (out:List (List V)) (i:Nat):Cfg:=zai B.Bj 2 [(2,fsl frs),(3,tsl tb),(5,.p 1 0),(10,.own 2 out.length),(62,.sl []),(63,iv (([]:List (List AV)).length:Nat)),(64,iv (i:Nat))] [.box (zaD nm rows).cells,.box s.cells,.row Ty.LValue (out.map vrow) false]
theorem ziQ (nm:Str) (rows:List (List X)) (s:Sch) (frs:List Fr) (tb:List Tb) (out:List (List V)) (i:Nat):True/\∀ R,Good E0 B.Bj [] (L_niQ nm rows s frs tb out i) R->Good E0 B.Bj [] (L_niQ nm rows s frs tb out i) R:=⟨trivial,fun _ h=>h⟩
theorem zmo (nm:Str) (rows:List (List X)) (s:Sch) (frs:List Fr) (tb:List Tb) (f:X->V × Int) (hs:zac s.cols) (hr:zac rows) (hf:∀ r∈rows,zac r/\∀ x∈r,PEv f x frs tb) (hf0:∀ r∈rows,∀ x∈r,((f x).2 != 0)=false) (hfl:∀ r∈rows,(((zad r).length:Int) != ((s.cols.map Col.cells).length:Int))=false):∃ (out:List (List V)),out=evR f (rows.take rows.length)/\zab E0 S.Bj [(zaD nm rows).av,s.av,fsl frs,tsl tb] [] (.tup [.own 2 out.length,iv 0]) [.box (zaD nm rows).cells,.box s.cells,.row Ty.LValue (out.map vrow) false]:=by
 obtain ⟨out1,q1,q1_1,g1⟩:=ziR ((zaD nm rows).table) ((zaD nm rows).rows) s frs tb f zgP zgP hf zgP zgP 0 ([]) zgP zgP
 obtain ⟨q2,g2⟩:=ziQ ((zaD (zaD nm rows).table (zaD nm rows).rows).table) ((zaD (zaD nm rows).table (zaD nm rows).rows).rows) s frs tb out1 (0)
 exact ⟨out1,(by first|assumption|trivial|(simp;done)|omega|(simp;omega)|(simp at *;omega)),znQ At.Bj [] [2,3,4,5,10,23,24,25] 2 [(.ot 10 Ty.LValue,3)] kr (g1 _ (zaa (wkl [sb q1_1] [2,3,5,10,62,63,64] 3 kr (g2 _ (zaa (wkrK [sb Zf] kr))))))⟩
end Go.AM
namespace Go.Proofs
open Go.Shelf
shelf_lay_g Lays8.n4 Nm8 4 at Tryz 182 as Tryz.growT
end Go.Proofs
namespace Go.AM
open Go.Shelf Go.RowKit Go.Lib
theorem zwP {w:World} (o:Obj):BelowD w.heap.size w (w.drew.alloc o):=(BelowD.refl _ w).drew.alloc (yJ _) o
theorem zgm (n:Nat) (hn:n<=1000000):zab E0 S.C4 [.nl,iv (n:Int)] [] (.own 0 0) [.row Ty.Table [] false]:=by
 intro β S w vs r hp
 obtain ⟨hl,hv⟩:=hp
 match vs,hl,hv with
 | [v1,v2],_,hv =>
  have h1:=hv 0 .nl v1 rfl rfl
  have h2:=hv 1 (iv (n:Int)) v2 rfl rfl
  obtain ⟨a,rfl⟩:∃ a,v1=.slice a 0 0:=by
   cases h1 with
   | d _ _ h=>cases h
   | nl a=>exact ⟨a,rfl⟩
  obtain rfl:v2=.int .i64 (n:Int):=by
   cases h2 with
   | d _ _ h=>cases h with|v _ _=>rfl
  refine .inl ⟨⟨_,At.C4,by kernel_rfl,by kernel_rfl⟩,?_⟩
  have hb0:β.length=0:=r.len
  have hβ:β=[]:=List.length_eq_zero_iff.1 hb0
  subst hβ
  rcases Nat.eq_zero_or_pos n with h0|hpos
  ·subst h0
   have hc:=Go.Proofs.Any8.slices_Grow_room Go.Proofs.Tryz.growT a 0 0 0 w (yJ _) Zo Zo Zo
   refine Calls.mono (P:=E0.P) hc ?_
   rintro e w' ⟨rfl,rfl⟩
   obtain ⟨x,r'⟩:=r.newRow Ty.Table [] false (.nil a) (BelowD.refl _ _) (fun g hg=>by cases hg) rfl
   exact ⟨_,_,_,_,_,rfl,⟨rfl,rfl⟩,r',x,.own 0 0 _ Ty.Table [] false rfl (yJ _) (fun _=>rfl) rfl⟩
  ·obtain ⟨i,d,z,tok⟩:=E0ok.at_ (t:=Ty.Table) (by
    intro h
    have:(E0.T Ty.Table).size=4:=by kernel_rfl
    rw [h] at this;cases this)
   have hs:(E0.T Ty.Table).size=4:=by kernel_rfl
   have hby:(E0.T Ty.Table).bytes<=1000:=yI kr
   have hbytes:n * i.bytes<=140737488355328:=by
    rw [tok.bytes]
    exact Nat.le_trans (Nat.mul_le_mul hn hby) Zo
   have hc:=Go.Proofs.Any8.slices_Grow_grow Go.Proofs.Tryz.growT i z tok.info tok.zero (by rw [tok.size,hs];omega) a 0 0 n [] w (yJ _) Zo (by rw [yAi];exact hbytes) Zo Zs (fun _=>rfl) (fun _ _ j v h=>by simp at h)
   have hc2:Calls E0.P Go.AM.S.C4 #[.slice a 0 0,.int .i64 (n:Int)] w fun e w'=>e=.returned (.slice (some ⟨w.heap.size,0,none⟩) 0 (grownCap w (0+n) 0 Ty.Table))/\w'=w.drew.alloc (.cells (([]:List Value).toArray++Builtin.zeroCells z.cells (0+n - 0)++Builtin.zeroCells z.cells (grownCap w (0+n) 0 Ty.Table - (0+n))) Ty.Table):=hc
   refine Calls.mono (P:=E0.P) hc2 ?_
   rintro e w' ⟨rfl,rfl⟩
   have hge:=grownCap_ge w (0+n) 0 Ty.Table
   have hle:=grownCap_le_maxLen w (0+n) 0 Ty.Table (by unfold maxLen;omega)
   have hzl:z.cells.size=(E0.T Ty.Table).size:=by
    have:=(zdK (T:=E0.T) (h:=([]:Heap)) (β:=[]) (w:=w) (S:=S) _ _ tok.zok).1
    rw [yAM] at this
    rw [← this,tok.zlen]
   have hsz:(([]:List Value).toArray++Builtin.zeroCells z.cells (0+n - 0)++Builtin.zeroCells z.cells (grownCap w (0+n) 0 Ty.Table - (0+n))).size=grownCap w (0+n) 0 Ty.Table * (E0.T Ty.Table).size:=by
    simp only [Array.size_append,List.size_toArray,size_zeroCells,hzl,yAS,yAi,← yAA]
    congr 1
    simp only [yAi] at hge
    omega
   obtain ⟨x,r'⟩:=r.newRow Ty.Table [] false (.row w.heap.size (grownCap w (0+n) 0 Ty.Table)) (zwP _) (fun g hg=>by cases hg;exact ⟨yJ _,by simp⟩)
    ⟨_,heap_alloc_new w.drew (.cells (([]:List Value).toArray++Builtin.zeroCells z.cells (0+n - 0)++Builtin.zeroCells z.cells (grownCap w (0+n) 0 Ty.Table - (0+n))) Ty.Table),yAh _,by omega,hle,hsz,by simp,by simp⟩
   exact ⟨_,_,_,_,_,rfl,⟨rfl,rfl⟩,r',x,.own 0 0 _ Ty.Table [] false rfl (yJ _) (fun _=>rfl) rfl⟩
end Go.AM
namespace Go.AM
theorem zcx (i:Nat):zab E0 S.Dc [iv (i:Nat)] [] (X.av (xLit ⟨1,i,⟨#[]⟩⟩)) [] :=
 zsz i (by rw [decide_eq_false_iff_not];omega)
theorem zpW {p:Prop} (h:p:=by first|assumption|omega|(simp;done)|(simp;omega)):p:=h
abbrev cc2 (tb:List Tb):List (List AV):=[[tsl tb],[.sl []]]
theorem zmC (a b:List AV) (h:b.length=1):ElAt [a,b] ((0+1:Nat):Int) b 1:=⟨by decide,rfl,h⟩
noncomputable def L_cz (tb:List Tb) (i:Nat) (sz:Int):Cfg:=zai B.Ah 0 [(0,.sl (cc2 tb)),(3,iv sz),(9,.sl (cc2 tb)),(10,iv ((cc2 tb).length:Nat)),(11,iv (i:Nat))] []
theorem zcl (tb:List Tb) (i:Nat) (sz:Int):True/\∀ R,Good E0 B.Ah [] (L_cz tb i sz) R->Good E0 B.Ah [] (L_cz tb i sz) R:=⟨trivial,fun _ h=>h⟩
noncomputable def L_cb (tb:List Tb) (i:Nat) (xs:List Tb):Cfg:=zai B.Ah 1 [(6,.own 0 xs.length),(25,.sl (cc2 tb)),(26,iv ((cc2 tb).length:Nat)),(27,iv (i:Nat))] [.row Ty.Table (xs.map Tb.cells) false]
theorem zck (tb:List Tb) (i:Nat) (xs:List Tb):True/\∀ R,Good E0 B.Ah [] (L_cb tb i xs) R->Good E0 B.Ah [] (L_cb tb i xs) R:=⟨trivial,fun _ h=>h⟩
theorem zy7 (tb:List Tb) (hl:tb.length<=1000) (w1:IntKind.i64.wrap (0+((tb.map Tb.cells).length:Int))=(tb.length:Int)) (w2:IntKind.i64.wrap ((tb.length:Int)+(([]:List (List AV)).length:Int))=(tb.length:Int)) (w3:decide ((tb.length:Int) < 0)=false):∃ (r:List Tb),r=tb/\zab E0 S.Ah [.sl (cc2 tb)] [] (tsl r) []:=by
 obtain ⟨q1,g1⟩:=zcl tb 0 (0)
 obtain ⟨q2,g2⟩:=zcl tb (0+1) ((tb.length:Int))
 obtain ⟨q3,g3⟩:=zcl tb (0+1+1) ((tb.length:Int))
 obtain ⟨q4,g4⟩:=zck tb 0 ([])
 obtain ⟨q5,g5⟩:=zck tb (0+1) ([]++tb)
 obtain ⟨q6,g6⟩:=zck tb (0+1+1) ([]++tb++[])
 exact ⟨[]++tb++[],(by (simp;done)),wkc At.Ah [] [0,3,9,10,11] 0 kr (g1 _ (zaa (wkl [sb Zt,se (xs:=[[tsl tb],[AV.sl []]]) (i:=0) (c:=[tsl tb]) (n:=1) ⟨by decide,rfl,rfl⟩,si w1,sb Zf,si (zap (t:=(↑0:Int)+1) (n:=0+1) Zo Zo)] [0,3,9,10,11] 0 kr (g2 _ (zaa (wkl [sb Zt,se (zmC ([tsl tb]) ([AV.sl []]) Za),si w2,sb Zf,si (zap (t:=(↑(0+1):Int)+1) (n:=0+1+1) Zo Zo)] [0,3,9,10,11] 0 kr (g3 _ (zaa (wkl [sb Zf,sln [] (zgm tb.length Za)] [6,25,26,27] 1 kr (g4 _ (zaa (wkl [sb Zt,se (xs:=[[tsl tb],[AV.sl []]]) (i:=0) (c:=[tsl tb]) (n:=1) ⟨by decide,rfl,rfl⟩,sqx (AllLen (List.map Tb.cells tb) 4/\0=0/\((([]:List (List AV)).length+(List.map Tb.cells tb).length) * 72).le 140737488355328),si (zap (t:=(↑0:Int)+1) (n:=0+1) Zo Zo)] [6,25,26,27] 1 kr (zas (show ([(6,AV.own 0 ([]++List.map Tb.cells tb).length),(25,AV.sl [[tsl tb],[AV.sl []]]),(26,iv (↑[[tsl tb],[AV.sl []]].length:Int)),(27,iv (↑(0+1):Int))]:TS)=_ from Zcv3) rfl (g5 _ (zaa (wkl [sb Zt,se (zmC ([tsl tb]) ([AV.sl []]) Za),sqx (AllLen [] 4/\([]++tb).length=(List.map Tb.cells ([]++tb)).length/\(((List.map Tb.cells ([]++tb)).length+([]:List (List AV)).length) * 72).le 140737488355328),si (zap (t:=(↑(0+1):Int)+1) (n:=0+1+1) Zo Zo)] [6,25,26,27] 1 kr (zaK 6 0 (List.map Tb.cells ([]++tb)++[]) (g6 _ (zaa (wkr [sqx (([]++tb++[]).length=(List.map Tb.cells ([]++tb++[])).length),sb Zf] kr))) (he:=Zcv3) (hm:=Zcv3))))))))))))))))))⟩
theorem zfd (tb:List Tb) (hl:tb.length<=1000):zab E0 S.Ah [.sl (cc2 tb)] [] (tsl tb) []:=by
 obtain ⟨r,rfl,h⟩:=zy7 tb hl (by rw [yG,IntKind.wrap_i64];omega) (by rw [IntKind.wrap_i64];simp;omega) Zs
 exact h
theorem zza (t:Tb) (n:Str) :∃ (r:Bool),r=zaT t n/\zab E0 S.CB [.agg t.cells,.p 0 0] [.box [sv n]] (bv r) [.box [sv n]]:=by
 exact ⟨ByteArray.toList t.sch.name==ByteArray.toList n,Zr,wk At.CB [] kr⟩
theorem zpi (t:Tb) (n:Str):zab E0 S.CB [.agg t.cells,.p 0 0] [.box [sv n]] (bv (zaT t n)) [.box [sv n]]:=by
 obtain ⟨r,rfl,h⟩:=zza t n
 exact h
noncomputable def zvZ (l:List Tb) (n:Str) (i:Nat) :Cfg:=zai B.Al 0 [(0,.sl (l.map Tb.cells)),(1,.fn S.CB [.p 0 0]),(7,iv ((l.map Tb.cells).length:Nat)),(8,iv (i:Nat))] [.box [sv n]]
theorem zeE (l:List Tb) (n:Str) (hl:zac l) (i:Nat)  (hi:i<=(l).length) (hI:idxF (fun t=>zaT t n) l 0=idxF (fun t=>zaT t n) (l.drop i) i):((idxF (fun t=>zaT t n) l 0=idxF (fun t=>zaT t n) (l.drop (l).length) (l).length)/\(decide ((((l).length:Nat):Int) < (((l.map Tb.cells).length:Nat):Int))=false)/\∀ R,Good E0 B.Al [.box [sv n]] (zvZ l n (l).length ) R->Good E0 B.Al [.box [sv n]] (zvZ l n i ) R)\/(∃ (r:Int),r=idxF (fun t=>zaT t n) l 0/\Good E0 B.Al [.box [sv n]] (zvZ l n i ) (Shut 1 fun rZ hZ=>rZ=(iv r)/\hZ=[.box [sv n]])):=by
 have hk:=hi;revert i;refine zlp ((l).length) (fun i hlt ih hi hI _=>?_)
 obtain ⟨x,hx,h0,hw⟩:=zlq (l:=l) ((l.map Tb.cells).length) hlt
 let p_1:List St:=[sb h0,se (zaf Tb.cells hx rfl),sl [0] (zpi x n)]
 cases h1:zaT x n
 ·exact zie2 (ih Zo (by exact zfb hI hx ‹_›) Zo) fun R gY=>zaa (wkl (p_1++[sb h1,si hw]) [0,1,7,8] 1 kr gY)
 ·exact .inr ⟨(i:Int),(by exact zg0 hI hx ‹_›),zaa (wkr (p_1++[sb h1]) kr)⟩
theorem c_ixF (l:List Tb) (n:Str) (hl:zac l):∃ (r:Int),r=idxF (fun t=>zaT t n) l 0/\zab E0 S.Al [.sl (l.map Tb.cells),.fn S.CB [.p 0 0]] [.box [sv n]] (iv r) [.box [sv n]]:=by
 rcases zeE l n Za 0 Za Za with ⟨q1,q1_1,g1⟩|⟨r1_0,p1_0,g1⟩
 ·exact ⟨-1,(by first|assumption|exact zdt ‹_›),wkc At.Al [] [0,1,7,8] 1 kr (g1 _ (zaa (wkr [sb q1_1] kr)))⟩
 ·exact ⟨r1_0,(by first|assumption|exact zdt ‹_›),wkc At.Al [] [0,1,7,8] 1 kr (g1)⟩
theorem zsJ (tb:List Tb) (n:Str) (hx:∃ r:Int,r=idxF (fun t=>zaT t n) tb 0/\zab E0 S.Al [tsl tb,.fn S.CB [.p 0 0]] [.box [sv n]] (iv r) [.box [sv n]]):∃ (r:Int),r=idxF (fun t=>zaT t n) tb 0/\zab E0 S.CF [tsl tb,sv n] [] (iv r) []:=by
 obtain ⟨r1,q1,c1⟩:=hx
 exact ⟨r1,‹_›,wk At.CF [sl [0] c1] kr⟩
theorem zmS (tb:List Tb) (n:Str) (hl:zac tb):zab E0 S.CF [tsl tb,sv n] [] (iv (idxF (fun t=>zaT t n) tb 0)) []:=by
 obtain ⟨r,rfl,h⟩:=zsJ tb n (c_ixF tb n hl)
 exact h
theorem zwt (x:Rw) (hsv:zac x.vals):∃ (r:Rw),r=x/\zab E0 S.BL [.agg x.cells] [] (.agg r.cells) []:=by
 exact ⟨x,Zr,wk At.BL [sqx (True/\x.vals.length=(List.map V.cells x.vals).length/\True),sd [(4,[sc (zaC x.vals zpW)])]] kr⟩
theorem zdH (x:Rw) (h:zac x.vals):zab E0 S.BL [.agg x.cells] [] (.agg x.cells) []:=by
 obtain ⟨r,rfl,h⟩:=zwt x h
 exact h
noncomputable def L_dlR (l:List Rw) (i:Nat) (out:List Rw):Cfg:=zai B.BK 0 [(1,.fn S.BL []),(5,.own 0 out.length),(8,.sl ((l).map Rw.cells)),(9,iv (((l).map Rw.cells).length:Nat)),(10,iv (i:Nat))] [.row Ty.Row ((out).map Rw.cells) false]
theorem zga (l:List Rw) (hl:zac l) (hf:∀ x∈l,zab E0 S.BL [.agg x.cells] [] (.agg x.cells) []) (i:Nat) (out:List Rw) (hi:i<=(l).length) (hI:out=l.take i):∃ (out':List Rw),(out'=l.take (l).length)/\(decide ((((l).length:Nat):Int) < ((((l).map Rw.cells).length:Nat):Int))=false)/\∀ R,Good E0 B.BK [] (L_dlR l (l).length out') R->Good E0 B.BK [] (L_dlR l i out) R:=by
 have hk:=hi;revert i out;refine zlp ((l).length) (fun i hlt ih out hi hI _=>?_)
 obtain ⟨x,hx,h0,hw⟩:=zlq (l:=l) (((l).map Rw.cells).length) hlt
 have hfx:=hf x (yC hx)
 have ho:out.length<=1000000000:=by rw [hI,yV];simp only [zac] at hl;omega
 exact Zih (ih (out++[x]) Zo (by rw [yP,hx,hI];rfl) Zo) fun R gY=>zaa (wkl [sb h0,se (zaf Rw.cells hx rfl),sc hfx,sqA (List.map Rw.cells out) [[iv x.id,vsl x.vals]] out.length 2 32,si hw] [1,5,8,9,10] 1 kr (zaK 5 0 (List.map Rw.cells out++[[iv x.id,vsl x.vals]]) gY (he:=Zcv3) (hm:=Zcv3)))
theorem zma (l:List Rw) (hl:zac l) (hf:∀ x∈l,zab E0 S.BL [.agg x.cells] [] (.agg x.cells) []):∃ (r:List Rw),r=l/\zab E0 S.BK [.sl ((l).map Rw.cells),.fn S.BL []] [] (.sl ((r).map Rw.cells)) []:=by
 obtain ⟨out1,q1,q1_1,g1⟩:=zga l Za Za 0 ([]) Za Za
 exact ⟨out1,(by first|assumption|(rw [yL] at *;assumption)),wkcN At.BK [] [1,5,8,9,10] 0 [(.ot 5 Ty.Row,1)] kr (g1 _ (zaa (wkr [sqx (out1.length=(List.map Rw.cells out1).length),sb q1_1] kr)))⟩
theorem zgk (l:List Rw) (hl:zac l) (hf:∀ x∈l,zab E0 S.BL [.agg x.cells] [] (.agg x.cells) []):zab E0 S.BK [.sl ((l).map Rw.cells),.fn S.BL []] [] (.sl ((l).map Rw.cells)) []:=by
 obtain ⟨r,rfl,h⟩:=zma l hl hf
 exact h
theorem zrm (x:Sch) (hsv:zac x.cols):∃ (r:Sch),r=x/\zab E0 S.Du [x.av] [] r.av []:=by
 exact ⟨x,Zr,wk At.Du [sqx (True/\x.cols.length=(List.map Col.cells x.cols).length/\True),sc (za1 x.cols zpW)] kr⟩
theorem zrL (x:Sch) (h:zac x.cols):zab E0 S.Du [x.av] [] x.av []:=by
 obtain ⟨r,rfl,h⟩:=zrm x h
 exact h
theorem zsC (t:Tb) (hc:zac t.sch.cols) (hr:zac t.rows) (hf:∀ x∈t.rows,zab E0 S.BL [.agg x.cells] [] (.agg x.cells) []):∃ (r:Tb),r=t/\zab E0 S.B1 [.agg t.cells] [] (.agg r.cells) []:=by
 exact ⟨t,Zr,wk At.B1 [sd [(2,[sc (zrL t.sch zpW)]),(7,[sc (zgk t.rows zpW zpW)])]] kr⟩
theorem zmJ (t:Tb) (hc:zac t.sch.cols) (hr:zac t.rows) (hv:∀ r∈t.rows,zac r.vals):zab E0 S.B1 [.agg t.cells] [] (.agg t.cells) []:=by
 obtain ⟨r,rfl,h⟩:=zsC t hc hr (fun x hx=>zdH x (hv x hx))
 exact h
noncomputable def L_dlT (l:List Tb) (i:Nat) (out:List Tb):Cfg:=zai B.Bq 0 [(1,.fn S.B1 []),(5,.own 0 out.length),(8,.sl (l.map Tb.cells)),(9,iv ((l.map Tb.cells).length:Nat)),(10,iv (i:Nat))] [.row Ty.Table (out.map Tb.cells) false]
theorem zfm (l:List Tb) (hl:zac l) (hf:∀ x∈l,zab E0 S.B1 [.agg x.cells] [] (.agg x.cells) []) (i:Nat) (out:List Tb) (hi:i<=(l).length) (hI:out=l.take i):∃ (out':List Tb),(out'=l.take (l).length)/\(decide ((((l).length:Nat):Int) < (((l.map Tb.cells).length:Nat):Int))=false)/\∀ R,Good E0 B.Bq [] (L_dlT l (l).length out') R->Good E0 B.Bq [] (L_dlT l i out) R:=by
 have hk:=hi;revert i out;refine zlp ((l).length) (fun i hlt ih out hi hI _=>?_)
 obtain ⟨x,hx,h0,hw⟩:=zlq (l:=l) ((l.map Tb.cells).length) hlt
 have hfx:=hf x (yC hx)
 have ho:out.length<=1000000000:=by rw [hI,yV];simp only [zac] at hl;omega
 exact Zih (ih (out++[x]) Zo (by rw [yP,hx,hI];rfl) Zo) fun R gY=>zaa (wkl [sb h0,se (zaf Tb.cells hx rfl),sc hfx,sqA (List.map Tb.cells out) [[sv x.sch.name,ZC x.sch.cols,iv x.next,ZW x.rows]] out.length 4 72,si hw] [1,5,8,9,10] 1 kr (zaK 5 0 (List.map Tb.cells out++[[sv x.sch.name,ZC x.sch.cols,iv x.next,ZW x.rows]]) gY (he:=Zcv3) (hm:=Zcv3)))
theorem zro (l:List Tb) (hl:zac l) (hf:∀ x∈l,zab E0 S.B1 [.agg x.cells] [] (.agg x.cells) []):∃ (r:List Tb),r=l.take l.length/\zab E0 S.Bq [.sl (l.map Tb.cells),.fn S.B1 []] [] (.own 0 r.length) [.row Ty.Table (r.map Tb.cells) false]:=by
 obtain ⟨out1,q1,q1_1,g1⟩:=zfm l Za Za 0 ([]) Za Za
 exact ⟨out1,(by first|assumption|trivial|(simp;done)|omega|(simp;omega)|(simp at *;omega)),znQ At.Bq [] [1,5,8,9,10] 0 [(.ot 5 Ty.Table,1)] kr (g1 _ (zaa (wkrK [sb q1_1] kr)))⟩
theorem zdP (l:List Tb) (hl:zac l) (hf:∀ x∈l,zab E0 S.B1 [.agg x.cells] [] (.agg x.cells) []):zab E0 S.Bq [.sl (l.map Tb.cells),.fn S.B1 []] [] (.own 0 l.length) [.row Ty.Table (l.map Tb.cells) false]:=by
 obtain ⟨r,hr,h⟩:=zro l hl hf
 rw [yL] at hr;subst hr;exact h
theorem zrn (l:List Tb) (hl:zac l) (hf:∀ x∈l,zab E0 S.B1 [.agg x.cells] [] (.agg x.cells) []):∃ (r:List Tb),r=l/\zab E0 S.Ce [tsl l] [] (.own 0 r.length) [.row Ty.Table (r.map Tb.cells) false]:=by
 exact ⟨l,Zr,wkK At.Ce [sc (zdP l (by first|assumption|omega|(simp;done)|(simp;omega)) (by first|assumption|omega|(simp;done)|(simp;omega)))] kr⟩
theorem zcE (l:List Tb) (hl:zac l) (hc:∀ t∈l,zac t.sch.cols/\zac t.rows/\∀ r∈t.rows,zac r.vals):zab E0 S.Ce [tsl l] [] (.own 0 l.length) [.row Ty.Table (l.map Tb.cells) false]:=by
 obtain ⟨r,rfl,h⟩:=zrn l hl fun x hx=>zmJ x (hc x hx).1 (hc x hx).2.1 (hc x hx).2.2
 exact h
noncomputable def L_bs (tb:List Tb) (i:Nat):Cfg:=zai B.BX 0 [(1,tsl tb),(11,.sl []),(12,iv (([]:List (List AV)).length:Nat)),(13,iv (i:Nat))] []
theorem zhe (tb:List Tb) (i:Nat):True/\∀ R,Good E0 B.BX [] (L_bs tb i) R->Good E0 B.BX [] (L_bs tb i) R:=⟨trivial,fun _ h=>h⟩
theorem zrl (tb:List Tb) :∃ (r:Int),r=0/\zab E0 S.BX [.sl [],tsl tb] [] (iv r) []:=by
 obtain ⟨q1,g1⟩:=zhe tb (0)
 exact ⟨0,Zr,wkc At.BX [] [1,11,12,13] 0 kr (g1 _ (zaa (wkr [sb Zf] kr)))⟩
theorem zfc (tb:List Tb):zab E0 S.BX [.sl [],tsl tb] [] (iv 0) []:=by
 obtain ⟨r,rfl,h⟩:=zrl tb
 exact h
theorem zum (nm:Str) (rows:List (List X)) :∃ (r:List Str),r=[]/\zab E0 S.Cv [(zaD nm rows).av] [] (ssl r) []:=by
 exact ⟨[],Zr,wk At.Cv [sb Zt] kr⟩
theorem zmf (nm:Str) (rows:List (List X)):zab E0 S.Cv [(zaD nm rows).av] [] (.sl []) []:=by
 obtain ⟨r,rfl,h⟩:=zum nm rows
 exact h
theorem zkU (nm:Str) (rows:List (List X)) (s:Sch) (frs:List Fr) (tb:List Tb) (f:X->V × Int) (hv:zab E0 S.C2 [(zaD nm rows).av,tsl tb] [] (.tup [s.av,iv 0]) []) (hs:zac s.cols) (hr:zac rows) (hf:∀ r∈rows,zac r/\∀ x∈r,PEv f x frs tb) (hf0:∀ r∈rows,∀ x∈r,((f x).2 != 0)=false) (hfl:∀ r∈rows,(((zad r).length:Int) != ((s.cols.map Col.cells).length:Int))=false):∃ (out:List (List V)),out=evR f (rows.take rows.length)/\zab E0 S.AF [(zaD nm rows).av,fsl frs,tsl tb] [] (.tup [.agg [.own 5 out.length,.nl,.nl],iv 0]) [.box (zaD nm rows).cells,.box [.own 5 out.length,.nl,.nl],.box s.cells,.box (zaD nm rows).cells,.box s.cells,.row Ty.LValue (out.map vrow) false]:=by
 obtain ⟨out1,q1,c1⟩:=(zmo ((zaD nm rows).table) ((zaD nm rows).rows) s frs tb f Za Za hf Za Za)
 exact ⟨out1,‹_›,wkK At.AF [sc hv,sb Zf,sb Zt,sc c1,sb Zf] kr⟩
theorem zpX {p:Prop} (h:p:=by first|assumption|omega|(simp;done)|(simp;omega)):p:=h
abbrev runB (m:List Tb) (trig:List (List AV)) (s:Sch) (p c:AV):List AV:=[tsl m,.sl trig,.sl [],sv s.name,.sl (s.cols.map Col.cells),p,c]
theorem zxT (m:List Tb) (trig:List (List AV)) (s:Sch) (l g:List V) (hR:zab E0 S.A0 [.sl trig,.sl [],s.av,.sl [],vsl l,tsl m,.sl []] [] (.tup [vsl g,.sl [],.sl [],iv 0]) []):∃ (r:List V) (e:Int),(r=g/\e=0)/\zab E0 S.Bd [.p 0 0,.sl [],vsl l] [.box (runB m trig s (.own 1 0) .nl),.row Ty.int [] false] (.tup [vsl r,iv e]) [.box (runB m trig s (.sl []) (.own 2 0)),.row Ty.int [] true,.row Ty.int [] false]:=by
 exact ⟨g,0,Zj,wkK At.Bd [sd [(22,[skx (True/\True/\(True/\True/\True)/\True/\True/\True/\0=0/\True) [] hR])],sb Zf,sqx (AllLen [] 1/\Nat.le 0 140737488355328)] kr⟩
theorem zjQ (m:List Tb) (trig:List (List AV)) (s:Sch) (l g:List V) (hR:zab E0 S.A0 [.sl trig,.sl [],s.av,.sl [],vsl l,tsl m,.sl []] [] (.tup [vsl g,.sl [],.sl [],iv 0]) []):zab E0 S.Bd [.p 0 0,.sl [],vsl l] [.box (runB m trig s (.own 1 0) .nl),.row Ty.int [] false] (.tup [vsl g,iv 0]) [.box (runB m trig s (.sl []) (.own 2 0)),.row Ty.int [] true,.row Ty.int [] false]:=by
 obtain ⟨r,e,⟨rfl,rfl⟩,h⟩:=zxT m trig s l g hR
 exact h
theorem zxU (m:List Tb) (trig:List (List AV)) (s:Sch) (l g:List V) (hR:zab E0 S.A0 [.sl trig,.sl [],s.av,.sl [],vsl l,tsl m,.sl []] [] (.tup [vsl g,.sl [],.sl [],iv 0]) []):∃ (r:List V) (e:Int),(r=g/\e=0)/\zab E0 S.Bd [.p 0 0,.sl [],vsl l] [.box (runB m trig s (.sl []) (.own 1 0)),.row Ty.int [] false] (.tup [vsl r,iv e]) [.box (runB m trig s (.sl []) (.own 1 0)),.row Ty.int [] false]:=by
 exact ⟨g,0,Zj,wk At.Bd [sd [(22,[sc hR])],sb Zf,sqx (AllLen [] 1/\0=0/\Nat.le 0 140737488355328)] kr⟩
theorem zjR (m:List Tb) (trig:List (List AV)) (s:Sch) (l g:List V) (hR:zab E0 S.A0 [.sl trig,.sl [],s.av,.sl [],vsl l,tsl m,.sl []] [] (.tup [vsl g,.sl [],.sl [],iv 0]) []):zab E0 S.Bd [.p 0 0,.sl [],vsl l] [.box (runB m trig s (.sl []) (.own 1 0)),.row Ty.int [] false] (.tup [vsl g,iv 0]) [.box (runB m trig s (.sl []) (.own 1 0)),.row Ty.int [] false]:=by
 obtain ⟨r,e,⟨rfl,rfl⟩,h⟩:=zxU m trig s l g hR
 exact h
abbrev rrH (m:List Tb) (trig:List (List AV)) (s:Sch) (ins:List (List V)):Heap:=[.box (runB m trig s (.own 1 0) .nl),.row Ty.int [] false,.box [.own 3 ins.length,.nl,.nl],.row Ty.LValue (ins.map vrow) false]
noncomputable def L_rr0 (m:List Tb) (trig:List (List AV)) (s:Sch) (t:Tb) (ins:List (List V)) (i:Nat) :Cfg:=zai B.Ag 0 [(0,.p 0 0),(1,.p 2 0),(20,.sl (t.rows.map Rw.cells)),(21,iv ((t.rows.map Rw.cells).length:Nat)),(22,iv (i:Nat))] (rrH m trig s ins++[.box t.cells])
theorem zfZ (m:List Tb) (trig:List (List AV)) (s:Sch) (t:Tb) (ins:List (List V)) (hr:zac t.rows) (i:Nat)  (hi:i<=(t.rows).length) (hI:True):(True)/\(decide ((((t.rows).length:Nat):Int) < (((t.rows.map Rw.cells).length:Nat):Int))=false)/\∀ R,Good E0 B.Ag (rrH m trig s ins) (L_rr0 m trig s t ins (t.rows).length ) R->Good E0 B.Ag (rrH m trig s ins) (L_rr0 m trig s t ins i ) R:=by
 have hk:=hi;revert i hI;refine zlp ((t.rows).length) (fun i hlt ih hi hI _=>?_)
 obtain ⟨x,hx,h0,hw⟩:=zlq (l:=t.rows) ((t.rows.map Rw.cells).length) hlt
 obtain ⟨qZ,xZ,gZ⟩:=ih Zo (by first|trivial|assumption|(simp;done)|omega|(simp;omega)|(simp at *;omega)) Zo;exact ⟨qZ,xZ,fun R hg=>zaa (wkl [sb h0,se (zaf Rw.cells hx rfl),sd [(6,[sc (ziu x.id)])],sb Zf,si hw] [0,1,20,21,22] 5 kr (gZ R hg))⟩
noncomputable def L_rr1 (m:List Tb) (trig:List (List AV)) (s:Sch) (t:Tb) (ins:List (List V)) (i:Nat):Cfg:=zai B.Ag 1 [(0,.p 0 0),(1,.p 2 0),(47,.nl),(48,iv 0),(49,iv (i:Nat))] (rrH m trig s ins++[.box t.cells])
theorem zf0 (m:List Tb) (trig:List (List AV)) (s:Sch) (t:Tb) (ins:List (List V)) (i:Nat):True/\∀ R,Good E0 B.Ag (rrH m trig s ins) (L_rr1 m trig s t ins i) R->Good E0 B.Ag (rrH m trig s ins) (L_rr1 m trig s t ins i) R:=⟨trivial,fun _ h=>h⟩
abbrev outG (g:List V->List V) (ins:List (List V)) (i:Nat):List (List V):=(ins.take i).map g++ins.drop i
theorem zzO (g:List V->List V) (ins:List (List V)) (i:Nat):(outG g ins i).length=ins.length:=by
 simp only [outG,yAO,yG,yV,yAt];omega
theorem zAV {g:List V->List V} {ins:List (List V)} {i:Nat} {x:List V} (hx:ins[i]?=some x):(outG g ins i)[i]?=some x:=by
 have hi:=(yB.1 hx).1
 have hl:((ins.take i).map g).length=i:=by simp;omega
 rw [outG,yY Zo,hl,Nat.sub_self,yX];simpa using hx
theorem ztz {g:List V->List V} {ins:List (List V)} {i:Nat} {x:List V} (hx:ins[i]?=some x):(outG g ins i).set i (g x)=outG g ins (i+1):=by
 have hi:=(yB.1 hx).1
 have hl:((ins.take i).map g).length=i:=by simp;omega
 rw [outG,List.set_append_right _ _ Zo,hl,Nat.sub_self,zaB hx,List.set_cons_zero,outG,yP,hx,yAR,yAV]
 rfl
noncomputable def zwa (m:List Tb) (trig:List (List AV)) (s:Sch) (t:Tb) (ins:List (List V)) (g:List V->List V) (i:Nat) (out:List (List V)):Cfg:=zai B.Ag 2 [(0,.p 0 0),(1,.p 2 0),(78,.own 3 ins.length),(79,iv (ins.length:Nat)),(80,iv (i:Nat))] [.box (runB m trig s (.sl []) (.own 5 0)),.row Ty.int [] true,.box [.own 3 ins.length,.nl,.nl],.row Ty.LValue (out.map vrow) false,.box t.cells,.row Ty.int [] false]
theorem zf1 (m:List Tb) (trig:List (List AV)) (s:Sch) (t:Tb) (ins:List (List V)) (g:List V->List V) (hl:zac ins) (hR:∀ l∈ins,zab E0 S.A0 [.sl trig,.sl [],s.av,.sl [],vsl l,tsl m,.sl []] [] (.tup [vsl (g l),.sl [],.sl [],iv 0]) []) (i:Nat) (out:List (List V)) (hi:i<=(ins.length)) (hI:out=outG g ins i):∃ (out':List (List V)),(out'=outG g ins ins.length)/\(decide ((((ins.length):Nat):Int) < (((ins.length):Nat):Int))=false)/\∀ R,Good E0 B.Ag (rrH m trig s ins) (zwa m trig s t ins g ins.length out') R->Good E0 B.Ag (rrH m trig s ins) (zwa m trig s t ins g i out) R:=by
 have hk:=hi;revert i out;refine zlp ins.length (fun i hlt ih out hi hI _=>?_)
 have h0:decide (((i:Nat):Int) < (((ins.length):Nat):Int))=true:=by simp;omega
 have hw:IntKind.i64.wrap (((i:Nat):Int)+1)=((i+1:Nat):Int):=zba i (by (simp only [zac] at hl;omega))
 obtain ⟨x,hx⟩:=zbc (l:=ins) (i:=i) Zo
 have hxR:=hR x (yC hx)
 have hol:(out.map vrow).length=ins.length:=by rw [yG,hI,zzO]
 have he:OwnEl (out.map vrow) ins.length i (vrow x):=⟨hol.symm,by rw [yS,hI,zAV hx];rfl⟩
 have ho:OwnAt (out.map vrow) ins.length ((i:Nat):Int):=⟨hol.symm,by omega,by omega⟩
 exact Zih (ih (out.set i (g x)) Zo (by (rw [hI];exact ztz hx)) Zo) fun R gY=>zaa (wkl [sb h0,sqx (OwnAt (List.map vrow out) ins.length (i:Int)),sx (.el (vrow x)) he,sl [0,5] (zjR m trig s x (g x) hxR),sb Zf,sqx (OwnAt (List.map vrow out) ins.length (i:Int)),sx (.el (vrow x)) (And.intro (owed (p:=True/\True)) he),si hw] [0,1,78,79,80] 6 kr (zas rfl (show ([Blk.box [tsl m,AV.sl trig,AV.sl [],sv s.name,ZC s.cols,AV.sl [],AV.own 5 0],Blk.row Ty.int [] true,Blk.box [AV.own 3 ins.length,AV.nl,AV.nl],Blk.row Ty.LValue ((List.map vrow out).set i [vsl (g x)]) false,Blk.box [sv t.sch.name,ZC t.sch.cols,iv t.next,ZW t.rows],Blk.row Ty.int [] false]:Heap)=_ from Zcv3) gY))
noncomputable def L_rr20 (m:List Tb) (trig:List (List AV)) (s:Sch) (t:Tb) (ins:List (List V)):Cfg:=zai B.Ag 2 [(0,.p 0 0),(1,.p 2 0),(78,.own 3 ins.length),(79,iv (ins.length:Nat)),(80,iv 0)] (rrH m trig s ins++[.box t.cells])
theorem zfo (m:List Tb) (trig:List (List AV)) (s:Sch) (t:Tb) (ins:List (List V)) (g:List V->List V) (hl:zac ins) (hne:ins≠[]) (hR:∀ l∈ins,zab E0 S.A0 [.sl trig,.sl [],s.av,.sl [],vsl l,tsl m,.sl []] [] (.tup [vsl (g l),.sl [],.sl [],iv 0]) []):decide (((ins.length:Nat):Int) < ((ins.length:Nat):Int))=false/\∀ R,Good E0 B.Ag (rrH m trig s ins) (zwa m trig s t ins g ins.length (ins.map g)) R->Good E0 B.Ag (rrH m trig s ins) (L_rr20 m trig s t ins) R:=by
 have hx0:∃ x,ins[0]?=some x:=zbc (by cases ins with|nil=>exact absurd rfl hne|cons _ _=>simp)
 obtain ⟨x,hx⟩:=hx0
 have hil:=(yB.1 hx).1
 obtain ⟨out,hout,h1,h2⟩:=zf1 m trig s t ins g hl hR 1 (outG g ins 1) Zo rfl
 have hout2:out=ins.map g:=by rw [hout,outG,yL,yAG,List.append_nil]
 subst hout2
 refine ⟨by simp,fun R h=>?_⟩
 have hg:=h2 R h
 have h0:decide ((0:Int) < ((ins.length:Nat):Int))=true:=by simp;omega
 have hxR:=hR x (yC hx)
 have he:OwnEl (ins.map vrow) ins.length 0 (vrow x):=⟨by simp,by rw [yS,hx];rfl⟩
 have ho:OwnAt (ins.map vrow) ins.length (0:Int):=⟨by simp,by omega,by omega⟩
 have hset:ins.set 0 (g x)=outG g ins 1:=by have:=ztz (g:=g) hx;rwa [show outG g ins 0=ins by simp [outG]] at this
 rw [← hset] at hg
 refine zaa ?_
 exact wkl [sb h0,sqx (OwnAt (List.map vrow ins) ins.length 0),sx (.el (vrow x)) he,sl [0,1] (zjQ m trig s x (g x) hxR),sb Zf,sqx (OwnAt (List.map vrow ins) ins.length 0),sx (.el (vrow x)) (And.intro (owed (p:=True/\True)) he),si (zap (t:=0+1) (n:=0+1) Zo Zo)] [0,1,78,79,80] 6 kr (zas rfl (show ([Blk.box [tsl m,AV.sl trig,AV.sl [],sv s.name,ZC s.cols,AV.sl [],AV.own 5 0],Blk.row Ty.int [] true,Blk.box [AV.own 3 ins.length,AV.nl,AV.nl],Blk.row Ty.LValue ((List.map vrow ins).set 0 [vsl (g x)]) false,Blk.box [sv t.sch.name,ZC t.sch.cols,iv t.next,ZW t.rows],Blk.row Ty.int [] false]:Heap)=_ from Zcv3) hg)
theorem zxW (m:List Tb) (trig:List (List AV)) (s:Sch) (t:Tb) (ins:List (List V)) (g:List V->List V) (hr:zac t.rows) (hl:zac ins) (hne:ins≠[]) (hR:∀ l∈ins,zab E0 S.A0 [.sl trig,.sl [],s.av,.sl [],vsl l,tsl m,.sl []] [] (.tup [vsl (g l),.sl [],.sl [],iv 0]) []):∃ (r:Int),r=0/\zab E0 S.Ag [.p 0 0,.p 2 0,t.av] (rrH m trig s ins) (iv r) [.box (runB m trig s (.sl []) (.own 5 0)),.row Ty.int [] true,.box [.own 3 ins.length,.nl,.nl],.row Ty.LValue ((ins.map g).map vrow) false,.box t.cells,.row Ty.int [] false]:=by
 obtain ⟨q1,q1_1,g1⟩:=zfZ m trig s t ins zpX 0 zpX zpX
 obtain ⟨q2,g2⟩:=zf0 m trig s t ins (0)
 obtain ⟨q3,g3⟩:=zfo m trig s t ins g zpX zpX hR
 exact ⟨0,Zr,wkcK At.Ag [] [0,1,20,21,22] 5 kr (g1 _ (zaa (wkl [sb q1_1] [0,1,47,48,49] 5 kr (g2 _ (zaa (wkl [sb Zf,sqx (ins.length=(List.map vrow ins).length)] [0,1,78,79,80] 5 kr (g3 _ (zaa (wkrK [sb q3] kr)))))))))⟩
theorem ziL {p:Prop} (h:p:=by first|assumption|rfl|omega|(simp [zac];done)|decide):p:=h
theorem zhJ (m:List Tb) (trig:List (List AV)) (s:Sch) (t:Tb) (ins:List (List V)) (g:List V->List V) (hr:zac t.rows) (hl:zac ins) (hne:ins≠[]) (hR:∀ l∈ins,zab E0 S.A0 [.sl trig,.sl [],s.av,.sl [],vsl l,tsl m,.sl []] [] (.tup [vsl (g l),.sl [],.sl [],iv 0]) []):zab E0 S.Ag [.p 0 0,.p 2 0,t.av] (rrH m trig s ins) (iv 0) [.box (runB m trig s (.sl []) (.own 5 0)),.row Ty.int [] true,.box [.own 3 ins.length,.nl,.nl],.row Ty.LValue ((ins.map g).map vrow) false,.box t.cells,.row Ty.int [] false]:=by
 obtain ⟨r,rfl,h⟩:=zxW m trig s t ins g hr hl hne hR
 exact h
theorem zAm (m:List Tb) (frs:List Fr) (nm:Str) (rows:List (List X)) (ts:List Tg) (trig:List (List AV)) (t t2:Tb) (a:Nat) (ins:List (List V)) (g:List V->List V) (hl:m.length<=1000) (hx:m[a]?=some t) (hal:a < m.length) (hfd:zab E0 S.CF [tsl m,sv nm] [] (iv (a:Nat)) []) (hn:decide (((a:Nat):Int) < 0)=false) (hC:zab E0 S.AF [(zaD nm rows).av,fsl frs,tsl m] [] (.tup [.agg [.own 5 ins.length,.nl,.nl],iv 0]) [.box (zaD nm rows).cells,.box [.own 5 ins.length,.nl,.nl],.box t.sch.cells,.box (zaD nm rows).cells,.box t.sch.cells,.row Ty.LValue (ins.map vrow) false]) (hd:∀ t∈m,zac t.sch.cols/\zac t.rows/\∀ r∈t.rows,zac r.vals) (hF:zab E0 S.AD [.sl (ts.map Tg.cells),sv nm,iv 1,.sl [],bv false] [] (.sl []) []) (hT:zab E0 S.AD [.sl (ts.map Tg.cells),sv nm,iv 1,.sl [],bv true] [] (.sl trig) []) (hz:(((0+0+ins.length:Nat):Int)==0)=false) (hr:zac t.rows) (hli:zac ins) (hne:ins≠[]) (hR:∀ l∈ins,zab E0 S.A0 [.sl trig,.sl [],t.sch.av,.sl [],vsl l,tsl m,.sl []] [] (.tup [vsl (g l),.sl [],.sl [],iv 0]) []) (hA:zab E0 S.AV [t.av,insC (ins.map g)] [] (.tup [t2.av,iv 0]) []):∃ (r:List (List AV)) (n e:Int),(e=0/\r=(m.map Tb.cells).set a t2.cells/\n=((ins.length:Nat):Int))/\zab E0 S.Bi [tsl m,.sl (ts.map Tg.cells),.sl [],(zaD nm rows).av,fsl frs,.sl [],.sl []] [] (.tup [.sl r,.sl [],.sl [],iv n,iv e]) []:=by
 exact ⟨(List.map Tb.cells m).set a [sv t2.sch.name,ZC t2.sch.cols,iv t2.next,ZW t2.rows],(↑(0+0+ins.length):Int),0,(by (exact ⟨rfl,rfl,by simp⟩)),(by (try simp only [zsl,xCol,xLit,xBin,xNeg,Ac.cells,Se.cells,Pr.cells,Ch.cells,Rw.cells]);exact wk At.Bi [sqx (m.length=((List.map Tb.cells m).set a [sv t2.sch.name,ZC t2.sch.cols,iv t2.next,ZW t2.rows]).length/\True/\0=0/\True/\True/\True),sc hfd,sc (zfd m ziL),sb Zf,sc hC,sb Zf,si (zap (t:=0+0) (n:=0+0) Zo Zo),sqx (ins.length=(List.map vrow ins).length),si (zap (t:=(↑(0+0):Int)+(ins.length:Int)) (n:=0+0+ins.length) Zo Zo),sc (zcE m ziL ziL),sb hz,sc (zmf ((zaD nm rows).table) ((zaD nm rows).rows)),sc hF,sc (zfc m),sb Zf,sd [(11,[se (zaf Tb.cells hx rfl)]),(7,[sc hT]),(15,[sc (za9 ([]) ziL)])],se (zaf Tb.cells hx rfl),sl [10,9,7,6] (zhJ m trig t.sch t ins g ziL ziL ziL hR),sb Zf,sdm [(2,[se (zaf Tb.cells hx rfl)]),(5,[skx ((True/\True/\True/\True/\True)/\(ins.length=(List.map vrow (List.map g ins)).length/\True/\True/\True)/\True) [] hA])] 0 [(0,tsl m),(1,ZG ts),(2,AV.sl []),(3,AV.agg [iv (zaD nm rows).kind,sv (zaD nm rows).table,AV.sl (List.map (fun r=>[AV.sl (zad r)]) (zaD nm rows).rows),AV.sl (zam []),AV.sl [],AV.sl (zad []),sv (zaD nm rows).text]),(4,fsl frs),(5,AV.sl []),(6,AV.sl []),(10,AV.p 0 0),(14,AV.nl),(15,AV.nl),(16,AV.nl),(17,iv 0),(18,iv 0),(19,iv (a:Int)),(20,tsl m),(21,AV.p 7 0),(22,iv 0),(23,iv (↑(0+0+ins.length):Int)),(24,AV.own 8 m.length),(25,AV.sl []),(26,iv 0),(27,AV.p 10 0),(28,iv 0),(29,AV.p 13 0),(30,tsl m),(31,AV.p 0 1),(32,sv (zaD nm rows).table),(33,iv (a:Int)),(34,tsl m),(35,AV.sl []),(36,AV.sl [[tsl m],[AV.sl []]]),(37,tsl m),(38,iv (a:Int)),(39,AV.bl false),(41,AV.tup [AV.agg [AV.own 6 ins.length,AV.nl,AV.nl],iv 0]),(42,AV.agg [iv (zaD nm rows).kind,sv (zaD nm rows).table,AV.sl (List.map (fun r=>[AV.sl (zad r)]) (zaD nm rows).rows),AV.sl (zam []),AV.sl [],AV.sl (zad []),sv (zaD nm rows).text]),(43,fsl frs),(44,tsl m),(45,AV.tup [AV.agg [AV.own 6 ins.length,AV.nl,AV.nl],iv 0]),(46,AV.agg [AV.own 6 ins.length,AV.nl,AV.nl]),(47,iv 0),(48,iv 0),(49,AV.bl false),(51,AV.p 7 1),(52,AV.nl),(53,iv 0),(54,AV.p 7 2),(55,AV.nl),(56,iv 0),(57,iv (↑(0+0):Int)),(58,AV.p 7 0),(59,AV.own 6 ins.length),(60,iv (ins.length:Int)),(61,iv (↑(0+0+ins.length):Int)),(62,tsl m),(63,AV.own 8 m.length),(64,iv (↑(0+0+ins.length):Int)),(65,AV.bl false),(69,AV.agg [iv (zaD nm rows).kind,sv (zaD nm rows).table,AV.sl (List.map (fun r=>[AV.sl (zad r)]) (zaD nm rows).rows),AV.sl (zam []),AV.sl [],AV.sl (zad []),sv (zaD nm rows).text]),(70,AV.sl []),(71,ZG ts),(72,AV.p 0 1),(73,sv (zaD nm rows).table),(74,AV.p 0 0),(75,iv (zaD nm rows).kind),(76,AV.sl []),(77,AV.sl []),(78,tsl m),(79,iv 0),(80,iv 0),(81,AV.bl false),(83,tsl m),(84,ZG ts),(85,AV.p 0 1),(86,sv (zaD nm rows).table),(87,AV.p 0 0),(88,iv (zaD nm rows).kind),(89,AV.sl []),(90,AV.sl trig),(91,AV.sl []),(92,tsl m),(93,iv (a:Int)),(94,AV.dp [sv t.sch.name,ZC t.sch.cols,iv t.next,ZW t.rows]),(95,AV.dp [sv t.sch.name,ZC t.sch.cols,iv t.next,ZW t.rows]),(96,AV.agg t.sch.cells),(97,AV.sl []),(98,AV.own 9 0),(99,AV.agg [tsl m,AV.sl trig,AV.sl [],sv t.sch.name,ZC t.sch.cols,AV.own 9 0,AV.nl]),(100,AV.p 10 0),(101,AV.p 10 0),(102,tsl m),(103,iv (a:Int)),(104,AV.dp [sv t.sch.name,ZC t.sch.cols,iv t.next,ZW t.rows]),(105,AV.agg [sv t.sch.name,ZC t.sch.cols,iv t.next,ZW t.rows]),(106,iv 0),(107,iv 0),(108,AV.bl false),(110,AV.tup [AV.agg [sv t2.sch.name,ZC t2.sch.cols,iv t2.next,ZW t2.rows],iv 0]),(111,tsl m),(112,iv (a:Int)),(113,AV.dp [sv t.sch.name,ZC t.sch.cols,iv t.next,ZW t.rows]),(114,AV.agg [sv t.sch.name,ZC t.sch.cols,iv t.next,ZW t.rows]),(115,AV.agg [AV.own 6 ins.length,AV.nl,AV.nl]),(116,AV.tup [AV.agg [sv t2.sch.name,ZC t2.sch.cols,iv t2.next,ZW t2.rows],iv 0]),(117,AV.agg [sv t2.sch.name,ZC t2.sch.cols,iv t2.next,ZW t2.rows]),(118,iv 0)] [Blk.box [iv (zaD nm rows).kind,sv (zaD nm rows).table,AV.sl (List.map (fun r=>[AV.sl (zad r)]) (zaD nm rows).rows),AV.sl (zam []),AV.sl [],AV.sl (zad []),sv (zaD nm rows).text],Blk.box [iv (zaD nm rows).kind,sv (zaD nm rows).table,AV.sl (List.map (fun r=>[AV.sl (zad r)]) (zaD nm rows).rows),AV.sl (zam []),AV.sl [],AV.sl (zad []),sv (zaD nm rows).text],Blk.box [AV.own 6 ins.length,AV.nl,AV.nl],Blk.box t.sch.cells,Blk.box [iv (zaD nm rows).kind,sv (zaD nm rows).table,AV.sl (List.map (fun r=>[AV.sl (zad r)]) (zaD nm rows).rows),AV.sl (zam []),AV.sl [],AV.sl (zad []),sv (zaD nm rows).text],Blk.box t.sch.cells,Blk.row Ty.LValue (List.map vrow (List.map g ins)) true,Blk.box [AV.own 6 ins.length,AV.nl,AV.nl],Blk.row Ty.Table (List.map Tb.cells m) false,Blk.row Ty.int [] true,Blk.box [tsl m,AV.sl trig,AV.sl [],sv t.sch.name,ZC t.sch.cols,AV.sl [],AV.own 12 0],Blk.box [sv t.sch.name,ZC t.sch.cols,iv t.next,ZW t.rows],Blk.row Ty.int [] false,Blk.box [sv t2.sch.name,ZC t2.sch.cols,iv t2.next,ZW t2.rows]],sb Zf,sqx (OwnAt (List.map Tb.cells m) m.length (a:Int)),sx (.el t.cells) (And.intro (owed (p:=True/\True/\True/\True/\True)) (zcp Tb.cells (n:=m.length) Zs hx)),sd []] kr)⟩
theorem zlA (m:List Tb) (frs:List Fr) (nm:Str) (rows:List (List X)) (ts:List Tg) (trig:List (List AV)) (t t2:Tb) (a:Nat) (ins:List (List V)) (g:List V->List V) (hl:m.length<=1000) (hx:m[a]?=some t) (hal:a < m.length) (hfd:zab E0 S.CF [tsl m,sv nm] [] (iv (a:Nat)) []) (hn:decide (((a:Nat):Int) < 0)=false) (hC:zab E0 S.AF [(zaD nm rows).av,fsl frs,tsl m] [] (.tup [.agg [.own 5 ins.length,.nl,.nl],iv 0]) [.box (zaD nm rows).cells,.box [.own 5 ins.length,.nl,.nl],.box t.sch.cells,.box (zaD nm rows).cells,.box t.sch.cells,.row Ty.LValue (ins.map vrow) false]) (hd:∀ t∈m,zac t.sch.cols/\zac t.rows/\∀ r∈t.rows,zac r.vals) (hF:zab E0 S.AD [.sl (ts.map Tg.cells),sv nm,iv 1,.sl [],bv false] [] (.sl []) []) (hT:zab E0 S.AD [.sl (ts.map Tg.cells),sv nm,iv 1,.sl [],bv true] [] (.sl trig) []) (hz:(((0+0+ins.length:Nat):Int)==0)=false) (hr:zac t.rows) (hli:zac ins) (hne:ins≠[]) (hR:∀ l∈ins,zab E0 S.A0 [.sl trig,.sl [],t.sch.av,.sl [],vsl l,tsl m,.sl []] [] (.tup [vsl (g l),.sl [],.sl [],iv 0]) []) (hA:zab E0 S.AV [t.av,insC (ins.map g)] [] (.tup [t2.av,iv 0]) []):zab E0 S.Bi [tsl m,.sl (ts.map Tg.cells),.sl [],(zaD nm rows).av,fsl frs,.sl [],.sl []] [] (.tup [tsl (m.set a t2),.sl [],.sl [],iv (ins.length:Nat),iv 0]) []:=by
 obtain ⟨r,n,e,⟨rfl,rfl,rfl⟩,h⟩:=zAm m frs nm rows ts trig t t2 a ins g hl hx hal hfd hn hC hd hF hT hz hr hli hne hR hA
 rw [← List.map_set] at h
 exact h
theorem zeu {s:Sch} {i:Nat} {x:Col} (h:(zbi x.name&&decide (1<=x.type)&&decide (x.type<=3)&&(!x.key || x.notNull)&&(idxF (fun c=>colC c x.name) s.cols 0==((i:Nat):Int)))=true):ColV s i x:=by
 simp only [yR,decide_eq_true_eq,beq_iff_eq,yAp,Bool.not_eq_true'] at h
 obtain ⟨⟨⟨⟨h1,h2⟩,h3⟩,h4⟩,h5⟩:=h
 refine ⟨by rw [h1];rfl,by simp;omega,by simp;omega,fun hk=>?_,by simp [h5]⟩
 rcases h4 with h4|h4
 ·rw [hk] at h4;cases h4
 ·exact h4
theorem zgv {s:Sch} (hs:s∈zan):SchV s:=by
 simp only [zan,yO,yAE,or_false] at hs
 rcases hs with rfl|rfl|rfl
 ·refine ⟨by kernel_rfl,by kernel_rfl,by kernel_rfl,fun i x hx=>?_,by decide⟩
  match i,hx with
  | 0,hx=>cases hx;exact zeu kr
  | 1,hx=>cases hx;exact zeu kr
  | i+2,hx=>simp at hx
 ·refine ⟨by kernel_rfl,by kernel_rfl,by kernel_rfl,fun i x hx=>?_,by decide⟩
  match i,hx with
  | 0,hx=>cases hx;exact zeu kr
  | 1,hx=>cases hx;exact zeu kr
  | 2,hx=>cases hx;exact zeu kr
  | 3,hx=>cases hx;exact zeu kr
  | i+4,hx=>simp at hx
 ·refine ⟨by kernel_rfl,by kernel_rfl,by kernel_rfl,fun i x hx=>?_,by decide⟩
  match i,hx with
  | 0,hx=>cases hx;exact zeu kr
  | 1,hx=>cases hx;exact zeu kr
  | 2,hx=>cases hx;exact zeu kr
  | i+3,hx=>simp at hx
theorem ziz {s:Sch} (hs:s∈zan):idxF (fun c=>c.key) s.cols 0=keyC s:=by
 simp only [zan,yO,yAE,or_false] at hs
 rcases hs with rfl|rfl|rfl <;> kernel_rfl
theorem StoreV.tabV {n:Int} {m:List Tb} (h:StoreV n m) (hn:n<=100) {t:Tb} (ht:t∈m):TabV t:=by
 have hs:t.sch∈zan:=by rw [← h.schs];exact List.mem_map_of_mem ht
 have h1:=h.len t ht
 have h2:=h.next t ht
 exact ⟨zgv hs,by simp;omega,h.rows t ht,by simp;omega,ziz hs⟩
def vNul:V:=⟨0,0,⟨#[]⟩⟩
abbrev sLog:Str:=⟨#[108,111,103]⟩
abbrev vCnt (n:Nat):V:=⟨1,(n:Int),⟨#[]⟩⟩
theorem zsY {t:Tb} {m:List Tb} (hs:t.sch=zaS):zhE (t::m) sLog=some t/\idxF (fun x=>zaT x sLog) (t::m) 0=0:=by
 have h:zaT t sLog=true:=by unfold zaT;rw [hs];kernel_rfl
 constructor
 ·unfold zhE;rw [List.find?_cons,h]
 ·unfold idxF;rw [h];rfl
theorem zyt (l:List Rw):zaX (idxF (fun c=>c.key) zaS.cols 0) l=[]:=by
 have e:idxF (fun c=>c.key) zaS.cols 0=-1:=by kernel_rfl
 rw [e]
 unfold zaX
 induction l with
 | nil=>rfl
 | cons x r ih=>rw [List.filterMap_cons,show zcX (-1) x=none from rfl];exact ih
structure LogIn (t:Tb) (r:List Tb):Prop where
 sch:t.sch=zaS
 tab:∀ x∈t::r,TabV x
 to:TbOk (t::r)
 tg:TbG (t::r)
 ml:(t::r).length<=1000
def tbK:Tb:=⟨zaS,1,[]⟩
theorem zff:zaS∈zan:=by simp [zan,zaS]
theorem tbK_v:TabV tbK:=⟨zgv zff,by decide,RowsV.nil Zd,by decide,ziz zff⟩
theorem zm5 {v:V} (hg:v.Good) (hk:v.kind=0\/v.kind=1):zbJ zaS.cols [v,vNul]:=by
 refine ⟨rfl,fun k c w h1 h2=>?_⟩
 match k,h1,h2 with
 | 0,h1,h2=>cases h1;cases h2;exact ⟨hg,hk,fun h=>by cases h⟩
 | 1,h1,h2=>cases h1;cases h2;exact ⟨zbK,.inl rfl,fun h=>by cases h⟩
 | k+2,h1,h2=>simp at h2
structure SeesIn (m:List Tb):Prop where
 ex:∃ t r,m=t::r/\LogIn t r/\t.rows.length<=5/\t.next<=3000
def hdT (m:List Tb):Tb:=m.headD zyO
abbrev newR (m:List Tb) (rows:List (List X)):List (List V):=List.replicate rows.length [vCnt (hdT m).rows.length,vNul]
structure SeesRows (rows:List (List X)):Prop where
 rep:rows=List.replicate rows.length [xLit vNul,xLit vNul]
 lo:1<=rows.length
 hi:rows.length<=5
structure SeesOut (m:List Tb) (rows:List (List X)) (m2:List Tb):Prop where
 len:m2.length=m.length
 at_:m2[0]?=some (insT (hdT m) (newR m rows))
theorem SeesIn.short {m:List Tb} (h:SeesIn m):zac m:=by
 obtain ⟨t,r,rfl,h1,_⟩:=h.ex;exact h1.to.len
theorem SeesIn.rl {m:List Tb} (h:SeesIn m):(hdT m).rows.length<=5:=by
 obtain ⟨t,r,rfl,_,h2,_⟩:=h.ex;exact h2
theorem zx9 (m:List Tb) (h:0 < m.length):ElAt (m.map Tb.cells) (0:Int) (hdT m).cells 4:=by
 cases m with
 | nil=>simp at h
 | cons t r=>exact ⟨by simp,rfl,rfl⟩
theorem SeesIn.pos {m:List Tb} (h:SeesIn m):0 < m.length:=by
 obtain ⟨t,r,rfl,_⟩:=h.ex;simp
theorem SeesOut.hd {m m2:List Tb} {rows:List (List X)} (h:SeesOut m rows m2):hdT m2=insT (hdT m) (newR m rows):=by
 have h1:=h.at_
 cases m2 with
 | nil=>simp at h1
 | cons a r=>simp only [yAB,yA] at h1;exact h1
theorem SeesOut.pos {m m2:List Tb} {rows:List (List X)} (h:SeesOut m rows m2):0 < m2.length:=by
 have h1:=h.at_
 cases m2 with
 | nil=>simp at h1
 | cons a r=>simp
abbrev sUu:Str:=⟨#[117]⟩
abbrev sId2:Str:=⟨#[105,100]⟩
abbrev zdr:Str:=⟨#[78,69,87]⟩
abbrev zaW:Sch:=zal sUu
def zcg:List (List X):=[[xCol zdr sId2,xLit vNul]]
abbrev zyQ (wh:List X):Tg:=⟨⟨#[97]⟩,sUu,false,1,[],true,[],[],[],wh,[zaD sLog zcg]⟩
abbrev zeG (row:List V):List Fr:=[Fr.mk zdr true zaW.cols row]
theorem zuc (wh:List X) (old row:List V):znP (zyQ wh) zaW old row=zeG row:=by show _=_;kernel_rfl
theorem zjE:zaW∈zan:=by
 have h:zaW=zan.getD 2 ⟨⟨#[]⟩,[]⟩:=by kernel_rfl
 rw [h];simp [zan]
theorem zvy {row:List V} (h:zbJ zaW.cols row):∃ a b c:V,row=[a,b,c]/\a.kind=1/\a.Good/\b.Good/\c.Good:=by
 have hl:row.length=3:=h.len.trans kr
 match row,hl with
 | [a,b,c],_ =>
  have h0:=h.at_ 0 ⟨⟨#[105,100]⟩,1,true,true⟩ a kr rfl
  have h1:=h.at_ 1 ⟨⟨#[110]⟩,1,true,false⟩ b kr rfl
  have h2:=h.at_ 2 ⟨⟨#[109]⟩,1,false,false⟩ c kr rfl
  exact ⟨a,b,c,rfl,h0.nn rfl,h0.good,h1.good,h2.good⟩
def noteT (m:List Tb) (row:List V):List Tb:=m.set 0 (insT (hdT m) [[row.headD vNul,vNul]])
theorem zyf:Few zaW.cols:=by
 have e:zaW.cols.length=3:=by kernel_rfl
 simp only [Few];omega
structure RowU (row:List V):Prop where
 ok:zbJ zaW.cols row
theorem zdb {p:Prop} (h:p:=by first|assumption|omega|(simp;done)|(simp;omega)):p:=h
theorem zlO {p:Prop} (h:p:=by (simp only [znP,cond_true,cond_false, *] <;> rfl)):p:=h
theorem zsq {p:Prop} (h:p:=by first|assumption|exact zdt ‹_›):p:=h
structure Dl where
 table:Str
 ins:List Rw
 del:List Rw
 upd:List Pr
def Dl.cells (d:Dl):List AV:=[sv d.table,.sl (d.ins.map Rw.cells),.sl (d.del.map Rw.cells),.sl (d.upd.map Pr.cells)]
abbrev Dl.av (d:Dl):AV:=.agg d.cells
structure Itm where
 name:Str
 row:Int
 old:List V
 nw:List V
def Itm.cells (i:Itm):List AV:=[sv i.name,iv i.row,vsl i.old,vsl i.nw]
abbrev Itm.av (i:Itm):AV:=.agg i.cells
abbrev tgN (t:Tg) (n:Str):Bool:=t.name.toList==n.toList
abbrev dlC (t:Dl) (n:Str):Bool:=t.table.toList==n.toList
theorem c_fiC1 (t:Tg) (n:Itm) :∃ (r:Bool),r=tgN t n.name/\zab E0 S.Ci [t.av,.p 0 0] [.box n.cells] (bv r) [.box n.cells]:=by
 exact ⟨ByteArray.toList t.name==ByteArray.toList n.name,Zr,wk At.Ci [] kr⟩
theorem zqt (t:Tg) (n:Itm):zab E0 S.Ci [t.av,.p 0 0] [.box n.cells] (bv (tgN t n.name)) [.box n.cells]:=by
 obtain ⟨r,rfl,h⟩:=c_fiC1 t n
 exact h
noncomputable def zv0 (l:List Tg) (n:Itm) (i:Nat) :Cfg:=zai B.AA 0 [(0,.sl (l.map Tg.cells)),(1,.fn S.Ci [.p 0 0]),(7,iv ((l.map Tg.cells).length:Nat)),(8,iv (i:Nat))] [.box n.cells]
theorem zeq (l:List Tg) (n:Itm) (hl:zac l) (i:Nat)  (hi:i<=(l).length) (hI:idxF (fun t=>tgN t n.name) l 0=idxF (fun t=>tgN t n.name) (l.drop i) i):((idxF (fun t=>tgN t n.name) l 0=idxF (fun t=>tgN t n.name) (l.drop (l).length) (l).length)/\(decide ((((l).length:Nat):Int) < (((l.map Tg.cells).length:Nat):Int))=false)/\∀ R,Good E0 B.AA [.box n.cells] (zv0 l n (l).length ) R->Good E0 B.AA [.box n.cells] (zv0 l n i ) R)\/(∃ (r:Int),r=idxF (fun t=>tgN t n.name) l 0/\Good E0 B.AA [.box n.cells] (zv0 l n i ) (Shut 1 fun rZ hZ=>rZ=(iv r)/\hZ=[.box n.cells])):=by
 have hk:=hi;revert i;refine zlp ((l).length) (fun i hlt ih hi hI _=>?_)
 obtain ⟨x,hx,h0,hw⟩:=zlq (l:=l) ((l.map Tg.cells).length) hlt
 let p_1:List St:=[sb h0,se (zaf Tg.cells hx rfl),sl [0] (zqt x n)]
 cases h1:tgN x n.name
 ·exact zie2 (ih Zo (by exact zfb hI hx ‹_›) Zo) fun R gY=>zaa (wkl (p_1++[sb h1,si hw]) [0,1,7,8] 1 kr gY)
 ·exact .inr ⟨(i:Int),(by exact zg0 hI hx ‹_›),zaa (wkr (p_1++[sb h1]) kr)⟩
theorem c_ixG (l:List Tg) (n:Itm) (hl:zac l):∃ (r:Int),r=idxF (fun t=>tgN t n.name) l 0/\zab E0 S.AA [.sl (l.map Tg.cells),.fn S.Ci [.p 0 0]] [.box n.cells] (iv r) [.box n.cells]:=by
 rcases zeq l n Za 0 Za Za with ⟨q1,q1_1,g1⟩|⟨r1_0,p1_0,g1⟩
 ·exact ⟨-1,zsq,wkc At.AA [] [0,1,7,8] 1 kr (g1 _ (zaa (wkr [sb q1_1] kr)))⟩
 ·exact ⟨r1_0,zsq,wkc At.AA [] [0,1,7,8] 1 kr (g1)⟩
theorem zdR (l:List Tg) (n:Itm) (hl:zac l):zab E0 S.AA [.sl (l.map Tg.cells),.fn S.Ci [.p 0 0]] [.box n.cells] (iv (idxF (fun t=>tgN t n.name) l 0)) [.box n.cells]:=by
 obtain ⟨r,rfl,h⟩:=c_ixG l n hl
 exact h
theorem c_efC1 (t:Dl) (n:Str) :∃ (r:Bool),r=dlC t n/\zab E0 S.BT [t.av,.p 0 0] [.box [sv n]] (bv r) [.box [sv n]]:=by
 exact ⟨ByteArray.toList t.table==ByteArray.toList n,Zr,wk At.BT [] kr⟩
theorem zo8 (t:Dl) (n:Str):zab E0 S.BT [t.av,.p 0 0] [.box [sv n]] (bv (dlC t n)) [.box [sv n]]:=by
 obtain ⟨r,rfl,h⟩:=c_efC1 t n
 exact h
noncomputable def zvY (l:List Dl) (n:Str) (i:Nat) :Cfg:=zai B.AB 0 [(0,.sl (l.map Dl.cells)),(1,.fn S.BT [.p 0 0]),(7,iv ((l.map Dl.cells).length:Nat)),(8,iv (i:Nat))] [.box [sv n]]
theorem zeD (l:List Dl) (n:Str) (hl:zac l) (i:Nat)  (hi:i<=(l).length) (hI:idxF (fun t=>dlC t n) l 0=idxF (fun t=>dlC t n) (l.drop i) i):((idxF (fun t=>dlC t n) l 0=idxF (fun t=>dlC t n) (l.drop (l).length) (l).length)/\(decide ((((l).length:Nat):Int) < (((l.map Dl.cells).length:Nat):Int))=false)/\∀ R,Good E0 B.AB [.box [sv n]] (zvY l n (l).length ) R->Good E0 B.AB [.box [sv n]] (zvY l n i ) R)\/(∃ (r:Int),r=idxF (fun t=>dlC t n) l 0/\Good E0 B.AB [.box [sv n]] (zvY l n i ) (Shut 1 fun rZ hZ=>rZ=(iv r)/\hZ=[.box [sv n]])):=by
 have hk:=hi;revert i;refine zlp ((l).length) (fun i hlt ih hi hI _=>?_)
 obtain ⟨x,hx,h0,hw⟩:=zlq (l:=l) ((l.map Dl.cells).length) hlt
 let p_1:List St:=[sb h0,se (zaf Dl.cells hx rfl),sl [0] (zo8 x n)]
 cases h1:dlC x n
 ·exact zie2 (ih Zo (by exact zfb hI hx ‹_›) Zo) fun R gY=>zaa (wkl (p_1++[sb h1,si hw]) [0,1,7,8] 1 kr gY)
 ·exact .inr ⟨(i:Int),(by exact zg0 hI hx ‹_›),zaa (wkr (p_1++[sb h1]) kr)⟩
theorem c_ixD (l:List Dl) (n:Str) (hl:zac l):∃ (r:Int),r=idxF (fun t=>dlC t n) l 0/\zab E0 S.AB [.sl (l.map Dl.cells),.fn S.BT [.p 0 0]] [.box [sv n]] (iv r) [.box [sv n]]:=by
 rcases zeD l n Za 0 Za Za with ⟨q1,q1_1,g1⟩|⟨r1_0,p1_0,g1⟩
 ·exact ⟨-1,zsq,wkc At.AB [] [0,1,7,8] 1 kr (g1 _ (zaa (wkr [sb q1_1] kr)))⟩
 ·exact ⟨r1_0,zsq,wkc At.AB [] [0,1,7,8] 1 kr (g1)⟩
theorem zbL (l:List Dl) (n:Str) (hl:zac l):zab E0 S.AB [.sl (l.map Dl.cells),.fn S.BT [.p 0 0]] [.box [sv n]] (iv (idxF (fun t=>dlC t n) l 0)) [.box [sv n]]:=by
 obtain ⟨r,rfl,h⟩:=c_ixD l n hl
 exact h
theorem zqh (l:List Dl) (n:Str) (k:Nat) (d:Dl) (hx:l[k]?=some d) (hkl:k < l.length) (hk:zab E0 S.AB [.sl (l.map Dl.cells),.fn S.BT [.p 0 0]] [.box [sv n]] (iv (k:Nat)) [.box [sv n]]) (hn:decide (((k:Nat):Int) < 0)=false):∃ (r:Dl) (b:Bool),(r=d/\b=true)/\zab E0 S.A5 [.sl (l.map Dl.cells),sv n] [] (.tup [r.av,bv b]) []:=by
 exact ⟨d,true,Zj,wk At.A5 [sl [0] hk,sb Zf,se (zaf Dl.cells hx rfl)] kr⟩
theorem zoW (t:Tg) (s:Sch) (a b:List V) (hs:zac s.cols) (ha:zac a) (hb:zac b):∃ (r:List Fr),r=znP t s a b/\zab E0 S.Bn [t.av,s.av,vsl a,vsl b] [] (fsl r) []:=by
 cases h1:!t.each
 ·cases h2:t.event==2
  ·cases h3:t.event==3
   ·cases h4:t.event==1
    ·exact ⟨[],zlO,wk At.Bn [sb h1,sg h2,sb h3,sg h4,sb h2] kr⟩
    ·exact ⟨[Fr.mk ZsN true s.cols b],zlO,(by (try simp only [zsl,xCol,xLit,xBin,xNeg,Ac.cells,Se.cells,Pr.cells,Ch.cells,Rw.cells,Dl.cells,Itm.cells]);exact wk At.Bn [sqx (1=1),sb h1,sg h2,sb h3,sb h4,sc (za1 s.cols zdb),sc (zaC b zdb),sqx (True/\True/\s.cols.length=(List.map Col.cells s.cols).length/\b.length=(List.map V.cells b).length/\True),sqx (AllLen [[sv ZsN,bv true,ZC s.cols,vsl b]] 4/\Nat.le 72 140737488355328)] kr)⟩
   ·cases h5:t.event==1
    ·exact ⟨[Fr.mk ZsO true s.cols a],zlO,(by (try simp only [zsl,xCol,xLit,xBin,xNeg,Ac.cells,Se.cells,Pr.cells,Ch.cells,Rw.cells,Dl.cells,Itm.cells]);exact wk At.Bn [sqx (1=1),sb h1,sg h2,sb h3,sc (za1 s.cols zdb),sc (zaC a zdb),sqx (True/\True/\s.cols.length=(List.map Col.cells s.cols).length/\a.length=(List.map V.cells a).length/\True),sqx (AllLen [[sv ZsO,bv true,ZC s.cols,vsl a]] 4/\Nat.le 72 140737488355328),sg h5,sb h2] kr)⟩
    ·exact ⟨[Fr.mk ZsO true s.cols a,Fr.mk ZsN true s.cols b],zlO,(by (try simp only [zsl,xCol,xLit,xBin,xNeg,Ac.cells,Se.cells,Pr.cells,Ch.cells,Rw.cells,Dl.cells,Itm.cells]);exact wk At.Bn [sqx (2=2),sb h1,sg h2,sb h3,sc (za1 s.cols zdb),sc (zaC a zdb),sqx (True/\True/\s.cols.length=(List.map Col.cells s.cols).length/\a.length=(List.map V.cells a).length/\True),sqx (AllLen [[sv ZsO,bv true,ZC s.cols,vsl a]] 4/\Nat.le 72 140737488355328),sb h5,sc (za1 s.cols zdb),sc (zaC b zdb),sqx (True/\True/\s.cols.length=(List.map Col.cells s.cols).length/\b.length=(List.map V.cells b).length/\True),sqx (AllLen [[sv ZsN,bv true,ZC s.cols,vsl b]] 4/\1=1/\Nat.le 144 140737488355328)] kr)⟩
  ·let p_1:List St:=[sqx (2=2),sb h1,sb h2,sc (za1 s.cols zdb),sc (zaC a zdb),sqx (True/\True/\s.cols.length=(List.map Col.cells s.cols).length/\a.length=(List.map V.cells a).length/\True),sqx (AllLen [[sv ZsO,bv true,ZC s.cols,vsl a]] 4/\Nat.le 72 140737488355328)]
   cases h6:t.event==1
   ·exact ⟨[Fr.mk ZsO true s.cols a,Fr.mk ZsN true s.cols b],zlO,(by (try simp only [zsl,xCol,xLit,xBin,xNeg,Ac.cells,Se.cells,Pr.cells,Ch.cells,Rw.cells,Dl.cells,Itm.cells]);exact wk At.Bn (p_1++[sg h6,sb h2,sc (za1 s.cols zdb),sc (zaC b zdb),sqx (True/\True/\s.cols.length=(List.map Col.cells s.cols).length/\b.length=(List.map V.cells b).length/\True),sqx (AllLen [[sv ZsN,bv true,ZC s.cols,vsl b]] 4/\1=1/\Nat.le 144 140737488355328)]) kr)⟩
   ·exact ⟨[Fr.mk ZsO true s.cols a,Fr.mk ZsN true s.cols b],zlO,(by (try simp only [zsl,xCol,xLit,xBin,xNeg,Ac.cells,Se.cells,Pr.cells,Ch.cells,Rw.cells,Dl.cells,Itm.cells]);exact wk At.Bn (p_1++[sb h6,sc (za1 s.cols zdb),sc (zaC b zdb),sqx (True/\True/\s.cols.length=(List.map Col.cells s.cols).length/\b.length=(List.map V.cells b).length/\True),sqx (AllLen [[sv ZsN,bv true,ZC s.cols,vsl b]] 4/\1=1/\Nat.le 144 140737488355328)]) kr)⟩
 ·exact ⟨[],zlO,wk At.Bn [sb h1] kr⟩
theorem zup (l:List Rw) (hl:zac l) (hf:∀ x∈l,zab E0 S.BL [.agg x.cells] [] (.agg x.cells) []):∃ (r:List Rw),r=l/\zab E0 S.DF [.sl (l.map Rw.cells)] [] (.sl (r.map Rw.cells)) []:=by
 exact ⟨l,Zr,wk At.DF [sc (zgk l zdb zdb)] kr⟩
theorem zjK (l:List Rw) (hl:zac l) (hf:∀ x∈l,zab E0 S.BL [.agg x.cells] [] (.agg x.cells) []):zab E0 S.DF [.sl (l.map Rw.cells)] [] (.sl (l.map Rw.cells)) []:=by
 obtain ⟨r,rfl,h⟩:=zup l hl hf
 exact h
theorem zgW (t:Tg) (s:Sch) (d:Dl) (he:(t.event==1)=true) (hl:zac d.ins) (hf:∀ x∈d.ins,zab E0 S.BL [.agg x.cells] [] (.agg x.cells) []):∃ (r:Dl),r=⟨d.table,d.ins,[],[]⟩/\zab E0 S.BV [t.av,s.av,d.av] [] r.av []:=by
 exact ⟨Dl.mk d.table d.ins [] [],Zr,wk At.BV [sb he,sc (zjK d.ins zdb zdb)] kr⟩
theorem zxY (t:Tg) (s:Sch) (d:Dl) (he:t.each=true):∃ (r:List Tb),r=[]/\zab E0 S.Br [t.av,s.av,d.av] [] (tsl r) []:=by
 cases h1:t.before
 ·exact ⟨[],Zr,wk At.Br [sg h1,sb he] kr⟩
 ·exact ⟨[],Zr,wk At.Br [sb h1] kr⟩
abbrev zcW (a:Tb) (r:Rw):Bool:=!(get6 r.id a.rows).2
def updS (a:Tb) (r:Rw):Option Pr:=bif (get6 r.id a.rows).2&&(zcM (get6 r.id a.rows).1 r.vals != 0) then some ⟨r.id,(get6 r.id a.rows).1,r.vals⟩ else none
structure BwI (a b:Tb) (i:Nat) (ins:List Rw) (upd:List Pr):Prop where
 ins:ins=(b.rows.take i).filter (zcW a)
 upd:upd=(b.rows.take i).filterMap (updS a)
theorem zud {α:Type} {p:α->Bool} {l:List α} {i:Nat} {x:α} (hx:l[i]?=some x):(l.take (i+1)).filter p=(l.take i).filter p++(bif p x then [x] else []):=by
 rw [yP,hx,List.filter_append]
 cases h:p x <;> simp [h]
theorem zkT {α β:Type} {p:α->Option β} {l:List α} {i:Nat} {x:α} (hx:l[i]?=some x):(l.take (i+1)).filterMap p=(l.take i).filterMap p++(p x).toList:=by
 rw [yP,hx,List.filterMap_append]
 cases h:p x <;> simp [h]
section
variable {a b : Tb} {i : Nat} {ins : List Rw} {upd : List Pr} {x : Rw}
theorem BwI.new (h:BwI a b i ins upd) (hx:b.rows[i]?=some x) (h1:(!(get6 x.id a.rows).2)=true):BwI a b (i+1) (ins++[x]) upd:=by
 have h2:(get6 x.id a.rows).2=false:=by simpa using h1
 refine ⟨?_,?_⟩
 ·rw [zud hx,h.ins,show zcW a x=true from h1];rfl
 ·rw [zkT hx,h.upd];simp [updS,h2]
theorem BwI.up (h:BwI a b i ins upd) (hx:b.rows[i]?=some x) (h1:(!(get6 x.id a.rows).2)=false) (h2:(zcM (get6 x.id a.rows).1 x.vals != 0)=true):BwI a b (i+1) ins (upd++[⟨x.id,(get6 x.id a.rows).1,x.vals⟩]):=by
 have h3:(get6 x.id a.rows).2=true:=by simpa using h1
 refine ⟨?_,?_⟩
 ·rw [zud hx,h.ins,show zcW a x=false from h1];simp
 ·rw [zkT hx,h.upd];simp only [updS,h2,h3,Bool.and_self,cond_true];rfl
theorem BwI.same (h:BwI a b i ins upd) (hx:b.rows[i]?=some x) (h1:(!(get6 x.id a.rows).2)=false) (h2:(zcM (get6 x.id a.rows).1 x.vals != 0)=false):BwI a b (i+1) ins upd:=by
 refine ⟨?_,?_⟩
 ·rw [zud hx,h.ins,show zcW a x=false from h1];simp
 ·rw [zkT hx,h.upd];simp only [updS,h2,Bool.and_false,cond_false];simp
theorem BwI.len (h:BwI a b i ins upd):ins.length<=b.rows.length/\upd.length<=b.rows.length:=by
 rw [h.ins,h.upd]
 have h1:=yAm (zcW a) (b.rows.take i)
 have h2:=yAr (updS a) (b.rows.take i)
 have h3:=List.length_take_le i b.rows
 rw [yV] at *
 omega
theorem bw0:BwI a b 0 [] []:=⟨rfl,rfl⟩
end
def btw (a b:Tb):Dl:=⟨a.sch.name,b.rows.filter (zcW a),a.rows.filter (zcW b),b.rows.filterMap (updS a)⟩
theorem btw_of {a b:Tb} {ins del:List Rw} {upd:List Pr} (h:BwI a b b.rows.length ins upd) (hd:del=(a.rows.take a.rows.length).filter (zcW b)):Dl.mk a.sch.name ins del upd=btw a b:=by
 have h1:=h.ins
 have h2:=h.upd
 rw [yL] at h1 h2 hd
 rw [h1,h2,hd];rfl
structure GrowT (a b:Tb):Prop where
 sch:b.sch=a.sch
 next:a.next<=b.next
 rows:∀ r∈b.rows,(get6 r.id a.rows).2=true\/a.next<=r.id
theorem zuE {c:Ch} {k:Nat} (h:∀ p∈c.upd,p.nw.length=k) (hk:k<=1000000000) (n:Int):zac (fnd7 n c.upd).1:=by
 have:∀ l:List Pr,(∀ p∈l,p.nw.length=k)->zac (fnd7 n l).1:=fun l=>by
  induction l with
  | nil=>intro _;simp [fnd7]
  | cons p r ih =>
   intro h
   unfold fnd7
   cases p.id==n
   ·exact ih fun q hq=>h q (by simp [hq])
   ·have:=h p Zs;simp only [zac,cond_true];omega
 exact this _ h
theorem zvk {n:Int}:∀ {l:List Pr},(fnd7 n l).2=true->∃ p∈l,p.id=n/\(fnd7 n l).1=p.nw
 | p::r,h=>by
  unfold fnd7 at h ⊢
  cases hp:p.id==n
  ·rw [hp] at h
   obtain ⟨q,h1,h2,h3⟩:=zvk (l:=r) h
   exact ⟨q,by simp [h1],h2,h3⟩
  ·exact ⟨p,by simp,by simpa using hp,rfl⟩
theorem zzo {c:Col} {v:V} (hg:v.Good) (h:fit4 c v=0):ValOk c v:=by
 unfold fit4 at h
 cases h0:v.kind==0
 ·rw [h0] at h
  have hk:v.kind=c.type:=by
   cases h1:v.kind != c.type
   ·simpa using h1
   ·rw [h1] at h;simp at h
  exact ⟨hg,.inr hk,fun _=>hk⟩
 ·rw [h0] at h
  cases hn:c.notNull
  ·exact ⟨hg,.inl (by simpa using h0),fun h=>by rw [hn] at h;cases h⟩
  ·rw [hn] at h;simp at h
theorem zs2:∀ {cs:List Col} {vs:List V},(∀ v∈vs,v.Good)->fitL cs vs=0->∀ (k:Nat) (c:Col) (v:V),cs[k]?=some c->vs[k]?=some v->ValOk c v
 | [],_,_,_,_,_,_,h,_=>by simp at h
 | _::_,[],_,_,_,_,_,_,h=>by simp at h
 | c::cs,v::vs,hg,h,k,d,w,hd,hw=>by
  simp only [fitL] at h
  cases h0:fit4 c v != 0
  ·rw [h0] at h
   cases k with
   | zero=>simp only [yAB,yA] at hd hw;subst hd;subst hw;exact zzo (hg _ Zs) (by simpa using h0)
   | succ k=>exact zs2 (fun v hv=>hg v (by simp [hv])) h k d w (by simpa using hd) (by simpa using hw)
  ·rw [h0] at h
   simp only [cond_true] at h
   simp [h] at h0
theorem zsZ {s:Sch} {l:List V} (hg:∀ v∈l,v.Good) (h:fit5 s l=0):zbJ s.cols l:=by
 unfold fit5 at h
 cases h0:l.length != s.cols.length
 ·rw [h0] at h
  exact ⟨by simpa using h0,zs2 hg h⟩
 ·rw [h0] at h;simp at h
theorem zqP {s:Sch}:∀ {l:List Pr},zbl s l=0->∀ p∈l,fit5 s p.nw=0
 | p::r,h,q,hq=>by
  simp only [zbl] at h
  cases h0:fit5 s p.nw != 0
  ·rw [h0] at h
   rcases yO.1 hq with rfl|hq
   ·simpa using h0
   ·exact zqP h q hq
  ·rw [h0] at h;simp only [cond_true] at h;simp [h] at h0
theorem zqO {s:Sch}:∀ {l:List (List V)},zbB s l=0->∀ p∈l,fit5 s p=0
 | p::r,h,q,hq=>by
  simp only [zbB] at h
  cases h0:fit5 s p != 0
  ·rw [h0] at h
   rcases yO.1 hq with rfl|hq
   ·simpa using h0
   ·exact zqO h q hq
  ·rw [h0] at h;simp only [cond_true] at h;simp [h] at h0
theorem zgs:∀ {l:List (List V)} {n:Int} {r:Rw},r∈insN n l->n<=r.id/\r.id < n+l.length/\r.vals∈l
 | v::l,n,r,h=>by
  simp only [insN,yO] at h
  rcases h with rfl|h
  ·exact ⟨Int.le_refl _,by simp only [yAL];omega,by simp⟩
  ·have:=zgs h
   simp only [yAL]
   exact ⟨by omega,by omega,by simp [this.2.2]⟩
theorem zth:∀ {l:List (List V)} {n:Int},(insN n l).Pairwise fun a b=>a.id < b.id
 | [],_=>by simp [insN]
 | v::l,n=>by
  simp only [insN]
  exact yAK.2 ⟨fun r hr=>by have:=(zgs hr).1;show n < r.id;omega,zth⟩
theorem ziB {c:Ch} {l:List Rw} {r:Rw} (h:r∈midR c l):∃ q∈l,anyI c.del q.id=false/\r.id=q.id/\(r.vals=q.vals\/∃ p∈c.upd,p.id=q.id/\r.vals=p.nw):=by
 obtain ⟨q,hq,he⟩:=List.mem_filterMap.1 h
 unfold midS at he
 cases hd:anyI c.del q.id
 ·rw [hd] at he
  simp only [cond_false,yA] at he
  subst he
  refine ⟨q,hq,hd,rfl,?_⟩
  cases hf:(fnd7 q.id c.upd).2
  ·exact .inl rfl
  ·obtain ⟨p,h1,h2,h3⟩:=zvk hf
   exact .inr ⟨p,h1,h2,h3⟩
 ·rw [hd] at he;cases he
theorem zts {c:Ch}:∀ {l:List Rw},(l.Pairwise fun a b=>a.id < b.id)->(midR c l).Pairwise fun a b=>a.id < b.id
 | [],_=>.nil
 | q::l,h=>by
  have ih:=zts (c:=c) (yAK.1 h).2
  unfold midR at ih ⊢
  rw [List.filterMap_cons]
  cases hs:midS c q with
  | none=>exact ih
  | some x =>
   have hx:x.id=q.id:=by
    unfold midS at hs
    cases hd:anyI c.del q.id <;> rw [hd] at hs
    ·simp only [cond_false,yA] at hs;rw [← hs]
    ·cases hs
   refine yAK.2 ⟨fun r hr=>?_,ih⟩
   obtain ⟨z,hz,_,e,_⟩:=ziB (c:=c) (l:=l) hr
   rw [hx,e];exact (yAK.1 h).1 z hz
structure ChG (t:Tb) (c:Ch):Prop where
 v:ChV t c
 u:∀ p∈c.upd,∀ v∈p.nw,v.Good
 i:∀ r∈c.ins,∀ v∈r,v.Good
theorem ztq {kc:Int} {n:Nat} (h0:0<=kc) (hn:kc < n):∀ {l:List Rw},(∀ r∈l,r.vals.length=n)->(zaX kc l).Nodup->l.Pairwise fun a b=>zak a.vals kc≠zak b.vals kc
 | [],_,_=>.nil
 | r::l,hl,h=>by
  have hk:∀ q∈r::l,zcX kc q=some (zak q.vals kc):=fun q hq=>by
   unfold zcX
   rw [decide_eq_true h0,decide_eq_true (by rw [yG,hl q hq];omega)];rfl
  unfold zaX at h
  rw [List.filterMap_cons,hk r Zs] at h
  simp only [List.nodup_cons] at h
  refine yAK.2 ⟨fun q hq he=>h.1 ?_,ztq h0 hn (fun r hr=>hl r (by simp [hr])) h.2⟩
  exact List.mem_filterMap.2 ⟨q,hq,by rw [hk q (by simp [hq]),he]⟩
theorem zAI {t:Tb} (h:TabV t):keyC t.sch < t.sch.cols.length:=by
 rw [← h.key]
 rcases zh3 (fun c=>c.key) t.sch.cols 0 with ⟨h1,_⟩|⟨j,y,h1,h2,_⟩
 ·rw [h1];omega
 ·rw [h1];have:=(yB.1 h2).1;omega
theorem zzR {t:Tb} {c:Ch} (ht:TabV t) (hc:ChG t c) (hu:zbl t.sch c.upd=0) (hi:zbB t.sch c.ins=0):∀ r∈(apT t c).rows,zbJ t.sch.cols r.vals:=fun r hr=>by
 rcases yK.1 hr with hr|hr
 ·obtain ⟨q,hq,_,_,h|⟨p,hp,_,h⟩⟩:=ziB hr
  ·rw [h];exact ht.rows.fit q hq
  ·rw [h];exact zsZ (hc.u p hp) (zqP hu p hp)
 ·have:=(zgs hr).2.2
  exact zsZ (hc.i _ this) (zqO hi _ this)
theorem zAc {t x:Tb} {c:Ch} (ht:TabV t) (hc:ChG t c) (hq:ApQ t c x 0):x=apT t c/\TabV (apT t c):=by
 obtain ⟨h1,h2,h3,h4⟩:=hq.ok rfl
 obtain ⟨l1,l2⟩:=hq.lim rfl
 have hfit:=zzR ht hc h2 h3
 refine ⟨h1,ht.sch,?_,⟨hfit,?_,?_,?_,?_⟩,?_,ht.key⟩
 ·show decide ((100:Int) < (((midR c t.rows++insN t.next c.ins).map Rw.cells).length:Int))=false
  rw [decide_eq_false_iff_not,yG,yAO,zim];omega
 ·show (midR c t.rows++insN t.next c.ins).Pairwise fun a b=>a.id < b.id
  refine yAq.2 ⟨zts ht.rows.asc,zth,fun a ha b hb=>?_⟩
  obtain ⟨q,hq,_,e,_⟩:=ziB ha
  have:=(ht.rows.ids q hq).2
  have:=(zgs hb).1
  omega
 ·intro r hr
  show 1<=r.id/\r.id < t.next+(c.ins.length:Int)
  rcases yK.1 hr with hr|hr
  ·obtain ⟨q,hq,_,e,_⟩:=ziB hr
   have:=ht.rows.ids q hq
   omega
  ·have:=zgs hr
   have:=ht.rows.pos
   omega
 ·intro h0
  have hk:keyC t.sch=idxF (fun z=>z.key) t.sch.cols 0:=ht.key.symm
  have h0:0<=keyC t.sch:=h0
  show (midR c t.rows++insN t.next c.ins).Pairwise fun a b=>zak a.vals (keyC t.sch)≠zak b.vals (keyC t.sch)
  refine ztq h0 (zAI ht) (fun r hr=>(hfit r hr).len) ?_
  show (zaX (keyC t.sch) (midR c t.rows++insN t.next c.ins)).Nodup
  rw [hk];exact h4
 ·show 1<=t.next+(c.ins.length:Int)
  have:=ht.rows.pos;omega
 ·show decide ((2147483648:Int) < t.next+(c.ins.length:Int))=false
  rw [decide_eq_false_iff_not];omega
theorem znp (t:Tb) (c:Ch) (ht:TabV t) (h:ChG t c):∃ (x:Tb) (g:Int),ApQ t c x g/\zab E0 S.Az [t.av,c.av] [] (.tup [x.av,iv g]) []:=by
 have hc:=h.v
 have hl:=ht.len
 simp only [yG,decide_eq_false_iff_not] at hl
 have hm:(midR c t.rows).length<=t.rows.length:=yAr _ _
 have h1:=hc.lu;have h2:=hc.li;have h3:=hc.ld
 have h4:=ht.rows.pos
 have h5:=ht.max
 have h6:=ht.sch.short
 simp only [decide_eq_false_iff_not] at h5
 exact zsH t c (by simp only [zac];omega) (by simp only [zac];omega) h2 (by simp only [zac];omega) h6 h.u h.i (fun r hr=>by have:=hc.ins r hr;simp only [zac] at *;omega) ht.shr Zo Zo ht.vals (zuE (fun p hp=>(hc.updIn p hp).2.2) h6) ⟨h4,by omega⟩ (zpg t c ht hc)
structure StV (l:List Tb):Prop where
 schs:l.map Tb.sch=zan
 tabs:∀ t∈l,TabV t
theorem StV.len {l:List Tb} (h:StV l):l.length=3:=by
 have:=congrArg List.length h.schs
 rwa [yG] at this
theorem StV.shr {l:List Tb} (h:StV l):zac l:=by have:=h.len;simp only [zac];omega
noncomputable def L_cp9 (l:List Tb) (i:Nat) (out:List Tb):Cfg:=zai B.CZ 0 [(3,.own 0 out.length),(6,tsl l),(7,iv ((l.map Tb.cells).length:Nat)),(8,iv (i:Nat))] [.row Ty.Table (out.map Tb.cells) false]
theorem Zcv6 {p:Prop} (h:p:=by first|rfl|(simp;done)|(simp [X.cells,Qy.cells,V.cells,Col.cells,Rw.cells,Tb.cells,Fr.cells,Sch.cells,Tp.cells,Pl.cells,Pr.cells,Rw.cells,Dl.cells,Col.cells,Sch.cells,Tb.cells];done)):p:=h
theorem zlb (l:List Tb) (hl:l.length<=1000) (ht:∀ t∈l,TabV t) (i:Nat) (out:List Tb) (hi:i<=(l).length) (hI:out=l.take i):∃ (out':List Tb),(out'=l.take (l).length)/\(decide ((((l).length:Nat):Int) < (((l.map Tb.cells).length:Nat):Int))=false)/\∀ R,Good E0 B.CZ [] (L_cp9 l (l).length out') R->Good E0 B.CZ [] (L_cp9 l i out) R:=by
 have hk:=hi;revert i out;refine zlp ((l).length) (fun i hlt ih out hi hI _=>?_)
 obtain ⟨x,hx,h0,hw⟩:=zlq (l:=l) ((l.map Tb.cells).length) hlt
 have hxv:=ht x (yC hx);have hs1:=hxv.shr;have hs2:=hxv.sch.short;have hs3:=hxv.vals;have ho:out.length<=1000:=(by rw [hI,yV];omega)
 exact Zih (ih (out++[x]) Zo (by (rw [yP,hx,hI];rfl)) Zo) fun R gY=>zaa (wkl [sb h0,se (zaf Tb.cells hx rfl),sc (zn6 x (by first|assumption|omega|(simp;done)|(simp;omega)) (by first|assumption|omega|(simp;done)|(simp;omega)) (by first|assumption|omega|(simp;done)|(simp;omega))),sqA (List.map Tb.cells out) [[sv x.sch.name,ZC x.sch.cols,iv x.next,ZW x.rows]] out.length 4 72,si hw] [3,6,7,8] 1 kr (zaK 3 0 (List.map Tb.cells out++[[sv x.sch.name,ZC x.sch.cols,iv x.next,ZW x.rows]]) gY (he:=Zcv6) (hm:=Zcv6)))
def emD (d:Dl):Bool:=IntKind.i64.wrap (IntKind.i64.wrap ((((d.ins.map Rw.cells).length:Nat):Int)+(((d.del.map Rw.cells).length:Nat):Int))+(((d.upd.map Pr.cells).length:Nat):Int))==0
structure GrowS (a b:List Tb):Prop where
 len:b.length=a.length
 tabs:∀ (i:Nat) (x y:Tb),a[i]?=some x->b[i]?=some y->GrowT x y
def dlS (p:Tb × Tb):Option Dl:=bif !emD (btw p.1 p.2) then some (btw p.1 p.2) else none
def dls (a b:List Tb):List Dl:=(a.zip b).filterMap dlS
theorem zx5 {a b:List Tb} {i:Nat} {x y:Tb} (hx:a[i]?=some x) (hy:b[i]?=some y):(a.zip b)[i]?=some (x,y):=by
 rw [List.getElem?_zip_eq_some];exact ⟨hx,hy⟩
theorem zx6 {a b:List Tb} {i:Nat} {x y:Tb} {out:List Dl} (hI:out=((a.zip b).take i).filterMap dlS) (hx:a[i]?=some x) (hy:b[i]?=some y) (h:(!emD (btw x y))=true):out++[btw x y]=((a.zip b).take (i+1)).filterMap dlS:=by
 rw [zkT (zx5 hx hy),← hI];simp only [dlS,h,cond_true];rfl
theorem zx7 {a b:List Tb} {i:Nat} {x y:Tb} {out:List Dl} (hI:out=((a.zip b).take i).filterMap dlS) (hx:a[i]?=some x) (hy:b[i]?=some y) (h:(!emD (btw x y))=false):out=((a.zip b).take (i+1)).filterMap dlS:=by
 rw [zkT (zx5 hx hy),← hI];simp only [dlS,h,cond_false];simp
theorem zAx {a b:List Tb} {out:List Dl} (hg:GrowS a b) (hI:out=((a.zip b).take a.length).filterMap dlS):out=dls a b:=by
 have h1:(a.zip b).length=a.length:=by rw [List.length_zip,hg.len];omega
 rw [hI,← h1,yL];rfl
theorem zeP {p:Prop} (h:p:=by first|exact hI.skip hx|exact hI.delR hv hx|(refine hI.updP hv hx ?_;repeat' first|exact hwx|exact wRow (And.left ‹zbJ tt.sch.cols _/\_›)|assumption|exact wAt hwx _|refine WOk.set ?_ ?_)):p:=h
theorem zbA {p:Prop} (h:p:=by first|assumption|omega|(simp;done)|(simp;omega)):p:=h
theorem zdV {p:Prop} (h:p:=by first|assumption|exact co_0 _|exact in_0 Zo|omega|(simp;done)):p:=h
theorem zp0 {p:Prop} (h:p:=by first|assumption|exact PrefOk.nil _|omega):p:=h
theorem zih {l:List Rw} (h:l.Pairwise fun a b=>a.id < b.id) {r:Rw} (hr:r∈l):get6 r.id l=(r.vals,true):=by
 induction l with
 | nil=>cases hr
 | cons q l ih =>
  unfold get6
  rcases yO.1 hr with rfl|hr
  ·simp
  ·have:=(yAK.1 h).1 r hr
   have e:(q.id==r.id)=false:=by rw [beq_eq_false_iff_ne];omega
   rw [e];exact ih (yAK.1 h).2 hr
abbrev GoodL (l:List V):Prop:=∀ v∈l,v.Good
theorem TabV.l100 {t:Tb} (h:TabV t):t.rows.length<=100:=by have:=h.len;simp only [yG,decide_eq_false_iff_not] at this;omega
theorem c_RowO (t:Tp) (s:Sch) (hl:zac s.cols) (hc:∀ c∈s.cols,zdo c):∃ (n:Nat) (xs:List (List AV)) (u:Tp),(∃ r,zbJ s.cols r/\n=r.length/\xs=r.map V.cells)/\zab E0 S.BH [.p 0 0,s.av] [.box t.cells] (.own 1 n) [.box u.cells,.row Ty.Value xs false]:=by
 obtain ⟨t1,out1,q1,q1_1,g1⟩:=zd5 t s zp0 zp0 0 t ([]) zp0 zp0
 exact ⟨out1.length,List.map V.cells out1,t1,(by exact ⟨_,‹PrefOk _ _ _›,rfl,rfl⟩),znQ At.BH [] [0,5,10,11,12] 1 [(.ot 5 Ty.Value,2)] kr (g1 _ (zaa (wkrK [sb q1_1] kr)))⟩
theorem zfk (t:Tp) (s:Sch) (hl:zac s.cols) (hc:∀ c∈s.cols,zdo c):∃ (r:List V) (u:Tp),(zbJ s.cols r/\r.length=s.cols.length)/\zab E0 S.BH [.p 0 0,s.av] [.box t.cells] (.own 1 r.length) [.box u.cells,.row Ty.Value (r.map V.cells) false]:=by
 obtain ⟨_,_,u,⟨r,h,rfl,rfl⟩,hc⟩:=c_RowO t s hl hc
 exact ⟨r,u,⟨h,h.len⟩,hc⟩
structure CoI (t:Tb) (i:Nat) (del:List Int) (upd:List Pr):Prop where
 dasc:del.Pairwise fun a b=>a < b
 uasc:upd.Pairwise fun a b=>a.id < b.id
 din:∀ d∈del,∃ r∈t.rows.take i,r.id=d
 uin:∀ p∈upd,(∃ r∈t.rows.take i,r.id=p.id/\p.old=r.vals)/\p.id ∉ del/\p.nw.length=t.sch.cols.length/\GoodL p.nw
 ld:del.length<=i
 lu:upd.length<=i
theorem zAz (r:List V) (v:V) (n:Nat) (a:Int) (h:a.toNat < r.length) (hn:n=r.length):OwnEl ((List.map V.cells r).set 0 [iv v.kind,iv v.int,sv v.text]) n a.toNat (V.cells ((r.set 0 v).getD a.toNat V.null)):=by
 refine ⟨by simp [hn],?_⟩
 have e:(List.map V.cells r).set 0 [iv v.kind,iv v.int,sv v.text]=(r.set 0 v).map V.cells:=by rw [List.map_set];rfl
 rw [e,yS,yE (by rw [List.length_set];exact h),yAF,yE (by rw [List.length_set];exact h)]
 rfl
structure WOk (n:Nat) (w:List V):Prop where
 len:w.length=n
 good:GoodL w
theorem WOk.set {n:Nat} {w:List V} (h:WOk n w) {k:Nat} {v:V} (hv:v.Good):WOk n (w.set k v):=⟨by rw [List.length_set];exact h.len,fun y hy=>(List.mem_or_eq_of_mem_set hy).elim (h.good y) fun e=>e ▸ hv⟩
theorem wRow {s:Sch} {r:List V} (h:zbJ s.cols r):WOk s.cols.length r:=⟨h.len,fun v hv=>by
 obtain ⟨k,hk⟩:=yQ hv
 have hkl:=zb1 hk
 have hlen:=h.len
 obtain ⟨c,hc⟩:=zbc (l:=s.cols) (i:=k) Zo
 exact (h.at_ k c v hc hk).good⟩
theorem wAt {n:Nat} {w:List V} (h:WOk n w) (k:Int):(zak w k).Good:=by
 unfold zak
 rw [yAF]
 cases hk:w[k.toNat]? with
 | none=>exact zbK
 | some v=>exact h.good v (yC hk)
section
variable {t : Tb} {i : Nat} {del : List Int} {upd : List Pr} {x : Rw}
theorem zq3 (hx:t.rows[i]?=some x) {r:Rw} (h:r∈t.rows.take i):r∈t.rows.take (i+1):=by rw [yP];exact List.mem_append_left _ h
theorem zq4 (hx:t.rows[i]?=some x):x∈t.rows.take (i+1):=by rw [yP,hx];simp
theorem zr9 (hv:TabV t) (hx:t.rows[i]?=some x) {r:Rw} (h:r∈t.rows.take i):r.id < x.id:=by
 obtain ⟨j,hj⟩:=yQ h
 have hjl:=zb1 hj
 rw [yV] at hjl
 rw [yM,if_pos Zo] at hj
 have:=yAW.1 hv.rows.asc j i (zb1 hj) (zb1 hx) Zo
 rw [(yB.1 hj).2,(yB.1 hx).2] at this
 exact this
theorem CoI.skip (h:CoI t i del upd) (hx:t.rows[i]?=some x):CoI t (i+1) del upd :=
 ⟨h.dasc,h.uasc,fun d hd=>(h.din d hd).elim fun r hr=>⟨r,zq3 hx hr.1,hr.2⟩,fun p hp=>⟨(h.uin p hp).1.elim fun r hr=>⟨r,zq3 hx hr.1,hr.2⟩,(h.uin p hp).2⟩,by have:=h.ld;omega,by have:=h.lu;omega⟩
theorem CoI.delR (h:CoI t i del upd) (hv:TabV t) (hx:t.rows[i]?=some x):CoI t (i+1) (del++[x.id]) upd:=by
 have h2:=h.skip hx
 refine ⟨yAq.2 ⟨h.dasc,by simp,fun a ha b hb=>?_⟩,h.uasc,fun d hd=>?_,fun p hp=>⟨(h2.uin p hp).1,fun hm=>?_,(h2.uin p hp).2.2⟩,by have:=h.ld;simp;omega,by have:=h.lu;omega⟩
 ·simp only [yF] at hb;subst hb
  obtain ⟨r,hr,e⟩:=h.din a ha
  rw [← e];exact zr9 hv hx hr
 ·rcases yK.1 hd with hd|hd
  ·exact h2.din d hd
  ·simp only [yF] at hd;subst hd;exact ⟨x,zq4 hx,rfl⟩
 ·rcases yK.1 hm with hm|hm
  ·exact (h.uin p hp).2.1 hm
  ·simp only [yF] at hm
   obtain ⟨r,hr,e,_⟩:=(h.uin p hp).1
   have:=zr9 hv hx hr
   omega
theorem CoI.updP (h:CoI t i del upd) (hv:TabV t) (hx:t.rows[i]?=some x) {w:List V} (hw:WOk t.sch.cols.length w):CoI t (i+1) del (upd++[⟨x.id,x.vals,w⟩]):=by
 have h2:=h.skip hx
 refine ⟨h.dasc,yAq.2 ⟨h.uasc,by simp,fun a ha b hb=>?_⟩,h2.din,fun p hp=>?_,by have:=h.ld;omega,by have:=h.lu;simp;omega⟩
 ·simp only [yF] at hb;subst hb
  obtain ⟨r,hr,e,_⟩:=(h.uin a ha).1
  show a.id < x.id
  rw [← e];exact zr9 hv hx hr
 ·rcases yK.1 hp with hp|hp
  ·exact h2.uin p hp
  ·simp only [yF] at hp;subst hp
   refine ⟨⟨x,zq4 hx,rfl,rfl⟩,fun hm=>?_,hw.len,hw.good⟩
   obtain ⟨r,hr,e⟩:=h.din _ hm
   have h3:=zr9 hv hx hr
   rw [e] at h3;exact absurd h3 (Int.lt_irrefl _)
end
noncomputable def L_co0 (t0:Tp) (tt:Tb) (i:Nat) (u:Tp) (del:List Int) (upd:List Pr):Cfg:=zai B.AX 0 [(0,.p 0 0),(3,.p 1 0),(4,.p 2 0),(5,.p 3 0),(12,.sl (tt.rows.map Rw.cells)),(13,iv ((tt.rows.map Rw.cells).length:Nat)),(14,iv (i:Nat))] [.box u.cells,.box tt.cells,.box [.nl,.nl,.nl],.box [.nl,.own 4 del.length,.own 5 upd.length],.row Ty.int (del.map fun n=>[iv n]) false,.row Ty.Pair (upd.map Pr.cells) false]
theorem Zcv5 {p:Prop} (h:p:=by first|rfl|(simp;done)|(simp [X.cells,Qy.cells,V.cells,Col.cells,Rw.cells,Tb.cells,Fr.cells,Sch.cells,Tp.cells,Pl.cells,Im.cells,Lk.cells,Ac.cells,Se.cells,Tg.cells,Sch.cells,Pr.cells,Rw.cells,Ch.cells,Tb.cells,Dl.cells];done)):p:=h
theorem zfq (t0:Tp) (tt:Tb) (hv:TabV tt) (hsr:zac tt.rows) (hsc:zac tt.sch.cols) (hco:∀ c∈tt.sch.cols,zdo c) (i:Nat) (u:Tp) (del:List Int) (upd:List Pr) (hi:i<=(tt.rows).length) (hI:CoI tt i del upd):∃ (u':Tp) (del':List Int) (upd':List Pr),(CoI tt (tt.rows).length del' upd')/\(decide ((((tt.rows).length:Nat):Int) < (((tt.rows.map Rw.cells).length:Nat):Int))=false)/\∀ R,Good E0 B.AX [.box t0.cells] (L_co0 t0 tt (tt.rows).length u' del' upd') R->Good E0 B.AX [.box t0.cells] (L_co0 t0 tt i u del upd) R:=by
 have hk:=hi;revert i u del upd;refine zlp ((tt.rows).length) (fun i hlt ih u del upd hi hI _=>?_) (z:=fun u del upd _ hI _=>⟨u,del,upd,hI,by simp,fun R hg=>hg⟩)
 obtain ⟨x,hx,h0,hw⟩:=zlq (l:=tt.rows) ((tt.rows.map Rw.cells).length) hlt
 have hlx:x.vals.length=tt.sch.cols.length:=(hv.rows.fit x (yC hx)).len;have hlm2:(List.map V.cells x.vals).length=tt.sch.cols.length:=(by rw [yG];exact hlx);have hwx:=wRow (hv.rows.fit x (yC hx));have h0c:1<=tt.sch.cols.length:=(by have:=hv.sch.lo;simp only [yG,decide_eq_false_iff_not] at this;omega);have hl100:i < 100:=(by have:=zb1 hx;have:=hv.l100;omega);have hdl:del.length<=100:=(by have:=hI.ld;omega);have hul:upd.length<=100:=(by have:=hI.lu;omega);have hc6:tt.sch.cols.length<=6:=(by have:=hv.sch.hi;simp only [yG,decide_eq_false_iff_not] at this;omega)
 obtain ⟨a1,t1,q1,c1⟩:=(zae u 4 zbA)
 let p_1:List St:=[sb h0,se (zaf Rw.cells hx rfl),sl [0] c1]
 cases h2:(a1:Int)==0
 ·cases h3:(a1:Int)==1
  ·obtain ⟨uZ,delZ,updZ,qZ,xZ,gZ⟩:=ih t1 del upd Zo zeP Zo;exact ⟨uZ,delZ,updZ,qZ,xZ,fun R hg=>zaa (wkl (p_1++[sb h2,sb h3,si hw]) [0,3,4,5,12,13,14] 6 kr (gZ R hg))⟩
  ·obtain ⟨r4,u4,q4,c4⟩:=(zfk t1 tt.sch zbA zbA)
   obtain ⟨b5,t5,c5⟩:=(zah u4 2 zbA)
   rcases (yD b5).symm with h6|h6
   ·obtain ⟨b7,t7,c7⟩:=(zah t5 8 zbA)
    let p_2:List St:=p_1++[sb h2,sb h3,sl [0] c4,sl [0] c5,sb h6,sl [0] c7]
    rcases (yD b7).symm with h8|h8
    ·obtain ⟨b9,t9,c9⟩:=(zah t7 12 zbA)
     rcases (yD b9).symm with h10|h10
     ·obtain ⟨uZ,delZ,updZ,qZ,xZ,gZ⟩:=ih t9 del (upd++[Pr.mk x.id x.vals r4]) Zo zeP Zo;exact ⟨uZ,delZ,updZ,qZ,xZ,fun R hg=>zaa (wkl (p_2++[sb h8,sl [0] c9,sb h10,sd [(6,[sqx (AllLen (List.map V.cells x.vals) 3/\((List.map V.cells x.vals).length * 32).le 140737488355328)]),(9,[sqx (True/\(List.map V.cells x.vals).length=(List.map V.cells x.vals).length/\r4.length=(List.map V.cells r4).length/\True)]),(10,[sqA (List.map Pr.cells upd) [[iv x.id,vsl x.vals,vsl r4]] upd.length 3 56])],si hw]) [0,3,4,5,12,13,14] 6 kr (zas rfl (show ([Blk.box [AV.sl (List.map (fun n=>[iv n]) t9.l),iv (t9.pos:Int)],Blk.box [sv tt.sch.name,ZC tt.sch.cols,iv tt.next,ZW tt.rows],Blk.box [AV.nl,AV.nl,AV.nl],Blk.box [AV.nl,AV.own 4 del.length,AV.own 5 (List.map Pr.cells upd++[[iv x.id,vsl x.vals,vsl r4]]).length],Blk.row Ty.int (List.map (fun n=>[iv n]) del) false,Blk.row Ty.Pair (List.map Pr.cells upd++[[iv x.id,vsl x.vals,vsl r4]]) false]:Heap)=_ from Zcv5) (gZ R hg)))⟩
     ·obtain ⟨a11,t11,q11,c11⟩:=(zae t9 ((r4.length:Int)) zbA)
      obtain ⟨v12,t12,q12,c12⟩:=(zcI t11)
      obtain ⟨x13,e13⟩:=zbc (l:=r4) (i:=(a11:Int).toNat) zbA
      obtain ⟨uZ,delZ,updZ,qZ,xZ,gZ⟩:=ih t12 del (upd++[Pr.mk x.id x.vals (r4.set a11 v12)]) Zo zeP Zo;exact ⟨uZ,delZ,updZ,qZ,xZ,fun R hg=>zaa (wkl (p_2++[sb h8,sl [0] c9,sb h10,sqx (r4.length=(List.map V.cells r4).length),sl [0] c11,sl [0] c12,sqx (OwnAt (List.map V.cells r4) r4.length (a11:Int)),sx (.el x13.cells) (And.intro (owed (p:=True/\True/\True/\True)) (zcp V.cells (n:=r4.length) Zs e13)),sd [(6,[sqx (AllLen (List.map V.cells x.vals) 3/\((List.map V.cells x.vals).length * 32).le 140737488355328)]),(9,[sqx (True/\(List.map V.cells x.vals).length=(List.map V.cells x.vals).length/\r4.length=((List.map V.cells r4).set a11 [iv v12.kind,iv v12.int,sv v12.text]).length/\True)]),(10,[sqA (List.map Pr.cells upd) [[iv x.id,vsl x.vals,AV.sl ((List.map V.cells r4).set a11 [iv v12.kind,iv v12.int,sv v12.text])]] upd.length 3 56])],si hw]) [0,3,4,5,12,13,14] 6 kr (zas rfl (show ([Blk.box [AV.sl (List.map (fun n=>[iv n]) t12.l),iv (t12.pos:Int)],Blk.box [sv tt.sch.name,ZC tt.sch.cols,iv tt.next,ZW tt.rows],Blk.box [AV.nl,AV.nl,AV.nl],Blk.box [AV.nl,AV.own 4 del.length,AV.own 5 (List.map Pr.cells upd++[[iv x.id,vsl x.vals,AV.sl ((List.map V.cells r4).set a11 [iv v12.kind,iv v12.int,sv v12.text])]]).length],Blk.row Ty.int (List.map (fun n=>[iv n]) del) false,Blk.row Ty.Pair (List.map Pr.cells upd++[[iv x.id,vsl x.vals,AV.sl ((List.map V.cells r4).set a11 [iv v12.kind,iv v12.int,sv v12.text])]]) false]:Heap)=_ from Zcv5) (gZ R hg)))⟩
    ·obtain ⟨b14,t14,c14⟩:=(zah t7 12 zbA)
     let p_3:List St:=p_2++[sb h8,sqx (AllLen (List.map V.cells x.vals) 3/\((List.map V.cells x.vals).length * 32).le 140737488355328),sl [0] c14]
     rcases (yD b14).symm with h15|h15
     ·obtain ⟨uZ,delZ,updZ,qZ,xZ,gZ⟩:=ih t14 del (upd++[Pr.mk x.id x.vals x.vals]) Zo zeP Zo;exact ⟨uZ,delZ,updZ,qZ,xZ,fun R hg=>zaa (wkl (p_3++[sb h15,sd [(6,[sqx (AllLen (List.map V.cells x.vals) 3/\((List.map V.cells x.vals).length * 32).le 140737488355328)]),(9,[sqx (True/\(List.map V.cells x.vals).length=(List.map V.cells x.vals).length/\(List.map V.cells x.vals).length=(List.map V.cells x.vals).length/\True)]),(10,[sqA (List.map Pr.cells upd) [[iv x.id,vsl x.vals,vsl x.vals]] upd.length 3 56])],si hw]) [0,3,4,5,12,13,14] 6 kr (zas rfl (show ([Blk.box [AV.sl (List.map (fun n=>[iv n]) t14.l),iv (t14.pos:Int)],Blk.box [sv tt.sch.name,ZC tt.sch.cols,iv tt.next,ZW tt.rows],Blk.box [AV.nl,AV.nl,AV.nl],Blk.box [AV.nl,AV.own 4 del.length,AV.own 5 (List.map Pr.cells upd++[[iv x.id,vsl x.vals,vsl x.vals]]).length],Blk.row Ty.int (List.map (fun n=>[iv n]) del) false,Blk.row Ty.Pair (List.map Pr.cells upd++[[iv x.id,vsl x.vals,vsl x.vals]]) false]:Heap)=_ from Zcv5) (gZ R hg)))⟩
     ·obtain ⟨a16,t16,q16,c16⟩:=(zae t14 ((↑(List.map V.cells x.vals).length:Int)) zbA)
      obtain ⟨v17,t17,q17,c17⟩:=(zcI t16)
      obtain ⟨x18,e18⟩:=zbc (l:=x.vals) (i:=(a16:Int).toNat) zbA
      obtain ⟨uZ,delZ,updZ,qZ,xZ,gZ⟩:=ih t17 del (upd++[Pr.mk x.id x.vals (x.vals.set a16 v17)]) Zo zeP Zo;exact ⟨uZ,delZ,updZ,qZ,xZ,fun R hg=>zaa (wkl (p_3++[sb h15,sqx ((List.map V.cells x.vals).length=(List.map V.cells x.vals).length),sl [0] c16,sl [0] c17,sqx (OwnAt (List.map V.cells x.vals) (List.map V.cells x.vals).length (a16:Int)),sx (.el x18.cells) (And.intro (owed (p:=True/\True/\True/\True)) (zcp V.cells (n:=(List.map V.cells x.vals).length) Zs e18)),sd [(6,[sqx (AllLen (List.map V.cells x.vals) 3/\((List.map V.cells x.vals).length * 32).le 140737488355328)]),(9,[sqx (True/\(List.map V.cells x.vals).length=(List.map V.cells x.vals).length/\(List.map V.cells x.vals).length=((List.map V.cells x.vals).set a16 [iv v17.kind,iv v17.int,sv v17.text]).length/\True)]),(10,[sqA (List.map Pr.cells upd) [[iv x.id,vsl x.vals,AV.sl ((List.map V.cells x.vals).set a16 [iv v17.kind,iv v17.int,sv v17.text])]] upd.length 3 56])],si hw]) [0,3,4,5,12,13,14] 6 kr (zas rfl (show ([Blk.box [AV.sl (List.map (fun n=>[iv n]) t17.l),iv (t17.pos:Int)],Blk.box [sv tt.sch.name,ZC tt.sch.cols,iv tt.next,ZW tt.rows],Blk.box [AV.nl,AV.nl,AV.nl],Blk.box [AV.nl,AV.own 4 del.length,AV.own 5 (List.map Pr.cells upd++[[iv x.id,vsl x.vals,AV.sl ((List.map V.cells x.vals).set a16 [iv v17.kind,iv v17.int,sv v17.text])]]).length],Blk.row Ty.int (List.map (fun n=>[iv n]) del) false,Blk.row Ty.Pair (List.map Pr.cells upd++[[iv x.id,vsl x.vals,AV.sl ((List.map V.cells x.vals).set a16 [iv v17.kind,iv v17.int,sv v17.text])]]) false]:Heap)=_ from Zcv5) (gZ R hg)))⟩
   ·obtain ⟨x19,e19⟩:=zbc (l:=r4) (i:=0) zbA
    obtain ⟨b20,t20,c20⟩:=(zah t5 8 zbA)
    let p_4:List St:=p_1++[sb h2,sb h3,sl [0] c4,sl [0] c5,sb h6,se (zcT x.vals 0 zbA zbA),sqx (OwnAt (List.map V.cells r4) r4.length 0),sx (.el x19.cells) (And.intro (owed (p:=True/\True/\True/\True)) (zcp V.cells (n:=r4.length) Zs e19)),sl [0] c20]
    rcases (yD b20).symm with h21|h21
    ·obtain ⟨b22,t22,c22⟩:=(zah t20 12 zbA)
     rcases (yD b22).symm with h23|h23
     ·obtain ⟨uZ,delZ,updZ,qZ,xZ,gZ⟩:=ih t22 del (upd++[Pr.mk x.id x.vals (r4.set 0 (zak x.vals 0))]) Zo zeP Zo;exact ⟨uZ,delZ,updZ,qZ,xZ,fun R hg=>zaa (wkl (p_4++[sb h21,sl [0] c22,sb h23,sd [(6,[sqx (AllLen (List.map V.cells x.vals) 3/\((List.map V.cells x.vals).length * 32).le 140737488355328)]),(9,[sqx (True/\(List.map V.cells x.vals).length=(List.map V.cells x.vals).length/\r4.length=((List.map V.cells r4).set 0 [iv (zak x.vals 0).kind,iv (zak x.vals 0).int,sv (zak x.vals 0).text]).length/\True)]),(10,[sqA (List.map Pr.cells upd) [[iv x.id,vsl x.vals,AV.sl ((List.map V.cells r4).set 0 [iv (zak x.vals 0).kind,iv (zak x.vals 0).int,sv (zak x.vals 0).text])]] upd.length 3 56])],si hw]) [0,3,4,5,12,13,14] 6 kr (zas rfl (show ([Blk.box [AV.sl (List.map (fun n=>[iv n]) t22.l),iv (t22.pos:Int)],Blk.box [sv tt.sch.name,ZC tt.sch.cols,iv tt.next,ZW tt.rows],Blk.box [AV.nl,AV.nl,AV.nl],Blk.box [AV.nl,AV.own 4 del.length,AV.own 5 (List.map Pr.cells upd++[[iv x.id,vsl x.vals,AV.sl ((List.map V.cells r4).set 0 [iv (zak x.vals 0).kind,iv (zak x.vals 0).int,sv (zak x.vals 0).text])]]).length],Blk.row Ty.int (List.map (fun n=>[iv n]) del) false,Blk.row Ty.Pair (List.map Pr.cells upd++[[iv x.id,vsl x.vals,AV.sl ((List.map V.cells r4).set 0 [iv (zak x.vals 0).kind,iv (zak x.vals 0).int,sv (zak x.vals 0).text])]]) false]:Heap)=_ from Zcv5) (gZ R hg)))⟩
     ·obtain ⟨a24,t24,q24,c24⟩:=(zae t22 ((r4.length:Int)) zbA)
      obtain ⟨v25,t25,q25,c25⟩:=(zcI t24)
      obtain ⟨uZ,delZ,updZ,qZ,xZ,gZ⟩:=ih t25 del (upd++[Pr.mk x.id x.vals ((r4.set 0 (zak x.vals 0)).set a24 v25)]) Zo zeP Zo;exact ⟨uZ,delZ,updZ,qZ,xZ,fun R hg=>zaa (wkl (p_4++[sb h21,sl [0] c22,sb h23,sqx (r4.length=((List.map V.cells r4).set 0 [iv (zak x.vals 0).kind,iv (zak x.vals 0).int,sv (zak x.vals 0).text]).length),sl [0] c24,sl [0] c25,sqx (OwnAt ((List.map V.cells r4).set 0 [iv (zak x.vals 0).kind,iv (zak x.vals 0).int,sv (zak x.vals 0).text]) r4.length (a24:Int)),sx (.el (((r4.set 0 (zak x.vals 0)).getD (a24:Int).toNat V.null).cells)) (And.intro (owed (p:=True/\True/\True/\True)) (zAz r4 (zak x.vals 0) r4.length ((a24:Int)) zbA zbA)),sd [(6,[sqx (AllLen (List.map V.cells x.vals) 3/\((List.map V.cells x.vals).length * 32).le 140737488355328)]),(9,[sqx (True/\(List.map V.cells x.vals).length=(List.map V.cells x.vals).length/\r4.length=(((List.map V.cells r4).set 0 [iv (zak x.vals 0).kind,iv (zak x.vals 0).int,sv (zak x.vals 0).text]).set a24 [iv v25.kind,iv v25.int,sv v25.text]).length/\True)]),(10,[sqA (List.map Pr.cells upd) [[iv x.id,vsl x.vals,AV.sl (((List.map V.cells r4).set 0 [iv (zak x.vals 0).kind,iv (zak x.vals 0).int,sv (zak x.vals 0).text]).set a24 [iv v25.kind,iv v25.int,sv v25.text])]] upd.length 3 56])],si hw]) [0,3,4,5,12,13,14] 6 kr (zas rfl (show ([Blk.box [AV.sl (List.map (fun n=>[iv n]) t25.l),iv (t25.pos:Int)],Blk.box [sv tt.sch.name,ZC tt.sch.cols,iv tt.next,ZW tt.rows],Blk.box [AV.nl,AV.nl,AV.nl],Blk.box [AV.nl,AV.own 4 del.length,AV.own 5 (List.map Pr.cells upd++[[iv x.id,vsl x.vals,AV.sl (((List.map V.cells r4).set 0 [iv (zak x.vals 0).kind,iv (zak x.vals 0).int,sv (zak x.vals 0).text]).set a24 [iv v25.kind,iv v25.int,sv v25.text])]]).length],Blk.row Ty.int (List.map (fun n=>[iv n]) del) false,Blk.row Ty.Pair (List.map Pr.cells upd++[[iv x.id,vsl x.vals,AV.sl (((List.map V.cells r4).set 0 [iv (zak x.vals 0).kind,iv (zak x.vals 0).int,sv (zak x.vals 0).text]).set a24 [iv v25.kind,iv v25.int,sv v25.text])]]) false]:Heap)=_ from Zcv5) (gZ R hg)))⟩
    ·obtain ⟨b26,t26,c26⟩:=(zah t20 12 zbA)
     let p_5:List St:=p_4++[sb h21,sqx (AllLen (List.map V.cells x.vals) 3/\((List.map V.cells x.vals).length * 32).le 140737488355328),sl [0] c26]
     rcases (yD b26).symm with h27|h27
     ·obtain ⟨uZ,delZ,updZ,qZ,xZ,gZ⟩:=ih t26 del (upd++[Pr.mk x.id x.vals x.vals]) Zo zeP Zo;exact ⟨uZ,delZ,updZ,qZ,xZ,fun R hg=>zaa (wkl (p_5++[sb h27,sd [(6,[sqx (AllLen (List.map V.cells x.vals) 3/\((List.map V.cells x.vals).length * 32).le 140737488355328)]),(9,[sqx (True/\(List.map V.cells x.vals).length=(List.map V.cells x.vals).length/\(List.map V.cells x.vals).length=(List.map V.cells x.vals).length/\True)]),(10,[sqA (List.map Pr.cells upd) [[iv x.id,vsl x.vals,vsl x.vals]] upd.length 3 56])],si hw]) [0,3,4,5,12,13,14] 6 kr (zas rfl (show ([Blk.box [AV.sl (List.map (fun n=>[iv n]) t26.l),iv (t26.pos:Int)],Blk.box [sv tt.sch.name,ZC tt.sch.cols,iv tt.next,ZW tt.rows],Blk.box [AV.nl,AV.nl,AV.nl],Blk.box [AV.nl,AV.own 4 del.length,AV.own 5 (List.map Pr.cells upd++[[iv x.id,vsl x.vals,vsl x.vals]]).length],Blk.row Ty.int (List.map (fun n=>[iv n]) del) false,Blk.row Ty.Pair (List.map Pr.cells upd++[[iv x.id,vsl x.vals,vsl x.vals]]) false]:Heap)=_ from Zcv5) (gZ R hg)))⟩
     ·obtain ⟨a28,t28,q28,c28⟩:=(zae t26 ((↑(List.map V.cells x.vals).length:Int)) zbA)
      obtain ⟨v29,t29,q29,c29⟩:=(zcI t28)
      obtain ⟨x30,e30⟩:=zbc (l:=x.vals) (i:=(a28:Int).toNat) zbA
      obtain ⟨uZ,delZ,updZ,qZ,xZ,gZ⟩:=ih t29 del (upd++[Pr.mk x.id x.vals (x.vals.set a28 v29)]) Zo zeP Zo;exact ⟨uZ,delZ,updZ,qZ,xZ,fun R hg=>zaa (wkl (p_5++[sb h27,sqx ((List.map V.cells x.vals).length=(List.map V.cells x.vals).length),sl [0] c28,sl [0] c29,sqx (OwnAt (List.map V.cells x.vals) (List.map V.cells x.vals).length (a28:Int)),sx (.el x30.cells) (And.intro (owed (p:=True/\True/\True/\True)) (zcp V.cells (n:=(List.map V.cells x.vals).length) Zs e30)),sd [(6,[sqx (AllLen (List.map V.cells x.vals) 3/\((List.map V.cells x.vals).length * 32).le 140737488355328)]),(9,[sqx (True/\(List.map V.cells x.vals).length=(List.map V.cells x.vals).length/\(List.map V.cells x.vals).length=((List.map V.cells x.vals).set a28 [iv v29.kind,iv v29.int,sv v29.text]).length/\True)]),(10,[sqA (List.map Pr.cells upd) [[iv x.id,vsl x.vals,AV.sl ((List.map V.cells x.vals).set a28 [iv v29.kind,iv v29.int,sv v29.text])]] upd.length 3 56])],si hw]) [0,3,4,5,12,13,14] 6 kr (zas rfl (show ([Blk.box [AV.sl (List.map (fun n=>[iv n]) t29.l),iv (t29.pos:Int)],Blk.box [sv tt.sch.name,ZC tt.sch.cols,iv tt.next,ZW tt.rows],Blk.box [AV.nl,AV.nl,AV.nl],Blk.box [AV.nl,AV.own 4 del.length,AV.own 5 (List.map Pr.cells upd++[[iv x.id,vsl x.vals,AV.sl ((List.map V.cells x.vals).set a28 [iv v29.kind,iv v29.int,sv v29.text])]]).length],Blk.row Ty.int (List.map (fun n=>[iv n]) del) false,Blk.row Ty.Pair (List.map Pr.cells upd++[[iv x.id,vsl x.vals,AV.sl ((List.map V.cells x.vals).set a28 [iv v29.kind,iv v29.int,sv v29.text])]]) false]:Heap)=_ from Zcv5) (gZ R hg)))⟩
 ·obtain ⟨uZ,delZ,updZ,qZ,xZ,gZ⟩:=ih t1 (del++[x.id]) upd Zo zeP Zo;exact ⟨uZ,delZ,updZ,qZ,xZ,fun R hg=>zaa (wkl (p_1++[sb h2,sqA (List.map (fun n=>[iv n]) del) [[iv x.id]] del.length 1 8,si hw]) [0,3,4,5,12,13,14] 6 kr (zas rfl (show ([Blk.box [AV.sl (List.map (fun n=>[iv n]) t1.l),iv (t1.pos:Int)],Blk.box [sv tt.sch.name,ZC tt.sch.cols,iv tt.next,ZW tt.rows],Blk.box [AV.nl,AV.nl,AV.nl],Blk.box [AV.nl,AV.own 4 (List.map (fun n=>[iv n]) del++[[iv x.id]]).length,AV.own 5 upd.length],Blk.row Ty.int (List.map (fun n=>[iv n]) del++[[iv x.id]]) false,Blk.row Ty.Pair (List.map Pr.cells upd) false]:Heap)=_ from Zcv5) (gZ R hg)))⟩
structure InI (n k:Nat) (ins:List (List V)):Prop where
 len:ins.length+k<=1000
 all:∀ r∈ins,WOk n r
theorem InI.push {n k:Nat} {ins:List (List V)} (h:InI n (k+1) ins) {w:List V} (hw:WOk n w):InI n k (ins++[w]):=by
 refine ⟨by have:=h.len;simp;omega,fun r hr=>?_⟩
 rcases yK.1 hr with hr|hr
 ·exact h.all r hr
 ·simp only [yF] at hr;subst hr;exact hw
noncomputable def L_co1 (t0:Tp) (tt:Tb) (del:List Int) (upd:List Pr) (k:Nat) (u:Tp) (ins:List (List V)):Cfg:=zai B.AX 1 [(0,.p 0 0),(3,.p 1 0),(4,.p 2 0),(5,.p 3 0),(9,iv (k:Nat))] [.box u.cells,.box tt.cells,.box [.nl,.nl,.nl],.box [.own 6 ins.length,.own 4 del.length,.own 5 upd.length],.row Ty.int (del.map fun n=>[iv n]) false,.row Ty.Pair (upd.map Pr.cells) false,.row Ty.LValue (ins.map vrow) false]
theorem zfr (t0:Tp) (tt:Tb) (del:List Int) (upd:List Pr) (hv:TabV tt) (hsc:zac tt.sch.cols) (hco:∀ c∈tt.sch.cols,zdo c) (k:Nat) (u:Tp) (ins:List (List V)) (hi:k<=1000000000) (hI:InI tt.sch.cols.length k ins):∃ (u':Tp) (ins':List (List V)),(InI tt.sch.cols.length 0 ins')/\(decide ((0:Int) < ((0:Nat):Int))=false)/\∀ R,Good E0 B.AX [.box t0.cells] (L_co1 t0 tt del upd 0 u' ins') R->Good E0 B.AX [.box t0.cells] (L_co1 t0 tt del upd k u ins) R:=by
 induction k generalizing u ins with
 | zero=>exact ⟨u,ins,hI,by decide,fun R hg=>hg⟩
 | succ k ih =>
  have h0:decide ((0:Int) < (((k+1):Nat):Int))=true:=by first|(simp;done)|(simp;omega)
  have hw:IntKind.i64.wrap (((k+1:Nat):Int) - 1)=((k:Nat):Int):=zfj k Zo
  have hil:ins.length<=1000:=(by have:=hI.len;omega);have h0c:1<=tt.sch.cols.length:=(by have:=hv.sch.lo;simp only [yG,decide_eq_false_iff_not] at this;omega);have hc6:tt.sch.cols.length<=6:=(by have:=hv.sch.hi;simp only [yG,decide_eq_false_iff_not] at this;omega)
  obtain ⟨r1,u1,q1,c1⟩:=(zfk u tt.sch zbA zbA)
  obtain ⟨b2,t2,c2⟩:=(zah u1 12 zbA)
  rcases (yD b2).symm with h3|h3
  ·obtain ⟨uZ,insZ,qZ,xZ,gZ⟩:=ih t2 (ins++[r1]) Zo (by first|exact hI.push (wRow (And.left ‹zbJ tt.sch.cols _/\_›))|exact hI.push (WOk.set (wRow (And.left ‹zbJ tt.sch.cols _/\_›)) ‹_›));exact ⟨uZ,insZ,qZ,xZ,fun R hg=>zaa (wkl [sb h0,sl [0] c1,sl [0] c2,sb h3,sqx (r1.length=(List.map V.cells r1).length/\True),sqA (List.map vrow ins) [[vsl r1]] ins.length 1 24,si hw] [0,3,4,5,9] 7 kr (zas rfl (show ([Blk.box [AV.sl (List.map (fun n=>[iv n]) t2.l),iv (t2.pos:Int)],Blk.box [sv tt.sch.name,ZC tt.sch.cols,iv tt.next,ZW tt.rows],Blk.box [AV.nl,AV.nl,AV.nl],Blk.box [AV.own 6 (List.map vrow ins++[[vsl r1]]).length,AV.own 4 del.length,AV.own 5 upd.length],Blk.row Ty.int (List.map (fun n=>[iv n]) del) false,Blk.row Ty.Pair (List.map Pr.cells upd) false,Blk.row Ty.LValue (List.map vrow ins++[[vsl r1]]) false]:Heap)=_ from Zcv5) (gZ R hg)))⟩
  ·obtain ⟨a4,t4,q4,c4⟩:=(zae t2 ((r1.length:Int)) zbA)
   obtain ⟨v5,t5,q5,c5⟩:=(zcI t4)
   obtain ⟨x6,e6⟩:=zbc (l:=r1) (i:=(a4:Int).toNat) zbA
   obtain ⟨uZ,insZ,qZ,xZ,gZ⟩:=ih t5 (ins++[r1.set a4 v5]) Zo (by first|exact hI.push (wRow (And.left ‹zbJ tt.sch.cols _/\_›))|exact hI.push (WOk.set (wRow (And.left ‹zbJ tt.sch.cols _/\_›)) ‹_›));exact ⟨uZ,insZ,qZ,xZ,fun R hg=>zaa (wkl [sb h0,sl [0] c1,sl [0] c2,sb h3,sqx (r1.length=(List.map V.cells r1).length),sl [0] c4,sl [0] c5,sqx (OwnAt (List.map V.cells r1) r1.length (a4:Int)),sx (.el x6.cells) (And.intro (owed (p:=True/\True/\True/\True)) (zcp V.cells (n:=r1.length) Zs e6)),sqx (r1.length=((List.map V.cells r1).set a4 [iv v5.kind,iv v5.int,sv v5.text]).length/\True),sqA (List.map vrow ins) [[AV.sl ((List.map V.cells r1).set a4 [iv v5.kind,iv v5.int,sv v5.text])]] ins.length 1 24,si hw] [0,3,4,5,9] 7 kr (zas rfl (show ([Blk.box [AV.sl (List.map (fun n=>[iv n]) t5.l),iv (t5.pos:Int)],Blk.box [sv tt.sch.name,ZC tt.sch.cols,iv tt.next,ZW tt.rows],Blk.box [AV.nl,AV.nl,AV.nl],Blk.box [AV.own 6 (List.map vrow ins++[[AV.sl ((List.map V.cells r1).set a4 [iv v5.kind,iv v5.int,sv v5.text])]]).length,AV.own 4 del.length,AV.own 5 upd.length],Blk.row Ty.int (List.map (fun n=>[iv n]) del) false,Blk.row Ty.Pair (List.map Pr.cells upd) false,Blk.row Ty.LValue (List.map vrow ins++[[AV.sl ((List.map V.cells r1).set a4 [iv v5.kind,iv v5.int,sv v5.text])]]) false]:Heap)=_ from Zcv5) (gZ R hg)))⟩
theorem co_chG {t:Tb} {del:List Int} {upd:List Pr} {ins:List (List V)} (hv:TabV t) (h:CoI t t.rows.length del upd) (hi:InI t.sch.cols.length 0 ins):ChG t ⟨ins,del,upd⟩:=by
 have h1:=h.ld;have h2:=h.lu;have h3:=hi.len;have h4:=hv.l100
 rw [show CoI t t.rows.length del upd=CoI t t.rows.length del upd from rfl] at h
 have hd:=h.din;have hu:=h.uin
 rw [yL] at hd hu
 refine ⟨⟨h.dasc,fun d hdd=>?_,h.uasc,fun p hp=>?_,fun r hr=>(hi.all r hr).len,by show del.length<=100000;omega,by show upd.length<=100000;omega,by show ins.length<=100000;omega⟩,fun p hp=>(hu p hp).2.2.2,fun r hr=>(hi.all r hr).good⟩
 ·obtain ⟨r,hr,e⟩:=hd d hdd
  rw [← e,zih hv.rows.asc hr]
 ·obtain ⟨⟨r,hr,e,e2⟩,h5,h6,_⟩:=hu p hp
  refine ⟨by rw [← e,e2];exact zih hv.rows.asc hr,?_,h6⟩
  show anyI del p.id=false
  cases ha:anyI del p.id
  ·rfl
  ·exact absurd (ze1.1 ha) h5
theorem co_0 (t:Tb):CoI t 0 [] []:=⟨.nil,.nil,fun _ h=>(by cases h),fun _ h=>(by cases h),by simp,by simp⟩
theorem in_0 {n k:Nat} (h:k<=1000):InI n k []:=⟨by simp;omega,fun _ h=>(by cases h)⟩
theorem zle (t0:Tp) (tt:Tb) (hv:TabV tt) (hsr:zac tt.rows) (hsc:zac tt.sch.cols) (hco:∀ c∈tt.sch.cols,zdo c):∃ (cz:Ch) (u:Tp),ChG tt cz/\zab E0 S.AX [.p 0 0,tt.av] [.box t0.cells] cz.av [.box u.cells]:=by
 obtain ⟨u1,del1,upd1,q1,q1_1,g1⟩:=zfq t0 tt zdV zdV zdV zdV 0 t0 ([]) ([]) zdV zdV
 obtain ⟨a2,t2,q2,c2⟩:=(zae u1 4 zdV)
 obtain ⟨u3,ins3,q3,q3_1,g3⟩:=zfr t0 tt del1 upd1 zdV zdV zdV a2 t2 ([]) zdV zdV
 exact ⟨Ch.mk ins3 del1 upd1,u3,(by exact co_chG hv ‹_› ‹_›),wkcN At.AX [] [0,3,4,5,12,13,14] 4 [(.ob 3 1 Ty.int,5),(.ob 3 2 Ty.Pair,6)] kr (g1 _ (zaa (wklN [sb q1_1,sl [0] c2] [0,3,4,5,9] 6 [(.ob 3 0 Ty.LValue,7)] kr (g3 _ (zaa (wkr [sqx (ins3.length=(List.map vrow ins3).length/\del1.length=(List.map (fun n=>[iv n]) del1).length/\upd1.length=(List.map Pr.cells upd1).length/\True),sb Zf] kr))))))⟩
noncomputable def apS (t:Tb) (c:Ch):Tb × Int:=open Classical in if h:TabV t/\ChG t c then ((znp t c h.1 h.2).choose,(znp t c h.1 h.2).choose_spec.choose) else (t,1)
theorem apS_q {t:Tb} {c:Ch} (ht:TabV t) (hc:ChG t c):ApQ t c (apS t c).1 (apS t c).2:=by
 unfold apS;rw [dif_pos ⟨ht,hc⟩];exact (znp t c ht hc).choose_spec.choose_spec.1
theorem zmP (t:Tb) (c:Ch) (ht:TabV t) (hc:ChG t c):zab E0 S.Az [t.av,c.av] [] (.tup [(apS t c).1.av,iv (apS t c).2]) []:=by
 unfold apS;rw [dif_pos ⟨ht,hc⟩];exact (znp t c ht hc).choose_spec.choose_spec.2
theorem zs8 {l:List Rw} {r:Rw} (hr:r∈l):(get6 r.id l).2=true:=by
 induction l with
 | nil=>cases hr
 | cons q l ih =>
  unfold get6
  cases h:q.id==r.id
  ·rcases yO.1 hr with rfl|hr
   ·simp at h
   ·exact ih hr
  ·rfl
theorem zAF (t:Tb) (c:Ch):GrowT t (apT t c):=by
 refine ⟨rfl,by show t.next<=t.next+(c.ins.length:Int);omega,fun r hr=>?_⟩
 rcases yK.1 hr with hr|hr
 ·obtain ⟨q,hq,_,e,_⟩:=ziB hr
  rw [e];exact .inl (zs8 hq)
 ·exact .inr (zgs hr).1
theorem StV.set {m:List Tb} (h:StV m) {i:Nat} {t u:Tb} (hi:m[i]?=some t) (hs:u.sch=t.sch) (hu:TabV u):StV (m.set i u):=by
 refine ⟨?_,fun x hx=>(List.mem_or_eq_of_mem_set hx).elim (h.tabs x) fun e=>e ▸ hu⟩
 rw [List.map_set,hs,← h.schs]
 have:(m.map Tb.sch)[i]?=some t.sch:=by rw [yS,hi];rfl
 refine yAZ fun j=>?_
 by_cases e:j=i
 ·subst e;rw [yAI (yB.1 this).1,this]
 ·rw [yZ (Ne.symm e)]
theorem zfN {p:Prop} (h:p:=by first|assumption|omega|(simp;done)|(simp;omega)):p:=h
theorem zxa {p:Prop} (h:p:=by first|trivial|assumption|(simp;done)|omega|(simp;omega)|(simp at *;omega)):p:=h
theorem zxf:StructEq E0.P Ty.Column [.str,.int .i64,.bool,.bool] :=
 zt1 E0ok (fs:=E0.P.fieldsOf Ty.Column) kr kr kr kr
theorem ziw (l:List V) (hl:zac l):zab E0 S.Ar [vsl l,vsl l] [] (bv true) []:=by
 obtain ⟨r,rfl,h⟩:=zfu l hl
 exact h
noncomputable def L_eqC (l:List Col) (i:Nat) :Cfg:=zai B.Bs 0 [(0,.sl (l.map Col.cells)),(1,.sl (l.map Col.cells)),(12,iv ((l.map Col.cells).length:Nat)),(13,iv (i:Nat))] []
theorem zfn (l:List Col) (hl:zac l) (i:Nat)  (hi:i<=(l).length) (hI:True):(True)/\(decide ((((l).length:Nat):Int) < (((l.map Col.cells).length:Nat):Int))=false)/\∀ R,Good E0 B.Bs [] (L_eqC l (l).length ) R->Good E0 B.Bs [] (L_eqC l i ) R:=by
 have hk:=hi;revert i hI;refine zlp ((l).length) (fun i hlt ih hi hI _=>?_)
 obtain ⟨x,hx,h0,hw⟩:=zlq (l:=l) ((l.map Col.cells).length) hlt
 cases h1:!(x.name==x.name&&(x.type==x.type&&(x.notNull==x.notNull&&(x.key==x.key&&true))))
 ·obtain ⟨qZ,xZ,gZ⟩:=ih Zo zxa Zo;exact ⟨qZ,xZ,fun R hg=>zaa (wkl [sb h0,sd [(2,[se (zaf Col.cells hx rfl)]),(6,[se (zaf Col.cells hx rfl)]),(8,[sq zxf])],sb h1,si hw] [0,1,12,13] 0 kr (gZ R hg))⟩
 ·exact False.elim (by simp at *)
theorem zkj (l:List Col) (hl:zac l) (hz:((((l.map Col.cells).length:Nat):Int) != (((l.map Col.cells).length:Nat):Int))=false):∃ (r:Bool),r=true/\zab E0 S.Bs [.sl (l.map Col.cells),.sl (l.map Col.cells)] [] (bv r) []:=by
 obtain ⟨q1,q1_1,g1⟩:=zfn l zfN 0 zfN zfN
 exact ⟨true,Zr,wkc At.Bs [sb hz] [0,1,12,13] 0 kr (g1 _ (zaa (wkr [sb q1_1] kr)))⟩
theorem zec (l:List Col) (hl:zac l):zab E0 S.Bs [.sl (l.map Col.cells),.sl (l.map Col.cells)] [] (bv true) []:=by
 obtain ⟨r,rfl,h⟩:=zkj l hl Zs
 exact h
theorem zxN (x:Rw) (hA0:(x.id==x.id)=true) (hs:zac x.vals):∃ (r:Bool),r=true/\zab E0 S.BE [.agg x.cells,.agg x.cells] [] (bv r) []:=by
 exact ⟨true,Zr,wk At.BE [sg hA0,sc (ziw x.vals Za)] kr⟩
theorem zpk (x:Rw) (hs:zac x.vals):zab E0 S.BE [.agg x.cells,.agg x.cells] [] (bv true) []:=by
 obtain ⟨r,rfl,h⟩:=zxN x Zs hs
 exact h
noncomputable def L_smW (l:List Rw) (i:Nat) :Cfg:=zai B.Ao 0 [(1,.sl (l.map Rw.cells)),(2,.fn S.BE []),(15,.sl (l.map Rw.cells)),(16,iv ((l.map Rw.cells).length:Nat)),(17,iv (i:Nat))] []
theorem zcd (l:List Rw) (hl:zac l) (hf:∀ x∈l,zab E0 S.BE [(.agg x.cells),(.agg x.cells)] [] (bv true) []) (i:Nat)  (hi:i<=(l).length) (hI:True):(True)/\(decide ((((l).length:Nat):Int) < (((l.map Rw.cells).length:Nat):Int))=false)/\∀ R,Good E0 B.Ao [] (L_smW l (l).length ) R->Good E0 B.Ao [] (L_smW l i ) R:=by
 have hk:=hi;revert i hI;refine zlp ((l).length) (fun i hlt ih hi hI _=>?_)
 obtain ⟨x,hx,h0,hw⟩:=zlq (l:=l) ((l.map Rw.cells).length) hlt
 have hfx:=hf x (yC hx)
 obtain ⟨qZ,xZ,gZ⟩:=ih Zo zxa Zo;exact ⟨qZ,xZ,fun R hg=>zaa (wkl [sb h0,se (zaf Rw.cells hx rfl),se (zaf Rw.cells hx rfl),sc hfx,sb Zf,si hw] [1,2,15,16,17] 0 kr (gZ R hg))⟩
theorem zcO (l:List Rw) (hl:zac l) (hf:∀ x∈l,zab E0 S.BE [(.agg x.cells),(.agg x.cells)] [] (bv true) []) (hz:((((l.map Rw.cells).length:Nat):Int) != (((l.map Rw.cells).length:Nat):Int))=false):∃ (r:Bool),r=true/\zab E0 S.Ao [.sl (l.map Rw.cells),.sl (l.map Rw.cells),.fn S.BE []] [] (bv r) []:=by
 obtain ⟨q1,q1_1,g1⟩:=zcd l zfN zfN 0 zfN zfN
 exact ⟨true,Zr,wkc At.Ao [sb hz] [1,2,15,16,17] 0 kr (g1 _ (zaa (wkr [sb q1_1] kr)))⟩
theorem zcP (l:List Rw) (hl:zac l) (hf:∀ x∈l,zab E0 S.BE [(.agg x.cells),(.agg x.cells)] [] (bv true) []):zab E0 S.Ao [.sl (l.map Rw.cells),.sl (l.map Rw.cells),.fn S.BE []] [] (bv true) []:=by
 obtain ⟨r,rfl,h⟩:=zcO l hl hf Zs
 exact h
theorem zsA (x:Sch) (hA0:(x.name.toList==x.name.toList)=true) (hs:zac x.cols):∃ (r:Bool),r=true/\zab E0 S.C9 [x.av,x.av] [] (bv r) []:=by
 exact ⟨true,Zr,wk At.C9 [sg hA0,sc (zec x.cols Za)] kr⟩
theorem zmT (x:Sch) (hs:zac x.cols):zab E0 S.C9 [x.av,x.av] [] (bv true) []:=by
 obtain ⟨r,rfl,h⟩:=zsA x Zs hs
 exact h
theorem zuk (x:Tb) (hA0:(x.next==x.next)=true) (hs:zac x.sch.cols) (hr:zac x.rows) (hf:∀ y∈x.rows,zab E0 S.BE [.agg y.cells,.agg y.cells] [] (bv true) []):∃ (r:Bool),r=true/\zab E0 S.Be [.agg x.cells,.agg x.cells] [] (bv r) []:=by
 exact ⟨true,Zr,wk At.Be [sc (zmT x.sch Za),sg Zt,sg hA0,sc (zcP x.rows Za Za)] kr⟩
theorem znV (x:Tb) (hs:zac x.sch.cols) (hr:zac x.rows) (hv:∀ r∈x.rows,zac r.vals):zab E0 S.Be [.agg x.cells,.agg x.cells] [] (bv true) []:=by
 obtain ⟨r,rfl,h⟩:=zuk x Zs hs hr fun y hy=>zpk y (hv y hy)
 exact h
noncomputable def L_smB (l:List Tb) (i:Nat) :Cfg:=zai B.Ai 0 [(1,.sl (l.map Tb.cells)),(2,.fn S.Be []),(15,.sl (l.map Tb.cells)),(16,iv ((l.map Tb.cells).length:Nat)),(17,iv (i:Nat))] []
theorem zbS (l:List Tb) (hl:zac l) (hf:∀ x∈l,zab E0 S.Be [(.agg x.cells),(.agg x.cells)] [] (bv true) []) (i:Nat)  (hi:i<=(l).length) (hI:True):(True)/\(decide ((((l).length:Nat):Int) < (((l.map Tb.cells).length:Nat):Int))=false)/\∀ R,Good E0 B.Ai [] (L_smB l (l).length ) R->Good E0 B.Ai [] (L_smB l i ) R:=by
 have hk:=hi;revert i hI;refine zlp ((l).length) (fun i hlt ih hi hI _=>?_)
 obtain ⟨x,hx,h0,hw⟩:=zlq (l:=l) ((l.map Tb.cells).length) hlt
 have hfx:=hf x (yC hx)
 obtain ⟨qZ,xZ,gZ⟩:=ih Zo zxa Zo;exact ⟨qZ,xZ,fun R hg=>zaa (wkl [sb h0,se (zaf Tb.cells hx rfl),se (zaf Tb.cells hx rfl),sc hfx,sb Zf,si hw] [1,2,15,16,17] 0 kr (gZ R hg))⟩
theorem zce (l:List Tb) (hl:zac l) (hf:∀ x∈l,zab E0 S.Be [(.agg x.cells),(.agg x.cells)] [] (bv true) []) (hz:((((l.map Tb.cells).length:Nat):Int) != (((l.map Tb.cells).length:Nat):Int))=false):∃ (r:Bool),r=true/\zab E0 S.Ai [.sl (l.map Tb.cells),.sl (l.map Tb.cells),.fn S.Be []] [] (bv r) []:=by
 obtain ⟨q1,q1_1,g1⟩:=zbS l zfN zfN 0 zfN zfN
 exact ⟨true,Zr,wkc At.Ai [sb hz] [1,2,15,16,17] 0 kr (g1 _ (zaa (wkr [sb q1_1] kr)))⟩
theorem zcf (l:List Tb) (hl:zac l) (hf:∀ x∈l,zab E0 S.Be [(.agg x.cells),(.agg x.cells)] [] (bv true) []):zab E0 S.Ai [.sl (l.map Tb.cells),.sl (l.map Tb.cells),.fn S.Be []] [] (bv true) []:=by
 obtain ⟨r,rfl,h⟩:=zce l hl hf Zs
 exact h
theorem zsB (l:List Tb) (hl:zac l) (hf:∀ x∈l,zab E0 S.Be [.agg x.cells,.agg x.cells] [] (bv true) []):∃ (r:Bool),r=true/\zab E0 S.C8 [tsl l,tsl l] [] (bv r) []:=by
 exact ⟨true,Zr,wk At.C8 [sc (zcf l Za Za)] kr⟩
theorem zg3 (l:List Tb) (hl:zac l) (hv:∀ t∈l,zac t.sch.cols/\zac t.rows/\∀ r∈t.rows,zac r.vals):zab E0 S.C8 [tsl l,tsl l] [] (bv true) []:=by
 obtain ⟨r,rfl,h⟩:=zsB l hl fun x hx=>znV x (hv x hx).1 (hv x hx).2.1 (hv x hx).2.2
 exact h
structure StA (l:List Tb):Prop where
 len:l.length<=6
 val:∀ t∈l,TabV t
 asc:l.Pairwise fun a b=>Op.bytesLess a.sch.name.toList b.sch.name.toList=true
theorem StA.short {l:List Tb} (h:StA l):zac l:=by have:=h.len;simp only [zac];omega
theorem StA.get {l:List Tb} (h:StA l) {i:Nat} {x y:Tb} (hx:l[i]?=some x) (h1:1<=i) (hy:AtI l (IntKind.i64.wrap (((i:Nat):Int) - 1)) y):(!Op.bytesLess y.sch.name.toList x.sch.name.toList)=false:=by
 have hl:=h.len
 obtain ⟨a1,a2⟩:=yB.1 hx
 have e:IntKind.i64.wrap (((i:Nat):Int) - 1)=((i - 1:Nat):Int):=by rw [IntKind.wrap_i64];omega
 rw [e] at hy
 have h2:l[i - 1]?=some y:=by simpa using hy.2
 obtain ⟨b1,b2⟩:=yB.1 h2
 have:=yAW.1 h.asc (i - 1) i b1 a1 Zo
 rw [a2,b2] at this
 rw [this];rfl
theorem zAf {α:Type} {l:List α} {i:Nat} {x:α} (hx:l[i]?=some x) (h1:1<=i) (hl:i<=1000000000):0<=IntKind.i64.wrap (((i:Nat):Int) - 1)/\IntKind.i64.wrap (((i:Nat):Int) - 1) < ((l.length:Nat):Int):=by
 have:=(yB.1 hx).1
 rw [IntKind.wrap_i64];omega
noncomputable def zr0 (l:List Tb) (i:Nat) :Cfg:=zai B.BQ 0 [(0,.sl (l.map Tb.cells)),(8,.sl (l.map Tb.cells)),(9,iv ((l.map Tb.cells).length:Nat)),(10,iv (i:Nat))] []
theorem zjl (l:List Tb) (hv:StA l) (hl:zac l) (i:Nat)  (hi:i<=(l).length) (hI:1<=i):(1<=(l).length)/\(decide ((((l).length:Nat):Int) < (((l.map Tb.cells).length:Nat):Int))=false)/\∀ R,Good E0 B.BQ [] (zr0 l (l).length ) R->Good E0 B.BQ [] (zr0 l i ) R:=by
 have hk:=hi;revert i;refine zlp ((l).length) (fun i hlt ih hi hI _=>?_)
 obtain ⟨x,hx,h0,hw⟩:=zlq (l:=l) ((l.map Tb.cells).length) hlt
 have a1:zab E0 S.BF [x.av] [] (bv true) []:=zc8 x (hv.val x (yC hx));have a5:decide ((0:Int) < ((i:Nat):Int))=true:=Zp;have hil:=zb1 hx
 have a7:∀ y,AtI l (IntKind.i64.wrap (((i:Nat):Int) - 1)) y->(bif !true then true else bif decide (0 < ((i:Nat):Int)) then !Op.bytesLess (ByteArray.toList y.sch.name) (ByteArray.toList x.sch.name) else false)=false:=fun y hy=>(by rw [a5];exact hv.get hx hI hy)
 obtain ⟨x1,e1⟩:=zdN (l:=l) (i:=IntKind.i64.wrap ((i:Int) - (1:Int))) (by exact zAf hx hI (by simp only [zac] at hl;omega))
 obtain ⟨qZ,xZ,gZ⟩:=ih Zo Zo Zo;exact ⟨qZ,xZ,fun R hg=>zaa (wkl [sb h0,se (zaf Tb.cells hx rfl),sd [(1,[sc a1]),(4,[sg Zf]),(5,[sg Zf]),(6,[sg Zf]),(7,[sg a5]),(8,[sg a5]),(9,[so a5 (si (e:=IntKind.i64.wrap ((i:Int) - 1)) rfl)]),(10,[so a5 (se (zbW Tb.cells e1 rfl))]),(11,[sg a5]),(12,[sg a5]),(13,[sg a5]),(14,[sg a5]),(15,[sg a5]),(16,[sg a5]),(17,[sg a5]),(18,[sg Zf])],sb (a7 x1 e1),si hw] [0,8,9,10] 0 kr (gZ R hg))⟩
theorem ziV (l:List Tb) (hv:StA l) (hl:zac l):decide (((l.length:Nat):Int) < (((l.map Tb.cells).length:Nat):Int))=false/\∀ R,Good E0 B.BQ [] (zr0 l l.length) R->Good E0 B.BQ [] (zr0 l 0) R:=by
 cases hrw:l with
 | nil=>exact ⟨by simp,fun R h=>h⟩
 | cons x r =>
  have hx:l[0]?=some x:=by rw [hrw];rfl
  obtain ⟨_,h1,h2⟩:=zjl l hv hl 1 (by rw [hrw];simp) (yJ 1)
  rw [← hrw]
  refine ⟨h1,fun R h=>?_⟩
  have hg:=h2 R h
  have h0:decide (((0:Nat):Int) < (((l.map Tb.cells).length:Nat):Int))=true:=by rw [hrw];simp
  have a1:zab E0 S.BF [x.av] [] (bv true) []:=zc8 x (hv.val x (yC hx))
  refine zaa ?_
  exact wkl [sb h0,se (zaf Tb.cells hx rfl),sd [(1,[sc a1]),(4,[sg Zf]),(5,[sg Zf]),(6,[sg Zf]),(7,[sb Zf]),(8,[sb Zf]),(9,[sb Zf]),(10,[sb Zf]),(11,[sb Zf]),(12,[sb Zf]),(13,[sb Zf]),(14,[sb Zf]),(15,[sb Zf]),(16,[sb Zf]),(17,[sb Zf]),(18,[so Zf (sb Zf)])],sb Zf,si (zap (t:=(↑0:Int)+1) (n:=0+1) Zo Zo)] [0,8,9,10] 0 kr (hg)
theorem zqk (l:List Tb) (hv:StA l) (hl:zac l) (n1:decide ((6:Int) < ((l.map Tb.cells).length:Int))=false):∃ (r:Bool),r=true/\zab E0 S.BQ [tsl l] [] (bv r) []:=by
 obtain ⟨q1,g1⟩:=ziV l Za Za
 exact ⟨true,Zr,wkc At.BQ [sb n1] [0,8,9,10] 0 kr (g1 _ (zaa (wkr [sb q1] kr)))⟩
theorem zix (l:List Tb) (hv:StA l):zab E0 S.BQ [tsl l] [] (bv true) []:=by
 obtain ⟨r,rfl,h⟩:=zqk l hv hv.short (by have:=hv.len;simp;omega)
 exact h
theorem zqg (r:Rw) (hv:zac r.vals):∃ (x:Rw),x=r/\zab E0 S.Dp [.agg r.cells] [] (.agg x.cells) []:=by
 exact ⟨r,(by first|rfl|(simp only [zbd])),wk At.Dp [sqx (True/\r.vals.length=(List.map V.cells r.vals).length/\True),sd [(4,[sc (zaC r.vals (by first|assumption|omega|(simp;done)|(simp;omega)))])]] kr⟩
theorem zev (r:Rw) (hv:zac r.vals):zab E0 S.Dp [.agg r.cells] [] (.agg r.cells) []:=by
 obtain ⟨_,rfl,h⟩:=zqg r hv
 exact h
theorem zmv (s:Sch) (hs:zac s.cols) (hn:(ByteArray.toList s.name==ByteArray.toList s.name)=true):∃ (r:Bool),r=true/\zab E0 S.CT [s.av,s.av] [] (bv r) []:=by
 exact ⟨true,Zr,wk At.CT [sg hn,sc (zec s.cols (by first|assumption|omega|(simp;done)|(simp;omega)))] kr⟩
theorem zmK (s:Sch) (hs:zac s.cols):zab E0 S.CT [s.av,s.av] [] (bv true) []:=by
 obtain ⟨_,rfl,h⟩:=zmv s hs Zs
 exact h
noncomputable def zgE (a b:Tb) (r:Rw) (io:Nat) (ins:List Rw) (upd:List Pr) (bef del:List Rw):Cfg:=zai B.Ap 1 [(2,.p 0 0),(4,.p 2 0),(6,.p 3 0),(7,.sl (bef.map Rw.cells)),(9,.p 7 0),(44,.sl (b.rows.map Rw.cells)),(45,iv ((b.rows.map Rw.cells).length:Nat)),(46,iv (io:Nat))] [.box a.cells,.box b.cells,.box [sv ⟨#[]⟩,.nl,.nl,.nl],.box [sv a.sch.name,.own 4 ins.length,.own 5 del.length,.own 6 upd.length],.row Ty.Row (ins.map Rw.cells) false,.row Ty.Row (del.map Rw.cells) false,.row Ty.Pair (upd.map Pr.cells) false,.box r.cells]
theorem zzi (a b:Tb) (r:Rw) (io:Nat) (ins:List Rw) (upd:List Pr) (x:Rw) (bef del:List Rw) (hx:bef[0]?=some x) (h0:decide ((0:Int) < (((bef.map Rw.cells).length:Nat):Int))=true) (h2:decide (x.id < r.id)=true) (h3:(bif decide ((0:Int) < (((bef.map Rw.cells).length:Nat):Int)) then decide (x.id<=r.id) else false)=true) (hsx:zac x.vals) (hdl:del.length<=1000) (R:AV->Heap->Prop) (hg:Good E0 B.Ap [] (zgE a b r io ins upd (bef.drop 1) (del++[x])) R):Good E0 B.Ap [] (zgE a b r io ins upd bef del) R:=by
 refine zaa ?_
 exact wkl [sd [(4,[sg h0]),(5,[so h0 (se (zaf Rw.cells hx rfl))]),(6,[sg h0]),(7,[sg h0]),(8,[sg h0]),(9,[sg h0]),(10,[sg h0])],sb h3,se (zaf Rw.cells hx rfl),sqx (SubAt (List.map Rw.cells bef) 1 (↑(List.map Rw.cells bef).length:Int) 2),sb h2,sd [(3,[sc (zev x (by first|assumption|omega|(simp;done)|(simp;omega)))]),(5,[sqA (List.map Rw.cells del) [[iv x.id,vsl x.vals]] del.length 2 32])]] [2,4,6,7,9,44,45,46] 8 kr (zas (show ([(2,AV.p 0 0),(4,AV.p 2 0),(6,AV.p 3 0),(7,AV.sl (List.drop (Int.toNat 1) (List.take (↑(List.map Rw.cells bef).length:Int).toNat (List.map Rw.cells bef)))),(9,AV.p 7 0),(44,ZW b.rows),(45,iv (↑(List.map Rw.cells b.rows).length:Int)),(46,iv (io:Int))]:TS)=_ by first|rfl|(simp [Rw.cells];rw [yAP Zs];done)|(simp [Rw.cells];exact ⟨rfl,rfl⟩)) (show ([Blk.box [sv a.sch.name,ZC a.sch.cols,iv a.next,ZW a.rows],Blk.box [sv b.sch.name,ZC b.sch.cols,iv b.next,ZW b.rows],Blk.box [sv Zs0,AV.nl,AV.nl,AV.nl],Blk.box [sv a.sch.name,AV.own 4 ins.length,AV.own 5 (List.map Rw.cells del++[[iv x.id,vsl x.vals]]).length,AV.own 6 upd.length],Blk.row Ty.Row (List.map Rw.cells ins) false,Blk.row Ty.Row (List.map Rw.cells del++[[iv x.id,vsl x.vals]]) false,Blk.row Ty.Pair (List.map Pr.cells upd) false,Blk.box [iv r.id,vsl r.vals]]:Heap)=_ by first|rfl|(simp [Rw.cells];rw [yAP Zs];done)|(simp [Rw.cells];exact ⟨rfl,rfl⟩)) hg)
structure DbJ (r:Rw) (bef del bef' del':List Rw):Prop where
 ex:∃ s,bef=s++bef'/\del'=del++s/\∀ x∈s,x.id < r.id
theorem zhP (a b:Tb) (r:Rw) (io:Nat) (ins:List Rw) (upd:List Pr) (bef del:List Rw) (hl:del.length+bef.length<=1000) (hv:∀ x∈bef,zac x.vals):∃ (bef' del':List Rw),(DbJ r bef del bef' del')/\(∀ y,AtI bef' 0 y->decide (y.id < r.id)=false)/\∀ R,Good E0 B.Ap [] (zgE a b r io ins upd bef' del') R->Good E0 B.Ap [] (zgE a b r io ins upd bef del) R:=by
 induction bef generalizing del with
 | nil=>exact ⟨[],del,⟨[],rfl,by simp,by simp⟩,fun y hy=>by have:=hy.2;simp at this,fun R h=>h⟩
 | cons x t ih =>
  cases h2:decide (x.id < r.id)
  ·exact ⟨x::t,del,⟨[],rfl,by simp,by simp⟩,fun y hy=>by have:=hy.2;simp at this;subst this;exact h2,fun R h=>h⟩
  ·obtain ⟨bef',del',⟨s,e1,e2,e3⟩,hf,hg2⟩:=ih (del++[x]) (by simp at *;omega) (fun y hy=>hv y (by simp [hy]))
   refine ⟨bef',del',⟨x::s,by rw [e1];rfl,by rw [e2];simp,fun y hy=>?_⟩,hf,fun R hR=>?_⟩
   ·rcases yO.1 hy with rfl|hy
    ·simpa using h2
    ·exact e3 y hy
   have hg:=hg2 R hR
   have h1:decide (x.id<=r.id)=true:=by simp at h2 ⊢;omega
   have h0:decide ((0:Int) < ((((x::t).map Rw.cells).length:Nat):Int))=true:=by first|(simp;done)|(simp;omega)
   have hsx:zac x.vals:=hv x Zs
   have hdl:del.length<=1000:=by simp at hl;omega
   exact zzi a b r io ins upd x (x::t) del rfl h0 h2 (by rw [h0,h1];rfl) hsx hdl R hg
end Go.AM
