/-
  Contracts of the program's functions, part 6.
-/
import Derived.Test.YtoclpkdefddfbaaGreatDoorCkF
import Derived.Carry
import Derived.ChangeSame
import Derived.Lib.LaidU8
import Derived.FnData
set_option linter.unusedSimpArgs false
set_option linter.unusedVariables false
namespace Go.AM
set_option maxRecDepth 100000
set_option maxHeartbeats 1000000
set_option linter.unusedSimpArgs false
set_option linter.unusedVariables false
def get6 (n:Int):List Rw→List V × Bool
 | []=>([],false)
 | r::l=>bif r.id==n then (r.vals,true) else get6 n l
noncomputable def L_ge (t:Tb) (n:Int) (i:Nat) :Cfg:=zar B.ref6_Get 0 [(1,iv n),(9,.sl (t.rows.map Rw.cells)),(10,iv ((t.rows.map Rw.cells).length:Nat)),(11,iv (i:Nat))] [.box t.cells]
theorem zjk (t:Tb) (n:Int) (hl:zad t.rows) (hv:∀ r∈t.rows,zad r.vals) (i:Nat)  (hi:i≤(t.rows).length) (hI:get6 n t.rows=get6 n (t.rows.drop i)):((get6 n t.rows=get6 n (t.rows.drop (t.rows).length))∧(decide ((((t.rows).length:Nat):Int) < (((t.rows.map Rw.cells).length:Nat):Int))=false)∧∀ R,Good E0 B.ref6_Get [] (L_ge t n (t.rows).length ) R→Good E0 B.ref6_Get [] (L_ge t n i ) R)∨(∃ (v:List V) (r:Bool),(v,r)=get6 n t.rows∧Good E0 B.ref6_Get [] (L_ge t n i ) (Shut 0 fun rZ hZ=>rZ=(.tup [vsl v,bv r])∧hZ=[])):=by
 obtain ⟨kk,hk⟩:∃ kk,i+kk=(t.rows).length:=⟨(t.rows).length - i,by omega⟩
 induction kk generalizing i  with
 | zero =>
  have e0:i=(t.rows).length:=by omega
  subst e0
  exact .inl ⟨hI,by simp,fun R hg=>hg⟩
 | succ kk ih =>
  obtain ⟨x,hx⟩:=zay (l:=t.rows) (i:=i) (by omega)
  have h0:decide (((i:Nat):Int) < (((t.rows.map Rw.cells).length:Nat):Int))=true:=by simp;omega
  have hw:IntKind.i64.wrap (((i:Nat):Int)+1)=((i+1:Nat):Int):=zao i (by first|omega|(simp only [zad,Few] at *;omega))
  have hvx:=hv x (List.mem_of_getElem? hx)
  let p_1:List St:=[sb h0,se (zah Rw.cells hx rfl)]
  cases h1:x.id==n
  ·exact (ih (i+1) (by omega) (by (rw [hI,zaN hx];simp only [get6, *,cond_false])) (by omega)).elim (fun ⟨qZ,xZ,gZ⟩=>.inl ⟨qZ,xZ,fun R hg=>zaa (wkl (p_1++[sb h1,si hw]) [1,9,10,11] 1 kr (gZ R hg))⟩) (fun ⟨vY,rY,pZ,gZ⟩=>.inr ⟨vY,rY,pZ,zaa (wkl [sb h0,se (zah Rw.cells hx rfl),sb h1,si hw] [1,9,10,11] 1 kr gZ)⟩)
  ·exact .inr ⟨zbX x.vals,true,(by (rw [hI,zaN hx];simp only [get6, *,cond_true];try rfl)),zaa (wkr (p_1++[sb h1,sc (zdR x.vals (by first|assumption|omega|(simp;done)|(simp;omega)))]) kr)⟩
theorem zsW (t:Tb) (n:Int) (hl:zad t.rows) (hv:∀ r∈t.rows,zad r.vals):∃ (v:List V) (r:Bool),(v,r)=get6 n t.rows∧zac E0 S.ref6_Get [t.av,iv n] [] (.tup [vsl v,bv r]) []:=by
 rcases zjk t n (by first|assumption|rfl|omega) (by first|assumption|rfl|omega) 0 (by first|assumption|rfl|omega) (by first|assumption|rfl|omega) with ⟨q1,q1_1,g1⟩|⟨r1_0,r1_1,p1_0,g1⟩
 ·exact ⟨[],false,(by first|assumption|(rw [‹get6 _ _=get6 _ _›,List.drop_length];rfl)),wkc At.ref6_Get [] [1,9,10,11] 1 kr (g1 _ (zaa (wkr [sb q1_1] kr)))⟩
 ·exact ⟨r1_0,r1_1,(by first|assumption|(rw [‹get6 _ _=get6 _ _›,List.drop_length];rfl)),wkc At.ref6_Get [] [1,9,10,11] 1 kr (g1)⟩
theorem ziU (t:Tb) (n:Int) (hl:zad t.rows) (hv:∀ r∈t.rows,zad r.vals):zac E0 S.ref6_Get [t.av,iv n] [] (.tup [vsl (get6 n t.rows).1,bv (get6 n t.rows).2]) []:=by
 obtain ⟨v,r,h,h2⟩:=zsW t n hl hv
 rw [← h];exact h2
noncomputable def L_cp6 (t:Tb) (i:Nat) (rs:List Rw):Cfg:=zar B.ref6_Copy 0 [(1,.p 0 0),(2,.p 1 0),(3,.own 3 rs.length),(13,.sl (t.rows.map Rw.cells)),(14,iv ((t.rows.map Rw.cells).length:Nat)),(15,iv (i:Nat))] [.box [sv t.sch.name,.own 2 (t.sch.cols.map Col.cells).length,iv t.next,.sl (t.rows.map Rw.cells)],.box [sv ⟨#[]⟩,.nl,iv 0,.nl],.row Ty.Column (t.sch.cols.map Col.cells) false,.row Ty.Row (rs.map Rw.cells) false]
theorem zh8 (t:Tb) (hl:zad t.rows) (hv:∀ r∈t.rows,zad r.vals) (i:Nat) (rs:List Rw) (hi:i≤(t.rows).length) (hI:rs=t.rows.take i):∃ (rs':List Rw),(rs'=t.rows.take (t.rows).length)∧(decide ((((t.rows).length:Nat):Int) < (((t.rows.map Rw.cells).length:Nat):Int))=false)∧∀ R,Good E0 B.ref6_Copy [] (L_cp6 t (t.rows).length rs') R→Good E0 B.ref6_Copy [] (L_cp6 t i rs) R:=by
 obtain ⟨kk,hk⟩:∃ kk,i+kk=(t.rows).length:=⟨(t.rows).length - i,by omega⟩
 induction kk generalizing i rs with
 | zero =>
  have e0:i=(t.rows).length:=by omega
  subst e0
  exact ⟨rs,hI,by simp,fun R hg=>hg⟩
 | succ kk ih =>
  obtain ⟨x,hx⟩:=zay (l:=t.rows) (i:=i) (by omega)
  have h0:decide (((i:Nat):Int) < (((t.rows.map Rw.cells).length:Nat):Int))=true:=by simp;omega
  have hw:IntKind.i64.wrap (((i:Nat):Int)+1)=((i+1:Nat):Int):=zao i (by first|omega|(simp only [zad,Few] at *;omega))
  have hvx:=hv x (List.mem_of_getElem? hx);have hol:rs.length≤1000000000:=(by rw [hI,List.length_take];simp only [zad] at hl;omega)
  obtain ⟨rsZ,qZ,xZ,gZ⟩:=ih (i+1) (rs++[x]) (by omega) (by (rw [List.take_add_one,hx,← hI];rfl)) (by omega);exact ⟨rsZ,qZ,xZ,fun R hg=>zaa (wkl [sb h0,se (zah Rw.cells hx rfl),sd [(5,[sc (zdR x.vals (by first|assumption|omega|(simp;done)|(simp;omega)))]),(8,[sqx (AllLen [[iv x.id,AV.sl (List.map V.cells (zbX x.vals))]] 2∧rs.length=(List.map Rw.cells rs).length∧(((List.map Rw.cells rs).length+[[iv x.id,AV.sl (List.map V.cells (zbX x.vals))]].length) * 32).le 140737488355328)])],si hw] [1,2,3,13,14,15] 4 kr (zat (show ([(1,AV.p 0 0),(2,AV.p 1 0),(3,AV.own 3 (List.map Rw.cells rs++[[iv x.id,AV.sl (List.map V.cells (zbX x.vals))]]).length),(13,AV.sl (List.map Rw.cells t.rows)),(14,iv (↑(List.map Rw.cells t.rows).length:Int)),(15,iv (↑(i+1):Int))]:TS)=_ by first|rfl|(simp [Rw.cells,zbX];done)) (show ([Blk.box [sv t.sch.name,AV.own 2 (List.map Col.cells t.sch.cols).length,iv t.next,AV.sl (List.map Rw.cells t.rows)],Blk.box [sv (ByteArray.mk #[]),AV.nl,iv 0,AV.nl],Blk.row Ty.Column (List.map Col.cells t.sch.cols) false,Blk.row Ty.Row (List.map Rw.cells rs++[[iv x.id,AV.sl (List.map V.cells (zbX x.vals))]]) false]:Heap)=_ by first|rfl|(simp [Rw.cells,zbX];done)) (gZ R hg)))⟩
theorem zqr (t:Tb) (hl:zad t.rows) (hc:zad t.sch.cols) (hv:∀ r∈t.rows,zad r.vals):∃ (r:Tb),r=t∧zac E0 S.ref6_Copy [t.av] [] r.av []:=by
 obtain ⟨rs1,q1,q1_1,g1⟩:=zh8 t (by first|assumption|rfl|omega) (by first|assumption|rfl|omega) 0 ([]) (by first|assumption|rfl|omega) (by first|assumption|rfl|omega)
 exact ⟨Tb.mk t.sch t.next rs1,(by (rw [List.take_length] at *;subst_vars;rfl)),wkcN At.ref6_Copy [sqx (AllLen (List.map Col.cells t.sch.cols) 4∧((List.map Col.cells t.sch.cols).length * 32).le 140737488355328)] [1,2,3,13,14,15] 3 [(.ot 3 Ty.Row,4)] kr (g1 _ (zaa (wkr [sqx (True∧(List.map Col.cells t.sch.cols).length=(List.map Col.cells t.sch.cols).length∧True∧rs1.length=(List.map Rw.cells rs1).length∧True),sb q1_1] kr)))⟩
theorem zql (t:Tb) (hl:zad t.rows) (hc:zad t.sch.cols) (hv:∀ r∈t.rows,zad r.vals):zac E0 S.ref6_Copy [t.av] [] t.av []:=by
 obtain ⟨r,rfl,h⟩:=zqr t hl hc hv
 exact h
end Go.AM
namespace Go.AM
set_option maxRecDepth 100000
set_option maxHeartbeats 1000000
set_option linter.unusedSimpArgs false
set_option linter.unusedVariables false
structure TabV (t:Tb):Prop where
 sch:SchV t.sch
 len:decide ((100:Int) < ((t.rows.map Rw.cells).length:Int))=false
 rows:RowsV t.sch t.next t.rows
 max:decide ((2147483648:Int) < t.next)=false
 key:idxF (fun c=>c.key) t.sch.cols 0=keyC t.sch
theorem TabV.shr {t:Tb} (h:TabV t):zad t.rows:=by have:=h.len;simp only [List.length_map,decide_eq_false_iff_not] at this;simp only [zad];omega
theorem TabV.vals {t:Tb} (h:TabV t):∀ r∈t.rows,zad r.vals:=fun r hr=>by
 have h1:=(h.rows.fit r hr).len
 have h2:=h.sch.short
 have h3:r.vals.length=t.sch.cols.length:=h1
 simp only [zad] at *;omega
theorem zvg {c:Col} {v:V} (h:ValOk c v) (hc:zfs c):fit4 c v=0:=by
 unfold fit4
 cases h0:v.kind==0
 ·have hk:v.kind=c.type:=h.kind.resolve_left (by simpa using h0)
  simp [hk]
 ·have h1:v.kind=0:=by simpa using h0
  cases hn:c.notNull
  ·rfl
  ·have:=h.nn hn;simp only [zfs] at hc;omega
theorem zrr:∀ (cs:List Col) (vs:List V),(∀ c∈cs,zfs c)→(∀ (k:Nat) (c:Col) (v:V),cs[k]?=some c→vs[k]?=some v→ValOk c v)→fitL cs vs=0
 | [],_,_,_=>by unfold fitL;rfl
 | _::_,[],_,_=>rfl
 | c::cs,v::vs,hc,h=>by
  have h0:=zvg (h 0 c v rfl rfl) (hc c (by simp))
  simp only [fitL,h0,bne_self_eq_false,cond_false]
  exact zrr cs vs (fun c h=>hc c (by simp [h])) fun k c v h1 h2=>h (k+1) c v (by simpa using h1) (by simpa using h2)
theorem SchV.cok {s:Sch} (h:SchV s):∀ c∈s.cols,zfs c:=fun c hc=>by
 obtain ⟨i,hi⟩:=List.getElem?_of_mem hc
 have h1:=(h.cols i c hi).lo
 have h2:=(h.cols i c hi).hi
 simp only [decide_eq_false_iff_not] at h1 h2
 simp only [zfs];omega
theorem zvm {s:Sch} {vs:List V} (hs:SchV s) (h:zcU s.cols vs):fit5 s vs=0:=by
 unfold fit5
 rw [show (vs.length != s.cols.length)=false by have:=h.len;simpa using this]
 exact zrr _ _ hs.cok h.at_
theorem zuG {cols:List Col} {vals:List V} (h:zcU cols vals):∀ v∈vals,v.Good:=PrefOk.good h
structure RowF (t:Tb) (x:Rw):Prop where
 lo:decide (x.id < 1)=false
 hi:decide (t.next≤x.id)=false
 fit:zac E0 S.ref5_Fits [t.sch.av,vsl x.vals] [] (iv 0) []
theorem TabV.rowF {t:Tb} (h:TabV t) {x:Rw} (hx:x∈t.rows):RowF t x:=by
 have h1:=h.rows.ids x hx
 refine ⟨by simp;omega,by simp;omega,?_⟩
 have h2:=zdV t.sch x.vals h.sch.short (zuG (h.rows.fit x hx))
 rwa [zvm h.sch (h.rows.fit x hx)] at h2
theorem zpE {α:Type} {f:α→Int} {l:List α} (h:l.Pairwise fun a b=>f a < f b) {i:Nat} {x y:α} (hx:l[i]?=some x) (h1:1≤i) (hl:i≤1000000000) (hy:AtI l (IntKind.i64.wrap (((i:Nat):Int) - 1)) y):decide (f x≤f y)=false:=by
 have e:IntKind.i64.wrap (((i:Nat):Int) - 1)=((i - 1:Nat):Int):=by rw [IntKind.wrap_i64];omega
 rw [e] at hy
 have h2:l[i - 1]?=some y:=by simpa using hy.2
 obtain ⟨a1,a2⟩:=List.getElem?_eq_some_iff.1 hx
 obtain ⟨b1,b2⟩:=List.getElem?_eq_some_iff.1 h2
 have:=List.pairwise_iff_getElem.1 h (i - 1) i b1 a1 (by omega)
 rw [a2,b2] at this
 rw [decide_eq_false_iff_not];omega
theorem zo5 {α:Type} {l:List α} {i:Nat} {x:α} (hx:l[i]?=some x) (h1:1≤i) (hl:i≤1000000000):0≤IntKind.i64.wrap (((i:Nat):Int) - 1)∧IntKind.i64.wrap (((i:Nat):Int) - 1) < ((l.length:Nat):Int):=by
 have:=(List.getElem?_eq_some_iff.1 hx).1
 rw [IntKind.wrap_i64];omega
noncomputable def L_v6 (t:Tb) (i:Nat) :Cfg:=zar B.ref6_Valid 0 [(1,.p 0 0),(26,.sl (t.rows.map Rw.cells)),(27,iv ((t.rows.map Rw.cells).length:Nat)),(28,iv (i:Nat))] [.box t.cells]
theorem zhO (t:Tb) (ht:TabV t) (hs:zad t.sch.cols) (hr:zad t.rows) (i:Nat)  (hi:i≤(t.rows).length) (hI:1≤i):(1≤(t.rows).length)∧(decide ((((t.rows).length:Nat):Int) < (((t.rows.map Rw.cells).length:Nat):Int))=false)∧∀ R,Good E0 B.ref6_Valid [] (L_v6 t (t.rows).length ) R→Good E0 B.ref6_Valid [] (L_v6 t i ) R:=by
 obtain ⟨kk,hk⟩:∃ kk,i+kk=(t.rows).length:=⟨(t.rows).length - i,by omega⟩
 induction kk generalizing i  with
 | zero =>
  have e0:i=(t.rows).length:=by omega
  subst e0
  exact ⟨hI,by simp,fun R hg=>hg⟩
 | succ kk ih =>
  obtain ⟨x,hx⟩:=zay (l:=t.rows) (i:=i) (by omega)
  have h0:decide (((i:Nat):Int) < (((t.rows.map Rw.cells).length:Nat):Int))=true:=by simp;omega
  have hw:IntKind.i64.wrap (((i:Nat):Int)+1)=((i+1:Nat):Int):=zao i (by first|omega|(simp only [zad,Few] at *;omega))
  obtain ⟨a1,a2,a3⟩:=ht.rowF (List.mem_of_getElem? hx);have a5:decide ((0:Int) < ((i:Nat):Int))=true:=(by simp;omega);have hil:=zcj hx
  have a6:(bif decide (x.id < 1) then true else decide (t.next≤x.id))=false:=(by rw [a1,a2];rfl)
  have a4:∀ y,AtI t.rows (IntKind.i64.wrap (((i:Nat):Int) - 1)) y→(bif (bif decide (x.id < 1) then true else decide (t.next≤x.id)) then true else bif decide ((0:Int) < ((i:Nat):Int)) then decide (x.id≤y.id) else false)=false:=fun y hy=>(by rw [a6,a5,zpE ht.rows.asc hx hI (by simp only [zad] at hr;omega) hy];rfl)
  have a7:∀ y,AtI t.rows (IntKind.i64.wrap (((i:Nat):Int) - 1)) y→(bif (bif (bif decide (x.id < 1) then true else decide (t.next≤x.id)) then true else bif decide ((0:Int) < ((i:Nat):Int)) then decide (x.id≤y.id) else false) then true else ((0:Int) != 0))=false:=fun y hy=>(by rw [a4 y hy];rfl)
  obtain ⟨x1,e1⟩:=zit (l:=t.rows) (i:=IntKind.i64.wrap ((i:Int) - (1:Int))) (by exact zo5 hx hI (by simp only [zad] at hr;omega))
  obtain ⟨qZ,xZ,gZ⟩:=ih (i+1) (by omega) (by omega) (by omega);exact ⟨qZ,xZ,fun R hg=>zaa (wkl [sb h0,se (zah Rw.cells hx rfl),sd [(4,[sg a1]),(5,[sg a1]),(6,[sg a1]),(7,[sg a1]),(8,[sg a1]),(11,[sg a6]),(12,[sg a6]),(13,[sg a6]),(14,[sg a5]),(15,[sg a5]),(16,[sg a5]),(17,[so a5 (si (e:=IntKind.i64.wrap ((i:Int) - 1)) rfl)]),(18,[so a5 (se (zcF Rw.cells e1 rfl))]),(19,[sg a5]),(20,[sg a5]),(21,[sg a5]),(22,[sg a5]),(23,[sg a5]),(24,[sg a6]),(27,[sg (a4 x1 e1)]),(28,[sg (a4 x1 e1)]),(29,[sg (a4 x1 e1)]),(30,[sg (a4 x1 e1)]),(31,[so (a4 x1 e1) (sc a3)]),(32,[sg (a4 x1 e1)])],sb (a7 x1 e1),si hw] [1,26,27,28] 1 kr (gZ R hg))⟩
theorem zhB (t:Tb) (ht:TabV t) (hs:zad t.sch.cols) (hr:zad t.rows):decide (((t.rows.length:Nat):Int) < (((t.rows.map Rw.cells).length:Nat):Int))=false∧∀ R,Good E0 B.ref6_Valid [] (L_v6 t t.rows.length) R→Good E0 B.ref6_Valid [] (L_v6 t 0) R:=by
 cases hrw:t.rows with
 | nil=>exact ⟨by simp,fun R h=>h⟩
 | cons x r =>
  have hx:t.rows[0]?=some x:=by rw [hrw];rfl
  obtain ⟨_,h1,h2⟩:=zhO t ht hs hr 1 (by rw [hrw];simp) (Nat.le_refl 1)
  rw [← hrw]
  refine ⟨h1,fun R h=>?_⟩
  have hg:=h2 R h
  have h0:decide (((0:Nat):Int) < (((t.rows.map Rw.cells).length:Nat):Int))=true:=by rw [hrw];simp
  obtain ⟨a1,a2,a3⟩:=ht.rowF (List.mem_of_getElem? hx)
  have a6:(bif decide (x.id < 1) then true else decide (t.next≤x.id))=false:=(by rw [a1,a2];rfl)
  have a7:(bif (bif decide (x.id < 1) then true else decide (t.next≤x.id)) then true else false)=false:=(by rw [a6];rfl)
  have a8:(bif (bif (bif decide (x.id < 1) then true else decide (t.next≤x.id)) then true else false) then true else ((0:Int) != 0))=false:=(by rw [a7];rfl)
  refine zaa ?_
  exact wkl [sb h0,se (zah Rw.cells hx rfl),sd [(4,[sg a1]),(5,[sg a1]),(6,[sg a1]),(7,[sg a1]),(8,[sg a1]),(11,[sg a6]),(12,[sg a6]),(13,[sg a6]),(14,[sb (rfl:false=false)]),(15,[sb (rfl:false=false)]),(16,[sb (rfl:false=false)]),(17,[sb (rfl:false=false)]),(18,[sb (rfl:false=false)]),(19,[sb (rfl:false=false)]),(20,[sb (rfl:false=false)]),(21,[sb (rfl:false=false)]),(22,[sb (rfl:false=false)]),(23,[sb (rfl:false=false)]),(24,[so a6 (sb (rfl:false=false))]),(27,[sg a7]),(28,[sg a7]),(29,[sg a7]),(30,[sg a7]),(31,[so a7 (sc a3)]),(32,[sg a7])],sb a8,si (zcm (t:=(↑0:Int)+1) (n:=0+1) (by omega) (by omega))] [1,26,27,28] 1 kr (hg)
theorem znP (t:Tb) (ht:TabV t) (hs:zad t.sch.cols) (hr:zad t.rows) (hv:zac E0 S.ref4_Valid [t.sch.av] [] (bv true) []) (h1a:decide ((100:Int) < ((t.rows.map Rw.cells).length:Int))=false) (h2a:decide (t.next < 1)=false) (h3a:decide ((2147483648:Int) < t.next)=false) (hd:zac E0 S.ref6_Duplicate [t.av] [] (bv false) []):∃ (b:Bool),b=true∧zac E0 S.ref6_Valid [t.av] [] (bv b) []:=by
 obtain ⟨q1,g1⟩:=zhB t (by first|assumption|omega|(simp;done)|(simp;omega)) (by first|assumption|omega|(simp;done)|(simp;omega)) (by first|assumption|omega|(simp;done)|(simp;omega))
 exact ⟨!false,(by rfl),wkc At.ref6_Valid [sc hv,sg (rfl:false=false),sg h1a,sg h2a,sb h3a] [1,26,27,28] 1 kr (g1 _ (zaa (wkr [sb q1,sc hd] kr)))⟩
theorem zlV {kc:Int}:∀ (l:List Rw),(0≤kc→l.Pairwise fun a b=>zaG a.vals kc≠zaG b.vals kc)→(zbE kc l).Nodup
 | [],_=>by simp [zbE]
 | r::l,h=>by
  have ih:=zlV l fun hk=>(List.pairwise_cons.1 (h hk)).2
  unfold zbE at ih ⊢
  rw [List.filterMap_cons]
  cases hr:zdp kc r with
  | none=>exact ih
  | some v =>
   refine List.nodup_cons.2 ⟨fun hm=>?_,ih⟩
   obtain ⟨q,hq,hv⟩:=List.mem_filterMap.1 hm
   unfold zdp at hr hv
   by_cases hk:0≤kc
   ·cases c1:decide (kc < ((r.vals.map V.cells).length:Int)) <;> rw [c1] at hr
    ·simp at hr
    ·cases c2:decide (kc < ((q.vals.map V.cells).length:Int)) <;> rw [c2] at hv
     ·simp at hv
     ·simp only [hk,decide_true,Bool.and_self,cond_true,Option.some.injEq] at hr hv
      exact (List.pairwise_cons.1 (h hk)).1 q hq (hr.trans hv.symm)
   ·simp [hk] at hr
theorem TabV.dup {t:Tb} (h:TabV t):zac E0 S.ref6_Duplicate [t.av] [] (bv false) []:=by
 obtain ⟨b,hb,hc⟩:=zgQ t h.sch.short h.shr
 have h1:b=false:=hb.2 (by rw [h.key];exact zlV _ h.rows.keys)
 rw [h1] at hc;exact hc
theorem zmb (t:Tb) (ht:TabV t):zac E0 S.ref6_Valid [t.av] [] (bv true) []:=by
 have hp:=ht.rows.pos
 obtain ⟨r,rfl,h⟩:=znP t ht ht.sch.short ht.shr (zmK _ ht.sch) ht.len (by simp;omega) ht.max ht.dup
 exact h
end Go.AM
namespace Go.AM
set_option maxRecDepth 100000
set_option maxHeartbeats 1000000
set_option linter.unusedSimpArgs false
set_option linter.unusedVariables false
structure CmpOk {α:Type} (c:α→α→Int):Prop where
 zero:∀ a b,c a b=0↔a=b
 anti:∀ a b,c a b < 0↔0 < c b a
 trans:∀ {a b d},c a b < 0→c b d < 0→c a d < 0
def lexC {α:Type} (c:α→α→Int):List α→List α→Int
 | [],[]=>0
 | [],_::_=>-1
 | _::_,[]=>1
 | a::x,b::y=>if c a b=0 then lexC c x y else c a b
theorem znK {α:Type} {c:α→α→Int} (h:CmpOk c):∀ a b,lexC c a b=0↔a=b
 | [],[]=>by simp [lexC]
 | [],_::_=>by simp [lexC]
 | _::_,[]=>by simp [lexC]
 | a::x,b::y=>by
  have ih:=znK h x y
  have hz:=h.zero a b
  simp only [lexC,List.cons.injEq]
  split
  ·rename_i e;simp [ih,hz.1 e]
  ·rename_i e;exact ⟨fun k=>absurd k e,fun k=>absurd (hz.2 k.1) e⟩
theorem znI {α:Type} {c:α→α→Int} (h:CmpOk c):∀ a b,lexC c a b < 0↔0 < lexC c b a
 | [],[]=>by simp [lexC]
 | [],_::_=>by simp [lexC]
 | _::_,[]=>by simp [lexC]
 | a::x,b::y=>by
  have ih:=znI h x y
  have hz:=h.zero a b
  have hz2:=h.zero b a
  have ha:=h.anti a b
  simp only [lexC]
  by_cases e:a=b
  ·rw [if_pos (hz.2 e),if_pos (hz2.2 e.symm)];exact ih
  ·rw [if_neg (fun k=>e (hz.1 k)),if_neg (fun k=>e (hz2.1 k).symm)];exact ha
theorem zlW {α:Type} {c:α→α→Int} (h:CmpOk c):∀ {a b d},lexC c a b < 0→lexC c b d < 0→lexC c a d < 0
 | x,y,[],_,h2=>by cases y <;> simp [lexC] at h2
 | x,[],e::z,h1,_=>by cases x <;> simp [lexC] at h1
 | [],b::y,e::z,_,_=>by simp [lexC]
 | a::x,b::y,e::z,h1,h2=>by
  simp only [lexC] at h1 h2 ⊢
  by_cases e1:a=b
  ·subst e1
   rw [if_pos ((h.zero a a).2 rfl)] at h1
   by_cases e2:a=e
   ·subst e2
    rw [if_pos ((h.zero a a).2 rfl)] at h2 ⊢
    exact zlW h h1 h2
   ·rw [if_neg (fun k=>e2 ((h.zero _ _).1 k))] at h2 ⊢
    exact h2
  ·rw [if_neg (fun k=>e1 ((h.zero _ _).1 k))] at h1
   by_cases e2:b=e
   ·subst e2
    rw [if_neg (fun k=>e1 ((h.zero _ _).1 k))]
    exact h1
   ·rw [if_neg (fun k=>e2 ((h.zero _ _).1 k))] at h2
    have h3:=h.trans h1 h2
    rw [if_neg (by omega)]
    exact h3
theorem CmpOk.lex {α:Type} {c:α→α→Int} (h:CmpOk c):CmpOk (lexC c):=⟨znK h,znI h,zlW h⟩
def zod (a b:UInt8):Int:=if a < b then -1 else if b < a then 1 else 0
theorem zuM:CmpOk zod:=by
 refine ⟨fun a b=>?_,fun a b=>?_,fun {a b d} h1 h2=>?_⟩
 all_goals simp only [zod,UInt8.lt_iff_toNat_lt,← UInt8.toNat_inj] at *
 all_goals repeat' split
 all_goals (try omega)
 all_goals (repeat' split at h1)
 all_goals (try omega)
 all_goals (repeat' split at h2)
 all_goals omega
theorem zda:∀ a b,Lib.compareBytes a b=lexC zod a b
 | [],[]=>rfl
 | [],_::_=>rfl
 | _::_,[]=>rfl
 | a::x,b::y=>by
  have ih:=zda x y
  simp only [Lib.compareBytes,lexC,zod,ih]
  by_cases h1:a < b
  ·simp [h1]
  ·by_cases h2:b < a
   ·simp [h1,h2]
   ·simp [h1,h2]
theorem zvU:CmpOk cmpI:=by
 refine ⟨fun a b=>?_,fun a b=>?_,fun {a b d} h1 h2=>?_⟩
 all_goals simp only [cmpI] at *
 all_goals repeat' split
 all_goals (try omega)
 all_goals (repeat' split at h1)
 all_goals (try omega)
 all_goals (repeat' split at h2)
 all_goals omega
theorem zvD:CmpOk cmpB:=by
 have h:=zuM.lex
 refine ⟨fun a b=>?_,fun a b=>?_,fun {a b d} h1 h2=>?_⟩
 ·simp only [cmpB,zda,h.zero]
  constructor
  ·intro e;cases a;cases b;simp at e;rw [e]
  ·intro e;rw [e]
 ·simp only [cmpB,zda];exact h.anti _ _
 ·simp only [cmpB,zda] at *;exact h.trans h1 h2
theorem zkQ (a b:V):rCmp a b=if cmpI a.kind b.kind=0 then (if cmpI a.int b.int=0 then cmpB a.text b.text else cmpI a.int b.int) else cmpI a.kind b.kind:=by
 unfold rCmp zsG zss
 rcases Int.lt_trichotomy a.kind b.kind with h1|h1|h1
 ·have e:(a.kind != b.kind)=true:=by simp;omega
  rw [zks h1];simp [h1,e]
 ·rw [zkI h1]
  rcases Int.lt_trichotomy a.int b.int with h2|h2|h2
  ·have e:(a.int != b.int)=true:=by simp;omega
   rw [zks h2];simp [h1,h2,e]
  ·rw [zkI h2];simp [h1,h2]
  ·have e:(a.int != b.int)=true:=by simp;omega
   have e2:¬ a.int < b.int:=by omega
   rw [zkt h2];simp [h1,e,e2]
 ·have e:(a.kind != b.kind)=true:=by simp;omega
  have e2:¬ a.kind < b.kind:=by omega
  rw [zkt h1];simp [e,e2]
theorem zvP:CmpOk rCmp:=by
 have hi:=zvU
 have hb:=zvD
 refine ⟨fun a b=>?_,fun a b=>?_,fun {a b d} h1 h2=>?_⟩
 ·rw [zkQ]
  have z1:=hi.zero a.kind b.kind
  have z2:=hi.zero a.int b.int
  have z3:=hb.zero a.text b.text
  constructor
  ·intro h
   split at h
   ·split at h
    ·cases a;cases b;simp_all
    ·omega
   ·omega
  ·rintro rfl
   simp [(hi.zero _ _).2 rfl,(hb.zero _ _).2 rfl]
 ·rw [zkQ,zkQ]
  have z1:=hi.zero a.kind b.kind
  have z1':=hi.zero b.kind a.kind
  have z2:=hi.zero a.int b.int
  have z2':=hi.zero b.int a.int
  by_cases e1:a.kind=b.kind
  ·rw [if_pos (z1.2 e1),if_pos (z1'.2 e1.symm)]
   by_cases e2:a.int=b.int
   ·rw [if_pos (z2.2 e2),if_pos (z2'.2 e2.symm)];exact hb.anti _ _
   ·rw [if_neg (fun k=>e2 (z2.1 k)),if_neg (fun k=>e2 (z2'.1 k).symm)];exact hi.anti _ _
  ·rw [if_neg (fun k=>e1 (z1.1 k)),if_neg (fun k=>e1 (z1'.1 k).symm)];exact hi.anti _ _
 ·have key:∀ x y:V,rCmp x y < 0↔x.kind < y.kind∨(x.kind=y.kind∧(x.int < y.int∨(x.int=y.int∧cmpB x.text y.text < 0))):=by
   intro x y
   rw [zkQ]
   rcases Int.lt_trichotomy x.kind y.kind with h1|h1|h1
   ·rw [zks h1];simp [h1]
   ·rw [zkI h1]
    rcases Int.lt_trichotomy x.int y.int with h2|h2|h2
    ·rw [zks h2];simp [h1,h2]
    ·rw [zkI h2];simp [h1,h2]
    ·have e:¬ x.int < y.int:=by omega
     have e2:x.int≠y.int:=by omega
     rw [zkt h2];simp [h1,e,e2]
   ·have e:¬ x.kind < y.kind:=by omega
    have e2:x.kind≠y.kind:=by omega
    rw [zkt h1];simp [e,e2]
  rw [key] at h1 h2 ⊢
  rcases h1 with h1|⟨e1,h1|⟨f1,h1⟩⟩ <;> rcases h2 with h2|⟨e2,h2|⟨f2,h2⟩⟩
  all_goals first|(left;omega)|(right;refine ⟨by omega,?_⟩;first|(left;omega)|(right;exact ⟨by omega,hb.trans h1 h2⟩))
theorem znz (a b:List V):∀ (l:List V) (i:Nat),i≤b.length→a.length=i+l.length→zfF a b l i=lexC rCmp l (b.drop i)
 | [],i,hi,ha=>by
  simp only [zfF,List.length_map]
  simp at ha
  by_cases h:i=b.length
  ·have e1:b.drop i=[]:=List.drop_of_length_le (by omega)
   have e2:¬ ((a.length:Nat):Int) < (b.length:Nat):=by omega
   have e3:¬ ((b.length:Nat):Int) < (a.length:Nat):=by omega
   rw [e1];simp only [lexC,e2,e3,decide_false,cond_false]
  ·have e2:((a.length:Nat):Int) < (b.length:Nat):=by omega
   cases hd:b.drop i with
   | nil=>have:=congrArg List.length hd;simp at this;omega
   | cons y s=>simp only [lexC,e2,decide_true,cond_true]
 | x::r,i,hi,ha=>by
  simp only [zfF,List.length_map]
  by_cases h:i < b.length
  ·have e2:((i:Nat):Int) < (b.length:Nat):=by omega
   have hv:zaG b ((i:Nat):Int)=b[i]:=by simp [zaG,h]
   rw [List.drop_eq_getElem_cons h]
   have ih:=znz a b r (i+1) (by omega) (by simp at ha;omega)
   simp only [e2,decide_true,cond_true,hv,ih,lexC]
   by_cases hz:rCmp x b[i]=0
   ·simp [hz]
   ·have hb:(rCmp x b[i] != 0)=true:=by simpa using hz
    simp [hz,hb]
  ·have e2:¬ ((i:Nat):Int) < (b.length:Nat):=by omega
   have e1:b.drop i=[]:=List.drop_of_length_le (by omega)
   have f1:¬ ((a.length:Nat):Int) < (b.length:Nat):=by simp at ha;omega
   have f2:((b.length:Nat):Int) < (a.length:Nat):=by simp at ha;omega
   rw [e1]
   simp only [e2,f1,f2,decide_false,decide_true,cond_false,cond_true,lexC]
theorem zut (a b:List V):zfn a b=lexC rCmp a b:=znz a b a 0 (by omega) (by omega)
theorem zlJ:CmpOk zfn:=by
 have:zfn=lexC rCmp:=funext fun a=>funext fun b=>zut a b
 rw [this];exact zvP.lex
/- ### sorting -/
abbrev LeR (x y:List V):Prop:=¬ 0 < zfn x y
theorem zvZ (x y:List V):LeR x y↔zfn x y < 0∨x=y:=by
 have h:=zlJ.zero x y
 unfold LeR
 constructor
 ·intro h1
  by_cases h2:zfn x y=0
  ·exact .inr (h.1 h2)
  ·exact .inl (by omega)
 ·rintro (h1|h1)
  ·omega
  ·rw [h.2 h1];omega
theorem LeR.trans {x y z:List V} (h1:LeR x y) (h2:LeR y z):LeR x z:=by
 rw [zvZ] at *
 rcases h1 with h1|rfl
 ·rcases h2 with h2|rfl
  ·exact .inl (zlJ.trans h1 h2)
  ·exact .inl h1
 ·exact h2
end Go.AM
namespace Go.AM
set_option maxRecDepth 100000
set_option maxHeartbeats 4000000
set_option linter.unusedSimpArgs false
set_option linter.unusedVariables false
structure ChV (t:Tb) (c:Ch):Prop where
 del:c.del.Pairwise fun a b=>a < b
 delIn:∀ d∈c.del,(get6 d t.rows).2=true
 upd:c.upd.Pairwise fun a b=>a.id < b.id
 updIn:∀ p∈c.upd,get6 p.id t.rows=(p.old,true)∧anyI c.del p.id=false∧p.nw.length=t.sch.cols.length
 ins:∀ r∈c.ins,r.length=t.sch.cols.length
 ld:c.del.length≤100000
 lu:c.upd.length≤100000
 li:c.ins.length≤100000
theorem zpM {l:List Int} (h:l.Pairwise fun a b=>a < b) {i:Nat} {x:Int} (hx:l[i]?=some x):anyI (l.take i) x=false:=by
 cases ha:anyI (l.take i) x
 ·rfl
 ·exfalso
  have hm:=ziQ.1 ha
  obtain ⟨j,hj⟩:=List.getElem?_of_mem hm
  have hj1:j < i:=by
   have:=(List.getElem?_eq_some_iff.1 hj).1;simp at this;omega
  rw [List.getElem?_take_of_lt hj1] at hj
  obtain ⟨a1,a2⟩:=List.getElem?_eq_some_iff.1 hx
  obtain ⟨b1,b2⟩:=List.getElem?_eq_some_iff.1 hj
  have:=List.pairwise_iff_getElem.1 h j i b1 a1 hj1
  rw [a2,b2] at this;omega
noncomputable def L_vd (t:Tb) (c:Ch) (i:Nat) (ks:List Int):Cfg:=zar B.ref7_Valid 0 [(2,.p 0 0),(3,.p 1 0),(5,iv ((t.sch.cols.map Col.cells).length:Nat)),(6,.mp 2),(26,isl c.del),(27,iv ((c.del.map zcb).length:Nat)),(28,iv (i:Nat))] [.box t.cells,.box c.cells,.mp (ks.map itI)]
theorem zh7 (t:Tb) (c:Ch) (hs:zad t.rows) (hvs:∀ r∈t.rows,zad r.vals) (hc:ChV t c) (i:Nat) (ks:List Int) (hi:i≤(c.del).length) (hI:1≤i∧ks=c.del.take i):∃ (ks':List Int),(1≤(c.del).length∧ks'=c.del.take (c.del).length)∧(decide ((((c.del).length:Nat):Int) < (((c.del.map zcb).length:Nat):Int))=false)∧∀ R,Good E0 B.ref7_Valid [] (L_vd t c (c.del).length ks') R→Good E0 B.ref7_Valid [] (L_vd t c i ks) R:=by
 obtain ⟨kk,hk⟩:∃ kk,i+kk=(c.del).length:=⟨(c.del).length - i,by omega⟩
 induction kk generalizing i ks with
 | zero =>
  have e0:i=(c.del).length:=by omega
  subst e0
  exact ⟨ks,hI,by simp,fun R hg=>hg⟩
 | succ kk ih =>
  obtain ⟨x,hx⟩:=zay (l:=c.del) (i:=i) (by omega)
  have h0:decide (((i:Nat):Int) < (((c.del.map zcb).length:Nat):Int))=true:=by simp;omega
  have hw:IntKind.i64.wrap (((i:Nat):Int)+1)=((i+1:Nat):Int):=zao i (by (have:=hc.ld;omega))
  have a1:(!(get6 x t.rows).2)=false:=(by rw [hc.delIn x (List.mem_of_getElem? hx)];rfl);have a5:decide ((0:Int) < ((i:Nat):Int))=true:=(by simp;omega);have hil:=zcj hx;have hld:=hc.ld
  have a4:∀ y,AtI c.del (IntKind.i64.wrap (((i:Nat):Int) - 1)) y→decide (x≤y)=false:=fun y hy=>zpE (f:=fun z=>z) hc.del hx hI.1 (by omega) hy
  have a8:anyI ks x=false:=(by rw [hI.2];exact zpM hc.del hx)
  obtain ⟨x1,e1⟩:=zit (l:=c.del) (i:=IntKind.i64.wrap ((i:Int) - (1:Int))) (by exact zo5 hx hI.1 (by omega))
  obtain ⟨ksZ,qZ,xZ,gZ⟩:=ih (i+1) (ks++[x]) (by omega) (by exact ⟨by omega,by rw [List.take_add_one,hx,← hI.2];rfl⟩) (by omega);exact ⟨ksZ,qZ,xZ,fun R hg=>zaa (wkl [sb h0,se (zah (fun n=>[iv n]) hx rfl),sc (ziU t x (by first|assumption|omega|(simp;done)|(simp;omega)) (by first|assumption|omega|(simp;done)|(simp;omega))),sg a1,sg a5,si (e:=IntKind.i64.wrap ((i:Int) - 1)) rfl,se (zcF (fun n=>[iv n]) e1 rfl),sb (a4 x1 e1),sx (.call [] .un [.mp (List.map itI (ks++[x]))]) (And.intro (zbk x) (zri ks x (by first|assumption|omega|(simp;done)|(simp;omega)))),si hw] [2,3,5,6,26,27,28] 3 kr (gZ R hg))⟩
theorem zhG (t:Tb) (c:Ch) (hs:zad t.rows) (hvs:∀ r∈t.rows,zad r.vals) (hc:ChV t c):decide (((c.del.length:Nat):Int) < (((c.del.map zcb).length:Nat):Int))=false∧∀ R,Good E0 B.ref7_Valid [] (L_vd t c c.del.length c.del) R→Good E0 B.ref7_Valid [] (L_vd t c 0 []) R:=by
 cases hrw:c.del with
 | nil=>exact ⟨by simp,fun R h=>h⟩
 | cons x r =>
  have hx:c.del[0]?=some x:=by rw [hrw];rfl
  obtain ⟨ks,⟨_,hks⟩,h1,h2⟩:=zh7 t c hs hvs hc 1 [x] (by rw [hrw];simp) ⟨Nat.le_refl 1,by rw [hrw];rfl⟩
  rw [← hrw]
  refine ⟨h1,fun R h=>?_⟩
  rw [List.take_length] at hks
  subst hks
  have hg:=h2 R h
  have h0:decide (((0:Nat):Int) < (((c.del.map zcb).length:Nat):Int))=true:=by rw [hrw];simp
  have a1:(!(get6 x t.rows).2)=false:=(by rw [hc.delIn x (List.mem_of_getElem? hx)];rfl)
  have a8:anyI [] x=false:=rfl
  refine zaa ?_
  exact wkl [sb h0,se (zah (fun n=>[iv n]) hx rfl),sc (ziU t x (by first|assumption|omega|(simp;done)|(simp;omega)) (by first|assumption|omega|(simp;done)|(simp;omega))),sg a1,sb (rfl:false=false),sx (.call [] .un [.mp (List.map itI ([]++[x]))]) (And.intro (zbk x) (zri ([]) x (by first|assumption|omega|(simp;done)|(simp;omega)))),si (zcm (t:=(↑0:Int)+1) (n:=0+1) (by omega) (by omega))] [2,3,5,6,26,27,28] 3 kr (hg)
theorem zsh (a:List V):(zfn a a != 0)=false:=by
 rw [(zlJ.zero a a).2 rfl];rfl
structure UpF (t:Tb) (c:Ch) (x:Pr):Prop where
 get:zac E0 S.ref6_Get [t.av,iv x.id] [] (.tup [vsl x.old,bv true]) []
 cmp:zac E0 S.ref1_CompareRows [vsl x.old,vsl x.old] [] (iv 0) []
 look:LookV (c.del.map itI) (iv x.id) (.bl false) (bv false)
 len:(((x.nw.map V.cells).length:Int) != ((t.sch.cols.map Col.cells).length:Int))=false
theorem ChV.upF {t:Tb} {c:Ch} (hc:ChV t c) (hs:zad t.rows) (hvs:∀ r∈t.rows,zad r.vals) {x:Pr} (hx:x∈c.upd) (hso:zad x.old):UpF t c x:=by
 obtain ⟨b1,b2,b3⟩:=hc.updIn x hx
 refine ⟨?_,?_,?_,by simp [b3]⟩
 ·have h:=ziU t x.id hs hvs;rwa [b1] at h
 ·have h:=zju x.old x.old hso hso
  have e:zfn x.old x.old=0:=by simpa using zsh x.old
  rwa [e] at h
 ·have h:=zuY c.del x.id;rwa [b2] at h
noncomputable def L_vu (t:Tb) (c:Ch) (i:Nat) :Cfg:=zar B.ref7_Valid 1 [(2,.p 0 0),(3,.p 1 0),(5,iv ((t.sch.cols.map Col.cells).length:Nat)),(6,.mp 2),(59,.sl (c.upd.map Pr.cells)),(60,iv ((c.upd.map Pr.cells).length:Nat)),(61,iv (i:Nat))] [.box t.cells,.box c.cells,.mp (c.del.map itI)]
theorem zhT (t:Tb) (c:Ch) (hs:zad t.rows) (hvs:∀ r∈t.rows,zad r.vals) (hc:ChV t c) (hso:∀ p∈c.upd,zad p.old) (i:Nat)  (hi:i≤(c.upd).length) (hI:1≤i):(1≤(c.upd).length)∧(decide ((((c.upd).length:Nat):Int) < (((c.upd.map Pr.cells).length:Nat):Int))=false)∧∀ R,Good E0 B.ref7_Valid [] (L_vu t c (c.upd).length ) R→Good E0 B.ref7_Valid [] (L_vu t c i ) R:=by
 obtain ⟨kk,hk⟩:∃ kk,i+kk=(c.upd).length:=⟨(c.upd).length - i,by omega⟩
 induction kk generalizing i  with
 | zero =>
  have e0:i=(c.upd).length:=by omega
  subst e0
  exact ⟨hI,by simp,fun R hg=>hg⟩
 | succ kk ih =>
  obtain ⟨x,hx⟩:=zay (l:=c.upd) (i:=i) (by omega)
  have h0:decide (((i:Nat):Int) < (((c.upd.map Pr.cells).length:Nat):Int))=true:=by simp;omega
  have hw:IntKind.i64.wrap (((i:Nat):Int)+1)=((i+1:Nat):Int):=zao i (by (have:=hc.lu;omega))
  obtain ⟨f1,f2,f3,a7⟩:=hc.upF hs hvs (List.mem_of_getElem? hx) (hso x (List.mem_of_getElem? hx));have hil:=zcj hx;have hlu:=hc.lu;have a5:decide ((0:Int) < ((i:Nat):Int))=true:=(by simp;omega)
  have a4:∀ y,AtI c.upd (IntKind.i64.wrap (((i:Nat):Int) - 1)) y→decide (x.id≤y.id)=false:=fun y hy=>zpE (f:=fun z=>z.id) hc.upd hx hI (by omega) hy
  have a6:∀ y,AtI c.upd (IntKind.i64.wrap (((i:Nat):Int) - 1)) y→(bif decide ((0:Int) < ((i:Nat):Int)) then decide (x.id≤y.id) else false)=false:=fun y hy=>(by rw [a5,a4 y hy];rfl)
  have d3:∀ y,AtI c.upd (IntKind.i64.wrap (((i:Nat):Int) - 1)) y→(bif (bif decide ((0:Int) < ((i:Nat):Int)) then decide (x.id≤y.id) else false) then true else ((0:Int) != 0))=false:=fun y hy=>(by rw [a6 y hy];rfl)
  have d4:∀ y,AtI c.upd (IntKind.i64.wrap (((i:Nat):Int) - 1)) y→(bif (bif (bif decide ((0:Int) < ((i:Nat):Int)) then decide (x.id≤y.id) else false) then true else ((0:Int) != 0)) then true else ((x.nw.map V.cells).length:Int) != ((t.sch.cols.map Col.cells).length:Int))=false:=fun y hy=>(by rw [d3 y hy,a7];rfl)
  obtain ⟨x1,e1⟩:=zit (l:=c.upd) (i:=IntKind.i64.wrap ((i:Int) - (1:Int))) (by exact zo5 hx hI (by omega))
  obtain ⟨qZ,xZ,gZ⟩:=ih (i+1) (by omega) (by omega) (by omega);exact ⟨qZ,xZ,fun R hg=>zaa (wkl [sb h0,se (zah Pr.cells hx rfl),sc f1,sd [(3,[sg (rfl:false=false)]),(4,[sg (rfl:false=false)]),(5,[sg (rfl:false=false)]),(6,[so (rfl:false=false) (sx (.el [bv false]) (And.intro (zbk x.id) f3))]),(9,[sg (rfl:false=false)]),(10,[sg (rfl:false=false)]),(11,[sg (rfl:false=false)]),(12,[sg a5]),(13,[sg a5]),(14,[sg a5]),(15,[so a5 (si (e:=IntKind.i64.wrap ((i:Int) - 1)) rfl)]),(16,[so a5 (se (zcF Pr.cells e1 rfl))]),(17,[sg a5]),(18,[sg a5]),(19,[sg a5]),(20,[sg a5]),(21,[sg a5]),(22,[sg (rfl:false=false)]),(25,[sg (a6 x1 e1)]),(26,[sg (a6 x1 e1)]),(27,[sg (a6 x1 e1)]),(28,[so (a6 x1 e1) (sc f2)]),(29,[sg (a6 x1 e1)]),(32,[sg (d3 x1 e1)]),(33,[sg (d3 x1 e1)]),(34,[sg (d3 x1 e1)]),(35,[sg (d3 x1 e1)]),(36,[sg (d3 x1 e1)])],sb (d4 x1 e1),si hw] [2,3,5,6,59,60,61] 3 kr (gZ R hg))⟩
theorem zhr (t:Tb) (c:Ch) (hs:zad t.rows) (hvs:∀ r∈t.rows,zad r.vals) (hc:ChV t c) (hso:∀ p∈c.upd,zad p.old):decide (((c.upd.length:Nat):Int) < (((c.upd.map Pr.cells).length:Nat):Int))=false∧∀ R,Good E0 B.ref7_Valid [] (L_vu t c c.upd.length) R→Good E0 B.ref7_Valid [] (L_vu t c 0) R:=by
 cases hrw:c.upd with
 | nil=>exact ⟨by simp,fun R h=>h⟩
 | cons x r =>
  have hx:c.upd[0]?=some x:=by rw [hrw];rfl
  obtain ⟨_,h1,h2⟩:=zhT t c hs hvs hc hso 1 (by rw [hrw];simp) (Nat.le_refl 1)
  rw [← hrw]
  refine ⟨h1,fun R h=>?_⟩
  have hg:=h2 R h
  have h0:decide (((0:Nat):Int) < (((c.upd.map Pr.cells).length:Nat):Int))=true:=by rw [hrw];simp
  obtain ⟨f1,f2,f3,a7⟩:=hc.upF hs hvs (List.mem_of_getElem? hx) (hso x (List.mem_of_getElem? hx))
  refine zaa ?_
  exact wkl [sb h0,se (zah Pr.cells hx rfl),sc f1,sd [(3,[sg (rfl:false=false)]),(4,[sg (rfl:false=false)]),(5,[sg (rfl:false=false)]),(6,[so (rfl:false=false) (sx (.el [bv false]) (And.intro (zbk x.id) f3))]),(9,[sg (rfl:false=false)]),(10,[sg (rfl:false=false)]),(11,[sg (rfl:false=false)]),(12,[sb (rfl:false=false)]),(13,[sb (rfl:false=false)]),(14,[sb (rfl:false=false)]),(15,[sb (rfl:false=false)]),(16,[sb (rfl:false=false)]),(17,[sb (rfl:false=false)]),(18,[sb (rfl:false=false)]),(19,[sb (rfl:false=false)]),(20,[sb (rfl:false=false)]),(21,[sb (rfl:false=false)]),(22,[so (rfl:false=false) (sb (rfl:false=false))]),(25,[sg (rfl:false=false)]),(26,[sg (rfl:false=false)]),(27,[sg (rfl:false=false)]),(28,[so (rfl:false=false) (sc f2)]),(29,[sg (rfl:false=false)]),(32,[sg (rfl:false=false)]),(33,[sg (rfl:false=false)]),(34,[sg (rfl:false=false)]),(35,[sg (rfl:false=false)]),(36,[sg (rfl:false=false)])],sb a7,si (zcm (t:=(↑0:Int)+1) (n:=0+1) (by omega) (by omega))] [2,3,5,6,59,60,61] 3 kr (hg)
noncomputable def L_vi7 (t:Tb) (c:Ch) (i:Nat) :Cfg:=zar B.ref7_Valid 2 [(5,iv ((t.sch.cols.map Col.cells).length:Nat)),(113,.sl (c.ins.map vrow)),(114,iv ((c.ins.map vrow).length:Nat)),(115,iv (i:Nat))] [.box t.cells,.box c.cells,.mp (c.del.map itI)]
theorem zhu (t:Tb) (c:Ch) (hl:zad c.ins) (hc:∀ r∈c.ins,r.length=t.sch.cols.length) (i:Nat)  (hi:i≤(c.ins).length) (hI:True):(True)∧(decide ((((c.ins).length:Nat):Int) < (((c.ins.map vrow).length:Nat):Int))=false)∧∀ R,Good E0 B.ref7_Valid [] (L_vi7 t c (c.ins).length ) R→Good E0 B.ref7_Valid [] (L_vi7 t c i ) R:=by
 obtain ⟨kk,hk⟩:∃ kk,i+kk=(c.ins).length:=⟨(c.ins).length - i,by omega⟩
 induction kk generalizing i  hI with
 | zero =>
  have e0:i=(c.ins).length:=by omega
  subst e0
  exact ⟨hI,by simp,fun R hg=>hg⟩
 | succ kk ih =>
  obtain ⟨x,hx⟩:=zay (l:=c.ins) (i:=i) (by omega)
  have h0:decide (((i:Nat):Int) < (((c.ins.map vrow).length:Nat):Int))=true:=by simp;omega
  have hw:IntKind.i64.wrap (((i:Nat):Int)+1)=((i+1:Nat):Int):=zao i (by first|omega|(simp only [zad,Few] at *;omega))
  have a7:(((x.map V.cells).length:Int) != ((t.sch.cols.map Col.cells).length:Int))=false:=(by simp [hc x (List.mem_of_getElem? hx)])
  obtain ⟨qZ,xZ,gZ⟩:=ih (i+1) (by omega) (by first|trivial|assumption|(simp;done)|omega|(simp;omega)|(simp at *;omega)) (by omega);exact ⟨qZ,xZ,fun R hg=>zaa (wkl [sb h0,se (zah vrow hx rfl),sb a7,si hw] [5,113,114,115] 3 kr (gZ R hg))⟩
theorem znS (t:Tb) (c:Ch) (hs:zad t.rows) (hvs:∀ r∈t.rows,zad r.vals) (hc:ChV t c) (hso:∀ p∈c.upd,zad p.old) (hli:zad c.ins) (hin:∀ r∈c.ins,r.length=t.sch.cols.length) (hv:zac E0 S.ref6_Valid [t.av] [] (bv true) []):∃ (b:Bool),b=true∧zac E0 S.ref7_Valid [t.av,c.av] [] (bv b) []:=by
 obtain ⟨q1,g1⟩:=zhG t c (by first|assumption|omega|(simp;done)|(simp;omega)) (by first|assumption|omega|(simp;done)|(simp;omega)) (by first|assumption|omega|(simp;done)|(simp;omega))
 obtain ⟨q2,g2⟩:=zhr t c (by first|assumption|omega|(simp;done)|(simp;omega)) (by first|assumption|omega|(simp;done)|(simp;omega)) (by first|assumption|omega|(simp;done)|(simp;omega)) (by first|assumption|omega|(simp;done)|(simp;omega))
 obtain ⟨q3,q3_1,g3⟩:=zhu t c (by first|assumption|omega|(simp;done)|(simp;omega)) (by first|assumption|omega|(simp;done)|(simp;omega)) 0 (by first|assumption|omega|(simp;done)|(simp;omega)) (by first|assumption|omega|(simp;done)|(simp;omega))
 exact ⟨true,(by rfl),wkc At.ref7_Valid [sc hv,sb (rfl:false=false)] [2,3,5,6,26,27,28] 3 kr (g1 _ (zaa (wkl [sb q1] [2,3,5,6,59,60,61] 3 kr (g2 _ (zaa (wkl [sb q2] [5,113,114,115] 3 kr (g3 _ (zaa (wkr [sb q3_1] kr)))))))))⟩
theorem znL {n:Int}:∀ (l:List Rw),(get6 n l).2=true→∃ r∈l,r.id=n∧(get6 n l).1=r.vals
 | [],h=>by cases h
 | r::l,h=>by
  unfold get6 at h ⊢
  cases h1:r.id==n
  ·rw [h1] at h
   obtain ⟨q,hq,h2⟩:=znL l h
   exact ⟨q,by simp [hq],h2⟩
  ·exact ⟨r,by simp,by simpa using h1,rfl⟩
theorem zhd (t:Tb) (c:Ch) (ht:TabV t) (hc:ChV t c):zac E0 S.ref7_Valid [t.av,c.av] [] (bv true) []:=by
 have hso:∀ p∈c.upd,zad p.old:=fun p hp=>by
  have h1:=(hc.updIn p hp).1
  obtain ⟨r,hr,_,h2⟩:=znL (n:=p.id) t.rows (by rw [h1])
  rw [h1] at h2
  have h3:p.old=r.vals:=h2
  rw [h3];exact ht.vals r hr
 obtain ⟨b,rfl,h⟩:=znS t c ht.shr ht.vals hc hso (by have:=hc.li;simp only [zad];omega) hc.ins (zmb t ht)
 exact h
end Go.AM
namespace Go.AM
set_option maxRecDepth 100000
set_option maxHeartbeats 400000
set_option linter.unusedSimpArgs false
set_option linter.unusedVariables false
def zcw (s:Sch):List Pr→Int
 | []=>0
 | p::r=>bif fit5 s p.nw != 0 then fit5 s p.nw else zcw s r
def zcu (s:Sch):List (List V)→Int
 | []=>0
 | p::r=>bif fit5 s p != 0 then fit5 s p else zcu s r
noncomputable def zrN (t:Tb) (c:Ch) (i:Nat) :Cfg:=zar B.ref7_Apply 0 [(2,.p 0 0),(3,.p 1 0),(4,.p 2 0),(26,.sl (c.upd.map Pr.cells)),(27,iv ((c.upd.map Pr.cells).length:Nat)),(28,iv (i:Nat))] [.box t.cells,.box c.cells,.box [sv ⟨#[]⟩,.nl,iv 0,.nl]]
theorem zhI (t:Tb) (c:Ch) (hl:zad c.upd) (hs:zad t.sch.cols) (hg:∀ p∈c.upd,∀ v∈p.nw,v.Good) (i:Nat)  (hi:i≤(c.upd).length) (hI:zcw t.sch c.upd=zcw t.sch (c.upd.drop i)):((zcw t.sch c.upd=zcw t.sch (c.upd.drop (c.upd).length))∧(decide ((((c.upd).length:Nat):Int) < (((c.upd.map Pr.cells).length:Nat):Int))=false)∧∀ R,Good E0 B.ref7_Apply [] (zrN t c (c.upd).length ) R→Good E0 B.ref7_Apply [] (zrN t c i ) R)∨(∃ (x':Tb) (r:Int),(r≠0∧r=zcw t.sch c.upd)∧Good E0 B.ref7_Apply [] (zrN t c i ) (Shut 0 fun rZ hZ=>rZ=(.tup [Tb.av x',iv r])∧hZ=[])):=by
 obtain ⟨kk,hk⟩:∃ kk,i+kk=(c.upd).length:=⟨(c.upd).length - i,by omega⟩
 induction kk generalizing i  with
 | zero =>
  have e0:i=(c.upd).length:=by omega
  subst e0
  exact .inl ⟨hI,by simp,fun R hg=>hg⟩
 | succ kk ih =>
  obtain ⟨x,hx⟩:=zay (l:=c.upd) (i:=i) (by omega)
  have h0:decide (((i:Nat):Int) < (((c.upd.map Pr.cells).length:Nat):Int))=true:=by simp;omega
  have hw:IntKind.i64.wrap (((i:Nat):Int)+1)=((i+1:Nat):Int):=zao i (by first|omega|(simp only [zad,Few] at *;omega))
  have hgx:=hg x (List.mem_of_getElem? hx)
  let p_1:List St:=[sb h0,se (zah Pr.cells hx rfl),sc (zdV t.sch x.nw (by first|assumption|omega|(simp;done)|(simp;omega)) (by first|assumption|omega|(simp;done)|(simp;omega)))]
  cases h1:fit5 t.sch x.nw != 0
  ·exact (ih (i+1) (by omega) (by (rw [hI,zaN hx];simp only [zcw, *,cond_false])) (by omega)).elim (fun ⟨qZ,xZ,gZ⟩=>.inl ⟨qZ,xZ,fun R hg=>zaa (wkl (p_1++[sb h1,si hw]) [2,3,4,26,27,28] 3 kr (gZ R hg))⟩) (fun ⟨x'Y,rY,pZ,gZ⟩=>.inr ⟨x'Y,rY,pZ,zaa (wkl [sb h0,se (zah Pr.cells hx rfl),sc (zdV t.sch x.nw (by first|assumption|omega|(simp;done)|(simp;omega)) (by first|assumption|omega|(simp;done)|(simp;omega))),sb h1,si hw] [2,3,4,26,27,28] 3 kr gZ)⟩)
  ·exact .inr ⟨Tb.mk (Sch.mk (ByteArray.mk #[]) []) 0 [],fit5 t.sch x.nw,(by (refine ⟨by simpa using ‹(fit5 _ _ != 0)=true›,?_⟩;rw [hI,zaN hx];simp only [zcw, *,cond_true])),zaa (wkr (p_1++[sb h1]) kr)⟩
noncomputable def zso (t:Tb) (c:Ch) (i:Nat) :Cfg:=zar B.ref7_Apply 1 [(2,.p 0 0),(3,.p 1 0),(4,.p 2 0),(43,.sl (c.ins.map vrow)),(44,iv ((c.ins.map vrow).length:Nat)),(45,iv (i:Nat))] [.box t.cells,.box c.cells,.box [sv ⟨#[]⟩,.nl,iv 0,.nl]]
theorem zhH (t:Tb) (c:Ch) (hl:zad c.ins) (hs:zad t.sch.cols) (hg:∀ p∈c.ins,∀ v∈p,v.Good) (i:Nat)  (hi:i≤(c.ins).length) (hI:zcu t.sch c.ins=zcu t.sch (c.ins.drop i)):((zcu t.sch c.ins=zcu t.sch (c.ins.drop (c.ins).length))∧(decide ((((c.ins).length:Nat):Int) < (((c.ins.map vrow).length:Nat):Int))=false)∧∀ R,Good E0 B.ref7_Apply [] (zso t c (c.ins).length ) R→Good E0 B.ref7_Apply [] (zso t c i ) R)∨(∃ (x':Tb) (r:Int),(r≠0∧r=zcu t.sch c.ins)∧Good E0 B.ref7_Apply [] (zso t c i ) (Shut 0 fun rZ hZ=>rZ=(.tup [Tb.av x',iv r])∧hZ=[])):=by
 obtain ⟨kk,hk⟩:∃ kk,i+kk=(c.ins).length:=⟨(c.ins).length - i,by omega⟩
 induction kk generalizing i  with
 | zero =>
  have e0:i=(c.ins).length:=by omega
  subst e0
  exact .inl ⟨hI,by simp,fun R hg=>hg⟩
 | succ kk ih =>
  obtain ⟨x,hx⟩:=zay (l:=c.ins) (i:=i) (by omega)
  have h0:decide (((i:Nat):Int) < (((c.ins.map vrow).length:Nat):Int))=true:=by simp;omega
  have hw:IntKind.i64.wrap (((i:Nat):Int)+1)=((i+1:Nat):Int):=zao i (by first|omega|(simp only [zad,Few] at *;omega))
  have hgx:=hg x (List.mem_of_getElem? hx)
  let p_1:List St:=[sb h0,se (zah vrow hx rfl),sc (zdV t.sch x (by first|assumption|omega|(simp;done)|(simp;omega)) (by first|assumption|omega|(simp;done)|(simp;omega)))]
  cases h1:fit5 t.sch x != 0
  ·exact (ih (i+1) (by omega) (by (rw [hI,zaN hx];simp only [zcu, *,cond_false])) (by omega)).elim (fun ⟨qZ,xZ,gZ⟩=>.inl ⟨qZ,xZ,fun R hg=>zaa (wkl (p_1++[sb h1,si hw]) [2,3,4,43,44,45] 3 kr (gZ R hg))⟩) (fun ⟨x'Y,rY,pZ,gZ⟩=>.inr ⟨x'Y,rY,pZ,zaa (wkl [sb h0,se (zah vrow hx rfl),sc (zdV t.sch x (by first|assumption|omega|(simp;done)|(simp;omega)) (by first|assumption|omega|(simp;done)|(simp;omega))),sb h1,si hw] [2,3,4,43,44,45] 3 kr gZ)⟩)
  ·exact .inr ⟨Tb.mk (Sch.mk (ByteArray.mk #[]) []) 0 [],fit5 t.sch x,(by (refine ⟨by simpa using ‹(fit5 _ _ != 0)=true›,?_⟩;rw [hI,zaN hx];simp only [zcu, *,cond_true])),zaa (wkr (p_1++[sb h1]) kr)⟩
def midS (c:Ch) (r:Rw):Option Rw:=bif anyI c.del r.id then none else some ⟨r.id,bif (fnd7 r.id c.upd).2 then (fnd7 r.id c.upd).1 else r.vals⟩
def midR (c:Ch) (l:List Rw):List Rw:=l.filterMap (midS c)
theorem zrv {c:Ch} {l:List Rw} {i:Nat} {x:Rw} (hx:l[i]?=some x):midR c (l.take (i+1))=midR c (l.take i)++(midS c x).toList:=by
 unfold midR
 rw [List.take_add_one,hx,List.filterMap_append]
 cases h:midS c x <;> simp [h]
theorem zr7 {c:Ch} {l:List Rw} {i:Nat} {x:Rw} {rs:List Rw} (hI:rs.length≤i∧rs=midR c (l.take i)) (hx:l[i]?=some x) (h:anyI c.del x.id=true):rs.length≤i+1∧rs=midR c (l.take (i+1)):=by
 rw [zrv hx,midS,h];exact ⟨by omega,by simpa using hI.2⟩
theorem zrY {c:Ch} {l:List Rw} {i:Nat} {x:Rw} {rs:List Rw} {v:List V} (hI:rs.length≤i∧rs=midR c (l.take i)) (hx:l[i]?=some x) (h:anyI c.del x.id=false) (hv:v=bif (fnd7 x.id c.upd).2 then (fnd7 x.id c.upd).1 else x.vals):(rs++[Rw.mk x.id v]).length≤i+1∧rs++[⟨x.id,v⟩]=midR c (l.take (i+1)):=by
 rw [zrv hx,midS,h,← hI.2,hv];exact ⟨by simp;omega,by simp⟩
noncomputable def L_apR (t:Tb) (c:Ch) (i:Nat) (rs:List Rw):Cfg:=zar B.ref7_Apply 2 [(2,.p 0 0),(3,.p 1 0),(4,.p 2 0),(12,.p 3 0),(65,.sl (t.rows.map Rw.cells)),(66,iv ((t.rows.map Rw.cells).length:Nat)),(67,iv (i:Nat))] [.box t.cells,.box c.cells,.box [sv ⟨#[]⟩,.nl,iv 0,.nl],.box [sv t.sch.name,.sl (t.sch.cols.map Col.cells),iv t.next,.own 4 rs.length],.row Ty.Row (rs.map Rw.cells) false]
theorem zht (t:Tb) (c:Ch) (hl:zad c.upd) (hd:zad c.del) (hrs:zad t.rows) (hvs:∀ r∈t.rows,zad r.vals) (hfs:∀ n,zad (fnd7 n c.upd).1) (i:Nat) (rs:List Rw) (hi:i≤(t.rows).length) (hI:rs.length≤i∧rs=midR c (t.rows.take i)):∃ (rs':List Rw),(rs'.length≤(t.rows).length∧rs'=midR c (t.rows.take (t.rows).length))∧(decide ((((t.rows).length:Nat):Int) < (((t.rows.map Rw.cells).length:Nat):Int))=false)∧∀ R,Good E0 B.ref7_Apply [] (L_apR t c (t.rows).length rs') R→Good E0 B.ref7_Apply [] (L_apR t c i rs) R:=by
 obtain ⟨kk,hk⟩:∃ kk,i+kk=(t.rows).length:=⟨(t.rows).length - i,by omega⟩
 induction kk generalizing i rs with
 | zero =>
  have e0:i=(t.rows).length:=by omega
  subst e0
  exact ⟨rs,hI,by simp,fun R hg=>hg⟩
 | succ kk ih =>
  obtain ⟨x,hx⟩:=zay (l:=t.rows) (i:=i) (by omega)
  have h0:decide (((i:Nat):Int) < (((t.rows.map Rw.cells).length:Nat):Int))=true:=by simp;omega
  have hw:IntKind.i64.wrap (((i:Nat):Int)+1)=((i+1:Nat):Int):=zao i (by first|omega|(simp only [zad,Few] at *;omega))
  have hvx:=hvs x (List.mem_of_getElem? hx);have hfx:=hfs x.id;have hol:rs.length≤1000000000:=(by have:=hI.1;simp only [zad] at hrs;omega)
  let p_1:List St:=[sb h0,se (zah Rw.cells hx rfl),sc (zsy c.del x.id (by first|assumption|omega|(simp;done)|(simp;omega)))]
  cases h1:c.del.any fun x_1=>x_1==x.id
  ·let p_2:List St:=p_1++[sb h1,sc (zqA c.upd x.id (by first|assumption|omega|(simp;done)|(simp;omega)))]
   cases h2:(fnd7 x.id c.upd).snd
   ·obtain ⟨rsZ,qZ,xZ,gZ⟩:=ih (i+1) (rs++[x]) (by omega) (by first|exact zr7 hI hx (by assumption)|exact zrY hI hx (by assumption) (by simp only [*];rfl)) (by omega);exact ⟨rsZ,qZ,xZ,fun R hg=>zaa (wkl (p_2++[sb h2,sd [(5,[sc (zdR x.vals (by first|assumption|omega|(simp;done)|(simp;omega)))]),(8,[sqx (AllLen [[iv x.id,AV.sl (List.map V.cells (zbX x.vals))]] 2∧rs.length=(List.map Rw.cells rs).length∧(((List.map Rw.cells rs).length+[[iv x.id,AV.sl (List.map V.cells (zbX x.vals))]].length) * 32).le 140737488355328)])],si hw]) [2,3,4,12,65,66,67] 5 kr (zat rfl (show ([Blk.box [sv t.sch.name,AV.sl (List.map Col.cells t.sch.cols),iv t.next,AV.sl (List.map Rw.cells t.rows)],Blk.box [AV.sl (List.map vrow c.ins),AV.sl (List.map (fun n=>[iv n]) c.del),AV.sl (List.map Pr.cells c.upd)],Blk.box [sv (ByteArray.mk #[]),AV.nl,iv 0,AV.nl],Blk.box [sv t.sch.name,AV.sl (List.map Col.cells t.sch.cols),iv t.next,AV.own 4 (List.map Rw.cells rs++[[iv x.id,AV.sl (List.map V.cells (zbX x.vals))]]).length],Blk.row Ty.Row (List.map Rw.cells rs++[[iv x.id,AV.sl (List.map V.cells (zbX x.vals))]]) false]:Heap)=_ by first|rfl|(simp [Rw.cells,Tb.cells,Ch.cells,Pr.cells,zbX];done)) (gZ R hg)))⟩
   ·obtain ⟨rsZ,qZ,xZ,gZ⟩:=ih (i+1) (rs++[Rw.mk x.id (zbX (fnd7 x.id c.upd).fst)]) (by omega) (by first|exact zr7 hI hx (by assumption)|exact zrY hI hx (by assumption) (by simp only [*];rfl)) (by omega);exact ⟨rsZ,qZ,xZ,fun R hg=>zaa (wkl (p_2++[sb h2,sd [(5,[sc (zdR ((fnd7 x.id c.upd).fst) (by first|assumption|omega|(simp;done)|(simp;omega)))]),(8,[sqx (AllLen [[iv x.id,AV.sl (List.map V.cells (zbX (fnd7 x.id c.upd).fst))]] 2∧rs.length=(List.map Rw.cells rs).length∧(((List.map Rw.cells rs).length+[[iv x.id,AV.sl (List.map V.cells (zbX (fnd7 x.id c.upd).fst))]].length) * 32).le 140737488355328)])],si hw]) [2,3,4,12,65,66,67] 5 kr (zat rfl (show ([Blk.box [sv t.sch.name,AV.sl (List.map Col.cells t.sch.cols),iv t.next,AV.sl (List.map Rw.cells t.rows)],Blk.box [AV.sl (List.map vrow c.ins),AV.sl (List.map (fun n=>[iv n]) c.del),AV.sl (List.map Pr.cells c.upd)],Blk.box [sv (ByteArray.mk #[]),AV.nl,iv 0,AV.nl],Blk.box [sv t.sch.name,AV.sl (List.map Col.cells t.sch.cols),iv t.next,AV.own 4 (List.map Rw.cells rs++[[iv x.id,AV.sl (List.map V.cells (zbX (fnd7 x.id c.upd).fst))]]).length],Blk.row Ty.Row (List.map Rw.cells rs++[[iv x.id,AV.sl (List.map V.cells (zbX (fnd7 x.id c.upd).fst))]]) false]:Heap)=_ by first|rfl|(simp [Rw.cells,Tb.cells,Ch.cells,Pr.cells,zbX];done)) (gZ R hg)))⟩
  ·obtain ⟨rsZ,qZ,xZ,gZ⟩:=ih (i+1) rs (by omega) (by first|exact zr7 hI hx (by assumption)|exact zrY hI hx (by assumption) (by simp only [*];rfl)) (by omega);exact ⟨rsZ,qZ,xZ,fun R hg=>zaa (wkl (p_1++[sb h1,si hw]) [2,3,4,12,65,66,67] 5 kr (gZ R hg))⟩
def insN:Int→List (List V)→List Rw
 | _,[]=>[]
 | n,v::r=>⟨n,v⟩::insN (n+1) r
theorem zoB:∀ (l:List (List V)) (n:Int) (v:List V),insN n (l++[v])=insN n l++[⟨n+(l.length:Int),v⟩]
 | [],n,v=>by simp [insN]
 | x::l,n,v=>by
  have:=zoB l (n+1) v
  simp only [List.cons_append,insN,this,List.length_cons]
  have e:n+1+(l.length:Int)=n+((l.length+1:Nat):Int):=by omega
  rw [e]
theorem zlH:∀ (l:List (List V)) (n:Int),(insN n l).length=l.length
 | [],_=>rfl
 | _::l,n=>by simp [insN,zlH l]
def ApI (t:Tb) (c:Ch) (i:Nat) (nx:Int) (rs:List Rw):Prop:=nx=t.next+(i:Int)∧rs=midR c t.rows++insN t.next (c.ins.take i)
theorem zbK {t:Tb} {c:Ch} {rs:List Rw} (h:rs.length≤t.rows.length∧rs=midR c (t.rows.take t.rows.length)):ApI t c 0 t.next rs:=by
 refine ⟨by omega,?_⟩
 rw [h.2,List.take_length];simp [insN]
theorem zbg {t:Tb} {c:Ch} {nx:Int} {rs:List Rw} {i:Nat} (h:ApI t c i nx rs) (hm:(midR c t.rows).length≤100000) (hl:c.ins.length≤100000):zad rs:=by
 rw [h.2];simp only [zad];rw [List.length_append,zlH,List.length_take];omega
theorem zuU {t:Tb} {c:Ch} {i:Nat} {nx:Int} {rs:List Rw} {x:List V} (hI:ApI t c i nx rs) (hx:c.ins[i]?=some x):ApI t c (i+1) (nx+1) (rs++[⟨nx,x⟩]):=by
 obtain ⟨rfl,rfl⟩:=hI
 have hl:(c.ins.take i).length=i:=by have:=(List.getElem?_eq_some_iff.1 hx).1;simp;omega
 refine ⟨by omega,?_⟩
 rw [List.take_add_one,hx,List.append_assoc]
 simp only [Option.toList_some]
 rw [zoB,hl]
noncomputable def L_apN (t:Tb) (c:Ch) (i:Nat) (nx:Int) (rs:List Rw):Cfg:=zar B.ref7_Apply 3 [(4,.p 2 0),(12,.p 3 0),(118,.sl (c.ins.map vrow)),(119,iv ((c.ins.map vrow).length:Nat)),(120,iv (i:Nat))] [.box t.cells,.box c.cells,.box [sv ⟨#[]⟩,.nl,iv 0,.nl],.box [sv t.sch.name,.sl (t.sch.cols.map Col.cells),iv nx,.own 4 rs.length],.row Ty.Row (rs.map Rw.cells) false]
theorem zhz (t:Tb) (c:Ch) (hl:c.ins.length≤100000) (hn:1≤t.next∧t.next≤2147483648) (hvs:∀ r∈c.ins,zad r) (hm:(midR c t.rows).length≤100000) (i:Nat) (nx:Int) (rs:List Rw) (hi:i≤(c.ins).length) (hI:ApI t c i nx rs):∃ (nx':Int) (rs':List Rw),(ApI t c (c.ins).length nx' rs')∧(decide ((((c.ins).length:Nat):Int) < (((c.ins.map vrow).length:Nat):Int))=false)∧∀ R,Good E0 B.ref7_Apply [] (L_apN t c (c.ins).length nx' rs') R→Good E0 B.ref7_Apply [] (L_apN t c i nx rs) R:=by
 obtain ⟨kk,hk⟩:∃ kk,i+kk=(c.ins).length:=⟨(c.ins).length - i,by omega⟩
 induction kk generalizing i nx rs with
 | zero =>
  have e0:i=(c.ins).length:=by omega
  subst e0
  exact ⟨nx,rs,hI,by simp,fun R hg=>hg⟩
 | succ kk ih =>
  obtain ⟨x,hx⟩:=zay (l:=c.ins) (i:=i) (by omega)
  have h0:decide (((i:Nat):Int) < (((c.ins.map vrow).length:Nat):Int))=true:=by simp;omega
  have hw:IntKind.i64.wrap (((i:Nat):Int)+1)=((i+1:Nat):Int):=zao i (by omega)
  have hvx:=hvs x (List.mem_of_getElem? hx);have hw1:IntKind.i64.wrap (nx+1)=nx+1:=(by rw [hI.1,IntKind.wrap_i64];omega)
  have hol:rs.length≤1000000000:=by rw [hI.2,List.length_append,zlH,List.length_take];omega
  obtain ⟨nxZ,rsZ,qZ,xZ,gZ⟩:=ih (i+1) (nx+1) (rs++[Rw.mk nx (zbX x)]) (by omega) (by exact zuU hI hx) (by omega);exact ⟨nxZ,rsZ,qZ,xZ,fun R hg=>zaa (wkl [sb h0,se (zah vrow hx rfl),sd [(5,[sc (zdR x (by first|assumption|omega|(simp;done)|(simp;omega)))]),(8,[sqx (AllLen [[iv nx,AV.sl (List.map V.cells (zbX x))]] 2∧rs.length=(List.map Rw.cells rs).length∧(((List.map Rw.cells rs).length+[[iv nx,AV.sl (List.map V.cells (zbX x))]].length) * 32).le 140737488355328)])],si hw1,si hw] [4,12,118,119,120] 5 kr (zat rfl (show ([Blk.box [sv t.sch.name,AV.sl (List.map Col.cells t.sch.cols),iv t.next,AV.sl (List.map Rw.cells t.rows)],Blk.box [AV.sl (List.map vrow c.ins),AV.sl (List.map (fun n=>[iv n]) c.del),AV.sl (List.map Pr.cells c.upd)],Blk.box [sv (ByteArray.mk #[]),AV.nl,iv 0,AV.nl],Blk.box [sv t.sch.name,AV.sl (List.map Col.cells t.sch.cols),iv (nx+1),AV.own 4 (List.map Rw.cells rs++[[iv nx,AV.sl (List.map V.cells (zbX x))]]).length],Blk.row Ty.Row (List.map Rw.cells rs++[[iv nx,AV.sl (List.map V.cells (zbX x))]]) false]:Heap)=_ by first|rfl|(simp [Rw.cells,Tb.cells,Ch.cells,Pr.cells,zbX];done)) (gZ R hg)))⟩
def apT (t:Tb) (c:Ch):Tb:=⟨t.sch,t.next+(c.ins.length:Int),midR c t.rows++insN t.next c.ins⟩
abbrev zmq (t:Tb) (c:Ch):List V:=zbE (idxF (fun z=>z.key) t.sch.cols 0) (midR c t.rows++insN t.next c.ins)
structure ApQ (t:Tb) (c:Ch) (x:Tb) (g:Int):Prop where
 ok:g=0→x=apT t c∧zcw t.sch c.upd=0∧zcu t.sch c.ins=0∧(zmq t c).Nodup
 err:g=0∨g=9∨g=10∨g=zcw t.sch c.upd∨g=zcu t.sch c.ins
 good:zcw t.sch c.upd=0→zcu t.sch c.ins=0→(midR c t.rows).length+c.ins.length≤100→(c.ins.length:Int)≤2147483648 - t.next→(zmq t c).Nodup→g=0
section
variable {t x : Tb} {c : Ch} {g nx : Int} {rs rs' : List Rw} {b : Bool}
theorem fu0 (h:zcw t.sch c.upd=zcw t.sch (c.upd.drop c.upd.length)):zcw t.sch c.upd=0:=by rw [h,List.drop_length];rfl
theorem fi0 (h:zcu t.sch c.ins=zcu t.sch (c.ins.drop c.ins.length)):zcu t.sch c.ins=0:=by rw [h,List.drop_length];rfl
theorem zkA (h:g≠0∧g=zcw t.sch c.upd):ApQ t c x g:=⟨fun e=>absurd e h.1,.inr (.inr (.inr (.inl h.2))),fun e=>absurd (h.2.trans e) h.1⟩
theorem zkv (h:g≠0∧g=zcu t.sch c.ins):ApQ t c x g:=⟨fun e=>absurd e h.1,.inr (.inr (.inr (.inr h.2))),fun _ e=>absurd (h.2.trans e) h.1⟩
theorem zib (hr:rs.length≤t.rows.length∧rs=midR c (t.rows.take t.rows.length)) (hl:c.ins.length≤100000) (hl2:t.rows.length≤100000) (h:decide ((100:Int) < IntKind.i64.wrap ((rs.length:Int)+((c.ins.map vrow).length:Int)))=true):ApQ t c x 10:=by
 refine ⟨fun e=>by omega,.inr (.inr (.inl rfl)),fun _ _ e=>?_⟩
 rw [List.take_length] at hr
 simp only [decide_eq_true_eq,List.length_map,IntKind.wrap_i64] at h
 rw [← hr.2] at e;omega
theorem zh4 (hn:1≤t.next∧t.next≤2147483648) (h:decide (IntKind.i64.wrap (2147483648 - t.next) < ((c.ins.map vrow).length:Int))=true):ApQ t c x 10:=by
 refine ⟨fun e=>by omega,.inr (.inr (.inl rfl)),fun _ _ _ e=>?_⟩
 simp only [decide_eq_true_eq,List.length_map,IntKind.wrap_i64] at h
 omega
theorem zkP (hI:ApI t c c.ins.length nx rs') (hb:b=false↔(zbE (idxF (fun z=>z.key) t.sch.cols 0) rs').Nodup) (h:b=true):ApQ t c x 9:=by
 refine ⟨fun e=>by omega,.inr (.inl rfl),fun _ _ _ _ e=>?_⟩
 have e2:=hI.2
 rw [List.take_length] at e2
 unfold zmq at e;rw [← e2] at e
 rw [h] at hb;exact absurd (hb.2 e) (by simp)
theorem zkp (h1:zcw t.sch c.upd=zcw t.sch (c.upd.drop c.upd.length)) (h2:zcu t.sch c.ins=zcu t.sch (c.ins.drop c.ins.length)) (hI:ApI t c c.ins.length nx rs') (hb:b=false↔(zbE (idxF (fun z=>z.key) t.sch.cols 0) rs').Nodup) (h:b=false):ApQ t c ⟨t.sch,nx,rs'⟩ 0:=by
 obtain ⟨e1,e2⟩:=hI
 rw [List.take_length] at e2
 refine ⟨fun _=>⟨by unfold apT;rw [e1,e2],fu0 h1,fi0 h2,?_⟩,.inl rfl,fun _ _ _ _ _=>rfl⟩
 unfold zmq;rw [← e2];exact hb.1 h
end
theorem zoK (t:Tb) (c:Ch) (hl:zad c.upd) (hli:zad c.ins) (hl5:c.ins.length≤100000) (hd:zad c.del) (hs:zad t.sch.cols) (hg:∀ p∈c.upd,∀ v∈p.nw,v.Good) (hgi:∀ p∈c.ins,∀ v∈p,v.Good) (hvi:∀ r∈c.ins,zad r) (hrs:zad t.rows) (hr5:t.rows.length≤100000) (hm:(midR c t.rows).length≤100000) (hvs:∀ r∈t.rows,zad r.vals) (hfs:∀ n,zad (fnd7 n c.upd).1) (hn:1≤t.next∧t.next≤2147483648) (hv:zac E0 S.ref7_Valid [t.av,c.av] [] (bv true) []):∃ (x:Tb) (g:Int),ApQ t c x g∧zac E0 S.ref7_Apply [t.av,c.av] [] (.tup [x.av,iv g]) []:=by
 rcases zhI t c (by first|assumption|rfl|exact ⟨Nat.zero_le _,rfl⟩|exact zbK (by assumption)|exact zbg (by assumption) hm hl5|omega) (by first|assumption|rfl|exact ⟨Nat.zero_le _,rfl⟩|exact zbK (by assumption)|exact zbg (by assumption) hm hl5|omega) (by first|assumption|rfl|exact ⟨Nat.zero_le _,rfl⟩|exact zbK (by assumption)|exact zbg (by assumption) hm hl5|omega) 0 (by first|assumption|rfl|exact ⟨Nat.zero_le _,rfl⟩|exact zbK (by assumption)|exact zbg (by assumption) hm hl5|omega) (by first|assumption|rfl|exact ⟨Nat.zero_le _,rfl⟩|exact zbK (by assumption)|exact zbg (by assumption) hm hl5|omega) with ⟨q1,q1_1,g1⟩|⟨r1_0,r1_1,p1_0,g1⟩
 ·rcases zhH t c (by first|assumption|rfl|exact ⟨Nat.zero_le _,rfl⟩|exact zbK (by assumption)|exact zbg (by assumption) hm hl5|omega) (by first|assumption|rfl|exact ⟨Nat.zero_le _,rfl⟩|exact zbK (by assumption)|exact zbg (by assumption) hm hl5|omega) (by first|assumption|rfl|exact ⟨Nat.zero_le _,rfl⟩|exact zbK (by assumption)|exact zbg (by assumption) hm hl5|omega) 0 (by first|assumption|rfl|exact ⟨Nat.zero_le _,rfl⟩|exact zbK (by assumption)|exact zbg (by assumption) hm hl5|omega) (by first|assumption|rfl|exact ⟨Nat.zero_le _,rfl⟩|exact zbK (by assumption)|exact zbg (by assumption) hm hl5|omega) with ⟨q2,q2_1,g2⟩|⟨r2_0,r2_1,p2_0,g2⟩
  ·obtain ⟨rs3,q3,q3_1,g3⟩:=zht t c (by first|assumption|rfl|exact ⟨Nat.zero_le _,rfl⟩|exact zbK (by assumption)|exact zbg (by assumption) hm hl5|omega) (by first|assumption|rfl|exact ⟨Nat.zero_le _,rfl⟩|exact zbK (by assumption)|exact zbg (by assumption) hm hl5|omega) (by first|assumption|rfl|exact ⟨Nat.zero_le _,rfl⟩|exact zbK (by assumption)|exact zbg (by assumption) hm hl5|omega) (by first|assumption|rfl|exact ⟨Nat.zero_le _,rfl⟩|exact zbK (by assumption)|exact zbg (by assumption) hm hl5|omega) (by first|assumption|rfl|exact ⟨Nat.zero_le _,rfl⟩|exact zbK (by assumption)|exact zbg (by assumption) hm hl5|omega) 0 ([]) (by first|assumption|rfl|exact ⟨Nat.zero_le _,rfl⟩|exact zbK (by assumption)|exact zbg (by assumption) hm hl5|omega) (by first|assumption|rfl|exact ⟨Nat.zero_le _,rfl⟩|exact zbK (by assumption)|exact zbg (by assumption) hm hl5|omega)
   let p_1:List St:=[sb q2_1,sdm [(1,[sc (zql t (by first|assumption|rfl|exact ⟨Nat.zero_le _,rfl⟩|exact zbK (by assumption)|exact zbg (by assumption) hm hl5|omega) (by first|assumption|rfl|exact ⟨Nat.zero_le _,rfl⟩|exact zbK (by assumption)|exact zbg (by assumption) hm hl5|omega) (by first|assumption|rfl|exact ⟨Nat.zero_le _,rfl⟩|exact zbK (by assumption)|exact zbg (by assumption) hm hl5|omega))]),(2,[sqx (some 50=some 50)])] 0 [(2,AV.p 0 0),(3,AV.p 1 0),(4,AV.p 2 0),(12,AV.p 3 0),(43,AV.sl (List.map vrow c.ins)),(44,iv (↑(List.map vrow c.ins).length:Int)),(45,iv (c.1.length:Int)),(46,AV.bl false),(58,AV.agg [sv t.sch.name,AV.sl (List.map Col.cells t.sch.cols),iv t.next,AV.sl (List.map Rw.cells t.rows)]),(59,AV.agg [sv t.sch.name,AV.sl (List.map Col.cells t.sch.cols),iv t.next,AV.sl (List.map Rw.cells t.rows)]),(60,AV.agg [sv t.sch.name,AV.sl (List.map Col.cells t.sch.cols)]),(61,AV.p 0 2),(62,iv t.next),(63,AV.agg [sv t.sch.name,AV.sl (List.map Col.cells t.sch.cols),iv t.next,AV.nl])] [Blk.box [sv t.sch.name,AV.sl (List.map Col.cells t.sch.cols),iv t.next,AV.sl (List.map Rw.cells t.rows)],Blk.box [AV.sl (List.map vrow c.ins),AV.sl (List.map (fun n=>[iv n]) c.del),AV.sl (List.map Pr.cells c.upd)],Blk.box [sv (ByteArray.mk #[]),AV.nl,iv 0,AV.nl],Blk.box [sv t.sch.name,AV.sl (List.map Col.cells t.sch.cols),iv t.next,AV.nl]]]
   let p_2:List St:=[sb q3_1,sqx (rs3.length=(List.map Rw.cells rs3).length),si (e:=IntKind.i64.wrap ((rs3.length:Int)+(↑(List.map vrow c.ins).length:Int))) rfl]
   cases h4:decide (100 < IntKind.i64.wrap ((rs3.length:Int)+(↑(List.map vrow c.ins).length:Int)))
   ·let p_3:List St:=p_2++[sg h4,si (e:=IntKind.i64.wrap (2147483648 - t.next)) rfl]
    cases h5:decide (IntKind.i64.wrap (2147483648 - t.next) < (↑(List.map vrow c.ins).length:Int))
    ·obtain ⟨nx6,rs6,q6,q6_1,g6⟩:=zhz t c (by first|assumption|rfl|exact ⟨Nat.zero_le _,rfl⟩|exact zbK (by assumption)|exact zbg (by assumption) hm hl5|omega) (by first|assumption|rfl|exact ⟨Nat.zero_le _,rfl⟩|exact zbK (by assumption)|exact zbg (by assumption) hm hl5|omega) (by first|assumption|rfl|exact ⟨Nat.zero_le _,rfl⟩|exact zbK (by assumption)|exact zbg (by assumption) hm hl5|omega) (by first|assumption|rfl|exact ⟨Nat.zero_le _,rfl⟩|exact zbK (by assumption)|exact zbg (by assumption) hm hl5|omega) 0 t.next rs3 (by first|assumption|rfl|exact ⟨Nat.zero_le _,rfl⟩|exact zbK (by assumption)|exact zbg (by assumption) hm hl5|omega) (by first|assumption|rfl|exact ⟨Nat.zero_le _,rfl⟩|exact zbK (by assumption)|exact zbg (by assumption) hm hl5|omega)
     obtain ⟨b7,q7,c7⟩:=(zgQ (Tb.mk t.sch nx6 rs6) (by first|assumption|rfl|exact ⟨Nat.zero_le _,rfl⟩|exact zbK (by assumption)|exact zbg (by assumption) hm hl5|omega) (by first|assumption|rfl|exact ⟨Nat.zero_le _,rfl⟩|exact zbK (by assumption)|exact zbg (by assumption) hm hl5|omega))
     rcases (Bool.eq_false_or_eq_true b7).symm with h8|h8
     ·exact ⟨Tb.mk t.sch nx6 rs6,0,(by first|exact zkA (by assumption)|exact zkv (by assumption)|exact zib (by assumption) hl5 hr5 (by assumption)|exact zh4 hn (by assumption)|exact zkP (by assumption) (by assumption) (by assumption)|exact zkp (by assumption) (by assumption) (by assumption) (by assumption) (by assumption)),wkc At.ref7_Apply [sc hv,sb (rfl:false=false)] [2,3,4,26,27,28] 3 kr (g1 _ (zaa (wkl [sb q1_1] [2,3,4,43,44,45] 3 kr (g2 _ (zaa (wklN p_1 [2,3,4,12,65,66,67] 4 [(.ob 3 3 Ty.Row,5)] kr (g3 _ (zaa (wkl (p_3++[sb h5]) [4,12,118,119,120] 5 kr (g6 _ (zaa (wkr [sqx ((True∧True∧True∧rs6.length=(List.map Rw.cells rs6).length∧True)∧True∧True),sb q2_1,skx ((True∧True∧True∧rs6.length=(List.map Rw.cells rs6).length∧True)∧True) [] c7,sb h8] kr))))))))))))⟩
     ·exact ⟨Tb.mk (Sch.mk (ByteArray.mk #[]) []) 0 [],9,(by first|exact zkA (by assumption)|exact zkv (by assumption)|exact zib (by assumption) hl5 hr5 (by assumption)|exact zh4 hn (by assumption)|exact zkP (by assumption) (by assumption) (by assumption)|exact zkp (by assumption) (by assumption) (by assumption) (by assumption) (by assumption)),wkc At.ref7_Apply [sc hv,sb (rfl:false=false)] [2,3,4,26,27,28] 3 kr (g1 _ (zaa (wkl [sb q1_1] [2,3,4,43,44,45] 3 kr (g2 _ (zaa (wklN p_1 [2,3,4,12,65,66,67] 4 [(.ob 3 3 Ty.Row,5)] kr (g3 _ (zaa (wkl (p_3++[sb h5]) [4,12,118,119,120] 5 kr (g6 _ (zaa (wkr [sb q2_1,skx ((True∧True∧True∧rs6.length=(List.map Rw.cells rs6).length∧True)∧True) [] c7,sb h8] kr))))))))))))⟩
    ·exact ⟨Tb.mk (Sch.mk (ByteArray.mk #[]) []) 0 [],10,(by first|exact zkA (by assumption)|exact zkv (by assumption)|exact zib (by assumption) hl5 hr5 (by assumption)|exact zh4 hn (by assumption)|exact zkP (by assumption) (by assumption) (by assumption)|exact zkp (by assumption) (by assumption) (by assumption) (by assumption) (by assumption)),wkc At.ref7_Apply [sc hv,sb (rfl:false=false)] [2,3,4,26,27,28] 3 kr (g1 _ (zaa (wkl [sb q1_1] [2,3,4,43,44,45] 3 kr (g2 _ (zaa (wklN p_1 [2,3,4,12,65,66,67] 4 [(.ob 3 3 Ty.Row,5)] kr (g3 _ (zaa (wkr (p_3++[sb h5]) kr)))))))))⟩
   ·exact ⟨Tb.mk (Sch.mk (ByteArray.mk #[]) []) 0 [],10,(by first|exact zkA (by assumption)|exact zkv (by assumption)|exact zib (by assumption) hl5 hr5 (by assumption)|exact zh4 hn (by assumption)|exact zkP (by assumption) (by assumption) (by assumption)|exact zkp (by assumption) (by assumption) (by assumption) (by assumption) (by assumption)),wkc At.ref7_Apply [sc hv,sb (rfl:false=false)] [2,3,4,26,27,28] 3 kr (g1 _ (zaa (wkl [sb q1_1] [2,3,4,43,44,45] 3 kr (g2 _ (zaa (wklN p_1 [2,3,4,12,65,66,67] 4 [(.ob 3 3 Ty.Row,5)] kr (g3 _ (zaa (wkr (p_2++[sb h4]) kr)))))))))⟩
  ·exact ⟨r2_0,r2_1,(by first|exact zkA (by assumption)|exact zkv (by assumption)|exact zib (by assumption) hl5 hr5 (by assumption)|exact zh4 hn (by assumption)|exact zkP (by assumption) (by assumption) (by assumption)|exact zkp (by assumption) (by assumption) (by assumption) (by assumption) (by assumption)),wkc At.ref7_Apply [sc hv,sb (rfl:false=false)] [2,3,4,26,27,28] 3 kr (g1 _ (zaa (wkl [sb q1_1] [2,3,4,43,44,45] 3 kr g2)))⟩
 ·exact ⟨r1_0,r1_1,(by first|exact zkA (by assumption)|exact zkv (by assumption)|exact zib (by assumption) hl5 hr5 (by assumption)|exact zh4 hn (by assumption)|exact zkP (by assumption) (by assumption) (by assumption)|exact zkp (by assumption) (by assumption) (by assumption) (by assumption) (by assumption)),wkc At.ref7_Apply [sc hv,sb (rfl:false=false)] [2,3,4,26,27,28] 3 kr (g1)⟩
end Go.AM
namespace Go.AM
set_option maxRecDepth 100000
set_option maxHeartbeats 400000
set_option linter.unusedSimpArgs false
set_option linter.unusedVariables false
theorem zrW {c:Ch} {k:Nat} (h:∀ p∈c.upd,p.nw.length=k) (hk:k≤1000000000) (n:Int):zad (fnd7 n c.upd).1:=by
 have:∀ l:List Pr,(∀ p∈l,p.nw.length=k)→zad (fnd7 n l).1:=fun l=>by
  induction l with
  | nil=>intro _;simp [fnd7]
  | cons p r ih =>
   intro h
   unfold fnd7
   cases p.id==n
   ·exact ih fun q hq=>h q (by simp [hq])
   ·have:=h p (by simp);simp only [zad,cond_true];omega
 exact this _ h
theorem zvF (t:Tb) (c:Ch) (ht:TabV t) (hc:ChV t c) (hg:∀ p∈c.upd,∀ v∈p.nw,v.Good) (hgi:∀ p∈c.ins,∀ v∈p,v.Good):∃ (x:Tb) (g:Int),ApQ t c x g∧zac E0 S.ref7_Apply [t.av,c.av] [] (.tup [x.av,iv g]) []:=by
 have hl:=ht.len
 simp only [List.length_map,decide_eq_false_iff_not] at hl
 have hm:(midR c t.rows).length≤t.rows.length:=List.length_filterMap_le _ _
 have h1:=hc.lu;have h2:=hc.li;have h3:=hc.ld
 have h4:=ht.rows.pos
 have h5:=ht.max
 have h6:=ht.sch.short
 simp only [decide_eq_false_iff_not] at h5
 exact zoK t c (by simp only [zad];omega) (by simp only [zad];omega) h2 (by simp only [zad];omega) h6 hg hgi (fun r hr=>by have:=hc.ins r hr;simp only [zad] at *;omega) ht.shr (by omega) (by omega) ht.vals (zrW (fun p hp=>(hc.updIn p hp).2.2) h6) ⟨h4,by omega⟩ (zhd t c ht hc)
abbrev tab1 (m:List Tb) (w:Str) (c:Ch):List Tb:=m.set (idxF (fun t=>zaK t w) m 0).toNat (apT (tabC m w) c)
def twC (m:List Tb) (a:Ac):Ch × Int:=zbT 6 a [] m
def twD (m:List Tb) (w:Str) (a:Ac):Ch × Int:=zbT 6 a [] (tab1 m w (twC m a).1)
structure TwD (m:List Tb) (w:Str) (e:X):Prop where
 c:Pure S.dml_Candidates [(acD w e).av,fsl [],tsl m] (.tup [(twC m (acD w e)).1.av,iv (twC m (acD w e)).2])
 a:((twC m (acD w e)).2 != 0)=false→Pure S.ref7_Apply [(tabC m w).av,(twC m (acD w e)).1.av] (.tup [(apT (tabC m w) (twC m (acD w e)).1).av,iv 0])
 d:((twC m (acD w e)).2 != 0)=false→Pure S.dml_Candidates [(acD w e).av,fsl [],tsl (tab1 m w (twC m (acD w e)).1)] (.tup [Ch.av ⟨[],[],[]⟩,iv 0])
 l:((twC m (acD w e)).2 != 0)=false→((((apT (tabC m w) (twC m (acD w e)).1).rows.map Rw.cells).length:Int) != IntKind.i64.wrap ((((tabC m w).rows.map Rw.cells).length:Int) - (((twC m (acD w e)).1.del.map zcb).length:Int)))=false
 tab:decide (idxF (fun t=>zaK t w) m 0 < 0)=false
 short:zad m
structure TwU (m:List Tb) (w:Str) (v e:X):Prop where
 c:Pure S.dml_Candidates [(acU w sN v e).av,fsl [],tsl m] (.tup [(twC m (acU w sN v e)).1.av,iv (twC m (acU w sN v e)).2])
 a:((twC m (acU w sN v e)).2 != 0)=false→Pure S.ref7_Apply [(tabC m w).av,(twC m (acU w sN v e)).1.av] (.tup [(apT (tabC m w) (twC m (acU w sN v e)).1).av,iv 0])
 d:((twC m (acU w sN v e)).2 != 0)=false→Pure S.dml_Candidates [(acU w sN v e).av,fsl [],tsl (tab1 m w (twC m (acU w sN v e)).1)] (.tup [(twD m w (acU w sN v e)).1.av,iv (twD m w (acU w sN v e)).2])
 u:((twC m (acU w sN v e)).2 != 0)=false→((twD m w (acU w sN v e)).2==0)=true→∀ p∈(twD m w (acU w sN v e)).1.upd,p.old=p.nw
 lu:((twC m (acU w sN v e)).2 != 0)=false→∀ p∈(twD m w (acU w sN v e)).1.upd,zad p.old
 ul:((twC m (acU w sN v e)).2 != 0)=false→zad (twD m w (acU w sN v e)).1.upd
end Go.AM
namespace Go.AM
set_option maxRecDepth 100000
set_option maxHeartbeats 1000000
set_option linter.unusedSimpArgs false
set_option linter.unusedVariables false
theorem zdK {s:Sch} {i:Nat} {x:Col} (h:(zaP x.name&&decide (1≤x.type)&&decide (x.type≤3)&&(!x.key || x.notNull)&&(idxF (fun c=>colC c x.name) s.cols 0==((i:Nat):Int)))=true):ColV s i x:=by
 simp only [Bool.and_eq_true,decide_eq_true_eq,beq_iff_eq,Bool.or_eq_true,Bool.not_eq_true'] at h
 obtain ⟨⟨⟨⟨h1,h2⟩,h3⟩,h4⟩,h5⟩:=h
 refine ⟨by rw [h1];rfl,by simp;omega,by simp;omega,fun hk=>?_,by simp [h5]⟩
 rcases h4 with h4|h4
 ·rw [hk] at h4;cases h4
 ·exact h4
theorem zdL {s:Sch} (hs:s∈zal):SchV s:=by
 simp only [zal,List.mem_cons,List.not_mem_nil,or_false] at hs
 rcases hs with rfl|rfl|rfl
 ·refine ⟨by kernel_rfl,by kernel_rfl,by kernel_rfl,fun i x hx=>?_,by decide⟩
  match i,hx with
  | 0,hx=>cases hx;exact zdK kr
  | 1,hx=>cases hx;exact zdK kr
  | i+2,hx=>simp at hx
 ·refine ⟨by kernel_rfl,by kernel_rfl,by kernel_rfl,fun i x hx=>?_,by decide⟩
  match i,hx with
  | 0,hx=>cases hx;exact zdK kr
  | 1,hx=>cases hx;exact zdK kr
  | 2,hx=>cases hx;exact zdK kr
  | 3,hx=>cases hx;exact zdK kr
  | i+4,hx=>simp at hx
 ·refine ⟨by kernel_rfl,by kernel_rfl,by kernel_rfl,fun i x hx=>?_,by decide⟩
  match i,hx with
  | 0,hx=>cases hx;exact zdK kr
  | 1,hx=>cases hx;exact zdK kr
  | 2,hx=>cases hx;exact zdK kr
  | i+3,hx=>simp at hx
theorem key_of {s:Sch} (hs:s∈zal):idxF (fun c=>c.key) s.cols 0=keyC s:=by
 simp only [zal,List.mem_cons,List.not_mem_nil,or_false] at hs
 rcases hs with rfl|rfl|rfl <;> kernel_rfl
theorem StoreV.tabV {n:Int} {m:List Tb} (h:StoreV n m) (hn:n≤100) {t:Tb} (ht:t∈m):TabV t:=by
 have hs:t.sch∈zal:=by rw [← h.schs];exact List.mem_map_of_mem ht
 have h1:=h.len t ht
 have h2:=h.next t ht
 exact ⟨zdL hs,by simp;omega,h.rows t ht,by simp;omega,key_of hs⟩
theorem StoreV.set {n:Int} {m:List Tb} (h:StoreV n m) {i:Nat} {t u:Tb} (hi:m[i]?=some t) (hs:u.sch=t.sch) (hr:RowsV u.sch u.next u.rows) (hx:u.next≤3000) (hl:(u.rows.length:Int)≤n):StoreV n (m.set i u):=by
 have hm:∀ x∈m.set i u,x∈m∨x=u:=fun x hx=>List.mem_or_eq_of_mem_set hx
 refine ⟨?_,fun x hx=>?_,fun x hx=>?_,fun x hx=>?_⟩
 ·rw [List.map_set,hs]
  have:(m.map Tb.sch).set i t.sch=m.map Tb.sch:=by
   obtain ⟨hl,e⟩:=List.getElem?_eq_some_iff.1 hi
   have e2:t.sch=(m.map Tb.sch)[i]'(by simpa using hl):=by simp [e]
   rw [e2];exact List.set_getElem_self _
  rw [this];exact h.schs
 ·rcases hm x hx with h1|rfl
  ·exact h.rows x h1
  ·exact hr
 ·rcases hm x hx with h1|rfl
  ·exact h.next x h1
  ·assumption
 ·rcases hm x hx with h1|rfl
  ·exact h.len x h1
  ·exact hl
end Go.AM
namespace Go.AM
set_option maxRecDepth 100000
set_option maxHeartbeats 1000000
set_option linter.unusedSimpArgs false
set_option linter.unusedVariables false
section
variable {G : Str → List Col} {tbs : List Sch} {tb : List Tb} {M n : Nat} {frs : List Fr} {w : Int} {s : Sch} {a : Ac} {q : Qy}
theorem zer {cols:List Col} {its:List X} (h:zcS tbs M frs cols cols.length its) {x:X} (hx:x∈its):∃ c∈cols,XT tbs M frs c.type x:=by
 obtain ⟨j,hj⟩:=List.getElem?_of_mem hx
 have:=zcj hj
 obtain ⟨c,hc⟩:=zay (l:=cols) (i:=j) (by have:=h.1;omega)
 exact ⟨c,List.mem_of_getElem? hc,h.2 j c x hc hj⟩
theorem zij (hs:s∈zal):2≤s.cols.length∧s.cols.length≤4:=by
 simp only [zal,List.mem_cons,List.not_mem_nil,or_false] at hs
 rcases hs with rfl|rfl|rfl <;> simp
theorem QyT.ok (hs:s∈zal) (h:QyT tbs M frs s q):QW M q:=by
 cases h with
 | mk hf hc hw hx =>
  refine ⟨?_,?_,fun x h=>?_,fun x h=>(hx x h).ok⟩
  ·have h1:=hc.1;have h2:=zij hs;simp only [Few,Qy.items_mk];omega
  ·simp only [Few,Qy.wh_mk];omega
  ·obtain ⟨c,_,h1⟩:=zer hc h;exact h1.ok
theorem ActT.ok (h:ActT tbs M frs a):AcOk M a∧(1≤a.kind∧a.kind≤3):=by
 cases h with
 | @rows s rows hs h1 h2 hr =>
  refine ⟨⟨by simp only [Few];omega,fun r h=>⟨?_,fun x hx=>?_⟩,by simp,by simp,by simp,by simp,by simp,by simp⟩,by simp⟩
  ·have h3:=(hr r h).1;have h4:=zij hs;simp only [Few];omega
  ·obtain ⟨c,_,h1⟩:=zer (hr r h) hx;exact h1.ok
 | copy hs hq =>
  refine ⟨⟨by simp,by simp,by simp,fun x hx=>?_,by simp,by simp,by simp,by simp⟩,by simp⟩
  simp only [List.mem_singleton] at hx;subst hx;exact hq.ok hs
 | @upd s first i sets wh hs h1 hI hw hx =>
  refine ⟨⟨by simp,by simp,by simp,by simp,by have:=hI.len;have:=hI.two;simp only [Few];omega,fun x hx=>?_,by simp only [Few];omega,fun x h=>(hx x h).ok⟩,by simp⟩
  obtain ⟨j,hj⟩:=List.getElem?_of_mem hx
  obtain ⟨c,_,_,h3⟩:=hI.at_ j x hj
  exact h3.ok
 | del hs hw hx=>exact ⟨⟨by simp,by simp,by simp,by simp,by simp,by simp,by simp only [Few];omega,fun x h=>(hx x h).ok⟩,by simp⟩
/- ### validity -/
theorem zph (hG:EnvT G) (ht:TbE G tbs tb) {l:List X} {fr:List Fr} (hf:FsT' G fr) (h:∀ x∈l,∃ w,XT tbs M fr w x):l.all (vX M)=true:=List.all_eq_true.2 fun x hx=>by
 obtain ⟨w,h1⟩:=h x hx
 exact h1.vx hG ht hf
theorem zlL (hG:EnvT G) (ht:TbE G tbs tb) {l:List X} {fr:List Fr} (hf:FsT' G fr) (hl:l.length≤1) (h:∀ x∈l,XT tbs M fr 2 x):zcE (vX M) l=true:=by
 unfold zcE
 rw [zph hG ht hf fun x hx=>⟨2,h x hx⟩]
 have:decide (((zab l).length:Int)≤1)=true:=by simp;omega
 rw [this];rfl
theorem zuo (hG:EnvT G) (ht:TbE G tbs tb) (hf:FsT' G frs) (hs:s∈zal) {rows:List (List X)} (hl:rows.length≤3) (h:zby tbs M frs s rows):zea (vX M) rows=true:=by
 unfold zea
 have h1:decide (((rows.map zaH).length:Int)≤8)=true:=by simp;omega
 rw [h1,cond_true,List.all_eq_true]
 intro r hr
 have h2:=(h r hr).1
 have h3:=zij hs
 have h4:decide (((zab r).length:Int) < 1)=false:=by simp;omega
 have h5:decide (6 < ((zab r).length:Int))=false:=by simp;omega
 unfold zcz
 rw [h4,h5,zph hG ht hf fun x hx=>(by obtain ⟨c,_,h6⟩:=zer (h r hr) hx;exact ⟨_,h6⟩)];rfl
theorem qyB_ok (hG:EnvT G) (ht:TbE G tbs tb) (hf:FsT' G frs) (hs:s∈zal) (h:QyT tbs M frs s q):qyB (vX M) q=true:=by
 cases h with
 | @mk f its wh hfm hc hw hx =>
  have h2:=hc.1
  have h3:=zij hs
  have hfi:=hf.ins ht hfm
  have h4:(!(false==(((zab its).length:Int)==0)))=false:=by
   have:(((zab its).length:Int)==0)=false:=by simp;intro h;rw [h] at h2;simp at h2;omega
   rw [this];rfl
  have h5:decide (8 < ((zab its).length:Int))=false:=by simp;omega
  show (bif !(false==(((zab its).length:Int)==0)) then false else bif decide (8 < ((zab its).length:Int)) then false else bif zcT f.name then (bif its.all (vX M) then zcE (vX M) wh else false) else false)=true
  rw [h4,h5,ht.src f hfm,zlL hG ht hfi hw hx,zph hG ht hfi fun x hx=>(by obtain ⟨c,_,h6⟩:=zer hc hx;exact ⟨_,h6⟩)];rfl
theorem zgN (hs:s∈zal):zaP s.name=true:=by have:=(zdL hs).name;simpa using this
theorem col_ne (hs:s∈zal) {i j:Nat} {c d:Col} (hc:s.cols[i]?=some c) (hd:s.cols[j]?=some d) (h:c.name=d.name):i=j:=by
 have h1:=((zdL hs).cols i c hc).at_
 have h2:=((zdL hs).cols j d hd).at_
 rw [h] at h1
 simp only [bne_eq_false_iff_eq] at h1 h2
 omega
theorem zvM {a b:Str} (h:a≠b):hasS [a] b=false:=by
 have h1:(ByteArray.toList a==ByteArray.toList b)=false:=by
  cases hb:ByteArray.toList a==ByteArray.toList b
  ·rfl
  ·exact absurd (znc (by simpa using hb)) h
 have h2:(ByteArray.toList b==ByteArray.toList a)=false:=by rw [BEq.comm];exact h1
 unfold hasS zgn
 simp [stIx,h1,h2]
theorem zuW (hs:s∈zal) {first i:Nat} {sets:List Se} (h:SetsT tbs M frs s first i sets):zeB (sets.map Se.col)=true:=by
 have h0:=zij hs
 have hl:=h.len
 have h2:=h.two
 have hv:∀ x∈sets,zaP x.col=true:=fun x hx=>by
  obtain ⟨j,hj⟩:=List.getElem?_of_mem hx
  obtain ⟨c,h1,h3,_⟩:=h.at_ j x hj
  have:=((zdL hs).cols _ c h1).name
  rw [h3];simpa using this
 match sets,hl,hv,h.at_ with
 | [],_,_,_=>rfl
 | [x],_,hv,_ =>
  show (bif _ then false else nmL [] [x.col])=true
  have:=hv x (by simp)
  simp [zeB,nmL,this,hasS,zgn,stIx]
 | [x,y],_,hv,hat =>
  obtain ⟨c,c1,c2,_⟩:=hat 0 x rfl
  obtain ⟨d,d1,d2,_⟩:=hat 1 y rfl
  have hne:x.col≠y.col:=fun e=>by
   rw [c2,d2] at e
   have h5:=col_ne hs c1 d1 e
   have h6:(first+0) % s.cols.length=(first+1) % s.cols.length:=h5
   have h7:s.cols.length=2∨s.cols.length=3∨s.cols.length=4:=by omega
   rcases h7 with h7|h7|h7 <;> rw [h7] at h6 <;> omega
  have e1:=hv x (by simp)
  have e2:=hv y (by simp)
  have e3:=zvM hne
  have e4:hasS [] x.col=false:=by simp [hasS,zgn,stIx]
  show (bif decide (8 < ((2:Nat):Int)) then false else bif !zaP x.col then false else bif hasS [] x.col then false else bif !zaP y.col then false else bif hasS [x.col] y.col then false else true)=true
  rw [e1,e2,e3,e4];rfl
 | _::_::_::_,hl,_,_=>simp at hl;omega
theorem ActT.act (hG:EnvT G) (ht:TbE G tbs tb) (hS:TbE G zal tb) (hf:FsT' G frs) (h:ActT tbs M frs a):actB (vX M) a=true:=by
 cases h with
 | @rows s rows hs h1 h2 hr =>
  have e1:=zgN hs
  have e2:decide (0 < ((rows.map zaH).length:Int))=true:=by simp;omega
  have e3:=zuo hG ht hf hs h2 hr
  have:actB (vX M) (Ac.mk 1 s.name rows [] [] [] ⟨#[]⟩)=bif !zaP s.name then false else bif (decide (0 < ((rows.map zaH).length:Int))==false) then false else bif zea (vX M) rows then (bif decide (0 < ((rows.map zaH).length:Int)) then true else bif ((zaf []).length:Int)==1 then qy0 (vX M) (Ac.mk 1 s.name rows [] [] [] ⟨#[]⟩) else false) else false:=by kernel_rfl
  rw [this,e1,e2,e3];rfl
 | @copy s q hs hq =>
  have e1:=zgN hs
  have e3:=qyB_ok hG ht hf hs hq
  have:actB (vX M) (Ac.mk 1 s.name [] [q] [] [] ⟨#[]⟩)=bif !zaP s.name then false else qyB (vX M) q:=by kernel_rfl
  rw [this,e1,e3];rfl
 | @upd s first i sets wh hs h1 hI hw hx =>
  have e1:=zgN hs
  have hfi:=hf.ins hS hs
  have e2:decide (0 < ((sets.map Se.cells).length:Int))=true:=by have:=hI.len;simp;omega
  have e3:zdr (vX M) sets=true:=by
   unfold zdr
   have h3:sets.all (fun s=>vX M s.ex)=true:=List.all_eq_true.2 fun x hx=>by
    obtain ⟨j,hj⟩:=List.getElem?_of_mem hx
    obtain ⟨c,_,_,h3⟩:=hI.at_ j x hj
    exact h3.vx hG ht hfi
   rw [h3];exact zuW hs hI
  have e4:=zlL hG ht hfi hw hx
  have:actB (vX M) (Ac.mk 2 s.name [] [] sets wh ⟨#[]⟩)=bif zaP s.name then (bif decide (0 < ((sets.map Se.cells).length:Int)) then (bif zdr (vX M) sets then zcE (vX M) wh else false) else false) else false:=by kernel_rfl
  rw [this,e1,e2,e3,e4];rfl
 | @del s wh hs hw hx =>
  have e1:=zgN hs
  have e4:=zlL hG ht (hf.ins hS hs) hw hx
  have:actB (vX M) (Ac.mk 3 s.name [] [] [] wh ⟨#[]⟩)=bif zaP s.name then zcE (vX M) wh else false:=by kernel_rfl
  rw [this,e1,e4];rfl
/- ### types -/
theorem zo1 {c t:Int} (h:t=0∨t=c):zhn c t=true:=by
 rcases h with rfl|rfl
 ·rfl
 ·unfold zhn;cases t==0 <;> simp
theorem zrq {ty:X→Int × Int} {fr:List Fr} {c:Col} {x:X} (h:Okt c.type (ty x)):exOk ty fr tb (c,x)=true:=by
 obtain ⟨t,h1,h2⟩:=h
 unfold exOk zeN
 simp only [h2,zo1 h1];rfl
theorem zq8 {α β:Type} {l:List α} {m:List β} {p:α × β} (h:p∈l.zip m):∃ j:Nat,l[j]?=some p.1∧m[j]?=some p.2:=by
 obtain ⟨j,hj⟩:=List.getElem?_of_mem h
 exact ⟨j,List.getElem?_zip_eq_some.1 hj⟩
theorem zt3 (hG:EnvT G) (ht:TbE G tbs tb) (hf:FsT' G frs) {r:List X} (h:zcS tbs M frs s.cols s.cols.length r):zdP (fun x=>za5 M x frs tb) frs tb s r=true:=by
 unfold zdP
 rw [decide_eq_true h.1,Bool.true_and,List.all_eq_true]
 intro p hp
 obtain ⟨j,h1,h2⟩:=zq8 hp
 exact zrq ((h.2 j p.1 p.2 h1 h2).types hG ht hf).2
theorem zrx {f:X→Int × Int} {q:Qy} {s:Sch} {ins:List Fr}:∀ (l:List X) (i:Nat) (o:List Int),(∀ x∈l,(f x).2=0)→ptsI f 0 q s ins tb l i o=(o++l.map fun x=>(f x).1,0)
 | [],i,o,_=>by simp [ptsI]
 | x::r,i,o,h=>by
  unfold ptsI
  rw [h x (by simp),zrx r (i+1) _ fun y hy=>h y (by simp [hy])]
  simp
theorem zvA (hG:EnvT G) (ht:TbE G tbs tb) (hf:FsT' G frs) (hs:s∈zal) (h:QyT tbs M frs s q):qTy (tyQ M frs tb) s q=true:=by
 cases h with
 | @mk f its wh hfm hc hw hx =>
  have hfi:=hf.ins ht hfm
  have hg:=ht.get f hfm
  have hty:∀ x∈its,∃ c∈s.cols,Okt c.type (za5 M x (frIn frs f) tb):=fun x hx=>by
   obtain ⟨c,h1,h2⟩:=zer hc hx
   exact ⟨c,h1,(h2.types hG ht hfi).2⟩
  have hcond:zdj (fun x=>za5 M x (frIn frs f) tb) wh=0:=(zii (f:=fun x=>za5 M x (frIn frs f) tb) fun x h=>((hx x h).types hG ht hfi).2).2
  have h0:tyQ M frs tb (Qy.mk false its f.name wh)=(its.map fun x=>(za5 M x (frIn frs f) tb).1,0):=by
   show pTys (fun x=>za5 M x (zas frs (zap tb f.name).1 []) tb) (zdj (fun x=>za5 M x (zas frs (zap tb f.name).1 []) tb) wh) (Qy.mk false its f.name wh) frs tb=_
   unfold pTys
   simp only [Qy.frm_mk,Qy.star_mk,Qy.items_mk,hg,zdm,hcond,Bool.not_true,cond_false]
   rw [zrx its 0 [] fun x hx=>by obtain ⟨c,_,t,_,e⟩:=hty x hx;rw [e]];rfl
  unfold qTy
  rw [h0]
  have h1:(its.map fun x=>(za5 M x (frIn frs f) tb).1).length=s.cols.length:=by simpa using hc.1
  simp only [h1,decide_true,Bool.true_and]
  have h2:(s.cols.zip (its.map fun x=>(za5 M x (frIn frs f) tb).1)).all asOk=true:=List.all_eq_true.2 fun p hp=>by
   obtain ⟨j,h3,h4⟩:=zq8 hp
   rw [List.getElem?_map] at h4
   cases hj:its[j]? with
   | none=>rw [hj] at h4;simp at h4
   | some x =>
    rw [hj] at h4
    simp only [Option.map_some,Option.some.injEq] at h4
    obtain ⟨t,h5,h6⟩:=((hc.2 j p.1 x h3 hj).types hG ht hfi).2
    unfold asOk
    rw [← h4,h6]
    exact zo1 h5
  rw [h2];rfl
theorem zti (hG:EnvT G) (ht:TbE G tbs tb) (hfi:FsT' G (frIn frs s)) (hs:s∈zal) {first i:Nat} {sets:List Se} (hI:SetsT tbs M frs s first i sets):sets.all (zfk (fun x=>za5 M x (frIn frs s) tb) (frIn frs s) tb s)=true:=List.all_eq_true.2 fun x hx=>by
 obtain ⟨j,hj⟩:=List.getElem?_of_mem hx
 obtain ⟨c,h1,h2,h3⟩:=hI.at_ j x hj
 have h4:=((zdL hs).cols _ c h1).at_
 simp only [bne_eq_false_iff_eq] at h4
 have h5:AtI s.cols (idxF (fun c=>colC c x.col) s.cols 0) c:=by
  rw [h2,h4]
  refine ⟨by omega,?_⟩
  rw [Int.toNat_natCast];exact h1
 rw [ziL h5]
 exact zrq (h3.types hG ht hfi).2
theorem ActT.chk (hG:EnvT G) (ht:TbE G tbs tb) (hS:TbE G zal tb) (hf:FsT' G frs) (h:ActT tbs M frs a):pchk M a frs tb=true:=by
 have hact:=h.act hG ht hS hf
 have hsrc:∃ s∈zal,a.table=s.name:=by cases h <;> exact ⟨_,by assumption,rfl⟩
 obtain ⟨s,hs,hn⟩:=hsrc
 have hg:=hS.get s hs
 have hok:(zap tb a.table).2=true:=by rw [hn,hg]
 have htab:(tabC tb a.table).sch=s:=by rw [← (zeA hok).2.1,hn,hg]
 have h0:(tgt a (actB (vX M) a) tb).2=0:=by unfold tgt;rw [hact,hok];rfl
 unfold pchk
 rw [h0,htab]
 have e0:(!((0:Int) != 0))=true:=rfl
 rw [e0,Bool.true_and]
 cases h with
 | @rows s' rows hs' h1 h2 hr =>
  have e:s'=s:=by
   have:=hS.get s' hs';rw [show s'.name=s.name from hn,hg] at this;exact (Prod.mk.inj this).1.symm
  subst e
  show zfh (fun x=>za5 M x frs tb) (tyQ M frs tb) frs tb s' _=true
  unfold zfh
  have h3:rows.all (zdP (fun x=>za5 M x frs tb) frs tb s')=true:=List.all_eq_true.2 fun r h=>zt3 hG ht hf (hr r h)
  simp only [h3,List.all_nil,Bool.and_self]
 | @copy s' q hs' hq =>
  have e:s'=s:=by
   have:=hS.get s' hs';rw [show s'.name=s.name from hn,hg] at this;exact (Prod.mk.inj this).1.symm
  subst e
  show zfh (fun x=>za5 M x frs tb) (tyQ M frs tb) frs tb s' (Ac.mk 1 s'.name [] [q] [] [] ⟨#[]⟩)=true
  unfold zfh
  simp only [List.all_nil,List.all_cons,zvA hG ht hf hs' hq,Bool.and_self]
 | @upd s' first i sets wh hs' h1 hI hw hx =>
  have e:s'=s:=by
   have:=hS.get s' hs';rw [show s'.name=s.name from hn,hg] at this;exact (Prod.mk.inj this).1.symm
  subst e
  have hfi:=hf.ins hS hs'
  show (sets.all (zfk (fun x=>za5 M x (zas frs s' []) tb) (zas frs s' []) tb s')&&!(zdj (fun x=>za5 M x (zas frs s' []) tb) wh != 0))=true
  rw [zdm,zti hG ht hfi hs' hI,(zii (f:=fun x=>za5 M x (frIn frs s') tb) fun x h=>((hx x h).types hG ht hfi).2).2];rfl
 | @del s' wh hs' hw hx =>
  have e:s'=s:=by
   have:=hS.get s' hs';rw [show s'.name=s.name from hn,hg] at this;exact (Prod.mk.inj this).1.symm
  subst e
  have hfi:=hf.ins hS hs'
  show (true&&!(zdj (fun x=>za5 M x (zas frs s' []) tb) wh != 0))=true
  rw [zdm,(zii (f:=fun x=>za5 M x (frIn frs s') tb) fun x h=>((hx x h).types hG ht hfi).2).2];rfl
end
/- ### the home of a statement -/
theorem zeR {s:Sch} (hs:s∈zal):TabN s.name∧zaA s.name=s:=by
 simp only [zal,List.mem_cons,List.not_mem_nil,or_false] at hs
 rcases hs with rfl|rfl|rfl
 ·exact ⟨.inr (.inr rfl),by kernel_rfl⟩
 ·exact ⟨.inl rfl,by kernel_rfl⟩
 ·exact ⟨.inr (.inl rfl),by kernel_rfl⟩
theorem zh3 (n:Str):zaA n∈zal∨(zaA n).cols=[]:=by
 unfold zaA zal
 simp only [zgm]
 cases ByteArray.toList _==ByteArray.toList n
 ·cases ByteArray.toList _==ByteArray.toList n
  ·cases ByteArray.toList _==ByteArray.toList n
   ·exact .inr rfl
   ·exact .inl (by simp)
  ·exact .inl (by simp)
 ·exact .inl (by simp)
def zkH (n:Str):List Col:=(zaA n).cols
theorem zoO:EnvT zkH:=by
 refine ⟨fun n c hc=>?_,fun n i c hc=>?_⟩
 ·rcases zh3 n with h|h
  ·obtain ⟨i,hi⟩:=List.getElem?_of_mem hc
   have:=((zdL h).cols i c hi).name
   simpa using this
  ·unfold zkH at hc;rw [h] at hc;cases hc
 ·rcases zh3 n with h|h
  ·have:=((zdL h).cols i c hc).at_
   simp only [bne_eq_false_iff_eq] at this
   exact this
  ·unfold zkH at hc;rw [h] at hc;simp at hc
theorem zkC {k:Int} {m:List Tb} (hm:StoreV k m):TbE zkH zal m:=by
 refine ⟨fun s hs=>?_,fun s hs=>?_,fun s hs=>?_⟩
 ·unfold zkH;rw [(zeR hs).2]
 ·unfold zcT;rw [zgN hs];rfl
 ·obtain ⟨t1,t2,t3,t4⟩:=zny hm (zeR hs).1
  have h1:=(zeA t4).2.1
  rw [t3,(zeR hs).2] at h1
  exact Prod.ext h1 t4
theorem zq1:FsT' zkH []:=⟨by simp,by simp,by simp⟩
theorem zuT {k:Int} {m:List Tb} (hm:StoreV k m) {M:Nat} {a:Ac} (h:ActT zal M [] a):pchk M a [] m=true:=h.chk zoO (zkC hm) (zkC hm) zq1
end Go.AM
namespace Go.AM
set_option maxRecDepth 100000
set_option maxHeartbeats 1000000
set_option linter.unusedSimpArgs false
set_option linter.unusedVariables false
theorem zvH {l:List Rw} {r:Rw} (hr:r∈l):(get6 r.id l).2=true:=by
 induction l with
 | nil=>cases hr
 | cons q l ih =>
  unfold get6
  cases h:q.id==r.id
  ·rcases List.mem_cons.1 hr with rfl|hr
   ·simp at h
   ·exact ih hr
  ·rfl
theorem znr {tr:Rw→Bool × Int} {a:Ac} {s:Sch} {frs:List Fr} {tb:List Tb} {t:Tb}:∀ (l:List Rw) (i:Nat) (del:List Int),(cndD tr a s frs tb t l i del).1.ins=[]∧(cndD tr a s frs tb t l i del).1.upd=[]
 | [],i,del=>by unfold cndD;exact ⟨rfl,rfl⟩
 | x::r,i,del=>by
  unfold cndD
  cases (tr x).2 != 0 <;> cases (tr x).1 <;> first|exact ⟨rfl,rfl⟩|exact znr r (i+1) _
end Go.AM
namespace Go.AM
set_option maxRecDepth 100000
set_option maxHeartbeats 1000000
set_option linter.unusedSimpArgs false
set_option linter.unusedVariables false
theorem zuH {l:List Rw} (ha:l.Pairwise fun a b=>a.id < b.id) {r:Rw} (hr:r∈l):get6 r.id l=(r.vals,true):=by
 induction l with
 | nil=>cases hr
 | cons q l ih =>
  obtain ⟨h1,h2⟩:=List.pairwise_cons.1 ha
  unfold get6
  rcases List.mem_cons.1 hr with rfl|hr
  ·simp
  ·have:=h1 r hr
   have hne:(q.id==r.id)=false:=by simp;omega
   rw [hne];exact ih h2 hr
end Go.AM
namespace Go.AM
set_option maxRecDepth 100000
set_option maxHeartbeats 1000000
set_option linter.unusedSimpArgs false
set_option linter.unusedVariables false
structure RowK (cols:List Col) (r:List V):Prop where
 len:r.length=cols.length
 at_:∀ (i:Nat) (c:Col) (v:V),cols[i]?=some c→r[i]?=some v→v.Good∧KOk v c.type
theorem RowK.of {cols:List Col} {r:List V} (h:zcU cols r):RowK cols r:=⟨h.len,fun i c v hc hv=>⟨(h.at_ i c v hc hv).good,(h.at_ i c v hc hv).kind⟩⟩
theorem RowK.good {cols:List Col} {r:List V} (h:RowK cols r):∀ v∈r,v.Good:=fun v hv=>by
 obtain ⟨i,hi⟩:=List.getElem?_of_mem hv
 obtain ⟨c,hc⟩:=zay (l:=cols) (i:=i) (by have:=zcj hi;have:=h.len;omega)
 exact (h.at_ i c v hc hi).1
theorem RowK.set {cols:List Col} {r:List V} (h:RowK cols r) {j:Nat} {c:Col} (hc:cols[j]?=some c) {v:V} (hg:v.Good) (hk:KOk v c.type):RowK cols (r.set j v):=by
 refine ⟨by simpa using h.len,fun i d u hd hu=>?_⟩
 by_cases e:j=i
 ·subst e
  rw [List.getElem?_set_self'] at hu
  cases hq:r[j]? with
  | none=>rw [hq] at hu;simp at hu
  | some q=>rw [hq] at hu;simp at hu;subst hu;rw [hc] at hd;cases hd;exact ⟨hg,hk⟩
 ·rw [List.getElem?_set_ne e] at hu;exact h.at_ i d u hd hu
theorem zeO {c:Int} (h:(c != 0)=false):c=0:=by simpa using h
theorem zoU {f:X→V × Int}:∀ (l:List X) (acc:List V),(∀ x∈l,COk (f x).2)→COk (zbB f l acc).2∧((zbB f l acc).2=0→(zbB f l acc).1=acc++l.map (fun x=>(f x).1)∧∀ x∈l,(f x).2=0)
 | [],acc,_=>⟨.inl rfl,fun _=>⟨by simp [zbB],by simp⟩⟩
 | x::r,acc,h=>by
  unfold zbB
  cases h1:(f x).2 != 0
  ·obtain ⟨a1,a2⟩:=zoU r (acc++[(f x).1]) fun y hy=>h y (by simp [hy])
   refine ⟨a1,fun h2=>?_⟩
   obtain ⟨b1,b2⟩:=a2 h2
   exact ⟨by simp only [cond_false];rw [b1];simp,fun y hy=>(List.mem_cons.1 hy).elim (fun e=>by rw [e];exact zeO h1) (b2 y)⟩
  ·exact ⟨h x (by simp),fun h2=>by simp only [cond_true] at h2;rw [h2] at h1;cases h1⟩
theorem zrj {f:X→V × Int} {n:Nat}:∀ (l:List (List X)) (acc:List (List V)),(∀ y∈l,y.length=n∧∀ x∈y,COk (f x).2)→COk (insL f n l acc).2∧((insL f n l acc).2=0→(insL f n l acc).1=acc++l.map (fun y=>y.map fun x=>(f x).1)∧∀ y∈l,∀ x∈y,(f x).2=0)
 | [],acc,_=>⟨.inl rfl,fun _=>⟨by simp [insL],by simp⟩⟩
 | y::r,acc,h=>by
  obtain ⟨h1,h2⟩:=h y (by simp)
  have e1:(y.length != n)=false:=by simpa using h1
  obtain ⟨c1,c2⟩:=zoU y [] h2
  unfold insL
  rw [e1]
  cases h3:(zbB f y []).2 != 0
  ·obtain ⟨d1,d2⟩:=c2 (zeO h3)
   obtain ⟨a1,a2⟩:=zrj r (acc++[(zbB f y []).1]) fun y hy=>h y (by simp [hy])
   refine ⟨a1,fun h4=>?_⟩
   obtain ⟨b1,b2⟩:=a2 h4
   exact ⟨by simp only [cond_false];rw [b1,d1];simp,fun z hz=>(List.mem_cons.1 hz).elim (fun e=>by rw [e];exact d2) (b2 z)⟩
  ·exact ⟨c1,fun h4=>by simp only [cond_true,cond_false] at h4;rw [h4] at h3;cases h3⟩
theorem znu {f:X→V × Int}:∀ (l:List X),(∀ x∈l,COk (f x).2)→COk (zcs f l).1∧((zcs f l).1=0→(zcs f l).2=l.map (fun x=>(f x).1)∧∀ x∈l,(f x).2=0)
 | [],_=>⟨.inl rfl,fun _=>⟨rfl,by simp⟩⟩
 | x::r,h=>by
  obtain ⟨a1,a2⟩:=znu r fun y hy=>h y (by simp [hy])
  unfold zcs
  cases h1:(f x).2 != 0
  ·cases h2:(zcs f r).1 != 0
   ·obtain ⟨b1,b2⟩:=a2 (zeO h2)
    refine ⟨.inl rfl,fun _=>⟨?_,fun y hy=>(List.mem_cons.1 hy).elim (fun e=>by rw [e];exact zeO h1) (b2 y)⟩⟩
    simp only [cond_false];rw [b1];rfl
   ·exact ⟨a1,fun h3=>by simp only [cond_true,cond_false] at h3;rw [h3] at h2;cases h2⟩
  ·exact ⟨h x (by simp),fun h3=>by simp only [cond_true] at h3;rw [h3] at h1;cases h1⟩
theorem zja {tr:Rw→Bool × Int} {rv:Rw→Int × List V} {P:List V→Prop}:∀ (l:List Rw) (out:List (List V)),(∀ r∈l,COk (tr r).2)→(∀ r∈l,COk (rv r).1∧((rv r).1=0→P (rv r).2))→(∀ v∈out,P v)→COk (zcg tr rv l out).1∧(∀ v∈(zcg tr rv l out).2,P v)∧(zcg tr rv l out).2.length≤out.length+l.length
 | [],out,_,_,h=>⟨.inl rfl,h,by simp [zcg]⟩
 | r::l,out,h1,h2,h3=>by
  have q1:∀ r∈l,COk (tr r).2:=fun y hy=>h1 y (by simp [hy])
  have q2:∀ r∈l,COk (rv r).1∧((rv r).1=0→P (rv r).2):=fun y hy=>h2 y (by simp [hy])
  obtain ⟨b1,b2⟩:=h2 r (by simp)
  unfold zcg
  cases e1:(tr r).2 != 0
  ·cases e2:(tr r).1
   ·obtain ⟨c1,c2,c3⟩:=zja l out q1 q2 h3
    exact ⟨c1,c2,by simp only [cond_false,List.length_cons];omega⟩
   ·cases e3:(rv r).1 != 0
    ·obtain ⟨c1,c2,c3⟩:=zja l (out++[(rv r).2]) q1 q2 fun v hv=>(List.mem_append.1 hv).elim (h3 v) fun h=>by simp only [List.mem_singleton] at h;exact h ▸ b2 (zeO e3)
     exact ⟨c1,c2,by simp only [cond_false,cond_true,List.length_cons,List.length_append,List.length_nil] at *;omega⟩
    ·exact ⟨b1,h3,by simp⟩
  ·exact ⟨h1 r (by simp),h3,by simp⟩
theorem ziM {f:X→V × Int} {wh:List X} (h:∀ x∈wh,Res 2 (f x)∧(f x).1.Good):COk (zb3 f wh).2 :=
 zk8 (ty:=fun _=>(2,0)) (by cases wh <;> rfl) fun x hx=>⟨(h x hx).2,fun _=>(h x hx).1⟩
theorem zqS {f:X→V × Int} {a:Ac} {s:Sch} {frs:List Fr} {tb:List Tb}:∀ (l:List Se) (i:Nat) (out:List V),RowK s.cols out→(∀ x∈l,∃ (j:Nat) (c:Col),s.cols[j]?=some c∧idxF (fun c=>colC c x.col) s.cols 0=(j:Int)∧Res c.type (f x.ex)∧(f x.ex).1.Good)→COk (asgL f a s frs tb l i out).2∧((asgL f a s frs tb l i out).2=0→RowK s.cols (asgL f a s frs tb l i out).1)
 | [],i,out,h,_=>⟨.inl rfl,fun _=>h⟩
 | x::r,i,out,h,hx=>by
  obtain ⟨j,c,h1,h2,h3,h4⟩:=hx x (by simp)
  have hj:=zcj h1
  have e1:decide (idxF (fun c=>colC c x.col) s.cols 0 < 0)=false:=by rw [h2];simp
  have e2:decide ((out.length:Int)≤idxF (fun c=>colC c x.col) s.cols 0)=false:=by rw [h2,h.len];simp;omega
  unfold asgL
  rw [e1,e2]
  cases h5:(f x.ex).2 != 0
  ·simp only [cond_false]
   refine zqS r (i+1) _ ?_ fun y hy=>hx y (by simp [hy])
   rw [h2,Int.toNat_natCast]
   exact h.set h1 h4 (h3.kind (zeO h5))
  ·exact ⟨h3.code,fun h6=>by simp only [cond_true,cond_false] at h6;rw [h6] at h5;cases h5⟩
theorem zlz {tr:Rw→Bool × Int} {ag:Rw→List V × Int} {a:Ac} {s:Sch} {frs:List Fr} {tb:List Tb} {t:Tb}:∀ (l:List Rw) (i:Nat) (upd:List Pr),(∀ r∈l,COk (tr r).2)→(∀ r∈l,COk (ag r).2)→COk (cndU tr ag a s frs tb t l i upd).2∧((cndU tr ag a s frs tb t l i upd).2=0→(cndU tr ag a s frs tb t l i upd).1=⟨[],[],upd++(l.filter fun r=>(tr r).1).map fun r=>⟨r.id,r.vals,(ag r).1⟩⟩∧∀ r∈l,(tr r).1=true→(ag r).2=0)
 | [],i,upd,_,_=>⟨.inl rfl,fun _=>⟨by simp [cndU],by simp⟩⟩
 | x::r,i,upd,h1,h2=>by
  have q1:∀ y∈r,COk (tr y).2:=fun y hy=>h1 y (by simp [hy])
  have q2:∀ y∈r,COk (ag y).2:=fun y hy=>h2 y (by simp [hy])
  unfold cndU
  cases e1:(tr x).2 != 0
  ·cases e2:(tr x).1
   ·obtain ⟨a1,a2⟩:=zlz r (i+1) upd q1 q2
    simp only [Bool.not_false,cond_false,cond_true]
    refine ⟨a1,fun h=>?_⟩
    obtain ⟨b1,b2⟩:=a2 h
    exact ⟨by rw [b1];simp [e2],fun y hy=>(List.mem_cons.1 hy).elim (fun e=>by rw [e,e2];intro h;cases h) (b2 y)⟩
   ·cases e3:(ag x).2 != 0
    ·obtain ⟨a1,a2⟩:=zlz r (i+1) (upd++[⟨x.id,x.vals,(ag x).1⟩]) q1 q2
     simp only [Bool.not_true,cond_false]
     refine ⟨a1,fun h=>?_⟩
     obtain ⟨b1,b2⟩:=a2 h
     exact ⟨by rw [b1];simp [e2],fun y hy=>(List.mem_cons.1 hy).elim (fun e _=>by rw [e];exact zeO e3) (b2 y)⟩
    ·exact ⟨h2 x (by simp),fun h=>by simp only [Bool.not_true,cond_false,cond_true] at h;rw [h] at e3;cases e3⟩
  ·exact ⟨h1 x (by simp),fun h=>by simp only [cond_true] at h;rw [h] at e1;cases e1⟩
theorem zlK {tr:Rw→Bool × Int} {a:Ac} {s:Sch} {frs:List Fr} {tb:List Tb} {t:Tb}:∀ (l:List Rw) (i:Nat) (del:List Int),(∀ r∈l,COk (tr r).2)→COk (cndD tr a s frs tb t l i del).2
 | [],i,del,_=>.inl rfl
 | x::r,i,del,h=>by
  have q1:∀ y∈r,COk (tr y).2:=fun y hy=>h y (by simp [hy])
  unfold cndD
  cases e1:(tr x).2 != 0
  ·cases e2:(tr x).1
   ·exact zlK r _ _ q1
   ·exact zlK r _ _ q1
  ·exact h x (by simp)
structure CandOk (t:Tb) (r:Ch × Int):Prop where
 code:COk r.2
 ch:r.2=0→ChV t r.1
 upd:r.2=0→∀ p∈r.1.upd,RowK t.sch.cols p.nw
 ins:r.2=0→∀ p∈r.1.ins,RowK t.sch.cols p
theorem zsl {t:Tb} {r:Ch × Int} (hc:COk r.2) (h:(r.2 != 0)=true):CandOk t r :=
 ⟨hc,fun h0=>(by rw [h0] at h;cases h),fun h0=>(by rw [h0] at h;cases h),fun h0=>(by rw [h0] at h;cases h)⟩
theorem zf2 {t:Tb} {rows:List (List V)} {c:Int} (hc:COk c) (hl:c=0→rows.length≤100000) (h:c=0→∀ r∈rows,RowK t.sch.cols r) (a:Ac):CandOk t (zhg (rows,c) a):=by
 unfold zhg
 cases e:c != 0
 ·have e0:=zeO e
  refine ⟨.inl rfl,fun _=>⟨.nil,fun _ h=>(by cases h),.nil,fun _ h=>(by cases h),fun r hr=>(h e0 r hr).len,by simp,by simp,hl e0⟩,fun _ p hp=>(by cases hp),fun _=>h e0⟩
 ·exact zsl hc e
section
variable {G : Str → List Col} {tbs : List Sch} {tb : List Tb} {M n : Nat} {tf vf : List Fr} {w : Int} {s : Sch} {a : Ac} {q : Qy}
theorem zie (hG:EnvT G) (hT:TbE G tbs tb) (hf:FsT' G tf) (hr:FrRel tf vf) (htb:TbT tb) {e:X} (h:XT tbs M tf w e):Res w (eval M e vf tb)∧(eval M e vf tb).1.Good:=by
 obtain ⟨⟨t,h1,h2⟩,_⟩:=h.types hG hT hf
 have:=sound M e tf vf tb t h.ok hr htb h2
 exact ⟨⟨this.code,fun h0=>KOk.trans (this.kind h0) h1⟩,zcW M e vf tb h.ok hr.g htb.g⟩
theorem FrRel.inK (hr:FrRel tf vf) {v:List V} (hv:zcU s.cols v):FrRel (frIn tf s) (zas vf s v):=by
 have:=hr.ins (t:=⟨s,0,[]⟩) hv
 rw [show zas tf (⟨s,0,[]⟩:Tb).sch []=frIn tf s from zdm tf s] at this
 exact this
theorem zjI (hG:EnvT G) (hT:TbE G tbs tb) (hf:FsT' G tf) (hr:FrRel tf vf) (htb:TbT tb) {its:List X} {cols:List Col} (h:zcS tbs M tf cols cols.length its):(∀ x∈its,COk (eval M x vf tb).2)∧((∀ x∈its,(eval M x vf tb).2=0)→RowK cols (its.map fun x=>(eval M x vf tb).1)):=by
 refine ⟨fun x hx=>?_,fun h0=>⟨by simpa using h.1,fun i c v hc hv=>?_⟩⟩
 ·obtain ⟨c,_,h1⟩:=zer h hx
  exact (zie hG hT hf hr htb h1).1.code
 ·rw [List.getElem?_map] at hv
  cases hj:its[i]? with
  | none=>rw [hj] at hv;simp at hv
  | some x =>
   rw [hj] at hv
   simp only [Option.map_some,Option.some.injEq] at hv
   subst hv
   have h1:=zie hG hT hf hr htb (h.2 i c x hc hj)
   exact ⟨h1.2,h1.1.kind (h0 x (List.mem_of_getElem? hj))⟩
theorem ActT.cand (hG:EnvT G) (hT:TbE G tbs tb) (hS:TbE G zal tb) (hf:FsT' G tf) (hr:FrRel tf vf) (htb:TbT tb) (hv:∀ t∈tb,TabV t) (h:ActT tbs M tf a):tabC tb a.table∈tb∧CandOk (tabC tb a.table) (zbT M a vf tb):=by
 have hact:=h.act hG hT hS hf
 have hsrc:∃ s∈zal,a.table=s.name:=by cases h <;> exact ⟨_,by assumption,rfl⟩
 obtain ⟨s,hs,hn⟩:=hsrc
 have hg:=hS.get s hs
 have hok:(zap tb a.table).2=true:=by rw [hn,hg]
 have htab:(tabC tb a.table).sch=s:=by rw [← (zeA hok).2.1,hn,hg]
 have hmem:=(zeA hok).2.2.1
 have ht:=hv _ hmem
 have hlen:=htb.len _ hmem
 have hrow:=htb.rows _ hmem
 have h0:(tgt a (actB (vX M) a) tb).2=0:=by unfold tgt;rw [hact,hok];rfl
 refine ⟨hmem,?_⟩
 unfold zbT
 rw [h0]
 have e0:((0:Int) != 0)=false:=rfl
 rw [e0,cond_false]
 generalize htt:tabC tb a.table=t at htab ht hlen hrow
 subst htab
 have same:∀ s':Sch,s'∈zal→s'.name=t.sch.name→s'=t.sch:=fun s' hs' e=>by
  have:=hS.get s' hs';rw [e,hg] at this;exact (Prod.mk.inj this).1.symm
 cases h with
 | @rows s' rows hs' h1 h2 hr' =>
  obtain rfl:=same s' hs' hn
  show CandOk t (zhg (cIns M (Ac.mk 1 t.sch.name rows [] [] [] ⟨#[]⟩) vf t.sch tb) (Ac.mk 1 t.sch.name rows [] [] [] ⟨#[]⟩))
  have hb:∀ y∈rows,y.length=t.sch.cols.length∧∀ x∈y,COk (eval M x vf tb).2:=fun y hy=>⟨(hr' y hy).1,(zjI hG hT hf hr htb (hr' y hy)).1⟩
  obtain ⟨c1,c2⟩:=zrj (f:=fun x=>eval M x vf tb) rows [] hb
  have e1:cIns M (Ac.mk 1 t.sch.name rows [] [] [] ⟨#[]⟩) vf t.sch tb=bif (insL (fun x=>eval M x vf tb) t.sch.cols.length rows []).2 != 0 then ([],(insL (fun x=>eval M x vf tb) t.sch.cols.length rows []).2) else ((insL (fun x=>eval M x vf tb) t.sch.cols.length rows []).1,0):=rfl
  rw [e1]
  cases e2:(insL (fun x=>eval M x vf tb) t.sch.cols.length rows []).2 != 0
  ·obtain ⟨d1,d2⟩:=c2 (zeO e2)
   rw [cond_false,d1]
   refine zf2 (.inl rfl) (fun _=>by simp;omega) (fun _ r hr2=>?_) _
   simp only [List.nil_append,List.mem_map] at hr2
   obtain ⟨y,hy,rfl⟩:=hr2
   exact (zjI hG hT hf hr htb (hr' y hy)).2 (d2 y hy)
  ·exact zf2 c1 (fun h=>by rw [h] at e2;cases e2) (fun h=>by rw [h] at e2;cases e2) _
 | @copy s' q hs' hq =>
  obtain rfl:=same s' hs' hn
  show CandOk t (zhg (cIns M (Ac.mk 1 t.sch.name [] [q] [] [] ⟨#[]⟩) vf t.sch tb) (Ac.mk 1 t.sch.name [] [q] [] [] ⟨#[]⟩))
  cases hq with
  | @mk f its wh hfm hc hw hx =>
   have hgf:=hT.get f hfm
   have hfd:zbU tb f.name=some (tabC tb f.name)∧(tabC tb f.name).sch=f∧tabC tb f.name∈tb:=by
    have h1:(zap tb f.name).2=true:=by rw [hgf]
    obtain ⟨k1,k2,k3,k4⟩:=zeA h1
    exact ⟨k1,by rw [← k2,hgf],k3⟩
   obtain ⟨k1,k2,k3⟩:=hfd
   generalize tabC tb f.name=tf' at k1 k2 k3
   subst k2
   have hfi:=hf.ins hT hfm
   have hri:∀ r∈tf'.rows,FrRel (frIn tf tf'.sch) (zav vf tf' r.vals):=fun r hr2=>hr.inK (htb.rows _ k3 r hr2)
   have hsel:=zja (tr:=fun r=>zb3 (fun x=>eval M x (zav vf tf' r.vals) tb) wh) (rv:=fun r=>zcs (fun x=>eval M x (zav vf tf' r.vals) tb) its) (P:=RowK t.sch.cols) tf'.rows []
    (fun r hr2=>ziM fun x hxw=>zie hG hT hfi (hri r hr2) htb (hx x hxw))
    (fun r hr2=>by
     obtain ⟨a1,a2⟩:=zjI hG hT hfi (hri r hr2) htb hc
     obtain ⟨b1,b2⟩:=znu its a1
     exact ⟨b1,fun h3=>by rw [(b2 h3).1];exact a2 (b2 h3).2⟩)
    (fun v hv=>by cases hv)
   obtain ⟨g1,g2,g3⟩:=hsel
   generalize hsr:zcg (fun r=>zb3 (fun x=>eval M x (zav vf tf' r.vals) tb) wh) (fun r=>zcs (fun x=>eval M x (zav vf tf' r.vals) tb) its) tf'.rows []=sr at g1 g2 g3
   have hev:zdt M (Qy.mk false its tf'.sch.name wh) vf tb=zd7 sr:=by
    unfold zdt
    rw [show (Qy.mk false its tf'.sch.name wh).frm=tf'.sch.name from rfl,k1,← hsr];rfl
   have e1:cIns M (Ac.mk 1 t.sch.name [] [Qy.mk false its tf'.sch.name wh] [] [] ⟨#[]⟩) vf t.sch tb=bif (zd7 sr).2 != 0 then ([],(zd7 sr).2) else bif !(zd7 sr).1.all (okW t.sch) then ([],5) else ((zd7 sr).1,0):=by rw [← hev];rfl
   rw [e1]
   have hle:=htb.len _ k3
   unfold zd7
   cases e2:sr.1 != 0
   ·have e3:sr.2.all (okW t.sch)=true:=List.all_eq_true.2 fun v hv=>by
     have:=(g2 v hv).len
     unfold okW wid;simp [this]
    simp only [cond_false,e3]
    exact zf2 (.inl rfl) (fun _=>by simp at g3;omega) (fun _=>g2) _
   ·simp only [cond_true,e2]
    exact zf2 g1 (fun h=>by rw [h] at e2;cases e2) (fun h=>by rw [h] at e2;cases e2) _
 | @upd s' first i sets wh hs' h1 hI hw hx =>
  obtain rfl:=same s' hs' hn
  have hfi:=hf.ins hS hs'
  have hri:∀ r∈t.rows,FrRel (frIn tf t.sch) (zas vf t.sch r.vals):=fun r hr2=>hr.inK (hrow r hr2)
  have htt:tabC tb t.sch.name=t:=htt
  have e1:∀ b:Ac,b=Ac.mk 2 t.sch.name [] [] sets wh ⟨#[]⟩→CandOk t (cndU (cTr M b vf t.sch tb) (cAg M b vf t.sch tb) b t.sch vf tb t t.rows 0 []):=fun b hb=>by
   have hset:∀ r∈t.rows,COk (cAg M b vf t.sch tb r).2∧((cAg M b vf t.sch tb r).2=0→RowK t.sch.cols (cAg M b vf t.sch tb r).1):=fun r hr2=>by
    refine zqS b.sets 0 r.vals (.of (hrow r hr2)) fun x hx2=>?_
    rw [hb] at hx2
    obtain ⟨j,hj⟩:=List.getElem?_of_mem hx2
    obtain ⟨c,q1,q2,q3⟩:=hI.at_ j x hj
    have q4:=((zdL hs').cols _ c q1).at_
    simp only [bne_eq_false_iff_eq] at q4
    have q5:=zie hG hT hfi (hri r hr2) htb q3
    exact ⟨_,c,q1,by rw [q2];exact q4,q5.1,q5.2⟩
   have hcd:∀ r∈t.rows,COk (cTr M b vf t.sch tb r).2:=fun r hr2=>by
    refine ziM fun x hxw=>?_
    rw [hb] at hxw
    exact zie hG hT hfi (hri r hr2) htb (hx x hxw)
   obtain ⟨c1,c2⟩:=zlz (a:=b) (s:=t.sch) (frs:=vf) (tb:=tb) (t:=t) t.rows 0 [] hcd fun r hr2=>(hset r hr2).1
   refine ⟨c1,fun h3=>?_,fun h3 p hp=>?_,fun h3 p hp=>?_⟩
   ·rw [(c2 h3).1]
    refine ⟨.nil,fun _ h=>(by cases h),?_,fun p hp=>?_,fun _ h=>(by cases h),by simp,?_,by simp⟩
    ·simp only [List.nil_append];rw [List.pairwise_map];exact ht.rows.asc.sublist List.filter_sublist
    ·simp only [List.nil_append,List.mem_map] at hp
     obtain ⟨r,hr2,rfl⟩:=hp
     obtain ⟨hr3,hr4⟩:=List.mem_filter.1 hr2
     exact ⟨zuH ht.rows.asc hr3,rfl,((hset r hr3).2 ((c2 h3).2 r hr3 hr4)).len⟩
    ·have:=List.length_filter_le (fun r=>(cTr M b vf t.sch tb r).1) t.rows;simp only [List.nil_append,List.length_map];omega
   ·rw [(c2 h3).1] at hp
    simp only [List.nil_append,List.mem_map] at hp
    obtain ⟨r,hr2,rfl⟩:=hp
    obtain ⟨hr3,hr4⟩:=List.mem_filter.1 hr2
    exact (hset r hr3).2 ((c2 h3).2 r hr3 hr4)
   ·rw [(c2 h3).1] at hp;cases hp
  have e2:=e1 _ rfl
  show CandOk t (cndU (cTr M (Ac.mk 2 t.sch.name [] [] sets wh ⟨#[]⟩) vf t.sch tb) (cAg M (Ac.mk 2 t.sch.name [] [] sets wh ⟨#[]⟩) vf t.sch tb) (Ac.mk 2 t.sch.name [] [] sets wh ⟨#[]⟩) t.sch vf tb (tabC tb t.sch.name) (tabC tb t.sch.name).rows 0 [])
  rw [htt];exact e2
 | @del s' wh hs' hw hx =>
  obtain rfl:=same s' hs' hn
  have hfi:=hf.ins hS hs'
  have hri:∀ r∈t.rows,FrRel (frIn tf t.sch) (zas vf t.sch r.vals):=fun r hr2=>hr.inK (hrow r hr2)
  have htt:tabC tb t.sch.name=t:=htt
  have e1:∀ b:Ac,b=Ac.mk 3 t.sch.name [] [] [] wh ⟨#[]⟩→CandOk t (cndD (cTr M b vf t.sch tb) b t.sch vf tb t t.rows 0 []):=fun b hb=>by
   have hcd:∀ r∈t.rows,COk (cTr M b vf t.sch tb r).2:=fun r hr2=>by
    refine ziM fun x hxw=>?_
    rw [hb] at hxw
    exact zie hG hT hfi (hri r hr2) htb (hx x hxw)
   have hform:=znr (tr:=cTr M b vf t.sch tb) (a:=b) (s:=t.sch) (frs:=vf) (tb:=tb) (t:=t) t.rows 0 []
   refine ⟨zlK t.rows 0 [] hcd,fun h3=>?_,fun h3 p hp=>?_,fun h3 p hp=>?_⟩
   ·have hdel:=(zjB t.rows 0 [] h3).2
    generalize (cndD (cTr M b vf t.sch tb) b t.sch vf tb t t.rows 0 []).1=c at hdel hform
    obtain ⟨c1,c2,c3⟩:=c
    simp only [List.nil_append] at hdel hform
    obtain ⟨rfl,rfl⟩:=hform
    subst hdel
    refine ⟨?_,fun d hd=>?_,.nil,fun _ h=>(by cases h),fun _ h=>(by cases h),?_,by simp,by simp⟩
    ·rw [List.pairwise_map];exact ht.rows.asc.sublist List.filter_sublist
    ·obtain ⟨r,hr2,rfl⟩:=List.mem_map.1 hd
     exact zvH (List.mem_filter.1 hr2).1
    ·have:=List.length_filter_le (fun r=>(cTr M b vf t.sch tb r).1) t.rows;simp only [List.length_map];omega
   ·rw [hform.2] at hp;cases hp
   ·rw [hform.1] at hp;cases hp
  have e2:=e1 _ rfl
  show CandOk t (cndD (cTr M (Ac.mk 3 t.sch.name [] [] [] wh ⟨#[]⟩) vf t.sch tb) (Ac.mk 3 t.sch.name [] [] [] wh ⟨#[]⟩) t.sch vf tb (tabC tb t.sch.name) (tabC tb t.sch.name).rows 0 [])
  rw [htt];exact e2
end
end Go.AM
namespace Go.AM
set_option maxRecDepth 100000
set_option maxHeartbeats 400000
set_option linter.unusedSimpArgs false
set_option linter.unusedVariables false
theorem fitL_k {cols:List Col}:∀ (r:List V),RowK cols r→fitL cols r=0∨fitL cols r=8:=by
 induction cols with
 | nil=>intro r _;exact .inl (by cases r <;> rfl)
 | cons c cs ih =>
  intro r h
  cases r with
  | nil=>exact .inl rfl
  | cons v vs =>
   have hr:RowK cs vs:=⟨by have:=h.len;simpa using this,fun i d u hd hu=>h.at_ (i+1) d u (by simpa using hd) (by simpa using hu)⟩
   have hv:=(h.at_ 0 c v rfl rfl).2
   have h4:fit4 c v=0∨fit4 c v=8:=by
    unfold fit4
    rcases hv with hv|hv
    ·rw [hv];cases c.notNull <;> simp
    ·cases h0:v.kind==0
     ·simp [hv]
     ·cases c.notNull <;> simp
   unfold fitL
   rcases h4 with h4|h4 <;> rw [h4]
   ·exact ih vs hr
   ·exact .inr rfl
theorem ztJ {s:Sch} {r:List V} (h:RowK s.cols r):fit5 s r=0∨fit5 s r=8:=by
 unfold fit5
 have:(r.length != s.cols.length)=false:=by simpa using h.len
 rw [this];exact fitL_k r h
theorem zq3 {s:Sch}:∀ (l:List Pr),(∀ p∈l,RowK s.cols p.nw)→zcw s l=0∨zcw s l=8
 | [],_=>.inl rfl
 | p::r,h=>by
  unfold zcw
  rcases ztJ (h p (by simp)) with h1|h1 <;> rw [h1]
  ·exact zq3 r fun q hq=>h q (by simp [hq])
  ·exact .inr rfl
theorem zrc {s:Sch}:∀ (l:List (List V)),(∀ p∈l,RowK s.cols p)→zcu s l=0∨zcu s l=8
 | [],_=>.inl rfl
 | p::r,h=>by
  unfold zcu
  rcases ztJ (h p (by simp)) with h1|h1 <;> rw [h1]
  ·exact zrc r fun q hq=>h q (by simp [hq])
  ·exact .inr rfl
structure DcD (m:List Tb) (a:Ac):Prop where
 chk:Pure S.dml_Check [a.av,fsl [],tsl m] (iv 0)
 cand:Pure S.dml_Candidates [a.av,fsl [],tsl m] (.tup [(zbT 6 a [] m).1.av,iv (zbT 6 a [] m).2])
 code:COk (zbT 6 a [] m).2
 tab:decide (idxF (fun t=>zaK t a.table) m 0 < 0)=false
 app:(zbT 6 a [] m).2=0→∃ (x:Tb) (g:Int),(g=0∨g=8∨g=9∨g=10)∧zac E0 S.ref7_Apply [(tabC m a.table).av,(zbT 6 a [] m).1.av] [] (.tup [x.av,iv g]) []
 valid:(zbT 6 a [] m).2=0→Pure S.ref7_Valid [(tabC m a.table).av,(zbT 6 a [] m).1.av] (bv true)
 short:zad m
theorem dcD_of (m:List Tb) (a:Ac) (hm:StoreV 5 m) (h:ActT zal 6 [] a):DcD m a:=by
 have hin:=zuI hm (by decide) (by decide) h.ok.1 h.ok.2
 have hso:=hm.ok
 have htb:TbT m:=⟨fun x hx=>(hso.tabs x hx).1.rows,fun x hx=>(hso.tabs x hx).1.len⟩
 have htv:∀ t∈m,TabV t:=fun t ht=>hm.tabV (by decide) ht
 obtain ⟨hmem,hc⟩:=h.cand zoO (zkC hm) (zkC hm) zq1 (vf:=[]) ⟨rfl,by simp⟩ htb htv
 have ht:=htv _ hmem
 obtain ⟨r,hr,hk⟩:=c_chk hin
 have hr0:=hr.2 (zuT hm h)
 subst hr0
 refine ⟨hk,zt1 hin,hc.code,?_,fun h0=>?_,fun h0=>zhd _ _ ht (hc.ch h0),zoX hm⟩
 ·have hsrc:∃ s∈zal,a.table=s.name:=by cases h <;> exact ⟨_,by assumption,rfl⟩
  obtain ⟨s,hs,hn⟩:=hsrc
  rw [hn];exact (zny hm (zeR hs).1).1
 ·obtain ⟨x,g,hq,hcall⟩:=zvF _ _ ht (hc.ch h0) (fun p hp=>(hc.upd h0 p hp).good) (fun p hp=>(hc.ins h0 p hp).good)
  refine ⟨x,g,?_,hcall⟩
  have h1:=zq3 _ (hc.upd h0)
  have h2:=zrc _ (hc.ins h0)
  rcases hq.err with h|h|h|h|h
  ·exact .inl h
  ·exact .inr (.inr (.inl h))
  ·exact .inr (.inr (.inr h))
  ·rw [h];rcases h1 with h1|h1 <;> simp [h1]
  ·rw [h];rcases h2 with h2|h2 <;> simp [h2]
theorem zmo (m:List Tb) (a:Ac) (h:DcD m a):zac E0 S.dml_Check [a.av,fsl [],tsl m] [] (iv 0) []:=h.chk
theorem ziN (m:List Tb) (a:Ac) (h:DcD m a):zac E0 S.dml_Candidates [a.av,fsl [],tsl m] [] (.tup [(zbT 6 a [] m).1.av,iv (zbT 6 a [] m).2]) []:=h.cand
theorem zlE (m:List Tb) (a:Ac) (h:DcD m a) (h0:(zbT 6 a [] m).2=0):∃ (x:Tb) (g:Int),(g=0∨g=8∨g=9∨g=10)∧zac E0 S.ref7_Apply [(tabC m a.table).av,(zbT 6 a [] m).1.av] [] (.tup [x.av,iv g]) []:=h.app h0
theorem zlI (m:List Tb) (a:Ac) (h:DcD m a) (h0:(zbT 6 a [] m).2=0):zac E0 S.ref7_Valid [(tabC m a.table).av,(zbT 6 a [] m).1.av] [] (bv true) []:=h.valid h0
theorem zmi (m:List Tb) (a:Ac) (h:DcD m a):∃ (_z:Unit),(0≤idxF (fun t=>zaK t a.table) m 0∧idxF (fun t=>zaK t a.table) m 0 < ((m.length:Nat):Int))∧zac E0 S.ref9_Find [tsl m,sv a.table] [] (iv (idxF (fun t=>zaK t a.table) m 0)) [] :=
 ⟨(),ztI h.tab,zqu m a.table h.short⟩
theorem zfD {g:Int} (h:g=0∨g=8∨g=9∨g=10) (h0:(g==0)=false) (h8:(g==8)=false) (h9:(g==9)=false) (h10:(g==10)=false):False:=by
 rcases h with rfl|rfl|rfl|rfl <;> simp at h0 h8 h9 h10
theorem zes {c:Int} (h:COk c) (hn:(c != 0)=true) (h6:(c==6)=false) (h7:(c==7)=false):False:=by
 rcases h with rfl|rfl|rfl <;> simp at hn h6 h7
def homeP :Pl :=
 Pl.mk [] zal
theorem zpN  (hs:zad zal):zac E0 S.world_Home [] [] homeP.av []:=by
 exact wk At.world_Home [sc zeH] kr
theorem zjr (l:List Int) (hsh:zad zal) (hkn:zac E0 S.law16_known [] [] (bv true) []) (hP:∀ m a,StoreV 5 m→ActT zal 6 [] a→DcD m a):∃ (b:Bool),b=true∧zac E0 S.law16_DmlChecked [isl l] [] (bv b) []:=by
 obtain ⟨t1,c1⟩:=(zp6 l)
 obtain ⟨r2,t2,q2,c2⟩:=(zhV t1 5 (by first|assumption|rfl|exact (hP _ _ (by assumption) (by assumption))|exact (hP _ _ (by assumption) (by assumption)).tab|exact eq_of_beq (by assumption)|exact bne_eq_false_iff_eq.1 (by assumption)|omega|(simp;done)) (by first|assumption|rfl|exact (hP _ _ (by assumption) (by assumption))|exact (hP _ _ (by assumption) (by assumption)).tab|exact eq_of_beq (by assumption)|exact bne_eq_false_iff_eq.1 (by assumption)|omega|(simp;done)))
 obtain ⟨r3,t3,q3,c3⟩:=(zg8 t2)
 let p_1:List St:=[sc c1,sl [0] c2,sc (zpN (by first|assumption|rfl|exact (hP _ _ (by assumption) (by assumption))|exact (hP _ _ (by assumption) (by assumption)).tab|exact eq_of_beq (by assumption)|exact bne_eq_false_iff_eq.1 (by assumption)|omega|(simp;done))),sl [0] c3,sc (zmo r2 r3 (by first|assumption|rfl|exact (hP _ _ (by assumption) (by assumption))|exact (hP _ _ (by assumption) (by assumption)).tab|exact eq_of_beq (by assumption)|exact bne_eq_false_iff_eq.1 (by assumption)|omega|(simp;done))),sb (rfl:false=false),sc (ziN r2 r3 (by first|assumption|rfl|exact (hP _ _ (by assumption) (by assumption))|exact (hP _ _ (by assumption) (by assumption)).tab|exact eq_of_beq (by assumption)|exact bne_eq_false_iff_eq.1 (by assumption)|omega|(simp;done)))]
 cases h4:(zbT 6 r3 [] r2).snd != 0
 ·obtain ⟨_z5,q5,c5⟩:=(zmi r2 r3 (by first|assumption|rfl|exact (hP _ _ (by assumption) (by assumption))|exact (hP _ _ (by assumption) (by assumption)).tab|exact eq_of_beq (by assumption)|exact bne_eq_false_iff_eq.1 (by assumption)|omega|(simp;done)))
  obtain ⟨x6,g6,q6,c6⟩:=(zlE r2 r3 (by first|assumption|rfl|exact (hP _ _ (by assumption) (by assumption))|exact (hP _ _ (by assumption) (by assumption)).tab|exact eq_of_beq (by assumption)|exact bne_eq_false_iff_eq.1 (by assumption)|omega|(simp;done)) (by first|assumption|rfl|exact (hP _ _ (by assumption) (by assumption))|exact (hP _ _ (by assumption) (by assumption)).tab|exact eq_of_beq (by assumption)|exact bne_eq_false_iff_eq.1 (by assumption)|omega|(simp;done)))
  let p_2:List St:=p_1++[sb h4,sc c5,se (zm9 r2 r3.table (by first|assumption|rfl|exact (hP _ _ (by assumption) (by assumption))|exact (hP _ _ (by assumption) (by assumption)).tab|exact eq_of_beq (by assumption)|exact bne_eq_false_iff_eq.1 (by assumption)|omega|(simp;done))),sc c6,sc (zlI r2 r3 (by first|assumption|rfl|exact (hP _ _ (by assumption) (by assumption))|exact (hP _ _ (by assumption) (by assumption)).tab|exact eq_of_beq (by assumption)|exact bne_eq_false_iff_eq.1 (by assumption)|omega|(simp;done)) (by first|assumption|rfl|exact (hP _ _ (by assumption) (by assumption))|exact (hP _ _ (by assumption) (by assumption)).tab|exact eq_of_beq (by assumption)|exact bne_eq_false_iff_eq.1 (by assumption)|omega|(simp;done))),sg (rfl:true=true)]
  cases h7:g6==0
  ·cases h8:g6==8
   ·cases h9:g6==9
    ·cases h10:g6==10
     ·exact ⟨false,(by first|rfl|exact (zfD (by assumption) (by assumption) (by assumption) (by assumption) (by assumption)).elim|exact (zes (hP _ _ (by assumption) (by assumption)).code (by assumption) (by assumption) (by assumption)).elim),wk At.law16_DmlChecked (p_2++[sg h7,sg h8,sg h9,sb h10]) kr⟩
     ·exact ⟨true,(by first|rfl|exact (zfD (by assumption) (by assumption) (by assumption) (by assumption) (by assumption)).elim|exact (zes (hP _ _ (by assumption) (by assumption)).code (by assumption) (by assumption) (by assumption)).elim),wk At.law16_DmlChecked (p_2++[sg h7,sg h8,sg h9,so h10 (sc hkn)]) kr⟩
    ·exact ⟨true,(by first|rfl|exact (zfD (by assumption) (by assumption) (by assumption) (by assumption) (by assumption)).elim|exact (zes (hP _ _ (by assumption) (by assumption)).code (by assumption) (by assumption) (by assumption)).elim),wk At.law16_DmlChecked (p_2++[sg h7,sg h8,sb h9,sc hkn]) kr⟩
   ·exact ⟨true,(by first|rfl|exact (zfD (by assumption) (by assumption) (by assumption) (by assumption) (by assumption)).elim|exact (zes (hP _ _ (by assumption) (by assumption)).code (by assumption) (by assumption) (by assumption)).elim),wk At.law16_DmlChecked (p_2++[sg h7,sb h8,sc hkn]) kr⟩
  ·exact ⟨true,(by first|rfl|exact (zfD (by assumption) (by assumption) (by assumption) (by assumption) (by assumption)).elim|exact (zes (hP _ _ (by assumption) (by assumption)).code (by assumption) (by assumption) (by assumption)).elim),wk At.law16_DmlChecked (p_2++[sb h7,sc hkn]) kr⟩
 ·cases h11:(zbT 6 r3 [] r2).snd==6
  ·cases h12:(zbT 6 r3 [] r2).snd==7
   ·exact ⟨false,(by first|rfl|exact (zfD (by assumption) (by assumption) (by assumption) (by assumption) (by assumption)).elim|exact (zes (hP _ _ (by assumption) (by assumption)).code (by assumption) (by assumption) (by assumption)).elim),wk At.law16_DmlChecked (p_1++[sb h4,sg h11,sb h12]) kr⟩
   ·exact ⟨true,(by first|rfl|exact (zfD (by assumption) (by assumption) (by assumption) (by assumption) (by assumption)).elim|exact (zes (hP _ _ (by assumption) (by assumption)).code (by assumption) (by assumption) (by assumption)).elim),wk At.law16_DmlChecked (p_1++[sb h4,sg h11,so h12 (sc hkn)]) kr⟩
  ·exact ⟨true,(by first|rfl|exact (zfD (by assumption) (by assumption) (by assumption) (by assumption) (by assumption)).elim|exact (zes (hP _ _ (by assumption) (by assumption)).code (by assumption) (by assumption) (by assumption)).elim),wk At.law16_DmlChecked (p_1++[sb h4,sb h11,sc hkn]) kr⟩
theorem ztR (l:List Int):zac E0 S.law16_DmlChecked [isl l] [] (bv true) []:=by
 obtain ⟨b,rfl,h⟩:=zjr l zfV znN dcD_of
 exact h
end Go.AM
namespace Go.AM
open Go.RowKit
set_option linter.unusedSimpArgs false
set_option linter.unusedVariables false
abbrev old (W:World):Addr→Prop:=fun a=>a.block < W.heap.size
theorem zqT {W:World} {a:Addr} {v:Value} (h:W.cell? a=some v):a.block < W.heap.size:=by
 unfold World.cell? at h
 cases hb:W.heap[a.block]? with
 | none=>rw [hb] at h;cases h
 | some o=>exact (Array.getElem?_eq_some_iff.1 hb).1
theorem relD_strs {W:World} {g:Nat} (l:List Str) (h:∀ (j:Nat) (s:Str),l[j]?=some s→W.cell? ⟨g,j,none⟩=some (.string s)):RelD W (old W) (.dp (l.map sv)) (.pointer (some ⟨g,0,none⟩)):=by
 refine .dp _ g 0 (fun j=>.string (l.getD j ⟨#[]⟩)) (fun j x hx=>?_) (fun j x hx=>?_)
 ·simp only [List.getElem?_map,Option.map_eq_some_iff] at hx
  obtain ⟨s,hs,rfl⟩:=hx
  have hc:=h j s hs
  rw [Nat.zero_add]
  refine ⟨zqT hc,?_,rfl⟩
  rw [hc,List.getD_eq_getElem?_getD,hs];rfl
 ·simp only [List.getElem?_map,Option.map_eq_some_iff] at hx
  obtain ⟨s,hs,rfl⟩:=hx
  have:l.getD j ⟨#[]⟩=s:=by rw [List.getD_eq_getElem?_getD,hs];rfl
  simp only [this]
  exact .v _ rfl
theorem zt7 {s:ByteArray} {l:List UInt8} (h:s.data.toList=l):s=zeD l:=by
 cases s with
 | mk d=>simp only [zeD];congr;rw [← h]
theorem laid_strs {P:Program} {W:World} {n:String} {g:Nat} {t e:TypeId} {k:Nat} {l:List (List UInt8)} (hr:Lib.VarReads P W n (.agg (l.map fun b=>.lit (.string b)))) (hg:P.globalNamed n=some g) (hty:(P.globals[g]?).map (·.type)=some t)
  (ht:P.underlying t=some (.array k e)) (he:P.underlying e=some .string) (hc:P.cellsOf e=1) (hk:l.length=k):∀ (j:Nat) (s:Str),(l.map zeD)[j]?=some s→W.cell? ⟨g,j,none⟩=some (.string s):=by
 intro j s hs
 obtain ⟨g',t',cs,fuel,p,h1,h2,h3,h4⟩:=hr
 obtain rfl:g'=g:=Option.some.inj (h1.symm.trans hg)
 obtain rfl:t'=t:=Option.some.inj (h2.symm.trans hty)
 simp only [List.getElem?_map,Option.map_eq_some_iff] at hs
 obtain ⟨b,hb,rfl⟩:=hs
 have hj:=zcj hb
 obtain ⟨f',d,q,hd,hq⟩:=Lib.array_elem ht h4 j (by omega)
 simp only [List.getElem?_map,hb,Option.map_some,Option.some.injEq] at hd
 subst hd
 obtain ⟨s,e1,e2,_⟩:=DataW.trod_string he hq
 rw [World.var?_cell h1 h3]
 rw [hc,Nat.mul_one] at e1
 have e3:cs.toList[j]?=some (.string s):=by
  have:=congrArg (·[0]?) e1
  simpa [List.getElem?_take,List.getElem?_drop] using this
 have e4:s=zeD b:=zt7 (by simp only [Prod.mk.injEq,DataW.lit.injEq,Lit.string.injEq] at e2;exact e2.1.symm)
 rw [← e4]
 simpa using e3
theorem relV_ints {W:World} {a:Addr} {len cap:Nat} {zs:List Int} (h1:len≤cap) (h2:cap≤maxLen) (h3:zs.length=cap) (hc:∀ i,i < zs.length→W.cell? (a.add i)=some (.int .i64 (zs.getD i 0))) :
  RelV E0.T [] [] W (old W) (isl (zs.take len)) (.slice (some a) len cap):=by
 have hlen:((zs.take len).map fun n=>[iv n]).length=len:=by simp;omega
 have key:=RelD.sl (w:=W) (S:=old W) ((zs.take len).map fun n=>[iv n]) (some a) cap a.block a.off 1 (fun k=>.int .i64 (zs.getD k 0)) ?_ (by rw [hlen];exact h1) h2 (fun i c hi=>?_) (fun i j c x hi hj=>?_) (fun i j c x hi hj=>?_)
 ·rw [hlen] at key
  exact .d _ _ key
 ·intro hne
  have hz:0 < zs.length:=by
   rcases Nat.eq_zero_or_pos zs.length with h|h
   ·exact absurd (by simp [List.eq_nil_of_length_eq_zero h]) hne
   ·exact h
  have h0:=hc 0 hz
  have:a.spot=none:=by
   simp only [Addr.add,if_pos] at h0
   unfold World.cell? at h0
   split at h0
   ·cases hs:a.spot with
    | none=>rfl
    | some x=>rw [hs] at h0;simp at h0
   ·cases h0
  cases a
  simp only at this
  subst this
  rfl
 ·simp only [List.getElem?_map,Option.map_eq_some_iff] at hi
  obtain ⟨n,_,rfl⟩:=hi
  rfl
 ·simp only [List.getElem?_map,Option.map_eq_some_iff] at hi
  obtain ⟨n,hn,rfl⟩:=hi
  have hi2:=zcj hn
  simp only [List.length_take] at hi2
  have hj0:j=0:=by
   cases j with
   | zero=>rfl
   | succ j=>simp at hj
  subst hj0
  have h0:=hc i (by omega)
  have e:a.add i=⟨a.block,a.off+(i * 1+0),none⟩:=by
   unfold Addr.add
   split
   ·rename_i hi0
    subst hi0
    have:a.spot=none:=by
     simp only [Addr.add,if_pos] at h0
     unfold World.cell? at h0
     split at h0
     ·cases hs:a.spot with
      | none=>rfl
      | some x=>rw [hs] at h0;simp at h0
     ·cases h0
    cases a
    simp only at this
    subst this
    rfl
   ·simp
  rw [e] at h0
  refine ⟨zqT h0,?_,rfl⟩
  rw [h0];simp
 ·simp only [List.getElem?_map,Option.map_eq_some_iff] at hi
  obtain ⟨n,hn,rfl⟩:=hi
  have hj0:j=0:=by
   cases j with
   | zero=>rfl
   | succ j=>simp at hj
  subst hj0
  simp only [List.getElem?_cons_zero,Option.some.injEq] at hj
  subst hj
  have:zs.getD (i * 1+0) 0=n:=by
   rw [List.getElem?_take] at hn
   split at hn
   ·simp only [Nat.mul_one,Nat.add_zero,List.getD_eq_getElem?_getD,hn];rfl
   ·cases hn
  simp only [this]
  exact .v _ rfl
theorem relV_nil {W:World}:RelV E0.T [] [] W (old W) (isl []) (.slice none 0 0) :=
 .d _ _ (RelD.sl [] none 0 0 0 1 (fun _=>.int .i64 0) (fun h=>absurd rfl h) (Nat.le_refl _) (by decide) (fun i c h=>by simp at h) (fun i j c x h=>by simp at h) (fun i j c x h=>by simp at h))
theorem oneCell_ok {P:Program} {w:World} {r:Reach} {b:Nat} {u:TypeId} {y:Value} (h:Cell.okWide P w r b u y):y.oneCell'=true:=by
 have h2:∀ y,Cell.ok P w r b u y→y.oneCell'=true:=by
  intro y h
  unfold Cell.ok at h
  split at h <;> first|rfl|exact h.elim
 unfold Cell.okWide at h
 split at h <;> first|rfl|exact h2 _ h
theorem calls_of {f:FuncId} {args:List AV} {b:Bool} (h:zac E0 f args [] (bv b) []) (hgo:GoFn E0.P f) {W:World} {vs:List Value} (hglob:∀ g cs,globs g=some cs→RelD W (old W) (.dp cs) (.pointer (some ⟨g,0,none⟩))) (hargs:PW (RelV E0.T [] [] W (old W)) args vs) :
  Calls E0.P f vs.toArray W fun e W'=>e=.returned (.bool b)∧Below W.heap.size W W':=by
 have hrel:Rel E0 [] [] (old W) W:=⟨rfl,fun b cs hb=>by simp at hb,fun b e xs sh hb=>by simp at hb,fun b es hb=>by simp at hb,fun b b' k k' g hb=>by simp at hb,fun b k g hb=>by simp at hb,fun a ha=>ha,fun b k g a hb=>by simp at hb,hglob⟩
 obtain ⟨fn,hf1,hf2,hf3⟩:=hgo
 have hp:∀ e W',Post E0 [] [] (old W) W (fun r' h''=>r'=bv b∧h''=[]) e W'→e=.returned (.bool b)∧Below W.heap.size W W':=by
  rintro e W' ⟨r,h',β',S',y,rfl,⟨rfl,rfl⟩,_,ex,rv⟩
  refine ⟨?_,ex.os,ex.tape,ex.output,ex.size,fun k hk=>ex.keep k hk fun b' k' hb=>by simp at hb⟩
  rw [rv.v_inv]
 rcases h [] (old W) W vs hrel hargs with ⟨_,hc⟩|⟨y,w',hrun,_⟩
 ·exact hc.mono hp
 ·exfalso
  simp only [callFunc,Sem.run_bind,Sem.run_pure,Result.andThen_ok,run_program,hf1,hf2,hf3,Bool.false_eq_true,if_false] at hrun
  cases hrun
end Go.AM
