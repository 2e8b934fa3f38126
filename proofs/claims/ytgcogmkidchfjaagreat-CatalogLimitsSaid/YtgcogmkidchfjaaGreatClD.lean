/-
  Contracts of the program's functions, part 3.
-/
import Derived.Test.YtgcogmkidchfjaaGreatClC
import Derived.Lib.Strings
import Derived.Shelf.Spec.SlicesGrow
set_option maxRecDepth 100000
set_option maxHeartbeats 40000000
set_option linter.unusedSimpArgs false
set_option linter.unusedVariables false
namespace Go.AM
theorem zlS {p:Prop} (h:p:=by first|(have h:=nm_end ‹_›;unfold zgh;rw [h,show decide (8 < ((List.map zaS l).length:Int))=false by assumption];rfl)|(have h:=‹_/\nmL [] _=false›;unfold zgh;rw [h.1,h.2];cases decide (8 < ((List.map zaS l).length:Int)) <;> rfl)|(unfold zgh;rw [show decide (8 < ((List.map zaS l).length:Int))=true by assumption];rfl)):p:=h
theorem zlT {p:Prop} (h:p:=by first|assumption|omega|(simp;done)|(simp;omega)):p:=h
def nmL:List Str->List Str->Bool
 | _,[]=>true
 | pre,s::r=>bif !zaT s then false else bif hasS pre s then false else nmL (pre++[s]) r
def zgh (l:List Str):Bool:=bif decide (8 < ((l.map zaS).length:Int)) then false else nmL [] l
theorem znJ {l:List Str} {i:Nat} {x:Str} (h:nmL [] l=nmL (l.take i) (l.drop i)) (hx:l[i]?=some x) (h1:(!zaT x)=false) (h2:hasS (l.take i) x=false):nmL [] l=nmL (l.take (i+1)) (l.drop (i+1)):=by
 obtain ⟨hi,e⟩:=List.getElem?_eq_some_iff.1 hx
 rw [h,List.drop_eq_getElem_cons hi,e]
 simp only [nmL,h1,h2,cond_false]
 rw [List.take_add_one,hx];rfl
theorem zhD {l:List Str} {i:Nat} {x:Str} (h:nmL [] l=nmL (l.take i) (l.drop i)) (hx:l[i]?=some x) (h1:(!zaT x)=true\/hasS (l.take i) x=true):nmL [] l=false:=by
 obtain ⟨hi,e⟩:=List.getElem?_eq_some_iff.1 hx
 rw [h,List.drop_eq_getElem_cons hi,e]
 rcases h1 with h1|h1
 ·simp only [nmL,h1,cond_true]
 ·simp only [nmL,h1,cond_true];cases !zaT x <;> rfl
theorem nm_end {l:List Str} (h:nmL [] l=nmL (l.take l.length) (l.drop l.length)):nmL [] l=true:=by
 rw [h,List.drop_length];rfl
noncomputable def L_nm (l:List Str) (i:Nat) :Cfg:=zaj B.AR 0 [(0,ssl l),(8,ssl l),(9,iv ((l.map zaS).length:Nat)),(10,iv (i:Nat))] []
theorem zeq (l:List Str) (hl:zae l) (i:Nat)  (hi:i<=(l).length) (hI:nmL [] l=nmL (l.take i) (l.drop i)):((nmL [] l=nmL (l.take (l).length) (l.drop (l).length))/\(decide ((((l).length:Nat):Int) < (((l.map zaS).length:Nat):Int))=false)/\∀ R,Good E0 B.AR [] (L_nm l (l).length ) R->Good E0 B.AR [] (L_nm l i ) R)\/(∃ (r:Bool),(r=false/\nmL [] l=false)/\Good E0 B.AR [] (L_nm l i ) (Shut 0 fun rZ hZ=>rZ=(bv r)/\hZ=[])):=by
 have hk:=hi;revert i;refine zlp ((l).length) (fun i hlt ih hi hI _=>?_)
 obtain ⟨x,hx,h0,hw⟩:=zlq (l:=l) ((l.map zaS).length) hlt
 have hc:zaa E0 S.By [.sl ((l.map zaS).take i),sv x] [] (bv (hasS (l.take i) x)) []:=by
  rw [← List.map_take];exact zd2 (l.take i) x (by simp only [zae,List.length_take] at *;omega)
 let p_1:List St:=[sb h0,se (zat (fun s=>[sv s]) hx rfl),sc (zaX x)]
 cases h1:!zaT x
 ·let p_2:List St:=p_1++[sg h1,sqx (SubAt (List.map (fun s=>[sv s]) l) 0 (i:Int) 1),sc hc]
  cases h2:hasS (List.take i l) x
  ·exact zie2 (ih Zo (by exact znJ hI hx ‹_› ‹_›) Zo) fun R gY=>zab (wkl (p_2++[sb h2,si hw]) [0,8,9,10] 0 kr gY)
  ·exact .inr ⟨false,(by first|exact ⟨rfl,zhD hI hx (.inl ‹_›)⟩|exact ⟨rfl,zhD hI hx (.inr ‹_›)⟩),zab (wkr (p_2++[sb h2]) kr)⟩
 ·exact .inr ⟨false,(by first|exact ⟨rfl,zhD hI hx (.inl ‹_›)⟩|exact ⟨rfl,zhD hI hx (.inr ‹_›)⟩),zab (wkr (p_1++[sb h1]) kr)⟩
theorem zh4 (l:List Str) (hl:zae l):∃ (r:Bool),r=zgh l/\zaa E0 S.AR [ssl l] [] (bv r) []:=by
 cases h1:decide (8 < (↑(List.map (fun s=>[sv s]) l).length:Int))
 ·rcases zeq l zlT 0 zlT zlT with ⟨q2,q2_1,g2⟩|⟨r2_0,p2_0,g2⟩
  ·exact ⟨true,zlS,wkc At.AR [sb h1] [0,8,9,10] 0 kr (g2 _ (zab (wkr [sb q2_1] kr)))⟩
  ·exact ⟨r2_0,zlS,wkc At.AR [sb h1] [0,8,9,10] 0 kr (g2)⟩
 ·exact ⟨false,zlS,wk At.AR [sb h1] kr⟩
theorem zii (l:List Str) (hl:zae l):zaa E0 S.AR [ssl l] [] (bv (zgh l)) []:=by
 obtain ⟨r,rfl,h⟩:=zh4 l hl
 exact h
def pfit (a b:Int):Bool :=
 bif a==0 then
  true
 else
  bif b==0 then
   true
  else
   a==b
theorem PrefOk.good {cols:List Col} {vals:List V} (h:zcR cols vals):∀ v∈vals,v.Good:=fun v hv=>by
 obtain ⟨k,hk,hkv⟩:=List.mem_iff_getElem.1 hv
 have hl:=h.len
 obtain ⟨c,hc⟩:=zdG (l:=cols) (i:=k) Zo
 exact (h.at_ k c v hc (by rw [← hkv];simp)).good
theorem FsT.ok {frs:List Fr} (h:FsT frs) (n:Nat) (hn:n<=900000):FsOk n frs :=
 ⟨by have:=h.len;omega,fun f hf=>zaR (h.few f hf),fun f hf v hv=>((h.rows f hf).good v hv).small⟩
theorem FsT.g {frs:List Fr} (h:FsT frs):FsG frs:=fun f hf v hv=>(h.rows f hf).good v hv
structure Sound (ty:Int × Int) (ev:V × Int):Prop where
 code:ty.2=0->ev.2=0\/ev.2=6\/ev.2=7
 kind:ty.2=0->ev.2=0->ev.1.kind=0\/ev.1.kind=ty.1
structure Res (w:Int) (r:V × Int):Prop where
 code:r.2=0\/r.2=6\/r.2=7
 kind:r.2=0->r.1.kind=0\/r.1.kind=w
abbrev KOk (v:V) (k:Int):Prop:=v.kind=0\/v.kind=k
/- ### types of operations -/
theorem KOk.trans {v:V} {t k:Int} (h:KOk v t) (ht:t=0\/t=k):KOk v k:=by
 rcases h with h|h
 ·exact .inl h
 ·rcases ht with rfl|rfl
  ·exact .inl h
  ·exact .inr h
inductive Typed:List V->List Int->Prop
 | nil:Typed [] []
 | cons {v:V} {t:Int} {l:List V} {ts:List Int}:KOk v t->Typed l ts->Typed (v::l) (t::ts)
def er (f:Fr):Fr:=⟨f.name,f.strict,f.cols,[]⟩
theorem zkV (frs:List Fr) (k:Nat):(frs.map er).getD k zbq=er (frs.getD k zbq):=by
 simp only [List.getD_eq_getElem?_getD,List.getElem?_map]
 cases frs[k]? <;> rfl
theorem zk0 (frs:List Fr) (q n:Str):∀ k,rres (frs.map er) q n k=rres frs q n k
 | 0=>rfl
 | k+1=>by
  simp only [rres,zj9,zkV,zk0 frs q n k]
  rfl
theorem zkG (frs:List Fr) (q n:Str):zfw (frs.map er) q n=zfw frs q n:=by
 unfold zfw;rw [List.length_map,zk0]
theorem zmx (frs:List Fr) (q n:Str):rFr (frs.map er) q n=er (rFr frs q n):=by
 unfold rFr;rw [zkG,zkV]
structure FrRel (tf vf:List Fr):Prop where
 eq:tf.map er=vf.map er
 rows:∀ f∈vf,zcR f.cols f.vals
theorem FrRel.cols {tf vf:List Fr} (h:FrRel tf vf) (q n:Str):(rFr tf q n).cols=(rFr vf q n).cols:=by
 have:er (rFr tf q n)=er (rFr vf q n):=by rw [← zmx,← zmx,h.eq]
 exact (congrArg Fr.cols this:(er _).cols=(er _).cols)
theorem FrRel.ins {tf vf:List Fr} (h:FrRel tf vf) {t:Tb} {v:List V} (hv:zcR t.sch.cols v):FrRel (zcL tf t.sch []) (zbD vf t v):=by
 refine ⟨by simp only [zcL,zbD,List.map_append,h.eq];rfl,fun f hf=>?_⟩
 simp only [zbD,List.mem_append,List.mem_singleton] at hf
 rcases hf with hf|rfl
 ·exact h.rows f hf
 ·exact hv
theorem zka (tb:List Tb) (n:Str):∀ (l:List Tb) (i:Nat),zeA tb n l i=match l.find? (fun t=>zaC t n) with|some t=>(t.sch,true)|none=>(⟨⟨#[]⟩,[]⟩,false)
 | [],i=>rfl
 | x::r,i=>by
  simp only [zeA,List.find?,zaC]
  cases h:x.sch.name.toList==n.toList
  ·exact zka tb n r _
  ·rfl
theorem zhI (tb:List Tb) (n:Str):zcn tb n=match zje tb n with|some t=>(t.sch,true)|none=>(⟨⟨#[]⟩,[]⟩,false):=zka tb n tb 0
structure TbT (tb:List Tb):Prop where
 rows:∀ x∈tb,∀ r∈x.rows,zcR x.sch.cols r.vals
 len:∀ x∈tb,x.rows.length<=1000
theorem TbT.g {tb:List Tb} (h:TbT tb):TbG tb:=⟨fun x hx r hr v hv=>(h.rows x hx r hr).good v hv,h.len⟩
theorem FrRel.g {tf vf:List Fr} (h:FrRel tf vf):FsG vf:=fun f hf v hv=>(h.rows f hf).good v hv
theorem zkj {tb:List Tb} {n:Str} {x:Tb} (h:AtI tb (idxF (fun t=>zaC t n) tb 0) x):zcn tb n=(x.sch,true):=by
 obtain ⟨h0,h1⟩:=h
 rw [zhI]
 rcases zid (fun t=>zaC t n) tb 0 with ⟨h2,_⟩|⟨j,y,h2,h3,h4⟩
 ·omega
 ·rw [h2] at h1
  have:((0+j:Nat):Int).toNat=j:=by omega
  rw [this,h3] at h1
  cases h1
  unfold zje;rw [h4]
theorem zki {tb:List Tb} {n:Str} (h:decide (idxF (fun t=>zaC t n) tb 0 < 0)=true):zcn tb n=(⟨⟨#[]⟩,[]⟩,false):=by
 rw [zhI]
 rcases zid (fun t=>zaC t n) tb 0 with ⟨_,h2⟩|⟨j,y,h2,h3,h4⟩
 ·unfold zje;rw [h2]
 ·simp only [decide_eq_true_eq] at h;omega
theorem znD {tb:List Tb} {n:Str} (h:decide (idxF (fun t=>zaC t n) tb 0 < 0)=false):0<=idxF (fun t=>zaC t n) tb 0/\idxF (fun t=>zaC t n) tb 0 < ((tb.length:Nat):Int):=by
 simp only [decide_eq_false_iff_not] at h
 have:=zkX (fun t=>zaC t n) tb 0
 exact ⟨by omega,by rcases this with h|h <;> omega⟩
theorem zdE (t:Tb) (n:Str) :zaa E0 S.Bs [.agg t.cells,.p 0 0] [.box [sv n]] (bv (zaC t n)) [.box [sv n]]:=by
 exact wk At.Bs [] kr
noncomputable def zjo (tb:List Tb) (n:Str) (i:Nat):Cfg:=zaj B.Ae 0 [(0,.sl (tb.map Tb.cells)),(1,.fn S.Bs [.p 0 0]),(7,iv ((tb.map Tb.cells).length:Nat)),(8,iv (i:Nat))] [.box [sv n]]
theorem zkx (tb:List Tb) (n:Str) (hl:zae tb):∀ (k i:Nat),i+k=tb.length->Good E0 B.Ae [.box [sv n]] (zjo tb n i) (Shut 1 fun r h=>r=iv (idxF (fun t=>zaC t n) (tb.drop i) i)/\h=[.box [sv n]]):=by
 intro k
 induction k with
 | zero =>
  intro i hi
  refine zab ?_
  have h0:decide ((i:Int) < (((tb.map Tb.cells).length:Nat):Int))=false:=by simp;omega
  have e0:tb.drop i=[]:=List.drop_of_length_le Zo
  rw [e0]
  exact zeF E0ok mix0 3000 (y:=AV.v (Value.int IntKind.i64 (-1:Int))) (H:=[Blk.box [AV.v (Value.string n)]]) [sb h0] kr (⟨rfl,rfl⟩)
 | succ k ih =>
  intro i hi
  have ih:=ih (i+1) Zo
  obtain ⟨x,hx⟩:=zdG (l:=tb) (i:=i) Zo
  have h0:decide ((i:Int) < (((tb.map Tb.cells).length:Nat):Int))=true:=by simp;omega
  have hw:=zch i Zo
  rw [zbw hx]
  simp only [idxF]
  refine zab ?_
  cases h1:zaC x n
  ·exact zbX E0ok mix0 3000 (c':=zjo tb n (i+(1:Nat))) [sb h0,se (zat Tb.cells hx rfl),sl [(0:Nat)] (zdE x n),sb h1,si hw] [0,1,7,8] 1 kr kr (by simpa only [cond_true,cond_false,h1] using ih)
  ·exact zeF E0ok mix0 3000 (y:=AV.v (Value.int IntKind.i64 (i:Int))) (H:=[Blk.box [AV.v (Value.string n)]]) [sb h0,se (zat Tb.cells hx rfl),sl [(0:Nat)] (zdE x n),sb h1] kr (⟨by simp only [cond_true,cond_false,h1],rfl⟩)
theorem zmM (tb:List Tb) (n:Str) (hl:zae tb):zaa E0 S.Ae [.sl (tb.map Tb.cells),.fn S.Bs [.p 0 0]] [.box [sv n]] (iv (idxF (fun t=>zaC t n) tb 0)) [.box [sv n]]:=by
 exact zfl E0ok mix0 At.Ae rfl kr kr 3000 (c':=zjo tb n (0:Nat)) [] [0,1,7,8] 1 kr kr (by simpa using zkx tb n hl tb.length 0 Zs)
theorem zh3 (tb:List Tb) (n:Str) (h2:zae tb) (h3:∀ x∈tb,zae x.sch.cols) (hix:zaa E0 S.Ae [.sl (tb.map Tb.cells),.fn S.Bs [.p 0 0]] [.box [sv n]] (iv (idxF (fun t=>zaC t n) tb 0)) [.box [sv n]]):∃ (s:Sch) (b:Bool),(s,b)=zcn tb n/\zaa E0 S.BK [tsl tb,sv n] [] (.tup [s.av,bv b]) []:=by
 cases h1:decide (idxF (fun t=>zaC t n) tb 0 < 0)
 ·obtain ⟨x2,e2⟩:=zmg (l:=tb) (i:=idxF (fun t=>zaC t n) tb (0:Nat)) (by exact znD ‹_›)
  exact ⟨x2.sch,true,(by first|exact (zkj ‹_›).symm|exact (zki ‹_›).symm),wk At.BK [sqx ((True/\x2.sch.cols.length=(List.map Col.cells x2.sch.cols).length/\True)/\True/\True),sl [0] hix,sb h1,se (ziv Tb.cells e2 rfl),sc (zbe x2.sch.cols (by first|assumption|exact h3 _ (List.mem_of_getElem? (And.right ‹AtI _ _ _›))))] kr⟩
 ·exact ⟨Sch.mk Zs0 [],false,(by first|exact (zkj ‹_›).symm|exact (zki ‹_›).symm),wk At.BK [sl [0] hix,sb h1] kr⟩
theorem zih (tb:List Tb) (n:Str) (h2:zae tb) (h3:∀ x∈tb,zae x.sch.cols):zaa E0 S.BK [tsl tb,sv n] [] (.tup [(zcn tb n).1.av,bv (zcn tb n).2]) []:=by
 obtain ⟨s,b,h,h2⟩:=zh3 tb n h2 h3 (zmM tb n h2)
 rw [← h];exact h2
structure Pr where
 id:Int
 old:List V
 nw:List V
def Pr.cells (p:Pr):List AV:=[iv p.id,vsl p.old,vsl p.nw]
@[simp] theorem Pr.cells_length (x:Pr):x.cells.length=3:=rfl
structure Ch where
 ins:List (List V)
 del:List Int
 upd:List Pr
def Ch.cells (c:Ch):List AV:=[.sl (c.ins.map vrow),isl c.del,.sl (c.upd.map Pr.cells)]
abbrev Ch.av (c:Ch):AV:=.agg c.cells
section
variable {f : X -> V × Int} {g : Qy -> List (List V) × Int} {s : Sch} {a : Ac} {out1 out2 r : List (List V)} {c : Int}
end
def keyL:List Col->Nat->Int->Int
 | [],_,k=>k
 | c::r,i,k=>keyL r (i+1) (bif c.key then (i:Int) else k)
abbrev keyC (s:Sch):Int:=keyL s.cols 0 (-1)
structure RowsV (s:Sch) (next:Int) (rows:List Rw):Prop where
 fit:zeQ s rows
 asc:rows.Pairwise fun a b=>a.id < b.id
 ids:∀ r∈rows,1<=r.id/\r.id < next
 keys:0<=keyC s->rows.Pairwise fun a b=>zaz a.vals (keyC s)≠zaz b.vals (keyC s)
 pos:1<=next
theorem RowsV.nil {s:Sch} {next:Int} (h:1<=next):RowsV s next []:=⟨fun _ h=>(by cases h),.nil,fun _ h=>(by cases h),fun _=>.nil,h⟩
theorem RowsV.push {s:Sch} {next m:Int} {rows:List Rw} {v:List V} (h:RowsV s next rows) (hv:zcR s.cols v) (hf:∀ r∈rows,keyC s < 0\/zaz r.vals (keyC s)≠zaz v (keyC s)) (hm:next < m):RowsV s m (rows++[⟨next,v⟩]):=by
 refine ⟨h.fit.push hv,?_,?_,?_,by have:=h.pos;omega⟩
 ·rw [List.pairwise_append];exact ⟨h.asc,by simp,fun a ha b hb=>by simp only [List.mem_singleton] at hb;subst hb;exact (h.ids a ha).2⟩
 ·intro r hr
  rcases List.mem_append.1 hr with hr|hr
  ·have:=h.ids r hr;omega
  ·simp only [List.mem_singleton] at hr;subst hr;have:=h.pos;simp only;omega
 ·intro hk
  rw [List.pairwise_append];exact ⟨h.keys hk,by simp,fun a ha b hb=>by simp only [List.mem_singleton] at hb;subst hb;exact (hf a ha).resolve_left Zo⟩
structure StoreV (n:Int) (l:List Tb):Prop where
 schs:l.map Tb.sch=zaI
 rows:∀ t∈l,RowsV t.sch t.next t.rows
 next:∀ t∈l,t.next<=3000
 len:∀ t∈l,(t.rows.length:Int)<=n
structure StoreP (n:Int) (i:Nat) (l:List Tb):Prop where
 schs:l.map Tb.sch=zaI.take i
 tabs:∀ t∈l,RowsV t.sch t.next t.rows/\t.next<=3000/\(t.rows.length:Int)<=n
theorem StoreP.push {n:Int} {i:Nat} {l:List Tb} {x:Sch} {nx:Int} {rs:List Rw} (h:StoreP n i l) (hx:zaI[i]?=some x) (ht:(rs.length:Int)<=n/\RowsV x nx rs/\nx<=3000):StoreP n (i+1) (l++[⟨x,nx,rs⟩]) :=
 ⟨by rw [List.map_append,h.schs,List.take_add_one,hx];rfl,fun t hm=>(List.mem_append.1 hm).elim (h.tabs t) fun h=>by simp only [List.mem_singleton] at h;subst h;exact ⟨ht.2.1,ht.2.2,ht.1⟩⟩
theorem StoreP.all {n:Int} {l:List Tb} (h:StoreP n zaI.length l):StoreV n l :=
 ⟨by rw [h.schs,List.take_length],fun t ht=>(h.tabs t ht).1,fun t ht=>(h.tabs t ht).2.1,fun t ht=>(h.tabs t ht).2.2⟩
theorem StoreV.ok {n:Int} {l:List Tb} (h:StoreV n l) (hn:n<=1000:=by decide):StoreOk l :=
 ⟨by have:=congrArg List.length h.schs;simp [zaI] at this;omega,fun t ht=>⟨⟨(h.rows t ht).fit,by have:=h.len t ht;omega⟩,znl (by rw [← h.schs];exact List.mem_map_of_mem ht)⟩⟩
def XFl:Nat->X->Prop
 | 0,_=>False
 | n+1,e=>e.val.Good/\Thin 3 e.args/\e.sub=[]/\∀ x∈e.args,XFl n x
theorem XFl.ok:∀ {n:Nat} {e:X},XFl n e->XOk n e
 | 0,_,h=>h.elim
 | n+1,e,⟨h1,h2,h3,h4⟩=>⟨h1,⟨h2,by rw [h3];simp⟩,fun x hx=>(h4 x hx).ok,fun q hq=>by rw [h3] at hq;cases hq⟩
theorem XFl.mono:∀ {n:Nat} {e:X},XFl n e->XFl (n+1) e
 | 0,_,h=>h.elim
 | n+1,e,⟨h1,h2,h3,h4⟩=>⟨h1,h2,h3,fun x hx=>(h4 x hx).mono⟩
theorem znw (n:Nat) (hn:n<=255) (hA:decide ((4294967296:Int)<=((n:Nat):Int))=false) (hB:decide ((65536:Int)<=((n:Nat):Int))=false) (hC:decide ((256:Int)<=((n:Nat):Int))=false):∃ (r:Int),zaa E0 S.BX [.v (.int .u64 (n:Nat))] [] (iv r) []:=by
 obtain ⟨c1,b1⟩:=zma (s:=ByteArray.mk (([0,1,2,2,3,3,3,3,4,4,4,4,4,4,4,4,5,5,5,5,5,5,5,5,5,5,5,5,5,5,5,5,6,6,6,6,6,6,6,6,6,6,6,6,6,6,6,6,6,6,6,6,6,6,6,6,6,6,6,6,6,6,6,6].append [7,7,7,7,7,7,7,7,7,7,7,7,7,7,7,7,7,7,7,7,7,7,7,7,7,7,7,7,7,7,7,7,7,7,7,7,7,7,7,7,7,7,7,7,7,7,7,7,7,7,7,7,7,7,7,7,7,7,7,7,7,7,7,7]).append ([8,8,8,8,8,8,8,8,8,8,8,8,8,8,8,8,8,8,8,8,8,8,8,8,8,8,8,8,8,8,8,8,8,8,8,8,8,8,8,8,8,8,8,8,8,8,8,8,8,8,8,8,8,8,8,8,8,8,8,8,8,8,8,8].append [8,8,8,8,8,8,8,8,8,8,8,8,8,8,8,8,8,8,8,8,8,8,8,8,8,8,8,8,8,8,8,8,8,8,8,8,8,8,8,8,8,8,8,8,8,8,8,8,8,8,8,8,8,8,8,8,8,8,8,8,8,8,8,8])).toArray) (i:=(n:Int)) (by exact ⟨by omega,(show (((n:Nat):Int) < 256)=(((n:Nat):Int) < _) by kernel_rfl) ▸ (show ((n:Nat):Int) < 256 by omega)⟩)
 exact ⟨IntKind.i64.wrap (0+IntKind.i64.wrap (c1.toNat:Int)),wk At.BX [sb hA,sb hB,sb hC,si (wrapN8 (t:=(n:Int)) (n:=n) Zo Zo),sy b1,si (e:=IntKind.i64.wrap (c1.toNat:Int)) rfl,si (e:=IntKind.i64.wrap (0+IntKind.i64.wrap (c1.toNat:Int))) rfl] kr⟩
theorem zgK (n:Nat) (hn:n<=255):∃ r:Int,zaa E0 S.BX [.v (.int .u64 (n:Nat))] [] (iv r) []:=znw n hn Zp Zp Zp
theorem zeG (n:Nat) (hn:n<=255):∃ (r:Int),zaa E0 S.Ce [.v (.int .u64 (n:Nat))] [] (iv r) []:=by
 obtain ⟨r1,c1⟩:=(zgK n (by first|assumption|omega|(simp;done)|(simp;omega)))
 exact ⟨r1,wk At.Ce [sc c1] kr⟩
def insI:Nat->List Int->List Int
 | 0,l=>l
 | k+1,l=>bif decide (l.getD (k+1) 0 < l.getD k 0) then insI k ((l.set (k+1) (l.getD k 0)).set k (l.getD (k+1) 0)) else l
theorem zjT:∀ (k:Nat) (l:List Int),(insI k l).length=l.length
 | 0,_=>rfl
 | k+1,l=>by
  unfold insI
  cases decide (l.getD (k+1) 0 < l.getD k 0)
  ·rfl
  ·rw [cond_true,zjT];simp
def srtI:Nat->Nat->List Int->List Int
 | 0,_,l=>l
 | m+1,i,l=>srtI m (i+1) (insI i l)
def srt1 (l:List Int):List Int:=srtI (l.length - 1) 1 l
theorem zkk:∀ (m i:Nat) (l:List Int),(srtI m i l).length=l.length
 | 0,_,_=>rfl
 | m+1,i,l=>by unfold srtI;rw [zkk,zjT]
@[simp] theorem srt1_len (l:List Int):(srt1 l).length=l.length:=zkk _ _ _
structure InsI (l:List Lk) (x:Lk) (i:Nat) (out:List Lk) (done:Bool):Prop where
 nd:out.Nodup
 sub:∀ z∈out,z=x\/z∈l.take i
 sup:∀ z∈l.take i,z=x\/z∈out
 dn:x∈out↔done=true
theorem zgi {α:Type}:∀ (l m:List α),l.Nodup->(∀ x∈l,x∈m)->l.length<=m.length
 | [],_,_,_=>by simp
 | x::r,m,hn,hs=>by
  haveI:DecidableEq α:=fun a b=>Classical.propDecidable (a=b)
  rw [List.nodup_cons] at hn
  have hx:x∈m:=hs x Zs
  have h1:=zgi r (m.erase x) hn.2 fun y hy=>(List.mem_erase_of_ne (by rintro rfl;exact hn.1 hy)).2 (hs y (by simp [hy]))
  rw [List.length_erase_of_mem hx] at h1
  have h2:=List.length_pos_of_mem hx
  simp only [List.length_cons]
  omega
theorem zk4 {a b:Str} (h:(a==b)=true):a=b:=by
 cases a with
 | mk a=>cases b with
  | mk b =>
   have h':(a==b)=true:=h
   rw [eq_of_beq h']
theorem znR (s:Str):(s==s)=true:=by
 cases s with
 | mk d =>
  have h:(d==d)=true:=by simp
  exact h
theorem lk_eq {x u:Lk} (h:(!(x.fst==u.fst&&(x.snd==u.snd&&true)))=false):x=u:=by
 simp only [Bool.not_eq_false',Bool.and_eq_true,and_true] at h
 cases x;cases u
 simp only at h
 rw [zk4 h.1,zk4 h.2]
theorem lk_ne {x u:Lk} (h:(!(x.fst==u.fst&&(x.snd==u.snd&&true)))=true):x≠u:=by
 rintro rfl;simp [znR] at h
theorem zc1 {l:List Lk} {i:Nat} {x:Lk} (hx:l[i]?=some x) (z:Lk):z∈l.take (i+1)↔z∈l.take i\/z=x:=by
 rw [List.take_add_one,hx];simp
theorem zim {l:List Lk} (hn:l.Nodup) {i:Nat} {x:Lk} (hx:l[i]?=some x):x ∉ l.take i:=by
 intro h
 obtain ⟨j,hj,hje⟩:=List.mem_iff_getElem.mp h
 obtain ⟨hi,hie⟩:=List.getElem?_eq_some_iff.mp hx
 simp only [List.length_take] at hj
 rw [List.getElem_take] at hje
 have h2:=hn
 unfold List.Nodup at h2
 rw [List.pairwise_iff_getElem] at h2
 exact h2 j i Zo hi Zo (hje.trans hie.symm)
theorem InsI.len {l:List Lk} {u:Lk} {i:Nat} {out:List Lk} {d:Bool} (h:InsI l u i out d):out.length<=i+1:=by
 have:=zgi out (u::l.take i) h.nd fun z hz=>by simpa using h.sub z hz
 simp only [List.length_cons,List.length_take] at this
 omega
theorem InsI.s1 {l:List Lk} {u x:Lk} {i:Nat} {out:List Lk} {d:Bool} (h:InsI l u i out d) (hx:l[i]?=some x) (e:(!(x.fst==u.fst&&(x.snd==u.snd&&true)))=false):InsI l u (i+1) out d:=by
 obtain rfl:=lk_eq e
 refine ⟨h.nd,fun z hz=>?_,fun z hz=>?_,h.dn⟩
 ·rcases h.sub z hz with h1|h1
  ·exact .inl h1
  ·exact .inr ((zc1 hx z).2 (.inl h1))
 ·rcases (zc1 hx z).1 hz with h1|h1
  ·exact h.sup z h1
  ·exact .inl h1
theorem InsI.s2 {l:List Lk} {u x:Lk} {i:Nat} {out:List Lk} {d:Bool} (h:InsI l u i out d) (hn:l.Nodup) (hx:l[i]?=some x) (e:(!(x.fst==u.fst&&(x.snd==u.snd&&true)))=true):InsI l u (i+1) (out++[x]) d:=by
 have hne:=lk_ne e
 refine ⟨?_,fun z hz=>?_,fun z hz=>?_,?_⟩
 ·refine List.nodup_append.2 ⟨h.nd,by simp,fun a ha b hb=>?_⟩
  simp only [List.mem_singleton] at hb
  subst hb
  rintro rfl
  rcases h.sub a ha with h1|h1
  ·exact hne h1
  ·exact zim hn hx h1
 ·simp only [List.mem_append,List.mem_singleton] at hz
  rcases hz with hz|hz
  ·rcases h.sub z hz with h1|h1
   ·exact .inl h1
   ·exact .inr ((zc1 hx z).2 (.inl h1))
  ·exact .inr ((zc1 hx z).2 (.inr hz))
 ·simp only [List.mem_append,List.mem_singleton]
  rcases (zc1 hx z).1 hz with h1|h1
  ·rcases h.sup z h1 with h2|h2
   ·exact .inl h2
   ·exact .inr (.inl h2)
  ·exact .inr (.inr h1)
 ·simp only [List.mem_append,List.mem_singleton]
  rw [← h.dn]
  exact ⟨fun h1=>h1.resolve_right fun h2=>hne h2.symm,.inl⟩
theorem InsI.add {l:List Lk} {u:Lk} {i:Nat} {out:List Lk} {d:Bool} (h:InsI l u i out d) (e:(!d)=true):InsI l u i (out++[u]) true:=by
 have hnu:u ∉ out:=fun hu=>by have:=h.dn.1 hu;subst this;simp at e
 refine ⟨?_,fun z hz=>?_,fun z hz=>?_,by simp⟩
 ·refine List.nodup_append.2 ⟨h.nd,by simp,fun a ha b hb=>?_⟩
  simp only [List.mem_singleton] at hb
  subst hb
  rintro rfl
  exact hnu ha
 ·simp only [List.mem_append,List.mem_singleton] at hz
  rcases hz with hz|hz
  ·exact h.sub z hz
  ·exact .inl hz
 ·simp only [List.mem_append,List.mem_singleton]
  rcases h.sup z hz with h2|h2
  ·exact .inl h2
  ·exact .inr (.inl h2)
structure InsR (l:List Lk) (u:Lk) (r:List Lk):Prop where
 nd:r.Nodup
 sub:∀ z∈r,z=u\/z∈l
 sup:∀ z∈l,z∈r
theorem InsI.done {l:List Lk} {u:Lk} {out:List Lk} {d:Bool} (h:InsI l u l.length out d) (e:(!d)=false):InsR l u out:=by
 have hd:d=true:=by simpa using e
 have hu:=h.dn.2 hd
 refine ⟨h.nd,fun z hz=>by simpa using h.sub z hz,fun z hz=>?_⟩
 rcases h.sup z (by simpa using hz) with rfl|h1
 ·exact hu
 ·exact h1
structure LkN (N:List Str) (l:List Lk):Prop where
 nd:l.Nodup
 mem:∀ z∈l,z.fst∈N/\z.snd∈N
theorem InsR.lk {N:List Str} {l:List Lk} {u:Lk} {r:List Lk} (h:InsR l u r) (hl:LkN N l) (h1:u.fst∈N) (h2:u.snd∈N):LkN N r :=
 ⟨h.nd,fun z hz=>by rcases h.sub z hz with rfl|hz;exact ⟨h1,h2⟩;exact hl.mem z hz⟩
theorem zjH {α β:Type} (f:α->List β) (k:Nat) (hf:∀ a,(f a).length=k):∀ l:List α,(l.flatMap f).length=l.length * k
 | []=>by simp
 | a::r=>by rw [List.flatMap_cons,List.length_append,hf,zjH f k hf r,List.length_cons,Nat.add_mul];omega
theorem LkN.len {N:List Str} {l:List Lk} (h:LkN N l):l.length<=N.length * N.length:=by
 have h1:=zgi l (N.flatMap fun a=>N.map fun b=>⟨a,b⟩) h.nd fun z hz=>by
  simp only [List.mem_flatMap,List.mem_map]
  exact ⟨z.fst,(h.mem z hz).1,z.snd,(h.mem z hz).2,by cases z;rfl⟩
 have h2:(N.flatMap fun a=>N.map fun b=>(⟨a,b⟩:Lk)).length=N.length * N.length:=by
  exact zjH _ _ (fun a=>by simp) N
 omega
abbrev zhc (N:List Str) (l out:List Lk):Prop:=LkN N out/\∀ z∈l,z∈out
theorem zhc.short {N:List Str} {l out:List Lk} (h:zhc N l out) (hN:N.length<=1000):zae out:=by
 have h1:=h.1.len
 have h2:=Nat.mul_le_mul hN hN
 simp only [zae];omega
theorem zhc.ins {N:List Str} {l out:List Lk} {a b:Lk} {i j:Nat} {r:List Lk} (h:zhc N l out) (hl:LkN N l) (hx:l[i]?=some a) (hy:l[j]?=some b) (hr:InsR out ⟨a.fst,b.snd⟩ r):zhc N l r :=
 ⟨hr.lk h.1 (hl.mem a (List.mem_of_getElem? hx)).1 (hl.mem b (List.mem_of_getElem? hy)).2,fun z hz=>hr.sup z (h.2 z hz)⟩
theorem LkN.short {N:List Str} {l:List Lk} (h:LkN N l) (hN:N.length<=1000):zae l:=by
 have h1:=h.len
 have h2:=Nat.mul_le_mul hN hN
 simp only [zae];omega
structure GenOk (x:Tg):Prop where
 ok:TgOk 6 x
 set:∀ a∈x.acts,AcSet a
structure CertOk (x x':Tg):Prop where
 gen:GenOk x->GenOk x'
 name:x'.name=x.name
 table:x'.table=x.table
 prec:x'.prec=x.prec
 foll:x'.foll=x.foll
structure SetsOk (i:Nat) (sets:List Se):Prop where
 len:sets.length<=i
 ex:∀ s∈sets,XOk 5 s.ex
 two:i<=2
theorem SetsOk.push {i:Nat} {sets:List Se} {c:Str} {e:X} (h:SetsOk i sets) (hi:i < 2) (he:XOk 4 e):SetsOk (i+1) (sets++[⟨c,e⟩]) :=
 ⟨by have:=h.len;simp;omega,fun s hs=>by
  simp only [List.mem_append,List.mem_singleton] at hs
  rcases hs with hs|rfl
  ·exact h.ex s hs
  ·exact he.le Zo,by omega⟩
structure DmlIn (n:Nat) (a:Ac) (frs:List Fr) (tb:List Tb):Prop where
 ac:AcOk n a
 kd:1<=a.kind/\a.kind<=3
 fo:FsOk (n+1) frs
 fg:FsG frs
 to:TbOk tb
 tg:TbG tb
 tv:∀ x∈tb,∀ r∈x.rows,zae r.vals
section
variable {n : Nat} {a : Ac} {frs : List Fr} {tb : List Tb}
theorem DmlIn.ins (h:DmlIn n a frs tb) {t:Tb} (ht:t∈tb) {r:Rw} (hr:r∈t.rows):FsOk n (zcL frs t.sch r.vals)/\FsG (zcL frs t.sch r.vals) :=
 ⟨h.fo.eins (t:=t) (h.to.cols t ht) (h.tg.vals t ht r hr),h.fg.ins (t:=t) (h.tg.vals t ht r hr)⟩
end
section
variable {n : Nat} {a : Ac} {frs : List Fr} {tb : List Tb}
end
theorem zkY {α:Type} {p:α->Bool} {l:List α} {i:Nat} {x:α} {z:Int} (h:z=idxF p (l.drop i) i) (hx:l[i]?=some x) (hp:p x=false):z=idxF p (l.drop (i+1)) (i+1):=by
 rw [zbw hx] at h;rw [h];simp only [idxF,hp,cond_false]
theorem zml {α:Type} {p:α->Bool} {l:List α} {i:Nat} {x:α} {z:Int} (h:z=idxF p (l.drop i) i) (hx:l[i]?=some x) (hp:p x=true):((i:Nat):Int)=z:=by
 rw [zbw hx] at h;rw [h];simp only [idxF,hp,cond_true]
theorem zhu {α:Type} {p:α->Bool} {l:List α} {z:Int} (h:z=idxF p (l.drop l.length) l.length):-1=z:=by
 rw [List.drop_length] at h;rw [h];rfl
structure TcOk (cd cu:Ch × Int):Prop where
 code:cd.2=cu.2
 ids:cu.1.upd.map Pr.id=cd.1.del
 len:cd.1.del.length<=900
/- ### the order of values -/
/- ### least and greatest items -/
/- ### sums -/
/- ### sorting -/
/- ### the tables -/
theorem StoreV.short {n:Int} {m:List Tb} (h:StoreV n m) (hn:n<=1000):∀ x∈m,∀ r∈x.rows,zae r.vals:=fun x hx r hr=>by
 have h1:=((h.rows x hx).fit r hr).len
 have h2:=((h.ok hn).tabs x hx).2.few
 have h3:r.vals.length=x.sch.cols.length:=h1
 simp only [zae,Few] at *;omega
/- ### the codes -/
/- ### three values -/
def fit4 (c:Col) (v:V):Int :=
 bif v.kind==0 then
  bif c.notNull then
   8
  else
   0
 else
  bif v.kind != c.type then
   5
  else
   0
def fitL:List Col->List V->Int
 | c::cs,v::vs=>bif fit4 c v != 0 then fit4 c v else fitL cs vs
 | _,_=>0
def fit5 (s:Sch) (l:List V):Int:=bif l.length != s.cols.length then 17 else fitL s.cols l
theorem zmh {cs:List Col} {vs:List V} {i:Nat} {c:Col} {v:V} {z:Int} (h:z=fitL (cs.drop i) (vs.drop i)) (hc:cs[i]?=some c) (hv:vs[i]?=some v) (h0:(fit4 c v != 0)=false):z=fitL (cs.drop (i+1)) (vs.drop (i+1)):=by
 rw [zbw hc,zbw hv] at h;rw [h];simp only [fitL,h0,cond_false]
theorem zmW {cs:List Col} {vs:List V} {i:Nat} {c:Col} {v:V} {z:Int} (h:z=fitL (cs.drop i) (vs.drop i)) (hc:cs[i]?=some c) (hv:vs[i]?=some v) (h0:(fit4 c v != 0)=true):fit4 c v=z:=by
 rw [zbw hc,zbw hv] at h;rw [h];simp only [fitL,h0,cond_true]
theorem zmX {cs:List Col} {vs:List V} {n:Nat} {z:Int} (h:z=fitL (cs.drop n) (vs.drop n)) (hn:n=cs.length):0=z:=by
 rw [h,hn,List.drop_length];rfl
def fnd7 (n:Int):List Pr->List V × Bool
 | []=>([],false)
 | p::r=>bif p.id==n then (p.nw,true) else fnd7 n r
abbrev anyI (ks:List Int) (n:Int):Bool:=ks.any fun x=>x==n
/- values -/
abbrev itV (v:V):AV × AV:=(v.av,bv true)
def eqV (a b:V):Bool:=a.kind==b.kind&&(a.int==b.int&&(a.text==b.text&&true))
theorem zgz {a b:V}:eqV a b=true↔a=b:=by
 obtain ⟨k,i,t⟩:=a;obtain ⟨k',i',t'⟩:=b
 constructor
 ·intro h
  simp only [eqV,Bool.and_eq_true,Bool.and_true,beq_iff_eq] at h
  obtain ⟨rfl,rfl,h⟩:=h
  rw [bb_eq h]
 ·intro h;cases h;simp [eqV,zkP]
abbrev anyV (ks:List V) (n:V):Bool:=ks.any fun x=>eqV n x
theorem zgC (n m:V):zbx n.av m.av (eqV n m):=⟨true,[.int .i64 n.kind,.int .i64 n.int,.string n.text],[.int .i64 m.kind,.int .i64 m.int,.string m.text],rfl,rfl,by simp [zaM,zcA,eqV]⟩
theorem zfd {ks:List V} {n:V}:anyV ks n=true↔n∈ks:=by
 simp only [anyV,List.any_eq_true,zgz]
 constructor
 ·rintro ⟨x,hx,rfl⟩;exact hx
 ·intro h;exact ⟨n,h,rfl⟩
theorem zkO {ks:List V} {n:V} (h:anyV ks n=false):n ∉ ks:=fun hm=>by rw [zfd.2 hm] at h;cases h
theorem zkR (ks:List V) (n:V) (h:anyV ks n=false):PutAt (ks.map itV) n.av (bv true) ((ks++[n]).map itV):=by
 refine .new (fun p hp=>?_) ?_
 ·obtain ⟨m,hm,rfl⟩:=List.mem_map.1 hp
  have h1:=zgC n m
  have h2:eqV n m=false:=by
   cases he:eqV n m
   ·rfl
   ·exact absurd (zgz.1 he ▸ hm) (zkO h)
  rwa [h2] at h1
 ·rw [List.map_append];exact List.perm_append_comm
theorem lookV (ks:List V) (n:V):LookAt (ks.map itV) n.av (bif anyV ks n then some (bv true) else none) where
 all:=fun p hp=>by obtain ⟨m,hm,rfl⟩:=List.mem_map.1 hp;exact ⟨_,zgC n m⟩
 at_:=fun p hp h=>by
  obtain ⟨m,hm,rfl⟩:=List.mem_map.1 hp
  have h1:eqV n m=true:=zbx.det (zgC n m) h
  have:n∈ks:=zgz.1 h1 ▸ hm
  rw [zfd.2 this];rfl
 some_:=fun x hx=>by
  cases h:anyV ks n
  ·rw [h] at hx;cases hx
  ·have hm:=zfd.1 h
   refine ⟨itV n,List.mem_map.2 ⟨n,hm,rfl⟩,?_⟩
   have:=zgC n n;rwa [zgz.2 rfl] at this
theorem zgY (ks:List V) (n:V):LookV (ks.map itV) n.av (.bl false) (bv (anyV ks n)) :=
 ⟨_,lookV ks n,by cases anyV ks n <;> first|exact .inr rfl|exact .inl rfl⟩
def zbB (kc:Int) (r:Rw):Option V:=bif decide (0<=kc)&&decide (kc < ((r.vals.map V.cells).length:Int)) then some (zaz r.vals kc) else none
def zaN (kc:Int) (l:List Rw):List V:=l.filterMap (zbB kc)
theorem zgd {kc:Int} {l:List Rw} {i:Nat} {x:Rw} (hx:l[i]?=some x):zaN kc (l.take (i+1))=zaN kc (l.take i)++(zbB kc x).toList:=by
 unfold zaN
 rw [List.take_add_one,hx,List.filterMap_append]
 cases h:zbB kc x <;> simp [h]
theorem zkQ {kc:Int} {l:List Rw} {i:Nat} {x:Rw} {ks:List V} (hI:ks=zaN kc (l.take i)/\ks.Nodup) (hx:l[i]?=some x) (h:zbB kc x=none):ks=zaN kc (l.take (i+1))/\ks.Nodup:=by
 rw [zgd hx,h];simpa using hI
theorem zme {kc:Int} {l:List Rw} {i:Nat} {x:Rw} {ks:List V} {v:V} (hI:ks=zaN kc (l.take i)/\ks.Nodup) (hx:l[i]?=some x) (h:zbB kc x=some v) (hn:anyV ks v=false):ks++[v]=zaN kc (l.take (i+1))/\(ks++[v]).Nodup:=by
 rw [zgd hx,h]
 refine ⟨by rw [hI.1];rfl,?_⟩
 rw [List.nodup_append]
 exact ⟨hI.2,by simp,fun a ha b hb=>by simp only [List.mem_singleton] at hb;subst hb;rintro rfl;exact zkO hn ha⟩
theorem du_dup {kc:Int} {l:List Rw} {i:Nat} {x:Rw} {ks:List V} {v:V} (hI:ks=zaN kc (l.take i)/\ks.Nodup) (hx:l[i]?=some x) (h:zbB kc x=some v) (hn:anyV ks v=true):¬ (zaN kc l).Nodup:=by
 intro hd
 have h1:zaN kc l=zaN kc (l.take (i+1))++zaN kc (l.drop (i+1)):=by unfold zaN;rw [← List.filterMap_append,List.take_append_drop]
 rw [h1,zgd hx,h] at hd
 have h2:=(List.nodup_append.1 hd).1
 have h3:=(List.nodup_append.1 h2).2.2 v (by rw [← hI.1];exact zfd.1 hn) v Zs
 exact h3 rfl
theorem znF {kc:Int} {x:Rw} (h:decide ((0:Int)<=kc)=false):zbB kc x=none:=by simp only [zbB,h,Bool.false_and,cond_false]
theorem znG {kc:Int} {x:Rw} (h:decide (kc < ((x.vals.map V.cells).length:Int))=false):zbB kc x=none:=by simp only [zbB,h,Bool.and_false,cond_false]
theorem znH {kc:Int} {x:Rw} (h:decide ((0:Int)<=kc)=true) (h2:decide (kc < ((x.vals.map V.cells).length:Int))=true):zbB kc x=some (zaz x.vals kc):=by simp only [zbB,h,h2,Bool.and_self,cond_true]
structure ColV (s:Sch) (i:Nat) (x:Col):Prop where
 name:(!zaT x.name)=false
 lo:decide (x.type < 1)=false
 hi:decide ((3:Int) < x.type)=false
 key:x.key=true->x.notNull=true
 at_:(idxF (fun c=>colC c x.name) s.cols 0 != ((i:Nat):Int))=false
structure SchV (s:Sch):Prop where
 name:(!zaT s.name)=false
 lo:decide (((s.cols.map Col.cells).length:Int) < 1)=false
 hi:decide ((6:Int) < ((s.cols.map Col.cells).length:Int))=false
 cols:∀ i x,s.cols[i]?=some x->ColV s i x
 keys:s.cols.countP (fun c=>c.key)<=1
theorem SchV.short {s:Sch} (h:SchV s):zae s.cols:=by have:=h.hi;simp only [List.length_map,decide_eq_false_iff_not] at this;simp only [zae];omega
theorem zit {l:List Col} {i k:Nat} {x:Col} (h:k=(l.take i).countP (fun c=>c.key)) (hx:l[i]?=some x) (hk:x.key=true):k+1=(l.take (i+1)).countP (fun c=>c.key):=by
 rw [List.take_add_one,hx,List.countP_append,h];simp [hk]
theorem zis {l:List Col} {i k:Nat} {x:Col} (h:k=(l.take i).countP (fun c=>c.key)) (hx:l[i]?=some x) (hk:x.key=false):k=(l.take (i+1)).countP (fun c=>c.key):=by
 rw [List.take_add_one,hx,List.countP_append,h];simp [hk]
structure TabV (t:Tb):Prop where
 sch:SchV t.sch
 len:decide ((100:Int) < ((t.rows.map Rw.cells).length:Int))=false
 rows:RowsV t.sch t.next t.rows
 max:decide ((2147483648:Int) < t.next)=false
 key:idxF (fun c=>c.key) t.sch.cols 0=keyC t.sch
theorem TabV.shr {t:Tb} (h:TabV t):zae t.rows:=by have:=h.len;simp only [List.length_map,decide_eq_false_iff_not] at this;simp only [zae];omega
theorem TabV.vals {t:Tb} (h:TabV t):∀ r∈t.rows,zae r.vals:=fun r hr=>by
 have h1:=(h.rows.fit r hr).len
 have h2:=h.sch.short
 have h3:r.vals.length=t.sch.cols.length:=h1
 simp only [zae] at *;omega
theorem znA {c:Col} {v:V} (h:ValOk c v) (hc:zfb c):fit4 c v=0:=by
 unfold fit4
 cases h0:v.kind==0
 ·have hk:v.kind=c.type:=h.kind.resolve_left (by simpa using h0)
  simp [hk]
 ·have h1:v.kind=0:=by simpa using h0
  cases hn:c.notNull
  ·rfl
  ·have:=h.nn hn;simp only [zfb] at hc;omega
theorem zkT:∀ (cs:List Col) (vs:List V),(∀ c∈cs,zfb c)->(∀ (k:Nat) (c:Col) (v:V),cs[k]?=some c->vs[k]?=some v->ValOk c v)->fitL cs vs=0
 | [],_,_,_=>by unfold fitL;rfl
 | _::_,[],_,_=>rfl
 | c::cs,v::vs,hc,h=>by
  have h0:=znA (h 0 c v rfl rfl) (hc c Zs)
  simp only [fitL,h0,bne_self_eq_false,cond_false]
  exact zkT cs vs (fun c h=>hc c (by simp [h])) fun k c v h1 h2=>h (k+1) c v (by simpa using h1) (by simpa using h2)
theorem SchV.cok {s:Sch} (h:SchV s):∀ c∈s.cols,zfb c:=fun c hc=>by
 obtain ⟨i,hi⟩:=List.getElem?_of_mem hc
 have h1:=(h.cols i c hi).lo
 have h2:=(h.cols i c hi).hi
 simp only [decide_eq_false_iff_not] at h1 h2
 simp only [zfb];omega
theorem znB {s:Sch} {vs:List V} (hs:SchV s) (h:zcR s.cols vs):fit5 s vs=0:=by
 unfold fit5
 rw [show (vs.length != s.cols.length)=false by have:=h.len;simpa using this]
 exact zkT _ _ hs.cok h.at_
theorem znj {cols:List Col} {vals:List V} (h:zcR cols vals):∀ v∈vals,v.Good:=PrefOk.good h
theorem zhA {kc:Int}:∀ (l:List Rw),(0<=kc->l.Pairwise fun a b=>zaz a.vals kc≠zaz b.vals kc)->(zaN kc l).Nodup
 | [],_=>by simp [zaN]
 | r::l,h=>by
  have ih:=zhA l fun hk=>(List.pairwise_cons.1 (h hk)).2
  unfold zaN at ih ⊢
  rw [List.filterMap_cons]
  cases hr:zbB kc r with
  | none=>exact ih
  | some v =>
   refine List.nodup_cons.2 ⟨fun hm=>?_,ih⟩
   obtain ⟨q,hq,hv⟩:=List.mem_filterMap.1 hm
   unfold zbB at hr hv
   by_cases hk:0<=kc
   ·cases c1:decide (kc < ((r.vals.map V.cells).length:Int)) <;> rw [c1] at hr
    ·simp at hr
    ·cases c2:decide (kc < ((q.vals.map V.cells).length:Int)) <;> rw [c2] at hv
     ·simp at hv
     ·simp only [hk,decide_true,Bool.and_self,cond_true,Option.some.injEq] at hr hv
      exact (List.pairwise_cons.1 (h hk)).1 q hq (hr.trans hv.symm)
   ·simp [hk] at hr
theorem zfB {p:Prop} (h:p:=by (clear hv;first|(simp only [fit4,cond_true,cond_false, *];done)|(exfalso;simp_all;done))):p:=h
theorem zlU {p:Prop} (h:p:=by first|(unfold fit5;rw [show (l.length != s.cols.length)=false by simp at *;omega];first|assumption|exact zmX ‹_› rfl)|(unfold fit5;rw [show (l.length != s.cols.length)=true by simp at *;omega];rfl)):p:=h
theorem zhQ {p:Prop} (h:p:=by first|assumption|rfl|omega|(simp only [List.length_map] at *;simp at *;omega)):p:=h
theorem ziR (c:Col) (v:V) (hv:zaa E0 S.A7 [v.av] [] (bv true) []):∃ (e:Int),e=fit4 c v/\zaa E0 S.Bh [.agg c.cells,v.av] [] (iv e) []:=by
 cases h1:v.kind==0
 ·cases h2:v.kind != 0
  ·exact ⟨0,zfB,wk At.Bh [sc hv,sb Zf,sb h1,sb h2] kr⟩
  ·cases h3:v.kind != c.type
   ·exact ⟨0,zfB,wk At.Bh [sc hv,sb Zf,sb h1,sg h2,sb h3] kr⟩
   ·exact ⟨5,zfB,wk At.Bh [sc hv,sb Zf,sb h1,sg h2,sb h3] kr⟩
 ·cases h4:c.notNull
  ·cases h5:v.kind != 0
   ·exact ⟨0,zfB,wk At.Bh [sc hv,sb Zf,sg h1,sb h4,sb h5] kr⟩
   ·cases h6:v.kind != c.type
    ·exact ⟨0,zfB,wk At.Bh [sc hv,sb Zf,sg h1,sb h4,sg h5,sb h6] kr⟩
    ·exact ⟨5,zfB,wk At.Bh [sc hv,sb Zf,sg h1,sb h4,sg h5,sb h6] kr⟩
  ·exact ⟨8,zfB,wk At.Bh [sc hv,sb Zf,sg h1,sb h4] kr⟩
theorem zi5 (c:Col) (v:V) (hg:v.Good):zaa E0 S.Bh [.agg c.cells,v.av] [] (iv (fit4 c v)) []:=by
 have h1:=zfI v hg.small
 rw [hg.valid] at h1
 obtain ⟨e,rfl,h⟩:=ziR c v h1
 exact h
noncomputable def zla (s:Sch) (l:List V) (i:Nat) :Cfg:=zaj B.A8 0 [(1,vsl l),(15,.sl (s.cols.map Col.cells)),(16,iv ((s.cols.map Col.cells).length:Nat)),(17,iv (i:Nat))] [.box s.cells]
theorem zeP (s:Sch) (l:List V) (hs:zae s.cols) (hll:l.length=s.cols.length) (hg:∀ v∈l,v.Good) (i:Nat)  (hi:i<=(s.cols).length) (hI:fitL s.cols l=fitL (s.cols.drop i) (l.drop i)):((fitL s.cols l=fitL (s.cols.drop (s.cols).length) (l.drop (s.cols).length))/\(decide ((((s.cols).length:Nat):Int) < (((s.cols.map Col.cells).length:Nat):Int))=false)/\∀ R,Good E0 B.A8 [] (zla s l (s.cols).length ) R->Good E0 B.A8 [] (zla s l i ) R)\/(∃ (r:Int),r=fitL s.cols l/\Good E0 B.A8 [] (zla s l i ) (Shut 0 fun rZ hZ=>rZ=(iv r)/\hZ=[])):=by
 have hk:=hi;revert i;refine zlp ((s.cols).length) (fun i hlt ih hi hI _=>?_)
 obtain ⟨x,hx,h0,hw⟩:=zlq (l:=s.cols) ((s.cols.map Col.cells).length) hlt
 obtain ⟨y,hy⟩:=zdG (l:=l) (i:=i) (by have:=at_lt hx;omega);have hyv:=hg y (List.mem_of_getElem? hy)
 let p_1:List St:=[sb h0,se (zat Col.cells hx rfl),sd [(3,[se (zat V.cells hy rfl)]),(5,[sc (zi5 x y (by first|assumption|omega|(simp;done)|(simp;omega)))])]]
 cases h1:fit4 x y != 0
 ·exact zie2 (ih Zo (by exact zmh hI hx hy ‹_›) Zo) fun R gY=>zab (wkl (p_1++[sb h1,si hw]) [1,15,16,17] 1 kr gY)
 ·exact .inr ⟨fit4 x y,(by exact zmW hI hx hy ‹_›),zab (wkr (p_1++[sb h1]) kr)⟩
theorem zjx (s:Sch) (l:List V) (hs:zae s.cols) (hg:∀ v∈l,v.Good):∃ (r:Int),r=fit5 s l/\zaa E0 S.A8 [s.av,vsl l] [] (iv r) []:=by
 cases h1:(↑(List.map V.cells l).length:Int) != (↑(List.map Col.cells s.cols).length:Int)
 ·rcases zeP s l zhQ zhQ zhQ 0 zhQ zhQ with ⟨q2,q2_1,g2⟩|⟨r2_0,p2_0,g2⟩
  ·exact ⟨0,zlU,wkc At.A8 [sb h1] [1,15,16,17] 1 kr (g2 _ (zab (wkr [sb q2_1] kr)))⟩
  ·exact ⟨r2_0,zlU,wkc At.A8 [sb h1] [1,15,16,17] 1 kr (g2)⟩
 ·exact ⟨17,zlU,wk At.A8 [sb h1] kr⟩
theorem zjW (s:Sch) (l:List V) (hs:zae s.cols) (hg:∀ v∈l,v.Good):zaa E0 S.A8 [s.av,vsl l] [] (iv (fit5 s l)) []:=by
 obtain ⟨r,rfl,h⟩:=zjx s l hs hg
 exact h
theorem znx (c:Col) :∃ (b:Bool),b=c.key/\zaa E0 S.A4 [.agg c.cells] [] (bv b) []:=by
 exact ⟨c.key,Zr,wk At.A4 [] kr⟩
theorem zeY (c:Col):zaa E0 S.A4 [.agg c.cells] [] (bv c.key) []:=by
 obtain ⟨b,rfl,h⟩:=znx c
 exact h
noncomputable def zk8 (l:List Col) (i:Nat) :Cfg:=zaj B.Af 0 [(0,.sl (l.map Col.cells)),(1,.fn S.A4 []),(7,iv ((l.map Col.cells).length:Nat)),(8,iv (i:Nat))] []
theorem zcp (l:List Col) (hl:zae l) (i:Nat)  (hi:i<=(l).length) (hI:idxF (fun c=>c.key) l 0=idxF (fun c=>c.key) (l.drop i) i):((idxF (fun c=>c.key) l 0=idxF (fun c=>c.key) (l.drop (l).length) (l).length)/\(decide ((((l).length:Nat):Int) < (((l.map Col.cells).length:Nat):Int))=false)/\∀ R,Good E0 B.Af [] (zk8 l (l).length ) R->Good E0 B.Af [] (zk8 l i ) R)\/(∃ (r:Int),r=idxF (fun c=>c.key) l 0/\Good E0 B.Af [] (zk8 l i ) (Shut 0 fun rZ hZ=>rZ=(iv r)/\hZ=[])):=by
 have hk:=hi;revert i;refine zlp ((l).length) (fun i hlt ih hi hI _=>?_)
 obtain ⟨x,hx,h0,hw⟩:=zlq (l:=l) ((l.map Col.cells).length) hlt
 let p_1:List St:=[sb h0,se (zat Col.cells hx rfl),sc (zeY x)]
 cases h1:x.key
 ·exact zie2 (ih Zo (by exact zkY hI hx ‹_›) Zo) fun R gY=>zab (wkl (p_1++[sb h1,si hw]) [0,1,7,8] 0 kr gY)
 ·exact .inr ⟨(i:Int),(by exact zml hI hx ‹_›),zab (wkr (p_1++[sb h1]) kr)⟩
theorem c_ixK (l:List Col) (hl:zae l):∃ (r:Int),r=idxF (fun c=>c.key) l 0/\zaa E0 S.Af [.sl (l.map Col.cells),.fn S.A4 []] [] (iv r) []:=by
 rcases zcp l Za 0 Za Za with ⟨q1,q1_1,g1⟩|⟨r1_0,p1_0,g1⟩
 ·exact ⟨-1,(by first|assumption|exact zhu ‹_›),wkc At.Af [] [0,1,7,8] 0 kr (g1 _ (zab (wkr [sb q1_1] kr)))⟩
 ·exact ⟨r1_0,(by first|assumption|exact zhu ‹_›),wkc At.Af [] [0,1,7,8] 0 kr (g1)⟩
theorem zfZ (s:Sch) (hs:zae s.cols) (hx:∃ r:Int,r=idxF (fun c=>c.key) s.cols 0/\zaa E0 S.Af [.sl (s.cols.map Col.cells),.fn S.A4 []] [] (iv r) []):∃ (r:Int),r=idxF (fun c=>c.key) s.cols 0/\zaa E0 S.BT [s.av] [] (iv r) []:=by
 obtain ⟨r1,q1,c1⟩:=hx
 exact ⟨r1,‹_›,wk At.BT [sc c1] kr⟩
theorem zgb (s:Sch) (hs:zae s.cols):zaa E0 S.BT [s.av] [] (iv (idxF (fun c=>c.key) s.cols 0)) []:=by
 obtain ⟨r,rfl,h⟩:=zfZ s hs (c_ixK s.cols hs)
 exact h
theorem at_lt0 {s:Sch} {x:Col} {i:Nat} (h:(idxF (fun c=>colC c x.name) s.cols 0 != ((i:Nat):Int))=false):decide (idxF (fun c=>colC c x.name) s.cols 0 < ((i:Nat):Int))=false:=by
 simp only [bne_eq_false_iff_eq] at h;rw [h];simp
noncomputable def L_psv (s:Sch) (i:Nat) (keys:Nat):Cfg:=zaj B.AW 0 [(1,.p 0 0),(3,iv (keys:Nat)),(23,.sl (s.cols.map Col.cells)),(24,iv ((s.cols.map Col.cells).length:Nat)),(25,iv (i:Nat))] [.box s.cells]
theorem zee (s:Sch) (hs:zae s.cols) (hv:SchV s) (i:Nat) (keys:Nat) (hi:i<=(s.cols).length) (hI:keys=(s.cols.take i).countP (fun c=>c.key)):∃ (keys':Nat),(keys'=(s.cols.take (s.cols).length).countP (fun c=>c.key))/\(decide ((((s.cols).length:Nat):Int) < (((s.cols.map Col.cells).length:Nat):Int))=false)/\∀ R,Good E0 B.AW [] (L_psv s (s.cols).length keys') R->Good E0 B.AW [] (L_psv s i keys) R:=by
 have hk:=hi;revert i keys;refine zlp ((s.cols).length) (fun i hlt ih keys hi hI _=>?_)
 obtain ⟨x,hx,h0,hw⟩:=zlq (l:=s.cols) ((s.cols.map Col.cells).length) hlt
 obtain ⟨a1,a2,a3,a4,a5'⟩:=hv.cols i x hx;have a5:=at_lt0 a5';have hkl:keys<=1000:=(by have h1:=List.countP_le_length (p:=fun c:Col=>c.key) (l:=s.cols.take i);have h2:=hv.hi;simp only [List.length_map,decide_eq_false_iff_not] at h2;rw [← hI,List.length_take] at h1;omega)
 let p_1:List St:=[sb h0,se (zat Col.cells hx rfl),sc (zaX x.name),sg a1,sc (zi4 s x.name (by first|assumption|omega|(simp;done)|(simp;omega))),sg a5,sg a2,sg a3]
 cases h1:x.key
 ·exact Zih (ih keys Zo (by first|exact zit hI hx ‹_›|exact zis hI hx ‹_›) Zo) fun R gY=>zab (wkl (p_1++[sb h1,sb h1,si hw]) [1,3,23,24,25] 1 kr gY)
 ·cases h2:!x.notNull
  ·exact Zih (ih (keys+1) Zo (by first|exact zit hI hx ‹_›|exact zis hI hx ‹_›) Zo) fun R gY=>zab (wkl (p_1++[sg h1,sb h2,sb h1,si (zar (t:=(keys:Int)+1) (n:=keys+1) Zo Zo),si hw]) [1,3,23,24,25] 1 kr gY)
  ·exact False.elim (by simp_all)
theorem zhj (s:Sch) (hs:zae s.cols) (hv:SchV s) (n1:(!zaT s.name)=false) (n2:decide (((s.cols.map Col.cells).length:Int) < 1)=false) (n3:decide ((6:Int) < ((s.cols.map Col.cells).length:Int))=false):∃ (r:Bool),r=true/\zaa E0 S.AW [s.av] [] (bv r) []:=by
 obtain ⟨keys1,q1,q1_1,g1⟩:=zee s Za Za 0 0 Za Za
 exact ⟨decide ((keys1:Int)<=(1:Int)),(by first|rfl|(rw [List.take_length] at *;have hkz:=hv.keys;simp;omega)),wkc At.AW [sc (zaX s.name),sg n1,sg n2,sb n3] [1,3,23,24,25] 1 kr (g1 _ (zab (wkr [sb q1_1] kr)))⟩
theorem zbi (s:Sch) (hv:SchV s):zaa E0 S.AW [s.av] [] (bv true) []:=by
 obtain ⟨r,rfl,h⟩:=zhj s hv.short hv hv.name hv.lo hv.hi
 exact h
def zjg (s:Sch):List Pr->Int
 | []=>0
 | p::r=>bif fit5 s p.nw != 0 then fit5 s p.nw else zjg s r
def zjf (s:Sch):List (List V)->Int
 | []=>0
 | p::r=>bif fit5 s p != 0 then fit5 s p else zjf s r
def midS (c:Ch) (r:Rw):Option Rw:=bif anyI c.del r.id then none else some ⟨r.id,bif (fnd7 r.id c.upd).2 then (fnd7 r.id c.upd).1 else r.vals⟩
def midR (c:Ch) (l:List Rw):List Rw:=l.filterMap (midS c)
def insN:Int->List (List V)->List Rw
 | _,[]=>[]
 | n,v::r=>⟨n,v⟩::insN (n+1) r
def apT (t:Tb) (c:Ch):Tb:=⟨t.sch,t.next+(c.ins.length:Int),midR c t.rows++insN t.next c.ins⟩
abbrev zl8 (t:Tb) (c:Ch):List V:=zaN (idxF (fun z=>z.key) t.sch.cols 0) (midR c t.rows++insN t.next c.ins)
structure ApQ (t:Tb) (c:Ch) (x:Tb) (g:Int):Prop where
 ok:g=0->x=apT t c/\zjg t.sch c.upd=0/\zjf t.sch c.ins=0/\(zl8 t c).Nodup
 err:g=0\/g=9\/g=10\/g=zjg t.sch c.upd\/g=zjf t.sch c.ins
 good:zjg t.sch c.upd=0->zjf t.sch c.ins=0->(midR c t.rows).length+c.ins.length<=100->(c.ins.length:Int)<=2147483648 - t.next->(zl8 t c).Nodup->g=0
 lim:g=0->(midR c t.rows).length+c.ins.length<=100/\(c.ins.length:Int)<=2147483648 - t.next
section
variable {t x : Tb} {c : Ch} {g nx : Int} {rs rs' : List Rw} {b : Bool}
end
theorem TabV.hiF {t:Tb} (h:TabV t) {x:Rw} (hx:x∈t.rows):decide (t.next<=x.id)=false:=by
 have h1:=h.rows.ids x hx
 simp;omega
theorem zcB {p:Prop} (h:p:=by first|assumption|omega|(simp only [decide_eq_false_iff_not,decide_eq_true_eq,List.length_map] at *;omega)|(simp;done)):p:=h
theorem zlV {p:Prop} (h:p:=by first|(have hq1:=‹_=zaN _ _/\List.Nodup _›;rw [List.take_length] at hq1;exact ⟨fun _=>hq1.1 ▸ hq1.2,fun _=>rfl⟩)|(have hq1:=‹_=true/\¬ List.Nodup _›;rw [hq1.1];exact ⟨fun h=>(by cases h),fun h=>absurd h hq1.2⟩)|exact ⟨fun _=>znE ‹_› _,fun _=>rfl⟩):p:=h
theorem zhR {p:Prop} (h:p:=by first|assumption|omega|(intro r hr2;have:=(ht.rows.ids r (List.mem_of_mem_drop hr2)).1;omega)|(simp;done)):p:=h
theorem zhS {p:Prop} (h:p:=by first|assumption|omega|exact ⟨rfl,by simp⟩|(simp;done)):p:=h
theorem zjk {p:Prop} (h:p:=by simp only [decide_eq_true_eq,decide_eq_false_iff_not] at *;omega):p:=h
theorem zmn {kc:Int} {x:Rw} (h:decide (((x.vals.map V.cells).length:Int)<=kc)=true):zbB kc x=none :=
 znG zjk
theorem zjZ {kc:Int} {x:Rw} (h0:decide (kc < 0)=false) (h:decide (((x.vals.map V.cells).length:Int)<=kc)=false):zbB kc x=some (zaz x.vals kc) :=
 znH zjk zjk
theorem znE {kc:Int} (h0:decide (kc < 0)=true) (l:List Rw):(zaN kc l).Nodup:=by
 have:zaN kc l=[]:=by
  unfold zaN
  rw [List.filterMap_eq_nil_iff]
  intro r _
  exact znF zjk
 rw [this];simp
noncomputable def zk9 (t:Tb) (kc:Int) (i:Nat) (ks:List V):Cfg:=zaj B.AD 0 [(3,iv kc),(4,.mp 1),(14,.sl (t.rows.map Rw.cells)),(15,iv ((t.rows.map Rw.cells).length:Nat)),(16,iv (i:Nat))] [.box t.cells,.mp (ks.map itV)]
theorem zdw (t:Tb) (kc:Int) (hs:zae t.rows) (hk0:decide (kc < 0)=false) (i:Nat) (ks:List V) (hi:i<=(t.rows).length) (hI:ks=zaN kc (t.rows.take i)/\ks.Nodup):(∃ (ks':List V),(ks'=zaN kc (t.rows.take (t.rows).length)/\ks'.Nodup)/\(decide ((((t.rows).length:Nat):Int) < (((t.rows.map Rw.cells).length:Nat):Int))=false)/\∀ R,Good E0 B.AD [] (zk9 t kc (t.rows).length ks') R->Good E0 B.AD [] (zk9 t kc i ks) R)\/(∃ (r:Bool),(r=true/\¬ (zaN kc t.rows).Nodup)/\Good E0 B.AD [] (zk9 t kc i ks) (Shut 0 fun rZ hZ=>rZ=(bv r)/\hZ=[])):=by
 have hk:=hi;revert i ks;refine zlp ((t.rows).length) (fun i hlt ih ks hi hI _=>?_)
 obtain ⟨x,hx,h0,hw⟩:=zlq (l:=t.rows) ((t.rows.map Rw.cells).length) hlt
 cases h1:decide ((↑(List.map V.cells x.vals).length:Int)<=kc)
 ·cases h2:anyV ks (zaz x.vals kc)
  ·exact (ih (ks++[zaz x.vals kc]) Zo (by first|exact zkQ hI hx (zmn ‹_›)|exact zme hI hx (zjZ hk0 ‹_›) ‹_›) Zo).elim (fun ⟨ksZ,qZ,xZ,gZ⟩=>.inl ⟨ksZ,qZ,xZ,fun R hg=>zab (wkl [sb h0,se (zat Rw.cells hx rfl),sb h1,se (zf1 x.vals kc zcB zcB),sx (.el [bv (anyV ks (zaz x.vals kc))]) (And.intro (zbW ((zaz x.vals kc).kind) ((zaz x.vals kc).int) ((zaz x.vals kc).text)) (zgY ks (zaz x.vals kc))),sb h2,se (zf1 x.vals kc zcB zcB),sx (.call [] .un [.mp (List.map itV (ks++[zaz x.vals kc]))]) (And.intro (zbW ((zaz x.vals kc).kind) ((zaz x.vals kc).int) ((zaz x.vals kc).text)) (zkR ks (zaz x.vals kc) zcB)),si hw] [3,4,14,15,16] 2 kr (gZ R hg))⟩) (fun ⟨rY,pZ,gZ⟩=>.inr ⟨rY,pZ,zab (wkl [sb h0,se (zat Rw.cells hx rfl),sb h1,se (zf1 x.vals kc zcB zcB),sx (.el [bv (anyV ks (zaz x.vals kc))]) (And.intro (zbW ((zaz x.vals kc).kind) ((zaz x.vals kc).int) ((zaz x.vals kc).text)) (zgY ks (zaz x.vals kc))),sb h2,se (zf1 x.vals kc zcB zcB),sx (.call [] .un [.mp (List.map itV (ks++[zaz x.vals kc]))]) (And.intro (zbW ((zaz x.vals kc).kind) ((zaz x.vals kc).int) ((zaz x.vals kc).text)) (zkR ks (zaz x.vals kc) zcB)),si hw] [3,4,14,15,16] 2 kr gZ)⟩)
  ·exact .inr ⟨true,(by exact ⟨rfl,du_dup hI hx (zjZ hk0 ‹_›) ‹_›⟩),zab (wkr [sb h0,se (zat Rw.cells hx rfl),sb h1,se (zf1 x.vals kc zcB zcB),sx (.el [bv (anyV ks (zaz x.vals kc))]) (And.intro (zbW ((zaz x.vals kc).kind) ((zaz x.vals kc).int) ((zaz x.vals kc).text)) (zgY ks (zaz x.vals kc))),sb h2] kr)⟩
 ·exact (ih ks Zo (by first|exact zkQ hI hx (zmn ‹_›)|exact zme hI hx (zjZ hk0 ‹_›) ‹_›) Zo).elim (fun ⟨ksZ,qZ,xZ,gZ⟩=>.inl ⟨ksZ,qZ,xZ,fun R hg=>zab (wkl [sb h0,se (zat Rw.cells hx rfl),sb h1,si hw] [3,4,14,15,16] 2 kr (gZ R hg))⟩) (fun ⟨rY,pZ,gZ⟩=>.inr ⟨rY,pZ,zab (wkl [sb h0,se (zat Rw.cells hx rfl),sb h1,si hw] [3,4,14,15,16] 2 kr gZ)⟩)
theorem zgL (t:Tb) (hs:zae t.sch.cols) (hr:zae t.rows):∃ (b:Bool),(b=false↔(zaN (idxF (fun c=>c.key) t.sch.cols 0) t.rows).Nodup)/\zaa E0 S.AD [t.av] [] (bv b) []:=by
 let p_1:List St:=[sc (zgb t.sch zhS)]
 cases h1:decide (idxF (fun c=>c.key) t.sch.cols 0 < 0)
 ·rcases zdw t (idxF (fun c=>c.key) t.sch.cols 0) zhS zhS 0 ([]) zhS zhS with ⟨ks2,q2,q2_1,g2⟩|⟨r2_0,p2_0,g2⟩
  ·exact ⟨false,zlV,wkc At.AD (p_1++[sb h1]) [3,4,14,15,16] 2 kr (g2 _ (zab (wkr [sb q2_1] kr)))⟩
  ·exact ⟨r2_0,zlV,wkc At.AD (p_1++[sb h1]) [3,4,14,15,16] 2 kr (g2)⟩
 ·exact ⟨false,zlV,wk At.AD (p_1++[sb h1]) kr⟩
theorem TabV.pfit {t:Tb} (h:TabV t) {x:Rw} (hx:x∈t.rows):zaa E0 S.A8 [t.sch.av,vsl x.vals] [] (iv 0) []:=by
 have h2:=zjW t.sch x.vals h.sch.short (znj (h.rows.fit x hx))
 rwa [znB h.sch (h.rows.fit x hx)] at h2
def zjb (l:List Rw) (i:Nat) (last:Int):Prop:=∀ r∈l.drop i,last < r.id
theorem zmo {l:List Rw} {i:Nat} {x:Rw} (ha:l.Pairwise fun a b=>a.id < b.id) (hx:l[i]?=some x):zjb l (i+1) x.id:=by
 intro r hr
 obtain ⟨j,hj⟩:=List.getElem?_of_mem hr
 rw [List.getElem?_drop] at hj
 obtain ⟨a1,a2⟩:=List.getElem?_eq_some_iff.1 hx
 obtain ⟨b1,b2⟩:=List.getElem?_eq_some_iff.1 hj
 have:=List.pairwise_iff_getElem.1 ha i (i+1+j) a1 b1 Zo
 rwa [a2,b2] at this
theorem znI {l:List Rw} {i:Nat} {x:Rw} {last:Int} (h:zjb l i last) (hx:l[i]?=some x):decide (x.id<=last)=false:=by
 have:=h x (by rw [zbw hx];simp)
 simp;omega
noncomputable def L_pv6 (t:Tb) (i:Nat) (last:Int):Cfg:=zaj B.Be 0 [(1,.p 0 0),(3,iv last),(27,.sl (t.rows.map Rw.cells)),(28,iv ((t.rows.map Rw.cells).length:Nat)),(29,iv (i:Nat))] [.box t.cells]
theorem zer (t:Tb) (ht:TabV t) (hs:zae t.sch.cols) (hr:zae t.rows) (i:Nat) (last:Int) (hi:i<=(t.rows).length) (hI:zjb t.rows i last):∃ (last':Int),(zjb t.rows (t.rows).length last')/\(decide ((((t.rows).length:Nat):Int) < (((t.rows.map Rw.cells).length:Nat):Int))=false)/\∀ R,Good E0 B.Be [] (L_pv6 t (t.rows).length last') R->Good E0 B.Be [] (L_pv6 t i last) R:=by
 have hk:=hi;revert i last;refine zlp ((t.rows).length) (fun i hlt ih last hi hI _=>?_)
 obtain ⟨x,hx,h0,hw⟩:=zlq (l:=t.rows) ((t.rows.map Rw.cells).length) hlt
 have a1:=znI hI hx;have a2:=ht.hiF (List.mem_of_getElem? hx);have a3:=ht.pfit (List.mem_of_getElem? hx)
 exact Zih (ih x.id Zo (by exact zmo ht.rows.asc hx) Zo) fun R gY=>zab (wkl [sb h0,se (zat Rw.cells hx rfl),sg a1,sg a2,sc a3,sb Zf,si hw] [1,3,27,28,29] 1 kr gY)
theorem zh5 (t:Tb) (ht:TabV t) (hs:zae t.sch.cols) (hr:zae t.rows) (hv:zaa E0 S.AW [t.sch.av] [] (bv true) []) (h1a:decide ((100:Int) < ((t.rows.map Rw.cells).length:Int))=false) (h2a:decide (t.next < 1)=false) (h3a:decide ((2147483648:Int) < t.next)=false) (hd:zaa E0 S.AD [t.av] [] (bv false) []):∃ (b:Bool),b=true/\zaa E0 S.Be [t.av] [] (bv b) []:=by
 obtain ⟨last1,q1,q1_1,g1⟩:=zer t zhR zhR zhR 0 0 zhR zhR
 exact ⟨!false,Zr,wkc At.Be [sc hv,sg Zf,sg h1a,sg h2a,sb h3a] [1,3,27,28,29] 1 kr (g1 _ (zab (wkr [sb q1_1,sc hd] kr)))⟩
theorem TabV.pdup {t:Tb} (h:TabV t):zaa E0 S.AD [t.av] [] (bv false) []:=by
 obtain ⟨b,hb,hc⟩:=zgL t h.sch.short h.shr
 have h1:b=false:=hb.2 (by rw [h.key];exact zhA _ h.rows.keys)
 rw [h1] at hc;exact hc
theorem zd5 (t:Tb) (ht:TabV t):zaa E0 S.Be [t.av] [] (bv true) []:=by
 have hp:=ht.rows.pos
 obtain ⟨r,rfl,h⟩:=zh5 t ht ht.sch.short ht.shr (zbi _ ht.sch) ht.len Zp ht.max ht.pdup
 exact h
end Go.AM
namespace Go.AM
theorem wkcK {f:FuncId} {fn:Func} {args:List AV} {h:Heap} {R:AV->Heap->Prop} {c':Cfg} (hf:E0.P.funcs[f]?=some fn) (l:List St) (live:List Nat) (m:Nat) (hu:zfF fn args h live m (orcs l)=some (zaG l,c'))
  (hg:Good E0 fn h c' R):zbh E0 f args h R:=by
 unfold zfF at hu
 split at hu
 ·rename_i c hb hn ha hm
  exact zmi E0ok mix0 hf hb hn ha 3000 l live m hm (Option.some.inj hu) hg
 ·cases hu
theorem zl4 {f:FuncId} {fn:Func} {args:List AV} {h:Heap} {R:AV->Heap->Prop} {c':Cfg} (hf:E0.P.funcs[f]?=some fn) (l:List St) (live:List Nat) (m:Nat) (k:List (Ct × Nat)) (hu:zhY fn args h live m k (orcs l)=some (zaG l,c'))
  (hg:Good E0 fn h c' R):zbh E0 f args h R:=by
 unfold zhY at hu
 split at hu
 ·rename_i q c1 h1
  unfold zfF at h1
  split at h1
  ·rename_i c hb hn ha hm
   obtain ⟨q2,h2⟩:=zgx hu
   have h3:=zau l
   have h4:allP q:=by
    rw [h2] at h3
    exact (zbL h3).1
   exact zaw hf hb hn (Nat.le_of_ble_eq_true ha) (ziL hm (Option.some.inj h1) h4 (zjC hu h3 hg))
  ·cases h1
 ·cases hu
theorem wkrK {fn:Func} {h0:Heap} {c:Cfg} {r:AV} {H:Heap} (l:List St) (hfin:finK (mk E0) fn 3000 c (orcs l)=some (zaG l,r,H)):Good E0 fn h0 c (fun y h=>y=r/\h=H) :=
 zbG E0ok mix0 3000 l hfin ⟨rfl,rfl⟩
end Go.AM
namespace Go.Proofs
open Go.Shelf
shelf_lay_g Lays8.n4 Nm8 4 at Tryz 127 as Tryz.growT
end Go.Proofs
namespace Go.AM
open Go.Shelf Go.RowKit Go.Lib
theorem zlC {w:World} (o:Obj):BelowD w.heap.size w (w.drew.alloc o):=(BelowD.refl _ w).drew.alloc (Nat.le_refl _) o
theorem zfU (n:Nat) (hn:n<=1000000):zaa E0 S.BO [.nl,iv (n:Int)] [] (.own 0 0) [.row Ty.Table [] false]:=by
 intro β S w vs r hp
 obtain ⟨hl,hv⟩:=hp
 match vs,hl,hv with
 | [v1,v2],_,hv =>
  have h1:=hv 0 .nl v1 rfl rfl
  have h2:=hv 1 (iv (n:Int)) v2 rfl rfl
  obtain ⟨a,rfl⟩:∃ a,v1=.slice a 0 0:=by
   cases h1 with
   | d _ _ h=>cases h
   | nl a=>exact ⟨a,rfl⟩
  obtain rfl:v2=.int .i64 (n:Int):=by
   cases h2 with
   | d _ _ h=>cases h with|v _ _=>rfl
  refine .inl ⟨⟨_,At.BO,by kernel_rfl,by kernel_rfl⟩,?_⟩
  have hb0:β.length=0:=r.len
  have hβ:β=[]:=List.length_eq_zero_iff.1 hb0
  subst hβ
  rcases Nat.eq_zero_or_pos n with h0|hpos
  ·subst h0
   have hc:=Go.Proofs.Any8.slices_Grow_room Go.Proofs.Tryz.growT a 0 0 0 w (Nat.le_refl _) Zo Zo Zo
   refine Calls.mono (P:=E0.P) hc ?_
   rintro e w' ⟨rfl,rfl⟩
   obtain ⟨x,r'⟩:=r.newRow Ty.Table [] false (.nil a) (BelowD.refl _ _) (fun g hg=>by cases hg) rfl
   exact ⟨_,_,_,_,_,rfl,⟨rfl,rfl⟩,r',x,.own 0 0 _ Ty.Table [] false rfl (Nat.le_refl _) (fun _=>rfl) rfl⟩
  ·obtain ⟨i,d,z,tok⟩:=E0ok.at_ (t:=Ty.Table) (by
    intro h
    have:(E0.T Ty.Table).size=4:=by kernel_rfl
    rw [h] at this;cases this)
   have hs:(E0.T Ty.Table).size=4:=by kernel_rfl
   have hby:(E0.T Ty.Table).bytes<=1000:=Nat.le_of_ble_eq_true kr
   have hbytes:n * i.bytes<=140737488355328:=by
    rw [tok.bytes]
    exact Nat.le_trans (Nat.mul_le_mul hn hby) Zo
   have hc:=Go.Proofs.Any8.slices_Grow_grow Go.Proofs.Tryz.growT i z tok.info tok.zero (by rw [tok.size,hs];omega) a 0 0 n [] w (Nat.le_refl _) Zo (by rw [Nat.zero_add];exact hbytes) Zo Zs (fun _=>rfl) (fun _ _ j v h=>by simp at h)
   have hc2:Calls E0.P Go.AM.S.BO #[.slice a 0 0,.int .i64 (n:Int)] w fun e w'=>e=.returned (.slice (some ⟨w.heap.size,0,none⟩) 0 (grownCap w (0+n) 0 Ty.Table))/\w'=w.drew.alloc (.cells (([]:List Value).toArray++Builtin.zeroCells z.cells (0+n - 0)++Builtin.zeroCells z.cells (grownCap w (0+n) 0 Ty.Table - (0+n))) Ty.Table):=hc
   refine Calls.mono (P:=E0.P) hc2 ?_
   rintro e w' ⟨rfl,rfl⟩
   have hge:=grownCap_ge w (0+n) 0 Ty.Table
   have hle:=grownCap_le_maxLen w (0+n) 0 Ty.Table (by unfold maxLen;omega)
   have hzl:z.cells.size=(E0.T Ty.Table).size:=by
    have:=(zbS (T:=E0.T) (h:=([]:Heap)) (β:=[]) (w:=w) (S:=S) _ _ tok.zok).1
    rw [Array.length_toList] at this
    rw [← this,tok.zlen]
   have hsz:(([]:List Value).toArray++Builtin.zeroCells z.cells (0+n - 0)++Builtin.zeroCells z.cells (grownCap w (0+n) 0 Ty.Table - (0+n))).size=grownCap w (0+n) 0 Ty.Table * (E0.T Ty.Table).size:=by
    simp only [Array.size_append,List.size_toArray,size_zeroCells,hzl,List.length_nil,Nat.zero_add,← Nat.add_mul]
    congr 1
    simp only [Nat.zero_add] at hge
    omega
   obtain ⟨x,r'⟩:=r.newRow Ty.Table [] false (.row w.heap.size (grownCap w (0+n) 0 Ty.Table)) (zlC _) (fun g hg=>by cases hg;exact ⟨Nat.le_refl _,by simp⟩)
    ⟨_,heap_alloc_new w.drew (.cells (([]:List Value).toArray++Builtin.zeroCells z.cells (0+n - 0)++Builtin.zeroCells z.cells (grownCap w (0+n) 0 Ty.Table - (0+n))) Ty.Table),Nat.zero_le _,by omega,hle,hsz,by simp,by simp⟩
   exact ⟨_,_,_,_,_,rfl,⟨rfl,rfl⟩,r',x,.own 0 0 _ Ty.Table [] false rfl (Nat.le_refl _) (fun _=>rfl) rfl⟩
end Go.AM
namespace Go.AM
theorem zhb (v:Int):∃ m:Nat,m < 6/\zaa E0 S.B4 [iv v,iv 6] [] (iv (m:Nat)) []:=by
 have h:=zlM v 6 Zd Zd
 have k:=zkC v 6 Zd
 obtain ⟨m,hm⟩:=Int.eq_ofNat_of_zero_le h.1
 rw [hm] at k h
 exact ⟨m,by omega,k⟩
theorem zhT {p:Prop} (h:p:=by first|assumption|omega|(simp;done)|(simp;omega)):p:=h
theorem zho (a b:List AV) (h:b.length=1):ElAt [a,b] ((0+1:Nat):Int) b 1:=⟨by decide,rfl,h⟩
theorem zmL (t:Tb) (n:Str) :∃ (r:Bool),r=zaC t n/\zaa E0 S.Br [.agg t.cells,.p 0 0] [.box [sv n]] (bv r) [.box [sv n]]:=by
 exact ⟨ByteArray.toList t.sch.name==ByteArray.toList n,Zr,wk At.Br [] kr⟩
theorem zhy (t:Tb) (n:Str):zaa E0 S.Br [.agg t.cells,.p 0 0] [.box [sv n]] (bv (zaC t n)) [.box [sv n]]:=by
 obtain ⟨r,rfl,h⟩:=zmL t n
 exact h
noncomputable def zk7 (l:List Tb) (n:Str) (i:Nat) :Cfg:=zaj B.Ae 0 [(0,.sl (l.map Tb.cells)),(1,.fn S.Br [.p 0 0]),(7,iv ((l.map Tb.cells).length:Nat)),(8,iv (i:Nat))] [.box [sv n]]
theorem zct (l:List Tb) (n:Str) (hl:zae l) (i:Nat)  (hi:i<=(l).length) (hI:idxF (fun t=>zaC t n) l 0=idxF (fun t=>zaC t n) (l.drop i) i):((idxF (fun t=>zaC t n) l 0=idxF (fun t=>zaC t n) (l.drop (l).length) (l).length)/\(decide ((((l).length:Nat):Int) < (((l.map Tb.cells).length:Nat):Int))=false)/\∀ R,Good E0 B.Ae [.box [sv n]] (zk7 l n (l).length ) R->Good E0 B.Ae [.box [sv n]] (zk7 l n i ) R)\/(∃ (r:Int),r=idxF (fun t=>zaC t n) l 0/\Good E0 B.Ae [.box [sv n]] (zk7 l n i ) (Shut 1 fun rZ hZ=>rZ=(iv r)/\hZ=[.box [sv n]])):=by
 have hk:=hi;revert i;refine zlp ((l).length) (fun i hlt ih hi hI _=>?_)
 obtain ⟨x,hx,h0,hw⟩:=zlq (l:=l) ((l.map Tb.cells).length) hlt
 let p_1:List St:=[sb h0,se (zat Tb.cells hx rfl),sl [0] (zhy x n)]
 cases h1:zaC x n
 ·exact zie2 (ih Zo (by exact zkY hI hx ‹_›) Zo) fun R gY=>zab (wkl (p_1++[sb h1,si hw]) [0,1,7,8] 1 kr gY)
 ·exact .inr ⟨(i:Int),(by exact zml hI hx ‹_›),zab (wkr (p_1++[sb h1]) kr)⟩
theorem c_ixF (l:List Tb) (n:Str) (hl:zae l):∃ (r:Int),r=idxF (fun t=>zaC t n) l 0/\zaa E0 S.Ae [.sl (l.map Tb.cells),.fn S.Br [.p 0 0]] [.box [sv n]] (iv r) [.box [sv n]]:=by
 rcases zct l n Za 0 Za Za with ⟨q1,q1_1,g1⟩|⟨r1_0,p1_0,g1⟩
 ·exact ⟨-1,(by first|assumption|exact zhu ‹_›),wkc At.Ae [] [0,1,7,8] 1 kr (g1 _ (zab (wkr [sb q1_1] kr)))⟩
 ·exact ⟨r1_0,(by first|assumption|exact zhu ‹_›),wkc At.Ae [] [0,1,7,8] 1 kr (g1)⟩
theorem zjv (tb:List Tb) (n:Str) (hx:∃ r:Int,r=idxF (fun t=>zaC t n) tb 0/\zaa E0 S.Ae [tsl tb,.fn S.Br [.p 0 0]] [.box [sv n]] (iv r) [.box [sv n]]):∃ (r:Int),r=idxF (fun t=>zaC t n) tb 0/\zaa E0 S.Bn [tsl tb,sv n] [] (iv r) []:=by
 obtain ⟨r1,q1,c1⟩:=hx
 exact ⟨r1,‹_›,wk At.Bn [sl [0] c1] kr⟩
theorem zcc (tb:List Tb) (n:Str) (hl:zae tb):zaa E0 S.Bn [tsl tb,sv n] [] (iv (idxF (fun t=>zaC t n) tb 0)) []:=by
 obtain ⟨r,rfl,h⟩:=zjv tb n (c_ixF tb n hl)
 exact h
theorem zlg (x:Rw) (hsv:zae x.vals):∃ (r:Rw),r=x/\zaa E0 S.Bl [.agg x.cells] [] (.agg r.cells) []:=by
 exact ⟨x,Zr,wk At.Bl [sqx (True/\x.vals.length=(List.map V.cells x.vals).length/\True),sd [(4,[sc (zfp x.vals zhT)])]] kr⟩
theorem zlD (x:Rw) (h:zae x.vals):zaa E0 S.Bl [.agg x.cells] [] (.agg x.cells) []:=by
 obtain ⟨r,rfl,h⟩:=zlg x h
 exact h
noncomputable def L_dlR (l:List Rw) (i:Nat) (out:List Rw):Cfg:=zaj B.AJ 0 [(1,.fn S.Bl []),(5,.own 0 out.length),(8,.sl ((l).map Rw.cells)),(9,iv (((l).map Rw.cells).length:Nat)),(10,iv (i:Nat))] [.row Ty.Row ((out).map Rw.cells) false]
theorem Zcv2 {p:Prop} (h:p:=by first|rfl|(simp;done)|(simp [X.cells,Qy.cells,V.cells,Col.cells,Rw.cells,Tb.cells,Fr.cells,Sch.cells,Tp.cells,Pl.cells,xCol,xLit,xBin,xNeg,Ac.cells,Se.cells,Pr.cells,Ch.cells,Rw.cells];done)):p:=h
theorem zc6 (l:List Rw) (hl:zae l) (hf:∀ x∈l,zaa E0 S.Bl [.agg x.cells] [] (.agg x.cells) []) (i:Nat) (out:List Rw) (hi:i<=(l).length) (hI:out=l.take i):∃ (out':List Rw),(out'=l.take (l).length)/\(decide ((((l).length:Nat):Int) < ((((l).map Rw.cells).length:Nat):Int))=false)/\∀ R,Good E0 B.AJ [] (L_dlR l (l).length out') R->Good E0 B.AJ [] (L_dlR l i out) R:=by
 have hk:=hi;revert i out;refine zlp ((l).length) (fun i hlt ih out hi hI _=>?_)
 obtain ⟨x,hx,h0,hw⟩:=zlq (l:=l) (((l).map Rw.cells).length) hlt
 have hfx:=hf x (List.mem_of_getElem? hx)
 have ho:out.length<=1000000000:=by rw [hI,List.length_take];simp only [zae] at hl;omega
 exact Zih (ih (out++[x]) Zo (by rw [List.take_add_one,hx,hI];rfl) Zo) fun R gY=>zab (wkl [sb h0,se (zat Rw.cells hx rfl),sc hfx,sqA (List.map Rw.cells out) [[iv x.id,vsl x.vals]] out.length 2 32,si hw] [1,5,8,9,10] 1 kr (zbM 5 0 (List.map Rw.cells out++[[iv x.id,vsl x.vals]]) gY (he:=Zcv2) (hm:=Zcv2)))
theorem zfL (l:List Rw) (hl:zae l) (hf:∀ x∈l,zaa E0 S.Bl [.agg x.cells] [] (.agg x.cells) []):∃ (r:List Rw),r=l/\zaa E0 S.AJ [.sl ((l).map Rw.cells),.fn S.Bl []] [] (.sl ((r).map Rw.cells)) []:=by
 obtain ⟨out1,q1,q1_1,g1⟩:=zc6 l Za Za 0 ([]) Za Za
 exact ⟨out1,(by first|assumption|(rw [List.take_length] at *;assumption)),wkcN At.AJ [] [1,5,8,9,10] 0 [(.ot 5 Ty.Row,1)] kr (g1 _ (zab (wkr [sqx (out1.length=(List.map Rw.cells out1).length),sb q1_1] kr)))⟩
theorem zc8 (l:List Rw) (hl:zae l) (hf:∀ x∈l,zaa E0 S.Bl [.agg x.cells] [] (.agg x.cells) []):zaa E0 S.AJ [.sl ((l).map Rw.cells),.fn S.Bl []] [] (.sl ((l).map Rw.cells)) []:=by
 obtain ⟨r,rfl,h⟩:=zfL l hl hf
 exact h
theorem ziO (x:Sch) (hsv:zae x.cols):∃ (r:Sch),r=x/\zaa E0 S.Cb [x.av] [] r.av []:=by
 exact ⟨x,Zr,wk At.Cb [sqx (True/\x.cols.length=(List.map Col.cells x.cols).length/\True),sc (zbe x.cols zhT)] kr⟩
theorem zi3 (x:Sch) (h:zae x.cols):zaa E0 S.Cb [x.av] [] x.av []:=by
 obtain ⟨r,rfl,h⟩:=ziO x h
 exact h
theorem zju (t:Tb) (hc:zae t.sch.cols) (hr:zae t.rows) (hf:∀ x∈t.rows,zaa E0 S.Bl [.agg x.cells] [] (.agg x.cells) []):∃ (r:Tb),r=t/\zaa E0 S.Bf [.agg t.cells] [] (.agg r.cells) []:=by
 exact ⟨t,Zr,wk At.Bf [sd [(2,[sc (zi3 t.sch zhT)]),(7,[sc (zc8 t.rows zhT zhT)])]] kr⟩
theorem zjU (t:Tb) (hc:zae t.sch.cols) (hr:zae t.rows) (hv:∀ r∈t.rows,zae r.vals):zaa E0 S.Bf [.agg t.cells] [] (.agg t.cells) []:=by
 obtain ⟨r,rfl,h⟩:=zju t hc hr (fun x hx=>zlD x (hv x hx))
 exact h
noncomputable def L_dlT (l:List Tb) (i:Nat) (out:List Tb):Cfg:=zaj B.AT 0 [(1,.fn S.Bf []),(5,.own 0 out.length),(8,.sl (l.map Tb.cells)),(9,iv ((l.map Tb.cells).length:Nat)),(10,iv (i:Nat))] [.row Ty.Table (out.map Tb.cells) false]
theorem zcQ (l:List Tb) (hl:zae l) (hf:∀ x∈l,zaa E0 S.Bf [.agg x.cells] [] (.agg x.cells) []) (i:Nat) (out:List Tb) (hi:i<=(l).length) (hI:out=l.take i):∃ (out':List Tb),(out'=l.take (l).length)/\(decide ((((l).length:Nat):Int) < (((l.map Tb.cells).length:Nat):Int))=false)/\∀ R,Good E0 B.AT [] (L_dlT l (l).length out') R->Good E0 B.AT [] (L_dlT l i out) R:=by
 have hk:=hi;revert i out;refine zlp ((l).length) (fun i hlt ih out hi hI _=>?_)
 obtain ⟨x,hx,h0,hw⟩:=zlq (l:=l) ((l.map Tb.cells).length) hlt
 have hfx:=hf x (List.mem_of_getElem? hx)
 have ho:out.length<=1000000000:=by rw [hI,List.length_take];simp only [zae] at hl;omega
 exact Zih (ih (out++[x]) Zo (by rw [List.take_add_one,hx,hI];rfl) Zo) fun R gY=>zab (wkl [sb h0,se (zat Tb.cells hx rfl),sc hfx,sqA (List.map Tb.cells out) [[sv x.sch.name,ZC x.sch.cols,iv x.next,ZW x.rows]] out.length 4 72,si hw] [1,5,8,9,10] 1 kr (zbM 5 0 (List.map Tb.cells out++[[sv x.sch.name,ZC x.sch.cols,iv x.next,ZW x.rows]]) gY (he:=Zcv2) (hm:=Zcv2)))
theorem ziQ (l:List Tb) (hl:zae l) (hf:∀ x∈l,zaa E0 S.Bf [.agg x.cells] [] (.agg x.cells) []):∃ (r:List Tb),r=l.take l.length/\zaa E0 S.AT [.sl (l.map Tb.cells),.fn S.Bf []] [] (.own 0 r.length) [.row Ty.Table (r.map Tb.cells) false]:=by
 obtain ⟨out1,q1,q1_1,g1⟩:=zcQ l Za Za 0 ([]) Za Za
 exact ⟨out1,(by first|assumption|trivial|(simp;done)|omega|(simp;omega)|(simp at *;omega)),zl4 At.AT [] [1,5,8,9,10] 0 [(.ot 5 Ty.Table,1)] kr (g1 _ (zab (wkrK [sb q1_1] kr)))⟩
theorem zdz (l:List Tb) (hl:zae l) (hf:∀ x∈l,zaa E0 S.Bf [.agg x.cells] [] (.agg x.cells) []):zaa E0 S.AT [.sl (l.map Tb.cells),.fn S.Bf []] [] (.own 0 l.length) [.row Ty.Table (l.map Tb.cells) false]:=by
 obtain ⟨r,hr,h⟩:=ziQ l hl hf
 rw [List.take_length] at hr;subst hr;exact h
theorem ziP (l:List Tb) (hl:zae l) (hf:∀ x∈l,zaa E0 S.Bf [.agg x.cells] [] (.agg x.cells) []):∃ (r:List Tb),r=l/\zaa E0 S.BF [tsl l] [] (.own 0 r.length) [.row Ty.Table (r.map Tb.cells) false]:=by
 exact ⟨l,Zr,wkK At.BF [sc (zdz l (by first|assumption|omega|(simp;done)|(simp;omega)) (by first|assumption|omega|(simp;done)|(simp;omega)))] kr⟩
theorem zcb (l:List Tb) (hl:zae l) (hc:∀ t∈l,zae t.sch.cols/\zae t.rows/\∀ r∈t.rows,zae r.vals):zaa E0 S.BF [tsl l] [] (.own 0 l.length) [.row Ty.Table (l.map Tb.cells) false]:=by
 obtain ⟨r,rfl,h⟩:=ziP l hl fun x hx=>zjU x (hc x hx).1 (hc x hx).2.1 (hc x hx).2.2
 exact h
noncomputable def L_ors (i:Nat):Cfg:=zaj B.BJ 0 [(3,.mp 0),(7,.sl []),(8,iv (([]:List (List AV)).length:Nat)),(9,iv (i:Nat))] [.mp []]
theorem zfa (i:Nat):True/\∀ R,Good E0 B.BJ [] (L_ors i) R->Good E0 B.BJ [] (L_ors i) R:=⟨trivial,fun _ h=>h⟩
theorem zjz  :∃ (es:List (AV × AV)),es=[]/\zaa E0 S.BJ [.sl []] [] (.mp 0) [.mp es]:=by
 obtain ⟨q1,g1⟩:=zfa (0)
 exact ⟨[],Zr,wkcK At.BJ [] [3,7,8,9] 1 kr (g1 _ (zab (wkrK [sb Zf] kr)))⟩
theorem zgQ:zaa E0 S.BJ [.sl []] [] (.mp 0) [.mp []]:=by
 obtain ⟨r,rfl,h⟩:=zjz
 exact h
noncomputable def L_orv (i:Nat):Cfg:=zaj B.Bt 0 [(0,.sl []),(3,.mp 0),(10,.sl []),(11,iv (([]:List (List AV)).length:Nat)),(12,iv (i:Nat))] [.mp []]
theorem zen (i:Nat):True/\∀ R,Good E0 B.Bt [] (L_orv i) R->Good E0 B.Bt [] (L_orv i) R:=⟨trivial,fun _ h=>h⟩
theorem zh7  :∃ (r:Bool),r=true/\zaa E0 S.Bt [.sl []] [] (bv r) []:=by
 obtain ⟨q1,g1⟩:=zen (0)
 exact ⟨true,Zr,wkc At.Bt [sc zgQ] [0,3,10,11,12] 1 kr (g1 _ (zab (wkr [sb Zf] kr)))⟩
theorem zdA:zaa E0 S.Bt [.sl []] [] (bv true) []:=by
 obtain ⟨r,rfl,h⟩:=zh7
 exact h
noncomputable def L_grv (i n:Nat):Cfg:=zaj B.Bw 0 [(0,iv (n:Nat)),(1,.sl []),(13,.sl []),(14,iv (([]:List (List AV)).length:Nat)),(15,iv (i:Nat))] []
theorem zem (i n:Nat):True/\∀ R,Good E0 B.Bw [] (L_grv i n) R->Good E0 B.Bw [] (L_grv i n) R:=⟨trivial,fun _ h=>h⟩
theorem zh6 (n:Nat) (hn1:decide ((n:Int) < 0)=false) (hn2:decide ((64:Int) < (n:Int))=false):∃ (r:Bool),r=true/\zaa E0 S.Bw [iv (n:Nat),.sl []] [] (bv r) []:=by
 obtain ⟨q1,g1⟩:=zem 0 (n)
 exact ⟨true,Zr,wkc At.Bw [sg Zf,sb hn2] [0,1,13,14,15] 0 kr (g1 _ (zab (wkr [sb Zf] kr)))⟩
theorem zfH (n:Nat) (hn:n<=64):zaa E0 S.Bw [iv (n:Nat),.sl []] [] (bv true) []:=by
 obtain ⟨r,rfl,h⟩:=zh6 n Zs Zp
 exact h
structure Edg where
 src:Int
 dst:Int
def Edg.cells (e:Edg):List AV:=[iv e.src,iv e.dst]
@[simp] theorem Edg.cells_length (x:Edg):x.cells.length=2:=rfl
theorem zmO (l:List Edg) (hl:zae l):Good E0 B.AK [] (za6 (zbQ B.AK [.sl (l.map Edg.cells)] [] 0) false) (fun r h=>r=.own 0 l.length/\h=[.row Ty.Edge (l.map Edg.cells) false]) :=
 zbG E0ok mix0 3000 (y:=AV.own 0 (List.map Edg.cells l).length) (H:=[Blk.row Ty.Edge (List.map Edg.cells l) false]) [sb Zf,sqx (AllLen (List.map Edg.cells l) 2/\((List.map Edg.cells l).length * 16).le 140737488355328)] kr (⟨by simp,rfl⟩)
theorem zmP:Good E0 B.AK [] (za6 (zbQ B.AK [.sl []] [] 0) true) (fun r h=>r=.nl/\h=[]) :=
 zbG E0ok mix0 3000 (y:=AV.nl) (H:=[]) [sb Zt] kr (⟨rfl,rfl⟩)
theorem zfS (l:List Edg) (hl:zae l):zaa E0 S.AK [.sl (l.map Edg.cells)] [] (.own 0 l.length) [.row Ty.Edge (l.map Edg.cells) false]:=by
 refine zaw At.AK rfl kr (Nat.le_of_ble_eq_true kr) (zbX E0ok mix0 3000 [] (List.range 40) 0 (c':=zbQ B.AK [.sl (l.map Edg.cells)] [] 0) kr kr (zdb E0ok (xs:=l.map Edg.cells) (e:=true) kr fun b hb=>?_))
 cases b with
 | false=>exact zmO l hl
 | true =>
  cases l with
  | nil=>exact zb1 Ty.Edge zmP ⟨rfl,rfl⟩
  | cons x r=>exact absurd (hb Zs) Zs
structure Lnk where
 fst_:Str
 snd_:Str
def Lnk.cells (e:Lnk):List AV:=[sv e.fst_,sv e.snd_]
@[simp] theorem Lnk.cells_length (x:Lnk):x.cells.length=2:=rfl
theorem zmQ (l:List Lnk) (hl:zae l):Good E0 B.Aw [] (za6 (zbQ B.Aw [.sl (l.map Lnk.cells)] [] 0) false) (fun r h=>r=.own 0 l.length/\h=[.row Ty.Link (l.map Lnk.cells) false]) :=
 zbG E0ok mix0 3000 (y:=AV.own 0 (List.map Lnk.cells l).length) (H:=[Blk.row Ty.Link (List.map Lnk.cells l) false]) [sb Zf,sqx (AllLen (List.map Lnk.cells l) 2/\((List.map Lnk.cells l).length * 32).le 140737488355328)] kr (⟨by simp,rfl⟩)
theorem zmR:Good E0 B.Aw [] (za6 (zbQ B.Aw [.sl []] [] 0) true) (fun r h=>r=.nl/\h=[]) :=
 zbG E0ok mix0 3000 (y:=AV.nl) (H:=[]) [sb Zt] kr (⟨rfl,rfl⟩)
theorem zbu (l:List Lnk) (hl:zae l):zaa E0 S.Aw [.sl (l.map Lnk.cells)] [] (.own 0 l.length) [.row Ty.Link (l.map Lnk.cells) false]:=by
 refine zaw At.Aw rfl kr (Nat.le_of_ble_eq_true kr) (zbX E0ok mix0 3000 [] (List.range 40) 0 (c':=zbQ B.Aw [.sl (l.map Lnk.cells)] [] 0) kr kr (zdb E0ok (xs:=l.map Lnk.cells) (e:=true) kr fun b hb=>?_))
 cases b with
 | false=>exact zmQ l hl
 | true =>
  cases l with
  | nil=>exact zb1 Ty.Link zmR ⟨rfl,rfl⟩
  | cons x r=>exact absurd (hb Zs) Zs
noncomputable def L_ixE (i:Nat) (g:FuncId):Cfg:=zaj B.AL 0 [(0,.own 0 0),(1,.fn g [.p 1 0]),(7,iv 0),(8,iv (i:Nat))] [.row Ty.Edge [] false,.box [.sl []]]
theorem zcz (i:Nat) (g:FuncId):True/\∀ R,Good E0 B.AL [.row Ty.Edge [] false,.box [.sl []]] (L_ixE i g) R->Good E0 B.AL [.row Ty.Edge [] false,.box [.sl []]] (L_ixE i g) R:=⟨trivial,fun _ h=>h⟩
theorem ca_ixE  :∃ (r:Int),r=-1/\zaa E0 S.AL [.own 0 0,.fn S.BE [.p 1 0]] [.row Ty.Edge [] false,.box [.sl []]] (iv r) [.row Ty.Edge [] false,.box [.sl []]]:=by
 obtain ⟨q1,g1⟩:=zcz 0 (141)
 exact ⟨-1,Zr,wkc At.AL [sqx (0=0)] [0,1,7,8] 2 kr (g1 _ (zab (wkr [sb Zf] kr)))⟩
theorem zei:zaa E0 S.AL [.own 0 0,.fn S.BE [.p 1 0]] [.row Ty.Edge [] false,.box [.sl []]] (iv (-1)) [.row Ty.Edge [] false,.box [.sl []]]:=by
 obtain ⟨r,rfl,h⟩:=ca_ixE
 exact h
theorem ca_dfE  :∃ (n:Nat),n=0/\zaa E0 S.Bx [.own 0 0,.fn S.BE [.p 1 0]] [.row Ty.Edge [] false,.box [.sl []]] (.own 0 n) [.row Ty.Edge [] false,.box [.sl []]]:=by
 exact ⟨0,Zr,wkK At.Bx [sl [0,1] zei,sb Zt] kr⟩
theorem zd3:zaa E0 S.Bx [.own 0 0,.fn S.BE [.p 1 0]] [.row Ty.Edge [] false,.box [.sl []]] (.own 0 0) [.row Ty.Edge [] false,.box [.sl []]]:=by
 obtain ⟨r,rfl,h⟩:=ca_dfE
 exact h
theorem zli  (hcl:zaa E0 S.AK [.sl []] [] (.own 0 0) [.row Ty.Edge [] false]):∃ (r:List Edg),r=[]/\zaa E0 S.B6 [.sl [],.sl []] [] (.sl (r.map Edg.cells)) []:=by
 exact ⟨[],Zr,wk At.B6 [sqx (0=0),sc hcl,sl [1,0] zd3] kr⟩
theorem zew:zaa E0 S.B6 [.sl [],.sl []] [] (.sl []) []:=by
 obtain ⟨r,rfl,h⟩:=zli (zfS [] (by simp [zae]))
 exact h
end Go.AM
namespace Go.AM
open Go.RowKit
theorem zl5 {E:Env0} (ht:zan E) (hm:E.P.follows .mixedOrders=true) {id:Nat} {ops:Array Oper} {osl:List (Nat × List Orc)} {n:Nat} {ts:TS} {h hb:Heap} {Q:Exit->Act->World->Prop} {βb β:List Con} {Sb S:Addr->Prop} {wb w:World} {tmps:Array Value} {Ls:List (List Prop × TS × Heap)}
  (hsz:ops.toList.length=ops.size) (hlv:zbz (mk E) ops.toList osl n ops.toList.length [] ts h=some Ls) (hq:∀ l∈Ls,allP l.1) (hn:tmps.size=n) (x:Ext hb βb Sb wb h β S w) (r:Rel E h β S w) (rt:zam E.T h β w S ts tmps)
  (hK:∀ l∈Ls,∀ (β':List Con) (S':Addr->Prop) (w':World) (tmps':Array Value),tmps'.size=n->Ext hb βb Sb wb l.2.2 β' S' w'->Rel E l.2.2 β' S' w'->zam E.T l.2.2 β' w' S' l.2.1 tmps'->Q .normal ⟨tmps',[]⟩ w') :
  (Code.region id ops true).wp E.P Q ⟨tmps,[]⟩ w:=by
 refine wp_region_any hm ?_
 have hdg:=ziD (E:=mk E) (K:=fun L hh=>∃ l∈Ls,L=look l.2.1/\hh=l.2.2) ops.toList.length [] (Array.replicate ops.size false) ts h _ ⟨by simp,fun j hj=>?_⟩ Zs (fun j o ho hj=>?_) hlv (fun l hl=>?_)
 ·have hbel:BelowD w.heap.size w { w with drawn:=w.drawn+1 }:=⟨⟨rfl,rfl,rfl,Nat.le_refl _,fun _ _=>rfl⟩,Nat.le_succ _⟩
  have x1:Ext h β S w h β S { w with drawn:=w.drawn+1 }:=Ext.grow r hbel (fun _ h=>h) (fun _ h=>.inl h)
  have r1:Rel E h β S { w with drawn:=w.drawn+1 }:=r.grow hbel (fun _ h=>h) (fun _ h=>.inl h)
  have:=zjm (Q:=Q) ht (fun L hh β' S' w' tmps' hKK hn' x' r' rl'=>by
   obtain ⟨l,hl,rfl,rfl⟩:=hKK
   exact hK l hl β' S' w' tmps' hn' x' r' rl') ops.toList.length _ _ _ β S _ tmps hdg hn (x.trans x1) r1 (fun t=>(rt t).ext x1)
  rw [hsz] at this
  simpa using this
 ·have:j < ops.size:=by simpa using hj
  simp [memN,this]
 ·by_cases hjs:j < ops.size
  ·simp [hjs] at hj
  ·simp [hjs] at hj
 ·exact ⟨hq l hl,l,hl,rfl,rfl⟩
def zlt (E:Env) (c:Cfg) (osl:List (Nat × List Orc)):Option (List It × List (List Prop × TS × Heap)):=match c.todo with
 | .code (.region _ ops true)::k=>match zbz E ops.toList osl c.n ops.toList.length [] c.ts c.h,Nat.beq ops.toList.length ops.size with
  | some l,true=>some (k,l)
  | _,_=>none
 | _=>none
theorem zjO {E:Env0} (ht:zan E) (hm:E.P.follows .mixedOrders=true) {fn:Func} {R:AV->Heap->Prop} {h0:Heap} {c:Cfg} {osl:List (Nat × List Orc)} {k:List It} {Ls:List (List Prop × TS × Heap)} (hd:zlt (mk E) c osl=some (k,Ls)) (hq:∀ l∈Ls,allP l.1) (hg:∀ l∈Ls,Good E fn h0 ⟨c.n,k,l.2.1,l.2.2⟩ R):Good E fn h0 c R:=by
 intro β0 S0 w0 β S w tmps hb0 hn x0 r rt
 obtain ⟨n,todo,ts,h⟩:=c
 simp only at hn x0 r rt ⊢
 unfold zlt at hd
 simp only at hd
 split at hd
 ·rename_i id ops k'
  split at hd
  ·rename_i Ls' hlv hsz
   cases hd
   simp only [kont,Exit.then]
   exact zl5 ht hm (Nat.eq_of_beq_eq_true hsz) hlv hq hn x0 r rt fun l hl β' S' w' tmps' hn' x' r' rt'=>hg l hl β0 S0 w0 β' S' w' tmps' hb0 hn' x' r' rt'
  ·cases hd
 ·cases hd
noncomputable def zhq (fn:Func) (m n:Nat) (k:List It) (os1:List Orc):List (List Prop × TS × Heap)->Option (List (List Prop × AV × Heap))
 | []=>some []
 | (q,t,h)::r=>match fin (mk E0) fn m 3000 ⟨n,k,t,h⟩ os1,zhq fn m n k os1 r with
  | some (p,y,H),some l=>some ((q++p,y,H)::l)
  | _,_=>none
noncomputable def runDs (fn:Func) (args:List AV) (h:Heap) (n:Nat) (os0:List Orc) (osl:List (Nat × List Orc)) (os1:List Orc):Option (List Prop × List (List Prop × AV × Heap)) :=
 match fn.body, (fn.name == "runtime.NumGoroutine"), Nat.ble args.length fn.ntmps with
 | some c,false,true=>match run (mk E0) n ⟨fn.ntmps,[.code c],zbt 0 args,h⟩ os0 with
  | (q0,c1,_)=>match zlt (mk E0) c1 osl with
   | some (k,Ls)=>(zhq fn h.length c1.n k os1 Ls).map fun l=>(q0,l)
   | none=>none
 | _,_,_=>none
theorem zf4 {fn:Func} {h0:Heap} {m n:Nat} {k:List It} {l1:List St} {r:AV} {H:Heap}:∀ {Ls:List (List Prop × TS × Heap)} {aa:List (List St)},zhq fn m n k (orcs l1) Ls=some (aa.map fun a=>(zaG (a++l1),r,H)) ->
  ∀ l∈Ls,allP l.1/\Good E0 fn h0 ⟨n,k,l.2.1,l.2.2⟩ (Shut m fun y h=>y=r/\h=H)
 | [],_,_,l,hl=>by cases hl
 | (q,t,h)::Ls,aa,hf,l,hl=>by
  unfold zhq at hf
  split at hf
  ·rename_i p y H' rest h1 h2
   cases aa with
   | nil=>simp at hf
   | cons a aa =>
    simp only [List.map_cons,Option.some.injEq,List.cons.injEq,Prod.mk.injEq] at hf
    obtain ⟨⟨e1,rfl,rfl⟩,e2⟩:=hf
    have hp:=zau (a++l1)
    rw [← e1] at hp
    rcases List.mem_cons.1 hl with rfl|hl
    ·exact ⟨(zbL hp).1,zg0 E0ok mix0 3000 (orcs l1) h1 (zbL hp).2 ⟨rfl,rfl⟩⟩
    ·exact zf4 (aa:=aa) (by rw [h2,e2]) l hl
  ·cases hf
theorem wkDs {f:FuncId} {fn:Func} {args:List AV} {h H:Heap} {r:AV} (hf:E0.P.funcs[f]?=some fn) (l0:List St) (n:Nat) (osl:List (Nat × List Orc)) (aa:List (List St)) (l1:List St) (hfin:runDs fn args h n (orcs l0) osl (orcs l1)=some (zaG l0,aa.map fun a=>(zaG (a++l1),r,H))):zaa E0 f args h r H:=by
 unfold runDs at hfin
 split at hfin
 ·rename_i c hb hname ha
  split at hfin
  rename_i q0 c1 os' hrun
  split at hfin
  ·rename_i k Ls hd
   simp only [Option.map_eq_some_iff,Prod.mk.injEq] at hfin
   obtain ⟨l,h1,e0,rfl⟩:=hfin
   refine zcu (zaw hf hb hname (Nat.le_of_ble_eq_true ha) (zds E0ok mix0 n _ (orcs l0) (by rw [hrun,e0];exact zau l0) ?_))
   rw [hrun]
   exact zjO E0ok mix0 hd (fun l hl=>(zf4 (h0:=h) h1 l hl).1) fun l hl=>(zf4 h1 l hl).2
  ·cases hfin
 ·cases hfin
end Go.AM
namespace Go.AM
abbrev rch:List AV:=List.replicate 64 (AV.v (Value.int IntKind.u64 0))
abbrev acAb:Ac:=⟨4,⟨#[]⟩,[],[],[],[],⟨#[]⟩⟩
abbrev tgX:Tg:=⟨⟨#[97]⟩,⟨#[108,111,103]⟩,false,1,[],false,[],[],[],[],[acAb]⟩
noncomputable def L_ocA (i n:Nat):Cfg:=zaj B.An 0 [(0,iv n),(5,.p 0 0),(16,.sl []),(17,iv (([]:List (List AV)).length:Nat)),(18,iv (i:Nat))] [.box rch]
theorem zb4 (i n:Nat):True/\∀ R,Good E0 B.An [] (L_ocA i n) R->Good E0 B.An [] (L_ocA i n) R:=⟨trivial,fun _ h=>h⟩
noncomputable def L_ocB (i n:Nat):Cfg:=zaj B.An 1 [(0,iv n),(5,.p 0 0),(32,iv n),(33,iv (i:Nat))] [.box rch]
theorem zbl (i n:Nat):True/\∀ R,Good E0 B.An [] (L_ocB i n) R->Good E0 B.An [] (L_ocB i n) R:=⟨trivial,fun _ h=>h⟩
noncomputable def L_ocC (j i n:Nat):Cfg:=zaj B.An 2 [(0,iv n),(5,.p 0 0),(8,iv (j:Nat)),(32,iv n),(33,iv (j:Nat)),(36,iv n),(37,iv (i:Nat))] [.box rch]
theorem zb5 (j i n:Nat):True/\∀ R,Good E0 B.An [] (L_ocC j i n) R->Good E0 B.An [] (L_ocC j i n) R:=⟨trivial,fun _ h=>h⟩
noncomputable def L_ocD (i n:Nat):Cfg:=zaj B.An 3 [(5,.p 0 0),(10,.nl),(57,iv n),(58,iv (i:Nat))] [.box rch]
theorem zbm (i n:Nat):True/\∀ R,Good E0 B.An [] (L_ocD i n) R->Good E0 B.An [] (L_ocD i n) R:=⟨trivial,fun _ h=>h⟩
theorem ca_oc0  :∃ (r:List Str),r=[]/\zaa E0 S.An [iv (0:Nat),.sl []] [] (ssl r) []:=by
 obtain ⟨q1,g1⟩:=zb4 0 (0)
 obtain ⟨q2,g2⟩:=zbl 0 (0)
 obtain ⟨q3,g3⟩:=zbm 0 (0)
 exact ⟨[],Zr,wkc At.An [sc (zfH 0 (by first|assumption|omega|(simp;done)|(simp;omega))),sb Zf] [0,5,16,17,18] 1 kr (g1 _ (zab (wkl [sb Zf] [0,5,32,33] 1 kr (g2 _ (zab (wkl [sb Zf] [5,10,57,58] 1 kr (g3 _ (zab (wkr [sb Zf] kr)))))))))⟩
theorem ca_oc1  :∃ (r:List Str),r=[]/\zaa E0 S.An [iv (1:Nat),.sl []] [] (ssl r) []:=by
 obtain ⟨q1,g1⟩:=zb4 0 (1)
 obtain ⟨q2,g2⟩:=zbl 0 (1)
 obtain ⟨q3,g3⟩:=zb5 0 0 (1)
 obtain ⟨q4,g4⟩:=zb5 0 (0+1) (1)
 obtain ⟨q5,g5⟩:=zbl (0+1) (1)
 obtain ⟨q6,g6⟩:=zbm 0 (1)
 obtain ⟨q7,g7⟩:=zbm (0+1) (1)
 exact ⟨[],Zr,wkc At.An [sc (zfH 1 (by first|assumption|omega|(simp;done)|(simp;omega))),sb Zf] [0,5,16,17,18] 1 kr (g1 _ (zab (wkl [sb Zf] [0,5,32,33] 1 kr (g2 _ (zab (wkl [sb Zt] [0,5,8,32,33,36,37] 1 kr (g3 _ (zab (wkl [sb Zt,sq (show (0:Int)<=0/\(0:Nat) < 64 by decide),sx (.i (Int.fdiv (0:Int) ((2:Int) ^ min (↑(0:Nat):Int).toNat IntKind.u64.bits))) (show (0:Int)<=(↑(0:Nat):Int)/\(Int.fdiv (0:Int) ((2:Int) ^ min (↑(0:Nat):Int).toNat IntKind.u64.bits):Int)=Int.fdiv (0:Int) ((2:Int) ^ min (↑(0:Nat):Int).toNat IntKind.u64.bits) from ⟨(by simp_all),rfl⟩),si (e:=IntKind.u64.wrap (↑(BitVec.ofInt IntKind.u64.bits (Int.fdiv 0 (2 ^ min (↑0:Int).toNat IntKind.u64.bits)) &&& BitVec.ofInt IntKind.u64.bits 1).toNat:Int)) rfl,sb Zf,si (zar (t:=(↑0:Int)+1) (n:=0+1) Zo Zo)] [0,5,8,32,33,36,37] 1 kr (g4 _ (zab (wkl [sb Zf,si (zar (t:=(↑0:Int)+1) (n:=0+1) Zo Zo)] [0,5,32,33] 1 kr (g5 _ (zab (wkl [sb Zf] [5,10,57,58] 1 kr (g6 _ (zab (wkl [sb Zt,sq (show (0:Int)<=0/\(0:Nat) < 64 by decide),sx (.i (Int.fdiv (0:Int) ((2:Int) ^ min (↑(0:Nat):Int).toNat IntKind.u64.bits))) (show (0:Int)<=(↑(0:Nat):Int)/\(Int.fdiv (0:Int) ((2:Int) ^ min (↑(0:Nat):Int).toNat IntKind.u64.bits):Int)=Int.fdiv (0:Int) ((2:Int) ^ min (↑(0:Nat):Int).toNat IntKind.u64.bits) from ⟨(by simp_all),rfl⟩),si (e:=IntKind.u64.wrap (↑(BitVec.ofInt IntKind.u64.bits (Int.fdiv 0 (2 ^ min (↑0:Int).toNat IntKind.u64.bits)) &&& BitVec.ofInt IntKind.u64.bits 1).toNat:Int)) rfl,sb Zf,si (zar (t:=(↑0:Int)+1) (n:=0+1) Zo Zo)] [5,10,57,58] 1 kr (g7 _ (zab (wkr [sb Zf] kr)))))))))))))))))))))⟩
theorem zf9:zaa E0 S.An [iv (0:Nat),.sl []] [] (.sl []) []:=by
 obtain ⟨r,rfl,h⟩:=ca_oc0
 exact h
theorem zga:zaa E0 S.An [iv (1:Nat),.sl []] [] (.sl []) []:=by
 obtain ⟨r,rfl,h⟩:=ca_oc1
 exact h
noncomputable def L_efA (i:Nat):Cfg:=zaj B.AN 0 [(1,.sl [tgX.cells]),(5,.nl),(11,.sl [acAb.cells]),(12,iv 1),(13,iv (i:Nat))] []
theorem zbA (i:Nat):True/\∀ R,Good E0 B.AN [] (L_efA i) R->Good E0 B.AN [] (L_efA i) R:=⟨trivial,fun _ h=>h⟩
theorem ca_ef  :∃ (r:List Str),r=[]/\zaa E0 S.AN [tgX.av,.sl [tgX.cells]] [] (ssl r) []:=by
 obtain ⟨q1,g1⟩:=zbA (0)
 obtain ⟨q2,g2⟩:=zbA (0+1)
 exact ⟨[],Zr,wkc At.AN [sb Zf] [1,5,11,12,13] 0 kr (g1 _ (zab (wkl [sb Zt,se (xs:=[[iv acAb.kind,sv acAb.table,AV.sl [],AV.sl (zag []),AV.sl [],AV.sl (zad []),sv acAb.text]]) (i:=0) (c:=[iv acAb.kind,sv acAb.table,AV.sl [],AV.sl (zag []),AV.sl [],AV.sl (zad []),sv acAb.text]) (n:=7) ⟨by decide,rfl,rfl⟩,sb Zf,sb Zf,sb Zf,si (zar (t:=(↑0:Int)+1) (n:=0+1) Zo Zo)] [1,5,11,12,13] 0 kr (g2 _ (zab (wkr [sb Zf] kr))))))⟩
theorem zfr:zaa E0 S.AN [tgX.av,.sl [tgX.cells]] [] (.sl []) []:=by
 obtain ⟨r,rfl,h⟩:=ca_ef
 exact h
noncomputable def L_teA (i:Nat):Cfg:=zaj B.Ag 0 [(3,.nl),(11,.sl []),(12,iv (([]:List (List AV)).length:Nat)),(13,iv (i:Nat))] []
theorem zdd (i:Nat):True/\∀ R,Good E0 B.Ag [] (L_teA i) R->Good E0 B.Ag [] (L_teA i) R:=⟨trivial,fun _ h=>h⟩
noncomputable def L_teB (i:Nat):Cfg:=zaj B.Ag 0 [(0,.sl [tgX.cells]),(3,.nl),(11,.sl [tgX.cells]),(12,iv 1),(13,iv (i:Nat))] []
theorem zbI (i:Nat):True/\∀ R,Good E0 B.Ag [] (L_teB i) R->Good E0 B.Ag [] (L_teB i) R:=⟨trivial,fun _ h=>h⟩
noncomputable def L_teC (j i:Nat):Cfg:=zaj B.Ag 1 [(0,.sl [tgX.cells]),(3,.nl),(4,iv (j:Nat)),(6,.sl []),(11,.sl [tgX.cells]),(12,iv 1),(13,iv (j:Nat)),(21,.sl [tgX.cells]),(22,iv 1),(23,iv (i:Nat))] []
theorem zbJ (j i:Nat):True/\∀ R,Good E0 B.Ag [] (L_teC j i) R->Good E0 B.Ag [] (L_teC j i) R:=⟨trivial,fun _ h=>h⟩
noncomputable def L_teD (j i k:Nat):Cfg:=zaj B.Ag 2 [(0,.sl [tgX.cells]),(3,.nl),(4,iv (j:Nat)),(6,.sl []),(7,iv (i:Nat)),(8,.p 0 0),(11,.sl [tgX.cells]),(12,iv 1),(13,iv (j:Nat)),(21,.sl [tgX.cells]),(22,iv 1),(23,iv (i:Nat)),(28,.sl []),(29,iv (([]:List (List AV)).length:Nat)),(30,iv (k:Nat))] [.box tgX.cells]
theorem zde (j i k:Nat):True/\∀ R,Good E0 B.Ag [] (L_teD j i k) R->Good E0 B.Ag [] (L_teD j i k) R:=⟨trivial,fun _ h=>h⟩
theorem ca_te0  :∃ (r:List Str),r=[]/\zaa E0 S.Ag [.sl []] [] (ssl r) []:=by
 obtain ⟨q1,g1⟩:=zdd (0)
 exact ⟨[],Zr,wkc At.Ag [] [3,11,12,13] 0 kr (g1 _ (zab (wkr [sb Zf] kr)))⟩
theorem ca_te1  (hef:zaa E0 S.AN [tgX.av,.sl [tgX.cells]] [] (.sl []) []):∃ (r:List Str),r=[]/\zaa E0 S.Ag [.sl [tgX.cells]] [] (ssl r) []:=by
 obtain ⟨q1,g1⟩:=zbI (0)
 obtain ⟨q2,g2⟩:=zbJ 0 (0)
 obtain ⟨q3,g3⟩:=zde 0 0 (0)
 obtain ⟨q4,g4⟩:=zbJ 0 (0+1)
 obtain ⟨q5,g5⟩:=zbI (0+1)
 exact ⟨[],Zr,wkc At.Ag [] [0,3,11,12,13] 0 kr (g1 _ (zab (wkl [sb Zt,se (xs:=[[sv tgX.name,sv tgX.table,bv tgX.before,iv tgX.event,AV.sl [],bv tgX.each,AV.sl [],AV.sl [],AV.sl [],AV.sl (zad []),AV.sl [[iv acAb.kind,sv acAb.table,AV.sl [],AV.sl (zag []),AV.sl [],AV.sl (zad []),sv acAb.text]]]]) (i:=0) (c:=[sv tgX.name,sv tgX.table,bv tgX.before,iv tgX.event,AV.sl [],bv tgX.each,AV.sl [],AV.sl [],AV.sl [],AV.sl (zad []),AV.sl [[iv acAb.kind,sv acAb.table,AV.sl [],AV.sl (zag []),AV.sl [],AV.sl (zad []),sv acAb.text]]]) (n:=11) ⟨by decide,rfl,rfl⟩,sc hef] [0,3,4,6,11,12,13,21,22,23] 0 kr (g2 _ (zab (wkl [sb Zt,se (xs:=[[sv tgX.name,sv tgX.table,bv tgX.before,iv tgX.event,AV.sl [],bv tgX.each,AV.sl [],AV.sl [],AV.sl [],AV.sl (zad []),AV.sl [[iv acAb.kind,sv acAb.table,AV.sl [],AV.sl (zag []),AV.sl [],AV.sl (zad []),sv acAb.text]]]]) (i:=0) (c:=[sv tgX.name,sv tgX.table,bv tgX.before,iv tgX.event,AV.sl [],bv tgX.each,AV.sl [],AV.sl [],AV.sl [],AV.sl (zad []),AV.sl [[iv acAb.kind,sv acAb.table,AV.sl [],AV.sl (zag []),AV.sl [],AV.sl (zad []),sv acAb.text]]]) (n:=11) ⟨by decide,rfl,rfl⟩] [0,3,4,6,7,8,11,12,13,21,22,23,28,29,30] 1 kr (g3 _ (zab (wkl [sb Zf,si (zar (t:=(↑0:Int)+1) (n:=0+1) Zo Zo)] [0,3,4,6,11,12,13,21,22,23] 0 kr (g4 _ (zab (wkl [sb Zf,si (zar (t:=(↑0:Int)+1) (n:=0+1) Zo Zo)] [0,3,11,12,13] 0 kr (g5 _ (zab (wkr [sb Zf] kr)))))))))))))))⟩
theorem ze2:zaa E0 S.Ag [.sl []] [] (.sl []) []:=by
 obtain ⟨r,rfl,h⟩:=ca_te0
 exact h
theorem ze3:zaa E0 S.Ag [.sl [tgX.cells]] [] (.sl []) []:=by
 obtain ⟨r,rfl,h⟩:=ca_te1 zfr
 exact h
theorem ca_rc (t:List Tb) :∃ (r:Bool),r=false/\zaa E0 S.BZ [.sl [tgX.cells],tsl t,iv 0] [] (bv r) []:=by
 exact ⟨false,Zr,wk At.BZ [sg Zf,sg Zf,se (xs:=[[sv tgX.name,sv tgX.table,bv tgX.before,iv tgX.event,AV.sl [],bv tgX.each,AV.sl [],AV.sl [],AV.sl [],AV.sl (zad []),AV.sl [[iv acAb.kind,sv acAb.table,AV.sl [],AV.sl (zag []),AV.sl [],AV.sl (zad []),sv acAb.text]]]]) (i:=0) (c:=[sv tgX.name,sv tgX.table,bv tgX.before,iv tgX.event,AV.sl [],bv tgX.each,AV.sl [],AV.sl [],AV.sl [],AV.sl (zad []),AV.sl [[iv acAb.kind,sv acAb.table,AV.sl [],AV.sl (zag []),AV.sl [],AV.sl (zad []),sv acAb.text]]]) (n:=11) ⟨by decide,rfl,rfl⟩,sg Zf,se (xs:=[[sv tgX.name,sv tgX.table,bv tgX.before,iv tgX.event,AV.sl [],bv tgX.each,AV.sl [],AV.sl [],AV.sl [],AV.sl (zad []),AV.sl [[iv acAb.kind,sv acAb.table,AV.sl [],AV.sl (zag []),AV.sl [],AV.sl (zad []),sv acAb.text]]]]) (i:=0) (c:=[sv tgX.name,sv tgX.table,bv tgX.before,iv tgX.event,AV.sl [],bv tgX.each,AV.sl [],AV.sl [],AV.sl [],AV.sl (zad []),AV.sl [[iv acAb.kind,sv acAb.table,AV.sl [],AV.sl (zag []),AV.sl [],AV.sl (zad []),sv acAb.text]]]) (n:=11) ⟨by decide,rfl,rfl⟩,sb Zt] kr⟩
theorem zfR (t:List Tb):zaa E0 S.BZ [.sl [tgX.cells],tsl t,iv 0] [] (bv false) []:=by
 obtain ⟨r,rfl,h⟩:=ca_rc t
 exact h
theorem ca_op (a b:Str) :∃ (r:Bool),r=false/\zaa E0 S.B0 [.sl [],sv a,sv b] [] (bv r) []:=by
 exact ⟨zlL [] (Lk.mk a b),Zr,wk At.B0 [sc (zeM ([]) (Lk.mk a b) (by first|assumption|omega|(simp;done)|(simp;omega)))] kr⟩
theorem zc9 (a b:Str):zaa E0 S.B0 [.sl [],sv a,sv b] [] (bv false) []:=by
 obtain ⟨r,rfl,h⟩:=ca_op a b
 exact h
theorem ca_cA (t:List Tb) :∃ (r:Bool),r=true/\zaa E0 S.B7 [.sl [tgX.cells],tsl t,iv 0,iv 0] [] (bv r) []:=by
 exact ⟨true,Zr,wkDs At.B7 [sg Zf,sg Zf,sg Zf,sb Zf] 200 (zgy [(2,[se (xs:=[[sv tgX.name,sv tgX.table,bv tgX.before,iv tgX.event,AV.sl [],bv tgX.each,AV.sl [],AV.sl [],AV.sl [],AV.sl (zad []),AV.sl [[iv acAb.kind,sv acAb.table,AV.sl [],AV.sl (zag []),AV.sl [],AV.sl (zad []),sv acAb.text]]]]) (i:=0) (c:=[sv tgX.name,sv tgX.table,bv tgX.before,iv tgX.event,AV.sl [],bv tgX.each,AV.sl [],AV.sl [],AV.sl [],AV.sl (zad []),AV.sl [[iv acAb.kind,sv acAb.table,AV.sl [],AV.sl (zag []),AV.sl [],AV.sl (zad []),sv acAb.text]]]) (n:=11) ⟨by decide,rfl,rfl⟩]),(6,[se (xs:=[[sv tgX.name,sv tgX.table,bv tgX.before,iv tgX.event,AV.sl [],bv tgX.each,AV.sl [],AV.sl [],AV.sl [],AV.sl (zad []),AV.sl [[iv acAb.kind,sv acAb.table,AV.sl [],AV.sl (zag []),AV.sl [],AV.sl (zad []),sv acAb.text]]]]) (i:=0) (c:=[sv tgX.name,sv tgX.table,bv tgX.before,iv tgX.event,AV.sl [],bv tgX.each,AV.sl [],AV.sl [],AV.sl [],AV.sl (zad []),AV.sl [[iv acAb.kind,sv acAb.table,AV.sl [],AV.sl (zag []),AV.sl [],AV.sl (zad []),sv acAb.text]]]) (n:=11) ⟨by decide,rfl,rfl⟩])]) (List.replicate 2 [se (xs:=[[sv tgX.name,sv tgX.table,bv tgX.before,iv tgX.event,AV.sl [],bv tgX.each,AV.sl [],AV.sl [],AV.sl [],AV.sl (zad []),AV.sl [[iv acAb.kind,sv acAb.table,AV.sl [],AV.sl (zag []),AV.sl [],AV.sl (zad []),sv acAb.text]]]]) (i:=0) (c:=[sv tgX.name,sv tgX.table,bv tgX.before,iv tgX.event,AV.sl [],bv tgX.each,AV.sl [],AV.sl [],AV.sl [],AV.sl (zad []),AV.sl [[iv acAb.kind,sv acAb.table,AV.sl [],AV.sl (zag []),AV.sl [],AV.sl (zad []),sv acAb.text]]]) (n:=11) ⟨by decide,rfl,rfl⟩,se (xs:=[[sv tgX.name,sv tgX.table,bv tgX.before,iv tgX.event,AV.sl [],bv tgX.each,AV.sl [],AV.sl [],AV.sl [],AV.sl (zad []),AV.sl [[iv acAb.kind,sv acAb.table,AV.sl [],AV.sl (zag []),AV.sl [],AV.sl (zad []),sv acAb.text]]]]) (i:=0) (c:=[sv tgX.name,sv tgX.table,bv tgX.before,iv tgX.event,AV.sl [],bv tgX.each,AV.sl [],AV.sl [],AV.sl [],AV.sl (zad []),AV.sl [[iv acAb.kind,sv acAb.table,AV.sl [],AV.sl (zag []),AV.sl [],AV.sl (zad []),sv acAb.text]]]) (n:=11) ⟨by decide,rfl,rfl⟩]) [sg Zf,sb Zf,sb Zf,sb Zt] kr⟩
theorem ca_cB  :∃ (r:Bool),r=true/\zaa E0 S.B1 [.sl [tgX.cells],iv 0,iv 0] [] (bv r) []:=by
 exact ⟨true,Zr,wkDs At.B1 [sg Zf,sg Zf,sg Zf,sb Zf] 200 (zgy [(2,[se (xs:=[[sv tgX.name,sv tgX.table,bv tgX.before,iv tgX.event,AV.sl [],bv tgX.each,AV.sl [],AV.sl [],AV.sl [],AV.sl (zad []),AV.sl [[iv acAb.kind,sv acAb.table,AV.sl [],AV.sl (zag []),AV.sl [],AV.sl (zad []),sv acAb.text]]]]) (i:=0) (c:=[sv tgX.name,sv tgX.table,bv tgX.before,iv tgX.event,AV.sl [],bv tgX.each,AV.sl [],AV.sl [],AV.sl [],AV.sl (zad []),AV.sl [[iv acAb.kind,sv acAb.table,AV.sl [],AV.sl (zag []),AV.sl [],AV.sl (zad []),sv acAb.text]]]) (n:=11) ⟨by decide,rfl,rfl⟩]),(6,[se (xs:=[[sv tgX.name,sv tgX.table,bv tgX.before,iv tgX.event,AV.sl [],bv tgX.each,AV.sl [],AV.sl [],AV.sl [],AV.sl (zad []),AV.sl [[iv acAb.kind,sv acAb.table,AV.sl [],AV.sl (zag []),AV.sl [],AV.sl (zad []),sv acAb.text]]]]) (i:=0) (c:=[sv tgX.name,sv tgX.table,bv tgX.before,iv tgX.event,AV.sl [],bv tgX.each,AV.sl [],AV.sl [],AV.sl [],AV.sl (zad []),AV.sl [[iv acAb.kind,sv acAb.table,AV.sl [],AV.sl (zag []),AV.sl [],AV.sl (zad []),sv acAb.text]]]) (n:=11) ⟨by decide,rfl,rfl⟩])]) (List.replicate 2 [se (xs:=[[sv tgX.name,sv tgX.table,bv tgX.before,iv tgX.event,AV.sl [],bv tgX.each,AV.sl [],AV.sl [],AV.sl [],AV.sl (zad []),AV.sl [[iv acAb.kind,sv acAb.table,AV.sl [],AV.sl (zag []),AV.sl [],AV.sl (zad []),sv acAb.text]]]]) (i:=0) (c:=[sv tgX.name,sv tgX.table,bv tgX.before,iv tgX.event,AV.sl [],bv tgX.each,AV.sl [],AV.sl [],AV.sl [],AV.sl (zad []),AV.sl [[iv acAb.kind,sv acAb.table,AV.sl [],AV.sl (zag []),AV.sl [],AV.sl (zad []),sv acAb.text]]]) (n:=11) ⟨by decide,rfl,rfl⟩,se (xs:=[[sv tgX.name,sv tgX.table,bv tgX.before,iv tgX.event,AV.sl [],bv tgX.each,AV.sl [],AV.sl [],AV.sl [],AV.sl (zad []),AV.sl [[iv acAb.kind,sv acAb.table,AV.sl [],AV.sl (zag []),AV.sl [],AV.sl (zad []),sv acAb.text]]]]) (i:=0) (c:=[sv tgX.name,sv tgX.table,bv tgX.before,iv tgX.event,AV.sl [],bv tgX.each,AV.sl [],AV.sl [],AV.sl [],AV.sl (zad []),AV.sl [[iv acAb.kind,sv acAb.table,AV.sl [],AV.sl (zag []),AV.sl [],AV.sl (zad []),sv acAb.text]]]) (n:=11) ⟨by decide,rfl,rfl⟩]) [sb Zt] kr⟩
theorem zf8 (t:List Tb):zaa E0 S.B7 [.sl [tgX.cells],tsl t,iv 0,iv 0] [] (bv true) []:=by
 obtain ⟨r,rfl,h⟩:=ca_cA t
 exact h
theorem zfP:zaa E0 S.B1 [.sl [tgX.cells],iv 0,iv 0] [] (bv true) []:=by
 obtain ⟨r,rfl,h⟩:=ca_cB
 exact h
noncomputable def L_cyA (t:List Tb) (i:Nat):Cfg:=zaj B.AA 0 [(0,tsl t),(1,.sl []),(5,.nl),(11,iv (([]:List (List AV)).length:Nat)),(12,iv (i:Nat))] []
theorem zel (t:List Tb) (i:Nat):True/\∀ R,Good E0 B.AA [] (L_cyA t i) R->Good E0 B.AA [] (L_cyA t i) R:=⟨trivial,fun _ h=>h⟩
noncomputable def L_cyC (i:Nat) (l:List (List AV)):Cfg:=zaj B.AA 1 [(1,.sl l),(7,.nl),(30,.sl []),(31,iv (([]:List (List AV)).length:Nat)),(32,iv (i:Nat))] []
theorem zcs (i:Nat) (l:List (List AV)):True/\∀ R,Good E0 B.AA [] (L_cyC i l) R->Good E0 B.AA [] (L_cyC i l) R:=⟨trivial,fun _ h=>h⟩
theorem ca_cy0 (t:List Tb) :∃ (r:List Str),r=[]/\zaa E0 S.AA [tsl t,.sl []] [] (ssl r) []:=by
 obtain ⟨q1,g1⟩:=zel t (0)
 obtain ⟨q2,g2⟩:=zcs 0 ([])
 exact ⟨[],Zr,wkc At.AA [] [0,1,5,11,12] 0 kr (g1 _ (zab (wkl [sb Zf,sc ze2,sc zew,sc zf9] [1,7,30,31,32] 0 kr (g2 _ (zab (wkr [sb Zf] kr))))))⟩
noncomputable def L_cyB (t:List Tb) (i:Nat):Cfg:=zaj B.AA 0 [(0,tsl t),(1,.sl [tgX.cells]),(5,.nl),(11,iv 1),(12,iv (i:Nat))] []
theorem zcr (t:List Tb) (i:Nat):True/\∀ R,Good E0 B.AA [] (L_cyB t i) R->Good E0 B.AA [] (L_cyB t i) R:=⟨trivial,fun _ h=>h⟩
theorem ca_cy1 (t:List Tb) :∃ (r:List Str),r=[]/\zaa E0 S.AA [tsl t,.sl [tgX.cells]] [] (ssl r) []:=by
 obtain ⟨q1,g1⟩:=zcr t (0)
 obtain ⟨q2,g2⟩:=zcr t (0+1)
 obtain ⟨q3,g3⟩:=zcs 0 ([[sv tgX.name,sv tgX.table,bv tgX.before,iv tgX.event,AV.sl [],bv tgX.each,AV.sl [],AV.sl [],AV.sl [],AV.sl (zad []),AV.sl [[iv acAb.kind,sv acAb.table,AV.sl [],AV.sl (zag []),AV.sl [],AV.sl (zad []),sv acAb.text]]]])
 exact ⟨[],Zr,wkc At.AA [] [0,1,5,11,12] 0 kr (g1 _ (zab (wkl [sb Zt,sc (zfR t),sb Zf,si (zar (t:=(↑0:Int)+1) (n:=0+1) Zo Zo)] [0,1,5,11,12] 0 kr (g2 _ (zab (wkl [sb Zf,sc ze3,sc zew,sc zga] [1,7,30,31,32] 0 kr (g3 _ (zab (wkr [sb Zf] kr)))))))))⟩
noncomputable def L_cfA (i:Nat):Cfg:=zaj B.As 0 [(11,.sl []),(12,iv (([]:List (List AV)).length:Nat)),(13,iv (i:Nat))] []
theorem zdD (i:Nat):True/\∀ R,Good E0 B.As [] (L_cfA i) R->Good E0 B.As [] (L_cfA i) R:=⟨trivial,fun _ h=>h⟩
theorem ca_cf0 (t:List Tb) :∃ (r:List Str),r=[]/\zaa E0 S.As [tsl t,.sl [],.sl []] [] (ssl r) []:=by
 obtain ⟨q1,g1⟩:=zdD (0)
 exact ⟨[],Zr,wkc At.As [] [11,12,13] 0 kr (g1 _ (zab (wkr [sb Zf] kr)))⟩
noncomputable def L_cfB (t:List Tb) (i:Nat):Cfg:=zaj B.As 0 [(0,tsl t),(1,.sl [tgX.cells]),(2,.sl []),(11,.sl [tgX.cells]),(12,iv 1),(13,iv (i:Nat))] []
theorem zbY (t:List Tb) (i:Nat):True/\∀ R,Good E0 B.As [] (L_cfB t i) R->Good E0 B.As [] (L_cfB t i) R:=⟨trivial,fun _ h=>h⟩
noncomputable def L_cfC (t:List Tb) (j i:Nat):Cfg:=zaj B.As 1 [(0,tsl t),(1,.sl [tgX.cells]),(2,.sl []),(7,iv (j:Nat)),(8,.p 0 0),(9,iv (i:Nat)),(11,.sl [tgX.cells]),(12,iv 1),(13,iv (j:Nat))] [.box tgX.cells]
theorem zbZ (t:List Tb) (j i:Nat):True/\∀ R,Good E0 B.As [] (L_cfC t j i) R->Good E0 B.As [] (L_cfC t j i) R:=⟨trivial,fun _ h=>h⟩
theorem ca_cf1 (t:List Tb) :∃ (r:List Str),r=[]/\zaa E0 S.As [tsl t,.sl [tgX.cells],.sl []] [] (ssl r) []:=by
 obtain ⟨q1,g1⟩:=zbY t (0)
 obtain ⟨q2,g2⟩:=zbZ t 0 (0)
 obtain ⟨q3,g3⟩:=zbZ t 0 (0+1)
 obtain ⟨q4,g4⟩:=zbY t (0+1)
 exact ⟨[],Zr,wkc At.As [] [0,1,2,11,12,13] 0 kr (g1 _ (zab (wkl [sb Zt,se (xs:=[[sv tgX.name,sv tgX.table,bv tgX.before,iv tgX.event,AV.sl [],bv tgX.each,AV.sl [],AV.sl [],AV.sl [],AV.sl (zad []),AV.sl [[iv acAb.kind,sv acAb.table,AV.sl [],AV.sl (zag []),AV.sl [],AV.sl (zad []),sv acAb.text]]]]) (i:=0) (c:=[sv tgX.name,sv tgX.table,bv tgX.before,iv tgX.event,AV.sl [],bv tgX.each,AV.sl [],AV.sl [],AV.sl [],AV.sl (zad []),AV.sl [[iv acAb.kind,sv acAb.table,AV.sl [],AV.sl (zag []),AV.sl [],AV.sl (zad []),sv acAb.text]]]) (n:=11) ⟨by decide,rfl,rfl⟩] [0,1,2,7,8,9,11,12,13] 1 kr (g2 _ (zab (wkl [sb Zt,se (xs:=[[sv tgX.name,sv tgX.table,bv tgX.before,iv tgX.event,AV.sl [],bv tgX.each,AV.sl [],AV.sl [],AV.sl [],AV.sl (zad []),AV.sl [[iv acAb.kind,sv acAb.table,AV.sl [],AV.sl (zag []),AV.sl [],AV.sl (zad []),sv acAb.text]]]]) (i:=0) (c:=[sv tgX.name,sv tgX.table,bv tgX.before,iv tgX.event,AV.sl [],bv tgX.each,AV.sl [],AV.sl [],AV.sl [],AV.sl (zad []),AV.sl [[iv acAb.kind,sv acAb.table,AV.sl [],AV.sl (zag []),AV.sl [],AV.sl (zad []),sv acAb.text]]]) (n:=11) ⟨by decide,rfl,rfl⟩,sc (zc9 tgX.name tgX.name),sg Zf,sc (zc9 tgX.name tgX.name),sb Zf,sc (zf8 t),sg Zt,sc zfP,sb Zt,si (zar (t:=(↑0:Int)+1) (n:=0+1) Zo Zo)] [0,1,2,7,8,9,11,12,13] 1 kr (g3 _ (zab (wkl [sb Zf,si (zar (t:=(↑0:Int)+1) (n:=0+1) Zo Zo)] [0,1,2,11,12,13] 0 kr (g4 _ (zab (wkr [sb Zf] kr))))))))))))⟩
theorem zg4 (t:List Tb):zaa E0 S.AA [tsl t,.sl []] [] (.sl []) []:=by
 obtain ⟨r,rfl,h⟩:=ca_cy0 t
 exact h
theorem zg5 (t:List Tb):zaa E0 S.AA [tsl t,.sl [tgX.cells]] [] (.sl []) []:=by
 obtain ⟨r,rfl,h⟩:=ca_cy1 t
 exact h
theorem zfN (t:List Tb):zaa E0 S.As [tsl t,.sl [],.sl []] [] (.sl []) []:=by
 obtain ⟨r,rfl,h⟩:=ca_cf0 t
 exact h
theorem zfO (t:List Tb):zaa E0 S.As [tsl t,.sl [tgX.cells],.sl []] [] (.sl []) []:=by
 obtain ⟨r,rfl,h⟩:=ca_cf1 t
 exact h
theorem ca_an0 (t:List Tb) :∃ (c:Int),c=0/\zaa E0 S.Bq [tsl t,.sl [],.sl []] [] (.agg [iv c,.sl []]) []:=by
 exact ⟨0,Zr,wk At.Bq [sc (zg4 t),sb Zf,sc (zfN t),sb Zf] kr⟩
theorem ca_an1 (t:List Tb) :∃ (c:Int),c=0/\zaa E0 S.Bq [tsl t,.sl [tgX.cells],.sl []] [] (.agg [iv c,.sl []]) []:=by
 exact ⟨0,Zr,wk At.Bq [sc (zg5 t),sb Zf,sc (zfO t),sb Zf] kr⟩
theorem zf7 (t:List Tb):zaa E0 S.Bq [tsl t,.sl [],.sl []] [] (.agg [iv 0,.sl []]) []:=by
 obtain ⟨r,rfl,h⟩:=ca_an0 t
 exact h
theorem zdp (t:List Tb):zaa E0 S.Bq [tsl t,.sl [tgX.cells],.sl []] [] (.agg [iv 0,.sl []]) []:=by
 obtain ⟨r,rfl,h⟩:=ca_an1 t
 exact h
structure StV (l:List Tb):Prop where
 len:l.length<=6
 val:∀ t∈l,TabV t
 asc:l.Pairwise fun a b=>Op.bytesLess a.sch.name.toList b.sch.name.toList=true
theorem StV.short {l:List Tb} (h:StV l):zae l:=by have:=h.len;simp only [zae];omega
theorem StV.get {l:List Tb} (h:StV l) {i:Nat} {x y:Tb} (hx:l[i]?=some x) (h1:1<=i) (hy:AtI l (IntKind.i64.wrap (((i:Nat):Int) - 1)) y):(!Op.bytesLess y.sch.name.toList x.sch.name.toList)=false:=by
 have hl:=h.len
 obtain ⟨a1,a2⟩:=List.getElem?_eq_some_iff.1 hx
 have e:IntKind.i64.wrap (((i:Nat):Int) - 1)=((i - 1:Nat):Int):=by rw [IntKind.wrap_i64];omega
 rw [e] at hy
 have h2:l[i - 1]?=some y:=by simpa using hy.2
 obtain ⟨b1,b2⟩:=List.getElem?_eq_some_iff.1 h2
 have:=List.pairwise_iff_getElem.1 h.asc (i - 1) i b1 a1 Zo
 rw [a2,b2] at this
 rw [this];rfl
theorem znv {α:Type} {l:List α} {i:Nat} {x:α} (hx:l[i]?=some x) (h1:1<=i) (hl:i<=1000000000):0<=IntKind.i64.wrap (((i:Nat):Int) - 1)/\IntKind.i64.wrap (((i:Nat):Int) - 1) < ((l.length:Nat):Int):=by
 have:=(List.getElem?_eq_some_iff.1 hx).1
 rw [IntKind.wrap_i64];omega
noncomputable def L_sv (l:List Tb) (i:Nat) :Cfg:=zaj B.A0 0 [(0,.sl (l.map Tb.cells)),(8,.sl (l.map Tb.cells)),(9,iv ((l.map Tb.cells).length:Nat)),(10,iv (i:Nat))] []
theorem zeO (l:List Tb) (hv:StV l) (hl:zae l) (i:Nat)  (hi:i<=(l).length) (hI:1<=i):(1<=(l).length)/\(decide ((((l).length:Nat):Int) < (((l.map Tb.cells).length:Nat):Int))=false)/\∀ R,Good E0 B.A0 [] (L_sv l (l).length ) R->Good E0 B.A0 [] (L_sv l i ) R:=by
 have hk:=hi;revert i;refine zlp ((l).length) (fun i hlt ih hi hI _=>?_)
 obtain ⟨x,hx,h0,hw⟩:=zlq (l:=l) ((l.map Tb.cells).length) hlt
 have a1:zaa E0 S.Be [x.av] [] (bv true) []:=zd5 x (hv.val x (List.mem_of_getElem? hx));have a5:decide ((0:Int) < ((i:Nat):Int))=true:=Zp;have hil:=at_lt hx
 have a7:∀ y,AtI l (IntKind.i64.wrap (((i:Nat):Int) - 1)) y->(bif !true then true else bif decide (0 < ((i:Nat):Int)) then !Op.bytesLess (ByteArray.toList y.sch.name) (ByteArray.toList x.sch.name) else false)=false:=fun y hy=>(by rw [a5];exact hv.get hx hI hy)
 obtain ⟨x1,e1⟩:=zmg (l:=l) (i:=IntKind.i64.wrap ((i:Int) - (1:Int))) (by exact znv hx hI (by simp only [zae] at hl;omega))
 obtain ⟨qZ,xZ,gZ⟩:=ih Zo Zo Zo;exact ⟨qZ,xZ,fun R hg=>zab (wkl [sb h0,se (zat Tb.cells hx rfl),sd [(1,[sc a1]),(4,[sg Zf]),(5,[sg Zf]),(6,[sg Zf]),(7,[sg a5]),(8,[sg a5]),(9,[so a5 (si (e:=IntKind.i64.wrap ((i:Int) - 1)) rfl)]),(10,[so a5 (se (ziv Tb.cells e1 rfl))]),(11,[sg a5]),(12,[sg a5]),(13,[sg a5]),(14,[sg a5]),(15,[sg a5]),(16,[sg a5]),(17,[sg a5]),(18,[sg Zf])],sb (a7 x1 e1),si hw] [0,8,9,10] 0 kr (gZ R hg))⟩
theorem zep (l:List Tb) (hv:StV l) (hl:zae l):decide (((l.length:Nat):Int) < (((l.map Tb.cells).length:Nat):Int))=false/\∀ R,Good E0 B.A0 [] (L_sv l l.length) R->Good E0 B.A0 [] (L_sv l 0) R:=by
 cases hrw:l with
 | nil=>exact ⟨by simp,fun R h=>h⟩
 | cons x r =>
  have hx:l[0]?=some x:=by rw [hrw];rfl
  obtain ⟨_,h1,h2⟩:=zeO l hv hl 1 (by rw [hrw];simp) (Nat.le_refl 1)
  rw [← hrw]
  refine ⟨h1,fun R h=>?_⟩
  have hg:=h2 R h
  have h0:decide (((0:Nat):Int) < (((l.map Tb.cells).length:Nat):Int))=true:=by rw [hrw];simp
  have a1:zaa E0 S.Be [x.av] [] (bv true) []:=zd5 x (hv.val x (List.mem_of_getElem? hx))
  refine zab ?_
  exact wkl [sb h0,se (zat Tb.cells hx rfl),sd [(1,[sc a1]),(4,[sg Zf]),(5,[sg Zf]),(6,[sg Zf]),(7,[sb Zf]),(8,[sb Zf]),(9,[sb Zf]),(10,[sb Zf]),(11,[sb Zf]),(12,[sb Zf]),(13,[sb Zf]),(14,[sb Zf]),(15,[sb Zf]),(16,[sb Zf]),(17,[sb Zf]),(18,[so Zf (sb Zf)])],sb Zf,si (zar (t:=(↑0:Int)+1) (n:=0+1) Zo Zo)] [0,8,9,10] 0 kr (hg)
theorem ca_sv (l:List Tb) (hv:StV l) (hl:zae l) (n1:decide ((6:Int) < ((l.map Tb.cells).length:Int))=false):∃ (r:Bool),r=true/\zaa E0 S.A0 [tsl l] [] (bv r) []:=by
 obtain ⟨q1,g1⟩:=zep l Za Za
 exact ⟨true,Zr,wkc At.A0 [sb n1] [0,8,9,10] 0 kr (g1 _ (zab (wkr [sb q1] kr)))⟩
theorem zbP (l:List Tb) (hv:StV l):zaa E0 S.A0 [tsl l] [] (bv true) []:=by
 obtain ⟨r,rfl,h⟩:=ca_sv l hv hv.short (by have:=hv.len;simp;omega)
 exact h
theorem zea {p:Prop} (h:p:=by exact ⟨rfl,by first|rfl|assumption⟩):p:=h
theorem zkc {p:Prop} (h:p:=by (unfold cmpN;rw [h1];first|rfl|(show _=bif !(false || _) then _ else _;rw [h1] at h2;rw [h2];rfl))):p:=h
abbrev T0 (s:Sch):Tb:=⟨s,1,[]⟩
def sqo (p:Prop) (h:p:=by first|exact ⟨rfl,of_decide_eq_true kr,of_decide_eq_true kr⟩):St:=sq h
def cmpN (t:Tb) (n:Str):Int:=bif Op.bytesLess t.sch.name.toList n.toList then -1 else bif !(Op.bytesLess t.sch.name.toList n.toList || t.sch.name.toList==n.toList) then 1 else 0
theorem ca_pc1 (t:Tb) (n:Str) :∃ (r:Int),r=cmpN t n/\zaa E0 S.Ak [t.av,sv n] [] (iv r) []:=by
 cases h1:Op.bytesLess (ByteArray.toList t.sch.name) (ByteArray.toList n)
 ·cases h2:!(Op.bytesLess (ByteArray.toList t.sch.name) (ByteArray.toList n) || ByteArray.toList t.sch.name==ByteArray.toList n)
  ·exact ⟨0,zkc,wk At.Ak [sb h1,sb h2] kr⟩
  ·exact ⟨1,zkc,wk At.Ak [sb h1,sb h2] kr⟩
 ·exact ⟨-1,zkc,wk At.Ak [sb h1] kr⟩
theorem zaq (t:Tb) (n:Str):zaa E0 S.Ak [t.av,sv n] [] (iv (cmpN t n)) []:=by
 obtain ⟨r,rfl,h⟩:=ca_pc1 t n
 exact h
noncomputable def L_cpR (s:Sch) (i:Nat):Cfg:=zaj B.AQ 0 [(1,.p 0 0),(2,.p 1 0),(3,.nl),(13,.sl []),(14,iv (([]:List (List AV)).length:Nat)),(15,iv (i:Nat))] [.box [sv s.name,.own 2 s.cols.length,iv 1,.sl []],.box [sv ⟨#[]⟩,.nl,iv 0,.nl],.row Ty.Column (s.cols.map Col.cells) false]
theorem zef (s:Sch) (i:Nat):True/\∀ R,Good E0 B.AQ [] (L_cpR s i) R->Good E0 B.AQ [] (L_cpR s i) R:=⟨trivial,fun _ h=>h⟩
theorem ca_cp (s:Sch) (hs:zae s.cols):∃ (r:Tb),r=T0 s/\zaa E0 S.AQ [(T0 s).av] [] r.av []:=by
 obtain ⟨q1,g1⟩:=zef ((T0 s).sch) (0)
 exact ⟨T0 s,Zr,wkc At.AQ [sc (zbe ((T0 s).sch.cols) (by first|assumption|omega|(simp;done)|(simp;omega)))] [1,2,3,13,14,15] 3 kr (g1 _ (zab (wkr [sqx (True/\(T0 s).sch.cols.length=(List.map Col.cells (T0 s).sch.cols).length/\True/\True/\True),sb Zf] kr)))⟩
theorem ze1 (s:Sch) (hs:zae s.cols):zaa E0 S.AQ [(T0 s).av] [] (T0 s).av []:=by
 obtain ⟨r,rfl,h⟩:=ca_cp s hs
 exact h
noncomputable def L_cps (l:List Tb) (i:Nat) (out:List Tb):Cfg:=zaj B.Bi 0 [(3,.own 0 out.length),(6,.sl (l.map Tb.cells)),(7,iv ((l.map Tb.cells).length:Nat)),(8,iv (i:Nat))] [.row Ty.Table (out.map Tb.cells) false]
theorem zeg (l:List Tb) (hl:zae l) (hf:∀ x∈l,zaa E0 S.AQ [x.av] [] x.av []) (i:Nat) (out:List Tb) (hi:i<=(l).length) (hI:out=l.take i):∃ (out':List Tb),(out'=l.take (l).length)/\(decide ((((l).length:Nat):Int) < (((l.map Tb.cells).length:Nat):Int))=false)/\∀ R,Good E0 B.Bi [] (L_cps l (l).length out') R->Good E0 B.Bi [] (L_cps l i out) R:=by
 have hk:=hi;revert i out;refine zlp ((l).length) (fun i hlt ih out hi hI _=>?_)
 obtain ⟨x,hx,h0,hw⟩:=zlq (l:=l) ((l.map Tb.cells).length) hlt
 have hfx:=hf x (List.mem_of_getElem? hx)
 have ho:out.length<=1000000000:=by rw [hI,List.length_take];simp only [zae] at hl;omega
 exact Zih (ih (out++[x]) Zo (by rw [List.take_add_one,hx,hI];rfl) Zo) fun R gY=>zab (wkl [sb h0,se (zat Tb.cells hx rfl),sc hfx,sqA (List.map Tb.cells out) [[sv x.sch.name,ZC x.sch.cols,iv x.next,ZW x.rows]] out.length 4 72,si hw] [3,6,7,8] 1 kr (zbM 3 0 (List.map Tb.cells out++[[sv x.sch.name,ZC x.sch.cols,iv x.next,ZW x.rows]]) gY (he:=Zcv2) (hm:=Zcv2)))
theorem ca_cps (l:List Tb) (hl:zae l) (hf:∀ x∈l,zaa E0 S.AQ [x.av] [] x.av []):∃ (r:List Tb),r=l.take l.length/\zaa E0 S.Bi [tsl l] [] (.own 0 r.length) [.row Ty.Table (r.map Tb.cells) false]:=by
 obtain ⟨out1,q1,q1_1,g1⟩:=zeg l Za Za 0 ([]) Za Za
 exact ⟨out1,(by first|assumption|trivial|(simp;done)|omega|(simp;omega)|(simp at *;omega)),zl4 At.Bi [] [3,6,7,8] 0 [(.ot 3 Ty.Table,1)] kr (g1 _ (zab (wkrK [sb q1_1] kr)))⟩
theorem zfW (l:List Tb) (hl:zae l) (hf:∀ x∈l,zaa E0 S.AQ [x.av] [] x.av []):zaa E0 S.Bi [tsl l] [] (.own 0 l.length) [.row Ty.Table (l.map Tb.cells) false]:=by
 obtain ⟨r,hr,h⟩:=ca_cps l hl hf
 rw [List.take_length] at hr;subst hr;exact h
noncomputable def L_bsU (xs:List Tb) (n:Str) (i j m:Nat):Cfg:=zaj B.Aa 0 [(0,.own 0 m),(1,sv n),(2,.fn S.Ak []),(8,iv (m:Nat)),(9,iv (i:Nat)),(10,iv (j:Nat))] [.row Ty.Table (xs.map Tb.cells) false]
theorem zac (xs:List Tb) (n:Str) (i j m:Nat):True/\∀ R,Good E0 B.Aa [.row Ty.Table (xs.map Tb.cells) false] (L_bsU xs n i j m) R->Good E0 B.Aa [.row Ty.Table (xs.map Tb.cells) false] (L_bsU xs n i j m) R:=⟨trivial,fun _ h=>h⟩
theorem ca_b00 (n:Str) :∃ (i:Int) (f:Bool),(i=0/\f=false)/\zaa E0 S.Aa [.own 0 0,sv n,.fn S.Ak []] [.row Ty.Table (([]:List Tb).map Tb.cells) false] (.tup [iv i,bv f]) [.row Ty.Table (([]:List Tb).map Tb.cells) false]:=by
 obtain ⟨q1,g1⟩:=zac ([]) n 0 0 (0)
 exact ⟨(↑0:Int),false,zea,wkc At.Aa [sqx (0=0)] [0,1,2,8,9,10] 1 kr (g1 _ (zab (wkr [sb Zf,sb Zf] kr)))⟩
theorem kb00 (n:Str) :zaa E0 S.Aa [.own 0 0,sv n,.fn S.Ak []] [.row Ty.Table (([]:List Tb).map Tb.cells) false] (.tup [iv 0,bv false]) [.row Ty.Table (([]:List Tb).map Tb.cells) false]:=by
 obtain ⟨i,f,⟨rfl,rfl⟩,h⟩:=ca_b00  n
 exact h
theorem ca_b11 (t0:Tb) (n:Str) (c0:decide (cmpN t0 n < 0)=true) (z0:(cmpN t0 n==(0:Int))=false) (o0:OwnEl (([t0]:List Tb).map Tb.cells) 1 0 t0.cells):∃ (i:Int) (f:Bool),(i=1/\f=false)/\zaa E0 S.Aa [.own 0 1,sv n,.fn S.Ak []] [.row Ty.Table (([t0]:List Tb).map Tb.cells) false] (.tup [iv i,bv f]) [.row Ty.Table (([t0]:List Tb).map Tb.cells) false]:=by
 obtain ⟨q1,g1⟩:=zac ([t0]) n 0 1 (1)
 obtain ⟨q2,g2⟩:=zac ([t0]) n ((Nat.succ 0 / 2 ^ min (Int.toNat 1) IntKind.u64.bits % ((2:Int) ^ IntKind.i64.bits).natAbs+1) % ((2:Int) ^ IntKind.i64.bits).natAbs) 1 (1)
 exact ⟨(↑((Nat.succ 0 / 2 ^ min (Int.toNat 1) IntKind.u64.bits % ((2:Int) ^ IntKind.i64.bits).natAbs+1) % ((2:Int) ^ IntKind.i64.bits).natAbs):Int),false,zea,wkc At.Aa [sqx (1=1)] [0,1,2,8,9,10] 1 kr (g1 _ (zab (wkl [sb Zt,si (zar (t:=(↑0:Int)+(↑1:Int)) (n:=0+1) Zo Zo),si (e:=IntKind.u64.wrap (↑(0+1):Int)) rfl,sx (.i ((IntKind.u64.wrap (↑((0:Nat)+(1:Nat)):Int)).fdiv ((2:Int) ^ min (Int.toNat (1:Int)) IntKind.u64.bits))) (show (0:Int)<=(1:Int)/\((IntKind.u64.wrap (↑((0:Nat)+(1:Nat)):Int)).fdiv ((2:Int) ^ min (Int.toNat (1:Int)) IntKind.u64.bits):Int)=(IntKind.u64.wrap (↑((0:Nat)+(1:Nat)):Int)).fdiv ((2:Int) ^ min (Int.toNat (1:Int)) IntKind.u64.bits) from ⟨(by simp_all),rfl⟩),si (e:=IntKind.i64.wrap ((IntKind.u64.wrap (↑(0+1):Int)).fdiv (2 ^ min (Int.toNat 1) IntKind.u64.bits))) rfl,sqo (OwnAt  [[sv t0.sch.name,ZC t0.sch.cols,iv t0.next,ZW t0.rows]] 1 (IntKind.i64.wrap ((IntKind.u64.wrap (↑(0+1):Int)).fdiv (2 ^ min (Int.toNat 1) IntKind.u64.bits)))),sx (.el t0.cells) o0,sc (zaq t0 n),sb c0,si (e:=IntKind.i64.wrap (IntKind.i64.wrap ((IntKind.u64.wrap (↑(0+1):Int)).fdiv (2 ^ min (Int.toNat 1) IntKind.u64.bits))+1)) rfl] [0,1,2,8,9,10] 1 kr (g2 _ (zab (wkr [sb Zf,sb Zf] kr))))))⟩
theorem kb11 (t0:Tb) (n:Str) (c0:cmpN t0 n=-1):zaa E0 S.Aa [.own 0 1,sv n,.fn S.Ak []] [.row Ty.Table (([t0]:List Tb).map Tb.cells) false] (.tup [iv 1,bv false]) [.row Ty.Table (([t0]:List Tb).map Tb.cells) false]:=by
 obtain ⟨i,f,⟨rfl,rfl⟩,h⟩:=ca_b11 t0 n (by rw [c0];rfl) (by rw [c0];rfl) ⟨rfl,rfl⟩
 exact h
theorem ca_b21 (t0 t1:Tb) (n:Str) (c0:decide (cmpN t0 n < 0)=true) (z0:(cmpN t0 n==(0:Int))=false) (o0:OwnEl (([t0,t1]:List Tb).map Tb.cells) 2 0 t0.cells) (c1:decide (cmpN t1 n < 0)=false) (z1:(cmpN t1 n==(0:Int))=false) (o1:OwnEl (([t0,t1]:List Tb).map Tb.cells) 2 1 t1.cells):∃ (i:Int) (f:Bool),(i=1/\f=false)/\zaa E0 S.Aa [.own 0 2,sv n,.fn S.Ak []] [.row Ty.Table (([t0,t1]:List Tb).map Tb.cells) false] (.tup [iv i,bv f]) [.row Ty.Table (([t0,t1]:List Tb).map Tb.cells) false]:=by
 obtain ⟨q1,g1⟩:=zac ([t0,t1]) n 0 2 (2)
 obtain ⟨q2,g2⟩:=zac ([t0,t1]) n 0 (Nat.succ 1 / 2 ^ min (Int.toNat 1) IntKind.u64.bits % ((2:Int) ^ IntKind.i64.bits).natAbs) (2)
 obtain ⟨q3,g3⟩:=zac ([t0,t1]) n ((Nat.succ 0 / 2 ^ min (Int.toNat 1) IntKind.u64.bits % ((2:Int) ^ IntKind.i64.bits).natAbs+1) % ((2:Int) ^ IntKind.i64.bits).natAbs) (Nat.succ 1 / 2 ^ min (Int.toNat 1) IntKind.u64.bits % ((2:Int) ^ IntKind.i64.bits).natAbs) (2)
 exact ⟨(↑((Nat.succ 0 / 2 ^ min (Int.toNat 1) IntKind.u64.bits % ((2:Int) ^ IntKind.i64.bits).natAbs+1) % ((2:Int) ^ IntKind.i64.bits).natAbs):Int),cmpN t1 n==(0:Int),zea,wkc At.Aa [sqx (2=2)] [0,1,2,8,9,10] 1 kr (g1 _ (zab (wkl [sb Zt,si (zar (t:=(↑0:Int)+(↑2:Int)) (n:=0+2) Zo Zo),si (e:=IntKind.u64.wrap (↑(0+2):Int)) rfl,sx (.i ((IntKind.u64.wrap (↑((0:Nat)+(2:Nat)):Int)).fdiv ((2:Int) ^ min (Int.toNat (1:Int)) IntKind.u64.bits))) (show (0:Int)<=(1:Int)/\((IntKind.u64.wrap (↑((0:Nat)+(2:Nat)):Int)).fdiv ((2:Int) ^ min (Int.toNat (1:Int)) IntKind.u64.bits):Int)=(IntKind.u64.wrap (↑((0:Nat)+(2:Nat)):Int)).fdiv ((2:Int) ^ min (Int.toNat (1:Int)) IntKind.u64.bits) from ⟨(by simp_all),rfl⟩),si (e:=IntKind.i64.wrap ((IntKind.u64.wrap (↑(0+2):Int)).fdiv (2 ^ min (Int.toNat 1) IntKind.u64.bits))) rfl,sqo (OwnAt  [[sv t0.sch.name,ZC t0.sch.cols,iv t0.next,ZW t0.rows],[sv t1.sch.name,ZC t1.sch.cols,iv t1.next,ZW t1.rows]] 2 (IntKind.i64.wrap ((IntKind.u64.wrap (↑(0+2):Int)).fdiv (2 ^ min (Int.toNat 1) IntKind.u64.bits)))),sx (.el t1.cells) o1,sc (zaq t1 n),sb c1] [0,1,2,8,9,10] 1 kr (g2 _ (zab (wkl [sb Zt,si (e:=IntKind.i64.wrap ((↑0:Int)+(↑(Nat.succ 1 / 2 ^ min (Int.toNat 1) IntKind.u64.bits % ((2:Int) ^ IntKind.i64.bits).natAbs):Int))) rfl,si (e:=IntKind.u64.wrap (IntKind.i64.wrap ((↑0:Int)+(↑(Nat.succ 1 / 2 ^ min (Int.toNat 1) IntKind.u64.bits % ((2:Int) ^ IntKind.i64.bits).natAbs):Int)))) rfl,sx (.i ((IntKind.u64.wrap (IntKind.i64.wrap ((↑(0:Nat):Int)+(↑(Nat.succ (nat_lit 1) / nat_lit 2 ^ min (Int.toNat (1:Int)) IntKind.u64.bits % ((2:Int) ^ IntKind.i64.bits).natAbs):Int)))).fdiv ((2:Int) ^ min (Int.toNat (1:Int)) IntKind.u64.bits))) (show (0:Int)<=(1:Int)/\((IntKind.u64.wrap (IntKind.i64.wrap ((↑(0:Nat):Int)+(↑(Nat.succ (nat_lit 1) / nat_lit 2 ^ min (Int.toNat (1:Int)) IntKind.u64.bits % ((2:Int) ^ IntKind.i64.bits).natAbs):Int)))).fdiv ((2:Int) ^ min (Int.toNat (1:Int)) IntKind.u64.bits):Int)=(IntKind.u64.wrap (IntKind.i64.wrap ((↑(0:Nat):Int)+(↑(Nat.succ (nat_lit 1) / nat_lit 2 ^ min (Int.toNat (1:Int)) IntKind.u64.bits % ((2:Int) ^ IntKind.i64.bits).natAbs):Int)))).fdiv ((2:Int) ^ min (Int.toNat (1:Int)) IntKind.u64.bits) from ⟨(by simp_all),rfl⟩),si (e:=IntKind.i64.wrap ((IntKind.u64.wrap (IntKind.i64.wrap ((↑0:Int)+(↑(Nat.succ 1 / 2 ^ min (Int.toNat 1) IntKind.u64.bits % ((2:Int) ^ IntKind.i64.bits).natAbs):Int)))).fdiv (2 ^ min (Int.toNat 1) IntKind.u64.bits))) rfl,sqo (OwnAt  [[sv t0.sch.name,ZC t0.sch.cols,iv t0.next,ZW t0.rows],[sv t1.sch.name,ZC t1.sch.cols,iv t1.next,ZW t1.rows]] 2 (IntKind.i64.wrap ((IntKind.u64.wrap (IntKind.i64.wrap ((↑0:Int)+(↑(Nat.succ 1 / 2 ^ min (Int.toNat 1) IntKind.u64.bits % ((2:Int) ^ IntKind.i64.bits).natAbs):Int)))).fdiv (2 ^ min (Int.toNat 1) IntKind.u64.bits)))),sx (.el t0.cells) o0,sc (zaq t0 n),sb c0,si (e:=IntKind.i64.wrap (IntKind.i64.wrap ((IntKind.u64.wrap (IntKind.i64.wrap ((↑0:Int)+(↑(Nat.succ 1 / 2 ^ min (Int.toNat 1) IntKind.u64.bits % ((2:Int) ^ IntKind.i64.bits).natAbs):Int)))).fdiv (2 ^ min (Int.toNat 1) IntKind.u64.bits))+1)) rfl] [0,1,2,8,9,10] 1 kr (g3 _ (zab (wkr [sb Zf,sg Zt,sqo (OwnAt  [[sv t0.sch.name,ZC t0.sch.cols,iv t0.next,ZW t0.rows],[sv t1.sch.name,ZC t1.sch.cols,iv t1.next,ZW t1.rows]] 2 (↑((Nat.succ 0 / 2 ^ min (Int.toNat 1) IntKind.u64.bits % ((2:Int) ^ IntKind.i64.bits).natAbs+1) % ((2:Int) ^ IntKind.i64.bits).natAbs):Int)),sx (.el t1.cells) o1,sc (zaq t1 n)] kr)))))))))⟩
theorem kb21 (t0 t1:Tb) (n:Str) (c0:cmpN t0 n=-1) (c1:cmpN t1 n=1):zaa E0 S.Aa [.own 0 2,sv n,.fn S.Ak []] [.row Ty.Table (([t0,t1]:List Tb).map Tb.cells) false] (.tup [iv 1,bv false]) [.row Ty.Table (([t0,t1]:List Tb).map Tb.cells) false]:=by
 obtain ⟨i,f,⟨rfl,rfl⟩,h⟩:=ca_b21 t0 t1 n (by rw [c0];rfl) (by rw [c0];rfl) ⟨rfl,rfl⟩ (by rw [c1];rfl) (by rw [c1];rfl) ⟨rfl,rfl⟩
 exact h
theorem ca_b31 (t0 t1 t2:Tb) (n:Str) (c0:decide (cmpN t0 n < 0)=true) (z0:(cmpN t0 n==(0:Int))=false) (o0:OwnEl (([t0,t1,t2]:List Tb).map Tb.cells) 3 0 t0.cells) (c1:decide (cmpN t1 n < 0)=false) (z1:(cmpN t1 n==(0:Int))=false) (o1:OwnEl (([t0,t1,t2]:List Tb).map Tb.cells) 3 1 t1.cells):∃ (i:Int) (f:Bool),(i=1/\f=false)/\zaa E0 S.Aa [.own 0 3,sv n,.fn S.Ak []] [.row Ty.Table (([t0,t1,t2]:List Tb).map Tb.cells) false] (.tup [iv i,bv f]) [.row Ty.Table (([t0,t1,t2]:List Tb).map Tb.cells) false]:=by
 obtain ⟨q1,g1⟩:=zac ([t0,t1,t2]) n 0 3 (3)
 obtain ⟨q2,g2⟩:=zac ([t0,t1,t2]) n 0 (Nat.succ 2 / 2 ^ min (Int.toNat 1) IntKind.u64.bits % ((2:Int) ^ IntKind.i64.bits).natAbs) (3)
 obtain ⟨q3,g3⟩:=zac ([t0,t1,t2]) n ((Nat.succ 0 / 2 ^ min (Int.toNat 1) IntKind.u64.bits % ((2:Int) ^ IntKind.i64.bits).natAbs+1) % ((2:Int) ^ IntKind.i64.bits).natAbs) (Nat.succ 2 / 2 ^ min (Int.toNat 1) IntKind.u64.bits % ((2:Int) ^ IntKind.i64.bits).natAbs) (3)
 exact ⟨(↑((Nat.succ 0 / 2 ^ min (Int.toNat 1) IntKind.u64.bits % ((2:Int) ^ IntKind.i64.bits).natAbs+1) % ((2:Int) ^ IntKind.i64.bits).natAbs):Int),cmpN t1 n==(0:Int),zea,wkc At.Aa [sqx (3=3)] [0,1,2,8,9,10] 1 kr (g1 _ (zab (wkl [sb Zt,si (zar (t:=(↑0:Int)+(↑3:Int)) (n:=0+3) Zo Zo),si (e:=IntKind.u64.wrap (↑(0+3):Int)) rfl,sx (.i ((IntKind.u64.wrap (↑((0:Nat)+(3:Nat)):Int)).fdiv ((2:Int) ^ min (Int.toNat (1:Int)) IntKind.u64.bits))) (show (0:Int)<=(1:Int)/\((IntKind.u64.wrap (↑((0:Nat)+(3:Nat)):Int)).fdiv ((2:Int) ^ min (Int.toNat (1:Int)) IntKind.u64.bits):Int)=(IntKind.u64.wrap (↑((0:Nat)+(3:Nat)):Int)).fdiv ((2:Int) ^ min (Int.toNat (1:Int)) IntKind.u64.bits) from ⟨(by simp_all),rfl⟩),si (e:=IntKind.i64.wrap ((IntKind.u64.wrap (↑(0+3):Int)).fdiv (2 ^ min (Int.toNat 1) IntKind.u64.bits))) rfl,sqo (OwnAt  [[sv t0.sch.name,ZC t0.sch.cols,iv t0.next,ZW t0.rows],[sv t1.sch.name,ZC t1.sch.cols,iv t1.next,ZW t1.rows],[sv t2.sch.name,ZC t2.sch.cols,iv t2.next,ZW t2.rows]] 3 (IntKind.i64.wrap ((IntKind.u64.wrap (↑(0+3):Int)).fdiv (2 ^ min (Int.toNat 1) IntKind.u64.bits)))),sx (.el t1.cells) o1,sc (zaq t1 n),sb c1] [0,1,2,8,9,10] 1 kr (g2 _ (zab (wkl [sb Zt,si (e:=IntKind.i64.wrap ((↑0:Int)+(↑(Nat.succ 2 / 2 ^ min (Int.toNat 1) IntKind.u64.bits % ((2:Int) ^ IntKind.i64.bits).natAbs):Int))) rfl,si (e:=IntKind.u64.wrap (IntKind.i64.wrap ((↑0:Int)+(↑(Nat.succ 2 / 2 ^ min (Int.toNat 1) IntKind.u64.bits % ((2:Int) ^ IntKind.i64.bits).natAbs):Int)))) rfl,sx (.i ((IntKind.u64.wrap (IntKind.i64.wrap ((↑(0:Nat):Int)+(↑(Nat.succ (nat_lit 2) / nat_lit 2 ^ min (Int.toNat (1:Int)) IntKind.u64.bits % ((2:Int) ^ IntKind.i64.bits).natAbs):Int)))).fdiv ((2:Int) ^ min (Int.toNat (1:Int)) IntKind.u64.bits))) (show (0:Int)<=(1:Int)/\((IntKind.u64.wrap (IntKind.i64.wrap ((↑(0:Nat):Int)+(↑(Nat.succ (nat_lit 2) / nat_lit 2 ^ min (Int.toNat (1:Int)) IntKind.u64.bits % ((2:Int) ^ IntKind.i64.bits).natAbs):Int)))).fdiv ((2:Int) ^ min (Int.toNat (1:Int)) IntKind.u64.bits):Int)=(IntKind.u64.wrap (IntKind.i64.wrap ((↑(0:Nat):Int)+(↑(Nat.succ (nat_lit 2) / nat_lit 2 ^ min (Int.toNat (1:Int)) IntKind.u64.bits % ((2:Int) ^ IntKind.i64.bits).natAbs):Int)))).fdiv ((2:Int) ^ min (Int.toNat (1:Int)) IntKind.u64.bits) from ⟨(by simp_all),rfl⟩),si (e:=IntKind.i64.wrap ((IntKind.u64.wrap (IntKind.i64.wrap ((↑0:Int)+(↑(Nat.succ 2 / 2 ^ min (Int.toNat 1) IntKind.u64.bits % ((2:Int) ^ IntKind.i64.bits).natAbs):Int)))).fdiv (2 ^ min (Int.toNat 1) IntKind.u64.bits))) rfl,sqo (OwnAt  [[sv t0.sch.name,ZC t0.sch.cols,iv t0.next,ZW t0.rows],[sv t1.sch.name,ZC t1.sch.cols,iv t1.next,ZW t1.rows],[sv t2.sch.name,ZC t2.sch.cols,iv t2.next,ZW t2.rows]] 3 (IntKind.i64.wrap ((IntKind.u64.wrap (IntKind.i64.wrap ((↑0:Int)+(↑(Nat.succ 2 / 2 ^ min (Int.toNat 1) IntKind.u64.bits % ((2:Int) ^ IntKind.i64.bits).natAbs):Int)))).fdiv (2 ^ min (Int.toNat 1) IntKind.u64.bits)))),sx (.el t0.cells) o0,sc (zaq t0 n),sb c0,si (e:=IntKind.i64.wrap (IntKind.i64.wrap ((IntKind.u64.wrap (IntKind.i64.wrap ((↑0:Int)+(↑(Nat.succ 2 / 2 ^ min (Int.toNat 1) IntKind.u64.bits % ((2:Int) ^ IntKind.i64.bits).natAbs):Int)))).fdiv (2 ^ min (Int.toNat 1) IntKind.u64.bits))+1)) rfl] [0,1,2,8,9,10] 1 kr (g3 _ (zab (wkr [sb Zf,sg Zt,sqo (OwnAt  [[sv t0.sch.name,ZC t0.sch.cols,iv t0.next,ZW t0.rows],[sv t1.sch.name,ZC t1.sch.cols,iv t1.next,ZW t1.rows],[sv t2.sch.name,ZC t2.sch.cols,iv t2.next,ZW t2.rows]] 3 (↑((Nat.succ 0 / 2 ^ min (Int.toNat 1) IntKind.u64.bits % ((2:Int) ^ IntKind.i64.bits).natAbs+1) % ((2:Int) ^ IntKind.i64.bits).natAbs):Int)),sx (.el t1.cells) o1,sc (zaq t1 n)] kr)))))))))⟩
theorem kb31 (t0 t1 t2:Tb) (n:Str) (c0:cmpN t0 n=-1) (c1:cmpN t1 n=1):zaa E0 S.Aa [.own 0 3,sv n,.fn S.Ak []] [.row Ty.Table (([t0,t1,t2]:List Tb).map Tb.cells) false] (.tup [iv 1,bv false]) [.row Ty.Table (([t0,t1,t2]:List Tb).map Tb.cells) false]:=by
 obtain ⟨i,f,⟨rfl,rfl⟩,h⟩:=ca_b31 t0 t1 t2 n (by rw [c0];rfl) (by rw [c0];rfl) ⟨rfl,rfl⟩ (by rw [c1];rfl) (by rw [c1];rfl) ⟨rfl,rfl⟩
 exact h
theorem ca_b41 (t0 t1 t2 t3:Tb) (n:Str) (c0:decide (cmpN t0 n < 0)=true) (z0:(cmpN t0 n==(0:Int))=false) (o0:OwnEl (([t0,t1,t2,t3]:List Tb).map Tb.cells) 4 0 t0.cells) (c1:decide (cmpN t1 n < 0)=false) (z1:(cmpN t1 n==(0:Int))=false) (o1:OwnEl (([t0,t1,t2,t3]:List Tb).map Tb.cells) 4 1 t1.cells) (c2:decide (cmpN t2 n < 0)=false) (z2:(cmpN t2 n==(0:Int))=false) (o2:OwnEl (([t0,t1,t2,t3]:List Tb).map Tb.cells) 4 2 t2.cells):∃ (i:Int) (f:Bool),(i=1/\f=false)/\zaa E0 S.Aa [.own 0 4,sv n,.fn S.Ak []] [.row Ty.Table (([t0,t1,t2,t3]:List Tb).map Tb.cells) false] (.tup [iv i,bv f]) [.row Ty.Table (([t0,t1,t2,t3]:List Tb).map Tb.cells) false]:=by
 obtain ⟨q1,g1⟩:=zac ([t0,t1,t2,t3]) n 0 4 (4)
 obtain ⟨q2,g2⟩:=zac ([t0,t1,t2,t3]) n 0 (Nat.succ 3 / 2 ^ min (Int.toNat 1) IntKind.u64.bits % ((2:Int) ^ IntKind.i64.bits).natAbs) (4)
 obtain ⟨q3,g3⟩:=zac ([t0,t1,t2,t3]) n 0 (Nat.succ 1 / 2 ^ min (Int.toNat 1) IntKind.u64.bits % ((2:Int) ^ IntKind.i64.bits).natAbs) (4)
 obtain ⟨q4,g4⟩:=zac ([t0,t1,t2,t3]) n ((Nat.succ 0 / 2 ^ min (Int.toNat 1) IntKind.u64.bits % ((2:Int) ^ IntKind.i64.bits).natAbs+1) % ((2:Int) ^ IntKind.i64.bits).natAbs) (Nat.succ 1 / 2 ^ min (Int.toNat 1) IntKind.u64.bits % ((2:Int) ^ IntKind.i64.bits).natAbs) (4)
 exact ⟨(↑((Nat.succ 0 / 2 ^ min (Int.toNat 1) IntKind.u64.bits % ((2:Int) ^ IntKind.i64.bits).natAbs+1) % ((2:Int) ^ IntKind.i64.bits).natAbs):Int),cmpN t1 n==(0:Int),zea,wkc At.Aa [sqx (4=4)] [0,1,2,8,9,10] 1 kr (g1 _ (zab (wkl [sb Zt,si (zar (t:=(↑0:Int)+(↑4:Int)) (n:=0+4) Zo Zo),si (e:=IntKind.u64.wrap (↑(0+4):Int)) rfl,sx (.i ((IntKind.u64.wrap (↑((0:Nat)+(4:Nat)):Int)).fdiv ((2:Int) ^ min (Int.toNat (1:Int)) IntKind.u64.bits))) (show (0:Int)<=(1:Int)/\((IntKind.u64.wrap (↑((0:Nat)+(4:Nat)):Int)).fdiv ((2:Int) ^ min (Int.toNat (1:Int)) IntKind.u64.bits):Int)=(IntKind.u64.wrap (↑((0:Nat)+(4:Nat)):Int)).fdiv ((2:Int) ^ min (Int.toNat (1:Int)) IntKind.u64.bits) from ⟨(by simp_all),rfl⟩),si (e:=IntKind.i64.wrap ((IntKind.u64.wrap (↑(0+4):Int)).fdiv (2 ^ min (Int.toNat 1) IntKind.u64.bits))) rfl,sqo (OwnAt  [[sv t0.sch.name,ZC t0.sch.cols,iv t0.next,ZW t0.rows],[sv t1.sch.name,ZC t1.sch.cols,iv t1.next,ZW t1.rows],[sv t2.sch.name,ZC t2.sch.cols,iv t2.next,ZW t2.rows],[sv t3.sch.name,ZC t3.sch.cols,iv t3.next,ZW t3.rows]] 4 (IntKind.i64.wrap ((IntKind.u64.wrap (↑(0+4):Int)).fdiv (2 ^ min (Int.toNat 1) IntKind.u64.bits)))),sx (.el t2.cells) o2,sc (zaq t2 n),sb c2] [0,1,2,8,9,10] 1 kr (g2 _ (zab (wkl [sb Zt,si (e:=IntKind.i64.wrap ((↑0:Int)+(↑(Nat.succ 3 / 2 ^ min (Int.toNat 1) IntKind.u64.bits % ((2:Int) ^ IntKind.i64.bits).natAbs):Int))) rfl,si (e:=IntKind.u64.wrap (IntKind.i64.wrap ((↑0:Int)+(↑(Nat.succ 3 / 2 ^ min (Int.toNat 1) IntKind.u64.bits % ((2:Int) ^ IntKind.i64.bits).natAbs):Int)))) rfl,sx (.i ((IntKind.u64.wrap (IntKind.i64.wrap ((↑(0:Nat):Int)+(↑(Nat.succ (nat_lit 3) / nat_lit 2 ^ min (Int.toNat (1:Int)) IntKind.u64.bits % ((2:Int) ^ IntKind.i64.bits).natAbs):Int)))).fdiv ((2:Int) ^ min (Int.toNat (1:Int)) IntKind.u64.bits))) (show (0:Int)<=(1:Int)/\((IntKind.u64.wrap (IntKind.i64.wrap ((↑(0:Nat):Int)+(↑(Nat.succ (nat_lit 3) / nat_lit 2 ^ min (Int.toNat (1:Int)) IntKind.u64.bits % ((2:Int) ^ IntKind.i64.bits).natAbs):Int)))).fdiv ((2:Int) ^ min (Int.toNat (1:Int)) IntKind.u64.bits):Int)=(IntKind.u64.wrap (IntKind.i64.wrap ((↑(0:Nat):Int)+(↑(Nat.succ (nat_lit 3) / nat_lit 2 ^ min (Int.toNat (1:Int)) IntKind.u64.bits % ((2:Int) ^ IntKind.i64.bits).natAbs):Int)))).fdiv ((2:Int) ^ min (Int.toNat (1:Int)) IntKind.u64.bits) from ⟨(by simp_all),rfl⟩),si (e:=IntKind.i64.wrap ((IntKind.u64.wrap (IntKind.i64.wrap ((↑0:Int)+(↑(Nat.succ 3 / 2 ^ min (Int.toNat 1) IntKind.u64.bits % ((2:Int) ^ IntKind.i64.bits).natAbs):Int)))).fdiv (2 ^ min (Int.toNat 1) IntKind.u64.bits))) rfl,sqo (OwnAt  [[sv t0.sch.name,ZC t0.sch.cols,iv t0.next,ZW t0.rows],[sv t1.sch.name,ZC t1.sch.cols,iv t1.next,ZW t1.rows],[sv t2.sch.name,ZC t2.sch.cols,iv t2.next,ZW t2.rows],[sv t3.sch.name,ZC t3.sch.cols,iv t3.next,ZW t3.rows]] 4 (IntKind.i64.wrap ((IntKind.u64.wrap (IntKind.i64.wrap ((↑0:Int)+(↑(Nat.succ 3 / 2 ^ min (Int.toNat 1) IntKind.u64.bits % ((2:Int) ^ IntKind.i64.bits).natAbs):Int)))).fdiv (2 ^ min (Int.toNat 1) IntKind.u64.bits)))),sx (.el t1.cells) o1,sc (zaq t1 n),sb c1] [0,1,2,8,9,10] 1 kr (g3 _ (zab (wkl [sb Zt,si (e:=IntKind.i64.wrap ((↑0:Int)+(↑(Nat.succ 1 / 2 ^ min (Int.toNat 1) IntKind.u64.bits % ((2:Int) ^ IntKind.i64.bits).natAbs):Int))) rfl,si (e:=IntKind.u64.wrap (IntKind.i64.wrap ((↑0:Int)+(↑(Nat.succ 1 / 2 ^ min (Int.toNat 1) IntKind.u64.bits % ((2:Int) ^ IntKind.i64.bits).natAbs):Int)))) rfl,sx (.i ((IntKind.u64.wrap (IntKind.i64.wrap ((↑(0:Nat):Int)+(↑(Nat.succ (nat_lit 1) / nat_lit 2 ^ min (Int.toNat (1:Int)) IntKind.u64.bits % ((2:Int) ^ IntKind.i64.bits).natAbs):Int)))).fdiv ((2:Int) ^ min (Int.toNat (1:Int)) IntKind.u64.bits))) (show (0:Int)<=(1:Int)/\((IntKind.u64.wrap (IntKind.i64.wrap ((↑(0:Nat):Int)+(↑(Nat.succ (nat_lit 1) / nat_lit 2 ^ min (Int.toNat (1:Int)) IntKind.u64.bits % ((2:Int) ^ IntKind.i64.bits).natAbs):Int)))).fdiv ((2:Int) ^ min (Int.toNat (1:Int)) IntKind.u64.bits):Int)=(IntKind.u64.wrap (IntKind.i64.wrap ((↑(0:Nat):Int)+(↑(Nat.succ (nat_lit 1) / nat_lit 2 ^ min (Int.toNat (1:Int)) IntKind.u64.bits % ((2:Int) ^ IntKind.i64.bits).natAbs):Int)))).fdiv ((2:Int) ^ min (Int.toNat (1:Int)) IntKind.u64.bits) from ⟨(by simp_all),rfl⟩),si (e:=IntKind.i64.wrap ((IntKind.u64.wrap (IntKind.i64.wrap ((↑0:Int)+(↑(Nat.succ 1 / 2 ^ min (Int.toNat 1) IntKind.u64.bits % ((2:Int) ^ IntKind.i64.bits).natAbs):Int)))).fdiv (2 ^ min (Int.toNat 1) IntKind.u64.bits))) rfl,sqo (OwnAt  [[sv t0.sch.name,ZC t0.sch.cols,iv t0.next,ZW t0.rows],[sv t1.sch.name,ZC t1.sch.cols,iv t1.next,ZW t1.rows],[sv t2.sch.name,ZC t2.sch.cols,iv t2.next,ZW t2.rows],[sv t3.sch.name,ZC t3.sch.cols,iv t3.next,ZW t3.rows]] 4 (IntKind.i64.wrap ((IntKind.u64.wrap (IntKind.i64.wrap ((↑0:Int)+(↑(Nat.succ 1 / 2 ^ min (Int.toNat 1) IntKind.u64.bits % ((2:Int) ^ IntKind.i64.bits).natAbs):Int)))).fdiv (2 ^ min (Int.toNat 1) IntKind.u64.bits)))),sx (.el t0.cells) o0,sc (zaq t0 n),sb c0,si (e:=IntKind.i64.wrap (IntKind.i64.wrap ((IntKind.u64.wrap (IntKind.i64.wrap ((↑0:Int)+(↑(Nat.succ 1 / 2 ^ min (Int.toNat 1) IntKind.u64.bits % ((2:Int) ^ IntKind.i64.bits).natAbs):Int)))).fdiv (2 ^ min (Int.toNat 1) IntKind.u64.bits))+1)) rfl] [0,1,2,8,9,10] 1 kr (g4 _ (zab (wkr [sb Zf,sg Zt,sqo (OwnAt  [[sv t0.sch.name,ZC t0.sch.cols,iv t0.next,ZW t0.rows],[sv t1.sch.name,ZC t1.sch.cols,iv t1.next,ZW t1.rows],[sv t2.sch.name,ZC t2.sch.cols,iv t2.next,ZW t2.rows],[sv t3.sch.name,ZC t3.sch.cols,iv t3.next,ZW t3.rows]] 4 (↑((Nat.succ 0 / 2 ^ min (Int.toNat 1) IntKind.u64.bits % ((2:Int) ^ IntKind.i64.bits).natAbs+1) % ((2:Int) ^ IntKind.i64.bits).natAbs):Int)),sx (.el t1.cells) o1,sc (zaq t1 n)] kr))))))))))))⟩
theorem kb41 (t0 t1 t2 t3:Tb) (n:Str) (c0:cmpN t0 n=-1) (c1:cmpN t1 n=1) (c2:cmpN t2 n=1):zaa E0 S.Aa [.own 0 4,sv n,.fn S.Ak []] [.row Ty.Table (([t0,t1,t2,t3]:List Tb).map Tb.cells) false] (.tup [iv 1,bv false]) [.row Ty.Table (([t0,t1,t2,t3]:List Tb).map Tb.cells) false]:=by
 obtain ⟨i,f,⟨rfl,rfl⟩,h⟩:=ca_b41 t0 t1 t2 t3 n (by rw [c0];rfl) (by rw [c0];rfl) ⟨rfl,rfl⟩ (by rw [c1];rfl) (by rw [c1];rfl) ⟨rfl,rfl⟩ (by rw [c2];rfl) (by rw [c2];rfl) ⟨rfl,rfl⟩
 exact h
theorem ca_b51 (t0 t1 t2 t3 t4:Tb) (n:Str) (c0:decide (cmpN t0 n < 0)=true) (z0:(cmpN t0 n==(0:Int))=false) (o0:OwnEl (([t0,t1,t2,t3,t4]:List Tb).map Tb.cells) 5 0 t0.cells) (c1:decide (cmpN t1 n < 0)=false) (z1:(cmpN t1 n==(0:Int))=false) (o1:OwnEl (([t0,t1,t2,t3,t4]:List Tb).map Tb.cells) 5 1 t1.cells) (c2:decide (cmpN t2 n < 0)=false) (z2:(cmpN t2 n==(0:Int))=false) (o2:OwnEl (([t0,t1,t2,t3,t4]:List Tb).map Tb.cells) 5 2 t2.cells):∃ (i:Int) (f:Bool),(i=1/\f=false)/\zaa E0 S.Aa [.own 0 5,sv n,.fn S.Ak []] [.row Ty.Table (([t0,t1,t2,t3,t4]:List Tb).map Tb.cells) false] (.tup [iv i,bv f]) [.row Ty.Table (([t0,t1,t2,t3,t4]:List Tb).map Tb.cells) false]:=by
 obtain ⟨q1,g1⟩:=zac ([t0,t1,t2,t3,t4]) n 0 5 (5)
 obtain ⟨q2,g2⟩:=zac ([t0,t1,t2,t3,t4]) n 0 (Nat.succ 4 / 2 ^ min (Int.toNat 1) IntKind.u64.bits % ((2:Int) ^ IntKind.i64.bits).natAbs) (5)
 obtain ⟨q3,g3⟩:=zac ([t0,t1,t2,t3,t4]) n 0 (Nat.succ 1 / 2 ^ min (Int.toNat 1) IntKind.u64.bits % ((2:Int) ^ IntKind.i64.bits).natAbs) (5)
 obtain ⟨q4,g4⟩:=zac ([t0,t1,t2,t3,t4]) n ((Nat.succ 0 / 2 ^ min (Int.toNat 1) IntKind.u64.bits % ((2:Int) ^ IntKind.i64.bits).natAbs+1) % ((2:Int) ^ IntKind.i64.bits).natAbs) (Nat.succ 1 / 2 ^ min (Int.toNat 1) IntKind.u64.bits % ((2:Int) ^ IntKind.i64.bits).natAbs) (5)
 exact ⟨(↑((Nat.succ 0 / 2 ^ min (Int.toNat 1) IntKind.u64.bits % ((2:Int) ^ IntKind.i64.bits).natAbs+1) % ((2:Int) ^ IntKind.i64.bits).natAbs):Int),cmpN t1 n==(0:Int),zea,wkc At.Aa [sqx (5=5)] [0,1,2,8,9,10] 1 kr (g1 _ (zab (wkl [sb Zt,si (zar (t:=(↑0:Int)+(↑5:Int)) (n:=0+5) Zo Zo),si (e:=IntKind.u64.wrap (↑(0+5):Int)) rfl,sx (.i ((IntKind.u64.wrap (↑((0:Nat)+(5:Nat)):Int)).fdiv ((2:Int) ^ min (Int.toNat (1:Int)) IntKind.u64.bits))) (show (0:Int)<=(1:Int)/\((IntKind.u64.wrap (↑((0:Nat)+(5:Nat)):Int)).fdiv ((2:Int) ^ min (Int.toNat (1:Int)) IntKind.u64.bits):Int)=(IntKind.u64.wrap (↑((0:Nat)+(5:Nat)):Int)).fdiv ((2:Int) ^ min (Int.toNat (1:Int)) IntKind.u64.bits) from ⟨(by simp_all),rfl⟩),si (e:=IntKind.i64.wrap ((IntKind.u64.wrap (↑(0+5):Int)).fdiv (2 ^ min (Int.toNat 1) IntKind.u64.bits))) rfl,sqo (OwnAt  [[sv t0.sch.name,ZC t0.sch.cols,iv t0.next,ZW t0.rows],[sv t1.sch.name,ZC t1.sch.cols,iv t1.next,ZW t1.rows],[sv t2.sch.name,ZC t2.sch.cols,iv t2.next,ZW t2.rows],[sv t3.sch.name,ZC t3.sch.cols,iv t3.next,ZW t3.rows],[sv t4.sch.name,ZC t4.sch.cols,iv t4.next,ZW t4.rows]] 5 (IntKind.i64.wrap ((IntKind.u64.wrap (↑(0+5):Int)).fdiv (2 ^ min (Int.toNat 1) IntKind.u64.bits)))),sx (.el t2.cells) o2,sc (zaq t2 n),sb c2] [0,1,2,8,9,10] 1 kr (g2 _ (zab (wkl [sb Zt,si (e:=IntKind.i64.wrap ((↑0:Int)+(↑(Nat.succ 4 / 2 ^ min (Int.toNat 1) IntKind.u64.bits % ((2:Int) ^ IntKind.i64.bits).natAbs):Int))) rfl,si (e:=IntKind.u64.wrap (IntKind.i64.wrap ((↑0:Int)+(↑(Nat.succ 4 / 2 ^ min (Int.toNat 1) IntKind.u64.bits % ((2:Int) ^ IntKind.i64.bits).natAbs):Int)))) rfl,sx (.i ((IntKind.u64.wrap (IntKind.i64.wrap ((↑(0:Nat):Int)+(↑(Nat.succ (nat_lit 4) / nat_lit 2 ^ min (Int.toNat (1:Int)) IntKind.u64.bits % ((2:Int) ^ IntKind.i64.bits).natAbs):Int)))).fdiv ((2:Int) ^ min (Int.toNat (1:Int)) IntKind.u64.bits))) (show (0:Int)<=(1:Int)/\((IntKind.u64.wrap (IntKind.i64.wrap ((↑(0:Nat):Int)+(↑(Nat.succ (nat_lit 4) / nat_lit 2 ^ min (Int.toNat (1:Int)) IntKind.u64.bits % ((2:Int) ^ IntKind.i64.bits).natAbs):Int)))).fdiv ((2:Int) ^ min (Int.toNat (1:Int)) IntKind.u64.bits):Int)=(IntKind.u64.wrap (IntKind.i64.wrap ((↑(0:Nat):Int)+(↑(Nat.succ (nat_lit 4) / nat_lit 2 ^ min (Int.toNat (1:Int)) IntKind.u64.bits % ((2:Int) ^ IntKind.i64.bits).natAbs):Int)))).fdiv ((2:Int) ^ min (Int.toNat (1:Int)) IntKind.u64.bits) from ⟨(by simp_all),rfl⟩),si (e:=IntKind.i64.wrap ((IntKind.u64.wrap (IntKind.i64.wrap ((↑0:Int)+(↑(Nat.succ 4 / 2 ^ min (Int.toNat 1) IntKind.u64.bits % ((2:Int) ^ IntKind.i64.bits).natAbs):Int)))).fdiv (2 ^ min (Int.toNat 1) IntKind.u64.bits))) rfl,sqo (OwnAt  [[sv t0.sch.name,ZC t0.sch.cols,iv t0.next,ZW t0.rows],[sv t1.sch.name,ZC t1.sch.cols,iv t1.next,ZW t1.rows],[sv t2.sch.name,ZC t2.sch.cols,iv t2.next,ZW t2.rows],[sv t3.sch.name,ZC t3.sch.cols,iv t3.next,ZW t3.rows],[sv t4.sch.name,ZC t4.sch.cols,iv t4.next,ZW t4.rows]] 5 (IntKind.i64.wrap ((IntKind.u64.wrap (IntKind.i64.wrap ((↑0:Int)+(↑(Nat.succ 4 / 2 ^ min (Int.toNat 1) IntKind.u64.bits % ((2:Int) ^ IntKind.i64.bits).natAbs):Int)))).fdiv (2 ^ min (Int.toNat 1) IntKind.u64.bits)))),sx (.el t1.cells) o1,sc (zaq t1 n),sb c1] [0,1,2,8,9,10] 1 kr (g3 _ (zab (wkl [sb Zt,si (e:=IntKind.i64.wrap ((↑0:Int)+(↑(Nat.succ 1 / 2 ^ min (Int.toNat 1) IntKind.u64.bits % ((2:Int) ^ IntKind.i64.bits).natAbs):Int))) rfl,si (e:=IntKind.u64.wrap (IntKind.i64.wrap ((↑0:Int)+(↑(Nat.succ 1 / 2 ^ min (Int.toNat 1) IntKind.u64.bits % ((2:Int) ^ IntKind.i64.bits).natAbs):Int)))) rfl,sx (.i ((IntKind.u64.wrap (IntKind.i64.wrap ((↑(0:Nat):Int)+(↑(Nat.succ (nat_lit 1) / nat_lit 2 ^ min (Int.toNat (1:Int)) IntKind.u64.bits % ((2:Int) ^ IntKind.i64.bits).natAbs):Int)))).fdiv ((2:Int) ^ min (Int.toNat (1:Int)) IntKind.u64.bits))) (show (0:Int)<=(1:Int)/\((IntKind.u64.wrap (IntKind.i64.wrap ((↑(0:Nat):Int)+(↑(Nat.succ (nat_lit 1) / nat_lit 2 ^ min (Int.toNat (1:Int)) IntKind.u64.bits % ((2:Int) ^ IntKind.i64.bits).natAbs):Int)))).fdiv ((2:Int) ^ min (Int.toNat (1:Int)) IntKind.u64.bits):Int)=(IntKind.u64.wrap (IntKind.i64.wrap ((↑(0:Nat):Int)+(↑(Nat.succ (nat_lit 1) / nat_lit 2 ^ min (Int.toNat (1:Int)) IntKind.u64.bits % ((2:Int) ^ IntKind.i64.bits).natAbs):Int)))).fdiv ((2:Int) ^ min (Int.toNat (1:Int)) IntKind.u64.bits) from ⟨(by simp_all),rfl⟩),si (e:=IntKind.i64.wrap ((IntKind.u64.wrap (IntKind.i64.wrap ((↑0:Int)+(↑(Nat.succ 1 / 2 ^ min (Int.toNat 1) IntKind.u64.bits % ((2:Int) ^ IntKind.i64.bits).natAbs):Int)))).fdiv (2 ^ min (Int.toNat 1) IntKind.u64.bits))) rfl,sqo (OwnAt  [[sv t0.sch.name,ZC t0.sch.cols,iv t0.next,ZW t0.rows],[sv t1.sch.name,ZC t1.sch.cols,iv t1.next,ZW t1.rows],[sv t2.sch.name,ZC t2.sch.cols,iv t2.next,ZW t2.rows],[sv t3.sch.name,ZC t3.sch.cols,iv t3.next,ZW t3.rows],[sv t4.sch.name,ZC t4.sch.cols,iv t4.next,ZW t4.rows]] 5 (IntKind.i64.wrap ((IntKind.u64.wrap (IntKind.i64.wrap ((↑0:Int)+(↑(Nat.succ 1 / 2 ^ min (Int.toNat 1) IntKind.u64.bits % ((2:Int) ^ IntKind.i64.bits).natAbs):Int)))).fdiv (2 ^ min (Int.toNat 1) IntKind.u64.bits)))),sx (.el t0.cells) o0,sc (zaq t0 n),sb c0,si (e:=IntKind.i64.wrap (IntKind.i64.wrap ((IntKind.u64.wrap (IntKind.i64.wrap ((↑0:Int)+(↑(Nat.succ 1 / 2 ^ min (Int.toNat 1) IntKind.u64.bits % ((2:Int) ^ IntKind.i64.bits).natAbs):Int)))).fdiv (2 ^ min (Int.toNat 1) IntKind.u64.bits))+1)) rfl] [0,1,2,8,9,10] 1 kr (g4 _ (zab (wkr [sb Zf,sg Zt,sqo (OwnAt  [[sv t0.sch.name,ZC t0.sch.cols,iv t0.next,ZW t0.rows],[sv t1.sch.name,ZC t1.sch.cols,iv t1.next,ZW t1.rows],[sv t2.sch.name,ZC t2.sch.cols,iv t2.next,ZW t2.rows],[sv t3.sch.name,ZC t3.sch.cols,iv t3.next,ZW t3.rows],[sv t4.sch.name,ZC t4.sch.cols,iv t4.next,ZW t4.rows]] 5 (↑((Nat.succ 0 / 2 ^ min (Int.toNat 1) IntKind.u64.bits % ((2:Int) ^ IntKind.i64.bits).natAbs+1) % ((2:Int) ^ IntKind.i64.bits).natAbs):Int)),sx (.el t1.cells) o1,sc (zaq t1 n)] kr))))))))))))⟩
theorem kb51 (t0 t1 t2 t3 t4:Tb) (n:Str) (c0:cmpN t0 n=-1) (c1:cmpN t1 n=1) (c2:cmpN t2 n=1):zaa E0 S.Aa [.own 0 5,sv n,.fn S.Ak []] [.row Ty.Table (([t0,t1,t2,t3,t4]:List Tb).map Tb.cells) false] (.tup [iv 1,bv false]) [.row Ty.Table (([t0,t1,t2,t3,t4]:List Tb).map Tb.cells) false]:=by
 obtain ⟨i,f,⟨rfl,rfl⟩,h⟩:=ca_b51 t0 t1 t2 t3 t4 n (by rw [c0];rfl) (by rw [c0];rfl) ⟨rfl,rfl⟩ (by rw [c1];rfl) (by rw [c1];rfl) ⟨rfl,rfl⟩ (by rw [c2];rfl) (by rw [c2];rfl) ⟨rfl,rfl⟩
 exact h
theorem ca_b55 (t0 t1 t2 t3 t4:Tb) (n:Str) (c2:decide (cmpN t2 n < 0)=true) (z2:(cmpN t2 n==(0:Int))=false) (o2:OwnEl (([t0,t1,t2,t3,t4]:List Tb).map Tb.cells) 5 2 t2.cells) (c4:decide (cmpN t4 n < 0)=true) (z4:(cmpN t4 n==(0:Int))=false) (o4:OwnEl (([t0,t1,t2,t3,t4]:List Tb).map Tb.cells) 5 4 t4.cells):∃ (i:Int) (f:Bool),(i=5/\f=false)/\zaa E0 S.Aa [.own 0 5,sv n,.fn S.Ak []] [.row Ty.Table (([t0,t1,t2,t3,t4]:List Tb).map Tb.cells) false] (.tup [iv i,bv f]) [.row Ty.Table (([t0,t1,t2,t3,t4]:List Tb).map Tb.cells) false]:=by
 obtain ⟨q1,g1⟩:=zac ([t0,t1,t2,t3,t4]) n 0 5 (5)
 obtain ⟨q2,g2⟩:=zac ([t0,t1,t2,t3,t4]) n ((Nat.succ 4 / 2 ^ min (Int.toNat 1) IntKind.u64.bits % ((2:Int) ^ IntKind.i64.bits).natAbs+1) % ((2:Int) ^ IntKind.i64.bits).natAbs) 5 (5)
 obtain ⟨q3,g3⟩:=zac ([t0,t1,t2,t3,t4]) n ((Nat.succ 7 / 2 ^ min (Int.toNat 1) IntKind.u64.bits % ((2:Int) ^ IntKind.i64.bits).natAbs+1) % ((2:Int) ^ IntKind.i64.bits).natAbs) 5 (5)
 exact ⟨(↑((Nat.succ 7 / 2 ^ min (Int.toNat 1) IntKind.u64.bits % ((2:Int) ^ IntKind.i64.bits).natAbs+1) % ((2:Int) ^ IntKind.i64.bits).natAbs):Int),false,zea,wkc At.Aa [sqx (5=5)] [0,1,2,8,9,10] 1 kr (g1 _ (zab (wkl [sb Zt,si (zar (t:=(↑0:Int)+(↑5:Int)) (n:=0+5) Zo Zo),si (e:=IntKind.u64.wrap (↑(0+5):Int)) rfl,sx (.i ((IntKind.u64.wrap (↑((0:Nat)+(5:Nat)):Int)).fdiv ((2:Int) ^ min (Int.toNat (1:Int)) IntKind.u64.bits))) (show (0:Int)<=(1:Int)/\((IntKind.u64.wrap (↑((0:Nat)+(5:Nat)):Int)).fdiv ((2:Int) ^ min (Int.toNat (1:Int)) IntKind.u64.bits):Int)=(IntKind.u64.wrap (↑((0:Nat)+(5:Nat)):Int)).fdiv ((2:Int) ^ min (Int.toNat (1:Int)) IntKind.u64.bits) from ⟨(by simp_all),rfl⟩),si (e:=IntKind.i64.wrap ((IntKind.u64.wrap (↑(0+5):Int)).fdiv (2 ^ min (Int.toNat 1) IntKind.u64.bits))) rfl,sqo (OwnAt  [[sv t0.sch.name,ZC t0.sch.cols,iv t0.next,ZW t0.rows],[sv t1.sch.name,ZC t1.sch.cols,iv t1.next,ZW t1.rows],[sv t2.sch.name,ZC t2.sch.cols,iv t2.next,ZW t2.rows],[sv t3.sch.name,ZC t3.sch.cols,iv t3.next,ZW t3.rows],[sv t4.sch.name,ZC t4.sch.cols,iv t4.next,ZW t4.rows]] 5 (IntKind.i64.wrap ((IntKind.u64.wrap (↑(0+5):Int)).fdiv (2 ^ min (Int.toNat 1) IntKind.u64.bits)))),sx (.el t2.cells) o2,sc (zaq t2 n),sb c2,si (e:=IntKind.i64.wrap (IntKind.i64.wrap ((IntKind.u64.wrap (↑(0+5):Int)).fdiv (2 ^ min (Int.toNat 1) IntKind.u64.bits))+1)) rfl] [0,1,2,8,9,10] 1 kr (g2 _ (zab (wkl [sb Zt,si (e:=IntKind.i64.wrap ((↑((Nat.succ 4 / 2 ^ min (Int.toNat 1) IntKind.u64.bits % ((2:Int) ^ IntKind.i64.bits).natAbs+1) % ((2:Int) ^ IntKind.i64.bits).natAbs):Int)+(↑5:Int))) rfl,si (e:=IntKind.u64.wrap (IntKind.i64.wrap ((↑((Nat.succ 4 / 2 ^ min (Int.toNat 1) IntKind.u64.bits % ((2:Int) ^ IntKind.i64.bits).natAbs+1) % ((2:Int) ^ IntKind.i64.bits).natAbs):Int)+(↑5:Int)))) rfl,sx (.i ((IntKind.u64.wrap (IntKind.i64.wrap ((↑((Nat.succ (nat_lit 4) / nat_lit 2 ^ min (Int.toNat (1:Int)) IntKind.u64.bits % ((2:Int) ^ IntKind.i64.bits).natAbs+nat_lit 1) % ((2:Int) ^ IntKind.i64.bits).natAbs):Int)+(↑(5:Nat):Int)))).fdiv ((2:Int) ^ min (Int.toNat (1:Int)) IntKind.u64.bits))) (show (0:Int)<=(1:Int)/\((IntKind.u64.wrap (IntKind.i64.wrap ((↑((Nat.succ (nat_lit 4) / nat_lit 2 ^ min (Int.toNat (1:Int)) IntKind.u64.bits % ((2:Int) ^ IntKind.i64.bits).natAbs+nat_lit 1) % ((2:Int) ^ IntKind.i64.bits).natAbs):Int)+(↑(5:Nat):Int)))).fdiv ((2:Int) ^ min (Int.toNat (1:Int)) IntKind.u64.bits):Int)=(IntKind.u64.wrap (IntKind.i64.wrap ((↑((Nat.succ (nat_lit 4) / nat_lit 2 ^ min (Int.toNat (1:Int)) IntKind.u64.bits % ((2:Int) ^ IntKind.i64.bits).natAbs+nat_lit 1) % ((2:Int) ^ IntKind.i64.bits).natAbs):Int)+(↑(5:Nat):Int)))).fdiv ((2:Int) ^ min (Int.toNat (1:Int)) IntKind.u64.bits) from ⟨(by simp_all),rfl⟩),si (e:=IntKind.i64.wrap ((IntKind.u64.wrap (IntKind.i64.wrap ((↑((Nat.succ 4 / 2 ^ min (Int.toNat 1) IntKind.u64.bits % ((2:Int) ^ IntKind.i64.bits).natAbs+1) % ((2:Int) ^ IntKind.i64.bits).natAbs):Int)+(↑5:Int)))).fdiv (2 ^ min (Int.toNat 1) IntKind.u64.bits))) rfl,sqo (OwnAt  [[sv t0.sch.name,ZC t0.sch.cols,iv t0.next,ZW t0.rows],[sv t1.sch.name,ZC t1.sch.cols,iv t1.next,ZW t1.rows],[sv t2.sch.name,ZC t2.sch.cols,iv t2.next,ZW t2.rows],[sv t3.sch.name,ZC t3.sch.cols,iv t3.next,ZW t3.rows],[sv t4.sch.name,ZC t4.sch.cols,iv t4.next,ZW t4.rows]] 5 (IntKind.i64.wrap ((IntKind.u64.wrap (IntKind.i64.wrap ((↑((Nat.succ 4 / 2 ^ min (Int.toNat 1) IntKind.u64.bits % ((2:Int) ^ IntKind.i64.bits).natAbs+1) % ((2:Int) ^ IntKind.i64.bits).natAbs):Int)+(↑5:Int)))).fdiv (2 ^ min (Int.toNat 1) IntKind.u64.bits)))),sx (.el t4.cells) o4,sc (zaq t4 n),sb c4,si (e:=IntKind.i64.wrap (IntKind.i64.wrap ((IntKind.u64.wrap (IntKind.i64.wrap ((↑((Nat.succ 4 / 2 ^ min (Int.toNat 1) IntKind.u64.bits % ((2:Int) ^ IntKind.i64.bits).natAbs+1) % ((2:Int) ^ IntKind.i64.bits).natAbs):Int)+(↑5:Int)))).fdiv (2 ^ min (Int.toNat 1) IntKind.u64.bits))+1)) rfl] [0,1,2,8,9,10] 1 kr (g3 _ (zab (wkr [sb Zf,sb Zf] kr)))))))))⟩
theorem kb55 (t0 t1 t2 t3 t4:Tb) (n:Str) (c2:cmpN t2 n=-1) (c4:cmpN t4 n=-1):zaa E0 S.Aa [.own 0 5,sv n,.fn S.Ak []] [.row Ty.Table (([t0,t1,t2,t3,t4]:List Tb).map Tb.cells) false] (.tup [iv 5,bv false]) [.row Ty.Table (([t0,t1,t2,t3,t4]:List Tb).map Tb.cells) false]:=by
 obtain ⟨i,f,⟨rfl,rfl⟩,h⟩:=ca_b55 t0 t1 t2 t3 t4 n (by rw [c2];rfl) (by rw [c2];rfl) ⟨rfl,rfl⟩ (by rw [c4];rfl) (by rw [c4];rfl) ⟨rfl,rfl⟩
 exact h
abbrev stv (l:List Tb):AV:=.agg [tsl l,.sl [],.sl []]
noncomputable def L_vtA (l:List Tb) (i:Nat):Cfg:=zaj B.Ah 0 [(1,.p 0 0),(10,.sl []),(11,iv (([]:List (List AV)).length:Nat)),(12,iv (i:Nat))] [.box [tsl l,.sl [],.sl []]]
theorem zcw (l:List Tb) (i:Nat):True/\∀ R,Good E0 B.Ah [] (L_vtA l i) R->Good E0 B.Ah [] (L_vtA l i) R:=⟨trivial,fun _ h=>h⟩
theorem ca_vt (l:List Tb) :∃ (r:Bool),r=true/\zaa E0 S.Ah [stv l] [] (bv r) []:=by
 obtain ⟨q1,g1⟩:=zcw l (0)
 exact ⟨true,Zr,wkc At.Ah [sb Zf] [1,10,11,12] 1 kr (g1 _ (zab (wkr [sb Zf] kr)))⟩
theorem zdy (l:List Tb):zaa E0 S.Ah [stv l] [] (bv true) []:=by
 obtain ⟨r,rfl,h⟩:=ca_vt l
 exact h
noncomputable def L_cvA (l:List Tb) (i:Nat):Cfg:=zaj B.Al 0 [(1,.p 0 0),(21,.sl []),(22,iv (([]:List (List AV)).length:Nat)),(23,iv (i:Nat))] [.box [tsl l,.sl [],.sl []]]
theorem zdN (l:List Tb) (i:Nat):True/\∀ R,Good E0 B.Al [] (L_cvA l i) R->Good E0 B.Al [] (L_cvA l i) R:=⟨trivial,fun _ h=>h⟩
theorem ca_cv (l:List Tb) (hv:StV l) (ht:zaa E0 S.Ah [stv l] [] (bv true) []):∃ (r:Bool),r=true/\zaa E0 S.Al [stv l] [] (bv r) []:=by
 obtain ⟨q1,g1⟩:=zdN l (0)
 exact ⟨(0:Int)==(0:Int),Zr,wkc At.Al [sc (zbP l ‹_›),sg Zf,sc ht,sg Zf,sc zdA,sb Zf] [1,21,22,23] 1 kr (g1 _ (zab (wkr [sb Zf,sc (zf7 l),sqx (some 32=some 32)] kr)))⟩
theorem zba (l:List Tb) (hv:StV l):zaa E0 S.Al [stv l] [] (bv true) []:=by
 obtain ⟨r,rfl,h⟩:=ca_cv l hv (zdy l)
 exact h
theorem ca_tn (s:Sch) (hs:zae s.cols) (hv:SchV s):∃ (c:Int),c=0/\zaa E0 S.B8 [s.av] [] (.tup [(T0 s).av,iv c]) []:=by
 exact ⟨0,Zr,wk At.B8 [sqx ((True/\s.cols.length=(List.map Col.cells s.cols).length/\True/\True/\True)/\True/\True),sc (zbi s ‹_›),sb Zf,sc (zbe s.cols ‹_›)] kr⟩
theorem zkB (s:Sch) (hv:SchV s):zaa E0 S.B8 [s.av] [] (.tup [(T0 s).av,iv 0]) []:=by
 obtain ⟨r,rfl,h⟩:=ca_tn s hv.short hv
 exact h
noncomputable def L_dlg (i:Nat):Cfg:=zaj B.Ad 0 [(1,.fn S.AP []),(5,.nl),(8,.sl []),(9,iv (([]:List (List AV)).length:Nat)),(10,iv (i:Nat))] []
theorem zcx (i:Nat):True/\∀ R,Good E0 B.Ad [] (L_dlg i) R->Good E0 B.Ad [] (L_dlg i) R:=⟨trivial,fun _ h=>h⟩
theorem ca_dlg  :∃ (r:List Tg),r=[]/\zaa E0 S.Ad [.sl [],.fn S.AP []] [] (.sl (r.map Tg.cells)) []:=by
 obtain ⟨q1,g1⟩:=zcx (0)
 exact ⟨[],Zr,wkc At.Ad [] [1,5,8,9,10] 0 kr (g1 _ (zab (wkr [sb Zf] kr)))⟩
theorem zbV:zaa E0 S.Ad [.sl [],.fn S.AP []] [] (.sl []) []:=by
 obtain ⟨r,rfl,h⟩:=ca_dlg
 exact h
structure NoRows (l:List Tb):Prop where
 all:∀ t∈l,∃ s,SchV s/\t=T0 s
theorem NoRows.deep {l:List Tb} (h:NoRows l):∀ t∈l,zae t.sch.cols/\zae t.rows/\∀ r∈t.rows,zae r.vals:=by
 intro t ht
 obtain ⟨s,hs,rfl⟩:=h.all t ht
 exact ⟨hs.short,by simp [zae],by simp⟩
theorem NoRows.copied {l:List Tb} (h:NoRows l):∀ t∈l,zaa E0 S.AQ [t.av] [] t.av []:=by
 intro t ht
 obtain ⟨s,hs,rfl⟩:=h.all t ht
 exact ze1 s hs.short
theorem ca_ds (l:List Tb) (hl:zae l) (hd:zaa E0 S.BF [tsl l] [] (.own 0 l.length) [.row Ty.Table (l.map Tb.cells) false]) (ht:zaa E0 S.Ad [.sl [],.fn S.AP []] [] (.sl []) []) (hc:zaa E0 S.Aw [.sl []] [] (.own 0 0) [.row Ty.Link [] false]):∃ (m:List Tb),m=l/\zaa E0 S.A5 [stv l] [] (stv m) []:=by
 exact ⟨l,Zr,wk At.A5 [sqx (l.length=(List.map Tb.cells l).length/\True/\0=0/\True),sd [(2,[sc hd]),(5,[sc ht]),(8,[sc hc])]] kr⟩
theorem zhw (l:List Tb) (hl:zae l) (hn:NoRows l):zaa E0 S.A5 [stv l] [] (stv l) []:=by
 obtain ⟨r,rfl,h⟩:=ca_ds l hl (zcb l hl hn.deep) zbV (zbu [] (by simp [zae]))
 exact h
abbrev dsH (l:List Tb):Heap:=[.box [tsl l,.sl [],.sl []],.box [.own 2 l.length,.sl [],.own 3 0],.row Ty.Table (l.map Tb.cells) false,.row Ty.Link [] false]
theorem ca_dso (l:List Tb) (hl:zae l) (hd:zaa E0 S.BF [tsl l] [] (.own 0 l.length) [.row Ty.Table (l.map Tb.cells) false]) (ht:zaa E0 S.Ad [.sl [],.fn S.AP []] [] (.sl []) []) (hc:zaa E0 S.Aw [.sl []] [] (.own 0 0) [.row Ty.Link [] false]):∃ (n:Nat),n=l.length/\zaa E0 S.A5 [stv l] [] (.agg [.own 2 n,.sl [],.own 3 0]) (dsH l):=by
 exact ⟨l.length,Zr,wkK At.A5 [sd [(2,[sc hd]),(5,[sc ht]),(8,[sc hc])]] kr⟩
theorem zgH (l:List Tb) (hl:zae l) (hn:NoRows l):zaa E0 S.A5 [stv l] [] (.agg [.own 2 l.length,.sl [],.own 3 0]) (dsH l):=by
 obtain ⟨r,rfl,h⟩:=ca_dso l hl (zcb l hl hn.deep) zbV (zbu [] (by simp [zae]))
 exact h
theorem zco {p:Prop} (h:p:=by first|exact hn|exact zjd hn hp|exact ⟨⟨hn,by omega,by omega,by first|(simp;done)|(simp;omega)⟩,(show ((p+1:Nat):Int)<=(n:Int) by omega),(show ((n:Nat):Int).toNat<=n by simp)⟩|exact ⟨hn,by omega,by omega,by first|(simp;done)|(simp;omega)⟩|exact ⟨hn,del_a,hn,(show _<=n by rw [zhl hn hp];omega)⟩|exact ⟨zjd hn hp,by omega,by rw [zhl hn hp];omega,by simp⟩):p:=h
theorem zhl {xs:List (List AV)} {n p:Nat} (hn:n=xs.length) (hp:p+1<=n):((p:Nat):Int).toNat+(List.drop (((p+1:Nat):Int)).toNat (List.take ((n:Nat):Int).toNat xs)).length=n - 1:=by
 simp only [Int.toNat_natCast,List.length_drop,List.length_take];omega
theorem del_r {xs Z:List (List AV)} {n p:Nat} (hn:n=xs.length) (hp:p+1<=n) :
  (zaF (zaF xs p (List.drop (((p+1:Nat):Int)).toNat (List.take ((n:Nat):Int).toNat xs))) (((p:Nat):Int).toNat+(List.drop (((p+1:Nat):Int)).toNat (List.take ((n:Nat):Int).toNat xs)).length - 0) Z).take (n - 1)=xs.eraseIdx p:=by
 rw [zhl hn hp]
 simp only [Int.toNat_natCast]
 have e1:xs.take n=xs:=List.take_of_length_le Zo
 rw [e1]
 have hd:(xs.drop (p+1)).length=n - 1 - p:=by rw [List.length_drop];omega
 have hl:(xs.take p++xs.drop (p+1)).length=n - 1:=by rw [List.length_append,hd,List.length_take];omega
 have e2:(zaF xs p (xs.drop (p+1))).take (n - 1)=xs.take p++xs.drop (p+1):=by
  unfold zaF
  rw [← List.append_assoc]
  exact List.take_left' hl
 show (zaF (zaF xs p (xs.drop (p+1))) (n - 1) Z).take (n - 1)=_
 rw [show zaF (zaF xs p (xs.drop (p+1))) (n - 1) Z=(zaF xs p (xs.drop (p+1))).take (n - 1)++(Z++(zaF xs p (xs.drop (p+1))).drop (n - 1+Z.length)) from rfl,e2,List.take_left' hl,List.eraseIdx_eq_take_drop_succ]
theorem zjd {xs:List (List AV)} {n p:Nat} (hn:n=xs.length) (hp:p+1<=n):n=(zaF xs p (List.drop (((p+1:Nat):Int)).toNat (List.take ((n:Nat):Int).toNat xs))).length:=by
 rw [zcW]
 ·exact hn
 ·simp only [Int.toNat_natCast,List.length_drop,List.length_take];omega
theorem del_n {xs:List (List AV)} {z:List AV} {n p:Nat} (hn:n=xs.length) (hp:p+1<=n) :
  (zaF (zaF xs p (List.drop (((p+1:Nat):Int)).toNat (List.take ((n:Nat):Int).toNat xs))) (((p:Nat):Int).toNat+(List.drop (((p+1:Nat):Int)).toNat (List.take ((n:Nat):Int).toNat xs)).length - 0) (List.replicate (((n:Nat):Int).toNat+0 - (((((p:Nat):Int).toNat+(List.drop (((p+1:Nat):Int)).toNat (List.take ((n:Nat):Int).toNat xs)).length - 0:Nat):Int).toNat+0)) z)).length=n:=by
 rw [zcW,← zjd hn hp]
 rw [← zjd hn hp,List.length_replicate,zhl hn hp]
 simp only [Int.toNat_natCast]
 omega
theorem del_a {xs:List Tb} {n p:Nat}:AllLen (List.drop p (List.take n (xs.map Tb.cells))) 4:=⟨fun c hc=>by
 have:=List.mem_of_mem_take (List.mem_of_mem_drop hc)
 obtain ⟨t,_,rfl⟩:=List.mem_map.1 this
 rfl⟩
theorem ca_del (xs:List Tb) (n p:Nat) (hn:n=(xs.map Tb.cells).length) (hp:p+1<=n) (hs:n<=6) (e:((p:Int)==((p+1:Nat):Int))=false):∃ (m:Nat) (ys:List (List AV)),(m=n - 1/\ys.take (n - 1)=(xs.map Tb.cells).eraseIdx p/\ys.length=n)/\zaa E0 S.BG [.own 0 n,iv p,iv (p+1:Nat)] [.row Ty.Table (xs.map Tb.cells) false] (.os 0 n 0 m) [.row Ty.Table ys false]:=by
 exact ⟨(p:Int).toNat+(List.drop (↑(p+1):Int).toNat (List.take (n:Int).toNat (List.map Tb.cells xs))).length,zaF (zaF (List.map Tb.cells xs) p (List.drop (↑(p+1):Int).toNat (List.take (n:Int).toNat (List.map Tb.cells xs)))) ((p:Int).toNat+(List.drop (↑(p+1):Int).toNat (List.take (n:Int).toNat (List.map Tb.cells xs))).length - 0) (List.replicate ((n:Int).toNat+0 - ((↑((p:Int).toNat+(List.drop (↑(p+1):Int).toNat (List.take (n:Int).toNat (List.map Tb.cells xs))).length - 0):Int).toNat+0)) (frzL [] (E0.T Ty.Table).zero)),(by exact ⟨zhl hn hp,del_r hn hp,del_n hn hp⟩),wkK At.BG [sqx (h:=zco) (n=(List.map Tb.cells xs).length),sqx (h:=zco) (OwnCut (List.map Tb.cells xs) n 0 (p:Int) (↑(p+1):Int)/\((n:Int) - (↑(p+1):Int)).NonNeg/\(n:Int).toNat.le n),sb e,sqx (h:=zco) (n=(List.map Tb.cells xs).length),sdp [(2,[sqx (h:=zco) (OwnCut (List.map Tb.cells xs) n 0 0 (p:Int))]),(5,[sqx (h:=zco) (OwnCut (List.map Tb.cells xs) n 0 (↑(p+1):Int) (n:Int))]),(6,[sqx (h:=zco) (n=(List.map Tb.cells xs).length/\AllLen (List.drop (↑(p+1):Int).toNat (List.take (n:Int).toNat (List.map Tb.cells xs))) 4/\n=(List.map Tb.cells xs).length/\((p:Int).toNat+(List.drop (↑(p+1):Int).toNat (List.take (n:Int).toNat (List.map Tb.cells xs))).length).le n)])] [[5,2,6]] [(0,AV.os 0 n 0 ((p:Int).toNat+(List.drop (↑(p+1):Int).toNat (List.take (n:Int).toNat (List.map Tb.cells xs))).length)),(1,iv (p:Int)),(2,iv (↑(p+1):Int)),(6,AV.nl),(7,iv (n:Int)),(8,AV.own 0 n),(9,iv (p:Int)),(10,iv (↑(p+1):Int)),(11,AV.own 0 n),(12,iv (n:Int)),(13,AV.un),(14,iv (p:Int)),(15,iv (↑(p+1):Int)),(16,AV.bl false),(18,AV.own 0 n),(19,iv (n:Int)),(20,AV.own 0 n),(21,iv (p:Int)),(22,AV.os 0 n 0 (p:Int).toNat),(23,AV.own 0 n),(24,iv (↑(p+1):Int)),(25,AV.os 0 n (↑(p+1):Int).toNat (n:Int).toNat),(26,AV.os 0 n 0 ((p:Int).toNat+(List.drop (↑(p+1):Int).toNat (List.take (n:Int).toNat (List.map Tb.cells xs))).length))] [Blk.row Ty.Table (zaF (List.map Tb.cells xs) p (List.drop (↑(p+1):Int).toNat (List.take (n:Int).toNat (List.map Tb.cells xs)))) false],sqx (h:=zco) (n=(zaF (List.map Tb.cells xs) p (List.drop (↑(p+1):Int).toNat (List.take (n:Int).toNat (List.map Tb.cells xs)))).length),sqx (h:=zco) (OwnCut (zaF (List.map Tb.cells xs) p (List.drop (↑(p+1):Int).toNat (List.take (n:Int).toNat (List.map Tb.cells xs)))) n 0 (↑((p:Int).toNat+(List.drop (↑(p+1):Int).toNat (List.take (n:Int).toNat (List.map Tb.cells xs))).length - 0):Int) (n:Int)),sqx (h:=zco) (n=(zaF (List.map Tb.cells xs) p (List.drop (↑(p+1):Int).toNat (List.take (n:Int).toNat (List.map Tb.cells xs)))).length)] kr⟩
noncomputable def L_ixT (nm:Str) (i:Nat) (g:FuncId):Cfg:=zaj B.Ac 0 [(0,.sl []),(1,.fn g [.p 0 0]),(7,iv (([]:List (List AV)).length:Nat)),(8,iv (i:Nat))] [.box [sv nm]]
theorem zbc (nm:Str) (i:Nat) (g:FuncId):True/\∀ R,Good E0 B.Ac [.box [sv nm]] (L_ixT nm i g) R->Good E0 B.Ac [.box [sv nm]] (L_ixT nm i g) R:=⟨trivial,fun _ h=>h⟩
theorem ca_ixT (nm:Str) :∃ (r:Int),r=-1/\zaa E0 S.Ac [.sl [],.fn S.Aj [.p 0 0]] [.box [sv nm]] (iv r) [.box [sv nm]]:=by
 obtain ⟨q1,g1⟩:=zbc nm 0 (17)
 exact ⟨-1,Zr,wkc At.Ac [] [0,1,7,8] 1 kr (g1 _ (zab (wkr [sb Zf] kr)))⟩
theorem ca_cnT (nm:Str) (hx:zaa E0 S.Ac [.sl [],.fn S.Aj [.p 0 0]] [.box [sv nm]] (iv (-1)) [.box [sv nm]]):∃ (r:Bool),r=false/\zaa E0 S.Av [.sl [],.fn S.Aj [.p 0 0]] [.box [sv nm]] (bv r) [.box [sv nm]]:=by
 exact ⟨decide ((0:Int)<=(-1:Int)),Zr,wk At.Av [sl [0] hx] kr⟩
theorem zcE (nm:Str):zaa E0 S.Av [.sl [],.fn S.Aj [.p 0 0]] [.box [sv nm]] (bv false) [.box [sv nm]]:=by
 obtain ⟨i,rfl,h⟩:=ca_ixT nm
 obtain ⟨r,rfl,h⟩:=ca_cnT nm h
 exact h
theorem znz (l:List Tb) (p n:Nat) (nm:Str) (ys:List (List AV)) (hp:p<=6) (hn:l.length=ys.length) (hc:zaa E0 S.Av [.sl [],.fn S.Aj [.p 0 0]] [.box [sv nm]] (bv false) [.box [sv nm]]) (k:zaa E0 S.Al [stv l] [] (bv true) []) (k3:zaa E0 S.Bn [tsl l,sv nm] [] (iv (p:Nat)) []) (kd:zaa E0 S.A5 [stv l] [] (.agg [.own 2 l.length,.sl [],.own 3 0]) (dsH l)) (k7:zaa E0 S.BG [.own 0 l.length,iv p,iv (p+1:Nat)] [.row Ty.Table (l.map Tb.cells) false] (.os 0 l.length 0 n) [.row Ty.Table ys false]):∃ (c:Int),c=0/\zaa E0 S.AI [stv l,sv nm] [] (.tup [.agg [.sl (ys.take n),.sl [],.sl []],iv c]) []:=by
 exact ⟨0,Zr,wk At.AI [sqx ((l.length=ys.length/\True/\0=0/\True)/\True/\True),sc k,sb Zf,sc k3,sb Zf,sl [1] hc,sb Zf,sc kd,si (zar (t:=(p:Int)+1) (n:=p+1) Zo Zo),sl [5] k7] kr⟩
theorem ca_ctE (l:List Tb) (s:Sch) (p:Nat) (k:zaa E0 S.Al [stv l] [] (bv true) []) (k2:zaa E0 S.AW [s.av] [] (bv true) []) (k3:zaa E0 S.Bn [tsl l,sv s.name] [] (iv (p:Nat)) []):∃ (c:Int),c=4/\zaa E0 S.Ab [stv l,s.av] [] (.tup [stv [],iv c]) []:=by
 exact ⟨4,Zr,wk At.Ab [sc k,sg Zf,sc k2,sb Zf,sc k3,sb Zt] kr⟩
theorem ca_ctL (l:List Tb) (s:Sch) (k:zaa E0 S.Al [stv l] [] (bv true) []) (k2:zaa E0 S.AW [s.av] [] (bv true) []) (k3:zaa E0 S.Bn [tsl l,sv s.name] [] (iv (-1)) []) (lm:decide ((6:Int)<=((l.map Tb.cells).length:Int))=true):∃ (c:Int),c=10/\zaa E0 S.Ab [stv l,s.av] [] (.tup [stv [],iv c]) []:=by
 exact ⟨10,Zr,wk At.Ab [sc k,sg Zf,sc k2,sb Zf,sc k3,sb Zf,sb lm] kr⟩
theorem ca_ctO (l m:List Tb) (s:Sch) (k:zaa E0 S.Al [stv l] [] (bv true) []) (k2:zaa E0 S.AW [s.av] [] (bv true) []) (k3:zaa E0 S.Bn [tsl l,sv s.name] [] (iv (-1)) []) (lm:decide ((6:Int)<=((l.map Tb.cells).length:Int))=false) (k4:zaa E0 S.B8 [s.av] [] (.tup [(T0 s).av,iv 0]) []) (k5:zaa E0 S.A5 [stv l] [] (stv l) []) (k6:zaa E0 S.B9 [tsl l,(T0 s).av] [] (.tup [tsl m,bv true]) []):∃ (c:Int),c=0/\zaa E0 S.Ab [stv l,s.av] [] (.tup [stv m,iv c]) []:=by
 exact ⟨0,Zr,wk At.Ab [sc k,sg Zf,sc k2,sb Zf,sc k3,sb Zf,sb lm,sc k4,sc k5,sc k6,sg Zf,sb Zf] kr⟩
theorem ca_wd  :∃ (r:Bool),r=true/\zaa E0 S.Cc [sv ⟨#[]⟩] [] (.tup [.agg [iv 3,iv 0,sv ⟨#[]⟩],bv r]) []:=by
 exact ⟨true,Zr,wk At.Cc [sc (zfI (V.mk 3 0 Zs0) (by first|assumption|(show (0:Nat) < 9223372036854775807;omega)|decide)),sb Zf] kr⟩
theorem zg7:zaa E0 S.Cc [sv ⟨#[]⟩] [] (.tup [.agg [iv 3,iv 0,sv ⟨#[]⟩],bv true]) []:=by
 obtain ⟨r,rfl,h⟩:=ca_wd
 exact h
theorem ca_va  :∃ (r:Bool),r=true/\zaa E0 S.BL [acAb.av] [] (bv r) []:=by
 exact ⟨true,Zr,wk At.BL [sd [],sc (zaX acAb.table),sb Zf,sb Zf,sb Zf,sb Zt,sc zg7,sg Zt,sg Zt,sg Zt,sg Zt,sg Zt] kr⟩
theorem ca_al  :∃ (r:Bool),r=true/\zaa E0 S.B2 [tgX.av,iv 4] [] (bv r) []:=by
 exact ⟨true,Zr,wk At.B2 [sb Zt] kr⟩
theorem ca_vtc  (k1:zaa E0 S.BL [acAb.av] [] (bv true) []) (k2:zaa E0 S.B2 [tgX.av,iv 4] [] (bv true) []):∃ (r:Bool),r=false/\zaa E0 S.Ay [acAb.av,.p 0 0] [.box tgX.cells] (bv r) [.box tgX.cells]:=by
 exact ⟨!true,Zr,wk At.Ay [sc k1,sg Zf,sc k2] kr⟩
theorem zd4:zaa E0 S.Ay [acAb.av,.p 0 0] [.box tgX.cells] (bv false) [.box tgX.cells]:=by
 obtain ⟨_,rfl,k1⟩:=ca_va
 obtain ⟨_,rfl,k2⟩:=ca_al
 obtain ⟨_,rfl,h⟩:=ca_vtc k1 k2
 exact h
noncomputable def L_ixA (i:Nat):Cfg:=zaj B.AB 0 [(0,.sl [acAb.cells]),(1,.fn S.Ay [.p 0 0]),(7,iv (([acAb.cells]:List (List AV)).length:Nat)),(8,iv (i:Nat))] [.box tgX.cells]
theorem zbf (i:Nat):True/\∀ R,Good E0 B.AB [.box tgX.cells] (L_ixA i) R->Good E0 B.AB [.box tgX.cells] (L_ixA i) R:=⟨trivial,fun _ h=>h⟩
theorem ca_ixA  :∃ (r:Int),r=-1/\zaa E0 S.AB [.sl [acAb.cells],.fn S.Ay [.p 0 0]] [.box tgX.cells] (iv r) [.box tgX.cells]:=by
 obtain ⟨q1,g1⟩:=zbf (0)
 obtain ⟨q2,g2⟩:=zbf (0+1)
 exact ⟨-1,Zr,wkc At.AB [] [0,1,7,8] 1 kr (g1 _ (zab (wkl [sb Zt,se (xs:=[[iv acAb.kind,sv acAb.table,AV.sl [],AV.sl (zag []),AV.sl [],AV.sl (zad []),sv acAb.text]]) (i:=0) (c:=[iv acAb.kind,sv acAb.table,AV.sl [],AV.sl (zag []),AV.sl [],AV.sl (zad []),sv acAb.text]) (n:=7) ⟨by decide,rfl,rfl⟩,sl [0] zd4,sb Zf,si (zar (t:=(↑0:Int)+1) (n:=0+1) Zo Zo)] [0,1,7,8] 1 kr (g2 _ (zab (wkr [sb Zf] kr))))))⟩
theorem ca_cnA  (hx:zaa E0 S.AB [.sl [acAb.cells],.fn S.Ay [.p 0 0]] [.box tgX.cells] (iv (-1)) [.box tgX.cells]):∃ (r:Bool),r=false/\zaa E0 S.Bk [.sl [acAb.cells],.fn S.Ay [.p 0 0]] [.box tgX.cells] (bv r) [.box tgX.cells]:=by
 exact ⟨decide ((0:Int)<=(-1:Int)),Zr,wk At.Bk [sl [0] hx] kr⟩
theorem ca_vr  :∃ (r:Bool),r=true/\zaa E0 S.BR [tgX.av] [] (bv r) []:=by
 exact ⟨true,Zr,wk At.BR [sb Zt] kr⟩
theorem zny  (k:zaa E0 S.Bz [.sl []] [] (bv true) []):∃ (r:Bool),r=true/\zaa E0 S.BS [.sl []] [] (bv r) []:=by
 exact ⟨true,Zr,wk At.BS [sg Zt,sc k] kr⟩
theorem ca_vT  (n0:zaa E0 S.Ap [sv ⟨#[97]⟩] [] (bv true) []) (n1:zaa E0 S.Ap [sv ⟨#[108,111,103]⟩] [] (bv true) []) (k1:zaa E0 S.AR [.sl []] [] (bv true) []) (k2:zaa E0 S.BR [tgX.av] [] (bv true) []) (k3:zaa E0 S.BS [.sl []] [] (bv true) []) (k4:zaa E0 S.Bk [.sl [acAb.cells],.fn S.Ay [.p 0 0]] [.box tgX.cells] (bv false) [.box tgX.cells]):∃ (r:Bool),r=true/\zaa E0 S.Bb [tgX.av] [] (bv r) []:=by
 exact ⟨!false,Zr,wk At.Bb [sc n0,sg Zf,sc n1,sg Zf,sg Zf,sg Zf,sb Zf,sc k1,sg Zf,sc k1,sg Zf,sc k1,sg Zf,sc k2,sg Zf,sc k3,sg Zf,sg Zf,sb Zf,sl [0] k4] kr⟩
theorem zcd:zaa E0 S.Bb [tgX.av] [] (bv true) []:=by
 have n0:=zaX ⟨#[97]⟩
 rw [show zaT ⟨#[97]⟩=true by decide] at n0
 have n1:=zaX ⟨#[108,111,103]⟩
 rw [show zaT ⟨#[108,111,103]⟩=true by decide] at n1
 have k1:zaa E0 S.AR [.sl []] [] (bv true) []:=zii [] (by simp [zae])
 obtain ⟨_,rfl,k2⟩:=ca_vr
 obtain ⟨_,rfl,k3⟩:=zny (zjy [] (fun _=>true) (by simp [zae]) (fun _ h=>nomatch h))
 obtain ⟨_,rfl,k4⟩:=ca_ixA
 obtain ⟨_,rfl,k5⟩:=ca_cnA k4
 obtain ⟨_,rfl,h⟩:=ca_vT n0 n1 k1 k2 k3 k5
 exact h
abbrev cc3 (tb ex:List Tb):List (List AV):=[[tsl tb],[tsl ex]]
noncomputable def L_ez (tb ex:List Tb) (i:Nat) (sz:Int):Cfg:=zaj B.At 0 [(0,.sl (cc3 tb ex)),(3,iv sz),(9,.sl (cc3 tb ex)),(10,iv ((cc3 tb ex).length:Nat)),(11,iv (i:Nat))] []
theorem za1 (tb ex:List Tb) (i:Nat) (sz:Int):True/\∀ R,Good E0 B.At [] (L_ez tb ex i sz) R->Good E0 B.At [] (L_ez tb ex i sz) R:=⟨trivial,fun _ h=>h⟩
noncomputable def L_eb (tb ex:List Tb) (i:Nat) (xs:List Tb):Cfg:=zaj B.At 1 [(6,.own 0 xs.length),(25,.sl (cc3 tb ex)),(26,iv ((cc3 tb ex).length:Nat)),(27,iv (i:Nat))] [.row Ty.Table (xs.map Tb.cells) false]
theorem za0 (tb ex:List Tb) (i:Nat) (xs:List Tb):True/\∀ R,Good E0 B.At [] (L_eb tb ex i xs) R->Good E0 B.At [] (L_eb tb ex i xs) R:=⟨trivial,fun _ h=>h⟩
theorem zmb (tb ex:List Tb) (hl:tb.length<=1000) (hle:ex.length<=1000) (w1:IntKind.i64.wrap (0+((tb.map Tb.cells).length:Int))=((tb.length:Nat):Int)) (w2:IntKind.i64.wrap (((tb.length:Nat):Int)+((ex.map Tb.cells).length:Int))=((tb.length+ex.length:Nat):Int)) (w3:decide (((tb.length:Nat):Int) < 0)=false) (w4:decide (((tb.length+ex.length:Nat):Int) < 0)=false):∃ (r:List Tb),r=tb++ex/\zaa E0 S.At [.sl (cc3 tb ex)] [] (tsl r) []:=by
 obtain ⟨q1,g1⟩:=za1 tb ex 0 (0)
 obtain ⟨q2,g2⟩:=za1 tb ex (0+1) ((tb.length:Int))
 obtain ⟨q3,g3⟩:=za1 tb ex (0+1+1) ((↑(tb.length+ex.length):Int))
 obtain ⟨q4,g4⟩:=za0 tb ex 0 ([])
 obtain ⟨q5,g5⟩:=za0 tb ex (0+1) ([]++tb)
 obtain ⟨q6,g6⟩:=za0 tb ex (0+1+1) ([]++tb++ex)
 exact ⟨[]++tb++ex,(by first|rfl|(simp;done)),wkc At.At [] [0,3,9,10,11] 0 kr (g1 _ (zab (wkl [sb Zt,se (xs:=[[tsl tb],[tsl ex]]) (i:=0) (c:=[tsl tb]) (n:=1) ⟨by decide,rfl,rfl⟩,si w1,sb Zf,si (zar (t:=(↑0:Int)+1) (n:=0+1) Zo Zo)] [0,3,9,10,11] 0 kr (g2 _ (zab (wkl [sb Zt,se (zho ([tsl tb]) ([tsl ex]) Za),si w2,sb Zf,si (zar (t:=(↑(0+1):Int)+1) (n:=0+1+1) Zo Zo)] [0,3,9,10,11] 0 kr (g3 _ (zab (wkl [sb Zf,sln [] (zfU (tb.length+ex.length) Za)] [6,25,26,27] 1 kr (g4 _ (zab (wkl [sb Zt,se (xs:=[[tsl tb],[tsl ex]]) (i:=0) (c:=[tsl tb]) (n:=1) ⟨by decide,rfl,rfl⟩,sqx (AllLen (List.map Tb.cells tb) 4/\0=0/\((([]:List (List AV)).length+(List.map Tb.cells tb).length) * 72).le 140737488355328),si (zar (t:=(↑0:Int)+1) (n:=0+1) Zo Zo)] [6,25,26,27] 1 kr (ziz (show ([(6,AV.own 0 ([]++List.map Tb.cells tb).length),(25,AV.sl [[tsl tb],[tsl ex]]),(26,iv (↑[[tsl tb],[tsl ex]].length:Int)),(27,iv (↑(0+1):Int))]:TS)=_ from Zcv2) rfl (g5 _ (zab (wkl [sb Zt,se (zho ([tsl tb]) ([tsl ex]) Za),sqx (AllLen (List.map Tb.cells ex) 4/\([]++tb).length=(List.map Tb.cells ([]++tb)).length/\(((List.map Tb.cells ([]++tb)).length+(List.map Tb.cells ex).length) * 72).le 140737488355328),si (zar (t:=(↑(0+1):Int)+1) (n:=0+1+1) Zo Zo)] [6,25,26,27] 1 kr (zbM 6 0 (List.map Tb.cells ([]++tb)++List.map Tb.cells ex) (g6 _ (zab (wkr [sqx (([]++tb++ex).length=(List.map Tb.cells ([]++tb++ex)).length),sb Zf] kr))) (he:=Zcv2) (hm:=Zcv2))))))))))))))))))⟩
theorem zd1 (tb ex:List Tb) (hl:tb.length<=1000) (hle:ex.length<=1000):zaa E0 S.At [.sl (cc3 tb ex)] [] (tsl (tb++ex)) []:=by
 obtain ⟨r,rfl,h⟩:=zmb tb ex hl hle (by rw [List.length_map,IntKind.wrap_i64];omega) (by rw [List.length_map,IntKind.wrap_i64];omega) Zs Zp
 exact h
def colT (c:Col):Col:=⟨c.name,c.type,false,false⟩
noncomputable def L_trn (nm:Str) (s:Sch) (i:Nat) (out:List Col):Cfg:=zaj B.AZ 0 [(2,.sl []),(6,.p 1 0),(7,.p 2 0),(16,.sl (s.cols.map Col.cells)),(17,iv ((s.cols.map Col.cells).length:Nat)),(18,iv (i:Nat))] [.box s.cells,.box [sv ⟨#[]⟩,.nl,iv 0,.nl],.box [sv nm,.own 3 out.length,iv 1,.sl []],.row Ty.Column (out.map Col.cells) false]
theorem zc5 (nm:Str) (s:Sch) (hs:zae s.cols) (i:Nat) (out:List Col) (hi:i<=(s.cols).length) (hI:out=(s.cols.take i).map colT):∃ (out':List Col),(out'=(s.cols.take (s.cols).length).map colT)/\(decide ((((s.cols).length:Nat):Int) < (((s.cols.map Col.cells).length:Nat):Int))=false)/\∀ R,Good E0 B.AZ [] (L_trn nm s (s.cols).length out') R->Good E0 B.AZ [] (L_trn nm s i out) R:=by
 have hk:=hi;revert i out;refine zlp ((s.cols).length) (fun i hlt ih out hi hI _=>?_)
 obtain ⟨x,hx,h0,hw⟩:=zlq (l:=s.cols) ((s.cols.map Col.cells).length) hlt
 have ho:out.length<=1000000000:=(by rw [hI,List.length_map,List.length_take];simp only [zae] at hs;omega)
 exact Zih (ih (out++[Col.mk x.name x.type false false]) Zo (by (rw [List.take_add_one,hx,List.map_append,hI];rfl)) Zo) fun R gY=>zab (wkl [sb h0,se (zat Col.cells hx rfl),sqA (List.map Col.cells out) [[sv x.name,iv x.type,bv false,bv false]] out.length 4 32,si hw] [2,6,7,16,17,18] 4 kr (ziz rfl (show ([Blk.box s.cells,Blk.box [sv Zs0,AV.nl,iv 0,AV.nl],Blk.box [sv nm,AV.own 3 (List.map Col.cells out++[[sv x.name,iv x.type,bv false,bv false]]).length,iv 1,AV.sl []],Blk.row Ty.Column (List.map Col.cells out++[[sv x.name,iv x.type,bv false,bv false]]) false]:Heap)=_ from Zcv2) gY))
theorem zjw (nm:Str) (s:Sch) (hs:zae s.cols):∃ (r:Tb),r=⟨⟨nm,s.cols.map colT⟩,1,[]⟩/\zaa E0 S.AZ [sv nm,s.av,.sl []] [] r.av []:=by
 obtain ⟨out1,q1,q1_1,g1⟩:=zc5 nm s Za 0 ([]) Za Za
 exact ⟨Tb.mk (Sch.mk nm out1) 1 [],(by (rw [List.take_length] at *;subst_vars;rfl)),wkcN At.AZ [] [2,6,7,16,17,18] 3 [(.ob 2 1 Ty.Column,4)] kr (g1 _ (zab (wkr [sqx (True/\out1.length=(List.map Col.cells out1).length/\True/\True/\True),sb q1_1,sb Zf] kr)))⟩
theorem zfq (nm:Str) (s:Sch) (hs:zae s.cols):zaa E0 S.AZ [sv nm,s.av,.sl []] [] (Tb.av ⟨⟨nm,s.cols.map colT⟩,1,[]⟩) []:=by
 obtain ⟨r,rfl,h⟩:=zjw nm s hs
 exact h
theorem ca_dr0:zaa E0 S.AJ [.sl [],.fn S.Bl []] [] (.sl []) []:=zc8 [] (by simp [zae]) (fun _ h=>nomatch h)
theorem ca_drs  (k:zaa E0 S.AJ [.sl [],.fn S.Bl []] [] (.sl []) []):∃ (r:List Rw),r=[]/\zaa E0 S.Cf [.sl []] [] (.sl (r.map Rw.cells)) []:=by
 exact ⟨[],Zr,wk At.Cf [sc k] kr⟩
abbrev zdg (s:Sch):Tb:=⟨⟨⟨#[73,78,83,69,82,84,69,68]⟩,s.cols.map colT⟩,1,[]⟩
theorem ca_tr (s:Sch) (hs:zae s.cols) (k:zaa E0 S.Cf [.sl []] [] (.sl []) []):∃ (r:List Tb),r=[zdg s]/\zaa E0 S.BH [tgX.av,s.av,.agg [sv ⟨#[]⟩,.sl [],.sl [],.sl []]] [] (tsl r) []:=by
 exact ⟨[Tb.mk (Sch.mk ZsI (List.map colT s.cols)) 1 []],Zr,(by (try simp only [zsl,xCol,xLit,xBin,xNeg,Ac.cells,Se.cells,Pr.cells,Ch.cells,Rw.cells]);exact wk At.BH [sqx (1=1),sg Zf,sb Zf,sd [(2,[sc k]),(5,[sc k])],sb Zf,sg Zf,sb Zf,sb Zt,sc (zfq ZsI s Za),sqx (AllLen [[sv ZsI,ZC (List.map colT s.cols),iv 1,AV.sl []]] 4/\Nat.le 72 140737488355328)] kr)⟩
noncomputable def L_cnA (s:Sch) (l:List Tb) (i:Nat):Cfg:=zaj B.Ax 0 [(2,tsl l),(3,.p 0 0),(4,.p 1 0),(15,.sl []),(16,iv (([]:List (List AV)).length:Nat)),(17,iv (i:Nat))] [.box tgX.cells,.box s.cells]
theorem zc3 (s:Sch) (l:List Tb) (i:Nat):True/\∀ R,Good E0 B.Ax [] (L_cnA s l i) R->Good E0 B.Ax [] (L_cnA s l i) R:=⟨trivial,fun _ h=>h⟩
noncomputable def L_cnB (s:Sch) (l:List Tb) (i:Nat):Cfg:=zaj B.Ax 1 [(2,tsl l),(27,.sl []),(28,iv (([]:List (List AV)).length:Nat)),(29,iv (i:Nat))] [.box tgX.cells,.box s.cells]
theorem zc4 (s:Sch) (l:List Tb) (i:Nat):True/\∀ R,Good E0 B.Ax [] (L_cnB s l i) R->Good E0 B.Ax [] (L_cnB s l i) R:=⟨trivial,fun _ h=>h⟩
theorem ca_cn (s:Sch) (l:List Tb) :∃ (r:Int),r=0/\zaa E0 S.Ax [tgX.av,s.av,tsl l] [] (iv r) []:=by
 obtain ⟨q1,g1⟩:=zc3 s l (0)
 obtain ⟨q2,g2⟩:=zc4 s l (0)
 exact ⟨0,Zr,wkc At.Ax [] [2,3,4,15,16,17] 2 kr (g1 _ (zab (wkl [sb Zf] [2,27,28,29] 2 kr (g2 _ (zab (wkr [sb Zf] kr))))))⟩
theorem ca_fr (s:Sch) :∃ (r:List Str),r=[]/\zaa E0 S.BY [tgX.av,s.av,.sl [],.sl []] [] (ssl r) []:=by
 exact ⟨[],Zr,wk At.BY [sb Zt] kr⟩
theorem ca_sc (l:List Tb) :∃ (r:Int),r=0/\zaa E0 S.BV [.sl [],.sl [],tsl l] [] (iv r) []:=by
 exact ⟨0,Zr,wk At.BV [sb Zt] kr⟩
theorem ca_ca (s:Sch) (l:List Tb) :∃ (r:Int),r=0/\zaa E0 S.BI [acAb.av,s.av,.sl [],tsl l] [] (iv r) []:=by
 exact ⟨0,Zr,wk At.BI [sb Zt] kr⟩
noncomputable def L_tcA (s:Sch) (t:Tb) (i:Nat):Cfg:=zaj B.AC 0 [(5,.p 1 0),(8,.sl []),(9,tsl [t,zdg s]),(52,.sl [acAb.cells]),(53,iv (([acAb.cells]:List (List AV)).length:Nat)),(54,iv (i:Nat))] [.box tgX.cells,.box s.cells]
theorem zb6 (s:Sch) (t:Tb) (i:Nat):True/\∀ R,Good E0 B.AC [] (L_tcA s t i) R->Good E0 B.AC [] (L_tcA s t i) R:=⟨trivial,fun _ h=>h⟩
theorem ca_chk (t:Tb) (s:Sch) (k0:zaa E0 S.Bb [tgX.av] [] (bv true) []) (k1:zaa E0 S.BK [tsl [t],sv ⟨#[108,111,103]⟩] [] (.tup [s.av,bv true]) []) (k2:zaa E0 S.Ax [tgX.av,s.av,tsl [t]] [] (iv 0) []) (k3:zaa E0 S.BY [tgX.av,s.av,.sl [],.sl []] [] (.sl []) []) (k4:zaa E0 S.BH [tgX.av,s.av,.agg [sv ⟨#[]⟩,.sl [],.sl [],.sl []]] [] (tsl [zdg s]) []) (k5:zaa E0 S.At [.sl (cc3 [t] [zdg s])] [] (tsl [t,zdg s]) []) (k6:zaa E0 S.BV [.sl [],.sl [],tsl [t,zdg s]] [] (iv 0) []) (k7:zaa E0 S.BI [acAb.av,s.av,.sl [],tsl [t,zdg s]] [] (iv 0) []):∃ (r:Int),r=0/\zaa E0 S.AC [tgX.av,tsl [t]] [] (iv r) []:=by
 obtain ⟨q1,g1⟩:=zb6 s t (0)
 obtain ⟨q2,g2⟩:=zb6 s t (0+1)
 exact ⟨0,Zr,wkc At.AC [sc k0,sb Zf,sc k1,sb Zf,sc k2,sb Zf,sc k3,sc k4,sc k5,sc k6,sb Zf] [5,8,9,52,53,54] 2 kr (g1 _ (zab (wkl [sb Zt,se (xs:=[[iv acAb.kind,sv acAb.table,AV.sl [],AV.sl (zag []),AV.sl [],AV.sl (zad []),sv acAb.text]]) (i:=0) (c:=[iv acAb.kind,sv acAb.table,AV.sl [],AV.sl (zag []),AV.sl [],AV.sl (zad []),sv acAb.text]) (n:=7) ⟨by decide,rfl,rfl⟩,sc k7,sb Zf,si (zar (t:=(↑0:Int)+1) (n:=0+1) Zo Zo)] [5,8,9,52,53,54] 2 kr (g2 _ (zab (wkr [sb Zf] kr))))))⟩
theorem zgc (s:Sch) (hs:zae s.cols) (hn:s.name=⟨#[108,111,103]⟩):zaa E0 S.AC [tgX.av,tsl [T0 s]] [] (iv 0) []:=by
 have k1:=zih [T0 s] ⟨#[108,111,103]⟩ (by simp [zae]) (fun x hx=>by simp only [List.mem_singleton] at hx;subst hx;exact hs)
 have e1:zcn [T0 s] ⟨#[108,111,103]⟩=(s,true):=by
  obtain ⟨n,c⟩:=s
  simp only at hn
  subst hn
  simp [zcn,zeA]
 rw [e1] at k1
 obtain ⟨_,rfl,k2⟩:=ca_cn s [T0 s]
 obtain ⟨_,rfl,k3⟩:=ca_fr s
 obtain ⟨_,rfl,k9⟩:=ca_drs ca_dr0
 obtain ⟨_,rfl,k4⟩:=ca_tr s hs k9
 have k5:=zd1 [T0 s] [zdg s] Zs Zs
 obtain ⟨_,rfl,k6⟩:=ca_sc [T0 s,zdg s]
 obtain ⟨_,rfl,k7⟩:=ca_ca s [T0 s,zdg s]
 obtain ⟨_,rfl,h⟩:=ca_chk (T0 s) s zcd k1 k2 k3 k4 k5 k6 k7
 exact h
noncomputable def L_isO (i:Nat):Cfg:=zaj B.Am 0 [(0,.sl []),(1,iv 0),(2,iv 0),(6,iv (i:Nat))] []
theorem zbv (i:Nat):True/\∀ R,Good E0 B.Am [] (L_isO i) R->Good E0 B.Am [] (L_isO i) R:=⟨trivial,fun _ h=>h⟩
theorem ca_isO  :∃ (r:List AV),r=[]/\zaa E0 S.Am [.sl [],iv 0,iv 0] [] (.tup r) []:=by
 obtain ⟨q1,g1⟩:=zbv (0+1)
 exact ⟨[],Zr,wkc At.Am [si (zar (t:=0+1) (n:=0+1) Zo Zo)] [0,1,2,6] 0 kr (g1 _ (zab (wkrE [sb Zf] kr)))⟩
noncomputable def L_pdO (z:Int):Cfg:=zaj B.Au 0 [(0,.sl []),(1,iv 0),(2,iv 0),(3,iv z),(8,.bl true),(9,.bl true)] []
theorem zbR (z:Int):True/\∀ R,Good E0 B.Au [] (L_pdO z) R->Good E0 B.Au [] (L_pdO z) R:=⟨trivial,fun _ h=>h⟩
theorem ca_pdO (z:Int) (k:zaa E0 S.Am [.sl [],iv 0,iv 0] [] (.tup []) []):∃ (r:List AV),r=[]/\zaa E0 S.Au [.sl [],iv 0,iv 0,iv z] [] (.tup r) []:=by
 obtain ⟨q1,g1⟩:=zbR (z)
 exact ⟨[],Zr,wkc At.Au [] [0,1,2,3,8,9] 0 kr (g1 _ (zab (wkr [si (e:=IntKind.i64.wrap (0 - 0)) rfl,sb Zt,sc k] kr)))⟩
theorem ca_soO  (k:∀ z:Int,zaa E0 S.Au [.sl [],iv 0,iv 0,iv z] [] (.tup []) []):∃ (r:List AV),r=[]/\zaa E0 S.BM [.sl []] [] (.tup r) []:=by
 obtain ⟨r1,c1⟩:=(zeG (([]:List (List AV)).length % ((2:Int) ^ IntKind.u64.bits).natAbs) (by first|assumption|omega|decide))
 exact ⟨[],Zr,wkE At.BM [si (e:=IntKind.u64.wrap (([]:List (List AV)).length:Int)) rfl,sc c1,sc (k r1)] kr⟩
theorem zek:zaa E0 S.BM [.sl []] [] (.tup []) []:=by
 obtain ⟨_,rfl,h⟩:=ca_soO fun z=>by
  obtain ⟨_,rfl,h1⟩:=ca_isO
  obtain ⟨_,rfl,h2⟩:=ca_pdO z h1
  exact h2
 exact h
noncomputable def L_isL (i:Nat):Cfg:=zaj B.Ai 0 [(0,.sl []),(1,iv 0),(2,iv 0),(3,.fn S.Ba []),(8,iv (i:Nat))] []
theorem zbs (i:Nat):True/\∀ R,Good E0 B.Ai [] (L_isL i) R->Good E0 B.Ai [] (L_isL i) R:=⟨trivial,fun _ h=>h⟩
theorem ca_isL  :∃ (r:List AV),r=[]/\zaa E0 S.Ai [.sl [],iv 0,iv 0,.fn S.Ba []] [] (.tup r) []:=by
 obtain ⟨q1,g1⟩:=zbs (0+1)
 exact ⟨[],Zr,wkc At.Ai [si (zar (t:=0+1) (n:=0+1) Zo Zo)] [0,1,2,3,8] 0 kr (g1 _ (zab (wkrE [sb Zf] kr)))⟩
noncomputable def L_pdL (z:Int):Cfg:=zaj B.Ar 0 [(0,.sl []),(1,iv 0),(2,iv 0),(3,iv z),(4,.fn S.Ba []),(10,.bl true),(11,.bl true)] []
theorem zbH (z:Int):True/\∀ R,Good E0 B.Ar [] (L_pdL z) R->Good E0 B.Ar [] (L_pdL z) R:=⟨trivial,fun _ h=>h⟩
theorem ca_pdL (z:Int) (k:zaa E0 S.Ai [.sl [],iv 0,iv 0,.fn S.Ba []] [] (.tup []) []):∃ (r:List AV),r=[]/\zaa E0 S.Ar [.sl [],iv 0,iv 0,iv z,.fn S.Ba []] [] (.tup r) []:=by
 obtain ⟨q1,g1⟩:=zbH (z)
 exact ⟨[],Zr,wkc At.Ar [] [0,1,2,3,4,10,11] 0 kr (g1 _ (zab (wkr [si (e:=IntKind.i64.wrap (0 - 0)) rfl,sb Zt,sc k] kr)))⟩
theorem ca_soL  (k:∀ z:Int,zaa E0 S.Ar [.sl [],iv 0,iv 0,iv z,.fn S.Ba []] [] (.tup []) []):∃ (r:List AV),r=[]/\zaa E0 S.BD [.sl [],.fn S.Ba []] [] (.tup r) []:=by
 obtain ⟨r1,c1⟩:=(zeG (([]:List (List AV)).length % ((2:Int) ^ IntKind.u64.bits).natAbs) (by first|assumption|omega|decide))
 exact ⟨[],Zr,wkE At.BD [si (e:=IntKind.u64.wrap (([]:List (List AV)).length:Int)) rfl,sc c1,sc (k r1)] kr⟩
theorem zdL:zaa E0 S.BD [.sl [],.fn S.Ba []] [] (.tup []) []:=by
 obtain ⟨_,rfl,h⟩:=ca_soL fun z=>by
  obtain ⟨_,rfl,h1⟩:=ca_isL
  obtain ⟨_,rfl,h2⟩:=ca_pdL z h1
  exact h2
 exact h
theorem ca_cmp  :∃ (r:List Str),r=[]/\zaa E0 S.BC [.sl []] [] (ssl r) []:=by
 exact ⟨[],Zr,wk At.BC [sb Zt] kr⟩
theorem zdB:zaa E0 S.BC [.sl []] [] (.sl []) []:=by
 obtain ⟨_,rfl,h⟩:=ca_cmp
 exact h
noncomputable def L_ndA (i:Nat):Cfg:=zaj B.Bv 0 [(3,.nl),(6,.sl []),(7,iv (([]:List (List AV)).length:Nat)),(8,iv (i:Nat))] []
theorem zeo (i:Nat):True/\∀ R,Good E0 B.Bv [] (L_ndA i) R->Good E0 B.Bv [] (L_ndA i) R:=⟨trivial,fun _ h=>h⟩
theorem ca_nd  :∃ (r:List Str),r=[]/\zaa E0 S.Bv [.sl []] [] (ssl r) []:=by
 obtain ⟨q1,g1⟩:=zeo (0)
 exact ⟨[],Zr,wkc At.Bv [] [3,6,7,8] 0 kr (g1 _ (zab (wkr [sb Zf,sc zek,sc zdB] kr)))⟩
theorem zg6:zaa E0 S.Bv [.sl []] [] (.sl []) []:=by
 obtain ⟨_,rfl,h⟩:=ca_nd
 exact h
noncomputable def L_clA (i:Nat):Cfg:=zaj B.Bo 0 [(3,.mp 0),(4,.sl []),(15,.sl []),(16,iv (([]:List (List AV)).length:Nat)),(17,iv (i:Nat))] [.mp []]
theorem zed (i:Nat):True/\∀ R,Good E0 B.Bo [] (L_clA i) R->Good E0 B.Bo [] (L_clA i) R:=⟨trivial,fun _ h=>h⟩
theorem ca_cl  :∃ (es:List (AV × AV)),es=[]/\zaa E0 S.Bo [.sl []] [] (.mp 0) [.mp es]:=by
 obtain ⟨q1,g1⟩:=zed (0)
 exact ⟨[],Zr,wkcK At.Bo [sc zgQ,sc zg6] [3,4,15,16,17] 1 kr (g1 _ (zab (wkrK [sb Zf] kr)))⟩
theorem zgI:zaa E0 S.Bo [.sl []] [] (.mp 0) [.mp []]:=by
 obtain ⟨_,rfl,h⟩:=ca_cl
 exact h
noncomputable def L_adA (a:Str) (i:Nat):Cfg:=zaj B.Bj 0 [(1,sv a),(3,.sl []),(10,.own 0 0),(22,.sl []),(23,iv (([]:List (List AV)).length:Nat)),(24,iv (i:Nat))] [.row Ty.Link [] false]
theorem ze8 (a:Str) (i:Nat):True/\∀ R,Good E0 B.Bj [] (L_adA a i) R->Good E0 B.Bj [] (L_adA a i) R:=⟨trivial,fun _ h=>h⟩
noncomputable def L_adB (a:Str) (i:Nat):Cfg:=zaj B.Bj 1 [(1,sv a),(10,.own 0 0),(35,.sl []),(36,iv (([]:List (List AV)).length:Nat)),(37,iv (i:Nat))] [.row Ty.Link [] false]
theorem ze9 (a:Str) (i:Nat):True/\∀ R,Good E0 B.Bj [] (L_adB a i) R->Good E0 B.Bj [] (L_adB a i) R:=⟨trivial,fun _ h=>h⟩
end Go.AM
namespace Go.AM
noncomputable def L_adM (gi:Nat):Cfg:=zaj B.Bj 2 [(15,.nl),(50,itp gi)] []
theorem zif (a:Str):zaa E0 S.Bj [.sl [],sv a,.sl [],.sl []] [] (.tup [.sl [],iv 0]) []:=by
 obtain ⟨q1,g1⟩:=ze8 a 0
 obtain ⟨q2,g2⟩:=ze9 a 0
 exact wkc At.Bj [sc zdA,sb Zf,sc (zbu [] (by simp [zae]))] [1,3,10,22,23,24] 1 kr (g1 _ (zab (wkl [sb Zf] [1,10,35,36,37] 1 kr (g2 _ (zab (wkRl (es:=[]) (t:=Ty.M_Link_bool) (kt:=Ty.Link) (et:=Ty.bool) [sb Zf,skx (0=0/\True) [] zgI] [15] 1 kr kr fun gm gi=>wkFl [] [15,50] 0 (c':=L_adM gi) kr (zjN (wkN [] kr (fun _=>zm0 (wkr [sc zdL] kr)) (fun j kx x hj=>by simp at hj)))))))))
end Go.AM
namespace Go.Proofs
open Go.Shelf
shelf_lay_g Lays8.n4 Nm8 4 at Tryz 119 as Tryz.growS
end Go.Proofs
namespace Go.AM
open Go.Shelf Go.RowKit Go.Lib
theorem zeh:zaa E0 S.B5 [.nl,iv 0] [] (.own 0 0) [.row Ty.string [] false]:=by
 intro β S w vs r hp
 obtain ⟨hl,hv⟩:=hp
 match vs,hl,hv with
 | [v1,v2],_,hv =>
  have h1:=hv 0 .nl v1 rfl rfl
  have h2:=hv 1 (iv 0) v2 rfl rfl
  obtain ⟨a,rfl⟩:∃ a,v1=.slice a 0 0:=by
   cases h1 with
   | d _ _ h=>cases h
   | nl a=>exact ⟨a,rfl⟩
  obtain rfl:v2=.int .i64 0:=by
   cases h2 with
   | d _ _ h=>cases h with|v _ _=>rfl
  refine .inl ⟨⟨_,At.B5,by kernel_rfl,by kernel_rfl⟩,?_⟩
  have hb0:β.length=0:=r.len
  have hβ:β=[]:=List.length_eq_zero_iff.1 hb0
  subst hβ
  have hc:=Go.Proofs.Any8.slices_Grow_room Go.Proofs.Tryz.growS a 0 0 0 w (Nat.le_refl _) Zo Zo Zo
  refine Calls.mono (P:=E0.P) hc ?_
  rintro e w' ⟨rfl,rfl⟩
  obtain ⟨x,r'⟩:=r.newRow Ty.string [] false (.nil a) (BelowD.refl _ _) (fun g hg=>by cases hg) rfl
  exact ⟨_,_,_,_,_,rfl,⟨rfl,rfl⟩,r',x,.own 0 0 _ Ty.string [] false rfl (Nat.le_refl _) (fun _=>rfl) rfl⟩
end Go.AM
namespace Go.AM
noncomputable def L_dlh (i:Nat):Cfg:=zaj B.Ad 0 [(1,.fn S.AP []),(5,.own 0 0),(8,.sl []),(9,iv (([]:List (List AV)).length:Nat)),(10,iv (i:Nat))] [.row Ty.Trigger [] false]
theorem zcy (i:Nat):True/\∀ R,Good E0 B.Ad [] (L_dlh i) R->Good E0 B.Ad [] (L_dlh i) R:=⟨trivial,fun _ h=>h⟩
theorem ca_dlh  :∃ (n:Nat),n=0/\zaa E0 S.Ad [.sl [],.fn S.AP []] [] (.own 0 n) [.row Ty.Trigger [] false]:=by
 obtain ⟨q1,g1⟩:=zcy (0)
 exact ⟨0,Zr,zl4 At.Ad [] [1,5,8,9,10] 0 [(.ot 5 Ty.Trigger,1)] kr (g1 _ (zab (wkrK [sb Zf] kr)))⟩
abbrev dsT (l:List Tb):Heap:=[.box [tsl l,.sl [],.sl []],.box [.own 2 l.length,.own 3 0,.own 4 0],.row Ty.Table (l.map Tb.cells) false,.row Ty.Trigger [] false,.row Ty.Link [] false]
theorem ca_dst (l:List Tb) (hl:zae l) (hd:zaa E0 S.BF [tsl l] [] (.own 0 l.length) [.row Ty.Table (l.map Tb.cells) false]) (ht:zaa E0 S.Ad [.sl [],.fn S.AP []] [] (.own 0 0) [.row Ty.Trigger [] false]) (hc:zaa E0 S.Aw [.sl []] [] (.own 0 0) [.row Ty.Link [] false]):∃ (n:Nat),n=l.length/\zaa E0 S.A5 [stv l] [] (.agg [.own 2 n,.own 3 0,.own 4 0]) (dsT l):=by
 exact ⟨l.length,Zr,wkK At.A5 [sd [(2,[sc hd]),(5,[sc ht]),(8,[sc hc])]] kr⟩
theorem zhx (l:List Tb) (hl:zae l) (hn:NoRows l):zaa E0 S.A5 [stv l] [] (.agg [.own 2 l.length,.own 3 0,.own 4 0]) (dsT l):=by
 obtain ⟨_,rfl,h1⟩:=ca_dlh
 obtain ⟨r,rfl,h⟩:=ca_dst l hl (zcb l hl hn.deep) h1 (zbu [] (by simp [zae]))
 exact h
theorem ca_inT  :∃ (n:Nat),n=1/\zaa E0 S.BB [.own 0 0,iv 0,.sl [tgX.cells]] [.row Ty.Trigger [] false] (.own 0 n) [.row Ty.Trigger [tgX.cells] false]:=by
 exact ⟨1,Zr,wkK At.BB [sqx (OwnCut [] 0 0 0 (↑0:Int)),sb Zf,sqx (0=0),sb Zt,sqx (AllLen [[sv tgX.name,sv tgX.table,bv tgX.before,iv tgX.event,AV.sl [],bv tgX.each,AV.sl [],AV.sl [],AV.sl [],AV.sl (zad []),AV.sl [[iv acAb.kind,sv acAb.table,AV.sl [],AV.sl (zag []),AV.sl [],AV.sl (zad []),sv acAb.text]]]] 11/\0=0/\Nat.le 200 140737488355328)] kr⟩
theorem zej:zaa E0 S.BB [.own 0 0,iv 0,.sl [tgX.cells]] [.row Ty.Trigger [] false] (.own 0 1) [.row Ty.Trigger [tgX.cells] false]:=by
 obtain ⟨_,rfl,h⟩:=ca_inT
 exact h
theorem ca_ixF (nm:Str) :∃ (r:Int),r=-1/\zaa E0 S.Ac [.sl [],.fn S.Ca [.p 0 0]] [.box [sv nm]] (iv r) [.box [sv nm]]:=by
 obtain ⟨q1,g1⟩:=zbc nm 0 (53)
 exact ⟨-1,Zr,wkc At.Ac [] [0,1,7,8] 1 kr (g1 _ (zab (wkr [sb Zf] kr)))⟩
theorem ca_fi (nm:Str) (hx:zaa E0 S.Ac [.sl [],.fn S.Ca [.p 0 0]] [.box [sv nm]] (iv (-1)) [.box [sv nm]]):∃ (r:Int),r=-1/\zaa E0 S.BU [.sl [],sv nm] [] (iv r) []:=by
 exact ⟨-1,Zr,wk At.BU [sl [0] hx] kr⟩
theorem zgG (nm:Str):zaa E0 S.BU [.sl [],sv nm] [] (iv (-1)) []:=by
 obtain ⟨_,rfl,h1⟩:=ca_ixF nm
 obtain ⟨_,rfl,h⟩:=ca_fi nm h1
 exact h
abbrev cce:List (List AV):=[[.sl []],[.sl []]]
noncomputable def L_csA (i:Nat):Cfg:=zaj B.Aq 0 [(0,.sl cce),(3,iv 0),(9,.sl cce),(10,iv (cce.length:Nat)),(11,iv (i:Nat))] []
theorem zaU (i:Nat):True/\∀ R,Good E0 B.Aq [] (L_csA i) R->Good E0 B.Aq [] (L_csA i) R:=⟨trivial,fun _ h=>h⟩
noncomputable def L_csB (i:Nat):Cfg:=zaj B.Aq 1 [(6,.own 0 0),(25,.sl cce),(26,iv (cce.length:Nat)),(27,iv (i:Nat))] [.row Ty.string [] false]
theorem zaV (i:Nat):True/\∀ R,Good E0 B.Aq [] (L_csB i) R->Good E0 B.Aq [] (L_csB i) R:=⟨trivial,fun _ h=>h⟩
theorem ca_cs  :∃ (r:List Str),r=[]/\zaa E0 S.Aq [.sl cce] [] (ssl r) []:=by
 obtain ⟨q1,g1⟩:=zaU (0)
 obtain ⟨q2,g2⟩:=zaU (0+1)
 obtain ⟨q3,g3⟩:=zaU (0+1+1)
 obtain ⟨q4,g4⟩:=zaV (0)
 obtain ⟨q5,g5⟩:=zaV (0+1)
 obtain ⟨q6,g6⟩:=zaV (0+1+1)
 exact ⟨[],Zr,wkc At.Aq [] [0,3,9,10,11] 0 kr (g1 _ (zab (wkl [sb Zt,se (xs:=[[AV.sl []],[AV.sl []]]) (i:=0) (c:=[AV.sl []]) (n:=1) ⟨by decide,rfl,rfl⟩,si (e:=IntKind.i64.wrap (0+(([]:List (List AV)).length:Int))) rfl,sb Zf,si (zar (t:=(↑0:Int)+1) (n:=0+1) Zo Zo)] [0,3,9,10,11] 0 kr (g2 _ (zab (wkl [sb Zt,se (zho ([AV.sl []]) ([AV.sl []]) (by first|assumption|omega|(simp;done)|(simp;omega))),si (e:=IntKind.i64.wrap (0+(([]:List (List AV)).length:Int))) rfl,sb Zf,si (zar (t:=(↑(0+1):Int)+1) (n:=0+1+1) Zo Zo)] [0,3,9,10,11] 0 kr (g3 _ (zab (wkl [sb Zf,sln [] zeh] [6,25,26,27] 1 kr (g4 _ (zab (wkl [sb Zt,se (xs:=[[AV.sl []],[AV.sl []]]) (i:=0) (c:=[AV.sl []]) (n:=1) ⟨by decide,rfl,rfl⟩,sqx (AllLen [] 1/\0=0/\Nat.le 0 140737488355328),si (zar (t:=(↑0:Int)+1) (n:=0+1) Zo Zo)] [6,25,26,27] 1 kr (g5 _ (zab (wkl [sb Zt,se (zho ([AV.sl []]) ([AV.sl []]) (by first|assumption|omega|(simp;done)|(simp;omega))),sqx (AllLen [] 1/\0=0/\Nat.le 0 140737488355328),si (zar (t:=(↑(0+1):Int)+1) (n:=0+1+1) Zo Zo)] [6,25,26,27] 1 kr (g6 _ (zab (wkr [sqx (0=0),sb Zf] kr))))))))))))))))))⟩
theorem zdJ:zaa E0 S.Aq [.sl cce] [] (.sl []) []:=by
 obtain ⟨_,rfl,h⟩:=ca_cs
 exact h
noncomputable def L_rfA (l:List Tb) (i:Nat):Cfg:=zaj B.A2 0 [(2,.p 0 0),(41,.sl []),(42,iv (([]:List (List AV)).length:Nat)),(43,iv (i:Nat))] [.box [tsl l,.sl [],.sl []],.box tgX.cells]
theorem zdu (l:List Tb) (i:Nat):True/\∀ R,Good E0 B.A2 [] (L_rfA l i) R->Good E0 B.A2 [] (L_rfA l i) R:=⟨trivial,fun _ h=>h⟩
theorem ca_ref (l:List Tb) (hv:zaa E0 S.Bb [tgX.av] [] (bv true) []) (k:zaa E0 S.Al [stv l] [] (bv true) []) (k2:zaa E0 S.BU [.sl [],sv ⟨#[97]⟩] [] (iv (-1)) []) (k3:zaa E0 S.AC [tgX.av,tsl l] [] (iv 0) []) (k4:zaa E0 S.Aq [.sl cce] [] (.sl []) []):∃ (r:Int),r=0/\zaa E0 S.A2 [stv l,tgX.av] [] (iv r) []:=by
 obtain ⟨q1,g1⟩:=zdu l (0)
 exact ⟨0,Zr,wkc At.A2 [sc k,sg Zf,sc hv,sb Zf,sc k2,sb Zf,sb Zf,sc k3,sb Zf,sc k4] [2,41,42,43] 2 kr (g1 _ (zab (wkr [sb Zf] kr)))⟩
theorem zfo (l:List Tb) (hv:StV l) (hc:zaa E0 S.AC [tgX.av,tsl l] [] (iv 0) []):zaa E0 S.A2 [stv l,tgX.av] [] (iv 0) []:=by
 obtain ⟨_,rfl,h⟩:=ca_ref l zcd (zba l hv) (zgG _) hc zdJ
 exact h
abbrev stx (l:List Tb):AV:=.agg [tsl l,.sl [tgX.cells],.sl []]
abbrev sLg:Str:=⟨#[108,111,103]⟩
noncomputable def L_ctA (l:List Tb) (i:Nat):Cfg:=zaj B.Az 0 [(3,.p 1 0),(4,.p 2 0),(5,.p 3 0),(7,.sl []),(9,.p 9 0),(10,iv (i:Nat))] [.box [tsl l,.sl [],.sl []],.box tgX.cells,.box [.nl,.nl,.nl],.box [iv 0,.nl],.box [tsl l,.sl [],.sl []],.box [.own 6 l.length,.own 7 0,.own 8 0],.row Ty.Table (l.map Tb.cells) false,.row Ty.Trigger [] false,.row Ty.Link [] false,.box [.own 6 l.length,.own 7 0,.own 8 0]]
theorem zcv (l:List Tb) (i:Nat):True/\∀ R,Good E0 B.Az [] (L_ctA l i) R->Good E0 B.Az [] (L_ctA l i) R:=⟨trivial,fun _ h=>h⟩
theorem ca_ct (l:List Tb) (k:zaa E0 S.A2 [stv l,tgX.av] [] (iv 0) []) (k1:zaa E0 S.Bj [.sl [],sv ⟨#[97]⟩,.sl [],.sl []] [] (.tup [.sl [],iv 0]) []) (k2:zaa E0 S.A5 [stv l] [] (.agg [.own 2 l.length,.own 3 0,.own 4 0]) (dsT l)) (k3:zaa E0 S.AP [tgX.av] [] tgX.av []):∃ (c:Int),c=0/\zaa E0 S.Az [stv l,tgX.av] [] (.tup [stx l,.agg [iv c,.sl []]]) []:=by
 obtain ⟨q1,g1⟩:=zcv l (0)
 exact ⟨0,Zr,wkc At.Az [sc k,sb Zf,sc k1,sb Zf,sc k2] [3,4,5,7,9,10] 10 kr (g1 _ (zab (wkr [sqx ((l.length=(List.map Tb.cells l).length/\1=1/\True/\True)/\(True/\True/\True)/\True),sd [(3,[sqx (0=0)]),(6,[sb Zf]),(7,[sb Zf]),(8,[sb Zf]),(9,[sb Zf]),(10,[sb Zf]),(11,[sb Zf]),(12,[sb Zf]),(13,[sb Zf]),(14,[sb Zf]),(15,[sb Zf])],sd [(4,[sc k3]),(6,[sl [7] zej])],skx (l.length=(List.map Tb.cells l).length/\1=1/\True/\True) [] (zdp l),sb Zf,sdm [] 0 [(3,AV.p 1 0),(4,AV.p 2 0),(5,AV.p 3 0),(7,AV.sl []),(9,AV.p 9 0),(10,iv (↑0:Int)),(11,AV.p 10 0),(39,iv (↑0:Int)),(40,AV.p 9 1),(41,AV.own 7 0),(42,iv (↑0:Int)),(43,bv (decide ((↑0:Int) < (↑0:Int)))),(44,bv (decide ((↑0:Int) < (↑0:Int)))),(45,AV.tup []),(46,AV.tup []),(47,AV.tup []),(48,AV.tup []),(49,AV.tup []),(50,AV.tup []),(51,AV.tup []),(52,AV.tup []),(53,AV.tup []),(54,AV.bl false),(57,AV.p 9 1),(58,AV.own 7 0),(59,iv (↑0:Int)),(60,AV.agg [sv tgX.name,sv tgX.table,bv tgX.before,iv tgX.event,AV.sl [],bv tgX.each,AV.sl [],AV.sl [],AV.sl [],AV.sl (zad []),AV.sl [[iv acAb.kind,sv acAb.table,AV.sl [],AV.sl (zag []),AV.sl [],AV.sl (zad []),sv acAb.text]]]),(61,AV.agg [sv tgX.name,sv tgX.table,bv tgX.before,iv tgX.event,AV.sl [],bv tgX.each,AV.sl [],AV.sl [],AV.sl [],AV.sl (zad []),AV.sl [[iv acAb.kind,sv acAb.table,AV.sl [],AV.sl (zag []),AV.sl [],AV.sl (zad []),sv acAb.text]]]),(62,AV.sl [[sv tgX.name,sv tgX.table,bv tgX.before,iv tgX.event,AV.sl [],bv tgX.each,AV.sl [],AV.sl [],AV.sl [],AV.sl (zad []),AV.sl [[iv acAb.kind,sv acAb.table,AV.sl [],AV.sl (zag []),AV.sl [],AV.sl (zad []),sv acAb.text]]]]),(63,AV.own 7 1),(64,AV.p 9 1),(65,AV.sl []),(66,AV.p 9 2),(67,AV.p 9 0),(68,AV.own 6 l.length),(69,AV.p 9 1),(70,AV.own 7 1),(71,AV.p 9 2),(72,AV.sl []),(73,AV.agg [iv 0,AV.sl []]),(74,AV.p 10 0),(75,iv 0),(76,AV.bl false),(79,AV.agg [AV.own 6 l.length,AV.own 7 1,AV.sl []]),(80,AV.agg [iv 0,AV.sl []])] [Blk.box [tsl l,AV.sl [],AV.sl []],Blk.box [sv tgX.name,sv tgX.table,bv tgX.before,iv tgX.event,AV.sl [],bv tgX.each,AV.sl [],AV.sl [],AV.sl [],AV.sl (zad []),AV.sl [[iv acAb.kind,sv acAb.table,AV.sl [],AV.sl (zag []),AV.sl [],AV.sl (zad []),sv acAb.text]]],Blk.box [AV.own 6 l.length,AV.own 7 1,AV.sl []],Blk.box [iv 0,AV.sl []],Blk.box [tsl l,AV.sl [],AV.sl []],Blk.box [AV.own 6 l.length,AV.own 7 0,AV.own 8 0],Blk.row Ty.Table (List.map Tb.cells l) true,Blk.row Ty.Trigger [[sv tgX.name,sv tgX.table,bv tgX.before,iv tgX.event,AV.sl [],bv tgX.each,AV.sl [],AV.sl [],AV.sl [],AV.sl (zad []),AV.sl [[iv acAb.kind,sv acAb.table,AV.sl [],AV.sl (zag []),AV.sl [],AV.sl (zad []),sv acAb.text]]]] true,Blk.row Ty.Link [] false,Blk.box [AV.own 6 l.length,AV.own 7 1,AV.sl []],Blk.box [iv 0,AV.sl []]]] kr)))⟩
theorem znu:AcSh 1 acAb:=by
 constructor <;> simp [zae]
theorem tgX_sh:TgSh 1 tgX:=by
 refine ⟨by simp [zae],by simp [zae],by simp [zae],by simp [zae],by simp [zae],(fun _ h=>nomatch h),by simp [zae],(fun a ha=>?_)⟩
 rw [List.mem_singleton] at ha
 subst ha
 exact znu
theorem zdx (l:List Tb) (hv:StV l) (hn:NoRows l) (hc:zaa E0 S.AC [tgX.av,tsl l] [] (iv 0) []):zaa E0 S.Az [stv l,tgX.av] [] (.tup [stx l,.agg [iv 0,.sl []]]) []:=by
 obtain ⟨_,rfl,h⟩:=ca_ct l (zfo l hv hc) (zif _) (zhx l hv.short hn) (zie 1 tgX tgX_sh)
 exact h
noncomputable def L_vtX (l:List Tb) (i:Nat):Cfg:=zaj B.Ah 0 [(1,.p 0 0),(10,.sl [tgX.cells]),(11,iv (([tgX.cells]:List (List AV)).length:Nat)),(12,iv (i:Nat))] [.box [tsl l,.sl [tgX.cells],.sl []]]
theorem zbn (l:List Tb) (i:Nat):True/\∀ R,Good E0 B.Ah [] (L_vtX l i) R->Good E0 B.Ah [] (L_vtX l i) R:=⟨trivial,fun _ h=>h⟩
theorem ca_vtX (l:List Tb) (k:zaa E0 S.AC [tgX.av,tsl l] [] (iv 0) []):∃ (r:Bool),r=true/\zaa E0 S.Ah [stx l] [] (bv r) []:=by
 obtain ⟨q1,g1⟩:=zbn l (0)
 obtain ⟨q2,g2⟩:=zbn l (0+1)
 exact ⟨true,Zr,wkc At.Ah [sb Zf] [1,10,11,12] 1 kr (g1 _ (zab (wkl [sb Zt,se (xs:=[[sv tgX.name,sv tgX.table,bv tgX.before,iv tgX.event,AV.sl [],bv tgX.each,AV.sl [],AV.sl [],AV.sl [],AV.sl (zad []),AV.sl [[iv acAb.kind,sv acAb.table,AV.sl [],AV.sl (zag []),AV.sl [],AV.sl (zad []),sv acAb.text]]]]) (i:=0) (c:=[sv tgX.name,sv tgX.table,bv tgX.before,iv tgX.event,AV.sl [],bv tgX.each,AV.sl [],AV.sl [],AV.sl [],AV.sl (zad []),AV.sl [[iv acAb.kind,sv acAb.table,AV.sl [],AV.sl (zag []),AV.sl [],AV.sl (zad []),sv acAb.text]]]) (n:=11) ⟨by decide,rfl,rfl⟩,sd [(3,[sb Zf]),(4,[sb Zf]),(5,[sb Zf]),(6,[sb Zf]),(7,[sb Zf]),(8,[sb Zf]),(9,[sb Zf]),(10,[sb Zf]),(11,[sb Zf]),(12,[sb Zf]),(13,[sb Zf]),(18,[sc k])],sb Zf,si (zar (t:=(↑0:Int)+1) (n:=0+1) Zo Zo)] [1,10,11,12] 1 kr (g2 _ (zab (wkr [sb Zf] kr))))))⟩
noncomputable def L_cvX (l:List Tb) (i:Nat):Cfg:=zaj B.Al 0 [(1,.p 0 0),(21,.sl []),(22,iv (([]:List (List AV)).length:Nat)),(23,iv (i:Nat))] [.box [tsl l,.sl [tgX.cells],.sl []]]
theorem zdO (l:List Tb) (i:Nat):True/\∀ R,Good E0 B.Al [] (L_cvX l i) R->Good E0 B.Al [] (L_cvX l i) R:=⟨trivial,fun _ h=>h⟩
theorem ca_cvX (l:List Tb) (hv:zaa E0 S.A0 [tsl l] [] (bv true) []) (ht:zaa E0 S.Ah [stx l] [] (bv true) []):∃ (r:Bool),r=true/\zaa E0 S.Al [stx l] [] (bv r) []:=by
 obtain ⟨q1,g1⟩:=zdO l (0)
 exact ⟨(0:Int)==(0:Int),Zr,wkc At.Al [sc hv,sg Zf,sc ht,sg Zf,sc zdA,sb Zf] [1,21,22,23] 1 kr (g1 _ (zab (wkr [sb Zf,sc (zdp l),sqx (some 32=some 32)] kr)))⟩
theorem zdq (l:List Tb) (hv:StV l) (hc:zaa E0 S.AC [tgX.av,tsl l] [] (iv 0) []):zaa E0 S.Al [stx l] [] (bv true) []:=by
 obtain ⟨_,rfl,h1⟩:=ca_vtX l hc
 obtain ⟨_,rfl,h⟩:=ca_cvX l (zbP l hv) h1
 exact h
theorem ca_men  :∃ (r:Bool),r=true/\zaa E0 S.BQ [tgX.av,sv sLg] [] (bv r) []:=by
 exact ⟨true,Zr,wk At.BQ [sb Zt] kr⟩
theorem ca_dc1  (k:zaa E0 S.BQ [tgX.av,sv sLg] [] (bv true) []):∃ (r:Bool),r=true/\zaa E0 S.Aj [tgX.av,.p 0 0] [.box [sv sLg]] (bv r) [.box [sv sLg]]:=by
 exact ⟨true,Zr,wk At.Aj [sc k] kr⟩
noncomputable def L_ixX (i:Nat):Cfg:=zaj B.Ac 0 [(0,.sl [tgX.cells]),(1,.fn S.Aj [.p 0 0]),(7,iv (([tgX.cells]:List (List AV)).length:Nat)),(8,iv (i:Nat))] [.box [sv sLg]]
theorem zci (i:Nat):True/\∀ R,Good E0 B.Ac [.box [sv sLg]] (L_ixX i) R->Good E0 B.Ac [.box [sv sLg]] (L_ixX i) R:=⟨trivial,fun _ h=>h⟩
theorem ca_ixX  (k:zaa E0 S.Aj [tgX.av,.p 0 0] [.box [sv sLg]] (bv true) [.box [sv sLg]]):∃ (r:Int),r=0/\zaa E0 S.Ac [.sl [tgX.cells],.fn S.Aj [.p 0 0]] [.box [sv sLg]] (iv r) [.box [sv sLg]]:=by
 obtain ⟨q1,g1⟩:=zci (0)
 exact ⟨(↑0:Int),Zr,wkc At.Ac [] [0,1,7,8] 1 kr (g1 _ (zab (wkr [sb Zt,se (xs:=[[sv tgX.name,sv tgX.table,bv tgX.before,iv tgX.event,AV.sl [],bv tgX.each,AV.sl [],AV.sl [],AV.sl [],AV.sl (zad []),AV.sl [[iv acAb.kind,sv acAb.table,AV.sl [],AV.sl (zag []),AV.sl [],AV.sl (zad []),sv acAb.text]]]]) (i:=0) (c:=[sv tgX.name,sv tgX.table,bv tgX.before,iv tgX.event,AV.sl [],bv tgX.each,AV.sl [],AV.sl [],AV.sl [],AV.sl (zad []),AV.sl [[iv acAb.kind,sv acAb.table,AV.sl [],AV.sl (zag []),AV.sl [],AV.sl (zad []),sv acAb.text]]]) (n:=11) ⟨by decide,rfl,rfl⟩,sl [0] k,sb Zt] kr)))⟩
theorem ca_cnX  (hx:zaa E0 S.Ac [.sl [tgX.cells],.fn S.Aj [.p 0 0]] [.box [sv sLg]] (iv 0) [.box [sv sLg]]):∃ (r:Bool),r=true/\zaa E0 S.Av [.sl [tgX.cells],.fn S.Aj [.p 0 0]] [.box [sv sLg]] (bv r) [.box [sv sLg]]:=by
 exact ⟨decide ((0:Int)<=(0:Int)),Zr,wk At.Av [sl [0] hx] kr⟩
theorem ca_dtX (l:List Tb) (p:Nat) (k:zaa E0 S.Al [stx l] [] (bv true) []) (k3:zaa E0 S.Bn [tsl l,sv sLg] [] (iv (p:Nat)) []) (hc:zaa E0 S.Av [.sl [tgX.cells],.fn S.Aj [.p 0 0]] [.box [sv sLg]] (bv true) [.box [sv sLg]]):∃ (c:Int),c=16/\zaa E0 S.AI [stx l,sv sLg] [] (.tup [.agg [.sl [],.sl [],.sl []],iv c]) []:=by
 exact ⟨16,Zr,wk At.AI [sc k,sb Zf,sc k3,sb Zf,sl [1] hc,sb Zt] kr⟩
theorem zeK (l:List Tb) (p:Nat) (hv:StV l) (hc:zaa E0 S.AC [tgX.av,tsl l] [] (iv 0) []) (hf:zaa E0 S.Bn [tsl l,sv sLg] [] (iv (p:Nat)) []):zaa E0 S.AI [stx l,sv sLg] [] (.tup [.agg [.sl [],.sl [],.sl []],iv 16]) []:=by
 obtain ⟨_,rfl,h1⟩:=ca_men
 obtain ⟨_,rfl,h2⟩:=ca_dc1 h1
 obtain ⟨_,rfl,h3⟩:=ca_ixX h2
 obtain ⟨_,rfl,h4⟩:=ca_cnX h3
 obtain ⟨_,rfl,h⟩:=ca_dtX l p (zdq l hv hc) hf h4
 exact h
theorem ca_inE (xs:List Tb) (n:Nat) (t:Tb) (hn:n=xs.length) (hs:n<=6) (e:(((n:Nat):Int)==((n:Nat):Int))=true):∃ (m:Nat),m=n+1/\zaa E0 S.A3 [.own 0 n,iv n,.sl [t.cells]] [.row Ty.Table (xs.map Tb.cells) false] (.own 0 m) [.row Ty.Table (xs.map Tb.cells++[t.cells]) false]:=by
 exact ⟨(List.map Tb.cells xs++[[sv t.sch.name,ZC t.sch.cols,iv t.next,ZW t.rows]]).length,(by (simp [hn];done)),(by (try simp only [zsl,xCol,xLit,xBin,xNeg,Ac.cells,Se.cells,Pr.cells,Ch.cells,Rw.cells]);exact wkK At.A3 [sqx (OwnCut (List.map Tb.cells xs) n 0 (n:Int) (n:Int)),sb Zf,sqx (n=(List.map Tb.cells xs).length),sb e,sqA (List.map Tb.cells xs) [[sv t.sch.name,ZC t.sch.cols,iv t.next,ZW t.rows]] n 4 72] kr)⟩
abbrev zaO {α:Type} (l:List α) (p:Nat) (x:α):List α:=l.take p++x::l.drop p
def InsM:Prop:=∀ (xs:List Tb) (i:Nat) (t:Tb),i < xs.length->xs.length<=6->zaa E0 S.A3 [.own 0 xs.length,iv (i:Nat),.sl [t.cells]] [.row Ty.Table (xs.map Tb.cells) false] (.own 0 (xs.length+1)) [.row Ty.Table ((zaO xs i t).map Tb.cells) false]
theorem ze0 (hI:InsM) (xs:List Tb) (i:Nat) (t:Tb) (hi:i<=xs.length) (hs:xs.length<=6):zaa E0 S.A3 [.own 0 xs.length,iv (i:Nat),.sl [t.cells]] [.row Ty.Table (xs.map Tb.cells) false] (.own 0 (xs.length+1)) [.row Ty.Table ((zaO xs i t).map Tb.cells) false]:=by
 rcases Nat.lt_or_eq_of_le hi with h|h
 ·exact hI xs i t h hs
 ·subst h
  obtain ⟨m,rfl,h⟩:=ca_inE xs xs.length t rfl hs Zs
  have e1:(zaO xs xs.length t).map Tb.cells=xs.map Tb.cells++[t.cells]:=by simp [zaO]
  rw [e1];exact h
theorem zgl {α:Type} {l:List α} {p:Nat} {x:α} (hp:p<=l.length):(zaO l p x).length=l.length+1:=by
 simp only [zaO,List.length_append,List.length_cons,List.length_take,List.length_drop];omega
theorem ca_put (l m:List Tb) (s:Sch) (p:Nat) (hl:zae l) (k1:zaa E0 S.Bi [tsl l] [] (.own 0 l.length) [.row Ty.Table (l.map Tb.cells) false]) (k2:zaa E0 S.Aa [.own 0 l.length,sv s.name,.fn S.Ak []] [.row Ty.Table (l.map Tb.cells) false] (.tup [iv p,bv false]) [.row Ty.Table (l.map Tb.cells) false]) (k3:zaa E0 S.AQ [(T0 s).av] [] (T0 s).av []) (k4:zaa E0 S.A3 [.own 0 l.length,iv p,.sl [(T0 s).cells]] [.row Ty.Table (l.map Tb.cells) false] (.own 0 m.length) [.row Ty.Table (m.map Tb.cells) false]) (k5:zaa E0 S.A0 [tsl l] [] (bv true) []) (k6:zaa E0 S.A0 [tsl m] [] (bv true) []):∃ (b:Bool),b=true/\zaa E0 S.B9 [tsl l,(T0 s).av] [] (.tup [tsl m,bv b]) []:=by
 exact ⟨true,Zr,wk At.B9 [sqx (m.length=(List.map Tb.cells m).length/\True/\True),sc k1,sl [1] k2,sb Zf,sc k3,sl [1] k4,sc k5,sg Zf,skx (m.length=(List.map Tb.cells m).length/\True) [] k6,sb Zf] kr⟩
abbrev BsC (l:List Tb) (n:Str) (p:Nat):Prop:=zaa E0 S.Aa [.own 0 l.length,sv n,.fn S.Ak []] [.row Ty.Table (l.map Tb.cells) false] (.tup [iv (p:Nat),bv false]) [.row Ty.Table (l.map Tb.cells) false]
theorem zkA (hI:InsM) (l:List Tb) (s:Sch) (p:Nat) (hp:p<=l.length) (hb:BsC l s.name p) (hn:NoRows l) (hs:zae s.cols) (hv:StV l) (hw:StV (zaO l p (T0 s))):zaa E0 S.B9 [tsl l,(T0 s).av] [] (.tup [tsl (zaO l p (T0 s)),bv true]) []:=by
 have h4:=ze0 hI l p (T0 s) hp hv.len
 rw [← zgl (x:=T0 s) hp] at h4
 obtain ⟨_,rfl,h⟩:=ca_put l (zaO l p (T0 s)) s p hv.short (zfW l hv.short hn.copied) hb (ze1 s hs) h4 (zbP l hv) (zbP _ hw)
 exact h
theorem zi1 (hI:InsM) (l:List Tb) (s:Sch) (p:Nat) (hp:p<=l.length) (hb:BsC l s.name p) (hn:NoRows l) (hs:SchV s) (hv:StV l) (hw:StV (zaO l p (T0 s))) (hf:idxF (fun t=>zaC t s.name) l 0=-1) (h6:l.length < 6):zaa E0 S.Ab [stv l,s.av] [] (.tup [stv (zaO l p (T0 s)),iv 0]) []:=by
 have k3:=zcc l s.name hv.short
 rw [hf] at k3
 obtain ⟨_,rfl,h⟩:=ca_ctO l (zaO l p (T0 s)) s (zba l hv) (zbi s hs) k3 Zp (zkB s hs) (zhw l hv.short hn) (zkA hI l s p hp hb hn hs.short hv hw)
 exact h
theorem zg2 (l:List Tb) (s:Sch) (p:Nat) (hs:SchV s) (hv:StV l) (hf:idxF (fun t=>zaC t s.name) l 0=((p:Nat):Int)):zaa E0 S.Ab [stv l,s.av] [] (.tup [stv [],iv 4]) []:=by
 have k3:=zcc l s.name hv.short
 rw [hf] at k3
 obtain ⟨_,rfl,h⟩:=ca_ctE l s p (zba l hv) (zbi s hs) k3
 exact h
theorem zg3 (l:List Tb) (s:Sch) (hs:SchV s) (hv:StV l) (hf:idxF (fun t=>zaC t s.name) l 0=-1) (h6:l.length=6):zaa E0 S.Ab [stv l,s.av] [] (.tup [stv [],iv 10]) []:=by
 have k3:=zcc l s.name hv.short
 rw [hf] at k3
 obtain ⟨_,rfl,h⟩:=ca_ctL l s (zba l hv) (zbi s hs) k3 (by simp [h6])
 exact h
theorem zb2 (l:List Tb) (nm:Str) (p:Nat) (hp:p < l.length) (hn:NoRows l) (hv:StV l) (hf:idxF (fun t=>zaC t nm) l 0=((p:Nat):Int)):zaa E0 S.AI [stv l,sv nm] [] (.tup [stv (l.eraseIdx p),iv 0]) []:=by
 have k3:=zcc l nm hv.short
 rw [hf] at k3
 have h6:=hv.len
 obtain ⟨m,ys,⟨rfl,hy,hl⟩,hd⟩:=ca_del l l.length p Zs Zo h6 Zp
 obtain ⟨_,rfl,h⟩:=znz l p (l.length - 1) nm ys Zo hl.symm (zcE nm) (zba l hv) k3 (zgH l hv.short hn) hd
 rw [hy] at h
 have e:(l.map Tb.cells).eraseIdx p=(l.eraseIdx p).map Tb.cells:=by
  rw [List.eraseIdx_eq_take_drop_succ,List.eraseIdx_eq_take_drop_succ,List.map_append,List.map_take,List.map_drop]
 rw [e] at h
 exact h
end Go.AM
