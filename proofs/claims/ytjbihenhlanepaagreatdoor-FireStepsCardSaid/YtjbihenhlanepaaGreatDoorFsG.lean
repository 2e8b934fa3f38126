/-
  Contracts of the program's functions, part 6.
-/
import Derived.Test.YtjbihenhlanepaaGreatDoorFsF
import Derived.Carry
import Derived.ChangeSame
import Derived.Lib.LaidU8
import Derived.FnData
set_option linter.unusedSimpArgs false
set_option linter.unusedVariables false
namespace Go.AM
set_option maxRecDepth 100000
set_option maxHeartbeats 1000000
set_option linter.unusedSimpArgs false
set_option linter.unusedVariables false
abbrev dlN (row:List V):Dl:=⟨sUu,[⟨1,row⟩],[],[]⟩
abbrev itN (row:List V):Itm:=⟨⟨#[97]⟩,1,[],row⟩
abbrev ShTs (m:List Tb):Prop:=∀ t∈m,zac t.sch.cols∧zac t.rows∧∀ r∈t.rows,zac r.vals
structure FireIn (m:List Tb):Prop where
 sees:SeesIn m
 src:zcw m sUu=(zbz,true)
theorem FireIn.tabs {m:List Tb} (h:FireIn m):∀ x∈m,TabV x:=by
 obtain ⟨t,r,rfl,h1,_⟩:=h.sees.ex;exact h1.tab
theorem FireIn.to {m:List Tb} (h:FireIn m):TbOk m:=by
 obtain ⟨t,r,rfl,h1,_⟩:=h.sees.ex;exact h1.to
theorem FireIn.tg {m:List Tb} (h:FireIn m):TbG m:=by
 obtain ⟨t,r,rfl,h1,_⟩:=h.sees.ex;exact h1.tg
theorem FireIn.sh {m:List Tb} (h:FireIn m):ShTs m:=fun x hx=>⟨(h.tabs x hx).sch.short,(h.tabs x hx).shr,(h.tabs x hx).vals⟩
structure NoteOut (m:List Tb) (row:List V) (m2:List Tb):Prop where
 eq:m2=zoU m row
 len:m2.length=m.length
 hd:(hdT m2).rows.length=(hdT m).rows.length+1
 short:zac m2
 sh:ShTs m2
theorem RowU.sh {row:List V} (h:RowU row):zac row:=by
 obtain ⟨a,b,c,rfl,_⟩:=znH h.ok;simp [zac]
theorem zup (m:List Tb) (row:List V) (wh:List X) (b:Bool) (h:FireIn m) (hr:RowU row) (hw:Few wh∧∀ x∈wh,XOk 7 x)
  (ht:zaa E0 S.evaluate_True [xsl wh,fsl (zcU row),tsl m] [] (.tup [bv b,iv 0]) []):FiIn m [za8 wh] [dlN row] (itN row) (za8 wh) zbz (dlN row) (dlN row) (zcU row) [] 0 b:=by
 refine ⟨⟨rfl,by simp⟩,?_,?_,?_,?_,?_,?_,?_,?_,h.sees.short,h.sh⟩
 ·have h1:=zdj [za8 wh] (itN row) (by simp [zac])
  have e:idxF (fun t=>tgN t (itN row).name) [za8 wh] 0=(0:Nat):=by show _=_;kernel_rfl
  rw [e] at h1;exact h1
 ·have h1:=zfx m sUu h.sees.short (fun x hx=>(h.sh x hx).1)
  rw [h.src] at h1;exact h1
 ·have h1:=zdv [dlN row] sUu (by simp [zac])
  have e:idxF (fun t=>dlC t sUu) [dlN row] 0=(0:Nat):=by show _=_;kernel_rfl
  rw [e] at h1
  obtain ⟨r,b,⟨rfl,rfl⟩,h2⟩:=zrv [dlN row] sUu 0 (dlN row) rfl (by simp) h1 (by decide)
  exact h2
 ·obtain ⟨r,hr2,h2⟩:=zml (za8 wh) zbz [] row (zaP zkw) (by simp [zac]) hr.sh
  rw [zkK] at hr2
  subst hr2;exact h2
 ·obtain ⟨r,hr2,h2⟩:=zoe (za8 wh) zbz (dlN row) rfl (by simp [zac,dlN]) (fun x hx=>by
   simp only [dlN,List.mem_singleton] at hx;subst hx;exact zeN _ hr.sh)
  subst hr2;exact h2
 ·obtain ⟨r,hr2,h2⟩:=ztN (za8 wh) zbz (dlN row) rfl
  subst hr2;exact h2
 ·have h1:=zem m h.sees.ml
  rw [List.append_nil];exact h1
 ·rw [List.append_nil];exact ht
theorem zrd (m:List Tb) (row:List V) (wh:List X) (b:Bool) (h:FireIn m) (hr:RowU row) (hw:Few wh∧∀ x∈wh,XOk 7 x)
  (ht:zaa E0 S.evaluate_True [xsl wh,fsl (zcU row),tsl m] [] (.tup [bv b,iv 0]) []) :
  zaa E0 S.fire_Item [tsl m,.sl ([za8 wh].map Tg.cells),.sl [],.sl ([dlN row].map Dl.cells),(itN row).av,.sl []] [] (.tup [tsl (bif b then zoU m row else m),.sl [],.sl [],iv 0]) []:=by
 have h1:=zlH (zup m row wh b h hr hw ht) (fun i=>bif i==0 then m else zoU m row) rfl (by simp [za8,zac]) (fun i a ha=>by
  match i,ha with
  | 0,ha =>
   simp only [za8,List.getElem?_cons_zero,Option.some.injEq] at ha
   subst ha
   exact ⟨.inl rfl,1,zii m row wh h.sees hr hw⟩
  | i+1,ha=>simp [za8] at ha)
 exact h1
theorem zvL (row:List V) (m:List Tb):zaa E0 S.evaluate_True [xsl [],fsl (zcU row),tsl m] [] (.tup [bv true,iv 0]) []:=zcj _ _
theorem FireIn.pos {m:List Tb} (h:FireIn m):0 < m.length:=h.sees.pos
theorem NoteOut.pos {m m2:List Tb} {row:List V} (h:NoteOut m row m2) (h0:FireIn m):0 < m2.length:=by rw [h.len];exact h0.pos
structure WhenOut (m m2:List Tb) (n:Nat) (m3:List Tb):Prop where
 eq:m3=bif n==2 then m2 else m
 short:zac m3
 sh:ShTs m3
end Go.AM
namespace Go.AM
set_option maxRecDepth 100000
set_option maxHeartbeats 4000000
set_option linter.unusedSimpArgs false
set_option linter.unusedVariables false
theorem zuE {m:List Tb} (h:m.map Tb.sch=zao):zcw m sUu=(zbz,true):=by
 have h1:∀ (f:List Sch→Sch × Bool),f (m.map Tb.sch)=f zao:=fun f=>by rw [h]
 match m,h with
 | [a,b,c],h =>
  simp only [List.map_cons,List.map_nil,zao,List.cons.injEq,and_true] at h
  obtain ⟨ha,hb,hc⟩:=h
  rw [zeQ]
  have e1:zaA a sUu=false:=by unfold zaA;rw [ha];kernel_rfl
  have e2:zaA b sUu=false:=by unfold zaA;rw [hb];kernel_rfl
  have e3:zaA c sUu=true:=by unfold zaA;rw [hc];kernel_rfl
  simp only [zbV,List.find?_cons,e1,e2,e3]
  rw [hc];show _=_;kernel_rfl
 | [],h=>simp [zao] at h
 | [a],h=>simp [zao] at h
 | [a,b],h=>simp [zao] at h
 | a::b::c::d::r,h=>simp [zao] at h
theorem zum {n:Int} {m:List Tb} (hm:StoreV n m) (hn:n≤5):FireIn m:=by
 have hs:=hm.schs
 refine ⟨⟨?_⟩,zuE hs⟩
 cases m with
 | nil=>simp [zao] at hs
 | cons a r =>
  have h1:a.sch=zar:=by simp only [zao,List.map_cons] at hs;exact (List.cons.inj hs).1
  have h2:(a::r).length=3:=by have:=congrArg List.length hs;simpa [zao] using this
  have h3:=hm.len a (by simp)
  exact ⟨a,r,rfl,⟨h1,fun x hx=>hm.tabV (by omega) hx,(hm.ok (by omega)).tbOk,(hm.ok (by omega)).tbG,by omega⟩,by omega,hm.next a (by simp)⟩
theorem zjK (t:Tp):∃ (r:List V) (t':Tp),RowU r∧zaa E0 S.world_Tape_Row [.p 0 0,zbz.av] [.box t.cells] (vsl r) [.box t'.cells]:=by
 have ho:=zlS zko
 obtain ⟨r,t',h1,h2⟩:=zgL t zbz (zaP zkw) ho.cols
 exact ⟨r,t',⟨h1⟩,h2⟩
def tKn:List Tb:=[⟨zar,1,[]⟩,⟨zbz,2,[]⟩]
def vSev:V:=⟨1,7,⟨#[]⟩⟩
def vOne:V:=⟨1,1,⟨#[]⟩⟩
def zna:List V:=[vSev,vOne,vNul]
theorem zqz  :∃ (r:Tg),r=za8 []∧zaa E0 S.law23_note [] [] r.av []:=by
 exact ⟨Tg.mk (ByteArray.mk #[97]) (ByteArray.mk #[117]) false 1 [] true [] [] [] [] [Ac.mk 1 (ByteArray.mk #[108,111,103]) [[xCol (ByteArray.mk #[78,69,87]) (ByteArray.mk #[105,100]),xLit (V.mk 0 0 (ByteArray.mk #[]))]] [] [] [] (ByteArray.mk #[])],(by rfl),(by (try simp only [X.av,Qy.av,V.av,Tb.av,Sch.av,Pl.av,xsl,fsl,vsl,tsl,List.map_append,List.map_cons,List.map_nil,V.cells,Col.cells,Rw.cells,Tb.cells,Fr.cells,Sch.cells,Pl.cells,zaW,zaI,zaO,zaM,zaT,X.cells,Qy.cells,X.args_mk,X.sub_mk,Qy.items_mk,Qy.wh_mk,xCol,xLit,xBin,xNeg,Ac.cells,Se.cells,Pr.cells,Ch.cells,Rw.cells,Dl.cells,Itm.cells]);exact wk At.law23_note [sc (zlN (ByteArray.mk #[78,69,87]) (ByteArray.mk #[105,100])),sc (zhH (V.mk 0 0 (ByteArray.mk #[])))] kr)⟩
theorem zj9:zaa E0 S.law23_note [] [] (za8 []).av []:=by
 obtain ⟨r,rfl,h⟩:=zqz
 exact h
theorem tKn_in:FireIn tKn:=by
 have h2:TabV ⟨zbz,2,[]⟩:=⟨zld zko,by decide,RowsV.nil (by decide),by decide,znc zko⟩
 have ht:∀ x∈tKn,TabV x:=fun x hx=>by
  simp only [tKn,List.mem_cons,List.not_mem_nil,or_false] at hx
  rcases hx with rfl|rfl
  ·exact tbK_v
  ·exact h2
 have hr:∀ x∈tKn,x.rows=[]:=fun x hx=>by
  simp only [tKn,List.mem_cons,List.not_mem_nil,or_false] at hx
  rcases hx with rfl|rfl <;> rfl
 refine ⟨⟨_,_,rfl,⟨rfl,ht,⟨by decide,fun x hx=>(ht x hx).sch.short,fun x hx=>by rw [hr x hx];decide,fun x hx r h=>(by rw [hr x hx] at h;cases h)⟩,⟨fun x hx r h=>(by rw [hr x hx] at h;cases h),fun x hx=>by rw [hr x hx];decide⟩,by decide⟩,by decide,by decide⟩,by show _=_;kernel_rfl⟩
theorem zvN:RowU zna:=⟨by
 refine ⟨by kernel_rfl,fun k c w h1 h2=>?_⟩
 have hc:zbz.cols=[⟨⟨#[105,100]⟩,1,true,true⟩,⟨⟨#[110]⟩,1,true,false⟩,⟨⟨#[109]⟩,1,false,false⟩]:=by kernel_rfl
 rw [hc] at h1
 match k,h1,h2 with
 | 0,h1,h2=>cases h1;cases h2;exact ⟨zbw (by decide),.inr rfl,fun _=>rfl⟩
 | 1,h1,h2=>cases h1;cases h2;exact ⟨zbw (by decide),.inr rfl,fun _=>rfl⟩
 | 2,h1,h2=>cases h1;cases h2;exact ⟨zaD,.inl rfl,fun h=>by cases h⟩
 | k+3,h1,h2=>simp at h1⟩
def tKn2:List Tb:=[⟨zar,2,[⟨1,[vSev,vNul]⟩]⟩,⟨zbz,2,[]⟩]
theorem zjW:zaa E0 S.fire_Item [tsl tKn,.sl ([za8 []].map Tg.cells),.sl [],.sl ([dlN zna].map Dl.cells),(itN zna).av,.sl []] [] (.tup [tsl tKn2,.sl [],.sl [],iv 0]) []:=zrd tKn zna [] true tKn_in zvN ⟨by simp,fun x hx=>by cases hx⟩ (zvL zna tKn)
theorem zov  :∃ (r:Bool),r=true∧zaa E0 S.law23_known [] [] (bv r) []:=by
 exact ⟨bif bif bif (0:Int)==(0:Int) then (↑(List.map Tb.cells tKn2).length:Int)==(2:Int) else false then (↑(List.map Rw.cells (hdT tKn2).rows).length:Int)==(1:Int) else false then vSev.kind==(zbA (7:Int)).kind&&(vSev.int==(zbA (7:Int)).int&&(vSev.text==(zbA (7:Int)).text&&true)) else false,(by rfl),wk At.law23_known [sc zjC,sc (zfv (ByteArray.mk #[117]) (by first|assumption|exact zcK|decide|omega)),sc (zcL 7),sc (zcL 1),sc zj9,sc zjW,sd [(3,[sg (rfl:true=true)]),(4,[sg (rfl:true=true)]),(5,[sg (rfl:true=true)]),(8,[sg (rfl:true=true)]),(9,[so (rfl:true=true) (se (ztM tKn2 (by first|assumption|exact zcK|decide|omega)))]),(10,[sg (rfl:true=true)]),(11,[sg (rfl:true=true)]),(12,[sg (rfl:true=true)]),(13,[sg (rfl:true=true)]),(16,[sg (rfl:true=true)]),(17,[so (rfl:true=true) (se (ztM tKn2 (by first|assumption|exact zcK|decide|omega)))]),(18,[sg (rfl:true=true)]),(19,[sg (rfl:true=true)]),(20,[so (rfl:true=true) (se (xs:=[[iv 1,AV.sl [[iv vSev.kind,iv vSev.int,sv vSev.text],[iv vNul.kind,iv vNul.int,sv vNul.text]]]]) (i:=0) (c:=[iv 1,AV.sl [[iv vSev.kind,iv vSev.int,sv vSev.text],[iv vNul.kind,iv vNul.int,sv vNul.text]]]) (n:=2) ⟨by decide,rfl,rfl⟩)]),(21,[sg (rfl:true=true)]),(22,[sg (rfl:true=true)]),(23,[so (rfl:true=true) (se (xs:=[[iv vSev.kind,iv vSev.int,sv vSev.text],[iv vNul.kind,iv vNul.int,sv vNul.text]]) (i:=0) (c:=[iv vSev.kind,iv vSev.int,sv vSev.text]) (n:=3) ⟨by decide,rfl,rfl⟩)]),(24,[sg (rfl:true=true)]),(25,[so (rfl:true=true) (sc (zcL 7))]),(26,[so (rfl:true=true) (sq za9)])]] kr⟩
end Go.AM
namespace Go.AM
set_option maxRecDepth 100000
set_option maxHeartbeats 1000000
set_option linter.unusedSimpArgs false
set_option linter.unusedVariables false
abbrev sIns:Str:=⟨#[73,78,83,69,82,84,69,68]⟩
abbrev za4 (row:List V):Tb:=⟨⟨sIns,zbz.cols.map colT⟩,1+1,[⟨1,row⟩]⟩
abbrev exCi:X:=X.mk 9 0 false ⟨0,0,⟨#[]⟩⟩ ⟨#[]⟩ ⟨#[]⟩ [] [Qy.mk false [] sIns []]
abbrev zda:X:=xBin 9 (xCol ⟨#[]⟩ sNn) exCi
abbrev zeb:Ac:=⟨3,sLog,[],[],[],[],⟨#[]⟩⟩
abbrev zgR (n:Int):List (List X):=[[xNum n,xLit vNul]]
abbrev zcn:Ac:=⟨2,sLog,[],[],[⟨sNn,zda⟩],[],⟨#[]⟩⟩
abbrev acAb:Ac:=⟨4,⟨#[]⟩,[],[],[],[],⟨#[120]⟩⟩
abbrev zca (n:Int):List Ac:=[zeb,zai sLog (zgR n),zcn]
abbrev tgSt (acts:List Ac):Tg:=⟨⟨#[97]⟩,sUu,false,1,[],false,[],[],[],[],acts⟩
abbrev vInt (n:Int):V:=⟨1,n,⟨#[]⟩⟩
theorem zky {n:Int} (h:0≤n∧n≤1000):(vInt n).Good:=zbw (by constructor <;> omega)
/- contracts of the program's keys -/
theorem zg5 (t:Tb) (c:Ch) (ht:TabV t) (hc:ChV t c) (hold:∀ p∈c.upd,zac p.old) (hg:∀ p∈c.upd,∀ v∈p.nw,v.Good) (hgi:∀ p∈c.ins,∀ v∈p,v.Good) (hf:zby t.sch c=0) (hl:¬ zfa t c) (hd:(zdw t c).Nodup) :
  zaa E0 S.keys_Apply [t.av,c.av] [] (.tup [(apT t c).av,iv 0]) []:=by
 have h1:=hc.ld;have h2:=hc.lu;have h3:=hc.li
 have hsc:=ht.sch.short
 have hnx:=ht.rows.pos
 have hmx:=ht.max
 have hln:=ht.len
 simp only [decide_eq_false_iff_not,List.length_map] at hmx hln
 have hm:(midR c t.rows).length≤100000:=by have:=List.length_filterMap_le (midS c) t.rows;unfold midR;omega
 have hnw:∀ p∈c.upd,zac p.nw:=fun p hp=>by have:=(hc.updIn p hp).2.2;simp only [zac] at *;omega
 have hins:∀ r∈c.ins,zac r:=fun p hp=>by have:=hc.ins p hp;simp only [zac] at *;omega
 have hfit:=znu t c (by simp only [zac];omega) (by simp only [zac];omega) hsc hg hgi
 obtain ⟨x,g,hq,h⟩:=zoE t c ⟨hc,ht.rows.asc,by omega,ht.vals,hnw⟩ (zlU t c ht hc hold) hfit h3 hins hsc ⟨hnx,by omega⟩ hm
 obtain ⟨e1,e2⟩:=hq.ok hf hl hd
 rw [e1,e2] at h;exact h
/- tables -/
theorem zuw {l:List Tb} (hl:l.length≤1000) (h:∀ x∈l,zac x.sch.cols∧x.rows.length≤1000∧∀ r∈x.rows,∀ v∈r.vals,v.Good):TbOk l∧TbG l :=
 ⟨⟨by simp only [zac];omega,fun x hx=>(h x hx).1,fun x hx=>(h x hx).2.1,fun x hx r hr v hv=>((h x hx).2.2 r hr v hv).small⟩,⟨fun x hx=>(h x hx).2.2,fun x hx=>(h x hx).2.1⟩⟩
structure StR (r:List Tb) (row:List V):Prop where
 tab:∀ x∈r,TabV x
 len:r.length≤900
 row:RowU row
structure LogT (T:Tb):Prop where
 sch:T.sch=zar
 v:TabV T
 rl:T.rows.length≤5
 nx:T.next≤3002
theorem TabV.tb {x:Tb} (h:TabV x):zac x.sch.cols∧x.rows.length≤1000∧∀ r∈x.rows,∀ v∈r.vals,v.Good:=by
 have hln:=h.len
 simp only [decide_eq_false_iff_not,List.length_map] at hln
 exact ⟨h.sch.short,by omega,fun r hr=>zdu (h.rows.fit r hr)⟩
theorem zur {row:List V} (h:RowU row):∀ v∈row,v.Good:=by
 obtain ⟨a,b,c,rfl,hk,ha,hb,hc⟩:=znH h.ok
 intro v hv
 simp only [List.mem_cons,List.not_mem_nil,or_false] at hv
 rcases hv with rfl|rfl|rfl <;> assumption
section
variable {T : Tb} {r : List Tb} {row : List V}
theorem StR.log (h:StR r row) (hT:LogT T):LogIn T r:=by
 have ht:∀ x∈T::r,TabV x:=fun x hx=>by
  simp only [List.mem_cons] at hx
  rcases hx with rfl|hx
  ·exact hT.v
  ·exact h.tab x hx
 have hl:=h.len
 obtain ⟨h1,h2⟩:=zuw (l:=T::r) (by simp;omega) fun x hx=>(ht x hx).tb
 exact ⟨hT.sch,ht,h1,h2,by simp;omega⟩
theorem zv3:(zbz.cols.map colT).length=3:=by kernel_rfl
theorem StR.all (h:StR r row) (hT:LogT T):TbOk ((T::r)++[za4 row])∧TbG ((T::r)++[za4 row]):=by
 have hl:=h.len
 refine zuw (by simp;omega) fun x hx=>?_
 simp only [List.mem_append,List.mem_singleton] at hx
 rcases hx with hx|rfl
 ·exact ((h.log hT).tab x hx).tb
 ·refine ⟨by simp only [za4,zac];rw [zv3];omega,by simp [za4],fun y hy=>?_⟩
  simp only [za4,List.mem_singleton] at hy
  subst hy;exact zur h.row
theorem StR.vals (h:StR r row) (hT:LogT T):∀ x∈(T::r)++[za4 row],∀ y∈x.rows,zac y.vals:=fun x hx y hy=>by
 simp only [List.mem_append,List.mem_singleton] at hx
 rcases hx with hx|rfl
 ·exact ((h.log hT).tab x hx).vals y hy
 ·simp only [za4,List.mem_singleton] at hy
  subst hy;exact h.row.sh
theorem StR.sh (h:StR r row) (hT:LogT T):ShTs (T::r):=fun x hx=>⟨((h.log hT).tab x hx).sch.short,((h.log hT).tab x hx).shr,((h.log hT).tab x hx).vals⟩
theorem zmx (n:Nat) (hn:n≤10):FsOk n []∧FsG []:=⟨⟨by simp;omega,fun f hf=>by simp at hf,fun f hf=>by simp at hf⟩,fun f hf=>by simp at hf⟩
theorem zpC:AcOk 3 zeb:=⟨by simp,fun _ h=>by simp at h,by simp,fun _ h=>by simp at h,by simp,fun _ h=>by simp at h,by simp,fun _ h=>by simp at h⟩
theorem xok_ci {n:Nat}:XOk (n+2) exCi:=by
 refine ⟨zaD,⟨by simp,by simp⟩,fun x hx=>by simp at hx,fun q hq=>?_⟩
 simp only [X.sub_mk,List.mem_singleton] at hq
 subst hq
 exact ⟨⟨by simp,by simp⟩,fun x hx=>by simp at hx,fun x hx=>by simp at hx⟩
theorem zrM:XOk 3 zda:=by
 refine ⟨zaD,⟨by simp [xBin],by simp [xBin]⟩,fun x hx=>?_,fun q hq=>by simp [xBin] at hq⟩
 simp only [xBin,X.args_mk,List.mem_cons,List.not_mem_nil,or_false] at hx
 rcases hx with rfl|rfl
 ·exact zvF (n:=1) ⟨#[]⟩ sNn
 ·exact xok_ci (n:=0)
theorem zl7:AcOk 3 zcn:=⟨by simp,fun _ h=>by simp at h,by simp,fun _ h=>by simp at h,by simp,fun s h=>by
 simp only [List.mem_singleton] at h;subst h;exact zrM,by simp,fun _ h=>by simp at h⟩
theorem zpV {n:Int} (hn:0≤n∧n≤1000):AcOk 3 (zai sLog (zgR n)):=⟨by simp,fun l h=>by
 simp only [List.mem_singleton] at h;subst h
 refine ⟨by simp,fun x hx=>?_⟩
 simp only [List.mem_cons,List.not_mem_nil,or_false] at hx
 rcases hx with rfl|rfl
 ·exact zv7 (n:=1) (by omega) (by omega)
 ·exact zir zaD,by simp,fun _ h=>by simp at h,by simp,fun _ h=>by simp at h,by simp,fun _ h=>by simp at h⟩
theorem zwb:AcOk 3 acAb:=⟨by simp,fun _ h=>by simp at h,by simp,fun _ h=>by simp at h,by simp,fun _ h=>by simp at h,by simp,fun _ h=>by simp at h⟩
theorem zww {acts:List Ac} (hl:acts.length≤4) (h:∀ a∈acts,AcOk 3 a):TgSh 3 (tgSt acts):=by
 have:TgOk 3 (tgSt acts):=⟨by simp,by simp,by simp,by simp,by simp,fun x hx=>by simp at hx,by simp only [Few];omega,h⟩
 exact this.sh
theorem zgy {acts:List Ac} (hl:acts.length≤4) (h:∀ a∈acts,AcOk 3 a) (k:Int) (asg:List Str) (ha:zac asg) (b:Bool):zaa E0 S.before_Applicable [.sl ([tgSt acts].map Tg.cells),sv sLog,iv k,ssl asg,bv b] [] (.sl []) []:=by
 have h:=zfh 3 [tgSt acts] sLog k asg b (by simp) ha (fun t ht=>by simp only [List.mem_singleton] at ht;exact ht ▸ zww hl h)
 have e:[tgSt acts].filter (appl sLog k asg b)=[]:=by
  rw [List.filter_cons]
  have:appl sLog k asg b (tgSt acts)=false:=rfl
  rw [this];rfl
 rw [e] at h
 exact h
theorem znG (s:Sch) (old nw:List V) (m:List Tb) (ht:TbOk m) (hg:TbG m) (hs:Few s.cols) (ho:NwOk old) (hn:NwOk nw):BRow m [] s old nw nw:=by
 have h1:=zj7 7 [] [] s old nw m [] (by decide) (by decide) hs (zaP hs) ho ht hg (by decide) (fun t ht=>by simp at ht) hn hn.short (by decide)
 rw [zos] at h1
 exact h1
end
end Go.AM
namespace Go.AM
set_option maxRecDepth 100000
set_option maxHeartbeats 1000000
set_option linter.unusedSimpArgs false
set_option linter.unusedVariables false
theorem zrc (nm:Str) :∃ (r:List Str),r=[]∧zaa E0 S.dml_Assigned [Ac.av ⟨3,nm,[],[],[],[],⟨#[]⟩⟩] [] (ssl r) []:=by
 exact ⟨[],(by rfl),wk At.dml_Assigned [sb (rfl:true=true)] kr⟩
noncomputable def L_asU (nm cl:Str) (x:X) (i:Nat) (l:List Str):Cfg:=zal B.dml_Assigned 0 [(3,.own 1 l.length),(10,.sl ([Se.mk cl x].map Se.cells)),(11,iv (([Se.mk cl x].map Se.cells).length:Nat)),(12,iv (i:Nat))] [.box (Ac.cells ⟨2,nm,[],[],[⟨cl,x⟩],[],⟨#[]⟩⟩),.row Ty.string (l.map zaX) false]
theorem zdC (nm cl:Str) (x:X) (i:Nat) (l:List Str):True∧∀ R,Good E0 B.dml_Assigned [] (L_asU nm cl x i l) R→Good E0 B.dml_Assigned [] (L_asU nm cl x i l) R:=⟨trivial,fun _ h=>h⟩
theorem zq7 (nm cl:Str) (x:X) :∃ (r:List Str),r=[cl]∧zaa E0 S.dml_Assigned [Ac.av ⟨2,nm,[],[],[⟨cl,x⟩],[],⟨#[]⟩⟩] [] (ssl r) []:=by
 obtain ⟨q1,g1⟩:=zdC nm cl x 0 ([])
 obtain ⟨q2,g2⟩:=zdC nm cl x (0+1) ([cl])
 exact ⟨[cl],(by rfl),wkcN At.dml_Assigned [sb (rfl:false=false)] [3,10,11,12] 1 [(.ot 3 Ty.string,2)] kr (g1 _ (zab (wkl [sb (rfl:true=true),se (xs:=[[sv cl,iv x.kind,iv x.op,bv x.not,iv x.val.kind,iv x.val.int,sv x.val.text,sv x.table,sv x.name,AV.sl (zad x.args),AV.sl (zag x.sub)]]) (i:=0) (c:=[sv cl,iv x.kind,iv x.op,bv x.not,iv x.val.kind,iv x.val.int,sv x.val.text,sv x.table,sv x.name,AV.sl (zad x.args),AV.sl (zag x.sub)]) (n:=11) ⟨by decide,rfl,rfl⟩,sqx (AllLen [[sv cl]] 1∧0=0∧Nat.le 16 140737488355328),si (zcG (t:=(↑0:Int)+1) (n:=0+1) (by omega) (by omega))] [3,10,11,12] 2 kr (g2 _ (zab (wkrS (y:=AV.sl [[sv cl]]) (H:=[]) [sqx (1=1),sb (rfl:false=false)] kr ⟨by first|rfl|(simp;done)|(simp [X.cells,Qy.cells,V.cells,Col.cells,Rw.cells,Tb.cells,Fr.cells,Sch.cells,Tp.cells,Pl.cells,xCol,xLit,xBin,xNeg,Ac.cells,Se.cells,Pr.cells,Ch.cells,Rw.cells];done),by first|rfl|(simp;done)|(simp [X.cells,Qy.cells,V.cells,Col.cells,Rw.cells,Tb.cells,Fr.cells,Sch.cells,Tp.cells,Pl.cells,xCol,xLit,xBin,xNeg,Ac.cells,Se.cells,Pr.cells,Ch.cells,Rw.cells];done)⟩))))))⟩
end Go.AM
namespace Go.AM
set_option maxRecDepth 100000
set_option maxHeartbeats 1000000
set_option linter.unusedSimpArgs false
set_option linter.unusedVariables false
theorem StoreV.set {n:Int} {m:List Tb} (h:StoreV n m) {i:Nat} {t u:Tb} (hi:m[i]?=some t) (hs:u.sch=t.sch) (hr:RowsV u.sch u.next u.rows) (hx:u.next≤3000) (hl:(u.rows.length:Int)≤n):StoreV n (m.set i u):=by
 have hm:∀ x∈m.set i u,x∈m∨x=u:=fun x hx=>List.mem_or_eq_of_mem_set hx
 refine ⟨?_,fun x hx=>?_,fun x hx=>?_,fun x hx=>?_⟩
 ·rw [List.map_set,hs]
  have:(m.map Tb.sch).set i t.sch=m.map Tb.sch:=by
   obtain ⟨hl,e⟩:=List.getElem?_eq_some_iff.1 hi
   have e2:t.sch=(m.map Tb.sch)[i]'(by simpa using hl):=by simp [e]
   rw [e2];exact List.set_getElem_self _
  rw [this];exact h.schs
 ·rcases hm x hx with h1|rfl
  ·exact h.rows x h1
  ·exact hr
 ·rcases hm x hx with h1|rfl
  ·exact h.next x h1
  ·assumption
 ·rcases hm x hx with h1|rfl
  ·exact h.len x h1
  ·exact hl
end Go.AM
namespace Go.AM
set_option maxRecDepth 100000
set_option maxHeartbeats 1000000
set_option linter.unusedSimpArgs false
set_option linter.unusedVariables false
theorem zwr {l:List Rw} {r:Rw} (hr:r∈l):(get6 r.id l).2=true:=by
 induction l with
 | nil=>cases hr
 | cons q l ih =>
  unfold get6
  cases h:q.id==r.id
  ·rcases List.mem_cons.1 hr with rfl|hr
   ·simp at h
   ·exact ih hr
  ·rfl
end Go.AM
namespace Go.AM
set_option maxRecDepth 100000
set_option maxHeartbeats 1000000
set_option linter.unusedSimpArgs false
set_option linter.unusedVariables false
section
variable {T : Tb} {r : List Tb} {row : List V}
theorem zmM (hs:T.sch=zar) (l:List Tb):tabC (T::l) sLog=T∧idxF (fun x=>zaA x sLog) (T::l) 0=0∧zcw (T::l) sLog=(zar,true):=by
 obtain ⟨h1,h2⟩:=zpD (t:=T) (m:=l) hs
 refine ⟨by unfold tabC;rw [h1];rfl,h2,?_⟩
 rw [zeQ,h1,← hs]
theorem ziS (h:StR r row) (hT:LogT T):zaa E0 S.store_Find [tsl (T::r),sv sLog] [] (iv ((0:Nat):Int)) []:=by
 have h1:=zj0 (T::r) sLog (h.log hT).to.len
 rw [(zmM hT.sch r).2.1] at h1;exact h1
theorem zkY (h:StR r row):zaa E0 S.slices_Concat_Table [.sl [[tsl (T::r)],[tsl [za4 row]]]] [] (tsl ((T::r)++[za4 row])) []:=by
 have hl:=h.len
 exact zg3 (T::r) [za4 row] (by simp;omega) (by simp)
theorem zt9 (h:StR r row) (hT:LogT T) {a:Ac} (ha:AcOk 3 a) (hk:1≤a.kind∧a.kind≤3):DmlIn 3 a [] ((T::r)++[za4 row]):=by
 obtain ⟨h1,h2⟩:=h.all hT
 exact ⟨ha,hk,(zmx 4 (by decide)).1,(zmx 4 (by decide)).2,h1,h2,h.vals hT⟩
theorem zks (h:StR r row) (hT:LogT T) {a:Ac} (ha:AcOk 3 a) (hk:1≤a.kind∧a.kind≤3) (hn:a.table=sLog) (hb:actB (vX 3) a=true):zaa E0 S.dml_target [a.av,tsl ((T::r)++[za4 row])] [] (.tup [zar.av,iv 0]) []:=by
 have h1:=(zt9 h hT ha hk).target
 have h2:tgt a (actB (vX 3) a) ((T::r)++[za4 row])=(zar,0):=by
  unfold tgt
  rw [hb,hn,List.cons_append,(zmM hT.sch (r++[za4 row])).2.2];rfl
 rw [h2] at h1;exact h1
theorem zjU {v:V} (hT:v.Good) (hk:v.kind=1):zbU zar.cols [v,vNul]:=zot hT (.inr hk)
theorem zrY (nx:Int) (rows:List Rw) (hl:rows.length≤1) (h1:1≤nx∧nx≤3002) (hr:∀ x∈rows,x.id < nx∧1≤x.id∧zbU zar.cols x.vals):LogT ⟨zar,nx,rows⟩:=by
 refine ⟨rfl,⟨zld zln,by simp;omega,⟨fun x hx=>(hr x hx).2.2,?_,fun x hx=>⟨(hr x hx).2.1,(hr x hx).1⟩,fun h=>?_,h1.1⟩,by simp;omega,znc zln⟩,by simp;omega,h1.2⟩
 ·match rows,hl with
  | [],_=>exact .nil
  | [a],_=>simp
 ·match rows,hl with
  | [],_=>exact .nil
  | [a],_=>simp
abbrev stT (r:List Tb) (nx:Int) (rows:List Rw):List Tb:=⟨zar,nx,rows⟩::r
theorem zwL {acts:List Ac} (hl:acts.length≤4) (ha:∀ a∈acts,AcOk 3 a) (h:StR r row) (hT:LogT T):∃ n:Int,zaa E0 S.statement_Run [tsl (T::r),.sl ([tgSt acts].map Tg.cells),.sl [],zeb.av,fsl [],tsl [za4 row],.sl []] [] (.tup [tsl (stT r T.next []),.sl [],.sl [],iv n,iv 0]) []:=by
 have hlen:=hT.rl
 have hto:=h.all hT
 have htb:=zmM hT.sch (r++[za4 row])
 have hsch:=hT.sch
 obtain ⟨del,hdel,hC⟩:=ztC (fun _=>true) zeb zar [] ((T::r)++[za4 row]) rfl rfl hto.1.len (by simp) (zks h hT zpC (by decide) rfl (by show _=_;kernel_rfl)) (zpv _ zeb hto.1.len) (by rw [List.cons_append,show zeb.table=sLog from rfl,htb.2.1];rfl)
  (by rw [List.cons_append,show zeb.table=sLog from rfl,htb.1];exact hT.v.shr) (fun x _=>zcj _ _)
 rw [List.cons_append,show zeb.table=sLog from rfl,htb.1] at hdel
 have hdl:del=T.rows.map Rw.id:=by
  rw [hdel];unfold delC;rw [List.filter_eq_self.2 (fun _ _=>rfl)]
 have hdn:del.length=T.rows.length:=by rw [hdl,List.length_map]
 have hcv:ChV T ⟨[],del,[]⟩:=⟨by rw [hdl];exact List.pairwise_map.2 hT.v.rows.asc,fun d hd=>by
   rw [hdl] at hd
   obtain ⟨x,hx,rfl⟩:=List.mem_map.1 hd
   exact zwr hx,.nil,fun p hp=>by simp at hp,fun p hp=>by simp at hp,by simp only [hdn];omega,by simp,by simp⟩
 have hmid:midR ⟨[],del,[]⟩ T.rows=[]:=by
  unfold midR
  rw [List.filterMap_eq_nil_iff]
  intro x hx
  have:anyI del x.id=true:=zl5.2 (by rw [hdl];exact List.mem_map_of_mem hx)
  simp only [midS,this,cond_true]
 have hmx:=hT.nx
 have hA:=zg5 T ⟨[],del,[]⟩ hT.v hcv (fun p hp=>by simp at hp) (fun p hp=>by simp at hp) (fun p hp=>by simp at hp) rfl (by unfold zfa;simp only [hdn,List.length_nil];omega) (by unfold zdw;rw [hmid];exact List.nodup_nil)
 have hap:apT T ⟨[],del,[]⟩=⟨zar,T.next,[]⟩:=by
  unfold apT;rw [hmid,hsch];simp [insN]
 rw [hap] at hA
 have hrun:=zjb (T::r) [za4 row] [] zeb [tgSt acts] [] T ⟨zar,T.next,[]⟩ 0 del rfl (ziS h hT) (zkY h) hC (h.log hT).to.len (h.sh hT) (by
   obtain ⟨o,ho,hc⟩:=zrc sLog
   subst ho;exact hc) (zgy hl ha 3 [] (by simp) false) (zgy hl ha 3 [] (by simp) true) (by omega) (fun x hx=>znG _ _ _ _ (h.log hT).to (h.log hT).tg (by rw [hsch];decide) ⟨by have:=(hT.v.rows.fit x hx).len;rw [hsch] at this;rw [this];decide,zdu (hT.v.rows.fit x hx)⟩ znl) hA
 refine ⟨(del.length:Nat),?_⟩
 cases hb:del.length==0
 ·rw [hb] at hrun;exact hrun
 ·rw [hb] at hrun
  have hr0:T.rows=[]:=by
   have:T.rows.length=0:=by rw [← hdn];simpa using hb
   exact List.eq_nil_of_length_eq_zero this
  have e:T=⟨zar,T.next,[]⟩:=by
   cases T with
   | mk s nx rs=>simp only at hr0 hsch;rw [hr0,hsch]
  have e2:stT r T.next []=T::r:=by unfold stT;rw [← e]
  rw [e2];exact hrun
end
end Go.AM
namespace Go.AM
set_option maxRecDepth 100000
set_option maxHeartbeats 1000000
set_option linter.unusedSimpArgs false
set_option linter.unusedVariables false
section
variable {T : Tb} {r : List Tb} {row : List V}
theorem zqC (N:Nat) {n:Int} (hn:0≤n) (frs:List Fr) (m:List Tb):eval (N+1) (xNum n) frs m=(vInt n,0):=by
 have h1:decide (n < 0)=false:=by simp;omega
 unfold xNum
 rw [h1,cond_false,zg0]
theorem vX_num (N:Nat) {n:Int} (hn:0≤n):vX (N+1) (xNum n)=true:=by
 have h1:decide (n < 0)=false:=by simp;omega
 have e:∀ f:X→Bool,vXF f (xLit (vInt n))=!(bif true then decide (n < 0) else false):=fun f=>by show _=_;kernel_rfl
 unfold xNum
 rw [h1,cond_false]
 show vXF (vX N) (xLit (vInt n))=true
 rw [e,h1];rfl
theorem zvi (f:X→Bool) (a b:X) (h1:f a=true) (h2:f b=true):actB f (zai sLog [[a,b]])=true:=by
 have e1:actB f (zai sLog [[a,b]])=bif zeZ f [[a,b]] then true else false:=by show _=_;kernel_rfl
 have e2:zeZ f [[a,b]]=(!(!(f a&&(f b&&true)))&&true):=by show _=_;kernel_rfl
 rw [e1,e2,h1,h2];rfl
theorem zwg {acts:List Ac} (hl:acts.length≤4) (ha:∀ a∈acts,AcOk 3 a) (h:StR r row) {nx n:Int} (hx:1≤nx∧nx≤3001) (hn:0≤n∧n≤1000):∃ k:Int,zaa E0 S.statement_Run [tsl (stT r nx []),.sl ([tgSt acts].map Tg.cells),.sl [],(zai sLog (zgR n)).av,fsl [],tsl [za4 row],.sl []] [] (.tup [tsl (stT r (nx+1) [⟨nx,[vInt n,vNul]⟩]),.sl [],.sl [],iv k,iv 0]) []:=by
 have hT:LogT ⟨zar,nx,[]⟩:=zrY nx [] (by simp) ⟨hx.1,by omega⟩ (fun x hx=>by simp at hx)
 have hto:=h.all hT
 have hab:actB (vX 3) (zai sLog (zgR n))=true:=zvi _ _ _ (vX_num 2 hn.1) (by show _=_;kernel_rfl)
 have hao:=zpV hn
 have htg:=zks h hT hao (by simp) rfl hab
 have hxo:∀ x∈[xNum n,xLit vNul],XOk 3 x:=fun x hx=>(hao.row _ (List.mem_singleton.2 rfl)).2 x hx
 have hev:∀ x∈[xNum n,xLit vNul],(eval 3 x [] (stT r nx []++[za4 row])).2=0:=fun x hx=>by
  simp only [List.mem_cons,List.not_mem_nil,or_false] at hx
  rcases hx with rfl|rfl
  ·rw [zqC 2 hn.1]
  ·rw [zg0]
 obtain ⟨out,hout,hC⟩:=zev sLog (zgR n) zar [] (stT r nx []++[za4 row]) (fun x=>eval 3 x [] (stT r nx []++[za4 row])) htg (by decide) (by simp)
  (fun l hl=>by
   simp only [List.mem_singleton] at hl;subst hl
   exact ⟨by simp,fun x hm=>zfn 3 x [] _ (hxo x hm) (zmx 3 (by decide)).1 (zmx 3 (by decide)).2 hto.1 hto.2⟩)
  (fun l hl x hm=>by
   simp only [List.mem_singleton] at hl;subst hl
   show ((eval 3 x [] (stT r nx []++[za4 row])).2 != 0)=false
   rw [hev x hm];rfl)
  (fun l hl=>by
   simp only [List.mem_singleton] at hl;subst hl;rfl)
 have e:out=[[vInt n,vNul]]:=by
  rw [hout,List.take_length]
  unfold evR
  simp only [List.map_cons,List.map_nil,zqC 2 hn.1,zg0]
 subst e
 have hrok:zbU zar.cols [vInt n,vNul]:=zjU (zky hn) rfl
 have hnw:NwOk [vInt n,vNul]:=⟨by simp,zdu hrok⟩
 have hrun:=zij (stT r nx []) [za4 row] [] sLog (zgR n) [tgSt acts] [] ⟨zar,nx,[]⟩ (insT ⟨zar,nx,[]⟩ ([[vInt n,vNul]].map id)) 0 [[vInt n,vNul]] id (h.log hT).ml rfl (by simp) (zkY h) (ziS h hT) (by decide) hC (h.sh hT) (zgy hl ha 1 [] (by simp) false) (zgy hl ha 1 [] (by simp) true) (by simp) hT.v.shr (by simp) (by simp)
  (fun l hl=>by
   simp only [List.mem_singleton] at hl;subst hl
   exact znG zar [] _ _ (h.log hT).to (h.log hT).tg (by decide) znl hnw)
  (zgc ⟨zar,nx,[]⟩ _ hT.v (fun l hl=>by
   simp only [List.map_cons,List.map_nil,id,List.mem_singleton] at hl;subst hl;exact hrok) (by simp) (by simp;omega) (by rw [zkT];exact List.nodup_nil))
 exact ⟨_,hrun⟩
theorem aAdd_1 {n:Int} (hn:0≤n∧n≤1000):aAdd n 1=(n+1,true):=by
 have e1:decide (IntKind.i64.wrap (9223372036854775807 - 1) < n)=false:=by
  rw [decide_eq_false_iff_not,IntKind.wrap_i64];omega
 have e2:IntKind.i64.wrap (n+1)=n+1:=by rw [IntKind.wrap_i64];omega
 unfold aAdd
 rw [e1,e2];rfl
theorem ztS (N:Nat) (frs:List Fr) (m:List Tb) (t:Tb) (h:zbV m sIns=some t):eval (N+1) exCi frs m=(vCnt t.rows.length,0):=by
 have h1:eval (N+1) exCi frs m=valF (fun x=>eval N x frs m) (eOp exCi) (zfM (fun w x=>eval N x w m) exCi frs m) exCi frs m:=rfl
 have h2:∀ (f:X→V × Int) (op:List V→V × Int) (agg:V × Int),valF f op agg exCi frs m=(agg.1,agg.2):=fun f op agg=>by kernel_rfl
 have h3:zfM (fun w x=>eval N x w m) exCi frs m=(match zbV m sIns with
  | none=>eAgg (3,0,[]) exCi
  | some t=>eAgg (selR (fun r=>zcz ((fun w x=>eval N x w m) (zaF frs t r.vals)) []) (fun r its=>rowI ((fun w x=>eval N x w m) (zaF frs t r.vals)) 9 [] its) t.rows 0 []) exCi):=rfl
 rw [h1,h2,h3,h]
 have h4:selR (fun r=>zcz ((fun w x=>eval N x w m) (zaF frs t r.vals)) []) (fun r its=>rowI ((fun w x=>eval N x w m) (zaF frs t r.vals)) 9 [] its) t.rows 0 []=(0,0+t.rows.length,[]):=znX _ (fun _ _=>rfl) t.rows 0 []
 simp only [h4,Nat.zero_add]
 rfl
theorem zuL (N:Nat) (v:V) (m:List Tb):eval (N+1) (xCol ⟨#[]⟩ sNn) (za3 [] zar [v,vNul]) m=(v,0):=by
 have e:∀ (f:X→V × Int) (op:List V→V × Int) (agg:V × Int),valF f op agg (xCol ⟨#[]⟩ sNn) (za3 [] zar [v,vNul]) m=(v,0):=fun f op agg=>by show _=_;kernel_rfl
 exact e _ _ _
theorem zvA (N:Nat) {n:Int} (hn:0≤n∧n≤1000) (m:List Tb) (t:Tb) (h:zbV m sIns=some t) (ht:t.rows.length=1):eval (N+2) zda (za3 [] zar [vInt n,vNul]) m=(vInt (n+1),0):=by
 have h1:eval (N+2) zda (za3 [] zar [vInt n,vNul]) m=valF (fun x=>eval (N+1) x (za3 [] zar [vInt n,vNul]) m) (eOp zda) (zfM (fun w x=>eval (N+1) x w m) zda (za3 [] zar [vInt n,vNul]) m) zda (za3 [] zar [vInt n,vNul]) m:=rfl
 have h2:∀ (f:X→V × Int) (op:List V→V × Int) (agg:V × Int) (frs:List Fr),valF f op agg zda frs m=evL f op zda frs m [xCol ⟨#[]⟩ sNn,exCi] 0 []:=fun f op agg frs=>by show _=_;kernel_rfl
 have h3:=zuL N (vInt n) m
 have h4:=ztS N (za3 [] zar [vInt n,vNul]) m t h
 rw [ht] at h4
 have h5:eOp zda [vInt n,vCnt 1]=bif !(aAdd n 1).2 then (⟨0,0,⟨#[]⟩⟩,6) else (⟨1,(aAdd n 1).1,⟨#[]⟩⟩,0):=by show _=_;kernel_rfl
 rw [h1,h2]
 simp only [evL,h3,h4,show ((0:Int) != 0)=false from rfl,cond_false,List.nil_append,List.cons_append]
 rw [h5,aAdd_1 hn];rfl
end
end Go.AM
namespace Go.AM
set_option maxRecDepth 100000
set_option maxHeartbeats 1000000
set_option linter.unusedSimpArgs false
set_option linter.unusedVariables false
theorem zpI {s:Sch}:∀ (l:List Pr),(∀ p∈l,fit5 s p.nw=0)→zbL s l=0
 | [],_=>rfl
 | p::r,h=>by
  unfold zbL
  rw [h p (by simp)]
  exact zpI r fun q hq=>h q (by simp [hq])
end Go.AM
namespace Go.AM
set_option maxRecDepth 100000
set_option maxHeartbeats 1000000
set_option linter.unusedSimpArgs false
set_option linter.unusedVariables false
section
variable {r : List Tb} {row : List V}
theorem zwj {T:Tb} (h:StR r row) (hs:T.sch=zar) (hr:∀ x∈r,zaA x sIns=false):zbV ((T::r)++[za4 row]) sIns=some (za4 row):=by
 unfold zbV
 rw [List.cons_append,List.find?_cons]
 have h1:zaA T sIns=false:=by unfold zaA;rw [hs];kernel_rfl
 rw [h1]
 rw [List.find?_append,List.find?_eq_none.2 (fun x hx=>by rw [hr x hx];simp)]
 have h2:zaA (za4 row) sIns=true:=by show _=_;kernel_rfl
 rw [Option.none_or,List.find?_cons,h2]
theorem zwC (f:X→V × Int) (n:Int) (frs:List Fr) (m:List Tb) (h:f zda=(vInt (n+1),0)):asgn f zcn zar [vInt n,vNul] frs m=([vInt (n+1),vNul],0):=by
 have e:asgn f zcn zar [vInt n,vNul] frs m=asgn (fun _=>f zda) zcn zar [vInt n,vNul] frs m:=rfl
 rw [e,h];show _=_;kernel_rfl
theorem zws {acts:List Ac} (hl:acts.length≤4) (ha:∀ a∈acts,AcOk 3 a) (h:StR r row) (hri:∀ x∈r,zaA x sIns=false) {nx n:Int} (hx:1≤nx∧nx≤3001) (hn:0≤n∧n≤999):∃ k:Int,zaa E0 S.statement_Run [tsl (stT r (nx+1) [⟨nx,[vInt n,vNul]⟩]),.sl ([tgSt acts].map Tg.cells),.sl [],zcn.av,fsl [],tsl [za4 row],.sl []] [] (.tup [tsl (stT r (nx+1) [⟨nx,[vInt (n+1),vNul]⟩]),.sl [],.sl [],iv k,iv 0]) []:=by
 have hrok:zbU zar.cols [vInt n,vNul]:=zjU (zky ⟨hn.1,by omega⟩) rfl
 have hrok2:zbU zar.cols [vInt (n+1),vNul]:=zjU (zky ⟨by omega,by omega⟩) rfl
 have hnw:NwOk [vInt n,vNul]:=⟨by simp,zdu hrok⟩
 have hnw2:NwOk [vInt (n+1),vNul]:=⟨by simp,zdu hrok2⟩
 let T:Tb:=⟨zar,nx+1,[⟨nx,[vInt n,vNul]⟩]⟩
 have hT:LogT T:=zrY (nx+1) _ (by simp) ⟨by omega,by omega⟩ (fun x hx=>by
  simp only [List.mem_singleton] at hx;subst hx;exact ⟨by simp only;omega,by simp only;omega,hrok⟩)
 have hto:=h.all hT
 have htb:=zmM hT.sch (r++[za4 row])
 have hfi:=zwj h hT.sch hri
 have hrw:∀ x∈T.rows,x=⟨nx,[vInt n,vNul]⟩:=fun x hx=>by simpa [T] using hx
 have hin:∀ x∈T.rows,FsOk 3 (za3 [] zar x.vals)∧FsG (za3 [] zar x.vals):=fun x hx =>
  (zt9 h hT zl7 (by decide)).ins (t:=T) (by simp) hx
 have hag:∀ x∈T.rows,AgOk (fun _=>[vInt (n+1),vNul]) zcn zar [] ((T::r)++[za4 row]) x:=fun x hx=>by
  have h1:=zns (fun e=>eval 3 e (za3 [] zar x.vals) ((T::r)++[za4 row])) zcn zar x.vals (za3 [] zar x.vals) ((T::r)++[za4 row]) (by rw [hrw x hx];simp [zac]) (by decide) (by simp) (fun y hy=>by
   simp only [List.mem_singleton] at hy;subst hy
   exact zfn 3 _ _ _ zrM (hin x hx).1 (hin x hx).2 hto.1 hto.2)
  have h2:asgn (fun e=>eval 3 e (za3 [] zar x.vals) ((T::r)++[za4 row])) zcn zar x.vals (za3 [] zar x.vals) ((T::r)++[za4 row])=([vInt (n+1),vNul],0):=by
   rw [hrw x hx]
   exact zwC _ n _ _ (zvA 1 ⟨hn.1,by omega⟩ _ _ hfi rfl)
  rw [h2] at h1;exact h1
 obtain ⟨upd,hupd,hC⟩:=zuQ (fun _=>true) (fun _=>[vInt (n+1),vNul]) zcn zar [] ((T::r)++[za4 row]) rfl rfl hto.1.len (by simp) (zks h hT zl7 (by decide) rfl (by show _=_;kernel_rfl)) (zpv _ zcn hto.1.len) (by rw [List.cons_append,show zcn.table=sLog from rfl,htb.2.1];rfl)
  (by rw [List.cons_append,show zcn.table=sLog from rfl,htb.1];exact hT.v.shr) (by rw [List.cons_append,show zcn.table=sLog from rfl,htb.1];exact hT.v.vals) (fun x _=>zcj _ _) (by rw [List.cons_append,show zcn.table=sLog from rfl,htb.1];exact hag)
 rw [List.cons_append,show zcn.table=sLog from rfl,htb.1] at hupd
 have hul:upd=[⟨nx,[vInt n,vNul],[vInt (n+1),vNul]⟩]:=by rw [hupd];rfl
 subst hul
 have hcv:ChV T ⟨[],[],[⟨nx,[vInt n,vNul],[vInt (n+1),vNul]⟩]⟩:=⟨.nil,fun d hd=>by simp at hd,by simp,fun p hp=>by
  simp only [List.mem_singleton] at hp;subst hp
  exact ⟨by simp [T,get6],rfl,rfl⟩,fun p hp=>by simp at hp,by simp,by simp,by simp⟩
 have hmid:midR ⟨[],[],[⟨nx,[vInt n,vNul],[vInt (n+1),vNul]⟩]⟩ T.rows=[⟨nx,[vInt (n+1),vNul]⟩]:=by
  simp [T,midR,midS,fnd7,anyI]
 have hA:=zg5 T ⟨[],[],[⟨nx,[vInt n,vNul],[vInt (n+1),vNul]⟩]⟩ hT.v hcv (fun p hp=>by simp only [List.mem_singleton] at hp;subst hp;simp [zac]) (fun p hp=>by simp only [List.mem_singleton] at hp;subst hp;exact zdu hrok2) (fun p hp=>by simp at hp) (by
   have h1:zbL zar [⟨nx,[vInt n,vNul],[vInt (n+1),vNul]⟩]=0:=zpI _ fun p hp=>by
    simp only [List.mem_singleton] at hp;subst hp;exact znw hT.v.sch hrok2
   show zby zar _=0
   unfold zby
   simp only [h1];rfl) (by unfold zfa;simp only [T,List.length_nil,List.length_cons];omega) (by unfold zdw;rw [hmid,show T.sch=zar from rfl,zkT];exact List.nodup_nil)
 have hap:apT T ⟨[],[],[⟨nx,[vInt n,vNul],[vInt (n+1),vNul]⟩]⟩=⟨zar,nx+1,[⟨nx,[vInt (n+1),vNul]⟩]⟩:=by
  unfold apT;rw [hmid];simp [T,insN]
 rw [hap] at hA
 have hrun:=ziU (T::r) [za4 row] [] zcn [tgSt acts] [] T ⟨zar,nx+1,[⟨nx,[vInt (n+1),vNul]⟩]⟩ 0 [⟨nx,[vInt n,vNul],[vInt (n+1),vNul]⟩] [sNn] (fun _ w=>w) rfl (ziS h hT) (zkY h) hC (h.log hT).to.len (h.sh hT) (by
   obtain ⟨o,ho,hc⟩:=zq7 sLog sNn zda
   subst ho;exact hc) (zgy hl ha 2 [sNn] (by simp) false) (zgy hl ha 2 [sNn] (by simp) true) (by simp) (fun p hp=>by
   simp only [List.mem_singleton] at hp;subst hp
   exact znG zar _ _ _ (h.log hT).to (h.log hT).tg (by decide) hnw hnw2) hA
 exact ⟨_,hrun⟩
end
end Go.AM
namespace Go.AM
set_option maxRecDepth 100000
set_option maxHeartbeats 4000000
set_option linter.unusedSimpArgs false
set_option linter.unusedVariables false
theorem zoH:zaa E0 S.law23_known [] [] (bv true) []:=by
 obtain ⟨r,rfl,h⟩:=zov
 exact h
end Go.AM
namespace Go.AM
set_option maxRecDepth 100000
set_option maxHeartbeats 4000000
set_option linter.unusedSimpArgs false
set_option linter.unusedVariables false
abbrev itS:Itm:=⟨⟨#[97]⟩,0,[],[]⟩
structure StepIn (m:List Tb):Prop where
 fire:FireIn m
 len:m.length≤900
 ins:∀ x∈m,zaA x sIns=false
structure StepN (n:Int):Prop where
 lo:0≤n
 hi:n≤999
structure StepOut (m:List Tb) (n:Int) (m2:List Tb):Prop where
 len:m2.length=m.length
 hd:hdT m2=⟨zar,(hdT m).next+1,[⟨(hdT m).next,[vInt (n+1),vNul]⟩]⟩
theorem StepIn.ex {m:List Tb} {row:List V} (h:StepIn m) (hr:RowU row):∃ T r,m=T::r∧LogT T∧StR r row∧(∀ x∈r,zaA x sIns=false)∧T.next≤3000:=by
 obtain ⟨T,r,rfl,h1,h2,h3⟩:=h.fire.sees.ex
 have hl:=h.len
 simp only [List.length_cons] at hl
 exact ⟨T,r,rfl,⟨h1.sch,h1.tab T (by simp),h2,by omega⟩,⟨fun x hx=>h1.tab x (by simp [hx]),by omega,hr⟩,fun x hx=>h.ins x (by simp [hx]),h3⟩
theorem zrI (m:List Tb) (row:List V) (acts:List Ac) (h:StepIn m) (hr:RowU row):FiIn m [tgSt acts] [dlN row] itS (tgSt acts) zbz (dlN row) (dlN row) [] [za4 row] 0 true:=by
 obtain ⟨T,r,rfl,hT,hR,_,_⟩:=h.ex hr
 refine ⟨⟨rfl,by simp⟩,?_,?_,?_,?_,?_,?_,?_,?_,h.fire.sees.short,h.fire.sh⟩
 ·have h1:=zdj [tgSt acts] itS (by simp [zac])
  have e:idxF (fun t=>tgN t itS.name) [tgSt acts] 0=(0:Nat):=by show _=_;kernel_rfl
  rw [e] at h1;exact h1
 ·have h1:=zfx (T::r) sUu h.fire.sees.short (fun x hx=>(h.fire.sh x hx).1)
  rw [h.fire.src] at h1;exact h1
 ·have h1:=zdv [dlN row] sUu (by simp [zac])
  have e:idxF (fun t=>dlC t sUu) [dlN row] 0=(0:Nat):=by show _=_;kernel_rfl
  rw [e] at h1
  obtain ⟨r,b,⟨rfl,rfl⟩,h2⟩:=zrv [dlN row] sUu 0 (dlN row) rfl (by simp) h1 (by decide)
  exact h2
 ·obtain ⟨o,ho,h2⟩:=zml (tgSt acts) zbz [] [] (zaP zkw) (by simp [zac]) (by simp [zac])
  have e:zaS (tgSt acts) zbz [] []=[]:=by show _=_;kernel_rfl
  rw [e] at ho
  subst ho;exact h2
 ·obtain ⟨o,ho,h2⟩:=zoe (tgSt acts) zbz (dlN row) rfl (by simp [zac,dlN]) (fun x hx=>by
   simp only [dlN,List.mem_singleton] at hx;subst hx;exact zeN _ hr.sh)
  subst ho;exact h2
 ·obtain ⟨o,ho,h2⟩:=zuc (tgSt acts) zbz sUu ⟨1,row⟩ rfl rfl rfl rfl rfl (zeN _ hr.sh) (fun x hx=>by simp only [List.mem_singleton] at hx;subst hx;exact zeN _ hr.sh) (zaP zkw) (by show IntKind.i64.wrap 2=2;decide)
  subst ho;exact h2
 ·exact zkY hR
 ·exact zcj _ _
abbrev msSt (m:List Tb) (n:Int) (i:Nat):List Tb :=
 match i with
 | 0=>m
 | 1=>stT m.tail (hdT m).next []
 | 2=>stT m.tail ((hdT m).next+1) [⟨(hdT m).next,[vInt n,vNul]⟩]
 | _=>stT m.tail ((hdT m).next+1) [⟨(hdT m).next,[vInt (n+1),vNul]⟩]
theorem zp0 {m:List Tb} {row:List V} {n:Int} (h:StepIn m) (hr:RowU row) (hn:StepN n) {acts:List Ac} (hl:acts.length≤4) (ha:∀ a∈acts,AcOk 3 a) :
  ∀ (i:Nat) (a:Ac),(zca n)[i]?=some a→FiStep [tgSt acts] [] [za4 row] (msSt m n i) (msSt m n (i+1)) a:=by
 obtain ⟨T,r,rfl,hT,hR,hri,hnx⟩:=h.ex hr
 have h1:=hn.lo
 have h2:=hn.hi
 have hp:=hT.v.rows.pos
 intro i a hx
 match i,hx with
 | 0,hx =>
  simp only [zca,List.getElem?_cons_zero,Option.some.injEq] at hx
  subst hx
  exact ⟨.inr (.inr rfl),zwL hl ha hR hT⟩
 | 1,hx =>
  simp only [zca,List.getElem?_cons_succ,List.getElem?_cons_zero,Option.some.injEq] at hx
  subst hx
  exact ⟨.inl rfl,zwg hl ha hR ⟨hp,by simp only [hdT,List.headD_cons];omega⟩ ⟨h1,by omega⟩⟩
 | 2,hx =>
  simp only [zca,List.getElem?_cons_succ,List.getElem?_cons_zero,Option.some.injEq] at hx
  subst hx
  exact ⟨.inr (.inl rfl),zws hl ha hR hri ⟨hp,by simp only [hdT,List.headD_cons];omega⟩ ⟨h1,h2⟩⟩
 | i+3,hx=>simp [zca] at hx
theorem zry {n:Int} (hn:StepN n):∀ a∈zca n++[acAb],AcOk 3 a:=fun a ha=>by
 have h1:=hn.lo
 have h2:=hn.hi
 simp only [zca,List.mem_append,List.mem_cons,List.not_mem_nil,or_false] at ha
 rcases ha with (rfl|rfl|rfl)|rfl
 ·exact zpC
 ·exact zpV ⟨h1,by omega⟩
 ·exact zl7
 ·exact zwb
theorem zlu (m:List Tb) (row:List V) (n:Int) (h:StepIn m) (hr:RowU row) (hn:StepN n):∃ (o:List (List AV)) (e:Int),e=12∧zaa E0 S.fire_Item [tsl m,.sl ([tgSt [zeb,zai sLog (zgR n),zcn,acAb]].map Tg.cells),.sl [],.sl ([dlN row].map Dl.cells),itS.av,.sl []] [] (.tup [.sl o,.sl [],.sl [],iv e]) []:=by
 have hf:=zrI m row (zca n++[acAb]) h hr
 exact zp5 [tgSt (zca n++[acAb])] [dlN row] itS (tgSt (zca n++[acAb])) zbz (dlN row) (dlN row) [] [za4 row] 0 (msSt m n) (zca n) acAb hf.short.1 hf.at_.1 hf.at_.2 hf.ix (by simp) hf.src hf.find hf.frames hf.mat hf.tra hf.conc hf.true_ hf.short.2 (by simp [zac]) ⟨rfl,rfl,by simp,zp0 h hr hn (by simp) (zry hn)⟩
theorem zt1 {n:Int} {m:List Tb} (hm:StoreV n m) (hn:n≤5):StepIn m:=by
 have hs:=hm.schs
 refine ⟨zum hm hn,?_,fun x hx=>?_⟩
 ·have:=congrArg List.length hs;simp [zao] at this;omega
 ·have h1:x.sch∈zao:=by rw [← hs];exact List.mem_map_of_mem hx
  unfold zaA
  simp only [zao,List.mem_cons,List.not_mem_nil,or_false] at h1
  rcases h1 with h1|h1|h1 <;> (rw [h1];show _=_;kernel_rfl)
end Go.AM
namespace Go.AM
set_option maxRecDepth 100000
set_option maxHeartbeats 4000000
set_option linter.unusedSimpArgs false
set_option linter.unusedVariables false
theorem zk0 {p:Prop} (h:p:=by first|assumption|rfl|exact zcK|omega):p:=h
abbrev live8:List Nat:=[0,6,8,9,35,42,50]
def cTl:Code→Code
 | .seq _ b=>b
 | c=>c
def cHd:Code→Code
 | .seq a _=>a
 | c=>c
def cOps:Code→List Oper
 | .region _ ops _=>ops.toList
 | _=>[]
noncomputable def zpn:Code:=cTl (cTl (cTl (cTl (cTl (cTl (cTl (cTl (B.law23_FireSteps.body.getD .skip))))))))
noncomputable def zuR (k:Nat):List It:=[.ops (cOps (cHd zpn)) ((cOps (cHd zpn)).drop k),.code (cTl zpn)]
noncomputable def fsC1 (n:Int) (t3:Tp) (m:List Tb) (row:List V):Cfg:=⟨B.law23_FireSteps.ntmps,zuR 16,[(0,iv n),(6,tsl m),(8,.sl ([dlN row].map Dl.cells)),(9,.p 1 0),(35,.agg [iv 3,sv sLog,.nl,.nl,.nl,.nl,sv ⟨#[]⟩]),(42,.agg [iv 1,sv sLog,.sl [[.sl [(xNum n).cells,(xLit vNul).cells]]],.nl,.nl,.nl,sv ⟨#[]⟩]),(50,.agg [iv 2,sv sLog,.nl,.nl,.sl [(Se.mk sNn zda).cells],.nl,sv ⟨#[]⟩])],[.box t3.cells,.box ((za8 []).cells.set 5 (.bl false))]⟩
noncomputable def fsC2 (n:Int) (t3:Tp) (m:List Tb) (row:List V):Cfg:=⟨B.law23_FireSteps.ntmps,zuR 17,[(51,.own 2 3),(0,iv n),(6,tsl m),(8,.sl ([dlN row].map Dl.cells)),(9,.p 1 0)],[.box t3.cells,.box ((za8 []).cells.set 5 (.bl false)),.row Ty.Action ((zca n).map Ac.cells) false]⟩
abbrev tSt (T:Tb) (n:Int):Tb:=⟨zar,T.next+1,[⟨T.next,[vInt (n+1),vNul]⟩]⟩
abbrev eqSt (n:Int):Bool:=(vInt (n+1)).kind==(zbA (n+1)).kind&&((vInt (n+1)).int==(zbA (n+1)).int&&((vInt (n+1)).text==(zbA (n+1)).text&&true))
theorem zmg (T b c:Tb) (row:List V) (n:Int) (h:StepIn [T,b,c]) (hr:RowU row) (hn:StepN n):∃ (e:Int),e=0∧zaa E0 S.fire_Item [tsl [T,b,c],.sl ([tgSt (zca n)].map Tg.cells),.sl [],.sl ([dlN row].map Dl.cells),itS.av,.sl []] [] (.tup [tsl [tSt T n,b,c],.sl [],.sl [],iv e]) []:=by
 have h1:=zlH (zrI [T,b,c] row (zca n) h hr) (msSt [T,b,c] n) rfl (by simp [zac]) (zp0 h hr hn (by simp) fun a ha=>zry hn a (List.mem_append_left _ ha))
 rw [show (bif true then msSt [T,b,c] n (tgSt (zca n)).acts.length else [T,b,c])=[tSt T n,b,c] from by kernel_rfl] at h1
 exact ⟨0,rfl,h1⟩
theorem fs_c {b:Bool} (h:b=false) (e:b=true):False:=by rw [h] at e;cases e
theorem c_fsE (n:Int) (t3:Tp) (T b c:Tb) (row:List V) (hw1:IntKind.i64.wrap (n+1)=n+1) (hw2:IntKind.i64.wrap (T.next+1)=T.next+1) (ht5:eqSt n=true) (hc6:(bif eqSt n then T.next+1==T.next+1 else false)=true) (hm:StepIn [T,b,c]) (hrow:RowU row) (hn:StepN n):∃ (r:Bool),r=true∧Good E0 B.law23_FireSteps [] (fsC2 n t3 [T,b,c] row) (Shut 0 fun rZ hZ=>rZ=(bv r)∧hZ=[]):=by
  obtain ⟨e1,q1,c1⟩:=(zmg T b c row n zk0 zk0 zk0)
  obtain ⟨o2,e2,q2,c2⟩:=(zlu ([T,b,c]) row n zk0 zk0 zk0)
  let p_1:List St:=[sqx (True∧True∧True∧True∧True∧True∧True∧True∧True∧True∧3=3∧True),sc c1,sqx (AllLen [[iv 4,sv (ByteArray.mk #[]),AV.sl [],AV.sl [],AV.sl [],AV.sl [],sv (ByteArray.mk #[120])]] 7∧3=3∧Nat.le 544 140737488355328),sqx (True∧True∧True∧True∧True∧True∧True∧True∧True∧True∧4=4∧True),sc c2]
  cases h3:e1==0
  ·exact ⟨false,(by first|exact congrArg (fun b:Bool=>bif b then true else false) h9|(subst q1;subst q2;exact (fs_c h9 hc6).elim)|(subst q1;subst q2;exact (fs_c h8 ht5).elim)|(subst q1;subst q2;exact (fs_c h7 kr).elim)|(subst q1;subst q2;exact (fs_c h6 kr).elim)|(subst q1;subst q2;exact (fs_c h5 kr).elim)|(subst q1;subst q2;exact (fs_c h4 kr).elim)|(subst q1;subst q2;exact (fs_c h3 kr).elim)),wkr (p_1++[sd [(3,[sb h3]),(4,[sb h3]),(5,[sb h3])]]) kr⟩
  ·cases h4:bif e1==0 then e2==12 else false
   ·exact ⟨false,(by first|exact congrArg (fun b:Bool=>bif b then true else false) h9|(subst q1;subst q2;exact (fs_c h9 hc6).elim)|(subst q1;subst q2;exact (fs_c h8 ht5).elim)|(subst q1;subst q2;exact (fs_c h7 kr).elim)|(subst q1;subst q2;exact (fs_c h6 kr).elim)|(subst q1;subst q2;exact (fs_c h5 kr).elim)|(subst q1;subst q2;exact (fs_c h4 kr).elim)|(subst q1;subst q2;exact (fs_c h3 kr).elim)),wkr (p_1++[sd [(3,[sg h3]),(4,[sg h3]),(7,[sb h4]),(8,[sb h4]),(9,[sb h4]),(10,[sb h4]),(11,[sb h4]),(12,[sb h4])]]) kr⟩
   ·cases h5:bif bif e1==0 then e2==12 else false then (↑[[sv (tSt T n).sch.name,AV.sl [[sv (ByteArray.mk #[110]),iv 1,bv false,bv false],[sv (ByteArray.mk #[115]),iv 3,bv false,bv false]],iv (tSt T n).next,AV.sl [[iv T.next,AV.sl [[iv (vInt (n+1)).kind,iv (vInt (n+1)).int,sv (vInt (n+1)).text],[iv vNul.kind,iv vNul.int,sv vNul.text]]]]],[sv b.sch.name,AV.sl (List.map Col.cells b.sch.cols),iv b.next,AV.sl (List.map Rw.cells b.rows)],[sv c.sch.name,AV.sl (List.map Col.cells c.sch.cols),iv c.next,AV.sl (List.map Rw.cells c.rows)]].length:Int)==(↑[[sv T.sch.name,AV.sl (List.map Col.cells T.sch.cols),iv T.next,AV.sl (List.map Rw.cells T.rows)],[sv b.sch.name,AV.sl (List.map Col.cells b.sch.cols),iv b.next,AV.sl (List.map Rw.cells b.rows)],[sv c.sch.name,AV.sl (List.map Col.cells c.sch.cols),iv c.next,AV.sl (List.map Rw.cells c.rows)]].length:Int) else false
    ·exact ⟨false,(by first|exact congrArg (fun b:Bool=>bif b then true else false) h9|(subst q1;subst q2;exact (fs_c h9 hc6).elim)|(subst q1;subst q2;exact (fs_c h8 ht5).elim)|(subst q1;subst q2;exact (fs_c h7 kr).elim)|(subst q1;subst q2;exact (fs_c h6 kr).elim)|(subst q1;subst q2;exact (fs_c h5 kr).elim)|(subst q1;subst q2;exact (fs_c h4 kr).elim)|(subst q1;subst q2;exact (fs_c h3 kr).elim)),wkr (p_1++[sd [(3,[sg h3]),(4,[sg h3]),(7,[sg h4]),(8,[sg h4]),(9,[sg h4]),(10,[sg h4]),(11,[sg h4]),(14,[sb h5]),(15,[sb h5]),(16,[sb h5]),(17,[sb h5]),(18,[sb h5]),(19,[sb h5]),(20,[sb h5])]]) kr⟩
    ·cases h6:bif bif bif e1==0 then e2==12 else false then (↑[[sv (tSt T n).sch.name,AV.sl [[sv (ByteArray.mk #[110]),iv 1,bv false,bv false],[sv (ByteArray.mk #[115]),iv 3,bv false,bv false]],iv (tSt T n).next,AV.sl [[iv T.next,AV.sl [[iv (vInt (n+1)).kind,iv (vInt (n+1)).int,sv (vInt (n+1)).text],[iv vNul.kind,iv vNul.int,sv vNul.text]]]]],[sv b.sch.name,AV.sl (List.map Col.cells b.sch.cols),iv b.next,AV.sl (List.map Rw.cells b.rows)],[sv c.sch.name,AV.sl (List.map Col.cells c.sch.cols),iv c.next,AV.sl (List.map Rw.cells c.rows)]].length:Int)==(↑[[sv T.sch.name,AV.sl (List.map Col.cells T.sch.cols),iv T.next,AV.sl (List.map Rw.cells T.rows)],[sv b.sch.name,AV.sl (List.map Col.cells b.sch.cols),iv b.next,AV.sl (List.map Rw.cells b.rows)],[sv c.sch.name,AV.sl (List.map Col.cells c.sch.cols),iv c.next,AV.sl (List.map Rw.cells c.rows)]].length:Int) else false then (↑[[iv T.next,AV.sl [[iv (vInt (n+1)).kind,iv (vInt (n+1)).int,sv (vInt (n+1)).text],[iv vNul.kind,iv vNul.int,sv vNul.text]]]].length:Int)==1 else false
     ·exact ⟨false,(by first|exact congrArg (fun b:Bool=>bif b then true else false) h9|(subst q1;subst q2;exact (fs_c h9 hc6).elim)|(subst q1;subst q2;exact (fs_c h8 ht5).elim)|(subst q1;subst q2;exact (fs_c h7 kr).elim)|(subst q1;subst q2;exact (fs_c h6 kr).elim)|(subst q1;subst q2;exact (fs_c h5 kr).elim)|(subst q1;subst q2;exact (fs_c h4 kr).elim)|(subst q1;subst q2;exact (fs_c h3 kr).elim)),wkr (p_1++[sd [(3,[sg h3]),(4,[sg h3]),(7,[sg h4]),(8,[sg h4]),(9,[sg h4]),(10,[sg h4]),(11,[sg h4]),(14,[sg h5]),(15,[so h5 (se (xs:=[[sv (tSt T n).sch.name,AV.sl [[sv (ByteArray.mk #[110]),iv 1,bv false,bv false],[sv (ByteArray.mk #[115]),iv 3,bv false,bv false]],iv (tSt T n).next,AV.sl [[iv T.next,AV.sl [[iv (vInt (n+1)).kind,iv (vInt (n+1)).int,sv (vInt (n+1)).text],[iv vNul.kind,iv vNul.int,sv vNul.text]]]]],[sv b.sch.name,AV.sl (List.map Col.cells b.sch.cols),iv b.next,AV.sl (List.map Rw.cells b.rows)],[sv c.sch.name,AV.sl (List.map Col.cells c.sch.cols),iv c.next,AV.sl (List.map Rw.cells c.rows)]]) (i:=0) (c:=[sv (tSt T n).sch.name,AV.sl [[sv (ByteArray.mk #[110]),iv 1,bv false,bv false],[sv (ByteArray.mk #[115]),iv 3,bv false,bv false]],iv (tSt T n).next,AV.sl [[iv T.next,AV.sl [[iv (vInt (n+1)).kind,iv (vInt (n+1)).int,sv (vInt (n+1)).text],[iv vNul.kind,iv vNul.int,sv vNul.text]]]]]) (n:=4) ⟨by decide,rfl,rfl⟩)]),(16,[sg h5]),(17,[sg h5]),(18,[sg h5]),(19,[sg h5]),(22,[sb h6]),(23,[sb h6]),(24,[sb h6]),(25,[sb h6]),(26,[sb h6]),(27,[sb h6]),(28,[sb h6]),(29,[sb h6]),(30,[sb h6]),(31,[sb h6])]]) kr⟩
     ·cases h7:bif bif bif bif e1==0 then e2==12 else false then (↑[[sv (tSt T n).sch.name,AV.sl [[sv (ByteArray.mk #[110]),iv 1,bv false,bv false],[sv (ByteArray.mk #[115]),iv 3,bv false,bv false]],iv (tSt T n).next,AV.sl [[iv T.next,AV.sl [[iv (vInt (n+1)).kind,iv (vInt (n+1)).int,sv (vInt (n+1)).text],[iv vNul.kind,iv vNul.int,sv vNul.text]]]]],[sv b.sch.name,AV.sl (List.map Col.cells b.sch.cols),iv b.next,AV.sl (List.map Rw.cells b.rows)],[sv c.sch.name,AV.sl (List.map Col.cells c.sch.cols),iv c.next,AV.sl (List.map Rw.cells c.rows)]].length:Int)==(↑[[sv T.sch.name,AV.sl (List.map Col.cells T.sch.cols),iv T.next,AV.sl (List.map Rw.cells T.rows)],[sv b.sch.name,AV.sl (List.map Col.cells b.sch.cols),iv b.next,AV.sl (List.map Rw.cells b.rows)],[sv c.sch.name,AV.sl (List.map Col.cells c.sch.cols),iv c.next,AV.sl (List.map Rw.cells c.rows)]].length:Int) else false then (↑[[iv T.next,AV.sl [[iv (vInt (n+1)).kind,iv (vInt (n+1)).int,sv (vInt (n+1)).text],[iv vNul.kind,iv vNul.int,sv vNul.text]]]].length:Int)==1 else false then (↑[[iv (vInt (n+1)).kind,iv (vInt (n+1)).int,sv (vInt (n+1)).text],[iv vNul.kind,iv vNul.int,sv vNul.text]].length:Int)==2 else false
      ·exact ⟨false,(by first|exact congrArg (fun b:Bool=>bif b then true else false) h9|(subst q1;subst q2;exact (fs_c h9 hc6).elim)|(subst q1;subst q2;exact (fs_c h8 ht5).elim)|(subst q1;subst q2;exact (fs_c h7 kr).elim)|(subst q1;subst q2;exact (fs_c h6 kr).elim)|(subst q1;subst q2;exact (fs_c h5 kr).elim)|(subst q1;subst q2;exact (fs_c h4 kr).elim)|(subst q1;subst q2;exact (fs_c h3 kr).elim)),wkr (p_1++[sd [(3,[sg h3]),(4,[sg h3]),(7,[sg h4]),(8,[sg h4]),(9,[sg h4]),(10,[sg h4]),(11,[sg h4]),(14,[sg h5]),(15,[so h5 (se (xs:=[[sv (tSt T n).sch.name,AV.sl [[sv (ByteArray.mk #[110]),iv 1,bv false,bv false],[sv (ByteArray.mk #[115]),iv 3,bv false,bv false]],iv (tSt T n).next,AV.sl [[iv T.next,AV.sl [[iv (vInt (n+1)).kind,iv (vInt (n+1)).int,sv (vInt (n+1)).text],[iv vNul.kind,iv vNul.int,sv vNul.text]]]]],[sv b.sch.name,AV.sl (List.map Col.cells b.sch.cols),iv b.next,AV.sl (List.map Rw.cells b.rows)],[sv c.sch.name,AV.sl (List.map Col.cells c.sch.cols),iv c.next,AV.sl (List.map Rw.cells c.rows)]]) (i:=0) (c:=[sv (tSt T n).sch.name,AV.sl [[sv (ByteArray.mk #[110]),iv 1,bv false,bv false],[sv (ByteArray.mk #[115]),iv 3,bv false,bv false]],iv (tSt T n).next,AV.sl [[iv T.next,AV.sl [[iv (vInt (n+1)).kind,iv (vInt (n+1)).int,sv (vInt (n+1)).text],[iv vNul.kind,iv vNul.int,sv vNul.text]]]]]) (n:=4) ⟨by decide,rfl,rfl⟩)]),(16,[sg h5]),(17,[sg h5]),(18,[sg h5]),(19,[sg h5]),(22,[sg h6]),(23,[so h6 (se (xs:=[[sv (tSt T n).sch.name,AV.sl [[sv (ByteArray.mk #[110]),iv 1,bv false,bv false],[sv (ByteArray.mk #[115]),iv 3,bv false,bv false]],iv (tSt T n).next,AV.sl [[iv T.next,AV.sl [[iv (vInt (n+1)).kind,iv (vInt (n+1)).int,sv (vInt (n+1)).text],[iv vNul.kind,iv vNul.int,sv vNul.text]]]]],[sv b.sch.name,AV.sl (List.map Col.cells b.sch.cols),iv b.next,AV.sl (List.map Rw.cells b.rows)],[sv c.sch.name,AV.sl (List.map Col.cells c.sch.cols),iv c.next,AV.sl (List.map Rw.cells c.rows)]]) (i:=0) (c:=[sv (tSt T n).sch.name,AV.sl [[sv (ByteArray.mk #[110]),iv 1,bv false,bv false],[sv (ByteArray.mk #[115]),iv 3,bv false,bv false]],iv (tSt T n).next,AV.sl [[iv T.next,AV.sl [[iv (vInt (n+1)).kind,iv (vInt (n+1)).int,sv (vInt (n+1)).text],[iv vNul.kind,iv vNul.int,sv vNul.text]]]]]) (n:=4) ⟨by decide,rfl,rfl⟩)]),(24,[sg h6]),(25,[sg h6]),(26,[so h6 (se (zf3 (iv T.next) (AV.sl [[iv (vInt (n+1)).kind,iv (vInt (n+1)).int,sv (vInt (n+1)).text],[iv vNul.kind,iv vNul.int,sv vNul.text]])))]),(27,[sg h6]),(28,[sg h6]),(29,[sg h6]),(30,[sg h6]),(33,[sb h7]),(34,[sb h7]),(35,[sb h7]),(36,[sb h7]),(37,[sb h7]),(38,[sb h7]),(39,[sb h7]),(40,[sb h7]),(41,[sb h7]),(42,[sb h7]),(43,[sb h7]),(44,[sb h7]),(45,[sb h7]),(46,[sb h7])]]) kr⟩
      ·cases h8:bif bif bif bif bif e1==0 then e2==12 else false then (↑[[sv (tSt T n).sch.name,AV.sl [[sv (ByteArray.mk #[110]),iv 1,bv false,bv false],[sv (ByteArray.mk #[115]),iv 3,bv false,bv false]],iv (tSt T n).next,AV.sl [[iv T.next,AV.sl [[iv (vInt (n+1)).kind,iv (vInt (n+1)).int,sv (vInt (n+1)).text],[iv vNul.kind,iv vNul.int,sv vNul.text]]]]],[sv b.sch.name,AV.sl (List.map Col.cells b.sch.cols),iv b.next,AV.sl (List.map Rw.cells b.rows)],[sv c.sch.name,AV.sl (List.map Col.cells c.sch.cols),iv c.next,AV.sl (List.map Rw.cells c.rows)]].length:Int)==(↑[[sv T.sch.name,AV.sl (List.map Col.cells T.sch.cols),iv T.next,AV.sl (List.map Rw.cells T.rows)],[sv b.sch.name,AV.sl (List.map Col.cells b.sch.cols),iv b.next,AV.sl (List.map Rw.cells b.rows)],[sv c.sch.name,AV.sl (List.map Col.cells c.sch.cols),iv c.next,AV.sl (List.map Rw.cells c.rows)]].length:Int) else false then (↑[[iv T.next,AV.sl [[iv (vInt (n+1)).kind,iv (vInt (n+1)).int,sv (vInt (n+1)).text],[iv vNul.kind,iv vNul.int,sv vNul.text]]]].length:Int)==1 else false then (↑[[iv (vInt (n+1)).kind,iv (vInt (n+1)).int,sv (vInt (n+1)).text],[iv vNul.kind,iv vNul.int,sv vNul.text]].length:Int)==2 else false then (vInt (n+1)).kind==(zbA (n+1)).kind&&((vInt (n+1)).int==(zbA (n+1)).int&&((vInt (n+1)).text==(zbA (n+1)).text&&true)) else false
       ·exact ⟨false,(by first|exact congrArg (fun b:Bool=>bif b then true else false) h9|(subst q1;subst q2;exact (fs_c h9 hc6).elim)|(subst q1;subst q2;exact (fs_c h8 ht5).elim)|(subst q1;subst q2;exact (fs_c h7 kr).elim)|(subst q1;subst q2;exact (fs_c h6 kr).elim)|(subst q1;subst q2;exact (fs_c h5 kr).elim)|(subst q1;subst q2;exact (fs_c h4 kr).elim)|(subst q1;subst q2;exact (fs_c h3 kr).elim)),wkr (p_1++[sd [(3,[sg h3]),(4,[sg h3]),(7,[sg h4]),(8,[sg h4]),(9,[sg h4]),(10,[sg h4]),(11,[sg h4]),(14,[sg h5]),(15,[so h5 (se (xs:=[[sv (tSt T n).sch.name,AV.sl [[sv (ByteArray.mk #[110]),iv 1,bv false,bv false],[sv (ByteArray.mk #[115]),iv 3,bv false,bv false]],iv (tSt T n).next,AV.sl [[iv T.next,AV.sl [[iv (vInt (n+1)).kind,iv (vInt (n+1)).int,sv (vInt (n+1)).text],[iv vNul.kind,iv vNul.int,sv vNul.text]]]]],[sv b.sch.name,AV.sl (List.map Col.cells b.sch.cols),iv b.next,AV.sl (List.map Rw.cells b.rows)],[sv c.sch.name,AV.sl (List.map Col.cells c.sch.cols),iv c.next,AV.sl (List.map Rw.cells c.rows)]]) (i:=0) (c:=[sv (tSt T n).sch.name,AV.sl [[sv (ByteArray.mk #[110]),iv 1,bv false,bv false],[sv (ByteArray.mk #[115]),iv 3,bv false,bv false]],iv (tSt T n).next,AV.sl [[iv T.next,AV.sl [[iv (vInt (n+1)).kind,iv (vInt (n+1)).int,sv (vInt (n+1)).text],[iv vNul.kind,iv vNul.int,sv vNul.text]]]]]) (n:=4) ⟨by decide,rfl,rfl⟩)]),(16,[sg h5]),(17,[sg h5]),(18,[sg h5]),(19,[sg h5]),(22,[sg h6]),(23,[so h6 (se (xs:=[[sv (tSt T n).sch.name,AV.sl [[sv (ByteArray.mk #[110]),iv 1,bv false,bv false],[sv (ByteArray.mk #[115]),iv 3,bv false,bv false]],iv (tSt T n).next,AV.sl [[iv T.next,AV.sl [[iv (vInt (n+1)).kind,iv (vInt (n+1)).int,sv (vInt (n+1)).text],[iv vNul.kind,iv vNul.int,sv vNul.text]]]]],[sv b.sch.name,AV.sl (List.map Col.cells b.sch.cols),iv b.next,AV.sl (List.map Rw.cells b.rows)],[sv c.sch.name,AV.sl (List.map Col.cells c.sch.cols),iv c.next,AV.sl (List.map Rw.cells c.rows)]]) (i:=0) (c:=[sv (tSt T n).sch.name,AV.sl [[sv (ByteArray.mk #[110]),iv 1,bv false,bv false],[sv (ByteArray.mk #[115]),iv 3,bv false,bv false]],iv (tSt T n).next,AV.sl [[iv T.next,AV.sl [[iv (vInt (n+1)).kind,iv (vInt (n+1)).int,sv (vInt (n+1)).text],[iv vNul.kind,iv vNul.int,sv vNul.text]]]]]) (n:=4) ⟨by decide,rfl,rfl⟩)]),(24,[sg h6]),(25,[sg h6]),(26,[so h6 (se (zf3 (iv T.next) (AV.sl [[iv (vInt (n+1)).kind,iv (vInt (n+1)).int,sv (vInt (n+1)).text],[iv vNul.kind,iv vNul.int,sv vNul.text]])))]),(27,[sg h6]),(28,[sg h6]),(29,[sg h6]),(30,[sg h6]),(33,[sg h7]),(34,[so h7 (se (xs:=[[sv (tSt T n).sch.name,AV.sl [[sv (ByteArray.mk #[110]),iv 1,bv false,bv false],[sv (ByteArray.mk #[115]),iv 3,bv false,bv false]],iv (tSt T n).next,AV.sl [[iv T.next,AV.sl [[iv (vInt (n+1)).kind,iv (vInt (n+1)).int,sv (vInt (n+1)).text],[iv vNul.kind,iv vNul.int,sv vNul.text]]]]],[sv b.sch.name,AV.sl (List.map Col.cells b.sch.cols),iv b.next,AV.sl (List.map Rw.cells b.rows)],[sv c.sch.name,AV.sl (List.map Col.cells c.sch.cols),iv c.next,AV.sl (List.map Rw.cells c.rows)]]) (i:=0) (c:=[sv (tSt T n).sch.name,AV.sl [[sv (ByteArray.mk #[110]),iv 1,bv false,bv false],[sv (ByteArray.mk #[115]),iv 3,bv false,bv false]],iv (tSt T n).next,AV.sl [[iv T.next,AV.sl [[iv (vInt (n+1)).kind,iv (vInt (n+1)).int,sv (vInt (n+1)).text],[iv vNul.kind,iv vNul.int,sv vNul.text]]]]]) (n:=4) ⟨by decide,rfl,rfl⟩)]),(35,[sg h7]),(36,[sg h7]),(37,[so h7 (se (zf3 (iv T.next) (AV.sl [[iv (vInt (n+1)).kind,iv (vInt (n+1)).int,sv (vInt (n+1)).text],[iv vNul.kind,iv vNul.int,sv vNul.text]])))]),(38,[sg h7]),(39,[sg h7]),(40,[so h7 (se (xs:=[[iv (vInt (n+1)).kind,iv (vInt (n+1)).int,sv (vInt (n+1)).text],[iv vNul.kind,iv vNul.int,sv vNul.text]]) (i:=0) (c:=[iv (vInt (n+1)).kind,iv (vInt (n+1)).int,sv (vInt (n+1)).text]) (n:=3) ⟨by decide,rfl,rfl⟩)]),(41,[sg h7]),(42,[sg h7]),(43,[so h7 (si hw1)]),(44,[so h7 (sc (zcL (n+1)))]),(45,[so h7 (sq za9)]),(48,[sb h8]),(49,[sb h8]),(50,[sb h8]),(51,[sb h8]),(52,[sb h8]),(53,[sb h8]),(54,[sb h8]),(55,[sb h8]),(56,[sb h8]),(57,[sb h8]),(58,[sb h8])]]) kr⟩
       ·cases h9:bif bif bif bif bif bif e1==0 then e2==12 else false then (↑[[sv (tSt T n).sch.name,AV.sl [[sv (ByteArray.mk #[110]),iv 1,bv false,bv false],[sv (ByteArray.mk #[115]),iv 3,bv false,bv false]],iv (tSt T n).next,AV.sl [[iv T.next,AV.sl [[iv (vInt (n+1)).kind,iv (vInt (n+1)).int,sv (vInt (n+1)).text],[iv vNul.kind,iv vNul.int,sv vNul.text]]]]],[sv b.sch.name,AV.sl (List.map Col.cells b.sch.cols),iv b.next,AV.sl (List.map Rw.cells b.rows)],[sv c.sch.name,AV.sl (List.map Col.cells c.sch.cols),iv c.next,AV.sl (List.map Rw.cells c.rows)]].length:Int)==(↑[[sv T.sch.name,AV.sl (List.map Col.cells T.sch.cols),iv T.next,AV.sl (List.map Rw.cells T.rows)],[sv b.sch.name,AV.sl (List.map Col.cells b.sch.cols),iv b.next,AV.sl (List.map Rw.cells b.rows)],[sv c.sch.name,AV.sl (List.map Col.cells c.sch.cols),iv c.next,AV.sl (List.map Rw.cells c.rows)]].length:Int) else false then (↑[[iv T.next,AV.sl [[iv (vInt (n+1)).kind,iv (vInt (n+1)).int,sv (vInt (n+1)).text],[iv vNul.kind,iv vNul.int,sv vNul.text]]]].length:Int)==1 else false then (↑[[iv (vInt (n+1)).kind,iv (vInt (n+1)).int,sv (vInt (n+1)).text],[iv vNul.kind,iv vNul.int,sv vNul.text]].length:Int)==2 else false then (vInt (n+1)).kind==(zbA (n+1)).kind&&((vInt (n+1)).int==(zbA (n+1)).int&&((vInt (n+1)).text==(zbA (n+1)).text&&true)) else false then (tSt T n).next==T.next+1 else false
        ·exact ⟨false,(by first|exact congrArg (fun b:Bool=>bif b then true else false) h9|(subst q1;subst q2;exact (fs_c h9 hc6).elim)|(subst q1;subst q2;exact (fs_c h8 ht5).elim)|(subst q1;subst q2;exact (fs_c h7 kr).elim)|(subst q1;subst q2;exact (fs_c h6 kr).elim)|(subst q1;subst q2;exact (fs_c h5 kr).elim)|(subst q1;subst q2;exact (fs_c h4 kr).elim)|(subst q1;subst q2;exact (fs_c h3 kr).elim)),wkr (p_1++[sd [(3,[sg h3]),(4,[sg h3]),(7,[sg h4]),(8,[sg h4]),(9,[sg h4]),(10,[sg h4]),(11,[sg h4]),(14,[sg h5]),(15,[so h5 (se (xs:=[[sv (tSt T n).sch.name,AV.sl [[sv (ByteArray.mk #[110]),iv 1,bv false,bv false],[sv (ByteArray.mk #[115]),iv 3,bv false,bv false]],iv (tSt T n).next,AV.sl [[iv T.next,AV.sl [[iv (vInt (n+1)).kind,iv (vInt (n+1)).int,sv (vInt (n+1)).text],[iv vNul.kind,iv vNul.int,sv vNul.text]]]]],[sv b.sch.name,AV.sl (List.map Col.cells b.sch.cols),iv b.next,AV.sl (List.map Rw.cells b.rows)],[sv c.sch.name,AV.sl (List.map Col.cells c.sch.cols),iv c.next,AV.sl (List.map Rw.cells c.rows)]]) (i:=0) (c:=[sv (tSt T n).sch.name,AV.sl [[sv (ByteArray.mk #[110]),iv 1,bv false,bv false],[sv (ByteArray.mk #[115]),iv 3,bv false,bv false]],iv (tSt T n).next,AV.sl [[iv T.next,AV.sl [[iv (vInt (n+1)).kind,iv (vInt (n+1)).int,sv (vInt (n+1)).text],[iv vNul.kind,iv vNul.int,sv vNul.text]]]]]) (n:=4) ⟨by decide,rfl,rfl⟩)]),(16,[sg h5]),(17,[sg h5]),(18,[sg h5]),(19,[sg h5]),(22,[sg h6]),(23,[so h6 (se (xs:=[[sv (tSt T n).sch.name,AV.sl [[sv (ByteArray.mk #[110]),iv 1,bv false,bv false],[sv (ByteArray.mk #[115]),iv 3,bv false,bv false]],iv (tSt T n).next,AV.sl [[iv T.next,AV.sl [[iv (vInt (n+1)).kind,iv (vInt (n+1)).int,sv (vInt (n+1)).text],[iv vNul.kind,iv vNul.int,sv vNul.text]]]]],[sv b.sch.name,AV.sl (List.map Col.cells b.sch.cols),iv b.next,AV.sl (List.map Rw.cells b.rows)],[sv c.sch.name,AV.sl (List.map Col.cells c.sch.cols),iv c.next,AV.sl (List.map Rw.cells c.rows)]]) (i:=0) (c:=[sv (tSt T n).sch.name,AV.sl [[sv (ByteArray.mk #[110]),iv 1,bv false,bv false],[sv (ByteArray.mk #[115]),iv 3,bv false,bv false]],iv (tSt T n).next,AV.sl [[iv T.next,AV.sl [[iv (vInt (n+1)).kind,iv (vInt (n+1)).int,sv (vInt (n+1)).text],[iv vNul.kind,iv vNul.int,sv vNul.text]]]]]) (n:=4) ⟨by decide,rfl,rfl⟩)]),(24,[sg h6]),(25,[sg h6]),(26,[so h6 (se (zf3 (iv T.next) (AV.sl [[iv (vInt (n+1)).kind,iv (vInt (n+1)).int,sv (vInt (n+1)).text],[iv vNul.kind,iv vNul.int,sv vNul.text]])))]),(27,[sg h6]),(28,[sg h6]),(29,[sg h6]),(30,[sg h6]),(33,[sg h7]),(34,[so h7 (se (xs:=[[sv (tSt T n).sch.name,AV.sl [[sv (ByteArray.mk #[110]),iv 1,bv false,bv false],[sv (ByteArray.mk #[115]),iv 3,bv false,bv false]],iv (tSt T n).next,AV.sl [[iv T.next,AV.sl [[iv (vInt (n+1)).kind,iv (vInt (n+1)).int,sv (vInt (n+1)).text],[iv vNul.kind,iv vNul.int,sv vNul.text]]]]],[sv b.sch.name,AV.sl (List.map Col.cells b.sch.cols),iv b.next,AV.sl (List.map Rw.cells b.rows)],[sv c.sch.name,AV.sl (List.map Col.cells c.sch.cols),iv c.next,AV.sl (List.map Rw.cells c.rows)]]) (i:=0) (c:=[sv (tSt T n).sch.name,AV.sl [[sv (ByteArray.mk #[110]),iv 1,bv false,bv false],[sv (ByteArray.mk #[115]),iv 3,bv false,bv false]],iv (tSt T n).next,AV.sl [[iv T.next,AV.sl [[iv (vInt (n+1)).kind,iv (vInt (n+1)).int,sv (vInt (n+1)).text],[iv vNul.kind,iv vNul.int,sv vNul.text]]]]]) (n:=4) ⟨by decide,rfl,rfl⟩)]),(35,[sg h7]),(36,[sg h7]),(37,[so h7 (se (zf3 (iv T.next) (AV.sl [[iv (vInt (n+1)).kind,iv (vInt (n+1)).int,sv (vInt (n+1)).text],[iv vNul.kind,iv vNul.int,sv vNul.text]])))]),(38,[sg h7]),(39,[sg h7]),(40,[so h7 (se (xs:=[[iv (vInt (n+1)).kind,iv (vInt (n+1)).int,sv (vInt (n+1)).text],[iv vNul.kind,iv vNul.int,sv vNul.text]]) (i:=0) (c:=[iv (vInt (n+1)).kind,iv (vInt (n+1)).int,sv (vInt (n+1)).text]) (n:=3) ⟨by decide,rfl,rfl⟩)]),(41,[sg h7]),(42,[sg h7]),(43,[so h7 (si hw1)]),(44,[so h7 (sc (zcL (n+1)))]),(45,[so h7 (sq za9)]),(48,[sg h8]),(49,[so h8 (se (xs:=[[sv (tSt T n).sch.name,AV.sl [[sv (ByteArray.mk #[110]),iv 1,bv false,bv false],[sv (ByteArray.mk #[115]),iv 3,bv false,bv false]],iv (tSt T n).next,AV.sl [[iv T.next,AV.sl [[iv (vInt (n+1)).kind,iv (vInt (n+1)).int,sv (vInt (n+1)).text],[iv vNul.kind,iv vNul.int,sv vNul.text]]]]],[sv b.sch.name,AV.sl (List.map Col.cells b.sch.cols),iv b.next,AV.sl (List.map Rw.cells b.rows)],[sv c.sch.name,AV.sl (List.map Col.cells c.sch.cols),iv c.next,AV.sl (List.map Rw.cells c.rows)]]) (i:=0) (c:=[sv (tSt T n).sch.name,AV.sl [[sv (ByteArray.mk #[110]),iv 1,bv false,bv false],[sv (ByteArray.mk #[115]),iv 3,bv false,bv false]],iv (tSt T n).next,AV.sl [[iv T.next,AV.sl [[iv (vInt (n+1)).kind,iv (vInt (n+1)).int,sv (vInt (n+1)).text],[iv vNul.kind,iv vNul.int,sv vNul.text]]]]]) (n:=4) ⟨by decide,rfl,rfl⟩)]),(50,[sg h8]),(51,[sg h8]),(52,[sg h8]),(53,[so h8 (se (xs:=[[sv T.sch.name,AV.sl (List.map Col.cells T.sch.cols),iv T.next,AV.sl (List.map Rw.cells T.rows)],[sv b.sch.name,AV.sl (List.map Col.cells b.sch.cols),iv b.next,AV.sl (List.map Rw.cells b.rows)],[sv c.sch.name,AV.sl (List.map Col.cells c.sch.cols),iv c.next,AV.sl (List.map Rw.cells c.rows)]]) (i:=0) (c:=[sv T.sch.name,AV.sl (List.map Col.cells T.sch.cols),iv T.next,AV.sl (List.map Rw.cells T.rows)]) (n:=4) ⟨by decide,rfl,rfl⟩)]),(54,[sg h8]),(55,[sg h8]),(56,[so h8 (si hw2)]),(57,[sg h8]),(60,[sb h9]),(61,[sb h9])]]) kr⟩
        ·exact ⟨bif bif bif bif bif bif bif e1==(0:Int) then e2==(12:Int) else false then (↑[[sv (tSt T n).sch.name,AV.sl [[sv (ByteArray.mk #[(110:UInt8)]),iv (1:Int),bv false,bv false],[sv (ByteArray.mk #[(115:UInt8)]),iv (3:Int),bv false,bv false]],iv (tSt T n).next,AV.sl [[iv T.next,AV.sl [[iv (vInt (n+(1:Int))).kind,iv (vInt (n+(1:Int))).int,sv (vInt (n+(1:Int))).text],[iv vNul.kind,iv vNul.int,sv vNul.text]]]]],[sv b.sch.name,AV.sl (List.map Col.cells b.sch.cols),iv b.next,AV.sl (List.map Rw.cells b.rows)],[sv c.sch.name,AV.sl (List.map Col.cells c.sch.cols),iv c.next,AV.sl (List.map Rw.cells c.rows)]].length:Int)==(↑[[sv T.sch.name,AV.sl (List.map Col.cells T.sch.cols),iv T.next,AV.sl (List.map Rw.cells T.rows)],[sv b.sch.name,AV.sl (List.map Col.cells b.sch.cols),iv b.next,AV.sl (List.map Rw.cells b.rows)],[sv c.sch.name,AV.sl (List.map Col.cells c.sch.cols),iv c.next,AV.sl (List.map Rw.cells c.rows)]].length:Int) else false then (↑[[iv T.next,AV.sl [[iv (vInt (n+(1:Int))).kind,iv (vInt (n+(1:Int))).int,sv (vInt (n+(1:Int))).text],[iv vNul.kind,iv vNul.int,sv vNul.text]]]].length:Int)==(1:Int) else false then (↑[[iv (vInt (n+(1:Int))).kind,iv (vInt (n+(1:Int))).int,sv (vInt (n+(1:Int))).text],[iv vNul.kind,iv vNul.int,sv vNul.text]].length:Int)==(2:Int) else false then (vInt (n+(1:Int))).kind==(zbA (n+(1:Int))).kind&&((vInt (n+(1:Int))).int==(zbA (n+(1:Int))).int&&((vInt (n+(1:Int))).text==(zbA (n+(1:Int))).text&&true)) else false then (tSt T n).next==T.next+(1:Int) else false then true else false,(by first|exact congrArg (fun b:Bool=>bif b then true else false) h9|(subst q1;subst q2;exact (fs_c h9 hc6).elim)|(subst q1;subst q2;exact (fs_c h8 ht5).elim)|(subst q1;subst q2;exact (fs_c h7 kr).elim)|(subst q1;subst q2;exact (fs_c h6 kr).elim)|(subst q1;subst q2;exact (fs_c h5 kr).elim)|(subst q1;subst q2;exact (fs_c h4 kr).elim)|(subst q1;subst q2;exact (fs_c h3 kr).elim)),wkrS (y:=bv (bif bif bif bif bif bif bif e1==0 then e2==12 else false then (↑[[sv (tSt T n).sch.name,AV.sl [[sv (ByteArray.mk #[110]),iv 1,bv false,bv false],[sv (ByteArray.mk #[115]),iv 3,bv false,bv false]],iv (tSt T n).next,AV.sl [[iv T.next,AV.sl [[iv (vInt (n+1)).kind,iv (vInt (n+1)).int,sv (vInt (n+1)).text],[iv vNul.kind,iv vNul.int,sv vNul.text]]]]],[sv b.sch.name,AV.sl (List.map Col.cells b.sch.cols),iv b.next,AV.sl (List.map Rw.cells b.rows)],[sv c.sch.name,AV.sl (List.map Col.cells c.sch.cols),iv c.next,AV.sl (List.map Rw.cells c.rows)]].length:Int)==(↑[[sv T.sch.name,AV.sl (List.map Col.cells T.sch.cols),iv T.next,AV.sl (List.map Rw.cells T.rows)],[sv b.sch.name,AV.sl (List.map Col.cells b.sch.cols),iv b.next,AV.sl (List.map Rw.cells b.rows)],[sv c.sch.name,AV.sl (List.map Col.cells c.sch.cols),iv c.next,AV.sl (List.map Rw.cells c.rows)]].length:Int) else false then (↑[[iv T.next,AV.sl [[iv (vInt (n+1)).kind,iv (vInt (n+1)).int,sv (vInt (n+1)).text],[iv vNul.kind,iv vNul.int,sv vNul.text]]]].length:Int)==1 else false then (↑[[iv (vInt (n+1)).kind,iv (vInt (n+1)).int,sv (vInt (n+1)).text],[iv vNul.kind,iv vNul.int,sv vNul.text]].length:Int)==2 else false then (vInt (n+1)).kind==(zbA (n+1)).kind&&((vInt (n+1)).int==(zbA (n+1)).int&&((vInt (n+1)).text==(zbA (n+1)).text&&true)) else false then (tSt T n).next==T.next+1 else false then true else false)) (H:=[]) (p_1++[sd [(3,[sg h3]),(4,[sg h3]),(7,[sg h4]),(8,[sg h4]),(9,[sg h4]),(10,[sg h4]),(11,[sg h4]),(14,[sg h5]),(15,[so h5 (se (xs:=[[sv (tSt T n).sch.name,AV.sl [[sv (ByteArray.mk #[110]),iv 1,bv false,bv false],[sv (ByteArray.mk #[115]),iv 3,bv false,bv false]],iv (tSt T n).next,AV.sl [[iv T.next,AV.sl [[iv (vInt (n+1)).kind,iv (vInt (n+1)).int,sv (vInt (n+1)).text],[iv vNul.kind,iv vNul.int,sv vNul.text]]]]],[sv b.sch.name,AV.sl (List.map Col.cells b.sch.cols),iv b.next,AV.sl (List.map Rw.cells b.rows)],[sv c.sch.name,AV.sl (List.map Col.cells c.sch.cols),iv c.next,AV.sl (List.map Rw.cells c.rows)]]) (i:=0) (c:=[sv (tSt T n).sch.name,AV.sl [[sv (ByteArray.mk #[110]),iv 1,bv false,bv false],[sv (ByteArray.mk #[115]),iv 3,bv false,bv false]],iv (tSt T n).next,AV.sl [[iv T.next,AV.sl [[iv (vInt (n+1)).kind,iv (vInt (n+1)).int,sv (vInt (n+1)).text],[iv vNul.kind,iv vNul.int,sv vNul.text]]]]]) (n:=4) ⟨by decide,rfl,rfl⟩)]),(16,[sg h5]),(17,[sg h5]),(18,[sg h5]),(19,[sg h5]),(22,[sg h6]),(23,[so h6 (se (xs:=[[sv (tSt T n).sch.name,AV.sl [[sv (ByteArray.mk #[110]),iv 1,bv false,bv false],[sv (ByteArray.mk #[115]),iv 3,bv false,bv false]],iv (tSt T n).next,AV.sl [[iv T.next,AV.sl [[iv (vInt (n+1)).kind,iv (vInt (n+1)).int,sv (vInt (n+1)).text],[iv vNul.kind,iv vNul.int,sv vNul.text]]]]],[sv b.sch.name,AV.sl (List.map Col.cells b.sch.cols),iv b.next,AV.sl (List.map Rw.cells b.rows)],[sv c.sch.name,AV.sl (List.map Col.cells c.sch.cols),iv c.next,AV.sl (List.map Rw.cells c.rows)]]) (i:=0) (c:=[sv (tSt T n).sch.name,AV.sl [[sv (ByteArray.mk #[110]),iv 1,bv false,bv false],[sv (ByteArray.mk #[115]),iv 3,bv false,bv false]],iv (tSt T n).next,AV.sl [[iv T.next,AV.sl [[iv (vInt (n+1)).kind,iv (vInt (n+1)).int,sv (vInt (n+1)).text],[iv vNul.kind,iv vNul.int,sv vNul.text]]]]]) (n:=4) ⟨by decide,rfl,rfl⟩)]),(24,[sg h6]),(25,[sg h6]),(26,[so h6 (se (zf3 (iv T.next) (AV.sl [[iv (vInt (n+1)).kind,iv (vInt (n+1)).int,sv (vInt (n+1)).text],[iv vNul.kind,iv vNul.int,sv vNul.text]])))]),(27,[sg h6]),(28,[sg h6]),(29,[sg h6]),(30,[sg h6]),(33,[sg h7]),(34,[so h7 (se (xs:=[[sv (tSt T n).sch.name,AV.sl [[sv (ByteArray.mk #[110]),iv 1,bv false,bv false],[sv (ByteArray.mk #[115]),iv 3,bv false,bv false]],iv (tSt T n).next,AV.sl [[iv T.next,AV.sl [[iv (vInt (n+1)).kind,iv (vInt (n+1)).int,sv (vInt (n+1)).text],[iv vNul.kind,iv vNul.int,sv vNul.text]]]]],[sv b.sch.name,AV.sl (List.map Col.cells b.sch.cols),iv b.next,AV.sl (List.map Rw.cells b.rows)],[sv c.sch.name,AV.sl (List.map Col.cells c.sch.cols),iv c.next,AV.sl (List.map Rw.cells c.rows)]]) (i:=0) (c:=[sv (tSt T n).sch.name,AV.sl [[sv (ByteArray.mk #[110]),iv 1,bv false,bv false],[sv (ByteArray.mk #[115]),iv 3,bv false,bv false]],iv (tSt T n).next,AV.sl [[iv T.next,AV.sl [[iv (vInt (n+1)).kind,iv (vInt (n+1)).int,sv (vInt (n+1)).text],[iv vNul.kind,iv vNul.int,sv vNul.text]]]]]) (n:=4) ⟨by decide,rfl,rfl⟩)]),(35,[sg h7]),(36,[sg h7]),(37,[so h7 (se (zf3 (iv T.next) (AV.sl [[iv (vInt (n+1)).kind,iv (vInt (n+1)).int,sv (vInt (n+1)).text],[iv vNul.kind,iv vNul.int,sv vNul.text]])))]),(38,[sg h7]),(39,[sg h7]),(40,[so h7 (se (xs:=[[iv (vInt (n+1)).kind,iv (vInt (n+1)).int,sv (vInt (n+1)).text],[iv vNul.kind,iv vNul.int,sv vNul.text]]) (i:=0) (c:=[iv (vInt (n+1)).kind,iv (vInt (n+1)).int,sv (vInt (n+1)).text]) (n:=3) ⟨by decide,rfl,rfl⟩)]),(41,[sg h7]),(42,[sg h7]),(43,[so h7 (si hw1)]),(44,[so h7 (sc (zcL (n+1)))]),(45,[so h7 (sq za9)]),(48,[sg h8]),(49,[so h8 (se (xs:=[[sv (tSt T n).sch.name,AV.sl [[sv (ByteArray.mk #[110]),iv 1,bv false,bv false],[sv (ByteArray.mk #[115]),iv 3,bv false,bv false]],iv (tSt T n).next,AV.sl [[iv T.next,AV.sl [[iv (vInt (n+1)).kind,iv (vInt (n+1)).int,sv (vInt (n+1)).text],[iv vNul.kind,iv vNul.int,sv vNul.text]]]]],[sv b.sch.name,AV.sl (List.map Col.cells b.sch.cols),iv b.next,AV.sl (List.map Rw.cells b.rows)],[sv c.sch.name,AV.sl (List.map Col.cells c.sch.cols),iv c.next,AV.sl (List.map Rw.cells c.rows)]]) (i:=0) (c:=[sv (tSt T n).sch.name,AV.sl [[sv (ByteArray.mk #[110]),iv 1,bv false,bv false],[sv (ByteArray.mk #[115]),iv 3,bv false,bv false]],iv (tSt T n).next,AV.sl [[iv T.next,AV.sl [[iv (vInt (n+1)).kind,iv (vInt (n+1)).int,sv (vInt (n+1)).text],[iv vNul.kind,iv vNul.int,sv vNul.text]]]]]) (n:=4) ⟨by decide,rfl,rfl⟩)]),(50,[sg h8]),(51,[sg h8]),(52,[sg h8]),(53,[so h8 (se (xs:=[[sv T.sch.name,AV.sl (List.map Col.cells T.sch.cols),iv T.next,AV.sl (List.map Rw.cells T.rows)],[sv b.sch.name,AV.sl (List.map Col.cells b.sch.cols),iv b.next,AV.sl (List.map Rw.cells b.rows)],[sv c.sch.name,AV.sl (List.map Col.cells c.sch.cols),iv c.next,AV.sl (List.map Rw.cells c.rows)]]) (i:=0) (c:=[sv T.sch.name,AV.sl (List.map Col.cells T.sch.cols),iv T.next,AV.sl (List.map Rw.cells T.rows)]) (n:=4) ⟨by decide,rfl,rfl⟩)]),(54,[sg h8]),(55,[sg h8]),(56,[so h8 (si hw2)]),(57,[sg h8]),(60,[so h9 (sc zoH)])]]) kr ⟨by first|rfl|(simp;done)|(simp [X.cells,Qy.cells,V.cells,Col.cells,Rw.cells,Tb.cells,Fr.cells,Sch.cells,Tp.cells,Pl.cells,xCol,xLit,xBin,xNeg,Ac.cells,Se.cells,Pr.cells,Ch.cells,Rw.cells,Dl.cells,Itm.cells];done),by first|rfl|(simp;done)|(simp [X.cells,Qy.cells,V.cells,Col.cells,Rw.cells,Tb.cells,Fr.cells,Sch.cells,Tp.cells,Pl.cells,xCol,xLit,xBin,xNeg,Ac.cells,Se.cells,Pr.cells,Ch.cells,Rw.cells,Dl.cells,Itm.cells];done)⟩⟩
end Go.AM
namespace Go.AM
set_option maxRecDepth 100000
set_option maxHeartbeats 4000000
set_option linter.unusedSimpArgs false
set_option linter.unusedVariables false
theorem zgq (t:Tp):∃ (T b c:Tb) (t':Tp),StepIn [T,b,c]∧zaa E0 S.world_Tape_Store [.p 0 0,iv 3] [.box t.cells] (tsl [T,b,c]) [.box t'.cells]:=by
 obtain ⟨m,t',hm,h⟩:=ziI t 3 zcK (by decide)
 have hl:m.length=3:=by have:=congrArg List.length hm.schs;simpa [zao] using this
 match m,hl with
 | [T,b,c],_=>exact ⟨T,b,c,t',zt1 hm (by decide),h⟩
theorem zoq (n:Int):eqSt n=true:=by simp [eqSt,vInt,zbA]
theorem modN (v:Int):StepN (modI (v.tmod 1000) 1000):=by
 have h:=ziP (v.tmod 1000) 1000 (by decide) (by
  have:=Int.tmod_lt_of_pos v (show (0:Int) < 1000 by decide)
  omega)
 exact ⟨h.1,by omega⟩
abbrev ziu (n:Int):List AV:=[iv 3,sv sLog,.nl,.nl,.nl,.nl,sv ⟨#[]⟩,iv 1,sv sLog,.sl [[.sl [(xNum n).cells,(xLit vNul).cells]]],.nl,.nl,.nl,sv ⟨#[]⟩,iv 2,sv sLog,.nl,.nl,.sl [(Se.mk sNn zda).cells],.nl,sv ⟨#[]⟩]
noncomputable def fsC15 (n:Int) (t3:Tp) (m:List Tb) (row:List V):Cfg:=zlj (fsC1 n t3 m row) Ty.Action 3 ((zca n).map Ac.cells)
theorem fs_cut (n:Int) (t3:Tp) (m:List Tb) (row:List V):upto (mk E0) [51,0,6,8,9] 3 0 (fsC15 n t3 m row) (orcs [])=(zbe [],fsC2 n t3 m row):=by kernel_rfl
theorem fs_1 (n:Int) (t3:Tp) (m:List Tb) (row:List V):zs4 E0 (fsC1 n t3 m row)=some (Ty.Action,3,ziu n):=by kernel_rfl
theorem fs_2 (n:Int) (t3:Tp) (m:List Tb) (row:List V):frzB (fsC1 n t3 m row).h (ziu n)=none:=by kernel_rfl
theorem fs_3 (n:Int):zbn (ziu n)=[]:=by kernel_rfl
theorem fs_4 (n:Int) (t3:Tp) (m:List Tb) (row:List V):zcl (E0.T Ty.Action).size 3 (frzL (fsC1 n t3 m row).h (ziu n))=(zca n).map Ac.cells:=by
 have h1:zcl (E0.T Ty.Action).size 3 (frzL (fsC1 n t3 m row).h (ziu n))=[zeb.cells,[iv 1,sv sLog,.sl [[.sl [(xNum n).cells,(xLit vNul).cells]]],.sl [],.sl [],.sl [],sv ⟨#[]⟩],zcn.cells]:=by kernel_rfl
 have h2:(zca n).map Ac.cells=[zeb.cells,[iv 1,sv sLog,.sl [[.sl (zad [xNum n,xLit vNul])]],.sl [],.sl [],.sl [],sv ⟨#[]⟩],zcn.cells]:=by rfl
 rw [h1,h2]
 simp only [zaI,zaO]
theorem zuS (v:Int) (l:List Int):zaa E0 S.law23_FireSteps [iv v,isl l] [] (bv true) []:=by
 obtain ⟨t1,c1⟩:=zrn l
 obtain ⟨T,b,c,t2,q2,c2⟩:=zgq t1
 obtain ⟨r3,t3,q3,c3⟩:=zjK t2
 have hM:=zlD (v.tmod 1000) 1000 (by decide)
 have hn:=modN v
 generalize modI (v.tmod 1000) 1000=n at hM hn
 have hN:=zrf n (by have:=hn.lo;omega)
 obtain ⟨T',r',e,hLT,_,_,hx⟩:=q2.ex q3
 cases e
 have hw1:IntKind.i64.wrap (n+1)=n+1:=by have:=hn.lo;have:=hn.hi;rw [IntKind.wrap_i64];omega
 have h0:0≤T.next:=by have:=hLT.v.rows.pos;omega
 have hw2:IntKind.i64.wrap (T.next+1)=T.next+1:=by rw [IntKind.wrap_i64];omega
 obtain ⟨r,rfl,hE⟩:=c_fsE n t3 T b c r3 hw1 hw2 (zoq n) (by rw [zoq];simp) q2 q3 hn
 refine zdl (zaN At.law23_FireSteps rfl kr (by show 2≤_;decide) (zcb E0ok mix0 68 [sc c1,sl [0] c2,sx (.i (v.tmod 1000)) (show ¬(1000:Int)=0∧(v.tmod 1000:Int)=v.tmod 1000 from ⟨by decide,rfl⟩),sc hM,sc (zfv sUu (by decide)),sl [0] c3,sc zj9,sc hN,sc (zhH vNul),sc (zlN ⟨#[]⟩ sNn),sc (zqH 9 (xCol ⟨#[]⟩ sNn) exCi)] live8 2 (c':=fsC1 n t3 [T,b,c] r3) rfl kr (zvl E0ok (fs_1 n t3 [T,b,c] r3) (by decide) (fs_2 n t3 [T,b,c] r3) (fs_3 n) ?_)))
 rw [fs_4]
 exact zcb E0ok mix0 0 [] [51,0,6,8,9] 3 rfl (fs_cut n t3 [T,b,c] r3) hE
end Go.AM
namespace Go.AM
open Go.RowKit
set_option linter.unusedSimpArgs false
set_option linter.unusedVariables false
abbrev old (W:World):Addr→Prop:=fun a=>a.block < W.heap.size
theorem zrB {W:World} {a:Addr} {v:Value} (h:W.cell? a=some v):a.block < W.heap.size:=by
 unfold World.cell? at h
 cases hb:W.heap[a.block]? with
 | none=>rw [hb] at h;cases h
 | some o=>exact (Array.getElem?_eq_some_iff.1 hb).1
theorem relD_strs {W:World} {g:Nat} (l:List Str) (h:∀ (j:Nat) (s:Str),l[j]?=some s→W.cell? ⟨g,j,none⟩=some (.string s)):RelD W (old W) (.dp (l.map sv)) (.pointer (some ⟨g,0,none⟩)):=by
 refine .dp _ g 0 (fun j=>.string (l.getD j ⟨#[]⟩)) (fun j x hx=>?_) (fun j x hx=>?_)
 ·simp only [List.getElem?_map,Option.map_eq_some_iff] at hx
  obtain ⟨s,hs,rfl⟩:=hx
  have hc:=h j s hs
  rw [Nat.zero_add]
  refine ⟨zrB hc,?_,rfl⟩
  rw [hc,List.getD_eq_getElem?_getD,hs];rfl
 ·simp only [List.getElem?_map,Option.map_eq_some_iff] at hx
  obtain ⟨s,hs,rfl⟩:=hx
  have:l.getD j ⟨#[]⟩=s:=by rw [List.getD_eq_getElem?_getD,hs];rfl
  simp only [this]
  exact .v _ rfl
theorem zvc {s:ByteArray} {l:List UInt8} (h:s.data.toList=l):s=zeF l:=by
 cases s with
 | mk d=>simp only [zeF];congr;rw [← h]
theorem laid_strs {P:Program} {W:World} {n:String} {g:Nat} {t e:TypeId} {k:Nat} {l:List (List UInt8)} (hr:Lib.VarReads P W n (.agg (l.map fun b=>.lit (.string b)))) (hg:P.globalNamed n=some g) (hty:(P.globals[g]?).map (·.type)=some t)
  (ht:P.underlying t=some (.array k e)) (he:P.underlying e=some .string) (hc:P.cellsOf e=1) (hk:l.length=k):∀ (j:Nat) (s:Str),(l.map zeF)[j]?=some s→W.cell? ⟨g,j,none⟩=some (.string s):=by
 intro j s hs
 obtain ⟨g',t',cs,fuel,p,h1,h2,h3,h4⟩:=hr
 obtain rfl:g'=g:=Option.some.inj (h1.symm.trans hg)
 obtain rfl:t'=t:=Option.some.inj (h2.symm.trans hty)
 simp only [List.getElem?_map,Option.map_eq_some_iff] at hs
 obtain ⟨b,hb,rfl⟩:=hs
 have hj:=zee hb
 obtain ⟨f',d,q,hd,hq⟩:=Lib.array_elem ht h4 j (by omega)
 simp only [List.getElem?_map,hb,Option.map_some,Option.some.injEq] at hd
 subst hd
 obtain ⟨s,e1,e2,_⟩:=DataW.trod_string he hq
 rw [World.var?_cell h1 h3]
 rw [hc,Nat.mul_one] at e1
 have e3:cs.toList[j]?=some (.string s):=by
  have:=congrArg (·[0]?) e1
  simpa [List.getElem?_take,List.getElem?_drop] using this
 have e4:s=zeF b:=zvc (by simp only [Prod.mk.injEq,DataW.lit.injEq,Lit.string.injEq] at e2;exact e2.1.symm)
 rw [← e4]
 simpa using e3
theorem relV_ints {W:World} {a:Addr} {len cap:Nat} {zs:List Int} (h1:len≤cap) (h2:cap≤maxLen) (h3:zs.length=cap) (hc:∀ i,i < zs.length→W.cell? (a.add i)=some (.int .i64 (zs.getD i 0))) :
  RelV E0.T [] [] W (old W) (isl (zs.take len)) (.slice (some a) len cap):=by
 have hlen:((zs.take len).map fun n=>[iv n]).length=len:=by simp;omega
 have key:=RelD.sl (w:=W) (S:=old W) ((zs.take len).map fun n=>[iv n]) (some a) cap a.block a.off 1 (fun k=>.int .i64 (zs.getD k 0)) ?_ (by rw [hlen];exact h1) h2 (fun i c hi=>?_) (fun i j c x hi hj=>?_) (fun i j c x hi hj=>?_)
 ·rw [hlen] at key
  exact .d _ _ key
 ·intro hne
  have hz:0 < zs.length:=by
   rcases Nat.eq_zero_or_pos zs.length with h|h
   ·exact absurd (by simp [List.eq_nil_of_length_eq_zero h]) hne
   ·exact h
  have h0:=hc 0 hz
  have:a.spot=none:=by
   simp only [Addr.add,if_pos] at h0
   unfold World.cell? at h0
   split at h0
   ·cases hs:a.spot with
    | none=>rfl
    | some x=>rw [hs] at h0;simp at h0
   ·cases h0
  cases a
  simp only at this
  subst this
  rfl
 ·simp only [List.getElem?_map,Option.map_eq_some_iff] at hi
  obtain ⟨n,_,rfl⟩:=hi
  rfl
 ·simp only [List.getElem?_map,Option.map_eq_some_iff] at hi
  obtain ⟨n,hn,rfl⟩:=hi
  have hi2:=zee hn
  simp only [List.length_take] at hi2
  have hj0:j=0:=by
   cases j with
   | zero=>rfl
   | succ j=>simp at hj
  subst hj0
  have h0:=hc i (by omega)
  have e:a.add i=⟨a.block,a.off+(i * 1+0),none⟩:=by
   unfold Addr.add
   split
   ·rename_i hi0
    subst hi0
    have:a.spot=none:=by
     simp only [Addr.add,if_pos] at h0
     unfold World.cell? at h0
     split at h0
     ·cases hs:a.spot with
      | none=>rfl
      | some x=>rw [hs] at h0;simp at h0
     ·cases h0
    cases a
    simp only at this
    subst this
    rfl
   ·simp
  rw [e] at h0
  refine ⟨zrB h0,?_,rfl⟩
  rw [h0];simp
 ·simp only [List.getElem?_map,Option.map_eq_some_iff] at hi
  obtain ⟨n,hn,rfl⟩:=hi
  have hj0:j=0:=by
   cases j with
   | zero=>rfl
   | succ j=>simp at hj
  subst hj0
  simp only [List.getElem?_cons_zero,Option.some.injEq] at hj
  subst hj
  have:zs.getD (i * 1+0) 0=n:=by
   rw [List.getElem?_take] at hn
   split at hn
   ·simp only [Nat.mul_one,Nat.add_zero,List.getD_eq_getElem?_getD,hn];rfl
   ·cases hn
  simp only [this]
  exact .v _ rfl
theorem relV_nil {W:World}:RelV E0.T [] [] W (old W) (isl []) (.slice none 0 0) :=
 .d _ _ (RelD.sl [] none 0 0 0 1 (fun _=>.int .i64 0) (fun h=>absurd rfl h) (Nat.le_refl _) (by decide) (fun i c h=>by simp at h) (fun i j c x h=>by simp at h) (fun i j c x h=>by simp at h))
theorem oneCell_ok {P:Program} {w:World} {r:Reach} {b:Nat} {u:TypeId} {y:Value} (h:Cell.okWide P w r b u y):y.oneCell'=true:=by
 have h2:∀ y,Cell.ok P w r b u y→y.oneCell'=true:=by
  intro y h
  unfold Cell.ok at h
  split at h <;> first|rfl|exact h.elim
 unfold Cell.okWide at h
 split at h <;> first|rfl|exact h2 _ h
theorem calls_of {f:FuncId} {args:List AV} {b:Bool} (h:zaa E0 f args [] (bv b) []) (hgo:GoFn E0.P f) {W:World} {vs:List Value} (hglob:∀ g cs,globs g=some cs→RelD W (old W) (.dp cs) (.pointer (some ⟨g,0,none⟩))) (hargs:PW (RelV E0.T [] [] W (old W)) args vs) :
  Calls E0.P f vs.toArray W fun e W'=>e=.returned (.bool b)∧Below W.heap.size W W':=by
 have hrel:Rel E0 [] [] (old W) W:=⟨rfl,fun b cs hb=>by simp at hb,fun b e xs sh hb=>by simp at hb,fun b es hb=>by simp at hb,fun b b' k k' g hb=>by simp at hb,fun b k g hb=>by simp at hb,fun a ha=>ha,fun b k g a hb=>by simp at hb,hglob⟩
 obtain ⟨fn,hf1,hf2,hf3⟩:=hgo
 have hp:∀ e W',Post E0 [] [] (old W) W (fun r' h''=>r'=bv b∧h''=[]) e W'→e=.returned (.bool b)∧Below W.heap.size W W':=by
  rintro e W' ⟨r,h',β',S',y,rfl,⟨rfl,rfl⟩,_,ex,rv⟩
  refine ⟨?_,ex.os,ex.tape,ex.output,ex.size,fun k hk=>ex.keep k hk fun b' k' hb=>by simp at hb⟩
  rw [rv.v_inv]
 rcases h [] (old W) W vs hrel hargs with ⟨_,hc⟩|⟨y,w',hrun,_⟩
 ·exact hc.mono hp
 ·exfalso
  simp only [callFunc,Sem.run_bind,Sem.run_pure,Result.andThen_ok,run_program,hf1,hf2,hf3,Bool.false_eq_true,if_false] at hrun
  cases hrun
end Go.AM
