/-
  Contracts of the program's functions, part 3.
-/
import Derived.Test.YtbieommhhfacmaaGreatCcC
import Derived.Lib.Strings
import Derived.Sort.Walk0
import Derived.Shelf.SlSortCmp.NoneTotal
import Derived.Shelf.Spec.SlicesGrow
set_option linter.unusedSimpArgs false
set_option linter.unusedVariables false
namespace Go.AM
set_option linter.unusedSimpArgs false
set_option linter.unusedVariables false
noncomputable def zhp (fn:Func) (args:List AV) (h:Heap):Cfg:=⟨fn.ntmps,[.code (fn.body.getD .skip)],zbg 0 args,h⟩
def itp (gi:Nat):AV:=.v (.pointer (some ⟨gi,0,none⟩))
def fnOk (fn : Func) (args : List AV) : Bool := fn.body.isSome && !(fn.name == "runtime.NumGoroutine") && Nat.ble args.length fn.ntmps
noncomputable def zkV (c:Cfg) (os:List Orc) (b:Nat):Option (List Prop × TypeId × List (AV × AV) × Heap):=match run (mk E0) 3000 c os with
 | (q,⟨n,.ops _ (o::_)::_,ts,h⟩,_)=>match o.op,o.guard,o.dst with
  | .range t (.tmp tm),none,some d=>match look ts tm,Nat.blt d n with
   | .mp b',true=>match Nat.beq b' b,h[b]? with
    | true,some (.mp es)=>some (q,t,es,h)
    | _,_=>none
   | _,_=>none
  | _,_,_=>none
 | _=>none
noncomputable def zmc (c:Cfg) (os:List Orc) (live:List Nat) (gi:Nat):Cfg:=match run (mk E0) 3000 c os with
 | (_,⟨n,.ops all (o::r)::k,ts,_⟩,_)=>⟨n,.ops all r::k,(o.dst.getD 0,itp gi)::mask live 0 ts,[]⟩
 | (_,c',_)=>c'
theorem wkFl {fn:Func} {R:AV→Heap→Prop} {h0:Heap} {c c':Cfg} {gm gi:Nat} {es:List (AV × AV)} {cur:Option (AV × AV)} (l:List St) (live:List Nat) (m:Nat) (hu:zjZ h0 live m c (orcs l)=some (zaB l,c')) (hg:zaR E0 fn h0 [gm,gi] (ItF gm gi es cur) c' R):zaR E0 fn h0 [gm,gi] (ItF gm gi es cur) c R:=by
 unfold zjZ at hu
 split at hu
 ·rename_i hm
  have hu:=Option.some.inj hu
  unfold upto at hu
  have h1:(run (mk E0) 3000 c (orcs l)).1=zaB l:=congrArg Prod.fst hu
  have h2:cut live m (run (mk E0) 3000 c (orcs l)).2.1=c':=congrArg Prod.snd hu
  exact zoa E0ok mix0 (zhT _ _ _ _) 3000 (orcs l) live m hm h1 h2 (zaw l) hg
 ·cases hu
theorem zny {E:Env0} {fn:Func} {h0:Heap} {gs:List Nat} {F:(Addr→Prop)→World→Prop} {c:Cfg} {R:AV→Heap→Prop} (t:Nat) (e:TypeId) (hc:look c.ts t=.nl)
  (hg:zaR E fn h0 gs F ⟨c.n,c.todo,(t,.own c.h.length 0)::c.ts,c.h++[Blk.row e [] false]⟩ R):zaR E fn h0 gs F c R:=by
 intro β0 S0 w0 β S w tmps hb0 hn x0 r rt hf hw
 have ht:=rt t
 rw [hc] at ht
 obtain ⟨a,ha⟩:=zfe ht
 obtain ⟨x1,r1⟩:=r.nilRow e a
 refine hg β0 S0 w0 _ S w tmps hb0 hn (x0.trans x1) r1 (fun t'=>?_) (hf.ext x1).1 hw
 simp only [look]
 cases hb:Nat.beq t t' with
 | true =>
  have:=Nat.eq_of_beq_eq_true hb
  subst this
  simp only
  rw [ha]
  exact r.ownNil e a
 | false=>exact (rt t').ext x1
theorem zkx {E:Env0} {fn:Func} {h0:Heap} {gs:List Nat} {F:(Addr→Prop)→World→Prop} {c c':Cfg} {R:AV→Heap→Prop} (t:Nat) (e:TypeId) (live:List Nat) (m:Nat) (hc:look c.ts t=.nl) (hm:Nat.ble h0.length m=true)
  (he:cut live m ⟨c.n,c.todo,(t,.own c.h.length 0)::c.ts,c.h++[Blk.row e [] false]⟩=c') (hg:zaR E fn h0 gs F c' R):zaR E fn h0 gs F c R :=
 zny t e hc (zjx live m (Nat.le_of_ble_eq_true hm) (he ▸ hg))
theorem zgJ {E:Env0} {fn:Func} {h0:Heap} {gs:List Nat} {F:(Addr→Prop)→World→Prop} {c:Cfg} {R:AV→Heap→Prop} (hg:zaR E fn h0 gs F (zg9 c) R):zaR E fn h0 gs F c R:=by
 unfold zg9 at hg
 split at hg
 ·rename_i b k hk
  obtain ⟨n,todo,ts,h⟩:=c
  simp only at hk
  subst hk
  intro β0 S0 w0 β S w tmps hb0 hn x0 r rt hf hw
  have:=hg β0 S0 w0 β S w tmps hb0 hn x0 r rt hf hw
  simp only [kont,Exit.then] at this ⊢
  refine ziP (wp_mono this fun e a w he=>?_)
  cases e <;> exact he
 ·exact hg
noncomputable def nxtOk (c:Cfg) (os:List Orc):Option (List Prop × AV):=match run (mk E0) 3000 c os with
 | (q,⟨n,.ops _ (o::_)::_,ts,_⟩,_)=>match o.op,o.guard,o.dst with
  | .next (.tmp ti) false,none,some d=>match Nat.blt d n with
   | true=>some (q,look ts ti)
   | false=>none
  | _,_,_=>none
 | _=>none
noncomputable def nxtK (c:Cfg) (os:List Orc) (v:AV):Cfg:=match run (mk E0) 3000 c os with
 | (_,⟨n,.ops all (o::r)::k,ts,h⟩,_)=>⟨n,.ops all r::k,(o.dst.getD 0,v)::ts,h⟩
 | (_,c',_)=>c'
theorem wkN {fn:Func} {h0:Heap} {c:Cfg} {R:AV→Heap→Prop} {gm gi:Nat} {es:List (AV × AV)} {cur:Option (AV × AV)} (l:List St) (hu:nxtOk c (orcs l)=some (zaB l,itp gi))
  (H0:es=[]→zaR E0 fn h0 [gm,gi] (ItF gm gi [] none) (nxtK c (orcs l) (.tup [.bl false])) R)
  (H1:∀ (j:Nat) (kx x:AV),es[j]?=some (kx,x)→zaR E0 fn h0 [gm,gi] (ItF gm gi (es.eraseIdx j) (some (kx,x))) (nxtK c (orcs l) (.tup [.bl true,kx,x])) R):zaR E0 fn h0 [gm,gi] (ItF gm gi es cur) c R:=by
 unfold nxtOk at hu
 unfold nxtK at H0 H1
 split at hu
 ·rename_i q n all o r k ts h os' hrun
  split at hu
  ·rename_i ti d hop hgd hd
   split at hu
   ·rename_i hdn
    simp only [Option.some.injEq,Prod.mk.injEq] at hu
    obtain ⟨rfl,hm⟩:=hu
    refine zg7 E0ok mix0 (zhT _ _ _ _) 3000 (orcs l) (by rw [hrun];exact zaw l) ?_
    rw [hrun] at H0 H1 ⊢
    simp only [hd,Option.getD_some] at H0 H1
    exact zmJ hop hgd hd (Nat.le_of_ble_eq_true hdn) hm H0 H1
   ·cases hu
  ·cases hu
 ·cases hu
noncomputable def entOk (c:Cfg) (os:List Orc):Option (List Prop × AV):=match run (mk E0) 3000 c os with
 | (q,⟨n,.ops _ (o::_)::_,ts,_⟩,_)=>match o.op,o.guard,o.dst with
  | .entry (.tmp ti),none,some d=>match Nat.blt d n with
   | true=>some (q,look ts ti)
   | false=>none
  | _,_,_=>none
 | _=>none
theorem wkE2 {fn:Func} {h0:Heap} {c:Cfg} {R:AV→Heap→Prop} {gm gi:Nat} {es:List (AV × AV)} {kx x:AV} (l:List St) (hu:entOk c (orcs l)=some (zaB l,itp gi))
  (H:zaR E0 fn h0 [gm,gi] (ItF gm gi es (some (kx,x))) (nxtK c (orcs l) (.tup [kx,x])) R):zaR E0 fn h0 [gm,gi] (ItF gm gi es (some (kx,x))) c R:=by
 unfold entOk at hu
 unfold nxtK at H
 split at hu
 ·rename_i q n all o r k ts h os' hrun
  split at hu
  ·rename_i ti d hop hgd hd
   split at hu
   ·rename_i hdn
    simp only [Option.some.injEq,Prod.mk.injEq] at hu
    obtain ⟨rfl,hm⟩:=hu
    refine zg7 E0ok mix0 (zhT _ _ _ _) 3000 (orcs l) (by rw [hrun];exact zaw l) ?_
    rw [hrun] at H ⊢
    simp only [hd,Option.getD_some] at H
    exact zle hop hgd hd (Nat.le_of_ble_eq_true hdn) hm H
   ·cases hu
  ·cases hu
 ·cases hu
end Go.AM
namespace Go.AM
set_option maxRecDepth 100000
set_option maxHeartbeats 1000000
set_option linter.unusedSimpArgs false
set_option linter.unusedVariables false
def okC (c:UInt8):Bool:=decide (97≤((c.toNat:Nat):Int))&&decide (((c.toNat:Nat):Int)≤122) || (decide (48≤((c.toNat:Nat):Int))&&decide (((c.toNat:Nat):Int)≤57)) || ((c.toNat:Nat):Int)==95
def vName (s:Str):Bool:=decide (1≤s.data.toList.length)&&decide (s.data.toList.length≤12)&&decide (97≤(s.data.toList.getD 0 0).toNat)&&s.data.toList.all okC
end Go.AM
namespace Go.AM
set_option maxRecDepth 100000
set_option maxHeartbeats 1000000
set_option linter.unusedSimpArgs false
set_option linter.unusedVariables false
theorem PrefOk.good {cols:List Col} {vals:List V} (h:zd9 cols vals):∀ v∈vals,v.Good:=fun v hv=>by
 obtain ⟨k,hk,hkv⟩:=List.mem_iff_getElem.1 hv
 have hl:=h.len
 obtain ⟨c,hc⟩:=zbc (l:=cols) (i:=k) (by omega)
 exact (h.at_ k c v hc (by rw [← hkv];simp)).good
theorem FsT.ok {frs:List Fr} (h:FsT frs) (n:Nat) (hn:n≤900000):FsOk n frs :=
 ⟨by have:=h.len;omega,fun f hf=>zaZ (h.few f hf),fun f hf v hv=>((h.rows f hf).good v hv).small⟩
theorem FsT.g {frs:List Fr} (h:FsT frs):FsG frs:=fun f hf v hv=>(h.rows f hf).good v hv
end Go.AM
namespace Go.AM
set_option maxRecDepth 100000
set_option maxHeartbeats 1000000
set_option linter.unusedSimpArgs false
set_option linter.unusedVariables false
structure Sound (ty:Int × Int) (ev:V × Int):Prop where
 code:ty.2=0→ev.2=0∨ev.2=6∨ev.2=7
 kind:ty.2=0→ev.2=0→ev.1.kind=0∨ev.1.kind=ty.1
end Go.AM
namespace Go.AM
set_option maxRecDepth 100000
set_option maxHeartbeats 1000000
set_option linter.unusedSimpArgs false
set_option linter.unusedVariables false
structure Res (w:Int) (r:V × Int):Prop where
 code:r.2=0∨r.2=6∨r.2=7
 kind:r.2=0→r.1.kind=0∨r.1.kind=w
abbrev KOk (v:V) (k:Int):Prop:=v.kind=0∨v.kind=k
/- ### types of operations -/
theorem KOk.trans {v:V} {t k:Int} (h:KOk v t) (ht:t=0∨t=k):KOk v k:=by
 rcases h with h|h
 ·exact .inl h
 ·rcases ht with rfl|rfl
  ·exact .inl h
  ·exact .inr h
inductive Typed:List V→List Int→Prop
 | nil:Typed [] []
 | cons {v:V} {t:Int} {l:List V} {ts:List Int}:KOk v t→Typed l ts→Typed (v::l) (t::ts)
theorem Typed.app {v:V} {t:Int} (hv:KOk v t):∀ {l:List V} {ts:List Int},Typed l ts→Typed (l++[v]) (ts++[t])
 | _,_,.nil=>.cons hv .nil
 | _,_,.cons h1 h2=>.cons h1 (h2.app hv)
end Go.AM
namespace Go.AM
set_option maxRecDepth 100000
set_option maxHeartbeats 1000000
set_option linter.unusedSimpArgs false
set_option linter.unusedVariables false
def er (f:Fr):Fr:=⟨f.name,f.strict,f.cols,[]⟩
theorem zlS (frs:List Fr) (k:Nat):(frs.map er).getD k zaC=er (frs.getD k zaC):=by
 simp only [List.getD_eq_getElem?_getD,List.getElem?_map]
 cases frs[k]? <;> rfl
theorem zlG (frs:List Fr) (q n:Str):∀ k,rres (frs.map er) q n k=rres frs q n k
 | 0=>rfl
 | k+1=>by
  simp only [rres,zh0,zlS,zlG frs q n k]
  rfl
theorem zlf (frs:List Fr) (q n:Str):zbt (frs.map er) q n=zbt frs q n:=by
 unfold zbt;rw [List.length_map,zlG]
theorem znh (frs:List Fr) (q n:Str):rFr (frs.map er) q n=er (rFr frs q n):=by
 unfold rFr;rw [zlf,zlS]
structure FrRel (tf vf:List Fr):Prop where
 eq:tf.map er=vf.map er
 rows:∀ f∈vf,zd9 f.cols f.vals
theorem FrRel.cols {tf vf:List Fr} (h:FrRel tf vf) (q n:Str):(rFr tf q n).cols=(rFr vf q n).cols:=by
 have:er (rFr tf q n)=er (rFr vf q n):=by rw [← znh,← znh,h.eq]
 exact (congrArg Fr.cols this:(er _).cols=(er _).cols)
theorem FrRel.ins {tf vf:List Fr} (h:FrRel tf vf) {t:Tb} {v:List V} (hv:zd9 t.sch.cols v):FrRel (zas tf t.sch []) (zca vf t v):=by
 refine ⟨by simp only [zas,zca,List.map_append,h.eq];rfl,fun f hf=>?_⟩
 simp only [zca,List.mem_append,List.mem_singleton] at hf
 rcases hf with hf|rfl
 ·exact h.rows f hf
 ·exact hv
theorem zj7 (tb:List Tb) (n:Str):∀ (l:List Tb) (i:Nat),zgm tb n l i=match l.find? (fun t=>zbR t n) with|some t=>(t.sch,true)|none=>(⟨⟨#[]⟩,[]⟩,false)
 | [],i=>rfl
 | x::r,i=>by
  simp only [zgm,List.find?,zbR]
  cases h:x.sch.name.toList==n.toList
  ·exact zj7 tb n r _
  ·rfl
theorem zis (tb:List Tb) (n:Str):zag tb n=match zjM tb n with|some t=>(t.sch,true)|none=>(⟨⟨#[]⟩,[]⟩,false):=zj7 tb n tb 0
structure TbT (tb:List Tb):Prop where
 rows:∀ x∈tb,∀ r∈x.rows,zd9 x.sch.cols r.vals
 len:∀ x∈tb,x.rows.length≤1000
theorem TbT.g {tb:List Tb} (h:TbT tb):TbG tb:=⟨fun x hx r hr v hv=>(h.rows x hx r hr).good v hv,h.len⟩
theorem FrRel.g {tf vf:List Fr} (h:FrRel tf vf):FsG vf:=fun f hf v hv=>(h.rows f hf).good v hv
end Go.AM
namespace Go.AM
set_option maxRecDepth 100000
set_option maxHeartbeats 1000000
set_option linter.unusedSimpArgs false
set_option linter.unusedVariables false
theorem zkD {tb:List Tb} {n:Str} {x:Tb} (h:AtI tb (idxF (fun t=>zbR t n) tb 0) x):zag tb n=(x.sch,true):=by
 obtain ⟨h0,h1⟩:=h
 rw [zis]
 rcases zi6 (fun t=>zbR t n) tb 0 with ⟨h2,_⟩|⟨j,y,h2,h3,h4⟩
 ·omega
 ·rw [h2] at h1
  have:((0+j:Nat):Int).toNat=j:=by omega
  rw [this,h3] at h1
  cases h1
  unfold zjM;rw [h4]
theorem zj5 {tb:List Tb} {n:Str} (h:decide (idxF (fun t=>zbR t n) tb 0 < 0)=true):zag tb n=(⟨⟨#[]⟩,[]⟩,false):=by
 rw [zis]
 rcases zi6 (fun t=>zbR t n) tb 0 with ⟨_,h2⟩|⟨j,y,h2,h3,h4⟩
 ·unfold zjM;rw [h2]
 ·simp only [decide_eq_true_eq] at h;omega
theorem zoD {tb:List Tb} {n:Str} (h:decide (idxF (fun t=>zbR t n) tb 0 < 0)=false):0≤idxF (fun t=>zbR t n) tb 0∧idxF (fun t=>zbR t n) tb 0 < ((tb.length:Nat):Int):=by
 simp only [decide_eq_false_iff_not] at h
 have:=zlQ (fun t=>zbR t n) tb 0
 exact ⟨by omega,by rcases this with h|h <;> omega⟩
theorem zev (t:Tb) (n:Str) :zaa E0 S.scope_Source_c1 [.agg t.cells,.p 0 0] [.box [sv n]] (bv (zbR t n)) [.box [sv n]]:=by
 exact wk At.scope_Source_c1 [] kr
noncomputable def zkM (tb:List Tb) (n:Str) (i:Nat):Cfg:=zaq B.slices_IndexFunc_Table 0 [(0,.sl (tb.map Tb.cells)),(1,.fn S.scope_Source_c1 [.p 0 0]),(7,iv ((tb.map Tb.cells).length:Nat)),(8,iv (i:Nat))] [.box [sv n]]
theorem zk7 (tb:List Tb) (n:Str) (hl:zac tb):∀ (k i:Nat),i+k=tb.length→Good E0 B.slices_IndexFunc_Table [.box [sv n]] (zkM tb n i) (Shut 1 fun r h=>r=iv (idxF (fun t=>zbR t n) (tb.drop i) i)∧h=[.box [sv n]]):=by
 intro k
 induction k with
 | zero =>
  intro i hi
  refine zab ?_
  have h0:decide ((i:Int) < (((tb.map Tb.cells).length:Nat):Int))=false:=by simp;omega
  have e0:tb.drop i=[]:=List.drop_of_length_le (by omega)
  rw [e0]
  exact zii E0ok mix0 3000 (y:=AV.v (Value.int IntKind.i64 (-1:Int))) (H:=[Blk.box [AV.v (Value.string n)]]) [sb h0] kr (⟨rfl,rfl⟩)
 | succ k ih =>
  intro i hi
  have ih:=ih (i+1) (by omega)
  obtain ⟨x,hx⟩:=zbc (l:=tb) (i:=i) (by omega)
  have h0:decide ((i:Int) < (((tb.map Tb.cells).length:Nat):Int))=true:=by simp;omega
  have hw:=zaA i (by omega)
  rw [zde hx]
  simp only [idxF]
  refine zab ?_
  cases h1:zbR x n
  ·exact zci E0ok mix0 3000 (c':=zkM tb n (i+(1:Nat))) [sb h0,se (zao Tb.cells hx rfl),sl [(0:Nat)] (zev x n),sb h1,si hw] [0,1,7,8] 1 kr kr (by simpa only [cond_true,cond_false,h1] using ih)
  ·exact zii E0ok mix0 3000 (y:=AV.v (Value.int IntKind.i64 (i:Int))) (H:=[Blk.box [AV.v (Value.string n)]]) [sb h0,se (zao Tb.cells hx rfl),sl [(0:Nat)] (zev x n),sb h1] kr (⟨by simp only [cond_true,cond_false,h1],rfl⟩)
theorem zof (tb:List Tb) (n:Str) (hl:zac tb):zaa E0 S.slices_IndexFunc_Table [.sl (tb.map Tb.cells),.fn S.scope_Source_c1 [.p 0 0]] [.box [sv n]] (iv (idxF (fun t=>zbR t n) tb 0)) [.box [sv n]]:=by
 exact zh3 E0ok mix0 At.slices_IndexFunc_Table rfl kr kr 3000 (c':=zkM tb n (0:Nat)) [] [0,1,7,8] 1 kr kr (by simpa using zk7 tb n hl tb.length 0 (by simp))
theorem zi9 (tb:List Tb) (n:Str) (h2:zac tb) (h3:∀ x∈tb,zac x.sch.cols) (hix:zaa E0 S.slices_IndexFunc_Table [.sl (tb.map Tb.cells),.fn S.scope_Source_c1 [.p 0 0]] [.box [sv n]] (iv (idxF (fun t=>zbR t n) tb 0)) [.box [sv n]]):∃ (s:Sch) (b:Bool),(s,b)=zag tb n∧zaa E0 S.scope_Source [tsl tb,sv n] [] (.tup [s.av,bv b]) []:=by
 cases h1:decide (idxF (fun t=>zbR t n) tb 0 < 0)
 ·obtain ⟨x2,e2⟩:=ex_atI (l:=tb) (i:=idxF (fun t=>zbR t n) tb (0:Nat)) (by exact zoD (by assumption))
  exact ⟨x2.sch,true,(by first|exact (zkD (by assumption)).symm|exact (zj5 (by assumption)).symm),wk At.scope_Source [sqx ((True∧x2.sch.cols.length=(List.map Col.cells x2.sch.cols).length∧True)∧True∧True),sl [0] hix,sb h1,se (znl Tb.cells e2 rfl),sc (zaD x2.sch.cols (by first|assumption|exact h3 _ (List.mem_of_getElem? (And.right ‹AtI _ _ _›))))] kr⟩
 ·exact ⟨Sch.mk (ByteArray.mk #[]) [],false,(by first|exact (zkD (by assumption)).symm|exact (zj5 (by assumption)).symm),wk At.scope_Source [sl [0] hix,sb h1] kr⟩
theorem zcL (tb:List Tb) (n:Str) (h2:zac tb) (h3:∀ x∈tb,zac x.sch.cols):zaa E0 S.scope_Source [tsl tb,sv n] [] (.tup [(zag tb n).1.av,bv (zag tb n).2]) []:=by
 obtain ⟨s,b,h,h2⟩:=zi9 tb n h2 h3 (zof tb n h2)
 rw [← h];exact h2
end Go.AM
namespace Go.AM
set_option maxRecDepth 100000
set_option maxHeartbeats 1000000
set_option linter.unusedSimpArgs false
set_option linter.unusedVariables false
structure Pr where
 id:Int
 old:List V
 nw:List V
def Pr.cells (p:Pr):List AV:=[iv p.id,vsl p.old,vsl p.nw]
@[simp] theorem Pr.cells_length (x:Pr):x.cells.length=3:=rfl
structure Ch where
 ins:List (List V)
 del:List Int
 upd:List Pr
def Ch.cells (c:Ch):List AV:=[.sl (c.ins.map vrow),isl c.del,.sl (c.upd.map Pr.cells)]
abbrev Ch.av (c:Ch):AV:=.agg c.cells
end Go.AM
namespace Go.AM
set_option maxRecDepth 100000
set_option maxHeartbeats 1000000
set_option linter.unusedSimpArgs false
set_option linter.unusedVariables false
def tbNull:Tb:=⟨⟨⟨#[]⟩,[]⟩,0,[]⟩
end Go.AM
namespace Go.AM
set_option maxRecDepth 100000
set_option maxHeartbeats 1000000
set_option linter.unusedSimpArgs false
set_option linter.unusedVariables false
section
variable {f : X → V × Int} {g : Qy → List (List V) × Int} {s : Sch} {a : Ac} {out1 out2 r : List (List V)} {c : Int}
end
end Go.AM
namespace Go.AM
set_option maxRecDepth 100000
set_option maxHeartbeats 1000000
set_option linter.unusedSimpArgs false
set_option linter.unusedVariables false
def keyL:List Col→Nat→Int→Int
 | [],_,k=>k
 | c::r,i,k=>keyL r (i+1) (bif c.key then (i:Int) else k)
abbrev keyC (s:Sch):Int:=keyL s.cols 0 (-1)
structure RowsV (s:Sch) (next:Int) (rows:List Rw):Prop where
 fit:zfF s rows
 asc:rows.Pairwise fun a b=>a.id < b.id
 ids:∀ r∈rows,1≤r.id∧r.id < next
 keys:0≤keyC s→rows.Pairwise fun a b=>zhB a.vals (keyC s)≠zhB b.vals (keyC s)
 pos:1≤next
theorem RowsV.nil {s:Sch} {next:Int} (h:1≤next):RowsV s next []:=⟨fun _ h=>(by cases h),.nil,fun _ h=>(by cases h),fun _=>.nil,h⟩
theorem RowsV.push {s:Sch} {next m:Int} {rows:List Rw} {v:List V} (h:RowsV s next rows) (hv:zd9 s.cols v) (hf:∀ r∈rows,keyC s < 0∨zhB r.vals (keyC s)≠zhB v (keyC s)) (hm:next < m):RowsV s m (rows++[⟨next,v⟩]):=by
 refine ⟨h.fit.push hv,?_,?_,?_,by have:=h.pos;omega⟩
 ·rw [List.pairwise_append];exact ⟨h.asc,by simp,fun a ha b hb=>by simp only [List.mem_singleton] at hb;subst hb;exact (h.ids a ha).2⟩
 ·intro r hr
  rcases List.mem_append.1 hr with hr|hr
  ·have:=h.ids r hr;omega
  ·simp only [List.mem_singleton] at hr;subst hr;have:=h.pos;simp only;omega
 ·intro hk
  rw [List.pairwise_append];exact ⟨h.keys hk,by simp,fun a ha b hb=>by simp only [List.mem_singleton] at hb;subst hb;exact (hf a ha).resolve_left (by omega)⟩
structure StoreV (n:Int) (l:List Tb):Prop where
 schs:l.map Tb.sch=zbp
 rows:∀ t∈l,RowsV t.sch t.next t.rows
 next:∀ t∈l,t.next≤3000
 len:∀ t∈l,(t.rows.length:Int)≤n
structure StoreP (n:Int) (i:Nat) (l:List Tb):Prop where
 schs:l.map Tb.sch=zbp.take i
 tabs:∀ t∈l,RowsV t.sch t.next t.rows∧t.next≤3000∧(t.rows.length:Int)≤n
theorem StoreP.push {n:Int} {i:Nat} {l:List Tb} {x:Sch} {nx:Int} {rs:List Rw} (h:StoreP n i l) (hx:zbp[i]?=some x) (ht:(rs.length:Int)≤n∧RowsV x nx rs∧nx≤3000):StoreP n (i+1) (l++[⟨x,nx,rs⟩]) :=
 ⟨by rw [List.map_append,h.schs,List.take_add_one,hx];rfl,fun t hm=>(List.mem_append.1 hm).elim (h.tabs t) fun h=>by simp only [List.mem_singleton] at h;subst h;exact ⟨ht.2.1,ht.2.2,ht.1⟩⟩
theorem StoreP.all {n:Int} {l:List Tb} (h:StoreP n zbp.length l):StoreV n l :=
 ⟨by rw [h.schs,List.take_length],fun t ht=>(h.tabs t ht).1,fun t ht=>(h.tabs t ht).2.1,fun t ht=>(h.tabs t ht).2.2⟩
theorem StoreV.ok {n:Int} {l:List Tb} (h:StoreV n l) (hn:n≤1000:=by decide):StoreOk l :=
 ⟨by have:=congrArg List.length h.schs;simp [zbp] at this;omega,fun t ht=>⟨⟨(h.rows t ht).fit,by have:=h.len t ht;omega⟩,zom (by rw [← h.schs];exact List.mem_map_of_mem ht)⟩⟩
end Go.AM
namespace Go.AM
set_option maxRecDepth 100000
set_option maxHeartbeats 1000000
set_option linter.unusedSimpArgs false
set_option linter.unusedVariables false
def XFl:Nat→X→Prop
 | 0,_=>False
 | n+1,e=>e.val.Good∧Thin 3 e.args∧e.sub=[]∧∀ x∈e.args,XFl n x
theorem XFl.ok:∀ {n:Nat} {e:X},XFl n e→XOk n e
 | 0,_,h=>h.elim
 | n+1,e,⟨h1,h2,h3,h4⟩=>⟨h1,⟨h2,by rw [h3];simp⟩,fun x hx=>(h4 x hx).ok,fun q hq=>by rw [h3] at hq;cases hq⟩
theorem XFl.mono:∀ {n:Nat} {e:X},XFl n e→XFl (n+1) e
 | 0,_,h=>h.elim
 | n+1,e,⟨h1,h2,h3,h4⟩=>⟨h1,h2,h3,fun x hx=>(h4 x hx).mono⟩
end Go.AM
namespace Go.AM
set_option maxRecDepth 100000
set_option maxHeartbeats 1000000
set_option linter.unusedSimpArgs false
set_option linter.unusedVariables false
theorem zoW (n:Nat) (hn:n≤255) (hA:decide ((4294967296:Int)≤((n:Nat):Int))=false) (hB:decide ((65536:Int)≤((n:Nat):Int))=false) (hC:decide ((256:Int)≤((n:Nat):Int))=false):∃ (r:Int),zaa E0 S.math_bits_Len64 [.v (.int .u64 (n:Nat))] [] (iv r) []:=by
 obtain ⟨c1,b1⟩:=byteAt (s:=ByteArray.mk (([0,1,2,2,3,3,3,3,4,4,4,4,4,4,4,4,5,5,5,5,5,5,5,5,5,5,5,5,5,5,5,5,6,6,6,6,6,6,6,6,6,6,6,6,6,6,6,6,6,6,6,6,6,6,6,6,6,6,6,6,6,6,6,6].append [7,7,7,7,7,7,7,7,7,7,7,7,7,7,7,7,7,7,7,7,7,7,7,7,7,7,7,7,7,7,7,7,7,7,7,7,7,7,7,7,7,7,7,7,7,7,7,7,7,7,7,7,7,7,7,7,7,7,7,7,7,7,7,7]).append ([8,8,8,8,8,8,8,8,8,8,8,8,8,8,8,8,8,8,8,8,8,8,8,8,8,8,8,8,8,8,8,8,8,8,8,8,8,8,8,8,8,8,8,8,8,8,8,8,8,8,8,8,8,8,8,8,8,8,8,8,8,8,8,8].append [8,8,8,8,8,8,8,8,8,8,8,8,8,8,8,8,8,8,8,8,8,8,8,8,8,8,8,8,8,8,8,8,8,8,8,8,8,8,8,8,8,8,8,8,8,8,8,8,8,8,8,8,8,8,8,8,8,8,8,8,8,8,8,8])).toArray) (i:=(n:Int)) (by exact ⟨by omega,(show (((n:Nat):Int) < 256)=(((n:Nat):Int) < _) by kernel_rfl) ▸ (show ((n:Nat):Int) < 256 by omega)⟩)
 exact ⟨IntKind.i64.wrap (0+IntKind.i64.wrap (c1.toNat:Int)),wk At.math_bits_Len64 [sb hA,sb hB,sb hC,si (wrapN8 (t:=(n:Int)) (n:=n) (by omega) (by omega)),sy b1,si (e:=IntKind.i64.wrap (c1.toNat:Int)) rfl,si (e:=IntKind.i64.wrap (0+IntKind.i64.wrap (c1.toNat:Int))) rfl] kr⟩
theorem zhH (n:Nat) (hn:n≤255):∃ r:Int,zaa E0 S.math_bits_Len64 [.v (.int .u64 (n:Nat))] [] (iv r) []:=zoW n hn (by simp;omega) (by simp;omega) (by simp;omega)
theorem zib (n:Nat) (hn:n≤255):∃ (r:Int),zaa E0 S.math_bits_Len [.v (.int .u64 (n:Nat))] [] (iv r) []:=by
 obtain ⟨r1,c1⟩:=(zhH n (by first|assumption|omega|(simp;done)|(simp;omega)))
 exact ⟨r1,wk At.math_bits_Len [sc c1] kr⟩
def insI:Nat→List Int→List Int
 | 0,l=>l
 | k+1,l=>bif decide (l.getD (k+1) 0 < l.getD k 0) then insI k ((l.set (k+1) (l.getD k 0)).set k (l.getD (k+1) 0)) else l
theorem zko:∀ (k:Nat) (l:List Int),(insI k l).length=l.length
 | 0,_=>rfl
 | k+1,l=>by
  unfold insI
  cases decide (l.getD (k+1) 0 < l.getD k 0)
  ·rfl
  ·rw [cond_true,zko];simp
def srtI:Nat→Nat→List Int→List Int
 | 0,_,l=>l
 | m+1,i,l=>srtI m (i+1) (insI i l)
def srt1 (l:List Int):List Int:=srtI (l.length - 1) 1 l
theorem zk3:∀ (m i:Nat) (l:List Int),(srtI m i l).length=l.length
 | 0,_,_=>rfl
 | m+1,i,l=>by unfold srtI;rw [zk3,zko]
@[simp] theorem srt1_len (l:List Int):(srt1 l).length=l.length:=zk3 _ _ _
end Go.AM
namespace Go.AM
open Go.RowKit
set_option linter.unusedSimpArgs false
set_option linter.unusedVariables false
def zl4 (E:Env0) (c:Cfg):Option (TypeId × Nat × List AV):=match c.todo with
 | .ops all (o::_)::_=>match zhA all o c.ts&&zat c.n o.dst,o.op with
  | true,.buildSlice t n parts=>match (E.T t).kind with
   | .slice el=>match fill (fun i=>some (i * (E.T el).size,(E.T el).size)) (repl (E.T el).zero n) (parts.toList.map fun (i,x)=>(i,ev E.G c.ts x)),Nat.ble (n * (E.T el).size) 16777216 with
    | some cs,true=>some (el,n,cs)
    | _,_=>none
   | _=>none
  | _,_=>none
 | _=>none
def zht (c:Cfg) (e:TypeId) (n:Nat) (xs:List (List AV)):Cfg:=match c.todo with
 | .ops all (o::rest)::k=>⟨c.n,.ops all rest::k,put c.ts o.dst (.own c.h.length n),c.h++[.row e xs false]⟩
 | _=>c
theorem zon {E:Env0} (ht:zan E) {fn:Func} {h0:Heap} {c:Cfg} {R:AV→Heap→Prop} {e:TypeId} {n:Nat} {cs:List AV} (hc:zl4 E c=some (e,n,cs)) (hn0:0 < n) (ho:frzB c.h cs=none) (hm:zaI cs=[])
  (hg:Good E fn h0 (zht c e n (zbJ (E.T e).size n (frzL c.h cs))) R):Good E fn h0 c R:=by
 intro β0 S0 w0 β S w tmps hb0 hn x0 r rt
 obtain ⟨nn,todo,ts,h⟩:=c
 simp only at hn x0 r rt ho ⊢
 unfold zl4 at hc
 simp only at hc
 split at hc
 ·rename_i all o rest k
  split at hc
  ·rename_i t n' parts hchk hop
   simp only [Bool.and_eq_true] at hchk
   obtain ⟨hgo,hd⟩:=hchk
   split at hc
   ·rename_i e' hk
    split at hc
    ·rename_i cs' hf hle
     simp only [Option.some.injEq,Prod.mk.injEq] at hc
     obtain ⟨rfl,rfl,rfl⟩:=hc
     simp only [kont,Exit.then]
     refine wpList_step fun K hK=>?_
     rw [if_pos (zju rt hgo)]
     have hpw:=zhR r rt parts.toList
     have hle:=Nat.le_of_ble_eq_true hle
     obtain ⟨i,d,z,tok⟩:=ht.at_ (zal (by rw [hk];simp):E.T t≠_)
     obtain ⟨rfl,hes⟩:=tok.slice_ hk
     obtain ⟨i2,d2,z2,tok2⟩:=ht.at_ (zaz hes)
     obtain ⟨z1,z3⟩:=zce (T:=E.T) (h:=h) (β:=β) (w:=w) (S:=S) _ _ tok2.zok
     have hzl:=tok2.zlen
     have hzs:z2.cells.size=(E.T e').size:=by rw [← Array.length_toList,← z1,hzl]
     let zs:List Value:=(List.range (n' * (E.T e').size)).map fun k=>z2.cells[k % z2.cells.size]!
     have hz:PW (RelC E.T h β w S) (repl (E.T e').zero n') zs:=by
      refine ⟨by simp [zs,zb1,hzl],fun k x y hx hy=>?_⟩
      have hkl:k < n' * (E.T e').size:=by have:=(List.getElem?_eq_some_iff.1 hx).1;rwa [zb1,hzl] at this
      rw [zhU _ n' k (by rw [hzl];exact hkl),hzl] at hx
      have hkm:k % (E.T e').size < z2.cells.size:=by rw [hzs];exact Nat.mod_lt _ (by omega)
      simp [zs,hkl] at hy
      rw [hzs] at hy
      rw [getElem!_pos z2.cells _ hkm] at hy
      refine z3 _ x y hx ?_
      rw [Array.getElem?_toList,Array.getElem?_eq_getElem hkm,hy]
     obtain ⟨out',o1,o2,o3⟩:=zfS (R:=RelC E.T h β w S) rfl _ _ _ _ _ zs hpw hz hf
     have hcl:cs'.length=n' * (E.T e').size:=by rw [o3,zb1,hzl]
     obtain ⟨S1,⟨e1,r1⟩,d1⟩:=zdX E cs' h β S w out' r o2.1 (fun i x y h1 h2=>(o2.2 i x y h1 h2).1) (zlz (by rw [ho];trivial))
     rw [hm] at e1 r1
     have hmax:n'≤maxLen:=by
      have:n' * 1≤n' * (E.T e').size:=Nat.mul_le_mul_left _ (by omega)
      unfold maxLen
      omega
     have hsl:(share h [])=h:=rfl
     rw [hsl] at e1 r1
     let w':=w.alloc (.cells out'.toArray e')
     have hb:BelowD w.heap.size w w':=(BelowD.refl _ _).alloc (Nat.le_refl _) _
     have hnew:w'.heap[w.heap.size]?=some (.cells out'.toArray e' (0,0)):=heap_alloc_new w _
     have hsz:w'.heap.size=w.heap.size+1:=by simp [w']
     have hol:out'.length=n' * (E.T e').size:=by rw [← o2.1,hcl]
     have hxl:(frzL h cs').length=n' * (E.T e').size:=by rw [zbM,hcl]
     have hrow:zcl E.T w' S1 e' (zbJ (E.T e').size n' (frzL h cs')) (.row w.heap.size n'):=by
      refine ⟨out'.toArray,hnew,by rw [za5];exact Nat.le_refl _,hn0,hmax,by simpa using hol,fun i c hi=>?_,fun i j c x hi hj=>?_⟩
      ·have hin:i < n':=by have:=(List.getElem?_eq_some_iff.1 hi).1;rwa [za5] at this
       rw [zdx _ n' _ i hin] at hi
       cases hi
       have:(i+1) * (E.T e').size≤n' * (E.T e').size:=Nat.mul_le_mul_right _ hin
       rw [Nat.add_mul,Nat.one_mul] at this
       simp
       omega
      ·have hin:i < n':=by have:=(List.getElem?_eq_some_iff.1 hi).1;rwa [za5] at this
       rw [zdx _ n' _ i hin] at hi
       cases hi
       rw [List.getElem?_take] at hj
       split at hj
       ·rename_i hjs
        rw [List.getElem?_drop] at hj
        have hlt:=(List.getElem?_eq_some_iff.1 hj).1
        have hlt2:i * (E.T e').size+j < out'.length:=by rw [hol,← hxl];exact hlt
        have hvj:out'[i * (E.T e').size+j]?=some (out'[i * (E.T e').size+j]'hlt2):=List.getElem?_eq_getElem hlt2
        refine ⟨out'[i * (E.T e').size+j]'hlt2,by simp,(d1 _ _ _ hj hvj).mono (fun _ h=>h) fun a ha=>hb.cell (r1.stable a ha),zfl o2 _ (List.mem_of_getElem? hvj)⟩
       ·cases hj
     obtain ⟨e2,r2⟩:=r1.newRow e' (zbJ (E.T e').size n' (frzL h cs')) false (.row w.heap.size n') hb (fun g hg=>by
      simp only [Con.blk,Option.some.injEq] at hg
      subst hg
      exact ⟨Nat.le_refl _,by omega⟩) hrow
     have hkg:(β++[Con.row w.heap.size n'])[h.length]?=some (.row w.heap.size n'):=by rw [← r.len,getElem?_append_new]
     have hgt:¬ (n' * (E.T e').size > 2 ^ 24):=by omega
     have hrun:(execOp (Act.eval ⟨tmps,[]⟩) o).run E.P w=.ok (.value (.slice (some ⟨w.heap.size,0,none⟩) n' n')) w':=by
      have h0:¬ (n' * (E.T e').size=0):=by
       have:=Nat.mul_pos hn0 (Nat.pos_of_ne_zero hes);omega
      have harr:(Array.range (n' * (E.T e').size)).map (fun k=>z2.cells[k % z2.cells.size]!)=zs.toArray:=by
       apply Array.ext'
       simp [zs,Array.toList_map,Array.toList_range]
      simp only [execOp,hop,Instr.buildSlice,Sem.run_bind,run_underlying tok.und,Result.andThen_ok,tok2.sizeOf,if_neg hgt,Sem.run_ite,if_neg h0,tok2.zeroValue,harr,Array.toList_map,o1,Sem.run_pure,newRow,run_newObj]
      simp [w']
     unfold Oper.wp
     rw [hrun,Oper.upon_value,za4]
     refine hK _ _ ?_
     have ee:=e1.trans e2
     have rt':zam E.T (h++[.row e' (zbJ (E.T e').size n' (frzL h cs')) false]) (β++[Con.row w.heap.size n']) w' S1 ts tmps:=fun t=>(rt t).ext ee
     have:=hg β0 S0 w0 _ S1 w' (Act.put ⟨tmps,[]⟩ o.dst (.slice (some ⟨w.heap.size,0,none⟩) n' n')).tmps hb0 (by simp only [zht];rw [zbu];exact hn) (x0.trans ee) r2
      (rt'.put (by rw [hn];exact hd) (.own h.length n' _ e' _ false (getElem?_append_new _ _) (by rw [za5];exact Nat.le_refl _) (fun _=>by rw [hkg];rfl) rfl))
     simp only [zht,kont,Exit.then] at this
     exact this
    ·cases hc
   ·cases hc
  ·cases hc
 ·cases hc
end Go.AM
namespace Go.AM
structure InsI (l:List Lk) (x:Lk) (i:Nat) (out:List Lk) (done:Bool):Prop where
 nd:out.Nodup
 sub:∀ z∈out,z=x∨z∈l.take i
 sup:∀ z∈l.take i,z=x∨z∈out
 dn:x∈out↔done=true
theorem zhd {α:Type}:∀ (l m:List α),l.Nodup→(∀ x∈l,x∈m)→l.length≤m.length
 | [],_,_,_=>by simp
 | x::r,m,hn,hs=>by
  haveI:DecidableEq α:=fun a b=>Classical.propDecidable (a=b)
  rw [List.nodup_cons] at hn
  have hx:x∈m:=hs x (by simp)
  have h1:=zhd r (m.erase x) hn.2 fun y hy=>(List.mem_erase_of_ne (by rintro rfl;exact hn.1 hy)).2 (hs y (by simp [hy]))
  rw [List.length_erase_of_mem hx] at h1
  have h2:=List.length_pos_of_mem hx
  simp only [List.length_cons]
  omega
theorem InsI.len {l:List Lk} {u:Lk} {i:Nat} {out:List Lk} {d:Bool} (h:InsI l u i out d):out.length≤i+1:=by
 have:=zhd out (u::l.take i) h.nd fun z hz=>by simpa using h.sub z hz
 simp only [List.length_cons,List.length_take] at this
 omega
theorem InsI.add {l:List Lk} {u:Lk} {i:Nat} {out:List Lk} {d:Bool} (h:InsI l u i out d) (e:(!d)=true):InsI l u i (out++[u]) true:=by
 have hnu:u ∉ out:=fun hu=>by have:=h.dn.1 hu;subst this;simp at e
 refine ⟨?_,fun z hz=>?_,fun z hz=>?_,by simp⟩
 ·refine List.nodup_append.2 ⟨h.nd,by simp,fun a ha b hb=>?_⟩
  simp only [List.mem_singleton] at hb
  subst hb
  rintro rfl
  exact hnu ha
 ·simp only [List.mem_append,List.mem_singleton] at hz
  rcases hz with hz|hz
  ·exact h.sub z hz
  ·exact .inl hz
 ·simp only [List.mem_append,List.mem_singleton]
  rcases h.sup z hz with h2|h2
  ·exact .inl h2
  ·exact .inr (.inl h2)
structure InsR (l:List Lk) (u:Lk) (r:List Lk):Prop where
 nd:r.Nodup
 sub:∀ z∈r,z=u∨z∈l
 sup:∀ z∈l,z∈r
theorem InsI.done {l:List Lk} {u:Lk} {out:List Lk} {d:Bool} (h:InsI l u l.length out d) (e:(!d)=false):InsR l u out:=by
 have hd:d=true:=by simpa using e
 have hu:=h.dn.2 hd
 refine ⟨h.nd,fun z hz=>by simpa using h.sub z hz,fun z hz=>?_⟩
 rcases h.sup z (by simpa using hz) with rfl|h1
 ·exact hu
 ·exact h1
structure LkN (N:List Str) (l:List Lk):Prop where
 nd:l.Nodup
 mem:∀ z∈l,z.fst∈N∧z.snd∈N
theorem InsR.lk {N:List Str} {l:List Lk} {u:Lk} {r:List Lk} (h:InsR l u r) (hl:LkN N l) (h1:u.fst∈N) (h2:u.snd∈N):LkN N r :=
 ⟨h.nd,fun z hz=>by rcases h.sub z hz with rfl|hz;exact ⟨h1,h2⟩;exact hl.mem z hz⟩
theorem zk1 {α β:Type} (f:α→List β) (k:Nat) (hf:∀ a,(f a).length=k):∀ l:List α,(l.flatMap f).length=l.length * k
 | []=>by simp
 | a::r=>by rw [List.flatMap_cons,List.length_append,hf,zk1 f k hf r,List.length_cons,Nat.add_mul];omega
theorem LkN.len {N:List Str} {l:List Lk} (h:LkN N l):l.length≤N.length * N.length:=by
 have h1:=zhd l (N.flatMap fun a=>N.map fun b=>⟨a,b⟩) h.nd fun z hz=>by
  simp only [List.mem_flatMap,List.mem_map]
  exact ⟨z.fst,(h.mem z hz).1,z.snd,(h.mem z hz).2,by cases z;rfl⟩
 have h2:(N.flatMap fun a=>N.map fun b=>(⟨a,b⟩:Lk)).length=N.length * N.length:=by
  exact zk1 _ _ (fun a=>by simp) N
 omega
end Go.AM
namespace Go.AM
set_option maxRecDepth 100000
set_option maxHeartbeats 1000000
set_option linter.unusedSimpArgs false
set_option linter.unusedVariables false
abbrev ziz (N:List Str) (l out:List Lk):Prop:=LkN N out∧∀ z∈l,z∈out
theorem ziz.short {N:List Str} {l out:List Lk} (h:ziz N l out) (hN:N.length≤1000):zac out:=by
 have h1:=h.1.len
 have h2:=Nat.mul_le_mul hN hN
 simp only [zac];omega
theorem ziz.ins {N:List Str} {l out:List Lk} {a b:Lk} {i j:Nat} {r:List Lk} (h:ziz N l out) (hl:LkN N l) (hx:l[i]?=some a) (hy:l[j]?=some b) (hr:InsR out ⟨a.fst,b.snd⟩ r):ziz N l r :=
 ⟨hr.lk h.1 (hl.mem a (List.mem_of_getElem? hx)).1 (hl.mem b (List.mem_of_getElem? hy)).2,fun z hz=>hr.sup z (h.2 z hz)⟩
end Go.AM
namespace Go.AM
set_option maxRecDepth 100000
set_option maxHeartbeats 1000000
set_option linter.unusedSimpArgs false
set_option linter.unusedVariables false
theorem LkN.short {N:List Str} {l:List Lk} (h:LkN N l) (hN:N.length≤1000):zac l:=by
 have h1:=h.len
 have h2:=Nat.mul_le_mul hN hN
 simp only [zac];omega
end Go.AM
namespace Go.AM
set_option maxRecDepth 100000
set_option maxHeartbeats 1000000
set_option linter.unusedSimpArgs false
set_option linter.unusedVariables false
def nmAt (k:Nat):Str:=([⟨#[110]⟩,⟨#[109]⟩]:List Str).getD k ⟨#[]⟩
theorem el_nm (k:Nat) (h:(k:Int) < 2):ElAt [[sv ⟨#[110]⟩],[sv ⟨#[109]⟩]] (k:Int) [sv (nmAt k)] 1:=by
 have:k=0∨k=1:=by omega
 rcases this with rfl|rfl <;> exact ⟨by decide,rfl,rfl⟩
def tuAt (k:Nat):Str:=([⟨#[116]⟩,⟨#[117]⟩]:List Str).getD k ⟨#[]⟩
theorem el_tu (k:Nat) (h:(k:Int) < 2):ElAt [[sv ⟨#[116]⟩],[sv ⟨#[117]⟩]] (k:Int) [sv (tuAt k)] 1:=by
 have:k=0∨k=1:=by omega
 rcases this with rfl|rfl <;> exact ⟨by decide,rfl,rfl⟩
structure GenOk (x:Tg):Prop where
 ok:TgOk 6 x
 set:∀ a∈x.acts,AcSet a
structure CertOk (x x':Tg):Prop where
 gen:GenOk x→GenOk x'
 name:x'.name=x.name
 table:x'.table=x.table
 prec:x'.prec=x.prec
 foll:x'.foll=x.foll
end Go.AM
namespace Go.AM
set_option maxRecDepth 100000
set_option maxHeartbeats 1000000
set_option linter.unusedSimpArgs false
set_option linter.unusedVariables false
structure SetsOk (i:Nat) (sets:List Se):Prop where
 len:sets.length≤i
 ex:∀ s∈sets,XOk 5 s.ex
 two:i≤2
theorem SetsOk.push {i:Nat} {sets:List Se} {c:Str} {e:X} (h:SetsOk i sets) (hi:i < 2) (he:XOk 4 e):SetsOk (i+1) (sets++[⟨c,e⟩]) :=
 ⟨by have:=h.len;simp;omega,fun s hs=>by
  simp only [List.mem_append,List.mem_singleton] at hs
  rcases hs with hs|rfl
  ·exact h.ex s hs
  ·exact he.le (by omega),by omega⟩
end Go.AM
namespace Go.AM
set_option maxRecDepth 100000
set_option maxHeartbeats 1000000
set_option linter.unusedSimpArgs false
set_option linter.unusedVariables false
structure DmlIn (n:Nat) (a:Ac) (frs:List Fr) (tb:List Tb):Prop where
 ac:AcOk n a
 kd:1≤a.kind∧a.kind≤3
 fo:FsOk (n+1) frs
 fg:FsG frs
 to:TbOk tb
 tg:TbG tb
 tv:∀ x∈tb,∀ r∈x.rows,zac r.vals
section
variable {n : Nat} {a : Ac} {frs : List Fr} {tb : List Tb}
theorem DmlIn.ins (h:DmlIn n a frs tb) {t:Tb} (ht:t∈tb) {r:Rw} (hr:r∈t.rows):FsOk n (zas frs t.sch r.vals)∧FsG (zas frs t.sch r.vals) :=
 ⟨h.fo.eins (t:=t) (h.to.cols t ht) (h.tg.vals t ht r hr),h.fg.ins (t:=t) (h.tg.vals t ht r hr)⟩
end
end Go.AM
namespace Go.AM
set_option maxRecDepth 100000
set_option maxHeartbeats 1000000
set_option linter.unusedSimpArgs false
set_option linter.unusedVariables false
section
variable {n : Nat} {a : Ac} {frs : List Fr} {tb : List Tb}
end
end Go.AM
namespace Go.AM
set_option maxRecDepth 100000
set_option maxHeartbeats 1000000
set_option linter.unusedSimpArgs false
set_option linter.unusedVariables false
theorem zoT {α:Type} {p:α→Bool} {l:List α} {i:Nat} {x:α} {z:Int} (h:z=idxF p (l.drop i) i) (hx:l[i]?=some x) (hp:p x=false):z=idxF p (l.drop (i+1)) (i+1):=by
 rw [zde hx] at h;rw [h];simp only [idxF,hp,cond_false]
theorem ix_hit {α:Type} {p:α→Bool} {l:List α} {i:Nat} {x:α} {z:Int} (h:z=idxF p (l.drop i) i) (hx:l[i]?=some x) (hp:p x=true):((i:Nat):Int)=z:=by
 rw [zde hx] at h;rw [h];simp only [idxF,hp,cond_true]
theorem zm6 {α:Type} {p:α→Bool} {l:List α} {z:Int} (h:z=idxF p (l.drop l.length) l.length):-1=z:=by
 rw [List.drop_length] at h;rw [h];rfl
end Go.AM
namespace Go.AM
set_option maxRecDepth 100000
set_option maxHeartbeats 1000000
set_option linter.unusedSimpArgs false
set_option linter.unusedVariables false
structure TcOk (cd cu:Ch × Int):Prop where
 code:cd.2=cu.2
 ids:cu.1.upd.map Pr.id=cd.1.del
 len:cd.1.del.length≤900
end Go.AM
namespace Go.AM
set_option maxRecDepth 100000
set_option maxHeartbeats 1000000
set_option linter.unusedSimpArgs false
set_option linter.unusedVariables false
/- ### the order of values -/
/- ### least and greatest items -/
/- ### sums -/
end Go.AM
namespace Go.AM
set_option maxRecDepth 100000
set_option maxHeartbeats 1000000
set_option linter.unusedSimpArgs false
set_option linter.unusedVariables false
/- ### sorting -/
/- ### the tables -/
theorem StoreV.short {n:Int} {m:List Tb} (h:StoreV n m) (hn:n≤1000):∀ x∈m,∀ r∈x.rows,zac r.vals:=fun x hx r hr=>by
 have h1:=((h.rows x hx).fit r hr).len
 have h2:=((h.ok hn).tabs x hx).2.few
 have h3:r.vals.length=x.sch.cols.length:=h1
 simp only [zac,Few] at *;omega
/- ### the codes -/
/- ### three values -/
end Go.AM
namespace Go.AM
set_option maxRecDepth 100000
set_option maxHeartbeats 1000000
set_option linter.unusedSimpArgs false
set_option linter.unusedVariables false
def fit4 (c:Col) (v:V):Int :=
 bif v.kind==0 then
  bif c.notNull then
   8
  else
   0
 else
  bif v.kind != c.type then
   5
  else
   0
def fitL:List Col→List V→Int
 | c::cs,v::vs=>bif fit4 c v != 0 then fit4 c v else fitL cs vs
 | _,_=>0
def fit5 (s:Sch) (l:List V):Int:=bif l.length != s.cols.length then 17 else fitL s.cols l
def fnd7 (n:Int):List Pr→List V × Bool
 | []=>([],false)
 | p::r=>bif p.id==n then (p.nw,true) else fnd7 n r
end Go.AM
namespace Go.AM
set_option maxRecDepth 100000
set_option maxHeartbeats 1000000
set_option linter.unusedSimpArgs false
set_option linter.unusedVariables false
abbrev anyI (ks:List Int) (n:Int):Bool:=ks.any fun x=>x==n
/- values -/
def keyOf (kc:Int) (r:Rw):Option V:=bif decide (0≤kc)&&decide (kc < ((r.vals.map V.cells).length:Int)) then some (zhB r.vals kc) else none
def keysOf (kc:Int) (l:List Rw):List V:=l.filterMap (keyOf kc)
end Go.AM
namespace Go.AM
set_option maxRecDepth 100000
set_option maxHeartbeats 1000000
set_option linter.unusedSimpArgs false
set_option linter.unusedVariables false
structure Acc where
 tab:Str
 col:Str
 mode:Int
def Acc.cells (a:Acc):List AV:=[sv a.tab,sv a.col,iv a.mode]
abbrev Acc.av (a:Acc):AV:=.agg a.cells
@[simp] theorem Acc.cells_length (a:Acc):a.cells.length=3:=rfl
def eqA (a b:Acc):Bool:=a.tab==b.tab&&(a.col==b.col&&(a.mode==b.mode&&true))
theorem zeJ {a b:Acc}:eqA a b=true↔a=b:=by
 obtain ⟨k,i,t⟩:=a;obtain ⟨k',i',t'⟩:=b
 constructor
 ·intro h
  simp only [eqA,Bool.and_eq_true,Bool.and_true,beq_iff_eq] at h
  obtain ⟨h1,h2,rfl⟩:=h
  rw [zhw h1,zhw h2]
 ·intro h;cases h;simp [eqA,zfZ]
abbrev itA (a:Acc):AV × AV:=(a.av,bv true)
theorem zi2 (n m:Acc):zb6 n.av m.av (eqA n m):=⟨true,[.string n.tab,.string n.col,.int .i64 n.mode],[.string m.tab,.string m.col,.int .i64 m.mode],rfl,rfl,by simp [zaQ,zc3,eqA]⟩
theorem zl5:StructEq E0.P Ty.Access [.str,.str,.int .i64] :=
 seq_of E0ok (fs:=E0.P.fieldsOf Ty.Access) kr kr kr kr
theorem ziX (a b:Str) (c:Int):KeyOK E0.P Ty.M_Access_bool (.agg [sv a,sv b,iv c]) :=
 zkp E0ok (kt:=Ty.Access) (et:=Ty.bool) (fs:=E0.P.fieldsOf Ty.Access) kr kr kr zl5 rfl rfl
theorem zhz {a b:Str}:ltS a b=true↔a.toList < b.toList:=by
 unfold ltS;rw [Go.Proofs.bytesLess_eq];simp
def ltA (a b:Acc):Bool:=ltS a.tab b.tab || (a.tab==b.tab&&(ltS a.col b.col || (a.col==b.col&&decide (a.mode < b.mode))))
theorem zm5 {a b:Str} (h:a.toList=b.toList):a=b:=by
 rw [Go.Lib.toList_data,Go.Lib.toList_data] at h
 exact ByteArray.ext (Array.toList_inj.1 h)
theorem zhx {a b:Acc}:ltA a b=true↔a.tab.toList < b.tab.toList∨(a.tab=b.tab∧(a.col.toList < b.col.toList∨(a.col=b.col∧a.mode < b.mode))):=by
 have e:∀ x y:Str,(x==y)=true↔x=y:=fun x y=>⟨zhw,fun h=>by subst h;exact zfZ x⟩
 simp only [ltA,Bool.or_eq_true,Bool.and_eq_true,zhz,e,decide_eq_true_eq]
theorem zbV (a:Acc):ltA a a=false:=by
 cases h:ltA a a
 ·rfl
 ·rcases zhx.1 h with h|⟨_,h|⟨_,h⟩⟩
  ·exact absurd h (List.lt_irrefl _)
  ·exact absurd h (List.lt_irrefl _)
  ·omega
theorem zdp {a b c:Acc} (h1:ltA a b=true) (h2:ltA b c=true):ltA a c=true:=by
 rw [zhx] at *
 rcases h1 with h1|⟨e1,h1⟩
 ·rcases h2 with h2|⟨e2,_⟩
  ·exact .inl (List.lt_trans h1 h2)
  ·rw [← e2];exact .inl h1
 ·rcases h2 with h2|⟨e2,h2⟩
  ·rw [e1];exact .inl h2
  ·refine .inr ⟨e1.trans e2,?_⟩
   rcases h1 with h1|⟨e3,h1⟩
   ·rcases h2 with h2|⟨e4,_⟩
    ·exact .inl (List.lt_trans h1 h2)
    ·rw [← e4];exact .inl h1
   ·rcases h2 with h2|⟨e4,h2⟩
    ·rw [e3];exact .inl h2
    ·exact .inr ⟨e3.trans e4,by omega⟩
theorem ziS (a b:Str):a.toList < b.toList∨a=b∨b.toList < a.toList:=by
 by_cases h1:a.toList < b.toList
 ·exact .inl h1
 ·by_cases h2:b.toList < a.toList
  ·exact .inr (.inr h2)
  ·exact .inr (.inl (zm5 (List.le_antisymm (List.not_lt.1 h2) (List.not_lt.1 h1))))
theorem zfL (a b:Acc):ltA a b=true∨a=b∨ltA b a=true:=by
 rw [zhx,zhx]
 rcases ziS a.tab b.tab with h|h|h
 ·exact .inl (.inl h)
 ·rcases ziS a.col b.col with h1|h1|h1
  ·exact .inl (.inr ⟨h,.inl h1⟩)
  ·rcases Int.lt_trichotomy a.mode b.mode with h2|h2|h2
   ·exact .inl (.inr ⟨h,.inr ⟨h1,h2⟩⟩)
   ·refine .inr (.inl ?_)
    obtain ⟨x,y,z⟩:=a
    obtain ⟨x',y',z'⟩:=b
    simp only at h h1 h2
    subst h;subst h1;subst h2;rfl
   ·exact .inr (.inr (.inr ⟨h.symm,.inr ⟨h1.symm,h2⟩⟩))
  ·exact .inr (.inr (.inr ⟨h.symm,.inl h1⟩))
 ·exact .inr (.inr (.inl h))
def AccS (ks:List Acc):Prop:=ks.Pairwise fun a b=>ltA a b=true
def addK:List Acc→Acc→List Acc
 | [],a=>[a]
 | b::r,a=>bif eqA a b then b::r else bif ltA a b then a::b::r else b::addK r a
theorem zh1 {a x:Acc}:∀ ks:List Acc,x∈addK ks a↔x=a∨x∈ks
 | []=>by simp [addK]
 | b::r=>by
  unfold addK
  cases h:eqA a b
  ·cases h2:ltA a b
   ·simp only [cond_false,List.mem_cons,zh1 r]
    exact ⟨fun h=>by rcases h with h|h|h <;> simp [h],fun h=>by rcases h with h|h|h <;> simp [h]⟩
   ·simp
  ·have:=zeJ.1 h
   subst this
   simp
theorem AccS.ins {ks:List Acc} (h:AccS ks) (a:Acc):AccS (addK ks a):=by
 induction ks with
 | nil=>simp [AccS,addK]
 | cons b r ih =>
  obtain ⟨h1,h2⟩:=List.pairwise_cons.1 h
  unfold addK
  cases h3:eqA a b
  ·cases h4:ltA a b
   ·simp only [cond_false]
    refine List.pairwise_cons.2 ⟨fun x hx=>?_,ih h2⟩
    rcases (zh1 r).1 hx with rfl|hx
    ·rcases zfL b x with h5|h5|h5
     ·exact h5
     ·rw [zeJ.2 h5.symm] at h3;cases h3
     ·rw [h4] at h5;cases h5
    ·exact h1 x hx
   ·simp only [cond_false,cond_true]
    refine List.pairwise_cons.2 ⟨fun x hx=>?_,h⟩
    rcases List.mem_cons.1 hx with rfl|hx
    ·exact h4
    ·exact zdp h4 (h1 x hx)
  ·exact h
theorem AccS.nodup {ks:List Acc} (h:AccS ks):ks.Nodup:=h.imp fun {a b} hab e=>by subst e;rw [zbV] at hab;cases hab
theorem zj9 {a:Acc}:∀ {ks:List Acc},a ∉ ks→(addK ks a).Perm (a::ks)
 | [],_=>.refl _
 | b::r,h=>by
  unfold addK
  have h1:eqA a b=false:=by
   cases he:eqA a b
   ·rfl
   ·exact absurd (by rw [zeJ.1 he];exact List.mem_cons_self) h
  rw [h1]
  cases h2:ltA a b
  ·simp only [cond_false]
   exact ((zj9 fun hm=>h (List.mem_cons_of_mem _ hm)).cons b).trans (.swap _ _ _)
  ·exact .refl _
theorem zkO {l r:List Acc} (hl:AccS l) (hr:AccS r) (h:∀ x,x∈l↔x∈r):l=r:=by
 induction l generalizing r with
 | nil =>
  cases r with
  | nil=>rfl
  | cons b r=>exact absurd ((h b).2 List.mem_cons_self) (by simp)
 | cons a l ih =>
  cases r with
  | nil=>exact absurd ((h a).1 List.mem_cons_self) (by simp)
  | cons b r =>
   obtain ⟨a1,a2⟩:=List.pairwise_cons.1 hl
   obtain ⟨b1,b2⟩:=List.pairwise_cons.1 hr
   have e:a=b:=by
    rcases List.mem_cons.1 ((h a).1 List.mem_cons_self) with e|ha
    ·exact e
    ·rcases List.mem_cons.1 ((h b).2 List.mem_cons_self) with e|hb
     ·exact e.symm
     ·have:=zdp (a1 b hb) (b1 a ha)
      rw [zbV] at this;cases this
   subst e
   congr 1
   refine ih a2 b2 fun x=>⟨fun hx=>?_,fun hx=>?_⟩
   ·rcases List.mem_cons.1 ((h x).1 (List.mem_cons_of_mem _ hx)) with e|h1
    ·subst e;have:=a1 x hx;rw [zbV] at this;cases this
    ·exact h1
   ·rcases List.mem_cons.1 ((h x).2 (List.mem_cons_of_mem _ hx)) with e|h1
    ·subst e;have:=b1 x hx;rw [zbV] at this;cases this
    ·exact h1
theorem znO {ks:List Acc} (h:AccS ks) {a:Acc} (ha:a∈ks):addK ks a=ks :=
 zkO (h.ins a) h fun x=>by rw [zh1];exact ⟨fun hx=>by rcases hx with rfl|hx <;> assumption,.inr⟩
theorem zoS (ks:List Acc) (a:Acc) (h:AccS ks):PutAt (ks.map itA) a.av (bv true) ((addK ks a).map itA):=by
 by_cases ha:a∈ks
 ·rw [znO h ha]
  obtain ⟨la,lb,rfl⟩:=List.append_of_mem ha
  have hn:=h.nodup
  refine PutAt.old (la.map itA) (lb.map itA) a.av (bv true) (by simp) ?_ (fun p hp=>?_) ?_
  ·have:=zi2 a a;rwa [zeJ.2 rfl] at this
  ·rw [← List.map_append] at hp
   obtain ⟨m,hm,rfl⟩:=List.mem_map.1 hp
   have h1:=zi2 a m
   have h2:eqA a m=false:=by
    cases he:eqA a m
    ·rfl
    ·have:=zeJ.1 he
     subst this
     have hn:=List.perm_middle.nodup_iff.1 hn
     exact absurd hm (List.nodup_cons.1 hn).1
   rwa [h2] at h1
  ·rw [List.map_append,List.map_cons];exact List.perm_middle
 ·refine PutAt.new (fun p hp=>?_) ?_
  ·obtain ⟨m,hm,rfl⟩:=List.mem_map.1 hp
   have h1:=zi2 a m
   have h2:eqA a m=false:=by
    cases he:eqA a m
    ·rfl
    ·exact absurd (zeJ.1 he ▸ hm) ha
   rwa [h2] at h1
  ·exact (zj9 ha).map itA
def zap (ks l:List Acc):List Acc:=l.foldl addK ks
theorem zdw (ks a b:List Acc):zap ks (a++b)=zap (zap ks a) b:=by simp [zap]
theorem AccS.all {ks:List Acc} (h:AccS ks):∀ l:List Acc,AccS (zap ks l)
 | []=>h
 | a::l=>(h.ins a).all l
theorem AccS.nil:AccS []:=List.Pairwise.nil
end Go.AM
namespace Go.AM
open Go.Shelf Go.RowKit Go.Lib Go.Sort
open Go.Proofs (ltOf CmpLays sortWorldK)
set_option maxRecDepth 100000
set_option maxHeartbeats 1000000
instance:Inhabited Acc:=⟨⟨⟨#[]⟩,⟨#[]⟩,0⟩⟩
def encA (a:Acc):List Value:=[.string a.tab,.string a.col,.int .i64 a.mode]
theorem zeY (a:Acc):(encA a).length=3:=rfl
theorem zhV (a:Acc):∀ v∈encA a,v.oneCell'=true:=by
 intro v hv;simp only [encA,List.mem_cons,List.not_mem_nil,or_false] at hv
 rcases hv with rfl|rfl|rfl <;> rfl
def flA (xa:List Acc):List Value:=xa.flatMap encA
theorem zhy:∀ xa:List Acc,(flA xa).length=xa.length * 3
 | []=>rfl
 | a::r=>by
  have:=zhy r
  simp only [flA,List.flatMap_cons,List.length_append,List.length_cons] at this ⊢
  rw [this,zeY];omega
theorem zho:∀ (xa:List Acc) (i j:Nat) (a:Acc),xa[i]?=some a→j < 3→(flA xa)[i * 3+j]?=(encA a)[j]?
 | [],i,j,a,h,_=>by simp at h
 | b::r,0,j,a,h,hj=>by
  simp only [List.getElem?_cons_zero,Option.some.injEq] at h
  subst h
  simp only [flA,List.flatMap_cons,Nat.zero_mul,Nat.zero_add]
  rw [List.getElem?_append_left (by rw [zeY];exact hj)]
 | b::r,i+1,j,a,h,hj=>by
  have:=zho r i j a (by simpa using h) hj
  simp only [flA,List.flatMap_cons] at this ⊢
  rw [List.getElem?_append_right (by rw [zeY];omega),zeY,← this]
  congr 1;omega
theorem zjn (xa:List Acc) (t:Nat) (ht:t < xa.length * 3):(flatK encA 3 xa.toArray)[t]! = (flA xa)[t]!:=by
 rw [get_flatK encA 3 xa.toArray t (by simpa using ht)]
 have h1:t / 3 < xa.length:=by omega
 have h2:t % 3 < 3:=Nat.mod_lt _ (by omega)
 have h3:xa[t / 3]?=some xa[t / 3]:=List.getElem?_eq_getElem h1
 have h4:=zho xa (t / 3) (t % 3) _ h3 h2
 rw [show t / 3 * 3+t % 3=t by omega] at h4
 have e1:(xa.toArray)[t / 3]! = xa[t / 3]:=by simp [h1]
 rw [e1,List.getElem!_eq_getElem?_getD,List.getElem!_eq_getElem?_getD,h4]
theorem zoY (xa:List Acc):∀ u∈flA xa,u.oneCell'=true:=by
 intro u hu
 obtain ⟨a,_,h⟩:=List.mem_flatMap.1 hu
 exact zhV a u h
theorem znr {w:World} {S:Addr→Prop} {cs:Array Value} {xa:List Acc} (hrel:∀ (i j:Nat) (c:List AV) (x:AV),(xa.map Acc.cells)[i]?=some c→c[j]?=some x→∃ y,cs[i * 3+j]?=some y∧RelD w S x y∧y.oneCell'=true) (t:Nat) (ht:t < xa.length * 3):cs[t]?=some ((flA xa)[t]!):=by
 have h1:t / 3 < xa.length:=by omega
 have h2:t % 3 < 3:=Nat.mod_lt _ (by omega)
 have h3:xa[t / 3]?=some xa[t / 3]:=List.getElem?_eq_getElem h1
 have h4:=zho xa (t / 3) (t % 3) _ h3 h2
 rw [show t / 3 * 3+t % 3=t by omega] at h4
 have h5:(xa.map Acc.cells)[t / 3]?=some (xa[t / 3]).cells:=by rw [List.getElem?_map,h3];rfl
 generalize xa[t / 3]=a at h4 h5
 have h6:∃ y,cs[t]?=some y∧(encA a)[t % 3]?=some y:=by
  match hq:t % 3,h2 with
  | 0,_ =>
   obtain ⟨y,y1,y2,_⟩:=hrel (t / 3) 0 _ (sv a.tab) h5 rfl
   cases y2
   exact ⟨_,by rw [← y1];congr 1;omega,rfl⟩
  | 1,_ =>
   obtain ⟨y,y1,y2,_⟩:=hrel (t / 3) 1 _ (sv a.col) h5 rfl
   cases y2
   exact ⟨_,by rw [← y1];congr 1;omega,rfl⟩
  | 2,_ =>
   obtain ⟨y,y1,y2,_⟩:=hrel (t / 3) 2 _ (iv a.mode) h5 rfl
   cases y2
   exact ⟨_,by rw [← y1];congr 1;omega,rfl⟩
 obtain ⟨y,y1,y2⟩:=h6
 rw [y1,List.getElem!_eq_getElem?_getD,h4,y2];rfl
def cfA (a b:Acc):Int:=orI [cmpS a.tab b.tab,cmpS a.col b.col,cmpI a.mode b.mode]
theorem zhS (a:Str):ltS a a=false:=by
 cases h:ltS a a
 ·rfl
 ·exact absurd (zhz.1 h) (List.lt_irrefl _)
theorem zkz (a b:Str):(ltS a b=true∧cmpS a b=-1∧(a==b)=false)∨(a=b∧cmpS a b=0)∨(ltS a b=false∧cmpS a b=1∧(a==b)=false):=by
 have hne:∀ {x y:Str},x.toList < y.toList→(x==y)=false:=fun {x y} h=>by
  cases he:x==y
  ·rfl
  ·rw [zhw he] at h;exact absurd h (List.lt_irrefl _)
 rcases ziS a b with h|h|h
 ·have h1:=zhz.2 h
  exact .inl ⟨h1,by simp [cmpS,h1],hne h⟩
 ·subst h
  exact .inr (.inl ⟨rfl,by simp [cmpS,zhS,eqS]⟩)
 ·have h1:ltS a b=false:=by
   cases h2:ltS a b
   ·rfl
   ·exact absurd (List.lt_trans h (zhz.1 h2)) (List.lt_irrefl _)
  have h2:eqS a b=false:=by
   cases he:eqS a b
   ·rfl
   ·have:a.toList=b.toList:=by simpa [eqS] using he
    rw [this] at h;exact absurd h (List.lt_irrefl _)
  refine .inr (.inr ⟨h1,by simp [cmpS,h1,h2],?_⟩)
  cases he:a==b
  ·rfl
  ·rw [zhw he] at h;exact absurd h (List.lt_irrefl _)
theorem cfA_lt (a b:Acc):ltOf cfA a b=ltA a b:=by
 unfold ltOf cfA ltA
 rcases zkz a.tab b.tab with ⟨h1,h2,h3⟩|⟨h1,h2⟩|⟨h1,h2,h3⟩
 ·rw [h1,h2];rfl
 ·rw [h1,zhS,zfZ]
  simp only [h1] at h2
  rw [h2]
  rcases zkz a.col b.col with ⟨g1,g2,g3⟩|⟨g1,g2⟩|⟨g1,g2,g3⟩
  ·rw [g1,g2];rfl
  ·rw [g1,zhS,zfZ]
   simp only [g1] at g2
   rw [g2]
   simp only [orI,cmpI,if_true,Bool.false_or,Bool.true_and]
   by_cases k1:a.mode < b.mode
   ·simp [k1]
   ·by_cases k2:b.mode < a.mode <;> simp [k1,k2]
  ·rw [g1,g2,g3];rfl
 ·rw [h1,h2,h3];rfl
theorem zdn:ltOf cfA=ltA:=by funext a b;exact cfA_lt a b
theorem swoA:SWO (ltOf cfA) where
 irrefl x:=by rw [zdn];exact zbV x
 trans x y z h1 h2:=by rw [zdn] at *;exact zdp h1 h2
 ntrans x y z h1 h2:=by
  rw [zdn] at *
  cases h:ltA x z
  ·rfl
  ·rcases zfL y z with h3|h3|h3
   ·rw [h3] at h2;cases h2
   ·subst h3;rw [h] at h1;cases h1
   ·have:=zdp h h3;rw [this] at h1;cases h1
theorem totA (x y:Acc) (h1:ltOf cfA x y=false) (h2:ltOf cfA y x=false):x=y:=by
 rw [zdn] at *
 rcases zfL x y with h|h|h
 ·rw [h] at h1;cases h1
 ·exact h
 ·rw [h] at h2;cases h2
def srtA (xa:List Acc):List Acc:=xa.mergeSort fun x y=>!(ltOf cfA) y x
theorem zjo (xa:List Acc):(srtA xa).Perm xa:=List.mergeSort_perm _ _
theorem zki (xa:List Acc):(srtA xa).length=xa.length:=(zjo xa).length_eq
theorem zo9 {xa ks:List Acc} (hk:AccS ks) (hp:xa.Perm ks):srtA xa=ks:=by
 have h1:(srtA xa).Pairwise fun x y=>(!(ltOf cfA) y x)=true:=List.pairwise_mergeSort (fun x y z a b=>by
  rw [zdn] at *
  simp only [Bool.not_eq_true'] at *
  have:=swoA.ntrans z y x;rw [zdn] at this;exact this b a) (fun x y=>by
  rw [zdn]
  rcases zfL x y with h|h|h
  ·have:ltA y x=false:=by
    cases h2:ltA y x
    ·rfl
    ·have:=zdp h h2;rw [zbV] at this;cases this
   simp [this]
  ·subst h;simp [zbV]
  ·have:ltA x y=false:=by
    cases h2:ltA x y
    ·rfl
    ·have:=zdp h h2;rw [zbV] at this;cases this
   simp [this]) xa
 have hp2:=(zjo xa).trans hp
 have hn:(srtA xa).Nodup:=hp2.nodup_iff.2 hk.nodup
 have h2:AccS (srtA xa):=by
  refine (h1.and hn).imp fun {a b} ⟨x,y⟩=>?_
  rw [zdn] at x
  rcases zfL a b with h|h|h
  ·exact h
  ·exact absurd h y
  ·rw [h] at x;cases x
 exact zkO h2 hk fun x=>hp2.mem_iff
end Go.AM
namespace Go.AM
open Go.Shelf Go.RowKit Go.Lib Go.Sort
open Go.Proofs (ltOf CmpLays sortWorldK)
set_option maxRecDepth 100000
set_option maxHeartbeats 1000000
theorem holdsA {w:World} {S:Addr→Prop} {g:Nat} {cs:Array Value} {xa:List Acc} (hg:w.heap[g]?=some (.cells cs Ty.Access (0,0)))
  (hrel:∀ (i j:Nat) (c:List AV) (x:AV),(xa.map Acc.cells)[i]?=some c→c[j]?=some x→∃ y,cs[i * 3+j]?=some y∧RelD w S x y∧y.oneCell'=true):HoldsK encA 3 w g 0 xa.toArray:=by
 intro j hj
 simp only [size_flatK,List.size_toArray] at hj
 refine ⟨?_,?_⟩
 ·rw [zjn xa j hj]
  simp only [World.cell?,hg,Nat.zero_add]
  exact znr hrel j hj
 ·simp only [World.frozen?,hg,Nat.zero_add]
  simp
theorem zo7 {w:World} {g:Nat} {cs:Array Value} (bs:List Acc) (m:Nat) (hg:w.heap[g]?=some (.cells cs Ty.Access (0,0))) :
  ∃ cs':Array Value,(putRowK encA 3 (Sort.ahead w m) g 0 bs.toArray).heap[g]?=some (.cells cs' Ty.Access (0,0))∧cs'.size=cs.size∧∀ k,cs'[k]?=if k < bs.length * 3 then (cs[k]?).map (fun _=>(flA bs)[k]!) else cs[k]?:=by
 refine ⟨putCells id 0 (flatK encA 3 bs.toArray) cs,?_,by simp [putCells],fun k=>?_⟩
 ·show ((Sort.ahead w m).heap.modify g _)[g]?=_
  rw [Array.getElem?_modify,if_pos rfl,show (Sort.ahead w m).heap=w.heap from rfl,hg]
  rfl
 ·simp only [putCells,Array.getElem?_mapIdx,size_flatK,List.size_toArray,Nat.zero_le,true_and,Nat.zero_add,Nat.sub_zero]
  by_cases hk:k < bs.length * 3
  ·simp only [hk,if_true]
   rw [zjn bs k hk];rfl
  ·simp only [hk,if_false]
   cases cs[k]? <;> rfl
theorem zjL {w:World} {g:Nat} (bs:List Acc) (m:Nat) (k:Nat) (hk:k≠g):(putRowK encA 3 (Sort.ahead w m) g 0 bs.toArray).heap[k]?=w.heap[k]?:=by
 show ((Sort.ahead w m).heap.modify g _)[k]?=_
 rw [Array.getElem?_modify,if_neg (fun h=>hk h.symm)]
 rfl
theorem zma {g:FuncId} (hgo:GoFn E0.P g) (hcl:∀ a b:Acc,zaa E0 g [a.av,b.av] [] (iv (cfA a b)) []) {S:Addr→Prop} {w:World} {q:Nat} (r:Rel E0 [] [] S w) (hq:∀ a,S a→a.block≠q) (hqs:q < w.heap.size) (size:Nat):CmpLays E0.P g #[] encA 3 cfA q 0 size w:=by
 intro m os dk hdk x y
 have hkeep:∀ b,b < w.heap.size→b≠q→(sortWorldK encA 3 w q 0 m dk os).heap[b]?=w.heap[b]?:=fun b hb hne=>by
  show ((putRowK encA 3 (Sort.ahead w m) q 0 dk).heap++os)[b]?=_
  rw [Array.getElem?_append_left (by simpa [putRowK,Sort.ahead] using hb)]
  show ((Sort.ahead w m).heap.modify q _)[b]?=_
  rw [Array.getElem?_modify,if_neg (fun h=>hne h.symm)]
  rfl
 have hsz:w.heap.size≤(sortWorldK encA 3 w q 0 m dk os).heap.size:=by simp [sortWorldK,Sort.grow,putRowK,Sort.ahead]
 generalize sortWorldK encA 3 w q 0 m dk os=W at hkeep hsz ⊢
 have hcell:∀ a,S a→W.cell? a=w.cell? a:=fun a ha=>World.cell?_of_block (hkeep a.block (r.stable a ha) (hq a ha))
 have r':Rel E0 [] [] S W:=⟨rfl,fun b cs hb=>by simp at hb,fun b e xs sh hb=>by simp at hb,fun b es hb=>by simp at hb,fun b b' k k' g hb=>by simp at hb,fun b k g hb=>by simp at hb,fun a ha=>Nat.lt_of_lt_of_le (r.stable a ha) hsz,fun b k g a hb=>by simp at hb,fun g cs hg=>(r.glob g cs hg).mono (fun _ h=>h) hcell⟩
 have harg:∀ a:Acc,RelV E0.T [] [] W S a.av (.agg (encA a).toArray):=fun a=>.agg a.cells (encA a) rfl (zhV a) (fun i u v hu hv=>by
  match i,hu,hv with
  | 0,hu,hv=>cases hu;cases hv;exact .d _ _ (.v _ rfl)
  | 1,hu,hv=>cases hu;cases hv;exact .d _ _ (.v _ rfl)
  | 2,hu,hv=>cases hu;cases hv;exact .d _ _ (.v _ rfl)
  | i+3,hu,_=>simp [Acc.cells] at hu)
 obtain ⟨fn,hf1,hf2,hf3⟩:=hgo
 rcases hcl x y [] S W [.agg (encA x).toArray,.agg (encA y).toArray] r' (PW.cons (harg x) (PW.cons (harg y) PW.nil)) with ⟨_,hc⟩|⟨v,w',hrun,_⟩
 ·refine Calls.mono (P:=E0.P) (by simpa using hc) ?_
  rintro e W' ⟨rv,h',β',S',v,rfl,⟨rfl,rfl⟩,_,ex,hv⟩
  refine ⟨by rw [hv.v_inv],W'.drawn - W.drawn,W'.heap.extract W.heap.size W'.heap.size,?_⟩
  have hb:∀ k,k < W.heap.size→W'.heap[k]?=W.heap[k]?:=fun k hk=>ex.keep k hk fun b' k' hb=>by simp at hb
  have hd:=ex.drawn
  have hs:=ex.size
  have e1:=ex.os
  have e2:=ex.tape
  have e3:=ex.output
  obtain ⟨heap',tape',drawn',os',output'⟩:=W'
  simp only at e1 e2 e3 hb hd hs
  subst e1;subst e2;subst e3
  have eh:heap'=W.heap++heap'.extract W.heap.size heap'.size:=by
   apply Array.ext_getElem?
   intro k
   by_cases hk:k < W.heap.size
   ·rw [Array.getElem?_append_left hk];exact hb k hk
   ·rw [Array.getElem?_append_right (by omega),Array.getElem?_extract]
    by_cases hk2:k < heap'.size
    ·rw [if_pos (by omega)];congr 1;omega
    ·rw [if_neg (by omega),Array.getElem?_eq_none (by omega)]
  simp only [Sort.grow,World.drewN]
  congr 1
  omega
 ·exfalso
  simp only [callFunc,Sem.run_bind,Sem.run_pure,Result.andThen_ok,run_program,hf1,hf2,hf3,Bool.false_eq_true,if_false] at hrun
  cases hrun
theorem zoy {f g : FuncId} {fn : Func} (hfn : E0.P.funcs[f]? = some fn) (hn : (fn.name == "runtime.NumGoroutine") = false) (hb : fn.body.isNone = false)
  (hnil:∀ (a:Option Addr) (w:World),Calls E0.P f #[.slice a 0 0,.func (.func g) #[] #[]] w fun e w'=>e=.returned (.tuple #[])∧w'=w)
  (hgo:GoFn E0.P g) (hcl:∀ a b:Acc,zaa E0 g [a.av,b.av] [] (iv (cfA a b)) [])
  (hall:∀ (q:Nat) (cap:Nat) (d:Array Acc) (w:World),CmpLays E0.P g #[] encA 3 cfA q 0 d.size w→HoldsK encA 3 w q 0 d→q < w.heap.size→d.size < 4611686018427387904 →
   Calls E0.P f #[.slice (some ⟨q,0,none⟩) d.size cap,.func (.func g) #[] #[]] w fun e w'=>e=.returned (.tuple #[])∧∃ n os,w'=sortWorldK encA 3 w q 0 n (d.toList.mergeSort fun x y=>!(ltOf cfA) y x).toArray os)
  (hs:(E0.T Ty.Access).size=3) (xa:List Acc) (hxa:xa.length≤1000000000):zaa E0 f [.own 0 xa.length,.fn g []] [.row Ty.Access (xa.map Acc.cells) false] (.tup []) [.row Ty.Access ((srtA xa).map Acc.cells) false]:=by
 intro β S w vs r hp
 obtain ⟨hl,hv⟩:=hp
 match vs,hl,hv with
 | [v1,v2],_,hv =>
  have h1:=hv 0 _ v1 rfl rfl
  have h2:=hv 1 _ v2 rfl rfl
  obtain rfl:v2=.func (.func g) #[] #[]:=by
   cases h2 with
   | d _ _ h=>cases h
   | fn f caps vs hl _ =>
    have:vs=[]:=List.length_eq_zero_iff.1 (by simpa using hl.symm)
    subst this;rfl
  refine .inl ⟨⟨fn,hfn,hn,hb⟩,?_⟩
  obtain ⟨k,k1,hrow⟩:=r.row 0 Ty.Access (xa.map Acc.cells) false rfl
  have hv1:(β[0]?).bind (Con.cur xa.length)=some v1:=by
   cases h1 with
   | d _ _ h=>cases h
   | own b n y e xs sh c1 c2 c3 c4 =>
    simp only [List.getElem?_cons_zero,Option.some.injEq,Blk.row.injEq] at c1
    obtain ⟨rfl,rfl,rfl⟩:=c1
    exact c3 (by simp)
  rw [k1] at hv1
  simp only [Option.bind_some] at hv1
  cases k with
  | box _=>exact hrow.elim
  | mp _=>exact hrow.elim
  | nil a =>
   have ha0:xa.map Acc.cells=[]:=hrow
   have ha:xa=[]:=by simpa using ha0
   subst ha
   simp only [Con.cur,Option.some.injEq] at hv1
   subst hv1
   refine Calls.mono (P:=E0.P) (hnil a w) ?_
   rintro e w' ⟨rfl,rfl⟩
   have e0:srtA []=[]:=List.length_eq_zero_iff.1 (zki [])
   rw [e0]
   exact ⟨_,_,β,S,_,rfl,⟨rfl,rfl⟩,r,Ext.refl _ _ _ _,.tup [] [] rfl (fun i x y h=>by simp at h)⟩
  | row q cap =>
   simp only [Con.cur,Option.some.injEq] at hv1
   subst hv1
   obtain ⟨cs,q1,q2,q3,q4,q5,q6,q7⟩:=hrow
   rw [hs] at q5 q6 q7
   have hq:=r.lt 0 _ q k1 rfl
   have hH:=holdsA (xa:=xa) q1 q7
   rw [List.length_map] at q2
   have hc:=hall q cap xa.toArray w (zma hgo hcl (r.first 0).1 (fun a ha e=>by
    obtain ⟨e1,xs1,h1,_⟩:=r.free 0 _ q a k1 rfl ha e
    simp at h1) hq _) hH hq (by
    simp only [List.size_toArray]
    omega)
   refine Calls.mono (P:=E0.P) (by simpa using hc) ?_
   rintro e w' ⟨rfl,n,os,rfl⟩
   have hlen:=zki xa
   obtain ⟨cs',p1,p2,p3⟩:=zo7 (g:=q) (srtA xa) n q1
   have hlay:=r.lay (b:=0) (d:=0) (ys:=(srtA xa).map Acc.cells) (L:=flA (srtA xa)) (w':=putRowK encA 3 (Sort.ahead w n) q 0 (srtA xa).toArray) rfl k1 q1 (by simp [hlen]) (by rw [zhy,hs];simp) (zoY _) (fun c hc=>by
     obtain ⟨a,_,rfl⟩:=List.mem_map.1 hc;rw [hs];rfl)
    (fun i j c x hi hj=>by
     rw [List.getElem?_map,Option.map_eq_some_iff] at hi
     obtain ⟨a,hi,rfl⟩:=hi
     have hj3:j < 3:=by have:=(List.getElem?_eq_some_iff.1 hj).1;simpa using this
     rw [hs,zho _ _ _ _ hi hj3]
     match j,hj3,hj with
     | 0,_,hj=>cases hj;exact ⟨_,rfl,.v _ rfl⟩
     | 1,_,hj=>cases hj;exact ⟨_,rfl,.v _ rfl⟩
     | 2,_,hj=>cases hj;exact ⟨_,rfl,.v _ rfl⟩)
    ⟨cs',p1,p2,fun k=>by
     rw [p3 k,hs]
     simp only [Nat.zero_mul,Nat.not_lt_zero,if_false,Nat.zero_add,zhy,Nat.sub_zero]
     by_cases hk:k < (srtA xa).length * 3
     ·simp only [hk,if_true]
      have hk2:k < cs.size:=by
       rw [q5]
       have:xa.length * 3≤cap * 3:=Nat.mul_le_mul_right _ q2
       omega
      rw [Array.getElem?_eq_getElem hk2,Option.map_some,List.getElem!_eq_getElem?_getD,List.getElem?_eq_getElem (by rw [zhy];exact hk)]
      rfl
     ·simp only [hk,if_false]⟩
    (fun k hk=>zjL _ n k hk) (by simp [putRowK,Sort.ahead]) rfl rfl (by show w.drawn≤w.drawn+n;omega) rfl
   obtain ⟨x1,r1⟩:=hlay
   have e0:zcg (xa.map Acc.cells) 0 ((srtA xa).map Acc.cells)=(srtA xa).map Acc.cells:=by
    apply List.ext_getElem?
    intro i
    rw [zjd (by simp [hlen])]
    simp only [Nat.not_lt_zero,if_false,Nat.zero_add,List.length_map,Nat.sub_zero]
    by_cases hi:i < (srtA xa).length
    ·simp [hi]
    ·simp only [hi,if_false]
     rw [List.getElem?_eq_none (by simp;omega),List.getElem?_eq_none (by simp;omega)]
   rw [e0] at x1 r1
   have hbl:BelowD (putRowK encA 3 (Sort.ahead w n) q 0 (srtA xa).toArray).heap.size (putRowK encA 3 (Sort.ahead w n) q 0 (srtA xa).toArray) (sortWorldK encA 3 w q 0 n (srtA xa).toArray os) :=
    ⟨⟨rfl,rfl,rfl,by simp [sortWorldK,Sort.grow],fun b hb=>by
     show ((putRowK encA 3 (Sort.ahead w n) q 0 (srtA xa).toArray).heap++os)[b]?=_
     rw [Array.getElem?_append_left hb]⟩,Nat.le_refl _⟩
   have x2:=Ext.grow r1 hbl (fun _ h=>h) (fun _ h=>.inl h)
   have r2:=r1.grow hbl (fun _ h=>h) (fun _ h=>.inl h)
   exact ⟨_,_,β,S,_,rfl,⟨rfl,rfl⟩,r2,x1.trans x2,.tup [] [] rfl (fun i x y h=>by simp at h)⟩
end Go.AM
namespace Go.Proofs
open Go.Shelf
shelf_lay_g SlLaysF0.n6 Slsf 6 at Tryz 65 as Tryz.sortA
end Go.Proofs
namespace Go.AM
set_option maxRecDepth 100000
set_option maxHeartbeats 1000000
set_option linter.unusedSimpArgs false
set_option linter.unusedVariables false
theorem znG (a b:Acc) :∃ (r:Int),r=cfA a b∧zaa E0 S.footprint_collector_list_c1 [a.av,b.av] [] (iv r) []:=by
 exact ⟨orI [cmpS a.tab b.tab,cmpS a.col b.col,cmpI a.mode b.mode],(by rfl),(by (try simp only [X.av,Qy.av,V.av,Tb.av,Sch.av,Pl.av,xsl,fsl,vsl,tsl,List.map_append,List.map_cons,List.map_nil,V.cells,Col.cells,Rw.cells,Tb.cells,Fr.cells,Sch.cells,Pl.cells,zbw,za3,zbh,za2,zbi,X.cells,Qy.cells,X.args_mk,X.sub_mk,Qy.items_mk,Qy.wh_mk,Acc.cells]);exact wk At.footprint_collector_list_c1 [sd [(4,[sc (zdA a.tab b.tab)]),(9,[sc (zdA a.col b.col)]),(14,[sc (zhG a.mode b.mode)]),(16,[sc (zka ([cmpS a.tab b.tab,cmpS a.col b.col,cmpI a.mode b.mode]) (by first|assumption|omega|(simp;done)|(simp;omega)))])]] kr)⟩
theorem zdO (a b:Acc):zaa E0 S.footprint_collector_list_c1 [a.av,b.av] [] (iv (cfA a b)) []:=by
 obtain ⟨r,rfl,h⟩:=znG a b
 exact h
theorem zeN (xa:List Acc) (hl:xa.length≤1000000000):zaa E0 S.slices_SortFunc_Access [.own 0 xa.length,.fn S.footprint_collector_list_c1 []] [.row Ty.Access (xa.map Acc.cells) false] (.tup []) [.row Ty.Access ((srtA xa).map Acc.cells) false] :=
 zoy At.slices_SortFunc_Access kr kr
  (fun a w=>Go.Proofs.AnyF.slices_SortFunc_none { Go.Proofs.Tryz.sortA with } a 0 _ w)
  ⟨_,At.footprint_collector_list_c1,by kernel_rfl,by kernel_rfl⟩ zdO
  (fun q cap d w hcl hH hq hsz=>Go.Proofs.AnyQ.slices_SortFunc_total Go.Proofs.Tryz.sortA 3 (fun w=>by kernel_rfl) (fun w=>by kernel_rfl) encA zeY zhV cfA swoA S.footprint_collector_list_c1 #[] q 0 cap d w (Go.Proofs.enters_of At.footprint_collector_list_c1 kr rfl) hcl hH hq hsz totA) kr xa hl
end Go.AM
namespace Go.AM
set_option maxRecDepth 100000
set_option maxHeartbeats 1000000
set_option linter.unusedSimpArgs false
set_option linter.unusedVariables false
noncomputable def zgM (gi:Nat) (o:List Acc):Cfg:=zaq B.footprint_collector_list 0 [(9,itp gi),(3,.own 0 o.length)] [.row Ty.Access (o.map Acc.cells) false]
noncomputable def zoN (gi:Nat) (o:List Acc) (a:Acc):Cfg:=nxtK (nxtK (zg9 (zgM gi o)) (orcs []) (.tup [.bl true,a.av,bv true])) (orcs []) (.tup [a.av,bv true])
noncomputable def zlD (gi:Nat) (o:List Acc) (a:Acc):Cfg:=zaq B.footprint_collector_list 0 [(9,itp gi),(3,.own 0 (o.map Acc.cells++[a.cells]).length)] [.row Ty.Access (o.map Acc.cells++[a.cells]) false]
theorem zmP (gi:Nat) (o:List Acc) (a:Acc):zlD gi o a=zgM gi (o++[a]):=by
 unfold zlD zgM
 rw [show (o++[a]).map Acc.cells=o.map Acc.cells++[a.cells] by simp,show (o.map Acc.cells++[a.cells]).length=(o++[a]).length by simp]
theorem at_itA {L:List Acc} {j:Nat} {kx x:AV} (h:(L.map itA)[j]?=some (kx,x)):∃ a,L[j]?=some a∧kx=a.av∧x=bv true:=by
 rw [List.getElem?_map,Option.map_eq_some_iff] at h
 obtain ⟨p,h1,h2⟩:=h
 cases h2
 exact ⟨p,h1,rfl,rfl⟩
end Go.AM
namespace Go.AM
set_option maxRecDepth 100000
set_option maxHeartbeats 1000000
set_option linter.unusedSimpArgs false
set_option linter.unusedVariables false
structure ColV (s:Sch) (i:Nat) (x:Col):Prop where
 name:(!vName x.name)=false
 lo:decide (x.type < 1)=false
 hi:decide ((3:Int) < x.type)=false
 key:x.key=true→x.notNull=true
 at_:(idxF (fun c=>colC c x.name) s.cols 0 != ((i:Nat):Int))=false
structure SchV (s:Sch):Prop where
 name:(!vName s.name)=false
 lo:decide (((s.cols.map Col.cells).length:Int) < 1)=false
 hi:decide ((6:Int) < ((s.cols.map Col.cells).length:Int))=false
 cols:∀ i x,s.cols[i]?=some x→ColV s i x
 keys:s.cols.countP (fun c=>c.key)≤1
theorem SchV.short {s:Sch} (h:SchV s):zac s.cols:=by have:=h.hi;simp only [List.length_map,decide_eq_false_iff_not] at this;simp only [zac];omega
end Go.AM
namespace Go.AM
set_option maxRecDepth 100000
set_option maxHeartbeats 1000000
set_option linter.unusedSimpArgs false
set_option linter.unusedVariables false
structure TabV (t:Tb):Prop where
 sch:SchV t.sch
 len:decide ((100:Int) < ((t.rows.map Rw.cells).length:Int))=false
 rows:RowsV t.sch t.next t.rows
 max:decide ((2147483648:Int) < t.next)=false
 key:idxF (fun c=>c.key) t.sch.cols 0=keyC t.sch
theorem TabV.vals {t:Tb} (h:TabV t):∀ r∈t.rows,zac r.vals:=fun r hr=>by
 have h1:=(h.rows.fit r hr).len
 have h2:=h.sch.short
 have h3:r.vals.length=t.sch.cols.length:=h1
 simp only [zac] at *;omega
end Go.AM
namespace Go.AM
set_option maxRecDepth 100000
set_option maxHeartbeats 400000
set_option linter.unusedSimpArgs false
set_option linter.unusedVariables false
theorem zoF (c:Col) :∃ (b:Bool),b=c.key∧zaa E0 S.schema_KeyColumn_c1 [.agg c.cells] [] (bv b) []:=by
 exact ⟨c.key,(by rfl),wk At.schema_KeyColumn_c1 [] kr⟩
theorem zdl (c:Col):zaa E0 S.schema_KeyColumn_c1 [.agg c.cells] [] (bv c.key) []:=by
 obtain ⟨b,rfl,h⟩:=zoF c
 exact h
noncomputable def zmo (l:List Col) (i:Nat) :Cfg:=zaq B.slices_IndexFunc_Column 0 [(0,.sl (l.map Col.cells)),(1,.fn S.schema_KeyColumn_c1 []),(7,iv ((l.map Col.cells).length:Nat)),(8,iv (i:Nat))] []
theorem zcR (l:List Col) (hl:zac l) (i:Nat)  (hi:i≤(l).length) (hI:idxF (fun c=>c.key) l 0=idxF (fun c=>c.key) (l.drop i) i):((idxF (fun c=>c.key) l 0=idxF (fun c=>c.key) (l.drop (l).length) (l).length)∧(decide ((((l).length:Nat):Int) < (((l.map Col.cells).length:Nat):Int))=false)∧∀ R,Good E0 B.slices_IndexFunc_Column [] (zmo l (l).length ) R→Good E0 B.slices_IndexFunc_Column [] (zmo l i ) R)∨(∃ (r:Int),r=idxF (fun c=>c.key) l 0∧Good E0 B.slices_IndexFunc_Column [] (zmo l i ) (Shut 0 fun rZ hZ=>rZ=(iv r)∧hZ=[])):=by
 obtain ⟨kk,hk⟩:∃ kk,i+kk=(l).length:=⟨(l).length - i,by omega⟩
 induction kk generalizing i  with
 | zero =>
  have e0:i=(l).length:=by omega
  subst e0
  exact .inl ⟨hI,by simp,fun R hg=>hg⟩
 | succ kk ih =>
  obtain ⟨x,hx⟩:=zbc (l:=l) (i:=i) (by omega)
  have h0:decide (((i:Nat):Int) < (((l.map Col.cells).length:Nat):Int))=true:=by simp;omega
  have hw:IntKind.i64.wrap (((i:Nat):Int)+1)=((i+1:Nat):Int):=zaA i (by first|omega|(simp only [zac,Few] at *;omega))
  let p_1:List St:=[sb h0,se (zao Col.cells hx rfl),sc (zdl x)]
  cases h1:x.key
  ·exact (ih (i+1) (by omega) (by exact zoT hI hx (by assumption)) (by omega)).elim (fun ⟨qZ,xZ,gZ⟩=>.inl ⟨qZ,xZ,fun R hg=>zab (wkl (p_1++[sb h1,si hw]) [0,1,7,8] 0 kr (gZ R hg))⟩) (fun ⟨rY,pZ,gZ⟩=>.inr ⟨rY,pZ,zab (wkl [sb h0,se (zao Col.cells hx rfl),sc (zdl x),sb h1,si hw] [0,1,7,8] 0 kr gZ)⟩)
  ·exact .inr ⟨(i:Int),(by exact ix_hit hI hx (by assumption)),zab (wkr (p_1++[sb h1]) kr)⟩
theorem c_ixK (l:List Col) (hl:zac l):∃ (r:Int),r=idxF (fun c=>c.key) l 0∧zaa E0 S.slices_IndexFunc_Column [.sl (l.map Col.cells),.fn S.schema_KeyColumn_c1 []] [] (iv r) []:=by
 rcases zcR l (by first|assumption|rfl|omega) 0 (by first|assumption|rfl|omega) (by first|assumption|rfl|omega) with ⟨q1,q1_1,g1⟩|⟨r1_0,p1_0,g1⟩
 ·exact ⟨-1,(by first|assumption|exact zm6 (by assumption)),wkc At.slices_IndexFunc_Column [] [0,1,7,8] 0 kr (g1 _ (zab (wkr [sb q1_1] kr)))⟩
 ·exact ⟨r1_0,(by first|assumption|exact zm6 (by assumption)),wkc At.slices_IndexFunc_Column [] [0,1,7,8] 0 kr (g1)⟩
theorem zhk (s:Sch) (hs:zac s.cols) (hx:∃ r:Int,r=idxF (fun c=>c.key) s.cols 0∧zaa E0 S.slices_IndexFunc_Column [.sl (s.cols.map Col.cells),.fn S.schema_KeyColumn_c1 []] [] (iv r) []):∃ (r:Int),r=idxF (fun c=>c.key) s.cols 0∧zaa E0 S.schema_KeyColumn [s.av] [] (iv r) []:=by
 obtain ⟨r1,q1,c1⟩:=hx
 exact ⟨r1,(by assumption),wk At.schema_KeyColumn [sc c1] kr⟩
theorem zek (s:Sch) (hs:zac s.cols):zaa E0 S.schema_KeyColumn [s.av] [] (iv (idxF (fun c=>c.key) s.cols 0)) []:=by
 obtain ⟨r,rfl,h⟩:=zhk s hs (c_ixK s.cols hs)
 exact h
end Go.AM
namespace Go.AM
set_option maxRecDepth 100000
set_option maxHeartbeats 400000
set_option linter.unusedSimpArgs false
set_option linter.unusedVariables false
def zjX (s:Sch):List Pr→Int
 | []=>0
 | p::r=>bif fit5 s p.nw != 0 then fit5 s p.nw else zjX s r
def zjU (s:Sch):List (List V)→Int
 | []=>0
 | p::r=>bif fit5 s p != 0 then fit5 s p else zjU s r
def midS (c:Ch) (r:Rw):Option Rw:=bif anyI c.del r.id then none else some ⟨r.id,bif (fnd7 r.id c.upd).2 then (fnd7 r.id c.upd).1 else r.vals⟩
def midR (c:Ch) (l:List Rw):List Rw:=l.filterMap (midS c)
def insN:Int→List (List V)→List Rw
 | _,[]=>[]
 | n,v::r=>⟨n,v⟩::insN (n+1) r
def apT (t:Tb) (c:Ch):Tb:=⟨t.sch,t.next+(c.ins.length:Int),midR c t.rows++insN t.next c.ins⟩
abbrev znf (t:Tb) (c:Ch):List V:=keysOf (idxF (fun z=>z.key) t.sch.cols 0) (midR c t.rows++insN t.next c.ins)
structure ApQ (t:Tb) (c:Ch) (x:Tb) (g:Int):Prop where
 ok:g=0→x=apT t c∧zjX t.sch c.upd=0∧zjU t.sch c.ins=0∧(znf t c).Nodup
 err:g=0∨g=9∨g=10∨g=zjX t.sch c.upd∨g=zjU t.sch c.ins
 good:zjX t.sch c.upd=0→zjU t.sch c.ins=0→(midR c t.rows).length+c.ins.length≤100→(c.ins.length:Int)≤2147483648 - t.next→(znf t c).Nodup→g=0
section
variable {t x : Tb} {c : Ch} {g nx : Int} {rs rs' : List Rw} {b : Bool}
end
end Go.AM
namespace Go.AM
set_option maxRecDepth 100000
set_option maxHeartbeats 400000
set_option linter.unusedSimpArgs false
set_option linter.unusedVariables false
abbrev insT (t:Tb) (ins:List (List V)):Tb:=⟨t.sch,t.next+(ins.length:Int),t.rows++insN t.next ins⟩
end Go.AM
namespace Go.AM
theorem wkcK {f:FuncId} {fn:Func} {args:List AV} {h:Heap} {R:AV→Heap→Prop} {c':Cfg} (hf:E0.P.funcs[f]?=some fn) (l:List St) (live:List Nat) (m:Nat) (hu:zgk fn args h live m (orcs l)=some (zaB l,c'))
  (hg:Good E0 fn h c' R):zbx E0 f args h R:=by
 unfold zgk at hu
 split at hu
 ·rename_i c hb hn ha hm
  exact znC E0ok mix0 hf hb hn ha 3000 l live m hm (Option.some.inj hu) hg
 ·cases hu
theorem wkcNK {f:FuncId} {fn:Func} {args:List AV} {h:Heap} {R:AV→Heap→Prop} {c':Cfg} (hf:E0.P.funcs[f]?=some fn) (l:List St) (live:List Nat) (m:Nat) (k:List (Ct × Nat)) (hu:ziI fn args h live m k (orcs l)=some (zaB l,c'))
  (hg:Good E0 fn h c' R):zbx E0 f args h R:=by
 unfold ziI at hu
 split at hu
 ·rename_i q c1 h1
  unfold zgk at h1
  split at h1
  ·rename_i c hb hn ha hm
   obtain ⟨q2,h2⟩:=zhE hu
   have h3:=zaw l
   have h4:allP q:=by
    rw [h2] at h3
    exact (zcf h3).1
   exact zax hf hb hn (Nat.le_of_ble_eq_true ha) (zjj hm (Option.some.inj h1) h4 (zke hu h3 hg))
  ·cases h1
 ·cases hu
theorem wkrK {fn:Func} {h0:Heap} {c:Cfg} {r:AV} {H:Heap} (l:List St) (hfin:finK (mk E0) fn 3000 c (orcs l)=some (zaB l,r,H)):Good E0 fn h0 c (fun y h=>y=r∧h=H) :=
 zcA E0ok mix0 3000 l hfin ⟨rfl,rfl⟩
theorem wkrSK {fn:Func} {h0:Heap} {c:Cfg} {r y:AV} {H H':Heap} (l:List St) (hfin:finK (mk E0) fn 3000 c (orcs l)=some (zaB l,y,H)) (e:y=r∧H=H'):Good E0 fn h0 c (fun y h=>y=r∧h=H'):=by
 obtain ⟨rfl,rfl⟩:=e
 exact wkrK l hfin
end Go.AM
namespace Go.Proofs
open Go.Shelf
shelf_lay_g Lays8.n4 Nm8 4 at Tryz 95 as Tryz.growT
end Go.Proofs
namespace Go.AM
open Go.Shelf Go.RowKit Go.Lib
set_option maxRecDepth 100000
set_option maxHeartbeats 1000000
theorem zmk {w:World} (o:Obj):BelowD w.heap.size w (w.drew.alloc o):=(BelowD.refl _ w).drew.alloc (Nat.le_refl _) o
theorem zgA (n:Nat) (hn:n≤1000000):zaa E0 S.slices_Grow_Table [.nl,iv (n:Int)] [] (.own 0 0) [.row Ty.Table [] false]:=by
 intro β S w vs r hp
 obtain ⟨hl,hv⟩:=hp
 match vs,hl,hv with
 | [v1,v2],_,hv =>
  have h1:=hv 0 .nl v1 rfl rfl
  have h2:=hv 1 (iv (n:Int)) v2 rfl rfl
  obtain ⟨a,rfl⟩:∃ a,v1=.slice a 0 0:=by
   cases h1 with
   | d _ _ h=>cases h
   | nl a=>exact ⟨a,rfl⟩
  obtain rfl:v2=.int .i64 (n:Int):=by
   cases h2 with
   | d _ _ h=>cases h with|v _ _=>rfl
  refine .inl ⟨⟨_,At.slices_Grow_Table,by kernel_rfl,by kernel_rfl⟩,?_⟩
  have hb0:β.length=0:=r.len
  have hβ:β=[]:=List.length_eq_zero_iff.1 hb0
  subst hβ
  rcases Nat.eq_zero_or_pos n with h0|hpos
  ·subst h0
   have hc:=Go.Proofs.Any8.slices_Grow_room Go.Proofs.Tryz.growT a 0 0 0 w (Nat.le_refl _) (by omega) (by omega) (by omega)
   refine Calls.mono (P:=E0.P) hc ?_
   rintro e w' ⟨rfl,rfl⟩
   obtain ⟨x,r'⟩:=r.newRow Ty.Table [] false (.nil a) (BelowD.refl _ _) (fun g hg=>by cases hg) rfl
   exact ⟨_,_,_,_,_,rfl,⟨rfl,rfl⟩,r',x,.own 0 0 _ Ty.Table [] false rfl (Nat.le_refl _) (fun _=>rfl) rfl⟩
  ·obtain ⟨i,d,z,tok⟩:=E0ok.at_ (t:=Ty.Table) (by
    intro h
    have:(E0.T Ty.Table).size=4:=by kernel_rfl
    rw [h] at this;cases this)
   have hs:(E0.T Ty.Table).size=4:=by kernel_rfl
   have hby:(E0.T Ty.Table).bytes≤1000:=Nat.le_of_ble_eq_true kr
   have hbytes:n * i.bytes≤140737488355328:=by
    rw [tok.bytes]
    exact Nat.le_trans (Nat.mul_le_mul hn hby) (by omega)
   have hc:=Go.Proofs.Any8.slices_Grow_grow Go.Proofs.Tryz.growT i z tok.info tok.zero (by rw [tok.size,hs];omega) a 0 0 n [] w (Nat.le_refl _) (by omega) (by rw [Nat.zero_add];exact hbytes) (by omega) (by simp) (fun _=>rfl) (fun _ _ j v h=>by simp at h)
   have hc2:Calls E0.P Go.AM.S.slices_Grow_Table #[.slice a 0 0,.int .i64 (n:Int)] w fun e w'=>e=.returned (.slice (some ⟨w.heap.size,0,none⟩) 0 (grownCap w (0+n) 0 Ty.Table))∧w'=w.drew.alloc (.cells (([]:List Value).toArray++Builtin.zeroCells z.cells (0+n - 0)++Builtin.zeroCells z.cells (grownCap w (0+n) 0 Ty.Table - (0+n))) Ty.Table):=hc
   refine Calls.mono (P:=E0.P) hc2 ?_
   rintro e w' ⟨rfl,rfl⟩
   have hge:=grownCap_ge w (0+n) 0 Ty.Table
   have hle:=grownCap_le_maxLen w (0+n) 0 Ty.Table (by unfold maxLen;omega)
   have hzl:z.cells.size=(E0.T Ty.Table).size:=by
    have:=(zce (T:=E0.T) (h:=([]:Heap)) (β:=[]) (w:=w) (S:=S) _ _ tok.zok).1
    rw [Array.length_toList] at this
    rw [← this,tok.zlen]
   have hsz:(([]:List Value).toArray++Builtin.zeroCells z.cells (0+n - 0)++Builtin.zeroCells z.cells (grownCap w (0+n) 0 Ty.Table - (0+n))).size=grownCap w (0+n) 0 Ty.Table * (E0.T Ty.Table).size:=by
    simp only [Array.size_append,List.size_toArray,size_zeroCells,hzl,List.length_nil,Nat.zero_add,← Nat.add_mul]
    congr 1
    simp only [Nat.zero_add] at hge
    omega
   obtain ⟨x,r'⟩:=r.newRow Ty.Table [] false (.row w.heap.size (grownCap w (0+n) 0 Ty.Table)) (zmk _) (fun g hg=>by cases hg;exact ⟨Nat.le_refl _,by simp⟩)
    ⟨_,heap_alloc_new w.drew (.cells (([]:List Value).toArray++Builtin.zeroCells z.cells (0+n - 0)++Builtin.zeroCells z.cells (grownCap w (0+n) 0 Ty.Table - (0+n))) Ty.Table),Nat.zero_le _,by omega,hle,hsz,by simp,by simp⟩
   exact ⟨_,_,_,_,_,rfl,⟨rfl,rfl⟩,r',x,.own 0 0 _ Ty.Table [] false rfl (Nat.le_refl _) (fun _=>rfl) rfl⟩
end Go.AM
namespace Go.AM
set_option maxRecDepth 100000
set_option maxHeartbeats 400000
set_option linter.unusedSimpArgs false
set_option linter.unusedVariables false
theorem ziM (a b:List AV) (h:b.length=1):ElAt [a,b] ((0+1:Nat):Int) b 1:=⟨by decide,rfl,h⟩
end Go.AM
namespace Go.AM
set_option maxRecDepth 100000
set_option maxHeartbeats 1000000
set_option linter.unusedSimpArgs false
set_option linter.unusedVariables false
def vNul:V:=⟨0,0,⟨#[]⟩⟩
abbrev sNn:Str:=⟨#[110]⟩
abbrev vCnt (n:Nat):V:=⟨1,(n:Int),⟨#[]⟩⟩
end Go.AM
namespace Go.AM
set_option maxRecDepth 100000
set_option maxHeartbeats 1000000
set_option linter.unusedSimpArgs false
set_option linter.unusedVariables false
structure LogIn (t:Tb) (r:List Tb):Prop where
 sch:t.sch=schLog
 tab:∀ x∈t::r,TabV x
 to:TbOk (t::r)
 tg:TbG (t::r)
 ml:(t::r).length≤1000
end Go.AM
namespace Go.AM
set_option maxRecDepth 100000
set_option maxHeartbeats 1000000
set_option linter.unusedSimpArgs false
set_option linter.unusedVariables false
structure SeesIn (m:List Tb):Prop where
 ex:∃ t r,m=t::r∧LogIn t r∧t.rows.length≤5∧t.next≤3000
def hdT (m:List Tb):Tb:=m.headD tbNull
abbrev newR (m:List Tb) (rows:List (List X)):List (List V):=List.replicate rows.length [vCnt (hdT m).rows.length,vNul]
structure SeesRows (rows:List (List X)):Prop where
 rep:rows=List.replicate rows.length [xLit vNul,xLit vNul]
 lo:1≤rows.length
 hi:rows.length≤5
structure SeesOut (m:List Tb) (rows:List (List X)) (m2:List Tb):Prop where
 len:m2.length=m.length
 at_:m2[0]?=some (insT (hdT m) (newR m rows))
theorem SeesIn.short {m:List Tb} (h:SeesIn m):zac m:=by
 obtain ⟨t,r,rfl,h1,_⟩:=h.ex;exact h1.to.len
theorem zmT (m:List Tb) (h:0 < m.length):ElAt (m.map Tb.cells) (0:Int) (hdT m).cells 4:=by
 cases m with
 | nil=>simp at h
 | cons t r=>exact ⟨by simp,rfl,rfl⟩
theorem SeesIn.pos {m:List Tb} (h:SeesIn m):0 < m.length:=by
 obtain ⟨t,r,rfl,_⟩:=h.ex;simp
theorem SeesOut.hd {m m2:List Tb} {rows:List (List X)} (h:SeesOut m rows m2):hdT m2=insT (hdT m) (newR m rows):=by
 have h1:=h.at_
 cases m2 with
 | nil=>simp at h1
 | cons a r=>simp only [List.getElem?_cons_zero,Option.some.injEq] at h1;exact h1
theorem SeesOut.pos {m m2:List Tb} {rows:List (List X)} (h:SeesOut m rows m2):0 < m2.length:=by
 have h1:=h.at_
 cases m2 with
 | nil=>simp at h1
 | cons a r=>simp
end Go.AM
namespace Go.AM
set_option maxRecDepth 100000
set_option maxHeartbeats 1000000
set_option linter.unusedSimpArgs false
set_option linter.unusedVariables false
abbrev sUu:Str:=⟨#[117]⟩
abbrev sId2:Str:=⟨#[105,100]⟩
abbrev schU2:Sch:=zn9 sUu
structure RowU (row:List V):Prop where
 ok:zd9 schU2.cols row
end Go.AM
namespace Go.AM
set_option maxRecDepth 100000
set_option maxHeartbeats 1000000
set_option linter.unusedSimpArgs false
set_option linter.unusedVariables false
theorem zcr {p:Prop} (h:p:=by first|assumption|omega|(simp;done)|(simp;omega)):p:=h
theorem zga {p:Prop} (h:p:=by (simp only [zd2,cond_true,cond_false, *] <;> rfl)):p:=h
structure Dl where
 table:Str
 ins:List Rw
 del:List Rw
 upd:List Pr
def Dl.cells (d:Dl):List AV:=[sv d.table,.sl (d.ins.map Rw.cells),.sl (d.del.map Rw.cells),.sl (d.upd.map Pr.cells)]
abbrev Dl.av (d:Dl):AV:=.agg d.cells
structure Itm where
 name:Str
 row:Int
 old:List V
 nw:List V
def Itm.cells (i:Itm):List AV:=[sv i.name,iv i.row,vsl i.old,vsl i.nw]
abbrev Itm.av (i:Itm):AV:=.agg i.cells
theorem zmb (t:Tg) (s:Sch) (a b:List V) (hs:zac s.cols) (ha:zac a) (hb:zac b):∃ (r:List Fr),r=zd2 t s a b∧zaa E0 S.trigger_Frames [t.av,s.av,vsl a,vsl b] [] (fsl r) []:=by
 cases h1:!t.each
 ·cases h2:t.event==2
  ·cases h3:t.event==3
   ·cases h4:t.event==1
    ·exact ⟨[],zga,wk At.trigger_Frames [sb h1,sg h2,sb h3,sg h4,sb h2] kr⟩
    ·exact ⟨[Fr.mk (ByteArray.mk #[78,69,87]) true s.cols b],zga,(by (try simp only [X.av,Qy.av,V.av,Tb.av,Sch.av,Pl.av,xsl,fsl,vsl,tsl,List.map_append,List.map_cons,List.map_nil,V.cells,Col.cells,Rw.cells,Tb.cells,Fr.cells,Sch.cells,Pl.cells,zbw,za3,zbh,za2,zbi,X.cells,Qy.cells,X.args_mk,X.sub_mk,Qy.items_mk,Qy.wh_mk,xCol,xLit,xBin,xNeg,Ac.cells,Se.cells,Pr.cells,Ch.cells,Rw.cells,Dl.cells,Itm.cells]);exact wk At.trigger_Frames [sqx (1=1),sb h1,sg h2,sb h3,sb h4,sc (zaD s.cols zcr),sc (zaO b zcr),sqx (True∧True∧s.cols.length=(List.map Col.cells s.cols).length∧b.length=(List.map V.cells b).length∧True),sqx (AllLen [[sv (ByteArray.mk #[78,69,87]),bv true,AV.sl (List.map Col.cells s.cols),AV.sl (List.map V.cells b)]] 4∧Nat.le 72 140737488355328)] kr)⟩
   ·cases h5:t.event==1
    ·exact ⟨[Fr.mk (ByteArray.mk #[79,76,68]) true s.cols a],zga,(by (try simp only [X.av,Qy.av,V.av,Tb.av,Sch.av,Pl.av,xsl,fsl,vsl,tsl,List.map_append,List.map_cons,List.map_nil,V.cells,Col.cells,Rw.cells,Tb.cells,Fr.cells,Sch.cells,Pl.cells,zbw,za3,zbh,za2,zbi,X.cells,Qy.cells,X.args_mk,X.sub_mk,Qy.items_mk,Qy.wh_mk,xCol,xLit,xBin,xNeg,Ac.cells,Se.cells,Pr.cells,Ch.cells,Rw.cells,Dl.cells,Itm.cells]);exact wk At.trigger_Frames [sqx (1=1),sb h1,sg h2,sb h3,sc (zaD s.cols zcr),sc (zaO a zcr),sqx (True∧True∧s.cols.length=(List.map Col.cells s.cols).length∧a.length=(List.map V.cells a).length∧True),sqx (AllLen [[sv (ByteArray.mk #[79,76,68]),bv true,AV.sl (List.map Col.cells s.cols),AV.sl (List.map V.cells a)]] 4∧Nat.le 72 140737488355328),sg h5,sb h2] kr)⟩
    ·exact ⟨[Fr.mk (ByteArray.mk #[79,76,68]) true s.cols a,Fr.mk (ByteArray.mk #[78,69,87]) true s.cols b],zga,(by (try simp only [X.av,Qy.av,V.av,Tb.av,Sch.av,Pl.av,xsl,fsl,vsl,tsl,List.map_append,List.map_cons,List.map_nil,V.cells,Col.cells,Rw.cells,Tb.cells,Fr.cells,Sch.cells,Pl.cells,zbw,za3,zbh,za2,zbi,X.cells,Qy.cells,X.args_mk,X.sub_mk,Qy.items_mk,Qy.wh_mk,xCol,xLit,xBin,xNeg,Ac.cells,Se.cells,Pr.cells,Ch.cells,Rw.cells,Dl.cells,Itm.cells]);exact wk At.trigger_Frames [sqx (2=2),sb h1,sg h2,sb h3,sc (zaD s.cols zcr),sc (zaO a zcr),sqx (True∧True∧s.cols.length=(List.map Col.cells s.cols).length∧a.length=(List.map V.cells a).length∧True),sqx (AllLen [[sv (ByteArray.mk #[79,76,68]),bv true,AV.sl (List.map Col.cells s.cols),AV.sl (List.map V.cells a)]] 4∧Nat.le 72 140737488355328),sb h5,sc (zaD s.cols zcr),sc (zaO b zcr),sqx (True∧True∧s.cols.length=(List.map Col.cells s.cols).length∧b.length=(List.map V.cells b).length∧True),sqx (AllLen [[sv (ByteArray.mk #[78,69,87]),bv true,AV.sl (List.map Col.cells s.cols),AV.sl (List.map V.cells b)]] 4∧1=1∧Nat.le 144 140737488355328)] kr)⟩
  ·let p_1:List St:=[sqx (2=2),sb h1,sb h2,sc (zaD s.cols zcr),sc (zaO a zcr),sqx (True∧True∧s.cols.length=(List.map Col.cells s.cols).length∧a.length=(List.map V.cells a).length∧True),sqx (AllLen [[sv (ByteArray.mk #[79,76,68]),bv true,AV.sl (List.map Col.cells s.cols),AV.sl (List.map V.cells a)]] 4∧Nat.le 72 140737488355328)]
   cases h6:t.event==1
   ·exact ⟨[Fr.mk (ByteArray.mk #[79,76,68]) true s.cols a,Fr.mk (ByteArray.mk #[78,69,87]) true s.cols b],zga,(by (try simp only [X.av,Qy.av,V.av,Tb.av,Sch.av,Pl.av,xsl,fsl,vsl,tsl,List.map_append,List.map_cons,List.map_nil,V.cells,Col.cells,Rw.cells,Tb.cells,Fr.cells,Sch.cells,Pl.cells,zbw,za3,zbh,za2,zbi,X.cells,Qy.cells,X.args_mk,X.sub_mk,Qy.items_mk,Qy.wh_mk,xCol,xLit,xBin,xNeg,Ac.cells,Se.cells,Pr.cells,Ch.cells,Rw.cells,Dl.cells,Itm.cells]);exact wk At.trigger_Frames (p_1++[sg h6,sb h2,sc (zaD s.cols zcr),sc (zaO b zcr),sqx (True∧True∧s.cols.length=(List.map Col.cells s.cols).length∧b.length=(List.map V.cells b).length∧True),sqx (AllLen [[sv (ByteArray.mk #[78,69,87]),bv true,AV.sl (List.map Col.cells s.cols),AV.sl (List.map V.cells b)]] 4∧1=1∧Nat.le 144 140737488355328)]) kr)⟩
   ·exact ⟨[Fr.mk (ByteArray.mk #[79,76,68]) true s.cols a,Fr.mk (ByteArray.mk #[78,69,87]) true s.cols b],zga,(by (try simp only [X.av,Qy.av,V.av,Tb.av,Sch.av,Pl.av,xsl,fsl,vsl,tsl,List.map_append,List.map_cons,List.map_nil,V.cells,Col.cells,Rw.cells,Tb.cells,Fr.cells,Sch.cells,Pl.cells,zbw,za3,zbh,za2,zbi,X.cells,Qy.cells,X.args_mk,X.sub_mk,Qy.items_mk,Qy.wh_mk,xCol,xLit,xBin,xNeg,Ac.cells,Se.cells,Pr.cells,Ch.cells,Rw.cells,Dl.cells,Itm.cells]);exact wk At.trigger_Frames (p_1++[sb h6,sc (zaD s.cols zcr),sc (zaO b zcr),sqx (True∧True∧s.cols.length=(List.map Col.cells s.cols).length∧b.length=(List.map V.cells b).length∧True),sqx (AllLen [[sv (ByteArray.mk #[78,69,87]),bv true,AV.sl (List.map Col.cells s.cols),AV.sl (List.map V.cells b)]] 4∧1=1∧Nat.le 144 140737488355328)]) kr)⟩
 ·exact ⟨[],zga,wk At.trigger_Frames [sb h1] kr⟩
theorem zm2 (t:Tg) (s:Sch) (d:Dl) (he:t.each=true):∃ (r:List Tb),r=[]∧zaa E0 S.trigger_Transitions [t.av,s.av,d.av] [] (tsl r) []:=by
 cases h1:t.before
 ·exact ⟨[],(by rfl),wk At.trigger_Transitions [sg h1,sb he] kr⟩
 ·exact ⟨[],(by rfl),wk At.trigger_Transitions [sb h1] kr⟩
end Go.AM
namespace Go.AM
set_option maxRecDepth 100000
set_option maxHeartbeats 1000000
set_option linter.unusedSimpArgs false
set_option linter.unusedVariables false
abbrev cc3 (tb ex:List Tb):List (List AV):=[[tsl tb],[tsl ex]]
noncomputable def L_ez (tb ex:List Tb) (i:Nat) (sz:Int):Cfg:=zaq B.slices_Concat_Table 0 [(0,.sl (cc3 tb ex)),(3,iv sz),(9,.sl (cc3 tb ex)),(10,iv ((cc3 tb ex).length:Nat)),(11,iv (i:Nat))] []
theorem zbk (tb ex:List Tb) (i:Nat) (sz:Int):True∧∀ R,Good E0 B.slices_Concat_Table [] (L_ez tb ex i sz) R→Good E0 B.slices_Concat_Table [] (L_ez tb ex i sz) R:=⟨trivial,fun _ h=>h⟩
noncomputable def L_eb (tb ex:List Tb) (i:Nat) (xs:List Tb):Cfg:=zaq B.slices_Concat_Table 1 [(6,.own 0 xs.length),(25,.sl (cc3 tb ex)),(26,iv ((cc3 tb ex).length:Nat)),(27,iv (i:Nat))] [.row Ty.Table (xs.map Tb.cells) false]
theorem zbj (tb ex:List Tb) (i:Nat) (xs:List Tb):True∧∀ R,Good E0 B.slices_Concat_Table [] (L_eb tb ex i xs) R→Good E0 B.slices_Concat_Table [] (L_eb tb ex i xs) R:=⟨trivial,fun _ h=>h⟩
theorem znF (tb ex:List Tb) (hl:tb.length≤1000) (hle:ex.length≤1000) (w1:IntKind.i64.wrap (0+((tb.map Tb.cells).length:Int))=((tb.length:Nat):Int)) (w2:IntKind.i64.wrap (((tb.length:Nat):Int)+((ex.map Tb.cells).length:Int))=((tb.length+ex.length:Nat):Int)) (w3:decide (((tb.length:Nat):Int) < 0)=false) (w4:decide (((tb.length+ex.length:Nat):Int) < 0)=false):∃ (r:List Tb),r=tb++ex∧zaa E0 S.slices_Concat_Table [.sl (cc3 tb ex)] [] (tsl r) []:=by
 obtain ⟨q1,g1⟩:=zbk tb ex 0 (0)
 obtain ⟨q2,g2⟩:=zbk tb ex (0+1) ((tb.length:Int))
 obtain ⟨q3,g3⟩:=zbk tb ex (0+1+1) ((↑(tb.length+ex.length):Int))
 obtain ⟨q4,g4⟩:=zbj tb ex 0 ([])
 obtain ⟨q5,g5⟩:=zbj tb ex (0+1) ([]++tb)
 obtain ⟨q6,g6⟩:=zbj tb ex (0+1+1) ([]++tb++ex)
 exact ⟨[]++tb++ex,(by first|rfl|(simp;done)),wkc At.slices_Concat_Table [] [0,3,9,10,11] 0 kr (g1 _ (zab (wkl [sb (rfl:true=true),se (xs:=[[AV.sl (List.map Tb.cells tb)],[AV.sl (List.map Tb.cells ex)]]) (i:=0) (c:=[AV.sl (List.map Tb.cells tb)]) (n:=1) ⟨by decide,rfl,rfl⟩,si w1,sb (rfl:false=false),si (zaL (t:=(↑0:Int)+1) (n:=0+1) (by omega) (by omega))] [0,3,9,10,11] 0 kr (g2 _ (zab (wkl [sb (rfl:true=true),se (ziM ([AV.sl (List.map Tb.cells tb)]) ([AV.sl (List.map Tb.cells ex)]) (by first|assumption|rfl|omega)),si w2,sb (rfl:false=false),si (zaL (t:=(↑(0+1):Int)+1) (n:=0+1+1) (by omega) (by omega))] [0,3,9,10,11] 0 kr (g3 _ (zab (wkl [sb (rfl:false=false),sln [] (zgA (tb.length+ex.length) (by first|assumption|rfl|omega))] [6,25,26,27] 1 kr (g4 _ (zab (wkl [sb (rfl:true=true),se (xs:=[[AV.sl (List.map Tb.cells tb)],[AV.sl (List.map Tb.cells ex)]]) (i:=0) (c:=[AV.sl (List.map Tb.cells tb)]) (n:=1) ⟨by decide,rfl,rfl⟩,sqx (AllLen (List.map Tb.cells tb) 4∧0=0∧((([]:List (List AV)).length+(List.map Tb.cells tb).length) * 72).le 140737488355328),si (zaL (t:=(↑0:Int)+1) (n:=0+1) (by omega) (by omega))] [6,25,26,27] 1 kr (za7 (show ([(6,AV.own 0 ([]++List.map Tb.cells tb).length),(25,AV.sl [[AV.sl (List.map Tb.cells tb)],[AV.sl (List.map Tb.cells ex)]]),(26,iv (↑[[AV.sl (List.map Tb.cells tb)],[AV.sl (List.map Tb.cells ex)]].length:Int)),(27,iv (↑(0+1):Int))]:TS)=_ by first|rfl|(simp;done)|(simp [X.cells,Qy.cells,V.cells,Col.cells,Rw.cells,Tb.cells,Fr.cells,Sch.cells,Tp.cells,Pl.cells,xCol,xLit,xBin,xNeg,Ac.cells,Se.cells,Pr.cells,Ch.cells,Rw.cells,Dl.cells,Itm.cells];done)) rfl (g5 _ (zab (wkl [sb (rfl:true=true),se (ziM ([AV.sl (List.map Tb.cells tb)]) ([AV.sl (List.map Tb.cells ex)]) (by first|assumption|rfl|omega)),sqx (AllLen (List.map Tb.cells ex) 4∧([]++tb).length=(List.map Tb.cells ([]++tb)).length∧(((List.map Tb.cells ([]++tb)).length+(List.map Tb.cells ex).length) * 72).le 140737488355328),si (zaL (t:=(↑(0+1):Int)+1) (n:=0+1+1) (by omega) (by omega))] [6,25,26,27] 1 kr (za7 (show ([(6,AV.own 0 (List.map Tb.cells ([]++tb)++List.map Tb.cells ex).length),(25,AV.sl [[AV.sl (List.map Tb.cells tb)],[AV.sl (List.map Tb.cells ex)]]),(26,iv (↑[[AV.sl (List.map Tb.cells tb)],[AV.sl (List.map Tb.cells ex)]].length:Int)),(27,iv (↑(0+1+1):Int))]:TS)=_ by first|rfl|(simp;done)|(simp [X.cells,Qy.cells,V.cells,Col.cells,Rw.cells,Tb.cells,Fr.cells,Sch.cells,Tp.cells,Pl.cells,xCol,xLit,xBin,xNeg,Ac.cells,Se.cells,Pr.cells,Ch.cells,Rw.cells,Dl.cells,Itm.cells];done)) (show ([Blk.row Ty.Table (List.map Tb.cells ([]++tb)++List.map Tb.cells ex) false]:Heap)=_ by first|rfl|(simp;done)|(simp [X.cells,Qy.cells,V.cells,Col.cells,Rw.cells,Tb.cells,Fr.cells,Sch.cells,Tp.cells,Pl.cells,xCol,xLit,xBin,xNeg,Ac.cells,Se.cells,Pr.cells,Ch.cells,Rw.cells,Dl.cells,Itm.cells];done)) (g6 _ (zab (wkr [sqx (([]++tb++ex).length=(List.map Tb.cells ([]++tb++ex)).length),sb (rfl:false=false)] kr))))))))))))))))))))⟩
theorem ze2 (tb ex:List Tb) (hl:tb.length≤1000) (hle:ex.length≤1000):zaa E0 S.slices_Concat_Table [.sl (cc3 tb ex)] [] (tsl (tb++ex)) []:=by
 obtain ⟨r,rfl,h⟩:=znF tb ex hl hle (by rw [List.length_map,IntKind.wrap_i64];omega) (by rw [List.length_map,IntKind.wrap_i64];omega) (by simp) (by simp;omega)
 exact h
end Go.AM
namespace Go.AM
set_option maxRecDepth 100000
set_option maxHeartbeats 1000000
set_option linter.unusedSimpArgs false
set_option linter.unusedVariables false
theorem zf6 (m:List Tb):zaa E0 S.footprint_begin [tsl m] [] (.p 1 0) [.mp [],.box [tsl m,.mp 0]]:=wkK At.footprint_begin [] kr
theorem zpd (ks:List Acc) (a b:Str) (c:Int) (h:AccS ks):PutAt (ks.map itA) (.agg [sv a,sv b,iv c]) (bv true) ((addK ks ⟨a,b,c⟩).map itA):=zoS ks ⟨a,b,c⟩ h
theorem znp (m:List Tb) (ks:List Acc) (a b:Str) (c:Int) (hs:AccS ks):∃ (r:List Acc),r=addK ks ⟨a,b,c⟩∧zaa E0 S.footprint_collector_add [.p 0 0,sv a,sv b,iv c] [.box [tsl m,.mp 1],.mp (ks.map itA)] (.tup []) [.box [tsl m,.mp 1],.mp (r.map itA)]:=by
 exact ⟨addK ks (Acc.mk a b c),(by rfl),wkE At.footprint_collector_add [sx (.call [] .un [.mp (List.map itA (addK ks (Acc.mk a b c)))]) (And.intro (ziX a b c) (zpd ks a b c (by first|assumption|omega|(simp;done)|(simp;omega))))] kr⟩
end Go.AM
namespace Go.AM
set_option maxRecDepth 100000
set_option maxHeartbeats 1000000
set_option linter.unusedSimpArgs false
set_option linter.unusedVariables false
theorem zc5 {p:Prop} (h:p:=by first|assumption|omega|(simp;done)|(simp;omega)):p:=h
theorem zbd (m:List Tb) (ks:List Acc) (a b:Str) (c:Int) (hs:AccS ks):zaa E0 S.footprint_collector_add [.p 0 0,sv a,sv b,iv c] [.box [tsl m,.mp 1],.mp (ks.map itA)] (.tup []) [.box [tsl m,.mp 1],.mp ((addK ks ⟨a,b,c⟩).map itA)]:=by
 obtain ⟨r,rfl,h⟩:=znp m ks a b c hs
 exact h
def knS (m:List Tb) (n:Str):Sch × Bool :=
 bif ByteArray.toList n==(ByteArray.mk #[73,78,83,69,82,84,69,68]).toList then (Sch.mk (ByteArray.mk #[]) [],false)
 else bif ByteArray.toList n==(ByteArray.mk #[68,69,76,69,84,69,68]).toList then (Sch.mk (ByteArray.mk #[]) [],false)
 else ((zag m n).fst,(zag m n).snd)
def fpKn (m:List Tb) (n:Str) (es:List (AV × AV)):Sch × Bool :=
 bif ByteArray.toList n==(ByteArray.mk #[73,78,83,69,82,84,69,68]).toList then
  (Sch.mk (ByteArray.mk #[]) [],false)
 else
  bif ByteArray.toList n==(ByteArray.mk #[68,69,76,69,84,69,68]).toList then
   (Sch.mk (ByteArray.mk #[]) [],false)
  else
   ((zag m n).fst,(zag m n).snd)
theorem zlX (m:List Tb) (n:Str) (es:List (AV × AV)) (hm:zac m) (hc:∀ x∈m,zac x.sch.cols):zaa E0 S.footprint_collector_known [.p 0 0,sv n] [.box [tsl m,.mp 1],.mp es] (.tup [(fpKn m n es).1.av,bv (fpKn m n es).2]) [.box [tsl m,.mp 1],.mp es]:=by
 unfold fpKn
 cases h1:ByteArray.toList n==(ByteArray.mk #[73,78,83,69,82,84,69,68]).toList
 ·cases h2:ByteArray.toList n==(ByteArray.mk #[68,69,76,69,84,69,68]).toList
  ·exact wk At.footprint_collector_known [sg h1,sb h2,sc (zcL m n zc5 zc5)] kr
  ·exact wk At.footprint_collector_known [sg h1,sb h2] kr
 ·exact wk At.footprint_collector_known [sb h1] kr
theorem zbA (m:List Tb) (n:Str) (es:List (AV × AV)) (hm:zac m) (hc:∀ x∈m,zac x.sch.cols):zaa E0 S.footprint_collector_known [.p 0 0,sv n] [.box [tsl m,.mp 1],.mp es] (.tup [(knS m n).1.av,bv (knS m n).2]) [.box [tsl m,.mp 1],.mp es] :=
 zlX m n es hm hc
theorem zly (frs:List Fr) (s:Sch) (hf:zac frs):∃ (r:List Fr),r=zas frs s []∧zaa E0 S.footprint_inside [fsl frs,s.av] [] (fsl r) []:=by
 exact ⟨frs++[Fr.mk s.name false s.cols []],(by rfl),(by (try simp only [X.av,Qy.av,V.av,Tb.av,Sch.av,Pl.av,xsl,fsl,vsl,tsl,List.map_append,List.map_cons,List.map_nil,V.cells,Col.cells,Rw.cells,Tb.cells,Fr.cells,Sch.cells,Pl.cells,zbw,za3,zbh,za2,zbi,X.cells,Qy.cells,X.args_mk,X.sub_mk,Qy.items_mk,Qy.wh_mk,Acc.cells]);exact wk At.footprint_inside [sqx ((List.map Fr.cells frs++[[sv s.name,bv false,AV.sl (List.map Col.cells s.cols),AV.sl []]]).length=(List.map Fr.cells frs++[[sv s.name,bv false,AV.sl (List.map Col.cells s.cols),AV.sl []]]).length),sd [(1,[sc (zgb frs zc5)]),(8,[sqx (AllLen [[sv s.name,bv false,AV.sl (List.map Col.cells s.cols),AV.sl []]] 4∧frs.length=(List.map Fr.cells frs).length∧(((List.map Fr.cells frs).length+[[sv s.name,bv false,AV.sl (List.map Col.cells s.cols),AV.sl []]].length) * 72).le 140737488355328)])]] kr)⟩
theorem zed (frs:List Fr) (s:Sch) (hf:zac frs):zaa E0 S.footprint_inside [fsl frs,s.av] [] (fsl (zas frs s [])) []:=by
 obtain ⟨r,rfl,h⟩:=zly frs s hf
 exact h
def zjS (m:List Tb) (ks:List Acc) (e:X) (frs:List Fr):(List Acc) :=
 bif !(zbm frs e.table e.name).snd.snd then
  ks
 else
  bif (rFr frs e.table e.name).strict then
   ks
  else
   bif (knS m (rFr frs e.table e.name).name).snd then
    addK ks (Acc.mk (rFr frs e.table e.name).name e.name 1)
   else
    ks
theorem zla (m:List Tb) (ks:List Acc) (e:X) (frs:List Fr) (hm:zac m) (hc:∀ x∈m,zac x.sch.cols) (hs:AccS ks) (hf:zac frs) (hg:∀ f∈frs,zac f.cols) (hw0:IntKind.i64.wrap ((((frs.map Fr.cells).length:Nat):Int) - 1)=pm1 frs.length):zaa E0 S.footprint_collector_column [.p 0 0,e.av,fsl frs] [.box [tsl m,.mp 1],.mp (ks.map itA)] (.tup []) [.box [tsl m,.mp 1],.mp ((zjS m ks e frs).map itA)]:=by
 unfold zjS
 let p_1:List St:=[sc (zif frs e.table e.name zc5 zc5 zc5)]
 cases h1:!(zbm frs e.table e.name).snd.snd
 ·let p_2:List St:=p_1++[sg h1,se (zkJ frs e.table e.name zc5)]
  cases h2:(rFr frs e.table e.name).strict
  ·let p_3:List St:=p_2++[sb h2,se (zkJ frs e.table e.name zc5),sl [0,1] (zbA m ((rFr frs e.table e.name).name) (List.map itA ks) zc5 zc5)]
   cases h3:(knS m (rFr frs e.table e.name).name).snd
   ·exact wkE At.footprint_collector_column (p_3++[sb h3]) kr
   ·exact wkE At.footprint_collector_column (p_3++[sb h3,sd [(3,[se (zkJ frs e.table e.name zc5)]),(8,[sl [0,1] (zbd m ks ((rFr frs e.table e.name).name) e.name 1 zc5)])]]) kr
  ·exact wk At.footprint_collector_column (p_2++[sb h2]) kr
 ·exact wk At.footprint_collector_column (p_1++[sb h1]) kr
def zfb (m:List Tb) (e:X) (frs:List Fr):List Acc :=
 bif !(zbm frs e.table e.name).2.2 then [] else bif (rFr frs e.table e.name).strict then [] else bif (knS m (rFr frs e.table e.name).name).2 then [⟨(rFr frs e.table e.name).name,e.name,1⟩] else []
theorem zn5 (m:List Tb) (ks:List Acc) (e:X) (frs:List Fr):zjS m ks e frs=zap ks (zfb m e frs):=by
 unfold zjS zfb
 cases !(zbm frs e.table e.name).2.2
 ·cases (rFr frs e.table e.name).strict
  ·cases (knS m (rFr frs e.table e.name).name).2 <;> rfl
  ·rfl
 ·rfl
structure FrB (n:Nat) (frs:List Fr):Prop where
 len:frs.length+n≤1000
 cols:∀ f∈frs,zac f.cols
theorem FrB.short {n:Nat} {frs:List Fr} (h:FrB n frs):zac frs:=by have:=h.len;simp only [zac];omega
theorem FrB.wrap {n:Nat} {frs:List Fr} (h:FrB n frs):IntKind.i64.wrap ((((frs.map Fr.cells).length:Nat):Int) - 1)=pm1 frs.length:=zkC _ _ h.short
theorem FrB.ins {n:Nat} {frs:List Fr} (h:FrB (n+1) frs) {s:Sch} (hs:zac s.cols):FrB n (zas frs s []) :=
 ⟨by have:=h.len;simp [zas];omega,fun f hf=>by
  rcases List.mem_append.1 hf with h1|h1
  ·exact h.cols f h1
  ·simp only [List.mem_singleton] at h1;subst h1;exact hs⟩
structure ColT (m:List Tb):Prop where
 short:zac m
 cols:∀ x∈m,zac x.sch.cols
theorem ColT.src {m:List Tb} (h:ColT m) (n:Str):zac (zag m n).1.cols:=zeV m n m 0 h.cols
theorem zdZ (m:List Tb) (ks:List Acc) (e:X) (frs:List Fr) (n:Nat) (ht:ColT m) (hs:AccS ks) (hf:FrB n frs):zaa E0 S.footprint_collector_column [.p 0 0,e.av,fsl frs] [.box [tsl m,.mp 1],.mp (ks.map itA)] (.tup []) [.box [tsl m,.mp 1],.mp ((zap ks (zfb m e frs)).map itA)]:=by
 rw [← zn5]
 exact zla m ks e frs ht.short ht.cols hs hf.short hf.cols hf.wrap
end Go.AM
namespace Go.AM
set_option maxRecDepth 100000
set_option maxHeartbeats 1000000
set_option linter.unusedSimpArgs false
set_option linter.unusedVariables false
theorem zeb {p:Prop} (h:p:=by first|assumption|exact zee (by assumption)|exact zcw (by assumption)|exact zcw (zee (by assumption))|(simp;done)):p:=h
theorem zfm {p:Prop} (h:p:=by first|assumption|exact zcw (by assumption)|exact zcw (zcw (by assumption))|(simp [zap];done)|omega):p:=h
theorem zik {p:Prop} (h:p:=by first|assumption|(simp [zap];done)|omega):p:=h
def accQ (m:List Tb) (f:List X→List Fr→List Acc) (q:Qy) (frs:List Fr):List Acc :=
 bif !(zag m q.frm).2 then [] else (bif (knS m q.frm).2 then [⟨q.frm,⟨#[]⟩,5⟩] else [])++f q.items (zas frs (zag m q.frm).1 [])++f q.wh (zas frs (zag m q.frm).1 [])
def accX (m:List Tb) (f:List X→List Fr→List Acc) (e:X) (frs:List Fr):List Acc :=
 (bif e.kind==2 then zfb m e frs else [])++f e.args frs++e.sub.flatMap fun q=>accQ m f q frs
def zbf (m:List Tb):Nat→List X→List Fr→List Acc
 | 0,_,_=>[]
 | n+1,l,frs=>l.flatMap fun e=>accX m (zbf m n) e frs
def ExC (m:List Tb) (l:List X) (frs:List Fr) (a:List Acc):Prop:=∀ ks,AccS ks→zaa E0 S.footprint_collector_exprs [.p 0 0,xsl l,fsl frs] [.box [tsl m,.mp 1],.mp (ks.map itA)] (.tup []) [.box [tsl m,.mp 1],.mp ((zap ks a).map itA)]
def QuC (m:List Tb) (q:Qy) (frs:List Fr) (a:List Acc):Prop:=∀ ks,AccS ks→zaa E0 S.footprint_collector_query [.p 0 0,q.av,fsl frs] [.box [tsl m,.mp 1],.mp (ks.map itA)] (.tup []) [.box [tsl m,.mp 1],.mp ((zap ks a).map itA)]
theorem zee {ks:List Acc} {a:Acc} (h:AccS ks):AccS (addK ks a):=h.ins a
theorem zcw {ks l:List Acc} (h:AccS ks):AccS (zap ks l):=h.all l
theorem zmu (m:List Tb) (ks:List Acc) (q:Qy) (frs:List Fr) (n:Nat) (a b:List Acc) (ht:ColT m) (hm:zac m) (hc:∀ x∈m,zac x.sch.cols) (hs:AccS ks) (hf:FrB (n+1) frs) (hfs:zac frs) (hi:∀ ks,AccS ks→zaa E0 S.footprint_collector_exprs [.p 0 0,xsl q.items,fsl (zas frs (zag m q.frm).1 [])] [.box [tsl m,.mp 1],.mp (ks.map itA)] (.tup []) [.box [tsl m,.mp 1],.mp ((zap ks a).map itA)]) (hw:∀ ks,AccS ks→zaa E0 S.footprint_collector_exprs [.p 0 0,xsl q.wh,fsl (zas frs (zag m q.frm).1 [])] [.box [tsl m,.mp 1],.mp (ks.map itA)] (.tup []) [.box [tsl m,.mp 1],.mp ((zap ks b).map itA)]):∃ (r:List Acc),(r=bif !(zag m q.frm).2 then ks else zap (zap (bif (knS m q.frm).2 then addK ks ⟨q.frm,⟨#[]⟩,5⟩ else ks) a) b)∧zaa E0 S.footprint_collector_query [.p 0 0,q.av,fsl frs] [.box [tsl m,.mp 1],.mp (ks.map itA)] (.tup []) [.box [tsl m,.mp 1],.mp (r.map itA)]:=by
 let p_1:List St:=[sdm [(6,[sc (zcL m q.frm zeb zeb)])] 0 [(0,AV.p 0 0),(1,AV.agg [bv q.star,AV.sl (zad q.items),sv q.frm,AV.sl (zad q.wh)]),(2,AV.sl (List.map Fr.cells frs)),(4,AV.p 2 0),(6,AV.p 3 0),(7,bv (zag m q.frm).snd),(10,AV.tup [AV.agg [sv (zag m q.frm).fst.name,AV.sl (List.map Col.cells (zag m q.frm).fst.cols)],bv (zag m q.frm).snd]),(11,AV.p 0 0),(12,AV.p 0 0),(13,AV.p 0 0),(14,AV.sl (List.map Tb.cells m)),(15,AV.p 2 2),(16,sv q.frm),(17,AV.tup [AV.agg [sv (zag m q.frm).fst.name,AV.sl (List.map Col.cells (zag m q.frm).fst.cols)],bv (zag m q.frm).snd]),(18,AV.agg [sv (zag m q.frm).fst.name,AV.sl (List.map Col.cells (zag m q.frm).fst.cols)]),(19,bv (zag m q.frm).snd)] [Blk.box [AV.sl (List.map Tb.cells m),AV.mp 1],Blk.mp (List.map itA ks),Blk.box [bv q.star,AV.sl (zad q.items),sv q.frm,AV.sl (zad q.wh)],Blk.box [sv (zag m q.frm).fst.name,AV.sl (List.map Col.cells (zag m q.frm).fst.cols)]]]
 cases h1:!(zag m q.frm).snd
 ·let p_2:List St:=p_1++[sb h1,sc (zed frs ((zag m q.frm).fst) zeb),sl [0,1] (zbA m q.frm (List.map itA ks) zeb zeb)]
  cases h2:(knS m q.frm).snd
  ·exact ⟨zap (zap ks a) b,(by simp only [*,cond_true,cond_false]),wkE At.footprint_collector_query (p_2++[sb h2,sl [0,1] (hi ks zeb),sl [0,1] (hw (zap ks a) zeb)]) kr⟩
  ·exact ⟨zap (zap (addK ks (Acc.mk q.frm (ByteArray.mk #[]) 5)) a) b,(by simp only [*,cond_true,cond_false]),wkE At.footprint_collector_query (p_2++[sb h2,sl [0,1] (zbd m ks q.frm (ByteArray.mk #[]) 5 zeb),sl [0,1] (hi (addK ks (Acc.mk q.frm (ByteArray.mk #[]) 5)) zeb),sl [0,1] (hw (zap (addK ks (Acc.mk q.frm (ByteArray.mk #[]) 5)) a) zeb)]) kr⟩
 ·exact ⟨ks,(by simp only [*,cond_true,cond_false]),wk At.footprint_collector_query (p_1++[sb h1]) kr⟩
theorem zod {m:List Tb} {f:List X→List Fr→List Acc} {q:Qy} {frs:List Fr} {n:Nat} (ht:ColT m) (hf:FrB (n+1) frs) (hi:ExC m q.items (zas frs (zag m q.frm).1 []) (f q.items (zas frs (zag m q.frm).1 []))) (hw:ExC m q.wh (zas frs (zag m q.frm).1 []) (f q.wh (zas frs (zag m q.frm).1 []))):QuC m q frs (accQ m f q frs):=by
 intro ks hs
 obtain ⟨r,hr,h⟩:=zmu m ks q frs n _ _ ht ht.short ht.cols hs hf hf.short hi hw
 have e:r=zap ks (accQ m f q frs):=by
  rw [hr]
  unfold accQ
  cases !(zag m q.frm).2
  ·simp only [cond_false]
   cases (knS m q.frm).2
   ·simp [zdw]
   ·simp [zdw,zap]
  ·rfl
 rw [← e]
 exact h
noncomputable def L_xq (m:List Tb) (kz k0:List Acc) (l:List X) (frs:List Fr) (e:X) (io:Nat) (f:Qy→List Acc) (i:Nat) (ks:List Acc):Cfg:=zaq B.footprint_collector_exprs 1 [(0,.p 0 0),(2,fsl frs),(10,xsl l),(11,iv ((zad l).length:Nat)),(12,iv (io:Nat)),(29,.sl (zae e.sub)),(30,iv ((zae e.sub).length:Nat)),(31,iv (i:Nat))] [.box [tsl m,.mp 1],.mp (ks.map itA)]
theorem zcF (m:List Tb) (kz k0:List Acc) (l:List X) (frs:List Fr) (e:X) (io:Nat) (f:Qy→List Acc) (hu:zac e.sub) (hq:∀ q∈e.sub,QuC m q frs (f q)) (hk0:AccS k0) (i:Nat) (ks:List Acc) (hi:i≤(e.sub).length) (hI:ks=zap k0 ((e.sub.take i).flatMap f)):∃ (ks':List Acc),(ks'=zap k0 ((e.sub.take (e.sub).length).flatMap f))∧(decide ((((e.sub).length:Nat):Int) < (((zae e.sub).length:Nat):Int))=false)∧∀ R,Good E0 B.footprint_collector_exprs [.box [tsl m,.mp 1],.mp (kz.map itA)] (L_xq m kz k0 l frs e io f (e.sub).length ks') R→Good E0 B.footprint_collector_exprs [.box [tsl m,.mp 1],.mp (kz.map itA)] (L_xq m kz k0 l frs e io f i ks) R:=by
 obtain ⟨kk,hk⟩:∃ kk,i+kk=(e.sub).length:=⟨(e.sub).length - i,by omega⟩
 induction kk generalizing i ks with
 | zero =>
  have e0:i=(e.sub).length:=by omega
  subst e0
  exact ⟨ks,hI,by simp,fun R hg=>hg⟩
 | succ kk ih =>
  obtain ⟨x,hx⟩:=zbc (l:=e.sub) (i:=i) (by omega)
  have h0:decide (((i:Nat):Int) < (((zae e.sub).length:Nat):Int))=true:=by simp;omega
  have hw:IntKind.i64.wrap (((i:Nat):Int)+1)=((i+1:Nat):Int):=zaA i (by first|omega|(simp only [zac,Few] at *;omega))
  have hfx:=hq x (List.mem_of_getElem? hx);have hks:AccS ks:=(by rw [hI];exact hk0.all _)
  obtain ⟨ksZ,qZ,xZ,gZ⟩:=ih (i+1) (zap ks (f x)) (by omega) (by (rw [hI,List.take_add_one,hx];simp [zdw])) (by omega);exact ⟨ksZ,qZ,xZ,fun R hg=>zab (wkl [sb h0,se (zeP hx),sl [0,1] (hfx ks (by first|assumption|omega|(simp;done)|(simp;omega))),si hw] [0,2,10,11,12,29,30,31] 2 kr (gZ R hg))⟩
theorem zbC (m:List Tb) (kz:List Acc) (l:List X) (frs:List Fr) (e:X) (io:Nat) (f:Qy→List Acc) (hu:zac e.sub) (hq:∀ q∈e.sub,QuC m q frs (f q)) (ks:List Acc) (hks:AccS ks):∃ (ks':List Acc),ks'=zap ks (e.sub.flatMap f)∧decide (((e.sub.length:Nat):Int) < (((zae e.sub).length:Nat):Int))=false∧∀ R,Good E0 B.footprint_collector_exprs [.box [tsl m,.mp 1],.mp (kz.map itA)] (L_xq m kz ks l frs e io f e.sub.length ks') R→Good E0 B.footprint_collector_exprs [.box [tsl m,.mp 1],.mp (kz.map itA)] (L_xq m kz ks l frs e io f 0 ks) R:=by
 obtain ⟨k',h1,h2,h3⟩:=zcF m kz ks l frs e io f hu hq hks 0 ks (by omega) (by simp [zap])
 exact ⟨k',by rw [h1,List.take_length],h2,h3⟩
def accG (m:List Tb) (fa:X→List Acc) (fq:Qy→List Acc) (frs:List Fr) (e:X):List Acc:=(bif e.kind==2 then zfb m e frs else [])++fa e++e.sub.flatMap fq
noncomputable def L_xe (m:List Tb) (kz k0:List Acc) (l:List X) (frs:List Fr) (n:Nat) (fa:X→List Acc) (fq:Qy→List Acc) (i:Nat) (ks:List Acc):Cfg:=zaq B.footprint_collector_exprs 0 [(0,.p 0 0),(2,fsl frs),(10,xsl l),(11,iv ((zad l).length:Nat)),(12,iv (i:Nat))] [.box [tsl m,.mp 1],.mp (ks.map itA)]
theorem zcz (m:List Tb) (kz k0:List Acc) (l:List X) (frs:List Fr) (n:Nat) (fa:X→List Acc) (fq:Qy→List Acc) (ht:ColT m) (hf:FrB n frs) (hl:zac l) (ha:∀ e∈l,ExC m e.args frs (fa e)) (hu:∀ e∈l,zac e.sub) (hq:∀ e∈l,∀ q∈e.sub,QuC m q frs (fq q)) (hk0:AccS k0) (i:Nat) (ks:List Acc) (hi:i≤(l).length) (hI:ks=zap k0 ((l.take i).flatMap (accG m fa fq frs))):∃ (ks':List Acc),(ks'=zap k0 ((l.take (l).length).flatMap (accG m fa fq frs)))∧(decide ((((l).length:Nat):Int) < (((zad l).length:Nat):Int))=false)∧∀ R,Good E0 B.footprint_collector_exprs [.box [tsl m,.mp 1],.mp (kz.map itA)] (L_xe m kz k0 l frs n fa fq (l).length ks') R→Good E0 B.footprint_collector_exprs [.box [tsl m,.mp 1],.mp (kz.map itA)] (L_xe m kz k0 l frs n fa fq i ks) R:=by
 obtain ⟨kk,hk⟩:∃ kk,i+kk=(l).length:=⟨(l).length - i,by omega⟩
 induction kk generalizing i ks with
 | zero =>
  have e0:i=(l).length:=by omega
  subst e0
  exact ⟨ks,hI,by simp,fun R hg=>hg⟩
 | succ kk ih =>
  obtain ⟨x,hx⟩:=zbc (l:=l) (i:=i) (by omega)
  have h0:decide (((i:Nat):Int) < (((zad l).length:Nat):Int))=true:=by simp;omega
  have hw:IntKind.i64.wrap (((i:Nat):Int)+1)=((i+1:Nat):Int):=zaA i (by first|omega|(simp only [zac,Few] at *;omega))
  have hax:=ha x (List.mem_of_getElem? hx);have hqx:=hq x (List.mem_of_getElem? hx);have hux:=hu x (List.mem_of_getElem? hx);have hks:AccS ks:=(by rw [hI];exact hk0.all _)
  cases h1:x.kind==2
  ·obtain ⟨ks2,q2,q2_1,g2⟩:=zbC m kz l frs x i fq zfm hqx (zap ks (fa x)) zfm
   obtain ⟨ksZ,qZ,xZ,gZ⟩:=ih (i+1) ks2 (by omega) (by (rw [List.take_add_one,hx];simp [zdw,accG, *])) (by omega);exact ⟨ksZ,qZ,xZ,fun R hg=>zab (wkl [sb h0,se (zcx hx),sb h1,sl [0,1] (hax ks zfm)] [0,2,10,11,12,29,30,31] 2 kr (g2 _ (zab (wkl [sb q2_1,si hw] [0,2,10,11,12] 2 kr (gZ R hg)))))⟩
  ·obtain ⟨ks3,q3,q3_1,g3⟩:=zbC m kz l frs x i fq zfm hqx (zap (zap ks (zfb m x frs)) (fa x)) zfm
   obtain ⟨ksZ,qZ,xZ,gZ⟩:=ih (i+1) ks3 (by omega) (by (rw [List.take_add_one,hx];simp [zdw,accG, *])) (by omega);exact ⟨ksZ,qZ,xZ,fun R hg=>zab (wkl [sb h0,se (zcx hx),sb h1,sl [0,1] (zdZ m ks x frs n zfm zfm hf),sl [0,1] (hax (zap ks (zfb m x frs)) zfm)] [0,2,10,11,12,29,30,31] 2 kr (g3 _ (zab (wkl [sb q3_1,si hw] [0,2,10,11,12] 2 kr (gZ R hg)))))⟩
theorem zh8 (m:List Tb) (kz:List Acc) (l:List X) (frs:List Fr) (n:Nat) (fa:X→List Acc) (fq:Qy→List Acc) (ht:ColT m) (hf:FrB n frs) (hl:zac l) (ha:∀ e∈l,ExC m e.args frs (fa e)) (hu:∀ e∈l,zac e.sub) (hq:∀ e∈l,∀ q∈e.sub,QuC m q frs (fq q)) (hk0:AccS kz):∃ (r:List Acc),r=zap kz ((l.take l.length).flatMap (accG m fa fq frs))∧zaa E0 S.footprint_collector_exprs [.p 0 0,xsl l,fsl frs] [.box [tsl m,.mp 1],.mp (kz.map itA)] (.tup []) [.box [tsl m,.mp 1],.mp (r.map itA)]:=by
 obtain ⟨ks1,q1,q1_1,g1⟩:=zcz m kz kz l frs n fa fq zik hf zik ha zik hq hk0 0 kz zik zik
 exact ⟨ks1,(by assumption),wkc At.footprint_collector_exprs [] [0,2,10,11,12] 2 kr (g1 _ (zab (wkrE [sb q1_1] kr)))⟩
theorem FrB.less {n:Nat} {frs:List Fr} (h:FrB (n+1) frs):FrB n frs:=⟨by have:=h.len;omega,h.cols⟩
theorem zdU {m:List Tb} (ht:ColT m):∀ (n:Nat) (l:List X) (frs:List Fr),zac l→(∀ e∈l,XSh n e)→FrB n frs→ExC m l frs (zbf m n l frs)
 | 0,l,frs,hl,hx,hf=>by
  intro ks hs
  have:l=[]:=by
   cases l with
   | nil=>rfl
   | cons a r=>exact (hx a (by simp)).elim
  subst this
  obtain ⟨r,rfl,h⟩:=zh8 m ks [] frs 0 (fun _=>[]) (fun _=>[]) ht hf hl (by simp) (by simp) (by simp) hs
  exact h
 | n+1,l,frs,hl,hx,hf=>by
  intro ks hs
  obtain ⟨r,rfl,h⟩:=zh8 m ks l frs (n+1) (fun e=>zbf m n e.args frs) (fun q=>accQ m (zbf m n) q frs) ht hf hl
   (fun e he=>zdU ht n e.args frs (hx e he).1.1 (hx e he).2.1 hf.less) (fun e he=>(hx e he).1.2)
   (fun e he q hq=>zod ht hf (zdU ht n _ _ ((hx e he).2.2 q hq).1.1 ((hx e he).2.2 q hq).2.1 (hf.ins (ht.src _))) (zdU ht n _ _ ((hx e he).2.2 q hq).1.2 ((hx e he).2.2 q hq).2.2 (hf.ins (ht.src _)))) hs
  rw [List.take_length] at h
  exact h
end Go.AM
namespace Go.AM
set_option maxRecDepth 100000
set_option maxHeartbeats 1000000
set_option linter.unusedSimpArgs false
set_option linter.unusedVariables false
theorem zeH {p:Prop} (h:p:=by first|assumption|exact zee (by assumption)|exact zcw (by assumption)|exact zcw (zee (by assumption))):p:=h
theorem zhC {p:Prop} (h:p:=by first|assumption|omega|(simp;done)|(simp;omega)):p:=h
theorem zmw {p:Prop} (h:p:=by first|assumption|exact zee (by assumption)|exact zcw (by assumption)):p:=h
theorem zgD (t:Tg) (s:Sch) (hs:zac s.cols):zaa E0 S.trigger_Frames [t.av,s.av,.sl [],.sl []] [] (fsl (zd2 t s [] [])) []:=by
 obtain ⟨r,rfl,h⟩:=zmb t s [] [] hs (by simp [zac]) (by simp [zac])
 exact h
theorem ze1 (t:Tg) (s:Sch) (he:t.each=true):zaa E0 S.trigger_Transitions [t.av,s.av,.agg [sv ⟨#[]⟩,.sl [],.sl [],.sl []]] [] (.sl []) []:=by
 obtain ⟨r,rfl,h⟩:=zm2 t s ⟨⟨#[]⟩,[],[],[]⟩ he
 exact h
theorem znW (t:Tg) (m:List Tb) (he:t.each=true) (hm:zac m) (hc:∀ x∈m,zac x.sch.cols) (hs:zac (zag m t.table).1.cols) (hl:m.length≤1000):∃ (f:List Fr) (o:List Tb),(f=zd2 t (zag m t.table).1 [] []∧o=m)∧zaa E0 S.footprint_all [t.av,tsl m] [] (.tup [fsl f,tsl o]) []:=by
 exact ⟨zd2 t (zag m t.table).fst [] [],m++[],(by exact ⟨rfl,by simp⟩),wk At.footprint_all [sc (zcL m t.table zhC zhC),sd [(2,[sc (zgD t ((zag m t.table).fst) zhC)]),(7,[sc (ze1 t ((zag m t.table).fst) zhC)]),(9,[sc (ze2 m ([]) zhC zhC)])]] kr⟩
noncomputable def L_nix (g:FuncId) (c t n:Str):Cfg:=zaq B.slices_IndexFunc_Trigger 0 [(0,.sl []),(1,.fn g [.p 0 0]),(7,iv 0),(8,iv 0)] [.box (Se.mk c (xCol t n)).cells]
theorem zcu (g:FuncId) (c t n:Str):True∧∀ R,Good E0 B.slices_IndexFunc_Trigger [.box (Se.mk c (xCol t n)).cells] (L_nix g c t n) R→Good E0 B.slices_IndexFunc_Trigger [.box (Se.mk c (xCol t n)).cells] (L_nix g c t n) R:=⟨trivial,fun _ h=>h⟩
theorem c_nix (g:FuncId) (c t n:Str) :∃ (r:Int),r=-1∧zaa E0 S.slices_IndexFunc_Trigger [.sl [],.fn g [.p 0 0]] [.box (Se.mk c (xCol t n)).cells] (iv r) [.box (Se.mk c (xCol t n)).cells]:=by
 obtain ⟨q1,g1⟩:=zcu g c t (n)
 exact ⟨-1,(by rfl),wkc At.slices_IndexFunc_Trigger [] [0,1,7,8] 1 kr (g1 _ (zab (wkr [sb (rfl:false=false)] kr)))⟩
theorem zds (g:FuncId) (c t n:Str):zaa E0 S.slices_IndexFunc_Trigger [.sl [],.fn g [.p 0 0]] [.box (Se.mk c (xCol t n)).cells] (iv (-1)) [.box (Se.mk c (xCol t n)).cells]:=by
 obtain ⟨r,rfl,h⟩:=c_nix g c t n
 exact h
theorem c_nct (g:FuncId) (c t n:Str) :∃ (r:Bool),r=false∧zaa E0 S.slices_ContainsFunc_Trigger [.sl [],.fn g [.p 0 0]] [.box (Se.mk c (xCol t n)).cells] (bv r) [.box (Se.mk c (xCol t n)).cells]:=by
 exact ⟨decide ((0:Int)≤(-1:Int)),(by rfl),wk At.slices_ContainsFunc_Trigger [sl [0] (zds g c t n)] kr⟩
theorem zcT (g:FuncId) (c t n:Str):zaa E0 S.slices_ContainsFunc_Trigger [.sl [],.fn g [.p 0 0]] [.box (Se.mk c (xCol t n)).cells] (bv false) [.box (Se.mk c (xCol t n)).cells]:=by
 obtain ⟨r,rfl,h⟩:=c_nct g c t n
 exact h
theorem c_step (c t n:Str) (tb:Str) :∃ (a:Int) (b:Bool),(a=0∧b=false)∧zaa E0 S.footprint_Step [.agg (Se.mk c (xCol t n)).cells,sv tb] [] (.tup [iv a,bv b]) []:=by
 exact ⟨0,false,(by exact ⟨rfl,rfl⟩),wk At.footprint_Step [sb (rfl:true=true)] kr⟩
theorem zfM (c t n:Str) (tb:Str):zaa E0 S.footprint_Step [.agg (Se.mk c (xCol t n)).cells,sv tb] [] (.tup [iv 0,bv false]) []:=by
 obtain ⟨a,b,⟨rfl,rfl⟩,h⟩:=c_step c t n tb
 exact h
theorem zhs (t n:Str):XSh 1 (xCol t n):=⟨⟨by simp [zac,xCol],by simp [zac,xCol]⟩,by simp [xCol],by simp [xCol]⟩
theorem zoc (m:List Tb) (ks:List Acc) (tb:Str) (s:Sch) (c t n:Str) (fr:List Fr) (ht:ColT m) (hs:AccS ks) (hsc:zac s.cols) (hf:FrB 1 fr) (hex:∀ ks,AccS ks→zaa E0 S.footprint_collector_exprs [.p 0 0,xsl [xCol t n],fsl fr] [.box [tsl m,.mp 1],.mp (ks.map itA)] (.tup []) [.box [tsl m,.mp 1],.mp ((zap ks (zbf m 1 [xCol t n] fr)).map itA)]):∃ (r:List Acc),(r=bif decide (idxF (fun c2=>colC c2 c) s.cols 0 < 0) then ks else zap (addK ks ⟨tb,c,2⟩) (zbf m 1 [xCol t n] fr))∧zaa E0 S.footprint_collector_assignment [.p 0 0,sv tb,s.av,.agg (Se.mk c (xCol t n)).cells,fsl fr,.sl []] [.box [tsl m,.mp 1],.mp (ks.map itA)] (.tup []) [.box [tsl m,.mp 1],.mp (r.map itA)]:=by
 let p_1:List St:=[sc (zcj s c zmw),sl [3] (zcT 102 c t n)]
 cases h1:decide (idxF (fun c_1=>colC c_1 c) s.cols 0 < 0)
 ·exact ⟨zap (addK ks (Acc.mk tb c 2)) (zbf m 1 [xCol t n] fr),(by simp only [*,cond_true,cond_false]),(by (try simp only [X.av,Qy.av,V.av,Tb.av,Sch.av,Pl.av,xsl,fsl,vsl,tsl,List.map_append,List.map_cons,List.map_nil,V.cells,Col.cells,Rw.cells,Tb.cells,Fr.cells,Sch.cells,Pl.cells,zbw,za3,zbh,za2,zbi,X.cells,Qy.cells,X.args_mk,X.sub_mk,Qy.items_mk,Qy.wh_mk,Acc.cells,Ac.cells,Se.cells]);exact wkE At.footprint_collector_assignment (p_1++[sb h1,sc (zfM c t n tb),sb (rfl:false=false),sl [0,1] (zbd m ks tb c 2 zmw),sl [0,1] (hex (addK ks (Acc.mk tb c 2)) zmw)]) kr)⟩
 ·exact ⟨ks,(by simp only [*,cond_true,cond_false]),wk At.footprint_collector_assignment (p_1++[sb h1]) kr⟩
abbrev acW (wh:List X):Ac:=⟨2,sUu,[],[],[⟨⟨#[109]⟩,xCol ⟨#[78,69,87]⟩ sNn⟩],wh,⟨#[]⟩⟩
theorem zcI (m:List Tb) (ks:List Acc) (tb:Str) (s:Sch) (c t n:Str) (fr:List Fr) (ht:ColT m) (hs:AccS ks) (hsc:zac s.cols) (hf:FrB 1 fr):zaa E0 S.footprint_collector_assignment [.p 0 0,sv tb,s.av,.agg (Se.mk c (xCol t n)).cells,fsl fr,.sl []] [.box [tsl m,.mp 1],.mp (ks.map itA)] (.tup []) [.box [tsl m,.mp 1],.mp ((bif decide (idxF (fun c2=>colC c2 c) s.cols 0 < 0) then ks else zap (addK ks ⟨tb,c,2⟩) (zbf m 1 [xCol t n] fr)).map itA)]:=by
 obtain ⟨r,rfl,h⟩:=zoc m ks tb s c t n fr ht hs hsc hf (zdU ht 1 [xCol t n] fr (by simp [zac]) (by intro e he;simp only [List.mem_singleton] at he;subst he;exact zhs t n) hf)
 exact h
noncomputable def L_acS (m:List Tb) (ks kz:List Acc) (wh:List X) (fr:List Fr) (s:Sch) (i:Nat):Cfg:=zaq B.footprint_collector_action 2 [(0,.p 0 0),(3,.sl []),(5,.p 2 0),(8,.p 3 0),(10,fsl fr),(91,.sl [(Se.mk ⟨#[109]⟩ (xCol ⟨#[78,69,87]⟩ sNn)).cells]),(92,iv 1),(93,iv (i:Nat))] [.box [tsl m,.mp 1],.mp (ks.map itA),.box (acW wh).cells,.box s.cells]
theorem zbr (m:List Tb) (ks kz:List Acc) (wh:List X) (fr:List Fr) (s:Sch) (i:Nat):True∧∀ R,Good E0 B.footprint_collector_action [.box [tsl m,.mp 1],.mp (kz.map itA)] (L_acS m ks kz wh fr s i) R→Good E0 B.footprint_collector_action [.box [tsl m,.mp 1],.mp (kz.map itA)] (L_acS m ks kz wh fr s i) R:=⟨trivial,fun _ h=>h⟩
noncomputable def L_acB (m:List Tb) (ks kz:List Acc) (wh:List X) (s:Sch):Cfg:=zaq B.footprint_collector_action 3 [(0,.p 0 0),(5,.p 2 0),(8,.p 3 0),(106,.sl []),(107,iv 0),(108,iv 0)] [.box [tsl m,.mp 1],.mp (ks.map itA),.box (acW wh).cells,.box s.cells]
theorem zco (m:List Tb) (ks kz:List Acc) (wh:List X) (s:Sch):True∧∀ R,Good E0 B.footprint_collector_action [.box [tsl m,.mp 1],.mp (kz.map itA)] (L_acB m ks kz wh s) R→Good E0 B.footprint_collector_action [.box [tsl m,.mp 1],.mp (kz.map itA)] (L_acB m ks kz wh s) R:=⟨trivial,fun _ h=>h⟩
theorem zn2 (m:List Tb) (ks:List Acc) (wh:List X) (fr:List Fr) (ht:ColT m) (hs:AccS ks) (hm:zac m) (hc:∀ x∈m,zac x.sch.cols) (hsc:zac (knS m sUu).1.cols) (hf:zac fr) (hf1:FrB 1 (zas fr (knS m sUu).1 [])) (hex:∀ ks,AccS ks→zaa E0 S.footprint_collector_exprs [.p 0 0,xsl wh,fsl (zas fr (knS m sUu).1 [])] [.box [tsl m,.mp 1],.mp (ks.map itA)] (.tup []) [.box [tsl m,.mp 1],.mp ((zap ks (zbf m 2 wh (zas fr (knS m sUu).1 []))).map itA)]):∃ (r:List Acc),(r=(let s:=(knS m sUu).1;let k1:=zap (addK ks ⟨sUu,⟨#[]⟩,5⟩) (zbf m 2 wh (zas fr s []));bif decide (idxF (fun c2=>colC c2 ⟨#[109]⟩) s.cols 0 < 0) then k1 else zap (addK k1 ⟨sUu,⟨#[109]⟩,2⟩) (zbf m 1 [xCol ⟨#[78,69,87]⟩ sNn] (zas fr s []))))∧zaa E0 S.footprint_collector_action [.p 0 0,(acW wh).av,fsl fr,.sl []] [.box [tsl m,.mp 1],.mp (ks.map itA)] (.tup []) [.box [tsl m,.mp 1],.mp (r.map itA)]:=by
 obtain ⟨q1,g1⟩:=zbr m (zap (addK ks (Acc.mk (acW wh).table (ByteArray.mk #[]) 5)) (zbf m 2 wh (zas fr (knS m sUu).fst []))) ks ((acW wh).wh) (zas fr (knS m (acW wh).table).fst []) ((knS m (acW wh).table).fst) (0)
 obtain ⟨q2,g2⟩:=zbr m (bif decide (idxF (fun c2=>colC c2 (ByteArray.mk #[109])) (knS m (acW wh).table).fst.cols 0 < 0) then zap (addK ks (Acc.mk (acW wh).table (ByteArray.mk #[]) 5)) (zbf m 2 wh (zas fr (knS m sUu).fst [])) else zap (addK (zap (addK ks (Acc.mk (acW wh).table (ByteArray.mk #[]) 5)) (zbf m 2 wh (zas fr (knS m sUu).fst []))) (Acc.mk (acW (acW wh).wh).table (ByteArray.mk #[109]) 2)) (zbf m 1 [xCol (ByteArray.mk #[78,69,87]) sNn] (zas fr (knS m (acW wh).table).fst []))) ks ((acW (acW wh).wh).wh) (zas fr (knS m (acW wh).table).fst []) ((knS m (acW wh).table).fst) (0+1)
 obtain ⟨q3,g3⟩:=zco m (bif decide (idxF (fun c2=>colC c2 (ByteArray.mk #[109])) (knS m (acW wh).table).fst.cols 0 < 0) then zap (addK ks (Acc.mk (acW wh).table (ByteArray.mk #[]) 5)) (zbf m 2 wh (zas fr (knS m sUu).fst [])) else zap (addK (zap (addK ks (Acc.mk (acW wh).table (ByteArray.mk #[]) 5)) (zbf m 2 wh (zas fr (knS m sUu).fst []))) (Acc.mk (acW (acW wh).wh).table (ByteArray.mk #[109]) 2)) (zbf m 1 [xCol (ByteArray.mk #[78,69,87]) sNn] (zas fr (knS m (acW wh).table).fst []))) ks ((acW (acW (acW wh).wh).wh).wh) ((knS m (acW wh).table).fst)
 exact ⟨bif decide (idxF (fun c2=>colC c2 (ByteArray.mk #[(109:UInt8)])) (knS m (acW wh).table).fst.cols (0:Nat) < (0:Int)) then zap (addK ks (Acc.mk (acW wh).table (ByteArray.mk #[]) (5:Int))) (zbf m (2:Nat) wh (zas fr (knS m sUu).fst [])) else zap (addK (zap (addK ks (Acc.mk (acW wh).table (ByteArray.mk #[]) (5:Int))) (zbf m (2:Nat) wh (zas fr (knS m sUu).fst []))) (Acc.mk (acW (acW wh).wh).table (ByteArray.mk #[(109:UInt8)]) (2:Int))) (zbf m (1:Nat) [xCol (ByteArray.mk #[(78:UInt8),(69:UInt8),(87:UInt8)]) sNn] (zas fr (knS m (acW wh).table).fst [])),(by rfl),(by (try simp only [X.av,Qy.av,V.av,Tb.av,Sch.av,Pl.av,xsl,fsl,vsl,tsl,List.map_append,List.map_cons,List.map_nil,V.cells,Col.cells,Rw.cells,Tb.cells,Fr.cells,Sch.cells,Pl.cells,zbw,za3,zbh,za2,zbi,X.cells,Qy.cells,X.args_mk,X.sub_mk,Qy.items_mk,Qy.wh_mk,Acc.cells,Ac.cells,Se.cells]);exact wkc At.footprint_collector_action [sl [0,1] (zbA m ((acW wh).table) (List.map itA ks) zeH zeH),sc (zed fr ((knS m (acW wh).table).fst) zeH),sb (rfl:false=false),sb (rfl:false=false),sb (rfl:true=true),sl [0,1] (zbd m ks ((acW wh).table) (ByteArray.mk #[]) 5 zeH),sl [0,1] (hex (addK ks (Acc.mk (acW wh).table (ByteArray.mk #[]) 5)) zeH)] [0,3,5,8,10,91,92,93] 4 kr (g1 _ (zab (wkl [sb (rfl:true=true),se (xs:=[[sv (ByteArray.mk #[109]),iv (xCol (ByteArray.mk #[78,69,87]) sNn).kind,iv (xCol (ByteArray.mk #[78,69,87]) sNn).op,bv (xCol (ByteArray.mk #[78,69,87]) sNn).not,iv (xCol (ByteArray.mk #[78,69,87]) sNn).val.kind,iv (xCol (ByteArray.mk #[78,69,87]) sNn).val.int,sv (xCol (ByteArray.mk #[78,69,87]) sNn).val.text,sv (xCol (ByteArray.mk #[78,69,87]) sNn).table,sv (xCol (ByteArray.mk #[78,69,87]) sNn).name,AV.sl (zad []),AV.sl (zae [])]]) (i:=0) (c:=[sv (ByteArray.mk #[109]),iv (xCol (ByteArray.mk #[78,69,87]) sNn).kind,iv (xCol (ByteArray.mk #[78,69,87]) sNn).op,bv (xCol (ByteArray.mk #[78,69,87]) sNn).not,iv (xCol (ByteArray.mk #[78,69,87]) sNn).val.kind,iv (xCol (ByteArray.mk #[78,69,87]) sNn).val.int,sv (xCol (ByteArray.mk #[78,69,87]) sNn).val.text,sv (xCol (ByteArray.mk #[78,69,87]) sNn).table,sv (xCol (ByteArray.mk #[78,69,87]) sNn).name,AV.sl (zad []),AV.sl (zae [])]) (n:=11) ⟨by decide,rfl,rfl⟩,sl [0,1] (zcI m (zap (addK ks (Acc.mk (acW wh).table (ByteArray.mk #[]) 5)) (zbf m 2 wh (zas fr (knS m sUu).fst []))) ((acW (acW wh).wh).table) ((knS m (acW wh).table).fst) (ByteArray.mk #[109]) (ByteArray.mk #[78,69,87]) sNn (zas fr (knS m (acW wh).table).fst []) zeH zeH zeH zeH),si (zaL (t:=(↑0:Int)+1) (n:=0+1) (by omega) (by omega))] [0,3,5,8,10,91,92,93] 4 kr (g2 _ (zab (wkl [sb (rfl:false=false)] [0,5,8,106,107,108] 4 kr (g3 _ (zab (wkrE [sb (rfl:false=false)] kr))))))))))⟩
end Go.AM
namespace Go.AM
set_option maxRecDepth 100000
set_option maxHeartbeats 1000000
set_option linter.unusedSimpArgs false
set_option linter.unusedVariables false
theorem zh7 {p:Prop} (h:p:=by first|assumption|omega|(simp;done)|(simp;omega)):p:=h
abbrev tgW (wh:List X):Tg:=⟨⟨#[97]⟩,⟨#[116]⟩,false,2,[],true,[],[],[],[],[acW wh]⟩
noncomputable def L_asW (wh:List X) (i:Nat) (l:List Str):Cfg:=zaq B.dml_Assigned 0 [(3,.own 1 l.length),(10,.sl [(Se.mk ⟨#[109]⟩ (xCol ⟨#[78,69,87]⟩ sNn)).cells]),(11,iv 1),(12,iv (i:Nat))] [.box (acW wh).cells,.row Ty.string (l.map fun s=>[sv s]) false]
theorem zcy (wh:List X) (i:Nat) (l:List Str):True∧∀ R,Good E0 B.dml_Assigned [] (L_asW wh i l) R→Good E0 B.dml_Assigned [] (L_asW wh i l) R:=⟨trivial,fun _ h=>h⟩
theorem c_asgW (wh:List X) :∃ (r:List Str),r=[⟨#[109]⟩]∧zaa E0 S.dml_Assigned [(acW wh).av] [] (ssl r) []:=by
 obtain ⟨q1,g1⟩:=zcy ((acW wh).wh) 0 ([])
 obtain ⟨q2,g2⟩:=zcy ((acW (acW wh).wh).wh) (0+1) ([ByteArray.mk #[109]])
 exact ⟨[ByteArray.mk #[109]],(by rfl),wkcN At.dml_Assigned [sb (rfl:false=false)] [3,10,11,12] 1 [(.ot 3 Ty.string,2)] kr (g1 _ (zab (wkl [sb (rfl:true=true),se (xs:=[[sv (ByteArray.mk #[109]),iv (xCol (ByteArray.mk #[78,69,87]) sNn).kind,iv (xCol (ByteArray.mk #[78,69,87]) sNn).op,bv (xCol (ByteArray.mk #[78,69,87]) sNn).not,iv (xCol (ByteArray.mk #[78,69,87]) sNn).val.kind,iv (xCol (ByteArray.mk #[78,69,87]) sNn).val.int,sv (xCol (ByteArray.mk #[78,69,87]) sNn).val.text,sv (xCol (ByteArray.mk #[78,69,87]) sNn).table,sv (xCol (ByteArray.mk #[78,69,87]) sNn).name,AV.sl (zad []),AV.sl (zae [])]]) (i:=0) (c:=[sv (ByteArray.mk #[109]),iv (xCol (ByteArray.mk #[78,69,87]) sNn).kind,iv (xCol (ByteArray.mk #[78,69,87]) sNn).op,bv (xCol (ByteArray.mk #[78,69,87]) sNn).not,iv (xCol (ByteArray.mk #[78,69,87]) sNn).val.kind,iv (xCol (ByteArray.mk #[78,69,87]) sNn).val.int,sv (xCol (ByteArray.mk #[78,69,87]) sNn).val.text,sv (xCol (ByteArray.mk #[78,69,87]) sNn).table,sv (xCol (ByteArray.mk #[78,69,87]) sNn).name,AV.sl (zad []),AV.sl (zae [])]) (n:=11) ⟨by decide,rfl,rfl⟩,sqx (AllLen [[sv (ByteArray.mk #[109])]] 1∧0=0∧Nat.le 16 140737488355328),si (zaL (t:=(↑0:Int)+1) (n:=0+1) (by omega) (by omega))] [3,10,11,12] 2 kr (g2 _ (zab (wkrS (y:=AV.sl [[sv (ByteArray.mk #[109])]]) (H:=[]) [sqx (1=1),sb (rfl:false=false)] kr ⟨by first|rfl|(simp;done)|(simp [X.cells,Qy.cells,V.cells,Col.cells,Rw.cells,Tb.cells,Fr.cells,Sch.cells,Tp.cells,Pl.cells,Acc.cells,Ac.cells,Se.cells];done),by first|rfl|(simp;done)|(simp [X.cells,Qy.cells,V.cells,Col.cells,Rw.cells,Tb.cells,Fr.cells,Sch.cells,Tp.cells,Pl.cells,Acc.cells,Ac.cells,Se.cells];done)⟩))))))⟩
theorem zaS (wh:List X):zaa E0 S.dml_Assigned [(acW wh).av] [] (ssl [⟨#[109]⟩]) []:=by
 obtain ⟨r,rfl,h⟩:=c_asgW wh
 exact h
theorem c_aplR (N:Nat) (ts:List Tg) (table:Str) (ev:Int) (asg:List Str) (each:Bool) (hl:zac ts) (hs:zac asg) (hT:∀ t∈ts,TgSh N t):∃ (r:List Tg),r=(ts.take ts.length).filter (appl table ev asg each)∧zaa E0 S.before_Applicable [.sl (ts.map Tg.cells),sv table,iv ev,ssl asg,bv each] [] (.own 1 r.length) [.box [ssl asg],.row Ty.Trigger (r.map Tg.cells) false]:=by
 obtain ⟨out1,q1,q1_1,g1⟩:=zb5 N ts table ev asg each zh7 zh7 hT 0 ([]) zh7 zh7
 exact ⟨out1,(by assumption),wkcNK At.before_Applicable [] [1,2,4,8,11,15,16,17] 1 [(.ot 11 Ty.Trigger,2)] kr (g1 _ (zab (wkrK [sb q1_1] kr)))⟩
theorem za0 (N:Nat) (wh wh':List X) (each:Bool) (hT:TgSh N (tgW wh)):zaa E0 S.before_Applicable [.sl ([tgW wh].map Tg.cells),sv (acW wh').table,iv (acW wh').kind,ssl [⟨#[109]⟩],bv each] [] (.own 1 0) [.box [ssl [⟨#[109]⟩]],.row Ty.Trigger [] false]:=by
 obtain ⟨r,hr,h⟩:=c_aplR N [tgW wh] sUu 2 [⟨#[109]⟩] each (by simp [zac]) (by simp [zac]) (by intro t ht;simp only [List.mem_singleton] at ht;subst ht;exact hT)
 have:r=[]:=by rw [hr];rfl
 subst this
 exact h
theorem zns (wh wh':List X) (N:Nat) (hT:TgSh N (tgW wh)):∃ (r:List Tg),r=[]∧zaa E0 S.footprint_applicable [(acW wh').av,.sl ([tgW wh].map Tg.cells)] [] (.sl (r.map Tg.cells)) []:=by
 exact ⟨[],(by rfl),wk At.footprint_applicable [sqx (0=0),sg (rfl:false=false),sb (rfl:false=false),sc (zaS ((acW wh').wh)),sd [(6,[sc (za0 N ((acW wh).wh) wh' true hT)]),(13,[sc (za0 N ((acW wh).wh) wh' false hT)]),(14,[sqx (0=0∧AllLen [] 11∧0=0∧Nat.le 0 140737488355328)])]] kr⟩
theorem zeE (wh wh':List X) (N:Nat) (hT:TgSh N (tgW wh)):zaa E0 S.footprint_applicable [(acW wh').av,.sl ([tgW wh].map Tg.cells)] [] (.sl []) []:=by
 obtain ⟨r,rfl,h⟩:=zns wh wh' N hT
 exact h
structure FpT (m:List Tb):Prop where
 col:ColT m
 len:m.length≤1000
theorem ziL (t:Tg) (m:List Tb) (he:t.each=true) (hm:FpT m):zaa E0 S.footprint_all [t.av,tsl m] [] (.tup [fsl (zd2 t (zag m t.table).1 [] []),tsl m]) []:=by
 obtain ⟨f,o,⟨rfl,rfl⟩,h⟩:=znW t m he hm.col.short hm.col.cols (hm.col.src _) hm.len
 exact h
abbrev frW (m:List Tb) (wh:List X):List Fr:=zd2 (tgW wh) (zag m ⟨#[116]⟩).1 [] []
def zbP (m:List Tb) (wh:List X) (fr:List Fr) (ks:List Acc):List Acc :=
 let s:=(knS m sUu).1;let k1:=zap (addK ks ⟨sUu,⟨#[]⟩,5⟩) (zbf m 2 wh (zas fr s []));bif decide (idxF (fun c2=>colC c2 ⟨#[109]⟩) s.cols 0 < 0) then k1 else zap (addK k1 ⟨sUu,⟨#[109]⟩,2⟩) (zbf m 1 [xCol ⟨#[78,69,87]⟩ sNn] (zas fr s []))
theorem znJ {m:List Tb} {wh:List X} {fr:List Fr} {ks:List Acc} (h:AccS ks):AccS (zbP m wh fr ks):=by
 unfold zbP
 simp only
 cases decide (idxF (fun c2=>colC c2 ⟨#[109]⟩) (knS m sUu).1.cols 0 < 0)
 ·exact ((((h.ins _).all _).ins _).all _)
 ·exact (h.ins _).all _
theorem zlR {m:List Tb} (h:ColT m) (n:Str):zac (knS m n).1.cols:=by
 unfold knS
 cases ByteArray.toList n==(ByteArray.mk #[73,78,83,69,82,84,69,68]).toList
 ·cases ByteArray.toList n==(ByteArray.mk #[68,69,76,69,84,69,68]).toList
  ·exact h.src n
  ·simp [zac]
 ·simp [zac]
structure ActW (wh:List X):Prop where
 sh:zac wh
 xs:∀ e∈wh,XSh 2 e
theorem zdt (m:List Tb) (ks:List Acc) (wh:List X) (fr:List Fr) (ht:FpT m) (hs:AccS ks) (hw:ActW wh) (hf:FrB 3 fr):zaa E0 S.footprint_collector_action [.p 0 0,(acW wh).av,fsl fr,.sl []] [.box [tsl m,.mp 1],.mp (ks.map itA)] (.tup []) [.box [tsl m,.mp 1],.mp ((zbP m wh fr ks).map itA)]:=by
 have h2:=hf.ins (zlR ht.col sUu)
 obtain ⟨r,rfl,h⟩:=zn2 m ks wh fr ht.col hs ht.col.short ht.col.cols (zlR ht.col sUu) hf.short h2.less (zdU ht.col 2 wh _ hw.sh hw.xs h2)
 exact h
theorem zdF (m:List Tb) (ks:List Acc) (fr:List Fr) (ht:FpT m) (hs:AccS ks) (hf:FrB 3 fr):zaa E0 S.footprint_collector_exprs [.p 0 0,.sl [],fsl fr] [.box [tsl m,.mp 1],.mp (ks.map itA)] (.tup []) [.box [tsl m,.mp 1],.mp (ks.map itA)]:=by
 have h:=zdU ht.col 1 [] fr (by simp [zac]) (by simp) hf.less.less ks hs
 exact h
noncomputable def L_ofL (m:List Tb) (wh:List X) (ks:List Acc) (i:Nat):Cfg:=zaq B.footprint_Of 0 [(1,.sl ([tgW wh].map Tg.cells)),(7,fsl (frW m wh)),(9,.p 2 0),(28,.sl ([acW wh].map Ac.cells)),(29,iv 1),(30,iv (i:Nat))] [.box (tgW wh).cells,.mp (ks.map itA),.box [tsl m,.mp 1]]
theorem zct (m:List Tb) (wh:List X) (ks:List Acc) (i:Nat):True∧∀ R,Good E0 B.footprint_Of [] (L_ofL m wh ks i) R→Good E0 B.footprint_Of [] (L_ofL m wh ks i) R:=⟨trivial,fun _ h=>h⟩
end Go.AM
namespace Go.AM
set_option maxRecDepth 100000
set_option maxHeartbeats 1000000
set_option linter.unusedSimpArgs false
set_option linter.unusedVariables false
theorem zkj {p:Prop} (h:p:=by first|exact (zaK hx (zmV (by assumption))).symm|exact (zaK hx (znx (by assumption))).symm|exact (zaK hx (zmR (by assumption))).symm):p:=h
theorem zfQ {p:Prop} (h:p:=by first|assumption|omega|(simp;done)|(simp;omega)):p:=h
theorem ziB {p:Prop} (h:p:=by first|assumption|(rw [List.take_length] at *;exact Eq.symm (by assumption))):p:=h
def VeC (g:FuncId) (l:List X) (b:Bool):Prop:=zaa E0 S.trigger_visitor_exprs [.fn g [],xsl l] [] (bv b) []
def VqC (g:FuncId) (l:List Qy) (b:Bool):Prop:=zaa E0 S.trigger_visitor_queries [.fn g [],.sl (zae l)] [] (bv b) []
def vE (p fa fq:X→Bool) (e:X):Bool:=p e&&(fa e&&fq e)
def vQ (fi fw:Qy→Bool) (q:Qy):Bool:=fi q&&fw q
theorem zaK {α:Type} {f:α→Bool} {l:List α} {i:Nat} {x:α} (hx:l[i]?=some x) (h:f x=false):l.all f=false:=by
 rw [List.all_eq_false]
 exact ⟨x,List.mem_of_getElem? hx,by simp [h]⟩
theorem zdK {α:Type} {f:α→Bool} {l:List α} {i:Nat} {x:α} (hx:l[i]?=some x) (h:f x=true) (hI:(l.take i).all f=true):(l.take (i+1)).all f=true:=by
 rw [List.take_add_one,hx,List.all_append,hI];simp [h]
theorem znu {p fa fq:X→Bool} {x:X} (h1:(!p x)=false) (h2:(!fa x)=false) (h3:(!fq x)=false):vE p fa fq x=true:=by
 unfold vE;cases hp:p x <;> cases hfa:fa x <;> cases hfq:fq x <;> simp_all
theorem zmV {p fa fq:X→Bool} {x:X} (h1:(!p x)=true):vE p fa fq x=false:=by
 unfold vE;cases hp:p x <;> simp_all
theorem znx {p fa fq:X→Bool} {x:X} (h1:(!fa x)=true):vE p fa fq x=false:=by
 unfold vE;cases hp:p x <;> cases hfa:fa x <;> simp_all
theorem zmR {p fa fq:X→Bool} {x:X} (h1:(!fq x)=true):vE p fa fq x=false:=by
 unfold vE;cases hp:p x <;> cases hfa:fa x <;> cases hfq:fq x <;> simp_all
theorem zm8 {fi fw:Qy→Bool} {x:Qy} (h2:(!fi x)=false) (h3:(!fw x)=false):vQ fi fw x=true:=by
 unfold vQ;cases hfa:fi x <;> cases hfq:fw x <;> simp_all
theorem zim {fi fw:Qy→Bool} {x:Qy} (h1:(!fi x)=true):vQ fi fw x=false:=by
 unfold vQ;cases hfa:fi x <;> simp_all
theorem ziE {fi fw:Qy→Bool} {x:Qy} (h1:(!fw x)=true):vQ fi fw x=false:=by
 unfold vQ;cases hfa:fi x <;> cases hfq:fw x <;> simp_all
noncomputable def L_ve (g:FuncId) (p fa fq:X→Bool) (l:List X) (i:Nat) :Cfg:=zaq B.trigger_visitor_exprs 0 [(0,.fn g []),(7,xsl l),(8,iv ((zad l).length:Nat)),(9,iv (i:Nat))] []
theorem zc6 (g:FuncId) (p fa fq:X→Bool) (l:List X) (hl:zac l) (hv:∀ e∈l,zaa E0 g [e.av] [] (bv (p e)) []) (ha:∀ e∈l,VeC g e.args (fa e)) (hq:∀ e∈l,VqC g e.sub (fq e)) (i:Nat)  (hi:i≤(l).length) (hI:(l.take i).all (vE p fa fq)=true):(((l.take (l).length).all (vE p fa fq)=true)∧(decide ((((l).length:Nat):Int) < (((zad l).length:Nat):Int))=false)∧∀ R,Good E0 B.trigger_visitor_exprs [] (L_ve g p fa fq l (l).length ) R→Good E0 B.trigger_visitor_exprs [] (L_ve g p fa fq l i ) R)∨(∃ (r:Bool),(r=l.all (vE p fa fq))∧Good E0 B.trigger_visitor_exprs [] (L_ve g p fa fq l i ) (Shut 0 fun rZ hZ=>rZ=(bv r)∧hZ=[])):=by
 obtain ⟨kk,hk⟩:∃ kk,i+kk=(l).length:=⟨(l).length - i,by omega⟩
 induction kk generalizing i  with
 | zero =>
  have e0:i=(l).length:=by omega
  subst e0
  exact .inl ⟨hI,by simp,fun R hg=>hg⟩
 | succ kk ih =>
  obtain ⟨x,hx⟩:=zbc (l:=l) (i:=i) (by omega)
  have h0:decide (((i:Nat):Int) < (((zad l).length:Nat):Int))=true:=by simp;omega
  have hw:IntKind.i64.wrap (((i:Nat):Int)+1)=((i+1:Nat):Int):=zaA i (by first|omega|(simp only [zac,Few] at *;omega))
  have hvx:=hv x (List.mem_of_getElem? hx);have hax:=ha x (List.mem_of_getElem? hx);have hqx:=hq x (List.mem_of_getElem? hx)
  cases h1:!p x
  ·let p_1:List St:=[sb h0,se (zcx hx),sc hvx,sg h1,sc hax]
   cases h2:!fa x
   ·cases h3:!fq x
    ·exact (ih (i+1) (by omega) (by exact zdK hx (znu (by assumption) (by assumption) (by assumption)) hI) (by omega)).elim (fun ⟨qZ,xZ,gZ⟩=>.inl ⟨qZ,xZ,fun R hg=>zab (wkl (p_1++[sg h2,sc hqx,sb h3,si hw]) [0,7,8,9] 0 kr (gZ R hg))⟩) (fun ⟨rY,pZ,gZ⟩=>.inr ⟨rY,pZ,zab (wkl [sb h0,se (zcx hx),sc hvx,sg h1,sc hax,sg h2,sc hqx,sb h3,si hw] [0,7,8,9] 0 kr gZ)⟩)
    ·exact .inr ⟨false,zkj,zab (wkr (p_1++[sg h2,sc hqx,sb h3]) kr)⟩
   ·exact .inr ⟨false,zkj,zab (wkr (p_1++[sb h2]) kr)⟩
  ·exact .inr ⟨false,zkj,zab (wkr [sb h0,se (zcx hx),sc hvx,sb h1] kr)⟩
theorem c_ve (g:FuncId) (p fa fq:X→Bool) (l:List X) (hl:zac l) (hv:∀ e∈l,zaa E0 g [e.av] [] (bv (p e)) []) (ha:∀ e∈l,VeC g e.args (fa e)) (hq:∀ e∈l,VqC g e.sub (fq e)):∃ (r:Bool),r=l.all (vE p fa fq)∧zaa E0 S.trigger_visitor_exprs [.fn g [],xsl l] [] (bv r) []:=by
 rcases zc6 g p fa fq l zfQ hv ha hq 0 zfQ zfQ with ⟨q1,q1_1,g1⟩|⟨r1_0,p1_0,g1⟩
 ·exact ⟨true,ziB,wkc At.trigger_visitor_exprs [] [0,7,8,9] 0 kr (g1 _ (zab (wkr [sb q1_1] kr)))⟩
 ·exact ⟨r1_0,ziB,wkc At.trigger_visitor_exprs [] [0,7,8,9] 0 kr (g1)⟩
noncomputable def L_vq (g:FuncId) (fi fw:Qy→Bool) (l:List Qy) (i:Nat) :Cfg:=zaq B.trigger_visitor_queries 0 [(0,.fn g []),(7,.sl (zae l)),(8,iv ((zae l).length:Nat)),(9,iv (i:Nat))] []
theorem zcW (g:FuncId) (fi fw:Qy→Bool) (l:List Qy) (hl:zac l) (ha:∀ e∈l,VeC g e.items (fi e)) (hq:∀ e∈l,VeC g e.wh (fw e)) (i:Nat)  (hi:i≤(l).length) (hI:(l.take i).all (vQ fi fw)=true):(((l.take (l).length).all (vQ fi fw)=true)∧(decide ((((l).length:Nat):Int) < (((zae l).length:Nat):Int))=false)∧∀ R,Good E0 B.trigger_visitor_queries [] (L_vq g fi fw l (l).length ) R→Good E0 B.trigger_visitor_queries [] (L_vq g fi fw l i ) R)∨(∃ (r:Bool),(r=l.all (vQ fi fw))∧Good E0 B.trigger_visitor_queries [] (L_vq g fi fw l i ) (Shut 0 fun rZ hZ=>rZ=(bv r)∧hZ=[])):=by
 obtain ⟨kk,hk⟩:∃ kk,i+kk=(l).length:=⟨(l).length - i,by omega⟩
 induction kk generalizing i  with
 | zero =>
  have e0:i=(l).length:=by omega
  subst e0
  exact .inl ⟨hI,by simp,fun R hg=>hg⟩
 | succ kk ih =>
  obtain ⟨x,hx⟩:=zbc (l:=l) (i:=i) (by omega)
  have h0:decide (((i:Nat):Int) < (((zae l).length:Nat):Int))=true:=by simp;omega
  have hw:IntKind.i64.wrap (((i:Nat):Int)+1)=((i+1:Nat):Int):=zaA i (by first|omega|(simp only [zac,Few] at *;omega))
  have hax:=ha x (List.mem_of_getElem? hx);have hqx:=hq x (List.mem_of_getElem? hx)
  cases h1:!fi x
  ·let p_1:List St:=[sb h0,se (zeP hx),sc hax,sg h1,sc hqx]
   cases h2:!fw x
   ·exact (ih (i+1) (by omega) (by exact zdK hx (zm8 (by assumption) (by assumption)) hI) (by omega)).elim (fun ⟨qZ,xZ,gZ⟩=>.inl ⟨qZ,xZ,fun R hg=>zab (wkl (p_1++[sb h2,si hw]) [0,7,8,9] 0 kr (gZ R hg))⟩) (fun ⟨rY,pZ,gZ⟩=>.inr ⟨rY,pZ,zab (wkl [sb h0,se (zeP hx),sc hax,sg h1,sc hqx,sb h2,si hw] [0,7,8,9] 0 kr gZ)⟩)
   ·exact .inr ⟨false,(by first|exact (zaK hx (zim (by assumption))).symm|exact (zaK hx (ziE (by assumption))).symm),zab (wkr (p_1++[sb h2]) kr)⟩
  ·exact .inr ⟨false,(by first|exact (zaK hx (zim (by assumption))).symm|exact (zaK hx (ziE (by assumption))).symm),zab (wkr [sb h0,se (zeP hx),sc hax,sb h1] kr)⟩
theorem c_vq (g:FuncId) (fi fw:Qy→Bool) (l:List Qy) (hl:zac l) (ha:∀ e∈l,VeC g e.items (fi e)) (hq:∀ e∈l,VeC g e.wh (fw e)):∃ (r:Bool),r=l.all (vQ fi fw)∧zaa E0 S.trigger_visitor_queries [.fn g [],.sl (zae l)] [] (bv r) []:=by
 rcases zcW g fi fw l zfQ ha hq 0 zfQ zfQ with ⟨q1,q1_1,g1⟩|⟨r1_0,p1_0,g1⟩
 ·exact ⟨true,ziB,wkc At.trigger_visitor_queries [] [0,7,8,9] 0 kr (g1 _ (zab (wkr [sb q1_1] kr)))⟩
 ·exact ⟨r1_0,ziB,wkc At.trigger_visitor_queries [] [0,7,8,9] 0 kr (g1)⟩
def visP (p:X→Bool):Nat→List X→Bool
 | 0,_=>true
 | n+1,l=>l.all (vE p (fun e=>visP p n e.args) (fun e=>e.sub.all (vQ (fun q=>visP p n q.items) (fun q=>visP p n q.wh))))
theorem zdh {g:FuncId} {p:X→Bool} (hv:∀ e,zaa E0 g [X.av e] [] (bv (p e)) []):∀ (n:Nat) (l:List X),zac l→(∀ e∈l,XSh n e)→VeC g l (visP p n l)
 | 0,l,hl,hx=>by
  have:l=[]:=by
   cases l with
   | nil=>rfl
   | cons a r=>exact (hx a (by simp)).elim
  subst this
  obtain ⟨r,hr,h⟩:=c_ve g p p p [] hl (by simp) (by simp) (by simp)
  have e:r=visP p 0 []:=by rw [hr];rfl
  rw [← e];exact h
 | n+1,l,hl,hx=>by
  obtain ⟨r,hr,h⟩:=c_ve g p (fun e=>visP p n e.args) (fun e=>e.sub.all (vQ (fun q=>visP p n q.items) (fun q=>visP p n q.wh))) l hl (fun e _=>hv e)
   (fun e he=>zdh hv n e.args (hx e he).1.1 (hx e he).2.1)
   (fun e he=>by
    obtain ⟨r,hr,h⟩:=c_vq g (fun q=>visP p n q.items) (fun q=>visP p n q.wh) e.sub (hx e he).1.2
     (fun q hq=>zdh hv n q.items ((hx e he).2.2 q hq).1.1 ((hx e he).2.2 q hq).2.1) (fun q hq=>zdh hv n q.wh ((hx e he).2.2 q hq).1.2 ((hx e he).2.2 q hq).2.2)
    rw [← hr];exact h)
  have e:r=visP p (n+1) l:=by rw [hr];rfl
  rw [← e];exact h
end Go.AM
namespace Go.AM
set_option maxRecDepth 100000
set_option maxHeartbeats 1000000
set_option linter.unusedSimpArgs false
set_option linter.unusedVariables false
def pUR (e:X):Bool :=
 bif e.kind != 2 then
  true
 else
  bif !ByteArray.toList e.table==(ByteArray.mk #[79,76,68]).toList then
   !ByteArray.toList e.table==(ByteArray.mk #[(78:UInt8),(69:UInt8),(87:UInt8)]).toList
  else
   false
theorem zb2 (e:X) :zaa E0 S.footprint_UsesRow_c1 [e.av] [] (bv (pUR e)) []:=by
 unfold pUR
 cases h1:e.kind != 2
 ·cases h2:!ByteArray.toList e.table==(ByteArray.mk #[79,76,68]).toList
  ·exact wk At.footprint_UsesRow_c1 [sg h1,sb h2] kr
  ·exact wk At.footprint_UsesRow_c1 [sg h1,sg h2] kr
 ·exact wk At.footprint_UsesRow_c1 [sb h1] kr
def zmg (e:X):Bool :=
 bif e.kind==5 then
  bif decide (9≤e.op) then
   bif !decide (e.op≤13) then
    bif e.kind != 4 then
     e.kind != (10:Int)
    else
     false
   else
    false
  else
   bif e.kind != 4 then
    e.kind != (10:Int)
   else
    false
 else
  bif e.kind != 4 then
   e.kind != (10:Int)
  else
   false
theorem zjb (e:X) :zaa E0 S.commute_safe [e.av] [] (bv (zmg e)) []:=by
 unfold zmg
 cases h1:e.kind==5
 ·cases h2:e.kind != 4
  ·exact wk At.commute_safe [sb h1,sb h2] kr
  ·exact wk At.commute_safe [sb h1,sg h2] kr
 ·cases h3:decide (9≤e.op)
  ·cases h4:e.kind != 4
   ·exact wk At.commute_safe [sg h1,sb h3,sb h4] kr
   ·exact wk At.commute_safe [sg h1,sb h3,sg h4] kr
  ·cases h5:!decide (e.op≤13)
   ·exact wk At.commute_safe [sg h1,sg h3,sb h5] kr
   ·cases h6:e.kind != 4
    ·exact wk At.commute_safe [sg h1,sg h3,sg h5,sb h6] kr
    ·exact wk At.commute_safe [sg h1,sg h3,sg h5,sg h6] kr
theorem zn7 (g:FuncId) (l:List X) (b:Bool) (hv:zaa E0 S.trigger_visitor_exprs [.fn g [],xsl l] [] (bv b) []):∃ (r:Bool),r=b∧zaa E0 S.trigger_VisitAll [xsl l,.fn g []] [] (bv r) []:=by
 exact ⟨b,(by rfl),wk At.trigger_VisitAll [sc hv] kr⟩
theorem zdf {g:FuncId} {p:X→Bool} (hv:∀ e,zaa E0 g [X.av e] [] (bv (p e)) []) (n:Nat) (l:List X) (hl:zac l) (hx:∀ e∈l,XSh n e):zaa E0 S.trigger_VisitAll [xsl l,.fn g []] [] (bv (visP p n l)) []:=by
 obtain ⟨r,rfl,h⟩:=zn7 g l _ (zdh hv n l hl hx)
 exact h
noncomputable def L_vaR (g:FuncId) (wh:List X):Cfg:=zaq B.trigger_visitor_action 0 [(0,.fn g []),(3,.p 0 0),(10,.sl []),(11,iv 0),(12,iv 0)] [.box (acW wh).cells]
theorem zcV (g:FuncId) (wh:List X):True∧∀ R,Good E0 B.trigger_visitor_action [] (L_vaR g wh) R→Good E0 B.trigger_visitor_action [] (L_vaR g wh) R:=⟨trivial,fun _ h=>h⟩
noncomputable def L_vaS (g:FuncId) (wh:List X) (i:Nat):Cfg:=zaq B.trigger_visitor_action 1 [(0,.fn g []),(3,.p 0 0),(22,.sl [(Se.mk ⟨#[109]⟩ (xCol ⟨#[78,69,87]⟩ sNn)).cells]),(23,iv 1),(24,iv (i:Nat))] [.box (acW wh).cells]
theorem zbI (g:FuncId) (wh:List X) (i:Nat):True∧∀ R,Good E0 B.trigger_visitor_action [] (L_vaS g wh i) R→Good E0 B.trigger_visitor_action [] (L_vaS g wh i) R:=⟨trivial,fun _ h=>h⟩
theorem zop (g:FuncId) (wh:List X) (a b c:Bool) (h9:zaa E0 S.trigger_visitor_exprs [.fn g [],xsl [xCol ⟨#[78,69,87]⟩ sNn]] [] (bv a) []) (h8:zaa E0 S.trigger_visitor_queries [.fn g [],.sl []] [] (bv true) []) (h7:zaa E0 S.trigger_visitor_exprs [.fn g [],xsl wh] [] (bv b) []):∃ (r:Bool),(r=bif !a then false else b)∧zaa E0 S.trigger_visitor_action [.fn g [],(acW wh).av] [] (bv r) []:=by
 obtain ⟨q1,g1⟩:=zcV g ((acW wh).wh)
 obtain ⟨q2,g2⟩:=zbI g ((acW (acW wh).wh).wh) (0)
 let p_1:List St:=[sb (rfl:true=true),se (xs:=[[sv (ByteArray.mk #[109]),iv (xCol (ByteArray.mk #[78,69,87]) sNn).kind,iv (xCol (ByteArray.mk #[78,69,87]) sNn).op,bv (xCol (ByteArray.mk #[78,69,87]) sNn).not,iv (xCol (ByteArray.mk #[78,69,87]) sNn).val.kind,iv (xCol (ByteArray.mk #[78,69,87]) sNn).val.int,sv (xCol (ByteArray.mk #[78,69,87]) sNn).val.text,sv (xCol (ByteArray.mk #[78,69,87]) sNn).table,sv (xCol (ByteArray.mk #[78,69,87]) sNn).name,AV.sl (zad []),AV.sl (zae [])]]) (i:=0) (c:=[sv (ByteArray.mk #[109]),iv (xCol (ByteArray.mk #[78,69,87]) sNn).kind,iv (xCol (ByteArray.mk #[78,69,87]) sNn).op,bv (xCol (ByteArray.mk #[78,69,87]) sNn).not,iv (xCol (ByteArray.mk #[78,69,87]) sNn).val.kind,iv (xCol (ByteArray.mk #[78,69,87]) sNn).val.int,sv (xCol (ByteArray.mk #[78,69,87]) sNn).val.text,sv (xCol (ByteArray.mk #[78,69,87]) sNn).table,sv (xCol (ByteArray.mk #[78,69,87]) sNn).name,AV.sl (zad []),AV.sl (zae [])]) (n:=11) ⟨by decide,rfl,rfl⟩,sc h9]
 cases h3:!a
 ·obtain ⟨q4,g4⟩:=zbI g ((acW (acW (acW wh).wh).wh).wh) (0+1)
  exact ⟨b,(by simp only [*,cond_true,cond_false]),wkc At.trigger_visitor_action [] [0,3,10,11,12] 1 kr (g1 _ (zab (wkl [sb (rfl:false=false)] [0,3,22,23,24] 1 kr (g2 _ (zab (wkl (p_1++[sb h3,si (zaL (t:=(↑0:Int)+1) (n:=0+1) (by omega) (by omega))]) [0,3,22,23,24] 1 kr (g4 _ (zab (wkr [sb (rfl:false=false),sc h8,sg (rfl:true=true),sc h7] kr)))))))))⟩
 ·exact ⟨false,(by simp only [*,cond_true,cond_false]),wkc At.trigger_visitor_action [] [0,3,10,11,12] 1 kr (g1 _ (zab (wkl [sb (rfl:false=false)] [0,3,22,23,24] 1 kr (g2 _ (zab (wkr (p_1++[sb h3]) kr))))))⟩
theorem zer {g:FuncId} {p:X→Bool} (hv:∀ e,zaa E0 g [X.av e] [] (bv (p e)) []) (wh:List X) (hw:ActW wh):zaa E0 S.trigger_visitor_action [.fn g [],(acW wh).av] [] (bv (bif !visP p 1 [xCol ⟨#[78,69,87]⟩ sNn] then false else visP p 2 wh)) []:=by
 obtain ⟨r,rfl,h⟩:=zop g wh _ _ true (zdh hv 1 [xCol ⟨#[78,69,87]⟩ sNn] (by simp [zac]) (by intro e he;simp only [List.mem_singleton] at he;subst he;exact zhs _ _)) (by
  obtain ⟨r,hr,h⟩:=c_vq g (fun _=>true) (fun _=>true) [] (by simp [zac]) (by simp) (by simp)
  have e:r=true:=by rw [hr];rfl
  rw [e] at h;exact h) (zdh hv 2 wh hw.sh hw.xs)
 exact h
theorem zo4 (g:FuncId) (wh:List X) (b:Bool) (hv:zaa E0 S.trigger_visitor_action [.fn g [],(acW wh).av] [] (bv b) []):∃ (r:Bool),r=b∧zaa E0 S.trigger_Visit [(acW wh).av,.fn g []] [] (bv r) []:=by
 exact ⟨b,(by rfl),wk At.trigger_Visit [sc hv] kr⟩
def visA (p:X→Bool) (wh:List X):Bool:=bif !visP p 1 [xCol ⟨#[78,69,87]⟩ sNn] then false else visP p 2 wh
theorem zhh {g:FuncId} {p:X→Bool} (hv:∀ e,zaa E0 g [X.av e] [] (bv (p e)) []) (wh:List X) (hw:ActW wh):zaa E0 S.trigger_Visit [(acW wh).av,.fn g []] [] (bv (visA p wh)) []:=by
 obtain ⟨r,rfl,h⟩:=zo4 g wh _ (zer hv wh hw)
 exact h
theorem c_urC2 (wh:List X) (hw:ActW wh) (hv:∀ e,zaa E0 S.footprint_UsesRow_c1 [X.av e] [] (bv (pUR e)) []) (h5:zaa E0 S.trigger_Visit [(acW wh).av,.fn S.footprint_UsesRow_c1 []] [] (bv (visA pUR wh)) []):∃ (r:Bool),r=!visA pUR wh∧zaa E0 S.footprint_UsesRow_c2 [(acW wh).av,.p 0 0] [.box [.fn S.footprint_UsesRow_c1 []]] (bv r) [.box [.fn S.footprint_UsesRow_c1 []]]:=by
 exact ⟨!visA pUR wh,(by rfl),wk At.footprint_UsesRow_c2 [sc h5] kr⟩
end Go.AM
namespace Go.AM
set_option maxRecDepth 100000
set_option maxHeartbeats 1000000
set_option linter.unusedSimpArgs false
set_option linter.unusedVariables false
theorem zoK (wh:List X):visA pUR wh=false:=by
 unfold visA
 rw [show visP pUR 1 [xCol ⟨#[78,69,87]⟩ sNn]=false from by kernel_rfl]
 rfl
theorem zeB (wh:List X) (hw:ActW wh):zaa E0 S.footprint_UsesRow_c2 [(acW wh).av,.p 0 0] [.box [.fn S.footprint_UsesRow_c1 []]] (bv true) [.box [.fn S.footprint_UsesRow_c1 []]]:=by
 obtain ⟨r,hr,h⟩:=c_urC2 wh hw zb2 (zhh zb2 wh hw)
 rw [zoK] at hr
 subst hr
 exact h
noncomputable def L_ixA (wh:List X) (i:Nat):Cfg:=zaq B.slices_IndexFunc_Action 0 [(0,.sl ([acW wh].map Ac.cells)),(1,.fn S.footprint_UsesRow_c2 [.p 0 0]),(7,iv 1),(8,iv (i:Nat))] [.box [.fn S.footprint_UsesRow_c1 []]]
theorem zcN (wh:List X) (i:Nat):True∧∀ R,Good E0 B.slices_IndexFunc_Action [.box [.fn S.footprint_UsesRow_c1 []]] (L_ixA wh i) R→Good E0 B.slices_IndexFunc_Action [.box [.fn S.footprint_UsesRow_c1 []]] (L_ixA wh i) R:=⟨trivial,fun _ h=>h⟩
theorem c_ixA (wh:List X) (hw:ActW wh):∃ (r:Int),r=0∧zaa E0 S.slices_IndexFunc_Action [.sl ([acW wh].map Ac.cells),.fn S.footprint_UsesRow_c2 [.p 0 0]] [.box [.fn S.footprint_UsesRow_c1 []]] (iv r) [.box [.fn S.footprint_UsesRow_c1 []]]:=by
 obtain ⟨q1,g1⟩:=zcN ((acW wh).wh) (0)
 exact ⟨(↑0:Int),(by rfl),wkc At.slices_IndexFunc_Action [] [0,1,7,8] 1 kr (g1 _ (zab (wkr [sb (rfl:true=true),se (xs:=[[iv (acW (acW wh).wh).kind,sv (acW (acW wh).wh).table,AV.sl [],AV.sl (zae []),AV.sl [[sv (ByteArray.mk #[109]),iv (xCol (ByteArray.mk #[78,69,87]) sNn).kind,iv (xCol (ByteArray.mk #[78,69,87]) sNn).op,bv (xCol (ByteArray.mk #[78,69,87]) sNn).not,iv (xCol (ByteArray.mk #[78,69,87]) sNn).val.kind,iv (xCol (ByteArray.mk #[78,69,87]) sNn).val.int,sv (xCol (ByteArray.mk #[78,69,87]) sNn).val.text,sv (xCol (ByteArray.mk #[78,69,87]) sNn).table,sv (xCol (ByteArray.mk #[78,69,87]) sNn).name,AV.sl (zad []),AV.sl (zae [])]],AV.sl (zad (acW (acW wh).wh).wh),sv (acW (acW wh).wh).text]]) (i:=0) (c:=[iv (acW (acW wh).wh).kind,sv (acW (acW wh).wh).table,AV.sl [],AV.sl (zae []),AV.sl [[sv (ByteArray.mk #[109]),iv (xCol (ByteArray.mk #[78,69,87]) sNn).kind,iv (xCol (ByteArray.mk #[78,69,87]) sNn).op,bv (xCol (ByteArray.mk #[78,69,87]) sNn).not,iv (xCol (ByteArray.mk #[78,69,87]) sNn).val.kind,iv (xCol (ByteArray.mk #[78,69,87]) sNn).val.int,sv (xCol (ByteArray.mk #[78,69,87]) sNn).val.text,sv (xCol (ByteArray.mk #[78,69,87]) sNn).table,sv (xCol (ByteArray.mk #[78,69,87]) sNn).name,AV.sl (zad []),AV.sl (zae [])]],AV.sl (zad (acW (acW wh).wh).wh),sv (acW (acW wh).wh).text]) (n:=7) ⟨by decide,rfl,rfl⟩,sl [0] (zeB ((acW (acW wh).wh).wh) (by first|assumption|omega|(simp;done)|(simp;omega))),sb (rfl:true=true)] kr)))⟩
theorem zdV (wh:List X) (hw:ActW wh):zaa E0 S.slices_IndexFunc_Action [.sl ([acW wh].map Ac.cells),.fn S.footprint_UsesRow_c2 [.p 0 0]] [.box [.fn S.footprint_UsesRow_c1 []]] (iv 0) [.box [.fn S.footprint_UsesRow_c1 []]]:=by
 obtain ⟨r,rfl,h⟩:=c_ixA wh hw
 exact h
theorem c_cfA (wh:List X) (hw:ActW wh):∃ (r:Bool),r=true∧zaa E0 S.slices_ContainsFunc_Action [.sl ([acW wh].map Ac.cells),.fn S.footprint_UsesRow_c2 [.p 0 0]] [.box [.fn S.footprint_UsesRow_c1 []]] (bv r) [.box [.fn S.footprint_UsesRow_c1 []]]:=by
 exact ⟨decide ((0:Int)≤(0:Int)),(by rfl),wk At.slices_ContainsFunc_Action [sl [0] (zdV ((acW wh).wh) (by first|assumption|omega|(simp;done)|(simp;omega)))] kr⟩
theorem zdu (wh:List X) (hw:ActW wh):zaa E0 S.slices_ContainsFunc_Action [.sl ([acW wh].map Ac.cells),.fn S.footprint_UsesRow_c2 [.p 0 0]] [.box [.fn S.footprint_UsesRow_c1 []]] (bv true) [.box [.fn S.footprint_UsesRow_c1 []]]:=by
 obtain ⟨r,rfl,h⟩:=c_cfA wh hw
 exact h
theorem zfE:zaa E0 S.trigger_VisitAll [.sl [],.fn S.footprint_UsesRow_c1 []] [] (bv true) [] :=
 zdf zb2 1 [] (by simp [zac]) (by simp)
theorem zoG (wh:List X) (hw:ActW wh):∃ (r:Bool),r=true∧zaa E0 S.footprint_UsesRow [(tgW wh).av] [] (bv r) []:=by
 exact ⟨true,(by rfl),wk At.footprint_UsesRow [sc zfE,sg (rfl:false=false),sl [1] (zdu ((acW wh).wh) (by first|assumption|omega|(simp;done)|(simp;omega)))] kr⟩
end Go.AM
namespace Go.AM
set_option maxRecDepth 100000
set_option maxHeartbeats 1000000
set_option linter.unusedSimpArgs false
set_option linter.unusedVariables false
theorem c_kcY (m:List Tb) (n:Str) (s:Sch) (c:Col) (b0:Bool) (hsc:zac s.cols) (h5:zaa E0 S.scope_Source [tsl m,sv n] [] (.tup [s.av,bv b0]) []) (hd:decide (idxF (fun c=>c.key) s.cols 0 < 0)=false) (hel:ElAt (s.cols.map Col.cells) (idxF (fun c=>c.key) s.cols 0) c.cells 4):∃ (a:Str) (b:Bool),(a=c.name∧b=true)∧zaa E0 S.commute_keyColumn [tsl m,sv n] [] (.tup [sv a,bv b]) []:=by
 exact ⟨c.name,true,(by exact ⟨rfl,rfl⟩),wk At.commute_keyColumn [sc h5,sc (zek s (by first|assumption|omega|(simp;done)|(simp;omega))),sb hd,se hel] kr⟩
theorem c_kcN (m:List Tb) (n:Str) (s:Sch) (b0:Bool) (hsc:zac s.cols) (h5:zaa E0 S.scope_Source [tsl m,sv n] [] (.tup [s.av,bv b0]) []) (hd:decide (idxF (fun c=>c.key) s.cols 0 < 0)=true):∃ (a:Str) (b:Bool),(a=⟨#[]⟩∧b=false)∧zaa E0 S.commute_keyColumn [tsl m,sv n] [] (.tup [sv a,bv b]) []:=by
 exact ⟨ByteArray.mk #[],false,(by exact ⟨rfl,rfl⟩),wk At.commute_keyColumn [sc h5,sc (zek s (by first|assumption|omega|(simp;done)|(simp;omega))),sb hd] kr⟩
abbrev zar:List Tb:=[⟨⟨⟨#[108,111,103]⟩,[⟨⟨#[110]⟩,1,false,false⟩,⟨⟨#[115]⟩,3,false,false⟩]⟩,1,[]⟩,⟨⟨⟨#[116]⟩,[⟨⟨#[105,100]⟩,1,true,true⟩,⟨⟨#[110]⟩,1,false,false⟩,⟨⟨#[98]⟩,2,false,false⟩,⟨⟨#[115]⟩,3,false,false⟩]⟩,1,[]⟩,⟨⟨⟨#[117]⟩,[⟨⟨#[105,100]⟩,1,true,true⟩,⟨⟨#[110]⟩,1,true,false⟩,⟨⟨#[109]⟩,1,false,false⟩]⟩,1,[]⟩]
theorem zc9:FpT zar:=⟨⟨by simp [zac],by intro x hx;simp only [List.mem_cons,List.not_mem_nil,or_false] at hx;rcases hx with rfl|rfl|rfl <;> simp [zac]⟩,by simp⟩
theorem zkc (n:Str):zaa E0 S.scope_Source [tsl zar,sv n] [] (.tup [(zag zar n).1.av,bv (zag zar n).2]) []:=zcL zar n zc9.col.short zc9.col.cols
theorem zfc:zaa E0 S.commute_keyColumn [tsl zar,sv ⟨#[108,111,103]⟩] [] (.tup [sv ⟨#[]⟩,bv false]) []:=by
 obtain ⟨a,b,⟨rfl,rfl⟩,h⟩:=c_kcN zar ⟨#[108,111,103]⟩ (zag zar ⟨#[108,111,103]⟩).1 (zag zar ⟨#[108,111,103]⟩).2 (zc9.col.src _) (zkc _) kr
 exact h
theorem za1:zaa E0 S.commute_keyColumn [tsl zar,sv ⟨#[116]⟩] [] (.tup [sv ⟨#[105,100]⟩,bv true]) []:=by
 obtain ⟨a,b,⟨rfl,rfl⟩,h⟩:=c_kcY zar ⟨#[116]⟩ (zag zar ⟨#[116]⟩).1 ⟨⟨#[105,100]⟩,1,true,true⟩ (zag zar ⟨#[116]⟩).2 (zc9.col.src _) (zkc _) kr ⟨by decide +kernel,by kernel_rfl,by kernel_rfl⟩
 exact h
theorem zcZ:zaa E0 S.commute_keyColumn [tsl zar,sv ⟨#[117]⟩] [] (.tup [sv ⟨#[105,100]⟩,bv true]) []:=by
 obtain ⟨a,b,⟨rfl,rfl⟩,h⟩:=c_kcY zar ⟨#[117]⟩ (zag zar ⟨#[117]⟩).1 ⟨⟨#[105,100]⟩,1,true,true⟩ (zag zar ⟨#[117]⟩).2 (zc9.col.src _) (zkc _) kr ⟨by decide +kernel,by kernel_rfl,by kernel_rfl⟩
 exact h
end Go.AM
namespace Go.AM
set_option maxRecDepth 100000
set_option maxHeartbeats 1000000
set_option linter.unusedSimpArgs false
set_option linter.unusedVariables false
theorem zk2 {p:Prop} (h:p:=by first|exact (zaK hx (zmV (by assumption))).symm|exact (zaK hx (znx (by assumption))).symm|exact (zaK hx (zmR (by assumption))).symm):p:=h
theorem zfW {p:Prop} (h:p:=by first|assumption|omega|(simp;done)|(simp;omega)):p:=h
theorem zia {p:Prop} (h:p:=by first|assumption|(rw [List.take_length] at *;exact Eq.symm (by assumption))):p:=h
noncomputable def L_nxq (tb:Str):Cfg:=zaq B.slices_IndexFunc_Query 0 [(0,.sl []),(1,.fn S.trigger_Reads_c1 [.p 0 0]),(7,iv 0),(8,iv 0)] [.box [sv tb]]
theorem zcU (tb:Str):True∧∀ R,Good E0 B.slices_IndexFunc_Query [.box [sv tb]] (L_nxq tb) R→Good E0 B.slices_IndexFunc_Query [.box [sv tb]] (L_nxq tb) R:=⟨trivial,fun _ h=>h⟩
theorem c_nxq (tb:Str) :∃ (r:Int),r=-1∧zaa E0 S.slices_IndexFunc_Query [.sl [],.fn S.trigger_Reads_c1 [.p 0 0]] [.box [sv tb]] (iv r) [.box [sv tb]]:=by
 obtain ⟨q1,g1⟩:=zcU (tb)
 exact ⟨-1,(by rfl),wkc At.slices_IndexFunc_Query [] [0,1,7,8] 1 kr (g1 _ (zab (wkr [sb (rfl:false=false)] kr)))⟩
theorem zdP (tb:Str):zaa E0 S.slices_IndexFunc_Query [.sl [],.fn S.trigger_Reads_c1 [.p 0 0]] [.box [sv tb]] (iv (-1)) [.box [sv tb]]:=by
 obtain ⟨r,rfl,h⟩:=c_nxq tb
 exact h
theorem c_ncq (tb:Str) :∃ (r:Bool),r=false∧zaa E0 S.slices_ContainsFunc_Query [.sl [],.fn S.trigger_Reads_c1 [.p 0 0]] [.box [sv tb]] (bv r) [.box [sv tb]]:=by
 exact ⟨decide ((0:Int)≤(-1:Int)),(by rfl),wk At.slices_ContainsFunc_Query [sl [0] (zdP tb)] kr⟩
theorem za6 (tb:Str):zaa E0 S.slices_ContainsFunc_Query [.sl [],.fn S.trigger_Reads_c1 [.p 0 0]] [.box [sv tb]] (bv false) [.box [sv tb]]:=by
 obtain ⟨r,rfl,h⟩:=c_ncq tb
 exact h
theorem c_rc2C (tb t n:Str) :∃ (r:Bool),r=true∧zaa E0 S.trigger_Reads_c2 [(xCol t n).av,.p 0 0] [.box [.fn S.trigger_Reads_c1 [.p 1 0]],.box [sv tb]] (bv r) [.box [.fn S.trigger_Reads_c1 [.p 1 0]],.box [sv tb]]:=by
 exact ⟨!false,(by rfl),wk At.trigger_Reads_c2 [sl [1] (za6 tb)] kr⟩
theorem c_rc2B (tb:Str) (op:Int) (a b:X) :∃ (r:Bool),r=true∧zaa E0 S.trigger_Reads_c2 [(xBin op a b).av,.p 0 0] [.box [.fn S.trigger_Reads_c1 [.p 1 0]],.box [sv tb]] (bv r) [.box [.fn S.trigger_Reads_c1 [.p 1 0]],.box [sv tb]]:=by
 exact ⟨!false,(by rfl),wk At.trigger_Reads_c2 [sl [1] (za6 tb)] kr⟩
def VeR (tb:Str) (l:List X) (b:Bool):Prop:=zaa E0 S.trigger_visitor_exprs [.fn S.trigger_Reads_c2 [.p 0 0],xsl l] [.box [.fn S.trigger_Reads_c1 [.p 1 0]],.box [sv tb]] (bv b) [.box [.fn S.trigger_Reads_c1 [.p 1 0]],.box [sv tb]]
def VqR (tb:Str) (l:List Qy) (b:Bool):Prop:=zaa E0 S.trigger_visitor_queries [.fn S.trigger_Reads_c2 [.p 0 0],.sl (zae l)] [.box [.fn S.trigger_Reads_c1 [.p 1 0]],.box [sv tb]] (bv b) [.box [.fn S.trigger_Reads_c1 [.p 1 0]],.box [sv tb]]
noncomputable def zmx (tb:Str) (p fa fq:X→Bool) (l:List X) (i:Nat) :Cfg:=zaq B.trigger_visitor_exprs 0 [(0,.fn S.trigger_Reads_c2 [.p 0 0]),(7,xsl l),(8,iv ((zad l).length:Nat)),(9,iv (i:Nat))] [.box [.fn S.trigger_Reads_c1 [.p 1 0]],.box [sv tb]]
theorem zc1 (tb:Str) (p fa fq:X→Bool) (l:List X) (hl:zac l) (hv:∀ e∈l,zaa E0 S.trigger_Reads_c2 [e.av,.p 0 0] [.box [.fn S.trigger_Reads_c1 [.p 1 0]],.box [sv tb]] (bv (p e)) [.box [.fn S.trigger_Reads_c1 [.p 1 0]],.box [sv tb]]) (ha:∀ e∈l,VeR tb e.args (fa e)) (hq:∀ e∈l,VqR tb e.sub (fq e)) (i:Nat)  (hi:i≤(l).length) (hI:(l.take i).all (vE p fa fq)=true):(((l.take (l).length).all (vE p fa fq)=true)∧(decide ((((l).length:Nat):Int) < (((zad l).length:Nat):Int))=false)∧∀ R,Good E0 B.trigger_visitor_exprs [.box [.fn S.trigger_Reads_c1 [.p 1 0]],.box [sv tb]] (zmx tb p fa fq l (l).length ) R→Good E0 B.trigger_visitor_exprs [.box [.fn S.trigger_Reads_c1 [.p 1 0]],.box [sv tb]] (zmx tb p fa fq l i ) R)∨(∃ (r:Bool),(r=l.all (vE p fa fq))∧Good E0 B.trigger_visitor_exprs [.box [.fn S.trigger_Reads_c1 [.p 1 0]],.box [sv tb]] (zmx tb p fa fq l i ) (Shut 2 fun rZ hZ=>rZ=(bv r)∧hZ=[.box [.fn S.trigger_Reads_c1 [.p 1 0]],.box [sv tb]])):=by
 obtain ⟨kk,hk⟩:∃ kk,i+kk=(l).length:=⟨(l).length - i,by omega⟩
 induction kk generalizing i  with
 | zero =>
  have e0:i=(l).length:=by omega
  subst e0
  exact .inl ⟨hI,by simp,fun R hg=>hg⟩
 | succ kk ih =>
  obtain ⟨x,hx⟩:=zbc (l:=l) (i:=i) (by omega)
  have h0:decide (((i:Nat):Int) < (((zad l).length:Nat):Int))=true:=by simp;omega
  have hw:IntKind.i64.wrap (((i:Nat):Int)+1)=((i+1:Nat):Int):=zaA i (by first|omega|(simp only [zac,Few] at *;omega))
  have hvx:=hv x (List.mem_of_getElem? hx);have hax:=ha x (List.mem_of_getElem? hx);have hqx:=hq x (List.mem_of_getElem? hx)
  let p_1:List St:=[sb h0,se (zcx hx),sl [0,1] hvx]
  cases h1:!p x
  ·cases h2:!fa x
   ·let p_2:List St:=p_1++[sg h1,sl [0,1] hax,sg h2,sl [0,1] hqx]
    cases h3:!fq x
    ·exact (ih (i+1) (by omega) (by exact zdK hx (znu (by assumption) (by assumption) (by assumption)) hI) (by omega)).elim (fun ⟨qZ,xZ,gZ⟩=>.inl ⟨qZ,xZ,fun R hg=>zab (wkl (p_2++[sb h3,si hw]) [0,7,8,9] 2 kr (gZ R hg))⟩) (fun ⟨rY,pZ,gZ⟩=>.inr ⟨rY,pZ,zab (wkl [sb h0,se (zcx hx),sl [0,1] hvx,sg h1,sl [0,1] hax,sg h2,sl [0,1] hqx,sb h3,si hw] [0,7,8,9] 2 kr gZ)⟩)
    ·exact .inr ⟨false,zk2,zab (wkr (p_2++[sb h3]) kr)⟩
   ·exact .inr ⟨false,zk2,zab (wkr (p_1++[sg h1,sl [0,1] hax,sb h2]) kr)⟩
  ·exact .inr ⟨false,zk2,zab (wkr (p_1++[sb h1]) kr)⟩
theorem c_veR (tb:Str) (p fa fq:X→Bool) (l:List X) (hl:zac l) (hv:∀ e∈l,zaa E0 S.trigger_Reads_c2 [e.av,.p 0 0] [.box [.fn S.trigger_Reads_c1 [.p 1 0]],.box [sv tb]] (bv (p e)) [.box [.fn S.trigger_Reads_c1 [.p 1 0]],.box [sv tb]]) (ha:∀ e∈l,VeR tb e.args (fa e)) (hq:∀ e∈l,VqR tb e.sub (fq e)):∃ (r:Bool),r=l.all (vE p fa fq)∧zaa E0 S.trigger_visitor_exprs [.fn S.trigger_Reads_c2 [.p 0 0],xsl l] [.box [.fn S.trigger_Reads_c1 [.p 1 0]],.box [sv tb]] (bv r) [.box [.fn S.trigger_Reads_c1 [.p 1 0]],.box [sv tb]]:=by
 rcases zc1 tb p fa fq l zfW hv ha hq 0 zfW zfW with ⟨q1,q1_1,g1⟩|⟨r1_0,p1_0,g1⟩
 ·exact ⟨true,zia,wkc At.trigger_visitor_exprs [] [0,7,8,9] 2 kr (g1 _ (zab (wkr [sb q1_1] kr)))⟩
 ·exact ⟨r1_0,zia,wkc At.trigger_visitor_exprs [] [0,7,8,9] 2 kr (g1)⟩
noncomputable def zl0 (tb:Str) (fi fw:Qy→Bool) (l:List Qy) (i:Nat) :Cfg:=zaq B.trigger_visitor_queries 0 [(0,.fn S.trigger_Reads_c2 [.p 0 0]),(7,.sl (zae l)),(8,iv ((zae l).length:Nat)),(9,iv (i:Nat))] [.box [.fn S.trigger_Reads_c1 [.p 1 0]],.box [sv tb]]
theorem zcP (tb:Str) (fi fw:Qy→Bool) (l:List Qy) (hl:zac l) (ha:∀ e∈l,VeR tb e.items (fi e)) (hq:∀ e∈l,VeR tb e.wh (fw e)) (i:Nat)  (hi:i≤(l).length) (hI:(l.take i).all (vQ fi fw)=true):(((l.take (l).length).all (vQ fi fw)=true)∧(decide ((((l).length:Nat):Int) < (((zae l).length:Nat):Int))=false)∧∀ R,Good E0 B.trigger_visitor_queries [.box [.fn S.trigger_Reads_c1 [.p 1 0]],.box [sv tb]] (zl0 tb fi fw l (l).length ) R→Good E0 B.trigger_visitor_queries [.box [.fn S.trigger_Reads_c1 [.p 1 0]],.box [sv tb]] (zl0 tb fi fw l i ) R)∨(∃ (r:Bool),(r=l.all (vQ fi fw))∧Good E0 B.trigger_visitor_queries [.box [.fn S.trigger_Reads_c1 [.p 1 0]],.box [sv tb]] (zl0 tb fi fw l i ) (Shut 2 fun rZ hZ=>rZ=(bv r)∧hZ=[.box [.fn S.trigger_Reads_c1 [.p 1 0]],.box [sv tb]])):=by
 obtain ⟨kk,hk⟩:∃ kk,i+kk=(l).length:=⟨(l).length - i,by omega⟩
 induction kk generalizing i  with
 | zero =>
  have e0:i=(l).length:=by omega
  subst e0
  exact .inl ⟨hI,by simp,fun R hg=>hg⟩
 | succ kk ih =>
  obtain ⟨x,hx⟩:=zbc (l:=l) (i:=i) (by omega)
  have h0:decide (((i:Nat):Int) < (((zae l).length:Nat):Int))=true:=by simp;omega
  have hw:IntKind.i64.wrap (((i:Nat):Int)+1)=((i+1:Nat):Int):=zaA i (by first|omega|(simp only [zac,Few] at *;omega))
  have hax:=ha x (List.mem_of_getElem? hx);have hqx:=hq x (List.mem_of_getElem? hx)
  let p_1:List St:=[sb h0,se (zeP hx),sl [0,1] hax]
  cases h1:!fi x
  ·cases h2:!fw x
   ·exact (ih (i+1) (by omega) (by exact zdK hx (zm8 (by assumption) (by assumption)) hI) (by omega)).elim (fun ⟨qZ,xZ,gZ⟩=>.inl ⟨qZ,xZ,fun R hg=>zab (wkl (p_1++[sg h1,sl [0,1] hqx,sb h2,si hw]) [0,7,8,9] 2 kr (gZ R hg))⟩) (fun ⟨rY,pZ,gZ⟩=>.inr ⟨rY,pZ,zab (wkl [sb h0,se (zeP hx),sl [0,1] hax,sg h1,sl [0,1] hqx,sb h2,si hw] [0,7,8,9] 2 kr gZ)⟩)
   ·exact .inr ⟨false,(by first|exact (zaK hx (zim (by assumption))).symm|exact (zaK hx (ziE (by assumption))).symm),zab (wkr (p_1++[sg h1,sl [0,1] hqx,sb h2]) kr)⟩
  ·exact .inr ⟨false,(by first|exact (zaK hx (zim (by assumption))).symm|exact (zaK hx (ziE (by assumption))).symm),zab (wkr (p_1++[sb h1]) kr)⟩
theorem c_vqR (tb:Str) (fi fw:Qy→Bool) (l:List Qy) (hl:zac l) (ha:∀ e∈l,VeR tb e.items (fi e)) (hq:∀ e∈l,VeR tb e.wh (fw e)):∃ (r:Bool),r=l.all (vQ fi fw)∧zaa E0 S.trigger_visitor_queries [.fn S.trigger_Reads_c2 [.p 0 0],.sl (zae l)] [.box [.fn S.trigger_Reads_c1 [.p 1 0]],.box [sv tb]] (bv r) [.box [.fn S.trigger_Reads_c1 [.p 1 0]],.box [sv tb]]:=by
 rcases zcP tb fi fw l zfW ha hq 0 zfW zfW with ⟨q1,q1_1,g1⟩|⟨r1_0,p1_0,g1⟩
 ·exact ⟨true,zia,wkc At.trigger_visitor_queries [] [0,7,8,9] 2 kr (g1 _ (zab (wkr [sb q1_1] kr)))⟩
 ·exact ⟨r1_0,zia,wkc At.trigger_visitor_queries [] [0,7,8,9] 2 kr (g1)⟩
end Go.AM
namespace Go.AM
set_option maxRecDepth 100000
set_option maxHeartbeats 1000000
set_option linter.unusedSimpArgs false
set_option linter.unusedVariables false
theorem zoB {α:Type} (l:List α) (f:α→Bool) (h:∀ x,f x=true):l.all f=true:=by simp [h]
theorem zk6 (tb:Str) (l:List X) (hl:zac l) (hv:∀ e∈l,zaa E0 S.trigger_Reads_c2 [e.av,.p 0 0] [.box [.fn S.trigger_Reads_c1 [.p 1 0]],.box [sv tb]] (bv true) [.box [.fn S.trigger_Reads_c1 [.p 1 0]],.box [sv tb]]) (ha:∀ e∈l,VeR tb e.args true) (hq:∀ e∈l,VqR tb e.sub true):VeR tb l true:=by
 obtain ⟨r,hr,h⟩:=c_veR tb (fun _=>true) (fun _=>true) (fun _=>true) l hl hv ha hq
 have e:r=true:=by rw [hr];exact zoB l _ (fun _=>rfl)
 subst e
 exact h
theorem zi5 (tb:Str):VqR tb [] true:=by
 obtain ⟨r,hr,h⟩:=c_vqR tb (fun _=>true) (fun _=>true) [] (by simp [zac]) (by simp) (by simp)
 have e:r=true:=by rw [hr];rfl
 subst e
 exact h
theorem zhv (tb:Str):VeR tb [] true:=zk6 tb [] (by simp [zac]) (by simp) (by simp) (by simp)
theorem zoZ (tb t n:Str):zaa E0 S.trigger_Reads_c2 [(xCol t n).av,.p 0 0] [.box [.fn S.trigger_Reads_c1 [.p 1 0]],.box [sv tb]] (bv true) [.box [.fn S.trigger_Reads_c1 [.p 1 0]],.box [sv tb]]:=by
 obtain ⟨r,rfl,h⟩:=c_rc2C tb t n
 exact h
theorem zph (tb:Str) (op:Int) (a b:X):zaa E0 S.trigger_Reads_c2 [(xBin op a b).av,.p 0 0] [.box [.fn S.trigger_Reads_c1 [.p 1 0]],.box [sv tb]] (bv true) [.box [.fn S.trigger_Reads_c1 [.p 1 0]],.box [sv tb]]:=by
 obtain ⟨r,rfl,h⟩:=c_rc2B tb op a b
 exact h
theorem zlL (tb:Str) (l:List (Str × Str)) (hl:zac l):VeR tb (l.map fun c=>xCol c.1 c.2) true :=
 zk6 tb _ (by simpa [zac] using hl) (fun e he=>by obtain ⟨c,_,rfl⟩:=List.mem_map.1 he;exact zoZ tb c.1 c.2)
  (fun e he=>by obtain ⟨c,_,rfl⟩:=List.mem_map.1 he;exact zhv tb) (fun e he=>by obtain ⟨c,_,rfl⟩:=List.mem_map.1 he;exact zi5 tb)
theorem zox (tb:Str) (op:Int) (a b c d:Str):VeR tb [xBin op (xCol a b) (xCol c d)] true :=
 zk6 tb _ (by simp [zac]) (fun e he=>by simp only [List.mem_singleton] at he;subst he;exact zph tb op _ _)
  (fun e he=>by simp only [List.mem_singleton] at he;subst he;exact zlL tb [(a,b),(c,d)] (by simp [zac])) (fun e he=>by simp only [List.mem_singleton] at he;subst he;exact zi5 tb)
noncomputable def zmY (tb:Str) (wh:List X):Cfg:=zaq B.trigger_visitor_action 0 [(0,.fn S.trigger_Reads_c2 [.p 0 0]),(3,.p 2 0),(10,.sl []),(11,iv 0),(12,iv 0)] [.box [.fn S.trigger_Reads_c1 [.p 1 0]],.box [sv tb],.box (acW wh).cells]
theorem zcM (tb:Str) (wh:List X):True∧∀ R,Good E0 B.trigger_visitor_action [.box [.fn S.trigger_Reads_c1 [.p 1 0]],.box [sv tb]] (zmY tb wh) R→Good E0 B.trigger_visitor_action [.box [.fn S.trigger_Reads_c1 [.p 1 0]],.box [sv tb]] (zmY tb wh) R:=⟨trivial,fun _ h=>h⟩
noncomputable def zmX (tb:Str) (wh:List X) (i:Nat):Cfg:=zaq B.trigger_visitor_action 1 [(0,.fn S.trigger_Reads_c2 [.p 0 0]),(3,.p 2 0),(22,.sl [(Se.mk ⟨#[109]⟩ (xCol ⟨#[78,69,87]⟩ sNn)).cells]),(23,iv 1),(24,iv (i:Nat))] [.box [.fn S.trigger_Reads_c1 [.p 1 0]],.box [sv tb],.box (acW wh).cells]
theorem zbG (tb:Str) (wh:List X) (i:Nat):True∧∀ R,Good E0 B.trigger_visitor_action [.box [.fn S.trigger_Reads_c1 [.p 1 0]],.box [sv tb]] (zmX tb wh i) R→Good E0 B.trigger_visitor_action [.box [.fn S.trigger_Reads_c1 [.p 1 0]],.box [sv tb]] (zmX tb wh i) R:=⟨trivial,fun _ h=>h⟩
theorem zne (tb:Str) (wh:List X) (h9:zaa E0 S.trigger_visitor_exprs [.fn S.trigger_Reads_c2 [.p 0 0],xsl [xCol ⟨#[78,69,87]⟩ sNn]] [.box [.fn S.trigger_Reads_c1 [.p 1 0]],.box [sv tb]] (bv true) [.box [.fn S.trigger_Reads_c1 [.p 1 0]],.box [sv tb]]) (h8:zaa E0 S.trigger_visitor_queries [.fn S.trigger_Reads_c2 [.p 0 0],.sl []] [.box [.fn S.trigger_Reads_c1 [.p 1 0]],.box [sv tb]] (bv true) [.box [.fn S.trigger_Reads_c1 [.p 1 0]],.box [sv tb]]) (h7:zaa E0 S.trigger_visitor_exprs [.fn S.trigger_Reads_c2 [.p 0 0],xsl wh] [.box [.fn S.trigger_Reads_c1 [.p 1 0]],.box [sv tb]] (bv true) [.box [.fn S.trigger_Reads_c1 [.p 1 0]],.box [sv tb]]):∃ (r:Bool),r=true∧zaa E0 S.trigger_visitor_action [.fn S.trigger_Reads_c2 [.p 0 0],(acW wh).av] [.box [.fn S.trigger_Reads_c1 [.p 1 0]],.box [sv tb]] (bv r) [.box [.fn S.trigger_Reads_c1 [.p 1 0]],.box [sv tb]]:=by
 obtain ⟨q1,g1⟩:=zcM tb ((acW wh).wh)
 obtain ⟨q2,g2⟩:=zbG tb ((acW (acW wh).wh).wh) (0)
 obtain ⟨q3,g3⟩:=zbG tb ((acW (acW (acW wh).wh).wh).wh) (0+1)
 exact ⟨true,(by rfl),wkc At.trigger_visitor_action [] [0,3,10,11,12] 3 kr (g1 _ (zab (wkl [sb (rfl:false=false)] [0,3,22,23,24] 3 kr (g2 _ (zab (wkl [sb (rfl:true=true),se (xs:=[[sv (ByteArray.mk #[109]),iv (xCol (ByteArray.mk #[78,69,87]) sNn).kind,iv (xCol (ByteArray.mk #[78,69,87]) sNn).op,bv (xCol (ByteArray.mk #[78,69,87]) sNn).not,iv (xCol (ByteArray.mk #[78,69,87]) sNn).val.kind,iv (xCol (ByteArray.mk #[78,69,87]) sNn).val.int,sv (xCol (ByteArray.mk #[78,69,87]) sNn).val.text,sv (xCol (ByteArray.mk #[78,69,87]) sNn).table,sv (xCol (ByteArray.mk #[78,69,87]) sNn).name,AV.sl (zad []),AV.sl (zae [])]]) (i:=0) (c:=[sv (ByteArray.mk #[109]),iv (xCol (ByteArray.mk #[78,69,87]) sNn).kind,iv (xCol (ByteArray.mk #[78,69,87]) sNn).op,bv (xCol (ByteArray.mk #[78,69,87]) sNn).not,iv (xCol (ByteArray.mk #[78,69,87]) sNn).val.kind,iv (xCol (ByteArray.mk #[78,69,87]) sNn).val.int,sv (xCol (ByteArray.mk #[78,69,87]) sNn).val.text,sv (xCol (ByteArray.mk #[78,69,87]) sNn).table,sv (xCol (ByteArray.mk #[78,69,87]) sNn).name,AV.sl (zad []),AV.sl (zae [])]) (n:=11) ⟨by decide,rfl,rfl⟩,sl [0,1] h9,sb (rfl:false=false),si (zaL (t:=(↑0:Int)+1) (n:=0+1) (by omega) (by omega))] [0,3,22,23,24] 3 kr (g3 _ (zab (wkr [sb (rfl:false=false),sl [0,1] h8,sg (rfl:true=true),sl [0,1] h7] kr)))))))))⟩
theorem zoj (tb:Str) (wh:List X) (hv:zaa E0 S.trigger_visitor_action [.fn S.trigger_Reads_c2 [.p 0 0],(acW wh).av] [.box [.fn S.trigger_Reads_c1 [.p 1 0]],.box [sv tb]] (bv true) [.box [.fn S.trigger_Reads_c1 [.p 1 0]],.box [sv tb]]):∃ (r:Bool),r=true∧zaa E0 S.trigger_Visit [(acW wh).av,.fn S.trigger_Reads_c2 [.p 0 0]] [.box [.fn S.trigger_Reads_c1 [.p 1 0]],.box [sv tb]] (bv r) [.box [.fn S.trigger_Reads_c1 [.p 1 0]],.box [sv tb]]:=by
 exact ⟨true,(by rfl),wk At.trigger_Visit [sl [0,1] hv] kr⟩
theorem zhj (tb:Str) (wh:List X) (hw:VeR tb wh true):zaa E0 S.trigger_Visit [(acW wh).av,.fn S.trigger_Reads_c2 [.p 0 0]] [.box [.fn S.trigger_Reads_c1 [.p 1 0]],.box [sv tb]] (bv true) [.box [.fn S.trigger_Reads_c1 [.p 1 0]],.box [sv tb]]:=by
 obtain ⟨r,rfl,h⟩:=zne tb wh (zlL tb [(⟨#[78,69,87]⟩,sNn)] (by simp [zac])) (zi5 tb) hw
 obtain ⟨r,rfl,h⟩:=zoj tb wh h
 exact h
theorem zno (tb:Str) (hv:zaa E0 S.trigger_visitor_exprs [.fn S.trigger_Reads_c2 [.p 0 0],.sl []] [.box [.fn S.trigger_Reads_c1 [.p 1 0]],.box [sv tb]] (bv true) [.box [.fn S.trigger_Reads_c1 [.p 1 0]],.box [sv tb]]):∃ (r:Bool),r=true∧zaa E0 S.trigger_VisitAll [.sl [],.fn S.trigger_Reads_c2 [.p 0 0]] [.box [.fn S.trigger_Reads_c1 [.p 1 0]],.box [sv tb]] (bv r) [.box [.fn S.trigger_Reads_c1 [.p 1 0]],.box [sv tb]]:=by
 exact ⟨true,(by rfl),wk At.trigger_VisitAll [sl [0,1] hv] kr⟩
theorem zfT (tb:Str):zaa E0 S.trigger_VisitAll [.sl [],.fn S.trigger_Reads_c2 [.p 0 0]] [.box [.fn S.trigger_Reads_c1 [.p 1 0]],.box [sv tb]] (bv true) [.box [.fn S.trigger_Reads_c1 [.p 1 0]],.box [sv tb]]:=by
 obtain ⟨r,rfl,h⟩:=zno tb (zhv tb)
 exact h
noncomputable def L_rdW (tb:Str) (wh:List X) (i:Nat):Cfg:=zaq B.trigger_Reads 0 [(2,.p 0 0),(5,.p 2 0),(6,.fn S.trigger_Reads_c2 [.p 2 0]),(12,.sl ([acW wh].map Ac.cells)),(13,iv 1),(14,iv (i:Nat))] [.box (tgW wh).cells,.box [sv tb],.box [.fn S.trigger_Reads_c1 [.p 1 0]]]
theorem zcq (tb:Str) (wh:List X) (i:Nat):True∧∀ R,Good E0 B.trigger_Reads [] (L_rdW tb wh i) R→Good E0 B.trigger_Reads [] (L_rdW tb wh i) R:=⟨trivial,fun _ h=>h⟩
theorem zoo (tb:Str) (wh:List X) (hw:zaa E0 S.trigger_Visit [(acW wh).av,.fn S.trigger_Reads_c2 [.p 0 0]] [.box [.fn S.trigger_Reads_c1 [.p 1 0]],.box [sv tb]] (bv true) [.box [.fn S.trigger_Reads_c1 [.p 1 0]],.box [sv tb]]):∃ (r:Bool),r=false∧zaa E0 S.trigger_Reads [(tgW wh).av,sv tb] [] (bv r) []:=by
 obtain ⟨q1,g1⟩:=zcq tb ((acW wh).wh) (0)
 obtain ⟨q2,g2⟩:=zcq tb ((acW (acW wh).wh).wh) (0+1)
 exact ⟨!true,(by rfl),wkc At.trigger_Reads [] [2,5,6,12,13,14] 3 kr (g1 _ (zab (wkl [sb (rfl:true=true),se (xs:=[[iv (acW (acW wh).wh).kind,sv (acW (acW wh).wh).table,AV.sl [],AV.sl (zae []),AV.sl [[sv (ByteArray.mk #[109]),iv (xCol (ByteArray.mk #[78,69,87]) sNn).kind,iv (xCol (ByteArray.mk #[78,69,87]) sNn).op,bv (xCol (ByteArray.mk #[78,69,87]) sNn).not,iv (xCol (ByteArray.mk #[78,69,87]) sNn).val.kind,iv (xCol (ByteArray.mk #[78,69,87]) sNn).val.int,sv (xCol (ByteArray.mk #[78,69,87]) sNn).val.text,sv (xCol (ByteArray.mk #[78,69,87]) sNn).table,sv (xCol (ByteArray.mk #[78,69,87]) sNn).name,AV.sl (zad []),AV.sl (zae [])]],AV.sl (zad (acW (acW wh).wh).wh),sv (acW (acW wh).wh).text]]) (i:=0) (c:=[iv (acW (acW wh).wh).kind,sv (acW (acW wh).wh).table,AV.sl [],AV.sl (zae []),AV.sl [[sv (ByteArray.mk #[109]),iv (xCol (ByteArray.mk #[78,69,87]) sNn).kind,iv (xCol (ByteArray.mk #[78,69,87]) sNn).op,bv (xCol (ByteArray.mk #[78,69,87]) sNn).not,iv (xCol (ByteArray.mk #[78,69,87]) sNn).val.kind,iv (xCol (ByteArray.mk #[78,69,87]) sNn).val.int,sv (xCol (ByteArray.mk #[78,69,87]) sNn).val.text,sv (xCol (ByteArray.mk #[78,69,87]) sNn).table,sv (xCol (ByteArray.mk #[78,69,87]) sNn).name,AV.sl (zad []),AV.sl (zae [])]],AV.sl (zad (acW (acW wh).wh).wh),sv (acW (acW wh).wh).text]) (n:=7) ⟨by decide,rfl,rfl⟩,sl [1] (za6 tb),sg (rfl:false=false),sl [2,1] hw,sb (rfl:false=false),si (zaL (t:=(↑0:Int)+1) (n:=0+1) (by omega) (by omega))] [2,5,6,12,13,14] 3 kr (g2 _ (zab (wkr [sb (rfl:false=false),sl [2,1] (zfT tb)] kr))))))⟩
theorem zem (tb:Str) (wh:List X) (hw:VeR tb wh true):zaa E0 S.trigger_Reads [(tgW wh).av,sv tb] [] (bv false) []:=by
 obtain ⟨r,rfl,h⟩:=zoo tb wh (zhj tb wh hw)
 exact h
end Go.AM
namespace Go.AM
set_option maxRecDepth 100000
set_option maxHeartbeats 1000000
set_option linter.unusedSimpArgs false
set_option linter.unusedVariables false
noncomputable def zm4 (g:FuncId) (tb:Str):Cfg:=zaq B.slices_IndexFunc_Trigger 0 [(0,.sl []),(1,.fn g [.p 0 0]),(7,iv 0),(8,iv 0)] [.box [sv tb]]
theorem zcs (g:FuncId) (tb:Str):True∧∀ R,Good E0 B.slices_IndexFunc_Trigger [.box [sv tb]] (zm4 g tb) R→Good E0 B.slices_IndexFunc_Trigger [.box [sv tb]] (zm4 g tb) R:=⟨trivial,fun _ h=>h⟩
theorem c_nixT (g:FuncId) (tb:Str) :∃ (r:Int),r=-1∧zaa E0 S.slices_IndexFunc_Trigger [.sl [],.fn g [.p 0 0]] [.box [sv tb]] (iv r) [.box [sv tb]]:=by
 obtain ⟨q1,g1⟩:=zcs g (tb)
 exact ⟨-1,(by rfl),wkc At.slices_IndexFunc_Trigger [] [0,1,7,8] 1 kr (g1 _ (zab (wkr [sb (rfl:false=false)] kr)))⟩
theorem zdb (g:FuncId) (tb:Str):zaa E0 S.slices_IndexFunc_Trigger [.sl [],.fn g [.p 0 0]] [.box [sv tb]] (iv (-1)) [.box [sv tb]]:=by
 obtain ⟨r,rfl,h⟩:=c_nixT g tb
 exact h
theorem c_nctT (g:FuncId) (tb:Str) :∃ (r:Bool),r=false∧zaa E0 S.slices_ContainsFunc_Trigger [.sl [],.fn g [.p 0 0]] [.box [sv tb]] (bv r) [.box [sv tb]]:=by
 exact ⟨decide ((0:Int)≤(-1:Int)),(by rfl),wk At.slices_ContainsFunc_Trigger [sl [0] (zdb g tb)] kr⟩
theorem zav (g:FuncId) (tb:Str):zaa E0 S.slices_ContainsFunc_Trigger [.sl [],.fn g [.p 0 0]] [.box [sv tb]] (bv false) [.box [sv tb]]:=by
 obtain ⟨r,rfl,h⟩:=c_nctT g tb
 exact h
theorem zb0 (wh':List X) (each:Bool):zaa E0 S.before_Applicable [.sl [],sv (acW wh').table,iv (acW wh').kind,ssl [⟨#[109]⟩],bv each] [] (.sl []) [] :=
 zgy 1 [] sUu 2 [⟨#[109]⟩] each (by simp [zac]) (by simp [zac]) (by simp)
noncomputable def L_rdO (tb:Str) (wh:List X) (ts:AV) (i:Nat):Cfg:=zaq B.commute_reads 0 [(1,ts),(5,.p 1 0),(15,.sl ([acW wh].map Ac.cells)),(16,iv 1),(17,iv (i:Nat))] [.box (tgW wh).cells,.box [sv tb]]
theorem zbe (tb:Str) (wh:List X) (ts:AV) (i:Nat):True∧∀ R,Good E0 B.commute_reads [] (L_rdO tb wh ts i) R→Good E0 B.commute_reads [] (L_rdO tb wh ts i) R:=⟨trivial,fun _ h=>h⟩
noncomputable def L_rdI (tb:Str) (wh:List X) (ts:AV) (i j:Nat):Cfg:=zaq B.commute_reads 1 [(1,ts),(5,.p 1 0),(8,.p 2 0),(15,.sl ([acW wh].map Ac.cells)),(16,iv 1),(17,iv (i:Nat)),(21,.sl [[bv true],[bv false]]),(22,iv 2),(23,iv (j:Nat))] [.box (tgW wh).cells,.box [sv tb],.box (acW wh).cells]
theorem zaH (tb:Str) (wh:List X) (ts:AV) (i j:Nat):True∧∀ R,Good E0 B.commute_reads [] (L_rdI tb wh ts i j) R→Good E0 B.commute_reads [] (L_rdI tb wh ts i j) R:=⟨trivial,fun _ h=>h⟩
theorem c_rdsW (tb:Str) (wh:List X) (N:Nat) (hT:TgSh N (tgW wh)) (h7:zaa E0 S.trigger_Reads [(tgW wh).av,sv tb] [] (bv false) []):∃ (r:Bool),r=false∧zaa E0 S.commute_reads [(tgW wh).av,.sl ([tgW wh].map Tg.cells),sv tb] [] (bv r) []:=by
 obtain ⟨q1,g1⟩:=zbe tb ((acW wh).wh) (AV.sl [[sv (tgW wh).name,sv (tgW wh).table,bv (tgW wh).before,iv (tgW wh).event,AV.sl [],bv (tgW wh).each,AV.sl [],AV.sl [],AV.sl [],AV.sl (zad []),AV.sl [[iv (acW wh).kind,sv (acW wh).table,AV.sl [],AV.sl (zae []),AV.sl [[sv (ByteArray.mk #[109]),iv (xCol (ByteArray.mk #[78,69,87]) sNn).kind,iv (xCol (ByteArray.mk #[78,69,87]) sNn).op,bv (xCol (ByteArray.mk #[78,69,87]) sNn).not,iv (xCol (ByteArray.mk #[78,69,87]) sNn).val.kind,iv (xCol (ByteArray.mk #[78,69,87]) sNn).val.int,sv (xCol (ByteArray.mk #[78,69,87]) sNn).val.text,sv (xCol (ByteArray.mk #[78,69,87]) sNn).table,sv (xCol (ByteArray.mk #[78,69,87]) sNn).name,AV.sl (zad []),AV.sl (zae [])]],AV.sl (zad (acW wh).wh),sv (acW wh).text]]]]) (0)
 obtain ⟨q2,g2⟩:=zaH tb ((acW (acW wh).wh).wh) (AV.sl [[sv (tgW wh).name,sv (tgW wh).table,bv (tgW wh).before,iv (tgW wh).event,AV.sl [],bv (tgW wh).each,AV.sl [],AV.sl [],AV.sl [],AV.sl (zad []),AV.sl [[iv (acW wh).kind,sv (acW wh).table,AV.sl [],AV.sl (zae []),AV.sl [[sv (ByteArray.mk #[109]),iv (xCol (ByteArray.mk #[78,69,87]) sNn).kind,iv (xCol (ByteArray.mk #[78,69,87]) sNn).op,bv (xCol (ByteArray.mk #[78,69,87]) sNn).not,iv (xCol (ByteArray.mk #[78,69,87]) sNn).val.kind,iv (xCol (ByteArray.mk #[78,69,87]) sNn).val.int,sv (xCol (ByteArray.mk #[78,69,87]) sNn).val.text,sv (xCol (ByteArray.mk #[78,69,87]) sNn).table,sv (xCol (ByteArray.mk #[78,69,87]) sNn).name,AV.sl (zad []),AV.sl (zae [])]],AV.sl (zad (acW wh).wh),sv (acW wh).text]]]]) 0 (0)
 obtain ⟨q3,g3⟩:=zaH tb ((acW (acW (acW wh).wh).wh).wh) (AV.sl [[sv (tgW wh).name,sv (tgW wh).table,bv (tgW wh).before,iv (tgW wh).event,AV.sl [],bv (tgW wh).each,AV.sl [],AV.sl [],AV.sl [],AV.sl (zad []),AV.sl [[iv (acW wh).kind,sv (acW wh).table,AV.sl [],AV.sl (zae []),AV.sl [[sv (ByteArray.mk #[109]),iv (xCol (ByteArray.mk #[78,69,87]) sNn).kind,iv (xCol (ByteArray.mk #[78,69,87]) sNn).op,bv (xCol (ByteArray.mk #[78,69,87]) sNn).not,iv (xCol (ByteArray.mk #[78,69,87]) sNn).val.kind,iv (xCol (ByteArray.mk #[78,69,87]) sNn).val.int,sv (xCol (ByteArray.mk #[78,69,87]) sNn).val.text,sv (xCol (ByteArray.mk #[78,69,87]) sNn).table,sv (xCol (ByteArray.mk #[78,69,87]) sNn).name,AV.sl (zad []),AV.sl (zae [])]],AV.sl (zad (acW wh).wh),sv (acW wh).text]]]]) 0 (0+1)
 obtain ⟨q4,g4⟩:=zaH tb ((acW (acW (acW (acW wh).wh).wh).wh).wh) (AV.sl [[sv (tgW wh).name,sv (tgW wh).table,bv (tgW wh).before,iv (tgW wh).event,AV.sl [],bv (tgW wh).each,AV.sl [],AV.sl [],AV.sl [],AV.sl (zad []),AV.sl [[iv (acW wh).kind,sv (acW wh).table,AV.sl [],AV.sl (zae []),AV.sl [[sv (ByteArray.mk #[109]),iv (xCol (ByteArray.mk #[78,69,87]) sNn).kind,iv (xCol (ByteArray.mk #[78,69,87]) sNn).op,bv (xCol (ByteArray.mk #[78,69,87]) sNn).not,iv (xCol (ByteArray.mk #[78,69,87]) sNn).val.kind,iv (xCol (ByteArray.mk #[78,69,87]) sNn).val.int,sv (xCol (ByteArray.mk #[78,69,87]) sNn).val.text,sv (xCol (ByteArray.mk #[78,69,87]) sNn).table,sv (xCol (ByteArray.mk #[78,69,87]) sNn).name,AV.sl (zad []),AV.sl (zae [])]],AV.sl (zad (acW wh).wh),sv (acW wh).text]]]]) 0 (0+1+1)
 obtain ⟨q5,g5⟩:=zbe tb ((acW (acW (acW (acW (acW wh).wh).wh).wh).wh).wh) (AV.sl [[sv (tgW wh).name,sv (tgW wh).table,bv (tgW wh).before,iv (tgW wh).event,AV.sl [],bv (tgW wh).each,AV.sl [],AV.sl [],AV.sl [],AV.sl (zad []),AV.sl [[iv (acW wh).kind,sv (acW wh).table,AV.sl [],AV.sl (zae []),AV.sl [[sv (ByteArray.mk #[109]),iv (xCol (ByteArray.mk #[78,69,87]) sNn).kind,iv (xCol (ByteArray.mk #[78,69,87]) sNn).op,bv (xCol (ByteArray.mk #[78,69,87]) sNn).not,iv (xCol (ByteArray.mk #[78,69,87]) sNn).val.kind,iv (xCol (ByteArray.mk #[78,69,87]) sNn).val.int,sv (xCol (ByteArray.mk #[78,69,87]) sNn).val.text,sv (xCol (ByteArray.mk #[78,69,87]) sNn).table,sv (xCol (ByteArray.mk #[78,69,87]) sNn).name,AV.sl (zad []),AV.sl (zae [])]],AV.sl (zad (acW wh).wh),sv (acW wh).text]]]]) (0+1)
 exact ⟨false,(by rfl),wkc At.commute_reads [sc h7,sb (rfl:false=false)] [1,5,15,16,17] 2 kr (g1 _ (zab (wkl [sb (rfl:true=true),se (xs:=[[iv (acW (acW wh).wh).kind,sv (acW (acW wh).wh).table,AV.sl [],AV.sl (zae []),AV.sl [[sv (ByteArray.mk #[109]),iv (xCol (ByteArray.mk #[78,69,87]) sNn).kind,iv (xCol (ByteArray.mk #[78,69,87]) sNn).op,bv (xCol (ByteArray.mk #[78,69,87]) sNn).not,iv (xCol (ByteArray.mk #[78,69,87]) sNn).val.kind,iv (xCol (ByteArray.mk #[78,69,87]) sNn).val.int,sv (xCol (ByteArray.mk #[78,69,87]) sNn).val.text,sv (xCol (ByteArray.mk #[78,69,87]) sNn).table,sv (xCol (ByteArray.mk #[78,69,87]) sNn).name,AV.sl (zad []),AV.sl (zae [])]],AV.sl (zad (acW (acW wh).wh).wh),sv (acW (acW wh).wh).text]]) (i:=0) (c:=[iv (acW (acW wh).wh).kind,sv (acW (acW wh).wh).table,AV.sl [],AV.sl (zae []),AV.sl [[sv (ByteArray.mk #[109]),iv (xCol (ByteArray.mk #[78,69,87]) sNn).kind,iv (xCol (ByteArray.mk #[78,69,87]) sNn).op,bv (xCol (ByteArray.mk #[78,69,87]) sNn).not,iv (xCol (ByteArray.mk #[78,69,87]) sNn).val.kind,iv (xCol (ByteArray.mk #[78,69,87]) sNn).val.int,sv (xCol (ByteArray.mk #[78,69,87]) sNn).val.text,sv (xCol (ByteArray.mk #[78,69,87]) sNn).table,sv (xCol (ByteArray.mk #[78,69,87]) sNn).name,AV.sl (zad []),AV.sl (zae [])]],AV.sl (zad (acW (acW wh).wh).wh),sv (acW (acW wh).wh).text]) (n:=7) ⟨by decide,rfl,rfl⟩] [1,5,8,15,16,17,21,22,23] 3 kr (g2 _ (zab (wkl [sb (rfl:true=true),se (xs:=[[bv true],[bv false]]) (i:=0) (c:=[bv true]) (n:=1) ⟨by decide,rfl,rfl⟩,sd [(6,[sc (zaS ((acW (acW (acW wh).wh).wh).wh))]),(8,[sc (za0 N ((acW wh).wh) ((acW (acW wh).wh).wh) true hT)]),(10,[skx (0=0∧True∧True) [1] (zav 76 tb)])],sb (rfl:false=false),si (zaL (t:=(↑0:Int)+1) (n:=0+1) (by omega) (by omega))] [1,5,8,15,16,17,21,22,23] 3 kr (g3 _ (zab (wkl [sb (rfl:true=true),se (ziM ([bv true]) ([bv false]) (by first|assumption|omega|(simp;done)|(simp;omega))),sd [(6,[sc (zaS ((acW (acW (acW (acW wh).wh).wh).wh).wh))]),(8,[sc (za0 N ((acW wh).wh) ((acW (acW (acW wh).wh).wh).wh) false hT)]),(10,[skx (0=0∧True∧True) [1] (zav 76 tb)])],sb (rfl:false=false),si (zaL (t:=(↑(0+1):Int)+1) (n:=0+1+1) (by omega) (by omega))] [1,5,8,15,16,17,21,22,23] 3 kr (g4 _ (zab (wkl [sb (rfl:false=false),si (zaL (t:=(↑0:Int)+1) (n:=0+1) (by omega) (by omega))] [1,5,15,16,17] 2 kr (g5 _ (zab (wkr [sb (rfl:false=false)] kr)))))))))))))))⟩
theorem c_rdsN (tb:Str) (wh:List X) (h7:zaa E0 S.trigger_Reads [(tgW wh).av,sv tb] [] (bv false) []):∃ (r:Bool),r=false∧zaa E0 S.commute_reads [(tgW wh).av,.sl [],sv tb] [] (bv r) []:=by
 obtain ⟨q1,g1⟩:=zbe tb ((acW wh).wh) (AV.sl []) (0)
 obtain ⟨q2,g2⟩:=zaH tb ((acW (acW wh).wh).wh) (AV.sl []) 0 (0)
 obtain ⟨q3,g3⟩:=zaH tb ((acW (acW (acW wh).wh).wh).wh) (AV.sl []) 0 (0+1)
 obtain ⟨q4,g4⟩:=zaH tb ((acW (acW (acW (acW wh).wh).wh).wh).wh) (AV.sl []) 0 (0+1+1)
 obtain ⟨q5,g5⟩:=zbe tb ((acW (acW (acW (acW (acW wh).wh).wh).wh).wh).wh) (AV.sl []) (0+1)
 exact ⟨false,(by rfl),wkc At.commute_reads [sc h7,sb (rfl:false=false)] [1,5,15,16,17] 2 kr (g1 _ (zab (wkl [sb (rfl:true=true),se (xs:=[[iv (acW (acW wh).wh).kind,sv (acW (acW wh).wh).table,AV.sl [],AV.sl (zae []),AV.sl [[sv (ByteArray.mk #[109]),iv (xCol (ByteArray.mk #[78,69,87]) sNn).kind,iv (xCol (ByteArray.mk #[78,69,87]) sNn).op,bv (xCol (ByteArray.mk #[78,69,87]) sNn).not,iv (xCol (ByteArray.mk #[78,69,87]) sNn).val.kind,iv (xCol (ByteArray.mk #[78,69,87]) sNn).val.int,sv (xCol (ByteArray.mk #[78,69,87]) sNn).val.text,sv (xCol (ByteArray.mk #[78,69,87]) sNn).table,sv (xCol (ByteArray.mk #[78,69,87]) sNn).name,AV.sl (zad []),AV.sl (zae [])]],AV.sl (zad (acW (acW wh).wh).wh),sv (acW (acW wh).wh).text]]) (i:=0) (c:=[iv (acW (acW wh).wh).kind,sv (acW (acW wh).wh).table,AV.sl [],AV.sl (zae []),AV.sl [[sv (ByteArray.mk #[109]),iv (xCol (ByteArray.mk #[78,69,87]) sNn).kind,iv (xCol (ByteArray.mk #[78,69,87]) sNn).op,bv (xCol (ByteArray.mk #[78,69,87]) sNn).not,iv (xCol (ByteArray.mk #[78,69,87]) sNn).val.kind,iv (xCol (ByteArray.mk #[78,69,87]) sNn).val.int,sv (xCol (ByteArray.mk #[78,69,87]) sNn).val.text,sv (xCol (ByteArray.mk #[78,69,87]) sNn).table,sv (xCol (ByteArray.mk #[78,69,87]) sNn).name,AV.sl (zad []),AV.sl (zae [])]],AV.sl (zad (acW (acW wh).wh).wh),sv (acW (acW wh).wh).text]) (n:=7) ⟨by decide,rfl,rfl⟩] [1,5,8,15,16,17,21,22,23] 3 kr (g2 _ (zab (wkl [sb (rfl:true=true),se (xs:=[[bv true],[bv false]]) (i:=0) (c:=[bv true]) (n:=1) ⟨by decide,rfl,rfl⟩,sd [(6,[sc (zaS ((acW (acW (acW wh).wh).wh).wh))]),(8,[sc (zb0 ((acW (acW wh).wh).wh) true)]),(10,[sl [1] (zav 76 tb)])],sb (rfl:false=false),si (zaL (t:=(↑0:Int)+1) (n:=0+1) (by omega) (by omega))] [1,5,8,15,16,17,21,22,23] 3 kr (g3 _ (zab (wkl [sb (rfl:true=true),se (ziM ([bv true]) ([bv false]) (by first|assumption|omega|(simp;done)|(simp;omega))),sd [(6,[sc (zaS ((acW (acW (acW (acW wh).wh).wh).wh).wh))]),(8,[sc (zb0 ((acW (acW (acW wh).wh).wh).wh) false)]),(10,[sl [1] (zav 76 tb)])],sb (rfl:false=false),si (zaL (t:=(↑(0+1):Int)+1) (n:=0+1+1) (by omega) (by omega))] [1,5,8,15,16,17,21,22,23] 3 kr (g4 _ (zab (wkl [sb (rfl:false=false),si (zaL (t:=(↑0:Int)+1) (n:=0+1) (by omega) (by omega))] [1,5,15,16,17] 2 kr (g5 _ (zab (wkr [sb (rfl:false=false)] kr)))))))))))))))⟩
theorem zbX (tb:Str) (wh:List X) (N:Nat) (hT:TgSh N (tgW wh)) (hw:VeR tb wh true):zaa E0 S.commute_reads [(tgW wh).av,.sl ([tgW wh].map Tg.cells),sv tb] [] (bv false) []:=by
 obtain ⟨r,rfl,h⟩:=c_rdsW tb wh N hT (zem tb wh hw)
 exact h
theorem zeo (tb:Str) (wh:List X) (hw:VeR tb wh true):zaa E0 S.commute_reads [(tgW wh).av,.sl [],sv tb] [] (bv false) []:=by
 obtain ⟨r,rfl,h⟩:=c_rdsN tb wh (zem tb wh hw)
 exact h
end Go.AM
namespace Go.AM
open Go.RowKit
theorem zmG {E:Env0} (ht:zan E) (hm:E.P.follows .mixedOrders=true) {id:Nat} {ops:Array Oper} {osl:List (Nat × List Orc)} {n:Nat} {ts:TS} {h hb:Heap} {Q:Exit→Act→World→Prop} {βb β:List Con} {Sb S:Addr→Prop} {wb w:World} {tmps:Array Value} {Ls:List (List Prop × TS × Heap)}
  (hsz:ops.toList.length=ops.size) (hlv:zbY (mk E) ops.toList osl n ops.toList.length [] ts h=some Ls) (hq:∀ l∈Ls,allP l.1) (hn:tmps.size=n) (x:Ext hb βb Sb wb h β S w) (r:Rel E h β S w) (rt:zam E.T h β w S ts tmps)
  (hK:∀ l∈Ls,∀ (β':List Con) (S':Addr→Prop) (w':World) (tmps':Array Value),tmps'.size=n→Ext hb βb Sb wb l.2.2 β' S' w'→Rel E l.2.2 β' S' w'→zam E.T l.2.2 β' w' S' l.2.1 tmps'→Q .normal ⟨tmps',[]⟩ w') :
  (Code.region id ops true).wp E.P Q ⟨tmps,[]⟩ w:=by
 refine wp_region_any hm ?_
 have hdg:=zjl (E:=mk E) (K:=fun L hh=>∃ l∈Ls,L=look l.2.1∧hh=l.2.2) ops.toList.length [] (Array.replicate ops.size false) ts h _ ⟨by simp,fun j hj=>?_⟩ (by simp) (fun j o ho hj=>?_) hlv (fun l hl=>?_)
 ·have hbel:BelowD w.heap.size w { w with drawn:=w.drawn+1 }:=⟨⟨rfl,rfl,rfl,Nat.le_refl _,fun _ _=>rfl⟩,Nat.le_succ _⟩
  have x1:Ext h β S w h β S { w with drawn:=w.drawn+1 }:=Ext.grow r hbel (fun _ h=>h) (fun _ h=>.inl h)
  have r1:Rel E h β S { w with drawn:=w.drawn+1 }:=r.grow hbel (fun _ h=>h) (fun _ h=>.inl h)
  have:=zkf (Q:=Q) ht (fun L hh β' S' w' tmps' hKK hn' x' r' rl'=>by
   obtain ⟨l,hl,rfl,rfl⟩:=hKK
   exact hK l hl β' S' w' tmps' hn' x' r' rl') ops.toList.length _ _ _ β S _ tmps hdg hn (x.trans x1) r1 (fun t=>(rt t).ext x1)
  rw [hsz] at this
  simpa using this
 ·have:j < ops.size:=by simpa using hj
  simp [memN,this]
 ·by_cases hjs:j < ops.size
  ·simp [hjs] at hj
  ·simp [hjs] at hj
 ·exact ⟨hq l hl,l,hl,rfl,rfl⟩
def zmO (E:Env) (c:Cfg) (osl:List (Nat × List Orc)):Option (List It × List (List Prop × TS × Heap)):=match c.todo with
 | .code (.region _ ops true)::k=>match zbY E ops.toList osl c.n ops.toList.length [] c.ts c.h,Nat.beq ops.toList.length ops.size with
  | some l,true=>some (k,l)
  | _,_=>none
 | _=>none
theorem zkG {E:Env0} (ht:zan E) (hm:E.P.follows .mixedOrders=true) {fn:Func} {R:AV→Heap→Prop} {h0:Heap} {c:Cfg} {osl:List (Nat × List Orc)} {k:List It} {Ls:List (List Prop × TS × Heap)} (hd:zmO (mk E) c osl=some (k,Ls)) (hq:∀ l∈Ls,allP l.1) (hg:∀ l∈Ls,Good E fn h0 ⟨c.n,k,l.2.1,l.2.2⟩ R):Good E fn h0 c R:=by
 intro β0 S0 w0 β S w tmps hb0 hn x0 r rt
 obtain ⟨n,todo,ts,h⟩:=c
 simp only at hn x0 r rt ⊢
 unfold zmO at hd
 simp only at hd
 split at hd
 ·rename_i id ops k'
  split at hd
  ·rename_i Ls' hlv hsz
   cases hd
   simp only [kont,Exit.then]
   exact zmG ht hm (Nat.eq_of_beq_eq_true hsz) hlv hq hn x0 r rt fun l hl β' S' w' tmps' hn' x' r' rt'=>hg l hl β0 S0 w0 β' S' w' tmps' hb0 hn' x' r' rt'
  ·cases hd
 ·cases hd
noncomputable def ziD (fn:Func) (m n:Nat) (k:List It) (os1:List Orc):List (List Prop × TS × Heap)→Option (List (List Prop × AV × Heap))
 | []=>some []
 | (q,t,h)::r=>match fin (mk E0) fn m 3000 ⟨n,k,t,h⟩ os1,ziD fn m n k os1 r with
  | some (p,y,H),some l=>some ((q++p,y,H)::l)
  | _,_=>none
noncomputable def runDs (fn:Func) (args:List AV) (h:Heap) (n:Nat) (os0:List Orc) (osl:List (Nat × List Orc)) (os1:List Orc):Option (List Prop × List (List Prop × AV × Heap)) :=
 match fn.body, (fn.name == "runtime.NumGoroutine"), Nat.ble args.length fn.ntmps with
 | some c,false,true=>match run (mk E0) n ⟨fn.ntmps,[.code c],zbg 0 args,h⟩ os0 with
  | (q0,c1,_)=>match zmO (mk E0) c1 osl with
   | some (k,Ls)=>(ziD fn h.length c1.n k os1 Ls).map fun l=>(q0,l)
   | none=>none
 | _,_,_=>none
theorem zgU {fn:Func} {h0:Heap} {m n:Nat} {k:List It} {l1:List St} {r:AV} {H:Heap}:∀ {Ls:List (List Prop × TS × Heap)} {aa:List (List St)},ziD fn m n k (orcs l1) Ls=some (aa.map fun a=>(zaB (a++l1),r,H)) →
  ∀ l∈Ls,allP l.1∧Good E0 fn h0 ⟨n,k,l.2.1,l.2.2⟩ (Shut m fun y h=>y=r∧h=H)
 | [],_,_,l,hl=>by cases hl
 | (q,t,h)::Ls,aa,hf,l,hl=>by
  unfold ziD at hf
  split at hf
  ·rename_i p y H' rest h1 h2
   cases aa with
   | nil=>simp at hf
   | cons a aa =>
    simp only [List.map_cons,Option.some.injEq,List.cons.injEq,Prod.mk.injEq] at hf
    obtain ⟨⟨e1,rfl,rfl⟩,e2⟩:=hf
    have hp:=zaw (a++l1)
    rw [← e1] at hp
    rcases List.mem_cons.1 hl with rfl|hl
    ·exact ⟨(zcf hp).1,zeS E0ok mix0 3000 (orcs l1) h1 (zcf hp).2 ⟨rfl,rfl⟩⟩
    ·exact zgU (aa:=aa) (by rw [h2,e2]) l hl
  ·cases hf
theorem wkDs {f:FuncId} {fn:Func} {args:List AV} {h H:Heap} {r:AV} (hf:E0.P.funcs[f]?=some fn) (l0:List St) (n:Nat) (osl:List (Nat × List Orc)) (aa:List (List St)) (l1:List St) (hfin:runDs fn args h n (orcs l0) osl (orcs l1)=some (zaB l0,aa.map fun a=>(zaB (a++l1),r,H))):zaa E0 f args h r H:=by
 unfold runDs at hfin
 split at hfin
 ·rename_i c hb hname ha
  split at hfin
  rename_i q0 c1 os' hrun
  split at hfin
  ·rename_i k Ls hd
   simp only [Option.map_eq_some_iff,Prod.mk.injEq] at hfin
   obtain ⟨l,h1,e0,rfl⟩:=hfin
   refine zb4 (zax hf hb hname (Nat.le_of_ble_eq_true ha) (zeh E0ok mix0 n _ (orcs l0) (by rw [hrun,e0];exact zaw l0) ?_))
   rw [hrun]
   exact zkG E0ok mix0 hd (fun l hl=>(zgU (h0:=h) h1 l hl).1) fun l hl=>(zgU h1 l hl).2
  ·cases hfin
 ·cases hfin
end Go.AM
namespace Go.AM
set_option maxRecDepth 100000
set_option maxHeartbeats 1000000
set_option linter.unusedSimpArgs false
set_option linter.unusedVariables false
abbrev zeF:Str:=⟨#[78,69,87]⟩
abbrev exW:X:=xBin 3 (xCol sUu sId2) (xCol zeF sId2)
theorem zow  :∃ (b:Bool),b=false∧zaa E0 S.rank_First [.sl []] [] (.tup [.agg [iv 0,iv 0,bv false,iv 0,iv 0,sv ⟨#[]⟩,sv ⟨#[]⟩,sv ⟨#[]⟩,.sl [],.sl []],bv b]) []:=by
 exact ⟨false,(by rfl),wk At.rank_First [sb (rfl:true=true)] kr⟩
noncomputable def L_fst :Cfg:=zaq B.rank_First 0 [(2,.p 0 0),(4,.p 1 0)] [.box [iv 0,iv 0,.bl false,iv 0,iv 0,sv ⟨#[]⟩,sv ⟨#[]⟩,sv ⟨#[]⟩,.nl,.nl],.box exW.cells]
theorem zfA :True∧∀ R,Good E0 B.rank_First [] (L_fst ) R→Good E0 B.rank_First [] (L_fst ) R:=⟨trivial,fun _ h=>h⟩
theorem zot  :∃ (b:Bool),b=true∧zaa E0 S.rank_First [xsl [exW]] [] (.tup [exW.av,bv b]) []:=by
 obtain ⟨q1,g1⟩:=zfA
 exact ⟨true,(by rfl),wkc At.rank_First [sb (rfl:false=false),se (zcx (l:=[exW]) (i:=0) (x:=exW) rfl)] [2,4] 2 kr (g1 _ (zab (wkr [sg (rfl:true=true),sb (rfl:false=false)] kr)))⟩
theorem zh6:zaa E0 S.rank_First [.sl []] [] (.tup [.agg [iv 0,iv 0,bv false,iv 0,iv 0,sv ⟨#[]⟩,sv ⟨#[]⟩,sv ⟨#[]⟩,.sl [],.sl []],bv false]) []:=by
 obtain ⟨b,rfl,h⟩:=zow
 exact h
theorem ziK:zaa E0 S.rank_First [xsl [exW]] [] (.tup [exW.av,bv true]) []:=by
 obtain ⟨b,rfl,h⟩:=zot
 exact h
theorem xsh_W:XSh 2 exW:=⟨⟨by simp [zac,xBin],by simp [zac,xBin]⟩,by
 intro x hx
 simp only [xBin,X.args_mk,List.mem_cons,List.not_mem_nil,or_false] at hx
 rcases hx with rfl|rfl <;> exact zhs _ _,by simp [xBin]⟩
theorem zg5:ActW [exW]:=⟨by simp [zac],by intro e he;simp only [List.mem_singleton] at he;subst he;exact xsh_W⟩
theorem zj0:ActW []:=⟨by simp [zac],by simp⟩
theorem zeO:zaa E0 S.trigger_VisitAll [xsl [exW],.fn S.commute_safe []] [] (bv true) []:=by
 have h:=zdf zjb 2 [exW] zg5.sh zg5.xs
 rw [show visP zmg 2 [exW]=true from by kernel_rfl] at h
 exact h
theorem zoP  :∃ (a:Str) (b:Bool),(a=⟨#[]⟩∧b=false)∧zaa E0 S.commute_confined [(acW []).av,sv sId2,sv sId2] [] (.tup [sv a,bv b]) []:=by
 exact ⟨ByteArray.mk #[],false,(by exact ⟨rfl,rfl⟩),wk At.commute_confined [sc zh6,sg (rfl:false=false),sb (rfl:true=true)] kr⟩
theorem zfU:zaa E0 S.commute_confined [(acW [exW]).av,sv sId2,sv sId2] [] (.tup [sv zeF,bv true]) []:=by
 let ex:St:=se (zcx (l:=[xCol sUu sId2,xCol zeF sId2]) (i:=0) (x:=xCol sUu sId2) rfl)
 let ey:St:=se (zcx (l:=[xCol sUu sId2,xCol zeF sId2]) (i:=1) (x:=xCol zeF sId2) rfl)
 let rs:List St:=[sg (rfl:true=true),sg (rfl:true=true),sg (rfl:false=false),sg (rfl:true=true),sg (rfl:true=true),sb (rfl:true=true),sg (rfl:true=true)]
 exact wkDs At.commute_confined [sc ziK,sg (rfl:false=false),sg (rfl:false=false),sg (rfl:false=false),sg (rfl:false=false),sb (rfl:false=false),sc zeO,sb (rfl:false=false)] 200 (zgj [(2,[ex]),(6,[ey])]) [[ex,ey],[ex,ey],[ex,ey],[ex,ey],[ex,ey],[ex,ey],[ex,ey],[ex,ey]] rs kr
theorem zfX:zaa E0 S.commute_confined [(acW []).av,sv sId2,sv sId2] [] (.tup [sv ⟨#[]⟩,bv false]) []:=by
 obtain ⟨a,b,⟨rfl,rfl⟩,h⟩:=zoP
 exact h
theorem c_rsW (wh:List X) (N:Nat) (hT:TgSh N (tgW wh)):∃ (b:Bool),b=false∧zaa E0 S.rank_sets [(acW wh).av,.sl ([tgW wh].map Tg.cells),sv sId2] [] (bv b) []:=by
 exact ⟨false,(by rfl),wk At.rank_sets [sd [(4,[sc (zaS ((acW wh).wh))]),(5,[sc (za0 N ((acW wh).wh) wh true hT)]),(7,[skx (0=0∧True∧True) [1] (zav 120 sId2)])]] kr⟩
theorem c_rsN (wh:List X) :∃ (b:Bool),b=false∧zaa E0 S.rank_sets [(acW wh).av,.sl [],sv sId2] [] (bv b) []:=by
 exact ⟨false,(by rfl),wk At.rank_sets [sd [(4,[sc (zaS ((acW wh).wh))]),(5,[sc (zb0 wh true)]),(7,[sl [1] (zav 120 sId2)])]] kr⟩
theorem zja (wh:List X) (N:Nat) (hT:TgSh N (tgW wh)):zaa E0 S.rank_sets [(acW wh).av,.sl ([tgW wh].map Tg.cells),sv sId2] [] (bv false) []:=by
 obtain ⟨b,rfl,h⟩:=c_rsW wh N hT
 exact h
theorem zi0 (wh:List X):zaa E0 S.rank_sets [(acW wh).av,.sl [],sv sId2] [] (bv false) []:=by
 obtain ⟨b,rfl,h⟩:=c_rsN wh
 exact h
theorem c_RsW (wh:List X) (ts:List Tg) (h7:zaa E0 S.rank_sets [(acW wh).av,.sl (ts.map Tg.cells),sv sId2] [] (bv false) []):∃ (b:Bool),b=false∧zaa E0 S.rank_Sets [(acW wh).av,.sl (ts.map Tg.cells),sv sId2] [] (bv b) []:=by
 exact ⟨false,(by rfl),wk At.rank_Sets [sc (zaS ((acW wh).wh)),sc (zbO ([ByteArray.mk #[109]]) sId2 (by first|assumption|omega|(simp;done)|(simp;omega))),sg (rfl:false=false),sc h7] kr⟩
theorem ziT (wh:List X) (N:Nat) (hT:TgSh N (tgW wh)):zaa E0 S.rank_Sets [(acW wh).av,.sl ([tgW wh].map Tg.cells),sv sId2] [] (bv false) []:=by
 obtain ⟨b,rfl,h⟩:=c_RsW wh [tgW wh] (zja wh N hT)
 exact h
theorem zjc (wh:List X):zaa E0 S.rank_Sets [(acW wh).av,.sl [],sv sId2] [] (bv false) []:=by
 obtain ⟨b,rfl,h⟩:=c_RsW wh [] (zi0 wh)
 exact h
end Go.AM
namespace Go.AM
set_option maxRecDepth 100000
set_option maxHeartbeats 1000000
set_option linter.unusedSimpArgs false
set_option linter.unusedVariables false
abbrev zjR:Str:=⟨#[108,111,103]⟩
abbrev sT1:Str:=⟨#[116]⟩
theorem zo6 (wh:List X) (ts:List Tg) :∃ (r:Bool),r=false∧zaa E0 S.commute_keyed [(tgW wh).av,.sl (ts.map Tg.cells),tsl zar,sv zjR] [] (bv r) []:=by
 exact ⟨false,(by first|rfl|kernel_rfl),wk At.commute_keyed [sc za1,sc zfc,sg (rfl:false=false),sb (rfl:true=true)] kr⟩
noncomputable def L_kd (wh:List X) (ts:AV) (tb q:Str) (i:Nat):Cfg:=zaq B.commute_keyed 0 [(1,ts),(3,sv tb),(9,sv sId2),(11,sv sId2),(13,sv q),(44,.sl ([acW wh].map Ac.cells)),(45,iv 1),(46,iv (i:Nat))] [.box (tgW wh).cells]
theorem zaT (wh:List X) (ts:AV) (tb q:Str) (i:Nat):True∧∀ R,Good E0 B.commute_keyed [] (L_kd wh ts tb q i) R→Good E0 B.commute_keyed [] (L_kd wh ts tb q i) R:=⟨trivial,fun _ h=>h⟩
theorem zlW (wh:List X) (ts:List Tg) (h7:zaa E0 S.commute_reads [(tgW wh).av,.sl (ts.map Tg.cells),sv sT1] [] (bv false) []):∃ (r:Bool),r=false∧zaa E0 S.commute_keyed [(tgW wh).av,.sl (ts.map Tg.cells),tsl zar,sv sT1] [] (bv r) []:=by
 obtain ⟨q1,g1⟩:=zaT ((acW wh).wh) (AV.sl (List.map Tg.cells ts)) sT1 (ByteArray.mk #[]) (0)
 obtain ⟨q2,g2⟩:=zaT ((acW (acW wh).wh).wh) (AV.sl (List.map Tg.cells ts)) sT1 (ByteArray.mk #[]) (0+1)
 exact ⟨!(ByteArray.mk #[]).toList==(ByteArray.mk #[]).toList,(by first|rfl|kernel_rfl),wkc At.commute_keyed [sc za1,sc za1,sg (rfl:false=false),sg (rfl:false=false),sc h7,sb (rfl:false=false)] [1,3,9,11,13,44,45,46] 1 kr (g1 _ (zab (wkl [sb (rfl:true=true),se (xs:=[[iv (acW (acW wh).wh).kind,sv (acW (acW wh).wh).table,AV.sl [],AV.sl (zae []),AV.sl [[sv (ByteArray.mk #[109]),iv (xCol (ByteArray.mk #[78,69,87]) sNn).kind,iv (xCol (ByteArray.mk #[78,69,87]) sNn).op,bv (xCol (ByteArray.mk #[78,69,87]) sNn).not,iv (xCol (ByteArray.mk #[78,69,87]) sNn).val.kind,iv (xCol (ByteArray.mk #[78,69,87]) sNn).val.int,sv (xCol (ByteArray.mk #[78,69,87]) sNn).val.text,sv (xCol (ByteArray.mk #[78,69,87]) sNn).table,sv (xCol (ByteArray.mk #[78,69,87]) sNn).name,AV.sl (zad []),AV.sl (zae [])]],AV.sl (zad (acW (acW wh).wh).wh),sv (acW (acW wh).wh).text]]) (i:=0) (c:=[iv (acW (acW wh).wh).kind,sv (acW (acW wh).wh).table,AV.sl [],AV.sl (zae []),AV.sl [[sv (ByteArray.mk #[109]),iv (xCol (ByteArray.mk #[78,69,87]) sNn).kind,iv (xCol (ByteArray.mk #[78,69,87]) sNn).op,bv (xCol (ByteArray.mk #[78,69,87]) sNn).not,iv (xCol (ByteArray.mk #[78,69,87]) sNn).val.kind,iv (xCol (ByteArray.mk #[78,69,87]) sNn).val.int,sv (xCol (ByteArray.mk #[78,69,87]) sNn).val.text,sv (xCol (ByteArray.mk #[78,69,87]) sNn).table,sv (xCol (ByteArray.mk #[78,69,87]) sNn).name,AV.sl (zad []),AV.sl (zae [])]],AV.sl (zad (acW (acW wh).wh).wh),sv (acW (acW wh).wh).text]) (n:=7) ⟨by decide,rfl,rfl⟩,sb (rfl:true=true),si (zaL (t:=(↑0:Int)+1) (n:=0+1) (by omega) (by omega))] [1,3,9,11,13,44,45,46] 1 kr (g2 _ (zab (wkr [sb (rfl:false=false)] kr))))))⟩
theorem c_kdU (ts:List Tg) (h7:zaa E0 S.commute_reads [(tgW [exW]).av,.sl (ts.map Tg.cells),sv sUu] [] (bv false) []) (h8:zaa E0 S.rank_Sets [(acW [exW]).av,.sl (ts.map Tg.cells),sv sId2] [] (bv false) []):∃ (r:Bool),r=true∧zaa E0 S.commute_keyed [(tgW [exW]).av,.sl (ts.map Tg.cells),tsl zar,sv sUu] [] (bv r) []:=by
 obtain ⟨q1,g1⟩:=zaT ([exW]) (AV.sl (List.map Tg.cells ts)) sUu (ByteArray.mk #[]) (0)
 obtain ⟨q2,g2⟩:=zaT ([exW]) (AV.sl (List.map Tg.cells ts)) sUu zeF (0+1)
 exact ⟨!ByteArray.toList zeF==(ByteArray.mk #[]).toList,(by first|rfl|kernel_rfl),wkc At.commute_keyed [sc za1,sc zcZ,sg (rfl:false=false),sg (rfl:false=false),sc h7,sb (rfl:false=false)] [1,3,9,11,13,44,45,46] 1 kr (g1 _ (zab (wkl [sb (rfl:true=true),se (xs:=[[iv (acW [exW]).kind,sv (acW [exW]).table,AV.sl [],AV.sl (zae []),AV.sl [[sv (ByteArray.mk #[109]),iv (xCol (ByteArray.mk #[78,69,87]) sNn).kind,iv (xCol (ByteArray.mk #[78,69,87]) sNn).op,bv (xCol (ByteArray.mk #[78,69,87]) sNn).not,iv (xCol (ByteArray.mk #[78,69,87]) sNn).val.kind,iv (xCol (ByteArray.mk #[78,69,87]) sNn).val.int,sv (xCol (ByteArray.mk #[78,69,87]) sNn).val.text,sv (xCol (ByteArray.mk #[78,69,87]) sNn).table,sv (xCol (ByteArray.mk #[78,69,87]) sNn).name,AV.sl (zad []),AV.sl (zae [])]],AV.sl (zad [exW]),sv (acW [exW]).text]]) (i:=0) (c:=[iv (acW [exW]).kind,sv (acW [exW]).table,AV.sl [],AV.sl (zae []),AV.sl [[sv (ByteArray.mk #[109]),iv (xCol (ByteArray.mk #[78,69,87]) sNn).kind,iv (xCol (ByteArray.mk #[78,69,87]) sNn).op,bv (xCol (ByteArray.mk #[78,69,87]) sNn).not,iv (xCol (ByteArray.mk #[78,69,87]) sNn).val.kind,iv (xCol (ByteArray.mk #[78,69,87]) sNn).val.int,sv (xCol (ByteArray.mk #[78,69,87]) sNn).val.text,sv (xCol (ByteArray.mk #[78,69,87]) sNn).table,sv (xCol (ByteArray.mk #[78,69,87]) sNn).name,AV.sl (zad []),AV.sl (zae [])]],AV.sl (zad [exW]),sv (acW [exW]).text]) (n:=7) ⟨by decide,rfl,rfl⟩,sg (rfl:false=false),sb (rfl:false=false),sc zfU,sg (rfl:false=false),sb (rfl:false=false),sc h8,sb (rfl:false=false),si (zaL (t:=(↑0:Int)+1) (n:=0+1) (by omega) (by omega))] [1,3,9,11,13,44,45,46] 1 kr (g2 _ (zab (wkr [sb (rfl:false=false)] kr))))))⟩
theorem c_kdUn (ts:List Tg) (h7:zaa E0 S.commute_reads [(tgW []).av,.sl (ts.map Tg.cells),sv sUu] [] (bv false) []):∃ (r:Bool),r=false∧zaa E0 S.commute_keyed [(tgW []).av,.sl (ts.map Tg.cells),tsl zar,sv sUu] [] (bv r) []:=by
 obtain ⟨q1,g1⟩:=zaT ([]) (AV.sl (List.map Tg.cells ts)) sUu (ByteArray.mk #[]) (0)
 exact ⟨false,(by first|rfl|kernel_rfl),wkc At.commute_keyed [sc za1,sc zcZ,sg (rfl:false=false),sg (rfl:false=false),sc h7,sb (rfl:false=false)] [1,3,9,11,13,44,45,46] 1 kr (g1 _ (zab (wkr [sb (rfl:true=true),se (xs:=[[iv (acW []).kind,sv (acW []).table,AV.sl [],AV.sl (zae []),AV.sl [[sv (ByteArray.mk #[109]),iv (xCol (ByteArray.mk #[78,69,87]) sNn).kind,iv (xCol (ByteArray.mk #[78,69,87]) sNn).op,bv (xCol (ByteArray.mk #[78,69,87]) sNn).not,iv (xCol (ByteArray.mk #[78,69,87]) sNn).val.kind,iv (xCol (ByteArray.mk #[78,69,87]) sNn).val.int,sv (xCol (ByteArray.mk #[78,69,87]) sNn).val.text,sv (xCol (ByteArray.mk #[78,69,87]) sNn).table,sv (xCol (ByteArray.mk #[78,69,87]) sNn).name,AV.sl (zad []),AV.sl (zae [])]],AV.sl (zad []),sv (acW []).text]]) (i:=0) (c:=[iv (acW []).kind,sv (acW []).table,AV.sl [],AV.sl (zae []),AV.sl [[sv (ByteArray.mk #[109]),iv (xCol (ByteArray.mk #[78,69,87]) sNn).kind,iv (xCol (ByteArray.mk #[78,69,87]) sNn).op,bv (xCol (ByteArray.mk #[78,69,87]) sNn).not,iv (xCol (ByteArray.mk #[78,69,87]) sNn).val.kind,iv (xCol (ByteArray.mk #[78,69,87]) sNn).val.int,sv (xCol (ByteArray.mk #[78,69,87]) sNn).val.text,sv (xCol (ByteArray.mk #[78,69,87]) sNn).table,sv (xCol (ByteArray.mk #[78,69,87]) sNn).name,AV.sl (zad []),AV.sl (zae [])]],AV.sl (zad []),sv (acW []).text]) (n:=7) ⟨by decide,rfl,rfl⟩,sg (rfl:false=false),sb (rfl:false=false),sc zfX,sb (rfl:true=true)] kr)))⟩
end Go.AM
namespace Go.AM
set_option maxRecDepth 100000
set_option maxHeartbeats 1000000
set_option linter.unusedSimpArgs false
set_option linter.unusedVariables false
noncomputable def L_isO (n:Nat) (l:List Str):Cfg:=zaq B.slices_insertionSortOrdered_string 0 [(0,.own 0 n),(1,iv 0),(2,iv (n:Nat)),(6,iv 1)] [.row Ty.string (l.map fun s=>[sv s]) false]
theorem zbT (n:Nat) (l:List Str):True∧∀ R,Good E0 B.slices_insertionSortOrdered_string [.row Ty.string (l.map fun s=>[sv s]) false] (L_isO n l) R→Good E0 B.slices_insertionSortOrdered_string [.row Ty.string (l.map fun s=>[sv s]) false] (L_isO n l) R:=⟨trivial,fun _ h=>h⟩
theorem zoO (l:List Str) (hn:decide ((1:Int) < ((l.length:Nat):Int))=false):∃ (r:List Str),r=l∧zaa E0 S.slices_insertionSortOrdered_string [.own 0 l.length,iv 0,iv (l.length:Nat)] [.row Ty.string (l.map fun s=>[sv s]) false] (.tup []) [.row Ty.string (r.map fun s=>[sv s]) false]:=by
 obtain ⟨q1,g1⟩:=zbT l.length (l)
 exact ⟨l,(by rfl),wkc At.slices_insertionSortOrdered_string [si (zaL (t:=0+1) (n:=0+1) (by omega) (by omega))] [0,1,2,6] 1 kr (g1 _ (zab (wkrE [sb hn] kr)))⟩
theorem zcD (l:List Str) (hn:decide ((1:Int) < ((l.length:Nat):Int))=false):zaa E0 S.slices_insertionSortOrdered_string [.own 0 l.length,iv 0,iv (l.length:Nat)] [.row Ty.string (l.map fun s=>[sv s]) false] (.tup []) [.row Ty.string (l.map fun s=>[sv s]) false]:=by
 obtain ⟨r,rfl,h⟩:=zoO l hn
 exact h
noncomputable def L_pqs (l:List Str) (c:Int):Cfg:=zaq B.slices_pdqsortOrdered_string 0 [(0,.own 0 l.length),(1,iv 0),(2,iv (l.length:Nat)),(3,iv c),(8,.bl true),(9,.bl true)] [.row Ty.string (l.map fun s=>[sv s]) false]
theorem zcc (l:List Str) (c:Int):True∧∀ R,Good E0 B.slices_pdqsortOrdered_string [.row Ty.string (l.map fun s=>[sv s]) false] (L_pqs l c) R→Good E0 B.slices_pdqsortOrdered_string [.row Ty.string (l.map fun s=>[sv s]) false] (L_pqs l c) R:=⟨trivial,fun _ h=>h⟩
theorem c_pdqS (l:List Str) (c:Int) (hi:decide ((1:Int) < ((l.length:Nat):Int))=false) (hn:decide (((l.length:Nat):Int)≤12)=true) (hs:IntKind.i64.wrap (((l.length:Nat):Int) - 0)=((l.length:Nat):Int)):∃ (r:List Str),r=l∧zaa E0 S.slices_pdqsortOrdered_string [.own 0 l.length,iv 0,iv (l.length:Nat),iv c] [.row Ty.string (l.map fun s=>[sv s]) false] (.tup []) [.row Ty.string (r.map fun s=>[sv s]) false]:=by
 obtain ⟨q1,g1⟩:=zcc l (c)
 exact ⟨l,(by rfl),wkc At.slices_pdqsortOrdered_string [] [0,1,2,3,8,9] 1 kr (g1 _ (zab (wkr [si hs,sb hn,sl [0] (zcD l (by first|assumption|omega|(simp;done)|(simp;omega)))] kr)))⟩
theorem len_w1 {l:List Str} (h:l.length≤1):∃ r:Int,zaa E0 S.math_bits_Len [.v (.int .u64 (IntKind.u64.wrap ((l.length:Nat):Int)))] [] (iv r) []:=by
 rw [wrapU,show ((l.length:Nat):Int) % 18446744073709551616=((l.length:Nat):Int) by omega]
 exact zib l.length (by omega)
theorem zdB (l:List Str) (c:Int) (hl:l.length≤1):zaa E0 S.slices_pdqsortOrdered_string [.own 0 l.length,iv 0,iv (l.length:Nat),iv c] [.row Ty.string (l.map fun s=>[sv s]) false] (.tup []) [.row Ty.string (l.map fun s=>[sv s]) false]:=by
 obtain ⟨r,rfl,h⟩:=c_pdqS l c (by simp;omega) (by simp;omega) (by rw [IntKind.wrap_i64];omega)
 exact h
theorem znP (l:List Str) (hl:l.length≤1) (hb:∃ r:Int,zaa E0 S.math_bits_Len [.v (.int .u64 (IntKind.u64.wrap ((l.length:Nat):Int)))] [] (iv r) []):∃ (r:List Str),r=l∧zaa E0 S.slices_Sort_string [.own 0 l.length] [.row Ty.string (l.map fun s=>[sv s]) false] (.tup []) [.row Ty.string (r.map fun s=>[sv s]) false]:=by
 obtain ⟨r1,c1⟩:=hb
 exact ⟨l,(by rfl),wkE At.slices_Sort_string [sqx (l.length=(List.map (fun s=>[sv s]) l).length),si (e:=IntKind.u64.wrap (l.length:Int)) rfl,sc c1,sl [0] (zdB l r1 (by first|assumption|omega|(simp;done)|(simp;omega)))] kr⟩
theorem zdN (l:List Str) (hl:l.length≤1):zaa E0 S.slices_Sort_string [.own 0 l.length] [.row Ty.string (l.map fun s=>[sv s]) false] (.tup []) [.row Ty.string (l.map fun s=>[sv s]) false]:=by
 obtain ⟨r,rfl,h⟩:=znP l hl (len_w1 hl)
 exact h
theorem zo3 (l:List Str) (hl:decide ((((l.map fun s=>[sv s]).length:Nat):Int) < 2)=true):∃ (r:List Str),r=l∧zaa E0 S.slices_Compact_string [ssl l] [] (ssl r) []:=by
 exact ⟨l,(by rfl),wk At.slices_Compact_string [sb hl] kr⟩
theorem zcS (l:List Str) (hl:l.length≤1):zaa E0 S.slices_Compact_string [ssl l] [] (ssl l) []:=by
 obtain ⟨r,rfl,h⟩:=zo3 l (by simp;omega)
 exact h
end Go.AM
namespace Go.AM
set_option maxRecDepth 100000
set_option maxHeartbeats 1000000
set_option linter.unusedSimpArgs false
set_option linter.unusedVariables false
theorem zfI {p:Prop} (h:p:=by first|assumption|omega|(simp;done)|(simp;omega)):p:=h
abbrev tab1:Tb:=⟨⟨⟨#[116]⟩,[⟨⟨#[105,100]⟩,1,true,true⟩,⟨⟨#[110]⟩,1,false,false⟩,⟨⟨#[98]⟩,2,false,false⟩,⟨⟨#[115]⟩,3,false,false⟩]⟩,1,[]⟩
abbrev tab2:Tb:=⟨⟨⟨#[117]⟩,[⟨⟨#[105,100]⟩,1,true,true⟩,⟨⟨#[110]⟩,1,true,false⟩,⟨⟨#[109]⟩,1,false,false⟩]⟩,1,[]⟩
theorem zlJ:ElAt (List.map Tb.cells zar) (((0+1:Nat)):Int) tab1.cells 4:=⟨by decide,rfl,rfl⟩
theorem zlB:ElAt (List.map Tb.cells zar) (((0+1+1:Nat)):Int) tab2.cells 4:=⟨by decide,rfl,rfl⟩
noncomputable def L_kyd (wh:List X) (ts:List Tg) (out:List Str) (i:Nat):Cfg:=zaq B.commute_Keyed 0 [(1,.sl (ts.map Tg.cells)),(2,tsl zar),(3,.p 0 0),(7,.own 1 out.length),(17,tsl zar),(18,iv 3),(19,iv (i:Nat))] [.box (tgW wh).cells,.row Ty.string (out.map fun s=>[sv s]) false]
theorem zay (wh:List X) (ts:List Tg) (out:List Str) (i:Nat):True∧∀ R,Good E0 B.commute_Keyed [] (L_kyd wh ts out i) R→Good E0 B.commute_Keyed [] (L_kyd wh ts out i) R:=⟨trivial,fun _ h=>h⟩
theorem znm (wh:List X) (ts:List Tg) (h7:zaa E0 S.commute_keyed [(tgW wh).av,.sl (ts.map Tg.cells),tsl zar,sv zjR] [] (bv false) []) (h8:zaa E0 S.commute_keyed [(tgW wh).av,.sl (ts.map Tg.cells),tsl zar,sv sT1] [] (bv false) []) (h9:zaa E0 S.commute_keyed [(tgW wh).av,.sl (ts.map Tg.cells),tsl zar,sv sUu] [] (bv true) []):∃ (r:List Str),r=[sUu]∧zaa E0 S.commute_Keyed [(tgW wh).av,.sl (ts.map Tg.cells),tsl zar] [] (ssl r) []:=by
 obtain ⟨q1,g1⟩:=zay ((acW wh).wh) ts ([]) (0)
 obtain ⟨q2,g2⟩:=zay ((acW (acW wh).wh).wh) ts ([]) (0+1)
 obtain ⟨q3,g3⟩:=zay ((acW (acW (acW wh).wh).wh).wh) ts ([]) (0+1+1)
 obtain ⟨q4,g4⟩:=zay ((acW (acW (acW (acW wh).wh).wh).wh).wh) ts ([tab2.sch.name]) (0+1+1+1)
 exact ⟨[tab2.sch.name],(by rfl),wkcN At.commute_Keyed [sg (rfl:false=false),sb (rfl:false=false)] [1,2,3,7,17,18,19] 1 [(.ot 7 Ty.string,2)] kr (g1 _ (zab (wkl [sb (rfl:true=true),se (zmT zar zfI),sc h7,sb (rfl:false=false),si (zaL (t:=(↑0:Int)+1) (n:=0+1) (by omega) (by omega))] [1,2,3,7,17,18,19] 2 kr (g2 _ (zab (wkl [sb (rfl:true=true),se (zlJ ),sc h8,sb (rfl:false=false),si (zaL (t:=(↑(0+1):Int)+1) (n:=0+1+1) (by omega) (by omega))] [1,2,3,7,17,18,19] 2 kr (g3 _ (zab (wkl [sb (rfl:true=true),se (zlB ),sc h9,sb (rfl:true=true),sqx (AllLen [[sv tab2.sch.name]] 1∧0=0∧Nat.le 16 140737488355328),si (zaL (t:=(↑(0+1+1):Int)+1) (n:=0+1+1+1) (by omega) (by omega))] [1,2,3,7,17,18,19] 2 kr (g4 _ (zab (wkrS (y:=AV.sl [[sv tab2.sch.name]]) (H:=[]) [sb (rfl:false=false),sl [1] (zdN ([tab2.sch.name]) zfI),skx (1=1∧True) [] (zcS ([tab2.sch.name]) zfI)] kr ⟨by first|rfl|(simp;done)|(simp [X.cells,Qy.cells,V.cells,Col.cells,Rw.cells,Tb.cells,Fr.cells,Sch.cells,Tp.cells,Pl.cells,Acc.cells,Ac.cells,Se.cells];done),by first|rfl|(simp;done)|(simp [X.cells,Qy.cells,V.cells,Col.cells,Rw.cells,Tb.cells,Fr.cells,Sch.cells,Tp.cells,Pl.cells,Acc.cells,Ac.cells,Se.cells];done)⟩))))))))))))⟩
theorem c_KydN (wh:List X) (ts:List Tg) (h7:zaa E0 S.commute_keyed [(tgW wh).av,.sl (ts.map Tg.cells),tsl zar,sv zjR] [] (bv false) []) (h8:zaa E0 S.commute_keyed [(tgW wh).av,.sl (ts.map Tg.cells),tsl zar,sv sT1] [] (bv false) []) (h9:zaa E0 S.commute_keyed [(tgW wh).av,.sl (ts.map Tg.cells),tsl zar,sv sUu] [] (bv false) []):∃ (r:List Str),r=[]∧zaa E0 S.commute_Keyed [(tgW wh).av,.sl (ts.map Tg.cells),tsl zar] [] (ssl r) []:=by
 obtain ⟨q1,g1⟩:=zay ((acW wh).wh) ts ([]) (0)
 obtain ⟨q2,g2⟩:=zay ((acW (acW wh).wh).wh) ts ([]) (0+1)
 obtain ⟨q3,g3⟩:=zay ((acW (acW (acW wh).wh).wh).wh) ts ([]) (0+1+1)
 obtain ⟨q4,g4⟩:=zay ((acW (acW (acW (acW wh).wh).wh).wh).wh) ts ([]) (0+1+1+1)
 exact ⟨[],(by rfl),wkcN At.commute_Keyed [sg (rfl:false=false),sb (rfl:false=false)] [1,2,3,7,17,18,19] 1 [(.ot 7 Ty.string,2)] kr (g1 _ (zab (wkl [sb (rfl:true=true),se (zmT zar zfI),sc h7,sb (rfl:false=false),si (zaL (t:=(↑0:Int)+1) (n:=0+1) (by omega) (by omega))] [1,2,3,7,17,18,19] 2 kr (g2 _ (zab (wkl [sb (rfl:true=true),se (zlJ ),sc h8,sb (rfl:false=false),si (zaL (t:=(↑(0+1):Int)+1) (n:=0+1+1) (by omega) (by omega))] [1,2,3,7,17,18,19] 2 kr (g3 _ (zab (wkl [sb (rfl:true=true),se (zlB ),sc h9,sb (rfl:false=false),si (zaL (t:=(↑(0+1+1):Int)+1) (n:=0+1+1+1) (by omega) (by omega))] [1,2,3,7,17,18,19] 2 kr (g4 _ (zab (wkr [sb (rfl:false=false),sl [1] (zdN ([]) zfI),skx (0=0∧True) [] (zcS ([]) zfI)] kr))))))))))))⟩
end Go.AM
namespace Go.AM
set_option maxRecDepth 100000
set_option maxHeartbeats 1000000
theorem xsh_up {t n:Str} (h:XSh 1 (xCol t n)):XSh 2 (xCol t n):=⟨⟨by simp [zac,xCol],by simp [zac,xCol]⟩,by simp [xCol],by simp [xCol]⟩
theorem zj2 {wh:List X} (hw:ActW wh):TgSh 2 (tgW wh):=by
 refine ⟨by simp [zac],by simp [zac],by simp [zac],by simp [zac],by simp [zac],by simp,by simp [zac],?_⟩
 intro a ha
 simp only [List.mem_singleton] at ha
 subst ha
 refine ⟨by simp [zac],by simp,by simp [zac],by simp,by simp [zac],?_,hw.sh,hw.xs⟩
 intro s hs
 simp only [List.mem_singleton] at hs
 subst hs
 exact xsh_up (zhs _ _)
abbrev zai:Acc:=⟨sUu,⟨#[]⟩,5⟩
abbrev aKey:Acc:=⟨sUu,sId2,1⟩
abbrev aCol:Acc:=⟨sUu,⟨#[109]⟩,2⟩
theorem fp_x:zbP zar [exW] (frW zar [exW]) []=[zai,aKey,aCol]:=by kernel_rfl
theorem fp_y:zbP zar [] (frW zar []) []=[zai,aCol]:=by kernel_rfl
theorem frB_W (wh:List X):FrB 3 (frW zar wh):=by
 have e:(frW zar wh).length=2:=by show _=_;kernel_rfl
 refine ⟨by rw [e];decide,?_⟩
 have e2:frW zar wh=[⟨⟨#[79,76,68]⟩,true,(zag zar ⟨#[116]⟩).1.cols,[]⟩,⟨⟨#[78,69,87]⟩,true,(zag zar ⟨#[116]⟩).1.cols,[]⟩]:=by kernel_rfl
 rw [e2]
 intro f hf
 have hs:=zc9.col.src ⟨#[116]⟩
 simp only [List.mem_cons,List.not_mem_nil,or_false] at hf
 rcases hf with rfl|rfl <;> exact hs
end Go.AM
namespace Go.AM
open Go.RowKit
set_option linter.unusedSimpArgs false
set_option linter.unusedVariables false
theorem zk4 {e:TypeId} {xs:List (List AV)} {n1:Nat} (hxs:∀ c∈xs,∀ x∈c,∃ v,x=.v v) {E:Env0} {fn:Func} {h0:Heap} {all r:List Oper} {o:Oper} {k:List It} {n:Nat} {ts:TS} {t kt et:TypeId} {tm b d:Nat} {es:List (AV × AV)} (live:List Nat) (hop:o.op=.range t (.tmp tm)) (hgd:o.guard=none) (hd:o.dst=some d) (hdn:d < n)
  (ht:E.P.underlying t=some (.map kt et)) (hm:look ts tm=.mp b) (hb:h0[b]?=some (.mp es))
  (H:∀ gm gi,zaR E fn [] [gm,gi] (ItF gm gi es none) ⟨n,.ops all r::k,(d,.v (.pointer (some ⟨gi,0,none⟩)))::mask live 0 ts,[]⟩ (fun y h=>y=.own 0 n1∧h=[.row e xs false])):Good E fn h0 ⟨n,.ops all (o::r)::k,ts,h0⟩ (fun y h=>y=.own h0.length n1∧h=h0++[.row e xs false]):=by
 intro β0 S0 w0 β S w tmps hβ hn x0 r0 rt
 simp only at hn x0 r0 rt
 obtain ⟨gm,c1,L,ents,c2,c3,c4,c5⟩:=r0.mp b es hb
 have hmv:=rt tm
 rw [hm] at hmv
 generalize hev:tmps.getD tm undef=mv at hmv
 cases hmv with
 | d _ _ hd=>cases hd
 | mp _ g' c1' =>
 rw [c1] at c1'
 cases c1'
 have hgl:gm < w.heap.size:=r0.lt b _ gm c1 rfl
 have hbl:BelowD w.heap.size w (w.alloc (.mapIter (some gm) L.length #[] L.length)):=(BelowD.refl _ _).alloc (Nat.le_refl _) _
 have x1:Ext h0 β S w h0 β S (w.alloc (.mapIter (some gm) L.length #[] L.length)):=Ext.grow r0 hbl (fun _ h=>h) (fun _ h=>.inl h)
 have r1:Rel E h0 β S (w.alloc (.mapIter (some gm) L.length #[] L.length)):=r0.grow hbl (fun _ h=>h) (fun _ h=>.inl h)
 have rz:Rel E [] [] S w:=(r0.first 0).1
 obtain ⟨r2,hv2⟩:=r1.first 0
 have hno:∀ a,S a→a.block≠gm:=by
  intro a ha hag
  obtain ⟨e,xs,h1,_⟩:=r0.free b _ gm a c1 rfl ha hag
  rw [hb] at h1
  cases h1
 simp only [kont,Exit.then]
 refine wpList_step fun K hK=>?_
 show wpG E.P all.toArray o ⟨tmps,[]⟩ w K _
 unfold wpG
 rw [if_pos (by simp [Region.wanted,hgd])]
 unfold Oper.wp
 have hrun:(execOp (Act.eval ⟨tmps,[]⟩) o).run E.P w=.ok (.value (.pointer (some ⟨w.heap.size,0,none⟩))) (w.alloc (.mapIter (some gm) L.length #[] L.length)):=by
  simp only [execOp,hop,Act.eval,hev,run_range_map w t kt et gm ents L.length ht c3,Sem.run_bind,Result.andThen_ok,Sem.run_pure]
 rw [hrun,Oper.upon_value,za4]
 refine hK _ _ ?_
 have rt2:zam E.T [] [] (w.alloc (.mapIter (some gm) L.length #[] L.length)) S (mask live 0 ts) tmps:=fun q=>by
  rcases zfp 0 ts live q with h1|h1
  ·rw [h1];exact .d _ _ (.un _)
  ·rw [h1];exact hv2 _ _ ((rt q).ext x1)
 have rt3:=rt2.put (d:=some d) (x:=.v (.pointer (some ⟨w.heap.size,0,none⟩))) (y:=.pointer (some ⟨w.heap.size,0,none⟩)) (by simp only [zat];exact Nat.ble_eq_true_of_le (by rw [hn];exact hdn)) (.d _ _ (.v _ rfl))
 have hsz:(w.alloc (.mapIter (some gm) L.length #[] L.length)).heap.size=w.heap.size+1:=by
  show (w.heap.push _).size=_
  simp
 have hfor:Foreign [gm,w.heap.size] [] S w (w.alloc (.mapIter (some gm) L.length #[] L.length)):=by
  refine ⟨fun g hg=>?_,fun g hg=>?_,fun g hg b' k' hb' hk'=>by simp at hb',fun g hg a ha=>?_⟩
  ·simp only [List.tail_cons,List.mem_singleton] at hg;subst hg;exact Nat.le_refl _
  ·rw [hsz]
   rcases List.mem_cons.1 hg with rfl|hg
   ·omega
   ·simp only [List.mem_singleton] at hg;omega
  ·rcases List.mem_cons.1 hg with rfl|hg
   ·exact hno a ha
   ·simp only [List.mem_singleton] at hg
    have:=r0.stable a ha
    omega
 have hit:ItF gm w.heap.size es none S (w.alloc (.mapIter (some gm) L.length #[] L.length)):=by
  refine ⟨L,ents,#[],L.length,(hbl.block gm hgl).trans c3,c4,fun i k x hi=>?_,heap_alloc_new w _,Nat.le_refl _,by rw [zmm];exact c2.symm,by simp⟩
  obtain ⟨kv,xv,a1,a2,a3⟩:=c5 i k x hi
  exact ⟨kv,xv,a1,a2.mono (fun _ h=>h) x1.S_cell,a3.mono (fun _ h=>h) x1.S_cell⟩
 have hG:=H gm w.heap.size [] S w [] S _ _ rfl (by rw [zbu];exact hn) (Ext.grow rz hbl (fun _ h=>h) (fun _ h=>.inl h)) r2 rt3 hfor hit
 have h9:=zbZ (zgw (R':=Post E h0 β0 S0 w0 (fun y h=>y=.own h0.length n1∧h=h0++[.row e xs false])) fun en w' hp=>by
  obtain ⟨y,h',β',S',v,he,⟨rfl,rfl⟩,r',x',hv⟩:=hp
  obtain ⟨kk,kk1,hrow⟩:=r'.row 0 e xs false rfl
  have hb':BelowD w.heap.size w w':=⟨⟨x'.os,x'.tape,x'.output,x'.size,fun g hg=>x'.keep g hg (by simp)⟩,x'.drawn⟩
  have hkk:∀ g,kk.blk=some g→w.heap.size≤g∧g < w'.heap.size:=fun g hg=>⟨by
   rcases x'.new 0 kk g kk1 hg with ⟨b',k',h1,_⟩|h1
   ·simp at h1
   ·exact h1,r'.lt 0 kk g kk1 hg⟩
  have hrow2:zcl E.T w' S e xs kk:=by
   cases kk with
   | box _=>exact hrow.elim
   | mp _=>exact hrow.elim
   | nil a=>exact hrow
   | row g cap =>
    obtain ⟨cs,q1,q2,q3,q4,q5,q6,q7⟩:=hrow
    refine ⟨cs,q1,q2,q3,q4,q5,q6,fun i j c x hi hj=>?_⟩
    obtain ⟨y,y1,y2,y3⟩:=q7 i j c x hi hj
    obtain ⟨v0,rfl⟩:=hxs c (List.mem_of_getElem? hi) x (List.mem_of_getElem? hj)
    cases y2 with
    | v _ hv0=>exact ⟨_,y1,.v _ hv0,y3⟩
  obtain ⟨xG,rG⟩:=r0.newRow e xs false kk hb' hkk hrow2
  have hown:RelV E.T (h0++[Blk.row e xs false]) (β++[kk]) w' S (.own h0.length n1) v:=by
   cases hv with
   | d _ _ hd=>cases hd
   | own b n y e' xs' sh c1 c2 c3 c4 =>
    simp only [List.getElem?_cons_zero,Option.some.injEq,Blk.row.injEq] at c1
    obtain ⟨rfl,rfl,rfl⟩:=c1
    refine .own _ _ _ e xs false (getElem?_append_new _ _) c2 (fun h1=>?_) c4
    rw [← r0.len,getElem?_append_new]
    have:=c3 h1
    rw [kk1] at this
    exact this
  exact ⟨_,_,_,S,v,he,⟨rfl,rfl⟩,rG,x0.trans xG,hown⟩) _ _ _ _ hG
 simp only [kont,Exit.then] at h9
 rw [hd]
 exact h9
theorem wkRlLO {e:TypeId} {xs:List (List AV)} {n1:Nat} (hxs:∀ c∈xs,∀ x∈c,∃ v,x=.v v) {fn:Func} {h0:Heap} {c:Cfg} {t kt et:TypeId} {es:List (AV × AV)} (l:List St) (live:List Nat) (b:Nat) (hu:zkV c (orcs l) b=some (zaB l,t,es,h0)) (ht:E0.P.underlying t=some (.map kt et))
  (hg:∀ gm gi,zaR E0 fn [] [gm,gi] (ItF gm gi es none) (zmc c (orcs l) live gi) (fun y h=>y=.own 0 n1∧h=[.row e xs false])):Good E0 fn h0 c (fun y h=>y=.own h0.length n1∧h=h0++[.row e xs false]):=by
 unfold zkV at hu
 unfold zmc at hg
 split at hu
 ·rename_i q n all o r k ts h os' hrun
  split at hu
  ·rename_i t' tm d hop hgd hd
   split at hu
   ·rename_i b' hm hdn
    split at hu
    ·rename_i es' hbb hb
     simp only [Option.some.injEq,Prod.mk.injEq] at hu
     obtain ⟨rfl,rfl,rfl,rfl⟩:=hu
     have:=Nat.eq_of_beq_eq_true hbb
     subst this
     refine zeh E0ok mix0 3000 c (orcs l) (by rw [hrun];exact zaw l) ?_
     rw [hrun]
     refine zk4 hxs live hop hgd hd (Nat.le_of_ble_eq_true hdn) ht hm hb fun gm gi=>?_
     have:=hg gm gi
     rw [hrun] at this
     simp only [hd,Option.getD_some] at this
     exact this
    ·cases hu
   ·cases hu
  ·cases hu
 ·cases hu
theorem wkRLO {e:TypeId} {xs:List (List AV)} {n1:Nat} (hxs:∀ c∈xs,∀ x∈c,∃ v,x=.v v) {f:FuncId} {fn:Func} {args:List AV} {h:Heap} {kt et:TypeId} {es:List (AV × AV)} (t:TypeId) (hf:E0.P.funcs[f]?=some fn) (l:List St) (live:List Nat) (b:Nat) (hok:fnOk fn args=true) (hu:zkV (zhp fn args h) (orcs l) b=some (zaB l,t,es,h)) (ht:E0.P.underlying t=some (.map kt et))
  (hg:∀ gm gi,zaR E0 fn [] [gm,gi] (ItF gm gi es none) (zmc (zhp fn args h) (orcs l) live gi) (fun y h=>y=.own 0 n1∧h=[.row e xs false])):zaa E0 f args h (.own h.length n1) (h++[.row e xs false]):=by
 simp only [fnOk,Bool.and_eq_true,Bool.not_eq_true',Option.isSome_iff_exists] at hok
 obtain ⟨⟨⟨c,hb⟩,hn⟩,ha⟩:=hok
 have h1:=wkRlLO hxs l live b hu ht hg
 have:zhp fn args h=⟨fn.ntmps,[.code c],zbg 0 args,h⟩:=by simp [zhp,hb]
 rw [this] at h1
 exact zax hf hb hn (Nat.le_of_ble_eq_true ha) h1
end Go.AM
namespace Go.AM
set_option maxRecDepth 100000
set_option maxHeartbeats 1000000
set_option linter.unusedSimpArgs false
set_option linter.unusedVariables false
theorem zmv {ks:List Acc} (hks:AccS ks):∀ (n:Nat) (L o:List Acc) (cur:Option (AV × AV)) (gm gi:Nat),L.length=n→o.length+L.length≤1000000000→(o++L).Perm ks→zaR E0 B.footprint_collector_list [] [gm,gi] (ItF gm gi (L.map itA) cur) (zgM gi o) (fun r h=>r=.own 0 ks.length∧h=[.row Ty.Access (ks.map Acc.cells) false]):=by
 intro n
 induction n with
 | zero =>
  intro L o cur gm gi hL hlen hp
  cases L with
  | cons _ _=>simp at hL
  | nil =>
   rw [List.append_nil] at hp
   have e:=zo9 hks hp
   have e3:ks.length=o.length:=hp.length_eq.symm
   have hc:=zeN o (by simpa using hlen)
   refine zgJ (wkN [] kr (fun _=>znQ ?_) (fun j kx x hj=>by simp at hj))
   rw [e3,← e]
   exact wkrK [sl [0] hc] kr
 | succ n ih =>
  intro L o cur gm gi hL hlen hp
  refine zgJ (wkN [] kr (fun h0=>?_) (fun j kx x hj=>?_))
  ·cases L with
   | nil=>simp at hL
   | cons _ _=>simp at h0
  ·obtain ⟨a,ha,rfl,rfl⟩:=at_itA hj
   have hj2:j < L.length:=(List.getElem?_eq_some_iff.1 ha).1
   have hle:(L.eraseIdx j).length=n:=by rw [List.length_eraseIdx,if_pos hj2];omega
   have me:(L.map itA).eraseIdx j=(L.eraseIdx j).map itA:=by
    clear hp ih hL hlen hle hj ha hj2
    induction L generalizing j with
    | nil=>rfl
    | cons b l ihl=>cases j with
     | zero=>rfl
     | succ j=>simp [ihl]
   rw [me]
   have hp2:((o++[a])++L.eraseIdx j).Perm ks:=by
    have h1:=zgl L j a ha
    rw [List.append_assoc]
    exact (List.Perm.append_left o h1.symm).trans hp
   have ih:=ih (L.eraseIdx j) (o++[a]) (some (a.av,bv true)) gm gi hle (by simp;omega) hp2
   refine wkE2 [] kr ?_
   show zaR E0 B.footprint_collector_list [] [gm,gi] _ (zoN gi o a) _
   rw [← zmP] at ih
   exact wkFl [sqx (AllLen [a.cells] 3∧o.length=(List.map Acc.cells o).length∧(((List.map Acc.cells o).length+[a.cells].length) * 40).le 140737488355328) ⟨⟨fun c hc=>by simp only [List.mem_singleton] at hc;subst hc;rfl⟩,by simp,by show ((List.map Acc.cells o).length+1) * 40≤140737488355328;rw [List.length_map];omega⟩] [9,3] 1 kr ih
theorem accV (ks:List Acc):∀ c∈ks.map Acc.cells,∀ x∈c,∃ v,x=.v v:=by
 intro c hc x hx
 obtain ⟨a,_,rfl⟩:=List.mem_map.1 hc
 simp only [Acc.cells,List.mem_cons,List.not_mem_nil,or_false] at hx
 rcases hx with rfl|rfl|rfl <;> exact ⟨_,rfl⟩
theorem zdr (tbs:AV) (ks:List Acc) (hks:AccS ks) (hl:ks.length≤1000000000):zaa E0 S.footprint_collector_list [.p 0 0] [.box [tbs,.mp 1],.mp (ks.map itA)] (.own 2 ks.length) [.box [tbs,.mp 1],.mp (ks.map itA),.row Ty.Access (ks.map Acc.cells) false]:=by
 refine wkRLO (accV ks) (f:=S.footprint_collector_list) (fn:=B.footprint_collector_list) (args:=[.p 0 0]) (h:=[.box [tbs,.mp 1],.mp (ks.map itA)]) (kt:=Ty.Access) (et:=Ty.bool) (es:=ks.map itA) Ty.M_Access_bool At.footprint_collector_list [] [3] 1 kr kr kr (fun gm gi=>?_)
 refine wkFl (c':=zaq B.footprint_collector_list 0 [(9,itp gi),(3,.nl)] []) [] [9,3] 0 kr ?_
 refine zkx 3 Ty.Access [9,3] 1 kr kr (show _=zgM gi [] from by kernel_rfl) ?_
 exact zmv hks ks.length ks [] none gm gi rfl (by simpa using hl) (by simp)
end Go.AM
