/-
  Contracts of the program's functions, part 4.
-/
import Derived.Test.YtoanpmnofigncaaGreatDoorAbD
import Derived.Laws.IdiomRangeMap
import Derived.Maps.RangeRun
import Derived.Lib.Strings
set_option maxRecDepth 100000
set_option maxHeartbeats 40000000
set_option linter.unusedSimpArgs false
set_option linter.unusedVariables false
namespace Go.AM
open Go.RowKit
def zrk (E:Env0) (h0:Heap) (β0:List Con) (S0:Addr->Prop) (w0:World) (fn:Func) (RR:Ending->World->Prop) (c:Cfg):Prop :=
 ∀ (β:List Con) (S:Addr->Prop) (w:World) (tmps:Array Value),tmps.size=c.n->Ext h0 β0 S0 w0 c.h β S w->Rel E c.h β S w->zaA E.T c.h β w S c.ts tmps->kont E.P c.todo (bodyPost E.P fn RR) .normal ⟨tmps,[]⟩ w
theorem ztI {E:Env0} (ht:zaD E) (hm:E.P.follows .mixedOrders=true) {h0:Heap} {β0:List Con} {S0:Addr->Prop} {w0:World} {fn:Func} {RR:Ending->World->Prop} {c c':Cfg} {os os':List Orc} {q:Option Prop} (hs:step (mk E) c os=some (q,c',os')) (hq:zan q) (hg:zrk E h0 β0 S0 w0 fn RR c'):zrk E h0 β0 S0 w0 fn RR c:=by
 intro β S w tmps hn x0 r rt
 obtain ⟨n,todo,ts,h⟩:=c
 simp only at hn x0 r rt ⊢
 unfold step at hs
 simp only at hs
 cases todo with
 | nil=>cases hs
 | cons it k =>
  cases it with
  | blk id =>
   simp only [Option.some.injEq,Prod.mk.injEq] at hs
   obtain ⟨_,rfl,_⟩:=hs
   exact hg β S w tmps hn x0 r rt
  | lp cc=>cases hs
  | ops all rest =>
   cases rest with
   | nil =>
    simp only [Option.some.injEq,Prod.mk.injEq] at hs
    obtain ⟨_,rfl,_⟩:=hs
    exact hg β S w tmps hn x0 r rt
   | cons o rest =>
    simp only at hs
    split at hs
    ·rename_i x hdst hx
     simp only [Option.some.injEq,Prod.mk.injEq] at hs
     obtain ⟨rfl,rfl,_⟩:=hs
     have hd:zaL tmps.size o.dst=true:=by rw [hn];exact hdst
     simp only [kont,Exit.then]
     refine wpList_step fun K hK=>?_
     have:=ztH (Q:=kont E.P k (bodyPost E.P fn RR)) (K:=K) ht r rt hd hx hq ⟨fun β' S' w' tmps' hsz r' e' rt'=>hK _ _ ?_⟩
     ·exact this
     ·have:=hg β' S' w' tmps' (by rw [hsz];exact hn) (x0.trans e') r' rt'
      simp only [kont,Exit.then] at this
      exact this
    ·cases hs
  | code cc =>
   simp only [kont,Exit.then]
   cases cc with
   | skip =>
    simp only [Option.some.injEq,Prod.mk.injEq] at hs
    obtain ⟨_,rfl,_⟩:=hs
    exact wp_skip (hg β S w tmps hn x0 r rt)
   | label l =>
    simp only [Option.some.injEq,Prod.mk.injEq] at hs
    obtain ⟨_,rfl,_⟩:=hs
    exact wp_label (hg β S w tmps hn x0 r rt)
   | scope a =>
    simp only [Option.some.injEq,Prod.mk.injEq] at hs
    obtain ⟨_,rfl,_⟩:=hs
    refine wp_scope_straight (wp_mono (hg β S w tmps hn x0 r rt) fun e a w he=>?_)
    cases e with
    | goto l=>exact ze2 k l a w he
    | _=>exact he
   | loop a =>
    simp only [Option.some.injEq,Prod.mk.injEq] at hs
    obtain ⟨_,rfl,_⟩:=hs
    exact zpx (hg β S w tmps hn x0 r rt)
   | seq a b =>
    simp only [Option.some.injEq,Prod.mk.injEq] at hs
    obtain ⟨_,rfl,_⟩:=hs
    refine wp_seq (wp_mono (hg β S w tmps hn x0 r rt) fun e a w he=>?_)
    cases e <;> exact he
   | block id a =>
    simp only [Option.some.injEq,Prod.mk.injEq] at hs
    obtain ⟨_,rfl,_⟩:=hs
    refine wp_block (wp_mono (hg β S w tmps hn x0 r rt) fun e a w he=>?_)
    cases e <;> exact he
   | region id ops draw =>
    cases draw with
    | true =>
     simp only at hs
     split at hs
     ·rename_i l os1
      split at hs
      ·rename_i qs ts1 h1 hlv hsz
       simp only [Option.some.injEq,Prod.mk.injEq] at hs
       obtain ⟨rfl,rfl,_⟩:=hs
       simp only [zan] at hq
       exact zvv ht hm (Nat.eq_of_beq_eq_true hsz) hlv hq hn x0 r rt (fun β' S' w' tmps' hn' x' r' rt'=>hg β' S' w' tmps' hn' x' r' rt')
      ·cases hs
     ·cases hs
    | false =>
     simp only [Option.some.injEq,Prod.mk.injEq] at hs
     obtain ⟨_,rfl,_⟩:=hs
     have:=hg β S w tmps hn x0 r rt
     simp only [kont,Exit.then] at this
     exact wp_region_list this
   | exit id =>
    simp only at hs
    split at hs
    ·rename_i k' hk
     simp only [Option.some.injEq,Prod.mk.injEq] at hs
     obtain ⟨_,rfl,_⟩:=hs
     exact wp_exit (zeU k k' _ _ hk (hg β S w tmps hn x0 r rt))
    ·cases hs
   | cond x a b =>
    have hx:=zaO (ds:=[]) r rt x
    have lit:∀ bb,Act.eval ⟨tmps,[]⟩ x=.bool bb->zaA E.T h β w S (zry ts bb x) tmps:=by
     intro bb he
     cases x with
     | tmp d=>exact rt.lit he
     | _=>exact rt
    simp only at hs
    split at hs
    ·rename_i he
     simp only [mk_G] at he
     rw [he] at hx
     simp only [Option.some.injEq,Prod.mk.injEq] at hs
     obtain ⟨_,rfl,_⟩:=hs
     exact wp_cond_true hx.bl_inv (hg β S w tmps hn x0 r rt)
    ·rename_i he
     simp only [mk_G] at he
     rw [he] at hx
     simp only [Option.some.injEq,Prod.mk.injEq] at hs
     obtain ⟨_,rfl,_⟩:=hs
     exact wp_cond_false hx.bl_inv (hg β S w tmps hn x0 r rt)
    ·rename_i t he
     simp only [mk_G] at he
     rw [he] at hx
     split at hs
     ·simp only [Option.some.injEq,Prod.mk.injEq] at hs
      obtain ⟨rfl,rfl,_⟩:=hs
      simp only [zan] at hq
      subst hq
      exact wp_cond_true hx.v_inv (hg β S w tmps hn x0 r (lit _ hx.v_inv))
     ·simp only [Option.some.injEq,Prod.mk.injEq] at hs
      obtain ⟨rfl,rfl,_⟩:=hs
      simp only [zan] at hq
      subst hq
      exact wp_cond_false hx.v_inv (hg β S w tmps hn x0 r (lit _ hx.v_inv))
     ·cases hs
    ·cases hs
   | _=>cases hs
theorem zp3 {E:Env0} (ht:zaD E) (hm:E.P.follows .mixedOrders=true) {h0:Heap} {β0:List Con} {S0:Addr->Prop} {w0:World} {fn:Func} {RR:Ending->World->Prop}:∀ (n:Nat) (c:Cfg) (os:List Orc),allP (run (mk E) n c os).1->zrk E h0 β0 S0 w0 fn RR (run (mk E) n c os).2.1->zrk E h0 β0 S0 w0 fn RR c
 | 0,c,os,_,hg=>hg
 | n+1,c,os,hq,hg=>by
  unfold run at hq hg
  cases hs:step (mk E) c os with
  | none=>simp only [hs] at hg;exact hg
  | some x =>
   obtain ⟨q,c',os'⟩:=x
   cases q with
   | none =>
    simp only [hs] at hq hg
    exact ztI ht hm hs trivial (zp3 ht hm n c' os' hq hg)
   | some q =>
    simp only [hs] at hq hg
    obtain ⟨h1,h2⟩:=zlD hq
    exact ztI ht hm hs h1 (zp3 ht hm n c' os' h2 hg)
structure Foreign (gs:List Nat) (β:List Con) (S:Addr->Prop) (w0 w:World):Prop where
 new:∀ g∈gs.tail,w0.heap.size<=g
 lt:∀ g∈gs,g < w.heap.size
 apart:∀ g∈gs,∀ (b:Nat) (k:Con),β[b]?=some k->k.blk≠some g
 sep:∀ g∈gs,∀ a,S a->a.block≠g
theorem Foreign.ext {gs:List Nat} {h h':Heap} {β β':List Con} {S S':Addr->Prop} {w0 w w':World} (f:Foreign gs β S w0 w) (x:Ext h β S w h' β' S' w'):Foreign gs β' S' w0 w'/\∀ g∈gs,w'.heap[g]?=w.heap[g]? :=
 ⟨⟨f.new,fun g hg=>Nat.lt_of_lt_of_le (f.lt g hg) x.size,fun g hg b k hb hk=>by
  rcases x.new b k g hb hk with ⟨b',k',h1,h2,_⟩|h1
  ·exact f.apart g hg b' k' h1 h2
  ·have:=f.lt g hg;omega,fun g hg a ha he=>by
  rcases x.S_new a ha with h1|h1|⟨b,k,h1,h2⟩
  ·exact f.sep g hg a h1 he
  ·have:=f.lt g hg;omega
  ·exact f.apart g hg b k h1 (by rw [h2,he])⟩,fun g hg=>x.keep g (f.lt g hg) (f.apart g hg)⟩
def zbT (E:Env0) (fn:Func) (h0:Heap) (gs:List Nat) (F:(Addr->Prop)->World->Prop) (c:Cfg) (R:AV->Heap->Prop):Prop :=
 ∀ (β0:List Con) (S0:Addr->Prop) (w0:World) (β:List Con) (S:Addr->Prop) (w:World) (tmps:Array Value),β0.length=h0.length->tmps.size=c.n->Ext h0 β0 S0 w0 c.h β S w->Rel E c.h β S w->zaA E.T c.h β w S c.ts tmps->Foreign gs β S w0 w->F S w ->
  kont E.P c.todo (bodyPost E.P fn (Post E h0 β0 S0 w0 R)) .normal ⟨tmps,[]⟩ w
def Only (gs:List Nat) (F:(Addr->Prop)->World->Prop):Prop:=∀ (S S':Addr->Prop) (w w':World),(∀ a,S a->S' a)->(∀ a,S a->w'.cell? a=w.cell? a)->(∀ g∈gs,w'.heap[g]?=w.heap[g]?)->F S w->F S' w'
theorem zsL {E:Env0} {fn:Func} {h0:Heap} {gs:List Nat} {F:(Addr->Prop)->World->Prop} {c:Cfg} {R:AV->Heap->Prop} (hg:Good E fn h0 c R):zbT E fn h0 gs F c R :=
 fun β0 S0 w0 β S w tmps hb hn x r rt _ _=>hg β0 S0 w0 β S w tmps hb hn x r rt
theorem zlW {E:Env0} (ht:zaD E) (hm:E.P.follows .mixedOrders=true) {fn:Func} {h0:Heap} {gs:List Nat} {F:(Addr->Prop)->World->Prop} (hF:Only gs F) {R:AV->Heap->Prop} (n:Nat) {c:Cfg} (os:List Orc) (hq:allP (run (mk E) n c os).1) (hg:zbT E fn h0 gs F (run (mk E) n c os).2.1 R):zbT E fn h0 gs F c R :=
 fun β0 S0 w0 β S w tmps hb hn x r rt hf hw=>zp3 ht hm (h0:=c.h) (β0:=β) (S0:=S) (w0:=w) n c os hq (fun β' S' w' tmps' hn' x' r' rt' =>
  hg β0 S0 w0 β' S' w' tmps' hb hn' (x.trans x') r' rt' (hf.ext x').1 (hF S S' w w' x'.S_le x'.S_cell (hf.ext x').2 hw)) β S w tmps hn (Ext.refl _ _ _ _) r rt
theorem zyo {E:Env0} {fn:Func} {R:AV->Heap->Prop} {h0:Heap} {gs:List Nat} {F:(Addr->Prop)->World->Prop} {c:Cfg} (live:List Nat) (m:Nat) (hm:h0.length<=m) (hg:zbT E fn h0 gs F (cut live m c) R):zbT E fn h0 gs F c R:=by
 intro β0 S0 w0 β S w tmps hb0 hn x0 r rt hf hw
 obtain ⟨r1,hv⟩:=r.first m
 refine hg β0 S0 w0 (β.take m) S w tmps hb0 hn (x0.first r hm hb0) r1 (fun t=>?_) ⟨hf.new,hf.lt,fun g hg b k hb=>?_,hf.sep⟩ hw
 ·rcases ziO m c.ts live t with h1|h1
  ·simp only [cut];rw [h1];exact .d _ _ (.un _)
  ·simp only [cut];rw [h1];exact hv _ _ (rt t)
 ·rw [List.getElem?_take] at hb
  split at hb
  ·exact hf.apart g hg b k hb
  ·cases hb
theorem zzS {E:Env0} (ht:zaD E) (hmix:E.P.follows .mixedOrders=true) {fn:Func} {R:AV->Heap->Prop} {h0:Heap} {gs:List Nat} {F:(Addr->Prop)->World->Prop} (hF:Only gs F) {c c':Cfg} (n:Nat) (os:List Orc) (live:List Nat) (m:Nat) {q:List Prop}
  (hm:Nat.ble h0.length m=true) (hq0:(run (mk E) n c os).1=q) (hc:cut live m (run (mk E) n c os).2.1=c') (hq:allP q) (hg:zbT E fn h0 gs F c' R):zbT E fn h0 gs F c R:=by
 subst hq0
 subst hc
 exact zlW ht hmix hF n os hq (zyo live m (Nat.le_of_ble_eq_true hm) hg)
structure Touch (g:Nat) (w w':World):Prop where
 os:w'.os=w.os
 tape:w'.tape=w.tape
 drawn:w.drawn<=w'.drawn
 output:w'.output=w.output
 size:w'.heap.size=w.heap.size
 other:∀ b,b≠g->w'.heap[b]?=w.heap[b]?
theorem Touch.cell {g:Nat} {w w':World} (t:Touch g w w') {a:Addr} (ha:a.block≠g):w'.cell? a=w.cell? a:=World.cell?_of_block (t.other a.block ha)
theorem Ext.touch {h0 h:Heap} {β0 β:List Con} {S0 S:Addr->Prop} {w0 w w':World} {gs:List Nat} {g:Nat} (x:Ext h0 β0 S0 w0 h β S w) (t:Touch g w w') (f:Foreign gs β S w0 w) (hg:g∈gs) (hgt:g∈gs.tail):Ext h0 β0 S0 w0 h β S w' where
 box:=x.box
 con:=x.con
 row:=x.row
 mp:=x.mp
 conm:=x.conm
 S_le:=x.S_le
 S_cell:=fun a ha=>(t.cell (f.sep g hg a (x.S_le a ha))).trans (x.S_cell a ha)
 S_new:=x.S_new
 os:=t.os.trans x.os
 tape:=t.tape.trans x.tape
 drawn:=Nat.le_trans x.drawn t.drawn
 output:=t.output.trans x.output
 size:=by rw [t.size];exact x.size
 keep:=fun b hb hne=>(t.other b (by have:=f.new g hgt;omega)).trans (x.keep b hb hne)
 new:=x.new
theorem RelV.cells {T:TypeId->TI} {h:Heap} {β:List Con} {S:Addr->Prop} {w w':World} (hc:∀ a,S a->w'.cell? a=w.cell? a) {x:AV} {y:Value} (hr:RelV T h β w S x y):RelV T h β w' S x y:=by
 induction hr with
 | d x y hd=>exact .d x y (hd.mono (fun _ h=>h) hc)
 | agg cs vs hl ho _ ih=>exact .agg cs vs hl ho ih
 | tup cs vs hl _ ih=>exact .tup cs vs hl ih
 | nl a=>exact .nl a
 | p b off g hb=>exact .p b off g hb
 | own b n y e xs sh hb hn hy ho=>exact .own b n y e xs sh hb hn hy ho
 | ep b n i off g e xs sh hb hn hy=>exact .ep b n i off g e xs sh hb hn hy
 | os b n lo hi y e xs sh hb hn hl hh ho hy=>exact .os b n lo hi y e xs sh hb hn hl hh ho hy
 | fn f caps vs hl _ ih=>exact .fn f caps vs hl ih
 | mp b g hb=>exact .mp b g hb
theorem Rel.touch {E:Env0} {h:Heap} {β:List Con} {S:Addr->Prop} {w0 w w':World} {gs:List Nat} {g:Nat} (r:Rel E h β S w) (t:Touch g w w') (f:Foreign gs β S w0 w) (hg:g∈gs):Rel E h β S w' where
 len:=r.len
 box:=fun b cs hb=>by
  obtain ⟨q,vs,ty,h1,h2,h3,h4⟩:=r.box b cs hb
  exact ⟨q,vs,ty,h1,(t.other q fun e=>f.apart g hg b _ h1 (by rw [← e];rfl)).trans h2,h3,fun i x y hx hy=>⟨(h4 i x y hx hy).1.cells fun a ha=>t.cell (f.sep g hg a ha),(h4 i x y hx hy).2⟩⟩
 row:=fun b e xs sh hb=>by
  obtain ⟨k,h1,h2⟩:=r.row b e xs sh hb
  exact ⟨k,h1,h2.ext (fun _ h=>h) (fun a ha=>t.cell (f.sep g hg a ha)) fun q hq=>t.other q fun e=>f.apart g hg b k h1 (by rw [hq,e])⟩
 mp:=fun b es hb=>by
  obtain ⟨k,h1,h2⟩:=r.mp b es hb
  exact ⟨k,h1,h2.ext (fun _ h=>h) (fun a ha=>t.cell (f.sep g hg a ha)) (t.other k fun e=>f.apart g hg b _ h1 (by rw [← e];rfl))⟩
 apart:=r.apart
 lt:=fun b k q h1 h2=>by rw [t.size];exact r.lt b k q h1 h2
 stable:=fun a ha=>by rw [t.size];exact r.stable a ha
 free:=r.free
 glob:=fun q cs hq=>(r.glob q cs hq).mono (fun _ h=>h) fun a ha=>t.cell (f.sep g hg a ha)
theorem zaA.touch {E:Env0} {h:Heap} {β:List Con} {S:Addr->Prop} {w0 w w':World} {gs:List Nat} {g:Nat} {ts:TS} {tmps:Array Value} (rt:zaA E.T h β w S ts tmps) (t:Touch g w w') (f:Foreign gs β S w0 w) (hg:g∈gs):zaA E.T h β w' S ts tmps :=
 fun q=>(rt q).cells fun a ha=>t.cell (f.sep g hg a ha)
theorem Foreign.touch {gs:List Nat} {β:List Con} {S:Addr->Prop} {w0 w w':World} {g:Nat} (f:Foreign gs β S w0 w) (t:Touch g w w'):Foreign gs β S w0 w':=⟨f.new,fun q hq=>by rw [t.size];exact f.lt q hq,f.apart,f.sep⟩
/-! ### 'for k, v := range m' -/
def ziM (L:List (AV × AV)) (seen:Array Nat):List (AV × AV):=((List.range L.length).filter fun i=>!seen.contains i).filterMap fun i=>L[i]?
def ItF (gm gi:Nat) (l:List (AV × AV)) (cur:Option (AV × AV)) (S:Addr->Prop) (w:World):Prop:=∃ (L:List (AV × AV)) (ents:Array MapEntry) (seen:Array Nat) (c0:Nat),
 w.heap[gm]?=some (.map ents L.length)/\ents.size=L.length/\(∀ (i:Nat) (k x:AV),L[i]?=some (k,x)->∃ (kv xv:Value),ents[i]?=some ⟨kv,xv,i⟩/\RelD w S k kv/\RelD w S x xv) /\
 w.heap[gi]?=some (.mapIter (some gm) L.length seen c0)/\L.length<=c0/\l.Perm (ziM L seen) /\
 ∀ p,cur=some p->∃ (s':Array Nat) (i:Nat),seen=s'.push i/\L[i]?=some p/\c0=L.length
theorem znK (gm gi:Nat) (l:List (AV × AV)) (cur:Option (AV × AV)):Only [gm,gi] (ItF gm gi l cur):=by
 intro S S' w w' hS hc hg ⟨L,ents,seen,c0,h1,h2,h3,h4,h5,h6,h7⟩
 exact ⟨L,ents,seen,c0,(hg gm Zs).trans h1,h2,fun i k x hi=>by
  obtain ⟨kv,xv,a1,a2,a3⟩:=h3 i k x hi
  exact ⟨kv,xv,a1,a2.mono hS hc,a3.mono hS hc⟩,(hg gi Zs).trans h4,h5,h6,h7⟩
theorem zo2 {α:Type} (L:List α):∀ n:Nat,(List.range n).filterMap (fun i=>L[i]?)=L.take n
 | 0=>by simp
 | n+1=>by
  rw [List.range_succ,List.filterMap_append,zo2 L n,List.take_add_one]
  congr 1
theorem zwY (L:List (AV × AV)):ziM L #[]=L:=by
 unfold ziM
 have:(List.range L.length).filter (fun i=>!(#[]:Array Nat).contains i)=List.range L.length:=by simp
 rw [this,zo2,List.take_length]
theorem zwJ {E:Env0} {fn:Func} {h0 h:Heap} {all r:List Oper} {o:Oper} {k:List It} {n:Nat} {ts:TS} {R:AV->Heap->Prop} {t kt et:TypeId} {tm b d:Nat} {es:List (AV × AV)} (live:List Nat) (hop:o.op=.range t (.tmp tm)) (hgd:o.guard=none) (hd:o.dst=some d) (hdn:d < n)
  (ht:E.P.underlying t=some (.map kt et)) (hm:look ts tm=.mp b) (hb:h[b]?=some (.mp es)) (hb0:Nat.ble h0.length b=true)
  (H:∀ gm gi,zbT E fn h0 [gm,gi] (ItF gm gi es none) ⟨n,.ops all r::k,(d,.v (.pointer (some ⟨gi,0,none⟩)))::mask live b ts,(h.take b).map (zbb (zcz b))⟩ R):Good E fn h0 ⟨n,.ops all (o::r)::k,ts,h⟩ R:=by
 intro β0 S0 w0 β S w tmps hβ hn x0 r0 rt
 have hb0:=Nat.le_of_ble_eq_true hb0
 simp only at hn x0 r0 rt
 obtain ⟨gm,c1,L,ents,c2,c3,c4,c5⟩:=r0.mp b es hb
 have hmv:=rt tm
 rw [hm] at hmv
 generalize hev:tmps.getD tm undef=mv at hmv
 cases hmv with
 | d _ _ hd=>cases hd
 | mp _ g' c1' =>
 rw [c1] at c1'
 cases c1'
 have hgl:gm < w.heap.size:=r0.lt b _ gm c1 rfl
 have hbl:BelowD w.heap.size w (w.alloc (.mapIter (some gm) L.length #[] L.length)):=(BelowD.refl _ _).alloc (Nat.le_refl _) _
 have x1:Ext h β S w h β S (w.alloc (.mapIter (some gm) L.length #[] L.length)):=Ext.grow r0 hbl (fun _ h=>h) (fun _ h=>.inl h)
 have r1:Rel E h β S (w.alloc (.mapIter (some gm) L.length #[] L.length)):=r0.grow hbl (fun _ h=>h) (fun _ h=>.inl h)
 obtain ⟨r2,hv2⟩:=r1.first b
 have hno:∀ a,S a->a.block≠gm:=by
  intro a ha hag
  obtain ⟨e,xs,h1,_⟩:=r0.free b _ gm a c1 rfl ha hag
  rw [hb] at h1
  cases h1
 simp only [kont,Exit.then]
 refine wpList_step fun K hK=>?_
 show wpG E.P all.toArray o ⟨tmps,[]⟩ w K _
 unfold wpG
 rw [if_pos (by simp [Region.wanted,hgd])]
 unfold Oper.wp
 have hrun:(execOp (Act.eval ⟨tmps,[]⟩) o).run E.P w=.ok (.value (.pointer (some ⟨w.heap.size,0,none⟩))) (w.alloc (.mapIter (some gm) L.length #[] L.length)):=by
  simp only [execOp,hop,Act.eval,hev,run_range_map w t kt et gm ents L.length ht c3,Sem.run_bind,Result.andThen_ok,Sem.run_pure]
 rw [hrun,Oper.upon_value,zb0]
 refine hK _ _ ?_
 have rt2:zaA E.T ((h.take b).map (zbb (zcz b))) (β.take b) (w.alloc (.mapIter (some gm) L.length #[] L.length)) S (mask live b ts) tmps:=fun q=>by
  rcases ziO b ts live q with h1|h1
  ·rw [h1];exact .d _ _ (.un _)
  ·rw [h1];exact hv2 _ _ ((rt q).ext x1)
 have rt3:=rt2.put (d:=some d) (x:=.v (.pointer (some ⟨w.heap.size,0,none⟩))) (y:=.pointer (some ⟨w.heap.size,0,none⟩)) (by simp only [zaL];exact Nat.ble_eq_true_of_le (by rw [hn];exact hdn)) (.d _ _ (.v _ rfl))
 have hsz:(w.alloc (.mapIter (some gm) L.length #[] L.length)).heap.size=w.heap.size+1:=by
  show (w.heap.push _).size=_
  simp
 have hfor:Foreign [gm,w.heap.size] (β.take b) S w0 (w.alloc (.mapIter (some gm) L.length #[] L.length)):=by
  refine ⟨fun g hg=>?_,fun g hg=>?_,fun g hg b' k' hb' hk'=>?_,fun g hg a ha=>?_⟩
  ·simp only [List.tail_cons,List.mem_singleton] at hg;subst hg;exact x0.size
  ·rw [hsz]
   rcases List.mem_cons.1 hg with rfl|hg
   ·omega
   ·simp only [List.mem_singleton] at hg;omega
  ·rw [List.getElem?_take] at hb'
   split at hb'
   ·rename_i hlt
    rcases List.mem_cons.1 hg with rfl|hg
    ·have:=r0.apart b' b k' _ g hb' c1 hk' rfl
     omega
    ·simp only [List.mem_singleton] at hg
     subst hg
     have:=r0.lt b' k' _ hb' hk'
     omega
   ·cases hb'
  ·rcases List.mem_cons.1 hg with rfl|hg
   ·exact hno a ha
   ·simp only [List.mem_singleton] at hg
    have:=r0.stable a ha
    omega
 have hit:ItF gm w.heap.size es none S (w.alloc (.mapIter (some gm) L.length #[] L.length)):=by
  refine ⟨L,ents,#[],L.length,(hbl.block gm hgl).trans c3,c4,fun i k x hi=>?_,heap_alloc_new w _,Nat.le_refl _,by rw [zwY];exact c2.symm,by simp⟩
  obtain ⟨kv,xv,a1,a2,a3⟩:=c5 i k x hi
  exact ⟨kv,xv,a1,a2.mono (fun _ h=>h) x1.S_cell,a3.mono (fun _ h=>h) x1.S_cell⟩
 have:=H gm w.heap.size β0 S0 w0 (β.take b) S _ _ hβ (by rw [zcy];exact hn) ((x0.trans x1).first r1 hb0 hβ) r2 rt3 hfor hit
 simp only [kont,Exit.then] at this
 rw [hd]
 exact this
theorem zyG {L:List (AV × AV)} {seen:Array Nat} {i:Nat} {p:AV × AV} (hi:L[i]?=some p) (hs:seen.contains i=false):(ziM L seen).Perm (p::ziM L (seen.push i)):=by
 have hil:=(List.getElem?_eq_some_iff.1 hi).1
 have hF:((List.range L.length).filter fun j=>!seen.contains j).Perm (i::(List.range L.length).filter fun j=>!(seen.push i).contains j):=by
  have hm:i∈(List.range L.length).filter fun j=>!seen.contains j:=by
   rw [List.mem_filter]
   exact ⟨List.mem_range.2 hil,by rw [hs];rfl⟩
  have h1:=List.perm_cons_erase hm
  have hn:((List.range L.length).filter fun j=>!seen.contains j).Nodup:=List.nodup_range.filter _
  rw [hn.erase_eq_filter,List.filter_filter] at h1
  refine h1.trans (.of_eq (congrArg _ ?_))
  apply List.filter_congr
  intro j _
  rw [contains_push]
  cases seen.contains j <;> cases hji:(j==i) <;> simp [bne,hji]
 have:=hF.filterMap fun j=>L[j]?
 rw [List.filterMap_cons_some hi] at this
 exact this
theorem zoD {α:Type}:∀ (l:List α) (j:Nat) (p:α),l[j]?=some p->l.Perm (p::l.eraseIdx j)
 | [],j,p,h=>by simp at h
 | a::l,0,p,h=>by simp at h;subst h;exact .refl _
 | a::l,j+1,p,h=>by
  have:=zoD l j p (by simpa using h)
  exact (this.cons a).trans (.swap _ _ _)
theorem zlC {L:List (AV × AV)} {ents:Array MapEntry} {w:World} {S:Addr->Prop} (hl:ents.size=L.length) (h3:∀ (i:Nat) (k x:AV),L[i]?=some (k,x)->∃ (kv xv:Value),ents[i]?=some ⟨kv,xv,i⟩/\RelD w S k kv/\RelD w S x xv) :
  (∀ e∈ents.toList,ents[e.born]?=some e/\e.born < L.length)/\(ents.toList.map (·.born)).Nodup:=by
 have at_:∀ (i:Nat) (e:MapEntry),ents[i]?=some e->e.born=i/\i < L.length:=by
  intro i e he
  have hi:i < L.length:=by rw [← hl];exact (Array.getElem?_eq_some_iff.1 he).1
  obtain ⟨kv,xv,e1,_⟩:=h3 i L[i].1 L[i].2 (List.getElem?_eq_getElem hi)
  rw [he] at e1
  cases e1
  exact ⟨rfl,hi⟩
 refine ⟨fun e he=>?_,?_⟩
 ·obtain ⟨i,hi⟩:=List.getElem?_of_mem he
  rw [Array.getElem?_toList] at hi
  obtain ⟨h1,h2⟩:=at_ i e hi
  rw [h1]
  exact ⟨hi,h2⟩
 ·have:ents.toList.map (·.born)=List.range L.length:=by
   apply List.ext_getElem?
   intro i
   rw [List.getElem?_map,Array.getElem?_toList]
   by_cases hi:i < L.length
   ·have h5:ents[i]?=some (ents[i]'Zo):=Array.getElem?_eq_getElem Zo
    rw [h5,Option.map_some,(at_ i _ h5).1,List.getElem?_range hi]
   ·rw [Array.getElem?_eq_none Zo,List.getElem?_eq_none Zp]
    rfl
  rw [this]
  exact List.nodup_range
theorem zza {w w1:World} {g:Nat} {o:Obj} (h:w1=w\/w1=w.drew):Touch g w (ChangeMaps.setBlock w1 g o):=by
 rcases h with rfl|rfl
 ·exact ⟨rfl,rfl,Nat.le_refl _,rfl,by simp [ChangeMaps.setBlock],fun b hb=>by simp [ChangeMaps.setBlock,Ne.symm hb]⟩
 ·have hd:∀ v:World,v.drew.heap=v.heap:=fun _=>rfl
  exact ⟨rfl,rfl,Nat.le_succ _,rfl,by simp [ChangeMaps.setBlock,hd],fun b hb=>by simp [ChangeMaps.setBlock,hd,Ne.symm hb]⟩
theorem zwG {E:Env0} {fn:Func} {h0 h:Heap} {all r:List Oper} {o:Oper} {k:List It} {n:Nat} {ts:TS} {R:AV->Heap->Prop} {gm gi ti d:Nat} {l:List (AV × AV)} {cur:Option (AV × AV)} (hop:o.op=.next (.tmp ti) false) (hgd:o.guard=none) (hd:o.dst=some d) (hdn:d < n)
  (hm:look ts ti=.v (.pointer (some ⟨gi,0,none⟩)))
  (H0:l=[]->zbT E fn h0 [gm,gi] (ItF gm gi [] none) ⟨n,.ops all r::k,(d,.tup [.bl false])::ts,h⟩ R)
  (H1:∀ (j:Nat) (kx x:AV),l[j]?=some (kx,x)->zbT E fn h0 [gm,gi] (ItF gm gi (l.eraseIdx j) (some (kx,x))) ⟨n,.ops all r::k,(d,.tup [.bl true,kx,x])::ts,h⟩ R) :
  zbT E fn h0 [gm,gi] (ItF gm gi l cur) ⟨n,.ops all (o::r)::k,ts,h⟩ R:=by
 intro β0 S0 w0 β S w tmps hβ hn x0 r0 rt hf ⟨L,ents,seen,c0,h1,h2,h3,h4,h5,h6,h7⟩
 simp only at hn x0 r0 rt
 have hmv:=rt ti
 rw [hm] at hmv
 have hev:=hmv.v_inv
 obtain ⟨hb1,hb2⟩:=zlC h2 h3
 have hne:gm≠gi:=by
  rintro rfl
  rw [h1] at h4
  cases h4
 simp only [kont,Exit.then]
 refine wpList_step fun K hK=>?_
 show wpG E.P all.toArray o ⟨tmps,[]⟩ w K _
 unfold wpG
 rw [if_pos (by simp [Region.wanted,hgd])]
 unfold Oper.wp
 have hdd:zaL tmps.size (some d)=true:=by simp only [zaL];exact Nat.ble_eq_true_of_le (by rw [hn];exact hdn)
 rcases run_next_at (P:=E.P) w o.type gi gm L.length c0 seen ents L.length h4 h1 (fun x hx=>(hb1 x hx).2) h5 with ⟨hz,hrun⟩|⟨e,he,w1,hw1,hrun⟩
 ·have hrun':(execOp (Act.eval ⟨tmps,[]⟩) o).run E.P w=.ok (.value (.tuple #[.bool false])) w:=by
   simp only [execOp,hop,Act.eval,hev,hrun,Sem.run_bind,Result.andThen_ok,Sem.run_pure]
  rw [hrun',Oper.upon_value,zb0]
  refine hK _ _ ?_
  have hall:=all_seen ents seen hz
  have hnil:ziM L seen=[]:=by
   unfold ziM
   have:((List.range L.length).filter fun i=>!seen.contains i)=[]:=by
    rw [List.filter_eq_nil_iff]
    intro i hi
    have hi:=List.mem_range.1 hi
    obtain ⟨kv,xv,e1,_⟩:=h3 i L[i].1 L[i].2 (List.getElem?_eq_getElem hi)
    have:=hall _ (Array.mem_toList_iff.2 (Array.mem_of_getElem? e1))
    simp only at this
    rw [this]
    decide
   rw [this]
   rfl
  rw [hnil] at h6
  have hl:=h6.eq_nil
  have:=H0 hl β0 S0 w0 β S w _ hβ (by rw [zcy];exact hn) x0 r0 (rt.put (d:=some d) (x:=.tup [.bl false]) (y:=.tuple #[.bool false]) hdd (.d _ _ (.tup [.bl false] [.bool false] rfl (fun i p q hp hq=>by
   cases i with
   | zero=>simp at hp hq;subst hp;subst hq;exact .bl _
   | succ i=>simp at hp)))) hf ⟨L,ents,seen,c0,h1,h2,h3,h4,h5,by rw [hnil],by simp⟩
  simp only [kont,Exit.then] at this
  rw [hd]
  exact this
 ·have hrun':(execOp (Act.eval ⟨tmps,[]⟩) o).run E.P w=.ok (.value (.tuple #[.bool true,e.key,e.val])) (ChangeMaps.setBlock w1 gi (.mapIter (some gm) L.length (seen.push e.born) L.length)):=by
   simp only [execOp,hop,Act.eval,hev,hrun,Sem.run_bind,Result.andThen_ok,Sem.run_pure]
  rw [hrun',Oper.upon_value,zb0]
  refine hK _ _ ?_
  obtain ⟨hem,hes⟩:=mem_left he
  obtain ⟨hei,hel⟩:=hb1 e hem
  have hLi:L[e.born]?=some L[e.born]:=List.getElem?_eq_getElem hel
  obtain ⟨kv,xv,e1,e2,e3⟩:=h3 e.born L[e.born].1 L[e.born].2 hLi
  rw [hei] at e1
  have hstep:=zyG hLi hes
  have hmem:L[e.born]∈l:=h6.mem_iff.2 (hstep.mem_iff.2 Zs)
  obtain ⟨j,hj⟩:=List.getElem?_of_mem hmem
  have hperm:(l.eraseIdx j).Perm (ziM L (seen.push e.born)):=by
   have:=(zoD l j _ hj).symm.trans (h6.trans hstep)
   exact this.cons_inv
  have t:Touch gi w (ChangeMaps.setBlock w1 gi (.mapIter (some gm) L.length (seen.push e.born) L.length)):=zza hw1
  have hg:gi∈[gm,gi]:=by simp
  have hcell:∀ a,S a->(ChangeMaps.setBlock w1 gi (.mapIter (some gm) L.length (seen.push e.born) L.length)).cell? a=w.cell? a:=fun a ha=>t.cell (hf.sep gi hg a ha)
  have hkk:e.key=kv/\e.val=xv:=by
   have h9:e=⟨kv,xv,e.born⟩:=by injection e1
   exact ⟨congrArg MapEntry.key h9,congrArg MapEntry.val h9⟩
  have rt2:=(rt.touch (E:=E) t hf hg).put (d:=some d) (x:=.tup [.bl true,L[e.born].1,L[e.born].2]) (y:=.tuple #[.bool true,e.key,e.val]) hdd (.d _ _ (.tup [.bl true,L[e.born].1,L[e.born].2] [.bool true,e.key,e.val] rfl (fun i p q hp hq=>by
   match i,hp,hq with
   | 0,hp,hq=>simp at hp hq;subst hp;subst hq;exact .bl _
   | 1,hp,hq=>simp at hp hq;subst hp;subst hq;rw [hkk.1];exact e2.mono (fun _ h=>h) hcell
   | 2,hp,hq=>simp at hp hq;subst hp;subst hq;rw [hkk.2];exact e3.mono (fun _ h=>h) hcell
   | i+3,hp,hq=>simp at hp)))
  have hit:ItF gm gi (l.eraseIdx j) (some (L[e.born].1,L[e.born].2)) S (ChangeMaps.setBlock w1 gi (.mapIter (some gm) L.length (seen.push e.born) L.length)):=by
   refine ⟨L,ents,seen.push e.born,L.length,(t.other gm hne).trans h1,h2,fun i k x hi=>?_,?_,Nat.le_refl _,hperm,fun p hp=>⟨seen,e.born,rfl,by rw [hLi];exact hp,rfl⟩⟩
   ·obtain ⟨kv,xv,a1,a2,a3⟩:=h3 i k x hi
    exact ⟨kv,xv,a1,a2.mono (fun _ h=>h) hcell,a3.mono (fun _ h=>h) hcell⟩
   ·have hlt:gi < w1.heap.size:=by
     have:=(Array.getElem?_eq_some_iff.1 h4).1
     rcases hw1 with rfl|rfl <;> exact this
    simp [ChangeMaps.setBlock,hlt]
  have:=H1 j L[e.born].1 L[e.born].2 hj β0 S0 w0 β S _ _ hβ (by rw [zcy];exact hn) (x0.touch t hf hg Zs) (r0.touch t hf hg) rt2 (hf.touch t) hit
  simp only [kont,Exit.then] at this
  rw [hd]
  exact this
theorem zt5 {E:Env0} {fn:Func} {h0 h:Heap} {all r:List Oper} {o:Oper} {k:List It} {n:Nat} {ts:TS} {R:AV->Heap->Prop} {gm gi ti d:Nat} {l:List (AV × AV)} {kx x:AV} (hop:o.op=.entry (.tmp ti)) (hgd:o.guard=none) (hd:o.dst=some d) (hdn:d < n)
  (hm:look ts ti=.v (.pointer (some ⟨gi,0,none⟩)))
  (H:zbT E fn h0 [gm,gi] (ItF gm gi l (some (kx,x))) ⟨n,.ops all r::k,(d,.tup [kx,x])::ts,h⟩ R) :
  zbT E fn h0 [gm,gi] (ItF gm gi l (some (kx,x))) ⟨n,.ops all (o::r)::k,ts,h⟩ R:=by
 intro β0 S0 w0 β S w tmps hβ hn x0 r0 rt hf hw
 have hw0:=hw
 obtain ⟨L,ents,seen,c0,h1,h2,h3,h4,h5,h6,h7⟩:=hw
 simp only at hn x0 r0 rt
 have hmv:=rt ti
 rw [hm] at hmv
 have hev:=hmv.v_inv
 obtain ⟨hb1,hb2⟩:=zlC h2 h3
 obtain ⟨s',i,rfl,hi,rfl⟩:=h7 _ rfl
 obtain ⟨kv,xv,e1,e2,e3⟩:=h3 i kx x hi
 simp only [kont,Exit.then]
 refine wpList_step fun K hK=>?_
 show wpG E.P all.toArray o ⟨tmps,[]⟩ w K _
 unfold wpG
 rw [if_pos (by simp [Region.wanted,hgd])]
 unfold Oper.wp
 have hrun:=run_entry_at (P:=E.P) w gi gm L.length s' ents L.length ⟨kv,xv,i⟩ h4 h1 (Array.mem_toList_iff.2 (Array.mem_of_getElem? e1)) hb2
 have hrun':(execOp (Act.eval ⟨tmps,[]⟩) o).run E.P w=.ok (.value (.tuple #[kv,xv])) w:=by
  simp only [execOp,hop,Act.eval,hev,hrun,Sem.run_bind,Result.andThen_ok,Sem.run_pure]
 rw [hrun',Oper.upon_value,zb0]
 refine hK _ _ ?_
 have:=H β0 S0 w0 β S w _ hβ (by rw [zcy];exact hn) x0 r0 (rt.put (d:=some d) (x:=.tup [kx,x]) (y:=.tuple #[kv,xv]) (by simp only [zaL];exact Nat.ble_eq_true_of_le (by rw [hn];exact hdn)) (.d _ _ (.tup [kx,x] [kv,xv] rfl (fun i p q hp hq=>by
  match i,hp,hq with
  | 0,hp,hq=>simp at hp hq;subst hp;subst hq;exact e2
  | 1,hp,hq=>simp at hp hq;subst hp;subst hq;exact e3
  | i+2,hp,hq=>simp at hp)))) hf hw0
 simp only [kont,Exit.then] at this
 rw [hd]
 exact this
end Go.AM
namespace Go.AM
theorem zbS (n:Int):KeyOK E0.P Ty.M_int_bool (iv n):=zyA (kt:=Ty.int) (et:=Ty.bool) kr kr n
theorem zdx (a b:Int) (c:Str):KeyOK E0.P Ty.M_Value_bool (.agg [iv a,iv b,sv c]) :=
 zs5 E0ok (kt:=Ty.Value) (et:=Ty.bool) (fs:=E0.P.fieldsOf Ty.Value) kr kr kr zaW rfl rfl
noncomputable def zhD (fn:Func) (args:List AV) (h:Heap):Cfg:=⟨fn.ntmps,[.code (fn.body.getD .skip)],zb9 0 args,h⟩
def itp (gi:Nat):AV:=.v (.pointer (some ⟨gi,0,none⟩))
noncomputable def zrC (h0:Heap) (c:Cfg) (os:List Orc) (b:Nat):Option (List Prop × TypeId × List (AV × AV)):=match run (mk E0) 3000 c os with
 | (q,⟨n,.ops _ (o::_)::_,ts,h⟩,_)=>match o.op,o.guard,o.dst with
  | .range t (.tmp tm),none,some d=>match look ts tm,Nat.blt d n,Nat.ble h0.length b with
   | .mp b',true,true=>match Nat.beq b' b,h[b]? with
    | true,some (.mp es)=>some (q,t,es)
    | _,_=>none
   | _,_,_=>none
  | _,_,_=>none
 | _=>none
noncomputable def rngK (c:Cfg) (os:List Orc) (live:List Nat) (b gi:Nat):Cfg:=match run (mk E0) 3000 c os with
 | (_,⟨n,.ops all (o::r)::k,ts,h⟩,_)=>⟨n,.ops all r::k,(o.dst.getD 0,itp gi)::mask live b ts,(h.take b).map (zbb (zcz b))⟩
 | (_,c',_)=>c'
theorem wkRl {fn:Func} {h0:Heap} {c:Cfg} {R:AV->Heap->Prop} {t kt et:TypeId} {es:List (AV × AV)} (l:List St) (live:List Nat) (b:Nat) (hu:zrC h0 c (orcs l) b=some (zbo l,t,es)) (ht:E0.P.underlying t=some (.map kt et))
  (hg:∀ gm gi,zbT E0 fn h0 [gm,gi] (ItF gm gi es none) (rngK c (orcs l) live b gi) R):Good E0 fn h0 c R:=by
 unfold zrC at hu
 unfold rngK at hg
 split at hu
 ·rename_i q n all o r k ts h os' hrun
  split at hu
  ·rename_i t' tm d hop hgd hd
   split at hu
   ·rename_i b' hm hdn hb0
    split at hu
    ·rename_i es' hbb hb
     simp only [Option.some.injEq,Prod.mk.injEq] at hu
     obtain ⟨rfl,rfl,rfl⟩:=hu
     have:=Nat.eq_of_beq_eq_true hbb
     subst this
     refine zj5 E0ok mix0 3000 c (orcs l) (by rw [hrun];exact za5 l) ?_
     rw [hrun]
     refine zwJ live hop hgd hd (Nat.le_of_ble_eq_true hdn) ht hm hb hb0 fun gm gi=>?_
     have:=hg gm gi
     rw [hrun] at this
     simp only [hd,Option.getD_some] at this
     exact this
    ·cases hu
   ·cases hu
  ·cases hu
 ·cases hu
def fnOk (fn : Func) (args : List AV) : Bool := fn.body.isSome && !(fn.name == "runtime.NumGoroutine") && Nat.ble args.length fn.ntmps
theorem wkR {f:FuncId} {fn:Func} {args:List AV} {h:Heap} {R:AV->Heap->Prop} {t kt et:TypeId} {es:List (AV × AV)} (hf:E0.P.funcs[f]?=some fn) (l:List St) (live:List Nat) (b:Nat) (hok:fnOk fn args=true) (hu:zrC h (zhD fn args h) (orcs l) b=some (zbo l,t,es)) (ht:E0.P.underlying t=some (.map kt et))
  (hg:∀ gm gi,zbT E0 fn h [gm,gi] (ItF gm gi es none) (rngK (zhD fn args h) (orcs l) live b gi) (Shut h.length R)):zbO E0 f args h R:=by
 simp only [fnOk,Bool.and_eq_true,Bool.not_eq_true',Option.isSome_iff_exists] at hok
 obtain ⟨⟨⟨c,hb⟩,hn⟩,ha⟩:=hok
 have h1:=wkRl l live b hu ht hg
 have:zhD fn args h=⟨fn.ntmps,[.code c],zb9 0 args,h⟩:=by simp [zhD,hb]
 rw [this] at h1
 exact zem (zaV hf hb hn (Nat.le_of_ble_eq_true ha) h1)
theorem wkFl {fn:Func} {R:AV->Heap->Prop} {h0:Heap} {c c':Cfg} {gm gi:Nat} {es:List (AV × AV)} {cur:Option (AV × AV)} (l:List St) (live:List Nat) (m:Nat) (hu:zk1 h0 live m c (orcs l)=some (zbo l,c')) (hg:zbT E0 fn h0 [gm,gi] (ItF gm gi es cur) c' R):zbT E0 fn h0 [gm,gi] (ItF gm gi es cur) c R:=by
 unfold zk1 at hu
 split at hu
 ·rename_i hm
  have hu:=Option.some.inj hu
  unfold upto at hu
  have h1:(run (mk E0) 3000 c (orcs l)).1=zbo l:=congrArg Prod.fst hu
  have h2:cut live m (run (mk E0) 3000 c (orcs l)).2.1=c':=congrArg Prod.snd hu
  exact zzS E0ok mix0 (znK _ _ _ _) 3000 (orcs l) live m hm h1 h2 (za5 l) hg
 ·cases hu
theorem zlX {E:Env0} {fn:Func} {h0:Heap} {gs:List Nat} {F:(Addr->Prop)->World->Prop} {c:Cfg} {R:AV->Heap->Prop} (hg:zbT E fn h0 gs F (zkc c) R):zbT E fn h0 gs F c R:=by
 unfold zkc at hg
 split at hg
 ·rename_i b k hk
  obtain ⟨n,todo,ts,h⟩:=c
  simp only at hk
  subst hk
  intro β0 S0 w0 β S w tmps hb0 hn x0 r rt hf hw
  have:=hg β0 S0 w0 β S w tmps hb0 hn x0 r rt hf hw
  simp only [kont,Exit.then] at this ⊢
  refine zoX (wp_mono this fun e a w he=>?_)
  cases e <;> exact he
 ·exact hg
noncomputable def nxtOk (c:Cfg) (os:List Orc):Option (List Prop × AV):=match run (mk E0) 3000 c os with
 | (q,⟨n,.ops _ (o::_)::_,ts,_⟩,_)=>match o.op,o.guard,o.dst with
  | .next (.tmp ti) false,none,some d=>match Nat.blt d n with
   | true=>some (q,look ts ti)
   | false=>none
  | _,_,_=>none
 | _=>none
noncomputable def nxtK (c:Cfg) (os:List Orc) (v:AV):Cfg:=match run (mk E0) 3000 c os with
 | (_,⟨n,.ops all (o::r)::k,ts,h⟩,_)=>⟨n,.ops all r::k,(o.dst.getD 0,v)::ts,h⟩
 | (_,c',_)=>c'
theorem wkN {fn:Func} {h0:Heap} {c:Cfg} {R:AV->Heap->Prop} {gm gi:Nat} {es:List (AV × AV)} {cur:Option (AV × AV)} (l:List St) (hu:nxtOk c (orcs l)=some (zbo l,itp gi))
  (H0:es=[]->zbT E0 fn h0 [gm,gi] (ItF gm gi [] none) (nxtK c (orcs l) (.tup [.bl false])) R)
  (H1:∀ (j:Nat) (kx x:AV),es[j]?=some (kx,x)->zbT E0 fn h0 [gm,gi] (ItF gm gi (es.eraseIdx j) (some (kx,x))) (nxtK c (orcs l) (.tup [.bl true,kx,x])) R):zbT E0 fn h0 [gm,gi] (ItF gm gi es cur) c R:=by
 unfold nxtOk at hu
 unfold nxtK at H0 H1
 split at hu
 ·rename_i q n all o r k ts h os' hrun
  split at hu
  ·rename_i ti d hop hgd hd
   split at hu
   ·rename_i hdn
    simp only [Option.some.injEq,Prod.mk.injEq] at hu
    obtain ⟨rfl,hm⟩:=hu
    refine zlW E0ok mix0 (znK _ _ _ _) 3000 (orcs l) (by rw [hrun];exact za5 l) ?_
    rw [hrun] at H0 H1 ⊢
    simp only [hd,Option.getD_some] at H0 H1
    exact zwG hop hgd hd (Nat.le_of_ble_eq_true hdn) hm H0 H1
   ·cases hu
  ·cases hu
 ·cases hu
noncomputable def entOk (c:Cfg) (os:List Orc):Option (List Prop × AV):=match run (mk E0) 3000 c os with
 | (q,⟨n,.ops _ (o::_)::_,ts,_⟩,_)=>match o.op,o.guard,o.dst with
  | .entry (.tmp ti),none,some d=>match Nat.blt d n with
   | true=>some (q,look ts ti)
   | false=>none
  | _,_,_=>none
 | _=>none
theorem wkE2 {fn:Func} {h0:Heap} {c:Cfg} {R:AV->Heap->Prop} {gm gi:Nat} {es:List (AV × AV)} {kx x:AV} (l:List St) (hu:entOk c (orcs l)=some (zbo l,itp gi))
  (H:zbT E0 fn h0 [gm,gi] (ItF gm gi es (some (kx,x))) (nxtK c (orcs l) (.tup [kx,x])) R):zbT E0 fn h0 [gm,gi] (ItF gm gi es (some (kx,x))) c R:=by
 unfold entOk at hu
 unfold nxtK at H
 split at hu
 ·rename_i q n all o r k ts h os' hrun
  split at hu
  ·rename_i ti d hop hgd hd
   split at hu
   ·rename_i hdn
    simp only [Option.some.injEq,Prod.mk.injEq] at hu
    obtain ⟨rfl,hm⟩:=hu
    refine zlW E0ok mix0 (znK _ _ _ _) 3000 (orcs l) (by rw [hrun];exact za5 l) ?_
    rw [hrun] at H ⊢
    simp only [hd,Option.getD_some] at H
    exact zt5 hop hgd hd (Nat.le_of_ble_eq_true hdn) hm H
   ·cases hu
  ·cases hu
 ·cases hu
theorem wkRF {f:FuncId} {fn:Func} {args:List AV} {h:Heap} {R:AV->Heap->Prop} {kt et:TypeId} {es:List (AV × AV)} (L:Nat->Cfg) (t:TypeId) (hf:E0.P.funcs[f]?=some fn) (l:List St) (live:List Nat) (b:Nat) (l2:List St) (live2:List Nat) (m:Nat) (hok:fnOk fn args=true) (hu:zrC h (zhD fn args h) (orcs l) b=some (zbo l,t,es)) (ht:E0.P.underlying t=some (.map kt et))
  (hk:∀ gi,zk1 h live2 m (rngK (zhD fn args h) (orcs l) live b gi) (orcs l2)=some (zbo l2,L gi))
  (hg:∀ gm gi,zbT E0 fn h [gm,gi] (ItF gm gi es none) (L gi) (Shut h.length R)):zbO E0 f args h R :=
 wkR hf l live b hok hu ht fun gm gi=>wkFl l2 live2 m (hk gi) (hg gm gi)
def itE (p:Int × Bool):AV × AV:=(iv p.1,bv p.2)
noncomputable def zoa (u:Int) (gi:Nat):Cfg:=zaj B.B3 0 [(37,itp gi),(1,iv u)] []
noncomputable def zAv (u:Int) (gi:Nat) (p:Int × Bool):Cfg:=nxtK (nxtK (zkc (zoa u gi)) (orcs []) (.tup [.bl true,iv p.1,bv p.2])) (orcs []) (.tup [iv p.1,bv p.2])
def andI (a b:Int):Int:=IntKind.i64.wrap (↑(BitVec.ofInt IntKind.i64.bits a &&& BitVec.ofInt IntKind.i64.bits b).toNat:Int)
def okP (u:Int) (p:Int × Bool):Bool:=bif andI u p.1==0 then p.2 else true
theorem at_itE {L:List (Int × Bool)} {j:Nat} {kx x:AV} (h:(L.map itE)[j]?=some (kx,x)):∃ p,L[j]?=some p/\kx=iv p.1/\x=bv p.2:=by
 rw [List.getElem?_map,Option.map_eq_some_iff] at h
 obtain ⟨p,h1,h2⟩:=h
 cases h2
 exact ⟨p,h1,rfl,rfl⟩
theorem zp9 {α:Type} (f:α->Bool):∀ (l:List α) (j:Nat) (p:α),l[j]?=some p->l.all f=(f p&&(l.eraseIdx j).all f)
 | [],j,p,h=>by simp at h
 | a::l,0,p,h=>by simp at h;subst h;rfl
 | a::l,j+1,p,h=>by
  have:=zp9 f l j p (by simpa using h)
  simp only [List.all_cons,this,List.eraseIdx_cons_succ]
  cases f a <;> cases f p <;> rfl
theorem zqz {α β:Type} (f:α->β):∀ (l:List α) (j:Nat),(l.map f).eraseIdx j=(l.eraseIdx j).map f
 | [],_=>rfl
 | a::l,0=>rfl
 | a::l,j+1=>by simp [zqz f l j]
theorem znB (u:Int):∀ (n:Nat) (L:List (Int × Bool)) (cur:Option (AV × AV)) (gm gi:Nat),L.length=n->zbT E0 B.B3 [] [gm,gi] (ItF gm gi (L.map itE) cur) (zoa u gi) (Shut 0 fun r h=>r=bv (L.all (okP u))/\h=[]):=by
 intro n
 induction n with
 | zero =>
  intro L cur gm gi hL
  cases L with
  | cons _ _=>simp at hL
  | nil=>exact zlX (wkN [] kr (fun _=>zsL (wkr [] kr)) (fun j kx x hj=>by simp at hj))
 | succ n ih =>
  intro L cur gm gi hL
  refine zlX (wkN [] kr (fun h0=>?_) (fun j kx x hj=>?_))
  ·cases L with
   | nil=>simp at hL
   | cons _ _=>simp at h0
  ·obtain ⟨p,hp,rfl,rfl⟩:=at_itE hj
   rw [zqz]
   have hj2:j < L.length:=(List.getElem?_eq_some_iff.1 hp).1
   have hlen:(L.eraseIdx j).length=n:=by rw [List.length_eraseIdx,if_pos hj2];omega
   have ih:=ih (L.eraseIdx j) (some (iv p.1,bv p.2)) gm gi hlen
   rw [zp9 (okP u) L j p hp]
   refine wkE2 [] kr ?_
   show zbT E0 B.B3 [] [gm,gi] _ (zAv u gi p) _
   cases h1:andI u p.1==0
   ·have e:okP u p=true:=by unfold okP;rw [h1];rfl
    rw [e,Bool.true_and]
    exact wkFl [si (e:=andI u p.1) rfl,sb h1] [37,1] 0 kr ih
   ·cases h2:!p.2
    ·have e:okP u p=true:=by unfold okP;rw [h1];simpa using h2
     rw [e,Bool.true_and]
     exact wkFl [si (e:=andI u p.1) rfl,sg h1,sb h2] [37,1] 0 kr ih
    ·have e:okP u p=false:=by unfold okP;rw [h1];simpa using h2
     rw [e,Bool.false_and]
     exact zsL (wkr [si (e:=andI u p.1) rfl,sg h1,sb h2] kr)
def zkn (e:X) (z:Bool):List (Int × Bool):=[(1,e.op==0),(2,!e.not),(4,e.val.kind==0&&(e.val.int==0&&(e.val.text==ByteArray.mk #[]&&true))),(8,z),(16,((zad e.args).length:Int)==0),(32,((zag e.sub).length:Int)==0)]
def zj1 (e:X):Bool:=bif ByteArray.toList e.table==Zs0.toList then ByteArray.toList e.name==Zs0.toList else false
def zbD (e:X) (u:Int):Bool:=(zkn e (zj1 e)).all (okP u)
theorem zv9 (e:X) (u:Int) (h1:(ByteArray.toList e.table==Zs0.toList)=false):zbO E0 S.B3 [e.av,iv u] [] (fun r h=>r=bv ((zkn e false).all (okP u))/\h=[]):=by
 exact wkRF (es:=(zkn e false).map itE) (zoa u) Ty.M_int_bool At.B3 [sd [(12,[sq zaW]),(18,[sb h1]),(19,[sb h1]),(20,[sb h1]),(21,[sb h1]),(4,[sq (zbS 1)]),(8,[sq (zbS 2)]),(13,[sq (zbS 4)]),(22,[sq (zbS 8)]),(27,[sq (zbS 16)]),(32,[sq (zbS 32)])]] [1] 1 [] [37,1] 0 (kt:=Ty.int) (et:=Ty.bool) kr kr kr (fun gi=>by kernel_rfl) fun gm gi=>(znB u 6 (zkn e false) none gm gi rfl)
theorem zxP (e:X) (u:Int) (h1:(ByteArray.toList e.table==Zs0.toList)=true):zbO E0 S.B3 [e.av,iv u] [] (fun r h=>r=bv ((zkn e (zj1 e)).all (okP u))/\h=[]):=by
 exact wkRF (es:=(zkn e (zj1 e)).map itE) (zoa u) Ty.M_int_bool At.B3 [sd [(12,[sq zaW]),(18,[sg h1]),(19,[sg h1]),(20,[sg h1]),(4,[sq (zbS 1)]),(8,[sq (zbS 2)]),(13,[sq (zbS 4)]),(22,[sq (zbS 8)]),(27,[sq (zbS 16)]),(32,[sq (zbS 32)])]] [1] 1 [] [37,1] 0 (kt:=Ty.int) (et:=Ty.bool) kr kr kr (fun gi=>by kernel_rfl) fun gm gi=>(znB u 6 (zkn e (zj1 e)) none gm gi rfl)
theorem zaB (e:X) (u:Int):zaa E0 S.B3 [e.av,iv u] [] (bv (zbD e u)) []:=by
 cases h1:ByteArray.toList e.table==Zs0.toList
 ·have:zj1 e=false:=by unfold zj1;rw [h1];rfl
  unfold zbD
  rw [this]
  exact zv9 e u h1
 ·exact zxP e u h1
theorem zpe {p:Prop} (h:p:=by first|exact (zqM s ‹_›).symm|exact (zpw s ‹_›).symm|exact (zuF ‹_› ‹_›).symm|exact zAq ‹_› ‹_› ‹_› ‹_› ‹_› ‹_›|(have h:=(by assumption:_/\List.all _ okC=false);rw [zqL h.2];exact h.1)):p:=h
theorem zkU {p:Prop} (h:p:=by exact zf0 hI hx (by simp only [okC];simp only [*];simp)):p:=h
theorem zrN {p:Prop} (h:p:=by exact ⟨rfl,zhM hx (by simp only [okC];simp only [*];rfl)⟩):p:=h
def okC (c:UInt8):Bool:=decide (97<=((c.toNat:Nat):Int))&&decide (((c.toNat:Nat):Int)<=122) || (decide (48<=((c.toNat:Nat):Int))&&decide (((c.toNat:Nat):Int)<=57)) || ((c.toNat:Nat):Int)==95
def zaG (s:Str):Bool:=decide (1<=s.data.toList.length)&&decide (s.data.toList.length<=12)&&decide (97<=(s.data.toList.getD 0 0).toNat)&&s.data.toList.all okC
theorem zic (s:Str):s.size=s.data.toList.length:=Array.length_toList.symm
theorem zqM (s:Str) (h:decide (((s.size:Nat):Int) < 1)=true):zaG s=false:=by
 rw [zic] at h;simp only [decide_eq_true_eq] at h;simp only [zaG,Bool.and_eq_false_iff,decide_eq_false_iff_not];omega
theorem zpw (s:Str) (h:decide ((12:Int) < ((s.size:Nat):Int))=true):zaG s=false:=by
 rw [zic] at h;simp only [decide_eq_true_eq] at h;simp only [zaG,Bool.and_eq_false_iff,decide_eq_false_iff_not];omega
theorem zf0 {α:Type} {f:α->Bool} {l:List α} {i:Nat} {x:α} (h:(l.take i).all f=true) (hx:l[i]?=some x) (hf:f x=true):(l.take (i+1)).all f=true:=by
 rw [List.take_add_one,hx,List.all_append,h];simp [hf]
theorem zhM {α:Type} {f:α->Bool} {l:List α} {i:Nat} {x:α} (hx:l[i]?=some x) (hf:f x=false):l.all f=false:=by
 rw [Bool.eq_false_iff];intro h;rw [List.all_eq_true] at h
 rw [h x (List.mem_of_getElem? hx)] at hf;simp at hf
noncomputable def L_vp (s:Str) (i:Nat) :Cfg:=zaj B.AP 0 [(0,sv s),(19,.sl (s.data.toList.map u8c)),(20,iv ((s.data.toList.map u8c).length:Nat)),(21,iv (i:Nat))] []
theorem zgT (s:Str) (hs:decide ((12:Int) < ((s.size:Nat):Int))=false) (i:Nat)  (hi:i<=(s.data.toList).length) (hI:(s.data.toList.take i).all okC=true):(((s.data.toList.take (s.data.toList).length).all okC=true)/\(decide ((((s.data.toList).length:Nat):Int) < (((s.data.toList.map u8c).length:Nat):Int))=false)/\∀ R,Good E0 B.AP [] (L_vp s (s.data.toList).length ) R->Good E0 B.AP [] (L_vp s i ) R)\/(∃ (r:Bool),(r=false/\s.data.toList.all okC=false)/\Good E0 B.AP [] (L_vp s i ) (Shut 0 fun rZ hZ=>rZ=(bv r)/\hZ=[])):=by
 have hk:=hi;revert i;refine zlp ((s.data.toList).length) (fun i hlt ih hi hI _=>?_)
 obtain ⟨x,hx⟩:=zaY (l:=s.data.toList) (i:=i) Zo
 have h0:decide (((i:Nat):Int) < (((s.data.toList.map u8c).length:Nat):Int))=true:=by (simp only [List.length_map,decide_eq_true_eq];omega)
 have hw:IntKind.i64.wrap (((i:Nat):Int)+1)=((i+1:Nat):Int):=zaJ i (by (simp only [decide_eq_false_iff_not,zic] at hs;omega))
 let p_1:List St:=[sb h0,se (zaf u8c hx rfl)]
 cases h1:decide (97<=(x.toNat:Int))
 ·cases h2:decide (48<=(x.toNat:Int))
  ·cases h3:(x.toNat:Int)==95
   ·exact .inr ⟨false,zrN,zab (wkr (p_1++[sb h1,sb h2,sb h3]) kr)⟩
   ·exact zie2 (ih Zo zkU Zo) fun R gY=>zab (wkl (p_1++[sb h1,sb h2,sb h3,si hw]) [0,19,20,21] 0 kr gY)
  ·cases h4:decide ((x.toNat:Int)<=57)
   ·cases h5:(x.toNat:Int)==95
    ·exact .inr ⟨false,zrN,zab (wkr (p_1++[sb h1,sg h2,sb h4,sb h5]) kr)⟩
    ·exact zie2 (ih Zo zkU Zo) fun R gY=>zab (wkl (p_1++[sb h1,sg h2,sb h4,sb h5,si hw]) [0,19,20,21] 0 kr gY)
   ·exact zie2 (ih Zo zkU Zo) fun R gY=>zab (wkl (p_1++[sb h1,sg h2,sb h4,si hw]) [0,19,20,21] 0 kr gY)
 ·cases h6:decide ((x.toNat:Int)<=122)
  ·cases h7:decide (48<=(x.toNat:Int))
   ·cases h8:(x.toNat:Int)==95
    ·exact .inr ⟨false,zrN,zab (wkr (p_1++[sg h1,sb h6,sb h7,sb h8]) kr)⟩
    ·exact zie2 (ih Zo zkU Zo) fun R gY=>zab (wkl (p_1++[sg h1,sb h6,sb h7,sb h8,si hw]) [0,19,20,21] 0 kr gY)
   ·cases h9:decide ((x.toNat:Int)<=57)
    ·cases h10:(x.toNat:Int)==95
     ·exact .inr ⟨false,zrN,zab (wkr (p_1++[sg h1,sb h6,sg h7,sb h9,sb h10]) kr)⟩
     ·exact zie2 (ih Zo zkU Zo) fun R gY=>zab (wkl (p_1++[sg h1,sb h6,sg h7,sb h9,sb h10,si hw]) [0,19,20,21] 0 kr gY)
    ·exact zie2 (ih Zo zkU Zo) fun R gY=>zab (wkl (p_1++[sg h1,sb h6,sg h7,sb h9,si hw]) [0,19,20,21] 0 kr gY)
  ·exact zie2 (ih Zo zkU Zo) fun R gY=>zab (wkl (p_1++[sg h1,sb h6,si hw]) [0,19,20,21] 0 kr gY)
theorem zoh {s:Str} {c:UInt8} (h:ByteAt s 0 ((c.toNat:Nat):Int)):s.data.toList.getD 0 0=c:=by
 obtain ⟨_,h1⟩:=h
 rw [Option.map_eq_some_iff] at h1
 obtain ⟨b,hb,e⟩:=h1
 have hc:b=c:=UInt8.toNat_inj.1 Zo
 subst hc
 have hb2:s[(0:Nat)]?=some b:=hb
 by_cases h:0 < s.size
 ·rw [getElem?_pos s 0 h,Option.some.injEq] at hb2
  have h2:0 < s.data.size:=h
  rw [List.getD_eq_getElem?_getD,Array.getElem?_toList,Array.getElem?_eq_getElem h2]
  exact hb2
 ·rw [getElem?_neg s 0 h] at hb2;simp at hb2
theorem zuF {s:Str} {c:UInt8} (h:ByteAt s 0 ((c.toNat:Nat):Int)) (h1:decide (((c.toNat:Nat):Int) < 97)=true):zaG s=false:=by
 have:=zoh h
 simp only [zaG,this,Bool.and_eq_false_iff,decide_eq_false_iff_not];simp at h1;omega
theorem zqL {s:Str} (h:s.data.toList.all okC=false):zaG s=false:=by simp [zaG,h]
theorem zAq {s:Str} {c d:UInt8} (h1:decide (((s.size:Nat):Int) < 1)=false) (h2:decide ((12:Int) < ((s.size:Nat):Int))=false) (h:ByteAt s 0 ((c.toNat:Nat):Int)) (h3:decide (((c.toNat:Nat):Int) < 97)=false) (h4:(s.data.toList.take s.data.toList.length).all okC=true) (h5:ByteAt s 0 ((d.toNat:Nat):Int)):(((d.toNat:Nat):Int) != 95)=zaG s:=by
 have e1:=zoh h
 have e2:=zoh h5
 rw [List.take_length] at h4
 subst e2
 rw [zic] at h1 h2
 rw [← e1] at h3
 simp only [decide_eq_false_iff_not] at h1 h2 h3
 have a1:decide (1<=s.data.toList.length)=true:=by simp only [decide_eq_true_eq];omega
 have a2:decide (s.data.toList.length<=12)=true:=by simp only [decide_eq_true_eq];omega
 have a3:decide (97<=(s.data.toList.getD 0 0).toNat)=true:=by simp only [decide_eq_true_eq];omega
 simp only [zaG,a1,a2,a3,h4,Bool.and_true,bne_iff_ne,ne_eq];omega
theorem zlJ (s:Str) :∃ (r:Bool),r=zaG s/\zaa E0 S.AP [sv s] [] (bv r) []:=by
 cases h1:decide ((↑(ByteArray.size s):Int) < 1)
 ·cases h2:decide (12 < (↑(ByteArray.size s):Int))
  ·obtain ⟨c3,b3⟩:=zoi (s:=s) (i:=(0:Int)) (by first|omega|(simp only [decide_eq_false_iff_not,decide_eq_true_eq] at *;omega))
   cases h4:decide ((c3.toNat:Int) < 97)
   ·let p_1:List St:=[sg h1,sg h2,sy b3,sb h4,sqx ((ByteArray.size s).le 1000000000000)]
    rcases zgT s (by first|assumption|omega|(simp;done)|(simp;omega)) 0 (by first|assumption|omega|(simp;done)|(simp;omega)) (by first|assumption|omega|(simp;done)|(simp;omega)) with ⟨q5,q5_1,g5⟩|⟨r5_0,p5_0,g5⟩
    ·exact ⟨(c3.toNat:Int) != (95:Int),zpe,wkc At.AP p_1 [0,19,20,21] 0 kr (g5 _ (zab (wkr [sb q5_1,sy b3] kr)))⟩
    ·exact ⟨r5_0,zpe,wkc At.AP p_1 [0,19,20,21] 0 kr (g5)⟩
   ·exact ⟨false,zpe,wk At.AP [sg h1,sg h2,sy b3,sb h4] kr⟩
  ·exact ⟨false,zpe,wk At.AP [sg h1,sb h2] kr⟩
 ·exact ⟨false,zpe,wk At.AP [sb h1] kr⟩
theorem zal (s:Str):zaa E0 S.AP [sv s] [] (bv (zaG s)) []:=by
 obtain ⟨r,rfl,h⟩:=zlJ s
 exact h
theorem zcP {p:Prop} (h:p:=by first|exact (zzX ‹_›).symm|(rw [zzW ‹_› ‹_›];clear hq hq2;generalize (e.kind==8)=k8 at *;generalize (e.kind==9)=k9 at *;subst_vars;simp only [zlZ,cond_false,cond_true,Bool.or_self,Bool.or_false,Bool.true_or,Bool.false_or,Bool.or_true,Bool.true_and,Bool.false_and,Bool.and_true,Bool.and_false, *])):p:=h
theorem zgv {p:Prop} (h:p:=by first|assumption|omega|exact List.mem_of_getElem? ‹_›|(simp only [bne_eq_false_iff_eq,zex] at *;omega)):p:=h
theorem zkV {p:Prop} (h:p:=by (simp only [zkt,zes, *];simp_all)):p:=h
abbrev sINS:Str:=⟨#[73,78,83,69,82,84,69,68]⟩
abbrev sDEL:Str:=⟨#[68,69,76,69,84,69,68]⟩
abbrev sNW:Str:=⟨#[78,69,87]⟩
abbrev sOL:Str:=⟨#[79,76,68]⟩
abbrev sNo:Str:=⟨#[]⟩
def zbW (s:Str):Bool:=zaG s || s.toList==sINS.toList || s.toList==sDEL.toList
theorem zor (s:Str) :∃ (r:Bool),r=zbW s/\zaa E0 S.CE [sv s] [] (bv r) []:=by
 cases h1:zaG s
 ·let p_1:List St:=[sc (zal s),sg h1]
  cases h2:ByteArray.toList s==ZsI.toList
  ·exact ⟨ByteArray.toList s==(ByteArray.mk #[(68:UInt8),(69:UInt8),(76:UInt8),(69:UInt8),(84:UInt8),(69:UInt8),(68:UInt8)]).toList,(by (simp only [zbW, *];simp)),wk At.CE (p_1++[sg h2]) kr⟩
  ·exact ⟨true,(by (simp only [zbW, *];simp)),wk At.CE (p_1++[sb h2]) kr⟩
 ·exact ⟨true,(by (simp only [zbW, *];simp)),wk At.CE [sc (zal s),sb h1] kr⟩
theorem zaU (s:Str):zaa E0 S.CE [sv s] [] (bv (zbW s)) []:=by
 obtain ⟨r,rfl,h⟩:=zor s
 exact h
def zes (s:Str):Bool:=s.toList==sNo.toList || s.toList==sNW.toList || s.toList==sOL.toList || s.toList==sINS.toList || s.toList==sDEL.toList || zaG s
def zkt (e:X):Bool:=zes e.table&&zaG e.name
theorem zoq (e:X) :∃ (r:Bool),r=zkt e/\zaa E0 S.BC [e.av] [] (bv r) []:=by
 cases h1:ByteArray.toList e.table==Zs0.toList
 ·cases h2:ByteArray.toList e.table==ZsN.toList
  ·cases h3:ByteArray.toList e.table==ZsO.toList
   ·cases h4:ByteArray.toList e.table==ZsI.toList
    ·cases h5:ByteArray.toList e.table==ZsD.toList
     ·let p_1:List St:=[sb h1,sb h2,sb h3,sb h4,sb h5,sc (zal e.table)]
      cases h6:!zaG e.table
      ·exact ⟨zaG e.name,zkV,wk At.BC (p_1++[sb h6,sc (zal e.name)]) kr⟩
      ·exact ⟨false,zkV,wk At.BC (p_1++[sb h6]) kr⟩
     ·exact ⟨zaG e.name,zkV,wk At.BC [sb h1,sb h2,sb h3,sb h4,sb h5,sc (zal e.name)] kr⟩
    ·exact ⟨zaG e.name,zkV,wk At.BC [sb h1,sb h2,sb h3,sb h4,sc (zal e.name)] kr⟩
   ·exact ⟨zaG e.name,zkV,wk At.BC [sb h1,sb h2,sb h3,sc (zal e.name)] kr⟩
  ·exact ⟨zaG e.name,zkV,wk At.BC [sb h1,sb h2,sc (zal e.name)] kr⟩
 ·exact ⟨zaG e.name,zkV,wk At.BC [sb h1,sc (zal e.name)] kr⟩
theorem zoQ (e:X):zaa E0 S.BC [e.av] [] (bv (zkt e)) []:=by
 obtain ⟨r,rfl,h⟩:=zoq e
 exact h
def argN (k:Int):Int:=bif k==3 || k==4 || k==6 then 1 else bif k==5 then 2 else bif k==7 then 3 else -1
theorem zlL (k:Int) :∃ (r:Int),r=argN k/\zaa E0 S.Bn [iv k] [] (iv r) []:=by
 cases h1:k==3
 ·cases h2:k==4
  ·cases h3:k==6
   ·cases h4:k==5
    ·cases h5:k==7
     ·exact ⟨-1,(by (simp only [argN, *];rfl)),wk At.Bn [sb h1,sb h2,sb h3,sb h4,sb h5] kr⟩
     ·exact ⟨3,(by (simp only [argN, *];rfl)),wk At.Bn [sb h1,sb h2,sb h3,sb h4,sb h5] kr⟩
    ·exact ⟨2,(by (simp only [argN, *];rfl)),wk At.Bn [sb h1,sb h2,sb h3,sb h4] kr⟩
   ·exact ⟨1,(by (simp only [argN, *];rfl)),wk At.Bn [sb h1,sb h2,sb h3] kr⟩
  ·exact ⟨1,(by (simp only [argN, *];rfl)),wk At.Bn [sb h1,sb h2] kr⟩
 ·exact ⟨1,(by (simp only [argN, *];rfl)),wk At.Bn [sb h1] kr⟩
theorem zb5 (k:Int):zaa E0 S.Bn [iv k] [] (iv (argN k)) []:=by
 obtain ⟨r,rfl,h⟩:=zlL k
 exact h
theorem zi3 (e:X) (b:Bool) (h:zaa E0 S.Ae [e.av] [] (bv b) []):∃ (r:Bool),r=!b/\zaa E0 S.A0 [e.av] [] (bv r) []:=by
 exact ⟨!b,Zr,wk At.A0 [sc h] kr⟩
theorem zjj (e:X) (b:Bool) (h:zaa E0 S.Ae [e.av] [] (bv b) []):zaa E0 S.A0 [e.av] [] (bv (!b)) []:=by
 obtain ⟨r,rfl,h⟩:=zi3 e b h
 exact h
theorem notT {b:Bool} (h:(!b)=false):b=true:=by simpa using h
theorem notF {b:Bool} (h:(!b)=true):b=false:=by simpa using h
noncomputable def zv4 (l:List X) (f:X->Bool) (i:Nat) :Cfg:=zaj B.AG 0 [(0,xsl l),(1,.fn S.A0 []),(7,iv ((zad l).length:Nat)),(8,iv (i:Nat))] []
theorem zdN (l:List X) (f:X->Bool) (hl:zac l) (hf:∀ x∈l,Pure S.Ae [x.av] (bv (f x))) (i:Nat)  (hi:i<=(l).length) (hI:(l.take i).all f=true):(((l.take (l).length).all f=true)/\(decide ((((l).length:Nat):Int) < (((zad l).length:Nat):Int))=false)/\∀ R,Good E0 B.AG [] (zv4 l f (l).length ) R->Good E0 B.AG [] (zv4 l f i ) R)\/(∃ (r:Int),(decide (0<=r)=true/\l.all f=false)/\Good E0 B.AG [] (zv4 l f i ) (Shut 0 fun rZ hZ=>rZ=(iv r)/\hZ=[])):=by
 have hk:=hi;revert i;refine zlp ((l).length) (fun i hlt ih hi hI _=>?_)
 obtain ⟨x,hx,h0,hw⟩:=zlq (l:=l) ((zad l).length) hlt
 have hfx:=zjj x (f x) (hf x (List.mem_of_getElem? hx))
 cases h1:!f x
 ·exact zie2 (ih Zo (by exact zf0 hI hx (notT ‹_›)) Zo) fun R gY=>zab (wkl [sb h0,se (zbr hx),sc hfx,sb h1,si hw] [0,1,7,8] 0 kr gY)
 ·exact .inr ⟨(i:Int),(by exact ⟨by simp,zhM hx (notF ‹_›)⟩),zab (wkr [sb h0,se (zbr hx),sc hfx,sb h1] kr)⟩
theorem c_ixE (l:List X) (f:X->Bool) (hl:zac l) (hf:∀ x∈l,Pure S.Ae [x.av] (bv (f x))):∃ (r:Int),decide (0<=r)=!l.all f/\zaa E0 S.AG [xsl l,.fn S.A0 []] [] (iv r) []:=by
 rcases zdN l f (by first|assumption|omega|(simp;done)|(simp;omega)) hf 0 (by first|assumption|omega|(simp;done)|(simp;omega)) (by first|assumption|omega|(simp;done)|(simp;omega)) with ⟨q1,q1_1,g1⟩|⟨r1_0,p1_0,g1⟩
 ·exact ⟨-1,(by first|(have h:=(by assumption:List.all (List.take _ _) _=true);rw [List.take_length] at h;rw [h];rfl)|(have h:=(by assumption:_/\List.all _ _=false);rw [h.1,h.2];rfl)),wkc At.AG [] [0,1,7,8] 0 kr (g1 _ (zab (wkr [sb q1_1] kr)))⟩
 ·exact ⟨r1_0,(by first|(have h:=(by assumption:List.all (List.take _ _) _=true);rw [List.take_length] at h;rw [h];rfl)|(have h:=(by assumption:_/\List.all _ _=false);rw [h.1,h.2];rfl)),wkc At.AG [] [0,1,7,8] 0 kr (g1)⟩
theorem c_cfE (l:List X) (f:X->Bool) (hi:∃ r:Int,decide (0<=r)=(!l.all f)/\zaa E0 S.AG [xsl l,.fn S.A0 []] [] (iv r) []):∃ (r:Bool),r=!l.all f/\zaa E0 S.BY [xsl l,.fn S.A0 []] [] (bv r) []:=by
 obtain ⟨r1,q1,c1⟩:=hi
 exact ⟨decide ((0:Int)<=r1),‹_›,wk At.BY [sc c1] kr⟩
theorem c_vxs (l:List X) (f:X->Bool) (hc:zaa E0 S.BY [xsl l,.fn S.A0 []] [] (bv (!l.all f)) []):∃ (r:Bool),r=l.all f/\zaa E0 S.AV [xsl l] [] (bv r) []:=by
 exact ⟨!!l.all f,(by first|rfl|(simp;done)),wk At.AV [sc hc] kr⟩
theorem zfe (l:List X) (f:X->Bool) (hl:zac l) (hf:∀ x∈l,Pure S.Ae [x.av] (bv (f x))):zaa E0 S.AV [xsl l] [] (bv (l.all f)) []:=by
 obtain ⟨r,rfl,h⟩:=c_cfE l f (c_ixE l f hl hf)
 obtain ⟨r,rfl,h⟩:=c_vxs l f h
 exact h
def zlZ (f:X->Bool) (k8 k9:Bool) (q:Qy):Bool:=(q.star==k8)&&(((zad q.items).length:Int)==bif k8 || k9 then 0 else 1)&&zbW q.frm&&decide (((zad q.wh).length:Int)<=1)&&q.items.all f&&q.wh.all f
def zc4 (f:X->Bool) (e:X):Bool:=match e.sub with
 | [q]=>zlZ f (e.kind==8) (e.kind==9) q
 | _=>false
theorem zzX {f:X->Bool} {e:X} (h:(((zag e.sub).length:Int) != 1)=true):zc4 f e=false:=by
 unfold zc4
 split
 ·rename_i h2;rw [h2] at h;simp at h
 ·rfl
theorem zzW {f:X->Bool} {e:X} {q:Qy} (h:(((zag e.sub).length:Int) != 1)=false) (h2:e.sub[0]?=some q):zc4 f e=zlZ f (e.kind==8) (e.kind==9) q:=by
 have h3:e.sub=[q]:=by
  cases hs:e.sub with
  | nil=>rw [hs] at h2;simp at h2
  | cons a r =>
   rw [hs] at h2 h;simp at h2;subst h2
   cases r with
   | nil=>rfl
   | cons b r=>simp at h;omega
 unfold zc4;rw [h3]
theorem zpJ (e:X) (f:X->Bool) (hq:∀ q∈e.sub,zaa E0 S.AV [xsl q.items] [] (bv (q.items.all f)) []) (hq2:∀ q∈e.sub,zaa E0 S.AV [xsl q.wh] [] (bv (q.wh.all f)) []):∃ (r:Bool),r=zc4 f e/\zaa E0 S.AD [e.av] [] (bv r) []:=by
 cases h1:(↑(zag e.sub).length:Int) != 1
 ·obtain ⟨x2,e2⟩:=zaY (l:=e.sub) (i:=0) zgv
  cases h3:e.kind==8
  ·cases h4:e.kind==9
   ·cases h5:x2.star==(e.kind==8)
    ·exact ⟨false,zcP,wk At.AD [sb h1,se (zaC e2),sg h3,sb h4,sb h5] kr⟩
    ·cases h6:(↑(zad x2.items).length:Int)==1
     ·exact ⟨false,zcP,wk At.AD [sb h1,se (zaC e2),sg h3,sb h4,sg h5,sb h6] kr⟩
     ·cases h7:zbW x2.frm
      ·exact ⟨false,zcP,wk At.AD [sb h1,se (zaC e2),sg h3,sb h4,sg h5,sg h6,sc (zaU x2.frm),sb h7] kr⟩
      ·cases h8:decide ((↑(zad x2.wh).length:Int)<=1)
       ·exact ⟨false,zcP,wk At.AD [sb h1,se (zaC e2),sg h3,sb h4,sg h5,sg h6,sc (zaU x2.frm),sg h7,sb h8] kr⟩
       ·cases h9:x2.items.all f
        ·exact ⟨false,zcP,wk At.AD [sb h1,se (zaC e2),sg h3,sb h4,sg h5,sg h6,sc (zaU x2.frm),sg h7,sg h8,sc (hq x2 zgv),sb h9] kr⟩
        ·exact ⟨x2.wh.all f,zcP,wk At.AD [sb h1,se (zaC e2),sg h3,sb h4,sg h5,sg h6,sc (zaU x2.frm),sg h7,sg h8,sc (hq x2 zgv),sg h9,sc (hq2 x2 zgv)] kr⟩
   ·cases h10:x2.star==(e.kind==8)
    ·exact ⟨false,zcP,wk At.AD [sb h1,se (zaC e2),sg h3,sb h4,sb h10] kr⟩
    ·cases h11:(↑(zad x2.items).length:Int)==0
     ·exact ⟨false,zcP,wk At.AD [sb h1,se (zaC e2),sg h3,sb h4,sg h10,sb h11] kr⟩
     ·cases h12:zbW x2.frm
      ·exact ⟨false,zcP,wk At.AD [sb h1,se (zaC e2),sg h3,sb h4,sg h10,sg h11,sc (zaU x2.frm),sb h12] kr⟩
      ·cases h13:decide ((↑(zad x2.wh).length:Int)<=1)
       ·exact ⟨false,zcP,wk At.AD [sb h1,se (zaC e2),sg h3,sb h4,sg h10,sg h11,sc (zaU x2.frm),sg h12,sb h13] kr⟩
       ·cases h14:x2.items.all f
        ·exact ⟨false,zcP,wk At.AD [sb h1,se (zaC e2),sg h3,sb h4,sg h10,sg h11,sc (zaU x2.frm),sg h12,sg h13,sc (hq x2 zgv),sb h14] kr⟩
        ·exact ⟨x2.wh.all f,zcP,wk At.AD [sb h1,se (zaC e2),sg h3,sb h4,sg h10,sg h11,sc (zaU x2.frm),sg h12,sg h13,sc (hq x2 zgv),sg h14,sc (hq2 x2 zgv)] kr⟩
  ·cases h15:x2.star==(e.kind==8)
   ·exact ⟨false,zcP,wk At.AD [sb h1,se (zaC e2),sb h3,sb h15] kr⟩
   ·cases h16:(↑(zad x2.items).length:Int)==0
    ·exact ⟨false,zcP,wk At.AD [sb h1,se (zaC e2),sb h3,sg h15,sb h16] kr⟩
    ·cases h17:zbW x2.frm
     ·exact ⟨false,zcP,wk At.AD [sb h1,se (zaC e2),sb h3,sg h15,sg h16,sc (zaU x2.frm),sb h17] kr⟩
     ·cases h18:decide ((↑(zad x2.wh).length:Int)<=1)
      ·exact ⟨false,zcP,wk At.AD [sb h1,se (zaC e2),sb h3,sg h15,sg h16,sc (zaU x2.frm),sg h17,sb h18] kr⟩
      ·cases h19:x2.items.all f
       ·exact ⟨false,zcP,wk At.AD [sb h1,se (zaC e2),sb h3,sg h15,sg h16,sc (zaU x2.frm),sg h17,sg h18,sc (hq x2 zgv),sb h19] kr⟩
       ·exact ⟨x2.wh.all f,zcP,wk At.AD [sb h1,se (zaC e2),sb h3,sg h15,sg h16,sc (zaU x2.frm),sg h17,sg h18,sc (hq x2 zgv),sg h19,sc (hq2 x2 zgv)] kr⟩
 ·exact ⟨false,zcP,wk At.AD [sb h1] kr⟩
theorem zbV {p:Prop} (h:p:=by (clear hva hin;simp only [vXF,zew,cond_true,cond_false,Bool.or_true,Bool.or_false,Bool.true_or,Bool.false_or,Bool.or_self, *])):p:=h
def zew (f:X->Bool) (e:X):Bool:=bif ((zad e.args).length:Int)==argN e.kind then e.args.all f else false
def vXF (f:X->Bool) (e:X):Bool :=
 bif e.kind==1 then (bif zbD e 4 then (bif zaE e.val then !(bif e.val.kind==1 then decide (e.val.int < 0) else false) else false) else false)
 else bif e.kind==2 then (bif zbD e 8 then zkt e else false)
 else bif e.kind==8 || e.kind==9 || e.kind==10 || e.kind==11 || e.kind==12 then (bif zbD e 32 then zc4 f e else false)
 else bif e.kind==5 then (bif decide (e.op < 1) then false else bif decide (13 < e.op) then false else bif !zbD e 17 then false else zew f e)
 else bif e.kind==6 then (bif !zbD e 18 then false else zew f e)
 else bif !zbD e 16 then false else zew f e
theorem zlK (e:X) (f:X->Bool) (hs:e.val.small) (hva:zaa E0 S.AV [xsl e.args] [] (bv (e.args.all f)) []) (hin:zaa E0 S.AD [e.av] [] (bv (zc4 f e)) []):∃ (r:Bool),r=vXF f e/\zaa E0 S.Ae [e.av] [] (bv r) []:=by
 cases h1:e.kind==1
 ·cases h2:e.kind==2
  ·cases h3:e.kind==8
   ·cases h4:e.kind==9
    ·cases h5:e.kind==10
     ·cases h6:e.kind==11
      ·cases h7:e.kind==12
       ·cases h8:e.kind==5
        ·cases h9:e.kind==6
         ·cases h10:!zbD e 16
          ·cases h11:(↑(zad e.args).length:Int)==argN e.kind
           ·exact ⟨false,zbV,wk At.Ae [sb h1,sb h2,sb h3,sb h4,sb h5,sb h6,sb h7,sb h8,sb h9,sc (zaB e 16),sb h10,sd [(5,[sc (zb5 e.kind)]),(8,[sb h11]),(9,[sb h11]),(10,[sb h11]),(11,[sb h11])]] kr⟩
           ·exact ⟨bif (↑(zad e.args).length:Int)==argN e.kind then e.args.all f else false,zbV,wk At.Ae [sb h1,sb h2,sb h3,sb h4,sb h5,sb h6,sb h7,sb h8,sb h9,sc (zaB e 16),sb h10,sd [(5,[sc (zb5 e.kind)]),(8,[sg h11]),(9,[sg h11]),(10,[so h11 (sc hva)])]] kr⟩
          ·exact ⟨false,zbV,wk At.Ae [sb h1,sb h2,sb h3,sb h4,sb h5,sb h6,sb h7,sb h8,sb h9,sc (zaB e 16),sb h10] kr⟩
         ·cases h12:!zbD e 18
          ·cases h13:(↑(zad e.args).length:Int)==argN e.kind
           ·exact ⟨false,zbV,wk At.Ae [sb h1,sb h2,sb h3,sb h4,sb h5,sb h6,sb h7,sb h8,sb h9,sc (zaB e 18),sb h12,sd [(5,[sc (zb5 e.kind)]),(8,[sb h13]),(9,[sb h13]),(10,[sb h13]),(11,[sb h13])]] kr⟩
           ·exact ⟨bif (↑(zad e.args).length:Int)==argN e.kind then e.args.all f else false,zbV,wk At.Ae [sb h1,sb h2,sb h3,sb h4,sb h5,sb h6,sb h7,sb h8,sb h9,sc (zaB e 18),sb h12,sd [(5,[sc (zb5 e.kind)]),(8,[sg h13]),(9,[sg h13]),(10,[so h13 (sc hva)])]] kr⟩
          ·exact ⟨false,zbV,wk At.Ae [sb h1,sb h2,sb h3,sb h4,sb h5,sb h6,sb h7,sb h8,sb h9,sc (zaB e 18),sb h12] kr⟩
        ·cases h14:decide (e.op < 1)
         ·cases h15:decide (13 < e.op)
          ·cases h16:!zbD e 17
           ·cases h17:(↑(zad e.args).length:Int)==argN e.kind
            ·exact ⟨false,zbV,wk At.Ae [sb h1,sb h2,sb h3,sb h4,sb h5,sb h6,sb h7,sb h8,sg h14,sg h15,sc (zaB e 17),sb h16,sd [(5,[sc (zb5 e.kind)]),(8,[sb h17]),(9,[sb h17]),(10,[sb h17]),(11,[sb h17])]] kr⟩
            ·exact ⟨bif (↑(zad e.args).length:Int)==argN e.kind then e.args.all f else false,zbV,wk At.Ae [sb h1,sb h2,sb h3,sb h4,sb h5,sb h6,sb h7,sb h8,sg h14,sg h15,sc (zaB e 17),sb h16,sd [(5,[sc (zb5 e.kind)]),(8,[sg h17]),(9,[sg h17]),(10,[so h17 (sc hva)])]] kr⟩
           ·exact ⟨false,zbV,wk At.Ae [sb h1,sb h2,sb h3,sb h4,sb h5,sb h6,sb h7,sb h8,sg h14,sg h15,sc (zaB e 17),sb h16] kr⟩
          ·exact ⟨false,zbV,wk At.Ae [sb h1,sb h2,sb h3,sb h4,sb h5,sb h6,sb h7,sb h8,sg h14,sb h15] kr⟩
         ·exact ⟨false,zbV,wk At.Ae [sb h1,sb h2,sb h3,sb h4,sb h5,sb h6,sb h7,sb h8,sb h14] kr⟩
       ·cases h18:zbD e 32
        ·exact ⟨false,zbV,wk At.Ae [sb h1,sb h2,sb h3,sb h4,sb h5,sb h6,sb h7,sc (zaB e 32),sb h18] kr⟩
        ·exact ⟨zc4 f e,zbV,wk At.Ae [sb h1,sb h2,sb h3,sb h4,sb h5,sb h6,sb h7,sc (zaB e 32),sg h18,sc hin] kr⟩
      ·cases h19:zbD e 32
       ·exact ⟨false,zbV,wk At.Ae [sb h1,sb h2,sb h3,sb h4,sb h5,sb h6,sc (zaB e 32),sb h19] kr⟩
       ·exact ⟨zc4 f e,zbV,wk At.Ae [sb h1,sb h2,sb h3,sb h4,sb h5,sb h6,sc (zaB e 32),sg h19,sc hin] kr⟩
     ·cases h20:zbD e 32
      ·exact ⟨false,zbV,wk At.Ae [sb h1,sb h2,sb h3,sb h4,sb h5,sc (zaB e 32),sb h20] kr⟩
      ·exact ⟨zc4 f e,zbV,wk At.Ae [sb h1,sb h2,sb h3,sb h4,sb h5,sc (zaB e 32),sg h20,sc hin] kr⟩
    ·cases h21:zbD e 32
     ·exact ⟨false,zbV,wk At.Ae [sb h1,sb h2,sb h3,sb h4,sc (zaB e 32),sb h21] kr⟩
     ·exact ⟨zc4 f e,zbV,wk At.Ae [sb h1,sb h2,sb h3,sb h4,sc (zaB e 32),sg h21,sc hin] kr⟩
   ·cases h22:zbD e 32
    ·exact ⟨false,zbV,wk At.Ae [sb h1,sb h2,sb h3,sc (zaB e 32),sb h22] kr⟩
    ·exact ⟨zc4 f e,zbV,wk At.Ae [sb h1,sb h2,sb h3,sc (zaB e 32),sg h22,sc hin] kr⟩
  ·cases h23:zbD e 8
   ·exact ⟨false,zbV,wk At.Ae [sb h1,sb h2,sc (zaB e 8),sb h23] kr⟩
   ·exact ⟨zkt e,zbV,wk At.Ae [sb h1,sb h2,sc (zaB e 8),sg h23,sc (zoQ e)] kr⟩
 ·cases h24:zbD e 4
  ·exact ⟨false,zbV,wk At.Ae [sb h1,sc (zaB e 4),sb h24] kr⟩
  ·cases h25:zaE e.val
   ·exact ⟨false,zbV,wk At.Ae [sb h1,sc (zaB e 4),sg h24,sc (zcH e.val (by first|assumption|omega|(simp;done)|(simp;omega))),sb h25] kr⟩
   ·cases h26:e.val.kind==1
    ·exact ⟨!false,zbV,wk At.Ae [sb h1,sc (zaB e 4),sg h24,sc (zcH e.val (by first|assumption|omega|(simp;done)|(simp;omega))),sg h25,sb h26] kr⟩
    ·exact ⟨!decide (e.val.int < (0:Int)),zbV,wk At.Ae [sb h1,sc (zaB e 4),sg h24,sc (zcH e.val (by first|assumption|omega|(simp;done)|(simp;omega))),sg h25,sg h26] kr⟩
def vX:Nat->X->Bool
 | 0,_=>false
 | n+1,e=>vXF (vX n) e
theorem zcC:∀ (n:Nat) (e:X),XOk n e->Pure S.Ae [e.av] (bv (vX n e))
 | 0,_,h=>h.elim
 | n+1,e,⟨hg,ha,hx,hs⟩=>by
  obtain ⟨r,rfl,h⟩:=zpJ e (vX n) (fun q hq=>zfe _ _ (Thin.short (hs q hq).1.1) fun x h'=>zcC n x ((hs q hq).2.1 x h')) (fun q hq=>zfe _ _ (Thin.short (hs q hq).1.2) fun x h'=>zcC n x ((hs q hq).2.2 x h'))
  obtain ⟨r,rfl,h⟩:=zlK e (vX n) hg.small (zfe _ _ (Thin.short ha.1) fun x h'=>zcC n x (hx x h')) h
  exact h
theorem zhZ {n:Nat} {l:List X} (hf:zac l) (h:∀ x∈l,XOk n x):zaa E0 S.AV [xsl l] [] (bv (l.all (vX n))) []:=zfe l _ hf fun x hx=>zcC n x (h x hx)
def zcL (f:X->Bool) (l:List X):Bool:=bif decide (((zad l).length:Int)<=1) then l.all f else false
theorem zlM (l:List X) (f:X->Bool) (h:zaa E0 S.AV [xsl l] [] (bv (l.all f)) []):∃ (r:Bool),r=zcL f l/\zaa E0 S.Bl [xsl l] [] (bv r) []:=by
 cases h1:decide ((↑(zad l).length:Int)<=1)
 ·exact ⟨false,(by (clear h;simp only [zcL,cond_true,cond_false, *])),wk At.Bl [sb h1] kr⟩
 ·exact ⟨l.all f,(by (clear h;simp only [zcL,cond_true,cond_false, *])),wk At.Bl [sg h1,sc h] kr⟩
theorem zgM {n:Nat} {l:List X} (hf:zac l) (h:∀ x∈l,XOk n x):zaa E0 S.Bl [xsl l] [] (bv (zcL (vX n) l)) []:=by
 obtain ⟨r,rfl,h⟩:=zlM l (vX n) (zhZ hf h)
 exact h
theorem PrefOk.good {cols:List Col} {vals:List V} (h:zcX cols vals):∀ v∈vals,v.Good:=fun v hv=>by
 obtain ⟨k,hk,hkv⟩:=List.mem_iff_getElem.1 hv
 have hl:=h.len
 obtain ⟨c,hc⟩:=zaY (l:=cols) (i:=k) Zo
 exact (h.at_ k c v hc (by rw [← hkv];simp)).good
theorem FsT.ok {frs:List Fr} (h:FsT frs) (n:Nat) (hn:n<=900000):FsOk n frs :=
 ⟨by have:=h.len;omega,fun f hf=>zaQ (h.few f hf),fun f hf v hv=>((h.rows f hf).good v hv).small⟩
theorem FsT.g {frs:List Fr} (h:FsT frs):FsG frs:=fun f hf v hv=>(h.rows f hf).good v hv
theorem StoreOk.tbOk {l:List Tb} (h:StoreOk l):TbOk l :=
 ⟨by have:=h.len;simp only [zac];omega,fun x hx=>(h.tabs x hx).2.short,fun x hx=>(h.tabs x hx).1.len,fun x hx r hr v hv=>(((h.tabs x hx).1.rows r hr).good v hv).small⟩
theorem StoreOk.tbG {l:List Tb} (h:StoreOk l):TbG l :=
 ⟨fun x hx r hr v hv=>((h.tabs x hx).1.rows r hr).good v hv,fun x hx=>(h.tabs x hx).1.len⟩
theorem zzR (n:Nat) (hn:n<=1000):FsOk n []:=⟨by simp;omega,fun f hf=>(by cases hf),fun f hf=>(by cases hf)⟩
theorem zA7:FsG []:=fun f hf=>by cases hf
/- ### the order of values -/
theorem zdj (a:ByteArray):a.toList=a.data.toList:=Lib.toList_data a
theorem zkb {a b:Str} (h:a.toList=b.toList):a=b:=by
 rw [zdj,zdj] at h
 cases a;cases b;simp at h;rw [h]
theorem zmR {a b:Int} (h:a < b):cmpI a b=-1:=by simp [cmpI,h]
theorem zmP {a b:Int} (h:a=b):cmpI a b=0:=by simp [cmpI,h]
theorem zmQ {a b:Int} (h:b < a):cmpI a b=1:=by
 have:¬ a < b:=by omega
 simp [cmpI,h,this]
/- ### least and greatest items -/
/- ### sums -/
abbrev frIn (frs:List Fr) (s:Sch):List Fr:=frs++[⟨s.name,false,s.cols,[]⟩]
abbrev xA (k o:Int) (nt:Bool) (l:List X):X:=X.mk k o nt ⟨0,0,⟨#[]⟩⟩ ⟨#[]⟩ ⟨#[]⟩ l []
abbrev xQ (k:Int) (st:Bool) (it:List X) (f:Str) (wh:List X):X:=X.mk k 0 false ⟨0,0,⟨#[]⟩⟩ ⟨#[]⟩ ⟨#[]⟩ [] [Qy.mk st it f wh]
def ColT (frs:List Fr) (w:Int) (x:X):Prop:=∃ (i:Nat) (f:Fr) (c:Col) (a:Str),frs[i]?=some f/\c∈f.cols/\c.type=w/\x=xCol a c.name/\(a=f.name\/(a=⟨#[]⟩/\f.strict=false/\i+1=frs.length))
def BinT (op w' w:Int):Prop:=(1<=op/\op<=2/\w'=2/\w=2)\/(3<=op/\op<=8/\w=2)\/(9<=op/\op<=13/\w'=1/\w=1)
def QryT (k w:Int) (st:Bool) (m:Nat):Prop:=(k=8/\w=2/\st=true/\m=0)\/(k=9/\w=1/\st=false/\m=0)\/(10<=k/\k<=12/\w=1/\st=false/\m=1)
inductive XT (tbs:List Sch):Nat->List Fr->Int->X->Prop
 | lit {n:Nat} {frs:List Fr} {w:Int} {v:V}:v.Good->(v.kind=0\/v.kind=w)->(v.kind=1->0<=v.int)->XT tbs (n+1) frs w (xLit v)
 | col {n:Nat} {frs:List Fr} {w:Int} {x:X}:ColT frs w x->XT tbs (n+1) frs w x
 | un {n:Nat} {frs:List Fr} {k w:Int} {a:X}:(k=3/\w=2\/k=4/\w=1)->XT tbs n frs w a->XT tbs (n+1) frs w (xA k 0 false [a])
 | isn {n:Nat} {frs:List Fr} {w:Int} {nt:Bool} {a:X}:XT tbs n frs w a->XT tbs (n+1) frs 2 (xA 6 0 nt [a])
 | bin {n:Nat} {frs:List Fr} {op w' w:Int} {a b:X}:BinT op w' w->XT tbs n frs w' a->XT tbs n frs w' b->XT tbs (n+1) frs w (xA 5 op false [a,b])
 | btw {n:Nat} {frs:List Fr} {a b c:X}:XT tbs n frs 1 a->XT tbs n frs 1 b->XT tbs n frs 1 c->XT tbs (n+1) frs 2 (xA 7 0 false [a,b,c])
 | qry {n:Nat} {frs:List Fr} {k w:Int} {st:Bool} {it wh:List X} {s:Sch}:s∈tbs->QryT k w st it.length->wh.length<=1->(∀ x∈it,XT tbs n (frIn frs s) 1 x)->(∀ x∈wh,XT tbs n (frIn frs s) 2 x)->XT tbs (n+1) frs w (xQ k st it s.name wh)
theorem ColT.is {frs:List Fr} {w:Int} {x:X} (h:ColT frs w x):zrl x:=by
 obtain ⟨i,f,c,a,_,_,_,h,_⟩:=h
 exact ⟨a,c.name,h⟩
theorem XT.ok {tbs:List Sch} {n:Nat} {frs:List Fr} {w:Int} {e:X} (h:XT tbs n frs w e):XOk n e:=by
 induction h with
 | lit h _ _=>exact zp7 h
 | col h=>exact zBS h.is
 | un _ _ ih=>exact xok_1 ih
 | isn _ ih=>exact xok_1 ih
 | bin _ _ _ i1 i2=>exact xok_2 i1 i2
 | btw _ _ _ i1 i2 i3=>exact xok_3 i1 i2 i3
 | @qry n frs k w st it wh s hs hq hw _ _ i1 i2 =>
  refine xok_q ?_ i1 i2 hw
  rcases hq with ⟨_,_,_,h⟩|⟨_,_,_,h⟩|⟨_,_,_,_,h⟩ <;> simp [Thin,h]
theorem XT.mono {tbs:List Sch} {n:Nat} {frs:List Fr} {w:Int} {e:X} (h:XT tbs n frs w e):XT tbs (n+1) frs w e:=by
 induction h with
 | lit h h2 h3=>exact .lit h h2 h3
 | col h=>exact .col h
 | un h _ ih=>exact .un h ih
 | isn _ ih=>exact .isn ih
 | bin h _ _ i1 i2=>exact .bin h i1 i2
 | btw _ _ _ i1 i2 i3=>exact .btw i1 i2 i3
 | qry hs hq hw _ _ i1 i2=>exact .qry hs hq hw i1 i2
theorem XT.le {tbs:List Sch} {n m:Nat} {frs:List Fr} {w:Int} {e:X} (h:XT tbs n frs w e) (hm:n<=m):XT tbs m frs w e:=by
 induction hm with
 | refl=>exact h
 | step _ ih=>exact ih.mono
structure EnvT (G:Str->List Col):Prop where
 name:∀ n c,c∈G n->zaG c.name=true
 at_:∀ n (i:Nat) c,(G n)[i]?=some c->idxF (fun x=>colC x c.name) (G n) 0=(i:Int)
structure FsT' (G:Str->List Col) (frs:List Fr):Prop where
 cols:∀ f∈frs,f.cols=G f.name
 qual:∀ f∈frs,zes f.name=true
 ne:∀ f∈frs,f.name≠⟨#[]⟩
structure TbE (G:Str->List Col) (tbs:List Sch) (tb:List Tb):Prop where
 cols:∀ s∈tbs,s.cols=G s.name
 src:∀ s∈tbs,zbW s.name=true
 get:∀ s∈tbs,zaN tb s.name=(s,true)
theorem zAp {s:Str} (h:zaG s=true):s≠⟨#[]⟩:=fun e=>by subst e;exact absurd h Zd
theorem zBM {s:Str} (h:zbW s=true):zes s=true/\s≠⟨#[]⟩:=by
 have h0:zbW ⟨#[]⟩=false:=by kernel_rfl
 refine ⟨?_,fun e=>by subst e;rw [h0] at h;cases h⟩
 simp only [zbW,Bool.or_eq_true] at h
 simp only [zes,Bool.or_eq_true]
 rcases h with (h|h)|h
 ·exact .inr h
 ·exact .inl (.inl (.inr h))
 ·exact .inl (.inr h)
theorem FsT'.ins {G:Str->List Col} {tbs:List Sch} {tb:List Tb} {frs:List Fr} (h:FsT' G frs) (ht:TbE G tbs tb) {s:Sch} (hs:s∈tbs):FsT' G (frIn frs s):=by
 have h1:=zBM (ht.src s hs)
 refine ⟨fun f hf=>?_,fun f hf=>?_,fun f hf=>?_⟩ <;> simp only [List.mem_append,List.mem_singleton] at hf <;> rcases hf with hf|rfl
 ·exact h.cols f hf
 ·exact ht.cols s hs
 ·exact h.qual f hf
 ·exact h1.1
 ·exact h.ne f hf
 ·exact h1.2
theorem zAk {G:Str->List Col} (hG:EnvT G) {frs:List Fr} (hf:FsT' G frs) {a n:Str} {c:Col} {i:Nat} {f:Fr} (hi:frs[i]?=some f) (hc:c∈f.cols) (hn:c.name=n) (ha:a=f.name\/(a=⟨#[]⟩/\f.strict=false/\i+1=frs.length)):∀ k,i < k->k<=frs.length->∃ (j m:Nat) (g:Fr),rres frs a n k=((j:Int),(m:Int),true)/\frs[j]?=some g/\g.cols[m]?=some c:=by
 intro k
 induction k with
 | zero=>intro h;omega
 | succ k ih =>
  intro h1 h2
  have hx:=zmV (l:=frs) (k:=k) zaR Zo
  generalize hg:frs.getD k zaR=g at hx
  have hgm:=List.mem_of_getElem? hx
  have hhit:c∈g.cols->zcG frs a n k g (rres frs a n k) g.cols 0=((k:Int),idxF (fun x=>colC x n) g.cols 0,true)/\∃ m:Nat,idxF (fun x=>colC x n) g.cols 0=(m:Int)/\g.cols[m]?=some c:=fun hcg=>by
   obtain ⟨m,hm⟩:=List.getElem?_of_mem hcg
   have e:idxF (fun x=>colC x n) g.cols 0=(m:Int):=by
    have:=hG.at_ g.name m c (by rw [← hf.cols g hgm];exact hm)
    rw [hn,← hf.cols g hgm] at this;exact this
   refine ⟨?_,m,e,hm⟩
   rw [zkM,e]
   have e1:decide ((0:Int)<=(m:Int))=true:=by simp
   have e2:pm1 (k+1)=(k:Int):=by simp [pm1]
   rw [e1,e2];rfl
  have hfin:c∈g.cols->∃ (j m:Nat) (g':Fr),zcG frs a n k g (rres frs a n k) g.cols 0=((j:Int),(m:Int),true)/\frs[j]?=some g'/\g'.cols[m]?=some c:=fun hcg=>by
   obtain ⟨q1,m,q2,q3⟩:=hhit hcg
   exact ⟨k,m,g,by rw [q1,q2],hx,q3⟩
  have hsame:k=i->c∈g.cols:=fun e=>by
   subst e
   rw [hi,Option.some.injEq] at hx
   exact hx ▸ hc
  simp only [rres,hg]
  rcases ha with rfl|⟨rfl,h3,h4⟩
  ·have e0:(ByteArray.toList f.name==Zs0.toList)=false:=by
    cases hb:ByteArray.toList f.name==Zs0.toList
    ·rfl
    ·exact absurd (zkb (by simpa using hb)) (hf.ne f (List.mem_of_getElem? hi))
   rw [e0,cond_false]
   cases hb:ByteArray.toList g.name==ByteArray.toList f.name
   ·simp only [Bool.not_false,cond_true]
    refine ih ?_ Zo
    rcases Nat.lt_or_ge i k with h|h
    ·exact h
    ·exfalso
     have e:k=i:=by omega
     subst e
     rw [hi,Option.some.injEq] at hx
     subst hx
     simp at hb
   ·simp only [Bool.not_true,cond_false]
    refine hfin ?_
    rw [hf.cols g hgm,zkb (by simpa using hb:g.name.toList=f.name.toList),← hf.cols f (List.mem_of_getElem? hi)]
    exact hc
  ·have e0:(ByteArray.toList (⟨#[]⟩:Str)==Zs0.toList)=true:=by simp
   have e1:k=i:=by omega
   have hgf:g=f:=by
    have:=hx;rw [e1,hi,Option.some.injEq] at this;exact this.symm
   rw [e0,cond_true,hgf,h3,cond_false,← hgf]
   exact hfin (hsame e1)
theorem ColT.res {G:Str->List Col} (hG:EnvT G) {frs:List Fr} (hf:FsT' G frs) {w:Int} {x:X} (h:ColT frs w x):∃ a n,x=xCol a n/\(zaM frs a n).2.2=true/\(rCol frs a n).type=w/\zes a=true/\zaG n=true:=by
 obtain ⟨i,f,c,a,hi,hc,hw,rfl,ha⟩:=h
 obtain ⟨j,m,g,e,h1,h2⟩:=zAk hG hf hi hc rfl ha frs.length (List.getElem?_eq_some_iff.1 hi).1 (Nat.le_refl _)
 have e':zaM frs a c.name=((j:Int),(m:Int),true):=e
 refine ⟨a,c.name,rfl,by rw [e'],?_,?_,hG.name f.name c (by rw [← hf.cols f (List.mem_of_getElem? hi)];exact hc)⟩
 ·have e1:rFr frs a c.name=g:=by simp [rFr,e',List.getD_eq_getElem?_getD,h1]
  have e2:rCol frs a c.name=c:=by simp [rCol,e1,e',List.getD_eq_getElem?_getD,h2]
  rw [e2,hw]
 ·rcases ha with rfl|⟨rfl,_,_⟩
  ·exact hf.qual f (List.mem_of_getElem? hi)
  ·kernel_rfl
theorem zxl {p:Prop} (h:p:=by first|(have h:=nm_end ‹_›;unfold zfr;rw [h,show decide (8 < ((List.map zbh l).length:Int))=false by assumption];rfl)|(have h:=‹_/\nmL [] _=false›;unfold zfr;rw [h.1,h.2];cases decide (8 < ((List.map zbh l).length:Int)) <;> rfl)|(unfold zfr;rw [show decide (8 < ((List.map zbh l).length:Int))=true by assumption];rfl)):p:=h
theorem zrO {p:Prop} (h:p:=by first|assumption|omega|(simp;done)|exact ⟨by simp,by simp⟩|(have h9:=And.left ‹_=List.map Se.col _/\List.all _ _=true›;rw [h9];simp only [zac,List.length_map,List.length_take] at *;omega)):p:=h
theorem znd {p:Prop} (h:p:=by first|assumption|omega|(simp;done)|(simp;omega)):p:=h
theorem zpf {p:Prop} (h:p:=by (clear ha hb;simp only [qyB,cond_true,cond_false, *])):p:=h
def qyB (f:X->Bool) (q:Qy):Bool:=bif !(q.star==(((zad q.items).length:Int)==0)) then false else bif decide (8 < ((zad q.items).length:Int)) then false else bif zbW q.frm then (bif q.items.all f then zcL f q.wh else false) else false
theorem zlj (q:Qy) (f:X->Bool) (ha:zaa E0 S.AV [xsl q.items] [] (bv (q.items.all f)) []) (hb:zaa E0 S.Bl [xsl q.wh] [] (bv (zcL f q.wh)) []):∃ (r:Bool),r=qyB f q/\zaa E0 S.AS [q.av] [] (bv r) []:=by
 cases h1:!q.star==((↑(zad q.items).length:Int)==0)
 ·cases h2:decide (8 < (↑(zad q.items).length:Int))
  ·cases h3:zbW q.frm
   ·exact ⟨false,zpf,wk At.AS [sg h1,sb h2,sc (zaU q.frm),sb h3] kr⟩
   ·cases h4:q.items.all f
    ·exact ⟨false,zpf,wk At.AS [sg h1,sb h2,sc (zaU q.frm),sg h3,sc ha,sb h4] kr⟩
    ·exact ⟨zcL f q.wh,zpf,wk At.AS [sg h1,sb h2,sc (zaU q.frm),sg h3,sc ha,sg h4,sc hb] kr⟩
  ·exact ⟨false,zpf,wk At.AS [sg h1,sb h2] kr⟩
 ·exact ⟨false,zpf,wk At.AS [sb h1] kr⟩
theorem zlx {n:Nat} {q:Qy} (h:QW n q):zaa E0 S.AS [q.av] [] (bv (qyB (vX n) q)) []:=by
 obtain ⟨r,rfl,h⟩:=zlj q (vX n) (zhZ (zaQ h.items) h.hi) (zgM (zaQ h.wh) h.hw)
 exact h
def zcJ (f:X->Bool) (l:List X):Bool:=bif decide (((zad l).length:Int) < 1) then true else bif decide (6 < ((zad l).length:Int)) then true else !l.all f
theorem zjI (l:List X) (f:X->Bool) (ha:zaa E0 S.AV [xsl l] [] (bv (l.all f)) []):∃ (r:Bool),r=zcJ f l/\zaa E0 S.AI [xsl l] [] (bv r) []:=by
 cases h1:decide ((↑(zad l).length:Int) < 1)
 ·cases h2:decide (6 < (↑(zad l).length:Int))
  ·exact ⟨!l.all f,(by (clear ha;simp only [zcJ,cond_true,cond_false, *])),wk At.AI [sg h1,sg h2,sc ha] kr⟩
  ·exact ⟨true,(by (clear ha;simp only [zcJ,cond_true,cond_false, *])),wk At.AI [sg h1,sb h2] kr⟩
 ·exact ⟨true,(by (clear ha;simp only [zcJ,cond_true,cond_false, *])),wk At.AI [sb h1] kr⟩
theorem zpY {n:Nat} {l:List X} (hl:zac l) (h:∀ x∈l,XOk n x):zaa E0 S.AI [xsl l] [] (bv (zcJ (vX n) l)) []:=by
 obtain ⟨r,rfl,h⟩:=zjI l (vX n) (zhZ hl h)
 exact h
noncomputable def zv3 (l:List (List X)) (f:X->Bool) (i:Nat) :Cfg:=zaj B.AN 0 [(0,.sl (l.map zau)),(1,.fn S.AI []),(7,iv ((l.map zau).length:Nat)),(8,iv (i:Nat))] []
theorem zeu (l:List (List X)) (f:X->Bool) (hl:zac l) (hf:∀ x∈l,Pure S.AI [xsl x] (bv (zcJ f x))) (i:Nat)  (hi:i<=(l).length) (hI:(l.take i).all (fun r=>!zcJ f r)=true):(((l.take (l).length).all (fun r=>!zcJ f r)=true)/\(decide ((((l).length:Nat):Int) < (((l.map zau).length:Nat):Int))=false)/\∀ R,Good E0 B.AN [] (zv3 l f (l).length ) R->Good E0 B.AN [] (zv3 l f i ) R)\/(∃ (r:Int),(decide (0<=r)=true/\l.all (fun r=>!zcJ f r)=false)/\Good E0 B.AN [] (zv3 l f i ) (Shut 0 fun rZ hZ=>rZ=(iv r)/\hZ=[])):=by
 have hk:=hi;revert i;refine zlp ((l).length) (fun i hlt ih hi hI _=>?_)
 obtain ⟨x,hx,h0,hw⟩:=zlq (l:=l) ((l.map zau).length) hlt
 have hfx:=hf x (List.mem_of_getElem? hx)
 let p_1:List St:=[sb h0,se (zaf zau hx rfl),sc hfx]
 cases h1:zcJ f x
 ·exact zie2 (ih Zo (by exact zf0 hI hx (by simp only [*];rfl)) Zo) fun R gY=>zab (wkl (p_1++[sb h1,si hw]) [0,1,7,8] 0 kr gY)
 ·exact .inr ⟨(i:Int),(by exact ⟨by simp,zhM hx (by simp only [*];rfl)⟩),zab (wkr (p_1++[sb h1]) kr)⟩
theorem c_ixR (l:List (List X)) (f:X->Bool) (hl:zac l) (hf:∀ x∈l,Pure S.AI [xsl x] (bv (zcJ f x))):∃ (r:Int),decide (0<=r)=!l.all (fun r=>!zcJ f r)/\zaa E0 S.AN [.sl (l.map zau),.fn S.AI []] [] (iv r) []:=by
 rcases zeu l f znd hf 0 znd znd with ⟨q1,q1_1,g1⟩|⟨r1_0,p1_0,g1⟩
 ·exact ⟨-1,(by first|(have h:=(by assumption:List.all (List.take _ _) _=true);rw [List.take_length] at h;rw [h];rfl)|(have h:=(by assumption:_/\List.all _ _=false);rw [h.1,h.2];rfl)),wkc At.AN [] [0,1,7,8] 0 kr (g1 _ (zab (wkr [sb q1_1] kr)))⟩
 ·exact ⟨r1_0,(by first|(have h:=(by assumption:List.all (List.take _ _) _=true);rw [List.take_length] at h;rw [h];rfl)|(have h:=(by assumption:_/\List.all _ _=false);rw [h.1,h.2];rfl)),wkc At.AN [] [0,1,7,8] 0 kr (g1)⟩
theorem c_cfR (l:List (List X)) (b:Bool) (hi:∃ r:Int,decide (0<=r)=b/\zaa E0 S.AN [.sl (l.map zau),.fn S.AI []] [] (iv r) []):∃ (r:Bool),r=b/\zaa E0 S.Ch [.sl (l.map zau),.fn S.AI []] [] (bv r) []:=by
 obtain ⟨r1,q1,c1⟩:=hi
 exact ⟨decide ((0:Int)<=r1),‹_›,wk At.Ch [sc c1] kr⟩
def zeH (f:X->Bool) (l:List (List X)):Bool:=bif decide (((l.map zau).length:Int)<=8) then l.all (fun r=>!zcJ f r) else false
theorem zlN (l:List (List X)) (f:X->Bool) (hi:zaa E0 S.Ch [.sl (l.map zau),.fn S.AI []] [] (bv (!l.all (fun r=>!zcJ f r))) []):∃ (r:Bool),r=zeH f l/\zaa E0 S.BE [.sl (l.map zau)] [] (bv r) []:=by
 cases h1:decide ((↑(List.map zau l).length:Int)<=8)
 ·exact ⟨false,(by (clear hi;simp only [zeH,cond_true,cond_false,Bool.not_not, *])),wk At.BE [sb h1] kr⟩
 ·exact ⟨!!l.all fun r=>!zcJ f r,(by (clear hi;simp only [zeH,cond_true,cond_false,Bool.not_not, *])),wk At.BE [sg h1,sc hi] kr⟩
theorem zmb {n:Nat} {l:List (List X)} (hl:zac l) (h:∀ r∈l,Few r/\∀ x∈r,XOk n x):zaa E0 S.BE [.sl (l.map zau)] [] (bv (zeH (vX n) l)) []:=by
 obtain ⟨r,rfl,h⟩:=c_cfR l _ (c_ixR l (vX n) hl fun x hx=>zpY (zaQ (h x hx).1) (h x hx).2)
 obtain ⟨r,rfl,h⟩:=zlN l (vX n) h
 exact h
def nmL:List Str->List Str->Bool
 | _,[]=>true
 | pre,s::r=>bif !zaG s then false else bif hasS pre s then false else nmL (pre++[s]) r
def zfr (l:List Str):Bool:=bif decide (8 < ((l.map zbh).length:Int)) then false else nmL [] l
theorem zBm {l:List Str} {i:Nat} {x:Str} (h:nmL [] l=nmL (l.take i) (l.drop i)) (hx:l[i]?=some x) (h1:(!zaG x)=false) (h2:hasS (l.take i) x=false):nmL [] l=nmL (l.take (i+1)) (l.drop (i+1)):=by
 obtain ⟨hi,e⟩:=List.getElem?_eq_some_iff.1 hx
 rw [h,List.drop_eq_getElem_cons hi,e]
 simp only [nmL,h1,h2,cond_false]
 rw [List.take_add_one,hx];rfl
theorem zoZ {l:List Str} {i:Nat} {x:Str} (h:nmL [] l=nmL (l.take i) (l.drop i)) (hx:l[i]?=some x) (h1:(!zaG x)=true\/hasS (l.take i) x=true):nmL [] l=false:=by
 obtain ⟨hi,e⟩:=List.getElem?_eq_some_iff.1 hx
 rw [h,List.drop_eq_getElem_cons hi,e]
 rcases h1 with h1|h1
 ·simp only [nmL,h1,cond_true]
 ·simp only [nmL,h1,cond_true];cases !zaG x <;> rfl
theorem nm_end {l:List Str} (h:nmL [] l=nmL (l.take l.length) (l.drop l.length)):nmL [] l=true:=by
 rw [h,List.drop_length];rfl
noncomputable def L_nm (l:List Str) (i:Nat) :Cfg:=zaj B.Bz 0 [(0,ssl l),(8,ssl l),(9,iv ((l.map zbh).length:Nat)),(10,iv (i:Nat))] []
theorem ziz (l:List Str) (hl:zac l) (i:Nat)  (hi:i<=(l).length) (hI:nmL [] l=nmL (l.take i) (l.drop i)):((nmL [] l=nmL (l.take (l).length) (l.drop (l).length))/\(decide ((((l).length:Nat):Int) < (((l.map zbh).length:Nat):Int))=false)/\∀ R,Good E0 B.Bz [] (L_nm l (l).length ) R->Good E0 B.Bz [] (L_nm l i ) R)\/(∃ (r:Bool),(r=false/\nmL [] l=false)/\Good E0 B.Bz [] (L_nm l i ) (Shut 0 fun rZ hZ=>rZ=(bv r)/\hZ=[])):=by
 have hk:=hi;revert i;refine zlp ((l).length) (fun i hlt ih hi hI _=>?_)
 obtain ⟨x,hx,h0,hw⟩:=zlq (l:=l) ((l.map zbh).length) hlt
 have hc:zaa E0 S.Cq [.sl ((l.map zbh).take i),sv x] [] (bv (hasS (l.take i) x)) []:=by
  rw [← List.map_take];exact zdV (l.take i) x (by simp only [zac,List.length_take] at *;omega)
 let p_1:List St:=[sb h0,se (zaf (fun s=>[sv s]) hx rfl),sc (zal x)]
 cases h1:!zaG x
 ·let p_2:List St:=p_1++[sg h1,sqx (SubAt (List.map (fun s=>[sv s]) l) 0 (i:Int) 1),sc hc]
  cases h2:hasS (List.take i l) x
  ·exact zie2 (ih Zo (by exact zBm hI hx ‹_› ‹_›) Zo) fun R gY=>zab (wkl (p_2++[sb h2,si hw]) [0,8,9,10] 0 kr gY)
  ·exact .inr ⟨false,(by first|exact ⟨rfl,zoZ hI hx (.inl ‹_›)⟩|exact ⟨rfl,zoZ hI hx (.inr ‹_›)⟩),zab (wkr (p_2++[sb h2]) kr)⟩
 ·exact .inr ⟨false,(by first|exact ⟨rfl,zoZ hI hx (.inl ‹_›)⟩|exact ⟨rfl,zoZ hI hx (.inr ‹_›)⟩),zab (wkr (p_1++[sb h1]) kr)⟩
theorem zpK (l:List Str) (hl:zac l):∃ (r:Bool),r=zfr l/\zaa E0 S.Bz [ssl l] [] (bv r) []:=by
 cases h1:decide (8 < (↑(List.map (fun s=>[sv s]) l).length:Int))
 ·rcases ziz l znd 0 znd znd with ⟨q2,q2_1,g2⟩|⟨r2_0,p2_0,g2⟩
  ·exact ⟨true,zxl,wkc At.Bz [sb h1] [0,8,9,10] 0 kr (g2 _ (zab (wkr [sb q2_1] kr)))⟩
  ·exact ⟨r2_0,zxl,wkc At.Bz [sb h1] [0,8,9,10] 0 kr (g2)⟩
 ·exact ⟨false,zxl,wk At.Bz [sb h1] kr⟩
theorem zpX (l:List Str) (hl:zac l):zaa E0 S.Bz [ssl l] [] (bv (zfr l)) []:=by
 obtain ⟨r,rfl,h⟩:=zpK l hl
 exact h
def zdM (f:X->Bool) (l:List Se):Bool:=bif l.all (fun s=>f s.ex) then zfr (l.map Se.col) else false
noncomputable def L_vs (l:List Se) (f:X->Bool) (i:Nat) (cs:List Str):Cfg:=zaj B.AQ 0 [(3,.own 0 cs.length),(6,.sl (l.map Se.cells)),(7,iv ((l.map Se.cells).length:Nat)),(8,iv (i:Nat))] [.row Ty.string (cs.map zbh) false]
theorem Zcv7 {p:Prop} (h:p:=by first|rfl|(simp;done)|(simp [X.cells,Qy.cells,V.cells,Col.cells,Rw.cells,Tb.cells,Fr.cells,Sch.cells,Tp.cells,Pl.cells,xCol,xLit,xBin,xNeg,Ac.cells,Se.cells];done)):p:=h
theorem zgV (l:List Se) (f:X->Bool) (hl:zac l) (hf:∀ x∈l,Pure S.Ae [x.ex.av] (bv (f x.ex))) (i:Nat) (cs:List Str) (hi:i<=(l).length) (hI:cs=(l.take i).map Se.col/\(l.take i).all (fun s=>f s.ex)=true):(∃ (cs':List Str),(cs'=(l.take (l).length).map Se.col/\(l.take (l).length).all (fun s=>f s.ex)=true)/\(decide ((((l).length:Nat):Int) < (((l.map Se.cells).length:Nat):Int))=false)/\∀ R,Good E0 B.AQ [] (L_vs l f (l).length cs') R->Good E0 B.AQ [] (L_vs l f i cs) R)\/(∃ (r:Bool),(r=false/\l.all (fun s=>f s.ex)=false)/\Good E0 B.AQ [] (L_vs l f i cs) (Shut 0 fun rZ hZ=>rZ=(bv r)/\hZ=[])):=by
 have hk:=hi;revert i cs;refine zlp ((l).length) (fun i hlt ih cs hi hI _=>?_)
 obtain ⟨x,hx,h0,hw⟩:=zlq (l:=l) ((l.map Se.cells).length) hlt
 have hfx:=hf x (List.mem_of_getElem? hx)
 have hcl:cs.length<=1000000000:=by rw [hI.1];simp only [zac,List.length_map,List.length_take] at *;omega
 let p_1:List St:=[sb h0,se (zaf Se.cells hx rfl),sqA (List.map zbh cs) [[sv x.col]] cs.length 1 16,sc hfx]
 cases h1:!f x.ex
 ·exact (ih (cs++[x.col]) Zo (by exact ⟨by rw [hI.1,List.take_add_one,hx];simp,zf0 hI.2 hx (notT ‹_›)⟩) Zo).elim (fun ⟨csZ,qZ,xZ,gZ⟩=>.inl ⟨csZ,qZ,xZ,fun R hg=>zab (wkl (p_1++[sb h1,si hw]) [3,6,7,8] 1 kr (zao 3 0 (List.map zbh cs++[[sv x.col]]) (gZ R hg) (he:=Zcv7) (hm:=Zcv7)))⟩) (fun ⟨rY,pZ,gZ⟩=>.inr ⟨rY,pZ,zab (wkl [sb h0,se (zaf Se.cells hx rfl),sqA (List.map zbh cs) [[sv x.col]] cs.length 1 16,sc hfx,sb h1,si hw] [3,6,7,8] 1 kr (zao 3 0 (List.map zbh cs++[[sv x.col]]) gZ (he:=Zcv7) (hm:=Zcv7)))⟩)
 ·exact .inr ⟨false,(by exact ⟨rfl,zhM hx (notF ‹_›)⟩),zab (wkr (p_1++[sb h1]) kr)⟩
theorem zlO (l:List Se) (f:X->Bool) (hl:zac l) (hf:∀ x∈l,Pure S.Ae [x.ex.av] (bv (f x.ex))):∃ (r:Bool),r=zdM f l/\zaa E0 S.AQ [.sl (l.map Se.cells)] [] (bv r) []:=by
 rcases zgV l f zrO hf 0 ([]) zrO zrO with ⟨cs1,q1,q1_1,g1⟩|⟨r1_0,p1_0,g1⟩
 ·exact ⟨zfr cs1,(by first|(have h:=‹_=List.map Se.col _/\List.all _ _=true›;obtain ⟨h7,h8⟩:=h;rw [List.take_length] at h7 h8;rw [h7];unfold zdM;rw [h8];rfl)|(have h:=‹_/\List.all _ _=false›;unfold zdM;rw [h.1,h.2];rfl)),wkcN At.AQ [] [3,6,7,8] 0 [(.ot 3 Ty.string,1)] kr (g1 _ (zab (wkr [sb q1_1,skx (cs1.length=(List.map zbh cs1).length/\True) [] (zpX cs1 zrO)] kr)))⟩
 ·exact ⟨r1_0,(by first|(have h:=‹_=List.map Se.col _/\List.all _ _=true›;obtain ⟨h7,h8⟩:=h;rw [List.take_length] at h7 h8;rw [h7];unfold zdM;rw [h8];rfl)|(have h:=‹_/\List.all _ _=false›;unfold zdM;rw [h.1,h.2];rfl)),wkcN At.AQ [] [3,6,7,8] 0 [(.ot 3 Ty.string,1)] kr (g1)⟩
theorem zmc {n:Nat} {l:List Se} (hl:zac l) (h:∀ s∈l,XOk n s.ex):zaa E0 S.AQ [.sl (l.map Se.cells)] [] (bv (zdM (vX n) l)) []:=by
 obtain ⟨r,rfl,h⟩:=zlO l (vX n) hl fun s hs=>zcC n s.ex (h s hs)
 exact h
theorem zhs {p:Prop} (h:p:=by (first|rw [← qy0_eq ‹_›]|skip);(clear hr hs hw hq;simp only [zv5,cond_true,cond_false, *])):p:=h
theorem zkW {p:Prop} (h:p:=by (clear hr hs hw hq;simp only [zv6,cond_true,cond_false, *])):p:=h
theorem zne {p:Prop} (h:p:=by (clear hr hs hw hq;simp only [zv7,cond_true,cond_false, *])):p:=h
abbrev zrw (a:Ac):Bool:=decide (0 < ((a.rows.map zau).length:Int))
abbrev zwM (a:Ac):Bool:=decide (0 < ((zag a.query).length:Int))
abbrev zwN (a:Ac):Bool:=decide (0 < ((a.sets.map Se.cells).length:Int))
abbrev hasW_ (a:Ac):Bool:=decide (0 < ((zad a.wh).length:Int))
abbrev noT_ (a:Ac):Bool:=a.text.toList==sNo.toList
abbrev eqRQ (a:Ac):Bool:=zrw a==zwM a
def qy0 (f:X->Bool) (a:Ac):Bool:=match a.query with
 | q::_=>qyB f q
 | []=>false
theorem qy0_eq {f:X->Bool} {a:Ac} {q:Qy} (h:a.query[0]?=some q):qy0 f a=qyB f q:=by
 unfold qy0
 cases hq:a.query with
 | nil=>rw [hq] at h;simp at h
 | cons x r=>rw [hq] at h;simp at h;subst h;rfl
def zv5 (f:X->Bool) (a:Ac):Bool:=bif !zaG a.table then false else bif eqRQ a then false else bif zwN a then false else bif hasW_ a then false else bif !noT_ a then false else bif zeH f a.rows then (bif zrw a then true else bif ((zag a.query).length:Int)==1 then qy0 f a else false) else false
def zv6 (f:X->Bool) (a:Ac):Bool:=bif zaG a.table then (bif !zrw a then (bif !zwM a then (bif zwN a then (bif !!noT_ a then (bif zdM f a.sets then zcL f a.wh else false) else false) else false) else false) else false) else false
def zv7 (f:X->Bool) (a:Ac):Bool:=bif zaG a.table then (bif !zrw a then (bif !zwM a then (bif !zwN a then (bif !!noT_ a then zcL f a.wh else false) else false) else false) else false) else false
theorem zio (a:Ac) (f:X->Bool) (hr:zaa E0 S.BE [.sl (a.rows.map zau)] [] (bv (zeH f a.rows)) []) (hs:zaa E0 S.AQ [.sl (a.sets.map Se.cells)] [] (bv (zdM f a.sets)) []) (hw:zaa E0 S.Bl [xsl a.wh] [] (bv (zcL f a.wh)) []) (hq:∀ q∈a.query,zaa E0 S.AS [q.av] [] (bv (qyB f q)) []):∃ (r:Bool),r=zv5 f a/\zaa E0 S.Ah [.agg (acc 1 a)] [] (bv r) []:=by
 cases h1:!zaG a.table
 ·cases h2:decide (0 < (↑(List.map zau a.rows).length:Int))==decide (0 < (↑(zag a.query).length:Int))
  ·cases h3:decide (0 < (↑(List.map Se.cells a.sets).length:Int))
   ·cases h4:decide (0 < (↑(zad a.wh).length:Int))
    ·cases h5:!ByteArray.toList a.text==Zs0.toList
     ·cases h6:zeH f a.rows
      ·exact ⟨false,zhs,wk At.Ah [sd [],sc (zal a.table),sb Zt,sg h1,sg h2,sg h3,sg h4,sb h5,sc hr,sb h6] kr⟩
      ·cases h7:decide (0 < (↑(List.map zau a.rows).length:Int))
       ·cases h8:(↑(zag a.query).length:Int)==1
        ·exact ⟨false,zhs,wk At.Ah [sd [],sc (zal a.table),sb Zt,sg h1,sg h2,sg h3,sg h4,sb h5,sc hr,sg h6,sg h7,sb h8] kr⟩
        ·obtain ⟨x9,e9⟩:=zaY (l:=a.query) (i:=0) (by first|assumption|omega|exact List.mem_of_getElem? ‹_›|(simp only [beq_iff_eq,zex] at *;omega))
         exact ⟨qyB f x9,zhs,wk At.Ah [sd [],sc (zal a.table),sb Zt,sg h1,sg h2,sg h3,sg h4,sb h5,sc hr,sg h6,sg h7,sg h8,se (zaC e9),sc (hq x9 (by first|assumption|omega|exact List.mem_of_getElem? ‹_›|(simp only [beq_iff_eq,zex] at *;omega)))] kr⟩
       ·exact ⟨true,zhs,wk At.Ah [sd [],sc (zal a.table),sb Zt,sg h1,sg h2,sg h3,sg h4,sb h5,sc hr,sg h6,sb h7] kr⟩
     ·exact ⟨false,zhs,wk At.Ah [sd [],sc (zal a.table),sb Zt,sg h1,sg h2,sg h3,sg h4,sb h5] kr⟩
    ·exact ⟨false,zhs,wk At.Ah [sd [],sc (zal a.table),sb Zt,sg h1,sg h2,sg h3,sb h4] kr⟩
   ·exact ⟨false,zhs,wk At.Ah [sd [],sc (zal a.table),sb Zt,sg h1,sg h2,sb h3] kr⟩
  ·exact ⟨false,zhs,wk At.Ah [sd [],sc (zal a.table),sb Zt,sg h1,sb h2] kr⟩
 ·exact ⟨false,zhs,wk At.Ah [sd [],sc (zal a.table),sb Zt,sb h1] kr⟩
theorem ziq (a:Ac) (f:X->Bool) (hr:zaa E0 S.BE [.sl (a.rows.map zau)] [] (bv (zeH f a.rows)) []) (hs:zaa E0 S.AQ [.sl (a.sets.map Se.cells)] [] (bv (zdM f a.sets)) []) (hw:zaa E0 S.Bl [xsl a.wh] [] (bv (zcL f a.wh)) []) (hq:∀ q∈a.query,zaa E0 S.AS [q.av] [] (bv (qyB f q)) []):∃ (r:Bool),r=zv6 f a/\zaa E0 S.Ah [.agg (acc 2 a)] [] (bv r) []:=by
 cases h1:zaG a.table
 ·exact ⟨false,zkW,wk At.Ah [sd [],sc (zal a.table),sb Zf,sb Zt,sb h1] kr⟩
 ·cases h2:!decide (0 < (↑(List.map zau a.rows).length:Int))
  ·exact ⟨false,zkW,wk At.Ah [sd [],sc (zal a.table),sb Zf,sb Zt,sg h1,sb h2] kr⟩
  ·cases h3:!decide (0 < (↑(zag a.query).length:Int))
   ·exact ⟨false,zkW,wk At.Ah [sd [],sc (zal a.table),sb Zf,sb Zt,sg h1,sg h2,sb h3] kr⟩
   ·cases h4:decide (0 < (↑(List.map Se.cells a.sets).length:Int))
    ·exact ⟨false,zkW,wk At.Ah [sd [],sc (zal a.table),sb Zf,sb Zt,sg h1,sg h2,sg h3,sb h4] kr⟩
    ·cases h5:!!ByteArray.toList a.text==Zs0.toList
     ·exact ⟨false,zkW,wk At.Ah [sd [],sc (zal a.table),sb Zf,sb Zt,sg h1,sg h2,sg h3,sg h4,sb h5] kr⟩
     ·cases h6:zdM f a.sets
      ·exact ⟨false,zkW,wk At.Ah [sd [],sc (zal a.table),sb Zf,sb Zt,sg h1,sg h2,sg h3,sg h4,sg h5,sc hs,sb h6] kr⟩
      ·exact ⟨zcL f a.wh,zkW,wk At.Ah [sd [],sc (zal a.table),sb Zf,sb Zt,sg h1,sg h2,sg h3,sg h4,sg h5,sc hs,sg h6,sc hw] kr⟩
theorem zir (a:Ac) (f:X->Bool) (hr:zaa E0 S.BE [.sl (a.rows.map zau)] [] (bv (zeH f a.rows)) []) (hs:zaa E0 S.AQ [.sl (a.sets.map Se.cells)] [] (bv (zdM f a.sets)) []) (hw:zaa E0 S.Bl [xsl a.wh] [] (bv (zcL f a.wh)) []) (hq:∀ q∈a.query,zaa E0 S.AS [q.av] [] (bv (qyB f q)) []):∃ (r:Bool),r=zv7 f a/\zaa E0 S.Ah [.agg (acc 3 a)] [] (bv r) []:=by
 cases h1:zaG a.table
 ·exact ⟨false,zne,wk At.Ah [sd [],sc (zal a.table),sb Zf,sb Zf,sb Zt,sb h1] kr⟩
 ·cases h2:!decide (0 < (↑(List.map zau a.rows).length:Int))
  ·exact ⟨false,zne,wk At.Ah [sd [],sc (zal a.table),sb Zf,sb Zf,sb Zt,sg h1,sb h2] kr⟩
  ·cases h3:!decide (0 < (↑(zag a.query).length:Int))
   ·exact ⟨false,zne,wk At.Ah [sd [],sc (zal a.table),sb Zf,sb Zf,sb Zt,sg h1,sg h2,sb h3] kr⟩
   ·cases h4:!decide (0 < (↑(List.map Se.cells a.sets).length:Int))
    ·exact ⟨false,zne,wk At.Ah [sd [],sc (zal a.table),sb Zf,sb Zf,sb Zt,sg h1,sg h2,sg h3,sb h4] kr⟩
    ·cases h5:!!ByteArray.toList a.text==Zs0.toList
     ·exact ⟨false,zne,wk At.Ah [sd [],sc (zal a.table),sb Zf,sb Zf,sb Zt,sg h1,sg h2,sg h3,sg h4,sb h5] kr⟩
     ·exact ⟨zcL f a.wh,zne,wk At.Ah [sd [],sc (zal a.table),sb Zf,sb Zf,sb Zt,sg h1,sg h2,sg h3,sg h4,sg h5,sc hw] kr⟩
def actB (f:X->Bool) (a:Ac):Bool:=bif a.kind==1 then zv5 f a else bif a.kind==2 then zv6 f a else zv7 f a
theorem zkC {n:Nat} {a:Ac} (h:AcOk n a) (hk:1<=a.kind/\a.kind<=3):zaa E0 S.Ah [a.av] [] (bv (actB (vX n) a)) []:=by
 have h1:=zmb (zaQ h.rows) h.row
 have h2:=zmc (zaQ h.sets) h.set
 have h3:=zgM (zaQ h.wh) h.w
 have h4:∀ q∈a.query,zaa E0 S.AS [q.av] [] (bv (qyB (vX n) q)) []:=fun q hq=>zlx (h.qs q hq)
 have hk:a.kind=1\/a.kind=2\/a.kind=3:=by omega
 rcases hk with hk|hk|hk
 ·obtain ⟨r,rfl,h5⟩:=zio a (vX n) h1 h2 h3 h4
  have e:a.av=.agg (acc 1 a):=by rw [← hk];rfl
  rw [e];unfold actB;rw [hk];exact h5
 ·obtain ⟨r,rfl,h5⟩:=ziq a (vX n) h1 h2 h3 h4
  have e:a.av=.agg (acc 2 a):=by rw [← hk];rfl
  rw [e];unfold actB;rw [hk];exact h5
 ·obtain ⟨r,rfl,h5⟩:=zir a (vX n) h1 h2 h3 h4
  have e:a.av=.agg (acc 3 a):=by rw [← hk];rfl
  rw [e];unfold actB;rw [hk];exact h5
def pfit (a b:Int):Bool :=
 bif a==0 then
  true
 else
  bif b==0 then
   true
  else
   a==b
structure Sound (ty:Int × Int) (ev:V × Int):Prop where
 code:ty.2=0->ev.2=0\/ev.2=6\/ev.2=7
 kind:ty.2=0->ev.2=0->ev.1.kind=0\/ev.1.kind=ty.1
structure Res (w:Int) (r:V × Int):Prop where
 code:r.2=0\/r.2=6\/r.2=7
 kind:r.2=0->r.1.kind=0\/r.1.kind=w
theorem Res.null {w:Int} (c:Int) (hc:c=0\/c=6\/c=7):Res w (⟨0,0,⟨#[]⟩⟩,c):=⟨hc,fun _=>.inl rfl⟩
abbrev KOk (v:V) (k:Int):Prop:=v.kind=0\/v.kind=k
/- ### types of operations -/
theorem KOk.trans {v:V} {t k:Int} (h:KOk v t) (ht:t=0\/t=k):KOk v k:=by
 rcases h with h|h
 ·exact .inl h
 ·rcases ht with rfl|rfl
  ·exact .inl h
  ·exact .inr h
inductive Typed:List V->List Int->Prop
 | nil:Typed [] []
 | cons {v:V} {t:Int} {l:List V} {ts:List Int}:KOk v t->Typed l ts->Typed (v::l) (t::ts)
theorem Typed.app {v:V} {t:Int} (hv:KOk v t):∀ {l:List V} {ts:List Int},Typed l ts->Typed (l++[v]) (ts++[t])
 | _,_,.nil=>.cons hv .nil
 | _,_,.cons h1 h2=>.cons h1 (h2.app hv)
theorem zrh {k o:Int} {xs:List X} (h:zfB k o xs=true):zeV k o xs=true:=by
 simp only [zfB,Bool.cond_eq_ite,zbP] at h
 simp only [zeV,Bool.cond_eq_ite,zbP]
 simp at h ⊢
 repeat' split at h
 all_goals simp_all
theorem zri {k o:Int} {xs:List X} {qs:List Qy} {st:Bool} {it wh:List X} (h:zd3 k o xs qs st it wh=true):zeW k o xs qs it wh=true:=by
 have hk:k=1\/k=2\/k=3\/k=4\/k=5\/k=6\/k=7\/k=8\/k=9\/k=10\/k=11\/k=12\/(k≠1/\k≠2/\k≠3/\k≠4/\k≠5/\k≠6/\k≠7/\k≠8/\k≠9/\k≠10/\k≠11/\k≠12):=by omega
 rcases hk with rfl|rfl|rfl|rfl|rfl|rfl|rfl|rfl|rfl|rfl|rfl|rfl|⟨h1,h2,h3,h4,h5,h6,h7,h8,h9,h10,h11,h12⟩
 all_goals simp [zd3,Bool.cond_eq_ite, *] at h
 all_goals (try simp [zeW,Bool.cond_eq_ite,h])
theorem ztC {e:X} (h:zcQ e=true):zcd e=true:=by
 unfold zcQ at h
 unfold zcd
 cases hs:e.sub with
 | nil=>rw [hs] at h;exact zrh h
 | cons q r=>rw [hs] at h;exact zri h
def er (f:Fr):Fr:=⟨f.name,f.strict,f.cols,[]⟩
theorem zu4 (frs:List Fr) (k:Nat):(frs.map er).getD k zaR=er (frs.getD k zaR):=by
 simp only [List.getD_eq_getElem?_getD,List.getElem?_map]
 cases frs[k]? <;> rfl
theorem zvc (frs:List Fr) (q n:Str):∀ k,rres (frs.map er) q n k=rres frs q n k
 | 0=>rfl
 | k+1=>by
  simp only [rres,zkM,zu4,zvc frs q n k]
  rfl
theorem zjl (frs:List Fr) (q n:Str):zaM (frs.map er) q n=zaM frs q n:=by
 unfold zaM;rw [List.length_map,zvc]
theorem zyT (frs:List Fr) (q n:Str):rFr (frs.map er) q n=er (rFr frs q n):=by
 unfold rFr;rw [zjl,zu4]
structure FrRel (tf vf:List Fr):Prop where
 eq:tf.map er=vf.map er
 rows:∀ f∈vf,zcX f.cols f.vals
theorem FrRel.res {tf vf:List Fr} (h:FrRel tf vf) (q n:Str):zaM tf q n=zaM vf q n:=by rw [← zjl tf,h.eq,zjl]
theorem FrRel.cols {tf vf:List Fr} (h:FrRel tf vf) (q n:Str):(rFr tf q n).cols=(rFr vf q n).cols:=by
 have:er (rFr tf q n)=er (rFr vf q n):=by rw [← zyT,← zyT,h.eq]
 exact (congrArg Fr.cols this:(er _).cols=(er _).cols)
theorem FrRel.ins {tf vf:List Fr} (h:FrRel tf vf) {t:Tb} {v:List V} (hv:zcX t.sch.cols v):FrRel (zax tf t.sch []) (zar vf t v):=by
 refine ⟨by simp only [zax,zar,List.map_append,h.eq];rfl,fun f hf=>?_⟩
 simp only [zar,List.mem_append,List.mem_singleton] at hf
 rcases hf with hf|rfl
 ·exact h.rows f hf
 ·exact hv
theorem ztp (tb:List Tb) (n:Str):∀ (l:List Tb) (i:Nat),zfu tb n l i=match l.find? (fun t=>zaw t n) with|some t=>(t.sch,true)|none=>(⟨⟨#[]⟩,[]⟩,false)
 | [],i=>rfl
 | x::r,i=>by
  simp only [zfu,List.find?,zaw]
  cases h:x.sch.name.toList==n.toList
  ·exact ztp tb n r _
  ·rfl
theorem zc6 (tb:List Tb) (n:Str):zaN tb n=match zaK tb n with|some t=>(t.sch,true)|none=>(⟨⟨#[]⟩,[]⟩,false):=ztp tb n tb 0
theorem zAr {f:X->V × Int} {op:List V->V × Int} {agg:V × Int} {e:X} {frs:List Fr} {tb:List Tb} (h:zcd e=true) (h8:8<=e.kind) (h12:e.kind<=12):valF f op agg e frs tb=agg:=by
 have hk:e.kind=8\/e.kind=9\/e.kind=10\/e.kind=11\/e.kind=12:=by omega
 unfold valF
 rw [h]
 rcases hk with hk|hk|hk|hk|hk <;> rw [hk] <;> rfl
structure TbT (tb:List Tb):Prop where
 rows:∀ x∈tb,∀ r∈x.rows,zcX x.sch.cols r.vals
 len:∀ x∈tb,x.rows.length<=1000
theorem TbT.g {tb:List Tb} (h:TbT tb):TbG tb:=⟨fun x hx r hr v hv=>(h.rows x hx r hr).good v hv,h.len⟩
theorem FrRel.g {tf vf:List Fr} (h:FrRel tf vf):FsG vf:=fun f hf v hv=>(h.rows f hf).good v hv
theorem ztF {tb:List Tb} {n:Str} {x:Tb} (h:AtI tb (idxF (fun t=>zaw t n) tb 0) x):zaN tb n=(x.sch,true):=by
 obtain ⟨h0,h1⟩:=h
 rw [zc6]
 rcases zdB (fun t=>zaw t n) tb 0 with ⟨h2,_⟩|⟨j,y,h2,h3,h4⟩
 ·omega
 ·rw [h2] at h1
  have:((0+j:Nat):Int).toNat=j:=by omega
  rw [this,h3] at h1
  cases h1
  unfold zaK;rw [h4]
theorem ztE {tb:List Tb} {n:Str} (h:decide (idxF (fun t=>zaw t n) tb 0 < 0)=true):zaN tb n=(⟨⟨#[]⟩,[]⟩,false):=by
 rw [zc6]
 rcases zdB (fun t=>zaw t n) tb 0 with ⟨_,h2⟩|⟨j,y,h2,h3,h4⟩
 ·unfold zaK;rw [h2]
 ·simp only [decide_eq_true_eq] at h;omega
theorem zA9 {tb:List Tb} {n:Str} (h:decide (idxF (fun t=>zaw t n) tb 0 < 0)=false):0<=idxF (fun t=>zaw t n) tb 0/\idxF (fun t=>zaw t n) tb 0 < ((tb.length:Nat):Int):=by
 simp only [decide_eq_false_iff_not] at h
 have:=zpO (fun t=>zaw t n) tb 0
 exact ⟨by omega,by rcases this with h|h <;> omega⟩
theorem zg7 (t:Tb) (n:Str) :zaa E0 S.Cn [.agg t.cells,.p 0 0] [.box [sv n]] (bv (zaw t n)) [.box [sv n]]:=by
 exact wk At.Cn [] kr
noncomputable def zrW (tb:List Tb) (n:Str) (i:Nat):Cfg:=zaj B.Ag 0 [(0,.sl (tb.map Tb.cells)),(1,.fn S.Cn [.p 0 0]),(7,iv ((tb.map Tb.cells).length:Nat)),(8,iv (i:Nat))] [.box [sv n]]
theorem zug (tb:List Tb) (n:Str) (hl:zac tb):∀ (k i:Nat),i+k=tb.length->Good E0 B.Ag [.box [sv n]] (zrW tb n i) (Shut 1 fun r h=>r=iv (idxF (fun t=>zaw t n) (tb.drop i) i)/\h=[.box [sv n]]):=by
 intro k
 induction k with
 | zero =>
  intro i hi
  refine zab ?_
  have h0:decide ((i:Int) < (((tb.map Tb.cells).length:Nat):Int))=false:=by simp;omega
  have e0:tb.drop i=[]:=List.drop_of_length_le Zo
  rw [e0]
  exact zeN E0ok mix0 3000 (y:=AV.v (Value.int IntKind.i64 (-1:Int))) (H:=[Blk.box [AV.v (Value.string n)]]) [sb h0] kr (⟨rfl,rfl⟩)
 | succ k ih =>
  intro i hi
  have ih:=ih (i+1) Zo
  obtain ⟨x,hx⟩:=zaY (l:=tb) (i:=i) Zo
  have h0:decide ((i:Int) < (((tb.map Tb.cells).length:Nat):Int))=true:=by simp;omega
  have hw:=zaJ i Zo
  rw [zap hx]
  simp only [idxF]
  refine zab ?_
  cases h1:zaw x n
  ·exact zcK E0ok mix0 3000 (c':=zrW tb n (i+(1:Nat))) [sb h0,se (zaf Tb.cells hx rfl),sl [(0:Nat)] (zg7 x n),sb h1,si hw] [0,1,7,8] 1 kr kr (by simpa only [cond_true,cond_false,h1] using ih)
  ·exact zeN E0ok mix0 3000 (y:=AV.v (Value.int IntKind.i64 (i:Int))) (H:=[Blk.box [AV.v (Value.string n)]]) [sb h0,se (zaf Tb.cells hx rfl),sl [(0:Nat)] (zg7 x n),sb h1] kr (⟨by simp only [cond_true,cond_false,h1],rfl⟩)
theorem zzA (tb:List Tb) (n:Str) (hl:zac tb):zaa E0 S.Ag [.sl (tb.map Tb.cells),.fn S.Cn [.p 0 0]] [.box [sv n]] (iv (idxF (fun t=>zaw t n) tb 0)) [.box [sv n]]:=by
 exact zf3 E0ok mix0 At.Ag rfl kr kr 3000 (c':=zrW tb n (0:Nat)) [] [0,1,7,8] 1 kr kr (by simpa using zug tb n hl tb.length 0 Zs)
theorem zpI (tb:List Tb) (n:Str) (h2:zac tb) (h3:∀ x∈tb,zac x.sch.cols) (hix:zaa E0 S.Ag [.sl (tb.map Tb.cells),.fn S.Cn [.p 0 0]] [.box [sv n]] (iv (idxF (fun t=>zaw t n) tb 0)) [.box [sv n]]):∃ (s:Sch) (b:Bool),(s,b)=zaN tb n/\zaa E0 S.CY [tsl tb,sv n] [] (.tup [s.av,bv b]) []:=by
 cases h1:decide (idxF (fun t=>zaw t n) tb 0 < 0)
 ·obtain ⟨x2,e2⟩:=zyk (l:=tb) (i:=idxF (fun t=>zaw t n) tb (0:Nat)) (by exact zA9 ‹_›)
  exact ⟨x2.sch,true,(by first|exact (ztF ‹_›).symm|exact (ztE ‹_›).symm),wk At.CY [sqx ((True/\x2.sch.cols.length=(List.map Col.cells x2.sch.cols).length/\True)/\True/\True),sl [0] hix,sb h1,se (ziG Tb.cells e2 rfl),sc (zaX x2.sch.cols (by first|assumption|exact h3 _ (List.mem_of_getElem? (And.right ‹AtI _ _ _›))))] kr⟩
 ·exact ⟨Sch.mk Zs0 [],false,(by first|exact (ztF ‹_›).symm|exact (ztE ‹_›).symm),wk At.CY [sl [0] hix,sb h1] kr⟩
theorem zpW (tb:List Tb) (n:Str) (h2:zac tb) (h3:∀ x∈tb,zac x.sch.cols):zaa E0 S.CY [tsl tb,sv n] [] (.tup [(zaN tb n).1.av,bv (zaN tb n).2]) []:=by
 obtain ⟨s,b,h,h2⟩:=zpI tb n h2 h3 (zzA tb n h2)
 rw [← h];exact h2
theorem zsa (fr:List Fr) (s:Sch) (v:List V) (h2:zac fr):∃ (r:List Fr),r=zax fr s v/\zaa E0 S.Dw [fsl fr,s.av,vsl v] [] (fsl r) []:=by
 exact ⟨fr++[Fr.mk s.name false s.cols v],Zr,(by (try simp only [zsl,xCol,xLit,xBin,xNeg,Ac.cells,Se.cells]);exact wk At.Dw [sqx ((List.map Fr.cells fr++[[sv s.name,bv false,ZC s.cols,vsl v]]).length=(List.map Fr.cells fr++[[sv s.name,bv false,ZC s.cols,vsl v]]).length),sd [(1,[sc (zfl fr (by first|assumption|omega|(simp;done)|(simp;omega)))]),(9,[sqA (List.map Fr.cells fr) [[sv s.name,bv false,ZC s.cols,vsl v]] fr.length 4 72])]] kr)⟩
theorem zl3 (fr:List Fr) (s:Sch) (v:List V) (h2:zac fr):zaa E0 S.Dw [fsl fr,s.av,vsl v] [] (fsl (zax fr s v)) []:=by
 obtain ⟨r,rfl,h⟩:=zsa fr s v h2
 exact h
theorem zyZ {p:Prop} (h:p:=by first|assumption|omega|(simp;done)|(simp;omega)):p:=h
def tgt (a:Ac) (b:Bool) (tb:List Tb):Sch × Int :=
 bif !b then
  (Sch.mk Zs0 [],17)
 else
  bif !(zaN tb a.table).snd then
   (Sch.mk Zs0 [],3)
  else
   ((zaN tb a.table).fst,0)
theorem zsX (a:Ac) (b:Bool) (tb:List Tb) (hk1:decide (a.kind < (1:Int))=false) (hk2:decide ((3:Int) < a.kind)=false) (h2:zac tb) (h3:∀ x∈tb,zac x.sch.cols) (hv:zaa E0 S.Ah [a.av] [] (bv b) []):zaa E0 S.BZ [a.av,tsl tb] [] (.tup [(tgt a b tb).1.av,iv (tgt a b tb).2]) []:=by
 unfold tgt
 cases h1:!b
 ·let p_1:List St:=[sg hk1,sg hk2,sc hv,sb h1,sc (zpW tb a.table zyZ zyZ)]
  cases h2:!(zaN tb a.table).snd
  ·exact wk At.BZ (p_1++[sb h2]) kr
  ·exact wk At.BZ (p_1++[sb h2]) kr
 ·exact wk At.BZ [sg hk1,sg hk2,sc hv,sb h1] kr
theorem zms {p:Prop} (h:p:=by first|assumption|(simp only [decide_eq_false_iff_not,Int.not_lt,Int.not_le] at *;omega)):p:=h
structure Pr where
 id:Int
 old:List V
 nw:List V
def Pr.cells (p:Pr):List AV:=[iv p.id,vsl p.old,vsl p.nw]
@[simp] theorem Pr.cells_length (x:Pr):x.cells.length=3:=rfl
structure Ch where
 ins:List (List V)
 del:List Int
 upd:List Pr
def Ch.cells (c:Ch):List AV:=[.sl (c.ins.map vrow),isl c.del,.sl (c.upd.map Pr.cells)]
abbrev Ch.av (c:Ch):AV:=.agg c.cells
abbrev ch0:Ch:=⟨[],[],[]⟩
theorem zfX (t:Tb) (a:Ac) :zaa E0 S.BQ [.agg t.cells,.p 0 0] [.box a.cells] (bv (zaw t a.table)) [.box a.cells]:=by
 exact wk At.BQ [] kr
noncomputable def zrV (tb:List Tb) (a:Ac) (i:Nat):Cfg:=zaj B.Ag 0 [(0,.sl (tb.map Tb.cells)),(1,.fn S.BQ [.p 0 0]),(7,iv ((tb.map Tb.cells).length:Nat)),(8,iv (i:Nat))] [.box a.cells]
theorem zuf (tb:List Tb) (a:Ac) (hl:zac tb):∀ (k i:Nat),i+k=tb.length->Good E0 B.Ag [.box a.cells] (zrV tb a i) (Shut 1 fun r h=>r=iv (idxF (fun t=>zaw t a.table) (tb.drop i) i)/\h=[.box a.cells]):=by
 intro k
 induction k with
 | zero =>
  intro i hi
  refine zab ?_
  have h0:decide ((i:Int) < (((tb.map Tb.cells).length:Nat):Int))=false:=by simp;omega
  have e0:tb.drop i=[]:=List.drop_of_length_le Zo
  rw [e0]
  exact zeN E0ok mix0 3000 (y:=AV.v (Value.int IntKind.i64 (-1:Int))) (H:=[Blk.box a.cells]) [sb h0] kr (⟨rfl,rfl⟩)
 | succ k ih =>
  intro i hi
  have ih:=ih (i+1) Zo
  obtain ⟨x,hx⟩:=zaY (l:=tb) (i:=i) Zo
  have h0:decide ((i:Int) < (((tb.map Tb.cells).length:Nat):Int))=true:=by simp;omega
  have hw:=zaJ i Zo
  rw [zap hx]
  simp only [idxF]
  refine zab ?_
  cases h1:zaw x a.table
  ·exact zcK E0ok mix0 3000 (c':=zrV tb a (i+(1:Nat))) [sb h0,se (zaf Tb.cells hx rfl),sl [(0:Nat)] (zfX x a),sb h1,si hw] [0,1,7,8] 1 kr kr (by simpa only [cond_true,cond_false,h1] using ih)
  ·exact zeN E0ok mix0 3000 (y:=AV.v (Value.int IntKind.i64 (i:Int))) (H:=[Blk.box a.cells]) [sb h0,se (zaf Tb.cells hx rfl),sl [(0:Nat)] (zfX x a),sb h1] kr (⟨by simp only [cond_true,cond_false,h1],rfl⟩)
theorem zsb (tb:List Tb) (a:Ac) (hl:zac tb):zaa E0 S.Ag [.sl (tb.map Tb.cells),.fn S.BQ [.p 0 0]] [.box a.cells] (iv (idxF (fun t=>zaw t a.table) tb 0)) [.box a.cells]:=by
 exact zf3 E0ok mix0 At.Ag rfl kr kr 3000 (c':=zrV tb a (0:Nat)) [] [0,1,7,8] 1 kr kr (by simpa using zuf tb a hl tb.length 0 Zs)
noncomputable def L_asgL (f:X->V × Int) (a:Ac) (s:Sch) (frs:List Fr) (tb:List Tb) (i:Nat) (out:List V):Cfg:=zaj B.Cg 0 [(3,fsl frs),(4,tsl tb),(6,.p 1 0),(12,.own 2 out.length),(21,.sl (a.sets.map Se.cells)),(22,iv ((a.sets.map Se.cells).length:Nat)),(23,iv (i:Nat))] [.box a.cells,.box s.cells,.row Ty.Value (out.map V.cells) false]
def asgL (f:X->V × Int) (a:Ac) (s:Sch) (frs:List Fr) (tb:List Tb):List (Se)->Nat->(List V)->(List V) × Int
 | [],i,out =>
  (out,0)
 | x::r,i,out =>
  bif decide (idxF (fun c=>colC c x.col) s.cols 0 < 0) then
   ([],3)
  else
   bif (f x.ex).snd != 0 then
    ([],(f x.ex).snd)
   else
    bif decide ((out.length:Int)<=idxF (fun c=>colC c x.col) s.cols 0) then
     ([],17)
    else
     asgL f a s frs tb r (i+1) (out.set (idxF (fun c=>colC c x.col) s.cols 0).toNat (f x.ex).fst)
theorem Zcv6 {p:Prop} (h:p:=by first|rfl|(simp;done)|(simp [X.cells,Qy.cells,V.cells,Col.cells,Rw.cells,Tb.cells,Fr.cells,Sch.cells,Tp.cells,Pl.cells,xCol,xLit,xBin,xNeg,Ac.cells,Se.cells,Pr.cells,Ch.cells];done)):p:=h
theorem zub (f:X->V × Int) (a:Ac) (s:Sch) (frs:List Fr) (tb:List Tb) (hs:zac s.cols) (hl:zac a.sets) (hf:∀ x∈a.sets,Pure S.Ai [x.ex.av,fsl frs,tsl tb] (.tup [(f x.ex).1.av,iv (f x.ex).2])):∀ (kk i:Nat) (out:List V),i+kk=(a.sets).length->Good E0 B.Cg [] (L_asgL f a s frs tb i out) (Shut 0 fun r h=>r=(.tup [vsl (asgL f a s frs tb ((a.sets).drop i) i out).1,iv (asgL f a s frs tb ((a.sets).drop i) i out).2])/\h=[]):=by
 intro kk
 induction kk with
 | zero =>
  intro i out hi
  have h0:decide (((i:Nat):Int) < (((a.sets.map Se.cells).length:Nat):Int))=false:=by simp;omega
  have e0:(a.sets).drop i=[]:=List.drop_of_length_le Zo
  rw [e0]
  simp only [asgL]
  refine zab ?_
  exact wkr [sqx (out.length=(List.map V.cells out).length/\True/\True),sb h0] kr
 | succ kk ih =>
  intro i out hi
  obtain ⟨x,hx⟩:=zaY (l:=a.sets) (i:=i) Zo
  have h0:decide (((i:Nat):Int) < (((a.sets.map Se.cells).length:Nat):Int))=true:=by simp;omega
  have hw:=zaJ i (by first|omega|(simp only [zac,Few] at *;omega))
  have hfx:=hf x (List.mem_of_getElem? hx)
  rw [zap hx]
  simp only [asgL]
  refine zab ?_
  cases h1:decide (idxF (fun c=>colC c x.col) s.cols 0 < 0)
  ·cases h2:(f x.ex).snd != 0
   ·cases h3:decide ((out.length:Int)<=idxF (fun c=>colC c x.col) s.cols 0)
    ·obtain ⟨x4,e4⟩:=zaY (l:=out) (i:=(idxF (fun c=>colC c x.col) s.cols 0).toNat) zms
     exact wkl [sb h0,se (zaf Se.cells hx rfl),sc (zbl s x.col zms),sb h1,sc hfx,sb h2,sqx (out.length=(List.map V.cells out).length),sb h3,sqx (OwnAt (List.map V.cells out) out.length (idxF (fun c=>colC c x.col) s.cols 0)),sx (.el x4.cells) (And.intro (owed (p:=True/\True/\True/\True)) (ze3 V.cells (n:=out.length) Zs e4)),si hw] [3,4,6,12,21,22,23] 3 kr (zaF (show ([(3,fsl frs),(4,tsl tb),(6,AV.p 1 0),(12,AV.own 2 out.length),(21,ZE a.sets),(22,iv (↑(List.map Se.cells a.sets).length:Int)),(23,iv (↑(i+1):Int))]:TS)=_ from Zcv6) (show ([Blk.box [iv a.kind,sv a.table,AV.sl (List.map (fun r=>[AV.sl (zad r)]) a.rows),AV.sl (zag a.query),ZE a.sets,AV.sl (zad a.wh),sv a.text],Blk.box s.cells,Blk.row Ty.Value ((List.map V.cells out).set (idxF (fun c=>colC c x.col) s.cols 0).toNat [iv (f x.ex).fst.kind,iv (f x.ex).fst.int,sv (f x.ex).fst.text]) false]:Heap)=_ from Zcv6) (ih (i+1) (out.set (idxF (fun c=>colC c x.col) s.cols 0).toNat (f x.ex).fst) Zo ))
    ·exact wkr [sb h0,se (zaf Se.cells hx rfl),sc (zbl s x.col zms),sb h1,sc hfx,sb h2,sqx (out.length=(List.map V.cells out).length),sb h3] kr
   ·exact wkr [sb h0,se (zaf Se.cells hx rfl),sc (zbl s x.col zms),sb h1,sc hfx,sb h2] kr
  ·exact wkr [sb h0,se (zaf Se.cells hx rfl),sc (zbl s x.col zms),sb h1] kr
def asgn (f:X->V × Int) (a:Ac) (s:Sch) (row:List V) (frs:List Fr) (tb:List Tb):(List V) × Int :=
 asgL f a s frs tb a.sets 0 (row)
theorem zpR (f:X->V × Int) (a:Ac) (s:Sch) (row:List V) (frs:List Fr) (tb:List Tb) (hr:zac row) (hs:zac s.cols) (hl:zac a.sets) (hf:∀ x∈a.sets,Pure S.Ai [x.ex.av,fsl frs,tsl tb] (.tup [(f x.ex).1.av,iv (f x.ex).2])):zaa E0 S.Cg [a.av,s.av,vsl row,fsl frs,tsl tb] [] (.tup [vsl (asgn f a s row frs tb).1,iv (asgn f a s row frs tb).2]) []:=by
 unfold asgn
 exact wkc At.Cg [sc (za1 row (by first|assumption|omega|(simp;done)|(simp;omega)))] [3,4,6,12,21,22,23] 3 kr (by have ih:=zub f a s frs tb hs hl hf a.sets.length 0 row Zs;exact ih)
theorem zpd {p:Prop} (h:p:=by first|assumption|(simp;done)|(simp;omega)|omega|(simp at *;omega)):p:=h
noncomputable def L_cndD (tr:Rw->Bool × Int) (a:Ac) (s:Sch) (frs:List Fr) (tb:List Tb) (t:Tb) (i:Nat) (del:List Int):Cfg:=zaj B.Ak 0 [(1,fsl frs),(2,tsl tb),(3,.p 0 0),(6,.p 1 0),(8,.p 2 0),(12,.p 3 0),(55,.sl (t.rows.map Rw.cells)),(56,iv ((t.rows.map Rw.cells).length:Nat)),(57,iv (i:Nat))] [.box a.cells,.box [.nl,.nl,.nl],.box s.cells,.box [.nl,.own 4 del.length,.nl],.row Ty.int (del.map zbw) false]
def cndD (tr:Rw->Bool × Int) (a:Ac) (s:Sch) (frs:List Fr) (tb:List Tb) (t:Tb):List (Rw)->Nat->(List Int)->Ch × Int
 | [],i,del =>
  (Ch.mk [] del [],0)
 | x::r,i,del =>
  bif (tr x).snd != 0 then
   (Ch.mk [] [] [],(tr x).snd)
  else
   bif !(tr x).fst then
    cndD tr a s frs tb t r (i+1) (del)
   else
    cndD tr a s frs tb t r (i+1) (del++[x.id])
theorem Zcv5 {p:Prop} (h:p:=by first|rfl|(simp;done)|(simp [X.cells,Qy.cells,V.cells,Col.cells,Rw.cells,Tb.cells,Fr.cells,Sch.cells,Tp.cells,Pl.cells,xCol,xLit,xBin,xNeg,Ac.cells,Se.cells,Pr.cells,Ch.cells,Rw.cells];done)):p:=h
theorem zud (tr:Rw->Bool × Int) (a:Ac) (s:Sch) (frs:List Fr) (tb:List Tb) (t:Tb) (h3:zac frs) (hk:(a.kind==3)=true) (hl:zac t.rows) (ht:∀ r∈t.rows,Pure S.AH [xsl a.wh,fsl (zax frs s r.vals),tsl tb] (.tup [bv (tr r).1,iv (tr r).2])):∀ (kk i:Nat) (del:List Int),i+kk=(t.rows).length->(del.length<=i)->Good E0 B.Ak [] (L_cndD tr a s frs tb t i del) (Shut 0 fun r h=>r=(.tup [(cndD tr a s frs tb t ((t.rows).drop i) i del).1.av,iv (cndD tr a s frs tb t ((t.rows).drop i) i del).2])/\h=[]):=by
 intro kk
 induction kk with
 | zero =>
  intro i del hi ho
  have h0:decide (((i:Nat):Int) < (((t.rows.map Rw.cells).length:Nat):Int))=false:=by simp;omega
  have e0:(t.rows).drop i=[]:=List.drop_of_length_le Zo
  rw [e0]
  simp only [cndD]
  refine zab ?_
  exact wkr [sqx ((True/\del.length=(List.map zbw del).length/\True/\True)/\True/\True),sb h0] kr
 | succ kk ih =>
  intro i del hi ho
  obtain ⟨x,hx⟩:=zaY (l:=t.rows) (i:=i) Zo
  have h0:decide (((i:Nat):Int) < (((t.rows.map Rw.cells).length:Nat):Int))=true:=by simp;omega
  have hw:=zaJ i (by first|omega|(simp only [zac,Few] at *;omega))
  have hfx:=ht x (List.mem_of_getElem? hx)
  rw [zap hx]
  simp only [cndD]
  refine zab ?_
  let p_1:List St:=[sb h0,se (zaf Rw.cells hx rfl),sc (zl3 frs s x.vals (by first|assumption|omega|(simp;done)|(simp;omega))),sc hfx]
  cases h1:(tr x).snd != 0
  ·cases h2:!(tr x).fst
   ·exact wkl (p_1++[sb h1,sb h2,sb hk,sqA (List.map zbw del) [[iv x.id]] del.length 1 8,si hw]) [1,2,3,6,8,12,55,56,57] 5 kr (zaF rfl (show ([Blk.box [iv a.kind,sv a.table,AV.sl (List.map (fun r=>[AV.sl (zad r)]) a.rows),AV.sl (zag a.query),ZE a.sets,AV.sl (zad a.wh),sv a.text],Blk.box [AV.nl,AV.nl,AV.nl],Blk.box s.cells,Blk.box [AV.nl,AV.own 4 (List.map zbw del++[[iv x.id]]).length,AV.nl],Blk.row Ty.int (List.map zbw del++[[iv x.id]]) false]:Heap)=_ from Zcv5) (ih (i+1) (del++[x.id]) Zo zpd))
   ·exact wkl (p_1++[sb h1,sb h2,si hw]) [1,2,3,6,8,12,55,56,57] 5 kr (ih (i+1) del Zo zpd)
  ·exact wkr (p_1++[sb h1]) kr
noncomputable def L_cndU (tr:Rw->Bool × Int) (ag:Rw->List V × Int) (a:Ac) (s:Sch) (frs:List Fr) (tb:List Tb) (t:Tb) (i:Nat) (upd:List Pr):Cfg:=zaj B.Ak 0 [(1,fsl frs),(2,tsl tb),(3,.p 0 0),(6,.p 1 0),(8,.p 2 0),(12,.p 3 0),(55,.sl (t.rows.map Rw.cells)),(56,iv ((t.rows.map Rw.cells).length:Nat)),(57,iv (i:Nat))] [.box a.cells,.box [.nl,.nl,.nl],.box s.cells,.box [.nl,.nl,.own 4 upd.length],.row Ty.Pair (upd.map Pr.cells) false]
def cndU (tr:Rw->Bool × Int) (ag:Rw->List V × Int) (a:Ac) (s:Sch) (frs:List Fr) (tb:List Tb) (t:Tb):List (Rw)->Nat->(List Pr)->Ch × Int
 | [],i,upd =>
  (Ch.mk [] [] upd,0)
 | x::r,i,upd =>
  bif (tr x).snd != 0 then
   (Ch.mk [] [] [],(tr x).snd)
  else
   bif !(tr x).fst then
    cndU tr ag a s frs tb t r (i+1) (upd)
   else
    bif (ag x).snd != 0 then
     (Ch.mk [] [] [],(ag x).snd)
    else
     cndU tr ag a s frs tb t r (i+1) (upd++[Pr.mk x.id x.vals (ag x).fst])
theorem zue (tr:Rw->Bool × Int) (ag:Rw->List V × Int) (a:Ac) (s:Sch) (frs:List Fr) (tb:List Tb) (t:Tb) (h3:zac frs) (hk:(a.kind==3)=false) (hl:zac t.rows) (hv:∀ r∈t.rows,zac r.vals) (ht:∀ r∈t.rows,Pure S.AH [xsl a.wh,fsl (zax frs s r.vals),tsl tb] (.tup [bv (tr r).1,iv (tr r).2])) (hag:∀ r∈t.rows,Pure S.Cg [a.av,s.av,vsl r.vals,fsl (zax frs s r.vals),tsl tb] (.tup [vsl (ag r).1,iv (ag r).2])):∀ (kk i:Nat) (upd:List Pr),i+kk=(t.rows).length->(upd.length<=i)->Good E0 B.Ak [] (L_cndU tr ag a s frs tb t i upd) (Shut 0 fun r h=>r=(.tup [(cndU tr ag a s frs tb t ((t.rows).drop i) i upd).1.av,iv (cndU tr ag a s frs tb t ((t.rows).drop i) i upd).2])/\h=[]):=by
 intro kk
 induction kk with
 | zero =>
  intro i upd hi ho
  have h0:decide (((i:Nat):Int) < (((t.rows.map Rw.cells).length:Nat):Int))=false:=by simp;omega
  have e0:(t.rows).drop i=[]:=List.drop_of_length_le Zo
  rw [e0]
  simp only [cndU]
  refine zab ?_
  exact wkr [sqx ((True/\True/\upd.length=(List.map Pr.cells upd).length/\True)/\True/\True),sb h0] kr
 | succ kk ih =>
  intro i upd hi ho
  obtain ⟨x,hx⟩:=zaY (l:=t.rows) (i:=i) Zo
  have h0:decide (((i:Nat):Int) < (((t.rows.map Rw.cells).length:Nat):Int))=true:=by simp;omega
  have hw:=zaJ i (by first|omega|(simp only [zac,Few] at *;omega))
  have hfx:=ht x (List.mem_of_getElem? hx);have hgx:=hag x (List.mem_of_getElem? hx);have hvx:=hv x (List.mem_of_getElem? hx)
  rw [zap hx]
  simp only [cndU]
  refine zab ?_
  let p_1:List St:=[sb h0,se (zaf Rw.cells hx rfl),sc (zl3 frs s x.vals (by first|assumption|omega|(simp;done)|(simp;omega))),sc hfx]
  cases h1:(tr x).snd != 0
  ·cases h2:!(tr x).fst
   ·cases h3:(ag x).snd != 0
    ·exact wkl (p_1++[sb h1,sb h2,sb hk,sc hgx,sb h3,sd [(6,[sc (za1 x.vals (by first|assumption|omega|(simp;done)|(simp;omega)))]),(9,[sqx (True/\x.vals.length=(List.map V.cells x.vals).length/\True/\True)]),(10,[sqA (List.map Pr.cells upd) [[iv x.id,vsl x.vals,AV.sl (List.map V.cells (ag x).fst)]] upd.length 3 56])],si hw]) [1,2,3,6,8,12,55,56,57] 5 kr (zaF rfl (show ([Blk.box [iv a.kind,sv a.table,AV.sl (List.map (fun r=>[AV.sl (zad r)]) a.rows),AV.sl (zag a.query),ZE a.sets,AV.sl (zad a.wh),sv a.text],Blk.box [AV.nl,AV.nl,AV.nl],Blk.box s.cells,Blk.box [AV.nl,AV.nl,AV.own 4 (List.map Pr.cells upd++[[iv x.id,vsl x.vals,AV.sl (List.map V.cells (ag x).fst)]]).length],Blk.row Ty.Pair (List.map Pr.cells upd++[[iv x.id,vsl x.vals,AV.sl (List.map V.cells (ag x).fst)]]) false]:Heap)=_ from Zcv5) (ih (i+1) (upd++[Pr.mk x.id x.vals (ag x).fst]) Zo zpd))
    ·exact wkr (p_1++[sb h1,sb h2,sb hk,sc hgx,sb h3]) kr
   ·exact wkl (p_1++[sb h1,sb h2,si hw]) [1,2,3,6,8,12,55,56,57] 5 kr (ih (i+1) upd Zo zpd)
  ·exact wkr (p_1++[sb h1]) kr
def zy9:Tb:=⟨⟨⟨#[]⟩,[]⟩,0,[]⟩
def tabC (tb:List Tb) (n:Str):Tb:=(zaK tb n).getD zy9
theorem zuZ (tb:List Tb) (n:Str) (h:decide (idxF (fun t=>zaw t n) tb 0 < 0)=false):ElAt (tb.map Tb.cells) (idxF (fun t=>zaw t n) tb 0) (tabC tb n).cells 4:=by
 simp only [decide_eq_false_iff_not] at h
 rcases zdB (fun t=>zaw t n) tb 0 with ⟨h2,_⟩|⟨j,y,h2,h3,h4⟩
 ·omega
 ·have e:tabC tb n=y:=by unfold tabC zaK;rw [h4];rfl
  rw [e,h2]
  have:((0+j:Nat):Int)=(j:Int):=by omega
  rw [this];exact zaf Tb.cells h3 rfl
def zwn (a:Ac) (s:Sch) (e:Int):Ch × Int :=
 (Ch.mk [] [] [],e)
theorem zlr (a:Ac) (s:Sch) (e:Int) (frs:List Fr) (tb:List Tb) (he:(e != 0)=true) (hv:zaa E0 S.BZ [a.av,tsl tb] [] (.tup [s.av,iv e]) []):zaa E0 S.Ak [a.av,fsl frs,tsl tb] [] (.tup [(zwn a s e).1.av,iv (zwn a s e).2]) []:=by
 exact wk At.Ak [sc hv,sb he] kr
def zos (tr:Rw->Bool × Int) (a:Ac) (s:Sch) (frs:List Fr) (tb:List Tb):Ch × Int :=
 cndD tr a s frs tb (tabC tb a.table) (tabC tb a.table).rows 0 ([])
theorem zlo (tr:Rw->Bool × Int) (a:Ac) (s:Sch) (frs:List Fr) (tb:List Tb) (hk1:(a.kind==1)=false) (hk3:(a.kind==3)=true) (h2:zac tb) (h3:zac frs) (hv:zaa E0 S.BZ [a.av,tsl tb] [] (.tup [s.av,iv 0]) []) (hix:zaa E0 S.Ag [.sl (tb.map Tb.cells),.fn S.BQ [.p 0 0]] [.box a.cells] (iv (idxF (fun t=>zaw t a.table) tb 0)) [.box a.cells]) (hn:decide (idxF (fun t=>zaw t a.table) tb 0 < 0)=false) (hl:zac (tabC tb a.table).rows) (ht:∀ r∈(tabC tb a.table).rows,Pure S.AH [xsl a.wh,fsl (zax frs s r.vals),tsl tb] (.tup [bv (tr r).1,iv (tr r).2])):zaa E0 S.Ak [a.av,fsl frs,tsl tb] [] (.tup [(zos tr a s frs tb).1.av,iv (zos tr a s frs tb).2]) []:=by
 unfold zos
 exact wkcN At.Ak [sc hv,sb Zf,sb hk1,sl [0] hix,se (zuZ tb a.table (by first|assumption|omega|(simp;done)|(simp;omega)))] [1,2,3,6,8,12,55,56,57] 4 [(.ob 3 1 Ty.int,5)] kr (by have ih:=zud tr a s frs tb (tabC tb a.table) h3 hk3 hl ht (tabC tb a.table).rows.length 0 ([]) Zs Zs;exact ih)
def zot (tr:Rw->Bool × Int) (ag:Rw->List V × Int) (a:Ac) (s:Sch) (frs:List Fr) (tb:List Tb):Ch × Int :=
 cndU tr ag a s frs tb (tabC tb a.table) (tabC tb a.table).rows 0 ([])
theorem zlt (tr:Rw->Bool × Int) (ag:Rw->List V × Int) (a:Ac) (s:Sch) (frs:List Fr) (tb:List Tb) (hk1:(a.kind==1)=false) (hk3:(a.kind==3)=false) (h2:zac tb) (h3:zac frs) (hv:zaa E0 S.BZ [a.av,tsl tb] [] (.tup [s.av,iv 0]) []) (hix:zaa E0 S.Ag [.sl (tb.map Tb.cells),.fn S.BQ [.p 0 0]] [.box a.cells] (iv (idxF (fun t=>zaw t a.table) tb 0)) [.box a.cells]) (hn:decide (idxF (fun t=>zaw t a.table) tb 0 < 0)=false) (hl:zac (tabC tb a.table).rows) (hvl:∀ r∈(tabC tb a.table).rows,zac r.vals) (ht:∀ r∈(tabC tb a.table).rows,Pure S.AH [xsl a.wh,fsl (zax frs s r.vals),tsl tb] (.tup [bv (tr r).1,iv (tr r).2])) (hag:∀ r∈(tabC tb a.table).rows,Pure S.Cg [a.av,s.av,vsl r.vals,fsl (zax frs s r.vals),tsl tb] (.tup [vsl (ag r).1,iv (ag r).2])):zaa E0 S.Ak [a.av,fsl frs,tsl tb] [] (.tup [(zot tr ag a s frs tb).1.av,iv (zot tr ag a s frs tb).2]) []:=by
 unfold zot
 exact wkcN At.Ak [sc hv,sb Zf,sb hk1,sl [0] hix,se (zuZ tb a.table (by first|assumption|omega|(simp;done)|(simp;omega)))] [1,2,3,6,8,12,55,56,57] 4 [(.ob 3 2 Ty.Pair,5)] kr (by have ih:=zue tr ag a s frs tb (tabC tb a.table) h3 hk3 hl hvl ht hag (tabC tb a.table).rows.length 0 ([]) Zs Zs;exact ih)
theorem ztt {p:Prop} (h:p:=by first|assumption|omega|(simp only [bne_eq_false_iff_eq,zbP,List.length_map] at *;omega)|(simp;done)|exact ⟨by simp,rfl⟩):p:=h
theorem ztu {p:Prop} (h:p:=by have h:=‹((((zad x).length:Nat):Int) != _)=false›;simp at h;omega):p:=h
abbrev PEv (f:X->V × Int) (x:X) (frs:List Fr) (tb:List Tb):Prop:=Pure S.Ai [x.av,fsl frs,tsl tb] (.tup [(f x).1.av,iv (f x).2])
def zbq (f:X->V × Int):List X->List V->List V × Int
 | [],acc=>(acc,0)
 | x::r,acc=>bif (f x).2 != 0 then ([],(f x).2) else zbq f r (acc++[(f x).1])
def insL (f:X->V × Int) (n:Nat):List (List X)->List (List V)->List (List V) × Int
 | [],acc=>(acc,0)
 | y::r,acc=>bif y.length != n then ([],5) else bif (zbq f y []).2 != 0 then ([],(zbq f y []).2) else insL f n r (acc++[(zbq f y []).1])
theorem zqN {f:X->V × Int} {l:List X} {i:Nat} {x:X} {acc:List V} (h:zbq f l []=zbq f (l.drop i) acc) (hx:l[i]?=some x) (h1:((f x).2 != 0)=false):zbq f l []=zbq f (l.drop (i+1)) (acc++[(f x).1]):=by
 obtain ⟨hi,e⟩:=List.getElem?_eq_some_iff.1 hx
 rw [h,List.drop_eq_getElem_cons hi,e]
 simp only [zbq,h1,cond_false]
theorem ztM {f:X->V × Int} {l:List X} {i:Nat} {x:X} {acc:List V} (h:zbq f l []=zbq f (l.drop i) acc) (hx:l[i]?=some x) (h1:((f x).2 != 0)=true):(f x).2≠0/\zbq f l []=([],(f x).2):=by
 obtain ⟨hi,e⟩:=List.getElem?_eq_some_iff.1 hx
 rw [h,List.drop_eq_getElem_cons hi,e]
 exact ⟨by simpa using h1,by simp only [zbq,h1,cond_true]⟩
theorem ztN {f:X->V × Int} {l:List X} {acc:List V} (h:zbq f l []=zbq f (l.drop l.length) acc):zbq f l []=(acc,0):=by
 rw [h,List.drop_length];rfl
theorem zsU {f:X->V × Int} {n:Nat} {l:List (List X)} {i:Nat} {x:List X} {acc:List (List V)} {v:List V} (h:insL f n l []=insL f n (l.drop i) acc) (hx:l[i]?=some x) (h1:x.length=n) (h2:zbq f x []=(v,0)):insL f n l []=insL f n (l.drop (i+1)) (acc++[v]):=by
 obtain ⟨hi,e⟩:=List.getElem?_eq_some_iff.1 hx
 rw [h,List.drop_eq_getElem_cons hi,e]
 have h8:(x.length != n)=false:=by simpa using h1
 simp only [insL,h8,h2,cond_false];rfl
theorem zm1 {f:X->V × Int} {n:Nat} {l:List (List X)} {i:Nat} {x:List X} {acc:List (List V)} (h:insL f n l []=insL f n (l.drop i) acc) (hx:l[i]?=some x) (h1:x.length≠n):insL f n l []=([],5):=by
 obtain ⟨hi,e⟩:=List.getElem?_eq_some_iff.1 hx
 rw [h,List.drop_eq_getElem_cons hi,e]
 have h9:(x.length != n)=true:=by simpa using h1
 simp only [insL,h9,cond_true]
theorem zm0 {f:X->V × Int} {n:Nat} {l:List (List X)} {i:Nat} {x:List X} {acc:List (List V)} {c:Int} {v:List V} (h:insL f n l []=insL f n (l.drop i) acc) (hx:l[i]?=some x) (h1:x.length=n) (h2:zbq f x []=(v,c)) (hc:c≠0):insL f n l []=([],c):=by
 obtain ⟨hi,e⟩:=List.getElem?_eq_some_iff.1 hx
 rw [h,List.drop_eq_getElem_cons hi,e]
 have h8:(x.length != n)=false:=by simpa using h1
 have h9:(c != 0)=true:=by simpa using hc
 simp only [insL,h8,h9,h2,cond_true,cond_false]
theorem zBd {f:X->V × Int} {n:Nat} {l:List (List X)} {acc:List (List V)} (h:insL f n l []=insL f n (l.drop l.length) acc):insL f n l []=(acc,0):=by
 rw [h,List.drop_length];rfl
noncomputable def zvE (a:Ac) (s:Sch) (frs:List Fr) (tb:List Tb) (f:X->V × Int) (io:Nat) (y:List X) (out:List (List V)) (i:Nat) (row:List V):Cfg:=zaj B.Am 1 [(2,fsl frs),(3,tsl tb),(4,.p 0 0),(5,.p 1 0),(10,.own 2 out.length),(13,.own 3 row.length),(23,.sl (a.rows.map zau)),(24,iv ((a.rows.map zau).length:Nat)),(25,iv (io:Nat)),(35,xsl y),(36,iv ((zad y).length:Nat)),(37,iv (i:Nat))] [.box a.cells,.box s.cells,.row Ty.LValue (out.map vrow) false,.row Ty.Value (row.map V.cells) false]
theorem zig (a:Ac) (s:Sch) (frs:List Fr) (tb:List Tb) (f:X->V × Int) (io:Nat) (y:List X) (out:List (List V)) (hy:zac y) (hf:∀ x∈y,PEv f x frs tb) (i:Nat) (row:List V) (hi:i<=(y).length) (hI:row.length<=i/\zbq f y []=zbq f (y.drop i) row):(∃ (row':List V),(row'.length<=(y).length/\zbq f y []=zbq f (y.drop (y).length) row')/\(decide ((((y).length:Nat):Int) < (((zad y).length:Nat):Int))=false)/\∀ R,Good E0 B.Am [] (zvE a s frs tb f io y out (y).length row') R->Good E0 B.Am [] (zvE a s frs tb f io y out i row) R)\/(∃ (r:List (List V)) (c:Int),(r=[]/\c≠0/\zbq f y []=([],c))/\Good E0 B.Am [] (zvE a s frs tb f io y out i row) (Shut 0 fun rZ hZ=>rZ=(.tup [.sl (r.map vrow),iv c])/\hZ=[])):=by
 have hk:=hi;revert i row;refine zlp ((y).length) (fun i hlt ih row hi hI _=>?_)
 obtain ⟨x,hx,h0,hw⟩:=zlq (l:=y) ((zad y).length) hlt
 have hx1:=hf x (List.mem_of_getElem? hx);have hrl:row.length<=1000000000:=by have:=hI.1;simp only [zac] at hy;omega
 cases h1:(f x).snd != 0
 ·exact (ih (row++[(f x).fst]) Zo (by exact ⟨by have:=hI.1;simp;omega,zqN hI.2 hx ‹_›⟩) Zo).elim (fun ⟨rowZ,qZ,xZ,gZ⟩=>.inl ⟨rowZ,qZ,xZ,fun R hg=>zab (wkl [sb h0,se (zbr hx),sc hx1,sb h1,sqA (List.map V.cells row) [[iv (f x).fst.kind,iv (f x).fst.int,sv (f x).fst.text]] row.length 3 32,si hw] [2,3,4,5,10,13,23,24,25,35,36,37] 4 kr (zao 13 3 (List.map V.cells row++[[iv (f x).fst.kind,iv (f x).fst.int,sv (f x).fst.text]]) (gZ R hg) (he:=Zcv5) (hm:=Zcv5)))⟩) (fun ⟨rY,cY,pZ,gZ⟩=>.inr ⟨rY,cY,pZ,zab (wkl [sb h0,se (zbr hx),sc hx1,sb h1,sqA (List.map V.cells row) [[iv (f x).fst.kind,iv (f x).fst.int,sv (f x).fst.text]] row.length 3 32,si hw] [2,3,4,5,10,13,23,24,25,35,36,37] 4 kr (zao 13 3 (List.map V.cells row++[[iv (f x).fst.kind,iv (f x).fst.int,sv (f x).fst.text]]) gZ (he:=Zcv5) (hm:=Zcv5)))⟩)
 ·exact .inr ⟨[],(f x).snd,(by exact ⟨rfl,ztM hI.2 hx ‹_›⟩),zab (wkr [sb h0,se (zbr hx),sc hx1,sb h1] kr)⟩
noncomputable def zvG (a:Ac) (s:Sch) (frs:List Fr) (tb:List Tb) (f:X->V × Int) (i:Nat) (out:List (List V)):Cfg:=zaj B.Am 0 [(2,fsl frs),(3,tsl tb),(4,.p 0 0),(5,.p 1 0),(10,.own 2 out.length),(23,.sl (a.rows.map zau)),(24,iv ((a.rows.map zau).length:Nat)),(25,iv (i:Nat))] [.box a.cells,.box s.cells,.row Ty.LValue (out.map vrow) false]
theorem zii (a:Ac) (s:Sch) (frs:List Fr) (tb:List Tb) (f:X->V × Int) (hs:zac s.cols) (hr:zac a.rows) (hf:∀ r∈a.rows,zac r/\∀ x∈r,PEv f x frs tb) (i:Nat) (out:List (List V)) (hi:i<=(a.rows).length) (hI:out.length<=i/\insL f s.cols.length a.rows []=insL f s.cols.length (a.rows.drop i) out):(∃ (out':List (List V)),(out'.length<=(a.rows).length/\insL f s.cols.length a.rows []=insL f s.cols.length (a.rows.drop (a.rows).length) out')/\(decide ((((a.rows).length:Nat):Int) < (((a.rows.map zau).length:Nat):Int))=false)/\∀ R,Good E0 B.Am [] (zvG a s frs tb f (a.rows).length out') R->Good E0 B.Am [] (zvG a s frs tb f i out) R)\/(∃ (r:List (List V)) (c:Int),(r=[]/\c≠0/\insL f s.cols.length a.rows []=([],c))/\Good E0 B.Am [] (zvG a s frs tb f i out) (Shut 0 fun rZ hZ=>rZ=(.tup [.sl (r.map vrow),iv c])/\hZ=[])):=by
 have hk:=hi;revert i out;refine zlp ((a.rows).length) (fun i hlt ih out hi hI _=>?_)
 obtain ⟨x,hx,h0,hw⟩:=zlq (l:=a.rows) ((a.rows.map zau).length) hlt
 have hx1:=(hf x (List.mem_of_getElem? hx)).1;have hx2:=(hf x (List.mem_of_getElem? hx)).2;have hol:out.length<=1000000000:=by have:=hI.1;simp only [zac] at hr;omega
 cases h1:(↑(zad x).length:Int) != (↑(List.map Col.cells s.cols).length:Int)
 ·rcases zig a s frs tb f i x out ztt hx2 0 ([]) ztt ztt with ⟨row2,q2,q2_1,g2⟩|⟨r2_0,r2_1,p2_0,g2⟩
  ·exact (ih (out++[row2]) Zo (by exact ⟨by have:=hI.1;simp;omega,zsU hI.2 hx ztu (ztN (And.right ‹_<=_/\zbq f x []=_›))⟩) Zo).elim (fun ⟨outZ,qZ,xZ,gZ⟩=>.inl ⟨outZ,qZ,xZ,fun R hg=>zab (wklN [sb h0,se (zaf zau hx rfl),sb h1] [2,3,4,5,10,13,23,24,25,35,36,37] 3 [(.ot 13 Ty.Value,4)] kr (g2 _ (zab (wkl [sb q2_1,sqx (row2.length=(List.map V.cells row2).length/\True),sqA (List.map vrow out) [[vsl row2]] out.length 1 24,si hw] [2,3,4,5,10,23,24,25] 3 kr (zao 10 2 (List.map vrow out++[[vsl row2]]) (gZ R hg) (he:=Zcv5) (hm:=Zcv5))))))⟩) (fun ⟨rY,cY,pZ,gZ⟩=>.inr ⟨rY,cY,pZ,zab (wklN [sb h0,se (zaf zau hx rfl),sb h1] [2,3,4,5,10,13,23,24,25,35,36,37] 3 [(.ot 13 Ty.Value,4)] kr (g2 _ (zab (wkl [sb q2_1,sqx (row2.length=(List.map V.cells row2).length/\True),sqA (List.map vrow out) [[vsl row2]] out.length 1 24,si hw] [2,3,4,5,10,23,24,25] 3 kr (zao 10 2 (List.map vrow out++[[vsl row2]]) gZ (he:=Zcv5) (hm:=Zcv5))))))⟩)
  ·exact .inr ⟨r2_0,r2_1,(by first|exact ⟨rfl,by omega,zm1 hI.2 hx (by have h:=‹((((zad x).length:Nat):Int) != _)=true›;simp at h;omega)⟩|exact ⟨(And.left ‹_=[]/\_≠(0:Int)/\_›),(And.right ‹_=[]/\_≠(0:Int)/\_›).1,zm0 hI.2 hx ztu (And.right ‹_=[]/\_≠(0:Int)/\_›).2 (And.right ‹_=[]/\_≠(0:Int)/\_›).1⟩),zab (wklN [sb h0,se (zaf zau hx rfl),sb h1] [2,3,4,5,10,13,23,24,25,35,36,37] 3 [(.ot 13 Ty.Value,4)] kr g2)⟩
 ·exact .inr ⟨[],5,(by first|exact ⟨rfl,by omega,zm1 hI.2 hx (by have h:=‹((((zad x).length:Nat):Int) != _)=true›;simp at h;omega)⟩|exact ⟨(And.left ‹_=[]/\_≠(0:Int)/\_›),(And.right ‹_=[]/\_≠(0:Int)/\_›).1,zm0 hI.2 hx ztu (And.right ‹_=[]/\_≠(0:Int)/\_›).2 (And.right ‹_=[]/\_≠(0:Int)/\_›).1⟩),zab (wkr [sb h0,se (zaf zau hx rfl),sb h1] kr)⟩
theorem zh6 {p:Prop} (h:p:=by first|assumption|(simp only [zac] at *;omega)|exact ⟨Nat.le_refl _,rfl⟩|exact inq0 ‹_› hr|(simp;done)):p:=h
theorem zh7 {p:Prop} (h:p:=by first|assumption|omega|(simp;done)|(simp;omega)):p:=h
theorem ztv {p:Prop} (h:p:=by first|exact zu6 ‹_› ‹_›|exact zyu ‹_› ‹_›|exact zyt ‹_›):p:=h
def wid (v:List V) (s:Sch):Bool :=
 (↑(List.map V.cells v).length:Int) != (↑(List.map Col.cells s.cols).length:Int)
theorem znm (v:List V) (s:Sch) :zaa E0 S.B7 [vsl v,.p 0 0] [.box s.cells] (bv (wid v s)) [.box s.cells]:=by
 exact wk At.B7 [] kr
def okW (s:Sch) (v:List V):Bool:=!wid v s
noncomputable def zvM (l:List (List V)) (s:Sch) (i:Nat) :Cfg:=zaj B.Ao 0 [(0,.sl (l.map vrow)),(1,.fn S.B7 [.p 0 0]),(7,iv ((l.map vrow).length:Nat)),(8,iv (i:Nat))] [.box s.cells]
theorem zek (l:List (List V)) (s:Sch) (hl:zac l) (i:Nat)  (hi:i<=(l).length) (hI:(l.take i).all (okW s)=true):(((l.take (l).length).all (okW s)=true)/\(decide ((((l).length:Nat):Int) < (((l.map vrow).length:Nat):Int))=false)/\∀ R,Good E0 B.Ao [.box s.cells] (zvM l s (l).length ) R->Good E0 B.Ao [.box s.cells] (zvM l s i ) R)\/(∃ (r:Int),(decide (0<=r)=true/\l.all (okW s)=false)/\Good E0 B.Ao [.box s.cells] (zvM l s i ) (Shut 1 fun rZ hZ=>rZ=(iv r)/\hZ=[.box s.cells])):=by
 have hk:=hi;revert i;refine zlp ((l).length) (fun i hlt ih hi hI _=>?_)
 obtain ⟨x,hx,h0,hw⟩:=zlq (l:=l) ((l.map vrow).length) hlt
 let p_1:List St:=[sb h0,se (zaf vrow hx rfl),sl [0] (znm x s)]
 cases h1:wid x s
 ·exact zie2 (ih Zo (by exact zf0 hI hx (by unfold okW;rw [show wid x s=false by assumption];rfl)) Zo) fun R gY=>zab (wkl (p_1++[sb h1,si hw]) [0,1,7,8] 1 kr gY)
 ·exact .inr ⟨(i:Int),(by exact ⟨by simp,zhM hx (by unfold okW;rw [show wid x s=true by assumption];rfl)⟩),zab (wkr (p_1++[sb h1]) kr)⟩
theorem zin (l:List (List V)) (s:Sch) (hl:zac l):∃ (r:Int),decide (0<=r)=!l.all (okW s)/\zaa E0 S.Ao [.sl (l.map vrow),.fn S.B7 [.p 0 0]] [.box s.cells] (iv r) [.box s.cells]:=by
 rcases zek l s zh7 0 zh7 zh7 with ⟨q1,q1_1,g1⟩|⟨r1_0,p1_0,g1⟩
 ·exact ⟨-1,(by first|(have h:=(by assumption:List.all (List.take _ _) _=true);rw [List.take_length] at h;rw [h];rfl)|(have h:=(by assumption:_/\List.all _ _=false);rw [h.1,h.2];rfl)),wkc At.Ao [] [0,1,7,8] 1 kr (g1 _ (zab (wkr [sb q1_1] kr)))⟩
 ·exact ⟨r1_0,(by first|(have h:=(by assumption:List.all (List.take _ _) _=true);rw [List.take_length] at h;rw [h];rfl)|(have h:=(by assumption:_/\List.all _ _=false);rw [h.1,h.2];rfl)),wkc At.Ao [] [0,1,7,8] 1 kr (g1)⟩
theorem c_cfW (l:List (List V)) (s:Sch) (hl:zac l):∃ (r:Bool),r=!l.all (okW s)/\zaa E0 S.A1 [.sl (l.map vrow),.fn S.B7 [.p 0 0]] [.box s.cells] (bv r) [.box s.cells]:=by
 obtain ⟨r1,q1,c1⟩:=(zin l s zh7)
 exact ⟨decide ((0:Int)<=r1),‹_›,wk At.A1 [sl [0] c1] kr⟩
theorem zce (l:List (List V)) (s:Sch) (hl:zac l):zaa E0 S.A1 [.sl (l.map vrow),.fn S.B7 [.p 0 0]] [.box s.cells] (bv (!l.all (okW s))) [.box s.cells]:=by
 obtain ⟨r,rfl,h⟩:=c_cfW l s hl
 exact h
abbrev PRw (g:Qy->List (List V) × Int) (q:Qy) (frs:List Fr) (tb:List Tb):Prop:=Pure S.BB [q.av,fsl frs,tsl tb] (.tup [.sl ((g q).1.map vrow),iv (g q).2])
def insQ (g:Qy->List (List V) × Int) (s:Sch):List Qy->List (List V)->List (List V) × Int
 | [],acc=>(acc,0)
 | q::r,acc=>bif (g q).2 != 0 then ([],(g q).2) else bif !(g q).1.all (okW s) then ([],5) else insQ g s r (acc++(g q).1)
theorem zqr {g:Qy->List (List V) × Int} {s:Sch} {l:List Qy} {i:Nat} {x:Qy} {acc a0:List (List V)} (h:insQ g s l a0=insQ g s (l.drop i) acc) (hx:l[i]?=some x) (h1:((g x).2 != 0)=false) (h2:(!(g x).1.all (okW s))=false):insQ g s l a0=insQ g s (l.drop (i+1)) (acc++(g x).1):=by
 obtain ⟨hi,e⟩:=List.getElem?_eq_some_iff.1 hx
 rw [h,List.drop_eq_getElem_cons hi,e]
 simp only [insQ,h1,h2,cond_false]
theorem zky {g:Qy->List (List V) × Int} {s:Sch} {l:List Qy} {i:Nat} {x:Qy} {acc a0:List (List V)} (h:insQ g s l a0=insQ g s (l.drop i) acc) (hx:l[i]?=some x) (h1:((g x).2 != 0)=true):(g x).2≠0/\insQ g s l a0=([],(g x).2):=by
 obtain ⟨hi,e⟩:=List.getElem?_eq_some_iff.1 hx
 rw [h,List.drop_eq_getElem_cons hi,e]
 exact ⟨by simpa using h1,by simp only [insQ,h1,cond_true]⟩
theorem znU {g:Qy->List (List V) × Int} {s:Sch} {l:List Qy} {i:Nat} {x:Qy} {acc a0:List (List V)} (h:insQ g s l a0=insQ g s (l.drop i) acc) (hx:l[i]?=some x) (h1:((g x).2 != 0)=false) (h2:(!(g x).1.all (okW s))=true):(5:Int)≠0/\insQ g s l a0=([],5):=by
 obtain ⟨hi,e⟩:=List.getElem?_eq_some_iff.1 hx
 rw [h,List.drop_eq_getElem_cons hi,e]
 exact ⟨by omega,by simp only [insQ,h1,h2,cond_true,cond_false]⟩
theorem zz0 {g:Qy->List (List V) × Int} {s:Sch} {l:List Qy} {acc a0:List (List V)} (h:insQ g s l a0=insQ g s (l.drop l.length) acc):insQ g s l a0=(acc,0):=by
 rw [h,List.drop_length];rfl
def bndQ (i:Nat):Nat:=1000000+100000 * i
theorem zqb {i k m:Nat} (h:k<=bndQ i) (h2:m<=100000):k+m<=bndQ (i+1):=by unfold bndQ at *;omega
theorem zuS {i k m:Nat} (h:k<=bndQ i) (h2:m<=100000) (hi:i<=1000):k+m<=1000000000:=by unfold bndQ at *;omega
theorem bndQ_0 {k m:Nat} (h:k<=m) (h2:m<=1000000):k<=bndQ 0:=by unfold bndQ;omega
abbrev insA (f:X->V × Int) (s:Sch) (a:Ac):List (List V):=(insL f s.cols.length a.rows []).1
noncomputable def zvF (a:Ac) (s:Sch) (frs:List Fr) (tb:List Tb) (f:X->V × Int) (g:Qy->List (List V) × Int) (i:Nat) (out:List (List V)):Cfg:=zaj B.Am 2 [(2,fsl frs),(3,tsl tb),(5,.p 1 0),(10,.own 2 out.length),(62,.sl (zag a.query)),(63,iv ((zag a.query).length:Nat)),(64,iv (i:Nat))] [.box a.cells,.box s.cells,.row Ty.LValue (out.map vrow) false]
theorem zih (a:Ac) (s:Sch) (frs:List Fr) (tb:List Tb) (f:X->V × Int) (g:Qy->List (List V) × Int) (hf:∀ r∈a.rows,zac r/\∀ x∈r,PEv f x frs tb) (hq:a.query.length<=1000) (hg:∀ q∈a.query,(g q).1.length<=100000/\PRw g q frs tb) (i:Nat) (out:List (List V)) (hi:i<=(a.query).length) (hI:out.length<=bndQ i/\insQ g s a.query (insA f s a)=insQ g s (a.query.drop i) out):(∃ (out':List (List V)),(out'.length<=bndQ (a.query).length/\insQ g s a.query (insA f s a)=insQ g s (a.query.drop (a.query).length) out')/\(decide ((((a.query).length:Nat):Int) < (((zag a.query).length:Nat):Int))=false)/\∀ R,Good E0 B.Am [] (zvF a s frs tb f g (a.query).length out') R->Good E0 B.Am [] (zvF a s frs tb f g i out) R)\/(∃ (r:List (List V)) (c:Int),(r=[]/\c≠0/\insQ g s a.query (insA f s a)=([],c))/\Good E0 B.Am [] (zvF a s frs tb f g i out) (Shut 0 fun rZ hZ=>rZ=(.tup [.sl (r.map vrow),iv c])/\hZ=[])):=by
 have hk:=hi;revert i out;refine zlp ((a.query).length) (fun i hlt ih out hi hI _=>?_)
 obtain ⟨x,hx,h0,hw⟩:=zlq (l:=a.query) ((zag a.query).length) hlt
 have hx0:=(hg x (List.mem_of_getElem? hx)).1;have hx1:zac (g x).1:=(by simp only [zac];omega);have hx2:=(hg x (List.mem_of_getElem? hx)).2;have hil:i < a.query.length:=(List.getElem?_eq_some_iff.1 hx).1;have hol:out.length+(g x).1.length<=1000000000:=zuS hI.1 hx0 Zo
 cases h1:(g x).snd != 0
 ·cases h2:!(g x).fst.all (okW s)
  ·exact (ih (out++(g x).fst) Zo (by exact ⟨by rw [List.length_append];exact zqb hI.1 (hg x (List.mem_of_getElem? hx)).1,zqr hI.2 hx ‹_› ‹_›⟩) Zo).elim (fun ⟨outZ,qZ,xZ,gZ⟩=>.inl ⟨outZ,qZ,xZ,fun R hg=>zab (wkl [sb h0,se (zaC hx),sc hx2,sb h1,sl [1] (zce ((g x).fst) s zh7),sb h2,sqx (AllLen (List.map vrow (g x).fst) 1/\out.length=(List.map vrow out).length/\(((List.map vrow out).length+(List.map vrow (g x).fst).length) * 24).le 140737488355328),si hw] [2,3,5,10,62,63,64] 3 kr (zao 10 2 (List.map vrow out++List.map vrow (g x).fst) (gZ R hg) (he:=Zcv5) (hm:=Zcv5)))⟩) (fun ⟨rY,cY,pZ,gZ⟩=>.inr ⟨rY,cY,pZ,zab (wkl [sb h0,se (zaC hx),sc hx2,sb h1,sl [1] (zce ((g x).fst) s zh7),sb h2,sqx (AllLen (List.map vrow (g x).fst) 1/\out.length=(List.map vrow out).length/\(((List.map vrow out).length+(List.map vrow (g x).fst).length) * 24).le 140737488355328),si hw] [2,3,5,10,62,63,64] 3 kr (zao 10 2 (List.map vrow out++List.map vrow (g x).fst) gZ (he:=Zcv5) (hm:=Zcv5)))⟩)
  ·exact .inr ⟨[],5,(by first|exact ⟨rfl,zky hI.2 hx ‹_›⟩|exact ⟨rfl,znU hI.2 hx ‹_› ‹_›⟩),zab (wkr [sb h0,se (zaC hx),sc hx2,sb h1,sl [1] (zce ((g x).fst) s zh7),sb h2] kr)⟩
 ·exact .inr ⟨[],(g x).snd,(by first|exact ⟨rfl,zky hI.2 hx ‹_›⟩|exact ⟨rfl,znU hI.2 hx ‹_› ‹_›⟩),zab (wkr [sb h0,se (zaC hx),sc hx2,sb h1] kr)⟩
def insB (f:X->V × Int) (g:Qy->List (List V) × Int) (s:Sch) (a:Ac):List (List V) × Int :=
 bif (insL f s.cols.length a.rows []).2 != 0 then ([],(insL f s.cols.length a.rows []).2) else insQ g s a.query (insL f s.cols.length a.rows []).1
section
variable {f : X -> V × Int} {g : Qy -> List (List V) × Int} {s : Sch} {a : Ac} {out1 out2 r : List (List V)} {c : Int}
theorem zpP (q1:out1.length<=a.rows.length/\insL f s.cols.length a.rows []=insL f s.cols.length (a.rows.drop a.rows.length) out1):insA f s a=out1/\(insL f s.cols.length a.rows []).2=0:=by
 have h:=zBd q1.2
 unfold insA;rw [h];exact ⟨rfl,rfl⟩
theorem inq0 (q1:out1.length<=a.rows.length/\insL f s.cols.length a.rows []=insL f s.cols.length (a.rows.drop a.rows.length) out1) (hr:a.rows.length<=1000000):out1.length<=bndQ 0/\insQ g s a.query (insA f s a)=insQ g s (a.query.drop 0) out1 :=
 ⟨bndQ_0 q1.1 hr,by rw [(zpP q1).1];rfl⟩
theorem zu6 (q1:out1.length<=a.rows.length/\insL f s.cols.length a.rows []=insL f s.cols.length (a.rows.drop a.rows.length) out1) (q2:out2.length<=bndQ a.query.length/\insQ g s a.query (insA f s a)=insQ g s (a.query.drop a.query.length) out2):(out2,0)=insB f g s a:=by
 have h:=zz0 q2.2
 unfold insA at h
 unfold insB;rw [(zpP q1).2,h];rfl
theorem zyu (q1:out1.length<=a.rows.length/\insL f s.cols.length a.rows []=insL f s.cols.length (a.rows.drop a.rows.length) out1) (h:r=[]/\c≠0/\insQ g s a.query (insA f s a)=([],c)):(r,c)=insB f g s a:=by
 obtain ⟨h1,h2,h3⟩:=h
 unfold insA at h3
 unfold insB;rw [(zpP q1).2,h3,h1];rfl
theorem zyt (h:r=[]/\c≠0/\insL f s.cols.length a.rows []=([],c)):(r,c)=insB f g s a:=by
 obtain ⟨h1,h2,h3⟩:=h
 have h4:(c != 0)=true:=by simpa using h2
 unfold insB;rw [h3,h1];simp only [h4,cond_true]
end
theorem zpG (a:Ac) (s:Sch) (frs:List Fr) (tb:List Tb) (f:X->V × Int) (g:Qy->List (List V) × Int) (hs:zac s.cols) (hr:a.rows.length<=1000000) (hf:∀ r∈a.rows,zac r/\∀ x∈r,PEv f x frs tb) (hq:a.query.length<=1000) (hg:∀ q∈a.query,(g q).1.length<=100000/\PRw g q frs tb):∃ (r:List (List V)) (c:Int),(r,c)=insB f g s a/\zaa E0 S.Am [a.av,s.av,fsl frs,tsl tb] [] (.tup [.sl (r.map vrow),iv c]) []:=by
 rcases zii a s frs tb f zh6 zh6 hf 0 ([]) zh6 zh6 with ⟨out1,q1,q1_1,g1⟩|⟨r1_0,r1_1,p1_0,g1⟩
 ·rcases zih a s frs tb f g hf zh6 hg 0 out1 zh6 zh6 with ⟨out2,q2,q2_1,g2⟩|⟨r2_0,r2_1,p2_0,g2⟩
  ·exact ⟨out2,0,ztv,wkcN At.Am [] [2,3,4,5,10,23,24,25] 2 [(.ot 10 Ty.LValue,3)] kr (g1 _ (zab (wkl [sb q1_1] [2,3,5,10,62,63,64] 3 kr (g2 _ (zab (wkr [sqx (out2.length=(List.map vrow out2).length/\True/\True),sb q2_1] kr))))))⟩
  ·exact ⟨r2_0,r2_1,ztv,wkcN At.Am [] [2,3,4,5,10,23,24,25] 2 [(.ot 10 Ty.LValue,3)] kr (g1 _ (zab (wkl [sb q1_1] [2,3,5,10,62,63,64] 3 kr g2)))⟩
 ·exact ⟨r1_0,r1_1,ztv,wkcN At.Am [] [2,3,4,5,10,23,24,25] 2 [(.ot 10 Ty.LValue,3)] kr (g1)⟩
theorem zpS (a:Ac) (s:Sch) (frs:List Fr) (tb:List Tb) (f:X->V × Int) (g:Qy->List (List V) × Int) (hs:zac s.cols) (hr:a.rows.length<=1000000) (hf:∀ r∈a.rows,zac r/\∀ x∈r,PEv f x frs tb) (hq:a.query.length<=1000) (hg:∀ q∈a.query,(g q).1.length<=100000/\PRw g q frs tb):zaa E0 S.Am [a.av,s.av,fsl frs,tsl tb] [] (.tup [.sl ((insB f g s a).1.map vrow),iv (insB f g s a).2]) []:=by
 obtain ⟨r,c,h,h2⟩:=zpG a s frs tb f g hs hr hf hq hg
 rw [← h];exact h2
def zmO (ib:List (List V) × Int) (a:Ac):Ch × Int :=
 bif ib.snd != 0 then
  (Ch.mk [] [] [],ib.snd)
 else
  (Ch.mk ib.fst [] [],0)
theorem zls (ib:List (List V) × Int) (a:Ac) (s:Sch) (frs:List Fr) (tb:List Tb) (hk1:(a.kind==1)=true) (hv:zaa E0 S.BZ [a.av,tsl tb] [] (.tup [s.av,iv 0]) []) (hi:Pure S.Am [a.av,s.av,fsl frs,tsl tb] (.tup [.sl (ib.1.map vrow),iv ib.2])):zaa E0 S.Ak [a.av,fsl frs,tsl tb] [] (.tup [(zmO ib a).1.av,iv (zmO ib a).2]) []:=by
 unfold zmO
 let p_1:List St:=[sc hv,sb Zf,sb hk1,sc hi]
 cases h1:ib.snd != 0
 ·exact wk At.Ak (p_1++[sb h1]) kr
 ·exact wk At.Ak (p_1++[sb h1]) kr
theorem zmt {p:Prop} (h:p:=by first|exact (zqM s ‹_›).symm|exact (zpw s ‹_›).symm|exact (zzd ‹_› ‹_›).symm|exact zze ‹_› ‹_› ‹_› ‹_› ‹_›|(have h:=(by assumption:_/\List.all _ okC=false);rw [zqL h.2];exact h.1)):p:=h
theorem ztw {p:Prop} (h:p:=by exact zf0 hI (zmN ‹_›) (by first|exact zBo ‹_›|exact zBn ‹_›|exact zBp ‹_›)):p:=h
theorem zmN {s:Str} {i:Nat} {c:UInt8} (h:ByteAt s ((i:Nat):Int) ((c.toNat:Nat):Int)):s.data.toList[i]?=some c:=by
 obtain ⟨_,h1⟩:=h
 rw [Option.map_eq_some_iff] at h1
 obtain ⟨b,hb,e⟩:=h1
 have hc:b=c:=UInt8.toNat_inj.1 Zo
 subst hc
 have hb2:s[i]?=some b:=by simpa using hb
 by_cases h:i < s.size
 ·rw [getElem?_pos s i h,Option.some.injEq] at hb2
  have h2:i < s.data.size:=h
  rw [Array.getElem?_toList,Array.getElem?_eq_getElem h2]
  exact congrArg some hb2
 ·rw [getElem?_neg s i h] at hb2;simp at hb2
def letR (c:Int):Bool:=bif decide (97<=c) then decide (c<=122) else false
def digR (c:Int):Bool:=bif decide (48<=c) then decide (c<=57) else false
theorem zq2 (c:Int) :∃ (r:Bool),r=letR c/\zaa E0 S.C6 [.v (.int .u8 c)] [] (bv r) []:=by
 cases h1:decide (97<=c)
 ·exact ⟨false,(by (simp only [letR,cond_true,cond_false, *])),wk At.C6 [sb h1] kr⟩
 ·exact ⟨decide (c<=(122:Int)),(by (simp only [letR,cond_true,cond_false, *])),wk At.C6 [sg h1] kr⟩
theorem zgY (c:Int):zaa E0 S.C6 [.v (.int .u8 c)] [] (bv (letR c)) []:=by
 obtain ⟨r,rfl,h⟩:=zq2 c
 exact h
theorem zsj (c:Int) :∃ (r:Bool),r=digR c/\zaa E0 S.Dc [.v (.int .u8 c)] [] (bv r) []:=by
 cases h1:decide (48<=c)
 ·exact ⟨false,(by (simp only [digR,cond_true,cond_false, *])),wk At.Dc [sb h1] kr⟩
 ·exact ⟨decide (c<=(57:Int)),(by (simp only [digR,cond_true,cond_false, *])),wk At.Dc [sg h1] kr⟩
theorem zs2 (c:Int):zaa E0 S.Dc [.v (.int .u8 c)] [] (bv (digR c)) []:=by
 obtain ⟨r,rfl,h⟩:=zsj c
 exact h
theorem zBo {c:UInt8} (h:(!letR ((c.toNat:Nat):Int))=false):okC c=true:=by
 simp only [letR,okC] at *;cases h1:decide (97<=((c.toNat:Nat):Int)) <;> simp_all
theorem zBn {c:UInt8} (h:(!digR ((c.toNat:Nat):Int))=false):okC c=true:=by
 simp only [digR,okC] at *;cases h1:decide (48<=((c.toNat:Nat):Int)) <;> simp_all
theorem zBp {c:UInt8} (h:(((c.toNat:Nat):Int) != 95)=false):okC c=true:=by
 simp only [okC];simp at h;simp [h]
theorem okC_no {c:UInt8} (h1:(!letR ((c.toNat:Nat):Int))=true) (h2:(!digR ((c.toNat:Nat):Int))=true) (h3:(((c.toNat:Nat):Int) != 95)=true):okC c=false:=by
 simp only [letR,digR,okC] at *
 cases h4:decide (97<=((c.toNat:Nat):Int)) <;> cases h5:decide (48<=((c.toNat:Nat):Int)) <;> simp_all
noncomputable def zvW (s:Str) (i:Nat) :Cfg:=zaj B.Aw 0 [(0,sv s),(3,iv (i:Nat))] []
theorem zg1 (s:Str) (hs:decide ((12:Int) < ((s.size:Nat):Int))=false) (i:Nat)  (hi:i<=(s.size)) (hI:(s.data.toList.take i).all okC=true):(((s.data.toList.take s.size).all okC=true)/\(decide ((((s.size):Nat):Int) < (((s.size):Nat):Int))=false)/\∀ R,Good E0 B.Aw [] (zvW s s.size ) R->Good E0 B.Aw [] (zvW s i ) R)\/(∃ (r:Bool),(r=false/\s.data.toList.all okC=false)/\Good E0 B.Aw [] (zvW s i ) (Shut 0 fun rZ hZ=>rZ=(bv r)/\hZ=[])):=by
 have hk:=hi;revert i;refine zlp s.size (fun i hlt ih hi hI _=>?_)
 have h0:decide (((i:Nat):Int) < (((s.size):Nat):Int))=true:=by simp;omega
 have hw:IntKind.i64.wrap (((i:Nat):Int)+1)=((i+1:Nat):Int):=zaJ i (by (simp only [decide_eq_false_iff_not] at hs;omega))
 obtain ⟨c1,b1⟩:=zoi (s:=s) (i:=(i:Int)) (by first|omega|(simp only [decide_eq_false_iff_not,decide_eq_true_eq] at *;omega))
 let p_1:List St:=[sb h0,sy b1,sc (zgY ((c1.toNat:Int)))]
 let p_2:List St:=[sb h0,sy b1,sc (zgY ((c1.toNat:Int)))]
 cases h2:!letR (c1.toNat:Int)
 ·exact zie2 (ih Zo ztw Zo) fun R gY=>zab (wkl (p_1++[sb h2,si hw]) [0,3] 0 kr gY)
 ·let p_3:List St:=p_1++[sg h2,sy b1,sc (zs2 ((c1.toNat:Int)))]
  cases h3:!digR (c1.toNat:Int)
  ·exact zie2 (ih Zo ztw Zo) fun R gY=>zab (wkl (p_3++[sb h3,si hw]) [0,3] 0 kr gY)
  ·cases h4:(c1.toNat:Int) != 95
   ·exact zie2 (ih Zo ztw Zo) fun R gY=>zab (wkl (p_3++[sg h3,sy b1,sb h4,si hw]) [0,3] 0 kr gY)
   ·exact .inr ⟨false,(by exact ⟨rfl,zhM (zmN ‹_›) (okC_no ‹_› ‹_› ‹_›)⟩),zab (wkr (p_3++[sg h3,sy b1,sb h4]) kr)⟩
theorem zzd {s:Str} {c:UInt8} (h:ByteAt s 0 ((c.toNat:Nat):Int)) (h1:(!letR ((c.toNat:Nat):Int))=true):zaG s=false:=by
 have e:=zoh h
 cases hv:zaG s
 ·rfl
 ·exfalso
  simp only [zaG,Bool.and_eq_true,decide_eq_true_eq] at hv
  obtain ⟨⟨⟨a1,a2⟩,a3⟩,a4⟩:=hv
  rw [e] at a3
  have a5:okC c=true:=by
   rw [List.all_eq_true] at a4
   apply a4
   rw [← e]
   have:s.data.toList.getD 0 0=s.data.toList[0]'Zo:=by rw [List.getD_eq_getElem?_getD,List.getElem?_eq_getElem Zo];rfl
   rw [this];exact List.getElem_mem _
  simp only [letR,okC] at *
  cases h4:decide (97<=((c.toNat:Nat):Int)) <;> simp_all <;> omega
theorem zze {s:Str} {c:UInt8} (h1:decide (((s.size:Nat):Int) < 1)=false) (h2:decide ((12:Int) < ((s.size:Nat):Int))=false) (h:ByteAt s 0 ((c.toNat:Nat):Int)) (h3:(!letR ((c.toNat:Nat):Int))=false) (h4:(s.data.toList.take s.size).all okC=true):true=zaG s:=by
 have e1:=zoh h
 rw [zic] at h1 h2 h4
 rw [List.take_length] at h4
 have h5:97<=c.toNat:=by
  simp only [letR] at h3
  cases h6:decide (97<=((c.toNat:Nat):Int))
  ·rw [h6] at h3;simp at h3
  ·simp only [decide_eq_true_eq] at h6;omega
 simp only [decide_eq_false_iff_not] at h1 h2
 have a1:decide (1<=s.data.toList.length)=true:=by simp only [decide_eq_true_eq];omega
 have a2:decide (s.data.toList.length<=12)=true:=by simp only [decide_eq_true_eq];omega
 have a3:decide (97<=(s.data.toList.getD 0 0).toNat)=true:=by simp only [decide_eq_true_eq];rw [e1];exact h5
 simp only [zaG,a1,a2,a3,h4,Bool.and_true]
theorem znO (s:Str) :∃ (r:Bool),r=zaG s/\zaa E0 S.Aw [sv s] [] (bv r) []:=by
 cases h1:decide ((↑(ByteArray.size s):Int) < 1)
 ·cases h2:decide (12 < (↑(ByteArray.size s):Int))
  ·obtain ⟨c3,b3⟩:=zoi (s:=s) (i:=(0:Int)) (by first|omega|(simp only [decide_eq_false_iff_not,decide_eq_true_eq] at *;omega))
   let p_1:List St:=[sg h1,sg h2,sy b3,sc (zgY ((c3.toNat:Int)))]
   cases h4:!letR (c3.toNat:Int)
   ·rcases zg1 s (by first|assumption|omega|(simp;done)|(simp;omega)) 0 (by first|assumption|omega|(simp;done)|(simp;omega)) (by first|assumption|omega|(simp;done)|(simp;omega)) with ⟨q5,q5_1,g5⟩|⟨r5_0,p5_0,g5⟩
    ·exact ⟨true,zmt,wkc At.Aw (p_1++[sb h4]) [0,3] 0 kr (g5 _ (zab (wkr [sb q5_1] kr)))⟩
    ·exact ⟨r5_0,zmt,wkc At.Aw (p_1++[sb h4]) [0,3] 0 kr (g5)⟩
   ·exact ⟨false,zmt,wk At.Aw (p_1++[sb h4]) kr⟩
  ·exact ⟨false,zmt,wk At.Aw [sg h1,sb h2] kr⟩
 ·exact ⟨false,zmt,wk At.Aw [sb h1] kr⟩
theorem zdF (s:Str):zaa E0 S.Aw [sv s] [] (bv (zaG s)) []:=by
 obtain ⟨r,rfl,h⟩:=znO s
 exact h
def keyL:List Col->Nat->Int->Int
 | [],_,k=>k
 | c::r,i,k=>keyL r (i+1) (bif c.key then (i:Int) else k)
abbrev keyC (s:Sch):Int:=keyL s.cols 0 (-1)
theorem zqt {l:List Col} {i:Nat} {k:Int} {x:Col} {z:Int} (h:z=keyL (l.drop i) i k) (hx:l[i]?=some x):z=keyL (l.drop (i+1)) (i+1) (bif x.key then (i:Int) else k):=by
 obtain ⟨hi,e⟩:=List.getElem?_eq_some_iff.1 hx
 rw [h,List.drop_eq_getElem_cons hi,e];rfl
theorem zoS {l:List Col} {i:Nat} {k:Int} {x:Col} {z:Int} (h:z=keyL (l.drop i) i k) (hx:l[i]?=some x) (hk:x.key=true):z=keyL (l.drop (i+1)) (i+1) (i:Int):=by
 have:=zqt h hx;rwa [hk] at this
theorem zoR {l:List Col} {i:Nat} {k:Int} {x:Col} {z:Int} (h:z=keyL (l.drop i) i k) (hx:l[i]?=some x) (hk:x.key=false):z=keyL (l.drop (i+1)) (i+1) k:=by
 have:=zqt h hx;rwa [hk] at this
theorem zcV {l:List Col} {k:Int} {z:Int} (h:z=keyL (l.drop l.length) l.length k):k=z:=by
 rw [List.drop_length] at h;exact h.symm
structure RowsV (s:Sch) (next:Int) (rows:List Rw):Prop where
 fit:zhK s rows
 asc:rows.Pairwise fun a b=>a.id < b.id
 ids:∀ r∈rows,1<=r.id/\r.id < next
 keys:0<=keyC s->rows.Pairwise fun a b=>zaz a.vals (keyC s)≠zaz b.vals (keyC s)
 pos:1<=next
theorem RowsV.nil {s:Sch} {next:Int} (h:1<=next):RowsV s next []:=⟨fun _ h=>(by cases h),.nil,fun _ h=>(by cases h),fun _=>.nil,h⟩
theorem RowsV.more {s:Sch} {next m:Int} {rows:List Rw} (h:RowsV s next rows) (hm:next<=m):RowsV s m rows:=⟨h.fit,h.asc,fun r hr=>⟨(h.ids r hr).1,by have:=(h.ids r hr).2;omega⟩,h.keys,by have:=h.pos;omega⟩
theorem RowsV.push {s:Sch} {next m:Int} {rows:List Rw} {v:List V} (h:RowsV s next rows) (hv:zcX s.cols v) (hf:∀ r∈rows,keyC s < 0\/zaz r.vals (keyC s)≠zaz v (keyC s)) (hm:next < m):RowsV s m (rows++[⟨next,v⟩]):=by
 refine ⟨h.fit.push hv,?_,?_,?_,by have:=h.pos;omega⟩
 ·rw [List.pairwise_append];exact ⟨h.asc,by simp,fun a ha b hb=>by simp only [List.mem_singleton] at hb;subst hb;exact (h.ids a ha).2⟩
 ·intro r hr
  rcases List.mem_append.1 hr with hr|hr
  ·have:=h.ids r hr;omega
  ·simp only [List.mem_singleton] at hr;subst hr;have:=h.pos;simp only;omega
 ·intro hk
  rw [List.pairwise_append];exact ⟨h.keys hk,by simp,fun a ha b hb=>by simp only [List.mem_singleton] at hb;subst hb;exact (hf a ha).resolve_left Zo⟩
theorem veq_of {a b:V} (h:(!(a.kind==b.kind&&(a.int==b.int&&(a.text==b.text&&true))))=true):a≠b:=by
 rintro rfl;simp at h
def zcs (key:Int) (rv:List V) (rows:List Rw):Prop:=∀ r∈rows,key < 0\/zaz r.vals key≠zaz rv key
theorem zcs.step {key:Int} {rv:List V} {rows:List Rw} {i:Nat} {x:Rw} {f g:Bool} (h:f=true->zcs key rv (rows.take i)) (hx:rows[i]?=some x) (hg:g=true->f=true/\(key < 0\/zaz x.vals key≠zaz rv key)):g=true->zcs key rv (rows.take (i+1)):=by
 intro hg1 r hr
 rw [List.take_add_one,hx] at hr
 rcases List.mem_append.1 hr with hr|hr
 ·exact h (hg hg1).1 r hr
 ·simp at hr;subst hr;exact (hg hg1).2
theorem zlU {key:Int} {rv xv:List V} {f:Bool} (h2:decide (key < 0)=false) (hg:(bif f then bif decide (key < 0) then true else !((zaz xv key).kind==(zaz rv key).kind&&((zaz xv key).int==(zaz rv key).int&&((zaz xv key).text==(zaz rv key).text&&true))) else false)=true):f=true/\(key < 0\/zaz xv key≠zaz rv key):=by
 cases f
 ·simp at hg
 ·refine ⟨rfl,.inr (veq_of ?_)⟩;rw [h2] at hg;simpa using hg
theorem zsF {key:Int} {P:Prop} {f:Bool} (h2:decide (key < 0)=true) (hg:(bif f then true else false)=true):f=true/\(key < 0\/P):=by
 cases f
 ·simp at hg
 ·exact ⟨rfl,.inl (by simpa using h2)⟩
theorem zu9 {n:Int} {a b:Nat} (ha:(a:Int) < 2) (hb:(b:Int) < 2) (hn:1<=n/\n<=1000000):n < IntKind.i64.wrap (n+IntKind.i64.wrap (1+IntKind.i64.wrap ((a:Int) * (b:Int))))/\IntKind.i64.wrap (n+IntKind.i64.wrap (1+IntKind.i64.wrap ((a:Int) * (b:Int))))<=n+2:=by
 have e:(a:Int) * (b:Int)=0\/(a:Int) * (b:Int)=1:=by
  have:a=0\/a=1:=by omega
  have:b=0\/b=1:=by omega
  rcases ‹a=0\/a=1› with rfl|rfl <;> rcases ‹b=0\/b=1› with rfl|rfl <;> simp
 rcases e with e|e <;> rw [e] <;> simp only [IntKind.wrap_i64] <;> omega
noncomputable def L_tvK (t0:Tp) (s:Sch) (n:Int) (u:Tp) (next:Int) (i:Nat) (key:Int):Cfg:=zaj B.AJ 0 [(0,.p 0 0),(2,iv n),(4,.p 1 0),(6,.p 2 0),(7,.p 3 0),(8,iv key),(22,.sl (s.cols.map Col.cells)),(23,iv ((s.cols.map Col.cells).length:Nat)),(24,iv (i:Nat))] [.box u.cells,.box s.cells,.box zT,.box [sv s.name,.sl (s.cols.map Col.cells),iv next,.nl]]
theorem zfL (t0:Tp) (s:Sch) (n:Int) (u:Tp) (next:Int) (hs:Few s.cols) (i:Nat) (key:Int) (hi:i<=(s.cols).length) (hI:key < (i:Int)/\keyC s=keyL (s.cols.drop i) i key):∃ (key':Int),(key' < ((s.cols).length:Int)/\keyC s=keyL (s.cols.drop (s.cols).length) (s.cols).length key')/\(decide ((((s.cols).length:Nat):Int) < (((s.cols.map Col.cells).length:Nat):Int))=false)/\∀ R,Good E0 B.AJ [.box t0.cells] (L_tvK t0 s n u next (s.cols).length key') R->Good E0 B.AJ [.box t0.cells] (L_tvK t0 s n u next i key) R:=by
 have hk:=hi;revert i key;refine zlp ((s.cols).length) (fun i hlt ih key hi hI _=>?_)
 obtain ⟨x,hx,h0,hw⟩:=zlq (l:=s.cols) ((s.cols.map Col.cells).length) hlt
 let p_1:List St:=[sb h0,se (zaf Col.cells hx rfl)]
 cases h1:x.key
 ·exact Zih (ih key Zo (by first|exact ⟨by omega,zoS hI.2 hx ‹_›⟩|exact ⟨by omega,zoR hI.2 hx ‹_›⟩) Zo) fun R gY=>zab (wkl (p_1++[sb h1,si hw]) [0,2,4,6,7,8,22,23,24] 4 kr gY)
 ·exact Zih (ih ((i:Int)) Zo (by first|exact ⟨by omega,zoS hI.2 hx ‹_›⟩|exact ⟨by omega,zoR hI.2 hx ‹_›⟩) Zo) fun R gY=>zab (wkl (p_1++[sb h1,si hw]) [0,2,4,6,7,8,22,23,24] 4 kr gY)
noncomputable def L_tvR (t0:Tp) (s:Sch) (key:Int) (k:Nat) (u:Tp) (next:Int) (rows:List Rw):Cfg:=zaj B.AJ 1 [(0,.p 0 0),(4,.p 1 0),(6,.p 2 0),(7,.p 3 0),(8,iv key),(11,iv (k:Nat))] [.box u.cells,.box s.cells,.box zT,.box [sv s.name,.sl (s.cols.map Col.cells),iv next,.own 4 rows.length],.row Ty.Row (rows.map Rw.cells) false]
noncomputable def L_tvI (t0:Tp) (s:Sch) (key:Int) (k:Nat) (u:Tp) (next:Int) (rows:List Rw) (rv:List V) (i:Nat) (fresh:Bool):Cfg:=zaj B.AJ 2 [(0,.p 0 0),(4,.p 1 0),(6,.p 2 0),(7,.p 3 0),(8,iv key),(11,iv (k+1:Nat)),(12,vsl rv),(13,bv fresh),(45,.own 4 rows.length),(46,iv (rows.length:Nat)),(47,iv (i:Nat))] [.box u.cells,.box s.cells,.box zT,.box [sv s.name,.sl (s.cols.map Col.cells),iv next,.own 4 rows.length],.row Ty.Row (rows.map Rw.cells) false]
theorem zfK (t0:Tp) (s:Sch) (key:Int) (k:Nat) (u:Tp) (next:Int) (rows:List Rw) (rv:List V) (hko:zd6 s.cols.length key) (hr:Few rows) (hrs:zhK s rows) (hrv:zcX s.cols rv) (i:Nat) (fresh:Bool) (hi:i<=(rows).length) (hI:fresh=true->zcs key rv (rows.take i)):∃ (fresh':Bool),(fresh'=true->zcs key rv (rows.take (rows).length))/\(decide ((((rows).length:Nat):Int) < (((rows).length:Nat):Int))=false)/\∀ R,Good E0 B.AJ [.box t0.cells] (L_tvI t0 s key k u next rows rv (rows).length fresh') R->Good E0 B.AJ [.box t0.cells] (L_tvI t0 s key k u next rows rv i fresh) R:=by
 have hk:=hi;revert i fresh;refine zlp ((rows).length) (fun i hlt ih fresh hi hI _=>?_)
 obtain ⟨x,hx,h0,hw⟩:=zlq (l:=rows) ((rows).length) hlt
 have hvl:=hrv.len;have hxl:=hrs.len hx;have ho:OwnAt (rows.map Rw.cells) rows.length ((i:Nat):Int):=⟨by simp,by omega,by have:=zbY hx;simp;omega⟩
 let p_1:List St:=[sb h0,sqx (OwnAt (List.map Rw.cells rows) rows.length (i:Int)),sx (.el x.cells) (ze3 Rw.cells (n:=rows.length) Zs hx)]
 rcases (Bool.eq_false_or_eq_true fresh).symm with h1|h1
 ·exact Zih (ih false Zo (by first|exact zcs.step hI hx (fun h=>by cases h)|exact zcs.step hI hx (zlU ‹_›)|exact zcs.step hI hx (zsF ‹_›)) Zo) fun R gY=>zab (wklN (p_1++[sd [(2,[sb h1]),(3,[sb h1]),(4,[sb h1]),(15,[sb h1]),(16,[sb h1])],si hw]) [0,4,6,7,8,11,12,13,45,46,47] 5 [(.bl 13,5)] kr gY)
 ·cases h2:decide (key < 0)
  ·exact Zih (ih (bif fresh then bif decide (key < 0) then true else !((zaz x.vals key).kind==(zaz rv key).kind&&((zaz x.vals key).int==(zaz rv key).int&&((zaz x.vals key).text==(zaz rv key).text&&true))) else false) Zo (by first|exact zcs.step hI hx (fun h=>by cases h)|exact zcs.step hI hx (zlU ‹_›)|exact zcs.step hI hx (zsF ‹_›)) Zo) fun R gY=>zab (wkl (p_1++[sd [(2,[sg h1]),(3,[sg h1]),(4,[sg h1]),(5,[sg h2]),(6,[sg h2]),(7,[sg h2]),(8,[so h2 (se (zeo x.vals key (by first|assumption|(have hk':key < (s.cols.length:Int):=hko;omega)) (by first|assumption|(have hk':key < (s.cols.length:Int):=hko;omega))))]),(9,[sg h2]),(10,[sg h2]),(11,[sg h2]),(12,[so h2 (se (zeo rv key (by first|assumption|(have hk':key < (s.cols.length:Int):=hko;omega)) (by first|assumption|(have hk':key < (s.cols.length:Int):=hko;omega))))]),(13,[sg h2]),(14,[so h2 (sq zaW)]),(15,[sg h1])],si hw]) [0,4,6,7,8,11,12,13,45,46,47] 5 kr gY)
  ·exact Zih (ih (bif fresh then true else false) Zo (by first|exact zcs.step hI hx (fun h=>by cases h)|exact zcs.step hI hx (zlU ‹_›)|exact zcs.step hI hx (zsF ‹_›)) Zo) fun R gY=>zab (wkl (p_1++[sd [(2,[sg h1]),(3,[sg h1]),(4,[sg h1]),(5,[sb h2]),(6,[sb h2]),(7,[sb h2]),(8,[sb h2]),(9,[sb h2]),(10,[sb h2]),(11,[sb h2]),(12,[sb h2]),(13,[sb h2]),(14,[sb h2]),(15,[so h1 (sb h2)])],si hw]) [0,4,6,7,8,11,12,13,45,46,47] 5 kr gY)
theorem zwE {s:Sch} {key:Int} {rv:List V} {rows:List Rw} (hk:key=keyC s) (h:zcs key rv (rows.take rows.length)):∀ r∈rows,keyC s < 0\/zaz r.vals (keyC s)≠zaz rv (keyC s):=by
 subst hk;rw [List.take_length] at h;exact h
theorem zvs {s:Sch} {next n:Int} {rows:List Rw} {k a b:Nat} (hI:((rows.length+(k+1):Nat):Int)<=n/\RowsV s next rows/\next+2 * ((k+1:Nat):Int)<=3000) (ha:(a:Int) < 2) (hb:(b:Int) < 2):((rows.length+k:Nat):Int)<=n/\RowsV s (IntKind.i64.wrap (next+IntKind.i64.wrap (1+IntKind.i64.wrap ((a:Int) * (b:Int))))) rows/\IntKind.i64.wrap (next+IntKind.i64.wrap (1+IntKind.i64.wrap ((a:Int) * (b:Int))))+2 * ((k:Nat):Int)<=3000:=by
 have h:=zu9 (n:=next) ha hb ⟨hI.2.1.pos,by omega⟩
 exact ⟨by omega,hI.2.1.more Zo,by omega⟩
theorem zvt {s:Sch} {key next n:Int} {rows:List Rw} {v:List V} {k a b:Nat} (hI:((rows.length+(k+1):Nat):Int)<=n/\RowsV s next rows/\next+2 * ((k+1:Nat):Int)<=3000) (hkc:key=keyC s) (hv:zcX s.cols v) (hf:zcs key v (rows.take rows.length)) (ha:(a:Int) < 2) (hb:(b:Int) < 2):(((rows++[Rw.mk next v]).length+k:Nat):Int)<=n/\RowsV s (IntKind.i64.wrap (next+IntKind.i64.wrap (1+IntKind.i64.wrap ((a:Int) * (b:Int))))) (rows++[⟨next,v⟩])/\IntKind.i64.wrap (next+IntKind.i64.wrap (1+IntKind.i64.wrap ((a:Int) * (b:Int))))+2 * ((k:Nat):Int)<=3000:=by
 have h:=zu9 (n:=next) ha hb ⟨hI.2.1.pos,by omega⟩
 exact ⟨by simp;omega,hI.2.1.push hv (zwE hkc hf) Zo,by omega⟩
theorem zfM (t0:Tp) (s:Sch) (key:Int) (n:Int) (hn9:n<=900) (hk:zd6 s.cols.length key) (hkc:key=keyC s) (hs:SchOk s) (k:Nat) (u:Tp) (next:Int) (rows:List Rw) (hi:k<=1000000000) (hI:((rows.length+k:Nat):Int)<=n/\RowsV s next rows/\next+2 * (k:Int)<=3000):∃ (u':Tp) (next':Int) (rows':List Rw),(((rows'.length+0:Nat):Int)<=n/\RowsV s next' rows'/\next'+2 * (0:Int)<=3000)/\(decide ((0:Int) < ((0:Nat):Int))=false)/\∀ R,Good E0 B.AJ [.box t0.cells] (L_tvR t0 s key 0 u' next' rows') R->Good E0 B.AJ [.box t0.cells] (L_tvR t0 s key k u next rows) R:=by
 induction k generalizing u next rows with
 | zero=>exact ⟨u,next,rows,hI,by decide,fun R hg=>hg⟩
 | succ k ih =>
  have h0:decide ((0:Int) < (((k+1):Nat):Int))=true:=by first|(simp;done)|(simp;omega)
  have hw:IntKind.i64.wrap (((k+1:Nat):Int) - 1)=((k:Nat):Int):=zi1 k Zo
  have hR:=hI.2.1.fit;have hsh:=hs.short;have hco:=hs.cols;have hfw:Few rows:=by simp only [Few];omega
  obtain ⟨r1,t1,q1,c1⟩:=(zn7 u s (by first|assumption|trivial|omega|exact (fun _ r hr=>absurd hr Zs)|(simp;done)) (by first|assumption|trivial|omega|exact (fun _ r hr=>absurd hr Zs)|(simp;done)))
  obtain ⟨zlU,q2,q2_1,g2⟩:=zfK t0 s key k t1 next rows r1 (by first|assumption|trivial|omega|exact (fun _ r hr=>absurd hr Zs)|(simp;done)) (by first|assumption|trivial|omega|exact (fun _ r hr=>absurd hr Zs)|(simp;done)) (by first|assumption|trivial|omega|exact (fun _ r hr=>absurd hr Zs)|(simp;done)) (by first|assumption|trivial|omega|exact (fun _ r hr=>absurd hr Zs)|(simp;done)) 0 true (by first|assumption|trivial|omega|exact (fun _ r hr=>absurd hr Zs)|(simp;done)) (by first|assumption|trivial|omega|exact (fun _ r hr=>absurd hr Zs)|(simp;done))
  let p_1:List St:=[sb h0,sl [0] c1,sqx (rows.length=(List.map Rw.cells rows).length)]
  rcases (Bool.eq_false_or_eq_true zlU).symm with h3|h3
  ·obtain ⟨a4,t4,q4,c4⟩:=(zai t1 2 (by first|assumption|trivial|omega|exact (fun _ r hr=>absurd hr Zs)|(simp;done)))
   obtain ⟨a5,t5,q5,c5⟩:=(zai t4 2 (by first|assumption|trivial|omega|exact (fun _ r hr=>absurd hr Zs)|(simp;done)))
   obtain ⟨uZ,nextZ,rowsZ,qZ,xZ,gZ⟩:=ih t5 (IntKind.i64.wrap (next+IntKind.i64.wrap (1+IntKind.i64.wrap ((a4:Int) * (a5:Int))))) rows Zo (by first|exact zvs hI ‹_› ‹_›|exact zvt hI hkc ‹_› (‹_=true->zcs _ _ _› ‹_›) ‹_› ‹_›);exact ⟨uZ,nextZ,rowsZ,qZ,xZ,fun R hg=>zab (wklN p_1 [0,4,6,7,8,11,12,13,45,46,47] 5 [(.bl 13,5)] kr (g2 _ (zab (wkl [sb q2_1,sb h3,sd [(3,[sl [0] c4]),(5,[sl [0] c5]),(6,[si (e:=IntKind.i64.wrap ((a4:Int) * (a5:Int))) rfl]),(7,[si (e:=IntKind.i64.wrap (1+IntKind.i64.wrap ((a4:Int) * (a5:Int)))) rfl]),(8,[si (e:=IntKind.i64.wrap (next+IntKind.i64.wrap (1+IntKind.i64.wrap ((a4:Int) * (a5:Int))))) rfl])],si hw] [0,4,6,7,8,11] 5 kr (gZ R hg)))))⟩
  ·obtain ⟨a6,t6,q6,c6⟩:=(zai t1 2 (by first|assumption|trivial|omega|exact (fun _ r hr=>absurd hr Zs)|(simp;done)))
   obtain ⟨a7,t7,q7,c7⟩:=(zai t6 2 (by first|assumption|trivial|omega|exact (fun _ r hr=>absurd hr Zs)|(simp;done)))
   obtain ⟨uZ,nextZ,rowsZ,qZ,xZ,gZ⟩:=ih t7 (IntKind.i64.wrap (next+IntKind.i64.wrap (1+IntKind.i64.wrap ((a6:Int) * (a7:Int))))) (rows++[Rw.mk next r1]) Zo (by first|exact zvs hI ‹_› ‹_›|exact zvt hI hkc ‹_› (‹_=true->zcs _ _ _› ‹_›) ‹_› ‹_›);exact ⟨uZ,nextZ,rowsZ,qZ,xZ,fun R hg=>zab (wklN p_1 [0,4,6,7,8,11,12,13,45,46,47] 5 [(.bl 13,5)] kr (g2 _ (zab (wkl [sb q2_1,sb h3,sqA (List.map Rw.cells rows) [[iv next,vsl r1]] rows.length 2 32,sd [(3,[sl [0] c6]),(5,[sl [0] c7]),(6,[si (e:=IntKind.i64.wrap ((a6:Int) * (a7:Int))) rfl]),(7,[si (e:=IntKind.i64.wrap (1+IntKind.i64.wrap ((a6:Int) * (a7:Int)))) rfl]),(8,[si (e:=IntKind.i64.wrap (next+IntKind.i64.wrap (1+IntKind.i64.wrap ((a6:Int) * (a7:Int))))) rfl])],si hw] [0,4,6,7,8,11] 5 kr (zaF rfl (show ([Blk.box [AV.sl (List.map (fun n=>[iv n]) t7.l),iv (t7.pos:Int)],Blk.box s.cells,Blk.box [sv Zs0,AV.nl,iv 0,AV.nl],Blk.box [sv s.name,ZC s.cols,iv (IntKind.i64.wrap (next+IntKind.i64.wrap (1+IntKind.i64.wrap ((a6:Int) * (a7:Int))))),AV.own 4 (List.map Rw.cells rows++[[iv next,vsl r1]]).length],Blk.row Ty.Row (List.map Rw.cells rows++[[iv next,vsl r1]]) false]:Heap)=_ from Zcv5) (gZ R hg))))))⟩
theorem zbi {a:Nat} (ha:(a:Int) < 3):IntKind.i64.wrap (1+(a:Int))=1+(a:Int):=by rw [IntKind.wrap_i64];omega
theorem ziC (t:Tp) (s:Sch) (n:Int) (hs:SchOk s) (hf:Few s.cols) (hn:0<=n/\n<=900) (hw:IntKind.i64.wrap (n+1)=n+1):∃ (rows:List Rw) (next:Int) (t':Tp),((rows.length:Int)<=n/\RowsV s next rows/\next<=3000)/\zaa E0 S.AJ [.p 0 0,s.av,iv n] [.box t.cells] (Tb.av ⟨s,next,rows⟩) [.box t'.cells]:=by
 obtain ⟨a1,t1,q1,c1⟩:=(zai t 3 (by first|exact (show Int from n)|assumption|(simp only [zd6];omega)|(simp only [Pos];omega)|omega|exact ⟨by omega,rfl⟩|exact zcV (And.right ‹_/\keyC _=_›)|exact ⟨by simp;omega,RowsV.nil (by rw [zbi ‹_›];omega),by rw [zbi ‹_›];omega⟩))
 obtain ⟨key2,q2,q2_1,g2⟩:=zfL t s n t1 (IntKind.i64.wrap (1+(a1:Int))) (by first|exact (show Int from n)|assumption|(simp only [zd6];omega)|(simp only [Pos];omega)|omega|exact ⟨by omega,rfl⟩|exact zcV (And.right ‹_/\keyC _=_›)|exact ⟨by simp;omega,RowsV.nil (by rw [zbi ‹_›];omega),by rw [zbi ‹_›];omega⟩) 0 (-1) (by first|exact (show Int from n)|assumption|(simp only [zd6];omega)|(simp only [Pos];omega)|omega|exact ⟨by omega,rfl⟩|exact zcV (And.right ‹_/\keyC _=_›)|exact ⟨by simp;omega,RowsV.nil (by rw [zbi ‹_›];omega),by rw [zbi ‹_›];omega⟩) (by first|exact (show Int from n)|assumption|(simp only [zd6];omega)|(simp only [Pos];omega)|omega|exact ⟨by omega,rfl⟩|exact zcV (And.right ‹_/\keyC _=_›)|exact ⟨by simp;omega,RowsV.nil (by rw [zbi ‹_›];omega),by rw [zbi ‹_›];omega⟩)
 obtain ⟨a3,t3,q3,c3⟩:=(zai t1 (n+1) (by first|exact (show Int from n)|assumption|(simp only [zd6];omega)|(simp only [Pos];omega)|omega|exact ⟨by omega,rfl⟩|exact zcV (And.right ‹_/\keyC _=_›)|exact ⟨by simp;omega,RowsV.nil (by rw [zbi ‹_›];omega),by rw [zbi ‹_›];omega⟩))
 obtain ⟨u4,next4,rows4,q4,q4_1,g4⟩:=zfM t s key2 n (by first|exact (show Int from n)|assumption|(simp only [zd6];omega)|(simp only [Pos];omega)|omega|exact ⟨by omega,rfl⟩|exact zcV (And.right ‹_/\keyC _=_›)|exact ⟨by simp;omega,RowsV.nil (by rw [zbi ‹_›];omega),by rw [zbi ‹_›];omega⟩) (by first|exact (show Int from n)|assumption|(simp only [zd6];omega)|(simp only [Pos];omega)|omega|exact ⟨by omega,rfl⟩|exact zcV (And.right ‹_/\keyC _=_›)|exact ⟨by simp;omega,RowsV.nil (by rw [zbi ‹_›];omega),by rw [zbi ‹_›];omega⟩) (by first|exact (show Int from n)|assumption|(simp only [zd6];omega)|(simp only [Pos];omega)|omega|exact ⟨by omega,rfl⟩|exact zcV (And.right ‹_/\keyC _=_›)|exact ⟨by simp;omega,RowsV.nil (by rw [zbi ‹_›];omega),by rw [zbi ‹_›];omega⟩) (by first|exact (show Int from n)|assumption|(simp only [zd6];omega)|(simp only [Pos];omega)|omega|exact ⟨by omega,rfl⟩|exact zcV (And.right ‹_/\keyC _=_›)|exact ⟨by simp;omega,RowsV.nil (by rw [zbi ‹_›];omega),by rw [zbi ‹_›];omega⟩) a3 t3 (IntKind.i64.wrap (1+(a1:Int))) ([]) (by first|exact (show Int from n)|assumption|(simp only [zd6];omega)|(simp only [Pos];omega)|omega|exact ⟨by omega,rfl⟩|exact zcV (And.right ‹_/\keyC _=_›)|exact ⟨by simp;omega,RowsV.nil (by rw [zbi ‹_›];omega),by rw [zbi ‹_›];omega⟩) (by first|exact (show Int from n)|assumption|(simp only [zd6];omega)|(simp only [Pos];omega)|omega|exact ⟨by omega,rfl⟩|exact zcV (And.right ‹_/\keyC _=_›)|exact ⟨by simp;omega,RowsV.nil (by rw [zbi ‹_›];omega),by rw [zbi ‹_›];omega⟩)
 exact ⟨rows4,next4,u4,(by exact ⟨by omega,(‹_/\RowsV _ _ _/\_›).2.1,by omega⟩),wkc At.AJ [sdm [(2,[sl [0] c1]),(3,[si (e:=IntKind.i64.wrap (1+(a1:Int))) rfl])] 0 [(0,AV.p 0 0),(1,AV.agg s.cells),(2,iv n),(4,AV.p 1 0),(6,AV.p 2 0),(7,AV.p 3 0),(16,AV.agg s.cells),(17,AV.p 0 0),(18,iv (a1:Int)),(19,iv (IntKind.i64.wrap (1+(a1:Int)))),(20,AV.agg [sv s.name,ZC s.cols,iv (IntKind.i64.wrap (1+(a1:Int))),AV.nl])] [Blk.box [AV.sl (List.map (fun n=>[iv n]) t1.l),iv (t1.pos:Int)],Blk.box s.cells,Blk.box [sv Zs0,AV.nl,iv 0,AV.nl],Blk.box [sv s.name,ZC s.cols,iv (IntKind.i64.wrap (1+(a1:Int))),AV.nl]]] [0,2,4,6,7,8,22,23,24] 4 kr (g2 _ (zab (wklN [sb q2_1,si hw,sl [0] c3] [0,4,6,7,8,11] 4 [(.ob 3 3 Ty.Row,5)] kr (g4 _ (zab (wkr [sqx (True/\True/\True/\rows4.length=(List.map Rw.cells rows4).length/\True),sb Zf] kr))))))⟩
structure StoreV (n:Int) (l:List Tb):Prop where
 schs:l.map Tb.sch=zak
 rows:∀ t∈l,RowsV t.sch t.next t.rows
 next:∀ t∈l,t.next<=3000
 len:∀ t∈l,(t.rows.length:Int)<=n
structure StoreP (n:Int) (i:Nat) (l:List Tb):Prop where
 schs:l.map Tb.sch=zak.take i
 tabs:∀ t∈l,RowsV t.sch t.next t.rows/\t.next<=3000/\(t.rows.length:Int)<=n
theorem StoreP.push {n:Int} {i:Nat} {l:List Tb} {x:Sch} {nx:Int} {rs:List Rw} (h:StoreP n i l) (hx:zak[i]?=some x) (ht:(rs.length:Int)<=n/\RowsV x nx rs/\nx<=3000):StoreP n (i+1) (l++[⟨x,nx,rs⟩]) :=
 ⟨by rw [List.map_append,h.schs,List.take_add_one,hx];rfl,fun t hm=>(List.mem_append.1 hm).elim (h.tabs t) fun h=>by simp only [List.mem_singleton] at h;subst h;exact ⟨ht.2.1,ht.2.2,ht.1⟩⟩
theorem StoreP.all {n:Int} {l:List Tb} (h:StoreP n zak.length l):StoreV n l :=
 ⟨by rw [h.schs,List.take_length],fun t ht=>(h.tabs t ht).1,fun t ht=>(h.tabs t ht).2.1,fun t ht=>(h.tabs t ht).2.2⟩
theorem StoreV.ok {n:Int} {l:List Tb} (h:StoreV n l) (hn:n<=1000:=by decide):StoreOk l :=
 ⟨by have:=congrArg List.length h.schs;simp [zak] at this;omega,fun t ht=>⟨⟨(h.rows t ht).fit,by have:=h.len t ht;omega⟩,zh9 (by rw [← h.schs];exact List.mem_map_of_mem ht)⟩⟩
noncomputable def L_stV (t0:Tp) (n:Int) (i:Nat) (u:Tp) (out:List Tb):Cfg:=zaj B.BD 0 [(0,.p 0 0),(1,iv n),(5,.own 1 out.length),(8,.sl (zak.map Sch.cells)),(9,iv ((zak.map Sch.cells).length:Nat)),(10,iv (i:Nat))] [.box u.cells,.row Ty.Table (out.map Tb.cells) false]
theorem zgh (t0:Tp) (n:Int) (hs:zac zak) (hn:0<=n/\n<=900) (i:Nat) (u:Tp) (out:List Tb) (hi:i<=(zak).length) (hI:StoreP n i out):∃ (u':Tp) (out':List Tb),(StoreP n (zak).length out')/\(decide ((((zak).length:Nat):Int) < (((zak.map Sch.cells).length:Nat):Int))=false)/\∀ R,Good E0 B.BD [.box t0.cells] (L_stV t0 n (zak).length u' out') R->Good E0 B.BD [.box t0.cells] (L_stV t0 n i u out) R:=by
 have hk:=hi;revert i u out;refine zlp ((zak).length) (fun i hlt ih u out hi hI _=>?_)
 obtain ⟨x,hx,h0,hw⟩:=zlq (l:=zak) ((zak.map Sch.cells).length) hlt
 have hsx:=zh9 (List.mem_of_getElem? hx);have hfx:=hsx.few;have hl0:out.length=(zak.take i).length:=by rw [← hI.schs];simp
 have hlen:out.length<=10:=by rw [hl0];simp only [List.length_take,zak,List.length_cons,List.length_nil];omega
 have hw1:IntKind.i64.wrap (n+1)=n+1:=by rw [IntKind.wrap_i64];omega
 obtain ⟨rows1,next1,t1,q1,c1⟩:=(ziC u x n (by first|assumption|omega|(simp;done)|(simp;omega)) (by first|assumption|omega|(simp;done)|(simp;omega)) (by first|assumption|omega|(simp;done)|(simp;omega)) (by first|assumption|omega|(simp;done)|(simp;omega)))
 obtain ⟨uZ,outZ,qZ,xZ,gZ⟩:=ih t1 (out++[Tb.mk x next1 rows1]) Zo (by exact hI.push hx ‹_›) Zo;exact ⟨uZ,outZ,qZ,xZ,fun R hg=>zab (wkl [sb h0,se (zaf Sch.cells hx rfl),sl [0] c1,sqA (List.map Tb.cells out) [[sv x.name,ZC x.cols,iv next1,ZW rows1]] out.length 4 72,si hw] [0,1,5,8,9,10] 2 kr (zao 5 1 (List.map Tb.cells out++[[sv x.name,ZC x.cols,iv next1,ZW rows1]]) (gZ R hg) (he:=Zcv5) (hm:=Zcv5)))⟩
theorem zkk (t:Tp) (n:Int) (hs:zac zak) (hn:0<=n/\n<=900):∃ (r:List Tb) (t':Tp),StoreV n r/\zaa E0 S.BD [.p 0 0,iv n] [.box t.cells] (tsl r) [.box t'.cells]:=by
 obtain ⟨u1,out1,q1,q1_1,g1⟩:=zgh t n (by first|assumption|(simp;done)|exact ⟨rfl,fun _ h=>absurd h Zs⟩) (by first|assumption|(simp;done)|exact ⟨rfl,fun _ h=>absurd h Zs⟩) 0 t ([]) (by first|assumption|(simp;done)|exact ⟨rfl,fun _ h=>absurd h Zs⟩) (by first|assumption|(simp;done)|exact ⟨rfl,fun _ h=>absurd h Zs⟩)
 exact ⟨out1,u1,(by exact StoreP.all ‹_›),wkcN At.BD [sc zfn] [0,1,5,8,9,10] 1 [(.ot 5 Ty.Table,2)] kr (g1 _ (zab (wkr [sqx (out1.length=(List.map Tb.cells out1).length),sb Zf] kr)))⟩
def XFl:Nat->X->Prop
 | 0,_=>False
 | n+1,e=>e.val.Good/\Thin 3 e.args/\e.sub=[]/\∀ x∈e.args,XFl n x
theorem XFl.ok:∀ {n:Nat} {e:X},XFl n e->XOk n e
 | 0,_,h=>h.elim
 | n+1,e,⟨h1,h2,h3,h4⟩=>⟨h1,⟨h2,by rw [h3];simp⟩,fun x hx=>(h4 x hx).ok,fun q hq=>by rw [h3] at hq;cases hq⟩
theorem XFl.mono:∀ {n:Nat} {e:X},XFl n e->XFl (n+1) e
 | 0,_,h=>h.elim
 | n+1,e,⟨h1,h2,h3,h4⟩=>⟨h1,h2,h3,fun x hx=>(h4 x hx).mono⟩
def insI:Nat->List Int->List Int
 | 0,l=>l
 | k+1,l=>bif decide (l.getD (k+1) 0 < l.getD k 0) then insI k ((l.set (k+1) (l.getD k 0)).set k (l.getD (k+1) 0)) else l
theorem zsR:∀ (k:Nat) (l:List Int),(insI k l).length=l.length
 | 0,_=>rfl
 | k+1,l=>by
  unfold insI
  cases decide (l.getD (k+1) 0 < l.getD k 0)
  ·rfl
  ·rw [cond_true,zsR];simp
def srtI:Nat->Nat->List Int->List Int
 | 0,_,l=>l
 | m+1,i,l=>srtI m (i+1) (insI i l)
def srt1 (l:List Int):List Int:=srtI (l.length - 1) 1 l
theorem ztG:∀ (m i:Nat) (l:List Int),(srtI m i l).length=l.length
 | 0,_,_=>rfl
 | m+1,i,l=>by unfold srtI;rw [ztG,zsR]
@[simp] theorem srt1_len (l:List Int):(srt1 l).length=l.length:=ztG _ _ _
structure InsI (l:List Lk) (x:Lk) (i:Nat) (out:List Lk) (done:Bool):Prop where
 nd:out.Nodup
 sub:∀ z∈out,z=x\/z∈l.take i
 sup:∀ z∈l.take i,z=x\/z∈out
 dn:x∈out↔done=true
theorem zmj {α:Type}:∀ (l m:List α),l.Nodup->(∀ x∈l,x∈m)->l.length<=m.length
 | [],_,_,_=>by simp
 | x::r,m,hn,hs=>by
  haveI:DecidableEq α:=fun a b=>Classical.propDecidable (a=b)
  rw [List.nodup_cons] at hn
  have hx:x∈m:=hs x Zs
  have h1:=zmj r (m.erase x) hn.2 fun y hy=>(List.mem_erase_of_ne (by rintro rfl;exact hn.1 hy)).2 (hs y (by simp [hy]))
  rw [List.length_erase_of_mem hx] at h1
  have h2:=List.length_pos_of_mem hx
  simp only [List.length_cons]
  omega
theorem zvo {a b:Str} (h:(a==b)=true):a=b:=by
 cases a with
 | mk a=>cases b with
  | mk b =>
   have h':(a==b)=true:=h
   rw [eq_of_beq h']
theorem lk_eq {x u:Lk} (h:(!(x.fst==u.fst&&(x.snd==u.snd&&true)))=false):x=u:=by
 simp only [Bool.not_eq_false',Bool.and_eq_true,and_true] at h
 cases x;cases u
 simp only at h
 rw [zvo h.1,zvo h.2]
theorem zpu {l:List Lk} {i:Nat} {x:Lk} (hx:l[i]?=some x) (z:Lk):z∈l.take (i+1)↔z∈l.take i\/z=x:=by
 rw [List.take_add_one,hx];simp
theorem InsI.len {l:List Lk} {u:Lk} {i:Nat} {out:List Lk} {d:Bool} (h:InsI l u i out d):out.length<=i+1:=by
 have:=zmj out (u::l.take i) h.nd fun z hz=>by simpa using h.sub z hz
 simp only [List.length_cons,List.length_take] at this
 omega
theorem InsI.s1 {l:List Lk} {u x:Lk} {i:Nat} {out:List Lk} {d:Bool} (h:InsI l u i out d) (hx:l[i]?=some x) (e:(!(x.fst==u.fst&&(x.snd==u.snd&&true)))=false):InsI l u (i+1) out d:=by
 obtain rfl:=lk_eq e
 refine ⟨h.nd,fun z hz=>?_,fun z hz=>?_,h.dn⟩
 ·rcases h.sub z hz with h1|h1
  ·exact .inl h1
  ·exact .inr ((zpu hx z).2 (.inl h1))
 ·rcases (zpu hx z).1 hz with h1|h1
  ·exact h.sup z h1
  ·exact .inl h1
theorem InsI.add {l:List Lk} {u:Lk} {i:Nat} {out:List Lk} {d:Bool} (h:InsI l u i out d) (e:(!d)=true):InsI l u i (out++[u]) true:=by
 have hnu:u ∉ out:=fun hu=>by have:=h.dn.1 hu;subst this;simp at e
 refine ⟨?_,fun z hz=>?_,fun z hz=>?_,by simp⟩
 ·refine List.nodup_append.2 ⟨h.nd,by simp,fun a ha b hb=>?_⟩
  simp only [List.mem_singleton] at hb
  subst hb
  rintro rfl
  exact hnu ha
 ·simp only [List.mem_append,List.mem_singleton] at hz
  rcases hz with hz|hz
  ·exact h.sub z hz
  ·exact .inl hz
 ·simp only [List.mem_append,List.mem_singleton]
  rcases h.sup z hz with h2|h2
  ·exact .inl h2
  ·exact .inr (.inl h2)
structure InsR (l:List Lk) (u:Lk) (r:List Lk):Prop where
 nd:r.Nodup
 sub:∀ z∈r,z=u\/z∈l
 sup:∀ z∈l,z∈r
theorem InsI.done {l:List Lk} {u:Lk} {out:List Lk} {d:Bool} (h:InsI l u l.length out d) (e:(!d)=false):InsR l u out:=by
 have hd:d=true:=by simpa using e
 have hu:=h.dn.2 hd
 refine ⟨h.nd,fun z hz=>by simpa using h.sub z hz,fun z hz=>?_⟩
 rcases h.sup z (by simpa using hz) with rfl|h1
 ·exact hu
 ·exact h1
structure LkN (N:List Str) (l:List Lk):Prop where
 nd:l.Nodup
 mem:∀ z∈l,z.fst∈N/\z.snd∈N
theorem InsR.lk {N:List Str} {l:List Lk} {u:Lk} {r:List Lk} (h:InsR l u r) (hl:LkN N l) (h1:u.fst∈N) (h2:u.snd∈N):LkN N r :=
 ⟨h.nd,fun z hz=>by rcases h.sub z hz with rfl|hz;exact ⟨h1,h2⟩;exact hl.mem z hz⟩
theorem zsE {α β:Type} (f:α->List β) (k:Nat) (hf:∀ a,(f a).length=k):∀ l:List α,(l.flatMap f).length=l.length * k
 | []=>by simp
 | a::r=>by rw [List.flatMap_cons,List.length_append,hf,zsE f k hf r,List.length_cons,Nat.add_mul];omega
theorem LkN.len {N:List Str} {l:List Lk} (h:LkN N l):l.length<=N.length * N.length:=by
 have h1:=zmj l (N.flatMap fun a=>N.map fun b=>⟨a,b⟩) h.nd fun z hz=>by
  simp only [List.mem_flatMap,List.mem_map]
  exact ⟨z.fst,(h.mem z hz).1,z.snd,(h.mem z hz).2,by cases z;rfl⟩
 have h2:(N.flatMap fun a=>N.map fun b=>(⟨a,b⟩:Lk)).length=N.length * N.length:=by
  exact zsE _ _ (fun a=>by simp) N
 omega
abbrev zob (N:List Str) (l out:List Lk):Prop:=LkN N out/\∀ z∈l,z∈out
theorem zob.short {N:List Str} {l out:List Lk} (h:zob N l out) (hN:N.length<=1000):zac out:=by
 have h1:=h.1.len
 have h2:=Nat.mul_le_mul hN hN
 simp only [zac];omega
theorem zob.ins {N:List Str} {l out:List Lk} {a b:Lk} {i j:Nat} {r:List Lk} (h:zob N l out) (hl:LkN N l) (hx:l[i]?=some a) (hy:l[j]?=some b) (hr:InsR out ⟨a.fst,b.snd⟩ r):zob N l r :=
 ⟨hr.lk h.1 (hl.mem a (List.mem_of_getElem? hx)).1 (hl.mem b (List.mem_of_getElem? hy)).2,fun z hz=>hr.sup z (h.2 z hz)⟩
theorem LkN.short {N:List Str} {l:List Lk} (h:LkN N l) (hN:N.length<=1000):zac l:=by
 have h1:=h.len
 have h2:=Nat.mul_le_mul hN hN
 simp only [zac];omega
theorem zyY {p:Prop} (h:p:=by first|assumption|omega|(simp;done)|(simp;omega)):p:=h
def zxx (k:Nat):Str:=([⟨#[116]⟩,⟨#[117]⟩,⟨#[108,111,103]⟩]:List Str).getD k ⟨#[]⟩
theorem zA0 (k:Nat) (h:(k:Int) < 3):ElAt [[sv ⟨#[116]⟩],[sv ⟨#[117]⟩],[sv ⟨#[108,111,103]⟩]] (k:Int) [sv (zxx k)] 1:=by
 have:k=0\/k=1\/k=2:=by omega
 rcases this with rfl|rfl|rfl <;> exact ⟨by decide,rfl,rfl⟩
def TabN (w:Str):Prop:=w=⟨#[116]⟩\/w=⟨#[117]⟩\/w=⟨#[108,111,103]⟩
theorem zBO {k:Nat} (h:(k:Int) < 3):TabN (zxx k):=by
 have:k=0\/k=1\/k=2:=by omega
 rcases this with rfl|rfl|rfl
 ·exact .inl rfl
 ·exact .inr (.inl rfl)
 ·exact .inr (.inr rfl)
theorem zmK (t:Tp) :∃ (w:Str) (t':Tp),TabN w/\zaa E0 S.De [.p 0 0] [.box t.cells] (sv w) [.box t'.cells]:=by
 obtain ⟨a1,t1,q1,c1⟩:=(zai t 3 zyY)
 exact ⟨zxx a1,t1,by exact zBO Zo,wk At.De [sl [0] c1,se (zA0 a1 zyY)] kr⟩
def schU:Sch:=⟨⟨#[117]⟩,[⟨⟨#[105,100]⟩,1,true,true⟩,⟨⟨#[110]⟩,1,true,false⟩,⟨⟨#[109]⟩,1,false,false⟩]⟩
theorem zvg:zat ⟨#[117]⟩=schU:=by kernel_rfl
theorem zdE {w:Str} (h:TabN w):SchOk (zat w):=by
 rcases h with rfl|rfl|rfl
 ·rw [zvf];exact zBK
 ·rw [zvg];exact zh9 (by simp [zak,schU])
 ·rw [zmw];exact zh9 (by simp [zak,zcf])
structure GenOk (x:Tg):Prop where
 ok:TgOk 6 x
 set:∀ a∈x.acts,AcSet a
structure CertOk (x x':Tg):Prop where
 gen:GenOk x->GenOk x'
 name:x'.name=x.name
 table:x'.table=x.table
 prec:x'.prec=x.prec
 foll:x'.foll=x.foll
theorem zxv (l:List Fr) (h:l.length<=1000/\0 < l.length):SubAt (l.map Fr.cells) (IntKind.i64.wrap ((((l.map Fr.cells).length:Nat):Int) - 1)) (((l.map Fr.cells).length:Nat):Int) 4:=by
 have h1:IntKind.i64.wrap ((((l.map Fr.cells).length:Nat):Int) - 1)=((l.length:Nat):Int) - 1:=by rw [IntKind.wrap_i64];simp;omega
 rw [h1]
 refine ⟨by omega,by simp;omega,by simp,?_⟩
 simp
structure SetsOk (i:Nat) (sets:List Se):Prop where
 len:sets.length<=i
 ex:∀ s∈sets,XOk 5 s.ex
 two:i<=2
theorem SetsOk.push {i:Nat} {sets:List Se} {c:Str} {e:X} (h:SetsOk i sets) (hi:i < 2) (he:XOk 4 e):SetsOk (i+1) (sets++[⟨c,e⟩]) :=
 ⟨by have:=h.len;simp;omega,fun s hs=>by
  simp only [List.mem_append,List.mem_singleton] at hs
  rcases hs with hs|rfl
  ·exact h.ex s hs
  ·exact he.le Zo,by omega⟩
theorem zye (s:Int × List (List V)):(zey s).1.length<=s.2.length:=by
 unfold zey;cases s.1 != 0 <;> simp
theorem zjo {tr:Rw->Bool × Int} {rv:Rw->Int × List V}:∀ (l:List Rw) (out:List (List V)),(za8 tr rv l out).2.length<=out.length+l.length
 | [],out=>by simp [za8]
 | r::l,out=>by
  have h1:=zjo (tr:=tr) (rv:=rv) l out
  have h2:=zjo (tr:=tr) (rv:=rv) l (out++[(rv r).2])
  simp only [za8]
  cases (tr r).2 != 0 <;> cases (tr r).1 <;> cases (rv r).1 != 0 <;> simp at * <;> omega
theorem zsB {n:Nat} {q:Qy} {frs:List Fr} {tb:List Tb} (h:TbOk tb):(zbL n q frs tb).1.length<=1000:=by
 unfold zbL
 cases hf:zaK tb q.frm with
 | none=>simp
 | some t =>
  have h1:=h.rows t (zcR hf)
  have h2:=zye (za8 (fun r=>zba (fun x=>eval n x (zar frs t r.vals) tb) q.wh) (fun r=>rowV (fun x=>eval n x (zar frs t r.vals) tb) q r) t.rows [])
  have h3:=zjo (tr:=fun r=>zba (fun x=>eval n x (zar frs t r.vals) tb) q.wh) (rv:=fun r=>rowV (fun x=>eval n x (zar frs t r.vals) tb) q r) t.rows []
  simp only [List.length_nil] at h3
  simp only;omega
structure DmlIn (n:Nat) (a:Ac) (frs:List Fr) (tb:List Tb):Prop where
 ac:AcOk n a
 kd:1<=a.kind/\a.kind<=3
 fo:FsOk (n+1) frs
 fg:FsG frs
 to:TbOk tb
 tg:TbG tb
 tv:∀ x∈tb,∀ r∈x.rows,zac r.vals
theorem zps {tb:List Tb} {n:Str} (h:(zaN tb n).2=true):zaK tb n=some (tabC tb n)/\(zaN tb n).1=(tabC tb n).sch/\tabC tb n∈tb/\decide (idxF (fun t=>zaw t n) tb 0 < 0)=false:=by
 rw [zc6] at h ⊢
 cases hf:zaK tb n with
 | none=>rw [hf] at h;cases h
 | some t =>
  have e:tabC tb n=t:=by unfold tabC;rw [hf];rfl
  refine ⟨by rw [e],by rw [e],by rw [e];exact zcR hf,?_⟩
  rcases zdB (fun t=>zaw t n) tb 0 with ⟨_,h2⟩|⟨j,y,h2,h3,h4⟩
  ·unfold zaK at hf;rw [h2] at hf;cases hf
  ·rw [h2];simp
theorem tgt_ok {a:Ac} {b:Bool} {tb:List Tb} (h:((tgt a b tb).2 != 0)=false):b=true/\(zaN tb a.table).2=true/\(tgt a b tb).1=(tabC tb a.table).sch/\(tgt a b tb).2=0:=by
 unfold tgt at h ⊢
 cases b
 ·simp at h
 ·cases h2:(zaN tb a.table).2
  ·rw [h2] at h;simp at h
  ·refine ⟨rfl,rfl,?_,rfl⟩
   simp only [Bool.not_true,cond_false]
   exact (zps h2).2.1
abbrev evI (n:Nat) (frs:List Fr) (s:Sch) (tb:List Tb) (r:Rw):X->V × Int:=fun x=>eval n x (zax frs s r.vals) tb
def cTr (n:Nat) (a:Ac) (frs:List Fr) (s:Sch) (tb:List Tb) (r:Rw):Bool × Int:=zba (evI n frs s tb r) a.wh
def cAg (n:Nat) (a:Ac) (frs:List Fr) (s:Sch) (tb:List Tb) (r:Rw):List V × Int:=asgn (evI n frs s tb r) a s r.vals (zax frs s r.vals) tb
def cIns (n:Nat) (a:Ac) (frs:List Fr) (s:Sch) (tb:List Tb):List (List V) × Int:=insB (fun x=>eval n x frs tb) (fun q=>zbL n q frs tb) s a
def zaZ (n:Nat) (a:Ac) (frs:List Fr) (tb:List Tb):Ch × Int :=
 bif (tgt a (actB (vX n) a) tb).2 != 0 then zwn a (tgt a (actB (vX n) a) tb).1 (tgt a (actB (vX n) a) tb).2
 else bif a.kind==1 then zmO (cIns n a frs (tabC tb a.table).sch tb) a
 else bif a.kind==3 then zos (cTr n a frs (tabC tb a.table).sch tb) a (tabC tb a.table).sch frs tb
 else zot (cTr n a frs (tabC tb a.table).sch tb) (cAg n a frs (tabC tb a.table).sch tb) a (tabC tb a.table).sch frs tb
section
variable {n : Nat} {a : Ac} {frs : List Fr} {tb : List Tb}
theorem DmlIn.target (h:DmlIn n a frs tb):zaa E0 S.BZ [a.av,tsl tb] [] (.tup [(tgt a (actB (vX n) a) tb).1.av,iv (tgt a (actB (vX n) a) tb).2]) []:=by
 have hk:=h.kd
 exact zsX a (actB (vX n) a) tb Zp Zp h.to.len h.to.cols (zkC h.ac hk)
theorem DmlIn.ins (h:DmlIn n a frs tb) {t:Tb} (ht:t∈tb) {r:Rw} (hr:r∈t.rows):FsOk n (zax frs t.sch r.vals)/\FsG (zax frs t.sch r.vals) :=
 ⟨h.fo.eins (t:=t) (h.to.cols t ht) (h.tg.vals t ht r hr),h.fg.ins (t:=t) (h.tg.vals t ht r hr)⟩
theorem c_cand (h:DmlIn n a frs tb):Pure S.Ak [a.av,fsl frs,tsl tb] (.tup [(zaZ n a frs tb).1.av,iv (zaZ n a frs tb).2]):=by
 have ht:=h.target
 unfold zaZ
 cases h0:(tgt a (actB (vX n) a) tb).2 != 0
 ·obtain ⟨hb,hs,he,hc⟩:=tgt_ok h0
  rw [he,hc] at ht
  obtain ⟨h1,h2,h3,h4⟩:=zps hs
  have hfs:zac frs:=h.fo.short
  have hcol:=h.to.cols _ h3
  have hrw:zac (tabC tb a.table).rows:=by have:=h.to.rows _ h3;simp only [zac];omega
  have htr:∀ r∈(tabC tb a.table).rows,Pure S.AH [xsl a.wh,fsl (zax frs (tabC tb a.table).sch r.vals),tsl tb] (.tup [bv (cTr n a frs (tabC tb a.table).sch tb r).1,iv (cTr n a frs (tabC tb a.table).sch tb r).2]):=fun r hr =>
   zlF (fun x hx=>zdz n x _ tb (h.ac.w x hx) (h.ins h3 hr).1 (h.ins h3 hr).2 h.to h.tg) (fun x hx=>zbA n x _ tb (h.ac.w x hx) (h.ins h3 hr).2 h.tg)
  simp only [cond_false]
  cases k1:a.kind==1
  ·simp only [cond_false]
   cases k3:a.kind==3
   ·simp only [cond_false]
    exact zlt _ _ a (tabC tb a.table).sch frs tb k1 k3 h.to.len hfs ht (zsb tb a h.to.len) h4 hrw (h.tv _ h3) htr fun r hr =>
     zpR _ a _ r.vals _ tb (h.tv _ h3 r hr) hcol (zaQ h.ac.sets) fun x hx=>zdz n x.ex _ tb (h.ac.set x hx) (h.ins h3 hr).1 (h.ins h3 hr).2 h.to h.tg
   ·simp only [cond_true]
    exact zlo _ a (tabC tb a.table).sch frs tb k1 k3 h.to.len hfs ht (zsb tb a h.to.len) h4 hrw htr
  ·simp only [cond_true]
   have hr:=h.ac.rows
   have hq:=h.ac.query
   exact zls _ a (tabC tb a.table).sch frs tb k1 ht (zpS a _ frs tb _ _ hcol (by simp only [Few] at hr;omega) (fun r hr=>⟨zaQ (h.ac.row r hr).1,fun x hx=>zdz n x frs tb ((h.ac.row r hr).2 x hx) h.fo.less h.fg h.to h.tg⟩) hq fun q hq =>
    ⟨by have:=zsB (n:=n) (q:=q) (frs:=frs) h.to;omega,zwe ⟨(h.ac.qs q hq).items,(h.ac.qs q hq).hi,(h.ac.qs q hq).hw⟩ h.fo h.to h.fg h.tg h.tv⟩)
 ·simp only [cond_true]
  exact zlr a _ _ frs tb h0 ht
end
section
variable {n : Nat} {a : Ac} {frs : List Fr} {tb : List Tb}
end
abbrev sN:Str:=⟨#[110]⟩
theorem zzp (v:V):zbD (xLit v) 4=true:=by kernel_rfl
theorem zzo (a b:Str):zbD (xCol a b) 8=true:=by kernel_rfl
theorem zxO (k:Int) (l:List X):zbD (xA k 0 false l) 16=true:=by kernel_rfl
theorem bare_5 (o:Int) (l:List X):zbD (xA 5 o false l) 17=true:=by kernel_rfl
theorem bare_6 (nt:Bool) (l:List X):zbD (xA 6 0 nt l) 18=true:=by kernel_rfl
theorem bare_Q (k:Int) (st:Bool) (it:List X) (f:Str) (wh:List X):zbD (xQ k st it f wh) 32=true:=by kernel_rfl
section
variable {G : Str -> List Col} {tbs : List Sch} {tb : List Tb} {n : Nat} {frs : List Fr} {w : Int} {e : X}
theorem XT.vx (hG:EnvT G) (ht:TbE G tbs tb) (h:XT tbs n frs w e):FsT' G frs->vX n e=true:=by
 induction h with
 | @lit n frs w v hg _ hi =>
  intro _
  have h1:(!(bif v.kind==1 then decide (v.int < 0) else false))=true:=by
   cases hk:v.kind==1
   ·rfl
   ·have:=hi (by simpa using hk)
    simp;omega
  show (bif zbD (xLit v) 4 then (bif zaE v then !(bif v.kind==1 then decide (v.int < 0) else false) else false) else false)=true
  rw [zzp,hg.valid,h1];rfl
 | @col n frs w x h =>
  intro hf
  obtain ⟨a,b,rfl,_,_,h1,h2⟩:=h.res hG hf
  show (bif zbD (xCol a b) 8 then zkt (xCol a b) else false)=true
  have h3:zkt (xCol a b)=true:=by show (zes a&&zaG b)=true;rw [h1,h2];rfl
  rw [zzo,h3];rfl
 | @un n frs k w a hk _ ih =>
  intro hf
  have h0:=ih hf
  have h1:zew (vX n) (xA k 0 false [a])=true:=by
   rcases hk with ⟨rfl,_⟩|⟨rfl,_⟩ <;> (show (bif _ then (vX n a&&true) else false)=true;rw [h0];rfl)
  have h2:=zxO k [a]
  rcases hk with ⟨rfl,_⟩|⟨rfl,_⟩ <;> (show (bif !zbD _ 16 then false else zew (vX n) _)=true;rw [h2,h1];rfl)
 | @isn n frs w nt a _ ih =>
  intro hf
  have h1:zew (vX n) (xA 6 0 nt [a])=true:=by show (bif _ then (vX n a&&true) else false)=true;rw [ih hf];rfl
  show (bif !zbD _ 18 then false else zew (vX n) _)=true
  rw [bare_6,h1];rfl
 | @bin n frs op w' w a b hb _ _ i1 i2 =>
  intro hf
  have h1:zew (vX n) (xA 5 op false [a,b])=true:=by show (bif _ then (vX n a&&(vX n b&&true)) else false)=true;rw [i1 hf,i2 hf];rfl
  have h2:decide (op < 1)=false/\decide (13 < op)=false:=by
   rcases hb with h|h|h <;> simp <;> omega
  show (bif decide (op < 1) then false else bif decide (13 < op) then false else bif !zbD _ 17 then false else zew (vX n) _)=true
  rw [h2.1,h2.2,bare_5,h1];rfl
 | @btw n frs a b c _ _ _ i1 i2 i3 =>
  intro hf
  have h1:zew (vX n) (xA 7 0 false [a,b,c])=true:=by show (bif _ then (vX n a&&(vX n b&&(vX n c&&true))) else false)=true;rw [i1 hf,i2 hf,i3 hf];rfl
  show (bif !zbD _ 16 then false else zew (vX n) _)=true
  rw [zxO,h1];rfl
 | @qry n frs k w st it wh s hs hq hw _ _ i1 i2 =>
  intro hf
  have hfi:=hf.ins ht hs
  have h1:it.all (vX n)=true:=List.all_eq_true.2 fun x hx=>i1 x hx hfi
  have h2:wh.all (vX n)=true:=List.all_eq_true.2 fun x hx=>i2 x hx hfi
  have h3:zc4 (vX n) (xQ k st it s.name wh)=true:=by
   show zlZ (vX n) (k==8) (k==9) (Qy.mk st it s.name wh)=true
   simp only [zlZ,Qy.star_mk,Qy.items_mk,Qy.frm_mk,Qy.wh_mk,zbP,h1,h2,ht.src s hs,Bool.and_true]
   have h4:decide ((wh.length:Int)<=1)=true:=by simp;omega
   rw [h4]
   rcases hq with ⟨rfl,_,rfl,h⟩|⟨rfl,_,rfl,h⟩|⟨h5,h6,_,rfl,h⟩
   ·rw [h];rfl
   ·rw [h];rfl
   ·have hk:k=10\/k=11\/k=12:=by omega
    rw [h]
    rcases hk with rfl|rfl|rfl <;> rfl
  have hk:k=8\/k=9\/k=10\/k=11\/k=12:=by rcases hq with h|h|h <;> omega
  have h4:=bare_Q k st it s.name wh
  rcases hk with rfl|rfl|rfl|rfl|rfl <;> (show (bif zbD _ 32 then zc4 (vX n) _ else false)=true;rw [h4,h3];rfl)
theorem zni {k op:Int} {nt:Bool} {l:List X} (h:(k=3\/k=4\/k=6)/\l.length=1\/k=5/\l.length=2/\1<=op/\op<=13\/k=7/\l.length=3):zcQ (xA k op nt l)=true:=by
 show zfB k op l=true
 rcases h with ⟨rfl|rfl|rfl,h⟩|⟨rfl,h,h1,h2⟩|⟨rfl,h⟩ <;> simp [zfB,h]
 all_goals omega
theorem zBL {k:Int} {st:Bool} {it wh:List X} {f:Str} (hq:QryT k w st it.length) (hw:wh.length<=1):zcQ (xQ k st it f wh)=true:=by
 show zd3 k 0 [] [Qy.mk st it f wh] st it wh=true
 have hkk:k=8\/k=9\/k=10\/k=11\/k=12:=by rcases hq with h|h|h <;> omega
 have h0:decide ((wh.length:Int)<=1)=true:=by simp;omega
 rcases hq with ⟨rfl,_,rfl,h⟩|⟨rfl,_,rfl,h⟩|⟨h1,h2,_,rfl,h⟩
 ·simp [zd3,h];omega
 ·simp [zd3,h];omega
 ·rcases hkk with rfl|rfl|rfl|rfl|rfl <;> first|omega|(simp [zd3,h];omega)
end
section
variable {G : Str -> List Col} {tbs : List Sch} {tb : List Tb} {n : Nat} {frs : List Fr} {w : Int} {e : X}
abbrev OpK (k:Int):Prop:=k=3\/k=4\/k=5\/k=6\/k=7
end
end Go.AM
