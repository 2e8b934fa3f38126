/-
  Contracts of the program's functions, part 4.
-/
import Derived.Test.YtjbihenhlanepaaGreatDoorFsD
import Derived.Laws.IdiomRangeMap
import Derived.Maps.RangeRun
import Derived.Lib.Strings
set_option linter.unusedSimpArgs false
set_option linter.unusedVariables false
namespace Go.AM
open Go.RowKit
set_option linter.unusedSimpArgs false
set_option linter.unusedVariables false
def zo5 (E:Env0) (h0:Heap) (β0:List Con) (S0:Addr→Prop) (w0:World) (fn:Func) (RR:Ending→World→Prop) (c:Cfg):Prop :=
 ∀ (β:List Con) (S:Addr→Prop) (w:World) (tmps:Array Value),tmps.size=c.n→Ext h0 β0 S0 w0 c.h β S w→Rel E c.h β S w→zax E.T c.h β w S c.ts tmps→kont E.P c.todo (bodyPost E.P fn RR) .normal ⟨tmps,[]⟩ w
theorem zqe {E:Env0} (ht:zaC E) (hm:E.P.follows .mixedOrders=true) {h0:Heap} {β0:List Con} {S0:Addr→Prop} {w0:World} {fn:Func} {RR:Ending→World→Prop} {c c':Cfg} {os os':List Orc} {q:Option Prop} (hs:step (mk E) c os=some (q,c',os')) (hq:zam q) (hg:zo5 E h0 β0 S0 w0 fn RR c'):zo5 E h0 β0 S0 w0 fn RR c:=by
 intro β S w tmps hn x0 r rt
 obtain ⟨n,todo,ts,h⟩:=c
 simp only at hn x0 r rt ⊢
 unfold step at hs
 simp only at hs
 cases todo with
 | nil=>cases hs
 | cons it k =>
  cases it with
  | blk id =>
   simp only [Option.some.injEq,Prod.mk.injEq] at hs
   obtain ⟨_,rfl,_⟩:=hs
   exact hg β S w tmps hn x0 r rt
  | lp cc=>cases hs
  | ops all rest =>
   cases rest with
   | nil =>
    simp only [Option.some.injEq,Prod.mk.injEq] at hs
    obtain ⟨_,rfl,_⟩:=hs
    exact hg β S w tmps hn x0 r rt
   | cons o rest =>
    simp only at hs
    split at hs
    ·rename_i x hdst hx
     simp only [Option.some.injEq,Prod.mk.injEq] at hs
     obtain ⟨rfl,rfl,_⟩:=hs
     have hd:zaH tmps.size o.dst=true:=by rw [hn];exact hdst
     simp only [kont,Exit.then]
     refine wpList_step fun K hK=>?_
     have:=zp8 (Q:=kont E.P k (bodyPost E.P fn RR)) (K:=K) ht r rt hd hx hq ⟨fun β' S' w' tmps' hsz r' e' rt'=>hK _ _ ?_⟩
     ·exact this
     ·have:=hg β' S' w' tmps' (by rw [hsz];exact hn) (x0.trans e') r' rt'
      simp only [kont,Exit.then] at this
      exact this
    ·cases hs
  | code cc =>
   simp only [kont,Exit.then]
   cases cc with
   | skip =>
    simp only [Option.some.injEq,Prod.mk.injEq] at hs
    obtain ⟨_,rfl,_⟩:=hs
    exact wp_skip (hg β S w tmps hn x0 r rt)
   | label l =>
    simp only [Option.some.injEq,Prod.mk.injEq] at hs
    obtain ⟨_,rfl,_⟩:=hs
    exact wp_label (hg β S w tmps hn x0 r rt)
   | scope a =>
    simp only [Option.some.injEq,Prod.mk.injEq] at hs
    obtain ⟨_,rfl,_⟩:=hs
    refine wp_scope_straight (wp_mono (hg β S w tmps hn x0 r rt) fun e a w he=>?_)
    cases e with
    | goto l=>exact zel k l a w he
    | _=>exact he
   | loop a =>
    simp only [Option.some.injEq,Prod.mk.injEq] at hs
    obtain ⟨_,rfl,_⟩:=hs
    exact zmv (hg β S w tmps hn x0 r rt)
   | seq a b =>
    simp only [Option.some.injEq,Prod.mk.injEq] at hs
    obtain ⟨_,rfl,_⟩:=hs
    refine wp_seq (wp_mono (hg β S w tmps hn x0 r rt) fun e a w he=>?_)
    cases e <;> exact he
   | block id a =>
    simp only [Option.some.injEq,Prod.mk.injEq] at hs
    obtain ⟨_,rfl,_⟩:=hs
    refine wp_block (wp_mono (hg β S w tmps hn x0 r rt) fun e a w he=>?_)
    cases e <;> exact he
   | region id ops draw =>
    cases draw with
    | true =>
     simp only at hs
     split at hs
     ·rename_i l os1
      split at hs
      ·rename_i qs ts1 h1 hlv hsz
       simp only [Option.some.injEq,Prod.mk.injEq] at hs
       obtain ⟨rfl,rfl,_⟩:=hs
       simp only [zam] at hq
       exact zr2 ht hm (Nat.eq_of_beq_eq_true hsz) hlv hq hn x0 r rt (fun β' S' w' tmps' hn' x' r' rt'=>hg β' S' w' tmps' hn' x' r' rt')
      ·cases hs
     ·cases hs
    | false =>
     simp only [Option.some.injEq,Prod.mk.injEq] at hs
     obtain ⟨_,rfl,_⟩:=hs
     have:=hg β S w tmps hn x0 r rt
     simp only [kont,Exit.then] at this
     exact wp_region_list this
   | exit id =>
    simp only at hs
    split at hs
    ·rename_i k' hk
     simp only [Option.some.injEq,Prod.mk.injEq] at hs
     obtain ⟨_,rfl,_⟩:=hs
     exact wp_exit (zen k k' _ _ hk (hg β S w tmps hn x0 r rt))
    ·cases hs
   | cond x a b =>
    have hx:=zaL (ds:=[]) r rt x
    have lit:∀ bb,Act.eval ⟨tmps,[]⟩ x=.bool bb→zax E.T h β w S (zpg ts bb x) tmps:=by
     intro bb he
     cases x with
     | tmp d=>exact rt.lit he
     | _=>exact rt
    simp only at hs
    split at hs
    ·rename_i he
     simp only [mk_G] at he
     rw [he] at hx
     simp only [Option.some.injEq,Prod.mk.injEq] at hs
     obtain ⟨_,rfl,_⟩:=hs
     exact wp_cond_true hx.bl_inv (hg β S w tmps hn x0 r rt)
    ·rename_i he
     simp only [mk_G] at he
     rw [he] at hx
     simp only [Option.some.injEq,Prod.mk.injEq] at hs
     obtain ⟨_,rfl,_⟩:=hs
     exact wp_cond_false hx.bl_inv (hg β S w tmps hn x0 r rt)
    ·rename_i t he
     simp only [mk_G] at he
     rw [he] at hx
     split at hs
     ·simp only [Option.some.injEq,Prod.mk.injEq] at hs
      obtain ⟨rfl,rfl,_⟩:=hs
      simp only [zam] at hq
      subst hq
      exact wp_cond_true hx.v_inv (hg β S w tmps hn x0 r (lit _ hx.v_inv))
     ·simp only [Option.some.injEq,Prod.mk.injEq] at hs
      obtain ⟨rfl,rfl,_⟩:=hs
      simp only [zam] at hq
      subst hq
      exact wp_cond_false hx.v_inv (hg β S w tmps hn x0 r (lit _ hx.v_inv))
     ·cases hs
    ·cases hs
   | _=>cases hs
theorem znF {E:Env0} (ht:zaC E) (hm:E.P.follows .mixedOrders=true) {h0:Heap} {β0:List Con} {S0:Addr→Prop} {w0:World} {fn:Func} {RR:Ending→World→Prop}:∀ (n:Nat) (c:Cfg) (os:List Orc),allP (run (mk E) n c os).1→zo5 E h0 β0 S0 w0 fn RR (run (mk E) n c os).2.1→zo5 E h0 β0 S0 w0 fn RR c
 | 0,c,os,_,hg=>hg
 | n+1,c,os,hq,hg=>by
  unfold run at hq hg
  cases hs:step (mk E) c os with
  | none=>simp only [hs] at hg;exact hg
  | some x =>
   obtain ⟨q,c',os'⟩:=x
   cases q with
   | none =>
    simp only [hs] at hq hg
    exact zqe ht hm hs trivial (znF ht hm n c' os' hq hg)
   | some q =>
    simp only [hs] at hq hg
    obtain ⟨h1,h2⟩:=zj5 hq
    exact zqe ht hm hs h1 (znF ht hm n c' os' h2 hg)
structure Foreign (gs:List Nat) (β:List Con) (S:Addr→Prop) (w0 w:World):Prop where
 new:∀ g∈gs,w0.heap.size≤g
 lt:∀ g∈gs,g < w.heap.size
 apart:∀ g∈gs,∀ (b:Nat) (k:Con),β[b]?=some k→k.blk≠some g
 sep:∀ g∈gs,∀ a,S a→a.block≠g
theorem Foreign.ext {gs:List Nat} {h h':Heap} {β β':List Con} {S S':Addr→Prop} {w0 w w':World} (f:Foreign gs β S w0 w) (x:Ext h β S w h' β' S' w'):Foreign gs β' S' w0 w'∧∀ g∈gs,w'.heap[g]?=w.heap[g]? :=
 ⟨⟨f.new,fun g hg=>Nat.lt_of_lt_of_le (f.lt g hg) x.size,fun g hg b k hb hk=>by
  rcases x.new b k g hb hk with ⟨b',k',h1,h2,_⟩|h1
  ·exact f.apart g hg b' k' h1 h2
  ·have:=f.lt g hg;omega,fun g hg a ha he=>by
  rcases x.S_new a ha with h1|h1|⟨b,k,h1,h2⟩
  ·exact f.sep g hg a h1 he
  ·have:=f.lt g hg;omega
  ·exact f.apart g hg b k h1 (by rw [h2,he])⟩,fun g hg=>x.keep g (f.lt g hg) (f.apart g hg)⟩
def zbF (E:Env0) (fn:Func) (h0:Heap) (gs:List Nat) (F:(Addr→Prop)→World→Prop) (c:Cfg) (R:AV→Heap→Prop):Prop :=
 ∀ (β0:List Con) (S0:Addr→Prop) (w0:World) (β:List Con) (S:Addr→Prop) (w:World) (tmps:Array Value),β0.length=h0.length→tmps.size=c.n→Ext h0 β0 S0 w0 c.h β S w→Rel E c.h β S w→zax E.T c.h β w S c.ts tmps→Foreign gs β S w0 w→F S w →
  kont E.P c.todo (bodyPost E.P fn (Post E h0 β0 S0 w0 R)) .normal ⟨tmps,[]⟩ w
def Only (gs:List Nat) (F:(Addr→Prop)→World→Prop):Prop:=∀ (S S':Addr→Prop) (w w':World),(∀ a,S a→S' a)→(∀ a,S a→w'.cell? a=w.cell? a)→(∀ g∈gs,w'.heap[g]?=w.heap[g]?)→F S w→F S' w'
theorem zpA {E:Env0} {fn:Func} {h0:Heap} {gs:List Nat} {F:(Addr→Prop)→World→Prop} {c:Cfg} {R:AV→Heap→Prop} (hg:Good E fn h0 c R):zbF E fn h0 gs F c R :=
 fun β0 S0 w0 β S w tmps hb hn x r rt _ _=>hg β0 S0 w0 β S w tmps hb hn x r rt
theorem zjX {E:Env0} (ht:zaC E) (hm:E.P.follows .mixedOrders=true) {fn:Func} {h0:Heap} {gs:List Nat} {F:(Addr→Prop)→World→Prop} (hF:Only gs F) {R:AV→Heap→Prop} (n:Nat) {c:Cfg} (os:List Orc) (hq:allP (run (mk E) n c os).1) (hg:zbF E fn h0 gs F (run (mk E) n c os).2.1 R):zbF E fn h0 gs F c R :=
 fun β0 S0 w0 β S w tmps hb hn x r rt hf hw=>znF ht hm (h0:=c.h) (β0:=β) (S0:=S) (w0:=w) n c os hq (fun β' S' w' tmps' hn' x' r' rt' =>
  hg β0 S0 w0 β' S' w' tmps' hb hn' (x.trans x') r' rt' (hf.ext x').1 (hF S S' w w' x'.S_le x'.S_cell (hf.ext x').2 hw)) β S w tmps hn (Ext.refl _ _ _ _) r rt
theorem zt7 {E:Env0} {fn:Func} {R:AV→Heap→Prop} {h0:Heap} {gs:List Nat} {F:(Addr→Prop)→World→Prop} {c:Cfg} (live:List Nat) (m:Nat) (hm:h0.length≤m) (hg:zbF E fn h0 gs F (cut live m c) R):zbF E fn h0 gs F c R:=by
 intro β0 S0 w0 β S w tmps hb0 hn x0 r rt hf hw
 obtain ⟨r1,hv⟩:=r.first m
 refine hg β0 S0 w0 (β.take m) S w tmps hb0 hn (x0.first r hm hb0) r1 (fun t=>?_) ⟨hf.new,hf.lt,fun g hg b k hb=>?_,hf.sep⟩ hw
 ·rcases zhx m c.ts live t with h1|h1
  ·simp only [cut];rw [h1];exact .d _ _ (.un _)
  ·simp only [cut];rw [h1];exact hv _ _ (rt t)
 ·rw [List.getElem?_take] at hb
  split at hb
  ·exact hf.apart g hg b k hb
  ·cases hb
theorem zvg {E:Env0} (ht:zaC E) (hmix:E.P.follows .mixedOrders=true) {fn:Func} {R:AV→Heap→Prop} {h0:Heap} {gs:List Nat} {F:(Addr→Prop)→World→Prop} (hF:Only gs F) {c c':Cfg} (n:Nat) (os:List Orc) (live:List Nat) (m:Nat) {q:List Prop}
  (hm:Nat.ble h0.length m=true) (hq0:(run (mk E) n c os).1=q) (hc:cut live m (run (mk E) n c os).2.1=c') (hq:allP q) (hg:zbF E fn h0 gs F c' R):zbF E fn h0 gs F c R:=by
 subst hq0
 subst hc
 exact zjX ht hmix hF n os hq (zt7 live m (Nat.le_of_ble_eq_true hm) hg)
structure Touch (g:Nat) (w w':World):Prop where
 os:w'.os=w.os
 tape:w'.tape=w.tape
 output:w'.output=w.output
 size:w'.heap.size=w.heap.size
 other:∀ b,b≠g→w'.heap[b]?=w.heap[b]?
theorem Touch.cell {g:Nat} {w w':World} (t:Touch g w w') {a:Addr} (ha:a.block≠g):w'.cell? a=w.cell? a:=World.cell?_of_block (t.other a.block ha)
theorem Ext.touch {h0 h:Heap} {β0 β:List Con} {S0 S:Addr→Prop} {w0 w w':World} {gs:List Nat} {g:Nat} (x:Ext h0 β0 S0 w0 h β S w) (t:Touch g w w') (f:Foreign gs β S w0 w) (hg:g∈gs):Ext h0 β0 S0 w0 h β S w' where
 box:=x.box
 con:=x.con
 row:=x.row
 mp:=x.mp
 conm:=x.conm
 S_le:=x.S_le
 S_cell:=fun a ha=>(t.cell (f.sep g hg a (x.S_le a ha))).trans (x.S_cell a ha)
 S_new:=x.S_new
 os:=t.os.trans x.os
 tape:=t.tape.trans x.tape
 output:=t.output.trans x.output
 size:=by rw [t.size];exact x.size
 keep:=fun b hb hne=>(t.other b (by have:=f.new g hg;omega)).trans (x.keep b hb hne)
 new:=x.new
theorem RelV.cells {T:TypeId→TI} {h:Heap} {β:List Con} {S:Addr→Prop} {w w':World} (hc:∀ a,S a→w'.cell? a=w.cell? a) {x:AV} {y:Value} (hr:RelV T h β w S x y):RelV T h β w' S x y:=by
 induction hr with
 | d x y hd=>exact .d x y (hd.mono (fun _ h=>h) hc)
 | agg cs vs hl ho _ ih=>exact .agg cs vs hl ho ih
 | tup cs vs hl _ ih=>exact .tup cs vs hl ih
 | nl a=>exact .nl a
 | p b off g hb=>exact .p b off g hb
 | own b n y e xs sh hb hn hy ho=>exact .own b n y e xs sh hb hn hy ho
 | ep b n i off g e xs sh hb hn hy=>exact .ep b n i off g e xs sh hb hn hy
 | os b n lo hi y e xs sh hb hn hl hh ho hy=>exact .os b n lo hi y e xs sh hb hn hl hh ho hy
 | fn f caps vs hl _ ih=>exact .fn f caps vs hl ih
 | mp b g hb=>exact .mp b g hb
theorem Rel.touch {E:Env0} {h:Heap} {β:List Con} {S:Addr→Prop} {w0 w w':World} {gs:List Nat} {g:Nat} (r:Rel E h β S w) (t:Touch g w w') (f:Foreign gs β S w0 w) (hg:g∈gs):Rel E h β S w' where
 len:=r.len
 box:=fun b cs hb=>by
  obtain ⟨q,vs,ty,h1,h2,h3,h4⟩:=r.box b cs hb
  exact ⟨q,vs,ty,h1,(t.other q fun e=>f.apart g hg b _ h1 (by rw [← e];rfl)).trans h2,h3,fun i x y hx hy=>⟨(h4 i x y hx hy).1.cells fun a ha=>t.cell (f.sep g hg a ha),(h4 i x y hx hy).2⟩⟩
 row:=fun b e xs sh hb=>by
  obtain ⟨k,h1,h2⟩:=r.row b e xs sh hb
  exact ⟨k,h1,h2.ext (fun _ h=>h) (fun a ha=>t.cell (f.sep g hg a ha)) fun q hq=>t.other q fun e=>f.apart g hg b k h1 (by rw [hq,e])⟩
 mp:=fun b es hb=>by
  obtain ⟨k,h1,h2⟩:=r.mp b es hb
  exact ⟨k,h1,h2.ext (fun _ h=>h) (fun a ha=>t.cell (f.sep g hg a ha)) (t.other k fun e=>f.apart g hg b _ h1 (by rw [← e];rfl))⟩
 apart:=r.apart
 lt:=fun b k q h1 h2=>by rw [t.size];exact r.lt b k q h1 h2
 stable:=fun a ha=>by rw [t.size];exact r.stable a ha
 free:=r.free
 glob:=fun q cs hq=>(r.glob q cs hq).mono (fun _ h=>h) fun a ha=>t.cell (f.sep g hg a ha)
theorem zax.touch {E:Env0} {h:Heap} {β:List Con} {S:Addr→Prop} {w0 w w':World} {gs:List Nat} {g:Nat} {ts:TS} {tmps:Array Value} (rt:zax E.T h β w S ts tmps) (t:Touch g w w') (f:Foreign gs β S w0 w) (hg:g∈gs):zax E.T h β w' S ts tmps :=
 fun q=>(rt q).cells fun a ha=>t.cell (f.sep g hg a ha)
theorem Foreign.touch {gs:List Nat} {β:List Con} {S:Addr→Prop} {w0 w w':World} {g:Nat} (f:Foreign gs β S w0 w) (t:Touch g w w'):Foreign gs β S w0 w':=⟨f.new,fun q hq=>by rw [t.size];exact f.lt q hq,f.apart,f.sep⟩
/-! ### 'for k, v := range m' -/
def zhi (L:List (AV × AV)) (seen:Array Nat):List (AV × AV):=((List.range L.length).filter fun i=>!seen.contains i).filterMap fun i=>L[i]?
def ItF (gm gi:Nat) (l:List (AV × AV)) (cur:Option (AV × AV)) (S:Addr→Prop) (w:World):Prop:=∃ (L:List (AV × AV)) (ents:Array MapEntry) (seen:Array Nat) (c0:Nat),
 w.heap[gm]?=some (.map ents L.length)∧ents.size=L.length∧(∀ (i:Nat) (k x:AV),L[i]?=some (k,x)→∃ (kv xv:Value),ents[i]?=some ⟨kv,xv,i⟩∧RelD w S k kv∧RelD w S x xv) ∧
 w.heap[gi]?=some (.mapIter (some gm) L.length seen c0)∧L.length≤c0∧l.Perm (zhi L seen) ∧
 ∀ p,cur=some p→∃ (s':Array Nat) (i:Nat),seen=s'.push i∧L[i]?=some p∧c0=L.length
theorem zlW (gm gi:Nat) (l:List (AV × AV)) (cur:Option (AV × AV)):Only [gm,gi] (ItF gm gi l cur):=by
 intro S S' w w' hS hc hg ⟨L,ents,seen,c0,h1,h2,h3,h4,h5,h6,h7⟩
 exact ⟨L,ents,seen,c0,(hg gm (by simp)).trans h1,h2,fun i k x hi=>by
  obtain ⟨kv,xv,a1,a2,a3⟩:=h3 i k x hi
  exact ⟨kv,xv,a1,a2.mono hS hc,a3.mono hS hc⟩,(hg gi (by simp)).trans h4,h5,h6,h7⟩
theorem zm9 {α:Type} (L:List α):∀ n:Nat,(List.range n).filterMap (fun i=>L[i]?)=L.take n
 | 0=>by simp
 | n+1=>by
  rw [List.range_succ,List.filterMap_append,zm9 L n,List.take_add_one]
  congr 1
theorem ztb (L:List (AV × AV)):zhi L #[]=L:=by
 unfold zhi
 have:(List.range L.length).filter (fun i=>!(#[]:Array Nat).contains i)=List.range L.length:=by simp
 rw [this,zm9,List.take_length]
theorem zsT {E:Env0} {fn:Func} {h0 h:Heap} {all r:List Oper} {o:Oper} {k:List It} {n:Nat} {ts:TS} {R:AV→Heap→Prop} {t kt et:TypeId} {tm b d:Nat} {es:List (AV × AV)} (live:List Nat) (hop:o.op=.range t (.tmp tm)) (hgd:o.guard=none) (hd:o.dst=some d) (hdn:d < n)
  (ht:E.P.underlying t=some (.map kt et)) (hm:look ts tm=.mp b) (hb:h[b]?=some (.mp es)) (hb0:Nat.ble h0.length b=true)
  (H:∀ gm gi,zbF E fn h0 [gm,gi] (ItF gm gi es none) ⟨n,.ops all r::k,(d,.v (.pointer (some ⟨gi,0,none⟩)))::mask live b ts,(h.take b).map (za5 (zch b))⟩ R):Good E fn h0 ⟨n,.ops all (o::r)::k,ts,h⟩ R:=by
 intro β0 S0 w0 β S w tmps hβ hn x0 r0 rt
 have hb0:=Nat.le_of_ble_eq_true hb0
 simp only at hn x0 r0 rt
 obtain ⟨gm,c1,L,ents,c2,c3,c4,c5⟩:=r0.mp b es hb
 have hmv:=rt tm
 rw [hm] at hmv
 generalize hev:tmps.getD tm undef=mv at hmv
 cases hmv with
 | d _ _ hd=>cases hd
 | mp _ g' c1' =>
 rw [c1] at c1'
 cases c1'
 have hgl:gm < w.heap.size:=r0.lt b _ gm c1 rfl
 have hbl:Below w.heap.size w (w.alloc (.mapIter (some gm) L.length #[] L.length)):=(Below.refl _ _).alloc (Nat.le_refl _) _
 have x1:Ext h β S w h β S (w.alloc (.mapIter (some gm) L.length #[] L.length)):=Ext.grow r0 hbl (fun _ h=>h) (fun _ h=>.inl h)
 have r1:Rel E h β S (w.alloc (.mapIter (some gm) L.length #[] L.length)):=r0.grow hbl (fun _ h=>h) (fun _ h=>.inl h)
 obtain ⟨r2,hv2⟩:=r1.first b
 have hno:∀ a,S a→a.block≠gm:=by
  intro a ha hag
  obtain ⟨e,xs,h1,_⟩:=r0.free b _ gm a c1 rfl ha hag
  rw [hb] at h1
  cases h1
 simp only [kont,Exit.then]
 refine wpList_step fun K hK=>?_
 show wpG E.P all.toArray o ⟨tmps,[]⟩ w K _
 unfold wpG
 rw [if_pos (by simp [Region.wanted,hgd])]
 unfold Oper.wp
 have hrun:(execOp (Act.eval ⟨tmps,[]⟩) o).run E.P w=.ok (.value (.pointer (some ⟨w.heap.size,0,none⟩))) (w.alloc (.mapIter (some gm) L.length #[] L.length)):=by
  simp only [execOp,hop,Act.eval,hev,run_range_map w t kt et gm ents L.length ht c3,Sem.run_bind,Result.andThen_ok,Sem.run_pure]
 rw [hrun,Oper.upon_value,zbH]
 refine hK _ _ ?_
 have rt2:zax E.T ((h.take b).map (za5 (zch b))) (β.take b) (w.alloc (.mapIter (some gm) L.length #[] L.length)) S (mask live b ts) tmps:=fun q=>by
  rcases zhx b ts live q with h1|h1
  ·rw [h1];exact .d _ _ (.un _)
  ·rw [h1];exact hv2 _ _ ((rt q).ext x1)
 have rt3:=rt2.put (d:=some d) (x:=.v (.pointer (some ⟨w.heap.size,0,none⟩))) (y:=.pointer (some ⟨w.heap.size,0,none⟩)) (by simp only [zaH];exact Nat.ble_eq_true_of_le (by rw [hn];exact hdn)) (.d _ _ (.v _ rfl))
 have hsz:(w.alloc (.mapIter (some gm) L.length #[] L.length)).heap.size=w.heap.size+1:=by
  show (w.heap.push _).size=_
  simp
 have hfor:Foreign [gm,w.heap.size] (β.take b) S w0 (w.alloc (.mapIter (some gm) L.length #[] L.length)):=by
  refine ⟨fun g hg=>?_,fun g hg=>?_,fun g hg b' k' hb' hk'=>?_,fun g hg a ha=>?_⟩
  ·rcases List.mem_cons.1 hg with rfl|hg
   ·rcases x0.new b _ g c1 rfl with ⟨b',k',h1,_,h2⟩|h1
    ·subst h2
     have:=(List.getElem?_eq_some_iff.1 h1).1
     omega
    ·exact h1
   ·simp only [List.mem_singleton] at hg;subst hg;exact x0.size
  ·rw [hsz]
   rcases List.mem_cons.1 hg with rfl|hg
   ·omega
   ·simp only [List.mem_singleton] at hg;omega
  ·rw [List.getElem?_take] at hb'
   split at hb'
   ·rename_i hlt
    rcases List.mem_cons.1 hg with rfl|hg
    ·have:=r0.apart b' b k' _ g hb' c1 hk' rfl
     omega
    ·simp only [List.mem_singleton] at hg
     subst hg
     have:=r0.lt b' k' _ hb' hk'
     omega
   ·cases hb'
  ·rcases List.mem_cons.1 hg with rfl|hg
   ·exact hno a ha
   ·simp only [List.mem_singleton] at hg
    have:=r0.stable a ha
    omega
 have hit:ItF gm w.heap.size es none S (w.alloc (.mapIter (some gm) L.length #[] L.length)):=by
  refine ⟨L,ents,#[],L.length,(hbl.block gm hgl).trans c3,c4,fun i k x hi=>?_,heap_alloc_new w _,Nat.le_refl _,by rw [ztb];exact c2.symm,by simp⟩
  obtain ⟨kv,xv,a1,a2,a3⟩:=c5 i k x hi
  exact ⟨kv,xv,a1,a2.mono (fun _ h=>h) x1.S_cell,a3.mono (fun _ h=>h) x1.S_cell⟩
 have:=H gm w.heap.size β0 S0 w0 (β.take b) S _ _ hβ (by rw [zb1];exact hn) ((x0.trans x1).first r1 hb0 hβ) r2 rt3 hfor hit
 simp only [kont,Exit.then] at this
 rw [hd]
 exact this
theorem zuO {L:List (AV × AV)} {seen:Array Nat} {i:Nat} {p:AV × AV} (hi:L[i]?=some p) (hs:seen.contains i=false):(zhi L seen).Perm (p::zhi L (seen.push i)):=by
 have hil:=(List.getElem?_eq_some_iff.1 hi).1
 have hF:((List.range L.length).filter fun j=>!seen.contains j).Perm (i::(List.range L.length).filter fun j=>!(seen.push i).contains j):=by
  have hm:i∈(List.range L.length).filter fun j=>!seen.contains j:=by
   rw [List.mem_filter]
   exact ⟨List.mem_range.2 hil,by rw [hs];rfl⟩
  have h1:=List.perm_cons_erase hm
  have hn:((List.range L.length).filter fun j=>!seen.contains j).Nodup:=List.nodup_range.filter _
  rw [hn.erase_eq_filter,List.filter_filter] at h1
  refine h1.trans (.of_eq (congrArg _ ?_))
  apply List.filter_congr
  intro j _
  rw [contains_push]
  cases seen.contains j <;> cases hji:(j==i) <;> simp [bne,hji]
 have:=hF.filterMap fun j=>L[j]?
 rw [List.filterMap_cons_some hi] at this
 exact this
theorem zmU {α:Type}:∀ (l:List α) (j:Nat) (p:α),l[j]?=some p→l.Perm (p::l.eraseIdx j)
 | [],j,p,h=>by simp at h
 | a::l,0,p,h=>by simp at h;subst h;exact .refl _
 | a::l,j+1,p,h=>by
  have:=zmU l j p (by simpa using h)
  exact (this.cons a).trans (.swap _ _ _)
theorem zkk {L:List (AV × AV)} {ents:Array MapEntry} {w:World} {S:Addr→Prop} (hl:ents.size=L.length) (h3:∀ (i:Nat) (k x:AV),L[i]?=some (k,x)→∃ (kv xv:Value),ents[i]?=some ⟨kv,xv,i⟩∧RelD w S k kv∧RelD w S x xv) :
  (∀ e∈ents.toList,ents[e.born]?=some e∧e.born < L.length)∧(ents.toList.map (·.born)).Nodup:=by
 have at_:∀ (i:Nat) (e:MapEntry),ents[i]?=some e→e.born=i∧i < L.length:=by
  intro i e he
  have hi:i < L.length:=by rw [← hl];exact (Array.getElem?_eq_some_iff.1 he).1
  obtain ⟨kv,xv,e1,_⟩:=h3 i L[i].1 L[i].2 (List.getElem?_eq_getElem hi)
  rw [he] at e1
  cases e1
  exact ⟨rfl,hi⟩
 refine ⟨fun e he=>?_,?_⟩
 ·obtain ⟨i,hi⟩:=List.getElem?_of_mem he
  rw [Array.getElem?_toList] at hi
  obtain ⟨h1,h2⟩:=at_ i e hi
  rw [h1]
  exact ⟨hi,h2⟩
 ·have:ents.toList.map (·.born)=List.range L.length:=by
   apply List.ext_getElem?
   intro i
   rw [List.getElem?_map,Array.getElem?_toList]
   by_cases hi:i < L.length
   ·have h5:ents[i]?=some (ents[i]'(by omega)):=Array.getElem?_eq_getElem (by omega)
    rw [h5,Option.map_some,(at_ i _ h5).1,List.getElem?_range hi]
   ·rw [Array.getElem?_eq_none (by omega),List.getElem?_eq_none (by simp;omega)]
    rfl
  rw [this]
  exact List.nodup_range
theorem ztx {w w1:World} {g:Nat} {o:Obj} (h:w1=w∨w1=w.drew):Touch g w (ChangeMaps.setBlock w1 g o):=by
 rcases h with rfl|rfl
 ·exact ⟨rfl,rfl,rfl,by simp [ChangeMaps.setBlock],fun b hb=>by simp [ChangeMaps.setBlock,Ne.symm hb]⟩
 ·have hd:∀ v:World,v.drew.heap=v.heap:=fun _=>rfl
  exact ⟨rfl,rfl,rfl,by simp [ChangeMaps.setBlock,hd],fun b hb=>by simp [ChangeMaps.setBlock,hd,Ne.symm hb]⟩
theorem zto {E:Env0} {fn:Func} {h0 h:Heap} {all r:List Oper} {o:Oper} {k:List It} {n:Nat} {ts:TS} {R:AV→Heap→Prop} {gm gi ti d:Nat} {l:List (AV × AV)} {cur:Option (AV × AV)} (hop:o.op=.next (.tmp ti) false) (hgd:o.guard=none) (hd:o.dst=some d) (hdn:d < n)
  (hm:look ts ti=.v (.pointer (some ⟨gi,0,none⟩)))
  (H0:l=[]→zbF E fn h0 [gm,gi] (ItF gm gi [] none) ⟨n,.ops all r::k,(d,.tup [.bl false])::ts,h⟩ R)
  (H1:∀ (j:Nat) (kx x:AV),l[j]?=some (kx,x)→zbF E fn h0 [gm,gi] (ItF gm gi (l.eraseIdx j) (some (kx,x))) ⟨n,.ops all r::k,(d,.tup [.bl true,kx,x])::ts,h⟩ R) :
  zbF E fn h0 [gm,gi] (ItF gm gi l cur) ⟨n,.ops all (o::r)::k,ts,h⟩ R:=by
 intro β0 S0 w0 β S w tmps hβ hn x0 r0 rt hf ⟨L,ents,seen,c0,h1,h2,h3,h4,h5,h6,h7⟩
 simp only at hn x0 r0 rt
 have hmv:=rt ti
 rw [hm] at hmv
 have hev:=hmv.v_inv
 obtain ⟨hb1,hb2⟩:=zkk h2 h3
 have hne:gm≠gi:=by
  rintro rfl
  rw [h1] at h4
  cases h4
 simp only [kont,Exit.then]
 refine wpList_step fun K hK=>?_
 show wpG E.P all.toArray o ⟨tmps,[]⟩ w K _
 unfold wpG
 rw [if_pos (by simp [Region.wanted,hgd])]
 unfold Oper.wp
 have hdd:zaH tmps.size (some d)=true:=by simp only [zaH];exact Nat.ble_eq_true_of_le (by rw [hn];exact hdn)
 rcases run_next_at (P:=E.P) w o.type gi gm L.length c0 seen ents L.length h4 h1 (fun x hx=>(hb1 x hx).2) h5 with ⟨hz,hrun⟩|⟨e,he,w1,hw1,hrun⟩
 ·have hrun':(execOp (Act.eval ⟨tmps,[]⟩) o).run E.P w=.ok (.value (.tuple #[.bool false])) w:=by
   simp only [execOp,hop,Act.eval,hev,hrun,Sem.run_bind,Result.andThen_ok,Sem.run_pure]
  rw [hrun',Oper.upon_value,zbH]
  refine hK _ _ ?_
  have hall:=all_seen ents seen hz
  have hnil:zhi L seen=[]:=by
   unfold zhi
   have:((List.range L.length).filter fun i=>!seen.contains i)=[]:=by
    rw [List.filter_eq_nil_iff]
    intro i hi
    have hi:=List.mem_range.1 hi
    obtain ⟨kv,xv,e1,_⟩:=h3 i L[i].1 L[i].2 (List.getElem?_eq_getElem hi)
    have:=hall _ (Array.mem_toList_iff.2 (Array.mem_of_getElem? e1))
    simp only at this
    rw [this]
    decide
   rw [this]
   rfl
  rw [hnil] at h6
  have hl:=h6.eq_nil
  have:=H0 hl β0 S0 w0 β S w _ hβ (by rw [zb1];exact hn) x0 r0 (rt.put (d:=some d) (x:=.tup [.bl false]) (y:=.tuple #[.bool false]) hdd (.d _ _ (.tup [.bl false] [.bool false] rfl (fun i p q hp hq=>by
   cases i with
   | zero=>simp at hp hq;subst hp;subst hq;exact .bl _
   | succ i=>simp at hp)))) hf ⟨L,ents,seen,c0,h1,h2,h3,h4,h5,by rw [hnil],by simp⟩
  simp only [kont,Exit.then] at this
  rw [hd]
  exact this
 ·have hrun':(execOp (Act.eval ⟨tmps,[]⟩) o).run E.P w=.ok (.value (.tuple #[.bool true,e.key,e.val])) (ChangeMaps.setBlock w1 gi (.mapIter (some gm) L.length (seen.push e.born) L.length)):=by
   simp only [execOp,hop,Act.eval,hev,hrun,Sem.run_bind,Result.andThen_ok,Sem.run_pure]
  rw [hrun',Oper.upon_value,zbH]
  refine hK _ _ ?_
  obtain ⟨hem,hes⟩:=mem_left he
  obtain ⟨hei,hel⟩:=hb1 e hem
  have hLi:L[e.born]?=some L[e.born]:=List.getElem?_eq_getElem hel
  obtain ⟨kv,xv,e1,e2,e3⟩:=h3 e.born L[e.born].1 L[e.born].2 hLi
  rw [hei] at e1
  have hstep:=zuO hLi hes
  have hmem:L[e.born]∈l:=h6.mem_iff.2 (hstep.mem_iff.2 (by simp))
  obtain ⟨j,hj⟩:=List.getElem?_of_mem hmem
  have hperm:(l.eraseIdx j).Perm (zhi L (seen.push e.born)):=by
   have:=(zmU l j _ hj).symm.trans (h6.trans hstep)
   exact this.cons_inv
  have t:Touch gi w (ChangeMaps.setBlock w1 gi (.mapIter (some gm) L.length (seen.push e.born) L.length)):=ztx hw1
  have hg:gi∈[gm,gi]:=by simp
  have hcell:∀ a,S a→(ChangeMaps.setBlock w1 gi (.mapIter (some gm) L.length (seen.push e.born) L.length)).cell? a=w.cell? a:=fun a ha=>t.cell (hf.sep gi hg a ha)
  have hkk:e.key=kv∧e.val=xv:=by
   have h9:e=⟨kv,xv,e.born⟩:=by injection e1
   exact ⟨congrArg MapEntry.key h9,congrArg MapEntry.val h9⟩
  have rt2:=(rt.touch (E:=E) t hf hg).put (d:=some d) (x:=.tup [.bl true,L[e.born].1,L[e.born].2]) (y:=.tuple #[.bool true,e.key,e.val]) hdd (.d _ _ (.tup [.bl true,L[e.born].1,L[e.born].2] [.bool true,e.key,e.val] rfl (fun i p q hp hq=>by
   match i,hp,hq with
   | 0,hp,hq=>simp at hp hq;subst hp;subst hq;exact .bl _
   | 1,hp,hq=>simp at hp hq;subst hp;subst hq;rw [hkk.1];exact e2.mono (fun _ h=>h) hcell
   | 2,hp,hq=>simp at hp hq;subst hp;subst hq;rw [hkk.2];exact e3.mono (fun _ h=>h) hcell
   | i+3,hp,hq=>simp at hp)))
  have hit:ItF gm gi (l.eraseIdx j) (some (L[e.born].1,L[e.born].2)) S (ChangeMaps.setBlock w1 gi (.mapIter (some gm) L.length (seen.push e.born) L.length)):=by
   refine ⟨L,ents,seen.push e.born,L.length,(t.other gm hne).trans h1,h2,fun i k x hi=>?_,?_,Nat.le_refl _,hperm,fun p hp=>⟨seen,e.born,rfl,by rw [hLi];exact hp,rfl⟩⟩
   ·obtain ⟨kv,xv,a1,a2,a3⟩:=h3 i k x hi
    exact ⟨kv,xv,a1,a2.mono (fun _ h=>h) hcell,a3.mono (fun _ h=>h) hcell⟩
   ·have hlt:gi < w1.heap.size:=by
     have:=(Array.getElem?_eq_some_iff.1 h4).1
     rcases hw1 with rfl|rfl <;> exact this
    simp [ChangeMaps.setBlock,hlt]
  have:=H1 j L[e.born].1 L[e.born].2 hj β0 S0 w0 β S _ _ hβ (by rw [zb1];exact hn) (x0.touch t hf hg) (r0.touch t hf hg) rt2 (hf.touch t) hit
  simp only [kont,Exit.then] at this
  rw [hd]
  exact this
theorem zqS {E:Env0} {fn:Func} {h0 h:Heap} {all r:List Oper} {o:Oper} {k:List It} {n:Nat} {ts:TS} {R:AV→Heap→Prop} {gm gi ti d:Nat} {l:List (AV × AV)} {kx x:AV} (hop:o.op=.entry (.tmp ti)) (hgd:o.guard=none) (hd:o.dst=some d) (hdn:d < n)
  (hm:look ts ti=.v (.pointer (some ⟨gi,0,none⟩)))
  (H:zbF E fn h0 [gm,gi] (ItF gm gi l (some (kx,x))) ⟨n,.ops all r::k,(d,.tup [kx,x])::ts,h⟩ R) :
  zbF E fn h0 [gm,gi] (ItF gm gi l (some (kx,x))) ⟨n,.ops all (o::r)::k,ts,h⟩ R:=by
 intro β0 S0 w0 β S w tmps hβ hn x0 r0 rt hf hw
 have hw0:=hw
 obtain ⟨L,ents,seen,c0,h1,h2,h3,h4,h5,h6,h7⟩:=hw
 simp only at hn x0 r0 rt
 have hmv:=rt ti
 rw [hm] at hmv
 have hev:=hmv.v_inv
 obtain ⟨hb1,hb2⟩:=zkk h2 h3
 obtain ⟨s',i,rfl,hi,rfl⟩:=h7 _ rfl
 obtain ⟨kv,xv,e1,e2,e3⟩:=h3 i kx x hi
 simp only [kont,Exit.then]
 refine wpList_step fun K hK=>?_
 show wpG E.P all.toArray o ⟨tmps,[]⟩ w K _
 unfold wpG
 rw [if_pos (by simp [Region.wanted,hgd])]
 unfold Oper.wp
 have hrun:=run_entry_at (P:=E.P) w gi gm L.length s' ents L.length ⟨kv,xv,i⟩ h4 h1 (Array.mem_toList_iff.2 (Array.mem_of_getElem? e1)) hb2
 have hrun':(execOp (Act.eval ⟨tmps,[]⟩) o).run E.P w=.ok (.value (.tuple #[kv,xv])) w:=by
  simp only [execOp,hop,Act.eval,hev,hrun,Sem.run_bind,Result.andThen_ok,Sem.run_pure]
 rw [hrun',Oper.upon_value,zbH]
 refine hK _ _ ?_
 have:=H β0 S0 w0 β S w _ hβ (by rw [zb1];exact hn) x0 r0 (rt.put (d:=some d) (x:=.tup [kx,x]) (y:=.tuple #[kv,xv]) (by simp only [zaH];exact Nat.ble_eq_true_of_le (by rw [hn];exact hdn)) (.d _ _ (.tup [kx,x] [kv,xv] rfl (fun i p q hp hq=>by
  match i,hp,hq with
  | 0,hp,hq=>simp at hp hq;subst hp;subst hq;exact e2
  | 1,hp,hq=>simp at hp hq;subst hp;subst hq;exact e3
  | i+2,hp,hq=>simp at hp)))) hf hw0
 simp only [kont,Exit.then] at this
 rw [hd]
 exact this
end Go.AM
namespace Go.AM
theorem zbC (n:Int):KeyOK E0.P Ty.M_int_bool (iv n):=zty (kt:=Ty.int) (et:=Ty.bool) kr kr n
theorem zdi (a b:Int) (c:Str):KeyOK E0.P Ty.M_Value_bool (.agg [iv a,iv b,sv c]) :=
 zpJ E0ok (kt:=Ty.Value) (et:=Ty.bool) (fs:=E0.P.fieldsOf Ty.Value) kr kr kr za9 rfl rfl
end Go.AM
namespace Go.AM
set_option linter.unusedSimpArgs false
set_option linter.unusedVariables false
noncomputable def zgA (fn:Func) (args:List AV) (h:Heap):Cfg:=⟨fn.ntmps,[.code (fn.body.getD .skip)],zbZ 0 args,h⟩
def itp (gi:Nat):AV:=.v (.pointer (some ⟨gi,0,none⟩))
noncomputable def zo6 (h0:Heap) (c:Cfg) (os:List Orc) (b:Nat):Option (List Prop × TypeId × List (AV × AV)):=match run (mk E0) 3000 c os with
 | (q,⟨n,.ops _ (o::_)::_,ts,h⟩,_)=>match o.op,o.guard,o.dst with
  | .range t (.tmp tm),none,some d=>match look ts tm,Nat.blt d n,Nat.ble h0.length b with
   | .mp b',true,true=>match Nat.beq b' b,h[b]? with
    | true,some (.mp es)=>some (q,t,es)
    | _,_=>none
   | _,_,_=>none
  | _,_,_=>none
 | _=>none
noncomputable def rngK (c:Cfg) (os:List Orc) (live:List Nat) (b gi:Nat):Cfg:=match run (mk E0) 3000 c os with
 | (_,⟨n,.ops all (o::r)::k,ts,h⟩,_)=>⟨n,.ops all r::k,(o.dst.getD 0,itp gi)::mask live b ts,(h.take b).map (za5 (zch b))⟩
 | (_,c',_)=>c'
theorem wkRl {fn:Func} {h0:Heap} {c:Cfg} {R:AV→Heap→Prop} {t kt et:TypeId} {es:List (AV × AV)} (l:List St) (live:List Nat) (b:Nat) (hu:zo6 h0 c (orcs l) b=some (zbe l,t,es)) (ht:E0.P.underlying t=some (.map kt et))
  (hg:∀ gm gi,zbF E0 fn h0 [gm,gi] (ItF gm gi es none) (rngK c (orcs l) live b gi) R):Good E0 fn h0 c R:=by
 unfold zo6 at hu
 unfold rngK at hg
 split at hu
 ·rename_i q n all o r k ts h os' hrun
  split at hu
  ·rename_i t' tm d hop hgd hd
   split at hu
   ·rename_i b' hm hdn hb0
    split at hu
    ·rename_i es' hbb hb
     simp only [Option.some.injEq,Prod.mk.injEq] at hu
     obtain ⟨rfl,rfl,rfl⟩:=hu
     have:=Nat.eq_of_beq_eq_true hbb
     subst this
     refine zix E0ok mix0 3000 c (orcs l) (by rw [hrun];exact zaZ l) ?_
     rw [hrun]
     refine zsT live hop hgd hd (Nat.le_of_ble_eq_true hdn) ht hm hb hb0 fun gm gi=>?_
     have:=hg gm gi
     rw [hrun] at this
     simp only [hd,Option.getD_some] at this
     exact this
    ·cases hu
   ·cases hu
  ·cases hu
 ·cases hu
def fnOk (fn : Func) (args : List AV) : Bool := fn.body.isSome && !(fn.name == "runtime.NumGoroutine") && Nat.ble args.length fn.ntmps
theorem wkR {f:FuncId} {fn:Func} {args:List AV} {h:Heap} {R:AV→Heap→Prop} {t kt et:TypeId} {es:List (AV × AV)} (hf:E0.P.funcs[f]?=some fn) (l:List St) (live:List Nat) (b:Nat) (hok:fnOk fn args=true) (hu:zo6 h (zgA fn args h) (orcs l) b=some (zbe l,t,es)) (ht:E0.P.underlying t=some (.map kt et))
  (hg:∀ gm gi,zbF E0 fn h [gm,gi] (ItF gm gi es none) (rngK (zgA fn args h) (orcs l) live b gi) (Shut h.length R)):zbI E0 f args h R:=by
 simp only [fnOk,Bool.and_eq_true,Bool.not_eq_true',Option.isSome_iff_exists] at hok
 obtain ⟨⟨⟨c,hb⟩,hn⟩,ha⟩:=hok
 have h1:=wkRl l live b hu ht hg
 have:zgA fn args h=⟨fn.ntmps,[.code c],zbZ 0 args,h⟩:=by simp [zgA,hb]
 rw [this] at h1
 exact zdl (zaN hf hb hn (Nat.le_of_ble_eq_true ha) h1)
theorem wkFl {fn:Func} {R:AV→Heap→Prop} {h0:Heap} {c c':Cfg} {gm gi:Nat} {es:List (AV × AV)} {cur:Option (AV × AV)} (l:List St) (live:List Nat) (m:Nat) (hu:zjf h0 live m c (orcs l)=some (zbe l,c')) (hg:zbF E0 fn h0 [gm,gi] (ItF gm gi es cur) c' R):zbF E0 fn h0 [gm,gi] (ItF gm gi es cur) c R:=by
 unfold zjf at hu
 split at hu
 ·rename_i hm
  have hu:=Option.some.inj hu
  unfold upto at hu
  have h1:(run (mk E0) 3000 c (orcs l)).1=zbe l:=congrArg Prod.fst hu
  have h2:cut live m (run (mk E0) 3000 c (orcs l)).2.1=c':=congrArg Prod.snd hu
  exact zvg E0ok mix0 (zlW _ _ _ _) 3000 (orcs l) live m hm h1 h2 (zaZ l) hg
 ·cases hu
theorem zka {E:Env0} {fn:Func} {h0:Heap} {gs:List Nat} {F:(Addr→Prop)→World→Prop} {c:Cfg} {R:AV→Heap→Prop} (hg:zbF E fn h0 gs F (zkU c) R):zbF E fn h0 gs F c R:=by
 unfold zkU at hg
 split at hg
 ·rename_i b k hk
  obtain ⟨n,todo,ts,h⟩:=c
  simp only at hk
  subst hk
  intro β0 S0 w0 β S w tmps hb0 hn x0 r rt hf hw
  have:=hg β0 S0 w0 β S w tmps hb0 hn x0 r rt hf hw
  simp only [kont,Exit.then] at this ⊢
  refine znd (wp_mono this fun e a w he=>?_)
  cases e <;> exact he
 ·exact hg
noncomputable def nxtOk (c:Cfg) (os:List Orc):Option (List Prop × AV):=match run (mk E0) 3000 c os with
 | (q,⟨n,.ops _ (o::_)::_,ts,_⟩,_)=>match o.op,o.guard,o.dst with
  | .next (.tmp ti) false,none,some d=>match Nat.blt d n with
   | true=>some (q,look ts ti)
   | false=>none
  | _,_,_=>none
 | _=>none
noncomputable def nxtK (c:Cfg) (os:List Orc) (v:AV):Cfg:=match run (mk E0) 3000 c os with
 | (_,⟨n,.ops all (o::r)::k,ts,h⟩,_)=>⟨n,.ops all r::k,(o.dst.getD 0,v)::ts,h⟩
 | (_,c',_)=>c'
theorem wkN {fn:Func} {h0:Heap} {c:Cfg} {R:AV→Heap→Prop} {gm gi:Nat} {es:List (AV × AV)} {cur:Option (AV × AV)} (l:List St) (hu:nxtOk c (orcs l)=some (zbe l,itp gi))
  (H0:es=[]→zbF E0 fn h0 [gm,gi] (ItF gm gi [] none) (nxtK c (orcs l) (.tup [.bl false])) R)
  (H1:∀ (j:Nat) (kx x:AV),es[j]?=some (kx,x)→zbF E0 fn h0 [gm,gi] (ItF gm gi (es.eraseIdx j) (some (kx,x))) (nxtK c (orcs l) (.tup [.bl true,kx,x])) R):zbF E0 fn h0 [gm,gi] (ItF gm gi es cur) c R:=by
 unfold nxtOk at hu
 unfold nxtK at H0 H1
 split at hu
 ·rename_i q n all o r k ts h os' hrun
  split at hu
  ·rename_i ti d hop hgd hd
   split at hu
   ·rename_i hdn
    simp only [Option.some.injEq,Prod.mk.injEq] at hu
    obtain ⟨rfl,hm⟩:=hu
    refine zjX E0ok mix0 (zlW _ _ _ _) 3000 (orcs l) (by rw [hrun];exact zaZ l) ?_
    rw [hrun] at H0 H1 ⊢
    simp only [hd,Option.getD_some] at H0 H1
    exact zto hop hgd hd (Nat.le_of_ble_eq_true hdn) hm H0 H1
   ·cases hu
  ·cases hu
 ·cases hu
noncomputable def entOk (c:Cfg) (os:List Orc):Option (List Prop × AV):=match run (mk E0) 3000 c os with
 | (q,⟨n,.ops _ (o::_)::_,ts,_⟩,_)=>match o.op,o.guard,o.dst with
  | .entry (.tmp ti),none,some d=>match Nat.blt d n with
   | true=>some (q,look ts ti)
   | false=>none
  | _,_,_=>none
 | _=>none
theorem wkE2 {fn:Func} {h0:Heap} {c:Cfg} {R:AV→Heap→Prop} {gm gi:Nat} {es:List (AV × AV)} {kx x:AV} (l:List St) (hu:entOk c (orcs l)=some (zbe l,itp gi))
  (H:zbF E0 fn h0 [gm,gi] (ItF gm gi es (some (kx,x))) (nxtK c (orcs l) (.tup [kx,x])) R):zbF E0 fn h0 [gm,gi] (ItF gm gi es (some (kx,x))) c R:=by
 unfold entOk at hu
 unfold nxtK at H
 split at hu
 ·rename_i q n all o r k ts h os' hrun
  split at hu
  ·rename_i ti d hop hgd hd
   split at hu
   ·rename_i hdn
    simp only [Option.some.injEq,Prod.mk.injEq] at hu
    obtain ⟨rfl,hm⟩:=hu
    refine zjX E0ok mix0 (zlW _ _ _ _) 3000 (orcs l) (by rw [hrun];exact zaZ l) ?_
    rw [hrun] at H ⊢
    simp only [hd,Option.getD_some] at H
    exact zqS hop hgd hd (Nat.le_of_ble_eq_true hdn) hm H
   ·cases hu
  ·cases hu
 ·cases hu
theorem wkRF {f:FuncId} {fn:Func} {args:List AV} {h:Heap} {R:AV→Heap→Prop} {kt et:TypeId} {es:List (AV × AV)} (L:Nat→Cfg) (t:TypeId) (hf:E0.P.funcs[f]?=some fn) (l:List St) (live:List Nat) (b:Nat) (l2:List St) (live2:List Nat) (m:Nat) (hok:fnOk fn args=true) (hu:zo6 h (zgA fn args h) (orcs l) b=some (zbe l,t,es)) (ht:E0.P.underlying t=some (.map kt et))
  (hk:∀ gi,zjf h live2 m (rngK (zgA fn args h) (orcs l) live b gi) (orcs l2)=some (zbe l2,L gi))
  (hg:∀ gm gi,zbF E0 fn h [gm,gi] (ItF gm gi es none) (L gi) (Shut h.length R)):zbI E0 f args h R :=
 wkR hf l live b hok hu ht fun gm gi=>wkFl l2 live2 m (hk gi) (hg gm gi)
end Go.AM
namespace Go.AM
set_option maxRecDepth 100000
set_option maxHeartbeats 1000000
set_option linter.unusedSimpArgs false
set_option linter.unusedVariables false
def itE (p:Int × Bool):AV × AV:=(iv p.1,bv p.2)
noncomputable def zm3 (u:Int) (gi:Nat):Cfg:=zal B.syntax_bare 0 [(37,itp gi),(1,iv u)] []
noncomputable def zwo (u:Int) (gi:Nat) (p:Int × Bool):Cfg:=nxtK (nxtK (zkU (zm3 u gi)) (orcs []) (.tup [.bl true,iv p.1,bv p.2])) (orcs []) (.tup [iv p.1,bv p.2])
def andI (a b:Int):Int:=IntKind.i64.wrap (↑(BitVec.ofInt IntKind.i64.bits a &&& BitVec.ofInt IntKind.i64.bits b).toNat:Int)
def okP (u:Int) (p:Int × Bool):Bool:=bif andI u p.1==0 then p.2 else true
theorem at_itE {L:List (Int × Bool)} {j:Nat} {kx x:AV} (h:(L.map itE)[j]?=some (kx,x)):∃ p,L[j]?=some p∧kx=iv p.1∧x=bv p.2:=by
 rw [List.getElem?_map,Option.map_eq_some_iff] at h
 obtain ⟨p,h1,h2⟩:=h
 cases h2
 exact ⟨p,h1,rfl,rfl⟩
theorem zoh {α:Type} (f:α→Bool):∀ (l:List α) (j:Nat) (p:α),l[j]?=some p→l.all f=(f p&&(l.eraseIdx j).all f)
 | [],j,p,h=>by simp at h
 | a::l,0,p,h=>by simp at h;subst h;rfl
 | a::l,j+1,p,h=>by
  have:=zoh f l j p (by simpa using h)
  simp only [List.all_cons,this,List.eraseIdx_cons_succ]
  cases f a <;> cases f p <;> rfl
theorem zon {α β:Type} (f:α→β):∀ (l:List α) (j:Nat),(l.map f).eraseIdx j=(l.eraseIdx j).map f
 | [],_=>rfl
 | a::l,0=>rfl
 | a::l,j+1=>by simp [zon f l j]
theorem zlA (u:Int):∀ (n:Nat) (L:List (Int × Bool)) (cur:Option (AV × AV)) (gm gi:Nat),L.length=n→zbF E0 B.syntax_bare [] [gm,gi] (ItF gm gi (L.map itE) cur) (zm3 u gi) (Shut 0 fun r h=>r=bv (L.all (okP u))∧h=[]):=by
 intro n
 induction n with
 | zero =>
  intro L cur gm gi hL
  cases L with
  | cons _ _=>simp at hL
  | nil=>exact zka (wkN [] kr (fun _=>zpA (wkr [] kr)) (fun j kx x hj=>by simp at hj))
 | succ n ih =>
  intro L cur gm gi hL
  refine zka (wkN [] kr (fun h0=>?_) (fun j kx x hj=>?_))
  ·cases L with
   | nil=>simp at hL
   | cons _ _=>simp at h0
  ·obtain ⟨p,hp,rfl,rfl⟩:=at_itE hj
   rw [zon]
   have hj2:j < L.length:=(List.getElem?_eq_some_iff.1 hp).1
   have hlen:(L.eraseIdx j).length=n:=by rw [List.length_eraseIdx,if_pos hj2];omega
   have ih:=ih (L.eraseIdx j) (some (iv p.1,bv p.2)) gm gi hlen
   rw [zoh (okP u) L j p hp]
   refine wkE2 [] kr ?_
   show zbF E0 B.syntax_bare [] [gm,gi] _ (zwo u gi p) _
   cases h1:andI u p.1==0
   ·have e:okP u p=true:=by unfold okP;rw [h1];rfl
    rw [e,Bool.true_and]
    exact wkFl [si (e:=andI u p.1) rfl,sb h1] [37,1] 0 kr ih
   ·cases h2:!p.2
    ·have e:okP u p=true:=by unfold okP;rw [h1];simpa using h2
     rw [e,Bool.true_and]
     exact wkFl [si (e:=andI u p.1) rfl,sg h1,sb h2] [37,1] 0 kr ih
    ·have e:okP u p=false:=by unfold okP;rw [h1];simpa using h2
     rw [e,Bool.false_and]
     exact zpA (wkr [si (e:=andI u p.1) rfl,sg h1,sb h2] kr)
def ziT (e:X) (z:Bool):List (Int × Bool):=[(1,e.op==0),(2,!e.not),(4,e.val.kind==0&&(e.val.int==0&&(e.val.text==ByteArray.mk #[]&&true))),(8,z),(16,((zad e.args).length:Int)==0),(32,((zag e.sub).length:Int)==0)]
def zh7 (e:X):Bool:=bif ByteArray.toList e.table==(ByteArray.mk #[]).toList then ByteArray.toList e.name==(ByteArray.mk #[]).toList else false
def zcE (e:X) (u:Int):Bool:=(ziT e (zh7 e)).all (okP u)
theorem zsX (e:X) (u:Int) (h1:(ByteArray.toList e.table==(ByteArray.mk #[]).toList)=false):zbI E0 S.syntax_bare [e.av,iv u] [] (fun r h=>r=bv ((ziT e false).all (okP u))∧h=[]):=by
 exact wkRF (es:=(ziT e false).map itE) (zm3 u) Ty.M_int_bool At.syntax_bare [sd [(12,[sq za9]),(18,[sb h1]),(19,[sb h1]),(20,[sb h1]),(21,[sb h1]),(4,[sq (zbC 1)]),(8,[sq (zbC 2)]),(13,[sq (zbC 4)]),(22,[sq (zbC 8)]),(27,[sq (zbC 16)]),(32,[sq (zbC 32)])]] [1] 1 [] [37,1] 0 (kt:=Ty.int) (et:=Ty.bool) kr kr kr (fun gi=>by kernel_rfl) fun gm gi=>(zlA u 6 (ziT e false) none gm gi rfl)
theorem zuz (e:X) (u:Int) (h1:(ByteArray.toList e.table==(ByteArray.mk #[]).toList)=true):zbI E0 S.syntax_bare [e.av,iv u] [] (fun r h=>r=bv ((ziT e (zh7 e)).all (okP u))∧h=[]):=by
 exact wkRF (es:=(ziT e (zh7 e)).map itE) (zm3 u) Ty.M_int_bool At.syntax_bare [sd [(12,[sq za9]),(18,[sg h1]),(19,[sg h1]),(20,[sg h1]),(4,[sq (zbC 1)]),(8,[sq (zbC 2)]),(13,[sq (zbC 4)]),(22,[sq (zbC 8)]),(27,[sq (zbC 16)]),(32,[sq (zbC 32)])]] [1] 1 [] [37,1] 0 (kt:=Ty.int) (et:=Ty.bool) kr kr kr (fun gi=>by kernel_rfl) fun gm gi=>(zlA u 6 (ziT e (zh7 e)) none gm gi rfl)
theorem zaz (e:X) (u:Int):zaa E0 S.syntax_bare [e.av,iv u] [] (bv (zcE e u)) []:=by
 cases h1:ByteArray.toList e.table==(ByteArray.mk #[]).toList
 ·have:zh7 e=false:=by unfold zh7;rw [h1];rfl
  unfold zcE
  rw [this]
  exact zsX e u h1
 ·exact zuz e u h1
end Go.AM
namespace Go.AM
set_option maxRecDepth 100000
set_option maxHeartbeats 1000000
set_option linter.unusedSimpArgs false
set_option linter.unusedVariables false
theorem znb {p:Prop} (h:p:=by first|exact (ztP s (by assumption)).symm|exact (zsa s (by assumption)).symm|exact (zq0 (by assumption) (by assumption)).symm|exact zvP (by assumption) (by assumption) (by assumption) (by assumption) (by assumption) (by assumption)|(have h:=(by assumption:_∧List.all _ okC=false);rw [ztE h.2];exact h.1)):p:=h
theorem ziZ {p:Prop} (h:p:=by exact zk2 hI hx (by simp only [okC];simp only [*];simp)):p:=h
theorem zph {p:Prop} (h:p:=by exact ⟨rfl,zmq hx (by simp only [okC];simp only [*];rfl)⟩):p:=h
def okC (c:UInt8):Bool:=decide (97≤((c.toNat:Nat):Int))&&decide (((c.toNat:Nat):Int)≤122) || (decide (48≤((c.toNat:Nat):Int))&&decide (((c.toNat:Nat):Int)≤57)) || ((c.toNat:Nat):Int)==95
def za7 (s:Str):Bool:=decide (1≤s.data.toList.length)&&decide (s.data.toList.length≤12)&&decide (97≤(s.data.toList.getD 0 0).toNat)&&s.data.toList.all okC
theorem ziO (s:Str):s.size=s.data.toList.length:=Array.length_toList.symm
theorem ztP (s:Str) (h:decide (((s.size:Nat):Int) < 1)=true):za7 s=false:=by
 rw [ziO] at h;simp only [decide_eq_true_eq] at h;simp only [za7,Bool.and_eq_false_iff,decide_eq_false_iff_not];omega
theorem zsa (s:Str) (h:decide ((12:Int) < ((s.size:Nat):Int))=true):za7 s=false:=by
 rw [ziO] at h;simp only [decide_eq_true_eq] at h;simp only [za7,Bool.and_eq_false_iff,decide_eq_false_iff_not];omega
theorem zk2 {α:Type} {f:α→Bool} {l:List α} {i:Nat} {x:α} (h:(l.take i).all f=true) (hx:l[i]?=some x) (hf:f x=true):(l.take (i+1)).all f=true:=by
 rw [List.take_add_one,hx,List.all_append,h];simp [hf]
theorem zmq {α:Type} {f:α→Bool} {l:List α} {i:Nat} {x:α} (hx:l[i]?=some x) (hf:f x=false):l.all f=false:=by
 rw [Bool.eq_false_iff];intro h;rw [List.all_eq_true] at h
 rw [h x (List.mem_of_getElem? hx)] at hf;simp at hf
noncomputable def L_vp (s:Str) (i:Nat) :Cfg:=zal B.schema_ValidName 0 [(0,sv s),(19,.sl (s.data.toList.map u8c)),(20,iv ((s.data.toList.map u8c).length:Nat)),(21,iv (i:Nat))] []
theorem zfY (s:Str) (hs:decide ((12:Int) < ((s.size:Nat):Int))=false) (i:Nat)  (hi:i≤(s.data.toList).length) (hI:(s.data.toList.take i).all okC=true):(((s.data.toList.take (s.data.toList).length).all okC=true)∧(decide ((((s.data.toList).length:Nat):Int) < (((s.data.toList.map u8c).length:Nat):Int))=false)∧∀ R,Good E0 B.schema_ValidName [] (L_vp s (s.data.toList).length ) R→Good E0 B.schema_ValidName [] (L_vp s i ) R)∨(∃ (r:Bool),(r=false∧s.data.toList.all okC=false)∧Good E0 B.schema_ValidName [] (L_vp s i ) (Shut 0 fun rZ hZ=>rZ=(bv r)∧hZ=[])):=by
 obtain ⟨kk,hk⟩:∃ kk,i+kk=(s.data.toList).length:=⟨(s.data.toList).length - i,by omega⟩
 induction kk generalizing i  with
 | zero =>
  have e0:i=(s.data.toList).length:=by omega
  subst e0
  exact .inl ⟨hI,by simp,fun R hg=>hg⟩
 | succ kk ih =>
  obtain ⟨x,hx⟩:=zav (l:=s.data.toList) (i:=i) (by omega)
  have h0:decide (((i:Nat):Int) < (((s.data.toList.map u8c).length:Nat):Int))=true:=by (simp only [List.length_map,decide_eq_true_eq];omega)
  have hw:IntKind.i64.wrap (((i:Nat):Int)+1)=((i+1:Nat):Int):=zak i (by (simp only [decide_eq_false_iff_not,ziO] at hs;omega))
  let p_1:List St:=[sb h0,se (zaf u8c hx rfl)]
  let p_2:List St:=[sb h0,se (zaf u8c hx rfl)]
  cases h1:decide (97≤(x.toNat:Int))
  ·cases h2:decide (48≤(x.toNat:Int))
   ·cases h3:(x.toNat:Int)==95
    ·exact .inr ⟨false,zph,zab (wkr (p_1++[sb h1,sb h2,sb h3]) kr)⟩
    ·exact (ih (i+1) (by omega) ziZ (by omega)).elim (fun ⟨qZ,xZ,gZ⟩=>.inl ⟨qZ,xZ,fun R hg=>zab (wkl (p_1++[sb h1,sb h2,sb h3,si hw]) [0,19,20,21] 0 kr (gZ R hg))⟩) (fun ⟨rY,pZ,gZ⟩=>.inr ⟨rY,pZ,zab (wkl (p_2++[sb h1,sb h2,sb h3,si hw]) [0,19,20,21] 0 kr gZ)⟩)
   ·cases h4:decide ((x.toNat:Int)≤57)
    ·cases h5:(x.toNat:Int)==95
     ·exact .inr ⟨false,zph,zab (wkr (p_1++[sb h1,sg h2,sb h4,sb h5]) kr)⟩
     ·exact (ih (i+1) (by omega) ziZ (by omega)).elim (fun ⟨qZ,xZ,gZ⟩=>.inl ⟨qZ,xZ,fun R hg=>zab (wkl (p_1++[sb h1,sg h2,sb h4,sb h5,si hw]) [0,19,20,21] 0 kr (gZ R hg))⟩) (fun ⟨rY,pZ,gZ⟩=>.inr ⟨rY,pZ,zab (wkl (p_2++[sb h1,sg h2,sb h4,sb h5,si hw]) [0,19,20,21] 0 kr gZ)⟩)
    ·exact (ih (i+1) (by omega) ziZ (by omega)).elim (fun ⟨qZ,xZ,gZ⟩=>.inl ⟨qZ,xZ,fun R hg=>zab (wkl (p_1++[sb h1,sg h2,sb h4,si hw]) [0,19,20,21] 0 kr (gZ R hg))⟩) (fun ⟨rY,pZ,gZ⟩=>.inr ⟨rY,pZ,zab (wkl (p_2++[sb h1,sg h2,sb h4,si hw]) [0,19,20,21] 0 kr gZ)⟩)
  ·cases h6:decide ((x.toNat:Int)≤122)
   ·cases h7:decide (48≤(x.toNat:Int))
    ·cases h8:(x.toNat:Int)==95
     ·exact .inr ⟨false,zph,zab (wkr (p_1++[sg h1,sb h6,sb h7,sb h8]) kr)⟩
     ·exact (ih (i+1) (by omega) ziZ (by omega)).elim (fun ⟨qZ,xZ,gZ⟩=>.inl ⟨qZ,xZ,fun R hg=>zab (wkl (p_1++[sg h1,sb h6,sb h7,sb h8,si hw]) [0,19,20,21] 0 kr (gZ R hg))⟩) (fun ⟨rY,pZ,gZ⟩=>.inr ⟨rY,pZ,zab (wkl (p_2++[sg h1,sb h6,sb h7,sb h8,si hw]) [0,19,20,21] 0 kr gZ)⟩)
    ·cases h9:decide ((x.toNat:Int)≤57)
     ·cases h10:(x.toNat:Int)==95
      ·exact .inr ⟨false,zph,zab (wkr (p_1++[sg h1,sb h6,sg h7,sb h9,sb h10]) kr)⟩
      ·exact (ih (i+1) (by omega) ziZ (by omega)).elim (fun ⟨qZ,xZ,gZ⟩=>.inl ⟨qZ,xZ,fun R hg=>zab (wkl (p_1++[sg h1,sb h6,sg h7,sb h9,sb h10,si hw]) [0,19,20,21] 0 kr (gZ R hg))⟩) (fun ⟨rY,pZ,gZ⟩=>.inr ⟨rY,pZ,zab (wkl (p_2++[sg h1,sb h6,sg h7,sb h9,sb h10,si hw]) [0,19,20,21] 0 kr gZ)⟩)
     ·exact (ih (i+1) (by omega) ziZ (by omega)).elim (fun ⟨qZ,xZ,gZ⟩=>.inl ⟨qZ,xZ,fun R hg=>zab (wkl (p_1++[sg h1,sb h6,sg h7,sb h9,si hw]) [0,19,20,21] 0 kr (gZ R hg))⟩) (fun ⟨rY,pZ,gZ⟩=>.inr ⟨rY,pZ,zab (wkl (p_2++[sg h1,sb h6,sg h7,sb h9,si hw]) [0,19,20,21] 0 kr gZ)⟩)
   ·exact (ih (i+1) (by omega) ziZ (by omega)).elim (fun ⟨qZ,xZ,gZ⟩=>.inl ⟨qZ,xZ,fun R hg=>zab (wkl (p_1++[sg h1,sb h6,si hw]) [0,19,20,21] 0 kr (gZ R hg))⟩) (fun ⟨rY,pZ,gZ⟩=>.inr ⟨rY,pZ,zab (wkl (p_2++[sg h1,sb h6,si hw]) [0,19,20,21] 0 kr gZ)⟩)
theorem zsR {s:Str} {c:UInt8} (h:ByteAt s 0 ((c.toNat:Nat):Int)):s.data.toList.getD 0 0=c:=by
 obtain ⟨_,h1⟩:=h
 rw [Option.map_eq_some_iff] at h1
 obtain ⟨b,hb,e⟩:=h1
 have hc:b=c:=UInt8.toNat_inj.1 (by omega)
 subst hc
 have hb2:s[(0:Nat)]?=some b:=hb
 by_cases h:0 < s.size
 ·rw [getElem?_pos s 0 h,Option.some.injEq] at hb2
  have h2:0 < s.data.size:=h
  rw [List.getD_eq_getElem?_getD,Array.getElem?_toList,Array.getElem?_eq_getElem h2]
  exact hb2
 ·rw [getElem?_neg s 0 h] at hb2;simp at hb2
theorem zq0 {s:Str} {c:UInt8} (h:ByteAt s 0 ((c.toNat:Nat):Int)) (h1:decide (((c.toNat:Nat):Int) < 97)=true):za7 s=false:=by
 have:=zsR h
 simp only [za7,this,Bool.and_eq_false_iff,decide_eq_false_iff_not];simp at h1;omega
theorem ztE {s:Str} (h:s.data.toList.all okC=false):za7 s=false:=by simp [za7,h]
theorem zvP {s:Str} {c d:UInt8} (h1:decide (((s.size:Nat):Int) < 1)=false) (h2:decide ((12:Int) < ((s.size:Nat):Int))=false) (h:ByteAt s 0 ((c.toNat:Nat):Int)) (h3:decide (((c.toNat:Nat):Int) < 97)=false) (h4:(s.data.toList.take s.data.toList.length).all okC=true) (h5:ByteAt s 0 ((d.toNat:Nat):Int)):(((d.toNat:Nat):Int) != 95)=za7 s:=by
 have e1:=zsR h
 have e2:=zsR h5
 rw [List.take_length] at h4
 subst e2
 rw [ziO] at h1 h2
 rw [← e1] at h3
 simp only [decide_eq_false_iff_not] at h1 h2 h3
 have a1:decide (1≤s.data.toList.length)=true:=by simp only [decide_eq_true_eq];omega
 have a2:decide (s.data.toList.length≤12)=true:=by simp only [decide_eq_true_eq];omega
 have a3:decide (97≤(s.data.toList.getD 0 0).toNat)=true:=by simp only [decide_eq_true_eq];omega
 simp only [za7,a1,a2,a3,h4,Bool.and_true,bne_iff_ne,ne_eq];omega
theorem zkO (s:Str) :∃ (r:Bool),r=za7 s∧zaa E0 S.schema_ValidName [sv s] [] (bv r) []:=by
 cases h1:decide ((↑(ByteArray.size s):Int) < 1)
 ·cases h2:decide (12 < (↑(ByteArray.size s):Int))
  ·obtain ⟨c3,b3⟩:=byteAt (s:=s) (i:=(0:Int)) (by first|omega|(simp only [decide_eq_false_iff_not,decide_eq_true_eq] at *;omega))
   cases h4:decide ((c3.toNat:Int) < 97)
   ·let p_1:List St:=[sg h1,sg h2,sy b3,sb h4,sqx ((ByteArray.size s).le 1000000000000)]
    rcases zfY s (by first|assumption|omega|(simp;done)|(simp;omega)) 0 (by first|assumption|omega|(simp;done)|(simp;omega)) (by first|assumption|omega|(simp;done)|(simp;omega)) with ⟨q5,q5_1,g5⟩|⟨r5_0,p5_0,g5⟩
    ·exact ⟨(c3.toNat:Int) != (95:Int),znb,wkc At.schema_ValidName p_1 [0,19,20,21] 0 kr (g5 _ (zab (wkr [sb q5_1,sy b3] kr)))⟩
    ·exact ⟨r5_0,znb,wkc At.schema_ValidName p_1 [0,19,20,21] 0 kr (g5)⟩
   ·exact ⟨false,znb,wk At.schema_ValidName [sg h1,sg h2,sy b3,sb h4] kr⟩
  ·exact ⟨false,znb,wk At.schema_ValidName [sg h1,sb h2] kr⟩
 ·exact ⟨false,znb,wk At.schema_ValidName [sb h1] kr⟩
theorem zaj (s:Str):zaa E0 S.schema_ValidName [sv s] [] (bv (za7 s)) []:=by
 obtain ⟨r,rfl,h⟩:=zkO s
 exact h
end Go.AM
namespace Go.AM
set_option maxRecDepth 100000
set_option maxHeartbeats 1000000
set_option linter.unusedSimpArgs false
set_option linter.unusedVariables false
theorem zcs {p:Prop} (h:p:=by first|exact (zvR (by assumption)).symm|(rw [zuV (by assumption) (by assumption)];clear hq hq2;generalize (e.kind==8)=k8 at *;generalize (e.kind==9)=k9 at *;subst_vars;simp only [zqx,cond_false,cond_true,Bool.or_self,Bool.or_false,Bool.true_or,Bool.false_or,Bool.or_true,Bool.true_and,Bool.false_and,Bool.and_true,Bool.and_false, *])):p:=h
theorem zfP {p:Prop} (h:p:=by first|assumption|omega|exact List.mem_of_getElem? (by assumption)|(simp only [bne_eq_false_iff_eq,zef] at *;omega)):p:=h
theorem zju {p:Prop} (h:p:=by (simp only [zmV,ztF, *];simp_all)):p:=h
abbrev sINS:Str:=⟨#[73,78,83,69,82,84,69,68]⟩
abbrev sDEL:Str:=⟨#[68,69,76,69,84,69,68]⟩
abbrev sNW:Str:=⟨#[78,69,87]⟩
abbrev sOL:Str:=⟨#[79,76,68]⟩
abbrev sNo:Str:=⟨#[]⟩
def zeC (s:Str):Bool:=za7 s || s.toList==sINS.toList || s.toList==sDEL.toList
theorem zmr (s:Str) :∃ (r:Bool),r=zeC s∧zaa E0 S.syntax_source [sv s] [] (bv r) []:=by
 cases h1:za7 s
 ·let p_1:List St:=[sc (zaj s),sg h1]
  cases h2:ByteArray.toList s==(ByteArray.mk #[73,78,83,69,82,84,69,68]).toList
  ·exact ⟨ByteArray.toList s==(ByteArray.mk #[(68:UInt8),(69:UInt8),(76:UInt8),(69:UInt8),(84:UInt8),(69:UInt8),(68:UInt8)]).toList,(by (simp only [zeC, *];simp)),wk At.syntax_source (p_1++[sg h2]) kr⟩
  ·exact ⟨true,(by (simp only [zeC, *];simp)),wk At.syntax_source (p_1++[sb h2]) kr⟩
 ·exact ⟨true,(by (simp only [zeC, *];simp)),wk At.syntax_source [sc (zaj s),sb h1] kr⟩
theorem zaQ (s:Str):zaa E0 S.syntax_source [sv s] [] (bv (zeC s)) []:=by
 obtain ⟨r,rfl,h⟩:=zmr s
 exact h
def ztF (s:Str):Bool:=s.toList==sNo.toList || s.toList==sNW.toList || s.toList==sOL.toList || s.toList==sINS.toList || s.toList==sDEL.toList || za7 s
def zmV (e:X):Bool:=ztF e.table&&za7 e.name
theorem zmp (e:X) :∃ (r:Bool),r=zmV e∧zaa E0 S.syntax_column [e.av] [] (bv r) []:=by
 cases h1:ByteArray.toList e.table==(ByteArray.mk #[]).toList
 ·cases h2:ByteArray.toList e.table==(ByteArray.mk #[78,69,87]).toList
  ·cases h3:ByteArray.toList e.table==(ByteArray.mk #[79,76,68]).toList
   ·cases h4:ByteArray.toList e.table==(ByteArray.mk #[73,78,83,69,82,84,69,68]).toList
    ·cases h5:ByteArray.toList e.table==(ByteArray.mk #[68,69,76,69,84,69,68]).toList
     ·let p_1:List St:=[sb h1,sb h2,sb h3,sb h4,sb h5,sc (zaj e.table)]
      cases h6:!za7 e.table
      ·exact ⟨za7 e.name,zju,wk At.syntax_column (p_1++[sb h6,sc (zaj e.name)]) kr⟩
      ·exact ⟨false,zju,wk At.syntax_column (p_1++[sb h6]) kr⟩
     ·exact ⟨za7 e.name,zju,wk At.syntax_column [sb h1,sb h2,sb h3,sb h4,sb h5,sc (zaj e.name)] kr⟩
    ·exact ⟨za7 e.name,zju,wk At.syntax_column [sb h1,sb h2,sb h3,sb h4,sc (zaj e.name)] kr⟩
   ·exact ⟨za7 e.name,zju,wk At.syntax_column [sb h1,sb h2,sb h3,sc (zaj e.name)] kr⟩
  ·exact ⟨za7 e.name,zju,wk At.syntax_column [sb h1,sb h2,sc (zaj e.name)] kr⟩
 ·exact ⟨za7 e.name,zju,wk At.syntax_column [sb h1,sc (zaj e.name)] kr⟩
theorem zm6 (e:X):zaa E0 S.syntax_column [e.av] [] (bv (zmV e)) []:=by
 obtain ⟨r,rfl,h⟩:=zmp e
 exact h
def argN (k:Int):Int:=bif k==3 || k==4 || k==6 then 1 else bif k==5 then 2 else bif k==7 then 3 else -1
theorem zkR (k:Int) :∃ (r:Int),r=argN k∧zaa E0 S.syntax_arguments [iv k] [] (iv r) []:=by
 cases h1:k==3
 ·cases h2:k==4
  ·cases h3:k==6
   ·cases h4:k==5
    ·cases h5:k==7
     ·exact ⟨-1,(by (simp only [argN, *];rfl)),wk At.syntax_arguments [sb h1,sb h2,sb h3,sb h4,sb h5] kr⟩
     ·exact ⟨3,(by (simp only [argN, *];rfl)),wk At.syntax_arguments [sb h1,sb h2,sb h3,sb h4,sb h5] kr⟩
    ·exact ⟨2,(by (simp only [argN, *];rfl)),wk At.syntax_arguments [sb h1,sb h2,sb h3,sb h4] kr⟩
   ·exact ⟨1,(by (simp only [argN, *];rfl)),wk At.syntax_arguments [sb h1,sb h2,sb h3] kr⟩
  ·exact ⟨1,(by (simp only [argN, *];rfl)),wk At.syntax_arguments [sb h1,sb h2] kr⟩
 ·exact ⟨1,(by (simp only [argN, *];rfl)),wk At.syntax_arguments [sb h1] kr⟩
theorem zbO (k:Int):zaa E0 S.syntax_arguments [iv k] [] (iv (argN k)) []:=by
 obtain ⟨r,rfl,h⟩:=zkR k
 exact h
theorem zhW (e:X) (b:Bool) (h:zaa E0 S.syntax_ValidExpr [e.av] [] (bv b) []):∃ (r:Bool),r=!b∧zaa E0 S.syntax_validExprs_c1 [e.av] [] (bv r) []:=by
 exact ⟨!b,(by rfl),wk At.syntax_validExprs_c1 [sc h] kr⟩
theorem zhP (e:X) (b:Bool) (h:zaa E0 S.syntax_ValidExpr [e.av] [] (bv b) []):zaa E0 S.syntax_validExprs_c1 [e.av] [] (bv (!b)) []:=by
 obtain ⟨r,rfl,h⟩:=zhW e b h
 exact h
theorem notT {b:Bool} (h:(!b)=false):b=true:=by simpa using h
theorem notF {b:Bool} (h:(!b)=true):b=false:=by simpa using h
noncomputable def zr6 (l:List X) (f:X→Bool) (i:Nat) :Cfg:=zal B.slices_IndexFunc_Expr_199 0 [(0,xsl l),(1,.fn S.syntax_validExprs_c1 []),(7,iv ((zad l).length:Nat)),(8,iv (i:Nat))] []
theorem zdt (l:List X) (f:X→Bool) (hl:zac l) (hf:∀ x∈l,Pure S.syntax_ValidExpr [x.av] (bv (f x))) (i:Nat)  (hi:i≤(l).length) (hI:(l.take i).all f=true):(((l.take (l).length).all f=true)∧(decide ((((l).length:Nat):Int) < (((zad l).length:Nat):Int))=false)∧∀ R,Good E0 B.slices_IndexFunc_Expr_199 [] (zr6 l f (l).length ) R→Good E0 B.slices_IndexFunc_Expr_199 [] (zr6 l f i ) R)∨(∃ (r:Int),(decide (0≤r)=true∧l.all f=false)∧Good E0 B.slices_IndexFunc_Expr_199 [] (zr6 l f i ) (Shut 0 fun rZ hZ=>rZ=(iv r)∧hZ=[])):=by
 obtain ⟨kk,hk⟩:∃ kk,i+kk=(l).length:=⟨(l).length - i,by omega⟩
 induction kk generalizing i  with
 | zero =>
  have e0:i=(l).length:=by omega
  subst e0
  exact .inl ⟨hI,by simp,fun R hg=>hg⟩
 | succ kk ih =>
  obtain ⟨x,hx⟩:=zav (l:=l) (i:=i) (by omega)
  have h0:decide (((i:Nat):Int) < (((zad l).length:Nat):Int))=true:=by simp;omega
  have hw:IntKind.i64.wrap (((i:Nat):Int)+1)=((i+1:Nat):Int):=zak i (by first|omega|(simp only [zac,Few] at *;omega))
  have hfx:=zhP x (f x) (hf x (List.mem_of_getElem? hx))
  cases h1:!f x
  ·exact (ih (i+1) (by omega) (by exact zk2 hI hx (notT (by assumption))) (by omega)).elim (fun ⟨qZ,xZ,gZ⟩=>.inl ⟨qZ,xZ,fun R hg=>zab (wkl [sb h0,se (zcC hx),sc hfx,sb h1,si hw] [0,1,7,8] 0 kr (gZ R hg))⟩) (fun ⟨rY,pZ,gZ⟩=>.inr ⟨rY,pZ,zab (wkl [sb h0,se (zcC hx),sc hfx,sb h1,si hw] [0,1,7,8] 0 kr gZ)⟩)
  ·exact .inr ⟨(i:Int),(by exact ⟨by simp,zmq hx (notF (by assumption))⟩),zab (wkr [sb h0,se (zcC hx),sc hfx,sb h1] kr)⟩
theorem c_ixE (l:List X) (f:X→Bool) (hl:zac l) (hf:∀ x∈l,Pure S.syntax_ValidExpr [x.av] (bv (f x))):∃ (r:Int),decide (0≤r)=!l.all f∧zaa E0 S.slices_IndexFunc_Expr_199 [xsl l,.fn S.syntax_validExprs_c1 []] [] (iv r) []:=by
 rcases zdt l f (by first|assumption|omega|(simp;done)|(simp;omega)) hf 0 (by first|assumption|omega|(simp;done)|(simp;omega)) (by first|assumption|omega|(simp;done)|(simp;omega)) with ⟨q1,q1_1,g1⟩|⟨r1_0,p1_0,g1⟩
 ·exact ⟨-1,(by first|(have h:=(by assumption:List.all (List.take _ _) _=true);rw [List.take_length] at h;rw [h];rfl)|(have h:=(by assumption:_∧List.all _ _=false);rw [h.1,h.2];rfl)),wkc At.slices_IndexFunc_Expr_199 [] [0,1,7,8] 0 kr (g1 _ (zab (wkr [sb q1_1] kr)))⟩
 ·exact ⟨r1_0,(by first|(have h:=(by assumption:List.all (List.take _ _) _=true);rw [List.take_length] at h;rw [h];rfl)|(have h:=(by assumption:_∧List.all _ _=false);rw [h.1,h.2];rfl)),wkc At.slices_IndexFunc_Expr_199 [] [0,1,7,8] 0 kr (g1)⟩
theorem c_cfE (l:List X) (f:X→Bool) (hi:∃ r:Int,decide (0≤r)=(!l.all f)∧zaa E0 S.slices_IndexFunc_Expr_199 [xsl l,.fn S.syntax_validExprs_c1 []] [] (iv r) []):∃ (r:Bool),r=!l.all f∧zaa E0 S.slices_ContainsFunc_Expr_175 [xsl l,.fn S.syntax_validExprs_c1 []] [] (bv r) []:=by
 obtain ⟨r1,q1,c1⟩:=hi
 exact ⟨decide ((0:Int)≤r1),(by assumption),wk At.slices_ContainsFunc_Expr_175 [sc c1] kr⟩
theorem c_vxs (l:List X) (f:X→Bool) (hc:zaa E0 S.slices_ContainsFunc_Expr_175 [xsl l,.fn S.syntax_validExprs_c1 []] [] (bv (!l.all f)) []):∃ (r:Bool),r=l.all f∧zaa E0 S.syntax_validExprs [xsl l] [] (bv r) []:=by
 exact ⟨!!l.all f,(by first|rfl|(simp;done)),wk At.syntax_validExprs [sc hc] kr⟩
theorem zeY (l:List X) (f:X→Bool) (hl:zac l) (hf:∀ x∈l,Pure S.syntax_ValidExpr [x.av] (bv (f x))):zaa E0 S.syntax_validExprs [xsl l] [] (bv (l.all f)) []:=by
 obtain ⟨r,rfl,h⟩:=c_cfE l f (c_ixE l f hl hf)
 obtain ⟨r,rfl,h⟩:=c_vxs l f h
 exact h
def zqx (f:X→Bool) (k8 k9:Bool) (q:Qy):Bool:=(q.star==k8)&&(((zad q.items).length:Int)==bif k8 || k9 then 0 else 1)&&zeC q.frm&&decide (((zad q.wh).length:Int)≤1)&&q.items.all f&&q.wh.all f
def zdg (f:X→Bool) (e:X):Bool:=match e.sub with
 | [q]=>zqx f (e.kind==8) (e.kind==9) q
 | _=>false
theorem zvR {f:X→Bool} {e:X} (h:(((zag e.sub).length:Int) != 1)=true):zdg f e=false:=by
 unfold zdg
 split
 ·rename_i h2;rw [h2] at h;simp at h
 ·rfl
theorem zuV {f:X→Bool} {e:X} {q:Qy} (h:(((zag e.sub).length:Int) != 1)=false) (h2:e.sub[0]?=some q):zdg f e=zqx f (e.kind==8) (e.kind==9) q:=by
 have h3:e.sub=[q]:=by
  cases hs:e.sub with
  | nil=>rw [hs] at h2;simp at h2
  | cons a r =>
   rw [hs] at h2 h;simp at h2;subst h2
   cases r with
   | nil=>rfl
   | cons b r=>simp at h;omega
 unfold zdg;rw [h3]
theorem znA (e:X) (f:X→Bool) (hq:∀ q∈e.sub,zaa E0 S.syntax_validExprs [xsl q.items] [] (bv (q.items.all f)) []) (hq2:∀ q∈e.sub,zaa E0 S.syntax_validExprs [xsl q.wh] [] (bv (q.wh.all f)) []):∃ (r:Bool),r=zdg f e∧zaa E0 S.syntax_inner [e.av] [] (bv r) []:=by
 cases h1:(↑(zag e.sub).length:Int) != 1
 ·obtain ⟨x2,e2⟩:=zav (l:=e.sub) (i:=0) zfP
  cases h3:e.kind==8
  ·cases h4:e.kind==9
   ·cases h5:x2.star==(e.kind==8)
    ·exact ⟨false,zcs,wk At.syntax_inner [sb h1,se (zaV e2),sg h3,sb h4,sb h5] kr⟩
    ·cases h6:(↑(zad x2.items).length:Int)==1
     ·exact ⟨false,zcs,wk At.syntax_inner [sb h1,se (zaV e2),sg h3,sb h4,sg h5,sb h6] kr⟩
     ·cases h7:zeC x2.frm
      ·exact ⟨false,zcs,wk At.syntax_inner [sb h1,se (zaV e2),sg h3,sb h4,sg h5,sg h6,sc (zaQ x2.frm),sb h7] kr⟩
      ·cases h8:decide ((↑(zad x2.wh).length:Int)≤1)
       ·exact ⟨false,zcs,wk At.syntax_inner [sb h1,se (zaV e2),sg h3,sb h4,sg h5,sg h6,sc (zaQ x2.frm),sg h7,sb h8] kr⟩
       ·cases h9:x2.items.all f
        ·exact ⟨false,zcs,wk At.syntax_inner [sb h1,se (zaV e2),sg h3,sb h4,sg h5,sg h6,sc (zaQ x2.frm),sg h7,sg h8,sc (hq x2 zfP),sb h9] kr⟩
        ·exact ⟨x2.wh.all f,zcs,wk At.syntax_inner [sb h1,se (zaV e2),sg h3,sb h4,sg h5,sg h6,sc (zaQ x2.frm),sg h7,sg h8,sc (hq x2 zfP),sg h9,sc (hq2 x2 zfP)] kr⟩
   ·cases h10:x2.star==(e.kind==8)
    ·exact ⟨false,zcs,wk At.syntax_inner [sb h1,se (zaV e2),sg h3,sb h4,sb h10] kr⟩
    ·cases h11:(↑(zad x2.items).length:Int)==0
     ·exact ⟨false,zcs,wk At.syntax_inner [sb h1,se (zaV e2),sg h3,sb h4,sg h10,sb h11] kr⟩
     ·cases h12:zeC x2.frm
      ·exact ⟨false,zcs,wk At.syntax_inner [sb h1,se (zaV e2),sg h3,sb h4,sg h10,sg h11,sc (zaQ x2.frm),sb h12] kr⟩
      ·cases h13:decide ((↑(zad x2.wh).length:Int)≤1)
       ·exact ⟨false,zcs,wk At.syntax_inner [sb h1,se (zaV e2),sg h3,sb h4,sg h10,sg h11,sc (zaQ x2.frm),sg h12,sb h13] kr⟩
       ·cases h14:x2.items.all f
        ·exact ⟨false,zcs,wk At.syntax_inner [sb h1,se (zaV e2),sg h3,sb h4,sg h10,sg h11,sc (zaQ x2.frm),sg h12,sg h13,sc (hq x2 zfP),sb h14] kr⟩
        ·exact ⟨x2.wh.all f,zcs,wk At.syntax_inner [sb h1,se (zaV e2),sg h3,sb h4,sg h10,sg h11,sc (zaQ x2.frm),sg h12,sg h13,sc (hq x2 zfP),sg h14,sc (hq2 x2 zfP)] kr⟩
  ·cases h15:x2.star==(e.kind==8)
   ·exact ⟨false,zcs,wk At.syntax_inner [sb h1,se (zaV e2),sb h3,sb h15] kr⟩
   ·cases h16:(↑(zad x2.items).length:Int)==0
    ·exact ⟨false,zcs,wk At.syntax_inner [sb h1,se (zaV e2),sb h3,sg h15,sb h16] kr⟩
    ·cases h17:zeC x2.frm
     ·exact ⟨false,zcs,wk At.syntax_inner [sb h1,se (zaV e2),sb h3,sg h15,sg h16,sc (zaQ x2.frm),sb h17] kr⟩
     ·cases h18:decide ((↑(zad x2.wh).length:Int)≤1)
      ·exact ⟨false,zcs,wk At.syntax_inner [sb h1,se (zaV e2),sb h3,sg h15,sg h16,sc (zaQ x2.frm),sg h17,sb h18] kr⟩
      ·cases h19:x2.items.all f
       ·exact ⟨false,zcs,wk At.syntax_inner [sb h1,se (zaV e2),sb h3,sg h15,sg h16,sc (zaQ x2.frm),sg h17,sg h18,sc (hq x2 zfP),sb h19] kr⟩
       ·exact ⟨x2.wh.all f,zcs,wk At.syntax_inner [sb h1,se (zaV e2),sb h3,sg h15,sg h16,sc (zaQ x2.frm),sg h17,sg h18,sc (hq x2 zfP),sg h19,sc (hq2 x2 zfP)] kr⟩
 ·exact ⟨false,zcs,wk At.syntax_inner [sb h1] kr⟩
end Go.AM
namespace Go.AM
set_option maxRecDepth 100000
set_option maxHeartbeats 1000000
set_option linter.unusedSimpArgs false
set_option linter.unusedVariables false
theorem zbG {p:Prop} (h:p:=by (clear hva hin;simp only [vXF,zo1,cond_true,cond_false,Bool.or_true,Bool.or_false,Bool.true_or,Bool.false_or,Bool.or_self, *])):p:=h
def zo1 (f:X→Bool) (e:X):Bool:=bif ((zad e.args).length:Int)==argN e.kind then e.args.all f else false
def vXF (f:X→Bool) (e:X):Bool :=
 bif e.kind==1 then (bif zcE e 4 then (bif zcD e.val then !(bif e.val.kind==1 then decide (e.val.int < 0) else false) else false) else false)
 else bif e.kind==2 then (bif zcE e 8 then zmV e else false)
 else bif e.kind==8 || e.kind==9 || e.kind==10 || e.kind==11 || e.kind==12 then (bif zcE e 32 then zdg f e else false)
 else bif e.kind==5 then (bif decide (e.op < 1) then false else bif decide (13 < e.op) then false else bif !zcE e 17 then false else zo1 f e)
 else bif e.kind==6 then (bif !zcE e 18 then false else zo1 f e)
 else bif !zcE e 16 then false else zo1 f e
theorem zkH (e:X) (f:X→Bool) (hs:e.val.small) (hva:zaa E0 S.syntax_validExprs [xsl e.args] [] (bv (e.args.all f)) []) (hin:zaa E0 S.syntax_inner [e.av] [] (bv (zdg f e)) []):∃ (r:Bool),r=vXF f e∧zaa E0 S.syntax_ValidExpr [e.av] [] (bv r) []:=by
 cases h1:e.kind==1
 ·cases h2:e.kind==2
  ·cases h3:e.kind==8
   ·cases h4:e.kind==9
    ·cases h5:e.kind==10
     ·cases h6:e.kind==11
      ·cases h7:e.kind==12
       ·cases h8:e.kind==5
        ·cases h9:e.kind==6
         ·cases h10:!zcE e 16
          ·cases h11:(↑(zad e.args).length:Int)==argN e.kind
           ·exact ⟨false,zbG,wk At.syntax_ValidExpr [sb h1,sb h2,sb h3,sb h4,sb h5,sb h6,sb h7,sb h8,sb h9,sc (zaz e 16),sb h10,sd [(5,[sc (zbO e.kind)]),(8,[sb h11]),(9,[sb h11]),(10,[sb h11]),(11,[sb h11])]] kr⟩
           ·exact ⟨bif (↑(zad e.args).length:Int)==argN e.kind then e.args.all f else false,zbG,wk At.syntax_ValidExpr [sb h1,sb h2,sb h3,sb h4,sb h5,sb h6,sb h7,sb h8,sb h9,sc (zaz e 16),sb h10,sd [(5,[sc (zbO e.kind)]),(8,[sg h11]),(9,[sg h11]),(10,[so h11 (sc hva)])]] kr⟩
          ·exact ⟨false,zbG,wk At.syntax_ValidExpr [sb h1,sb h2,sb h3,sb h4,sb h5,sb h6,sb h7,sb h8,sb h9,sc (zaz e 16),sb h10] kr⟩
         ·cases h12:!zcE e 18
          ·cases h13:(↑(zad e.args).length:Int)==argN e.kind
           ·exact ⟨false,zbG,wk At.syntax_ValidExpr [sb h1,sb h2,sb h3,sb h4,sb h5,sb h6,sb h7,sb h8,sb h9,sc (zaz e 18),sb h12,sd [(5,[sc (zbO e.kind)]),(8,[sb h13]),(9,[sb h13]),(10,[sb h13]),(11,[sb h13])]] kr⟩
           ·exact ⟨bif (↑(zad e.args).length:Int)==argN e.kind then e.args.all f else false,zbG,wk At.syntax_ValidExpr [sb h1,sb h2,sb h3,sb h4,sb h5,sb h6,sb h7,sb h8,sb h9,sc (zaz e 18),sb h12,sd [(5,[sc (zbO e.kind)]),(8,[sg h13]),(9,[sg h13]),(10,[so h13 (sc hva)])]] kr⟩
          ·exact ⟨false,zbG,wk At.syntax_ValidExpr [sb h1,sb h2,sb h3,sb h4,sb h5,sb h6,sb h7,sb h8,sb h9,sc (zaz e 18),sb h12] kr⟩
        ·cases h14:decide (e.op < 1)
         ·cases h15:decide (13 < e.op)
          ·cases h16:!zcE e 17
           ·cases h17:(↑(zad e.args).length:Int)==argN e.kind
            ·exact ⟨false,zbG,wk At.syntax_ValidExpr [sb h1,sb h2,sb h3,sb h4,sb h5,sb h6,sb h7,sb h8,sg h14,sg h15,sc (zaz e 17),sb h16,sd [(5,[sc (zbO e.kind)]),(8,[sb h17]),(9,[sb h17]),(10,[sb h17]),(11,[sb h17])]] kr⟩
            ·exact ⟨bif (↑(zad e.args).length:Int)==argN e.kind then e.args.all f else false,zbG,wk At.syntax_ValidExpr [sb h1,sb h2,sb h3,sb h4,sb h5,sb h6,sb h7,sb h8,sg h14,sg h15,sc (zaz e 17),sb h16,sd [(5,[sc (zbO e.kind)]),(8,[sg h17]),(9,[sg h17]),(10,[so h17 (sc hva)])]] kr⟩
           ·exact ⟨false,zbG,wk At.syntax_ValidExpr [sb h1,sb h2,sb h3,sb h4,sb h5,sb h6,sb h7,sb h8,sg h14,sg h15,sc (zaz e 17),sb h16] kr⟩
          ·exact ⟨false,zbG,wk At.syntax_ValidExpr [sb h1,sb h2,sb h3,sb h4,sb h5,sb h6,sb h7,sb h8,sg h14,sb h15] kr⟩
         ·exact ⟨false,zbG,wk At.syntax_ValidExpr [sb h1,sb h2,sb h3,sb h4,sb h5,sb h6,sb h7,sb h8,sb h14] kr⟩
       ·cases h18:zcE e 32
        ·exact ⟨false,zbG,wk At.syntax_ValidExpr [sb h1,sb h2,sb h3,sb h4,sb h5,sb h6,sb h7,sc (zaz e 32),sb h18] kr⟩
        ·exact ⟨zdg f e,zbG,wk At.syntax_ValidExpr [sb h1,sb h2,sb h3,sb h4,sb h5,sb h6,sb h7,sc (zaz e 32),sg h18,sc hin] kr⟩
      ·cases h19:zcE e 32
       ·exact ⟨false,zbG,wk At.syntax_ValidExpr [sb h1,sb h2,sb h3,sb h4,sb h5,sb h6,sc (zaz e 32),sb h19] kr⟩
       ·exact ⟨zdg f e,zbG,wk At.syntax_ValidExpr [sb h1,sb h2,sb h3,sb h4,sb h5,sb h6,sc (zaz e 32),sg h19,sc hin] kr⟩
     ·cases h20:zcE e 32
      ·exact ⟨false,zbG,wk At.syntax_ValidExpr [sb h1,sb h2,sb h3,sb h4,sb h5,sc (zaz e 32),sb h20] kr⟩
      ·exact ⟨zdg f e,zbG,wk At.syntax_ValidExpr [sb h1,sb h2,sb h3,sb h4,sb h5,sc (zaz e 32),sg h20,sc hin] kr⟩
    ·cases h21:zcE e 32
     ·exact ⟨false,zbG,wk At.syntax_ValidExpr [sb h1,sb h2,sb h3,sb h4,sc (zaz e 32),sb h21] kr⟩
     ·exact ⟨zdg f e,zbG,wk At.syntax_ValidExpr [sb h1,sb h2,sb h3,sb h4,sc (zaz e 32),sg h21,sc hin] kr⟩
   ·cases h22:zcE e 32
    ·exact ⟨false,zbG,wk At.syntax_ValidExpr [sb h1,sb h2,sb h3,sc (zaz e 32),sb h22] kr⟩
    ·exact ⟨zdg f e,zbG,wk At.syntax_ValidExpr [sb h1,sb h2,sb h3,sc (zaz e 32),sg h22,sc hin] kr⟩
  ·cases h23:zcE e 8
   ·exact ⟨false,zbG,wk At.syntax_ValidExpr [sb h1,sb h2,sc (zaz e 8),sb h23] kr⟩
   ·exact ⟨zmV e,zbG,wk At.syntax_ValidExpr [sb h1,sb h2,sc (zaz e 8),sg h23,sc (zm6 e)] kr⟩
 ·cases h24:zcE e 4
  ·exact ⟨false,zbG,wk At.syntax_ValidExpr [sb h1,sc (zaz e 4),sb h24] kr⟩
  ·cases h25:zcD e.val
   ·exact ⟨false,zbG,wk At.syntax_ValidExpr [sb h1,sc (zaz e 4),sg h24,sc (zcr e.val (by first|assumption|omega|(simp;done)|(simp;omega))),sb h25] kr⟩
   ·cases h26:e.val.kind==1
    ·exact ⟨!false,zbG,wk At.syntax_ValidExpr [sb h1,sc (zaz e 4),sg h24,sc (zcr e.val (by first|assumption|omega|(simp;done)|(simp;omega))),sg h25,sb h26] kr⟩
    ·exact ⟨!decide (e.val.int < (0:Int)),zbG,wk At.syntax_ValidExpr [sb h1,sc (zaz e 4),sg h24,sc (zcr e.val (by first|assumption|omega|(simp;done)|(simp;omega))),sg h25,sg h26] kr⟩
def vX:Nat→X→Bool
 | 0,_=>false
 | n+1,e=>vXF (vX n) e
theorem zck:∀ (n:Nat) (e:X),XOk n e→Pure S.syntax_ValidExpr [e.av] (bv (vX n e))
 | 0,_,h=>h.elim
 | n+1,e,⟨hg,ha,hx,hs⟩=>by
  obtain ⟨r,rfl,h⟩:=znA e (vX n) (fun q hq=>zeY _ _ (Thin.short (hs q hq).1.1) fun x h'=>zck n x ((hs q hq).2.1 x h')) (fun q hq=>zeY _ _ (Thin.short (hs q hq).1.2) fun x h'=>zck n x ((hs q hq).2.2 x h'))
  obtain ⟨r,rfl,h⟩:=zkH e (vX n) hg.small (zeY _ _ (Thin.short ha.1) fun x h'=>zck n x (hx x h')) h
  exact h
theorem zgE {n:Nat} {l:List X} (hf:zac l) (h:∀ x∈l,XOk n x):zaa E0 S.syntax_validExprs [xsl l] [] (bv (l.all (vX n))) []:=zeY l _ hf fun x hx=>zck n x (h x hx)
def zdr (f:X→Bool) (l:List X):Bool:=bif decide (((zad l).length:Int)≤1) then l.all f else false
theorem zkG (l:List X) (f:X→Bool) (h:zaa E0 S.syntax_validExprs [xsl l] [] (bv (l.all f)) []):∃ (r:Bool),r=zdr f l∧zaa E0 S.syntax_condition [xsl l] [] (bv r) []:=by
 cases h1:decide ((↑(zad l).length:Int)≤1)
 ·exact ⟨false,(by (clear h;simp only [zdr,cond_true,cond_false, *])),wk At.syntax_condition [sb h1] kr⟩
 ·exact ⟨l.all f,(by (clear h;simp only [zdr,cond_true,cond_false, *])),wk At.syntax_condition [sg h1,sc h] kr⟩
theorem zfQ {n:Nat} {l:List X} (hf:zac l) (h:∀ x∈l,XOk n x):zaa E0 S.syntax_condition [xsl l] [] (bv (zdr (vX n) l)) []:=by
 obtain ⟨r,rfl,h⟩:=zkG l (vX n) (zgE hf h)
 exact h
end Go.AM
namespace Go.AM
set_option maxRecDepth 100000
set_option maxHeartbeats 1000000
set_option linter.unusedSimpArgs false
set_option linter.unusedVariables false
theorem zta {p:Prop} (h:p:=by first|(have h:=nm_end (by assumption);unfold zhc;rw [h,show decide (8 < ((List.map zaX l).length:Int))=false by assumption];rfl)|(have h:=‹_∧nmL [] _=false›;unfold zhc;rw [h.1,h.2];cases decide (8 < ((List.map zaX l).length:Int)) <;> rfl)|(unfold zhc;rw [show decide (8 < ((List.map zaX l).length:Int))=true by assumption];rfl)):p:=h
theorem zpb {p:Prop} (h:p:=by first|assumption|omega|(simp;done)|exact ⟨by simp,by simp⟩|(have h9:=And.left ‹_=List.map Se.col _∧List.all _ _=true›;rw [h9];simp only [zac,List.length_map,List.length_take] at *;omega)):p:=h
theorem zk3 {p:Prop} (h:p:=by first|assumption|omega|(simp;done)|(simp;omega)):p:=h
theorem zm0 {p:Prop} (h:p:=by (clear ha hb;simp only [qyB,cond_true,cond_false, *])):p:=h
def qyB (f:X→Bool) (q:Qy):Bool:=bif !(q.star==(((zad q.items).length:Int)==0)) then false else bif decide (8 < ((zad q.items).length:Int)) then false else bif zeC q.frm then (bif q.items.all f then zdr f q.wh else false) else false
theorem zjE (q:Qy) (f:X→Bool) (ha:zaa E0 S.syntax_validExprs [xsl q.items] [] (bv (q.items.all f)) []) (hb:zaa E0 S.syntax_condition [xsl q.wh] [] (bv (zdr f q.wh)) []):∃ (r:Bool),r=qyB f q∧zaa E0 S.syntax_ValidQuery [q.av] [] (bv r) []:=by
 cases h1:!q.star==((↑(zad q.items).length:Int)==0)
 ·cases h2:decide (8 < (↑(zad q.items).length:Int))
  ·cases h3:zeC q.frm
   ·exact ⟨false,zm0,wk At.syntax_ValidQuery [sg h1,sb h2,sc (zaQ q.frm),sb h3] kr⟩
   ·cases h4:q.items.all f
    ·exact ⟨false,zm0,wk At.syntax_ValidQuery [sg h1,sb h2,sc (zaQ q.frm),sg h3,sc ha,sb h4] kr⟩
    ·exact ⟨zdr f q.wh,zm0,wk At.syntax_ValidQuery [sg h1,sb h2,sc (zaQ q.frm),sg h3,sc ha,sg h4,sc hb] kr⟩
  ·exact ⟨false,zm0,wk At.syntax_ValidQuery [sg h1,sb h2] kr⟩
 ·exact ⟨false,zm0,wk At.syntax_ValidQuery [sb h1] kr⟩
theorem zjD {n:Nat} {q:Qy} (h:QW n q):zaa E0 S.syntax_ValidQuery [q.av] [] (bv (qyB (vX n) q)) []:=by
 obtain ⟨r,rfl,h⟩:=zjE q (vX n) (zgE (zaP h.items) h.hi) (zfQ (zaP h.wh) h.hw)
 exact h
def zcy (f:X→Bool) (l:List X):Bool:=bif decide (((zad l).length:Int) < 1) then true else bif decide (6 < ((zad l).length:Int)) then true else !l.all f
theorem zib (l:List X) (f:X→Bool) (ha:zaa E0 S.syntax_validExprs [xsl l] [] (bv (l.all f)) []):∃ (r:Bool),r=zcy f l∧zaa E0 S.syntax_validRows_c1 [xsl l] [] (bv r) []:=by
 cases h1:decide ((↑(zad l).length:Int) < 1)
 ·cases h2:decide (6 < (↑(zad l).length:Int))
  ·exact ⟨!l.all f,(by (clear ha;simp only [zcy,cond_true,cond_false, *])),wk At.syntax_validRows_c1 [sg h1,sg h2,sc ha] kr⟩
  ·exact ⟨true,(by (clear ha;simp only [zcy,cond_true,cond_false, *])),wk At.syntax_validRows_c1 [sg h1,sb h2] kr⟩
 ·exact ⟨true,(by (clear ha;simp only [zcy,cond_true,cond_false, *])),wk At.syntax_validRows_c1 [sb h1] kr⟩
theorem znt {n:Nat} {l:List X} (hl:zac l) (h:∀ x∈l,XOk n x):zaa E0 S.syntax_validRows_c1 [xsl l] [] (bv (zcy (vX n) l)) []:=by
 obtain ⟨r,rfl,h⟩:=zib l (vX n) (zgE hl h)
 exact h
noncomputable def zsZ (l:List (List X)) (f:X→Bool) (i:Nat) :Cfg:=zal B.slices_IndexFunc_Expr 0 [(0,.sl (l.map zaE)),(1,.fn S.syntax_validRows_c1 []),(7,iv ((l.map zaE).length:Nat)),(8,iv (i:Nat))] []
theorem zd3 (l:List (List X)) (f:X→Bool) (hl:zac l) (hf:∀ x∈l,Pure S.syntax_validRows_c1 [xsl x] (bv (zcy f x))) (i:Nat)  (hi:i≤(l).length) (hI:(l.take i).all (fun r=>!zcy f r)=true):(((l.take (l).length).all (fun r=>!zcy f r)=true)∧(decide ((((l).length:Nat):Int) < (((l.map zaE).length:Nat):Int))=false)∧∀ R,Good E0 B.slices_IndexFunc_Expr [] (zsZ l f (l).length ) R→Good E0 B.slices_IndexFunc_Expr [] (zsZ l f i ) R)∨(∃ (r:Int),(decide (0≤r)=true∧l.all (fun r=>!zcy f r)=false)∧Good E0 B.slices_IndexFunc_Expr [] (zsZ l f i ) (Shut 0 fun rZ hZ=>rZ=(iv r)∧hZ=[])):=by
 obtain ⟨kk,hk⟩:∃ kk,i+kk=(l).length:=⟨(l).length - i,by omega⟩
 induction kk generalizing i  with
 | zero =>
  have e0:i=(l).length:=by omega
  subst e0
  exact .inl ⟨hI,by simp,fun R hg=>hg⟩
 | succ kk ih =>
  obtain ⟨x,hx⟩:=zav (l:=l) (i:=i) (by omega)
  have h0:decide (((i:Nat):Int) < (((l.map zaE).length:Nat):Int))=true:=by simp;omega
  have hw:IntKind.i64.wrap (((i:Nat):Int)+1)=((i+1:Nat):Int):=zak i (by first|omega|(simp only [zac,Few] at *;omega))
  have hfx:=hf x (List.mem_of_getElem? hx)
  let p_1:List St:=[sb h0,se (zaf zaE hx rfl),sc hfx]
  cases h1:zcy f x
  ·exact (ih (i+1) (by omega) (by exact zk2 hI hx (by simp only [*];rfl)) (by omega)).elim (fun ⟨qZ,xZ,gZ⟩=>.inl ⟨qZ,xZ,fun R hg=>zab (wkl (p_1++[sb h1,si hw]) [0,1,7,8] 0 kr (gZ R hg))⟩) (fun ⟨rY,pZ,gZ⟩=>.inr ⟨rY,pZ,zab (wkl [sb h0,se (zaf zaE hx rfl),sc hfx,sb h1,si hw] [0,1,7,8] 0 kr gZ)⟩)
  ·exact .inr ⟨(i:Int),(by exact ⟨by simp,zmq hx (by simp only [*];rfl)⟩),zab (wkr (p_1++[sb h1]) kr)⟩
theorem c_ixR (l:List (List X)) (f:X→Bool) (hl:zac l) (hf:∀ x∈l,Pure S.syntax_validRows_c1 [xsl x] (bv (zcy f x))):∃ (r:Int),decide (0≤r)=!l.all (fun r=>!zcy f r)∧zaa E0 S.slices_IndexFunc_Expr [.sl (l.map zaE),.fn S.syntax_validRows_c1 []] [] (iv r) []:=by
 rcases zd3 l f zk3 hf 0 zk3 zk3 with ⟨q1,q1_1,g1⟩|⟨r1_0,p1_0,g1⟩
 ·exact ⟨-1,(by first|(have h:=(by assumption:List.all (List.take _ _) _=true);rw [List.take_length] at h;rw [h];rfl)|(have h:=(by assumption:_∧List.all _ _=false);rw [h.1,h.2];rfl)),wkc At.slices_IndexFunc_Expr [] [0,1,7,8] 0 kr (g1 _ (zab (wkr [sb q1_1] kr)))⟩
 ·exact ⟨r1_0,(by first|(have h:=(by assumption:List.all (List.take _ _) _=true);rw [List.take_length] at h;rw [h];rfl)|(have h:=(by assumption:_∧List.all _ _=false);rw [h.1,h.2];rfl)),wkc At.slices_IndexFunc_Expr [] [0,1,7,8] 0 kr (g1)⟩
theorem c_cfR (l:List (List X)) (b:Bool) (hi:∃ r:Int,decide (0≤r)=b∧zaa E0 S.slices_IndexFunc_Expr [.sl (l.map zaE),.fn S.syntax_validRows_c1 []] [] (iv r) []):∃ (r:Bool),r=b∧zaa E0 S.slices_ContainsFunc_Expr [.sl (l.map zaE),.fn S.syntax_validRows_c1 []] [] (bv r) []:=by
 obtain ⟨r1,q1,c1⟩:=hi
 exact ⟨decide ((0:Int)≤r1),(by assumption),wk At.slices_ContainsFunc_Expr [sc c1] kr⟩
def zeZ (f:X→Bool) (l:List (List X)):Bool:=bif decide (((l.map zaE).length:Int)≤8) then l.all (fun r=>!zcy f r) else false
theorem zj6 (l:List (List X)) (f:X→Bool) (hi:zaa E0 S.slices_ContainsFunc_Expr [.sl (l.map zaE),.fn S.syntax_validRows_c1 []] [] (bv (!l.all (fun r=>!zcy f r))) []):∃ (r:Bool),r=zeZ f l∧zaa E0 S.syntax_validRows [.sl (l.map zaE)] [] (bv r) []:=by
 cases h1:decide ((↑(List.map zaE l).length:Int)≤8)
 ·exact ⟨false,(by (clear hi;simp only [zeZ,cond_true,cond_false,Bool.not_not, *])),wk At.syntax_validRows [sb h1] kr⟩
 ·exact ⟨!!l.all fun r=>!zcy f r,(by (clear hi;simp only [zeZ,cond_true,cond_false,Bool.not_not, *])),wk At.syntax_validRows [sg h1,sc hi] kr⟩
theorem zj4 {n:Nat} {l:List (List X)} (hl:zac l) (h:∀ r∈l,Few r∧∀ x∈r,XOk n x):zaa E0 S.syntax_validRows [.sl (l.map zaE)] [] (bv (zeZ (vX n) l)) []:=by
 obtain ⟨r,rfl,h⟩:=c_cfR l _ (c_ixR l (vX n) hl fun x hx=>znt (zaP (h x hx).1) (h x hx).2)
 obtain ⟨r,rfl,h⟩:=zj6 l (vX n) h
 exact h
def nmL:List Str→List Str→Bool
 | _,[]=>true
 | pre,s::r=>bif !za7 s then false else bif hasS pre s then false else nmL (pre++[s]) r
def zhc (l:List Str):Bool:=bif decide (8 < ((l.map zaX).length:Int)) then false else nmL [] l
theorem zvU {l:List Str} {i:Nat} {x:Str} (h:nmL [] l=nmL (l.take i) (l.drop i)) (hx:l[i]?=some x) (h1:(!za7 x)=false) (h2:hasS (l.take i) x=false):nmL [] l=nmL (l.take (i+1)) (l.drop (i+1)):=by
 obtain ⟨hi,e⟩:=List.getElem?_eq_some_iff.1 hx
 rw [h,List.drop_eq_getElem_cons hi,e]
 simp only [nmL,h1,h2,cond_false]
 rw [List.take_add_one,hx];rfl
theorem zmR {l:List Str} {i:Nat} {x:Str} (h:nmL [] l=nmL (l.take i) (l.drop i)) (hx:l[i]?=some x) (h1:(!za7 x)=true∨hasS (l.take i) x=true):nmL [] l=false:=by
 obtain ⟨hi,e⟩:=List.getElem?_eq_some_iff.1 hx
 rw [h,List.drop_eq_getElem_cons hi,e]
 rcases h1 with h1|h1
 ·simp only [nmL,h1,cond_true]
 ·simp only [nmL,h1,cond_true];cases !za7 x <;> rfl
theorem nm_end {l:List Str} (h:nmL [] l=nmL (l.take l.length) (l.drop l.length)):nmL [] l=true:=by
 rw [h,List.drop_length];rfl
noncomputable def L_nm (l:List Str) (i:Nat) :Cfg:=zal B.syntax_names 0 [(0,ssl l),(8,ssl l),(9,iv ((l.map zaX).length:Nat)),(10,iv (i:Nat))] []
theorem zhd (l:List Str) (hl:zac l) (i:Nat)  (hi:i≤(l).length) (hI:nmL [] l=nmL (l.take i) (l.drop i)):((nmL [] l=nmL (l.take (l).length) (l.drop (l).length))∧(decide ((((l).length:Nat):Int) < (((l.map zaX).length:Nat):Int))=false)∧∀ R,Good E0 B.syntax_names [] (L_nm l (l).length ) R→Good E0 B.syntax_names [] (L_nm l i ) R)∨(∃ (r:Bool),(r=false∧nmL [] l=false)∧Good E0 B.syntax_names [] (L_nm l i ) (Shut 0 fun rZ hZ=>rZ=(bv r)∧hZ=[])):=by
 obtain ⟨kk,hk⟩:∃ kk,i+kk=(l).length:=⟨(l).length - i,by omega⟩
 induction kk generalizing i  with
 | zero =>
  have e0:i=(l).length:=by omega
  subst e0
  exact .inl ⟨hI,by simp,fun R hg=>hg⟩
 | succ kk ih =>
  obtain ⟨x,hx⟩:=zav (l:=l) (i:=i) (by omega)
  have h0:decide (((i:Nat):Int) < (((l.map zaX).length:Nat):Int))=true:=by simp;omega
  have hw:IntKind.i64.wrap (((i:Nat):Int)+1)=((i+1:Nat):Int):=zak i (by first|omega|(simp only [zac,Few] at *;omega))
  have hc:zaa E0 S.slices_Contains_string [.sl ((l.map zaX).take i),sv x] [] (bv (hasS (l.take i) x)) []:=by
   rw [← List.map_take];exact zdy (l.take i) x (by simp only [zac,List.length_take] at *;omega)
  let p_1:List St:=[sb h0,se (zaf (fun s=>[sv s]) hx rfl),sc (zaj x)]
  cases h1:!za7 x
  ·let p_2:List St:=p_1++[sg h1,sqx (SubAt (List.map (fun s=>[sv s]) l) 0 (i:Int) 1),sc hc]
   cases h2:hasS (List.take i l) x
   ·exact (ih (i+1) (by omega) (by exact zvU hI hx (by assumption) (by assumption)) (by omega)).elim (fun ⟨qZ,xZ,gZ⟩=>.inl ⟨qZ,xZ,fun R hg=>zab (wkl (p_2++[sb h2,si hw]) [0,8,9,10] 0 kr (gZ R hg))⟩) (fun ⟨rY,pZ,gZ⟩=>.inr ⟨rY,pZ,zab (wkl [sb h0,se (zaf (fun s=>[sv s]) hx rfl),sc (zaj x),sg h1,sqx (SubAt (List.map (fun s=>[sv s]) l) 0 (i:Int) 1),sc hc,sb h2,si hw] [0,8,9,10] 0 kr gZ)⟩)
   ·exact .inr ⟨false,(by first|exact ⟨rfl,zmR hI hx (.inl (by assumption))⟩|exact ⟨rfl,zmR hI hx (.inr (by assumption))⟩),zab (wkr (p_2++[sb h2]) kr)⟩
  ·exact .inr ⟨false,(by first|exact ⟨rfl,zmR hI hx (.inl (by assumption))⟩|exact ⟨rfl,zmR hI hx (.inr (by assumption))⟩),zab (wkr (p_1++[sb h1]) kr)⟩
theorem znJ (l:List Str) (hl:zac l):∃ (r:Bool),r=zhc l∧zaa E0 S.syntax_names [ssl l] [] (bv r) []:=by
 cases h1:decide (8 < (↑(List.map (fun s=>[sv s]) l).length:Int))
 ·rcases zhd l zk3 0 zk3 zk3 with ⟨q2,q2_1,g2⟩|⟨r2_0,p2_0,g2⟩
  ·exact ⟨true,zta,wkc At.syntax_names [sb h1] [0,8,9,10] 0 kr (g2 _ (zab (wkr [sb q2_1] kr)))⟩
  ·exact ⟨r2_0,zta,wkc At.syntax_names [sb h1] [0,8,9,10] 0 kr (g2)⟩
 ·exact ⟨false,zta,wk At.syntax_names [sb h1] kr⟩
theorem znB (l:List Str) (hl:zac l):zaa E0 S.syntax_names [ssl l] [] (bv (zhc l)) []:=by
 obtain ⟨r,rfl,h⟩:=znJ l hl
 exact h
def zeD (f:X→Bool) (l:List Se):Bool:=bif l.all (fun s=>f s.ex) then zhc (l.map Se.col) else false
noncomputable def L_vs (l:List Se) (f:X→Bool) (i:Nat) (cs:List Str):Cfg:=zal B.syntax_validSets 0 [(3,.own 0 cs.length),(6,.sl (l.map Se.cells)),(7,iv ((l.map Se.cells).length:Nat)),(8,iv (i:Nat))] [.row Ty.string (cs.map zaX) false]
theorem zf0 (l:List Se) (f:X→Bool) (hl:zac l) (hf:∀ x∈l,Pure S.syntax_ValidExpr [x.ex.av] (bv (f x.ex))) (i:Nat) (cs:List Str) (hi:i≤(l).length) (hI:cs=(l.take i).map Se.col∧(l.take i).all (fun s=>f s.ex)=true):(∃ (cs':List Str),(cs'=(l.take (l).length).map Se.col∧(l.take (l).length).all (fun s=>f s.ex)=true)∧(decide ((((l).length:Nat):Int) < (((l.map Se.cells).length:Nat):Int))=false)∧∀ R,Good E0 B.syntax_validSets [] (L_vs l f (l).length cs') R→Good E0 B.syntax_validSets [] (L_vs l f i cs) R)∨(∃ (r:Bool),(r=false∧l.all (fun s=>f s.ex)=false)∧Good E0 B.syntax_validSets [] (L_vs l f i cs) (Shut 0 fun rZ hZ=>rZ=(bv r)∧hZ=[])):=by
 obtain ⟨kk,hk⟩:∃ kk,i+kk=(l).length:=⟨(l).length - i,by omega⟩
 induction kk generalizing i cs with
 | zero =>
  have e0:i=(l).length:=by omega
  subst e0
  exact .inl ⟨cs,hI,by simp,fun R hg=>hg⟩
 | succ kk ih =>
  obtain ⟨x,hx⟩:=zav (l:=l) (i:=i) (by omega)
  have h0:decide (((i:Nat):Int) < (((l.map Se.cells).length:Nat):Int))=true:=by simp;omega
  have hw:IntKind.i64.wrap (((i:Nat):Int)+1)=((i+1:Nat):Int):=zak i (by first|omega|(simp only [zac,Few] at *;omega))
  have hfx:=hf x (List.mem_of_getElem? hx)
  have hcl:cs.length≤1000000000:=by rw [hI.1];simp only [zac,List.length_map,List.length_take] at *;omega
  let p_1:List St:=[sb h0,se (zaf Se.cells hx rfl),sqx (AllLen [[sv x.col]] 1∧cs.length=(List.map zaX cs).length∧(((List.map zaX cs).length+[[sv x.col]].length) * 16).le 140737488355328),sc hfx]
  cases h1:!f x.ex
  ·exact (ih (i+1) (cs++[x.col]) (by omega) (by exact ⟨by rw [hI.1,List.take_add_one,hx];simp,zk2 hI.2 hx (notT (by assumption))⟩) (by omega)).elim (fun ⟨csZ,qZ,xZ,gZ⟩=>.inl ⟨csZ,qZ,xZ,fun R hg=>zab (wkl (p_1++[sb h1,si hw]) [3,6,7,8] 1 kr (zan (show ([(3,AV.own 0 (List.map zaX cs++[[sv x.col]]).length),(6,AV.sl (List.map Se.cells l)),(7,iv (↑(List.map Se.cells l).length:Int)),(8,iv (↑(i+1):Int))]:TS)=_ by first|rfl|(simp;done)|(simp [X.cells,Qy.cells,V.cells,Col.cells,Rw.cells,Tb.cells,Fr.cells,Sch.cells,Tp.cells,Pl.cells,xCol,xLit,xBin,xNeg,Ac.cells,Se.cells];done)) (show ([Blk.row Ty.string (List.map zaX cs++[[sv x.col]]) false]:Heap)=_ by first|rfl|(simp;done)|(simp [X.cells,Qy.cells,V.cells,Col.cells,Rw.cells,Tb.cells,Fr.cells,Sch.cells,Tp.cells,Pl.cells,xCol,xLit,xBin,xNeg,Ac.cells,Se.cells];done)) (gZ R hg)))⟩) (fun ⟨rY,pZ,gZ⟩=>.inr ⟨rY,pZ,zab (wkl [sb h0,se (zaf Se.cells hx rfl),sqx (AllLen [[sv x.col]] 1∧cs.length=(List.map zaX cs).length∧(((List.map zaX cs).length+[[sv x.col]].length) * 16).le 140737488355328),sc hfx,sb h1,si hw] [3,6,7,8] 1 kr (zan (show ([(3,AV.own 0 (List.map zaX cs++[[sv x.col]]).length),(6,AV.sl (List.map Se.cells l)),(7,iv (↑(List.map Se.cells l).length:Int)),(8,iv (↑(i+1):Int))]:TS)=_ by first|rfl|(simp;done)|(simp [X.cells,Qy.cells,V.cells,Col.cells,Rw.cells,Tb.cells,Fr.cells,Sch.cells,Tp.cells,Pl.cells,xCol,xLit,xBin,xNeg,Ac.cells,Se.cells];done)) (show ([Blk.row Ty.string (List.map zaX cs++[[sv x.col]]) false]:Heap)=_ by first|rfl|(simp;done)|(simp [X.cells,Qy.cells,V.cells,Col.cells,Rw.cells,Tb.cells,Fr.cells,Sch.cells,Tp.cells,Pl.cells,xCol,xLit,xBin,xNeg,Ac.cells,Se.cells];done)) gZ))⟩)
  ·exact .inr ⟨false,(by exact ⟨rfl,zmq hx (notF (by assumption))⟩),zab (wkr (p_1++[sb h1]) kr)⟩
theorem zkr (l:List Se) (f:X→Bool) (hl:zac l) (hf:∀ x∈l,Pure S.syntax_ValidExpr [x.ex.av] (bv (f x.ex))):∃ (r:Bool),r=zeD f l∧zaa E0 S.syntax_validSets [.sl (l.map Se.cells)] [] (bv r) []:=by
 rcases zf0 l f zpb hf 0 ([]) zpb zpb with ⟨cs1,q1,q1_1,g1⟩|⟨r1_0,p1_0,g1⟩
 ·exact ⟨zhc cs1,(by first|(have h:=‹_=List.map Se.col _∧List.all _ _=true›;obtain ⟨h7,h8⟩:=h;rw [List.take_length] at h7 h8;rw [h7];unfold zeD;rw [h8];rfl)|(have h:=‹_∧List.all _ _=false›;unfold zeD;rw [h.1,h.2];rfl)),wkcN At.syntax_validSets [] [3,6,7,8] 0 [(.ot 3 Ty.string,1)] kr (g1 _ (zab (wkr [sb q1_1,skx (cs1.length=(List.map zaX cs1).length∧True) [] (znB cs1 zpb)] kr)))⟩
 ·exact ⟨r1_0,(by first|(have h:=‹_=List.map Se.col _∧List.all _ _=true›;obtain ⟨h7,h8⟩:=h;rw [List.take_length] at h7 h8;rw [h7];unfold zeD;rw [h8];rfl)|(have h:=‹_∧List.all _ _=false›;unfold zeD;rw [h.1,h.2];rfl)),wkcN At.syntax_validSets [] [3,6,7,8] 0 [(.ot 3 Ty.string,1)] kr (g1)⟩
theorem zkq {n:Nat} {l:List Se} (hl:zac l) (h:∀ s∈l,XOk n s.ex):zaa E0 S.syntax_validSets [.sl (l.map Se.cells)] [] (bv (zeD (vX n) l)) []:=by
 obtain ⟨r,rfl,h⟩:=zkr l (vX n) hl fun s hs=>zck n s.ex (h s hs)
 exact h
end Go.AM
namespace Go.AM
set_option maxRecDepth 100000
set_option maxHeartbeats 1000000
set_option linter.unusedSimpArgs false
set_option linter.unusedVariables false
theorem zgo {p:Prop} (h:p:=by (first|rw [← qy0_eq (by assumption)]|skip);(clear hr hs hw hq;simp only [zs2,cond_true,cond_false, *])):p:=h
theorem ziQ {p:Prop} (h:p:=by (clear hr hs hw hq;simp only [zsc,cond_true,cond_false, *])):p:=h
theorem zkZ {p:Prop} (h:p:=by (clear hr hs hw hq;simp only [zth,cond_true,cond_false, *])):p:=h
abbrev zo9 (a:Ac):Bool:=decide (0 < ((a.rows.map zaE).length:Int))
abbrev zsv (a:Ac):Bool:=decide (0 < ((zag a.query).length:Int))
abbrev zsV (a:Ac):Bool:=decide (0 < ((a.sets.map Se.cells).length:Int))
abbrev hasW_ (a:Ac):Bool:=decide (0 < ((zad a.wh).length:Int))
abbrev noT_ (a:Ac):Bool:=a.text.toList==sNo.toList
abbrev eqRQ (a:Ac):Bool:=zo9 a==zsv a
def qy0 (f:X→Bool) (a:Ac):Bool:=match a.query with
 | q::_=>qyB f q
 | []=>false
theorem qy0_eq {f:X→Bool} {a:Ac} {q:Qy} (h:a.query[0]?=some q):qy0 f a=qyB f q:=by
 unfold qy0
 cases hq:a.query with
 | nil=>rw [hq] at h;simp at h
 | cons x r=>rw [hq] at h;simp at h;subst h;rfl
def zs2 (f:X→Bool) (a:Ac):Bool:=bif !za7 a.table then false else bif eqRQ a then false else bif zsV a then false else bif hasW_ a then false else bif !noT_ a then false else bif zeZ f a.rows then (bif zo9 a then true else bif ((zag a.query).length:Int)==1 then qy0 f a else false) else false
def zsc (f:X→Bool) (a:Ac):Bool:=bif za7 a.table then (bif !zo9 a then (bif !zsv a then (bif zsV a then (bif !!noT_ a then (bif zeD f a.sets then zdr f a.wh else false) else false) else false) else false) else false) else false
def zth (f:X→Bool) (a:Ac):Bool:=bif za7 a.table then (bif !zo9 a then (bif !zsv a then (bif !zsV a then (bif !!noT_ a then zdr f a.wh else false) else false) else false) else false) else false
theorem zgP (a:Ac) (f:X→Bool) (hr:zaa E0 S.syntax_validRows [.sl (a.rows.map zaE)] [] (bv (zeZ f a.rows)) []) (hs:zaa E0 S.syntax_validSets [.sl (a.sets.map Se.cells)] [] (bv (zeD f a.sets)) []) (hw:zaa E0 S.syntax_condition [xsl a.wh] [] (bv (zdr f a.wh)) []) (hq:∀ q∈a.query,zaa E0 S.syntax_ValidQuery [q.av] [] (bv (qyB f q)) []):∃ (r:Bool),r=zs2 f a∧zaa E0 S.syntax_ValidAction [.agg (acc 1 a)] [] (bv r) []:=by
 cases h1:!za7 a.table
 ·cases h2:decide (0 < (↑(List.map zaE a.rows).length:Int))==decide (0 < (↑(zag a.query).length:Int))
  ·cases h3:decide (0 < (↑(List.map Se.cells a.sets).length:Int))
   ·cases h4:decide (0 < (↑(zad a.wh).length:Int))
    ·cases h5:!ByteArray.toList a.text==(ByteArray.mk #[]).toList
     ·cases h6:zeZ f a.rows
      ·exact ⟨false,zgo,wk At.syntax_ValidAction [sd [],sc (zaj a.table),sb (rfl:true=true),sg h1,sg h2,sg h3,sg h4,sb h5,sc hr,sb h6] kr⟩
      ·cases h7:decide (0 < (↑(List.map zaE a.rows).length:Int))
       ·cases h8:(↑(zag a.query).length:Int)==1
        ·exact ⟨false,zgo,wk At.syntax_ValidAction [sd [],sc (zaj a.table),sb (rfl:true=true),sg h1,sg h2,sg h3,sg h4,sb h5,sc hr,sg h6,sg h7,sb h8] kr⟩
        ·obtain ⟨x9,e9⟩:=zav (l:=a.query) (i:=0) (by first|assumption|omega|exact List.mem_of_getElem? (by assumption)|(simp only [beq_iff_eq,zef] at *;omega))
         exact ⟨qyB f x9,zgo,wk At.syntax_ValidAction [sd [],sc (zaj a.table),sb (rfl:true=true),sg h1,sg h2,sg h3,sg h4,sb h5,sc hr,sg h6,sg h7,sg h8,se (zaV e9),sc (hq x9 (by first|assumption|omega|exact List.mem_of_getElem? (by assumption)|(simp only [beq_iff_eq,zef] at *;omega)))] kr⟩
       ·exact ⟨true,zgo,wk At.syntax_ValidAction [sd [],sc (zaj a.table),sb (rfl:true=true),sg h1,sg h2,sg h3,sg h4,sb h5,sc hr,sg h6,sb h7] kr⟩
     ·exact ⟨false,zgo,wk At.syntax_ValidAction [sd [],sc (zaj a.table),sb (rfl:true=true),sg h1,sg h2,sg h3,sg h4,sb h5] kr⟩
    ·exact ⟨false,zgo,wk At.syntax_ValidAction [sd [],sc (zaj a.table),sb (rfl:true=true),sg h1,sg h2,sg h3,sb h4] kr⟩
   ·exact ⟨false,zgo,wk At.syntax_ValidAction [sd [],sc (zaj a.table),sb (rfl:true=true),sg h1,sg h2,sb h3] kr⟩
  ·exact ⟨false,zgo,wk At.syntax_ValidAction [sd [],sc (zaj a.table),sb (rfl:true=true),sg h1,sb h2] kr⟩
 ·exact ⟨false,zgo,wk At.syntax_ValidAction [sd [],sc (zaj a.table),sb (rfl:true=true),sb h1] kr⟩
theorem zg9 (a:Ac) (f:X→Bool) (hr:zaa E0 S.syntax_validRows [.sl (a.rows.map zaE)] [] (bv (zeZ f a.rows)) []) (hs:zaa E0 S.syntax_validSets [.sl (a.sets.map Se.cells)] [] (bv (zeD f a.sets)) []) (hw:zaa E0 S.syntax_condition [xsl a.wh] [] (bv (zdr f a.wh)) []) (hq:∀ q∈a.query,zaa E0 S.syntax_ValidQuery [q.av] [] (bv (qyB f q)) []):∃ (r:Bool),r=zsc f a∧zaa E0 S.syntax_ValidAction [.agg (acc 2 a)] [] (bv r) []:=by
 cases h1:za7 a.table
 ·exact ⟨false,ziQ,wk At.syntax_ValidAction [sd [],sc (zaj a.table),sb (rfl:false=false),sb (rfl:true=true),sb h1] kr⟩
 ·cases h2:!decide (0 < (↑(List.map zaE a.rows).length:Int))
  ·exact ⟨false,ziQ,wk At.syntax_ValidAction [sd [],sc (zaj a.table),sb (rfl:false=false),sb (rfl:true=true),sg h1,sb h2] kr⟩
  ·cases h3:!decide (0 < (↑(zag a.query).length:Int))
   ·exact ⟨false,ziQ,wk At.syntax_ValidAction [sd [],sc (zaj a.table),sb (rfl:false=false),sb (rfl:true=true),sg h1,sg h2,sb h3] kr⟩
   ·cases h4:decide (0 < (↑(List.map Se.cells a.sets).length:Int))
    ·exact ⟨false,ziQ,wk At.syntax_ValidAction [sd [],sc (zaj a.table),sb (rfl:false=false),sb (rfl:true=true),sg h1,sg h2,sg h3,sb h4] kr⟩
    ·cases h5:!!ByteArray.toList a.text==(ByteArray.mk #[]).toList
     ·exact ⟨false,ziQ,wk At.syntax_ValidAction [sd [],sc (zaj a.table),sb (rfl:false=false),sb (rfl:true=true),sg h1,sg h2,sg h3,sg h4,sb h5] kr⟩
     ·cases h6:zeD f a.sets
      ·exact ⟨false,ziQ,wk At.syntax_ValidAction [sd [],sc (zaj a.table),sb (rfl:false=false),sb (rfl:true=true),sg h1,sg h2,sg h3,sg h4,sg h5,sc hs,sb h6] kr⟩
      ·exact ⟨zdr f a.wh,ziQ,wk At.syntax_ValidAction [sd [],sc (zaj a.table),sb (rfl:false=false),sb (rfl:true=true),sg h1,sg h2,sg h3,sg h4,sg h5,sc hs,sg h6,sc hw] kr⟩
theorem zg1 (a:Ac) (f:X→Bool) (hr:zaa E0 S.syntax_validRows [.sl (a.rows.map zaE)] [] (bv (zeZ f a.rows)) []) (hs:zaa E0 S.syntax_validSets [.sl (a.sets.map Se.cells)] [] (bv (zeD f a.sets)) []) (hw:zaa E0 S.syntax_condition [xsl a.wh] [] (bv (zdr f a.wh)) []) (hq:∀ q∈a.query,zaa E0 S.syntax_ValidQuery [q.av] [] (bv (qyB f q)) []):∃ (r:Bool),r=zth f a∧zaa E0 S.syntax_ValidAction [.agg (acc 3 a)] [] (bv r) []:=by
 cases h1:za7 a.table
 ·exact ⟨false,zkZ,wk At.syntax_ValidAction [sd [],sc (zaj a.table),sb (rfl:false=false),sb (rfl:false=false),sb (rfl:true=true),sb h1] kr⟩
 ·cases h2:!decide (0 < (↑(List.map zaE a.rows).length:Int))
  ·exact ⟨false,zkZ,wk At.syntax_ValidAction [sd [],sc (zaj a.table),sb (rfl:false=false),sb (rfl:false=false),sb (rfl:true=true),sg h1,sb h2] kr⟩
  ·cases h3:!decide (0 < (↑(zag a.query).length:Int))
   ·exact ⟨false,zkZ,wk At.syntax_ValidAction [sd [],sc (zaj a.table),sb (rfl:false=false),sb (rfl:false=false),sb (rfl:true=true),sg h1,sg h2,sb h3] kr⟩
   ·cases h4:!decide (0 < (↑(List.map Se.cells a.sets).length:Int))
    ·exact ⟨false,zkZ,wk At.syntax_ValidAction [sd [],sc (zaj a.table),sb (rfl:false=false),sb (rfl:false=false),sb (rfl:true=true),sg h1,sg h2,sg h3,sb h4] kr⟩
    ·cases h5:!!ByteArray.toList a.text==(ByteArray.mk #[]).toList
     ·exact ⟨false,zkZ,wk At.syntax_ValidAction [sd [],sc (zaj a.table),sb (rfl:false=false),sb (rfl:false=false),sb (rfl:true=true),sg h1,sg h2,sg h3,sg h4,sb h5] kr⟩
     ·exact ⟨zdr f a.wh,zkZ,wk At.syntax_ValidAction [sd [],sc (zaj a.table),sb (rfl:false=false),sb (rfl:false=false),sb (rfl:true=true),sg h1,sg h2,sg h3,sg h4,sg h5,sc hw] kr⟩
def actB (f:X→Bool) (a:Ac):Bool:=bif a.kind==1 then zs2 f a else bif a.kind==2 then zsc f a else zth f a
theorem zi4 {n:Nat} {a:Ac} (h:AcOk n a) (hk:1≤a.kind∧a.kind≤3):zaa E0 S.syntax_ValidAction [a.av] [] (bv (actB (vX n) a)) []:=by
 have h1:=zj4 (zaP h.rows) h.row
 have h2:=zkq (zaP h.sets) h.set
 have h3:=zfQ (zaP h.wh) h.w
 have h4:∀ q∈a.query,zaa E0 S.syntax_ValidQuery [q.av] [] (bv (qyB (vX n) q)) []:=fun q hq=>zjD (h.qs q hq)
 have hk:a.kind=1∨a.kind=2∨a.kind=3:=by omega
 rcases hk with hk|hk|hk
 ·obtain ⟨r,rfl,h5⟩:=zgP a (vX n) h1 h2 h3 h4
  have e:a.av=.agg (acc 1 a):=by rw [← hk];rfl
  rw [e];unfold actB;rw [hk];exact h5
 ·obtain ⟨r,rfl,h5⟩:=zg9 a (vX n) h1 h2 h3 h4
  have e:a.av=.agg (acc 2 a):=by rw [← hk];rfl
  rw [e];unfold actB;rw [hk];exact h5
 ·obtain ⟨r,rfl,h5⟩:=zg1 a (vX n) h1 h2 h3 h4
  have e:a.av=.agg (acc 3 a):=by rw [← hk];rfl
  rw [e];unfold actB;rw [hk];exact h5
end Go.AM
namespace Go.AM
set_option maxRecDepth 100000
set_option maxHeartbeats 1000000
set_option linter.unusedSimpArgs false
set_option linter.unusedVariables false
def pfit (a b:Int):Bool :=
 bif a==0 then
  true
 else
  bif b==0 then
   true
  else
   a==b
end Go.AM
namespace Go.AM
set_option maxRecDepth 100000
set_option maxHeartbeats 1000000
set_option linter.unusedSimpArgs false
set_option linter.unusedVariables false
theorem PrefOk.good {cols:List Col} {vals:List V} (h:zbU cols vals):∀ v∈vals,v.Good:=fun v hv=>by
 obtain ⟨k,hk,hkv⟩:=List.mem_iff_getElem.1 hv
 have hl:=h.len
 obtain ⟨c,hc⟩:=zav (l:=cols) (i:=k) (by omega)
 exact (h.at_ k c v hc (by rw [← hkv];simp)).good
theorem FsT.ok {frs:List Fr} (h:FsT frs) (n:Nat) (hn:n≤900000):FsOk n frs :=
 ⟨by have:=h.len;omega,fun f hf=>zaP (h.few f hf),fun f hf v hv=>((h.rows f hf).good v hv).small⟩
theorem FsT.g {frs:List Fr} (h:FsT frs):FsG frs:=fun f hf v hv=>(h.rows f hf).good v hv
theorem StoreOk.tbOk {l:List Tb} (h:StoreOk l):TbOk l :=
 ⟨by have:=h.len;simp only [zac];omega,fun x hx=>(h.tabs x hx).2.short,fun x hx=>(h.tabs x hx).1.len,fun x hx r hr v hv=>(((h.tabs x hx).1.rows r hr).good v hv).small⟩
theorem StoreOk.tbG {l:List Tb} (h:StoreOk l):TbG l :=
 ⟨fun x hx r hr v hv=>((h.tabs x hx).1.rows r hr).good v hv,fun x hx=>(h.tabs x hx).1.len⟩
end Go.AM
namespace Go.AM
set_option maxRecDepth 100000
set_option maxHeartbeats 1000000
set_option linter.unusedSimpArgs false
set_option linter.unusedVariables false
structure Sound (ty:Int × Int) (ev:V × Int):Prop where
 code:ty.2=0→ev.2=0∨ev.2=6∨ev.2=7
 kind:ty.2=0→ev.2=0→ev.1.kind=0∨ev.1.kind=ty.1
end Go.AM
namespace Go.AM
set_option maxRecDepth 100000
set_option maxHeartbeats 1000000
set_option linter.unusedSimpArgs false
set_option linter.unusedVariables false
structure Res (w:Int) (r:V × Int):Prop where
 code:r.2=0∨r.2=6∨r.2=7
 kind:r.2=0→r.1.kind=0∨r.1.kind=w
abbrev KOk (v:V) (k:Int):Prop:=v.kind=0∨v.kind=k
/- ### types of operations -/
theorem KOk.trans {v:V} {t k:Int} (h:KOk v t) (ht:t=0∨t=k):KOk v k:=by
 rcases h with h|h
 ·exact .inl h
 ·rcases ht with rfl|rfl
  ·exact .inl h
  ·exact .inr h
inductive Typed:List V→List Int→Prop
 | nil:Typed [] []
 | cons {v:V} {t:Int} {l:List V} {ts:List Int}:KOk v t→Typed l ts→Typed (v::l) (t::ts)
end Go.AM
namespace Go.AM
set_option maxRecDepth 100000
set_option maxHeartbeats 1000000
set_option linter.unusedSimpArgs false
set_option linter.unusedVariables false
def er (f:Fr):Fr:=⟨f.name,f.strict,f.cols,[]⟩
theorem zrT (frs:List Fr) (k:Nat):(frs.map er).getD k za6=er (frs.getD k za6):=by
 simp only [List.getD_eq_getElem?_getD,List.getElem?_map]
 cases frs[k]? <;> rfl
theorem zrP (frs:List Fr) (q n:Str):∀ k,rres (frs.map er) q n k=rres frs q n k
 | 0=>rfl
 | k+1=>by
  simp only [rres,zlV,zrT,zrP frs q n k]
  rfl
theorem zqI (frs:List Fr) (q n:Str):zbN (frs.map er) q n=zbN frs q n:=by
 unfold zbN;rw [List.length_map,zrP]
theorem zub (frs:List Fr) (q n:Str):rFr (frs.map er) q n=er (rFr frs q n):=by
 unfold rFr;rw [zqI,zrT]
structure FrRel (tf vf:List Fr):Prop where
 eq:tf.map er=vf.map er
 rows:∀ f∈vf,zbU f.cols f.vals
theorem FrRel.cols {tf vf:List Fr} (h:FrRel tf vf) (q n:Str):(rFr tf q n).cols=(rFr vf q n).cols:=by
 have:er (rFr tf q n)=er (rFr vf q n):=by rw [← zub,← zub,h.eq]
 exact (congrArg Fr.cols this:(er _).cols=(er _).cols)
theorem FrRel.ins {tf vf:List Fr} (h:FrRel tf vf) {t:Tb} {v:List V} (hv:zbU t.sch.cols v):FrRel (za3 tf t.sch []) (zaF vf t v):=by
 refine ⟨by simp only [za3,zaF,List.map_append,h.eq];rfl,fun f hf=>?_⟩
 simp only [zaF,List.mem_append,List.mem_singleton] at hf
 rcases hf with hf|rfl
 ·exact h.rows f hf
 ·exact hv
theorem zpu (tb:List Tb) (n:Str):∀ (l:List Tb) (i:Nat),ziR tb n l i=match l.find? (fun t=>zaA t n) with|some t=>(t.sch,true)|none=>(⟨⟨#[]⟩,[]⟩,false)
 | [],i=>rfl
 | x::r,i=>by
  simp only [ziR,List.find?,zaA]
  cases h:x.sch.name.toList==n.toList
  ·exact zpu tb n r _
  ·rfl
theorem zeQ (tb:List Tb) (n:Str):zcw tb n=match zbV tb n with|some t=>(t.sch,true)|none=>(⟨⟨#[]⟩,[]⟩,false):=zpu tb n tb 0
structure TbT (tb:List Tb):Prop where
 rows:∀ x∈tb,∀ r∈x.rows,zbU x.sch.cols r.vals
 len:∀ x∈tb,x.rows.length≤1000
theorem TbT.g {tb:List Tb} (h:TbT tb):TbG tb:=⟨fun x hx r hr v hv=>(h.rows x hx r hr).good v hv,h.len⟩
theorem FrRel.g {tf vf:List Fr} (h:FrRel tf vf):FsG vf:=fun f hf v hv=>(h.rows f hf).good v hv
end Go.AM
namespace Go.AM
set_option maxRecDepth 100000
set_option maxHeartbeats 1000000
set_option linter.unusedSimpArgs false
set_option linter.unusedVariables false
theorem zpj {tb:List Tb} {n:Str} {x:Tb} (h:AtI tb (idxF (fun t=>zaA t n) tb 0) x):zcw tb n=(x.sch,true):=by
 obtain ⟨h0,h1⟩:=h
 rw [zeQ]
 rcases zfA (fun t=>zaA t n) tb 0 with ⟨h2,_⟩|⟨j,y,h2,h3,h4⟩
 ·omega
 ·rw [h2] at h1
  have:((0+j:Nat):Int).toNat=j:=by omega
  rw [this,h3] at h1
  cases h1
  unfold zbV;rw [h4]
theorem zqa {tb:List Tb} {n:Str} (h:decide (idxF (fun t=>zaA t n) tb 0 < 0)=true):zcw tb n=(⟨⟨#[]⟩,[]⟩,false):=by
 rw [zeQ]
 rcases zfA (fun t=>zaA t n) tb 0 with ⟨_,h2⟩|⟨j,y,h2,h3,h4⟩
 ·unfold zbV;rw [h2]
 ·simp only [decide_eq_true_eq] at h;omega
theorem zv5 {tb:List Tb} {n:Str} (h:decide (idxF (fun t=>zaA t n) tb 0 < 0)=false):0≤idxF (fun t=>zaA t n) tb 0∧idxF (fun t=>zaA t n) tb 0 < ((tb.length:Nat):Int):=by
 simp only [decide_eq_false_iff_not] at h
 have:=znq (fun t=>zaA t n) tb 0
 exact ⟨by omega,by rcases this with h|h <;> omega⟩
theorem zgd (t:Tb) (n:Str) :zaa E0 S.scope_Source_c1 [.agg t.cells,.p 0 0] [.box [sv n]] (bv (zaA t n)) [.box [sv n]]:=by
 exact wk At.scope_Source_c1 [] kr
noncomputable def zqk (tb:List Tb) (n:Str) (i:Nat):Cfg:=zal B.slices_IndexFunc_Table 0 [(0,.sl (tb.map Tb.cells)),(1,.fn S.scope_Source_c1 [.p 0 0]),(7,iv ((tb.map Tb.cells).length:Nat)),(8,iv (i:Nat))] [.box [sv n]]
theorem zra (tb:List Tb) (n:Str) (hl:zac tb):∀ (k i:Nat),i+k=tb.length→Good E0 B.slices_IndexFunc_Table [.box [sv n]] (zqk tb n i) (Shut 1 fun r h=>r=iv (idxF (fun t=>zaA t n) (tb.drop i) i)∧h=[.box [sv n]]):=by
 intro k
 induction k with
 | zero =>
  intro i hi
  refine zab ?_
  have h0:decide ((i:Int) < (((tb.map Tb.cells).length:Nat):Int))=false:=by simp;omega
  have e0:tb.drop i=[]:=List.drop_of_length_le (by omega)
  rw [e0]
  exact zd9 E0ok mix0 3000 (y:=AV.v (Value.int IntKind.i64 (-1:Int))) (H:=[Blk.box [AV.v (Value.string n)]]) [sb h0] kr (⟨rfl,rfl⟩)
 | succ k ih =>
  intro i hi
  have ih:=ih (i+1) (by omega)
  obtain ⟨x,hx⟩:=zav (l:=tb) (i:=i) (by omega)
  have h0:decide ((i:Int) < (((tb.map Tb.cells).length:Nat):Int))=true:=by simp;omega
  have hw:=zak i (by omega)
  rw [zaR hx]
  simp only [idxF]
  refine zab ?_
  cases h1:zaA x n
  ·exact zcb E0ok mix0 3000 (c':=zqk tb n (i+(1:Nat))) [sb h0,se (zaf Tb.cells hx rfl),sl [(0:Nat)] (zgd x n),sb h1,si hw] [0,1,7,8] 1 kr kr (by simpa only [cond_true,cond_false,h1] using ih)
  ·exact zd9 E0ok mix0 3000 (y:=AV.v (Value.int IntKind.i64 (i:Int))) (H:=[Blk.box [AV.v (Value.string n)]]) [sb h0,se (zaf Tb.cells hx rfl),sl [(0:Nat)] (zgd x n),sb h1] kr (⟨by simp only [cond_true,cond_false,h1],rfl⟩)
theorem zuY (tb:List Tb) (n:Str) (hl:zac tb):zaa E0 S.slices_IndexFunc_Table [.sl (tb.map Tb.cells),.fn S.scope_Source_c1 [.p 0 0]] [.box [sv n]] (iv (idxF (fun t=>zaA t n) tb 0)) [.box [sv n]]:=by
 exact zfo E0ok mix0 At.slices_IndexFunc_Table rfl kr kr 3000 (c':=zqk tb n (0:Nat)) [] [0,1,7,8] 1 kr kr (by simpa using zra tb n hl tb.length 0 (by simp))
theorem znK (tb:List Tb) (n:Str) (h2:zac tb) (h3:∀ x∈tb,zac x.sch.cols) (hix:zaa E0 S.slices_IndexFunc_Table [.sl (tb.map Tb.cells),.fn S.scope_Source_c1 [.p 0 0]] [.box [sv n]] (iv (idxF (fun t=>zaA t n) tb 0)) [.box [sv n]]):∃ (s:Sch) (b:Bool),(s,b)=zcw tb n∧zaa E0 S.scope_Source [tsl tb,sv n] [] (.tup [s.av,bv b]) []:=by
 cases h1:decide (idxF (fun t=>zaA t n) tb 0 < 0)
 ·obtain ⟨x2,e2⟩:=zuv (l:=tb) (i:=idxF (fun t=>zaA t n) tb (0:Nat)) (by exact zv5 (by assumption))
  exact ⟨x2.sch,true,(by first|exact (zpj (by assumption)).symm|exact (zqa (by assumption)).symm),wk At.scope_Source [sqx ((True∧x2.sch.cols.length=(List.map Col.cells x2.sch.cols).length∧True)∧True∧True),sl [0] hix,sb h1,se (znS Tb.cells e2 rfl),sc (zat x2.sch.cols (by first|assumption|exact h3 _ (List.mem_of_getElem? (And.right ‹AtI _ _ _›))))] kr⟩
 ·exact ⟨Sch.mk (ByteArray.mk #[]) [],false,(by first|exact (zpj (by assumption)).symm|exact (zqa (by assumption)).symm),wk At.scope_Source [sl [0] hix,sb h1] kr⟩
theorem zfx (tb:List Tb) (n:Str) (h2:zac tb) (h3:∀ x∈tb,zac x.sch.cols):zaa E0 S.scope_Source [tsl tb,sv n] [] (.tup [(zcw tb n).1.av,bv (zcw tb n).2]) []:=by
 obtain ⟨s,b,h,h2⟩:=znK tb n h2 h3 (zuY tb n h2)
 rw [← h];exact h2
end Go.AM
namespace Go.AM
set_option maxRecDepth 100000
set_option maxHeartbeats 1000000
set_option linter.unusedSimpArgs false
set_option linter.unusedVariables false
theorem zqj (fr:List Fr) (s:Sch) (v:List V) (h2:zac fr):∃ (r:List Fr),r=za3 fr s v∧zaa E0 S.dml_inside [fsl fr,s.av,vsl v] [] (fsl r) []:=by
 exact ⟨fr++[Fr.mk s.name false s.cols v],(by rfl),(by (try simp only [X.av,Qy.av,V.av,Tb.av,Sch.av,Pl.av,xsl,fsl,vsl,tsl,List.map_append,List.map_cons,List.map_nil,V.cells,Col.cells,Rw.cells,Tb.cells,Fr.cells,Sch.cells,Pl.cells,zaW,zaI,zaO,zaM,zaT,X.cells,Qy.cells,X.args_mk,X.sub_mk,Qy.items_mk,Qy.wh_mk,xCol,xLit,xBin,xNeg,Ac.cells,Se.cells]);exact wk At.dml_inside [sqx ((List.map Fr.cells fr++[[sv s.name,bv false,AV.sl (List.map Col.cells s.cols),AV.sl (List.map V.cells v)]]).length=(List.map Fr.cells fr++[[sv s.name,bv false,AV.sl (List.map Col.cells s.cols),AV.sl (List.map V.cells v)]]).length),sd [(1,[sc (zeL fr (by first|assumption|omega|(simp;done)|(simp;omega)))]),(9,[sqx (AllLen [[sv s.name,bv false,AV.sl (List.map Col.cells s.cols),AV.sl (List.map V.cells v)]] 4∧fr.length=(List.map Fr.cells fr).length∧(((List.map Fr.cells fr).length+[[sv s.name,bv false,AV.sl (List.map Col.cells s.cols),AV.sl (List.map V.cells v)]].length) * 72).le 140737488355328)])]] kr)⟩
theorem zkB (fr:List Fr) (s:Sch) (v:List V) (h2:zac fr):zaa E0 S.dml_inside [fsl fr,s.av,vsl v] [] (fsl (za3 fr s v)) []:=by
 obtain ⟨r,rfl,h⟩:=zqj fr s v h2
 exact h
end Go.AM
namespace Go.AM
set_option maxRecDepth 100000
set_option maxHeartbeats 1000000
set_option linter.unusedSimpArgs false
set_option linter.unusedVariables false
theorem zua {p:Prop} (h:p:=by first|assumption|omega|(simp;done)|(simp;omega)):p:=h
def tgt (a:Ac) (b:Bool) (tb:List Tb):Sch × Int :=
 bif !b then
  (Sch.mk (ByteArray.mk #[]) [],17)
 else
  bif !(zcw tb a.table).snd then
   (Sch.mk (ByteArray.mk #[]) [],3)
  else
   ((zcw tb a.table).fst,0)
theorem zpy (a:Ac) (b:Bool) (tb:List Tb) (hk1:decide (a.kind < (1:Int))=false) (hk2:decide ((3:Int) < a.kind)=false) (h2:zac tb) (h3:∀ x∈tb,zac x.sch.cols) (hv:zaa E0 S.syntax_ValidAction [a.av] [] (bv b) []):zaa E0 S.dml_target [a.av,tsl tb] [] (.tup [(tgt a b tb).1.av,iv (tgt a b tb).2]) []:=by
 unfold tgt
 cases h1:!b
 ·let p_1:List St:=[sg hk1,sg hk2,sc hv,sb h1,sc (zfx tb a.table zua zua)]
  cases h2:!(zcw tb a.table).snd
  ·exact wk At.dml_target (p_1++[sb h2]) kr
  ·exact wk At.dml_target (p_1++[sb h2]) kr
 ·exact wk At.dml_target [sg hk1,sg hk2,sc hv,sb h1] kr
end Go.AM
namespace Go.AM
set_option maxRecDepth 100000
set_option maxHeartbeats 1000000
set_option linter.unusedSimpArgs false
set_option linter.unusedVariables false
theorem zkd {p:Prop} (h:p:=by first|assumption|(simp only [decide_eq_false_iff_not,Int.not_lt,Int.not_le] at *;omega)):p:=h
structure Pr where
 id:Int
 old:List V
 nw:List V
def Pr.cells (p:Pr):List AV:=[iv p.id,vsl p.old,vsl p.nw]
@[simp] theorem Pr.cells_length (x:Pr):x.cells.length=3:=rfl
structure Ch where
 ins:List (List V)
 del:List Int
 upd:List Pr
def Ch.cells (c:Ch):List AV:=[.sl (c.ins.map vrow),isl c.del,.sl (c.upd.map Pr.cells)]
abbrev Ch.av (c:Ch):AV:=.agg c.cells
theorem zfk (t:Tb) (a:Ac) :zaa E0 S.dml_Candidates_c1 [.agg t.cells,.p 0 0] [.box a.cells] (bv (zaA t a.table)) [.box a.cells]:=by
 exact wk At.dml_Candidates_c1 [] kr
noncomputable def zp4 (tb:List Tb) (a:Ac) (i:Nat):Cfg:=zal B.slices_IndexFunc_Table 0 [(0,.sl (tb.map Tb.cells)),(1,.fn S.dml_Candidates_c1 [.p 0 0]),(7,iv ((tb.map Tb.cells).length:Nat)),(8,iv (i:Nat))] [.box a.cells]
theorem zrj (tb:List Tb) (a:Ac) (hl:zac tb):∀ (k i:Nat),i+k=tb.length→Good E0 B.slices_IndexFunc_Table [.box a.cells] (zp4 tb a i) (Shut 1 fun r h=>r=iv (idxF (fun t=>zaA t a.table) (tb.drop i) i)∧h=[.box a.cells]):=by
 intro k
 induction k with
 | zero =>
  intro i hi
  refine zab ?_
  have h0:decide ((i:Int) < (((tb.map Tb.cells).length:Nat):Int))=false:=by simp;omega
  have e0:tb.drop i=[]:=List.drop_of_length_le (by omega)
  rw [e0]
  exact zd9 E0ok mix0 3000 (y:=AV.v (Value.int IntKind.i64 (-1:Int))) (H:=[Blk.box a.cells]) [sb h0] kr (⟨rfl,rfl⟩)
 | succ k ih =>
  intro i hi
  have ih:=ih (i+1) (by omega)
  obtain ⟨x,hx⟩:=zav (l:=tb) (i:=i) (by omega)
  have h0:decide ((i:Int) < (((tb.map Tb.cells).length:Nat):Int))=true:=by simp;omega
  have hw:=zak i (by omega)
  rw [zaR hx]
  simp only [idxF]
  refine zab ?_
  cases h1:zaA x a.table
  ·exact zcb E0ok mix0 3000 (c':=zp4 tb a (i+(1:Nat))) [sb h0,se (zaf Tb.cells hx rfl),sl [(0:Nat)] (zfk x a),sb h1,si hw] [0,1,7,8] 1 kr kr (by simpa only [cond_true,cond_false,h1] using ih)
  ·exact zd9 E0ok mix0 3000 (y:=AV.v (Value.int IntKind.i64 (i:Int))) (H:=[Blk.box a.cells]) [sb h0,se (zaf Tb.cells hx rfl),sl [(0:Nat)] (zfk x a),sb h1] kr (⟨by simp only [cond_true,cond_false,h1],rfl⟩)
theorem zpv (tb:List Tb) (a:Ac) (hl:zac tb):zaa E0 S.slices_IndexFunc_Table [.sl (tb.map Tb.cells),.fn S.dml_Candidates_c1 [.p 0 0]] [.box a.cells] (iv (idxF (fun t=>zaA t a.table) tb 0)) [.box a.cells]:=by
 exact zfo E0ok mix0 At.slices_IndexFunc_Table rfl kr kr 3000 (c':=zp4 tb a (0:Nat)) [] [0,1,7,8] 1 kr kr (by simpa using zrj tb a hl tb.length 0 (by simp))
noncomputable def L_asgL (f:X→V × Int) (a:Ac) (s:Sch) (frs:List Fr) (tb:List Tb) (i:Nat) (out:List V):Cfg:=zal B.dml_assigned 0 [(3,fsl frs),(4,tsl tb),(6,.p 1 0),(12,.own 2 out.length),(21,.sl (a.sets.map Se.cells)),(22,iv ((a.sets.map Se.cells).length:Nat)),(23,iv (i:Nat))] [.box a.cells,.box s.cells,.row Ty.Value (out.map V.cells) false]
def asgL (f:X→V × Int) (a:Ac) (s:Sch) (frs:List Fr) (tb:List Tb):List (Se)→Nat→(List V)→(List V) × Int
 | [],i,out =>
  (out,0)
 | x::r,i,out =>
  bif decide (idxF (fun c=>colC c x.col) s.cols 0 < 0) then
   ([],3)
  else
   bif (f x.ex).snd != 0 then
    ([],(f x.ex).snd)
   else
    bif decide ((out.length:Int)≤idxF (fun c=>colC c x.col) s.cols 0) then
     ([],17)
    else
     asgL f a s frs tb r (i+1) (out.set (idxF (fun c=>colC c x.col) s.cols 0).toNat (f x.ex).fst)
theorem zru (f:X→V × Int) (a:Ac) (s:Sch) (frs:List Fr) (tb:List Tb) (hs:zac s.cols) (hl:zac a.sets) (hf:∀ x∈a.sets,Pure S.evaluate_Value [x.ex.av,fsl frs,tsl tb] (.tup [(f x.ex).1.av,iv (f x.ex).2])):∀ (kk i:Nat) (out:List V),i+kk=(a.sets).length→Good E0 B.dml_assigned [] (L_asgL f a s frs tb i out) (Shut 0 fun r h=>r=(.tup [vsl (asgL f a s frs tb ((a.sets).drop i) i out).1,iv (asgL f a s frs tb ((a.sets).drop i) i out).2])∧h=[]):=by
 intro kk
 induction kk with
 | zero =>
  intro i out hi
  have h0:decide (((i:Nat):Int) < (((a.sets.map Se.cells).length:Nat):Int))=false:=by simp;omega
  have e0:(a.sets).drop i=[]:=List.drop_of_length_le (by omega)
  rw [e0]
  simp only [asgL]
  refine zab ?_
  exact wkr [sqx (out.length=(List.map V.cells out).length∧True∧True),sb h0] kr
 | succ kk ih =>
  intro i out hi
  obtain ⟨x,hx⟩:=zav (l:=a.sets) (i:=i) (by omega)
  have h0:decide (((i:Nat):Int) < (((a.sets.map Se.cells).length:Nat):Int))=true:=by simp;omega
  have hw:=zak i (by first|omega|(simp only [zac,Few] at *;omega))
  have hfx:=hf x (List.mem_of_getElem? hx)
  rw [zaR hx]
  simp only [asgL]
  refine zab ?_
  cases h1:decide (idxF (fun c=>colC c x.col) s.cols 0 < 0)
  ·cases h2:(f x.ex).snd != 0
   ·cases h3:decide ((out.length:Int)≤idxF (fun c=>colC c x.col) s.cols 0)
    ·obtain ⟨x4,e4⟩:=zav (l:=out) (i:=(idxF (fun c=>colC c x.col) s.cols 0).toNat) zkd
     exact wkl [sb h0,se (zaf Se.cells hx rfl),sc (zbi s x.col zkd),sb h1,sc hfx,sb h2,sqx (out.length=(List.map V.cells out).length),sb h3,sqx (OwnAt (List.map V.cells out) out.length (idxF (fun c=>colC c x.col) s.cols 0)),sx (.el x4.cells) (And.intro (owed (p:=True∧True∧True∧True)) (zdx V.cells (n:=out.length) (by simp) e4)),si hw] [3,4,6,12,21,22,23] 3 kr (zan (show ([(3,AV.sl (List.map Fr.cells frs)),(4,AV.sl (List.map Tb.cells tb)),(6,AV.p 1 0),(12,AV.own 2 out.length),(21,AV.sl (List.map Se.cells a.sets)),(22,iv (↑(List.map Se.cells a.sets).length:Int)),(23,iv (↑(i+1):Int))]:TS)=_ by first|rfl|(simp;done)|(simp [X.cells,Qy.cells,V.cells,Col.cells,Rw.cells,Tb.cells,Fr.cells,Sch.cells,Tp.cells,Pl.cells,xCol,xLit,xBin,xNeg,Ac.cells,Se.cells,Pr.cells,Ch.cells];done)) (show ([Blk.box [iv a.kind,sv a.table,AV.sl (List.map (fun r=>[AV.sl (zad r)]) a.rows),AV.sl (zag a.query),AV.sl (List.map Se.cells a.sets),AV.sl (zad a.wh),sv a.text],Blk.box [sv s.name,AV.sl (List.map Col.cells s.cols)],Blk.row Ty.Value ((List.map V.cells out).set (idxF (fun c=>colC c x.col) s.cols 0).toNat [iv (f x.ex).fst.kind,iv (f x.ex).fst.int,sv (f x.ex).fst.text]) false]:Heap)=_ by first|rfl|(simp;done)|(simp [X.cells,Qy.cells,V.cells,Col.cells,Rw.cells,Tb.cells,Fr.cells,Sch.cells,Tp.cells,Pl.cells,xCol,xLit,xBin,xNeg,Ac.cells,Se.cells,Pr.cells,Ch.cells];done)) (ih (i+1) (out.set (idxF (fun c=>colC c x.col) s.cols 0).toNat (f x.ex).fst) (by omega) ))
    ·exact wkr [sb h0,se (zaf Se.cells hx rfl),sc (zbi s x.col zkd),sb h1,sc hfx,sb h2,sqx (out.length=(List.map V.cells out).length),sb h3] kr
   ·exact wkr [sb h0,se (zaf Se.cells hx rfl),sc (zbi s x.col zkd),sb h1,sc hfx,sb h2] kr
  ·exact wkr [sb h0,se (zaf Se.cells hx rfl),sc (zbi s x.col zkd),sb h1] kr
def asgn (f:X→V × Int) (a:Ac) (s:Sch) (row:List V) (frs:List Fr) (tb:List Tb):(List V) × Int :=
 asgL f a s frs tb a.sets 0 (row)
theorem zns (f:X→V × Int) (a:Ac) (s:Sch) (row:List V) (frs:List Fr) (tb:List Tb) (hr:zac row) (hs:zac s.cols) (hl:zac a.sets) (hf:∀ x∈a.sets,Pure S.evaluate_Value [x.ex.av,fsl frs,tsl tb] (.tup [(f x.ex).1.av,iv (f x.ex).2])):zaa E0 S.dml_assigned [a.av,s.av,vsl row,fsl frs,tsl tb] [] (.tup [vsl (asgn f a s row frs tb).1,iv (asgn f a s row frs tb).2]) []:=by
 unfold asgn
 exact wkc At.dml_assigned [sc (zap row (by first|assumption|omega|(simp;done)|(simp;omega)))] [3,4,6,12,21,22,23] 3 kr (by have ih:=zru f a s frs tb hs hl hf a.sets.length 0 row (by simp);exact ih)
end Go.AM
namespace Go.AM
set_option maxRecDepth 100000
set_option maxHeartbeats 1000000
set_option linter.unusedSimpArgs false
set_option linter.unusedVariables false
def cndD (tr:Rw→Bool × Int) (a:Ac) (s:Sch) (frs:List Fr) (tb:List Tb) (t:Tb):List (Rw)→Nat→(List Int)→Ch × Int
 | [],i,del =>
  (Ch.mk [] del [],0)
 | x::r,i,del =>
  bif (tr x).snd != 0 then
   (Ch.mk [] [] [],(tr x).snd)
  else
   bif !(tr x).fst then
    cndD tr a s frs tb t r (i+1) (del)
   else
    cndD tr a s frs tb t r (i+1) (del++[x.id])
def cndU (tr:Rw→Bool × Int) (ag:Rw→List V × Int) (a:Ac) (s:Sch) (frs:List Fr) (tb:List Tb) (t:Tb):List (Rw)→Nat→(List Pr)→Ch × Int
 | [],i,upd =>
  (Ch.mk [] [] upd,0)
 | x::r,i,upd =>
  bif (tr x).snd != 0 then
   (Ch.mk [] [] [],(tr x).snd)
  else
   bif !(tr x).fst then
    cndU tr ag a s frs tb t r (i+1) (upd)
   else
    bif (ag x).snd != 0 then
     (Ch.mk [] [] [],(ag x).snd)
    else
     cndU tr ag a s frs tb t r (i+1) (upd++[Pr.mk x.id x.vals (ag x).fst])
end Go.AM
namespace Go.AM
set_option maxRecDepth 100000
set_option maxHeartbeats 1000000
set_option linter.unusedSimpArgs false
set_option linter.unusedVariables false
def ztX:Tb:=⟨⟨⟨#[]⟩,[]⟩,0,[]⟩
def tabC (tb:List Tb) (n:Str):Tb:=(zbV tb n).getD ztX
theorem zrV (tb:List Tb) (n:Str) (h:decide (idxF (fun t=>zaA t n) tb 0 < 0)=false):ElAt (tb.map Tb.cells) (idxF (fun t=>zaA t n) tb 0) (tabC tb n).cells 4:=by
 simp only [decide_eq_false_iff_not] at h
 rcases zfA (fun t=>zaA t n) tb 0 with ⟨h2,_⟩|⟨j,y,h2,h3,h4⟩
 ·omega
 ·have e:tabC tb n=y:=by unfold tabC zbV;rw [h4];rfl
  rw [e,h2]
  have:((0+j:Nat):Int)=(j:Int):=by omega
  rw [this];exact zaf Tb.cells h3 rfl
def candE (a:Ac) (s:Sch) (e:Int):Ch × Int :=
 (Ch.mk [] [] [],e)
def candD (tr:Rw→Bool × Int) (a:Ac) (s:Sch) (frs:List Fr) (tb:List Tb):Ch × Int :=
 cndD tr a s frs tb (tabC tb a.table) (tabC tb a.table).rows 0 ([])
def candU (tr:Rw→Bool × Int) (ag:Rw→List V × Int) (a:Ac) (s:Sch) (frs:List Fr) (tb:List Tb):Ch × Int :=
 cndU tr ag a s frs tb (tabC tb a.table) (tabC tb a.table).rows 0 ([])
end Go.AM
namespace Go.AM
set_option maxRecDepth 100000
set_option maxHeartbeats 1000000
set_option linter.unusedSimpArgs false
set_option linter.unusedVariables false
abbrev PEv (f:X→V × Int) (x:X) (frs:List Fr) (tb:List Tb):Prop:=Pure S.evaluate_Value [x.av,fsl frs,tsl tb] (.tup [(f x).1.av,iv (f x).2])
def zpd (f:X→V × Int):List X→List V→List V × Int
 | [],acc=>(acc,0)
 | x::r,acc=>bif (f x).2 != 0 then ([],(f x).2) else zpd f r (acc++[(f x).1])
def insL (f:X→V × Int) (n:Nat):List (List X)→List (List V)→List (List V) × Int
 | [],acc=>(acc,0)
 | y::r,acc=>bif y.length != n then ([],5) else bif (zpd f y []).2 != 0 then ([],(zpd f y []).2) else insL f n r (acc++[(zpd f y []).1])
end Go.AM
namespace Go.AM
set_option maxRecDepth 100000
set_option maxHeartbeats 1000000
set_option linter.unusedSimpArgs false
set_option linter.unusedVariables false
def wid (v:List V) (s:Sch):Bool :=
 (↑(List.map V.cells v).length:Int) != (↑(List.map Col.cells s.cols).length:Int)
def okW (s:Sch) (v:List V):Bool:=!wid v s
def insQ (g:Qy→List (List V) × Int) (s:Sch):List Qy→List (List V)→List (List V) × Int
 | [],acc=>(acc,0)
 | q::r,acc=>bif (g q).2 != 0 then ([],(g q).2) else bif !(g q).1.all (okW s) then ([],5) else insQ g s r (acc++(g q).1)
def insB (f:X→V × Int) (g:Qy→List (List V) × Int) (s:Sch) (a:Ac):List (List V) × Int :=
 bif (insL f s.cols.length a.rows []).2 != 0 then ([],(insL f s.cols.length a.rows []).2) else insQ g s a.query (insL f s.cols.length a.rows []).1
section
variable {f : X → V × Int} {g : Qy → List (List V) × Int} {s : Sch} {a : Ac} {out1 out2 r : List (List V)} {c : Int}
end
def candI (ib:List (List V) × Int) (a:Ac):Ch × Int :=
 bif ib.snd != 0 then
  (Ch.mk [] [] [],ib.snd)
 else
  (Ch.mk ib.fst [] [],0)
end Go.AM
namespace Go.AM
set_option maxRecDepth 100000
set_option maxHeartbeats 1000000
set_option linter.unusedSimpArgs false
set_option linter.unusedVariables false
def keyL:List Col→Nat→Int→Int
 | [],_,k=>k
 | c::r,i,k=>keyL r (i+1) (bif c.key then (i:Int) else k)
abbrev keyC (s:Sch):Int:=keyL s.cols 0 (-1)
theorem zod {l:List Col} {i:Nat} {k:Int} {x:Col} {z:Int} (h:z=keyL (l.drop i) i k) (hx:l[i]?=some x):z=keyL (l.drop (i+1)) (i+1) (bif x.key then (i:Int) else k):=by
 obtain ⟨hi,e⟩:=List.getElem?_eq_some_iff.1 hx
 rw [h,List.drop_eq_getElem_cons hi,e];rfl
theorem zmP {l:List Col} {i:Nat} {k:Int} {x:Col} {z:Int} (h:z=keyL (l.drop i) i k) (hx:l[i]?=some x) (hk:x.key=true):z=keyL (l.drop (i+1)) (i+1) (i:Int):=by
 have:=zod h hx;rwa [hk] at this
theorem zmX {l:List Col} {i:Nat} {k:Int} {x:Col} {z:Int} (h:z=keyL (l.drop i) i k) (hx:l[i]?=some x) (hk:x.key=false):z=keyL (l.drop (i+1)) (i+1) k:=by
 have:=zod h hx;rwa [hk] at this
theorem zcB {l:List Col} {k:Int} {z:Int} (h:z=keyL (l.drop l.length) l.length k):k=z:=by
 rw [List.drop_length] at h;exact h.symm
structure RowsV (s:Sch) (next:Int) (rows:List Rw):Prop where
 fit:zgF s rows
 asc:rows.Pairwise fun a b=>a.id < b.id
 ids:∀ r∈rows,1≤r.id∧r.id < next
 keys:0≤keyC s→rows.Pairwise fun a b=>zaB a.vals (keyC s)≠zaB b.vals (keyC s)
 pos:1≤next
theorem RowsV.nil {s:Sch} {next:Int} (h:1≤next):RowsV s next []:=⟨fun _ h=>(by cases h),.nil,fun _ h=>(by cases h),fun _=>.nil,h⟩
theorem RowsV.more {s:Sch} {next m:Int} {rows:List Rw} (h:RowsV s next rows) (hm:next≤m):RowsV s m rows:=⟨h.fit,h.asc,fun r hr=>⟨(h.ids r hr).1,by have:=(h.ids r hr).2;omega⟩,h.keys,by have:=h.pos;omega⟩
theorem RowsV.push {s:Sch} {next m:Int} {rows:List Rw} {v:List V} (h:RowsV s next rows) (hv:zbU s.cols v) (hf:∀ r∈rows,keyC s < 0∨zaB r.vals (keyC s)≠zaB v (keyC s)) (hm:next < m):RowsV s m (rows++[⟨next,v⟩]):=by
 refine ⟨h.fit.push hv,?_,?_,?_,by have:=h.pos;omega⟩
 ·rw [List.pairwise_append];exact ⟨h.asc,by simp,fun a ha b hb=>by simp only [List.mem_singleton] at hb;subst hb;exact (h.ids a ha).2⟩
 ·intro r hr
  rcases List.mem_append.1 hr with hr|hr
  ·have:=h.ids r hr;omega
  ·simp only [List.mem_singleton] at hr;subst hr;have:=h.pos;simp only;omega
 ·intro hk
  rw [List.pairwise_append];exact ⟨h.keys hk,by simp,fun a ha b hb=>by simp only [List.mem_singleton] at hb;subst hb;exact (hf a ha).resolve_left (by omega)⟩
theorem veq_of {a b:V} (h:(!(a.kind==b.kind&&(a.int==b.int&&(a.text==b.text&&true))))=true):a≠b:=by
 rintro rfl;simp at h
def zcc (key:Int) (rv:List V) (rows:List Rw):Prop:=∀ r∈rows,key < 0∨zaB r.vals key≠zaB rv key
theorem zcc.step {key:Int} {rv:List V} {rows:List Rw} {i:Nat} {x:Rw} {f g:Bool} (h:f=true→zcc key rv (rows.take i)) (hx:rows[i]?=some x) (hg:g=true→f=true∧(key < 0∨zaB x.vals key≠zaB rv key)):g=true→zcc key rv (rows.take (i+1)):=by
 intro hg1 r hr
 rw [List.take_add_one,hx] at hr
 rcases List.mem_append.1 hr with hr|hr
 ·exact h (hg hg1).1 r hr
 ·simp at hr;subst hr;exact (hg hg1).2
theorem zkJ {key:Int} {rv xv:List V} {f:Bool} (h2:decide (key < 0)=false) (hg:(bif f then bif decide (key < 0) then true else !((zaB xv key).kind==(zaB rv key).kind&&((zaB xv key).int==(zaB rv key).int&&((zaB xv key).text==(zaB rv key).text&&true))) else false)=true):f=true∧(key < 0∨zaB xv key≠zaB rv key):=by
 cases f
 ·simp at hg
 ·refine ⟨rfl,.inr (veq_of ?_)⟩;rw [h2] at hg;simpa using hg
theorem zqy {key:Int} {P:Prop} {f:Bool} (h2:decide (key < 0)=true) (hg:(bif f then true else false)=true):f=true∧(key < 0∨P):=by
 cases f
 ·simp at hg
 ·exact ⟨rfl,.inl (by simpa using h2)⟩
theorem zrX {n:Int} {a b:Nat} (ha:(a:Int) < 2) (hb:(b:Int) < 2) (hn:1≤n∧n≤1000000):n < IntKind.i64.wrap (n+IntKind.i64.wrap (1+IntKind.i64.wrap ((a:Int) * (b:Int))))∧IntKind.i64.wrap (n+IntKind.i64.wrap (1+IntKind.i64.wrap ((a:Int) * (b:Int))))≤n+2:=by
 have e:(a:Int) * (b:Int)=0∨(a:Int) * (b:Int)=1:=by
  have:a=0∨a=1:=by omega
  have:b=0∨b=1:=by omega
  rcases ‹a=0∨a=1› with rfl|rfl <;> rcases ‹b=0∨b=1› with rfl|rfl <;> simp
 rcases e with e|e <;> rw [e] <;> simp only [IntKind.wrap_i64] <;> omega
noncomputable def L_tvK (t0:Tp) (s:Sch) (n:Int) (u:Tp) (next:Int) (i:Nat) (key:Int):Cfg:=zal B.world_Tape_TableOf 0 [(0,.p 0 0),(2,iv n),(4,.p 1 0),(6,.p 2 0),(7,.p 3 0),(8,iv key),(22,.sl (s.cols.map Col.cells)),(23,iv ((s.cols.map Col.cells).length:Nat)),(24,iv (i:Nat))] [.box u.cells,.box s.cells,.box zT,.box [sv s.name,.sl (s.cols.map Col.cells),iv next,.nl]]
theorem zeR (t0:Tp) (s:Sch) (n:Int) (u:Tp) (next:Int) (hs:Few s.cols) (i:Nat) (key:Int) (hi:i≤(s.cols).length) (hI:key < (i:Int)∧keyC s=keyL (s.cols.drop i) i key):∃ (key':Int),(key' < ((s.cols).length:Int)∧keyC s=keyL (s.cols.drop (s.cols).length) (s.cols).length key')∧(decide ((((s.cols).length:Nat):Int) < (((s.cols.map Col.cells).length:Nat):Int))=false)∧∀ R,Good E0 B.world_Tape_TableOf [.box t0.cells] (L_tvK t0 s n u next (s.cols).length key') R→Good E0 B.world_Tape_TableOf [.box t0.cells] (L_tvK t0 s n u next i key) R:=by
 obtain ⟨kk,hk⟩:∃ kk,i+kk=(s.cols).length:=⟨(s.cols).length - i,by omega⟩
 induction kk generalizing i key with
 | zero =>
  have e0:i=(s.cols).length:=by omega
  subst e0
  exact ⟨key,hI,by simp,fun R hg=>hg⟩
 | succ kk ih =>
  obtain ⟨x,hx⟩:=zav (l:=s.cols) (i:=i) (by omega)
  have h0:decide (((i:Nat):Int) < (((s.cols.map Col.cells).length:Nat):Int))=true:=by simp;omega
  have hw:IntKind.i64.wrap (((i:Nat):Int)+1)=((i+1:Nat):Int):=zak i (by first|omega|(simp only [zac,Few] at *;omega))
  let p_1:List St:=[sb h0,se (zaf Col.cells hx rfl)]
  cases h1:x.key
  ·obtain ⟨keyZ,qZ,xZ,gZ⟩:=ih (i+1) key (by omega) (by first|exact ⟨by omega,zmP hI.2 hx (by assumption)⟩|exact ⟨by omega,zmX hI.2 hx (by assumption)⟩) (by omega);exact ⟨keyZ,qZ,xZ,fun R hg=>zab (wkl (p_1++[sb h1,si hw]) [0,2,4,6,7,8,22,23,24] 4 kr (gZ R hg))⟩
  ·obtain ⟨keyZ,qZ,xZ,gZ⟩:=ih (i+1) ((i:Int)) (by omega) (by first|exact ⟨by omega,zmP hI.2 hx (by assumption)⟩|exact ⟨by omega,zmX hI.2 hx (by assumption)⟩) (by omega);exact ⟨keyZ,qZ,xZ,fun R hg=>zab (wkl (p_1++[sb h1,si hw]) [0,2,4,6,7,8,22,23,24] 4 kr (gZ R hg))⟩
noncomputable def L_tvR (t0:Tp) (s:Sch) (key:Int) (k:Nat) (u:Tp) (next:Int) (rows:List Rw):Cfg:=zal B.world_Tape_TableOf 1 [(0,.p 0 0),(4,.p 1 0),(6,.p 2 0),(7,.p 3 0),(8,iv key),(11,iv (k:Nat))] [.box u.cells,.box s.cells,.box zT,.box [sv s.name,.sl (s.cols.map Col.cells),iv next,.own 4 rows.length],.row Ty.Row (rows.map Rw.cells) false]
noncomputable def L_tvI (t0:Tp) (s:Sch) (key:Int) (k:Nat) (u:Tp) (next:Int) (rows:List Rw) (rv:List V) (i:Nat) (fresh:Bool):Cfg:=zal B.world_Tape_TableOf 2 [(0,.p 0 0),(4,.p 1 0),(6,.p 2 0),(7,.p 3 0),(8,iv key),(11,iv (k+1:Nat)),(12,vsl rv),(13,bv fresh),(45,.own 4 rows.length),(46,iv (rows.length:Nat)),(47,iv (i:Nat))] [.box u.cells,.box s.cells,.box zT,.box [sv s.name,.sl (s.cols.map Col.cells),iv next,.own 4 rows.length],.row Ty.Row (rows.map Rw.cells) false]
theorem zeE (t0:Tp) (s:Sch) (key:Int) (k:Nat) (u:Tp) (next:Int) (rows:List Rw) (rv:List V) (hko:zdS s.cols.length key) (hr:Few rows) (hrs:zgF s rows) (hrv:zbU s.cols rv) (i:Nat) (fresh:Bool) (hi:i≤(rows).length) (hI:fresh=true→zcc key rv (rows.take i)):∃ (fresh':Bool),(fresh'=true→zcc key rv (rows.take (rows).length))∧(decide ((((rows).length:Nat):Int) < (((rows).length:Nat):Int))=false)∧∀ R,Good E0 B.world_Tape_TableOf [.box t0.cells] (L_tvI t0 s key k u next rows rv (rows).length fresh') R→Good E0 B.world_Tape_TableOf [.box t0.cells] (L_tvI t0 s key k u next rows rv i fresh) R:=by
 obtain ⟨kk,hk⟩:∃ kk,i+kk=(rows).length:=⟨(rows).length - i,by omega⟩
 induction kk generalizing i fresh with
 | zero =>
  have e0:i=(rows).length:=by omega
  subst e0
  exact ⟨fresh,hI,by simp,fun R hg=>hg⟩
 | succ kk ih =>
  obtain ⟨x,hx⟩:=zav (l:=rows) (i:=i) (by omega)
  have h0:decide (((i:Nat):Int) < (((rows).length:Nat):Int))=true:=by simp;omega
  have hw:IntKind.i64.wrap (((i:Nat):Int)+1)=((i+1:Nat):Int):=zak i (by first|omega|(simp only [zac,Few] at *;omega))
  have hvl:=hrv.len;have hxl:=hrs.len hx;have ho:OwnAt (rows.map Rw.cells) rows.length ((i:Nat):Int):=⟨by simp,by omega,by have:=zee hx;simp;omega⟩
  let p_1:List St:=[sb h0,sqx (OwnAt (List.map Rw.cells rows) rows.length (i:Int)),sx (.el x.cells) (zdx Rw.cells (n:=rows.length) (by simp) hx)]
  rcases (Bool.eq_false_or_eq_true fresh).symm with h1|h1
  ·obtain ⟨freshZ,qZ,xZ,gZ⟩:=ih (i+1) false (by omega) (by first|exact zcc.step hI hx (fun h=>by cases h)|exact zcc.step hI hx (zkJ (by assumption))|exact zcc.step hI hx (zqy (by assumption))) (by omega);exact ⟨freshZ,qZ,xZ,fun R hg=>zab (wklN (p_1++[sd [(2,[sb h1]),(3,[sb h1]),(4,[sb h1]),(15,[sb h1]),(16,[sb h1])],si hw]) [0,4,6,7,8,11,12,13,45,46,47] 5 [(.bl 13,5)] kr (gZ R hg))⟩
  ·cases h2:decide (key < 0)
   ·obtain ⟨freshZ,qZ,xZ,gZ⟩:=ih (i+1) (bif fresh then bif decide (key < 0) then true else !((zaB x.vals key).kind==(zaB rv key).kind&&((zaB x.vals key).int==(zaB rv key).int&&((zaB x.vals key).text==(zaB rv key).text&&true))) else false) (by omega) (by first|exact zcc.step hI hx (fun h=>by cases h)|exact zcc.step hI hx (zkJ (by assumption))|exact zcc.step hI hx (zqy (by assumption))) (by omega);exact ⟨freshZ,qZ,xZ,fun R hg=>zab (wkl (p_1++[sd [(2,[sg h1]),(3,[sg h1]),(4,[sg h1]),(5,[sg h2]),(6,[sg h2]),(7,[sg h2]),(8,[so h2 (se (zfR x.vals key (by first|assumption|(have hk':key < (s.cols.length:Int):=hko;omega)) (by first|assumption|(have hk':key < (s.cols.length:Int):=hko;omega))))]),(9,[sg h2]),(10,[sg h2]),(11,[sg h2]),(12,[so h2 (se (zfR rv key (by first|assumption|(have hk':key < (s.cols.length:Int):=hko;omega)) (by first|assumption|(have hk':key < (s.cols.length:Int):=hko;omega))))]),(13,[sg h2]),(14,[so h2 (sq za9)]),(15,[sg h1])],si hw]) [0,4,6,7,8,11,12,13,45,46,47] 5 kr (gZ R hg))⟩
   ·obtain ⟨freshZ,qZ,xZ,gZ⟩:=ih (i+1) (bif fresh then true else false) (by omega) (by first|exact zcc.step hI hx (fun h=>by cases h)|exact zcc.step hI hx (zkJ (by assumption))|exact zcc.step hI hx (zqy (by assumption))) (by omega);exact ⟨freshZ,qZ,xZ,fun R hg=>zab (wkl (p_1++[sd [(2,[sg h1]),(3,[sg h1]),(4,[sg h1]),(5,[sb h2]),(6,[sb h2]),(7,[sb h2]),(8,[sb h2]),(9,[sb h2]),(10,[sb h2]),(11,[sb h2]),(12,[sb h2]),(13,[sb h2]),(14,[sb h2]),(15,[so h1 (sb h2)])],si hw]) [0,4,6,7,8,11,12,13,45,46,47] 5 kr (gZ R hg))⟩
theorem ztg {s:Sch} {key:Int} {rv:List V} {rows:List Rw} (hk:key=keyC s) (h:zcc key rv (rows.take rows.length)):∀ r∈rows,keyC s < 0∨zaB r.vals (keyC s)≠zaB rv (keyC s):=by
 subst hk;rw [List.take_length] at h;exact h
theorem zrD {s:Sch} {next n:Int} {rows:List Rw} {k a b:Nat} (hI:((rows.length+(k+1):Nat):Int)≤n∧RowsV s next rows∧next+2 * ((k+1:Nat):Int)≤3000) (ha:(a:Int) < 2) (hb:(b:Int) < 2):((rows.length+k:Nat):Int)≤n∧RowsV s (IntKind.i64.wrap (next+IntKind.i64.wrap (1+IntKind.i64.wrap ((a:Int) * (b:Int))))) rows∧IntKind.i64.wrap (next+IntKind.i64.wrap (1+IntKind.i64.wrap ((a:Int) * (b:Int))))+2 * ((k:Nat):Int)≤3000:=by
 have h:=zrX (n:=next) ha hb ⟨hI.2.1.pos,by omega⟩
 exact ⟨by omega,hI.2.1.more (by omega),by omega⟩
theorem zrQ {s:Sch} {key next n:Int} {rows:List Rw} {v:List V} {k a b:Nat} (hI:((rows.length+(k+1):Nat):Int)≤n∧RowsV s next rows∧next+2 * ((k+1:Nat):Int)≤3000) (hkc:key=keyC s) (hv:zbU s.cols v) (hf:zcc key v (rows.take rows.length)) (ha:(a:Int) < 2) (hb:(b:Int) < 2):(((rows++[Rw.mk next v]).length+k:Nat):Int)≤n∧RowsV s (IntKind.i64.wrap (next+IntKind.i64.wrap (1+IntKind.i64.wrap ((a:Int) * (b:Int))))) (rows++[⟨next,v⟩])∧IntKind.i64.wrap (next+IntKind.i64.wrap (1+IntKind.i64.wrap ((a:Int) * (b:Int))))+2 * ((k:Nat):Int)≤3000:=by
 have h:=zrX (n:=next) ha hb ⟨hI.2.1.pos,by omega⟩
 exact ⟨by simp;omega,hI.2.1.push hv (ztg hkc hf) (by omega),by omega⟩
theorem zeB (t0:Tp) (s:Sch) (key:Int) (n:Int) (hn9:n≤900) (hk:zdS s.cols.length key) (hkc:key=keyC s) (hs:SchOk s) (k:Nat) (u:Tp) (next:Int) (rows:List Rw) (hi:k≤1000000000) (hI:((rows.length+k:Nat):Int)≤n∧RowsV s next rows∧next+2 * (k:Int)≤3000):∃ (u':Tp) (next':Int) (rows':List Rw),(((rows'.length+0:Nat):Int)≤n∧RowsV s next' rows'∧next'+2 * (0:Int)≤3000)∧(decide ((0:Int) < ((0:Nat):Int))=false)∧∀ R,Good E0 B.world_Tape_TableOf [.box t0.cells] (L_tvR t0 s key 0 u' next' rows') R→Good E0 B.world_Tape_TableOf [.box t0.cells] (L_tvR t0 s key k u next rows) R:=by
 induction k generalizing u next rows with
 | zero=>exact ⟨u,next,rows,hI,by decide,fun R hg=>hg⟩
 | succ k ih =>
  have h0:decide ((0:Int) < (((k+1):Nat):Int))=true:=by first|(simp;done)|(simp;omega)
  have hw:IntKind.i64.wrap (((k+1:Nat):Int) - 1)=((k:Nat):Int):=zkN k (by omega)
  have hR:=hI.2.1.fit;have hsh:=hs.short;have hco:=hs.cols;have hfw:Few rows:=by simp only [Few];omega
  obtain ⟨r1,t1,q1,c1⟩:=(zgL u s (by first|assumption|trivial|omega|exact (fun _ r hr=>absurd hr (by simp))|(simp;done)) (by first|assumption|trivial|omega|exact (fun _ r hr=>absurd hr (by simp))|(simp;done)))
  obtain ⟨zkJ,q2,q2_1,g2⟩:=zeE t0 s key k t1 next rows r1 (by first|assumption|trivial|omega|exact (fun _ r hr=>absurd hr (by simp))|(simp;done)) (by first|assumption|trivial|omega|exact (fun _ r hr=>absurd hr (by simp))|(simp;done)) (by first|assumption|trivial|omega|exact (fun _ r hr=>absurd hr (by simp))|(simp;done)) (by first|assumption|trivial|omega|exact (fun _ r hr=>absurd hr (by simp))|(simp;done)) 0 true (by first|assumption|trivial|omega|exact (fun _ r hr=>absurd hr (by simp))|(simp;done)) (by first|assumption|trivial|omega|exact (fun _ r hr=>absurd hr (by simp))|(simp;done))
  let p_1:List St:=[sb h0,sl [0] c1,sqx (rows.length=(List.map Rw.cells rows).length)]
  rcases (Bool.eq_false_or_eq_true zkJ).symm with h3|h3
  ·obtain ⟨a4,t4,q4,c4⟩:=(zaJ t1 2 (by first|assumption|trivial|omega|exact (fun _ r hr=>absurd hr (by simp))|(simp;done)))
   obtain ⟨a5,t5,q5,c5⟩:=(zaJ t4 2 (by first|assumption|trivial|omega|exact (fun _ r hr=>absurd hr (by simp))|(simp;done)))
   obtain ⟨uZ,nextZ,rowsZ,qZ,xZ,gZ⟩:=ih t5 (IntKind.i64.wrap (next+IntKind.i64.wrap (1+IntKind.i64.wrap ((a4:Int) * (a5:Int))))) rows (by omega) (by first|exact zrD hI (by assumption) (by assumption)|exact zrQ hI hkc (by assumption) (‹_=true→zcc _ _ _› (by assumption)) (by assumption) (by assumption));exact ⟨uZ,nextZ,rowsZ,qZ,xZ,fun R hg=>zab (wklN p_1 [0,4,6,7,8,11,12,13,45,46,47] 5 [(.bl 13,5)] kr (g2 _ (zab (wkl [sb q2_1,sb h3,sd [(3,[sl [0] c4]),(5,[sl [0] c5]),(6,[si (e:=IntKind.i64.wrap ((a4:Int) * (a5:Int))) rfl]),(7,[si (e:=IntKind.i64.wrap (1+IntKind.i64.wrap ((a4:Int) * (a5:Int)))) rfl]),(8,[si (e:=IntKind.i64.wrap (next+IntKind.i64.wrap (1+IntKind.i64.wrap ((a4:Int) * (a5:Int))))) rfl])],si hw] [0,4,6,7,8,11] 5 kr (gZ R hg)))))⟩
  ·obtain ⟨a6,t6,q6,c6⟩:=(zaJ t1 2 (by first|assumption|trivial|omega|exact (fun _ r hr=>absurd hr (by simp))|(simp;done)))
   obtain ⟨a7,t7,q7,c7⟩:=(zaJ t6 2 (by first|assumption|trivial|omega|exact (fun _ r hr=>absurd hr (by simp))|(simp;done)))
   obtain ⟨uZ,nextZ,rowsZ,qZ,xZ,gZ⟩:=ih t7 (IntKind.i64.wrap (next+IntKind.i64.wrap (1+IntKind.i64.wrap ((a6:Int) * (a7:Int))))) (rows++[Rw.mk next r1]) (by omega) (by first|exact zrD hI (by assumption) (by assumption)|exact zrQ hI hkc (by assumption) (‹_=true→zcc _ _ _› (by assumption)) (by assumption) (by assumption));exact ⟨uZ,nextZ,rowsZ,qZ,xZ,fun R hg=>zab (wklN p_1 [0,4,6,7,8,11,12,13,45,46,47] 5 [(.bl 13,5)] kr (g2 _ (zab (wkl [sb q2_1,sb h3,sqx (AllLen [[iv next,AV.sl (List.map V.cells r1)]] 2∧rows.length=(List.map Rw.cells rows).length∧(((List.map Rw.cells rows).length+[[iv next,AV.sl (List.map V.cells r1)]].length) * 32).le 140737488355328),sd [(3,[sl [0] c6]),(5,[sl [0] c7]),(6,[si (e:=IntKind.i64.wrap ((a6:Int) * (a7:Int))) rfl]),(7,[si (e:=IntKind.i64.wrap (1+IntKind.i64.wrap ((a6:Int) * (a7:Int)))) rfl]),(8,[si (e:=IntKind.i64.wrap (next+IntKind.i64.wrap (1+IntKind.i64.wrap ((a6:Int) * (a7:Int))))) rfl])],si hw] [0,4,6,7,8,11] 5 kr (zan rfl (show ([Blk.box [AV.sl (List.map (fun n=>[iv n]) t7.l),iv (t7.pos:Int)],Blk.box [sv s.name,AV.sl (List.map Col.cells s.cols)],Blk.box [sv (ByteArray.mk #[]),AV.nl,iv 0,AV.nl],Blk.box [sv s.name,AV.sl (List.map Col.cells s.cols),iv (IntKind.i64.wrap (next+IntKind.i64.wrap (1+IntKind.i64.wrap ((a6:Int) * (a7:Int))))),AV.own 4 (List.map Rw.cells rows++[[iv next,AV.sl (List.map V.cells r1)]]).length],Blk.row Ty.Row (List.map Rw.cells rows++[[iv next,AV.sl (List.map V.cells r1)]]) false]:Heap)=_ by first|rfl|(simp;done)|(simp [X.cells,Qy.cells,V.cells,Col.cells,Rw.cells,Tb.cells,Fr.cells,Sch.cells,Tp.cells,Pl.cells,xCol,xLit,xBin,xNeg,Ac.cells,Se.cells,Pr.cells,Ch.cells,Rw.cells];done)) (gZ R hg))))))⟩
theorem zbg {a:Nat} (ha:(a:Int) < 3):IntKind.i64.wrap (1+(a:Int))=1+(a:Int):=by rw [IntKind.wrap_i64];omega
theorem zhe (t:Tp) (s:Sch) (n:Int) (hs:SchOk s) (hf:Few s.cols) (hn:0≤n∧n≤900) (hw:IntKind.i64.wrap (n+1)=n+1):∃ (rows:List Rw) (next:Int) (t':Tp),((rows.length:Int)≤n∧RowsV s next rows∧next≤3000)∧zaa E0 S.world_Tape_TableOf [.p 0 0,s.av,iv n] [.box t.cells] (Tb.av ⟨s,next,rows⟩) [.box t'.cells]:=by
 obtain ⟨a1,t1,q1,c1⟩:=(zaJ t 3 (by first|exact (show Int from n)|assumption|(simp only [zdS];omega)|(simp only [Pos];omega)|omega|exact ⟨by omega,rfl⟩|exact zcB (And.right ‹_∧keyC _=_›)|exact ⟨by simp;omega,RowsV.nil (by rw [zbg (by assumption)];omega),by rw [zbg (by assumption)];omega⟩))
 obtain ⟨key2,q2,q2_1,g2⟩:=zeR t s n t1 (IntKind.i64.wrap (1+(a1:Int))) (by first|exact (show Int from n)|assumption|(simp only [zdS];omega)|(simp only [Pos];omega)|omega|exact ⟨by omega,rfl⟩|exact zcB (And.right ‹_∧keyC _=_›)|exact ⟨by simp;omega,RowsV.nil (by rw [zbg (by assumption)];omega),by rw [zbg (by assumption)];omega⟩) 0 (-1) (by first|exact (show Int from n)|assumption|(simp only [zdS];omega)|(simp only [Pos];omega)|omega|exact ⟨by omega,rfl⟩|exact zcB (And.right ‹_∧keyC _=_›)|exact ⟨by simp;omega,RowsV.nil (by rw [zbg (by assumption)];omega),by rw [zbg (by assumption)];omega⟩) (by first|exact (show Int from n)|assumption|(simp only [zdS];omega)|(simp only [Pos];omega)|omega|exact ⟨by omega,rfl⟩|exact zcB (And.right ‹_∧keyC _=_›)|exact ⟨by simp;omega,RowsV.nil (by rw [zbg (by assumption)];omega),by rw [zbg (by assumption)];omega⟩)
 obtain ⟨a3,t3,q3,c3⟩:=(zaJ t1 (n+1) (by first|exact (show Int from n)|assumption|(simp only [zdS];omega)|(simp only [Pos];omega)|omega|exact ⟨by omega,rfl⟩|exact zcB (And.right ‹_∧keyC _=_›)|exact ⟨by simp;omega,RowsV.nil (by rw [zbg (by assumption)];omega),by rw [zbg (by assumption)];omega⟩))
 obtain ⟨u4,next4,rows4,q4,q4_1,g4⟩:=zeB t s key2 n (by first|exact (show Int from n)|assumption|(simp only [zdS];omega)|(simp only [Pos];omega)|omega|exact ⟨by omega,rfl⟩|exact zcB (And.right ‹_∧keyC _=_›)|exact ⟨by simp;omega,RowsV.nil (by rw [zbg (by assumption)];omega),by rw [zbg (by assumption)];omega⟩) (by first|exact (show Int from n)|assumption|(simp only [zdS];omega)|(simp only [Pos];omega)|omega|exact ⟨by omega,rfl⟩|exact zcB (And.right ‹_∧keyC _=_›)|exact ⟨by simp;omega,RowsV.nil (by rw [zbg (by assumption)];omega),by rw [zbg (by assumption)];omega⟩) (by first|exact (show Int from n)|assumption|(simp only [zdS];omega)|(simp only [Pos];omega)|omega|exact ⟨by omega,rfl⟩|exact zcB (And.right ‹_∧keyC _=_›)|exact ⟨by simp;omega,RowsV.nil (by rw [zbg (by assumption)];omega),by rw [zbg (by assumption)];omega⟩) (by first|exact (show Int from n)|assumption|(simp only [zdS];omega)|(simp only [Pos];omega)|omega|exact ⟨by omega,rfl⟩|exact zcB (And.right ‹_∧keyC _=_›)|exact ⟨by simp;omega,RowsV.nil (by rw [zbg (by assumption)];omega),by rw [zbg (by assumption)];omega⟩) a3 t3 (IntKind.i64.wrap (1+(a1:Int))) ([]) (by first|exact (show Int from n)|assumption|(simp only [zdS];omega)|(simp only [Pos];omega)|omega|exact ⟨by omega,rfl⟩|exact zcB (And.right ‹_∧keyC _=_›)|exact ⟨by simp;omega,RowsV.nil (by rw [zbg (by assumption)];omega),by rw [zbg (by assumption)];omega⟩) (by first|exact (show Int from n)|assumption|(simp only [zdS];omega)|(simp only [Pos];omega)|omega|exact ⟨by omega,rfl⟩|exact zcB (And.right ‹_∧keyC _=_›)|exact ⟨by simp;omega,RowsV.nil (by rw [zbg (by assumption)];omega),by rw [zbg (by assumption)];omega⟩)
 exact ⟨rows4,next4,u4,(by exact ⟨by omega,(‹_∧RowsV _ _ _∧_›).2.1,by omega⟩),wkc At.world_Tape_TableOf [sdm [(2,[sl [0] c1]),(3,[si (e:=IntKind.i64.wrap (1+(a1:Int))) rfl])] 0 [(0,AV.p 0 0),(1,AV.agg [sv s.name,AV.sl (List.map Col.cells s.cols)]),(2,iv n),(4,AV.p 1 0),(6,AV.p 2 0),(7,AV.p 3 0),(16,AV.agg [sv s.name,AV.sl (List.map Col.cells s.cols)]),(17,AV.p 0 0),(18,iv (a1:Int)),(19,iv (IntKind.i64.wrap (1+(a1:Int)))),(20,AV.agg [sv s.name,AV.sl (List.map Col.cells s.cols),iv (IntKind.i64.wrap (1+(a1:Int))),AV.nl])] [Blk.box [AV.sl (List.map (fun n=>[iv n]) t1.l),iv (t1.pos:Int)],Blk.box [sv s.name,AV.sl (List.map Col.cells s.cols)],Blk.box [sv (ByteArray.mk #[]),AV.nl,iv 0,AV.nl],Blk.box [sv s.name,AV.sl (List.map Col.cells s.cols),iv (IntKind.i64.wrap (1+(a1:Int))),AV.nl]]] [0,2,4,6,7,8,22,23,24] 4 kr (g2 _ (zab (wklN [sb q2_1,si hw,sl [0] c3] [0,4,6,7,8,11] 4 [(.ob 3 3 Ty.Row,5)] kr (g4 _ (zab (wkr [sqx (True∧True∧True∧rows4.length=(List.map Rw.cells rows4).length∧True),sb (rfl:false=false)] kr))))))⟩
structure StoreV (n:Int) (l:List Tb):Prop where
 schs:l.map Tb.sch=zao
 rows:∀ t∈l,RowsV t.sch t.next t.rows
 next:∀ t∈l,t.next≤3000
 len:∀ t∈l,(t.rows.length:Int)≤n
structure StoreP (n:Int) (i:Nat) (l:List Tb):Prop where
 schs:l.map Tb.sch=zao.take i
 tabs:∀ t∈l,RowsV t.sch t.next t.rows∧t.next≤3000∧(t.rows.length:Int)≤n
theorem StoreP.push {n:Int} {i:Nat} {l:List Tb} {x:Sch} {nx:Int} {rs:List Rw} (h:StoreP n i l) (hx:zao[i]?=some x) (ht:(rs.length:Int)≤n∧RowsV x nx rs∧nx≤3000):StoreP n (i+1) (l++[⟨x,nx,rs⟩]) :=
 ⟨by rw [List.map_append,h.schs,List.take_add_one,hx];rfl,fun t hm=>(List.mem_append.1 hm).elim (h.tabs t) fun h=>by simp only [List.mem_singleton] at h;subst h;exact ⟨ht.2.1,ht.2.2,ht.1⟩⟩
theorem StoreP.all {n:Int} {l:List Tb} (h:StoreP n zao.length l):StoreV n l :=
 ⟨by rw [h.schs,List.take_length],fun t ht=>(h.tabs t ht).1,fun t ht=>(h.tabs t ht).2.1,fun t ht=>(h.tabs t ht).2.2⟩
theorem StoreV.ok {n:Int} {l:List Tb} (h:StoreV n l) (hn:n≤1000:=by decide):StoreOk l :=
 ⟨by have:=congrArg List.length h.schs;simp [zao] at this;omega,fun t ht=>⟨⟨(h.rows t ht).fit,by have:=h.len t ht;omega⟩,zlS (by rw [← h.schs];exact List.mem_map_of_mem ht)⟩⟩
noncomputable def L_stV (t0:Tp) (n:Int) (i:Nat) (u:Tp) (out:List Tb):Cfg:=zal B.world_Tape_Store 0 [(0,.p 0 0),(1,iv n),(5,.own 1 out.length),(8,.sl (zao.map Sch.cells)),(9,iv ((zao.map Sch.cells).length:Nat)),(10,iv (i:Nat))] [.box u.cells,.row Ty.Table (out.map Tb.cells) false]
theorem zfr (t0:Tp) (n:Int) (hs:zac zao) (hn:0≤n∧n≤900) (i:Nat) (u:Tp) (out:List Tb) (hi:i≤(zao).length) (hI:StoreP n i out):∃ (u':Tp) (out':List Tb),(StoreP n (zao).length out')∧(decide ((((zao).length:Nat):Int) < (((zao.map Sch.cells).length:Nat):Int))=false)∧∀ R,Good E0 B.world_Tape_Store [.box t0.cells] (L_stV t0 n (zao).length u' out') R→Good E0 B.world_Tape_Store [.box t0.cells] (L_stV t0 n i u out) R:=by
 obtain ⟨kk,hk⟩:∃ kk,i+kk=(zao).length:=⟨(zao).length - i,by omega⟩
 induction kk generalizing i u out with
 | zero =>
  have e0:i=(zao).length:=by omega
  subst e0
  exact ⟨u,out,hI,by simp,fun R hg=>hg⟩
 | succ kk ih =>
  obtain ⟨x,hx⟩:=zav (l:=zao) (i:=i) (by omega)
  have h0:decide (((i:Nat):Int) < (((zao.map Sch.cells).length:Nat):Int))=true:=by simp;omega
  have hw:IntKind.i64.wrap (((i:Nat):Int)+1)=((i+1:Nat):Int):=zak i (by first|omega|(simp only [zac,Few] at *;omega))
  have hsx:=zlS (List.mem_of_getElem? hx);have hfx:=hsx.few;have hl0:out.length=(zao.take i).length:=by rw [← hI.schs];simp
  have hlen:out.length≤10:=by rw [hl0];simp only [List.length_take,zao,List.length_cons,List.length_nil];omega
  have hw1:IntKind.i64.wrap (n+1)=n+1:=by rw [IntKind.wrap_i64];omega
  obtain ⟨rows1,next1,t1,q1,c1⟩:=(zhe u x n (by first|assumption|omega|(simp;done)|(simp;omega)) (by first|assumption|omega|(simp;done)|(simp;omega)) (by first|assumption|omega|(simp;done)|(simp;omega)) (by first|assumption|omega|(simp;done)|(simp;omega)))
  obtain ⟨uZ,outZ,qZ,xZ,gZ⟩:=ih (i+1) t1 (out++[Tb.mk x next1 rows1]) (by omega) (by exact hI.push hx (by assumption)) (by omega);exact ⟨uZ,outZ,qZ,xZ,fun R hg=>zab (wkl [sb h0,se (zaf Sch.cells hx rfl),sl [0] c1,sqx (AllLen [[sv x.name,AV.sl (List.map Col.cells x.cols),iv next1,AV.sl (List.map Rw.cells rows1)]] 4∧out.length=(List.map Tb.cells out).length∧(((List.map Tb.cells out).length+[[sv x.name,AV.sl (List.map Col.cells x.cols),iv next1,AV.sl (List.map Rw.cells rows1)]].length) * 72).le 140737488355328),si hw] [0,1,5,8,9,10] 2 kr (zan (show ([(0,AV.p 0 0),(1,iv n),(5,AV.own 1 (List.map Tb.cells out++[[sv x.name,AV.sl (List.map Col.cells x.cols),iv next1,AV.sl (List.map Rw.cells rows1)]]).length),(8,AV.sl (List.map Sch.cells zao)),(9,iv (↑(List.map Sch.cells zao).length:Int)),(10,iv (↑(i+1):Int))]:TS)=_ by first|rfl|(simp;done)|(simp [X.cells,Qy.cells,V.cells,Col.cells,Rw.cells,Tb.cells,Fr.cells,Sch.cells,Tp.cells,Pl.cells,xCol,xLit,xBin,xNeg,Ac.cells,Se.cells,Pr.cells,Ch.cells,Rw.cells];done)) (show ([Blk.box [AV.sl (List.map (fun n=>[iv n]) t1.l),iv (t1.pos:Int)],Blk.row Ty.Table (List.map Tb.cells out++[[sv x.name,AV.sl (List.map Col.cells x.cols),iv next1,AV.sl (List.map Rw.cells rows1)]]) false]:Heap)=_ by first|rfl|(simp;done)|(simp [X.cells,Qy.cells,V.cells,Col.cells,Rw.cells,Tb.cells,Fr.cells,Sch.cells,Tp.cells,Pl.cells,xCol,xLit,xBin,xNeg,Ac.cells,Se.cells,Pr.cells,Ch.cells,Rw.cells];done)) (gZ R hg)))⟩
theorem ziI (t:Tp) (n:Int) (hs:zac zao) (hn:0≤n∧n≤900):∃ (r:List Tb) (t':Tp),StoreV n r∧zaa E0 S.world_Tape_Store [.p 0 0,iv n] [.box t.cells] (tsl r) [.box t'.cells]:=by
 obtain ⟨u1,out1,q1,q1_1,g1⟩:=zfr t n (by first|assumption|(simp;done)|exact ⟨rfl,fun _ h=>absurd h (by simp)⟩) (by first|assumption|(simp;done)|exact ⟨rfl,fun _ h=>absurd h (by simp)⟩) 0 t ([]) (by first|assumption|(simp;done)|exact ⟨rfl,fun _ h=>absurd h (by simp)⟩) (by first|assumption|(simp;done)|exact ⟨rfl,fun _ h=>absurd h (by simp)⟩)
 exact ⟨out1,u1,(by exact StoreP.all (by assumption)),wkcN At.world_Tape_Store [sc zhl] [0,1,5,8,9,10] 1 [(.ot 5 Ty.Table,2)] kr (g1 _ (zab (wkr [sqx (out1.length=(List.map Tb.cells out1).length),sb (rfl:false=false)] kr)))⟩
end Go.AM
namespace Go.AM
set_option maxRecDepth 100000
set_option maxHeartbeats 1000000
set_option linter.unusedSimpArgs false
set_option linter.unusedVariables false
def XFl:Nat→X→Prop
 | 0,_=>False
 | n+1,e=>e.val.Good∧Thin 3 e.args∧e.sub=[]∧∀ x∈e.args,XFl n x
theorem XFl.ok:∀ {n:Nat} {e:X},XFl n e→XOk n e
 | 0,_,h=>h.elim
 | n+1,e,⟨h1,h2,h3,h4⟩=>⟨h1,⟨h2,by rw [h3];simp⟩,fun x hx=>(h4 x hx).ok,fun q hq=>by rw [h3] at hq;cases hq⟩
theorem XFl.mono:∀ {n:Nat} {e:X},XFl n e→XFl (n+1) e
 | 0,_,h=>h.elim
 | n+1,e,⟨h1,h2,h3,h4⟩=>⟨h1,h2,h3,fun x hx=>(h4 x hx).mono⟩
end Go.AM
namespace Go.AM
set_option maxRecDepth 100000
set_option maxHeartbeats 1000000
set_option linter.unusedSimpArgs false
set_option linter.unusedVariables false
def insI:Nat→List Int→List Int
 | 0,l=>l
 | k+1,l=>bif decide (l.getD (k+1) 0 < l.getD k 0) then insI k ((l.set (k+1) (l.getD k 0)).set k (l.getD (k+1) 0)) else l
theorem zqh:∀ (k:Nat) (l:List Int),(insI k l).length=l.length
 | 0,_=>rfl
 | k+1,l=>by
  unfold insI
  cases decide (l.getD (k+1) 0 < l.getD k 0)
  ·rfl
  ·rw [cond_true,zqh];simp
def srtI:Nat→Nat→List Int→List Int
 | 0,_,l=>l
 | m+1,i,l=>srtI m (i+1) (insI i l)
def srt1 (l:List Int):List Int:=srtI (l.length - 1) 1 l
theorem zql:∀ (m i:Nat) (l:List Int),(srtI m i l).length=l.length
 | 0,_,_=>rfl
 | m+1,i,l=>by unfold srtI;rw [zql,zqh]
@[simp] theorem srt1_len (l:List Int):(srt1 l).length=l.length:=zql _ _ _
end Go.AM
namespace Go.AM
open Go.RowKit
set_option linter.unusedSimpArgs false
set_option linter.unusedVariables false
def zs4 (E:Env0) (c:Cfg):Option (TypeId × Nat × List AV):=match c.todo with
 | .ops all (o::_)::_=>match ziC all o c.ts&&zaH c.n o.dst,o.op with
  | true,.buildSlice t n parts=>match (E.T t).kind with
   | .slice el=>match fill (fun i=>some (i * (E.T el).size,(E.T el).size)) (repl (E.T el).zero n) (parts.toList.map fun (i,x)=>(i,ev E.G c.ts x)),Nat.ble (n * (E.T el).size) 16777216 with
    | some cs,true=>some (el,n,cs)
    | _,_=>none
   | _=>none
  | _,_=>none
 | _=>none
def zlj (c:Cfg) (e:TypeId) (n:Nat) (xs:List (List AV)):Cfg:=match c.todo with
 | .ops all (o::rest)::k=>⟨c.n,.ops all rest::k,put c.ts o.dst (.own c.h.length n),c.h++[.row e xs false]⟩
 | _=>c
theorem zvl {E:Env0} (ht:zaC E) {fn:Func} {h0:Heap} {c:Cfg} {R:AV→Heap→Prop} {e:TypeId} {n:Nat} {cs:List AV} (hc:zs4 E c=some (e,n,cs)) (hn0:0 < n) (ho:frzB c.h cs=none) (hm:zbn cs=[])
  (hg:Good E fn h0 (zlj c e n (zcl (E.T e).size n (frzL c.h cs))) R):Good E fn h0 c R:=by
 intro β0 S0 w0 β S w tmps hb0 hn x0 r rt
 obtain ⟨nn,todo,ts,h⟩:=c
 simp only at hn x0 r rt ho ⊢
 unfold zs4 at hc
 simp only at hc
 split at hc
 ·rename_i all o rest k
  split at hc
  ·rename_i t n' parts hchk hop
   simp only [Bool.and_eq_true] at hchk
   obtain ⟨hgo,hd⟩:=hchk
   split at hc
   ·rename_i e' hk
    split at hc
    ·rename_i cs' hf hle
     simp only [Option.some.injEq,Prod.mk.injEq] at hc
     obtain ⟨rfl,rfl,rfl⟩:=hc
     simp only [kont,Exit.then]
     refine wpList_step fun K hK=>?_
     rw [if_pos (zkv rt hgo)]
     have hpw:=zl9 r rt parts.toList
     have hle:=Nat.le_of_ble_eq_true hle
     obtain ⟨i,d,z,tok⟩:=ht.at_ (zaw (by rw [hk];simp):E.T t≠_)
     obtain ⟨rfl,hes⟩:=tok.slice_ hk
     obtain ⟨i2,d2,z2,tok2⟩:=ht.at_ (zaY hes)
     obtain ⟨z1,z3⟩:=zdb (T:=E.T) (h:=h) (β:=β) (w:=w) (S:=S) _ _ tok2.zok
     have hzl:=tok2.zlen
     have hzs:z2.cells.size=(E.T e').size:=by rw [← Array.length_toList,← z1,hzl]
     let zs:List Value:=(List.range (n' * (E.T e').size)).map fun k=>z2.cells[k % z2.cells.size]!
     have hz:PW (RelC E.T h β w S) (repl (E.T e').zero n') zs:=by
      refine ⟨by simp [zs,zcV,hzl],fun k x y hx hy=>?_⟩
      have hkl:k < n' * (E.T e').size:=by have:=(List.getElem?_eq_some_iff.1 hx).1;rwa [zcV,hzl] at this
      rw [zlY _ n' k (by rw [hzl];exact hkl),hzl] at hx
      have hkm:k % (E.T e').size < z2.cells.size:=by rw [hzs];exact Nat.mod_lt _ (by omega)
      simp [zs,hkl] at hy
      rw [hzs] at hy
      rw [getElem!_pos z2.cells _ hkm] at hy
      refine z3 _ x y hx ?_
      rw [Array.getElem?_toList,Array.getElem?_eq_getElem hkm,hy]
     obtain ⟨out',o1,o2,o3⟩:=zhY (R:=RelC E.T h β w S) rfl _ _ _ _ _ zs hpw hz hf
     have hcl:cs'.length=n' * (E.T e').size:=by rw [o3,zcV,hzl]
     obtain ⟨S1,⟨e1,r1⟩,d1⟩:=zfy E cs' h β S w out' r o2.1 (fun i x y h1 h2=>(o2.2 i x y h1 h2).1) (zrC (by rw [ho];trivial))
     rw [hm] at e1 r1
     have hmax:n'≤maxLen:=by
      have:n' * 1≤n' * (E.T e').size:=Nat.mul_le_mul_left _ (by omega)
      unfold maxLen
      omega
     have hsl:(share h [])=h:=rfl
     rw [hsl] at e1 r1
     let w':=w.alloc (.cells out'.toArray e')
     have hb:Below w.heap.size w w':=(Below.refl _ _).alloc (Nat.le_refl _) _
     have hnew:w'.heap[w.heap.size]?=some (.cells out'.toArray e' (0,0)):=heap_alloc_new w _
     have hsz:w'.heap.size=w.heap.size+1:=by simp [w']
     have hol:out'.length=n' * (E.T e').size:=by rw [← o2.1,hcl]
     have hxl:(frzL h cs').length=n' * (E.T e').size:=by rw [zci,hcl]
     have hrow:zdE E.T w' S1 e' (zcl (E.T e').size n' (frzL h cs')) (.row w.heap.size n'):=by
      refine ⟨out'.toArray,hnew,by rw [zbK];exact Nat.le_refl _,hn0,hmax,by simpa using hol,fun i c hi=>?_,fun i j c x hi hj=>?_⟩
      ·have hin:i < n':=by have:=(List.getElem?_eq_some_iff.1 hi).1;rwa [zbK] at this
       rw [zeS _ n' _ i hin] at hi
       cases hi
       have:(i+1) * (E.T e').size≤n' * (E.T e').size:=Nat.mul_le_mul_right _ hin
       rw [Nat.add_mul,Nat.one_mul] at this
       simp
       omega
      ·have hin:i < n':=by have:=(List.getElem?_eq_some_iff.1 hi).1;rwa [zbK] at this
       rw [zeS _ n' _ i hin] at hi
       cases hi
       rw [List.getElem?_take] at hj
       split at hj
       ·rename_i hjs
        rw [List.getElem?_drop] at hj
        have hlt:=(List.getElem?_eq_some_iff.1 hj).1
        have hlt2:i * (E.T e').size+j < out'.length:=by rw [hol,← hxl];exact hlt
        have hvj:out'[i * (E.T e').size+j]?=some (out'[i * (E.T e').size+j]'hlt2):=List.getElem?_eq_getElem hlt2
        refine ⟨out'[i * (E.T e').size+j]'hlt2,by simp,(d1 _ _ _ hj hvj).mono (fun _ h=>h) fun a ha=>hb.cell (r1.stable a ha),zhk o2 _ (List.mem_of_getElem? hvj)⟩
       ·cases hj
     obtain ⟨e2,r2⟩:=r1.newRow e' (zcl (E.T e').size n' (frzL h cs')) false (.row w.heap.size n') hb (fun g hg=>by
      simp only [Con.blk,Option.some.injEq] at hg
      subst hg
      exact ⟨Nat.le_refl _,by omega⟩) hrow
     have hkg:(β++[Con.row w.heap.size n'])[h.length]?=some (.row w.heap.size n'):=by rw [← r.len,getElem?_append_new]
     have hgt:¬ (n' * (E.T e').size > 2 ^ 24):=by omega
     have hrun:(execOp (Act.eval ⟨tmps,[]⟩) o).run E.P w=.ok (.value (.slice (some ⟨w.heap.size,0,none⟩) n' n')) w':=by
      have h0:¬ (n' * (E.T e').size=0):=by
       have:=Nat.mul_pos hn0 (Nat.pos_of_ne_zero hes);omega
      have harr:(Array.range (n' * (E.T e').size)).map (fun k=>z2.cells[k % z2.cells.size]!)=zs.toArray:=by
       apply Array.ext'
       simp [zs,Array.toList_map,Array.toList_range]
      simp only [execOp,hop,Instr.buildSlice,Sem.run_bind,run_underlying tok.und,Result.andThen_ok,tok2.sizeOf,if_neg hgt,Sem.run_ite,if_neg h0,tok2.zeroValue,harr,Array.toList_map,o1,Sem.run_pure,newRow,run_newObj]
      simp [w']
     unfold Oper.wp
     rw [hrun,Oper.upon_value,zbH]
     refine hK _ _ ?_
     have ee:=e1.trans e2
     have rt':zax E.T (h++[.row e' (zcl (E.T e').size n' (frzL h cs')) false]) (β++[Con.row w.heap.size n']) w' S1 ts tmps:=fun t=>(rt t).ext ee
     have:=hg β0 S0 w0 _ S1 w' (Act.put ⟨tmps,[]⟩ o.dst (.slice (some ⟨w.heap.size,0,none⟩) n' n')).tmps hb0 (by simp only [zlj];rw [zb1];exact hn) (x0.trans ee) r2
      (rt'.put (by rw [hn];exact hd) (.own h.length n' _ e' _ false (getElem?_append_new _ _) (by rw [zbK];exact Nat.le_refl _) (fun _=>by rw [hkg];rfl) rfl))
     simp only [zlj,kont,Exit.then] at this
     exact this
    ·cases hc
   ·cases hc
  ·cases hc
 ·cases hc
end Go.AM
namespace Go.AM
structure InsI (l:List Lk) (x:Lk) (i:Nat) (out:List Lk) (done:Bool):Prop where
 nd:out.Nodup
 sub:∀ z∈out,z=x∨z∈l.take i
 sup:∀ z∈l.take i,z=x∨z∈out
 dn:x∈out↔done=true
theorem zki {α:Type}:∀ (l m:List α),l.Nodup→(∀ x∈l,x∈m)→l.length≤m.length
 | [],_,_,_=>by simp
 | x::r,m,hn,hs=>by
  haveI:DecidableEq α:=fun a b=>Classical.propDecidable (a=b)
  rw [List.nodup_cons] at hn
  have hx:x∈m:=hs x (by simp)
  have h1:=zki r (m.erase x) hn.2 fun y hy=>(List.mem_erase_of_ne (by rintro rfl;exact hn.1 hy)).2 (hs y (by simp [hy]))
  rw [List.length_erase_of_mem hx] at h1
  have h2:=List.length_pos_of_mem hx
  simp only [List.length_cons]
  omega
theorem InsI.len {l:List Lk} {u:Lk} {i:Nat} {out:List Lk} {d:Bool} (h:InsI l u i out d):out.length≤i+1:=by
 have:=zki out (u::l.take i) h.nd fun z hz=>by simpa using h.sub z hz
 simp only [List.length_cons,List.length_take] at this
 omega
theorem InsI.add {l:List Lk} {u:Lk} {i:Nat} {out:List Lk} {d:Bool} (h:InsI l u i out d) (e:(!d)=true):InsI l u i (out++[u]) true:=by
 have hnu:u ∉ out:=fun hu=>by have:=h.dn.1 hu;subst this;simp at e
 refine ⟨?_,fun z hz=>?_,fun z hz=>?_,by simp⟩
 ·refine List.nodup_append.2 ⟨h.nd,by simp,fun a ha b hb=>?_⟩
  simp only [List.mem_singleton] at hb
  subst hb
  rintro rfl
  exact hnu ha
 ·simp only [List.mem_append,List.mem_singleton] at hz
  rcases hz with hz|hz
  ·exact h.sub z hz
  ·exact .inl hz
 ·simp only [List.mem_append,List.mem_singleton]
  rcases h.sup z hz with h2|h2
  ·exact .inl h2
  ·exact .inr (.inl h2)
structure InsR (l:List Lk) (u:Lk) (r:List Lk):Prop where
 nd:r.Nodup
 sub:∀ z∈r,z=u∨z∈l
 sup:∀ z∈l,z∈r
theorem InsI.done {l:List Lk} {u:Lk} {out:List Lk} {d:Bool} (h:InsI l u l.length out d) (e:(!d)=false):InsR l u out:=by
 have hd:d=true:=by simpa using e
 have hu:=h.dn.2 hd
 refine ⟨h.nd,fun z hz=>by simpa using h.sub z hz,fun z hz=>?_⟩
 rcases h.sup z (by simpa using hz) with rfl|h1
 ·exact hu
 ·exact h1
structure LkN (N:List Str) (l:List Lk):Prop where
 nd:l.Nodup
 mem:∀ z∈l,z.fst∈N∧z.snd∈N
theorem InsR.lk {N:List Str} {l:List Lk} {u:Lk} {r:List Lk} (h:InsR l u r) (hl:LkN N l) (h1:u.fst∈N) (h2:u.snd∈N):LkN N r :=
 ⟨h.nd,fun z hz=>by rcases h.sub z hz with rfl|hz;exact ⟨h1,h2⟩;exact hl.mem z hz⟩
theorem zqs {α β:Type} (f:α→List β) (k:Nat) (hf:∀ a,(f a).length=k):∀ l:List α,(l.flatMap f).length=l.length * k
 | []=>by simp
 | a::r=>by rw [List.flatMap_cons,List.length_append,hf,zqs f k hf r,List.length_cons,Nat.add_mul];omega
theorem LkN.len {N:List Str} {l:List Lk} (h:LkN N l):l.length≤N.length * N.length:=by
 have h1:=zki l (N.flatMap fun a=>N.map fun b=>⟨a,b⟩) h.nd fun z hz=>by
  simp only [List.mem_flatMap,List.mem_map]
  exact ⟨z.fst,(h.mem z hz).1,z.snd,(h.mem z hz).2,by cases z;rfl⟩
 have h2:(N.flatMap fun a=>N.map fun b=>(⟨a,b⟩:Lk)).length=N.length * N.length:=by
  exact zqs _ _ (fun a=>by simp) N
 omega
end Go.AM
namespace Go.AM
set_option maxRecDepth 100000
set_option maxHeartbeats 1000000
set_option linter.unusedSimpArgs false
set_option linter.unusedVariables false
abbrev zms (N:List Str) (l out:List Lk):Prop:=LkN N out∧∀ z∈l,z∈out
theorem zms.short {N:List Str} {l out:List Lk} (h:zms N l out) (hN:N.length≤1000):zac out:=by
 have h1:=h.1.len
 have h2:=Nat.mul_le_mul hN hN
 simp only [zac];omega
theorem zms.ins {N:List Str} {l out:List Lk} {a b:Lk} {i j:Nat} {r:List Lk} (h:zms N l out) (hl:LkN N l) (hx:l[i]?=some a) (hy:l[j]?=some b) (hr:InsR out ⟨a.fst,b.snd⟩ r):zms N l r :=
 ⟨hr.lk h.1 (hl.mem a (List.mem_of_getElem? hx)).1 (hl.mem b (List.mem_of_getElem? hy)).2,fun z hz=>hr.sup z (h.2 z hz)⟩
end Go.AM
namespace Go.AM
set_option maxRecDepth 100000
set_option maxHeartbeats 1000000
set_option linter.unusedSimpArgs false
set_option linter.unusedVariables false
theorem LkN.short {N:List Str} {l:List Lk} (h:LkN N l) (hN:N.length≤1000):zac l:=by
 have h1:=h.len
 have h2:=Nat.mul_le_mul hN hN
 simp only [zac];omega
end Go.AM
namespace Go.AM
set_option maxRecDepth 100000
set_option maxHeartbeats 1000000
set_option linter.unusedSimpArgs false
set_option linter.unusedVariables false
structure GenOk (x:Tg):Prop where
 ok:TgOk 6 x
 set:∀ a∈x.acts,AcSet a
structure CertOk (x x':Tg):Prop where
 gen:GenOk x→GenOk x'
 name:x'.name=x.name
 table:x'.table=x.table
 prec:x'.prec=x.prec
 foll:x'.foll=x.foll
theorem zvF {n:Nat} (a b:Str):XOk (n+1) (xCol a b):=⟨zaD,⟨by simp [xCol,Few],by simp [xCol,Few]⟩,by simp [xCol],by simp [xCol]⟩
end Go.AM
namespace Go.AM
set_option maxRecDepth 100000
set_option maxHeartbeats 1000000
set_option linter.unusedSimpArgs false
set_option linter.unusedVariables false
structure SetsOk (i:Nat) (sets:List Se):Prop where
 len:sets.length≤i
 ex:∀ s∈sets,XOk 5 s.ex
 two:i≤2
end Go.AM
namespace Go.AM
set_option maxRecDepth 100000
set_option maxHeartbeats 1000000
set_option linter.unusedSimpArgs false
set_option linter.unusedVariables false
structure DmlIn (n:Nat) (a:Ac) (frs:List Fr) (tb:List Tb):Prop where
 ac:AcOk n a
 kd:1≤a.kind∧a.kind≤3
 fo:FsOk (n+1) frs
 fg:FsG frs
 to:TbOk tb
 tg:TbG tb
 tv:∀ x∈tb,∀ r∈x.rows,zac r.vals
abbrev evI (n:Nat) (frs:List Fr) (s:Sch) (tb:List Tb) (r:Rw):X→V × Int:=fun x=>eval n x (za3 frs s r.vals) tb
def cTr (n:Nat) (a:Ac) (frs:List Fr) (s:Sch) (tb:List Tb) (r:Rw):Bool × Int:=zcz (evI n frs s tb r) a.wh
def cAg (n:Nat) (a:Ac) (frs:List Fr) (s:Sch) (tb:List Tb) (r:Rw):List V × Int:=asgn (evI n frs s tb r) a s r.vals (za3 frs s r.vals) tb
def cIns (n:Nat) (a:Ac) (frs:List Fr) (s:Sch) (tb:List Tb):List (List V) × Int:=insB (fun x=>eval n x frs tb) (fun q=>zvE n q frs tb) s a
def pcand (n:Nat) (a:Ac) (frs:List Fr) (tb:List Tb):Ch × Int :=
 bif (tgt a (actB (vX n) a) tb).2 != 0 then candE a (tgt a (actB (vX n) a) tb).1 (tgt a (actB (vX n) a) tb).2
 else bif a.kind==1 then candI (cIns n a frs (tabC tb a.table).sch tb) a
 else bif a.kind==3 then candD (cTr n a frs (tabC tb a.table).sch tb) a (tabC tb a.table).sch frs tb
 else candU (cTr n a frs (tabC tb a.table).sch tb) (cAg n a frs (tabC tb a.table).sch tb) a (tabC tb a.table).sch frs tb
section
variable {n : Nat} {a : Ac} {frs : List Fr} {tb : List Tb}
theorem DmlIn.target (h:DmlIn n a frs tb):zaa E0 S.dml_target [a.av,tsl tb] [] (.tup [(tgt a (actB (vX n) a) tb).1.av,iv (tgt a (actB (vX n) a) tb).2]) []:=by
 have hk:=h.kd
 exact zpy a (actB (vX n) a) tb (by simp;omega) (by simp;omega) h.to.len h.to.cols (zi4 h.ac hk)
theorem DmlIn.ins (h:DmlIn n a frs tb) {t:Tb} (ht:t∈tb) {r:Rw} (hr:r∈t.rows):FsOk n (za3 frs t.sch r.vals)∧FsG (za3 frs t.sch r.vals) :=
 ⟨h.fo.eins (t:=t) (h.to.cols t ht) (h.tg.vals t ht r hr),h.fg.ins (t:=t) (h.tg.vals t ht r hr)⟩
end
end Go.AM
namespace Go.AM
set_option maxRecDepth 100000
set_option maxHeartbeats 1000000
set_option linter.unusedSimpArgs false
set_option linter.unusedVariables false
section
variable {n : Nat} {a : Ac} {frs : List Fr} {tb : List Tb}
end
abbrev sN:Str:=⟨#[110]⟩
end Go.AM
namespace Go.AM
set_option maxRecDepth 100000
set_option maxHeartbeats 1000000
set_option linter.unusedSimpArgs false
set_option linter.unusedVariables false
theorem zim {α:Type} {p:α→Bool} {l:List α} {i:Nat} {x:α} {z:Int} (h:z=idxF p (l.drop i) i) (hx:l[i]?=some x) (hp:p x=false):z=idxF p (l.drop (i+1)) (i+1):=by
 rw [zaR hx] at h;rw [h];simp only [idxF,hp,cond_false]
theorem zkh {α:Type} {p:α→Bool} {l:List α} {i:Nat} {x:α} {z:Int} (h:z=idxF p (l.drop i) i) (hx:l[i]?=some x) (hp:p x=true):((i:Nat):Int)=z:=by
 rw [zaR hx] at h;rw [h];simp only [idxF,hp,cond_true]
theorem zgU {α:Type} {p:α→Bool} {l:List α} {z:Int} (h:z=idxF p (l.drop l.length) l.length):-1=z:=by
 rw [List.drop_length] at h;rw [h];rfl
end Go.AM
namespace Go.AM
set_option maxRecDepth 100000
set_option maxHeartbeats 1000000
set_option linter.unusedSimpArgs false
set_option linter.unusedVariables false
abbrev acD (w:Str) (x:X):Ac:=⟨3,w,[],[],[],[x],⟨#[]⟩⟩
abbrev acU (w:Str) (c:Str) (v x:X):Ac:=⟨2,w,[],[],[⟨c,v⟩],[x],⟨#[]⟩⟩
abbrev xOne:X:=xLit ⟨1,1,⟨#[]⟩⟩
abbrev xNotE (e:X):X:=X.mk 3 0 false ⟨0,0,⟨#[]⟩⟩ ⟨#[]⟩ ⟨#[]⟩ [e] []
abbrev xNulE (e:X):X:=X.mk 6 0 false ⟨0,0,⟨#[]⟩⟩ ⟨#[]⟩ ⟨#[]⟩ [e] []
abbrev tcEs (e:X):List X:=[e,xNotE e,xNulE e]
def tcD (m:List Tb) (w:Str) (e:X) (j:Nat):Ch × Int:=pcand (bif j==0 then 5 else 6) (acD w ((tcEs e).getD j e)) [] m
def tcU (m:List Tb) (w:Str) (e:X) (j:Nat):Ch × Int:=pcand (bif j==0 then 5 else 6) (acU w sN xOne ((tcEs e).getD j e)) [] m
structure TcOk (cd cu:Ch × Int):Prop where
 code:cd.2=cu.2
 ids:cu.1.upd.map Pr.id=cd.1.del
 len:cd.1.del.length≤900
abbrev tcAll (m:List Tb) (w:Str) (e:X) (i:Nat):List Int:=(List.range i).flatMap (fun j=>(tcD m w e j).1.del)
structure TcIn (m:List Tb) (w:Str) (e:X):Prop where
 cd:∀ j x,(tcEs e)[j]?=some x→Pure S.dml_Candidates [(acD w x).av,fsl [],tsl m] (.tup [(tcD m w e j).1.av,iv (tcD m w e j).2])
 cu:∀ j x,(tcEs e)[j]?=some x→Pure S.dml_Candidates [(acU w sN xOne x).av,fsl [],tsl m] (.tup [(tcU m w e j).1.av,iv (tcU m w e j).2])
 ok:∀ j,j < 3→TcOk (tcD m w e j) (tcU m w e j)
 fin:(∀ j,j < 3→(tcD m w e j).2=0)→srt1 (tcAll m w e 3)=(tabC m w).rows.map Rw.id∧(tcAll m w e 3).length≤12
 tab:decide (idxF (fun t=>zaA t w) m 0 < 0)=false
 rows:(tabC m w).rows.length≤1000
theorem TcOk.eq {cd cu:Ch × Int} (h:TcOk cd cu) {ids:List Int} (hi:ids.length≤cu.1.upd.length∧ids=(cu.1.upd.take cu.1.upd.length).map Pr.id):ids=cd.1.del:=by
 rw [hi.2,List.take_length];exact h.ids
end Go.AM
namespace Go.AM
set_option maxRecDepth 100000
set_option maxHeartbeats 1000000
set_option linter.unusedSimpArgs false
set_option linter.unusedVariables false
/- ### the order of values -/
theorem zla {a b:Int} (h:a < b):cmpI a b=-1:=by simp [cmpI,h]
theorem zk7 {a b:Int} (h:a=b):cmpI a b=0:=by simp [cmpI,h]
theorem zkW {a b:Int} (h:b < a):cmpI a b=1:=by
 have:¬ a < b:=by omega
 simp [cmpI,h,this]
/- ### least and greatest items -/
/- ### sums -/
end Go.AM
namespace Go.AM
set_option maxRecDepth 100000
set_option maxHeartbeats 1000000
set_option linter.unusedSimpArgs false
set_option linter.unusedVariables false
/- ### sorting -/
/- ### the tables -/
theorem StoreV.short {n:Int} {m:List Tb} (h:StoreV n m) (hn:n≤1000):∀ x∈m,∀ r∈x.rows,zac r.vals:=fun x hx r hr=>by
 have h1:=((h.rows x hx).fit r hr).len
 have h2:=((h.ok hn).tabs x hx).2.few
 have h3:r.vals.length=x.sch.cols.length:=h1
 simp only [zac,Few] at *;omega
/- ### the codes -/
/- ### three values -/
end Go.AM
namespace Go.AM
set_option maxRecDepth 100000
set_option maxHeartbeats 1000000
set_option linter.unusedSimpArgs false
set_option linter.unusedVariables false
def fit4 (c:Col) (v:V):Int :=
 bif v.kind==0 then
  bif c.notNull then
   8
  else
   0
 else
  bif v.kind != c.type then
   5
  else
   0
def fitL:List Col→List V→Int
 | c::cs,v::vs=>bif fit4 c v != 0 then fit4 c v else fitL cs vs
 | _,_=>0
def fit5 (s:Sch) (l:List V):Int:=bif l.length != s.cols.length then 17 else fitL s.cols l
theorem zuA {cs:List Col} {vs:List V} {i:Nat} {c:Col} {v:V} {z:Int} (h:z=fitL (cs.drop i) (vs.drop i)) (hc:cs[i]?=some c) (hv:vs[i]?=some v) (h0:(fit4 c v != 0)=false):z=fitL (cs.drop (i+1)) (vs.drop (i+1)):=by
 rw [zaR hc,zaR hv] at h;rw [h];simp only [fitL,h0,cond_false]
theorem zvh {cs:List Col} {vs:List V} {i:Nat} {c:Col} {v:V} {z:Int} (h:z=fitL (cs.drop i) (vs.drop i)) (hc:cs[i]?=some c) (hv:vs[i]?=some v) (h0:(fit4 c v != 0)=true):fit4 c v=z:=by
 rw [zaR hc,zaR hv] at h;rw [h];simp only [fitL,h0,cond_true]
theorem zvK {cs:List Col} {vs:List V} {n:Nat} {z:Int} (h:z=fitL (cs.drop n) (vs.drop n)) (hn:n=cs.length):0=z:=by
 rw [h,hn,List.drop_length];rfl
def fnd7 (n:Int):List Pr→List V × Bool
 | []=>([],false)
 | p::r=>bif p.id==n then (p.nw,true) else fnd7 n r
end Go.AM
namespace Go.AM
set_option maxRecDepth 100000
set_option maxHeartbeats 1000000
set_option linter.unusedSimpArgs false
set_option linter.unusedVariables false
abbrev anyI (ks:List Int) (n:Int):Bool:=ks.any fun x=>x==n
theorem zl5 {ks:List Int} {n:Int}:anyI ks n=true↔n∈ks:=by
 simp [anyI]
/- values -/
abbrev itV (v:V):AV × AV:=(v.av,bv true)
def eqV (a b:V):Bool:=a.kind==b.kind&&(a.int==b.int&&(a.text==b.text&&true))
theorem zll {a b:V}:eqV a b=true↔a=b:=by
 obtain ⟨k,i,t⟩:=a;obtain ⟨k',i',t'⟩:=b
 constructor
 ·intro h
  simp only [eqV,Bool.and_eq_true,Bool.and_true,beq_iff_eq] at h
  obtain ⟨rfl,rfl,h⟩:=h
  rw [bb_eq h]
 ·intro h;cases h;simp [eqV,zr0]
abbrev anyV (ks:List V) (n:V):Bool:=ks.any fun x=>eqV n x
theorem zlf (n m:V):zcQ n.av m.av (eqV n m):=⟨true,[.int .i64 n.kind,.int .i64 n.int,.string n.text],[.int .i64 m.kind,.int .i64 m.int,.string m.text],rfl,rfl,by simp [zbd,zdp,eqV]⟩
theorem zje {ks:List V} {n:V}:anyV ks n=true↔n∈ks:=by
 simp only [anyV,List.any_eq_true,zll]
 constructor
 ·rintro ⟨x,hx,rfl⟩;exact hx
 ·intro h;exact ⟨n,h,rfl⟩
theorem zrS {ks:List V} {n:V} (h:anyV ks n=false):n ∉ ks:=fun hm=>by rw [zje.2 hm] at h;cases h
theorem zrw (ks:List V) (n:V) (h:anyV ks n=false):PutAt (ks.map itV) n.av (bv true) ((ks++[n]).map itV):=by
 refine .new (fun p hp=>?_) ?_
 ·obtain ⟨m,hm,rfl⟩:=List.mem_map.1 hp
  have h1:=zlf n m
  have h2:eqV n m=false:=by
   cases he:eqV n m
   ·rfl
   ·exact absurd (zll.1 he ▸ hm) (zrS h)
  rwa [h2] at h1
 ·rw [List.map_append];exact List.perm_append_comm
theorem lookV (ks:List V) (n:V):LookAt (ks.map itV) n.av (bif anyV ks n then some (bv true) else none) where
 all:=fun p hp=>by obtain ⟨m,hm,rfl⟩:=List.mem_map.1 hp;exact ⟨_,zlf n m⟩
 at_:=fun p hp h=>by
  obtain ⟨m,hm,rfl⟩:=List.mem_map.1 hp
  have h1:eqV n m=true:=zcQ.det (zlf n m) h
  have:n∈ks:=zll.1 h1 ▸ hm
  rw [zje.2 this];rfl
 some_:=fun x hx=>by
  cases h:anyV ks n
  ·rw [h] at hx;cases hx
  ·have hm:=zje.1 h
   refine ⟨itV n,List.mem_map.2 ⟨n,hm,rfl⟩,?_⟩
   have:=zlf n n;rwa [zll.2 rfl] at this
theorem zl4 (ks:List V) (n:V):LookV (ks.map itV) n.av (.bl false) (bv (anyV ks n)) :=
 ⟨_,lookV ks n,by cases anyV ks n <;> first|exact .inr rfl|exact .inl rfl⟩
def zcO (kc:Int) (r:Rw):Option V:=bif decide (0≤kc)&&decide (kc < ((r.vals.map V.cells).length:Int)) then some (zaB r.vals kc) else none
def zbc (kc:Int) (l:List Rw):List V:=l.filterMap (zcO kc)
theorem zkA {kc:Int} {l:List Rw} {i:Nat} {x:Rw} (hx:l[i]?=some x):zbc kc (l.take (i+1))=zbc kc (l.take i)++(zcO kc x).toList:=by
 unfold zbc
 rw [List.take_add_one,hx,List.filterMap_append]
 cases h:zcO kc x <;> simp [h]
theorem zrO {kc:Int} {l:List Rw} {i:Nat} {x:Rw} {ks:List V} (hI:ks=zbc kc (l.take i)∧ks.Nodup) (hx:l[i]?=some x) (h:zcO kc x=none):ks=zbc kc (l.take (i+1))∧ks.Nodup:=by
 rw [zkA hx,h];simpa using hI
theorem zuM {kc:Int} {l:List Rw} {i:Nat} {x:Rw} {ks:List V} {v:V} (hI:ks=zbc kc (l.take i)∧ks.Nodup) (hx:l[i]?=some x) (h:zcO kc x=some v) (hn:anyV ks v=false):ks++[v]=zbc kc (l.take (i+1))∧(ks++[v]).Nodup:=by
 rw [zkA hx,h]
 refine ⟨by rw [hI.1];rfl,?_⟩
 rw [List.nodup_append]
 exact ⟨hI.2,by simp,fun a ha b hb=>by simp only [List.mem_singleton] at hb;subst hb;rintro rfl;exact zrS hn ha⟩
theorem du_dup {kc:Int} {l:List Rw} {i:Nat} {x:Rw} {ks:List V} {v:V} (hI:ks=zbc kc (l.take i)∧ks.Nodup) (hx:l[i]?=some x) (h:zcO kc x=some v) (hn:anyV ks v=true):¬ (zbc kc l).Nodup:=by
 intro hd
 have h1:zbc kc l=zbc kc (l.take (i+1))++zbc kc (l.drop (i+1)):=by unfold zbc;rw [← List.filterMap_append,List.take_append_drop]
 rw [h1,zkA hx,h] at hd
 have h2:=(List.nodup_append.1 hd).1
 have h3:=(List.nodup_append.1 h2).2.2 v (by rw [← hI.1];exact zje.1 hn) v (by simp)
 exact h3 rfl
theorem zwc {kc:Int} {x:Rw} (h:decide ((0:Int)≤kc)=false):zcO kc x=none:=by simp only [zcO,h,Bool.false_and,cond_false]
theorem zwH {kc:Int} {x:Rw} (h:decide (kc < ((x.vals.map V.cells).length:Int))=false):zcO kc x=none:=by simp only [zcO,h,Bool.and_false,cond_false]
theorem zwp {kc:Int} {x:Rw} (h:decide ((0:Int)≤kc)=true) (h2:decide (kc < ((x.vals.map V.cells).length:Int))=true):zcO kc x=some (zaB x.vals kc):=by simp only [zcO,h,h2,Bool.and_self,cond_true]
end Go.AM
namespace Go.AM
set_option maxRecDepth 100000
set_option maxHeartbeats 1000000
set_option linter.unusedSimpArgs false
set_option linter.unusedVariables false
structure ColV (s:Sch) (i:Nat) (x:Col):Prop where
 name:(!za7 x.name)=false
 lo:decide (x.type < 1)=false
 hi:decide ((3:Int) < x.type)=false
 key:x.key=true→x.notNull=true
 at_:(idxF (fun c=>colC c x.name) s.cols 0 != ((i:Nat):Int))=false
structure SchV (s:Sch):Prop where
 name:(!za7 s.name)=false
 lo:decide (((s.cols.map Col.cells).length:Int) < 1)=false
 hi:decide ((6:Int) < ((s.cols.map Col.cells).length:Int))=false
 cols:∀ i x,s.cols[i]?=some x→ColV s i x
 keys:s.cols.countP (fun c=>c.key)≤1
theorem SchV.short {s:Sch} (h:SchV s):zac s.cols:=by have:=h.hi;simp only [List.length_map,decide_eq_false_iff_not] at this;simp only [zac];omega
theorem znV {l:List Col} {i k:Nat} {x:Col} (h:k=(l.take i).countP (fun c=>c.key)) (hx:l[i]?=some x) (hk:x.key=true):k+1=(l.take (i+1)).countP (fun c=>c.key):=by
 rw [List.take_add_one,hx,List.countP_append,h];simp [hk]
theorem zn9 {l:List Col} {i k:Nat} {x:Col} (h:k=(l.take i).countP (fun c=>c.key)) (hx:l[i]?=some x) (hk:x.key=false):k=(l.take (i+1)).countP (fun c=>c.key):=by
 rw [List.take_add_one,hx,List.countP_append,h];simp [hk]
end Go.AM
namespace Go.AM
set_option maxRecDepth 100000
set_option maxHeartbeats 1000000
set_option linter.unusedSimpArgs false
set_option linter.unusedVariables false
def get6 (n:Int):List Rw→List V × Bool
 | []=>([],false)
 | r::l=>bif r.id==n then (r.vals,true) else get6 n l
end Go.AM
namespace Go.AM
set_option maxRecDepth 100000
set_option maxHeartbeats 1000000
set_option linter.unusedSimpArgs false
set_option linter.unusedVariables false
structure TabV (t:Tb):Prop where
 sch:SchV t.sch
 len:decide ((100:Int) < ((t.rows.map Rw.cells).length:Int))=false
 rows:RowsV t.sch t.next t.rows
 max:decide ((2147483648:Int) < t.next)=false
 key:idxF (fun c=>c.key) t.sch.cols 0=keyC t.sch
theorem TabV.shr {t:Tb} (h:TabV t):zac t.rows:=by have:=h.len;simp only [List.length_map,decide_eq_false_iff_not] at this;simp only [zac];omega
theorem TabV.vals {t:Tb} (h:TabV t):∀ r∈t.rows,zac r.vals:=fun r hr=>by
 have h1:=(h.rows.fit r hr).len
 have h2:=h.sch.short
 have h3:r.vals.length=t.sch.cols.length:=h1
 simp only [zac] at *;omega
theorem zwi {c:Col} {v:V} (h:ValOk c v) (hc:zfJ c):fit4 c v=0:=by
 unfold fit4
 cases h0:v.kind==0
 ·have hk:v.kind=c.type:=h.kind.resolve_left (by simpa using h0)
  simp [hk]
 ·have h1:v.kind=0:=by simpa using h0
  cases hn:c.notNull
  ·rfl
  ·have:=h.nn hn;simp only [zfJ] at hc;omega
theorem zrF:∀ (cs:List Col) (vs:List V),(∀ c∈cs,zfJ c)→(∀ (k:Nat) (c:Col) (v:V),cs[k]?=some c→vs[k]?=some v→ValOk c v)→fitL cs vs=0
 | [],_,_,_=>by unfold fitL;rfl
 | _::_,[],_,_=>rfl
 | c::cs,v::vs,hc,h=>by
  have h0:=zwi (h 0 c v rfl rfl) (hc c (by simp))
  simp only [fitL,h0,bne_self_eq_false,cond_false]
  exact zrF cs vs (fun c h=>hc c (by simp [h])) fun k c v h1 h2=>h (k+1) c v (by simpa using h1) (by simpa using h2)
theorem SchV.cok {s:Sch} (h:SchV s):∀ c∈s.cols,zfJ c:=fun c hc=>by
 obtain ⟨i,hi⟩:=List.getElem?_of_mem hc
 have h1:=(h.cols i c hi).lo
 have h2:=(h.cols i c hi).hi
 simp only [decide_eq_false_iff_not] at h1 h2
 simp only [zfJ];omega
theorem znw {s:Sch} {vs:List V} (hs:SchV s) (h:zbU s.cols vs):fit5 s vs=0:=by
 unfold fit5
 rw [show (vs.length != s.cols.length)=false by have:=h.len;simpa using this]
 exact zrF _ _ hs.cok h.at_
theorem zdu {cols:List Col} {vals:List V} (h:zbU cols vals):∀ v∈vals,v.Good:=PrefOk.good h
theorem asc_at {α:Type} {f:α→Int} {l:List α} (h:l.Pairwise fun a b=>f a < f b) {i:Nat} {x y:α} (hx:l[i]?=some x) (h1:1≤i) (hl:i≤1000000000) (hy:AtI l (IntKind.i64.wrap (((i:Nat):Int) - 1)) y):decide (f x≤f y)=false:=by
 have e:IntKind.i64.wrap (((i:Nat):Int) - 1)=((i - 1:Nat):Int):=by rw [IntKind.wrap_i64];omega
 rw [e] at hy
 have h2:l[i - 1]?=some y:=by simpa using hy.2
 obtain ⟨a1,a2⟩:=List.getElem?_eq_some_iff.1 hx
 obtain ⟨b1,b2⟩:=List.getElem?_eq_some_iff.1 h2
 have:=List.pairwise_iff_getElem.1 h (i - 1) i b1 a1 (by omega)
 rw [a2,b2] at this
 rw [decide_eq_false_iff_not];omega
theorem byte_i {α:Type} {l:List α} {i:Nat} {x:α} (hx:l[i]?=some x) (h1:1≤i) (hl:i≤1000000000):0≤IntKind.i64.wrap (((i:Nat):Int) - 1)∧IntKind.i64.wrap (((i:Nat):Int) - 1) < ((l.length:Nat):Int):=by
 have:=(List.getElem?_eq_some_iff.1 hx).1
 rw [IntKind.wrap_i64];omega
theorem zm7 {kc:Int}:∀ (l:List Rw),(0≤kc→l.Pairwise fun a b=>zaB a.vals kc≠zaB b.vals kc)→(zbc kc l).Nodup
 | [],_=>by simp [zbc]
 | r::l,h=>by
  have ih:=zm7 l fun hk=>(List.pairwise_cons.1 (h hk)).2
  unfold zbc at ih ⊢
  rw [List.filterMap_cons]
  cases hr:zcO kc r with
  | none=>exact ih
  | some v =>
   refine List.nodup_cons.2 ⟨fun hm=>?_,ih⟩
   obtain ⟨q,hq,hv⟩:=List.mem_filterMap.1 hm
   unfold zcO at hr hv
   by_cases hk:0≤kc
   ·cases c1:decide (kc < ((r.vals.map V.cells).length:Int)) <;> rw [c1] at hr
    ·simp at hr
    ·cases c2:decide (kc < ((q.vals.map V.cells).length:Int)) <;> rw [c2] at hv
     ·simp at hv
     ·simp only [hk,decide_true,Bool.and_self,cond_true,Option.some.injEq] at hr hv
      exact (List.pairwise_cons.1 (h hk)).1 q hq (hr.trans hv.symm)
   ·simp [hk] at hr
end Go.AM
namespace Go.AM
set_option maxRecDepth 100000
set_option maxHeartbeats 400000
set_option linter.unusedSimpArgs false
set_option linter.unusedVariables false
theorem zjc {p:Prop} (h:p:=by (clear hv;first|(simp only [fit4,cond_true,cond_false, *];done)|(exfalso;simp_all;done))):p:=h
theorem zsz {p:Prop} (h:p:=by first|(unfold fit5;rw [show (l.length != s.cols.length)=false by simp at *;omega];first|assumption|exact zvK (by assumption) rfl)|(unfold fit5;rw [show (l.length != s.cols.length)=true by simp at *;omega];rfl)):p:=h
theorem zmE {p:Prop} (h:p:=by first|assumption|rfl|omega|(simp only [List.length_map] at *;simp at *;omega)):p:=h
theorem zoy (c:Col) (v:V) (hv:zaa E0 S.value_Valid [v.av] [] (bv true) []):∃ (e:Int),e=fit4 c v∧zaa E0 S.schema_Fits [.agg c.cells,v.av] [] (iv e) []:=by
 cases h1:v.kind==0
 ·cases h2:v.kind != 0
  ·exact ⟨0,zjc,wk At.schema_Fits [sc hv,sb (rfl:false=false),sb h1,sb h2] kr⟩
  ·cases h3:v.kind != c.type
   ·exact ⟨0,zjc,wk At.schema_Fits [sc hv,sb (rfl:false=false),sb h1,sg h2,sb h3] kr⟩
   ·exact ⟨5,zjc,wk At.schema_Fits [sc hv,sb (rfl:false=false),sb h1,sg h2,sb h3] kr⟩
 ·cases h4:c.notNull
  ·cases h5:v.kind != 0
   ·exact ⟨0,zjc,wk At.schema_Fits [sc hv,sb (rfl:false=false),sg h1,sb h4,sb h5] kr⟩
   ·cases h6:v.kind != c.type
    ·exact ⟨0,zjc,wk At.schema_Fits [sc hv,sb (rfl:false=false),sg h1,sb h4,sg h5,sb h6] kr⟩
    ·exact ⟨5,zjc,wk At.schema_Fits [sc hv,sb (rfl:false=false),sg h1,sb h4,sg h5,sb h6] kr⟩
  ·exact ⟨8,zjc,wk At.schema_Fits [sc hv,sb (rfl:false=false),sg h1,sb h4] kr⟩
theorem zjA (c:Col) (v:V) (hg:v.Good):zaa E0 S.schema_Fits [.agg c.cells,v.av] [] (iv (fit4 c v)) []:=by
 have h1:=zcr v hg.small
 rw [hg.valid] at h1
 obtain ⟨e,rfl,h⟩:=zoy c v h1
 exact h
noncomputable def zsU (s:Sch) (l:List V) (i:Nat) :Cfg:=zal B.tuple_Fits 0 [(1,vsl l),(15,.sl (s.cols.map Col.cells)),(16,iv ((s.cols.map Col.cells).length:Nat)),(17,iv (i:Nat))] [.box s.cells]
theorem zhS (s:Sch) (l:List V) (hs:zac s.cols) (hll:l.length=s.cols.length) (hg:∀ v∈l,v.Good) (i:Nat)  (hi:i≤(s.cols).length) (hI:fitL s.cols l=fitL (s.cols.drop i) (l.drop i)):((fitL s.cols l=fitL (s.cols.drop (s.cols).length) (l.drop (s.cols).length))∧(decide ((((s.cols).length:Nat):Int) < (((s.cols.map Col.cells).length:Nat):Int))=false)∧∀ R,Good E0 B.tuple_Fits [] (zsU s l (s.cols).length ) R→Good E0 B.tuple_Fits [] (zsU s l i ) R)∨(∃ (r:Int),r=fitL s.cols l∧Good E0 B.tuple_Fits [] (zsU s l i ) (Shut 0 fun rZ hZ=>rZ=(iv r)∧hZ=[])):=by
 obtain ⟨kk,hk⟩:∃ kk,i+kk=(s.cols).length:=⟨(s.cols).length - i,by omega⟩
 induction kk generalizing i  with
 | zero =>
  have e0:i=(s.cols).length:=by omega
  subst e0
  exact .inl ⟨hI,by simp,fun R hg=>hg⟩
 | succ kk ih =>
  obtain ⟨x,hx⟩:=zav (l:=s.cols) (i:=i) (by omega)
  have h0:decide (((i:Nat):Int) < (((s.cols.map Col.cells).length:Nat):Int))=true:=by simp;omega
  have hw:IntKind.i64.wrap (((i:Nat):Int)+1)=((i+1:Nat):Int):=zak i (by first|omega|(simp only [zac,Few] at *;omega))
  obtain ⟨y,hy⟩:=zav (l:=l) (i:=i) (by have:=zee hx;omega);have hyv:=hg y (List.mem_of_getElem? hy)
  let p_1:List St:=[sb h0,se (zaf Col.cells hx rfl),sd [(3,[se (zaf V.cells hy rfl)]),(5,[sc (zjA x y (by first|assumption|omega|(simp;done)|(simp;omega)))])]]
  cases h1:fit4 x y != 0
  ·exact (ih (i+1) (by omega) (by exact zuA hI hx hy (by assumption)) (by omega)).elim (fun ⟨qZ,xZ,gZ⟩=>.inl ⟨qZ,xZ,fun R hg=>zab (wkl (p_1++[sb h1,si hw]) [1,15,16,17] 1 kr (gZ R hg))⟩) (fun ⟨rY,pZ,gZ⟩=>.inr ⟨rY,pZ,zab (wkl [sb h0,se (zaf Col.cells hx rfl),sd [(3,[se (zaf V.cells hy rfl)]),(5,[sc (zjA x y (by first|assumption|omega|(simp;done)|(simp;omega)))])],sb h1,si hw] [1,15,16,17] 1 kr gZ)⟩)
  ·exact .inr ⟨fit4 x y,(by exact zvh hI hx hy (by assumption)),zab (wkr (p_1++[sb h1]) kr)⟩
theorem zp6 (s:Sch) (l:List V) (hs:zac s.cols) (hg:∀ v∈l,v.Good):∃ (r:Int),r=fit5 s l∧zaa E0 S.tuple_Fits [s.av,vsl l] [] (iv r) []:=by
 cases h1:(↑(List.map V.cells l).length:Int) != (↑(List.map Col.cells s.cols).length:Int)
 ·rcases zhS s l zmE zmE zmE 0 zmE zmE with ⟨q2,q2_1,g2⟩|⟨r2_0,p2_0,g2⟩
  ·exact ⟨0,zsz,wkc At.tuple_Fits [sb h1] [1,15,16,17] 1 kr (g2 _ (zab (wkr [sb q2_1] kr)))⟩
  ·exact ⟨r2_0,zsz,wkc At.tuple_Fits [sb h1] [1,15,16,17] 1 kr (g2)⟩
 ·exact ⟨17,zsz,wk At.tuple_Fits [sb h1] kr⟩
theorem zc2 (s:Sch) (l:List V) (hs:zac s.cols) (hg:∀ v∈l,v.Good):zaa E0 S.tuple_Fits [s.av,vsl l] [] (iv (fit5 s l)) []:=by
 obtain ⟨r,rfl,h⟩:=zp6 s l hs hg
 exact h
theorem zwf (c:Col) :∃ (b:Bool),b=c.key∧zaa E0 S.schema_KeyColumn_c1 [.agg c.cells] [] (bv b) []:=by
 exact ⟨c.key,(by rfl),wk At.schema_KeyColumn_c1 [] kr⟩
theorem zeo (c:Col):zaa E0 S.schema_KeyColumn_c1 [.agg c.cells] [] (bv c.key) []:=by
 obtain ⟨b,rfl,h⟩:=zwf c
 exact h
noncomputable def zsP (l:List Col) (i:Nat) :Cfg:=zal B.slices_IndexFunc_Column 0 [(0,.sl (l.map Col.cells)),(1,.fn S.schema_KeyColumn_c1 []),(7,iv ((l.map Col.cells).length:Nat)),(8,iv (i:Nat))] []
theorem zdL (l:List Col) (hl:zac l) (i:Nat)  (hi:i≤(l).length) (hI:idxF (fun c=>c.key) l 0=idxF (fun c=>c.key) (l.drop i) i):((idxF (fun c=>c.key) l 0=idxF (fun c=>c.key) (l.drop (l).length) (l).length)∧(decide ((((l).length:Nat):Int) < (((l.map Col.cells).length:Nat):Int))=false)∧∀ R,Good E0 B.slices_IndexFunc_Column [] (zsP l (l).length ) R→Good E0 B.slices_IndexFunc_Column [] (zsP l i ) R)∨(∃ (r:Int),r=idxF (fun c=>c.key) l 0∧Good E0 B.slices_IndexFunc_Column [] (zsP l i ) (Shut 0 fun rZ hZ=>rZ=(iv r)∧hZ=[])):=by
 obtain ⟨kk,hk⟩:∃ kk,i+kk=(l).length:=⟨(l).length - i,by omega⟩
 induction kk generalizing i  with
 | zero =>
  have e0:i=(l).length:=by omega
  subst e0
  exact .inl ⟨hI,by simp,fun R hg=>hg⟩
 | succ kk ih =>
  obtain ⟨x,hx⟩:=zav (l:=l) (i:=i) (by omega)
  have h0:decide (((i:Nat):Int) < (((l.map Col.cells).length:Nat):Int))=true:=by simp;omega
  have hw:IntKind.i64.wrap (((i:Nat):Int)+1)=((i+1:Nat):Int):=zak i (by first|omega|(simp only [zac,Few] at *;omega))
  let p_1:List St:=[sb h0,se (zaf Col.cells hx rfl),sc (zeo x)]
  cases h1:x.key
  ·exact (ih (i+1) (by omega) (by exact zim hI hx (by assumption)) (by omega)).elim (fun ⟨qZ,xZ,gZ⟩=>.inl ⟨qZ,xZ,fun R hg=>zab (wkl (p_1++[sb h1,si hw]) [0,1,7,8] 0 kr (gZ R hg))⟩) (fun ⟨rY,pZ,gZ⟩=>.inr ⟨rY,pZ,zab (wkl [sb h0,se (zaf Col.cells hx rfl),sc (zeo x),sb h1,si hw] [0,1,7,8] 0 kr gZ)⟩)
  ·exact .inr ⟨(i:Int),(by exact zkh hI hx (by assumption)),zab (wkr (p_1++[sb h1]) kr)⟩
theorem c_ixK (l:List Col) (hl:zac l):∃ (r:Int),r=idxF (fun c=>c.key) l 0∧zaa E0 S.slices_IndexFunc_Column [.sl (l.map Col.cells),.fn S.schema_KeyColumn_c1 []] [] (iv r) []:=by
 rcases zdL l (by first|assumption|rfl|omega) 0 (by first|assumption|rfl|omega) (by first|assumption|rfl|omega) with ⟨q1,q1_1,g1⟩|⟨r1_0,p1_0,g1⟩
 ·exact ⟨-1,(by first|assumption|exact zgU (by assumption)),wkc At.slices_IndexFunc_Column [] [0,1,7,8] 0 kr (g1 _ (zab (wkr [sb q1_1] kr)))⟩
 ·exact ⟨r1_0,(by first|assumption|exact zgU (by assumption)),wkc At.slices_IndexFunc_Column [] [0,1,7,8] 0 kr (g1)⟩
theorem zkx (s:Sch) (hs:zac s.cols) (hx:∃ r:Int,r=idxF (fun c=>c.key) s.cols 0∧zaa E0 S.slices_IndexFunc_Column [.sl (s.cols.map Col.cells),.fn S.schema_KeyColumn_c1 []] [] (iv r) []):∃ (r:Int),r=idxF (fun c=>c.key) s.cols 0∧zaa E0 S.schema_KeyColumn [s.av] [] (iv r) []:=by
 obtain ⟨r1,q1,c1⟩:=hx
 exact ⟨r1,(by assumption),wk At.schema_KeyColumn [sc c1] kr⟩
theorem zkp (s:Sch) (hs:zac s.cols):zaa E0 S.schema_KeyColumn [s.av] [] (iv (idxF (fun c=>c.key) s.cols 0)) []:=by
 obtain ⟨r,rfl,h⟩:=zkx s hs (c_ixK s.cols hs)
 exact h
theorem at_lt0 {s:Sch} {x:Col} {i:Nat} (h:(idxF (fun c=>colC c x.name) s.cols 0 != ((i:Nat):Int))=false):decide (idxF (fun c=>colC c x.name) s.cols 0 < ((i:Nat):Int))=false:=by
 simp only [bne_eq_false_iff_eq] at h;rw [h];simp
noncomputable def L_psv (s:Sch) (i:Nat) (keys:Nat):Cfg:=zal B.schema_Valid 0 [(1,.p 0 0),(3,iv (keys:Nat)),(23,.sl (s.cols.map Col.cells)),(24,iv ((s.cols.map Col.cells).length:Nat)),(25,iv (i:Nat))] [.box s.cells]
theorem zg2 (s:Sch) (hs:zac s.cols) (hv:SchV s) (i:Nat) (keys:Nat) (hi:i≤(s.cols).length) (hI:keys=(s.cols.take i).countP (fun c=>c.key)):∃ (keys':Nat),(keys'=(s.cols.take (s.cols).length).countP (fun c=>c.key))∧(decide ((((s.cols).length:Nat):Int) < (((s.cols.map Col.cells).length:Nat):Int))=false)∧∀ R,Good E0 B.schema_Valid [] (L_psv s (s.cols).length keys') R→Good E0 B.schema_Valid [] (L_psv s i keys) R:=by
 obtain ⟨kk,hk⟩:∃ kk,i+kk=(s.cols).length:=⟨(s.cols).length - i,by omega⟩
 induction kk generalizing i keys with
 | zero =>
  have e0:i=(s.cols).length:=by omega
  subst e0
  exact ⟨keys,hI,by simp,fun R hg=>hg⟩
 | succ kk ih =>
  obtain ⟨x,hx⟩:=zav (l:=s.cols) (i:=i) (by omega)
  have h0:decide (((i:Nat):Int) < (((s.cols.map Col.cells).length:Nat):Int))=true:=by simp;omega
  have hw:IntKind.i64.wrap (((i:Nat):Int)+1)=((i+1:Nat):Int):=zak i (by first|omega|(simp only [zac,Few] at *;omega))
  obtain ⟨a1,a2,a3,a4,a5'⟩:=hv.cols i x hx;have a5:=at_lt0 a5';have hkl:keys≤1000:=(by have h1:=List.countP_le_length (p:=fun c:Col=>c.key) (l:=s.cols.take i);have h2:=hv.hi;simp only [List.length_map,decide_eq_false_iff_not] at h2;rw [← hI,List.length_take] at h1;omega)
  let p_1:List St:=[sb h0,se (zaf Col.cells hx rfl),sc (zaj x.name),sg a1,sc (zbi s x.name (by first|assumption|omega|(simp;done)|(simp;omega))),sg a5,sg a2,sg a3]
  cases h1:x.key
  ·obtain ⟨keysZ,qZ,xZ,gZ⟩:=ih (i+1) keys (by omega) (by first|exact znV hI hx (by assumption)|exact zn9 hI hx (by assumption)) (by omega);exact ⟨keysZ,qZ,xZ,fun R hg=>zab (wkl (p_1++[sb h1,sb h1,si hw]) [1,3,23,24,25] 1 kr (gZ R hg))⟩
  ·cases h2:!x.notNull
   ·obtain ⟨keysZ,qZ,xZ,gZ⟩:=ih (i+1) (keys+1) (by omega) (by first|exact znV hI hx (by assumption)|exact zn9 hI hx (by assumption)) (by omega);exact ⟨keysZ,qZ,xZ,fun R hg=>zab (wkl (p_1++[sg h1,sb h2,sb h1,si (zcG (t:=(keys:Int)+1) (n:=keys+1) (by omega) (by omega)),si hw]) [1,3,23,24,25] 1 kr (gZ R hg))⟩
   ·exact False.elim (by simp_all)
theorem zmN (s:Sch) (hs:zac s.cols) (hv:SchV s) (n1:(!za7 s.name)=false) (n2:decide (((s.cols.map Col.cells).length:Int) < 1)=false) (n3:decide ((6:Int) < ((s.cols.map Col.cells).length:Int))=false):∃ (r:Bool),r=true∧zaa E0 S.schema_Valid [s.av] [] (bv r) []:=by
 obtain ⟨keys1,q1,q1_1,g1⟩:=zg2 s (by first|assumption|rfl|omega) (by first|assumption|rfl|omega) 0 0 (by first|assumption|rfl|omega) (by first|assumption|rfl|omega)
 exact ⟨decide ((keys1:Int)≤(1:Int)),(by first|rfl|(rw [List.take_length] at *;have hkz:=hv.keys;simp;omega)),wkc At.schema_Valid [sc (zaj s.name),sg n1,sg n2,sb n3] [1,3,23,24,25] 1 kr (g1 _ (zab (wkr [sb q1_1] kr)))⟩
theorem zls (s:Sch) (hv:SchV s):zaa E0 S.schema_Valid [s.av] [] (bv true) []:=by
 obtain ⟨r,rfl,h⟩:=zmN s hv.short hv hv.name hv.lo hv.hi
 exact h
end Go.AM
namespace Go.AM
set_option maxRecDepth 100000
set_option maxHeartbeats 400000
set_option linter.unusedSimpArgs false
set_option linter.unusedVariables false
def zbL (s:Sch):List Pr→Int
 | []=>0
 | p::r=>bif fit5 s p.nw != 0 then fit5 s p.nw else zbL s r
def zdf (s:Sch):List (List V)→Int
 | []=>0
 | p::r=>bif fit5 s p != 0 then fit5 s p else zdf s r
def midS (c:Ch) (r:Rw):Option Rw:=bif anyI c.del r.id then none else some ⟨r.id,bif (fnd7 r.id c.upd).2 then (fnd7 r.id c.upd).1 else r.vals⟩
def midR (c:Ch) (l:List Rw):List Rw:=l.filterMap (midS c)
theorem zr4 {c:Ch} {l:List Rw} {i:Nat} {x:Rw} (hx:l[i]?=some x):midR c (l.take (i+1))=midR c (l.take i)++(midS c x).toList:=by
 unfold midR
 rw [List.take_add_one,hx,List.filterMap_append]
 cases h:midS c x <;> simp [h]
theorem mid_0 {c:Ch} {l:List Rw} {i:Nat} {x:Rw} {rs:List Rw} (hI:rs.length≤i∧rs=midR c (l.take i)) (hx:l[i]?=some x) (h:anyI c.del x.id=true):rs.length≤i+1∧rs=midR c (l.take (i+1)):=by
 rw [zr4 hx,midS,h];exact ⟨by omega,by simpa using hI.2⟩
theorem mid_1 {c:Ch} {l:List Rw} {i:Nat} {x:Rw} {rs:List Rw} {v:List V} (hI:rs.length≤i∧rs=midR c (l.take i)) (hx:l[i]?=some x) (h:anyI c.del x.id=false) (hv:v=bif (fnd7 x.id c.upd).2 then (fnd7 x.id c.upd).1 else x.vals):(rs++[Rw.mk x.id v]).length≤i+1∧rs++[⟨x.id,v⟩]=midR c (l.take (i+1)):=by
 rw [zr4 hx,midS,h,← hI.2,hv];exact ⟨by simp;omega,by simp⟩
def insN:Int→List (List V)→List Rw
 | _,[]=>[]
 | n,v::r=>⟨n,v⟩::insN (n+1) r
theorem zl8:∀ (l:List (List V)) (n:Int) (v:List V),insN n (l++[v])=insN n l++[⟨n+(l.length:Int),v⟩]
 | [],n,v=>by simp [insN]
 | x::l,n,v=>by
  have:=zl8 l (n+1) v
  simp only [List.cons_append,insN,this,List.length_cons]
  have e:n+1+(l.length:Int)=n+((l.length+1:Nat):Int):=by omega
  rw [e]
theorem zfs:∀ (l:List (List V)) (n:Int),(insN n l).length=l.length
 | [],_=>rfl
 | _::l,n=>by simp [insN,zfs l]
def apT (t:Tb) (c:Ch):Tb:=⟨t.sch,t.next+(c.ins.length:Int),midR c t.rows++insN t.next c.ins⟩
abbrev zdw (t:Tb) (c:Ch):List V:=zbc (idxF (fun z=>z.key) t.sch.cols 0) (midR c t.rows++insN t.next c.ins)
structure ApQ (t:Tb) (c:Ch) (x:Tb) (g:Int):Prop where
 ok:g=0→x=apT t c∧zbL t.sch c.upd=0∧zdf t.sch c.ins=0∧(zdw t c).Nodup
 err:g=0∨g=9∨g=10∨g=zbL t.sch c.upd∨g=zdf t.sch c.ins
 good:zbL t.sch c.upd=0→zdf t.sch c.ins=0→(midR c t.rows).length+c.ins.length≤100→(c.ins.length:Int)≤2147483648 - t.next→(zdw t c).Nodup→g=0
section
variable {t x : Tb} {c : Ch} {g nx : Int} {rs rs' : List Rw} {b : Bool}
end
end Go.AM
namespace Go.AM
set_option maxRecDepth 100000
set_option maxHeartbeats 400000
set_option linter.unusedSimpArgs false
set_option linter.unusedVariables false
theorem TabV.hiF {t:Tb} (h:TabV t) {x:Rw} (hx:x∈t.rows):decide (t.next≤x.id)=false:=by
 have h1:=h.rows.ids x hx
 simp;omega
theorem zed {p:Prop} (h:p:=by first|assumption|omega|(simp only [decide_eq_false_iff_not,decide_eq_true_eq,List.length_map] at *;omega)|(simp;done)):p:=h
theorem ztj {p:Prop} (h:p:=by first|(have hq1:=‹_=zbc _ _∧List.Nodup _›;rw [List.take_length] at hq1;exact ⟨fun _=>hq1.1 ▸ hq1.2,fun _=>rfl⟩)|(have hq1:=‹_=true∧¬ List.Nodup _›;rw [hq1.1];exact ⟨fun h=>(by cases h),fun h=>absurd h hq1.2⟩)|exact ⟨fun _=>zvV (by assumption) _,fun _=>rfl⟩):p:=h
theorem zmk {p:Prop} (h:p:=by first|assumption|omega|(intro r hr2;have:=(ht.rows.ids r (List.mem_of_mem_drop hr2)).1;omega)|(simp;done)):p:=h
theorem zmI {p:Prop} (h:p:=by first|assumption|omega|exact ⟨rfl,by simp⟩|(simp;done)):p:=h
theorem zo0 {p:Prop} (h:p:=by simp only [decide_eq_true_eq,decide_eq_false_iff_not] at *;omega):p:=h
theorem zus {kc:Int} {x:Rw} (h:decide (((x.vals.map V.cells).length:Int)≤kc)=true):zcO kc x=none :=
 zwH zo0
theorem zqf {kc:Int} {x:Rw} (h0:decide (kc < 0)=false) (h:decide (((x.vals.map V.cells).length:Int)≤kc)=false):zcO kc x=some (zaB x.vals kc) :=
 zwp zo0 zo0
theorem zvV {kc:Int} (h0:decide (kc < 0)=true) (l:List Rw):(zbc kc l).Nodup:=by
 have:zbc kc l=[]:=by
  unfold zbc
  rw [List.filterMap_eq_nil_iff]
  intro r _
  exact zwc zo0
 rw [this];simp
noncomputable def zte (t:Tb) (kc:Int) (i:Nat) (ks:List V):Cfg:=zal B.table_Duplicate 0 [(3,iv kc),(4,.mp 1),(14,.sl (t.rows.map Rw.cells)),(15,iv ((t.rows.map Rw.cells).length:Nat)),(16,iv (i:Nat))] [.box t.cells,.mp (ks.map itV)]
theorem zfZ (t:Tb) (kc:Int) (hs:zac t.rows) (hk0:decide (kc < 0)=false) (i:Nat) (ks:List V) (hi:i≤(t.rows).length) (hI:ks=zbc kc (t.rows.take i)∧ks.Nodup):(∃ (ks':List V),(ks'=zbc kc (t.rows.take (t.rows).length)∧ks'.Nodup)∧(decide ((((t.rows).length:Nat):Int) < (((t.rows.map Rw.cells).length:Nat):Int))=false)∧∀ R,Good E0 B.table_Duplicate [] (zte t kc (t.rows).length ks') R→Good E0 B.table_Duplicate [] (zte t kc i ks) R)∨(∃ (r:Bool),(r=true∧¬ (zbc kc t.rows).Nodup)∧Good E0 B.table_Duplicate [] (zte t kc i ks) (Shut 0 fun rZ hZ=>rZ=(bv r)∧hZ=[])):=by
 obtain ⟨kk,hk⟩:∃ kk,i+kk=(t.rows).length:=⟨(t.rows).length - i,by omega⟩
 induction kk generalizing i ks with
 | zero =>
  have e0:i=(t.rows).length:=by omega
  subst e0
  exact .inl ⟨ks,hI,by simp,fun R hg=>hg⟩
 | succ kk ih =>
  obtain ⟨x,hx⟩:=zav (l:=t.rows) (i:=i) (by omega)
  have h0:decide (((i:Nat):Int) < (((t.rows.map Rw.cells).length:Nat):Int))=true:=by simp;omega
  have hw:IntKind.i64.wrap (((i:Nat):Int)+1)=((i+1:Nat):Int):=zak i (by first|omega|(simp only [zac,Few] at *;omega))
  cases h1:decide ((↑(List.map V.cells x.vals).length:Int)≤kc)
  ·cases h2:anyV ks (zaB x.vals kc)
   ·exact (ih (i+1) (ks++[zaB x.vals kc]) (by omega) (by first|exact zrO hI hx (zus (by assumption))|exact zuM hI hx (zqf hk0 (by assumption)) (by assumption)) (by omega)).elim (fun ⟨ksZ,qZ,xZ,gZ⟩=>.inl ⟨ksZ,qZ,xZ,fun R hg=>zab (wkl [sb h0,se (zaf Rw.cells hx rfl),sb h1,se (zfR x.vals kc zed zed),sx (.el [bv (anyV ks (zaB x.vals kc))]) (And.intro (zdi ((zaB x.vals kc).kind) ((zaB x.vals kc).int) ((zaB x.vals kc).text)) (zl4 ks (zaB x.vals kc))),sb h2,se (zfR x.vals kc zed zed),sx (.call [] .un [.mp (List.map itV (ks++[zaB x.vals kc]))]) (And.intro (zdi ((zaB x.vals kc).kind) ((zaB x.vals kc).int) ((zaB x.vals kc).text)) (zrw ks (zaB x.vals kc) zed)),si hw] [3,4,14,15,16] 2 kr (gZ R hg))⟩) (fun ⟨rY,pZ,gZ⟩=>.inr ⟨rY,pZ,zab (wkl [sb h0,se (zaf Rw.cells hx rfl),sb h1,se (zfR x.vals kc zed zed),sx (.el [bv (anyV ks (zaB x.vals kc))]) (And.intro (zdi ((zaB x.vals kc).kind) ((zaB x.vals kc).int) ((zaB x.vals kc).text)) (zl4 ks (zaB x.vals kc))),sb h2,se (zfR x.vals kc zed zed),sx (.call [] .un [.mp (List.map itV (ks++[zaB x.vals kc]))]) (And.intro (zdi ((zaB x.vals kc).kind) ((zaB x.vals kc).int) ((zaB x.vals kc).text)) (zrw ks (zaB x.vals kc) zed)),si hw] [3,4,14,15,16] 2 kr gZ)⟩)
   ·exact .inr ⟨true,(by exact ⟨rfl,du_dup hI hx (zqf hk0 (by assumption)) (by assumption)⟩),zab (wkr [sb h0,se (zaf Rw.cells hx rfl),sb h1,se (zfR x.vals kc zed zed),sx (.el [bv (anyV ks (zaB x.vals kc))]) (And.intro (zdi ((zaB x.vals kc).kind) ((zaB x.vals kc).int) ((zaB x.vals kc).text)) (zl4 ks (zaB x.vals kc))),sb h2] kr)⟩
  ·exact (ih (i+1) ks (by omega) (by first|exact zrO hI hx (zus (by assumption))|exact zuM hI hx (zqf hk0 (by assumption)) (by assumption)) (by omega)).elim (fun ⟨ksZ,qZ,xZ,gZ⟩=>.inl ⟨ksZ,qZ,xZ,fun R hg=>zab (wkl [sb h0,se (zaf Rw.cells hx rfl),sb h1,si hw] [3,4,14,15,16] 2 kr (gZ R hg))⟩) (fun ⟨rY,pZ,gZ⟩=>.inr ⟨rY,pZ,zab (wkl [sb h0,se (zaf Rw.cells hx rfl),sb h1,si hw] [3,4,14,15,16] 2 kr gZ)⟩)
theorem zdV (t:Tb) (hs:zac t.sch.cols) (hr:zac t.rows):∃ (b:Bool),(b=false↔(zbc (idxF (fun c=>c.key) t.sch.cols 0) t.rows).Nodup)∧zaa E0 S.table_Duplicate [t.av] [] (bv b) []:=by
 let p_1:List St:=[sc (zkp t.sch zmI)]
 cases h1:decide (idxF (fun c=>c.key) t.sch.cols 0 < 0)
 ·rcases zfZ t (idxF (fun c=>c.key) t.sch.cols 0) zmI zmI 0 ([]) zmI zmI with ⟨ks2,q2,q2_1,g2⟩|⟨r2_0,p2_0,g2⟩
  ·exact ⟨false,ztj,wkc At.table_Duplicate (p_1++[sb h1]) [3,4,14,15,16] 2 kr (g2 _ (zab (wkr [sb q2_1] kr)))⟩
  ·exact ⟨r2_0,ztj,wkc At.table_Duplicate (p_1++[sb h1]) [3,4,14,15,16] 2 kr (g2)⟩
 ·exact ⟨false,ztj,wk At.table_Duplicate (p_1++[sb h1]) kr⟩
theorem TabV.pfit {t:Tb} (h:TabV t) {x:Rw} (hx:x∈t.rows):zaa E0 S.tuple_Fits [t.sch.av,vsl x.vals] [] (iv 0) []:=by
 have h2:=zc2 t.sch x.vals h.sch.short (zdu (h.rows.fit x hx))
 rwa [znw h.sch (h.rows.fit x hx)] at h2
def zoW (l:List Rw) (i:Nat) (last:Int):Prop:=∀ r∈l.drop i,last < r.id
theorem zug {l:List Rw} {i:Nat} {x:Rw} (ha:l.Pairwise fun a b=>a.id < b.id) (hx:l[i]?=some x):zoW l (i+1) x.id:=by
 intro r hr
 obtain ⟨j,hj⟩:=List.getElem?_of_mem hr
 rw [List.getElem?_drop] at hj
 obtain ⟨a1,a2⟩:=List.getElem?_eq_some_iff.1 hx
 obtain ⟨b1,b2⟩:=List.getElem?_eq_some_iff.1 hj
 have:=List.pairwise_iff_getElem.1 ha i (i+1+j) a1 b1 (by omega)
 rwa [a2,b2] at this
theorem zwq {l:List Rw} {i:Nat} {x:Rw} {last:Int} (h:zoW l i last) (hx:l[i]?=some x):decide (x.id≤last)=false:=by
 have:=h x (by rw [zaR hx];simp)
 simp;omega
noncomputable def L_pv6 (t:Tb) (i:Nat) (last:Int):Cfg:=zal B.table_Valid 0 [(1,.p 0 0),(3,iv last),(27,.sl (t.rows.map Rw.cells)),(28,iv ((t.rows.map Rw.cells).length:Nat)),(29,iv (i:Nat))] [.box t.cells]
theorem zhf (t:Tb) (ht:TabV t) (hs:zac t.sch.cols) (hr:zac t.rows) (i:Nat) (last:Int) (hi:i≤(t.rows).length) (hI:zoW t.rows i last):∃ (last':Int),(zoW t.rows (t.rows).length last')∧(decide ((((t.rows).length:Nat):Int) < (((t.rows.map Rw.cells).length:Nat):Int))=false)∧∀ R,Good E0 B.table_Valid [] (L_pv6 t (t.rows).length last') R→Good E0 B.table_Valid [] (L_pv6 t i last) R:=by
 obtain ⟨kk,hk⟩:∃ kk,i+kk=(t.rows).length:=⟨(t.rows).length - i,by omega⟩
 induction kk generalizing i last with
 | zero =>
  have e0:i=(t.rows).length:=by omega
  subst e0
  exact ⟨last,hI,by simp,fun R hg=>hg⟩
 | succ kk ih =>
  obtain ⟨x,hx⟩:=zav (l:=t.rows) (i:=i) (by omega)
  have h0:decide (((i:Nat):Int) < (((t.rows.map Rw.cells).length:Nat):Int))=true:=by simp;omega
  have hw:IntKind.i64.wrap (((i:Nat):Int)+1)=((i+1:Nat):Int):=zak i (by first|omega|(simp only [zac,Few] at *;omega))
  have a1:=zwq hI hx;have a2:=ht.hiF (List.mem_of_getElem? hx);have a3:=ht.pfit (List.mem_of_getElem? hx)
  obtain ⟨lastZ,qZ,xZ,gZ⟩:=ih (i+1) x.id (by omega) (by exact zug ht.rows.asc hx) (by omega);exact ⟨lastZ,qZ,xZ,fun R hg=>zab (wkl [sb h0,se (zaf Rw.cells hx rfl),sg a1,sg a2,sc a3,sb (rfl:false=false),si hw] [1,3,27,28,29] 1 kr (gZ R hg))⟩
theorem znL (t:Tb) (ht:TabV t) (hs:zac t.sch.cols) (hr:zac t.rows) (hv:zaa E0 S.schema_Valid [t.sch.av] [] (bv true) []) (h1a:decide ((100:Int) < ((t.rows.map Rw.cells).length:Int))=false) (h2a:decide (t.next < 1)=false) (h3a:decide ((2147483648:Int) < t.next)=false) (hd:zaa E0 S.table_Duplicate [t.av] [] (bv false) []):∃ (b:Bool),b=true∧zaa E0 S.table_Valid [t.av] [] (bv b) []:=by
 obtain ⟨last1,q1,q1_1,g1⟩:=zhf t zmk zmk zmk 0 0 zmk zmk
 exact ⟨!false,(by rfl),wkc At.table_Valid [sc hv,sg (rfl:false=false),sg h1a,sg h2a,sb h3a] [1,3,27,28,29] 1 kr (g1 _ (zab (wkr [sb q1_1,sc hd] kr)))⟩
theorem TabV.pdup {t:Tb} (h:TabV t):zaa E0 S.table_Duplicate [t.av] [] (bv false) []:=by
 obtain ⟨b,hb,hc⟩:=zdV t h.sch.short h.shr
 have h1:b=false:=hb.2 (by rw [h.key];exact zm7 _ h.rows.keys)
 rw [h1] at hc;exact hc
theorem zgD (t:Tb) (ht:TabV t):zaa E0 S.table_Valid [t.av] [] (bv true) []:=by
 have hp:=ht.rows.pos
 obtain ⟨r,rfl,h⟩:=znL t ht ht.sch.short ht.shr (zls _ ht.sch) ht.len (by simp;omega) ht.max ht.pdup
 exact h
end Go.AM
namespace Go.AM
set_option maxRecDepth 100000
set_option maxHeartbeats 400000
set_option linter.unusedSimpArgs false
set_option linter.unusedVariables false
theorem zdK {p:Prop} (h:p:=by first|assumption|rfl|omega|(have hq:=‹_=List.take t.rows.length t.rows›;rw [hq,List.take_length];simp [insN];done)|(simp [insN];done)|exact zkc hlr (by rw [zfs];simp;omega)|(have hq:=‹_=t.rows++insN t.next (ins.take ins.length)›;rw [hq];exact zkc hlr (by rw [zfs];simp;omega))):p:=h
theorem zdq {p:Prop} (h:p:=by first|assumption|omega|(simp;done)|(simp;omega)):p:=h
theorem zoO {p:Prop} (h:p:=by first|omega|(simp only [zac,Few] at *;omega)):p:=h
abbrev insC (ins:List (List V)):AV:=.agg [.sl (ins.map vrow),.sl [],.sl []]
noncomputable def L_kr (t:Tb) (i:Nat):Cfg:=zal B.keys_rows 0 [(1,.sl []),(2,.sl []),(3,.p 0 0),(11,.sl []),(12,iv (([]:List (List AV)).length:Nat)),(13,iv (i:Nat))] [.box t.cells]
theorem zjd (t:Tb) (i:Nat):True∧∀ R,Good E0 B.keys_rows [] (L_kr t i) R→Good E0 B.keys_rows [] (L_kr t i) R:=⟨trivial,fun _ h=>h⟩
theorem zpQ (t:Tb) :∃ (r:Bool),r=true∧zaa E0 S.keys_rows [t.av,.sl [],.sl []] [] (bv r) []:=by
 obtain ⟨q1,g1⟩:=zjd t (0)
 exact ⟨true,(by rfl),wkc At.keys_rows [] [1,2,3,11,12,13] 1 kr (g1 _ (zab (wkr [sb (rfl:false=false)] kr)))⟩
theorem zil (t:Tb):zaa E0 S.keys_rows [t.av,.sl [],.sl []] [] (bv true) []:=by
 obtain ⟨r,rfl,h⟩:=zpQ t
 exact h
theorem zvw (v:List V) (n:Int) :∃ (r:Bool),r=(((v.map V.cells).length:Int) != n)∧zaa E0 S.keys_Valid_c1 [vsl v,.p 0 0] [.box [iv n]] (bv r) [.box [iv n]]:=by
 exact ⟨(↑(List.map V.cells v).length:Int) != n,(by rfl),wk At.keys_Valid_c1 [] kr⟩
theorem zmC (v:List V) (n:Int) (h:(((v.map V.cells).length:Int) != n)=false):zaa E0 S.keys_Valid_c1 [vsl v,.p 0 0] [.box [iv n]] (bv false) [.box [iv n]]:=by
 obtain ⟨r,hr,hc⟩:=zvw v n
 rw [h] at hr;subst hr;exact hc
noncomputable def L_ixW (l:List (List V)) (n:Int) (i:Nat) :Cfg:=zal B.slices_IndexFunc_Value 0 [(0,.sl (l.map vrow)),(1,.fn S.keys_Valid_c1 [.p 0 0]),(7,iv ((l.map vrow).length:Nat)),(8,iv (i:Nat))] [.box [iv n]]
theorem zdX (l:List (List V)) (n:Int) (hl:zac l) (hwd:∀ v∈l,(((v.map V.cells).length:Int) != n)=false) (i:Nat)  (hi:i≤(l).length) (hI:True):(True)∧(decide ((((l).length:Nat):Int) < (((l.map vrow).length:Nat):Int))=false)∧∀ R,Good E0 B.slices_IndexFunc_Value [.box [iv n]] (L_ixW l n (l).length ) R→Good E0 B.slices_IndexFunc_Value [.box [iv n]] (L_ixW l n i ) R:=by
 obtain ⟨kk,hk⟩:∃ kk,i+kk=(l).length:=⟨(l).length - i,by omega⟩
 induction kk generalizing i  hI with
 | zero =>
  have e0:i=(l).length:=by omega
  subst e0
  exact ⟨hI,by simp,fun R hg=>hg⟩
 | succ kk ih =>
  obtain ⟨x,hx⟩:=zav (l:=l) (i:=i) (by omega)
  have h0:decide (((i:Nat):Int) < (((l.map vrow).length:Nat):Int))=true:=by simp;omega
  have hw:IntKind.i64.wrap (((i:Nat):Int)+1)=((i+1:Nat):Int):=zak i zoO
  have hc:=zmC x n (hwd x (List.mem_of_getElem? hx))
  obtain ⟨qZ,xZ,gZ⟩:=ih (i+1) (by omega) (by first|trivial|assumption|(simp;done)|omega|(simp;omega)|(simp at *;omega)) (by omega);exact ⟨qZ,xZ,fun R hg=>zab (wkl [sb h0,se (zaf vrow hx rfl),sl [0] hc,sb (rfl:false=false),si hw] [0,1,7,8] 1 kr (gZ R hg))⟩
theorem c_ixW (l:List (List V)) (n:Int) (hl:zac l) (hwd:∀ v∈l,(((v.map V.cells).length:Int) != n)=false):∃ (r:Int),r=-1∧zaa E0 S.slices_IndexFunc_Value [.sl (l.map vrow),.fn S.keys_Valid_c1 [.p 0 0]] [.box [iv n]] (iv r) [.box [iv n]]:=by
 obtain ⟨q1,q1_1,g1⟩:=zdX l n zdq zdq 0 zdq zdq
 exact ⟨-1,(by rfl),wkc At.slices_IndexFunc_Value [] [0,1,7,8] 1 kr (g1 _ (zab (wkr [sb q1_1] kr)))⟩
theorem c_cfV2 (l:List (List V)) (n:Int) (hi:∃ r:Int,r=-1∧zaa E0 S.slices_IndexFunc_Value [.sl (l.map vrow),.fn S.keys_Valid_c1 [.p 0 0]] [.box [iv n]] (iv r) [.box [iv n]]):∃ (r:Bool),r=false∧zaa E0 S.slices_ContainsFunc_Value [.sl (l.map vrow),.fn S.keys_Valid_c1 [.p 0 0]] [.box [iv n]] (bv r) [.box [iv n]]:=by
 obtain ⟨r1,q1,c1⟩:=hi
 exact ⟨decide ((0:Int)≤r1),(by (subst_vars;rfl)),wk At.slices_ContainsFunc_Value [sl [0] c1] kr⟩
theorem zcJ (l:List (List V)) (n:Int) (hl:zac l) (hwd:∀ v∈l,(((v.map V.cells).length:Int) != n)=false):zaa E0 S.slices_ContainsFunc_Value [.sl (l.map vrow),.fn S.keys_Valid_c1 [.p 0 0]] [.box [iv n]] (bv false) [.box [iv n]]:=by
 obtain ⟨r,rfl,h⟩:=c_cfV2 l n (c_ixW l n hl hwd)
 exact h
noncomputable def L_kv (t:Tb) (ins:List (List V)) (i:Nat):Cfg:=zal B.keys_Valid 0 [(2,.p 0 0),(3,.p 1 0),(5,.nl),(6,.p 2 0),(26,.sl []),(27,iv (([]:List (List AV)).length:Nat)),(28,iv (i:Nat))] [.box t.cells,.box [.sl (ins.map vrow),.sl [],.sl []],.box [iv ((t.sch.cols.map Col.cells).length:Nat)]]
theorem zic (t:Tb) (ins:List (List V)) (i:Nat):True∧∀ R,Good E0 B.keys_Valid [] (L_kv t ins i) R→Good E0 B.keys_Valid [] (L_kv t ins i) R:=⟨trivial,fun _ h=>h⟩
theorem zoK (t:Tb) (ins:List (List V)) (hv:zaa E0 S.table_Valid [t.av] [] (bv true) []) (hl:zac ins) (hw:∀ v∈ins,(((v.map V.cells).length:Int) != ((t.sch.cols.map Col.cells).length:Int))=false):∃ (r:Bool),r=true∧zaa E0 S.keys_Valid [t.av,insC ins] [] (bv r) []:=by
 obtain ⟨q1,g1⟩:=zic t ins (0)
 exact ⟨!false,(by rfl),wkc At.keys_Valid [sc hv,sg (rfl:false=false),sc (zil t),sb (rfl:false=false)] [2,3,5,6,26,27,28] 3 kr (g1 _ (zab (wkr [sb (rfl:false=false),sc (zil t),sg (rfl:true=true),sl [2] (zcJ ins ((↑(List.map Col.cells t.sch.cols).length:Int)) zdq zdq)] kr)))⟩
noncomputable def L_kf (t:Tb) (ins:List (List V)) (i:Nat):Cfg:=zal B.keys_fits 0 [(2,.p 0 0),(3,.p 1 0),(12,.sl []),(13,iv (([]:List (List AV)).length:Nat)),(14,iv (i:Nat))] [.box t.cells,.box [.sl (ins.map vrow),.sl [],.sl []]]
theorem zi7 (t:Tb) (ins:List (List V)) (i:Nat):True∧∀ R,Good E0 B.keys_fits [] (L_kf t ins i) R→Good E0 B.keys_fits [] (L_kf t ins i) R:=⟨trivial,fun _ h=>h⟩
noncomputable def L_kfI (t:Tb) (ins:List (List V)) (i:Nat) :Cfg:=zal B.keys_fits 1 [(2,.p 0 0),(28,.sl (ins.map vrow)),(29,iv ((ins.map vrow).length:Nat)),(30,iv (i:Nat))] [.box t.cells,.box [.sl (ins.map vrow),.sl [],.sl []]]
theorem ziv (t:Tb) (ins:List (List V)) (hl:zac ins) (hs:zac t.sch.cols) (hf:∀ v∈ins,fit5 t.sch v=0) (hg:∀ v∈ins,∀ x∈v,x.Good) (i:Nat)  (hi:i≤(ins).length) (hI:True):(True)∧(decide ((((ins).length:Nat):Int) < (((ins.map vrow).length:Nat):Int))=false)∧∀ R,Good E0 B.keys_fits [] (L_kfI t ins (ins).length ) R→Good E0 B.keys_fits [] (L_kfI t ins i ) R:=by
 obtain ⟨kk,hk⟩:∃ kk,i+kk=(ins).length:=⟨(ins).length - i,by omega⟩
 induction kk generalizing i  hI with
 | zero =>
  have e0:i=(ins).length:=by omega
  subst e0
  exact ⟨hI,by simp,fun R hg=>hg⟩
 | succ kk ih =>
  obtain ⟨x,hx⟩:=zav (l:=ins) (i:=i) (by omega)
  have h0:decide (((i:Nat):Int) < (((ins.map vrow).length:Nat):Int))=true:=by simp;omega
  have hw:IntKind.i64.wrap (((i:Nat):Int)+1)=((i+1:Nat):Int):=zak i zoO
  have hc:=zc2 t.sch x hs (hg x (List.mem_of_getElem? hx));rw [hf x (List.mem_of_getElem? hx)] at hc
  obtain ⟨qZ,xZ,gZ⟩:=ih (i+1) (by omega) (by first|trivial|assumption|(simp;done)|omega|(simp;omega)|(simp at *;omega)) (by omega);exact ⟨qZ,xZ,fun R hg=>zab (wkl [sb h0,se (zaf vrow hx rfl),sc hc,sb (rfl:false=false),si hw] [2,28,29,30] 2 kr (gZ R hg))⟩
theorem zpX (t:Tb) (ins:List (List V)) (hl:zac ins) (hs:zac t.sch.cols) (hf:∀ v∈ins,fit5 t.sch v=0) (hg:∀ v∈ins,∀ x∈v,x.Good):∃ (r:Int),r=0∧zaa E0 S.keys_fits [t.av,insC ins] [] (iv r) []:=by
 obtain ⟨q1,g1⟩:=zi7 t ins (0)
 obtain ⟨q2,q2_1,g2⟩:=ziv t ins zdq zdq zdq zdq 0 zdq zdq
 exact ⟨0,(by rfl),wkc At.keys_fits [] [2,3,12,13,14] 2 kr (g1 _ (zab (wkl [sb (rfl:false=false)] [2,28,29,30] 2 kr (g2 _ (zab (wkr [sb q2_1] kr))))))⟩
noncomputable def L_i0 (n:Int) (i:Nat):Cfg:=zal B.slices_Index_int 0 [(0,.sl []),(1,iv n),(7,iv (([]:List (List AV)).length:Nat)),(8,iv (i:Nat))] []
theorem zf1 (n:Int) (i:Nat):True∧∀ R,Good E0 B.slices_Index_int [] (L_i0 n i) R→Good E0 B.slices_Index_int [] (L_i0 n i) R:=⟨trivial,fun _ h=>h⟩
theorem zuX (n:Int) :∃ (r:Int),r=-1∧zaa E0 S.slices_Index_int [.sl [],iv n] [] (iv r) []:=by
 obtain ⟨q1,g1⟩:=zf1 n (0)
 exact ⟨-1,(by rfl),wkc At.slices_Index_int [] [0,1,7,8] 0 kr (g1 _ (zab (wkr [sb (rfl:false=false)] kr)))⟩
theorem zh2 (n:Int):zaa E0 S.slices_Index_int [.sl [],iv n] [] (iv (-1)) []:=by
 obtain ⟨r,rfl,h⟩:=zuX n
 exact h
theorem zqG (n:Int) :∃ (r:Bool),r=false∧zaa E0 S.slices_Contains_int [.sl [],iv n] [] (bv r) []:=by
 exact ⟨decide ((0:Int)≤(-1:Int)),(by rfl),wk At.slices_Contains_int [sc (zh2 n)] kr⟩
theorem zdG (n:Int):zaa E0 S.slices_Contains_int [.sl [],iv n] [] (bv false) []:=by
 obtain ⟨r,rfl,h⟩:=zqG n
 exact h
noncomputable def L_kaR (t:Tb) (ins:List (List V)) (nx:Int) (i:Nat) (rs:List Rw):Cfg:=zal B.keys_Apply 0 [(2,.p 0 0),(3,.p 1 0),(4,.p 2 0),(7,.p 3 0),(8,.sl []),(66,.sl (t.rows.map Rw.cells)),(67,iv ((t.rows.map Rw.cells).length:Nat)),(68,iv (i:Nat))] [.box t.cells,.box [.sl (ins.map vrow),.sl [],.sl []],.box [sv ⟨#[]⟩,.nl,iv 0,.nl],.box [sv t.sch.name,.own 4 t.sch.cols.length,iv nx,.own 5 rs.length],.row Ty.Column (t.sch.cols.map Col.cells) false,.row Ty.Row (rs.map Rw.cells) false]
theorem zhX (t:Tb) (ins:List (List V)) (nx:Int) (hl:zac t.rows) (hvs:∀ r∈t.rows,zac r.vals) (i:Nat) (rs:List Rw) (hi:i≤(t.rows).length) (hI:rs=t.rows.take i):∃ (rs':List Rw),(rs'=t.rows.take (t.rows).length)∧(decide ((((t.rows).length:Nat):Int) < (((t.rows.map Rw.cells).length:Nat):Int))=false)∧∀ R,Good E0 B.keys_Apply [] (L_kaR t ins nx (t.rows).length rs') R→Good E0 B.keys_Apply [] (L_kaR t ins nx i rs) R:=by
 obtain ⟨kk,hk⟩:∃ kk,i+kk=(t.rows).length:=⟨(t.rows).length - i,by omega⟩
 induction kk generalizing i rs with
 | zero =>
  have e0:i=(t.rows).length:=by omega
  subst e0
  exact ⟨rs,hI,by simp,fun R hg=>hg⟩
 | succ kk ih =>
  obtain ⟨x,hx⟩:=zav (l:=t.rows) (i:=i) (by omega)
  have h0:decide (((i:Nat):Int) < (((t.rows.map Rw.cells).length:Nat):Int))=true:=by simp;omega
  have hw:IntKind.i64.wrap (((i:Nat):Int)+1)=((i+1:Nat):Int):=zak i zoO
  have hvx:=hvs x (List.mem_of_getElem? hx);have hol:rs.length≤1000000000:=(by rw [hI,List.length_take];simp only [zac] at hl;omega)
  obtain ⟨rsZ,qZ,xZ,gZ⟩:=ih (i+1) (rs++[x]) (by omega) (by (rw [List.take_add_one,hx,← hI];rfl)) (by omega);exact ⟨rsZ,qZ,xZ,fun R hg=>zab (wkl [sb h0,se (zaf Rw.cells hx rfl),sc (zdG x.id),sb (rfl:false=false),sd [(4,[sb (rfl:false=false)]),(5,[sb (rfl:false=false)]),(6,[sb (rfl:false=false)]),(7,[sb (rfl:false=false)]),(8,[sb (rfl:false=false)]),(9,[sb (rfl:false=false)]),(10,[sb (rfl:false=false)]),(11,[sb (rfl:false=false)])],sd [(5,[sc (zap x.vals zdq)]),(7,[sqx (True∧x.vals.length=(List.map V.cells x.vals).length∧True)]),(8,[sqx (AllLen [[iv x.id,AV.sl (List.map V.cells x.vals)]] 2∧rs.length=(List.map Rw.cells rs).length∧(((List.map Rw.cells rs).length+[[iv x.id,AV.sl (List.map V.cells x.vals)]].length) * 32).le 140737488355328)])],si hw] [2,3,4,7,8,66,67,68] 6 kr (zan rfl (show ([Blk.box [sv t.sch.name,AV.sl (List.map Col.cells t.sch.cols),iv t.next,AV.sl (List.map Rw.cells t.rows)],Blk.box [AV.sl (List.map vrow ins),AV.sl [],AV.sl []],Blk.box [sv (ByteArray.mk #[]),AV.nl,iv 0,AV.nl],Blk.box [sv t.sch.name,AV.own 4 t.sch.cols.length,iv nx,AV.own 5 (List.map Rw.cells rs++[[iv x.id,AV.sl (List.map V.cells x.vals)]]).length],Blk.row Ty.Column (List.map Col.cells t.sch.cols) false,Blk.row Ty.Row (List.map Rw.cells rs++[[iv x.id,AV.sl (List.map V.cells x.vals)]]) false]:Heap)=_ by first|rfl|(simp [Rw.cells,Tb.cells,zi1];done)) (gZ R hg)))⟩
abbrev insT (t:Tb) (ins:List (List V)):Tb:=⟨t.sch,t.next+(ins.length:Int),t.rows++insN t.next ins⟩
theorem zn3 {t:Tb} {ins:List (List V)} {i:Nat} {rs:List Rw} {x:List V} {z:Int} (hI:rs=t.rows++insN t.next (ins.take i)) (hx:ins[i]?=some x) (hz:z=t.next+(i:Int)):rs++[⟨z,x⟩]=t.rows++insN t.next (ins.take (i+1)):=by
 have hl:(ins.take i).length=i:=by have:=(List.getElem?_eq_some_iff.1 hx).1;simp;omega
 rw [hI,List.take_add_one,hx,List.append_assoc,hz]
 simp only [Option.toList_some]
 rw [zl8,hl]
noncomputable def L_kaI (t:Tb) (ins:List (List V)) (nx:Int) (i:Nat) (rs:List Rw):Cfg:=zal B.keys_Apply 1 [(2,.p 0 0),(4,.p 2 0),(7,.p 3 0),(109,.sl (ins.map vrow)),(110,iv ((ins.map vrow).length:Nat)),(111,iv (i:Nat))] [.box t.cells,.box [.sl (ins.map vrow),.sl [],.sl []],.box [sv ⟨#[]⟩,.nl,iv 0,.nl],.box [sv t.sch.name,.own 4 t.sch.cols.length,iv nx,.own 5 rs.length],.row Ty.Column (t.sch.cols.map Col.cells) false,.row Ty.Row (rs.map Rw.cells) false]
theorem zhQ (t:Tb) (ins:List (List V)) (nx:Int) (hl:zac t.rows) (hli:ins.length≤100000) (hlr:t.rows.length≤100000) (hn:1≤t.next∧t.next≤2147483648) (hvi:∀ r∈ins,zac r) (i:Nat) (rs:List Rw) (hi:i≤(ins).length) (hI:rs=t.rows++insN t.next (ins.take i)):∃ (rs':List Rw),(rs'=t.rows++insN t.next (ins.take (ins).length))∧(decide ((((ins).length:Nat):Int) < (((ins.map vrow).length:Nat):Int))=false)∧∀ R,Good E0 B.keys_Apply [] (L_kaI t ins nx (ins).length rs') R→Good E0 B.keys_Apply [] (L_kaI t ins nx i rs) R:=by
 obtain ⟨kk,hk⟩:∃ kk,i+kk=(ins).length:=⟨(ins).length - i,by omega⟩
 induction kk generalizing i rs with
 | zero =>
  have e0:i=(ins).length:=by omega
  subst e0
  exact ⟨rs,hI,by simp,fun R hg=>hg⟩
 | succ kk ih =>
  obtain ⟨x,hx⟩:=zav (l:=ins) (i:=i) (by omega)
  have h0:decide (((i:Nat):Int) < (((ins.map vrow).length:Nat):Int))=true:=by simp;omega
  have hw:IntKind.i64.wrap (((i:Nat):Int)+1)=((i+1:Nat):Int):=zak i zoO
  have hvx:=hvi x (List.mem_of_getElem? hx);have hil:=(List.getElem?_eq_some_iff.1 hx).1;have hol:rs.length≤1000000000:=(by rw [hI,List.length_append,zfs,List.length_take];omega)
  have hw1:IntKind.i64.wrap (t.next+((i:Nat):Int))=t.next+((i:Nat):Int):=(by rw [IntKind.wrap_i64];omega)
  obtain ⟨rsZ,qZ,xZ,gZ⟩:=ih (i+1) (rs++[Rw.mk (t.next+(i:Int)) x]) (by omega) (by first|exact zn3 hI hx rfl|exact zn3 hI hx hw1) (by omega);exact ⟨rsZ,qZ,xZ,fun R hg=>zab (wkl [sb h0,se (zaf vrow hx rfl),sd [(5,[si hw1]),(7,[sc (zap x zdq)]),(9,[sqx (True∧x.length=(List.map V.cells x).length∧True)]),(10,[sqx (AllLen [[iv (t.next+(i:Int)),AV.sl (List.map V.cells x)]] 2∧rs.length=(List.map Rw.cells rs).length∧(((List.map Rw.cells rs).length+[[iv (t.next+(i:Int)),AV.sl (List.map V.cells x)]].length) * 32).le 140737488355328)])],si hw] [2,4,7,109,110,111] 6 kr (zan rfl (show ([Blk.box [sv t.sch.name,AV.sl (List.map Col.cells t.sch.cols),iv t.next,AV.sl (List.map Rw.cells t.rows)],Blk.box [AV.sl (List.map vrow ins),AV.sl [],AV.sl []],Blk.box [sv (ByteArray.mk #[]),AV.nl,iv 0,AV.nl],Blk.box [sv t.sch.name,AV.own 4 t.sch.cols.length,iv nx,AV.own 5 (List.map Rw.cells rs++[[iv (t.next+(i:Int)),AV.sl (List.map V.cells x)]]).length],Blk.row Ty.Column (List.map Col.cells t.sch.cols) false,Blk.row Ty.Row (List.map Rw.cells rs++[[iv (t.next+(i:Int)),AV.sl (List.map V.cells x)]]) false]:Heap)=_ by first|rfl|(simp [Rw.cells,Tb.cells,zi1];done)) (gZ R hg)))⟩
theorem zkc {a b:List Rw} (ha:a.length≤100000) (hb:b.length≤100000):zac (a++b):=by simp only [zac,List.length_append];omega
theorem zox (t:Tb) (ins:List (List V)) (hv:zaa E0 S.keys_Valid [t.av,insC ins] [] (bv true) []) (hr:zaa E0 S.keys_fits [t.av,insC ins] [] (iv 0) []) (hl:zac t.rows) (hlr:t.rows.length≤100000) (hli:ins.length≤100000) (hvs:∀ r∈t.rows,zac r.vals) (hvi:∀ r∈ins,zac r) (hsc:zac t.sch.cols) (hn:1≤t.next∧t.next≤2147483648) (b1:decide ((100:Int) < IntKind.i64.wrap (IntKind.i64.wrap (((t.rows.map Rw.cells).length:Int) - (([]:List (List AV)).length:Int))+((ins.map vrow).length:Int)))=false) (b2:decide (IntKind.i64.wrap (2147483648 - t.next) < ((ins.map vrow).length:Int))=false) (hd:∀ (nx:Int) (rs:List Rw),rs=t.rows++insN t.next (ins.take ins.length)→zaa E0 S.table_Duplicate [Tb.av ⟨t.sch,nx,rs⟩] [] (bv false) []):∃ (x:Tb) (e:Int),(e=0∧∃ nx:Int,nx=IntKind.i64.wrap (t.next+((ins.map vrow).length:Int))∧x=⟨t.sch,nx,t.rows++insN t.next ins⟩)∧zaa E0 S.keys_Apply [t.av,insC ins] [] (.tup [x.av,iv e]) []:=by
 obtain ⟨rs1,q1,q1_1,g1⟩:=zhX t ins (IntKind.i64.wrap (t.next+(↑(List.map vrow ins).length:Int))) zdK zdK 0 ([]) zdK zdK
 obtain ⟨rs2,q2,q2_1,g2⟩:=zhQ t ins (IntKind.i64.wrap (t.next+(↑(List.map vrow ins).length:Int))) zdK zdK zdK zdK zdK 0 rs1 zdK zdK
 exact ⟨Tb.mk t.sch (IntKind.i64.wrap (t.next+(↑(List.map vrow ins).length:Int))) rs2,0,(by (have hq:=‹_=t.rows++insN t.next (ins.take ins.length)›;rw [List.take_length] at hq;exact ⟨rfl,_,rfl,by rw [hq]⟩)),wkcN At.keys_Apply [sc hv,sb (rfl:false=false),sc hr,sb (rfl:false=false),si (e:=IntKind.i64.wrap ((↑(List.map Rw.cells t.rows).length:Int) - (([]:List (List AV)).length:Int))) rfl,si (e:=IntKind.i64.wrap (IntKind.i64.wrap ((↑(List.map Rw.cells t.rows).length:Int) - (([]:List (List AV)).length:Int))+(↑(List.map vrow ins).length:Int))) rfl,sg b1,si (e:=IntKind.i64.wrap (2147483648 - t.next)) rfl,sb b2,si (e:=IntKind.i64.wrap (t.next+(↑(List.map vrow ins).length:Int))) rfl,sc (zat t.sch.cols zdK)] [2,3,4,7,8,66,67,68] 5 [(.ob 3 3 Ty.Row,6)] kr (g1 _ (zab (wkl [sb q1_1] [2,4,7,109,110,111] 6 kr (g2 _ (zab (wkr [sqx ((True∧t.sch.cols.length=(List.map Col.cells t.sch.cols).length∧True∧rs2.length=(List.map Rw.cells rs2).length∧True)∧True∧True),sb q2_1,skx ((True∧t.sch.cols.length=(List.map Col.cells t.sch.cols).length∧True∧rs2.length=(List.map Rw.cells rs2).length∧True)∧True) [] (hd (IntKind.i64.wrap (t.next+(↑(List.map vrow ins).length:Int))) rs2 zdK),sb (rfl:false=false)] kr))))))⟩
end Go.AM
namespace Go.AM
theorem wkcK {f:FuncId} {fn:Func} {args:List AV} {h:Heap} {R:AV→Heap→Prop} {c':Cfg} (hf:E0.P.funcs[f]?=some fn) (l:List St) (live:List Nat) (m:Nat) (hu:zjr fn args h live m (orcs l)=some (zbe l,c'))
  (hg:Good E0 fn h c' R):zbI E0 f args h R:=by
 unfold zjr at hu
 split at hu
 ·rename_i c hb hn ha hm
  exact zuF E0ok mix0 hf hb hn ha 3000 l live m hm (Option.some.inj hu) hg
 ·cases hu
theorem zsy {f:FuncId} {fn:Func} {args:List AV} {h:Heap} {R:AV→Heap→Prop} {c':Cfg} (hf:E0.P.funcs[f]?=some fn) (l:List St) (live:List Nat) (m:Nat) (k:List (Ct × Nat)) (hu:znj fn args h live m k (orcs l)=some (zbe l,c'))
  (hg:Good E0 fn h c' R):zbI E0 f args h R:=by
 unfold znj at hu
 split at hu
 ·rename_i q c1 h1
  unfold zjr at h1
  split at h1
  ·rename_i c hb hn ha hm
   obtain ⟨q2,h2⟩:=zh5 hu
   have h3:=zaZ l
   have h4:allP q:=by
    rw [h2] at h3
    exact (zdR h3).1
   exact zaN hf hb hn (Nat.le_of_ble_eq_true ha) (zkS hm (Option.some.inj h1) h4 (zmh hu h3 hg))
  ·cases h1
 ·cases hu
theorem wkrK {fn:Func} {h0:Heap} {c:Cfg} {r:AV} {H:Heap} (l:List St) (hfin:finK (mk E0) fn 3000 c (orcs l)=some (zbe l,r,H)):Good E0 fn h0 c (fun y h=>y=r∧h=H) :=
 zcm E0ok mix0 3000 l hfin ⟨rfl,rfl⟩
end Go.AM
