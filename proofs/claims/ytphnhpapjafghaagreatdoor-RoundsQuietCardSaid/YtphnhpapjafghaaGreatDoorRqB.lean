/-
  Contracts of the program's functions, part 1.
-/
import Derived.Test.YtphnhpapjafghaaGreatDoorRqA
import Derived.Laws.Append
import Derived.MapKept
import Derived.WideMake
import Derived.Scope
set_option maxRecDepth 100000
set_option maxHeartbeats 40000000
set_option linter.unusedSimpArgs false
set_option linter.unusedVariables false
namespace Go.AM
open Go.RowKit
section
variable {E : Env0} {h : Heap} {β : List Con} {S : Addr -> Prop} {w : World} {tmps : Array Value} {ts : TS} {K : Act -> World -> Prop} {Q : Exit -> Act -> World -> Prop} {o : Oper} {os : List Orc} {out : Out}
theorem zlD (r:Rel E h β S w) {y:AV} {yv:Value} (hr:RelV E.T h β w S y yv) {ys:List (List AV)} (hl:ziA h y=some ys) (ho:frzO h y) {size:Nat} (hs:∀ c∈ys,c.length=size) (h0:size≠0) :
  ∃ (A:Option Addr) (cap:Nat) (news:List Value),yv=.slice A ys.length cap/\news.length=ys.length * size/\(∀ u∈news,u.oneCell'=true) /\
   (0 < ys.length->∃ g o,A=some ⟨g,o,none⟩/\∀ j u,news[j]?=some u->w.cell? ⟨g,o+j,none⟩=some u) /\
   (∀ (i j:Nat) (c:List AV) (x:AV),ys[i]?=some c->c[j]?=some x->∃ v,news[i * size+j]?=some v/\RelD w S x v):=by
 have data:∀ (S1:Addr->Prop),RelD w S1 (.sl ys) yv->(∀ x v,RelD w S1 x v->RelD w S1 x v)->∃ (A:Option Addr) (cap:Nat) (news:List Value),yv=.slice A ys.length cap/\news.length=ys.length * size/\(∀ u∈news,u.oneCell'=true) /\
   (0 < ys.length->∃ g o,A=some ⟨g,o,none⟩/\∀ j u,news[j]?=some u->w.cell? ⟨g,o+j,none⟩=some u) /\
   (∀ (i j:Nat) (c:List AV) (x:AV),ys[i]?=some c->c[j]?=some x->∃ v,news[i * size+j]?=some v/\RelD w S1 x v):=by
  intro S1 hd _
  cases hd with
  | sl _ A cap g o size' f f1 f2 f3 f4 f5 f6 =>
   have hsz:ys≠[]->size'=size:=by
    intro hn
    obtain ⟨c,cs,rfl⟩:=yAk hn
    rw [← f4 0 c rfl]
    exact hs c (by simp)
   have hpos:∀ k,k < ys.length * size->∃ (c:List AV) (x:AV),ys[k / size]?=some c/\c[k % size]?=some x:=by
    intro k hk
    have hk1:k / size < ys.length:=Nat.div_lt_of_lt_mul (by rw [yAo];exact hk)
    have hc:ys[k / size]?=some ys[k / size]:=yE hk1
    have hcl:(ys[k / size]).length=size:=hs _ (List.getElem_mem hk1)
    have hk2:k % size < (ys[k / size]).length:=by rw [hcl];exact Nat.mod_lt _ (by omega)
    exact ⟨_,_,hc,yE hk2⟩
   have hdm:∀ k,k / size * size+k % size=k:=fun k=>by rw [yAo];exact Nat.div_add_mod k size
   have hfk:∀ k,k < ys.length * size->S1 ⟨g,o+k,none⟩/\w.cell? ⟨g,o+k,none⟩=some (f k)/\(f k).oneCell'=true:=by
    intro k hk
    obtain ⟨c,x,hc,hx⟩:=hpos k hk
    have:=f5 _ _ c x hc hx
    rw [hsz (fun e=>by rw [e] at hk;simp at hk),hdm k] at this
    exact this
   refine ⟨A,cap,(List.range (ys.length * size)).map f,rfl,by simp,?_,?_,?_⟩
   ·intro u hu
    simp only [yAT,List.mem_range] at hu
    obtain ⟨k,hk,rfl⟩:=hu
    exact (hfk k hk).2.2
   ·intro hn
    refine ⟨g,o,f1 (fun e=>by rw [e] at hn;simp at hn),fun j u hj=>?_⟩
    by_cases hjl:j < ys.length * size
    ·simp [hjl] at hj
     subst hj
     exact (hfk j hjl).2.1
    ·simp [hjl] at hj
   ·intro i j c x hi hj
    have hne:ys≠[]:=fun e=>by rw [e] at hi;simp at hi
    have hil:=(yB.1 hi).1
    have hjl:=(yB.1 hj).1
    rw [hs c (yC hi)] at hjl
    have hlt:i * size+j < ys.length * size:=by
     have:(i+1) * size<=ys.length * size:=yU _ hil
     rw [yAA,yAb] at this
     omega
    refine ⟨f (i * size+j),by simp [hlt],?_⟩
    have:=f6 i j c x hi hj
    rwa [hsz hne] at this
 cases y with
 | sl xs =>
  simp only [ziA,yA] at hl
  subst hl
  exact data S (zca hr trivial) (fun _ _ h=>h)
 | nl =>
  simp only [ziA,yA] at hl
  subst hl
  cases hr with
  | d _ _ hd=>cases hd
  | nl a=>exact ⟨a,0,[],rfl,by simp,by simp,by simp,by simp⟩
 | own b n =>
  have hro:zbC h b=some ys:=by
   simp only [ziA] at hl
   unfold zbC
   split at hl
   ·rename_i e xs sh hb;simp only [yA] at hl;subst hl;simp [hb]
   ·cases hl
  rw [zls,hro] at ho
  obtain ⟨e,sh,hb⟩:=zpz hro
  obtain ⟨k,hk,hrow⟩:=r.row b e ys sh hb
  cases hr with
  | d _ _ hd=>cases hd
  | own _ _ _ e' xs' sh' hb' _ hy _ =>
   rw [hb] at hb'
   cases hb'
   have hcur:=hy ho
   rw [hk] at hcur
   cases k with
   | mp _=>exact hrow.elim
   | box _=>exact hrow.elim
   | nil a =>
    have hx:ys=[]:=hrow
    subst hx
    simp only [yAS] at ho
    subst ho
    simp only [yAl,Con.cur,yA] at hcur
    exact ⟨a,0,[],hcur.symm,by simp,by simp,by simp,by simp⟩
   | row g cap =>
    simp only [yAl,Con.cur,yA] at hcur
    obtain ⟨cs,q1,q2,q3,q4,q5,q6,q7⟩:=hrow
    have hsz:ys≠[]->(E.T e).size=size:=by
     intro hn
     obtain ⟨c,l,rfl⟩:=yAk hn
     rw [← q6 0 c rfl]
     exact hs c (by simp)
    have hpos:∀ k,k < ys.length * size->∃ (c:List AV) (x:AV),ys[k / size]?=some c/\c[k % size]?=some x:=by
     intro k hk
     have hk1:k / size < ys.length:=Nat.div_lt_of_lt_mul (by rw [yAo];exact hk)
     have hc:ys[k / size]?=some ys[k / size]:=yE hk1
     have hcl:(ys[k / size]).length=size:=hs _ (List.getElem_mem hk1)
     have hk2:k % size < (ys[k / size]).length:=by rw [hcl];exact Nat.mod_lt _ (by omega)
     exact ⟨_,_,hc,yE hk2⟩
    have hdm:∀ k,k / size * size+k % size=k:=fun k=>by rw [yAo];exact Nat.div_add_mod k size
    have hfk:∀ k,k < ys.length * size->∃ y,cs[k]?=some y/\y.oneCell'=true:=by
     intro k hk
     obtain ⟨c,x,hc,hx⟩:=hpos k hk
     obtain ⟨y,y1,_,y3⟩:=q7 _ _ c x hc hx
     rw [hsz (fun e=>by rw [e] at hk;simp at hk),hdm k] at y1
     exact ⟨y,y1,y3⟩
    refine ⟨some ⟨g,0,none⟩,cap,cs.toList.take (ys.length * size),by rw [← hcur,ho],?_,?_,?_,?_⟩
    ·simp only [yV,yAM]
     rcases Nat.eq_zero_or_pos ys.length with h1|h1
     ·simp [h1]
     ·have:=hsz (fun e=>by rw [e] at h1;simp at h1)
      rw [q5,this]
      have:ys.length * size<=cap * size:=yU _ q2
      omega
    ·intro u hu
     obtain ⟨k,hk⟩:=yQ hu
     rw [yM] at hk
     split at hk
     ·rename_i hlt
      obtain ⟨y,y1,y2⟩:=hfk k hlt
      rw [yW,y1] at hk
      cases hk
      exact y2
     ·cases hk
    ·intro _
     refine ⟨g,0,rfl,fun j u hj=>?_⟩
     rw [yM] at hj
     split at hj
     ·rw [yW] at hj
      simp [World.cell?,q1,hj]
     ·cases hj
    ·intro i j c x hi hj
     have hne:ys≠[]:=fun e=>by rw [e] at hi;simp at hi
     have hil:=(yB.1 hi).1
     have hjl:=(yB.1 hj).1
     rw [hs c (yC hi)] at hjl
     have hlt:i * size+j < ys.length * size:=by
      have:(i+1) * size<=ys.length * size:=yU _ hil
      rw [yAA,yAb] at this
      omega
     obtain ⟨y,y1,y2,_⟩:=q7 i j c x hi hj
     rw [hsz hne] at y1
     exact ⟨y,by rw [yM,if_pos hlt,yW];exact y1,y2⟩
 | os b n lo hi =>
  have hro:∃ xs,zbC h b=some xs/\ys=(xs.take hi).drop lo:=by
   simp only [ziA] at hl
   unfold zbC
   split at hl
   ·rename_i e xs sh hb;simp only [yA] at hl;exact ⟨xs,by simp [hb],hl.symm⟩
   ·cases hl
  obtain ⟨xs,hro,hys⟩:=hro
  rw [zny,hro] at ho
  obtain ⟨e,sh,hb⟩:=zpz hro
  obtain ⟨k,hk,hrow⟩:=r.row b e xs sh hb
  cases hr with
  | d _ _ hd=>cases hd
  | os _ _ _ _ _ e' xs' sh' hb' hnx hlo hhi _ hy =>
   rw [hb] at hb'
   cases hb'
   obtain ⟨k',hk',hat⟩:=hy ho
   rw [hk] at hk'
   cases hk'
   have hlen:ys.length=hi - lo:=by rw [hys];simp;omega
   cases k with
   | mp _=>exact hrow.elim
   | box _=>exact hrow.elim
   | nil a =>
    have hx:xs=[]:=hrow
    obtain ⟨h1,a',rfl⟩:=hat
    have hy0:ys=[]:=by rw [hys,hx];simp
    subst hy0
    exact ⟨a',0,[],rfl,by simp,by simp,by simp,by simp⟩
   | row g cap =>
    obtain ⟨a,rfl,ha⟩:=hat
    obtain ⟨cs,q1,q2,q3,q4,q5,q6,q7⟩:=hrow
    have hget:∀ (i:Nat) (c:List AV),ys[i]?=some c->xs[lo+i]?=some c:=by
     intro i c hc
     rw [hys,yX,yM] at hc
     split at hc
     ·exact hc
     ·cases hc
    have hsz:ys≠[]->(E.T e).size=size:=by
     intro hn
     obtain ⟨c,l,hc⟩:=yAk hn
     rw [← q6 (lo+0) c (hget 0 c (by rw [hc];rfl))]
     exact hs c (by rw [hc];simp)
    have hpos:∀ k,k < ys.length * size->∃ (c:List AV) (x:AV),ys[k / size]?=some c/\c[k % size]?=some x:=by
     intro k hk
     have hk1:k / size < ys.length:=Nat.div_lt_of_lt_mul (by rw [yAo];exact hk)
     have hc:ys[k / size]?=some ys[k / size]:=yE hk1
     have hcl:(ys[k / size]).length=size:=hs _ (List.getElem_mem hk1)
     have hk2:k % size < (ys[k / size]).length:=by rw [hcl];exact Nat.mod_lt _ (by omega)
     exact ⟨_,_,hc,yE hk2⟩
    have hdm:∀ k,k / size * size+k % size=k:=fun k=>by rw [yAo];exact Nat.div_add_mod k size
    have hfk:∀ k,k < ys.length * size->∃ y,cs[lo * size+k]?=some y/\y.oneCell'=true:=by
     intro k hk
     obtain ⟨c,x,hc,hx⟩:=hpos k hk
     obtain ⟨y,y1,_,y3⟩:=q7 _ _ c x (hget _ c hc) hx
     rw [hsz (fun e=>by rw [e] at hk;simp at hk),yAA,Nat.add_assoc,hdm k] at y1
     exact ⟨y,y1,y3⟩
    have hL:∀ k,((cs.toList.drop (lo * size)).take (ys.length * size))[k]?=if k < ys.length * size then cs[lo * size+k]? else none:=by
     intro k
     rw [yM]
     split
     ·rw [yX,yW]
     ·rfl
    refine ⟨a,cap - lo,(cs.toList.drop (lo * size)).take (ys.length * size),by rw [hlen],?_,?_,?_,?_⟩
    ·simp only [yV,yAt,yAM]
     rcases Nat.eq_zero_or_pos ys.length with h1|h1
     ·simp [h1]
     ·have:=hsz (fun e=>by rw [e] at h1;simp at h1)
      rw [q5,this]
      have:lo * size+ys.length * size<=cap * size:=by rw [← yAA];exact yU _ (by omega)
      omega
    ·intro u hu
     obtain ⟨k,hk⟩:=yQ hu
     rw [hL] at hk
     split at hk
     ·rename_i hlt
      obtain ⟨y,y1,y2⟩:=hfk k hlt
      rw [y1] at hk
      cases hk
      exact y2
     ·cases hk
    ·intro hp
     refine ⟨g,lo * (E.T e).size,ha (by omega),fun j u hj=>?_⟩
     rw [hL] at hj
     split at hj
     ·rw [hsz (fun e=>by rw [e] at hp;simp at hp)]
      simp [World.cell?,q1,hj]
     ·cases hj
    ·intro i j c x hi' hj
     have hne:ys≠[]:=fun e=>by rw [e] at hi';simp at hi'
     have hil:=(yB.1 hi').1
     have hjl:=(yB.1 hj).1
     rw [hs c (yC hi')] at hjl
     have hlt:i * size+j < ys.length * size:=by
      have:(i+1) * size<=ys.length * size:=yU _ hil
      rw [yAA,yAb] at this
      omega
     obtain ⟨y,y1,y2,_⟩:=q7 _ j c x (hget i c hi') hj
     rw [hsz hne,yAA,Nat.add_assoc] at y1
     exact ⟨y,by rw [hL,if_pos hlt];exact y1,y2⟩
 | _=>simp [ziA] at hl
theorem zmX {xs:List (List AV)} {d:Nat} {ys:List (List AV)} (hd:d+ys.length<=xs.length):(zee xs d ys).length=xs.length:=by
 unfold zee;simp;omega
theorem zyq {xs:List (List AV)} {d:Nat} {ys:List (List AV)} (hd:d+ys.length<=xs.length) (i:Nat):(zee xs d ys)[i]?=if i < d then xs[i]? else if i < d+ys.length then ys[i - d]? else xs[i]?:=by
 unfold zee
 by_cases h1:i < d
 ·rw [if_pos h1,yH (by simp;omega),yM,if_pos h1]
 ·rw [if_neg h1,yY (by simp;omega)]
  have ht:(xs.take d).length=d:=by simp;omega
  rw [ht]
  by_cases h2:i < d+ys.length
  ·rw [if_pos h2,yH (by omega)]
  ·rw [if_neg h2,yY (by omega),yX]
   congr 1;omega
theorem zmY {xs:List (List AV)} {d:Nat}:zee xs d []=xs:=by simp [zee]
theorem Rel.lay (r:Rel E h β S w) {b:Nat} {e:TypeId} {xs:List (List AV)} {g cap:Nat} {cs:Array Value} (hb:h[b]?=some (.row e xs false)) (hcon:β[b]?=some (.row g cap)) (q1:w.heap[g]?=some (.cells cs e (0,0)))
  {d:Nat} {ys:List (List AV)} {L:List Value} (hd:d+ys.length<=xs.length) (hl:L.length=ys.length * (E.T e).size) (h1:∀ u∈L,u.oneCell'=true) (hys:∀ c∈ys,c.length=(E.T e).size)
  (hrel:∀ (i j:Nat) (c:List AV) (x:AV),ys[i]?=some c->c[j]?=some x->∃ v,L[i * (E.T e).size+j]?=some v/\RelD w S x v)
  {w':World} (hw:∃ cs':Array Value,w'.heap[g]?=some (.cells cs' e (0,0))/\cs'.size=cs.size/\∀ k,cs'[k]?=if k < d * (E.T e).size then cs[k]? else if k < d * (E.T e).size+L.length then L[k - d * (E.T e).size]? else cs[k]?)
  (hkeep:∀ k,k≠g->w'.heap[k]?=w.heap[k]?) (hsize:w'.heap.size=w.heap.size) (hos:w'.os=w.os) (htape:w'.tape=w.tape) (hdrawn:w.drawn<=w'.drawn) (hout:w'.output=w.output) :
  Ext h β S w (h.set b (.row e (zee xs d ys) false)) β S w'/\Rel E (h.set b (.row e (zee xs d ys) false)) β S w':=by
 obtain ⟨k,k2,hrow⟩:=r.row b e xs false hb
 rw [hcon] at k2
 cases k2
 obtain ⟨cs0,q1',q2,q3,q4,q5,q6,q7⟩:=hrow
 rw [q1] at q1'
 cases q1'
 obtain ⟨cs',w1,w2,w3⟩:=hw
 obtain ⟨sz,hsz⟩:∃ sz,sz=(E.T e).size:=⟨_,rfl⟩
 rw [← hsz] at q5 q6 q7 hl hys hrel w3
 have hset:β.set b (.row g cap)=β:=by
  apply yAZ
  intro i
  by_cases hi:i=b
  ·subst hi;rw [zbq hcon,hcon]
  ·rw [zbo hi]
 have hS:∀ a,S a->a.block≠g:=fun a ha e2=>by
  obtain ⟨e1,xs1,h1,_⟩:=r.free b _ g a hcon rfl ha e2
  rw [hb] at h1
  cases h1
 have hcl:=zmX hd
 have tn:Turn h β S w b (.row e (zee xs d ys) false) (.row g cap) (.row g cap) S w':={
  kb:=hcon
  box:=fun cs1 h1=>by rw [hb] at h1;cases h1
  row:=fun e1 xs1 sh1 h1=>by
   rw [hb] at h1
   cases h1
   exact ⟨_,_,rfl,by rw [hcl];exact yJ _,fun _=>rfl⟩
  S_le:=fun _ h=>h
  S_cell:=fun a ha=>World.cell?_of_block (hkeep a.block (hS a ha))
  S_new:=fun _ h=>.inl h
  S_lt:=fun a ha=>by rw [hsize];exact r.stable a ha
  os:=hos
  tape:=htape
  drawn:=hdrawn
  output:=hout
  size:=by rw [hsize];exact yJ _
  keep:=fun k _ hk=>hkeep k (fun e=>hk (by rw [e];rfl))
  own:=fun k hk=>by
   cases hk
   exact ⟨.inl rfl,by rw [hsize];exact r.lt b _ g hcon rfl⟩ }
 have e1:=r.turnExt hb tn
 have hDm:∀ {a:AV} {v:Value},RelD w S a v->RelD w' S a v:=fun hd=>hd.mono (fun _ h=>h) tn.S_cell
 have hg:=fun i=>zyq hd i
 have r1:=r.turn hb tn (fun cs' hcs=>by cases hcs) (fun e2 xs2 sh2 h2=>by
  cases h2
  refine ⟨_,w1,by rw [hcl];exact q2,q3,q4,by rw [w2,← hsz];exact q5,?_,?_⟩
  ·intro i c hi
   rw [hg] at hi
   rw [← hsz]
   split at hi
   ·exact q6 i c hi
   ·split at hi
    ·exact hys c (yC hi)
    ·exact q6 i c hi
  ·intro i j c a hi hj
   rw [← hsz,w3,hl]
   rw [hg] at hi
   split at hi
   ·rename_i h1
    have hjl:j < sz:=by rw [← q6 i c hi];exact (yB.1 hj).1
    obtain ⟨v,v1,v2,v3⟩:=q7 i j c a hi hj
    have:(i+1) * sz<=d * sz:=yU _ (by omega)
    rw [yAA,yAb] at this
    exact ⟨v,by rw [if_pos (by omega)];exact v1,hDm v2,v3⟩
   ·rename_i h1'
    have h2':d * sz<=i * sz:=yU _ (by omega)
    split at hi
    ·rename_i h2
     have hjl:j < sz:=by rw [← hys c (yC hi)];exact (yB.1 hj).1
     obtain ⟨v,v1,v2⟩:=hrel _ j c a hi hj
     have:(i+1) * sz<=(d+ys.length) * sz:=yU _ (by omega)
     rw [yAA,yAb,yAA] at this
     refine ⟨v,?_,hDm v2,h1 v (yC v1)⟩
     rw [if_neg (by omega),if_pos (by omega),← v1]
     congr 1
     rw [Nat.sub_mul];omega
    ·rename_i h2
     obtain ⟨v,v1,v2,v3⟩:=q7 i j c a hi hj
     have:(d+ys.length) * sz<=i * sz:=yU _ (by omega)
     rw [yAA] at this
     exact ⟨v,by rw [if_neg (by omega),if_neg (by omega)];exact v1,hDm v2,v3⟩) (fun k a hk ha hka=>by cases hk;exact absurd hka (hS a ha))
 rw [hset] at e1 r1
 exact ⟨e1,r1⟩
theorem zfJ {P:Program} (w:World) (t ty e:TypeId) (i:TypeInfo) (ht:P.underlying t=some (.slice e)) (hi:P.info? e=some i) (A B:Option Addr) (n cap c:Nat) (hn:n<=cap) :
  (Builtin.append_ #[t,t] ty #[.slice A n cap,.slice B 0 c]).run P w=.ok (.slice A n cap) w:=by
 have hf:(Builtin.firstCells i.size 0 (.slice B 0 c)).run P w=.ok #[] w:=by
  cases B with
  | none=>simp [Builtin.firstCells]
  | some b=>simp [Builtin.firstCells,loadCells,loadCellsFrom]
 cases A with
 | none=>simp [Builtin.append_,run_underlying ht,sizeOf,typeInfo,hi,Builtin.lenOf,hn,hf]
 | some a=>simp [Builtin.append_,run_underlying ht,sizeOf,typeInfo,hi,Builtin.lenOf,hn,hf,storeCells]
structure GrownD (w w':World) (row:Option Nat):Prop extends w.grownBy w' row where
 drawn:w.drawn<=w'.drawn
theorem zoH {T:TypeId->TI} {P:Program} {i:TypeInfo} {d:TypeDesc} {z:Value} {e t ty:TypeId} (tok:TOk P T e i d z) (hu:P.underlying t=some (.slice e)) (hby:1<=(T e).bytes)
  {xs ys:List (List AV)} {k:Con} (hrow:zdM T w S e xs k) (hfree:∀ g a,k.blk=some g->S a->a.block=g->a.off < xs.length * (T e).size)
  (hlt:∀ g,k.blk=some g->g < w.heap.size) (hstab:∀ a,S a->a.block < w.heap.size)
  {cur:Value} (hcur:k.cur xs.length=some cur) {A:Option Addr} {c:Nat} {news:List Value} (hl:news.length=ys.length * (T e).size) (h1:∀ u∈news,u.oneCell'=true) (hsz:∀ c∈ys,c.length=(T e).size)
  (hA:0 < ys.length->∃ g o,A=some ⟨g,o,none⟩/\∀ j u,news[j]?=some u->w.cell? ⟨g,o+j,none⟩=some u)
  (hd:∀ (i j:Nat) (c:List AV) (x:AV),ys[i]?=some c->c[j]?=some x->∃ v,news[i * (T e).size+j]?=some v/\RelD w S x v)
  (hbytes:(xs.length+ys.length) * (T e).bytes<=140737488355328) :
  ∃ k' w' cur',(Builtin.append_ #[t,t] ty #[cur,.slice A ys.length c]).run P w=.ok cur' w'/\k'.cur (xs++ys).length=some cur'/\zdM T w' S e (xs++ys) k'/\GrownD w w' k.blk /\
   (ys=[]->k'=k)/\(∀ g,k'.blk=some g->(k.blk=some g\/w.heap.size<=g)/\g < w'.heap.size)/\∀ a,S a->w'.cell? a=w.cell? a:=by
 have hmax:xs.length+ys.length<=maxLen:=by
  have:(xs.length+ys.length) * 1<=(xs.length+ys.length) * (T e).bytes:=Nat.mul_le_mul_left _ hby
  unfold maxLen
  omega
 by_cases hys:ys=[]
 ·subst hys
  cases k with
  | mp _=>exact hrow.elim
  | box _=>exact hrow.elim
  | nil a =>
   have hx:xs=[]:=hrow
   subst hx
   simp only [Con.cur,yA] at hcur
   subst hcur
   exact ⟨.nil a,w,_,zfJ w t ty e i hu tok.info a A 0 0 c (yJ _),rfl,rfl,⟨⟨rfl,rfl,rfl,yJ _,fun _ _ _=>rfl⟩,yJ _⟩,fun _=>rfl,(fun g hg=>by cases hg),fun _ _=>rfl⟩
  | row g cap =>
   have hrow':=hrow
   obtain ⟨cs,q1,q2,q3,q4,q5,q6,q7⟩:=hrow
   simp only [Con.cur,yA] at hcur
   subst hcur
   refine ⟨.row g cap,w,_,zfJ w t ty e i hu tok.info _ A xs.length cap c q2,by simp [Con.cur],by simpa using hrow',⟨⟨rfl,rfl,rfl,yJ _,fun _ _ _=>rfl⟩,yJ _⟩,fun _=>rfl,fun g' hg=>⟨.inl hg,hlt g' hg⟩,fun _ _=>rfl⟩
 ·have hpos:0 < ys.length:=List.length_pos_iff.2 hys
  obtain ⟨ga,oa,rfl,hcell⟩:=hA hpos
  have hnews:∀ j u,news[j]?=some u->w.cell? ((⟨ga,oa,none⟩:Addr).add j)=some u:=fun j u hj=>by rw [zc5];exact hcell j u hj
  have hl':news.length=ys.length * i.size:=by rw [hl,tok.size]
  have whole:∀ (w':World) (cs':Array Value) (olds:List Value),(∀ a,S a->w'.cell? a=w.cell? a)->olds.length=xs.length * (T e).size ->
    (∀ (i j:Nat) (c:List AV) (x:AV),xs[i]?=some c->c[j]?=some x->∃ v,olds[i * (T e).size+j]?=some v/\RelD w S x v/\v.oneCell'=true) ->
    (∀ c∈xs,c.length=(T e).size)->(∀ (k:Nat) (v:Value),(olds++news)[k]?=some v->cs'[k]?=some v) ->
    (∀ (i:Nat) (c:List AV),(xs++ys)[i]?=some c->c.length=(T e).size) /\
    (∀ (i j:Nat) (c:List AV) (x:AV),(xs++ys)[i]?=some c->c[j]?=some x->∃ y,cs'[i * (T e).size+j]?=some y/\RelD w' S x y/\y.oneCell'=true):=by
   intro w' cs' olds hS hol hod hxsz hcs
   refine ⟨fun i c hc=>?_,fun i j c x hi hj=>?_⟩
   ·rcases yK.1 (yC hc) with h2|h2
    ·exact hxsz c h2
    ·exact hsz c h2
   ·by_cases hil:i < xs.length
    ·rw [yH hil] at hi
     obtain ⟨v,v1,v2,v3⟩:=hod i j c x hi hj
     exact ⟨v,hcs _ v (by rw [yH (yB.1 v1).1];exact v1),v2.mono (fun _ h=>h) hS,v3⟩
    ·rw [yY (by omega)] at hi
     obtain ⟨v,v1,v2⟩:=hd _ j c x hi hj
     refine ⟨v,hcs _ v ?_,v2.mono (fun _ h=>h) hS,h1 v (yC v1)⟩
     have he:i * (T e).size=olds.length+(i - xs.length) * (T e).size:=by
      rw [hol,← yAA]
      congr 1
      omega
     rw [yY (by omega),show i * (T e).size+j - olds.length=(i - xs.length) * (T e).size+j by omega]
     exact v1
  have grown:∀ (base:Option Addr) (cap:Nat) (olds:List Value),cur=.slice base xs.length cap->cap < xs.length+ys.length->olds.length=xs.length * (T e).size ->
    (∀ (i j:Nat) (c:List AV) (x:AV),xs[i]?=some c->c[j]?=some x->∃ v,olds[i * (T e).size+j]?=some v/\RelD w S x v/\v.oneCell'=true)->(∀ c∈xs,c.length=(T e).size) ->
    (∀ b,base=some b->∀ j v,olds[j]?=some v->w.cell? (b.add j)=some v)->(base=none->xs=[]/\cap=0) ->
    ∃ k' w' cur',(Builtin.append_ #[t,t] ty #[cur,.slice (some ⟨ga,oa,none⟩) ys.length c]).run P w=.ok cur' w'/\k'.cur (xs++ys).length=some cur'/\zdM T w' S e (xs++ys) k'/\GrownD w w' k.blk /\
     (ys=[]->k'=k)/\(∀ g,k'.blk=some g->(k.blk=some g\/w.heap.size<=g)/\g < w'.heap.size)/\∀ a,S a->w'.cell? a=w.cell? a:=by
   intro base cap olds hc hcap hol hod hxsz hbase hnone
   subst hc
   have hge:=grownCap_ge w (xs.length+ys.length) cap e
   have hle:=grownCap_le_maxLen w (xs.length+ys.length) cap e hmax
   have hbytes':(xs.length+ys.length) * i.bytes<=140737488355328:=by rw [tok.bytes];exact hbytes
   let cs':Array Value:=olds.toArray++news.toArray++Builtin.zeroCells z.cells (grownCap w (xs.length+ys.length) cap e - (xs.length+ys.length))
   have hrun:(Builtin.append_ #[t,t] ty #[.slice base xs.length cap,.slice (some ⟨ga,oa,none⟩) ys.length c]).run P w =
     .ok (.slice (some ⟨w.heap.size,0,none⟩) (xs.length+ys.length) (grownCap w (xs.length+ys.length) cap e)) (w.drew.alloc (.cells cs' e)):=by
    have hsm:xs.length+ys.length<=9223372036854775807:=by unfold maxLen at hmax;omega
    cases base with
    | none =>
     obtain ⟨rfl,rfl⟩:=hnone rfl
     have ho0:olds=[]:=yAQ (by simpa using hol)
     have:=run_append_nil (P:=P) w t ty e i z hu tok.info tok.zero ⟨ga,oa,none⟩ ys.length c news hl' hnews hpos (by simp at hsm;omega) (by have hb:=hbytes';simp only [yAS,yAi] at hb;omega)
     simp only [yAS,yAi,cs',ho0]
     rw [this]
     simp
    | some b =>
     exact run_append_grow (P:=P) w t ty e i z hu tok.info tok.zero b xs.length cap olds (by rw [hol,tok.size]) (hbase b rfl) ⟨ga,oa,none⟩ ys.length c news hl' hnews hcap (by omega) (growslice_fits hcap hbytes')
   have hsame:∀ g,g < w.heap.size->(w.drew.alloc (.cells cs' e)).heap[g]?=w.heap[g]?:=fun g hg=>heap_alloc_old w.drew _ g hg
   have hS:∀ a,S a->(w.drew.alloc (.cells cs' e)).cell? a=w.cell? a:=fun a ha=>World.cell?_of_block (hsame a.block (hstab a ha))
   have hzl:z.cells.size=(T e).size:=by
    have:=(zdK (T:=T) (h:=([]:Heap)) (β:=[]) (w:=w) (S:=S) _ _ tok.zok).1
    rw [yAM] at this
    rw [← this,tok.zlen]
   obtain ⟨w1,w2⟩:=whole (w.drew.alloc (.cells cs' e)) cs' olds hS hol hod hxsz (fun k v hk=>by
    have hkl:=(yB.1 hk).1
    simp only [cs']
    rw [Array.getElem?_append_left (by simpa using hkl)]
    simpa using hk)
   refine ⟨.row w.heap.size (grownCap w (xs.length+ys.length) cap e),_,_,hrun,by simp [Con.cur],⟨cs',heap_alloc_new w.drew _,by simpa using hge,by omega,hle,?_,w1,w2⟩,⟨⟨rfl,rfl,rfl,by simp,fun k hk _=>hsame k hk⟩,by show w.drawn<=w.drawn+1;omega⟩,fun h0=>absurd h0 hys,?_,hS⟩
   ·simp only [cs',Array.size_append,List.size_toArray,size_zeroCells,hzl,hol,hl,← yAA]
    congr 1
    omega
   ·intro g hg
    cases hg
    exact ⟨.inr (yJ _),by simp⟩
  cases k with
  | mp _=>exact hrow.elim
  | box _=>exact hrow.elim
  | nil a =>
   have hx:xs=[]:=hrow
   subst hx
   simp only [Con.cur,yA] at hcur
   refine grown a 0 [] hcur.symm (by simpa using hpos) (by simp) (by simp) (by simp) (fun b _=>by simp) (fun _=>⟨rfl,rfl⟩)
  | row g cap =>
   obtain ⟨cs,q1,q2,q3,q4,q5,q6,q7⟩:=hrow
   simp only [Con.cur,yA] at hcur
   have hxsz:∀ c∈xs,c.length=(T e).size:=fun c hc=>by
    obtain ⟨i,hi⟩:=yQ hc
    exact q6 i c hi
   have hfit:xs.length * (T e).size<=cs.size:=by rw [q5];exact yU _ q2
   have hol:(cs.toList.take (xs.length * (T e).size)).length=xs.length * (T e).size:=by simp;omega
   have hod:∀ (i j:Nat) (c:List AV) (x:AV),xs[i]?=some c->c[j]?=some x->∃ v,(cs.toList.take (xs.length * (T e).size))[i * (T e).size+j]?=some v/\RelD w S x v/\v.oneCell'=true:=by
    intro i j c x hi hj
    obtain ⟨v,v1,v2,v3⟩:=q7 i j c x hi hj
    have hil:=(yB.1 hi).1
    have hjl:=(yB.1 hj).1
    rw [q6 i c hi] at hjl
    have:(i+1) * (T e).size<=xs.length * (T e).size:=yU _ hil
    rw [yAA,yAb] at this
    exact ⟨v,by rw [yM,if_pos (by omega),yW];exact v1,v2,v3⟩
   by_cases hroom:xs.length+ys.length<=cap
   ·have hfit2:xs.length * i.size+news.length<=cs.size:=by rw [hl',q5,tok.size,← yAA];exact yU _ hroom
    have hr:=run_append_room (P:=P) w t ty e i hu tok.info g xs.length cap cs q1 ⟨ga,oa,none⟩ ys.length c news hl' hnews h1 hroom hfit2
    rw [tok.size] at hr hfit2
    rw [← hcur]
    let cs':Array Value:=(cs.toList.take (xs.length * (T e).size)++news++cs.toList.drop (xs.length * (T e).size+news.length)).toArray
    have hS:∀ a,S a->(w.setRow g cs').cell? a=w.cell? a:=by
     intro a ha
     by_cases hag:a.block=g
     ·have hoff:=hfree g a rfl ha hag
      simp only [World.cell?,hag,setRow_heap w g cs cs' e _ q1,q1]
      split
      ·rfl
      ·simp only [cs',yAY,yAV]
       rw [yH (by rw [hol];exact hoff),yM,if_pos hoff,yW]
     ·exact World.cell?_of_block (setRow_other w g a.block cs' hag)
    obtain ⟨w1,w2⟩:=whole (w.setRow g cs') cs' _ hS hol hod hxsz (fun k v hk=>by
     simp only [cs',yAY]
     rw [yH (yB.1 hk).1]
     exact hk)
    refine ⟨.row g cap,_,_,hr,by simp [Con.cur],⟨cs',setRow_heap w g cs cs' e _ q1,by simpa using hroom,q3,q4,?_,w1,w2⟩,⟨⟨rfl,rfl,rfl,by simp,fun k _ hk=>setRow_other w g k _ (fun e=>hk (by rw [e];rfl))⟩,yJ _⟩,fun _=>rfl,fun g' hg=>⟨.inl hg,?_⟩,hS⟩
    ·simp only [cs',List.size_toArray,yAO,yV,yAt,yAM]
     omega
    ·simp only [World.setRow,Array.size_modify]
     exact hlt g' hg
   ·refine grown (some ⟨g,0,none⟩) cap _ hcur.symm (by omega) hol hod hxsz (fun b hb j v hj=>?_) (fun h0=>by cases h0)
    cases hb
    rw [zc5,yAi]
    rw [yM] at hj
    split at hj
    ·rw [yW] at hj
     simp [World.cell?,q1,hj]
    ·cases hj
theorem zty (ht:zaH E) (r:Rel E h β S w) (rt:zaF E.T h β w S ts tmps) (hd:zaR tmps.size o.dst=true) {t:TypeId} {l c:Operand} (hop:o.op=.makeSlice t l c)
  (hs:zau (mk E) o ts h os=some out) (ho:zat out.o) (g:Goal E h β S w tmps out K):o.wp E.P ⟨tmps,[]⟩ w K Q:=by
 have hl:=zaV (ds:=[]) r rt l
 have hc:=zaV (ds:=[]) r rt c
 simp only [zau,zaj,hop,mk_T,mk_G] at hs
 split at hs
 ·rename_i el k1 n k2 m hk hle hce
  rw [hle] at hl
  rw [hce] at hc
  split at hs
  ·rename_i z hz
   simp only [yA] at hs
   subst hs
   simp only [zat] at ho
   obtain ⟨rfl,ho1,ho2,ho3⟩:=ho
   obtain ⟨ti,dd,zz,tok⟩:=ht.at_ (zax (by rw [hk];simp):E.T t≠_)
   obtain ⟨rfl,hes⟩:=tok.slice_ hk
   obtain ⟨ti2,dd2,z2,tok2⟩:=ht.at_ (za2 hes)
   have hsz:(E.T el).size=1:=by rw [← tok2.zlen,hz];rfl
   have hzc:z2.cells=#[Value.bool z]:=by
    have h1:=tok2.zok
    rw [hz] at h1
    apply Array.ext'
    match hm:z2.cells.toList,h1 with
    | [v],h1 =>
     simp only [zOkL,Bool.and_true] at h1
     cases v <;> simp [zOk] at h1
     subst h1;rfl
    | [],h1=>simp [zOkL] at h1
    | _::_::_,h1=>simp [zOkL] at h1
   obtain ⟨q,rfl⟩:∃ q:Nat,m=(q:Int):=⟨m.toNat,by omega⟩
   simp only [Int.toNat_natCast] at ho3 g ⊢
   have hbt:(ti2.bytes:Int) * (q:Int)<=281474976710656:=by
    have h1:ti2.bytes * q<=281474976710656:=by rw [tok2.bytes,yAo];omega
    rw [← Int.natCast_mul];omega
   have hrun:=run_make (P:=E.P) w t el ti2 z2 tok.und tok2.info tok2.zero k1 k2 (q:Int) (q:Int) (by omega) (Int.le_refl _) hbt (by omega)
   have hlen:q<=maxLen:=by unfold maxLen;omega
   have hb:BelowD w.heap.size w (w.alloc (.cells (madeCells z2.cells (q * ti2.size)) el)):=(BelowD.refl _ _).alloc (yJ _) _
   have hcell:∀ i,i < q->(madeCells z2.cells (q * ti2.size))[i]?=some (.bool z):=fun i hi=>by
    rw [tok2.size,hsz,Nat.mul_one,hzc]
    simp [madeCells,hi,Nat.mod_one]
   have hrow:zdM E.T (w.alloc (.cells (madeCells z2.cells (q * ti2.size)) el)) S el (List.replicate q [AV.bl z]) (.row w.heap.size q):=by
    refine ⟨madeCells z2.cells (q * ti2.size),heap_alloc_new w _,by simp,by omega,hlen,by rw [size_madeCells,tok2.size],fun i c hi=>?_,fun i j c x hi hj=>?_⟩
    ·rw [List.getElem?_replicate] at hi
     split at hi
     ·cases hi;rw [hsz];rfl
     ·cases hi
    ·rw [List.getElem?_replicate] at hi
     split at hi
     ·rename_i hlt
      cases hi
      match j,hj with
      | 0,hj =>
       cases hj
       exact ⟨.bool z,by rw [hsz,Nat.mul_one,yAg];exact hcell i hlt,.bl z,rfl⟩
      | j+1,hj=>cases hj
     ·cases hi
   obtain ⟨e1,r1⟩:=r.newRow el (List.replicate q [AV.bl z]) false (.row w.heap.size q) hb (fun g hg=>by
     cases hg
     exact ⟨yJ _,by simp⟩) hrow
   have hkg:(β++[Con.row w.heap.size q])[h.length]?=some (.row w.heap.size q):=by rw [← r.len,getElem?_append_new]
   refine zcQ r rt hd g (x:=.own h.length q) (y:=.slice (some ⟨w.heap.size,0,none⟩) q q) ?_ rfl r1 e1 (.own _ _ _ el (List.replicate q [AV.bl z]) false (getElem?_append_new _ _) (by simp) (fun _=>by rw [hkg];simp [Con.cur]) ?_)
   ·simp only [execOp,hop,hl.v_inv,hc.v_inv,Sem.run_bind,hrun,Result.andThen_ok,Int.toNat_natCast,Sem.run_pure]
   ·rfl
  ·cases hs
 ·cases hs
theorem zyz (ht:zaH E) (r:Rel E h β S w) (rt:zaF E.T h β w S ts tmps) (hd:zaR tmps.size o.dst=true) {args:Array Operand} {tys:Array TypeId} (hop:o.op=.call { callee:=.builtin .append,args:=args,argTypes:=tys })
  (hs:zau (mk E) o ts h os=some out) (ho:zat out.o) (g:Goal E h β S w tmps out K):o.wp E.P ⟨tmps,[]⟩ w K Q:=by
 simp only [zau,zaj,hop,mk_T,mk_G] at hs
 split at hs
 ·rename_i x y t t' hax hat
  split at hs
  ·rename_i htt
   have htt:=yN htt
   subst htt
   have hae:args=#[x,y]:=by apply Array.ext';exact hax
   have hte:tys=#[t,t]:=by apply Array.ext';exact hat
   subst hae
   subst hte
   have hx:=zaV (ds:=[]) r rt x
   have hy:=zaV (ds:=[]) r rt y
   unfold AM.append at hs
   rw [mk_T] at hs
   split at hs
   ·rename_i e ys hk hly
    obtain ⟨ti,dd,z,tok⟩:=ht.at_ (zax (by rw [hk];simp):E.T t≠_)
    obtain ⟨rfl,hes⟩:=tok.slice_ hk
    obtain ⟨ti2,dd2,z2,tok2⟩:=ht.at_ (za2 hes)
    split at hs
    ·cases hs
    ·rename_i hby
     have hby:=yI hby
     split at hs
     ·rename_i hxe
      rw [hxe] at hx
      simp only [yA] at hs
      subst hs
      simp only [zat] at ho
      obtain ⟨ho1,⟨ho2⟩,ho3⟩:=zs6 ho
      obtain ⟨A,cap,news,hyv,hnl,hn1,hA,hnd⟩:=zlD r hy hly ho1 ho2 hes
      generalize hev:Act.eval ⟨tmps,[]⟩ x=xv at hx
      cases hx with
      | d _ _ hd=>cases hd
      | nl a =>
       obtain ⟨k',w',cur',h1,h2,h3,h4,h5,h6,h7⟩:=zoH (w:=w) (S:=S) (ty:=o.type) tok2 tok.und hby (xs:=[]) (ys:=ys) (k:=.nil a) rfl (fun g a hg=>by cases hg) (fun g hg=>by cases hg) r.stable rfl hnl hn1 ho2 hA hnd (c:=cap) (by simpa using ho3)
       have hb:BelowD w.heap.size w w':=⟨⟨h4.os,h4.tape,h4.output,h4.size,fun k hk=>h4.block k hk (by simp [Con.blk])⟩,h4.drawn⟩
       obtain ⟨e1,r1⟩:=r.newRow e ys false k' hb (fun g hg=>by
        obtain ⟨c1,c2⟩:=h6 g hg
        rcases c1 with c1|c1
        ·cases c1
        ·exact ⟨c1,c2⟩) (by simpa using h3)
       have hkg:(β++[k'])[h.length]?=some k':=by rw [← r.len,getElem?_append_new]
       simp only [List.nil_append] at h2
       refine zcQ r rt hd g (x:=.own h.length ys.length) (y:=cur') ?_ rfl r1 e1 (.own _ _ _ e ys false (getElem?_append_new _ _) (yJ _) (fun _=>by rw [hkg];exact h2) ?_)
       ·simp only [execOp,hop,resolve,invoke,builtin,Sem.run_bind,Sem.run_pure,Result.andThen_ok,List.map_toArray,yT,yAD,hev,hyv,h1]
       ·cases k' <;> simp [Con.cur] at h2 <;> subst h2 <;> rfl
     ·rename_i b n hxe
      rw [hxe] at hx
      cases hb:h[b]? with
      | none=>simp [hb] at hs
      | some B =>
       cases B with
       | mp _=>simp [hb] at hs
       | box cs=>simp [hb] at hs
       | row e' xs sh =>
        simp only [hb] at hs
        split at hs
        ·rename_i hee
         subst hee
         simp only [yA] at hs
         subst hs
         simp only [zat] at ho
         obtain ⟨ho1,⟨ho2⟩,hn,ho3⟩:=zs6 ho
         obtain ⟨A,cap,news,hyv,hnl,hn1,hA,hnd⟩:=zlD r hy hly ho1 ho2 hes
         generalize hev:Act.eval ⟨tmps,[]⟩ x=xv at hx
         cases hx with
         | d _ _ hd=>cases hd
         | own _ _ _ e2 xs2 sh2 hb2 _ hcy _ =>
          rw [hb] at hb2
          cases hb2
          have hcur:=hcy hn
          obtain ⟨k,hk1,hrow⟩:=r.row b e xs sh hb
          rw [hk1] at hcur
          simp only [yAl] at hcur
          rw [hn] at hcur
          obtain ⟨k',w',cur',h1,h2,h3,h4,h5,h6,h7⟩:=zoH (w:=w) (S:=S) (ty:=o.type) tok2 tok.und hby hrow (fun g a hg ha hag=>by
           obtain ⟨e3,xs3,c1,c2⟩:=r.free b k g a hk1 hg ha hag
           rw [hb] at c1
           cases c1
           exact c2) (fun g hg=>r.lt b k g hk1 hg) r.stable hcur hnl hn1 ho2 hA hnd (c:=cap) ho3
          have tn:Turn h β S w b (.row e (xs++ys) sh) k k' S w':={
           kb:=hk1
           box:=fun cs hc=>by rw [hb] at hc;cases hc
           row:=fun e1 xs1 sh1 hc=>by
            rw [hb] at hc
            cases hc
            exact ⟨_,_,rfl,by simp,fun he=>h5 (yAQ (by simp at he;simp [he]))⟩
           S_le:=fun _ h=>h
           S_cell:=h7
           S_new:=fun _ h=>.inl h
           S_lt:=fun a ha=>yAa (r.stable a ha) h4.size
           os:=h4.os
           tape:=h4.tape
           drawn:=h4.drawn
           output:=h4.output
           size:=h4.size
           keep:=fun g hg hne=>h4.block g hg (fun e=>hne e.symm)
           own:=h6 }
          have e1:=r.turnExt hb tn
          have r1:=r.turn hb tn (fun cs hc=>by cases hc) (fun e1 xs1 sh1 hc=>by cases hc;exact h3) (fun g a hg ha hag=>by
           have hS:=r.stable a ha
           rcases (h6 g hg).1 with c1|c1
           ·obtain ⟨e3,xs3,c2,c3⟩:=r.free b k g a hk1 c1 ha hag
            rw [hb] at c2
            cases c2
            refine ⟨e,xs++ys,rfl,yAa c3 (yU _ (by simp))⟩
           ·omega)
          have hkg:(β.set b k')[b]?=some k':=zbq hk1
          refine zcQ r rt hd g (x:=.own b (xs++ys).length) (y:=cur') ?_ rfl r1 e1 (.own _ _ _ e (xs++ys) sh (zbq hb) (yJ _) (fun _=>by rw [hkg];exact h2) ?_)
          ·simp only [execOp,hop,resolve,invoke,builtin,Sem.run_bind,Sem.run_pure,Result.andThen_ok,List.map_toArray,yT,yAD,hev,hyv,h1]
          ·cases k' <;> simp [Con.cur] at h2 <;> subst h2 <;> rfl
        ·cases hs
     ·rename_i b n hi hxe
      rw [hxe] at hx
      split at hs
      ·rename_i e' xs hb
       split at hs
       ·rename_i hee
        subst hee
        simp only [yA] at hs
        subst hs
        simp only [zat] at ho
        obtain ⟨ho1,⟨ho2⟩,hn,hfit⟩:=zs6 ho
        obtain ⟨A,capA,news,hyv,hnl,hn1,hA,hnd⟩:=zlD r hy hly ho1 ho2 hes
        generalize hev:Act.eval ⟨tmps,[]⟩ x=xv at hx
        cases hx with
        | d _ _ hd=>cases hd
        | os _ _ _ _ _ e2 xs2 sh2 hb2 _ hl0 hh0 hone hcy =>
         rw [hb] at hb2
         cases hb2
         obtain ⟨k,hk1,hat⟩:=hcy hn
         by_cases hys:ys=[]
         ·subst hys
          have hset:h.set b (.row e xs false)=h:=by
           apply yAZ
           intro i
           by_cases hi:i=b
           ·subst hi;rw [zbq hb,hb]
           ·rw [zbo hi]
          rw [zmY,hset] at g
          refine zav r rt hd g (y:=xv) ?_ (.os b n 0 hi xv e xs false hb (by omega) hl0 hh0 hone (fun _=>⟨k,hk1,hat⟩))
          obtain ⟨a1,n1,c1,rfl,hn1c⟩:∃ a1 n1 c1,xv=.slice a1 n1 c1/\n1<=c1:=by
           cases k with
           | mp _=>exact hat.elim
           | box _=>exact hat.elim
           | nil a=>obtain ⟨_,a',rfl⟩:=hat;exact ⟨a',0,0,rfl,yJ _⟩
           | row g cap =>
            obtain ⟨a',rfl,_⟩:=hat
            obtain ⟨k',hk',hrow⟩:=r.row b e xs false hb
            rw [hk1] at hk'
            cases hk'
            obtain ⟨_,_,hcap,_⟩:=hrow
            exact ⟨a',_,_,rfl,by omega⟩
          simp only [yAS] at hyv
          simp only [execOp,hop,resolve,invoke,builtin,Sem.run_bind,Sem.run_pure,Result.andThen_ok,List.map_toArray,yT,yAD,hev,hyv,zfJ w t o.type e ti2 tok.und tok2.info a1 A n1 c1 capA hn1c]
         ·have hpos:0 < ys.length:=List.length_pos_iff.2 hys
          obtain ⟨ga,oa,rfl,hcell⟩:=hA hpos
          have hnews:∀ j u,news[j]?=some u->w.cell? ((⟨ga,oa,none⟩:Addr).add j)=some u:=fun j u hj=>by rw [zc5];exact hcell j u hj
          obtain ⟨k',hk',hrow⟩:=r.row b e xs false hb
          rw [hk1] at hk'
          cases hk'
          cases k with
          | mp _=>exact hat.elim
          | box _=>exact hat.elim
          | nil a =>
           have hx0:xs=[]:=hrow
           rw [hx0] at hn
           simp only [yAS] at hn
           omega
          | row gg cap =>
           obtain ⟨a',rfl,ha'⟩:=hat
           obtain ⟨cs,q1,q2,q3,q4,q5,q6,q7⟩:=hrow
           have ha':=ha' (by omega)
           rw [Nat.zero_mul] at ha'
           subst ha'
           have hl':news.length=ys.length * ti2.size:=by rw [hnl,tok2.size]
           have hfit2:hi * ti2.size+news.length<=cs.size:=by rw [hl',q5,tok2.size,← yAA];exact yU _ (by omega)
           have hr:=run_append_room (P:=E.P) w t o.type e ti2 tok.und tok2.info gg hi cap cs q1 ⟨ga,oa,none⟩ ys.length capA news hl' hnews hn1 (by omega) hfit2
           rw [tok2.size] at hr hfit2
           obtain ⟨e1,r1⟩:=r.lay hb hk1 q1 (d:=hi) (ys:=ys) (L:=news) (by omega) hnl hn1 ho2 hnd (w':=w.setRow gg (cs.toList.take (hi * (E.T e).size)++news++cs.toList.drop (hi * (E.T e).size+news.length)).toArray) ⟨_,setRow_heap w gg cs _ e _ q1,by simp;omega,fun k=>by
            simp only [yAY]
            by_cases c1:k < hi * (E.T e).size
            ·rw [if_pos c1,yAV,yH (by simp;omega),yM,if_pos c1,yW]
            ·rw [if_neg c1,yAV,yY (by simp;omega)]
             have ht:(cs.toList.take (hi * (E.T e).size)).length=hi * (E.T e).size:=by simp;omega
             rw [ht]
             by_cases c2:k < hi * (E.T e).size+news.length
             ·rw [if_pos c2,yH (by omega)]
             ·rw [if_neg c2,yY (by omega),yX,yW]
              congr 1;omega⟩ (fun k hk=>setRow_other w gg k _ hk) (by simp [World.setRow]) rfl rfl (yJ _) rfl
           refine zcQ r rt hd g (x:=.os b n 0 (hi+ys.length)) (y:=.slice (some ⟨gg,0,none⟩) (hi+ys.length) cap) ?_ rfl r1 e1 (.os b n 0 (hi+ys.length) _ e (zee xs hi ys) false (zbq hb) (by rw [zmX (by omega)];omega) (yAh _) hfit rfl (fun _=>⟨_,hk1,some ⟨gg,0,none⟩,rfl,fun _=>by simp⟩))
           simp only [Nat.sub_zero] at hev
           simp only [execOp,hop,resolve,invoke,builtin,Sem.run_bind,Sem.run_pure,Result.andThen_ok,List.map_toArray,yT,yAD,hev,hyv,hr]
       ·cases hs
      ·cases hs
     ·cases hs
   ·cases hs
  ·cases hs
 ·cases hs
end
end Go.AM
namespace Go.AM
open Go.RowKit
theorem zik:∀ (l:List Nat) (b i:Nat),idx l b=some i->l[i]?=some b
 | [],b,i,h=>by cases h
 | x::r,b,i,h=>by
  unfold idx at h
  split at h
  ·rename_i hx
   cases h
   have:=yN hx
   simp [this]
  ·cases hi:idx r b with
   | none=>simp [hi] at h
   | some k =>
    simp only [hi,yAC,yA] at h
    subst h
    simpa using zik r b k hi
theorem zol:∀ (l:List Nat) (b:Nat),idx l b=none->b ∉ l
 | [],b,_=>by simp
 | x::r,b,h=>by
  unfold idx at h
  split at h
  ·cases h
  ·rename_i hx
   cases hi:idx r b with
   | some k=>simp [hi] at h
   | none =>
    have hne:x≠b:=by rintro rfl;simp [yAn] at hx
    simp only [yO,not_or]
    exact ⟨Ne.symm hne,zol r b hi⟩
theorem zko:∀ (l:List Nat),zgo l=true->l.Nodup
 | [],_=>by simp
 | x::r,h=>by
  simp only [zgo,yR] at h
  refine List.nodup_cons.2 ⟨?_,zko r h.2⟩
  cases hi:idx r x with
  | none=>exact zol r x hi
  | some k=>simp [hi] at h
theorem zkr {l:List Nat} (hd:l.Nodup) {b i:Nat} (h:l[i]?=some b):idx l b=some i:=by
 cases hi:idx l b with
 | none=>exact absurd (yC h) (zol l b hi)
 | some k =>
  have h2:=zik l b k hi
  have hil:=(yB.1 h).1
  have hkl:=(yB.1 h2).1
  have e1:=(yB.1 h).2
  have e2:=(yB.1 h2).2
  have:=(List.getElem_inj (h₀:=hil) (h₁:=hkl) hd).1 (e1.trans e2.symm)
  rw [this]
theorem zho {α:Type}:∀ (lend:List Nat) (ys l:List α),(zcj l lend ys).length=l.length
 | [],ys,l=>by simp [zcj]
 | b::r,[],l=>by simp [zcj]
 | b::r,y::ys,l=>by simp [zcj,zho r ys]
theorem zfQ {α:Type}:∀ (lend:List Nat) (ys l:List α),lend.Nodup->lend.length=ys.length->(∀ b∈lend,b < l.length)->∀ b,(zcj l lend ys)[b]?=match idx lend b with
  | some i=>ys[i]?
  | none=>l[b]?
 | [],ys,l,_,_,_,b=>by simp [zcj,idx]
 | c::r,[],l,_,hl,_,b=>by simp at hl
 | c::r,y::ys,l,hd,hl,hlt,b=>by
  obtain ⟨h1,h2⟩:=List.nodup_cons.1 hd
  simp only [zcj]
  rw [zfQ r ys (l.set c y) h2 (by simpa using hl) (fun b hb=>by simpa using hlt b (by simp [hb])) b]
  by_cases e:c=b
  ·subst e
   have hi:idx r c=none:=by
    cases hi:idx r c with
    | none=>rfl
    | some k=>exact absurd (yC (zik r c k hi)) h1
   simp only [hi,idx,yAn]
   rw [yAI (hlt c (by simp))]
   rfl
  ·have hb:Nat.beq c b=false:=by
    cases hh:Nat.beq c b with
    | false=>rfl
    | true=>exact absurd (yN hh) e
   simp only [idx,hb]
   cases hi:idx r b with
   | none=>simp only [Option.map_none];rw [yZ e]
   | some k=>simp
theorem zm0 {lend:List Nat} {h:Heap}:∀ (l:List Nat) (hl:Heap),zjz lend h l=some hl->hl.length=l.length/\∀ (i b:Nat),l[i]?=some b->∃ x,h[b]?=some x/\hl[i]?=some (zbf (idx lend) x)
 | [],hl,he=>by cases he;simp
 | c::r,hl,he=>by
  unfold zjz at he
  split at he
  ·rename_i x y hx hy
   cases he
   obtain ⟨h1,h2⟩:=zm0 r y hy
   refine ⟨by simp [h1],fun i b hi=>?_⟩
   cases i with
   | zero=>simp only [yAB,yA] at hi;subst hi;exact ⟨x,hx,rfl⟩
   | succ i=>simp only [yAN] at hi;simpa using h2 i b hi
  ·cases he
mutual
theorem zfg {T:TypeId->TI} {h h':Heap} {β β':List Con} {w:World} {S:Addr->Prop} {σ:Nat->Option Nat} (hσ:∀ b i,σ b=some i->β'[i]?=β[b]?/\∀ e xs sh,h[b]?=some (.row e xs sh)->h'[i]?=some (.row e xs sh)) :
  ∀ (x:AV) (y:Value),RelV T h β w S x y->RelV T h' β' w S (ren σ x) y
 | .un,y,_=>by simp only [ren];exact .d _ _ (.un y)
 | .v _,y,hr=>by simp only [ren];exact .d _ _ (zca hr trivial)
 | .bl _,y,hr=>by simp only [ren];exact .d _ _ (zca hr trivial)
 | .sl _,y,hr=>by simp only [ren];exact .d _ _ (zca hr trivial)
 | .dp _,y,hr=>by simp only [ren];exact .d _ _ (zca hr trivial)
 | .nl,y,hr=>by
  simp only [ren]
  cases hr with
  | d _ _ hd=>cases hd
  | nl a=>exact .nl a
 | .p b off,y,hr=>by
  simp only [ren]
  split
  ·rename_i i hi
   cases hr with
   | d _ _ hd=>cases hd
   | p _ _ g hb=>exact .p _ _ g (by rw [(hσ b i hi).1];exact hb)
  ·exact .d _ _ (.un y)
 | .own b n,y,hr=>by
  simp only [ren]
  split
  ·rename_i i hi
   cases hr with
   | d _ _ hd=>cases hd
   | own _ _ _ e xs sh hb hn hy ho=>exact .own _ _ _ e xs sh ((hσ b i hi).2 e xs sh hb) hn (fun he=>by rw [(hσ b i hi).1];exact hy he) ho
  ·exact .d _ _ (.un y)
 | .ep b n k off,y,hr=>by
  simp only [ren]
  split
  ·rename_i i hi
   cases hr with
   | d _ _ hd=>cases hd
   | ep _ _ _ _ g e xs sh hb hn hy=>exact .ep _ _ _ _ g e xs sh ((hσ b i hi).2 e xs sh hb) hn (fun he=>by rw [(hσ b i hi).1];exact hy he)
  ·exact .d _ _ (.un y)
 | .os b n lo hi,y,hr=>by
  simp only [ren]
  split
  ·rename_i i hi
   cases hr with
   | d _ _ hd=>cases hd
   | os _ _ _ _ _ e xs sh hb hn hl hh ho hy=>exact .os _ _ _ _ _ e xs sh ((hσ b i hi).2 e xs sh hb) hn hl hh ho (fun he=>by rw [(hσ b i hi).1];exact hy he)
  ·exact .d _ _ (.un y)
 | .mp b,y,hr=>by
  simp only [ren]
  split
  ·rename_i i hi
   cases hr with
   | d _ _ hd=>cases hd
   | mp _ g hb=>exact .mp _ g (by rw [(hσ b i hi).1];exact hb)
  ·exact .d _ _ (.un y)
 | .agg cs,y,hr=>by
  obtain ⟨vs,rfl,hl,ho,hv⟩:=hr.agg_inv
  simp only [ren]
  obtain ⟨h1,h2⟩:=ze5 hσ cs vs hl hv
  exact .agg _ _ h1 ho h2
 | .tup cs,y,hr=>by
  obtain ⟨vs,rfl,hl,hv⟩:=hr.tup_inv
  simp only [ren]
  obtain ⟨h1,h2⟩:=ze5 hσ cs vs hl hv
  exact .tup _ _ h1 h2
 | .fn f caps,y,hr=>by
  simp only [ren]
  cases hr with
  | d _ _ hd=>cases hd
  | fn _ _ vs hl hv =>
   obtain ⟨h1,h2⟩:=ze5 hσ caps vs hl hv
   exact .fn f _ _ h1 h2
theorem ze5 {T:TypeId->TI} {h h':Heap} {β β':List Con} {w:World} {S:Addr->Prop} {σ:Nat->Option Nat} (hσ:∀ b i,σ b=some i->β'[i]?=β[b]?/\∀ e xs sh,h[b]?=some (.row e xs sh)->h'[i]?=some (.row e xs sh)) :
  ∀ (l:List AV) (vs:List Value),l.length=vs.length->(∀ (i:Nat) (x:AV) (y:Value),l[i]?=some x->vs[i]?=some y->RelV T h β w S x y) ->
   (renL σ l).length=vs.length/\∀ (i:Nat) (x:AV) (y:Value),(renL σ l)[i]?=some x->vs[i]?=some y->RelV T h' β' w S x y
 | [],vs,hl,_=>⟨by simpa [renL] using hl,by simp [renL]⟩
 | x::l,[],hl,_=>by simp at hl
 | x::l,v::vs,hl,hv=>by
  obtain ⟨h1,h2⟩:=ze5 hσ l vs (by simpa using hl) (fun i a b ha hb=>hv (i+1) a b (by simpa using ha) (by simpa using hb))
  refine ⟨by simp [renL,h1],fun i a b ha hb=>?_⟩
  cases i with
  | zero =>
   simp only [renL,yAB,yA] at ha hb
   subst ha;subst hb
   exact zfg hσ x v (hv 0 x v rfl rfl)
  | succ i =>
   simp only [renL,yAN] at ha hb
   exact h2 i a b ha hb
end
theorem zlJ {σ:Nat->Option Nat} {x:Blk} {e:TypeId} {xs:List (List AV)} {sh:Bool} (h:zbf σ x=.row e xs sh):x=.row e xs sh:=by
 cases x with
 | mp _=>cases h
 | box cs=>cases h
 | row e' xs' sh'=>exact h
theorem zlI {σ:Nat->Option Nat} {x:Blk} {cs:List AV} (h:zbf σ x=.box cs):∃ ds,x=.box ds/\cs=renL σ ds:=by
 cases x with
 | mp _=>cases h
 | box ds=>simp only [zbf,Blk.box.injEq] at h;exact ⟨ds,rfl,h.symm⟩
 | row e' xs' sh'=>cases h
theorem zm3 {σ:Nat->Option Nat} {x:Blk} {es:List (AV × AV)} (h:zbf σ x=.mp es):x=.mp es:=by
 cases x with
 | mp _=>exact h
 | box ds=>cases h
 | row e' xs' sh'=>cases h
section
variable {E : Env0} {h : Heap} {β : List Con} {S : Addr -> Prop} {w : World}
def zcY (β:List Con) (lend:List Nat):List Con:=lend.map fun b=>(β[b]?).getD (.nil none)
theorem zmZ (β:List Con) (lend:List Nat) {i b:Nat} (hi:lend[i]?=some b) (hb:b < β.length):(zcY β lend)[i]?=β[b]?:=by
 simp [zcY,hi,yE hb]
theorem Rel.lend (r:Rel E h β S w) {lend:List Nat} (hd:lend.Nodup) {hl:Heap} (hh:zjz lend h lend=some hl) :
  Rel E hl (zcY β lend) S w/\(∀ (b i:Nat),idx lend b=some i->(zcY β lend)[i]?=β[b]?/\∀ e xs sh,h[b]?=some (.row e xs sh)->hl[i]?=some (.row e xs sh)):=by
 obtain ⟨hlen,hget⟩:=zm0 lend hl hh
 have hlt:∀ (i b:Nat),lend[i]?=some b->b < β.length:=fun i b hi=>by
  obtain ⟨x,hx,_⟩:=hget i b hi
  rw [r.len]
  exact (yB.1 hx).1
 have hσ:∀ (b i:Nat),idx lend b=some i->(zcY β lend)[i]?=β[b]?/\∀ e xs sh,h[b]?=some (.row e xs sh)->hl[i]?=some (.row e xs sh):=by
  intro b i hi
  have hli:=zik lend b i hi
  refine ⟨zmZ β lend hli (hlt i b hli),fun e xs sh hb=>?_⟩
  obtain ⟨x,hx,hx2⟩:=hget i b hli
  rw [hb] at hx
  cases hx
  exact hx2
 have src:∀ (i:Nat) (x:Blk),hl[i]?=some x->∃ b y,lend[i]?=some b/\h[b]?=some y/\x=zbf (idx lend) y/\(zcY β lend)[i]?=β[b]?:=by
  intro i x hx
  have hil:i < lend.length:=by rw [← hlen];exact (yB.1 hx).1
  have hli:lend[i]?=some lend[i]:=yE hil
  obtain ⟨y,hy,hy2⟩:=hget i _ hli
  rw [hx] at hy2
  cases hy2
  exact ⟨_,y,hli,hy,rfl,zmZ β lend hli (hlt i _ hli)⟩
 have srcB:∀ (i:Nat) (k:Con),(zcY β lend)[i]?=some k->∃ b,lend[i]?=some b/\β[b]?=some k:=by
  intro i k hk
  have hil:i < lend.length:=by have:=(yB.1 hk).1;simpa [zcY] using this
  have hli:lend[i]?=some lend[i]:=yE hil
  exact ⟨_,hli,by rw [← zmZ β lend hli (hlt i _ hli)];exact hk⟩
 refine ⟨{
  len:=by simp [zcY,hlen]
  box:=fun i cs hi=>?_
  row:=fun i e xs sh hi=>?_
  mp:=fun i es hi=>?_
  apart:=fun i i' k k' g hi hi' hk hk'=>?_
  lt:=fun i k g hi hk=>?_
  stable:=r.stable
  free:=fun i k g a hi hk ha hag=>?_
  glob:=r.glob },hσ⟩
 ·obtain ⟨b,y,h1,h2,h3,h4⟩:=src i _ hi
  obtain ⟨ds,rfl,rfl⟩:=zlI h3.symm
  obtain ⟨g,vs,t,c1,c2,c3,c4⟩:=r.box b ds h2
  obtain ⟨q1,q2⟩:=ze5 (T:=E.T) (w:=w) (S:=S) hσ ds vs c3 (fun i x y hx hy=>(c4 i x y hx hy).1)
  refine ⟨g,vs,t,h4.trans c1,c2,q1,fun j x y hx hy=>⟨q2 j x y hx hy,?_⟩⟩
  have hjl:j < ds.length:=by rw [c3];exact (yB.1 hy).1
  exact (c4 j _ y (yE hjl) hy).2
 ·obtain ⟨b,y,h1,h2,h3,h4⟩:=src i _ hi
  have:=zlJ h3.symm
  subst this
  obtain ⟨k,c1,c2⟩:=r.row b e xs sh h2
  exact ⟨k,h4.trans c1,c2⟩
 ·obtain ⟨b,y,h1,h2,h3,h4⟩:=src i _ hi
  have:=zm3 h3.symm
  subst this
  obtain ⟨g,c1,c2⟩:=r.mp b es h2
  exact ⟨g,h4.trans c1,c2⟩
 ·obtain ⟨b,h1,h2⟩:=srcB i k hi
  obtain ⟨b',h1',h2'⟩:=srcB i' k' hi'
  have hbb:=r.apart b b' k k' g h2 h2' hk hk'
  subst hbb
  have e1:=zkr hd h1
  have e2:=zkr hd h1'
  rw [e1] at e2
  cases e2
  rfl
 ·obtain ⟨b,h1,h2⟩:=srcB i k hi
  exact r.lt b k g h2 hk
 ·obtain ⟨b,h1,h2⟩:=srcB i k hi
  obtain ⟨e,xs,c1,c2⟩:=r.free b k g a h2 hk ha hag
  exact ⟨e,xs,(hσ b i (zkr hd h1)).2 e xs true c1,c2⟩
theorem Rel.takeBack (r:Rel E h β S w) {lend:List Nat} (hd:lend.Nodup) {hl:Heap} (hh:zjz lend h lend=some hl) {h':Heap} {β':List Con} {S':Addr->Prop} {w':World}
  (r':Rel E h' β' S' w') (x':Ext hl (zcY β lend) S w h' β' S' w') (hm:lend.length<=h'.length) :
  let τ:=back lend h.length
  let H:=zcj h lend ((h'.take lend.length).map (zbf τ))++(h'.drop lend.length).map (zbf τ)
  let B:=zcj β lend (β'.take lend.length)++β'.drop lend.length
  Ext h β S w H B S' w'/\Rel E H B S' w'/\∀ (x:AV) (y:Value),RelV E.T h' β' w' S' x y->RelV E.T H B w' S' (ren τ x) y:=by
 intro τ H B
 obtain ⟨hlen,hget⟩:=zm0 lend hl hh
 obtain ⟨_,hσ⟩:=r.lend hd hh
 have hltb:∀ b∈lend,b < h.length:=fun b hb=>by
  obtain ⟨i,hi⟩:=yQ hb
  obtain ⟨x,hx,_⟩:=hget i b hi
  exact (yB.1 hx).1
 have hlB:∀ b∈lend,b < β.length:=fun b hb=>by rw [r.len];exact hltb b hb
 have hHl:(zcj h lend ((h'.take lend.length).map (zbf τ))).length=h.length:=zho _ _ _
 have hBl:(zcj β lend (β'.take lend.length)).length=h.length:=by rw [zho,r.len]
 have hβ':β'.length=h'.length:=r'.len
 have hH1:∀ (b i:Nat),lend[i]?=some b->H[b]?=(h'[i]?).map (zbf τ)/\B[b]?=β'[i]?:=by
  intro b i hi
  have hil:i < lend.length:=(yB.1 hi).1
  have hb:=hltb b (yC hi)
  simp only [H,B]
  rw [yH (by rw [hHl];exact hb),yH (by rw [hBl];exact hb),
   zfQ lend _ h hd (by simp;omega) hltb b,zfQ lend _ β hd (by simp;omega) hlB b,zkr hd hi]
  simp [yM,hil]
 have hH2:∀ b,b < h.length->b ∉ lend->H[b]?=h[b]?/\B[b]?=β[b]?:=by
  intro b hb hn
  have hi:idx lend b=none:=by
   cases hi:idx lend b with
   | none=>rfl
   | some k=>exact absurd (yC (zik lend b k hi)) hn
  simp only [H,B]
  rw [yH (by rw [hHl];exact hb),yH (by rw [hBl];exact hb),
   zfQ lend _ h hd (by simp;omega) hltb b,zfQ lend _ β hd (by simp;omega) hlB b,hi]
  exact ⟨rfl,rfl⟩
 have hH3:∀ j:Nat,H[h.length+j]?=(h'[lend.length+j]?).map (zbf τ)/\B[h.length+j]?=β'[lend.length+j]?:=by
  intro j
  simp only [H,B]
  rw [yY (by rw [hHl];omega),yY (by rw [hBl];omega),hHl,hBl,Nat.add_sub_cancel_left,yS,yX,yX]
  exact ⟨rfl,rfl⟩
 have kind:∀ b:Nat,(∃ i:Nat,τ i=some b/\H[b]?=(h'[i]?).map (zbf τ)/\B[b]?=β'[i]?/\((lend[i]?=some b)\/(lend.length<=i/\h.length<=b)))\/(b < h.length/\b ∉ lend/\H[b]?=h[b]?/\B[b]?=β[b]?):=by
  intro b
  by_cases hb:b < h.length
  ·by_cases hm':b∈lend
   ·obtain ⟨i,hi⟩:=yQ hm'
    obtain ⟨q1,q2⟩:=hH1 b i hi
    exact .inl ⟨i,by simp [τ,back,hi],q1,q2,.inl hi⟩
   ·obtain ⟨q1,q2⟩:=hH2 b hb hm'
    exact .inr ⟨hb,hm',q1,q2⟩
  ·obtain ⟨q1,q2⟩:=hH3 (b - h.length)
   have e1:h.length+(b - h.length)=b:=by omega
   rw [e1] at q1 q2
   refine .inl ⟨lend.length+(b - h.length),?_,q1,q2,.inr ⟨by omega,by omega⟩⟩
   have hnone:lend[lend.length+(b - h.length)]?=none:=yAX (by omega)
   simp only [τ,back,hnone,yA]
   omega
 have tau:∀ (i b:Nat),τ i=some b->H[b]?=(h'[i]?).map (zbf τ)/\B[b]?=β'[i]?:=by
  intro i b hb
  simp only [τ,back] at hb
  split at hb
  ·rename_i c hc
   cases hb
   exact hH1 b i hc
  ·rename_i hn
   have hi:lend.length<=i:=by
    rcases Nat.lt_or_ge i lend.length with h1|h1
    ·rw [yE h1] at hn;cases hn
    ·exact h1
   cases hb
   have:=hH3 (i - lend.length)
   rwa [show lend.length+(i - lend.length)=i by omega] at this
 have hrow':∀ (i b:Nat) e xs sh,τ i=some b->h'[i]?=some (.row e xs sh)->H[b]?=some (.row e xs sh):=by
  intro i b e xs sh hb hi
  rw [(tau i b hb).1,hi]
  rfl
 have trans:∀ (x:AV) (y:Value),RelV E.T h' β' w' S' x y->RelV E.T H B w' S' (ren τ x) y :=
  zfg (fun i b hb=>⟨(tau i b hb).2,fun e xs sh hi=>hrow' i b e xs sh hb hi⟩)
 have hlow:∀ (i b:Nat),lend[i]?=some b->(zcY β lend)[i]?=β[b]?:=fun i b hi=>(hσ b i (zkr hd hi)).1
 have ext:Ext h β S w H B S' w':={
  box:=fun b cs hb=>by
   have hbl:=(yB.1 hb).1
   by_cases hm':b∈lend
   ·obtain ⟨i,hi⟩:=yQ hm'
    obtain ⟨x,hx,hx2⟩:=hget i b hi
    rw [hb] at hx
    cases hx
    obtain ⟨cs',hc'⟩:=x'.box i _ hx2
    exact ⟨renL τ cs',by rw [(hH1 b i hi).1,hc'];rfl⟩
   ·exact ⟨cs,by rw [(hH2 b hbl hm').1];exact hb⟩
  con:=fun b g hb=>by
   have hbl:b < h.length:=by rw [← r.len];exact (yB.1 hb).1
   by_cases hm':b∈lend
   ·obtain ⟨i,hi⟩:=yQ hm'
    rw [(hH1 b i hi).2]
    exact x'.con i g (by rw [hlow i b hi];exact hb)
   ·rw [(hH2 b hbl hm').2];exact hb
  mp:=fun b es hb=>by
   have hbl:=(yB.1 hb).1
   by_cases hm':b∈lend
   ·obtain ⟨i,hi⟩:=yQ hm'
    obtain ⟨x,hx,hx2⟩:=hget i b hi
    rw [hb] at hx
    cases hx
    obtain ⟨cs',hc'⟩:=x'.mp i _ hx2
    exact ⟨cs',by rw [(hH1 b i hi).1,hc'];rfl⟩
   ·exact ⟨es,by rw [(hH2 b hbl hm').1];exact hb⟩
  conm:=fun b g hb=>by
   have hbl:b < h.length:=by rw [← r.len];exact (yB.1 hb).1
   by_cases hm':b∈lend
   ·obtain ⟨i,hi⟩:=yQ hm'
    rw [(hH1 b i hi).2]
    exact x'.conm i g (by rw [hlow i b hi];exact hb)
   ·rw [(hH2 b hbl hm').2];exact hb
  row:=fun b e xs sh hb=>by
   have hbl:=(yB.1 hb).1
   by_cases hm':b∈lend
   ·obtain ⟨i,hi⟩:=yQ hm'
    obtain ⟨xs',sh',a1,a2,a3⟩:=x'.row i e xs sh ((hσ b i (zkr hd hi)).2 e xs sh hb)
    refine ⟨xs',sh',by rw [(hH1 b i hi).1,a1];rfl,a2,fun he=>?_⟩
    rw [(hH1 b i hi).2,a3 he,hlow i b hi]
   ·exact ⟨xs,sh,by rw [(hH2 b hbl hm').1];exact hb,yJ _,fun _=>(hH2 b hbl hm').2⟩
  S_le:=x'.S_le
  S_cell:=x'.S_cell
  S_new:=fun a ha=>by
   rcases x'.S_new a ha with h1|h1|⟨i,k,h1,h2⟩
   ·exact .inl h1
   ·exact .inr (.inl h1)
   ·have hil:i < lend.length:=by have:=(yB.1 h1).1;simpa [zcY] using this
    have hli:lend[i]?=some lend[i]:=yE hil
    exact .inr (.inr ⟨_,k,by rw [← hlow i _ hli];exact h1,h2⟩)
  os:=x'.os
  tape:=x'.tape
  drawn:=x'.drawn
  output:=x'.output
  size:=x'.size
  keep:=fun g hg hne=>x'.keep g hg fun i k h1 h2=>by
   have hil:i < lend.length:=by have:=(yB.1 h1).1;simpa [zcY] using this
   have hli:lend[i]?=some lend[i]:=yE hil
   exact hne _ k (by rw [← hlow i _ hli];exact h1) h2
  new:=fun b k g hb hk=>by
   rcases kind b with ⟨i,t1,t2,t3,t4⟩|⟨hb1,hb2,hb3,hb4⟩
   ·rw [t3] at hb
    rcases x'.new i k g hb hk with ⟨i',k',c1,c2,rfl⟩|c
    ·have hil:i' < lend.length:=by have:=(yB.1 c1).1;simpa [zcY] using this
     rcases t4 with t4|t4
     ·exact .inl ⟨b,k',by rw [← hlow i' b t4];exact c1,c2,rfl⟩
     ·omega
    ·exact .inr c
   ·rw [hb4] at hb
    exact .inl ⟨b,k,hb,hk,rfl⟩ }
 have oldg:∀ (b:Nat) (k:Con) (g:Nat),b ∉ lend->β[b]?=some k->k.blk=some g->∀ (i:Nat) (k':Con),(zcY β lend)[i]?=some k'->k'.blk≠some g:=by
  intro b k g hbn hb hk i k' h1 h2
  have hil:i < lend.length:=by have:=(yB.1 h1).1;simpa [zcY] using this
  have hli:lend[i]?=some lend[i]:=yE hil
  rw [hlow i _ hli] at h1
  have:=r.apart b _ k k' g hb h1 hk h2
  exact hbn (by rw [this];exact yC hli)
 refine ⟨ext,{
  len:=by simp only [H,B,yAO,hHl,hBl,yG,yAt,hβ']
  box:=fun b cs hb=>?_
  row:=fun b e xs sh hb=>?_
  mp:=fun b es hb=>?_
  apart:=fun b b' k k' g hb hb' hk hk'=>?_
  lt:=fun b k g hb hk=>?_
  stable:=r'.stable
  free:=fun b k g a hb hk ha hag=>?_
  glob:=r'.glob },trans⟩
 ·rcases kind b with ⟨i,t1,t2,t3,t4⟩|⟨hb1,hb2,hb3,hb4⟩
  ·rw [t2] at hb
   cases hi:h'[i]? with
   | none=>simp [hi] at hb
   | some x =>
    simp only [hi,yAC,yA] at hb
    obtain ⟨ds,rfl,rfl⟩:=zlI hb
    obtain ⟨g,vs,t,c1,c2,c3,c4⟩:=r'.box i ds hi
    obtain ⟨q1,q2⟩:=ze5 (T:=E.T) (w:=w') (S:=S') (fun i b hb=>⟨(tau i b hb).2,fun e xs sh hi=>hrow' i b e xs sh hb hi⟩) ds vs c3 (fun i x y hx hy=>(c4 i x y hx hy).1)
    refine ⟨g,vs,t,t3.trans c1,c2,q1,fun j x y hx hy=>⟨q2 j x y hx hy,?_⟩⟩
    have hjl:j < ds.length:=by rw [c3];exact (yB.1 hy).1
    exact (c4 j _ y (yE hjl) hy).2
  ·rw [hb3] at hb
   obtain ⟨g,vs,t,c1,c2,c3,c4⟩:=r.box b cs hb
   refine ⟨g,vs,t,hb4.trans c1,?_,c3,fun i x y hx hy=>⟨(c4 i x y hx hy).1.ext ext,(c4 i x y hx hy).2⟩⟩
   rw [x'.keep g (r.lt b _ g c1 rfl) (oldg b _ g hb2 c1 rfl)]
   exact c2
 ·rcases kind b with ⟨i,t1,t2,t3,t4⟩|⟨hb1,hb2,hb3,hb4⟩
  ·rw [t2] at hb
   cases hi:h'[i]? with
   | none=>simp [hi] at hb
   | some x =>
    simp only [hi,yAC,yA] at hb
    have:=zlJ hb
    subst this
    obtain ⟨k,c1,c2⟩:=r'.row i e xs sh hi
    exact ⟨k,t3.trans c1,c2⟩
  ·rw [hb3] at hb
   obtain ⟨k,c1,c2⟩:=r.row b e xs sh hb
   exact ⟨k,hb4.trans c1,c2.ext x'.S_le x'.S_cell fun g hg=>x'.keep g (r.lt b k g c1 hg) (oldg b k g hb2 c1 hg)⟩
 ·rcases kind b with ⟨i,t1,t2,t3,t4⟩|⟨hb1,hb2,hb3,hb4⟩
  ·rw [t2] at hb
   cases hi:h'[i]? with
   | none=>simp [hi] at hb
   | some x =>
    simp only [hi,yAC,yA] at hb
    have:=zm3 hb
    subst this
    obtain ⟨k,c1,c2⟩:=r'.mp i es hi
    exact ⟨k,t3.trans c1,c2⟩
  ·rw [hb3] at hb
   obtain ⟨k,c1,c2⟩:=r.mp b es hb
   exact ⟨k,hb4.trans c1,c2.ext x'.S_le x'.S_cell (x'.keep k (r.lt b _ k c1 rfl) (oldg b _ k hb2 c1 rfl))⟩
 ·rcases kind b with ⟨i,t1,t2,t3,t4⟩|⟨hb1,hb2,hb3,hb4⟩ <;> rcases kind b' with ⟨i',t1',t2',t3',t4'⟩|⟨hb1',hb2',hb3',hb4'⟩
  ·rw [t3] at hb
   rw [t3'] at hb'
   have:=r'.apart i i' k k' g hb hb' hk hk'
   subst this
   rw [t1] at t1'
   cases t1'
   rfl
  ·rw [t3] at hb
   rw [hb4'] at hb'
   rcases x'.new i k g hb hk with ⟨i2,k2,c1,c2,_⟩|c
   ·exact absurd c2 (oldg b' k' g hb2' hb' hk' i2 k2 c1)
   ·have:=r.lt b' k' g hb' hk'
    omega
  ·rw [hb4] at hb
   rw [t3'] at hb'
   rcases x'.new i' k' g hb' hk' with ⟨i2,k2,c1,c2,_⟩|c
   ·exact absurd c2 (oldg b k g hb2 hb hk i2 k2 c1)
   ·have:=r.lt b k g hb hk
    omega
  ·rw [hb4] at hb
   rw [hb4'] at hb'
   exact r.apart b b' k k' g hb hb' hk hk'
 ·rcases kind b with ⟨i,t1,t2,t3,t4⟩|⟨hb1,hb2,hb3,hb4⟩
  ·rw [t3] at hb
   exact r'.lt i k g hb hk
  ·rw [hb4] at hb
   exact yAa (r.lt b k g hb hk) x'.size
 ·rcases kind b with ⟨i,t1,t2,t3,t4⟩|⟨hb1,hb2,hb3,hb4⟩
  ·rw [t3] at hb
   obtain ⟨e,xs,c1,c2⟩:=r'.free i k g a hb hk ha hag
   exact ⟨e,xs,hrow' i b e xs true t1 c1,c2⟩
  ·rw [hb4] at hb
   rcases x'.S_new a ha with c|c|⟨i,k',c1,c2⟩
   ·obtain ⟨e,xs,d1,d2⟩:=r.free b k g a hb hk c hag
    exact ⟨e,xs,hb3.trans d1,d2⟩
   ·have:=r.lt b k g hb hk
    omega
   ·exact absurd (hag ▸ c2) (oldg b k g hb2 hb hk i k' c1)
variable {tmps : Array Value} {ts : TS} {K : Act -> World -> Prop} {Q : Exit -> Act -> World -> Prop} {o : Oper} {os : List Orc} {out : Out}
theorem zsx {h0:Heap} {hl:Heap} {βl:List Con} {σ:Nat->Option Nat} {T:TypeId->TI} (hσ:∀ (b i:Nat),σ b=some i->βl[i]?=β[b]?/\∀ e xs sh,h[b]?=some (.row e xs sh)->hl[i]?=some (.row e xs sh))
  {x:AV} {y:Value} (hr:RelV T h β w S x y) (hf:RelD w S (frz h0 (hide σ x)) y):RelV T hl βl w S (argV σ h0 x) y:=by
 cases x with
 | p b off=>exact zfg hσ _ y hr
 | mp b=>exact zfg hσ _ y hr
 | fn f caps=>exact zfg hσ _ y hr
 | own b n =>
  have h1:=zfg hσ _ y hr
  simp only [hide] at hf
  simp only [argV,ren] at h1 ⊢
  split
  ·rename_i i hi;rw [hi] at h1;exact h1
  ·rename_i hi;rw [hi] at hf;exact .d _ _ hf
 | os b n lo hi =>
  have h1:=zfg hσ _ y hr
  simp only [hide] at hf
  simp only [argV,ren] at h1 ⊢
  split
  ·rename_i i hi;rw [hi] at h1;exact h1
  ·rename_i hi;rw [hi] at hf;exact .d _ _ hf
 | _=>exact .d _ _ hf
theorem zzv {T:TypeId->TI} {h:Heap} {β:List Con} {w:World} {S:Addr->Prop} {σ:Nat->Option Nat} {x:AV} {y:Value} (hr:RelV T h β w S x y):RelV T h β w S (hide σ x) y:=by
 cases x with
 | own b n =>
  simp only [hide]
  split
  ·exact .d _ _ (.un y)
  ·exact hr
 | os b n lo hi =>
  simp only [hide]
  split
  ·exact .d _ _ (.un y)
  ·exact hr
 | _=>exact hr
theorem zxK {h0:Heap} {hl:Heap} {βl:List Con} {σ:Nat->Option Nat} {T:TypeId->TI} (hσ:∀ (b i:Nat),σ b=some i->βl[i]?=β[b]?/\∀ e xs sh,h[b]?=some (.row e xs sh)->hl[i]?=some (.row e xs sh))
  {x:AV} {y:Value} (hr:RelV T h β w S x y) (hf:RelD w S (frz h0 (hide σ x)) y):RelV T hl βl w S (zwp σ h0 x) y:=by
 cases x with
 | nl =>
  cases hr with
  | d _ _ h=>cases h
  | nl a=>exact .nl a
 | _=>exact zsx hσ hr hf
def argB (nn:Bool) (σ:Nat->Option Nat) (h:Heap) (x:AV):AV:=match nn with
 | true=>zwp σ h x
 | false=>argV σ h x
theorem zy2 (nn:Bool) {h0:Heap} {hl:Heap} {βl:List Con} {σ:Nat->Option Nat} {T:TypeId->TI} (hσ:∀ (b i:Nat),σ b=some i->βl[i]?=β[b]?/\∀ e xs sh,h[b]?=some (.row e xs sh)->hl[i]?=some (.row e xs sh))
  {x:AV} {y:Value} (hr:RelV T h β w S x y) (hf:RelD w S (frz h0 (hide σ x)) y):RelV T hl βl w S (argB nn σ h0 x) y:=by
 cases nn
 ·exact zsx hσ hr hf
 ·exact zxK hσ hr hf
theorem zn7 (nn:Bool) (r:Rel E h β S w) (rt:zaF E.T h β w S ts tmps) (hd:zaR tmps.size o.dst=true) {args:Array Operand} {tys:Array TypeId} {fo:Operand} (hop:o.op=.call { callee:=.value fo,args:=args,argTypes:=tys })
  {f:FuncId} {caps:List AV} (hfe:ev E.G ts fo=.fn f caps) {lend:List Nat} {hl:Heap} (hlend:zjz lend (share h (zbv ((args.toList.map (ev E.G ts)++caps).map (hide (idx lend))))) lend=some hl) (hdis:zgo lend=true)
  (ho1:zcK h ((args.toList.map (ev E.G ts)++caps).map (hide (idx lend)))) {R':AV->Heap->Prop} (hC:zbY E f ((args.toList.map (ev E.G ts)++caps).map (argB nn (idx lend) h)) hl R')
  (g:∀ (res:AV) (h':Heap),R' res h'->lend.length<=h'.length/\Goal E h β S w tmps ⟨none,AM.put ts o.dst (ren (back lend h.length) res),zcj (share h (zbv ((args.toList.map (ev E.G ts)++caps).map (hide (idx lend))))) lend ((h'.take lend.length).map (zbf (back lend h.length)))++(h'.drop lend.length).map (zbf (back lend h.length)),[]⟩ K):o.wp E.P ⟨tmps,[]⟩ w K Q:=by
 have hfo:=zaV (ds:=[]) r rt fo
 rw [hfe] at hfo
 have hnd:=zko lend hdis
 obtain ⟨cv,hfv,hcl,hcr⟩:∃ cv:List Value,Act.eval ⟨tmps,[]⟩ fo=.func (.func f) #[] cv.toArray/\caps.length=cv.length/\∀ (i:Nat) (x:AV) (y:Value),caps[i]?=some x->cv[i]?=some y->RelV E.T h β w S x y:=by
  generalize Act.eval ⟨tmps,[]⟩ fo=y at hfo
  cases hfo with
  | d _ _ hd=>cases hd
  | fn _ _ vs h1 h2=>exact ⟨vs,rfl,h1,h2⟩
 have hpw:PW (RelV E.T h β w S) (args.toList.map (ev E.G ts)++caps) (args.toList.map (Act.eval ⟨tmps,[]⟩)++cv):=by
  refine PW.append ⟨by simp,fun i x y hx hy=>?_⟩ ⟨hcl,hcr⟩
  simp only [yS,yAH] at hx hy
  obtain ⟨p,h1,rfl⟩:=hx
  obtain ⟨q,h2,rfl⟩:=hy
  rw [h1] at h2
  cases h2
  exact zaV r rt _
 have hpwh:∀ (i:Nat) (x:AV) (y:Value),((args.toList.map (ev E.G ts)++caps).map (hide (idx lend)))[i]?=some x->(args.toList.map (Act.eval ⟨tmps,[]⟩)++cv)[i]?=some y->RelV E.T h β w S x y:=by
  intro i x y hx hy
  rw [yS,yAH] at hx
  obtain ⟨p,h1,rfl⟩:=hx
  exact zzv (hpw.2 i p y h1 hy)
 obtain ⟨S1,⟨e1,r1⟩,d1⟩:=zgq E ((args.toList.map (ev E.G ts)++caps).map (hide (idx lend))) h β S w _ r (by rw [yG];exact hpw.1) hpwh ho1
 obtain ⟨rl,hσ⟩:=r1.lend hnd hlend
 have hcalls:=hC
 have hfl:∀ (l:List AV) (i:Nat) (x:AV),l[i]?=some x->(frzL h l)[i]?=some (frz h x):=by
  intro l
  induction l with
  | nil=>intro i x hx;simp at hx
  | cons a l ih =>
   intro i x hx
   cases i with
   | zero=>simp only [yAB,yA] at hx;subst hx;simp [frzL]
   | succ i=>simp only [yAN] at hx;simpa [frzL] using ih i x hx
 have hargs:PW (RelV E.T hl (zcY β lend) w S1) ((args.toList.map (ev E.G ts)++caps).map (argB nn (idx lend) h)) (args.toList.map (Act.eval ⟨tmps,[]⟩)++cv):=by
  refine ⟨by rw [yG];exact hpw.1,fun i x y hx hy=>?_⟩
  simp only [yS,yAH] at hx
  obtain ⟨p,h1,rfl⟩:=hx
  exact zy2 nn hσ ((hpw.2 i p y h1 hy).ext e1) (d1 i _ y (hfl _ i _ (by rw [yS,h1];rfl)) hy)
 have hc:=hcalls (zcY β lend) S1 w _ rl hargs
 unfold Oper.wp
 have harr:(args.map (Act.eval ⟨tmps,[]⟩))++cv.toArray=(args.toList.map (Act.eval ⟨tmps,[]⟩)++cv).toArray:=by
  apply Array.ext'
  simp
 have fin:∀ (e:Ending) (w':World),Post E hl (zcY β lend) S1 w R' e w'->∃ y,e=.returned y/\K ((⟨tmps,[]⟩:Act).put o.dst y) w':=by
  rintro e w' ⟨r',h2,β',S',y,rfl,hR,rr,ex,rv⟩
  obtain ⟨hm,hgoal⟩:=g r' h2 hR
  obtain ⟨x1,x2,x3⟩:=r1.takeBack hnd hlend rr ex hm
  have hlen1:(share h (zbv ((args.toList.map (ev E.G ts)++caps).map (hide (idx lend))))).length=h.length:=by rw [← r1.len,r.len]
  rw [hlen1] at x1 x2 x3
  refine ⟨y,rfl,?_⟩
  rw [zb3]
  exact hgoal.k _ S' w' _ (zcz _ _ _) x2 (e1.trans x1) ((rt.ext (e1.trans x1)).put hd (x3 _ _ rv))
 rcases hc with ⟨⟨fn,hf1,hf2,hf3⟩,hc⟩|⟨y0,w0,hrun0,hp⟩
 ·have hrun:(execOp (Act.eval ⟨tmps,[]⟩) o).run E.P w=.ok (.enter f (args.toList.map (Act.eval ⟨tmps,[]⟩)++cv).toArray) w:=by
   simp only [execOp,hop,resolve,hfv,Deferred.ofValue,Sem.run_bind,Sem.run_pure,Result.andThen_ok,invoke,callFunc,run_program,Array.empty_append,harr,hf1,hf2,hf3,Bool.false_eq_true,if_false]
  rw [hrun,Oper.upon_enter]
  refine hc.mono ?_
  intro e w' hp
  obtain ⟨y,rfl,hk⟩:=fin e w' hp
  exact hk
 ·have hrun:(execOp (Act.eval ⟨tmps,[]⟩) o).run E.P w=.ok (.value y0) w0:=by
   simp only [execOp,hop,resolve,hfv,Deferred.ofValue,Sem.run_bind,Sem.run_pure,Result.andThen_ok,invoke,Array.empty_append,harr,hrun0]
  rw [hrun,Oper.upon_value]
  obtain ⟨y,hy,hk⟩:=fin _ w0 hp
  cases hy
  exact hk
theorem zAQ (r:Rel E h β S w) (rt:zaF E.T h β w S ts tmps) (hd:zaR tmps.size o.dst=true) {args:Array Operand} {tys:Array TypeId} {fo:Operand} (hop:o.op=.call { callee:=.value fo,args:=args,argTypes:=tys })
  (hs:zau (mk E) o ts h os=some out) (ho:zat out.o) (g:Goal E h β S w tmps out K):o.wp E.P ⟨tmps,[]⟩ w K Q:=by
 simp only [zau,zaj,hop,mk_T,mk_G] at hs
 split at hs
 ·rename_i f caps hfe
  unfold zr3 at hs
  split at hs
  ·rename_i lend res h' os'
   split at hs
   ·rename_i hl hlend hchk
    simp only [yA] at hs
    subst hs
    simp only [zat] at ho
    simp only [yR] at hchk
    obtain ⟨hm,hdis⟩:=hchk
    obtain ⟨ho1,hC⟩:=zvm ho
    refine zn7 false r rt hd hop hfe hlend hdis ho1 hC fun r' h'' hR=>?_
    obtain ⟨rfl,rfl⟩:=hR
    exact ⟨yI hm,⟨g.k⟩⟩
   ·cases hs
  ·rename_i lend res h' os'
   split at hs
   ·rename_i hl hlend hchk
    simp only [yA] at hs
    subst hs
    simp only [zat] at ho
    simp only [yR] at hchk
    obtain ⟨hm,hdis⟩:=hchk
    obtain ⟨ho1,hC⟩:=zvm ho
    refine zn7 true r rt hd hop hfe hlend hdis ho1 hC fun r' h'' hR=>?_
    obtain ⟨rfl,rfl⟩:=hR
    exact ⟨yI hm,⟨g.k⟩⟩
   ·cases hs
  ·cases hs
 ·cases hs
end
end Go.AM
namespace Go.AM
open Go.RowKit
theorem zn8 {xs:List (List AV)} {s t m:Nat} (hst:s<=t) (ht:t<=xs.length):(((xs.take t).drop s).take m).length=min m (t - s):=by simp;omega
theorem ztA {xs:List (List AV)} {s t m i:Nat} {c:List AV} (h:(((xs.take t).drop s).take m)[i]?=some c):xs[s+i]?=some c/\i < m:=by
 rw [yM] at h
 split at h
 ·rename_i hi
  rw [yX,yM] at h
  split at h
  ·exact ⟨h,hi⟩
  ·cases h
 ·cases h
theorem zBg {w:World} {S:Addr->Prop} {x:AV} {y:Value} (hz:zOk x y=true):RelD w S (frz [] x) y/\y.oneCell'=true:=by
 unfold zOk at hz
 split at hz
 ·exact ⟨.sl [] none 0 0 0 0 (fun _=>undef) (fun hn=>absurd rfl hn) (yJ _) (yAh _) (by simp) (by simp) (by simp),rfl⟩
 ·simp only [beq_iff_eq] at hz;subst hz;exact ⟨by simp only [frz];exact .v _ rfl,rfl⟩
 ·simp only [decide_eq_true_eq] at hz;obtain ⟨rfl,rfl⟩:=hz;exact ⟨by simp only [frz];exact .v _ rfl,rfl⟩
 ·simp only [decide_eq_true_eq] at hz;subst hz;exact ⟨by simp only [frz];exact .v _ rfl,rfl⟩
 ·exact ⟨by simp only [frz];exact .v _ rfl,rfl⟩
 ·exact ⟨by simp only [frz];exact .v _ rfl,rfl⟩
 ·exact ⟨by simp only [frz];exact .v _ rfl,rfl⟩
 ·exact ⟨by simp only [frz];exact .v _ rfl,rfl⟩
 ·cases hz
theorem zui {w:World} {S:Addr->Prop}:∀ (l:List AV) (m:List Value),zOkL l m=true ->
  l.length=m.length/\∀ (i:Nat) (x:AV),(frzL [] l)[i]?=some x->∃ y,m[i]?=some y/\RelD w S x y/\y.oneCell'=true
 | [],[],_=>⟨rfl,by simp [frzL]⟩
 | x::r,y::s,hz=>by
  simp only [zOkL,yR] at hz
  obtain ⟨h1,h2⟩:=zui (w:=w) (S:=S) r s hz.2
  refine ⟨by simp [h1],fun i a ha=>?_⟩
  cases i with
  | zero=>simp only [frzL,yAB,yA] at ha ⊢;subst ha;exact ⟨y,rfl,zBg hz.1⟩
  | succ i=>simp only [frzL,yAN] at ha ⊢;exact h2 i a ha
 | [],_::_,hz=>by cases hz
 | _::_,[],hz=>by cases hz
theorem zrT (z:Array Value) (n k:Nat) (hk:k < n * z.size):(Builtin.zeroCells z n)[k]?=z[k % z.size]?:=by
 have h0:0 < z.size:=by
  rcases Nat.eq_zero_or_pos z.size with h|h
  ·rw [h] at hk;simp at hk
  ·exact h
 have hm:=Nat.mod_lt k h0
 simp only [Builtin.zeroCells,Array.getElem?_map]
 rw [yAc (by simpa using hk)]
 simp [hm]
section
variable {E : Env0} {h : Heap} {β : List Con} {S : Addr -> Prop} {w : World} {tmps : Array Value} {ts : TS} {K : Act -> World -> Prop} {Q : Exit -> Act -> World -> Prop} {o : Oper} {os : List Orc} {out : Out}
theorem zAR (ht:zaH E) (r:Rel E h β S w) (rt:zaF E.T h β w S ts tmps) (hd:zaR tmps.size o.dst=true) {args:Array Operand} {tys:Array TypeId} (hop:o.op=.call { callee:=.builtin .copy,args:=args,argTypes:=tys })
  (hs:zau (mk E) o ts h os=some out) (ho:zat out.o) (g:Goal E h β S w tmps out K):o.wp E.P ⟨tmps,[]⟩ w K Q:=by
 simp only [zau,zaj,hop,mk_T,mk_G] at hs
 split at hs
 ·rename_i x y t t' hax hat
  have hae:args=#[x,y]:=by apply Array.ext';exact hax
  have hte:tys=#[t,t']:=by apply Array.ext';exact hat
  subst hae
  subst hte
  have hx:=zaV (ds:=[]) r rt x
  have hy:=zaV (ds:=[]) r rt y
  split at hs
  ·rename_i el b n d dh b' n' s sh' hk hex hey
   rw [hex] at hx
   rw [hey] at hy
   obtain ⟨ti,dd,z,tok⟩:=ht.at_ (zax (by rw [hk];simp):E.T t≠_)
   obtain ⟨rfl,hes⟩:=tok.slice_ hk
   obtain ⟨ti2,dd2,z2,tok2⟩:=ht.at_ (za2 hes)
   split at hs
   ·rename_i e' xs hbb hb
    have hbb:=yN hbb
    subst hbb
    split at hs
    ·rename_i hee
     subst hee
     simp only [yA] at hs
     subst hs
     simp only [zat] at ho
     obtain ⟨hn,hn'⟩:=ho
     generalize hev:Act.eval ⟨tmps,[]⟩ x=xv at hx
     generalize hev':Act.eval ⟨tmps,[]⟩ y=yv at hy
     cases hx with
     | d _ _ hd=>cases hd
     | os _ _ _ _ _ e2 xs2 sh2 hb2 _ hdl hdh _ hax =>
     cases hy with
     | d _ _ hd=>cases hd
     | os _ _ _ _ _ e3 xs3 sh3 hb3 _ hsl hsh _ hay =>
     rw [hb] at hb2 hb3
     cases hb2
     cases hb3
     obtain ⟨k,hcon,hat⟩:=hax hn
     obtain ⟨k',hcon',hat'⟩:=hay hn'
     rw [hcon] at hcon'
     cases hcon'
     obtain ⟨a,ca,rfl⟩:∃ a c,xv=.slice a (dh - d) c:=by
      cases k with
      | mp _=>exact hat.elim
      | box _=>exact hat.elim
      | nil _=>obtain ⟨h1,a,rfl⟩:=hat;exact ⟨a,0,by rw [h1];simp⟩
      | row _ _=>obtain ⟨a,rfl,_⟩:=hat;exact ⟨a,_,rfl⟩
     obtain ⟨a',ca',rfl⟩:∃ a c,yv=.slice a (sh' - s) c:=by
      cases k with
      | box _=>exact hat'.elim
      | mp _=>exact hat'.elim
      | nil _=>obtain ⟨h1,a,rfl⟩:=hat';exact ⟨a,0,by rw [h1];simp⟩
      | row _ _=>obtain ⟨a,rfl,_⟩:=hat';exact ⟨a,_,rfl⟩
     by_cases hm:Nat.min (sh' - s) (dh - d)=0
     ·have hcx:zsN xs d dh s sh'=xs:=by
       have h5:((xs.take sh').drop s).take (dh - d)=[]:=yAQ (by
        rw [zn8 hsl (by omega)]
        rw [Nat.min_comm];exact hm)
       rw [zsN,h5,zmY]
      have hset:h.set b (.row el xs false)=h:=by
       apply yAZ
       intro i
       by_cases hi:i=b
       ·subst hi;rw [zbq hb,hb]
       ·rw [zbo hi]
      rw [hcx,hset] at g
      refine zav r rt hd g (y:=goInt 0) ?_ (.d _ _ (.un _))
      cases a <;> cases a' <;> simp [execOp,hop,resolve,invoke,builtin,Builtin.copy_,run_underlying tok.und,hev,hev',Builtin.lenOf,Builtin.firstCells,tok2.sizeOf,hm,storeCells,loadCells,loadCellsFrom]
     ·have hdn:d < dh:=by have h5:Nat.min (sh' - s) (dh - d)<=dh - d:=Nat.min_le_right _ _;omega
      have hsn:s < sh':=by have h5:Nat.min (sh' - s) (dh - d)<=sh' - s:=Nat.min_le_left _ _;omega
      obtain ⟨kk,k2,hrow⟩:=r.row b el xs false hb
      rw [hcon] at k2
      cases k2
      cases k with
      | mp _=>exact hat.elim
      | box _=>exact hat.elim
      | nil _=>obtain ⟨h1,_⟩:=hat;omega
      | row gg cap =>
      obtain ⟨a0,e0,ha⟩:=hat
      cases e0
      obtain ⟨a1,e1,ha'⟩:=hat'
      cases e1
      obtain ⟨cs,q1,q2,q3,q4,q5,q6,q7⟩:=hrow
      have ha:=ha (by omega)
      have ha':=ha' (by omega)
      subst ha
      subst ha'
      obtain ⟨m,hmm⟩:∃ m,m=Nat.min (sh' - s) (dh - d):=⟨_,rfl⟩
      have hm1:m<=sh' - s:=by rw [hmm];exact Nat.min_le_left _ _
      have hm2:m<=dh - d:=by rw [hmm];exact Nat.min_le_right _ _
      obtain ⟨ys,hys⟩:∃ ys,ys=((xs.take sh').drop s).take (dh - d):=⟨_,rfl⟩
      have hyl:ys.length=m:=by rw [hys,zn8 hsl (by omega),hmm,Nat.min_comm]
      obtain ⟨sz,hsz⟩:∃ sz,sz=(E.T el).size:=⟨_,rfl⟩
      rw [← hsz] at q5 q6 q7
      have b1:s * sz+m * sz<=cap * sz:=by rw [← yAA];exact yU _ (by omega)
      have b2:d * sz+m * sz<=cap * sz:=by rw [← yAA];exact yU _ (by omega)
      obtain ⟨L,hL⟩:∃ L,L=(cs.toList.drop (s * sz)).take (m * sz):=⟨_,rfl⟩
      have hLl:L.length=m * sz:=by rw [hL];simp;omega
      have hLg:∀ j,j < m * sz->L[j]?=cs[s * sz+j]?:=by
       intro j hj
       rw [hL,yM,if_pos hj,yX];simp
      have hszp:0 < sz:=by rw [hsz];omega
      have hL1:∀ v∈L,v.oneCell'=true:=by
       intro v hv
       obtain ⟨j,hj⟩:=yQ hv
       have hjl:j < m * sz:=by rw [← hLl];exact (yB.1 hj).1
       rw [hLg j hjl] at hj
       have e1:j / sz * sz+j % sz=j:=by rw [yAo];exact Nat.div_add_mod j sz
       have e2:j / sz < m:=Nat.div_lt_of_lt_mul (by rw [yAo];exact hjl)
       have e3:s+j / sz < xs.length:=by omega
       have hc:=q6 _ _ (yE e3)
       have e4:=Nat.mod_lt j hszp
       obtain ⟨v',v1,v2,v3⟩:=q7 (s+j / sz) (j % sz) _ _ (yE e3) (yE (by omega))
       rw [show (s+j / sz) * sz+j % sz=s * sz+j by rw [yAA];omega,hj] at v1
       cases v1
       exact v3
      have hcell:∀ j v,L[j]?=some v->w.cell? ((⟨gg,s * sz,none⟩:Addr).add j)=some v:=by
       intro j v hj
       have hjl:j < m * sz:=by rw [← hLl];exact (yB.1 hj).1
       rw [hLg j hjl] at hj
       rw [zc5]
       simp [World.cell?,q1,hj]
      have hfc:=run_firstCells_some (P:=E.P) (w:=w) (E.T el).size m ⟨gg,s * sz,none⟩ (sh' - s) (cap - s) L (by rw [hLl,hsz]) hcell
      obtain ⟨w',hst1,hst⟩:=zew (P:=E.P) L 0 w gg (d * sz) cs.toList el (by simpa using q1) (by rw [hLl];simp;omega) hL1
      have hrun:(execOp (Act.eval ⟨tmps,[]⟩) o).run E.P w=.ok (.value (goInt m)) w':=by
       subst hsz
       simp [execOp,hop,resolve,invoke,builtin,Builtin.copy_,run_underlying tok.und,hev,hev',Builtin.lenOf,tok2.sizeOf,← hmm,hfc,hst1]
      have hov:=fun k=>zeL (cs:=cs.toList) (off:=d * sz) (vs:=L) (by rw [hLl];simp;omega) k
      obtain ⟨e1,r1⟩:=r.lay hb hcon q1 (d:=d) (ys:=ys) (L:=L) (by omega) (by rw [hLl,hyl,hsz]) hL1 (fun c hc=>by
        obtain ⟨i,hi⟩:=yQ hc
        rw [hys] at hi
        rw [← hsz]
        exact q6 _ c (ztA hi).1)
       (fun i j c a hi hj=>by
        rw [← hsz]
        have hi':=hi
        rw [hys] at hi'
        have hg:=(ztA hi').1
        have hil:i < m:=by rw [← hyl];exact (yB.1 hi).1
        have hjl:j < sz:=by rw [← q6 _ c hg];exact (yB.1 hj).1
        obtain ⟨v,v1,v2,v3⟩:=q7 _ j c a hg hj
        have:(i+1) * sz<=m * sz:=yU _ hil
        rw [yAA,yAb] at this
        exact ⟨v,by rw [hLg _ (by omega),← v1];congr 1;rw [yAA];omega,v2⟩)
       (w':=w') ⟨_,hst.heap,by simp only [List.size_toArray,yAg];rw [zgu _ _ _ (by rw [hLl];simp;omega)];simp,fun k=>by
        simp only [yAY,yAg]
        rw [← hsz,hov]
        simp⟩ hst.keep hst.size hst.os hst.tape hst.drawn hst.output
      rw [hys] at e1 r1
      exact zcQ r rt hd g hrun rfl r1 e1 (.d _ _ (.un _))
    ·cases hs
   ·cases hs
  ·cases hs
 ·cases hs
theorem zzJ (ht:zaH E) (r:Rel E h β S w) (rt:zaF E.T h β w S ts tmps) (hd:zaR tmps.size o.dst=true) {args:Array Operand} {tys:Array TypeId} (hop:o.op=.call { callee:=.builtin .clear,args:=args,argTypes:=tys })
  (hs:zau (mk E) o ts h os=some out) (ho:zat out.o) (g:Goal E h β S w tmps out K):o.wp E.P ⟨tmps,[]⟩ w K Q:=by
 simp only [zau,zaj,hop,mk_T,mk_G] at hs
 split at hs
 ·rename_i x t hax hat
  have hae:args=#[x]:=by apply Array.ext';exact hax
  have hte:tys=#[t]:=by apply Array.ext';exact hat
  subst hae
  subst hte
  have hx:=zaV (ds:=[]) r rt x
  split at hs
  ·rename_i el b n lo hi hk hex
   rw [hex] at hx
   obtain ⟨ti,dd,z,tok⟩:=ht.at_ (zax (by rw [hk];simp):E.T t≠_)
   obtain ⟨rfl,hes⟩:=tok.slice_ hk
   obtain ⟨ti2,dd2,z2,tok2⟩:=ht.at_ (za2 hes)
   split at hs
   ·rename_i e' xs hb
    split at hs
    ·rename_i hee
     subst hee
     simp only [yA] at hs
     subst hs
     simp only [zat] at ho
     have hn:=ho
     generalize hev:Act.eval ⟨tmps,[]⟩ x=xv at hx
     cases hx with
     | d _ _ hd=>cases hd
     | os _ _ _ _ _ e2 xs2 sh2 hb2 _ hll hlh _ hax =>
     rw [hb] at hb2
     cases hb2
     obtain ⟨k,hcon,hat⟩:=hax hn
     by_cases hm:hi=lo
     ·have hcx:zee xs lo (zer (E.T el) (hi - lo))=xs:=by rw [hm,Nat.sub_self];exact zmY
      have hset:h.set b (.row el xs false)=h:=by
       apply yAZ
       intro i
       by_cases hi:i=b
       ·subst hi;rw [zbq hb,hb]
       ·rw [zbo hi]
      rw [hcx,hset] at g
      refine zav r rt hd g (y:=.tuple #[]) ?_ (.d _ _ (.un _))
      obtain ⟨a,ca,rfl⟩:∃ a c,xv=.slice a 0 c:=by
       cases k with
       | mp _=>exact hat.elim
       | box _=>exact hat.elim
       | nil _=>obtain ⟨h1,a,rfl⟩:=hat;exact ⟨a,0,rfl⟩
       | row _ _=>obtain ⟨a,rfl,_⟩:=hat;exact ⟨a,_,by rw [hm,Nat.sub_self]⟩
      cases a <;> simp [execOp,hop,resolve,invoke,builtin,Builtin.clear_,run_underlying tok.und,hev]
     ·obtain ⟨kk,k2,hrow⟩:=r.row b el xs false hb
      rw [hcon] at k2
      cases k2
      cases k with
      | mp _=>exact hat.elim
      | box _=>exact hat.elim
      | nil _=>obtain ⟨h1,_⟩:=hat;omega
      | row gg cap =>
      obtain ⟨a0,rfl,ha⟩:=hat
      obtain ⟨cs,q1,q2,q3,q4,q5,q6,q7⟩:=hrow
      have ha:=ha (by omega)
      subst ha
      obtain ⟨m,hmm⟩:∃ m,m=hi - lo:=⟨_,rfl⟩
      obtain ⟨sz,hsz⟩:∃ sz,sz=(E.T el).size:=⟨_,rfl⟩
      obtain ⟨zl1,zl2⟩:=zui (w:=w) (S:=S) _ _ tok2.zok
      have hzs:z2.cells.size=sz:=by rw [hsz,← tok2.zlen,zl1,yAM]
      have hszp:0 < sz:=by rw [hsz];omega
      rw [← hsz] at q5 q6 q7
      have b2:lo * sz+m * sz<=cap * sz:=by rw [← yAA];exact yU _ (by omega)
      obtain ⟨L,hL⟩:∃ L,L=(Builtin.zeroCells z2.cells m).toList:=⟨_,rfl⟩
      have hLl:L.length=m * sz:=by rw [hL,yAM,size_zeroCells,hzs]
      have hLg:∀ j,j < m * sz->L[j]?=z2.cells[j % sz]?:=by
       intro j hj
       rw [hL,yW,zrT _ _ _ (by rw [hzs];exact hj),hzs]
      have hz1:∀ j,j < sz->∃ v,z2.cells[j]?=some v/\v.oneCell'=true/\∀ x,(frzL [] (E.T el).zero)[j]?=some x->RelD w S x v:=by
       intro j hj
       obtain ⟨x,hx⟩:∃ x,(frzL [] (E.T el).zero)[j]?=some x:=⟨_,yE (by rw [zcV,tok2.zlen,← hsz];exact hj)⟩
       obtain ⟨v,v1,v2,v3⟩:=zl2 j x hx
       rw [yW] at v1
       exact ⟨v,v1,v3,fun x' hx'=>by rw [hx] at hx';cases hx';exact v2⟩
      have hL1:∀ v∈L,v.oneCell'=true:=by
       intro v hv
       obtain ⟨j,hj⟩:=yQ hv
       have hjl:j < m * sz:=by rw [← hLl];exact (yB.1 hj).1
       obtain ⟨v',v1,v2,_⟩:=hz1 (j % sz) (Nat.mod_lt _ hszp)
       rw [hLg j hjl,v1] at hj
       cases hj
       exact v2
      obtain ⟨w',hst1,hst⟩:=zew (P:=E.P) L 0 w gg (lo * sz) cs.toList el (by simpa using q1) (by rw [hLl];simp;omega) hL1
      obtain ⟨m',hm'⟩:∃ m',hi - lo=m'+1:=⟨hi - lo - 1,by omega⟩
      have hrun:(execOp (Act.eval ⟨tmps,[]⟩) o).run E.P w=.ok (.value (.tuple #[])) w':=by
       rw [hL,hmm,hm',hsz] at hst1
       simp [execOp,hop,resolve,invoke,builtin,Builtin.clear_,run_underlying tok.und,hev,hm',tok2.zeroValue,hst1]
      have hov:=fun k=>zeL (cs:=cs.toList) (off:=lo * sz) (vs:=L) (by rw [hLl];simp;omega) k
      obtain ⟨e1,r1⟩:=r.lay hb hcon q1 (d:=lo) (ys:=zer (E.T el) (hi - lo)) (L:=L) (by simp [zer];omega) (by rw [hLl,hsz,hmm];simp [zer]) hL1 (fun c hc=>by
        simp only [zer,List.mem_replicate] at hc
        rw [hc.2,zcV,tok2.zlen])
       (fun i j c a hi hj=>by
        rw [← hsz]
        have hil:=(yB.1 hi).1
        simp only [zer,List.length_replicate] at hil
        simp only [zer,List.getElem?_replicate,if_pos hil,yA] at hi
        subst hi
        have hjl:j < sz:=by
         have:=(yB.1 hj).1
         rw [zcV,tok2.zlen,← hsz] at this
         exact this
        obtain ⟨v,v1,v2,v3⟩:=hz1 j hjl
        have:(i+1) * sz<=m * sz:=yU _ (by omega)
        rw [yAA,yAb] at this
        refine ⟨v,?_,v3 a hj⟩
        rw [hLg _ (by omega),yAo,Nat.mul_add_mod,Nat.mod_eq_of_lt hjl]
        exact v1)
       (w':=w') ⟨_,hst.heap,by simp only [List.size_toArray,yAg];rw [zgu _ _ _ (by rw [hLl];simp;omega)];simp,fun k=>by
        simp only [yAY,yAg]
        rw [← hsz,hov]
        simp⟩ hst.keep hst.size hst.os hst.tape hst.drawn hst.output
      exact zcQ r rt hd g hrun rfl r1 e1 (.d _ _ (.un _))
    ·cases hs
   ·cases hs
  ·cases hs
 ·cases hs
end
end Go.AM
namespace Go.AM
open Go.RowKit
theorem zdF {ik:IntKind} {n:Int} {p:AV × AV} {r:List (AV × AV)} (h:zea ik n (p::r)=true):∃ m x,p=(.v (.int ik m),x)/\n < m/\zea ik n r=true:=by
 unfold zea at h
 split at h
 ·rename_i heq;cases heq
 ·rename_i k' m x r' heq
  cases heq
  split at h
  ·rename_i h1 h2
   simp only [decide_eq_true_eq] at h1 h2
   subst h1
   exact ⟨m,x,rfl,h2,h⟩
  ·cases h
 ·cases h
theorem zgr {ik:IntKind} {n m:Int} {x:AV} {r:List (AV × AV)} (h:n < m) (hr:zea ik n r=true):zea ik n ((.v (.int ik m),x)::r)=true:=by
 simp [zea,h,hr]
theorem zfa {ik:IntKind} {n:Int} {v:AV} {p:AV × AV} {r c:List (AV × AV)} (h:insE ik n v (p::r)=some c) :
  ∃ m x,p=(.v (.int ik m),x)/\((n < m/\zea ik n r=true/\c=(.v (.int ik n),v)::p::r)\/(m < n/\∃ r',insE ik n v r=some r'/\c=p::r')):=by
 unfold insE at h
 split at h
 ·rename_i heq;cases heq
 ·rename_i k' m x r' heq
  cases heq
  split at h
  ·rename_i h1 h2
   simp only [decide_eq_true_eq] at h1 h2
   subst h1
   split at h
   ·rename_i hg
    cases h
    exact ⟨m,x,rfl,.inl ⟨h2,hg,rfl⟩⟩
   ·cases h
  ·rename_i h1 h2 h3
   simp only [decide_eq_true_eq] at h1 h3
   subst h1
   split at h
   ·rename_i r' hr
    cases h
    exact ⟨m,x,rfl,.inr ⟨h3,r',hr,rfl⟩⟩
   ·cases h
  ·cases h
 ·cases h
theorem zks {ik:IntKind} {n m:Int} {v x:AV} {r:List (AV × AV)} (h:n < m) (hr:zea ik n r=true):insE ik n v ((.v (.int ik m),x)::r)=some ((.v (.int ik n),v)::(.v (.int ik m),x)::r):=by
 simp [insE,h,hr]
theorem zh4 {ik:IntKind} {n m:Int} {v x:AV} {r r':List (AV × AV)} (h:m < n) (hr:insE ik n v r=some r'):insE ik n v ((.v (.int ik m),x)::r)=some ((.v (.int ik m),x)::r'):=by
 have:¬ n < m:=by omega
 simp [insE,h,this,hr]
theorem zzx {ik:IntKind} {n:Int} {v:AV}:∀ (es:List (AV × AV)),zea ik n es=true->insE ik n v es=some ((.v (.int ik n),v)::es)
 | [],_=>rfl
 | p::r,h=>by
  obtain ⟨m,x,rfl,h1,h2⟩:=zdF h
  exact zks h1 h2
theorem zmI {ik:IntKind} {n m:Int} {v:AV}:∀ (es c:List (AV × AV)),insE ik m v es=some c->(zea ik n c=true↔n < m/\zea ik n es=true)
 | [],c,h=>by
  cases h
  constructor
  ·intro hg
   obtain ⟨m1,x1,e1,h3,h4⟩:=zdF hg
   cases e1
   exact ⟨h3,rfl⟩
  ·exact fun hg=>zgr hg.1 rfl
 | p::r,c,h=>by
  obtain ⟨m',x,rfl,⟨h1,h2,rfl⟩|⟨h1,r',h2,rfl⟩⟩:=zfa h
  ·constructor
   ·intro hg
    obtain ⟨m1,x1,e1,h3,h4⟩:=zdF hg
    cases e1
    exact ⟨h3,h4⟩
   ·rintro ⟨h3,h4⟩
    exact zgr h3 h4
  ·have ih:=zmI (n:=n) r r' h2
   constructor
   ·intro hg
    obtain ⟨m1,x1,e1,h3,h4⟩:=zdF hg
    cases e1
    exact ⟨(ih.1 h4).1,zgr h3 (ih.1 h4).2⟩
   ·rintro ⟨h3,h4⟩
    obtain ⟨m1,x1,e1,h5,h6⟩:=zdF h4
    cases e1
    exact zgr h5 (ih.2 ⟨h3,h6⟩)
theorem zqX {ik:IntKind} {n m:Int} {u v:AV} (hne:n≠m):∀ (es a c:List (AV × AV)),insE ik n v es=some a->insE ik m u a=some c->∃ b,insE ik m u es=some b/\insE ik n v b=some c
 | [],a,c,h1,h2=>by
  cases h1
  obtain ⟨m1,x,e,⟨h3,h4,rfl⟩|⟨h3,r',h4,rfl⟩⟩:=zfa h2
  ·cases e
   exact ⟨_,rfl,zh4 h3 rfl⟩
  ·cases e
   cases h4
   exact ⟨_,rfl,zks h3 rfl⟩
 | p::r,a,c,h1,h2=>by
  obtain ⟨k,x,rfl,⟨h3,h4,rfl⟩|⟨h3,r1,h4,rfl⟩⟩:=zfa h1
  ·obtain ⟨k1,x1,e,⟨h5,h6,rfl⟩|⟨h5,r',h6,rfl⟩⟩:=zfa h2
   ·cases e
    obtain ⟨k2,x2,e2,h7,h8⟩:=zdF h6
    cases e2
    exact ⟨_,zks h7 h8,zh4 h5 (zks h3 h4)⟩
   ·cases e
    refine ⟨r',h6,?_⟩
    have:=(zmI (n:=n) _ _ h6).2 ⟨h5,zgr h3 h4⟩
    exact zzx _ this
  ·obtain ⟨k1,x1,e,⟨h5,h6,rfl⟩|⟨h5,r',h6,rfl⟩⟩:=zfa h2
   ·cases e
    have:=(zmI (n:=m) _ _ h4).1 h6
    exact ⟨_,zks h5 this.2,zh4 this.1 (zh4 h3 h4)⟩
   ·cases e
    obtain ⟨b,b1,b2⟩:=zqX hne r r1 r' h4 h6
    exact ⟨_,zh4 h5 b1,zh4 h3 b2⟩
theorem zqW {ik:IntKind} {n:Int}:∀ (es:List (AV × AV)),zea ik n es=true->∀ p∈es,zcA (.v (.int ik n)) p.1 false
 | [],_,p,hp=>by cases hp
 | q::r,h,p,hp=>by
  obtain ⟨m,x,rfl,h1,h2⟩:=zdF h
  rcases yO.1 hp with rfl|hp
  ·refine ⟨false,[.int ik n],[.int ik m],rfl,rfl,?_⟩
   have:(n==m)=false:=by simp;omega
   simp [zbj,zdp,this]
  ·exact zqW r h2 p hp
theorem zte {ik:IntKind} {n:Int} {v:AV}:∀ (es c:List (AV × AV)),insE ik n v es=some c->(∀ p∈es,zcA (.v (.int ik n)) p.1 false)/\c.Perm ((.v (.int ik n),v)::es)
 | [],c,h=>by cases h;exact ⟨by simp,.refl _⟩
 | q::r,c,h=>by
  obtain ⟨m,x,rfl,⟨h1,h2,rfl⟩|⟨h1,r',h2,rfl⟩⟩:=zfa h
  ·exact ⟨zqW _ (zgr h1 h2),.refl _⟩
  ·obtain ⟨a1,a2⟩:=zte r r' h2
   refine ⟨fun p hp=>?_,(a2.cons _).trans (.swap _ _ _)⟩
   rcases yO.1 hp with rfl|hp
   ·refine ⟨false,[.int ik n],[.int ik m],rfl,rfl,?_⟩
    have:(n==m)=false:=by simp;omega
    simp [zbj,zdp,this]
   ·exact a1 p hp
/-! ### Keys -/
mutual
theorem frzD {T:TypeId->TI} {h:Heap} {β:List Con} {w:World} {S:Addr->Prop}:∀ (x:AV) (y:Value),frzM x=[]->RelV T h β w S x y->RelD w S (frz [] x) y
 | .un,y,_,_=>by simp only [frz];exact .un y
 | .v _,y,_,hv=>by simp only [frz];exact zca hv trivial
 | .bl _,y,_,hv=>by
  have hv':=zca hv trivial
  cases hv'
  simp only [frz]
  exact .v _ rfl
 | .sl _,y,_,hv=>by simp only [frz];exact zca hv trivial
 | .dp _,y,_,hv=>by simp only [frz];exact zca hv trivial
 | .p _ _,y,_,_=>by simp only [frz];exact .un y
 | .ep _ _ _ _,y,_,_=>by simp only [frz];exact .un y
 | .fn _ _,y,_,_=>by simp only [frz];exact .un y
 | .mp _,y,_,_=>by simp only [frz];exact .un y
 | .nl,y,_,hv=>by
  simp only [frz]
  cases hv with
  | d _ _ hd=>cases hd
  | nl a=>exact .sl [] a 0 0 0 0 (fun _=>undef) (fun h=>absurd rfl h) (yJ _) (by decide) (by simp) (by simp) (by simp)
 | .own b n,y,hm,_=>by simp [frzM] at hm
 | .os b n _ _,y,hm,_=>by simp [frzM] at hm
 | .agg cs,y,hm,hv=>by
  obtain ⟨vs,rfl,hl,ho,hr⟩:=hv.agg_inv
  simp only [frzM] at hm
  obtain ⟨h1,h2⟩:=zwJ cs vs hm hl hr
  simp only [frz]
  exact .agg _ _ h1 ho h2
 | .tup cs,y,hm,hv=>by
  obtain ⟨vs,rfl,hl,hr⟩:=hv.tup_inv
  simp only [frzM] at hm
  obtain ⟨h1,h2⟩:=zwJ cs vs hm hl hr
  simp only [frz]
  exact .tup _ _ h1 h2
theorem zwJ {T:TypeId->TI} {h:Heap} {β:List Con} {w:World} {S:Addr->Prop}:∀ (l:List AV) (vs:List Value),zbv l=[]->l.length=vs.length->(∀ (i:Nat) (x:AV) (y:Value),l[i]?=some x->vs[i]?=some y->RelV T h β w S x y) ->
   (frzL [] l).length=vs.length/\∀ (i:Nat) (x:AV) (y:Value),(frzL [] l)[i]?=some x->vs[i]?=some y->RelD w S x y
 | [],vs,_,hl,_=>⟨by simpa [frzL] using hl,by simp [frzL]⟩
 | x::l,[],_,hl,_=>by simp at hl
 | x::l,v::vs,hm,hl,hv=>by
  simp only [zbv,List.append_eq_nil_iff] at hm
  obtain ⟨h1,h2⟩:=zwJ l vs hm.2 (by simpa using hl) (fun i a b ha hb=>hv (i+1) a b (by simpa using ha) (by simpa using hb))
  refine ⟨by simp [frzL,h1],fun i a b ha hb=>?_⟩
  cases i with
  | zero =>
   simp only [frzL,yAB,yA] at ha hb
   subst ha;subst hb
   exact frzD x v hm.1 (hv 0 x v rfl rfl)
  | succ i =>
   simp only [frzL,yAN] at ha hb
   exact h2 i a b ha hb
end
theorem zyL {x:AV} {y:Value} (h:scal (frz [] x)=some y):frzM x=[]:=by
 cases x <;> simp [frz,scal,frzM] at h ⊢
theorem zp2:∀ (l:List AV) {ys:List Value},zeZ (frzL [] l)=some ys->zbv l=[]
 | [],_,_=>rfl
 | x::r,ys,h=>by
  simp only [frzL,zeZ] at h
  split at h
  ·rename_i a b h1 h2
   simp [zbv,zyL h1,zp2 r h2]
  ·cases h
theorem zto {k:AV} {a:Bool} {xs:List Value} (hk:zcy (frz [] k)=some (a,xs)):frzM k=[]:=by
 cases k with
 | agg cs =>
  simp only [frz,zcy] at hk
  split at hk
  ·rename_i ys hy
   simp only [frzM]
   exact zp2 cs hy
  ·cases hk
 | own b n=>simp [frz,zcy,scal] at hk
 | os b n lo hi=>simp [frz,zcy,scal] at hk
 | tup cs=>simp [frz,zcy,scal] at hk
 | _=>rfl
theorem zyM {w:World} {S:Addr->Prop} {x:AV} {v y:Value} (hr:RelD w S x y) (hs:scal x=some v):y=v:=by
 cases x <;> simp [scal] at hs
 ·subst hs;cases hr;rfl
 ·subst hs;cases hr;rfl
theorem zp3 {w:World} {S:Addr->Prop}:∀ (cs:List AV) (vs xs:List Value),cs.length=vs.length->(∀ (i:Nat) (x:AV) (y:Value),cs[i]?=some x->vs[i]?=some y->RelD w S x y)->zeZ cs=some xs->vs=xs
 | [],[],xs,_,_,hs=>by cases hs;rfl
 | [],_::_,_,hl,_,_=>by simp at hl
 | _::_,[],_,hl,_,_=>by simp at hl
 | x::cs,v::vs,xs,hl,hv,hs=>by
  simp only [zeZ] at hs
  split at hs
  ·rename_i a b h1 h2
   cases hs
   rw [zyM (hv 0 x v rfl rfl) h1,zp3 cs vs b (by simpa using hl) (fun i p q hp hq=>hv (i+1) p q (by simpa using hp) (by simpa using hq)) h2]
  ·cases hs
theorem znE {w:World} {S:Addr->Prop} {k:AV} {y:Value} {a:Bool} {xs:List Value} (hk:zcy k=some (a,xs)) (hr:RelD w S k y):y=keyV a xs:=by
 cases k with
 | agg cs =>
  simp only [zcy] at hk
  split at hk
  ·rename_i ys hy
   cases hk
   cases hr with
   | agg _ vs hl ho hv =>
    rw [zp3 cs vs xs hl hv hy]
    rfl
  ·cases hk
 | v x=>cases hk;cases hr;rfl
 | bl b=>cases hk;cases hr;rfl
 | _=>simp [zcy,scal] at hk
theorem zoK {a b:ByteArray} (h:(a==b)=true):a=b:=by
 cases a;cases b
 have h2:(_==_)=true:=h
 congr
 exact eq_of_beq h2
theorem zqd (a:ByteArray):(a==a)=true:=by
 cases a
 exact beq_self_eq_true (α:=Array UInt8) _
theorem zwH {x y:Value} (h:zdp x y=some true):x=y:=by
 unfold zdp at h
 split at h
 ·split at h
  ·rename_i e;subst e;simp at h;rw [h]
  ·cases h
 ·simp at h;rw [zoK h]
 ·simp at h;rw [h]
 ·cases h
theorem zn1:∀ (xs ys:List Value),zbj xs ys=some true->xs=ys
 | [],[],_=>rfl
 | [],_::_,h=>by simp [zbj] at h
 | _::_,[],h=>by simp [zbj] at h
 | x::xs,y::ys,h=>by
  simp only [zbj] at h
  split at h
  ·rename_i a b h1 h2
   simp at h
   obtain ⟨rfl,rfl⟩:=h
   rw [zwH h1,zn1 xs ys h2]
  ·cases h
theorem zkR {x y:Value} {r:Bool} (h:zdp x y=some r) (n:Nat):Instr.sameBits (n+1) x x=true:=by
 cases x <;> simp [zdp] at h <;> simp [Instr.sameBits,zqd]
theorem zl6:∀ (xs ys:List Value) (r:Bool) (n:Nat),zbj xs ys=some r->((xs.zip xs).all fun (x,y)=>Instr.sameBits (n+1) x y)=true
 | [],[],_,_,_=>rfl
 | [],_::_,_,_,h=>by simp [zbj] at h
 | _::_,[],_,_,h=>by simp [zbj] at h
 | x::xs,y::ys,r,n,h=>by
  simp only [zbj] at h
  split at h
  ·rename_i a b h1 h2
   simp only [List.zip_cons_cons,List.all_cons,yR]
   exact ⟨zkR h1 n,zl6 xs ys b n h2⟩
  ·cases h
theorem ztY {a:Bool} {xs ys:List Value} {r:Bool} (h:zbj xs ys=some r) (hl:a=false->xs.length=1):Instr.sameBits 10000 (keyV a xs) (keyV a xs)=true:=by
 cases a with
 | true =>
  have:=zl6 xs ys r 9998 h
  simp [keyV,Instr.sameBits]
  simpa using this
 | false =>
  have hl:=hl rfl
  cases xs with
  | nil=>simp at hl
  | cons x xs =>
   cases ys with
   | nil=>simp [zbj] at h
   | cons y ys =>
    simp only [zbj] at h
    split at h
    ·rename_i p q h1 h2
     exact zkR h1 9999
    ·cases h
theorem zuV {k:AV} {xs:List Value} (h:zcy k=some (false,xs)):xs.length=1:=by
 cases k <;> simp [zcy,scal] at h
 ·rw [← h];rfl
 ·rw [← h];rfl
 ·rename_i cs
  cases hs:zeZ cs <;> simp [hs] at h
/-! ### What the model does -/
theorem zia {w:World} {S:Addr->Prop} {l:List (AV × AV)} {ents:Array MapEntry} {k:AV} {a:Bool} {xs:List Value} (hk:zcy k=some (a,xs)) (hl:ents.size=l.length)
  (hall:∀ (i:Nat) (k x:AV),l[i]?=some (k,x)->∃ (kv xv:Value),ents[i]?=some ⟨kv,xv,i⟩/\RelD w S k kv/\RelD w S x xv) (rs:List Bool)
  (hrs:∀ (i:Nat) (p:AV × AV) (r:Bool),l[i]?=some p->rs[i]?=some r->zcA k p.1 r) :
  ∀ (i:Nat) (e:MapEntry) (r:Bool),ents.toList[i]?=some e->rs[i]?=some r->∃ ys,e.key=keyV a ys/\zbj xs ys=some r:=by
 intro i e r he hr
 rw [yW] at he
 have hi:i < l.length:=by rw [← hl];exact (yAe.1 he).1
 have hli:l[i]?=some l[i]:=yE hi
 obtain ⟨kv,xv,e1,e2,_⟩:=hall i l[i].1 l[i].2 hli
 rw [he] at e1
 cases e1
 obtain ⟨a',xs',ys,k1,k2,k3⟩:=hrs i _ r hli hr
 rw [hk] at k1
 cases k1
 exact ⟨ys,znE k2 e2,k3⟩
theorem zo3:∀ (l:List MapEntry) (n:Nat),zeV l (l.map fun _=>false) n=none
 | [],_=>rfl
 | _::l,n=>by simp only [yT,zeV];exact zo3 l (n+1)
theorem zoj:∀ (l:List MapEntry) (rs:List Bool) (n:Nat),rs.length=l.length->zeV l rs n=none/\(∀ (i:Nat) (r:Bool),rs[i]?=some r->r=false)\/∃ (i:Nat) (e:MapEntry),l[i]?=some e/\rs[i]?=some true/\zeV l rs n=some (n+i,e.val)
 | [],[],n,_=>.inl ⟨rfl,by simp⟩
 | [],_::_,n,h=>by simp at h
 | _::_,[],n,h=>by simp at h
 | e::l,true::rs,n,h=>.inr ⟨0,e,rfl,rfl,rfl⟩
 | e::l,false::rs,n,h=>by
  rcases zoj l rs (n+1) (by simpa using h) with ⟨h1,h2⟩|⟨i,e',h1,h2,h3⟩
  ·refine .inl ⟨h1,fun i r hr=>?_⟩
   cases i with
   | zero=>simpa using hr.symm
   | succ i=>exact h2 i r (by simpa using hr)
  ·exact .inr ⟨i+1,e',by simpa using h1,by simpa using h2,by simp only [zeV,h3];congr 2;omega⟩
theorem zcA.det {k k':AV} {r s:Bool} (h1:zcA k k' r) (h2:zcA k k' s):r=s:=by
 obtain ⟨a,xs,ys,a1,a2,a3⟩:=h1
 obtain ⟨b,us,vs,b1,b2,b3⟩:=h2
 rw [a1] at b1;cases b1
 rw [a2] at b2;cases b2
 rw [a3] at b3;cases b3
 rfl
theorem zva {l:List (AV × AV)} {k:AV} (hall:∀ p∈l,∃ b,zcA k p.1 b):∃ rs:List Bool,rs.length=l.length/\∀ (i:Nat) (p:AV × AV) (r:Bool),l[i]?=some p->rs[i]?=some r->zcA k p.1 r:=by
 induction l with
 | nil=>exact ⟨[],rfl,by simp⟩
 | cons p l ih =>
  obtain ⟨b,hb⟩:=hall p (by simp)
  obtain ⟨rs,h1,h2⟩:=ih (fun q hq=>hall q (by simp [hq]))
  refine ⟨b::rs,by simp [h1],fun i q r hq hr=>?_⟩
  cases i with
  | zero =>
   simp only [yAB,yA] at hq hr
   subst hq;subst hr
   exact hb
  | succ i=>exact h2 i q r (by simpa using hq) (by simpa using hr)
section
variable {E : Env0} {h : Heap} {β : List Con} {S : Addr -> Prop} {w : World} {tmps : Array Value} {ts : TS} {K : Act -> World -> Prop} {Q : Exit -> Act -> World -> Prop} {o : Oper} {os : List Orc} {out : Out}
theorem Rel.newMap (r:Rel E h β S w):Ext h β S w (h++[.mp []]) (β++[.mp w.heap.size]) S (w.alloc (.map #[] 0))/\Rel E (h++[.mp []]) (β++[.mp w.heap.size]) S (w.alloc (.map #[] 0)):=by
 have hbl:BelowD w.heap.size w (w.alloc (.map #[] 0)):=(BelowD.refl _ _).alloc (yJ _) _
 have x:Ext h β S w (h++[.mp []]) (β++[.mp w.heap.size]) S (w.alloc (.map #[] 0)):={
  box:=fun b cs' hb=>⟨cs',by rw [yH (yB.1 hb).1];exact hb⟩
  con:=fun b g hb=>by rw [yH (yB.1 hb).1];exact hb
  row:=fun b e xs sh hb=>by
   have hlt:=(yB.1 hb).1
   exact ⟨xs,sh,by rw [yH hlt];exact hb,yJ _,fun _=>by rw [yH (by rw [r.len];exact hlt)]⟩
  S_le:=fun _ h=>h
  S_cell:=fun a ha=>hbl.cell (r.stable a ha)
  S_new:=fun _ h=>.inl h
  os:=hbl.os
  tape:=hbl.tape
  drawn:=hbl.drawn
  output:=hbl.output
  size:=hbl.size
  keep:=fun g hg _=>hbl.block g hg
  new:=fun b k g hb hk=>by
   by_cases e:b=β.length
   ·subst e
    rw [getElem?_append_new] at hb
    cases hb
    cases hk
    exact .inr (yJ _)
   ·rw [getElem?_append_old _ _ e] at hb
    exact .inl ⟨b,k,hb,hk,rfl⟩ }
 refine ⟨x,r.upd x h.length (by simp [r.len]) ?_ ?_ ?_ ?_ ?_ ?_ ?_ ?_⟩
 ·intro b hb
  exact ⟨getElem?_append_old _ _ hb,getElem?_append_old _ _ (by rw [r.len];exact hb),fun k g hk hg=>hbl.block g (r.lt b k g hk hg)⟩
 ·intro cs' hc
  rw [getElem?_append_new] at hc
  cases hc
 ·intro e xs sh hc
  rw [getElem?_append_new] at hc
  cases hc
 ·intro k g hk hg
  rw [← r.len,getElem?_append_new] at hk
  cases hk
  cases hg
  refine ⟨by simp,fun b k' _ hk' he=>?_⟩
  have:=r.lt b k' _ hk' he
  omega
 ·intro a ha
  exact yAa (r.stable a ha) hbl.size
 ·exact fun a ha=>.inl ha
 ·intro k g a hk hg ha he
  rw [← r.len,getElem?_append_new] at hk
  cases hk
  cases hg
  have:=r.stable a ha
  omega
 ·intro es hc
  rw [getElem?_append_new] at hc
  cases hc
  exact ⟨w.heap.size,by rw [← r.len,getElem?_append_new],[],#[],.refl _,heap_alloc_new w _,rfl,by simp⟩
theorem zw3 (r:Rel E h β S w) (rt:zaF E.T h β w S ts tmps) (hd:zaR tmps.size o.dst=true) {t:TypeId} (hop:o.op=.makeMap t none)
  (hs:zau (mk E) o ts h os=some out) (ho:zat out.o) (g:Goal E h β S w tmps out K):o.wp E.P ⟨tmps,[]⟩ w K Q:=by
 simp only [zau,zaj,hop,mk_T,mk_G,yA] at hs
 subst hs
 obtain ⟨e1,r1⟩:=r.newMap
 refine zcQ r rt hd g (x:=.mp h.length) (y:=.map (some w.heap.size)) ?_ rfl r1 e1 (.mp _ _ (by rw [← r.len,getElem?_append_new]))
 simp [execOp,hop,run_makeMap_plain]
theorem Rel.setMap (r:Rel E h β S w) {b g:Nat} {es es':List (AV × AV)} (hb:h[b]?=some (.mp es)) (hg:β[b]?=some (.mp g)) {ob ob':Obj} (hw:w.heap[g]?=some ob) (hm:zgT { w with heap:=w.heap.setIfInBounds g ob' } S es' g) :
  Ext h β S w (h.set b (.mp es')) (β.set b (.mp g)) S { w with heap:=w.heap.setIfInBounds g ob' }/\Rel E (h.set b (.mp es')) (β.set b (.mp g)) S { w with heap:=w.heap.setIfInBounds g ob' }:=by
 have hgl:g < w.heap.size:=r.lt b _ g hg rfl
 have hno:∀ a,S a->a.block≠g:=by
  intro a ha hag
  obtain ⟨e,xs,h1,_⟩:=r.free b _ g a hg rfl ha hag
  rw [hb] at h1
  cases h1
 have t:Turn h β S w b (.mp es') (.mp g) (.mp g) S { w with heap:=w.heap.setIfInBounds g ob' }:={
  kb:=hg
  box:=fun cs hc=>by rw [hb] at hc;cases hc
  row:=fun e xs sh hc=>by rw [hb] at hc;cases hc
  mp:=fun es1 hc=>⟨⟨es',rfl⟩,rfl⟩
  S_le:=fun _ h=>h
  S_cell:=fun a ha=>World.cell?_of_block ((MapKept.heap_set (o':=ob') hw).2 _ (hno a ha))
  S_new:=fun _ h=>.inl h
  S_lt:=fun a ha=>by simpa using r.stable a ha
  os:=rfl
  tape:=rfl
  drawn:=yJ _
  output:=rfl
  size:=by simp
  keep:=fun g' hg' hne=>(MapKept.heap_set (o':=ob') hw).2 _ (fun e=>hne (by rw [e];rfl))
  own:=fun g' hg'=>by
   cases hg'
   exact ⟨.inl rfl,by simpa using hgl⟩ }
 refine ⟨r.turnExt hb t,r.turn hb t (by simp) (by simp) (fun g' a h1 h2 h3=>?_) (fun es1 he=>?_)⟩
 ·cases h1
  exact absurd h3 (hno a h2)
 ·cases he
  exact ⟨g,rfl,hm⟩
theorem zA2 (r:Rel E h β S w) {t:TypeId} {b g:Nat} {es es':List (AV × AV)} (hb:h[b]?=some (.mp es)) (hg:β[b]?=some (.mp g)) {k v:AV} {kv vv:Value} (hk:RelD w S k kv) (hv:RelD w S v vv) (hok:KeyOK E.P t k) (hput:PutAt es k v es') :
  ∃ ob ob',w.heap[g]?=some ob/\(Instr.mapUpdate t (.map (some g)) kv vv).run E.P w=.ok () { w with heap:=w.heap.setIfInBounds g ob' }/\zgT { w with heap:=w.heap.setIfInBounds g ob' } S es' g:=by
 obtain ⟨a,xs,hkv,hkt⟩:=hok.ex
 obtain ⟨kt,et,hu,hchk,hfind⟩:=hkt.ex
 have:=znE hkv hk
 subst this
 obtain ⟨g',c1,l,ents,c2,c3,c4,c5⟩:=r.mp b es hb
 rw [hg] at c1
 cases c1
 have hgl:g < w.heap.size:=r.lt b _ g hg rfl
 have hno:∀ a,S a->a.block≠g:=by
  intro a ha hag
  obtain ⟨e,xs,h1,_⟩:=r.free b _ g a hg rfl ha hag
  rw [hb] at h1
  cases h1
 have keep:∀ (ob':Obj) (x:AV) (y:Value),RelD w S x y->RelD { w with heap:=w.heap.setIfInBounds g ob' } S x y:=fun ob' x y hxy =>
  hxy.mono (fun _ h=>h) fun a ha=>World.cell?_of_block ((MapKept.heap_set (o':=ob') c3).2 _ (hno a ha))
 have hset:∀ ob',(setObj g ob').run E.P w=.ok () { w with heap:=w.heap.setIfInBounds g ob' }:=fun ob'=>MapKept.run_setObj_map ob' c3
 cases hput with
 | new hnew hperm =>
  have hf:=hfind w xs ents.toList (ents.toList.map fun _=>false) rfl (by simp) (zia hkv c4 c5 _ (fun i p rr hp hr=>by
   have:rr=false:=by
    rw [yS,yAH] at hr
    obtain ⟨_,_,h2⟩:=hr
    exact h2.symm
   subst this
   exact hnew p (c2.mem_iff.1 (yC hp))))
  rw [zo3] at hf
  refine ⟨_,.map (ents.push ⟨keyV a xs,vv,l.length⟩) (l.length+1),c3,?_,?_⟩
  ·simp only [Instr.mapUpdate,Sem.run_bind,run_underlying hu,Result.andThen_ok,MapKept.run_getObj_map c3,hchk false w xs rfl,hf,hset]
  ·refine ⟨l++[(k,v)],ents.push ⟨keyV a xs,vv,l.length⟩,?_,?_,by simp [c4],fun i k1 x1 hi=>?_⟩
   ·refine List.Perm.trans ?_ hperm.symm
    exact (List.perm_append_singleton _ _).trans (c2.cons _)
   ·rw [(MapKept.heap_set (o':=.map (ents.push ⟨keyV a xs,vv,l.length⟩) (l.length+1)) c3).1];simp
   ·by_cases hil:i < l.length
    ·rw [yH hil] at hi
     obtain ⟨kv1,xv1,d1,d2,d3⟩:=c5 i k1 x1 hi
     exact ⟨kv1,xv1,by rw [Array.getElem?_push_lt (by rw [c4];exact hil)];rw [yAc (by rw [c4];exact hil)] at d1;exact d1,keep _ _ _ d2,keep _ _ _ d3⟩
    ·have hi2:i=l.length:=by
      have:=(yB.1 hi).1
      simp at this
      omega
     subst hi2
     rw [getElem?_append_new] at hi
     cases hi
     exact ⟨_,_,by rw [← c4];simp,keep _ _ _ hk,keep _ _ _ hv⟩
 | old A B k' x hes hkk hoth hperm =>
  have hall:∀ p∈l,∃ b,zcA k p.1 b:=fun p hp=>by
   have hp:=c2.mem_iff.1 hp
   rw [hes] at hp
   rcases yK.1 hp with h1|h1
   ·exact ⟨false,hoth p (yK.2 (.inl h1))⟩
   ·rcases yO.1 h1 with rfl|h1
    ·exact ⟨true,hkk⟩
    ·exact ⟨false,hoth p (yK.2 (.inr h1))⟩
  obtain ⟨rs,hrl,hrs⟩:=zva hall
  have hf:=hfind w xs ents.toList rs rfl (by simp [hrl,c4]) (zia hkv c4 c5 rs hrs)
  have hmem:(k',x)∈l:=c2.mem_iff.2 (by rw [hes];simp)
  obtain ⟨j,hj⟩:=yQ hmem
  have hjl:=(yB.1 hj).1
  have hrj:rs[j]?=some true:=by
   have h1:rs[j]?=some rs[j]:=yE (by rw [hrl];exact hjl)
   have h2:=hrs j _ _ hj h1
   rw [h1,h2.det hkk]
  rcases zoj ents.toList rs 0 (by simp [hrl,c4]) with ⟨_,h2⟩|⟨i,e,h1,h2,h3⟩
  ·have:=h2 j true hrj
   cases this
  ·rw [h3,yAi] at hf
   rw [yW] at h1
   have hie:i < l.length:=by rw [← c4];exact (yAe.1 h1).1
   have hli:l[i]?=some l[i]:=yE hie
   have hkeyi:=hrs i _ _ hli h2
   obtain ⟨kv1,xv1,d1,d2,d3⟩:=c5 i l[i].1 l[i].2 hli
   rw [h1] at d1
   cases d1
   obtain ⟨a',xs',ys,k1,k2,k3⟩:=hkeyi
   rw [hkv] at k1
   cases k1
   have hye:=zn1 _ _ k3
   have hkv1:=znE k2 d2
   rw [← hye] at hkv1
   have hli':l[i]=(k',x):=by
    have hm2:l[i]∈es:=c2.mem_iff.1 (List.getElem_mem hie)
    rw [hes] at hm2
    rcases yK.1 hm2 with h4|h4
    ·have:=(hoth _ (yK.2 (.inl h4))).det ⟨a,xs,ys,hkv,k2,k3⟩
     cases this
    ·rcases yO.1 h4 with h4|h4
     ·exact h4
     ·have:=(hoth _ (yK.2 (.inr h4))).det ⟨a,xs,ys,hkv,k2,k3⟩
      cases this
   have hsb:Instr.sameBits 10000 (keyV a xs) (keyV a xs)=true:=ztY k3 (fun ha=>by subst ha;exact zuV hkv)
   refine ⟨_,.map (ents.modify i fun e=>{ e with key:=keyV a xs,val:=vv }) l.length,c3,?_,?_⟩
   ·have hee:((ents[i]?).map (·.key)).getD (keyV a xs)=keyV a xs:=by
     simp [h1,hkv1]
    simp only [Instr.mapUpdate,Sem.run_bind,run_underlying hu,Result.andThen_ok,MapKept.run_getObj_map c3,hchk false w xs rfl,hf,h1,yAC,Option.getD_some,hkv1,Instr.keyThatStays,hsb,if_true,Sem.run_pure,hset]
   ·have hmod:∀ j,(ents.modify i fun e=>{ e with key:=keyV a xs,val:=vv })[j]?=if i=j then (ents[j]?).map (fun e=>{ e with key:=keyV a xs,val:=vv }) else ents[j]?:=fun j=>by
     rw [Array.getElem?_modify]
    refine ⟨l.set i (k,v),ents.modify i fun e=>{ e with key:=keyV a xs,val:=vv },?_,?_,by simp [c4],fun j k2 x2 hj2=>?_⟩
    ·have h5:l.Perm ((k',x)::(A++B)):=c2.trans (by rw [hes];exact List.perm_middle)
     have h6:l=l.take i++(k',x)::l.drop (i+1):=by
      rw [← hli']
      exact (List.take_append_drop i l).symm.trans (by rw [yAf hie])
     have h7:(l.take i++l.drop (i+1)).Perm (A++B):=by
      have:((k',x)::(l.take i++l.drop (i+1))).Perm ((k',x)::(A++B)):=by
       refine List.Perm.trans ?_ h5
       refine List.Perm.trans List.perm_middle.symm ?_
       rw [← h6]
      exact this.cons_inv
     have h8:l.set i (k,v)=l.take i++(k,v)::l.drop (i+1):=by
      rw [List.set_eq_take_append_cons_drop,if_pos hie]
     rw [h8]
     exact (List.perm_middle.trans (h7.cons _)).trans hperm.symm
    ·rw [(MapKept.heap_set (o':=.map (ents.modify i fun e=>{ e with key:=keyV a xs,val:=vv }) l.length) c3).1];simp
    ·rw [hmod]
     by_cases hij:i=j
     ·subst hij
      rw [yAI hie] at hj2
      cases hj2
      refine ⟨keyV a xs,vv,by simp [h1],keep _ _ _ hk,keep _ _ _ hv⟩
     ·rw [yZ hij] at hj2
      obtain ⟨kv2,xv2,f1,f2,f3⟩:=c5 j k2 x2 hj2
      exact ⟨kv2,xv2,by rw [if_neg hij];exact f1,keep _ _ _ f2,keep _ _ _ f3⟩
theorem zyB (r:Rel E h β S w) (rt:zaF E.T h β w S ts tmps) (hd:zaR tmps.size o.dst=true) {t:TypeId} {m k v:Operand} (hop:o.op=.insert t m k v\/o.op=.mapUpdate t m k v)
  (hs:zfE (mk E) t (ev E.G ts m) k (ev E.G ts k) (ev E.G ts v) (AM.put ts o.dst) h os=some out) (ho:zat out.o) (g:Goal E h β S w tmps out K):o.wp E.P ⟨tmps,[]⟩ w K Q:=by
 have hm:=zaV (ds:=[]) r rt m
 have hk:=zaV (ds:=[]) r rt k
 have hv:=zaV (ds:=[]) r rt v
 have go:∀ (b:Nat) (es es':List (AV × AV)) (kk:AV),ev E.G ts m=.mp b->h[b]?=some (.mp es)->frzM (ev E.G ts v)=[]->RelD w S kk (Act.eval ⟨tmps,[]⟩ k)->KeyOK E.P t kk->PutAt es kk (frz [] (ev E.G ts v)) es'->(∀ q os',out=⟨q,AM.put ts o.dst .un,h.set b (.mp es'),os'⟩->o.wp E.P ⟨tmps,[]⟩ w K Q):=by
  intro b es es' kk hmb hb hvm hkk hok hput q os' hout
  subst hout
  rw [hmb] at hm
  generalize hme:Act.eval ⟨tmps,[]⟩ m=my at hm
  cases hm with
  | d _ _ hd=>cases hd
  | mp _ g1 hβ =>
  obtain ⟨ob,ob',h1,h2,h3⟩:=zA2 r hb hβ hkk (frzD _ _ hvm hv) hok hput
  obtain ⟨e1,r1⟩:=r.setMap hb hβ h1 h3
  unfold Oper.wp
  have:(execOp (Act.eval ⟨tmps,[]⟩) o).run E.P w=.ok .skip { w with heap:=w.heap.setIfInBounds g1 ob' }:=by
   rcases hop with hop|hop <;> simp only [execOp,hop,hme,Sem.run_bind,h2,Result.andThen_ok,Sem.run_pure]
  rw [this,Oper.upon_skip,zb3]
  refine g.k _ _ _ _ (zcz _ _ _) r1 e1 ?_
  exact (rt.ext e1).put hd (.d _ _ (.un _))
 unfold zfE at hs
 split at hs
 ·rename_i b hmb
  split at hs
  ·rename_i es hb hvm
   split at hs
   ·rename_i ik n
    split at hs
    ·rename_i es' hins
     simp only [yA] at hs
     subst hs
     simp only [zat] at ho
     obtain ⟨p1,p2⟩:=zte _ _ hins
     exact go b es es' (.v (.int ik n)) hmb hb hvm (.v _ rfl) ho (.new p1 p2) _ _ rfl
    ·cases hs
   ·split at hs
    ·simp only [yA] at hs
     subst hs
     simp only [zat] at ho
     obtain ⟨ho1,ho2⟩:=ho
     obtain ⟨a,xs,hkv,hkt⟩:=ho1.ex
     exact go b es _ _ hmb hb hvm (frzD _ _ (zto hkv) hk) ⟨⟨a,xs,hkv,hkt⟩⟩ ho2 _ _ rfl
    ·cases hs
  ·cases hs
 ·cases hs
theorem zA0 {T:TypeId->TI} {h:Heap} {β:List Con} {w:World} {S:Addr->Prop} {x:AV} {y:Value} (hr:RelV T h β w S x y):RelV T h β w S (blv x) y:=by
 unfold blv
 split
 ·cases hr with
  | d _ _ hd=>cases hd;exact .d _ _ (.v _ rfl)
 ·exact hr
theorem zyA (ht:zaH E) (r:Rel E h β S w) (rt:zaF E.T h β w S ts tmps) (hd:zaR tmps.size o.dst=true) {t:TypeId} {m k:Operand} {ok:Bool} (hop:o.op=.lookup t m k ok)
  (hs:zau (mk E) o ts h os=some out) (ho:zat out.o) (g:Goal E h β S w tmps out K):o.wp E.P ⟨tmps,[]⟩ w K Q:=by
 have hm:=zaV (ds:=[]) r rt m
 have hk:=zaV (ds:=[]) r rt k
 simp only [zau,zaj,hop,mk_T,mk_G] at hs
 split at hs
 ·rename_i kt el b hkind hmb
  split at hs
  ·rename_i es hb
   obtain ⟨ti,dd,z,tok⟩:=ht.at_ (zax (by rw [hkind];simp):E.T t≠_)
   have:=tok.map_ hkind
   subst this
   rw [hmb] at hm
   generalize hme:Act.eval ⟨tmps,[]⟩ m=my at hm
   cases hm with
   | d _ _ hd=>cases hd
   | mp _ g1 hβ =>
   have key:∀ (za:AV),(E.T el).zero=[za]->(E.T el).isAgg=false->KeyOK E.P t (frz [] (ev E.G ts k))->∀ (rr:Option AV),LookAt es (frz [] (ev E.G ts k)) rr ->
     ∃ y,(Instr.lookup t (.map (some g1)) (Act.eval ⟨tmps,[]⟩ k) ok).run E.P w=.ok (if ok then .tuple #[y,.bool rr.isSome] else y) w/\RelV E.T h β w S (rr.getD za) y:=by
    intro za hz hagg hok rr hla
    obtain ⟨a,xs,hkv,hkt⟩:=hok.ex
    obtain ⟨kt',et',hu,hchk,hfind⟩:=hkt.ex
    rw [tok.und] at hu
    cases hu
    have hkd:=frzD _ _ (zto hkv) hk
    have hke:=znE hkv hkd
    obtain ⟨g',c1,l,ents,c2,c3,c4,c5⟩:=r.mp b es hb
    rw [hβ] at c1
    cases c1
    obtain ⟨rs,hrl,hrs⟩:=zva (l:=l) (k:=frz [] (ev E.G ts k)) (fun p hp=>hla.all p (c2.mem_iff.1 hp))
    have hf:=hfind w xs ents.toList rs rfl (by simp [hrl,c4]) (zia hkv c4 c5 rs hrs)
    obtain ⟨ti2,dd2,z2,tok2⟩:=ht.at_ (show E.T el≠⟨.scalar,0,0,[]⟩ by intro he;rw [he] at hz;cases hz)
    rcases zoj ents.toList rs 0 (by simp [hrl,c4]) with ⟨h1,h2⟩|⟨i,e,h1,h2,h3⟩
    ·have hrn:rr=none:=by
      cases rr with
      | none=>rfl
      | some x =>
       obtain ⟨p,hp,hpt⟩:=hla.some_ x rfl
       obtain ⟨j,hj⟩:=yQ (c2.mem_iff.2 hp)
       have hjl:=(yB.1 hj).1
       have h4:rs[j]?=some rs[j]:=yE (by rw [hrl];exact hjl)
       have h5:=(hrs j _ _ hj h4).det hpt
       have h6:=h2 j _ h4
       rw [h5] at h6
       cases h6
     subst hrn
     rw [h1] at hf
     obtain ⟨zl1,zl2⟩:=zdK (T:=E.T) (h:=h) (β:=β) (w:=w) (S:=S) _ _ tok2.zok
     rw [hz] at zl1 zl2
     have hzc:∃ c,z2.cells.toList=[c]:=by
      cases hc:z2.cells.toList with
      | nil=>rw [hc] at zl1;simp at zl1
      | cons c r=>cases r with
       | nil=>exact ⟨c,rfl⟩
       | cons _ _=>rw [hc] at zl1;simp at zl1
     obtain ⟨c,hc⟩:=hzc
     refine ⟨z2,?_,?_⟩
     ·simp only [Instr.lookup,Sem.run_bind,run_underlying tok.und,Result.andThen_ok,MapKept.run_getObj_map c3,Sem.run_pure,hke,hchk _ w xs rfl,hf,tok2.zeroValue,Option.isSome_none]
     ·have hzz:=zl2 0 za c rfl (by rw [hc];rfl)
      have:z2=c:=by
       have hza:=tok2.zagg
       rw [tok2.zero] at hza
       cases z2 <;> first|(rw [hagg] at hza;cases hza;done)|(simp only [Value.cells,List.cons.injEq,and_true] at hc;exact hc)
      rw [this]
      exact hzz.1
    ·rw [h3] at hf
     rw [yW] at h1
     have hie:i < l.length:=by rw [← c4];exact (yAe.1 h1).1
     have hli:l[i]?=some l[i]:=yE hie
     obtain ⟨kv1,xv1,d1,d2,d3⟩:=c5 i l[i].1 l[i].2 hli
     rw [h1] at d1
     cases d1
     have hrr:=hla.at_ l[i] (c2.mem_iff.1 (List.getElem_mem hie)) (hrs i _ _ hli h2)
     subst hrr
     refine ⟨xv1,?_,.d _ _ d3⟩
     simp only [Instr.lookup,Sem.run_bind,run_underlying tok.und,Result.andThen_ok,MapKept.run_getObj_map c3,Sem.run_pure,hke,hchk _ w xs rfl,hf,Option.isSome_some]
   split at hs
   ·rename_i za x os' hz hagg
    simp only [yA] at hs
    subst hs
    simp only [zat] at ho
    obtain ⟨ho1,⟨rr,hla,hx⟩⟩:=ho
    obtain ⟨y,hy,hrel⟩:=key za hz hagg ho1 rr hla
    have hrel:RelV E.T h β w S x y:=by
     rcases hx with rfl|rfl
     ·exact hrel
     ·exact zA0 hrel
    refine zav r rt hd g (y:=y) ?_ hrel
    simp [execOp,hop,hme,hy]
   ·rename_i za x xo os' hz hagg
    simp only [yA] at hs
    subst hs
    simp only [zat] at ho
    obtain ⟨ho1,⟨rr,hla,rfl,rfl⟩⟩:=ho
    obtain ⟨y,hy,hrel⟩:=key za hz hagg ho1 rr hla
    refine zav r rt hd g (y:=.tuple #[y,.bool rr.isSome]) ?_ (.tup _ [y,.bool rr.isSome] rfl (fun i p q hp hq=>?_))
    ·simp [execOp,hop,hme,hy]
    ·cases i with
     | zero=>simp at hp hq;subst hp;subst hq;exact hrel
     | succ i =>
      cases i with
      | zero=>simp at hp hq;subst hp;subst hq;exact .d _ _ (.v _ rfl)
      | succ i=>simp at hp
   ·cases hs
  ·cases hs
 ·cases hs
end
end Go.AM
namespace Go.AM
open Go.RowKit
section
variable {E : Env0} {h : Heap} {β : List Con} {S : Addr -> Prop} {w : World} {tmps : Array Value} {ts : TS} {K : Act -> World -> Prop} {Q : Exit -> Act -> World -> Prop} {o : Oper} {os : List Orc} {out : Out}
theorem zjG (ht:zaH E) (r:Rel E h β S w) (rt:zaF E.T h β w S ts tmps) (hd:zaR tmps.size o.dst=true)
  (hs:zau (mk E) o ts h os=some out) (ho:zat out.o) (g:Goal E h β S w tmps out K):o.wp E.P ⟨tmps,[]⟩ w K Q:=by
 cases hop:o.op with
 | move x=>exact zvw ht r rt hd (.inl hop) hs ho g
 | assign x=>exact zvw ht r rt hd (.inr hop) hs ho g
 | pick c a b=>exact zAT ht r rt hd hop hs ho g
 | alloc t=>exact zzG ht r rt hd hop hs ho g
 | box t x=>exact op_box ht r rt hd hop hs ho g
 | build t ps=>exact zzI ht r rt hd hop hs ho g
 | buildSlice t n ps=>exact zrR ht r rt hd hop hs ho g
 | load t x=>exact zAS ht r rt hd hop hs ho g
 | store t x y=>exact zzN ht r rt hd hop hs ho g
 | nilCheck x=>exact zuX ht r rt hd hop hs ho g
 | binOp op t x y ty=>exact zzH ht r rt hd hop hs ho g
 | unOp op t x=>exact zAU ht r rt hd hop hs ho g
 | convert s t x=>exact zw1 ht r rt hd hop hs ho g
 | makeFunc fn first caps =>
  cases fn with
  | func f=>exact zuW ht r rt hd hop hs ho g
  | _=>simp [zau,zaj,hop] at hs
 | slice t x lo hi mx=>exact zzM ht r rt hd hop hs ho g
 | fieldAddr t x f=>exact ztw ht r rt hd hop hs ho g
 | field t x f=>exact zzK ht r rt hd hop hs ho g
 | indexAddr t x i=>exact ztx ht r rt hd hop hs ho g
 | index t x i=>exact zzL ht r rt hd hop hs ho g
 | extract x i=>exact zw2 ht r rt hd hop hs ho g
 | makeSlice t l c=>exact zty ht r rt hd hop hs ho g
 | makeMap t x =>
  cases x with
  | none=>exact zw3 r rt hd hop hs ho g
  | some x=>simp [zau,zaj,hop] at hs
 | insert t m k v=>exact zyB r rt hd (.inl hop) (by simpa only [zau,zaj,hop,mk_G] using hs) ho g
 | mapUpdate t m k v=>exact zyB r rt hd (.inr hop) (by simpa only [zau,zaj,hop,mk_G] using hs) ho g
 | lookup t m k ok=>exact zyA ht r rt hd hop hs ho g
 | call c =>
  obtain ⟨callee,args,tys⟩:=c
  cases callee with
  | value f=>exact zAQ r rt hd hop hs ho g
  | invoke a b=>simp [zau,zaj,hop] at hs
  | builtin b =>
   cases b with
   | len=>exact op_len ht r rt hd hop hs ho g
   | max=>exact op_max ht r rt hd hop hs ho g
   | min=>exact op_min ht r rt hd hop hs ho g
   | append=>exact zyz ht r rt hd hop hs ho g
   | copy=>exact zAR ht r rt hd hop hs ho g
   | clear=>exact zzJ ht r rt hd hop hs ho g
   | _=>simp [zau,zaj,hop] at hs
 | _=>simp [zau,zaj,hop] at hs
def wpG (P:Program) (ops:Array Oper) (o:Oper) (a:Act) (w:World) (K:Act->World->Prop) (Q:Exit->Act->World->Prop):Prop :=
 if Region.wanted o (yielded ops a.tmps) then o.wp P a w K Q else K (a.put o.dst undef) w
theorem zez {all:List Oper} {j d:Nat} {b:Bool} (hg:zdG all j=some d) (hv:tmps.getD d undef=.bool b):yielded all.toArray tmps j=some b:=by
 unfold zdG at hg
 unfold yielded
 have hd:tmps[d]?=some (.bool b):=by
  rw [yAU] at hv
  cases hx:tmps[d]? with
  | none=>rw [hx] at hv;simp [undef] at hv
  | some x=>rw [hx] at hv;simp at hv;rw [hv]
 simp [hg,hd]
theorem zaF.lit {T:TypeId->TI} (rt:zaF T h β w S ts tmps) {d:Nat} {b:Bool} (hv:tmps.getD d undef=.bool b):zaF T h β w S ((d,.bl b)::ts) tmps:=by
 intro t
 simp only [look]
 split
 ·rename_i hx
  have:=yN hx
  subst this
  rw [hv]
  exact .d _ _ (.bl b)
 ·exact rt t
theorem zoa {T:TypeId->TI}:RelV T h β w S zfi undef:=.d _ _ (.tup [] [] rfl (by simp))
theorem znn {all:List Oper} {j d:Nat} (hg:zdG all j=some d) (hv:tmps.getD d undef=undef):yielded all.toArray tmps j=none:=by
 unfold zdG at hg
 unfold yielded
 cases hx:tmps[d]? with
 | none=>simp [hg,hx]
 | some x =>
  rw [yAU,hx] at hv
  simp only [Option.getD_some] at hv
  subst hv
  simp [hg,hx,undef]
theorem zua (ht:zaH E) (r:Rel E h β S w) (rt:zaF E.T h β w S ts tmps) (hd:zaR tmps.size o.dst=true) {all:List Oper}
  (hs:zxi (mk E) all o ts h os=some out) (ho:zat out.o) (g:Goal E h β S w tmps out K):wpG E.P all.toArray o ⟨tmps,[]⟩ w K Q:=by
 unfold zxi at hs
 unfold wpG
 have skip:∀ (ts':TS) (q:Option Prop) (os':List Orc),zaF E.T h β w S ts' tmps->out=⟨q,AM.put ts' o.dst zfi,h,os'⟩->K (Act.put ⟨tmps,[]⟩ o.dst undef) w:=by
  intro ts' q os' rt' he
  subst he
  rw [zb3]
  exact g.k β S w _ (zcz _ _ _) r (Ext.refl _ _ _ _) (rt'.put hd zoa)
 split at hs
 ·rename_i hg
  rw [if_pos (by simp [Region.wanted,hg])]
  exact zjG ht r rt hd hs ho g
 ·rename_i j want hg
  split at hs
  ·cases hs
  ·rename_i d hgt
   have hrd:=rt d
   split at hs
   ·rename_i b hlk
    rw [hlk] at hrd
    have hv:=hrd.bl_inv
    have hy:=zez hgt hv
    split at hs
    ·rename_i hbw
     rw [if_pos (by simp only [Region.wanted,hg,hy];simpa using hbw)]
     exact zjG ht r rt hd hs ho g
    ·rename_i hbw
     rw [if_neg (by simp only [Region.wanted,hg,hy];simpa using hbw)]
     simp only [yA] at hs
     exact skip ts _ _ rt hs.symm
   ·rename_i hlk
    rw [hlk] at hrd
    have hv:tmps.getD d undef=undef:=by
     obtain ⟨vs,he,hl,_⟩:=hrd.tup_inv
     have:vs=[]:=yAQ (by simpa using hl.symm)
     rw [he,this]
     rfl
    have hy:=znn hgt hv
    rw [if_neg (by simp only [Region.wanted,hg,hy];simp)]
    simp only [yA] at hs
    exact skip ts _ _ rt hs.symm
   ·rename_i t hlk
    rw [hlk] at hrd
    have hv:=hrd.v_inv
    split at hs
    ·rename_i b os'
     split at hs
     ·rename_i hbw
      cases hso:zau (mk E) o ((d,.bl b)::ts) h os' with
      | none=>simp [hso] at hs
      | some r' =>
       simp only [hso,yAC,yA] at hs
       subst hs
       simp only [zat] at ho
       obtain ⟨rfl,ho⟩:=ho
       have hy:=zez hgt hv
       rw [if_pos (by simp only [Region.wanted,hg,hy];simpa using hbw)]
       exact zjG ht r (rt.lit hv) hd hso ho ⟨g.k⟩
     ·rename_i hbw
      simp only [yA] at hs
      have hq:=hs
      subst hq
      simp only [zat] at ho
      subst ho
      have hy:=zez hgt hv
      rw [if_neg (by simp only [Region.wanted,hg,hy];simpa using hbw)]
      exact skip _ _ _ (rt.lit hv) rfl
    ·cases hs
   ·cases hs
end
end Go.AM
namespace Go.AM
open Go.RowKit
theorem ev_eq (G:Nat->Option (List AV)) (ts:TS):ev G ts=evF G (look ts):=by
 funext x
 cases x <;> rfl
theorem zu2 {α:Type} (E:Env) (o:Oper) (e:Operand->AV) (pt:AV->α) (h:Heap) (os:List Orc) :
  zaj E o e pt h os=(zaj E o e id h os).map fun r=>⟨r.o,pt r.ts,r.h,r.os⟩:=by
 obtain ⟨dst,op,ty,pos,after,guard⟩:=o
 cases op <;> (try simp only [zaj,id]) <;> (try rfl)
 case unOp u t x=>cases u <;> simp only [zaj] <;> (repeat' split) <;> rfl
 case makeFunc fn first caps=>cases fn <;> simp only [zaj] <;> (repeat' split) <;> rfl
 case makeMap t x=>cases x <;> rfl
 case insert t m k v =>
  simp only [zaj,zfE]
  (repeat' split) <;> rfl
 case mapUpdate t m k v =>
  simp only [zaj,zfE]
  (repeat' split) <;> rfl
 case call c =>
  obtain ⟨callee,args,tys⟩:=c
  cases callee with
  | value f =>
   simp only [zaj,zr3]
   (repeat' split) <;> first|rfl|simp_all
  | invoke a b=>rfl
  | builtin b =>
   cases b <;> simp only [zaj,append] <;> (repeat' split) <;> first|rfl|simp_all
 all_goals (repeat' split) <;> first|rfl|simp_all
theorem zl7 {α:Type} (E:Env) (o:Oper) (e e':Operand->AV) (pt:AV->α) (h:Heap) (os:List Orc) (he:∀ x∈o.op.operands,e x=e' x) :
  zaj E o e pt h os=zaj E o e' pt h os:=by
 obtain ⟨dst,op,ty,pos,after,guard⟩:=o
 simp only at he
 cases op
 case move x=>simp only [zaj];rw [he x (by simp [Op.operands])]
 case assign x=>simp only [zaj];rw [he x (by simp [Op.operands])]
 case pick c a b=>simp only [zaj];rw [he c (by simp [Op.operands]),he a (by simp [Op.operands]),he b (by simp [Op.operands])]
 case box t x=>simp only [zaj];rw [he x (by simp [Op.operands])]
 case build t ps =>
  have:(ps.toList.map fun x=>(x.1,e x.2))=(ps.toList.map fun x=>(x.1,e' x.2)):=List.map_congr_left fun x hx=>by rw [he x.2 (by simp [Op.operands];exact ⟨x.1,by simpa using hx⟩)]
  simp only [zaj]
  rw [this]
 case buildSlice t n ps =>
  have:(ps.toList.map fun x=>(x.1,e x.2))=(ps.toList.map fun x=>(x.1,e' x.2)):=List.map_congr_left fun x hx=>by rw [he x.2 (by simp [Op.operands];exact ⟨x.1,by simpa using hx⟩)]
  simp only [zaj]
  rw [this]
 case load t x=>simp only [zaj];rw [he x (by simp [Op.operands])]
 case store t x y=>simp only [zaj];rw [he x (by simp [Op.operands]),he y (by simp [Op.operands])]
 case nilCheck x=>simp only [zaj];rw [he x (by simp [Op.operands])]
 case binOp op t x y ty=>simp only [zaj];rw [he x (by simp [Op.operands]),he y (by simp [Op.operands])]
 case unOp u t x=>cases u <;> simp only [zaj] <;> rw [he x (by simp [Op.operands])]
 case convert s t x=>simp only [zaj];rw [he x (by simp [Op.operands])]
 case fieldAddr t x f=>simp only [zaj];rw [he x (by simp [Op.operands])]
 case field t x f=>simp only [zaj];rw [he x (by simp [Op.operands])]
 case indexAddr t x i=>simp only [zaj];rw [he x (by simp [Op.operands]),he i (by simp [Op.operands])]
 case index t x i=>simp only [zaj];rw [he x (by simp [Op.operands]),he i (by simp [Op.operands])]
 case extract x i=>simp only [zaj];rw [he x (by simp [Op.operands])]
 case insert t m k v=>simp only [zaj];rw [he m (by simp [Op.operands]),he k (by simp [Op.operands]),he v (by simp [Op.operands])]
 case mapUpdate t m k v=>simp only [zaj];rw [he m (by simp [Op.operands]),he k (by simp [Op.operands]),he v (by simp [Op.operands])]
 case lookup t m k ok=>simp only [zaj];rw [he m (by simp [Op.operands]),he k (by simp [Op.operands])]
 case makeMap t x=>cases x <;> rfl
 case makeSlice t l c=>simp only [zaj];rw [he l (by simp [Op.operands]),he c (by simp [Op.operands])]
 case slice t x lo hi mx =>
  have h1:=he x (by simp [Op.operands])
  have h2:∀ y,lo=some y->e y=e' y:=fun y hy=>he y (by simp [Op.operands,hy])
  have h3:∀ y,hi=some y->e y=e' y:=fun y hy=>he y (by simp [Op.operands,hy])
  have h4:∀ y,mx=some y->e y=e' y:=fun y hy=>he y (by simp [Op.operands,hy])
  have hlo:∀ d,bnd e d lo=bnd e' d lo:=fun d=>by cases lo with
   | none=>rfl
   | some y=>simp only [bnd,h2 y rfl]
  have hhi:∀ d,bnd e d hi=bnd e' d hi:=fun d=>by cases hi with
   | none=>rfl
   | some y=>simp only [bnd,h3 y rfl]
  cases lo <;> cases hi <;> cases mx <;> simp only [zaj,yAC,Option.map_none,h1] <;> (try rw [h2 _ rfl]) <;> (try rw [h3 _ rfl]) <;> cases (E.T t).kind <;> cases e' x <;> first|rfl|(dsimp only;done)|(dsimp only;rw [h4 _ rfl];done)|(simp only [hlo,hhi];done)|(simp only [hlo,hhi];rw [h4 _ rfl];done)|(rw [h4 _ rfl];simp only [hlo,hhi];done)
 case makeFunc fn first caps =>
  cases fn <;> simp only [zaj]
  have:caps.toList.map e=caps.toList.map e':=List.map_congr_left fun x hx=>he x (by simp only [Op.operands,Array.mem_append];exact .inr (by simpa using hx))
  rw [this]
 case call c =>
  obtain ⟨callee,args,tys⟩:=c
  have harg:∀ x∈args.toList,e x=e' x:=fun x hx=>he x (by simp only [Op.operands,Call.operands,Array.mem_append];exact .inr (by simpa using hx))
  cases callee with
  | value f =>
   have hf:=he f (by simp [Op.operands,Call.operands])
   simp only [zaj]
   rw [hf,List.map_congr_left harg]
  | invoke a b=>rfl
  | builtin b =>
   cases b <;> simp only [zaj]
   case len =>
    split
    ·rename_i x t hx ht
     rw [harg x (by rw [hx];simp)]
    ·rfl
   case max =>
    split
    ·rename_i x y hx
     rw [harg x (by rw [hx];simp),harg y (by rw [hx];simp)]
    ·rfl
   case min =>
    split
    ·rename_i x y hx
     rw [harg x (by rw [hx];simp),harg y (by rw [hx];simp)]
    ·rfl
   case append =>
    split
    ·rename_i x y t t' hx ht
     rw [harg x (by rw [hx];simp),harg y (by rw [hx];simp)]
    ·rfl
   case copy =>
    split
    ·rename_i x y t t' hx ht
     rw [harg x (by rw [hx];simp),harg y (by rw [hx];simp)]
    ·rfl
   case clear =>
    split
    ·rename_i x t hx ht
     rw [harg x (by rw [hx];simp)]
    ·rfl
 all_goals rfl
mutual
theorem zzp {h h':Heap}:∀ (x:AV),frzM x=[]->frz h' x=frz h x
 | .agg cs,hx=>by simp only [frzM] at hx;simp only [frz];rw [zjs cs hx]
 | .tup cs,hx=>by simp only [frzM] at hx;simp only [frz];rw [zjs cs hx]
 | .own b n,hx=>by simp [frzM] at hx
 | .os b n _ _,hx=>by simp [frzM] at hx
 | .un,_|.v _,_|.bl _,_|.sl _,_|.dp _,_|.nl,_|.p _ _,_|.ep _ _ _ _,_|.fn _ _,_|.mp _,_=>by simp [frz]
theorem zjs {h h':Heap}:∀ (l:List AV),zbv l=[]->frzL h' l=frzL h l
 | [],_=>by simp [frzL]
 | x::r,hx=>by
  simp only [zbv,List.append_eq_nil_iff] at hx
  simp only [frzL]
  rw [zzp x hx.1,zjs r hx.2]
end
theorem zwF {E:Env} {o:Oper} {e:Operand->AV} {B:List Nat} (hB:zct E o e=some B) {h h':Heap} {os:List Orc} {out:OutG AV} (hs:zaj E o e id h os=some out)
  (hb:∀ b∈B,zbD h' b=zbD h b):out.h=h/\zaj E o e id h' os=some ⟨out.o,out.ts,h',out.os⟩:=by
 obtain ⟨dst,op,ty,pos,after,guard⟩:=o
 have nat:(∀ h,zaj E ⟨dst,op,ty,pos,after,guard⟩ e id h os=(zaj E ⟨dst,op,ty,pos,after,guard⟩ e id [] os).map fun r=>⟨r.o,r.ts,h,r.os⟩) ->
   out.h=h/\zaj E ⟨dst,op,ty,pos,after,guard⟩ e id h' os=some ⟨out.o,out.ts,h',out.os⟩:=by
  intro hn
  rw [hn h] at hs
  rw [hn h']
  cases hq:zaj E ⟨dst,op,ty,pos,after,guard⟩ e id [] os with
  | none=>rw [hq] at hs;simp at hs
  | some r =>
   rw [hq] at hs
   simp only [yAC,yA] at hs
   subst hs
   exact ⟨rfl,rfl⟩
 cases op <;> (try (simp only [zct] at hB;cases hB;done))
 case load t x =>
  simp only [zct] at hB
  cases he:e x with
  | p b off =>
   simp only [he,yA] at hB
   subst hB
   have hbb:=hb b (by simp)
   simp only [zaj,he] at hs ⊢
   cases hx:h[b]? with
   | none=>simp [hx] at hs
   | some B1 =>
    cases B1 with
    | mp _=>simp [hx] at hs
    | row e1 xs sh=>simp [hx] at hs
    | box cs =>
     have h2:h'[b]?=some (.box cs):=by
      simp only [zbD,hx] at hbb
      cases hy:h'[b]? with
      | none=>simp [hy] at hbb
      | some B2=>cases B2 with
       | mp _=>simp [hy] at hbb
       | box ds=>simp only [hy,yA] at hbb;rw [hbb]
       | row _ _ _=>simp [hy] at hbb
     simp only [hx] at hs
     simp only [h2]
     split at hs
     ·simp only [yA] at hs
      subst hs
      exact ⟨rfl,rfl⟩
     ·cases hs
  | dp cs =>
   refine nat fun h=>?_
   clear nat hs
   simp only [zaj,he]
   (repeat' split) <;> first|rfl|simp_all
  | _=>simp [he] at hB
 case indexAddr t x i =>
  simp only [zct] at hB
  cases he:e x with
  | own b n=>simp [he] at hB
  | os b n lo hi=>simp [he] at hB
  | _ =>
   refine nat fun h=>?_
   clear nat hs
   simp only [zaj,he]
   (repeat' split) <;> first|rfl|simp_all
 case slice t x lo hi mx =>
  simp only [zct] at hB
  cases he:e x with
  | own b n=>simp [he] at hB
  | os b n lo hi=>simp [he] at hB
  | _ =>
   refine nat fun h=>?_
   clear nat hs
   simp only [zaj,he]
   (repeat' split) <;> first|rfl|simp_all
 case buildSlice t n parts =>
  simp only [zct] at hB
  simp only [zaj] at hs ⊢
  split at hB
  ·rename_i el hk
   split at hB
   ·rename_i cs hf
    split at hB
    ·rename_i hm
     simp only [hk] at hs ⊢
     rw [hf] at hs ⊢
     split at hs
     ·rename_i cs' hf' hle
      cases hf'
      simp only [yA] at hs
      subst hs
      rw [hm]
      simp only [share,List.foldl_nil]
      refine ⟨trivial,?_⟩
      simp only [frzB,hm]
      rw [zjs cs hm (h:=h) (h':=h')]
     ·cases hs
    ·cases hB
   ·cases hB
  ·cases hB
 case call c =>
  obtain ⟨callee,args,tys⟩:=c
  cases callee with
  | value f=>simp [zct] at hB
  | invoke a b=>simp [zct] at hB
  | builtin b =>
   cases b <;> (try (simp [zct] at hB;done))
   case max =>
    refine nat fun h=>?_
    clear nat hs
    simp only [zaj]
    (repeat' split) <;> first|rfl|simp_all
   case min =>
    refine nat fun h=>?_
    clear nat hs
    simp only [zaj]
    (repeat' split) <;> first|rfl|simp_all
   simp only [zct] at hB
   split at hB
   ·rename_i x hx
    refine nat fun h=>?_
    clear nat hs
    simp only [zaj,hx]
    cases he:e x with
    | own b n=>simp [he] at hB
    | os b n lo hi=>simp [he] at hB
    | mp b=>simp [he] at hB
    | _ =>
     clear hB
     (repeat' split) <;> first|rfl|simp_all
   ·cases hB
 case unOp u t x =>
  refine nat fun h=>?_
  clear nat hs
  cases u <;> simp only [zaj] <;> (repeat' split) <;> first|rfl|simp_all
 case makeFunc fn first caps =>
  refine nat fun h=>?_
  clear nat hs
  cases fn <;> simp only [zaj] <;> (repeat' split) <;> first|rfl|simp_all
 all_goals
  refine nat fun h=>?_
  clear nat hs
  simp only [zaj]
  (repeat' split) <;> first|rfl|simp_all
theorem zhD {h:Heap} {b:Nat} {cs:List AV} (hb:zbD h b=some cs):h[b]?=some (.box cs):=by
 unfold zbD at hb
 split at hb
 ·rename_i ds hx;cases hb;exact hx
 ·cases hb
theorem zlm {h:Heap} {b:Nat} {cs:List AV} (hb:h[b]?=some (.box cs)):zbD h b=some cs:=by simp [zbD,hb]
theorem zc7 {h l:Heap} {b:Nat} {cs:List AV} (hb:zbD h b=some cs):zbD (h++l) b=some cs:=by
 have h1:=zhD hb
 exact zlm (by rw [yH (yB.1 h1).1];exact h1)
theorem zgU {h:Heap} {b c:Nat} {cs:List AV} {e:TypeId} {xs:List (List AV)} {sh:Bool} {x:Blk} (hb:zbD h b=some cs) (hc:h[c]?=some (.row e xs sh)):zbD (h.set c x) b=some cs:=by
 have h1:=zhD hb
 have hne:b≠c:=by rintro rfl;rw [h1] at hc;cases hc
 exact zlm (by rw [zbo hne];exact h1)
theorem zoM {h:Heap} {b c:Nat} {cs:List AV} {es:List (AV × AV)} {x:Blk} (hb:zbD h b=some cs) (hc:h[c]?=some (.mp es)):zbD (h.set c x) b=some cs:=by
 have h1:=zhD hb
 have hne:b≠c:=by rintro rfl;rw [h1] at hc;cases hc
 exact zlm (by rw [zbo hne];exact h1)
theorem zm2 {E:Env} {t:TypeId} {m kv v:AV} {k:Operand} {h:Heap} {os:List Orc} {out:OutG AV} (hs:zfE E t m k kv v id h os=some out) {b:Nat} {cs:List AV} (hb:zbD h b=some cs):zbD out.h b=some cs:=by
 unfold zfE at hs
 split at hs
 ·split at hs
  ·rename_i hc _
   split at hs
   ·split at hs
    ·simp only [yA] at hs;subst hs;exact zoM hb hc
    ·cases hs
   ·split at hs
    ·simp only [yA] at hs;subst hs;exact zoM hb hc
    ·cases hs
  ·cases hs
 ·cases hs
theorem zsy {h:Heap} {b c:Nat} {cs:List AV} (hb:zbD h b=some cs):zbD (zeQ h c) b=some cs:=by
 unfold zeQ
 split
 ·rename_i e xs sh hc;exact zgU hb hc
 ·exact hb
theorem zgI:∀ (l:List Nat) {h:Heap} {b:Nat} {cs:List AV},zbD h b=some cs->zbD (share h l) b=some cs
 | [],_,_,_,hb=>hb
 | c::l,h,b,cs,hb=>by
  have:=zgI l (zsy (c:=c) hb)
  simpa [share,List.foldl_cons] using this
theorem zic:∀ (l:List Nat) (ys:Heap) {h:Heap} {b:Nat} {cs:List AV},b ∉ l->zbD h b=some cs->zbD (zcj h l ys) b=some cs
 | [],_,_,_,_,_,hb=>by simpa [zcj] using hb
 | c::l,[],_,_,_,_,hb=>by simpa [zcj] using hb
 | c::l,y::ys,h,b,cs,hn,hb=>by
  simp only [yO,not_or] at hn
  simp only [zcj]
  refine zic l ys hn.2 (zlm ?_)
  rw [zbo hn.1]
  exact zhD hb
theorem zwV {E:Env} {o:Oper} {e:Operand->AV} {B:List Nat} {h:Heap} {os:List Orc} {out:OutG AV} (hk:zfC o os B=true) (hs:zaj E o e id h os=some out) {b:Nat} {cs:List AV} (hbB:b∈B) (hb:zbD h b=some cs) :
  zbD out.h b=some cs:=by
 obtain ⟨dst,op,ty,pos,after,guard⟩:=o
 cases B with
 | nil=>simp at hbB
 | cons b0 B0 =>
  simp only [zfC] at hk
  cases op <;> (try (simp only [zaj] at hs;cases hs;done)) <;> (try (cases hk;done))
  case unOp u t x =>
   cases u <;> simp only [zaj] at hs <;> (repeat' split at hs) <;> first|(cases hs;done)|(simp only [yA] at hs;subst hs;exact hb)
  case makeFunc fn first caps =>
   cases fn <;> simp only [zaj] at hs <;> (repeat' split at hs) <;> first|(cases hs;done)|(simp only [yA] at hs;subst hs;exact hb)
  case buildSlice t n parts =>
   simp only [zaj] at hs
   (repeat' split at hs) <;> first|(cases hs;done)|(simp only [yA] at hs;subst hs;exact zgI _ hb)
  case alloc t =>
   simp only [zaj] at hs
   (repeat' split at hs) <;> first|(cases hs;done)|(simp only [yA] at hs;subst hs;exact zc7 hb)
  case box t x =>
   simp only [zaj] at hs
   (repeat' split at hs) <;> first|(cases hs;done)|(simp only [yA] at hs;subst hs;exact zc7 hb)
  case makeSlice t l c =>
   simp only [zaj] at hs
   (repeat' split at hs) <;> first|(cases hs;done)|(simp only [yA] at hs;subst hs;exact zc7 hb)
  case makeMap t x =>
   cases x with
   | none =>
    simp only [zaj,yA] at hs
    subst hs
    exact zc7 hb
   | some x=>simp [zaj] at hs
  case insert t m k v=>exact zm2 (by simpa only [zaj] using hs) hb
  case mapUpdate t m k v=>exact zm2 (by simpa only [zaj] using hs) hb
  case call c =>
   obtain ⟨callee,args,tys⟩:=c
   cases callee with
   | invoke a b=>simp [zaj] at hs
   | value f =>
    simp only [zaj] at hs
    split at hs
    ·unfold zr3 at hs
     split at hs
     ·rename_i lend r h' os'
      split at hs
      ·simp only [yA] at hs
       subst hs
       have hn:b ∉ lend:=by
        have:=yAd.1 hk b hbB
        simpa [zg4] using this
       exact zc7 (zic _ _ hn (zgI _ hb))
      ·cases hs
     ·rename_i lend r h' os'
      split at hs
      ·simp only [yA] at hs
       subst hs
       have hn:b ∉ lend:=by
        have:=yAd.1 hk b hbB
        simpa [zg4] using this
       exact zc7 (zic _ _ hn (zgI _ hb))
      ·cases hs
     ·cases hs
    ·cases hs
   | builtin bb =>
    cases bb <;> (try (simp [zaj] at hs;done))
    case max =>
     simp only [zaj] at hs
     (repeat' split at hs) <;> first|(cases hs;done)|(simp only [yA] at hs;subst hs;exact hb)
    case min =>
     simp only [zaj] at hs
     (repeat' split at hs) <;> first|(cases hs;done)|(simp only [yA] at hs;subst hs;exact hb)
    ·simp only [zaj] at hs
     split at hs
     ·split at hs
      ·unfold append at hs
       split at hs
       ·split at hs
        ·cases hs
        ·split at hs
         ·simp only [yA] at hs;subst hs;exact zc7 hb
         ·split at hs
          ·rename_i hrow
           split at hs
           ·simp only [yA] at hs;subst hs;exact zgU hb hrow
           ·cases hs
          ·cases hs
         ·split at hs
          ·rename_i hrow
           split at hs
           ·simp only [yA] at hs;subst hs;exact zgU hb hrow
           ·cases hs
          ·cases hs
         ·cases hs
       ·cases hs
      ·cases hs
     ·cases hs
    ·simp only [zaj] at hs
     split at hs
     ·split at hs
      ·split at hs
       ·rename_i hrow
        split at hs
        ·simp only [yA] at hs;subst hs;exact zgU hb hrow
        ·cases hs
       ·cases hs
      ·cases hs
     ·cases hs
    ·simp only [zaj] at hs
     split at hs
     ·split at hs
      ·split at hs
       ·rename_i hrow
        split at hs
        ·simp only [yA] at hs;subst hs;exact zgU hb hrow
        ·cases hs
       ·cases hs
      ·cases hs
     ·cases hs
    ·simp only [zaj] at hs
     (repeat' split at hs) <;> first|(cases hs;done)|(simp only [yA] at hs;subst hs;exact hb)
  all_goals
   simp only [zaj] at hs
   (repeat' split at hs) <;> first|(cases hs;done)|(simp only [yA] at hs;subst hs;exact hb)
end Go.AM
namespace Go.AM
open Go.RowKit
theorem zo6 {p x:Option Prop} (h:zat (andO p x)):zat p/\zat x:=by
 cases p with
 | none=>exact ⟨trivial,h⟩
 | some p=>exact h
def putF (L:Nat->AV) (d:Option Tmp) (v:AV):Nat->AV:=match d with
 | some d=>fun t=>if t=d then v else L t
 | none=>L
theorem zqC {all:List Oper} {o:Oper} {t:Nat} (h:Operand.tmp t∈o.op.operands):t∈o.looksAt all.toArray:=by
 unfold Oper.looksAt
 rw [yK]
 left
 rw [List.mem_filterMap]
 exact ⟨.tmp t,by simpa using h,rfl⟩
theorem znW {all:List Oper} {o:Oper} {j d:Nat} {want:Bool} (hg:o.guard=some (j,want)) (hd:zdG all j=some d):d∈o.looksAt all.toArray:=by
 unfold Oper.looksAt
 rw [yK]
 right
 unfold zdG at hd
 simp [hg,hd]
theorem zye {G:Nat->Option (List AV)} {L L':Nat->AV} {x:Operand} (h:∀ t,x=.tmp t->L t=L' t):evF G L x=evF G L' x:=by
 cases x with
 | tmp t=>exact h t rfl
 | _=>rfl
theorem zqV {all:List Oper} {o:Oper} {L L':Nat->AV} {os:List Orc} (h:∀ t∈o.looksAt all.toArray,L t=L' t):gst all o L os=gst all o L' os:=by
 unfold gst
 split
 ·rfl
 ·rename_i j want hg
  split
  ·rfl
  ·rename_i d hd
   rw [h d (znW hg hd)]
theorem zmE {E:Env} {all:List Oper} {o:Oper} {L L':Nat->AV} (h:∀ t∈o.looksAt all.toArray,L t=L' t):∀ x∈o.op.operands,evF E.G L x=evF E.G L' x :=
 fun x hx=>zye fun t ht=>h t (zqC (by rw [← ht];exact hx))
theorem zob {E:Env} {all:List Oper} {o:Oper} {L L':Nat->AV} {h:Heap} {os:List Orc} (hl:∀ t∈o.looksAt all.toArray,L t=L' t):zcs E all o L h os=zcs E all o L' h os:=by
 unfold zcs
 rw [zqV hl]
 split
 ·rw [zl7 E o _ _ id h _ (zmE hl)]
 ·rfl
 ·rfl
theorem zwY {all:List Oper} {o:Oper} {L:Nat->AV} {os os':List Orc} {b:Bool} {q:Option Prop} (h:gst all o L os=some (b,q,os')):zg4 os'=zg4 os:=by
 unfold gst at h
 split at h
 ·cases h;rfl
 ·split at h
  ·cases h
  ·split at h
   ·cases h;rfl
   ·cases h;rfl
   ·split at h
    ·cases h;rfl
    ·cases h
   ·cases h
theorem zym {o:Oper} {os os':List Orc} {B:List Nat} (h:zg4 os'=zg4 os) (hk:zfC o os B=true):zfC o os' B=true:=by
 unfold zfC at hk ⊢
 split
 ·rfl
 ·rename_i b l
  simp only at hk
  split
  ·rename_i hx;simp [hx] at hk
  ·rename_i hx
   rw [h]
   simpa [hx] using hk
  ·rfl
theorem zu1 {E:Env} {all:List Oper} {o:Oper} {L:Nat->AV} {h:Heap} {os:List Orc} {out:OutG AV} {B:List Nat} (hk:zfC o os B=true) (hs:zcs E all o L h os=some out) {b:Nat} {cs:List AV} (hbB:b∈B) (hb:zbD h b=some cs) :
  zbD out.h b=some cs:=by
 unfold zcs at hs
 split at hs
 ·rename_i q os' hg
  cases hx:zaj E o (evF E.G L) id h os' with
  | none=>simp [hx] at hs
  | some r =>
   simp only [hx,yAC,yA] at hs
   subst hs
   exact zwV (zym (zwY hg) hk) hx hbB hb
 ·simp only [yA] at hs
  subst hs
  exact hb
 ·cases hs
theorem zgR {E:Env} {all:List Oper} {o:Oper} {L:Nat->AV} {h h':Heap} {os:List Orc} {out:OutG AV} {B:List Nat} (hB:zgX E all o L os=some B) (hs:zcs E all o L h os=some out) (hb:∀ b∈B,zbD h' b=zbD h b) :
  out.h=h/\zcs E all o L h' os=some ⟨out.o,out.ts,h',out.os⟩:=by
 unfold zcs at hs ⊢
 unfold zgX at hB
 split at hs
 ·rename_i q os' hg
  simp only [hg] at hB ⊢
  cases hx:zaj E o (evF E.G L) id h os' with
  | none=>simp [hx] at hs
  | some r =>
   simp only [hx,yAC,yA] at hs
   obtain ⟨h1,h2⟩:=zwF hB hx hb
   subst hs
   exact ⟨h1,by rw [h2];rfl⟩
 ·rename_i q os' hg
  simp only [hg] at hB ⊢
  simp only [yA] at hs
  subst hs
  exact ⟨rfl,rfl⟩
 ·cases hs
theorem zsS {E:Env} {o:Oper} {e e':Operand->AV} (he:∀ x∈o.op.operands,e x=e' x):zct E o e=zct E o e':=by
 obtain ⟨dst,op,ty,pos,after,guard⟩:=o
 simp only at he
 cases op <;> (try rfl)
 case load t x=>simp only [zct];rw [he x (by simp [Op.operands])]
 case indexAddr t x i=>simp only [zct];rw [he x (by simp [Op.operands])]
 case slice t x lo hi mx=>simp only [zct];rw [he x (by simp [Op.operands])]
 case buildSlice t n ps =>
  have:(ps.toList.map fun x=>(x.1,e x.2))=(ps.toList.map fun x=>(x.1,e' x.2)):=List.map_congr_left fun x hx=>by rw [he x.2 (by simp [Op.operands];exact ⟨x.1,by simpa using hx⟩)]
  simp only [zct]
  rw [this]
 case call c =>
  obtain ⟨callee,args,tys⟩:=c
  have harg:∀ x∈args.toList,e x=e' x:=fun x hx=>he x (by simp only [Op.operands,Call.operands,Array.mem_append];exact .inr (by simpa using hx))
  cases callee with
  | value f=>rfl
  | invoke a b=>rfl
  | builtin b =>
   cases b <;> (try rfl)
   simp only [zct]
   split
   ·rename_i x hx
    rw [harg x (by rw [hx];simp)]
   ·rfl
theorem zsT {E:Env} {all:List Oper} {o:Oper} {L L':Nat->AV} {os:List Orc} (hl:∀ t∈o.looksAt all.toArray,L t=L' t):zgX E all o L os=zgX E all o L' os:=by
 unfold zgX
 rw [zqV hl]
 split
 ·exact zsS (zmE hl)
 ·rfl
 ·rfl
def DG (E:Env) (all:List Oper) (os:Nat->List Orc) (n:Nat) (K:(Nat->AV)->Heap->Prop):Nat->Array Bool->(Nat->AV)->Heap->Prop
 | 0,listed,L,h=>Region.ready .any all.toArray listed=[]/\K L h
 | f+1,listed,L,h=>(Region.ready .any all.toArray listed=[]->K L h)/\∀ i∈Region.ready .any all.toArray listed,∃ o out,all[i]?=some o/\zaR n o.dst=true /\
   zcs E all o L h (os i)=some out/\zat out.o/\DG E all os n K f (listed.setIfInBounds i true) (putF L o.dst out.ts) out.h
def zh8 (ops:Array Oper) (listed:Array Bool):Prop:=∀ (j:Nat) (o:Oper),ops[j]?=some o->listed.getD j false=true->∀ e∈o.after,Region.binds .any e=true->listed.getD e.on false=true
theorem zo0 {ops:Array Oper} {listed:Array Bool} (hc:zh8 ops listed) {i:Nat}:∀ (f j:Nat),dep ops i f j=true->listed.getD j false=true->listed.getD i false=true
 | 0,j,hd,_=>by cases hd
 | f+1,j,hd,hj=>by
  unfold dep at hd
  split at hd
  ·rename_i o ho
   obtain ⟨e,he,hx⟩:=List.any_eq_true.1 hd
   simp only [yR,yAp] at hx
   have hl:=hc j o ho hj e (by simpa using he) hx.1
   rcases hx.2 with h1|h1
   ·rw [← yN h1];exact hl
   ·exact zo0 hc f e.on h1 hl
  ·cases hd
theorem zqK {ops:Array Oper} {listed:Array Bool} (hc:zh8 ops listed) {i j f:Nat} (hr:j∈Region.ready .any ops listed) (hd:dep ops i f j=true):listed.getD i false=true:=by
 obtain ⟨_,o,ho,hall⟩:=mem_ready.1 hr
 cases f with
 | zero=>cases hd
 | succ f =>
  unfold dep at hd
  simp only [ho] at hd
  obtain ⟨e,he,hx⟩:=List.any_eq_true.1 hd
  simp only [yR,yAp] at hx
  have hl:=hall e (by simpa using he) hx.1
  rcases hx.2 with h1|h1
  ·rw [← yN h1];exact hl
  ·exact zo0 hc f e.on h1 hl
theorem zlo {ops:Array Oper} {listed:Array Bool} (hc:zh8 ops listed) {i:Nat} (hr:i∈Region.ready .any ops listed):zh8 ops (listed.setIfInBounds i true):=by
 intro j o ho hj e he hb
 obtain ⟨_,o',ho',hall⟩:=mem_ready.1 hr
 by_cases hij:i=j
 ·subst hij
  rw [ho] at ho'
  cases ho'
  exact getD_set_true (hall e he hb)
 ·rw [getD_set_ne false hij] at hj
  exact getD_set_true (hc j o ho hj e he hb)
theorem zyC {L:Nat->AV} {x y:Option Tmp} {u v:AV} (h:∀ d,x=some d->y≠some d):putF (putF L x u) y v=putF (putF L y v) x u:=by
 cases x with
 | none=>rfl
 | some d =>
  cases y with
  | none=>rfl
  | some d' =>
   have hne:d'≠d:=fun e=>h d rfl (by rw [e])
   funext t
   simp only [putF]
   by_cases h1:t=d <;> by_cases h2:t=d'
   ·subst h1;exact absurd h2 (Ne.symm hne)
   ·simp [h1,h2,Ne.symm hne]
   ·simp [h1,h2,hne]
   ·simp [h1,h2]
theorem zlG {L:Nat->AV} {x:Option Tmp} {u:AV} {t:Nat} (h:∀ d,x=some d->t≠d):putF L x u t=L t:=by
 cases x with
 | none=>rfl
 | some d=>simp [putF,h d rfl]
theorem zz4 {E:Env} {all:List Oper} {os:Nat->List Orc} {n:Nat} {K:(Nat->AV)->Heap->Prop} {i:Nat} {o:Oper} (hi:all[i]?=some o) (hdst:zaR n o.dst=true) (F:Nat) :
  ∀ (f:Nat) (listed:Array Bool) (L:Nat->AV) (h:Heap) (out:OutG AV) (B:List Nat),zh8 all.toArray listed->i∈Region.ready .any all.toArray listed->zgX E all o L (os i)=some B->zcs E all o L h (os i)=some out->zat out.o ->
   (∀ b∈B,∃ cs,zbD h b=some cs) ->
   (∀ j oj,all[j]?=some oj->j≠i->listed.getD j true=false->dep all.toArray i F j=true\/(o.apart all.toArray oj=true/\zfC oj (os j) B=true)) ->
   DG E all os n K f (listed.setIfInBounds i true) (putF L o.dst out.ts) h->DG E all os n K (f+1) listed L h:=by
 intro f
 induction f with
 | zero =>
  intro listed L h out B hcl hr hB hs ho hbox hfree H
  refine ⟨fun h0=>(by rw [h0] at hr;cases hr),fun j hj=>?_⟩
  by_cases hji:j=i
  ·subst hji
   obtain ⟨hh,_⟩:=zgR hB hs (h':=h) (fun _ _=>rfl)
   exact ⟨o,out,hi,hdst,hs,ho,by rw [hh];exact H⟩
  ·have:=ready_mono hj hji
   rw [H.1] at this
   cases this
 | succ f ih =>
  intro listed L h out B hcl hr hB hs ho hbox hfree H
  refine ⟨fun h0=>(by rw [h0] at hr;cases hr),fun j hj=>?_⟩
  by_cases hji:j=i
  ·subst hji
   obtain ⟨hh,_⟩:=zgR hB hs (h':=h) (fun _ _=>rfl)
   exact ⟨o,out,hi,hdst,hs,ho,by rw [hh];exact H⟩
  ·obtain ⟨oj,outj,hoj,hdj,hsj,hqj,Hj⟩:=H.2 j (ready_mono hj hji)
   have hjun:=(mem_ready.1 hj).1
   have hpair:o.apart all.toArray oj=true/\zfC oj (os j) B=true:=by
    rcases hfree j oj hoj hji hjun with h1|h1
    ·have h2:=zqK hcl hj h1
     have h3:=(mem_ready.1 hr).1
     rcases Nat.lt_or_ge i listed.size with h'|h'
     ·simp [h'] at h2 h3;rw [h3] at h2;cases h2
     ·simp [yAj h'] at h2
    ·exact h1
   obtain ⟨hap,hkp⟩:=hpair
   obtain ⟨a1,a2,a3⟩:=Oper.apart_spec hap
   have hLj:∀ t∈oj.looksAt all.toArray,putF L o.dst out.ts t=L t:=fun t ht=>zlG fun d hd e=>a1 d hd (by rw [← e];exact ht)
   have hsj':zcs E all oj L h (os j)=some outj:=by rw [← zob hLj];exact hsj
   have hkeep:∀ b∈B,zbD outj.h b=zbD h b:=fun b hb=>by
    obtain ⟨cs,hcs⟩:=hbox b hb
    rw [hcs,zu1 hkp hsj' hb hcs]
   have hLi:∀ t∈o.looksAt all.toArray,putF L oj.dst outj.ts t=L t:=fun t ht=>zlG fun d hd e=>a3 d hd (by rw [← e];exact ht)
   have hearly:zgX E all o (putF L oj.dst outj.ts) (os i)=some B:=by
    rw [zsT hLi]
    exact hB
   obtain ⟨hh,hs2⟩:=zgR hB hs hkeep
   have hs3:zcs E all o (putF L oj.dst outj.ts) outj.h (os i)=some ⟨out.o,out.ts,outj.h,out.os⟩:=by
    rw [zob hLi]
    exact hs2
   refine ⟨oj,outj,hoj,hdj,hsj',hqj,ih (listed.setIfInBounds j true) _ outj.h ⟨out.o,out.ts,outj.h,out.os⟩ B (zlo hcl hj) (ready_mono hr (Ne.symm hji)) hearly hs3 ho (fun b hb=>?_) (fun k ok hk hki hun=>?_) ?_⟩
   ·obtain ⟨cs,hcs⟩:=hbox b hb
    exact ⟨cs,by rw [hkeep b hb];exact hcs⟩
   ·refine hfree k ok hk hki ?_
    by_cases hjk:j=k
    ·subst hjk;exact hjun
    ·rw [getD_set_ne true hjk] at hun;exact hun
   ·rw [Array.setIfInBounds_comm _ _ hji]
    rw [zyC (fun d hd he=>a2 d hd he)] at Hj
    exact Hj
theorem zlu {o:Oper} {m:Nat} {k:IntKind} {n:Int} (h:zil o=some (m,k,n)):∃ t v,o.op=.insert t (.tmp m) (.const (.int k n)) v/\o.guard=none/\o.dst=none:=by
 unfold zil at h
 split at h
 ·rename_i t m' k' n' v h1 h2 h3
  cases h
  exact ⟨t,v,h1,h2,h3⟩
 ·cases h
theorem zjF {E:Env} {all:List Oper} {o:Oper} {t:TypeId} {m:Nat} {k:IntKind} {n:Int} {v:Operand} (h1:o.op=.insert t (.tmp m) (.const (.int k n)) v) (h2:o.guard=none) (L:Nat->AV) (h:Heap) (os:List Orc) :
  zcs E all o L h os=match L m with
   | .mp b=>match h[b]?,frzM (evF E.G L v) with
    | some (.mp es),[]=>match insE k n (frz [] (evF E.G L v)) es with
     | some es'=>some ⟨some (KeyOK E.P t (.v (.int k n))),.un,h.set b (.mp es'),os⟩
     | none=>none
    | _,_=>none
   | _=>none:=by
 have hg:gst all o L os=some (true,none,os):=by simp [gst,h2]
 have he:evF E.G L (.tmp m)=L m:=rfl
 simp only [zcs,hg,zaj,h1,zfE,he,id]
 generalize evF E.G L v=x
 cases L m with
 | mp b =>
  dsimp only
  cases h[b]? with
  | none=>rfl
  | some B =>
   cases B with
   | mp es =>
    cases hm:frzM x with
    | nil=>cases hi:insE k n (frz [] x) es <;> simp [hi,hm,andO]
    | cons _ _=>simp [hm]
   | _=>rfl
 | _=>rfl
theorem DG_ins {E:Env} {all:List Oper} {os:Nat->List Orc} {n:Nat} {K:(Nat->AV)->Heap->Prop} {i:Nat} {o:Oper} (hi:all[i]?=some o) (hdst:zaR n o.dst=true) {m:Nat} {k:IntKind} {a:Int} (hk:zil o=some (m,k,a)) (F:Nat) :
  ∀ (f:Nat) (listed:Array Bool) (L:Nat->AV) (h:Heap) (out:OutG AV),zh8 all.toArray listed->i∈Region.ready .any all.toArray listed->zcs E all o L h (os i)=some out->zat out.o ->
   (∀ j oj,all[j]?=some oj->j≠i->listed.getD j true=false->dep all.toArray i F j=true\/∃ a',zil oj=some (m,k,a')/\a≠a') ->
   DG E all os n K f (listed.setIfInBounds i true) L out.h->DG E all os n K (f+1) listed L h:=by
 obtain ⟨t,v,ho1,ho2,ho3⟩:=zlu hk
 intro f
 induction f with
 | zero =>
  intro listed L h out hcl hr hs ho hfree H
  refine ⟨fun h0=>(by rw [h0] at hr;cases hr),fun j hj=>?_⟩
  by_cases hji:j=i
  ·subst hji
   exact ⟨o,out,hi,hdst,hs,ho,by rw [ho3];exact H⟩
  ·have:=ready_mono hj hji
   rw [H.1] at this
   cases this
 | succ f ih =>
  intro listed L h out hcl hr hs ho hfree H
  refine ⟨fun h0=>(by rw [h0] at hr;cases hr),fun j hj=>?_⟩
  by_cases hji:j=i
  ·subst hji
   exact ⟨o,out,hi,hdst,hs,ho,by rw [ho3];exact H⟩
  ·obtain ⟨oj,outj,hoj,hdj,hsj,hqj,Hj⟩:=H.2 j (ready_mono hj hji)
   have hjun:=(mem_ready.1 hj).1
   obtain ⟨a',hkj,hne⟩:∃ a',zil oj=some (m,k,a')/\a≠a':=by
    rcases hfree j oj hoj hji hjun with h1|h1
    ·have h2:=zqK hcl hj h1
     have h3:=(mem_ready.1 hr).1
     rcases Nat.lt_or_ge i listed.size with h'|h'
     ·simp [h'] at h2 h3;rw [h3] at h2;cases h2
     ·simp [yAj h'] at h2
    ·exact h1
   obtain ⟨t',v',p1,p2,p3⟩:=zlu hkj
   rw [zjF ho1 ho2] at hs
   rw [zjF p1 p2] at hsj
   cases hLm:L m with
   | mp b =>
    rw [hLm] at hs hsj
    simp only at hs hsj
    cases hb:h[b]? with
    | none=>simp [hb] at hs
    | some B =>
     cases B with
     | box cs=>simp [hb] at hs
     | row e xs sh=>simp [hb] at hs
     | mp es =>
      rw [hb] at hs
      cases hv:frzM (evF E.G L v) with
      | cons _ _=>simp [hv] at hs
      | nil =>
       rw [hv] at hs
       simp only at hs
       cases hi1:insE k a (frz [] (evF E.G L v)) es with
       | none=>simp [hi1] at hs
       | some es1 =>
        simp only [hi1,yA] at hs
        subst hs
        simp only at hsj Hj
        rw [zbq hb] at hsj
        cases hv':frzM (evF E.G L v') with
        | cons _ _=>simp [hv'] at hsj
        | nil =>
         rw [hv'] at hsj
         simp only at hsj
         cases hi2:insE k a' (frz [] (evF E.G L v')) es1 with
         | none=>simp [hi2] at hsj
         | some es2 =>
          simp only [hi2,yA] at hsj
          subst hsj
          simp only at Hj hqj
          obtain ⟨es3,c1,c2⟩:=zqX hne es es1 es2 hi1 hi2
          have hb':(h.set b (.mp es3))[b]?=some (.mp es3):=zbq hb
          refine ⟨oj,⟨some (KeyOK E.P t' (.v (.int k a'))),.un,h.set b (.mp es3),os j⟩,hoj,hdj,?_,hqj,?_⟩
          ·rw [zjF p1 p2,hLm]
           simp only [hb,hv',c1]
          ·rw [p3]
           refine ih (listed.setIfInBounds j true) L _ ⟨some (KeyOK E.P t (.v (.int k a))),.un,(h.set b (.mp es3)).set b (.mp es2),os i⟩ (zlo hcl hj) (ready_mono hr (Ne.symm hji)) ?_ ho (fun q oq hq hqi hun=>?_) ?_
           ·rw [zjF ho1 ho2,hLm]
            simp only [hb',hv,c2]
           ·refine hfree q oq hq hqi ?_
            by_cases hjq:j=q
            ·subst hjq;exact hjun
            ·rw [getD_set_ne true hjq] at hun;exact hun
           ·rw [p3] at Hj
            rw [Array.setIfInBounds_comm _ _ hji]
            simp only [List.set_set] at Hj ⊢
            exact Hj
   | _=>rw [hLm] at hs;simp at hs
theorem DG_all {E:Env} {all:List Oper} {os:Nat->List Orc} {n:Nat} {K:(Nat->AV)->Heap->Prop} {f:Nat} {listed:Array Bool} {L:Nat->AV} {h:Heap} (hne:Region.ready .any all.toArray listed≠[])
  (H:∀ i∈Region.ready .any all.toArray listed,∃ o out,all[i]?=some o/\zaR n o.dst=true/\zcs E all o L h (os i)=some out/\zat out.o/\DG E all os n K f (listed.setIfInBounds i true) (putF L o.dst out.ts) out.h) :
  DG E all os n K (f+1) listed L h:=⟨fun h0=>absurd h0 hne,H⟩
theorem zz3 {E:Env} {all:List Oper} {os:Nat->List Orc} {n:Nat} {K:(Nat->AV)->Heap->Prop} {listed:Array Bool} {L:Nat->AV} {h:Heap} (hr:Region.ready .any all.toArray listed=[]) (hK:K L h):∀ f,DG E all os n K f listed L h
 | 0=>⟨hr,hK⟩
 | _+1=>⟨fun _=>hK,by rw [hr];simp⟩
def RelL (T:TypeId->TI) (h:Heap) (β:List Con) (w:World) (S:Addr->Prop) (L:Nat->AV) (tmps:Array Value):Prop:=∀ t,RelV T h β w S (L t) (tmps.getD t undef)
def tsOf (m:Nat) (L:Nat->AV):Nat->TS
 | 0=>[]
 | k+1=>(k,L k)::tsOf m L k
theorem zrd (m:Nat) (L:Nat->AV):∀ (k t:Nat),look (tsOf m L k) t=if t < k then L t else .un
 | 0,t=>by simp [tsOf,look]
 | k+1,t=>by
  simp only [tsOf,look]
  split
  ·rename_i hb
   have:=yN hb
   subst this
   simp
  ·rename_i hb
   have hne:k≠t:=by rintro rfl;simp [yAn] at hb
   rw [zrd m L k t]
   by_cases h1:t < k
   ·rw [if_pos h1,if_pos (by omega)]
   ·rw [if_neg h1,if_neg (by omega)]
theorem le_sum {l:List Nat} {t:Nat} (h:t∈l):t<=l.sum:=by
 induction l with
 | nil=>cases h
 | cons a l ih =>
  rw [List.sum_cons]
  rcases yO.1 h with h1|h1
  ·omega
  ·have:=ih h1;omega
theorem zzX {E:Env0} (ht:zaH E) {h:Heap} {β:List Con} {S:Addr->Prop} {w:World} {tmps:Array Value} {L:Nat->AV} {K:Act->World->Prop} {Q:Exit->Act->World->Prop} {o:Oper} {os:List Orc} {out:OutG AV} {all:List Oper}
  (r:Rel E h β S w) (rl:RelL E.T h β w S L tmps) (hd:zaR tmps.size o.dst=true) (hs:zcs (mk E) all o L h os=some out) (ho:zat out.o)
  (g:∀ (β':List Con) (S':Addr->Prop) (w':World) (tmps':Array Value),tmps'.size=tmps.size->Rel E out.h β' S' w'->Ext h β S w out.h β' S' w'->RelL E.T out.h β' w' S' (putF L o.dst out.ts) tmps'->K ⟨tmps',[]⟩ w') :
  wpG E.P all.toArray o ⟨tmps,[]⟩ w K Q:=by
 unfold zcs at hs
 let m:=tmps.size+(o.looksAt all.toArray).sum+1
 have hlk:∀ t,look (tsOf m L m) t=if t < m then L t else .un:=zrd m L m
 have rt:zaF E.T h β w S (tsOf m L m) tmps:=fun t=>by
  rw [hlk t]
  split
  ·exact rl t
  ·exact .d _ _ (.un _)
 have back:∀ (β':List Con) (S':Addr->Prop) (w':World) (tmps':Array Value) (h':Heap) (v:AV),tmps'.size=tmps.size->Ext h β S w h' β' S' w'->zaF E.T h' β' w' S' (AM.put (tsOf m L m) o.dst v) tmps'->RelL E.T h' β' w' S' (putF L o.dst v) tmps':=by
  intro β' S' w' tmps' h' v hsz hx hts t
  have h1:=hts t
  by_cases hdt:o.dst=some t
  ·rw [hdt] at h1 ⊢
   simpa [AM.put,look,putF,yAn] using h1
  ·have h2:putF L o.dst v t=L t:=zlG fun d hd e=>hdt (by rw [hd,e])
   have h3:look (AM.put (tsOf m L m) o.dst v) t=look (tsOf m L m) t:=by
    cases hdd:o.dst with
    | none=>rfl
    | some d =>
     have hne:d≠t:=fun e=>hdt (by rw [hdd,e])
     simp only [AM.put,look]
     split
     ·rename_i hb;exact absurd (yN hb) hne
     ·rfl
   rw [h3,hlk t] at h1
   rw [h2]
   split at h1
   ·exact h1
   ·rename_i hge
    have hu:tmps'.getD t undef=tmps.getD t undef:=by
     rw [yAU,yAU,yAj (by omega),yAj (by omega)]
    rw [hu]
    exact (rl t).ext hx
 have hcon:∀ x∈o.op.operands,evF (mk E).G L x=ev (mk E).G (tsOf m L m) x:=by
  rw [ev_eq]
  refine zmE (E:=mk E) (all:=all) fun t ht=>?_
  rw [hlk t,if_pos]
  have:=le_sum ht
  omega
 have skip:∀ (q:Option Prop) (os':List Orc),out=⟨q,zfi,h,os'⟩->K (Act.put ⟨tmps,[]⟩ o.dst undef) w:=by
  intro q os' he
  subst he
  rw [zb3]
  exact g β S w _ (zcz _ _ _) r (Ext.refl _ _ _ _) (back β S w _ h zfi (zcz _ _ _) (Ext.refl _ _ _ _) (rt.put hd zoa))
 have exec:∀ (os':List Orc) (q:Option Prop),(zaj (mk E) o (evF (mk E).G L) id h os').map (fun r=>(⟨andO q r.o,r.ts,r.h,r.os⟩:OutG AV))=some out->o.wp E.P ⟨tmps,[]⟩ w K Q:=by
  intro os' q hx
  rw [zl7 (mk E) o _ _ id h os' hcon] at hx
  cases hy:zaj (mk E) o (ev (mk E).G (tsOf m L m)) id h os' with
  | none=>simp [hy] at hx
  | some r1 =>
   simp only [hy,yAC,yA] at hx
   subst hx
   have hst:zau (mk E) o (tsOf m L m) h os'=some ⟨r1.o,AM.put (tsOf m L m) o.dst r1.ts,r1.h,r1.os⟩:=by
    unfold zau
    rw [zu2,hy]
    rfl
   exact zjG ht r rt hd hst (zo6 ho).2 ⟨fun β' S' w' tmps' hsz r' e' rt'=>g β' S' w' tmps' hsz r' e' (back β' S' w' tmps' _ _ hsz e' rt')⟩
 unfold wpG
 have hgst:∀ (b:Bool) (q:Option Prop) (os':List Orc),gst all o L os=some (b,q,os')->zat q->Region.wanted o (yielded all.toArray tmps)=b:=by
  intro b q os' hg hq
  unfold gst at hg
  unfold Region.wanted
  split at hg
  ·rename_i hgu
   cases hg
   rw [hgu]
  ·rename_i j want hgu
   rw [hgu]
   simp only
   split at hg
   ·cases hg
   ·rename_i d hgt
    have hrd:=rl d
    split at hg
    ·rename_i bb hl
     cases hg
     rw [hl] at hrd
     rw [zez hgt hrd.bl_inv]
     cases bb <;> cases want <;> rfl
    ·rename_i hl
     cases hg
     rw [hl] at hrd
     obtain ⟨vs,he,hll,_⟩:=hrd.tup_inv
     have:vs=[]:=yAQ (by simpa using hll.symm)
     rw [znn hgt (by rw [he,this];rfl)]
     rfl
    ·rename_i t hl
     rw [hl] at hrd
     split at hg
     ·cases hg
      simp only [zat] at hq
      subst hq
      rw [zez hgt hrd.v_inv]
      cases t <;> cases want <;> rfl
     ·cases hg
    ·cases hg
 split at hs
 ·rename_i q os' hg
  have hq:zat q:=by
   cases hy:zaj (mk E) o (evF (mk E).G L) id h os' with
   | none=>simp [hy] at hs
   | some r1 =>
    have hs':=hs
    simp only [hy,yAC,yA] at hs'
    subst hs'
    exact (zo6 ho).1
  rw [if_pos (hgst true q os' hg hq)]
  exact exec os' q hs
 ·rename_i q os' hg
  simp only [yA] at hs
  have hq:zat q:=by subst hs;exact ho
  rw [if_neg (by rw [hgst false q os' hg hq];simp)]
  exact skip q os' hs.symm
 ·cases hs
theorem zyY {E:Env0} (ht:zaH E) {all:List Oper} {os:Nat->List Orc} {n:Nat} {K:(Nat->AV)->Heap->Prop} {Q:Exit->Act->World->Prop} {hb:Heap} {βb:List Con} {Sb:Addr->Prop} {wb:World}
  (hK:∀ (L:Nat->AV) (h:Heap) (β:List Con) (S:Addr->Prop) (w:World) (tmps:Array Value),K L h->tmps.size=n->Ext hb βb Sb wb h β S w->Rel E h β S w->RelL E.T h β w S L tmps->Q .normal ⟨tmps,[]⟩ w) :
  ∀ (f:Nat) (listed:Array Bool) (L:Nat->AV) (h:Heap) (β:List Con) (S:Addr->Prop) (w:World) (tmps:Array Value),DG (mk E) all os n K f listed L h->tmps.size=n->Ext hb βb Sb wb h β S w->Rel E h β S w->RelL E.T h β w S L tmps ->
   wpAny E.P .any all.toArray Q f listed ⟨tmps,[]⟩ w:=by
 intro f
 induction f with
 | zero =>
  intro listed L h β S w tmps H hn x r rl
  exact ⟨H.1,hK L h β S w tmps H.2 hn x r rl⟩
 | succ f ih =>
  intro listed L h β S w tmps H hn x r rl
  refine ⟨fun h0=>hK L h β S w tmps (H.1 h0) hn x r rl,fun i hi=>?_⟩
  obtain ⟨o,out,ho,hd,hs,hq,H'⟩:=H.2 i hi
  have:=zzX (Q:=Q) (K:=wpAny E.P .any all.toArray Q f (listed.setIfInBounds i true)) ht r rl (by rw [hn];exact hd) hs hq (fun β' S' w' tmps' hsz r' e' rl'=>ih _ _ _ β' S' w' tmps' H' (by rw [hsz];exact hn) (x.trans e') r' rl')
  unfold wpOp
  have hoa:all.toArray[i]?=some o:=by simpa using ho
  simp only [hoa]
  unfold wpG at this
  split
  ·rename_i hw;rw [if_pos hw] at this;exact .inl this
  ·rename_i hw;rw [if_neg hw] at this;exact this
theorem ztr (b:Nat):∀ l:List Nat,memN b l=true↔b∈l
 | []=>by simp [memN]
 | x::r=>by
  simp only [memN,yO]
  split
  ·rename_i hx;simp [yN hx]
  ·rename_i hx
   have hne:b≠x:=by rintro rfl;simp [yAn] at hx
   rw [ztr b r]
   simp [hne]
def Lst (n:Nat) (done:List Nat) (listed:Array Bool):Prop:=listed.size=n/\∀ j,j < n->listed[j]?=some (memN j done)
theorem Lst.getT {n:Nat} {done:List Nat} {listed:Array Bool} (hl:Lst n done listed) {j:Nat} (hj:j < n) (d:Bool):listed.getD j d=memN j done:=by
 rw [yAU,hl.2 j hj];rfl
theorem Lst.getF {n:Nat} {done:List Nat} {listed:Array Bool} (hl:Lst n done listed) {j:Nat} (hj:¬ j < n) (d:Bool):listed.getD j d=d:=by
 rw [yAU,yAj (by rw [hl.1];omega)];rfl
theorem Lst.add {n:Nat} {done:List Nat} {listed:Array Bool} (hl:Lst n done listed) {i:Nat} (hi:i < n):Lst n (i::done) (listed.setIfInBounds i true):=by
 refine ⟨by simp [hl.1],fun j hj=>?_⟩
 by_cases e:i=j
 ·subst e
  rw [Array.getElem?_setIfInBounds_self_of_lt (by rw [hl.1];exact hi)]
  simp [memN,yAn]
 ·rw [Array.getElem?_setIfInBounds_ne e,hl.2 j hj]
  have hb:Nat.beq i j=false:=by
   cases hh:Nat.beq i j with
   | false=>rfl
   | true=>exact absurd (yN hh) e
  simp [memN,hb]
theorem zel {all:List Oper} {done:List Nat} {listed:Array Bool} (hl:Lst all.length done listed) (hd:∀ x∈done,x < all.length) (i:Nat):i∈Region.ready .any all.toArray listed↔i∈ziD all done:=by
 rw [mem_ready]
 unfold ziD
 rw [List.mem_filter,List.mem_range]
 constructor
 ·rintro ⟨h1,o,ho,h2⟩
  have ho':all[i]?=some o:=by simpa using ho
  have hi:=(yB.1 ho').1
  refine ⟨hi,?_⟩
  rw [hl.getT hi] at h1
  rw [ho']
  simp only [h1,Bool.not_false,Bool.true_and,yAd,yAp,Bool.not_eq_true']
  intro e he
  by_cases hb:Region.binds .any e=true
  ·right
   have:=h2 e (by simpa using he) hb
   by_cases hen:e.on < all.length
   ·rwa [hl.getT hen] at this
   ·rw [hl.getF hen] at this;cases this
  ·left;simpa using hb
 ·rintro ⟨hi,h1⟩
  have ho:all[i]?=some all[i]:=yE hi
  rw [ho] at h1
  simp only [yR,Bool.not_eq_true',yAd,yAp] at h1
  refine ⟨by rw [hl.getT hi];exact h1.1,all[i],by simp [hi],fun e he hb=>?_⟩
  rcases h1.2 e (by simpa using he) with h2|h2
  ·rw [hb] at h2;cases h2
  ·have hen:=hd e.on ((ztr _ _).1 h2)
   rw [hl.getT hen];exact h2
theorem zzC (ts:TS) (d:Option Tmp) (v:AV):look (put ts d v)=putF (look ts) d v:=by
 funext t
 cases d with
 | none=>rfl
 | some d =>
  simp only [put,look,putF]
  split
  ·rename_i hb;rw [if_pos (yN hb).symm]
  ·rename_i hb
   have hne:t≠d:=by rintro rfl;simp [yAn] at hb
   rw [if_neg hne]
theorem zsM {q:Option Prop} {l:List Prop × TS × Heap} (h:allP (zlr q l).1):zat q/\allP l.1:=by
 cases q with
 | none=>exact ⟨trivial,h⟩
 | some p =>
  simp only [zlr] at h
  cases hl:l.1 with
  | nil=>rw [hl] at h;exact ⟨h,trivial⟩
  | cons a r=>rw [hl] at h;exact h
theorem zs9 {E:Env} {all:List Oper} {osl:List (Nat × List Orc)} {n:Nat} {lv:List Nat->TS->Heap->Option (List (List Prop × TS × Heap))} {done:List Nat} {ts:TS} {h:Heap} {i:Nat} {Ls:List (List Prop × TS × Heap)}
  (hg:goD E all osl n lv done ts h i=some Ls):∃ o out L2,all[i]?=some o/\zaR n o.dst=true/\zcs E all o (look ts) h (osAt osl i)=some out/\lv (i::done) (put ts o.dst out.ts) out.h=some L2/\Ls=L2.map (zlr out.o):=by
 unfold goD at hg
 cases ho:all[i]? with
 | none=>simp [ho] at hg
 | some o =>
  simp only [ho] at hg
  cases hd:zaR n o.dst with
  | false=>simp [hd] at hg
  | true =>
   cases hs:zcs E all o (look ts) h (osAt osl i) with
   | none=>simp [hd,hs] at hg
   | some out =>
    simp only [hd,hs] at hg
    cases hl:lv (i::done) (put ts o.dst out.ts) out.h with
    | none=>simp [hl] at hg
    | some L2 =>
     simp only [hl,yAC,yA] at hg
     exact ⟨o,out,L2,rfl,hd,hs,hl,hg.symm⟩
theorem zod {go:Nat->Option (List (List Prop × TS × Heap))}:∀ (l:List Nat) (Lt:List (List Prop × TS × Heap)),allD go l=some Lt->∀ i∈l,∃ La,go i=some La/\∀ x∈La,x∈Lt
 | [],_,_,i,hi=>by cases hi
 | c::l,Lt,he,i,hi=>by
  unfold allD at he
  cases hc:go c with
  | none=>simp [hc] at he
  | some a =>
   cases hb:allD go l with
   | none=>simp [hc,hb] at he
   | some b =>
    simp only [hc,hb,yA] at he
    subst he
    rcases yO.1 hi with h1|h1
    ·subst h1;exact ⟨a,hc,fun x hx=>yK.2 (.inl hx)⟩
    ·obtain ⟨La,l1,l2⟩:=zod l b hb i h1
     exact ⟨La,l1,fun x hx=>yK.2 (.inr (l2 x hx))⟩
theorem zpt {E:Env} {all:List Oper} {osl:List (Nat × List Orc)} {done:List Nat} {ts:TS} {h:Heap} {r i:Nat} {rs:List Nat} (hp:zw4 E all osl done ts h r rs=some i):i∈r::rs/\first E all osl done ts h i=true:=by
 cases rs with
 | nil=>cases hp
 | cons s rs=>exact ⟨List.mem_of_find?_eq_some hp,List.find?_some hp⟩
theorem zpn {E:Env} {all:List Oper} {osl:List (Nat × List Orc)} {n:Nat}:∀ (f:Nat) (done:List Nat) (ts:TS) (h:Heap),zdv E all osl n f done ts h≠some []
 | 0,done,ts,h,he=>by
  unfold zdv at he
  split at he <;> cases he
 | f+1,done,ts,h,he=>by
  have one:∀ i,goD E all osl n (zdv E all osl n f) done ts h i≠some []:=by
   intro i hi
   obtain ⟨o,out,L2,_,_,_,h4,h5⟩:=zs9 hi
   have:L2=[]:=by simpa using h5.symm
   subst this
   exact zpn f _ _ _ h4
  unfold zdv at he
  split at he
  ·cases he
  ·rename_i r rs _
   split at he
   ·exact one _ he
   ·obtain ⟨La,l1,l2⟩:=zod _ _ he r (by simp)
    cases La with
    | nil=>exact one _ l1
    | cons a l=>have:=l2 a (by simp);cases this
theorem zyr {E:Env} {all:List Oper} {osl:List (Nat × List Orc)} {n:Nat} {K:(Nat->AV)->Heap->Prop} :
  ∀ (f:Nat) (done:List Nat) (listed:Array Bool) (ts:TS) (h:Heap) (Ls:List (List Prop × TS × Heap)),Lst all.length done listed->(∀ x∈done,x < all.length)->zh8 all.toArray listed->zdv E all osl n f done ts h=some Ls ->
   (∀ l∈Ls,allP l.1/\K (look l.2.1) l.2.2)->DG E all (osAt osl) n K f listed (look ts) h:=by
 intro f
 induction f with
 | zero =>
  intro done listed ts h Ls hl hd hc hs hK
  unfold zdv at hs
  split at hs
  ·rename_i hr
   cases hs
   refine ⟨?_,(hK ([],ts,h) (by simp)).2⟩
   cases hrr:Region.ready .any all.toArray listed with
   | nil=>rfl
   | cons a r =>
    have:=(zel hl hd a).1 (by rw [hrr];simp)
    rw [hr] at this
    cases this
  ·cases hs
 | succ f ih =>
  intro done listed ts h Ls hl hd hc hs hK
  have goOk:∀ (i:Nat) (Ls':List (List Prop × TS × Heap)),i∈ziD all done->goD E all osl n (zdv E all osl n f) done ts h i=some Ls'->(∀ l∈Ls',allP l.1/\K (look l.2.1) l.2.2) ->
    ∃ o out,all[i]?=some o/\zaR n o.dst=true/\zcs E all o (look ts) h (osAt osl i)=some out/\zat out.o/\DG E all (osAt osl) n K f (listed.setIfInBounds i true) (putF (look ts) o.dst out.ts) out.h:=by
   intro i Ls' hi hg hK'
   obtain ⟨o,out,L2,ho,hdst,hst,hlv,hLs⟩:=zs9 hg
   subst hLs
   have hil:=(yB.1 ho).1
   have hq:zat out.o:=by
    cases L2 with
    | nil=>exact absurd hlv (zpn _ _ _ _)
    | cons a r=>exact (zsM (hK' (zlr out.o a) (by simp)).1).1
   refine ⟨o,out,ho,hdst,hst,hq,?_⟩
   rw [← zzC]
   refine ih (i::done) _ _ _ L2 (hl.add hil) (fun x hx=>?_) (zlo hc ((zel hl hd i).2 hi)) hlv (fun l hll=>?_)
   ·rcases yO.1 hx with h1|h1
    ·rw [h1];exact hil
    ·exact hd x h1
   ·have h1:=hK' (zlr out.o l) (yAT.2 ⟨l,hll,rfl⟩)
    refine ⟨(zsM h1.1).2,?_⟩
    have:(zlr out.o l).2=l.2:=by cases out.o <;> rfl
    rw [this] at h1
    exact h1.2
  unfold zdv at hs
  cases hr:ziD all done with
  | nil =>
   simp only [hr,yA] at hs
   subst hs
   refine zz3 ?_ (hK ([],ts,h) (by simp)).2 _
   cases hrr:Region.ready .any all.toArray listed with
   | nil=>rfl
   | cons a r =>
    have:=(zel hl hd a).1 (by rw [hrr];simp)
    rw [hr] at this
    cases this
  | cons r rs =>
   simp only [hr] at hs
   cases hfind:zw4 E all osl done ts h r rs with
   | some i =>
    simp only [hfind] at hs
    have hmem:i∈ziD all done:=by rw [hr];exact (zpt hfind).1
    have hfi:=(zpt hfind).2
    obtain ⟨o,out,ho,hdst,hst,hq,hDG⟩:=goOk i Ls hmem hs hK
    unfold first at hfi
    rw [ho] at hfi
    simp only at hfi
    split at hfi
    ·unfold ztf at hfi
     split at hfi
     ·cases hfi
     ·rename_i m k a hik
      obtain ⟨_,_,_,_,hdn⟩:=zlu hik
      rw [hdn] at hDG
      simp only [yAd] at hfi
      refine DG_ins ho hdst hik all.length f listed _ h out hc ((zel hl hd i).2 hmem) hst hq (fun j oj hoj hji hun=>?_) hDG
      have hjl:=(yB.1 hoj).1
      have h1:=hfi j (List.mem_range.2 hjl)
      rw [hl.getT hjl] at hun
      simp only [yAp,hoj,hun,Bool.false_eq_true,or_false] at h1
      rcases h1 with (h1|h1)|h1
      ·exact absurd (yN h1) hji
      ·exact .inl h1
      ·split at h1
       ·rename_i m' k' a' hkk
        simp only [yR,decide_eq_true_eq,Bool.not_eq_true',decide_eq_false_iff_not] at h1
        obtain ⟨⟨h2,h3⟩,h4⟩:=h1
        have h2:=yN h2
        subst h2
        subst h3
        exact .inr ⟨a',hkk,h4⟩
       ·cases h1
    ·rename_i B hB
     simp only [yR,yAd] at hfi
     obtain ⟨hbx,hpr⟩:=hfi
     obtain ⟨hh,_⟩:=zgR hB hst (h':=h) (fun _ _=>rfl)
     rw [hh] at hDG
     refine zz4 ho hdst all.length f listed _ h out B hc ((zel hl hd i).2 hmem) hB hst hq (fun b hb=>Option.isSome_iff_exists.1 (hbx b hb)) (fun j oj hoj hji hun=>?_) hDG
     have hjl:=(yB.1 hoj).1
     have h1:=hpr j (List.mem_range.2 hjl)
     rw [hl.getT hjl] at hun
     simp only [yAp,hoj,hun,Bool.false_eq_true,or_false,yR] at h1
     rcases h1 with (h1|h1)|h1
     ·exact absurd (yN h1) hji
     ·exact .inr h1
     ·exact .inl h1
   | none =>
    simp only [hfind] at hs
    refine DG_all (fun h0=>?_) (fun i hi=>?_)
    ·have:=(zel hl hd r).2 (by rw [hr];simp)
     rw [h0] at this
     cases this
    ·have hi':=(zel hl hd i).1 hi
     obtain ⟨La,l1,l2⟩:=zod (r::rs) Ls hs i (by rw [← hr];exact hi')
     exact goOk i La hi' l1 (fun l hl'=>hK l (l2 l hl'))
theorem zq1 (k:Nat) (v:AV):∀ (l:TS) (t:Nat),look (insK k v l) t=look ((k,v)::l) t
 | [],t=>rfl
 | (j,x)::r,t=>by
  unfold insK
  cases h1:Nat.beq k j with
  | true =>
   have:=yN h1
   subst this
   simp only [look]
   split <;> rfl
  | false =>
   cases h2:Nat.blt k j with
   | true=>rfl
   | false =>
    have ih:=zq1 k v r t
    have hne:k≠j:=fun e=>by subst e;simp at h1
    simp only [look] at ih ⊢
    rw [ih]
    cases h3:Nat.beq j t with
    | true =>
     have:=yN h3
     subst this
     simp [h1]
    | false=>rfl
theorem zlE:∀ (l:TS) (t:Nat),look (zoX l) t=look l t
 | [],_=>rfl
 | (k,v)::r,t=>by
  simp only [zoX,zq1,look]
  split
  ·rfl
  ·exact zlE r t
theorem zq8 {ts:TS} {h:Heap}:∀ {Ls:List (List Prop × TS × Heap)},zxc ts h Ls->∀ l∈Ls,allP l.1/\look l.2.1=look ts/\l.2.2=h
 | [],_,l,hl=>by cases hl
 | x::r,hs,l,hl=>by
  rcases List.mem_cons.mp hl with rfl|hl
  ·refine ⟨hs.1.1,?_,hs.1.2.2⟩
   funext t
   rw [← zlE,hs.1.2.1,zlE]
  ·exact zq8 hs.2 l hl
theorem zyw {q:List Prop} {ts:TS} {h:Heap} {more:List (List Prop × TS × Heap)} (hm:zw0 q ts h more):∀ l∈(q,ts,h)::more,allP l.1/\look l.2.1=look ts/\l.2.2=h:=by
 intro l hl
 cases more with
 | nil =>
  simp only [yF] at hl
  subst hl
  exact ⟨hm,rfl,rfl⟩
 | cons x r =>
  rcases List.mem_cons.mp hl with rfl|hl
  ·exact ⟨hm.1,rfl,rfl⟩
  ·exact zq8 hm.2 l hl
theorem zvK {E:Env0} (ht:zaH E) (hm:E.P.follows .mixedOrders=true) {id:Nat} {ops:Array Oper} {osl:List (Nat × List Orc)} {n:Nat} {ts ts1:TS} {h h1 hb:Heap} {qs:List Prop} {Q:Exit->Act->World->Prop} {βb β:List Con} {Sb S:Addr->Prop} {wb w:World} {tmps:Array Value} {more:List (List Prop × TS × Heap)}
  (hsz:ops.toList.length=ops.size) (hlv:zdv (mk E) ops.toList osl n ops.toList.length [] ts h=some ((qs,ts1,h1)::more)) (hq:zw0 qs ts1 h1 more) (hn:tmps.size=n) (x:Ext hb βb Sb wb h β S w) (r:Rel E h β S w) (rt:zaF E.T h β w S ts tmps)
  (hK:∀ (β':List Con) (S':Addr->Prop) (w':World) (tmps':Array Value),tmps'.size=n->Ext hb βb Sb wb h1 β' S' w'->Rel E h1 β' S' w'->zaF E.T h1 β' w' S' ts1 tmps'->Q .normal ⟨tmps',[]⟩ w') :
  (Code.region id ops true).wp E.P Q ⟨tmps,[]⟩ w:=by
 refine wp_region_any hm ?_
 have hdg:=zyr (E:=mk E) (K:=fun L hh=>L=look ts1/\hh=h1) ops.toList.length [] (Array.replicate ops.size false) ts h _ ⟨by simp,fun j hj=>?_⟩ (by simp) (fun j o ho hj=>?_) hlv (fun l hl=>?_)
 ·have hbel:BelowD w.heap.size w { w with drawn:=w.drawn+1 }:=⟨⟨rfl,rfl,rfl,yJ _,fun _ _=>rfl⟩,Nat.le_succ _⟩
  have x1:Ext h β S w h β S { w with drawn:=w.drawn+1 }:=Ext.grow r hbel (fun _ h=>h) (fun _ h=>.inl h)
  have r1:Rel E h β S { w with drawn:=w.drawn+1 }:=r.grow hbel (fun _ h=>h) (fun _ h=>.inl h)
  have:=zyY (Q:=Q) ht (fun L hh β' S' w' tmps' hKK hn' x' r' rl'=>by
   obtain ⟨rfl,rfl⟩:=hKK
   exact hK β' S' w' tmps' hn' x' r' rl') ops.toList.length _ _ _ β S _ tmps hdg hn (x.trans x1) r1 (fun t=>(rt t).ext x1)
  rw [hsz] at this
  simpa using this
 ·have:j < ops.size:=by simpa using hj
  simp [memN,this]
 ·by_cases hjs:j < ops.size
  ·simp [hjs] at hj
  ·simp [hjs] at hj
 ·exact zyw hq l hl
end Go.AM
namespace Go.AM
open Go.RowKit
section
variable {E : Env0} {h : Heap} {β : List Con} {S : Addr -> Prop} {w : World} {tmps : Array Value} {ts : TS} {K : Act -> World -> Prop} {Q : Exit -> Act -> World -> Prop} {o : Oper} {os : List Orc} {out : Out}
theorem zxn {P:Program} {o:Oper} {a:Act} {w:World} {K K':Act->World->Prop} {Q Q':Exit->Act->World->Prop} (h:∀ a w,K a w->K' a w) (hq:∀ e a w,Q e a w->Q' e a w)
  (hh:o.wp P a w K Q):o.wp P a w K' Q':=by
 unfold Oper.wp at *
 generalize (execOp a.eval o).run P w=r at *
 cases r with
 | ok n w' =>
  cases n <;> simp only [Oper.upon] at hh ⊢ <;>
   first
    | exact h _ _ hh
    | exact Calls.mono hh (fun e w'' he=>by cases e <;> first|exact h _ _ he|exact hq _ _ _ he|exact (let ⟨a,w,q⟩:=he;⟨a,w,hq _ _ _ q⟩))
    | exact Rows.mono hh (fun _ _ he=>h _ _ he)
 | halt x w'=>cases x <;> simp only [Oper.upon] at hh ⊢ <;> first|exact hh|exact hq _ _ _ hh
theorem ziO {P:Program} {ops:Array Oper} {Q Q':Exit->Act->World->Prop} (hq:∀ e a w,Q e a w->Q' e a w):∀ (l:List Oper) (a:Act) (w:World),wpList P ops Q l a w->wpList P ops Q' l a w
 | [],a,w,h=>hq _ _ _ h
 | o::r,a,w,h=>by
  unfold wpList at h ⊢
  split
  ·rename_i hw
   rw [if_pos hw] at h
   rcases h with h|⟨h1,a',w',h2⟩
   ·exact .inl (zxn (fun a w hh=>ziO hq r a w hh) hq h)
   ·exact .inr ⟨h1,a',w',hq _ _ _ h2⟩
  ·rename_i hw
   rw [if_neg hw] at h
   exact ziO hq r _ _ h
def lpWp (P:Program) (c:Code) (Q:Exit->Act->World->Prop) (a:Act) (w:World):Prop :=
 ∀ (b:Frame) (k:List Item) (cs:List Frame),∃ e a' w',Q e a' w'/\Arrives P (lone (b.at a (.code c::.inLoop c::k)) cs w) b k cs e a' w'
theorem zyu {P:Program} {c:Code} {Q Q':Exit->Act->World->Prop} {a:Act} {w:World} (h:lpWp P c Q a w) (hq:∀ e a w,Q e a w->Q' e a w):lpWp P c Q' a w :=
 fun b k cs=>let ⟨e,a',w',q,r⟩:=h b k cs;⟨e,a',w',hq _ _ _ q,r⟩
theorem zp9 {P:Program} {c:Code} {Q:Exit->Act->World->Prop} {a:Act} {w:World} (h:lpWp P c Q a w):(Code.loop c).wp P Q a w :=
 fun b k cs=>let ⟨e,a',w',q,r⟩:=h b k cs;⟨e,a',w',q,.of_steps (.one step_loop) r⟩
theorem zpp {P:Program} {c:Code} {Q:Exit->Act->World->Prop} {a:Act} {w:World} (h:c.wp P (Exit.then (lpWp P c Q) Q) a w):lpWp P c Q a w:=by
 intro b k cs
 obtain ⟨e,a₁,w₁,hq,harr⟩:=h b (.inLoop c::k) cs
 cases e with
 | normal =>
  obtain ⟨e₂,a₂,w₂,hq₂,harr₂⟩:=hq b k cs
  exact ⟨e₂,a₂,w₂,hq₂,.of_steps (Steps.trans harr (.one step_inLoop)) harr₂⟩
 | exit id=>exact ⟨_,a₁,w₁,hq,.pass (x:=.inLoop c) rfl (fun _ _=>.inl (by simp)) harr⟩
 | goto l=>exact ⟨_,a₁,w₁,hq,.pass (x:=.inLoop c) rfl (fun _ _=>.inl (by simp)) harr⟩
 | ret=>exact ⟨_,a₁,w₁,hq,.pass (x:=.inLoop c) rfl (fun _ _=>.inl (by simp)) harr⟩
 | panic ch=>exact ⟨_,a₁,w₁,hq,.pass (x:=.inLoop c) rfl (fun _ _=>.inl (by simp)) harr⟩
 | outgrown=>exact ⟨_,a₁,w₁,hq,.pass (x:=.inLoop c) rfl (fun _ _=>.inl (by simp)) harr⟩
def kont (P:Program):List It->(Exit->Act->World->Prop)->Exit->Act->World->Prop
 | [],Q,e,a,w=>Q e a w
 | .code c::k,Q,e,a,w=>Exit.then (fun a w=>c.wp P (kont P k Q) a w) (kont P k Q) e a w
 | .ops all rest::k,Q,e,a,w=>Exit.then (fun a w=>wpList P all.toArray (kont P k Q) rest a w) (kont P k Q) e a w
 | .blk id::k,Q,e,a,w=>Exit.inBlock id (kont P k Q) e a w
 | .lp c::k,Q,e,a,w=>Exit.then (fun a w=>lpWp P c (kont P k Q) a w) (kont P k Q) e a w
theorem znj {N N':Act->World->Prop} {Q Q':Exit->Act->World->Prop} (hn:∀ a w,N a w->N' a w) (hq:∀ e a w,Q e a w->Q' e a w):∀ e a w,Exit.then N Q e a w->Exit.then N' Q' e a w:=by
 intro e a w h
 cases e <;> first|exact hn _ _ h|exact hq _ _ _ h
theorem ztd {id:Nat} {Q Q':Exit->Act->World->Prop} (hq:∀ e a w,Q e a w->Q' e a w):∀ e a w,Exit.inBlock id Q e a w->Exit.inBlock id Q' e a w:=by
 intro e a w h
 cases e with
 | exit i =>
  simp only [Exit.inBlock] at h ⊢
  split
  ·rename_i hi;rw [if_pos hi] at h;exact hq _ _ _ h
  ·rename_i hi;rw [if_neg hi] at h;exact hq _ _ _ h
 | _=>exact hq _ _ _ h
theorem zdC {P:Program} {Q Q':Exit->Act->World->Prop} (hq:∀ e a w,Q e a w->Q' e a w):∀ (k:List It) (e:Exit) (a:Act) (w:World),kont P k Q e a w->kont P k Q' e a w
 | [],e,a,w,h=>hq e a w h
 | .code c::k,e,a,w,h=>znj (fun a w hh=>wp_mono hh (zdC hq k)) (zdC hq k) e a w h
 | .ops all rest::k,e,a,w,h=>znj (fun a w hh=>ziO (zdC hq k) rest a w hh) (zdC hq k) e a w h
 | .blk id::k,e,a,w,h=>ztd (zdC hq k) e a w h
 | .lp c::k,e,a,w,h=>znj (fun a w hh=>zyu hh (zdC hq k)) (zdC hq k) e a w h
theorem zfe {P:Program} {fn:Func} {R:Ending->World->Prop}:∀ (k:List It) (l:Nat) (a:Act) (w:World),kont P k (bodyPost P fn R) (.goto l) a w->False
 | [],_,_,_,h=>h
 | .code _::k,l,a,w,h=>zfe k l a w h
 | .ops _ _::k,l,a,w,h=>zfe k l a w h
 | .blk _::k,l,a,w,h=>zfe k l a w h
 | .lp _::k,l,a,w,h=>zfe k l a w h
theorem Post.ext {h':Heap} {β':List Con} {S':Addr->Prop} {w':World} {R:AV->Heap->Prop} (x:Ext h β S w h' β' S' w') (e:Ending) (w'':World) (hp:Post E h' β' S' w' R e w''):Post E h β S w R e w'':=by
 obtain ⟨r,h2,β2,S2,y,h1,h3,h4,h5,h6⟩:=hp
 exact ⟨r,h2,β2,S2,y,h1,h3,h4,x.trans h5,h6⟩
theorem zrk {P:Program} {fn:Func} {R R':Ending->World->Prop} (hr:∀ e w,R e w->R' e w):∀ e a w,bodyPost P fn R e a w->bodyPost P fn R' e a w:=by
 intro e a w h
 cases e with
 | normal=>obtain ⟨h1,v,h2,h3⟩:=h;exact ⟨h1,v,h2,hr _ _ h3⟩
 | ret=>obtain ⟨h1,v,h2,h3⟩:=h;exact ⟨h1,v,h2,hr _ _ h3⟩
 | panic c=>obtain ⟨h1,h2⟩:=h;exact ⟨h1,hr _ _ h2⟩
 | outgrown=>exact hr _ _ h
 | exit i=>exact h
 | goto l=>exact h
def Good (E:Env0) (fn:Func) (h0:Heap) (c:Cfg) (R:AV->Heap->Prop):Prop :=
 ∀ (β0:List Con) (S0:Addr->Prop) (w0:World) (β:List Con) (S:Addr->Prop) (w:World) (tmps:Array Value),β0.length=h0.length->tmps.size=c.n->Ext h0 β0 S0 w0 c.h β S w->Rel E c.h β S w->zaF E.T c.h β w S c.ts tmps ->
  kont E.P c.todo (bodyPost E.P fn (Post E h0 β0 S0 w0 R)) .normal ⟨tmps,[]⟩ w
theorem ze9 {P:Program} {Q:Exit->Act->World->Prop} {id:Nat}:∀ (k k':List It) (a:Act) (w:World),zgZ id k=some k'->kont P k' Q .normal a w->kont P k Q (.exit id) a w
 | [],k',a,w,he,_=>by cases he
 | .blk i::k,k',a,w,he,hk=>by
  unfold zgZ at he
  simp only [kont,Exit.inBlock]
  split at he
  ·rename_i hi
   have:=yN hi
   subst this
   cases he
   rw [if_pos rfl]
   exact hk
  ·rename_i hi
   have hne:¬ id=i:=by rintro rfl;simp [yAn] at hi
   rw [if_neg hne]
   exact ze9 k k' a w he hk
 | .code c::k,k',a,w,he,hk=>by simp only [kont,Exit.then];exact ze9 k k' a w (by simpa [zgZ] using he) hk
 | .ops all r::k,k',a,w,he,hk=>by simp only [kont,Exit.then];exact ze9 k k' a w (by simpa [zgZ] using he) hk
 | .lp c::k,k',a,w,he,hk=>by simp only [kont,Exit.then];exact ze9 k k' a w (by simpa [zgZ] using he) hk
theorem zvE (ht:zaH E) (hm:E.P.follows .mixedOrders=true) {fn:Func} {R:AV->Heap->Prop} {c c':Cfg} {os os':List Orc} {q:Option Prop} (hs:step (mk E) c os=some (q,c',os')) {h0:Heap} (hq:zat q) (hg:Good E fn h0 c' R):Good E fn h0 c R:=by
 intro β0 S0 w0 β S w tmps hb0 hn x0 r rt
 obtain ⟨n,todo,ts,h⟩:=c
 simp only at hn x0 r rt ⊢
 unfold step at hs
 simp only at hs
 cases todo with
 | nil=>cases hs
 | cons it k =>
  cases it with
  | blk id =>
   simp only [yA,Prod.mk.injEq] at hs
   obtain ⟨_,rfl,_⟩:=hs
   exact hg β0 S0 w0 β S w tmps hb0 hn x0 r rt
  | lp cc=>cases hs
  | ops all rest =>
   cases rest with
   | nil =>
    simp only [yA,Prod.mk.injEq] at hs
    obtain ⟨_,rfl,_⟩:=hs
    exact hg β0 S0 w0 β S w tmps hb0 hn x0 r rt
   | cons o rest =>
    simp only at hs
    split at hs
    ·rename_i x hdst hx
     simp only [yA,Prod.mk.injEq] at hs
     obtain ⟨rfl,rfl,_⟩:=hs
     have hd:zaR tmps.size o.dst=true:=by rw [hn];exact hdst
     simp only [kont,Exit.then]
     refine wpList_step fun K hK=>?_
     have:=zua (Q:=kont E.P k (bodyPost E.P fn (Post E h0 β0 S0 w0 R))) (K:=K) ht r rt hd hx hq ⟨fun β' S' w' tmps' hsz r' e' rt'=>hK _ _ ?_⟩
     ·exact this
     ·have:=hg β0 S0 w0 β' S' w' tmps' hb0 (by rw [hsz];exact hn) (x0.trans e') r' rt'
      simp only [kont,Exit.then] at this
      exact this
    ·cases hs
  | code cc =>
   simp only [kont,Exit.then]
   cases cc with
   | skip =>
    simp only [yA,Prod.mk.injEq] at hs
    obtain ⟨_,rfl,_⟩:=hs
    exact wp_skip (hg β0 S0 w0 β S w tmps hb0 hn x0 r rt)
   | label l =>
    simp only [yA,Prod.mk.injEq] at hs
    obtain ⟨_,rfl,_⟩:=hs
    exact wp_label (hg β0 S0 w0 β S w tmps hb0 hn x0 r rt)
   | scope a =>
    simp only [yA,Prod.mk.injEq] at hs
    obtain ⟨_,rfl,_⟩:=hs
    refine wp_scope_straight (wp_mono (hg β0 S0 w0 β S w tmps hb0 hn x0 r rt) fun e a w he=>?_)
    cases e with
    | goto l=>exact zfe k l a w he
    | _=>exact he
   | loop a =>
    simp only [yA,Prod.mk.injEq] at hs
    obtain ⟨_,rfl,_⟩:=hs
    exact zp9 (hg β0 S0 w0 β S w tmps hb0 hn x0 r rt)
   | seq a b =>
    simp only [yA,Prod.mk.injEq] at hs
    obtain ⟨_,rfl,_⟩:=hs
    refine wp_seq (wp_mono (hg β0 S0 w0 β S w tmps hb0 hn x0 r rt) fun e a w he=>?_)
    cases e <;> exact he
   | block id a =>
    simp only [yA,Prod.mk.injEq] at hs
    obtain ⟨_,rfl,_⟩:=hs
    refine wp_block (wp_mono (hg β0 S0 w0 β S w tmps hb0 hn x0 r rt) fun e a w he=>?_)
    cases e <;> exact he
   | region id ops draw =>
    cases draw with
    | true =>
     simp only at hs
     split at hs
     ·rename_i l os1
      split at hs
      ·rename_i qs ts1 h1 hlv hsz
       simp only [yA,Prod.mk.injEq] at hs
       obtain ⟨rfl,rfl,_⟩:=hs
       simp only [zat] at hq
       exact zvK ht hm (yN hsz) hlv hq hn x0 r rt (fun β' S' w' tmps' hn' x' r' rt'=>hg β0 S0 w0 β' S' w' tmps' hb0 hn' x' r' rt')
      ·cases hs
     ·cases hs
    | false =>
     simp only [yA,Prod.mk.injEq] at hs
     obtain ⟨_,rfl,_⟩:=hs
     have:=hg β0 S0 w0 β S w tmps hb0 hn x0 r rt
     simp only [kont,Exit.then] at this
     exact wp_region_list this
   | exit id =>
    simp only at hs
    split at hs
    ·rename_i k' hk
     simp only [yA,Prod.mk.injEq] at hs
     obtain ⟨_,rfl,_⟩:=hs
     exact wp_exit (ze9 k k' _ _ hk (hg β0 S0 w0 β S w tmps hb0 hn x0 r rt))
    ·cases hs
   | cond x a b =>
    have hx:=zaV (ds:=[]) r rt x
    have lit:∀ bb,Act.eval ⟨tmps,[]⟩ x=.bool bb->zaF E.T h β w S (zsa ts bb x) tmps:=by
     intro bb he
     cases x with
     | tmp d=>exact rt.lit he
     | _=>exact rt
    simp only at hs
    split at hs
    ·rename_i he
     simp only [mk_G] at he
     rw [he] at hx
     simp only [yA,Prod.mk.injEq] at hs
     obtain ⟨_,rfl,_⟩:=hs
     exact wp_cond_true hx.bl_inv (hg β0 S0 w0 β S w tmps hb0 hn x0 r rt)
    ·rename_i he
     simp only [mk_G] at he
     rw [he] at hx
     simp only [yA,Prod.mk.injEq] at hs
     obtain ⟨_,rfl,_⟩:=hs
     exact wp_cond_false hx.bl_inv (hg β0 S0 w0 β S w tmps hb0 hn x0 r rt)
    ·rename_i t he
     simp only [mk_G] at he
     rw [he] at hx
     split at hs
     ·simp only [yA,Prod.mk.injEq] at hs
      obtain ⟨rfl,rfl,_⟩:=hs
      simp only [zat] at hq
      subst hq
      exact wp_cond_true hx.v_inv (hg β0 S0 w0 β S w tmps hb0 hn x0 r (lit _ hx.v_inv))
     ·simp only [yA,Prod.mk.injEq] at hs
      obtain ⟨rfl,rfl,_⟩:=hs
      simp only [zat] at hq
      subst hq
      exact wp_cond_false hx.v_inv (hg β0 S0 w0 β S w tmps hb0 hn x0 r (lit _ hx.v_inv))
     ·cases hs
    ·cases hs
   | _=>cases hs
theorem zjo {q:Prop} {l:List Prop} (h:allP (q::l)):q/\allP l:=by
 cases l with
 | nil=>exact ⟨h,trivial⟩
 | cons a l=>exact h
theorem ziF (ht:zaH E) (hm:E.P.follows .mixedOrders=true) {fn:Func} {R:AV->Heap->Prop} {h0:Heap}:∀ (n:Nat) (c:Cfg) (os:List Orc),allP (run (mk E) n c os).1->Good E fn h0 (run (mk E) n c os).2.1 R->Good E fn h0 c R
 | 0,c,os,_,hg=>hg
 | n+1,c,os,hq,hg=>by
  unfold run at hq hg
  cases hs:step (mk E) c os with
  | none=>simp only [hs] at hg;exact hg
  | some x =>
   obtain ⟨q,c',os'⟩:=x
   cases q with
   | none =>
    simp only [hs] at hq hg
    exact zvE ht hm hs trivial (ziF ht hm n c' os' hq hg)
   | some q =>
    simp only [hs] at hq hg
    obtain ⟨h1,h2⟩:=zjo hq
    exact zvE ht hm hs h1 (ziF ht hm n c' os' h2 hg)
theorem zwO {fn:Func} {R:AV->Heap->Prop} {h0:Heap} {n:Nat} {c:Code} {k:List It} {ts:TS} {h:Heap} (hg:Good E fn h0 ⟨n,.code c::.lp c::k,ts,h⟩ R):Good E fn h0 ⟨n,.lp c::k,ts,h⟩ R:=by
 intro β0 S0 w0 β S w tmps hb0 hn x0 r rt
 have:=hg β0 S0 w0 β S w tmps hb0 hn x0 r rt
 simp only [kont,Exit.then] at this ⊢
 refine zpp (wp_mono this fun e a w he=>?_)
 cases e <;> exact he
theorem zws {m b i:Nat} (h:zcr m b=some i):i=b/\b < m:=by
 unfold zcr at h
 split at h
 ·rename_i hb
  cases h
  exact ⟨rfl,yI hb⟩
 ·cases h
theorem zy3 {m b:Nat} (h:b < m):zcr m b=some b:=by
 have hb:Nat.blt b m=true:=Nat.ble_eq_true_of_le h
 unfold zcr
 rw [hb]
theorem Rel.first (r:Rel E h β S w) (m:Nat):Rel E ((h.take m).map (zbf (zcr m))) (β.take m) S w /\
  (∀ (x:AV) (y:Value),RelV E.T h β w S x y->RelV E.T ((h.take m).map (zbf (zcr m))) (β.take m) w S (ren (zcr m) x) y):=by
 have hget:∀ (b:Nat) (x:Blk),((h.take m).map (zbf (zcr m)))[b]?=some x->b < m/\∃ y,h[b]?=some y/\x=zbf (zcr m) y:=by
  intro b x hx
  simp only [yS,yAH] at hx
  obtain ⟨y,h1,h2⟩:=hx
  rw [yM] at h1
  split at h1
  ·rename_i hb;exact ⟨hb,y,h1,h2.symm⟩
  ·cases h1
 have hgetB:∀ (b:Nat) (k:Con),(β.take m)[b]?=some k->b < m/\β[b]?=some k:=by
  intro b k hk
  rw [yM] at hk
  split at hk
  ·rename_i hb;exact ⟨hb,hk⟩
  ·cases hk
 have hB:∀ b,b < m->(β.take m)[b]?=β[b]?:=fun b hb=>by rw [yM,if_pos hb]
 have hσ:∀ (b i:Nat),zcr m b=some i->(β.take m)[i]?=β[b]?/\∀ e xs sh,h[b]?=some (.row e xs sh)->((h.take m).map (zbf (zcr m)))[i]?=some (.row e xs sh):=by
  intro b i hi
  obtain ⟨rfl,hb⟩:=zws hi
  exact ⟨hB _ hb,fun e xs sh h1=>by rw [yS,yM,if_pos hb,h1];rfl⟩
 refine ⟨{
  len:=by simp [r.len]
  box:=fun b cs hb=>?_
  row:=fun b e xs sh hb=>?_
  mp:=fun b es hb=>?_
  apart:=fun b b' k k' g hb hb' hk hk'=>r.apart b b' k k' g (hgetB b k hb).2 (hgetB b' k' hb').2 hk hk'
  lt:=fun b k g hb hk=>r.lt b k g (hgetB b k hb).2 hk
  stable:=r.stable
  free:=fun b k g a hb hk ha hag=>?_
  glob:=r.glob },zfg hσ⟩
 ·obtain ⟨hbm,y,h1,h2⟩:=hget b _ hb
  obtain ⟨ds,rfl,rfl⟩:=zlI h2.symm
  obtain ⟨g,vs,t,c1,c2,c3,c4⟩:=r.box b ds h1
  obtain ⟨q1,q2⟩:=ze5 (T:=E.T) (w:=w) (S:=S) hσ ds vs c3 (fun i x y hx hy=>(c4 i x y hx hy).1)
  refine ⟨g,vs,t,by rw [hB b hbm];exact c1,c2,q1,fun j x y hx hy=>⟨q2 j x y hx hy,?_⟩⟩
  have hjl:j < ds.length:=by rw [c3];exact (yB.1 hy).1
  exact (c4 j _ y (yE hjl) hy).2
 ·obtain ⟨hbm,y,h1,h2⟩:=hget b _ hb
  have:=zlJ h2.symm
  subst this
  obtain ⟨k,c1,c2⟩:=r.row b e xs sh h1
  exact ⟨k,by rw [hB b hbm];exact c1,c2⟩
 ·obtain ⟨hbm,y,h1,h2⟩:=hget b _ hb
  have:=zm3 h2.symm
  subst this
  obtain ⟨k,c1,c2⟩:=r.mp b es h1
  exact ⟨k,by rw [hB b hbm];exact c1,c2⟩
 ·obtain ⟨hbm,hb2⟩:=hgetB b k hb
  obtain ⟨e,xs,c1,c2⟩:=r.free b k g a hb2 hk ha hag
  exact ⟨e,xs,(hσ b b (zy3 hbm)).2 e xs true c1,c2⟩
theorem Ext.first {h0:Heap} {β0:List Con} {S0:Addr->Prop} {w0:World} (x:Ext h0 β0 S0 w0 h β S w) (r:Rel E h β S w) {m:Nat} (hm:h0.length<=m) (hl:β0.length=h0.length) :
  Ext h0 β0 S0 w0 ((h.take m).map (zbf (zcr m))) (β.take m) S w where
 box:=fun b cs hb=>by
  have hbl:=(yB.1 hb).1
  obtain ⟨cs',h1⟩:=x.box b cs hb
  exact ⟨renL (zcr m) cs',by rw [yS,yM,if_pos (by omega),h1];rfl⟩
 con:=fun b g hb=>by
  have hbl:=(yB.1 hb).1
  rw [yM,if_pos (by omega)]
  exact x.con b g hb
 mp:=fun b es hb=>by
  have hbl:=(yB.1 hb).1
  obtain ⟨cs',h1⟩:=x.mp b es hb
  exact ⟨cs',by rw [yS,yM,if_pos (by omega),h1];rfl⟩
 conm:=fun b g hb=>by
  have hbl:=(yB.1 hb).1
  rw [yM,if_pos (by omega)]
  exact x.conm b g hb
 row:=fun b e xs sh hb=>by
  have hbl:=(yB.1 hb).1
  obtain ⟨xs',sh',a1,a2,a3⟩:=x.row b e xs sh hb
  exact ⟨xs',sh',by rw [yS,yM,if_pos (by omega),a1];rfl,a2,fun he=>by rw [yM,if_pos (by omega)];exact a3 he⟩
 S_le:=x.S_le
 S_cell:=x.S_cell
 S_new:=x.S_new
 os:=x.os
 tape:=x.tape
 drawn:=x.drawn
 output:=x.output
 size:=x.size
 keep:=x.keep
 new:=fun b k g hb hk=>by
  rw [yM] at hb
  split at hb
  ·exact x.new b k g hb hk
  ·cases hb
theorem zjB (m:Nat) (ts:TS):∀ (live:List Nat) (t:Nat),look (mask live m ts) t=.un\/look (mask live m ts) t=ren (zcr m) (look ts t)
 | [],t=>.inl rfl
 | a::live,t=>by
  simp only [mask,yT,look]
  split
  ·rename_i hb
   have:=yN hb
   subst this
   exact .inr rfl
  ·exact zjB m ts live t
theorem zdE {fn:Func} {R:AV->Heap->Prop} {h0:Heap} {c:Cfg} (live:List Nat) (m:Nat) (hm:h0.length<=m) (hg:Good E fn h0 (cut live m c) R):Good E fn h0 c R:=by
 intro β0 S0 w0 β S w tmps hb0 hn x0 r rt
 obtain ⟨r1,hv⟩:=r.first m
 refine hg β0 S0 w0 (β.take m) S w tmps hb0 hn (x0.first r hm hb0) r1 fun t=>?_
 rcases zjB m c.ts live t with h1|h1
 ·simp only [cut];rw [h1];exact .d _ _ (.un _)
 ·simp only [cut];rw [h1];exact hv _ _ (rt t)
def zpw (tmps:Array Value):ResultVar->Sem Value
 | .tmp t=>pure (tmps.getD t undef)
 | .cell a t=>do loadVar t (← asAddr (tmps.getD a undef))
theorem zpx (fn:Func) (tmps:Array Value):results fn tmps=(do
  let vs ← fn.results.mapM (zpw tmps)
  pure (if h:vs.size=1 then vs[0] else .tuple vs)):=by
 rfl
theorem zyH (ht:zaH E) (r:Rel E h β S w) (rt:zaF E.T h β w S ts tmps) {x:ResultVar} {y:AV} (hx:zpy E ts h x=some y) :
  ∃ v,(zpw tmps x).run E.P w=.ok v w/\RelV E.T h β w S y v:=by
 cases x with
 | tmp t =>
  simp only [zpy,yA] at hx
  subst hx
  exact ⟨_,rfl,rt t⟩
 | cell a t =>
  simp only [zpy] at hx
  have hra:=rt a
  split at hx
  ·rename_i b off hl
   rw [hl] at hra
   split at hx
   ·rename_i cs hb
    split at hx
    ·rename_i res hm hle
     have hle:=yI hle
     simp only [yA] at hx
     subst hx
     obtain ⟨g,vs,t',c1,c2,c3,c4⟩:=r.box b cs hb
     obtain ⟨i,d,z,tok⟩:=ht.at_ (ztt hm)
     generalize hev:tmps.getD a undef=av at hra
     cases hra with
     | d _ _ hd=>cases hd
     | p _ _ g2 hbb =>
      rw [c1] at hbb
      cases hbb
      have hp:PW (RelC E.T h β w S) (cs.drop off) (vs.drop off):=PW.drop ⟨c3,c4⟩ off
      have hrun:=zpB tok w g off ((vs.drop off).take (E.T t).size) (by simp [← c3];omega) (fun j y hj=>by
       rw [yM] at hj
       split at hj
       ·rw [zoi c2,← yX];exact hj
       ·cases hj)
      simp only [Instr.loadAt,Instr.sureAddr,Sem.run_bind,Sem.run_pure,Result.andThen_ok] at hrun
      refine ⟨_,?_,znF hm (hp.take _)⟩
      simp only [zpw,hev,Sem.run_bind,asAddr,Sem.run_pure,Result.andThen_ok,hrun]
    ·cases hx
   ·cases hx
  ·cases hx
theorem zm4 (ht:zaH E) (r:Rel E h β S w) (rt:zaF E.T h β w S ts tmps):∀ (l:List ResultVar) (ys:List AV),ziE E ts h l=some ys ->
  ∃ vs:List Value,(l.mapM (zpw tmps)).run E.P w=.ok vs w/\PW (RelV E.T h β w S) ys vs
 | [],ys,hl=>by
  simp only [ziE,yA] at hl
  subst hl
  exact ⟨[],by simp,PW.nil⟩
 | x::l,ys,hl=>by
  simp only [ziE] at hl
  split at hl
  ·rename_i a b h1 h2
   simp only [yA] at hl
   subst hl
   obtain ⟨v,v1,v2⟩:=zyH ht r rt h1
   obtain ⟨vs,w1,w2⟩:=zm4 ht r rt l b h2
   refine ⟨v::vs,?_,PW.cons v2 w2⟩
   simp only [List.mapM_cons,Sem.run_bind]
   rw [v1]
   simp only [Result.andThen_ok]
   rw [w1]
   simp only [Result.andThen_ok,Sem.run_pure]
  ·cases hl
theorem ztb (ht:zaH E) {fn:Func} {R:AV->Heap->Prop} {h0:Heap} {n:Nat} {k:List It} {ts:TS} {h:Heap} {y:AV} (hv:retV E ts h fn.results.toList=some y) (hR:R y h):Good E fn h0 ⟨n,.code .ret::k,ts,h⟩ R:=by
 intro β0 S0 w0 β S w tmps hb0 hn x0 r rt
 simp only at r rt x0
 simp only [kont,Exit.then]
 refine wp_ret ?_
 have key:∀ v,(results fn tmps).run E.P w=.ok v w->RelV E.T h β w S y v->kont E.P k (bodyPost E.P fn (Post E h0 β0 S0 w0 R)) .ret ⟨tmps,[]⟩ w:=by
  intro v hrun hrel
  have hpost:bodyPost E.P fn (Post E h0 β0 S0 w0 R) .ret ⟨tmps,[]⟩ w:=⟨rfl,v,hrun,y,h,β,S,v,rfl,hR,r,x0,hrel⟩
  have:∀ k:List It,kont E.P k (bodyPost E.P fn (Post E h0 β0 S0 w0 R)) .ret ⟨tmps,[]⟩ w:=by
   intro k
   induction k with
   | nil=>exact hpost
   | cons i k ih=>cases i <;> simp only [kont,Exit.then,Exit.inBlock] <;> exact ih
  exact this k
 unfold retV at hv
 cases ha:ziE E ts h fn.results.toList with
 | none=>simp [ha] at hv
 | some ys =>
  obtain ⟨vs,w1,w2⟩:=zm4 ht r rt _ ys ha
  have hrun:(results fn tmps).run E.P w=.ok (if hh:vs.toArray.size=1 then vs.toArray[0] else .tuple vs.toArray) w:=by
   rw [zpx,Array.mapM_eq_mapM_toList]
   simp only [Sem.run_bind,Sem.run_map]
   rw [w1]
   simp only [Result.andThen_ok,Sem.run_pure]
  rw [ha] at hv
  split at hv
  ·rename_i x hx
   cases hx
   cases hv
   have hvl:=w2.1
   match vs,hvl,w2,hrun with
   | [v],_,w2,hrun =>
    refine key v ?_ w2.uncons.1
    rw [hrun]
    simp
   | [],hvl,_,_=>simp at hvl
   | _::_::_,hvl,_,_=>simp at hvl
  ·rename_i xs hne hx
   cases hx
   cases hv
   refine key (.tuple vs.toArray) ?_ (.tup _ _ w2.1 w2.2)
   rw [hrun,dif_neg]
   intro h1
   have hl:ys.length=1:=by rw [w2.1];simpa using h1
   match ys,hl with
   | [a],_=>exact hne a rfl
  ·rename_i hx
   cases hx
theorem zoI:∀ (l:List AV) (i t:Nat),look (zbV i l) t=if i<=t then (l[t - i]?).getD .un else .un
 | [],i,t=>by simp [zbV,look]
 | x::l,i,t=>by
  simp only [zbV,look]
  split
  ·rename_i hb
   have:=yN hb
   subst this
   simp
  ·rename_i hb
   have hne:i≠t:=by rintro rfl;simp [yAn] at hb
   rw [zoI l (i+1) t]
   by_cases h1:i<=t
   ·rw [if_pos (by omega),if_pos h1,show t - i=(t - (i+1))+1 by omega,yAN]
   ·rw [if_neg (by omega),if_neg h1]
theorem za6 {f : FuncId} {fn : Func} {c : Code} {args : List AV} {h : Heap} {R : AV → Heap → Prop} (hf : E.P.funcs[f]? = some fn) (hb : fn.body = some c) (hname : (fn.name == "runtime.NumGoroutine") = false) (hn : args.length ≤ fn.ntmps)
  (hg:Good E fn h ⟨fn.ntmps,[.code c],zbV 0 args,h⟩ R):zbY E f args h R:=by
 refine fun β S w vs r hp=>.inl ⟨⟨fn,hf,hname,by rw [hb];rfl⟩,?_⟩
 refine calls_of_wp hf hb ?_
 have hl:=hp.1
 have:=hg β S w β S w (vs.toArray++Array.replicate (fn.ntmps - vs.toArray.size) undef) r.len (by simp;omega) (Ext.refl _ _ _ _) r (fun t=>?_)
 ·simp only [kont,Exit.then] at this
  exact this
 ·simp only
  rw [zoI args 0 t]
  simp only [yAh,if_true,Nat.sub_zero]
  by_cases ht:t < args.length
  ·have hv:vs[t]?=some (vs[t]'(by omega)):=yE _
   have hx:args[t]?=some args[t]:=yE ht
   have hgd:(vs.toArray++Array.replicate (fn.ntmps - vs.toArray.size) undef).getD t undef=vs[t]'(by omega):=by
    rw [yAU,Array.getElem?_append_left (by simp;omega)]
    simp [hv]
   rw [hx,hgd]
   exact hp.2 t _ _ hx hv
  ·rw [yAX (by omega)]
   exact .d _ _ (.un _)
theorem zd6 {f:FuncId} {args:List AV} {h:Heap} {R:AV->Heap->Prop} (hc:zbY E f args h (Shut h.length R)):zbY E f args h R:=by
 refine fun β S w vs r hp=>(hc β S w vs r hp).mono ?_
 rintro e w' ⟨y,h',β',S',v,he,⟨ho,hR⟩,r',x',hv⟩
 obtain ⟨S1,⟨e1,r1⟩,d1⟩:=zo4 E y h' β' S' w' v r' hv ho
 obtain ⟨r2,_⟩:=r1.first h.length
 exact ⟨_,_,_,S1,v,he,hR,r2,(x'.trans e1).first r1 (yJ _) r.len,.d _ _ d1⟩
theorem zbY.mono {f:FuncId} {args:List AV} {h:Heap} {R R':AV->Heap->Prop} (hc:zbY E f args h R) (hr:∀ r h,R r h->R' r h):zbY E f args h R':=by
 refine fun β S w vs r hp=>(hc β S w vs r hp).mono ?_
 rintro e w' ⟨y,h',β',S',v,he,hR,r',x',hv⟩
 exact ⟨y,h',β',S',v,he,hr _ _ hR,r',x',hv⟩
end
end Go.AM
namespace Go.AM
def noTI:TI:=⟨.scalar,0,0,[]⟩
def zlP (l:List TI) (t:TypeId):TI:=l.getD t noTI
def TI.isNone (t:TI):Bool:=match t with
 | ⟨.scalar,0,0,[]⟩=>true
 | _=>false
def zni (P:Program) (l:List TI):Nat->Bool
 | 0=>true
 | n+1=>(tiOk P (zlP l) n || (zlP l n).isNone)&&zni P l n
theorem zrc {P:Program} {l:List TI}:∀ (n t:Nat),zni P l n=true->t < n->tiOk P (zlP l) t=true\/zlP l t=⟨.scalar,0,0,[]⟩
 | 0,t,_,ht=>by omega
 | n+1,t,h,ht=>by
  simp only [zni,yR,yAp] at h
  by_cases e:t=n
  ·subst e
   rcases h.1 with h1|h1
   ·exact .inl h1
   ·right
    unfold TI.isNone at h1
    split at h1
    ·rename_i hx;exact hx
    ·cases h1
  ·exact zrc n t h.2 (by omega)
theorem zzY {P:Program} {l:List TI} {G:Nat->Option (List AV)} (h:zni P l l.length=true):zaH ⟨P,zlP l,G⟩:=by
 intro t
 by_cases ht:t < l.length
 ·exact zrc l.length t h ht
 ·right
  have:l[t]?=none:=yAX (Nat.le_of_not_lt ht)
  simp only [zlP,List.getD,this]
  rfl
def fin (E:Env) (fn:Func) (m n:Nat) (c:Cfg) (os:List Orc):Option (List Prop × AV × Heap) :=
 match run E n c os with
 | (q,⟨_,.code .ret::_,ts,h⟩,[])=>match retV E.toEnv0 ts h fn.results.toList with
  | some y=>some ((match frzM y with|[]=>q|_::_=>frzO h y::q),frz h y,((share h (frzM y)).take m).map (zbf (zcr m)))
  | none=>none
 | _=>none
theorem zlt {E:Env0} (ht:zaH E) (hmix:E.P.follows .mixedOrders=true) {fn:Func} {R:AV->Heap->Prop} {h0:Heap} {c:Cfg} (n:Nat) (os:List Orc) {q:List Prop} {y:AV} {H:Heap} {m:Nat}
  (hfin:fin (mk E) fn m n c os=some (q,y,H)) (hq:allP q) (hR:R y H):Good E fn h0 c (Shut m R):=by
 unfold fin at hfin
 split at hfin
 ·rename_i q' n' k ts h' hrun
  split at hfin
  ·rename_i y' hret
   simp only [yA,Prod.mk.injEq] at hfin
   obtain ⟨h1,h2,h3⟩:=hfin
   have hqo:allP q'/\frzO h' y':=by
    split at h1
    ·rename_i hm
     subst h1
     exact ⟨hq,zfx y' hm⟩
    ·subst h1
     obtain ⟨a,b⟩:=zjo hq
     exact ⟨b,a⟩
   refine ziF ht hmix n c os (by rw [hrun];exact hqo.1) ?_
   rw [hrun]
   exact ztb ht hret ⟨hqo.2,by rw [h2,h3];exact hR⟩
  ·cases hfin
 ·cases hfin
theorem zhC {E:Env0} (ht:zaH E) (hmix:E.P.follows .mixedOrders=true) {f:FuncId} {fn:Func} {c:Code} {args:List AV} {h:Heap} {R:AV->Heap->Prop} (hf:E.P.funcs[f]?=some fn) (hb:fn.body=some c)
  (hname : (fn.name == "runtime.NumGoroutine") = false) (hn : Nat.ble args.length fn.ntmps = true) (n : Nat) (os : List Orc) {q : List Prop} {y : AV} {H : Heap}
  (hfin:fin (mk E) fn h.length n ⟨fn.ntmps,[.code c],zbV 0 args,h⟩ os=some (q,y,H)) (hq:allP q) (hR:R y H):zbY E f args h R :=
 zd6 (za6 hf hb hname (yI hn) (zlt ht hmix n os hfin hq hR))
def finK (E:Env) (fn:Func) (n:Nat) (c:Cfg) (os:List Orc):Option (List Prop × AV × Heap) :=
 match run E n c os with
 | (q,⟨_,.code .ret::_,ts,h⟩,[])=>match retV E.toEnv0 ts h fn.results.toList with
  | some y=>some (q,y,h)
  | none=>none
 | _=>none
theorem zqT {E:Env0} (ht:zaH E) (hmix:E.P.follows .mixedOrders=true) {fn:Func} {R:AV->Heap->Prop} {h0:Heap} {c:Cfg} (n:Nat) (os:List Orc) {q:List Prop} {y:AV} {H:Heap}
  (hfin:finK (mk E) fn n c os=some (q,y,H)) (hq:allP q) (hR:R y H):Good E fn h0 c R:=by
 unfold finK at hfin
 split at hfin
 ·rename_i q' n' k ts h' hrun
  split at hfin
  ·rename_i y' hret
   simp only [yA,Prod.mk.injEq] at hfin
   obtain ⟨rfl,rfl,rfl⟩:=hfin
   refine ziF ht hmix n c os (by rw [hrun];exact hq) ?_
   rw [hrun]
   exact ztb ht hret hR
  ·cases hfin
 ·cases hfin
theorem zuj {E:Env0} (ht:zaH E) (hmix:E.P.follows .mixedOrders=true) {f:FuncId} {fn:Func} {c:Code} {args:List AV} {h:Heap} {R:AV->Heap->Prop} (hf:E.P.funcs[f]?=some fn) (hb:fn.body=some c)
  (hname : (fn.name == "runtime.NumGoroutine") = false) (hn : Nat.ble args.length fn.ntmps = true) (n : Nat) (os : List Orc) {q : List Prop} {y : AV} {H : Heap}
  (hfin:finK (mk E) fn n ⟨fn.ntmps,[.code c],zbV 0 args,h⟩ os=some (q,y,H)) (hq:allP q) (hR:R y H):zbY E f args h R :=
 za6 hf hb hname (yI hn) (zqT ht hmix n os hfin hq hR)
theorem znA {E:Env0} (ht:zaH E) (hmix:E.P.follows .mixedOrders=true) {fn:Func} {R:AV->Heap->Prop} {h0:Heap} {c c':Cfg} (n:Nat) (os:List Orc) (live:List Nat) (m:Nat) {q:List Prop}
  (hm:Nat.ble h0.length m=true) (hq0:(run (mk E) n c os).1=q) (hc:cut live m (run (mk E) n c os).2.1=c') (hq:allP q) (hg:Good E fn h0 c' R):Good E fn h0 c R:=by
 subst hq0
 subst hc
 exact ziF ht hmix n c os hq (zdE live m (yI hm) hg)
end Go.AM
namespace Go.AM
open Go.RowKit
def znB (all:List Oper) (o:Oper) (ts:TS):Bool:=match o.guard with
 | none=>true
 | some (j,want)=>match zdG all j with
  | none=>false
  | some d=>match look ts d with
   | .bl b=>b==want
   | _=>false
theorem zrj {E:Env0} {h:Heap} {β:List Con} {S:Addr->Prop} {w:World} {tmps:Array Value} {ts:TS} {o:Oper} {all:List Oper} (rt:zaF E.T h β w S ts tmps) (hg:znB all o ts=true) :
  Region.wanted o (yielded all.toArray tmps)=true:=by
 unfold znB at hg
 unfold Region.wanted
 split at hg
 ·rename_i h1;rw [h1]
 ·rename_i j want h1
  rw [h1]
  simp only
  split at hg
  ·cases hg
  ·rename_i d hd
   have hr:=rt d
   split at hg
   ·rename_i b hl
    rw [hl] at hr
    rw [zez hd hr.bl_inv]
    cases b <;> cases want <;> first|rfl|cases hg
   ·cases hg
def nilAt (E:Env0) (c:Cfg):Option (List (List AV) × Bool):=match c.todo with
 | .ops all (o::_)::_=>match znB all o c.ts&&zaR c.n o.dst,o.op with
  | true,.binOp op t x (.const (.slice none 0 0)) _=>match (E.T t).kind,ev E.G c.ts x,op with
   | .slice _,.sl xs,.eql=>some (xs,true)
   | .slice _,.sl xs,.neq=>some (xs,false)
   | _,_,_=>none
  | _,_=>none
 | _=>none
def zc2 (c:Cfg) (b:Bool):Cfg:=match c.todo with
 | .ops all (o::rest)::k=>⟨c.n,.ops all rest::k,put c.ts o.dst (.v (.bool b)),c.h⟩
 | _=>c
theorem zmn {P:Program} (w:World) {t e:TypeId} (hu:P.underlying t=some (.slice e)) (A:Option Addr) (n c:Nat):(Op.equal t (.slice A n c) (.slice none 0 0)).run P w=.ok A.isNone w:=by
 unfold Op.equal Op.maxDepth
 unfold Op.equalIn
 cases A <;> simp only [Sem.run_bind,run_underlying hu,Result.andThen_ok,Sem.run_pure] <;> rfl
theorem zrF (P:Program) (op:BinOp) (t:TypeId) (x y:Operand) (a b:Option Addr) (n m c d:Nat) (w:World):(eqGuard op t x y (.slice a n c) (.slice b m d)).run P w=.ok () w:=by
 unfold eqGuard
 split <;> rfl
theorem zii {E:Env0} (ht:zaH E) {fn:Func} {h0:Heap} {c:Cfg} {R:AV->Heap->Prop} {xs:List (List AV)} {e:Bool} (hc:nilAt E c=some (xs,e)) (hg:∀ b:Bool,(xs≠[]->b=false)->Good E fn h0 (zc2 c (b==e)) R):Good E fn h0 c R:=by
 intro β0 S0 w0 β S w tmps hb0 hn x0 r rt
 obtain ⟨n,todo,ts,h⟩:=c
 simp only at hn x0 r rt ⊢
 unfold nilAt at hc
 simp only at hc
 split at hc
 ·rename_i all o rest k
  split at hc
  ·rename_i op t x ty hchk hop
   simp only [yR] at hchk
   obtain ⟨hgo,hd⟩:=hchk
   have hx:=zaV (ds:=[]) r rt x
   simp only [kont,Exit.then]
   have fin:∀ (el:TypeId) (hk:(E.T t).kind=.slice el) (he:ev E.G ts x=.sl xs) (hop2:op=if e then .eql else .neq),wpList E.P all.toArray (kont E.P k (bodyPost E.P fn (Post E h0 β0 S0 w0 R))) (o::rest) ⟨tmps,[]⟩ w:=by
    intro el hk he hop2
    rw [he] at hx
    obtain ⟨ti,dd,z,tok⟩:=ht.at_ (zax (by rw [hk];simp):E.T t≠_)
    obtain ⟨rfl,_⟩:=tok.slice_ hk
    refine wpList_step fun K hK=>?_
    rw [if_pos (zrj rt hgo)]
    generalize hev:Act.eval ⟨tmps,[]⟩ x=y at hx
    cases hx with
    | d _ _ hd1=>cases hd1 with
     | sl _ A cap gg off size f f1 f2 f3 f4 f5 f6 =>
      have hrun:(execOp (Act.eval ⟨tmps,[]⟩) o).run E.P w=.ok (.value (.bool (A.isNone==e))) w:=by
       have h1:=zrF E.P op t x (.const (.slice none 0 0)) A none xs.length 0 cap 0 w
       have h2:=zmn (P:=E.P) w tok.und A xs.length cap
       have hcst:Act.eval ⟨tmps,[]⟩ (.const (.slice none 0 0))=.slice none 0 0:=rfl
       cases e
       ·simp only [Bool.false_eq_true,if_false] at hop2
        subst hop2
        simp only [execOp,hop,hev,hcst,Sem.run_bind,h1,Result.andThen_ok,binOp,h2,Sem.run_pure]
        cases A.isNone <;> rfl
       ·simp only [if_true] at hop2
        subst hop2
        simp only [execOp,hop,hev,hcst,Sem.run_bind,h1,Result.andThen_ok,binOp,h2,Sem.run_pure]
        cases A.isNone <;> rfl
      unfold Oper.wp
      rw [hrun,Oper.upon_value,zb3]
      refine hK _ _ ?_
      have:=hg A.isNone (fun hne=>by rw [f1 hne];rfl) β0 S0 w0 β S w (Act.put ⟨tmps,[]⟩ o.dst (.bool (A.isNone==e))).tmps hb0 (by simp only [zc2];rw [zcz];exact hn) x0 r (rt.put (by rw [hn];exact hd) (zcF _))
      simp only [zc2,kont,Exit.then] at this
      exact this
   split at hc
   ·rename_i el xs' hk he
    simp only [yA,Prod.mk.injEq] at hc
    obtain ⟨rfl,rfl⟩:=hc
    exact fin el hk he rfl
   ·rename_i el xs' hk he
    simp only [yA,Prod.mk.injEq] at hc
    obtain ⟨rfl,rfl⟩:=hc
    exact fin el hk he rfl
   ·cases hc
  ·cases hc
 ·cases hc
def ziN (c:Cfg):Cfg:=match c.todo with
 | .lp b::k=>⟨c.n,.code b::.lp b::k,c.ts,c.h⟩
 | _=>c
theorem zaa {E:Env0} {fn:Func} {h0:Heap} {c:Cfg} {R:AV->Heap->Prop} (hg:Good E fn h0 (ziN c) R):Good E fn h0 c R:=by
 unfold ziN at hg
 split at hg
 ·rename_i b k hk
  obtain ⟨n,todo,ts,h⟩:=c
  simp only at hk
  subst hk
  exact zwO hg
 ·exact hg
noncomputable def zai (fn:Func) (j:Nat) (ts:TS) (h:Heap):Cfg:=⟨fn.ntmps,(zjr (fn.body.getD .skip) []).getD j [],ts,h⟩
theorem zxJ {E:Env0} (ht:zaH E) (hmix:E.P.follows .mixedOrders=true) {f:FuncId} {fn:Func} {c:Code} {args:List AV} {h:Heap} {R:AV->Heap->Prop} (hf:E.P.funcs[f]?=some fn) (hb:fn.body=some c)
  (hname : (fn.name == "runtime.NumGoroutine") = false) (hn : Nat.ble args.length fn.ntmps = true) (n : Nat) (os : List Orc) (live : List Nat) (m : Nat) {q : List Prop} {c' : Cfg} (hm : Nat.ble h.length m = true)
  (hq0:(run (mk E) n ⟨fn.ntmps,[.code c],zbV 0 args,h⟩ os).1=q) (hc:cut live m (run (mk E) n ⟨fn.ntmps,[.code c],zbV 0 args,h⟩ os).2.1=c') (hq:allP q) (hg:Good E fn h c' (Shut h.length R)):zbY E f args h R :=
 zd6 (za6 hf hb hname (yI hn) (znA ht hmix n os live m hm hq0 hc hq hg))
end Go.AM
