/-
  Contracts of the program's functions, part 1.
-/
import Derived.Test.YtenlehhclknogaaGreatDoorApA
import Derived.Laws.Append
import Derived.Scope
import Derived.Test.YtenlehhclknogaaGreatDoorProg
import Derived.KernelRfl
import Derived.Laws.StructEq
set_option linter.unusedSimpArgs false
set_option linter.unusedVariables false
namespace Go.AM
theorem kr {p : Prop} (h : p := by kernel_rfl) : p := h
open Go.RowKit
set_option linter.unusedSimpArgs false
set_option linter.unusedVariables false
theorem zgL:∀ (l:List Nat) (b i:Nat),idx l b=some i→l[i]?=some b
 | [],b,i,h=>by cases h
 | x::r,b,i,h=>by
  unfold idx at h
  split at h
  ·rename_i hx
   cases h
   have:=Nat.eq_of_beq_eq_true hx
   simp [this]
  ·cases hi:idx r b with
   | none=>simp [hi] at h
   | some k =>
    simp only [hi,Option.map_some,Option.some.injEq] at h
    subst h
    simpa using zgL r b k hi
theorem zkP:∀ (l:List Nat) (b:Nat),idx l b=none→b ∉ l
 | [],b,_=>by simp
 | x::r,b,h=>by
  unfold idx at h
  split at h
  ·cases h
  ·rename_i hx
   cases hi:idx r b with
   | some k=>simp [hi] at h
   | none =>
    have hne:x≠b:=by rintro rfl;simp [Nat.beq_refl] at hx
    simp only [List.mem_cons,not_or]
    exact ⟨Ne.symm hne,zkP r b hi⟩
theorem zio:∀ (l:List Nat),ziW l=true→l.Nodup
 | [],_=>by simp
 | x::r,h=>by
  simp only [ziW,Bool.and_eq_true] at h
  refine List.nodup_cons.2 ⟨?_,zio r h.2⟩
  cases hi:idx r x with
  | none=>exact zkP r x hi
  | some k=>simp [hi] at h
theorem zhV {l:List Nat} (hd:l.Nodup) {b i:Nat} (h:l[i]?=some b):idx l b=some i:=by
 cases hi:idx l b with
 | none=>exact absurd (List.mem_of_getElem? h) (zkP l b hi)
 | some k =>
  have h2:=zgL l b k hi
  have hil:=(List.getElem?_eq_some_iff.1 h).1
  have hkl:=(List.getElem?_eq_some_iff.1 h2).1
  have e1:=(List.getElem?_eq_some_iff.1 h).2
  have e2:=(List.getElem?_eq_some_iff.1 h2).2
  have:=(List.getElem_inj (h₀:=hil) (h₁:=hkl) hd).1 (e1.trans e2.symm)
  rw [this]
theorem zf6 {α:Type}:∀ (lend:List Nat) (ys l:List α),(zcF l lend ys).length=l.length
 | [],ys,l=>by simp [zcF]
 | b::r,[],l=>by simp [zcF]
 | b::r,y::ys,l=>by simp [zcF,zf6 r ys]
theorem zeK {α:Type}:∀ (lend:List Nat) (ys l:List α),lend.Nodup→lend.length=ys.length→(∀ b∈lend,b < l.length)→∀ b,(zcF l lend ys)[b]?=match idx lend b with
  | some i=>ys[i]?
  | none=>l[b]?
 | [],ys,l,_,_,_,b=>by simp [zcF,idx]
 | c::r,[],l,_,hl,_,b=>by simp at hl
 | c::r,y::ys,l,hd,hl,hlt,b=>by
  obtain ⟨h1,h2⟩:=List.nodup_cons.1 hd
  simp only [zcF]
  rw [zeK r ys (l.set c y) h2 (by simpa using hl) (fun b hb=>by simpa using hlt b (by simp [hb])) b]
  by_cases e:c=b
  ·subst e
   have hi:idx r c=none:=by
    cases hi:idx r c with
    | none=>rfl
    | some k=>exact absurd (List.mem_of_getElem? (zgL r c k hi)) h1
   simp only [hi,idx,Nat.beq_refl]
   rw [List.getElem?_set_self (hlt c (by simp))]
   rfl
  ·have hb:Nat.beq c b=false:=by
    cases hh:Nat.beq c b with
    | false=>rfl
    | true=>exact absurd (Nat.eq_of_beq_eq_true hh) e
   simp only [idx,hb]
   cases hi:idx r b with
   | none=>simp only [Option.map_none];rw [List.getElem?_set_ne e]
   | some k=>simp
theorem zj9 {lend:List Nat} {h:Heap}:∀ (l:List Nat) (hl:Heap),zkh lend h l=some hl→hl.length=l.length∧∀ (i b:Nat),l[i]?=some b→∃ x,h[b]?=some x∧hl[i]?=some (zbB (idx lend) x)
 | [],hl,he=>by cases he;simp
 | c::r,hl,he=>by
  unfold zkh at he
  split at he
  ·rename_i x y hx hy
   cases he
   obtain ⟨h1,h2⟩:=zj9 r y hy
   refine ⟨by simp [h1],fun i b hi=>?_⟩
   cases i with
   | zero=>simp only [List.getElem?_cons_zero,Option.some.injEq] at hi;subst hi;exact ⟨x,hx,rfl⟩
   | succ i=>simp only [List.getElem?_cons_succ] at hi;simpa using h2 i b hi
  ·cases he
mutual
theorem zfr {T:TypeId→TI} {h h':Heap} {β β':List Con} {w:World} {S:Addr→Prop} {σ:Nat→Option Nat} (hσ:∀ b i,σ b=some i→β'[i]?=β[b]?∧∀ e xs sh,h[b]?=some (.row e xs sh)→h'[i]?=some (.row e xs sh)) :
  ∀ (x:AV) (y:Value),RelV T h β w S x y→RelV T h' β' w S (ren σ x) y
 | .un,y,_=>by simp only [ren];exact .d _ _ (.un y)
 | .v _,y,hr=>by simp only [ren];exact .d _ _ (zdg hr trivial)
 | .bl _,y,hr=>by simp only [ren];exact .d _ _ (zdg hr trivial)
 | .sl _,y,hr=>by simp only [ren];exact .d _ _ (zdg hr trivial)
 | .dp _,y,hr=>by simp only [ren];exact .d _ _ (zdg hr trivial)
 | .nl,y,hr=>by
  simp only [ren]
  cases hr with
  | d _ _ hd=>cases hd
  | nl a=>exact .nl a
 | .p b off,y,hr=>by
  simp only [ren]
  split
  ·rename_i i hi
   cases hr with
   | d _ _ hd=>cases hd
   | p _ _ g hb=>exact .p _ _ g (by rw [(hσ b i hi).1];exact hb)
  ·exact .d _ _ (.un y)
 | .own b n,y,hr=>by
  simp only [ren]
  split
  ·rename_i i hi
   cases hr with
   | d _ _ hd=>cases hd
   | own _ _ _ e xs sh hb hn hy ho=>exact .own _ _ _ e xs sh ((hσ b i hi).2 e xs sh hb) hn (fun he=>by rw [(hσ b i hi).1];exact hy he) ho
  ·exact .d _ _ (.un y)
 | .ep b n k off,y,hr=>by
  simp only [ren]
  split
  ·rename_i i hi
   cases hr with
   | d _ _ hd=>cases hd
   | ep _ _ _ _ g e xs sh hb hn hy=>exact .ep _ _ _ _ g e xs sh ((hσ b i hi).2 e xs sh hb) hn (fun he=>by rw [(hσ b i hi).1];exact hy he)
  ·exact .d _ _ (.un y)
 | .os b n lo hi,y,hr=>by
  simp only [ren]
  split
  ·rename_i i hi
   cases hr with
   | d _ _ hd=>cases hd
   | os _ _ _ _ _ e xs sh hb hn hl hh ho hy=>exact .os _ _ _ _ _ e xs sh ((hσ b i hi).2 e xs sh hb) hn hl hh ho (fun he=>by rw [(hσ b i hi).1];exact hy he)
  ·exact .d _ _ (.un y)
 | .agg cs,y,hr=>by
  obtain ⟨vs,rfl,hl,ho,hv⟩:=hr.agg_inv
  simp only [ren]
  obtain ⟨h1,h2⟩:=zen hσ cs vs hl hv
  exact .agg _ _ h1 ho h2
 | .tup cs,y,hr=>by
  obtain ⟨vs,rfl,hl,hv⟩:=hr.tup_inv
  simp only [ren]
  obtain ⟨h1,h2⟩:=zen hσ cs vs hl hv
  exact .tup _ _ h1 h2
 | .fn f caps,y,hr=>by
  simp only [ren]
  cases hr with
  | d _ _ hd=>cases hd
  | fn _ _ vs hl hv =>
   obtain ⟨h1,h2⟩:=zen hσ caps vs hl hv
   exact .fn f _ _ h1 h2
theorem zen {T:TypeId→TI} {h h':Heap} {β β':List Con} {w:World} {S:Addr→Prop} {σ:Nat→Option Nat} (hσ:∀ b i,σ b=some i→β'[i]?=β[b]?∧∀ e xs sh,h[b]?=some (.row e xs sh)→h'[i]?=some (.row e xs sh)) :
  ∀ (l:List AV) (vs:List Value),l.length=vs.length→(∀ (i:Nat) (x:AV) (y:Value),l[i]?=some x→vs[i]?=some y→RelV T h β w S x y) →
   (renL σ l).length=vs.length∧∀ (i:Nat) (x:AV) (y:Value),(renL σ l)[i]?=some x→vs[i]?=some y→RelV T h' β' w S x y
 | [],vs,hl,_=>⟨by simpa [renL] using hl,by simp [renL]⟩
 | x::l,[],hl,_=>by simp at hl
 | x::l,v::vs,hl,hv=>by
  obtain ⟨h1,h2⟩:=zen hσ l vs (by simpa using hl) (fun i a b ha hb=>hv (i+1) a b (by simpa using ha) (by simpa using hb))
  refine ⟨by simp [renL,h1],fun i a b ha hb=>?_⟩
  cases i with
  | zero =>
   simp only [renL,List.getElem?_cons_zero,Option.some.injEq] at ha hb
   subst ha;subst hb
   exact zfr hσ x v (hv 0 x v rfl rfl)
  | succ i =>
   simp only [renL,List.getElem?_cons_succ] at ha hb
   exact h2 i a b ha hb
end
theorem ziM {σ:Nat→Option Nat} {x:Blk} {e:TypeId} {xs:List (List AV)} {sh:Bool} (h:zbB σ x=.row e xs sh):x=.row e xs sh:=by
 cases x with
 | box cs=>cases h
 | row e' xs' sh'=>exact h
theorem ziv {σ:Nat→Option Nat} {x:Blk} {cs:List AV} (h:zbB σ x=.box cs):∃ ds,x=.box ds∧cs=renL σ ds:=by
 cases x with
 | box ds=>simp only [zbB,Blk.box.injEq] at h;exact ⟨ds,rfl,h.symm⟩
 | row e' xs' sh'=>cases h
section
variable {E : Env0} {h : Heap} {β : List Con} {S : Addr → Prop} {w : World}
def zcP (β:List Con) (lend:List Nat):List Con:=lend.map fun b=>(β[b]?).getD (.nil none)
theorem zj1 (β:List Con) (lend:List Nat) {i b:Nat} (hi:lend[i]?=some b) (hb:b < β.length):(zcP β lend)[i]?=β[b]?:=by
 simp [zcP,hi,List.getElem?_eq_getElem hb]
theorem Rel.lend (r:Rel E h β S w) {lend:List Nat} (hd:lend.Nodup) {hl:Heap} (hh:zkh lend h lend=some hl) :
  Rel E hl (zcP β lend) S w∧(∀ (b i:Nat),idx lend b=some i→(zcP β lend)[i]?=β[b]?∧∀ e xs sh,h[b]?=some (.row e xs sh)→hl[i]?=some (.row e xs sh)):=by
 obtain ⟨hlen,hget⟩:=zj9 lend hl hh
 have hlt:∀ (i b:Nat),lend[i]?=some b→b < β.length:=fun i b hi=>by
  obtain ⟨x,hx,_⟩:=hget i b hi
  rw [r.len]
  exact (List.getElem?_eq_some_iff.1 hx).1
 have hσ:∀ (b i:Nat),idx lend b=some i→(zcP β lend)[i]?=β[b]?∧∀ e xs sh,h[b]?=some (.row e xs sh)→hl[i]?=some (.row e xs sh):=by
  intro b i hi
  have hli:=zgL lend b i hi
  refine ⟨zj1 β lend hli (hlt i b hli),fun e xs sh hb=>?_⟩
  obtain ⟨x,hx,hx2⟩:=hget i b hli
  rw [hb] at hx
  cases hx
  exact hx2
 have src:∀ (i:Nat) (x:Blk),hl[i]?=some x→∃ b y,lend[i]?=some b∧h[b]?=some y∧x=zbB (idx lend) y∧(zcP β lend)[i]?=β[b]?:=by
  intro i x hx
  have hil:i < lend.length:=by rw [← hlen];exact (List.getElem?_eq_some_iff.1 hx).1
  have hli:lend[i]?=some lend[i]:=List.getElem?_eq_getElem hil
  obtain ⟨y,hy,hy2⟩:=hget i _ hli
  rw [hx] at hy2
  cases hy2
  exact ⟨_,y,hli,hy,rfl,zj1 β lend hli (hlt i _ hli)⟩
 have srcB:∀ (i:Nat) (k:Con),(zcP β lend)[i]?=some k→∃ b,lend[i]?=some b∧β[b]?=some k:=by
  intro i k hk
  have hil:i < lend.length:=by have:=(List.getElem?_eq_some_iff.1 hk).1;simpa [zcP] using this
  have hli:lend[i]?=some lend[i]:=List.getElem?_eq_getElem hil
  exact ⟨_,hli,by rw [← zj1 β lend hli (hlt i _ hli)];exact hk⟩
 refine ⟨{
  len:=by simp [zcP,hlen]
  box:=fun i cs hi=>?_
  row:=fun i e xs sh hi=>?_
  apart:=fun i i' k k' g hi hi' hk hk'=>?_
  lt:=fun i k g hi hk=>?_
  stable:=r.stable
  free:=fun i k g a hi hk ha hag=>?_
  glob:=r.glob },hσ⟩
 ·obtain ⟨b,y,h1,h2,h3,h4⟩:=src i _ hi
  obtain ⟨ds,rfl,rfl⟩:=ziv h3.symm
  obtain ⟨g,vs,t,c1,c2,c3,c4⟩:=r.box b ds h2
  obtain ⟨q1,q2⟩:=zen (T:=E.T) (w:=w) (S:=S) hσ ds vs c3 (fun i x y hx hy=>(c4 i x y hx hy).1)
  refine ⟨g,vs,t,h4.trans c1,c2,q1,fun j x y hx hy=>⟨q2 j x y hx hy,?_⟩⟩
  have hjl:j < ds.length:=by rw [c3];exact (List.getElem?_eq_some_iff.1 hy).1
  exact (c4 j _ y (List.getElem?_eq_getElem hjl) hy).2
 ·obtain ⟨b,y,h1,h2,h3,h4⟩:=src i _ hi
  have:=ziM h3.symm
  subst this
  obtain ⟨k,c1,c2⟩:=r.row b e xs sh h2
  exact ⟨k,h4.trans c1,c2⟩
 ·obtain ⟨b,h1,h2⟩:=srcB i k hi
  obtain ⟨b',h1',h2'⟩:=srcB i' k' hi'
  have hbb:=r.apart b b' k k' g h2 h2' hk hk'
  subst hbb
  have e1:=zhV hd h1
  have e2:=zhV hd h1'
  rw [e1] at e2
  cases e2
  rfl
 ·obtain ⟨b,h1,h2⟩:=srcB i k hi
  exact r.lt b k g h2 hk
 ·obtain ⟨b,h1,h2⟩:=srcB i k hi
  obtain ⟨e,xs,c1,c2⟩:=r.free b k g a h2 hk ha hag
  exact ⟨e,xs,(hσ b i (zhV hd h1)).2 e xs true c1,c2⟩
theorem Rel.takeBack (r:Rel E h β S w) {lend:List Nat} (hd:lend.Nodup) {hl:Heap} (hh:zkh lend h lend=some hl) {h':Heap} {β':List Con} {S':Addr→Prop} {w':World}
  (r':Rel E h' β' S' w') (x':Ext hl (zcP β lend) S w h' β' S' w') (hm:lend.length≤h'.length) :
  let τ:=back lend h.length
  let H:=zcF h lend ((h'.take lend.length).map (zbB τ))++(h'.drop lend.length).map (zbB τ)
  let B:=zcF β lend (β'.take lend.length)++β'.drop lend.length
  Ext h β S w H B S' w'∧Rel E H B S' w'∧∀ (x:AV) (y:Value),RelV E.T h' β' w' S' x y→RelV E.T H B w' S' (ren τ x) y:=by
 intro τ H B
 obtain ⟨hlen,hget⟩:=zj9 lend hl hh
 obtain ⟨_,hσ⟩:=r.lend hd hh
 have hltb:∀ b∈lend,b < h.length:=fun b hb=>by
  obtain ⟨i,hi⟩:=List.getElem?_of_mem hb
  obtain ⟨x,hx,_⟩:=hget i b hi
  exact (List.getElem?_eq_some_iff.1 hx).1
 have hlB:∀ b∈lend,b < β.length:=fun b hb=>by rw [r.len];exact hltb b hb
 have hHl:(zcF h lend ((h'.take lend.length).map (zbB τ))).length=h.length:=zf6 _ _ _
 have hBl:(zcF β lend (β'.take lend.length)).length=h.length:=by rw [zf6,r.len]
 have hβ':β'.length=h'.length:=r'.len
 have hH1:∀ (b i:Nat),lend[i]?=some b→H[b]?=(h'[i]?).map (zbB τ)∧B[b]?=β'[i]?:=by
  intro b i hi
  have hil:i < lend.length:=(List.getElem?_eq_some_iff.1 hi).1
  have hb:=hltb b (List.mem_of_getElem? hi)
  simp only [H,B]
  rw [List.getElem?_append_left (by rw [hHl];exact hb),List.getElem?_append_left (by rw [hBl];exact hb),
   zeK lend _ h hd (by simp;omega) hltb b,zeK lend _ β hd (by simp;omega) hlB b,zhV hd hi]
  simp [List.getElem?_take,hil]
 have hH2:∀ b,b < h.length→b ∉ lend→H[b]?=h[b]?∧B[b]?=β[b]?:=by
  intro b hb hn
  have hi:idx lend b=none:=by
   cases hi:idx lend b with
   | none=>rfl
   | some k=>exact absurd (List.mem_of_getElem? (zgL lend b k hi)) hn
  simp only [H,B]
  rw [List.getElem?_append_left (by rw [hHl];exact hb),List.getElem?_append_left (by rw [hBl];exact hb),
   zeK lend _ h hd (by simp;omega) hltb b,zeK lend _ β hd (by simp;omega) hlB b,hi]
  exact ⟨rfl,rfl⟩
 have hH3:∀ j:Nat,H[h.length+j]?=(h'[lend.length+j]?).map (zbB τ)∧B[h.length+j]?=β'[lend.length+j]?:=by
  intro j
  simp only [H,B]
  rw [List.getElem?_append_right (by rw [hHl];omega),List.getElem?_append_right (by rw [hBl];omega),hHl,hBl,Nat.add_sub_cancel_left,List.getElem?_map,List.getElem?_drop,List.getElem?_drop]
  exact ⟨rfl,rfl⟩
 have kind:∀ b:Nat,(∃ i:Nat,τ i=some b∧H[b]?=(h'[i]?).map (zbB τ)∧B[b]?=β'[i]?∧((lend[i]?=some b)∨(lend.length≤i∧h.length≤b)))∨(b < h.length∧b ∉ lend∧H[b]?=h[b]?∧B[b]?=β[b]?):=by
  intro b
  by_cases hb:b < h.length
  ·by_cases hm':b∈lend
   ·obtain ⟨i,hi⟩:=List.getElem?_of_mem hm'
    obtain ⟨q1,q2⟩:=hH1 b i hi
    exact .inl ⟨i,by simp [τ,back,hi],q1,q2,.inl hi⟩
   ·obtain ⟨q1,q2⟩:=hH2 b hb hm'
    exact .inr ⟨hb,hm',q1,q2⟩
  ·obtain ⟨q1,q2⟩:=hH3 (b - h.length)
   have e1:h.length+(b - h.length)=b:=by omega
   rw [e1] at q1 q2
   refine .inl ⟨lend.length+(b - h.length),?_,q1,q2,.inr ⟨by omega,by omega⟩⟩
   have hnone:lend[lend.length+(b - h.length)]?=none:=List.getElem?_eq_none (by omega)
   simp only [τ,back,hnone,Option.some.injEq]
   omega
 have tau:∀ (i b:Nat),τ i=some b→H[b]?=(h'[i]?).map (zbB τ)∧B[b]?=β'[i]?:=by
  intro i b hb
  simp only [τ,back] at hb
  split at hb
  ·rename_i c hc
   cases hb
   exact hH1 b i hc
  ·rename_i hn
   have hi:lend.length≤i:=by
    rcases Nat.lt_or_ge i lend.length with h1|h1
    ·rw [List.getElem?_eq_getElem h1] at hn;cases hn
    ·exact h1
   cases hb
   have:=hH3 (i - lend.length)
   rwa [show lend.length+(i - lend.length)=i by omega] at this
 have hrow':∀ (i b:Nat) e xs sh,τ i=some b→h'[i]?=some (.row e xs sh)→H[b]?=some (.row e xs sh):=by
  intro i b e xs sh hb hi
  rw [(tau i b hb).1,hi]
  rfl
 have trans:∀ (x:AV) (y:Value),RelV E.T h' β' w' S' x y→RelV E.T H B w' S' (ren τ x) y :=
  zfr (fun i b hb=>⟨(tau i b hb).2,fun e xs sh hi=>hrow' i b e xs sh hb hi⟩)
 have hlow:∀ (i b:Nat),lend[i]?=some b→(zcP β lend)[i]?=β[b]?:=fun i b hi=>(hσ b i (zhV hd hi)).1
 have ext:Ext h β S w H B S' w':={
  box:=fun b cs hb=>by
   have hbl:=(List.getElem?_eq_some_iff.1 hb).1
   by_cases hm':b∈lend
   ·obtain ⟨i,hi⟩:=List.getElem?_of_mem hm'
    obtain ⟨x,hx,hx2⟩:=hget i b hi
    rw [hb] at hx
    cases hx
    obtain ⟨cs',hc'⟩:=x'.box i _ hx2
    exact ⟨renL τ cs',by rw [(hH1 b i hi).1,hc'];rfl⟩
   ·exact ⟨cs,by rw [(hH2 b hbl hm').1];exact hb⟩
  con:=fun b g hb=>by
   have hbl:b < h.length:=by rw [← r.len];exact (List.getElem?_eq_some_iff.1 hb).1
   by_cases hm':b∈lend
   ·obtain ⟨i,hi⟩:=List.getElem?_of_mem hm'
    rw [(hH1 b i hi).2]
    exact x'.con i g (by rw [hlow i b hi];exact hb)
   ·rw [(hH2 b hbl hm').2];exact hb
  row:=fun b e xs sh hb=>by
   have hbl:=(List.getElem?_eq_some_iff.1 hb).1
   by_cases hm':b∈lend
   ·obtain ⟨i,hi⟩:=List.getElem?_of_mem hm'
    obtain ⟨xs',sh',a1,a2,a3⟩:=x'.row i e xs sh ((hσ b i (zhV hd hi)).2 e xs sh hb)
    refine ⟨xs',sh',by rw [(hH1 b i hi).1,a1];rfl,a2,fun he=>?_⟩
    rw [(hH1 b i hi).2,a3 he,hlow i b hi]
   ·exact ⟨xs,sh,by rw [(hH2 b hbl hm').1];exact hb,Nat.le_refl _,fun _=>(hH2 b hbl hm').2⟩
  S_le:=x'.S_le
  S_cell:=x'.S_cell
  S_new:=fun a ha=>by
   rcases x'.S_new a ha with h1|h1|⟨i,k,h1,h2⟩
   ·exact .inl h1
   ·exact .inr (.inl h1)
   ·have hil:i < lend.length:=by have:=(List.getElem?_eq_some_iff.1 h1).1;simpa [zcP] using this
    have hli:lend[i]?=some lend[i]:=List.getElem?_eq_getElem hil
    exact .inr (.inr ⟨_,k,by rw [← hlow i _ hli];exact h1,h2⟩)
  os:=x'.os
  tape:=x'.tape
  output:=x'.output
  size:=x'.size
  keep:=fun g hg hne=>x'.keep g hg fun i k h1 h2=>by
   have hil:i < lend.length:=by have:=(List.getElem?_eq_some_iff.1 h1).1;simpa [zcP] using this
   have hli:lend[i]?=some lend[i]:=List.getElem?_eq_getElem hil
   exact hne _ k (by rw [← hlow i _ hli];exact h1) h2
  new:=fun b k g hb hk=>by
   rcases kind b with ⟨i,t1,t2,t3,t4⟩|⟨hb1,hb2,hb3,hb4⟩
   ·rw [t3] at hb
    rcases x'.new i k g hb hk with ⟨i',k',c1,c2,rfl⟩|c
    ·have hil:i' < lend.length:=by have:=(List.getElem?_eq_some_iff.1 c1).1;simpa [zcP] using this
     rcases t4 with t4|t4
     ·exact .inl ⟨b,k',by rw [← hlow i' b t4];exact c1,c2,rfl⟩
     ·omega
    ·exact .inr c
   ·rw [hb4] at hb
    exact .inl ⟨b,k,hb,hk,rfl⟩ }
 have oldg:∀ (b:Nat) (k:Con) (g:Nat),b ∉ lend→β[b]?=some k→k.blk=some g→∀ (i:Nat) (k':Con),(zcP β lend)[i]?=some k'→k'.blk≠some g:=by
  intro b k g hbn hb hk i k' h1 h2
  have hil:i < lend.length:=by have:=(List.getElem?_eq_some_iff.1 h1).1;simpa [zcP] using this
  have hli:lend[i]?=some lend[i]:=List.getElem?_eq_getElem hil
  rw [hlow i _ hli] at h1
  have:=r.apart b _ k k' g hb h1 hk h2
  exact hbn (by rw [this];exact List.mem_of_getElem? hli)
 refine ⟨ext,{
  len:=by simp only [H,B,List.length_append,hHl,hBl,List.length_map,List.length_drop,hβ']
  box:=fun b cs hb=>?_
  row:=fun b e xs sh hb=>?_
  apart:=fun b b' k k' g hb hb' hk hk'=>?_
  lt:=fun b k g hb hk=>?_
  stable:=r'.stable
  free:=fun b k g a hb hk ha hag=>?_
  glob:=r'.glob },trans⟩
 ·rcases kind b with ⟨i,t1,t2,t3,t4⟩|⟨hb1,hb2,hb3,hb4⟩
  ·rw [t2] at hb
   cases hi:h'[i]? with
   | none=>simp [hi] at hb
   | some x =>
    simp only [hi,Option.map_some,Option.some.injEq] at hb
    obtain ⟨ds,rfl,rfl⟩:=ziv hb
    obtain ⟨g,vs,t,c1,c2,c3,c4⟩:=r'.box i ds hi
    obtain ⟨q1,q2⟩:=zen (T:=E.T) (w:=w') (S:=S') (fun i b hb=>⟨(tau i b hb).2,fun e xs sh hi=>hrow' i b e xs sh hb hi⟩) ds vs c3 (fun i x y hx hy=>(c4 i x y hx hy).1)
    refine ⟨g,vs,t,t3.trans c1,c2,q1,fun j x y hx hy=>⟨q2 j x y hx hy,?_⟩⟩
    have hjl:j < ds.length:=by rw [c3];exact (List.getElem?_eq_some_iff.1 hy).1
    exact (c4 j _ y (List.getElem?_eq_getElem hjl) hy).2
  ·rw [hb3] at hb
   obtain ⟨g,vs,t,c1,c2,c3,c4⟩:=r.box b cs hb
   refine ⟨g,vs,t,hb4.trans c1,?_,c3,fun i x y hx hy=>⟨(c4 i x y hx hy).1.ext ext,(c4 i x y hx hy).2⟩⟩
   rw [x'.keep g (r.lt b _ g c1 rfl) (oldg b _ g hb2 c1 rfl)]
   exact c2
 ·rcases kind b with ⟨i,t1,t2,t3,t4⟩|⟨hb1,hb2,hb3,hb4⟩
  ·rw [t2] at hb
   cases hi:h'[i]? with
   | none=>simp [hi] at hb
   | some x =>
    simp only [hi,Option.map_some,Option.some.injEq] at hb
    have:=ziM hb
    subst this
    obtain ⟨k,c1,c2⟩:=r'.row i e xs sh hi
    exact ⟨k,t3.trans c1,c2⟩
  ·rw [hb3] at hb
   obtain ⟨k,c1,c2⟩:=r.row b e xs sh hb
   exact ⟨k,hb4.trans c1,c2.ext x'.S_le x'.S_cell fun g hg=>x'.keep g (r.lt b k g c1 hg) (oldg b k g hb2 c1 hg)⟩
 ·rcases kind b with ⟨i,t1,t2,t3,t4⟩|⟨hb1,hb2,hb3,hb4⟩ <;> rcases kind b' with ⟨i',t1',t2',t3',t4'⟩|⟨hb1',hb2',hb3',hb4'⟩
  ·rw [t3] at hb
   rw [t3'] at hb'
   have:=r'.apart i i' k k' g hb hb' hk hk'
   subst this
   rw [t1] at t1'
   cases t1'
   rfl
  ·rw [t3] at hb
   rw [hb4'] at hb'
   rcases x'.new i k g hb hk with ⟨i2,k2,c1,c2,_⟩|c
   ·exact absurd c2 (oldg b' k' g hb2' hb' hk' i2 k2 c1)
   ·have:=r.lt b' k' g hb' hk'
    omega
  ·rw [hb4] at hb
   rw [t3'] at hb'
   rcases x'.new i' k' g hb' hk' with ⟨i2,k2,c1,c2,_⟩|c
   ·exact absurd c2 (oldg b k g hb2 hb hk i2 k2 c1)
   ·have:=r.lt b k g hb hk
    omega
  ·rw [hb4] at hb
   rw [hb4'] at hb'
   exact r.apart b b' k k' g hb hb' hk hk'
 ·rcases kind b with ⟨i,t1,t2,t3,t4⟩|⟨hb1,hb2,hb3,hb4⟩
  ·rw [t3] at hb
   exact r'.lt i k g hb hk
  ·rw [hb4] at hb
   exact Nat.lt_of_lt_of_le (r.lt b k g hb hk) x'.size
 ·rcases kind b with ⟨i,t1,t2,t3,t4⟩|⟨hb1,hb2,hb3,hb4⟩
  ·rw [t3] at hb
   obtain ⟨e,xs,c1,c2⟩:=r'.free i k g a hb hk ha hag
   exact ⟨e,xs,hrow' i b e xs true t1 c1,c2⟩
  ·rw [hb4] at hb
   rcases x'.S_new a ha with c|c|⟨i,k',c1,c2⟩
   ·obtain ⟨e,xs,d1,d2⟩:=r.free b k g a hb hk c hag
    exact ⟨e,xs,hb3.trans d1,d2⟩
   ·have:=r.lt b k g hb hk
    omega
   ·exact absurd (hag ▸ c2) (oldg b k g hb2 hb hk i k' c1)
variable {tmps : Array Value} {ts : TS} {K : Act → World → Prop} {Q : Exit → Act → World → Prop} {o : Oper} {os : List Orc} {out : Out}
theorem zra {h0:Heap} {hl:Heap} {βl:List Con} {σ:Nat→Option Nat} {T:TypeId→TI} (hσ:∀ (b i:Nat),σ b=some i→βl[i]?=β[b]?∧∀ e xs sh,h[b]?=some (.row e xs sh)→hl[i]?=some (.row e xs sh))
  {x:AV} {y:Value} (hr:RelV T h β w S x y) (hf:RelD w S (frz h0 (hide σ x)) y):RelV T hl βl w S (argV σ h0 x) y:=by
 cases x with
 | p b off=>exact zfr hσ _ y hr
 | fn f caps=>exact zfr hσ _ y hr
 | own b n =>
  have h1:=zfr hσ _ y hr
  simp only [hide] at hf
  simp only [argV,ren] at h1 ⊢
  split
  ·rename_i i hi;rw [hi] at h1;exact h1
  ·rename_i hi;rw [hi] at hf;exact .d _ _ hf
 | os b n lo hi =>
  have h1:=zfr hσ _ y hr
  simp only [hide] at hf
  simp only [argV,ren] at h1 ⊢
  split
  ·rename_i i hi;rw [hi] at h1;exact h1
  ·rename_i hi;rw [hi] at hf;exact .d _ _ hf
 | _=>exact .d _ _ hf
theorem zru {T:TypeId→TI} {h:Heap} {β:List Con} {w:World} {S:Addr→Prop} {σ:Nat→Option Nat} {x:AV} {y:Value} (hr:RelV T h β w S x y):RelV T h β w S (hide σ x) y:=by
 cases x with
 | own b n =>
  simp only [hide]
  split
  ·exact .d _ _ (.un y)
  ·exact hr
 | os b n lo hi =>
  simp only [hide]
  split
  ·exact .d _ _ (.un y)
  ·exact hr
 | _=>exact hr
theorem zst (r:Rel E h β S w) (rt:zaQ E.T h β w S ts tmps) (hd:za4 tmps.size o.dst=true) {args:Array Operand} {tys:Array TypeId} {fo:Operand} (hop:o.op=.call { callee:=.value fo,args:=args,argTypes:=tys })
  (hs:zaB (mk E) o ts h os=some out) (ho:zaz out.o) (g:Goal E h β S w tmps out K):o.wp E.P ⟨tmps,[]⟩ w K Q:=by
 have hfo:=za3 (ds:=[]) r rt fo
 simp only [zaB,zal,hop,mk_T,mk_G] at hs
 split at hs
 ·rename_i f caps hfe
  rw [hfe] at hfo
  unfold zmP at hs
  split at hs
  ·rename_i lend res h' os'
   split at hs
   ·rename_i hl hlend hchk
    simp only [Option.some.injEq] at hs
    subst hs
    simp only [zaz] at ho
    simp only [Bool.and_eq_true] at hchk
    obtain ⟨hm,hdis⟩:=hchk
    have hm:=Nat.le_of_ble_eq_true hm
    have hnd:=zio lend hdis
    obtain ⟨ho1,hC⟩:=zsK ho
    obtain ⟨cv,hfv,hcl,hcr⟩:∃ cv:List Value,Act.eval ⟨tmps,[]⟩ fo=.func (.func f) #[] cv.toArray∧caps.length=cv.length∧∀ (i:Nat) (x:AV) (y:Value),caps[i]?=some x→cv[i]?=some y→RelV E.T h β w S x y:=by
     generalize Act.eval ⟨tmps,[]⟩ fo=y at hfo
     cases hfo with
     | d _ _ hd=>cases hd
     | fn _ _ vs h1 h2=>exact ⟨vs,rfl,h1,h2⟩
    have hpw:PW (RelV E.T h β w S) (args.toList.map (ev E.G ts)++caps) (args.toList.map (Act.eval ⟨tmps,[]⟩)++cv):=by
     refine PW.append ⟨by simp,fun i x y hx hy=>?_⟩ ⟨hcl,hcr⟩
     simp only [List.getElem?_map,Option.map_eq_some_iff] at hx hy
     obtain ⟨p,h1,rfl⟩:=hx
     obtain ⟨q,h2,rfl⟩:=hy
     rw [h1] at h2
     cases h2
     exact za3 r rt _
    have hpwh:∀ (i:Nat) (x:AV) (y:Value),((args.toList.map (ev E.G ts)++caps).map (hide (idx lend)))[i]?=some x→(args.toList.map (Act.eval ⟨tmps,[]⟩)++cv)[i]?=some y→RelV E.T h β w S x y:=by
     intro i x y hx hy
     rw [List.getElem?_map,Option.map_eq_some_iff] at hx
     obtain ⟨p,h1,rfl⟩:=hx
     exact zru (hpw.2 i p y h1 hy)
    obtain ⟨S1,⟨e1,r1⟩,d1⟩:=zfn E ((args.toList.map (ev E.G ts)++caps).map (hide (idx lend))) h β S w _ r (by rw [List.length_map];exact hpw.1) hpwh ho1
    obtain ⟨rl,hσ⟩:=r1.lend hnd hlend
    have hcalls:zac E f _ hl res h':=hC
    have hfl:∀ (l:List AV) (i:Nat) (x:AV),l[i]?=some x→(frzL h l)[i]?=some (frz h x):=by
     intro l
     induction l with
     | nil=>intro i x hx;simp at hx
     | cons a l ih =>
      intro i x hx
      cases i with
      | zero=>simp only [List.getElem?_cons_zero,Option.some.injEq] at hx;subst hx;simp [frzL]
      | succ i=>simp only [List.getElem?_cons_succ] at hx;simpa [frzL] using ih i x hx
    have hargs:PW (RelV E.T hl (zcP β lend) w S1) ((args.toList.map (ev E.G ts)++caps).map (argV (idx lend) h)) (args.toList.map (Act.eval ⟨tmps,[]⟩)++cv):=by
     refine ⟨by rw [List.length_map];exact hpw.1,fun i x y hx hy=>?_⟩
     simp only [List.getElem?_map,Option.map_eq_some_iff] at hx
     obtain ⟨p,h1,rfl⟩:=hx
     exact zra hσ ((hpw.2 i p y h1 hy).ext e1) (d1 i _ y (hfl _ i _ (by rw [List.getElem?_map,h1];rfl)) hy)
    have hc:=hcalls (zcP β lend) S1 w _ rl hargs
    unfold Oper.wp
    have harr:(args.map (Act.eval ⟨tmps,[]⟩))++cv.toArray=(args.toList.map (Act.eval ⟨tmps,[]⟩)++cv).toArray:=by
     apply Array.ext'
     simp
    have fin:∀ (e:Ending) (w':World),Post E hl (zcP β lend) S1 w (fun r' h''=>r'=res∧h''=h') e w'→∃ y,e=.returned y∧K ((⟨tmps,[]⟩:Act).put o.dst y) w':=by
     rintro e w' ⟨r',h2,β',S',y,rfl,⟨hr',hh'⟩,rr,ex,rv⟩
     subst hr'
     subst hh'
     obtain ⟨x1,x2,x3⟩:=r1.takeBack hnd hlend rr ex hm
     have hlen1:(share h (zb4 ((args.toList.map (ev E.G ts)++caps).map (hide (idx lend))))).length=h.length:=by rw [← r1.len,r.len]
     rw [hlen1] at x1 x2 x3
     refine ⟨y,rfl,?_⟩
     rw [zdc]
     exact g.k _ S' w' _ (zdC _ _ _) x2 (e1.trans x1) ((rt.ext (e1.trans x1)).put hd (x3 _ _ rv))
    rcases hc with ⟨⟨fn,hf1,hf2,hf3⟩,hc⟩|⟨y0,w0,hrun0,hp⟩
    ·have hrun:(execOp (Act.eval ⟨tmps,[]⟩) o).run E.P w=.ok (.enter f (args.toList.map (Act.eval ⟨tmps,[]⟩)++cv).toArray) w:=by
      simp only [execOp,hop,resolve,hfv,Deferred.ofValue,Sem.run_bind,Sem.run_pure,Result.andThen_ok,invoke,callFunc,run_program,Array.empty_append,harr,hf1,hf2,hf3,Bool.false_eq_true,if_false]
     rw [hrun,Oper.upon_enter]
     refine hc.mono ?_
     intro e w' hp
     obtain ⟨y,rfl,hk⟩:=fin e w' hp
     exact hk
    ·have hrun:(execOp (Act.eval ⟨tmps,[]⟩) o).run E.P w=.ok (.value y0) w0:=by
      simp only [execOp,hop,resolve,hfv,Deferred.ofValue,Sem.run_bind,Sem.run_pure,Result.andThen_ok,invoke,Array.empty_append,harr,hrun0]
     rw [hrun,Oper.upon_value]
     obtain ⟨y,hy,hk⟩:=fin _ w0 hp
     cases hy
     exact hk
   ·cases hs
  ·cases hs
 ·cases hs
end
end Go.AM
namespace Go.AM
open Go.RowKit
set_option linter.unusedSimpArgs false
set_option linter.unusedVariables false
theorem zkG {xs:List (List AV)} {s t m:Nat} (hst:s≤t) (ht:t≤xs.length):(((xs.take t).drop s).take m).length=min m (t - s):=by simp;omega
theorem znm {xs:List (List AV)} {s t m i:Nat} {c:List AV} (h:(((xs.take t).drop s).take m)[i]?=some c):xs[s+i]?=some c∧i < m:=by
 rw [List.getElem?_take] at h
 split at h
 ·rename_i hi
  rw [List.getElem?_drop,List.getElem?_take] at h
  split at h
  ·exact ⟨h,hi⟩
  ·cases h
 ·cases h
theorem zsD {w:World} {S:Addr→Prop} {x:AV} {y:Value} (hz:zOk x y=true):RelD w S (frz [] x) y∧y.oneCell'=true:=by
 unfold zOk at hz
 split at hz
 ·exact ⟨.sl [] none 0 0 0 0 (fun _=>undef) (fun hn=>absurd rfl hn) (Nat.le_refl _) (Nat.zero_le _) (by simp) (by simp) (by simp),rfl⟩
 ·simp only [beq_iff_eq] at hz;subst hz;exact ⟨by simp only [frz];exact .v _ rfl,rfl⟩
 ·simp only [decide_eq_true_eq] at hz;obtain ⟨rfl,rfl⟩:=hz;exact ⟨by simp only [frz];exact .v _ rfl,rfl⟩
 ·simp only [decide_eq_true_eq] at hz;subst hz;exact ⟨by simp only [frz];exact .v _ rfl,rfl⟩
 ·exact ⟨by simp only [frz];exact .v _ rfl,rfl⟩
 ·exact ⟨by simp only [frz];exact .v _ rfl,rfl⟩
 ·exact ⟨by simp only [frz];exact .v _ rfl,rfl⟩
 ·exact ⟨by simp only [frz];exact .v _ rfl,rfl⟩
 ·cases hz
theorem znx {w:World} {S:Addr→Prop}:∀ (l:List AV) (m:List Value),zOkL l m=true →
  l.length=m.length∧∀ (i:Nat) (x:AV),(frzL [] l)[i]?=some x→∃ y,m[i]?=some y∧RelD w S x y∧y.oneCell'=true
 | [],[],_=>⟨rfl,by simp [frzL]⟩
 | x::r,y::s,hz=>by
  simp only [zOkL,Bool.and_eq_true] at hz
  obtain ⟨h1,h2⟩:=znx (w:=w) (S:=S) r s hz.2
  refine ⟨by simp [h1],fun i a ha=>?_⟩
  cases i with
  | zero=>simp only [frzL,List.getElem?_cons_zero,Option.some.injEq] at ha ⊢;subst ha;exact ⟨y,rfl,zsD hz.1⟩
  | succ i=>simp only [frzL,List.getElem?_cons_succ] at ha ⊢;exact h2 i a ha
 | [],_::_,hz=>by cases hz
 | _::_,[],hz=>by cases hz
theorem zmv (z:Array Value) (n k:Nat) (hk:k < n * z.size):(Builtin.zeroCells z n)[k]?=z[k % z.size]?:=by
 have h0:0 < z.size:=by
  rcases Nat.eq_zero_or_pos z.size with h|h
  ·rw [h] at hk;simp at hk
  ·exact h
 have hm:=Nat.mod_lt k h0
 simp only [Builtin.zeroCells,Array.getElem?_map]
 rw [Array.getElem?_eq_getElem (by simpa using hk)]
 simp [hm]
section
variable {E : Env0} {h : Heap} {β : List Con} {S : Addr → Prop} {w : World} {tmps : Array Value} {ts : TS} {K : Act → World → Prop} {Q : Exit → Act → World → Prop} {o : Oper} {os : List Orc} {out : Out}
theorem zr0 (ht:zaO E) (r:Rel E h β S w) (rt:zaQ E.T h β w S ts tmps) (hd:za4 tmps.size o.dst=true) {args:Array Operand} {tys:Array TypeId} (hop:o.op=.call { callee:=.builtin .copy,args:=args,argTypes:=tys })
  (hs:zaB (mk E) o ts h os=some out) (ho:zaz out.o) (g:Goal E h β S w tmps out K):o.wp E.P ⟨tmps,[]⟩ w K Q:=by
 simp only [zaB,zal,hop,mk_T,mk_G] at hs
 split at hs
 ·rename_i x y t t' hax hat
  have hae:args=#[x,y]:=by apply Array.ext';exact hax
  have hte:tys=#[t,t']:=by apply Array.ext';exact hat
  subst hae
  subst hte
  have hx:=za3 (ds:=[]) r rt x
  have hy:=za3 (ds:=[]) r rt y
  split at hs
  ·rename_i el b n d dh b' n' s sh' hk hex hey
   rw [hex] at hx
   rw [hey] at hy
   obtain ⟨ti,dd,z,tok⟩:=ht.at_ (zaG (by rw [hk];simp):E.T t≠_)
   obtain ⟨rfl,hes⟩:=tok.slice_ hk
   obtain ⟨ti2,dd2,z2,tok2⟩:=ht.at_ (zbf hes)
   split at hs
   ·rename_i e' xs hbb hb
    have hbb:=Nat.eq_of_beq_eq_true hbb
    subst hbb
    split at hs
    ·rename_i hee
     subst hee
     simp only [Option.some.injEq] at hs
     subst hs
     simp only [zaz] at ho
     obtain ⟨hn,hn'⟩:=ho
     generalize hev:Act.eval ⟨tmps,[]⟩ x=xv at hx
     generalize hev':Act.eval ⟨tmps,[]⟩ y=yv at hy
     cases hx with
     | d _ _ hd=>cases hd
     | os _ _ _ _ _ e2 xs2 sh2 hb2 _ hdl hdh _ hax =>
     cases hy with
     | d _ _ hd=>cases hd
     | os _ _ _ _ _ e3 xs3 sh3 hb3 _ hsl hsh _ hay =>
     rw [hb] at hb2 hb3
     cases hb2
     cases hb3
     obtain ⟨k,hcon,hat⟩:=hax hn
     obtain ⟨k',hcon',hat'⟩:=hay hn'
     rw [hcon] at hcon'
     cases hcon'
     obtain ⟨a,ca,rfl⟩:∃ a c,xv=.slice a (dh - d) c:=by
      cases k with
      | box _=>exact hat.elim
      | nil _=>obtain ⟨h1,a,rfl⟩:=hat;exact ⟨a,0,by rw [h1];simp⟩
      | row _ _=>obtain ⟨a,rfl,_⟩:=hat;exact ⟨a,_,rfl⟩
     obtain ⟨a',ca',rfl⟩:∃ a c,yv=.slice a (sh' - s) c:=by
      cases k with
      | box _=>exact hat'.elim
      | nil _=>obtain ⟨h1,a,rfl⟩:=hat';exact ⟨a,0,by rw [h1];simp⟩
      | row _ _=>obtain ⟨a,rfl,_⟩:=hat';exact ⟨a,_,rfl⟩
     by_cases hm:Nat.min (sh' - s) (dh - d)=0
     ·have hcx:znC xs d dh s sh'=xs:=by
       have h5:((xs.take sh').drop s).take (dh - d)=[]:=List.eq_nil_of_length_eq_zero (by
        rw [zkG hsl (by omega)]
        rw [Nat.min_comm];exact hm)
       rw [znC,h5,zkc]
      have hset:h.set b (.row el xs false)=h:=by
       apply List.ext_getElem?
       intro i
       by_cases hi:i=b
       ·subst hi;rw [zbG hb,hb]
       ·rw [zbw hi]
      rw [hcx,hset] at g
      refine zaC r rt hd g (y:=goInt 0) ?_ (.d _ _ (.un _))
      cases a <;> cases a' <;> simp [execOp,hop,resolve,invoke,builtin,Builtin.copy_,run_underlying tok.und,hev,hev',Builtin.lenOf,Builtin.firstCells,tok2.sizeOf,hm,storeCells,loadCells,loadCellsFrom]
     ·have hdn:d < dh:=by have h5:Nat.min (sh' - s) (dh - d)≤dh - d:=Nat.min_le_right _ _;omega
      have hsn:s < sh':=by have h5:Nat.min (sh' - s) (dh - d)≤sh' - s:=Nat.min_le_left _ _;omega
      obtain ⟨kk,k2,hrow⟩:=r.row b el xs false hb
      rw [hcon] at k2
      cases k2
      cases k with
      | box _=>exact hat.elim
      | nil _=>obtain ⟨h1,_⟩:=hat;omega
      | row gg cap =>
      obtain ⟨a0,e0,ha⟩:=hat
      cases e0
      obtain ⟨a1,e1,ha'⟩:=hat'
      cases e1
      obtain ⟨cs,q1,q2,q3,q4,q5,q6,q7⟩:=hrow
      have ha:=ha (by omega)
      have ha':=ha' (by omega)
      subst ha
      subst ha'
      obtain ⟨m,hmm⟩:∃ m,m=Nat.min (sh' - s) (dh - d):=⟨_,rfl⟩
      have hm1:m≤sh' - s:=by rw [hmm];exact Nat.min_le_left _ _
      have hm2:m≤dh - d:=by rw [hmm];exact Nat.min_le_right _ _
      obtain ⟨ys,hys⟩:∃ ys,ys=((xs.take sh').drop s).take (dh - d):=⟨_,rfl⟩
      have hyl:ys.length=m:=by rw [hys,zkG hsl (by omega),hmm,Nat.min_comm]
      obtain ⟨sz,hsz⟩:∃ sz,sz=(E.T el).size:=⟨_,rfl⟩
      rw [← hsz] at q5 q6 q7
      have b1:s * sz+m * sz≤cap * sz:=by rw [← Nat.add_mul];exact Nat.mul_le_mul_right _ (by omega)
      have b2:d * sz+m * sz≤cap * sz:=by rw [← Nat.add_mul];exact Nat.mul_le_mul_right _ (by omega)
      obtain ⟨L,hL⟩:∃ L,L=(cs.toList.drop (s * sz)).take (m * sz):=⟨_,rfl⟩
      have hLl:L.length=m * sz:=by rw [hL];simp;omega
      have hLg:∀ j,j < m * sz→L[j]?=cs[s * sz+j]?:=by
       intro j hj
       rw [hL,List.getElem?_take,if_pos hj,List.getElem?_drop];simp
      have hszp:0 < sz:=by rw [hsz];omega
      have hL1:∀ v∈L,v.oneCell'=true:=by
       intro v hv
       obtain ⟨j,hj⟩:=List.getElem?_of_mem hv
       have hjl:j < m * sz:=by rw [← hLl];exact (List.getElem?_eq_some_iff.1 hj).1
       rw [hLg j hjl] at hj
       have e1:j / sz * sz+j % sz=j:=by rw [Nat.mul_comm];exact Nat.div_add_mod j sz
       have e2:j / sz < m:=Nat.div_lt_of_lt_mul (by rw [Nat.mul_comm];exact hjl)
       have e3:s+j / sz < xs.length:=by omega
       have hc:=q6 _ _ (List.getElem?_eq_getElem e3)
       have e4:=Nat.mod_lt j hszp
       obtain ⟨v',v1,v2,v3⟩:=q7 (s+j / sz) (j % sz) _ _ (List.getElem?_eq_getElem e3) (List.getElem?_eq_getElem (by omega))
       rw [show (s+j / sz) * sz+j % sz=s * sz+j by rw [Nat.add_mul];omega,hj] at v1
       cases v1
       exact v3
      have hcell:∀ j v,L[j]?=some v→w.cell? ((⟨gg,s * sz,none⟩:Addr).add j)=some v:=by
       intro j v hj
       have hjl:j < m * sz:=by rw [← hLl];exact (List.getElem?_eq_some_iff.1 hj).1
       rw [hLg j hjl] at hj
       rw [zc6]
       simp [World.cell?,q1,hj]
      have hfc:=run_firstCells_some (P:=E.P) (w:=w) (E.T el).size m ⟨gg,s * sz,none⟩ (sh' - s) (cap - s) L (by rw [hLl,hsz]) hcell
      obtain ⟨w',hst1,hst⟩:=zd0 (P:=E.P) L 0 w gg (d * sz) cs.toList el (by simpa using q1) (by rw [hLl];simp;omega) hL1
      have hrun:(execOp (Act.eval ⟨tmps,[]⟩) o).run E.P w=.ok (.value (goInt m)) w':=by
       subst hsz
       simp [execOp,hop,resolve,invoke,builtin,Builtin.copy_,run_underlying tok.und,hev,hev',Builtin.lenOf,tok2.sizeOf,← hmm,hfc,hst1]
      have hov:=fun k=>zec (cs:=cs.toList) (off:=d * sz) (vs:=L) (by rw [hLl];simp;omega) k
      obtain ⟨e1,r1⟩:=r.lay hb hcon q1 (d:=d) (ys:=ys) (L:=L) (by omega) (by rw [hLl,hyl,hsz]) hL1 (fun c hc=>by
        obtain ⟨i,hi⟩:=List.getElem?_of_mem hc
        rw [hys] at hi
        rw [← hsz]
        exact q6 _ c (znm hi).1)
       (fun i j c a hi hj=>by
        rw [← hsz]
        have hi':=hi
        rw [hys] at hi'
        have hg:=(znm hi').1
        have hil:i < m:=by rw [← hyl];exact (List.getElem?_eq_some_iff.1 hi).1
        have hjl:j < sz:=by rw [← q6 _ c hg];exact (List.getElem?_eq_some_iff.1 hj).1
        obtain ⟨v,v1,v2,v3⟩:=q7 _ j c a hg hj
        have:(i+1) * sz≤m * sz:=Nat.mul_le_mul_right _ hil
        rw [Nat.add_mul,Nat.one_mul] at this
        exact ⟨v,by rw [hLg _ (by omega),← v1];congr 1;rw [Nat.add_mul];omega,v2⟩)
       (w':=w') ⟨_,hst.heap,by simp only [List.size_toArray,Nat.add_zero];rw [zfw _ _ _ (by rw [hLl];simp;omega)];simp,fun k=>by
        simp only [List.getElem?_toArray,Nat.add_zero]
        rw [← hsz,hov]
        simp⟩ hst.keep hst.size hst.os hst.tape hst.output
      rw [hys] at e1 r1
      exact zdB r rt hd g hrun rfl r1 e1 (.d _ _ (.un _))
    ·cases hs
   ·cases hs
  ·cases hs
 ·cases hs
theorem zrm (ht:zaO E) (r:Rel E h β S w) (rt:zaQ E.T h β w S ts tmps) (hd:za4 tmps.size o.dst=true) {args:Array Operand} {tys:Array TypeId} (hop:o.op=.call { callee:=.builtin .clear,args:=args,argTypes:=tys })
  (hs:zaB (mk E) o ts h os=some out) (ho:zaz out.o) (g:Goal E h β S w tmps out K):o.wp E.P ⟨tmps,[]⟩ w K Q:=by
 simp only [zaB,zal,hop,mk_T,mk_G] at hs
 split at hs
 ·rename_i x t hax hat
  have hae:args=#[x]:=by apply Array.ext';exact hax
  have hte:tys=#[t]:=by apply Array.ext';exact hat
  subst hae
  subst hte
  have hx:=za3 (ds:=[]) r rt x
  split at hs
  ·rename_i el b n lo hi hk hex
   rw [hex] at hx
   obtain ⟨ti,dd,z,tok⟩:=ht.at_ (zaG (by rw [hk];simp):E.T t≠_)
   obtain ⟨rfl,hes⟩:=tok.slice_ hk
   obtain ⟨ti2,dd2,z2,tok2⟩:=ht.at_ (zbf hes)
   split at hs
   ·rename_i e' xs hb
    split at hs
    ·rename_i hee
     subst hee
     simp only [Option.some.injEq] at hs
     subst hs
     simp only [zaz] at ho
     have hn:=ho
     generalize hev:Act.eval ⟨tmps,[]⟩ x=xv at hx
     cases hx with
     | d _ _ hd=>cases hd
     | os _ _ _ _ _ e2 xs2 sh2 hb2 _ hll hlh _ hax =>
     rw [hb] at hb2
     cases hb2
     obtain ⟨k,hcon,hat⟩:=hax hn
     by_cases hm:hi=lo
     ·have hcx:zbu xs lo (zdX (E.T el) (hi - lo))=xs:=by rw [hm,Nat.sub_self];exact zkc
      have hset:h.set b (.row el xs false)=h:=by
       apply List.ext_getElem?
       intro i
       by_cases hi:i=b
       ·subst hi;rw [zbG hb,hb]
       ·rw [zbw hi]
      rw [hcx,hset] at g
      refine zaC r rt hd g (y:=.tuple #[]) ?_ (.d _ _ (.un _))
      obtain ⟨a,ca,rfl⟩:∃ a c,xv=.slice a 0 c:=by
       cases k with
       | box _=>exact hat.elim
       | nil _=>obtain ⟨h1,a,rfl⟩:=hat;exact ⟨a,0,rfl⟩
       | row _ _=>obtain ⟨a,rfl,_⟩:=hat;exact ⟨a,_,by rw [hm,Nat.sub_self]⟩
      cases a <;> simp [execOp,hop,resolve,invoke,builtin,Builtin.clear_,run_underlying tok.und,hev]
     ·obtain ⟨kk,k2,hrow⟩:=r.row b el xs false hb
      rw [hcon] at k2
      cases k2
      cases k with
      | box _=>exact hat.elim
      | nil _=>obtain ⟨h1,_⟩:=hat;omega
      | row gg cap =>
      obtain ⟨a0,rfl,ha⟩:=hat
      obtain ⟨cs,q1,q2,q3,q4,q5,q6,q7⟩:=hrow
      have ha:=ha (by omega)
      subst ha
      obtain ⟨m,hmm⟩:∃ m,m=hi - lo:=⟨_,rfl⟩
      obtain ⟨sz,hsz⟩:∃ sz,sz=(E.T el).size:=⟨_,rfl⟩
      obtain ⟨zl1,zl2⟩:=znx (w:=w) (S:=S) _ _ tok2.zok
      have hzs:z2.cells.size=sz:=by rw [hsz,← tok2.zlen,zl1,Array.length_toList]
      have hszp:0 < sz:=by rw [hsz];omega
      rw [← hsz] at q5 q6 q7
      have b2:lo * sz+m * sz≤cap * sz:=by rw [← Nat.add_mul];exact Nat.mul_le_mul_right _ (by omega)
      obtain ⟨L,hL⟩:∃ L,L=(Builtin.zeroCells z2.cells m).toList:=⟨_,rfl⟩
      have hLl:L.length=m * sz:=by rw [hL,Array.length_toList,size_zeroCells,hzs]
      have hLg:∀ j,j < m * sz→L[j]?=z2.cells[j % sz]?:=by
       intro j hj
       rw [hL,Array.getElem?_toList,zmv _ _ _ (by rw [hzs];exact hj),hzs]
      have hz1:∀ j,j < sz→∃ v,z2.cells[j]?=some v∧v.oneCell'=true∧∀ x,(frzL [] (E.T el).zero)[j]?=some x→RelD w S x v:=by
       intro j hj
       obtain ⟨x,hx⟩:∃ x,(frzL [] (E.T el).zero)[j]?=some x:=⟨_,List.getElem?_eq_getElem (by rw [zcC,tok2.zlen,← hsz];exact hj)⟩
       obtain ⟨v,v1,v2,v3⟩:=zl2 j x hx
       rw [Array.getElem?_toList] at v1
       exact ⟨v,v1,v3,fun x' hx'=>by rw [hx] at hx';cases hx';exact v2⟩
      have hL1:∀ v∈L,v.oneCell'=true:=by
       intro v hv
       obtain ⟨j,hj⟩:=List.getElem?_of_mem hv
       have hjl:j < m * sz:=by rw [← hLl];exact (List.getElem?_eq_some_iff.1 hj).1
       obtain ⟨v',v1,v2,_⟩:=hz1 (j % sz) (Nat.mod_lt _ hszp)
       rw [hLg j hjl,v1] at hj
       cases hj
       exact v2
      obtain ⟨w',hst1,hst⟩:=zd0 (P:=E.P) L 0 w gg (lo * sz) cs.toList el (by simpa using q1) (by rw [hLl];simp;omega) hL1
      obtain ⟨m',hm'⟩:∃ m',hi - lo=m'+1:=⟨hi - lo - 1,by omega⟩
      have hrun:(execOp (Act.eval ⟨tmps,[]⟩) o).run E.P w=.ok (.value (.tuple #[])) w':=by
       rw [hL,hmm,hm',hsz] at hst1
       simp [execOp,hop,resolve,invoke,builtin,Builtin.clear_,run_underlying tok.und,hev,hm',tok2.zeroValue,hst1]
      have hov:=fun k=>zec (cs:=cs.toList) (off:=lo * sz) (vs:=L) (by rw [hLl];simp;omega) k
      obtain ⟨e1,r1⟩:=r.lay hb hcon q1 (d:=lo) (ys:=zdX (E.T el) (hi - lo)) (L:=L) (by simp [zdX];omega) (by rw [hLl,hsz,hmm];simp [zdX]) hL1 (fun c hc=>by
        simp only [zdX,List.mem_replicate] at hc
        rw [hc.2,zcC,tok2.zlen])
       (fun i j c a hi hj=>by
        rw [← hsz]
        have hil:=(List.getElem?_eq_some_iff.1 hi).1
        simp only [zdX,List.length_replicate] at hil
        simp only [zdX,List.getElem?_replicate,if_pos hil,Option.some.injEq] at hi
        subst hi
        have hjl:j < sz:=by
         have:=(List.getElem?_eq_some_iff.1 hj).1
         rw [zcC,tok2.zlen,← hsz] at this
         exact this
        obtain ⟨v,v1,v2,v3⟩:=hz1 j hjl
        have:(i+1) * sz≤m * sz:=Nat.mul_le_mul_right _ (by omega)
        rw [Nat.add_mul,Nat.one_mul] at this
        refine ⟨v,?_,v3 a hj⟩
        rw [hLg _ (by omega),Nat.mul_comm,Nat.mul_add_mod,Nat.mod_eq_of_lt hjl]
        exact v1)
       (w':=w') ⟨_,hst.heap,by simp only [List.size_toArray,Nat.add_zero];rw [zfw _ _ _ (by rw [hLl];simp;omega)];simp,fun k=>by
        simp only [List.getElem?_toArray,Nat.add_zero]
        rw [← hsz,hov]
        simp⟩ hst.keep hst.size hst.os hst.tape hst.output
      exact zdB r rt hd g hrun rfl r1 e1 (.d _ _ (.un _))
    ·cases hs
   ·cases hs
  ·cases hs
 ·cases hs
end
end Go.AM
namespace Go.AM
open Go.RowKit
set_option linter.unusedSimpArgs false
set_option linter.unusedVariables false
section
variable {E : Env0} {h : Heap} {β : List Con} {S : Addr → Prop} {w : World} {tmps : Array Value} {ts : TS} {K : Act → World → Prop} {Q : Exit → Act → World → Prop} {o : Oper} {os : List Orc} {out : Out}
theorem zhk (ht:zaO E) (r:Rel E h β S w) (rt:zaQ E.T h β w S ts tmps) (hd:za4 tmps.size o.dst=true)
  (hs:zaB (mk E) o ts h os=some out) (ho:zaz out.o) (g:Goal E h β S w tmps out K):o.wp E.P ⟨tmps,[]⟩ w K Q:=by
 cases hop:o.op with
 | move x=>exact zpa ht r rt hd (.inl hop) hs ho g
 | assign x=>exact zpa ht r rt hd (.inr hop) hs ho g
 | pick c a b=>exact zr9 ht r rt hd hop hs ho g
 | alloc t=>exact zrg ht r rt hd hop hs ho g
 | box t x=>exact op_box ht r rt hd hop hs ho g
 | build t ps=>exact zrb ht r rt hd hop hs ho g
 | buildSlice t n ps=>exact zmu ht r rt hd hop hs ho g
 | load t x=>exact zsw ht r rt hd hop hs ho g
 | store t x y=>exact zrv ht r rt hd hop hs ho g
 | nilCheck x=>exact zoO ht r rt hd hop hs ho g
 | binOp op t x y ty=>exact zrq ht r rt hd hop hs ho g
 | unOp op t x=>exact zsa ht r rt hd hop hs ho g
 | convert s t x=>exact zpS ht r rt hd hop hs ho g
 | makeFunc fn first caps =>
  cases fn with
  | func f=>exact zoH ht r rt hd hop hs ho g
  | _=>simp [zaB,zal,hop] at hs
 | slice t x lo hi mx=>exact zrB ht r rt hd hop hs ho g
 | fieldAddr t x f=>exact zn9 ht r rt hd hop hs ho g
 | field t x f=>exact zrf ht r rt hd hop hs ho g
 | indexAddr t x i=>exact znB ht r rt hd hop hs ho g
 | index t x i=>exact zrR ht r rt hd hop hs ho g
 | extract x i=>exact zpJ ht r rt hd hop hs ho g
 | call c =>
  obtain ⟨callee,args,tys⟩:=c
  cases callee with
  | value f=>exact zst r rt hd hop hs ho g
  | invoke a b=>simp [zaB,zal,hop] at hs
  | builtin b =>
   cases b with
   | len=>exact op_len ht r rt hd hop hs ho g
   | max=>exact op_max ht r rt hd hop hs ho g
   | min=>exact op_min ht r rt hd hop hs ho g
   | append=>exact zqC ht r rt hd hop hs ho g
   | copy=>exact zr0 ht r rt hd hop hs ho g
   | clear=>exact zrm ht r rt hd hop hs ho g
   | _=>simp [zaB,zal,hop] at hs
 | _=>simp [zaB,zal,hop] at hs
def wpG (P:Program) (ops:Array Oper) (o:Oper) (a:Act) (w:World) (K:Act→World→Prop) (Q:Exit→Act→World→Prop):Prop :=
 if Region.wanted o (yielded ops a.tmps) then o.wp P a w K Q else K (a.put o.dst undef) w
theorem zd1 {all:List Oper} {j d:Nat} {b:Bool} (hg:zdy all j=some d) (hv:tmps.getD d undef=.bool b):yielded all.toArray tmps j=some b:=by
 unfold zdy at hg
 unfold yielded
 have hd:tmps[d]?=some (.bool b):=by
  rw [Array.getD_eq_getD_getElem?] at hv
  cases hx:tmps[d]? with
  | none=>rw [hx] at hv;simp [undef] at hv
  | some x=>rw [hx] at hv;simp at hv;rw [hv]
 simp [hg,hd]
theorem zaQ.lit {T:TypeId→TI} (rt:zaQ T h β w S ts tmps) {d:Nat} {b:Bool} (hv:tmps.getD d undef=.bool b):zaQ T h β w S ((d,.bl b)::ts) tmps:=by
 intro t
 simp only [look]
 split
 ·rename_i hx
  have:=Nat.eq_of_beq_eq_true hx
  subst this
  rw [hv]
  exact .d _ _ (.bl b)
 ·exact rt t
theorem zkC {T:TypeId→TI}:RelV T h β w S zeu undef:=.d _ _ (.tup [] [] rfl (by simp))
theorem zjB {all:List Oper} {j d:Nat} (hg:zdy all j=some d) (hv:tmps.getD d undef=undef):yielded all.toArray tmps j=none:=by
 unfold zdy at hg
 unfold yielded
 cases hx:tmps[d]? with
 | none=>simp [hg,hx]
 | some x =>
  rw [Array.getD_eq_getD_getElem?,hx] at hv
  simp only [Option.getD_some] at hv
  subst hv
  simp [hg,hx,undef]
theorem zrM (ht:zaO E) (r:Rel E h β S w) (rt:zaQ E.T h β w S ts tmps) (hd:za4 tmps.size o.dst=true) {all:List Oper}
  (hs:zp8 (mk E) all o ts h os=some out) (ho:zaz out.o) (g:Goal E h β S w tmps out K):wpG E.P all.toArray o ⟨tmps,[]⟩ w K Q:=by
 unfold zp8 at hs
 unfold wpG
 have skip:∀ (ts':TS) (q:Option Prop) (os':List Orc),zaQ E.T h β w S ts' tmps→out=⟨q,AM.put ts' o.dst zeu,h,os'⟩→K (Act.put ⟨tmps,[]⟩ o.dst undef) w:=by
  intro ts' q os' rt' he
  subst he
  rw [zdc]
  exact g.k β S w _ (zdC _ _ _) r (Ext.refl _ _ _ _) (rt'.put hd zkC)
 split at hs
 ·rename_i hg
  rw [if_pos (by simp [Region.wanted,hg])]
  exact zhk ht r rt hd hs ho g
 ·rename_i j want hg
  split at hs
  ·cases hs
  ·rename_i d hgt
   have hrd:=rt d
   split at hs
   ·rename_i b hlk
    rw [hlk] at hrd
    have hv:=hrd.bl_inv
    have hy:=zd1 hgt hv
    split at hs
    ·rename_i hbw
     rw [if_pos (by simp only [Region.wanted,hg,hy];simpa using hbw)]
     exact zhk ht r rt hd hs ho g
    ·rename_i hbw
     rw [if_neg (by simp only [Region.wanted,hg,hy];simpa using hbw)]
     simp only [Option.some.injEq] at hs
     exact skip ts _ _ rt hs.symm
   ·rename_i hlk
    rw [hlk] at hrd
    have hv:tmps.getD d undef=undef:=by
     obtain ⟨vs,he,hl,_⟩:=hrd.tup_inv
     have:vs=[]:=List.eq_nil_of_length_eq_zero (by simpa using hl.symm)
     rw [he,this]
     rfl
    have hy:=zjB hgt hv
    rw [if_neg (by simp only [Region.wanted,hg,hy];simp)]
    simp only [Option.some.injEq] at hs
    exact skip ts _ _ rt hs.symm
   ·rename_i t hlk
    rw [hlk] at hrd
    have hv:=hrd.v_inv
    split at hs
    ·rename_i b os'
     split at hs
     ·rename_i hbw
      cases hso:zaB (mk E) o ((d,.bl b)::ts) h os' with
      | none=>simp [hso] at hs
      | some r' =>
       simp only [hso,Option.map_some,Option.some.injEq] at hs
       subst hs
       simp only [zaz] at ho
       obtain ⟨rfl,ho⟩:=ho
       have hy:=zd1 hgt hv
       rw [if_pos (by simp only [Region.wanted,hg,hy];simpa using hbw)]
       exact zhk ht r (rt.lit hv) hd hso ho ⟨g.k⟩
     ·rename_i hbw
      simp only [Option.some.injEq] at hs
      have hq:=hs
      subst hq
      simp only [zaz] at ho
      subst ho
      have hy:=zd1 hgt hv
      rw [if_neg (by simp only [Region.wanted,hg,hy];simpa using hbw)]
      exact skip _ _ _ (rt.lit hv) rfl
    ·cases hs
   ·cases hs
end
end Go.AM
namespace Go.AM
open Go.RowKit
set_option linter.unusedSimpArgs false
set_option linter.unusedVariables false
theorem ev_eq (G:Nat→Option (List AV)) (ts:TS):ev G ts=evF G (look ts):=by
 funext x
 cases x <;> rfl
theorem zoJ {α:Type} (E:Env) (o:Oper) (e:Operand→AV) (pt:AV→α) (h:Heap) (os:List Orc) :
  zal E o e pt h os=(zal E o e id h os).map fun r=>⟨r.o,pt r.ts,r.h,r.os⟩:=by
 obtain ⟨dst,op,ty,pos,after,guard⟩:=o
 cases op <;> (try simp only [zal,id]) <;> (try rfl)
 case unOp u t x=>cases u <;> simp only [zal] <;> (repeat' split) <;> rfl
 case makeFunc fn first caps=>cases fn <;> simp only [zal] <;> (repeat' split) <;> rfl
 case call c =>
  obtain ⟨callee,args,tys⟩:=c
  cases callee with
  | value f =>
   simp only [zal,zmP]
   (repeat' split) <;> first|rfl|simp_all
  | invoke a b=>rfl
  | builtin b =>
   cases b <;> simp only [zal,append] <;> (repeat' split) <;> first|rfl|simp_all
 all_goals (repeat' split) <;> first|rfl|simp_all
theorem zi5 {α:Type} (E:Env) (o:Oper) (e e':Operand→AV) (pt:AV→α) (h:Heap) (os:List Orc) (he:∀ x∈o.op.operands,e x=e' x) :
  zal E o e pt h os=zal E o e' pt h os:=by
 obtain ⟨dst,op,ty,pos,after,guard⟩:=o
 simp only at he
 cases op
 case move x=>simp only [zal];rw [he x (by simp [Op.operands])]
 case assign x=>simp only [zal];rw [he x (by simp [Op.operands])]
 case pick c a b=>simp only [zal];rw [he c (by simp [Op.operands]),he a (by simp [Op.operands]),he b (by simp [Op.operands])]
 case box t x=>simp only [zal];rw [he x (by simp [Op.operands])]
 case build t ps =>
  have:(ps.toList.map fun x=>(x.1,e x.2))=(ps.toList.map fun x=>(x.1,e' x.2)):=List.map_congr_left fun x hx=>by rw [he x.2 (by simp [Op.operands];exact ⟨x.1,by simpa using hx⟩)]
  simp only [zal]
  rw [this]
 case buildSlice t n ps =>
  have:(ps.toList.map fun x=>(x.1,e x.2))=(ps.toList.map fun x=>(x.1,e' x.2)):=List.map_congr_left fun x hx=>by rw [he x.2 (by simp [Op.operands];exact ⟨x.1,by simpa using hx⟩)]
  simp only [zal]
  rw [this]
 case load t x=>simp only [zal];rw [he x (by simp [Op.operands])]
 case store t x y=>simp only [zal];rw [he x (by simp [Op.operands]),he y (by simp [Op.operands])]
 case nilCheck x=>simp only [zal];rw [he x (by simp [Op.operands])]
 case binOp op t x y ty=>simp only [zal];rw [he x (by simp [Op.operands]),he y (by simp [Op.operands])]
 case unOp u t x=>cases u <;> simp only [zal] <;> rw [he x (by simp [Op.operands])]
 case convert s t x=>simp only [zal];rw [he x (by simp [Op.operands])]
 case fieldAddr t x f=>simp only [zal];rw [he x (by simp [Op.operands])]
 case field t x f=>simp only [zal];rw [he x (by simp [Op.operands])]
 case indexAddr t x i=>simp only [zal];rw [he x (by simp [Op.operands]),he i (by simp [Op.operands])]
 case index t x i=>simp only [zal];rw [he x (by simp [Op.operands]),he i (by simp [Op.operands])]
 case extract x i=>simp only [zal];rw [he x (by simp [Op.operands])]
 case slice t x lo hi mx =>
  have h1:=he x (by simp [Op.operands])
  have h2:∀ y,lo=some y→e y=e' y:=fun y hy=>he y (by simp [Op.operands,hy])
  have h3:∀ y,hi=some y→e y=e' y:=fun y hy=>he y (by simp [Op.operands,hy])
  have h4:∀ y,mx=some y→e y=e' y:=fun y hy=>he y (by simp [Op.operands,hy])
  have hlo:∀ d,bnd e d lo=bnd e' d lo:=fun d=>by cases lo with
   | none=>rfl
   | some y=>simp only [bnd,h2 y rfl]
  have hhi:∀ d,bnd e d hi=bnd e' d hi:=fun d=>by cases hi with
   | none=>rfl
   | some y=>simp only [bnd,h3 y rfl]
  cases lo <;> cases hi <;> cases mx <;> simp only [zal,Option.map_some,Option.map_none,h1] <;> (try rw [h2 _ rfl]) <;> (try rw [h3 _ rfl]) <;> cases (E.T t).kind <;> cases e' x <;> first|rfl|(dsimp only;done)|(dsimp only;rw [h4 _ rfl];done)|(simp only [hlo,hhi];done)|(simp only [hlo,hhi];rw [h4 _ rfl];done)|(rw [h4 _ rfl];simp only [hlo,hhi];done)
 case makeFunc fn first caps =>
  cases fn <;> simp only [zal]
  have:caps.toList.map e=caps.toList.map e':=List.map_congr_left fun x hx=>he x (by simp only [Op.operands,Array.mem_append];exact .inr (by simpa using hx))
  rw [this]
 case call c =>
  obtain ⟨callee,args,tys⟩:=c
  have harg:∀ x∈args.toList,e x=e' x:=fun x hx=>he x (by simp only [Op.operands,Call.operands,Array.mem_append];exact .inr (by simpa using hx))
  cases callee with
  | value f =>
   have hf:=he f (by simp [Op.operands,Call.operands])
   simp only [zal]
   rw [hf,List.map_congr_left harg]
  | invoke a b=>rfl
  | builtin b =>
   cases b <;> simp only [zal]
   case len =>
    split
    ·rename_i x t hx ht
     rw [harg x (by rw [hx];simp)]
    ·rfl
   case max =>
    split
    ·rename_i x y hx
     rw [harg x (by rw [hx];simp),harg y (by rw [hx];simp)]
    ·rfl
   case min =>
    split
    ·rename_i x y hx
     rw [harg x (by rw [hx];simp),harg y (by rw [hx];simp)]
    ·rfl
   case append =>
    split
    ·rename_i x y t t' hx ht
     rw [harg x (by rw [hx];simp),harg y (by rw [hx];simp)]
    ·rfl
   case copy =>
    split
    ·rename_i x y t t' hx ht
     rw [harg x (by rw [hx];simp),harg y (by rw [hx];simp)]
    ·rfl
   case clear =>
    split
    ·rename_i x t hx ht
     rw [harg x (by rw [hx];simp)]
    ·rfl
 all_goals rfl
mutual
theorem zrh {h h':Heap}:∀ (x:AV),frzM x=[]→frz h' x=frz h x
 | .agg cs,hx=>by simp only [frzM] at hx;simp only [frz];rw [zht cs hx]
 | .tup cs,hx=>by simp only [frzM] at hx;simp only [frz];rw [zht cs hx]
 | .own b n,hx=>by simp [frzM] at hx
 | .os b n _ _,hx=>by simp [frzM] at hx
 | .un,_|.v _,_|.bl _,_|.sl _,_|.dp _,_|.nl,_|.p _ _,_|.ep _ _ _ _,_|.fn _ _,_=>by simp [frz]
theorem zht {h h':Heap}:∀ (l:List AV),zb4 l=[]→frzL h' l=frzL h l
 | [],_=>by simp [frzL]
 | x::r,hx=>by
  simp only [zb4,List.append_eq_nil_iff] at hx
  simp only [frzL]
  rw [zrh x hx.1,zht r hx.2]
end
theorem zpf {E:Env} {o:Oper} {e:Operand→AV} {B:List Nat} (hB:zcv E o e=some B) {h h':Heap} {os:List Orc} {out:OutG AV} (hs:zal E o e id h os=some out)
  (hb:∀ b∈B,zbQ h' b=zbQ h b):out.h=h∧zal E o e id h' os=some ⟨out.o,out.ts,h',out.os⟩:=by
 obtain ⟨dst,op,ty,pos,after,guard⟩:=o
 have nat:(∀ h,zal E ⟨dst,op,ty,pos,after,guard⟩ e id h os=(zal E ⟨dst,op,ty,pos,after,guard⟩ e id [] os).map fun r=>⟨r.o,r.ts,h,r.os⟩) →
   out.h=h∧zal E ⟨dst,op,ty,pos,after,guard⟩ e id h' os=some ⟨out.o,out.ts,h',out.os⟩:=by
  intro hn
  rw [hn h] at hs
  rw [hn h']
  cases hq:zal E ⟨dst,op,ty,pos,after,guard⟩ e id [] os with
  | none=>rw [hq] at hs;simp at hs
  | some r =>
   rw [hq] at hs
   simp only [Option.map_some,Option.some.injEq] at hs
   subst hs
   exact ⟨rfl,rfl⟩
 cases op <;> (try (simp only [zcv] at hB;cases hB;done))
 case load t x =>
  simp only [zcv] at hB
  cases he:e x with
  | p b off =>
   simp only [he,Option.some.injEq] at hB
   subst hB
   have hbb:=hb b (by simp)
   simp only [zal,he] at hs ⊢
   cases hx:h[b]? with
   | none=>simp [hx] at hs
   | some B1 =>
    cases B1 with
    | row e1 xs sh=>simp [hx] at hs
    | box cs =>
     have h2:h'[b]?=some (.box cs):=by
      simp only [zbQ,hx] at hbb
      cases hy:h'[b]? with
      | none=>simp [hy] at hbb
      | some B2=>cases B2 with
       | box ds=>simp only [hy,Option.some.injEq] at hbb;rw [hbb]
       | row _ _ _=>simp [hy] at hbb
     simp only [hx] at hs
     simp only [h2]
     split at hs
     ·simp only [Option.some.injEq] at hs
      subst hs
      exact ⟨rfl,rfl⟩
     ·cases hs
  | dp cs =>
   refine nat fun h=>?_
   clear nat hs
   simp only [zal,he]
   (repeat' split) <;> first|rfl|simp_all
  | _=>simp [he] at hB
 case indexAddr t x i =>
  simp only [zcv] at hB
  cases he:e x with
  | own b n=>simp [he] at hB
  | os b n lo hi=>simp [he] at hB
  | _ =>
   refine nat fun h=>?_
   clear nat hs
   simp only [zal,he]
   (repeat' split) <;> first|rfl|simp_all
 case slice t x lo hi mx =>
  simp only [zcv] at hB
  cases he:e x with
  | own b n=>simp [he] at hB
  | os b n lo hi=>simp [he] at hB
  | _ =>
   refine nat fun h=>?_
   clear nat hs
   simp only [zal,he]
   (repeat' split) <;> first|rfl|simp_all
 case buildSlice t n parts =>
  simp only [zcv] at hB
  simp only [zal] at hs ⊢
  split at hB
  ·rename_i el hk
   split at hB
   ·rename_i cs hf
    split at hB
    ·rename_i hm
     simp only [hk] at hs ⊢
     rw [hf] at hs ⊢
     split at hs
     ·rename_i cs' hf' hle
      cases hf'
      simp only [Option.some.injEq] at hs
      subst hs
      rw [hm]
      simp only [share,List.foldl_nil]
      refine ⟨trivial,?_⟩
      simp only [frzB,hm]
      rw [zht cs hm (h:=h) (h':=h')]
     ·cases hs
    ·cases hB
   ·cases hB
  ·cases hB
 case call c =>
  obtain ⟨callee,args,tys⟩:=c
  cases callee with
  | value f=>simp [zcv] at hB
  | invoke a b=>simp [zcv] at hB
  | builtin b =>
   cases b <;> (try (simp [zcv] at hB;done))
   case max =>
    refine nat fun h=>?_
    clear nat hs
    simp only [zal]
    (repeat' split) <;> first|rfl|simp_all
   case min =>
    refine nat fun h=>?_
    clear nat hs
    simp only [zal]
    (repeat' split) <;> first|rfl|simp_all
   simp only [zcv] at hB
   split at hB
   ·rename_i x hx
    refine nat fun h=>?_
    clear nat hs
    simp only [zal,hx]
    cases he:e x with
    | own b n=>simp [he] at hB
    | os b n lo hi=>simp [he] at hB
    | _ =>
     clear hB
     (repeat' split) <;> first|rfl|simp_all
   ·cases hB
 case unOp u t x =>
  refine nat fun h=>?_
  clear nat hs
  cases u <;> simp only [zal] <;> (repeat' split) <;> first|rfl|simp_all
 case makeFunc fn first caps =>
  refine nat fun h=>?_
  clear nat hs
  cases fn <;> simp only [zal] <;> (repeat' split) <;> first|rfl|simp_all
 all_goals
  refine nat fun h=>?_
  clear nat hs
  simp only [zal]
  (repeat' split) <;> first|rfl|simp_all
theorem ziB {h:Heap} {b:Nat} {cs:List AV} (hb:zbQ h b=some cs):h[b]?=some (.box cs):=by
 unfold zbQ at hb
 split at hb
 ·rename_i ds hx;cases hb;exact hx
 ·cases hb
theorem zk7 {h:Heap} {b:Nat} {cs:List AV} (hb:h[b]?=some (.box cs)):zbQ h b=some cs:=by simp [zbQ,hb]
theorem ze2 {h l:Heap} {b:Nat} {cs:List AV} (hb:zbQ h b=some cs):zbQ (h++l) b=some cs:=by
 have h1:=ziB hb
 exact zk7 (by rw [List.getElem?_append_left (List.getElem?_eq_some_iff.1 h1).1];exact h1)
theorem zf4 {h:Heap} {b c:Nat} {cs:List AV} {e:TypeId} {xs:List (List AV)} {sh:Bool} {x:Blk} (hb:zbQ h b=some cs) (hc:h[c]?=some (.row e xs sh)):zbQ (h.set c x) b=some cs:=by
 have h1:=ziB hb
 have hne:b≠c:=by rintro rfl;rw [h1] at hc;cases hc
 exact zk7 (by rw [zbw hne];exact h1)
theorem znb {h:Heap} {b c:Nat} {cs:List AV} (hb:zbQ h b=some cs):zbQ (zgX h c) b=some cs:=by
 unfold zgX
 split
 ·rename_i e xs sh hc;exact zf4 hb hc
 ·exact hb
theorem zhI:∀ (l:List Nat) {h:Heap} {b:Nat} {cs:List AV},zbQ h b=some cs→zbQ (share h l) b=some cs
 | [],_,_,_,hb=>hb
 | c::l,h,b,cs,hb=>by
  have:=zhI l (znb (c:=c) hb)
  simpa [share,List.foldl_cons] using this
theorem zjQ:∀ (l:List Nat) (ys:Heap) {h:Heap} {b:Nat} {cs:List AV},b ∉ l→zbQ h b=some cs→zbQ (zcF h l ys) b=some cs
 | [],_,_,_,_,_,hb=>by simpa [zcF] using hb
 | c::l,[],_,_,_,_,hb=>by simpa [zcF] using hb
 | c::l,y::ys,h,b,cs,hn,hb=>by
  simp only [List.mem_cons,not_or] at hn
  simp only [zcF]
  refine zjQ l ys hn.2 (zk7 ?_)
  rw [zbw hn.1]
  exact ziB hb
theorem zpo {E:Env} {o:Oper} {e:Operand→AV} {B:List Nat} {h:Heap} {os:List Orc} {out:OutG AV} (hk:zeM o os B=true) (hs:zal E o e id h os=some out) {b:Nat} {cs:List AV} (hbB:b∈B) (hb:zbQ h b=some cs) :
  zbQ out.h b=some cs:=by
 obtain ⟨dst,op,ty,pos,after,guard⟩:=o
 cases B with
 | nil=>simp at hbB
 | cons b0 B0 =>
  simp only [zeM] at hk
  cases op <;> (try (simp only [zal] at hs;cases hs;done)) <;> (try (cases hk;done))
  case unOp u t x =>
   cases u <;> simp only [zal] at hs <;> (repeat' split at hs) <;> first|(cases hs;done)|(simp only [Option.some.injEq] at hs;subst hs;exact hb)
  case makeFunc fn first caps =>
   cases fn <;> simp only [zal] at hs <;> (repeat' split at hs) <;> first|(cases hs;done)|(simp only [Option.some.injEq] at hs;subst hs;exact hb)
  case buildSlice t n parts =>
   simp only [zal] at hs
   (repeat' split at hs) <;> first|(cases hs;done)|(simp only [Option.some.injEq] at hs;subst hs;exact zhI _ hb)
  case alloc t =>
   simp only [zal] at hs
   (repeat' split at hs) <;> first|(cases hs;done)|(simp only [Option.some.injEq] at hs;subst hs;exact ze2 hb)
  case box t x =>
   simp only [zal] at hs
   (repeat' split at hs) <;> first|(cases hs;done)|(simp only [Option.some.injEq] at hs;subst hs;exact ze2 hb)
  case call c =>
   obtain ⟨callee,args,tys⟩:=c
   cases callee with
   | invoke a b=>simp [zal] at hs
   | value f =>
    simp only [zal] at hs
    split at hs
    ·unfold zmP at hs
     split at hs
     ·rename_i lend r h' os'
      split at hs
      ·simp only [Option.some.injEq] at hs
       subst hs
       have hn:b ∉ lend:=by
        have:=List.all_eq_true.1 hk b hbB
        simpa [zgI] using this
       exact ze2 (zjQ _ _ hn (zhI _ hb))
      ·cases hs
     ·cases hs
    ·cases hs
   | builtin bb =>
    cases bb <;> (try (simp [zal] at hs;done))
    case max =>
     simp only [zal] at hs
     (repeat' split at hs) <;> first|(cases hs;done)|(simp only [Option.some.injEq] at hs;subst hs;exact hb)
    case min =>
     simp only [zal] at hs
     (repeat' split at hs) <;> first|(cases hs;done)|(simp only [Option.some.injEq] at hs;subst hs;exact hb)
    ·simp only [zal] at hs
     split at hs
     ·split at hs
      ·unfold append at hs
       split at hs
       ·split at hs
        ·cases hs
        ·split at hs
         ·simp only [Option.some.injEq] at hs;subst hs;exact ze2 hb
         ·split at hs
          ·rename_i hrow
           split at hs
           ·simp only [Option.some.injEq] at hs;subst hs;exact zf4 hb hrow
           ·cases hs
          ·cases hs
         ·split at hs
          ·rename_i hrow
           split at hs
           ·simp only [Option.some.injEq] at hs;subst hs;exact zf4 hb hrow
           ·cases hs
          ·cases hs
         ·cases hs
       ·cases hs
      ·cases hs
     ·cases hs
    ·simp only [zal] at hs
     split at hs
     ·split at hs
      ·split at hs
       ·rename_i hrow
        split at hs
        ·simp only [Option.some.injEq] at hs;subst hs;exact zf4 hb hrow
        ·cases hs
       ·cases hs
      ·cases hs
     ·cases hs
    ·simp only [zal] at hs
     split at hs
     ·split at hs
      ·split at hs
       ·rename_i hrow
        split at hs
        ·simp only [Option.some.injEq] at hs;subst hs;exact zf4 hb hrow
        ·cases hs
       ·cases hs
      ·cases hs
     ·cases hs
    ·simp only [zal] at hs
     (repeat' split at hs) <;> first|(cases hs;done)|(simp only [Option.some.injEq] at hs;subst hs;exact hb)
  all_goals
   simp only [zal] at hs
   (repeat' split at hs) <;> first|(cases hs;done)|(simp only [Option.some.injEq] at hs;subst hs;exact hb)
end Go.AM
namespace Go.AM
open Go.RowKit
set_option linter.unusedSimpArgs false
set_option linter.unusedVariables false
theorem zld {p x:Option Prop} (h:zaz (andO p x)):zaz p∧zaz x:=by
 cases p with
 | none=>exact ⟨trivial,h⟩
 | some p=>exact h
def putF (L:Nat→AV) (d:Option Tmp) (v:AV):Nat→AV:=match d with
 | some d=>fun t=>if t=d then v else L t
 | none=>L
theorem zl9 {all:List Oper} {o:Oper} {t:Nat} (h:Operand.tmp t∈o.op.operands):t∈o.looksAt all.toArray:=by
 unfold Oper.looksAt
 rw [List.mem_append]
 left
 rw [List.mem_filterMap]
 exact ⟨.tmp t,by simpa using h,rfl⟩
theorem zkB {all:List Oper} {o:Oper} {j d:Nat} {want:Bool} (hg:o.guard=some (j,want)) (hd:zdy all j=some d):d∈o.looksAt all.toArray:=by
 unfold Oper.looksAt
 rw [List.mem_append]
 right
 unfold zdy at hd
 simp [hg,hd]
theorem zqk {G:Nat→Option (List AV)} {L L':Nat→AV} {x:Operand} (h:∀ t,x=.tmp t→L t=L' t):evF G L x=evF G L' x:=by
 cases x with
 | tmp t=>exact h t rfl
 | _=>rfl
theorem zmg {all:List Oper} {o:Oper} {L L':Nat→AV} {os:List Orc} (h:∀ t∈o.looksAt all.toArray,L t=L' t):gst all o L os=gst all o L' os:=by
 unfold gst
 split
 ·rfl
 ·rename_i j want hg
  split
  ·rfl
  ·rename_i d hd
   rw [h d (zkB hg hd)]
theorem zjJ {E:Env} {all:List Oper} {o:Oper} {L L':Nat→AV} (h:∀ t∈o.looksAt all.toArray,L t=L' t):∀ x∈o.op.operands,evF E.G L x=evF E.G L' x :=
 fun x hx=>zqk fun t ht=>h t (zl9 (by rw [← ht];exact hx))
theorem zkF {E:Env} {all:List Oper} {o:Oper} {L L':Nat→AV} {h:Heap} {os:List Orc} (hl:∀ t∈o.looksAt all.toArray,L t=L' t):zcR E all o L h os=zcR E all o L' h os:=by
 unfold zcR
 rw [zmg hl]
 split
 ·rw [zi5 E o _ _ id h _ (zjJ hl)]
 ·rfl
 ·rfl
theorem zpO {all:List Oper} {o:Oper} {L:Nat→AV} {os os':List Orc} {b:Bool} {q:Option Prop} (h:gst all o L os=some (b,q,os')):zgI os'=zgI os:=by
 unfold gst at h
 split at h
 ·cases h;rfl
 ·split at h
  ·cases h
  ·split at h
   ·cases h;rfl
   ·cases h;rfl
   ·split at h
    ·cases h;rfl
    ·cases h
   ·cases h
theorem zqA {o:Oper} {os os':List Orc} {B:List Nat} (h:zgI os'=zgI os) (hk:zeM o os B=true):zeM o os' B=true:=by
 unfold zeM at hk ⊢
 split
 ·rfl
 ·rename_i b l
  simp only at hk
  split
  ·rename_i hx;simp [hx] at hk
  ·rename_i hx
   rw [h]
   simpa [hx] using hk
  ·rfl
theorem zoM {E:Env} {all:List Oper} {o:Oper} {L:Nat→AV} {h:Heap} {os:List Orc} {out:OutG AV} {B:List Nat} (hk:zeM o os B=true) (hs:zcR E all o L h os=some out) {b:Nat} {cs:List AV} (hbB:b∈B) (hb:zbQ h b=some cs) :
  zbQ out.h b=some cs:=by
 unfold zcR at hs
 split at hs
 ·rename_i q os' hg
  cases hx:zal E o (evF E.G L) id h os' with
  | none=>simp [hx] at hs
  | some r =>
   simp only [hx,Option.map_some,Option.some.injEq] at hs
   subst hs
   exact zpo (zqA (zpO hg) hk) hx hbB hb
 ·simp only [Option.some.injEq] at hs
  subst hs
  exact hb
 ·cases hs
theorem zfC {E:Env} {all:List Oper} {o:Oper} {L:Nat→AV} {h h':Heap} {os:List Orc} {out:OutG AV} {B:List Nat} (hB:zfY E all o L os=some B) (hs:zcR E all o L h os=some out) (hb:∀ b∈B,zbQ h' b=zbQ h b) :
  out.h=h∧zcR E all o L h' os=some ⟨out.o,out.ts,h',out.os⟩:=by
 unfold zcR at hs ⊢
 unfold zfY at hB
 split at hs
 ·rename_i q os' hg
  simp only [hg] at hB ⊢
  cases hx:zal E o (evF E.G L) id h os' with
  | none=>simp [hx] at hs
  | some r =>
   simp only [hx,Option.map_some,Option.some.injEq] at hs
   obtain ⟨h1,h2⟩:=zpf hB hx hb
   subst hs
   exact ⟨h1,by rw [h2];rfl⟩
 ·rename_i q os' hg
  simp only [hg] at hB ⊢
  simp only [Option.some.injEq] at hs
  subst hs
  exact ⟨rfl,rfl⟩
 ·cases hs
theorem znY {E:Env} {o:Oper} {e e':Operand→AV} (he:∀ x∈o.op.operands,e x=e' x):zcv E o e=zcv E o e':=by
 obtain ⟨dst,op,ty,pos,after,guard⟩:=o
 simp only at he
 cases op <;> (try rfl)
 case load t x=>simp only [zcv];rw [he x (by simp [Op.operands])]
 case indexAddr t x i=>simp only [zcv];rw [he x (by simp [Op.operands])]
 case slice t x lo hi mx=>simp only [zcv];rw [he x (by simp [Op.operands])]
 case buildSlice t n ps =>
  have:(ps.toList.map fun x=>(x.1,e x.2))=(ps.toList.map fun x=>(x.1,e' x.2)):=List.map_congr_left fun x hx=>by rw [he x.2 (by simp [Op.operands];exact ⟨x.1,by simpa using hx⟩)]
  simp only [zcv]
  rw [this]
 case call c =>
  obtain ⟨callee,args,tys⟩:=c
  have harg:∀ x∈args.toList,e x=e' x:=fun x hx=>he x (by simp only [Op.operands,Call.operands,Array.mem_append];exact .inr (by simpa using hx))
  cases callee with
  | value f=>rfl
  | invoke a b=>rfl
  | builtin b =>
   cases b <;> (try rfl)
   simp only [zcv]
   split
   ·rename_i x hx
    rw [harg x (by rw [hx];simp)]
   ·rfl
theorem znJ {E:Env} {all:List Oper} {o:Oper} {L L':Nat→AV} {os:List Orc} (hl:∀ t∈o.looksAt all.toArray,L t=L' t):zfY E all o L os=zfY E all o L' os:=by
 unfold zfY
 rw [zmg hl]
 split
 ·exact znY (zjJ hl)
 ·rfl
 ·rfl
def DG (E:Env) (all:List Oper) (os:Nat→List Orc) (n:Nat) (K:(Nat→AV)→Heap→Prop):Nat→Array Bool→(Nat→AV)→Heap→Prop
 | 0,listed,L,h=>Region.ready .any all.toArray listed=[]∧K L h
 | f+1,listed,L,h=>(Region.ready .any all.toArray listed=[]→K L h)∧∀ i∈Region.ready .any all.toArray listed,∃ o out,all[i]?=some o∧za4 n o.dst=true ∧
   zcR E all o L h (os i)=some out∧zaz out.o∧DG E all os n K f (listed.setIfInBounds i true) (putF L o.dst out.ts) out.h
def zhW (ops:Array Oper) (listed:Array Bool):Prop:=∀ (j:Nat) (o:Oper),ops[j]?=some o→listed.getD j false=true→∀ e∈o.after,Region.binds .any e=true→listed.getD e.on false=true
theorem zlk {ops:Array Oper} {listed:Array Bool} (hc:zhW ops listed) {i:Nat}:∀ (f j:Nat),dep ops i f j=true→listed.getD j false=true→listed.getD i false=true
 | 0,j,hd,_=>by cases hd
 | f+1,j,hd,hj=>by
  unfold dep at hd
  split at hd
  ·rename_i o ho
   obtain ⟨e,he,hx⟩:=List.any_eq_true.1 hd
   simp only [Bool.and_eq_true,Bool.or_eq_true] at hx
   have hl:=hc j o ho hj e (by simpa using he) hx.1
   rcases hx.2 with h1|h1
   ·rw [← Nat.eq_of_beq_eq_true h1];exact hl
   ·exact zlk hc f e.on h1 hl
  ·cases hd
theorem zqH {ops:Array Oper} {listed:Array Bool} (hc:zhW ops listed) {i j f:Nat} (hr:j∈Region.ready .any ops listed) (hd:dep ops i f j=true):listed.getD i false=true:=by
 obtain ⟨_,o,ho,hall⟩:=mem_ready.1 hr
 cases f with
 | zero=>cases hd
 | succ f =>
  unfold dep at hd
  simp only [ho] at hd
  obtain ⟨e,he,hx⟩:=List.any_eq_true.1 hd
  simp only [Bool.and_eq_true,Bool.or_eq_true] at hx
  have hl:=hall e (by simpa using he) hx.1
  rcases hx.2 with h1|h1
  ·rw [← Nat.eq_of_beq_eq_true h1];exact hl
  ·exact zlk hc f e.on h1 hl
theorem zlH {ops:Array Oper} {listed:Array Bool} (hc:zhW ops listed) {i:Nat} (hr:i∈Region.ready .any ops listed):zhW ops (listed.setIfInBounds i true):=by
 intro j o ho hj e he hb
 obtain ⟨_,o',ho',hall⟩:=mem_ready.1 hr
 by_cases hij:i=j
 ·subst hij
  rw [ho] at ho'
  cases ho'
  exact getD_set_true (hall e he hb)
 ·rw [getD_set_ne false hij] at hj
  exact getD_set_true (hc j o ho hj e he hb)
theorem zqx {L:Nat→AV} {x y:Option Tmp} {u v:AV} (h:∀ d,x=some d→y≠some d):putF (putF L x u) y v=putF (putF L y v) x u:=by
 cases x with
 | none=>rfl
 | some d =>
  cases y with
  | none=>rfl
  | some d' =>
   have hne:d'≠d:=fun e=>h d rfl (by rw [e])
   funext t
   simp only [putF]
   by_cases h1:t=d <;> by_cases h2:t=d'
   ·subst h1;exact absurd h2 (Ne.symm hne)
   ·simp [h1,h2,Ne.symm hne]
   ·simp [h1,h2,hne]
   ·simp [h1,h2]
theorem ziU {L:Nat→AV} {x:Option Tmp} {u:AV} {t:Nat} (h:∀ d,x=some d→t≠d):putF L x u t=L t:=by
 cases x with
 | none=>rfl
 | some d=>simp [putF,h d rfl]
theorem zsG {E:Env} {all:List Oper} {os:Nat→List Orc} {n:Nat} {K:(Nat→AV)→Heap→Prop} {i:Nat} {o:Oper} (hi:all[i]?=some o) (hdst:za4 n o.dst=true) (F:Nat) :
  ∀ (f:Nat) (listed:Array Bool) (L:Nat→AV) (h:Heap) (out:OutG AV) (B:List Nat),zhW all.toArray listed→i∈Region.ready .any all.toArray listed→zfY E all o L (os i)=some B→zcR E all o L h (os i)=some out→zaz out.o →
   (∀ b∈B,∃ cs,zbQ h b=some cs) →
   (∀ j oj,all[j]?=some oj→j≠i→listed.getD j true=false→dep all.toArray i F j=true∨(o.apart all.toArray oj=true∧zeM oj (os j) B=true)) →
   DG E all os n K f (listed.setIfInBounds i true) (putF L o.dst out.ts) h→DG E all os n K (f+1) listed L h:=by
 intro f
 induction f with
 | zero =>
  intro listed L h out B hcl hr hB hs ho hbox hfree H
  refine ⟨fun h0=>(by rw [h0] at hr;cases hr),fun j hj=>?_⟩
  by_cases hji:j=i
  ·subst hji
   obtain ⟨hh,_⟩:=zfC hB hs (h':=h) (fun _ _=>rfl)
   exact ⟨o,out,hi,hdst,hs,ho,by rw [hh];exact H⟩
  ·have:=ready_mono hj hji
   rw [H.1] at this
   cases this
 | succ f ih =>
  intro listed L h out B hcl hr hB hs ho hbox hfree H
  refine ⟨fun h0=>(by rw [h0] at hr;cases hr),fun j hj=>?_⟩
  by_cases hji:j=i
  ·subst hji
   obtain ⟨hh,_⟩:=zfC hB hs (h':=h) (fun _ _=>rfl)
   exact ⟨o,out,hi,hdst,hs,ho,by rw [hh];exact H⟩
  ·obtain ⟨oj,outj,hoj,hdj,hsj,hqj,Hj⟩:=H.2 j (ready_mono hj hji)
   have hjun:=(mem_ready.1 hj).1
   have hpair:o.apart all.toArray oj=true∧zeM oj (os j) B=true:=by
    rcases hfree j oj hoj hji hjun with h1|h1
    ·have h2:=zqH hcl hj h1
     have h3:=(mem_ready.1 hr).1
     rcases Nat.lt_or_ge i listed.size with h'|h'
     ·simp [h'] at h2 h3;rw [h3] at h2;cases h2
     ·simp [Array.getElem?_eq_none h'] at h2
    ·exact h1
   obtain ⟨hap,hkp⟩:=hpair
   obtain ⟨a1,a2,a3⟩:=Oper.apart_spec hap
   have hLj:∀ t∈oj.looksAt all.toArray,putF L o.dst out.ts t=L t:=fun t ht=>ziU fun d hd e=>a1 d hd (by rw [← e];exact ht)
   have hsj':zcR E all oj L h (os j)=some outj:=by rw [← zkF hLj];exact hsj
   have hkeep:∀ b∈B,zbQ outj.h b=zbQ h b:=fun b hb=>by
    obtain ⟨cs,hcs⟩:=hbox b hb
    rw [hcs,zoM hkp hsj' hb hcs]
   have hLi:∀ t∈o.looksAt all.toArray,putF L oj.dst outj.ts t=L t:=fun t ht=>ziU fun d hd e=>a3 d hd (by rw [← e];exact ht)
   have hearly:zfY E all o (putF L oj.dst outj.ts) (os i)=some B:=by
    rw [znJ hLi]
    exact hB
   obtain ⟨hh,hs2⟩:=zfC hB hs hkeep
   have hs3:zcR E all o (putF L oj.dst outj.ts) outj.h (os i)=some ⟨out.o,out.ts,outj.h,out.os⟩:=by
    rw [zkF hLi]
    exact hs2
   refine ⟨oj,outj,hoj,hdj,hsj',hqj,ih (listed.setIfInBounds j true) _ outj.h ⟨out.o,out.ts,outj.h,out.os⟩ B (zlH hcl hj) (ready_mono hr (Ne.symm hji)) hearly hs3 ho (fun b hb=>?_) (fun k ok hk hki hun=>?_) ?_⟩
   ·obtain ⟨cs,hcs⟩:=hbox b hb
    exact ⟨cs,by rw [hkeep b hb];exact hcs⟩
   ·refine hfree k ok hk hki ?_
    by_cases hjk:j=k
    ·subst hjk;exact hjun
    ·rw [getD_set_ne true hjk] at hun;exact hun
   ·rw [Array.setIfInBounds_comm _ _ hji]
    rw [zqx (fun d hd he=>a2 d hd he)] at Hj
    exact Hj
theorem DG_all {E:Env} {all:List Oper} {os:Nat→List Orc} {n:Nat} {K:(Nat→AV)→Heap→Prop} {f:Nat} {listed:Array Bool} {L:Nat→AV} {h:Heap} (hne:Region.ready .any all.toArray listed≠[])
  (H:∀ i∈Region.ready .any all.toArray listed,∃ o out,all[i]?=some o∧za4 n o.dst=true∧zcR E all o L h (os i)=some out∧zaz out.o∧DG E all os n K f (listed.setIfInBounds i true) (putF L o.dst out.ts) out.h) :
  DG E all os n K (f+1) listed L h:=⟨fun h0=>absurd h0 hne,H⟩
theorem zsm {E:Env} {all:List Oper} {os:Nat→List Orc} {n:Nat} {K:(Nat→AV)→Heap→Prop} {listed:Array Bool} {L:Nat→AV} {h:Heap} (hr:Region.ready .any all.toArray listed=[]) (hK:K L h):∀ f,DG E all os n K f listed L h
 | 0=>⟨hr,hK⟩
 | _+1=>⟨fun _=>hK,by rw [hr];simp⟩
def RelL (T:TypeId→TI) (h:Heap) (β:List Con) (w:World) (S:Addr→Prop) (L:Nat→AV) (tmps:Array Value):Prop:=∀ t,RelV T h β w S (L t) (tmps.getD t undef)
def tsOf (m:Nat) (L:Nat→AV):Nat→TS
 | 0=>[]
 | k+1=>(k,L k)::tsOf m L k
theorem zmm (m:Nat) (L:Nat→AV):∀ (k t:Nat),look (tsOf m L k) t=if t < k then L t else .un
 | 0,t=>by simp [tsOf,look]
 | k+1,t=>by
  simp only [tsOf,look]
  split
  ·rename_i hb
   have:=Nat.eq_of_beq_eq_true hb
   subst this
   simp
  ·rename_i hb
   have hne:k≠t:=by rintro rfl;simp [Nat.beq_refl] at hb
   rw [zmm m L k t]
   by_cases h1:t < k
   ·rw [if_pos h1,if_pos (by omega)]
   ·rw [if_neg h1,if_neg (by omega)]
theorem le_sum {l:List Nat} {t:Nat} (h:t∈l):t≤l.sum:=by
 induction l with
 | nil=>cases h
 | cons a l ih =>
  rw [List.sum_cons]
  rcases List.mem_cons.1 h with h1|h1
  ·omega
  ·have:=ih h1;omega
theorem zrw {E:Env0} (ht:zaO E) {h:Heap} {β:List Con} {S:Addr→Prop} {w:World} {tmps:Array Value} {L:Nat→AV} {K:Act→World→Prop} {Q:Exit→Act→World→Prop} {o:Oper} {os:List Orc} {out:OutG AV} {all:List Oper}
  (r:Rel E h β S w) (rl:RelL E.T h β w S L tmps) (hd:za4 tmps.size o.dst=true) (hs:zcR (mk E) all o L h os=some out) (ho:zaz out.o)
  (g:∀ (β':List Con) (S':Addr→Prop) (w':World) (tmps':Array Value),tmps'.size=tmps.size→Rel E out.h β' S' w'→Ext h β S w out.h β' S' w'→RelL E.T out.h β' w' S' (putF L o.dst out.ts) tmps'→K ⟨tmps',[]⟩ w') :
  wpG E.P all.toArray o ⟨tmps,[]⟩ w K Q:=by
 unfold zcR at hs
 let m:=tmps.size+(o.looksAt all.toArray).sum+1
 have hlk:∀ t,look (tsOf m L m) t=if t < m then L t else .un:=zmm m L m
 have rt:zaQ E.T h β w S (tsOf m L m) tmps:=fun t=>by
  rw [hlk t]
  split
  ·exact rl t
  ·exact .d _ _ (.un _)
 have back:∀ (β':List Con) (S':Addr→Prop) (w':World) (tmps':Array Value) (h':Heap) (v:AV),tmps'.size=tmps.size→Ext h β S w h' β' S' w'→zaQ E.T h' β' w' S' (AM.put (tsOf m L m) o.dst v) tmps'→RelL E.T h' β' w' S' (putF L o.dst v) tmps':=by
  intro β' S' w' tmps' h' v hsz hx hts t
  have h1:=hts t
  by_cases hdt:o.dst=some t
  ·rw [hdt] at h1 ⊢
   simpa [AM.put,look,putF,Nat.beq_refl] using h1
  ·have h2:putF L o.dst v t=L t:=ziU fun d hd e=>hdt (by rw [hd,e])
   have h3:look (AM.put (tsOf m L m) o.dst v) t=look (tsOf m L m) t:=by
    cases hdd:o.dst with
    | none=>rfl
    | some d =>
     have hne:d≠t:=fun e=>hdt (by rw [hdd,e])
     simp only [AM.put,look]
     split
     ·rename_i hb;exact absurd (Nat.eq_of_beq_eq_true hb) hne
     ·rfl
   rw [h3,hlk t] at h1
   rw [h2]
   split at h1
   ·exact h1
   ·rename_i hge
    have hu:tmps'.getD t undef=tmps.getD t undef:=by
     rw [Array.getD_eq_getD_getElem?,Array.getD_eq_getD_getElem?,Array.getElem?_eq_none (by omega),Array.getElem?_eq_none (by omega)]
    rw [hu]
    exact (rl t).ext hx
 have hcon:∀ x∈o.op.operands,evF (mk E).G L x=ev (mk E).G (tsOf m L m) x:=by
  rw [ev_eq]
  refine zjJ (E:=mk E) (all:=all) fun t ht=>?_
  rw [hlk t,if_pos]
  have:=le_sum ht
  omega
 have skip:∀ (q:Option Prop) (os':List Orc),out=⟨q,zeu,h,os'⟩→K (Act.put ⟨tmps,[]⟩ o.dst undef) w:=by
  intro q os' he
  subst he
  rw [zdc]
  exact g β S w _ (zdC _ _ _) r (Ext.refl _ _ _ _) (back β S w _ h zeu (zdC _ _ _) (Ext.refl _ _ _ _) (rt.put hd zkC))
 have exec:∀ (os':List Orc) (q:Option Prop),(zal (mk E) o (evF (mk E).G L) id h os').map (fun r=>(⟨andO q r.o,r.ts,r.h,r.os⟩:OutG AV))=some out→o.wp E.P ⟨tmps,[]⟩ w K Q:=by
  intro os' q hx
  rw [zi5 (mk E) o _ _ id h os' hcon] at hx
  cases hy:zal (mk E) o (ev (mk E).G (tsOf m L m)) id h os' with
  | none=>simp [hy] at hx
  | some r1 =>
   simp only [hy,Option.map_some,Option.some.injEq] at hx
   subst hx
   have hst:zaB (mk E) o (tsOf m L m) h os'=some ⟨r1.o,AM.put (tsOf m L m) o.dst r1.ts,r1.h,r1.os⟩:=by
    unfold zaB
    rw [zoJ,hy]
    rfl
   exact zhk ht r rt hd hst (zld ho).2 ⟨fun β' S' w' tmps' hsz r' e' rt'=>g β' S' w' tmps' hsz r' e' (back β' S' w' tmps' _ _ hsz e' rt')⟩
 unfold wpG
 have hgst:∀ (b:Bool) (q:Option Prop) (os':List Orc),gst all o L os=some (b,q,os')→zaz q→Region.wanted o (yielded all.toArray tmps)=b:=by
  intro b q os' hg hq
  unfold gst at hg
  unfold Region.wanted
  split at hg
  ·rename_i hgu
   cases hg
   rw [hgu]
  ·rename_i j want hgu
   rw [hgu]
   simp only
   split at hg
   ·cases hg
   ·rename_i d hgt
    have hrd:=rl d
    split at hg
    ·rename_i bb hl
     cases hg
     rw [hl] at hrd
     rw [zd1 hgt hrd.bl_inv]
     cases bb <;> cases want <;> rfl
    ·rename_i hl
     cases hg
     rw [hl] at hrd
     obtain ⟨vs,he,hll,_⟩:=hrd.tup_inv
     have:vs=[]:=List.eq_nil_of_length_eq_zero (by simpa using hll.symm)
     rw [zjB hgt (by rw [he,this];rfl)]
     rfl
    ·rename_i t hl
     rw [hl] at hrd
     split at hg
     ·cases hg
      simp only [zaz] at hq
      subst hq
      rw [zd1 hgt hrd.v_inv]
      cases t <;> cases want <;> rfl
     ·cases hg
    ·cases hg
 split at hs
 ·rename_i q os' hg
  have hq:zaz q:=by
   cases hy:zal (mk E) o (evF (mk E).G L) id h os' with
   | none=>simp [hy] at hs
   | some r1 =>
    have hs':=hs
    simp only [hy,Option.map_some,Option.some.injEq] at hs'
    subst hs'
    exact (zld ho).1
  rw [if_pos (hgst true q os' hg hq)]
  exact exec os' q hs
 ·rename_i q os' hg
  simp only [Option.some.injEq] at hs
  have hq:zaz q:=by subst hs;exact ho
  rw [if_neg (by rw [hgst false q os' hg hq];simp)]
  exact skip q os' hs.symm
 ·cases hs
theorem zrj {E:Env0} (ht:zaO E) {all:List Oper} {os:Nat→List Orc} {n:Nat} {K:(Nat→AV)→Heap→Prop} {Q:Exit→Act→World→Prop} {hb:Heap} {βb:List Con} {Sb:Addr→Prop} {wb:World}
  (hK:∀ (L:Nat→AV) (h:Heap) (β:List Con) (S:Addr→Prop) (w:World) (tmps:Array Value),K L h→tmps.size=n→Ext hb βb Sb wb h β S w→Rel E h β S w→RelL E.T h β w S L tmps→Q .normal ⟨tmps,[]⟩ w) :
  ∀ (f:Nat) (listed:Array Bool) (L:Nat→AV) (h:Heap) (β:List Con) (S:Addr→Prop) (w:World) (tmps:Array Value),DG (mk E) all os n K f listed L h→tmps.size=n→Ext hb βb Sb wb h β S w→Rel E h β S w→RelL E.T h β w S L tmps →
   wpAny E.P .any all.toArray Q f listed ⟨tmps,[]⟩ w:=by
 intro f
 induction f with
 | zero =>
  intro listed L h β S w tmps H hn x r rl
  exact ⟨H.1,hK L h β S w tmps H.2 hn x r rl⟩
 | succ f ih =>
  intro listed L h β S w tmps H hn x r rl
  refine ⟨fun h0=>hK L h β S w tmps (H.1 h0) hn x r rl,fun i hi=>?_⟩
  obtain ⟨o,out,ho,hd,hs,hq,H'⟩:=H.2 i hi
  have:=zrw (Q:=Q) (K:=wpAny E.P .any all.toArray Q f (listed.setIfInBounds i true)) ht r rl (by rw [hn];exact hd) hs hq (fun β' S' w' tmps' hsz r' e' rl'=>ih _ _ _ β' S' w' tmps' H' (by rw [hsz];exact hn) (x.trans e') r' rl')
  unfold wpOp
  have hoa:all.toArray[i]?=some o:=by simpa using ho
  simp only [hoa]
  unfold wpG at this
  split
  ·rename_i hw;rw [if_pos hw] at this;exact .inl this
  ·rename_i hw;rw [if_neg hw] at this;exact this
theorem zno (b:Nat):∀ l:List Nat,memN b l=true↔b∈l
 | []=>by simp [memN]
 | x::r=>by
  simp only [memN,List.mem_cons]
  split
  ·rename_i hx;simp [Nat.eq_of_beq_eq_true hx]
  ·rename_i hx
   have hne:b≠x:=by rintro rfl;simp [Nat.beq_refl] at hx
   rw [zno b r]
   simp [hne]
def Lst (n:Nat) (done:List Nat) (listed:Array Bool):Prop:=listed.size=n∧∀ j,j < n→listed[j]?=some (memN j done)
theorem Lst.getT {n:Nat} {done:List Nat} {listed:Array Bool} (hl:Lst n done listed) {j:Nat} (hj:j < n) (d:Bool):listed.getD j d=memN j done:=by
 rw [Array.getD_eq_getD_getElem?,hl.2 j hj];rfl
theorem Lst.getF {n:Nat} {done:List Nat} {listed:Array Bool} (hl:Lst n done listed) {j:Nat} (hj:¬ j < n) (d:Bool):listed.getD j d=d:=by
 rw [Array.getD_eq_getD_getElem?,Array.getElem?_eq_none (by rw [hl.1];omega)];rfl
theorem Lst.add {n:Nat} {done:List Nat} {listed:Array Bool} (hl:Lst n done listed) {i:Nat} (hi:i < n):Lst n (i::done) (listed.setIfInBounds i true):=by
 refine ⟨by simp [hl.1],fun j hj=>?_⟩
 by_cases e:i=j
 ·subst e
  rw [Array.getElem?_setIfInBounds_self_of_lt (by rw [hl.1];exact hi)]
  simp [memN,Nat.beq_refl]
 ·rw [Array.getElem?_setIfInBounds_ne e,hl.2 j hj]
  have hb:Nat.beq i j=false:=by
   cases hh:Nat.beq i j with
   | false=>rfl
   | true=>exact absurd (Nat.eq_of_beq_eq_true hh) e
  simp [memN,hb]
theorem zev {all:List Oper} {done:List Nat} {listed:Array Bool} (hl:Lst all.length done listed) (hd:∀ x∈done,x < all.length) (i:Nat):i∈Region.ready .any all.toArray listed↔i∈zgW all done:=by
 rw [mem_ready]
 unfold zgW
 rw [List.mem_filter,List.mem_range]
 constructor
 ·rintro ⟨h1,o,ho,h2⟩
  have ho':all[i]?=some o:=by simpa using ho
  have hi:=(List.getElem?_eq_some_iff.1 ho').1
  refine ⟨hi,?_⟩
  rw [hl.getT hi] at h1
  rw [ho']
  simp only [h1,Bool.not_false,Bool.true_and,List.all_eq_true,Bool.or_eq_true,Bool.not_eq_true']
  intro e he
  by_cases hb:Region.binds .any e=true
  ·right
   have:=h2 e (by simpa using he) hb
   by_cases hen:e.on < all.length
   ·rwa [hl.getT hen] at this
   ·rw [hl.getF hen] at this;cases this
  ·left;simpa using hb
 ·rintro ⟨hi,h1⟩
  have ho:all[i]?=some all[i]:=List.getElem?_eq_getElem hi
  rw [ho] at h1
  simp only [Bool.and_eq_true,Bool.not_eq_true',List.all_eq_true,Bool.or_eq_true] at h1
  refine ⟨by rw [hl.getT hi];exact h1.1,all[i],by simp [hi],fun e he hb=>?_⟩
  rcases h1.2 e (by simpa using he) with h2|h2
  ·rw [hb] at h2;cases h2
  ·have hen:=hd e.on ((zno _ _).1 h2)
   rw [hl.getT hen];exact h2
theorem zrJ (ts:TS) (d:Option Tmp) (v:AV):look (put ts d v)=putF (look ts) d v:=by
 funext t
 cases d with
 | none=>rfl
 | some d =>
  simp only [put,look,putF]
  split
  ·rename_i hb;rw [if_pos (Nat.eq_of_beq_eq_true hb).symm]
  ·rename_i hb
   have hne:t≠d:=by rintro rfl;simp [Nat.beq_refl] at hb
   rw [if_neg hne]
theorem znT {q:Option Prop} {l:List Prop × TS × Heap} (h:allP (ziR q l).1):zaz q∧allP l.1:=by
 cases q with
 | none=>exact ⟨trivial,h⟩
 | some p =>
  simp only [ziR] at h
  cases hl:l.1 with
  | nil=>rw [hl] at h;exact ⟨h,trivial⟩
  | cons a r=>rw [hl] at h;exact h
theorem znj {E:Env} {all:List Oper} {osl:List (Nat × List Orc)} {n:Nat} {lv:List Nat→TS→Heap→Option (List (List Prop × TS × Heap))} {done:List Nat} {ts:TS} {h:Heap} {i:Nat} {Ls:List (List Prop × TS × Heap)}
  (hg:goD E all osl n lv done ts h i=some Ls):∃ o out L2,all[i]?=some o∧za4 n o.dst=true∧zcR E all o (look ts) h (osAt osl i)=some out∧lv (i::done) (put ts o.dst out.ts) out.h=some L2∧Ls=L2.map (ziR out.o):=by
 unfold goD at hg
 cases ho:all[i]? with
 | none=>simp [ho] at hg
 | some o =>
  simp only [ho] at hg
  cases hd:za4 n o.dst with
  | false=>simp [hd] at hg
  | true =>
   cases hs:zcR E all o (look ts) h (osAt osl i) with
   | none=>simp [hd,hs] at hg
   | some out =>
    simp only [hd,hs] at hg
    cases hl:lv (i::done) (put ts o.dst out.ts) out.h with
    | none=>simp [hl] at hg
    | some L2 =>
     simp only [hl,Option.map_some,Option.some.injEq] at hg
     exact ⟨o,out,L2,rfl,hd,hs,hl,hg.symm⟩
theorem zkT {go:Nat→Option (List (List Prop × TS × Heap))}:∀ (l:List Nat) (Lt:List (List Prop × TS × Heap)),allD go l=some Lt→∀ i∈l,∃ La,go i=some La∧∀ x∈La,x∈Lt
 | [],_,_,i,hi=>by cases hi
 | c::l,Lt,he,i,hi=>by
  unfold allD at he
  cases hc:go c with
  | none=>simp [hc] at he
  | some a =>
   cases hb:allD go l with
   | none=>simp [hc,hb] at he
   | some b =>
    simp only [hc,hb,Option.some.injEq] at he
    subst he
    rcases List.mem_cons.1 hi with h1|h1
    ·subst h1;exact ⟨a,hc,fun x hx=>List.mem_append.2 (.inl hx)⟩
    ·obtain ⟨La,l1,l2⟩:=zkT l b hb i h1
     exact ⟨La,l1,fun x hx=>List.mem_append.2 (.inr (l2 x hx))⟩
theorem zla {E:Env} {all:List Oper} {osl:List (Nat × List Orc)} {n:Nat}:∀ (f:Nat) (done:List Nat) (ts:TS) (h:Heap),zdH E all osl n f done ts h≠some []
 | 0,done,ts,h,he=>by
  unfold zdH at he
  split at he <;> cases he
 | f+1,done,ts,h,he=>by
  have one:∀ i,goD E all osl n (zdH E all osl n f) done ts h i≠some []:=by
   intro i hi
   obtain ⟨o,out,L2,_,_,_,h4,h5⟩:=znj hi
   have:L2=[]:=by simpa using h5.symm
   subst this
   exact zla f _ _ _ h4
  unfold zdH at he
  split at he
  ·cases he
  ·rename_i r rs _
   split at he
   ·exact one _ he
   ·obtain ⟨La,l1,l2⟩:=zkT _ _ he r (by simp)
    cases La with
    | nil=>exact one _ l1
    | cons a l=>have:=l2 a (by simp);cases this
theorem zqR {E:Env} {all:List Oper} {osl:List (Nat × List Orc)} {n:Nat} {K:(Nat→AV)→Heap→Prop} :
  ∀ (f:Nat) (done:List Nat) (listed:Array Bool) (ts:TS) (h:Heap) (Ls:List (List Prop × TS × Heap)),Lst all.length done listed→(∀ x∈done,x < all.length)→zhW all.toArray listed→zdH E all osl n f done ts h=some Ls →
   (∀ l∈Ls,allP l.1∧K (look l.2.1) l.2.2)→DG E all (osAt osl) n K f listed (look ts) h:=by
 intro f
 induction f with
 | zero =>
  intro done listed ts h Ls hl hd hc hs hK
  unfold zdH at hs
  split at hs
  ·rename_i hr
   cases hs
   refine ⟨?_,(hK ([],ts,h) (by simp)).2⟩
   cases hrr:Region.ready .any all.toArray listed with
   | nil=>rfl
   | cons a r =>
    have:=(zev hl hd a).1 (by rw [hrr];simp)
    rw [hr] at this
    cases this
  ·cases hs
 | succ f ih =>
  intro done listed ts h Ls hl hd hc hs hK
  have goOk:∀ (i:Nat) (Ls':List (List Prop × TS × Heap)),i∈zgW all done→goD E all osl n (zdH E all osl n f) done ts h i=some Ls'→(∀ l∈Ls',allP l.1∧K (look l.2.1) l.2.2) →
    ∃ o out,all[i]?=some o∧za4 n o.dst=true∧zcR E all o (look ts) h (osAt osl i)=some out∧zaz out.o∧DG E all (osAt osl) n K f (listed.setIfInBounds i true) (putF (look ts) o.dst out.ts) out.h:=by
   intro i Ls' hi hg hK'
   obtain ⟨o,out,L2,ho,hdst,hst,hlv,hLs⟩:=znj hg
   subst hLs
   have hil:=(List.getElem?_eq_some_iff.1 ho).1
   have hq:zaz out.o:=by
    cases L2 with
    | nil=>exact absurd hlv (zla _ _ _ _)
    | cons a r=>exact (znT (hK' (ziR out.o a) (by simp)).1).1
   refine ⟨o,out,ho,hdst,hst,hq,?_⟩
   rw [← zrJ]
   refine ih (i::done) _ _ _ L2 (hl.add hil) (fun x hx=>?_) (zlH hc ((zev hl hd i).2 hi)) hlv (fun l hll=>?_)
   ·rcases List.mem_cons.1 hx with h1|h1
    ·rw [h1];exact hil
    ·exact hd x h1
   ·have h1:=hK' (ziR out.o l) (List.mem_map.2 ⟨l,hll,rfl⟩)
    refine ⟨(znT h1.1).2,?_⟩
    have:(ziR out.o l).2=l.2:=by cases out.o <;> rfl
    rw [this] at h1
    exact h1.2
  unfold zdH at hs
  cases hr:zgW all done with
  | nil =>
   simp only [hr,Option.some.injEq] at hs
   subst hs
   refine zsm ?_ (hK ([],ts,h) (by simp)).2 _
   cases hrr:Region.ready .any all.toArray listed with
   | nil=>rfl
   | cons a r =>
    have:=(zev hl hd a).1 (by rw [hrr];simp)
    rw [hr] at this
    cases this
  | cons r rs =>
   simp only [hr] at hs
   cases hfind:(r::rs).find? (first E all osl done ts h) with
   | some i =>
    simp only [hfind] at hs
    have hmem:i∈zgW all done:=by rw [hr];exact List.mem_of_find?_eq_some hfind
    have hfi:=List.find?_some hfind
    obtain ⟨o,out,ho,hdst,hst,hq,hDG⟩:=goOk i Ls hmem hs hK
    unfold first at hfi
    rw [ho] at hfi
    simp only at hfi
    split at hfi
    ·cases hfi
    ·rename_i B hB
     simp only [Bool.and_eq_true,List.all_eq_true] at hfi
     obtain ⟨hbx,hpr⟩:=hfi
     obtain ⟨hh,_⟩:=zfC hB hst (h':=h) (fun _ _=>rfl)
     rw [hh] at hDG
     refine zsG ho hdst all.length f listed _ h out B hc ((zev hl hd i).2 hmem) hB hst hq (fun b hb=>Option.isSome_iff_exists.1 (hbx b hb)) (fun j oj hoj hji hun=>?_) hDG
     have hjl:=(List.getElem?_eq_some_iff.1 hoj).1
     have h1:=hpr j (List.mem_range.2 hjl)
     rw [hl.getT hjl] at hun
     simp only [Bool.or_eq_true,hoj,hun,Bool.false_eq_true,or_false,Bool.and_eq_true] at h1
     rcases h1 with (h1|h1)|h1
     ·exact absurd (Nat.eq_of_beq_eq_true h1) hji
     ·exact .inl h1
     ·exact .inr h1
   | none =>
    simp only [hfind] at hs
    refine DG_all (fun h0=>?_) (fun i hi=>?_)
    ·have:=(zev hl hd r).2 (by rw [hr];simp)
     rw [h0] at this
     cases this
    ·have hi':=(zev hl hd i).1 hi
     obtain ⟨La,l1,l2⟩:=zkT (r::rs) Ls hs i (by rw [← hr];exact hi')
     exact goOk i La hi' l1 (fun l hl'=>hK l (l2 l hl'))
theorem zmk (k:Nat) (v:AV):∀ (l:TS) (t:Nat),look (insK k v l) t=look ((k,v)::l) t
 | [],t=>rfl
 | (j,x)::r,t=>by
  unfold insK
  cases h1:Nat.beq k j with
  | true =>
   have:=Nat.eq_of_beq_eq_true h1
   subst this
   simp only [look]
   split <;> rfl
  | false =>
   cases h2:Nat.blt k j with
   | true=>rfl
   | false =>
    have ih:=zmk k v r t
    have hne:k≠j:=fun e=>by subst e;simp at h1
    simp only [look] at ih ⊢
    rw [ih]
    cases h3:Nat.beq j t with
    | true =>
     have:=Nat.eq_of_beq_eq_true h3
     subst this
     simp [h1]
    | false=>rfl
theorem ziD:∀ (l:TS) (t:Nat),look (zlL l) t=look l t
 | [],_=>rfl
 | (k,v)::r,t=>by
  simp only [zlL,zmk,look]
  split
  ·rfl
  ·exact ziD r t
theorem zmt {ts:TS} {h:Heap}:∀ {Ls:List (List Prop × TS × Heap)},zpn ts h Ls→∀ l∈Ls,allP l.1∧look l.2.1=look ts∧l.2.2=h
 | [],_,l,hl=>by cases hl
 | x::r,hs,l,hl=>by
  rcases List.mem_cons.mp hl with rfl|hl
  ·refine ⟨hs.1.1,?_,hs.1.2.2⟩
   funext t
   rw [← ziD,hs.1.2.1,ziD]
  ·exact zmt hs.2 l hl
theorem zqn {q:List Prop} {ts:TS} {h:Heap} {more:List (List Prop × TS × Heap)} (hm:zp6 q ts h more):∀ l∈(q,ts,h)::more,allP l.1∧look l.2.1=look ts∧l.2.2=h:=by
 intro l hl
 cases more with
 | nil =>
  simp only [List.mem_singleton] at hl
  subst hl
  exact ⟨hm,rfl,rfl⟩
 | cons x r =>
  rcases List.mem_cons.mp hl with rfl|hl
  ·exact ⟨hm.1,rfl,rfl⟩
  ·exact zmt hm.2 l hl
theorem zrZ {E:Env0} (ht:zaO E) (hm:E.P.follows .mixedOrders=true) {id:Nat} {ops:Array Oper} {osl:List (Nat × List Orc)} {n:Nat} {ts ts1:TS} {h h1 hb:Heap} {qs:List Prop} {Q:Exit→Act→World→Prop} {βb β:List Con} {Sb S:Addr→Prop} {wb w:World} {tmps:Array Value} {more:List (List Prop × TS × Heap)}
  (hsz:ops.toList.length=ops.size) (hlv:zdH (mk E) ops.toList osl n ops.toList.length [] ts h=some ((qs,ts1,h1)::more)) (hq:zp6 qs ts1 h1 more) (hn:tmps.size=n) (x:Ext hb βb Sb wb h β S w) (r:Rel E h β S w) (rt:zaQ E.T h β w S ts tmps)
  (hK:∀ (β':List Con) (S':Addr→Prop) (w':World) (tmps':Array Value),tmps'.size=n→Ext hb βb Sb wb h1 β' S' w'→Rel E h1 β' S' w'→zaQ E.T h1 β' w' S' ts1 tmps'→Q .normal ⟨tmps',[]⟩ w') :
  (Code.region id ops true).wp E.P Q ⟨tmps,[]⟩ w:=by
 refine wp_region_any hm ?_
 have hdg:=zqR (E:=mk E) (K:=fun L hh=>L=look ts1∧hh=h1) ops.toList.length [] (Array.replicate ops.size false) ts h _ ⟨by simp,fun j hj=>?_⟩ (by simp) (fun j o ho hj=>?_) hlv (fun l hl=>?_)
 ·have hbel:Below w.heap.size w { w with drawn:=w.drawn+1 }:=⟨rfl,rfl,rfl,Nat.le_refl _,fun _ _=>rfl⟩
  have x1:Ext h β S w h β S { w with drawn:=w.drawn+1 }:=Ext.grow r hbel (fun _ h=>h) (fun _ h=>.inl h)
  have r1:Rel E h β S { w with drawn:=w.drawn+1 }:=r.grow hbel (fun _ h=>h) (fun _ h=>.inl h)
  have:=zrj (Q:=Q) ht (fun L hh β' S' w' tmps' hKK hn' x' r' rl'=>by
   obtain ⟨rfl,rfl⟩:=hKK
   exact hK β' S' w' tmps' hn' x' r' rl') ops.toList.length _ _ _ β S _ tmps hdg hn (x.trans x1) r1 (fun t=>(rt t).ext x1)
  rw [hsz] at this
  simpa using this
 ·have:j < ops.size:=by simpa using hj
  simp [memN,this]
 ·by_cases hjs:j < ops.size
  ·simp [hjs] at hj
  ·simp [hjs] at hj
 ·exact zqn hq l hl
end Go.AM
namespace Go.AM
open Go.RowKit
set_option linter.unusedSimpArgs false
set_option linter.unusedVariables false
section
variable {E : Env0} {h : Heap} {β : List Con} {S : Addr → Prop} {w : World} {tmps : Array Value} {ts : TS} {K : Act → World → Prop} {Q : Exit → Act → World → Prop} {o : Oper} {os : List Orc} {out : Out}
theorem zpC {P:Program} {o:Oper} {a:Act} {w:World} {K K':Act→World→Prop} {Q Q':Exit→Act→World→Prop} (h:∀ a w,K a w→K' a w) (hq:∀ e a w,Q e a w→Q' e a w)
  (hh:o.wp P a w K Q):o.wp P a w K' Q':=by
 unfold Oper.wp at *
 generalize (execOp a.eval o).run P w=r at *
 cases r with
 | ok n w' =>
  cases n <;> simp only [Oper.upon] at hh ⊢ <;>
   first
    | exact h _ _ hh
    | exact Calls.mono hh (fun e w'' he=>by cases e <;> first|exact h _ _ he|exact hq _ _ _ he|exact (let ⟨a,w,q⟩:=he;⟨a,w,hq _ _ _ q⟩))
    | exact Rows.mono hh (fun _ _ he=>h _ _ he)
 | halt x w'=>cases x <;> simp only [Oper.upon] at hh ⊢ <;> first|exact hh|exact hq _ _ _ hh
theorem zgT {P:Program} {ops:Array Oper} {Q Q':Exit→Act→World→Prop} (hq:∀ e a w,Q e a w→Q' e a w):∀ (l:List Oper) (a:Act) (w:World),wpList P ops Q l a w→wpList P ops Q' l a w
 | [],a,w,h=>hq _ _ _ h
 | o::r,a,w,h=>by
  unfold wpList at h ⊢
  split
  ·rename_i hw
   rw [if_pos hw] at h
   rcases h with h|⟨h1,a',w',h2⟩
   ·exact .inl (zpC (fun a w hh=>zgT hq r a w hh) hq h)
   ·exact .inr ⟨h1,a',w',hq _ _ _ h2⟩
  ·rename_i hw
   rw [if_neg hw] at h
   exact zgT hq r _ _ h
def lpWp (P:Program) (c:Code) (Q:Exit→Act→World→Prop) (a:Act) (w:World):Prop :=
 ∀ (b:Frame) (k:List Item) (cs:List Frame),∃ e a' w',Q e a' w'∧Arrives P (lone (b.at a (.code c::.inLoop c::k)) cs w) b k cs e a' w'
theorem zqI {P:Program} {c:Code} {Q Q':Exit→Act→World→Prop} {a:Act} {w:World} (h:lpWp P c Q a w) (hq:∀ e a w,Q e a w→Q' e a w):lpWp P c Q' a w :=
 fun b k cs=>let ⟨e,a',w',q,r⟩:=h b k cs;⟨e,a',w',hq _ _ _ q,r⟩
theorem zpD {P:Program} {c:Code} {Q:Exit→Act→World→Prop} {a:Act} {w:World} (h:lpWp P c Q a w):(Code.loop c).wp P Q a w :=
 fun b k cs=>let ⟨e,a',w',q,r⟩:=h b k cs;⟨e,a',w',q,.of_steps (.one step_loop) r⟩
theorem zpG {P:Program} {c:Code} {Q:Exit→Act→World→Prop} {a:Act} {w:World} (h:c.wp P (Exit.then (lpWp P c Q) Q) a w):lpWp P c Q a w:=by
 intro b k cs
 obtain ⟨e,a₁,w₁,hq,harr⟩:=h b (.inLoop c::k) cs
 cases e with
 | normal =>
  obtain ⟨e₂,a₂,w₂,hq₂,harr₂⟩:=hq b k cs
  exact ⟨e₂,a₂,w₂,hq₂,.of_steps (Steps.trans harr (.one step_inLoop)) harr₂⟩
 | exit id=>exact ⟨_,a₁,w₁,hq,.pass (x:=.inLoop c) rfl (fun _ _=>.inl (by simp)) harr⟩
 | goto l=>exact ⟨_,a₁,w₁,hq,.pass (x:=.inLoop c) rfl (fun _ _=>.inl (by simp)) harr⟩
 | ret=>exact ⟨_,a₁,w₁,hq,.pass (x:=.inLoop c) rfl (fun _ _=>.inl (by simp)) harr⟩
 | panic ch=>exact ⟨_,a₁,w₁,hq,.pass (x:=.inLoop c) rfl (fun _ _=>.inl (by simp)) harr⟩
 | outgrown=>exact ⟨_,a₁,w₁,hq,.pass (x:=.inLoop c) rfl (fun _ _=>.inl (by simp)) harr⟩
def kont (P:Program):List It→(Exit→Act→World→Prop)→Exit→Act→World→Prop
 | [],Q,e,a,w=>Q e a w
 | .code c::k,Q,e,a,w=>Exit.then (fun a w=>c.wp P (kont P k Q) a w) (kont P k Q) e a w
 | .ops all rest::k,Q,e,a,w=>Exit.then (fun a w=>wpList P all.toArray (kont P k Q) rest a w) (kont P k Q) e a w
 | .blk id::k,Q,e,a,w=>Exit.inBlock id (kont P k Q) e a w
 | .lp c::k,Q,e,a,w=>Exit.then (fun a w=>lpWp P c (kont P k Q) a w) (kont P k Q) e a w
theorem zjZ {N N':Act→World→Prop} {Q Q':Exit→Act→World→Prop} (hn:∀ a w,N a w→N' a w) (hq:∀ e a w,Q e a w→Q' e a w):∀ e a w,Exit.then N Q e a w→Exit.then N' Q' e a w:=by
 intro e a w h
 cases e <;> first|exact hn _ _ h|exact hq _ _ _ h
theorem znu {id:Nat} {Q Q':Exit→Act→World→Prop} (hq:∀ e a w,Q e a w→Q' e a w):∀ e a w,Exit.inBlock id Q e a w→Exit.inBlock id Q' e a w:=by
 intro e a w h
 cases e with
 | exit i =>
  simp only [Exit.inBlock] at h ⊢
  split
  ·rename_i hi;rw [if_pos hi] at h;exact hq _ _ _ h
  ·rename_i hi;rw [if_neg hi] at h;exact hq _ _ _ h
 | _=>exact hq _ _ _ h
theorem zdw {P:Program} {Q Q':Exit→Act→World→Prop} (hq:∀ e a w,Q e a w→Q' e a w):∀ (k:List It) (e:Exit) (a:Act) (w:World),kont P k Q e a w→kont P k Q' e a w
 | [],e,a,w,h=>hq e a w h
 | .code c::k,e,a,w,h=>zjZ (fun a w hh=>wp_mono hh (zdw hq k)) (zdw hq k) e a w h
 | .ops all rest::k,e,a,w,h=>zjZ (fun a w hh=>zgT (zdw hq k) rest a w hh) (zdw hq k) e a w h
 | .blk id::k,e,a,w,h=>znu (zdw hq k) e a w h
 | .lp c::k,e,a,w,h=>zjZ (fun a w hh=>zqI hh (zdw hq k)) (zdw hq k) e a w h
theorem zf5 {P:Program} {fn:Func} {R:Ending→World→Prop}:∀ (k:List It) (l:Nat) (a:Act) (w:World),kont P k (bodyPost P fn R) (.goto l) a w→False
 | [],_,_,_,h=>h
 | .code _::k,l,a,w,h=>zf5 k l a w h
 | .ops _ _::k,l,a,w,h=>zf5 k l a w h
 | .blk _::k,l,a,w,h=>zf5 k l a w h
 | .lp _::k,l,a,w,h=>zf5 k l a w h
theorem Post.ext {h':Heap} {β':List Con} {S':Addr→Prop} {w':World} {R:AV→Heap→Prop} (x:Ext h β S w h' β' S' w') (e:Ending) (w'':World) (hp:Post E h' β' S' w' R e w''):Post E h β S w R e w'':=by
 obtain ⟨r,h2,β2,S2,y,h1,h3,h4,h5,h6⟩:=hp
 exact ⟨r,h2,β2,S2,y,h1,h3,h4,x.trans h5,h6⟩
theorem zmy {P:Program} {fn:Func} {R R':Ending→World→Prop} (hr:∀ e w,R e w→R' e w):∀ e a w,bodyPost P fn R e a w→bodyPost P fn R' e a w:=by
 intro e a w h
 cases e with
 | normal=>obtain ⟨h1,v,h2,h3⟩:=h;exact ⟨h1,v,h2,hr _ _ h3⟩
 | ret=>obtain ⟨h1,v,h2,h3⟩:=h;exact ⟨h1,v,h2,hr _ _ h3⟩
 | panic c=>obtain ⟨h1,h2⟩:=h;exact ⟨h1,hr _ _ h2⟩
 | outgrown=>exact hr _ _ h
 | exit i=>exact h
 | goto l=>exact h
def Good (E:Env0) (fn:Func) (h0:Heap) (c:Cfg) (R:AV→Heap→Prop):Prop :=
 ∀ (β0:List Con) (S0:Addr→Prop) (w0:World) (β:List Con) (S:Addr→Prop) (w:World) (tmps:Array Value),β0.length=h0.length→tmps.size=c.n→Ext h0 β0 S0 w0 c.h β S w→Rel E c.h β S w→zaQ E.T c.h β w S c.ts tmps →
  kont E.P c.todo (bodyPost E.P fn (Post E h0 β0 S0 w0 R)) .normal ⟨tmps,[]⟩ w
theorem zfK {P:Program} {Q:Exit→Act→World→Prop} {id:Nat}:∀ (k k':List It) (a:Act) (w:World),zfQ id k=some k'→kont P k' Q .normal a w→kont P k Q (.exit id) a w
 | [],k',a,w,he,_=>by cases he
 | .blk i::k,k',a,w,he,hk=>by
  unfold zfQ at he
  simp only [kont,Exit.inBlock]
  split at he
  ·rename_i hi
   have:=Nat.eq_of_beq_eq_true hi
   subst this
   cases he
   rw [if_pos rfl]
   exact hk
  ·rename_i hi
   have hne:¬ id=i:=by rintro rfl;simp [Nat.beq_refl] at hi
   rw [if_neg hne]
   exact zfK k k' a w he hk
 | .code c::k,k',a,w,he,hk=>by simp only [kont,Exit.then];exact zfK k k' a w (by simpa [zfQ] using he) hk
 | .ops all r::k,k',a,w,he,hk=>by simp only [kont,Exit.then];exact zfK k k' a w (by simpa [zfQ] using he) hk
 | .lp c::k,k',a,w,he,hk=>by simp only [kont,Exit.then];exact zfK k k' a w (by simpa [zfQ] using he) hk
theorem zo8 (ht:zaO E) (hm:E.P.follows .mixedOrders=true) {fn:Func} {R:AV→Heap→Prop} {c c':Cfg} {os os':List Orc} {q:Option Prop} (hs:step (mk E) c os=some (q,c',os')) {h0:Heap} (hq:zaz q) (hg:Good E fn h0 c' R):Good E fn h0 c R:=by
 intro β0 S0 w0 β S w tmps hb0 hn x0 r rt
 obtain ⟨n,todo,ts,h⟩:=c
 simp only at hn x0 r rt ⊢
 unfold step at hs
 simp only at hs
 cases todo with
 | nil=>cases hs
 | cons it k =>
  cases it with
  | blk id =>
   simp only [Option.some.injEq,Prod.mk.injEq] at hs
   obtain ⟨_,rfl,_⟩:=hs
   exact hg β0 S0 w0 β S w tmps hb0 hn x0 r rt
  | lp cc=>cases hs
  | ops all rest =>
   cases rest with
   | nil =>
    simp only [Option.some.injEq,Prod.mk.injEq] at hs
    obtain ⟨_,rfl,_⟩:=hs
    exact hg β0 S0 w0 β S w tmps hb0 hn x0 r rt
   | cons o rest =>
    simp only at hs
    split at hs
    ·rename_i x hdst hx
     simp only [Option.some.injEq,Prod.mk.injEq] at hs
     obtain ⟨rfl,rfl,_⟩:=hs
     have hd:za4 tmps.size o.dst=true:=by rw [hn];exact hdst
     simp only [kont,Exit.then]
     refine wpList_step fun K hK=>?_
     have:=zrM (Q:=kont E.P k (bodyPost E.P fn (Post E h0 β0 S0 w0 R))) (K:=K) ht r rt hd hx hq ⟨fun β' S' w' tmps' hsz r' e' rt'=>hK _ _ ?_⟩
     ·exact this
     ·have:=hg β0 S0 w0 β' S' w' tmps' hb0 (by rw [hsz];exact hn) (x0.trans e') r' rt'
      simp only [kont,Exit.then] at this
      exact this
    ·cases hs
  | code cc =>
   simp only [kont,Exit.then]
   cases cc with
   | skip =>
    simp only [Option.some.injEq,Prod.mk.injEq] at hs
    obtain ⟨_,rfl,_⟩:=hs
    exact wp_skip (hg β0 S0 w0 β S w tmps hb0 hn x0 r rt)
   | label l =>
    simp only [Option.some.injEq,Prod.mk.injEq] at hs
    obtain ⟨_,rfl,_⟩:=hs
    exact wp_label (hg β0 S0 w0 β S w tmps hb0 hn x0 r rt)
   | scope a =>
    simp only [Option.some.injEq,Prod.mk.injEq] at hs
    obtain ⟨_,rfl,_⟩:=hs
    refine wp_scope_straight (wp_mono (hg β0 S0 w0 β S w tmps hb0 hn x0 r rt) fun e a w he=>?_)
    cases e with
    | goto l=>exact zf5 k l a w he
    | _=>exact he
   | loop a =>
    simp only [Option.some.injEq,Prod.mk.injEq] at hs
    obtain ⟨_,rfl,_⟩:=hs
    exact zpD (hg β0 S0 w0 β S w tmps hb0 hn x0 r rt)
   | seq a b =>
    simp only [Option.some.injEq,Prod.mk.injEq] at hs
    obtain ⟨_,rfl,_⟩:=hs
    refine wp_seq (wp_mono (hg β0 S0 w0 β S w tmps hb0 hn x0 r rt) fun e a w he=>?_)
    cases e <;> exact he
   | block id a =>
    simp only [Option.some.injEq,Prod.mk.injEq] at hs
    obtain ⟨_,rfl,_⟩:=hs
    refine wp_block (wp_mono (hg β0 S0 w0 β S w tmps hb0 hn x0 r rt) fun e a w he=>?_)
    cases e <;> exact he
   | region id ops draw =>
    cases draw with
    | true =>
     simp only at hs
     split at hs
     ·rename_i l os1
      split at hs
      ·rename_i qs ts1 h1 hlv hsz
       simp only [Option.some.injEq,Prod.mk.injEq] at hs
       obtain ⟨rfl,rfl,_⟩:=hs
       simp only [zaz] at hq
       exact zrZ ht hm (Nat.eq_of_beq_eq_true hsz) hlv hq hn x0 r rt (fun β' S' w' tmps' hn' x' r' rt'=>hg β0 S0 w0 β' S' w' tmps' hb0 hn' x' r' rt')
      ·cases hs
     ·cases hs
    | false =>
     simp only [Option.some.injEq,Prod.mk.injEq] at hs
     obtain ⟨_,rfl,_⟩:=hs
     have:=hg β0 S0 w0 β S w tmps hb0 hn x0 r rt
     simp only [kont,Exit.then] at this
     exact wp_region_list this
   | exit id =>
    simp only at hs
    split at hs
    ·rename_i k' hk
     simp only [Option.some.injEq,Prod.mk.injEq] at hs
     obtain ⟨_,rfl,_⟩:=hs
     exact wp_exit (zfK k k' _ _ hk (hg β0 S0 w0 β S w tmps hb0 hn x0 r rt))
    ·cases hs
   | cond x a b =>
    have hx:=za3 (ds:=[]) r rt x
    have lit:∀ bb,Act.eval ⟨tmps,[]⟩ x=.bool bb→zaQ E.T h β w S (zpU ts bb x) tmps:=by
     intro bb he
     cases x with
     | tmp d=>exact rt.lit he
     | _=>exact rt
    simp only at hs
    split at hs
    ·rename_i he
     simp only [mk_G] at he
     rw [he] at hx
     simp only [Option.some.injEq,Prod.mk.injEq] at hs
     obtain ⟨_,rfl,_⟩:=hs
     exact wp_cond_true hx.bl_inv (hg β0 S0 w0 β S w tmps hb0 hn x0 r rt)
    ·rename_i he
     simp only [mk_G] at he
     rw [he] at hx
     simp only [Option.some.injEq,Prod.mk.injEq] at hs
     obtain ⟨_,rfl,_⟩:=hs
     exact wp_cond_false hx.bl_inv (hg β0 S0 w0 β S w tmps hb0 hn x0 r rt)
    ·rename_i t he
     simp only [mk_G] at he
     rw [he] at hx
     split at hs
     ·simp only [Option.some.injEq,Prod.mk.injEq] at hs
      obtain ⟨rfl,rfl,_⟩:=hs
      simp only [zaz] at hq
      subst hq
      exact wp_cond_true hx.v_inv (hg β0 S0 w0 β S w tmps hb0 hn x0 r (lit _ hx.v_inv))
     ·simp only [Option.some.injEq,Prod.mk.injEq] at hs
      obtain ⟨rfl,rfl,_⟩:=hs
      simp only [zaz] at hq
      subst hq
      exact wp_cond_false hx.v_inv (hg β0 S0 w0 β S w tmps hb0 hn x0 r (lit _ hx.v_inv))
     ·cases hs
    ·cases hs
   | _=>cases hs
theorem zka {q:Prop} {l:List Prop} (h:allP (q::l)):q∧allP l:=by
 cases l with
 | nil=>exact ⟨h,trivial⟩
 | cons a l=>exact h
theorem zhM (ht:zaO E) (hm:E.P.follows .mixedOrders=true) {fn:Func} {R:AV→Heap→Prop} {h0:Heap}:∀ (n:Nat) (c:Cfg) (os:List Orc),allP (run (mk E) n c os).1→Good E fn h0 (run (mk E) n c os).2.1 R→Good E fn h0 c R
 | 0,c,os,_,hg=>hg
 | n+1,c,os,hq,hg=>by
  unfold run at hq hg
  cases hs:step (mk E) c os with
  | none=>simp only [hs] at hg;exact hg
  | some x =>
   obtain ⟨q,c',os'⟩:=x
   cases q with
   | none =>
    simp only [hs] at hq hg
    exact zo8 ht hm hs trivial (zhM ht hm n c' os' hq hg)
   | some q =>
    simp only [hs] at hq hg
    obtain ⟨h1,h2⟩:=zka hq
    exact zo8 ht hm hs h1 (zhM ht hm n c' os' h2 hg)
theorem zqd {fn:Func} {R:AV→Heap→Prop} {h0:Heap} {n:Nat} {c:Code} {k:List It} {ts:TS} {h:Heap} (hg:Good E fn h0 ⟨n,.code c::.lp c::k,ts,h⟩ R):Good E fn h0 ⟨n,.lp c::k,ts,h⟩ R:=by
 intro β0 S0 w0 β S w tmps hb0 hn x0 r rt
 have:=hg β0 S0 w0 β S w tmps hb0 hn x0 r rt
 simp only [kont,Exit.then] at this ⊢
 refine zpG (wp_mono this fun e a w he=>?_)
 cases e <;> exact he
theorem zpl {m b i:Nat} (h:zcS m b=some i):i=b∧b < m:=by
 unfold zcS at h
 split at h
 ·rename_i hb
  cases h
  exact ⟨rfl,Nat.le_of_ble_eq_true hb⟩
 ·cases h
theorem zrD {m b:Nat} (h:b < m):zcS m b=some b:=by
 have hb:Nat.blt b m=true:=Nat.ble_eq_true_of_le h
 unfold zcS
 rw [hb]
theorem Rel.first (r:Rel E h β S w) (m:Nat):Rel E ((h.take m).map (zbB (zcS m))) (β.take m) S w ∧
  (∀ (x:AV) (y:Value),RelV E.T h β w S x y→RelV E.T ((h.take m).map (zbB (zcS m))) (β.take m) w S (ren (zcS m) x) y):=by
 have hget:∀ (b:Nat) (x:Blk),((h.take m).map (zbB (zcS m)))[b]?=some x→b < m∧∃ y,h[b]?=some y∧x=zbB (zcS m) y:=by
  intro b x hx
  simp only [List.getElem?_map,Option.map_eq_some_iff] at hx
  obtain ⟨y,h1,h2⟩:=hx
  rw [List.getElem?_take] at h1
  split at h1
  ·rename_i hb;exact ⟨hb,y,h1,h2.symm⟩
  ·cases h1
 have hgetB:∀ (b:Nat) (k:Con),(β.take m)[b]?=some k→b < m∧β[b]?=some k:=by
  intro b k hk
  rw [List.getElem?_take] at hk
  split at hk
  ·rename_i hb;exact ⟨hb,hk⟩
  ·cases hk
 have hB:∀ b,b < m→(β.take m)[b]?=β[b]?:=fun b hb=>by rw [List.getElem?_take,if_pos hb]
 have hσ:∀ (b i:Nat),zcS m b=some i→(β.take m)[i]?=β[b]?∧∀ e xs sh,h[b]?=some (.row e xs sh)→((h.take m).map (zbB (zcS m)))[i]?=some (.row e xs sh):=by
  intro b i hi
  obtain ⟨rfl,hb⟩:=zpl hi
  exact ⟨hB _ hb,fun e xs sh h1=>by rw [List.getElem?_map,List.getElem?_take,if_pos hb,h1];rfl⟩
 refine ⟨{
  len:=by simp [r.len]
  box:=fun b cs hb=>?_
  row:=fun b e xs sh hb=>?_
  apart:=fun b b' k k' g hb hb' hk hk'=>r.apart b b' k k' g (hgetB b k hb).2 (hgetB b' k' hb').2 hk hk'
  lt:=fun b k g hb hk=>r.lt b k g (hgetB b k hb).2 hk
  stable:=r.stable
  free:=fun b k g a hb hk ha hag=>?_
  glob:=r.glob },zfr hσ⟩
 ·obtain ⟨hbm,y,h1,h2⟩:=hget b _ hb
  obtain ⟨ds,rfl,rfl⟩:=ziv h2.symm
  obtain ⟨g,vs,t,c1,c2,c3,c4⟩:=r.box b ds h1
  obtain ⟨q1,q2⟩:=zen (T:=E.T) (w:=w) (S:=S) hσ ds vs c3 (fun i x y hx hy=>(c4 i x y hx hy).1)
  refine ⟨g,vs,t,by rw [hB b hbm];exact c1,c2,q1,fun j x y hx hy=>⟨q2 j x y hx hy,?_⟩⟩
  have hjl:j < ds.length:=by rw [c3];exact (List.getElem?_eq_some_iff.1 hy).1
  exact (c4 j _ y (List.getElem?_eq_getElem hjl) hy).2
 ·obtain ⟨hbm,y,h1,h2⟩:=hget b _ hb
  have:=ziM h2.symm
  subst this
  obtain ⟨k,c1,c2⟩:=r.row b e xs sh h1
  exact ⟨k,by rw [hB b hbm];exact c1,c2⟩
 ·obtain ⟨hbm,hb2⟩:=hgetB b k hb
  obtain ⟨e,xs,c1,c2⟩:=r.free b k g a hb2 hk ha hag
  exact ⟨e,xs,(hσ b b (zrD hbm)).2 e xs true c1,c2⟩
theorem Ext.first {h0:Heap} {β0:List Con} {S0:Addr→Prop} {w0:World} (x:Ext h0 β0 S0 w0 h β S w) (r:Rel E h β S w) {m:Nat} (hm:h0.length≤m) (hl:β0.length=h0.length) :
  Ext h0 β0 S0 w0 ((h.take m).map (zbB (zcS m))) (β.take m) S w where
 box:=fun b cs hb=>by
  have hbl:=(List.getElem?_eq_some_iff.1 hb).1
  obtain ⟨cs',h1⟩:=x.box b cs hb
  exact ⟨renL (zcS m) cs',by rw [List.getElem?_map,List.getElem?_take,if_pos (by omega),h1];rfl⟩
 con:=fun b g hb=>by
  have hbl:=(List.getElem?_eq_some_iff.1 hb).1
  rw [List.getElem?_take,if_pos (by omega)]
  exact x.con b g hb
 row:=fun b e xs sh hb=>by
  have hbl:=(List.getElem?_eq_some_iff.1 hb).1
  obtain ⟨xs',sh',a1,a2,a3⟩:=x.row b e xs sh hb
  exact ⟨xs',sh',by rw [List.getElem?_map,List.getElem?_take,if_pos (by omega),a1];rfl,a2,fun he=>by rw [List.getElem?_take,if_pos (by omega)];exact a3 he⟩
 S_le:=x.S_le
 S_cell:=x.S_cell
 S_new:=x.S_new
 os:=x.os
 tape:=x.tape
 output:=x.output
 size:=x.size
 keep:=x.keep
 new:=fun b k g hb hk=>by
  rw [List.getElem?_take] at hb
  split at hb
  ·exact x.new b k g hb hk
  ·cases hb
theorem zmf (m:Nat) (ts:TS):∀ (live:List Nat) (t:Nat),look (mask live m ts) t=.un∨look (mask live m ts) t=ren (zcS m) (look ts t)
 | [],t=>.inl rfl
 | a::live,t=>by
  simp only [mask,List.map_cons,look]
  split
  ·rename_i hb
   have:=Nat.eq_of_beq_eq_true hb
   subst this
   exact .inr rfl
  ·exact zmf m ts live t
theorem zdZ {fn:Func} {R:AV→Heap→Prop} {h0:Heap} {c:Cfg} (live:List Nat) (m:Nat) (hm:h0.length≤m) (hg:Good E fn h0 (cut live m c) R):Good E fn h0 c R:=by
 intro β0 S0 w0 β S w tmps hb0 hn x0 r rt
 obtain ⟨r1,hv⟩:=r.first m
 refine hg β0 S0 w0 (β.take m) S w tmps hb0 hn (x0.first r hm hb0) r1 fun t=>?_
 rcases zmf m c.ts live t with h1|h1
 ·simp only [cut];rw [h1];exact .d _ _ (.un _)
 ·simp only [cut];rw [h1];exact hv _ _ (rt t)
def zlb (tmps:Array Value):ResultVar→Sem Value
 | .tmp t=>pure (tmps.getD t undef)
 | .cell a t=>do loadVar t (← asAddr (tmps.getD a undef))
theorem zlj (fn:Func) (tmps:Array Value):results fn tmps=(do
  let vs ← fn.results.mapM (zlb tmps)
  pure (if h:vs.size=1 then vs[0] else .tuple vs)):=by
 rfl
theorem zq2 (ht:zaO E) (r:Rel E h β S w) (rt:zaQ E.T h β w S ts tmps) {x:ResultVar} {y:AV} (hx:zln E ts h x=some y) :
  ∃ v,(zlb tmps x).run E.P w=.ok v w∧RelV E.T h β w S y v:=by
 cases x with
 | tmp t =>
  simp only [zln,Option.some.injEq] at hx
  subst hx
  exact ⟨_,rfl,rt t⟩
 | cell a t =>
  simp only [zln] at hx
  have hra:=rt a
  split at hx
  ·rename_i b off hl
   rw [hl] at hra
   split at hx
   ·rename_i cs hb
    split at hx
    ·rename_i res hm hle
     have hle:=Nat.le_of_ble_eq_true hle
     simp only [Option.some.injEq] at hx
     subst hx
     obtain ⟨g,vs,t',c1,c2,c3,c4⟩:=r.box b cs hb
     obtain ⟨i,d,z,tok⟩:=ht.at_ (znv hm)
     generalize hev:tmps.getD a undef=av at hra
     cases hra with
     | d _ _ hd=>cases hd
     | p _ _ g2 hbb =>
      rw [c1] at hbb
      cases hbb
      have hp:PW (RelC E.T h β w S) (cs.drop off) (vs.drop off):=PW.drop ⟨c3,c4⟩ off
      have hrun:=zlA tok w g off ((vs.drop off).take (E.T t).size) (by simp [← c3];omega) (fun j y hj=>by
       rw [List.getElem?_take] at hj
       split at hj
       ·rw [zkX c2,← List.getElem?_drop];exact hj
       ·cases hj)
      simp only [Instr.loadAt,Instr.sureAddr,Sem.run_bind,Sem.run_pure,Result.andThen_ok] at hrun
      refine ⟨_,?_,zkd hm (hp.take _)⟩
      simp only [zlb,hev,Sem.run_bind,asAddr,Sem.run_pure,Result.andThen_ok,hrun]
    ·cases hx
   ·cases hx
  ·cases hx
theorem zj3 (ht:zaO E) (r:Rel E h β S w) (rt:zaQ E.T h β w S ts tmps):∀ (l:List ResultVar) (ys:List AV),zgH E ts h l=some ys →
  ∃ vs:List Value,(l.mapM (zlb tmps)).run E.P w=.ok vs w∧PW (RelV E.T h β w S) ys vs
 | [],ys,hl=>by
  simp only [zgH,Option.some.injEq] at hl
  subst hl
  exact ⟨[],by simp,PW.nil⟩
 | x::l,ys,hl=>by
  simp only [zgH] at hl
  split at hl
  ·rename_i a b h1 h2
   simp only [Option.some.injEq] at hl
   subst hl
   obtain ⟨v,v1,v2⟩:=zq2 ht r rt h1
   obtain ⟨vs,w1,w2⟩:=zj3 ht r rt l b h2
   refine ⟨v::vs,?_,PW.cons v2 w2⟩
   simp only [List.mapM_cons,Sem.run_bind]
   rw [v1]
   simp only [Result.andThen_ok]
   rw [w1]
   simp only [Result.andThen_ok,Sem.run_pure]
  ·cases hl
theorem znM (ht:zaO E) {fn:Func} {R:AV→Heap→Prop} {h0:Heap} {n:Nat} {k:List It} {ts:TS} {h:Heap} {y:AV} (hv:retV E ts h fn.results.toList=some y) (hR:R y h):Good E fn h0 ⟨n,.code .ret::k,ts,h⟩ R:=by
 intro β0 S0 w0 β S w tmps hb0 hn x0 r rt
 simp only at r rt x0
 simp only [kont,Exit.then]
 refine wp_ret ?_
 have key:∀ v,(results fn tmps).run E.P w=.ok v w→RelV E.T h β w S y v→kont E.P k (bodyPost E.P fn (Post E h0 β0 S0 w0 R)) .ret ⟨tmps,[]⟩ w:=by
  intro v hrun hrel
  have hpost:bodyPost E.P fn (Post E h0 β0 S0 w0 R) .ret ⟨tmps,[]⟩ w:=⟨rfl,v,hrun,y,h,β,S,v,rfl,hR,r,x0,hrel⟩
  have:∀ k:List It,kont E.P k (bodyPost E.P fn (Post E h0 β0 S0 w0 R)) .ret ⟨tmps,[]⟩ w:=by
   intro k
   induction k with
   | nil=>exact hpost
   | cons i k ih=>cases i <;> simp only [kont,Exit.then,Exit.inBlock] <;> exact ih
  exact this k
 unfold retV at hv
 cases ha:zgH E ts h fn.results.toList with
 | none=>simp [ha] at hv
 | some ys =>
  obtain ⟨vs,w1,w2⟩:=zj3 ht r rt _ ys ha
  have hrun:(results fn tmps).run E.P w=.ok (if hh:vs.toArray.size=1 then vs.toArray[0] else .tuple vs.toArray) w:=by
   rw [zlj,Array.mapM_eq_mapM_toList]
   simp only [Sem.run_bind,Sem.run_map]
   rw [w1]
   simp only [Result.andThen_ok,Sem.run_pure]
  rw [ha] at hv
  split at hv
  ·rename_i x hx
   cases hx
   cases hv
   have hvl:=w2.1
   match vs,hvl,w2,hrun with
   | [v],_,w2,hrun =>
    refine key v ?_ w2.uncons.1
    rw [hrun]
    simp
   | [],hvl,_,_=>simp at hvl
   | _::_::_,hvl,_,_=>simp at hvl
  ·rename_i xs hne hx
   cases hx
   cases hv
   refine key (.tuple vs.toArray) ?_ (.tup _ _ w2.1 w2.2)
   rw [hrun,dif_neg]
   intro h1
   have hl:ys.length=1:=by rw [w2.1];simpa using h1
   match ys,hl with
   | [a],_=>exact hne a rfl
  ·rename_i hx
   cases hx
theorem zlO:∀ (l:List AV) (i t:Nat),look (zcf i l) t=if i≤t then (l[t - i]?).getD .un else .un
 | [],i,t=>by simp [zcf,look]
 | x::l,i,t=>by
  simp only [zcf,look]
  split
  ·rename_i hb
   have:=Nat.eq_of_beq_eq_true hb
   subst this
   simp
  ·rename_i hb
   have hne:i≠t:=by rintro rfl;simp [Nat.beq_refl] at hb
   rw [zlO l (i+1) t]
   by_cases h1:i≤t
   ·rw [if_pos (by omega),if_pos h1,show t - i=(t - (i+1))+1 by omega,List.getElem?_cons_succ]
   ·rw [if_neg (by omega),if_neg h1]
theorem za7 {f : FuncId} {fn : Func} {c : Code} {args : List AV} {h : Heap} {R : AV → Heap → Prop} (hf : E.P.funcs[f]? = some fn) (hb : fn.body = some c) (hname : (fn.name == "runtime.NumGoroutine") = false) (hn : args.length ≤ fn.ntmps)
  (hg:Good E fn h ⟨fn.ntmps,[.code c],zcf 0 args,h⟩ R):zde E f args h R:=by
 refine fun β S w vs r hp=>.inl ⟨⟨fn,hf,hname,by rw [hb];rfl⟩,?_⟩
 refine calls_of_wp hf hb ?_
 have hl:=hp.1
 have:=hg β S w β S w (vs.toArray++Array.replicate (fn.ntmps - vs.toArray.size) undef) r.len (by simp;omega) (Ext.refl _ _ _ _) r (fun t=>?_)
 ·simp only [kont,Exit.then] at this
  exact this
 ·simp only
  rw [zlO args 0 t]
  simp only [Nat.zero_le,if_true,Nat.sub_zero]
  by_cases ht:t < args.length
  ·have hv:vs[t]?=some (vs[t]'(by omega)):=List.getElem?_eq_getElem _
   have hx:args[t]?=some args[t]:=List.getElem?_eq_getElem ht
   have hgd:(vs.toArray++Array.replicate (fn.ntmps - vs.toArray.size) undef).getD t undef=vs[t]'(by omega):=by
    rw [Array.getD_eq_getD_getElem?,Array.getElem?_append_left (by simp;omega)]
    simp [hv]
   rw [hx,hgd]
   exact hp.2 t _ _ hx hv
  ·rw [List.getElem?_eq_none (by omega)]
   exact .d _ _ (.un _)
theorem zea {f:FuncId} {args:List AV} {h:Heap} {R:AV→Heap→Prop} (hc:zde E f args h (Shut h.length R)):zde E f args h R:=by
 refine fun β S w vs r hp=>(hc β S w vs r hp).mono ?_
 rintro e w' ⟨y,h',β',S',v,he,⟨ho,hR⟩,r',x',hv⟩
 obtain ⟨S1,⟨e1,r1⟩,d1⟩:=znG E y h' β' S' w' v r' hv ho
 obtain ⟨r2,_⟩:=r1.first h.length
 exact ⟨_,_,_,S1,v,he,hR,r2,(x'.trans e1).first r1 (Nat.le_refl _) r.len,.d _ _ d1⟩
theorem zde.mono {f:FuncId} {args:List AV} {h:Heap} {R R':AV→Heap→Prop} (hc:zde E f args h R) (hr:∀ r h,R r h→R' r h):zde E f args h R':=by
 refine fun β S w vs r hp=>(hc β S w vs r hp).mono ?_
 rintro e w' ⟨y,h',β',S',v,he,hR,r',x',hv⟩
 exact ⟨y,h',β',S',v,he,hr _ _ hR,r',x',hv⟩
end
end Go.AM
namespace Go.AM
def noTI:TI:=⟨.scalar,0,0,[]⟩
def ziZ (l:List TI) (t:TypeId):TI:=l.getD t noTI
def TI.isNone (t:TI):Bool:=match t with
 | ⟨.scalar,0,0,[]⟩=>true
 | _=>false
def zjz (P:Program) (l:List TI):Nat→Bool
 | 0=>true
 | n+1=>(tiOk P (ziZ l) n || (ziZ l n).isNone)&&zjz P l n
theorem zmi {P:Program} {l:List TI}:∀ (n t:Nat),zjz P l n=true→t < n→tiOk P (ziZ l) t=true∨ziZ l t=⟨.scalar,0,0,[]⟩
 | 0,t,_,ht=>by omega
 | n+1,t,h,ht=>by
  simp only [zjz,Bool.and_eq_true,Bool.or_eq_true] at h
  by_cases e:t=n
  ·subst e
   rcases h.1 with h1|h1
   ·exact .inl h1
   ·right
    unfold TI.isNone at h1
    split at h1
    ·rename_i hx;exact hx
    ·cases h1
  ·exact zmi n t h.2 (by omega)
theorem zrA {P:Program} {l:List TI} {G:Nat→Option (List AV)} (h:zjz P l l.length=true):zaO ⟨P,ziZ l,G⟩:=by
 intro t
 by_cases ht:t < l.length
 ·exact zmi l.length t h ht
 ·right
  have:l[t]?=none:=List.getElem?_eq_none (Nat.le_of_not_lt ht)
  simp only [ziZ,List.getD,this]
  rfl
def fin (E:Env) (fn:Func) (m n:Nat) (c:Cfg) (os:List Orc):Option (List Prop × AV × Heap) :=
 match run E n c os with
 | (q,⟨_,.code .ret::_,ts,h⟩,[])=>match retV E.toEnv0 ts h fn.results.toList with
  | some y=>some ((match frzM y with|[]=>q|_::_=>frzO h y::q),frz h y,((share h (frzM y)).take m).map (zbB (zcS m)))
  | none=>none
 | _=>none
theorem ziX {E:Env0} (ht:zaO E) (hmix:E.P.follows .mixedOrders=true) {fn:Func} {R:AV→Heap→Prop} {h0:Heap} {c:Cfg} (n:Nat) (os:List Orc) {q:List Prop} {y:AV} {H:Heap} {m:Nat}
  (hfin:fin (mk E) fn m n c os=some (q,y,H)) (hq:allP q) (hR:R y H):Good E fn h0 c (Shut m R):=by
 unfold fin at hfin
 split at hfin
 ·rename_i q' n' k ts h' hrun
  split at hfin
  ·rename_i y' hret
   simp only [Option.some.injEq,Prod.mk.injEq] at hfin
   obtain ⟨h1,h2,h3⟩:=hfin
   have hqo:allP q'∧frzO h' y':=by
    split at h1
    ·rename_i hm
     subst h1
     exact ⟨hq,zeP y' hm⟩
    ·subst h1
     obtain ⟨a,b⟩:=zka hq
     exact ⟨b,a⟩
   refine zhM ht hmix n c os (by rw [hrun];exact hqo.1) ?_
   rw [hrun]
   exact znM ht hret ⟨hqo.2,by rw [h2,h3];exact hR⟩
  ·cases hfin
 ·cases hfin
theorem zgx {E:Env0} (ht:zaO E) (hmix:E.P.follows .mixedOrders=true) {f:FuncId} {fn:Func} {c:Code} {args:List AV} {h:Heap} {R:AV→Heap→Prop} (hf:E.P.funcs[f]?=some fn) (hb:fn.body=some c)
  (hname : (fn.name == "runtime.NumGoroutine") = false) (hn : Nat.ble args.length fn.ntmps = true) (n : Nat) (os : List Orc) {q : List Prop} {y : AV} {H : Heap}
  (hfin:fin (mk E) fn h.length n ⟨fn.ntmps,[.code c],zcf 0 args,h⟩ os=some (q,y,H)) (hq:allP q) (hR:R y H):zde E f args h R :=
 zea (za7 hf hb hname (Nat.le_of_ble_eq_true hn) (ziX ht hmix n os hfin hq hR))
def finK (E:Env) (fn:Func) (n:Nat) (c:Cfg) (os:List Orc):Option (List Prop × AV × Heap) :=
 match run E n c os with
 | (q,⟨_,.code .ret::_,ts,h⟩,[])=>match retV E.toEnv0 ts h fn.results.toList with
  | some y=>some (q,y,h)
  | none=>none
 | _=>none
theorem zml {E:Env0} (ht:zaO E) (hmix:E.P.follows .mixedOrders=true) {fn:Func} {R:AV→Heap→Prop} {h0:Heap} {c:Cfg} (n:Nat) (os:List Orc) {q:List Prop} {y:AV} {H:Heap}
  (hfin:finK (mk E) fn n c os=some (q,y,H)) (hq:allP q) (hR:R y H):Good E fn h0 c R:=by
 unfold finK at hfin
 split at hfin
 ·rename_i q' n' k ts h' hrun
  split at hfin
  ·rename_i y' hret
   simp only [Option.some.injEq,Prod.mk.injEq] at hfin
   obtain ⟨rfl,rfl,rfl⟩:=hfin
   refine zhM ht hmix n c os (by rw [hrun];exact hq) ?_
   rw [hrun]
   exact znM ht hret hR
  ·cases hfin
 ·cases hfin
theorem zoG {E:Env0} (ht:zaO E) (hmix:E.P.follows .mixedOrders=true) {f:FuncId} {fn:Func} {c:Code} {args:List AV} {h:Heap} {R:AV→Heap→Prop} (hf:E.P.funcs[f]?=some fn) (hb:fn.body=some c)
  (hname : (fn.name == "runtime.NumGoroutine") = false) (hn : Nat.ble args.length fn.ntmps = true) (n : Nat) (os : List Orc) {q : List Prop} {y : AV} {H : Heap}
  (hfin:finK (mk E) fn n ⟨fn.ntmps,[.code c],zcf 0 args,h⟩ os=some (q,y,H)) (hq:allP q) (hR:R y H):zde E f args h R :=
 za7 hf hb hname (Nat.le_of_ble_eq_true hn) (zml ht hmix n os hfin hq hR)
theorem zkm {E:Env0} (ht:zaO E) (hmix:E.P.follows .mixedOrders=true) {fn:Func} {R:AV→Heap→Prop} {h0:Heap} {c c':Cfg} (n:Nat) (os:List Orc) (live:List Nat) (m:Nat) {q:List Prop}
  (hm:Nat.ble h0.length m=true) (hq0:(run (mk E) n c os).1=q) (hc:cut live m (run (mk E) n c os).2.1=c') (hq:allP q) (hg:Good E fn h0 c' R):Good E fn h0 c R:=by
 subst hq0
 subst hc
 exact zhM ht hmix n c os hq (zdZ live m (Nat.le_of_ble_eq_true hm) hg)
end Go.AM
namespace Go.AM
open Go.RowKit
set_option linter.unusedSimpArgs false
set_option linter.unusedVariables false
def zhX (all:List Oper) (o:Oper) (ts:TS):Bool:=match o.guard with
 | none=>true
 | some (j,want)=>match zdy all j with
  | none=>false
  | some d=>match look ts d with
   | .bl b=>b==want
   | _=>false
theorem zjU {E:Env0} {h:Heap} {β:List Con} {S:Addr→Prop} {w:World} {tmps:Array Value} {ts:TS} {o:Oper} {all:List Oper} (rt:zaQ E.T h β w S ts tmps) (hg:zhX all o ts=true) :
  Region.wanted o (yielded all.toArray tmps)=true:=by
 unfold zhX at hg
 unfold Region.wanted
 split at hg
 ·rename_i h1;rw [h1]
 ·rename_i j want h1
  rw [h1]
  simp only
  split at hg
  ·cases hg
  ·rename_i d hd
   have hr:=rt d
   split at hg
   ·rename_i b hl
    rw [hl] at hr
    rw [zd1 hd hr.bl_inv]
    cases b <;> cases want <;> first|rfl|cases hg
   ·cases hg
def nilAt (E:Env0) (c:Cfg):Option (List (List AV) × Bool):=match c.todo with
 | .ops all (o::_)::_=>match zhX all o c.ts&&za4 c.n o.dst,o.op with
  | true,.binOp op t x (.const (.slice none 0 0)) _=>match (E.T t).kind,ev E.G c.ts x,op with
   | .slice _,.sl xs,.eql=>some (xs,true)
   | .slice _,.sl xs,.neq=>some (xs,false)
   | _,_,_=>none
  | _,_=>none
 | _=>none
def zbx (c:Cfg) (b:Bool):Cfg:=match c.todo with
 | .ops all (o::rest)::k=>⟨c.n,.ops all rest::k,put c.ts o.dst (.v (.bool b)),c.h⟩
 | _=>c
theorem zfj {P:Program} (w:World) {t e:TypeId} (hu:P.underlying t=some (.slice e)) (A:Option Addr) (n c:Nat):(Op.equal t (.slice A n c) (.slice none 0 0)).run P w=.ok A.isNone w:=by
 unfold Op.equal Op.maxDepth
 unfold Op.equalIn
 cases A <;> simp only [Sem.run_bind,run_underlying hu,Result.andThen_ok,Sem.run_pure] <;> rfl
theorem zi6 (P:Program) (op:BinOp) (t:TypeId) (x y:Operand) (a b:Option Addr) (n m c d:Nat) (w:World):(eqGuard op t x y (.slice a n c) (.slice b m d)).run P w=.ok () w:=by
 unfold eqGuard
 split <;> rfl
theorem zep {E:Env0} (ht:zaO E) {fn:Func} {h0:Heap} {c:Cfg} {R:AV→Heap→Prop} {xs:List (List AV)} {e:Bool} (hc:nilAt E c=some (xs,e)) (hg:∀ b:Bool,(xs≠[]→b=false)→Good E fn h0 (zbx c (b==e)) R):Good E fn h0 c R:=by
 intro β0 S0 w0 β S w tmps hb0 hn x0 r rt
 obtain ⟨n,todo,ts,h⟩:=c
 simp only at hn x0 r rt ⊢
 unfold nilAt at hc
 simp only at hc
 split at hc
 ·rename_i all o rest k
  split at hc
  ·rename_i op t x ty hchk hop
   simp only [Bool.and_eq_true] at hchk
   obtain ⟨hgo,hd⟩:=hchk
   have hx:=za3 (ds:=[]) r rt x
   simp only [kont,Exit.then]
   have fin:∀ (el:TypeId) (hk:(E.T t).kind=.slice el) (he:ev E.G ts x=.sl xs) (hop2:op=if e then .eql else .neq),wpList E.P all.toArray (kont E.P k (bodyPost E.P fn (Post E h0 β0 S0 w0 R))) (o::rest) ⟨tmps,[]⟩ w:=by
    intro el hk he hop2
    rw [he] at hx
    obtain ⟨ti,dd,z,tok⟩:=ht.at_ (zaG (by rw [hk];simp):E.T t≠_)
    obtain ⟨rfl,_⟩:=tok.slice_ hk
    refine wpList_step fun K hK=>?_
    rw [if_pos (zjU rt hgo)]
    generalize hev:Act.eval ⟨tmps,[]⟩ x=y at hx
    cases hx with
    | d _ _ hd1=>cases hd1 with
     | sl _ A cap gg off size f f1 f2 f3 f4 f5 f6 =>
      have hrun:(execOp (Act.eval ⟨tmps,[]⟩) o).run E.P w=.ok (.value (.bool (A.isNone==e))) w:=by
       have h1:=zi6 E.P op t x (.const (.slice none 0 0)) A none xs.length 0 cap 0 w
       have h2:=zfj (P:=E.P) w tok.und A xs.length cap
       have hcst:Act.eval ⟨tmps,[]⟩ (.const (.slice none 0 0))=.slice none 0 0:=rfl
       cases e
       ·simp only [Bool.false_eq_true,if_false] at hop2
        subst hop2
        simp only [execOp,hop,hev,hcst,Sem.run_bind,h1,Result.andThen_ok,binOp,h2,Sem.run_pure]
        cases A.isNone <;> rfl
       ·simp only [if_true] at hop2
        subst hop2
        simp only [execOp,hop,hev,hcst,Sem.run_bind,h1,Result.andThen_ok,binOp,h2,Sem.run_pure]
        cases A.isNone <;> rfl
      unfold Oper.wp
      rw [hrun,Oper.upon_value,zdc]
      refine hK _ _ ?_
      have:=hg A.isNone (fun hne=>by rw [f1 hne];rfl) β0 S0 w0 β S w (Act.put ⟨tmps,[]⟩ o.dst (.bool (A.isNone==e))).tmps hb0 (by simp only [zbx];rw [zdC];exact hn) x0 r (rt.put (by rw [hn];exact hd) (zct _))
      simp only [zbx,kont,Exit.then] at this
      exact this
   split at hc
   ·rename_i el xs' hk he
    simp only [Option.some.injEq,Prod.mk.injEq] at hc
    obtain ⟨rfl,rfl⟩:=hc
    exact fin el hk he rfl
   ·rename_i el xs' hk he
    simp only [Option.some.injEq,Prod.mk.injEq] at hc
    obtain ⟨rfl,rfl⟩:=hc
    exact fin el hk he rfl
   ·cases hc
  ·cases hc
 ·cases hc
def zlP (c:Cfg):Cfg:=match c.todo with
 | .lp b::k=>⟨c.n,.code b::.lp b::k,c.ts,c.h⟩
 | _=>c
theorem zaa {E:Env0} {fn:Func} {h0:Heap} {c:Cfg} {R:AV→Heap→Prop} (hg:Good E fn h0 (zlP c) R):Good E fn h0 c R:=by
 unfold zlP at hg
 split at hg
 ·rename_i b k hk
  obtain ⟨n,todo,ts,h⟩:=c
  simp only at hk
  subst hk
  exact zqd hg
 ·exact hg
noncomputable def zat (fn:Func) (j:Nat) (ts:TS) (h:Heap):Cfg:=⟨fn.ntmps,(zhq (fn.body.getD .skip) []).getD j [],ts,h⟩
theorem zq1 {E:Env0} (ht:zaO E) (hmix:E.P.follows .mixedOrders=true) {f:FuncId} {fn:Func} {c:Code} {args:List AV} {h:Heap} {R:AV→Heap→Prop} (hf:E.P.funcs[f]?=some fn) (hb:fn.body=some c)
  (hname : (fn.name == "runtime.NumGoroutine") = false) (hn : Nat.ble args.length fn.ntmps = true) (n : Nat) (os : List Orc) (live : List Nat) (m : Nat) {q : List Prop} {c' : Cfg} (hm : Nat.ble h.length m = true)
  (hq0:(run (mk E) n ⟨fn.ntmps,[.code c],zcf 0 args,h⟩ os).1=q) (hc:cut live m (run (mk E) n ⟨fn.ntmps,[.code c],zcf 0 args,h⟩ os).2.1=c') (hq:allP q) (hg:Good E fn h c' (Shut h.length R)):zde E f args h R :=
 zea (za7 hf hb hname (Nat.le_of_ble_eq_true hn) (zkm ht hmix n os live m hm hq0 hc hq hg))
end Go.AM
namespace Go.AM
namespace S
abbrev law20_BeforeApplies:FuncId:=5
abbrev world_New:FuncId:=6
abbrev world_Tape_Table:FuncId:=7
abbrev world_Schema:FuncId:=8
abbrev world_Tape_Next:FuncId:=10
abbrev slices_Clone_Trigger:FuncId:=11
abbrev before_Row:FuncId:=15
abbrev slices_Equal_Value:FuncId:=16
abbrev law20_known:FuncId:=17
abbrev world_Tape_Triggers:FuncId:=18
abbrev world_Tape_Name:FuncId:=19
abbrev world_Tape_Bool:FuncId:=20
abbrev world_SameTriggers:FuncId:=21
abbrev before_Applicable:FuncId:=22
abbrev ref20_Applicable:FuncId:=23
abbrev world_Schemas:FuncId:=24
abbrev world_Tape_Expr:FuncId:=25
abbrev law20_set:FuncId:=26
abbrev world_Mod:FuncId:=27
abbrev world_Tape_Typed:FuncId:=31
abbrev world_Tape_Small:FuncId:=32
abbrev slices_Clone_Value:FuncId:=33
abbrev slices_Clone_int:FuncId:=34
abbrev pick_Eligible:FuncId:=35
abbrev pick_Choose:FuncId:=36
abbrev before_row_fire:FuncId:=37
abbrev slices_Delete_Trigger:FuncId:=38
abbrev world_Bin:FuncId:=39
abbrev world_Col:FuncId:=40
abbrev world_Num:FuncId:=41
abbrev ref1_Number:FuncId:=42
abbrev world_Tape_Trigger:FuncId:=43
abbrev ref17_Check:FuncId:=44
abbrev world_tablesOf:FuncId:=45
abbrev ref18_Add:FuncId:=46
abbrev slices_EqualFunc_Lapi_Trigger_Lapi_Trigger_api_Trigger_api_Trigger:FuncId:=47
abbrev world_SameTrigger:FuncId:=48
abbrev slices_ContainsFunc_string:FuncId:=49
abbrev before_Applicable_c1:FuncId:=50
abbrev slices_Contains_string:FuncId:=51
abbrev deep_Trigger:FuncId:=52
abbrev ref20_Has:FuncId:=53
abbrev world_Tape_column:FuncId:=54
abbrev world_Lit:FuncId:=55
abbrev world_Tape_query:FuncId:=56
abbrev world_Tape_condition:FuncId:=57
abbrev world_Tape_Number:FuncId:=62
abbrev world_Tape_Word:FuncId:=63
abbrev order_Precedes:FuncId:=64
abbrev evaluate_True:FuncId:=65
abbrev trigger_Frames:FuncId:=66
abbrev before_row_set:FuncId:=67
abbrev world_Tape_named:FuncId:=68
abbrev world_place:FuncId:=69
abbrev world_Tape_action:FuncId:=70
abbrev world_Tape_certify:FuncId:=71
abbrev ref11_ValidTrigger:FuncId:=72
abbrev ref14_Source:FuncId:=73
abbrev ref4_Find:FuncId:=74
abbrev ref17_Frames:FuncId:=75
abbrev ref17_All:FuncId:=76
abbrev ref17_Transitions:FuncId:=77
abbrev ref14_Condition:FuncId:=78
abbrev ref17_checkAction:FuncId:=79
abbrev ref6_New:FuncId:=80
abbrev ref18_Valid:FuncId:=81
abbrev ref18_insert:FuncId:=82
abbrev ref18_closure:FuncId:=83
abbrev slices_Equal_string:FuncId:=84
abbrev slices_Equal_Rank:FuncId:=85
abbrev world_sameExprs:FuncId:=86
abbrev slices_EqualFunc_Lapi_Action_Lapi_Action_api_Action_api_Action:FuncId:=87
abbrev world_SameAction:FuncId:=88
abbrev slices_IndexFunc_string:FuncId:=89
abbrev slices_Index_string:FuncId:=90
abbrev slices_Clone_string:FuncId:=91
abbrev slices_Clone_Rank:FuncId:=92
abbrev deep_Exprs:FuncId:=93
abbrev deep_list_api_Action:FuncId:=94
abbrev deep_Action:FuncId:=95
abbrev world_Inside:FuncId:=96
abbrev slices_Contains_Link:FuncId:=97
abbrev evaluate_Value:FuncId:=98
abbrev logic_Valid:FuncId:=99
abbrev logic_IsTrue:FuncId:=100
abbrev slices_Clone_Column:FuncId:=101
abbrev schema_Find:FuncId:=102
abbrev world_Between:FuncId:=103
abbrev world_Tape_Change:FuncId:=104
abbrev ref4_ValidName:FuncId:=105
abbrev ref11_names:FuncId:=106
abbrev ref11_all:FuncId:=107
abbrev ref11_ValidAction:FuncId:=108
abbrev ref5_Copy:FuncId:=109
abbrev ref17_transition:FuncId:=110
abbrev ref14_Type:FuncId:=111
abbrev ref14_fits:FuncId:=112
abbrev ref14_Assignable:FuncId:=113
abbrev ref16_Check:FuncId:=114
abbrev ref4_Valid:FuncId:=115
abbrev ref18_before:FuncId:=116
abbrev ref18_Precedes:FuncId:=117
abbrev slices_EqualFunc_Lapi_Expr_Lapi_Expr_api_Expr_api_Expr:FuncId:=118
abbrev world_SameExpr:FuncId:=119
abbrev slices_EqualFunc_LLapi_Expr_LLapi_Expr_Lapi_Expr_Lapi_Expr:FuncId:=120
abbrev slices_EqualFunc_Lapi_Query_Lapi_Query_api_Query_api_Query:FuncId:=121
abbrev world_SameQuery:FuncId:=122
abbrev slices_EqualFunc_Lapi_Set_Lapi_Set_api_Set_api_Set:FuncId:=123
abbrev world_sameSet:FuncId:=124
abbrev deep_list_api_Expr:FuncId:=125
abbrev deep_Expr:FuncId:=126
abbrev deep_list_Lapi_Expr:FuncId:=127
abbrev deep_list_api_Query:FuncId:=128
abbrev deep_Query:FuncId:=129
abbrev deep_list_api_Set:FuncId:=130
abbrev deep_set:FuncId:=131
abbrev slices_Index_Link:FuncId:=132
abbrev scope_Formed:FuncId:=133
abbrev scope_Resolve:FuncId:=134
abbrev evaluate_aggregate:FuncId:=135
abbrev evaluate_operation:FuncId:=136
abbrev value_Valid:FuncId:=137
abbrev value_Truth:FuncId:=138
abbrev slices_IndexFunc_Column:FuncId:=139
abbrev schema_Find_c1:FuncId:=140
abbrev world_Tape_copies:FuncId:=141
abbrev ref4_Letter:FuncId:=142
abbrev ref4_Digit:FuncId:=143
abbrev ref11_ValidExpr:FuncId:=144
abbrev ref11_validInsert:FuncId:=145
abbrev ref11_validSets:FuncId:=146
abbrev ref1_Valid:FuncId:=147
abbrev ref17_copyRows:FuncId:=148
abbrev ref11_Shape:FuncId:=149
abbrev ref14_Resolve:FuncId:=150
abbrev ref14_typeOfQuery:FuncId:=151
abbrev ref14_result:FuncId:=152
abbrev ref16_sound:FuncId:=153
abbrev ref16_checkInsert:FuncId:=154
abbrev ref14_Inside:FuncId:=155
abbrev evaluate_selected:FuncId:=156
abbrev evaluate_aggregate_c1:FuncId:=157
abbrev evaluate_isNull:FuncId:=158
abbrev value_Number:FuncId:=159
abbrev evaluate_sum:FuncId:=160
abbrev slices_MinFunc_Value:FuncId:=161
abbrev value_Compare:FuncId:=162
abbrev slices_MaxFunc_Value:FuncId:=163
abbrev evaluate_truth:FuncId:=164
abbrev logic_Not:FuncId:=165
abbrev evaluate_between:FuncId:=166
abbrev evaluate_arithmetic:FuncId:=167
abbrev logic_And:FuncId:=168
abbrev logic_Or:FuncId:=169
abbrev evaluate_comparison:FuncId:=170
abbrev value_plain:FuncId:=171
abbrev ref11_source:FuncId:=172
abbrev ref11_plain:FuncId:=173
abbrev ref11_ValidQuery:FuncId:=174
abbrev ref14_Types:FuncId:=175
abbrev evaluate_find:FuncId:=176
abbrev evaluate_inside:FuncId:=177
abbrev arith_Sum:FuncId:=178
abbrev cmp_Or_int:FuncId:=179
abbrev cmp_Compare_int:FuncId:=180
abbrev cmp_Compare_int64:FuncId:=181
abbrev cmp_Compare_string:FuncId:=182
abbrev arith_Add:FuncId:=183
abbrev arith_Subtract:FuncId:=184
abbrev arith_Multiply:FuncId:=185
abbrev arith_Divide:FuncId:=186
abbrev arith_Modulo:FuncId:=187
abbrev logic_and:FuncId:=188
abbrev slices_IndexFunc_Table:FuncId:=189
abbrev evaluate_find_c1:FuncId:=190
abbrev slices_Clone_Frame:FuncId:=191
abbrev math_bits_Add64:FuncId:=192
abbrev cmp_isNaN_int:FuncId:=193
abbrev cmp_isNaN_int64:FuncId:=194
abbrev cmp_isNaN_string:FuncId:=195
abbrev g_world_triggerNames:Nat:=0
abbrev g_world_names:Nat:=1
abbrev g_world_words:Nat:=2
end S
namespace Ty
abbrev int64:TypeId:=2
abbrev int:TypeId:=3
abbrev bool:TypeId:=4
abbrev string:TypeId:=9
abbrev Lint:TypeId:=22
abbrev Schema:TypeId:=28
abbrev LTrigger:TypeId:=30
abbrev Lstring:TypeId:=35
abbrev LExpr:TypeId:=37
abbrev Trigger:TypeId:=40
abbrev Value:TypeId:=52
abbrev Column:TypeId:=56
abbrev Action:TypeId:=61
abbrev Expr:TypeId:=63
abbrev Set:TypeId:=65
abbrev Frame:TypeId:=80
abbrev Table:TypeId:=89
abbrev row:TypeId:=96
abbrev Item:TypeId:=100
abbrev Rank:TypeId:=147
abbrev Link:TypeId:=160
abbrev Query:TypeId:=174
end Ty
def tabA:List TI:=[
 ⟨.scalar,0,0,[]⟩,
 ⟨.scalar,0,0,[]⟩,
 ⟨.int .i64,1,8,[(.v (.int .i64 0))]⟩,
 ⟨.int .i64,1,8,[(.v (.int .i64 0))]⟩,
 ⟨.bool,1,1,[.bl false]⟩,
 ⟨.int .u8,1,1,[(.v (.int .u8 0))]⟩,
 ⟨.int .u8,1,1,[(.v (.int .u8 0))]⟩,
 ⟨.struct [0,1,2,3],4,24,[(.v (.int .i64 0)),(.v (.int .i64 0)),.bl false,(.v (.int .u8 0))]⟩,
 ⟨.struct [0,1,2,3],4,24,[(.v (.int .i64 0)),(.v (.int .i64 0)),.bl false,(.v (.int .u8 0))]⟩,
 ⟨.str,1,16,[.v (.string ⟨#[]⟩)]⟩,
 ⟨.str,1,16,[.v (.string ⟨#[]⟩)]⟩,
 ⟨.str,1,16,[.v (.string ⟨#[]⟩)]⟩,
 ⟨.int .u64,1,8,[(.v (.int .u64 0))]⟩,
 ⟨.struct [0,1],2,24,[.v (.string ⟨#[]⟩),(.v (.int .u64 0))]⟩,
 ⟨.struct [0,1],2,24,[.v (.string ⟨#[]⟩),(.v (.int .u64 0))]⟩,
 ⟨.scalar,1,8,[.v (.pointer none)]⟩,
 ⟨.scalar,1,8,[.v (.pointer none)]⟩,
 ⟨.scalar,1,8,[.v (.pointer none)]⟩,
 ⟨.struct [0],1,8,[.v (.pointer none)]⟩,
 ⟨.struct [0],1,8,[.v (.pointer none)]⟩,
 ⟨.scalar,1,16,[.v .nilIface]⟩,
 ⟨.int .i32,1,4,[(.v (.int .i32 0))]⟩,
 ⟨.slice 3,1,24,[.nl]⟩,
 ⟨.scalar,1,8,[.v (.pointer none)]⟩,
 ⟨.scalar,0,0,[]⟩,
 ⟨.scalar,0,0,[]⟩,
 ⟨.slice 56,1,24,[.nl]⟩,
 ⟨.struct [0,1],2,40,[.v (.string ⟨#[]⟩),.nl]⟩,
 ⟨.struct [0,1],2,40,[.v (.string ⟨#[]⟩),.nl]⟩,
 ⟨.scalar,0,0,[]⟩,
 ⟨.slice 40,1,24,[.nl]⟩,
 ⟨.slice 160,1,24,[.nl]⟩,
 ⟨.scalar,0,0,[]⟩,
 ⟨.scalar,0,0,[]⟩,
 ⟨.scalar,0,0,[]⟩,
 ⟨.slice 9,1,24,[.nl]⟩,
 ⟨.slice 147,1,24,[.nl]⟩,
 ⟨.slice 63,1,24,[.nl]⟩,
 ⟨.slice 61,1,24,[.nl]⟩,
 ⟨.struct [0,1,2,3,4,5,6,7,8,9,10],11,200,[.v (.string ⟨#[]⟩),.v (.string ⟨#[]⟩),.bl false,(.v (.int .i64 0)),.nl,.bl false,.nl,.nl,.nl,.nl,.nl]⟩,
 ⟨.struct [0,1,2,3,4,5,6,7,8,9,10],11,200,[.v (.string ⟨#[]⟩),.v (.string ⟨#[]⟩),.bl false,(.v (.int .i64 0)),.nl,.bl false,.nl,.nl,.nl,.nl,.nl]⟩,
 ⟨.scalar,0,0,[]⟩,
 ⟨.scalar,0,0,[]⟩,
 ⟨.slice 89,1,24,[.nl]⟩,
 ⟨.scalar,0,0,[]⟩,
 ⟨.slice 52,1,24,[.nl]⟩,
 ⟨.scalar,0,0,[]⟩,
 ⟨.int .i64,1,8,[(.v (.int .i64 0))]⟩,
 ⟨.scalar,0,0,[]⟩,
 ⟨.scalar,0,0,[]⟩,
 ⟨.scalar,0,0,[]⟩,
 ⟨.struct [0,1,2],3,32,[(.v (.int .i64 0)),(.v (.int .i64 0)),.v (.string ⟨#[]⟩)]⟩,
 ⟨.struct [0,1,2],3,32,[(.v (.int .i64 0)),(.v (.int .i64 0)),.v (.string ⟨#[]⟩)]⟩,
 ⟨.scalar,0,0,[]⟩,
 ⟨.scalar,0,0,[]⟩,
 ⟨.struct [0,1,2,3],4,32,[.v (.string ⟨#[]⟩),(.v (.int .i64 0)),.bl false,.bl false]⟩,
 ⟨.struct [0,1,2,3],4,32,[.v (.string ⟨#[]⟩),(.v (.int .i64 0)),.bl false,.bl false]⟩,
 ⟨.slice 37,1,24,[.nl]⟩,
 ⟨.slice 174,1,24,[.nl]⟩,
 ⟨.slice 65,1,24,[.nl]⟩,
 ⟨.struct [0,1,2,3,4,5,6],7,136,[(.v (.int .i64 0)),.v (.string ⟨#[]⟩),.nl,.nl,.nl,.nl,.v (.string ⟨#[]⟩)]⟩,
 ⟨.struct [0,1,2,3,4,5,6],7,136,[(.v (.int .i64 0)),.v (.string ⟨#[]⟩),.nl,.nl,.nl,.nl,.v (.string ⟨#[]⟩)]⟩,
 ⟨.struct [0,1,2,3,6,7,8,9],10,136,[(.v (.int .i64 0)),(.v (.int .i64 0)),.bl false,(.v (.int .i64 0)),(.v (.int .i64 0)),.v (.string ⟨#[]⟩),.v (.string ⟨#[]⟩),.v (.string ⟨#[]⟩),.nl,.nl]⟩,
 ⟨.struct [0,1,2,3,6,7,8,9],10,136,[(.v (.int .i64 0)),(.v (.int .i64 0)),.bl false,(.v (.int .i64 0)),(.v (.int .i64 0)),.v (.string ⟨#[]⟩),.v (.string ⟨#[]⟩),.v (.string ⟨#[]⟩),.nl,.nl]⟩,
 ⟨.struct [0,1],11,152,[.v (.string ⟨#[]⟩),(.v (.int .i64 0)),(.v (.int .i64 0)),.bl false,(.v (.int .i64 0)),(.v (.int .i64 0)),.v (.string ⟨#[]⟩),.v (.string ⟨#[]⟩),.v (.string ⟨#[]⟩),.nl,.nl]⟩,
 ⟨.struct [0,1],11,152,[.v (.string ⟨#[]⟩),(.v (.int .i64 0)),(.v (.int .i64 0)),.bl false,(.v (.int .i64 0)),(.v (.int .i64 0)),.v (.string ⟨#[]⟩),.v (.string ⟨#[]⟩),.v (.string ⟨#[]⟩),.nl,.nl]⟩,
 ⟨.scalar,0,0,[]⟩,
 ⟨.scalar,0,0,[]⟩,
 ⟨.scalar,0,0,[]⟩,
 ⟨.scalar,0,0,[]⟩,
 ⟨.scalar,0,0,[]⟩,
 ⟨.scalar,0,0,[]⟩,
 ⟨.struct [0,1],2,32,[.nl,(.v (.int .i64 0))]⟩,
 ⟨.struct [0,1],2,32,[.nl,(.v (.int .i64 0))]⟩,
 ⟨.slice 28,1,24,[.nl]⟩,
 ⟨.scalar,0,0,[]⟩,
 ⟨.slice 80,1,24,[.nl]⟩,
 ⟨.struct [0,1],2,48,[.nl,.nl]⟩,
 ⟨.struct [0,1],2,48,[.nl,.nl]⟩,
 ⟨.struct [0,1,2,3],4,72,[.v (.string ⟨#[]⟩),.bl false,.nl,.nl]⟩,
 ⟨.struct [0,1,2,3],4,72,[.v (.string ⟨#[]⟩),.bl false,.nl,.nl]⟩,
 ⟨.scalar,0,0,[]⟩,
 ⟨.scalar,0,0,[]⟩,
 ⟨.scalar,0,0,[]⟩,
 ⟨.scalar,0,0,[]⟩,
 ⟨.scalar,0,0,[]⟩,
 ⟨.scalar,0,0,[]⟩,
 ⟨.slice 131,1,24,[.nl]⟩,
 ⟨.struct [0,2,3],4,72,[.v (.string ⟨#[]⟩),.nl,(.v (.int .i64 0)),.nl]⟩,
 ⟨.struct [0,2,3],4,72,[.v (.string ⟨#[]⟩),.nl,(.v (.int .i64 0)),.nl]⟩,
 ⟨.scalar,0,0,[]⟩,
 ⟨.scalar,0,0,[]⟩,
 ⟨.scalar,0,0,[]⟩,
 ⟨.scalar,1,8,[.v (.pointer none)]⟩,
 ⟨.scalar,0,0,[]⟩,
 ⟨.struct [0,2,3,4],5,112,[.v (.string ⟨#[]⟩),.nl,.nl,.nl,.nl]⟩,
 ⟨.struct [0,2,3,4],5,112,[.v (.string ⟨#[]⟩),.nl,.nl,.nl,.nl]⟩,
 ⟨.scalar,0,0,[]⟩,
 ⟨.slice 100,1,24,[.nl]⟩,
 ⟨.struct [0,1,2,3],4,72,[.v (.string ⟨#[]⟩),(.v (.int .i64 0)),.nl,.nl]⟩,
 ⟨.struct [0,1,2,3],4,72,[.v (.string ⟨#[]⟩),(.v (.int .i64 0)),.nl,.nl]⟩,
 ⟨.scalar,0,0,[]⟩,
 ⟨.scalar,0,0,[]⟩,
 ⟨.scalar,0,0,[]⟩,
 ⟨.scalar,0,0,[]⟩,
 ⟨.scalar,0,0,[]⟩,
 ⟨.scalar,0,0,[]⟩,
 ⟨.scalar,0,0,[]⟩,
 ⟨.scalar,0,0,[]⟩,
 ⟨.scalar,0,0,[]⟩,
 ⟨.scalar,0,0,[]⟩,
 ⟨.array 8 9,8,128,[.v (.string ⟨#[]⟩),.v (.string ⟨#[]⟩),.v (.string ⟨#[]⟩),.v (.string ⟨#[]⟩),.v (.string ⟨#[]⟩),.v (.string ⟨#[]⟩),.v (.string ⟨#[]⟩),.v (.string ⟨#[]⟩)]⟩,
 ⟨.scalar,0,0,[]⟩,
 ⟨.scalar,0,0,[]⟩,
 ⟨.scalar,0,0,[]⟩,
 ⟨.scalar,0,0,[]⟩,
 ⟨.scalar,0,0,[]⟩,
 ⟨.scalar,0,0,[]⟩,
 ⟨.scalar,0,0,[]⟩,
 ⟨.scalar,0,0,[]⟩,
 ⟨.scalar,0,0,[]⟩,
 ⟨.scalar,0,0,[]⟩,
 ⟨.scalar,0,0,[]⟩,
 ⟨.scalar,0,0,[]⟩,
 ⟨.scalar,0,0,[]⟩,
 ⟨.scalar,0,0,[]⟩,
 ⟨.scalar,0,0,[]⟩,
 ⟨.scalar,0,0,[]⟩,
 ⟨.scalar,0,0,[]⟩,
 ⟨.scalar,0,0,[]⟩,
 ⟨.struct [0,1],2,32,[(.v (.int .i64 0)),.nl]⟩,
 ⟨.struct [0,1],2,32,[(.v (.int .i64 0)),.nl]⟩,
 ⟨.scalar,0,0,[]⟩,
 ⟨.scalar,0,0,[]⟩,
 ⟨.scalar,0,0,[]⟩,
 ⟨.scalar,0,0,[]⟩,
 ⟨.scalar,0,0,[]⟩,
 ⟨.scalar,0,0,[]⟩,
 ⟨.scalar,0,0,[]⟩,
 ⟨.scalar,0,0,[]⟩,
 ⟨.scalar,0,0,[]⟩,
 ⟨.scalar,1,8,[.v (.pointer none)]⟩,
 ⟨.scalar,0,0,[]⟩,
 ⟨.scalar,0,0,[]⟩,
 ⟨.scalar,0,0,[]⟩,
 ⟨.scalar,0,0,[]⟩,
 ⟨.struct [0,1,2,3],4,48,[.v (.string ⟨#[]⟩),.v (.string ⟨#[]⟩),(.v (.int .i64 0)),(.v (.int .i64 0))]⟩,
 ⟨.struct [0,1,2,3],4,48,[.v (.string ⟨#[]⟩),.v (.string ⟨#[]⟩),(.v (.int .i64 0)),(.v (.int .i64 0))]⟩,
 ⟨.scalar,0,0,[]⟩,
 ⟨.scalar,0,0,[]⟩,
 ⟨.slice 187,1,24,[.nl]⟩,
 ⟨.struct [0,1,2,3],4,88,[.v (.string ⟨#[]⟩),.nl,.nl,.nl]⟩,
 ⟨.struct [0,1,2,3],4,88,[.v (.string ⟨#[]⟩),.nl,.nl,.nl]⟩,
 ⟨.scalar,0,0,[]⟩,
 ⟨.scalar,0,0,[]⟩,
 ⟨.scalar,0,0,[]⟩,
 ⟨.scalar,0,0,[]⟩,
 ⟨.scalar,0,0,[]⟩,
 ⟨.scalar,0,0,[]⟩,
 ⟨.struct [0,1],2,32,[.v (.string ⟨#[]⟩),.v (.string ⟨#[]⟩)]⟩,
 ⟨.struct [0,1],2,32,[.v (.string ⟨#[]⟩),.v (.string ⟨#[]⟩)]⟩,
 ⟨.scalar,0,0,[]⟩,
 ⟨.scalar,0,0,[]⟩,
 ⟨.scalar,0,0,[]⟩,
 ⟨.scalar,0,0,[]⟩,
 ⟨.scalar,0,0,[]⟩,
 ⟨.scalar,0,0,[]⟩,
 ⟨.scalar,0,0,[]⟩,
 ⟨.scalar,0,0,[]⟩,
 ⟨.scalar,0,0,[]⟩,
 ⟨.scalar,0,0,[]⟩,
 ⟨.scalar,0,0,[]⟩,
 ⟨.scalar,0,0,[]⟩,
 ⟨.struct [0,1,2,3],4,72,[.bl false,.nl,.v (.string ⟨#[]⟩),.nl]⟩,
 ⟨.struct [0,1,2,3],4,72,[.bl false,.nl,.v (.string ⟨#[]⟩),.nl]⟩,
 ⟨.array 6 9,6,96,[.v (.string ⟨#[]⟩),.v (.string ⟨#[]⟩),.v (.string ⟨#[]⟩),.v (.string ⟨#[]⟩),.v (.string ⟨#[]⟩),.v (.string ⟨#[]⟩)]⟩,
 ⟨.scalar,0,0,[]⟩,
 ⟨.scalar,0,0,[]⟩,
 ⟨.scalar,0,0,[]⟩,
 ⟨.scalar,0,0,[]⟩,
 ⟨.scalar,0,0,[]⟩,
 ⟨.scalar,0,0,[]⟩,
 ⟨.scalar,0,0,[]⟩,
 ⟨.scalar,0,0,[]⟩,
 ⟨.scalar,0,0,[]⟩,
 ⟨.scalar,0,0,[]⟩,
 ⟨.struct [0,1,2],3,56,[(.v (.int .i64 0)),.nl,.nl]⟩,
 ⟨.struct [0,1,2],3,56,[(.v (.int .i64 0)),.nl,.nl]⟩,
 ⟨.scalar,0,0,[]⟩,
 ⟨.scalar,0,0,[]⟩,
 ⟨.scalar,0,0,[]⟩,
 ⟨.scalar,0,0,[]⟩,
 ⟨.scalar,0,0,[]⟩,
 ⟨.scalar,0,0,[]⟩,
 ⟨.scalar,0,0,[]⟩,
 ⟨.scalar,0,0,[]⟩,
 ⟨.scalar,0,0,[]⟩,
 ⟨.scalar,0,0,[]⟩,
 ⟨.scalar,0,0,[]⟩,
 ⟨.scalar,0,0,[]⟩,
 ⟨.scalar,0,0,[]⟩,
 ⟨.scalar,0,0,[]⟩,
 ⟨.scalar,0,0,[]⟩,
 ⟨.scalar,0,0,[]⟩,
 ⟨.scalar,0,0,[]⟩,
 ⟨.scalar,0,0,[]⟩,
 ⟨.scalar,0,0,[]⟩,
 ⟨.scalar,0,0,[]⟩,
 ⟨.scalar,0,0,[]⟩,
 ⟨.scalar,0,0,[]⟩,
 ⟨.scalar,0,0,[]⟩,
 ⟨.scalar,0,0,[]⟩,
 ⟨.scalar,0,0,[]⟩,
 ⟨.scalar,0,0,[]⟩,
 ⟨.scalar,0,0,[]⟩,
 ⟨.scalar,0,0,[]⟩,
 ⟨.scalar,0,0,[]⟩,
 ⟨.scalar,0,0,[]⟩,
 ⟨.scalar,0,0,[]⟩,
 ⟨.scalar,0,0,[]⟩,
 ⟨.scalar,0,0,[]⟩,
 ⟨.scalar,0,0,[]⟩,
 ⟨.scalar,0,0,[]⟩,
 ⟨.scalar,0,0,[]⟩,
 ⟨.scalar,0,0,[]⟩,
 ⟨.scalar,0,0,[]⟩,
 ⟨.scalar,0,0,[]⟩,
 ⟨.scalar,0,0,[]⟩,
 ⟨.scalar,0,0,[]⟩,
 ⟨.scalar,0,0,[]⟩,
 ⟨.scalar,0,0,[]⟩,
 ⟨.scalar,0,0,[]⟩,
 ⟨.scalar,0,0,[]⟩,
 ⟨.scalar,0,0,[]⟩,
 ⟨.scalar,0,0,[]⟩,
 ⟨.scalar,0,0,[]⟩,
 ⟨.scalar,0,0,[]⟩,
 ⟨.scalar,0,0,[]⟩,
 ⟨.scalar,0,0,[]⟩,
 ⟨.slice 2,1,24,[.nl]⟩,
 ⟨.scalar,0,0,[]⟩,
 ⟨.scalar,0,0,[]⟩,
 ⟨.scalar,0,0,[]⟩,
 ⟨.scalar,0,0,[]⟩,
 ⟨.scalar,0,0,[]⟩,
 ⟨.scalar,0,0,[]⟩,
 ⟨.scalar,0,0,[]⟩,
 ⟨.array 9 4,9,9,[.bl false,.bl false,.bl false,.bl false,.bl false,.bl false,.bl false,.bl false,.bl false]⟩,
 ⟨.scalar,0,0,[]⟩,
 ⟨.scalar,0,0,[]⟩,
 ⟨.scalar,0,0,[]⟩,
 ⟨.int .u64,1,8,[(.v (.int .u64 0))]⟩,
 ⟨.scalar,0,0,[]⟩,
 ⟨.scalar,0,0,[]⟩,
 ⟨.int .u64,1,8,[(.v (.int .u64 0))]⟩,
 ⟨.scalar,0,0,[]⟩,
 ⟨.struct [0,1,2,3],4,40,[.v (.pointer none),.v (.pointer none),.v (.pointer none),.v (.string ⟨#[]⟩)]⟩,
 ⟨.struct [0,1,2,3],4,40,[.v (.pointer none),.v (.pointer none),.v (.pointer none),.v (.string ⟨#[]⟩)]⟩,
 ⟨.scalar,0,0,[]⟩,
 ⟨.scalar,0,0,[]⟩,
 ⟨.scalar,0,0,[]⟩,
 ⟨.scalar,0,0,[]⟩,
 ⟨.int .u32,1,4,[(.v (.int .u32 0))]⟩,
 ⟨.int .u8,1,1,[(.v (.int .u8 0))]⟩,
 ⟨.int .u8,1,1,[(.v (.int .u8 0))]⟩,
 ⟨.scalar,0,0,[]⟩,
 ⟨.scalar,1,8,[.v (.pointer none)]⟩,
 ⟨.int .i32,1,4,[(.v (.int .i32 0))]⟩,
 ⟨.int .i32,1,4,[(.v (.int .i32 0))]⟩,
 ⟨.struct [0,1,2,3,4,5,6,7,8,9,10],11,48,[(.v (.int .u64 0)),(.v (.int .u64 0)),(.v (.int .u32 0)),(.v (.int .u8 0)),(.v (.int .u8 0)),(.v (.int .u8 0)),(.v (.int .u8 0)),.v .nilFunc,.v (.pointer none),(.v (.int .i32 0)),(.v (.int .i32 0))]⟩,
 ⟨.struct [0,1,2,3,4,5,6,7,8,9,10],11,48,[(.v (.int .u64 0)),(.v (.int .u64 0)),(.v (.int .u32 0)),(.v (.int .u8 0)),(.v (.int .u8 0)),(.v (.int .u8 0)),(.v (.int .u8 0)),.v .nilFunc,.v (.pointer none),(.v (.int .i32 0)),(.v (.int .i32 0))]⟩,
 ⟨.scalar,0,0,[]⟩]
theorem zr3:zjz Proofs.Tryz.prog tabA tabA.length=true:=by kernel_rfl
theorem mix_ok:Proofs.Tryz.prog.follows .mixedOrders=true:=by kernel_rfl
namespace B
noncomputable abbrev law20_BeforeApplies:Func:=Proofs.Tryz.f5
noncomputable abbrev world_New:Func:=Proofs.Tryz.f6
noncomputable abbrev world_Tape_Table:Func:=Proofs.Tryz.f7
noncomputable abbrev world_Schema:Func:=Proofs.Tryz.f8
noncomputable abbrev world_Tape_Next:Func:=Proofs.Tryz.f10
noncomputable abbrev slices_Clone_Trigger:Func:=Proofs.Tryz.f11
noncomputable abbrev before_Row:Func:=Proofs.Tryz.f15
noncomputable abbrev slices_Equal_Value:Func:=Proofs.Tryz.f16
noncomputable abbrev law20_known:Func:=Proofs.Tryz.f17
noncomputable abbrev world_Tape_Triggers:Func:=Proofs.Tryz.f18
noncomputable abbrev world_Tape_Name:Func:=Proofs.Tryz.f19
noncomputable abbrev world_Tape_Bool:Func:=Proofs.Tryz.f20
noncomputable abbrev world_SameTriggers:Func:=Proofs.Tryz.f21
noncomputable abbrev before_Applicable:Func:=Proofs.Tryz.f22
noncomputable abbrev ref20_Applicable:Func:=Proofs.Tryz.f23
noncomputable abbrev world_Schemas:Func:=Proofs.Tryz.f24
noncomputable abbrev world_Tape_Expr:Func:=Proofs.Tryz.f25
noncomputable abbrev law20_set:Func:=Proofs.Tryz.f26
noncomputable abbrev world_Mod:Func:=Proofs.Tryz.f27
noncomputable abbrev world_Tape_Typed:Func:=Proofs.Tryz.f31
noncomputable abbrev world_Tape_Small:Func:=Proofs.Tryz.f32
noncomputable abbrev slices_Clone_Value:Func:=Proofs.Tryz.f33
noncomputable abbrev slices_Clone_int:Func:=Proofs.Tryz.f34
noncomputable abbrev pick_Eligible:Func:=Proofs.Tryz.f35
noncomputable abbrev pick_Choose:Func:=Proofs.Tryz.f36
noncomputable abbrev before_row_fire:Func:=Proofs.Tryz.f37
noncomputable abbrev slices_Delete_Trigger:Func:=Proofs.Tryz.f38
noncomputable abbrev world_Bin:Func:=Proofs.Tryz.f39
noncomputable abbrev world_Col:Func:=Proofs.Tryz.f40
noncomputable abbrev world_Num:Func:=Proofs.Tryz.f41
noncomputable abbrev ref1_Number:Func:=Proofs.Tryz.f42
noncomputable abbrev world_Tape_Trigger:Func:=Proofs.Tryz.f43
noncomputable abbrev ref17_Check:Func:=Proofs.Tryz.f44
noncomputable abbrev world_tablesOf:Func:=Proofs.Tryz.f45
noncomputable abbrev ref18_Add:Func:=Proofs.Tryz.f46
noncomputable abbrev slices_EqualFunc_Lapi_Trigger_Lapi_Trigger_api_Trigger_api_Trigger:Func:=Proofs.Tryz.f47
noncomputable abbrev world_SameTrigger:Func:=Proofs.Tryz.f48
noncomputable abbrev slices_ContainsFunc_string:Func:=Proofs.Tryz.f49
noncomputable abbrev before_Applicable_c1:Func:=Proofs.Tryz.f50
noncomputable abbrev slices_Contains_string:Func:=Proofs.Tryz.f51
noncomputable abbrev deep_Trigger:Func:=Proofs.Tryz.f52
noncomputable abbrev ref20_Has:Func:=Proofs.Tryz.f53
noncomputable abbrev world_Tape_column:Func:=Proofs.Tryz.f54
noncomputable abbrev world_Lit:Func:=Proofs.Tryz.f55
noncomputable abbrev world_Tape_query:Func:=Proofs.Tryz.f56
noncomputable abbrev world_Tape_condition:Func:=Proofs.Tryz.f57
noncomputable abbrev world_Tape_Number:Func:=Proofs.Tryz.f62
noncomputable abbrev world_Tape_Word:Func:=Proofs.Tryz.f63
noncomputable abbrev order_Precedes:Func:=Proofs.Tryz.f64
noncomputable abbrev evaluate_True:Func:=Proofs.Tryz.f65
noncomputable abbrev trigger_Frames:Func:=Proofs.Tryz.f66
noncomputable abbrev before_row_set:Func:=Proofs.Tryz.f67
noncomputable abbrev world_Tape_named:Func:=Proofs.Tryz.f68
noncomputable abbrev world_place:Func:=Proofs.Tryz.f69
noncomputable abbrev world_Tape_action:Func:=Proofs.Tryz.f70
noncomputable abbrev world_Tape_certify:Func:=Proofs.Tryz.f71
noncomputable abbrev ref11_ValidTrigger:Func:=Proofs.Tryz.f72
noncomputable abbrev ref14_Source:Func:=Proofs.Tryz.f73
noncomputable abbrev ref4_Find:Func:=Proofs.Tryz.f74
noncomputable abbrev ref17_Frames:Func:=Proofs.Tryz.f75
noncomputable abbrev ref17_All:Func:=Proofs.Tryz.f76
noncomputable abbrev ref17_Transitions:Func:=Proofs.Tryz.f77
noncomputable abbrev ref14_Condition:Func:=Proofs.Tryz.f78
noncomputable abbrev ref17_checkAction:Func:=Proofs.Tryz.f79
noncomputable abbrev ref6_New:Func:=Proofs.Tryz.f80
noncomputable abbrev ref18_Valid:Func:=Proofs.Tryz.f81
noncomputable abbrev ref18_insert:Func:=Proofs.Tryz.f82
noncomputable abbrev ref18_closure:Func:=Proofs.Tryz.f83
noncomputable abbrev slices_Equal_string:Func:=Proofs.Tryz.f84
noncomputable abbrev slices_Equal_Rank:Func:=Proofs.Tryz.f85
noncomputable abbrev world_sameExprs:Func:=Proofs.Tryz.f86
noncomputable abbrev slices_EqualFunc_Lapi_Action_Lapi_Action_api_Action_api_Action:Func:=Proofs.Tryz.f87
noncomputable abbrev world_SameAction:Func:=Proofs.Tryz.f88
noncomputable abbrev slices_IndexFunc_string:Func:=Proofs.Tryz.f89
noncomputable abbrev slices_Index_string:Func:=Proofs.Tryz.f90
noncomputable abbrev slices_Clone_string:Func:=Proofs.Tryz.f91
noncomputable abbrev slices_Clone_Rank:Func:=Proofs.Tryz.f92
noncomputable abbrev deep_Exprs:Func:=Proofs.Tryz.f93
noncomputable abbrev deep_list_api_Action:Func:=Proofs.Tryz.f94
noncomputable abbrev deep_Action:Func:=Proofs.Tryz.f95
noncomputable abbrev world_Inside:Func:=Proofs.Tryz.f96
noncomputable abbrev slices_Contains_Link:Func:=Proofs.Tryz.f97
noncomputable abbrev evaluate_Value:Func:=Proofs.Tryz.f98
noncomputable abbrev logic_Valid:Func:=Proofs.Tryz.f99
noncomputable abbrev logic_IsTrue:Func:=Proofs.Tryz.f100
noncomputable abbrev slices_Clone_Column:Func:=Proofs.Tryz.f101
noncomputable abbrev schema_Find:Func:=Proofs.Tryz.f102
noncomputable abbrev world_Between:Func:=Proofs.Tryz.f103
noncomputable abbrev world_Tape_Change:Func:=Proofs.Tryz.f104
noncomputable abbrev ref4_ValidName:Func:=Proofs.Tryz.f105
noncomputable abbrev ref11_names:Func:=Proofs.Tryz.f106
noncomputable abbrev ref11_all:Func:=Proofs.Tryz.f107
noncomputable abbrev ref11_ValidAction:Func:=Proofs.Tryz.f108
noncomputable abbrev ref5_Copy:Func:=Proofs.Tryz.f109
noncomputable abbrev ref17_transition:Func:=Proofs.Tryz.f110
noncomputable abbrev ref14_Type:Func:=Proofs.Tryz.f111
noncomputable abbrev ref14_fits:Func:=Proofs.Tryz.f112
noncomputable abbrev ref14_Assignable:Func:=Proofs.Tryz.f113
noncomputable abbrev ref16_Check:Func:=Proofs.Tryz.f114
noncomputable abbrev ref4_Valid:Func:=Proofs.Tryz.f115
noncomputable abbrev ref18_before:Func:=Proofs.Tryz.f116
noncomputable abbrev ref18_Precedes:Func:=Proofs.Tryz.f117
noncomputable abbrev slices_EqualFunc_Lapi_Expr_Lapi_Expr_api_Expr_api_Expr:Func:=Proofs.Tryz.f118
noncomputable abbrev world_SameExpr:Func:=Proofs.Tryz.f119
noncomputable abbrev slices_EqualFunc_LLapi_Expr_LLapi_Expr_Lapi_Expr_Lapi_Expr:Func:=Proofs.Tryz.f120
noncomputable abbrev slices_EqualFunc_Lapi_Query_Lapi_Query_api_Query_api_Query:Func:=Proofs.Tryz.f121
noncomputable abbrev world_SameQuery:Func:=Proofs.Tryz.f122
noncomputable abbrev slices_EqualFunc_Lapi_Set_Lapi_Set_api_Set_api_Set:Func:=Proofs.Tryz.f123
noncomputable abbrev world_sameSet:Func:=Proofs.Tryz.f124
noncomputable abbrev deep_list_api_Expr:Func:=Proofs.Tryz.f125
noncomputable abbrev deep_Expr:Func:=Proofs.Tryz.f126
noncomputable abbrev deep_list_Lapi_Expr:Func:=Proofs.Tryz.f127
noncomputable abbrev deep_list_api_Query:Func:=Proofs.Tryz.f128
noncomputable abbrev deep_Query:Func:=Proofs.Tryz.f129
noncomputable abbrev deep_list_api_Set:Func:=Proofs.Tryz.f130
noncomputable abbrev deep_set:Func:=Proofs.Tryz.f131
noncomputable abbrev slices_Index_Link:Func:=Proofs.Tryz.f132
noncomputable abbrev scope_Formed:Func:=Proofs.Tryz.f133
noncomputable abbrev scope_Resolve:Func:=Proofs.Tryz.f134
noncomputable abbrev evaluate_aggregate:Func:=Proofs.Tryz.f135
noncomputable abbrev evaluate_operation:Func:=Proofs.Tryz.f136
noncomputable abbrev value_Valid:Func:=Proofs.Tryz.f137
noncomputable abbrev value_Truth:Func:=Proofs.Tryz.f138
noncomputable abbrev slices_IndexFunc_Column:Func:=Proofs.Tryz.f139
noncomputable abbrev schema_Find_c1:Func:=Proofs.Tryz.f140
noncomputable abbrev world_Tape_copies:Func:=Proofs.Tryz.f141
noncomputable abbrev ref4_Letter:Func:=Proofs.Tryz.f142
noncomputable abbrev ref4_Digit:Func:=Proofs.Tryz.f143
noncomputable abbrev ref11_ValidExpr:Func:=Proofs.Tryz.f144
noncomputable abbrev ref11_validInsert:Func:=Proofs.Tryz.f145
noncomputable abbrev ref11_validSets:Func:=Proofs.Tryz.f146
noncomputable abbrev ref1_Valid:Func:=Proofs.Tryz.f147
noncomputable abbrev ref17_copyRows:Func:=Proofs.Tryz.f148
noncomputable abbrev ref11_Shape:Func:=Proofs.Tryz.f149
noncomputable abbrev ref14_Resolve:Func:=Proofs.Tryz.f150
noncomputable abbrev ref14_typeOfQuery:Func:=Proofs.Tryz.f151
noncomputable abbrev ref14_result:Func:=Proofs.Tryz.f152
noncomputable abbrev ref16_sound:Func:=Proofs.Tryz.f153
noncomputable abbrev ref16_checkInsert:Func:=Proofs.Tryz.f154
noncomputable abbrev ref14_Inside:Func:=Proofs.Tryz.f155
noncomputable abbrev evaluate_selected:Func:=Proofs.Tryz.f156
noncomputable abbrev evaluate_aggregate_c1:Func:=Proofs.Tryz.f157
noncomputable abbrev evaluate_isNull:Func:=Proofs.Tryz.f158
noncomputable abbrev value_Number:Func:=Proofs.Tryz.f159
noncomputable abbrev evaluate_sum:Func:=Proofs.Tryz.f160
noncomputable abbrev slices_MinFunc_Value:Func:=Proofs.Tryz.f161
noncomputable abbrev value_Compare:Func:=Proofs.Tryz.f162
noncomputable abbrev slices_MaxFunc_Value:Func:=Proofs.Tryz.f163
noncomputable abbrev evaluate_truth:Func:=Proofs.Tryz.f164
noncomputable abbrev logic_Not:Func:=Proofs.Tryz.f165
noncomputable abbrev evaluate_between:Func:=Proofs.Tryz.f166
noncomputable abbrev evaluate_arithmetic:Func:=Proofs.Tryz.f167
noncomputable abbrev logic_And:Func:=Proofs.Tryz.f168
noncomputable abbrev logic_Or:Func:=Proofs.Tryz.f169
noncomputable abbrev evaluate_comparison:Func:=Proofs.Tryz.f170
noncomputable abbrev value_plain:Func:=Proofs.Tryz.f171
noncomputable abbrev ref11_source:Func:=Proofs.Tryz.f172
noncomputable abbrev ref11_plain:Func:=Proofs.Tryz.f173
noncomputable abbrev ref11_ValidQuery:Func:=Proofs.Tryz.f174
noncomputable abbrev ref14_Types:Func:=Proofs.Tryz.f175
noncomputable abbrev evaluate_find:Func:=Proofs.Tryz.f176
noncomputable abbrev evaluate_inside:Func:=Proofs.Tryz.f177
noncomputable abbrev arith_Sum:Func:=Proofs.Tryz.f178
noncomputable abbrev cmp_Or_int:Func:=Proofs.Tryz.f179
noncomputable abbrev cmp_Compare_int:Func:=Proofs.Tryz.f180
noncomputable abbrev cmp_Compare_int64:Func:=Proofs.Tryz.f181
noncomputable abbrev cmp_Compare_string:Func:=Proofs.Tryz.f182
noncomputable abbrev arith_Add:Func:=Proofs.Tryz.f183
noncomputable abbrev arith_Subtract:Func:=Proofs.Tryz.f184
noncomputable abbrev arith_Multiply:Func:=Proofs.Tryz.f185
noncomputable abbrev arith_Divide:Func:=Proofs.Tryz.f186
noncomputable abbrev arith_Modulo:Func:=Proofs.Tryz.f187
noncomputable abbrev logic_and:Func:=Proofs.Tryz.f188
noncomputable abbrev slices_IndexFunc_Table:Func:=Proofs.Tryz.f189
noncomputable abbrev evaluate_find_c1:Func:=Proofs.Tryz.f190
noncomputable abbrev slices_Clone_Frame:Func:=Proofs.Tryz.f191
noncomputable abbrev math_bits_Add64:Func:=Proofs.Tryz.f192
noncomputable abbrev cmp_isNaN_int:Func:=Proofs.Tryz.f193
noncomputable abbrev cmp_isNaN_int64:Func:=Proofs.Tryz.f194
noncomputable abbrev cmp_isNaN_string:Func:=Proofs.Tryz.f195
end B
namespace At
theorem law20_BeforeApplies:Proofs.Tryz.prog.funcs[S.law20_BeforeApplies]?=some B.law20_BeforeApplies:=Proofs.Tryz.func5
theorem world_New:Proofs.Tryz.prog.funcs[S.world_New]?=some B.world_New:=Proofs.Tryz.func6
theorem world_Tape_Table:Proofs.Tryz.prog.funcs[S.world_Tape_Table]?=some B.world_Tape_Table:=Proofs.Tryz.func7
theorem world_Schema:Proofs.Tryz.prog.funcs[S.world_Schema]?=some B.world_Schema:=Proofs.Tryz.func8
theorem world_Tape_Next:Proofs.Tryz.prog.funcs[S.world_Tape_Next]?=some B.world_Tape_Next:=Proofs.Tryz.func10
theorem slices_Clone_Trigger:Proofs.Tryz.prog.funcs[S.slices_Clone_Trigger]?=some B.slices_Clone_Trigger:=Proofs.Tryz.func11
theorem before_Row:Proofs.Tryz.prog.funcs[S.before_Row]?=some B.before_Row:=Proofs.Tryz.func15
theorem slices_Equal_Value:Proofs.Tryz.prog.funcs[S.slices_Equal_Value]?=some B.slices_Equal_Value:=Proofs.Tryz.func16
theorem law20_known:Proofs.Tryz.prog.funcs[S.law20_known]?=some B.law20_known:=Proofs.Tryz.func17
theorem world_Tape_Triggers:Proofs.Tryz.prog.funcs[S.world_Tape_Triggers]?=some B.world_Tape_Triggers:=Proofs.Tryz.func18
theorem world_Tape_Name:Proofs.Tryz.prog.funcs[S.world_Tape_Name]?=some B.world_Tape_Name:=Proofs.Tryz.func19
theorem world_Tape_Bool:Proofs.Tryz.prog.funcs[S.world_Tape_Bool]?=some B.world_Tape_Bool:=Proofs.Tryz.func20
theorem world_SameTriggers:Proofs.Tryz.prog.funcs[S.world_SameTriggers]?=some B.world_SameTriggers:=Proofs.Tryz.func21
theorem before_Applicable:Proofs.Tryz.prog.funcs[S.before_Applicable]?=some B.before_Applicable:=Proofs.Tryz.func22
theorem ref20_Applicable:Proofs.Tryz.prog.funcs[S.ref20_Applicable]?=some B.ref20_Applicable:=Proofs.Tryz.func23
theorem world_Schemas:Proofs.Tryz.prog.funcs[S.world_Schemas]?=some B.world_Schemas:=Proofs.Tryz.func24
theorem world_Tape_Expr:Proofs.Tryz.prog.funcs[S.world_Tape_Expr]?=some B.world_Tape_Expr:=Proofs.Tryz.func25
theorem law20_set:Proofs.Tryz.prog.funcs[S.law20_set]?=some B.law20_set:=Proofs.Tryz.func26
theorem world_Mod:Proofs.Tryz.prog.funcs[S.world_Mod]?=some B.world_Mod:=Proofs.Tryz.func27
theorem world_Tape_Typed:Proofs.Tryz.prog.funcs[S.world_Tape_Typed]?=some B.world_Tape_Typed:=Proofs.Tryz.func31
theorem world_Tape_Small:Proofs.Tryz.prog.funcs[S.world_Tape_Small]?=some B.world_Tape_Small:=Proofs.Tryz.func32
theorem slices_Clone_Value:Proofs.Tryz.prog.funcs[S.slices_Clone_Value]?=some B.slices_Clone_Value:=Proofs.Tryz.func33
theorem slices_Clone_int:Proofs.Tryz.prog.funcs[S.slices_Clone_int]?=some B.slices_Clone_int:=Proofs.Tryz.func34
theorem pick_Eligible:Proofs.Tryz.prog.funcs[S.pick_Eligible]?=some B.pick_Eligible:=Proofs.Tryz.func35
theorem pick_Choose:Proofs.Tryz.prog.funcs[S.pick_Choose]?=some B.pick_Choose:=Proofs.Tryz.func36
theorem before_row_fire:Proofs.Tryz.prog.funcs[S.before_row_fire]?=some B.before_row_fire:=Proofs.Tryz.func37
theorem slices_Delete_Trigger:Proofs.Tryz.prog.funcs[S.slices_Delete_Trigger]?=some B.slices_Delete_Trigger:=Proofs.Tryz.func38
theorem world_Bin:Proofs.Tryz.prog.funcs[S.world_Bin]?=some B.world_Bin:=Proofs.Tryz.func39
theorem world_Col:Proofs.Tryz.prog.funcs[S.world_Col]?=some B.world_Col:=Proofs.Tryz.func40
theorem world_Num:Proofs.Tryz.prog.funcs[S.world_Num]?=some B.world_Num:=Proofs.Tryz.func41
theorem ref1_Number:Proofs.Tryz.prog.funcs[S.ref1_Number]?=some B.ref1_Number:=Proofs.Tryz.func42
theorem world_Tape_Trigger:Proofs.Tryz.prog.funcs[S.world_Tape_Trigger]?=some B.world_Tape_Trigger:=Proofs.Tryz.func43
theorem ref17_Check:Proofs.Tryz.prog.funcs[S.ref17_Check]?=some B.ref17_Check:=Proofs.Tryz.func44
theorem world_tablesOf:Proofs.Tryz.prog.funcs[S.world_tablesOf]?=some B.world_tablesOf:=Proofs.Tryz.func45
theorem ref18_Add:Proofs.Tryz.prog.funcs[S.ref18_Add]?=some B.ref18_Add:=Proofs.Tryz.func46
theorem slices_EqualFunc_Lapi_Trigger_Lapi_Trigger_api_Trigger_api_Trigger:Proofs.Tryz.prog.funcs[S.slices_EqualFunc_Lapi_Trigger_Lapi_Trigger_api_Trigger_api_Trigger]?=some B.slices_EqualFunc_Lapi_Trigger_Lapi_Trigger_api_Trigger_api_Trigger:=Proofs.Tryz.func47
theorem world_SameTrigger:Proofs.Tryz.prog.funcs[S.world_SameTrigger]?=some B.world_SameTrigger:=Proofs.Tryz.func48
theorem slices_ContainsFunc_string:Proofs.Tryz.prog.funcs[S.slices_ContainsFunc_string]?=some B.slices_ContainsFunc_string:=Proofs.Tryz.func49
theorem before_Applicable_c1:Proofs.Tryz.prog.funcs[S.before_Applicable_c1]?=some B.before_Applicable_c1:=Proofs.Tryz.func50
theorem slices_Contains_string:Proofs.Tryz.prog.funcs[S.slices_Contains_string]?=some B.slices_Contains_string:=Proofs.Tryz.func51
theorem deep_Trigger:Proofs.Tryz.prog.funcs[S.deep_Trigger]?=some B.deep_Trigger:=Proofs.Tryz.func52
theorem ref20_Has:Proofs.Tryz.prog.funcs[S.ref20_Has]?=some B.ref20_Has:=Proofs.Tryz.func53
theorem world_Tape_column:Proofs.Tryz.prog.funcs[S.world_Tape_column]?=some B.world_Tape_column:=Proofs.Tryz.func54
theorem world_Lit:Proofs.Tryz.prog.funcs[S.world_Lit]?=some B.world_Lit:=Proofs.Tryz.func55
theorem world_Tape_query:Proofs.Tryz.prog.funcs[S.world_Tape_query]?=some B.world_Tape_query:=Proofs.Tryz.func56
theorem world_Tape_condition:Proofs.Tryz.prog.funcs[S.world_Tape_condition]?=some B.world_Tape_condition:=Proofs.Tryz.func57
theorem world_Tape_Number:Proofs.Tryz.prog.funcs[S.world_Tape_Number]?=some B.world_Tape_Number:=Proofs.Tryz.func62
theorem world_Tape_Word:Proofs.Tryz.prog.funcs[S.world_Tape_Word]?=some B.world_Tape_Word:=Proofs.Tryz.func63
theorem order_Precedes:Proofs.Tryz.prog.funcs[S.order_Precedes]?=some B.order_Precedes:=Proofs.Tryz.func64
theorem evaluate_True:Proofs.Tryz.prog.funcs[S.evaluate_True]?=some B.evaluate_True:=Proofs.Tryz.func65
theorem trigger_Frames:Proofs.Tryz.prog.funcs[S.trigger_Frames]?=some B.trigger_Frames:=Proofs.Tryz.func66
theorem before_row_set:Proofs.Tryz.prog.funcs[S.before_row_set]?=some B.before_row_set:=Proofs.Tryz.func67
theorem world_Tape_named:Proofs.Tryz.prog.funcs[S.world_Tape_named]?=some B.world_Tape_named:=Proofs.Tryz.func68
theorem world_place:Proofs.Tryz.prog.funcs[S.world_place]?=some B.world_place:=Proofs.Tryz.func69
theorem world_Tape_action:Proofs.Tryz.prog.funcs[S.world_Tape_action]?=some B.world_Tape_action:=Proofs.Tryz.func70
theorem world_Tape_certify:Proofs.Tryz.prog.funcs[S.world_Tape_certify]?=some B.world_Tape_certify:=Proofs.Tryz.func71
theorem ref11_ValidTrigger:Proofs.Tryz.prog.funcs[S.ref11_ValidTrigger]?=some B.ref11_ValidTrigger:=Proofs.Tryz.func72
theorem ref14_Source:Proofs.Tryz.prog.funcs[S.ref14_Source]?=some B.ref14_Source:=Proofs.Tryz.func73
theorem ref4_Find:Proofs.Tryz.prog.funcs[S.ref4_Find]?=some B.ref4_Find:=Proofs.Tryz.func74
theorem ref17_Frames:Proofs.Tryz.prog.funcs[S.ref17_Frames]?=some B.ref17_Frames:=Proofs.Tryz.func75
theorem ref17_All:Proofs.Tryz.prog.funcs[S.ref17_All]?=some B.ref17_All:=Proofs.Tryz.func76
theorem ref17_Transitions:Proofs.Tryz.prog.funcs[S.ref17_Transitions]?=some B.ref17_Transitions:=Proofs.Tryz.func77
theorem ref14_Condition:Proofs.Tryz.prog.funcs[S.ref14_Condition]?=some B.ref14_Condition:=Proofs.Tryz.func78
theorem ref17_checkAction:Proofs.Tryz.prog.funcs[S.ref17_checkAction]?=some B.ref17_checkAction:=Proofs.Tryz.func79
theorem ref6_New:Proofs.Tryz.prog.funcs[S.ref6_New]?=some B.ref6_New:=Proofs.Tryz.func80
theorem ref18_Valid:Proofs.Tryz.prog.funcs[S.ref18_Valid]?=some B.ref18_Valid:=Proofs.Tryz.func81
theorem ref18_insert:Proofs.Tryz.prog.funcs[S.ref18_insert]?=some B.ref18_insert:=Proofs.Tryz.func82
theorem ref18_closure:Proofs.Tryz.prog.funcs[S.ref18_closure]?=some B.ref18_closure:=Proofs.Tryz.func83
theorem slices_Equal_string:Proofs.Tryz.prog.funcs[S.slices_Equal_string]?=some B.slices_Equal_string:=Proofs.Tryz.func84
theorem slices_Equal_Rank:Proofs.Tryz.prog.funcs[S.slices_Equal_Rank]?=some B.slices_Equal_Rank:=Proofs.Tryz.func85
theorem world_sameExprs:Proofs.Tryz.prog.funcs[S.world_sameExprs]?=some B.world_sameExprs:=Proofs.Tryz.func86
theorem slices_EqualFunc_Lapi_Action_Lapi_Action_api_Action_api_Action:Proofs.Tryz.prog.funcs[S.slices_EqualFunc_Lapi_Action_Lapi_Action_api_Action_api_Action]?=some B.slices_EqualFunc_Lapi_Action_Lapi_Action_api_Action_api_Action:=Proofs.Tryz.func87
theorem world_SameAction:Proofs.Tryz.prog.funcs[S.world_SameAction]?=some B.world_SameAction:=Proofs.Tryz.func88
theorem slices_IndexFunc_string:Proofs.Tryz.prog.funcs[S.slices_IndexFunc_string]?=some B.slices_IndexFunc_string:=Proofs.Tryz.func89
theorem slices_Index_string:Proofs.Tryz.prog.funcs[S.slices_Index_string]?=some B.slices_Index_string:=Proofs.Tryz.func90
theorem slices_Clone_string:Proofs.Tryz.prog.funcs[S.slices_Clone_string]?=some B.slices_Clone_string:=Proofs.Tryz.func91
theorem slices_Clone_Rank:Proofs.Tryz.prog.funcs[S.slices_Clone_Rank]?=some B.slices_Clone_Rank:=Proofs.Tryz.func92
theorem deep_Exprs:Proofs.Tryz.prog.funcs[S.deep_Exprs]?=some B.deep_Exprs:=Proofs.Tryz.func93
theorem deep_list_api_Action:Proofs.Tryz.prog.funcs[S.deep_list_api_Action]?=some B.deep_list_api_Action:=Proofs.Tryz.func94
theorem deep_Action:Proofs.Tryz.prog.funcs[S.deep_Action]?=some B.deep_Action:=Proofs.Tryz.func95
theorem world_Inside:Proofs.Tryz.prog.funcs[S.world_Inside]?=some B.world_Inside:=Proofs.Tryz.func96
theorem slices_Contains_Link:Proofs.Tryz.prog.funcs[S.slices_Contains_Link]?=some B.slices_Contains_Link:=Proofs.Tryz.func97
theorem evaluate_Value:Proofs.Tryz.prog.funcs[S.evaluate_Value]?=some B.evaluate_Value:=Proofs.Tryz.func98
theorem logic_Valid:Proofs.Tryz.prog.funcs[S.logic_Valid]?=some B.logic_Valid:=Proofs.Tryz.func99
theorem logic_IsTrue:Proofs.Tryz.prog.funcs[S.logic_IsTrue]?=some B.logic_IsTrue:=Proofs.Tryz.func100
theorem slices_Clone_Column:Proofs.Tryz.prog.funcs[S.slices_Clone_Column]?=some B.slices_Clone_Column:=Proofs.Tryz.func101
theorem schema_Find:Proofs.Tryz.prog.funcs[S.schema_Find]?=some B.schema_Find:=Proofs.Tryz.func102
theorem world_Between:Proofs.Tryz.prog.funcs[S.world_Between]?=some B.world_Between:=Proofs.Tryz.func103
theorem world_Tape_Change:Proofs.Tryz.prog.funcs[S.world_Tape_Change]?=some B.world_Tape_Change:=Proofs.Tryz.func104
theorem ref4_ValidName:Proofs.Tryz.prog.funcs[S.ref4_ValidName]?=some B.ref4_ValidName:=Proofs.Tryz.func105
theorem ref11_names:Proofs.Tryz.prog.funcs[S.ref11_names]?=some B.ref11_names:=Proofs.Tryz.func106
theorem ref11_all:Proofs.Tryz.prog.funcs[S.ref11_all]?=some B.ref11_all:=Proofs.Tryz.func107
theorem ref11_ValidAction:Proofs.Tryz.prog.funcs[S.ref11_ValidAction]?=some B.ref11_ValidAction:=Proofs.Tryz.func108
theorem ref5_Copy:Proofs.Tryz.prog.funcs[S.ref5_Copy]?=some B.ref5_Copy:=Proofs.Tryz.func109
theorem ref17_transition:Proofs.Tryz.prog.funcs[S.ref17_transition]?=some B.ref17_transition:=Proofs.Tryz.func110
theorem ref14_Type:Proofs.Tryz.prog.funcs[S.ref14_Type]?=some B.ref14_Type:=Proofs.Tryz.func111
theorem ref14_fits:Proofs.Tryz.prog.funcs[S.ref14_fits]?=some B.ref14_fits:=Proofs.Tryz.func112
theorem ref14_Assignable:Proofs.Tryz.prog.funcs[S.ref14_Assignable]?=some B.ref14_Assignable:=Proofs.Tryz.func113
theorem ref16_Check:Proofs.Tryz.prog.funcs[S.ref16_Check]?=some B.ref16_Check:=Proofs.Tryz.func114
theorem ref4_Valid:Proofs.Tryz.prog.funcs[S.ref4_Valid]?=some B.ref4_Valid:=Proofs.Tryz.func115
theorem ref18_before:Proofs.Tryz.prog.funcs[S.ref18_before]?=some B.ref18_before:=Proofs.Tryz.func116
theorem ref18_Precedes:Proofs.Tryz.prog.funcs[S.ref18_Precedes]?=some B.ref18_Precedes:=Proofs.Tryz.func117
theorem slices_EqualFunc_Lapi_Expr_Lapi_Expr_api_Expr_api_Expr:Proofs.Tryz.prog.funcs[S.slices_EqualFunc_Lapi_Expr_Lapi_Expr_api_Expr_api_Expr]?=some B.slices_EqualFunc_Lapi_Expr_Lapi_Expr_api_Expr_api_Expr:=Proofs.Tryz.func118
theorem world_SameExpr:Proofs.Tryz.prog.funcs[S.world_SameExpr]?=some B.world_SameExpr:=Proofs.Tryz.func119
theorem slices_EqualFunc_LLapi_Expr_LLapi_Expr_Lapi_Expr_Lapi_Expr:Proofs.Tryz.prog.funcs[S.slices_EqualFunc_LLapi_Expr_LLapi_Expr_Lapi_Expr_Lapi_Expr]?=some B.slices_EqualFunc_LLapi_Expr_LLapi_Expr_Lapi_Expr_Lapi_Expr:=Proofs.Tryz.func120
theorem slices_EqualFunc_Lapi_Query_Lapi_Query_api_Query_api_Query:Proofs.Tryz.prog.funcs[S.slices_EqualFunc_Lapi_Query_Lapi_Query_api_Query_api_Query]?=some B.slices_EqualFunc_Lapi_Query_Lapi_Query_api_Query_api_Query:=Proofs.Tryz.func121
theorem world_SameQuery:Proofs.Tryz.prog.funcs[S.world_SameQuery]?=some B.world_SameQuery:=Proofs.Tryz.func122
theorem slices_EqualFunc_Lapi_Set_Lapi_Set_api_Set_api_Set:Proofs.Tryz.prog.funcs[S.slices_EqualFunc_Lapi_Set_Lapi_Set_api_Set_api_Set]?=some B.slices_EqualFunc_Lapi_Set_Lapi_Set_api_Set_api_Set:=Proofs.Tryz.func123
theorem world_sameSet:Proofs.Tryz.prog.funcs[S.world_sameSet]?=some B.world_sameSet:=Proofs.Tryz.func124
theorem deep_list_api_Expr:Proofs.Tryz.prog.funcs[S.deep_list_api_Expr]?=some B.deep_list_api_Expr:=Proofs.Tryz.func125
theorem deep_Expr:Proofs.Tryz.prog.funcs[S.deep_Expr]?=some B.deep_Expr:=Proofs.Tryz.func126
theorem deep_list_Lapi_Expr:Proofs.Tryz.prog.funcs[S.deep_list_Lapi_Expr]?=some B.deep_list_Lapi_Expr:=Proofs.Tryz.func127
theorem deep_list_api_Query:Proofs.Tryz.prog.funcs[S.deep_list_api_Query]?=some B.deep_list_api_Query:=Proofs.Tryz.func128
theorem deep_Query:Proofs.Tryz.prog.funcs[S.deep_Query]?=some B.deep_Query:=Proofs.Tryz.func129
theorem deep_list_api_Set:Proofs.Tryz.prog.funcs[S.deep_list_api_Set]?=some B.deep_list_api_Set:=Proofs.Tryz.func130
theorem deep_set:Proofs.Tryz.prog.funcs[S.deep_set]?=some B.deep_set:=Proofs.Tryz.func131
theorem slices_Index_Link:Proofs.Tryz.prog.funcs[S.slices_Index_Link]?=some B.slices_Index_Link:=Proofs.Tryz.func132
theorem scope_Formed:Proofs.Tryz.prog.funcs[S.scope_Formed]?=some B.scope_Formed:=Proofs.Tryz.func133
theorem scope_Resolve:Proofs.Tryz.prog.funcs[S.scope_Resolve]?=some B.scope_Resolve:=Proofs.Tryz.func134
theorem evaluate_aggregate:Proofs.Tryz.prog.funcs[S.evaluate_aggregate]?=some B.evaluate_aggregate:=Proofs.Tryz.func135
theorem evaluate_operation:Proofs.Tryz.prog.funcs[S.evaluate_operation]?=some B.evaluate_operation:=Proofs.Tryz.func136
theorem value_Valid:Proofs.Tryz.prog.funcs[S.value_Valid]?=some B.value_Valid:=Proofs.Tryz.func137
theorem value_Truth:Proofs.Tryz.prog.funcs[S.value_Truth]?=some B.value_Truth:=Proofs.Tryz.func138
theorem slices_IndexFunc_Column:Proofs.Tryz.prog.funcs[S.slices_IndexFunc_Column]?=some B.slices_IndexFunc_Column:=Proofs.Tryz.func139
theorem schema_Find_c1:Proofs.Tryz.prog.funcs[S.schema_Find_c1]?=some B.schema_Find_c1:=Proofs.Tryz.func140
theorem world_Tape_copies:Proofs.Tryz.prog.funcs[S.world_Tape_copies]?=some B.world_Tape_copies:=Proofs.Tryz.func141
theorem ref4_Letter:Proofs.Tryz.prog.funcs[S.ref4_Letter]?=some B.ref4_Letter:=Proofs.Tryz.func142
theorem ref4_Digit:Proofs.Tryz.prog.funcs[S.ref4_Digit]?=some B.ref4_Digit:=Proofs.Tryz.func143
theorem ref11_ValidExpr:Proofs.Tryz.prog.funcs[S.ref11_ValidExpr]?=some B.ref11_ValidExpr:=Proofs.Tryz.func144
theorem ref11_validInsert:Proofs.Tryz.prog.funcs[S.ref11_validInsert]?=some B.ref11_validInsert:=Proofs.Tryz.func145
theorem ref11_validSets:Proofs.Tryz.prog.funcs[S.ref11_validSets]?=some B.ref11_validSets:=Proofs.Tryz.func146
theorem ref1_Valid:Proofs.Tryz.prog.funcs[S.ref1_Valid]?=some B.ref1_Valid:=Proofs.Tryz.func147
theorem ref17_copyRows:Proofs.Tryz.prog.funcs[S.ref17_copyRows]?=some B.ref17_copyRows:=Proofs.Tryz.func148
theorem ref11_Shape:Proofs.Tryz.prog.funcs[S.ref11_Shape]?=some B.ref11_Shape:=Proofs.Tryz.func149
theorem ref14_Resolve:Proofs.Tryz.prog.funcs[S.ref14_Resolve]?=some B.ref14_Resolve:=Proofs.Tryz.func150
theorem ref14_typeOfQuery:Proofs.Tryz.prog.funcs[S.ref14_typeOfQuery]?=some B.ref14_typeOfQuery:=Proofs.Tryz.func151
theorem ref14_result:Proofs.Tryz.prog.funcs[S.ref14_result]?=some B.ref14_result:=Proofs.Tryz.func152
theorem ref16_sound:Proofs.Tryz.prog.funcs[S.ref16_sound]?=some B.ref16_sound:=Proofs.Tryz.func153
theorem ref16_checkInsert:Proofs.Tryz.prog.funcs[S.ref16_checkInsert]?=some B.ref16_checkInsert:=Proofs.Tryz.func154
theorem ref14_Inside:Proofs.Tryz.prog.funcs[S.ref14_Inside]?=some B.ref14_Inside:=Proofs.Tryz.func155
theorem evaluate_selected:Proofs.Tryz.prog.funcs[S.evaluate_selected]?=some B.evaluate_selected:=Proofs.Tryz.func156
theorem evaluate_aggregate_c1:Proofs.Tryz.prog.funcs[S.evaluate_aggregate_c1]?=some B.evaluate_aggregate_c1:=Proofs.Tryz.func157
theorem evaluate_isNull:Proofs.Tryz.prog.funcs[S.evaluate_isNull]?=some B.evaluate_isNull:=Proofs.Tryz.func158
theorem value_Number:Proofs.Tryz.prog.funcs[S.value_Number]?=some B.value_Number:=Proofs.Tryz.func159
theorem evaluate_sum:Proofs.Tryz.prog.funcs[S.evaluate_sum]?=some B.evaluate_sum:=Proofs.Tryz.func160
theorem slices_MinFunc_Value:Proofs.Tryz.prog.funcs[S.slices_MinFunc_Value]?=some B.slices_MinFunc_Value:=Proofs.Tryz.func161
theorem value_Compare:Proofs.Tryz.prog.funcs[S.value_Compare]?=some B.value_Compare:=Proofs.Tryz.func162
theorem slices_MaxFunc_Value:Proofs.Tryz.prog.funcs[S.slices_MaxFunc_Value]?=some B.slices_MaxFunc_Value:=Proofs.Tryz.func163
theorem evaluate_truth:Proofs.Tryz.prog.funcs[S.evaluate_truth]?=some B.evaluate_truth:=Proofs.Tryz.func164
theorem logic_Not:Proofs.Tryz.prog.funcs[S.logic_Not]?=some B.logic_Not:=Proofs.Tryz.func165
theorem evaluate_between:Proofs.Tryz.prog.funcs[S.evaluate_between]?=some B.evaluate_between:=Proofs.Tryz.func166
theorem evaluate_arithmetic:Proofs.Tryz.prog.funcs[S.evaluate_arithmetic]?=some B.evaluate_arithmetic:=Proofs.Tryz.func167
theorem logic_And:Proofs.Tryz.prog.funcs[S.logic_And]?=some B.logic_And:=Proofs.Tryz.func168
theorem logic_Or:Proofs.Tryz.prog.funcs[S.logic_Or]?=some B.logic_Or:=Proofs.Tryz.func169
theorem evaluate_comparison:Proofs.Tryz.prog.funcs[S.evaluate_comparison]?=some B.evaluate_comparison:=Proofs.Tryz.func170
theorem value_plain:Proofs.Tryz.prog.funcs[S.value_plain]?=some B.value_plain:=Proofs.Tryz.func171
theorem ref11_source:Proofs.Tryz.prog.funcs[S.ref11_source]?=some B.ref11_source:=Proofs.Tryz.func172
theorem ref11_plain:Proofs.Tryz.prog.funcs[S.ref11_plain]?=some B.ref11_plain:=Proofs.Tryz.func173
theorem ref11_ValidQuery:Proofs.Tryz.prog.funcs[S.ref11_ValidQuery]?=some B.ref11_ValidQuery:=Proofs.Tryz.func174
theorem ref14_Types:Proofs.Tryz.prog.funcs[S.ref14_Types]?=some B.ref14_Types:=Proofs.Tryz.func175
theorem evaluate_find:Proofs.Tryz.prog.funcs[S.evaluate_find]?=some B.evaluate_find:=Proofs.Tryz.func176
theorem evaluate_inside:Proofs.Tryz.prog.funcs[S.evaluate_inside]?=some B.evaluate_inside:=Proofs.Tryz.func177
theorem arith_Sum:Proofs.Tryz.prog.funcs[S.arith_Sum]?=some B.arith_Sum:=Proofs.Tryz.func178
theorem cmp_Or_int:Proofs.Tryz.prog.funcs[S.cmp_Or_int]?=some B.cmp_Or_int:=Proofs.Tryz.func179
theorem cmp_Compare_int:Proofs.Tryz.prog.funcs[S.cmp_Compare_int]?=some B.cmp_Compare_int:=Proofs.Tryz.func180
theorem cmp_Compare_int64:Proofs.Tryz.prog.funcs[S.cmp_Compare_int64]?=some B.cmp_Compare_int64:=Proofs.Tryz.func181
theorem cmp_Compare_string:Proofs.Tryz.prog.funcs[S.cmp_Compare_string]?=some B.cmp_Compare_string:=Proofs.Tryz.func182
theorem arith_Add:Proofs.Tryz.prog.funcs[S.arith_Add]?=some B.arith_Add:=Proofs.Tryz.func183
theorem arith_Subtract:Proofs.Tryz.prog.funcs[S.arith_Subtract]?=some B.arith_Subtract:=Proofs.Tryz.func184
theorem arith_Multiply:Proofs.Tryz.prog.funcs[S.arith_Multiply]?=some B.arith_Multiply:=Proofs.Tryz.func185
theorem arith_Divide:Proofs.Tryz.prog.funcs[S.arith_Divide]?=some B.arith_Divide:=Proofs.Tryz.func186
theorem arith_Modulo:Proofs.Tryz.prog.funcs[S.arith_Modulo]?=some B.arith_Modulo:=Proofs.Tryz.func187
theorem logic_and:Proofs.Tryz.prog.funcs[S.logic_and]?=some B.logic_and:=Proofs.Tryz.func188
theorem slices_IndexFunc_Table:Proofs.Tryz.prog.funcs[S.slices_IndexFunc_Table]?=some B.slices_IndexFunc_Table:=Proofs.Tryz.func189
theorem evaluate_find_c1:Proofs.Tryz.prog.funcs[S.evaluate_find_c1]?=some B.evaluate_find_c1:=Proofs.Tryz.func190
theorem slices_Clone_Frame:Proofs.Tryz.prog.funcs[S.slices_Clone_Frame]?=some B.slices_Clone_Frame:=Proofs.Tryz.func191
theorem math_bits_Add64:Proofs.Tryz.prog.funcs[S.math_bits_Add64]?=some B.math_bits_Add64:=Proofs.Tryz.func192
theorem cmp_isNaN_int:Proofs.Tryz.prog.funcs[S.cmp_isNaN_int]?=some B.cmp_isNaN_int:=Proofs.Tryz.func193
theorem cmp_isNaN_int64:Proofs.Tryz.prog.funcs[S.cmp_isNaN_int64]?=some B.cmp_isNaN_int64:=Proofs.Tryz.func194
theorem cmp_isNaN_string:Proofs.Tryz.prog.funcs[S.cmp_isNaN_string]?=some B.cmp_isNaN_string:=Proofs.Tryz.func195
end At
end Go.AM
namespace Go.AM
theorem Rel.nilRow {E:Env0} {h:Heap} {β:List Con} {S:Addr→Prop} {w:World} (r:Rel E h β S w) (e:TypeId) (a:Option Addr) :
  Ext h β S w (h++[Blk.row e [] false]) (β++[.nil a]) S w∧Rel E (h++[Blk.row e [] false]) (β++[.nil a]) S w :=
 r.newRow e [] false (.nil a) ⟨rfl,rfl,rfl,Nat.le_refl _,fun _ _=>rfl⟩ (fun g hg=>by cases hg) rfl
theorem zi3 {T:TypeId→TI} {h:Heap} {β:List Con} {S:Addr→Prop} {w:World} {v:Value} (hv:RelV T h β w S .nl v):∃ a,v=.slice a 0 0:=by
 cases hv with
 | d _ _ hd=>cases hd
 | nl a=>exact ⟨a,rfl⟩
theorem Rel.ownNil {E:Env0} {h:Heap} {β:List Con} {S:Addr→Prop} {w:World} (r:Rel E h β S w) (e:TypeId) (a:Option Addr) :
  RelV E.T (h++[Blk.row e [] false]) (β++[.nil a]) w S (.own h.length 0) (.slice a 0 0) :=
 .own _ _ _ e [] false (getElem?_append_new _ _) (Nat.le_refl _) (fun _=>by rw [← r.len,getElem?_append_new];rfl) rfl
theorem zrs {E:Env0} {fn:Func} {h0:Heap} {c:Cfg} {R:AV→Heap→Prop} (t:Nat) (e:TypeId) (hc:look c.ts t=.nl)
  (hg:Good E fn h0 ⟨c.n,c.todo,(t,.own c.h.length 0)::c.ts,c.h++[Blk.row e [] false]⟩ R):Good E fn h0 c R:=by
 intro β0 S0 w0 β S w tmps hb0 hn x0 r rt
 have ht:=rt t
 rw [hc] at ht
 obtain ⟨a,ha⟩:=zi3 ht
 obtain ⟨x1,r1⟩:=r.nilRow e a
 refine hg β0 S0 w0 _ S w tmps hb0 hn (x0.trans x1) r1 fun t'=>?_
 simp only [look]
 cases hb:Nat.beq t t' with
 | true =>
  have:=Nat.eq_of_beq_eq_true hb
  subst this
  simp only
  rw [ha]
  exact r.ownNil e a
 | false=>exact (rt t').ext x1
theorem zcU {E:Env0} {fn:Func} {h0 H:Heap} {c:Cfg} {R:AV→Heap→Prop} (e:TypeId) (hg:Good E fn h0 c fun r h=>r=.nl∧h=H)
  (hR:R (.own H.length 0) (H++[Blk.row e [] false])):Good E fn h0 c R:=by
 intro β0 S0 w0 β S w tmps hb0 hn x0 r rt
 refine zdw (zmy fun en w' hp=>?_) _ _ _ _ (hg β0 S0 w0 β S w tmps hb0 hn x0 r rt)
 obtain ⟨y,h',β',S',v,he,⟨rfl,rfl⟩,r',x',hv⟩:=hp
 obtain ⟨a,rfl⟩:=zi3 hv
 obtain ⟨x1,r1⟩:=r'.nilRow e a
 exact ⟨_,_,_,S',_,he,hR,r1,x'.trans x1,r'.ownNil e a⟩
theorem zgl {h:Heap} {β:List Con} {S:Addr→Prop} {w:World} {b:Nat} {cs:List AV} (hb:h[b]?=some (.box cs)) (cs':List AV):Ext h β S w (h.set b (.box cs')) β S w :=
 { Ext.refl h β S w with
  box:=fun b' cs1 h1=>by
   by_cases hbb:b=b'
   ·subst hbb
    exact ⟨cs',by rw [List.getElem?_set_self (List.getElem?_eq_some_iff.1 hb).1]⟩
   ·exact ⟨cs1,by rw [List.getElem?_set_ne hbb];exact h1⟩
  row:=fun b' e xs sh h1=>by
   have hbb:b≠b':=fun e=>by subst e;rw [hb] at h1;cases h1
   exact ⟨xs,sh,by rw [List.getElem?_set_ne hbb];exact h1,Nat.le_refl _,fun _=>rfl⟩ }
theorem Rel.setBox {E:Env0} {h:Heap} {β:List Con} {S:Addr→Prop} {w:World} (r:Rel E h β S w) {b:Nat} {cs:List AV} (hb:h[b]?=some (.box cs)) (cs':List AV)
  (hc:∀ (g:Nat) (vs:List Value) (t:TypeId),β[b]?=some (.box g)→w.heap[g]?=some (.cells vs.toArray t (0,0))→cs.length=vs.length→(∀ (i:Nat) (x:AV) (y:Value),cs[i]?=some x→vs[i]?=some y→RelV E.T h β w S x y∧y.oneCell'=true) →
   cs'.length=vs.length∧∀ (i:Nat) (x:AV) (y:Value),cs'[i]?=some x→vs[i]?=some y→RelV E.T h β w S x y∧y.oneCell'=true):Rel E (h.set b (.box cs')) β S w:=by
 have x:=zgl (β:=β) (S:=S) (w:=w) hb cs'
 have ne:∀ {b':Nat} {e:TypeId} {xs:List (List AV)} {sh:Bool},(h.set b (.box cs'))[b']?=some (.row e xs sh)→b≠b'∧h[b']?=some (.row e xs sh):=by
  intro b' e xs sh h1
  by_cases hbb:b=b'
  ·subst hbb
   rw [List.getElem?_set_self (List.getElem?_eq_some_iff.1 hb).1] at h1
   cases h1
  ·rw [List.getElem?_set_ne hbb] at h1
   exact ⟨hbb,h1⟩
 refine { r with len:=by simpa using r.len,box:=?_,row:=fun b' e xs sh h1=>r.row b' e xs sh (ne h1).2,free:=?_ }
 ·intro b' cs1 h1
  by_cases hbb:b=b'
  ·subst hbb
   rw [List.getElem?_set_self (List.getElem?_eq_some_iff.1 hb).1] at h1
   cases h1
   obtain ⟨g,vs,t,h2,h3,h4,h5⟩:=r.box b cs hb
   obtain ⟨h6,h7⟩:=hc g vs t h2 h3 h4 h5
   exact ⟨g,vs,t,h2,h3,h6,fun i y z hy hz=>⟨(h7 i y z hy hz).1.ext x,(h7 i y z hy hz).2⟩⟩
  ·rw [List.getElem?_set_ne hbb] at h1
   obtain ⟨g,vs,t,h2,h3,h4,h5⟩:=r.box b' cs1 h1
   exact ⟨g,vs,t,h2,h3,h4,fun i y z hy hz=>⟨(h5 i y z hy hz).1.ext x,(h5 i y z hy hz).2⟩⟩
 ·intro b' k g a h1 h2 h3 h4
  obtain ⟨e,xs,h5,h6⟩:=r.free b' k g a h1 h2 h3 h4
  have hbb:b≠b':=fun e=>by subst e;rw [hb] at h5;cases h5
  exact ⟨e,xs,by rw [List.getElem?_set_ne hbb];exact h5,h6⟩
theorem zol {E:Env0} {fn:Func} {h0:Heap} {c:Cfg} {R:AV→Heap→Prop} (b i:Nat) (e:TypeId) {cs:List AV} (hb:c.h[b]?=some (.box cs)) (hi:cs[i]?=some .nl)
  (hg:Good E fn h0 ⟨c.n,c.todo,c.ts,(c.h++[Blk.row e [] false]).set b (.box (cs.set i (.own c.h.length 0)))⟩ R):Good E fn h0 c R:=by
 intro β0 S0 w0 β S w tmps hb0 hn x0 r rt
 obtain ⟨g,vs,t,h2,h3,h4,h5⟩:=r.box b cs hb
 have hil:i < vs.length:=by rw [← h4];exact (List.getElem?_eq_some_iff.1 hi).1
 have hv:=h5 i .nl vs[i] hi (by simp [hil])
 obtain ⟨a,ha⟩:=zi3 hv.1
 obtain ⟨x1,r1⟩:=r.nilRow e a
 have hb1:(c.h++[Blk.row e [] false])[b]?=some (.box cs):=by rw [List.getElem?_append_left (List.getElem?_eq_some_iff.1 hb).1];exact hb
 have x2:=zgl (β:=β++[.nil a]) (S:=S) (w:=w) hb1 (cs.set i (.own c.h.length 0))
 have r2:=r1.setBox hb1 (cs.set i (.own c.h.length 0)) (fun g' vs' t' e2 e3 e4 e5=>by
  refine ⟨by simpa using e4,fun j x y hx hy=>?_⟩
  by_cases hij:i=j
  ·subst hij
   rw [List.getElem?_set_self (List.getElem?_eq_some_iff.1 hi).1] at hx
   cases hx
   have:=e5 i .nl y hi hy
   refine ⟨?_,this.2⟩
   have hg:(β++[Con.nil a])[b]?=some (.box g):=x1.con b g h2
   rw [hg] at e2
   cases e2
   rw [h3] at e3
   have hvs:vs=vs':=by
    have e6:vs.toArray=vs'.toArray:=by injection e3 with e3;injection e3
    simpa using congrArg Array.toList e6
   subst hvs
   have:y=vs[i]:=by
    rw [List.getElem?_eq_getElem hil] at hy
    cases hy
    rfl
   rw [this,ha]
   exact r.ownNil e a
  ·rw [List.getElem?_set_ne hij] at hx
   exact e5 j x y hx hy)
 exact hg β0 S0 w0 _ S w tmps hb0 hn ((x0.trans x1).trans x2) r2 fun t'=>((rt t').ext x1).ext x2
theorem za9 {E:Env0} {fn:Func} {h0:Heap} {c c':Cfg} {R:AV→Heap→Prop} (t:Nat) (e:TypeId) (live:List Nat) (m:Nat) (hc:look c.ts t=.nl) (hm:Nat.ble h0.length m=true)
  (he:cut live m ⟨c.n,c.todo,(t,.own c.h.length 0)::c.ts,c.h++[Blk.row e [] false]⟩=c') (hg:Good E fn h0 c' R):Good E fn h0 c R :=
 zrs t e hc (zdZ live m (Nat.le_of_ble_eq_true hm) (he ▸ hg))
theorem zh4 {E:Env0} {fn:Func} {h0:Heap} {c c':Cfg} {R:AV→Heap→Prop} (b i:Nat) (e:TypeId) (live:List Nat) (m:Nat) {cs:List AV} (hb:c.h[b]?=some (.box cs)) (hi:cs[i]?=some .nl) (hm:Nat.ble h0.length m=true)
  (he:cut live m ⟨c.n,c.todo,c.ts,(c.h++[Blk.row e [] false]).set b (.box (cs.set i (.own c.h.length 0)))⟩=c') (hg:Good E fn h0 c' R):Good E fn h0 c R :=
 zol b i e hb hi (zdZ live m (Nat.le_of_ble_eq_true hm) (he ▸ hg))
theorem zpx {E:Env0} {fn:Func} {h0:Heap} {c c':Cfg} {R:AV→Heap→Prop} (t:Nat) (b:Bool) (live:List Nat) (m:Nat) (hc:look c.ts t=.bl b) (hm:Nat.ble h0.length m=true)
  (he:cut live m ⟨c.n,c.todo,(t,.v (.bool b))::c.ts,c.h⟩=c') (hg:Good E fn h0 c' R):Good E fn h0 c R:=by
 have hg':=zdZ live m (Nat.le_of_ble_eq_true hm) (he ▸ hg)
 intro β0 S0 w0 β S w tmps hb0 hn x0 r rt
 refine hg' β0 S0 w0 β S w tmps hb0 hn x0 r fun t'=>?_
 simp only [look]
 cases hb:Nat.beq t t' with
 | true =>
  have:=Nat.eq_of_beq_eq_true hb
  subst this
  have ht:=rt t
  rw [hc] at ht
  rw [ht.bl_inv]
  exact zct _
 | false=>exact rt t'
theorem zfH {E:Env0} {fn:Func} {h0:Heap} {c c':Cfg} {R:AV→Heap→Prop} (t:Nat) {v:AV} {q:Prop} (live:List Nat) (m:Nat) (hc:look c.ts t=v) (hq:frzO c.h v=q) (ho:q) (hm:Nat.ble h0.length m=true)
  (he:cut live m ⟨c.n,c.todo,(t,frz c.h v)::c.ts,share c.h (frzM v)⟩=c') (hg:Good E fn h0 c' R):Good E fn h0 c R:=by
 have hg':=zdZ live m (Nat.le_of_ble_eq_true hm) (he ▸ hg)
 intro β0 S0 w0 β S w tmps hb0 hn x0 r rt
 have hv:=rt t
 rw [hc] at hv
 obtain ⟨S',⟨x1,r1⟩,d1⟩:=znG E v c.h β S w _ r hv (by rw [hq];exact ho)
 refine hg' β0 S0 w0 β S' w tmps hb0 hn (x0.trans x1) r1 fun t'=>?_
 simp only [look]
 cases hb:Nat.beq t t' with
 | true =>
  have:=Nat.eq_of_beq_eq_true hb
  subst this
  exact .d _ _ d1
 | false=>exact (rt t').ext x1
theorem zlo {E:Env0} {fn:Func} {h0:Heap} {c c':Cfg} {R:AV→Heap→Prop} (t b n:Nat) (live:List Nat) (m:Nat) (hc:look c.ts t=.own b n) (hm:Nat.ble h0.length m=true)
  (he:cut live m ⟨c.n,c.todo,(t,.os b n 0 n)::c.ts,c.h⟩=c') (hg:Good E fn h0 c' R):Good E fn h0 c R:=by
 have hg':=zdZ live m (Nat.le_of_ble_eq_true hm) (he ▸ hg)
 intro β0 S0 w0 β S w tmps hb0 hn x0 r rt
 refine hg' β0 S0 w0 β S w tmps hb0 hn x0 r fun t'=>?_
 simp only [look]
 cases hb:Nat.beq t t' with
 | true =>
  have:=Nat.eq_of_beq_eq_true hb
  subst this
  have ht:=rt t
  rw [hc] at ht
  exact r.own_os ht
 | false=>exact rt t'
def zqG (E:Env0) (c:Cfg):Option (Nat × List (List AV) × Bool):=match c.todo with
 | .ops all (o::_)::_=>match zhX all o c.ts&&za4 c.n o.dst,o.op with
  | true,.binOp op t x (.const (.slice none 0 0)) _=>match (E.T t).kind,ev E.G c.ts x,op with
   | .slice _,.own b n,.eql=>match c.h[b]? with
    | some (.row _ xs _)=>some (n,xs,true)
    | _=>none
   | .slice _,.own b n,.neq=>match c.h[b]? with
    | some (.row _ xs _)=>some (n,xs,false)
    | _=>none
   | _,_,_=>none
  | _,_=>none
 | _=>none
theorem zql {E:Env0} (ht:zaO E) {fn:Func} {h0:Heap} {c:Cfg} {R:AV→Heap→Prop} {n:Nat} {xs:List (List AV)} {e:Bool} (hc:zqG E c=some (n,xs,e)) (hnx:n=xs.length) (hg:∀ b:Bool,(xs≠[]→b=false)→Good E fn h0 (zbx c (b==e)) R):Good E fn h0 c R:=by
 intro β0 S0 w0 β S w tmps hb0 hn x0 r rt
 obtain ⟨nn,todo,ts,h⟩:=c
 simp only at hn x0 r rt ⊢
 unfold zqG at hc
 simp only at hc
 split at hc
 ·rename_i all o rest k
  split at hc
  ·rename_i op t x ty hchk hop
   simp only [Bool.and_eq_true] at hchk
   obtain ⟨hgo,hd⟩:=hchk
   have hx:=za3 (ds:=[]) r rt x
   simp only [kont,Exit.then]
   have fin:∀ (el:TypeId) (b:Nat) (e':TypeId) (sh:Bool) (hk:(E.T t).kind=.slice el) (he:ev E.G ts x=.own b n) (hb:h[b]?=some (.row e' xs sh)) (hop2:op=if e then .eql else .neq),wpList E.P all.toArray (kont E.P k (bodyPost E.P fn (Post E h0 β0 S0 w0 R))) (o::rest) ⟨tmps,[]⟩ w:=by
    intro el b e' sh hk he hb hop2
    rw [he] at hx
    obtain ⟨ti,dd,z,tok⟩:=ht.at_ (zaG (by rw [hk];simp):E.T t≠_)
    obtain ⟨rfl,_⟩:=tok.slice_ hk
    refine wpList_step fun K hK=>?_
    rw [if_pos (zjU rt hgo)]
    generalize hev:Act.eval ⟨tmps,[]⟩ x=y at hx
    obtain ⟨A,len,cap,rfl,hA⟩:∃ A len cap,y=.slice A len cap∧(xs≠[]→A.isNone=false):=by
     cases hx with
     | d _ _ hd1=>cases hd1
     | own _ _ _ e2 xs2 sh2 hb2 _ hy _ =>
      rw [hb] at hb2
      cases hb2
      have hcur:=hy hnx
      obtain ⟨kk,k1,hrow⟩:=r.row b e' xs sh hb
      rw [k1] at hcur
      cases kk with
      | box _=>exact hrow.elim
      | nil a =>
       have hx0:xs=[]:=hrow
       simp only [Option.bind_some,Con.cur,Option.some.injEq] at hcur
       exact ⟨a,0,0,hcur.symm,fun hne=>absurd hx0 hne⟩
      | row gg cap =>
       simp only [Option.bind_some,Con.cur,Option.some.injEq] at hcur
       exact ⟨_,_,_,hcur.symm,fun _=>rfl⟩
    have hrun:(execOp (Act.eval ⟨tmps,[]⟩) o).run E.P w=.ok (.value (.bool (A.isNone==e))) w:=by
     have h1:=zi6 E.P op t x (.const (.slice none 0 0)) A none len 0 cap 0 w
     have h2:=zfj (P:=E.P) w tok.und A len cap
     have hcst:Act.eval ⟨tmps,[]⟩ (.const (.slice none 0 0))=.slice none 0 0:=rfl
     cases e
     ·simp only [Bool.false_eq_true,if_false] at hop2
      subst hop2
      simp only [execOp,hop,hev,hcst,Sem.run_bind,h1,Result.andThen_ok,binOp,h2,Sem.run_pure]
      cases A.isNone <;> rfl
     ·simp only [if_true] at hop2
      subst hop2
      simp only [execOp,hop,hev,hcst,Sem.run_bind,h1,Result.andThen_ok,binOp,h2,Sem.run_pure]
      cases A.isNone <;> rfl
    unfold Oper.wp
    rw [hrun,Oper.upon_value,zdc]
    refine hK _ _ ?_
    have:=hg A.isNone hA β0 S0 w0 β S w (Act.put ⟨tmps,[]⟩ o.dst (.bool (A.isNone==e))).tmps hb0 (by simp only [zbx];rw [zdC];exact hn) x0 r (rt.put (by rw [hn];exact hd) (zct _))
    simp only [zbx,kont,Exit.then] at this
    exact this
   split at hc
   ·rename_i el b n' hk he
    split at hc
    ·rename_i e' xs' sh hb
     simp only [Option.some.injEq,Prod.mk.injEq] at hc
     obtain ⟨rfl,rfl,rfl⟩:=hc
     exact fin el b e' sh hk he hb rfl
    ·cases hc
   ·rename_i el b n' hk he
    split at hc
    ·rename_i e' xs' sh hb
     simp only [Option.some.injEq,Prod.mk.injEq] at hc
     obtain ⟨rfl,rfl,rfl⟩:=hc
     exact fin el b e' sh hk he hb rfl
    ·cases hc
   ·cases hc
  ·cases hc
 ·cases hc
theorem zmw {E:Env0} {fn:Func} {h0:Heap} {c c':Cfg} {R:AV→Heap→Prop} (b i:Nat) (x:Bool) (live:List Nat) (m:Nat) {cs:List AV} (hb:c.h[b]?=some (.box cs)) (hi:cs[i]?=some (.bl x)) (hm:Nat.ble h0.length m=true)
  (he:cut live m ⟨c.n,c.todo,c.ts,c.h.set b (.box (cs.set i (.v (.bool x))))⟩=c') (hg:Good E fn h0 c' R):Good E fn h0 c R:=by
 have hg':=zdZ live m (Nat.le_of_ble_eq_true hm) (he ▸ hg)
 intro β0 S0 w0 β S w tmps hb0 hn x0 r rt
 have x2:=zgl (β:=β) (S:=S) (w:=w) hb (cs.set i (.v (.bool x)))
 have r2:=r.setBox hb (cs.set i (.v (.bool x))) (fun g' vs' t' e2 e3 e4 e5=>by
  refine ⟨by simpa using e4,fun j x' y hx hy=>?_⟩
  by_cases hij:i=j
  ·subst hij
   rw [List.getElem?_set_self (List.getElem?_eq_some_iff.1 hi).1] at hx
   cases hx
   have:=e5 i (.bl x) y hi hy
   refine ⟨?_,this.2⟩
   rw [this.1.bl_inv]
   exact zct _
  ·rw [List.getElem?_set_ne hij] at hx
   exact e5 j x' y hx hy)
 exact hg' β0 S0 w0 β S w tmps hb0 hn (x0.trans x2) r2 fun t'=>(rt t').ext x2
theorem zav {E:Env0} {fn:Func} {h0:Heap} {n:Nat} {todo:List It} {ts ts':TS} {h h':Heap} {R:AV→Heap→Prop} (e1:ts=ts') (e2:h=h') (hg:Good E fn h0 ⟨n,todo,ts',h'⟩ R):Good E fn h0 ⟨n,todo,ts,h⟩ R:=by
 subst e1;subst e2;exact hg
end Go.AM
namespace Go.AM
structure St where
 o:List Orc
 p:List Prop
 h:allP p
def orcs:List St→List Orc
 | []=>[]
 | s::r=>s.o++orcs r
def zbK:List St→List Prop
 | []=>[]
 | s::r=>s.p++zbK r
theorem zn7:∀ {a b:List Prop},allP a→allP b→allP (a++b)
 | [],_,_,hb=>hb
 | [_],[],ha,_=>ha
 | [_],_::_,ha,hb=>⟨ha,hb⟩
 | _::q::r,_,ha,hb=>⟨ha.1,zn7 (a:=q::r) ha.2 hb⟩
theorem zbq:∀ l:List St,allP (zbK l)
 | []=>trivial
 | s::r=>zn7 s.h (zbq r)
def sb {c b:Bool} (h:c=b):St:=⟨[.b b],[c=b],h⟩
def si {e n:Int} (h:e=n):St:=⟨[.i n],[e=n],h⟩
def se {xs:List (List AV)} {i:Int} {c:List AV} {n:Nat} (h:ElAt xs i c n):St:=⟨[.el c],[ElAt xs i c n],h⟩
def sa {cs:List AV} {i:Int} {n:Nat} {c:List AV} {k:Nat} (h:ArrAt cs i n c k):St:=⟨[.el c],[ArrAt cs i n c k],h⟩
def sy {s:ByteArray} {i n:Int} (h:ByteAt s i n):St:=⟨[.i n],[ByteAt s i n],h⟩
def sc {E:Env0} {f:FuncId} {args:List AV} {r:AV} {h':Heap} (h:zac E f args [] r h'):St:=⟨[.call [] r h'],[zac E f args [] r h'],h⟩
def sl {E:Env0} {f:FuncId} {args:List AV} {hl:Heap} {r:AV} {h':Heap} (lend:List Nat) (h:zac E f args hl r h'):St:=⟨[.call lend r h'],[zac E f args hl r h'],h⟩
def sk {E:Env0} {f:FuncId} {args:List AV} {hl:Heap} {r:AV} {h':Heap} {p:Prop} (hp:p) (lend:List Nat) (h:zac E f args hl r h'):St:=⟨[.call lend r h'],[p∧zac E f args hl r h'],⟨hp,h⟩⟩
theorem conv {E:Env0} {f:FuncId} {args args':List AV} {hl hl':Heap} {r:AV} {h':Heap} (h:zac E f args' hl' r h') (e1:args=args') (e2:hl=hl'):zac E f args hl r h':=by
 subst e1;subst e2;exact h
def sq {p:Prop} (h:p):St:=⟨[],[p],h⟩
def sx (o:Orc) {p:Prop} (h:p):St:=⟨[o],[p],h⟩
def sg {c b:Bool} (h:c=b):St:=⟨[.b b],[c=b∧True],⟨h,trivial⟩⟩
def so {c b:Bool} (h:c=b) (s:St):St:=⟨.b b::s.o,[c=b∧allP s.p],⟨h,s.h⟩⟩
def zmU:List (Nat × List St)→List (Nat × List Orc)
 | []=>[]
 | (i,l)::r=>(i,orcs l)::zmU r
def zlC:List (Nat × List St)→List St
 | []=>[]
 | (_,l)::r=>l++zlC r
def sd (l:List (Nat × List St)):St:=⟨[.draw (zmU l)],[allP (zbK (zlC l))],zbq _⟩
def zpz (p:Prop) (ts:TS) (h:Heap):Nat→Prop
 | 0=>True
 | n+1=>(p∧ts=ts∧h=h)∧zpz p ts h n
theorem znD {p:Prop} (hp:p) (ts:TS) (h:Heap):∀ n,zpz p ts h n
 | 0=>trivial
 | n+1=>⟨⟨hp,rfl,rfl⟩,znD hp ts h n⟩
def sdm (l:List (Nat × List St)) (n:Nat) (ts:TS) (h:Heap):St:=⟨[.draw (zmU l)],[allP (zbK (zlC l))∧zpz (allP (zbK (zlC l))) ts h (n+1)],⟨zbq _,znD (zbq _) ts h _⟩⟩
theorem walk {E : Env0} (ht : zaO E) (hmix : E.P.follows .mixedOrders = true) {f : FuncId} {fn : Func} {c : Code} {args : List AV} {r y : AV} (hf : E.P.funcs[f]? = some fn) (hb : fn.body = some c) (hname : (fn.name == "runtime.NumGoroutine") = false)
  (hn:Nat.ble args.length fn.ntmps=true) (n:Nat) (l:List St) (hfin:fin (mk E) fn 0 n ⟨fn.ntmps,[.code c],zcf 0 args,[]⟩ (orcs l)=some (zbK l,y,[])) (hr:y=r):zac E f args [] r [] :=
 zgx ht hmix hf hb hname hn n (orcs l) hfin (zbq l) ⟨hr,rfl⟩
theorem walkH {E : Env0} (ht : zaO E) (hmix : E.P.follows .mixedOrders = true) {f : FuncId} {fn : Func} {c : Code} {args : List AV} {h : Heap} {r y : AV} {H H' : Heap} (hf : E.P.funcs[f]? = some fn) (hb : fn.body = some c) (hname : (fn.name == "runtime.NumGoroutine") = false)
  (hn:Nat.ble args.length fn.ntmps=true) (n:Nat) (l:List St) (hfin:fin (mk E) fn h.length n ⟨fn.ntmps,[.code c],zcf 0 args,h⟩ (orcs l)=some (zbK l,y,H)) (hr:y=r∧H=H'):zac E f args h r H' :=
 zgx ht hmix hf hb hname hn n (orcs l) hfin (zbq l) hr
def upto (E:Env) (live:List Nat) (m n:Nat) (c:Cfg) (os:List Orc):List Prop × Cfg:=match run E n c os with
 | (q,c',_)=>(q,cut live m c')
theorem zc5 {E:Env0} (ht:zaO E) (hmix:E.P.follows .mixedOrders=true) {fn:Func} {R:AV→Heap→Prop} {h0:Heap} {c c':Cfg} (n:Nat) (l:List St) (live:List Nat) (m:Nat) (hm:Nat.ble h0.length m=true)
  (hu:upto (mk E) live m n c (orcs l)=(zbK l,c')) (hg:Good E fn h0 c' R):Good E fn h0 c R:=by
 unfold upto at hu
 have h1:(run (mk E) n c (orcs l)).1=zbK l:=by
  have:=congrArg Prod.fst hu
  exact this
 have h2:cut live m (run (mk E) n c (orcs l)).2.1=c':=congrArg Prod.snd hu
 exact zkm ht hmix n (orcs l) live m hm h1 h2 (zbq l) hg
theorem zhl {E:Env0} (ht:zaO E) (hmix:E.P.follows .mixedOrders=true) {fn:Func} {R:AV→Heap→Prop} {h0:Heap} {c:Cfg} {y:AV} {H:Heap} {m:Nat} (n:Nat) (l:List St)
  (hfin:fin (mk E) fn m n c (orcs l)=some (zbK l,y,H)) (hR:R y H):Good E fn h0 c (Shut m R) :=
 ziX ht hmix n (orcs l) hfin (zbq l) hR
theorem zcE {E:Env0} (ht:zaO E) (hmix:E.P.follows .mixedOrders=true) {fn:Func} {R:AV→Heap→Prop} {h0:Heap} {c:Cfg} {y:AV} {H:Heap} (n:Nat) (l:List St)
  (hfin:finK (mk E) fn n c (orcs l)=some (zbK l,y,H)) (hR:R y H):Good E fn h0 c R :=
 zml ht hmix n (orcs l) hfin (zbq l) hR
theorem ziC {E:Env0} (ht:zaO E) (hmix:E.P.follows .mixedOrders=true) {f:FuncId} {fn:Func} {c:Code} {args:List AV} {h:Heap} {R:AV→Heap→Prop} (hf:E.P.funcs[f]?=some fn) (hb:fn.body=some c)
  (hname : (fn.name == "runtime.NumGoroutine") = false) (hn : Nat.ble args.length fn.ntmps = true) (n : Nat) (l : List St) (live : List Nat) (m : Nat) {c' : Cfg} (hm : Nat.ble h.length m = true)
  (hu:upto (mk E) live m n ⟨fn.ntmps,[.code c],zcf 0 args,h⟩ (orcs l)=(zbK l,c')) (hg:Good E fn h c' (Shut h.length R)):zde E f args h R :=
 zea (za7 hf hb hname (Nat.le_of_ble_eq_true hn) (zc5 ht hmix n l live m hm hu hg))
end Go.AM
namespace Go.AM
open Go.RowKit
def zlT (t:TI):Shp→Bool
 | .int _=>match t.kind with|.int _=>Nat.beq t.size 1&&!t.isAgg|_=>false
 | .str=>match t.kind with|.str=>Nat.beq t.size 1&&!t.isAgg|_=>false
 | .bool=>match t.kind with|.bool=>Nat.beq t.size 1&&!t.isAgg|_=>false
 | .other=>false
def flat (T:TypeId→TI):Nat→List Field→List Shp→Bool
 | _,[],[]=>true
 | i, f :: fs, s :: ss => (f.name != "_") && Nat.beq f.offset i && zlT (T f.type) s && flat T (i + 1) fs ss
 | _,_,_=>false
theorem eqCell {E:Env0} (ht:zaO E) {t:TypeId} {x y:Value} {r:Bool} (d:Nat) (hs:zlT (E.T t) (shp x)=true) (he:zlB x y=some r) (w:World):(Op.equalIn (d+1) t x y).run E.P w=.ok r w:=by
 cases x <;> simp [shp,zlT] at hs
 case bool a =>
  split at hs
  ·rename_i hk
   obtain ⟨i,dd,z,tok⟩:=ht.at_ (t:=t) (by intro h;rw [h] at hk;cases hk)
   cases y <;> simp [zlB] at he
   subst he
   have:=tok.bool_ hk
   subst this
   exact run_equalIn_bool' w d t _ _ tok.und
  ·cases hs
 case int k a =>
  split at hs
  ·rename_i k' hk
   obtain ⟨i,dd,z,tok⟩:=ht.at_ (t:=t) (by intro h;rw [h] at hk;cases hk)
   cases y <;> simp [zlB] at he
   obtain ⟨rfl,rfl⟩:=he
   have:=tok.int_ hk
   subst this
   exact run_equalIn_int w d t _ _ _ _ tok.und
  ·cases hs
 case string a =>
  split at hs
  ·rename_i hk
   obtain ⟨i,dd,z,tok⟩:=ht.at_ (t:=t) (by intro h;rw [h] at hk;cases hk)
   cases y <;> simp [zlB] at he
   subst he
   have:=tok.str_ hk
   subst this
   rw [run_equalIn_string w d t _ _ tok.und,beq_toListBytes]
  ·cases hs
theorem zpq {t:TI} {s:Shp} (h:zlT t s=true):t.size=1∧t.isAgg=false∧t≠⟨.scalar,0,0,[]⟩:=by
 unfold zlT at h
 split at h <;> try cases h
 all_goals
  split at h
  ·rename_i hk
   simp only [Bool.and_eq_true,Bool.not_eq_true'] at h
   exact ⟨Nat.eq_of_beq_eq_true h.1,h.2,by intro h';rw [h'] at hk;cases hk⟩
  ·cases h
theorem zkH {E:Env0} (ht:zaO E) (d:Nat) (w:World):∀ (fs:List Field) (px py xs ys:List Value) (r:Bool),px.length=py.length→flat E.T px.length fs (xs.map shp)=true→zgM xs ys=some r →
  (Op.eqFields (d+1) (px++xs).toArray (py++ys).toArray fs).run E.P w=.ok r w
 | [],px,py,xs,ys,r,hp,hf,he=>by
  cases xs with
  | cons x xs=>simp [flat] at hf
  | nil =>
   cases ys <;> simp [zgM] at he
   subst he
   rfl
 | f::fs,px,py,[],ys,r,hp,hf,he=>by simp [flat] at hf
 | f::fs,px,py,x::xs,[],r,hp,hf,he=>by simp [zgM] at he
 | f::fs,px,py,x::xs,y::ys,r,hp,hf,he=>by
  simp only [List.map_cons,flat,Bool.and_eq_true,bne_iff_ne] at hf
  obtain ⟨⟨⟨hn,ho⟩,hs⟩,hrest⟩:=hf
  have ho:=Nat.eq_of_beq_eq_true ho
  simp only [zgM] at he
  split at he
  ·rename_i a b h1 h2
   simp only [Option.some.injEq] at he
   subst he
   obtain ⟨hsz,hagg,hne⟩:=zpq hs
   obtain ⟨i,dd,z,tok⟩:=ht.at_ hne
   have p1:=zit tok w (px++x::xs) f.offset (by rw [hsz,ho];simp)
   have p2:=zit tok w (py++y::ys) f.offset (by rw [hsz,ho,hp];simp)
   rw [hsz,ho] at p1
   rw [hsz,ho,hp] at p2
   simp only [List.drop_left,List.take_succ_cons,List.take_zero,zfB,hagg] at p1 p2
   have p3:=eqCell ht d hs h1 w
   have ih:=zkH ht d w fs (px++[x]) (py++[y]) xs ys b (by simp [hp]) (by simpa using hrest) h2
   simp only [List.append_assoc,List.singleton_append] at ih
   simp only [Op.eqFields,ne_eq,hn,not_false_eq_true,if_true,Sem.run_bind,ho]
   rw [p1,Result.andThen_ok,hp,p2,Result.andThen_ok]
   simp only [List.headD_cons]
   rw [p3,Result.andThen_ok]
   cases a
   ·rfl
   ·simpa using ih
  ·cases he
theorem znl {E:Env0} (ht:zaO E) {t:TypeId} {fs:Array Field} {ss:List Shp} (hu:E.P.underlying t=some (.struct fs)) (hp:E.P.stoodInHeld t=false) (hg:E.P.eqGuardType E.P.depth t=false) (hf:flat E.T 0 fs.toList ss=true) :
  StructEq E.P t ss:=by
 refine ⟨hg,fun w xs ys r hs he=>?_⟩
 have hfo:E.P.fieldsOf t=fs:=by simp [Program.fieldsOf,hu]
 have h1:=run_equalIn_struct (P:=E.P) w 9999 t xs.toArray ys.toArray (by rw [hfo];exact hu) hp
 rw [hfo] at h1
 have h2:=zkH ht 9998 w fs.toList [] [] xs ys r rfl (by rw [hs];exact hf) he
 simp only [List.nil_append] at h2
 unfold Op.equal Op.maxDepth
 rw [h1]
 exact h2
end Go.AM
namespace Go.AM
abbrev Str:=ByteArray
def zbN (l:List UInt8):Str:=⟨l.toArray⟩
abbrev iv (n:Int):AV:=.v (.int .i64 n)
abbrev bv (b:Bool):AV:=.v (.bool b)
abbrev sv (s:Str):AV:=.v (.string s)
def zd8:List Str:=[zbN [],zbN [97],zbN [98],zbN [105,116,39,115],zbN [90,32,122],zbN [126]]
def zlN:List Str:=[zbN [105,100],zbN [110],zbN [109],zbN [98],zbN [115],zbN [120],zbN [97,49,95],zbN [97,98,99,100,101,102,103,104,105,106,107,108]]
def zbd:List Str:=[zbN [97,97],zbN [98,98],zbN [99,99],zbN [100,100],zbN [101,101],zbN [102,102],zbN [103,103],zbN [104,104]]
def globs (g:Nat):Option (List AV) :=
 match Nat.beq g S.g_world_words with
 | true=>some (zd8.map sv)
 | false=>match Nat.beq g S.g_world_names with
  | true=>some (zlN.map sv)
  | false=>match Nat.beq g S.g_world_triggerNames with
   | true=>some (zbd.map sv)
   | false=>none
noncomputable def E0:Env0:=⟨Proofs.Tryz.prog,ziZ tabA,globs⟩
theorem E0ok:zaO E0:=zrA zr3
theorem mix0:E0.P.follows .mixedOrders=true:=mix_ok
structure V where
 kind:Int
 int:Int
 text:Str
def V.cells (v:V):List AV:=[iv v.kind,iv v.int,sv v.text]
abbrev V.av (v:V):AV:=.agg v.cells
def V.null:V:=⟨0,0,⟨#[]⟩⟩
mutual
inductive X where
 | mk (kind op:Int) (not:Bool) (val:V) (table name:Str) (args:List X) (sub:List Qy)
inductive Qy where
 | mk (star:Bool) (items:List X) (frm:Str) (wh:List X)
end
def X.kind:X→Int|.mk k _ _ _ _ _ _ _=>k
def X.op:X→Int|.mk _ o _ _ _ _ _ _=>o
def X.not:X→Bool|.mk _ _ n _ _ _ _ _=>n
def X.val:X→V|.mk _ _ _ v _ _ _ _=>v
def X.table:X→Str|.mk _ _ _ _ t _ _ _=>t
def X.name:X→Str|.mk _ _ _ _ _ m _ _=>m
def X.args:X→List X|.mk _ _ _ _ _ _ xs _=>xs
def X.sub:X→List Qy|.mk _ _ _ _ _ _ _ qs=>qs
def Qy.star:Qy→Bool|.mk s _ _ _=>s
def Qy.items:Qy→List X|.mk _ i _ _=>i
def Qy.frm:Qy→Str|.mk _ _ f _=>f
def Qy.wh:Qy→List X|.mk _ _ _ w=>w
@[simp] theorem X.kind_mk (k o:Int) (n:Bool) (v:V) (t m:Str) (xs:List X) (qs:List Qy):(X.mk k o n v t m xs qs).kind=k:=rfl
@[simp] theorem X.op_mk (k o:Int) (n:Bool) (v:V) (t m:Str) (xs:List X) (qs:List Qy):(X.mk k o n v t m xs qs).op=o:=rfl
@[simp] theorem X.not_mk (k o:Int) (n:Bool) (v:V) (t m:Str) (xs:List X) (qs:List Qy):(X.mk k o n v t m xs qs).not=n:=rfl
@[simp] theorem X.val_mk (k o:Int) (n:Bool) (v:V) (t m:Str) (xs:List X) (qs:List Qy):(X.mk k o n v t m xs qs).val=v:=rfl
@[simp] theorem X.table_mk (k o:Int) (n:Bool) (v:V) (t m:Str) (xs:List X) (qs:List Qy):(X.mk k o n v t m xs qs).table=t:=rfl
@[simp] theorem X.name_mk (k o:Int) (n:Bool) (v:V) (t m:Str) (xs:List X) (qs:List Qy):(X.mk k o n v t m xs qs).name=m:=rfl
@[simp] theorem X.args_mk (k o:Int) (n:Bool) (v:V) (t m:Str) (xs:List X) (qs:List Qy):(X.mk k o n v t m xs qs).args=xs:=rfl
@[simp] theorem X.sub_mk (k o:Int) (n:Bool) (v:V) (t m:Str) (xs:List X) (qs:List Qy):(X.mk k o n v t m xs qs).sub=qs:=rfl
@[simp] theorem Qy.star_mk (s:Bool) (i:List X) (f:Str) (w:List X):(Qy.mk s i f w).star=s:=rfl
@[simp] theorem Qy.items_mk (s:Bool) (i:List X) (f:Str) (w:List X):(Qy.mk s i f w).items=i:=rfl
@[simp] theorem Qy.frm_mk (s:Bool) (i:List X) (f:Str) (w:List X):(Qy.mk s i f w).frm=f:=rfl
@[simp] theorem Qy.wh_mk (s:Bool) (i:List X) (f:Str) (w:List X):(Qy.mk s i f w).wh=w:=rfl
mutual
def X.raw:X→List AV
 | .mk k o n v t m xs qs=>[iv k,iv o,bv n,iv v.kind,iv v.int,sv v.text,sv t,sv m,.sl (zab xs),.sl (zae qs)]
def Qy.raw:Qy→List AV
 | .mk s is f w=>[bv s,.sl (zab is),sv f,.sl (zab w)]
def zab:List X→List (List AV)
 | []=>[]
 | x::r=>X.raw x::zab r
def zae:List Qy→List (List AV)
 | []=>[]
 | x::r=>Qy.raw x::zae r
end
def X.cells (x:X):List AV:=[iv x.kind,iv x.op,bv x.not,iv x.val.kind,iv x.val.int,sv x.val.text,sv x.table,sv x.name,.sl (zab x.args),.sl (zae x.sub)]
def Qy.cells (x:Qy):List AV:=[bv x.star,.sl (zab x.items),sv x.frm,.sl (zab x.wh)]
theorem X.raw_eq (x:X):x.raw=x.cells:=by cases x;simp [X.raw,X.cells,X.kind,X.op,X.not,X.val,X.table,X.name,X.args,X.sub]
theorem Qy.raw_eq (x:Qy):x.raw=x.cells:=by cases x;simp [Qy.raw,Qy.cells,Qy.star,Qy.items,Qy.frm,Qy.wh]
theorem za0:∀ l:List X,zab l=l.map X.cells
 | []=>by simp [zab]
 | x::r=>by simp [zab,za0 r,X.raw_eq]
theorem zdf:∀ l:List Qy,zae l=l.map Qy.cells
 | []=>by simp [zae]
 | x::r=>by simp [zae,zdf r,Qy.raw_eq]
@[simp] theorem zaq:zab []=[]:=za0 []
@[simp] theorem zam (x:X) (r:List X):zab (x::r)=x.cells::zab r:=by simp [za0]
@[simp] theorem zaJ (a b:List X):zab (a++b)=zab a++zab b:=by simp [za0]
@[simp] theorem zeg (a:List X):(zab a).length=a.length:=by simp [za0]
@[simp] theorem zar:zae []=[]:=zdf []
@[simp] theorem zan (x:Qy) (r:List Qy):zae (x::r)=x.cells::zae r:=by simp [zdf]
@[simp] theorem zi8 (a:List Qy):(zae a).length=a.length:=by simp [zdf]
@[simp] theorem X.cells_length (x:X):x.cells.length=10:=rfl
@[simp] theorem Qy.cells_length (x:Qy):x.cells.length=4:=rfl
abbrev X.av (x:X):AV:=.agg x.cells
abbrev Qy.av (x:Qy):AV:=.agg x.cells
structure Col where
 name:Str
 type:Int
 notNull:Bool
 key:Bool
def Col.cells (c:Col):List AV:=[sv c.name,iv c.type,bv c.notNull,bv c.key]
structure Sch where
 name:Str
 cols:List Col
def Sch.cells (s:Sch):List AV:=[sv s.name,.sl (s.cols.map Col.cells)]
abbrev Sch.av (s:Sch):AV:=.agg s.cells
structure Rw where
 id:Int
 vals:List V
def Rw.cells (r:Rw):List AV:=[iv r.id,.sl (r.vals.map V.cells)]
structure Tb where
 sch:Sch
 next:Int
 rows:List Rw
def Tb.cells (t:Tb):List AV:=[sv t.sch.name,.sl (t.sch.cols.map Col.cells),iv t.next,.sl (t.rows.map Rw.cells)]
abbrev Tb.av (t:Tb):AV:=.agg t.cells
structure Fr where
 name:Str
 strict:Bool
 cols:List Col
 vals:List V
def Fr.cells (f:Fr):List AV:=[sv f.name,bv f.strict,.sl (f.cols.map Col.cells),.sl (f.vals.map V.cells)]
abbrev vsl (l:List V):AV:=.sl (l.map V.cells)
abbrev fsl (l:List Fr):AV:=.sl (l.map Fr.cells)
abbrev tsl (l:List Tb):AV:=.sl (l.map Tb.cells)
abbrev xsl (l:List X):AV:=.sl (zab l)
abbrev Pure (f:FuncId) (args:List AV) (r:AV):Prop:=zac E0 f args [] r []
theorem zcq {f : FuncId} {fn : Func} {c : Code} {args : List AV} {r : AV} (hf : E0.P.funcs[f]? = some fn) (hb : fn.body = some c) (hname : (fn.name == "runtime.NumGoroutine") = false) (hn : Nat.ble args.length fn.ntmps = true)
  (n:Nat) (os:List Orc) {q:List Prop} (hfin:fin (mk E0) fn 0 n ⟨fn.ntmps,[.code c],zcf 0 args,[]⟩ os=some (q,r,[])) (hq:allP q):Pure f args r :=
 zgx E0ok mix0 hf hb hname hn n os hfin hq ⟨rfl,rfl⟩
@[simp] theorem V.cells_length (x:V):x.cells.length=3:=rfl
@[simp] theorem Col.cells_length (x:Col):x.cells.length=4:=rfl
@[simp] theorem Sch.cells_length (x:Sch):x.cells.length=2:=rfl
@[simp] theorem Rw.cells_length (x:Rw):x.cells.length=2:=rfl
@[simp] theorem Tb.cells_length (x:Tb):x.cells.length=4:=rfl
@[simp] theorem Fr.cells_length (x:Fr):x.cells.length=4:=rfl
theorem zbo {l:List X} {i:Nat} {x:X} (h:l[i]?=some x):ElAt (zab l) (i:Int) x.cells 10 :=
 ⟨by omega,by simp [za0,h],rfl⟩
theorem zaT {l:List Qy} {i:Nat} {x:Qy} (h:l[i]?=some x):ElAt (zae l) (i:Int) x.cells 4 :=
 ⟨by omega,by simp [zdf,h],rfl⟩
theorem zah {α:Type} (f:α→List AV) {l:List α} {i:Nat} {x:α} (h:l[i]?=some x) {n:Nat} (hn:(f x).length=n):ElAt (l.map f) (i:Int) (f x) n :=
 ⟨by omega,by simp [h],hn⟩
theorem zr4 {l:List X} {n i:Nat} {x:X} (hn:n=l.length) (h:l[i]?=some x):OwnEl (zab l) n i x.cells :=
 ⟨by simp [hn],by simp [za0,h]⟩
theorem zqX {α:Type} (f:α→List AV) {l:List α} {n i:Nat} {x:α} (hn:n=l.length) (h:l[i]?=some x):OwnEl (l.map f) n i (f x) :=
 ⟨by simp [hn],by simp [h]⟩
theorem zao (i:Nat) (h:i < 9223372036854775807):IntKind.i64.wrap ((i:Int)+1)=((i+1:Nat):Int):=by
 rw [IntKind.wrap_i64];omega
theorem zaY {t:Int} {n:Nat} (h1:t=(n:Int)) (h2:n≤9223372036854775807):IntKind.i64.wrap t=(n:Int):=by
 rw [h1,IntKind.wrap_i64];omega
theorem zoa {c b:Bool} (h:(!c)=b):c=!b:=by cases c <;> cases b <;> simp_all
def pm1:Nat→Int
 | 0=>-1
 | k+1=>(k:Int)
theorem pm1_eq (k:Nat):pm1 k=(k:Int) - 1:=by cases k <;> simp [pm1]
theorem zk8 (k:Nat) (h:k < 9223372036854775806):IntKind.i64.wrap ((k:Int) - 1)=pm1 k:=by
 rw [pm1_eq,IntKind.wrap_i64];omega
theorem zbD {α:Type} {l:List α} {i:Nat} {x:α} (h:l[i]?=some x):l.drop i=x::l.drop (i+1):=by
 obtain ⟨h1,h2⟩:=List.getElem?_eq_some_iff.mp h
 rw [List.drop_eq_getElem_cons h1,h2]
theorem zhi {α:Type} {l:List α} {i:Nat} {x:α} (h:l[i]?=some x):i < l.length:=(List.getElem?_eq_some_iff.mp h).1
theorem zax {α:Type} {l:List α} {i:Nat} (h:i < l.length):∃ x,l[i]?=some x:=⟨l[i],by simp [h]⟩
structure Tp where
 l:List Int
 pos:Nat
 ok:l.length≤500
def Tp.cells (t:Tp):List AV:=[.sl (t.l.map fun n=>[iv n]),iv t.pos]
structure Pl where
 frs:List Fr
 tbs:List Sch
def Pl.cells (p:Pl):List AV:=[.sl (p.frs.map Fr.cells),.sl (p.tbs.map Sch.cells)]
abbrev Pl.av (p:Pl):AV:=.agg p.cells
abbrev ssl (l:List Str):AV:=.sl (l.map fun s=>[sv s])
structure Se where
 col:Str
 ex:X
def Se.cells (s:Se):List AV:=sv s.col::s.ex.cells
structure Ac where
 kind:Int
 table:Str
 rows:List (List X)
 query:List Qy
 sets:List Se
 wh:List X
 text:Str
def Ac.cells (a:Ac):List AV:=[iv a.kind,sv a.table,.sl (a.rows.map fun r=>[.sl (zab r)]),.sl (zae a.query),.sl (a.sets.map Se.cells),.sl (zab a.wh),sv a.text]
abbrev Ac.av (a:Ac):AV:=.agg a.cells
structure Rk where
 table:Str
 col:Str
 low:Int
 high:Int
def Rk.cells (r:Rk):List AV:=[sv r.table,sv r.col,iv r.low,iv r.high]
structure Tg where
 name:Str
 table:Str
 before:Bool
 event:Int
 of:List Str
 each:Bool
 prec:List Str
 foll:List Str
 rank:List Rk
 when_:List X
 acts:List Ac
def Tg.cells (t:Tg):List AV:=[sv t.name,sv t.table,bv t.before,iv t.event,ssl t.of,bv t.each,ssl t.prec,ssl t.foll,.sl (t.rank.map Rk.cells),.sl (zab t.when_),.sl (t.acts.map Ac.cells)]
abbrev Tg.av (t:Tg):AV:=.agg t.cells
@[simp] theorem Se.cells_length (x:Se):x.cells.length=11:=rfl
@[simp] theorem Ac.cells_length (x:Ac):x.cells.length=7:=rfl
@[simp] theorem Rk.cells_length (x:Rk):x.cells.length=4:=rfl
@[simp] theorem Tg.cells_length (x:Tg):x.cells.length=11:=rfl
theorem zaP:StructEq E0.P Ty.Value [.int .i64,.int .i64,.str] :=
 znl E0ok (fs:=E0.P.fieldsOf Ty.Value) kr kr kr kr
end Go.AM
namespace Go.AM
noncomputable def runF (fn:Func) (args:List AV) (h:Heap) (os:List Orc):Option (List Prop × AV × Heap) :=
 match fn.body, (fn.name == "runtime.NumGoroutine"), Nat.ble args.length fn.ntmps with
 | some c,false,true=>fin (mk E0) fn h.length 3000 ⟨fn.ntmps,[.code c],zcf 0 args,h⟩ os
 | _,_,_=>none
noncomputable def zm7 (fn:Func) (args:List AV) (h:Heap) (live:List Nat) (m:Nat) (os:List Orc):Option (List Prop × Cfg) :=
 match fn.body, (fn.name == "runtime.NumGoroutine"), Nat.ble args.length fn.ntmps, Nat.ble h.length m with
 | some c,false,true,true=>some (upto (mk E0) live m 3000 ⟨fn.ntmps,[.code c],zcf 0 args,h⟩ os)
 | _,_,_,_=>none
noncomputable def zmZ (h0:Heap) (live:List Nat) (m:Nat) (c:Cfg) (os:List Orc):Option (List Prop × Cfg) :=
 match Nat.ble h0.length m with
 | true=>some (upto (mk E0) live m 3000 c os)
 | false=>none
theorem wk {f:FuncId} {fn:Func} {args:List AV} {h H:Heap} {r:AV} (hf:E0.P.funcs[f]?=some fn) (l:List St) (hfin:runF fn args h (orcs l)=some (zbK l,r,H)):zac E0 f args h r H:=by
 unfold runF at hfin
 split at hfin
 ·rename_i c hb hn ha
  exact zgx E0ok mix0 hf hb hn ha 3000 (orcs l) hfin (zbq l) ⟨rfl,rfl⟩
 ·cases hfin
theorem wkc {f:FuncId} {fn:Func} {args:List AV} {h:Heap} {R:AV→Heap→Prop} {c':Cfg} (hf:E0.P.funcs[f]?=some fn) (l:List St) (live:List Nat) (m:Nat) (hu:zm7 fn args h live m (orcs l)=some (zbK l,c'))
  (hg:Good E0 fn h c' (Shut h.length R)):zde E0 f args h R:=by
 unfold zm7 at hu
 split at hu
 ·rename_i c hb hn ha hm
  exact ziC E0ok mix0 hf hb hn ha 3000 l live m hm (Option.some.inj hu) hg
 ·cases hu
theorem wkl {fn:Func} {R:AV→Heap→Prop} {h0:Heap} {c c':Cfg} (l:List St) (live:List Nat) (m:Nat) (hu:zmZ h0 live m c (orcs l)=some (zbK l,c')) (hg:Good E0 fn h0 c' R):Good E0 fn h0 c R:=by
 unfold zmZ at hu
 split at hu
 ·rename_i hm
  exact zc5 E0ok mix0 3000 l live m hm (Option.some.inj hu) hg
 ·cases hu
theorem wkr {fn:Func} {h0:Heap} {c:Cfg} {r:AV} {H:Heap} {m:Nat} (l:List St) (hfin:fin (mk E0) fn m 3000 c (orcs l)=some (zbK l,r,H)):Good E0 fn h0 c (Shut m fun y h=>y=r∧h=H) :=
 zhl E0ok mix0 3000 l hfin ⟨rfl,rfl⟩
noncomputable def runFK (fn:Func) (args:List AV) (h:Heap) (os:List Orc):Option (List Prop × AV × Heap) :=
 match fn.body, (fn.name == "runtime.NumGoroutine"), Nat.ble args.length fn.ntmps with
 | some c,false,true=>finK (mk E0) fn 3000 ⟨fn.ntmps,[.code c],zcf 0 args,h⟩ os
 | _,_,_=>none
theorem wkK {f:FuncId} {fn:Func} {args:List AV} {h H:Heap} {r:AV} (hf:E0.P.funcs[f]?=some fn) (l:List St) (hfin:runFK fn args h (orcs l)=some (zbK l,r,H)):zac E0 f args h r H:=by
 unfold runFK at hfin
 split at hfin
 ·rename_i c hb hn ha
  exact zoG E0ok mix0 hf hb hn ha 3000 (orcs l) hfin (zbq l) ⟨rfl,rfl⟩
 ·cases hfin
def pickS (l:List (Nat × List St)) (i:Nat):List St:=match l with
 | []=>[]
 | (j,s)::r=>match Nat.beq j i with
  | true=>s
  | false=>pickS r i
def pickL (l:List (Nat × List St)):List Nat→List St
 | []=>[]
 | i::r=>pickS l i++pickL l r
def zpH (l:List (Nat × List St)) (ts:TS) (h:Heap):List (List Nat)→Prop
 | []=>True
 | o::r=>(allP (zbK (pickL l o))∧ts=ts∧h=h)∧zpH l ts h r
theorem znc (l:List (Nat × List St)) (ts:TS) (h:Heap):∀ o,zpH l ts h o
 | []=>trivial
 | _::r=>⟨⟨zbq _,rfl,rfl⟩,znc l ts h r⟩
def sdp (l:List (Nat × List St)) (os:List (List Nat)) (ts:TS) (h:Heap):St:=⟨[.draw (zmU l)],[allP (zbK (zlC l))∧zpH l ts h os],⟨zbq _,znc l ts h os⟩⟩
theorem wkS {f:FuncId} {fn:Func} {args:List AV} {h H H':Heap} {r y:AV} (hf:E0.P.funcs[f]?=some fn) (l:List St) (hfin:runF fn args h (orcs l)=some (zbK l,y,H)) (e:y=r∧H=H'):zac E0 f args h r H':=by
 obtain ⟨rfl,rfl⟩:=e
 exact wk hf l hfin
theorem wkrS {fn:Func} {h0:Heap} {c:Cfg} {r y:AV} {H H':Heap} {m:Nat} (l:List St) (hfin:fin (mk E0) fn m 3000 c (orcs l)=some (zbK l,y,H)) (e:y=r∧H=H'):Good E0 fn h0 c (Shut m fun y h=>y=r∧h=H'):=by
 obtain ⟨rfl,rfl⟩:=e
 exact wkr l hfin
theorem owed {p:Prop} (h:p:=by first|assumption|(simp;done)|(simp;omega)|omega|rfl|(refine ⟨⟨?_⟩,?_⟩ <;> first|(simp;done)|(simp;omega)|omega)|(refine ⟨⟨?_⟩,?_,?_⟩ <;> first|(simp;done)|(simp;omega)|omega)|(refine ⟨?_,?_,?_⟩ <;> first|(simp;done)|(simp;omega)|omega)|(constructor <;> first|(simp;done)|(simp;omega)|omega|(simp at *;omega))):p:=h
def sqx (p:Prop) (h:p:=by first|assumption|(simp;done)|(simp;omega)|omega|rfl|(refine ⟨⟨?_⟩,?_⟩ <;> first|(simp;done)|(simp;omega)|omega)|(refine ⟨⟨?_⟩,?_,?_⟩ <;> first|(simp;done)|(simp;omega)|omega)|(refine ⟨?_,?_,?_⟩ <;> first|(simp;done)|(simp;omega)|omega)|(constructor <;> first|(simp;done)|(simp;omega)|omega|(simp at *;omega))):St:=sq h
def skx (p:Prop) {E:Env0} {f:FuncId} {args:List AV} {hl:Heap} {r:AV} {h':Heap} (lend:List Nat) (h:zac E f args hl r h') (hp:p:=by first|assumption|(simp;done)|(simp;omega)|omega|rfl|(refine ⟨⟨?_⟩,?_⟩ <;> first|(simp;done)|(simp;omega)|omega)|(refine ⟨⟨?_⟩,?_,?_⟩ <;> first|(simp;done)|(simp;omega)|omega)|(refine ⟨?_,?_,?_⟩ <;> first|(simp;done)|(simp;omega)|omega)|(constructor <;> first|(simp;done)|(simp;omega)|omega|(simp at *;omega))):St:=sk hp lend h
end Go.AM
namespace Go.AM
set_option maxRecDepth 100000
def cmpI (a b:Int):Int:=if a < b then -1 else if b < a then 1 else 0
def ltS (a b:Str):Bool:=Op.bytesLess a.toList b.toList
def eqS (a b:Str):Bool:=a.toList==b.toList
def cmpS (a b:Str):Int:=if ltS a b then -1 else if !(ltS a b || eqS a b) then 1 else 0
theorem zcK (n:Int):Pure S.cmp_isNaN_int [iv n] (bv (n != n)) :=
 zcq At.cmp_isNaN_int rfl kr kr 100 [] (q:=[]) kr trivial
theorem zcr (n:Int):Pure S.cmp_isNaN_int64 [iv n] (bv (n != n)) :=
 zcq At.cmp_isNaN_int64 rfl kr kr 100 [] (q:=[]) kr trivial
theorem zce (n:Str):Pure S.cmp_isNaN_string [sv n] (bv (!(n.toList==n.toList))) :=
 zcq At.cmp_isNaN_string rfl kr kr 100 [] (q:=[]) kr trivial
theorem zkt (a b:Int):Pure S.cmp_Compare_int [iv a,iv b] (iv (cmpI a b)):=by
 unfold cmpI
 by_cases h1:a < b
 ·rw [if_pos h1]
  exact zcq At.cmp_Compare_int rfl kr kr 200 [.call [] (bv (a != a)) [],.call [] (bv (b != b)) [],.b false,.b false,.b true]
   (q:=[Pure S.cmp_isNaN_int [iv a] (bv (a != a)),Pure S.cmp_isNaN_int [iv b] (bv (b != b)),(a != a)=false,(b != b)=false,decide (a < b)=true]) kr
   ⟨zcK a,zcK b,by simp,by simp,by simpa [allP] using h1⟩
 ·rw [if_neg h1]
  by_cases h2:b < a
  ·rw [if_pos h2]
   exact zcq At.cmp_Compare_int rfl kr kr 200 [.call [] (bv (a != a)) [],.call [] (bv (b != b)) [],.b false,.b false,.b false,.b true]
    (q:=[Pure S.cmp_isNaN_int [iv a] (bv (a != a)),Pure S.cmp_isNaN_int [iv b] (bv (b != b)),(a != a)=false,(b != b)=false,decide (a < b)=false,decide (b < a)=true]) kr
    ⟨zcK a,zcK b,by simp,by simp,by simpa using h1,by simpa [allP] using h2⟩
  ·rw [if_neg h2]
   exact zcq At.cmp_Compare_int rfl kr kr 200 [.call [] (bv (a != a)) [],.call [] (bv (b != b)) [],.b false,.b false,.b false,.b false]
    (q:=[Pure S.cmp_isNaN_int [iv a] (bv (a != a)),Pure S.cmp_isNaN_int [iv b] (bv (b != b)),(a != a)=false,(b != b)=false,decide (a < b)=false,decide (b < a)=false]) kr
    ⟨zcK a,zcK b,by simp,by simp,by simpa using h1,by simpa [allP] using h2⟩
theorem zbz (b:Bool):Pure S.value_Truth [bv b] (V.av ⟨2,if b then 1 else 0,⟨#[]⟩⟩):=by
 cases b
 ·exact zcq At.value_Truth rfl kr kr 100 [.b false] (q:=[false=false]) kr rfl
 ·exact zcq At.value_Truth rfl kr kr 100 [.b true] (q:=[true=true]) kr rfl
theorem zbc (n:Int):Pure S.value_Number [iv n] (V.av ⟨1,n,⟨#[]⟩⟩) :=
 zcq At.value_Number rfl kr kr 100 [] (q:=[]) kr trivial
theorem zai (v:V):Pure S.evaluate_isNull [v.av] (bv (v.kind==0)) :=
 zcq At.evaluate_isNull rfl kr kr 100 [] (q:=[]) kr trivial
end Go.AM
namespace Go.AM
set_option maxRecDepth 100000
theorem zjk (a b:Int):Pure S.cmp_Compare_int64 [iv a,iv b] (iv (cmpI a b)):=by
 unfold cmpI
 by_cases h1:a < b
 ·rw [if_pos h1]
  exact zcq At.cmp_Compare_int64 rfl kr kr 1500 ([.call [] (bv (a != a)) [],.call [] (bv (b != b)) [],.b false,.b false,.b true]) (q:=[zac E0 S.cmp_isNaN_int64 [AV.v (Value.int IntKind.i64 a)] [] (AV.v (Value.bool (a != a))) [],zac E0 S.cmp_isNaN_int64 [AV.v (Value.int IntKind.i64 b)] [] (AV.v (Value.bool (b != b))) [],(a != a)=false,(b != b)=false,decide (a < b)=true]) kr ⟨zcr a,zcr b,by simp,by simp,by simpa [allP] using h1⟩
 ·rw [if_neg h1]
  by_cases h2:b < a
  ·rw [if_pos h2]
   exact zcq At.cmp_Compare_int64 rfl kr kr 1500 ([.call [] (bv (a != a)) [],.call [] (bv (b != b)) [],.b false,.b false,.b false,.b true]) (q:=[zac E0 S.cmp_isNaN_int64 [AV.v (Value.int IntKind.i64 a)] [] (AV.v (Value.bool (a != a))) [],zac E0 S.cmp_isNaN_int64 [AV.v (Value.int IntKind.i64 b)] [] (AV.v (Value.bool (b != b))) [],(a != a)=false,(b != b)=false,decide (a < b)=false,decide (b < a)=true]) kr ⟨zcr a,zcr b,by simp,by simp,by simpa using h1,by simpa [allP] using h2⟩
  ·rw [if_neg h2]
   exact zcq At.cmp_Compare_int64 rfl kr kr 1500 ([.call [] (bv (a != a)) [],.call [] (bv (b != b)) [],.b false,.b false,.b false,.b false]) (q:=[zac E0 S.cmp_isNaN_int64 [AV.v (Value.int IntKind.i64 a)] [] (AV.v (Value.bool (a != a))) [],zac E0 S.cmp_isNaN_int64 [AV.v (Value.int IntKind.i64 b)] [] (AV.v (Value.bool (b != b))) [],(a != a)=false,(b != b)=false,decide (a < b)=false,decide (b < a)=false]) kr ⟨zcr a,zcr b,by simp,by simp,by simpa using h1,by simpa [allP] using h2⟩
theorem ziL (a b:Str):Pure S.cmp_Compare_string [sv a,sv b] (iv (cmpS a b)):=by
 unfold cmpS ltS eqS
 cases h1:Op.bytesLess a.toList b.toList
 ·rw [if_neg (by simp)]
  cases h2:(!(Op.bytesLess a.toList b.toList || a.toList==b.toList))
  ·rw [h1] at h2
   rw [h2,if_neg (by simp)]
   exact zcq At.cmp_Compare_string rfl kr kr 1500 ([.call [] (bv (!(a.toList==a.toList))) [],.call [] (bv (!(b.toList==b.toList))) [],.b false,.b false,.b false,.b false]) (q:=[zac E0 S.cmp_isNaN_string [AV.v (Value.string a)] [] (AV.v (Value.bool !ByteArray.toList a==ByteArray.toList a)) [],zac E0 S.cmp_isNaN_string [AV.v (Value.string b)] [] (AV.v (Value.bool !ByteArray.toList b==ByteArray.toList b)) [],(!ByteArray.toList a==ByteArray.toList a)=false,(!ByteArray.toList b==ByteArray.toList b)=false,Op.bytesLess (ByteArray.toList a) (ByteArray.toList b)=false,(!(Op.bytesLess (ByteArray.toList a) (ByteArray.toList b) || ByteArray.toList a==ByteArray.toList b))=false]) kr ⟨zce a,zce b,by simp,by simp,h1,by simp only [allP];rw [h1];exact h2⟩
  ·rw [h1] at h2
   rw [h2,if_pos rfl]
   exact zcq At.cmp_Compare_string rfl kr kr 1500 ([.call [] (bv (!(a.toList==a.toList))) [],.call [] (bv (!(b.toList==b.toList))) [],.b false,.b false,.b false,.b true]) (q:=[zac E0 S.cmp_isNaN_string [AV.v (Value.string a)] [] (AV.v (Value.bool !ByteArray.toList a==ByteArray.toList a)) [],zac E0 S.cmp_isNaN_string [AV.v (Value.string b)] [] (AV.v (Value.bool !ByteArray.toList b==ByteArray.toList b)) [],(!ByteArray.toList a==ByteArray.toList a)=false,(!ByteArray.toList b==ByteArray.toList b)=false,Op.bytesLess (ByteArray.toList a) (ByteArray.toList b)=false,(!(Op.bytesLess (ByteArray.toList a) (ByteArray.toList b) || ByteArray.toList a==ByteArray.toList b))=true]) kr ⟨zce a,zce b,by simp,by simp,h1,by simp only [allP];rw [h1];exact h2⟩
 ·rw [if_pos rfl]
  exact zcq At.cmp_Compare_string rfl kr kr 1500 ([.call [] (bv (!(a.toList==a.toList))) [],.call [] (bv (!(b.toList==b.toList))) [],.b false,.b false,.b true]) (q:=[zac E0 S.cmp_isNaN_string [AV.v (Value.string a)] [] (AV.v (Value.bool !ByteArray.toList a==ByteArray.toList a)) [],zac E0 S.cmp_isNaN_string [AV.v (Value.string b)] [] (AV.v (Value.bool !ByteArray.toList b==ByteArray.toList b)) [],(!ByteArray.toList a==ByteArray.toList a)=false,(!ByteArray.toList b==ByteArray.toList b)=false,Op.bytesLess (ByteArray.toList a) (ByteArray.toList b)=true]) kr ⟨zce a,zce b,by simp,by simp,h1⟩
def orI:List Int→Int
 | []=>0
 | x::r=>if x=0 then orI r else x
abbrev isl (l:List Int):AV:=.sl (l.map fun n=>[iv n])
noncomputable def L_Or (l:List Int) (i:Nat):Cfg:=zat B.cmp_Or_int 0 [(3,iv 0),(6,.sl (l.map fun n=>[iv n])),(7,iv ((l.map fun n=>[iv n]).length:Nat)),(8,iv (i:Nat))] []
theorem zq6 (l:List Int) (hl:l.length < 9223372036854775807):∀ (k i:Nat),i+k=l.length→Good E0 B.cmp_Or_int [] (L_Or l i) (Shut 0 fun r h=>r=iv (orI (l.drop i))∧h=[]):=by
 intro k
 induction k with
 | zero =>
  intro i hi
  refine zaa ?_
  refine ziX E0ok mix0 1500 ([.b false]) (q:=[decide ((i:Int) < (↑(List.map (fun n=>[iv n]) l).length:Int))=false]) (y:=iv 0) (H:=[]) kr ?_ ⟨?_,rfl⟩
  ·simp [allP];omega
  ·rw [List.drop_of_length_le (by omega)];rfl
 | succ k ih =>
  intro i hi
  obtain ⟨x,hx⟩:=zax (l:=l) (i:=i) (by omega)
  have hlt:=zhi hx
  refine zaa ?_
  rw [zbD hx,orI]
  by_cases h0:x=0
  ·rw [if_pos h0]
   exact zkm E0ok mix0 1500 ([.b true,.el [iv x],.b false,.i ((i+1:Nat):Int)]) [3,6,7,8] 0 (q:=[decide ((i:Int) < (↑(List.map (fun n=>[iv n]) l).length:Int))=true,ElAt (List.map (fun n=>[iv n]) l) (i:Int) [AV.v (Value.int IntKind.i64 x)] (1:Nat),(x != (0:Int))=false,IntKind.i64.wrap ((i:Int)+(1:Int))=(↑(i+(1:Nat)):Int)]) kr kr kr ⟨by simp;omega,zah (fun n=>[iv n]) hx rfl,by simp [h0],zao i (by omega)⟩ (ih (i+1) (by omega))
  ·rw [if_neg h0]
   exact ziX E0ok mix0 1500 ([.b true,.el [iv x],.b true]) (q:=[decide ((i:Int) < (↑(List.map (fun n=>[iv n]) l).length:Int))=true,ElAt (List.map (fun n=>[iv n]) l) (i:Int) [AV.v (Value.int IntKind.i64 x)] (1:Nat),(x != (0:Int))=true]) (y:=iv x) (H:=[]) kr ⟨by simp;omega,zah (fun n=>[iv n]) hx rfl,by simpa [allP] using h0⟩ ⟨rfl,rfl⟩
theorem znz (l:List Int) (hl:l.length < 9223372036854775807):Pure S.cmp_Or_int [.sl (l.map fun n=>[iv n])] (iv (orI l)) :=
 zq1 E0ok mix0 At.cmp_Or_int rfl kr kr 1500 ([]) [3,6,7,8] 0 (q:=[]) kr kr kr trivial (zq6 l hl l.length 0 (by omega))
end Go.AM
namespace Go.AM
set_option maxRecDepth 100000
def cmpV (a b:V):Int:=orI [cmpI a.kind b.kind,cmpI a.int b.int,cmpS a.text b.text]
theorem zc7 (a b:V):Pure S.value_Compare [a.av,b.av] (iv (cmpV a b)) :=
 walk E0ok mix0 At.value_Compare rfl kr kr 1500 [sd [(4,[sc (zkt a.kind b.kind)]),(9,[sc (zjk a.int b.int)]),(14,[sc (ziL a.text b.text)]),(16,[sc (znz [cmpI a.kind b.kind,cmpI a.int b.int,cmpS a.text b.text] (by simp))])]] kr rfl
end Go.AM
namespace Go.AM
set_option maxRecDepth 100000
def okB (c:Nat):Bool:=!(decide ((c:Int) < 32))&&!(decide ((126:Int) < c))
def zll (l:List UInt8):Bool:=match l with
 | []=>true
 | c::r=>okB c.toNat&&zll r
def zlw (s:Str):Bool:=zll s.data.toList&&decide ((s.size:Int)≤64)
noncomputable def zma (s:Str) (i:Nat):Cfg:=zat B.value_plain 0 [(0,sv s),(5,iv (s.size:Nat)),(6,iv (i:Nat))] []
theorem znW (s:Str) (hl:s.size < 9223372036854775807):∀ (k i:Nat),i+k=s.size→Good E0 B.value_plain [] (zma s i) (Shut 0 fun r h=>r=bv (zll (s.data.toList.drop i)&&decide ((s.size:Int)≤64))∧h=[]):=by
 intro k
 induction k with
 | zero =>
  intro i hi
  refine zaa ?_
  have h0:decide ((i:Int) < (s.size:Int))=false:=by simp;omega
  have e0:s.data.toList.drop i=[]:=List.drop_of_length_le (by simp [← hi])
  rw [e0]
  exact zhl E0ok mix0 3000 (y:=AV.v (Value.bool (decide ((↑(ByteArray.size s):Int)≤(64:Int))))) [sb h0] kr ⟨rfl,rfl⟩
 | succ k ih =>
  intro i hi
  have ih:=ih (i+1) (by omega)
  have hlt:i < s.size:=by omega
  have h0:decide ((i:Int) < (s.size:Int))=true:=by simp;omega
  have hb:ByteAt s (i:Int) ((s[i].toNat:Nat):Int):=⟨by omega,by simp [hlt]⟩
  have hw:=zao i (by omega)
  have e0:s.data.toList.drop i=s[i]::s.data.toList.drop (i+1):=by
   rw [List.drop_eq_getElem_cons (by simpa using hlt)];rfl
  rw [e0]
  generalize s[i]=c at hb
  simp only [zll,okB]
  refine zaa ?_
  cases h1:decide ((c.toNat:Int) < (32:Int))
  ·cases h2:decide ((126:Int) < (c.toNat:Int))
   ·exact zc5 E0ok mix0 3000 (c':=zma s (i+(1:Nat))) [sb h0,sy hb,sg h1,sy hb,sb h2,si hw] [0,5,6] 0 kr kr (by simpa [h1,h2] using ih)
   ·exact zhl E0ok mix0 3000 (y:=AV.v (Value.bool false)) [sb h0,sy hb,sg h1,sy hb,sb h2] kr ⟨by simp [h1,h2],rfl⟩
  ·exact zhl E0ok mix0 3000 (y:=AV.v (Value.bool false)) [sb h0,sy hb,sb h1] kr ⟨by simp [h1],rfl⟩
theorem zmB (s:Str) (hl:s.size < 9223372036854775807):Pure S.value_plain [sv s] (bv (zlw s)):=by
 exact ziC E0ok mix0 At.value_plain rfl kr kr 3000 (c':=zma s (0:Nat)) [] [0,5,6] 0 kr kr (by simpa [zlw] using znW s hl s.size 0 (by simp))
end Go.AM
