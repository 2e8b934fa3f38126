/-
  Contracts of the program's functions, part 6.
-/
import Derived.Test.YtenlehhclknogaaGreatDoorPartF
import Derived.Carry
import Derived.ChangeSame
import Derived.Lib.LaidU8
import Derived.FnData
namespace Go.AM
set_option maxRecDepth 100000
set_option linter.unusedSimpArgs false
set_option linter.unusedVariables false
def zed (a:Ac) (c:Col):Bool:=a.kind==5&&colC c a.set0.col
structure Kept (s:Sch) (l:List Ac) (nw r:List V):Prop where
 len:r.length=nw.length
 at_:∀ (i:Nat) (c:Col),s.cols[i]?=some c→(∀ a∈l,zed a c=false)→r[i]?=nw[i]?
theorem Kept.refl (s:Sch) (l:List Ac) (nw:List V):Kept s l nw nw:=⟨rfl,fun _ _ _ _=>rfl⟩
theorem Kept.trans {s:Sch} {l:List Ac} {a b c:List V} (h1:Kept s l a b) (h2:Kept s l b c):Kept s l a c :=
 ⟨h2.len.trans h1.len,fun i x hx hn=>(h2.at_ i x hx hn).trans (h1.at_ i x hx hn)⟩
theorem zon {f:X→V × Int} {a:Ac} {fr:List Fr} {s:Sch} {old new:List V} {tb:List Tb} {l:List Ac} (ha:a∈l) (hk:a.kind=5):Kept s l new (zcu f a fr s old new tb).2:=by
 unfold zcu
 simp only [Bool.cond_eq_ite]
 split
 ·exact .refl _ _ _
 ·split
  ·exact .refl _ _ _
  ·split
   ·exact .refl _ _ _
   ·split
    ·exact .refl _ _ _
    ·refine ⟨by simp,fun i c hc hn=>?_⟩
     rcases zjR (fun c=>colC c a.set0.col) s.cols 0 with ⟨h1,_⟩|⟨j,y,h1,h2,h3⟩
     ·rename_i _ h4 _ _ _
      rw [h1] at h4
      simp at h4
     ·rw [h1]
      have hne:(((0+j:Nat):Int)).toNat≠i:=by
       intro he
       have hj:j=i:=by omega
       subst hj
       rw [h2] at hc
       cases hc
       have:=hn a ha
       have hp:colC c a.set0.col=true:=List.find?_some (p:=fun c=>colC c a.set0.col) h3
       simp [zed,hk,hp] at this
      exact List.getElem?_set_ne hne
theorem zld {f:List V→X→V × Int} {I:List V→Prop} {t:Tg} {s:Sch} {old:List V} {tb:List Tb} {new0:List V} {l:List Ac}:∀ (r:List Ac) (i:Nat) (nw:List V),(∀ a∈r,a∈l)→Kept s l nw (zfp f I t s old tb new0 r i nw).2
 | [],i,nw,_=>.refl _ _ _
 | x::r,i,nw,h=>by
  simp only [zfp,Bool.cond_eq_ite]
  split
  ·exact .refl _ _ _
  ·split
   ·rename_i hk
    have h1:Kept s l nw (zcu (f nw) x (za7 t s old nw) s old nw tb).2:=zon (h x (by simp)) (by simpa using hk)
    split
    ·exact h1
    ·exact h1.trans (zld r (i+1) _ fun a ha=>h a (by simp [ha]))
   ·exact .refl _ _ _
theorem zlz {n:Nat} {t:Tg} {s:Sch} {old nw:List V} {tb:List Tb} {l:List Ac} (h:∀ a∈t.acts,a∈l):Kept s l nw (zb7 n t s old nw tb).2:=by
 unfold zb7 fire
 simp only [Bool.cond_eq_ite]
 split
 ·exact .refl _ _ _
 ·split
  ·exact .refl _ _ _
  ·exact zld _ _ _ h
theorem zjA {N:Nat} {l:List Lk} {s:Sch} {old:List V} {tb:List Tb} {asl:List Ac}:∀ (k:Nat) (cur:List Tg) (nw:List V) (ps ch:List Int),(∀ t∈cur,∀ a∈t.acts,a∈asl)→(brow N l s old tb k cur nw ps ch).2.2.2=0→Kept s asl nw (brow N l s old tb k cur nw ps ch).1
 | 0,cur,nw,ps,ch,_,_=>.refl _ _ _
 | k+1,cur,nw,ps,ch,h,h0=>by
  have hg:∀ j,∀ a∈(cur.getD j zbd).acts,a∈asl:=fun j a ha=>by
   rw [List.getD_eq_getElem?_getD] at ha
   cases hj:cur[j]? with
   | none=>rw [hj] at ha;simp [zbd] at ha
   | some t=>rw [hj] at ha;exact h t (List.mem_of_getElem? hj) a ha
  have he:∀ j,∀ t∈cur.eraseIdx j,∀ a∈t.acts,a∈asl:=fun j t ht=>h t (List.mem_of_mem_eraseIdx ht)
  simp only [brow,Bool.cond_eq_ite] at h0 ⊢
  split at h0
  ·simp at h0
  ·rename_i hz
   rw [if_neg hz]
   split at h0
   ·rename_i h1
    rw [if_pos h1]
    split at h0
    ·rename_i h2
     simp only at h0
     rw [bne_iff_ne] at h2
     exact absurd h0 h2
    ·rename_i h2
     rw [if_neg h2]
     exact (zlz (hg _)).trans (zjA k _ _ _ _ (he _) h0)
   ·rename_i h1
    rw [if_neg h1]
    split at h0
    ·rename_i h2
     simp only at h0
     rw [bne_iff_ne] at h2
     exact absurd h0 h2
    ·rename_i h2
     rw [if_neg h2]
     exact (zlz (hg _)).trans (zjA k _ _ _ _ (he _) h0)
theorem zqN {N:Nat} {ts:List Tg} {l:List Lk} {s:Sch} {old new:List V} {tb:List Tb} {ps:List Int} (h0:(bRow N ts l s old new tb ps).2.2.2=0):Kept s (ts.flatMap Tg.acts) new (bRow N ts l s old new tb ps).1 :=
 zjA _ _ _ _ _ (fun t ht a ha=>List.mem_flatMap.2 ⟨t,ht,ha⟩) h0
end Go.AM
namespace Go.AM
set_option maxRecDepth 100000
set_option maxHeartbeats 1000000
set_option linter.unusedSimpArgs false
set_option linter.unusedVariables false
theorem PrefOk.good {cols:List Col} {vals:List V} (h:zg8 cols vals):∀ v∈vals,v.Good:=fun v hv=>by
 obtain ⟨k,hk,hkv⟩:=List.mem_iff_getElem.1 hv
 have hl:=h.len
 obtain ⟨c,hc⟩:=zay (l:=cols) (i:=k) (by omega)
 exact (h.at_ k c v hc (by rw [← hkv];simp)).good
theorem FsT.ok {frs:List Fr} (h:FsT frs) (n:Nat) (hn:n≤900000):FsOk n frs :=
 ⟨by have:=h.len;omega,fun f hf=>zaI (h.few f hf),fun f hf v hv=>((h.rows f hf).good v hv).small⟩
theorem FsT.g {frs:List Fr} (h:FsT frs):FsG frs:=fun f hf v hv=>(h.rows f hf).good v hv
theorem StoreOk.tbOk {l:List Tb} (h:StoreOk l):TbOk l :=
 ⟨by have:=h.len;simp only [zae];omega,fun x hx=>(h.tabs x hx).2.short,fun x hx=>(h.tabs x hx).1.len,fun x hx r hr v hv=>(((h.tabs x hx).1.rows r hr).good v hv).small⟩
theorem StoreOk.tbG {l:List Tb} (h:StoreOk l):TbG l :=
 ⟨fun x hx r hr v hv=>((h.tabs x hx).1.rows r hr).good v hv,fun x hx=>(h.tabs x hx).1.len⟩
end Go.AM
namespace Go.AM
set_option maxRecDepth 100000
set_option maxHeartbeats 1000000
set_option linter.unusedSimpArgs false
set_option linter.unusedVariables false
theorem zer {p:Prop} (h:p:=by first|assumption|(intro hq a ha;simp at ha;done)|(simp;done)|omega):p:=h
theorem zm5 {p:Prop} (h:p:=by (intro hq;first|(simp at hq;done)|exact zla hx (hI (by assumption)) (zqB (by assumption))|exact zla hx (hI (by assumption)) (zql (by simp only [h1,h2,cond_true,cond_false] at hq;exact hq)))):p:=h
theorem znc {p:Prop} (h:p:=by first|exact Bool.noConfusion ((zoz hkp hl hx).symm.trans h2)|exact Bool.noConfusion ((zq2 hkp hl hx q1).symm.trans (by assumption))|(rw [h2] at h4;cases h4)):p:=h
theorem zkK {p:Prop} (h:p:=by first|assumption|exact znY hI|omega|(simp;done)):p:=h
theorem zl4 {tb:Str} {ev:Int} {ts:List Tg} {o:List Lk} (h:BTrs tb ev ts o):zae ts:=by have:=h.len;simp only [zae];omega
theorem zjw (tbn:Str) (ev:Int) (ts:List Tg) (o:List Lk) (s:Sch) (old new:List V) (tb:List Tb) (ps:List Int) (h:BTrs tbn ev ts o) (hs:Few s.cols) (ho:NwOk old) (hn:NwOk new) (hst:StoreOk tb) (hp:Room ps) (hns:zae new) :
  ∃ (r:List V) (p ch:List Int) (e:Int),(e=0→Kept s (ts.flatMap Tg.acts) new r)∧zac E0 S.before_Row [.sl (ts.map Tg.cells),.sl (o.map Lk.cells),s.av,vsl old,vsl new,tsl tb,isl ps] [] (.tup [vsl r,isl p,isl ch,iv e]) [] :=
 ⟨_,_,_,_,zqN,zjp 5 ts o s old new tb ps (by decide) (h.ord.short (by decide)) hs (zaI hs) ho hst.tbOk hst.tbG (zl4 h) (fun t ht=>(h.trs t ht).trOk) hn hns hp⟩
def zeo (c:Col) (l:List Ac):Prop:=∀ a∈l,zed a c=false
theorem zla {l p:List Ac} {i:Nat} {x:Ac} {c:Col} (hx:l[i]?=some x) (h:zeo c (p++l.take i)) (hs:zed x c=false):zeo c (p++l.take (i+1)):=fun a ha=>by
 rw [List.take_add_one,hx] at ha
 simp only [Option.toList_some,List.mem_append,List.mem_singleton] at ha
 rcases ha with ha|ha|rfl
 ·exact h a (List.mem_append_left _ ha)
 ·exact h a (List.mem_append_right _ ha)
 ·exact hs
theorem zpS {ts:List Tg} {j:Nat} {y:Tg} {c:Col} {b:Bool} (hy:ts[j]?=some y) (h:b=false→zeo c ((ts.take j).flatMap Tg.acts++y.acts.take y.acts.length)):b=false→zeo c ((ts.take (j+1)).flatMap Tg.acts):=fun hb=>by
 rw [List.take_add_one,hy,List.flatMap_append]
 simpa using h hb
theorem znY {p l:List Ac} {c:Col} {b:Bool} (h:b=false→zeo c p):b=false→zeo c (p++l.take 0):=by simpa using h
theorem zqB {a:Ac} {c:Col} (h:(a.kind==(5:Int))=false):zed a c=false:=by simp [zed,h]
theorem zql {a:Ac} {c:Col} (h:(a.set0.col.toList==c.name.toList)=false):zed a c=false:=by
 have h2:(c.name.toList==a.set0.col.toList)=false:=by
  rw [Bool.eq_false_iff] at h ⊢
  intro h3
  simp only [beq_iff_eq] at h3
  simp [h3] at h
 simp [zed,colC,h2]
noncomputable def L_bsA (u:Tp) (s:Sch) (ts:List Tg) (nw r:List V) (io jo:Nat) (c:Col) (y:Tg) (i:Nat) (b:Bool):Cfg:=zaw B.law20_BeforeSets 2 [(8,.sl (ts.map Tg.cells)),(11,vsl nw),(12,vsl r),(16,iv (io:Nat)),(17,.p 2 0),(18,bv b),(62,.sl (s.cols.map Col.cells)),(63,iv ((s.cols.map Col.cells).length:Nat)),(64,iv (io:Nat)),(69,.sl (ts.map Tg.cells)),(70,iv ((ts.map Tg.cells).length:Nat)),(71,iv (jo:Nat)),(76,.sl (y.acts.map Ac.cells)),(77,iv ((y.acts.map Ac.cells).length:Nat)),(78,iv (i:Nat))] [.box u.cells,.box s.cells,.box c.cells,.box y.cells]
theorem zfi (u:Tp) (s:Sch) (ts:List Tg) (nw r:List V) (io jo:Nat) (c:Col) (y:Tg) (hya:zae y.acts) (hb:∀ a∈y.acts,a.kind=5→∃ s0,a.sets=[s0]) (i:Nat) (b:Bool) (hi:i≤(y.acts).length) (hI:(b=false→zeo c ((ts.take jo).flatMap Tg.acts++y.acts.take i))):∃ (b':Bool),((b'=false→zeo c ((ts.take jo).flatMap Tg.acts++y.acts.take (y.acts).length)))∧(decide ((((y.acts).length:Nat):Int) < (((y.acts.map Ac.cells).length:Nat):Int))=false)∧∀ R,Good E0 B.law20_BeforeSets [] (L_bsA u s ts nw r io jo c y (y.acts).length b') R→Good E0 B.law20_BeforeSets [] (L_bsA u s ts nw r io jo c y i b) R:=by
 obtain ⟨kk,hk⟩:∃ kk,i+kk=(y.acts).length:=⟨(y.acts).length - i,by omega⟩
 induction kk generalizing i b with
 | zero =>
  have e0:i=(y.acts).length:=by omega
  subst e0
  exact ⟨b,hI,by simp,fun R hg=>hg⟩
 | succ kk ih =>
  obtain ⟨x,hx⟩:=zay (l:=y.acts) (i:=i) (by omega)
  have h0:decide (((i:Nat):Int) < (((y.acts.map Ac.cells).length:Nat):Int))=true:=by simp;omega
  have hw:IntKind.i64.wrap (((i:Nat):Int)+1)=((i+1:Nat):Int):=zas i (by first|omega|(simp only [zae,Few] at *;omega))
  have hset:=hb x (List.mem_of_getElem? hx)
  let p_1:List St:=[sb h0,se (zaj Ac.cells hx rfl)]
  rcases (Bool.eq_false_or_eq_true b).symm with h1|h1
  ·cases h2:x.kind==5
   ·obtain ⟨bZ,qZ,xZ,gZ⟩:=ih (i+1) (bif b then true else false) (by omega) zm5 (by omega);exact ⟨bZ,qZ,xZ,fun R hg=>zab (wkl (p_1++[sd [(2,[sg h1]),(3,[sg h1]),(4,[sg h1]),(5,[sg h1]),(6,[sb h2]),(7,[sb h2]),(8,[sb h2]),(9,[sb h2]),(10,[sb h2]),(11,[sb h2]),(12,[sb h2]),(13,[sb h2]),(14,[so h1 (sb h2)])],si hw]) [8,11,12,16,17,18,62,63,64,69,70,71,76,77,78] 4 kr (gZ R hg))⟩
   ·obtain ⟨bZ,qZ,xZ,gZ⟩:=ih (i+1) (bif b then true else bif x.kind==5 then ByteArray.toList x.set0.col==ByteArray.toList c.name else false) (by omega) zm5 (by omega);exact ⟨bZ,qZ,xZ,fun R hg=>zab (wkl (p_1++[sd [(2,[sg h1]),(3,[sg h1]),(4,[sg h1]),(5,[sg h1]),(6,[sg h2]),(7,[sg h2]),(8,[so h2 (se (zd9 x (by first|assumption|(obtain ⟨s0,h0⟩:=hset (by simp_all);simp [h0]))))]),(9,[sg h2]),(10,[sg h2]),(11,[sg h2]),(12,[sg h2]),(13,[sg h2]),(14,[sg h1])],si hw]) [8,11,12,16,17,18,62,63,64,69,70,71,76,77,78] 4 kr (gZ R hg))⟩
  ·obtain ⟨bZ,qZ,xZ,gZ⟩:=ih (i+1) true (by omega) zm5 (by omega);exact ⟨bZ,qZ,xZ,fun R hg=>zab (wklN (p_1++[sd [(2,[sb h1]),(3,[sb h1]),(4,[sb h1]),(5,[sb h1]),(14,[sb h1]),(15,[sb h1])],si hw]) [8,11,12,16,17,18,62,63,64,69,70,71,76,77,78] 4 [(.bl 18,4)] kr (gZ R hg))⟩
noncomputable def L_bsT (u:Tp) (s:Sch) (ts:List Tg) (nw r:List V) (io:Nat) (c:Col) (i:Nat) (b:Bool):Cfg:=zaw B.law20_BeforeSets 1 [(8,.sl (ts.map Tg.cells)),(11,vsl nw),(12,vsl r),(16,iv (io:Nat)),(17,.p 2 0),(18,bv b),(62,.sl (s.cols.map Col.cells)),(63,iv ((s.cols.map Col.cells).length:Nat)),(64,iv (io:Nat)),(69,.sl (ts.map Tg.cells)),(70,iv ((ts.map Tg.cells).length:Nat)),(71,iv (i:Nat))] [.box u.cells,.box s.cells,.box c.cells]
theorem zfd (u:Tp) (s:Sch) (ts:List Tg) (nw r:List V) (io:Nat) (c:Col) (hs:Few s.cols) (hts:zae ts) (hb:∀ x∈ts,zae x.acts∧∀ a∈x.acts,a.kind=5→∃ s0,a.sets=[s0]) (i:Nat) (b:Bool) (hi:i≤(ts).length) (hI:(b=false→zeo c ((ts.take i).flatMap Tg.acts))):∃ (b':Bool),((b'=false→zeo c ((ts.take (ts).length).flatMap Tg.acts)))∧(decide ((((ts).length:Nat):Int) < (((ts.map Tg.cells).length:Nat):Int))=false)∧∀ R,Good E0 B.law20_BeforeSets [] (L_bsT u s ts nw r io c (ts).length b') R→Good E0 B.law20_BeforeSets [] (L_bsT u s ts nw r io c i b) R:=by
 obtain ⟨kk,hk⟩:∃ kk,i+kk=(ts).length:=⟨(ts).length - i,by omega⟩
 induction kk generalizing i b with
 | zero =>
  have e0:i=(ts).length:=by omega
  subst e0
  exact ⟨b,hI,by simp,fun R hg=>hg⟩
 | succ kk ih =>
  obtain ⟨x,hx⟩:=zay (l:=ts) (i:=i) (by omega)
  have h0:decide (((i:Nat):Int) < (((ts.map Tg.cells).length:Nat):Int))=true:=by simp;omega
  have hw:IntKind.i64.wrap (((i:Nat):Int)+1)=((i+1:Nat):Int):=zas i (by first|omega|(simp only [zae,Few] at *;omega))
  have hxa:=(hb x (List.mem_of_getElem? hx)).1;have hxb:=(hb x (List.mem_of_getElem? hx)).2
  obtain ⟨b1,q1,q1_1,g1⟩:=zfi u s ts nw r io i c x zkK zkK 0 b zkK zkK
  obtain ⟨bZ,qZ,xZ,gZ⟩:=ih (i+1) b1 (by omega) (by exact zpS hx (by assumption)) (by omega);exact ⟨bZ,qZ,xZ,fun R hg=>zab (wkl [sb h0,se (zaj Tg.cells hx rfl)] [8,11,12,16,17,18,62,63,64,69,70,71,76,77,78] 4 kr (g1 _ (zab (wkl [sb q1_1,si hw] [8,11,12,16,17,18,62,63,64,69,70,71] 3 kr (gZ R hg)))))⟩
theorem zoz {s:Sch} {l:List Ac} {nw r:List V} (hk:Kept s l nw r) (hl:nw.length=s.cols.length) {i:Nat} {x:Col} (hx:s.cols[i]?=some x):decide ((((r.map V.cells).length:Nat):Int)≤(i:Int))=false:=by
 have h1:=(List.getElem?_eq_some_iff.mp hx).1
 have h2:=hk.len
 simp;omega
theorem zq2 {s:Sch} {ts:List Tg} {nw r:List V} (hk:Kept s (ts.flatMap Tg.acts) nw r) (hl:nw.length=s.cols.length) {i:Nat} {x:Col} (hx:s.cols[i]?=some x) {b:Bool} (q:b=false→zeo x ((ts.take ts.length).flatMap Tg.acts)) :
  (bif decide ((((r.map V.cells).length:Nat):Int)≤(i:Int)) then true else bif !b then !((zbR r (i:Int)).kind==(zbR nw (i:Int)).kind&&((zbR r (i:Int)).int==(zbR nw (i:Int)).int&&((zbR r (i:Int)).text==(zbR nw (i:Int)).text&&true))) else false)=false:=by
 rw [zoz hk hl hx,cond_false]
 cases b with
 | true=>rfl
 | false =>
  have h:=q rfl
  rw [List.take_length] at h
  have h2:=hk.at_ i x hx h
  have h3:zbR r (i:Int)=zbR nw (i:Int):=by
   unfold zbR
   rw [show ((i:Nat):Int).toNat=i by omega,List.getD_eq_getElem?_getD,List.getD_eq_getElem?_getD,h2]
  rw [h3]
  simp
noncomputable def L_bsC (u:Tp) (s:Sch) (ts:List Tg) (nw r:List V) (i:Nat) :Cfg:=zaw B.law20_BeforeSets 0 [(8,.sl (ts.map Tg.cells)),(11,vsl nw),(12,vsl r),(62,.sl (s.cols.map Col.cells)),(63,iv ((s.cols.map Col.cells).length:Nat)),(64,iv (i:Nat))] [.box u.cells,.box s.cells]
theorem zfk (u:Tp) (s:Sch) (ts:List Tg) (nw r:List V) (hs:Few s.cols) (hts:zae ts) (hb:∀ x∈ts,zae x.acts∧∀ a∈x.acts,a.kind=5→∃ s0,a.sets=[s0]) (hkp:Kept s (ts.flatMap Tg.acts) nw r) (hl:nw.length=s.cols.length) (i:Nat)  (hi:i≤(s.cols).length) (hI:True):(True)∧(decide ((((s.cols).length:Nat):Int) < (((s.cols.map Col.cells).length:Nat):Int))=false)∧∀ R,Good E0 B.law20_BeforeSets [] (L_bsC u s ts nw r (s.cols).length ) R→Good E0 B.law20_BeforeSets [] (L_bsC u s ts nw r i ) R:=by
 obtain ⟨kk,hk⟩:∃ kk,i+kk=(s.cols).length:=⟨(s.cols).length - i,by omega⟩
 induction kk generalizing i  hI with
 | zero =>
  have e0:i=(s.cols).length:=by omega
  subst e0
  exact ⟨hI,by simp,fun R hg=>hg⟩
 | succ kk ih =>
  obtain ⟨x,hx⟩:=zay (l:=s.cols) (i:=i) (by omega)
  have h0:decide (((i:Nat):Int) < (((s.cols.map Col.cells).length:Nat):Int))=true:=by simp;omega
  have hw:IntKind.i64.wrap (((i:Nat):Int)+1)=((i+1:Nat):Int):=zas i (by first|omega|(simp only [zae,Few] at *;omega))
  have hix:=(List.getElem?_eq_some_iff.mp hx).1;have hrl:=hkp.len
  obtain ⟨b1,q1,q1_1,g1⟩:=zfd u s ts nw r i x zer zer zer 0 false zer zer
  let p_1:List St:=[sb h0,se (zaj Col.cells hx rfl)]
  cases h2:decide ((↑(List.map V.cells r).length:Int)≤(i:Int))
  ·cases h3:!b1
   ·cases h4:bif decide ((↑(List.map V.cells r).length:Int)≤(i:Int)) then true else false
    ·obtain ⟨qZ,xZ,gZ⟩:=ih (i+1) (by omega) (by first|trivial|assumption|(simp;done)|omega|(simp;omega)|(simp at *;omega)) (by omega);exact ⟨qZ,xZ,fun R hg=>zab (wklN p_1 [8,11,12,16,17,18,62,63,64,69,70,71] 3 [(.bl 18,3)] kr (g1 _ (zab (wkl [sb q1_1,sd [(5,[sg h2]),(6,[sg h2]),(7,[sg h2]),(8,[sb h3]),(9,[sb h3]),(10,[sb h3]),(11,[sb h3]),(12,[sb h3]),(13,[sb h3]),(14,[sb h3]),(15,[sb h3]),(16,[sb h3]),(17,[so h2 (sb h3)])],sb h4,si hw] [8,11,12,62,63,64] 2 kr (gZ R hg)))))⟩
    ·exact False.elim znc
   ·cases h5:bif decide ((↑(List.map V.cells r).length:Int)≤(i:Int)) then true else bif !b1 then !((zbR r (i:Int)).kind==(zbR nw (i:Int)).kind&&((zbR r (i:Int)).int==(zbR nw (i:Int)).int&&((zbR r (i:Int)).text==(zbR nw (i:Int)).text&&true))) else false
    ·obtain ⟨qZ,xZ,gZ⟩:=ih (i+1) (by omega) (by first|trivial|assumption|(simp;done)|omega|(simp;omega)|(simp at *;omega)) (by omega);exact ⟨qZ,xZ,fun R hg=>zab (wklN p_1 [8,11,12,16,17,18,62,63,64,69,70,71] 3 [(.bl 18,3)] kr (g1 _ (zab (wkl [sb q1_1,sd [(5,[sg h2]),(6,[sg h2]),(7,[sg h2]),(8,[sg h3]),(9,[sg h3]),(10,[so h3 (se (zjo r ((i:Int)) zer zer))]),(11,[sg h3]),(12,[sg h3]),(13,[sg h3]),(14,[so h3 (se (zjo nw ((i:Int)) zer zer))]),(15,[sg h3]),(16,[so h3 (sq zaM)]),(17,[sg h2])],sb h5,si hw] [8,11,12,62,63,64] 2 kr (gZ R hg)))))⟩
    ·exact False.elim znc
  ·exact False.elim znc
end Go.AM
namespace Go.AM
set_option maxRecDepth 100000
set_option maxHeartbeats 1000000
set_option linter.unusedSimpArgs false
set_option linter.unusedVariables false
theorem zbQ {p:Prop} (h:p:=by first|assumption|(simp only [Pos];omega)|exact (zbm (by assumption)).short|exact (zbm (by assumption)).cols|exact (zbm (by assumption)).few|exact rowNw (zbm (by assumption)) (by assumption)|exact And.right (by assumption)|exact (rowNw (zbm (by assumption)) (by assumption)).short|exact zl4 (by assumption)|exact zsa (by assumption)|exact q8 (by simpa using h9)|exact PrefOk.len (by assumption)|omega|(simp;done)):p:=h
theorem znx {p:Prop} (h:p:=by first|rfl|(exfalso;have h:=(q8 (by simpa using h9)).len;simp [h] at h11)):p:=h
theorem rowNw {s:Sch} {r:List V} (hs:SchOk s) (h:zg8 s.cols r):NwOk r:=⟨by have:=h.len;have:=hs.few;simp only [Few] at *;omega,PrefOk.good h⟩
theorem zsa {tb:Str} {ev:Int} {ts:List Tg} {o:List Lk} (h:BTrs tb ev ts o):∀ x∈ts,zae x.acts∧∀ a∈x.acts,a.kind=5→∃ s0,a.sets=[s0]:=fun x hx=>by
 obtain ⟨a,ha,hk⟩:=(h.trs x hx).acts
 refine ⟨by rw [ha];simp,fun b hb h5=>?_⟩
 rw [ha,List.mem_singleton] at hb
 subst hb
 rcases hk with rfl|⟨c,e,rfl,_⟩
 ·simp at h5
 ·exact ⟨_,rfl⟩
theorem zqD (l ps:List Int) (hsh:zae zan) (hp:Room ps) :∃ (r:Bool),r=true∧zac E0 S.law20_BeforeSets [isl l,isl ps] [] (bv r) []:=by
 obtain ⟨t1,c1⟩:=(zol l)
 obtain ⟨w2,t2,q2,c2⟩:=(zb2 t1)
 obtain ⟨a3,t3,q3,c3⟩:=(zaf t2 3 zbQ)
 obtain ⟨r4,o4,t4,q4,c4⟩:=(zku t3 w2 ((↑(1+a3):Int)) zbQ)
 obtain ⟨r5,t5,q5,c5⟩:=(zd1 t4 (zam w2) zbQ zbQ)
 obtain ⟨r6,t6,q6,c6⟩:=(zd1 t5 (zam w2) zbQ zbQ)
 obtain ⟨r7,t7,q7,c7⟩:=(zjq t6 2 zbQ zbQ)
 obtain ⟨r8,p8,ch8,e8,q8,c8⟩:=(zjw w2 ((↑(1+a3):Int)) r4 o4 (zam w2) r5 r6 r7 ps q4 zbQ zbQ zbQ zbQ zbQ zbQ)
 let p_1:List St:=[sc c1,sl [0] c2,sc (zbj w2 zbQ),sl [0] c3,si (zaW (t:=1+(a3:Int)) (n:=1+a3) (by omega) (by omega)),sl [0] c4,sd [(2,[sl [0] c5]),(5,[sl [0] c6])],sd [(6,[sl [0] c7]),(8,[sc c8])]]
 cases h9:e8 != 0
 ·obtain ⟨q10,q10_1,g10⟩:=zfk t7 (zam w2) r4 r6 r8 zbQ zbQ zbQ zbQ zbQ 0 zbQ zbQ
  cases h11:(↑(List.map V.cells r8).length:Int)==(↑(List.map V.cells r6).length:Int)
  ·exact ⟨false,znx,wkc At.law20_BeforeSets (p_1++[sb h9]) [8,11,12,62,63,64] 2 kr (g10 _ (zab (wkr [sb q10_1,sb h11] kr)))⟩
  ·exact ⟨true,znx,wkc At.law20_BeforeSets (p_1++[sb h9]) [8,11,12,62,63,64] 2 kr (g10 _ (zab (wkr [sb q10_1,so h11 (sc ziL)] kr)))⟩
 ·exact ⟨true,znx,wk At.law20_BeforeSets (p_1++[sb h9,sc ziL]) kr⟩
end Go.AM
namespace Go.AM
open Go.RowKit
set_option linter.unusedSimpArgs false
set_option linter.unusedVariables false
abbrev old (W:World):Addr→Prop:=fun a=>a.block < W.heap.size
theorem zoO {W:World} {a:Addr} {v:Value} (h:W.cell? a=some v):a.block < W.heap.size:=by
 unfold World.cell? at h
 cases hb:W.heap[a.block]? with
 | none=>rw [hb] at h;cases h
 | some o=>exact (Array.getElem?_eq_some_iff.1 hb).1
theorem relD_strs {W:World} {g:Nat} (l:List Str) (h:∀ (j:Nat) (s:Str),l[j]?=some s→W.cell? ⟨g,j,none⟩=some (.string s)):RelD W (old W) (.dp (l.map sv)) (.pointer (some ⟨g,0,none⟩)):=by
 refine .dp _ g 0 (fun j=>.string (l.getD j ⟨#[]⟩)) (fun j x hx=>?_) (fun j x hx=>?_)
 ·simp only [List.getElem?_map,Option.map_eq_some_iff] at hx
  obtain ⟨s,hs,rfl⟩:=hx
  have hc:=h j s hs
  rw [Nat.zero_add]
  refine ⟨zoO hc,?_,rfl⟩
  rw [hc,List.getD_eq_getElem?_getD,hs];rfl
 ·simp only [List.getElem?_map,Option.map_eq_some_iff] at hx
  obtain ⟨s,hs,rfl⟩:=hx
  have:l.getD j ⟨#[]⟩=s:=by rw [List.getD_eq_getElem?_getD,hs];rfl
  simp only [this]
  exact .v _ rfl
theorem zrd {s:ByteArray} {l:List UInt8} (h:s.data.toList=l):s=zcB l:=by
 cases s with
 | mk d=>simp only [zcB];congr;rw [← h]
theorem laid_strs {P:Program} {W:World} {n:String} {g:Nat} {t e:TypeId} {k:Nat} {l:List (List UInt8)} (hr:Lib.VarReads P W n (.agg (l.map fun b=>.lit (.string b)))) (hg:P.globalNamed n=some g) (hty:(P.globals[g]?).map (·.type)=some t)
  (ht:P.underlying t=some (.array k e)) (he:P.underlying e=some .string) (hc:P.cellsOf e=1) (hk:l.length=k):∀ (j:Nat) (s:Str),(l.map zcB)[j]?=some s→W.cell? ⟨g,j,none⟩=some (.string s):=by
 intro j s hs
 obtain ⟨g',t',cs,fuel,p,h1,h2,h3,h4⟩:=hr
 obtain rfl:g'=g:=Option.some.inj (h1.symm.trans hg)
 obtain rfl:t'=t:=Option.some.inj (h2.symm.trans hty)
 simp only [List.getElem?_map,Option.map_eq_some_iff] at hs
 obtain ⟨b,hb,rfl⟩:=hs
 have hj:=zfo hb
 obtain ⟨f',d,q,hd,hq⟩:=Lib.array_elem ht h4 j (by omega)
 simp only [List.getElem?_map,hb,Option.map_some,Option.some.injEq] at hd
 subst hd
 obtain ⟨s,e1,e2,_⟩:=DataW.trod_string he hq
 rw [World.var?_cell h1 h3]
 rw [hc,Nat.mul_one] at e1
 have e3:cs.toList[j]?=some (.string s):=by
  have:=congrArg (·[0]?) e1
  simpa [List.getElem?_take,List.getElem?_drop] using this
 have e4:s=zcB b:=zrd (by simp only [Prod.mk.injEq,DataW.lit.injEq,Lit.string.injEq] at e2;exact e2.1.symm)
 rw [← e4]
 simpa using e3
theorem relV_ints {W:World} {a:Addr} {len cap:Nat} {zs:List Int} (h1:len≤cap) (h2:cap≤maxLen) (h3:zs.length=cap) (hc:∀ i,i < zs.length→W.cell? (a.add i)=some (.int .i64 (zs.getD i 0))) :
  RelV E0.T [] [] W (old W) (isl (zs.take len)) (.slice (some a) len cap):=by
 have hlen:((zs.take len).map fun n=>[iv n]).length=len:=by simp;omega
 have key:=RelD.sl (w:=W) (S:=old W) ((zs.take len).map fun n=>[iv n]) (some a) cap a.block a.off 1 (fun k=>.int .i64 (zs.getD k 0)) ?_ (by rw [hlen];exact h1) h2 (fun i c hi=>?_) (fun i j c x hi hj=>?_) (fun i j c x hi hj=>?_)
 ·rw [hlen] at key
  exact .d _ _ key
 ·intro hne
  have hz:0 < zs.length:=by
   rcases Nat.eq_zero_or_pos zs.length with h|h
   ·exact absurd (by simp [List.eq_nil_of_length_eq_zero h]) hne
   ·exact h
  have h0:=hc 0 hz
  have:a.spot=none:=by
   simp only [Addr.add,if_pos] at h0
   unfold World.cell? at h0
   split at h0
   ·cases hs:a.spot with
    | none=>rfl
    | some x=>rw [hs] at h0;simp at h0
   ·cases h0
  cases a
  simp only at this
  subst this
  rfl
 ·simp only [List.getElem?_map,Option.map_eq_some_iff] at hi
  obtain ⟨n,_,rfl⟩:=hi
  rfl
 ·simp only [List.getElem?_map,Option.map_eq_some_iff] at hi
  obtain ⟨n,hn,rfl⟩:=hi
  have hi2:=zfo hn
  simp only [List.length_take] at hi2
  have hj0:j=0:=by
   cases j with
   | zero=>rfl
   | succ j=>simp at hj
  subst hj0
  have h0:=hc i (by omega)
  have e:a.add i=⟨a.block,a.off+(i * 1+0),none⟩:=by
   unfold Addr.add
   split
   ·rename_i hi0
    subst hi0
    have:a.spot=none:=by
     simp only [Addr.add,if_pos] at h0
     unfold World.cell? at h0
     split at h0
     ·cases hs:a.spot with
      | none=>rfl
      | some x=>rw [hs] at h0;simp at h0
     ·cases h0
    cases a
    simp only at this
    subst this
    rfl
   ·simp
  rw [e] at h0
  refine ⟨zoO h0,?_,rfl⟩
  rw [h0];simp
 ·simp only [List.getElem?_map,Option.map_eq_some_iff] at hi
  obtain ⟨n,hn,rfl⟩:=hi
  have hj0:j=0:=by
   cases j with
   | zero=>rfl
   | succ j=>simp at hj
  subst hj0
  simp only [List.getElem?_cons_zero,Option.some.injEq] at hj
  subst hj
  have:zs.getD (i * 1+0) 0=n:=by
   rw [List.getElem?_take] at hn
   split at hn
   ·simp only [Nat.mul_one,Nat.add_zero,List.getD_eq_getElem?_getD,hn];rfl
   ·cases hn
  simp only [this]
  exact .v _ rfl
theorem relV_nil {W:World}:RelV E0.T [] [] W (old W) (isl []) (.slice none 0 0) :=
 .d _ _ (RelD.sl [] none 0 0 0 1 (fun _=>.int .i64 0) (fun h=>absurd rfl h) (Nat.le_refl _) (by decide) (fun i c h=>by simp at h) (fun i j c x h=>by simp at h) (fun i j c x h=>by simp at h))
theorem oneCell_ok {P:Program} {w:World} {r:Reach} {b:Nat} {u:TypeId} {y:Value} (h:Cell.okWide P w r b u y):y.oneCell'=true:=by
 have h2:∀ y,Cell.ok P w r b u y→y.oneCell'=true:=by
  intro y h
  unfold Cell.ok at h
  split at h <;> first|rfl|exact h.elim
 unfold Cell.okWide at h
 split at h <;> first|rfl|exact h2 _ h
theorem calls_of {f:FuncId} {args:List AV} {b:Bool} (h:zac E0 f args [] (bv b) []) (hgo:GoFn E0.P f) {W:World} {vs:List Value} (hglob:∀ g cs,globs g=some cs→RelD W (old W) (.dp cs) (.pointer (some ⟨g,0,none⟩))) (hargs:PW (RelV E0.T [] [] W (old W)) args vs) :
  Calls E0.P f vs.toArray W fun e W'=>e=.returned (.bool b)∧Below W.heap.size W W':=by
 have hrel:Rel E0 [] [] (old W) W:=⟨rfl,fun b cs hb=>by simp at hb,fun b e xs sh hb=>by simp at hb,fun b b' k k' g hb=>by simp at hb,fun b k g hb=>by simp at hb,fun a ha=>ha,fun b k g a hb=>by simp at hb,hglob⟩
 obtain ⟨fn,hf1,hf2,hf3⟩:=hgo
 have hp:∀ e W',Post E0 [] [] (old W) W (fun r' h''=>r'=bv b∧h''=[]) e W'→e=.returned (.bool b)∧Below W.heap.size W W':=by
  rintro e W' ⟨r,h',β',S',y,rfl,⟨rfl,rfl⟩,_,ex,rv⟩
  refine ⟨?_,ex.os,ex.tape,ex.output,ex.size,fun k hk=>ex.keep k hk fun b' k' hb=>by simp at hb⟩
  rw [rv.v_inv]
 rcases h [] (old W) W vs hrel hargs with ⟨_,hc⟩|⟨y,w',hrun,_⟩
 ·exact hc.mono hp
 ·exfalso
  simp only [callFunc,Sem.run_bind,Sem.run_pure,Result.andThen_ok,run_program,hf1,hf2,hf3,Bool.false_eq_true,if_false] at hrun
  cases hrun
end Go.AM
