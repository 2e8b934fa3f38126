/-
  Contracts of the program's functions, part 7.
-/
import Derived.Test.YtdofdnfkldbooaaGreatDoorFpG
import Derived.Carry
import Derived.ChangeSame
import Derived.Lib.LaidU8
import Derived.FnData
set_option maxRecDepth 100000
set_option maxHeartbeats 40000000
set_option linter.unusedSimpArgs false
set_option linter.unusedVariables false
namespace Go.AM
theorem zbm {p:Prop} (h:p:=by first|exact zpb|exact ActT.actF ‹_› Zo Zg|(subst hsx;exact zzb Zg Zg Zg ‹_› ‹_› (fun _=>hpt ‹_›))|exact zy9 Zg ‹_› (XOk.le (zkb (n:=3) (zds _ _) (by first|exact zfC (zcB ⟨by omega,by omega⟩)|exact zlo (ColT.is ((by assumption:_->ColT _ _ _) ‹_›)))) Zo)|exact zim Zg (.inr (.inl rfl)) (zwz ‹_›) (XOk.le (zkb (n:=2) (zds _ _) (zgU Zo Zo)) Zo) Zs all0|exact zim Zg (.inr (.inl rfl)) (zwz ‹_›) (XOk.le (zkb (n:=2) (zds _ _) (zgU Zo Zo)) Zo) Zs (all1 (XOk.le (zxs (n:=2) (zds _ _) (zgU Zo Zo) (zgU Zo Zo)) Zo))|exact zim Zg (zmR ‹_›).1 (zmR ‹_›).2 (XOk.le (n:=3) (by first|exact zfC (zcB ⟨by omega,by omega⟩)|exact zlo (ColT.is ((by assumption:_->ColT _ _ _) ‹_›))) Zo) Zs (all1 (XOk.le (zkb (n:=3) (zds _ _) (zds _ _)) Zo))|exact zim Zg (zmR ‹_›).1 (zmR ‹_›).2 (XOk.le (n:=3) (by first|exact zfC (zcB ⟨by omega,by omega⟩)|exact zlo (ColT.is ((by assumption:_->ColT _ _ _) ‹_›))) Zo) Zs (all1 (zkb (n:=5) (XOk.le (zkb (n:=3) (zds _ _) (zds _ _)) Zo) (XT.ok ‹_›)))|exact zza Zg (XOk.le (n:=3) (by first|exact zfC (zcB ⟨by omega,by omega⟩)|exact zlo (ColT.is ((by assumption:_->ColT _ _ _) ‹_›))) Zo) (XOk.le (zfC (n:=3) hnm) Zo)):p:=h
theorem zav {p:Prop} (h:p:=by first|assumption|omega|exact hp.less|exact hp.few1|exact hp.cols|exact hp.short|exact hp.less.less|exact insOkX hp (zbO (zmR ‹_›).1).few|(simp only [List.length_map] at *;omega)|(simp;done)):p:=h
structure AcTi (a:Ac):Prop where
 rows:a.rows.length<=3
 row:∀ r∈a.rows,r.length<=4
 query:a.query.length<=1
 items:∀ q∈a.query,q.items.length<=8/\q.wh.length<=1
 sets:a.sets.length<=2
 wh:a.wh.length<=1
structure AftA (a:Ac):Prop where
 kind:1<=a.kind/\a.kind<=4
 tab:a.kind<=3->TabN a.table
 nos:a.kind≠2->a.sets=[]
 cols:∀ s∈a.sets,∃ c∈(zaj a.table).cols,c.name=s.col
inductive BefA (tb:Str) (ea:Bool) (ev:Int):Ac->Prop
 | abort {tx:Str}:BefA tb ea ev (Ac.mk 4 ⟨#[]⟩ [] [] [] [] tx)
 | set {c:Col} {e:X} {frs:List Fr}:ea=true->ev≠3->c∈(zaj tb).cols->XT zao 6 frs c.type e->BefA tb ea ev (Ac.mk 5 ⟨#[]⟩ [] [] [⟨c.name,e⟩] [] ⟨#[]⟩)
structure ActF (tb:Str) (bf ea:Bool) (ev:Int) (a:Ac):Prop where
 ok:AcOk 6 a
 ti:AcTi a
 set:zo0 a
 aft:bf=false->AftA a
 bef:bf=true->BefA tb ea ev a
theorem AcOk.leT {n m:Nat} {a:Ac} (h:AcOk n a) (hm:n<=m):AcOk m a :=
 ⟨h.rows,fun r hr=>⟨(h.row r hr).1,fun x hx=>((h.row r hr).2 x hx).le hm⟩,h.query,fun q hq=>⟨(h.qs q hq).items,(h.qs q hq).wh,fun x hx=>((h.qs q hq).hi x hx).le hm,fun x hx=>((h.qs q hq).hw x hx).le hm⟩,h.sets,fun s hs=>(h.set s hs).le hm,h.wh,fun x hx=>(h.w x hx).le hm⟩
section
variable {tbs : List Sch} {M : Nat} {frs : List Fr} {s : Sch} {a : Ac} {q : Qy} {tb : Str} {bf ea : Bool} {ev : Int}
theorem zpo {cols:List Col} {its:List X} (h:zdI tbs M frs cols cols.length its) {x:X} (hx:x∈its):∃ c∈cols,XT tbs M frs c.type x:=by
 obtain ⟨j,hj⟩:=List.getElem?_of_mem hx
 have:=zfM hj
 obtain ⟨c,hc⟩:=zbK (l:=cols) (i:=j) (by have:=h.1;omega)
 exact ⟨c,List.mem_of_getElem? hc,h.2 j c x hc hj⟩
theorem zuc (hs:s∈zao):2<=s.cols.length/\s.cols.length<=4:=by
 simp only [zao,List.mem_cons,List.not_mem_nil,or_false] at hs
 rcases hs with rfl|rfl|rfl <;> simp
theorem zhu (hs:s∈zao):TabN s.name/\zaj s.name=s:=by
 simp only [zao,List.mem_cons,List.not_mem_nil,or_false] at hs
 rcases hs with rfl|rfl|rfl
 ·exact ⟨.inr (.inr rfl),by rw [zj7];rfl⟩
 ·exact ⟨.inl rfl,by rw [zld];rfl⟩
 ·exact ⟨.inr (.inl rfl),by rw [zle];rfl⟩
theorem QyT.okT (hs:s∈zao) (h:QyT tbs M frs s q):QW M q/\q.items.length<=8/\q.wh.length<=1:=by
 cases h with
 | mk hf hc hw hx =>
  have h1:=hc.1
  have h2:=zuc hs
  refine ⟨⟨?_,?_,fun x h=>?_,fun x h=>(hx x h).ok⟩,?_,hw⟩
  ·simp only [Few,Qy.items_mk];omega
  ·simp only [Few,Qy.wh_mk];omega
  ·obtain ⟨c,_,h1⟩:=zpo hc h;exact h1.ok
  ·simp only [Qy.items_mk];omega
theorem ActT.actF (h:ActT tbs M frs a) (hM:M<=6) (hb:bf=false):ActF tb bf ea ev a:=by
 cases h with
 | @rows s rows hs h1 h2 hr =>
  have hn:=zhu hs
  have h3:=zuc hs
  refine ⟨AcOk.leT (n:=M) ⟨by simp only [Few];omega,fun r h=>⟨?_,fun x hx=>?_⟩,by simp,by simp,by simp,by simp,by simp,by simp⟩ hM,⟨h2,fun r h=>by have:=(hr r h).1;omega,by simp,by simp,by simp,by simp⟩,fun h5=>by simp at h5,fun _=>⟨by simp,fun _=>hn.1,fun _=>rfl,by simp⟩,fun h=>by rw [hb] at h;cases h⟩
  ·have h3:=(hr r h).1;simp only [Few];omega
  ·obtain ⟨c,_,h1⟩:=zpo (hr r h) hx;exact h1.ok
 | @copy s q hs hq =>
  have hn:=zhu hs
  have h3:=hq.okT hs
  refine ⟨AcOk.leT (n:=M) ⟨by simp,by simp,by simp,fun x hx=>?_,by simp,by simp,by simp,by simp⟩ hM,⟨by simp,by simp,by simp,fun x hx=>?_,by simp,by simp⟩,fun h5=>by simp at h5,fun _=>⟨by simp,fun _=>hn.1,fun _=>rfl,by simp⟩,fun h=>by rw [hb] at h;cases h⟩
  ·simp only [List.mem_singleton] at hx;subst hx;exact h3.1
  ·simp only [List.mem_singleton] at hx;subst hx;exact h3.2
 | @upd s first i sets wh hs h1 hI hw hx =>
  have hn:=zhu hs
  refine ⟨AcOk.leT (n:=M) ⟨by simp,by simp,by simp,by simp,by have:=hI.len;have:=hI.two;simp only [Few];omega,fun x hx=>?_,by simp only [Few];omega,fun x h=>(hx x h).ok⟩ hM,⟨by simp,by simp,by simp,by simp,by have:=hI.len;have:=hI.two;simp only;omega,hw⟩,fun h5=>by simp at h5,fun _=>⟨by simp,fun _=>hn.1,fun h=>by simp at h,fun x hx=>?_⟩,fun h=>by rw [hb] at h;cases h⟩
  ·obtain ⟨j,hj⟩:=List.getElem?_of_mem hx
   obtain ⟨c,_,_,h3⟩:=hI.at_ j x hj
   exact h3.ok
  ·obtain ⟨j,hj⟩:=List.getElem?_of_mem hx
   obtain ⟨c,h1,h2,_⟩:=hI.at_ j x hj
   exact ⟨c,by rw [hn.2];exact List.mem_of_getElem? h1,h2.symm⟩
 | @del s wh hs hw hx =>
  have hn:=zhu hs
  exact ⟨AcOk.leT (n:=M) ⟨by simp,by simp,by simp,by simp,by simp,by simp,by simp only [Few];omega,fun x h=>(hx x h).ok⟩ hM,⟨by simp,by simp,by simp,by simp,by simp,hw⟩,fun h5=>by simp at h5,fun _=>⟨by simp,fun _=>hn.1,fun _=>rfl,by simp⟩,fun h=>by rw [hb] at h;cases h⟩
theorem zpb {tx:Str}:ActF tb bf ea ev (Ac.mk 4 ⟨#[]⟩ [] [] [] [] tx) :=
 ⟨⟨by simp,by simp,by simp,by simp,by simp,by simp,by simp,by simp⟩,⟨by simp,by simp,by simp,by simp,by simp,by simp⟩,fun h=>by simp at h,fun _=>⟨by simp,fun h=>by simp at h,fun _=>rfl,by simp⟩,fun _=>.abort⟩
theorem zzb {c:Col} {e:X} {i:Nat} (hb:bf=true) (he:(!ea)=false) (hv:(ev==3)=false) (hc:(zaj tb).cols[i]?=some c) (hx:XT tbs 4 frs c.type e) (ht:bf=true->tbs=zao):ActF tb bf ea ev (Ac.mk 5 ⟨#[]⟩ [] [] [⟨c.name,e⟩] [] ⟨#[]⟩):=by
 have h6:=hx.le (show 4<=6 by omega)
 refine ⟨⟨by simp,by simp,by simp,by simp,by simp,?_,by simp,by simp⟩,⟨by simp,by simp,by simp,by simp,by simp,by simp⟩,fun _=>⟨_,rfl⟩,fun h=>(by rw [hb] at h;cases h),fun h=>.set (frs:=frs) (by simpa using he) (by simpa using hv) (List.mem_of_getElem? hc) (ht h ▸ h6)⟩
 simpa using h6.ok
theorem zza {x y:X} (hb:bf=false) (hx:XOk 6 x) (hy:XOk 6 y):ActF tb bf ea ev (Ac.mk 1 ⟨#[108,111,103]⟩ [[x,y]] [] [] [] ⟨#[]⟩):=by
 refine ⟨⟨by simp,fun r hr=>?_,by simp,by simp,by simp,by simp,by simp,by simp⟩,⟨by simp,fun r hr=>?_,by simp,by simp,by simp,by simp⟩,fun h=>by simp at h,fun _=>⟨by simp,fun _=>.inr (.inr rfl),fun _=>rfl,by simp⟩,fun h=>by rw [hb] at h;cases h⟩
 ·simp only [List.mem_singleton] at hr;subst hr
  refine ⟨by simp,fun z hz=>?_⟩
  simp only [List.mem_cons,List.not_mem_nil,or_false] at hz
  rcases hz with rfl|rfl <;> assumption
 ·simp only [List.mem_singleton] at hr;subst hr;simp
theorem zim {t c:Str} {x:X} {wh:List X} (hb:bf=false) (ht:TabN t) (hc:∃ k∈(zaj t).cols,k.name=c) (hx:XOk 6 x) (hl:wh.length<=1) (hw:∀ y∈wh,XOk 6 y):ActF tb bf ea ev (Ac.mk 2 t [] [] [⟨c,x⟩] wh ⟨#[]⟩):=by
 refine ⟨⟨by simp,by simp,by simp,by simp,by simp,by simpa using hx,by simp only [Few];omega,hw⟩,⟨by simp,by simp,by simp,by simp,by simp,hl⟩,fun h=>by simp at h,fun _=>⟨by simp,fun _=>ht,fun h=>by simp at h,by simpa using hc⟩,fun h=>by rw [hb] at h;cases h⟩
theorem zy9 {t:Str} {y:X} (hb:bf=false) (ht:TabN t) (hw:XOk 6 y):ActF tb bf ea ev (Ac.mk 3 t [] [] [] [y] ⟨#[]⟩):=by
 refine ⟨⟨by simp,by simp,by simp,by simp,by simp,by simp,by simp,by simpa using hw⟩,⟨by simp,by simp,by simp,by simp,by simp,by simp⟩,fun h=>by simp at h,fun _=>⟨by simp,fun _=>ht,fun h=>rfl,by simp⟩,fun h=>by rw [hb] at h;cases h⟩
end
theorem zwz {k:Nat} (h:(k:Int) < 2):∃ c∈(zaj ⟨#[117]⟩).cols,c.name=nmAt k:=by
 rw [zle]
 have:k=0\/k=1:=by omega
 rcases this with rfl|rfl
 ·exact ⟨⟨⟨#[110]⟩,1,true,false⟩,by simp [schU],rfl⟩
 ·exact ⟨⟨⟨#[109]⟩,1,false,false⟩,by simp [schU],rfl⟩
theorem zmR {k:Nat} (h:(k:Int) < 2):TabN (tuAt k)/\∃ c∈(zaj (tuAt k)).cols,c.name=(⟨#[110]⟩:Str):=by
 have:k=0\/k=1:=by omega
 rcases this with rfl|rfl
 ·exact ⟨.inl rfl,by show ∃ c∈(zaj ⟨#[116]⟩).cols,_;rw [zld];exact ⟨⟨⟨#[110]⟩,1,false,false⟩,by simp [schT],rfl⟩⟩
 ·exact ⟨.inr (.inl rfl),by show ∃ c∈(zaj ⟨#[117]⟩).cols,_;rw [zle];exact ⟨⟨⟨#[110]⟩,1,true,false⟩,by simp [schU],rfl⟩⟩
theorem dpt_1:dpt 2=1:=by decide
theorem dpt_2:dpt 3=2:=by decide
theorem za3 (t:Tp) (p:Pl) (w:Int) (hp:p.OkN 2):∃ (e:X) (t':Tp),XT p.tbs 4 p.frs w e/\zab E0 S.Ac [.p 0 0,p.av,iv w,iv 1] [.box t.cells] e.av [.box t'.cells]:=by
 have h:=zkD 2 Zo t p w hp
 rw [dpt_1] at h
 exact h
theorem zbP (t:Tp) (p:Pl) (w:Int) (hp:p.OkN 3):∃ (e:X) (t':Tp),XT p.tbs 5 p.frs w e/\zab E0 S.Ac [.p 0 0,p.av,iv w,iv 2] [.box t.cells] e.av [.box t'.cells]:=by
 have h:=zkD 3 Zo t p w hp
 rw [dpt_2] at h
 exact h
theorem za7 (t:Tp) (p:Pl) (hp:p.OkN 3):∃ (r:Ac) (t':Tp),ActT p.tbs 4 p.frs r/\zab E0 S.At [.p 0 0,p.av,iv 1] [.box t.cells] r.av [.box t'.cells]:=by
 have h:=zkx t p 1 4 2 hp hp.less zhG ⟨by omega⟩ zb8 (by have h:=zkD 2 Zo;rw [dpt_1] at h;exact h)
 exact h
theorem insOkX {n:Nat} {p:Pl} {s:Sch} (h:p.OkN (n+1)) (hs:Few s.cols):(plIn p s).OkN n:=by
 refine ⟨by have:=h.frs;simp [plIn];omega,fun f hf=>?_,h.ne,h.few,h.tcols⟩
 simp only [plIn,List.mem_append,List.mem_singleton] at hf
 rcases hf with hf|rfl
 ·exact h.cols f hf
 ·exact hs
theorem zky (t:Tp) (x:Tg) (s:Sch) (p:Pl) (hp:p.OkN 4) (hsx:s=zaj x.table) (hpt:x.before=true->p.tbs=zao) (hs:Few s.cols) (hpos:Pos (((s.cols.map Col.cells).length:Nat):Int)) (hsh:zac zao) (hnm:V.Good ⟨3,0,x.name⟩):∃ (r:Ac) (t':Tp),ActF x.table x.before x.each x.event r/\zab E0 S.Ag [.p 0 0,x.av,s.av,p.av] [.box t.cells] r.av [.box t'.cells]:=by
 obtain ⟨b1,t1,c1⟩:=(zam t 9 zav)
 rcases (Bool.eq_false_or_eq_true b1).symm with h2|h2
 ·cases h3:x.before
  ·obtain ⟨a4,t4,q4,c4⟩:=(zag t1 5 zav)
   obtain ⟨x5,ok5,t5,q5,c5⟩:=(zb8 t4 (Pl.mk p.frs []) 1 zav zav)
   let p_1:List St:=[sl [0] c1,sg h2,sb h3,sb h3,sl [0] c4,sc (zaT (V.mk 1 (a4:Int) Zs0)),sl [0] c5]
   rcases (Bool.eq_false_or_eq_true ok5).symm with h6|h6
   ·obtain ⟨a7,t7,q7,c7⟩:=(zag t5 7 zav)
    cases h8:(a7:Int)==0
    ·cases h9:(a7:Int)==1
     ·cases h10:(a7:Int)==2
      ·let p_2:List St:=p_1++[sb h6,sl [0] c7,sb h8,sb h9,sb h10]
       cases h11:(a7:Int)==3
       ·cases h12:(a7:Int)==4
        ·obtain ⟨r13,t13,q13,c13⟩:=(za7 t7 p zav)
         exact ⟨r13,t13,zbm,wk At.Ag (p_2++[sb h11,sb h12,sl [0] c13]) kr⟩
        ·obtain ⟨w14,t14,q14,c14⟩:=(zcM t7)
         exact ⟨Ac.mk 3 w14 [] [] [] [xBin 5 (xCol Zs0 Zsn) (xLit (V.mk 1 (a4:Int) Zs0))] Zs0,t14,zbm,(by (try simp only [Ac.av,Ac.cells,List.map_cons,List.map_nil,Se.cells,zaM,zaQ,zaN,zaS]);exact wk At.Ag (p_2++[sb h11,sb h12,sd [(1,[sl [0] c14]),(2,[sc (zaO Zs0 Zsn)]),(4,[sc (zaC 5 (xCol Zs0 Zsn) (xLit (V.mk 1 (a4:Int) Zs0)))])]]) kr)⟩
       ·cases h15:x.each
        ·obtain ⟨r16,t16,q16,c16⟩:=(za7 t7 p zav)
         exact ⟨r16,t16,zbm,wk At.Ag (p_2++[sb h11,sb h15,sl [0] c16]) kr⟩
        ·cases h17:!ByteArray.toList x.table==Zsl.toList
         ·obtain ⟨r18,t18,q18,c18⟩:=(za7 t7 p zav)
          exact ⟨r18,t18,zbm,wk At.Ag (p_2++[sb h11,sg h15,sb h17,sl [0] c18]) kr⟩
         ·cases h19:x.event==3
          ·obtain ⟨a20,t20,q20,c20⟩:=(zag t7 2 zav)
           obtain ⟨b21,t21,c21⟩:=(zam t20 3 zav)
           let p_3:List St:=p_2++[sb h11,sg h15,sb h17,sb h19,sl [0] c20,se (znD a20 zav),sc (zaO Zs0 Zsi),sc (zaO ZsN Zsi),sc (zaC 3 (xCol Zs0 Zsi) (xCol ZsN Zsi)),sl [0] c21]
           rcases (Bool.eq_false_or_eq_true b21).symm with h22|h22
           ·exact ⟨Ac.mk 2 (tuAt a20) [] [] [Se.mk Zsn (xLit (V.mk 1 (a4:Int) Zs0))] [xBin 3 (xCol Zs0 Zsi) (xCol ZsN Zsi)] Zs0,t21,zbm,(by (try simp only [Ac.av,Ac.cells,List.map_cons,List.map_nil,Se.cells,zaM,zaQ,zaN,zaS]);exact wk At.Ag (p_3++[sb h22]) kr)⟩
           ·obtain ⟨e23,t23,q23,c23⟩:=(zbP t21 (plIn p (zaj (tuAt a20))) 2 zav)
            exact ⟨Ac.mk 2 (tuAt a20) [] [] [Se.mk Zsn (xLit (V.mk 1 (a4:Int) Zs0))] [xBin 2 (xBin 3 (xCol Zs0 Zsi) (xCol ZsN Zsi)) e23] Zs0,t23,zbm,(by (try simp only [Ac.av,Ac.cells,List.map_cons,List.map_nil,Se.cells,zaM,zaQ,zaN,zaS]);exact wk At.Ag (p_3++[sb h22,sd [(4,[sc (zbY (tuAt a20) zav)]),(5,[sc (zbX p (zaj (tuAt a20)) zav)]),(6,[sl [0] c23]),(7,[sc (zaC 2 (xBin 3 (xCol Zs0 Zsi) (xCol ZsN Zsi)) e23)])]]) kr)⟩
          ·obtain ⟨a24,t24,q24,c24⟩:=(zag t7 2 zav)
           obtain ⟨b25,t25,c25⟩:=(zam t24 3 zav)
           let p_4:List St:=p_2++[sb h11,sg h15,sb h17,sb h19,sl [0] c24,se (znD a24 zav),sc (zaO Zs0 Zsi),sc (zaO ZsO Zsi),sc (zaC 3 (xCol Zs0 Zsi) (xCol ZsO Zsi)),sl [0] c25]
           rcases (Bool.eq_false_or_eq_true b25).symm with h26|h26
           ·exact ⟨Ac.mk 2 (tuAt a24) [] [] [Se.mk Zsn (xLit (V.mk 1 (a4:Int) Zs0))] [xBin 3 (xCol Zs0 Zsi) (xCol ZsO Zsi)] Zs0,t25,zbm,(by (try simp only [Ac.av,Ac.cells,List.map_cons,List.map_nil,Se.cells,zaM,zaQ,zaN,zaS]);exact wk At.Ag (p_4++[sb h26]) kr)⟩
           ·obtain ⟨e27,t27,q27,c27⟩:=(zbP t25 (plIn p (zaj (tuAt a24))) 2 zav)
            exact ⟨Ac.mk 2 (tuAt a24) [] [] [Se.mk Zsn (xLit (V.mk 1 (a4:Int) Zs0))] [xBin 2 (xBin 3 (xCol Zs0 Zsi) (xCol ZsO Zsi)) e27] Zs0,t27,zbm,(by (try simp only [Ac.av,Ac.cells,List.map_cons,List.map_nil,Se.cells,zaM,zaQ,zaN,zaS]);exact wk At.Ag (p_4++[sb h26,sd [(4,[sc (zbY (tuAt a24) zav)]),(5,[sc (zbX p (zaj (tuAt a24)) zav)]),(6,[sl [0] c27]),(7,[sc (zaC 2 (xBin 3 (xCol Zs0 Zsi) (xCol ZsO Zsi)) e27)])]]) kr)⟩
      ·obtain ⟨a28,t28,q28,c28⟩:=(zag t7 2 zav)
       obtain ⟨a29,t29,q29,c29⟩:=(zag t28 2 zav)
       obtain ⟨a30,t30,q30,c30⟩:=(zag t29 3 zav)
       obtain ⟨a31,t31,q31,c31⟩:=(zaW t30)
       exact ⟨Ac.mk 2 Zsu [] [] [Se.mk (nmAt a28) (xBin (↑(9+a29):Int) (xCol Zs0 (nmAt a28)) (xNum (↑(1+a30):Int)))] [xBtw (nmAt a28) a31 9] Zs0,t31,zbm,(by (try simp only [Ac.av,Ac.cells,List.map_cons,List.map_nil,Se.cells,zaM,zaQ,zaN,zaS]);exact wk At.Ag (p_1++[sb h6,sl [0] c7,sb h8,sb h9,sb h10,sl [0] c28,se (zg1 a28 zav),sl [0] c29,si (zaU (t:=9+(a29:Int)) (n:=9+a29) Zo Zo),sc (zaO Zs0 (nmAt a28)),sl [0] c30,si (zaU (t:=1+(a30:Int)) (n:=1+a30) Zo Zo),sc (za2 ((↑(1+a30):Int)) zav),sc (zaC ((↑(9+a29):Int)) (xCol Zs0 (nmAt a28)) (xNum (↑(1+a30):Int))),sl [0] c31,sc (zd9 (nmAt a28) a31 9 zav zav)]) kr)⟩
     ·obtain ⟨a32,t32,q32,c32⟩:=(zag t7 2 zav)
      obtain ⟨a33,t33,q33,c33⟩:=(zag t32 2 zav)
      obtain ⟨a34,t34,q34,c34⟩:=(zag t33 2 zav)
      obtain ⟨a35,t35,q35,c35⟩:=(zag t34 3 zav)
      exact ⟨Ac.mk 2 Zsu [] [] [Se.mk (nmAt a32) (xBin (↑(9+a33):Int) (xCol Zs0 (nmAt a34)) (xNum (↑(1+a35):Int)))] [] Zs0,t35,zbm,(by (try simp only [Ac.av,Ac.cells,List.map_cons,List.map_nil,Se.cells,zaM,zaQ,zaN,zaS]);exact wk At.Ag (p_1++[sb h6,sl [0] c7,sb h8,sb h9,sd [(2,[sl [0] c32]),(3,[se (zg1 a32 zav)]),(6,[sl [0] c33]),(7,[si (zaU (t:=9+(a33:Int)) (n:=9+a33) Zo Zo)]),(10,[sl [0] c34]),(11,[se (zg1 a34 zav)]),(13,[sc (zaO Zs0 (nmAt a34))]),(15,[sl [0] c35]),(16,[si (zaU (t:=1+(a35:Int)) (n:=1+a35) Zo Zo)]),(17,[sc (za2 ((↑(1+a35):Int)) zav)]),(18,[sc (zaC ((↑(9+a33):Int)) (xCol Zs0 (nmAt a34)) (xNum (↑(1+a35):Int)))])]]) kr)⟩
    ·exact ⟨Ac.mk 1 Zsl [[xLit (V.mk 1 (a4:Int) Zs0),xLit (V.mk 3 0 x.name)]] [] [] [] Zs0,t7,zbm,(by (try simp only [Ac.av,Ac.cells,List.map_cons,List.map_nil,Se.cells,zaM,zaQ,zaN,zaS]);exact wk At.Ag (p_1++[sb h6,sl [0] c7,sb h8,sd [(4,[sc (zaT (V.mk 3 0 x.name))])]]) kr)⟩
   ·obtain ⟨b36,t36,c36⟩:=(zam t5 2 zav)
    rcases (Bool.eq_false_or_eq_true b36).symm with h37|h37
    ·obtain ⟨a38,t38,q38,c38⟩:=(zag t36 7 zav)
     let p_5:List St:=p_1++[sg h6,sl [0] c36,sb h37,sl [0] c38]
     cases h39:(a38:Int)==0
     ·cases h40:(a38:Int)==1
      ·cases h41:(a38:Int)==2
       ·cases h42:(a38:Int)==3
        ·cases h43:(a38:Int)==4
         ·obtain ⟨r44,t44,q44,c44⟩:=(za7 t38 p zav)
          exact ⟨r44,t44,zbm,wk At.Ag (p_5++[sb h39,sb h40,sb h41,sb h42,sb h43,sl [0] c44]) kr⟩
         ·obtain ⟨w45,t45,q45,c45⟩:=(zcM t38)
          exact ⟨Ac.mk 3 w45 [] [] [] [xBin 5 (xCol Zs0 Zsn) (xLit (V.mk 1 (a4:Int) Zs0))] Zs0,t45,zbm,(by (try simp only [Ac.av,Ac.cells,List.map_cons,List.map_nil,Se.cells,zaM,zaQ,zaN,zaS]);exact wk At.Ag (p_5++[sb h39,sb h40,sb h41,sb h42,sb h43,sd [(1,[sl [0] c45]),(2,[sc (zaO Zs0 Zsn)]),(4,[sc (zaC 5 (xCol Zs0 Zsn) (xLit (V.mk 1 (a4:Int) Zs0)))])]]) kr)⟩
        ·cases h46:x.each
         ·obtain ⟨r47,t47,q47,c47⟩:=(za7 t38 p zav)
          exact ⟨r47,t47,zbm,wk At.Ag (p_5++[sb h39,sb h40,sb h41,sb h42,sb h46,sl [0] c47]) kr⟩
         ·let p_6:List St:=p_5++[sb h39,sb h40,sb h41,sb h42,sg h46]
          cases h48:!ByteArray.toList x.table==Zsl.toList
          ·obtain ⟨r49,t49,q49,c49⟩:=(za7 t38 p zav)
           exact ⟨r49,t49,zbm,wk At.Ag (p_6++[sb h48,sl [0] c49]) kr⟩
          ·cases h50:x.event==3
           ·obtain ⟨a51,t51,q51,c51⟩:=(zag t38 2 zav)
            obtain ⟨b52,t52,c52⟩:=(zam t51 3 zav)
            let p_7:List St:=p_6++[sb h48,sb h50,sl [0] c51,se (znD a51 zav),sc (zaO Zs0 Zsi),sc (zaO ZsN Zsi),sc (zaC 3 (xCol Zs0 Zsi) (xCol ZsN Zsi)),sl [0] c52]
            rcases (Bool.eq_false_or_eq_true b52).symm with h53|h53
            ·exact ⟨Ac.mk 2 (tuAt a51) [] [] [Se.mk Zsn (xLit (V.mk 1 (a4:Int) Zs0))] [xBin 3 (xCol Zs0 Zsi) (xCol ZsN Zsi)] Zs0,t52,zbm,(by (try simp only [Ac.av,Ac.cells,List.map_cons,List.map_nil,Se.cells,zaM,zaQ,zaN,zaS]);exact wk At.Ag (p_7++[sb h53]) kr)⟩
            ·obtain ⟨e54,t54,q54,c54⟩:=(zbP t52 (plIn p (zaj (tuAt a51))) 2 zav)
             exact ⟨Ac.mk 2 (tuAt a51) [] [] [Se.mk Zsn (xLit (V.mk 1 (a4:Int) Zs0))] [xBin 2 (xBin 3 (xCol Zs0 Zsi) (xCol ZsN Zsi)) e54] Zs0,t54,zbm,(by (try simp only [Ac.av,Ac.cells,List.map_cons,List.map_nil,Se.cells,zaM,zaQ,zaN,zaS]);exact wk At.Ag (p_7++[sb h53,sd [(4,[sc (zbY (tuAt a51) zav)]),(5,[sc (zbX p (zaj (tuAt a51)) zav)]),(6,[sl [0] c54]),(7,[sc (zaC 2 (xBin 3 (xCol Zs0 Zsi) (xCol ZsN Zsi)) e54)])]]) kr)⟩
           ·obtain ⟨a55,t55,q55,c55⟩:=(zag t38 2 zav)
            obtain ⟨b56,t56,c56⟩:=(zam t55 3 zav)
            let p_8:List St:=p_6++[sb h48,sb h50,sl [0] c55,se (znD a55 zav),sc (zaO Zs0 Zsi),sc (zaO ZsO Zsi),sc (zaC 3 (xCol Zs0 Zsi) (xCol ZsO Zsi)),sl [0] c56]
            rcases (Bool.eq_false_or_eq_true b56).symm with h57|h57
            ·exact ⟨Ac.mk 2 (tuAt a55) [] [] [Se.mk Zsn (xLit (V.mk 1 (a4:Int) Zs0))] [xBin 3 (xCol Zs0 Zsi) (xCol ZsO Zsi)] Zs0,t56,zbm,(by (try simp only [Ac.av,Ac.cells,List.map_cons,List.map_nil,Se.cells,zaM,zaQ,zaN,zaS]);exact wk At.Ag (p_8++[sb h57]) kr)⟩
            ·obtain ⟨e58,t58,q58,c58⟩:=(zbP t56 (plIn p (zaj (tuAt a55))) 2 zav)
             exact ⟨Ac.mk 2 (tuAt a55) [] [] [Se.mk Zsn (xLit (V.mk 1 (a4:Int) Zs0))] [xBin 2 (xBin 3 (xCol Zs0 Zsi) (xCol ZsO Zsi)) e58] Zs0,t58,zbm,(by (try simp only [Ac.av,Ac.cells,List.map_cons,List.map_nil,Se.cells,zaM,zaQ,zaN,zaS]);exact wk At.Ag (p_8++[sb h57,sd [(4,[sc (zbY (tuAt a55) zav)]),(5,[sc (zbX p (zaj (tuAt a55)) zav)]),(6,[sl [0] c58]),(7,[sc (zaC 2 (xBin 3 (xCol Zs0 Zsi) (xCol ZsO Zsi)) e58)])]]) kr)⟩
       ·obtain ⟨a59,t59,q59,c59⟩:=(zag t38 2 zav)
        obtain ⟨a60,t60,q60,c60⟩:=(zag t59 2 zav)
        obtain ⟨a61,t61,q61,c61⟩:=(zag t60 3 zav)
        obtain ⟨a62,t62,q62,c62⟩:=(zaW t61)
        exact ⟨Ac.mk 2 Zsu [] [] [Se.mk (nmAt a59) (xBin (↑(9+a60):Int) (xCol Zs0 (nmAt a59)) (xNum (↑(1+a61):Int)))] [xBtw (nmAt a59) a62 9] Zs0,t62,zbm,(by (try simp only [Ac.av,Ac.cells,List.map_cons,List.map_nil,Se.cells,zaM,zaQ,zaN,zaS]);exact wk At.Ag (p_5++[sb h39,sb h40,sb h41,sl [0] c59,se (zg1 a59 zav),sl [0] c60,si (zaU (t:=9+(a60:Int)) (n:=9+a60) Zo Zo),sc (zaO Zs0 (nmAt a59)),sl [0] c61,si (zaU (t:=1+(a61:Int)) (n:=1+a61) Zo Zo),sc (za2 ((↑(1+a61):Int)) zav),sc (zaC ((↑(9+a60):Int)) (xCol Zs0 (nmAt a59)) (xNum (↑(1+a61):Int))),sl [0] c62,sc (zd9 (nmAt a59) a62 9 zav zav)]) kr)⟩
      ·obtain ⟨a63,t63,q63,c63⟩:=(zag t38 2 zav)
       obtain ⟨a64,t64,q64,c64⟩:=(zag t63 2 zav)
       obtain ⟨a65,t65,q65,c65⟩:=(zag t64 2 zav)
       obtain ⟨a66,t66,q66,c66⟩:=(zag t65 3 zav)
       exact ⟨Ac.mk 2 Zsu [] [] [Se.mk (nmAt a63) (xBin (↑(9+a64):Int) (xCol Zs0 (nmAt a65)) (xNum (↑(1+a66):Int)))] [] Zs0,t66,zbm,(by (try simp only [Ac.av,Ac.cells,List.map_cons,List.map_nil,Se.cells,zaM,zaQ,zaN,zaS]);exact wk At.Ag (p_5++[sb h39,sb h40,sd [(2,[sl [0] c63]),(3,[se (zg1 a63 zav)]),(6,[sl [0] c64]),(7,[si (zaU (t:=9+(a64:Int)) (n:=9+a64) Zo Zo)]),(10,[sl [0] c65]),(11,[se (zg1 a65 zav)]),(13,[sc (zaO Zs0 (nmAt a65))]),(15,[sl [0] c66]),(16,[si (zaU (t:=1+(a66:Int)) (n:=1+a66) Zo Zo)]),(17,[sc (za2 ((↑(1+a66):Int)) zav)]),(18,[sc (zaC ((↑(9+a64):Int)) (xCol Zs0 (nmAt a65)) (xNum (↑(1+a66):Int)))])]]) kr)⟩
     ·exact ⟨Ac.mk 1 Zsl [[xLit (V.mk 1 (a4:Int) Zs0),xLit (V.mk 3 0 x.name)]] [] [] [] Zs0,t38,zbm,(by (try simp only [Ac.av,Ac.cells,List.map_cons,List.map_nil,Se.cells,zaM,zaQ,zaN,zaS]);exact wk At.Ag (p_5++[sb h39,sd [(4,[sc (zaT (V.mk 3 0 x.name))])]]) kr)⟩
    ·obtain ⟨a67,t67,q67,c67⟩:=(zag t36 7 zav)
     let p_9:List St:=p_1++[sg h6,sl [0] c36,sb h37,sl [0] c67]
     cases h68:(a67:Int)==0
     ·cases h69:(a67:Int)==1
      ·cases h70:(a67:Int)==2
       ·cases h71:(a67:Int)==3
        ·cases h72:(a67:Int)==4
         ·obtain ⟨r73,t73,q73,c73⟩:=(za7 t67 p zav)
          exact ⟨r73,t73,zbm,wk At.Ag (p_9++[sb h68,sb h69,sb h70,sb h71,sb h72,sl [0] c73]) kr⟩
         ·obtain ⟨w74,t74,q74,c74⟩:=(zcM t67)
          exact ⟨Ac.mk 3 w74 [] [] [] [xBin 5 (xCol Zs0 Zsn) x5] Zs0,t74,zbm,(by (try simp only [Ac.av,Ac.cells,List.map_cons,List.map_nil,Se.cells,zaM,zaQ,zaN,zaS]);exact wk At.Ag (p_9++[sb h68,sb h69,sb h70,sb h71,sb h72,sd [(1,[sl [0] c74]),(2,[sc (zaO Zs0 Zsn)]),(4,[sc (zaC 5 (xCol Zs0 Zsn) x5)])]]) kr)⟩
        ·cases h75:x.each
         ·obtain ⟨r76,t76,q76,c76⟩:=(za7 t67 p zav)
          exact ⟨r76,t76,zbm,wk At.Ag (p_9++[sb h68,sb h69,sb h70,sb h71,sb h75,sl [0] c76]) kr⟩
         ·let p_10:List St:=p_9++[sb h68,sb h69,sb h70,sb h71,sg h75]
          cases h77:!ByteArray.toList x.table==Zsl.toList
          ·obtain ⟨r78,t78,q78,c78⟩:=(za7 t67 p zav)
           exact ⟨r78,t78,zbm,wk At.Ag (p_10++[sb h77,sl [0] c78]) kr⟩
          ·cases h79:x.event==3
           ·obtain ⟨a80,t80,q80,c80⟩:=(zag t67 2 zav)
            obtain ⟨b81,t81,c81⟩:=(zam t80 3 zav)
            let p_11:List St:=p_10++[sb h77,sb h79,sl [0] c80,se (znD a80 zav),sc (zaO Zs0 Zsi),sc (zaO ZsN Zsi),sc (zaC 3 (xCol Zs0 Zsi) (xCol ZsN Zsi)),sl [0] c81]
            rcases (Bool.eq_false_or_eq_true b81).symm with h82|h82
            ·exact ⟨Ac.mk 2 (tuAt a80) [] [] [Se.mk Zsn x5] [xBin 3 (xCol Zs0 Zsi) (xCol ZsN Zsi)] Zs0,t81,zbm,(by (try simp only [Ac.av,Ac.cells,List.map_cons,List.map_nil,Se.cells,zaM,zaQ,zaN,zaS]);exact wk At.Ag (p_11++[sb h82]) kr)⟩
            ·obtain ⟨e83,t83,q83,c83⟩:=(zbP t81 (plIn p (zaj (tuAt a80))) 2 zav)
             exact ⟨Ac.mk 2 (tuAt a80) [] [] [Se.mk Zsn x5] [xBin 2 (xBin 3 (xCol Zs0 Zsi) (xCol ZsN Zsi)) e83] Zs0,t83,zbm,(by (try simp only [Ac.av,Ac.cells,List.map_cons,List.map_nil,Se.cells,zaM,zaQ,zaN,zaS]);exact wk At.Ag (p_11++[sb h82,sd [(4,[sc (zbY (tuAt a80) zav)]),(5,[sc (zbX p (zaj (tuAt a80)) zav)]),(6,[sl [0] c83]),(7,[sc (zaC 2 (xBin 3 (xCol Zs0 Zsi) (xCol ZsN Zsi)) e83)])]]) kr)⟩
           ·obtain ⟨a84,t84,q84,c84⟩:=(zag t67 2 zav)
            obtain ⟨b85,t85,c85⟩:=(zam t84 3 zav)
            let p_12:List St:=p_10++[sb h77,sb h79,sl [0] c84,se (znD a84 zav),sc (zaO Zs0 Zsi),sc (zaO ZsO Zsi),sc (zaC 3 (xCol Zs0 Zsi) (xCol ZsO Zsi)),sl [0] c85]
            rcases (Bool.eq_false_or_eq_true b85).symm with h86|h86
            ·exact ⟨Ac.mk 2 (tuAt a84) [] [] [Se.mk Zsn x5] [xBin 3 (xCol Zs0 Zsi) (xCol ZsO Zsi)] Zs0,t85,zbm,(by (try simp only [Ac.av,Ac.cells,List.map_cons,List.map_nil,Se.cells,zaM,zaQ,zaN,zaS]);exact wk At.Ag (p_12++[sb h86]) kr)⟩
            ·obtain ⟨e87,t87,q87,c87⟩:=(zbP t85 (plIn p (zaj (tuAt a84))) 2 zav)
             exact ⟨Ac.mk 2 (tuAt a84) [] [] [Se.mk Zsn x5] [xBin 2 (xBin 3 (xCol Zs0 Zsi) (xCol ZsO Zsi)) e87] Zs0,t87,zbm,(by (try simp only [Ac.av,Ac.cells,List.map_cons,List.map_nil,Se.cells,zaM,zaQ,zaN,zaS]);exact wk At.Ag (p_12++[sb h86,sd [(4,[sc (zbY (tuAt a84) zav)]),(5,[sc (zbX p (zaj (tuAt a84)) zav)]),(6,[sl [0] c87]),(7,[sc (zaC 2 (xBin 3 (xCol Zs0 Zsi) (xCol ZsO Zsi)) e87)])]]) kr)⟩
       ·obtain ⟨a88,t88,q88,c88⟩:=(zag t67 2 zav)
        obtain ⟨a89,t89,q89,c89⟩:=(zag t88 2 zav)
        obtain ⟨a90,t90,q90,c90⟩:=(zag t89 3 zav)
        obtain ⟨a91,t91,q91,c91⟩:=(zaW t90)
        exact ⟨Ac.mk 2 Zsu [] [] [Se.mk (nmAt a88) (xBin (↑(9+a89):Int) (xCol Zs0 (nmAt a88)) (xNum (↑(1+a90):Int)))] [xBtw (nmAt a88) a91 9] Zs0,t91,zbm,(by (try simp only [Ac.av,Ac.cells,List.map_cons,List.map_nil,Se.cells,zaM,zaQ,zaN,zaS]);exact wk At.Ag (p_9++[sb h68,sb h69,sb h70,sl [0] c88,se (zg1 a88 zav),sl [0] c89,si (zaU (t:=9+(a89:Int)) (n:=9+a89) Zo Zo),sc (zaO Zs0 (nmAt a88)),sl [0] c90,si (zaU (t:=1+(a90:Int)) (n:=1+a90) Zo Zo),sc (za2 ((↑(1+a90):Int)) zav),sc (zaC ((↑(9+a89):Int)) (xCol Zs0 (nmAt a88)) (xNum (↑(1+a90):Int))),sl [0] c91,sc (zd9 (nmAt a88) a91 9 zav zav)]) kr)⟩
      ·obtain ⟨a92,t92,q92,c92⟩:=(zag t67 2 zav)
       obtain ⟨a93,t93,q93,c93⟩:=(zag t92 2 zav)
       obtain ⟨a94,t94,q94,c94⟩:=(zag t93 2 zav)
       obtain ⟨a95,t95,q95,c95⟩:=(zag t94 3 zav)
       exact ⟨Ac.mk 2 Zsu [] [] [Se.mk (nmAt a92) (xBin (↑(9+a93):Int) (xCol Zs0 (nmAt a94)) (xNum (↑(1+a95):Int)))] [] Zs0,t95,zbm,(by (try simp only [Ac.av,Ac.cells,List.map_cons,List.map_nil,Se.cells,zaM,zaQ,zaN,zaS]);exact wk At.Ag (p_9++[sb h68,sb h69,sd [(2,[sl [0] c92]),(3,[se (zg1 a92 zav)]),(6,[sl [0] c93]),(7,[si (zaU (t:=9+(a93:Int)) (n:=9+a93) Zo Zo)]),(10,[sl [0] c94]),(11,[se (zg1 a94 zav)]),(13,[sc (zaO Zs0 (nmAt a94))]),(15,[sl [0] c95]),(16,[si (zaU (t:=1+(a95:Int)) (n:=1+a95) Zo Zo)]),(17,[sc (za2 ((↑(1+a95):Int)) zav)]),(18,[sc (zaC ((↑(9+a93):Int)) (xCol Zs0 (nmAt a94)) (xNum (↑(1+a95):Int)))])]]) kr)⟩
     ·exact ⟨Ac.mk 1 Zsl [[x5,xLit (V.mk 3 0 x.name)]] [] [] [] Zs0,t67,zbm,(by (try simp only [Ac.av,Ac.cells,List.map_cons,List.map_nil,Se.cells,zaM,zaQ,zaN,zaS]);exact wk At.Ag (p_9++[sb h68,sd [(4,[sc (zaT (V.mk 3 0 x.name))])]]) kr)⟩
  ·cases h96:!x.each
   ·cases h97:x.event==3
    ·obtain ⟨a98,t98,q98,c98⟩:=(zag t1 ((↑(List.map Col.cells s.cols).length:Int)) zav)
     obtain ⟨x99,e99⟩:=zbK (l:=s.cols) (i:=a98) zav
     obtain ⟨e100,t100,q100,c100⟩:=(za3 t98 p x99.type zav)
     exact ⟨Ac.mk 5 Zs0 [] [] [Se.mk x99.name e100] [] Zs0,t100,zbm,(by (try simp only [Ac.av,Ac.cells,List.map_cons,List.map_nil,Se.cells,zaM,zaQ,zaN,zaS]);exact wk At.Ag [sl [0] c1,sg h2,sg h3,sg h96,sb h97,sb h3,sdm [(6,[sl [0] c98]),(7,[se (zai Col.cells e99 rfl)])] 0 [(0,AV.p 0 0),(1,AV.agg x.cells),(2,AV.agg s.cells),(3,AV.agg [fsl p.frs,ZS p.tbs]),(5,AV.p 1 0),(6,AV.p 2 0),(7,AV.p 3 0),(8,AV.p 4 0),(9,AV.p 5 0),(17,AV.p 0 0),(18,bv b1),(19,AV.bl false),(20,AV.p 1 2),(21,bv x.before),(22,AV.bl true),(23,AV.p 1 5),(24,bv x.each),(25,bv !x.each),(26,AV.bl false),(27,AV.p 1 3),(28,iv x.event),(29,bv (x.event==3)),(30,bv (x.event==3)),(31,bv (x.event==3)),(32,AV.bl false),(36,AV.p 1 2),(37,AV.bl true),(38,AV.p 2 1),(39,ZC s.cols),(40,AV.p 0 0),(41,AV.p 2 1),(42,ZC s.cols),(43,iv (↑(List.map Col.cells s.cols).length:Int)),(44,iv (a98:Int)),(45,AV.dp x99.cells),(46,AV.agg x99.cells)] [Blk.box [AV.sl (List.map (fun n=>[iv n]) t98.l),iv (t98.pos:Int)],Blk.box x.cells,Blk.box s.cells,Blk.box [fsl p.frs,ZS p.tbs],Blk.box [iv 0,sv Zs0,AV.nl,AV.nl,AV.nl,AV.nl,sv Zs0],Blk.box x99.cells],sd [(6,[sl [0] c100])]] kr)⟩
    ·obtain ⟨w101,t101,q101,c101⟩:=(zdx t1)
     exact ⟨Ac.mk 4 Zs0 [] [] [] [] w101,t101,zbm,wk At.Ag [sl [0] c1,sg h2,sg h3,sg h96,sb h97,sl [0] c101] kr⟩
   ·obtain ⟨w102,t102,q102,c102⟩:=(zdx t1)
    exact ⟨Ac.mk 4 Zs0 [] [] [] [] w102,t102,zbm,wk At.Ag [sl [0] c1,sg h2,sg h3,sb h96,sl [0] c102] kr⟩
 ·obtain ⟨w103,t103,q103,c103⟩:=(zdx t1)
  exact ⟨Ac.mk 4 Zs0 [] [] [] [] w103,t103,zbm,wk At.Ag [sl [0] c1,sb h2,sl [0] c103] kr⟩
theorem zsL {p:Prop} (h:p:=by first|exact cerA _ _ _ _ _ _ _ _ _ _|exact cerB _ _ _ _ _ _ _ _ _ _ _ _ _ _ ‹_›|exact cerC _ _ _ _ _ _ _ _ _ _ _ _ _ _ _ _ ‹_› ‹_› Zo (by rw [IntKind.wrap_i64];omega) Zo):p:=h
theorem zh1 {p:Prop} (h:p:=by first|assumption|omega|exact ⟨by simp;omega,by simp⟩|(simp;done)):p:=h
theorem zh2 {p:Prop} (h:p:=by first|assumption|omega|(rw [IntKind.wrap_i64];omega)|(simp;done)):p:=h
theorem zsM {p:Prop} (h:p:=by first|exact trF w0 w1 (by simp [Few]) w4 w5 w6 (And.left ‹_›) (And.right ‹_›)|exact trFc w0 w1 (by simp [Few]) ‹_›):p:=h
theorem zlX {p:Prop} (h:p:=by first|assumption|omega|(simp;done)|(simp;omega)):p:=h
abbrev tyBx (b:Nat) (nm tb:Str) (bf:Bool) (ev:Int) (off:List Str) (ea:Bool) (pc fo:List Str) (wh:List X) (n:Nat):List AV:=[sv nm,sv tb,bv bf,iv ev,ssl off,bv ea,ssl pc,ssl fo,.nl,.sl (zad wh),.own b n]
def tyD (k1 k2:Bool) (nm tb:Str) (bf:Bool) (ev:Int) (off:List Str) (ea:Bool) (pc fo:List Str) (wh:List X) (n:Nat) (ra:Rk) (a:Ac):List AV:=match k1 with
 | false=>tyBx 2 nm tb bf ev off ea pc fo wh n
 | true=>match k2 with
  | false=>[sv nm,sv tb,bv bf,iv ev,ssl off,bv ea,ssl pc,ssl fo,.sl [ra.cells],.sl (zad wh),.own 2 n]
  | true=>[sv nm,sv tb,bv bf,iv ev,ssl off,.bl false,ssl pc,ssl fo,.sl [ra.cells],.nl,.sl [a.cells]]
structure CerA (bf:Bool) (a:Ac):Prop where
 no:bf=false
 ac:∀ tb ev,ActF tb bf false ev a
def CerR (nm tb:Str) (bf:Bool) (ev:Int) (off:List Str) (ea:Bool) (pc fo:List Str) (wh:List X) (n:Nat) (cs:List AV):Prop:=∃ (k1 k2:Bool) (ra:Rk) (a:Ac),cs=tyD k1 k2 nm tb bf ev off ea pc fo wh n ra a/\(k1=true->CerA bf a)
theorem cerA (nm tb:Str) (bf:Bool) (ev:Int) (off:List Str) (ea:Bool) (pc fo:List Str) (wh:List X) (n:Nat):CerR nm tb bf ev off ea pc fo wh n (tyBx 2 nm tb bf ev off ea pc fo wh n):=⟨false,false,⟨⟨#[]⟩,⟨#[]⟩,0,0⟩,Ac.mk 4 ⟨#[]⟩ [] [] [] [] ⟨#[]⟩,rfl,fun h=>by cases h⟩
theorem cerB (nm tb:Str) (bf:Bool) (ev:Int) (off:List Str) (ea:Bool) (pc fo:List Str) (wh:List X) (n:Nat) (a b:Str) (lo hi:Int) (h:bf=false):CerR nm tb bf ev off ea pc fo wh n [sv nm,sv tb,bv bf,iv ev,ssl off,bv ea,ssl pc,ssl fo,.sl [[sv a,sv b,iv lo,iv hi]],.sl (zad wh),.own 2 n]:=⟨true,false,⟨a,b,lo,hi⟩,Ac.mk 4 ⟨#[]⟩ [] [] [] [] ⟨#[]⟩,rfl,fun _=>⟨h,fun _ _=>zpb⟩⟩
theorem cerC (nm tb:Str) (bf:Bool) (ev:Int) (off:List Str) (ea:Bool) (pc fo:List Str) (wh:List X) (n:Nat) (a b:Str) (k:Nat) (lo hi m:Int) (hk:(k:Int) < 2) (h:bf=false) (h1:-9223372036854775808 < lo/\lo<=9223372036854775807) (h2:-9223372036854775808 < hi/\hi<=9223372036854775807) (h3:-9223372036854775808 < m/\m<=9223372036854775807) :
  CerR nm tb bf ev off ea pc fo wh n [sv nm,sv tb,bv bf,iv ev,ssl off,.bl false,ssl pc,ssl fo,.sl [[sv a,sv b,iv lo,iv hi]],.nl,.sl [Ac.cells ⟨2,⟨#[117]⟩,[],[],[⟨nmAt k,xBin 10 (xCol ⟨#[]⟩ (nmAt k)) (xNum m)⟩],[xBtw (nmAt k) lo hi],⟨#[]⟩⟩]] :=
 ⟨true,true,⟨a,b,lo,hi⟩,_,rfl,fun _=>⟨h,fun _ _=>zim h (.inr (.inl rfl)) (zwz hk) (XOk.le (zkb (n:=2) (zds _ _) (zgU h3.1 h3.2)) Zo) Zs (all1 (XOk.le (zxs (n:=2) (zds _ _) (zgU h1.1 h1.2) (zgU h2.1 h2.2)) Zo))⟩⟩
theorem zpj (t:Tp) (nm tb:Str) (bf:Bool) (ev:Int) (off:List Str) (ea:Bool) (pc fo:List Str) (wh:List X) (acts:List Ac) (sh:Bool) :∃ (cs:List AV) (t':Tp),CerR nm tb bf ev off ea pc fo wh acts.length cs/\zab E0 S.BM [.p 0 0,.p 1 0] [.box t.cells,.box (tyBx 2 nm tb bf ev off ea pc fo wh acts.length),.row Ty.Action (acts.map Ac.cells) sh] (.tup []) [.box t'.cells,.box cs,.row Ty.Action (acts.map Ac.cells) sh]:=by
 rcases (Bool.eq_false_or_eq_true bf).symm with h1|h1
 ·obtain ⟨b2,t2,c2⟩:=(zam t 3 zh2)
  cases h3:!b2
  ·obtain ⟨a4,t4,q4,c4⟩:=(zag t2 2 zh2)
   obtain ⟨a5,t5,q5,c5⟩:=(zaW t4)
   obtain ⟨a6,t6,q6,c6⟩:=(zag t5 12 zh2)
   obtain ⟨b7,t7,c7⟩:=(zam t6 2 zh2)
   let p_1:List St:=[sg h1,sl [0] c2,sb h3,sl [0] c4,se (zg1 a4 zh2),sl [0] c5,sl [0] c6,si (e:=IntKind.i64.wrap (a5+(a6:Int))) rfl,sl [0] c7]
   rcases (Bool.eq_false_or_eq_true b7).symm with h8|h8
   ·obtain ⟨a9,t9,q9,c9⟩:=(zag t7 3 zh2)
    exact ⟨[sv nm,sv tb,bv bf,iv ev,AV.sl (List.map (fun s=>[sv s]) off),AV.bl false,AV.sl (List.map (fun s=>[sv s]) pc),AV.sl (List.map (fun s=>[sv s]) fo),AV.sl [[sv Zsu,sv (nmAt a4),iv a5,iv (IntKind.i64.wrap (a5+(a6:Int)))]],AV.nl,AV.sl [[iv 2,sv Zsu,AV.sl [],AV.sl [],AV.sl [(sv (nmAt a4)::(xBin 10 (xCol Zs0 (nmAt a4)) (xNum (↑(1+a9):Int))).cells)],AV.sl [(xBtw (nmAt a4) a5 (IntKind.i64.wrap (a5+(a6:Int)))).cells],sv Zs0]]],t9,zsL,(by (try simp only [false_and]);exact wkE At.BM (p_1++[sb h8,sd [(17,[se (xs:=[[sv Zsu,sv (nmAt a4),iv a5,iv (IntKind.i64.wrap (a5+(a6:Int)))]]) (i:=0) (c:=[sv Zsu,sv (nmAt a4),iv a5,iv (IntKind.i64.wrap (a5+(a6:Int)))]) (n:=4) ⟨by decide,rfl,rfl⟩]),(3,[sc (zaO Zs0 (nmAt a4))]),(5,[sl [0] c9]),(6,[si (zaU (t:=1+(a9:Int)) (n:=1+a9) Zo Zo)]),(7,[sc (za2 ((↑(1+a9):Int)) zh2)]),(8,[sc (zaC 10 (xCol Zs0 (nmAt a4)) (xNum (↑(1+a9):Int)))]),(20,[sc (zd9 (nmAt a4) a5 (IntKind.i64.wrap (a5+(a6:Int))) zh2 zh2)])]]) kr)⟩
   ·exact ⟨[sv nm,sv tb,bv bf,iv ev,AV.sl (List.map (fun s=>[sv s]) off),bv ea,AV.sl (List.map (fun s=>[sv s]) pc),AV.sl (List.map (fun s=>[sv s]) fo),AV.sl [[sv Zsu,sv (nmAt a4),iv a5,iv (IntKind.i64.wrap (a5+(a6:Int)))]],AV.sl (zad wh),AV.own 2 acts.length],t7,zsL,(by (try simp only [false_and]);exact wk At.BM (p_1++[sb h8]) kr)⟩
  ·exact ⟨[sv nm,sv tb,bv bf,iv ev,AV.sl (List.map (fun s=>[sv s]) off),bv ea,AV.sl (List.map (fun s=>[sv s]) pc),AV.sl (List.map (fun s=>[sv s]) fo),AV.nl,AV.sl (zad wh),AV.own 2 acts.length],t2,zsL,(by (try simp only [false_and]);exact wk At.BM [sg h1,sl [0] c2,sb h3] kr)⟩
 ·exact ⟨[sv nm,sv tb,bv bf,iv ev,AV.sl (List.map (fun s=>[sv s]) off),bv ea,AV.sl (List.map (fun s=>[sv s]) pc),AV.sl (List.map (fun s=>[sv s]) fo),AV.nl,AV.sl (zad wh),AV.own 2 acts.length],t,zsL,(by (try simp only [false_and]);exact wk At.BM [sb h1] kr)⟩
theorem zhB (t:Tp) (nm tb:Str) (bf:Bool) (ev:Int) (off:List Str) (ea:Bool) (pc fo:List Str) (wh:List X) (acts:List Ac) (sh:Bool):∃ (kka kkb:Bool) (ra:Rk) (a:Ac) (t':Tp),(kka=true->CerA bf a)/\zab E0 S.BM [.p 0 0,.p 1 0] [.box t.cells,.box (tyBx 2 nm tb bf ev off ea pc fo wh acts.length),.row Ty.Action (acts.map Ac.cells) sh] (.tup []) [.box t'.cells,.box (tyD kka kkb nm tb bf ev off ea pc fo wh acts.length ra a),.row Ty.Action (acts.map Ac.cells) sh]:=by
 obtain ⟨cs,t',⟨k1,k2,ra,a,rfl,h⟩,hc⟩:=zpj t nm tb bf ev off ea pc fo wh acts sh
 exact ⟨k1,k2,ra,a,t',h,hc⟩
abbrev tyZero:List AV:=[sv ⟨#[]⟩,sv ⟨#[]⟩,.bl false,iv 0,.nl,.bl false,.nl,.nl,.nl,.nl,.nl]
noncomputable def L_ty (t0:Tp) (nm tb:Str) (bf:Bool) (ev:Int) (off:List Str) (ea:Bool) (pc fo:List Str) (wh:List X) (s:Sch) (p:Pl) (k:Nat) (u:Tp) (acts:List Ac) (sh:Bool):Cfg:=zan B.An 0 [(0,.p 0 0),(6,.p 1 0),(7,.p 2 0),(8,.p 3 0),(9,.p 4 0),(10,iv (k:Nat))] [.box u.cells,.box tyZero,.box (tyBx 5 nm tb bf ev off ea pc fo wh acts.length),.box s.cells,.box p.cells,.row Ty.Action (acts.map Ac.cells) sh]
theorem zgt (t0:Tp) (nm tb:Str) (bf:Bool) (ev:Int) (off:List Str) (ea:Bool) (pc fo:List Str) (wh:List X) (s:Sch) (p:Pl) (hp:p.OkN 4) (hsx:s=zaj tb) (hpt:bf=true->p.tbs=zao) (hs:Few s.cols) (hpos:Pos (((s.cols.map Col.cells).length:Nat):Int)) (hsh:zac zao) (hnm:V.Good ⟨3,0,nm⟩) (k:Nat) (u:Tp) (acts:List Ac) (sh:Bool) (hi:k<=1000000000) (hI:acts.length+k<=3/\∀ a∈acts,ActF tb bf ea ev a):∃ (u':Tp) (acts':List Ac) (sh':Bool),(acts'.length+0<=3/\∀ a∈acts',ActF tb bf ea ev a)/\(decide ((0:Int) < ((0:Nat):Int))=false)/\∀ R,Good E0 B.An [.box t0.cells] (L_ty t0 nm tb bf ev off ea pc fo wh s p 0 u' acts' sh') R->Good E0 B.An [.box t0.cells] (L_ty t0 nm tb bf ev off ea pc fo wh s p k u acts sh) R:=by
 induction k generalizing u acts sh with
 | zero=>exact ⟨u,acts,sh,hI,by decide,fun R hg=>hg⟩
 | succ k ih =>
  have h0:decide ((0:Int) < (((k+1):Nat):Int))=true:=by first|(simp;done)|(simp;omega)
  have hw:IntKind.i64.wrap (((k+1:Nat):Int) - 1)=((k:Nat):Int):=zka k Zo
  obtain ⟨r1,t1,q1,c1⟩:=(zky u (Tg.mk nm tb bf ev off ea pc fo [] wh acts) s p zlX zlX zlX zlX zlX zlX zlX)
  obtain ⟨uZ,actsZ,shZ,qZ,xZ,gZ⟩:=ih t1 (acts++[r1]) true Zo (by (refine ⟨by simp;omega,fun z hz=>?_⟩;simp only [List.mem_append,List.mem_singleton] at hz;rcases hz with hz|rfl;exact hI.2 z hz;assumption));exact ⟨uZ,actsZ,shZ,qZ,xZ,fun R hg=>zaa (wkl [sb h0,sd [(6,[skx (True/\(True/\True/\True/\True/\True/\True/\True/\True/\True/\True/\acts.length=(List.map Ac.cells acts).length/\True)/\(True/\True/\True)/\(True/\True/\True)/\True) [0] c1]),(8,[sqA (List.map Ac.cells acts) [[iv r1.kind,sv r1.table,AV.sl (List.map (fun r=>[AV.sl (zad r)]) r1.rows),AV.sl (zal r1.query),ZE r1.sets,AV.sl (zad r1.wh),sv r1.text]] acts.length 7 136])],si hw] [0,6,7,8,9,10] 6 kr (zaR rfl (show ([Blk.box [AV.sl (List.map (fun n=>[iv n]) t1.l),iv (t1.pos:Int)],Blk.box [sv Zs0,sv Zs0,AV.bl false,iv 0,AV.nl,AV.bl false,AV.nl,AV.nl,AV.nl,AV.nl,AV.nl],Blk.box [sv nm,sv tb,bv bf,iv ev,AV.sl (List.map (fun s=>[sv s]) off),bv ea,AV.sl (List.map (fun s=>[sv s]) pc),AV.sl (List.map (fun s=>[sv s]) fo),AV.nl,AV.sl (zad wh),AV.own 5 (List.map Ac.cells acts++[[iv r1.kind,sv r1.table,AV.sl (List.map (fun r=>[AV.sl (zad r)]) r1.rows),AV.sl (zal r1.query),ZE r1.sets,AV.sl (zad r1.wh),sv r1.text]]).length],Blk.box s.cells,Blk.box [fsl p.frs,ZS p.tbs],Blk.row Ty.Action (List.map Ac.cells acts++[[iv r1.kind,sv r1.table,AV.sl (List.map (fun r=>[AV.sl (zad r)]) r1.rows),AV.sl (zal r1.query),ZE r1.sets,AV.sl (zad r1.wh),sv r1.text]]) true]:Heap)=_ by first|rfl|(simp only [List.map_append,List.map_cons,List.map_nil,List.length_append,List.length_map,List.length_cons,List.length_nil];rfl)) (gZ R hg)))⟩
structure TrF (nm tb:Str) (pc fo:List Str) (r:Tg):Prop where
 name:r.name=nm
 table:r.table=tb
 prec:r.prec=pc
 foll:r.foll=fo
 event:1<=r.event/\r.event<=3
 of:Few r.of
 rank:Few r.rank
 whl:r.when_.length<=1
 wh:∀ x∈r.when_,XOk 6 x
 whb:r.before=true->∀ x∈r.when_,∃ frs,XT zao 6 frs 2 x
 al:r.acts.length<=3
 act:∀ a∈r.acts,ActF r.table r.before r.each r.event a
theorem trF {nm tb:Str} {bf:Bool} {ev:Int} {off:List Str} {ea:Bool} {pc fo:List Str} {rk:List Rk} {wh:List X} {acts:List Ac} (h0:1<=ev/\ev<=3) (h1:Few off) (h4:Few rk) (h5:wh.length<=1) (h6:∀ x∈wh,XOk 6 x) (hb:bf=true->∀ x∈wh,∃ frs,XT zao 6 frs 2 x) (h7:acts.length+0<=3) (h8:∀ a∈acts,ActF tb bf ea ev a):TrF nm tb pc fo (Tg.mk nm tb bf ev off ea pc fo rk wh acts) :=
 ⟨rfl,rfl,rfl,rfl,h0,h1,h4,h5,h6,hb,by omega,h8⟩
theorem trFc {nm tb:Str} {bf:Bool} {ev:Int} {off:List Str} {pc fo:List Str} {rk:List Rk} {a:Ac} (h0:1<=ev/\ev<=3) (h1:Few off) (h4:Few rk) (h8:true=true->CerA bf a):TrF nm tb pc fo (Tg.mk nm tb bf ev off false pc fo rk [] [a]) :=
 ⟨rfl,rfl,rfl,rfl,h0,h1,h4,by simp,by simp,by simp,by simp,by simpa using (h8 rfl).ac tb ev⟩
theorem zat (t0:Tp) (nm tb:Str) (bf:Bool) (ev:Int) (off:List Str) (ea:Bool) (pc fo:List Str) (wh:List X) (s:Sch) (p:Pl) (k:Nat) (u:Tp) (hp:p.OkN 4) (hsx:s=zaj tb) (hpt:bf=true->p.tbs=zao) (hs:Few s.cols) (hpos:Pos (((s.cols.map Col.cells).length:Nat):Int)) (hsh:zac zao) (hnm:V.Good ⟨3,0,nm⟩) (hk:k<=3) (w0:1<=ev/\ev<=3) (w1:Few off) (w4:wh.length<=1) (w5:∀ x∈wh,XOk 6 x) (w6:bf=true->∀ x∈wh,∃ frs,XT zao 6 frs 2 x):∃ (r:Tg) (t':Tp),TrF nm tb pc fo r/\Good E0 B.An [.box t0.cells] (L_ty t0 nm tb bf ev off ea pc fo wh s p k u [] false) (Shut 1 fun rZ hZ=>rZ=(r.av)/\hZ=[.box t'.cells]):=by
  obtain ⟨u1,acts1,sh1,q1,q1_1,g1⟩:=zgt t0 nm tb bf ev off ea pc fo wh s p zh1 zh1 zh1 zh1 zh1 zh1 zh1 k u ([]) false zh1 zh1
  obtain ⟨kka2,kkb2,ra2,a2,t2,q2,c2⟩:=(zhB u1 nm tb bf ev off ea pc fo wh acts1 sh1)
  cases kka2
  ·let p_1:List St:=[sqx (True/\True/\True/\True/\True/\True/\True/\True/\True/\True/\acts1.length=(List.map Ac.cells acts1).length/\True),sb Zf,sl [0,2,5] c2]
   cases kkb2
   ·exact ⟨Tg.mk nm tb bf ev off ea pc fo [] wh acts1,t2,zsM,wkl [] [0,6,7,8,9,10] 6 kr (g1 _ (zaa (wkr p_1 kr)))⟩
   ·exact ⟨Tg.mk nm tb bf ev off ea pc fo [] wh acts1,t2,zsM,wkl [] [0,6,7,8,9,10] 6 kr (g1 _ (zaa (wkr p_1 kr)))⟩
  ·cases kkb2
   ·exact ⟨Tg.mk nm tb bf ev off ea pc fo [ra2] wh acts1,t2,zsM,wkl [] [0,6,7,8,9,10] 6 kr (g1 _ (zaa (wkrS (y:=AV.agg [sv nm,sv tb,bv bf,iv ev,AV.sl (List.map (fun s=>[sv s]) off),bv ea,AV.sl (List.map (fun s=>[sv s]) pc),AV.sl (List.map (fun s=>[sv s]) fo),AV.sl [[sv ra2.table,sv ra2.col,iv ra2.low,iv ra2.high]],AV.sl (zad wh),ZA acts1]) (H:=[Blk.box [AV.sl (List.map (fun n=>[iv n]) t2.l),iv (t2.pos:Int)]]) [sqx (True/\True/\True/\True/\True/\True/\True/\True/\True/\True/\acts1.length=(List.map Ac.cells acts1).length/\True),sb Zf,sl [0,2,5] c2] kr ⟨Zcv1,Zcv1⟩)))⟩
   ·exact ⟨Tg.mk nm tb bf ev off false pc fo [ra2] [] [a2],t2,zsM,wkl [] [0,6,7,8,9,10] 6 kr (g1 _ (zaa (wkrS (y:=AV.agg [sv nm,sv tb,bv bf,iv ev,AV.sl (List.map (fun s=>[sv s]) off),bv false,AV.sl (List.map (fun s=>[sv s]) pc),AV.sl (List.map (fun s=>[sv s]) fo),AV.sl [[sv ra2.table,sv ra2.col,iv ra2.low,iv ra2.high]],AV.sl [],AV.sl [[iv a2.kind,sv a2.table,AV.sl (List.map (fun r=>[AV.sl (zad r)]) a2.rows),AV.sl (zal a2.query),ZE a2.sets,AV.sl (zad a2.wh),sv a2.text]]]) (H:=[Blk.box [AV.sl (List.map (fun n=>[iv n]) t2.l),iv (t2.pos:Int)]]) [sb Zf,sl [0,2,5] c2] kr ⟨Zcv1,Zcv1⟩)))⟩
theorem zah {p:Prop} (h:p:=by first|assumption|rfl|omega|exact PlB.ok ‹_›|exact PlB.bef ‹_›|exact (zbO ‹_›).few|exact zAd ‹_›|exact Pl.OkN.less (Pl.OkN.less (PlB.ok ‹_›))|exact all0|exact all1 (XOk.le (n:=4) (XT.ok ‹_›) Zo)|exact whBef ‹_› (PlB.bef ‹_›)|(simp only [List.length_map] at *;omega)|(simp [Few];done)):p:=h
theorem zed {p:Prop} (h:p:=by first|assumption|exact TrW.gen ‹_›|exact hI.2.2|exact TrW.nameMem ‹_› hll|exact (TrW.prec ‹_›).1|exact (TrW.foll ‹_›).1|exact (TrW.inN ‹_› hI.2.1).1|exact (TrW.inN ‹_› hI.2.1).2|omega):p:=h
theorem zc8 {p:Prop} (h:p:=by first|exact trW ‹_› ‹_› no8 no8|exact trW ‹_› ‹_› ‹_› no8|exact trW ‹_› ‹_› no8 ‹_›):p:=h
theorem zqb {p:Prop} (h:p:=by first|assumption|exact zyK|exact ⟨by simp;omega,⟨by simp,by simp⟩,zsv _⟩|(rw [IntKind.wrap_i64];omega)|(simp only [Pos];omega)|omega):p:=h
theorem zw9 {p:Prop} (h:p:=by first|exact ⟨by omega,hI.2⟩|exact ⟨by simp;omega,hI.2.1.push ‹_› hll,by assumption⟩):p:=h
structure TrW (nm:Str) (l:List Tg) (r:Tg):Prop where
 tr:∃ pc fo,TrF nm r.table pc fo r
 table:TabN r.table
 prec:Few r.prec/\∀ z∈r.prec,z∈l.map Tg.name
 foll:Few r.foll/\∀ z∈r.foll,z∈l.map Tg.name
theorem trW {nm tb:Str} {pc fo:List Str} {l:List Tg} {r:Tg} (h:TrF nm tb pc fo r) (ht:TabN tb) (h1:pc.length<=8/\∀ z∈pc,z∈l.map Tg.name) (h2:fo.length<=8/\∀ z∈fo,z∈l.map Tg.name):TrW nm l r :=
 ⟨⟨pc,fo,by rw [h.table];exact h⟩,by rw [h.table];exact ht,by rw [h.prec];exact ⟨by simp only [Few];omega,h1.2⟩,by rw [h.foll];exact ⟨by simp only [Few];omega,h2.2⟩⟩
theorem no8 {l:List Tg}:([]:List Str).length<=8/\∀ z∈([]:List Str),z∈l.map Tg.name:=⟨by simp,fun _ h=>by cases h⟩
theorem zAd {w:Str} (h:TabN w):Pos ((((zaj w).cols.map Col.cells).length:Nat):Int):=by
 have h1:=(zbO h).few
 have h2:=List.length_pos_iff.2 (zbO h).ne
 simp only [Few] at h1
 rw [List.length_map]
 exact ⟨by omega,by omega⟩
theorem whBef {tbs:List Sch} {frs:List Fr} {bf:Bool} {x:X} (h:XT tbs 4 frs 2 x) (ht:bf=true->tbs=zao):bf=true->∀ y∈[x],∃ frs,XT zao 6 frs 2 y:=fun hb y hy=>by
 simp only [List.mem_singleton] at hy;subst hy
 exact ⟨frs,ht hb ▸ h.le Zo⟩
theorem zhA (t:Tp) (name:Str) (l:List Tg) (hl:zac l) (hsh:zac zao) (hnm:V.Good ⟨3,0,name⟩):∃ (r:Tg) (t':Tp),TrW name l r/\zab E0 S.An [.p 0 0,sv name,.sl (l.map Tg.cells)] [.box t.cells] r.av [.box t'.cells]:=by
 obtain ⟨w1,t1,q1,c1⟩:=(zcM t)
 obtain ⟨a2,t2,q2,c2⟩:=(zag t1 3 zah)
 obtain ⟨b3,t3,c3⟩:=(zam t2 2 zah)
 obtain ⟨b4,t4,c4⟩:=(zam t3 4 zah)
 let p_1:List St:=[sl [0] c1,sl [0] c2,si (zaU (t:=1+(a2:Int)) (n:=1+a2) Zo Zo),sl [0] c3,sl [0] c4,sc (zbY w1 zah)]
 cases h5:(↑(1+a2):Int)==2
 ·obtain ⟨a6,t6,q6,c6⟩:=(zag t4 3 zah)
  cases h7:(a6:Int)==0
  ·cases h8:(a6:Int)==1
   ·obtain ⟨p9,q9,c9⟩:=(zbl (Tg.mk name w1 b4 (↑(1+a2):Int) [] b3 [] [] [] [] []) zah)
    obtain ⟨b10,t10,c10⟩:=(zam t6 3 zah)
    let p_2:List St:=p_1++[sb h5,sl [0] c6,sb h7,sb h8,sc c9,sl [0] c10]
    rcases (Bool.eq_false_or_eq_true b10).symm with h11|h11
    ·obtain ⟨a12,t12,q12,c12⟩:=(zag t10 2 zah)
     obtain ⟨r13_0,r13_1,p13_0,g13⟩:=zat t name w1 b4 ((↑(1+a2):Int)) ([]) b3 ([]) ([]) ([]) (zaj w1) p9 (1+a12) t12 zah zah zah zah zah zah zah zah zah zah zah zah zah
     exact ⟨r13_0,r13_1,zc8,wkcN At.An (p_2++[sb h11,sl [0] c12,si (zaU (t:=1+(a12:Int)) (n:=1+a12) Zo Zo)]) [0,6,7,8,9,10] 5 [(.nl 2 4,5),(.nl 2 6,5),(.nl 2 7,5),(.nl 2 9,5),(.ob 2 10 Ty.Action,6)] kr (g13)⟩
    ·obtain ⟨e14,t14,q14,c14⟩:=(za3 t10 p9 2 zah)
     obtain ⟨a15,t15,q15,c15⟩:=(zag t14 2 zah)
     obtain ⟨r16_0,r16_1,p16_0,g16⟩:=zat t name w1 b4 ((↑(1+a2):Int)) ([]) b3 ([]) ([]) ([e14]) (zaj w1) p9 (1+a15) t15 zah zah zah zah zah zah zah zah zah zah zah zah zah
     exact ⟨r16_0,r16_1,zc8,wkcN At.An (p_2++[sb h11,sl [0] c14,sl [0] c15,si (zaU (t:=1+(a15:Int)) (n:=1+a15) Zo Zo)]) [0,6,7,8,9,10] 5 [(.nl 2 4,5),(.nl 2 6,5),(.nl 2 7,5),(.ob 2 10 Ty.Action,6)] kr (zaR rfl (show ([Blk.box [AV.sl (List.map (fun n=>[iv n]) t15.l),iv (t15.pos:Int)],Blk.box [sv Zs0,sv Zs0,AV.bl false,iv 0,AV.nl,AV.bl false,AV.nl,AV.nl,AV.nl,AV.nl,AV.nl],Blk.box [sv name,sv w1,bv b4,iv (↑(1+a2):Int),AV.sl [],bv b3,AV.sl [],AV.sl [],AV.nl,AV.sl [e14.cells],AV.own 5 0],Blk.box (zaj w1).cells,Blk.box [fsl p9.frs,ZS p9.tbs],Blk.row Ty.Action [] false]:Heap)=_ from Zcv1) g16)⟩
   ·obtain ⟨r17,t17,q17,c17⟩:=(zck t6 l zah)
    obtain ⟨p18,q18,c18⟩:=(zbl (Tg.mk name w1 b4 (↑(1+a2):Int) [] b3 [] r17 [] [] []) zah)
    obtain ⟨b19,t19,c19⟩:=(zam t17 3 zah)
    let p_3:List St:=p_1++[sb h5,sl [0] c6,sb h7,sb h8,sl [0] c17,sc c18,sl [0] c19]
    rcases (Bool.eq_false_or_eq_true b19).symm with h20|h20
    ·obtain ⟨a21,t21,q21,c21⟩:=(zag t19 2 zah)
     obtain ⟨r22_0,r22_1,p22_0,g22⟩:=zat t name w1 b4 ((↑(1+a2):Int)) ([]) b3 ([]) r17 ([]) (zaj w1) p18 (1+a21) t21 zah zah zah zah zah zah zah zah zah zah zah zah zah
     exact ⟨r22_0,r22_1,zc8,wkcN At.An (p_3++[sb h20,sl [0] c21,si (zaU (t:=1+(a21:Int)) (n:=1+a21) Zo Zo)]) [0,6,7,8,9,10] 5 [(.nl 2 4,5),(.nl 2 6,5),(.nl 2 9,5),(.ob 2 10 Ty.Action,6)] kr (g22)⟩
    ·obtain ⟨e23,t23,q23,c23⟩:=(za3 t19 p18 2 zah)
     obtain ⟨a24,t24,q24,c24⟩:=(zag t23 2 zah)
     obtain ⟨r25_0,r25_1,p25_0,g25⟩:=zat t name w1 b4 ((↑(1+a2):Int)) ([]) b3 ([]) r17 ([e23]) (zaj w1) p18 (1+a24) t24 zah zah zah zah zah zah zah zah zah zah zah zah zah
     exact ⟨r25_0,r25_1,zc8,wkcN At.An (p_3++[sb h20,sl [0] c23,sl [0] c24,si (zaU (t:=1+(a24:Int)) (n:=1+a24) Zo Zo)]) [0,6,7,8,9,10] 5 [(.nl 2 4,5),(.nl 2 6,5),(.ob 2 10 Ty.Action,6)] kr (zaR rfl (show ([Blk.box [AV.sl (List.map (fun n=>[iv n]) t24.l),iv (t24.pos:Int)],Blk.box [sv Zs0,sv Zs0,AV.bl false,iv 0,AV.nl,AV.bl false,AV.nl,AV.nl,AV.nl,AV.nl,AV.nl],Blk.box [sv name,sv w1,bv b4,iv (↑(1+a2):Int),AV.sl [],bv b3,AV.sl [],AV.sl (List.map (fun s=>[sv s]) r17),AV.nl,AV.sl [e23.cells],AV.own 5 0],Blk.box (zaj w1).cells,Blk.box [fsl p18.frs,ZS p18.tbs],Blk.row Ty.Action [] false]:Heap)=_ from Zcv1) g25)⟩
  ·obtain ⟨r26,t26,q26,c26⟩:=(zck t6 l zah)
   obtain ⟨p27,q27,c27⟩:=(zbl (Tg.mk name w1 b4 (↑(1+a2):Int) [] b3 r26 [] [] [] []) zah)
   obtain ⟨b28,t28,c28⟩:=(zam t26 3 zah)
   let p_4:List St:=p_1++[sb h5,sl [0] c6,sb h7,sl [0] c26,sc c27,sl [0] c28]
   rcases (Bool.eq_false_or_eq_true b28).symm with h29|h29
   ·obtain ⟨a30,t30,q30,c30⟩:=(zag t28 2 zah)
    obtain ⟨r31_0,r31_1,p31_0,g31⟩:=zat t name w1 b4 ((↑(1+a2):Int)) ([]) b3 r26 ([]) ([]) (zaj w1) p27 (1+a30) t30 zah zah zah zah zah zah zah zah zah zah zah zah zah
    exact ⟨r31_0,r31_1,zc8,wkcN At.An (p_4++[sb h29,sl [0] c30,si (zaU (t:=1+(a30:Int)) (n:=1+a30) Zo Zo)]) [0,6,7,8,9,10] 5 [(.nl 2 4,5),(.nl 2 7,5),(.nl 2 9,5),(.ob 2 10 Ty.Action,6)] kr (g31)⟩
   ·obtain ⟨e32,t32,q32,c32⟩:=(za3 t28 p27 2 zah)
    obtain ⟨a33,t33,q33,c33⟩:=(zag t32 2 zah)
    obtain ⟨r34_0,r34_1,p34_0,g34⟩:=zat t name w1 b4 ((↑(1+a2):Int)) ([]) b3 r26 ([]) ([e32]) (zaj w1) p27 (1+a33) t33 zah zah zah zah zah zah zah zah zah zah zah zah zah
    exact ⟨r34_0,r34_1,zc8,wkcN At.An (p_4++[sb h29,sl [0] c32,sl [0] c33,si (zaU (t:=1+(a33:Int)) (n:=1+a33) Zo Zo)]) [0,6,7,8,9,10] 5 [(.nl 2 4,5),(.nl 2 7,5),(.ob 2 10 Ty.Action,6)] kr (zaR rfl (show ([Blk.box [AV.sl (List.map (fun n=>[iv n]) t33.l),iv (t33.pos:Int)],Blk.box [sv Zs0,sv Zs0,AV.bl false,iv 0,AV.nl,AV.bl false,AV.nl,AV.nl,AV.nl,AV.nl,AV.nl],Blk.box [sv name,sv w1,bv b4,iv (↑(1+a2):Int),AV.sl [],bv b3,AV.sl (List.map (fun s=>[sv s]) r26),AV.sl [],AV.nl,AV.sl [e32.cells],AV.own 5 0],Blk.box (zaj w1).cells,Blk.box [fsl p27.frs,ZS p27.tbs],Blk.row Ty.Action [] false]:Heap)=_ from Zcv1) g34)⟩
 ·obtain ⟨b35,t35,c35⟩:=(zam t4 2 zah)
  rcases (Bool.eq_false_or_eq_true b35).symm with h36|h36
  ·obtain ⟨a37,t37,q37,c37⟩:=(zag t35 3 zah)
   let p_5:List St:=p_1++[sg h5,sl [0] c35,sb h36,sl [0] c37]
   cases h38:(a37:Int)==0
   ·cases h39:(a37:Int)==1
    ·obtain ⟨p40,q40,c40⟩:=(zbl (Tg.mk name w1 b4 (↑(1+a2):Int) [] b3 [] [] [] [] []) zah)
     obtain ⟨b41,t41,c41⟩:=(zam t37 3 zah)
     rcases (Bool.eq_false_or_eq_true b41).symm with h42|h42
     ·obtain ⟨a43,t43,q43,c43⟩:=(zag t41 2 zah)
      obtain ⟨r44_0,r44_1,p44_0,g44⟩:=zat t name w1 b4 ((↑(1+a2):Int)) ([]) b3 ([]) ([]) ([]) (zaj w1) p40 (1+a43) t43 zah zah zah zah zah zah zah zah zah zah zah zah zah
      exact ⟨r44_0,r44_1,zc8,wkcN At.An (p_5++[sb h38,sb h39,sc c40,sl [0] c41,sb h42,sl [0] c43,si (zaU (t:=1+(a43:Int)) (n:=1+a43) Zo Zo)]) [0,6,7,8,9,10] 5 [(.nl 2 4,5),(.nl 2 6,5),(.nl 2 7,5),(.nl 2 9,5),(.ob 2 10 Ty.Action,6)] kr (g44)⟩
     ·obtain ⟨e45,t45,q45,c45⟩:=(za3 t41 p40 2 zah)
      obtain ⟨a46,t46,q46,c46⟩:=(zag t45 2 zah)
      obtain ⟨r47_0,r47_1,p47_0,g47⟩:=zat t name w1 b4 ((↑(1+a2):Int)) ([]) b3 ([]) ([]) ([e45]) (zaj w1) p40 (1+a46) t46 zah zah zah zah zah zah zah zah zah zah zah zah zah
      exact ⟨r47_0,r47_1,zc8,wkcN At.An (p_5++[sb h38,sb h39,sc c40,sl [0] c41,sb h42,sl [0] c45,sl [0] c46,si (zaU (t:=1+(a46:Int)) (n:=1+a46) Zo Zo)]) [0,6,7,8,9,10] 5 [(.nl 2 4,5),(.nl 2 6,5),(.nl 2 7,5),(.ob 2 10 Ty.Action,6)] kr (zaR rfl (show ([Blk.box [AV.sl (List.map (fun n=>[iv n]) t46.l),iv (t46.pos:Int)],Blk.box [sv Zs0,sv Zs0,AV.bl false,iv 0,AV.nl,AV.bl false,AV.nl,AV.nl,AV.nl,AV.nl,AV.nl],Blk.box [sv name,sv w1,bv b4,iv (↑(1+a2):Int),AV.sl [],bv b3,AV.sl [],AV.sl [],AV.nl,AV.sl [e45.cells],AV.own 5 0],Blk.box (zaj w1).cells,Blk.box [fsl p40.frs,ZS p40.tbs],Blk.row Ty.Action [] false]:Heap)=_ from Zcv1) g47)⟩
    ·obtain ⟨r48,t48,q48,c48⟩:=(zck t37 l zah)
     obtain ⟨p49,q49,c49⟩:=(zbl (Tg.mk name w1 b4 (↑(1+a2):Int) [] b3 [] r48 [] [] []) zah)
     obtain ⟨b50,t50,c50⟩:=(zam t48 3 zah)
     let p_6:List St:=p_5++[sb h38,sb h39,sl [0] c48,sc c49,sl [0] c50]
     rcases (Bool.eq_false_or_eq_true b50).symm with h51|h51
     ·obtain ⟨a52,t52,q52,c52⟩:=(zag t50 2 zah)
      obtain ⟨r53_0,r53_1,p53_0,g53⟩:=zat t name w1 b4 ((↑(1+a2):Int)) ([]) b3 ([]) r48 ([]) (zaj w1) p49 (1+a52) t52 zah zah zah zah zah zah zah zah zah zah zah zah zah
      exact ⟨r53_0,r53_1,zc8,wkcN At.An (p_6++[sb h51,sl [0] c52,si (zaU (t:=1+(a52:Int)) (n:=1+a52) Zo Zo)]) [0,6,7,8,9,10] 5 [(.nl 2 4,5),(.nl 2 6,5),(.nl 2 9,5),(.ob 2 10 Ty.Action,6)] kr (g53)⟩
     ·obtain ⟨e54,t54,q54,c54⟩:=(za3 t50 p49 2 zah)
      obtain ⟨a55,t55,q55,c55⟩:=(zag t54 2 zah)
      obtain ⟨r56_0,r56_1,p56_0,g56⟩:=zat t name w1 b4 ((↑(1+a2):Int)) ([]) b3 ([]) r48 ([e54]) (zaj w1) p49 (1+a55) t55 zah zah zah zah zah zah zah zah zah zah zah zah zah
      exact ⟨r56_0,r56_1,zc8,wkcN At.An (p_6++[sb h51,sl [0] c54,sl [0] c55,si (zaU (t:=1+(a55:Int)) (n:=1+a55) Zo Zo)]) [0,6,7,8,9,10] 5 [(.nl 2 4,5),(.nl 2 6,5),(.ob 2 10 Ty.Action,6)] kr (zaR rfl (show ([Blk.box [AV.sl (List.map (fun n=>[iv n]) t55.l),iv (t55.pos:Int)],Blk.box [sv Zs0,sv Zs0,AV.bl false,iv 0,AV.nl,AV.bl false,AV.nl,AV.nl,AV.nl,AV.nl,AV.nl],Blk.box [sv name,sv w1,bv b4,iv (↑(1+a2):Int),AV.sl [],bv b3,AV.sl [],AV.sl (List.map (fun s=>[sv s]) r48),AV.nl,AV.sl [e54.cells],AV.own 5 0],Blk.box (zaj w1).cells,Blk.box [fsl p49.frs,ZS p49.tbs],Blk.row Ty.Action [] false]:Heap)=_ from Zcv1) g56)⟩
   ·obtain ⟨r57,t57,q57,c57⟩:=(zck t37 l zah)
    obtain ⟨p58,q58,c58⟩:=(zbl (Tg.mk name w1 b4 (↑(1+a2):Int) [] b3 r57 [] [] [] []) zah)
    obtain ⟨b59,t59,c59⟩:=(zam t57 3 zah)
    let p_7:List St:=p_5++[sb h38,sl [0] c57,sc c58,sl [0] c59]
    rcases (Bool.eq_false_or_eq_true b59).symm with h60|h60
    ·obtain ⟨a61,t61,q61,c61⟩:=(zag t59 2 zah)
     obtain ⟨r62_0,r62_1,p62_0,g62⟩:=zat t name w1 b4 ((↑(1+a2):Int)) ([]) b3 r57 ([]) ([]) (zaj w1) p58 (1+a61) t61 zah zah zah zah zah zah zah zah zah zah zah zah zah
     exact ⟨r62_0,r62_1,zc8,wkcN At.An (p_7++[sb h60,sl [0] c61,si (zaU (t:=1+(a61:Int)) (n:=1+a61) Zo Zo)]) [0,6,7,8,9,10] 5 [(.nl 2 4,5),(.nl 2 7,5),(.nl 2 9,5),(.ob 2 10 Ty.Action,6)] kr (g62)⟩
    ·obtain ⟨e63,t63,q63,c63⟩:=(za3 t59 p58 2 zah)
     obtain ⟨a64,t64,q64,c64⟩:=(zag t63 2 zah)
     obtain ⟨r65_0,r65_1,p65_0,g65⟩:=zat t name w1 b4 ((↑(1+a2):Int)) ([]) b3 r57 ([]) ([e63]) (zaj w1) p58 (1+a64) t64 zah zah zah zah zah zah zah zah zah zah zah zah zah
     exact ⟨r65_0,r65_1,zc8,wkcN At.An (p_7++[sb h60,sl [0] c63,sl [0] c64,si (zaU (t:=1+(a64:Int)) (n:=1+a64) Zo Zo)]) [0,6,7,8,9,10] 5 [(.nl 2 4,5),(.nl 2 7,5),(.ob 2 10 Ty.Action,6)] kr (zaR rfl (show ([Blk.box [AV.sl (List.map (fun n=>[iv n]) t64.l),iv (t64.pos:Int)],Blk.box [sv Zs0,sv Zs0,AV.bl false,iv 0,AV.nl,AV.bl false,AV.nl,AV.nl,AV.nl,AV.nl,AV.nl],Blk.box [sv name,sv w1,bv b4,iv (↑(1+a2):Int),AV.sl [],bv b3,AV.sl (List.map (fun s=>[sv s]) r57),AV.sl [],AV.nl,AV.sl [e63.cells],AV.own 5 0],Blk.box (zaj w1).cells,Blk.box [fsl p58.frs,ZS p58.tbs],Blk.row Ty.Action [] false]:Heap)=_ from Zcv1) g65)⟩
  ·obtain ⟨a66,t66,q66,c66⟩:=(zag t35 ((↑(List.map Col.cells (zaj w1).cols).length:Int)) zah)
   obtain ⟨x67,e67⟩:=zbK (l:=(zaj w1).cols) (i:=a66) zah
   obtain ⟨a68,t68,q68,c68⟩:=(zag t66 3 zah)
   let p_8:List St:=p_1++[sg h5,sl [0] c35,sb h36,sd [(6,[sl [0] c66]),(7,[se (zai Col.cells e67 rfl)])],sl [0] c68]
   cases h69:(a68:Int)==0
   ·cases h70:(a68:Int)==1
    ·obtain ⟨p71,q71,c71⟩:=(zbl (Tg.mk name w1 b4 (↑(1+a2):Int) [x67.name] b3 [] [] [] [] []) zah)
     obtain ⟨b72,t72,c72⟩:=(zam t68 3 zah)
     rcases (Bool.eq_false_or_eq_true b72).symm with h73|h73
     ·obtain ⟨a74,t74,q74,c74⟩:=(zag t72 2 zah)
      obtain ⟨r75_0,r75_1,p75_0,g75⟩:=zat t name w1 b4 ((↑(1+a2):Int)) ([x67.name]) b3 ([]) ([]) ([]) (zaj w1) p71 (1+a74) t74 zah zah zah zah zah zah zah zah zah zah zah zah zah
      exact ⟨r75_0,r75_1,zc8,wkcN At.An (p_8++[sb h69,sb h70,sc c71,sl [0] c72,sb h73,sl [0] c74,si (zaU (t:=1+(a74:Int)) (n:=1+a74) Zo Zo)]) [0,6,7,8,9,10] 5 [(.nl 2 6,5),(.nl 2 7,5),(.nl 2 9,5),(.ob 2 10 Ty.Action,6)] kr (g75)⟩
     ·obtain ⟨e76,t76,q76,c76⟩:=(za3 t72 p71 2 zah)
      obtain ⟨a77,t77,q77,c77⟩:=(zag t76 2 zah)
      obtain ⟨r78_0,r78_1,p78_0,g78⟩:=zat t name w1 b4 ((↑(1+a2):Int)) ([x67.name]) b3 ([]) ([]) ([e76]) (zaj w1) p71 (1+a77) t77 zah zah zah zah zah zah zah zah zah zah zah zah zah
      exact ⟨r78_0,r78_1,zc8,wkcN At.An (p_8++[sb h69,sb h70,sc c71,sl [0] c72,sb h73,sl [0] c76,sl [0] c77,si (zaU (t:=1+(a77:Int)) (n:=1+a77) Zo Zo)]) [0,6,7,8,9,10] 5 [(.nl 2 6,5),(.nl 2 7,5),(.ob 2 10 Ty.Action,6)] kr (zaR rfl (show ([Blk.box [AV.sl (List.map (fun n=>[iv n]) t77.l),iv (t77.pos:Int)],Blk.box [sv Zs0,sv Zs0,AV.bl false,iv 0,AV.nl,AV.bl false,AV.nl,AV.nl,AV.nl,AV.nl,AV.nl],Blk.box [sv name,sv w1,bv b4,iv (↑(1+a2):Int),AV.sl [[sv x67.name]],bv b3,AV.sl [],AV.sl [],AV.nl,AV.sl [e76.cells],AV.own 5 0],Blk.box (zaj w1).cells,Blk.box [fsl p71.frs,ZS p71.tbs],Blk.row Ty.Action [] false]:Heap)=_ from Zcv1) g78)⟩
    ·obtain ⟨r79,t79,q79,c79⟩:=(zck t68 l zah)
     obtain ⟨p80,q80,c80⟩:=(zbl (Tg.mk name w1 b4 (↑(1+a2):Int) [x67.name] b3 [] r79 [] [] []) zah)
     obtain ⟨b81,t81,c81⟩:=(zam t79 3 zah)
     let p_9:List St:=p_8++[sb h69,sb h70,sl [0] c79,sc c80,sl [0] c81]
     rcases (Bool.eq_false_or_eq_true b81).symm with h82|h82
     ·obtain ⟨a83,t83,q83,c83⟩:=(zag t81 2 zah)
      obtain ⟨r84_0,r84_1,p84_0,g84⟩:=zat t name w1 b4 ((↑(1+a2):Int)) ([x67.name]) b3 ([]) r79 ([]) (zaj w1) p80 (1+a83) t83 zah zah zah zah zah zah zah zah zah zah zah zah zah
      exact ⟨r84_0,r84_1,zc8,wkcN At.An (p_9++[sb h82,sl [0] c83,si (zaU (t:=1+(a83:Int)) (n:=1+a83) Zo Zo)]) [0,6,7,8,9,10] 5 [(.nl 2 6,5),(.nl 2 9,5),(.ob 2 10 Ty.Action,6)] kr (g84)⟩
     ·obtain ⟨e85,t85,q85,c85⟩:=(za3 t81 p80 2 zah)
      obtain ⟨a86,t86,q86,c86⟩:=(zag t85 2 zah)
      obtain ⟨r87_0,r87_1,p87_0,g87⟩:=zat t name w1 b4 ((↑(1+a2):Int)) ([x67.name]) b3 ([]) r79 ([e85]) (zaj w1) p80 (1+a86) t86 zah zah zah zah zah zah zah zah zah zah zah zah zah
      exact ⟨r87_0,r87_1,zc8,wkcN At.An (p_9++[sb h82,sl [0] c85,sl [0] c86,si (zaU (t:=1+(a86:Int)) (n:=1+a86) Zo Zo)]) [0,6,7,8,9,10] 5 [(.nl 2 6,5),(.ob 2 10 Ty.Action,6)] kr (zaR rfl (show ([Blk.box [AV.sl (List.map (fun n=>[iv n]) t86.l),iv (t86.pos:Int)],Blk.box [sv Zs0,sv Zs0,AV.bl false,iv 0,AV.nl,AV.bl false,AV.nl,AV.nl,AV.nl,AV.nl,AV.nl],Blk.box [sv name,sv w1,bv b4,iv (↑(1+a2):Int),AV.sl [[sv x67.name]],bv b3,AV.sl [],AV.sl (List.map (fun s=>[sv s]) r79),AV.nl,AV.sl [e85.cells],AV.own 5 0],Blk.box (zaj w1).cells,Blk.box [fsl p80.frs,ZS p80.tbs],Blk.row Ty.Action [] false]:Heap)=_ from Zcv1) g87)⟩
   ·obtain ⟨r88,t88,q88,c88⟩:=(zck t68 l zah)
    obtain ⟨p89,q89,c89⟩:=(zbl (Tg.mk name w1 b4 (↑(1+a2):Int) [x67.name] b3 r88 [] [] [] []) zah)
    obtain ⟨b90,t90,c90⟩:=(zam t88 3 zah)
    let p_10:List St:=p_8++[sb h69,sl [0] c88,sc c89,sl [0] c90]
    rcases (Bool.eq_false_or_eq_true b90).symm with h91|h91
    ·obtain ⟨a92,t92,q92,c92⟩:=(zag t90 2 zah)
     obtain ⟨r93_0,r93_1,p93_0,g93⟩:=zat t name w1 b4 ((↑(1+a2):Int)) ([x67.name]) b3 r88 ([]) ([]) (zaj w1) p89 (1+a92) t92 zah zah zah zah zah zah zah zah zah zah zah zah zah
     exact ⟨r93_0,r93_1,zc8,wkcN At.An (p_10++[sb h91,sl [0] c92,si (zaU (t:=1+(a92:Int)) (n:=1+a92) Zo Zo)]) [0,6,7,8,9,10] 5 [(.nl 2 7,5),(.nl 2 9,5),(.ob 2 10 Ty.Action,6)] kr (g93)⟩
    ·obtain ⟨e94,t94,q94,c94⟩:=(za3 t90 p89 2 zah)
     obtain ⟨a95,t95,q95,c95⟩:=(zag t94 2 zah)
     obtain ⟨r96_0,r96_1,p96_0,g96⟩:=zat t name w1 b4 ((↑(1+a2):Int)) ([x67.name]) b3 r88 ([]) ([e94]) (zaj w1) p89 (1+a95) t95 zah zah zah zah zah zah zah zah zah zah zah zah zah
     exact ⟨r96_0,r96_1,zc8,wkcN At.An (p_10++[sb h91,sl [0] c94,sl [0] c95,si (zaU (t:=1+(a95:Int)) (n:=1+a95) Zo Zo)]) [0,6,7,8,9,10] 5 [(.nl 2 7,5),(.ob 2 10 Ty.Action,6)] kr (zaR rfl (show ([Blk.box [AV.sl (List.map (fun n=>[iv n]) t95.l),iv (t95.pos:Int)],Blk.box [sv Zs0,sv Zs0,AV.bl false,iv 0,AV.nl,AV.bl false,AV.nl,AV.nl,AV.nl,AV.nl,AV.nl],Blk.box [sv name,sv w1,bv b4,iv (↑(1+a2):Int),AV.sl [[sv x67.name]],bv b3,AV.sl (List.map (fun s=>[sv s]) r88),AV.sl [],AV.nl,AV.sl [e94.cells],AV.own 5 0],Blk.box (zaj w1).cells,Blk.box [fsl p89.frs,ZS p89.tbs],Blk.row Ty.Action [] false]:Heap)=_ from Zcv1) g96)⟩
def zgP (i:Nat):Str:=zbk.getD i ⟨#[]⟩
theorem zwC (i:Nat) (h:(i:Int) < 8):ArrAt (zbk.map sv) i 8 [sv (zgP i)] 1:=by
 have:i=0\/i=1\/i=2\/i=3\/i=4\/i=5\/i=6\/i=7:=by omega
 rcases this with rfl|rfl|rfl|rfl|rfl|rfl|rfl|rfl <;> exact ⟨by decide,by decide,rfl,rfl⟩
theorem zu7 {i:Nat} (h:i < 8):zgP i∈zbk:=by
 have:i=0\/i=1\/i=2\/i=3\/i=4\/i=5\/i=6\/i=7:=by omega
 rcases this with rfl|rfl|rfl|rfl|rfl|rfl|rfl|rfl <;> simp [zgP,zbk]
theorem zus {i:Nat} (h:i < 8):V.Good ⟨3,0,zgP i⟩:=by
 have:i=0\/i=1\/i=2\/i=3\/i=4\/i=5\/i=6\/i=7:=by omega
 rcases this with rfl|rfl|rfl|rfl|rfl|rfl|rfl|rfl <;> exact ⟨by kernel_rfl,by decide,by decide⟩
abbrev BareY (tb:List Tb):Prop:=tb.length=zao.length/\∀ x∈tb,Bare x
theorem bareY {tb:List Tb} (h:BareY tb):TbOk tb/\tb.length<=1000:=by
 have hl:tb.length=3:=h.1
 refine ⟨⟨by simp only [zac];omega,fun x hx=>(h.2 x hx).2,fun x hx=>by rw [(h.2 x hx).1];simp,fun x hx r hr=>by rw [(h.2 x hx).1] at hr;cases hr⟩,by omega⟩
structure TrG (r:Tg):Prop where
 tr:∃ nm pc fo,TrF nm r.table pc fo r
 table:TabN r.table
 prec:Few r.prec
 foll:Few r.foll
theorem TrG.ok {r:Tg} (h:TrG r):TgOk 6 r:=by
 obtain ⟨nm,pc,fo,ht⟩:=h.tr
 exact ⟨ht.of,h.prec,h.foll,ht.rank,by have:=ht.whl;simp only [Few];omega,ht.wh,by have:=ht.al;simp only [Few];omega,fun a ha=>(ht.act a ha).ok⟩
theorem TrG.set {r:Tg} (h:TrG r):∀ a∈r.acts,zo0 a:=by
 obtain ⟨nm,pc,fo,ht⟩:=h.tr
 exact fun a ha=>(ht.act a ha).set
theorem TrW.gen {nm:Str} {l:List Tg} {r:Tg} (h:TrW nm l r):TrG r:=⟨⟨nm,h.tr⟩,h.table,h.prec.1,h.foll.1⟩
theorem zl8 (t:Tg) (tb:List Tb) (h:TrG t) (ht:BareY tb):∃ (e:Int),zab E0 S.AD [t.av,tsl tb] [] (iv e) [] :=
 zAK h.ok h.set (bareY ht).1 (bareY ht).2 Zd
theorem znv (l:List Lk) (n:Str) (ps fs:List Str) (h:LkN zbk l) (hn:n∈zbk) (hp:Few ps) (hf:Few fs) (hps:∀ s∈ps,s∈zbk) (hfs:∀ s∈fs,s∈zbk):∃ (r:List Lk) (e:Int),LkN zbk r/\zab E0 S.BU [lsl l,sv n,ssl ps,ssl fs] [] (.tup [lsl r,iv e]) [] :=
 zuG l n ps fs zbk Zd h (h.short Zd) hn (zaD hp) (zaD hf) hps hfs
structure TrsY (l:List Tg):Prop where
 gen:∀ x∈l,TrG x
 names:∀ x∈l,x.name∈zbk
theorem TrW.nameEq {nm:Str} {l:List Tg} {r:Tg} (h:TrW nm l r):r.name=nm:=by
 obtain ⟨_,_,ht⟩:=h.tr;exact ht.name
theorem TrW.nameMem {l:List Tg} {r:Tg} (h:TrW (zgP l.length) l r) (hl:l.length < 8):r.name∈zbk:=by rw [h.nameEq];exact zu7 hl
theorem TrW.inN {nm:Str} {l:List Tg} {r:Tg} (h:TrW nm l r) (hl:TrsY l):(∀ s∈r.prec,s∈zbk)/\∀ s∈r.foll,s∈zbk:=by
 refine ⟨fun s hs=>?_,fun s hs=>?_⟩
 ·obtain ⟨x,hx,rfl⟩:=List.mem_map.1 (h.prec.2 s hs)
  exact hl.names x hx
 ·obtain ⟨x,hx,rfl⟩:=List.mem_map.1 (h.foll.2 s hs)
  exact hl.names x hx
theorem TrsY.push {l:List Tg} {r:Tg} (h:TrsY l) (hr:TrW (zgP l.length) l r) (hl:l.length < 8):TrsY (l++[r]) :=
 ⟨fun x hx=>by
  simp only [List.mem_append,List.mem_singleton] at hx
  rcases hx with hx|rfl
  ·exact h.gen x hx
  ·exact hr.gen,fun x hx=>by
  simp only [List.mem_append,List.mem_singleton] at hx
  rcases hx with hx|rfl
  ·exact h.names x hx
  ·exact hr.nameMem hl⟩
noncomputable def L_tz (t0:Tp) (k:Nat) (u:Tp) (l:List Tg) (o:List Lk) (sh:Bool):Cfg:=zan B.Bm 0 [(0,.p 0 0),(6,.own 1 l.length),(7,lsl o),(8,iv (k:Nat))] [.box u.cells,.row Ty.Trigger (l.map Tg.cells) sh]
theorem zgi (t0:Tp) (hsh:zac zao) (hc:∀ s∈zao,zac s.cols) (k:Nat) (u:Tp) (l:List Tg) (o:List Lk) (sh:Bool) (hi:k<=1000000000) (hI:l.length+k<=8/\TrsY l/\LkN zbk o):∃ (u':Tp) (l':List Tg) (o':List Lk) (sh':Bool),(l'.length+0<=8/\TrsY l'/\LkN zbk o')/\(decide ((0:Int) < ((0:Nat):Int))=false)/\∀ R,Good E0 B.Bm [.box t0.cells] (L_tz t0 0 u' l' o' sh') R->Good E0 B.Bm [.box t0.cells] (L_tz t0 k u l o sh) R:=by
 induction k generalizing u l o sh with
 | zero=>exact ⟨u,l,o,sh,hI,by decide,fun R hg=>hg⟩
 | succ k ih =>
  have h0:decide ((0:Int) < (((k+1):Nat):Int))=true:=by first|(simp;done)|(simp;omega)
  have hw:IntKind.i64.wrap (((k+1:Nat):Int) - 1)=((k:Nat):Int):=zka k Zo
  have hll:l.length < 8:=by omega
  have hls:zac l:=by (simp only [zac];omega)
  have hgn:=zus hll
  obtain ⟨r1,t1,q1,c1⟩:=(zhA u (zgP l.length) l zed zed zed)
  obtain ⟨out2,q2,c2⟩:=(zoX zed zed)
  obtain ⟨e3,c3⟩:=(zl8 r1 out2 zed zed)
  let p_1:List St:=[sb h0,sqx (l.length=(List.map Tg.cells l).length),sa (zwC l.length zed),skx (True/\True/\l.length=(List.map Tg.cells l).length/\True) [0] c1,sd [(1,[sc c2]),(2,[sc c3])]]
  cases h4:e3 != 0
  ·obtain ⟨r5,e5,q5,c5⟩:=(znv o r1.name r1.prec r1.foll zed zed zed zed zed zed)
   cases h6:e5==0
   ·obtain ⟨uZ,lZ,oZ,shZ,qZ,xZ,gZ⟩:=ih t1 l o true Zo zw9;exact ⟨uZ,lZ,oZ,shZ,qZ,xZ,fun R hg=>zaa (wkl (p_1++[sb h4,sc c5,sb h6,si hw]) [0,6,7,8] 2 kr (gZ R hg))⟩
   ·obtain ⟨uZ,lZ,oZ,shZ,qZ,xZ,gZ⟩:=ih t1 (l++[r1]) r5 true Zo zw9;exact ⟨uZ,lZ,oZ,shZ,qZ,xZ,fun R hg=>zaa (wkl (p_1++[sb h4,sc c5,sb h6,sqA (List.map Tg.cells l) [r1.cells] l.length 11 200,si hw]) [0,6,7,8] 2 kr (zaE 6 1 (List.map Tg.cells l++[r1.cells]) (gZ R hg) (he:=by first|rfl|(simp only [List.map_append,List.map_cons,List.map_nil,List.length_append,List.length_map,List.length_cons,List.length_nil] <;> rfl)) (hm:=by first|rfl|(simp only [List.map_append,List.map_cons,List.map_nil,List.length_append,List.length_map,List.length_cons,List.length_nil] <;> rfl))))⟩
  ·obtain ⟨uZ,lZ,oZ,shZ,qZ,xZ,gZ⟩:=ih t1 l o true Zo zw9;exact ⟨uZ,lZ,oZ,shZ,qZ,xZ,fun R hg=>zaa (wkl (p_1++[sb h4,si hw]) [0,6,7,8] 2 kr (gZ R hg))⟩
structure TrsZ (l:List Tg) (o:List Lk):Prop where
 len:l.length<=8
 trs:TrsY l
 ord:LkN zbk o
theorem trsZ {l:List Tg} {o:List Lk} (h:l.length+0<=8/\TrsY l/\LkN zbk o):TrsZ l o:=⟨by have:=h.1;omega,h.2.1,h.2.2⟩
theorem zyK:∀ s∈zao,zac s.cols:=fun s hs=>zaD (zfo hs).few
theorem zke (t:Tp) (n:Int) (hn:0<=n/\n<=8) (hsh:zac zao) (hw:IntKind.i64.wrap (n+1)=n+1):∃ (l:List Tg) (o:List Lk) (t':Tp),TrsZ l o/\zab E0 S.Bm [.p 0 0,iv n] [.box t.cells] (.tup [.sl (l.map Tg.cells),lsl o]) [.box t'.cells]:=by
 obtain ⟨a1,t1,q1,c1⟩:=(zag t (n+1) zqb)
 obtain ⟨u2,l2,o2,sh2,q2,q2_1,g2⟩:=zgi t zqb zqb a1 t1 ([]) ([]) false zqb zqb
 exact ⟨l2,o2,u2,(by exact trsZ ‹_›),wkcN At.Bm [si hw,sl [0] c1,sqx True] [0,6,7,8] 1 [(.fz 7,1),(.ot 6 Ty.Trigger,2)] kr (g2 _ (zaa (wkr [sqx (l2.length=(List.map Tg.cells l2).length/\True/\True),sb Zf] kr)))⟩
theorem zgT (t:Tp) (n:Int) (hn:0<=n/\n<=8):∃ (l:List Tg) (o:List Lk) (t':Tp),TrsZ l o/\zab E0 S.Bm [.p 0 0,iv n] [.box t.cells] (.tup [.sl (l.map Tg.cells),lsl o]) [.box t'.cells] :=
 zke t n hn zhG (by rw [IntKind.wrap_i64];omega)
theorem zrk (t1 t2 t3:List Tb) (n:Str):∀ (l r:List Tb) (i j k:Nat),zbS t1 n (l++r) i=bif (zbS t2 n l j).2 then zbS t2 n l j else zbS t3 n r k
 | [],r,i,j,k=>by
  have h:∀ (r:List Tb) (i k:Nat),zbS t1 n r i=zbS t3 n r k:=fun r=>by
   induction r with
   | nil=>intros;rfl
   | cons x r ih=>intro i k;unfold zbS;cases ByteArray.toList x.sch.name==ByteArray.toList n <;> simp only [cond_true,cond_false];exact ih _ _
  exact h r i k
 | x::l,r,i,j,k=>by
  have ih:=zrk t1 t2 t3 n l r (i+1) (j+1) k
  simp only [List.cons_append]
  have e:∀ (tb l:List Tb) (i:Nat),zbS tb n (x::l) i=bif ByteArray.toList x.sch.name==ByteArray.toList n then (x.sch,true) else zbS tb n l (i+1):=fun _ _ _=>rfl
  rw [e,e]
  cases ByteArray.toList x.sch.name==ByteArray.toList n
  ·simp only [cond_false];exact ih
  ·simp only [cond_true]
theorem zu1 (m r:List Tb) (n:Str):zaf (m++r) n=bif (zaf m n).2 then zaf m n else zaf r n:=zrk _ m r n m r 0 0 0
theorem zpP {m:List Tb} {n:Str} (h:(zaf m n).2=false):(zaf m n).1=Sch.mk Zs0 []:=by
 have h0:∀ (l:List Tb) (i:Nat),(zbS m n l i).2=false->(zbS m n l i).1=Sch.mk Zs0 []:=fun l=>by
  induction l with
  | nil=>intros;rfl
  | cons x r ih =>
   intro i
   unfold zbS
   cases ByteArray.toList x.sch.name==ByteArray.toList n
   ·simp only [cond_false];exact ih _
   ·simp only [cond_true];intro h;cases h
 exact h0 m 0 h
theorem zwZ {t:Tg} {s:Sch} {n:Str} (h1:(n.toList==sIns.toList)=false) (h2:(n.toList==sDel.toList)=false):zaf (trS t s) n=(Sch.mk Zs0 [],false):=by
 have h0:∀ (l:List Tb) (i:Nat),(∀ x∈l,x=trTb sIns s\/x=trTb sDel s)->zbS (trS t s) n l i=(Sch.mk Zs0 [],false):=fun l=>by
  induction l with
  | nil=>intros;rfl
  | cons x r ih =>
   intro i h
   unfold zbS
   have hx:(ByteArray.toList x.sch.name==ByteArray.toList n)=false:=by
    rcases h x Zs with rfl|rfl
    ·rw [← h1];simp only [trTb];exact Bool.eq_iff_iff.2 (by simp only [beq_iff_eq];exact eq_comm)
    ·rw [← h2];simp only [trTb];exact Bool.eq_iff_iff.2 (by simp only [beq_iff_eq];exact eq_comm)
   rw [hx,cond_false]
   exact ih _ fun x hx=>h x (by simp [hx])
 exact h0 _ 0 fun x hx=>zvL hx
theorem zol {t:Tg} {m:List Tb} {n:Str} (h1:(n.toList==sIns.toList)=false) (h2:(n.toList==sDel.toList)=false):zaf (zax t m) n=zaf m n:=by
 rw [zax,zu1,zwZ h1 h2]
 cases h:(zaf m n).2
 ·rw [cond_false,← h,← zpP h]
 ·rw [cond_true]
theorem zpF {m:List Tb} {n:Str} (h1:(n.toList==sIns.toList)=false) (h2:(n.toList==sDel.toList)=false):knS m n=zaf m n:=by
 have h1':(n.toList==ZsI.toList)=false:=h1
 have h2':(n.toList==ZsD.toList)=false:=h2
 rw [knS,h1',h2',cond_false,cond_false]
theorem zqP (t:Tg) (m:List Tb) (n:Str):knS (zax t m) n=knS m n:=by
 cases h1:n.toList==sIns.toList
 ·cases h2:n.toList==sDel.toList
  ·rw [zpF h1 h2,zpF h1 h2,zol h1 h2]
  ·have h1':(n.toList==ZsI.toList)=false:=h1
   have h2':(n.toList==ZsD.toList)=true:=h2
   rw [knS,knS,h1',h2',cond_false,cond_true,cond_false,cond_true]
 ·have h1':(n.toList==ZsI.toList)=true:=h1
  rw [knS,knS,h1',cond_true,cond_true]
theorem zvJ {n:Str} (h:TabN n):(n.toList==sIns.toList)=false/\(n.toList==sDel.toList)=false:=by
 rcases h with rfl|rfl|rfl <;> exact ⟨by kernel_rfl,by kernel_rfl⟩
def tabM:List Tb:=zao.map fun s=>⟨s,1,[]⟩
theorem zAk {n:Str} (h:TabN n):zaf tabM n=(zaj n,true)/\zaj n∈zao/\(zaj n).name=n:=by
 rcases h with rfl|rfl|rfl
 ·exact ⟨by kernel_rfl,by rw [show zaj ⟨#[116]⟩=schT from zld];simp [zao,schT],by kernel_rfl⟩
 ·exact ⟨by kernel_rfl,by rw [show zaj ⟨#[117]⟩=⟨⟨#[117]⟩,(zaj ⟨#[117]⟩).cols⟩ by kernel_rfl];simp [zao];kernel_rfl,by kernel_rfl⟩
 ·exact ⟨by kernel_rfl,by rw [show zaj ⟨#[108,111,103]⟩=zlc from zj7];simp [zao,zlc],by kernel_rfl⟩
theorem zpa (t:Tg) (m:List Tb) (e:X) (frs:List Fr):zcw (zax t m) e frs=zcw m e frs:=by
 unfold zcw;rw [zqP]
theorem zcG {α β:Type} {l:List α} {f g:α->List β} (h:∀ x∈l,f x=g x):l.flatMap f=l.flatMap g:=by
 induction l with
 | nil=>rfl
 | cons x r ih=>rw [List.flatMap_cons,List.flatMap_cons,h x Zs,ih fun y hy=>h y (by simp [hy])]
def zls (M m:List Tb) (e:X):Prop:=∀ (n:Nat) (frs:List Fr),zas M n [e] frs=zas m n [e] frs
theorem zyH {M m:List Tb} {l:List X} (h:∀ x∈l,zls M m x) (n:Nat) (frs:List Fr):zas M n l frs=zas m n l frs:=by
 rw [zcR,zcR m];exact zcG fun x hx=>h x hx n frs
theorem zn3 {t:Tg} {m:List Tb} {e:X} (hs:e.sub=[]) (h:∀ x∈e.args,zls (zax t m) m x):zls (zax t m) m e:=fun n frs=>by
 cases n with
 | zero=>rfl
 | succ n =>
  rw [zhb,zhb,zpa,hs,zcG fun x hx=>h x hx n frs];rfl
theorem zvR {t:Tg} {m:List Tb} {n:Nat} {frs:List Fr} {w:Int} {e:X} (h:XT zao n frs w e):zls (zax t m) m e:=by
 induction h with
 | lit _ _ _=>exact zn3 rfl fun x hx=>by cases hx
 | col h =>
  obtain ⟨i,f,c,a,_,_,_,rfl,_⟩:=h
  exact zn3 rfl fun x hx=>by cases hx
 | un _ _ ih=>exact zn3 rfl fun x hx=>by simp only [X.args_mk,List.mem_singleton] at hx;subst hx;exact ih
 | isn _ ih=>exact zn3 rfl fun x hx=>by simp only [X.args_mk,List.mem_singleton] at hx;subst hx;exact ih
 | bin _ _ _ ih1 ih2 =>
  refine zn3 rfl fun x hx=>?_
  simp only [X.args_mk,List.mem_cons,List.not_mem_nil,or_false] at hx
  rcases hx with rfl|rfl
  ·exact ih1
  ·exact ih2
 | btw _ _ _ ih1 ih2 ih3 =>
  refine zn3 rfl fun x hx=>?_
  simp only [X.args_mk,List.mem_cons,List.not_mem_nil,or_false] at hx
  rcases hx with rfl|rfl|rfl
  ·exact ih1
  ·exact ih2
  ·exact ih3
 | @qry _ _ k w st it wh s hs _ _ _ _ ih1 ih2 =>
  intro n frs
  cases n with
  | zero=>rfl
  | succ n =>
   have hn:=zvJ (zhu hs).1
   rw [zhb,zhb,zpa]
   simp only [X.args_mk,X.sub_mk,List.flatMap_nil,List.flatMap_cons,List.append_nil]
   have e1:∀ x∈(Qy.mk st it s.name wh).items,zls (zax t m) m x:=ih1
   have e2:∀ x∈(Qy.mk st it s.name wh).wh,zls (zax t m) m x:=ih2
   have e3:zaf (zax t m) (Qy.mk st it s.name wh).frm=zaf m (Qy.mk st it s.name wh).frm:=zol hn.1 hn.2
   simp only [accQ,e3,zqP]
   rw [zyH e1,zyH e2]
theorem zBs (m:List Tb) (q:Qy):zcZ m q=zcY m q:=by
 unfold zcZ zcY
 cases h1:q.frm.toList==sIns.toList
 ·cases h2:q.frm.toList==sDel.toList
  ·rw [zpF h1 h2]
   cases h:(zaf m q.frm).2
   ·rw [zpP h];cases q.star <;> rfl
   ·cases q.star <;> rfl
  ·have h1':(q.frm.toList==ZsI.toList)=false:=h1
   have h2':(q.frm.toList==ZsD.toList)=true:=h2
   rw [knS,h1',h2',cond_false,cond_true]
   cases (zaf m q.frm).2 <;> cases q.star <;> rfl
 ·have h1':(q.frm.toList==ZsI.toList)=true:=h1
  rw [knS,h1',cond_true]
  cases (zaf m q.frm).2 <;> cases q.star <;> rfl
theorem ztz {l:List Str} {s:Str}:hasR l s=true↔s∈l:=by
 unfold hasR
 rw [List.any_eq_true]
 constructor
 ·rintro ⟨u,hu,h⟩
  have:s.toList=u.toList:=by simpa using h
  rw [zfB this];exact hu
 ·intro h;exact ⟨s,h,by simp⟩
theorem hasS_R (l:List Str) (s:Str):hasS l s=hasR l s:=zoU l s l 0
theorem TrG.bef {r:Tg} (h:TrG r) (hb:r.before=true):(∀ x∈r.when_,∃ frs,XT zao 6 frs 2 x)/\∀ a∈r.acts,BefA r.table r.each r.event a:=by
 obtain ⟨nm,pc,fo,ht⟩:=h.tr
 exact ⟨ht.whb hb,fun a ha=>(ht.act a ha).bef hb⟩
theorem TrG.aft {r:Tg} (h:TrG r) (hb:r.before=false):∀ a∈r.acts,AftA a:=by
 obtain ⟨nm,pc,fo,ht⟩:=h.tr
 exact fun a ha=>(ht.act a ha).aft hb
theorem zs6 {tb:Str} {ea:Bool} {ev:Int} {a:Ac} (h:BefA tb ea ev a):setQ a=a.sets:=by
 cases h with
 | abort=>rfl
 | set _ _ _ _=>rfl
theorem zl5 {t:Tg} (h:∀ a∈t.acts,BefA t.table t.each t.event a):zbp t=zb0 t:=by
 rw [zbp,zb0,zbb,List.map_flatMap]
 congr 1
 exact zcG fun a ha=>by rw [zs6 (h a ha)]
theorem zAA {n:Nat} {tb:Str} {ea:Bool} {ev:Int} {a:Ac} (h:BefA tb ea ev a):vnA n a=(a.sets.map Se.ex).flatMap (zaq qNEW n):=by
 cases h with
 | abort=>cases n <;> rfl
 | @set c e frs _ _ _ _ =>
  have h1:=zgC qNEW n e
  have e1:(flX n [e]).flatMap vnE=(flX n [e]).flatMap (nmE qNEW):=rfl
  rw [← e1] at h1
  cases n with
  | zero=>simp only [vnA,List.flatMap_nil,List.nil_append,List.flatMap_cons,List.append_nil,List.map_cons,List.map_nil,← h1];simp [flQ,flX]
  | succ n=>simp only [vnA,List.flatMap_nil,List.nil_append,List.flatMap_cons,List.append_nil,List.map_cons,List.map_nil,← h1];simp [flQ,flX]
theorem row_eq {n:Nat} {t:Tg} (h:TrG t):rowP n t=rowR n t:=by
 unfold rowP rowR
 cases hb:t.before
 ·rfl
 ·cases ha:t.each
  ·rfl
  ·have hB:=(h.bef hb).2
   have e:ziJ n t=(zbp t).flatMap (zaq qNEW n):=by
    have e1:(flX n t.when_).flatMap vnE=t.when_.flatMap (zaq qNEW n):=zq6 qNEW n t.when_
    rw [ziJ,zbp,List.flatMap_append,e1,List.flatMap_assoc]
    congr 1
    exact zcG fun a ha=>zAA (hB a ha)
   simp only [e]
def uQ (e:X):Bool:=e.kind==2&&(e.table.toList==qOLD.toList || e.table.toList==qNEW.toList)
theorem pUq_eq (e:X):pUq e=!uQ e:=by
 unfold pUq uQ
 cases h1:e.kind==2 <;> cases h2:e.table.toList==qOLD.toList <;> simp [bne,h1] <;> simp_all
theorem zvO (p:X->Bool):∀ (n:Nat) (l:List X),visP p n l=(flX n l).all p
 | 0,l=>rfl
 | n+1,l=>by
  have ih:=zvO p n
  simp only [visP,flX,List.all_flatMap,List.all_cons,List.all_append,ih];rfl
theorem zn8 (n:Nat) (l:List X):(!visP pUq n l)=(flX n l).any uQ:=by
 rw [zvO,List.not_all_eq_any_not]
 congr 1
 funext e
 rw [pUq_eq,Bool.not_not]
theorem zvv (n:Nat) (x:X):nmQ n x=(flX n [x]).any uQ:=by
 unfold nmQ
 rw [← zgC,← zgC]
 rw [Bool.eq_iff_iff,decide_eq_true_eq,List.any_eq_true]
 constructor
 ·intro h
  have h0:∀ q:Str,0 < ((flX n [x]).flatMap (nmE q)).length->∃ y∈flX n [x],y.kind=2/\y.table.toList=q.toList:=fun q hq=>by
   obtain ⟨z,hz⟩:=List.exists_mem_of_length_pos hq
   obtain ⟨y,hy,hz⟩:=List.mem_flatMap.1 hz
   unfold nmE at hz
   cases hk:y.kind==2&&y.table.toList==q.toList
   ·rw [hk] at hz;cases hz
   ·simp only [Bool.and_eq_true,beq_iff_eq] at hk
    exact ⟨y,hy,hk⟩
  by_cases h1:0 < ((flX n [x]).flatMap (nmE qOLD)).length
  ·obtain ⟨y,hy,hk,ht⟩:=h0 qOLD h1
   exact ⟨y,hy,by unfold uQ;simp [hk,ht]⟩
  ·obtain ⟨y,hy,hk,ht⟩:=h0 qNEW Zo
   exact ⟨y,hy,by unfold uQ;simp [hk,ht]⟩
 ·rintro ⟨y,hy,h⟩
  have h0:∀ q:Str,(y.kind==2&&y.table.toList==q.toList)=true->0 < ((flX n [x]).flatMap (nmE q)).length:=fun q hq =>
   List.length_pos_of_mem (a:=y.name) (List.mem_flatMap.2 ⟨y,hy,by unfold nmE;rw [hq];simp⟩)
  unfold uQ at h
  cases h1:y.table.toList==qOLD.toList
  ·rw [h1,Bool.false_or] at h
   have:=h0 qNEW h;omega
  ·rw [h1,Bool.true_or,Bool.and_true] at h
   have:=h0 qOLD (by rw [h,h1];rfl);omega
theorem zlF:∀ (n:Nat) (l:List X),(∀ x∈l,XOk n x)->flX (n+1) l=flX n l
 | 0,l,h=>by
  cases l with
  | nil=>rfl
  | cons x r=>exact (h x Zs).elim
 | n+1,l,h=>by
  show (l.flatMap fun e=>e::(flX (n+1) e.args++e.sub.flatMap fun q=>flX (n+1) q.items++flX (n+1) q.wh))=l.flatMap fun e=>e::(flX n e.args++e.sub.flatMap fun q=>flX n q.items++flX n q.wh)
  refine zcG fun x hx=>?_
  obtain ⟨_,_,ha,hs⟩:=h x hx
  rw [zlF n x.args ha,zcG fun q hq=>by rw [zlF n q.items (hs q hq).2.1,zlF n q.wh (hs q hq).2.2]]
theorem zwU {n:Nat} {x:X} (h:XOk n x):nmQ (n+1) x=(flX n [x]).any uQ:=by
 rw [zvv,zlF n [x] fun y hy=>by simp only [List.mem_singleton] at hy;subst hy;exact h]
theorem nm_of (n:Nat) (q:Qy):nmQ (n+1) (xOf q)=((flX n q.items).any uQ || (flX n q.wh).any uQ):=by
 rw [zvv]
 have e:flX (n+1) [xOf q]=xOf q::(flX n q.items++flX n q.wh):=by
  have e0:flX (n+1) [xOf q]=[xOf q].flatMap fun e=>e::(flX n e.args++e.sub.flatMap fun q=>flX n q.items++flX n q.wh):=rfl
  have e1:flX n []=[]:=by cases n <;> rfl
  rw [e0,List.flatMap_cons,List.flatMap_nil,List.append_nil]
  simp only [xOf,X.args_mk,X.sub_mk,e1,List.nil_append,List.flatMap_cons,List.flatMap_nil,List.append_nil]
 rw [e,List.any_cons,List.any_append]
 rfl
theorem zgz {α:Type} {l:List α} {f g:α->Bool} (h:∀ x∈l,f x=g x):l.any f=l.any g:=by
 induction l with
 | nil=>rfl
 | cons x r ih=>rw [List.any_cons,List.any_cons,h x Zs,ih fun y hy=>h y (by simp [hy])]
theorem zyd (n:Nat) (l:List X):(flX n l).any uQ=l.any fun x=>(flX n [x]).any uQ:=by
 rw [ziu n l,List.any_flatMap]
theorem zAm {n:Nat} {a:Ac} (h:AcLi n a):(!zgc pUq n a)=(zb5 a).any (nmQ (n+1)):=by
 have e:∀ l:List X,(∀ x∈l,XOk n x)->l.any (nmQ (n+1))=!visP pUq n l:=fun l hl=>by
  rw [zn8,zyd];exact zgz fun x hx=>zwU (hl x hx)
 have e1:(a.rows.flatMap fun r=>r).any (nmQ (n+1))=!(a.rows.all fun r=>visP pUq n r):=by
  rw [List.any_flatMap,List.not_all_eq_any_not]
  exact zgz fun r hr=>e r (h.row r hr).2
 have e2:(a.query.map xOf).any (nmQ (n+1))=!(a.query.all (vQ (fun q=>visP pUq n q.items) (fun q=>visP pUq n q.wh))):=by
  rw [List.any_map,List.not_all_eq_any_not]
  refine zgz fun q hq=>?_
  simp only [Function.comp_apply,nm_of,vQ,Bool.not_and,zn8]
 have e3:(a.sets.map Se.ex).any (nmQ (n+1))=!(a.sets.all fun s=>visP pUq n [s.ex]):=by
  rw [List.any_map,List.not_all_eq_any_not]
  refine zgz fun s hs=>?_
  simp only [Function.comp_apply,zwU (h.set s hs),zn8]
 rw [zb5,List.any_append,List.any_append,List.any_append,e a.wh h.w,e1,e2,e3]
 unfold zgc zl4
 cases visP pUq n a.wh <;> cases (a.rows.all fun r=>visP pUq n r) <;> cases (a.query.all (vQ (fun q=>visP pUq n q.items) (fun q=>visP pUq n q.wh))) <;> cases (a.sets.all fun s=>visP pUq n [s.ex]) <;> rfl
theorem zBy {n:Nat} {t:Tg} (h:TgLi n t):zgb n t=(zdS t).any (nmQ (n+1)):=by
 have e:t.when_.any (nmQ (n+1))=!visP pUq n t.when_:=by
  rw [zn8,zyd];exact zgz fun x hx=>zwU (h.wh x hx)
 rw [zdS,List.any_append,e,List.any_flatMap,zgb]
 have e2:(t.acts.any fun a=>!zgc pUq n a)=t.acts.any fun a=>(zb5 a).any (nmQ (n+1)):=zgz fun a ha=>zAm (h.act a ha)
 rw [e2]
 cases !visP pUq n t.when_ <;> rfl
theorem zqJ {α:Type} (p:α->Bool):∀ (l:List α) (i:Nat),decide ((0:Int)<=idxF p l i)=l.any p
 | [],i=>by simp [idxF]
 | x::r,i=>by
  have ih:=zqJ p r (i+1)
  rw [idxF,List.any_cons]
  cases h:p x
  ·rw [cond_false,Bool.false_or];exact ih
  ·rw [cond_true,Bool.true_or];simp
theorem vc_mem {m:List Tb} {n:Nat} {s:Sch} {l:List X} {z:Acc}:z∈(flX n l).flatMap (vcE m s)↔∃ e∈l,z∈(zaq qOLD n e++zaq qNEW n e).flatMap (hcA s s.name):=by
 have h0:∀ (q:Str) (e:X) (c:Str),c∈zaq q n e↔∃ y∈flX n [e],y.kind=2/\y.table.toList=q.toList/\y.name=c:=fun q e c=>by
  rw [← zgC,List.mem_flatMap]
  constructor
  ·rintro ⟨y,hy,hc⟩
   unfold nmE at hc
   cases hk:y.kind==2&&y.table.toList==q.toList
   ·rw [hk] at hc;cases hc
   ·rw [hk,cond_true,List.mem_singleton] at hc
    simp only [Bool.and_eq_true,beq_iff_eq] at hk
    exact ⟨y,hy,hk.1,hk.2,hc.symm⟩
  ·rintro ⟨y,hy,h1,h2,rfl⟩
   exact ⟨y,hy,by unfold nmE;simp [h1,h2]⟩
 constructor
 ·intro h
  obtain ⟨y,hy,hz⟩:=List.mem_flatMap.1 h
  rw [ziu] at hy
  obtain ⟨e,he,hy⟩:=List.mem_flatMap.1 hy
  refine ⟨e,he,List.mem_flatMap.2 ⟨y.name,?_,?_⟩⟩
  ·unfold vcE at hz
   cases hk:y.kind==2&&(y.table.toList==ZsO.toList || y.table.toList==ZsN.toList)
   ·rw [hk,Bool.false_and] at hz;cases hz
   ·simp only [Bool.and_eq_true,Bool.or_eq_true,beq_iff_eq] at hk
    rw [List.mem_append]
    rcases hk.2 with h2|h2
    ·exact .inl ((h0 qOLD e _).2 ⟨y,hy,hk.1,h2,rfl⟩)
    ·exact .inr ((h0 qNEW e _).2 ⟨y,hy,hk.1,h2,rfl⟩)
  ·unfold vcE at hz
   unfold hcA
   cases hd:decide (0<=idxF (fun c=>colC c y.name) s.cols 0)
   ·rw [hd,Bool.and_false] at hz;cases hz
   ·rw [hd,Bool.and_true] at hz
    cases hk:y.kind==2&&(y.table.toList==ZsO.toList || y.table.toList==ZsN.toList)
    ·rw [hk] at hz;cases hz
    ·rw [hk] at hz;exact hz
 ·rintro ⟨e,he,h⟩
  obtain ⟨c,hc,hz⟩:=List.mem_flatMap.1 h
  have h1:∃ y∈flX n [e],(y.kind==2&&(y.table.toList==ZsO.toList || y.table.toList==ZsN.toList))=true/\y.name=c:=by
   rcases List.mem_append.1 hc with hc|hc
   ·obtain ⟨y,hy,h1,h2,h3⟩:=(h0 _ _ _).1 hc
    exact ⟨y,hy,by simp [h1,h2],h3⟩
   ·obtain ⟨y,hy,h1,h2,h3⟩:=(h0 _ _ _).1 hc
    exact ⟨y,hy,by simp [h1,h2],h3⟩
  obtain ⟨y,hy,hk,rfl⟩:=h1
  refine List.mem_flatMap.2 ⟨y,by rw [ziu];exact List.mem_flatMap.2 ⟨e,he,hy⟩,?_⟩
  unfold vcE
  rw [hk,Bool.true_and]
  exact hz
theorem zzj {tb:Str} {ea:Bool} {ev:Int} {a:Ac} (h:BefA tb ea ev a):∀ s∈a.sets,ea=true/\(∃ c∈(zaj tb).cols,c.name=s.col)/\∃ frs w,XT zao 6 frs w s.ex:=fun s hs=>by
 cases h with
 | abort=>cases hs
 | @set c e frs h1 h2 h3 h4 =>
  simp only [List.mem_singleton] at hs
  subst hs
  exact ⟨h1,⟨c,h3,rfl⟩,frs,_,h4⟩
theorem zoP {t:Tg} (h:∀ a∈t.acts,BefA t.table t.each t.event a):∀ s∈zbb t,t.each=true/\(∃ c∈(zaj t.table).cols,c.name=s.col)/\∃ frs w,XT zao 6 frs w s.ex:=fun s hs=>by
 obtain ⟨a,ha,hs⟩:=List.mem_flatMap.1 hs
 rw [zs6 (h a ha)] at hs
 exact zzj (h a ha) s hs
theorem zoM {n:Nat} {t:Tg} (h:TrG t) (hb:t.before=true) (c:Str):c∈(rowP n t).2↔c∈(zbb t).map Se.col:=by
 unfold rowP
 rw [hb]
 cases ha:t.each
 ·have:zbb t=[]:=by
   cases hs:zbb t with
   | nil=>rfl
   | cons s r =>
    have:=(zoP (h.bef hb).2 s (by rw [hs];simp)).1
    rw [ha] at this;cases this
  rw [this]
  simp
 ·simp only [Bool.not_true,cond_false]
  exact ztO
theorem zxF {n:Nat} {c:Str} {b:List Tg} (h:∀ t∈b,TrG t/\t.before=true):zmM n c b=setR c b :=
 zgz fun t ht=>by
  rw [hasS_R,Bool.eq_iff_iff,ztz,ztz,zoM (h t ht).1 (h t ht).2]
theorem zA4:(zao.all fun s=>s.cols.all fun c=>(zg0 s c.name).key==(bif decide ((0:Int)<=idxF (fun k=>k.key) s.cols 0) then (zhW s).name.toList==c.name.toList else false))=true:=by kernel_rfl
theorem key_eq {s:Sch} (hs:s∈zao) {c:Col} (hc:c∈s.cols):(bif decide ((0:Int)<=idxF (fun k=>k.key) s.cols 0) then (zhW s).name.toList==c.name.toList else false)=(zg0 s c.name).key:=by
 have:=List.all_eq_true.1 (List.all_eq_true.1 zA4 s hs) c hc
 exact (by simpa using this:(zg0 s c.name).key=_).symm
theorem zAy {M:List Tb} {n:Nat} {s:Sch} {tb:Str} {x:Se} {fr:List Fr} {b:List Tg} (hs:s∈zao) {c:Col} (hc:c∈s.cols) (hx:c.name=x.col) (h:∀ t∈b,TrG t/\t.before=true) (z:Acc):z∈asgP M n tb s x fr b↔z∈asgR M n tb s x fr b:=by
 have h1:decide (idxF (fun k=>colC k x.col) s.cols 0 < 0)=false:=by
  have:decide ((0:Int)<=idxF (fun k=>colC k x.col) s.cols 0)=true:=by
   rw [zqJ,List.any_eq_true]
   exact ⟨c,hc,by simp [colC,hx]⟩
  simp only [decide_eq_true_eq,decide_eq_false_iff_not] at this ⊢
  omega
 have h2:=key_eq hs hc
 rw [hx] at h2
 unfold asgP asgR zf9
 rw [h1,zxF h,h2]
 cases (zbC x tb).2 <;> cases setR x.col b <;> cases (zg0 s x.col).key <;> simp [or_comm]
theorem zAC {t0 t:Tg} {m:List Tb} {n:Nat} {a:Ac} {s:Sch} (h:TrG t) (hb:t.before=true) (ht:t.table=a.table) (hs:s=zaj a.table) (hn:s.name=a.table) (z:Acc):z∈befP (zax t0 m) n t a.kind s↔z∈hidR m n t a s:=by
 have hB:=h.bef hb
 have hx:∀ x∈zbp t,zls (zax t0 m) m x:=fun x hx=>by
  rw [zl5 hB.2] at hx
  rcases List.mem_append.1 hx with hx|hx
  ·obtain ⟨frs,h⟩:=hB.1 x hx
   exact zvR h
  ·obtain ⟨s,hs,rfl⟩:=List.mem_map.1 hx
   obtain ⟨_,_,frs,w,h⟩:=zoP hB.2 s hs
   exact zvR h
 have e1:zas (zax t0 m) n (zb0 t) (zbZ t s [] [])=(zbp t).flatMap fun x=>zas m n [x] (zaJ t s [] []):=by
  rw [← zl5 hB.2,zcR,zcT]
  exact zcG fun x hx'=>hx x hx' n _
 have e2:z∈(rowP n t).2.flatMap (befC s)↔z∈((zbb t).map Se.col).map fun c=>(⟨a.table,c,2⟩:Acc):=by
  rw [List.mem_flatMap,List.mem_map]
  constructor
  ·rintro ⟨c,hc,hz⟩
   refine ⟨c,(zoM h hb c).1 hc,?_⟩
   unfold befC at hz
   cases hd:decide ((0:Int)<=idxF (fun k=>colC k c) s.cols 0)
   ·rw [hd] at hz;cases hz
   ·rw [hd,cond_true,List.mem_singleton,hn] at hz;exact hz.symm
  ·rintro ⟨c,hc,rfl⟩
   refine ⟨c,(zoM h hb c).2 hc,?_⟩
   obtain ⟨u,hu,rfl⟩:=List.mem_map.1 hc
   obtain ⟨_,⟨k,hk,hkn⟩,_⟩:=zoP hB.2 u hu
   unfold befC
   have hd:decide ((0:Int)<=idxF (fun k=>colC k u.col) s.cols 0)=true:=by
    rw [zqJ,List.any_eq_true]
    exact ⟨k,by rw [hs,← ht];exact hk,by simp [colC,hkn]⟩
   rw [hd,cond_true,hn];simp
 have e3:z∈(flX n (zb0 t)).flatMap (vcE (zax t0 m) s)↔∃ e∈zbp t,z∈(zaq qOLD n e++zaq qNEW n e).flatMap (hcA s a.table):=by
  rw [vc_mem,hn,zl5 hB.2]
 unfold befP hidR
 rw [e1]
 have e4:z∈(zbp t).flatMap (hdE m n s a.table (zaJ t s [] []) (a.kind==1))↔z∈((zbp t).flatMap fun x=>zas m n [x] (zaJ t s [] []))\/(a.kind==1)=false/\∃ e∈zbp t,z∈(zaq qOLD n e++zaq qNEW n e).flatMap (hcA s a.table):=by
  simp only [List.mem_flatMap (b:=z)]
  constructor
  ·rintro ⟨e,he,h⟩
   unfold hdE at h
   rcases List.mem_append.1 h with h|h
   ·exact .inl ⟨e,he,h⟩
   ·cases hk:a.kind==1
    ·rw [hk,cond_false] at h;exact .inr ⟨rfl,e,he,List.mem_flatMap.1 h⟩
    ·rw [hk] at h;cases h
  ·rintro (⟨e,he,h⟩|⟨hk,e,he,h⟩)
   ·exact ⟨e,he,List.mem_append.2 (.inl h)⟩
   ·exact ⟨e,he,List.mem_append.2 (.inr (by rw [hk,cond_false];exact List.mem_flatMap.2 h))⟩
 rw [List.mem_append,List.mem_append,e4]
 cases hk1:a.kind==1
 ·cases hk2:a.kind==2
  ·simp only [bne,hk2,Bool.not_false,cond_true,cond_false,List.mem_append,e3,List.not_mem_nil,or_false,true_and]
  ·simp only [bne,hk2,Bool.not_true,cond_true,cond_false,List.mem_append,e2,e3,true_and,or_assoc]
 ·have hk2:(a.kind==2)=false:=by
   simp only [beq_iff_eq] at hk1;rw [hk1];rfl
  simp only [hk2,cond_true,cond_false,List.not_mem_nil,or_false,false_and,Bool.true_eq_false]
theorem zur {t:Tg} (h:TrG t):TgLi 6 t:=by
 obtain ⟨nm,pc,fo,ht⟩:=h.tr
 refine ⟨ht.al,fun a ha=>?_,ht.whl,ht.wh⟩
 have h1:=(ht.act a ha).ti
 have h2:=(ht.act a ha).ok
 exact ⟨h1.rows,fun r hr=>⟨h1.row r hr,(h2.row r hr).2⟩,h1.query,fun q hq=>⟨h1.items q hq,(h2.qs q hq).hi,(h2.qs q hq).hw⟩,h1.sets,h2.set,h1.wh,h2.w⟩
theorem trG_bf {t:Tg} (h:TrG t) (hb:t.before=true):BfLi 6 t:=by
 refine ⟨zur h,?_⟩
 have h1:=zaz (l:=t.acts) (f:=setQ) (C:=1) fun a ha=>by
  rw [zs6 ((h.bef hb).2 a ha)]
  cases (h.bef hb).2 a ha with
  | abort=>simp
  | set _ _ _ _=>simp
 have h2:=(zur h).acts
 rw [zbb];omega
structure TrA (ts:List Tg):Prop where
 len:ts.length<=8
 gen:∀ t∈ts,TrG t
theorem TrA.li {ts:List Tg} (h:TrA ts):TsLi 6 ts:=⟨h.len,fun t ht=>(h.gen t ht).ok.sh,fun t ht hb=>trG_bf (h.gen t ht) hb⟩
theorem TrsZ.all {ts:List Tg} {o:List Lk} (h:TrsZ ts o):TrA ts:=⟨h.len,h.trs.gen⟩
theorem ziT:FpL tabM:=⟨by simp [tabM,zao],fun x hx=>by
 simp only [tabM,List.mem_map] at hx
 obtain ⟨s,hs,rfl⟩:=hx
 exact (zfo hs).few⟩
theorem zs2 {ts:List Tg} (h:TrA ts) (a:Ac):∀ t∈appB a ts,TrG t/\t.before=true:=fun t ht=>⟨h.gen t (zio ht).1,(zio ht).2.1⟩
theorem zve {t:Tg} {ts:List Tg} {a:Ac} (h:TrA ts) (ha:AftA a) (z:Acc):z∈accA 6 t a ts tabM↔z∈accR 6 t a ts tabM:=by
 unfold accA actP accR
 have hk:=ha.kind
 by_cases h4:a.kind=4
 ·have e:appB a ts=[]:=by unfold appB;simp [h4]
  unfold actG actH
  simp [h4,e]
 ·have hT:=ha.tab Zo
  obtain ⟨hs1,hs2,hs3⟩:=zAk hT
  have hne:=zvJ hT
  have e1:knS (zax t tabM) a.table=(zaj a.table,true):=by rw [zqP,zpF hne.1 hne.2,hs1]
  rw [e1,hs1]
  have eb:z∈(appB a ts).flatMap (fun b=>befP (zax t tabM) 6 b a.kind (zaj a.table))↔z∈(appB a ts).flatMap fun b=>hidR tabM 6 b a (zaj a.table):=by
   rw [List.mem_flatMap,List.mem_flatMap]
   have:=fun b hb=>zAC (t0:=t) (m:=tabM) (n:=6) (a:=a) (zs2 h a b hb).1 (zs2 h a b hb).2 (zio hb).2.2.1 rfl hs3 z
   constructor
   ·rintro ⟨b,hb,hz⟩;exact ⟨b,hb,(this b hb).1 hz⟩
   ·rintro ⟨b,hb,hz⟩;exact ⟨b,hb,(this b hb).2 hz⟩
  have er:(a.rows.flatMap fun r=>zas (zax t tabM) 6 r (frOf t tabM))=a.rows.flatMap fun r=>r.flatMap fun x=>zas (zax t tabM) 6 [x] (frOf t tabM):=zcG fun r _=>zcR _ _ _ _
  have eq:(a.query.flatMap fun q=>accQ (zax t tabM) (zas (zax t tabM) 6) q (frOf t tabM)++zcY (zax t tabM) q)=a.query.flatMap fun q=>accQ (zax t tabM) (zas (zax t tabM) 6) q (frOf t tabM)++zcZ (zax t tabM) q:=zcG fun q _=>by rw [zBs]
  have ew:zas (zax t tabM) 6 a.wh (zar (frOf t tabM) (zaj a.table) [])=a.wh.flatMap fun x=>zas (zax t tabM) 6 [x] (zar (frOf t tabM) (zaj a.table) []):=zcR _ _ _ _
  have es:z∈(a.sets.flatMap fun x=>asgP (zax t tabM) 6 a.table (zaj a.table) x (zar (frOf t tabM) (zaj a.table) []) (appB a ts))↔z∈a.sets.flatMap fun x=>asgR (zax t tabM) 6 a.table (zaj a.table) x (zar (frOf t tabM) (zaj a.table) []) (appB a ts):=by
   rw [List.mem_flatMap,List.mem_flatMap]
   have:∀ x∈a.sets,(z∈asgP (zax t tabM) 6 a.table (zaj a.table) x (zar (frOf t tabM) (zaj a.table) []) (appB a ts)↔z∈asgR (zax t tabM) 6 a.table (zaj a.table) x (zar (frOf t tabM) (zaj a.table) []) (appB a ts)):=fun x hx=>by
    obtain ⟨c,hc,hn⟩:=ha.cols x hx
    exact zAy hs2 hc hn (zs2 h a) z
   constructor
   ·rintro ⟨b,hb,hz⟩;exact ⟨b,hb,(this b hb).1 hz⟩
   ·rintro ⟨b,hb,hz⟩;exact ⟨b,hb,(this b hb).2 hz⟩
  unfold actG actH
  rw [er,eq,ew]
  by_cases h1:a.kind=1
  ·have h0:a.sets=[]:=ha.nos Zo
   simp only [h1,BEq.rfl,cond_true,List.mem_append,List.mem_cons,h0,List.flatMap_nil,List.not_mem_nil,or_false,List.append_nil]
   rw [h1] at eb
   rw [eb,or_assoc,or_assoc]
  ·by_cases h3:a.kind=3
   ·have h0:a.sets=[]:=ha.nos Zo
    rw [h3] at eb
    simp only [h3,show ((3:Int)==1)=false from rfl,BEq.rfl,cond_true,cond_false,List.mem_append,List.mem_cons,h0,List.flatMap_nil,List.not_mem_nil,or_false,List.append_nil]
    rw [eb]
    simp only [or_assoc]
    exact or_left_comm
   ·have h2:a.kind=2:=by omega
    rw [h2] at eb
    simp only [h2,show ((2:Int)==1)=false from rfl,show ((2:Int)==3)=false from rfl,BEq.rfl,cond_true,cond_false,List.mem_append,List.mem_cons]
    rw [eb,es]
    simp only [or_assoc]
theorem act_eq {t:Tg} {ts:List Tg} {a:Ac} (h:TrA ts) (ha:AftA a):zae [] (accA 6 t a ts tabM)=zae [] (accR 6 t a ts tabM):=zmJ (zve h ha)
def ofR (n:Nat) (t:Tg) (ts:List Tg) (m:List Tb):List Acc:=bif t.before then [] else (t.when_.flatMap fun x=>zas (zax t m) n [x] (frOf t m))++t.acts.flatMap fun a=>accR n t a ts m
theorem of_eq {t:Tg} {ts:List Tg} (h:TrA ts) (ht:TrG t):zae [] (ofA 6 t ts tabM)=zae [] (ofR 6 t ts tabM):=by
 refine zmJ fun z=>?_
 unfold ofA ofR
 cases hb:t.before
 ·rw [cond_false,cond_false,List.mem_append,List.mem_append,zcR,List.mem_flatMap (l:=t.acts),List.mem_flatMap (l:=t.acts)]
  have:=fun a ha=>zve (t:=t) h (ht.aft hb a ha) z
  refine or_congr Iff.rfl ⟨?_,?_⟩
  ·rintro ⟨b,hb,hz⟩;exact ⟨b,hb,(this b hb).1 hz⟩
  ·rintro ⟨b,hb,hz⟩;exact ⟨b,hb,(this b hb).2 hz⟩
 ·rfl
noncomputable def L_tbs (l:List Sch) (i:Nat) (out:List Tb):Cfg:=zan B.Cd 0 [(1,.own 0 out.length),(4,.sl (l.map Sch.cells)),(5,iv ((l.map Sch.cells).length:Nat)),(6,iv (i:Nat))] [.row Ty.Table (out.map Tb.cells) false]
theorem ziZ (l:List Sch) (hl:l.length<=1000) (i:Nat) (out:List Tb) (hi:i<=(l).length) (hI:out=(l.take i).map (fun s=>Tb.mk s 1 [])):∃ (out':List Tb),(out'=(l.take (l).length).map (fun s=>Tb.mk s 1 []))/\(decide ((((l).length:Nat):Int) < (((l.map Sch.cells).length:Nat):Int))=false)/\∀ R,Good E0 B.Cd [] (L_tbs l (l).length out') R->Good E0 B.Cd [] (L_tbs l i out) R:=by
 have hk:=hi;revert i out;refine zlp ((l).length) (fun i hlt ih out hi hI _=>?_)
 obtain ⟨x,hx,h0,hw⟩:=zlq (l:=l) ((l.map Sch.cells).length) hlt
 have ho:out.length<=1000:=(by rw [hI,List.length_map,List.length_take];omega)
 exact Zih (ih (out++[Tb.mk x 1 []]) Zo (by (rw [List.take_add_one,hx,List.map_append,hI];rfl)) Zo) fun R gY=>zaa (wkl [sb h0,se (zai Sch.cells hx rfl),sqA (List.map Tb.cells out) [[sv x.name,ZC x.cols,iv 1,AV.sl []]] out.length 4 72,si hw] [1,4,5,6] 1 kr (zaE 1 0 (List.map Tb.cells out++[[sv x.name,ZC x.cols,iv 1,AV.sl []]]) gY (he:=Zcv8) (hm:=Zcv8)))
theorem zzB  (hsl:zao.length<=1000):∃ (r:List Tb),r=(zao.take zao.length).map (fun s=>Tb.mk s 1 [])/\zab E0 S.Cd [] [] (tsl r) []:=by
 obtain ⟨out1,q1,q1_1,g1⟩:=ziZ zao (by first|assumption|(simp;done)|omega|rfl) 0 ([]) (by first|assumption|(simp;done)|omega|rfl) (by first|assumption|(simp;done)|omega|rfl)
 exact ⟨out1,‹_›,wkcN At.Cd [sc zfZ] [1,4,5,6] 0 [(.ot 1 Ty.Table,1)] kr (g1 _ (zaa (wkr [sqx (out1.length=(List.map Tb.cells out1).length),sb Zf] kr)))⟩
theorem zkS:zab E0 S.Cd [] [] (tsl tabM) []:=by
 obtain ⟨r,rfl,h⟩:=zzB (by simp [zao])
 rw [List.take_length] at h
 exact h
noncomputable def L_eqA (l:List Acc) (i:Nat) :Cfg:=zan B.A6 0 [(0,.sl (l.map Acc.cells)),(1,.sl (l.map Acc.cells)),(12,iv ((l.map Acc.cells).length:Nat)),(13,iv (i:Nat))] []
theorem zfG (l:List Acc) (hl:zac l) (i:Nat)  (hi:i<=(l).length) (hI:True):(True)/\(decide ((((l).length:Nat):Int) < (((l.map Acc.cells).length:Nat):Int))=false)/\∀ R,Good E0 B.A6 [] (L_eqA l (l).length ) R->Good E0 B.A6 [] (L_eqA l i ) R:=by
 have hk:=hi;revert i hI;refine zlp ((l).length) (fun i hlt ih hi hI _=>?_)
 obtain ⟨x,hx,h0,hw⟩:=zlq (l:=l) ((l.map Acc.cells).length) hlt
 cases h1:!(x.tab==x.tab&&(x.col==x.col&&(x.mode==x.mode&&true)))
 ·obtain ⟨qZ,xZ,gZ⟩:=ih Zo (by first|trivial|assumption|(simp;done)|omega|(simp;omega)|(simp at *;omega)) Zo;exact ⟨qZ,xZ,fun R hg=>zaa (wkl [sb h0,sd [(2,[se (zai Acc.cells hx rfl)]),(6,[se (zai Acc.cells hx rfl)]),(8,[sq zdM])],sb h1,si hw] [0,1,12,13] 0 kr (gZ R hg))⟩
 ·exact False.elim (by simp at *)
theorem zkH (l:List Acc) (hl:zac l) (hz:((((l.map Acc.cells).length:Nat):Int) != (((l.map Acc.cells).length:Nat):Int))=false):∃ (r:Bool),r=true/\zab E0 S.A6 [.sl (l.map Acc.cells),.sl (l.map Acc.cells)] [] (bv r) []:=by
 obtain ⟨q1,q1_1,g1⟩:=zfG l (by first|assumption|omega|(simp;done)|(simp;omega)) 0 (by first|assumption|omega|(simp;done)|(simp;omega)) (by first|assumption|omega|(simp;done)|(simp;omega))
 exact ⟨true,Zr,wkc At.A6 [sb hz] [0,1,12,13] 0 kr (g1 _ (zaa (wkr [sb q1_1] kr)))⟩
theorem zdB (l:List Acc) (hl:zac l):zab E0 S.A6 [.sl (l.map Acc.cells),.sl (l.map Acc.cells)] [] (bv true) []:=by
 obtain ⟨r,rfl,h⟩:=zkH l hl Zs
 exact h
theorem zAv {t:Tg} {ts:List Tg} {a:Ac} (h:TrA ts) (ht:TrG t) (ha:a∈t.acts):zae [] (accA 6 t a ts tabM)=zae [] (accR 6 t a ts tabM):=by
 cases hb:t.before
 ·exact act_eq h (ht.aft hb a ha)
 ·have hk:a.kind=4\/a.kind=5:=by
   cases (ht.bef hb).2 a ha with
   | abort=>exact .inl rfl
   | set _ _ _ _=>exact .inr rfl
  have e:appB a ts=[]:=by unfold appB;rcases hk with hk|hk <;> simp [hk]
  unfold accA actP accR actG actH
  rcases hk with hk|hk <;> simp [hk,e]
structure TgC (ts:List Tg) (x:Tg):Prop where
 row:zab E0 S.AS [x.av] [] (.tup [ssl (rowR 6 x).1,ssl (rowR 6 x).2]) []
 rowR:zab E0 S.B9 [x.av] [] (.tup [ssl (rowR 6 x).1,ssl (rowR 6 x).2]) []
 of:zab E0 S.Bg [x.av,.sl (ts.map Tg.cells),tsl tabM] [] (.sl ((zae [] (ofR 6 x ts tabM)).map Acc.cells)) []
 ofR:zab E0 S.BC [x.av,.sl (ts.map Tg.cells),tsl tabM] [] (.sl ((zae [] (ofR 6 x ts tabM)).map Acc.cells)) []
 us:zab E0 S.BT [x.av] [] (bv (zgb 6 x)) []
 usR:zab E0 S.A0 [x.av] [] (bv (zgb 6 x)) []
 act:∀ a∈x.acts,zab E0 S.Cp [x.av,a.av,.sl (ts.map Tg.cells),tsl tabM] [] (.sl ((zae [] (accR 6 x a ts tabM)).map Acc.cells)) []
 actR:∀ a∈x.acts,zab E0 S.Am [x.av,a.av,.sl (ts.map Tg.cells),tsl tabM] [] (.sl ((zae [] (accR 6 x a ts tabM)).map Acc.cells)) []
 l1:zac (Go.AM.rowR 6 x).1
 l2:zac (Go.AM.rowR 6 x).2
 l3:zac (zae [] (Go.AM.ofR 6 x ts tabM))
 l4:∀ a∈x.acts,zac (zae [] (accR 6 x a ts tabM))
 l5:zac x.acts
theorem zsZ {t:Tg} (ht:TrG t):∀ a∈t.acts,1<=a.kind:=fun a ha=>by
 cases hb:t.before
 ·exact (ht.aft hb a ha).kind.1
 ·cases (ht.bef hb).2 a ha with
  | abort=>exact (by decide:(1:Int)<=4)
  | set _ _ _ _=>exact (by decide:(1:Int)<=5)
theorem tgCx {ts:List Tg} {x:Tg} (h:TrA ts) (hx:TrG x):TgC ts x:=by
 have hl:=zur hx
 have hm:tabM.length<=900:=by simp [tabM,zao]
 have er:=row_eq (n:=6) hx
 have eo:=of_eq h hx
 have h1:=zfU x 6 Zo hl
 have h2:=zhK x ts tabM 6 Zo ziT hm hl h.li
 have h3:=zpD x 6 Zo hl
 rw [er] at h1
 rw [eo] at h2
 rw [← zBy hl] at h3
 have hs:=zlU (n:=6) Zo hl
 rw [er] at hs
 have hof:=zvw (n:=6) Zo ziT hm hl h.li
 have hof2:=za4 (zas (zax x tabM) 6 x.when_ (frOf x tabM)++x.acts.flatMap fun a=>accA 6 x a ts tabM) []
 refine ⟨h1,zuP x 6 Zo hl,h2,zwO x ts tabM 6 Zo ziT hm hl (zsZ hx) h.li,zgv x 6 hl,h3,fun a ha=>?_,fun a ha=>zkT x a ts tabM 6 Zo ziT hm (hl.act a ha) (zsZ hx a ha) h.li,hs.1,hs.2,?_,fun a ha=>?_,by have:=hl.acts;simp only [zac];omega⟩
 ·have:=zm1 x a ts tabM 6 Zo ziT hm (hl.act a ha) h.li
  rw [zAv h hx ha] at this
  exact this
 ·rw [← eo]
  unfold ofA
  cases x.before
  ·simp only [cond_false,zac,List.length_nil] at *;omega
  ·simp [zae]
 ·have e1:=zqZ (n:=6) (t:=x) Zo ziT hm (hl.act a ha) h.li
  have e2:=za4 (accR 6 x a ts tabM) []
  simp only [zac,List.length_nil] at *;omega
theorem zqj {p:Prop} (h:p:=by first|assumption|trivial|omega|exact TrsZ.ctx ‹_›|exact TrsZ.shr ‹_›|exact ⟨by decide,by decide⟩):p:=h
theorem zj6 {p:Prop} (h:p:=by first|assumption|omega|(simp;done)|(simp;omega)):p:=h
theorem zxe {p:Prop} (h:p:=by first|trivial|assumption|(simp;done)|omega|(simp;omega)|(simp at *;omega)):p:=h
abbrev f26X:Tg:=Tg.mk ⟨#[97]⟩ ⟨#[116]⟩ false 1 [] true [] [] [] [] [Ac.mk 2 ⟨#[117]⟩ [] [] [⟨⟨#[110]⟩,xBin 9 (xCol ⟨#[]⟩ ⟨#[110]⟩) (xLit ⟨1,1,⟨#[]⟩⟩)⟩] [xBin 3 (xCol ⟨#[]⟩ ⟨#[105,100]⟩) (xCol ⟨#[78,69,87]⟩ ⟨#[105,100]⟩)] ⟨#[]⟩]
abbrev f26L:List Acc:=[⟨⟨#[117]⟩,⟨#[]⟩,5⟩,⟨⟨#[117]⟩,⟨#[105,100]⟩,1⟩,⟨⟨#[117]⟩,⟨#[110]⟩,3⟩]
theorem c_kn26  (hof:zab E0 S.Bg [f26X.av,.sl [],tsl tabM] [] (.sl (f26L.map Acc.cells)) []) (hus:zab E0 S.BT [f26X.av] [] (bv true) []) (heq:zab E0 S.A6 [.sl (f26L.map Acc.cells),.sl (f26L.map Acc.cells)] [] (bv true) []):∃ (r:Bool),r=true/\zab E0 S.CX [] [] (bv r) []:=by
 exact ⟨bif true then true else false,Zr,wk At.CX [sc (zaO Zs0 Zsn),sc (zoJ 1),sc (zaC 9 (xCol Zs0 Zsn) (xLit (V.mk 1 (↑1:Int) Zs0))),sc (zaO Zs0 Zsi),sc (zaO ZsN Zsi),sc (zaC 3 (xCol Zs0 Zsi) (xCol ZsN Zsi)),sd [(1,[sc zkS]),(2,[sc hof]),(4,[sc heq]),(6,[sg Zt]),(7,[so Zt (sc hus)])]] kr⟩
noncomputable def L_fa (tp:Tp) (ts:List Tg) (io:Nat) (t:Tg) (i:Nat) :Cfg:=zan B.AI 1 [(4,.sl (ts.map Tg.cells)),(6,tsl tabM),(8,.p 1 0),(23,.sl (ts.map Tg.cells)),(24,iv ((ts.map Tg.cells).length:Nat)),(25,iv (io:Nat)),(69,.sl (t.acts.map Ac.cells)),(70,iv ((t.acts.map Ac.cells).length:Nat)),(71,iv (i:Nat))] [.box tp.cells,.box t.cells]
theorem zeS (tp:Tp) (ts:List Tg) (io:Nat) (t:Tg) (hc:TgC ts t) (hl:zac t.acts) (i:Nat)  (hi:i<=(t.acts).length) (hI:True):(True)/\(decide ((((t.acts).length:Nat):Int) < (((t.acts.map Ac.cells).length:Nat):Int))=false)/\∀ R,Good E0 B.AI [] (L_fa tp ts io t (t.acts).length ) R->Good E0 B.AI [] (L_fa tp ts io t i ) R:=by
 have hk:=hi;revert i hI;refine zlp ((t.acts).length) (fun i hlt ih hi hI _=>?_)
 obtain ⟨x,hx,h0,hw⟩:=zlq (l:=t.acts) ((t.acts.map Ac.cells).length) hlt
 have hla:=hc.l4 x (List.mem_of_getElem? hx);have hpa:=hc.act x (List.mem_of_getElem? hx);have hpr:=hc.actR x (List.mem_of_getElem? hx)
 let p_1:List St:=[sb h0,se (zai Ac.cells hx rfl)]
 cases h1:!t.before
 ·obtain ⟨qZ,xZ,gZ⟩:=ih Zo zxe Zo;exact ⟨qZ,xZ,fun R hg=>zaa (wkl (p_1++[sd [(4,[sb h1]),(5,[sb h1]),(6,[sb h1]),(7,[sb h1]),(8,[sb h1]),(9,[sb h1]),(10,[sb h1]),(11,[sb h1]),(12,[sb h1]),(13,[sb h1]),(14,[sb h1]),(15,[sb h1]),(16,[sb h1])],si hw]) [4,6,8,23,24,25,69,70,71] 2 kr (gZ R hg))⟩
 ·cases h2:bif !t.before then !true else false
  ·obtain ⟨qZ,xZ,gZ⟩:=ih Zo zxe Zo;exact ⟨qZ,xZ,fun R hg=>zaa (wkl (p_1++[sd [(4,[sg h1]),(5,[sg h1]),(6,[sg h1]),(7,[sg h1]),(9,[sg h1]),(10,[sg h1]),(11,[sg h1]),(12,[sg h1]),(8,[so h1 (sc hpa)]),(13,[so h1 (sc hpr)]),(14,[so h1 (sc (zdB (zae [] (accR 6 t x ts tabM)) zj6))]),(15,[sg h1])],sb h2,si hw]) [4,6,8,23,24,25,69,70,71] 2 kr (gZ R hg))⟩
  ·exact False.elim (by simp_all)
theorem TrsZ.ctx {ts:List Tg} {o:List Lk} (h:TrsZ ts o):∀ t∈ts,TgC ts t:=fun t ht=>tgCx h.all (h.all.gen t ht)
theorem TrsZ.shr {ts:List Tg} {o:List Lk} (h:TrsZ ts o):zac ts:=by have:=h.len;simp only [zac];omega
theorem zwF (t n:Str):XOk 5 (xCol t n):=⟨zb3,⟨by simp [xCol,Thin],by simp [xCol,Thin]⟩,fun x hx=>by simp [xCol] at hx,fun q hq=>by simp [xCol] at hq⟩
theorem f26_l:XOk 5 (xLit ⟨1,1,⟨#[]⟩⟩):=⟨zcB Zd,⟨by simp [xLit,Thin],by simp [xLit,Thin]⟩,fun x hx=>by simp [xLit] at hx,fun q hq=>by simp [xLit] at hq⟩
theorem f26_b {op:Int} {a b:X} (ha:XOk 5 a) (hb:XOk 5 b):XOk 6 (xBin op a b):=⟨zb3,⟨by simp [xBin,Thin],by simp [xBin,Thin]⟩,fun x hx=>by
 simp only [xBin,X.args_mk,List.mem_cons,List.not_mem_nil,or_false] at hx
 rcases hx with rfl|rfl
 ·exact ha
 ·exact hb,fun q hq=>by simp [xBin] at hq⟩
theorem f26_x1:XOk 6 (xBin 9 (xCol ⟨#[]⟩ ⟨#[110]⟩) (xLit ⟨1,1,⟨#[]⟩⟩)):=f26_b (zwF _ _) f26_l
theorem f26_x2:XOk 6 (xBin 3 (xCol ⟨#[]⟩ ⟨#[105,100]⟩) (xCol ⟨#[78,69,87]⟩ ⟨#[105,100]⟩)):=f26_b (zwF _ _) (zwF _ _)
theorem zrM:zab E0 S.CX [] [] (bv true) []:=by
 have hG:TgLi 6 f26X:=by
  refine ⟨by simp,fun a ha=>?_,by simp,fun x hx=>by simp at hx⟩
  simp only [List.mem_singleton] at ha
  subst ha
  refine ⟨by simp,fun r hr=>by simp at hr,by simp,fun q hq=>by simp at hq,by simp,fun s hs=>?_,by simp,fun x hx=>?_⟩
  ·simp only [List.mem_singleton] at hs
   subst hs
   exact f26_x1
  ·simp only [List.mem_singleton] at hx
   subst hx
   exact f26_x2
 have hT:TsLi 6 []:=⟨by simp,fun t ht=>by simp at ht,fun t ht=>by simp at ht⟩
 have h1:=zhK f26X [] tabM 6 Zo ziT (by simp [tabM,zao]) hG hT
 rw [show zae [] (ofA 6 f26X [] tabM)=f26L by kernel_rfl] at h1
 have h2:=zgv f26X 6 hG
 rw [show zgb 6 f26X=true by kernel_rfl] at h2
 obtain ⟨r,rfl,h⟩:=c_kn26 h1 h2 (zdB f26L (by simp [zac]))
 exact h
noncomputable def L_fo (tp:Tp) (ts:List Tg) (i:Nat) :Cfg:=zan B.AI 0 [(4,.sl (ts.map Tg.cells)),(6,tsl tabM),(23,.sl (ts.map Tg.cells)),(24,iv ((ts.map Tg.cells).length:Nat)),(25,iv (i:Nat))] [.box tp.cells]
theorem zeT (tp:Tp) (ts:List Tg) (hc:∀ t∈ts,TgC ts t) (hl:zac ts) (i:Nat)  (hi:i<=(ts).length) (hI:True):(True)/\(decide ((((ts).length:Nat):Int) < (((ts.map Tg.cells).length:Nat):Int))=false)/\∀ R,Good E0 B.AI [] (L_fo tp ts (ts).length ) R->Good E0 B.AI [] (L_fo tp ts i ) R:=by
 have hk:=hi;revert i hI;refine zlp ((ts).length) (fun i hlt ih hi hI _=>?_)
 obtain ⟨x,hx,h0,hw⟩:=zlq (l:=ts) ((ts.map Tg.cells).length) hlt
 have hx1:=hc x (List.mem_of_getElem? hx);have hl5:=hx1.l5;have hl1:=hx1.l1;have hl2:=hx1.l2;have hl3:=hx1.l3;have hp1:=hx1.row;have hp2:=hx1.rowR;have hp3:=hx1.of;have hp4:=hx1.ofR;have hp5:=hx1.us;have hp6:=hx1.usR;have hun:(zgb 6 x != zgb 6 x)=false:=bne_self_eq_false' _
 obtain ⟨q1,q1_1,g1⟩:=zeS tp ts i x zj6 zj6 0 zj6 zj6
 obtain ⟨qZ,xZ,gZ⟩:=ih Zo zxe Zo;exact ⟨qZ,xZ,fun R hg=>zaa (wkl [sb h0,se (zai Tg.cells hx rfl),sc hp1,sc hp2,sd [(3,[sc hp3]),(7,[sc hp4]),(8,[sc (zdB (zae [] (ofR 6 x ts tabM)) zj6)]),(11,[sg Zf]),(12,[sg Zf]),(13,[so Zf (sc (zfw ((rowR 6 x).fst) zj6))]),(14,[sg Zf]),(17,[sg Zf]),(18,[sg Zf]),(19,[so Zf (sc (zfw ((rowR 6 x).snd) zj6))]),(20,[sg Zf]),(23,[sg Zf]),(25,[sg Zf]),(24,[so Zf (sc hp5)]),(26,[so Zf (sc hp6)]),(27,[sg Zf])],sb hun] [4,6,8,23,24,25,69,70,71] 2 kr (g1 _ (zaa (wkl [sb q1_1,si hw] [4,6,23,24,25] 1 kr (gZ R hg)))))⟩
theorem zhS (l:List Int) :∃ (r:Bool),r=true/\zab E0 S.AI [isl l] [] (bv r) []:=by
 obtain ⟨t1,c1⟩:=(zu8 l)
 obtain ⟨l2,o2,t2,q2,c2⟩:=(zgT t1 8 zqj)
 obtain ⟨q3,q3_1,g3⟩:=zeT t2 l2 zqj zqj 0 zqj zqj
 exact ⟨true,Zr,wkc At.AI [sc c1,sl [0] c2,sc zkS] [4,6,23,24,25] 1 kr (g3 _ (zaa (wkr [sb q3_1,sc zrM] kr)))⟩
theorem zBE (l:List Int):zab E0 S.AI [isl l] [] (bv true) []:=by
 obtain ⟨r,rfl,h⟩:=zhS l
 exact h
end Go.AM
namespace Go.AM
open Go.RowKit
abbrev old (W:World):Addr->Prop:=fun a=>a.block < W.heap.size
theorem zvh {W:World} {a:Addr} {v:Value} (h:W.cell? a=some v):a.block < W.heap.size:=by
 unfold World.cell? at h
 cases hb:W.heap[a.block]? with
 | none=>rw [hb] at h;cases h
 | some o=>exact (Array.getElem?_eq_some_iff.1 hb).1
theorem relD_strs {W:World} {g:Nat} (l:List Str) (h:∀ (j:Nat) (s:Str),l[j]?=some s->W.cell? ⟨g,j,none⟩=some (.string s)):RelD W (old W) (.dp (l.map sv)) (.pointer (some ⟨g,0,none⟩)):=by
 refine .dp _ g 0 (fun j=>.string (l.getD j ⟨#[]⟩)) (fun j x hx=>?_) (fun j x hx=>?_)
 ·simp only [List.getElem?_map,Option.map_eq_some_iff] at hx
  obtain ⟨s,hs,rfl⟩:=hx
  have hc:=h j s hs
  rw [Nat.zero_add]
  refine ⟨zvh hc,?_,rfl⟩
  rw [hc,List.getD_eq_getElem?_getD,hs];rfl
 ·simp only [List.getElem?_map,Option.map_eq_some_iff] at hx
  obtain ⟨s,hs,rfl⟩:=hx
  have:l.getD j ⟨#[]⟩=s:=by rw [List.getD_eq_getElem?_getD,hs];rfl
  simp only [this]
  exact .v _ rfl
theorem zzn {s:ByteArray} {l:List UInt8} (h:s.data.toList=l):s=zcX l:=by
 cases s with
 | mk d=>simp only [zcX];congr;rw [← h]
theorem laid_strs {P:Program} {W:World} {n:String} {g:Nat} {t e:TypeId} {k:Nat} {l:List (List UInt8)} (hr:Lib.VarReads P W n (.agg (l.map fun b=>.lit (.string b)))) (hg:P.globalNamed n=some g) (hty:(P.globals[g]?).map (·.type)=some t)
  (ht:P.underlying t=some (.array k e)) (he:P.underlying e=some .string) (hc:P.cellsOf e=1) (hk:l.length=k):∀ (j:Nat) (s:Str),(l.map zcX)[j]?=some s->W.cell? ⟨g,j,none⟩=some (.string s):=by
 intro j s hs
 obtain ⟨g',t',cs,fuel,p,h1,h2,h3,h4⟩:=hr
 obtain rfl:g'=g:=Option.some.inj (h1.symm.trans hg)
 obtain rfl:t'=t:=Option.some.inj (h2.symm.trans hty)
 simp only [List.getElem?_map,Option.map_eq_some_iff] at hs
 obtain ⟨b,hb,rfl⟩:=hs
 have hj:=zfM hb
 obtain ⟨f',d,q,hd,hq⟩:=Lib.array_elem ht h4 j Zo
 simp only [List.getElem?_map,hb,Option.map_some,Option.some.injEq] at hd
 subst hd
 obtain ⟨s,e1,e2,_⟩:=DataW.trod_string he hq
 rw [World.var?_cell h1 h3]
 rw [hc,Nat.mul_one] at e1
 have e3:cs.toList[j]?=some (.string s):=by
  have:=congrArg (·[0]?) e1
  simpa [List.getElem?_take,List.getElem?_drop] using this
 have e4:s=zcX b:=zzn (by simp only [Prod.mk.injEq,DataW.lit.injEq,Lit.string.injEq] at e2;exact e2.1.symm)
 rw [← e4]
 simpa using e3
theorem relV_ints {W:World} {a:Addr} {len cap:Nat} {zs:List Int} (h1:len<=cap) (h2:cap<=maxLen) (h3:zs.length=cap) (hc:∀ i,i < zs.length->W.cell? (a.add i)=some (.int .i64 (zs.getD i 0))) :
  RelV E0.T [] [] W (old W) (isl (zs.take len)) (.slice (some a) len cap):=by
 have hlen:((zs.take len).map fun n=>[iv n]).length=len:=by simp;omega
 have key:=RelD.sl (w:=W) (S:=old W) ((zs.take len).map fun n=>[iv n]) (some a) cap a.block a.off 1 (fun k=>.int .i64 (zs.getD k 0)) ?_ (by rw [hlen];exact h1) h2 (fun i c hi=>?_) (fun i j c x hi hj=>?_) (fun i j c x hi hj=>?_)
 ·rw [hlen] at key
  exact .d _ _ key
 ·intro hne
  have hz:0 < zs.length:=by
   rcases Nat.eq_zero_or_pos zs.length with h|h
   ·exact absurd (by simp [List.eq_nil_of_length_eq_zero h]) hne
   ·exact h
  have h0:=hc 0 hz
  have:a.spot=none:=by
   simp only [Addr.add,if_pos] at h0
   unfold World.cell? at h0
   split at h0
   ·cases hs:a.spot with
    | none=>rfl
    | some x=>rw [hs] at h0;simp at h0
   ·cases h0
  cases a
  simp only at this
  subst this
  rfl
 ·simp only [List.getElem?_map,Option.map_eq_some_iff] at hi
  obtain ⟨n,_,rfl⟩:=hi
  rfl
 ·simp only [List.getElem?_map,Option.map_eq_some_iff] at hi
  obtain ⟨n,hn,rfl⟩:=hi
  have hi2:=zfM hn
  simp only [List.length_take] at hi2
  have hj0:j=0:=by
   cases j with
   | zero=>rfl
   | succ j=>simp at hj
  subst hj0
  have h0:=hc i Zo
  have e:a.add i=⟨a.block,a.off+(i * 1+0),none⟩:=by
   unfold Addr.add
   split
   ·rename_i hi0
    subst hi0
    have:a.spot=none:=by
     simp only [Addr.add,if_pos] at h0
     unfold World.cell? at h0
     split at h0
     ·cases hs:a.spot with
      | none=>rfl
      | some x=>rw [hs] at h0;simp at h0
     ·cases h0
    cases a
    simp only at this
    subst this
    rfl
   ·simp
  rw [e] at h0
  refine ⟨zvh h0,?_,rfl⟩
  rw [h0];simp
 ·simp only [List.getElem?_map,Option.map_eq_some_iff] at hi
  obtain ⟨n,hn,rfl⟩:=hi
  have hj0:j=0:=by
   cases j with
   | zero=>rfl
   | succ j=>simp at hj
  subst hj0
  simp only [List.getElem?_cons_zero,Option.some.injEq] at hj
  subst hj
  have:zs.getD (i * 1+0) 0=n:=by
   rw [List.getElem?_take] at hn
   split at hn
   ·simp only [Nat.mul_one,Nat.add_zero,List.getD_eq_getElem?_getD,hn];rfl
   ·cases hn
  simp only [this]
  exact .v _ rfl
theorem relV_nil {W:World}:RelV E0.T [] [] W (old W) (isl []) (.slice none 0 0) :=
 .d _ _ (RelD.sl [] none 0 0 0 1 (fun _=>.int .i64 0) (fun h=>absurd rfl h) (Nat.le_refl _) Zd (fun i c h=>by simp at h) (fun i j c x h=>by simp at h) (fun i j c x h=>by simp at h))
theorem oneCell_ok {P:Program} {w:World} {r:Reach} {b:Nat} {u:TypeId} {y:Value} (h:Cell.okWide P w r b u y):y.oneCell'=true:=by
 have h2:∀ y,Cell.ok P w r b u y->y.oneCell'=true:=by
  intro y h
  unfold Cell.ok at h
  split at h <;> first|rfl|exact h.elim
 unfold Cell.okWide at h
 split at h <;> first|rfl|exact h2 _ h
theorem calls_of {f:FuncId} {args:List AV} {b:Bool} (h:zab E0 f args [] (bv b) []) (hgo:GoFn E0.P f) {W:World} {vs:List Value} (hglob:∀ g cs,globs g=some cs->RelD W (old W) (.dp cs) (.pointer (some ⟨g,0,none⟩))) (hargs:PW (RelV E0.T [] [] W (old W)) args vs) :
  Calls E0.P f vs.toArray W fun e W'=>e=.returned (.bool b)/\Below W.heap.size W W':=by
 have hrel:Rel E0 [] [] (old W) W:=⟨rfl,fun b cs hb=>by simp at hb,fun b e xs sh hb=>by simp at hb,fun b es hb=>by simp at hb,fun b b' k k' g hb=>by simp at hb,fun b k g hb=>by simp at hb,fun a ha=>ha,fun b k g a hb=>by simp at hb,hglob⟩
 obtain ⟨fn,hf1,hf2,hf3⟩:=hgo
 have hp:∀ e W',Post E0 [] [] (old W) W (fun r' h''=>r'=bv b/\h''=[]) e W'->e=.returned (.bool b)/\Below W.heap.size W W':=by
  rintro e W' ⟨r,h',β',S',y,rfl,⟨rfl,rfl⟩,_,ex,rv⟩
  refine ⟨?_,ex.os,ex.tape,ex.output,ex.size,fun k hk=>ex.keep k hk fun b' k' hb=>by simp at hb⟩
  rw [rv.v_inv]
 rcases h [] (old W) W vs hrel hargs with ⟨_,hc⟩|⟨y,w',hrun,_⟩
 ·exact hc.mono hp
 ·exfalso
  simp only [callFunc,Sem.run_bind,Sem.run_pure,Result.andThen_ok,run_program,hf1,hf2,hf3,Bool.false_eq_true,if_false] at hrun
  cases hrun
end Go.AM
