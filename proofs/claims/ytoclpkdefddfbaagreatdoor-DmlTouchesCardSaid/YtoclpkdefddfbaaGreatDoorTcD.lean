/-
  Contracts of the program's functions, part 3.
-/
import Derived.Test.YtoclpkdefddfbaaGreatDoorTcC
import Derived.Laws.Externs
import Derived.Lib.Bytealg
import Derived.WideKeyRuns
import Derived.Laws.IdiomRangeMap
import Derived.Maps.RangeRun
set_option linter.unusedSimpArgs false
set_option linter.unusedVariables false
namespace Go.AM
set_option maxRecDepth 100000
set_option linter.unusedSimpArgs false
set_option linter.unusedVariables false
theorem zaW {p:Prop} (h:p:=by first|assumption|exact zn4 (by omega) (by omega)|exact zc7 zaG|exact zc7 (by assumption:_∧V.Good _).2|exact zks ((by assumption:_=true→ziC _) (by assumption))|exact zj2 (by assumption)|exact xok_2 (by assumption) (by assumption)):p:=h
theorem zcO {p:Prop} (h:p:=by first|exact zn4 (by omega) (by omega)|exact zc7 zaG|exact zc7 (by assumption:_∧V.Good _).2|exact zks ((by assumption:_=true→ziC _) (by assumption))):p:=h
theorem zaE {p:Prop} (h:p:=by first|assumption|(simp;done)|omega):p:=h
theorem zfV {p:Prop} (h:p:=by first|assumption|exact hp.pos|exact hp.short|exact hp.ins (by assumption)|(simp;done)|omega|(simp only [List.length_map] at *;omega)):p:=h
theorem zcP {p:Prop} (h:p:=by first|assumption|omega|(simp;done)|(simp;omega)):p:=h
theorem zjx {p:Prop} (h:p:=by first|exact zj2 (by assumption)|exact xok_2 (by assumption) (by assumption)|exact xok_3 (by assumption) (by assumption) (by assumption)):p:=h
theorem zlu {p:Prop} (h:p:=by exact xok_q (by simp) (by first|exact all0|exact all1 (by assumption)) (by first|exact all0|exact all1 (by assumption))):p:=h
abbrev Thin {α:Type} (k:Nat) (l:List α):Prop:=l.length≤k
theorem Thin.few {α:Type} {k:Nat} {l:List α} (h:Thin k l) (hk:k≤1000:=by decide):Few l:=Nat.le_trans h hk
theorem Thin.short {α:Type} {k:Nat} {l:List α} (h:Thin k l) (hk:k≤1000000000:=by decide):zad l:=Nat.le_trans h hk
def XOk:Nat→X→Prop
 | 0,_=>False
 | n+1,e=>e.val.Good∧(Thin 3 e.args∧Thin 1 e.sub)∧(∀ x∈e.args,XOk n x)∧∀ q∈e.sub,(Thin 8 q.items∧Thin 1 q.wh)∧(∀ x∈q.items,XOk n x)∧∀ x∈q.wh,XOk n x
theorem XOk.mono:∀ {n:Nat} {e:X},XOk n e→XOk (n+1) e
 | 0,_,h=>h.elim
 | n+1,e,⟨h1,h2,h3,h4⟩=>⟨h1,h2,fun x hx=>(h3 x hx).mono,fun q hq=>⟨(h4 q hq).1,fun x hx=>((h4 q hq).2.1 x hx).mono,fun x hx=>((h4 q hq).2.2 x hx).mono⟩⟩
theorem XOk.le {n m:Nat} {e:X} (h:XOk n e) (hm:n≤m):XOk m e:=by
 induction hm with
 | refl=>exact h
 | step _ ih=>exact ih.mono
theorem zc7 {n:Nat} {v:V} (h:v.Good):XOk (n+1) (xLit v):=⟨h,⟨by simp [xLit],by simp [xLit]⟩,fun x hx=>by simp [xLit] at hx,fun q hq=>by simp [xLit] at hq⟩
theorem zks {n:Nat} {x:X} (h:ziC x):XOk (n+1) x:=by
 obtain ⟨a,b,rfl⟩:=h
 exact ⟨zaG,⟨by simp [xCol],by simp [xCol]⟩,fun x hx=>by simp [xCol] at hx,fun q hq=>by simp [xCol] at hq⟩
theorem zjq {n:Nat} {k o:Int} {nt:Bool} {l:List X} (hl:Thin 3 l) (h:∀ x∈l,XOk n x):XOk (n+1) (X.mk k o nt ⟨0,0,⟨#[]⟩⟩ ⟨#[]⟩ ⟨#[]⟩ l []) :=
 ⟨zaG,⟨hl,by simp⟩,h,fun q hq=>by simp at hq⟩
theorem zj2 {n:Nat} {k o:Int} {nt:Bool} {a:X} (h:XOk n a):XOk (n+1) (X.mk k o nt ⟨0,0,⟨#[]⟩⟩ ⟨#[]⟩ ⟨#[]⟩ [a] []) :=
 zjq (by simp) fun x hx=>by simp only [List.mem_singleton] at hx;exact hx ▸ h
theorem xok_2 {n:Nat} {k o:Int} {nt:Bool} {a b:X} (h:XOk n a) (h2:XOk n b):XOk (n+1) (X.mk k o nt ⟨0,0,⟨#[]⟩⟩ ⟨#[]⟩ ⟨#[]⟩ [a,b] []) :=
 zjq (by simp) fun x hx=>by simp only [List.mem_cons,List.not_mem_nil,or_false] at hx;rcases hx with rfl|rfl <;> assumption
theorem xok_3 {n:Nat} {k o:Int} {nt:Bool} {a b c:X} (h:XOk n a) (h2:XOk n b) (h3:XOk n c):XOk (n+1) (X.mk k o nt ⟨0,0,⟨#[]⟩⟩ ⟨#[]⟩ ⟨#[]⟩ [a,b,c] []) :=
 zjq (by simp) fun x hx=>by simp only [List.mem_cons,List.not_mem_nil,or_false] at hx;rcases hx with rfl|rfl|rfl <;> assumption
theorem xok_q {n:Nat} {k:Int} {s:Bool} {i w:List X} {f:Str} (hi:Thin 8 i) (h1:∀ x∈i,XOk n x) (h2:∀ x∈w,XOk n x) (hw:Thin 1 w:=by simp):XOk (n+1) (X.mk k 0 false ⟨0,0,⟨#[]⟩⟩ ⟨#[]⟩ ⟨#[]⟩ [] [Qy.mk s i f w]) :=
 ⟨zaG,⟨by simp,by simp⟩,fun x hx=>by simp at hx,fun q hq=>by
  simp only [X.sub_mk,List.mem_singleton] at hq
  subst hq
  exact ⟨⟨hi,hw⟩,h1,h2⟩⟩
theorem all0 {n:Nat}:∀ x∈([]:List X),XOk n x:=fun x hx=>by cases hx
theorem all1 {n:Nat} {a:X} (h:XOk n a):∀ x∈[a],XOk n x:=fun x hx=>by simp only [List.mem_singleton] at hx;exact hx ▸ h
theorem zn4 {n:Nat} {a:Int} (h:-9223372036854775808 < a) (h2:a≤9223372036854775807):XOk (n+2) (xNum a):=by
 unfold xNum
 cases decide (a < 0)
 ·exact zc7 (zbk ⟨by omega,by omega⟩)
 ·exact zj2 (zc7 (zbk (zcn _)))
structure Pl.OkN (n:Nat) (p:Pl):Prop where
 frs:p.frs.length+n≤1000
 cols:∀ f∈p.frs,Few f.cols
 ne:p.tbs≠[]
 few:Few p.tbs
 tcols:∀ s∈p.tbs,Few s.cols
theorem Pl.OkN.few1 {n:Nat} {p:Pl} (h:p.OkN n):Few p.frs:=by have:=h.frs;simp only [Few];omega
theorem Pl.OkN.short {n:Nat} {p:Pl} (h:p.OkN n):zad p.frs:=by have:=h.frs;simp only [zad];omega
theorem Pl.OkN.less {n:Nat} {p:Pl} (h:p.OkN (n+1)):p.OkN n:=⟨by have:=h.frs;omega,h.cols,h.ne,h.few,h.tcols⟩
theorem Pl.OkN.pos {n:Nat} {p:Pl} (h:p.OkN n):Pos (((p.tbs.map Sch.cells).length:Nat):Int):=by
 have h1:=h.few
 have h2:0 < p.tbs.length:=List.length_pos_iff.2 h.ne
 simp only [Few] at h1
 simp only [Pos,List.length_map];omega
theorem Pl.OkN.ins {n:Nat} {p:Pl} (h:p.OkN (n+1)) {k:Nat} {s:Sch} (hs:p.tbs[k]?=some s):(plIn p s).OkN n:=by
 refine ⟨by have:=h.frs;simp [plIn];omega,fun f hf=>?_,h.ne,h.few,h.tcols⟩
 simp only [plIn,List.mem_append,List.mem_singleton] at hf
 rcases hf with hf|rfl
 ·exact h.cols f hf
 ·exact h.tcols s (List.mem_of_getElem? hs)
abbrev RecE (n m:Nat) (d:Int):Prop:=∀ (t:Tp) (p:Pl) (w:Int),p.OkN n→∃ (e:X) (t':Tp),XOk m e∧zac E0 S.world_Tape_Expr [.p 0 0,p.av,iv w,iv d] [.box t.cells] e.av [.box t'.cells]
theorem zm4 (t:Tp) (p:Pl) (n m:Nat) (d:Int) (hp:p.OkN n) (hf:∀ (t:Tp) (p:Pl) (w:Int),p.OkN n→∃ (e:X) (t':Tp),XOk m e∧zac E0 S.world_Tape_Expr [.p 0 0,p.av,iv w,iv (IntKind.i64.wrap (d - 1))] [.box t.cells] e.av [.box t'.cells]):∃ (x:X) (t':Tp),XOk (m+1) x∧zac E0 S.world_Tape_condition [.p 0 0,p.av,iv d] [.box t.cells] x.av [.box t'.cells]:=by
 obtain ⟨a1,t1,q1,c1⟩:=(zaj t 3 zcP)
 obtain ⟨a2,t2,q2,c2⟩:=(zaj t1 6 zcP)
 let p_1:List St:=[sl [0] c1,si (e:=IntKind.i64.wrap (1+(a1:Int))) rfl,sl [0] c2]
 cases h3:(a2:Int)==0
 ·cases h4:(a2:Int)==1
  ·cases h5:(a2:Int)==2
   ·cases h6:(a2:Int)==3
    ·obtain ⟨a7,t7,q7,c7⟩:=(zaj t2 6 zcP)
     obtain ⟨e8,t8,q8,c8⟩:=(hf t7 p (IntKind.i64.wrap (1+(a1:Int))) zcP)
     obtain ⟨e9,t9,q9,c9⟩:=(hf t8 p (IntKind.i64.wrap (1+(a1:Int))) zcP)
     exact ⟨xBin (IntKind.i64.wrap (3+(a7:Int))) e8 e9,t9,zjx,wk At.world_Tape_condition (p_1++[sb h3,sb h4,sb h5,sb h6,sd [(7,[si (e:=IntKind.i64.wrap (d - 1)) rfl]),(13,[si (e:=IntKind.i64.wrap (d - 1)) rfl]),(1,[sl [0] c7]),(2,[si (e:=IntKind.i64.wrap (3+(a7:Int))) rfl]),(8,[sl [0] c8]),(14,[sl [0] c9]),(15,[sc (zbH (IntKind.i64.wrap (3+(a7:Int))) e8 e9)])]]) kr⟩
    ·obtain ⟨e10,t10,q10,c10⟩:=(hf t2 p 1 zcP)
     obtain ⟨e11,t11,q11,c11⟩:=(hf t10 p 1 zcP)
     obtain ⟨e12,t12,q12,c12⟩:=(hf t11 p 1 zcP)
     exact ⟨X.mk 7 0 false (V.mk 0 0 (ByteArray.mk #[])) (ByteArray.mk #[]) (ByteArray.mk #[]) [e10,e11,e12] [],t12,zjx,(by (try simp only [X.av,Qy.av,V.av,Tb.av,Sch.av,Pl.av,xsl,fsl,vsl,tsl,List.map_append,List.map_cons,List.map_nil,V.cells,Col.cells,Rw.cells,Tb.cells,Fr.cells,Sch.cells,Pl.cells,zaU,zaJ,zaO,zaM,zaP,X.cells,Qy.cells,X.args_mk,X.sub_mk,Qy.items_mk,Qy.wh_mk,xCol,xLit,xBin,xNeg]);exact wk At.world_Tape_condition (p_1++[sb h3,sb h4,sb h5,sb h6,sd [(3,[si (e:=IntKind.i64.wrap (d - 1)) rfl]),(8,[si (e:=IntKind.i64.wrap (d - 1)) rfl]),(13,[si (e:=IntKind.i64.wrap (d - 1)) rfl]),(4,[sl [0] c10]),(9,[sl [0] c11]),(14,[sl [0] c12])]]) kr)⟩
   ·obtain ⟨b13,t13,c13⟩:=(zak t2 2 zcP)
    obtain ⟨e14,t14,q14,c14⟩:=(hf t13 p (IntKind.i64.wrap (1+(a1:Int))) zcP)
    exact ⟨X.mk 6 0 b13 (V.mk 0 0 (ByteArray.mk #[])) (ByteArray.mk #[]) (ByteArray.mk #[]) [e14] [],t14,zjx,(by (try simp only [X.av,Qy.av,V.av,Tb.av,Sch.av,Pl.av,xsl,fsl,vsl,tsl,List.map_append,List.map_cons,List.map_nil,V.cells,Col.cells,Rw.cells,Tb.cells,Fr.cells,Sch.cells,Pl.cells,zaU,zaJ,zaO,zaM,zaP,X.cells,Qy.cells,X.args_mk,X.sub_mk,Qy.items_mk,Qy.wh_mk,xCol,xLit,xBin,xNeg]);exact wk At.world_Tape_condition (p_1++[sb h3,sb h4,sb h5,sd [(6,[si (e:=IntKind.i64.wrap (d - 1)) rfl]),(1,[sl [0] c13]),(7,[sl [0] c14])]]) kr)⟩
  ·obtain ⟨a15,t15,q15,c15⟩:=(zaj t2 2 zcP)
   obtain ⟨e16,t16,q16,c16⟩:=(hf t15 p 2 zcP)
   obtain ⟨e17,t17,q17,c17⟩:=(hf t16 p 2 zcP)
   exact ⟨xBin (IntKind.i64.wrap (1+(a15:Int))) e16 e17,t17,zjx,wk At.world_Tape_condition (p_1++[sb h3,sb h4,sd [(6,[si (e:=IntKind.i64.wrap (d - 1)) rfl]),(11,[si (e:=IntKind.i64.wrap (d - 1)) rfl]),(1,[sl [0] c15]),(2,[si (e:=IntKind.i64.wrap (1+(a15:Int))) rfl]),(7,[sl [0] c16]),(12,[sl [0] c17]),(13,[sc (zbH (IntKind.i64.wrap (1+(a15:Int))) e16 e17)])]]) kr⟩
 ·obtain ⟨e18,t18,q18,c18⟩:=(hf t2 p 2 zcP)
  exact ⟨X.mk 3 0 false (V.mk 0 0 (ByteArray.mk #[])) (ByteArray.mk #[]) (ByteArray.mk #[]) [e18] [],t18,zjx,(by (try simp only [X.av,Qy.av,V.av,Tb.av,Sch.av,Pl.av,xsl,fsl,vsl,tsl,List.map_append,List.map_cons,List.map_nil,V.cells,Col.cells,Rw.cells,Tb.cells,Fr.cells,Sch.cells,Pl.cells,zaU,zaJ,zaO,zaM,zaP,X.cells,Qy.cells,X.args_mk,X.sub_mk,Qy.items_mk,Qy.wh_mk,xCol,xLit,xBin,xNeg]);exact wk At.world_Tape_condition (p_1++[sb h3,si (e:=IntKind.i64.wrap (d - 1)) rfl,sl [0] c18]) kr)⟩
def opAt (k:Nat):Int:=[9,10,11,9,12,13].getD k 0
theorem zex (k:Nat) (h:(k:Int) < 6):ElAt [[iv 9],[iv 10],[iv 11],[iv 9],[iv 12],[iv 13]] (k:Int) [iv (opAt k)] 1:=by
 have h:k=0∨k=1∨k=2∨k=3∨k=4∨k=5:=by omega
 rcases h with rfl|rfl|rfl|rfl|rfl|rfl <;> exact ⟨by decide,rfl,rfl⟩
theorem zrg (t:Tp) (p:Pl) (kind:Int) (n m:Nat) (d:Int) (hp:p.OkN (n+1)) (hf1:∀ (t:Tp) (p:Pl) (w:Int),p.OkN n→∃ (e:X) (t':Tp),XOk m e∧zac E0 S.world_Tape_Expr [.p 0 0,p.av,iv w,iv (IntKind.i64.wrap (d - 1))] [.box t.cells] e.av [.box t'.cells]) (hf2:∀ (t:Tp) (p:Pl) (w:Int),p.OkN n→∃ (e:X) (t':Tp),XOk m e∧zac E0 S.world_Tape_Expr [.p 0 0,p.av,iv w,iv (IntKind.i64.wrap (d - 2))] [.box t.cells] e.av [.box t'.cells]):∃ (x:X) (t':Tp),XOk (m+1) x∧zac E0 S.world_Tape_query [.p 0 0,p.av,iv kind,iv d] [.box t.cells] x.av [.box t'.cells]:=by
 obtain ⟨a1,t1,q1,c1⟩:=(zaj t ((↑(List.map Sch.cells p.tbs).length:Int)) zfV)
 obtain ⟨x2,e2⟩:=zaC (l:=p.tbs) (i:=a1) zfV
 let p_1:List St:=[sdm [(6,[sl [0] c1]),(7,[se (zah Sch.cells e2 rfl)])] 0 [(0,AV.p 0 0),(1,AV.agg [AV.sl (List.map Fr.cells p.frs),AV.sl (List.map Sch.cells p.tbs)]),(2,iv kind),(3,iv d),(5,AV.p 1 0),(8,AV.p 2 0),(9,AV.p 3 0),(12,AV.p 1 1),(13,AV.sl (List.map Sch.cells p.tbs)),(14,AV.p 0 0),(15,AV.p 1 1),(16,AV.sl (List.map Sch.cells p.tbs)),(17,iv (↑(List.map Sch.cells p.tbs).length:Int)),(18,iv (a1:Int)),(19,AV.dp [sv x2.name,AV.sl (List.map Col.cells x2.cols)]),(20,AV.agg [sv x2.name,AV.sl (List.map Col.cells x2.cols)])] [Blk.box [AV.sl (List.map (fun n=>[iv n]) t1.l),iv (t1.pos:Int)],Blk.box [AV.sl (List.map Fr.cells p.frs),AV.sl (List.map Sch.cells p.tbs)],Blk.box [iv 0,iv 0,AV.bl false,iv 0,iv 0,sv (ByteArray.mk #[]),sv (ByteArray.mk #[]),sv (ByteArray.mk #[]),AV.nl,AV.nl],Blk.box [sv x2.name,AV.sl (List.map Col.cells x2.cols)]],sc (zko p x2 zfV)]
 cases h3:decide (10≤kind)
 ·obtain ⟨b4,t4,c4⟩:=(zak t1 3 zfV)
  cases h5:!b4
  ·exact ⟨X.mk kind (0:Int) false (V.mk (0:Int) (0:Int) (ByteArray.mk #[])) (ByteArray.mk #[]) (ByteArray.mk #[]) [] [Qy.mk (kind==(8:Int)) [] x2.name []],t4,zlu,(by (try simp only [X.av,Qy.av,V.av,Tb.av,Sch.av,Pl.av,xsl,fsl,vsl,tsl,List.map_append,List.map_cons,List.map_nil,V.cells,Col.cells,Rw.cells,Tb.cells,Fr.cells,Sch.cells,Pl.cells,zaU,zaJ,zaO,zaM,zaP,X.cells,Qy.cells,X.args_mk,X.sub_mk,Qy.items_mk,Qy.wh_mk,xCol,xLit,xBin,xNeg]);exact wk At.world_Tape_query (p_1++[sb h3,sl [0] c4,sb h5]) kr)⟩
  ·obtain ⟨e6,t6,q6,c6⟩:=(hf1 t4 (plIn p x2) 2 zfV)
   exact ⟨X.mk kind (0:Int) false (V.mk (0:Int) (0:Int) (ByteArray.mk #[])) (ByteArray.mk #[]) (ByteArray.mk #[]) [] [Qy.mk (kind==(8:Int)) [] x2.name [e6]],t6,zlu,(by (try simp only [X.av,Qy.av,V.av,Tb.av,Sch.av,Pl.av,xsl,fsl,vsl,tsl,List.map_append,List.map_cons,List.map_nil,V.cells,Col.cells,Rw.cells,Tb.cells,Fr.cells,Sch.cells,Pl.cells,zaU,zaJ,zaO,zaM,zaP,X.cells,Qy.cells,X.args_mk,X.sub_mk,Qy.items_mk,Qy.wh_mk,xCol,xLit,xBin,xNeg]);exact wk At.world_Tape_query (p_1++[sb h3,sl [0] c4,sb h5,si (e:=IntKind.i64.wrap (d - 1)) rfl,sl [0] c6]) kr)⟩
 ·obtain ⟨e7,t7,q7,c7⟩:=(hf2 t1 (plIn p x2) 1 zfV)
  obtain ⟨b8,t8,c8⟩:=(zak t7 3 zfV)
  let p_2:List St:=p_1++[sb h3,si (e:=IntKind.i64.wrap (d - 2)) rfl,sl [0] c7,sl [0] c8]
  cases h9:!b8
  ·exact ⟨X.mk kind (0:Int) false (V.mk (0:Int) (0:Int) (ByteArray.mk #[])) (ByteArray.mk #[]) (ByteArray.mk #[]) [] [Qy.mk (kind==(8:Int)) [e7] x2.name []],t8,zlu,(by (try simp only [X.av,Qy.av,V.av,Tb.av,Sch.av,Pl.av,xsl,fsl,vsl,tsl,List.map_append,List.map_cons,List.map_nil,V.cells,Col.cells,Rw.cells,Tb.cells,Fr.cells,Sch.cells,Pl.cells,zaU,zaJ,zaO,zaM,zaP,X.cells,Qy.cells,X.args_mk,X.sub_mk,Qy.items_mk,Qy.wh_mk,xCol,xLit,xBin,xNeg]);exact wk At.world_Tape_query (p_2++[sb h9]) kr)⟩
  ·obtain ⟨e10,t10,q10,c10⟩:=(hf1 t8 (plIn p x2) 2 zfV)
   exact ⟨X.mk kind (0:Int) false (V.mk (0:Int) (0:Int) (ByteArray.mk #[])) (ByteArray.mk #[]) (ByteArray.mk #[]) [] [Qy.mk (kind==(8:Int)) [e7] x2.name [e10]],t10,zlu,(by (try simp only [X.av,Qy.av,V.av,Tb.av,Sch.av,Pl.av,xsl,fsl,vsl,tsl,List.map_append,List.map_cons,List.map_nil,V.cells,Col.cells,Rw.cells,Tb.cells,Fr.cells,Sch.cells,Pl.cells,zaU,zaJ,zaO,zaM,zaP,X.cells,Qy.cells,X.args_mk,X.sub_mk,Qy.items_mk,Qy.wh_mk,xCol,xLit,xBin,xNeg]);exact wk At.world_Tape_query (p_2++[sb h9,si (e:=IntKind.i64.wrap (d - 1)) rfl,sl [0] c10]) kr)⟩
theorem zn3 (t:Tp) (p:Pl) (w:Int) (d:Int) (hd:decide (d≤(0:Int))=true) (hd2:decide ((0:Int) < d)=false) (hf:Few p.frs) (hc:∀ f∈p.frs,Few f.cols):∃ (x:X) (t':Tp),XOk 2 x∧zac E0 S.world_Tape_Expr [.p 0 0,p.av,iv w,iv d] [.box t.cells] x.av [.box t'.cells]:=by
 obtain ⟨a1,t1,q1,c1⟩:=(zaj t 6 zaE)
 cases h2:decide (4≤(a1:Int))
 ·obtain ⟨x3,ok3,t3,q3,c3⟩:=(zcc t1 p w zaE zaE)
  rcases (Bool.eq_false_or_eq_true ok3).symm with h4|h4
  ·obtain ⟨b5,t5,c5⟩:=(zak t3 8 zaE)
   let p_1:List St:=[sl [0] c1,sb h2,sb hd,sl [0] c3,sb h4,sl [0] c5]
   rcases (Bool.eq_false_or_eq_true b5).symm with h6|h6
   ·cases h7:w==1
    ·obtain ⟨v8,t8,q8,c8⟩:=(zaV t5 w)
     exact ⟨xLit v8,t8,zcO,wk At.world_Tape_Expr (p_1++[sb h6,sb h7,sl [0] c8,sc (zaS v8)]) kr⟩
    ·obtain ⟨a9,t9,q9,c9⟩:=(za8 t5)
     exact ⟨xNum a9,t9,zcO,wk At.world_Tape_Expr (p_1++[sb h6,sb h7,sl [0] c9,sc (zbG a9 zaE)]) kr⟩
   ·exact ⟨xLit (V.mk 0 0 (ByteArray.mk #[])),t5,zcO,wk At.world_Tape_Expr (p_1++[sb h6,sc (zaS (V.mk 0 0 (ByteArray.mk #[])))]) kr⟩
  ·obtain ⟨b10,t10,c10⟩:=(zak t3 3 zaE)
   let p_2:List St:=[sl [0] c1,sb h2,sb hd,sl [0] c3,sg h4,sl [0] c10]
   cases h11:!b10
   ·obtain ⟨b12,t12,c12⟩:=(zak t10 8 zaE)
    rcases (Bool.eq_false_or_eq_true b12).symm with h13|h13
    ·cases h14:w==1
     ·obtain ⟨v15,t15,q15,c15⟩:=(zaV t12 w)
      exact ⟨xLit v15,t15,zcO,wk At.world_Tape_Expr (p_2++[sb h11,sl [0] c12,sb h13,sb h14,sl [0] c15,sc (zaS v15)]) kr⟩
     ·obtain ⟨a16,t16,q16,c16⟩:=(za8 t12)
      exact ⟨xNum a16,t16,zcO,wk At.world_Tape_Expr (p_2++[sb h11,sl [0] c12,sb h13,sb h14,sl [0] c16,sc (zbG a16 zaE)]) kr⟩
    ·exact ⟨xLit (V.mk 0 0 (ByteArray.mk #[])),t12,zcO,wk At.world_Tape_Expr (p_2++[sb h11,sl [0] c12,sb h13,sc (zaS (V.mk 0 0 (ByteArray.mk #[])))]) kr⟩
   ·exact ⟨x3,t10,zcO,wk At.world_Tape_Expr (p_2++[sb h11]) kr⟩
 ·obtain ⟨x17,ok17,t17,q17,c17⟩:=(zcc t1 p w zaE zaE)
  let p_3:List St:=[sl [0] c1,sg h2,sb hd2,sb hd,sl [0] c17]
  rcases (Bool.eq_false_or_eq_true ok17).symm with h18|h18
  ·obtain ⟨b19,t19,c19⟩:=(zak t17 8 zaE)
   rcases (Bool.eq_false_or_eq_true b19).symm with h20|h20
   ·cases h21:w==1
    ·obtain ⟨v22,t22,q22,c22⟩:=(zaV t19 w)
     exact ⟨xLit v22,t22,zcO,wk At.world_Tape_Expr (p_3++[sb h18,sl [0] c19,sb h20,sb h21,sl [0] c22,sc (zaS v22)]) kr⟩
    ·obtain ⟨a23,t23,q23,c23⟩:=(za8 t19)
     exact ⟨xNum a23,t23,zcO,wk At.world_Tape_Expr (p_3++[sb h18,sl [0] c19,sb h20,sb h21,sl [0] c23,sc (zbG a23 zaE)]) kr⟩
   ·exact ⟨xLit (V.mk 0 0 (ByteArray.mk #[])),t19,zcO,wk At.world_Tape_Expr (p_3++[sb h18,sl [0] c19,sb h20,sc (zaS (V.mk 0 0 (ByteArray.mk #[])))]) kr⟩
  ·obtain ⟨b24,t24,c24⟩:=(zak t17 3 zaE)
   cases h25:!b24
   ·obtain ⟨b26,t26,c26⟩:=(zak t24 8 zaE)
    let p_4:List St:=p_3++[sg h18,sl [0] c24,sb h25,sl [0] c26]
    rcases (Bool.eq_false_or_eq_true b26).symm with h27|h27
    ·cases h28:w==1
     ·obtain ⟨v29,t29,q29,c29⟩:=(zaV t26 w)
      exact ⟨xLit v29,t29,zcO,wk At.world_Tape_Expr (p_4++[sb h27,sb h28,sl [0] c29,sc (zaS v29)]) kr⟩
     ·obtain ⟨a30,t30,q30,c30⟩:=(za8 t26)
      exact ⟨xNum a30,t30,zcO,wk At.world_Tape_Expr (p_4++[sb h27,sb h28,sl [0] c30,sc (zbG a30 zaE)]) kr⟩
    ·exact ⟨xLit (V.mk 0 0 (ByteArray.mk #[])),t26,zcO,wk At.world_Tape_Expr (p_4++[sb h27,sc (zaS (V.mk 0 0 (ByteArray.mk #[])))]) kr⟩
   ·exact ⟨x17,t24,zcO,wk At.world_Tape_Expr (p_3++[sg h18,sl [0] c24,sb h25]) kr⟩
theorem zra (t:Tp) (p:Pl) (w:Int) (d:Int) (m:Nat) (hd:decide (d≤(0:Int))=false) (hd2:decide ((0:Int) < d)=true) (hf:Few p.frs) (hc:∀ f∈p.frs,Few f.cols) (hf1:∀ (t:Tp) (w:Int),∃ (e:X) (t':Tp),XOk (m+1) e∧zac E0 S.world_Tape_Expr [.p 0 0,p.av,iv w,iv (IntKind.i64.wrap (d - 1))] [.box t.cells] e.av [.box t'.cells]) (hq:∀ (t:Tp) (k:Int),∃ (e:X) (t':Tp),XOk (m+2) e∧zac E0 S.world_Tape_query [.p 0 0,p.av,iv k,iv d] [.box t.cells] e.av [.box t'.cells]) (hcd:∀ (t:Tp),∃ (e:X) (t':Tp),XOk (m+2) e∧zac E0 S.world_Tape_condition [.p 0 0,p.av,iv d] [.box t.cells] e.av [.box t'.cells]):∃ (x:X) (t':Tp),XOk (m+2) x∧zac E0 S.world_Tape_Expr [.p 0 0,p.av,iv w,iv d] [.box t.cells] x.av [.box t'.cells]:=by
 obtain ⟨a1,t1,q1,c1⟩:=(zaj t 6 zaE)
 cases h2:decide (4≤(a1:Int))
 ·cases h3:decide (3≤(a1:Int))
  ·cases h4:w==1
   ·cases h5:w==2
    ·obtain ⟨v6,t6,q6,c6⟩:=(zaV t1 w)
     exact ⟨xLit v6,t6,zaW,wk At.world_Tape_Expr [sl [0] c1,sb h2,sg hd,sb h3,sb h4,sb h5,sb h4,sb h5,sl [0] c6,sc (zaS v6)] kr⟩
    ·let p_1:List St:=[sl [0] c1,sb h2,sg hd,sb h3,sb h4,sg h5]
     cases h7:(a1:Int)==0
     ·obtain ⟨e8,t8,q8,c8⟩:=(hcd t1)
      exact ⟨e8,t8,zaW,wk At.world_Tape_Expr (p_1++[sb h7,sb h4,sb h5,sl [0] c8]) kr⟩
     ·cases h9:decide (0 < (↑(List.map Sch.cells p.tbs).length:Int))
      ·obtain ⟨e10,t10,q10,c10⟩:=(hcd t1)
       exact ⟨e10,t10,zaW,wk At.world_Tape_Expr (p_1++[sg h7,sb h9,sb h4,sb h5,sl [0] c10]) kr⟩
      ·obtain ⟨b11,t11,c11⟩:=(zak t1 2 zaE)
       rcases (Bool.eq_false_or_eq_true b11).symm with h12|h12
       ·obtain ⟨e13,t13,q13,c13⟩:=(hcd t11)
        exact ⟨e13,t13,zaW,wk At.world_Tape_Expr (p_1++[sg h7,sg h9,sl [0] c11,sb h12,sb h4,sb h5,sl [0] c13]) kr⟩
       ·obtain ⟨e14,t14,q14,c14⟩:=(hq t11 8)
        exact ⟨e14,t14,zaW,wk At.world_Tape_Expr (p_1++[sg h7,sg h9,sl [0] c11,sb h12,sl [0] c14]) kr⟩
   ·cases h15:(a1:Int)==0
    ·let p_2:List St:=[sl [0] c1,sb h2,sg hd,sb h3,sg h4,sb h15]
     cases h16:w==2
     ·obtain ⟨b17,t17,c17⟩:=(zak t1 6 zaE)
      rcases (Bool.eq_false_or_eq_true b17).symm with h18|h18
      ·obtain ⟨a19,t19,q19,c19⟩:=(zaj t17 6 zaE)
       obtain ⟨e20,t20,q20,c20⟩:=(hf1 t19 w)
       obtain ⟨e21,t21,q21,c21⟩:=(hf1 t20 w)
       exact ⟨xBin (opAt a19) e20 e21,t21,zaW,wk At.world_Tape_Expr (p_2++[sb h16,sb h4,sl [0] c17,sb h18,sd [(9,[si (e:=IntKind.i64.wrap (d - 1)) rfl]),(15,[si (e:=IntKind.i64.wrap (d - 1)) rfl]),(2,[sl [0] c19]),(3,[se (zex a19 zaE)]),(10,[sl [0] c20]),(16,[sl [0] c21]),(17,[sc (zbH (opAt a19) e20 e21)])]]) kr⟩
      ·obtain ⟨e22,t22,q22,c22⟩:=(hf1 t17 w)
       exact ⟨X.mk 4 0 false (V.mk 0 0 (ByteArray.mk #[])) (ByteArray.mk #[]) (ByteArray.mk #[]) [e22] [],t22,zaW,(by (try simp only [X.av,Qy.av,V.av,Tb.av,Sch.av,Pl.av,xsl,fsl,vsl,tsl,List.map_append,List.map_cons,List.map_nil,V.cells,Col.cells,Rw.cells,Tb.cells,Fr.cells,Sch.cells,Pl.cells,zaU,zaJ,zaO,zaM,zaP,X.cells,Qy.cells,X.args_mk,X.sub_mk,Qy.items_mk,Qy.wh_mk,xCol,xLit,xBin,xNeg]);exact wk At.world_Tape_Expr (p_2++[sb h16,sb h4,sl [0] c17,sb h18,si (e:=IntKind.i64.wrap (d - 1)) rfl,sl [0] c22]) kr)⟩
     ·obtain ⟨b23,t23,c23⟩:=(zak t1 6 zaE)
      rcases (Bool.eq_false_or_eq_true b23).symm with h24|h24
      ·obtain ⟨a25,t25,q25,c25⟩:=(zaj t23 6 zaE)
       obtain ⟨e26,t26,q26,c26⟩:=(hf1 t25 w)
       obtain ⟨e27,t27,q27,c27⟩:=(hf1 t26 w)
       exact ⟨xBin (opAt a25) e26 e27,t27,zaW,wk At.world_Tape_Expr (p_2++[sg h16,sb h15,sb h4,sl [0] c23,sb h24,sd [(9,[si (e:=IntKind.i64.wrap (d - 1)) rfl]),(15,[si (e:=IntKind.i64.wrap (d - 1)) rfl]),(2,[sl [0] c25]),(3,[se (zex a25 zaE)]),(10,[sl [0] c26]),(16,[sl [0] c27]),(17,[sc (zbH (opAt a25) e26 e27)])]]) kr⟩
      ·obtain ⟨e28,t28,q28,c28⟩:=(hf1 t23 w)
       exact ⟨X.mk 4 0 false (V.mk 0 0 (ByteArray.mk #[])) (ByteArray.mk #[]) (ByteArray.mk #[]) [e28] [],t28,zaW,(by (try simp only [X.av,Qy.av,V.av,Tb.av,Sch.av,Pl.av,xsl,fsl,vsl,tsl,List.map_append,List.map_cons,List.map_nil,V.cells,Col.cells,Rw.cells,Tb.cells,Fr.cells,Sch.cells,Pl.cells,zaU,zaJ,zaO,zaM,zaP,X.cells,Qy.cells,X.args_mk,X.sub_mk,Qy.items_mk,Qy.wh_mk,xCol,xLit,xBin,xNeg]);exact wk At.world_Tape_Expr (p_2++[sg h16,sb h15,sb h4,sl [0] c23,sb h24,si (e:=IntKind.i64.wrap (d - 1)) rfl,sl [0] c28]) kr)⟩
    ·let p_3:List St:=[sl [0] c1,sb h2,sg hd,sb h3,sg h4,sg h15]
     cases h29:decide (0 < (↑(List.map Sch.cells p.tbs).length:Int))
     ·cases h30:w==2
      ·obtain ⟨b31,t31,c31⟩:=(zak t1 6 zaE)
       rcases (Bool.eq_false_or_eq_true b31).symm with h32|h32
       ·obtain ⟨a33,t33,q33,c33⟩:=(zaj t31 6 zaE)
        obtain ⟨e34,t34,q34,c34⟩:=(hf1 t33 w)
        obtain ⟨e35,t35,q35,c35⟩:=(hf1 t34 w)
        exact ⟨xBin (opAt a33) e34 e35,t35,zaW,wk At.world_Tape_Expr (p_3++[sb h29,sb h30,sb h4,sl [0] c31,sb h32,sd [(9,[si (e:=IntKind.i64.wrap (d - 1)) rfl]),(15,[si (e:=IntKind.i64.wrap (d - 1)) rfl]),(2,[sl [0] c33]),(3,[se (zex a33 zaE)]),(10,[sl [0] c34]),(16,[sl [0] c35]),(17,[sc (zbH (opAt a33) e34 e35)])]]) kr⟩
       ·obtain ⟨e36,t36,q36,c36⟩:=(hf1 t31 w)
        exact ⟨X.mk 4 0 false (V.mk 0 0 (ByteArray.mk #[])) (ByteArray.mk #[]) (ByteArray.mk #[]) [e36] [],t36,zaW,(by (try simp only [X.av,Qy.av,V.av,Tb.av,Sch.av,Pl.av,xsl,fsl,vsl,tsl,List.map_append,List.map_cons,List.map_nil,V.cells,Col.cells,Rw.cells,Tb.cells,Fr.cells,Sch.cells,Pl.cells,zaU,zaJ,zaO,zaM,zaP,X.cells,Qy.cells,X.args_mk,X.sub_mk,Qy.items_mk,Qy.wh_mk,xCol,xLit,xBin,xNeg]);exact wk At.world_Tape_Expr (p_3++[sb h29,sb h30,sb h4,sl [0] c31,sb h32,si (e:=IntKind.i64.wrap (d - 1)) rfl,sl [0] c36]) kr)⟩
      ·obtain ⟨b37,t37,c37⟩:=(zak t1 6 zaE)
       let p_4:List St:=p_3++[sb h29,sg h30,sg h15,sb h29,sb h4,sl [0] c37]
       rcases (Bool.eq_false_or_eq_true b37).symm with h38|h38
       ·obtain ⟨a39,t39,q39,c39⟩:=(zaj t37 6 zaE)
        obtain ⟨e40,t40,q40,c40⟩:=(hf1 t39 w)
        obtain ⟨e41,t41,q41,c41⟩:=(hf1 t40 w)
        exact ⟨xBin (opAt a39) e40 e41,t41,zaW,wk At.world_Tape_Expr (p_4++[sb h38,sd [(9,[si (e:=IntKind.i64.wrap (d - 1)) rfl]),(15,[si (e:=IntKind.i64.wrap (d - 1)) rfl]),(2,[sl [0] c39]),(3,[se (zex a39 zaE)]),(10,[sl [0] c40]),(16,[sl [0] c41]),(17,[sc (zbH (opAt a39) e40 e41)])]]) kr⟩
       ·obtain ⟨e42,t42,q42,c42⟩:=(hf1 t37 w)
        exact ⟨X.mk 4 0 false (V.mk 0 0 (ByteArray.mk #[])) (ByteArray.mk #[]) (ByteArray.mk #[]) [e42] [],t42,zaW,(by (try simp only [X.av,Qy.av,V.av,Tb.av,Sch.av,Pl.av,xsl,fsl,vsl,tsl,List.map_append,List.map_cons,List.map_nil,V.cells,Col.cells,Rw.cells,Tb.cells,Fr.cells,Sch.cells,Pl.cells,zaU,zaJ,zaO,zaM,zaP,X.cells,Qy.cells,X.args_mk,X.sub_mk,Qy.items_mk,Qy.wh_mk,xCol,xLit,xBin,xNeg]);exact wk At.world_Tape_Expr (p_4++[sb h38,si (e:=IntKind.i64.wrap (d - 1)) rfl,sl [0] c42]) kr)⟩
     ·obtain ⟨a43,t43,q43,c43⟩:=(zaj t1 4 zaE)
      obtain ⟨e44,t44,q44,c44⟩:=(hq t43 (IntKind.i64.wrap (9+(a43:Int))))
      exact ⟨e44,t44,zaW,wk At.world_Tape_Expr (p_3++[sb h29,sd [(3,[sl [0] c43]),(4,[si (e:=IntKind.i64.wrap (9+(a43:Int))) rfl]),(6,[sl [0] c44])]]) kr⟩
  ·obtain ⟨x45,ok45,t45,q45,c45⟩:=(zcc t1 p w zaE zaE)
   let p_5:List St:=[sl [0] c1,sb h2,sg hd,sb h3,sl [0] c45]
   rcases (Bool.eq_false_or_eq_true ok45).symm with h46|h46
   ·obtain ⟨b47,t47,c47⟩:=(zak t45 8 zaE)
    rcases (Bool.eq_false_or_eq_true b47).symm with h48|h48
    ·cases h49:w==1
     ·obtain ⟨v50,t50,q50,c50⟩:=(zaV t47 w)
      exact ⟨xLit v50,t50,zaW,wk At.world_Tape_Expr (p_5++[sb h46,sl [0] c47,sb h48,sb h49,sl [0] c50,sc (zaS v50)]) kr⟩
     ·obtain ⟨a51,t51,q51,c51⟩:=(za8 t47)
      exact ⟨xNum a51,t51,zaW,wk At.world_Tape_Expr (p_5++[sb h46,sl [0] c47,sb h48,sb h49,sl [0] c51,sc (zbG a51 zaE)]) kr⟩
    ·exact ⟨xLit (V.mk 0 0 (ByteArray.mk #[])),t47,zaW,wk At.world_Tape_Expr (p_5++[sb h46,sl [0] c47,sb h48,sc (zaS (V.mk 0 0 (ByteArray.mk #[])))]) kr⟩
   ·obtain ⟨b52,t52,c52⟩:=(zak t45 3 zaE)
    cases h53:!b52
    ·obtain ⟨b54,t54,c54⟩:=(zak t52 8 zaE)
     let p_6:List St:=p_5++[sg h46,sl [0] c52,sb h53,sl [0] c54]
     rcases (Bool.eq_false_or_eq_true b54).symm with h55|h55
     ·cases h56:w==1
      ·obtain ⟨v57,t57,q57,c57⟩:=(zaV t54 w)
       exact ⟨xLit v57,t57,zaW,wk At.world_Tape_Expr (p_6++[sb h55,sb h56,sl [0] c57,sc (zaS v57)]) kr⟩
      ·obtain ⟨a58,t58,q58,c58⟩:=(za8 t54)
       exact ⟨xNum a58,t58,zaW,wk At.world_Tape_Expr (p_6++[sb h55,sb h56,sl [0] c58,sc (zbG a58 zaE)]) kr⟩
     ·exact ⟨xLit (V.mk 0 0 (ByteArray.mk #[])),t54,zaW,wk At.world_Tape_Expr (p_6++[sb h55,sc (zaS (V.mk 0 0 (ByteArray.mk #[])))]) kr⟩
    ·exact ⟨x45,t52,zaW,wk At.world_Tape_Expr (p_5++[sg h46,sl [0] c52,sb h53]) kr⟩
 ·obtain ⟨a59,t59,q59,c59⟩:=(zaj t1 4 zaE)
  let p_7:List St:=[sl [0] c1,sg h2,sb hd2,sl [0] c59,sg hd]
  cases h60:decide (3≤(a59:Int))
  ·cases h61:w==1
   ·cases h62:w==2
    ·obtain ⟨v63,t63,q63,c63⟩:=(zaV t59 w)
     exact ⟨xLit v63,t63,zaW,wk At.world_Tape_Expr (p_7++[sb h60,sb h61,sb h62,sb h61,sb h62,sl [0] c63,sc (zaS v63)]) kr⟩
    ·cases h64:(a59:Int)==0
     ·obtain ⟨e65,t65,q65,c65⟩:=(hcd t59)
      exact ⟨e65,t65,zaW,wk At.world_Tape_Expr (p_7++[sb h60,sb h61,sg h62,sb h64,sb h61,sb h62,sl [0] c65]) kr⟩
     ·cases h66:decide (0 < (↑(List.map Sch.cells p.tbs).length:Int))
      ·obtain ⟨e67,t67,q67,c67⟩:=(hcd t59)
       exact ⟨e67,t67,zaW,wk At.world_Tape_Expr (p_7++[sb h60,sb h61,sg h62,sg h64,sb h66,sb h61,sb h62,sl [0] c67]) kr⟩
      ·obtain ⟨b68,t68,c68⟩:=(zak t59 2 zaE)
       let p_8:List St:=p_7++[sb h60,sb h61,sg h62,sg h64,sg h66,sl [0] c68]
       rcases (Bool.eq_false_or_eq_true b68).symm with h69|h69
       ·obtain ⟨e70,t70,q70,c70⟩:=(hcd t68)
        exact ⟨e70,t70,zaW,wk At.world_Tape_Expr (p_8++[sb h69,sb h61,sb h62,sl [0] c70]) kr⟩
       ·obtain ⟨e71,t71,q71,c71⟩:=(hq t68 8)
        exact ⟨e71,t71,zaW,wk At.world_Tape_Expr (p_8++[sb h69,sl [0] c71]) kr⟩
   ·cases h72:(a59:Int)==0
    ·cases h73:w==2
     ·obtain ⟨b74,t74,c74⟩:=(zak t59 6 zaE)
      let p_9:List St:=p_7++[sb h60,sg h61,sb h72,sb h73,sb h61,sl [0] c74]
      rcases (Bool.eq_false_or_eq_true b74).symm with h75|h75
      ·obtain ⟨a76,t76,q76,c76⟩:=(zaj t74 6 zaE)
       obtain ⟨e77,t77,q77,c77⟩:=(hf1 t76 w)
       obtain ⟨e78,t78,q78,c78⟩:=(hf1 t77 w)
       exact ⟨xBin (opAt a76) e77 e78,t78,zaW,wk At.world_Tape_Expr (p_9++[sb h75,sd [(9,[si (e:=IntKind.i64.wrap (d - 1)) rfl]),(15,[si (e:=IntKind.i64.wrap (d - 1)) rfl]),(2,[sl [0] c76]),(3,[se (zex a76 zaE)]),(10,[sl [0] c77]),(16,[sl [0] c78]),(17,[sc (zbH (opAt a76) e77 e78)])]]) kr⟩
      ·obtain ⟨e79,t79,q79,c79⟩:=(hf1 t74 w)
       exact ⟨X.mk 4 0 false (V.mk 0 0 (ByteArray.mk #[])) (ByteArray.mk #[]) (ByteArray.mk #[]) [e79] [],t79,zaW,(by (try simp only [X.av,Qy.av,V.av,Tb.av,Sch.av,Pl.av,xsl,fsl,vsl,tsl,List.map_append,List.map_cons,List.map_nil,V.cells,Col.cells,Rw.cells,Tb.cells,Fr.cells,Sch.cells,Pl.cells,zaU,zaJ,zaO,zaM,zaP,X.cells,Qy.cells,X.args_mk,X.sub_mk,Qy.items_mk,Qy.wh_mk,xCol,xLit,xBin,xNeg]);exact wk At.world_Tape_Expr (p_9++[sb h75,si (e:=IntKind.i64.wrap (d - 1)) rfl,sl [0] c79]) kr)⟩
     ·obtain ⟨b80,t80,c80⟩:=(zak t59 6 zaE)
      let p_10:List St:=p_7++[sb h60,sg h61,sb h72,sg h73,sb h72,sb h61,sl [0] c80]
      rcases (Bool.eq_false_or_eq_true b80).symm with h81|h81
      ·obtain ⟨a82,t82,q82,c82⟩:=(zaj t80 6 zaE)
       obtain ⟨e83,t83,q83,c83⟩:=(hf1 t82 w)
       obtain ⟨e84,t84,q84,c84⟩:=(hf1 t83 w)
       exact ⟨xBin (opAt a82) e83 e84,t84,zaW,wk At.world_Tape_Expr (p_10++[sb h81,sd [(9,[si (e:=IntKind.i64.wrap (d - 1)) rfl]),(15,[si (e:=IntKind.i64.wrap (d - 1)) rfl]),(2,[sl [0] c82]),(3,[se (zex a82 zaE)]),(10,[sl [0] c83]),(16,[sl [0] c84]),(17,[sc (zbH (opAt a82) e83 e84)])]]) kr⟩
      ·obtain ⟨e85,t85,q85,c85⟩:=(hf1 t80 w)
       exact ⟨X.mk 4 0 false (V.mk 0 0 (ByteArray.mk #[])) (ByteArray.mk #[]) (ByteArray.mk #[]) [e85] [],t85,zaW,(by (try simp only [X.av,Qy.av,V.av,Tb.av,Sch.av,Pl.av,xsl,fsl,vsl,tsl,List.map_append,List.map_cons,List.map_nil,V.cells,Col.cells,Rw.cells,Tb.cells,Fr.cells,Sch.cells,Pl.cells,zaU,zaJ,zaO,zaM,zaP,X.cells,Qy.cells,X.args_mk,X.sub_mk,Qy.items_mk,Qy.wh_mk,xCol,xLit,xBin,xNeg]);exact wk At.world_Tape_Expr (p_10++[sb h81,si (e:=IntKind.i64.wrap (d - 1)) rfl,sl [0] c85]) kr)⟩
    ·cases h86:decide (0 < (↑(List.map Sch.cells p.tbs).length:Int))
     ·cases h87:w==2
      ·obtain ⟨b88,t88,c88⟩:=(zak t59 6 zaE)
       let p_11:List St:=p_7++[sb h60,sg h61,sg h72,sb h86,sb h87,sb h61,sl [0] c88]
       rcases (Bool.eq_false_or_eq_true b88).symm with h89|h89
       ·obtain ⟨a90,t90,q90,c90⟩:=(zaj t88 6 zaE)
        obtain ⟨e91,t91,q91,c91⟩:=(hf1 t90 w)
        obtain ⟨e92,t92,q92,c92⟩:=(hf1 t91 w)
        exact ⟨xBin (opAt a90) e91 e92,t92,zaW,wk At.world_Tape_Expr (p_11++[sb h89,sd [(9,[si (e:=IntKind.i64.wrap (d - 1)) rfl]),(15,[si (e:=IntKind.i64.wrap (d - 1)) rfl]),(2,[sl [0] c90]),(3,[se (zex a90 zaE)]),(10,[sl [0] c91]),(16,[sl [0] c92]),(17,[sc (zbH (opAt a90) e91 e92)])]]) kr⟩
       ·obtain ⟨e93,t93,q93,c93⟩:=(hf1 t88 w)
        exact ⟨X.mk 4 0 false (V.mk 0 0 (ByteArray.mk #[])) (ByteArray.mk #[]) (ByteArray.mk #[]) [e93] [],t93,zaW,(by (try simp only [X.av,Qy.av,V.av,Tb.av,Sch.av,Pl.av,xsl,fsl,vsl,tsl,List.map_append,List.map_cons,List.map_nil,V.cells,Col.cells,Rw.cells,Tb.cells,Fr.cells,Sch.cells,Pl.cells,zaU,zaJ,zaO,zaM,zaP,X.cells,Qy.cells,X.args_mk,X.sub_mk,Qy.items_mk,Qy.wh_mk,xCol,xLit,xBin,xNeg]);exact wk At.world_Tape_Expr (p_11++[sb h89,si (e:=IntKind.i64.wrap (d - 1)) rfl,sl [0] c93]) kr)⟩
      ·obtain ⟨b94,t94,c94⟩:=(zak t59 6 zaE)
       let p_12:List St:=p_7++[sb h60,sg h61,sg h72,sb h86,sg h87,sg h72,sb h86,sb h61,sl [0] c94]
       rcases (Bool.eq_false_or_eq_true b94).symm with h95|h95
       ·obtain ⟨a96,t96,q96,c96⟩:=(zaj t94 6 zaE)
        obtain ⟨e97,t97,q97,c97⟩:=(hf1 t96 w)
        obtain ⟨e98,t98,q98,c98⟩:=(hf1 t97 w)
        exact ⟨xBin (opAt a96) e97 e98,t98,zaW,wk At.world_Tape_Expr (p_12++[sb h95,sd [(9,[si (e:=IntKind.i64.wrap (d - 1)) rfl]),(15,[si (e:=IntKind.i64.wrap (d - 1)) rfl]),(2,[sl [0] c96]),(3,[se (zex a96 zaE)]),(10,[sl [0] c97]),(16,[sl [0] c98]),(17,[sc (zbH (opAt a96) e97 e98)])]]) kr⟩
       ·obtain ⟨e99,t99,q99,c99⟩:=(hf1 t94 w)
        exact ⟨X.mk 4 0 false (V.mk 0 0 (ByteArray.mk #[])) (ByteArray.mk #[]) (ByteArray.mk #[]) [e99] [],t99,zaW,(by (try simp only [X.av,Qy.av,V.av,Tb.av,Sch.av,Pl.av,xsl,fsl,vsl,tsl,List.map_append,List.map_cons,List.map_nil,V.cells,Col.cells,Rw.cells,Tb.cells,Fr.cells,Sch.cells,Pl.cells,zaU,zaJ,zaO,zaM,zaP,X.cells,Qy.cells,X.args_mk,X.sub_mk,Qy.items_mk,Qy.wh_mk,xCol,xLit,xBin,xNeg]);exact wk At.world_Tape_Expr (p_12++[sb h95,si (e:=IntKind.i64.wrap (d - 1)) rfl,sl [0] c99]) kr)⟩
     ·obtain ⟨a100,t100,q100,c100⟩:=(zaj t59 4 zaE)
      obtain ⟨e101,t101,q101,c101⟩:=(hq t100 (IntKind.i64.wrap (9+(a100:Int))))
      exact ⟨e101,t101,zaW,wk At.world_Tape_Expr (p_7++[sb h60,sg h61,sg h72,sb h86,sd [(3,[sl [0] c100]),(4,[si (e:=IntKind.i64.wrap (9+(a100:Int))) rfl]),(6,[sl [0] c101])]]) kr⟩
  ·obtain ⟨x102,ok102,t102,q102,c102⟩:=(zcc t59 p w zaE zaE)
   rcases (Bool.eq_false_or_eq_true ok102).symm with h103|h103
   ·obtain ⟨b104,t104,c104⟩:=(zak t102 8 zaE)
    let p_13:List St:=p_7++[sb h60,sl [0] c102,sb h103,sl [0] c104]
    rcases (Bool.eq_false_or_eq_true b104).symm with h105|h105
    ·cases h106:w==1
     ·obtain ⟨v107,t107,q107,c107⟩:=(zaV t104 w)
      exact ⟨xLit v107,t107,zaW,wk At.world_Tape_Expr (p_13++[sb h105,sb h106,sl [0] c107,sc (zaS v107)]) kr⟩
     ·obtain ⟨a108,t108,q108,c108⟩:=(za8 t104)
      exact ⟨xNum a108,t108,zaW,wk At.world_Tape_Expr (p_13++[sb h105,sb h106,sl [0] c108,sc (zbG a108 zaE)]) kr⟩
    ·exact ⟨xLit (V.mk 0 0 (ByteArray.mk #[])),t104,zaW,wk At.world_Tape_Expr (p_13++[sb h105,sc (zaS (V.mk 0 0 (ByteArray.mk #[])))]) kr⟩
   ·obtain ⟨b109,t109,c109⟩:=(zak t102 3 zaE)
    let p_14:List St:=p_7++[sb h60,sl [0] c102,sg h103,sl [0] c109]
    cases h110:!b109
    ·obtain ⟨b111,t111,c111⟩:=(zak t109 8 zaE)
     rcases (Bool.eq_false_or_eq_true b111).symm with h112|h112
     ·cases h113:w==1
      ·obtain ⟨v114,t114,q114,c114⟩:=(zaV t111 w)
       exact ⟨xLit v114,t114,zaW,wk At.world_Tape_Expr (p_14++[sb h110,sl [0] c111,sb h112,sb h113,sl [0] c114,sc (zaS v114)]) kr⟩
      ·obtain ⟨a115,t115,q115,c115⟩:=(za8 t111)
       exact ⟨xNum a115,t115,zaW,wk At.world_Tape_Expr (p_14++[sb h110,sl [0] c111,sb h112,sb h113,sl [0] c115,sc (zbG a115 zaE)]) kr⟩
     ·exact ⟨xLit (V.mk 0 0 (ByteArray.mk #[])),t111,zaW,wk At.world_Tape_Expr (p_14++[sb h110,sl [0] c111,sb h112,sc (zaS (V.mk 0 0 (ByteArray.mk #[])))]) kr⟩
    ·exact ⟨x102,t109,zaW,wk At.world_Tape_Expr (p_14++[sb h110]) kr⟩
end Go.AM
namespace Go.AM
set_option maxRecDepth 100000
set_option linter.unusedSimpArgs false
set_option linter.unusedVariables false
abbrev dpt (n:Nat):Int:=(n:Int) - 1
theorem dpt1 (n:Nat) (hn:n≤500):IntKind.i64.wrap (dpt (n+2) - 1)=dpt (n+1):=by rw [IntKind.wrap_i64];simp only [dpt];omega
theorem dpt2 (n:Nat) (hn:n≤500):IntKind.i64.wrap (dpt (n+2) - 2)=dpt n:=by rw [IntKind.wrap_i64];simp only [dpt];omega
theorem zlO:∀ (n:Nat),n≤500→RecE n (n+2) (dpt n)
 | 0,_,t,p,w,hp=>zn3 t p w _ (by decide) (by decide) hp.few1 hp.cols
 | 1,_,t,p,w,hp=>by
  obtain ⟨e,t',h,hc⟩:=zn3 t p w (dpt 1) (by decide) (by decide) hp.few1 hp.cols
  exact ⟨e,t',h.mono,hc⟩
 | n+2,hn,t,p,w,hp=>by
  have h1:=zlO (n+1) (by omega)
  have h2:=zlO n (by omega)
  have e1:=dpt1 n (by omega)
  have e2:=dpt2 n (by omega)
  have hf1:RecE (n+1) (n+3) (IntKind.i64.wrap (dpt (n+2) - 1)):=by rw [e1];exact h1
  have hf2:RecE (n+1) (n+3) (IntKind.i64.wrap (dpt (n+2) - 2)):=by
   rw [e2]
   intro t p w hp
   obtain ⟨e,t',h,hc⟩:=h2 t p w hp.less
   exact ⟨e,t',h.mono,hc⟩
  exact zra t p w (dpt (n+2)) (n+2) (by simp only [dpt];simp;omega) (by simp only [dpt];simp;omega) hp.few1 hp.cols (fun t w=>hf1 t p w hp.less)
   (fun t k=>zrg t p k (n+1) (n+3) (dpt (n+2)) hp hf1 hf2) (fun t=>zm4 t p (n+1) (n+3) (dpt (n+2)) hp.less hf1)
theorem zgv (t:Tp) (p:Pl) (w:Int) (hp:p.OkN 3):∃ (e:X) (t':Tp),XOk 5 e∧zac E0 S.world_Tape_Expr [.p 0 0,p.av,iv w,iv 2] [.box t.cells] e.av [.box t'.cells]:=zlO 3 (by omega) t p w hp
end Go.AM
namespace Go.AM
set_option maxRecDepth 100000
set_option maxHeartbeats 1000000
set_option linter.unusedSimpArgs false
set_option linter.unusedVariables false
theorem zlg {p:Prop} (h:p:=by first|assumption|(simp;done)|(simp;omega)|omega|(simp at *;omega)):p:=h
theorem zlw {p:Prop} (h:p:=by first|assumption|omega|(simp;done)|(simp;omega)):p:=h
def za2:Fr:=⟨⟨#[]⟩,false,[],[]⟩
theorem znO {α:Type} {l:List α} {k:Nat} (d:α) (h:k < l.length):l[k]?=some (l.getD k d):=by
 rw [List.getD_eq_getElem?_getD,List.getElem?_eq_getElem h];rfl
noncomputable def L_sres (frs:List Fr) (q n:Str) (k:Nat) :Cfg:=zaw B.scope_Resolve 0 [(0,fsl frs),(1,sv q),(2,sv n),(9,iv (pm1 k))] []
def sres (frs:List Fr) (q n:Str):Nat→Int × Int × Bool
 | 0 =>
  (0,0,false)
 | k+1 =>
  bif ByteArray.toList q==(ByteArray.mk #[]).toList then
   bif (frs.getD k za2).strict then
    sres frs q n (k)
   else
    bif decide (0≤idxF (fun c=>colC c n) (Sch.mk (ByteArray.mk #[]) (frs.getD k za2).cols).cols 0) then
     (pm1 (k+1),idxF (fun c=>colC c n) (Sch.mk (ByteArray.mk #[]) (frs.getD k za2).cols).cols 0,true)
    else
     sres frs q n (k)
  else
   bif !ByteArray.toList (frs.getD k za2).name==ByteArray.toList q then
    sres frs q n (k)
   else
    bif decide (0≤idxF (fun c=>colC c n) (Sch.mk (ByteArray.mk #[]) (frs.getD k za2).cols).cols 0) then
     (pm1 (k+1),idxF (fun c=>colC c n) (Sch.mk (ByteArray.mk #[]) (frs.getD k za2).cols).cols 0,true)
    else
     sres frs q n (k)
theorem znw (frs:List Fr) (q n:Str) (hl:zad frs) (hc:∀ f∈frs,zad f.cols):∀ (k:Nat),k≤1000000000→k≤frs.length→Good E0 B.scope_Resolve [] (L_sres frs q n k ) (Shut 0 fun r h=>r=(.tup [iv (sres frs q n k ).1,iv (sres frs q n k ).2.1,bv (sres frs q n k ).2.2])∧h=[]):=by
 intro k
 induction k with
 | zero =>
  intro  hk hk2
  simp only [sres]
  refine zaa ?_
  exact wkr [sb (rfl:false=false)] kr
 | succ k ih =>
  intro  hk hk2
  have h0:decide ((0:Int)≤((k:Nat):Int))=true:=by simp
  have hw:=zlK k (by omega)
  have hx:=znO (l:=frs) (k:=k) za2 (by omega);have hcx:=hc _ (List.mem_of_getElem? hx)
  simp only [sres]
  refine zaa ?_
  cases h1:ByteArray.toList q==(ByteArray.mk #[]).toList
  ·cases h2:!ByteArray.toList (frs.getD k za2).name==ByteArray.toList q
   ·cases h3:decide (0≤idxF (fun c=>colC c n) (Sch.mk (ByteArray.mk #[]) (frs.getD k za2).cols).cols 0)
    ·exact wkl [sb (rfl:true=true),se (zah Fr.cells hx rfl),sb h1,sg (congrArg Bool.not h1),sb h2,sc (zbe (Sch.mk (ByteArray.mk #[]) (frs.getD k za2).cols) n zlw),sb h3,si hw] [0,1,2,9] 0 kr (ih  (by omega) zlg)
    ·exact wkr [sb (rfl:true=true),se (zah Fr.cells hx rfl),sb h1,sg (congrArg Bool.not h1),sb h2,sc (zbe (Sch.mk (ByteArray.mk #[]) (frs.getD k za2).cols) n zlw),sb h3] kr
   ·exact wkl [sb (rfl:true=true),se (zah Fr.cells hx rfl),sb h1,sg (congrArg Bool.not h1),sb h2,si hw] [0,1,2,9] 0 kr (ih  (by omega) zlg)
  ·cases h4:(frs.getD k za2).strict
   ·cases h5:decide (0≤idxF (fun c=>colC c n) (Sch.mk (ByteArray.mk #[]) (frs.getD k za2).cols).cols 0)
    ·exact wkl [sb (rfl:true=true),se (zah Fr.cells hx rfl),sg h1,sg h4,sb (congrArg Bool.not h1),sc (zbe (Sch.mk (ByteArray.mk #[]) (frs.getD k za2).cols) n zlw),sb h5,si hw] [0,1,2,9] 0 kr (ih  (by omega) zlg)
    ·exact wkr [sb (rfl:true=true),se (zah Fr.cells hx rfl),sg h1,sg h4,sb (congrArg Bool.not h1),sc (zbe (Sch.mk (ByteArray.mk #[]) (frs.getD k za2).cols) n zlw),sb h5] kr
   ·exact wkl [sb (rfl:true=true),se (zah Fr.cells hx rfl),sg h1,sb h4,si hw] [0,1,2,9] 0 kr (ih  (by omega) zlg)
theorem zqG {α:Type} (f:α→List AV) (l:List α) (h:zad l):IntKind.i64.wrap ((((l.map f).length:Nat):Int) - 1)=pm1 l.length:=by
 rw [List.length_map];exact zlK _ (by simp only [zad] at h;omega)
def zbi (frs:List Fr) (q n:Str):Int × Int × Bool :=
 sres frs q n (frs.length)
theorem zcN (frs:List Fr) (q n:Str) (hl:zad frs) (hc:∀ f∈frs,zad f.cols) (hw0:IntKind.i64.wrap ((((frs.map Fr.cells).length:Nat):Int) - 1)=pm1 frs.length):zac E0 S.scope_Resolve [fsl frs,sv q,sv n] [] (.tup [iv (zbi frs q n).1,iv (zbi frs q n).2.1,bv (zbi frs q n).2.2]) []:=by
 unfold zbi
 exact wkc At.scope_Resolve [si hw0] [0,1,2,9] 0 kr (by have ih:=znw frs q n hl hc frs.length (by simp only [zad] at hl;omega) (Nat.le_refl _);exact ih)
def zda (frs:List Fr) (q n:Str) (k:Nat) (f:Fr) (els:Int × Int × Bool):List (Col)→Nat→Int × Int × Bool
 | [],j =>
  els
 | x::r,j =>
  bif ByteArray.toList x.name==ByteArray.toList n then
   (pm1 (k+1),(j:Int),true)
  else
   zda frs q n k f els r (j+1)
def rres (frs:List Fr) (q n:Str):Nat→Int × Int × Bool
 | 0 =>
  (0,0,false)
 | k+1 =>
  bif ByteArray.toList q==(ByteArray.mk #[]).toList then
   bif (frs.getD k za2).strict then
    rres frs q n (k)
   else
    zda frs q n k (frs.getD k za2) (rres frs q n k) (frs.getD k za2).cols 0
  else
   bif !ByteArray.toList (frs.getD k za2).name==ByteArray.toList q then
    rres frs q n (k)
   else
    zda frs q n k (frs.getD k za2) (rres frs q n k) (frs.getD k za2).cols 0
def zbn (frs:List Fr) (q n:Str):Int × Int × Bool :=
 rres frs q n (frs.length)
def zg3 (tb:List Tb) (n:Str):List (Tb)→Nat→Sch × Bool
 | [],i =>
  (Sch.mk (ByteArray.mk #[]) [],false)
 | x::r,i =>
  bif ByteArray.toList x.sch.name==ByteArray.toList n then
   (x.sch,true)
  else
   zg3 tb n r (i+1)
def zas (tb:List Tb) (n:Str):Sch × Bool :=
 zg3 tb n tb (0)
def zaA (frs:List Fr) (s:Sch) (v:List V):(List Fr) :=
 frs++[Fr.mk s.name false s.cols v]
end Go.AM
namespace Go.AM
set_option maxRecDepth 100000
set_option maxHeartbeats 1000000
set_option linter.unusedSimpArgs false
set_option linter.unusedVariables false
def zcJ (e:X):Bool:=match e.sub with
 | []=>zaQ e.kind e.op e.args
 | q::r=>zax e.kind e.op e.args (q::r) q.items q.wh
theorem zaY (e:X):Pure S.scope_Formed [e.av] (bv (zcJ e)):=by
 cases e with
 | mk kind op nt val tn nm xs qs =>
  cases qs with
  | nil=>exact ziK kind op xs nt val tn nm
  | cons q r=>cases q with
   | mk st it fm wh=>exact ziP kind op xs _ it wh nt val tn nm st fm rfl
theorem zmF (frs:List Fr) (q n:Str) (k:Nat) (f:Fr) (els:Int × Int × Bool):∀ (c:List Col) (j:Nat),(zda frs q n k f els c j=els)∨(∃ (i:Nat) (x:Col),zda frs q n k f els c j=(((k:Nat):Int),((j+i:Nat):Int),true)∧c[i]?=some x)
 | [],j=>.inl rfl
 | x::r,j=>by
  rcases zmF frs q n k f els r (j+1) with h|⟨i,y,h,hy⟩
  ·simp only [zda,Bool.cond_eq_ite]
   split
   ·exact .inr ⟨0,x,rfl,rfl⟩
   ·exact .inl h
  ·simp only [zda,Bool.cond_eq_ite]
   split
   ·exact .inr ⟨0,x,rfl,rfl⟩
   ·exact .inr ⟨i+1,y,by rw [h];congr 2;omega,hy⟩
theorem zn0 (frs:List Fr) (q n:Str):∀ (k:Nat),k≤frs.length→(rres frs q n k).2.2=true→∃ (i j:Nat) (f:Fr) (c:Col),rres frs q n k=((i:Int),(j:Int),true)∧frs[i]?=some f∧f.cols[j]?=some c
 | 0,_,h=>by simp [rres] at h
 | k+1,hk,h=>by
  have ih:=zn0 frs q n k (by omega)
  have hx:=znO (l:=frs) (k:=k) za2 (by omega)
  have hi:=zmF frs q n k (frs.getD k za2) (rres frs q n k) (frs.getD k za2).cols 0
  simp only [rres,Bool.cond_eq_ite] at h ⊢
  have key:(zda frs q n k (frs.getD k za2) (rres frs q n k) (frs.getD k za2).cols 0).2.2=true→∃ (i j:Nat) (f:Fr) (c:Col),zda frs q n k (frs.getD k za2) (rres frs q n k) (frs.getD k za2).cols 0=((i:Int),(j:Int),true)∧frs[i]?=some f∧f.cols[j]?=some c:=by
   intro h
   rcases hi with e|⟨i,y,e,hy⟩
   ·rw [e] at h ⊢;exact ih h
   ·exact ⟨k,0+i,_,y,e,hx,by simpa using hy⟩
  revert h
  repeat' split
  all_goals first|exact ih|exact key
end Go.AM
namespace Go.AM
set_option maxRecDepth 100000
set_option maxHeartbeats 1000000
set_option linter.unusedSimpArgs false
set_option linter.unusedVariables false
def cNull:Col:=⟨⟨#[]⟩,0,false,false⟩
def rFr (frs:List Fr) (q n:Str):Fr:=frs.getD (zbn frs q n).1.toNat za2
def rCol (frs:List Fr) (q n:Str):Col:=(rFr frs q n).cols.getD (zbn frs q n).2.1.toNat cNull
theorem zgf {frs:List Fr} {q n:Str} (h:(zbn frs q n).2.2=true):∃ (i j:Nat),zbn frs q n=((i:Int),(j:Int),true)∧frs[i]?=some (rFr frs q n)∧(rFr frs q n).cols[j]?=some (rCol frs q n):=by
 have h':=h
 unfold zbn at h'
 obtain ⟨i,j,f,c,e,hf,hc⟩:=zn0 frs q n frs.length (Nat.le_refl _) h'
 have e':zbn frs q n=((i:Int),(j:Int),true):=e
 have e1:rFr frs q n=f:=by simp [rFr,e',List.getD_eq_getElem?_getD,hf]
 have e2:rCol frs q n=c:=by simp [rCol,e1,e',List.getD_eq_getElem?_getD,hc]
 exact ⟨i,j,e',by rw [e1];exact hf,by rw [e1,e2];exact hc⟩
theorem el_rFr (frs:List Fr) (q n:Str) (h:(zbn frs q n).2.2=true):ElAt (frs.map Fr.cells) (zbn frs q n).1 (rFr frs q n).cells 4:=by
 obtain ⟨i,j,e,h1,h2⟩:=zgf h
 rw [show (zbn frs q n).1=(i:Int) by rw [e]]
 exact zah Fr.cells h1 rfl
theorem zrE (frs:List Fr) (q n:Str) (h:(zbn frs q n).2.2=true):ElAt ((rFr frs q n).cols.map Col.cells) (zbn frs q n).2.1 (rCol frs q n).cells 4:=by
 obtain ⟨i,j,e,h1,h2⟩:=zgf h
 rw [show (zbn frs q n).2.1=(j:Int) by rw [e]]
 exact zah Col.cells h2 rfl
end Go.AM
namespace Go.AM
set_option maxRecDepth 100000
set_option maxHeartbeats 1000000
set_option linter.unusedSimpArgs false
set_option linter.unusedVariables false
structure FsOk (n:Nat) (frs:List Fr):Prop where
 len:frs.length+n≤1000000
 cols:∀ f∈frs,zad f.cols
 vals:∀ f∈frs,∀ v∈f.vals,v.small
structure TbOk (tb:List Tb):Prop where
 len:zad tb
 cols:∀ x∈tb,zad x.sch.cols
 rows:∀ x∈tb,x.rows.length≤1000
 vals:∀ x∈tb,∀ r∈x.rows,∀ v∈r.vals,v.small
theorem FsOk.short {n:Nat} {frs:List Fr} (h:FsOk n frs):zad frs:=by have:=h.len;simp only [zad];omega
theorem FsOk.wrap {n:Nat} {frs:List Fr} (h:FsOk n frs):IntKind.i64.wrap ((((frs.map Fr.cells).length:Nat):Int) - 1)=pm1 frs.length:=zqG _ _ h.short
theorem FsOk.less {n:Nat} {frs:List Fr} (h:FsOk (n+1) frs):FsOk n frs:=⟨by have:=h.len;omega,h.cols,h.vals⟩
end Go.AM
namespace Go.AM
set_option maxRecDepth 100000
set_option maxHeartbeats 1000000
set_option linter.unusedSimpArgs false
set_option linter.unusedVariables false
theorem zaH {α:Type} {l:List α} (h:Few l):zad l:=by simp only [Few] at h;simp only [zad];omega
abbrev rIns (frs:List Fr) (tb:List Tb) (q:Qy):List Fr:=zaA frs (zas tb q.frm).1 []
theorem zfj (tb:List Tb) (n:Str):∀ (l:List Tb) (i:Nat),(∀ x∈l,zad x.sch.cols)→zad (zg3 tb n l i).1.cols
 | [],i,_=>by simp [zg3]
 | x::r,i,h=>by
  simp only [zg3,Bool.cond_eq_ite]
  split
  ·exact h x (by simp)
  ·exact zfj tb n r _ (fun y hy=>h y (by simp [hy]))
theorem FsOk.ins {n:Nat} {frs:List Fr} (h:FsOk (n+1) frs) {tb:List Tb} (ht:TbOk tb) (q:Qy):FsOk n (rIns frs tb q):=by
 refine ⟨by have:=h.len;simp [zaA];omega,fun f hf=>?_,fun f hf=>?_⟩
 ·simp only [zaA,List.mem_append,List.mem_singleton] at hf
  rcases hf with hf|rfl
  ·exact h.cols f hf
  ·exact zfj tb q.frm tb 0 ht.cols
 ·simp only [zaA,List.mem_append,List.mem_singleton] at hf
  rcases hf with hf|rfl
  ·exact h.vals f hf
  ·intro v hv;cases hv
end Go.AM
namespace Go.AM
set_option maxRecDepth 100000
set_option maxHeartbeats 1000000
set_option linter.unusedSimpArgs false
set_option linter.unusedVariables false
theorem ziI {p:Prop} (h:p:=by first|assumption|exact hh.1|exact hw2.1|exact (zed _).1|omega|exact (zgG _ _ _ (by assumption) (zed _) (by omega)).2):p:=h
abbrev uv (n:Int):AV:=.v (.int .u64 n)
theorem zmi {T:TypeId→TI} {h:Heap} {β:List Con} {w:World} {S:Addr→Prop} {x:Value} {l:List AV} {vs:List Value} (hp:PW (RelV T h β w S) (.v x::l) vs):∃ r,vs=x::r∧PW (RelV T h β w S) l r:=by
 cases vs with
 | nil=>have:=hp.1;simp at this
 | cons y r =>
  have h1:=hp.2 0 _ _ rfl rfl
  exact ⟨r,by rw [h1.v_inv],hp.uncons.2⟩
def zcx (a b c:Int):Int × Int:=((a+b+c) % 18446744073709551616,(a+b+c) / 18446744073709551616)
theorem zeR (a b c:Int) (ha:0≤a) (hb:0≤b) (hc:0≤c∧c≤1):zac E0 S.math_bits_Add64 [uv a,uv b,uv c] [] (.tup [uv (zcx a b c).1,uv (zcx a b c).2]) []:=by
 intro β S w vs r hp
 obtain ⟨v1,rfl,hp1⟩:=zmi hp
 obtain ⟨v2,rfl,hp2⟩:=zmi hp1
 obtain ⟨v3,rfl,hp3⟩:=zmi hp2
 have h0:v3=[]:=List.eq_nil_of_length_eq_zero (by have:=hp3.1;simpa using this.symm)
 subst h0
 refine .inr ⟨.tuple [.int .u64 (zcx a b c).1,.int .u64 (zcx a b c).2].toArray,w,?_,?_⟩
 ·have h1:=run_callFunc_extern (e:=add64Entry) At.math_bits_Add64 kr kr kr kr #[.int .u64 a,.int .u64 b,.int .u64 c] w
  rw [run_add64 a b c ha hb hc.1 hc.2] at h1
  exact h1
 ·refine ⟨_,_,β,S,_,rfl,⟨rfl,rfl⟩,r,Ext.refl _ _ _ _,.tup _ _ rfl fun i x y hx hy=>?_⟩
  match i with
  | 0=>cases hx;cases hy;exact zbo _ _
  | 1=>cases hx;cases hy;exact zbo _ _
  | i+2=>cases hx
abbrev U64 (n:Int):Prop:=0≤n∧n < 18446744073709551616
theorem wrapU (n:Int):IntKind.u64.wrap n=n % 18446744073709551616:=by simp [IntKind.wrap,IntKind.bits,IntKind.signed]
theorem zed (n:Int):U64 (IntKind.u64.wrap n):=by rw [wrapU];simp only [U64];omega
theorem zgG (a b c:Int) (ha:U64 a) (hb:U64 b) (hc:0≤c∧c≤1):U64 (zcx a b c).1∧0≤(zcx a b c).2∧(zcx a b c).2≤1:=by
 simp only [U64,zcx] at *;omega
noncomputable def L_sumL (l:List Int) (i:Nat) (high low:Int):Cfg:=zaw B.arith_Sum 0 [(4,uv high),(5,uv low),(11,isl l),(12,iv ((l.map fun n=>[iv n]).length:Nat)),(13,iv (i:Nat))] []
def sumL (l:List Int):List (Int)→Nat→(Int)→(Int)→Int × Bool
 | [],i,high,low =>
  bif high != IntKind.u64.wrap ((IntKind.i64.wrap low).fdiv (2 ^ min (Int.toNat 63) IntKind.i64.bits)) then
   (0,false)
  else
   (IntKind.i64.wrap low,true)
 | x::r,i,high,low =>
  sumL l r (i+1) ((zcx high (IntKind.u64.wrap (x.fdiv (2 ^ min (Int.toNat 63) IntKind.i64.bits))) (zcx low (IntKind.u64.wrap x) 0).snd).fst) ((zcx low (IntKind.u64.wrap x) 0).fst)
theorem zny (l:List Int) (hl:zad l):∀ (kk i:Nat) (high low:Int),i+kk=(l).length→U64 high→U64 low→Good E0 B.arith_Sum [] (L_sumL l i high low) (Shut 0 fun r h=>r=(.tup [iv (sumL l ((l).drop i) i high low).1,bv (sumL l ((l).drop i) i high low).2])∧h=[]):=by
 intro kk
 induction kk with
 | zero =>
  intro i high low hi hh hw2
  have h0:decide (((i:Nat):Int) < (((l.map fun n=>[iv n]).length:Nat):Int))=false:=by simp;omega
  have e0:(l).drop i=[]:=List.drop_of_length_le (by omega)
  rw [e0]
  simp only [sumL]
  refine zaa ?_
  cases h1:high != IntKind.u64.wrap ((IntKind.i64.wrap low).fdiv (2 ^ min (Int.toNat 63) IntKind.i64.bits))
  ·exact wkr [sb h0,si (e:=IntKind.i64.wrap low) rfl,sx (.i ((IntKind.i64.wrap low).fdiv ((2:Int) ^ min (Int.toNat (63:Int)) IntKind.i64.bits))) (show (0:Int)≤(63:Int)∧((IntKind.i64.wrap low).fdiv ((2:Int) ^ min (Int.toNat (63:Int)) IntKind.i64.bits):Int)=(IntKind.i64.wrap low).fdiv ((2:Int) ^ min (Int.toNat (63:Int)) IntKind.i64.bits) from ⟨(by simp_all),rfl⟩),si (e:=IntKind.u64.wrap ((IntKind.i64.wrap low).fdiv (2 ^ min (Int.toNat 63) IntKind.i64.bits))) rfl,sb h1] kr
  ·exact wkr [sb h0,si (e:=IntKind.i64.wrap low) rfl,sx (.i ((IntKind.i64.wrap low).fdiv ((2:Int) ^ min (Int.toNat (63:Int)) IntKind.i64.bits))) (show (0:Int)≤(63:Int)∧((IntKind.i64.wrap low).fdiv ((2:Int) ^ min (Int.toNat (63:Int)) IntKind.i64.bits):Int)=(IntKind.i64.wrap low).fdiv ((2:Int) ^ min (Int.toNat (63:Int)) IntKind.i64.bits) from ⟨(by simp_all),rfl⟩),si (e:=IntKind.u64.wrap ((IntKind.i64.wrap low).fdiv (2 ^ min (Int.toNat 63) IntKind.i64.bits))) rfl,sb h1] kr
 | succ kk ih =>
  intro i high low hi hh hw2
  obtain ⟨x,hx⟩:=zaC (l:=l) (i:=i) (by omega)
  have h0:decide (((i:Nat):Int) < (((l.map fun n=>[iv n]).length:Nat):Int))=true:=by simp;omega
  have hw:=zao i (by first|omega|(simp only [zad,Few] at *;omega))
  rw [za6 hx]
  simp only [sumL]
  refine zaa ?_
  exact wkl [sb h0,se (zah (fun n=>[iv n]) hx rfl),si (e:=IntKind.u64.wrap x) rfl,sc (zeR low (IntKind.u64.wrap x) 0 ziI ziI ziI),sx (.i (x.fdiv ((2:Int) ^ min (Int.toNat (63:Int)) IntKind.i64.bits))) (show (0:Int)≤(63:Int)∧(x.fdiv ((2:Int) ^ min (Int.toNat (63:Int)) IntKind.i64.bits):Int)=x.fdiv ((2:Int) ^ min (Int.toNat (63:Int)) IntKind.i64.bits) from ⟨(by simp_all),rfl⟩),si (e:=IntKind.u64.wrap (x.fdiv (2 ^ min (Int.toNat 63) IntKind.i64.bits))) rfl,sc (zeR high (IntKind.u64.wrap (x.fdiv (2 ^ min (Int.toNat 63) IntKind.i64.bits))) ((zcx low (IntKind.u64.wrap x) 0).snd) ziI ziI ziI),si hw] [4,5,11,12,13] 0 kr (ih (i+1) ((zcx high (IntKind.u64.wrap (x.fdiv (2 ^ min (Int.toNat 63) IntKind.i64.bits))) (zcx low (IntKind.u64.wrap x) 0).snd).fst) ((zcx low (IntKind.u64.wrap x) 0).fst) (by omega) (by first|assumption|exact (zgG _ _ _ (by assumption) (zed _) (by first|omega|exact (zgG _ _ _ (by assumption) (zed _) (by omega)).2)).1) (by first|assumption|exact (zgG _ _ _ (by assumption) (zed _) (by first|omega|exact (zgG _ _ _ (by assumption) (zed _) (by omega)).2)).1))
def aSum (l:List Int):Int × Bool :=
 sumL l l 0 0 (0)
theorem zi2 (l:List Int) (hl:zad l):zac E0 S.arith_Sum [isl l] [] (.tup [iv (aSum l).1,bv (aSum l).2]) []:=by
 unfold aSum
 exact wkc At.arith_Sum [] [4,5,11,12,13] 0 kr (by have ih:=zny l hl l.length 0 0 0 (by simp) (by simp only [U64];omega) (by simp only [U64];omega);exact ih)
noncomputable def zfe (its:List V) (i:Nat) (l:List Int):Cfg:=zaw B.evaluate_sum 0 [(2,.p 0 0),(4,.own 1 l.length),(9,vsl its),(10,iv ((its.map V.cells).length:Nat)),(11,iv (i:Nat))] [.box [iv 0,iv 0,sv ⟨#[]⟩],.row Ty.int64 (l.map fun n=>[iv n]) false]
def zeW (its:List V):List (V)→Nat→(List Int)→V × Int
 | [],i,l =>
  bif !(aSum l).snd then
   (V.mk 0 0 (ByteArray.mk #[]),6)
  else
   (V.mk 1 (aSum l).fst (ByteArray.mk #[]),0)
 | x::r,i,l =>
  zeW its r (i+1) (l++[x.int])
theorem zmV (its:List V) (hl:zad its):∀ (kk i:Nat) (l:List Int),i+kk=(its).length→l.length≤i→Good E0 B.evaluate_sum [] (zfe its i l) (Shut 0 fun r h=>r=(.tup [(zeW its ((its).drop i) i l).1.av,iv (zeW its ((its).drop i) i l).2])∧h=[]):=by
 intro kk
 induction kk with
 | zero =>
  intro i l hi ho
  have h0:decide (((i:Nat):Int) < (((its.map V.cells).length:Nat):Int))=false:=by simp;omega
  have e0:(its).drop i=[]:=List.drop_of_length_le (by omega)
  rw [e0]
  simp only [zeW]
  refine zaa ?_
  cases h1:!(aSum l).snd
  ·exact wkr [sb h0,skx (l.length=(List.map (fun n=>[iv n]) l).length∧True) [] (zi2 l (by first|assumption|(simp only [zad] at *;omega))),sb h1,sc (zaX ((aSum l).fst))] kr
  ·exact wkr [sb h0,skx (l.length=(List.map (fun n=>[iv n]) l).length∧True) [] (zi2 l (by first|assumption|(simp only [zad] at *;omega))),sb h1] kr
 | succ kk ih =>
  intro i l hi ho
  obtain ⟨x,hx⟩:=zaC (l:=its) (i:=i) (by omega)
  have h0:decide (((i:Nat):Int) < (((its.map V.cells).length:Nat):Int))=true:=by simp;omega
  have hw:=zao i (by first|omega|(simp only [zad,Few] at *;omega))
  rw [za6 hx]
  simp only [zeW]
  refine zaa ?_
  exact wkl (c':=(Cfg.mk (zfe its (i+1) (l++[x.int])).n (zfe its (i+1) (l++[x.int])).todo [(2,AV.p 0 0),(4,AV.own 1 (List.map (fun n=>[iv n]) l++[[iv x.int]]).length),(9,AV.sl (List.map V.cells its)),(10,iv (↑(List.map V.cells its).length:Int)),(11,iv (↑(i+1):Int))] [Blk.box [iv 0,iv 0,sv (ByteArray.mk #[])],Blk.row Ty.int64 (List.map (fun n=>[iv n]) l++[[iv x.int]]) false])) [sb h0,se (zah V.cells hx rfl),sqx (AllLen [[iv x.int]] 1∧l.length=(List.map (fun n=>[iv n]) l).length∧(((List.map (fun n=>[iv n]) l).length+[[iv x.int]].length) * 8).le 140737488355328),si hw] [2,4,9,10,11] 2 kr (zav (show ([(2,AV.p 0 0),(4,AV.own 1 (List.map (fun n=>[iv n]) l++[[iv x.int]]).length),(9,AV.sl (List.map V.cells its)),(10,iv (↑(List.map V.cells its).length:Int)),(11,iv (↑(i+1):Int))]:TS)=[(2,AV.p 0 0),(4,AV.own 1 (l++[x.int]).length),(9,AV.sl (List.map V.cells its)),(10,iv (↑(List.map V.cells its).length:Int)),(11,iv (↑(i+1):Int))] by first|rfl|(simp;done)|(simp [X.cells,Qy.cells,V.cells,Col.cells,Rw.cells,Tb.cells,Fr.cells,Sch.cells,Tp.cells,Pl.cells,xCol,xLit,xBin,xNeg];done)) (show ([Blk.box [iv 0,iv 0,sv (ByteArray.mk #[])],Blk.row Ty.int64 (List.map (fun n=>[iv n]) l++[[iv x.int]]) false]:Heap)=[Blk.box [iv 0,iv 0,sv (ByteArray.mk #[])],Blk.row Ty.int64 (List.map (fun n=>[iv n]) (l++[x.int])) false] by first|rfl|(simp;done)|(simp [X.cells,Qy.cells,V.cells,Col.cells,Rw.cells,Tb.cells,Fr.cells,Sch.cells,Tp.cells,Pl.cells,xCol,xLit,xBin,xNeg];done)) (ih (i+1) (l++[x.int]) (by omega) (by first|assumption|(simp;done)|(simp;omega)|omega|(simp at *;omega))))
def eSum (its:List V):V × Int :=
 zeW its its 0 ([])
theorem zkE (its:List V) (hl:zad its):zac E0 S.evaluate_sum [vsl its] [] (.tup [(eSum its).1.av,iv (eSum its).2]) []:=by
 unfold eSum
 exact wkc At.evaluate_sum (c':=(Cfg.mk (zfe its 0 []).n (zfe its 0 []).todo [(2,AV.p 0 0),(4,AV.nl),(9,AV.sl (List.map V.cells its)),(10,iv (↑(List.map V.cells its).length:Int)),(11,iv 0)] [Blk.box [iv 0,iv 0,sv (ByteArray.mk #[])]])) [] [2,4,9,10,11] 1 kr (zes (c':=zfe its 0 []) 4 Ty.int64 [2,4,9,10,11] 2 kr kr kr (by have ih:=zmV its hl its.length 0 ([]) (by simp) (by simp);exact ih))
end Go.AM
namespace Go.AM
set_option maxRecDepth 100000
set_option maxHeartbeats 1000000
set_option linter.unusedSimpArgs false
set_option linter.unusedVariables false
noncomputable def L_minL (l:List V) (i:Nat) (m:V):Cfg:=zaw B.slices_MinFunc_Value 0 [(0,vsl l),(1,.fn S.value_Compare []),(4,.p 0 0),(5,.p 1 0),(6,iv (i:Nat))] [.box [iv 0,iv 0,sv ⟨#[]⟩],.box m.cells]
def minL (l:List V):List (V)→Nat→(V)→V
 | [],i,m =>
  m
 | x::r,i,m =>
  bif decide (cmpV x m < 0) then
   minL l r (i+1) (x)
  else
   minL l r (i+1) (m)
theorem zm3 (l:List V) (hl:zad l):∀ (kk i:Nat) (m:V),i+kk=(l).length→Good E0 B.slices_MinFunc_Value [] (L_minL l i m) (Shut 0 fun r h=>r=((minL l ((l).drop i) i m).av)∧h=[]):=by
 intro kk
 induction kk with
 | zero =>
  intro i m hi
  have h0:decide (((i:Nat):Int) < (((l.map V.cells).length:Nat):Int))=false:=by simp;omega
  have e0:(l).drop i=[]:=List.drop_of_length_le (by omega)
  rw [e0]
  simp only [minL]
  refine zaa ?_
  exact wkr [sb h0] kr
 | succ kk ih =>
  intro i m hi
  obtain ⟨x,hx⟩:=zaC (l:=l) (i:=i) (by omega)
  have h0:decide (((i:Nat):Int) < (((l.map V.cells).length:Nat):Int))=true:=by simp;omega
  have hw:=zao i (by first|omega|(simp only [zad,Few] at *;omega))
  rw [za6 hx]
  simp only [minL]
  refine zaa ?_
  cases h1:decide (cmpV x m < 0)
  ·exact wkl [sb h0,sd [(3,[se (zah V.cells hx rfl)]),(6,[sc (zcj x m)])],sb h1,si hw] [0,1,4,5,6] 2 kr (ih (i+1) m (by omega) )
  ·exact wkl [sb h0,sd [(3,[se (zah V.cells hx rfl)]),(6,[sc (zcj x m)])],sb h1,se (zah V.cells hx rfl),si hw] [0,1,4,5,6] 2 kr (ih (i+1) x (by omega) )
def minV (l:List V):V :=
 minL l (l.drop 1) 1 (l.headD V.null)
theorem zgl (l:List V) (hl:zad l) (hy:l[0]?=some (l.headD V.null)) (hn:decide (((((l.map V.cells).length:Nat):Int)) < 1)=false):zac E0 S.slices_MinFunc_Value [vsl l,.fn S.value_Compare []] [] ((minV l).av) []:=by
 unfold minV
 exact wkc At.slices_MinFunc_Value [sb hn,se (zah V.cells hy rfl)] [0,1,4,5,6] 2 kr (by have hlt:=zeu hy;have ih:=zm3 l hl (l.length - 1) 1 (l.headD V.null) (by omega);exact ih)
noncomputable def L_maxL (l:List V) (i:Nat) (m:V):Cfg:=zaw B.slices_MaxFunc_Value 0 [(0,vsl l),(1,.fn S.value_Compare []),(4,.p 0 0),(5,.p 1 0),(6,iv (i:Nat))] [.box [iv 0,iv 0,sv ⟨#[]⟩],.box m.cells]
def maxL (l:List V):List (V)→Nat→(V)→V
 | [],i,m =>
  m
 | x::r,i,m =>
  bif decide (0 < cmpV x m) then
   maxL l r (i+1) (x)
  else
   maxL l r (i+1) (m)
theorem znj (l:List V) (hl:zad l):∀ (kk i:Nat) (m:V),i+kk=(l).length→Good E0 B.slices_MaxFunc_Value [] (L_maxL l i m) (Shut 0 fun r h=>r=((maxL l ((l).drop i) i m).av)∧h=[]):=by
 intro kk
 induction kk with
 | zero =>
  intro i m hi
  have h0:decide (((i:Nat):Int) < (((l.map V.cells).length:Nat):Int))=false:=by simp;omega
  have e0:(l).drop i=[]:=List.drop_of_length_le (by omega)
  rw [e0]
  simp only [maxL]
  refine zaa ?_
  exact wkr [sb h0] kr
 | succ kk ih =>
  intro i m hi
  obtain ⟨x,hx⟩:=zaC (l:=l) (i:=i) (by omega)
  have h0:decide (((i:Nat):Int) < (((l.map V.cells).length:Nat):Int))=true:=by simp;omega
  have hw:=zao i (by first|omega|(simp only [zad,Few] at *;omega))
  rw [za6 hx]
  simp only [maxL]
  refine zaa ?_
  cases h1:decide (0 < cmpV x m)
  ·exact wkl [sb h0,sd [(3,[se (zah V.cells hx rfl)]),(6,[sc (zcj x m)])],sb h1,si hw] [0,1,4,5,6] 2 kr (ih (i+1) m (by omega) )
  ·exact wkl [sb h0,sd [(3,[se (zah V.cells hx rfl)]),(6,[sc (zcj x m)])],sb h1,se (zah V.cells hx rfl),si hw] [0,1,4,5,6] 2 kr (ih (i+1) x (by omega) )
def maxV (l:List V):V :=
 maxL l (l.drop 1) 1 (l.headD V.null)
theorem zgc (l:List V) (hl:zad l) (hy:l[0]?=some (l.headD V.null)) (hn:decide (((((l.map V.cells).length:Nat):Int)) < 1)=false):zac E0 S.slices_MaxFunc_Value [vsl l,.fn S.value_Compare []] [] ((maxV l).av) []:=by
 unfold maxV
 exact wkc At.slices_MaxFunc_Value [sb hn,se (zah V.cells hy rfl)] [0,1,4,5,6] 2 kr (by have hlt:=zeu hy;have ih:=znj l hl (l.length - 1) 1 (l.headD V.null) (by omega);exact ih)
def zb8 (f:X→V × Int) (x:X):Bool × Int :=
 bif (f x).snd==0 then
  bif !zbU (f x).fst then
   (false,5)
  else
   (zpN (f x).fst,(f x).snd)
 else
  (false,(f x).snd)
theorem zhF (f:X→V × Int) (x:X) (r:List X) (frs:List Fr) (tb:List Tb) (hf:Pure S.evaluate_Value [x.av,fsl frs,tsl tb] (.tup [(f x).1.av,iv (f x).2])) (hs:(f x).1.small):zac E0 S.evaluate_True [xsl (x::r),fsl frs,tsl tb] [] (.tup [bv (zb8 f x).1,iv (zb8 f x).2]) []:=by
 unfold zb8
 cases h1:(f x).snd==0
 ·exact wk At.evaluate_True [sb (rfl:false=false),se (za9 (l:=x::r) (i:=0) (x:=x) rfl),sc hf,sb h1,sb h1] kr
 ·cases h2:!zbU (f x).fst
  ·exact wk At.evaluate_True [sb (rfl:false=false),se (za9 (l:=x::r) (i:=0) (x:=x) rfl),sc hf,sg h1,sc (zaZ ((f x).fst) (by first|assumption|omega|(simp;done)|(simp;omega))),sb h2,sg h1,sc (zku ((f x).fst))] kr
  ·exact wk At.evaluate_True [sb (rfl:false=false),se (za9 (l:=x::r) (i:=0) (x:=x) rfl),sc hf,sg h1,sc (zaZ ((f x).fst) (by first|assumption|omega|(simp;done)|(simp;omega))),sb h2,sb (rfl:false=false)] kr
def zl0 :Bool × Int :=
 (true,0)
theorem zhW  (frs:List Fr) (tb:List Tb):zac E0 S.evaluate_True [xsl [],fsl frs,tsl tb] [] (.tup [bv zl0.1,iv zl0.2]) []:=by
 exact wk At.evaluate_True [sb (rfl:true=true)] kr
noncomputable def clC (frs:List Fr):Cfg:=(upto (mk E0) (List.range 40) 0 3000 ⟨B.slices_Clone_Frame.ntmps,[.code (B.slices_Clone_Frame.body.getD .skip)],zbF 0 [fsl frs],[]⟩ []).2
theorem zq9 (frs:List Fr) (hl:zad frs):Good E0 B.slices_Clone_Frame [] (zc6 (clC frs) false) (fun r h=>r=.own 0 frs.length∧h=[.row Ty.Frame (frs.map Fr.cells) false]):=by
 exact zgq E0ok mix0 3000 (y:=AV.own (0:Nat) (List.map Fr.cells frs).length) (H:=[Blk.row Ty.Frame (List.map Fr.cells frs) false]) [sb (rfl:false=false),sq (show AllLen (List.map Fr.cells frs) (4:Nat)∧((List.map Fr.cells frs).length * (72:Nat)).le (140737488355328:Nat) by first|assumption|(simp;done)|(simp;omega)|omega|rfl|(refine ⟨⟨by simp⟩,?_⟩;first|(simp;done)|(simp;omega)|omega)|(refine ⟨⟨by simp⟩,?_,?_⟩ <;> first|(simp;done)|(simp;omega)|omega))] kr (⟨by first|rfl|(simp;done),rfl⟩)
theorem zrw:Good E0 B.slices_Clone_Frame [] (zc6 (clC []) true) (fun r h=>r=.nl∧h=[]):=by
 exact zgq E0ok mix0 3000 (y:=AV.nl) (H:=[]) [sb (rfl:true=true)] kr (⟨rfl,rfl⟩)
end Go.AM
namespace Go.AM
set_option maxRecDepth 100000
set_option maxHeartbeats 1000000
set_option linter.unusedSimpArgs false
set_option linter.unusedVariables false
theorem zcB (frs:List Fr) (hl:zad frs):zac E0 S.slices_Clone_Frame [fsl frs] [] (.own 0 frs.length) [.row Ty.Frame (frs.map Fr.cells) false]:=by
 refine zbm At.slices_Clone_Frame rfl kr (Nat.le_of_ble_eq_true kr) (zdk E0ok mix0 3000 [] (List.range 40) 0 (c':=clC frs) kr kr (zje E0ok (xs:=frs.map Fr.cells) (e:=true) kr fun b hb=>?_))
 cases b with
 | false=>exact zq9 frs hl
 | true =>
  cases frs with
  | nil=>exact zga Ty.Frame zrw ⟨rfl,rfl⟩
  | cons x r=>exact absurd (hb (by simp)) (by simp)
def zat (frs:List Fr) (t:Tb) (v:List V):(List Fr) :=
 frs++[Fr.mk t.sch.name false t.sch.cols v]
theorem zaR (frs:List Fr) (t:Tb) (v:List V) (hl:zad frs):zac E0 S.evaluate_inside [fsl frs,t.av,vsl v] [] (fsl (zat frs t v)) []:=by
 unfold zat
 exact (by (try simp only [X.av,Qy.av,V.av,Tb.av,Sch.av,Pl.av,xsl,fsl,vsl,tsl,List.map_append,List.map_cons,List.map_nil,V.cells,Col.cells,Rw.cells,Tb.cells,Fr.cells,Sch.cells,Pl.cells,zaU,zaJ,zaO,zaM,zaP,X.cells,Qy.cells,X.args_mk,X.sub_mk,Qy.items_mk,Qy.wh_mk,xCol,xLit,xBin,xNeg]);exact wk At.evaluate_inside [sqx ((List.map Fr.cells frs++[[sv t.sch.name,bv false,AV.sl (List.map Col.cells t.sch.cols),AV.sl (List.map V.cells v)]]).length=(List.map Fr.cells frs++[[sv t.sch.name,bv false,AV.sl (List.map Col.cells t.sch.cols),AV.sl (List.map V.cells v)]]).length),sd [(1,[sc (zcB frs (by first|assumption|omega|(simp;done)|(simp;omega)))]),(11,[sqx (AllLen [[sv t.sch.name,bv false,AV.sl (List.map Col.cells t.sch.cols),AV.sl (List.map V.cells v)]] 4∧frs.length=(List.map Fr.cells frs).length∧(((List.map Fr.cells frs).length+[[sv t.sch.name,bv false,AV.sl (List.map Col.cells t.sch.cols),AV.sl (List.map V.cells v)]].length) * 72).le 140737488355328)])]] kr)
end Go.AM
namespace Go.AM
set_option maxRecDepth 100000
set_option maxHeartbeats 1000000
set_option linter.unusedSimpArgs false
set_option linter.unusedVariables false
theorem zow {p:Prop} (h:p:=by first|assumption|(simp;done)|(simp;omega)|omega|(simp at *;omega)):p:=h
abbrev AH (q:Qy) (tb:List Tb) (e:X) (n:Nat) (its:List V):Heap:=[.box [iv (n:Nat)],.box q.cells,.box [tsl tb],.box e.cells,.box [.own 5 its.length],.row Ty.Value (its.map V.cells) false]
noncomputable def zh7 (f:X→V × Int) (q:Qy) (w:List Fr) (tb:List Tb) (e:X) (n:Nat) (its0:List V) (i:Nat) (its:List V):Cfg:=zaw B.evaluate_aggregate_c1 0 [(1,fsl w),(4,.p 2 0),(5,.p 3 0),(6,.p 4 0),(17,xsl q.items),(18,iv ((zab q.items).length:Nat)),(19,iv (i:Nat))] (AH q tb e (n+1) its)
def aggI (f:X→V × Int) (q:Qy) (w:List Fr) (tb:List Tb) (e:X) (n:Nat) (its0:List V):List (X)→Nat→(List V)→Int × (List V)
 | [],i,its =>
  (0,its)
 | x::r,i,its =>
  bif (f x).snd != 0 then
   ((f x).snd,its)
  else
   bif (f x).fst.kind==0 then
    aggI f q w tb e n its0 r (i+1) (its)
   else
    bif e.kind==10 then
     bif (f x).fst.kind != 1 then
      (5,its)
     else
      aggI f q w tb e n its0 r (i+1) (its++[(f x).fst])
    else
     aggI f q w tb e n its0 r (i+1) (its++[(f x).fst])
theorem znz (f:X→V × Int) (q:Qy) (w:List Fr) (tb:List Tb) (e:X) (n:Nat) (its0:List V) (hl:q.items.length≤1000) (hi0:its0.length≤2000000) (hf:∀ x∈q.items,Pure S.evaluate_Value [x.av,fsl w,tsl tb] (.tup [(f x).1.av,iv (f x).2])):∀ (kk i:Nat) (its:List V),i+kk=(q.items).length→its.length≤its0.length+i→Good E0 B.evaluate_aggregate_c1 (AH q tb e n its0) (zh7 f q w tb e n its0 i its) (Shut 6 fun r h=>r=(iv (aggI f q w tb e n its0 ((q.items).drop i) i its).1)∧h=(AH q tb e (n+1) (aggI f q w tb e n its0 ((q.items).drop i) i its).2)):=by
 intro kk
 induction kk with
 | zero =>
  intro i its hi ho
  have h0:decide (((i:Nat):Int) < (((zab q.items).length:Nat):Int))=false:=by simp;omega
  have e0:(q.items).drop i=[]:=List.drop_of_length_le (by omega)
  rw [e0]
  simp only [aggI]
  refine zaa ?_
  exact wkr [sb h0] kr
 | succ kk ih =>
  intro i its hi ho
  obtain ⟨x,hx⟩:=zaC (l:=q.items) (i:=i) (by omega)
  have h0:decide (((i:Nat):Int) < (((zab q.items).length:Nat):Int))=true:=by simp;omega
  have hw:=zao i (by first|omega|(simp only [zad,Few] at *;omega))
  have hfx:=hf x (List.mem_of_getElem? hx)
  rw [za6 hx]
  simp only [aggI]
  refine zaa ?_
  cases h1:(f x).snd != 0
  ·cases h2:(f x).fst.kind==0
   ·cases h3:e.kind==10
    ·exact wkl (c':=(Cfg.mk (zh7 f q w tb e n its0 (i+1) (its++[(f x).fst])).n (zh7 f q w tb e n its0 (i+1) (its++[(f x).fst])).todo [(1,AV.sl (List.map Fr.cells w)),(4,AV.p 2 0),(5,AV.p 3 0),(6,AV.p 4 0),(17,AV.sl (zab q.items)),(18,iv (↑(zab q.items).length:Int)),(19,iv (↑(i+1):Int))] [Blk.box [iv (↑(n+1):Int)],Blk.box [bv q.star,AV.sl (zab q.items),sv q.frm,AV.sl (zab q.wh)],Blk.box [AV.sl (List.map Tb.cells tb)],Blk.box [iv e.kind,iv e.op,bv e.not,iv e.val.kind,iv e.val.int,sv e.val.text,sv e.table,sv e.name,AV.sl (zab e.args),AV.sl (zaf e.sub)],Blk.box [AV.own 5 (List.map V.cells its++[[iv (f x).fst.kind,iv (f x).fst.int,sv (f x).fst.text]]).length],Blk.row Ty.Value (List.map V.cells its++[[iv (f x).fst.kind,iv (f x).fst.int,sv (f x).fst.text]]) false])) [sb h0,se (za9 hx),sc hfx,sb h1,sc (zae ((f x).fst)),sb h2,sb h3,sqx (AllLen [[iv (f x).fst.kind,iv (f x).fst.int,sv (f x).fst.text]] 3∧its.length=(List.map V.cells its).length∧(((List.map V.cells its).length+[[iv (f x).fst.kind,iv (f x).fst.int,sv (f x).fst.text]].length) * 32).le 140737488355328),si hw] [1,4,5,6,17,18,19] 6 kr (zav (show ([(1,AV.sl (List.map Fr.cells w)),(4,AV.p 2 0),(5,AV.p 3 0),(6,AV.p 4 0),(17,AV.sl (zab q.items)),(18,iv (↑(zab q.items).length:Int)),(19,iv (↑(i+1):Int))]:TS)=[(1,AV.sl (List.map Fr.cells w)),(4,AV.p 2 0),(5,AV.p 3 0),(6,AV.p 4 0),(17,AV.sl (zab q.items)),(18,iv (↑(zab q.items).length:Int)),(19,iv (↑(i+1):Int))] by first|rfl|(simp;done)|(simp [X.cells,Qy.cells,V.cells,Col.cells,Rw.cells,Tb.cells,Fr.cells,Sch.cells,Tp.cells,Pl.cells,xCol,xLit,xBin,xNeg];done)) (show ([Blk.box [iv (↑(n+1):Int)],Blk.box [bv q.star,AV.sl (zab q.items),sv q.frm,AV.sl (zab q.wh)],Blk.box [AV.sl (List.map Tb.cells tb)],Blk.box [iv e.kind,iv e.op,bv e.not,iv e.val.kind,iv e.val.int,sv e.val.text,sv e.table,sv e.name,AV.sl (zab e.args),AV.sl (zaf e.sub)],Blk.box [AV.own 5 (List.map V.cells its++[[iv (f x).fst.kind,iv (f x).fst.int,sv (f x).fst.text]]).length],Blk.row Ty.Value (List.map V.cells its++[[iv (f x).fst.kind,iv (f x).fst.int,sv (f x).fst.text]]) false]:Heap)=[Blk.box [iv (↑(n+1):Int)],Blk.box [bv q.star,AV.sl (zab q.items),sv q.frm,AV.sl (zab q.wh)],Blk.box [AV.sl (List.map Tb.cells tb)],Blk.box [iv e.kind,iv e.op,bv e.not,iv e.val.kind,iv e.val.int,sv e.val.text,sv e.table,sv e.name,AV.sl (zab e.args),AV.sl (zaf e.sub)],Blk.box [AV.own 5 (its++[(f x).fst]).length],Blk.row Ty.Value (List.map V.cells (its++[(f x).fst])) false] by first|rfl|(simp;done)|(simp [X.cells,Qy.cells,V.cells,Col.cells,Rw.cells,Tb.cells,Fr.cells,Sch.cells,Tp.cells,Pl.cells,xCol,xLit,xBin,xNeg];done)) (ih (i+1) (its++[(f x).fst]) (by omega) zow))
    ·cases h4:(f x).fst.kind != 1
     ·exact wkl (c':=(Cfg.mk (zh7 f q w tb e n its0 (i+1) (its++[(f x).fst])).n (zh7 f q w tb e n its0 (i+1) (its++[(f x).fst])).todo [(1,AV.sl (List.map Fr.cells w)),(4,AV.p 2 0),(5,AV.p 3 0),(6,AV.p 4 0),(17,AV.sl (zab q.items)),(18,iv (↑(zab q.items).length:Int)),(19,iv (↑(i+1):Int))] [Blk.box [iv (↑(n+1):Int)],Blk.box [bv q.star,AV.sl (zab q.items),sv q.frm,AV.sl (zab q.wh)],Blk.box [AV.sl (List.map Tb.cells tb)],Blk.box [iv e.kind,iv e.op,bv e.not,iv e.val.kind,iv e.val.int,sv e.val.text,sv e.table,sv e.name,AV.sl (zab e.args),AV.sl (zaf e.sub)],Blk.box [AV.own 5 (List.map V.cells its++[[iv (f x).fst.kind,iv (f x).fst.int,sv (f x).fst.text]]).length],Blk.row Ty.Value (List.map V.cells its++[[iv (f x).fst.kind,iv (f x).fst.int,sv (f x).fst.text]]) false])) [sb h0,se (za9 hx),sc hfx,sb h1,sc (zae ((f x).fst)),sb h2,sg h3,sb h4,sqx (AllLen [[iv (f x).fst.kind,iv (f x).fst.int,sv (f x).fst.text]] 3∧its.length=(List.map V.cells its).length∧(((List.map V.cells its).length+[[iv (f x).fst.kind,iv (f x).fst.int,sv (f x).fst.text]].length) * 32).le 140737488355328),si hw] [1,4,5,6,17,18,19] 6 kr (zav (show ([(1,AV.sl (List.map Fr.cells w)),(4,AV.p 2 0),(5,AV.p 3 0),(6,AV.p 4 0),(17,AV.sl (zab q.items)),(18,iv (↑(zab q.items).length:Int)),(19,iv (↑(i+1):Int))]:TS)=[(1,AV.sl (List.map Fr.cells w)),(4,AV.p 2 0),(5,AV.p 3 0),(6,AV.p 4 0),(17,AV.sl (zab q.items)),(18,iv (↑(zab q.items).length:Int)),(19,iv (↑(i+1):Int))] by first|rfl|(simp;done)|(simp [X.cells,Qy.cells,V.cells,Col.cells,Rw.cells,Tb.cells,Fr.cells,Sch.cells,Tp.cells,Pl.cells,xCol,xLit,xBin,xNeg];done)) (show ([Blk.box [iv (↑(n+1):Int)],Blk.box [bv q.star,AV.sl (zab q.items),sv q.frm,AV.sl (zab q.wh)],Blk.box [AV.sl (List.map Tb.cells tb)],Blk.box [iv e.kind,iv e.op,bv e.not,iv e.val.kind,iv e.val.int,sv e.val.text,sv e.table,sv e.name,AV.sl (zab e.args),AV.sl (zaf e.sub)],Blk.box [AV.own 5 (List.map V.cells its++[[iv (f x).fst.kind,iv (f x).fst.int,sv (f x).fst.text]]).length],Blk.row Ty.Value (List.map V.cells its++[[iv (f x).fst.kind,iv (f x).fst.int,sv (f x).fst.text]]) false]:Heap)=[Blk.box [iv (↑(n+1):Int)],Blk.box [bv q.star,AV.sl (zab q.items),sv q.frm,AV.sl (zab q.wh)],Blk.box [AV.sl (List.map Tb.cells tb)],Blk.box [iv e.kind,iv e.op,bv e.not,iv e.val.kind,iv e.val.int,sv e.val.text,sv e.table,sv e.name,AV.sl (zab e.args),AV.sl (zaf e.sub)],Blk.box [AV.own 5 (its++[(f x).fst]).length],Blk.row Ty.Value (List.map V.cells (its++[(f x).fst])) false] by first|rfl|(simp;done)|(simp [X.cells,Qy.cells,V.cells,Col.cells,Rw.cells,Tb.cells,Fr.cells,Sch.cells,Tp.cells,Pl.cells,xCol,xLit,xBin,xNeg];done)) (ih (i+1) (its++[(f x).fst]) (by omega) zow))
     ·exact wkr [sb h0,se (za9 hx),sc hfx,sb h1,sc (zae ((f x).fst)),sb h2,sg h3,sb h4] kr
   ·exact wkl [sb h0,se (za9 hx),sc hfx,sb h1,sc (zae ((f x).fst)),sb h2,si hw] [1,4,5,6,17,18,19] 6 kr (ih (i+1) its (by omega) zow)
  ·exact wkr [sb h0,se (za9 hx),sc hfx,sb h1] kr
def aggC (f:X→V × Int) (q:Qy) (w:List Fr) (tb:List Tb) (e:X) (n:Nat) (its:List V):Int × (List V) :=
 aggI f q w tb e n its q.items 0 (its)
theorem zfN (f:X→V × Int) (q:Qy) (w:List Fr) (tb:List Tb) (e:X) (n:Nat) (its:List V) (rw:Rw) (hl:q.items.length≤1000) (hi0:its.length≤2000000) (hwn:IntKind.i64.wrap (((n:Nat):Int)+1)=((n+1:Nat):Int)) (hf:∀ x∈q.items,Pure S.evaluate_Value [x.av,fsl w,tsl tb] (.tup [(f x).1.av,iv (f x).2])):zac E0 S.evaluate_aggregate_c1 [.agg (Rw.cells rw),fsl w,.p 0 0,.p 1 0,.p 2 0,.p 3 0,.p 4 0] (AH q tb e n its) (iv (aggC f q w tb e n its).1) (AH q tb e (n+1) (aggC f q w tb e n its).2):=by
 unfold aggC
 exact wkc At.evaluate_aggregate_c1 [si hwn] [1,4,5,6,17,18,19] 6 kr (by have ih:=znz f q w tb e n its hl hi0 hf q.items.length 0 its (by simp) (by simp);exact ih)
end Go.AM
namespace Go.AM
set_option maxRecDepth 100000
set_option maxHeartbeats 1000000
set_option linter.unusedSimpArgs false
set_option linter.unusedVariables false
theorem zgn {p:Prop} (h:p:=by first|assumption|omega|(simp;done)|(simp;omega)):p:=h
theorem zgI {p:Prop} (h:p:=by first|omega|(have:=hgl x its;omega)):p:=h
noncomputable def L_selA (tr:Rw→Bool × Int) (g:Rw→List V→Int × List V) (q:Qy) (frs:List Fr) (tb:List Tb) (e:X) (t:Tb) (n0:Nat) (its0:List V) (i:Nat) (n:Nat) (its:List V):Cfg:=zaw B.evaluate_selected 0 [(1,fsl frs),(2,tsl tb),(3,.fn S.evaluate_aggregate_c1 [.p 0 0,.p 1 0,.p 2 0,.p 3 0,.p 4 0]),(4,.p 6 0),(9,.p 7 0),(26,.sl (t.rows.map Rw.cells)),(27,iv ((t.rows.map Rw.cells).length:Nat)),(28,iv (i:Nat))] (AH q tb e n its++[.box q.cells,.box t.cells])
def selA (tr:Rw→Bool × Int) (g:Rw→List V→Int × List V) (q:Qy) (frs:List Fr) (tb:List Tb) (e:X) (t:Tb) (n0:Nat) (its0:List V):List (Rw)→Nat→(Nat)→(List V)→Int × Nat × (List V)
 | [],i,n,its =>
  (0,n,its)
 | x::r,i,n,its =>
  bif (tr x).snd==0 then
   bif (tr x).fst then
    bif (g x its).fst != 0 then
     ((g x its).fst,n+1,(g x its).snd)
    else
     selA tr g q frs tb e t n0 its0 r (i+1) (n+1) ((g x its).snd)
   else
    bif (tr x).snd != 0 then
     ((tr x).snd,n,its)
    else
     selA tr g q frs tb e t n0 its0 r (i+1) n (its)
  else
   bif (tr x).snd != 0 then
    ((tr x).snd,n,its)
   else
    selA tr g q frs tb e t n0 its0 r (i+1) n (its)
theorem znq (tr:Rw→Bool × Int) (g:Rw→List V→Int × List V) (q:Qy) (frs:List Fr) (tb:List Tb) (e:X) (t:Tb) (n0:Nat) (its0:List V) (hfr:zad frs) (hrows:t.rows.length≤1000) (hn0:n0≤1000) (hi0:its0.length≤1000) (hgl:∀ (r:Rw) (its:List V),(g r its).2.length≤its.length+1000) (hT:∀ r∈t.rows,Pure S.evaluate_True [xsl q.wh,fsl (zat frs t r.vals),tsl tb] (.tup [bv (tr r).1,iv (tr r).2])) (hC:∀ r∈t.rows,∀ (n:Nat) (its:List V),n≤1000000→its.length≤2000000→zac E0 S.evaluate_aggregate_c1 [.agg (Rw.cells r),fsl (zat frs t r.vals),.p 0 0,.p 1 0,.p 2 0,.p 3 0,.p 4 0] (AH q tb e n its) (iv (g r its).1) (AH q tb e (n+1) (g r its).2)):∀ (kk i:Nat) (n:Nat) (its:List V),i+kk=(t.rows).length→n≤n0+i→its.length≤its0.length+1000 * i→Good E0 B.evaluate_selected (AH q tb e n0 its0) (L_selA tr g q frs tb e t n0 its0 i n its) (Shut 6 fun r h=>r=(iv (selA tr g q frs tb e t n0 its0 ((t.rows).drop i) i n its).1)∧h=(AH q tb e (selA tr g q frs tb e t n0 its0 ((t.rows).drop i) i n its).2.1 (selA tr g q frs tb e t n0 its0 ((t.rows).drop i) i n its).2.2)):=by
 intro kk
 induction kk with
 | zero =>
  intro i n its hi hn hi2
  have h0:decide (((i:Nat):Int) < (((t.rows.map Rw.cells).length:Nat):Int))=false:=by simp;omega
  have e0:(t.rows).drop i=[]:=List.drop_of_length_le (by omega)
  rw [e0]
  simp only [selA]
  refine zaa ?_
  exact wkr [sb h0] kr
 | succ kk ih =>
  intro i n its hi hn hi2
  obtain ⟨x,hx⟩:=zaC (l:=t.rows) (i:=i) (by omega)
  have h0:decide (((i:Nat):Int) < (((t.rows.map Rw.cells).length:Nat):Int))=true:=by simp;omega
  have hw:=zao i (by first|omega|(simp only [zad,Few] at *;omega))
  have hTx:=hT x (List.mem_of_getElem? hx);have hCx:=hC x (List.mem_of_getElem? hx) n its (by omega) (by omega)
  rw [za6 hx]
  simp only [selA]
  refine zaa ?_
  cases h1:(tr x).snd==0
  ·cases h2:(tr x).snd != 0
   ·exact wkl [sb h0,se (zah Rw.cells hx rfl),sc (zaR frs t x.vals zgn),sc hTx,sb h1,sb h2,si hw] [1,2,3,4,9,26,27,28] 8 kr (ih (i+1) n its (by omega) zgI zgI)
   ·exact wkr [sb h0,se (zah Rw.cells hx rfl),sc (zaR frs t x.vals zgn),sc hTx,sb h1,sb h2] kr
  ·cases h3:(tr x).fst
   ·cases h4:(tr x).snd != 0
    ·exact wkl [sb h0,se (zah Rw.cells hx rfl),sc (zaR frs t x.vals zgn),sc hTx,sg h1,sb h3,sb h4,si hw] [1,2,3,4,9,26,27,28] 8 kr (ih (i+1) n its (by omega) zgI zgI)
    ·exact wkr [sb h0,se (zah Rw.cells hx rfl),sc (zaR frs t x.vals zgn),sc hTx,sg h1,sb h3,sb h4] kr
   ·cases h5:(g x its).fst != 0
    ·exact wkl [sb h0,se (zah Rw.cells hx rfl),sc (zaR frs t x.vals zgn),sc hTx,sg h1,sb h3,sl [0,1,2,3,4,5] hCx,sb h5,si hw] [1,2,3,4,9,26,27,28] 8 kr (ih (i+1) (n+1) ((g x its).snd) (by omega) zgI zgI)
    ·exact wkr [sb h0,se (zah Rw.cells hx rfl),sc (zaR frs t x.vals zgn),sc hTx,sg h1,sb h3,sl [0,1,2,3,4,5] hCx,sb h5] kr
end Go.AM
namespace Go.AM
set_option maxRecDepth 100000
set_option maxHeartbeats 1000000
set_option linter.unusedSimpArgs false
set_option linter.unusedVariables false
theorem zfg {p:Prop} (h:p:=by first|assumption|exact head0 (by assumption)|exact len1 (by assumption)):p:=h
def zjO (tr:Rw→Bool × Int) (g:Rw→List V→Int × List V) (q:Qy) (frs:List Fr) (tb:List Tb) (e:X) (t:Tb) (n0:Nat) (its0:List V):Int × Nat × (List V) :=
 selA tr g q frs tb e t n0 its0 t.rows 0 n0 (its0)
theorem zgj (tr:Rw→Bool × Int) (g:Rw→List V→Int × List V) (q:Qy) (frs:List Fr) (tb:List Tb) (e:X) (t:Tb) (n0:Nat) (its0:List V) (hfind:Pure S.evaluate_find [tsl tb,sv q.frm] (.tup [t.av,bv true])) (hfr:zad frs) (hrows:t.rows.length≤1000) (hn0:n0≤1000) (hi0:its0.length≤1000) (hgl:∀ (r:Rw) (its:List V),(g r its).2.length≤its.length+1000) (hT:∀ r∈t.rows,Pure S.evaluate_True [xsl q.wh,fsl (zat frs t r.vals),tsl tb] (.tup [bv (tr r).1,iv (tr r).2])) (hC:∀ r∈t.rows,∀ (n:Nat) (its:List V),n≤1000000→its.length≤2000000→zac E0 S.evaluate_aggregate_c1 [.agg (Rw.cells r),fsl (zat frs t r.vals),.p 0 0,.p 1 0,.p 2 0,.p 3 0,.p 4 0] (AH q tb e n its) (iv (g r its).1) (AH q tb e (n+1) (g r its).2)):zac E0 S.evaluate_selected [q.av,fsl frs,tsl tb,.fn S.evaluate_aggregate_c1 [.p 0 0,.p 1 0,.p 2 0,.p 3 0,.p 4 0]] (AH q tb e n0 its0) (iv (zjO tr g q frs tb e t n0 its0).1) (AH q tb e (zjO tr g q frs tb e t n0 its0).2.1 (zjO tr g q frs tb e t n0 its0).2.2):=by
 unfold zjO
 exact wkc At.evaluate_selected [sc hfind,sb (rfl:false=false)] [1,2,3,4,9,26,27,28] 8 kr (znq tr g q frs tb e t n0 its0 hfr hrows hn0 hi0 hgl hT hC t.rows.length 0 n0 its0 (by simp) (by simp) (by simp))
def zop (q:Qy) (frs:List Fr) (tb:List Tb) (e:X) (n0:Nat) (its0:List V):Int × Nat × (List V) :=
 (3,n0,its0)
theorem zgd (q:Qy) (frs:List Fr) (tb:List Tb) (e:X) (n0:Nat) (its0:List V) (hfind:Pure S.evaluate_find [tsl tb,sv q.frm] (.tup [Tb.zero.av,bv false])):zac E0 S.evaluate_selected [q.av,fsl frs,tsl tb,.fn S.evaluate_aggregate_c1 [.p 0 0,.p 1 0,.p 2 0,.p 3 0,.p 4 0]] (AH q tb e n0 its0) (iv (zop q frs tb e n0 its0).1) (AH q tb e (zop q frs tb e n0 its0).2.1 (zop q frs tb e n0 its0).2.2):=by
 exact wk At.evaluate_selected [sc hfind,sb (rfl:true=true)] kr
noncomputable def zfd (e:X) (q:Qy) (frs:List Fr) (tb:List Tb):Cfg:=(upto (mk E0) (List.range 100) 6 3000 ⟨B.evaluate_aggregate.ntmps,[.code (B.evaluate_aggregate.body.getD .skip)],zbF 0 [e.av,fsl frs,tsl tb],[]⟩ [.el q.cells]).2
noncomputable def aggCfg (e:X) (q:Qy) (frs:List Fr) (tb:List Tb):Cfg:=cut (List.range 100) 7 ⟨(zfd e q frs tb).n,(zfd e q frs tb).todo,(zfd e q frs tb).ts,((zfd e q frs tb).h++[Blk.row Ty.Value [] false]).set 5 (.box (([AV.nl]:List AV).set 0 (.own (zfd e q frs tb).h.length 0)))⟩
theorem agg_to {e:X} {q:Qy} {frs:List Fr} {tb:List Tb} {R:AV→Heap→Prop} (hq:e.sub[0]?=some q) (hg:Good E0 B.evaluate_aggregate [] (aggCfg e q frs tb) (Shut 0 R)):zbI E0 S.evaluate_aggregate [e.av,fsl frs,tsl tb] [] R :=
 wkc (c':=zfd e q frs tb) At.evaluate_aggregate [se (zaF hq)] (List.range 100) 6 kr
  (zea (cs:=[AV.nl]) 5 0 Ty.Value (List.range 100) 7 kr kr kr rfl hg)
theorem head0 {l:List V} (h:(((l.length:Nat):Int)==0)=false):l[0]?=some (l.headD V.null):=by
 cases l with
 | nil=>simp at h
 | cons x r=>rfl
theorem len1 {l:List V} (h:(((l.length:Nat):Int)==0)=false):decide ((((l.map V.cells).length:Nat):Int) < 1)=false:=by
 cases l with
 | nil=>simp at h
 | cons x r=>simp;omega
def eAgg (sel:Int × Nat × List V) (e:X):V × Int :=
 bif sel.1 != 0 then (V.null,sel.1)
 else bif e.kind==8 then (⟨2,if decide (0 < ((sel.2.1:Nat):Int)) then 1 else 0,⟨#[]⟩⟩,0)
 else bif e.kind==9 then (⟨1,(sel.2.1:Nat),⟨#[]⟩⟩,0)
 else bif ((sel.2.2.length:Nat):Int)==0 then (V.null,0)
 else bif e.kind==10 then eSum sel.2.2
 else bif e.kind==11 then (minV sel.2.2,0)
 else (maxV sel.2.2,0)
theorem c_agg (sel:Int × Nat × List V) (e:X) (q:Qy) (frs:List Fr) (tb:List Tb) (hq:e.sub[0]?=some q) (hlen:zad sel.2.2) (hsel:zac E0 S.evaluate_selected [q.av,fsl frs,tsl tb,.fn S.evaluate_aggregate_c1 [.p 0 0,.p 1 0,.p 2 0,.p 3 0,.p 4 0]] (AH q tb e 0 []) (iv sel.1) (AH q tb e sel.2.1 sel.2.2)):zac E0 S.evaluate_aggregate [e.av,fsl frs,tsl tb] [] (.tup [(eAgg sel e).1.av,iv (eAgg sel e).2]) []:=by
 refine agg_to hq ?_
 unfold eAgg
 cases h1:sel.fst != 0
 ·cases h2:e.kind==8
  ·cases h3:e.kind==9
   ·cases h4:(sel.snd.snd.length:Int)==0
    ·cases h5:e.kind==10
     ·cases h6:e.kind==11
      ·exact wkr [sl [4,3,1,0,5,6] hsel,sb h1,sb h2,sb h3,sqx (sel.snd.snd.length=(List.map V.cells sel.snd.snd).length),sb h4,sb h5,sb h6,skx (sel.snd.snd.length=(List.map V.cells sel.snd.snd).length∧True∧True) [] (zgc sel.snd.snd zfg zfg zfg)] kr
      ·exact wkr [sl [4,3,1,0,5,6] hsel,sb h1,sb h2,sb h3,sqx (sel.snd.snd.length=(List.map V.cells sel.snd.snd).length),sb h4,sb h5,sb h6,skx (sel.snd.snd.length=(List.map V.cells sel.snd.snd).length∧True∧True) [] (zgl sel.snd.snd zfg zfg zfg)] kr
     ·exact wkr [sl [4,3,1,0,5,6] hsel,sb h1,sb h2,sb h3,sqx (sel.snd.snd.length=(List.map V.cells sel.snd.snd).length),sb h4,sb h5,skx (sel.snd.snd.length=(List.map V.cells sel.snd.snd).length∧True) [] (zkE sel.snd.snd zfg)] kr
    ·exact wkr [sl [4,3,1,0,5,6] hsel,sb h1,sb h2,sb h3,sqx (sel.snd.snd.length=(List.map V.cells sel.snd.snd).length),sb h4] kr
   ·exact wkr [sl [4,3,1,0,5,6] hsel,sb h1,sb h2,sb h3,sc (zaX ((sel.snd.fst:Int)))] kr
  ·exact wkr [sl [4,3,1,0,5,6] hsel,sb h1,sb h2,sc (zbl (decide (0 < (sel.snd.fst:Int))))] kr
 ·exact wkr [sl [4,3,1,0,5,6] hsel,sb h1] kr
end Go.AM
namespace Go.AM
set_option maxRecDepth 100000
set_option maxHeartbeats 1000000
set_option linter.unusedSimpArgs false
set_option linter.unusedVariables false
theorem za7 {p:Prop} (h:p:=by first|assumption|exact hfo.short|exact hfo.cols|exact hfo.wrap|exact zq5 (by assumption)|exact zqB (by assumption)|(simp_all;done)|(simp at *;omega)):p:=h
theorem zjh (frs:List Fr) (q n:Str) (k:Nat) (f:Fr) (els:Int × Int × Bool):∀ (c:List Col) (j:Nat),zda frs q n k f els c j=bif decide (0≤idxF (fun c=>colC c n) c j) then (pm1 (k+1),idxF (fun c=>colC c n) c j,true) else els
 | [],j=>by simp [zda,idxF]
 | x::r,j=>by
  rcases Bool.eq_false_or_eq_true (x.name.toList==n.toList) with h|h
  ·simp [zda,idxF,colC,h]
  ·have ih:=zjh frs q n k f els r (j+1)
   simp only [colC] at ih
   simp only [zda,idxF,colC,h,cond_false]
   exact ih
theorem znI (frs:List Fr) (q n:Str):∀ k,sres frs q n k=rres frs q n k
 | 0=>rfl
 | k+1=>by simp only [sres,rres,zjh,znI frs q n k]
theorem zge (frs:List Fr) (q n:Str):zbi frs q n=zbn frs q n:=znI frs q n _
theorem zj1 (frs:List Fr) (q n:Str) (h:(!(zbi frs q n).2.2)=false):ElAt (frs.map Fr.cells) (zbi frs q n).1 (rFr frs q n).cells 4:=by
 rw [zge] at h ⊢;exact el_rFr frs q n (by simpa using h)
theorem zq5 {frs:List Fr} {q n:Str} (h:(!(zbi frs q n).2.2)=false):decide ((zbi frs q n).2.1 < 0)=false:=by
 rw [zge] at h ⊢
 obtain ⟨i,j,e,_⟩:=zgf (by simpa using h:(zbn frs q n).2.2=true)
 rw [e];simp
theorem zqB {l:List V} {k:Int} (h:decide ((((l.map V.cells).length:Nat):Int)≤k)=false):k < l.length:=by simp at h;omega
noncomputable def ziD (f:X→V × Int) (op:List V→V × Int) (e:X) (frs:List Fr) (tb:List Tb) (i:Nat) (out:List V):Cfg:=zaw B.evaluate_Value 0 [(1,fsl frs),(2,tsl tb),(3,.p 0 0),(6,.p 1 0),(11,.own 2 out.length),(73,xsl e.args),(74,iv ((zab e.args).length:Nat)),(75,iv (i:Nat))] [.box e.cells,.box [iv 0,iv 0,sv ⟨#[]⟩],.row Ty.Value (out.map V.cells) false]
def evL (f:X→V × Int) (op:List V→V × Int) (e:X) (frs:List Fr) (tb:List Tb):List (X)→Nat→(List V)→V × Int
 | [],i,out =>
  ((op out).fst,(op out).snd)
 | x::r,i,out =>
  bif (f x).snd != 0 then
   (V.mk 0 0 (ByteArray.mk #[]),(f x).snd)
  else
   evL f op e frs tb r (i+1) (out++[(f x).fst])
theorem zoP (f:X→V × Int) (op:List V→V × Int) (e:X) (frs:List Fr) (tb:List Tb) (hl:Few e.args) (hf:∀ x∈e.args,Pure S.evaluate_Value [x.av,fsl frs,tsl tb] (.tup [(f x).1.av,iv (f x).2])) (hfg:∀ x∈e.args,(f x).1.Good) (hop:∀ l:List V,l.length=e.args.length→(∀ v∈l,v.Good)→Pure S.evaluate_operation [e.av,vsl l] (.tup [(op l).1.av,iv (op l).2])):∀ (kk i:Nat) (out:List V),i+kk=(e.args).length→(out.length=i)→(∀ v∈out,v.Good)→Good E0 B.evaluate_Value [] (ziD f op e frs tb i out) (Shut 0 fun r h=>r=(.tup [(evL f op e frs tb ((e.args).drop i) i out).1.av,iv (evL f op e frs tb ((e.args).drop i) i out).2])∧h=[]):=by
 intro kk
 induction kk with
 | zero =>
  intro i out hi ho hg
  have h0:decide (((i:Nat):Int) < (((zab e.args).length:Nat):Int))=false:=by simp;omega
  have e0:(e.args).drop i=[]:=List.drop_of_length_le (by omega)
  rw [e0]
  simp only [evL]
  refine zaa ?_
  exact wkr [sb h0,skx ((True∧True∧True∧True∧True∧True∧True∧True∧True∧True∧True)∧out.length=(List.map V.cells out).length∧True) [] (hop out (by first|assumption|omega) (by first|assumption|omega))] kr
 | succ kk ih =>
  intro i out hi ho hg
  obtain ⟨x,hx⟩:=zaC (l:=e.args) (i:=i) (by omega)
  have h0:decide (((i:Nat):Int) < (((zab e.args).length:Nat):Int))=true:=by simp;omega
  have hw:=zao i (by first|omega|(simp only [zad,Few] at *;omega))
  have hfx:=hf x (List.mem_of_getElem? hx);have hgx:=hfg x (List.mem_of_getElem? hx);have hlen:out.length≤1000:=by have:=zeu hx;simp only [Few] at hl;omega
  rw [za6 hx]
  simp only [evL]
  refine zaa ?_
  cases h1:(f x).snd != 0
  ·exact wkl (c':=(Cfg.mk (ziD f op e frs tb (i+1) (out++[(f x).fst])).n (ziD f op e frs tb (i+1) (out++[(f x).fst])).todo [(1,AV.sl (List.map Fr.cells frs)),(2,AV.sl (List.map Tb.cells tb)),(3,AV.p 0 0),(6,AV.p 1 0),(11,AV.own 2 (List.map V.cells out++[[iv (f x).fst.kind,iv (f x).fst.int,sv (f x).fst.text]]).length),(73,AV.sl (zab e.args)),(74,iv (↑(zab e.args).length:Int)),(75,iv (↑(i+1):Int))] [Blk.box [iv e.kind,iv e.op,bv e.not,iv e.val.kind,iv e.val.int,sv e.val.text,sv e.table,sv e.name,AV.sl (zab e.args),AV.sl (zaf e.sub)],Blk.box [iv 0,iv 0,sv (ByteArray.mk #[])],Blk.row Ty.Value (List.map V.cells out++[[iv (f x).fst.kind,iv (f x).fst.int,sv (f x).fst.text]]) false])) [sb h0,se (za9 hx),sc hfx,sb h1,sqx (AllLen [[iv (f x).fst.kind,iv (f x).fst.int,sv (f x).fst.text]] 3∧out.length=(List.map V.cells out).length∧(((List.map V.cells out).length+[[iv (f x).fst.kind,iv (f x).fst.int,sv (f x).fst.text]].length) * 32).le 140737488355328),si hw] [1,2,3,6,11,73,74,75] 3 kr (zav (show ([(1,AV.sl (List.map Fr.cells frs)),(2,AV.sl (List.map Tb.cells tb)),(3,AV.p 0 0),(6,AV.p 1 0),(11,AV.own 2 (List.map V.cells out++[[iv (f x).fst.kind,iv (f x).fst.int,sv (f x).fst.text]]).length),(73,AV.sl (zab e.args)),(74,iv (↑(zab e.args).length:Int)),(75,iv (↑(i+1):Int))]:TS)=[(1,AV.sl (List.map Fr.cells frs)),(2,AV.sl (List.map Tb.cells tb)),(3,AV.p 0 0),(6,AV.p 1 0),(11,AV.own 2 (out++[(f x).fst]).length),(73,AV.sl (zab e.args)),(74,iv (↑(zab e.args).length:Int)),(75,iv (↑(i+1):Int))] by first|rfl|(simp;done)|(simp [X.cells,Qy.cells,V.cells,Col.cells,Rw.cells,Tb.cells,Fr.cells,Sch.cells,Tp.cells,Pl.cells,xCol,xLit,xBin,xNeg];done)) (show ([Blk.box [iv e.kind,iv e.op,bv e.not,iv e.val.kind,iv e.val.int,sv e.val.text,sv e.table,sv e.name,AV.sl (zab e.args),AV.sl (zaf e.sub)],Blk.box [iv 0,iv 0,sv (ByteArray.mk #[])],Blk.row Ty.Value (List.map V.cells out++[[iv (f x).fst.kind,iv (f x).fst.int,sv (f x).fst.text]]) false]:Heap)=[Blk.box [iv e.kind,iv e.op,bv e.not,iv e.val.kind,iv e.val.int,sv e.val.text,sv e.table,sv e.name,AV.sl (zab e.args),AV.sl (zaf e.sub)],Blk.box [iv 0,iv 0,sv (ByteArray.mk #[])],Blk.row Ty.Value (List.map V.cells (out++[(f x).fst])) false] by first|rfl|(simp;done)|(simp [X.cells,Qy.cells,V.cells,Col.cells,Rw.cells,Tb.cells,Fr.cells,Sch.cells,Tp.cells,Pl.cells,xCol,xLit,xBin,xNeg];done)) (ih (i+1) (out++[(f x).fst]) (by omega) (by first|assumption|(simp;omega)|exact fun v hv=>(List.mem_append.1 hv).elim (hg v) fun h=>by simp only [List.mem_singleton] at h;exact h ▸ hgx) (by first|assumption|(simp;omega)|exact fun v hv=>(List.mem_append.1 hv).elim (hg v) fun h=>by simp only [List.mem_singleton] at h;exact h ▸ hgx)))
  ·exact wkr [sb h0,se (za9 hx),sc hfx,sb h1] kr
structure OpKind (e:X):Prop where
 fok:zcJ e=true
 k1:e.kind≠1
 k2:e.kind≠2
 k8:¬(8≤e.kind∧e.kind≤12)
def valF (f:X→V × Int) (op:List V→V × Int) (agg:V × Int) (e:X) (frs:List Fr) (tb:List Tb):V × Int :=
 bif !zcJ e then
  (V.mk 0 0 (ByteArray.mk #[]),17)
 else
  bif e.kind==1 then
   (e.val,0)
  else
   bif e.kind==2 then
    bif !(zbi frs e.table e.name).snd.snd then
     (V.mk 0 0 (ByteArray.mk #[]),3)
    else
     bif decide ((↑(List.map V.cells (rFr frs e.table e.name).vals).length:Int)≤(zbi frs e.table e.name).snd.fst) then
      (V.mk 0 0 (ByteArray.mk #[]),17)
     else
      (zbq (rFr frs e.table e.name).vals (zbi frs e.table e.name).snd.fst,0)
   else
    bif e.kind==8 then
     (agg.fst,agg.snd)
    else
     bif e.kind==9 then
      (agg.fst,agg.snd)
     else
      bif e.kind==10 then
       (agg.fst,agg.snd)
      else
       bif e.kind==11 then
        (agg.fst,agg.snd)
       else
        bif e.kind==12 then
         (agg.fst,agg.snd)
        else
         evL f op e frs tb e.args 0 ([])
theorem zhs (f:X→V × Int) (op:List V→V × Int) (agg:V × Int) (e:X) (frs:List Fr) (tb:List Tb) (n:Nat) (hfo:FsOk n frs) (hl:Few e.args) (hf:∀ x∈e.args,Pure S.evaluate_Value [x.av,fsl frs,tsl tb] (.tup [(f x).1.av,iv (f x).2])) (hfg:∀ x∈e.args,(f x).1.Good) (hop:OpKind e→∀ l:List V,l.length=e.args.length→(∀ v∈l,v.Good)→Pure S.evaluate_operation [e.av,vsl l] (.tup [(op l).1.av,iv (op l).2])) (hagg:zcJ e=true→8≤e.kind→e.kind≤12→Pure S.evaluate_aggregate [e.av,fsl frs,tsl tb] (.tup [agg.1.av,iv agg.2])):zac E0 S.evaluate_Value [e.av,fsl frs,tsl tb] [] (.tup [(valF f op agg e frs tb).1.av,iv (valF f op agg e frs tb).2]) []:=by
 unfold valF
 cases h1:!zcJ e
 ·cases h2:e.kind==1
  ·cases h3:e.kind==2
   ·cases h4:e.kind==8
    ·cases h5:e.kind==9
     ·cases h6:e.kind==10
      ·cases h7:e.kind==11
       ·cases h8:e.kind==12
        ·exact wkc At.evaluate_Value (c':=(Cfg.mk (ziD f op e frs tb 0 []).n (ziD f op e frs tb 0 []).todo [(1,AV.sl (List.map Fr.cells frs)),(2,AV.sl (List.map Tb.cells tb)),(3,AV.p 0 0),(6,AV.p 1 0),(11,AV.nl),(73,AV.sl (zab e.args)),(74,iv (↑(zab e.args).length:Int)),(75,iv 0)] [Blk.box [iv e.kind,iv e.op,bv e.not,iv e.val.kind,iv e.val.int,sv e.val.text,sv e.table,sv e.name,AV.sl (zab e.args),AV.sl (zaf e.sub)],Blk.box [iv 0,iv 0,sv (ByteArray.mk #[])]])) [sc (zaY e),sb h1,sb h2,sb h3,sb h4,sb h5,sb h6,sb h7,sb h8] [1,2,3,6,11,73,74,75] 2 kr (zes (c':=ziD f op e frs tb 0 []) 11 Ty.Value [1,2,3,6,11,73,74,75] 3 kr kr kr (zoP f op e frs tb hl hf hfg (hop ⟨by simpa using h1,by simpa using h2,by simpa using h3,by simp at *;omega⟩) e.args.length 0 ([]) (by simp) (by simp) (by simp)))
        ·exact wk At.evaluate_Value [sc (zaY e),sb h1,sb h2,sb h3,sb h4,sb h5,sb h6,sb h7,sb h8,sc (hagg za7 za7 za7)] kr
       ·exact wk At.evaluate_Value [sc (zaY e),sb h1,sb h2,sb h3,sb h4,sb h5,sb h6,sb h7,sc (hagg za7 za7 za7)] kr
      ·exact wk At.evaluate_Value [sc (zaY e),sb h1,sb h2,sb h3,sb h4,sb h5,sb h6,sc (hagg za7 za7 za7)] kr
     ·exact wk At.evaluate_Value [sc (zaY e),sb h1,sb h2,sb h3,sb h4,sb h5,sc (hagg za7 za7 za7)] kr
    ·exact wk At.evaluate_Value [sc (zaY e),sb h1,sb h2,sb h3,sb h4,sc (hagg za7 za7 za7)] kr
   ·cases h9:!(zbi frs e.table e.name).snd.snd
    ·cases h10:decide ((↑(List.map V.cells (rFr frs e.table e.name).vals).length:Int)≤(zbi frs e.table e.name).snd.fst)
     ·exact wk At.evaluate_Value [sc (zaY e),sb h1,sb h2,sb h3,sc (zcN frs e.table e.name za7 za7 za7),sb h9,se (zj1 frs e.table e.name za7),sb h10,se (zj1 frs e.table e.name za7),se (zl3 ((rFr frs e.table e.name).vals) ((zbi frs e.table e.name).snd.fst) za7 za7)] kr
     ·exact wk At.evaluate_Value [sc (zaY e),sb h1,sb h2,sb h3,sc (zcN frs e.table e.name za7 za7 za7),sb h9,se (zj1 frs e.table e.name za7),sb h10] kr
    ·exact wk At.evaluate_Value [sc (zaY e),sb h1,sb h2,sb h3,sc (zcN frs e.table e.name za7 za7 za7),sb h9] kr
  ·exact wk At.evaluate_Value [sc (zaY e),sb h1,sb h2] kr
 ·exact wk At.evaluate_Value [sc (zaY e),sb h1] kr
end Go.AM
namespace Go.AM
set_option maxRecDepth 100000
set_option maxHeartbeats 1000000
set_option linter.unusedSimpArgs false
set_option linter.unusedVariables false
theorem zhl {k o:Int} {xs:List X} (h:zaQ k o xs=true):((k=1∨k=2)∧xs.length=0)∨((k=3∨k=4∨k=6)∧xs.length=1)∨(k=5∧xs.length=2∧1≤o∧o≤13)∨(k=7∧xs.length=3):=by
 simp only [zaQ,Bool.cond_eq_ite,zdq] at h
 simp at h
 repeat' split at h
 all_goals simp_all
 all_goals omega
theorem zhm {k o:Int} {xs:List X} {qs:List Qy} {it wh:List X} (hq:qs≠[]) (h:zax k o xs qs it wh=true):xs.length=0∧qs.length=1∧wh.length≤1∧(((k=8∨k=9)∧it.length=0)∨((k=10∨k=11∨k=12)∧it.length=1)):=by
 simp only [zax,Bool.cond_eq_ite,zdq,zdp] at h
 simp [hq] at h
 obtain ⟨h1,h2,h3,h4,h5,h6,h7,h⟩:=h
 repeat' split at h
 all_goals simp_all
 all_goals omega
def eOp (e:X) (l:List V):V × Int:=match l with
 | [a]=>if e.kind=6 then zfq e.op e.not a else if e.kind=3 then zjs e.op e.not a else zoF e.op e.not a
 | [a,b]=>zjR e.op e.not a b
 | [a,b,c]=>zlh e.op e.not a b c
 | _=>(V.null,0)
theorem OpKind.cases {e:X} (h:OpKind e):e.sub=[]∧(((e.kind=3∨e.kind=4∨e.kind=6)∧e.args.length=1)∨(e.kind=5∧e.args.length=2∧1≤e.op∧e.op≤13)∨(e.kind=7∧e.args.length=3)):=by
 have hf:=h.fok
 have k1:=h.k1
 have k2:=h.k2
 have k8:=h.k8
 unfold zcJ at hf
 cases hs:e.sub with
 | nil =>
  rw [hs] at hf
  have:=zhl hf
  refine ⟨rfl,?_⟩
  omega
 | cons q r =>
  rw [hs] at hf
  have:=(zhm (by simp) hf).2.2.2
  omega
theorem znE (e:X) (h:OpKind e) (l:List V) (hl:l.length=e.args.length) (hg:∀ v∈l,v.Good):Pure S.evaluate_operation [e.av,vsl l] (.tup [(eOp e l).1.av,iv (eOp e l).2]):=by
 obtain ⟨hs,hk⟩:=h.cases
 cases e with
 | mk k o nt val tn nm xs qs =>
  simp only [X.sub_mk,X.kind_mk,X.op_mk,X.args_mk] at hs hk hl
  subst hs
  match l,hl,hg with
  | [],hl,_=>simp at hl;omega
  | [a],hl,hg =>
   have ha:=(hg a (by simp)).small
   simp only [List.length_cons,List.length_nil] at hl
   have:k=3∨k=4∨k=6:=by omega
   rcases this with rfl|rfl|rfl
   ·exact zeV o nt a val tn nm xs [] ha
   ·exact ze3 o nt a val tn nm xs []
   ·exact zd8 o nt a val tn nm xs []
  | [a,b],hl,hg =>
   simp only [List.length_cons,List.length_nil] at hl
   obtain ⟨rfl,ho⟩:k=5∧1≤o∧o≤13:=by omega
   exact zeX o nt a b val tn nm xs [] (hg a (by simp)).small (hg b (by simp)).small ho
  | [a,b,c],hl,hg =>
   simp only [List.length_cons,List.length_nil] at hl
   obtain rfl:k=7:=by omega
   exact ze0 o nt a b c val tn nm xs []
  | a::b::c::d::r,hl,_=>simp only [List.length_cons] at hl;omega
def rowI (f:X→V × Int) (k:Int):List X→List V→Int × List V
 | [],its=>(0,its)
 | x::r,its=>bif (f x).2 != 0 then ((f x).2,its) else bif (f x).1.kind==0 then rowI f k r its else bif k==10&&(f x).1.kind != 1 then (5,its) else rowI f k r (its++[(f x).1])
theorem zn1 (f:X→V × Int) (q:Qy) (w:List Fr) (tb:List Tb) (e:X) (n:Nat) (its0:List V):∀ (l:List X) (i:Nat) (its:List V),aggI f q w tb e n its0 l i its=rowI f e.kind l its
 | [],_,_=>rfl
 | x::r,i,its=>by
  simp only [aggI,rowI,zn1 f q w tb e n its0 r]
  cases (f x).2 != 0 <;> cases (f x).1.kind==0 <;> cases e.kind==10 <;> simp
theorem zgQ (f:X→V × Int) (k:Int):∀ (l:List X) (its:List V),(rowI f k l its).2.length≤its.length+l.length
 | [],its=>by simp [rowI]
 | x::r,its=>by
  have h1:=zgQ f k r its
  have h2:=zgQ f k r (its++[(f x).1])
  simp only [List.length_append,List.length_cons,List.length_nil] at h2
  simp only [rowI,Bool.cond_eq_ite,List.length_cons]
  repeat' split
  all_goals (try simp only);omega
theorem zjn {P:V→Prop} (f:X→V × Int) (k:Int):∀ (l:List X) (its:List V),(∀ x∈l,P (f x).1)→(∀ v∈its,P v)→∀ v∈(rowI f k l its).2,P v
 | [],its,_,h=>h
 | x::r,its,hx,h=>by
  simp only [rowI,Bool.cond_eq_ite]
  have hr:∀ y∈r,P (f y).1:=fun y hy=>hx y (by simp [hy])
  repeat' split
  ·exact h
  ·exact zjn f k r its hr h
  ·exact h
  ·exact zjn f k r _ hr fun v hv=>(List.mem_append.1 hv).elim (h v) fun hv=>by simp only [List.mem_singleton] at hv;exact hv ▸ hx x (by simp)
def selR (tr:Rw→Bool × Int) (g:Rw→List V→Int × List V):List Rw→Nat→List V→Int × Nat × List V
 | [],n,its=>(0,n,its)
 | r::l,n,its=>bif (tr r).2 != 0 then ((tr r).2,n,its) else bif (tr r).1 then (bif (g r its).1 != 0 then ((g r its).1,n+1,(g r its).2) else selR tr g l (n+1) (g r its).2) else selR tr g l n its
theorem znN (tr:Rw→Bool × Int) (g:Rw→List V→Int × List V) (q:Qy) (frs:List Fr) (tb:List Tb) (e:X) (t:Tb) (n0:Nat) (its0:List V):∀ (l:List Rw) (i n:Nat) (its:List V),selA tr g q frs tb e t n0 its0 l i n its=selR tr g l n its
 | [],_,_,_=>rfl
 | r::l,i,n,its=>by
  simp only [selA,selR,znN tr g q frs tb e t n0 its0 l,bne]
  cases (tr r).2==0 <;> cases (tr r).1 <;> simp
theorem zjc (tr:Rw→Bool × Int) (g:Rw→List V→Int × List V) (m:Nat) (hg:∀ r its,(g r its).2.length≤its.length+m):∀ (l:List Rw) (n:Nat) (its:List V),(selR tr g l n its).2.2.length≤its.length+m * l.length
 | [],n,its=>by simp [selR]
 | r::l,n,its=>by
  have h1:=zjc tr g m hg l n its
  have h2:=zjc tr g m hg l (n+1) (g r its).2
  have h3:=hg r its
  simp only [selR,Bool.cond_eq_ite,List.length_cons,Nat.mul_add]
  repeat' split
  all_goals (try simp only);omega
theorem zjm {P:V→Prop} (tr:Rw→Bool × Int) (g:Rw→List V→Int × List V):∀ (l:List Rw) (n:Nat) (its:List V),(∀ r∈l,∀ its,(∀ v∈its,P v)→∀ v∈(g r its).2,P v)→(∀ v∈its,P v)→∀ v∈(selR tr g l n its).2.2,P v
 | [],n,its,_,h=>h
 | r::l,n,its,hg,h=>by
  have hl:∀ r∈l,∀ its,(∀ v∈its,P v)→∀ v∈(g r its).2,P v:=fun y hy=>hg y (by simp [hy])
  simp only [selR,Bool.cond_eq_ite]
  repeat' split
  ·exact h
  ·exact hg r (by simp) its h
  ·exact zjm tr g l _ _ hl (hg r (by simp) its h)
  ·exact zjm tr g l _ _ hl h
def zci (f:X→V × Int):List X→Bool × Int
 | []=>zl0
 | x::_=>zb8 f x
def zg4 (F:List Fr→X→V × Int) (e:X) (frs:List Fr) (tb:List Tb):V × Int:=match e.sub with
 | []=>(V.null,0)
 | q::_=>match zbC tb q.frm with
  | none=>eAgg (3,0,[]) e
  | some t=>eAgg (selR (fun r=>zci (F (zat frs t r.vals)) q.wh) (fun r its=>rowI (F (zat frs t r.vals)) e.kind q.items its) t.rows 0 []) e
def eval:Nat→X→List Fr→List Tb→V × Int
 | 0,_,_,_=>(V.null,0)
 | n+1,e,frs,tb=>valF (fun x=>eval n x frs tb) (eOp e) (zg4 (fun w x=>eval n x w tb) e frs tb) e frs tb
/- ### values are valid -/
theorem zim (c:Bool):V.Good ⟨2,if c=true then 1 else 0,⟨#[]⟩⟩:=by
 cases c
 ·exact zdC (n:=0) (by decide)
 ·exact zdC (n:=1) (by decide)
theorem gc1 {α:Type} (c:Bool) {a b:V × α} (ha:a.1.Good) (hb:b.1.Good):(bif c then a else b).1.Good:=by cases c <;> assumption
theorem gc0 (c:Bool) {a b:V} (ha:a.Good) (hb:b.Good):(bif c then a else b).Good:=by cases c <;> assumption
theorem ic1 (c:Bool) {a b:Int × Bool} (ha:I64 a.1) (hb:I64 b.1):I64 (bif c then a else b).1:=by cases c <;> assumption
theorem zp0 (op:Int) (a b:V):(vCmp op a b).1.Good:=by
 unfold vCmp;repeat' (first|apply gc1|exact zaG|exact zim _)
theorem zkh (a b:V):(zew a b).Good:=by
 unfold zew;repeat' (first|apply gc0|exact zaG|exact zim _)
theorem zkW (a b:V):(land a b).1.Good:=by
 unfold land;repeat' (first|apply gc1|exact zaG|exact zkh _ _)
theorem zkO (a:V) (ha:a.Good):(lnot a).1.Good:=by
 unfold lnot;repeat' (first|apply gc1|exact zaG|exact ha|exact zim _)
theorem zqA (a b:V):(lor a b).1.Good:=by
 unfold lor;repeat' (first|exact zkO _ (zkh _ _)|exact zaG|apply gc1)
theorem zep (v:V) (ok:Bool) (h:v.Good):(zcq v ok).1.Good:=by
 unfold zcq;repeat' (first|apply gc1|exact zaG|exact h)
theorem aAdd_i (a b:Int):I64 (aAdd a b).1:=by
 unfold aAdd;repeat' (first|apply ic1|exact zcn _|exact ⟨by decide,by decide⟩)
theorem aSub_i (a b:Int):I64 (aSub a b).1:=by
 unfold aSub;repeat' (first|apply ic1|exact zcn _|exact ⟨by decide,by decide⟩)
theorem aMul_i (a b:Int):I64 (aMul a b).1:=by
 unfold aMul;repeat' (first|apply ic1|exact zcn _|exact ⟨by decide,by decide⟩)
theorem aDiv_i (a b:Int):I64 (aDiv a b).1:=by
 unfold aDiv;repeat' (first|apply ic1|exact zcn _|exact ⟨by decide,by decide⟩)
theorem aMod_i (a b:Int) (ha:I64 a):I64 (aMod a b).1:=by
 have h:I64 (a.tmod b):=by
  have h0:=Int.natAbs_tmod a b
  have h1:=Nat.mod_le a.natAbs b.natAbs
  have h2:a < 0→a.tmod b≤0:=fun h=>by
   have h3:=Int.tmod_nonneg b (show 0≤-a by omega)
   rw [Int.neg_tmod] at h3;omega
  simp only [I64] at *
  omega
 unfold aMod;repeat' (first|apply ic1|exact h|exact ⟨by decide,by decide⟩)
theorem zi4 (op:Int) (a b:V) (ha:a.Good):(zdP op a b).1.Good:=by
 unfold zdP
 repeat' (first|apply gc1|exact zaG|exact zbk (aAdd_i _ _)|exact zbk (aSub_i _ _)|exact zbk (aMul_i _ _)|exact zbk (aDiv_i _ _)|exact zbk (aMod_i _ _ ha.i64)|exact zbk ⟨by decide,by decide⟩)
theorem zqn (e:X) (l:List V) (hg:∀ v∈l,v.Good):(eOp e l).1.Good:=by
 match l,hg with
 | [],_=>exact zaG
 | [a],hg =>
  have ha:=hg a (by simp)
  simp only [eOp]
  split
  ·exact zim _
  split
  ·exact zep _ _ (zkO _ ha)
  ·exact zi4 _ _ _ (zbk ⟨by decide,by decide⟩)
 | [a,b],hg =>
  have ha:=hg a (by simp)
  simp only [eOp,zjR]
  repeat' (first|exact zep _ _ (zkW _ _)|exact zep _ _ (zqA _ _)|exact zp0 _ _ _|exact zi4 _ _ _ ha|apply gc1)
 | [a,b,c],hg =>
  simp only [eOp,zlh,zd5]
  repeat' (first|exact zaG|exact zep _ _ (zkW _ _)|apply gc1)
 | a::b::c::d::r,_=>exact zaG
theorem zjf {P:V→Prop} (l0:List V):∀ (l:List V) (i:Nat) (m:V),(∀ v∈l,P v)→P m→P (minL l0 l i m)
 | [],_,_,_,h=>h
 | x::r,i,m,hl,h=>by
  simp only [minL,Bool.cond_eq_ite]
  split
  ·exact zjf l0 r _ _ (fun v hv=>hl v (by simp [hv])) (hl x (by simp))
  ·exact zjf l0 r _ _ (fun v hv=>hl v (by simp [hv])) h
theorem zja {P:V→Prop} (l0:List V):∀ (l:List V) (i:Nat) (m:V),(∀ v∈l,P v)→P m→P (maxL l0 l i m)
 | [],_,_,_,h=>h
 | x::r,i,m,hl,h=>by
  simp only [maxL,Bool.cond_eq_ite]
  split
  ·exact zja l0 r _ _ (fun v hv=>hl v (by simp [hv])) (hl x (by simp))
  ·exact zja l0 r _ _ (fun v hv=>hl v (by simp [hv])) h
theorem zqv {P:V→Prop} {l:List V} (h:∀ v∈l,P v) (h0:P V.null):P (minV l) :=
 zjf l _ _ _ (fun v hv=>h v (List.mem_of_mem_drop hv)) (by cases l with|nil=>exact h0|cons x r=>exact h x (by simp))
theorem zqU {P:V→Prop} {l:List V} (h:∀ v∈l,P v) (h0:P V.null):P (maxV l) :=
 zja l _ _ _ (fun v hv=>h v (List.mem_of_mem_drop hv)) (by cases l with|nil=>exact h0|cons x r=>exact h x (by simp))
theorem zpv (l0:List Int):∀ (l:List Int) (i:Nat) (a b:Int),I64 (sumL l0 l i a b).1
 | [],i,a,b=>by
  simp only [sumL]
  repeat' (first|apply ic1|exact zcn _|exact ⟨by decide,by decide⟩)
 | x::r,i,a,b=>by simp only [sumL];exact zpv l0 r _ _ _
theorem zmo (its:List V):∀ (c:List V) (i:Nat) (l:List Int),zeW its c i l=bif !(aSum (l++c.map V.int)).2 then (V.null,6) else (⟨1,(aSum (l++c.map V.int)).1,⟨#[]⟩⟩,0)
 | [],i,l=>by simp [zeW,V.null]
 | x::r,i,l=>by simp only [zeW,List.map_cons];rw [zmo its r];simp
theorem zrR (its:List V):eSum its=bif !(aSum (its.map V.int)).2 then (V.null,6) else (⟨1,(aSum (its.map V.int)).1,⟨#[]⟩⟩,0):=by
 unfold eSum;rw [zmo];simp
theorem zqk (its:List V):(eSum its).1.Good:=by
 rw [zrR]
 exact gc1 _ zaG (zbk (zpv _ _ _ _ _))
theorem zkN (sel:Int × Nat × List V) (e:X) (hn:sel.2.1≤1000000) (h:∀ v∈sel.2.2,v.Good):(eAgg sel e).1.Good:=by
 unfold eAgg
 have hb:V.Good ⟨2,if decide (0 < ((sel.2.1:Nat):Int)) then 1 else 0,⟨#[]⟩⟩:=zim _
 repeat' (first|exact zaG|exact hb|exact zbk ⟨by omega,by omega⟩|exact zqk _|exact zqv h zaG|exact zqU h zaG|apply gc1)
theorem zmu (tr:Rw→Bool × Int) (g:Rw→List V→Int × List V):∀ (l:List Rw) (n:Nat) (its:List V),(selR tr g l n its).2.1≤n+l.length
 | [],n,its=>by simp [selR]
 | r::l,n,its=>by
  have h1:=zmu tr g l n its
  have h2:=zmu tr g l (n+1) (g r its).2
  simp only [selR,Bool.cond_eq_ite,List.length_cons]
  repeat' split
  all_goals (try simp only);omega
abbrev FsG (frs:List Fr):Prop:=∀ f∈frs,∀ v∈f.vals,v.Good
structure TbG (tb:List Tb):Prop where
 vals:∀ x∈tb,∀ r∈x.rows,∀ v∈r.vals,v.Good
 rows:∀ x∈tb,x.rows.length≤1000
theorem FsG.ins {frs:List Fr} (h:FsG frs) {t:Tb} {v:List V} (hv:∀ x∈v,x.Good):FsG (zat frs t v):=fun f hf=>by
 simp only [zat,List.mem_append,List.mem_singleton] at hf
 rcases hf with hf|rfl
 ·exact h f hf
 ·exact hv
theorem zdz {tb:List Tb} {n:Str} {t:Tb} (h:zbC tb n=some t):t∈tb:=List.mem_of_find?_eq_some h
theorem zpd {F:List Fr→X→V × Int} {n:Nat} {e:X} {frs:List Fr} {tb:List Tb} (he:XOk (n+1) e) (hf:FsG frs) (ht:TbG tb) (hF:∀ w x,XOk n x→FsG w→(F w x).1.Good):(zg4 F e frs tb).1.Good:=by
 unfold zg4
 split
 ·exact zaG
 ·rename_i q r hs
  obtain ⟨_,_,_,hsub⟩:=he
  obtain ⟨h1,h2,h3⟩:=hsub q (by rw [hs];simp)
  split
  ·exact zkN _ _ (by simp) (fun v hv=>by cases hv)
  ·rename_i t hfd
   have htm:=zdz hfd
   refine zkN _ _ ?_ ?_
   ·have:=zmu (fun r=>zci (F (zat frs t r.vals)) q.wh) (fun r its=>rowI (F (zat frs t r.vals)) e.kind q.items its) t.rows 0 []
    have:=ht.rows t htm
    omega
   ·refine zjm _ _ _ _ _ (fun r hr its hi=>zjn _ _ _ _ (fun x hx=>hF _ x (h2 x hx) (hf.ins (ht.vals t htm r hr))) hi) (fun v hv=>by cases hv)
theorem zmW (f:X→V × Int) (op:List V→V × Int) (e:X) (frs:List Fr) (tb:List Tb) (hop:∀ l,(∀ v∈l,v.Good)→(op l).1.Good):∀ (l:List X) (i:Nat) (out:List V),(∀ x∈l,(f x).1.Good)→(∀ v∈out,v.Good)→(evL f op e frs tb l i out).1.Good
 | [],i,out,_,h=>hop out h
 | x::r,i,out,hl,h=>by
  simp only [evL]
  exact gc1 _ zaG (zmW f op e frs tb hop r _ _ (fun y hy=>hl y (by simp [hy])) fun v hv=>(List.mem_append.1 hv).elim (h v) fun h=>by simp only [List.mem_singleton] at h;exact h ▸ hl x (by simp))
theorem zpP {P:V→Prop} {l:List V} (h:∀ v∈l,P v) (h0:P V.null) (k:Int):P (zbq l k):=by
 unfold zbq
 rw [List.getD_eq_getElem?_getD]
 cases hk:l[k.toNat]? with
 | none=>exact h0
 | some v=>exact h v (List.mem_of_getElem? hk)
theorem zrd (frs:List Fr) (q n:Str):rFr frs q n∈frs∨rFr frs q n=za2:=by
 unfold rFr
 rw [List.getD_eq_getElem?_getD]
 cases hk:frs[(zbn frs q n).1.toNat]? with
 | none=>exact .inr rfl
 | some v=>exact .inl (List.mem_of_getElem? hk)
theorem zdF:∀ (n:Nat) (e:X) (frs:List Fr) (tb:List Tb),XOk n e→FsG frs→TbG tb→(eval n e frs tb).1.Good
 | 0,e,frs,tb,h,_,_=>h.elim
 | n+1,e,frs,tb,h,hf,ht=>by
  have hA:=zpd (F:=fun w x=>eval n x w tb) h hf ht (fun w x hx hw=>zdF n x w tb hx hw ht)
  obtain ⟨h1,h2,h3,h4⟩:=h
  have hv:∀ v∈(rFr frs e.table e.name).vals,v.Good:=by
   rcases zrd frs e.table e.name with h|h
   ·exact hf _ h
   ·rw [h];intro v hv;cases hv
  simp only [eval,valF]
  repeat' (first|exact zaG|exact h1|exact hA|exact zpP hv zaG _|exact zmW _ _ _ _ _ (fun l hl=>zqn e l hl) _ _ _ (fun x hx=>zdF n x frs tb (h3 x hx) hf ht) (fun v hv=>by cases hv)|apply gc1)
end Go.AM
namespace Go.AM
set_option maxRecDepth 100000
set_option maxHeartbeats 1000000
set_option linter.unusedSimpArgs false
set_option linter.unusedVariables false
theorem FsOk.eins {n:Nat} {frs:List Fr} (h:FsOk (n+1) frs) {t:Tb} (hc:zad t.sch.cols) {v:List V} (hv:∀ x∈v,x.Good):FsOk n (zat frs t v):=by
 refine ⟨by have:=h.len;simp [zat];omega,fun f hf=>?_,fun f hf=>?_⟩
 ·simp only [zat,List.mem_append,List.mem_singleton] at hf
  rcases hf with hf|rfl
  ·exact h.cols f hf
  ·exact hc
 ·simp only [zat,List.mem_append,List.mem_singleton] at hf
  rcases hf with hf|rfl
  ·exact h.vals f hf
  ·exact fun x hx=>(hv x hx).small
theorem zmP {f:X→V × Int} {wh:List X} {frs:List Fr} {tb:List Tb} (hf:∀ x∈wh,Pure S.evaluate_Value [x.av,fsl frs,tsl tb] (.tup [(f x).1.av,iv (f x).2])) (hg:∀ x∈wh,(f x).1.Good):Pure S.evaluate_True [xsl wh,fsl frs,tsl tb] (.tup [bv (zci f wh).1,iv (zci f wh).2]):=by
 cases wh with
 | nil=>exact zhW frs tb
 | cons x r=>exact zhF f x r frs tb (hf x (by simp)) (hg x (by simp)).small
theorem zjP {e:X} (h:zcJ e=true) (h8:8≤e.kind) (h12:e.kind≤12):∃ q,e.sub=[q]:=by
 unfold zcJ at h
 cases hs:e.sub with
 | nil=>rw [hs] at h;have:=zhl h;omega
 | cons q r =>
  rw [hs] at h
  have:=(zhm (by simp) h).2.1
  cases r with
  | nil=>exact ⟨q,rfl⟩
  | cons x y=>simp at this
theorem zo8 {F:List Fr→X→V × Int} {n:Nat} {q:Qy} {frs:List Fr} {tb:List Tb} {e:X} {t:Tb} (hfd:zbC tb q.frm=some t) (hfo:FsOk (n+1) frs) (hto:TbOk tb) (hfg:FsG frs) (htg:TbG tb) (hi:Few q.items)
  (hF:∀ w,FsOk n w→FsG w→∀ x,(x∈q.items∨x∈q.wh)→Pure S.evaluate_Value [x.av,fsl w,tsl tb] (.tup [(F w x).1.av,iv (F w x).2])∧(F w x).1.Good) :
  zac E0 S.evaluate_selected [q.av,fsl frs,tsl tb,.fn S.evaluate_aggregate_c1 [.p 0 0,.p 1 0,.p 2 0,.p 3 0,.p 4 0]] (AH q tb e 0 [])
   (iv (selR (fun r=>zci (F (zat frs t r.vals)) q.wh) (fun r its=>rowI (F (zat frs t r.vals)) e.kind q.items its) t.rows 0 []).1)
   (AH q tb e (selR (fun r=>zci (F (zat frs t r.vals)) q.wh) (fun r its=>rowI (F (zat frs t r.vals)) e.kind q.items its) t.rows 0 []).2.1 (selR (fun r=>zci (F (zat frs t r.vals)) q.wh) (fun r its=>rowI (F (zat frs t r.vals)) e.kind q.items its) t.rows 0 []).2.2):=by
 have htm:=zdz hfd
 have hin:∀ r∈t.rows,FsOk n (zat frs t r.vals)∧FsG (zat frs t r.vals):=fun r hr=>⟨hfo.eins (hto.cols t htm) (htg.vals t htm r hr),hfg.ins (htg.vals t htm r hr)⟩
 have h:=zgj (fun r=>zci (F (zat frs t r.vals)) q.wh) (fun r its=>rowI (F (zat frs t r.vals)) e.kind q.items its) q frs tb e t 0 [] (zeK tb q.frm hto.len t hfd) hfo.short (hto.rows t htm) (by simp) (by simp)
  (fun r its=>by have:=zgQ (F (zat frs t r.vals)) e.kind q.items its;simp only [Few] at hi;omega)
  (fun r hr=>zmP (fun x hx=>(hF _ (hin r hr).1 (hin r hr).2 x (.inr hx)).1) (fun x hx=>(hF _ (hin r hr).1 (hin r hr).2 x (.inr hx)).2))
  (fun r hr n its hn hl=>by
   have h:=zfN (F (zat frs t r.vals)) q (zat frs t r.vals) tb e n its r hi hl (by rw [IntKind.wrap_i64];omega) (fun x hx=>(hF _ (hin r hr).1 (hin r hr).2 x (.inl hx)).1)
   simp only [aggC,zn1] at h
   exact h)
 simp only [zjO,znN] at h
 exact h
theorem zm9 {F:List Fr→X→V × Int} {n:Nat} {e:X} {frs:List Fr} {tb:List Tb} (he:XOk (n+1) e) (hs:∃ q,e.sub=[q]) (hfo:FsOk (n+1) frs) (hto:TbOk tb) (hfg:FsG frs) (htg:TbG tb)
  (hF:∀ w,FsOk n w→FsG w→∀ x,XOk n x→Pure S.evaluate_Value [x.av,fsl w,tsl tb] (.tup [(F w x).1.av,iv (F w x).2])∧(F w x).1.Good):Pure S.evaluate_aggregate [e.av,fsl frs,tsl tb] (.tup [(zg4 F e frs tb).1.av,iv (zg4 F e frs tb).2]):=by
 obtain ⟨q,hq⟩:=hs
 obtain ⟨_,_,_,h4⟩:=he
 obtain ⟨h5,h6,h7⟩:=h4 q (by rw [hq];simp)
 have hq0:e.sub[0]?=some q:=by rw [hq];rfl
 unfold zg4
 rw [hq]
 simp only
 cases hfd:zbC tb q.frm with
 | none=>exact c_agg (3,0,[]) e q frs tb hq0 (by simp) (zgd q frs tb e 0 [] (zeF tb q.frm hto.len hfd))
 | some t =>
  have htm:=zdz hfd
  refine c_agg _ e q frs tb hq0 ?_ (zo8 hfd hfo hto hfg htg h5.1.few fun w hw hg x hx=>hF w hw hg x (hx.elim (h6 x) (h7 x)))
  have hl:=zjc (fun r=>zci (F (zat frs t r.vals)) q.wh) (fun r its=>rowI (F (zat frs t r.vals)) e.kind q.items its) 1000 (fun r its=>by have:=zgQ (F (zat frs t r.vals)) e.kind q.items its;simp only [Thin] at h5;omega) t.rows 0 []
  have hr:=hto.rows t htm
  simp only [zad]
  simp only [List.length_nil] at hl
  have:1000 * t.rows.length≤1000 * 1000:=Nat.mul_le_mul_left _ hr
  omega
theorem zd4:∀ (n:Nat) (e:X) (frs:List Fr) (tb:List Tb),XOk n e→FsOk n frs→FsG frs→TbOk tb→TbG tb→Pure S.evaluate_Value [e.av,fsl frs,tsl tb] (.tup [(eval n e frs tb).1.av,iv (eval n e frs tb).2])
 | 0,e,frs,tb,h,_,_,_,_=>h.elim
 | n+1,e,frs,tb,h,hf,hg,ht,htg=>by
  have hA:=@zm9 (fun w x=>eval n x w tb) n e frs tb h
  obtain ⟨_,h2,h3,_⟩:=id h
  exact zhs (fun x=>eval n x frs tb) (eOp e) (zg4 (fun w x=>eval n x w tb) e frs tb) e frs tb (n+1) hf h2.1.few (fun x hx=>zd4 n x frs tb (h3 x hx) hf.less hg ht htg) (fun x hx=>zdF n x frs tb (h3 x hx) hg htg)
   (fun ho l hl hl2=>znE e ho l hl hl2)
   (fun hfm h8 h12=>hA (zjP hfm h8 h12) hf ht hg htg fun w hw hwg x hx=>⟨zd4 n x w tb hx hw hwg ht htg,zdF n x w tb hx hwg htg⟩)
end Go.AM
namespace Go.AM
set_option maxRecDepth 100000
set_option maxHeartbeats 1000000
set_option linter.unusedSimpArgs false
set_option linter.unusedVariables false
theorem zfr {p:Prop} (h:p:=by first|assumption|omega|(simp;done)|(simp;omega)):p:=h
noncomputable def clCV (l:List V):Cfg:=(upto (mk E0) (List.range 40) 0 3000 ⟨B.slices_Clone_Value.ntmps,[.code (B.slices_Clone_Value.body.getD .skip)],zbF 0 [vsl l],[]⟩ []).2
theorem zq2 (l:List V) (hl:zad l):Good E0 B.slices_Clone_Value [] (zc6 (clCV l) false) (fun r h=>r=.own 0 l.length∧h=[.row Ty.Value (l.map V.cells) false]):=by
 exact zgq E0ok mix0 3000 (y:=AV.own 0 (List.map V.cells l).length) (H:=[Blk.row Ty.Value (List.map V.cells l) false]) [sb (rfl:false=false),sqx (AllLen (List.map V.cells l) 3∧((List.map V.cells l).length * 32).le 140737488355328)] kr (⟨by simp,rfl⟩)
theorem zqV:Good E0 B.slices_Clone_Value [] (zc6 (clCV []) true) (fun r h=>r=.nl∧h=[]):=by
 exact zgq E0ok mix0 3000 (y:=AV.nl) (H:=[]) [sb (rfl:true=true)] kr (⟨rfl,rfl⟩)
theorem zcs (l:List V) (hl:zad l):zac E0 S.slices_Clone_Value [vsl l] [] (.own 0 l.length) [.row Ty.Value (l.map V.cells) false]:=by
 refine zbm At.slices_Clone_Value rfl kr (Nat.le_of_ble_eq_true kr) (zdk E0ok mix0 3000 [] (List.range 40) 0 (c':=clCV l) kr kr (zje E0ok (xs:=l.map V.cells) (e:=true) kr fun b hb=>?_))
 cases b with
 | false=>exact zq2 l hl
 | true =>
  cases l with
  | nil=>exact zga Ty.Value zqV ⟨rfl,rfl⟩
  | cons x r=>exact absurd (hb (by simp)) (by simp)
abbrev vrow (v:List V):List AV:=[vsl v]
abbrev RH (q:Qy) (tb:List Tb) (out:List (List V)):Heap:=[.box q.cells,.box [.own 2 out.length],.row Ty.LValue (out.map vrow) false,.box [tsl tb]]
noncomputable def zgp (f:X→V × Int) (q:Qy) (w:List Fr) (tb:List Tb) (out:List (List V)) (i:Nat) (row:List V):Cfg:=zaw B.evaluate_Rows_c1 0 [(1,fsl w),(3,.p 1 0),(4,.p 3 0),(8,.own 4 row.length),(22,xsl q.items),(23,iv ((zab q.items).length:Nat)),(24,iv (i:Nat))] (RH q tb out++[.row Ty.Value (row.map V.cells) false])
def rowL (f:X→V × Int) (q:Qy) (w:List Fr) (tb:List Tb) (out:List (List V)):List (X)→Nat→(List V)→Int × (List (List V))
 | [],i,row =>
  (0,out++[row])
 | x::r,i,row =>
  bif (f x).snd != 0 then
   ((f x).snd,out)
  else
   rowL f q w tb out r (i+1) (row++[(f x).fst])
theorem znu (f:X→V × Int) (q:Qy) (w:List Fr) (tb:List Tb) (out:List (List V)) (hl:q.items.length≤1000) (hout:out.length≤2000000) (hf:∀ x∈q.items,Pure S.evaluate_Value [x.av,fsl w,tsl tb] (.tup [(f x).1.av,iv (f x).2])):∀ (kk i:Nat) (row:List V),i+kk=(q.items).length→(row.length≤i)→Good E0 B.evaluate_Rows_c1 (RH q tb out) (zgp f q w tb out i row) (Shut 4 fun r h=>r=(iv (rowL f q w tb out ((q.items).drop i) i row).1)∧h=(RH q tb (rowL f q w tb out ((q.items).drop i) i row).2)):=by
 intro kk
 induction kk with
 | zero =>
  intro i row hi ho
  have h0:decide (((i:Nat):Int) < (((zab q.items).length:Nat):Int))=false:=by simp;omega
  have e0:(q.items).drop i=[]:=List.drop_of_length_le (by omega)
  rw [e0]
  simp only [rowL]
  refine zaa ?_
  exact wkrS (y:=iv 0) (H:=[Blk.box [bv q.star,AV.sl (zab q.items),sv q.frm,AV.sl (zab q.wh)],Blk.box [AV.own 2 (List.map vrow out++[[AV.sl (List.map V.cells row)]]).length],Blk.row Ty.LValue (List.map vrow out++[[AV.sl (List.map V.cells row)]]) false,Blk.box [AV.sl (List.map Tb.cells tb)]]) [sb h0,sqx (row.length=(List.map V.cells row).length∧True),sqx (AllLen [[AV.sl (List.map V.cells row)]] 1∧out.length=(List.map vrow out).length∧(((List.map vrow out).length+[[AV.sl (List.map V.cells row)]].length) * 24).le 140737488355328)] kr ⟨by first|rfl|(simp;done)|(simp [X.cells,Qy.cells,V.cells,Col.cells,Rw.cells,Tb.cells,Fr.cells,Sch.cells,Tp.cells,Pl.cells,xCol,xLit,xBin,xNeg];done),by first|rfl|(simp;done)|(simp [X.cells,Qy.cells,V.cells,Col.cells,Rw.cells,Tb.cells,Fr.cells,Sch.cells,Tp.cells,Pl.cells,xCol,xLit,xBin,xNeg];done)⟩
 | succ kk ih =>
  intro i row hi ho
  obtain ⟨x,hx⟩:=zaC (l:=q.items) (i:=i) (by omega)
  have h0:decide (((i:Nat):Int) < (((zab q.items).length:Nat):Int))=true:=by simp;omega
  have hw:=zao i (by first|omega|(simp only [zad,Few] at *;omega))
  have hfx:=hf x (List.mem_of_getElem? hx);have hrl:row.length≤1000:=by have:=zeu hx;omega
  rw [za6 hx]
  simp only [rowL]
  refine zaa ?_
  cases h1:(f x).snd != 0
  ·exact wkl (c':=(Cfg.mk (zgp f q w tb out (i+1) (row++[(f x).fst])).n (zgp f q w tb out (i+1) (row++[(f x).fst])).todo [(1,AV.sl (List.map Fr.cells w)),(3,AV.p 1 0),(4,AV.p 3 0),(8,AV.own 4 (List.map V.cells row++[[iv (f x).fst.kind,iv (f x).fst.int,sv (f x).fst.text]]).length),(22,AV.sl (zab q.items)),(23,iv (↑(zab q.items).length:Int)),(24,iv (↑(i+1):Int))] [Blk.box [bv q.star,AV.sl (zab q.items),sv q.frm,AV.sl (zab q.wh)],Blk.box [AV.own 2 out.length],Blk.row Ty.LValue (List.map vrow out) false,Blk.box [AV.sl (List.map Tb.cells tb)],Blk.row Ty.Value (List.map V.cells row++[[iv (f x).fst.kind,iv (f x).fst.int,sv (f x).fst.text]]) false])) [sb h0,se (za9 hx),sc hfx,sb h1,sqx (AllLen [[iv (f x).fst.kind,iv (f x).fst.int,sv (f x).fst.text]] 3∧row.length=(List.map V.cells row).length∧(((List.map V.cells row).length+[[iv (f x).fst.kind,iv (f x).fst.int,sv (f x).fst.text]].length) * 32).le 140737488355328),si hw] [1,3,4,8,22,23,24] 5 kr (zav (show ([(1,AV.sl (List.map Fr.cells w)),(3,AV.p 1 0),(4,AV.p 3 0),(8,AV.own 4 (List.map V.cells row++[[iv (f x).fst.kind,iv (f x).fst.int,sv (f x).fst.text]]).length),(22,AV.sl (zab q.items)),(23,iv (↑(zab q.items).length:Int)),(24,iv (↑(i+1):Int))]:TS)=[(1,AV.sl (List.map Fr.cells w)),(3,AV.p 1 0),(4,AV.p 3 0),(8,AV.own 4 (row++[(f x).fst]).length),(22,AV.sl (zab q.items)),(23,iv (↑(zab q.items).length:Int)),(24,iv (↑(i+1):Int))] by first|rfl|(simp;done)|(simp [X.cells,Qy.cells,V.cells,Col.cells,Rw.cells,Tb.cells,Fr.cells,Sch.cells,Tp.cells,Pl.cells,xCol,xLit,xBin,xNeg];done)) (show ([Blk.box [bv q.star,AV.sl (zab q.items),sv q.frm,AV.sl (zab q.wh)],Blk.box [AV.own 2 out.length],Blk.row Ty.LValue (List.map vrow out) false,Blk.box [AV.sl (List.map Tb.cells tb)],Blk.row Ty.Value (List.map V.cells row++[[iv (f x).fst.kind,iv (f x).fst.int,sv (f x).fst.text]]) false]:Heap)=[Blk.box [bv q.star,AV.sl (zab q.items),sv q.frm,AV.sl (zab q.wh)],Blk.box [AV.own 2 out.length],Blk.row Ty.LValue (List.map vrow out) false,Blk.box [AV.sl (List.map Tb.cells tb)],Blk.row Ty.Value (List.map V.cells (row++[(f x).fst])) false] by first|rfl|(simp;done)|(simp [X.cells,Qy.cells,V.cells,Col.cells,Rw.cells,Tb.cells,Fr.cells,Sch.cells,Tp.cells,Pl.cells,xCol,xLit,xBin,xNeg];done)) (ih (i+1) (row++[(f x).fst]) (by omega) (by first|assumption|(simp;done)|(simp;omega)|omega|(simp at *;omega))))
  ·exact wkr [sb h0,se (za9 hx),sc hfx,sb h1] kr
def rowC (f:X→V × Int) (q:Qy) (w:List Fr) (tb:List Tb) (rw:Rw) (out:List (List V)):Int × (List (List V)) :=
 bif q.star then
  (0,out++[rw.vals])
 else
  rowL f q w tb out q.items 0 ([])
theorem zh8 (f:X→V × Int) (q:Qy) (w:List Fr) (tb:List Tb) (rw:Rw) (out:List (List V)) (hl:q.items.length≤1000) (hv:zad rw.vals) (hout:out.length≤2000000) (hf:∀ x∈q.items,Pure S.evaluate_Value [x.av,fsl w,tsl tb] (.tup [(f x).1.av,iv (f x).2])):zac E0 S.evaluate_Rows_c1 [.agg (Rw.cells rw),fsl w,.p 0 0,.p 1 0,.p 3 0] (RH q tb out) (iv (rowC f q w tb rw out).1) (RH q tb (rowC f q w tb rw out).2):=by
 unfold rowC
 cases h1:q.star
 ·exact wkc At.evaluate_Rows_c1 (c':=(Cfg.mk (zgp f q w tb out 0 []).n (zgp f q w tb out 0 []).todo [(1,AV.sl (List.map Fr.cells w)),(3,AV.p 1 0),(4,AV.p 3 0),(8,AV.nl),(22,AV.sl (zab q.items)),(23,iv (↑(zab q.items).length:Int)),(24,iv 0)] [Blk.box [bv q.star,AV.sl (zab q.items),sv q.frm,AV.sl (zab q.wh)],Blk.box [AV.own 2 out.length],Blk.row Ty.LValue (List.map vrow out) false,Blk.box [AV.sl (List.map Tb.cells tb)]])) [sb h1] [1,3,4,8,22,23,24] 4 kr (zes (c':=zgp f q w tb out 0 []) 8 Ty.Value [1,3,4,8,22,23,24] 5 kr kr kr (znu f q w tb out hl hout hf q.items.length 0 ([]) (by simp) (by simp)))
 ·exact wkS At.evaluate_Rows_c1 (y:=iv 0) (H:=[Blk.box [bv q.star,AV.sl (zab q.items),sv q.frm,AV.sl (zab q.wh)],Blk.box [AV.own 2 (List.map vrow out++[[AV.sl (List.map V.cells rw.vals)]]).length],Blk.row Ty.LValue (List.map vrow out++[[AV.sl (List.map V.cells rw.vals)]]) false,Blk.box [AV.sl (List.map Tb.cells tb)]]) [sb h1,sd [(3,[sc (zcs rw.vals zfr)]),(4,[sqx (rw.vals.length=(List.map V.cells rw.vals).length∧True)]),(5,[sqx (AllLen [[AV.sl (List.map V.cells rw.vals)]] 1∧out.length=(List.map vrow out).length∧(((List.map vrow out).length+[[AV.sl (List.map V.cells rw.vals)]].length) * 24).le 140737488355328)])]] kr ⟨by first|rfl|(simp;done)|(simp [X.cells,Qy.cells,V.cells,Col.cells,Rw.cells,Tb.cells,Fr.cells,Sch.cells,Tp.cells,Pl.cells,xCol,xLit,xBin,xNeg];done),by first|rfl|(simp;done)|(simp [X.cells,Qy.cells,V.cells,Col.cells,Rw.cells,Tb.cells,Fr.cells,Sch.cells,Tp.cells,Pl.cells,xCol,xLit,xBin,xNeg];done)⟩
noncomputable def L_selB (tr:Rw→Bool × Int) (g:Rw→List (List V)→Int × List (List V)) (q:Qy) (frs:List Fr) (tb:List Tb) (t:Tb) (out0:List (List V)) (i:Nat) (out:List (List V)):Cfg:=zaw B.evaluate_selected 0 [(1,fsl frs),(2,tsl tb),(3,.fn S.evaluate_Rows_c1 [.p 0 0,.p 1 0,.p 3 0]),(4,.p 4 0),(9,.p 5 0),(26,.sl (t.rows.map Rw.cells)),(27,iv ((t.rows.map Rw.cells).length:Nat)),(28,iv (i:Nat))] (RH q tb out++[.box q.cells,.box t.cells])
def selB (tr:Rw→Bool × Int) (g:Rw→List (List V)→Int × List (List V)) (q:Qy) (frs:List Fr) (tb:List Tb) (t:Tb) (out0:List (List V)):List (Rw)→Nat→(List (List V))→Int × (List (List V))
 | [],i,out =>
  (0,out)
 | x::r,i,out =>
  bif (tr x).snd==0 then
   bif (tr x).fst then
    bif (g x out).fst != 0 then
     ((g x out).fst,(g x out).snd)
    else
     selB tr g q frs tb t out0 r (i+1) ((g x out).snd)
   else
    bif (tr x).snd != 0 then
     ((tr x).snd,out)
    else
     selB tr g q frs tb t out0 r (i+1) (out)
  else
   bif (tr x).snd != 0 then
    ((tr x).snd,out)
   else
    selB tr g q frs tb t out0 r (i+1) (out)
theorem znl (tr:Rw→Bool × Int) (g:Rw→List (List V)→Int × List (List V)) (q:Qy) (frs:List Fr) (tb:List Tb) (t:Tb) (out0:List (List V)) (hfr:zad frs) (hrows:t.rows.length≤1000) (hi0:out0.length≤1000) (hgl:∀ (r:Rw) (out:List (List V)),(g r out).2.length≤out.length+1) (hT:∀ r∈t.rows,Pure S.evaluate_True [xsl q.wh,fsl (zat frs t r.vals),tsl tb] (.tup [bv (tr r).1,iv (tr r).2])) (hC:∀ r∈t.rows,∀ (out:List (List V)),out.length≤2000000→zac E0 S.evaluate_Rows_c1 [.agg (Rw.cells r),fsl (zat frs t r.vals),.p 0 0,.p 1 0,.p 3 0] (RH q tb out) (iv (g r out).1) (RH q tb (g r out).2)):∀ (kk i:Nat) (out:List (List V)),i+kk=(t.rows).length→(out.length≤out0.length+i)→Good E0 B.evaluate_selected (RH q tb out0) (L_selB tr g q frs tb t out0 i out) (Shut 4 fun r h=>r=(iv (selB tr g q frs tb t out0 ((t.rows).drop i) i out).1)∧h=(RH q tb (selB tr g q frs tb t out0 ((t.rows).drop i) i out).2)):=by
 intro kk
 induction kk with
 | zero =>
  intro i out hi hi2
  have h0:decide (((i:Nat):Int) < (((t.rows.map Rw.cells).length:Nat):Int))=false:=by simp;omega
  have e0:(t.rows).drop i=[]:=List.drop_of_length_le (by omega)
  rw [e0]
  simp only [selB]
  refine zaa ?_
  exact wkr [sb h0] kr
 | succ kk ih =>
  intro i out hi hi2
  obtain ⟨x,hx⟩:=zaC (l:=t.rows) (i:=i) (by omega)
  have h0:decide (((i:Nat):Int) < (((t.rows.map Rw.cells).length:Nat):Int))=true:=by simp;omega
  have hw:=zao i (by first|omega|(simp only [zad,Few] at *;omega))
  have hTx:=hT x (List.mem_of_getElem? hx);have hCx:=hC x (List.mem_of_getElem? hx) out (by omega)
  rw [za6 hx]
  simp only [selB]
  refine zaa ?_
  cases h1:(tr x).snd==0
  ·cases h2:(tr x).snd != 0
   ·exact wkl [sb h0,se (zah Rw.cells hx rfl),sc (zaR frs t x.vals zfr),sc hTx,sb h1,sb h2,si hw] [1,2,3,4,9,26,27,28] 6 kr (ih (i+1) out (by omega) (by first|omega|(have:=hgl x out;omega)))
   ·exact wkr [sb h0,se (zah Rw.cells hx rfl),sc (zaR frs t x.vals zfr),sc hTx,sb h1,sb h2] kr
  ·cases h3:(tr x).fst
   ·cases h4:(tr x).snd != 0
    ·exact wkl [sb h0,se (zah Rw.cells hx rfl),sc (zaR frs t x.vals zfr),sc hTx,sg h1,sb h3,sb h4,si hw] [1,2,3,4,9,26,27,28] 6 kr (ih (i+1) out (by omega) (by first|omega|(have:=hgl x out;omega)))
    ·exact wkr [sb h0,se (zah Rw.cells hx rfl),sc (zaR frs t x.vals zfr),sc hTx,sg h1,sb h3,sb h4] kr
   ·cases h5:(g x out).fst != 0
    ·exact wkl [sb h0,se (zah Rw.cells hx rfl),sc (zaR frs t x.vals zfr),sc hTx,sg h1,sb h3,sl [0,1,2,3] hCx,sb h5,si hw] [1,2,3,4,9,26,27,28] 6 kr (ih (i+1) ((g x out).snd) (by omega) (by first|omega|(have:=hgl x out;omega)))
    ·exact wkr [sb h0,se (zah Rw.cells hx rfl),sc (zaR frs t x.vals zfr),sc hTx,sg h1,sb h3,sl [0,1,2,3] hCx,sb h5] kr
def zly (tr:Rw→Bool × Int) (g:Rw→List (List V)→Int × List (List V)) (q:Qy) (frs:List Fr) (tb:List Tb) (t:Tb) (out0:List (List V)):Int × (List (List V)) :=
 selB tr g q frs tb t out0 t.rows 0 (out0)
theorem zfQ (tr:Rw→Bool × Int) (g:Rw→List (List V)→Int × List (List V)) (q:Qy) (frs:List Fr) (tb:List Tb) (t:Tb) (out0:List (List V)) (hfind:Pure S.evaluate_find [tsl tb,sv q.frm] (.tup [t.av,bv true])) (hfr:zad frs) (hrows:t.rows.length≤1000) (hi0:out0.length≤1000) (hgl:∀ (r:Rw) (out:List (List V)),(g r out).2.length≤out.length+1) (hT:∀ r∈t.rows,Pure S.evaluate_True [xsl q.wh,fsl (zat frs t r.vals),tsl tb] (.tup [bv (tr r).1,iv (tr r).2])) (hC:∀ r∈t.rows,∀ (out:List (List V)),out.length≤2000000→zac E0 S.evaluate_Rows_c1 [.agg (Rw.cells r),fsl (zat frs t r.vals),.p 0 0,.p 1 0,.p 3 0] (RH q tb out) (iv (g r out).1) (RH q tb (g r out).2)):zac E0 S.evaluate_selected [q.av,fsl frs,tsl tb,.fn S.evaluate_Rows_c1 [.p 0 0,.p 1 0,.p 3 0]] (RH q tb out0) (iv (zly tr g q frs tb t out0).1) (RH q tb (zly tr g q frs tb t out0).2):=by
 unfold zly
 exact wkc At.evaluate_selected [sc hfind,sb (rfl:false=false)] [1,2,3,4,9,26,27,28] 6 kr (znl tr g q frs tb t out0 hfr hrows hi0 hgl hT hC t.rows.length 0 out0 (by simp) (by simp))
def zpL (q:Qy) (frs:List Fr) (tb:List Tb) (out0:List (List V)):Int × (List (List V)) :=
 (3,out0)
theorem zfR (q:Qy) (frs:List Fr) (tb:List Tb) (out0:List (List V)) (hfind:Pure S.evaluate_find [tsl tb,sv q.frm] (.tup [Tb.zero.av,bv false])):zac E0 S.evaluate_selected [q.av,fsl frs,tsl tb,.fn S.evaluate_Rows_c1 [.p 0 0,.p 1 0,.p 3 0]] (RH q tb out0) (iv (zpL q frs tb out0).1) (RH q tb (zpL q frs tb out0).2):=by
 exact wk At.evaluate_selected [sc hfind,sb (rfl:true=true)] kr
noncomputable def zeg (q:Qy) (frs:List Fr) (tb:List Tb):Cfg:=(upto (mk E0) (List.range 100) 3 3000 ⟨B.evaluate_Rows.ntmps,[.code (B.evaluate_Rows.body.getD .skip)],zbF 0 [q.av,fsl frs,tsl tb],[]⟩ []).2
noncomputable def zrx (q:Qy) (frs:List Fr) (tb:List Tb):Cfg:=cut (List.range 100) 4 ⟨(zeg q frs tb).n,(zeg q frs tb).todo,(zeg q frs tb).ts,((zeg q frs tb).h++[Blk.row Ty.LValue [] false]).set 2 (.box (([AV.nl]:List AV).set 0 (.own (zeg q frs tb).h.length 0)))⟩
theorem zrc {q:Qy} {frs:List Fr} {tb:List Tb} {R:AV→Heap→Prop} (hg:Good E0 B.evaluate_Rows [] (zrx q frs tb) (Shut 0 R)):zbI E0 S.evaluate_Rows [q.av,fsl frs,tsl tb] [] R :=
 wkc (c':=zeg q frs tb) At.evaluate_Rows [] (List.range 100) 3 kr
  (zea (cs:=[AV.nl]) 2 0 Ty.LValue (List.range 100) 4 kr kr kr rfl hg)
def ziq (sel:Int × List (List V)):List (List V) × Int:=bif sel.1 != 0 then ([],sel.1) else (sel.2,0)
theorem zp1 (sel:Int × List (List V)) (q:Qy) (frs:List Fr) (tb:List Tb) (hsel:zac E0 S.evaluate_selected [q.av,fsl frs,tsl tb,.fn S.evaluate_Rows_c1 [.p 0 0,.p 1 0,.p 3 0]] (RH q tb []) (iv sel.1) (RH q tb sel.2)):zac E0 S.evaluate_Rows [q.av,fsl frs,tsl tb] [] (.tup [.sl ((ziq sel).1.map vrow),iv (ziq sel).2]) []:=by
 refine zrc ?_
 unfold ziq
 cases h1:sel.fst != 0
 ·exact wkr [sqx (sel.2.length=(List.map vrow sel.snd).length∧True∧True),sl [0,2,3,1] hsel,sb h1] kr
 ·exact wkr [sl [0,2,3,1] hsel,sb h1] kr
end Go.AM
namespace Go.AM
set_option maxRecDepth 100000
set_option maxHeartbeats 1000000
set_option linter.unusedSimpArgs false
set_option linter.unusedVariables false
def zdi (f:X→V × Int):List X→Int × List V
 | []=>(0,[])
 | x::r=>bif (f x).2 != 0 then ((f x).2,[]) else bif (zdi f r).1 != 0 then ((zdi f r).1,[]) else (0,(f x).1::(zdi f r).2)
theorem zn2 (f:X→V × Int) (q:Qy) (w:List Fr) (tb:List Tb) (out:List (List V)):∀ (l:List X) (i:Nat) (row:List V),rowL f q w tb out l i row=bif (zdi f l).1 != 0 then ((zdi f l).1,out) else (0,out++[row++(zdi f l).2])
 | [],i,row=>by simp [rowL,zdi]
 | x::r,i,row=>by
  simp only [rowL,zdi,zn2 f q w tb out r]
  cases h:(f x).2 != 0
  ·cases h2:(zdi f r).1 != 0
   ·simp
   ·simp [h2]
  ·simp only [cond_true,h]
def rowV (f:X→V × Int) (q:Qy) (r:Rw):Int × List V:=bif q.star then (0,r.vals) else zdi f q.items
theorem zrQ (f:X→V × Int) (q:Qy) (w:List Fr) (tb:List Tb) (r:Rw) (out:List (List V)):rowC f q w tb r out=bif (rowV f q r).1 != 0 then ((rowV f q r).1,out) else (0,out++[(rowV f q r).2]):=by
 unfold rowC rowV
 cases q.star
 ·simp only [cond_false,zn2,List.nil_append]
 ·rfl
def zc4 (tr:Rw→Bool × Int) (rv:Rw→Int × List V):List Rw→List (List V)→Int × List (List V)
 | [],out=>(0,out)
 | r::l,out=>bif (tr r).2 != 0 then ((tr r).2,out) else bif (tr r).1 then (bif (rv r).1 != 0 then ((rv r).1,out) else zc4 tr rv l (out++[(rv r).2])) else zc4 tr rv l out
theorem znP (tr:Rw→Bool × Int) (rv:Rw→Int × List V) (q:Qy) (frs:List Fr) (tb:List Tb) (t:Tb) (out0:List (List V)):∀ (l:List Rw) (i:Nat) (out:List (List V)),selB tr (fun r out=>bif (rv r).1 != 0 then ((rv r).1,out) else (0,out++[(rv r).2])) q frs tb t out0 l i out=zc4 tr rv l out
 | [],_,_=>rfl
 | r::l,i,out=>by
  have ih:=znP tr rv q frs tb t out0 l
  simp only [selB,zc4,ih]
  have h0:((0:Int)==0)=true:=rfl
  cases h1:(tr r).2==0 <;> cases h2:(tr r).1 <;> cases h3:(rv r).1==0 <;> simp only [bne,h0,h1,h2,h3,Bool.not_true,Bool.not_false,cond_true,cond_false]
def zd9 (n:Nat) (q:Qy) (frs:List Fr) (tb:List Tb):List (List V) × Int:=match zbC tb q.frm with
 | none=>([],3)
 | some t=>ziq (zc4 (fun r=>zci (fun x=>eval n x (zat frs t r.vals) tb) q.wh) (fun r=>rowV (fun x=>eval n x (zat frs t r.vals) tb) q r) t.rows [])
structure QOk (n:Nat) (q:Qy):Prop where
 few:Few q.items
 items:∀ x∈q.items,XOk n x
 wh:∀ x∈q.wh,XOk n x
theorem zo3 {n:Nat} {q:Qy} {frs:List Fr} {tb:List Tb} (hq:QOk n q) (hfo:FsOk (n+1) frs) (hto:TbOk tb) (hfg:FsG frs) (htg:TbG tb) (hv:∀ x∈tb,∀ r∈x.rows,zad r.vals) :
  Pure S.evaluate_Rows [q.av,fsl frs,tsl tb] (.tup [.sl ((zd9 n q frs tb).1.map vrow),iv (zd9 n q frs tb).2]):=by
 unfold zd9
 cases hfd:zbC tb q.frm with
 | none=>exact zp1 (3,[]) q frs tb (zfR q frs tb [] (zeF tb q.frm hto.len hfd))
 | some t =>
  have htm:=zdz hfd
  have hin:∀ r∈t.rows,FsOk n (zat frs t r.vals)∧FsG (zat frs t r.vals):=fun r hr=>⟨hfo.eins (hto.cols t htm) (htg.vals t htm r hr),hfg.ins (htg.vals t htm r hr)⟩
  have h:=zfQ (fun r=>zci (fun x=>eval n x (zat frs t r.vals) tb) q.wh) (fun r out=>bif (rowV (fun x=>eval n x (zat frs t r.vals) tb) q r).1 != 0 then ((rowV (fun x=>eval n x (zat frs t r.vals) tb) q r).1,out) else (0,out++[(rowV (fun x=>eval n x (zat frs t r.vals) tb) q r).2])) q frs tb t [] (zeK tb q.frm hto.len t hfd) hfo.short (hto.rows t htm) (by simp)
   (fun r out=>by cases (rowV (fun x=>eval n x (zat frs t r.vals) tb) q r).1 != 0 <;> simp)
   (fun r hr=>zmP (fun x hx=>zd4 n x _ tb (hq.wh x hx) (hin r hr).1 (hin r hr).2 hto htg) (fun x hx=>zdF n x _ tb (hq.wh x hx) (hin r hr).2 htg))
   (fun r hr out hl=>by
    have h:=zh8 (fun x=>eval n x (zat frs t r.vals) tb) q (zat frs t r.vals) tb r out hq.few (hv t htm r hr) hl (fun x hx=>zd4 n x _ tb (hq.items x hx) (hin r hr).1 (hin r hr).2 hto htg)
    rw [zrQ] at h
    exact h)
  simp only [zly,znP] at h
  exact zp1 _ q frs tb h
end Go.AM
namespace Go.AM
set_option maxRecDepth 100000
set_option maxHeartbeats 1000000
set_option linter.unusedSimpArgs false
set_option linter.unusedVariables false
noncomputable def zoG (fn:Func) (args:List AV) (h:Heap) (m:Nat):Cfg:=(upto (mk E0) (List.range 40) m 3000 ⟨fn.ntmps,[.code (fn.body.getD .skip)],zbF 0 args,h⟩ []).2
structure Lk where
 fst:Str
 snd:Str
def Lk.cells (l:Lk):List AV:=[sv l.fst,sv l.snd]
abbrev Lk.av (l:Lk):AV:=.agg l.cells
@[simp] theorem Lk.cells_length (x:Lk):x.cells.length=2:=rfl
structure Im where
 trig:Str
 row:Int
 old:List V
 new:List V
def Im.cells (x:Im):List AV:=[sv x.trig,iv x.row,vsl x.old,vsl x.new]
abbrev Im.av (x:Im):AV:=.agg x.cells
@[simp] theorem Im.cells_length (x:Im):x.cells.length=4:=rfl
abbrev zan (n:Int):List AV:=[iv n]
abbrev Room (l:List Int):Prop:=l.length≤17592186044416
theorem zos (l:List Col) (hl:zad l):Good E0 B.slices_Clone_Column [] (zc6 (zoG B.slices_Clone_Column [.sl (l.map Col.cells)] [] 0) false) (fun r h=>r=.own 0 l.length∧h=[.row Ty.Column (l.map Col.cells) false]) :=
 zgq E0ok mix0 3000 (y:=AV.own 0 (List.map Col.cells l).length) (H:=[Blk.row Ty.Column (List.map Col.cells l) false]) [sb (rfl:false=false),sqx (AllLen (List.map Col.cells l) 4∧((List.map Col.cells l).length * 32).le 140737488355328)] kr (⟨by simp,rfl⟩)
theorem zoj:Good E0 B.slices_Clone_Column [] (zc6 (zoG B.slices_Clone_Column [.sl []] [] 0) true) (fun r h=>r=.nl∧h=[]) :=
 zgq E0ok mix0 3000 (y:=AV.nl) (H:=[]) [sb (rfl:true=true)] kr (⟨rfl,rfl⟩)
theorem zgF (l:List Col) (hl:zad l):zac E0 S.slices_Clone_Column [.sl (l.map Col.cells)] [] (.own 0 l.length) [.row Ty.Column (l.map Col.cells) false]:=by
 refine zbm At.slices_Clone_Column rfl kr (Nat.le_of_ble_eq_true kr) (zdk E0ok mix0 3000 [] (List.range 40) 0 (c':=zoG B.slices_Clone_Column [.sl (l.map Col.cells)] [] 0) kr kr (zje E0ok (xs:=l.map Col.cells) (e:=true) kr fun b hb=>?_))
 cases b with
 | false=>exact zos l hl
 | true =>
  cases l with
  | nil=>exact zga Ty.Column zoj ⟨rfl,rfl⟩
  | cons x r=>exact absurd (hb (by simp)) (by simp)
def lkIx (l:List Lk) (v:Lk):List (Lk)→Nat→Int
 | [],i =>
  -1
 | x::r,i =>
  bif v.fst==x.fst&&(v.snd==x.snd&&true) then
   (i:Int)
  else
   lkIx l v r (i+1)
def zrl (l:List Lk) (v:Lk):Int :=
 lkIx l v l (0)
def lkHas (l:List Lk) (v:Lk):Bool :=
 decide ((0:Int)≤zrl l v)
def oPrec (l:List Lk) (a b:Str):Bool :=
 lkHas l (Lk.mk a b)
end Go.AM
namespace Go.AM
set_option maxRecDepth 100000
set_option maxHeartbeats 1000000
set_option linter.unusedSimpArgs false
set_option linter.unusedVariables false
def blk (its:List Im) (l:List Lk) (i k:Nat):Bool:=k != i&&match its[k]?,its[i]? with
 | some y,some x=>oPrec l y.trig x.trig
 | _,_=>false
end Go.AM
namespace Go.AM
set_option maxRecDepth 100000
set_option maxHeartbeats 1000000
set_option linter.unusedSimpArgs false
set_option linter.unusedVariables false
def zh5:Se:=⟨⟨#[]⟩,.mk 0 0 false ⟨0,0,⟨#[]⟩⟩ ⟨#[]⟩ ⟨#[]⟩ [] []⟩
def Ac.set0 (a:Ac):Se:=a.sets.headD zh5
theorem zkt {α:Type} (p:α→Bool):∀ (l:List α) (i:Nat),idxF p l i < ((i+l.length:Nat):Int)∨idxF p l i=-1
 | [],i=>.inr rfl
 | x::r,i=>by
  simp only [idxF]
  cases p x
  ·rcases zkt p r (i+1) with h|h
   ·exact .inl (by simp only [List.length_cons];simpa [Nat.add_assoc,Nat.add_comm 1] using h)
   ·exact .inr h
  ·exact .inl (by simp only [List.length_cons,cond_true];omega)
structure NwOk (nw:List V):Prop where
 len:nw.length≤1000
 good:∀ v∈nw,v.Good
theorem NwOk.short {nw:List V} (h:NwOk nw):zad nw:=by have:=h.len;simp only [zad];omega
structure TrOk (n:Nat) (t:Tg):Prop where
 acts:zad t.acts
 sets:∀ a∈t.acts,XOk n a.set0.ex
 when_:∀ x∈t.when_,XOk n x
end Go.AM
namespace Go.AM
set_option maxRecDepth 100000
set_option maxHeartbeats 1000000
set_option linter.unusedSimpArgs false
set_option linter.unusedVariables false
abbrev zbD (s:Str):List AV:=[sv s]
@[simp] theorem cellsQ_app (a b:List Qy):zaf (a++b)=zaf a++zaf b:=by simp [zdd]
def XSh:Nat→X→Prop
 | 0,_=>False
 | n+1,e=>(zad e.args∧zad e.sub)∧(∀ x∈e.args,XSh n x)∧∀ q∈e.sub,(zad q.items∧zad q.wh)∧(∀ x∈q.items,XSh n x)∧∀ x∈q.wh,XSh n x
theorem XOk.sh:∀ {n:Nat} {e:X},XOk n e→XSh n e
 | 0,_,h=>h.elim
 | _+1,_,⟨_,h2,h3,h4⟩=>⟨⟨h2.1.short,h2.2.short⟩,fun x hx=>(h3 x hx).sh,fun q hq=>⟨⟨(h4 q hq).1.1.short,(h4 q hq).1.2.short⟩,fun x hx=>((h4 q hq).2.1 x hx).sh,fun x hx=>((h4 q hq).2.2 x hx).sh⟩⟩
structure QW (n:Nat) (q:Qy):Prop where
 items:Few q.items
 wh:Few q.wh
 hi:∀ x∈q.items,XOk n x
 hw:∀ x∈q.wh,XOk n x
structure QSh (n:Nat) (q:Qy):Prop where
 items:zad q.items
 wh:zad q.wh
 hi:∀ x∈q.items,XSh n x
 hw:∀ x∈q.wh,XSh n x
theorem QW.sh {n:Nat} {q:Qy} (h:QW n q):QSh n q:=⟨zaH h.items,zaH h.wh,fun x hx=>(h.hi x hx).sh,fun x hx=>(h.hw x hx).sh⟩
end Go.AM
namespace Go.AM
set_option maxRecDepth 100000
set_option maxHeartbeats 1000000
set_option linter.unusedSimpArgs false
set_option linter.unusedVariables false
abbrev zaK (r:List X):List AV:=[.sl (zab r)]
structure AcOk (n:Nat) (a:Ac):Prop where
 rows:Few a.rows
 row:∀ r∈a.rows,Few r∧∀ x∈r,XOk n x
 query:Few a.query
 qs:∀ q∈a.query,QW n q
 sets:Few a.sets
 set:∀ s∈a.sets,XOk n s.ex
 wh:Few a.wh
 w:∀ x∈a.wh,XOk n x
structure AcSh (n:Nat) (a:Ac):Prop where
 rows:zad a.rows
 row:∀ r∈a.rows,zad r∧∀ x∈r,XSh n x
 query:zad a.query
 qs:∀ q∈a.query,QSh n q
 sets:zad a.sets
 set:∀ s∈a.sets,XSh n s.ex
 wh:zad a.wh
 w:∀ x∈a.wh,XSh n x
theorem AcOk.sh {n:Nat} {a:Ac} (h:AcOk n a):AcSh n a :=
 ⟨zaH h.rows,fun r hr=>⟨zaH (h.row r hr).1,fun x hx=>((h.row r hr).2 x hx).sh⟩,zaH h.query,fun q hq=>(h.qs q hq).sh,zaH h.sets,fun s hs=>(h.set s hs).sh,zaH h.wh,fun x hx=>(h.w x hx).sh⟩
structure TgOk (n:Nat) (t:Tg):Prop where
 of:Few t.of
 prec:Few t.prec
 foll:Few t.foll
 rank:Few t.rank
 whens:Few t.when_
 when_:∀ x∈t.when_,XOk n x
 acts:Few t.acts
 act:∀ a∈t.acts,AcOk n a
structure TgSh (n:Nat) (t:Tg):Prop where
 of:zad t.of
 prec:zad t.prec
 foll:zad t.foll
 rank:zad t.rank
 whens:zad t.when_
 when_:∀ x∈t.when_,XSh n x
 acts:zad t.acts
 act:∀ a∈t.acts,AcSh n a
theorem TgOk.sh {n:Nat} {t:Tg} (h:TgOk n t):TgSh n t :=
 ⟨zaH h.of,zaH h.prec,zaH h.foll,zaH h.rank,zaH h.whens,fun x hx=>(h.when_ x hx).sh,zaH h.acts,fun a ha=>(h.act a ha).sh⟩
end Go.AM
namespace Go.AM
set_option maxRecDepth 100000
set_option maxHeartbeats 1000000
set_option linter.unusedSimpArgs false
set_option linter.unusedVariables false
theorem sH8_2 {p:Prop} (h:p:=by first|assumption|omega|(simp;done)|(simp;omega)):p:=h
noncomputable def L_stIx (l:List Str) (v:Str) (i:Nat) :Cfg:=zaw B.slices_Index_string 0 [(0,.sl (l.map zbD)),(1,sv v),(7,iv ((l.map zbD).length:Nat)),(8,iv (i:Nat))] []
def stIx (l:List Str) (v:Str):List (Str)→Nat→Int
 | [],i =>
  -1
 | x::r,i =>
  bif ByteArray.toList v==ByteArray.toList x then
   (i:Int)
  else
   stIx l v r (i+1)
theorem znc (l:List Str) (v:Str) (hl:zad l):∀ (kk i:Nat),i+kk=(l).length→Good E0 B.slices_Index_string [] (L_stIx l v i ) (Shut 0 fun r h=>r=(iv (stIx l v ((l).drop i) i ))∧h=[]):=by
 intro kk
 induction kk with
 | zero =>
  intro i  hi
  have h0:decide (((i:Nat):Int) < (((l.map zbD).length:Nat):Int))=false:=by simp;omega
  have e0:(l).drop i=[]:=List.drop_of_length_le (by omega)
  rw [e0]
  simp only [stIx]
  refine zaa ?_
  exact wkr [sb h0] kr
 | succ kk ih =>
  intro i  hi
  obtain ⟨x,hx⟩:=zaC (l:=l) (i:=i) (by omega)
  have h0:decide (((i:Nat):Int) < (((l.map zbD).length:Nat):Int))=true:=by simp;omega
  have hw:=zao i (by first|omega|(simp only [zad,Few] at *;omega))
  rw [za6 hx]
  simp only [stIx]
  refine zaa ?_
  cases h1:ByteArray.toList v==ByteArray.toList x
  ·exact wkl [sb h0,se (zah zbD hx rfl),sb h1,si hw] [0,1,7,8] 0 kr (ih (i+1) (by omega) )
  ·exact wkr [sb h0,se (zah zbD hx rfl),sb h1] kr
def zkG (l:List Str) (v:Str):Int :=
 stIx l v l (0)
theorem zgw (l:List Str) (v:Str) (hl:zad l):zac E0 S.slices_Index_string [ssl l,sv v] [] (iv (zkG l v)) []:=by
 unfold zkG
 exact wkc At.slices_Index_string [] [0,1,7,8] 0 kr (znc l v hl l.length 0 (by simp))
def hasS (l:List Str) (v:Str):Bool :=
 decide ((0:Int)≤zkG l v)
theorem zfE (l:List Str) (v:Str) (hl:zad l):zac E0 S.slices_Contains_string [ssl l,sv v] [] (bv (hasS l v)) []:=by
 exact wk At.slices_Contains_string [sc (zgw l v sH8_2)] kr
end Go.AM
namespace Go.AM
set_option maxRecDepth 100000
set_option maxHeartbeats 1000000
set_option linter.unusedSimpArgs false
set_option linter.unusedVariables false
theorem zrN (l:List Int) (h:(l.take 500).length≤500):Tp.cells ⟨l.take 500,0,h⟩=[.sl (((l.map fun n=>[iv n]).take 500).drop 0),iv 0]:=by simp [Tp.cells,List.map_take]
theorem zmZ (l:List Int):∃ (t:Tp),zac E0 S.world_New [isl l] [] (.p 0 0) [.box t.cells]:=by
 cases h1:decide ((500:Int) < (((l.map fun n=>[iv n]).length:Nat):Int))
 ·exact ⟨⟨l,0,by simp at h1;omega⟩,wkK At.world_New [sb h1] kr⟩
 ·refine ⟨⟨l.take 500,0,by simp;omega⟩,?_⟩
  rw [zrN]
  exact wkK At.world_New [sb h1,sq (show SubAt (l.map fun n=>[iv n]) 0 500 1 from ⟨by decide,by decide,by simpa using Int.le_of_lt (by simpa using h1),by simp⟩)] kr
structure FsT (frs:List Fr):Prop where
 len:frs.length≤900
 rows:∀ f∈frs,zdn f.cols f.vals
 few:∀ f∈frs,Few f.cols
def zrf (n:Int):V :=
 V.mk 1 n (ByteArray.mk #[])
theorem zcf (n:Int) :zac E0 S.ref1_Number [iv n] [] ((zrf n).av) []:=by
 exact wk At.ref1_Number [] kr
end Go.AM
namespace Go.AM
set_option maxRecDepth 100000
set_option maxHeartbeats 1000000
set_option linter.unusedSimpArgs false
set_option linter.unusedVariables false
/- known -/
@[simp] theorem ba_self (s:Str):(s==s)=true:=by
 cases s with
 | mk d =>
  have h:(d==d)=true:=by simp
  exact h
noncomputable def L_eqV (l:List V) (i:Nat) :Cfg:=zaw B.slices_Equal_Value 0 [(0,vsl l),(1,vsl l),(12,iv ((l.map V.cells).length:Nat)),(13,iv (i:Nat))] []
theorem zd0 (l:List V) (hl:zad l) (i:Nat)  (hi:i≤(l).length) (hI:True):(True)∧(decide ((((l).length:Nat):Int) < (((l.map V.cells).length:Nat):Int))=false)∧∀ R,Good E0 B.slices_Equal_Value [] (L_eqV l (l).length ) R→Good E0 B.slices_Equal_Value [] (L_eqV l i ) R:=by
 obtain ⟨kk,hk⟩:∃ kk,i+kk=(l).length:=⟨(l).length - i,by omega⟩
 induction kk generalizing i  hI with
 | zero =>
  have e0:i=(l).length:=by omega
  subst e0
  exact ⟨hI,by simp,fun R hg=>hg⟩
 | succ kk ih =>
  obtain ⟨x,hx⟩:=zaC (l:=l) (i:=i) (by omega)
  have h0:decide (((i:Nat):Int) < (((l.map V.cells).length:Nat):Int))=true:=by simp;omega
  have hw:IntKind.i64.wrap (((i:Nat):Int)+1)=((i+1:Nat):Int):=zao i (by first|omega|(simp only [zad,Few] at *;omega))
  cases h1:!(x.kind==x.kind&&(x.int==x.int&&(x.text==x.text&&true)))
  ·obtain ⟨qZ,xZ,gZ⟩:=ih (i+1) (by omega) (by first|trivial|assumption|(simp;done)|omega|(simp;omega)|(simp at *;omega)) (by omega);exact ⟨qZ,xZ,fun R hg=>zaa (wkl [sb h0,sd [(2,[se (zah V.cells hx rfl)]),(6,[se (zah V.cells hx rfl)]),(8,[sq zbs])],sb h1,si hw] [0,1,12,13] 0 kr (gZ R hg))⟩
  ·exact False.elim (by simp at *)
theorem zg6 (l:List V) (hl:zad l):∃ (r:Bool),r=true∧zac E0 S.slices_Equal_Value [vsl l,vsl l] [] (bv r) []:=by
 cases h1:(↑(List.map V.cells l).length:Int) != (↑(List.map V.cells l).length:Int)
 ·obtain ⟨q2,q2_1,g2⟩:=zd0 l (by first|assumption|omega|(simp;done)|(simp;omega)) 0 (by first|assumption|omega|(simp;done)|(simp;omega)) (by first|assumption|omega|(simp;done)|(simp;omega))
  exact ⟨true,by first|rfl|(exfalso;simp at *;done),wkc At.slices_Equal_Value [sb h1] [0,1,12,13] 0 kr (g2 _ (zaa (wkr [sb q2_1] kr)))⟩
 ·exact ⟨false,by first|rfl|(exfalso;simp at *;done),wk At.slices_Equal_Value [sb h1] kr⟩
theorem TgOk.tr {n:Nat} {t:Tg} (h:TgOk (n+1) t):TrOk (n+1) t:=by
 refine ⟨zaH h.acts,fun a ha=>?_,h.when_⟩
 have h1:=(h.act a ha).set
 unfold Ac.set0
 cases hs:a.sets with
 | nil=>exact ⟨zaG,⟨by simp [zh5],by simp [zh5]⟩,fun x hx=>by simp [zh5] at hx,fun q hq=>by simp [zh5] at hq⟩
 | cons x r=>rw [hs] at h1;exact h1 x (by simp)
end Go.AM
namespace Go.AM
set_option maxRecDepth 100000
set_option maxHeartbeats 1000000
set_option linter.unusedSimpArgs false
set_option linter.unusedVariables false
theorem zpw {s:Str} {i:Int} (h:0≤i∧i < ((s.size:Nat):Int)):∃ c:UInt8,ByteAt s i ((c.toNat:Nat):Int):=by
 obtain ⟨n,rfl⟩:=Int.eq_ofNat_of_zero_le h.1
 have hlt:n < s.size:=by omega
 exact ⟨s[n],⟨by omega,by simp [hlt]⟩⟩
abbrev acc (k:Int) (a:Ac):List AV:=[iv k,sv a.table,.sl (a.rows.map zaK),.sl (zaf a.query),.sl (a.sets.map Se.cells),.sl (zab a.wh),sv a.text]
end Go.AM
namespace Go.AM
set_option maxRecDepth 100000
set_option maxHeartbeats 1000000
set_option linter.unusedSimpArgs false
set_option linter.unusedVariables false
def Col.tr (c:Col):Col:=⟨c.name,c.type,false,false⟩
def trTb (n:Str) (s:Sch):Tb:=⟨⟨n,s.cols.map Col.tr⟩,1,[]⟩
end Go.AM
namespace Go.AM
set_option maxRecDepth 100000
set_option maxHeartbeats 1000000
set_option linter.unusedSimpArgs false
set_option linter.unusedVariables false
def AtI {α:Type} (l:List α) (i:Int) (x:α):Prop:=0≤i∧l[i.toNat]?=some x
theorem zpJ {α:Type} {l:List α} {i:Int} (h:0≤i∧i < ((l.length:Nat):Int)):∃ x,AtI l i x :=
 ⟨l[i.toNat]'(by omega),h.1,List.getElem?_eq_getElem (by omega)⟩
theorem zfX {α:Type} (f:α→List AV) {l:List α} {i:Int} {x:α} (h:AtI l i x) {n:Nat} (hn:(f x).length=n):ElAt (l.map f) i (f x) n :=
 ⟨h.1,by simp [h.2],hn⟩
end Go.AM
namespace Go.AM
set_option maxRecDepth 100000
set_option linter.unusedSimpArgs false
set_option linter.unusedVariables false
def AcSet (a:Ac):Prop:=a.kind=5→∃ s,a.sets=[s]
theorem TbOk.tr {tb:List Tb} {s:Sch} {tr:List Tb} (h:TbOk tb) (hl:tb.length≤1000) (hs:zad s.cols) (ht:tr.length≤2∧∀ x∈tr,∃ n,x=trTb n s):TbOk (tb++tr):=by
 refine ⟨by have:=ht.1;simp only [zad,List.length_append];omega,fun x hx=>?_,fun x hx=>?_,fun x hx=>?_⟩ <;> rcases List.mem_append.mp hx with hx|hx
 ·exact h.cols x hx
 ·obtain ⟨n,rfl⟩:=ht.2 x hx
  simpa [trTb] using hs
 ·exact h.rows x hx
 ·obtain ⟨n,rfl⟩:=ht.2 x hx
  simp [trTb]
 ·exact h.vals x hx
 ·obtain ⟨n,rfl⟩:=ht.2 x hx
  intro r hr
  cases hr
end Go.AM
namespace Go.AM
open Go.RowKit
set_option linter.unusedSimpArgs false
set_option linter.unusedVariables false
theorem zmJ {xs:List Value} {s:Shp} (h:xs.map shp=[s]):∃ x,xs=[x]∧shp x=s:=by
 cases xs with
 | nil=>simp at h
 | cons x r =>
  cases r with
  | nil=>simp at h;exact ⟨x,rfl,h⟩
  | cons _ _=>simp at h
theorem zk0 {d:TypeDesc} {k:Value} (hs:∀ (y:Value) (r:Bool),zc8 k y=some r→Instr.sameNow d k y=some r):∀ (l:List MapEntry) (rs:List Bool) (n:Nat),rs.length=l.length →
  (∀ (i:Nat) (e:MapEntry) (r:Bool),l[i]?=some e→rs[i]?=some r→∃ ys,e.key=keyV false ys∧zbc [k] ys=some r)→Instr.findNow d k l n=some (zf7 l rs n)
 | [],[],_,_,_=>rfl
 | [],_::_,_,h,_=>by simp at h
 | _::_,[],_,h,_=>by simp at h
 | e::l,r::rs,n,hl,hall=>by
  obtain ⟨ys,h1,h2⟩:=hall 0 e r rfl rfl
  have h3:Instr.sameNow d k e.key=some r:=by
   cases ys with
   | nil=>simp [zbc] at h2
   | cons y ys =>
    simp only [zbc] at h2
    split at h2
    ·rename_i a b q1 q2
     cases ys with
     | cons _ _=>simp [zbc] at q2
     | nil =>
      simp [zbc] at q2
      subst q2
      simp only [Bool.and_true,Option.some.injEq] at h2
      subst h2
      rw [h1]
      exact hs _ _ q1
    ·cases h2
  have ih:=zk0 hs l rs (n+1) (by simpa using hl) (fun i e r hi hr=>hall (i+1) e r (by simpa using hi) (by simpa using hr))
  unfold Instr.findNow
  rw [h3]
  cases r
  ·exact ih
  ·rfl
theorem zpG {P:Program} {t kt et:TypeId} {ik:IntKind} (hu:P.underlying t=some (.map kt et)) (hk:P.underlying kt=some (.int ik)) (n:Int):KeyOK P t (.v (.int ik n)):=by
 refine ⟨⟨false,[.int ik n],rfl,⟨⟨kt,et,hu,fun e w xs hx=>?_,fun w xs l rs hx hl hall=>?_⟩⟩⟩⟩
 ·obtain ⟨x,rfl,h⟩:=zmJ hx
  obtain ⟨a,rfl⟩:=zn7 h
  exact MapKept.run_checkKey hk (by simp [MapKept.IsKey,keyV]) e 9999
 ·obtain ⟨x,rfl,h⟩:=zmJ hx
  obtain ⟨a,rfl⟩:=zn7 h
  refine MapKept.run_findKey hk (zk0 (fun y r hy=>?_) l rs 0 hl hall)
  simp only [keyV,List.headD_cons] at hy ⊢
  cases y <;> simp [zc8] at hy
  obtain ⟨rfl,rfl⟩:=hy
  simp [Instr.sameNow]
end Go.AM
namespace Go.AM
open Go.RowKit
set_option linter.unusedSimpArgs false
set_option linter.unusedVariables false
def zll (E:Env0) (h0:Heap) (β0:List Con) (S0:Addr→Prop) (w0:World) (fn:Func) (RR:Ending→World→Prop) (c:Cfg):Prop :=
 ∀ (β:List Con) (S:Addr→Prop) (w:World) (tmps:Array Value),tmps.size=c.n→Ext h0 β0 S0 w0 c.h β S w→Rel E c.h β S w→zaz E.T c.h β w S c.ts tmps→kont E.P c.todo (bodyPost E.P fn RR) .normal ⟨tmps,[]⟩ w
theorem zmR {E:Env0} (ht:zaB E) (hm:E.P.follows .mixedOrders=true) {h0:Heap} {β0:List Con} {S0:Addr→Prop} {w0:World} {fn:Func} {RR:Ending→World→Prop} {c c':Cfg} {os os':List Orc} {q:Option Prop} (hs:step (mk E) c os=some (q,c',os')) (hq:zam q) (hg:zll E h0 β0 S0 w0 fn RR c'):zll E h0 β0 S0 w0 fn RR c:=by
 intro β S w tmps hn x0 r rt
 obtain ⟨n,todo,ts,h⟩:=c
 simp only at hn x0 r rt ⊢
 unfold step at hs
 simp only at hs
 cases todo with
 | nil=>cases hs
 | cons it k =>
  cases it with
  | blk id =>
   simp only [Option.some.injEq,Prod.mk.injEq] at hs
   obtain ⟨_,rfl,_⟩:=hs
   exact hg β S w tmps hn x0 r rt
  | lp cc=>cases hs
  | ops all rest =>
   cases rest with
   | nil =>
    simp only [Option.some.injEq,Prod.mk.injEq] at hs
    obtain ⟨_,rfl,_⟩:=hs
    exact hg β S w tmps hn x0 r rt
   | cons o rest =>
    simp only at hs
    split at hs
    ·rename_i x hdst hx
     simp only [Option.some.injEq,Prod.mk.injEq] at hs
     obtain ⟨rfl,rfl,_⟩:=hs
     have hd:zaI tmps.size o.dst=true:=by rw [hn];exact hdst
     simp only [kont,Exit.then]
     refine wpList_step fun K hK=>?_
     have:=zmk (Q:=kont E.P k (bodyPost E.P fn RR)) (K:=K) ht r rt hd hx hq ⟨fun β' S' w' tmps' hsz r' e' rt'=>hK _ _ ?_⟩
     ·exact this
     ·have:=hg β' S' w' tmps' (by rw [hsz];exact hn) (x0.trans e') r' rt'
      simp only [kont,Exit.then] at this
      exact this
    ·cases hs
  | code cc =>
   simp only [kont,Exit.then]
   cases cc with
   | skip =>
    simp only [Option.some.injEq,Prod.mk.injEq] at hs
    obtain ⟨_,rfl,_⟩:=hs
    exact wp_skip (hg β S w tmps hn x0 r rt)
   | label l =>
    simp only [Option.some.injEq,Prod.mk.injEq] at hs
    obtain ⟨_,rfl,_⟩:=hs
    exact wp_label (hg β S w tmps hn x0 r rt)
   | scope a =>
    simp only [Option.some.injEq,Prod.mk.injEq] at hs
    obtain ⟨_,rfl,_⟩:=hs
    refine wp_scope_straight (wp_mono (hg β S w tmps hn x0 r rt) fun e a w he=>?_)
    cases e with
    | goto l=>exact zdG k l a w he
    | _=>exact he
   | loop a =>
    simp only [Option.some.injEq,Prod.mk.injEq] at hs
    obtain ⟨_,rfl,_⟩:=hs
    exact zjB (hg β S w tmps hn x0 r rt)
   | seq a b =>
    simp only [Option.some.injEq,Prod.mk.injEq] at hs
    obtain ⟨_,rfl,_⟩:=hs
    refine wp_seq (wp_mono (hg β S w tmps hn x0 r rt) fun e a w he=>?_)
    cases e <;> exact he
   | block id a =>
    simp only [Option.some.injEq,Prod.mk.injEq] at hs
    obtain ⟨_,rfl,_⟩:=hs
    refine wp_block (wp_mono (hg β S w tmps hn x0 r rt) fun e a w he=>?_)
    cases e <;> exact he
   | region id ops draw =>
    cases draw with
    | true =>
     simp only at hs
     split at hs
     ·rename_i l os1
      split at hs
      ·rename_i qs ts1 h1 hlv hsz
       simp only [Option.some.injEq,Prod.mk.injEq] at hs
       obtain ⟨rfl,rfl,_⟩:=hs
       simp only [zam] at hq
       exact znS ht hm (Nat.eq_of_beq_eq_true hsz) hlv hq hn x0 r rt (fun β' S' w' tmps' hn' x' r' rt'=>hg β' S' w' tmps' hn' x' r' rt')
      ·cases hs
     ·cases hs
    | false =>
     simp only [Option.some.injEq,Prod.mk.injEq] at hs
     obtain ⟨_,rfl,_⟩:=hs
     have:=hg β S w tmps hn x0 r rt
     simp only [kont,Exit.then] at this
     exact wp_region_list this
   | exit id =>
    simp only at hs
    split at hs
    ·rename_i k' hk
     simp only [Option.some.injEq,Prod.mk.injEq] at hs
     obtain ⟨_,rfl,_⟩:=hs
     exact wp_exit (zdw k k' _ _ hk (hg β S w tmps hn x0 r rt))
    ·cases hs
   | cond x a b =>
    have hx:=zaL (ds:=[]) r rt x
    have lit:∀ bb,Act.eval ⟨tmps,[]⟩ x=.bool bb→zaz E.T h β w S (zlt ts bb x) tmps:=by
     intro bb he
     cases x with
     | tmp d=>exact rt.lit he
     | _=>exact rt
    simp only at hs
    split at hs
    ·rename_i he
     simp only [mk_G] at he
     rw [he] at hx
     simp only [Option.some.injEq,Prod.mk.injEq] at hs
     obtain ⟨_,rfl,_⟩:=hs
     exact wp_cond_true hx.bl_inv (hg β S w tmps hn x0 r rt)
    ·rename_i he
     simp only [mk_G] at he
     rw [he] at hx
     simp only [Option.some.injEq,Prod.mk.injEq] at hs
     obtain ⟨_,rfl,_⟩:=hs
     exact wp_cond_false hx.bl_inv (hg β S w tmps hn x0 r rt)
    ·rename_i t he
     simp only [mk_G] at he
     rw [he] at hx
     split at hs
     ·simp only [Option.some.injEq,Prod.mk.injEq] at hs
      obtain ⟨rfl,rfl,_⟩:=hs
      simp only [zam] at hq
      subst hq
      exact wp_cond_true hx.v_inv (hg β S w tmps hn x0 r (lit _ hx.v_inv))
     ·simp only [Option.some.injEq,Prod.mk.injEq] at hs
      obtain ⟨rfl,rfl,_⟩:=hs
      simp only [zam] at hq
      subst hq
      exact wp_cond_false hx.v_inv (hg β S w tmps hn x0 r (lit _ hx.v_inv))
     ·cases hs
    ·cases hs
   | _=>cases hs
theorem zkq {E:Env0} (ht:zaB E) (hm:E.P.follows .mixedOrders=true) {h0:Heap} {β0:List Con} {S0:Addr→Prop} {w0:World} {fn:Func} {RR:Ending→World→Prop}:∀ (n:Nat) (c:Cfg) (os:List Orc),allP (run (mk E) n c os).1→zll E h0 β0 S0 w0 fn RR (run (mk E) n c os).2.1→zll E h0 β0 S0 w0 fn RR c
 | 0,c,os,_,hg=>hg
 | n+1,c,os,hq,hg=>by
  unfold run at hq hg
  cases hs:step (mk E) c os with
  | none=>simp only [hs] at hg;exact hg
  | some x =>
   obtain ⟨q,c',os'⟩:=x
   cases q with
   | none =>
    simp only [hs] at hq hg
    exact zmR ht hm hs trivial (zkq ht hm n c' os' hq hg)
   | some q =>
    simp only [hs] at hq hg
    obtain ⟨h1,h2⟩:=zfS hq
    exact zmR ht hm hs h1 (zkq ht hm n c' os' h2 hg)
structure Foreign (gs:List Nat) (β:List Con) (S:Addr→Prop) (w0 w:World):Prop where
 new:∀ g∈gs,w0.heap.size≤g
 lt:∀ g∈gs,g < w.heap.size
 apart:∀ g∈gs,∀ (b:Nat) (k:Con),β[b]?=some k→k.blk≠some g
 sep:∀ g∈gs,∀ a,S a→a.block≠g
theorem Foreign.ext {gs:List Nat} {h h':Heap} {β β':List Con} {S S':Addr→Prop} {w0 w w':World} (f:Foreign gs β S w0 w) (x:Ext h β S w h' β' S' w'):Foreign gs β' S' w0 w'∧∀ g∈gs,w'.heap[g]?=w.heap[g]? :=
 ⟨⟨f.new,fun g hg=>Nat.lt_of_lt_of_le (f.lt g hg) x.size,fun g hg b k hb hk=>by
  rcases x.new b k g hb hk with ⟨b',k',h1,h2,_⟩|h1
  ·exact f.apart g hg b' k' h1 h2
  ·have:=f.lt g hg;omega,fun g hg a ha he=>by
  rcases x.S_new a ha with h1|h1|⟨b,k,h1,h2⟩
  ·exact f.sep g hg a h1 he
  ·have:=f.lt g hg;omega
  ·exact f.apart g hg b k h1 (by rw [h2,he])⟩,fun g hg=>x.keep g (f.lt g hg) (f.apart g hg)⟩
def zbu (E:Env0) (fn:Func) (h0:Heap) (gs:List Nat) (F:(Addr→Prop)→World→Prop) (c:Cfg) (R:AV→Heap→Prop):Prop :=
 ∀ (β0:List Con) (S0:Addr→Prop) (w0:World) (β:List Con) (S:Addr→Prop) (w:World) (tmps:Array Value),β0.length=h0.length→tmps.size=c.n→Ext h0 β0 S0 w0 c.h β S w→Rel E c.h β S w→zaz E.T c.h β w S c.ts tmps→Foreign gs β S w0 w→F S w →
  kont E.P c.todo (bodyPost E.P fn (Post E h0 β0 S0 w0 R)) .normal ⟨tmps,[]⟩ w
def Only (gs:List Nat) (F:(Addr→Prop)→World→Prop):Prop:=∀ (S S':Addr→Prop) (w w':World),(∀ a,S a→S' a)→(∀ a,S a→w'.cell? a=w.cell? a)→(∀ g∈gs,w'.heap[g]?=w.heap[g]?)→F S w→F S' w'
theorem zmp {E:Env0} {fn:Func} {h0:Heap} {gs:List Nat} {F:(Addr→Prop)→World→Prop} {c:Cfg} {R:AV→Heap→Prop} (hg:Good E fn h0 c R):zbu E fn h0 gs F c R :=
 fun β0 S0 w0 β S w tmps hb hn x r rt _ _=>hg β0 S0 w0 β S w tmps hb hn x r rt
theorem zil {E:Env0} (ht:zaB E) (hm:E.P.follows .mixedOrders=true) {fn:Func} {h0:Heap} {gs:List Nat} {F:(Addr→Prop)→World→Prop} (hF:Only gs F) {R:AV→Heap→Prop} (n:Nat) {c:Cfg} (os:List Orc) (hq:allP (run (mk E) n c os).1) (hg:zbu E fn h0 gs F (run (mk E) n c os).2.1 R):zbu E fn h0 gs F c R :=
 fun β0 S0 w0 β S w tmps hb hn x r rt hf hw=>zkq ht hm (h0:=c.h) (β0:=β) (S0:=S) (w0:=w) n c os hq (fun β' S' w' tmps' hn' x' r' rt' =>
  hg β0 S0 w0 β' S' w' tmps' hb hn' (x.trans x') r' rt' (hf.ext x').1 (hF S S' w w' x'.S_le x'.S_cell (hf.ext x').2 hw)) β S w tmps hn (Ext.refl _ _ _ _) r rt
theorem zpA {E:Env0} {fn:Func} {R:AV→Heap→Prop} {h0:Heap} {gs:List Nat} {F:(Addr→Prop)→World→Prop} {c:Cfg} (live:List Nat) (m:Nat) (hm:h0.length≤m) (hg:zbu E fn h0 gs F (cut live m c) R):zbu E fn h0 gs F c R:=by
 intro β0 S0 w0 β S w tmps hb0 hn x0 r rt hf hw
 obtain ⟨r1,hv⟩:=r.first m
 refine hg β0 S0 w0 (β.take m) S w tmps hb0 hn (x0.first r hm hb0) r1 (fun t=>?_) ⟨hf.new,hf.lt,fun g hg b k hb=>?_,hf.sep⟩ hw
 ·rcases zf8 m c.ts live t with h1|h1
  ·simp only [cut];rw [h1];exact .d _ _ (.un _)
  ·simp only [cut];rw [h1];exact hv _ _ (rt t)
 ·rw [List.getElem?_take] at hb
  split at hb
  ·exact hf.apart g hg b k hb
  ·cases hb
theorem zqy {E:Env0} (ht:zaB E) (hmix:E.P.follows .mixedOrders=true) {fn:Func} {R:AV→Heap→Prop} {h0:Heap} {gs:List Nat} {F:(Addr→Prop)→World→Prop} (hF:Only gs F) {c c':Cfg} (n:Nat) (os:List Orc) (live:List Nat) (m:Nat) {q:List Prop}
  (hm:Nat.ble h0.length m=true) (hq0:(run (mk E) n c os).1=q) (hc:cut live m (run (mk E) n c os).2.1=c') (hq:allP q) (hg:zbu E fn h0 gs F c' R):zbu E fn h0 gs F c R:=by
 subst hq0
 subst hc
 exact zil ht hmix hF n os hq (zpA live m (Nat.le_of_ble_eq_true hm) hg)
structure Touch (g:Nat) (w w':World):Prop where
 os:w'.os=w.os
 tape:w'.tape=w.tape
 output:w'.output=w.output
 size:w'.heap.size=w.heap.size
 other:∀ b,b≠g→w'.heap[b]?=w.heap[b]?
theorem Touch.cell {g:Nat} {w w':World} (t:Touch g w w') {a:Addr} (ha:a.block≠g):w'.cell? a=w.cell? a:=World.cell?_of_block (t.other a.block ha)
theorem Ext.touch {h0 h:Heap} {β0 β:List Con} {S0 S:Addr→Prop} {w0 w w':World} {gs:List Nat} {g:Nat} (x:Ext h0 β0 S0 w0 h β S w) (t:Touch g w w') (f:Foreign gs β S w0 w) (hg:g∈gs):Ext h0 β0 S0 w0 h β S w' where
 box:=x.box
 con:=x.con
 row:=x.row
 mp:=x.mp
 conm:=x.conm
 S_le:=x.S_le
 S_cell:=fun a ha=>(t.cell (f.sep g hg a (x.S_le a ha))).trans (x.S_cell a ha)
 S_new:=x.S_new
 os:=t.os.trans x.os
 tape:=t.tape.trans x.tape
 output:=t.output.trans x.output
 size:=by rw [t.size];exact x.size
 keep:=fun b hb hne=>(t.other b (by have:=f.new g hg;omega)).trans (x.keep b hb hne)
 new:=x.new
theorem RelV.cells {T:TypeId→TI} {h:Heap} {β:List Con} {S:Addr→Prop} {w w':World} (hc:∀ a,S a→w'.cell? a=w.cell? a) {x:AV} {y:Value} (hr:RelV T h β w S x y):RelV T h β w' S x y:=by
 induction hr with
 | d x y hd=>exact .d x y (hd.mono (fun _ h=>h) hc)
 | agg cs vs hl ho _ ih=>exact .agg cs vs hl ho ih
 | tup cs vs hl _ ih=>exact .tup cs vs hl ih
 | nl a=>exact .nl a
 | p b off g hb=>exact .p b off g hb
 | own b n y e xs sh hb hn hy ho=>exact .own b n y e xs sh hb hn hy ho
 | ep b n i off g e xs sh hb hn hy=>exact .ep b n i off g e xs sh hb hn hy
 | os b n lo hi y e xs sh hb hn hl hh ho hy=>exact .os b n lo hi y e xs sh hb hn hl hh ho hy
 | fn f caps vs hl _ ih=>exact .fn f caps vs hl ih
 | mp b g hb=>exact .mp b g hb
theorem Rel.touch {E:Env0} {h:Heap} {β:List Con} {S:Addr→Prop} {w0 w w':World} {gs:List Nat} {g:Nat} (r:Rel E h β S w) (t:Touch g w w') (f:Foreign gs β S w0 w) (hg:g∈gs):Rel E h β S w' where
 len:=r.len
 box:=fun b cs hb=>by
  obtain ⟨q,vs,ty,h1,h2,h3,h4⟩:=r.box b cs hb
  exact ⟨q,vs,ty,h1,(t.other q fun e=>f.apart g hg b _ h1 (by rw [← e];rfl)).trans h2,h3,fun i x y hx hy=>⟨(h4 i x y hx hy).1.cells fun a ha=>t.cell (f.sep g hg a ha),(h4 i x y hx hy).2⟩⟩
 row:=fun b e xs sh hb=>by
  obtain ⟨k,h1,h2⟩:=r.row b e xs sh hb
  exact ⟨k,h1,h2.ext (fun _ h=>h) (fun a ha=>t.cell (f.sep g hg a ha)) fun q hq=>t.other q fun e=>f.apart g hg b k h1 (by rw [hq,e])⟩
 mp:=fun b es hb=>by
  obtain ⟨k,h1,h2⟩:=r.mp b es hb
  exact ⟨k,h1,h2.ext (fun _ h=>h) (fun a ha=>t.cell (f.sep g hg a ha)) (t.other k fun e=>f.apart g hg b _ h1 (by rw [← e];rfl))⟩
 apart:=r.apart
 lt:=fun b k q h1 h2=>by rw [t.size];exact r.lt b k q h1 h2
 stable:=fun a ha=>by rw [t.size];exact r.stable a ha
 free:=r.free
 glob:=fun q cs hq=>(r.glob q cs hq).mono (fun _ h=>h) fun a ha=>t.cell (f.sep g hg a ha)
theorem zaz.touch {E:Env0} {h:Heap} {β:List Con} {S:Addr→Prop} {w0 w w':World} {gs:List Nat} {g:Nat} {ts:TS} {tmps:Array Value} (rt:zaz E.T h β w S ts tmps) (t:Touch g w w') (f:Foreign gs β S w0 w) (hg:g∈gs):zaz E.T h β w' S ts tmps :=
 fun q=>(rt q).cells fun a ha=>t.cell (f.sep g hg a ha)
theorem Foreign.touch {gs:List Nat} {β:List Con} {S:Addr→Prop} {w0 w w':World} {g:Nat} (f:Foreign gs β S w0 w) (t:Touch g w w'):Foreign gs β S w0 w':=⟨f.new,fun q hq=>by rw [t.size];exact f.lt q hq,f.apart,f.sep⟩
/-! ### 'for k, v := range m' -/
def zfY (L:List (AV × AV)) (seen:Array Nat):List (AV × AV):=((List.range L.length).filter fun i=>!seen.contains i).filterMap fun i=>L[i]?
def ItF (gm gi:Nat) (l:List (AV × AV)) (cur:Option (AV × AV)) (S:Addr→Prop) (w:World):Prop:=∃ (L:List (AV × AV)) (ents:Array MapEntry) (seen:Array Nat) (c0:Nat),
 w.heap[gm]?=some (.map ents L.length)∧ents.size=L.length∧(∀ (i:Nat) (k x:AV),L[i]?=some (k,x)→∃ (kv xv:Value),ents[i]?=some ⟨kv,xv,i⟩∧RelD w S k kv∧RelD w S x xv) ∧
 w.heap[gi]?=some (.mapIter (some gm) L.length seen c0)∧L.length≤c0∧l.Perm (zfY L seen) ∧
 ∀ p,cur=some p→∃ (s':Array Nat) (i:Nat),seen=s'.push i∧L[i]?=some p∧c0=L.length
theorem zjl (gm gi:Nat) (l:List (AV × AV)) (cur:Option (AV × AV)):Only [gm,gi] (ItF gm gi l cur):=by
 intro S S' w w' hS hc hg ⟨L,ents,seen,c0,h1,h2,h3,h4,h5,h6,h7⟩
 exact ⟨L,ents,seen,c0,(hg gm (by simp)).trans h1,h2,fun i k x hi=>by
  obtain ⟨kv,xv,a1,a2,a3⟩:=h3 i k x hi
  exact ⟨kv,xv,a1,a2.mono hS hc,a3.mono hS hc⟩,(hg gi (by simp)).trans h4,h5,h6,h7⟩
theorem zjY {α:Type} (L:List α):∀ n:Nat,(List.range n).filterMap (fun i=>L[i]?)=L.take n
 | 0=>by simp
 | n+1=>by
  rw [List.range_succ,List.filterMap_append,zjY L n,List.take_add_one]
  congr 1
theorem zpc (L:List (AV × AV)):zfY L #[]=L:=by
 unfold zfY
 have:(List.range L.length).filter (fun i=>!(#[]:Array Nat).contains i)=List.range L.length:=by simp
 rw [this,zjY,List.take_length]
theorem zo6 {E:Env0} {fn:Func} {h0 h:Heap} {all r:List Oper} {o:Oper} {k:List It} {n:Nat} {ts:TS} {R:AV→Heap→Prop} {t kt et:TypeId} {tm b d:Nat} {es:List (AV × AV)} (live:List Nat) (hop:o.op=.range t (.tmp tm)) (hgd:o.guard=none) (hd:o.dst=some d) (hdn:d < n)
  (ht:E.P.underlying t=some (.map kt et)) (hm:look ts tm=.mp b) (hb:h[b]?=some (.mp es)) (hb0:Nat.ble h0.length b=true)
  (H:∀ gm gi,zbu E fn h0 [gm,gi] (ItF gm gi es none) ⟨n,.ops all r::k,(d,.v (.pointer (some ⟨gi,0,none⟩)))::mask live b ts,(h.take b).map (zba (zbS b))⟩ R):Good E fn h0 ⟨n,.ops all (o::r)::k,ts,h⟩ R:=by
 intro β0 S0 w0 β S w tmps hβ hn x0 r0 rt
 have hb0:=Nat.le_of_ble_eq_true hb0
 simp only at hn x0 r0 rt
 obtain ⟨gm,c1,L,ents,c2,c3,c4,c5⟩:=r0.mp b es hb
 have hmv:=rt tm
 rw [hm] at hmv
 generalize hev:tmps.getD tm undef=mv at hmv
 cases hmv with
 | d _ _ hd=>cases hd
 | mp _ g' c1' =>
 rw [c1] at c1'
 cases c1'
 have hgl:gm < w.heap.size:=r0.lt b _ gm c1 rfl
 have hbl:Below w.heap.size w (w.alloc (.mapIter (some gm) L.length #[] L.length)):=(Below.refl _ _).alloc (Nat.le_refl _) _
 have x1:Ext h β S w h β S (w.alloc (.mapIter (some gm) L.length #[] L.length)):=Ext.grow r0 hbl (fun _ h=>h) (fun _ h=>.inl h)
 have r1:Rel E h β S (w.alloc (.mapIter (some gm) L.length #[] L.length)):=r0.grow hbl (fun _ h=>h) (fun _ h=>.inl h)
 obtain ⟨r2,hv2⟩:=r1.first b
 have hno:∀ a,S a→a.block≠gm:=by
  intro a ha hag
  obtain ⟨e,xs,h1,_⟩:=r0.free b _ gm a c1 rfl ha hag
  rw [hb] at h1
  cases h1
 simp only [kont,Exit.then]
 refine wpList_step fun K hK=>?_
 show wpG E.P all.toArray o ⟨tmps,[]⟩ w K _
 unfold wpG
 rw [if_pos (by simp [Region.wanted,hgd])]
 unfold Oper.wp
 have hrun:(execOp (Act.eval ⟨tmps,[]⟩) o).run E.P w=.ok (.value (.pointer (some ⟨w.heap.size,0,none⟩))) (w.alloc (.mapIter (some gm) L.length #[] L.length)):=by
  simp only [execOp,hop,Act.eval,hev,run_range_map w t kt et gm ents L.length ht c3,Sem.run_bind,Result.andThen_ok,Sem.run_pure]
 rw [hrun,Oper.upon_value,zbK]
 refine hK _ _ ?_
 have rt2:zaz E.T ((h.take b).map (zba (zbS b))) (β.take b) (w.alloc (.mapIter (some gm) L.length #[] L.length)) S (mask live b ts) tmps:=fun q=>by
  rcases zf8 b ts live q with h1|h1
  ·rw [h1];exact .d _ _ (.un _)
  ·rw [h1];exact hv2 _ _ ((rt q).ext x1)
 have rt3:=rt2.put (d:=some d) (x:=.v (.pointer (some ⟨w.heap.size,0,none⟩))) (y:=.pointer (some ⟨w.heap.size,0,none⟩)) (by simp only [zaI];exact Nat.ble_eq_true_of_le (by rw [hn];exact hdn)) (.d _ _ (.v _ rfl))
 have hsz:(w.alloc (.mapIter (some gm) L.length #[] L.length)).heap.size=w.heap.size+1:=by
  show (w.heap.push _).size=_
  simp
 have hfor:Foreign [gm,w.heap.size] (β.take b) S w0 (w.alloc (.mapIter (some gm) L.length #[] L.length)):=by
  refine ⟨fun g hg=>?_,fun g hg=>?_,fun g hg b' k' hb' hk'=>?_,fun g hg a ha=>?_⟩
  ·rcases List.mem_cons.1 hg with rfl|hg
   ·rcases x0.new b _ g c1 rfl with ⟨b',k',h1,_,h2⟩|h1
    ·subst h2
     have:=(List.getElem?_eq_some_iff.1 h1).1
     omega
    ·exact h1
   ·simp only [List.mem_singleton] at hg;subst hg;exact x0.size
  ·rw [hsz]
   rcases List.mem_cons.1 hg with rfl|hg
   ·omega
   ·simp only [List.mem_singleton] at hg;omega
  ·rw [List.getElem?_take] at hb'
   split at hb'
   ·rename_i hlt
    rcases List.mem_cons.1 hg with rfl|hg
    ·have:=r0.apart b' b k' _ g hb' c1 hk' rfl
     omega
    ·simp only [List.mem_singleton] at hg
     subst hg
     have:=r0.lt b' k' _ hb' hk'
     omega
   ·cases hb'
  ·rcases List.mem_cons.1 hg with rfl|hg
   ·exact hno a ha
   ·simp only [List.mem_singleton] at hg
    have:=r0.stable a ha
    omega
 have hit:ItF gm w.heap.size es none S (w.alloc (.mapIter (some gm) L.length #[] L.length)):=by
  refine ⟨L,ents,#[],L.length,(hbl.block gm hgl).trans c3,c4,fun i k x hi=>?_,heap_alloc_new w _,Nat.le_refl _,by rw [zpc];exact c2.symm,by simp⟩
  obtain ⟨kv,xv,a1,a2,a3⟩:=c5 i k x hi
  exact ⟨kv,xv,a1,a2.mono (fun _ h=>h) x1.S_cell,a3.mono (fun _ h=>h) x1.S_cell⟩
 have:=H gm w.heap.size β0 S0 w0 (β.take b) S _ _ hβ (by rw [zb5];exact hn) ((x0.trans x1).first r1 hb0 hβ) r2 rt3 hfor hit
 simp only [kont,Exit.then] at this
 rw [hd]
 exact this
theorem zpZ {L:List (AV × AV)} {seen:Array Nat} {i:Nat} {p:AV × AV} (hi:L[i]?=some p) (hs:seen.contains i=false):(zfY L seen).Perm (p::zfY L (seen.push i)):=by
 have hil:=(List.getElem?_eq_some_iff.1 hi).1
 have hF:((List.range L.length).filter fun j=>!seen.contains j).Perm (i::(List.range L.length).filter fun j=>!(seen.push i).contains j):=by
  have hm:i∈(List.range L.length).filter fun j=>!seen.contains j:=by
   rw [List.mem_filter]
   exact ⟨List.mem_range.2 hil,by rw [hs];rfl⟩
  have h1:=List.perm_cons_erase hm
  have hn:((List.range L.length).filter fun j=>!seen.contains j).Nodup:=List.nodup_range.filter _
  rw [hn.erase_eq_filter,List.filter_filter] at h1
  refine h1.trans (.of_eq (congrArg _ ?_))
  apply List.filter_congr
  intro j _
  rw [contains_push]
  cases seen.contains j <;> cases hji:(j==i) <;> simp [bne,hji]
 have:=hF.filterMap fun j=>L[j]?
 rw [List.filterMap_cons_some hi] at this
 exact this
theorem zjH {α:Type}:∀ (l:List α) (j:Nat) (p:α),l[j]?=some p→l.Perm (p::l.eraseIdx j)
 | [],j,p,h=>by simp at h
 | a::l,0,p,h=>by simp at h;subst h;exact .refl _
 | a::l,j+1,p,h=>by
  have:=zjH l j p (by simpa using h)
  exact (this.cons a).trans (.swap _ _ _)
theorem zig {L:List (AV × AV)} {ents:Array MapEntry} {w:World} {S:Addr→Prop} (hl:ents.size=L.length) (h3:∀ (i:Nat) (k x:AV),L[i]?=some (k,x)→∃ (kv xv:Value),ents[i]?=some ⟨kv,xv,i⟩∧RelD w S k kv∧RelD w S x xv) :
  (∀ e∈ents.toList,ents[e.born]?=some e∧e.born < L.length)∧(ents.toList.map (·.born)).Nodup:=by
 have at_:∀ (i:Nat) (e:MapEntry),ents[i]?=some e→e.born=i∧i < L.length:=by
  intro i e he
  have hi:i < L.length:=by rw [← hl];exact (Array.getElem?_eq_some_iff.1 he).1
  obtain ⟨kv,xv,e1,_⟩:=h3 i L[i].1 L[i].2 (List.getElem?_eq_getElem hi)
  rw [he] at e1
  cases e1
  exact ⟨rfl,hi⟩
 refine ⟨fun e he=>?_,?_⟩
 ·obtain ⟨i,hi⟩:=List.getElem?_of_mem he
  rw [Array.getElem?_toList] at hi
  obtain ⟨h1,h2⟩:=at_ i e hi
  rw [h1]
  exact ⟨hi,h2⟩
 ·have:ents.toList.map (·.born)=List.range L.length:=by
   apply List.ext_getElem?
   intro i
   rw [List.getElem?_map,Array.getElem?_toList]
   by_cases hi:i < L.length
   ·have h5:ents[i]?=some (ents[i]'(by omega)):=Array.getElem?_eq_getElem (by omega)
    rw [h5,Option.map_some,(at_ i _ h5).1,List.getElem?_range hi]
   ·rw [Array.getElem?_eq_none (by omega),List.getElem?_eq_none (by simp;omega)]
    rfl
  rw [this]
  exact List.nodup_range
theorem zpx {w w1:World} {g:Nat} {o:Obj} (h:w1=w∨w1=w.drew):Touch g w (ChangeMaps.setBlock w1 g o):=by
 rcases h with rfl|rfl
 ·exact ⟨rfl,rfl,rfl,by simp [ChangeMaps.setBlock],fun b hb=>by simp [ChangeMaps.setBlock,Ne.symm hb]⟩
 ·have hd:∀ v:World,v.drew.heap=v.heap:=fun _=>rfl
  exact ⟨rfl,rfl,rfl,by simp [ChangeMaps.setBlock,hd],fun b hb=>by simp [ChangeMaps.setBlock,hd,Ne.symm hb]⟩
theorem zoB {E:Env0} {fn:Func} {h0 h:Heap} {all r:List Oper} {o:Oper} {k:List It} {n:Nat} {ts:TS} {R:AV→Heap→Prop} {gm gi ti d:Nat} {l:List (AV × AV)} {cur:Option (AV × AV)} (hop:o.op=.next (.tmp ti) false) (hgd:o.guard=none) (hd:o.dst=some d) (hdn:d < n)
  (hm:look ts ti=.v (.pointer (some ⟨gi,0,none⟩)))
  (H0:l=[]→zbu E fn h0 [gm,gi] (ItF gm gi [] none) ⟨n,.ops all r::k,(d,.tup [.bl false])::ts,h⟩ R)
  (H1:∀ (j:Nat) (kx x:AV),l[j]?=some (kx,x)→zbu E fn h0 [gm,gi] (ItF gm gi (l.eraseIdx j) (some (kx,x))) ⟨n,.ops all r::k,(d,.tup [.bl true,kx,x])::ts,h⟩ R) :
  zbu E fn h0 [gm,gi] (ItF gm gi l cur) ⟨n,.ops all (o::r)::k,ts,h⟩ R:=by
 intro β0 S0 w0 β S w tmps hβ hn x0 r0 rt hf ⟨L,ents,seen,c0,h1,h2,h3,h4,h5,h6,h7⟩
 simp only at hn x0 r0 rt
 have hmv:=rt ti
 rw [hm] at hmv
 have hev:=hmv.v_inv
 obtain ⟨hb1,hb2⟩:=zig h2 h3
 have hne:gm≠gi:=by
  rintro rfl
  rw [h1] at h4
  cases h4
 simp only [kont,Exit.then]
 refine wpList_step fun K hK=>?_
 show wpG E.P all.toArray o ⟨tmps,[]⟩ w K _
 unfold wpG
 rw [if_pos (by simp [Region.wanted,hgd])]
 unfold Oper.wp
 have hdd:zaI tmps.size (some d)=true:=by simp only [zaI];exact Nat.ble_eq_true_of_le (by rw [hn];exact hdn)
 rcases run_next_at (P:=E.P) w o.type gi gm L.length c0 seen ents L.length h4 h1 (fun x hx=>(hb1 x hx).2) h5 with ⟨hz,hrun⟩|⟨e,he,w1,hw1,hrun⟩
 ·have hrun':(execOp (Act.eval ⟨tmps,[]⟩) o).run E.P w=.ok (.value (.tuple #[.bool false])) w:=by
   simp only [execOp,hop,Act.eval,hev,hrun,Sem.run_bind,Result.andThen_ok,Sem.run_pure]
  rw [hrun',Oper.upon_value,zbK]
  refine hK _ _ ?_
  have hall:=all_seen ents seen hz
  have hnil:zfY L seen=[]:=by
   unfold zfY
   have:((List.range L.length).filter fun i=>!seen.contains i)=[]:=by
    rw [List.filter_eq_nil_iff]
    intro i hi
    have hi:=List.mem_range.1 hi
    obtain ⟨kv,xv,e1,_⟩:=h3 i L[i].1 L[i].2 (List.getElem?_eq_getElem hi)
    have:=hall _ (Array.mem_toList_iff.2 (Array.mem_of_getElem? e1))
    simp only at this
    rw [this]
    decide
   rw [this]
   rfl
  rw [hnil] at h6
  have hl:=h6.eq_nil
  have:=H0 hl β0 S0 w0 β S w _ hβ (by rw [zb5];exact hn) x0 r0 (rt.put (d:=some d) (x:=.tup [.bl false]) (y:=.tuple #[.bool false]) hdd (.d _ _ (.tup [.bl false] [.bool false] rfl (fun i p q hp hq=>by
   cases i with
   | zero=>simp at hp hq;subst hp;subst hq;exact .bl _
   | succ i=>simp at hp)))) hf ⟨L,ents,seen,c0,h1,h2,h3,h4,h5,by rw [hnil],by simp⟩
  simp only [kont,Exit.then] at this
  rw [hd]
  exact this
 ·have hrun':(execOp (Act.eval ⟨tmps,[]⟩) o).run E.P w=.ok (.value (.tuple #[.bool true,e.key,e.val])) (ChangeMaps.setBlock w1 gi (.mapIter (some gm) L.length (seen.push e.born) L.length)):=by
   simp only [execOp,hop,Act.eval,hev,hrun,Sem.run_bind,Result.andThen_ok,Sem.run_pure]
  rw [hrun',Oper.upon_value,zbK]
  refine hK _ _ ?_
  obtain ⟨hem,hes⟩:=mem_left he
  obtain ⟨hei,hel⟩:=hb1 e hem
  have hLi:L[e.born]?=some L[e.born]:=List.getElem?_eq_getElem hel
  obtain ⟨kv,xv,e1,e2,e3⟩:=h3 e.born L[e.born].1 L[e.born].2 hLi
  rw [hei] at e1
  have hstep:=zpZ hLi hes
  have hmem:L[e.born]∈l:=h6.mem_iff.2 (hstep.mem_iff.2 (by simp))
  obtain ⟨j,hj⟩:=List.getElem?_of_mem hmem
  have hperm:(l.eraseIdx j).Perm (zfY L (seen.push e.born)):=by
   have:=(zjH l j _ hj).symm.trans (h6.trans hstep)
   exact this.cons_inv
  have t:Touch gi w (ChangeMaps.setBlock w1 gi (.mapIter (some gm) L.length (seen.push e.born) L.length)):=zpx hw1
  have hg:gi∈[gm,gi]:=by simp
  have hcell:∀ a,S a→(ChangeMaps.setBlock w1 gi (.mapIter (some gm) L.length (seen.push e.born) L.length)).cell? a=w.cell? a:=fun a ha=>t.cell (hf.sep gi hg a ha)
  have hkk:e.key=kv∧e.val=xv:=by
   have h9:e=⟨kv,xv,e.born⟩:=by injection e1
   exact ⟨congrArg MapEntry.key h9,congrArg MapEntry.val h9⟩
  have rt2:=(rt.touch (E:=E) t hf hg).put (d:=some d) (x:=.tup [.bl true,L[e.born].1,L[e.born].2]) (y:=.tuple #[.bool true,e.key,e.val]) hdd (.d _ _ (.tup [.bl true,L[e.born].1,L[e.born].2] [.bool true,e.key,e.val] rfl (fun i p q hp hq=>by
   match i,hp,hq with
   | 0,hp,hq=>simp at hp hq;subst hp;subst hq;exact .bl _
   | 1,hp,hq=>simp at hp hq;subst hp;subst hq;rw [hkk.1];exact e2.mono (fun _ h=>h) hcell
   | 2,hp,hq=>simp at hp hq;subst hp;subst hq;rw [hkk.2];exact e3.mono (fun _ h=>h) hcell
   | i+3,hp,hq=>simp at hp)))
  have hit:ItF gm gi (l.eraseIdx j) (some (L[e.born].1,L[e.born].2)) S (ChangeMaps.setBlock w1 gi (.mapIter (some gm) L.length (seen.push e.born) L.length)):=by
   refine ⟨L,ents,seen.push e.born,L.length,(t.other gm hne).trans h1,h2,fun i k x hi=>?_,?_,Nat.le_refl _,hperm,fun p hp=>⟨seen,e.born,rfl,by rw [hLi];exact hp,rfl⟩⟩
   ·obtain ⟨kv,xv,a1,a2,a3⟩:=h3 i k x hi
    exact ⟨kv,xv,a1,a2.mono (fun _ h=>h) hcell,a3.mono (fun _ h=>h) hcell⟩
   ·have hlt:gi < w1.heap.size:=by
     have:=(Array.getElem?_eq_some_iff.1 h4).1
     rcases hw1 with rfl|rfl <;> exact this
    simp [ChangeMaps.setBlock,hlt]
  have:=H1 j L[e.born].1 L[e.born].2 hj β0 S0 w0 β S _ _ hβ (by rw [zb5];exact hn) (x0.touch t hf hg) (r0.touch t hf hg) rt2 (hf.touch t) hit
  simp only [kont,Exit.then] at this
  rw [hd]
  exact this
theorem znh {E:Env0} {fn:Func} {h0 h:Heap} {all r:List Oper} {o:Oper} {k:List It} {n:Nat} {ts:TS} {R:AV→Heap→Prop} {gm gi ti d:Nat} {l:List (AV × AV)} {kx x:AV} (hop:o.op=.entry (.tmp ti)) (hgd:o.guard=none) (hd:o.dst=some d) (hdn:d < n)
  (hm:look ts ti=.v (.pointer (some ⟨gi,0,none⟩)))
  (H:zbu E fn h0 [gm,gi] (ItF gm gi l (some (kx,x))) ⟨n,.ops all r::k,(d,.tup [kx,x])::ts,h⟩ R) :
  zbu E fn h0 [gm,gi] (ItF gm gi l (some (kx,x))) ⟨n,.ops all (o::r)::k,ts,h⟩ R:=by
 intro β0 S0 w0 β S w tmps hβ hn x0 r0 rt hf hw
 have hw0:=hw
 obtain ⟨L,ents,seen,c0,h1,h2,h3,h4,h5,h6,h7⟩:=hw
 simp only at hn x0 r0 rt
 have hmv:=rt ti
 rw [hm] at hmv
 have hev:=hmv.v_inv
 obtain ⟨hb1,hb2⟩:=zig h2 h3
 obtain ⟨s',i,rfl,hi,rfl⟩:=h7 _ rfl
 obtain ⟨kv,xv,e1,e2,e3⟩:=h3 i kx x hi
 simp only [kont,Exit.then]
 refine wpList_step fun K hK=>?_
 show wpG E.P all.toArray o ⟨tmps,[]⟩ w K _
 unfold wpG
 rw [if_pos (by simp [Region.wanted,hgd])]
 unfold Oper.wp
 have hrun:=run_entry_at (P:=E.P) w gi gm L.length s' ents L.length ⟨kv,xv,i⟩ h4 h1 (Array.mem_toList_iff.2 (Array.mem_of_getElem? e1)) hb2
 have hrun':(execOp (Act.eval ⟨tmps,[]⟩) o).run E.P w=.ok (.value (.tuple #[kv,xv])) w:=by
  simp only [execOp,hop,Act.eval,hev,hrun,Sem.run_bind,Result.andThen_ok,Sem.run_pure]
 rw [hrun',Oper.upon_value,zbK]
 refine hK _ _ ?_
 have:=H β0 S0 w0 β S w _ hβ (by rw [zb5];exact hn) x0 r0 (rt.put (d:=some d) (x:=.tup [kx,x]) (y:=.tuple #[kv,xv]) (by simp only [zaI];exact Nat.ble_eq_true_of_le (by rw [hn];exact hdn)) (.d _ _ (.tup [kx,x] [kv,xv] rfl (fun i p q hp hq=>by
  match i,hp,hq with
  | 0,hp,hq=>simp at hp hq;subst hp;subst hq;exact e2
  | 1,hp,hq=>simp at hp hq;subst hp;subst hq;exact e3
  | i+2,hp,hq=>simp at hp)))) hf hw0
 simp only [kont,Exit.then] at this
 rw [hd]
 exact this
end Go.AM
namespace Go.AM
theorem zbt (n:Int):KeyOK E0.P Ty.M_int_bool (iv n):=zpG (kt:=Ty.int) (et:=Ty.bool) kr kr n
end Go.AM
namespace Go.AM
set_option linter.unusedSimpArgs false
set_option linter.unusedVariables false
noncomputable def zfc (fn:Func) (args:List AV) (h:Heap):Cfg:=⟨fn.ntmps,[.code (fn.body.getD .skip)],zbF 0 args,h⟩
def itp (gi:Nat):AV:=.v (.pointer (some ⟨gi,0,none⟩))
noncomputable def zlk (h0:Heap) (c:Cfg) (os:List Orc) (b:Nat):Option (List Prop × TypeId × List (AV × AV)):=match run (mk E0) 3000 c os with
 | (q,⟨n,.ops _ (o::_)::_,ts,h⟩,_)=>match o.op,o.guard,o.dst with
  | .range t (.tmp tm),none,some d=>match look ts tm,Nat.blt d n,Nat.ble h0.length b with
   | .mp b',true,true=>match Nat.beq b' b,h[b]? with
    | true,some (.mp es)=>some (q,t,es)
    | _,_=>none
   | _,_,_=>none
  | _,_,_=>none
 | _=>none
noncomputable def rngK (c:Cfg) (os:List Orc) (live:List Nat) (b gi:Nat):Cfg:=match run (mk E0) 3000 c os with
 | (_,⟨n,.ops all (o::r)::k,ts,h⟩,_)=>⟨n,.ops all r::k,(o.dst.getD 0,itp gi)::mask live b ts,(h.take b).map (zba (zbS b))⟩
 | (_,c',_)=>c'
theorem wkRl {fn:Func} {h0:Heap} {c:Cfg} {R:AV→Heap→Prop} {t kt et:TypeId} {es:List (AV × AV)} (l:List St) (live:List Nat) (b:Nat) (hu:zlk h0 c (orcs l) b=some (zbd l,t,es)) (ht:E0.P.underlying t=some (.map kt et))
  (hg:∀ gm gi,zbu E0 fn h0 [gm,gi] (ItF gm gi es none) (rngK c (orcs l) live b gi) R):Good E0 fn h0 c R:=by
 unfold zlk at hu
 unfold rngK at hg
 split at hu
 ·rename_i q n all o r k ts h os' hrun
  split at hu
  ·rename_i t' tm d hop hgd hd
   split at hu
   ·rename_i b' hm hdn hb0
    split at hu
    ·rename_i es' hbb hb
     simp only [Option.some.injEq,Prod.mk.injEq] at hu
     obtain ⟨rfl,rfl,rfl⟩:=hu
     have:=Nat.eq_of_beq_eq_true hbb
     subst this
     refine zfH E0ok mix0 3000 c (orcs l) (by rw [hrun];exact zaT l) ?_
     rw [hrun]
     refine zo6 live hop hgd hd (Nat.le_of_ble_eq_true hdn) ht hm hb hb0 fun gm gi=>?_
     have:=hg gm gi
     rw [hrun] at this
     simp only [hd,Option.getD_some] at this
     exact this
    ·cases hu
   ·cases hu
  ·cases hu
 ·cases hu
def fnOk (fn : Func) (args : List AV) : Bool := fn.body.isSome && !(fn.name == "runtime.NumGoroutine") && Nat.ble args.length fn.ntmps
theorem wkR {f:FuncId} {fn:Func} {args:List AV} {h:Heap} {R:AV→Heap→Prop} {t kt et:TypeId} {es:List (AV × AV)} (hf:E0.P.funcs[f]?=some fn) (l:List St) (live:List Nat) (b:Nat) (hok:fnOk fn args=true) (hu:zlk h (zfc fn args h) (orcs l) b=some (zbd l,t,es)) (ht:E0.P.underlying t=some (.map kt et))
  (hg:∀ gm gi,zbu E0 fn h [gm,gi] (ItF gm gi es none) (rngK (zfc fn args h) (orcs l) live b gi) (Shut h.length R)):zbI E0 f args h R:=by
 simp only [fnOk,Bool.and_eq_true,Bool.not_eq_true',Option.isSome_iff_exists] at hok
 obtain ⟨⟨⟨c,hb⟩,hn⟩,ha⟩:=hok
 have h1:=wkRl l live b hu ht hg
 have:zfc fn args h=⟨fn.ntmps,[.code c],zbF 0 args,h⟩:=by simp [zfc,hb]
 rw [this] at h1
 exact zcM (zbm hf hb hn (Nat.le_of_ble_eq_true ha) h1)
theorem wkFl {fn:Func} {R:AV→Heap→Prop} {h0:Heap} {c c':Cfg} {gm gi:Nat} {es:List (AV × AV)} {cur:Option (AV × AV)} (l:List St) (live:List Nat) (m:Nat) (hu:zgX h0 live m c (orcs l)=some (zbd l,c')) (hg:zbu E0 fn h0 [gm,gi] (ItF gm gi es cur) c' R):zbu E0 fn h0 [gm,gi] (ItF gm gi es cur) c R:=by
 unfold zgX at hu
 split at hu
 ·rename_i hm
  have hu:=Option.some.inj hu
  unfold upto at hu
  have h1:(run (mk E0) 3000 c (orcs l)).1=zbd l:=congrArg Prod.fst hu
  have h2:cut live m (run (mk E0) 3000 c (orcs l)).2.1=c':=congrArg Prod.snd hu
  exact zqy E0ok mix0 (zjl _ _ _ _) 3000 (orcs l) live m hm h1 h2 (zaT l) hg
 ·cases hu
theorem zhC {E:Env0} {fn:Func} {h0:Heap} {gs:List Nat} {F:(Addr→Prop)→World→Prop} {c:Cfg} {R:AV→Heap→Prop} (hg:zbu E fn h0 gs F (zii c) R):zbu E fn h0 gs F c R:=by
 unfold zii at hg
 split at hg
 ·rename_i b k hk
  obtain ⟨n,todo,ts,h⟩:=c
  simp only at hk
  subst hk
  intro β0 S0 w0 β S w tmps hb0 hn x0 r rt hf hw
  have:=hg β0 S0 w0 β S w tmps hb0 hn x0 r rt hf hw
  simp only [kont,Exit.then] at this ⊢
  refine zjN (wp_mono this fun e a w he=>?_)
  cases e <;> exact he
 ·exact hg
noncomputable def nxtOk (c:Cfg) (os:List Orc):Option (List Prop × AV):=match run (mk E0) 3000 c os with
 | (q,⟨n,.ops _ (o::_)::_,ts,_⟩,_)=>match o.op,o.guard,o.dst with
  | .next (.tmp ti) false,none,some d=>match Nat.blt d n with
   | true=>some (q,look ts ti)
   | false=>none
  | _,_,_=>none
 | _=>none
noncomputable def nxtK (c:Cfg) (os:List Orc) (v:AV):Cfg:=match run (mk E0) 3000 c os with
 | (_,⟨n,.ops all (o::r)::k,ts,h⟩,_)=>⟨n,.ops all r::k,(o.dst.getD 0,v)::ts,h⟩
 | (_,c',_)=>c'
theorem wkN {fn:Func} {h0:Heap} {c:Cfg} {R:AV→Heap→Prop} {gm gi:Nat} {es:List (AV × AV)} {cur:Option (AV × AV)} (l:List St) (hu:nxtOk c (orcs l)=some (zbd l,itp gi))
  (H0:es=[]→zbu E0 fn h0 [gm,gi] (ItF gm gi [] none) (nxtK c (orcs l) (.tup [.bl false])) R)
  (H1:∀ (j:Nat) (kx x:AV),es[j]?=some (kx,x)→zbu E0 fn h0 [gm,gi] (ItF gm gi (es.eraseIdx j) (some (kx,x))) (nxtK c (orcs l) (.tup [.bl true,kx,x])) R):zbu E0 fn h0 [gm,gi] (ItF gm gi es cur) c R:=by
 unfold nxtOk at hu
 unfold nxtK at H0 H1
 split at hu
 ·rename_i q n all o r k ts h os' hrun
  split at hu
  ·rename_i ti d hop hgd hd
   split at hu
   ·rename_i hdn
    simp only [Option.some.injEq,Prod.mk.injEq] at hu
    obtain ⟨rfl,hm⟩:=hu
    refine zil E0ok mix0 (zjl _ _ _ _) 3000 (orcs l) (by rw [hrun];exact zaT l) ?_
    rw [hrun] at H0 H1 ⊢
    simp only [hd,Option.getD_some] at H0 H1
    exact zoB hop hgd hd (Nat.le_of_ble_eq_true hdn) hm H0 H1
   ·cases hu
  ·cases hu
 ·cases hu
noncomputable def entOk (c:Cfg) (os:List Orc):Option (List Prop × AV):=match run (mk E0) 3000 c os with
 | (q,⟨n,.ops _ (o::_)::_,ts,_⟩,_)=>match o.op,o.guard,o.dst with
  | .entry (.tmp ti),none,some d=>match Nat.blt d n with
   | true=>some (q,look ts ti)
   | false=>none
  | _,_,_=>none
 | _=>none
theorem wkE2 {fn:Func} {h0:Heap} {c:Cfg} {R:AV→Heap→Prop} {gm gi:Nat} {es:List (AV × AV)} {kx x:AV} (l:List St) (hu:entOk c (orcs l)=some (zbd l,itp gi))
  (H:zbu E0 fn h0 [gm,gi] (ItF gm gi es (some (kx,x))) (nxtK c (orcs l) (.tup [kx,x])) R):zbu E0 fn h0 [gm,gi] (ItF gm gi es (some (kx,x))) c R:=by
 unfold entOk at hu
 unfold nxtK at H
 split at hu
 ·rename_i q n all o r k ts h os' hrun
  split at hu
  ·rename_i ti d hop hgd hd
   split at hu
   ·rename_i hdn
    simp only [Option.some.injEq,Prod.mk.injEq] at hu
    obtain ⟨rfl,hm⟩:=hu
    refine zil E0ok mix0 (zjl _ _ _ _) 3000 (orcs l) (by rw [hrun];exact zaT l) ?_
    rw [hrun] at H ⊢
    simp only [hd,Option.getD_some] at H
    exact znh hop hgd hd (Nat.le_of_ble_eq_true hdn) hm H
   ·cases hu
  ·cases hu
 ·cases hu
theorem wkRF {f:FuncId} {fn:Func} {args:List AV} {h:Heap} {R:AV→Heap→Prop} {kt et:TypeId} {es:List (AV × AV)} (L:Nat→Cfg) (t:TypeId) (hf:E0.P.funcs[f]?=some fn) (l:List St) (live:List Nat) (b:Nat) (l2:List St) (live2:List Nat) (m:Nat) (hok:fnOk fn args=true) (hu:zlk h (zfc fn args h) (orcs l) b=some (zbd l,t,es)) (ht:E0.P.underlying t=some (.map kt et))
  (hk:∀ gi,zgX h live2 m (rngK (zfc fn args h) (orcs l) live b gi) (orcs l2)=some (zbd l2,L gi))
  (hg:∀ gm gi,zbu E0 fn h [gm,gi] (ItF gm gi es none) (L gi) (Shut h.length R)):zbI E0 f args h R :=
 wkR hf l live b hok hu ht fun gm gi=>wkFl l2 live2 m (hk gi) (hg gm gi)
end Go.AM
namespace Go.AM
set_option maxRecDepth 100000
set_option maxHeartbeats 1000000
set_option linter.unusedSimpArgs false
set_option linter.unusedVariables false
def itE (p:Int × Bool):AV × AV:=(iv p.1,bv p.2)
noncomputable def zke (u:Int) (gi:Nat):Cfg:=zaw B.syntax_bare 0 [(37,itp gi),(1,iv u)] []
noncomputable def zrU (u:Int) (gi:Nat) (p:Int × Bool):Cfg:=nxtK (nxtK (zii (zke u gi)) (orcs []) (.tup [.bl true,iv p.1,bv p.2])) (orcs []) (.tup [iv p.1,bv p.2])
def andI (a b:Int):Int:=IntKind.i64.wrap (↑(BitVec.ofInt IntKind.i64.bits a &&& BitVec.ofInt IntKind.i64.bits b).toNat:Int)
def okP (u:Int) (p:Int × Bool):Bool:=bif andI u p.1==0 then p.2 else true
theorem at_itE {L:List (Int × Bool)} {j:Nat} {kx x:AV} (h:(L.map itE)[j]?=some (kx,x)):∃ p,L[j]?=some p∧kx=iv p.1∧x=bv p.2:=by
 rw [List.getElem?_map,Option.map_eq_some_iff] at h
 obtain ⟨p,h1,h2⟩:=h
 cases h2
 exact ⟨p,h1,rfl,rfl⟩
theorem zk1 {α:Type} (f:α→Bool):∀ (l:List α) (j:Nat) (p:α),l[j]?=some p→l.all f=(f p&&(l.eraseIdx j).all f)
 | [],j,p,h=>by simp at h
 | a::l,0,p,h=>by simp at h;subst h;rfl
 | a::l,j+1,p,h=>by
  have:=zk1 f l j p (by simpa using h)
  simp only [List.all_cons,this,List.eraseIdx_cons_succ]
  cases f a <;> cases f p <;> rfl
theorem zkM {α β:Type} (f:α→β):∀ (l:List α) (j:Nat),(l.map f).eraseIdx j=(l.eraseIdx j).map f
 | [],_=>rfl
 | a::l,0=>rfl
 | a::l,j+1=>by simp [zkM f l j]
theorem zi6 (u:Int):∀ (n:Nat) (L:List (Int × Bool)) (cur:Option (AV × AV)) (gm gi:Nat),L.length=n→zbu E0 B.syntax_bare [] [gm,gi] (ItF gm gi (L.map itE) cur) (zke u gi) (Shut 0 fun r h=>r=bv (L.all (okP u))∧h=[]):=by
 intro n
 induction n with
 | zero =>
  intro L cur gm gi hL
  cases L with
  | cons _ _=>simp at hL
  | nil=>exact zhC (wkN [] kr (fun _=>zmp (wkr [] kr)) (fun j kx x hj=>by simp at hj))
 | succ n ih =>
  intro L cur gm gi hL
  refine zhC (wkN [] kr (fun h0=>?_) (fun j kx x hj=>?_))
  ·cases L with
   | nil=>simp at hL
   | cons _ _=>simp at h0
  ·obtain ⟨p,hp,rfl,rfl⟩:=at_itE hj
   rw [zkM]
   have hj2:j < L.length:=(List.getElem?_eq_some_iff.1 hp).1
   have hlen:(L.eraseIdx j).length=n:=by rw [List.length_eraseIdx,if_pos hj2];omega
   have ih:=ih (L.eraseIdx j) (some (iv p.1,bv p.2)) gm gi hlen
   rw [zk1 (okP u) L j p hp]
   refine wkE2 [] kr ?_
   show zbu E0 B.syntax_bare [] [gm,gi] _ (zrU u gi p) _
   cases h1:andI u p.1==0
   ·have e:okP u p=true:=by unfold okP;rw [h1];rfl
    rw [e,Bool.true_and]
    exact wkFl [si (e:=andI u p.1) rfl,sb h1] [37,1] 0 kr ih
   ·cases h2:!p.2
    ·have e:okP u p=true:=by unfold okP;rw [h1];simpa using h2
     rw [e,Bool.true_and]
     exact wkFl [si (e:=andI u p.1) rfl,sg h1,sb h2] [37,1] 0 kr ih
    ·have e:okP u p=false:=by unfold okP;rw [h1];simpa using h2
     rw [e,Bool.false_and]
     exact zmp (wkr [si (e:=andI u p.1) rfl,sg h1,sb h2] kr)
def zgU (e:X) (z:Bool):List (Int × Bool):=[(1,e.op==0),(2,!e.not),(4,e.val.kind==0&&(e.val.int==0&&(e.val.text==ByteArray.mk #[]&&true))),(8,z),(16,((zab e.args).length:Int)==0),(32,((zaf e.sub).length:Int)==0)]
def zgE (e:X):Bool:=bif ByteArray.toList e.table==(ByteArray.mk #[]).toList then ByteArray.toList e.name==(ByteArray.mk #[]).toList else false
def zce (e:X) (u:Int):Bool:=(zgU e (zgE e)).all (okP u)
theorem zoo (e:X) (u:Int) (h1:(ByteArray.toList e.table==(ByteArray.mk #[]).toList)=false):zbI E0 S.syntax_bare [e.av,iv u] [] (fun r h=>r=bv ((zgU e false).all (okP u))∧h=[]):=by
 exact wkRF (es:=(zgU e false).map itE) (zke u) Ty.M_int_bool At.syntax_bare [sd [(12,[sq zbs]),(18,[sb h1]),(19,[sb h1]),(20,[sb h1]),(21,[sb h1]),(4,[sq (zbt 1)]),(8,[sq (zbt 2)]),(13,[sq (zbt 4)]),(22,[sq (zbt 8)]),(27,[sq (zbt 16)]),(32,[sq (zbt 32)])]] [1] 1 [] [37,1] 0 (kt:=Ty.int) (et:=Ty.bool) kr kr kr (fun gi=>by kernel_rfl) fun gm gi=>(zi6 u 6 (zgU e false) none gm gi rfl)
theorem zqe (e:X) (u:Int) (h1:(ByteArray.toList e.table==(ByteArray.mk #[]).toList)=true):zbI E0 S.syntax_bare [e.av,iv u] [] (fun r h=>r=bv ((zgU e (zgE e)).all (okP u))∧h=[]):=by
 exact wkRF (es:=(zgU e (zgE e)).map itE) (zke u) Ty.M_int_bool At.syntax_bare [sd [(12,[sq zbs]),(18,[sg h1]),(19,[sg h1]),(20,[sg h1]),(4,[sq (zbt 1)]),(8,[sq (zbt 2)]),(13,[sq (zbt 4)]),(22,[sq (zbt 8)]),(27,[sq (zbt 16)]),(32,[sq (zbt 32)])]] [1] 1 [] [37,1] 0 (kt:=Ty.int) (et:=Ty.bool) kr kr kr (fun gi=>by kernel_rfl) fun gm gi=>(zi6 u 6 (zgU e (zgE e)) none gm gi rfl)
theorem zay (e:X) (u:Int):zac E0 S.syntax_bare [e.av,iv u] [] (bv (zce e u)) []:=by
 cases h1:ByteArray.toList e.table==(ByteArray.mk #[]).toList
 ·have:zgE e=false:=by unfold zgE;rw [h1];rfl
  unfold zce
  rw [this]
  exact zoo e u h1
 ·exact zqe e u h1
end Go.AM
namespace Go.AM
set_option maxRecDepth 100000
set_option maxHeartbeats 1000000
set_option linter.unusedSimpArgs false
set_option linter.unusedVariables false
theorem zjF {p:Prop} (h:p:=by first|exact (zp5 s (by assumption)).symm|exact (zo9 s (by assumption)).symm|exact (znk (by assumption) (by assumption)).symm|exact zqH (by assumption) (by assumption) (by assumption) (by assumption) (by assumption) (by assumption)|(have h:=(by assumption:_∧List.all _ okC=false);rw [zpn h.2];exact h.1)):p:=h
theorem zha {p:Prop} (h:p:=by exact zcp hI hx (by simp only [okC];simp only [*];simp)):p:=h
theorem zlB {p:Prop} (h:p:=by exact ⟨rfl,zbL hx (by simp only [okC];simp only [*];rfl)⟩):p:=h
def okC (c:UInt8):Bool:=decide (97≤((c.toNat:Nat):Int))&&decide (((c.toNat:Nat):Int)≤122) || (decide (48≤((c.toNat:Nat):Int))&&decide (((c.toNat:Nat):Int)≤57)) || ((c.toNat:Nat):Int)==95
def zbb (s:Str):Bool:=decide (1≤s.data.toList.length)&&decide (s.data.toList.length≤12)&&decide (97≤(s.data.toList.getD 0 0).toNat)&&s.data.toList.all okC
theorem zgN (s:Str):s.size=s.data.toList.length:=Array.length_toList.symm
theorem zp5 (s:Str) (h:decide (((s.size:Nat):Int) < 1)=true):zbb s=false:=by
 rw [zgN] at h;simp only [decide_eq_true_eq] at h;simp only [zbb,Bool.and_eq_false_iff,decide_eq_false_iff_not];omega
theorem zo9 (s:Str) (h:decide ((12:Int) < ((s.size:Nat):Int))=true):zbb s=false:=by
 rw [zgN] at h;simp only [decide_eq_true_eq] at h;simp only [zbb,Bool.and_eq_false_iff,decide_eq_false_iff_not];omega
theorem zcp {α:Type} {f:α→Bool} {l:List α} {i:Nat} {x:α} (h:(l.take i).all f=true) (hx:l[i]?=some x) (hf:f x=true):(l.take (i+1)).all f=true:=by
 rw [List.take_add_one,hx,List.all_append,h];simp [hf]
theorem zbL {α:Type} {f:α→Bool} {l:List α} {i:Nat} {x:α} (hx:l[i]?=some x) (hf:f x=false):l.all f=false:=by
 rw [Bool.eq_false_iff];intro h;rw [List.all_eq_true] at h
 rw [h x (List.mem_of_getElem? hx)] at hf;simp at hf
noncomputable def L_vp (s:Str) (i:Nat) :Cfg:=zaw B.schema_ValidName 0 [(0,sv s),(19,.sl (s.data.toList.map u8c)),(20,iv ((s.data.toList.map u8c).length:Nat)),(21,iv (i:Nat))] []
theorem zeJ (s:Str) (hs:decide ((12:Int) < ((s.size:Nat):Int))=false) (i:Nat)  (hi:i≤(s.data.toList).length) (hI:(s.data.toList.take i).all okC=true):(((s.data.toList.take (s.data.toList).length).all okC=true)∧(decide ((((s.data.toList).length:Nat):Int) < (((s.data.toList.map u8c).length:Nat):Int))=false)∧∀ R,Good E0 B.schema_ValidName [] (L_vp s (s.data.toList).length ) R→Good E0 B.schema_ValidName [] (L_vp s i ) R)∨(∃ (r:Bool),(r=false∧s.data.toList.all okC=false)∧Good E0 B.schema_ValidName [] (L_vp s i ) (Shut 0 fun rZ hZ=>rZ=(bv r)∧hZ=[])):=by
 obtain ⟨kk,hk⟩:∃ kk,i+kk=(s.data.toList).length:=⟨(s.data.toList).length - i,by omega⟩
 induction kk generalizing i  with
 | zero =>
  have e0:i=(s.data.toList).length:=by omega
  subst e0
  exact .inl ⟨hI,by simp,fun R hg=>hg⟩
 | succ kk ih =>
  obtain ⟨x,hx⟩:=zaC (l:=s.data.toList) (i:=i) (by omega)
  have h0:decide (((i:Nat):Int) < (((s.data.toList.map u8c).length:Nat):Int))=true:=by (simp only [List.length_map,decide_eq_true_eq];omega)
  have hw:IntKind.i64.wrap (((i:Nat):Int)+1)=((i+1:Nat):Int):=zao i (by (simp only [decide_eq_false_iff_not,zgN] at hs;omega))
  let p_1:List St:=[sb h0,se (zah u8c hx rfl)]
  let p_2:List St:=[sb h0,se (zah u8c hx rfl)]
  cases h1:decide (97≤(x.toNat:Int))
  ·cases h2:decide (48≤(x.toNat:Int))
   ·cases h3:(x.toNat:Int)==95
    ·exact .inr ⟨false,zlB,zaa (wkr (p_1++[sb h1,sb h2,sb h3]) kr)⟩
    ·exact (ih (i+1) (by omega) zha (by omega)).elim (fun ⟨qZ,xZ,gZ⟩=>.inl ⟨qZ,xZ,fun R hg=>zaa (wkl (p_1++[sb h1,sb h2,sb h3,si hw]) [0,19,20,21] 0 kr (gZ R hg))⟩) (fun ⟨rY,pZ,gZ⟩=>.inr ⟨rY,pZ,zaa (wkl (p_2++[sb h1,sb h2,sb h3,si hw]) [0,19,20,21] 0 kr gZ)⟩)
   ·cases h4:decide ((x.toNat:Int)≤57)
    ·cases h5:(x.toNat:Int)==95
     ·exact .inr ⟨false,zlB,zaa (wkr (p_1++[sb h1,sg h2,sb h4,sb h5]) kr)⟩
     ·exact (ih (i+1) (by omega) zha (by omega)).elim (fun ⟨qZ,xZ,gZ⟩=>.inl ⟨qZ,xZ,fun R hg=>zaa (wkl (p_1++[sb h1,sg h2,sb h4,sb h5,si hw]) [0,19,20,21] 0 kr (gZ R hg))⟩) (fun ⟨rY,pZ,gZ⟩=>.inr ⟨rY,pZ,zaa (wkl (p_2++[sb h1,sg h2,sb h4,sb h5,si hw]) [0,19,20,21] 0 kr gZ)⟩)
    ·exact (ih (i+1) (by omega) zha (by omega)).elim (fun ⟨qZ,xZ,gZ⟩=>.inl ⟨qZ,xZ,fun R hg=>zaa (wkl (p_1++[sb h1,sg h2,sb h4,si hw]) [0,19,20,21] 0 kr (gZ R hg))⟩) (fun ⟨rY,pZ,gZ⟩=>.inr ⟨rY,pZ,zaa (wkl (p_2++[sb h1,sg h2,sb h4,si hw]) [0,19,20,21] 0 kr gZ)⟩)
  ·cases h6:decide ((x.toNat:Int)≤122)
   ·cases h7:decide (48≤(x.toNat:Int))
    ·cases h8:(x.toNat:Int)==95
     ·exact .inr ⟨false,zlB,zaa (wkr (p_1++[sg h1,sb h6,sb h7,sb h8]) kr)⟩
     ·exact (ih (i+1) (by omega) zha (by omega)).elim (fun ⟨qZ,xZ,gZ⟩=>.inl ⟨qZ,xZ,fun R hg=>zaa (wkl (p_1++[sg h1,sb h6,sb h7,sb h8,si hw]) [0,19,20,21] 0 kr (gZ R hg))⟩) (fun ⟨rY,pZ,gZ⟩=>.inr ⟨rY,pZ,zaa (wkl (p_2++[sg h1,sb h6,sb h7,sb h8,si hw]) [0,19,20,21] 0 kr gZ)⟩)
    ·cases h9:decide ((x.toNat:Int)≤57)
     ·cases h10:(x.toNat:Int)==95
      ·exact .inr ⟨false,zlB,zaa (wkr (p_1++[sg h1,sb h6,sg h7,sb h9,sb h10]) kr)⟩
      ·exact (ih (i+1) (by omega) zha (by omega)).elim (fun ⟨qZ,xZ,gZ⟩=>.inl ⟨qZ,xZ,fun R hg=>zaa (wkl (p_1++[sg h1,sb h6,sg h7,sb h9,sb h10,si hw]) [0,19,20,21] 0 kr (gZ R hg))⟩) (fun ⟨rY,pZ,gZ⟩=>.inr ⟨rY,pZ,zaa (wkl (p_2++[sg h1,sb h6,sg h7,sb h9,sb h10,si hw]) [0,19,20,21] 0 kr gZ)⟩)
     ·exact (ih (i+1) (by omega) zha (by omega)).elim (fun ⟨qZ,xZ,gZ⟩=>.inl ⟨qZ,xZ,fun R hg=>zaa (wkl (p_1++[sg h1,sb h6,sg h7,sb h9,si hw]) [0,19,20,21] 0 kr (gZ R hg))⟩) (fun ⟨rY,pZ,gZ⟩=>.inr ⟨rY,pZ,zaa (wkl (p_2++[sg h1,sb h6,sg h7,sb h9,si hw]) [0,19,20,21] 0 kr gZ)⟩)
   ·exact (ih (i+1) (by omega) zha (by omega)).elim (fun ⟨qZ,xZ,gZ⟩=>.inl ⟨qZ,xZ,fun R hg=>zaa (wkl (p_1++[sg h1,sb h6,si hw]) [0,19,20,21] 0 kr (gZ R hg))⟩) (fun ⟨rY,pZ,gZ⟩=>.inr ⟨rY,pZ,zaa (wkl (p_2++[sg h1,sb h6,si hw]) [0,19,20,21] 0 kr gZ)⟩)
theorem zol {s:Str} {c:UInt8} (h:ByteAt s 0 ((c.toNat:Nat):Int)):s.data.toList.getD 0 0=c:=by
 obtain ⟨_,h1⟩:=h
 rw [Option.map_eq_some_iff] at h1
 obtain ⟨b,hb,e⟩:=h1
 have hc:b=c:=UInt8.toNat_inj.1 (by omega)
 subst hc
 have hb2:s[(0:Nat)]?=some b:=hb
 by_cases h:0 < s.size
 ·rw [getElem?_pos s 0 h,Option.some.injEq] at hb2
  have h2:0 < s.data.size:=h
  rw [List.getD_eq_getElem?_getD,Array.getElem?_toList,Array.getElem?_eq_getElem h2]
  exact hb2
 ·rw [getElem?_neg s 0 h] at hb2;simp at hb2
theorem znk {s:Str} {c:UInt8} (h:ByteAt s 0 ((c.toNat:Nat):Int)) (h1:decide (((c.toNat:Nat):Int) < 97)=true):zbb s=false:=by
 have:=zol h
 simp only [zbb,this,Bool.and_eq_false_iff,decide_eq_false_iff_not];simp at h1;omega
theorem zpn {s:Str} (h:s.data.toList.all okC=false):zbb s=false:=by simp [zbb,h]
theorem zqH {s:Str} {c d:UInt8} (h1:decide (((s.size:Nat):Int) < 1)=false) (h2:decide ((12:Int) < ((s.size:Nat):Int))=false) (h:ByteAt s 0 ((c.toNat:Nat):Int)) (h3:decide (((c.toNat:Nat):Int) < 97)=false) (h4:(s.data.toList.take s.data.toList.length).all okC=true) (h5:ByteAt s 0 ((d.toNat:Nat):Int)):(((d.toNat:Nat):Int) != 95)=zbb s:=by
 have e1:=zol h
 have e2:=zol h5
 rw [List.take_length] at h4
 subst e2
 rw [zgN] at h1 h2
 rw [← e1] at h3
 simp only [decide_eq_false_iff_not] at h1 h2 h3
 have a1:decide (1≤s.data.toList.length)=true:=by simp only [decide_eq_true_eq];omega
 have a2:decide (s.data.toList.length≤12)=true:=by simp only [decide_eq_true_eq];omega
 have a3:decide (97≤(s.data.toList.getD 0 0).toNat)=true:=by simp only [decide_eq_true_eq];omega
 simp only [zbb,a1,a2,a3,h4,Bool.and_true,bne_iff_ne,ne_eq];omega
theorem zhG (s:Str) :∃ (r:Bool),r=zbb s∧zac E0 S.schema_ValidName [sv s] [] (bv r) []:=by
 cases h1:decide ((↑(ByteArray.size s):Int) < 1)
 ·cases h2:decide (12 < (↑(ByteArray.size s):Int))
  ·obtain ⟨c3,b3⟩:=zpw (s:=s) (i:=(0:Int)) (by first|omega|(simp only [decide_eq_false_iff_not,decide_eq_true_eq] at *;omega))
   cases h4:decide ((c3.toNat:Int) < 97)
   ·let p_1:List St:=[sg h1,sg h2,sy b3,sb h4,sqx ((ByteArray.size s).le 1000000000000)]
    rcases zeJ s (by first|assumption|omega|(simp;done)|(simp;omega)) 0 (by first|assumption|omega|(simp;done)|(simp;omega)) (by first|assumption|omega|(simp;done)|(simp;omega)) with ⟨q5,q5_1,g5⟩|⟨r5_0,p5_0,g5⟩
    ·exact ⟨(c3.toNat:Int) != (95:Int),zjF,wkc At.schema_ValidName p_1 [0,19,20,21] 0 kr (g5 _ (zaa (wkr [sb q5_1,sy b3] kr)))⟩
    ·exact ⟨r5_0,zjF,wkc At.schema_ValidName p_1 [0,19,20,21] 0 kr (g5)⟩
   ·exact ⟨false,zjF,wk At.schema_ValidName [sg h1,sg h2,sy b3,sb h4] kr⟩
  ·exact ⟨false,zjF,wk At.schema_ValidName [sg h1,sb h2] kr⟩
 ·exact ⟨false,zjF,wk At.schema_ValidName [sb h1] kr⟩
theorem zai (s:Str):zac E0 S.schema_ValidName [sv s] [] (bv (zbb s)) []:=by
 obtain ⟨r,rfl,h⟩:=zhG s
 exact h
end Go.AM
namespace Go.AM
set_option maxRecDepth 100000
set_option maxHeartbeats 1000000
set_option linter.unusedSimpArgs false
set_option linter.unusedVariables false
theorem zb7 {p:Prop} (h:p:=by first|exact (zqD (by assumption)).symm|(rw [zqW (by assumption) (by assumption)];clear hq hq2;generalize (e.kind==8)=k8 at *;generalize (e.kind==9)=k9 at *;subst_vars;simp only [zmb,cond_false,cond_true,Bool.or_self,Bool.or_false,Bool.true_or,Bool.false_or,Bool.or_true,Bool.true_and,Bool.false_and,Bool.and_true,Bool.and_false, *])):p:=h
theorem zek {p:Prop} (h:p:=by first|assumption|omega|exact List.mem_of_getElem? (by assumption)|(simp only [bne_eq_false_iff_eq,zdp] at *;omega)):p:=h
theorem zgS {p:Prop} (h:p:=by (simp only [zki,zpU, *];simp_all)):p:=h
abbrev sINS:Str:=⟨#[73,78,83,69,82,84,69,68]⟩
abbrev sDEL:Str:=⟨#[68,69,76,69,84,69,68]⟩
abbrev sNW:Str:=⟨#[78,69,87]⟩
abbrev sOL:Str:=⟨#[79,76,68]⟩
abbrev sNo:Str:=⟨#[]⟩
def zdX (s:Str):Bool:=zbb s || s.toList==sINS.toList || s.toList==sDEL.toList
theorem zjw (s:Str) :∃ (r:Bool),r=zdX s∧zac E0 S.syntax_source [sv s] [] (bv r) []:=by
 cases h1:zbb s
 ·let p_1:List St:=[sc (zai s),sg h1]
  cases h2:ByteArray.toList s==(ByteArray.mk #[73,78,83,69,82,84,69,68]).toList
  ·exact ⟨ByteArray.toList s==(ByteArray.mk #[(68:UInt8),(69:UInt8),(76:UInt8),(69:UInt8),(84:UInt8),(69:UInt8),(68:UInt8)]).toList,(by (simp only [zdX, *];simp)),wk At.syntax_source (p_1++[sg h2]) kr⟩
  ·exact ⟨true,(by (simp only [zdX, *];simp)),wk At.syntax_source (p_1++[sb h2]) kr⟩
 ·exact ⟨true,(by (simp only [zdX, *];simp)),wk At.syntax_source [sc (zai s),sb h1] kr⟩
theorem zaN (s:Str):zac E0 S.syntax_source [sv s] [] (bv (zdX s)) []:=by
 obtain ⟨r,rfl,h⟩:=zjw s
 exact h
def zpU (s:Str):Bool:=s.toList==sNo.toList || s.toList==sNW.toList || s.toList==sOL.toList || s.toList==sINS.toList || s.toList==sDEL.toList || zbb s
def zki (e:X):Bool:=zpU e.table&&zbb e.name
theorem zjZ (e:X) :∃ (r:Bool),r=zki e∧zac E0 S.syntax_column [e.av] [] (bv r) []:=by
 cases h1:ByteArray.toList e.table==(ByteArray.mk #[]).toList
 ·cases h2:ByteArray.toList e.table==(ByteArray.mk #[78,69,87]).toList
  ·cases h3:ByteArray.toList e.table==(ByteArray.mk #[79,76,68]).toList
   ·cases h4:ByteArray.toList e.table==(ByteArray.mk #[73,78,83,69,82,84,69,68]).toList
    ·cases h5:ByteArray.toList e.table==(ByteArray.mk #[68,69,76,69,84,69,68]).toList
     ·let p_1:List St:=[sb h1,sb h2,sb h3,sb h4,sb h5,sc (zai e.table)]
      cases h6:!zbb e.table
      ·exact ⟨zbb e.name,zgS,wk At.syntax_column (p_1++[sb h6,sc (zai e.name)]) kr⟩
      ·exact ⟨false,zgS,wk At.syntax_column (p_1++[sb h6]) kr⟩
     ·exact ⟨zbb e.name,zgS,wk At.syntax_column [sb h1,sb h2,sb h3,sb h4,sb h5,sc (zai e.name)] kr⟩
    ·exact ⟨zbb e.name,zgS,wk At.syntax_column [sb h1,sb h2,sb h3,sb h4,sc (zai e.name)] kr⟩
   ·exact ⟨zbb e.name,zgS,wk At.syntax_column [sb h1,sb h2,sb h3,sc (zai e.name)] kr⟩
  ·exact ⟨zbb e.name,zgS,wk At.syntax_column [sb h1,sb h2,sc (zai e.name)] kr⟩
 ·exact ⟨zbb e.name,zgS,wk At.syntax_column [sb h1,sc (zai e.name)] kr⟩
theorem zjD (e:X):zac E0 S.syntax_column [e.av] [] (bv (zki e)) []:=by
 obtain ⟨r,rfl,h⟩:=zjZ e
 exact h
def argN (k:Int):Int:=bif k==3 || k==4 || k==6 then 1 else bif k==5 then 2 else bif k==7 then 3 else -1
theorem zh1 (k:Int) :∃ (r:Int),r=argN k∧zac E0 S.syntax_arguments [iv k] [] (iv r) []:=by
 cases h1:k==3
 ·cases h2:k==4
  ·cases h3:k==6
   ·cases h4:k==5
    ·cases h5:k==7
     ·exact ⟨-1,(by (simp only [argN, *];rfl)),wk At.syntax_arguments [sb h1,sb h2,sb h3,sb h4,sb h5] kr⟩
     ·exact ⟨3,(by (simp only [argN, *];rfl)),wk At.syntax_arguments [sb h1,sb h2,sb h3,sb h4,sb h5] kr⟩
    ·exact ⟨2,(by (simp only [argN, *];rfl)),wk At.syntax_arguments [sb h1,sb h2,sb h3,sb h4] kr⟩
   ·exact ⟨1,(by (simp only [argN, *];rfl)),wk At.syntax_arguments [sb h1,sb h2,sb h3] kr⟩
  ·exact ⟨1,(by (simp only [argN, *];rfl)),wk At.syntax_arguments [sb h1,sb h2] kr⟩
 ·exact ⟨1,(by (simp only [argN, *];rfl)),wk At.syntax_arguments [sb h1] kr⟩
theorem zbz (k:Int):zac E0 S.syntax_arguments [iv k] [] (iv (argN k)) []:=by
 obtain ⟨r,rfl,h⟩:=zh1 k
 exact h
theorem zgg (e:X) (b:Bool) (h:zac E0 S.syntax_ValidExpr [e.av] [] (bv b) []):∃ (r:Bool),r=!b∧zac E0 S.syntax_validExprs_c1 [e.av] [] (bv r) []:=by
 exact ⟨!b,(by rfl),wk At.syntax_validExprs_c1 [sc h] kr⟩
theorem zgb (e:X) (b:Bool) (h:zac E0 S.syntax_ValidExpr [e.av] [] (bv b) []):zac E0 S.syntax_validExprs_c1 [e.av] [] (bv (!b)) []:=by
 obtain ⟨r,rfl,h⟩:=zgg e b h
 exact h
theorem notT {b:Bool} (h:(!b)=false):b=true:=by simpa using h
theorem notF {b:Bool} (h:(!b)=true):b=false:=by simpa using h
noncomputable def zoy (l:List X) (f:X→Bool) (i:Nat) :Cfg:=zaw B.slices_IndexFunc_Expr_199 0 [(0,xsl l),(1,.fn S.syntax_validExprs_c1 []),(7,iv ((zab l).length:Nat)),(8,iv (i:Nat))] []
theorem zcT (l:List X) (f:X→Bool) (hl:zad l) (hf:∀ x∈l,Pure S.syntax_ValidExpr [x.av] (bv (f x))) (i:Nat)  (hi:i≤(l).length) (hI:(l.take i).all f=true):(((l.take (l).length).all f=true)∧(decide ((((l).length:Nat):Int) < (((zab l).length:Nat):Int))=false)∧∀ R,Good E0 B.slices_IndexFunc_Expr_199 [] (zoy l f (l).length ) R→Good E0 B.slices_IndexFunc_Expr_199 [] (zoy l f i ) R)∨(∃ (r:Int),(decide (0≤r)=true∧l.all f=false)∧Good E0 B.slices_IndexFunc_Expr_199 [] (zoy l f i ) (Shut 0 fun rZ hZ=>rZ=(iv r)∧hZ=[])):=by
 obtain ⟨kk,hk⟩:∃ kk,i+kk=(l).length:=⟨(l).length - i,by omega⟩
 induction kk generalizing i  with
 | zero =>
  have e0:i=(l).length:=by omega
  subst e0
  exact .inl ⟨hI,by simp,fun R hg=>hg⟩
 | succ kk ih =>
  obtain ⟨x,hx⟩:=zaC (l:=l) (i:=i) (by omega)
  have h0:decide (((i:Nat):Int) < (((zab l).length:Nat):Int))=true:=by simp;omega
  have hw:IntKind.i64.wrap (((i:Nat):Int)+1)=((i+1:Nat):Int):=zao i (by first|omega|(simp only [zad,Few] at *;omega))
  have hfx:=zgb x (f x) (hf x (List.mem_of_getElem? hx))
  cases h1:!f x
  ·exact (ih (i+1) (by omega) (by exact zcp hI hx (notT (by assumption))) (by omega)).elim (fun ⟨qZ,xZ,gZ⟩=>.inl ⟨qZ,xZ,fun R hg=>zaa (wkl [sb h0,se (za9 hx),sc hfx,sb h1,si hw] [0,1,7,8] 0 kr (gZ R hg))⟩) (fun ⟨rY,pZ,gZ⟩=>.inr ⟨rY,pZ,zaa (wkl [sb h0,se (za9 hx),sc hfx,sb h1,si hw] [0,1,7,8] 0 kr gZ)⟩)
  ·exact .inr ⟨(i:Int),(by exact ⟨by simp,zbL hx (notF (by assumption))⟩),zaa (wkr [sb h0,se (za9 hx),sc hfx,sb h1] kr)⟩
theorem c_ixE (l:List X) (f:X→Bool) (hl:zad l) (hf:∀ x∈l,Pure S.syntax_ValidExpr [x.av] (bv (f x))):∃ (r:Int),decide (0≤r)=!l.all f∧zac E0 S.slices_IndexFunc_Expr_199 [xsl l,.fn S.syntax_validExprs_c1 []] [] (iv r) []:=by
 rcases zcT l f (by first|assumption|omega|(simp;done)|(simp;omega)) hf 0 (by first|assumption|omega|(simp;done)|(simp;omega)) (by first|assumption|omega|(simp;done)|(simp;omega)) with ⟨q1,q1_1,g1⟩|⟨r1_0,p1_0,g1⟩
 ·exact ⟨-1,(by first|(have h:=(by assumption:List.all (List.take _ _) _=true);rw [List.take_length] at h;rw [h];rfl)|(have h:=(by assumption:_∧List.all _ _=false);rw [h.1,h.2];rfl)),wkc At.slices_IndexFunc_Expr_199 [] [0,1,7,8] 0 kr (g1 _ (zaa (wkr [sb q1_1] kr)))⟩
 ·exact ⟨r1_0,(by first|(have h:=(by assumption:List.all (List.take _ _) _=true);rw [List.take_length] at h;rw [h];rfl)|(have h:=(by assumption:_∧List.all _ _=false);rw [h.1,h.2];rfl)),wkc At.slices_IndexFunc_Expr_199 [] [0,1,7,8] 0 kr (g1)⟩
theorem c_cfE (l:List X) (f:X→Bool) (hi:∃ r:Int,decide (0≤r)=(!l.all f)∧zac E0 S.slices_IndexFunc_Expr_199 [xsl l,.fn S.syntax_validExprs_c1 []] [] (iv r) []):∃ (r:Bool),r=!l.all f∧zac E0 S.slices_ContainsFunc_Expr_175 [xsl l,.fn S.syntax_validExprs_c1 []] [] (bv r) []:=by
 obtain ⟨r1,q1,c1⟩:=hi
 exact ⟨decide ((0:Int)≤r1),(by assumption),wk At.slices_ContainsFunc_Expr_175 [sc c1] kr⟩
theorem c_vxs (l:List X) (f:X→Bool) (hc:zac E0 S.slices_ContainsFunc_Expr_175 [xsl l,.fn S.syntax_validExprs_c1 []] [] (bv (!l.all f)) []):∃ (r:Bool),r=l.all f∧zac E0 S.syntax_validExprs [xsl l] [] (bv r) []:=by
 exact ⟨!!l.all f,(by first|rfl|(simp;done)),wk At.syntax_validExprs [sc hc] kr⟩
theorem zdY (l:List X) (f:X→Bool) (hl:zad l) (hf:∀ x∈l,Pure S.syntax_ValidExpr [x.av] (bv (f x))):zac E0 S.syntax_validExprs [xsl l] [] (bv (l.all f)) []:=by
 obtain ⟨r,rfl,h⟩:=c_cfE l f (c_ixE l f hl hf)
 obtain ⟨r,rfl,h⟩:=c_vxs l f h
 exact h
def zmb (f:X→Bool) (k8 k9:Bool) (q:Qy):Bool:=(q.star==k8)&&(((zab q.items).length:Int)==bif k8 || k9 then 0 else 1)&&zdX q.frm&&decide (((zab q.wh).length:Int)≤1)&&q.items.all f&&q.wh.all f
def zcI (f:X→Bool) (e:X):Bool:=match e.sub with
 | [q]=>zmb f (e.kind==8) (e.kind==9) q
 | _=>false
theorem zqD {f:X→Bool} {e:X} (h:(((zaf e.sub).length:Int) != 1)=true):zcI f e=false:=by
 unfold zcI
 split
 ·rename_i h2;rw [h2] at h;simp at h
 ·rfl
theorem zqW {f:X→Bool} {e:X} {q:Qy} (h:(((zaf e.sub).length:Int) != 1)=false) (h2:e.sub[0]?=some q):zcI f e=zmb f (e.kind==8) (e.kind==9) q:=by
 have h3:e.sub=[q]:=by
  cases hs:e.sub with
  | nil=>rw [hs] at h2;simp at h2
  | cons a r =>
   rw [hs] at h2 h;simp at h2;subst h2
   cases r with
   | nil=>rfl
   | cons b r=>simp at h;omega
 unfold zcI;rw [h3]
theorem zkx (e:X) (f:X→Bool) (hq:∀ q∈e.sub,zac E0 S.syntax_validExprs [xsl q.items] [] (bv (q.items.all f)) []) (hq2:∀ q∈e.sub,zac E0 S.syntax_validExprs [xsl q.wh] [] (bv (q.wh.all f)) []):∃ (r:Bool),r=zcI f e∧zac E0 S.syntax_inner [e.av] [] (bv r) []:=by
 cases h1:(↑(zaf e.sub).length:Int) != 1
 ·obtain ⟨x2,e2⟩:=zaC (l:=e.sub) (i:=0) zek
  cases h3:e.kind==8
  ·cases h4:e.kind==9
   ·cases h5:x2.star==(e.kind==8)
    ·exact ⟨false,zb7,wk At.syntax_inner [sb h1,se (zaF e2),sg h3,sb h4,sb h5] kr⟩
    ·cases h6:(↑(zab x2.items).length:Int)==1
     ·exact ⟨false,zb7,wk At.syntax_inner [sb h1,se (zaF e2),sg h3,sb h4,sg h5,sb h6] kr⟩
     ·cases h7:zdX x2.frm
      ·exact ⟨false,zb7,wk At.syntax_inner [sb h1,se (zaF e2),sg h3,sb h4,sg h5,sg h6,sc (zaN x2.frm),sb h7] kr⟩
      ·cases h8:decide ((↑(zab x2.wh).length:Int)≤1)
       ·exact ⟨false,zb7,wk At.syntax_inner [sb h1,se (zaF e2),sg h3,sb h4,sg h5,sg h6,sc (zaN x2.frm),sg h7,sb h8] kr⟩
       ·cases h9:x2.items.all f
        ·exact ⟨false,zb7,wk At.syntax_inner [sb h1,se (zaF e2),sg h3,sb h4,sg h5,sg h6,sc (zaN x2.frm),sg h7,sg h8,sc (hq x2 zek),sb h9] kr⟩
        ·exact ⟨x2.wh.all f,zb7,wk At.syntax_inner [sb h1,se (zaF e2),sg h3,sb h4,sg h5,sg h6,sc (zaN x2.frm),sg h7,sg h8,sc (hq x2 zek),sg h9,sc (hq2 x2 zek)] kr⟩
   ·cases h10:x2.star==(e.kind==8)
    ·exact ⟨false,zb7,wk At.syntax_inner [sb h1,se (zaF e2),sg h3,sb h4,sb h10] kr⟩
    ·cases h11:(↑(zab x2.items).length:Int)==0
     ·exact ⟨false,zb7,wk At.syntax_inner [sb h1,se (zaF e2),sg h3,sb h4,sg h10,sb h11] kr⟩
     ·cases h12:zdX x2.frm
      ·exact ⟨false,zb7,wk At.syntax_inner [sb h1,se (zaF e2),sg h3,sb h4,sg h10,sg h11,sc (zaN x2.frm),sb h12] kr⟩
      ·cases h13:decide ((↑(zab x2.wh).length:Int)≤1)
       ·exact ⟨false,zb7,wk At.syntax_inner [sb h1,se (zaF e2),sg h3,sb h4,sg h10,sg h11,sc (zaN x2.frm),sg h12,sb h13] kr⟩
       ·cases h14:x2.items.all f
        ·exact ⟨false,zb7,wk At.syntax_inner [sb h1,se (zaF e2),sg h3,sb h4,sg h10,sg h11,sc (zaN x2.frm),sg h12,sg h13,sc (hq x2 zek),sb h14] kr⟩
        ·exact ⟨x2.wh.all f,zb7,wk At.syntax_inner [sb h1,se (zaF e2),sg h3,sb h4,sg h10,sg h11,sc (zaN x2.frm),sg h12,sg h13,sc (hq x2 zek),sg h14,sc (hq2 x2 zek)] kr⟩
  ·cases h15:x2.star==(e.kind==8)
   ·exact ⟨false,zb7,wk At.syntax_inner [sb h1,se (zaF e2),sb h3,sb h15] kr⟩
   ·cases h16:(↑(zab x2.items).length:Int)==0
    ·exact ⟨false,zb7,wk At.syntax_inner [sb h1,se (zaF e2),sb h3,sg h15,sb h16] kr⟩
    ·cases h17:zdX x2.frm
     ·exact ⟨false,zb7,wk At.syntax_inner [sb h1,se (zaF e2),sb h3,sg h15,sg h16,sc (zaN x2.frm),sb h17] kr⟩
     ·cases h18:decide ((↑(zab x2.wh).length:Int)≤1)
      ·exact ⟨false,zb7,wk At.syntax_inner [sb h1,se (zaF e2),sb h3,sg h15,sg h16,sc (zaN x2.frm),sg h17,sb h18] kr⟩
      ·cases h19:x2.items.all f
       ·exact ⟨false,zb7,wk At.syntax_inner [sb h1,se (zaF e2),sb h3,sg h15,sg h16,sc (zaN x2.frm),sg h17,sg h18,sc (hq x2 zek),sb h19] kr⟩
       ·exact ⟨x2.wh.all f,zb7,wk At.syntax_inner [sb h1,se (zaF e2),sb h3,sg h15,sg h16,sc (zaN x2.frm),sg h17,sg h18,sc (hq x2 zek),sg h19,sc (hq2 x2 zek)] kr⟩
 ·exact ⟨false,zb7,wk At.syntax_inner [sb h1] kr⟩
end Go.AM
namespace Go.AM
set_option maxRecDepth 100000
set_option maxHeartbeats 1000000
set_option linter.unusedSimpArgs false
set_option linter.unusedVariables false
theorem zbv {p:Prop} (h:p:=by (clear hva hin;simp only [vXF,zlz,cond_true,cond_false,Bool.or_true,Bool.or_false,Bool.true_or,Bool.false_or,Bool.or_self, *])):p:=h
def zlz (f:X→Bool) (e:X):Bool:=bif ((zab e.args).length:Int)==argN e.kind then e.args.all f else false
def vXF (f:X→Bool) (e:X):Bool :=
 bif e.kind==1 then (bif zce e 4 then (bif zbV e.val then !(bif e.val.kind==1 then decide (e.val.int < 0) else false) else false) else false)
 else bif e.kind==2 then (bif zce e 8 then zki e else false)
 else bif e.kind==8 || e.kind==9 || e.kind==10 || e.kind==11 || e.kind==12 then (bif zce e 32 then zcI f e else false)
 else bif e.kind==5 then (bif decide (e.op < 1) then false else bif decide (13 < e.op) then false else bif !zce e 17 then false else zlz f e)
 else bif e.kind==6 then (bif !zce e 18 then false else zlz f e)
 else bif !zce e 16 then false else zlz f e
theorem zhQ (e:X) (f:X→Bool) (hs:e.val.small) (hva:zac E0 S.syntax_validExprs [xsl e.args] [] (bv (e.args.all f)) []) (hin:zac E0 S.syntax_inner [e.av] [] (bv (zcI f e)) []):∃ (r:Bool),r=vXF f e∧zac E0 S.syntax_ValidExpr [e.av] [] (bv r) []:=by
 cases h1:e.kind==1
 ·cases h2:e.kind==2
  ·cases h3:e.kind==8
   ·cases h4:e.kind==9
    ·cases h5:e.kind==10
     ·cases h6:e.kind==11
      ·cases h7:e.kind==12
       ·cases h8:e.kind==5
        ·cases h9:e.kind==6
         ·cases h10:!zce e 16
          ·cases h11:(↑(zab e.args).length:Int)==argN e.kind
           ·exact ⟨false,zbv,wk At.syntax_ValidExpr [sb h1,sb h2,sb h3,sb h4,sb h5,sb h6,sb h7,sb h8,sb h9,sc (zay e 16),sb h10,sd [(5,[sc (zbz e.kind)]),(8,[sb h11]),(9,[sb h11]),(10,[sb h11]),(11,[sb h11])]] kr⟩
           ·exact ⟨bif (↑(zab e.args).length:Int)==argN e.kind then e.args.all f else false,zbv,wk At.syntax_ValidExpr [sb h1,sb h2,sb h3,sb h4,sb h5,sb h6,sb h7,sb h8,sb h9,sc (zay e 16),sb h10,sd [(5,[sc (zbz e.kind)]),(8,[sg h11]),(9,[sg h11]),(10,[so h11 (sc hva)])]] kr⟩
          ·exact ⟨false,zbv,wk At.syntax_ValidExpr [sb h1,sb h2,sb h3,sb h4,sb h5,sb h6,sb h7,sb h8,sb h9,sc (zay e 16),sb h10] kr⟩
         ·cases h12:!zce e 18
          ·cases h13:(↑(zab e.args).length:Int)==argN e.kind
           ·exact ⟨false,zbv,wk At.syntax_ValidExpr [sb h1,sb h2,sb h3,sb h4,sb h5,sb h6,sb h7,sb h8,sb h9,sc (zay e 18),sb h12,sd [(5,[sc (zbz e.kind)]),(8,[sb h13]),(9,[sb h13]),(10,[sb h13]),(11,[sb h13])]] kr⟩
           ·exact ⟨bif (↑(zab e.args).length:Int)==argN e.kind then e.args.all f else false,zbv,wk At.syntax_ValidExpr [sb h1,sb h2,sb h3,sb h4,sb h5,sb h6,sb h7,sb h8,sb h9,sc (zay e 18),sb h12,sd [(5,[sc (zbz e.kind)]),(8,[sg h13]),(9,[sg h13]),(10,[so h13 (sc hva)])]] kr⟩
          ·exact ⟨false,zbv,wk At.syntax_ValidExpr [sb h1,sb h2,sb h3,sb h4,sb h5,sb h6,sb h7,sb h8,sb h9,sc (zay e 18),sb h12] kr⟩
        ·cases h14:decide (e.op < 1)
         ·cases h15:decide (13 < e.op)
          ·cases h16:!zce e 17
           ·cases h17:(↑(zab e.args).length:Int)==argN e.kind
            ·exact ⟨false,zbv,wk At.syntax_ValidExpr [sb h1,sb h2,sb h3,sb h4,sb h5,sb h6,sb h7,sb h8,sg h14,sg h15,sc (zay e 17),sb h16,sd [(5,[sc (zbz e.kind)]),(8,[sb h17]),(9,[sb h17]),(10,[sb h17]),(11,[sb h17])]] kr⟩
            ·exact ⟨bif (↑(zab e.args).length:Int)==argN e.kind then e.args.all f else false,zbv,wk At.syntax_ValidExpr [sb h1,sb h2,sb h3,sb h4,sb h5,sb h6,sb h7,sb h8,sg h14,sg h15,sc (zay e 17),sb h16,sd [(5,[sc (zbz e.kind)]),(8,[sg h17]),(9,[sg h17]),(10,[so h17 (sc hva)])]] kr⟩
           ·exact ⟨false,zbv,wk At.syntax_ValidExpr [sb h1,sb h2,sb h3,sb h4,sb h5,sb h6,sb h7,sb h8,sg h14,sg h15,sc (zay e 17),sb h16] kr⟩
          ·exact ⟨false,zbv,wk At.syntax_ValidExpr [sb h1,sb h2,sb h3,sb h4,sb h5,sb h6,sb h7,sb h8,sg h14,sb h15] kr⟩
         ·exact ⟨false,zbv,wk At.syntax_ValidExpr [sb h1,sb h2,sb h3,sb h4,sb h5,sb h6,sb h7,sb h8,sb h14] kr⟩
       ·cases h18:zce e 32
        ·exact ⟨false,zbv,wk At.syntax_ValidExpr [sb h1,sb h2,sb h3,sb h4,sb h5,sb h6,sb h7,sc (zay e 32),sb h18] kr⟩
        ·exact ⟨zcI f e,zbv,wk At.syntax_ValidExpr [sb h1,sb h2,sb h3,sb h4,sb h5,sb h6,sb h7,sc (zay e 32),sg h18,sc hin] kr⟩
      ·cases h19:zce e 32
       ·exact ⟨false,zbv,wk At.syntax_ValidExpr [sb h1,sb h2,sb h3,sb h4,sb h5,sb h6,sc (zay e 32),sb h19] kr⟩
       ·exact ⟨zcI f e,zbv,wk At.syntax_ValidExpr [sb h1,sb h2,sb h3,sb h4,sb h5,sb h6,sc (zay e 32),sg h19,sc hin] kr⟩
     ·cases h20:zce e 32
      ·exact ⟨false,zbv,wk At.syntax_ValidExpr [sb h1,sb h2,sb h3,sb h4,sb h5,sc (zay e 32),sb h20] kr⟩
      ·exact ⟨zcI f e,zbv,wk At.syntax_ValidExpr [sb h1,sb h2,sb h3,sb h4,sb h5,sc (zay e 32),sg h20,sc hin] kr⟩
    ·cases h21:zce e 32
     ·exact ⟨false,zbv,wk At.syntax_ValidExpr [sb h1,sb h2,sb h3,sb h4,sc (zay e 32),sb h21] kr⟩
     ·exact ⟨zcI f e,zbv,wk At.syntax_ValidExpr [sb h1,sb h2,sb h3,sb h4,sc (zay e 32),sg h21,sc hin] kr⟩
   ·cases h22:zce e 32
    ·exact ⟨false,zbv,wk At.syntax_ValidExpr [sb h1,sb h2,sb h3,sc (zay e 32),sb h22] kr⟩
    ·exact ⟨zcI f e,zbv,wk At.syntax_ValidExpr [sb h1,sb h2,sb h3,sc (zay e 32),sg h22,sc hin] kr⟩
  ·cases h23:zce e 8
   ·exact ⟨false,zbv,wk At.syntax_ValidExpr [sb h1,sb h2,sc (zay e 8),sb h23] kr⟩
   ·exact ⟨zki e,zbv,wk At.syntax_ValidExpr [sb h1,sb h2,sc (zay e 8),sg h23,sc (zjD e)] kr⟩
 ·cases h24:zce e 4
  ·exact ⟨false,zbv,wk At.syntax_ValidExpr [sb h1,sc (zay e 4),sb h24] kr⟩
  ·cases h25:zbV e.val
   ·exact ⟨false,zbv,wk At.syntax_ValidExpr [sb h1,sc (zay e 4),sg h24,sc (zcg e.val (by first|assumption|omega|(simp;done)|(simp;omega))),sb h25] kr⟩
   ·cases h26:e.val.kind==1
    ·exact ⟨!false,zbv,wk At.syntax_ValidExpr [sb h1,sc (zay e 4),sg h24,sc (zcg e.val (by first|assumption|omega|(simp;done)|(simp;omega))),sg h25,sb h26] kr⟩
    ·exact ⟨!decide (e.val.int < (0:Int)),zbv,wk At.syntax_ValidExpr [sb h1,sc (zay e 4),sg h24,sc (zcg e.val (by first|assumption|omega|(simp;done)|(simp;omega))),sg h25,sg h26] kr⟩
def vX:Nat→X→Bool
 | 0,_=>false
 | n+1,e=>vXF (vX n) e
theorem zb0:∀ (n:Nat) (e:X),XOk n e→Pure S.syntax_ValidExpr [e.av] (bv (vX n e))
 | 0,_,h=>h.elim
 | n+1,e,⟨hg,ha,hx,hs⟩=>by
  obtain ⟨r,rfl,h⟩:=zkx e (vX n) (fun q hq=>zdY _ _ (Thin.short (hs q hq).1.1) fun x h'=>zb0 n x ((hs q hq).2.1 x h')) (fun q hq=>zdY _ _ (Thin.short (hs q hq).1.2) fun x h'=>zb0 n x ((hs q hq).2.2 x h'))
  obtain ⟨r,rfl,h⟩:=zhQ e (vX n) hg.small (zdY _ _ (Thin.short ha.1) fun x h'=>zb0 n x (hx x h')) h
  exact h
theorem zfK {n:Nat} {l:List X} (hf:zad l) (h:∀ x∈l,XOk n x):zac E0 S.syntax_validExprs [xsl l] [] (bv (l.all (vX n))) []:=zdY l _ hf fun x hx=>zb0 n x (h x hx)
def zcS (f:X→Bool) (l:List X):Bool:=bif decide (((zab l).length:Int)≤1) then l.all f else false
theorem zhH (l:List X) (f:X→Bool) (h:zac E0 S.syntax_validExprs [xsl l] [] (bv (l.all f)) []):∃ (r:Bool),r=zcS f l∧zac E0 S.syntax_condition [xsl l] [] (bv r) []:=by
 cases h1:decide ((↑(zab l).length:Int)≤1)
 ·exact ⟨false,(by (clear h;simp only [zcS,cond_true,cond_false, *])),wk At.syntax_condition [sb h1] kr⟩
 ·exact ⟨l.all f,(by (clear h;simp only [zcS,cond_true,cond_false, *])),wk At.syntax_condition [sg h1,sc h] kr⟩
theorem zeM {n:Nat} {l:List X} (hf:zad l) (h:∀ x∈l,XOk n x):zac E0 S.syntax_condition [xsl l] [] (bv (zcS (vX n) l)) []:=by
 obtain ⟨r,rfl,h⟩:=zhH l (vX n) (zfK hf h)
 exact h
end Go.AM
