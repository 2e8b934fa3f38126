/-
  Contracts of the program's functions, part 6.
-/
import Derived.Test.YtenlehhclknogaaGreatDoorCmF
import Derived.Lib.Strings
import Derived.Carry
import Derived.ChangeSame
import Derived.Lib.LaidU8
import Derived.FnData
set_option linter.unusedSimpArgs false
set_option linter.unusedVariables false
namespace Go.AM
set_option maxRecDepth 100000
set_option maxHeartbeats 1000000
set_option linter.unusedSimpArgs false
set_option linter.unusedVariables false
theorem zbK {p:Prop} (h:p:=by first|exact zlP hI (bt1 (by assumption))|exact zlP hI bt2|exact zlP hI (bt3 (by assumption) (by assumption))|exact zlP hI (bt4 (by assumption))):p:=h
theorem zbw {p:Prop} (h:p:=by first|assumption|exact plS0|exact plS1 hfw|exact plS2 hfw|exact zmj htb|(simp only [List.length_map] at *;omega)):p:=h
structure BTrig (tb:Str) (ev:Int) (x:Tg):Prop where
 before:x.before=true
 table:x.table=tb
 event:x.event=ev
 each:x.each=true
 of:x.of=[]
 whens:Few x.when_
 when_:∀ z∈x.when_,XOk 5 z
 acts:∃ a,x.acts=[a]∧(a=Ac.mk 4 ⟨#[]⟩ [] [] [] [] ⟨#[]⟩∨∃ c e,a=setA c e∧XOk 5 e)
theorem zoh {frs:List Fr} (h:frs.length≤2∧∀ f∈frs,Few f.cols):(Pl.mk frs zao).OkN 2 :=
 ⟨by have:=h.1;simp only;omega,h.2,by simp [zao],by simp [zao,Few],fun s hs=>(zel hs).few⟩
theorem plS0:(Pl.mk [] zao).OkN 2:=zoh ⟨by simp,by simp⟩
theorem plS1 {n:Str} {b:Bool} {c:List Col} (h:Few c):(Pl.mk [Fr.mk n b c []] zao).OkN 2:=zoh ⟨by simp,by simpa using h⟩
theorem plS2 {n m:Str} {b d:Bool} {c:List Col} (h:Few c):(Pl.mk [Fr.mk n b c [],Fr.mk m d c []] zao).OkN 2:=zoh ⟨by simp,by simpa using h⟩
theorem bt1 {nm tb:Str} {ev:Int} {pc fo:List Str} {c:Str} {e:X} (h:XOk 4 e):BTrig tb ev (Tg.mk nm tb true ev [] true pc fo [] [] [setA c e]) :=
 ⟨rfl,rfl,rfl,rfl,rfl,by simp [Few],by simp,_,rfl,.inr ⟨c,e,rfl,h.le (by omega)⟩⟩
theorem bt2 {nm tb:Str} {ev:Int} {pc fo:List Str}:BTrig tb ev (Tg.mk nm tb true ev [] true pc fo [] [] [Ac.mk 4 ⟨#[]⟩ [] [] [] [] ⟨#[]⟩]) :=
 ⟨rfl,rfl,rfl,rfl,rfl,by simp [Few],by simp,_,rfl,.inl rfl⟩
theorem bt3 {nm tb:Str} {ev:Int} {pc fo:List Str} {c:Str} {e w:X} (h:XOk 4 e) (hw:XOk 4 w):BTrig tb ev (Tg.mk nm tb true ev [] true pc fo [] [w] [setA c e]) :=
 ⟨rfl,rfl,rfl,rfl,rfl,by simp [Few],fun z hz=>by simp only [List.mem_singleton] at hz;subst hz;exact hw.le (by omega),_,rfl,.inr ⟨c,e,rfl,h.le (by omega)⟩⟩
theorem bt4 {nm tb:Str} {ev:Int} {pc fo:List Str} {w:X} (hw:XOk 4 w):BTrig tb ev (Tg.mk nm tb true ev [] true pc fo [] [w] [Ac.mk 4 ⟨#[]⟩ [] [] [] [] ⟨#[]⟩]) :=
 ⟨rfl,rfl,rfl,rfl,rfl,by simp [Few],fun z hz=>by simp only [List.mem_singleton] at hz;subst hz;exact hw.le (by omega),_,rfl,.inl rfl⟩
theorem zlP {tb:Str} {ev:Int} {out:List Tg} {i:Nat} {x:Tg} (h:out.length≤i∧∀ x∈out,BTrig tb ev x) (hx:BTrig tb ev x):(out++[x]).length≤i+1∧∀ y∈out++[x],BTrig tb ev y :=
 ⟨by have:=h.1;simp;omega,fun y hy=>by
  simp only [List.mem_append,List.mem_singleton] at hy
  rcases hy with hy|rfl
  ·exact h.2 y hy
  ·exact hx⟩
noncomputable def L_bt (t0:Tp) (tb:Str) (ev:Int) (l:List Tg) (o:List Lk) (i:Nat) (u:Tp) (out:List Tg):Cfg:=zav B.law20_triggers 0 [(0,.p 0 0),(1,sv tb),(2,iv ev),(11,lsl o),(12,.own 1 out.length),(24,.sl (l.map Tg.cells)),(25,iv ((l.map Tg.cells).length:Nat)),(26,iv (i:Nat))] [.box u.cells,.row Ty.Trigger (out.map Tg.cells) false]
theorem zgw (t0:Tp) (tb:Str) (ev:Int) (l:List Tg) (o:List Lk) (hsh:zae zao) (htb:TabN tb) (hl:l.length≤8) (i:Nat) (u:Tp) (out:List Tg) (hi:i≤(l).length) (hI:out.length≤i∧∀ x∈out,BTrig tb ev x):∃ (u':Tp) (out':List Tg),(out'.length≤(l).length∧∀ x∈out',BTrig tb ev x)∧(decide ((((l).length:Nat):Int) < (((l.map Tg.cells).length:Nat):Int))=false)∧∀ R,Good E0 B.law20_triggers [.box t0.cells] (L_bt t0 tb ev l o (l).length u' out') R→Good E0 B.law20_triggers [.box t0.cells] (L_bt t0 tb ev l o i u out) R:=by
 obtain ⟨kk,hk⟩:∃ kk,i+kk=(l).length:=⟨(l).length - i,by omega⟩
 induction kk generalizing i u out with
 | zero =>
  have e0:i=(l).length:=by omega
  subst e0
  exact ⟨u,out,hI,by simp,fun R hg=>hg⟩
 | succ kk ih =>
  obtain ⟨x,hx⟩:=zay (l:=l) (i:=i) (by omega)
  have h0:decide (((i:Nat):Int) < (((l.map Tg.cells).length:Nat):Int))=true:=by simp;omega
  have hw:IntKind.i64.wrap (((i:Nat):Int)+1)=((i+1:Nat):Int):=zap i (by first|omega|(simp only [zae,Few] at *;omega))
  have hol:out.length≤8:=by omega
  have hfw:=(zbm htb).few
  obtain ⟨a1,t1,q1,c1⟩:=(zaf u ((↑(List.map Col.cells (zam tb).cols).length:Int)) zbw)
  obtain ⟨x2,e2⟩:=zay (l:=(zam tb).cols) (i:=a1) zbw
  let p_1:List St:=[sb h0,se (zah Tg.cells hx rfl),sc (zbq tb zbw),sdm [(6,[sl [0] c1]),(7,[se (zah Col.cells e2 rfl)])] 0 [(0,AV.p 0 0),(1,sv tb),(2,iv ev),(11,AV.sl (List.map Lk.cells o)),(12,AV.own 1 out.length),(14,AV.p 2 0),(15,AV.p 3 0),(16,AV.p 4 0),(24,AV.sl (List.map Tg.cells l)),(25,iv (↑(List.map Tg.cells l).length:Int)),(26,iv (i:Int)),(27,AV.bl true),(28,AV.dp [sv x.name,sv x.table,bv x.before,iv x.event,AV.sl (List.map (fun s=>[sv s]) x.of),bv x.each,AV.sl (List.map (fun s=>[sv s]) x.prec),AV.sl (List.map (fun s=>[sv s]) x.foll),AV.sl (List.map Rk.cells x.rank),AV.sl (zaa x.when_),AV.sl (List.map Ac.cells x.acts)]),(29,AV.agg [sv x.name,sv x.table,bv x.before,iv x.event,AV.sl (List.map (fun s=>[sv s]) x.of),bv x.each,AV.sl (List.map (fun s=>[sv s]) x.prec),AV.sl (List.map (fun s=>[sv s]) x.foll),AV.sl (List.map Rk.cells x.rank),AV.sl (zaa x.when_),AV.sl (List.map Ac.cells x.acts)]),(30,sv tb),(31,AV.agg [sv (zam tb).name,AV.sl (List.map Col.cells (zam tb).cols)]),(32,sv tb),(33,iv ev),(34,AV.p 2 2),(35,AV.p 2 1),(36,AV.p 2 3),(37,AV.p 2 5),(38,AV.p 2 4),(39,AV.p 2 8),(40,AV.p 3 1),(41,AV.sl (List.map Col.cells (zam tb).cols)),(42,AV.p 0 0),(43,AV.p 3 1),(44,AV.sl (List.map Col.cells (zam tb).cols)),(45,iv (↑(List.map Col.cells (zam tb).cols).length:Int)),(46,iv (a1:Int)),(47,AV.dp [sv x2.name,iv x2.type,bv x2.notNull,bv x2.key]),(48,AV.agg [sv x2.name,iv x2.type,bv x2.notNull,bv x2.key])] [Blk.box [AV.sl (List.map (fun n=>[iv n]) t1.l),iv (t1.pos:Int)],Blk.row Ty.Trigger (List.map Tg.cells out) false,Blk.box [sv x.name,sv tb,AV.bl true,iv ev,AV.nl,AV.bl true,AV.sl (List.map (fun s=>[sv s]) x.prec),AV.sl (List.map (fun s=>[sv s]) x.foll),AV.nl,AV.sl (zaa x.when_),AV.sl (List.map Ac.cells x.acts)],Blk.box [sv (zam tb).name,AV.sl (List.map Col.cells (zam tb).cols)],Blk.box [sv x2.name,iv x2.type,bv x2.notNull,bv x2.key]],sc zdD]
  cases h3:ev != 1
  ·cases h4:ev != 3
   ·obtain ⟨b5,t5,c5⟩:=(zai t1 2 zbw)
    rcases (Bool.eq_false_or_eq_true b5).symm with h6|h6
    ·obtain ⟨e7,t7,q7,c7⟩:=(zat t5 (Pl.mk [] zao) x2.type zbw)
     let p_2:List St:=p_1++[sb h3,sb h4,sl [0] c5,sb h6,sd [(6,[sl [0] c7]),(7,[sc (zcp x2.name e7)])]]
     cases h8:ev==3
     ·obtain ⟨b9,t9,c9⟩:=(zai t7 8 zbw)
      rcases (Bool.eq_false_or_eq_true b9).symm with h10|h10
      ·obtain ⟨uZ,outZ,qZ,xZ,gZ⟩:=ih (i+1) t9 (out++[Tg.mk x.name tb true ev [] true x.prec x.foll [] [] [setA x2.name e7]]) (by omega) zbK (by omega);exact ⟨uZ,outZ,qZ,xZ,fun R hg=>zab (wkl (p_2++[sg h8,sl [0] c9,sb h10,sqx (AllLen [[sv x.name,sv tb,bv true,iv ev,AV.sl [],bv true,AV.sl (List.map (fun s=>[sv s]) x.prec),AV.sl (List.map (fun s=>[sv s]) x.foll),AV.sl [],AV.sl [],AV.sl [[iv (setA x2.name e7).kind,sv (setA x2.name e7).table,AV.sl [],AV.sl (zad []),AV.sl [[sv x2.name,iv e7.kind,iv e7.op,bv e7.not,iv e7.val.kind,iv e7.val.int,sv e7.val.text,sv e7.table,sv e7.name,AV.sl (zaa e7.args),AV.sl (zad e7.sub)]],AV.sl (zaa []),sv (setA x2.name e7).text]]]] 11∧out.length=(List.map Tg.cells out).length∧(((List.map Tg.cells out).length+[[sv x.name,sv tb,bv true,iv ev,AV.sl [],bv true,AV.sl (List.map (fun s=>[sv s]) x.prec),AV.sl (List.map (fun s=>[sv s]) x.foll),AV.sl [],AV.sl [],AV.sl [[iv (setA x2.name e7).kind,sv (setA x2.name e7).table,AV.sl [],AV.sl (zad []),AV.sl [[sv x2.name,iv e7.kind,iv e7.op,bv e7.not,iv e7.val.kind,iv e7.val.int,sv e7.val.text,sv e7.table,sv e7.name,AV.sl (zaa e7.args),AV.sl (zad e7.sub)]],AV.sl (zaa []),sv (setA x2.name e7).text]]]].length) * 200).le 140737488355328),si hw]) [0,1,2,11,12,24,25,26] 2 kr (zan (show ([(0,AV.p 0 0),(1,sv tb),(2,iv ev),(11,AV.sl (List.map Lk.cells o)),(12,AV.own 1 (List.map Tg.cells out++[[sv x.name,sv tb,bv true,iv ev,AV.sl [],bv true,AV.sl (List.map (fun s=>[sv s]) x.prec),AV.sl (List.map (fun s=>[sv s]) x.foll),AV.sl [],AV.sl [],AV.sl [[iv (setA x2.name e7).kind,sv (setA x2.name e7).table,AV.sl [],AV.sl (zad []),AV.sl [[sv x2.name,iv e7.kind,iv e7.op,bv e7.not,iv e7.val.kind,iv e7.val.int,sv e7.val.text,sv e7.table,sv e7.name,AV.sl (zaa e7.args),AV.sl (zad e7.sub)]],AV.sl (zaa []),sv (setA x2.name e7).text]]]]).length),(24,AV.sl (List.map Tg.cells l)),(25,iv (↑(List.map Tg.cells l).length:Int)),(26,iv (↑(i+1):Int))]:TS)=_ by first|rfl|(simp only [List.map_append,List.map_cons,List.map_nil,List.length_append,List.length_map,List.length_cons,List.length_nil,Tg.cells,zaj,zal] <;> rfl)) (show ([Blk.box [AV.sl (List.map (fun n=>[iv n]) t9.l),iv (t9.pos:Int)],Blk.row Ty.Trigger (List.map Tg.cells out++[[sv x.name,sv tb,bv true,iv ev,AV.sl [],bv true,AV.sl (List.map (fun s=>[sv s]) x.prec),AV.sl (List.map (fun s=>[sv s]) x.foll),AV.sl [],AV.sl [],AV.sl [[iv (setA x2.name e7).kind,sv (setA x2.name e7).table,AV.sl [],AV.sl (zad []),AV.sl [[sv x2.name,iv e7.kind,iv e7.op,bv e7.not,iv e7.val.kind,iv e7.val.int,sv e7.val.text,sv e7.table,sv e7.name,AV.sl (zaa e7.args),AV.sl (zad e7.sub)]],AV.sl (zaa []),sv (setA x2.name e7).text]]]]) false]:Heap)=_ by first|rfl|(simp only [List.map_append,List.map_cons,List.map_nil,List.length_append,List.length_map,List.length_cons,List.length_nil,Tg.cells,zaj,zal] <;> rfl)) (gZ R hg)))⟩
      ·obtain ⟨uZ,outZ,qZ,xZ,gZ⟩:=ih (i+1) t9 (out++[Tg.mk x.name tb true ev [] true x.prec x.foll [] [] [Ac.mk 4 (ByteArray.mk #[]) [] [] [] [] (ByteArray.mk #[])]]) (by omega) zbK (by omega);exact ⟨uZ,outZ,qZ,xZ,fun R hg=>zab (wkl (p_2++[sg h8,sl [0] c9,sb h10,sqx (AllLen [[sv x.name,sv tb,bv true,iv ev,AV.sl [],bv true,AV.sl (List.map (fun s=>[sv s]) x.prec),AV.sl (List.map (fun s=>[sv s]) x.foll),AV.sl [],AV.sl [],AV.sl [[iv 4,sv (ByteArray.mk #[]),AV.sl [],AV.sl [],AV.sl [],AV.sl [],sv (ByteArray.mk #[])]]]] 11∧out.length=(List.map Tg.cells out).length∧(((List.map Tg.cells out).length+[[sv x.name,sv tb,bv true,iv ev,AV.sl [],bv true,AV.sl (List.map (fun s=>[sv s]) x.prec),AV.sl (List.map (fun s=>[sv s]) x.foll),AV.sl [],AV.sl [],AV.sl [[iv 4,sv (ByteArray.mk #[]),AV.sl [],AV.sl [],AV.sl [],AV.sl [],sv (ByteArray.mk #[])]]]].length) * 200).le 140737488355328),si hw]) [0,1,2,11,12,24,25,26] 2 kr (zan (show ([(0,AV.p 0 0),(1,sv tb),(2,iv ev),(11,AV.sl (List.map Lk.cells o)),(12,AV.own 1 (List.map Tg.cells out++[[sv x.name,sv tb,bv true,iv ev,AV.sl [],bv true,AV.sl (List.map (fun s=>[sv s]) x.prec),AV.sl (List.map (fun s=>[sv s]) x.foll),AV.sl [],AV.sl [],AV.sl [[iv 4,sv (ByteArray.mk #[]),AV.sl [],AV.sl [],AV.sl [],AV.sl [],sv (ByteArray.mk #[])]]]]).length),(24,AV.sl (List.map Tg.cells l)),(25,iv (↑(List.map Tg.cells l).length:Int)),(26,iv (↑(i+1):Int))]:TS)=_ by first|rfl|(simp only [List.map_append,List.map_cons,List.map_nil,List.length_append,List.length_map,List.length_cons,List.length_nil,Tg.cells,zaj,zal] <;> rfl)) (show ([Blk.box [AV.sl (List.map (fun n=>[iv n]) t9.l),iv (t9.pos:Int)],Blk.row Ty.Trigger (List.map Tg.cells out++[[sv x.name,sv tb,bv true,iv ev,AV.sl [],bv true,AV.sl (List.map (fun s=>[sv s]) x.prec),AV.sl (List.map (fun s=>[sv s]) x.foll),AV.sl [],AV.sl [],AV.sl [[iv 4,sv (ByteArray.mk #[]),AV.sl [],AV.sl [],AV.sl [],AV.sl [],sv (ByteArray.mk #[])]]]]) false]:Heap)=_ by first|rfl|(simp only [List.map_append,List.map_cons,List.map_nil,List.length_append,List.length_map,List.length_cons,List.length_nil,Tg.cells,zaj,zal] <;> rfl)) (gZ R hg)))⟩
     ·obtain ⟨uZ,outZ,qZ,xZ,gZ⟩:=ih (i+1) t7 (out++[Tg.mk x.name tb true ev [] true x.prec x.foll [] [] [Ac.mk 4 (ByteArray.mk #[]) [] [] [] [] (ByteArray.mk #[])]]) (by omega) zbK (by omega);exact ⟨uZ,outZ,qZ,xZ,fun R hg=>zab (wkl (p_2++[sb h8,sqx (AllLen [[sv x.name,sv tb,bv true,iv ev,AV.sl [],bv true,AV.sl (List.map (fun s=>[sv s]) x.prec),AV.sl (List.map (fun s=>[sv s]) x.foll),AV.sl [],AV.sl [],AV.sl [[iv 4,sv (ByteArray.mk #[]),AV.sl [],AV.sl [],AV.sl [],AV.sl [],sv (ByteArray.mk #[])]]]] 11∧out.length=(List.map Tg.cells out).length∧(((List.map Tg.cells out).length+[[sv x.name,sv tb,bv true,iv ev,AV.sl [],bv true,AV.sl (List.map (fun s=>[sv s]) x.prec),AV.sl (List.map (fun s=>[sv s]) x.foll),AV.sl [],AV.sl [],AV.sl [[iv 4,sv (ByteArray.mk #[]),AV.sl [],AV.sl [],AV.sl [],AV.sl [],sv (ByteArray.mk #[])]]]].length) * 200).le 140737488355328),si hw]) [0,1,2,11,12,24,25,26] 2 kr (zan (show ([(0,AV.p 0 0),(1,sv tb),(2,iv ev),(11,AV.sl (List.map Lk.cells o)),(12,AV.own 1 (List.map Tg.cells out++[[sv x.name,sv tb,bv true,iv ev,AV.sl [],bv true,AV.sl (List.map (fun s=>[sv s]) x.prec),AV.sl (List.map (fun s=>[sv s]) x.foll),AV.sl [],AV.sl [],AV.sl [[iv 4,sv (ByteArray.mk #[]),AV.sl [],AV.sl [],AV.sl [],AV.sl [],sv (ByteArray.mk #[])]]]]).length),(24,AV.sl (List.map Tg.cells l)),(25,iv (↑(List.map Tg.cells l).length:Int)),(26,iv (↑(i+1):Int))]:TS)=_ by first|rfl|(simp only [List.map_append,List.map_cons,List.map_nil,List.length_append,List.length_map,List.length_cons,List.length_nil,Tg.cells,zaj,zal] <;> rfl)) (show ([Blk.box [AV.sl (List.map (fun n=>[iv n]) t7.l),iv (t7.pos:Int)],Blk.row Ty.Trigger (List.map Tg.cells out++[[sv x.name,sv tb,bv true,iv ev,AV.sl [],bv true,AV.sl (List.map (fun s=>[sv s]) x.prec),AV.sl (List.map (fun s=>[sv s]) x.foll),AV.sl [],AV.sl [],AV.sl [[iv 4,sv (ByteArray.mk #[]),AV.sl [],AV.sl [],AV.sl [],AV.sl [],sv (ByteArray.mk #[])]]]]) false]:Heap)=_ by first|rfl|(simp only [List.map_append,List.map_cons,List.map_nil,List.length_append,List.length_map,List.length_cons,List.length_nil,Tg.cells,zaj,zal] <;> rfl)) (gZ R hg)))⟩
    ·obtain ⟨e11,t11,q11,c11⟩:=(zat t5 (Pl.mk [] zao) 2 zbw)
     obtain ⟨e12,t12,q12,c12⟩:=(zat t11 (Pl.mk [] zao) x2.type zbw)
     let p_3:List St:=p_1++[sb h3,sb h4,sl [0] c5,sb h6,sl [0] c11,sd [(6,[sl [0] c12]),(7,[sc (zcp x2.name e12)])]]
     cases h13:ev==3
     ·obtain ⟨b14,t14,c14⟩:=(zai t12 8 zbw)
      rcases (Bool.eq_false_or_eq_true b14).symm with h15|h15
      ·obtain ⟨uZ,outZ,qZ,xZ,gZ⟩:=ih (i+1) t14 (out++[Tg.mk x.name tb true ev [] true x.prec x.foll [] [e11] [setA x2.name e12]]) (by omega) zbK (by omega);exact ⟨uZ,outZ,qZ,xZ,fun R hg=>zab (wkl (p_3++[sg h13,sl [0] c14,sb h15,sqx (AllLen [[sv x.name,sv tb,bv true,iv ev,AV.sl [],bv true,AV.sl (List.map (fun s=>[sv s]) x.prec),AV.sl (List.map (fun s=>[sv s]) x.foll),AV.sl [],AV.sl [[iv e11.kind,iv e11.op,bv e11.not,iv e11.val.kind,iv e11.val.int,sv e11.val.text,sv e11.table,sv e11.name,AV.sl (zaa e11.args),AV.sl (zad e11.sub)]],AV.sl [[iv (setA x2.name e12).kind,sv (setA x2.name e12).table,AV.sl [],AV.sl (zad []),AV.sl [[sv x2.name,iv e12.kind,iv e12.op,bv e12.not,iv e12.val.kind,iv e12.val.int,sv e12.val.text,sv e12.table,sv e12.name,AV.sl (zaa e12.args),AV.sl (zad e12.sub)]],AV.sl (zaa []),sv (setA x2.name e12).text]]]] 11∧out.length=(List.map Tg.cells out).length∧(((List.map Tg.cells out).length+[[sv x.name,sv tb,bv true,iv ev,AV.sl [],bv true,AV.sl (List.map (fun s=>[sv s]) x.prec),AV.sl (List.map (fun s=>[sv s]) x.foll),AV.sl [],AV.sl [[iv e11.kind,iv e11.op,bv e11.not,iv e11.val.kind,iv e11.val.int,sv e11.val.text,sv e11.table,sv e11.name,AV.sl (zaa e11.args),AV.sl (zad e11.sub)]],AV.sl [[iv (setA x2.name e12).kind,sv (setA x2.name e12).table,AV.sl [],AV.sl (zad []),AV.sl [[sv x2.name,iv e12.kind,iv e12.op,bv e12.not,iv e12.val.kind,iv e12.val.int,sv e12.val.text,sv e12.table,sv e12.name,AV.sl (zaa e12.args),AV.sl (zad e12.sub)]],AV.sl (zaa []),sv (setA x2.name e12).text]]]].length) * 200).le 140737488355328),si hw]) [0,1,2,11,12,24,25,26] 2 kr (zan (show ([(0,AV.p 0 0),(1,sv tb),(2,iv ev),(11,AV.sl (List.map Lk.cells o)),(12,AV.own 1 (List.map Tg.cells out++[[sv x.name,sv tb,bv true,iv ev,AV.sl [],bv true,AV.sl (List.map (fun s=>[sv s]) x.prec),AV.sl (List.map (fun s=>[sv s]) x.foll),AV.sl [],AV.sl [[iv e11.kind,iv e11.op,bv e11.not,iv e11.val.kind,iv e11.val.int,sv e11.val.text,sv e11.table,sv e11.name,AV.sl (zaa e11.args),AV.sl (zad e11.sub)]],AV.sl [[iv (setA x2.name e12).kind,sv (setA x2.name e12).table,AV.sl [],AV.sl (zad []),AV.sl [[sv x2.name,iv e12.kind,iv e12.op,bv e12.not,iv e12.val.kind,iv e12.val.int,sv e12.val.text,sv e12.table,sv e12.name,AV.sl (zaa e12.args),AV.sl (zad e12.sub)]],AV.sl (zaa []),sv (setA x2.name e12).text]]]]).length),(24,AV.sl (List.map Tg.cells l)),(25,iv (↑(List.map Tg.cells l).length:Int)),(26,iv (↑(i+1):Int))]:TS)=_ by first|rfl|(simp only [List.map_append,List.map_cons,List.map_nil,List.length_append,List.length_map,List.length_cons,List.length_nil,Tg.cells,zaj,zal] <;> rfl)) (show ([Blk.box [AV.sl (List.map (fun n=>[iv n]) t14.l),iv (t14.pos:Int)],Blk.row Ty.Trigger (List.map Tg.cells out++[[sv x.name,sv tb,bv true,iv ev,AV.sl [],bv true,AV.sl (List.map (fun s=>[sv s]) x.prec),AV.sl (List.map (fun s=>[sv s]) x.foll),AV.sl [],AV.sl [[iv e11.kind,iv e11.op,bv e11.not,iv e11.val.kind,iv e11.val.int,sv e11.val.text,sv e11.table,sv e11.name,AV.sl (zaa e11.args),AV.sl (zad e11.sub)]],AV.sl [[iv (setA x2.name e12).kind,sv (setA x2.name e12).table,AV.sl [],AV.sl (zad []),AV.sl [[sv x2.name,iv e12.kind,iv e12.op,bv e12.not,iv e12.val.kind,iv e12.val.int,sv e12.val.text,sv e12.table,sv e12.name,AV.sl (zaa e12.args),AV.sl (zad e12.sub)]],AV.sl (zaa []),sv (setA x2.name e12).text]]]]) false]:Heap)=_ by first|rfl|(simp only [List.map_append,List.map_cons,List.map_nil,List.length_append,List.length_map,List.length_cons,List.length_nil,Tg.cells,zaj,zal] <;> rfl)) (gZ R hg)))⟩
      ·obtain ⟨uZ,outZ,qZ,xZ,gZ⟩:=ih (i+1) t14 (out++[Tg.mk x.name tb true ev [] true x.prec x.foll [] [e11] [Ac.mk 4 (ByteArray.mk #[]) [] [] [] [] (ByteArray.mk #[])]]) (by omega) zbK (by omega);exact ⟨uZ,outZ,qZ,xZ,fun R hg=>zab (wkl (p_3++[sg h13,sl [0] c14,sb h15,sqx (AllLen [[sv x.name,sv tb,bv true,iv ev,AV.sl [],bv true,AV.sl (List.map (fun s=>[sv s]) x.prec),AV.sl (List.map (fun s=>[sv s]) x.foll),AV.sl [],AV.sl [[iv e11.kind,iv e11.op,bv e11.not,iv e11.val.kind,iv e11.val.int,sv e11.val.text,sv e11.table,sv e11.name,AV.sl (zaa e11.args),AV.sl (zad e11.sub)]],AV.sl [[iv 4,sv (ByteArray.mk #[]),AV.sl [],AV.sl [],AV.sl [],AV.sl [],sv (ByteArray.mk #[])]]]] 11∧out.length=(List.map Tg.cells out).length∧(((List.map Tg.cells out).length+[[sv x.name,sv tb,bv true,iv ev,AV.sl [],bv true,AV.sl (List.map (fun s=>[sv s]) x.prec),AV.sl (List.map (fun s=>[sv s]) x.foll),AV.sl [],AV.sl [[iv e11.kind,iv e11.op,bv e11.not,iv e11.val.kind,iv e11.val.int,sv e11.val.text,sv e11.table,sv e11.name,AV.sl (zaa e11.args),AV.sl (zad e11.sub)]],AV.sl [[iv 4,sv (ByteArray.mk #[]),AV.sl [],AV.sl [],AV.sl [],AV.sl [],sv (ByteArray.mk #[])]]]].length) * 200).le 140737488355328),si hw]) [0,1,2,11,12,24,25,26] 2 kr (zan (show ([(0,AV.p 0 0),(1,sv tb),(2,iv ev),(11,AV.sl (List.map Lk.cells o)),(12,AV.own 1 (List.map Tg.cells out++[[sv x.name,sv tb,bv true,iv ev,AV.sl [],bv true,AV.sl (List.map (fun s=>[sv s]) x.prec),AV.sl (List.map (fun s=>[sv s]) x.foll),AV.sl [],AV.sl [[iv e11.kind,iv e11.op,bv e11.not,iv e11.val.kind,iv e11.val.int,sv e11.val.text,sv e11.table,sv e11.name,AV.sl (zaa e11.args),AV.sl (zad e11.sub)]],AV.sl [[iv 4,sv (ByteArray.mk #[]),AV.sl [],AV.sl [],AV.sl [],AV.sl [],sv (ByteArray.mk #[])]]]]).length),(24,AV.sl (List.map Tg.cells l)),(25,iv (↑(List.map Tg.cells l).length:Int)),(26,iv (↑(i+1):Int))]:TS)=_ by first|rfl|(simp only [List.map_append,List.map_cons,List.map_nil,List.length_append,List.length_map,List.length_cons,List.length_nil,Tg.cells,zaj,zal] <;> rfl)) (show ([Blk.box [AV.sl (List.map (fun n=>[iv n]) t14.l),iv (t14.pos:Int)],Blk.row Ty.Trigger (List.map Tg.cells out++[[sv x.name,sv tb,bv true,iv ev,AV.sl [],bv true,AV.sl (List.map (fun s=>[sv s]) x.prec),AV.sl (List.map (fun s=>[sv s]) x.foll),AV.sl [],AV.sl [[iv e11.kind,iv e11.op,bv e11.not,iv e11.val.kind,iv e11.val.int,sv e11.val.text,sv e11.table,sv e11.name,AV.sl (zaa e11.args),AV.sl (zad e11.sub)]],AV.sl [[iv 4,sv (ByteArray.mk #[]),AV.sl [],AV.sl [],AV.sl [],AV.sl [],sv (ByteArray.mk #[])]]]]) false]:Heap)=_ by first|rfl|(simp only [List.map_append,List.map_cons,List.map_nil,List.length_append,List.length_map,List.length_cons,List.length_nil,Tg.cells,zaj,zal] <;> rfl)) (gZ R hg)))⟩
     ·obtain ⟨uZ,outZ,qZ,xZ,gZ⟩:=ih (i+1) t12 (out++[Tg.mk x.name tb true ev [] true x.prec x.foll [] [e11] [Ac.mk 4 (ByteArray.mk #[]) [] [] [] [] (ByteArray.mk #[])]]) (by omega) zbK (by omega);exact ⟨uZ,outZ,qZ,xZ,fun R hg=>zab (wkl (p_3++[sb h13,sqx (AllLen [[sv x.name,sv tb,bv true,iv ev,AV.sl [],bv true,AV.sl (List.map (fun s=>[sv s]) x.prec),AV.sl (List.map (fun s=>[sv s]) x.foll),AV.sl [],AV.sl [[iv e11.kind,iv e11.op,bv e11.not,iv e11.val.kind,iv e11.val.int,sv e11.val.text,sv e11.table,sv e11.name,AV.sl (zaa e11.args),AV.sl (zad e11.sub)]],AV.sl [[iv 4,sv (ByteArray.mk #[]),AV.sl [],AV.sl [],AV.sl [],AV.sl [],sv (ByteArray.mk #[])]]]] 11∧out.length=(List.map Tg.cells out).length∧(((List.map Tg.cells out).length+[[sv x.name,sv tb,bv true,iv ev,AV.sl [],bv true,AV.sl (List.map (fun s=>[sv s]) x.prec),AV.sl (List.map (fun s=>[sv s]) x.foll),AV.sl [],AV.sl [[iv e11.kind,iv e11.op,bv e11.not,iv e11.val.kind,iv e11.val.int,sv e11.val.text,sv e11.table,sv e11.name,AV.sl (zaa e11.args),AV.sl (zad e11.sub)]],AV.sl [[iv 4,sv (ByteArray.mk #[]),AV.sl [],AV.sl [],AV.sl [],AV.sl [],sv (ByteArray.mk #[])]]]].length) * 200).le 140737488355328),si hw]) [0,1,2,11,12,24,25,26] 2 kr (zan (show ([(0,AV.p 0 0),(1,sv tb),(2,iv ev),(11,AV.sl (List.map Lk.cells o)),(12,AV.own 1 (List.map Tg.cells out++[[sv x.name,sv tb,bv true,iv ev,AV.sl [],bv true,AV.sl (List.map (fun s=>[sv s]) x.prec),AV.sl (List.map (fun s=>[sv s]) x.foll),AV.sl [],AV.sl [[iv e11.kind,iv e11.op,bv e11.not,iv e11.val.kind,iv e11.val.int,sv e11.val.text,sv e11.table,sv e11.name,AV.sl (zaa e11.args),AV.sl (zad e11.sub)]],AV.sl [[iv 4,sv (ByteArray.mk #[]),AV.sl [],AV.sl [],AV.sl [],AV.sl [],sv (ByteArray.mk #[])]]]]).length),(24,AV.sl (List.map Tg.cells l)),(25,iv (↑(List.map Tg.cells l).length:Int)),(26,iv (↑(i+1):Int))]:TS)=_ by first|rfl|(simp only [List.map_append,List.map_cons,List.map_nil,List.length_append,List.length_map,List.length_cons,List.length_nil,Tg.cells,zaj,zal] <;> rfl)) (show ([Blk.box [AV.sl (List.map (fun n=>[iv n]) t12.l),iv (t12.pos:Int)],Blk.row Ty.Trigger (List.map Tg.cells out++[[sv x.name,sv tb,bv true,iv ev,AV.sl [],bv true,AV.sl (List.map (fun s=>[sv s]) x.prec),AV.sl (List.map (fun s=>[sv s]) x.foll),AV.sl [],AV.sl [[iv e11.kind,iv e11.op,bv e11.not,iv e11.val.kind,iv e11.val.int,sv e11.val.text,sv e11.table,sv e11.name,AV.sl (zaa e11.args),AV.sl (zad e11.sub)]],AV.sl [[iv 4,sv (ByteArray.mk #[]),AV.sl [],AV.sl [],AV.sl [],AV.sl [],sv (ByteArray.mk #[])]]]]) false]:Heap)=_ by first|rfl|(simp only [List.map_append,List.map_cons,List.map_nil,List.length_append,List.length_map,List.length_cons,List.length_nil,Tg.cells,zaj,zal] <;> rfl)) (gZ R hg)))⟩
   ·obtain ⟨b16,t16,c16⟩:=(zai t1 2 zbw)
    let p_4:List St:=p_1++[sb h3,sb h4,sqx (AllLen [[sv (ByteArray.mk #[78,69,87]),bv true,AV.sl (List.map Col.cells (zam tb).cols),AV.sl []]] 4∧Nat.le 72 140737488355328),sl [0] c16]
    rcases (Bool.eq_false_or_eq_true b16).symm with h17|h17
    ·obtain ⟨e18,t18,q18,c18⟩:=(zat t16 (Pl.mk [Fr.mk (ByteArray.mk #[78,69,87]) true (zam tb).cols []] zao) x2.type zbw)
     let p_5:List St:=p_4++[sb h17,sd [(6,[skx (True∧(1=1∧True∧True)∧True∧True∧True) [0] c18]),(7,[sc (zcp x2.name e18)])]]
     cases h19:ev==3
     ·obtain ⟨b20,t20,c20⟩:=(zai t18 8 zbw)
      rcases (Bool.eq_false_or_eq_true b20).symm with h21|h21
      ·obtain ⟨uZ,outZ,qZ,xZ,gZ⟩:=ih (i+1) t20 (out++[Tg.mk x.name tb true ev [] true x.prec x.foll [] [] [setA x2.name e18]]) (by omega) zbK (by omega);exact ⟨uZ,outZ,qZ,xZ,fun R hg=>zab (wkl (p_5++[sg h19,sl [0] c20,sb h21,sqx (AllLen [[sv x.name,sv tb,bv true,iv ev,AV.sl [],bv true,AV.sl (List.map (fun s=>[sv s]) x.prec),AV.sl (List.map (fun s=>[sv s]) x.foll),AV.sl [],AV.sl [],AV.sl [[iv (setA x2.name e18).kind,sv (setA x2.name e18).table,AV.sl [],AV.sl (zad []),AV.sl [[sv x2.name,iv e18.kind,iv e18.op,bv e18.not,iv e18.val.kind,iv e18.val.int,sv e18.val.text,sv e18.table,sv e18.name,AV.sl (zaa e18.args),AV.sl (zad e18.sub)]],AV.sl (zaa []),sv (setA x2.name e18).text]]]] 11∧out.length=(List.map Tg.cells out).length∧(((List.map Tg.cells out).length+[[sv x.name,sv tb,bv true,iv ev,AV.sl [],bv true,AV.sl (List.map (fun s=>[sv s]) x.prec),AV.sl (List.map (fun s=>[sv s]) x.foll),AV.sl [],AV.sl [],AV.sl [[iv (setA x2.name e18).kind,sv (setA x2.name e18).table,AV.sl [],AV.sl (zad []),AV.sl [[sv x2.name,iv e18.kind,iv e18.op,bv e18.not,iv e18.val.kind,iv e18.val.int,sv e18.val.text,sv e18.table,sv e18.name,AV.sl (zaa e18.args),AV.sl (zad e18.sub)]],AV.sl (zaa []),sv (setA x2.name e18).text]]]].length) * 200).le 140737488355328),si hw]) [0,1,2,11,12,24,25,26] 2 kr (zan (show ([(0,AV.p 0 0),(1,sv tb),(2,iv ev),(11,AV.sl (List.map Lk.cells o)),(12,AV.own 1 (List.map Tg.cells out++[[sv x.name,sv tb,bv true,iv ev,AV.sl [],bv true,AV.sl (List.map (fun s=>[sv s]) x.prec),AV.sl (List.map (fun s=>[sv s]) x.foll),AV.sl [],AV.sl [],AV.sl [[iv (setA x2.name e18).kind,sv (setA x2.name e18).table,AV.sl [],AV.sl (zad []),AV.sl [[sv x2.name,iv e18.kind,iv e18.op,bv e18.not,iv e18.val.kind,iv e18.val.int,sv e18.val.text,sv e18.table,sv e18.name,AV.sl (zaa e18.args),AV.sl (zad e18.sub)]],AV.sl (zaa []),sv (setA x2.name e18).text]]]]).length),(24,AV.sl (List.map Tg.cells l)),(25,iv (↑(List.map Tg.cells l).length:Int)),(26,iv (↑(i+1):Int))]:TS)=_ by first|rfl|(simp only [List.map_append,List.map_cons,List.map_nil,List.length_append,List.length_map,List.length_cons,List.length_nil,Tg.cells,zaj,zal] <;> rfl)) (show ([Blk.box [AV.sl (List.map (fun n=>[iv n]) t20.l),iv (t20.pos:Int)],Blk.row Ty.Trigger (List.map Tg.cells out++[[sv x.name,sv tb,bv true,iv ev,AV.sl [],bv true,AV.sl (List.map (fun s=>[sv s]) x.prec),AV.sl (List.map (fun s=>[sv s]) x.foll),AV.sl [],AV.sl [],AV.sl [[iv (setA x2.name e18).kind,sv (setA x2.name e18).table,AV.sl [],AV.sl (zad []),AV.sl [[sv x2.name,iv e18.kind,iv e18.op,bv e18.not,iv e18.val.kind,iv e18.val.int,sv e18.val.text,sv e18.table,sv e18.name,AV.sl (zaa e18.args),AV.sl (zad e18.sub)]],AV.sl (zaa []),sv (setA x2.name e18).text]]]]) false]:Heap)=_ by first|rfl|(simp only [List.map_append,List.map_cons,List.map_nil,List.length_append,List.length_map,List.length_cons,List.length_nil,Tg.cells,zaj,zal] <;> rfl)) (gZ R hg)))⟩
      ·obtain ⟨uZ,outZ,qZ,xZ,gZ⟩:=ih (i+1) t20 (out++[Tg.mk x.name tb true ev [] true x.prec x.foll [] [] [Ac.mk 4 (ByteArray.mk #[]) [] [] [] [] (ByteArray.mk #[])]]) (by omega) zbK (by omega);exact ⟨uZ,outZ,qZ,xZ,fun R hg=>zab (wkl (p_5++[sg h19,sl [0] c20,sb h21,sqx (AllLen [[sv x.name,sv tb,bv true,iv ev,AV.sl [],bv true,AV.sl (List.map (fun s=>[sv s]) x.prec),AV.sl (List.map (fun s=>[sv s]) x.foll),AV.sl [],AV.sl [],AV.sl [[iv 4,sv (ByteArray.mk #[]),AV.sl [],AV.sl [],AV.sl [],AV.sl [],sv (ByteArray.mk #[])]]]] 11∧out.length=(List.map Tg.cells out).length∧(((List.map Tg.cells out).length+[[sv x.name,sv tb,bv true,iv ev,AV.sl [],bv true,AV.sl (List.map (fun s=>[sv s]) x.prec),AV.sl (List.map (fun s=>[sv s]) x.foll),AV.sl [],AV.sl [],AV.sl [[iv 4,sv (ByteArray.mk #[]),AV.sl [],AV.sl [],AV.sl [],AV.sl [],sv (ByteArray.mk #[])]]]].length) * 200).le 140737488355328),si hw]) [0,1,2,11,12,24,25,26] 2 kr (zan (show ([(0,AV.p 0 0),(1,sv tb),(2,iv ev),(11,AV.sl (List.map Lk.cells o)),(12,AV.own 1 (List.map Tg.cells out++[[sv x.name,sv tb,bv true,iv ev,AV.sl [],bv true,AV.sl (List.map (fun s=>[sv s]) x.prec),AV.sl (List.map (fun s=>[sv s]) x.foll),AV.sl [],AV.sl [],AV.sl [[iv 4,sv (ByteArray.mk #[]),AV.sl [],AV.sl [],AV.sl [],AV.sl [],sv (ByteArray.mk #[])]]]]).length),(24,AV.sl (List.map Tg.cells l)),(25,iv (↑(List.map Tg.cells l).length:Int)),(26,iv (↑(i+1):Int))]:TS)=_ by first|rfl|(simp only [List.map_append,List.map_cons,List.map_nil,List.length_append,List.length_map,List.length_cons,List.length_nil,Tg.cells,zaj,zal] <;> rfl)) (show ([Blk.box [AV.sl (List.map (fun n=>[iv n]) t20.l),iv (t20.pos:Int)],Blk.row Ty.Trigger (List.map Tg.cells out++[[sv x.name,sv tb,bv true,iv ev,AV.sl [],bv true,AV.sl (List.map (fun s=>[sv s]) x.prec),AV.sl (List.map (fun s=>[sv s]) x.foll),AV.sl [],AV.sl [],AV.sl [[iv 4,sv (ByteArray.mk #[]),AV.sl [],AV.sl [],AV.sl [],AV.sl [],sv (ByteArray.mk #[])]]]]) false]:Heap)=_ by first|rfl|(simp only [List.map_append,List.map_cons,List.map_nil,List.length_append,List.length_map,List.length_cons,List.length_nil,Tg.cells,zaj,zal] <;> rfl)) (gZ R hg)))⟩
     ·obtain ⟨uZ,outZ,qZ,xZ,gZ⟩:=ih (i+1) t18 (out++[Tg.mk x.name tb true ev [] true x.prec x.foll [] [] [Ac.mk 4 (ByteArray.mk #[]) [] [] [] [] (ByteArray.mk #[])]]) (by omega) zbK (by omega);exact ⟨uZ,outZ,qZ,xZ,fun R hg=>zab (wkl (p_5++[sb h19,sqx (AllLen [[sv x.name,sv tb,bv true,iv ev,AV.sl [],bv true,AV.sl (List.map (fun s=>[sv s]) x.prec),AV.sl (List.map (fun s=>[sv s]) x.foll),AV.sl [],AV.sl [],AV.sl [[iv 4,sv (ByteArray.mk #[]),AV.sl [],AV.sl [],AV.sl [],AV.sl [],sv (ByteArray.mk #[])]]]] 11∧out.length=(List.map Tg.cells out).length∧(((List.map Tg.cells out).length+[[sv x.name,sv tb,bv true,iv ev,AV.sl [],bv true,AV.sl (List.map (fun s=>[sv s]) x.prec),AV.sl (List.map (fun s=>[sv s]) x.foll),AV.sl [],AV.sl [],AV.sl [[iv 4,sv (ByteArray.mk #[]),AV.sl [],AV.sl [],AV.sl [],AV.sl [],sv (ByteArray.mk #[])]]]].length) * 200).le 140737488355328),si hw]) [0,1,2,11,12,24,25,26] 2 kr (zan (show ([(0,AV.p 0 0),(1,sv tb),(2,iv ev),(11,AV.sl (List.map Lk.cells o)),(12,AV.own 1 (List.map Tg.cells out++[[sv x.name,sv tb,bv true,iv ev,AV.sl [],bv true,AV.sl (List.map (fun s=>[sv s]) x.prec),AV.sl (List.map (fun s=>[sv s]) x.foll),AV.sl [],AV.sl [],AV.sl [[iv 4,sv (ByteArray.mk #[]),AV.sl [],AV.sl [],AV.sl [],AV.sl [],sv (ByteArray.mk #[])]]]]).length),(24,AV.sl (List.map Tg.cells l)),(25,iv (↑(List.map Tg.cells l).length:Int)),(26,iv (↑(i+1):Int))]:TS)=_ by first|rfl|(simp only [List.map_append,List.map_cons,List.map_nil,List.length_append,List.length_map,List.length_cons,List.length_nil,Tg.cells,zaj,zal] <;> rfl)) (show ([Blk.box [AV.sl (List.map (fun n=>[iv n]) t18.l),iv (t18.pos:Int)],Blk.row Ty.Trigger (List.map Tg.cells out++[[sv x.name,sv tb,bv true,iv ev,AV.sl [],bv true,AV.sl (List.map (fun s=>[sv s]) x.prec),AV.sl (List.map (fun s=>[sv s]) x.foll),AV.sl [],AV.sl [],AV.sl [[iv 4,sv (ByteArray.mk #[]),AV.sl [],AV.sl [],AV.sl [],AV.sl [],sv (ByteArray.mk #[])]]]]) false]:Heap)=_ by first|rfl|(simp only [List.map_append,List.map_cons,List.map_nil,List.length_append,List.length_map,List.length_cons,List.length_nil,Tg.cells,zaj,zal] <;> rfl)) (gZ R hg)))⟩
    ·obtain ⟨e22,t22,q22,c22⟩:=(zat t16 (Pl.mk [Fr.mk (ByteArray.mk #[78,69,87]) true (zam tb).cols []] zao) 2 zbw)
     obtain ⟨e23,t23,q23,c23⟩:=(zat t22 (Pl.mk [Fr.mk (ByteArray.mk #[78,69,87]) true (zam tb).cols []] zao) x2.type zbw)
     let p_6:List St:=p_4++[sb h17,skx (True∧(1=1∧True∧True)∧True∧True∧True) [0] c22,sd [(6,[skx (True∧(1=1∧True∧True)∧True∧True∧True) [0] c23]),(7,[sc (zcp x2.name e23)])]]
     cases h24:ev==3
     ·obtain ⟨b25,t25,c25⟩:=(zai t23 8 zbw)
      rcases (Bool.eq_false_or_eq_true b25).symm with h26|h26
      ·obtain ⟨uZ,outZ,qZ,xZ,gZ⟩:=ih (i+1) t25 (out++[Tg.mk x.name tb true ev [] true x.prec x.foll [] [e22] [setA x2.name e23]]) (by omega) zbK (by omega);exact ⟨uZ,outZ,qZ,xZ,fun R hg=>zab (wkl (p_6++[sg h24,sl [0] c25,sb h26,sqx (AllLen [[sv x.name,sv tb,bv true,iv ev,AV.sl [],bv true,AV.sl (List.map (fun s=>[sv s]) x.prec),AV.sl (List.map (fun s=>[sv s]) x.foll),AV.sl [],AV.sl [[iv e22.kind,iv e22.op,bv e22.not,iv e22.val.kind,iv e22.val.int,sv e22.val.text,sv e22.table,sv e22.name,AV.sl (zaa e22.args),AV.sl (zad e22.sub)]],AV.sl [[iv (setA x2.name e23).kind,sv (setA x2.name e23).table,AV.sl [],AV.sl (zad []),AV.sl [[sv x2.name,iv e23.kind,iv e23.op,bv e23.not,iv e23.val.kind,iv e23.val.int,sv e23.val.text,sv e23.table,sv e23.name,AV.sl (zaa e23.args),AV.sl (zad e23.sub)]],AV.sl (zaa []),sv (setA x2.name e23).text]]]] 11∧out.length=(List.map Tg.cells out).length∧(((List.map Tg.cells out).length+[[sv x.name,sv tb,bv true,iv ev,AV.sl [],bv true,AV.sl (List.map (fun s=>[sv s]) x.prec),AV.sl (List.map (fun s=>[sv s]) x.foll),AV.sl [],AV.sl [[iv e22.kind,iv e22.op,bv e22.not,iv e22.val.kind,iv e22.val.int,sv e22.val.text,sv e22.table,sv e22.name,AV.sl (zaa e22.args),AV.sl (zad e22.sub)]],AV.sl [[iv (setA x2.name e23).kind,sv (setA x2.name e23).table,AV.sl [],AV.sl (zad []),AV.sl [[sv x2.name,iv e23.kind,iv e23.op,bv e23.not,iv e23.val.kind,iv e23.val.int,sv e23.val.text,sv e23.table,sv e23.name,AV.sl (zaa e23.args),AV.sl (zad e23.sub)]],AV.sl (zaa []),sv (setA x2.name e23).text]]]].length) * 200).le 140737488355328),si hw]) [0,1,2,11,12,24,25,26] 2 kr (zan (show ([(0,AV.p 0 0),(1,sv tb),(2,iv ev),(11,AV.sl (List.map Lk.cells o)),(12,AV.own 1 (List.map Tg.cells out++[[sv x.name,sv tb,bv true,iv ev,AV.sl [],bv true,AV.sl (List.map (fun s=>[sv s]) x.prec),AV.sl (List.map (fun s=>[sv s]) x.foll),AV.sl [],AV.sl [[iv e22.kind,iv e22.op,bv e22.not,iv e22.val.kind,iv e22.val.int,sv e22.val.text,sv e22.table,sv e22.name,AV.sl (zaa e22.args),AV.sl (zad e22.sub)]],AV.sl [[iv (setA x2.name e23).kind,sv (setA x2.name e23).table,AV.sl [],AV.sl (zad []),AV.sl [[sv x2.name,iv e23.kind,iv e23.op,bv e23.not,iv e23.val.kind,iv e23.val.int,sv e23.val.text,sv e23.table,sv e23.name,AV.sl (zaa e23.args),AV.sl (zad e23.sub)]],AV.sl (zaa []),sv (setA x2.name e23).text]]]]).length),(24,AV.sl (List.map Tg.cells l)),(25,iv (↑(List.map Tg.cells l).length:Int)),(26,iv (↑(i+1):Int))]:TS)=_ by first|rfl|(simp only [List.map_append,List.map_cons,List.map_nil,List.length_append,List.length_map,List.length_cons,List.length_nil,Tg.cells,zaj,zal] <;> rfl)) (show ([Blk.box [AV.sl (List.map (fun n=>[iv n]) t25.l),iv (t25.pos:Int)],Blk.row Ty.Trigger (List.map Tg.cells out++[[sv x.name,sv tb,bv true,iv ev,AV.sl [],bv true,AV.sl (List.map (fun s=>[sv s]) x.prec),AV.sl (List.map (fun s=>[sv s]) x.foll),AV.sl [],AV.sl [[iv e22.kind,iv e22.op,bv e22.not,iv e22.val.kind,iv e22.val.int,sv e22.val.text,sv e22.table,sv e22.name,AV.sl (zaa e22.args),AV.sl (zad e22.sub)]],AV.sl [[iv (setA x2.name e23).kind,sv (setA x2.name e23).table,AV.sl [],AV.sl (zad []),AV.sl [[sv x2.name,iv e23.kind,iv e23.op,bv e23.not,iv e23.val.kind,iv e23.val.int,sv e23.val.text,sv e23.table,sv e23.name,AV.sl (zaa e23.args),AV.sl (zad e23.sub)]],AV.sl (zaa []),sv (setA x2.name e23).text]]]]) false]:Heap)=_ by first|rfl|(simp only [List.map_append,List.map_cons,List.map_nil,List.length_append,List.length_map,List.length_cons,List.length_nil,Tg.cells,zaj,zal] <;> rfl)) (gZ R hg)))⟩
      ·obtain ⟨uZ,outZ,qZ,xZ,gZ⟩:=ih (i+1) t25 (out++[Tg.mk x.name tb true ev [] true x.prec x.foll [] [e22] [Ac.mk 4 (ByteArray.mk #[]) [] [] [] [] (ByteArray.mk #[])]]) (by omega) zbK (by omega);exact ⟨uZ,outZ,qZ,xZ,fun R hg=>zab (wkl (p_6++[sg h24,sl [0] c25,sb h26,sqx (AllLen [[sv x.name,sv tb,bv true,iv ev,AV.sl [],bv true,AV.sl (List.map (fun s=>[sv s]) x.prec),AV.sl (List.map (fun s=>[sv s]) x.foll),AV.sl [],AV.sl [[iv e22.kind,iv e22.op,bv e22.not,iv e22.val.kind,iv e22.val.int,sv e22.val.text,sv e22.table,sv e22.name,AV.sl (zaa e22.args),AV.sl (zad e22.sub)]],AV.sl [[iv 4,sv (ByteArray.mk #[]),AV.sl [],AV.sl [],AV.sl [],AV.sl [],sv (ByteArray.mk #[])]]]] 11∧out.length=(List.map Tg.cells out).length∧(((List.map Tg.cells out).length+[[sv x.name,sv tb,bv true,iv ev,AV.sl [],bv true,AV.sl (List.map (fun s=>[sv s]) x.prec),AV.sl (List.map (fun s=>[sv s]) x.foll),AV.sl [],AV.sl [[iv e22.kind,iv e22.op,bv e22.not,iv e22.val.kind,iv e22.val.int,sv e22.val.text,sv e22.table,sv e22.name,AV.sl (zaa e22.args),AV.sl (zad e22.sub)]],AV.sl [[iv 4,sv (ByteArray.mk #[]),AV.sl [],AV.sl [],AV.sl [],AV.sl [],sv (ByteArray.mk #[])]]]].length) * 200).le 140737488355328),si hw]) [0,1,2,11,12,24,25,26] 2 kr (zan (show ([(0,AV.p 0 0),(1,sv tb),(2,iv ev),(11,AV.sl (List.map Lk.cells o)),(12,AV.own 1 (List.map Tg.cells out++[[sv x.name,sv tb,bv true,iv ev,AV.sl [],bv true,AV.sl (List.map (fun s=>[sv s]) x.prec),AV.sl (List.map (fun s=>[sv s]) x.foll),AV.sl [],AV.sl [[iv e22.kind,iv e22.op,bv e22.not,iv e22.val.kind,iv e22.val.int,sv e22.val.text,sv e22.table,sv e22.name,AV.sl (zaa e22.args),AV.sl (zad e22.sub)]],AV.sl [[iv 4,sv (ByteArray.mk #[]),AV.sl [],AV.sl [],AV.sl [],AV.sl [],sv (ByteArray.mk #[])]]]]).length),(24,AV.sl (List.map Tg.cells l)),(25,iv (↑(List.map Tg.cells l).length:Int)),(26,iv (↑(i+1):Int))]:TS)=_ by first|rfl|(simp only [List.map_append,List.map_cons,List.map_nil,List.length_append,List.length_map,List.length_cons,List.length_nil,Tg.cells,zaj,zal] <;> rfl)) (show ([Blk.box [AV.sl (List.map (fun n=>[iv n]) t25.l),iv (t25.pos:Int)],Blk.row Ty.Trigger (List.map Tg.cells out++[[sv x.name,sv tb,bv true,iv ev,AV.sl [],bv true,AV.sl (List.map (fun s=>[sv s]) x.prec),AV.sl (List.map (fun s=>[sv s]) x.foll),AV.sl [],AV.sl [[iv e22.kind,iv e22.op,bv e22.not,iv e22.val.kind,iv e22.val.int,sv e22.val.text,sv e22.table,sv e22.name,AV.sl (zaa e22.args),AV.sl (zad e22.sub)]],AV.sl [[iv 4,sv (ByteArray.mk #[]),AV.sl [],AV.sl [],AV.sl [],AV.sl [],sv (ByteArray.mk #[])]]]]) false]:Heap)=_ by first|rfl|(simp only [List.map_append,List.map_cons,List.map_nil,List.length_append,List.length_map,List.length_cons,List.length_nil,Tg.cells,zaj,zal] <;> rfl)) (gZ R hg)))⟩
     ·obtain ⟨uZ,outZ,qZ,xZ,gZ⟩:=ih (i+1) t23 (out++[Tg.mk x.name tb true ev [] true x.prec x.foll [] [e22] [Ac.mk 4 (ByteArray.mk #[]) [] [] [] [] (ByteArray.mk #[])]]) (by omega) zbK (by omega);exact ⟨uZ,outZ,qZ,xZ,fun R hg=>zab (wkl (p_6++[sb h24,sqx (AllLen [[sv x.name,sv tb,bv true,iv ev,AV.sl [],bv true,AV.sl (List.map (fun s=>[sv s]) x.prec),AV.sl (List.map (fun s=>[sv s]) x.foll),AV.sl [],AV.sl [[iv e22.kind,iv e22.op,bv e22.not,iv e22.val.kind,iv e22.val.int,sv e22.val.text,sv e22.table,sv e22.name,AV.sl (zaa e22.args),AV.sl (zad e22.sub)]],AV.sl [[iv 4,sv (ByteArray.mk #[]),AV.sl [],AV.sl [],AV.sl [],AV.sl [],sv (ByteArray.mk #[])]]]] 11∧out.length=(List.map Tg.cells out).length∧(((List.map Tg.cells out).length+[[sv x.name,sv tb,bv true,iv ev,AV.sl [],bv true,AV.sl (List.map (fun s=>[sv s]) x.prec),AV.sl (List.map (fun s=>[sv s]) x.foll),AV.sl [],AV.sl [[iv e22.kind,iv e22.op,bv e22.not,iv e22.val.kind,iv e22.val.int,sv e22.val.text,sv e22.table,sv e22.name,AV.sl (zaa e22.args),AV.sl (zad e22.sub)]],AV.sl [[iv 4,sv (ByteArray.mk #[]),AV.sl [],AV.sl [],AV.sl [],AV.sl [],sv (ByteArray.mk #[])]]]].length) * 200).le 140737488355328),si hw]) [0,1,2,11,12,24,25,26] 2 kr (zan (show ([(0,AV.p 0 0),(1,sv tb),(2,iv ev),(11,AV.sl (List.map Lk.cells o)),(12,AV.own 1 (List.map Tg.cells out++[[sv x.name,sv tb,bv true,iv ev,AV.sl [],bv true,AV.sl (List.map (fun s=>[sv s]) x.prec),AV.sl (List.map (fun s=>[sv s]) x.foll),AV.sl [],AV.sl [[iv e22.kind,iv e22.op,bv e22.not,iv e22.val.kind,iv e22.val.int,sv e22.val.text,sv e22.table,sv e22.name,AV.sl (zaa e22.args),AV.sl (zad e22.sub)]],AV.sl [[iv 4,sv (ByteArray.mk #[]),AV.sl [],AV.sl [],AV.sl [],AV.sl [],sv (ByteArray.mk #[])]]]]).length),(24,AV.sl (List.map Tg.cells l)),(25,iv (↑(List.map Tg.cells l).length:Int)),(26,iv (↑(i+1):Int))]:TS)=_ by first|rfl|(simp only [List.map_append,List.map_cons,List.map_nil,List.length_append,List.length_map,List.length_cons,List.length_nil,Tg.cells,zaj,zal] <;> rfl)) (show ([Blk.box [AV.sl (List.map (fun n=>[iv n]) t23.l),iv (t23.pos:Int)],Blk.row Ty.Trigger (List.map Tg.cells out++[[sv x.name,sv tb,bv true,iv ev,AV.sl [],bv true,AV.sl (List.map (fun s=>[sv s]) x.prec),AV.sl (List.map (fun s=>[sv s]) x.foll),AV.sl [],AV.sl [[iv e22.kind,iv e22.op,bv e22.not,iv e22.val.kind,iv e22.val.int,sv e22.val.text,sv e22.table,sv e22.name,AV.sl (zaa e22.args),AV.sl (zad e22.sub)]],AV.sl [[iv 4,sv (ByteArray.mk #[]),AV.sl [],AV.sl [],AV.sl [],AV.sl [],sv (ByteArray.mk #[])]]]]) false]:Heap)=_ by first|rfl|(simp only [List.map_append,List.map_cons,List.map_nil,List.length_append,List.length_map,List.length_cons,List.length_nil,Tg.cells,zaj,zal] <;> rfl)) (gZ R hg)))⟩
  ·let p_7:List St:=p_1++[sb h3,sqx (AllLen [[sv (ByteArray.mk #[79,76,68]),bv true,AV.sl (List.map Col.cells (zam tb).cols),AV.sl []]] 4∧Nat.le 72 140737488355328)]
   cases h27:ev != 3
   ·obtain ⟨b28,t28,c28⟩:=(zai t1 2 zbw)
    rcases (Bool.eq_false_or_eq_true b28).symm with h29|h29
    ·obtain ⟨e30,t30,q30,c30⟩:=(zat t28 (Pl.mk [Fr.mk (ByteArray.mk #[79,76,68]) true (zam tb).cols []] zao) x2.type zbw)
     let p_8:List St:=p_7++[sb h27,sl [0] c28,sb h29,sd [(6,[skx (True∧(1=1∧True∧True)∧True∧True∧True) [0] c30]),(7,[sc (zcp x2.name e30)])]]
     cases h31:ev==3
     ·obtain ⟨b32,t32,c32⟩:=(zai t30 8 zbw)
      rcases (Bool.eq_false_or_eq_true b32).symm with h33|h33
      ·obtain ⟨uZ,outZ,qZ,xZ,gZ⟩:=ih (i+1) t32 (out++[Tg.mk x.name tb true ev [] true x.prec x.foll [] [] [setA x2.name e30]]) (by omega) zbK (by omega);exact ⟨uZ,outZ,qZ,xZ,fun R hg=>zab (wkl (p_8++[sg h31,sl [0] c32,sb h33,sqx (AllLen [[sv x.name,sv tb,bv true,iv ev,AV.sl [],bv true,AV.sl (List.map (fun s=>[sv s]) x.prec),AV.sl (List.map (fun s=>[sv s]) x.foll),AV.sl [],AV.sl [],AV.sl [[iv (setA x2.name e30).kind,sv (setA x2.name e30).table,AV.sl [],AV.sl (zad []),AV.sl [[sv x2.name,iv e30.kind,iv e30.op,bv e30.not,iv e30.val.kind,iv e30.val.int,sv e30.val.text,sv e30.table,sv e30.name,AV.sl (zaa e30.args),AV.sl (zad e30.sub)]],AV.sl (zaa []),sv (setA x2.name e30).text]]]] 11∧out.length=(List.map Tg.cells out).length∧(((List.map Tg.cells out).length+[[sv x.name,sv tb,bv true,iv ev,AV.sl [],bv true,AV.sl (List.map (fun s=>[sv s]) x.prec),AV.sl (List.map (fun s=>[sv s]) x.foll),AV.sl [],AV.sl [],AV.sl [[iv (setA x2.name e30).kind,sv (setA x2.name e30).table,AV.sl [],AV.sl (zad []),AV.sl [[sv x2.name,iv e30.kind,iv e30.op,bv e30.not,iv e30.val.kind,iv e30.val.int,sv e30.val.text,sv e30.table,sv e30.name,AV.sl (zaa e30.args),AV.sl (zad e30.sub)]],AV.sl (zaa []),sv (setA x2.name e30).text]]]].length) * 200).le 140737488355328),si hw]) [0,1,2,11,12,24,25,26] 2 kr (zan (show ([(0,AV.p 0 0),(1,sv tb),(2,iv ev),(11,AV.sl (List.map Lk.cells o)),(12,AV.own 1 (List.map Tg.cells out++[[sv x.name,sv tb,bv true,iv ev,AV.sl [],bv true,AV.sl (List.map (fun s=>[sv s]) x.prec),AV.sl (List.map (fun s=>[sv s]) x.foll),AV.sl [],AV.sl [],AV.sl [[iv (setA x2.name e30).kind,sv (setA x2.name e30).table,AV.sl [],AV.sl (zad []),AV.sl [[sv x2.name,iv e30.kind,iv e30.op,bv e30.not,iv e30.val.kind,iv e30.val.int,sv e30.val.text,sv e30.table,sv e30.name,AV.sl (zaa e30.args),AV.sl (zad e30.sub)]],AV.sl (zaa []),sv (setA x2.name e30).text]]]]).length),(24,AV.sl (List.map Tg.cells l)),(25,iv (↑(List.map Tg.cells l).length:Int)),(26,iv (↑(i+1):Int))]:TS)=_ by first|rfl|(simp only [List.map_append,List.map_cons,List.map_nil,List.length_append,List.length_map,List.length_cons,List.length_nil,Tg.cells,zaj,zal] <;> rfl)) (show ([Blk.box [AV.sl (List.map (fun n=>[iv n]) t32.l),iv (t32.pos:Int)],Blk.row Ty.Trigger (List.map Tg.cells out++[[sv x.name,sv tb,bv true,iv ev,AV.sl [],bv true,AV.sl (List.map (fun s=>[sv s]) x.prec),AV.sl (List.map (fun s=>[sv s]) x.foll),AV.sl [],AV.sl [],AV.sl [[iv (setA x2.name e30).kind,sv (setA x2.name e30).table,AV.sl [],AV.sl (zad []),AV.sl [[sv x2.name,iv e30.kind,iv e30.op,bv e30.not,iv e30.val.kind,iv e30.val.int,sv e30.val.text,sv e30.table,sv e30.name,AV.sl (zaa e30.args),AV.sl (zad e30.sub)]],AV.sl (zaa []),sv (setA x2.name e30).text]]]]) false]:Heap)=_ by first|rfl|(simp only [List.map_append,List.map_cons,List.map_nil,List.length_append,List.length_map,List.length_cons,List.length_nil,Tg.cells,zaj,zal] <;> rfl)) (gZ R hg)))⟩
      ·obtain ⟨uZ,outZ,qZ,xZ,gZ⟩:=ih (i+1) t32 (out++[Tg.mk x.name tb true ev [] true x.prec x.foll [] [] [Ac.mk 4 (ByteArray.mk #[]) [] [] [] [] (ByteArray.mk #[])]]) (by omega) zbK (by omega);exact ⟨uZ,outZ,qZ,xZ,fun R hg=>zab (wkl (p_8++[sg h31,sl [0] c32,sb h33,sqx (AllLen [[sv x.name,sv tb,bv true,iv ev,AV.sl [],bv true,AV.sl (List.map (fun s=>[sv s]) x.prec),AV.sl (List.map (fun s=>[sv s]) x.foll),AV.sl [],AV.sl [],AV.sl [[iv 4,sv (ByteArray.mk #[]),AV.sl [],AV.sl [],AV.sl [],AV.sl [],sv (ByteArray.mk #[])]]]] 11∧out.length=(List.map Tg.cells out).length∧(((List.map Tg.cells out).length+[[sv x.name,sv tb,bv true,iv ev,AV.sl [],bv true,AV.sl (List.map (fun s=>[sv s]) x.prec),AV.sl (List.map (fun s=>[sv s]) x.foll),AV.sl [],AV.sl [],AV.sl [[iv 4,sv (ByteArray.mk #[]),AV.sl [],AV.sl [],AV.sl [],AV.sl [],sv (ByteArray.mk #[])]]]].length) * 200).le 140737488355328),si hw]) [0,1,2,11,12,24,25,26] 2 kr (zan (show ([(0,AV.p 0 0),(1,sv tb),(2,iv ev),(11,AV.sl (List.map Lk.cells o)),(12,AV.own 1 (List.map Tg.cells out++[[sv x.name,sv tb,bv true,iv ev,AV.sl [],bv true,AV.sl (List.map (fun s=>[sv s]) x.prec),AV.sl (List.map (fun s=>[sv s]) x.foll),AV.sl [],AV.sl [],AV.sl [[iv 4,sv (ByteArray.mk #[]),AV.sl [],AV.sl [],AV.sl [],AV.sl [],sv (ByteArray.mk #[])]]]]).length),(24,AV.sl (List.map Tg.cells l)),(25,iv (↑(List.map Tg.cells l).length:Int)),(26,iv (↑(i+1):Int))]:TS)=_ by first|rfl|(simp only [List.map_append,List.map_cons,List.map_nil,List.length_append,List.length_map,List.length_cons,List.length_nil,Tg.cells,zaj,zal] <;> rfl)) (show ([Blk.box [AV.sl (List.map (fun n=>[iv n]) t32.l),iv (t32.pos:Int)],Blk.row Ty.Trigger (List.map Tg.cells out++[[sv x.name,sv tb,bv true,iv ev,AV.sl [],bv true,AV.sl (List.map (fun s=>[sv s]) x.prec),AV.sl (List.map (fun s=>[sv s]) x.foll),AV.sl [],AV.sl [],AV.sl [[iv 4,sv (ByteArray.mk #[]),AV.sl [],AV.sl [],AV.sl [],AV.sl [],sv (ByteArray.mk #[])]]]]) false]:Heap)=_ by first|rfl|(simp only [List.map_append,List.map_cons,List.map_nil,List.length_append,List.length_map,List.length_cons,List.length_nil,Tg.cells,zaj,zal] <;> rfl)) (gZ R hg)))⟩
     ·obtain ⟨uZ,outZ,qZ,xZ,gZ⟩:=ih (i+1) t30 (out++[Tg.mk x.name tb true ev [] true x.prec x.foll [] [] [Ac.mk 4 (ByteArray.mk #[]) [] [] [] [] (ByteArray.mk #[])]]) (by omega) zbK (by omega);exact ⟨uZ,outZ,qZ,xZ,fun R hg=>zab (wkl (p_8++[sb h31,sqx (AllLen [[sv x.name,sv tb,bv true,iv ev,AV.sl [],bv true,AV.sl (List.map (fun s=>[sv s]) x.prec),AV.sl (List.map (fun s=>[sv s]) x.foll),AV.sl [],AV.sl [],AV.sl [[iv 4,sv (ByteArray.mk #[]),AV.sl [],AV.sl [],AV.sl [],AV.sl [],sv (ByteArray.mk #[])]]]] 11∧out.length=(List.map Tg.cells out).length∧(((List.map Tg.cells out).length+[[sv x.name,sv tb,bv true,iv ev,AV.sl [],bv true,AV.sl (List.map (fun s=>[sv s]) x.prec),AV.sl (List.map (fun s=>[sv s]) x.foll),AV.sl [],AV.sl [],AV.sl [[iv 4,sv (ByteArray.mk #[]),AV.sl [],AV.sl [],AV.sl [],AV.sl [],sv (ByteArray.mk #[])]]]].length) * 200).le 140737488355328),si hw]) [0,1,2,11,12,24,25,26] 2 kr (zan (show ([(0,AV.p 0 0),(1,sv tb),(2,iv ev),(11,AV.sl (List.map Lk.cells o)),(12,AV.own 1 (List.map Tg.cells out++[[sv x.name,sv tb,bv true,iv ev,AV.sl [],bv true,AV.sl (List.map (fun s=>[sv s]) x.prec),AV.sl (List.map (fun s=>[sv s]) x.foll),AV.sl [],AV.sl [],AV.sl [[iv 4,sv (ByteArray.mk #[]),AV.sl [],AV.sl [],AV.sl [],AV.sl [],sv (ByteArray.mk #[])]]]]).length),(24,AV.sl (List.map Tg.cells l)),(25,iv (↑(List.map Tg.cells l).length:Int)),(26,iv (↑(i+1):Int))]:TS)=_ by first|rfl|(simp only [List.map_append,List.map_cons,List.map_nil,List.length_append,List.length_map,List.length_cons,List.length_nil,Tg.cells,zaj,zal] <;> rfl)) (show ([Blk.box [AV.sl (List.map (fun n=>[iv n]) t30.l),iv (t30.pos:Int)],Blk.row Ty.Trigger (List.map Tg.cells out++[[sv x.name,sv tb,bv true,iv ev,AV.sl [],bv true,AV.sl (List.map (fun s=>[sv s]) x.prec),AV.sl (List.map (fun s=>[sv s]) x.foll),AV.sl [],AV.sl [],AV.sl [[iv 4,sv (ByteArray.mk #[]),AV.sl [],AV.sl [],AV.sl [],AV.sl [],sv (ByteArray.mk #[])]]]]) false]:Heap)=_ by first|rfl|(simp only [List.map_append,List.map_cons,List.map_nil,List.length_append,List.length_map,List.length_cons,List.length_nil,Tg.cells,zaj,zal] <;> rfl)) (gZ R hg)))⟩
    ·obtain ⟨e34,t34,q34,c34⟩:=(zat t28 (Pl.mk [Fr.mk (ByteArray.mk #[79,76,68]) true (zam tb).cols []] zao) 2 zbw)
     obtain ⟨e35,t35,q35,c35⟩:=(zat t34 (Pl.mk [Fr.mk (ByteArray.mk #[79,76,68]) true (zam tb).cols []] zao) x2.type zbw)
     let p_9:List St:=p_7++[sb h27,sl [0] c28,sb h29,skx (True∧(1=1∧True∧True)∧True∧True∧True) [0] c34,sd [(6,[skx (True∧(1=1∧True∧True)∧True∧True∧True) [0] c35]),(7,[sc (zcp x2.name e35)])]]
     cases h36:ev==3
     ·obtain ⟨b37,t37,c37⟩:=(zai t35 8 zbw)
      rcases (Bool.eq_false_or_eq_true b37).symm with h38|h38
      ·obtain ⟨uZ,outZ,qZ,xZ,gZ⟩:=ih (i+1) t37 (out++[Tg.mk x.name tb true ev [] true x.prec x.foll [] [e34] [setA x2.name e35]]) (by omega) zbK (by omega);exact ⟨uZ,outZ,qZ,xZ,fun R hg=>zab (wkl (p_9++[sg h36,sl [0] c37,sb h38,sqx (AllLen [[sv x.name,sv tb,bv true,iv ev,AV.sl [],bv true,AV.sl (List.map (fun s=>[sv s]) x.prec),AV.sl (List.map (fun s=>[sv s]) x.foll),AV.sl [],AV.sl [[iv e34.kind,iv e34.op,bv e34.not,iv e34.val.kind,iv e34.val.int,sv e34.val.text,sv e34.table,sv e34.name,AV.sl (zaa e34.args),AV.sl (zad e34.sub)]],AV.sl [[iv (setA x2.name e35).kind,sv (setA x2.name e35).table,AV.sl [],AV.sl (zad []),AV.sl [[sv x2.name,iv e35.kind,iv e35.op,bv e35.not,iv e35.val.kind,iv e35.val.int,sv e35.val.text,sv e35.table,sv e35.name,AV.sl (zaa e35.args),AV.sl (zad e35.sub)]],AV.sl (zaa []),sv (setA x2.name e35).text]]]] 11∧out.length=(List.map Tg.cells out).length∧(((List.map Tg.cells out).length+[[sv x.name,sv tb,bv true,iv ev,AV.sl [],bv true,AV.sl (List.map (fun s=>[sv s]) x.prec),AV.sl (List.map (fun s=>[sv s]) x.foll),AV.sl [],AV.sl [[iv e34.kind,iv e34.op,bv e34.not,iv e34.val.kind,iv e34.val.int,sv e34.val.text,sv e34.table,sv e34.name,AV.sl (zaa e34.args),AV.sl (zad e34.sub)]],AV.sl [[iv (setA x2.name e35).kind,sv (setA x2.name e35).table,AV.sl [],AV.sl (zad []),AV.sl [[sv x2.name,iv e35.kind,iv e35.op,bv e35.not,iv e35.val.kind,iv e35.val.int,sv e35.val.text,sv e35.table,sv e35.name,AV.sl (zaa e35.args),AV.sl (zad e35.sub)]],AV.sl (zaa []),sv (setA x2.name e35).text]]]].length) * 200).le 140737488355328),si hw]) [0,1,2,11,12,24,25,26] 2 kr (zan (show ([(0,AV.p 0 0),(1,sv tb),(2,iv ev),(11,AV.sl (List.map Lk.cells o)),(12,AV.own 1 (List.map Tg.cells out++[[sv x.name,sv tb,bv true,iv ev,AV.sl [],bv true,AV.sl (List.map (fun s=>[sv s]) x.prec),AV.sl (List.map (fun s=>[sv s]) x.foll),AV.sl [],AV.sl [[iv e34.kind,iv e34.op,bv e34.not,iv e34.val.kind,iv e34.val.int,sv e34.val.text,sv e34.table,sv e34.name,AV.sl (zaa e34.args),AV.sl (zad e34.sub)]],AV.sl [[iv (setA x2.name e35).kind,sv (setA x2.name e35).table,AV.sl [],AV.sl (zad []),AV.sl [[sv x2.name,iv e35.kind,iv e35.op,bv e35.not,iv e35.val.kind,iv e35.val.int,sv e35.val.text,sv e35.table,sv e35.name,AV.sl (zaa e35.args),AV.sl (zad e35.sub)]],AV.sl (zaa []),sv (setA x2.name e35).text]]]]).length),(24,AV.sl (List.map Tg.cells l)),(25,iv (↑(List.map Tg.cells l).length:Int)),(26,iv (↑(i+1):Int))]:TS)=_ by first|rfl|(simp only [List.map_append,List.map_cons,List.map_nil,List.length_append,List.length_map,List.length_cons,List.length_nil,Tg.cells,zaj,zal] <;> rfl)) (show ([Blk.box [AV.sl (List.map (fun n=>[iv n]) t37.l),iv (t37.pos:Int)],Blk.row Ty.Trigger (List.map Tg.cells out++[[sv x.name,sv tb,bv true,iv ev,AV.sl [],bv true,AV.sl (List.map (fun s=>[sv s]) x.prec),AV.sl (List.map (fun s=>[sv s]) x.foll),AV.sl [],AV.sl [[iv e34.kind,iv e34.op,bv e34.not,iv e34.val.kind,iv e34.val.int,sv e34.val.text,sv e34.table,sv e34.name,AV.sl (zaa e34.args),AV.sl (zad e34.sub)]],AV.sl [[iv (setA x2.name e35).kind,sv (setA x2.name e35).table,AV.sl [],AV.sl (zad []),AV.sl [[sv x2.name,iv e35.kind,iv e35.op,bv e35.not,iv e35.val.kind,iv e35.val.int,sv e35.val.text,sv e35.table,sv e35.name,AV.sl (zaa e35.args),AV.sl (zad e35.sub)]],AV.sl (zaa []),sv (setA x2.name e35).text]]]]) false]:Heap)=_ by first|rfl|(simp only [List.map_append,List.map_cons,List.map_nil,List.length_append,List.length_map,List.length_cons,List.length_nil,Tg.cells,zaj,zal] <;> rfl)) (gZ R hg)))⟩
      ·obtain ⟨uZ,outZ,qZ,xZ,gZ⟩:=ih (i+1) t37 (out++[Tg.mk x.name tb true ev [] true x.prec x.foll [] [e34] [Ac.mk 4 (ByteArray.mk #[]) [] [] [] [] (ByteArray.mk #[])]]) (by omega) zbK (by omega);exact ⟨uZ,outZ,qZ,xZ,fun R hg=>zab (wkl (p_9++[sg h36,sl [0] c37,sb h38,sqx (AllLen [[sv x.name,sv tb,bv true,iv ev,AV.sl [],bv true,AV.sl (List.map (fun s=>[sv s]) x.prec),AV.sl (List.map (fun s=>[sv s]) x.foll),AV.sl [],AV.sl [[iv e34.kind,iv e34.op,bv e34.not,iv e34.val.kind,iv e34.val.int,sv e34.val.text,sv e34.table,sv e34.name,AV.sl (zaa e34.args),AV.sl (zad e34.sub)]],AV.sl [[iv 4,sv (ByteArray.mk #[]),AV.sl [],AV.sl [],AV.sl [],AV.sl [],sv (ByteArray.mk #[])]]]] 11∧out.length=(List.map Tg.cells out).length∧(((List.map Tg.cells out).length+[[sv x.name,sv tb,bv true,iv ev,AV.sl [],bv true,AV.sl (List.map (fun s=>[sv s]) x.prec),AV.sl (List.map (fun s=>[sv s]) x.foll),AV.sl [],AV.sl [[iv e34.kind,iv e34.op,bv e34.not,iv e34.val.kind,iv e34.val.int,sv e34.val.text,sv e34.table,sv e34.name,AV.sl (zaa e34.args),AV.sl (zad e34.sub)]],AV.sl [[iv 4,sv (ByteArray.mk #[]),AV.sl [],AV.sl [],AV.sl [],AV.sl [],sv (ByteArray.mk #[])]]]].length) * 200).le 140737488355328),si hw]) [0,1,2,11,12,24,25,26] 2 kr (zan (show ([(0,AV.p 0 0),(1,sv tb),(2,iv ev),(11,AV.sl (List.map Lk.cells o)),(12,AV.own 1 (List.map Tg.cells out++[[sv x.name,sv tb,bv true,iv ev,AV.sl [],bv true,AV.sl (List.map (fun s=>[sv s]) x.prec),AV.sl (List.map (fun s=>[sv s]) x.foll),AV.sl [],AV.sl [[iv e34.kind,iv e34.op,bv e34.not,iv e34.val.kind,iv e34.val.int,sv e34.val.text,sv e34.table,sv e34.name,AV.sl (zaa e34.args),AV.sl (zad e34.sub)]],AV.sl [[iv 4,sv (ByteArray.mk #[]),AV.sl [],AV.sl [],AV.sl [],AV.sl [],sv (ByteArray.mk #[])]]]]).length),(24,AV.sl (List.map Tg.cells l)),(25,iv (↑(List.map Tg.cells l).length:Int)),(26,iv (↑(i+1):Int))]:TS)=_ by first|rfl|(simp only [List.map_append,List.map_cons,List.map_nil,List.length_append,List.length_map,List.length_cons,List.length_nil,Tg.cells,zaj,zal] <;> rfl)) (show ([Blk.box [AV.sl (List.map (fun n=>[iv n]) t37.l),iv (t37.pos:Int)],Blk.row Ty.Trigger (List.map Tg.cells out++[[sv x.name,sv tb,bv true,iv ev,AV.sl [],bv true,AV.sl (List.map (fun s=>[sv s]) x.prec),AV.sl (List.map (fun s=>[sv s]) x.foll),AV.sl [],AV.sl [[iv e34.kind,iv e34.op,bv e34.not,iv e34.val.kind,iv e34.val.int,sv e34.val.text,sv e34.table,sv e34.name,AV.sl (zaa e34.args),AV.sl (zad e34.sub)]],AV.sl [[iv 4,sv (ByteArray.mk #[]),AV.sl [],AV.sl [],AV.sl [],AV.sl [],sv (ByteArray.mk #[])]]]]) false]:Heap)=_ by first|rfl|(simp only [List.map_append,List.map_cons,List.map_nil,List.length_append,List.length_map,List.length_cons,List.length_nil,Tg.cells,zaj,zal] <;> rfl)) (gZ R hg)))⟩
     ·obtain ⟨uZ,outZ,qZ,xZ,gZ⟩:=ih (i+1) t35 (out++[Tg.mk x.name tb true ev [] true x.prec x.foll [] [e34] [Ac.mk 4 (ByteArray.mk #[]) [] [] [] [] (ByteArray.mk #[])]]) (by omega) zbK (by omega);exact ⟨uZ,outZ,qZ,xZ,fun R hg=>zab (wkl (p_9++[sb h36,sqx (AllLen [[sv x.name,sv tb,bv true,iv ev,AV.sl [],bv true,AV.sl (List.map (fun s=>[sv s]) x.prec),AV.sl (List.map (fun s=>[sv s]) x.foll),AV.sl [],AV.sl [[iv e34.kind,iv e34.op,bv e34.not,iv e34.val.kind,iv e34.val.int,sv e34.val.text,sv e34.table,sv e34.name,AV.sl (zaa e34.args),AV.sl (zad e34.sub)]],AV.sl [[iv 4,sv (ByteArray.mk #[]),AV.sl [],AV.sl [],AV.sl [],AV.sl [],sv (ByteArray.mk #[])]]]] 11∧out.length=(List.map Tg.cells out).length∧(((List.map Tg.cells out).length+[[sv x.name,sv tb,bv true,iv ev,AV.sl [],bv true,AV.sl (List.map (fun s=>[sv s]) x.prec),AV.sl (List.map (fun s=>[sv s]) x.foll),AV.sl [],AV.sl [[iv e34.kind,iv e34.op,bv e34.not,iv e34.val.kind,iv e34.val.int,sv e34.val.text,sv e34.table,sv e34.name,AV.sl (zaa e34.args),AV.sl (zad e34.sub)]],AV.sl [[iv 4,sv (ByteArray.mk #[]),AV.sl [],AV.sl [],AV.sl [],AV.sl [],sv (ByteArray.mk #[])]]]].length) * 200).le 140737488355328),si hw]) [0,1,2,11,12,24,25,26] 2 kr (zan (show ([(0,AV.p 0 0),(1,sv tb),(2,iv ev),(11,AV.sl (List.map Lk.cells o)),(12,AV.own 1 (List.map Tg.cells out++[[sv x.name,sv tb,bv true,iv ev,AV.sl [],bv true,AV.sl (List.map (fun s=>[sv s]) x.prec),AV.sl (List.map (fun s=>[sv s]) x.foll),AV.sl [],AV.sl [[iv e34.kind,iv e34.op,bv e34.not,iv e34.val.kind,iv e34.val.int,sv e34.val.text,sv e34.table,sv e34.name,AV.sl (zaa e34.args),AV.sl (zad e34.sub)]],AV.sl [[iv 4,sv (ByteArray.mk #[]),AV.sl [],AV.sl [],AV.sl [],AV.sl [],sv (ByteArray.mk #[])]]]]).length),(24,AV.sl (List.map Tg.cells l)),(25,iv (↑(List.map Tg.cells l).length:Int)),(26,iv (↑(i+1):Int))]:TS)=_ by first|rfl|(simp only [List.map_append,List.map_cons,List.map_nil,List.length_append,List.length_map,List.length_cons,List.length_nil,Tg.cells,zaj,zal] <;> rfl)) (show ([Blk.box [AV.sl (List.map (fun n=>[iv n]) t35.l),iv (t35.pos:Int)],Blk.row Ty.Trigger (List.map Tg.cells out++[[sv x.name,sv tb,bv true,iv ev,AV.sl [],bv true,AV.sl (List.map (fun s=>[sv s]) x.prec),AV.sl (List.map (fun s=>[sv s]) x.foll),AV.sl [],AV.sl [[iv e34.kind,iv e34.op,bv e34.not,iv e34.val.kind,iv e34.val.int,sv e34.val.text,sv e34.table,sv e34.name,AV.sl (zaa e34.args),AV.sl (zad e34.sub)]],AV.sl [[iv 4,sv (ByteArray.mk #[]),AV.sl [],AV.sl [],AV.sl [],AV.sl [],sv (ByteArray.mk #[])]]]]) false]:Heap)=_ by first|rfl|(simp only [List.map_append,List.map_cons,List.map_nil,List.length_append,List.length_map,List.length_cons,List.length_nil,Tg.cells,zaj,zal] <;> rfl)) (gZ R hg)))⟩
   ·obtain ⟨b39,t39,c39⟩:=(zai t1 2 zbw)
    let p_10:List St:=p_7++[sb h27,sqx (AllLen [[sv (ByteArray.mk #[78,69,87]),bv true,AV.sl (List.map Col.cells (zam tb).cols),AV.sl []]] 4∧1=1∧Nat.le 144 140737488355328),sl [0] c39]
    rcases (Bool.eq_false_or_eq_true b39).symm with h40|h40
    ·obtain ⟨e41,t41,q41,c41⟩:=(zat t39 (Pl.mk [Fr.mk (ByteArray.mk #[79,76,68]) true (zam tb).cols [],Fr.mk (ByteArray.mk #[78,69,87]) true (zam tb).cols []] zao) x2.type zbw)
     let p_11:List St:=p_10++[sb h40,sd [(6,[skx (True∧(2=2∧True∧True)∧True∧True∧True) [0] c41]),(7,[sc (zcp x2.name e41)])]]
     cases h42:ev==3
     ·obtain ⟨b43,t43,c43⟩:=(zai t41 8 zbw)
      rcases (Bool.eq_false_or_eq_true b43).symm with h44|h44
      ·obtain ⟨uZ,outZ,qZ,xZ,gZ⟩:=ih (i+1) t43 (out++[Tg.mk x.name tb true ev [] true x.prec x.foll [] [] [setA x2.name e41]]) (by omega) zbK (by omega);exact ⟨uZ,outZ,qZ,xZ,fun R hg=>zab (wkl (p_11++[sg h42,sl [0] c43,sb h44,sqx (AllLen [[sv x.name,sv tb,bv true,iv ev,AV.sl [],bv true,AV.sl (List.map (fun s=>[sv s]) x.prec),AV.sl (List.map (fun s=>[sv s]) x.foll),AV.sl [],AV.sl [],AV.sl [[iv (setA x2.name e41).kind,sv (setA x2.name e41).table,AV.sl [],AV.sl (zad []),AV.sl [[sv x2.name,iv e41.kind,iv e41.op,bv e41.not,iv e41.val.kind,iv e41.val.int,sv e41.val.text,sv e41.table,sv e41.name,AV.sl (zaa e41.args),AV.sl (zad e41.sub)]],AV.sl (zaa []),sv (setA x2.name e41).text]]]] 11∧out.length=(List.map Tg.cells out).length∧(((List.map Tg.cells out).length+[[sv x.name,sv tb,bv true,iv ev,AV.sl [],bv true,AV.sl (List.map (fun s=>[sv s]) x.prec),AV.sl (List.map (fun s=>[sv s]) x.foll),AV.sl [],AV.sl [],AV.sl [[iv (setA x2.name e41).kind,sv (setA x2.name e41).table,AV.sl [],AV.sl (zad []),AV.sl [[sv x2.name,iv e41.kind,iv e41.op,bv e41.not,iv e41.val.kind,iv e41.val.int,sv e41.val.text,sv e41.table,sv e41.name,AV.sl (zaa e41.args),AV.sl (zad e41.sub)]],AV.sl (zaa []),sv (setA x2.name e41).text]]]].length) * 200).le 140737488355328),si hw]) [0,1,2,11,12,24,25,26] 2 kr (zan (show ([(0,AV.p 0 0),(1,sv tb),(2,iv ev),(11,AV.sl (List.map Lk.cells o)),(12,AV.own 1 (List.map Tg.cells out++[[sv x.name,sv tb,bv true,iv ev,AV.sl [],bv true,AV.sl (List.map (fun s=>[sv s]) x.prec),AV.sl (List.map (fun s=>[sv s]) x.foll),AV.sl [],AV.sl [],AV.sl [[iv (setA x2.name e41).kind,sv (setA x2.name e41).table,AV.sl [],AV.sl (zad []),AV.sl [[sv x2.name,iv e41.kind,iv e41.op,bv e41.not,iv e41.val.kind,iv e41.val.int,sv e41.val.text,sv e41.table,sv e41.name,AV.sl (zaa e41.args),AV.sl (zad e41.sub)]],AV.sl (zaa []),sv (setA x2.name e41).text]]]]).length),(24,AV.sl (List.map Tg.cells l)),(25,iv (↑(List.map Tg.cells l).length:Int)),(26,iv (↑(i+1):Int))]:TS)=_ by first|rfl|(simp only [List.map_append,List.map_cons,List.map_nil,List.length_append,List.length_map,List.length_cons,List.length_nil,Tg.cells,zaj,zal] <;> rfl)) (show ([Blk.box [AV.sl (List.map (fun n=>[iv n]) t43.l),iv (t43.pos:Int)],Blk.row Ty.Trigger (List.map Tg.cells out++[[sv x.name,sv tb,bv true,iv ev,AV.sl [],bv true,AV.sl (List.map (fun s=>[sv s]) x.prec),AV.sl (List.map (fun s=>[sv s]) x.foll),AV.sl [],AV.sl [],AV.sl [[iv (setA x2.name e41).kind,sv (setA x2.name e41).table,AV.sl [],AV.sl (zad []),AV.sl [[sv x2.name,iv e41.kind,iv e41.op,bv e41.not,iv e41.val.kind,iv e41.val.int,sv e41.val.text,sv e41.table,sv e41.name,AV.sl (zaa e41.args),AV.sl (zad e41.sub)]],AV.sl (zaa []),sv (setA x2.name e41).text]]]]) false]:Heap)=_ by first|rfl|(simp only [List.map_append,List.map_cons,List.map_nil,List.length_append,List.length_map,List.length_cons,List.length_nil,Tg.cells,zaj,zal] <;> rfl)) (gZ R hg)))⟩
      ·obtain ⟨uZ,outZ,qZ,xZ,gZ⟩:=ih (i+1) t43 (out++[Tg.mk x.name tb true ev [] true x.prec x.foll [] [] [Ac.mk 4 (ByteArray.mk #[]) [] [] [] [] (ByteArray.mk #[])]]) (by omega) zbK (by omega);exact ⟨uZ,outZ,qZ,xZ,fun R hg=>zab (wkl (p_11++[sg h42,sl [0] c43,sb h44,sqx (AllLen [[sv x.name,sv tb,bv true,iv ev,AV.sl [],bv true,AV.sl (List.map (fun s=>[sv s]) x.prec),AV.sl (List.map (fun s=>[sv s]) x.foll),AV.sl [],AV.sl [],AV.sl [[iv 4,sv (ByteArray.mk #[]),AV.sl [],AV.sl [],AV.sl [],AV.sl [],sv (ByteArray.mk #[])]]]] 11∧out.length=(List.map Tg.cells out).length∧(((List.map Tg.cells out).length+[[sv x.name,sv tb,bv true,iv ev,AV.sl [],bv true,AV.sl (List.map (fun s=>[sv s]) x.prec),AV.sl (List.map (fun s=>[sv s]) x.foll),AV.sl [],AV.sl [],AV.sl [[iv 4,sv (ByteArray.mk #[]),AV.sl [],AV.sl [],AV.sl [],AV.sl [],sv (ByteArray.mk #[])]]]].length) * 200).le 140737488355328),si hw]) [0,1,2,11,12,24,25,26] 2 kr (zan (show ([(0,AV.p 0 0),(1,sv tb),(2,iv ev),(11,AV.sl (List.map Lk.cells o)),(12,AV.own 1 (List.map Tg.cells out++[[sv x.name,sv tb,bv true,iv ev,AV.sl [],bv true,AV.sl (List.map (fun s=>[sv s]) x.prec),AV.sl (List.map (fun s=>[sv s]) x.foll),AV.sl [],AV.sl [],AV.sl [[iv 4,sv (ByteArray.mk #[]),AV.sl [],AV.sl [],AV.sl [],AV.sl [],sv (ByteArray.mk #[])]]]]).length),(24,AV.sl (List.map Tg.cells l)),(25,iv (↑(List.map Tg.cells l).length:Int)),(26,iv (↑(i+1):Int))]:TS)=_ by first|rfl|(simp only [List.map_append,List.map_cons,List.map_nil,List.length_append,List.length_map,List.length_cons,List.length_nil,Tg.cells,zaj,zal] <;> rfl)) (show ([Blk.box [AV.sl (List.map (fun n=>[iv n]) t43.l),iv (t43.pos:Int)],Blk.row Ty.Trigger (List.map Tg.cells out++[[sv x.name,sv tb,bv true,iv ev,AV.sl [],bv true,AV.sl (List.map (fun s=>[sv s]) x.prec),AV.sl (List.map (fun s=>[sv s]) x.foll),AV.sl [],AV.sl [],AV.sl [[iv 4,sv (ByteArray.mk #[]),AV.sl [],AV.sl [],AV.sl [],AV.sl [],sv (ByteArray.mk #[])]]]]) false]:Heap)=_ by first|rfl|(simp only [List.map_append,List.map_cons,List.map_nil,List.length_append,List.length_map,List.length_cons,List.length_nil,Tg.cells,zaj,zal] <;> rfl)) (gZ R hg)))⟩
     ·obtain ⟨uZ,outZ,qZ,xZ,gZ⟩:=ih (i+1) t41 (out++[Tg.mk x.name tb true ev [] true x.prec x.foll [] [] [Ac.mk 4 (ByteArray.mk #[]) [] [] [] [] (ByteArray.mk #[])]]) (by omega) zbK (by omega);exact ⟨uZ,outZ,qZ,xZ,fun R hg=>zab (wkl (p_11++[sb h42,sqx (AllLen [[sv x.name,sv tb,bv true,iv ev,AV.sl [],bv true,AV.sl (List.map (fun s=>[sv s]) x.prec),AV.sl (List.map (fun s=>[sv s]) x.foll),AV.sl [],AV.sl [],AV.sl [[iv 4,sv (ByteArray.mk #[]),AV.sl [],AV.sl [],AV.sl [],AV.sl [],sv (ByteArray.mk #[])]]]] 11∧out.length=(List.map Tg.cells out).length∧(((List.map Tg.cells out).length+[[sv x.name,sv tb,bv true,iv ev,AV.sl [],bv true,AV.sl (List.map (fun s=>[sv s]) x.prec),AV.sl (List.map (fun s=>[sv s]) x.foll),AV.sl [],AV.sl [],AV.sl [[iv 4,sv (ByteArray.mk #[]),AV.sl [],AV.sl [],AV.sl [],AV.sl [],sv (ByteArray.mk #[])]]]].length) * 200).le 140737488355328),si hw]) [0,1,2,11,12,24,25,26] 2 kr (zan (show ([(0,AV.p 0 0),(1,sv tb),(2,iv ev),(11,AV.sl (List.map Lk.cells o)),(12,AV.own 1 (List.map Tg.cells out++[[sv x.name,sv tb,bv true,iv ev,AV.sl [],bv true,AV.sl (List.map (fun s=>[sv s]) x.prec),AV.sl (List.map (fun s=>[sv s]) x.foll),AV.sl [],AV.sl [],AV.sl [[iv 4,sv (ByteArray.mk #[]),AV.sl [],AV.sl [],AV.sl [],AV.sl [],sv (ByteArray.mk #[])]]]]).length),(24,AV.sl (List.map Tg.cells l)),(25,iv (↑(List.map Tg.cells l).length:Int)),(26,iv (↑(i+1):Int))]:TS)=_ by first|rfl|(simp only [List.map_append,List.map_cons,List.map_nil,List.length_append,List.length_map,List.length_cons,List.length_nil,Tg.cells,zaj,zal] <;> rfl)) (show ([Blk.box [AV.sl (List.map (fun n=>[iv n]) t41.l),iv (t41.pos:Int)],Blk.row Ty.Trigger (List.map Tg.cells out++[[sv x.name,sv tb,bv true,iv ev,AV.sl [],bv true,AV.sl (List.map (fun s=>[sv s]) x.prec),AV.sl (List.map (fun s=>[sv s]) x.foll),AV.sl [],AV.sl [],AV.sl [[iv 4,sv (ByteArray.mk #[]),AV.sl [],AV.sl [],AV.sl [],AV.sl [],sv (ByteArray.mk #[])]]]]) false]:Heap)=_ by first|rfl|(simp only [List.map_append,List.map_cons,List.map_nil,List.length_append,List.length_map,List.length_cons,List.length_nil,Tg.cells,zaj,zal] <;> rfl)) (gZ R hg)))⟩
    ·obtain ⟨e45,t45,q45,c45⟩:=(zat t39 (Pl.mk [Fr.mk (ByteArray.mk #[79,76,68]) true (zam tb).cols [],Fr.mk (ByteArray.mk #[78,69,87]) true (zam tb).cols []] zao) 2 zbw)
     obtain ⟨e46,t46,q46,c46⟩:=(zat t45 (Pl.mk [Fr.mk (ByteArray.mk #[79,76,68]) true (zam tb).cols [],Fr.mk (ByteArray.mk #[78,69,87]) true (zam tb).cols []] zao) x2.type zbw)
     let p_12:List St:=p_10++[sb h40,skx (True∧(2=2∧True∧True)∧True∧True∧True) [0] c45,sd [(6,[skx (True∧(2=2∧True∧True)∧True∧True∧True) [0] c46]),(7,[sc (zcp x2.name e46)])]]
     cases h47:ev==3
     ·obtain ⟨b48,t48,c48⟩:=(zai t46 8 zbw)
      rcases (Bool.eq_false_or_eq_true b48).symm with h49|h49
      ·obtain ⟨uZ,outZ,qZ,xZ,gZ⟩:=ih (i+1) t48 (out++[Tg.mk x.name tb true ev [] true x.prec x.foll [] [e45] [setA x2.name e46]]) (by omega) zbK (by omega);exact ⟨uZ,outZ,qZ,xZ,fun R hg=>zab (wkl (p_12++[sg h47,sl [0] c48,sb h49,sqx (AllLen [[sv x.name,sv tb,bv true,iv ev,AV.sl [],bv true,AV.sl (List.map (fun s=>[sv s]) x.prec),AV.sl (List.map (fun s=>[sv s]) x.foll),AV.sl [],AV.sl [[iv e45.kind,iv e45.op,bv e45.not,iv e45.val.kind,iv e45.val.int,sv e45.val.text,sv e45.table,sv e45.name,AV.sl (zaa e45.args),AV.sl (zad e45.sub)]],AV.sl [[iv (setA x2.name e46).kind,sv (setA x2.name e46).table,AV.sl [],AV.sl (zad []),AV.sl [[sv x2.name,iv e46.kind,iv e46.op,bv e46.not,iv e46.val.kind,iv e46.val.int,sv e46.val.text,sv e46.table,sv e46.name,AV.sl (zaa e46.args),AV.sl (zad e46.sub)]],AV.sl (zaa []),sv (setA x2.name e46).text]]]] 11∧out.length=(List.map Tg.cells out).length∧(((List.map Tg.cells out).length+[[sv x.name,sv tb,bv true,iv ev,AV.sl [],bv true,AV.sl (List.map (fun s=>[sv s]) x.prec),AV.sl (List.map (fun s=>[sv s]) x.foll),AV.sl [],AV.sl [[iv e45.kind,iv e45.op,bv e45.not,iv e45.val.kind,iv e45.val.int,sv e45.val.text,sv e45.table,sv e45.name,AV.sl (zaa e45.args),AV.sl (zad e45.sub)]],AV.sl [[iv (setA x2.name e46).kind,sv (setA x2.name e46).table,AV.sl [],AV.sl (zad []),AV.sl [[sv x2.name,iv e46.kind,iv e46.op,bv e46.not,iv e46.val.kind,iv e46.val.int,sv e46.val.text,sv e46.table,sv e46.name,AV.sl (zaa e46.args),AV.sl (zad e46.sub)]],AV.sl (zaa []),sv (setA x2.name e46).text]]]].length) * 200).le 140737488355328),si hw]) [0,1,2,11,12,24,25,26] 2 kr (zan (show ([(0,AV.p 0 0),(1,sv tb),(2,iv ev),(11,AV.sl (List.map Lk.cells o)),(12,AV.own 1 (List.map Tg.cells out++[[sv x.name,sv tb,bv true,iv ev,AV.sl [],bv true,AV.sl (List.map (fun s=>[sv s]) x.prec),AV.sl (List.map (fun s=>[sv s]) x.foll),AV.sl [],AV.sl [[iv e45.kind,iv e45.op,bv e45.not,iv e45.val.kind,iv e45.val.int,sv e45.val.text,sv e45.table,sv e45.name,AV.sl (zaa e45.args),AV.sl (zad e45.sub)]],AV.sl [[iv (setA x2.name e46).kind,sv (setA x2.name e46).table,AV.sl [],AV.sl (zad []),AV.sl [[sv x2.name,iv e46.kind,iv e46.op,bv e46.not,iv e46.val.kind,iv e46.val.int,sv e46.val.text,sv e46.table,sv e46.name,AV.sl (zaa e46.args),AV.sl (zad e46.sub)]],AV.sl (zaa []),sv (setA x2.name e46).text]]]]).length),(24,AV.sl (List.map Tg.cells l)),(25,iv (↑(List.map Tg.cells l).length:Int)),(26,iv (↑(i+1):Int))]:TS)=_ by first|rfl|(simp only [List.map_append,List.map_cons,List.map_nil,List.length_append,List.length_map,List.length_cons,List.length_nil,Tg.cells,zaj,zal] <;> rfl)) (show ([Blk.box [AV.sl (List.map (fun n=>[iv n]) t48.l),iv (t48.pos:Int)],Blk.row Ty.Trigger (List.map Tg.cells out++[[sv x.name,sv tb,bv true,iv ev,AV.sl [],bv true,AV.sl (List.map (fun s=>[sv s]) x.prec),AV.sl (List.map (fun s=>[sv s]) x.foll),AV.sl [],AV.sl [[iv e45.kind,iv e45.op,bv e45.not,iv e45.val.kind,iv e45.val.int,sv e45.val.text,sv e45.table,sv e45.name,AV.sl (zaa e45.args),AV.sl (zad e45.sub)]],AV.sl [[iv (setA x2.name e46).kind,sv (setA x2.name e46).table,AV.sl [],AV.sl (zad []),AV.sl [[sv x2.name,iv e46.kind,iv e46.op,bv e46.not,iv e46.val.kind,iv e46.val.int,sv e46.val.text,sv e46.table,sv e46.name,AV.sl (zaa e46.args),AV.sl (zad e46.sub)]],AV.sl (zaa []),sv (setA x2.name e46).text]]]]) false]:Heap)=_ by first|rfl|(simp only [List.map_append,List.map_cons,List.map_nil,List.length_append,List.length_map,List.length_cons,List.length_nil,Tg.cells,zaj,zal] <;> rfl)) (gZ R hg)))⟩
      ·obtain ⟨uZ,outZ,qZ,xZ,gZ⟩:=ih (i+1) t48 (out++[Tg.mk x.name tb true ev [] true x.prec x.foll [] [e45] [Ac.mk 4 (ByteArray.mk #[]) [] [] [] [] (ByteArray.mk #[])]]) (by omega) zbK (by omega);exact ⟨uZ,outZ,qZ,xZ,fun R hg=>zab (wkl (p_12++[sg h47,sl [0] c48,sb h49,sqx (AllLen [[sv x.name,sv tb,bv true,iv ev,AV.sl [],bv true,AV.sl (List.map (fun s=>[sv s]) x.prec),AV.sl (List.map (fun s=>[sv s]) x.foll),AV.sl [],AV.sl [[iv e45.kind,iv e45.op,bv e45.not,iv e45.val.kind,iv e45.val.int,sv e45.val.text,sv e45.table,sv e45.name,AV.sl (zaa e45.args),AV.sl (zad e45.sub)]],AV.sl [[iv 4,sv (ByteArray.mk #[]),AV.sl [],AV.sl [],AV.sl [],AV.sl [],sv (ByteArray.mk #[])]]]] 11∧out.length=(List.map Tg.cells out).length∧(((List.map Tg.cells out).length+[[sv x.name,sv tb,bv true,iv ev,AV.sl [],bv true,AV.sl (List.map (fun s=>[sv s]) x.prec),AV.sl (List.map (fun s=>[sv s]) x.foll),AV.sl [],AV.sl [[iv e45.kind,iv e45.op,bv e45.not,iv e45.val.kind,iv e45.val.int,sv e45.val.text,sv e45.table,sv e45.name,AV.sl (zaa e45.args),AV.sl (zad e45.sub)]],AV.sl [[iv 4,sv (ByteArray.mk #[]),AV.sl [],AV.sl [],AV.sl [],AV.sl [],sv (ByteArray.mk #[])]]]].length) * 200).le 140737488355328),si hw]) [0,1,2,11,12,24,25,26] 2 kr (zan (show ([(0,AV.p 0 0),(1,sv tb),(2,iv ev),(11,AV.sl (List.map Lk.cells o)),(12,AV.own 1 (List.map Tg.cells out++[[sv x.name,sv tb,bv true,iv ev,AV.sl [],bv true,AV.sl (List.map (fun s=>[sv s]) x.prec),AV.sl (List.map (fun s=>[sv s]) x.foll),AV.sl [],AV.sl [[iv e45.kind,iv e45.op,bv e45.not,iv e45.val.kind,iv e45.val.int,sv e45.val.text,sv e45.table,sv e45.name,AV.sl (zaa e45.args),AV.sl (zad e45.sub)]],AV.sl [[iv 4,sv (ByteArray.mk #[]),AV.sl [],AV.sl [],AV.sl [],AV.sl [],sv (ByteArray.mk #[])]]]]).length),(24,AV.sl (List.map Tg.cells l)),(25,iv (↑(List.map Tg.cells l).length:Int)),(26,iv (↑(i+1):Int))]:TS)=_ by first|rfl|(simp only [List.map_append,List.map_cons,List.map_nil,List.length_append,List.length_map,List.length_cons,List.length_nil,Tg.cells,zaj,zal] <;> rfl)) (show ([Blk.box [AV.sl (List.map (fun n=>[iv n]) t48.l),iv (t48.pos:Int)],Blk.row Ty.Trigger (List.map Tg.cells out++[[sv x.name,sv tb,bv true,iv ev,AV.sl [],bv true,AV.sl (List.map (fun s=>[sv s]) x.prec),AV.sl (List.map (fun s=>[sv s]) x.foll),AV.sl [],AV.sl [[iv e45.kind,iv e45.op,bv e45.not,iv e45.val.kind,iv e45.val.int,sv e45.val.text,sv e45.table,sv e45.name,AV.sl (zaa e45.args),AV.sl (zad e45.sub)]],AV.sl [[iv 4,sv (ByteArray.mk #[]),AV.sl [],AV.sl [],AV.sl [],AV.sl [],sv (ByteArray.mk #[])]]]]) false]:Heap)=_ by first|rfl|(simp only [List.map_append,List.map_cons,List.map_nil,List.length_append,List.length_map,List.length_cons,List.length_nil,Tg.cells,zaj,zal] <;> rfl)) (gZ R hg)))⟩
     ·obtain ⟨uZ,outZ,qZ,xZ,gZ⟩:=ih (i+1) t46 (out++[Tg.mk x.name tb true ev [] true x.prec x.foll [] [e45] [Ac.mk 4 (ByteArray.mk #[]) [] [] [] [] (ByteArray.mk #[])]]) (by omega) zbK (by omega);exact ⟨uZ,outZ,qZ,xZ,fun R hg=>zab (wkl (p_12++[sb h47,sqx (AllLen [[sv x.name,sv tb,bv true,iv ev,AV.sl [],bv true,AV.sl (List.map (fun s=>[sv s]) x.prec),AV.sl (List.map (fun s=>[sv s]) x.foll),AV.sl [],AV.sl [[iv e45.kind,iv e45.op,bv e45.not,iv e45.val.kind,iv e45.val.int,sv e45.val.text,sv e45.table,sv e45.name,AV.sl (zaa e45.args),AV.sl (zad e45.sub)]],AV.sl [[iv 4,sv (ByteArray.mk #[]),AV.sl [],AV.sl [],AV.sl [],AV.sl [],sv (ByteArray.mk #[])]]]] 11∧out.length=(List.map Tg.cells out).length∧(((List.map Tg.cells out).length+[[sv x.name,sv tb,bv true,iv ev,AV.sl [],bv true,AV.sl (List.map (fun s=>[sv s]) x.prec),AV.sl (List.map (fun s=>[sv s]) x.foll),AV.sl [],AV.sl [[iv e45.kind,iv e45.op,bv e45.not,iv e45.val.kind,iv e45.val.int,sv e45.val.text,sv e45.table,sv e45.name,AV.sl (zaa e45.args),AV.sl (zad e45.sub)]],AV.sl [[iv 4,sv (ByteArray.mk #[]),AV.sl [],AV.sl [],AV.sl [],AV.sl [],sv (ByteArray.mk #[])]]]].length) * 200).le 140737488355328),si hw]) [0,1,2,11,12,24,25,26] 2 kr (zan (show ([(0,AV.p 0 0),(1,sv tb),(2,iv ev),(11,AV.sl (List.map Lk.cells o)),(12,AV.own 1 (List.map Tg.cells out++[[sv x.name,sv tb,bv true,iv ev,AV.sl [],bv true,AV.sl (List.map (fun s=>[sv s]) x.prec),AV.sl (List.map (fun s=>[sv s]) x.foll),AV.sl [],AV.sl [[iv e45.kind,iv e45.op,bv e45.not,iv e45.val.kind,iv e45.val.int,sv e45.val.text,sv e45.table,sv e45.name,AV.sl (zaa e45.args),AV.sl (zad e45.sub)]],AV.sl [[iv 4,sv (ByteArray.mk #[]),AV.sl [],AV.sl [],AV.sl [],AV.sl [],sv (ByteArray.mk #[])]]]]).length),(24,AV.sl (List.map Tg.cells l)),(25,iv (↑(List.map Tg.cells l).length:Int)),(26,iv (↑(i+1):Int))]:TS)=_ by first|rfl|(simp only [List.map_append,List.map_cons,List.map_nil,List.length_append,List.length_map,List.length_cons,List.length_nil,Tg.cells,zaj,zal] <;> rfl)) (show ([Blk.box [AV.sl (List.map (fun n=>[iv n]) t46.l),iv (t46.pos:Int)],Blk.row Ty.Trigger (List.map Tg.cells out++[[sv x.name,sv tb,bv true,iv ev,AV.sl [],bv true,AV.sl (List.map (fun s=>[sv s]) x.prec),AV.sl (List.map (fun s=>[sv s]) x.foll),AV.sl [],AV.sl [[iv e45.kind,iv e45.op,bv e45.not,iv e45.val.kind,iv e45.val.int,sv e45.val.text,sv e45.table,sv e45.name,AV.sl (zaa e45.args),AV.sl (zad e45.sub)]],AV.sl [[iv 4,sv (ByteArray.mk #[]),AV.sl [],AV.sl [],AV.sl [],AV.sl [],sv (ByteArray.mk #[])]]]]) false]:Heap)=_ by first|rfl|(simp only [List.map_append,List.map_cons,List.map_nil,List.length_append,List.length_map,List.length_cons,List.length_nil,Tg.cells,zaj,zal] <;> rfl)) (gZ R hg)))⟩
end Go.AM
namespace Go.AM
set_option maxRecDepth 100000
set_option maxHeartbeats 1000000
set_option linter.unusedSimpArgs false
set_option linter.unusedVariables false
theorem zit {p:Prop} (h:p:=by first|assumption|exact TrsQ.len (by assumption)|exact ⟨by simp,by simp⟩|omega):p:=h
structure BTrs (tb:Str) (ev:Int) (r:List Tg) (o:List Lk):Prop where
 len:r.length≤8
 trs:∀ x∈r,BTrig tb ev x
 ord:LkN zba o
theorem bTrs {tb:Str} {ev:Int} {l r:List Tg} {o:List Lk} (h:TrsQ l o) (hr:r.length≤l.length∧∀ x∈r,BTrig tb ev x):BTrs tb ev r o:=⟨by have:=h.len;have:=hr.1;omega,hr.2,h.ord⟩
theorem zk5 (t:Tp) (tb:Str) (ev:Int) (hsh:zae zao) (htb:TabN tb):∃ (r:List Tg) (o:List Lk) (t':Tp),BTrs tb ev r o∧zac E0 S.law20_triggers [.p 0 0,sv tb,iv ev,iv 5] [.box t.cells] (.tup [.sl (r.map Tg.cells),lsl o]) [.box t'.cells]:=by
 obtain ⟨l1,o1,t1,q1,c1⟩:=(ziw t 5 zit)
 obtain ⟨u2,out2,q2,q2_1,g2⟩:=zgw t tb ev l1 o1 zit zit zit 0 t1 ([]) zit zit
 exact ⟨out2,o1,u2,(by exact bTrs (by assumption) (by assumption)),wkcN At.law20_triggers [sl [0] c1] [0,1,2,11,12,24,25,26] 1 [(.ot 12 Ty.Trigger,2)] kr (g2 _ (zab (wkr [sqx (out2.length=(List.map Tg.cells out2).length∧True∧True),sb q2_1] kr)))⟩
theorem zlb (t:Tp) (tb:Str) (ev:Int) (htb:TabN tb):∃ (r:List Tg) (o:List Lk) (t':Tp),BTrs tb ev r o∧zac E0 S.law20_triggers [.p 0 0,sv tb,iv ev,iv 5] [.box t.cells] (.tup [.sl (r.map Tg.cells),lsl o]) [.box t'.cells] :=
 zk5 t tb ev zdv htb
theorem BTrig.trOk {tb:Str} {ev:Int} {x:Tg} (h:BTrig tb ev x):TrOk 5 x:=by
 obtain ⟨a,ha,hk⟩:=h.acts
 refine ⟨by rw [ha];simp,fun b hb=>?_,h.when_⟩
 rw [ha,List.mem_singleton] at hb
 subst hb
 rcases hk with rfl|⟨c,e,rfl,he⟩
 ·exact ⟨zaS,⟨by simp [Ac.set0,zeP,Few],by simp [Ac.set0,zeP,Few]⟩,fun x hx=>by simp [Ac.set0,zeP] at hx,fun q hq=>by simp [Ac.set0,zeP] at hq⟩
 ·exact he
end Go.AM
namespace Go.AM
set_option maxRecDepth 100000
set_option linter.unusedSimpArgs false
set_option linter.unusedVariables false
abbrev sNEW:Str:=⟨#[78,69,87]⟩
def rdT (t:Tg):List Str:=t.when_.flatMap (zbh sNEW 5)++t.acts.flatMap fun a=>a.sets.flatMap fun x=>zbh sNEW 5 x.ex
def wrT (t:Tg):List Str:=t.acts.flatMap fun a=>bif a.kind==5 then a.sets.map Se.col else []
def Dj (l m:List Str):Prop:=∀ s∈l,∀ u∈m,s.toList≠u.toList
theorem Dj.symm {l m:List Str} (h:Dj l m):Dj m l:=fun s hs u hu e=>h u hu s hs e.symm
structure Cm (a b:Tg):Prop where
 wr:Dj (wrT a) (rdT b)
 ww:Dj (wrT a) (wrT b)
 rw_:Dj (rdT a) (wrT b)
theorem Cm.symm {a b:Tg} (h:Cm a b):Cm b a:=⟨h.rw_.symm,h.ww.symm,h.wr.symm⟩
structure AgR (s:Sch) (S:List Str) (a b:List V):Prop where
 len:a.length=b.length
 at_:∀ (i:Nat) (c:Col),s.cols[i]?=some c→(∃ x∈S,x.toList=c.name.toList)→a[i]?=b[i]?
theorem zqf {t:Tg} {s:Sch} {S:List Str} {old a b:List V} (h:AgR s S a b):AgFs sNEW (fun l=>∃ x∈S,x.toList=l) (zaF t s old a) (zaF t s old b):=by
 have h1:AgF sNEW (fun l=>∃ x∈S,x.toList=l) ⟨⟨#[78,69,87]⟩,true,s.cols,a⟩ ⟨⟨#[78,69,87]⟩,true,s.cols,b⟩:=⟨rfl,rfl,rfl,h.len,.inr ⟨rfl,rfl,h.at_⟩⟩
 have h2:∀ (f:Fr),AgFs sNEW (fun l=>∃ x∈S,x.toList=l) [f,⟨⟨#[78,69,87]⟩,true,s.cols,a⟩] [f,⟨⟨#[78,69,87]⟩,true,s.cols,b⟩]:=fun f=>⟨rfl,fun k=>match k with
  | 0=>.refl _ _ _
  | 1=>h1
  | _+2=>.refl _ _ _⟩
 have h3:AgFs sNEW (fun l=>∃ x∈S,x.toList=l) [⟨⟨#[78,69,87]⟩,true,s.cols,a⟩] [⟨⟨#[78,69,87]⟩,true,s.cols,b⟩]:=⟨rfl,fun k=>match k with
  | 0=>h1
  | _+1=>.refl _ _ _⟩
 have h4:∀ f:List Fr,AgFs sNEW (fun l=>∃ x∈S,x.toList=l) f f:=fun f=>⟨rfl,fun k=>.refl _ _ _⟩
 unfold zaF
 cases !t.each
 ·cases t.event==2
  ·cases t.event==3
   ·cases t.event==1
    ·exact h4 _
    ·exact h3
   ·cases t.event==1
    ·exact h4 _
    ·exact h2 _
  ·cases t.event==1
   ·exact h2 _
   ·exact h2 _
 ·exact h4 _
def updT (t:Tg) (s:Sch) (old:List V) (tb:List Tb) (nw:List V):Option (Nat × V) :=
 match t.acts with
 | [a]=>bif (zby (fun x=>eval 5 x (zaF t s old nw) tb) t.when_).1&&a.kind==5 then some ((idxF (fun c=>colC c a.set0.col) s.cols 0).toNat,(eval 5 a.set0.ex (zaF t s old nw) tb).1) else none
 | _=>none
def errT (t:Tg) (s:Sch) (old:List V) (tb:List Tb) (nw:List V):Int:=(zbu 5 t s old nw tb).1
def appU (u:Option (Nat × V)) (nw:List V):List V:=match u with
 | none=>nw
 | some (k,v)=>nw.set k v
theorem znV (u:Option (Nat × V)) (nw:List V):(appU u nw).length=nw.length:=by
 cases u with
 | none=>rfl
 | some x=>exact List.length_set
def zkv (w:Bool × Int) (i:Int) (x:V × Int) (ok:Bool) (nw:List V):Int × List V :=
 bif w.2 != 0 then (w.2,nw) else bif !w.1 then (w.2,nw) else bif decide (i < 0) then (3,nw) else bif x.2 != 0 then (x.2,nw) else bif !ok then (17,nw) else (0,nw.set i.toNat x.1)
theorem zsH (R:Int × List V):(bif R.1 != 0 then (R.1,R.2) else (0,R.2))=R:=by
 obtain ⟨a,b⟩:=R
 cases h:(a != 0)
 ·have:a=0:=by simpa using h
  subst this;simp
 ·simp [h]
theorem zrf {f:List V→X→V × Int} {I:List V→Prop} {t:Tg} {s:Sch} {old:List V} {tb:List Tb} {n0 nw:List V} {c:Str} {e:X} {i:Nat}:zge f I t s old tb n0 [setA c e] i nw=zcv (f nw) (setA c e) (zaF t s old nw) s old nw tb:=zsH _
theorem zq0 {f:X→V × Int} {c:Str} {e:X} {fr:List Fr} {s:Sch} {old nw:List V} {tb:List Tb}:zcv f (setA c e) fr s old nw tb=bif decide (idxF (fun x=>colC x c) s.cols 0 < 0) then (3,nw) else bif (f e).2 != 0 then ((f e).2,nw) else bif !(decide (nw.length=s.cols.length)) then (17,nw) else (0,nw.set (idxF (fun x=>colC x c) s.cols 0).toNat (f e).1):=by
 have h:(((nw.length:Nat):Int) != ((List.map Col.cells s.cols).length:Nat))=!(decide (nw.length=s.cols.length)):=by
  rw [List.length_map]
  by_cases h:nw.length=s.cols.length
  ·rw [h];simp
  ·rw [decide_eq_false h];simp;omega
 unfold zcv
 rw [h]
 rfl
theorem zhA {t:Tg} {s:Sch} {old nw:List V} {tb:List Tb} {c:Str} {e:X} (ha:t.acts=[setA c e]):zbu 5 t s old nw tb=zkv (zby (fun x=>eval 5 x (zaF t s old nw) tb) t.when_) (idxF (fun x=>colC x c) s.cols 0) (eval 5 e (zaF t s old nw) tb) (decide (nw.length=s.cols.length)) nw:=by
 unfold zbu fire zkv
 rw [ha,zrf,zq0]
theorem zfD {t:Tg} {s:Sch} {old nw:List V} {tb:List Tb} (ha:t.acts=[Ac.mk 4 ⟨#[]⟩ [] [] [] [] ⟨#[]⟩]):zbu 5 t s old nw tb=bif (zby (fun x=>eval 5 x (zaF t s old nw) tb) t.when_).2 != 0 then ((zby (fun x=>eval 5 x (zaF t s old nw) tb) t.when_).2,nw) else bif !(zby (fun x=>eval 5 x (zaF t s old nw) tb) t.when_).1 then ((zby (fun x=>eval 5 x (zaF t s old nw) tb) t.when_).2,nw) else (12,nw):=by
 unfold zbu fire
 rw [ha]
 rfl
theorem zi6 {t:Tg} {s:Sch} {old nw:List V} {tb:List Tb} {c:Str} {e:X} (ha:t.acts=[setA c e]):updT t s old tb nw=bif (zby (fun x=>eval 5 x (zaF t s old nw) tb) t.when_).1 then some ((idxF (fun x=>colC x c) s.cols 0).toNat,(eval 5 e (zaF t s old nw) tb).1) else none:=by
 unfold updT
 rw [ha]
 show (bif (_&&true) then _ else _)=_
 rw [Bool.and_true]
 rfl
theorem zgr {t:Tg} {s:Sch} {old nw:List V} {tb:List Tb} (ha:t.acts=[Ac.mk 4 ⟨#[]⟩ [] [] [] [] ⟨#[]⟩]):updT t s old tb nw=none:=by
 unfold updT
 rw [ha]
 show (bif (_&&false) then _ else _)=_
 rw [Bool.and_false]
 rfl
theorem zmT {w:Bool × Int} {i:Int} {x:V × Int} {ok:Bool} {nw:List V} (h:(zkv w i x ok nw).1=0):(zkv w i x ok nw).2=appU (bif w.1 then some (i.toNat,x.1) else none) nw∧(w.1=true→0≤i):=by
 unfold zkv at h ⊢
 cases h1:w.2 != 0
 ·rw [h1] at h
  cases h2:w.1
  ·exact ⟨rfl,fun h=>by cases h⟩
  ·rw [h2] at h
   cases h3:decide (i < 0)
   ·rw [h3] at h
    have hi:0≤i:=by simpa using h3
    cases h4:x.2 != 0
    ·rw [h4] at h
     cases ok
     ·cases h
     ·exact ⟨rfl,fun _=>hi⟩
    ·rw [h4] at h
     rw [bne_iff_ne] at h4
     exact absurd h h4
   ·rw [h3] at h;cases h
 ·rw [h1] at h
  rw [bne_iff_ne] at h1
  exact absurd h h1
theorem zsb {tb:Str} {ev:Int} {t:Tg} (h:BTrig tb ev t) {s:Sch} {old:List V} {tbs:List Tb} {nw:List V} (h0:errT t s old tbs nw=0):(zbu 5 t s old nw tbs).2=appU (updT t s old tbs nw) nw:=by
 obtain ⟨a,ha,hk⟩:=h.acts
 unfold errT at h0
 rcases hk with rfl|⟨c,e,rfl,he⟩
 ·rw [zfD ha,zgr ha]
  rw [zfD ha] at h0
  generalize zby (fun x=>eval 5 x (zaF t s old nw) tbs) t.when_=w at *
  cases h1:w.2 != 0
  ·rw [h1] at h0
   cases h2:w.1
   ·rfl
   ·rw [h2] at h0;cases h0
  ·rfl
 ·rw [zhA ha] at h0 ⊢
  rw [zi6 ha]
  exact (zmT h0).1
theorem zs4 {tb:Str} {ev:Int} {t:Tg} (h:BTrig tb ev t) {s:Sch} {old:List V} {tbs:List Tb} {a b:List V} (hg:AgR s (rdT t) a b):errT t s old tbs a=errT t s old tbs b∧updT t s old tbs a=updT t s old tbs b:=by
 have hf:=zqf (t:=t) (old:=old) hg
 have hw:zby (fun x=>eval 5 x (zaF t s old a) tbs) t.when_=zby (fun x=>eval 5 x (zaF t s old b) tbs) t.when_ :=
  zmN _ fun x hx=>ziA 5 x _ _ hf fun y hy=>⟨y,List.mem_append.2 (.inl (List.mem_flatMap.2 ⟨x,hx,hy⟩)),rfl⟩
 obtain ⟨ac,ha,hk⟩:=h.acts
 have he:∀ x∈ac.sets,eval 5 x.ex (zaF t s old a) tbs=eval 5 x.ex (zaF t s old b) tbs:=fun x hx =>
  ziA 5 _ _ _ hf fun y hy=>⟨y,List.mem_append.2 (.inr (List.mem_flatMap.2 ⟨ac,by rw [ha];simp,List.mem_flatMap.2 ⟨x,hx,hy⟩⟩)),rfl⟩
 have hl:=hg.len
 unfold errT
 rcases hk with rfl|⟨c,e,rfl,hx⟩
 ·rw [zfD ha,zfD ha,zgr ha,zgr ha,hw]
  generalize zby (fun x=>eval 5 x (zaF t s old b) tbs) t.when_=w at *
  refine ⟨?_,rfl⟩
  cases w.2 != 0 <;> cases w.1 <;> rfl
 ·have h1:=he ⟨c,e⟩ (by simp [setA])
  rw [zhA ha,zhA ha,zi6 ha,zi6 ha,hw,hl,h1]
  refine ⟨?_,rfl⟩
  generalize zby (fun x=>eval 5 x (zaF t s old b) tbs) t.when_=w at *
  generalize idxF (fun x=>colC x c) s.cols 0=i at *
  generalize eval 5 e (zaF t s old b) tbs=x at *
  unfold zkv
  cases w.2 != 0 <;> cases w.1 <;> cases decide (i < 0) <;> cases x.2 != 0 <;> cases decide (b.length=s.cols.length) <;> rfl
theorem zmv {tb:Str} {ev:Int} {t:Tg} (h:BTrig tb ev t) {s:Sch} {old:List V} {tbs:List Tb} {nw:List V} {k:Nat} {v:V} (h0:errT t s old tbs nw=0) (hu:updT t s old tbs nw=some (k,v)):∃ c,s.cols[k]?=some c∧∃ x∈wrT t,x.toList=c.name.toList:=by
 obtain ⟨ac,ha,hk⟩:=h.acts
 rcases hk with rfl|⟨c,e,rfl,hx⟩
 ·rw [zgr ha] at hu;cases hu
 ·unfold errT at h0
  rw [zhA ha] at h0
  rw [zi6 ha] at hu
  cases hw:(zby (fun x=>eval 5 x (zaF t s old nw) tbs) t.when_).1
  ·rw [hw] at hu;cases hu
  ·rw [hw] at hu
   have hi:=(zmT h0).2 hw
   simp only [cond_true,Option.some.injEq,Prod.mk.injEq] at hu
   rcases zis (fun x=>colC x c) s.cols 0 with ⟨h7,_⟩|⟨j,col,h7,h8,h9⟩
   ·rw [h7] at hi;omega
   ·have hc:colC col c=true:=List.find?_some (p:=fun x=>colC x c) h9
    have hkj:k=j:=by
     have:=hu.1
     rw [h7] at this;omega
    subst hkj
    refine ⟨col,h8,c,?_,?_⟩
    ·unfold wrT;rw [ha];simp [setA]
    ·simp only [colC] at hc
     simp at hc
     exact hc.symm
theorem ztP {tb:Str} {ev:Int} {t u:Tg} (h:BTrig tb ev t) (hc:Cm t u) {s:Sch} {old:List V} {tbs:List Tb} {nw:List V} (h0:errT t s old tbs nw=0):AgR s (rdT u) (appU (updT t s old tbs nw) nw) nw:=by
 refine ⟨znV _ _,fun i c hi ⟨x,hx,hxc⟩=>?_⟩
 cases hu:updT t s old tbs nw with
 | none=>rfl
 | some y =>
  obtain ⟨k,v⟩:=y
  obtain ⟨c',h1,x',h2,h3⟩:=zmv h h0 hu
  have hne:k≠i:=by
   intro e
   subst e
   rw [hi] at h1
   cases h1
   exact hc.wr x' h2 x hx (h3.trans hxc.symm)
  exact List.getElem?_set_ne hne
theorem zsM {tb:Str} {ev:Int} {t u:Tg} (h:BTrig tb ev t) (hu:BTrig tb ev u) (hc:Cm t u) {s:Sch} {old:List V} {tbs:List Tb} {nw:List V} (h0:errT t s old tbs nw=0) (h1:errT u s old tbs nw=0) (z:List V) :
  appU (updT u s old tbs nw) (appU (updT t s old tbs nw) z)=appU (updT t s old tbs nw) (appU (updT u s old tbs nw) z):=by
 cases e1:updT t s old tbs nw with
 | none=>rfl
 | some x =>
  cases e2:updT u s old tbs nw with
  | none=>rfl
  | some y =>
   obtain ⟨k,v⟩:=x
   obtain ⟨l,w⟩:=y
   obtain ⟨c,a1,x,a2,a3⟩:=zmv h h0 e1
   obtain ⟨c',b1,x',b2,b3⟩:=zmv hu h1 e2
   have hne:k≠l:=by
    intro e
    subst e
    rw [a1] at b1
    cases b1
    exact hc.ww x a2 x' b2 (a3.trans b3.symm)
   simp only [appU]
   exact List.set_comm _ _ hne
theorem zpP {α:Type} {R:α→α→Prop} (hs:∀ {a b},R a b→R b a):∀ {l:List α},l.Pairwise R→∀ x∈l,∀ y∈l,x≠y→R x y
 | [],_,x,hx,_,_,_=>by cases hx
 | a::r,h,x,hx,y,hy,hne=>by
  rw [List.pairwise_cons] at h
  rcases List.mem_cons.1 hx with hx1|hx1
  ·rcases List.mem_cons.1 hy with hy1|hy1
   ·exact absurd (hx1.trans hy1.symm) hne
   ·exact hx1 ▸ h.1 y hy1
  ·rcases List.mem_cons.1 hy with hy1|hy1
   ·exact hs (hy1 ▸ h.1 x hx1)
   ·exact zpP hs h.2 x hx1 y hy1 hne
theorem zlT {α:Type}:∀ (l:List α) (j:Nat) (h:j < l.length),l.Perm (l[j]::l.eraseIdx j)
 | a::r,0,h=>.refl _
 | a::r,j+1,h=>by
  have ih:=zlT r j (by simpa using h)
  exact (List.Perm.cons a ih).trans (.swap _ _ _)
theorem zod (its:List Im):(zaz its [] its.length).length=its.length:=by
 unfold zaz
 rw [List.length_map,List.filter_eq_self.2,List.length_range]
 intro i _
 unfold zdP
 rw [List.all_eq_true]
 intro k _
 unfold blk
 cases its[k]? with
 | none=>simp
 | some x =>
  cases its[i]? with
  | none=>simp
  | some y =>
   have:ziP [] x.trig y.trig=false:=by rfl
   simp [this]
theorem zrF {s:Sch} {old:List V} {tbs:List Tb} {k j:Nat} {cur:List Tg} {nw:List V} {ps ch:List Int} (hk:cur.length=k+1) (hj:zbg (cur.map imOf) [] ps=j) :
  ∃ ps' ch',brow 5 [] s old tbs (k+1) cur nw ps ch=bif (zbu 5 (cur.getD j zbc) s old nw tbs).1 != 0 then ([],[],[],(zbu 5 (cur.getD j zbc) s old nw tbs).1) else brow 5 [] s old tbs k (cur.eraseIdx j) (zbu 5 (cur.getD j zbc) s old nw tbs).2 ps' ch':=by
 have hel:(zaz (cur.map imOf) [] (cur.map imOf).length).length=k+1:=by rw [zod,List.length_map,hk]
 have hz:((((List.map (fun n=>[iv n]) (zaz (cur.map imOf) [] (cur.map imOf).length)).length:Nat):Int)==0)=false:=by
  rw [List.length_map,hel];simp;omega
 rw [brow,hz,cond_false]
 simp only [pl,hj]
 cases decide ((1:Int) < (((List.map (fun n=>[iv n]) (zaz (cur.map imOf) [] (cur.map imOf).length)).length:Nat):Int))
 ·exact ⟨_,_,rfl⟩
 ·exact ⟨_,_,rfl⟩
theorem zpH {α β:Type} {f g:α→β→α}:∀ (l:List β) (z:α),(∀ u∈l,∀ a,f a u=g a u)→l.foldl f z=l.foldl g z
 | [],_,_=>rfl
 | u::r,z,h=>by
  rw [List.foldl_cons,List.foldl_cons,h u (by simp)]
  exact zpH r _ fun v hv=>h v (by simp [hv])
structure Outc (s:Sch) (old:List V) (tbs:List Tb) (cur:List Tg) (nw:List V) (r:List V × List Int × List Int × Int):Prop where
 bad:(∃ t∈cur,errT t s old tbs nw≠0)→r.1=[]∧r.2.2.2≠0
 good:(∀ t∈cur,errT t s old tbs nw=0)→r.1=cur.foldl (fun a t=>appU (updT t s old tbs nw) a) nw∧r.2.2.2=0
theorem zrL {tb:Str} {ev:Int} {s:Sch} {old:List V} {tbs:List Tb} {cur rest:List Tg} {t:Tg} {nw:List V} {r:List V × List Int × List Int × Int} (hperm:cur.Perm (t::rest)) (hB:∀ t∈cur,BTrig tb ev t) (hP:cur.Pairwise Cm) (h0:errT t s old tbs nw=0)
  (ih:Outc s old tbs rest (appU (updT t s old tbs nw) nw) r):Outc s old tbs cur nw r:=by
 have hP':(t::rest).Pairwise Cm:=(hperm.pairwise_iff Cm.symm).1 hP
 rw [List.pairwise_cons] at hP'
 have htm:t∈cur:=hperm.mem_iff.2 (by simp)
 have hrm:∀ u∈rest,u∈cur:=fun u hu=>hperm.mem_iff.2 (by simp [hu])
 have hag:∀ u∈rest,errT u s old tbs (appU (updT t s old tbs nw) nw)=errT u s old tbs nw∧updT u s old tbs (appU (updT t s old tbs nw) nw)=updT u s old tbs nw:=fun u hu=>zs4 (hB u (hrm u hu)) (ztP (hB t htm) (hP'.1 u hu) h0)
 refine ⟨fun ⟨u,hu,hue⟩=>?_,fun hall=>?_⟩
 ·rcases List.mem_cons.1 (hperm.mem_iff.1 hu) with hu1|hu1
  ·exact absurd h0 (hu1 ▸ hue)
  ·exact ih.bad ⟨u,hu1,by rw [(hag u hu1).1];exact hue⟩
 ·obtain ⟨i1,i2⟩:=ih.good fun u hu=>by rw [(hag u hu).1];exact hall u (hrm u hu)
  refine ⟨?_,i2⟩
  rw [i1,zpH (g:=fun a u=>appU (updT u s old tbs nw) a) rest _ (fun u hu a=>by rw [(hag u hu).2])]
  have e2:=List.Perm.foldl_eq' (f:=fun a u=>appU (updT u s old tbs nw) a) hperm (fun x hx y hy z=>by
   by_cases hxy:x=y
   ·subst hxy;rfl
   ·exact zsM (hB x hx) (hB y hy) (zpP (fun h=>Cm.symm h) hP x hx y hy hxy) (hall x hx) (hall y hy) z) nw
  rw [e2,List.foldl_cons]
theorem zrp {tb:Str} {ev:Int} {s:Sch} {old:List V} {tbs:List Tb}:∀ (k:Nat) (cur:List Tg) (nw:List V) (ps ch:List Int),cur.length=k→(∀ t∈cur,BTrig tb ev t)→cur.Pairwise Cm→Outc s old tbs cur nw (brow 5 [] s old tbs k cur nw ps ch):=by
 intro k
 induction k with
 | zero =>
  intro cur nw ps ch hk _ _
  have:cur=[]:=List.length_eq_zero_iff.1 hk
  subst this
  exact ⟨fun ⟨t,ht,_⟩=>by simp at ht,fun _=>⟨rfl,rfl⟩⟩
 | succ k ihk =>
  intro cur nw ps ch hk hB hP
  have hj:zbg (cur.map imOf) [] ps < cur.length:=by
   have:=zmR (cur.map imOf) [] ps (by simp;omega)
   simpa using this
  obtain ⟨j,hjj⟩:∃ j,zbg (cur.map imOf) [] ps=j:=⟨_,rfl⟩
  obtain ⟨ps',ch',e⟩:=zrF (s:=s) (old:=old) (tbs:=tbs) (nw:=nw) (ch:=ch) hk hjj
  rw [e]
  rw [hjj] at hj
  obtain ⟨t,ht⟩:∃ t,cur.getD j zbc=t:=⟨_,rfl⟩
  have htj:cur[j]=t:=by rw [← ht,List.getD_eq_getElem?_getD,List.getElem?_eq_getElem hj];rfl
  have hperm:cur.Perm (t::cur.eraseIdx j):=by
   have:=zlT cur j hj
   rw [htj] at this
   exact this
  have htm:t∈cur:=hperm.mem_iff.2 (by simp)
  have hP':(t::cur.eraseIdx j).Pairwise Cm:=(hperm.pairwise_iff Cm.symm).1 hP
  rw [List.pairwise_cons] at hP'
  have hl':(cur.eraseIdx j).length=k:=by rw [List.length_eraseIdx,if_pos hj];omega
  rw [ht]
  by_cases h0:errT t s old tbs nw=0
  ·have e0:((zbu 5 t s old nw tbs).1 != 0)=false:=by
    rw [bne_eq_false_iff_eq];exact h0
   rw [e0,cond_false,zsb (hB t htm) h0]
   exact zrL hperm hB hP h0 (ihk (cur.eraseIdx j) _ ps' ch' hl' (fun u hu=>hB u (List.mem_of_mem_eraseIdx hu)) hP'.2)
  ·have e0:((zbu 5 t s old nw tbs).1 != 0)=true:=by
    rw [bne_iff_ne];exact h0
   rw [e0,cond_true]
   exact ⟨fun _=>⟨rfl,h0⟩,fun h=>absurd (h t htm) h0⟩
noncomputable def outC (s:Sch) (old nw:List V) (tbs:List Tb) (cur:List Tg):List V:=by
 classical
 exact if ∀ t∈cur,errT t s old tbs nw=0 then cur.foldl (fun a t=>appU (updT t s old tbs nw) a) nw else []
noncomputable def okC (s:Sch) (old nw:List V) (tbs:List Tb) (cur:List Tg):Bool:=by
 classical
 exact decide (∀ t∈cur,errT t s old tbs nw=0)
theorem zrV {tb:Str} {ev:Int} {s:Sch} {old nw:List V} {tbs:List Tb} {cur:List Tg} (ps:List Int) (hB:∀ t∈cur,BTrig tb ev t) (hP:cur.Pairwise Cm) :
  (bRow 5 cur [] s old nw tbs ps).1=outC s old nw tbs cur∧((bRow 5 cur [] s old nw tbs ps).2.2.2==0)=okC s old nw tbs cur:=by
 obtain ⟨h1,h2⟩:=zrp (s:=s) (old:=old) (tbs:=tbs) cur.length cur nw ps [] rfl hB hP
 unfold outC okC bRow
 by_cases h:∀ t∈cur,errT t s old tbs nw=0
 ·obtain ⟨a,b⟩:=h2 h
  rw [if_pos h,decide_eq_true h]
  exact ⟨a,by rw [b];rfl⟩
 ·have:∃ t∈cur,errT t s old tbs nw≠0:=by
   apply Classical.byContradiction
   intro hn
   exact h fun t ht=>Classical.byContradiction fun he=>hn ⟨t,ht,he⟩
  obtain ⟨a,b⟩:=h1 this
  rw [if_neg h,decide_eq_false h]
  exact ⟨a,by simpa using b⟩
end Go.AM
namespace Go.AM
set_option maxRecDepth 100000
set_option maxHeartbeats 1000000
set_option linter.unusedSimpArgs false
set_option linter.unusedVariables false
theorem zcl {p:Prop} (h:p:=by first|assumption|exact FmI.start (preN_0 (by assumption)) (by simp)|exact FmI.start (preN_1 (by assumption) (by assumption)) (by simp)|exact FmI.start (preN_2 (by assumption) (by assumption)) (by simp)|exact FmI.second (by assumption) ha|omega|(simp;done)):p:=h
theorem zkd {p:Prop} (h:p:=by first|assumption|exact FmI.start hI.eq.symm hI.len|omega|(simp;done)):p:=h
@[simp] theorem xcells_len (x:X):x.cells.length=10:=by cases x;rfl
@[simp] theorem mem_cellsX (c:List AV) (l:List X):c∈zaa l↔∃ x∈l,x.cells=c:=by rw [zbj,List.mem_map]
structure FmI {α β:Type} (l:List α) (f:α→List β) (pre out:List β) (B C i:Nat):Prop where
 eq:out=pre++(l.take i).flatMap f
 len:out.length≤B+i * C
theorem FmI.zero {α β:Type} {l:List α} {f:α→List β} {pre:List β} {B C:Nat} (h:pre.length≤B):FmI l f pre pre B C 0:=⟨by simp,by simpa using h⟩
theorem FmI.step {α β:Type} {l:List α} {f:α→List β} {pre out:List β} {B C i:Nat} {x:α} (h:FmI l f pre out B C i) (hx:l[i]?=some x) (hl:(f x).length≤C):FmI l f pre (out++f x) B C (i+1) :=
 ⟨by rw [List.take_add_one,hx,List.flatMap_append,h.eq];simp,by have:=h.len;rw [List.length_append,Nat.succ_mul];omega⟩
theorem FmI.all {α β:Type} {l:List α} {f:α→List β} {pre out:List β} {B C:Nat} (h:FmI l f pre out B C l.length):out=pre++l.flatMap f:=by have:=h.eq;rwa [List.take_length] at this
theorem FmI.room {α β:Type} {l:List α} {f:α→List β} {pre out:List β} {B C i n k:Nat} (h:FmI l f pre out B C i) (hi:i≤n) (hk:B+n * C+k≤1000000000) {m:Nat} (hm:m≤k):out.length+m≤1000000000:=by
 have h1:=h.len
 have h2:=Nat.mul_le_mul_right C hi
 omega
abbrev NamC (q:Str) (f:X→List Str) (x:X):Prop:=zac E0 S.ref26_named [x.av,sv q] [] (ssl (f x)) []∧(f x).length≤100000
def preN (e:X) (q:Str):List Str:=bif e.kind==2&&e.table.toList==q.toList then [e.name] else []
theorem preN_0 {e:X} {q:Str} (h:(e.kind==2)=false):preN e q=[]:=by simp [preN,h]
theorem preN_1 {e:X} {q:Str} (h:(e.kind==2)=true) (h2:(e.table.toList==q.toList)=false):preN e q=[]:=by simp [preN,h,h2]
theorem preN_2 {e:X} {q:Str} (h:(e.kind==2)=true) (h2:(e.table.toList==q.toList)=true):preN e q=[e.name]:=by simp [preN,h,h2]
theorem FmI.start {α β:Type} {l:List α} {f:α→List β} {pre out:List β} {B C:Nat} (he:pre=out) (h:out.length≤B):FmI l f pre out B C 0:=⟨by simp [he],by simpa using h⟩
noncomputable def L_nmA (e:X) (q:Str) (f:X→List Str) (i:Nat) (out:List Str):Cfg:=zav B.ref26_named 0 [(1,sv q),(2,.p 0 0),(5,.own 1 out.length),(27,.sl (zaa e.args)),(28,iv ((zaa e.args).length:Nat)),(29,iv (i:Nat))] [.box e.cells,.row Ty.string (out.map fun s=>[sv s]) false]
theorem zcR (e:X) (q:Str) (f:X→List Str) (ha:Thin 3 e.args) (hr:∀ x∈e.args,NamC q f x) (i:Nat) (out:List Str) (hi:i≤(e.args).length) (hI:FmI e.args f (preN e q) out 1 100000 i):∃ (out':List Str),(FmI e.args f (preN e q) out' 1 100000 (e.args).length)∧(decide ((((e.args).length:Nat):Int) < (((zaa e.args).length:Nat):Int))=false)∧∀ R,Good E0 B.ref26_named [] (L_nmA e q f (e.args).length out') R→Good E0 B.ref26_named [] (L_nmA e q f i out) R:=by
 obtain ⟨kk,hk⟩:∃ kk,i+kk=(e.args).length:=⟨(e.args).length - i,by omega⟩
 induction kk generalizing i out with
 | zero =>
  have e0:i=(e.args).length:=by omega
  subst e0
  exact ⟨out,hI,by simp,fun R hg=>hg⟩
 | succ kk ih =>
  obtain ⟨x,hx⟩:=zay (l:=e.args) (i:=i) (by omega)
  have h0:decide (((i:Nat):Int) < (((zaa e.args).length:Nat):Int))=true:=by simp;omega
  have hw:IntKind.i64.wrap (((i:Nat):Int)+1)=((i+1:Nat):Int):=zap i (by first|omega|(simp only [zae,Few] at *;omega))
  have hfx:=(hr x (List.mem_of_getElem? hx)).1
  have hfl:=(hr x (List.mem_of_getElem? hx)).2
  have hol:=hI.room (n:=3) (k:=100000) (by simp only [Thin] at ha;omega) (by omega) hfl
  obtain ⟨outZ,qZ,xZ,gZ⟩:=ih (i+1) (out++f x) (by omega) (by exact hI.step hx hfl) (by omega);exact ⟨outZ,qZ,xZ,fun R hg=>zab (wkl [sb h0,se (zbn hx),sc hfx,sqx (AllLen (List.map (fun s=>[sv s]) (f x)) 1∧out.length=(List.map (fun s=>[sv s]) out).length∧(((List.map (fun s=>[sv s]) out).length+(List.map (fun s=>[sv s]) (f x)).length) * 16).le 140737488355328),si hw] [1,2,5,27,28,29] 2 kr (zan (show ([(1,sv q),(2,AV.p 0 0),(5,AV.own 1 (List.map (fun s=>[sv s]) out++List.map (fun s=>[sv s]) (f x)).length),(27,AV.sl (zaa e.args)),(28,iv (↑(zaa e.args).length:Int)),(29,iv (↑(i+1):Int))]:TS)=_ by first|rfl|(simp;done)|(simp [X.cells,Qy.cells,V.cells,Col.cells,Rw.cells,Tb.cells,Fr.cells,Sch.cells,Tp.cells,Pl.cells,xCol,xLit,xBin,xNeg,Im.cells,Lk.cells,Ac.cells,Se.cells,Tg.cells,Rk.cells];done)) (show ([Blk.box [iv e.kind,iv e.op,bv e.not,iv e.val.kind,iv e.val.int,sv e.val.text,sv e.table,sv e.name,AV.sl (zaa e.args),AV.sl (zad e.sub)],Blk.row Ty.string (List.map (fun s=>[sv s]) out++List.map (fun s=>[sv s]) (f x)) false]:Heap)=_ by first|rfl|(simp;done)|(simp [X.cells,Qy.cells,V.cells,Col.cells,Rw.cells,Tb.cells,Fr.cells,Sch.cells,Tp.cells,Pl.cells,xCol,xLit,xBin,xNeg,Im.cells,Lk.cells,Ac.cells,Se.cells,Tg.cells,Rk.cells];done)) (gZ R hg)))⟩
def subN (f:X→List Str) (y:Qy):List Str:=(y.items++y.wh).flatMap f
abbrev preQ (e:X) (q:Str) (f:X→List Str):List Str:=preN e q++e.args.flatMap f
theorem namS {q:Str} {f:X→List Str} {y:Qy} (h:(∀ x∈y.items,NamC q f x)∧∀ x∈y.wh,NamC q f x):∀ x∈y.items++y.wh,NamC q f x:=fun x hx=>(List.mem_append.1 hx).elim (h.1 x) (h.2 x)
theorem FmI.next {l:List Qy} {f:X→List Str} {pre out out':List Str} {B i:Nat} {y:Qy} (h:FmI l (subN f) pre out B 900000 i) (hx:l[i]?=some y) (h1:Thin 8 y.items) (h2:Thin 1 y.wh) (h3:FmI (y.items++y.wh) f (pre++(l.take i).flatMap (subN f)) out' (B+i * 900000) 100000 (y.items++y.wh).length):FmI l (subN f) pre out' B 900000 (i+1) :=
 ⟨by rw [h3.all,List.take_add_one,hx,List.flatMap_append];simp [subN],by have:=h3.len;simp only [Thin,List.length_append] at *;omega⟩
theorem ztw {a b:List X} {i:Nat} {x:X} (hx:(a++b)[i]?=some x):ElAt (zaa a++zaa b) (i:Int) x.cells 10:=by
 rw [← zaH];exact zbn hx
noncomputable def L_nmX (e:X) (q:Str) (f:X→List Str) (io:Nat) (y:Qy) (i:Nat) (out:List Str):Cfg:=zav B.ref26_named 2 [(1,sv q),(5,.own 1 out.length),(40,.sl (zad e.sub)),(41,iv ((zad e.sub).length:Nat)),(42,iv (io:Nat)),(51,.sl (zaa y.items++zaa y.wh)),(52,iv ((zaa y.items++zaa y.wh).length:Nat)),(53,iv (i:Nat))] [.box e.cells,.row Ty.string (out.map fun s=>[sv s]) false]
theorem zhm (e:X) (q:Str) (f:X→List Str) (io:Nat) (y:Qy) (hio:io≤1) (h1:Thin 8 y.items) (h2:Thin 1 y.wh) (hr:∀ x∈y.items++y.wh,NamC q f x) (i:Nat) (out:List Str) (hi:i≤((y.items++y.wh)).length) (hI:FmI (y.items++y.wh) f (preQ e q f++(e.sub.take io).flatMap (subN f)) out (300001+io * 900000) 100000 i):∃ (out':List Str),(FmI (y.items++y.wh) f (preQ e q f++(e.sub.take io).flatMap (subN f)) out' (300001+io * 900000) 100000 ((y.items++y.wh)).length)∧(decide (((((y.items++y.wh)).length:Nat):Int) < (((zaa y.items++zaa y.wh).length:Nat):Int))=false)∧∀ R,Good E0 B.ref26_named [] (L_nmX e q f io y ((y.items++y.wh)).length out') R→Good E0 B.ref26_named [] (L_nmX e q f io y i out) R:=by
 obtain ⟨kk,hk⟩:∃ kk,i+kk=((y.items++y.wh)).length:=⟨((y.items++y.wh)).length - i,by omega⟩
 induction kk generalizing i out with
 | zero =>
  have e0:i=((y.items++y.wh)).length:=by omega
  subst e0
  exact ⟨out,hI,by simp,fun R hg=>hg⟩
 | succ kk ih =>
  obtain ⟨x,hx⟩:=zay (l:=(y.items++y.wh)) (i:=i) (by omega)
  have h0:decide (((i:Nat):Int) < (((zaa y.items++zaa y.wh).length:Nat):Int))=true:=by (simp only [List.length_append] at hk;simp;omega)
  have hw:IntKind.i64.wrap (((i:Nat):Int)+1)=((i+1:Nat):Int):=zap i (by simp only [Thin,List.length_append] at *;omega)
  have hel:=ztw hx
  have hfx:=(hr x (List.mem_of_getElem? hx)).1
  have hfl:=(hr x (List.mem_of_getElem? hx)).2
  have hol:=hI.room (n:=9) (k:=100000) (by simp only [Thin,List.length_append] at *;omega) (by omega) hfl
  obtain ⟨outZ,qZ,xZ,gZ⟩:=ih (i+1) (out++f x) (by omega) (by exact hI.step hx hfl) (by omega);exact ⟨outZ,qZ,xZ,fun R hg=>zab (wkl [sb h0,se hel,sc hfx,sqx (AllLen (List.map (fun s=>[sv s]) (f x)) 1∧out.length=(List.map (fun s=>[sv s]) out).length∧(((List.map (fun s=>[sv s]) out).length+(List.map (fun s=>[sv s]) (f x)).length) * 16).le 140737488355328),si hw] [1,5,40,41,42,51,52,53] 2 kr (zan (show ([(1,sv q),(5,AV.own 1 (List.map (fun s=>[sv s]) out++List.map (fun s=>[sv s]) (f x)).length),(40,AV.sl (zad e.sub)),(41,iv (↑(zad e.sub).length:Int)),(42,iv (io:Int)),(51,AV.sl (zaa y.items++zaa y.wh)),(52,iv (↑(zaa y.items++zaa y.wh).length:Int)),(53,iv (↑(i+1):Int))]:TS)=_ by first|rfl|(simp;done)|(simp [X.cells,Qy.cells,V.cells,Col.cells,Rw.cells,Tb.cells,Fr.cells,Sch.cells,Tp.cells,Pl.cells,xCol,xLit,xBin,xNeg,Im.cells,Lk.cells,Ac.cells,Se.cells,Tg.cells,Rk.cells];done)) (show ([Blk.box [iv e.kind,iv e.op,bv e.not,iv e.val.kind,iv e.val.int,sv e.val.text,sv e.table,sv e.name,AV.sl (zaa e.args),AV.sl (zad e.sub)],Blk.row Ty.string (List.map (fun s=>[sv s]) out++List.map (fun s=>[sv s]) (f x)) false]:Heap)=_ by first|rfl|(simp;done)|(simp [X.cells,Qy.cells,V.cells,Col.cells,Rw.cells,Tb.cells,Fr.cells,Sch.cells,Tp.cells,Pl.cells,xCol,xLit,xBin,xNeg,Im.cells,Lk.cells,Ac.cells,Se.cells,Tg.cells,Rk.cells];done)) (gZ R hg)))⟩
theorem FmI.second {e:X} {q:Str} {f:X→List Str} {out:List Str} (h:FmI e.args f (preN e q) out 1 100000 e.args.length) (ha:Thin 3 e.args):FmI e.sub (subN f) (preQ e q f) out 300001 900000 0 :=
 .start h.all.symm (by have:=h.len;simp only [Thin] at ha;omega)
theorem FmI.third {e:X} {q:Str} {f:X→List Str} {out:List Str} (h:FmI e.sub (subN f) (preQ e q f) out 300001 900000 e.sub.length) (hu:Thin 1 e.sub):out=preQ e q f++e.sub.flatMap (subN f):=h.all
noncomputable def L_nmQ (e:X) (q:Str) (f:X→List Str) (i:Nat) (out:List Str):Cfg:=zav B.ref26_named 1 [(1,sv q),(5,.own 1 out.length),(40,.sl (zad e.sub)),(41,iv ((zad e.sub).length:Nat)),(42,iv (i:Nat))] [.box e.cells,.row Ty.string (out.map fun s=>[sv s]) false]
theorem zcS (e:X) (q:Str) (f:X→List Str) (hu:Thin 1 e.sub) (hq:∀ y∈e.sub,(Thin 8 y.items∧Thin 1 y.wh)∧(∀ x∈y.items,NamC q f x)∧∀ x∈y.wh,NamC q f x) (i:Nat) (out:List Str) (hi:i≤(e.sub).length) (hI:FmI e.sub (subN f) (preQ e q f) out 300001 900000 i):∃ (out':List Str),(FmI e.sub (subN f) (preQ e q f) out' 300001 900000 (e.sub).length)∧(decide ((((e.sub).length:Nat):Int) < (((zad e.sub).length:Nat):Int))=false)∧∀ R,Good E0 B.ref26_named [] (L_nmQ e q f (e.sub).length out') R→Good E0 B.ref26_named [] (L_nmQ e q f i out) R:=by
 obtain ⟨kk,hk⟩:∃ kk,i+kk=(e.sub).length:=⟨(e.sub).length - i,by omega⟩
 induction kk generalizing i out with
 | zero =>
  have e0:i=(e.sub).length:=by omega
  subst e0
  exact ⟨out,hI,by simp,fun R hg=>hg⟩
 | succ kk ih =>
  obtain ⟨x,hx⟩:=zay (l:=e.sub) (i:=i) (by omega)
  have h0:decide (((i:Nat):Int) < (((zad e.sub).length:Nat):Int))=true:=by simp;omega
  have hw:IntKind.i64.wrap (((i:Nat):Int)+1)=((i+1:Nat):Int):=zap i (by first|omega|(simp only [zae,Few] at *;omega))
  have hi1:=(hq x (List.mem_of_getElem? hx)).1.1;have hi2:=(hq x (List.mem_of_getElem? hx)).1.2;have hrr:=namS (hq x (List.mem_of_getElem? hx)).2;have hi9:i≤1:=by (simp only [Thin] at hu;omega)
  obtain ⟨out1,q1,q1_1,g1⟩:=zhm e q f i x zkd zkd zkd hrr 0 out zkd zkd
  obtain ⟨outZ,qZ,xZ,gZ⟩:=ih (i+1) out1 (by omega) (by exact hI.next hx hi1 hi2 (by assumption)) (by omega);exact ⟨outZ,qZ,xZ,fun R hg=>zab (wklN [sb h0,se (zaX hx),sd [(2,[sqx (AllLen (zaa x.items) 10∧((zaa x.items).length * 136).le 140737488355328)]),(5,[sqx (AllLen (zaa x.wh) 10∧(zaa x.items).length=(zaa x.items).length∧(((zaa x.items).length+(zaa x.wh).length) * 136).le 140737488355328)]),(6,[sqx ((zaa x.items++zaa x.wh).length=(zaa x.items++zaa x.wh).length)])],sqx ((zaa x.items++zaa x.wh).length=(zaa x.items++zaa x.wh).length)] [1,5,40,41,42,51,52,53] 4 [(.fz 51,2)] kr (g1 _ (zab (wkl [sb q1_1,si hw] [1,5,40,41,42] 2 kr (gZ R hg)))))⟩
theorem zm9 (e:X) (q:Str) (f:X→List Str) (ha:Thin 3 e.args) (hr:∀ x∈e.args,NamC q f x) (hu:Thin 1 e.sub) (hq:∀ y∈e.sub,(Thin 8 y.items∧Thin 1 y.wh)∧(∀ x∈y.items,NamC q f x)∧∀ x∈y.wh,NamC q f x):∃ (r:List Str),r=preQ e q f++e.sub.flatMap (subN f)∧zac E0 S.ref26_named [e.av,sv q] [] (ssl r) []:=by
 cases h1:e.kind==2
 ·obtain ⟨out2,q2,q2_1,g2⟩:=zcR e q f zcl hr 0 ([]) zcl zcl
  obtain ⟨out3,q3,q3_1,g3⟩:=zcS e q f zcl hq 0 out2 zcl zcl
  exact ⟨out3,(by exact FmI.third (by assumption) hu),wkcN At.ref26_named [sb h1] [1,2,5,27,28,29] 1 [(.ot 5 Ty.string,2)] kr (g2 _ (zab (wkl [sb q2_1] [1,5,40,41,42] 2 kr (g3 _ (zab (wkr [sqx (out3.length=(List.map (fun s=>[sv s]) out3).length),sb q3_1] kr))))))⟩
 ·cases h4:ByteArray.toList e.table==ByteArray.toList q
  ·obtain ⟨out5,q5,q5_1,g5⟩:=zcR e q f zcl hr 0 ([]) zcl zcl
   obtain ⟨out6,q6,q6_1,g6⟩:=zcS e q f zcl hq 0 out5 zcl zcl
   exact ⟨out6,(by exact FmI.third (by assumption) hu),wkcN At.ref26_named [sg h1,sb h4] [1,2,5,27,28,29] 1 [(.ot 5 Ty.string,2)] kr (g5 _ (zab (wkl [sb q5_1] [1,5,40,41,42] 2 kr (g6 _ (zab (wkr [sqx (out6.length=(List.map (fun s=>[sv s]) out6).length),sb q6_1] kr))))))⟩
  ·obtain ⟨out7,q7,q7_1,g7⟩:=zcR e q f zcl hr 0 ([e.name]) zcl zcl
   obtain ⟨out8,q8,q8_1,g8⟩:=zcS e q f zcl hq 0 out7 zcl zcl
   exact ⟨out8,(by exact FmI.third (by assumption) hu),wkc At.ref26_named [sg h1,sb h4,sqx (AllLen [[sv e.name]] 1∧Nat.le 16 140737488355328)] [1,2,5,27,28,29] 2 kr (g7 _ (zab (wkl [sb q7_1] [1,5,40,41,42] 2 kr (g8 _ (zab (wkr [sqx (out8.length=(List.map (fun s=>[sv s]) out8).length),sb q8_1] kr))))))⟩
theorem ztd (f:X→List Str):subN f=fun y=>y.items.flatMap f++y.wh.flatMap f:=by funext y;simp [subN]
theorem zcH {α β:Type} {l:List α} {f:α→List β} {C:Nat} (h:∀ x∈l,(f x).length≤C):(l.flatMap f).length≤l.length * C:=by
 induction l with
 | nil=>simp
 | cons a r ih =>
  rw [List.flatMap_cons,List.length_append,List.length_cons,Nat.succ_mul]
  have h1:=h a (by simp)
  have h2:=ih fun x hx=>h x (by simp [hx])
  omega
def nb:Nat→Nat
 | 0=>0
 | n+1=>1+12 * nb n
theorem zhw (q:Str):∀ (n:Nat) (e:X),XOk n e→(zbh q n e).length≤nb n
 | 0,_,h=>h.elim
 | n+1,e,⟨_,hl,ha,hs⟩=>by
  have h1:=zcH (f:=zbh q n) fun x hx=>zhw q n x (ha x hx)
  have h2:(e.sub.flatMap fun y=>y.items.flatMap (zbh q n)++y.wh.flatMap (zbh q n)).length≤e.sub.length * (9 * nb n):=zcH fun y hy=>by
   have h3:=zcH (f:=zbh q n) fun x hx=>zhw q n x ((hs y hy).2.1 x hx)
   have h4:=zcH (f:=zbh q n) fun x hx=>zhw q n x ((hs y hy).2.2 x hx)
   have h5:=Nat.mul_le_mul_right (nb n) (hs y hy).1.1
   have h6:=Nat.mul_le_mul_right (nb n) (hs y hy).1.2
   rw [List.length_append]
   omega
  have h7:=Nat.mul_le_mul_right (nb n) hl.1
  have h8:=Nat.mul_le_mul_right (9 * nb n) hl.2
  have h9:(bif e.kind==2&&e.table.toList==q.toList then [e.name] else []).length≤1:=by
   cases e.kind==2&&e.table.toList==q.toList <;> simp
  simp only [zbh,List.length_append,nb] at *
  omega
theorem nb_le:∀ {n:Nat},n≤5→nb n≤100000:=fun {n} h=>by
 have:n=0∨n=1∨n=2∨n=3∨n=4∨n=5:=by omega
 rcases this with rfl|rfl|rfl|rfl|rfl|rfl <;> decide
theorem namC:∀ (n:Nat) (e:X) (q:Str),n≤5→XOk n e→NamC q (zbh q n) e
 | 0,_,_,_,h=>h.elim
 | n+1,e,q,hn,h=>by
  have h0:=h
  obtain ⟨_,hl,ha,hs⟩:=h
  refine ⟨?_,Nat.le_trans (zhw q (n+1) e h0) (nb_le hn)⟩
  obtain ⟨r,hr,hc⟩:=zm9 e q (zbh q n) hl.1 (fun x hx=>namC n x q (by omega) (ha x hx)) hl.2 fun y hy=>⟨(hs y hy).1,fun x hx=>namC n x q (by omega) ((hs y hy).2.1 x hx),fun x hx=>namC n x q (by omega) ((hs y hy).2.2 x hx)⟩
  have:r=zbh q (n+1) e:=by
   rw [hr]
   simp only [zbh,preQ,preN,ztd,List.append_assoc]
  rw [← this]
  exact hc
end Go.AM
namespace Go.AM
set_option maxRecDepth 100000
set_option maxHeartbeats 1000000
set_option linter.unusedSimpArgs false
set_option linter.unusedVariables false
theorem PrefOk.good {cols:List Col} {vals:List V} (h:zhp cols vals):∀ v∈vals,v.Good:=fun v hv=>by
 obtain ⟨k,hk,hkv⟩:=List.mem_iff_getElem.1 hv
 have hl:=h.len
 obtain ⟨c,hc⟩:=zay (l:=cols) (i:=k) (by omega)
 exact (h.at_ k c v hc (by rw [← hkv];simp)).good
theorem FsT.ok {frs:List Fr} (h:FsT frs) (n:Nat) (hn:n≤900000):FsOk n frs :=
 ⟨by have:=h.len;omega,fun f hf=>zaK (h.few f hf),fun f hf v hv=>((h.rows f hf).good v hv).small⟩
theorem FsT.g {frs:List Fr} (h:FsT frs):FsG frs:=fun f hf v hv=>(h.rows f hf).good v hv
theorem StoreOk.tbOk {l:List Tb} (h:StoreOk l):TbOk l :=
 ⟨by have:=h.len;simp only [zae];omega,fun x hx=>(h.tabs x hx).2.short,fun x hx=>(h.tabs x hx).1.len,fun x hx r hr v hv=>(((h.tabs x hx).1.rows r hr).good v hv).small⟩
theorem StoreOk.tbG {l:List Tb} (h:StoreOk l):TbG l :=
 ⟨fun x hx r hr v hv=>((h.tabs x hx).1.rows r hr).good v hv,fun x hx=>(h.tabs x hx).1.len⟩
end Go.AM
namespace Go.AM
set_option maxRecDepth 100000
set_option maxHeartbeats 1000000
set_option linter.unusedSimpArgs false
set_option linter.unusedVariables false
/- ### the order of values -/
theorem zkp {a b:Int} (h:a < b):cmpI a b=-1:=by simp [cmpI,h]
theorem zkD {a b:Int} (h:a=b):cmpI a b=0:=by simp [cmpI,h]
theorem zku {a b:Int} (h:b < a):cmpI a b=1:=by
 have:¬ a < b:=by omega
 simp [cmpI,h,this]
/- ### least and greatest items -/
/- ### sums -/
end Go.AM
namespace Go.AM
set_option maxRecDepth 100000
set_option maxHeartbeats 1000000
set_option linter.unusedSimpArgs false
set_option linter.unusedVariables false
structure CmpOk {α:Type} (c:α→α→Int):Prop where
 zero:∀ a b,c a b=0↔a=b
 anti:∀ a b,c a b < 0↔0 < c b a
 trans:∀ {a b d},c a b < 0→c b d < 0→c a d < 0
def lexC {α:Type} (c:α→α→Int):List α→List α→Int
 | [],[]=>0
 | [],_::_=>-1
 | _::_,[]=>1
 | a::x,b::y=>if c a b=0 then lexC c x y else c a b
theorem zmP {α:Type} {c:α→α→Int} (h:CmpOk c):∀ a b,lexC c a b=0↔a=b
 | [],[]=>by simp [lexC]
 | [],_::_=>by simp [lexC]
 | _::_,[]=>by simp [lexC]
 | a::x,b::y=>by
  have ih:=zmP h x y
  have hz:=h.zero a b
  simp only [lexC,List.cons.injEq]
  split
  ·rename_i e;simp [ih,hz.1 e]
  ·rename_i e;exact ⟨fun k=>absurd k e,fun k=>absurd (hz.2 k.1) e⟩
theorem zmG {α:Type} {c:α→α→Int} (h:CmpOk c):∀ a b,lexC c a b < 0↔0 < lexC c b a
 | [],[]=>by simp [lexC]
 | [],_::_=>by simp [lexC]
 | _::_,[]=>by simp [lexC]
 | a::x,b::y=>by
  have ih:=zmG h x y
  have hz:=h.zero a b
  have hz2:=h.zero b a
  have ha:=h.anti a b
  simp only [lexC]
  by_cases e:a=b
  ·rw [if_pos (hz.2 e),if_pos (hz2.2 e.symm)];exact ih
  ·rw [if_neg (fun k=>e (hz.1 k)),if_neg (fun k=>e (hz2.1 k).symm)];exact ha
theorem zls {α:Type} {c:α→α→Int} (h:CmpOk c):∀ {a b d},lexC c a b < 0→lexC c b d < 0→lexC c a d < 0
 | x,y,[],_,h2=>by cases y <;> simp [lexC] at h2
 | x,[],e::z,h1,_=>by cases x <;> simp [lexC] at h1
 | [],b::y,e::z,_,_=>by simp [lexC]
 | a::x,b::y,e::z,h1,h2=>by
  simp only [lexC] at h1 h2 ⊢
  by_cases e1:a=b
  ·subst e1
   rw [if_pos ((h.zero a a).2 rfl)] at h1
   by_cases e2:a=e
   ·subst e2
    rw [if_pos ((h.zero a a).2 rfl)] at h2 ⊢
    exact zls h h1 h2
   ·rw [if_neg (fun k=>e2 ((h.zero _ _).1 k))] at h2 ⊢
    exact h2
  ·rw [if_neg (fun k=>e1 ((h.zero _ _).1 k))] at h1
   by_cases e2:b=e
   ·subst e2
    rw [if_neg (fun k=>e1 ((h.zero _ _).1 k))]
    exact h1
   ·rw [if_neg (fun k=>e2 ((h.zero _ _).1 k))] at h2
    have h3:=h.trans h1 h2
    rw [if_neg (by omega)]
    exact h3
theorem CmpOk.lex {α:Type} {c:α→α→Int} (h:CmpOk c):CmpOk (lexC c):=⟨zmP h,zmG h,zls h⟩
def zny (a b:UInt8):Int:=if a < b then -1 else if b < a then 1 else 0
theorem zsE:CmpOk zny:=by
 refine ⟨fun a b=>?_,fun a b=>?_,fun {a b d} h1 h2=>?_⟩
 all_goals simp only [zny,UInt8.lt_iff_toNat_lt,← UInt8.toNat_inj] at *
 all_goals repeat' split
 all_goals (try omega)
 all_goals (repeat' split at h1)
 all_goals (try omega)
 all_goals (repeat' split at h2)
 all_goals omega
theorem zds:∀ a b,Lib.compareBytes a b=lexC zny a b
 | [],[]=>rfl
 | [],_::_=>rfl
 | _::_,[]=>rfl
 | a::x,b::y=>by
  have ih:=zds x y
  simp only [Lib.compareBytes,lexC,zny,ih]
  by_cases h1:a < b
  ·simp [h1]
  ·by_cases h2:b < a
   ·simp [h1,h2]
   ·simp [h1,h2]
theorem zs8:CmpOk cmpI:=by
 refine ⟨fun a b=>?_,fun a b=>?_,fun {a b d} h1 h2=>?_⟩
 all_goals simp only [cmpI] at *
 all_goals repeat' split
 all_goals (try omega)
 all_goals (repeat' split at h1)
 all_goals (try omega)
 all_goals (repeat' split at h2)
 all_goals omega
theorem ztj:CmpOk cmpB:=by
 have h:=zsE.lex
 refine ⟨fun a b=>?_,fun a b=>?_,fun {a b d} h1 h2=>?_⟩
 ·simp only [cmpB,zds,h.zero]
  constructor
  ·intro e;cases a;cases b;simp at e;rw [e]
  ·intro e;rw [e]
 ·simp only [cmpB,zds];exact h.anti _ _
 ·simp only [cmpB,zds] at *;exact h.trans h1 h2
theorem zks (a b:V):rCmp a b=if cmpI a.kind b.kind=0 then (if cmpI a.int b.int=0 then cmpB a.text b.text else cmpI a.int b.int) else cmpI a.kind b.kind:=by
 unfold rCmp cmpB3 cmpB2
 rcases Int.lt_trichotomy a.kind b.kind with h1|h1|h1
 ·have e:(a.kind != b.kind)=true:=by simp;omega
  rw [zkp h1];simp [h1,e]
 ·rw [zkD h1]
  rcases Int.lt_trichotomy a.int b.int with h2|h2|h2
  ·have e:(a.int != b.int)=true:=by simp;omega
   rw [zkp h2];simp [h1,h2,e]
  ·rw [zkD h2];simp [h1,h2]
  ·have e:(a.int != b.int)=true:=by simp;omega
   have e2:¬ a.int < b.int:=by omega
   rw [zku h2];simp [h1,e,e2]
 ·have e:(a.kind != b.kind)=true:=by simp;omega
  have e2:¬ a.kind < b.kind:=by omega
  rw [zku h1];simp [e,e2]
theorem zte:CmpOk rCmp:=by
 have hi:=zs8
 have hb:=ztj
 refine ⟨fun a b=>?_,fun a b=>?_,fun {a b d} h1 h2=>?_⟩
 ·rw [zks]
  have z1:=hi.zero a.kind b.kind
  have z2:=hi.zero a.int b.int
  have z3:=hb.zero a.text b.text
  constructor
  ·intro h
   split at h
   ·split at h
    ·cases a;cases b;simp_all
    ·omega
   ·omega
  ·rintro rfl
   simp [(hi.zero _ _).2 rfl,(hb.zero _ _).2 rfl]
 ·rw [zks,zks]
  have z1:=hi.zero a.kind b.kind
  have z1':=hi.zero b.kind a.kind
  have z2:=hi.zero a.int b.int
  have z2':=hi.zero b.int a.int
  by_cases e1:a.kind=b.kind
  ·rw [if_pos (z1.2 e1),if_pos (z1'.2 e1.symm)]
   by_cases e2:a.int=b.int
   ·rw [if_pos (z2.2 e2),if_pos (z2'.2 e2.symm)];exact hb.anti _ _
   ·rw [if_neg (fun k=>e2 (z2.1 k)),if_neg (fun k=>e2 (z2'.1 k).symm)];exact hi.anti _ _
  ·rw [if_neg (fun k=>e1 (z1.1 k)),if_neg (fun k=>e1 (z1'.1 k).symm)];exact hi.anti _ _
 ·have key:∀ x y:V,rCmp x y < 0↔x.kind < y.kind∨(x.kind=y.kind∧(x.int < y.int∨(x.int=y.int∧cmpB x.text y.text < 0))):=by
   intro x y
   rw [zks]
   rcases Int.lt_trichotomy x.kind y.kind with h1|h1|h1
   ·rw [zkp h1];simp [h1]
   ·rw [zkD h1]
    rcases Int.lt_trichotomy x.int y.int with h2|h2|h2
    ·rw [zkp h2];simp [h1,h2]
    ·rw [zkD h2];simp [h1,h2]
    ·have e:¬ x.int < y.int:=by omega
     have e2:x.int≠y.int:=by omega
     rw [zku h2];simp [h1,e,e2]
   ·have e:¬ x.kind < y.kind:=by omega
    have e2:x.kind≠y.kind:=by omega
    rw [zku h1];simp [e,e2]
  rw [key] at h1 h2 ⊢
  rcases h1 with h1|⟨e1,h1|⟨f1,h1⟩⟩ <;> rcases h2 with h2|⟨e2,h2|⟨f2,h2⟩⟩
  all_goals first|(left;omega)|(right;refine ⟨by omega,?_⟩;first|(left;omega)|(right;exact ⟨by omega,hb.trans h1 h2⟩))
theorem zmJ (a b:List V):∀ (l:List V) (i:Nat),i≤b.length→a.length=i+l.length→zjK a b l i=lexC rCmp l (b.drop i)
 | [],i,hi,ha=>by
  simp only [zjK,List.length_map]
  simp at ha
  by_cases h:i=b.length
  ·have e1:b.drop i=[]:=List.drop_of_length_le (by omega)
   have e2:¬ ((a.length:Nat):Int) < (b.length:Nat):=by omega
   have e3:¬ ((b.length:Nat):Int) < (a.length:Nat):=by omega
   rw [e1];simp only [lexC,e2,e3,decide_false,cond_false]
  ·have e2:((a.length:Nat):Int) < (b.length:Nat):=by omega
   cases hd:b.drop i with
   | nil=>have:=congrArg List.length hd;simp at this;omega
   | cons y s=>simp only [lexC,e2,decide_true,cond_true]
 | x::r,i,hi,ha=>by
  simp only [zjK,List.length_map]
  by_cases h:i < b.length
  ·have e2:((i:Nat):Int) < (b.length:Nat):=by omega
   have hv:zcx b ((i:Nat):Int)=b[i]:=by simp [zcx,h]
   rw [List.drop_eq_getElem_cons h]
   have ih:=zmJ a b r (i+1) (by omega) (by simp at ha;omega)
   simp only [e2,decide_true,cond_true,hv,ih,lexC]
   by_cases hz:rCmp x b[i]=0
   ·simp [hz]
   ·have hb:(rCmp x b[i] != 0)=true:=by simpa using hz
    simp [hz,hb]
  ·have e2:¬ ((i:Nat):Int) < (b.length:Nat):=by omega
   have e1:b.drop i=[]:=List.drop_of_length_le (by omega)
   have f1:¬ ((a.length:Nat):Int) < (b.length:Nat):=by simp at ha;omega
   have f2:((b.length:Nat):Int) < (a.length:Nat):=by simp at ha;omega
   rw [e1]
   simp only [e2,f1,f2,decide_false,decide_true,cond_false,cond_true,lexC]
theorem zsq (a b:List V):zkz a b=lexC rCmp a b:=zmJ a b a 0 (by omega) (by omega)
theorem znU:CmpOk zkz:=by
 have:zkz=lexC rCmp:=funext fun a=>funext fun b=>zsq a b
 rw [this];exact zte.lex
/- ### sorting -/
abbrev LeR (x y:List V):Prop:=¬ 0 < zkz x y
theorem ztn (x y:List V):LeR x y↔zkz x y < 0∨x=y:=by
 have h:=znU.zero x y
 unfold LeR
 constructor
 ·intro h1
  by_cases h2:zkz x y=0
  ·exact .inr (h.1 h2)
  ·exact .inl (by omega)
 ·rintro (h1|h1)
  ·omega
  ·rw [h.2 h1];omega
theorem LeR.trans {x y z:List V} (h1:LeR x y) (h2:LeR y z):LeR x z:=by
 rw [ztn] at *
 rcases h1 with h1|rfl
 ·rcases h2 with h2|rfl
  ·exact .inl (znU.trans h1 h2)
  ·exact .inl h1
 ·exact h2
end Go.AM
namespace Go.AM
set_option maxRecDepth 100000
set_option maxHeartbeats 1000000
set_option linter.unusedSimpArgs false
set_option linter.unusedVariables false
def insP {α:Type} (x:α) (out:List α) (p:Nat):List α:=out.take p++x::out.drop p
theorem zmM {α:Type} (x:α) (out:List α) (p:Nat):(insP x out p).Perm (x::out):=by
 unfold insP
 refine List.perm_middle.trans ?_
 rw [List.take_append_drop]
@[simp] theorem ztV {α:Type} (x:α) (out:List α) (p:Nat):(insP x out p).length=out.length+1:=by
 rw [(zmM x out p).length_eq];rfl
abbrev cpX (xs:List (List AV)) (d s:Nat):List (List AV):=zc6 xs d xs.length s xs.length
theorem zmq {xs:List (List AV)} {d s:Nat} (hd:d≤xs.length) (hs:s≤xs.length) (i:Nat):(cpX xs d s)[i]?=if i < d then xs[i]? else if i < d+min (xs.length - s) (xs.length - d) then xs[s+(i - d)]? else xs[i]?:=by
 have hl:=zfA (xs:=xs) (s:=s) (t:=xs.length) (m:=xs.length - d) hs (Nat.le_refl _)
 show (zbs _ _ _)[i]?=_
 rw [zmU (by rw [hl];omega),hl,Nat.min_comm]
 by_cases h1:i < d
 ·rw [if_pos h1,if_pos h1]
 ·rw [if_neg h1,if_neg h1]
  by_cases h2:i < d+min (xs.length - s) (xs.length - d)
  ·rw [if_pos h2,if_pos h2,List.getElem?_take,if_pos (by omega),List.getElem?_drop,List.getElem?_take,if_pos (by omega)]
  ·rw [if_neg h2,if_neg h2]
theorem zpG (xs:List (List AV)) (d s:Nat) (hd:d≤xs.length) (hs:s≤xs.length):(cpX xs d s).length=xs.length:=zng hd (Nat.le_refl _) hs (Nat.le_refl _)
theorem zrS {α:Type} (f:α→List AV) (z:List AV) (out:List α) (p:Nat) (hp:p≤out.length) {c:List AV} (hc:(out.map f++[z])[p]?=some c):OwnEl (cpX (out.map f++[z]) (p+1) p) (out.map f++[z]).length p c :=
 ⟨by rw [zpG _ _ _ (by simp;omega) (by simp;omega)],by rw [zmq (by simp;omega) (by simp;omega),if_pos (by omega)];exact hc⟩
theorem zrm {α:Type} (f:α→List AV) (z:List AV) (out:List α) (p:Nat) (hp:p≤out.length):(cpX (out.map f++[z]) (p+1) p).length=out.length+1:=by rw [zpG _ _ _ (by simp;omega) (by simp;omega)];simp
@[simp] theorem copyP_lenS {α:Type} (f:α→List AV) (z:List AV) (out:List α) (p:Nat):(zc6 (out.map f++[z]) (p+1) (out.length+1) p (out.length+1)).length=out.length+1:=by
 unfold zc6 zbs;simp;omega
theorem zr3 {α:Type} (f:α→List AV) (z:List AV) (out:List α) (x:α) (p:Nat) (hp:p≤out.length):(cpX (out.map f++[z]) (p+1) p).set p (f x)=(insP x out p).map f:=by
 unfold insP
 have hL:(out.map f++[z]).length=out.length+1:=by simp
 have hl:=zrm f z out p hp
 have ht:((out.take p).map f).length=p:=by simp;omega
 have hg:∀ i,i < out.length→(out.map f++[z])[i]?=(out.map f)[i]?:=fun i hi=>List.getElem?_append_left (by simp;omega)
 apply List.ext_getElem?
 intro i
 rw [List.map_append,List.map_cons]
 by_cases h1:i < p
 ·rw [List.getElem?_set_ne (by omega),zmq (by omega) (by omega),if_pos (by omega),hg i (by omega),List.getElem?_append_left (by omega),List.map_take,List.getElem?_take,if_pos h1]
 ·by_cases h2:i=p
  ·subst h2
   rw [List.getElem?_set_self (by omega),List.getElem?_append_right (by omega),ht,Nat.sub_self]
   rfl
  ·rw [List.getElem?_set_ne (by omega),zmq (by omega) (by omega),if_neg (by omega),List.getElem?_append_right (l₁:=(out.take p).map f) (by omega),ht]
   have e:i - p=(i - p - 1)+1:=by omega
   rw [e,List.getElem?_cons_succ,List.map_drop,List.getElem?_drop,hL]
   by_cases h3:i < out.length+1
   ·rw [if_pos (by omega),hg _ (by omega)]
    exact congrArg (fun j=>(out.map f)[j]?) (by omega)
   ·rw [if_neg (by omega),List.getElem?_eq_none (by omega),List.getElem?_eq_none (by simp;omega)]
end Go.AM
namespace Go.AM
set_option maxRecDepth 100000
set_option maxHeartbeats 1000000
set_option linter.unusedSimpArgs false
set_option linter.unusedVariables false
theorem zfK {p:Prop} (h:p:=by first|assumption|exact FmI.start hI.eq.symm hI.len|omega|(simp;done)):p:=h
theorem zhZ {p:Prop} (h:p:=by first|assumption|omega|exact zre (by assumption)|(simp;done)):p:=h
theorem zmd {p:Prop} (h:p:=by first|(intro hf;simp_all;done)|(intro _;rw [List.take_length] at *;assumption)):p:=h
theorem zlN {p:Prop} (h:p:=by first|assumption|exact FmI.start rfl (by simp)|omega|(simp;done)):p:=h
theorem zlD {p:Prop} (h:p:=by first|assumption|exact FmI.start rfl hw|omega|(simp;done)):p:=h
theorem zmb {p:Prop} (h:p:=by first|assumption|(simp [Dj];done)|(simp;done)|omega):p:=h
theorem znL {p:Prop} (h:p:=by first|exact soKeep hI hx (by assumption) (by assumption)|exact soIns hI hx):p:=h
theorem zlM {p:Prop} (h:p:=by first|omega|(simp only [zae,Few] at *;omega)):p:=h
theorem FmI.up {α β γ:Type} {l:List α} {g:α→List γ} {h:α→γ→List β} {pre out out':List β} {B i:Nat} {y:α} (hI:FmI l (fun a=>(g a).flatMap (h a)) pre out B 1 i) (hx:l[i]?=some y) (hn:Thin 1 (g y)) (hi:FmI (g y) (h y) (pre++(l.take i).flatMap fun a=>(g a).flatMap (h a)) out' (B+i * 1) 1 (g y).length):FmI l (fun a=>(g a).flatMap (h a)) pre out' B 1 (i+1) :=
 ⟨by rw [hi.all,List.take_add_one,hx,List.flatMap_append];simp,by have:=hi.len;simp only [Thin] at hn;omega⟩
def exE (_:Ac) (x:Se):List X:=[x.ex]
def exA1 (a:Ac):List X:=a.sets.flatMap (exE a)
def stE (a:Ac) (x:Se):List Str:=bif a.kind==5 then [x.col] else []
def wr1 (a:Ac):List Str:=a.sets.flatMap (stE a)
noncomputable def L_exS (t:Tg) (io:Nat) (a:Ac) (i:Nat) (out:List X):Cfg:=zav B.ref26_exprs 1 [(3,.own 1 out.length),(12,.sl (t.acts.map Ac.cells)),(13,iv ((t.acts.map Ac.cells).length:Nat)),(14,iv (io:Nat)),(19,.sl (a.sets.map Se.cells)),(20,iv ((a.sets.map Se.cells).length:Nat)),(21,iv (i:Nat))] [.box t.cells,.row Ty.Expr (zaa out) false]
theorem zg9 (t:Tg) (io:Nat) (a:Ac) (hio:io≤1) (hs:Thin 1 a.sets) (i:Nat) (out:List X) (hi:i≤(a.sets).length) (hI:FmI a.sets (exE a) (t.when_++(t.acts.take io).flatMap exA1) out (1000+io * 1) 1 i):∃ (out':List X),(FmI a.sets (exE a) (t.when_++(t.acts.take io).flatMap exA1) out' (1000+io * 1) 1 (a.sets).length)∧(decide ((((a.sets).length:Nat):Int) < (((a.sets.map Se.cells).length:Nat):Int))=false)∧∀ R,Good E0 B.ref26_exprs [] (L_exS t io a (a.sets).length out') R→Good E0 B.ref26_exprs [] (L_exS t io a i out) R:=by
 obtain ⟨kk,hk⟩:∃ kk,i+kk=(a.sets).length:=⟨(a.sets).length - i,by omega⟩
 induction kk generalizing i out with
 | zero =>
  have e0:i=(a.sets).length:=by omega
  subst e0
  exact ⟨out,hI,by simp,fun R hg=>hg⟩
 | succ kk ih =>
  obtain ⟨x,hx⟩:=zay (l:=a.sets) (i:=i) (by omega)
  have h0:decide (((i:Nat):Int) < (((a.sets.map Se.cells).length:Nat):Int))=true:=by simp;omega
  have hw:IntKind.i64.wrap (((i:Nat):Int)+1)=((i+1:Nat):Int):=zap i (by simp only [Thin] at *;omega)
  have hol:out.length≤1000000:=by have:=hI.len;simp only [Thin] at hs;omega
  obtain ⟨outZ,qZ,xZ,gZ⟩:=ih (i+1) (out++[x.ex]) (by omega) (by first|exact hI.step (f:=exE a) hx (by simp [exE])|exact hI.step hx (Nat.le_refl _)) (by omega);exact ⟨outZ,qZ,xZ,fun R hg=>zab (wkl [sb h0,se (zah Se.cells hx rfl),sqx (AllLen [[iv x.ex.kind,iv x.ex.op,bv x.ex.not,iv x.ex.val.kind,iv x.ex.val.int,sv x.ex.val.text,sv x.ex.table,sv x.ex.name,AV.sl (zaa x.ex.args),AV.sl (zad x.ex.sub)]] 10∧out.length=(zaa out).length∧(((zaa out).length+[[iv x.ex.kind,iv x.ex.op,bv x.ex.not,iv x.ex.val.kind,iv x.ex.val.int,sv x.ex.val.text,sv x.ex.table,sv x.ex.name,AV.sl (zaa x.ex.args),AV.sl (zad x.ex.sub)]].length) * 136).le 140737488355328),si hw] [3,12,13,14,19,20,21] 2 kr (zan (show ([(3,AV.own 1 (zaa out++[[iv x.ex.kind,iv x.ex.op,bv x.ex.not,iv x.ex.val.kind,iv x.ex.val.int,sv x.ex.val.text,sv x.ex.table,sv x.ex.name,AV.sl (zaa x.ex.args),AV.sl (zad x.ex.sub)]]).length),(12,AV.sl (List.map Ac.cells t.acts)),(13,iv (↑(List.map Ac.cells t.acts).length:Int)),(14,iv (io:Int)),(19,AV.sl (List.map Se.cells a.sets)),(20,iv (↑(List.map Se.cells a.sets).length:Int)),(21,iv (↑(i+1):Int))]:TS)=_ by first|rfl|(simp;done)|(simp [X.cells,Qy.cells,V.cells,Col.cells,Rw.cells,Tb.cells,Fr.cells,Sch.cells,Tp.cells,Pl.cells,xCol,xLit,xBin,xNeg,Im.cells,Lk.cells,Ac.cells,Se.cells,Tg.cells,Rk.cells];done)) (show ([Blk.box [sv t.name,sv t.table,bv t.before,iv t.event,AV.sl (List.map (fun s=>[sv s]) t.of),bv t.each,AV.sl (List.map (fun s=>[sv s]) t.prec),AV.sl (List.map (fun s=>[sv s]) t.foll),AV.sl (List.map Rk.cells t.rank),AV.sl (zaa t.when_),AV.sl (List.map Ac.cells t.acts)],Blk.row Ty.Expr (zaa out++[[iv x.ex.kind,iv x.ex.op,bv x.ex.not,iv x.ex.val.kind,iv x.ex.val.int,sv x.ex.val.text,sv x.ex.table,sv x.ex.name,AV.sl (zaa x.ex.args),AV.sl (zad x.ex.sub)]]) false]:Heap)=_ by first|rfl|(simp;done)|(simp [X.cells,Qy.cells,V.cells,Col.cells,Rw.cells,Tb.cells,Fr.cells,Sch.cells,Tp.cells,Pl.cells,xCol,xLit,xBin,xNeg,Im.cells,Lk.cells,Ac.cells,Se.cells,Tg.cells,Rk.cells];done)) (gZ R hg)))⟩
theorem zpE {a:Ac} {pre out:List Str} {B i:Nat} {x:Se} (h:FmI a.sets (stE a) pre out B 1 i) (hx:a.sets[i]?=some x) (hk:(a.kind==5)=true):FmI a.sets (stE a) pre (out++[x.col]) B 1 (i+1):=by
 have:=h.step hx (by unfold stE;cases a.kind==5 <;> simp)
 rwa [show stE a x=[x.col] by simp [stE,hk]] at this
theorem zpU {a:Ac} {pre out:List Str} {B i:Nat} {x:Se} (h:FmI a.sets (stE a) pre out B 1 i) (hx:a.sets[i]?=some x) (hk:(a.kind==5)=false):FmI a.sets (stE a) pre out B 1 (i+1):=by
 have:=h.step hx (by unfold stE;cases a.kind==5 <;> simp)
 rwa [show stE a x=[] by simp [stE,hk],List.append_nil] at this
noncomputable def L_stS (t:Tg) (io:Nat) (a:Ac) (i:Nat) (out:List Str):Cfg:=zav B.ref26_set 1 [(3,.own 1 out.length),(5,.p 2 0),(9,.sl (t.acts.map Ac.cells)),(10,iv ((t.acts.map Ac.cells).length:Nat)),(11,iv (io:Nat)),(16,.sl (a.sets.map Se.cells)),(17,iv ((a.sets.map Se.cells).length:Nat)),(18,iv (i:Nat))] [.box t.cells,.row Ty.string (out.map fun s=>[sv s]) false,.box a.cells]
theorem ziz (t:Tg) (io:Nat) (a:Ac) (hio:io≤1) (hs:Thin 1 a.sets) (i:Nat) (out:List Str) (hi:i≤(a.sets).length) (hI:FmI a.sets (stE a) ([]++(t.acts.take io).flatMap wr1) out (0+io * 1) 1 i):∃ (out':List Str),(FmI a.sets (stE a) ([]++(t.acts.take io).flatMap wr1) out' (0+io * 1) 1 (a.sets).length)∧(decide ((((a.sets).length:Nat):Int) < (((a.sets.map Se.cells).length:Nat):Int))=false)∧∀ R,Good E0 B.ref26_set [] (L_stS t io a (a.sets).length out') R→Good E0 B.ref26_set [] (L_stS t io a i out) R:=by
 obtain ⟨kk,hk⟩:∃ kk,i+kk=(a.sets).length:=⟨(a.sets).length - i,by omega⟩
 induction kk generalizing i out with
 | zero =>
  have e0:i=(a.sets).length:=by omega
  subst e0
  exact ⟨out,hI,by simp,fun R hg=>hg⟩
 | succ kk ih =>
  obtain ⟨x,hx⟩:=zay (l:=a.sets) (i:=i) (by omega)
  have h0:decide (((i:Nat):Int) < (((a.sets.map Se.cells).length:Nat):Int))=true:=by simp;omega
  have hw:IntKind.i64.wrap (((i:Nat):Int)+1)=((i+1:Nat):Int):=zap i (by simp only [Thin] at *;omega)
  have hol:out.length≤1000000:=by have:=hI.len;simp only [Thin] at hs;omega
  let p_1:List St:=[sb h0,se (zah Se.cells hx rfl)]
  cases h1:a.kind==5
  ·obtain ⟨outZ,qZ,xZ,gZ⟩:=ih (i+1) out (by omega) (by first|exact zpE hI hx (by assumption)|exact zpU hI hx (by assumption)) (by omega);exact ⟨outZ,qZ,xZ,fun R hg=>zab (wkl (p_1++[sb h1,si hw]) [3,5,9,10,11,16,17,18] 3 kr (gZ R hg))⟩
  ·obtain ⟨outZ,qZ,xZ,gZ⟩:=ih (i+1) (out++[x.col]) (by omega) (by first|exact zpE hI hx (by assumption)|exact zpU hI hx (by assumption)) (by omega);exact ⟨outZ,qZ,xZ,fun R hg=>zab (wkl (p_1++[sb h1,sqx (AllLen [[sv x.col]] 1∧out.length=(List.map (fun s=>[sv s]) out).length∧(((List.map (fun s=>[sv s]) out).length+[[sv x.col]].length) * 16).le 140737488355328),si hw]) [3,5,9,10,11,16,17,18] 3 kr (zan (show ([(3,AV.own 1 (List.map (fun s=>[sv s]) out++[[sv x.col]]).length),(5,AV.p 2 0),(9,AV.sl (List.map Ac.cells t.acts)),(10,iv (↑(List.map Ac.cells t.acts).length:Int)),(11,iv (io:Int)),(16,AV.sl (List.map Se.cells a.sets)),(17,iv (↑(List.map Se.cells a.sets).length:Int)),(18,iv (↑(i+1):Int))]:TS)=_ by first|rfl|(simp;done)|(simp [X.cells,Qy.cells,V.cells,Col.cells,Rw.cells,Tb.cells,Fr.cells,Sch.cells,Tp.cells,Pl.cells,xCol,xLit,xBin,xNeg,Im.cells,Lk.cells,Ac.cells,Se.cells,Tg.cells,Rk.cells];done)) (show ([Blk.box [sv t.name,sv t.table,bv t.before,iv t.event,AV.sl (List.map (fun s=>[sv s]) t.of),bv t.each,AV.sl (List.map (fun s=>[sv s]) t.prec),AV.sl (List.map (fun s=>[sv s]) t.foll),AV.sl (List.map Rk.cells t.rank),AV.sl (zaa t.when_),AV.sl (List.map Ac.cells t.acts)],Blk.row Ty.string (List.map (fun s=>[sv s]) out++[[sv x.col]]) false,Blk.box [iv a.kind,sv a.table,AV.sl (List.map (fun r=>[AV.sl (zaa r)]) a.rows),AV.sl (zad a.query),AV.sl (List.map Se.cells a.sets),AV.sl (zaa a.wh),sv a.text]]:Heap)=_ by first|rfl|(simp;done)|(simp [X.cells,Qy.cells,V.cells,Col.cells,Rw.cells,Tb.cells,Fr.cells,Sch.cells,Tp.cells,Pl.cells,xCol,xLit,xBin,xNeg,Im.cells,Lk.cells,Ac.cells,Se.cells,Tg.cells,Rk.cells];done)) (gZ R hg)))⟩
noncomputable def L_exA (t:Tg) (i:Nat) (out:List X):Cfg:=zav B.ref26_exprs 0 [(3,.own 1 out.length),(12,.sl (t.acts.map Ac.cells)),(13,iv ((t.acts.map Ac.cells).length:Nat)),(14,iv (i:Nat))] [.box t.cells,.row Ty.Expr (zaa out) false]
theorem zhe (t:Tg) (ha:Thin 1 t.acts) (hs:∀ a∈t.acts,Thin 1 a.sets) (i:Nat) (out:List X) (hi:i≤(t.acts).length) (hI:FmI t.acts exA1 t.when_ out 1000 1 i):∃ (out':List X),(FmI t.acts exA1 t.when_ out' 1000 1 (t.acts).length)∧(decide ((((t.acts).length:Nat):Int) < (((t.acts.map Ac.cells).length:Nat):Int))=false)∧∀ R,Good E0 B.ref26_exprs [] (L_exA t (t.acts).length out') R→Good E0 B.ref26_exprs [] (L_exA t i out) R:=by
 obtain ⟨kk,hk⟩:∃ kk,i+kk=(t.acts).length:=⟨(t.acts).length - i,by omega⟩
 induction kk generalizing i out with
 | zero =>
  have e0:i=(t.acts).length:=by omega
  subst e0
  exact ⟨out,hI,by simp,fun R hg=>hg⟩
 | succ kk ih =>
  obtain ⟨x,hx⟩:=zay (l:=t.acts) (i:=i) (by omega)
  have h0:decide (((i:Nat):Int) < (((t.acts.map Ac.cells).length:Nat):Int))=true:=by simp;omega
  have hw:IntKind.i64.wrap (((i:Nat):Int)+1)=((i+1:Nat):Int):=zap i (by simp only [Thin] at *;omega)
  have hsx:=hs x (List.mem_of_getElem? hx);have hi9:i≤1:=by (simp only [Thin] at ha;omega)
  obtain ⟨out1,q1,q1_1,g1⟩:=zg9 t i x zfK zfK 0 out zfK zfK
  obtain ⟨outZ,qZ,xZ,gZ⟩:=ih (i+1) out1 (by omega) (by exact FmI.up hI hx hsx (by assumption)) (by omega);exact ⟨outZ,qZ,xZ,fun R hg=>zab (wkl [sb h0,se (zah Ac.cells hx rfl)] [3,12,13,14,19,20,21] 2 kr (g1 _ (zab (wkl [sb q1_1,si hw] [3,12,13,14] 2 kr (gZ R hg)))))⟩
noncomputable def L_stA (t:Tg) (i:Nat) (out:List Str):Cfg:=zav B.ref26_set 0 [(3,.own 1 out.length),(9,.sl (t.acts.map Ac.cells)),(10,iv ((t.acts.map Ac.cells).length:Nat)),(11,iv (i:Nat))] [.box t.cells,.row Ty.string (out.map fun s=>[sv s]) false]
theorem zih (t:Tg) (ha:Thin 1 t.acts) (hs:∀ a∈t.acts,Thin 1 a.sets) (i:Nat) (out:List Str) (hi:i≤(t.acts).length) (hI:FmI t.acts wr1 [] out 0 1 i):∃ (out':List Str),(FmI t.acts wr1 [] out' 0 1 (t.acts).length)∧(decide ((((t.acts).length:Nat):Int) < (((t.acts.map Ac.cells).length:Nat):Int))=false)∧∀ R,Good E0 B.ref26_set [] (L_stA t (t.acts).length out') R→Good E0 B.ref26_set [] (L_stA t i out) R:=by
 obtain ⟨kk,hk⟩:∃ kk,i+kk=(t.acts).length:=⟨(t.acts).length - i,by omega⟩
 induction kk generalizing i out with
 | zero =>
  have e0:i=(t.acts).length:=by omega
  subst e0
  exact ⟨out,hI,by simp,fun R hg=>hg⟩
 | succ kk ih =>
  obtain ⟨x,hx⟩:=zay (l:=t.acts) (i:=i) (by omega)
  have h0:decide (((i:Nat):Int) < (((t.acts.map Ac.cells).length:Nat):Int))=true:=by simp;omega
  have hw:IntKind.i64.wrap (((i:Nat):Int)+1)=((i+1:Nat):Int):=zap i (by simp only [Thin] at *;omega)
  have hsx:=hs x (List.mem_of_getElem? hx);have hi9:i≤1:=by (simp only [Thin] at ha;omega)
  obtain ⟨out1,q1,q1_1,g1⟩:=ziz t i x zfK zfK 0 out zfK zfK
  obtain ⟨outZ,qZ,xZ,gZ⟩:=ih (i+1) out1 (by omega) (by exact FmI.up hI hx hsx (by assumption)) (by omega);exact ⟨outZ,qZ,xZ,fun R hg=>zab (wkl [sb h0,se (zah Ac.cells hx rfl)] [3,5,9,10,11,16,17,18] 3 kr (g1 _ (zab (wkl [sb q1_1,si hw] [3,9,10,11] 2 kr (gZ R hg)))))⟩
theorem zm4 (t:Tg) (hw:Few t.when_) (ha:Thin 1 t.acts) (hs:∀ a∈t.acts,Thin 1 a.sets):∃ (r:List X),r=t.when_++t.acts.flatMap exA1∧zac E0 S.ref26_exprs [t.av] [] (xsl r) []:=by
 obtain ⟨out1,q1,q1_1,g1⟩:=zhe t zlD zlD 0 t.when_ zlD zlD
 exact ⟨out1,(by exact FmI.all (by assumption)),wkc At.ref26_exprs [sqx (AllLen (zaa t.when_) 10∧((zaa t.when_).length * 136).le 140737488355328)] [3,12,13,14] 2 kr (zan (show ([(3,AV.own 1 (zaa t.when_).length),(12,AV.sl (List.map Ac.cells t.acts)),(13,iv (↑(List.map Ac.cells t.acts).length:Int)),(14,iv 0)]:TS)=_ by first|rfl|(simp;done)|(simp [X.cells,Qy.cells,V.cells,Col.cells,Rw.cells,Tb.cells,Fr.cells,Sch.cells,Tp.cells,Pl.cells,xCol,xLit,xBin,xNeg,Im.cells,Lk.cells,Ac.cells,Se.cells,Tg.cells,Rk.cells];done)) rfl (g1 _ (zab (wkr [sqx (out1.length=(zaa out1).length),sb q1_1] kr))))⟩
theorem zoR (t:Tg) (ha:Thin 1 t.acts) (hs:∀ a∈t.acts,Thin 1 a.sets):∃ (r:List Str),r=t.acts.flatMap wr1∧zac E0 S.ref26_set [t.av] [] (ssl r) []:=by
 obtain ⟨out1,q1,q1_1,g1⟩:=zih t zlN zlN 0 ([]) zlN zlN
 exact ⟨out1,(by exact FmI.all (by assumption)),wkcN At.ref26_set [] [3,9,10,11] 1 [(.ot 3 Ty.string,2)] kr (g1 _ (zab (wkr [sqx (out1.length=(List.map (fun s=>[sv s]) out1).length),sb q1_1] kr)))⟩
def Sub (l r:List Str):Prop:=∀ s∈l,∃ u∈r,u.toList=s.toList
theorem zrM (out:List Str) (p:Nat) (hp:p≤out.length):OwnEl (zc6 (out.map (fun s=>[sv s])++[[sv ⟨#[]⟩]]) (p+1) (out.map (fun s=>[sv s])++[[sv ⟨#[]⟩]]).length p (out.map (fun s=>[sv s])++[[sv ⟨#[]⟩]]).length) (out.map (fun s=>[sv s])++[[sv ⟨#[]⟩]]).length p [sv (((out++[(⟨#[]⟩:Str)])[p]?).getD ⟨#[]⟩)]:=by
 refine zrS (fun s:Str=>[sv s]) [sv ⟨#[]⟩] out p hp ?_
 have:(out.map (fun s=>[sv s])++[[sv (⟨#[]⟩:Str)]])=(out++[(⟨#[]⟩:Str)]).map fun s=>[sv s]:=by simp
 rw [this,List.getElem?_map]
 have h2:p < (out++[(⟨#[]⟩:Str)]).length:=by simp;omega
 rw [List.getElem?_eq_getElem h2]
 rfl
theorem zdm {x:Str} {out:List Str} {p:Nat} (hp:p≤out.length):[Blk.row Ty.string ((cpX (out.map (fun s=>[sv s])++[[sv (⟨#[]⟩:Str)]]) (p+1) p).set p [sv x]) false]=[Blk.row Ty.string ((insP x out p).map fun s=>[sv s]) false]:=by
 rw [zr3 (fun s:Str=>[sv s]) _ out x p hp]
theorem zre {a b:Nat} (h:decide ((a:Int) < (b:Int))=true):a < b:=by simpa using h
theorem soKeep {l out:List Str} {i p:Nat} {x u:Str} (hI:Sub (l.take i) out∧out.length≤i) (hx:l[i]?=some x) (hu:out[p]?=some u) (he:(u.toList==x.toList)=true):Sub (l.take (i+1)) out∧out.length≤i+1 :=
 ⟨fun s hs=>by
  rw [List.take_add_one,hx] at hs
  simp only [Option.toList_some,List.mem_append,List.mem_singleton] at hs
  rcases hs with hs|rfl
  ·exact hI.1 s hs
  ·exact ⟨u,List.mem_of_getElem? hu,by simpa using he⟩,by have:=hI.2;omega⟩
theorem soIns {l out:List Str} {i p:Nat} {x:Str} (hI:Sub (l.take i) out∧out.length≤i) (hx:l[i]?=some x):Sub (l.take (i+1)) (insP x out p)∧(insP x out p).length≤i+1 :=
 ⟨fun s hs=>by
  rw [List.take_add_one,hx] at hs
  simp only [Option.toList_some,List.mem_append,List.mem_singleton] at hs
  have hp:=zmM x out p
  rcases hs with hs|rfl
  ·obtain ⟨u,hu,he⟩:=hI.1 s hs
   exact ⟨u,hp.mem_iff.2 (by simp [hu]),he⟩
  ·exact ⟨s,hp.mem_iff.2 (by simp),rfl⟩,by have:=hI.2;simp;omega⟩
theorem soEnd {l out:List Str} (h:Sub (l.take l.length) out∧out.length≤l.length) (hl:zae l):Sub l out∧zae out:=by
 rw [List.take_length] at h
 exact ⟨h.1,by have:=h.2;simp only [zae] at *;omega⟩
theorem djNext {l m:List Str} {x:Str} {i:Nat} (h:Dj (l.take i) m) (hx:l[i]?=some x) (hn:∀ u∈m,u.toList≠x.toList):Dj (l.take (i+1)) m:=fun s hs u hu=>by
 rw [List.take_add_one,hx] at hs
 simp only [Option.toList_some,List.mem_append,List.mem_singleton] at hs
 rcases hs with hs|rfl
 ·exact h s hs u hu
 ·exact fun e=>hn u hu e.symm
noncomputable def L_so2 (l out:List Str) (io:Nat) (y:Str) (i:Nat) :Cfg:=zav B.ref26_sorted 1 [(3,.own 0 out.length),(5,sv y),(6,iv (i:Nat)),(7,ssl l),(8,iv ((l.map fun s=>[sv s]).length:Nat)),(9,iv (io:Nat))] [.row Ty.string (out.map fun s=>[sv s]) false]
theorem zgK (l out:List Str) (io:Nat) (y:Str) (hl:zae out) (i:Nat)  (hi:i≤(out.length)) (hI:i≤out.length):∃ (i':Nat) ,(i'≤out.length)∧(∀ u:Str,out[i']?=some u→Op.bytesLess u.toList y.toList=false)∧∀ R,Good E0 B.ref26_sorted [] (L_so2 l out io y i' ) R→Good E0 B.ref26_sorted [] (L_so2 l out io y i ) R:=by
 obtain ⟨kk,hk⟩:∃ kk,i+kk=(out.length):=⟨(out.length) - i,by omega⟩
 induction kk generalizing i  with
 | zero =>
  have e0:i=(out.length):=by omega
  subst e0
  exact ⟨(out.length),hI,by simp,fun R hg=>hg⟩
 | succ kk ih =>
  have h0:decide (((i:Nat):Int) < (((out.length):Nat):Int))=true:=by simp;omega
  have hw:IntKind.i64.wrap (((i:Nat):Int)+1)=((i+1:Nat):Int):=zap i zlM
  have hlo:i < out.length:=by omega
  cases hb:Op.bytesLess (out[i]'hlo).toList y.toList with
  | false=>exact ⟨i,hI,(fun u hu=>by rw [List.getElem?_eq_getElem hlo] at hu;cases hu;exact hb),fun R hg=>hg⟩
  | true =>
  have hbl:∀ u:Str,out[i]?=some u→Op.bytesLess u.toList y.toList=true:=fun u hu=>by rw [List.getElem?_eq_getElem hlo] at hu;cases hu;exact hb
  obtain ⟨x1,e1⟩:=zay (l:=out) (i:=(i:Int).toNat) (by first|assumption|omega|(simp;done)|(simp;omega))
  obtain ⟨ixZ,qZ,xaZ,gZ⟩:=ih (i+1) (by omega) (by first|trivial|assumption|(simp;done)|omega|(simp;omega)|(simp at *;omega)) (by omega);exact ⟨ixZ,qZ,xaZ,fun R hg=>zab (wkl [sqx (out.length=(List.map (fun s=>[sv s]) out).length),sg h0,sqx (OwnAt (List.map (fun s=>[sv s]) out) out.length (i:Int)),sx (.el ([sv x1])) (zfZ (fun s=>[sv s]) (n:=out.length) (by simp) e1),sb (hbl x1 e1),si hw] [3,5,6,7,8,9] 1 kr (gZ R hg))⟩
noncomputable def L_so (l:List Str) (i:Nat) (out:List Str):Cfg:=zav B.ref26_sorted 0 [(3,.own 0 out.length),(7,ssl l),(8,iv ((l.map fun s=>[sv s]).length:Nat)),(9,iv (i:Nat))] [.row Ty.string (out.map fun s=>[sv s]) false]
theorem zg8 (l:List Str) (hl:zae l) (i:Nat) (out:List Str) (hi:i≤(l).length) (hI:Sub (l.take i) out∧out.length≤i):∃ (out':List Str),(Sub (l.take (l).length) out'∧out'.length≤(l).length)∧(decide ((((l).length:Nat):Int) < (((l.map fun s=>[sv s]).length:Nat):Int))=false)∧∀ R,Good E0 B.ref26_sorted [] (L_so l (l).length out') R→Good E0 B.ref26_sorted [] (L_so l i out) R:=by
 obtain ⟨kk,hk⟩:∃ kk,i+kk=(l).length:=⟨(l).length - i,by omega⟩
 induction kk generalizing i out with
 | zero =>
  have e0:i=(l).length:=by omega
  subst e0
  exact ⟨out,hI,by simp,fun R hg=>hg⟩
 | succ kk ih =>
  obtain ⟨x,hx⟩:=zay (l:=l) (i:=i) (by omega)
  have h0:decide (((i:Nat):Int) < (((l.map fun s=>[sv s]).length:Nat):Int))=true:=by simp;omega
  have hw:IntKind.i64.wrap (((i:Nat):Int)+1)=((i+1:Nat):Int):=zap i zlM
  have hol:out.length≤1000000000:=by have:=hI.2;simp only [zae] at hl;omega
  obtain ⟨i1,q1,q1_1,g1⟩:=zgK l out i x zhZ 0 zhZ zhZ
  let p_1:List St:=[sb h0,se (zah (fun s=>[sv s]) hx rfl)]
  let p_2:List St:=[sqx (out.length=(List.map (fun s=>[sv s]) out).length)]
  cases h2:decide ((i1:Int) < (out.length:Int))
  ·obtain ⟨outZ,qZ,xZ,gZ⟩:=ih (i+1) (insP x out i1) (by omega) znL (by omega);exact ⟨outZ,qZ,xZ,fun R hg=>zab (wkl p_1 [3,5,6,7,8,9] 1 kr (g1 _ (zab (wkl (p_2++[sb h2,sqx (out.length=(List.map (fun s=>[sv s]) out).length),sb h2,sqx (AllLen [[sv (ByteArray.mk #[])]] 1∧out.length=(List.map (fun s=>[sv s]) out).length∧(((List.map (fun s=>[sv s]) out).length+[[sv (ByteArray.mk #[])]].length) * 16).le 140737488355328),sdp [(2,[si (zaY (t:=(i1:Int)+1) (n:=i1+1) (by omega) (by omega))]),(3,[sqx (OwnCut (List.map (fun s=>[sv s]) out++[[sv (ByteArray.mk #[])]]) (List.map (fun s=>[sv s]) out++[[sv (ByteArray.mk #[])]]).length 0 (↑(i1+1):Int) (↑(List.map (fun s=>[sv s]) out++[[sv (ByteArray.mk #[])]]).length:Int))]),(6,[sqx (OwnCut (List.map (fun s=>[sv s]) out++[[sv (ByteArray.mk #[])]]) (List.map (fun s=>[sv s]) out++[[sv (ByteArray.mk #[])]]).length 0 (i1:Int) (↑(List.map (fun s=>[sv s]) out++[[sv (ByteArray.mk #[])]]).length:Int))]),(7,[sqx ((List.map (fun s=>[sv s]) out++[[sv (ByteArray.mk #[])]]).length=(List.map (fun s=>[sv s]) out++[[sv (ByteArray.mk #[])]]).length∧(List.map (fun s=>[sv s]) out++[[sv (ByteArray.mk #[])]]).length=(List.map (fun s=>[sv s]) out++[[sv (ByteArray.mk #[])]]).length)])] [[2,6,3,7]] [(3,AV.own 0 (List.map (fun s=>[sv s]) out++[[sv (ByteArray.mk #[])]]).length),(5,sv x),(6,iv (i1:Int)),(7,AV.sl (List.map (fun s=>[sv s]) l)),(8,iv (↑(List.map (fun s=>[sv s]) l).length:Int)),(9,iv (i:Int)),(13,iv (i1:Int)),(14,AV.own 0 out.length),(15,iv (out.length:Int)),(16,bv (decide ((i1:Int) < (out.length:Int)))),(17,AV.bl false),(18,AV.tup []),(19,AV.tup []),(20,AV.tup []),(21,AV.tup []),(22,AV.tup []),(23,AV.tup []),(24,AV.bl false),(27,iv (i1:Int)),(28,AV.own 0 out.length),(29,iv (out.length:Int)),(30,bv (decide ((i1:Int) < (out.length:Int)))),(31,AV.bl false),(32,AV.tup []),(33,AV.tup []),(34,AV.tup []),(35,AV.tup []),(36,AV.tup []),(37,AV.tup []),(38,AV.bl false),(39,AV.own 0 out.length),(40,AV.sl [[sv (ByteArray.mk #[])]]),(41,AV.own 0 (List.map (fun s=>[sv s]) out++[[sv (ByteArray.mk #[])]]).length),(42,AV.own 0 (List.map (fun s=>[sv s]) out++[[sv (ByteArray.mk #[])]]).length),(43,iv (i1:Int)),(44,iv (↑(i1+1):Int)),(45,AV.os 0 (List.map (fun s=>[sv s]) out++[[sv (ByteArray.mk #[])]]).length (↑(i1+1):Int).toNat (↑(List.map (fun s=>[sv s]) out++[[sv (ByteArray.mk #[])]]).length:Int).toNat),(46,AV.own 0 (List.map (fun s=>[sv s]) out++[[sv (ByteArray.mk #[])]]).length),(47,iv (i1:Int)),(48,AV.os 0 (List.map (fun s=>[sv s]) out++[[sv (ByteArray.mk #[])]]).length (i1:Int).toNat (↑(List.map (fun s=>[sv s]) out++[[sv (ByteArray.mk #[])]]).length:Int).toNat),(49,AV.un)] [Blk.row Ty.string (zc6 (List.map (fun s=>[sv s]) out++[[sv (ByteArray.mk #[])]]) (i1+1) (List.map (fun s=>[sv s]) out++[[sv (ByteArray.mk #[])]]).length i1 (List.map (fun s=>[sv s]) out++[[sv (ByteArray.mk #[])]]).length) false],sqx (OwnAt (zc6 (List.map (fun s=>[sv s]) out++[[sv (ByteArray.mk #[])]]) (i1+1) (List.map (fun s=>[sv s]) out++[[sv (ByteArray.mk #[])]]).length i1 (List.map (fun s=>[sv s]) out++[[sv (ByteArray.mk #[])]]).length) (List.map (fun s=>[sv s]) out++[[sv (ByteArray.mk #[])]]).length (i1:Int)),sx (.el ([sv ((out++[ByteArray.mk #[]])[i1]?.getD (ByteArray.mk #[]))])) (And.intro (owed (p:=True∧True)) (zrM out i1 zhZ)),si hw]) [3,7,8,9] 1 kr (zan (show ([(3,AV.own 0 (List.map (fun s=>[sv s]) out++[[sv (ByteArray.mk #[])]]).length),(7,AV.sl (List.map (fun s=>[sv s]) l)),(8,iv (↑(List.map (fun s=>[sv s]) l).length:Int)),(9,iv (↑(i+1):Int))]:TS)=_ by first|rfl|exact zdm (by assumption)|exact zdm (by omega)|(simp;done)|(simp;omega)) (show ([Blk.row Ty.string ((zc6 (List.map (fun s=>[sv s]) out++[[sv (ByteArray.mk #[])]]) (i1+1) (List.map (fun s=>[sv s]) out++[[sv (ByteArray.mk #[])]]).length i1 (List.map (fun s=>[sv s]) out++[[sv (ByteArray.mk #[])]]).length).set i1 [sv x]) false]:Heap)=_ by first|rfl|exact zdm (by assumption)|exact zdm (by omega)|(simp;done)|(simp;omega)) (gZ R hg))))))⟩
  ·obtain ⟨x3,e3⟩:=zay (l:=out) (i:=(i1:Int).toNat) zhZ
   let p_3:List St:=p_2++[sg h2,sqx (OwnAt (List.map (fun s=>[sv s]) out) out.length (i1:Int)),sx (.el ([sv x3])) (zfZ (fun s=>[sv s]) (n:=out.length) (by simp) e3),sb (q1_1 x3 e3),sqx (out.length=(List.map (fun s=>[sv s]) out).length),sg h2,sqx (OwnAt (List.map (fun s=>[sv s]) out) out.length (i1:Int)),sx (.el ([sv x3])) (zfZ (fun s=>[sv s]) (n:=out.length) (by simp) e3)]
   cases h4:ByteArray.toList x3==ByteArray.toList x
   ·obtain ⟨outZ,qZ,xZ,gZ⟩:=ih (i+1) (insP x out i1) (by omega) znL (by omega);exact ⟨outZ,qZ,xZ,fun R hg=>zab (wkl p_1 [3,5,6,7,8,9] 1 kr (g1 _ (zab (wkl (p_3++[sb h4,sqx (AllLen [[sv (ByteArray.mk #[])]] 1∧out.length=(List.map (fun s=>[sv s]) out).length∧(((List.map (fun s=>[sv s]) out).length+[[sv (ByteArray.mk #[])]].length) * 16).le 140737488355328),sdp [(2,[si (zaY (t:=(i1:Int)+1) (n:=i1+1) (by omega) (by omega))]),(3,[sqx (OwnCut (List.map (fun s=>[sv s]) out++[[sv (ByteArray.mk #[])]]) (List.map (fun s=>[sv s]) out++[[sv (ByteArray.mk #[])]]).length 0 (↑(i1+1):Int) (↑(List.map (fun s=>[sv s]) out++[[sv (ByteArray.mk #[])]]).length:Int))]),(6,[sqx (OwnCut (List.map (fun s=>[sv s]) out++[[sv (ByteArray.mk #[])]]) (List.map (fun s=>[sv s]) out++[[sv (ByteArray.mk #[])]]).length 0 (i1:Int) (↑(List.map (fun s=>[sv s]) out++[[sv (ByteArray.mk #[])]]).length:Int))]),(7,[sqx ((List.map (fun s=>[sv s]) out++[[sv (ByteArray.mk #[])]]).length=(List.map (fun s=>[sv s]) out++[[sv (ByteArray.mk #[])]]).length∧(List.map (fun s=>[sv s]) out++[[sv (ByteArray.mk #[])]]).length=(List.map (fun s=>[sv s]) out++[[sv (ByteArray.mk #[])]]).length)])] [[2,6,3,7]] [(3,AV.own 0 (List.map (fun s=>[sv s]) out++[[sv (ByteArray.mk #[])]]).length),(5,sv x),(6,iv (i1:Int)),(7,AV.sl (List.map (fun s=>[sv s]) l)),(8,iv (↑(List.map (fun s=>[sv s]) l).length:Int)),(9,iv (i:Int)),(13,iv (i1:Int)),(14,AV.own 0 out.length),(15,iv (out.length:Int)),(16,bv (decide ((i1:Int) < (out.length:Int)))),(17,AV.bl true),(18,AV.own 0 out.length),(19,iv (i1:Int)),(20,AV.ep 0 out.length (i1:Int).toNat 0),(21,sv x3),(22,sv x),(23,bv (Op.bytesLess (ByteArray.toList x3) (ByteArray.toList x))),(24,AV.bl false),(27,iv (i1:Int)),(28,AV.own 0 out.length),(29,iv (out.length:Int)),(30,bv (decide ((i1:Int) < (out.length:Int)))),(31,AV.bl true),(32,AV.own 0 out.length),(33,iv (i1:Int)),(34,AV.ep 0 out.length (i1:Int).toNat 0),(35,sv x3),(36,sv x),(37,bv (ByteArray.toList x3==ByteArray.toList x)),(38,AV.bl false),(39,AV.own 0 out.length),(40,AV.sl [[sv (ByteArray.mk #[])]]),(41,AV.own 0 (List.map (fun s=>[sv s]) out++[[sv (ByteArray.mk #[])]]).length),(42,AV.own 0 (List.map (fun s=>[sv s]) out++[[sv (ByteArray.mk #[])]]).length),(43,iv (i1:Int)),(44,iv (↑(i1+1):Int)),(45,AV.os 0 (List.map (fun s=>[sv s]) out++[[sv (ByteArray.mk #[])]]).length (↑(i1+1):Int).toNat (↑(List.map (fun s=>[sv s]) out++[[sv (ByteArray.mk #[])]]).length:Int).toNat),(46,AV.own 0 (List.map (fun s=>[sv s]) out++[[sv (ByteArray.mk #[])]]).length),(47,iv (i1:Int)),(48,AV.os 0 (List.map (fun s=>[sv s]) out++[[sv (ByteArray.mk #[])]]).length (i1:Int).toNat (↑(List.map (fun s=>[sv s]) out++[[sv (ByteArray.mk #[])]]).length:Int).toNat),(49,AV.un)] [Blk.row Ty.string (zc6 (List.map (fun s=>[sv s]) out++[[sv (ByteArray.mk #[])]]) (i1+1) (List.map (fun s=>[sv s]) out++[[sv (ByteArray.mk #[])]]).length i1 (List.map (fun s=>[sv s]) out++[[sv (ByteArray.mk #[])]]).length) false],sqx (OwnAt (zc6 (List.map (fun s=>[sv s]) out++[[sv (ByteArray.mk #[])]]) (i1+1) (List.map (fun s=>[sv s]) out++[[sv (ByteArray.mk #[])]]).length i1 (List.map (fun s=>[sv s]) out++[[sv (ByteArray.mk #[])]]).length) (List.map (fun s=>[sv s]) out++[[sv (ByteArray.mk #[])]]).length (i1:Int)),sx (.el ([sv ((out++[ByteArray.mk #[]])[i1]?.getD (ByteArray.mk #[]))])) (And.intro (owed (p:=True∧True)) (zrM out i1 zhZ)),si hw]) [3,7,8,9] 1 kr (zan (show ([(3,AV.own 0 (List.map (fun s=>[sv s]) out++[[sv (ByteArray.mk #[])]]).length),(7,AV.sl (List.map (fun s=>[sv s]) l)),(8,iv (↑(List.map (fun s=>[sv s]) l).length:Int)),(9,iv (↑(i+1):Int))]:TS)=_ by first|rfl|exact zdm (by assumption)|exact zdm (by omega)|(simp;done)|(simp;omega)) (show ([Blk.row Ty.string ((zc6 (List.map (fun s=>[sv s]) out++[[sv (ByteArray.mk #[])]]) (i1+1) (List.map (fun s=>[sv s]) out++[[sv (ByteArray.mk #[])]]).length i1 (List.map (fun s=>[sv s]) out++[[sv (ByteArray.mk #[])]]).length).set i1 [sv x]) false]:Heap)=_ by first|rfl|exact zdm (by assumption)|exact zdm (by omega)|(simp;done)|(simp;omega)) (gZ R hg))))))⟩
   ·obtain ⟨outZ,qZ,xZ,gZ⟩:=ih (i+1) out (by omega) znL (by omega);exact ⟨outZ,qZ,xZ,fun R hg=>zab (wkl p_1 [3,5,6,7,8,9] 1 kr (g1 _ (zab (wkl (p_3++[sb h4,si hw]) [3,7,8,9] 1 kr (gZ R hg)))))⟩
theorem ztB {l:List Str} {s x:Str} {i:Nat} (h:∀ u∈l.take i,u.toList≠s.toList) (hx:l[i]?=some x) (hn:(x.toList==s.toList)=false):∀ u∈l.take (i+1),u.toList≠s.toList:=fun u hu=>by
 rw [List.take_add_one,hx] at hu
 simp only [Option.toList_some,List.mem_append,List.mem_singleton] at hu
 rcases hu with hu|rfl
 ·exact h u hu
 ·simpa using hn
noncomputable def L_ha (l:List Str) (s:Str) (i:Nat) :Cfg:=zav B.ref20_Has 0 [(1,sv s),(7,ssl l),(8,iv ((l.map fun s=>[sv s]).length:Nat)),(9,iv (i:Nat))] []
theorem ziS (l:List Str) (s:Str) (hl:zae l) (i:Nat)  (hi:i≤(l).length) (hI:∀ u∈l.take i,u.toList≠s.toList):((∀ u∈l.take (l).length,u.toList≠s.toList)∧(decide ((((l).length:Nat):Int) < (((l.map fun s=>[sv s]).length:Nat):Int))=false)∧∀ R,Good E0 B.ref20_Has [] (L_ha l s (l).length ) R→Good E0 B.ref20_Has [] (L_ha l s i ) R)∨(∃ (r:Bool),r=true∧Good E0 B.ref20_Has [] (L_ha l s i ) (Shut 0 fun rZ hZ=>rZ=(bv r)∧hZ=[])):=by
 obtain ⟨kk,hk⟩:∃ kk,i+kk=(l).length:=⟨(l).length - i,by omega⟩
 induction kk generalizing i  with
 | zero =>
  have e0:i=(l).length:=by omega
  subst e0
  exact .inl ⟨hI,by simp,fun R hg=>hg⟩
 | succ kk ih =>
  obtain ⟨x,hx⟩:=zay (l:=l) (i:=i) (by omega)
  have h0:decide (((i:Nat):Int) < (((l.map fun s=>[sv s]).length:Nat):Int))=true:=by simp;omega
  have hw:IntKind.i64.wrap (((i:Nat):Int)+1)=((i+1:Nat):Int):=zap i zlM
  let p_1:List St:=[sb h0,se (zah (fun s=>[sv s]) hx rfl)]
  cases h1:ByteArray.toList x==ByteArray.toList s
  ·exact (ih (i+1) (by omega) (by exact ztB hI hx (by assumption)) (by omega)).elim (fun ⟨qZ,xZ,gZ⟩=>.inl ⟨qZ,xZ,fun R hg=>zab (wkl (p_1++[sb h1,si hw]) [1,7,8,9] 0 kr (gZ R hg))⟩) (fun ⟨rY,pZ,gZ⟩=>.inr ⟨rY,pZ,zab (wkl [sb h0,se (zah (fun s=>[sv s]) hx rfl),sb h1,si hw] [1,7,8,9] 0 kr gZ)⟩)
  ·exact .inr ⟨true,(by first|rfl|assumption),zab (wkr (p_1++[sb h1]) kr)⟩
theorem zoT (l:List Str) (s:Str) (hl:zae l):∃ (r:Bool),(r=false→∀ u∈l,u.toList≠s.toList)∧zac E0 S.ref20_Has [ssl l,sv s] [] (bv r) []:=by
 rcases ziS l s (by first|assumption|(simp;done)|omega) 0 (by first|assumption|(simp;done)|omega) (by first|assumption|(simp;done)|omega) with ⟨q1,q1_1,g1⟩|⟨r1_0,p1_0,g1⟩
 ·exact ⟨false,zmd,wkc At.ref20_Has [] [1,7,8,9] 0 kr (g1 _ (zab (wkr [sb q1_1] kr)))⟩
 ·exact ⟨r1_0,zmd,wkc At.ref20_Has [] [1,7,8,9] 0 kr (g1)⟩
theorem zhS (l:List Str) (hl:zae l):∃ (r:List Str),(Sub l r∧zae r)∧zac E0 S.ref26_sorted [ssl l] [] (ssl r) []:=by
 obtain ⟨out1,q1,q1_1,g1⟩:=zg8 l (by first|assumption|omega|(simp [Sub];done)|(simp;done)) 0 ([]) (by first|assumption|omega|(simp [Sub];done)|(simp;done)) (by first|assumption|omega|(simp [Sub];done)|(simp;done))
 exact ⟨out1,(by exact soEnd (by assumption) hl),wkcN At.ref26_sorted [] [3,7,8,9] 0 [(.ot 3 Ty.string,1)] kr (g1 _ (zab (wkr [sqx (out1.length=(List.map (fun s=>[sv s]) out1).length),sb q1_1] kr)))⟩
noncomputable def L_me (l m:List Str) (i:Nat) :Cfg:=zav B.ref29_meets 0 [(1,ssl m),(7,ssl l),(8,iv ((l.map fun s=>[sv s]).length:Nat)),(9,iv (i:Nat))] []
theorem zhI (l m:List Str) (hl:zae l) (hm:zae m) (i:Nat)  (hi:i≤(l).length) (hI:Dj (l.take i) m):((Dj (l.take (l).length) m)∧(decide ((((l).length:Nat):Int) < (((l.map fun s=>[sv s]).length:Nat):Int))=false)∧∀ R,Good E0 B.ref29_meets [] (L_me l m (l).length ) R→Good E0 B.ref29_meets [] (L_me l m i ) R)∨(∃ (r:Bool),r=true∧Good E0 B.ref29_meets [] (L_me l m i ) (Shut 0 fun rZ hZ=>rZ=(bv r)∧hZ=[])):=by
 obtain ⟨kk,hk⟩:∃ kk,i+kk=(l).length:=⟨(l).length - i,by omega⟩
 induction kk generalizing i  with
 | zero =>
  have e0:i=(l).length:=by omega
  subst e0
  exact .inl ⟨hI,by simp,fun R hg=>hg⟩
 | succ kk ih =>
  obtain ⟨x,hx⟩:=zay (l:=l) (i:=i) (by omega)
  have h0:decide (((i:Nat):Int) < (((l.map fun s=>[sv s]).length:Nat):Int))=true:=by simp;omega
  have hw:IntKind.i64.wrap (((i:Nat):Int)+1)=((i+1:Nat):Int):=zap i zlM
  obtain ⟨r1,q1,c1⟩:=(zoT m x (by first|assumption|omega|(simp;done)|(simp;omega)))
  let p_1:List St:=[sb h0,se (zah (fun s=>[sv s]) hx rfl),sc c1]
  rcases (Bool.eq_false_or_eq_true r1).symm with h2|h2
  ·exact (ih (i+1) (by omega) (by exact djNext hI hx ((by assumption:_=false→_) (by assumption))) (by omega)).elim (fun ⟨qZ,xZ,gZ⟩=>.inl ⟨qZ,xZ,fun R hg=>zab (wkl (p_1++[sb h2,si hw]) [1,7,8,9] 0 kr (gZ R hg))⟩) (fun ⟨rY,pZ,gZ⟩=>.inr ⟨rY,pZ,zab (wkl [sb h0,se (zah (fun s=>[sv s]) hx rfl),sc c1,sb h2,si hw] [1,7,8,9] 0 kr gZ)⟩)
  ·exact .inr ⟨true,(by first|rfl|assumption),zab (wkr (p_1++[sb h2]) kr)⟩
theorem zf8 (l m:List Str) (hl:zae l) (hm:zae m):∃ (r:Bool),(r=false→Dj l m)∧zac E0 S.ref29_meets [ssl l,ssl m] [] (bv r) []:=by
 rcases zhI l m zmb zmb 0 zmb zmb with ⟨q1,q1_1,g1⟩|⟨r1_0,p1_0,g1⟩
 ·exact ⟨false,zmd,wkc At.ref29_meets [] [1,7,8,9] 0 kr (g1 _ (zab (wkr [sb q1_1] kr)))⟩
 ·exact ⟨r1_0,zmd,wkc At.ref29_meets [] [1,7,8,9] 0 kr (g1)⟩
end Go.AM
namespace Go.AM
set_option maxRecDepth 100000
set_option maxHeartbeats 1000000
set_option linter.unusedSimpArgs false
set_option linter.unusedVariables false
theorem zdN {p:Prop} (h:p:=by first|assumption|exact h.whens|exact h.acts|exact h.sets|exact FmI.start rfl (by simp)|(subst q3;assumption)|exact ztM (by assumption) (by subst q3;assumption)|exact ztp h (by assumption)|omega|(simp;done)):p:=h
theorem zoz {p:Prop} (h:p:=by first|(exfalso;have h7:=h.before;have h8:=h.each;simp_all;done)|exact rowEnd (by assumption) (by assumption) (by assumption) (by assumption) (by assumption)):p:=h
structure RowT (t:Tg):Prop where
 before:t.before=true
 each:t.each=true
 whens:Few t.when_
 acts:Thin 1 t.acts
 sets:∀ a∈t.acts,Thin 1 a.sets
 wx:∀ x∈t.when_,XOk 5 x
 sx:∀ a∈t.acts,∀ x∈a.sets,XOk 5 x.ex
theorem BTrig.rowT {tb:Str} {ev:Int} {t:Tg} (h:BTrig tb ev t):RowT t:=by
 obtain ⟨a,ha,hk⟩:=h.acts
 refine ⟨h.before,h.each,h.whens,by rw [ha];simp,fun b hb=>?_,h.when_,fun b hb x hx=>?_⟩
 ·rw [ha,List.mem_singleton] at hb
  subst hb
  rcases hk with rfl|⟨c,e,rfl,_⟩ <;> simp [setA]
 ·rw [ha,List.mem_singleton] at hb
  subst hb
  rcases hk with rfl|⟨c,e,rfl,he⟩
  ·simp at hx
  ·simp only [setA,List.mem_singleton] at hx
   subst hx
   exact he
theorem RowT.exs {t:Tg} (h:RowT t):∀ x∈t.when_++t.acts.flatMap exA1,XOk 5 x:=fun x hx=>by
 rcases List.mem_append.1 hx with hx|hx
 ·exact h.wx x hx
 ·obtain ⟨a,ha,hx⟩:=List.mem_flatMap.1 hx
  obtain ⟨s,hs,hx⟩:=List.mem_flatMap.1 hx
  simp only [exE,List.mem_singleton] at hx
  subst hx
  exact h.sx a ha s hs
theorem RowT.exl {t:Tg} (h:RowT t):(t.when_++t.acts.flatMap exA1).length≤1001:=by
 have h1:=zcH (l:=t.acts) (f:=exA1) (C:=1) fun a ha=>by
  have h2:=zcH (l:=a.sets) (f:=exE a) (C:=1) fun x _=>by simp [exE]
  have h3:=h.sets a ha
  simp only [Thin,exA1] at *
  omega
 have h4:=h.whens
 have h5:=h.acts
 simp only [Thin,Few,List.length_append] at *
 omega
theorem rdT_eq (t:Tg):(t.when_++t.acts.flatMap exA1).flatMap (zbh sNEW 5)=rdT t:=by
 have:∀ a:Ac,(exA1 a).flatMap (zbh sNEW 5)=a.sets.flatMap fun x=>zbh sNEW 5 x.ex:=fun a=>by
  simp [exA1,exE,List.flatMap_assoc]
 simp only [rdT,List.flatMap_append,List.flatMap_assoc,this]
theorem wrT_eq (t:Tg):t.acts.flatMap wr1=wrT t:=by
 have:∀ a:Ac,wr1 a=bif a.kind==5 then a.sets.map Se.col else []:=fun a=>by
  unfold wr1 stE
  cases a.kind==5
  ·simp
  ·simp [List.flatMap_singleton']
   induction a.sets with
   | nil=>rfl
   | cons x r ih=>simp [List.flatMap_cons,ih]
 rw [show wr1=_ from funext this];rfl
noncomputable def L_rwE (t:Tg) (es:List X) (i:Nat) (out:List Str):Cfg:=zav B.ref26_Row 0 [(1,.p 0 0),(4,.own 1 out.length),(16,.sl (zaa es)),(17,iv ((zaa es).length:Nat)),(18,iv (i:Nat))] [.box t.cells,.row Ty.string (out.map fun s=>[sv s]) false]
theorem ziu (t:Tg) (es:List X) (he:es.length≤1001) (hr:∀ x∈es,NamC sNEW (zbh sNEW 5) x) (i:Nat) (out:List Str) (hi:i≤(es).length) (hI:FmI es (zbh sNEW 5) [] out 0 100000 i):∃ (out':List Str),(FmI es (zbh sNEW 5) [] out' 0 100000 (es).length)∧(decide ((((es).length:Nat):Int) < (((zaa es).length:Nat):Int))=false)∧∀ R,Good E0 B.ref26_Row [] (L_rwE t es (es).length out') R→Good E0 B.ref26_Row [] (L_rwE t es i out) R:=by
 obtain ⟨kk,hk⟩:∃ kk,i+kk=(es).length:=⟨(es).length - i,by omega⟩
 induction kk generalizing i out with
 | zero =>
  have e0:i=(es).length:=by omega
  subst e0
  exact ⟨out,hI,by simp,fun R hg=>hg⟩
 | succ kk ih =>
  obtain ⟨x,hx⟩:=zay (l:=es) (i:=i) (by omega)
  have h0:decide (((i:Nat):Int) < (((zaa es).length:Nat):Int))=true:=by simp;omega
  have hw:IntKind.i64.wrap (((i:Nat):Int)+1)=((i+1:Nat):Int):=zap i (by first|omega|(simp only [zae,Few] at *;omega))
  have hfx:=(hr x (List.mem_of_getElem? hx)).1
  have hfl:=(hr x (List.mem_of_getElem? hx)).2
  have hol:=hI.room (n:=1001) (k:=100000) (by omega) (by omega) hfl
  obtain ⟨outZ,qZ,xZ,gZ⟩:=ih (i+1) (out++zbh sNEW 5 x) (by omega) (by exact hI.step hx hfl) (by omega);exact ⟨outZ,qZ,xZ,fun R hg=>zab (wkl [sb h0,se (zbn hx),sc hfx,sqx (AllLen (List.map (fun s=>[sv s]) (zbh sNEW 5 x)) 1∧out.length=(List.map (fun s=>[sv s]) out).length∧(((List.map (fun s=>[sv s]) out).length+(List.map (fun s=>[sv s]) (zbh sNEW 5 x)).length) * 16).le 140737488355328),si hw] [1,4,16,17,18] 2 kr (zan (show ([(1,AV.p 0 0),(4,AV.own 1 (List.map (fun s=>[sv s]) out++List.map (fun s=>[sv s]) (zbh sNEW 5 x)).length),(16,AV.sl (zaa es)),(17,iv (↑(zaa es).length:Int)),(18,iv (↑(i+1):Int))]:TS)=_ by first|rfl|(simp;done)|(simp [X.cells,Qy.cells,V.cells,Col.cells,Rw.cells,Tb.cells,Fr.cells,Sch.cells,Tp.cells,Pl.cells,xCol,xLit,xBin,xNeg,Im.cells,Lk.cells,Ac.cells,Se.cells,Tg.cells,Rk.cells];done)) (show ([Blk.box [sv t.name,sv t.table,bv t.before,iv t.event,AV.sl (List.map (fun s=>[sv s]) t.of),bv t.each,AV.sl (List.map (fun s=>[sv s]) t.prec),AV.sl (List.map (fun s=>[sv s]) t.foll),AV.sl (List.map Rk.cells t.rank),AV.sl (zaa t.when_),AV.sl (List.map Ac.cells t.acts)],Blk.row Ty.string (List.map (fun s=>[sv s]) out++List.map (fun s=>[sv s]) (zbh sNEW 5 x)) false]:Heap)=_ by first|rfl|(simp;done)|(simp [X.cells,Qy.cells,V.cells,Col.cells,Rw.cells,Tb.cells,Fr.cells,Sch.cells,Tp.cells,Pl.cells,xCol,xLit,xBin,xNeg,Im.cells,Lk.cells,Ac.cells,Se.cells,Tg.cells,Rk.cells];done)) (gZ R hg)))⟩
theorem ztM {es:List X} {f:X→List Str} {out:List Str} (h:FmI es f [] out 0 100000 es.length) (he:es.length≤1001):zae out:=by have:=h.len;simp only [zae];omega
theorem ztp {t:Tg} (h:RowT t) {r:List Str} (hr:r=t.acts.flatMap wr1):zae r:=by
 have h1:=zcH (l:=t.acts) (f:=wr1) (C:=1) fun a ha=>by
  have h2:=zcH (l:=a.sets) (f:=stE a) (C:=1) fun x _=>by unfold stE;cases a.kind==5 <;> simp
  have h3:=h.sets a ha
  simp only [Thin,wr1] at *
  omega
 have h4:=h.acts
 rw [hr]
 simp only [Thin,zae] at *
 omega
theorem rowEnd {t:Tg} {es:List X} {out a b s:List Str} (he:es=t.when_++t.acts.flatMap exA1) (ho:FmI es (zbh sNEW 5) [] out 0 100000 es.length) (ha:Sub out a∧zae a) (hs:s=t.acts.flatMap wr1) (hb:Sub s b∧zae b):(Sub (rdT t) a∧zae a)∧(Sub (wrT t) b∧zae b):=by
 have h1:=ho.all
 rw [List.nil_append,he,rdT_eq] at h1
 rw [hs,wrT_eq] at hb
 exact ⟨h1 ▸ ha,hb⟩
theorem zpm (t:Tg) (h:RowT t) (hr:∀ x∈t.when_++t.acts.flatMap exA1,NamC sNEW (zbh sNEW 5) x) (he:(t.when_++t.acts.flatMap exA1).length≤1001):∃ (a b:List Str),((Sub (rdT t) a∧zae a)∧(Sub (wrT t) b∧zae b))∧zac E0 S.ref26_Row [t.av] [] (.tup [ssl a,ssl b]) []:=by
 cases h1:!t.before
 ·cases h2:!t.each
  ·obtain ⟨r3,q3,c3⟩:=(zm4 t zdN zdN zdN)
   obtain ⟨out4,q4,q4_1,g4⟩:=ziu t r3 zdN zdN 0 ([]) zdN zdN
   obtain ⟨r5,q5,c5⟩:=(zhS out4 zdN)
   obtain ⟨r6,q6,c6⟩:=(zoR t zdN zdN)
   obtain ⟨r7,q7,c7⟩:=(zhS r6 zdN)
   exact ⟨r5,r7,zoz,wkcN At.ref26_Row [sg h1,sb h2,sc c3] [1,4,16,17,18] 1 [(.ot 4 Ty.string,2)] kr (g4 _ (zab (wkr [sb q4_1,sd [(1,[skx (out4.length=(List.map (fun s=>[sv s]) out4).length∧True) [] c5]),(3,[sc c6]),(4,[sc c7])]] kr)))⟩
  ·exact ⟨[],[],zoz,wk At.ref26_Row [sg h1,sb h2] kr⟩
 ·exact ⟨[],[],zoz,wk At.ref26_Row [sb h1] kr⟩
end Go.AM
namespace Go.AM
open Go.RowKit
theorem zqY {E:Env0} (ht:zaM E) (hm:E.P.follows .mixedOrders=true) {id:Nat} {ops:Array Oper} {osl:List (Nat × List Orc)} {n:Nat} {ts:TS} {h hb:Heap} {Q:Exit→Act→World→Prop} {βb β:List Con} {Sb S:Addr→Prop} {wb w:World} {tmps:Array Value} {Ls:List (List Prop × TS × Heap)}
  (hsz:ops.toList.length=ops.size) (hlv:zcV (mk E) ops.toList osl n ops.toList.length [] ts h=some Ls) (hq:∀ l∈Ls,allP l.1) (hn:tmps.size=n) (x:Ext hb βb Sb wb h β S w) (r:Rel E h β S w) (rt:zaQ E.T h β w S ts tmps)
  (hK:∀ l∈Ls,∀ (β':List Con) (S':Addr→Prop) (w':World) (tmps':Array Value),tmps'.size=n→Ext hb βb Sb wb l.2.2 β' S' w'→Rel E l.2.2 β' S' w'→zaQ E.T l.2.2 β' w' S' l.2.1 tmps'→Q .normal ⟨tmps',[]⟩ w') :
  (Code.region id ops true).wp E.P Q ⟨tmps,[]⟩ w:=by
 refine wp_region_any hm ?_
 have hdg:=zmK (E:=mk E) (K:=fun L hh=>∃ l∈Ls,L=look l.2.1∧hh=l.2.2) ops.toList.length [] (Array.replicate ops.size false) ts h _ ⟨by simp,fun j hj=>?_⟩ (by simp) (fun j o ho hj=>?_) hlv (fun l hl=>?_)
 ·have hbel:Below w.heap.size w { w with drawn:=w.drawn+1 }:=⟨rfl,rfl,rfl,Nat.le_refl _,fun _ _=>rfl⟩
  have x1:Ext h β S w h β S { w with drawn:=w.drawn+1 }:=Ext.grow r hbel (fun _ h=>h) (fun _ h=>.inl h)
  have r1:Rel E h β S { w with drawn:=w.drawn+1 }:=r.grow hbel (fun _ h=>h) (fun _ h=>.inl h)
  have:=zoO (Q:=Q) ht (fun L hh β' S' w' tmps' hKK hn' x' r' rl'=>by
   obtain ⟨l,hl,rfl,rfl⟩:=hKK
   exact hK l hl β' S' w' tmps' hn' x' r' rl') ops.toList.length _ _ _ β S _ tmps hdg hn (x.trans x1) r1 (fun t=>(rt t).ext x1)
  rw [hsz] at this
  simpa using this
 ·have:j < ops.size:=by simpa using hj
  simp [memN,this]
 ·by_cases hjs:j < ops.size
  ·simp [hjs] at hj
  ·simp [hjs] at hj
 ·exact ⟨hq l hl,l,hl,rfl,rfl⟩
def zqP (E:Env) (c:Cfg) (osl:List (Nat × List Orc)):Option (List It × List (List Prop × TS × Heap)):=match c.todo with
 | .code (.region _ ops true)::k=>match zcV E ops.toList osl c.n ops.toList.length [] c.ts c.h,Nat.beq ops.toList.length ops.size with
  | some l,true=>some (k,l)
  | _,_=>none
 | _=>none
theorem zoI {E:Env0} (ht:zaM E) (hm:E.P.follows .mixedOrders=true) {fn:Func} {R:AV→Heap→Prop} {h0:Heap} {c:Cfg} {osl:List (Nat × List Orc)} {k:List It} {Ls:List (List Prop × TS × Heap)} (hd:zqP (mk E) c osl=some (k,Ls)) (hq:∀ l∈Ls,allP l.1) (hg:∀ l∈Ls,Good E fn h0 ⟨c.n,k,l.2.1,l.2.2⟩ R):Good E fn h0 c R:=by
 intro β0 S0 w0 β S w tmps hb0 hn x0 r rt
 obtain ⟨n,todo,ts,h⟩:=c
 simp only at hn x0 r rt ⊢
 unfold zqP at hd
 simp only at hd
 split at hd
 ·rename_i id ops k'
  split at hd
  ·rename_i Ls' hlv hsz
   cases hd
   simp only [kont,Exit.then]
   exact zqY ht hm (Nat.eq_of_beq_eq_true hsz) hlv hq hn x0 r rt fun l hl β' S' w' tmps' hn' x' r' rt'=>hg l hl β0 S0 w0 β' S' w' tmps' hb0 hn' x' r' rt'
  ·cases hd
 ·cases hd
noncomputable def runD (fn:Func) (args:List AV) (h:Heap) (n:Nat) (os0:List Orc) (osl:List (Nat × List Orc)) (os1 os2:List Orc):Option (List Prop × (List Prop × AV × Heap) × (List Prop × AV × Heap)) :=
 match fn.body, (fn.name == "runtime.NumGoroutine"), Nat.ble args.length fn.ntmps with
 | some c,false,true=>match run (mk E0) n ⟨fn.ntmps,[.code c],zb0 0 args,h⟩ os0 with
  | (q0,c1,_)=>match zqP (mk E0) c1 osl with
   | some (k,[(q1,t1,h1),(q2,t2,h2)])=>match fin (mk E0) fn h.length 3000 ⟨c1.n,k,t1,h1⟩ os1,fin (mk E0) fn h.length 3000 ⟨c1.n,k,t2,h2⟩ os2 with
    | some (p1,y1,H1),some (p2,y2,H2)=>some (q0,(q1++p1,y1,H1),(q2++p2,y2,H2))
    | _,_=>none
   | _=>none
 | _,_,_=>none
theorem wkD {f:FuncId} {fn:Func} {args:List AV} {h H:Heap} {r:AV} (hf:E0.P.funcs[f]?=some fn) (l0:List St) (n:Nat) (osl:List (Nat × List Orc)) (a1 l1 a2 l2:List St) (hfin:runD fn args h n (orcs l0) osl (orcs l1) (orcs l2)=some (zbD l0,(zbD (a1++l1),r,H),(zbD (a2++l2),r,H))):zac E0 f args h r H:=by
 unfold runD at hfin
 split at hfin
 ·rename_i c hb hname ha
  split at hfin
  rename_i q0 c1 os' hrun
  split at hfin
  ·rename_i k q1 t1 h1 q2 t2 h2 hd
   split at hfin
   ·rename_i p1 y1 H1 p2 y2 H2 hf1 hf2
    simp only [Option.some.injEq,Prod.mk.injEq] at hfin
    obtain ⟨e0,⟨e1,rfl,rfl⟩,⟨e2,rfl,rfl⟩⟩:=hfin
    have hp1:=zbf (a1++l1)
    have hp2:=zbf (a2++l2)
    rw [← e1] at hp1
    rw [← e2] at hp2
    refine zdA (za2 hf hb hname (Nat.le_of_ble_eq_true ha) (zgW E0ok mix0 n _ (orcs l0) (by rw [hrun,e0];exact zbf l0) ?_))
    rw [hrun]
    refine zoI E0ok mix0 hd (fun l hl=>?_) fun l hl=>?_
    ·simp only [List.mem_cons,List.not_mem_nil,or_false] at hl
     rcases hl with rfl|rfl
     ·exact (zcB hp1).1
     ·exact (zcB hp2).1
    ·simp only [List.mem_cons,List.not_mem_nil,or_false] at hl
     rcases hl with rfl|rfl
     ·exact zfo E0ok mix0 3000 (orcs l1) hf1 (zcB hp1).2 ⟨rfl,rfl⟩
     ·exact zfo E0ok mix0 3000 (orcs l2) hf2 (zcB hp2).2 ⟨rfl,rfl⟩
   ·cases hfin
  ·cases hfin
 ·cases hfin
end Go.AM
namespace Go.AM
set_option maxRecDepth 100000
set_option maxHeartbeats 1000000
set_option linter.unusedSimpArgs false
set_option linter.unusedVariables false
theorem zkS (t:Tg) (h:RowT t):∃ (a b:List Str),((Sub (rdT t) a∧zae a)∧(Sub (wrT t) b∧zae b))∧zac E0 S.ref26_Row [t.av] [] (.tup [ssl a,ssl b]) [] :=
 zpm t h (fun x hx=>namC 5 x sNEW (by decide) (h.exs x hx)) h.exl
theorem Dj.sub {l m a b:List Str} (h:Dj a b) (hl:Sub l a) (hm:Sub m b):Dj l m:=fun s hs u hu e=>by
 obtain ⟨s2,h1,h2⟩:=hl s hs
 obtain ⟨u2,h3,h4⟩:=hm u hu
 exact h s2 h1 u2 h3 (h2.trans (e.trans h4.symm))
theorem cmEnd {x y:Tg} {a b a' b':List Str} (h:(Sub (rdT x) a∧zae a)∧(Sub (wrT x) b∧zae b)) (h':(Sub (rdT y) a'∧zae a')∧(Sub (wrT y) b'∧zae b')) {r1 r2 r3:Bool} (q1:r1=false→Dj b a') (q2:r2=false→Dj b b') (q3:r3=false→Dj a b') (e1:(!r1)=true) (e2:(!r2)=true) (e3:(!r3)=true):Cm x y :=
 ⟨(q1 (by simpa using e1)).sub h.2.1 h'.1.1,(q2 (by simpa using e2)).sub h.2.1 h'.2.1,(q3 (by simpa using e3)).sub h.1.1 h'.2.1⟩
theorem zml (l:List Tg) (i k:Nat) (x y:Tg) (hx:l[i]?=some x) (hy:l[k]?=some y) (hrx:RowT x) (hry:RowT y) (hA:decide ((((l.map Tg.cells).length:Nat):Int)≤((i:Nat):Int))=false) (hB:decide ((((l.map Tg.cells).length:Nat):Int)≤((k:Nat):Int))=false) (hC:(((i:Nat):Int)==((k:Nat):Int))=false) (hE1:(!x.before)=false) (hE2:(!y.before)=false) (hE3:(!x.each)=false) (hE4:(!y.each)=false) (hE5:(!(x.table.toList==y.table.toList))=false) (hE6:(x.event != y.event)=false):∃ (r:Bool),(r=true→Cm x y)∧zac E0 S.ref29_Before [.sl (l.map Tg.cells),iv (i:Nat),iv (k:Nat)] [] (bv r) []:=by
 obtain ⟨a1,b1,q1,c1⟩:=zkS x hrx
 obtain ⟨a2,b2,q2,c2⟩:=zkS y hry
 obtain ⟨r3,q3,c3⟩:=zf8 b1 a2 q1.2.2 q2.1.2
 let p0:List St:=[sg (rfl:false=false),sg (rfl:false=false),sg hA,sb hB]
 let ex:St:=se (zah Tg.cells hx rfl)
 let ey:St:=se (zah Tg.cells hy rfl)
 let rs:List St:=[sg hC,sg hE1,sg hE2,sg hE3,sg hE4,sg hE5,sb hE6,sc c1,sc c2,sc c3]
 cases h4:!r3
 ·exact ⟨false,(fun h=>by cases h),wkD At.ref29_Before p0 60 (zi4 [(2,[ex]),(6,[ey])]) [ex,ey] (rs++[sb h4]) [ex,ey] (rs++[sb h4]) kr⟩
 ·obtain ⟨r5,q5,c5⟩:=zf8 b1 b2 q1.2.2 q2.2.2
  cases h6:!r5
  ·exact ⟨false,(fun h=>by cases h),wkD At.ref29_Before p0 60 (zi4 [(2,[ex]),(6,[ey])]) [ex,ey] (rs++[sg h4,sc c5,sb h6]) [ex,ey] (rs++[sg h4,sc c5,sb h6]) kr⟩
  ·obtain ⟨r7,q7,c7⟩:=zf8 a1 b2 q1.1.2 q2.2.2
   exact ⟨!r7,(fun h=>cmEnd q1 q2 q3 q5 q7 h4 h6 h),wkD At.ref29_Before p0 60 (zi4 [(2,[ex]),(6,[ey])]) [ex,ey] (rs++[sg h4,sc c5,sg h6,sc c7]) [ex,ey] (rs++[sg h4,sc c5,sg h6,sc c7]) kr⟩
theorem zmt (l:List Tg) (i k:Nat) (x y:Tg) (tb:Str) (ev:Int) (hx:l[i]?=some x) (hy:l[k]?=some y) (hik:i < k) (h1:BTrig tb ev x) (h2:BTrig tb ev y):∃ (r:Bool),(r=true→Cm x y)∧zac E0 S.ref29_Before [.sl (l.map Tg.cells),iv (i:Nat),iv (k:Nat)] [] (bv r) []:=by
 have hi:=(List.getElem?_eq_some_iff.mp hx).1
 have hk:=(List.getElem?_eq_some_iff.mp hy).1
 refine zml l i k x y hx hy h1.rowT h2.rowT (by simp;omega) (by simp;omega) ?_ (by simp [h1.before]) (by simp [h2.before]) (by simp [h1.each]) (by simp [h2.each]) (by simp [h1.table,h2.table]) (by simp [h1.event,h2.event])
 rw [beq_eq_false_iff_ne]
 omega
end Go.AM
namespace Go.AM
set_option maxRecDepth 100000
set_option maxHeartbeats 1000000
set_option linter.unusedSimpArgs false
set_option linter.unusedVariables false
theorem zbt {p:Prop} (h:p:=by first|assumption|(simp only [Pos];omega)|exact (zbm (by assumption)).short|exact (zbm (by assumption)).cols|exact (zbm (by assumption)).few|exact zoG (zbm (by assumption)) (by assumption)|exact And.right (by assumption)|exact (zoG (zbm (by assumption)) (by assumption)).short|exact ⟨by simp,by simp,by simp⟩|exact FrI.trs (by assumption)|exact FrI.pw (by assumption)|exact zq7 (zoG (zbm (by assumption)) (by assumption)).short|exact ztL (by assumption) (by assumption)|omega|(simp;done)):p:=h
theorem zjW {p:Prop} (h:p:=by first|assumption|exact hI.trs|(intro _ y hy;simp at hy;done)|omega|(simp;done)):p:=h
theorem zoG {s:Sch} {r:List V} (hs:SchOk s) (h:zhp s.cols r):NwOk r:=⟨by have:=h.len;have:=hs.few;simp only [Few] at *;omega,PrefOk.good h⟩
theorem zoD {s:Sch} {old nw:List V} {tbs:List Tb}:∀ (l:List Tg) (a:List V),(l.foldl (fun a t=>appU (updT t s old tbs nw) a) a).length=a.length
 | [],_=>rfl
 | t::r,a=>by rw [List.foldl_cons,zoD r,znV]
theorem zq7 {s:Sch} {old nw:List V} {tbs:List Tb} {cur:List Tg} (h:zae nw):zae (outC s old nw tbs cur):=by
 unfold outC
 split
 ·have:=zoD (s:=s) (old:=old) (nw:=nw) (tbs:=tbs) cur nw
  simp only [zae] at *
  omega
 ·simp [zae]
theorem zf4 (l:List V) (hl:zae l):zac E0 S.slices_Equal_Value [vsl l,vsl l] [] (bv true) []:=by
 obtain ⟨r,rfl,h⟩:=ze1 l hl
 exact h
theorem zfY (tb:Str) (ev:Int) (free:List Tg) (s:Sch) (old new:List V) (tbs:List Tb) (ps:List Int) (hB:∀ t∈free,BTrig tb ev t) (hP:free.Pairwise Cm) (hs:Few s.cols) (ho:NwOk old) (hn:NwOk new) (hst:StoreOk tbs) (hp:Room ps) (hf:zae free) :
  ∃ (p ch:List Int) (e:Int),((e==0)=okC s old new tbs free)∧zac E0 S.before_Row [.sl (free.map Tg.cells),.sl [],s.av,vsl old,vsl new,tsl tbs,isl ps] [] (.tup [vsl (outC s old new tbs free),isl p,isl ch,iv e]) []:=by
 obtain ⟨h1,h2⟩:=zrV (s:=s) (old:=old) (nw:=new) (tbs:=tbs) (cur:=free) ps hB hP
 have hk:=zjQ 5 free [] s old new tbs ps (by decide) (by simp) hs (zaK hs) ho hst.tbOk hst.tbG hf (fun t ht=>(hB t ht).trOk) hn hn.short hp
 rw [h1] at hk
 exact ⟨_,_,_,h2,hk⟩
structure FrI (tb:Str) (ev:Int) (free:List Tg) (i:Nat):Prop where
 trs:∀ t∈free,BTrig tb ev t
 pw:free.Pairwise Cm
 len:free.length≤i
theorem FrI.next {tb:Str} {ev:Int} {free:List Tg} {i:Nat} (h:FrI tb ev free i):FrI tb ev free (i+1):=⟨h.trs,h.pw,by have:=h.len;omega⟩
theorem FrI.push {tb:Str} {ev:Int} {free:List Tg} {i:Nat} {x:Tg} (h:FrI tb ev free i) (hx:BTrig tb ev x) (hc:∀ y∈free,Cm y x):FrI tb ev (free++[x]) (i+1) :=
 ⟨fun t ht=>by
  simp only [List.mem_append,List.mem_singleton] at ht
  rcases ht with ht|rfl
  ·exact h.trs t ht
  ·exact hx,List.pairwise_append.2 ⟨h.pw,by simp,fun y hy z hz=>by simp only [List.mem_singleton] at hz;subst hz;exact hc y hy⟩,by have:=h.len;simp;omega⟩
theorem zjB (free:List Tg) (i:Nat) (y x:Tg) (tb:Str) (ev:Int) (hy:free[i]?=some y) (h1:BTrig tb ev y) (h2:BTrig tb ev x):∃ (r:Bool),(r=true→Cm y x)∧zac E0 S.ref29_Before [.sl (free.map Tg.cells++[x.cells]),iv (i:Nat),iv ((free.map Tg.cells).length:Nat)] [] (bv r) []:=by
 have hi:=(List.getElem?_eq_some_iff.mp hy).1
 obtain ⟨r,hr,hc⟩:=zmt (free++[x]) i free.length y x tb ev (by rw [List.getElem?_append_left hi];exact hy) (by simp) hi h1 h2
 refine ⟨r,hr,?_⟩
 rw [List.map_append] at hc
 rw [List.length_map]
 exact hc
theorem zr9 {free:List Tg} {x y:Tg} {i:Nat} {b r:Bool} (h:b=true→∀ y∈free.take i,Cm y x) (hy:free[i]?=some y) (hr:r=true→Cm y x) (hb:b=true):r=true→∀ y∈free.take (i+1),Cm y x:=fun h1 t ht=>by
 rw [List.take_add_one,hy] at ht
 simp only [Option.toList_some,List.mem_append,List.mem_singleton] at ht
 rcases ht with ht|rfl
 ·exact h hb t ht
 ·exact hr h1
noncomputable def L_bcI (u:Tp) (s:Sch) (ps qs:List Int) (ts:List Tg) (tb:Str) (ev:Int) (io:Nat) (free:List Tg) (z:Tg) (i:Nat) (b:Bool):Cfg:=zav B.law20_BeforeCommutes 1 [(1,isl ps),(2,isl qs),(7,.p 0 0),(9,.p 1 0),(12,.sl (free.map Tg.cells)),(15,.sl (free.map Tg.cells++[z.cells])),(16,bv b),(44,.sl (ts.map Tg.cells)),(45,iv ((ts.map Tg.cells).length:Nat)),(46,iv (io:Nat)),(56,iv ((free.map Tg.cells).length:Nat)),(57,iv (i:Nat))] [.box u.cells,.box s.cells]
theorem zef (u:Tp) (s:Sch) (ps qs:List Int) (ts:List Tg) (tb:Str) (ev:Int) (io:Nat) (free:List Tg) (z:Tg) (hf:∀ t∈free,BTrig tb ev t) (hz:BTrig tb ev z) (hs:zae free) (i:Nat) (b:Bool) (hi:i≤(free).length) (hI:(b=true→∀ y∈free.take i,Cm y z)):∃ (b':Bool),((b'=true→∀ y∈free.take (free).length,Cm y z))∧(decide ((((free).length:Nat):Int) < (((free.map Tg.cells).length:Nat):Int))=false)∧∀ R,Good E0 B.law20_BeforeCommutes [] (L_bcI u s ps qs ts tb ev io free z (free).length b') R→Good E0 B.law20_BeforeCommutes [] (L_bcI u s ps qs ts tb ev io free z i b) R:=by
 obtain ⟨kk,hk⟩:∃ kk,i+kk=(free).length:=⟨(free).length - i,by omega⟩
 induction kk generalizing i b with
 | zero =>
  have e0:i=(free).length:=by omega
  subst e0
  exact ⟨b,hI,by simp,fun R hg=>hg⟩
 | succ kk ih =>
  obtain ⟨x,hx⟩:=zay (l:=free) (i:=i) (by omega)
  have h0:decide (((i:Nat):Int) < (((free.map Tg.cells).length:Nat):Int))=true:=by simp;omega
  have hw:IntKind.i64.wrap (((i:Nat):Int)+1)=((i+1:Nat):Int):=zap i (by first|omega|(simp only [zae,Few] at *;omega))
  have hxb:=hf x (List.mem_of_getElem? hx)
  rcases (Bool.eq_false_or_eq_true b).symm with h1|h1
  ·obtain ⟨bZ,qZ,xZ,gZ⟩:=ih (i+1) false (by omega) (by first|exact zr9 hI hx (by assumption) (by assumption)|(intro h;simp_all;done)) (by omega);exact ⟨bZ,qZ,xZ,fun R hg=>zab (wklN [sb h0,sb h1,si hw] [1,2,7,9,12,15,16,44,45,46,56,57] 2 [(.bl 16,2)] kr (gZ R hg))⟩
  ·obtain ⟨r2,q2,c2⟩:=(zjB free i x z tb ev hx hxb (by first|assumption|omega|(simp;done)|(simp;omega)))
   obtain ⟨bZ,qZ,xZ,gZ⟩:=ih (i+1) r2 (by omega) (by first|exact zr9 hI hx (by assumption) (by assumption)|(intro h;simp_all;done)) (by omega);exact ⟨bZ,qZ,xZ,fun R hg=>zab (wkl [sb h0,sg h1,sc c2,si hw] [1,2,7,9,12,15,16,44,45,46,56,57] 2 kr (gZ R hg))⟩
theorem zrB {tb:Str} {ev:Int} {free:List Tg} {i:Nat} {x:Tg} {b:Bool} (h:FrI tb ev free i) (hx:BTrig tb ev x) (hq:b=true→∀ y∈free.take free.length,Cm y x) (hb:b=true):FrI tb ev (free++[x]) (i+1) :=
 h.push hx (by have:=hq hb;rwa [List.take_length] at this)
noncomputable def L_bcO (u:Tp) (s:Sch) (ps qs:List Int) (ts:List Tg) (tb:Str) (ev:Int) (o:List Lk) (i:Nat) (free:List Tg):Cfg:=zav B.law20_BeforeCommutes 0 [(1,isl ps),(2,isl qs),(7,.p 0 0),(9,.p 1 0),(12,.sl (free.map Tg.cells)),(44,.sl (ts.map Tg.cells)),(45,iv ((ts.map Tg.cells).length:Nat)),(46,iv (i:Nat))] [.box u.cells,.box s.cells]
theorem zed (u:Tp) (s:Sch) (ps qs:List Int) (ts:List Tg) (tb:Str) (ev:Int) (o:List Lk) (h:BTrs tb ev ts o) (i:Nat) (free:List Tg) (hi:i≤(ts).length) (hI:FrI tb ev free i):∃ (free':List Tg),(FrI tb ev free' (ts).length)∧(decide ((((ts).length:Nat):Int) < (((ts.map Tg.cells).length:Nat):Int))=false)∧∀ R,Good E0 B.law20_BeforeCommutes [] (L_bcO u s ps qs ts tb ev o (ts).length free') R→Good E0 B.law20_BeforeCommutes [] (L_bcO u s ps qs ts tb ev o i free) R:=by
 obtain ⟨kk,hk⟩:∃ kk,i+kk=(ts).length:=⟨(ts).length - i,by omega⟩
 induction kk generalizing i free with
 | zero =>
  have e0:i=(ts).length:=by omega
  subst e0
  exact ⟨free,hI,by simp,fun R hg=>hg⟩
 | succ kk ih =>
  obtain ⟨x,hx⟩:=zay (l:=ts) (i:=i) (by omega)
  have h0:decide (((i:Nat):Int) < (((ts.map Tg.cells).length:Nat):Int))=true:=by simp;omega
  have hw:IntKind.i64.wrap (((i:Nat):Int)+1)=((i+1:Nat):Int):=zap i (by have h2:=h.len;omega)
  have hxb:=h.trs x (List.mem_of_getElem? hx)
  have hfs:zae free:=by have h1:=hI.len;have h2:=h.len;simp only [zae];omega
  obtain ⟨b1,q1,q1_1,g1⟩:=zef u s ps qs ts tb ev i free x zjW hxb zjW 0 true zjW zjW
  let p_1:List St:=[sb h0,se (zah Tg.cells hx rfl),sd [(1,[sc (zd1 free zjW)]),(4,[sqx (AllLen [[sv x.name,sv x.table,bv x.before,iv x.event,AV.sl (List.map (fun s=>[sv s]) x.of),bv x.each,AV.sl (List.map (fun s=>[sv s]) x.prec),AV.sl (List.map (fun s=>[sv s]) x.foll),AV.sl (List.map Rk.cells x.rank),AV.sl (zaa x.when_),AV.sl (List.map Ac.cells x.acts)]] 11∧free.length=(List.map Tg.cells free).length∧(((List.map Tg.cells free).length+[[sv x.name,sv x.table,bv x.before,iv x.event,AV.sl (List.map (fun s=>[sv s]) x.of),bv x.each,AV.sl (List.map (fun s=>[sv s]) x.prec),AV.sl (List.map (fun s=>[sv s]) x.foll),AV.sl (List.map Rk.cells x.rank),AV.sl (zaa x.when_),AV.sl (List.map Ac.cells x.acts)]].length) * 200).le 140737488355328)])],sqx ((List.map Tg.cells free++[[sv x.name,sv x.table,bv x.before,iv x.event,AV.sl (List.map (fun s=>[sv s]) x.of),bv x.each,AV.sl (List.map (fun s=>[sv s]) x.prec),AV.sl (List.map (fun s=>[sv s]) x.foll),AV.sl (List.map Rk.cells x.rank),AV.sl (zaa x.when_),AV.sl (List.map Ac.cells x.acts)]]).length=(List.map Tg.cells free++[[sv x.name,sv x.table,bv x.before,iv x.event,AV.sl (List.map (fun s=>[sv s]) x.of),bv x.each,AV.sl (List.map (fun s=>[sv s]) x.prec),AV.sl (List.map (fun s=>[sv s]) x.foll),AV.sl (List.map Rk.cells x.rank),AV.sl (zaa x.when_),AV.sl (List.map Ac.cells x.acts)]]).length)]
  rcases (Bool.eq_false_or_eq_true b1).symm with h2|h2
  ·obtain ⟨freeZ,qZ,xZ,gZ⟩:=ih (i+1) free (by omega) (by first|exact hI.next|exact zrB hI hxb (by assumption) (by assumption)) (by omega);exact ⟨freeZ,qZ,xZ,fun R hg=>zab (wklN p_1 [1,2,7,9,12,15,16,44,45,46,56,57] 4 [(.fz 15,2),(.bl 16,2)] kr (g1 _ (zab (wkl [sb q1_1,sb h2,si hw] [1,2,7,9,12,44,45,46] 2 kr (gZ R hg)))))⟩
  ·obtain ⟨freeZ,qZ,xZ,gZ⟩:=ih (i+1) (free++[x]) (by omega) (by first|exact hI.next|exact zrB hI hxb (by assumption) (by assumption)) (by omega);exact ⟨freeZ,qZ,xZ,fun R hg=>zab (wklN p_1 [1,2,7,9,12,15,16,44,45,46,56,57] 4 [(.fz 15,2),(.bl 16,2)] kr (g1 _ (zab (wkl [sb q1_1,sb h2,si hw] [1,2,7,9,12,44,45,46] 2 kr (zan (show ([(1,AV.sl (List.map (fun n=>[iv n]) ps)),(2,AV.sl (List.map (fun n=>[iv n]) qs)),(7,AV.p 0 0),(9,AV.p 1 0),(12,AV.sl (List.map Tg.cells free++[[sv x.name,sv x.table,bv x.before,iv x.event,AV.sl (List.map (fun s=>[sv s]) x.of),bv x.each,AV.sl (List.map (fun s=>[sv s]) x.prec),AV.sl (List.map (fun s=>[sv s]) x.foll),AV.sl (List.map Rk.cells x.rank),AV.sl (zaa x.when_),AV.sl (List.map Ac.cells x.acts)]])),(44,AV.sl (List.map Tg.cells ts)),(45,iv (↑(List.map Tg.cells ts).length:Int)),(46,iv (↑(i+1):Int))]:TS)=_ by first|rfl|(simp;done)|(simp [X.cells,Qy.cells,V.cells,Col.cells,Rw.cells,Tb.cells,Fr.cells,Sch.cells,Tp.cells,Pl.cells,xCol,xLit,xBin,xNeg,Im.cells,Lk.cells,Ac.cells,Se.cells,Tg.cells,Rk.cells];done)) rfl (gZ R hg))))))⟩
theorem ztL {tb:Str} {ev:Int} {free ts:List Tg} {o:List Lk} (h:FrI tb ev free ts.length) (ht:BTrs tb ev ts o):zae free:=by have h1:=h.len;have h2:=ht.len;simp only [zae];omega
theorem zoU (l ps qs:List Int) (hsh:zae zao) (hp:Room ps) (hq:Room qs):∃ (r:Bool),r=true∧zac E0 S.law20_BeforeCommutes [isl l,isl ps,isl qs] [] (bv r) []:=by
 obtain ⟨t1,c1⟩:=(zo5 l)
 obtain ⟨w2,t2,q2,c2⟩:=(zb4 t1)
 obtain ⟨a3,t3,q3,c3⟩:=(zaf t2 2 zbt)
 obtain ⟨r4,o4,t4,q4,c4⟩:=(zlb t3 w2 ((↑(1+a3):Int)) zbt)
 obtain ⟨free5,q5,q5_1,g5⟩:=zed t4 (zam w2) ps qs r4 w2 ((↑(1+a3):Int)) o4 q4 0 ([]) zbt zbt
 obtain ⟨r6,t6,q6,c6⟩:=(zj7 t4 2 zbt zbt)
 obtain ⟨r7,t7,q7,c7⟩:=(zeg t6 (zam w2) zbt zbt)
 obtain ⟨r8,t8,q8,c8⟩:=(zeg t7 (zam w2) zbt zbt)
 obtain ⟨p9,ch9,e9,q9,c9⟩:=(zfY (?tb) (?ev) free5 (zam w2) r7 r8 r6 ps zbt zbt zbt zbt zbt zbt zbt zbt)
 obtain ⟨p10,ch10,e10,q10,c10⟩:=(zfY (?tb) (?ev) free5 (zam w2) r7 r8 r6 qs zbt zbt zbt zbt zbt zbt zbt zbt)
 let p_1:List St:=[sc c1,sl [0] c2,sc (zbq w2 zbt),sl [0] c3,si (zaY (t:=1+(a3:Int)) (n:=1+a3) (by omega) (by omega)),sl [0] c4,sqx True]
 let p_2:List St:=[sb q5_1,sl [0] c6,sd [(2,[sl [0] c7]),(5,[sl [0] c8])],sc c9,sc c10]
 cases h11:(e9==0)==(e10==0)
 ·exact ⟨false,(by first|rfl|(exfalso;simp_all;done)),wkcN At.law20_BeforeCommutes p_1 [1,2,7,9,12,44,45,46] 2 [(.fz 12,2)] kr (g5 _ (zab (wkr (p_2++[sb h11]) kr)))⟩
 ·exact ⟨true,(by first|rfl|(exfalso;simp_all;done)),wkcN At.law20_BeforeCommutes p_1 [1,2,7,9,12,44,45,46] 2 [(.fz 12,2)] kr (g5 _ (zab (wkr (p_2++[sg h11,sc (zf4 (outC (zam w2) r7 r8 r6 free5) zbt),so (rfl:true=true) (sc zni)]) kr)))⟩
end Go.AM
namespace Go.AM
open Go.RowKit
set_option linter.unusedSimpArgs false
set_option linter.unusedVariables false
abbrev old (W:World):Addr→Prop:=fun a=>a.block < W.heap.size
theorem zpO {W:World} {a:Addr} {v:Value} (h:W.cell? a=some v):a.block < W.heap.size:=by
 unfold World.cell? at h
 cases hb:W.heap[a.block]? with
 | none=>rw [hb] at h;cases h
 | some o=>exact (Array.getElem?_eq_some_iff.1 hb).1
theorem relD_strs {W:World} {g:Nat} (l:List Str) (h:∀ (j:Nat) (s:Str),l[j]?=some s→W.cell? ⟨g,j,none⟩=some (.string s)):RelD W (old W) (.dp (l.map sv)) (.pointer (some ⟨g,0,none⟩)):=by
 refine .dp _ g 0 (fun j=>.string (l.getD j ⟨#[]⟩)) (fun j x hx=>?_) (fun j x hx=>?_)
 ·simp only [List.getElem?_map,Option.map_eq_some_iff] at hx
  obtain ⟨s,hs,rfl⟩:=hx
  have hc:=h j s hs
  rw [Nat.zero_add]
  refine ⟨zpO hc,?_,rfl⟩
  rw [hc,List.getD_eq_getElem?_getD,hs];rfl
 ·simp only [List.getElem?_map,Option.map_eq_some_iff] at hx
  obtain ⟨s,hs,rfl⟩:=hx
  have:l.getD j ⟨#[]⟩=s:=by rw [List.getD_eq_getElem?_getD,hs];rfl
  simp only [this]
  exact .v _ rfl
theorem zsL {s:ByteArray} {l:List UInt8} (h:s.data.toList=l):s=zcE l:=by
 cases s with
 | mk d=>simp only [zcE];congr;rw [← h]
theorem laid_strs {P:Program} {W:World} {n:String} {g:Nat} {t e:TypeId} {k:Nat} {l:List (List UInt8)} (hr:Lib.VarReads P W n (.agg (l.map fun b=>.lit (.string b)))) (hg:P.globalNamed n=some g) (hty:(P.globals[g]?).map (·.type)=some t)
  (ht:P.underlying t=some (.array k e)) (he:P.underlying e=some .string) (hc:P.cellsOf e=1) (hk:l.length=k):∀ (j:Nat) (s:Str),(l.map zcE)[j]?=some s→W.cell? ⟨g,j,none⟩=some (.string s):=by
 intro j s hs
 obtain ⟨g',t',cs,fuel,p,h1,h2,h3,h4⟩:=hr
 obtain rfl:g'=g:=Option.some.inj (h1.symm.trans hg)
 obtain rfl:t'=t:=Option.some.inj (h2.symm.trans hty)
 simp only [List.getElem?_map,Option.map_eq_some_iff] at hs
 obtain ⟨b,hb,rfl⟩:=hs
 have hj:=zfB hb
 obtain ⟨f',d,q,hd,hq⟩:=Lib.array_elem ht h4 j (by omega)
 simp only [List.getElem?_map,hb,Option.map_some,Option.some.injEq] at hd
 subst hd
 obtain ⟨s,e1,e2,_⟩:=DataW.trod_string he hq
 rw [World.var?_cell h1 h3]
 rw [hc,Nat.mul_one] at e1
 have e3:cs.toList[j]?=some (.string s):=by
  have:=congrArg (·[0]?) e1
  simpa [List.getElem?_take,List.getElem?_drop] using this
 have e4:s=zcE b:=zsL (by simp only [Prod.mk.injEq,DataW.lit.injEq,Lit.string.injEq] at e2;exact e2.1.symm)
 rw [← e4]
 simpa using e3
theorem relV_ints {W:World} {a:Addr} {len cap:Nat} {zs:List Int} (h1:len≤cap) (h2:cap≤maxLen) (h3:zs.length=cap) (hc:∀ i,i < zs.length→W.cell? (a.add i)=some (.int .i64 (zs.getD i 0))) :
  RelV E0.T [] [] W (old W) (isl (zs.take len)) (.slice (some a) len cap):=by
 have hlen:((zs.take len).map fun n=>[iv n]).length=len:=by simp;omega
 have key:=RelD.sl (w:=W) (S:=old W) ((zs.take len).map fun n=>[iv n]) (some a) cap a.block a.off 1 (fun k=>.int .i64 (zs.getD k 0)) ?_ (by rw [hlen];exact h1) h2 (fun i c hi=>?_) (fun i j c x hi hj=>?_) (fun i j c x hi hj=>?_)
 ·rw [hlen] at key
  exact .d _ _ key
 ·intro hne
  have hz:0 < zs.length:=by
   rcases Nat.eq_zero_or_pos zs.length with h|h
   ·exact absurd (by simp [List.eq_nil_of_length_eq_zero h]) hne
   ·exact h
  have h0:=hc 0 hz
  have:a.spot=none:=by
   simp only [Addr.add,if_pos] at h0
   unfold World.cell? at h0
   split at h0
   ·cases hs:a.spot with
    | none=>rfl
    | some x=>rw [hs] at h0;simp at h0
   ·cases h0
  cases a
  simp only at this
  subst this
  rfl
 ·simp only [List.getElem?_map,Option.map_eq_some_iff] at hi
  obtain ⟨n,_,rfl⟩:=hi
  rfl
 ·simp only [List.getElem?_map,Option.map_eq_some_iff] at hi
  obtain ⟨n,hn,rfl⟩:=hi
  have hi2:=zfB hn
  simp only [List.length_take] at hi2
  have hj0:j=0:=by
   cases j with
   | zero=>rfl
   | succ j=>simp at hj
  subst hj0
  have h0:=hc i (by omega)
  have e:a.add i=⟨a.block,a.off+(i * 1+0),none⟩:=by
   unfold Addr.add
   split
   ·rename_i hi0
    subst hi0
    have:a.spot=none:=by
     simp only [Addr.add,if_pos] at h0
     unfold World.cell? at h0
     split at h0
     ·cases hs:a.spot with
      | none=>rfl
      | some x=>rw [hs] at h0;simp at h0
     ·cases h0
    cases a
    simp only at this
    subst this
    rfl
   ·simp
  rw [e] at h0
  refine ⟨zpO h0,?_,rfl⟩
  rw [h0];simp
 ·simp only [List.getElem?_map,Option.map_eq_some_iff] at hi
  obtain ⟨n,hn,rfl⟩:=hi
  have hj0:j=0:=by
   cases j with
   | zero=>rfl
   | succ j=>simp at hj
  subst hj0
  simp only [List.getElem?_cons_zero,Option.some.injEq] at hj
  subst hj
  have:zs.getD (i * 1+0) 0=n:=by
   rw [List.getElem?_take] at hn
   split at hn
   ·simp only [Nat.mul_one,Nat.add_zero,List.getD_eq_getElem?_getD,hn];rfl
   ·cases hn
  simp only [this]
  exact .v _ rfl
theorem relV_nil {W:World}:RelV E0.T [] [] W (old W) (isl []) (.slice none 0 0) :=
 .d _ _ (RelD.sl [] none 0 0 0 1 (fun _=>.int .i64 0) (fun h=>absurd rfl h) (Nat.le_refl _) (by decide) (fun i c h=>by simp at h) (fun i j c x h=>by simp at h) (fun i j c x h=>by simp at h))
theorem oneCell_ok {P:Program} {w:World} {r:Reach} {b:Nat} {u:TypeId} {y:Value} (h:Cell.okWide P w r b u y):y.oneCell'=true:=by
 have h2:∀ y,Cell.ok P w r b u y→y.oneCell'=true:=by
  intro y h
  unfold Cell.ok at h
  split at h <;> first|rfl|exact h.elim
 unfold Cell.okWide at h
 split at h <;> first|rfl|exact h2 _ h
theorem calls_of {f:FuncId} {args:List AV} {b:Bool} (h:zac E0 f args [] (bv b) []) (hgo:GoFn E0.P f) {W:World} {vs:List Value} (hglob:∀ g cs,globs g=some cs→RelD W (old W) (.dp cs) (.pointer (some ⟨g,0,none⟩))) (hargs:PW (RelV E0.T [] [] W (old W)) args vs) :
  Calls E0.P f vs.toArray W fun e W'=>e=.returned (.bool b)∧Below W.heap.size W W':=by
 have hrel:Rel E0 [] [] (old W) W:=⟨rfl,fun b cs hb=>by simp at hb,fun b e xs sh hb=>by simp at hb,fun b b' k k' g hb=>by simp at hb,fun b k g hb=>by simp at hb,fun a ha=>ha,fun b k g a hb=>by simp at hb,hglob⟩
 obtain ⟨fn,hf1,hf2,hf3⟩:=hgo
 have hp:∀ e W',Post E0 [] [] (old W) W (fun r' h''=>r'=bv b∧h''=[]) e W'→e=.returned (.bool b)∧Below W.heap.size W W':=by
  rintro e W' ⟨r,h',β',S',y,rfl,⟨rfl,rfl⟩,_,ex,rv⟩
  refine ⟨?_,ex.os,ex.tape,ex.output,ex.size,fun k hk=>ex.keep k hk fun b' k' hb=>by simp at hb⟩
  rw [rv.v_inv]
 rcases h [] (old W) W vs hrel hargs with ⟨_,hc⟩|⟨y,w',hrun,_⟩
 ·exact hc.mono hp
 ·exfalso
  simp only [callFunc,Sem.run_bind,Sem.run_pure,Result.andThen_ok,run_program,hf1,hf2,hf3,Bool.false_eq_true,if_false] at hrun
  cases hrun
end Go.AM
