/-
  Contracts of the program's functions, part 7.
-/
import Derived.Test.YtoanpmnofigncaaGreatDoorAoG
import Derived.Carry
import Derived.ChangeSame
import Derived.Lib.LaidU8
import Derived.FnData
set_option maxRecDepth 100000
set_option maxHeartbeats 40000000
set_option linter.unusedSimpArgs false
set_option linter.unusedVariables false
namespace Go.AM
theorem zby {p:Prop} (h:p:=by first|assumption|rfl|omega|(simp [zac];done)|decide|simp [Room]):p:=h
theorem zhk {p:Prop} (h:p:=by first|exact ro0 ‹_›|exact ro1 ‹_› ‹_›|exact ro2 ‹_› ‹_›):p:=h
structure RunO (m:List Tb) (a:Nat) (x:Tb) (g:Int) (ps:List Int) (k:Nat) (r:List (List AV)) (lf:List Int) (n e:Int):Prop where
 z:k=0->r=m.map Tb.cells/\lf=ps/\n=0/\e=0
 bad:k≠0->g≠0->r=[]/\e=g
 ok:k≠0->g=0->r=(m.map Tb.cells).set a x.cells/\lf=ps/\n=((k:Nat):Int)/\e=0
section
variable {m : List Tb} {a : Nat} {x : Tb} {g : Int} {ps : List Int} {k : Nat}
theorem ro0 (h:(((k:Nat):Int)==0)=true):RunO m a x g ps k (m.map Tb.cells) ps 0 0:=by
 have h2:k=0:=by simpa using h
 exact ⟨fun _=>⟨rfl,rfl,rfl,rfl⟩,fun h=>absurd h2 h,fun h=>absurd h2 h⟩
theorem ro1 (h:(((k:Nat):Int)==0)=false) (hg:(g != 0)=true):RunO m a x g ps k [] [] 0 g:=by
 have h2:k≠0:=by simpa using h
 have h3:g≠0:=by simpa using hg
 exact ⟨fun e=>absurd e h2,fun _ _=>⟨rfl,rfl⟩,fun _ e=>absurd e h3⟩
theorem ro2 (h:(((k:Nat):Int)==0)=false) (hg:(g != 0)=false):RunO m a x g ps k ((m.map Tb.cells).set a x.cells) ps ((k:Nat):Int) 0:=by
 have h2:k≠0:=by simpa using h
 have h3:g=0:=by simpa using hg
 exact ⟨fun e=>absurd e h2,fun _ e=>absurd h3 e,fun _ _=>⟨rfl,rfl,rfl,rfl⟩⟩
end
theorem zyx (m:List Tb) (ac:Ac) (a:Nat) (e:Int) (ps:List Int) (hml:m.length<=1000) (hfd:zab E0 S.Cc [tsl m,sv ac.table] [] (iv (a:Nat)) []) (hn:decide (((a:Nat):Int) < 0)=false) (hC:zab E0 S.Ai [ac.av,.sl [],tsl (m++[])] [] (.tup [.agg [.sl [],.sl [],.sl []],iv e]) []) (he:(e != 0)=true):∃ (r:List (List AV)) (lf:List Int) (n f:Int),(r=[]/\f=e)/\zab E0 S.AF [tsl m,.sl [],.sl [],ac.av,.sl [],.sl [],isl ps] [] (.tup [.sl r,isl lf,.sl [],iv n,iv f]) []:=by
 exact ⟨[],[],0,e,Zj,wk At.AF [sc hfd,sc (zb7 m ([]) zby zby),sb Zf,sc hC,sb he] kr⟩
theorem zyw (m:List Tb) (ac:Ac) (t x:Tb) (a:Nat) (del:List Int) (g:Int) (asg:List Str) (ps:List Int) (hml:m.length<=1000) (hx:m[a]?=some t) (hal:a < m.length) (hfd:zab E0 S.Cc [tsl m,sv ac.table] [] (iv (a:Nat)) []) (hn:decide (((a:Nat):Int) < 0)=false) (hC:zab E0 S.Ai [ac.av,.sl [],tsl (m++[])] [] (.tup [.agg (odC del),iv 0]) []) (w1:IntKind.i64.wrap (((del.map fun n=>[iv n]).length:Int)+(([]:List (List AV)).length:Int))=((del.length:Nat):Int)) (w2:IntKind.i64.wrap (((del.length:Nat):Int)+(([]:List (List AV)).length:Int))=((del.length:Nat):Int)) (hd:∀ t∈m,zac t.sch.cols/\zac t.rows/\∀ r∈t.rows,zac r.vals) (hAs:zab E0 S.A9 [ac.av] [] (ssl asg) []) (hr:zac t.rows) (hds:zac del) (hp:Room ps) (hA:zab E0 S.AV [t.av,.agg (odC del)] [] (.tup [x.av,iv g]) []):∃ (r:List (List AV)) (lf:List Int) (n e:Int),RunO m a x g ps del.length r lf n e/\zab E0 S.AF [tsl m,.sl [],.sl [],ac.av,.sl [],.sl [],isl ps] [] (.tup [.sl r,isl lf,.sl [],iv n,iv e]) []:=by
 let p_1:List St:=[sc hfd,sc (zb7 m ([]) zby zby),sb Zf,sc hC,sb Zf,si w1,si w2,sc (zdN m zby zby)]
 cases h1:(del.length:Int)==0
 ·let p_2:List St:=p_1++[sb h1,sc hAs,sc (zbn ac.table ac.kind asg false),sc (zc3 m),sb Zf,sd [(11,[se (zae Tb.cells hx rfl)]),(7,[sc (zbn ac.table ac.kind asg true)]),(15,[sc (zbJ ps zby)])],se (zae Tb.cells hx rfl),sl [4,3,1] (zhX m t.sch t ps del zby zby zby),sb Zf,sdm [(2,[se (zae Tb.cells hx rfl)]),(5,[sc hA])] 0 [(0,tsl m),(1,AV.sl []),(2,AV.sl []),(3,AV.agg [iv ac.kind,sv ac.table,AV.sl (List.map (fun r=>[AV.sl (zad r)]) ac.rows),AV.sl (zah ac.query),ZE ac.sets,AV.sl (zad ac.wh),sv ac.text]),(4,AV.sl []),(5,AV.sl []),(6,AV.sl (List.map (fun n=>[iv n]) ps)),(10,AV.p 0 0),(14,AV.nl),(15,AV.nl),(16,AV.nl),(17,iv 0),(18,iv 0),(19,iv (a:Int)),(20,tsl (m++[])),(21,AV.p 1 0),(22,iv g),(23,iv (del.length:Int)),(24,AV.own 2 m.length),(25,AV.sl (List.map (fun s=>[sv s]) asg)),(26,iv 0),(27,AV.p 4 0),(28,iv 0),(29,AV.p 7 0),(30,tsl m),(31,AV.p 0 1),(32,sv ac.table),(33,iv (a:Int)),(34,tsl m),(35,AV.sl []),(36,AV.sl [[tsl m],[AV.sl []]]),(37,tsl (m++[])),(38,iv (a:Int)),(39,AV.bl false),(41,AV.tup [AV.agg [AV.sl [],AV.sl (List.map (fun n=>[iv n]) del),AV.sl []],iv 0]),(42,AV.agg [iv ac.kind,sv ac.table,AV.sl (List.map (fun r=>[AV.sl (zad r)]) ac.rows),AV.sl (zah ac.query),ZE ac.sets,AV.sl (zad ac.wh),sv ac.text]),(43,AV.sl []),(44,tsl (m++[])),(45,AV.tup [AV.agg [AV.sl [],AV.sl (List.map (fun n=>[iv n]) del),AV.sl []],iv 0]),(46,AV.agg [AV.sl [],AV.sl (List.map (fun n=>[iv n]) del),AV.sl []]),(47,iv 0),(48,iv 0),(49,AV.bl false),(51,AV.p 1 1),(52,AV.sl (List.map (fun n=>[iv n]) del)),(53,iv (↑(List.map (fun n=>[iv n]) del).length:Int)),(54,AV.p 1 2),(55,AV.sl []),(56,iv (([]:List (List AV)).length:Int)),(57,iv (del.length:Int)),(58,AV.p 1 0),(59,AV.sl []),(60,iv (([]:List (List AV)).length:Int)),(61,iv (del.length:Int)),(62,tsl m),(63,AV.own 2 m.length),(64,iv (del.length:Int)),(65,AV.bl false),(69,AV.agg [iv ac.kind,sv ac.table,AV.sl (List.map (fun r=>[AV.sl (zad r)]) ac.rows),AV.sl (zah ac.query),ZE ac.sets,AV.sl (zad ac.wh),sv ac.text]),(70,AV.sl (List.map (fun s=>[sv s]) asg)),(71,AV.sl []),(72,AV.p 0 1),(73,sv ac.table),(74,AV.p 0 0),(75,iv ac.kind),(76,AV.sl (List.map (fun s=>[sv s]) asg)),(77,AV.sl []),(78,tsl m),(79,iv 0),(80,iv 0),(81,AV.bl false),(83,tsl m),(84,AV.sl []),(85,AV.p 0 1),(86,sv ac.table),(87,AV.p 0 0),(88,iv ac.kind),(89,AV.sl (List.map (fun s=>[sv s]) asg)),(90,AV.sl []),(91,AV.sl []),(92,tsl m),(93,iv (a:Int)),(94,AV.dp [sv t.sch.name,ZC t.sch.cols,iv t.next,ZW t.rows]),(95,AV.dp [sv t.sch.name,ZC t.sch.cols,iv t.next,ZW t.rows]),(96,AV.agg [sv t.sch.name,ZC t.sch.cols]),(97,AV.sl (List.map (fun n=>[iv n]) ps)),(98,AV.own 3 ps.length),(99,AV.agg [tsl m,AV.sl [],AV.sl [],sv t.sch.name,ZC t.sch.cols,AV.own 3 ps.length,AV.nl]),(100,AV.p 4 0),(101,AV.p 4 0),(102,tsl m),(103,iv (a:Int)),(104,AV.dp [sv t.sch.name,ZC t.sch.cols,iv t.next,ZW t.rows]),(105,AV.agg [sv t.sch.name,ZC t.sch.cols,iv t.next,ZW t.rows]),(106,iv 0),(107,iv 0),(108,AV.bl false),(110,AV.tup [AV.agg [sv x.sch.name,ZC x.sch.cols,iv x.next,ZW x.rows],iv g]),(111,tsl m),(112,iv (a:Int)),(113,AV.dp [sv t.sch.name,ZC t.sch.cols,iv t.next,ZW t.rows]),(114,AV.agg [sv t.sch.name,ZC t.sch.cols,iv t.next,ZW t.rows]),(115,AV.agg [AV.sl [],AV.sl (List.map (fun n=>[iv n]) del),AV.sl []]),(116,AV.tup [AV.agg [sv x.sch.name,ZC x.sch.cols,iv x.next,ZW x.rows],iv g]),(117,AV.agg [sv x.sch.name,ZC x.sch.cols,iv x.next,ZW x.rows]),(118,iv g)] [Blk.box [iv ac.kind,sv ac.table,AV.sl (List.map (fun r=>[AV.sl (zad r)]) ac.rows),AV.sl (zah ac.query),ZE ac.sets,AV.sl (zad ac.wh),sv ac.text],Blk.box [AV.sl [],AV.sl (List.map (fun n=>[iv n]) del),AV.sl []],Blk.row Ty.Table (List.map Tb.cells m) false,Blk.row Ty.int (List.map (fun n=>[iv n]) ps) true,Blk.box [tsl m,AV.sl [],AV.sl [],sv t.sch.name,ZC t.sch.cols,AV.sl (List.map (fun n=>[iv n]) ps),AV.own 6 0],Blk.box [sv t.sch.name,ZC t.sch.cols,iv t.next,ZW t.rows],Blk.row Ty.int [] false,Blk.box [sv x.sch.name,ZC x.sch.cols,iv x.next,ZW x.rows]]]
  cases h2:g != 0
  ·exact ⟨(List.map Tb.cells m).set a [sv x.sch.name,ZC x.sch.cols,iv x.next,ZW x.rows],ps,(del.length:Int),0,zhk,(by (try simp only [zsl,xCol,xLit,xBin,xNeg,Ac.cells,Se.cells,Pr.cells,Ch.cells,Rw.cells]);exact wk At.AF ([sqx (m.length=((List.map Tb.cells m).set a [sv x.sch.name,ZC x.sch.cols,iv x.next,ZW x.rows]).length/\True/\0=0/\True/\True/\True)]++(p_2++[sb h2,sqx (OwnAt (List.map Tb.cells m) m.length (a:Int)),sx (.el t.cells) (And.intro (owed (p:=True/\True/\True/\True/\True)) (zdQ Tb.cells (n:=m.length) Zs hx)),sd []])) kr)⟩
  ·exact ⟨[],[],0,g,zhk,wk At.AF (p_2++[sb h2]) kr⟩
 ·exact ⟨List.map Tb.cells m,ps,0,0,zhk,wk At.AF ([sqx (m.length=(List.map Tb.cells m).length/\ps.length=(List.map zaN ps).length/\True/\True/\True/\True)]++(p_1++[sb h1,sc (zbJ ps zby)])) kr⟩
theorem zyz (m:List Tb) (ac:Ac) (t x:Tb) (a:Nat) (upd:List Pr) (g:Int) (asg:List Str) (ps:List Int) (hml:m.length<=1000) (hx:m[a]?=some t) (hal:a < m.length) (hfd:zab E0 S.Cc [tsl m,sv ac.table] [] (iv (a:Nat)) []) (hn:decide (((a:Nat):Int) < 0)=false) (hC:zab E0 S.Ai [ac.av,.sl [],tsl (m++[])] [] (.tup [.agg [.nl,.nl,.own 4 upd.length],iv 0]) [.box ac.cells,.box [.nl,.nl,.own 4 upd.length],.box t.sch.cells,.box [.nl,.nl,.own 4 upd.length],.row Ty.Pair (upd.map Pr.cells) false]) (w1:IntKind.i64.wrap (0+((upd.length:Nat):Int))=((upd.length:Nat):Int)) (w2:IntKind.i64.wrap (((upd.length:Nat):Int)+0)=((upd.length:Nat):Int)) (hd:∀ t∈m,zac t.sch.cols/\zac t.rows/\∀ r∈t.rows,zac r.vals) (hAs:zab E0 S.A9 [ac.av] [] (ssl asg) []) (hr:zac t.rows) (hds:zac upd) (hS:∀ p∈upd,zac p.old/\zac p.nw) (hp:Room ps) (hA:zab E0 S.AV [t.av,.agg [.sl [],.sl [],.sl (upd.map Pr.cells)]] [] (.tup [x.av,iv g]) []):∃ (r:List (List AV)) (lf:List Int) (n e:Int),RunO m a x g ps upd.length r lf n e/\zab E0 S.AF [tsl m,.sl [],.sl [],ac.av,.sl [],.sl [],isl ps] [] (.tup [.sl r,isl lf,.sl [],iv n,iv e]) []:=by
 let p_1:List St:=[sc hfd,sc (zb7 m ([]) zby zby),sb Zf,sc hC,sb Zf,sqx (upd.length=(List.map Pr.cells upd).length),si w1,si w2,sc (zdN m zby zby)]
 cases h1:(upd.length:Int)==0
 ·let p_2:List St:=p_1++[sb h1,sc hAs,sc (zbn ac.table ac.kind asg false),sc (zc3 m),sb Zf,sd [(11,[se (zae Tb.cells hx rfl)]),(7,[sc (zbn ac.table ac.kind asg true)]),(15,[sc (zbJ ps zby)])],se (zae Tb.cells hx rfl),sl [9,8,6,5] (zhZ m t.sch t ps upd zby zby zby zby),sb Zf,sdm [(2,[se (zae Tb.cells hx rfl)]),(5,[skx ((True/\True/\True/\True/\True)/\(True/\True/\upd.length=(List.map Pr.cells upd).length/\True)/\True) [] hA])] 0 [(0,tsl m),(1,AV.sl []),(2,AV.sl []),(3,AV.agg [iv ac.kind,sv ac.table,AV.sl (List.map (fun r=>[AV.sl (zad r)]) ac.rows),AV.sl (zah ac.query),ZE ac.sets,AV.sl (zad ac.wh),sv ac.text]),(4,AV.sl []),(5,AV.sl []),(6,AV.sl (List.map (fun n=>[iv n]) ps)),(10,AV.p 0 0),(14,AV.nl),(15,AV.nl),(16,AV.nl),(17,iv 0),(18,iv 0),(19,iv (a:Int)),(20,tsl (m++[])),(21,AV.p 6 0),(22,iv g),(23,iv (upd.length:Int)),(24,AV.own 7 m.length),(25,AV.sl (List.map (fun s=>[sv s]) asg)),(26,iv 0),(27,AV.p 9 0),(28,iv 0),(29,AV.p 12 0),(30,tsl m),(31,AV.p 0 1),(32,sv ac.table),(33,iv (a:Int)),(34,tsl m),(35,AV.sl []),(36,AV.sl [[tsl m],[AV.sl []]]),(37,tsl (m++[])),(38,iv (a:Int)),(39,AV.bl false),(41,AV.tup [AV.agg [AV.nl,AV.nl,AV.own 5 upd.length],iv 0]),(42,AV.agg [iv ac.kind,sv ac.table,AV.sl (List.map (fun r=>[AV.sl (zad r)]) ac.rows),AV.sl (zah ac.query),ZE ac.sets,AV.sl (zad ac.wh),sv ac.text]),(43,AV.sl []),(44,tsl (m++[])),(45,AV.tup [AV.agg [AV.nl,AV.nl,AV.own 5 upd.length],iv 0]),(46,AV.agg [AV.nl,AV.nl,AV.own 5 upd.length]),(47,iv 0),(48,iv 0),(49,AV.bl false),(51,AV.p 6 1),(52,AV.nl),(53,iv 0),(54,AV.p 6 2),(55,AV.own 5 upd.length),(56,iv (upd.length:Int)),(57,iv (upd.length:Int)),(58,AV.p 6 0),(59,AV.nl),(60,iv 0),(61,iv (upd.length:Int)),(62,tsl m),(63,AV.own 7 m.length),(64,iv (upd.length:Int)),(65,AV.bl false),(69,AV.agg [iv ac.kind,sv ac.table,AV.sl (List.map (fun r=>[AV.sl (zad r)]) ac.rows),AV.sl (zah ac.query),ZE ac.sets,AV.sl (zad ac.wh),sv ac.text]),(70,AV.sl (List.map (fun s=>[sv s]) asg)),(71,AV.sl []),(72,AV.p 0 1),(73,sv ac.table),(74,AV.p 0 0),(75,iv ac.kind),(76,AV.sl (List.map (fun s=>[sv s]) asg)),(77,AV.sl []),(78,tsl m),(79,iv 0),(80,iv 0),(81,AV.bl false),(83,tsl m),(84,AV.sl []),(85,AV.p 0 1),(86,sv ac.table),(87,AV.p 0 0),(88,iv ac.kind),(89,AV.sl (List.map (fun s=>[sv s]) asg)),(90,AV.sl []),(91,AV.sl []),(92,tsl m),(93,iv (a:Int)),(94,AV.dp [sv t.sch.name,ZC t.sch.cols,iv t.next,ZW t.rows]),(95,AV.dp [sv t.sch.name,ZC t.sch.cols,iv t.next,ZW t.rows]),(96,AV.agg [sv t.sch.name,ZC t.sch.cols]),(97,AV.sl (List.map (fun n=>[iv n]) ps)),(98,AV.own 8 ps.length),(99,AV.agg [tsl m,AV.sl [],AV.sl [],sv t.sch.name,ZC t.sch.cols,AV.own 8 ps.length,AV.nl]),(100,AV.p 9 0),(101,AV.p 9 0),(102,tsl m),(103,iv (a:Int)),(104,AV.dp [sv t.sch.name,ZC t.sch.cols,iv t.next,ZW t.rows]),(105,AV.agg [sv t.sch.name,ZC t.sch.cols,iv t.next,ZW t.rows]),(106,iv 0),(107,iv 0),(108,AV.bl false),(110,AV.tup [AV.agg [sv x.sch.name,ZC x.sch.cols,iv x.next,ZW x.rows],iv g]),(111,tsl m),(112,iv (a:Int)),(113,AV.dp [sv t.sch.name,ZC t.sch.cols,iv t.next,ZW t.rows]),(114,AV.agg [sv t.sch.name,ZC t.sch.cols,iv t.next,ZW t.rows]),(115,AV.agg [AV.nl,AV.nl,AV.own 5 upd.length]),(116,AV.tup [AV.agg [sv x.sch.name,ZC x.sch.cols,iv x.next,ZW x.rows],iv g]),(117,AV.agg [sv x.sch.name,ZC x.sch.cols,iv x.next,ZW x.rows]),(118,iv g)] [Blk.box [iv ac.kind,sv ac.table,AV.sl (List.map (fun r=>[AV.sl (zad r)]) ac.rows),AV.sl (zah ac.query),ZE ac.sets,AV.sl (zad ac.wh),sv ac.text],Blk.box [iv ac.kind,sv ac.table,AV.sl (List.map (fun r=>[AV.sl (zad r)]) ac.rows),AV.sl (zah ac.query),ZE ac.sets,AV.sl (zad ac.wh),sv ac.text],Blk.box [AV.nl,AV.nl,AV.own 5 upd.length],Blk.box [sv t.sch.name,ZC t.sch.cols],Blk.box [AV.nl,AV.nl,AV.own 5 upd.length],Blk.row Ty.Pair (List.map Pr.cells upd) true,Blk.box [AV.nl,AV.nl,AV.own 5 upd.length],Blk.row Ty.Table (List.map Tb.cells m) false,Blk.row Ty.int (List.map (fun n=>[iv n]) ps) true,Blk.box [tsl m,AV.sl [],AV.sl [],sv t.sch.name,ZC t.sch.cols,AV.sl (List.map (fun n=>[iv n]) ps),AV.own 11 0],Blk.box [sv t.sch.name,ZC t.sch.cols,iv t.next,ZW t.rows],Blk.row Ty.int [] false,Blk.box [sv x.sch.name,ZC x.sch.cols,iv x.next,ZW x.rows]]]
  cases h2:g != 0
  ·exact ⟨(List.map Tb.cells m).set a [sv x.sch.name,ZC x.sch.cols,iv x.next,ZW x.rows],ps,(upd.length:Int),0,zhk,(by (try simp only [zsl,xCol,xLit,xBin,xNeg,Ac.cells,Se.cells,Pr.cells,Ch.cells,Rw.cells]);exact wk At.AF ([sqx (m.length=((List.map Tb.cells m).set a [sv x.sch.name,ZC x.sch.cols,iv x.next,ZW x.rows]).length/\True/\0=0/\True/\True/\True)]++(p_2++[sb h2,sqx (OwnAt (List.map Tb.cells m) m.length (a:Int)),sx (.el t.cells) (And.intro (owed (p:=True/\True/\True/\True/\True)) (zdQ Tb.cells (n:=m.length) Zs hx)),sd []])) kr)⟩
  ·exact ⟨[],[],0,g,zhk,wk At.AF (p_2++[sb h2]) kr⟩
 ·exact ⟨List.map Tb.cells m,ps,0,0,zhk,wk At.AF ([sqx (m.length=(List.map Tb.cells m).length/\ps.length=(List.map zaN ps).length/\True/\True/\True/\True)]++(p_1++[sb h1,sc (zbJ ps zby)])) kr⟩
theorem zyy (m:List Tb) (ac:Ac) (t x:Tb) (a:Nat) (ins:List (List V)) (g:Int) (asg:List Str) (ps:List Int) (hml:m.length<=1000) (hx:m[a]?=some t) (hal:a < m.length) (hfd:zab E0 S.Cc [tsl m,sv ac.table] [] (iv (a:Nat)) []) (hn:decide (((a:Nat):Int) < 0)=false) (hC:zab E0 S.Ai [ac.av,.sl [],tsl (m++[])] [] (.tup [.agg [.own 5 ins.length,.nl,.nl],iv 0]) [.box ac.cells,.box [.own 5 ins.length,.nl,.nl],.box t.sch.cells,.box ac.cells,.box t.sch.cells,.row Ty.LValue (ins.map vrow) false]) (hd:∀ t∈m,zac t.sch.cols/\zac t.rows/\∀ r∈t.rows,zac r.vals) (hAs:zab E0 S.A9 [ac.av] [] (ssl asg) []) (hr:zac t.rows) (hds:ins.length<=1000000) (hS:∀ p∈ins,zac p) (hp:Room ps) (hA:zab E0 S.AV [t.av,.agg [.sl (ins.map vrow),.sl [],.sl []]] [] (.tup [x.av,iv g]) []):∃ (r:List (List AV)) (lf:List Int) (n e:Int),RunO m a x g ps (0+0+ins.length) r lf n e/\zab E0 S.AF [tsl m,.sl [],.sl [],ac.av,.sl [],.sl [],isl ps] [] (.tup [.sl r,isl lf,.sl [],iv n,iv e]) []:=by
 let p_1:List St:=[sc hfd,sc (zb7 m ([]) zby zby),sb Zf,sc hC,sb Zf,si (zbB (t:=0+0) (n:=0+0) Zo Zo),sqx (ins.length=(List.map vrow ins).length),si (zbB (t:=(↑(0+0):Int)+(ins.length:Int)) (n:=0+0+ins.length) Zo Zo),sc (zdN m zby zby)]
 cases h1:(↑(0+0+ins.length):Int)==0
 ·let p_2:List St:=p_1++[sb h1,sc hAs,sc (zbn ac.table ac.kind asg false),sc (zc3 m),sb Zf,sd [(11,[se (zae Tb.cells hx rfl)]),(7,[sc (zbn ac.table ac.kind asg true)]),(15,[sc (zbJ ps zby)])],se (zae Tb.cells hx rfl),sl [10,9,7,6] (zhY m t.sch t ps ins zby zby zby zby),sb Zf,sdm [(2,[se (zae Tb.cells hx rfl)]),(5,[skx ((True/\True/\True/\True/\True)/\(ins.length=(List.map vrow ins).length/\True/\True/\True)/\True) [] hA])] 0 [(0,tsl m),(1,AV.sl []),(2,AV.sl []),(3,AV.agg [iv ac.kind,sv ac.table,AV.sl (List.map (fun r=>[AV.sl (zad r)]) ac.rows),AV.sl (zah ac.query),ZE ac.sets,AV.sl (zad ac.wh),sv ac.text]),(4,AV.sl []),(5,AV.sl []),(6,AV.sl (List.map (fun n=>[iv n]) ps)),(10,AV.p 0 0),(14,AV.nl),(15,AV.nl),(16,AV.nl),(17,iv 0),(18,iv 0),(19,iv (a:Int)),(20,tsl (m++[])),(21,AV.p 7 0),(22,iv g),(23,iv (↑(0+0+ins.length):Int)),(24,AV.own 8 m.length),(25,AV.sl (List.map (fun s=>[sv s]) asg)),(26,iv 0),(27,AV.p 10 0),(28,iv 0),(29,AV.p 13 0),(30,tsl m),(31,AV.p 0 1),(32,sv ac.table),(33,iv (a:Int)),(34,tsl m),(35,AV.sl []),(36,AV.sl [[tsl m],[AV.sl []]]),(37,tsl (m++[])),(38,iv (a:Int)),(39,AV.bl false),(41,AV.tup [AV.agg [AV.own 6 ins.length,AV.nl,AV.nl],iv 0]),(42,AV.agg [iv ac.kind,sv ac.table,AV.sl (List.map (fun r=>[AV.sl (zad r)]) ac.rows),AV.sl (zah ac.query),ZE ac.sets,AV.sl (zad ac.wh),sv ac.text]),(43,AV.sl []),(44,tsl (m++[])),(45,AV.tup [AV.agg [AV.own 6 ins.length,AV.nl,AV.nl],iv 0]),(46,AV.agg [AV.own 6 ins.length,AV.nl,AV.nl]),(47,iv 0),(48,iv 0),(49,AV.bl false),(51,AV.p 7 1),(52,AV.nl),(53,iv 0),(54,AV.p 7 2),(55,AV.nl),(56,iv 0),(57,iv (↑(0+0):Int)),(58,AV.p 7 0),(59,AV.own 6 ins.length),(60,iv (ins.length:Int)),(61,iv (↑(0+0+ins.length):Int)),(62,tsl m),(63,AV.own 8 m.length),(64,iv (↑(0+0+ins.length):Int)),(65,AV.bl false),(69,AV.agg [iv ac.kind,sv ac.table,AV.sl (List.map (fun r=>[AV.sl (zad r)]) ac.rows),AV.sl (zah ac.query),ZE ac.sets,AV.sl (zad ac.wh),sv ac.text]),(70,AV.sl (List.map (fun s=>[sv s]) asg)),(71,AV.sl []),(72,AV.p 0 1),(73,sv ac.table),(74,AV.p 0 0),(75,iv ac.kind),(76,AV.sl (List.map (fun s=>[sv s]) asg)),(77,AV.sl []),(78,tsl m),(79,iv 0),(80,iv 0),(81,AV.bl false),(83,tsl m),(84,AV.sl []),(85,AV.p 0 1),(86,sv ac.table),(87,AV.p 0 0),(88,iv ac.kind),(89,AV.sl (List.map (fun s=>[sv s]) asg)),(90,AV.sl []),(91,AV.sl []),(92,tsl m),(93,iv (a:Int)),(94,AV.dp [sv t.sch.name,ZC t.sch.cols,iv t.next,ZW t.rows]),(95,AV.dp [sv t.sch.name,ZC t.sch.cols,iv t.next,ZW t.rows]),(96,AV.agg [sv t.sch.name,ZC t.sch.cols]),(97,AV.sl (List.map (fun n=>[iv n]) ps)),(98,AV.own 9 ps.length),(99,AV.agg [tsl m,AV.sl [],AV.sl [],sv t.sch.name,ZC t.sch.cols,AV.own 9 ps.length,AV.nl]),(100,AV.p 10 0),(101,AV.p 10 0),(102,tsl m),(103,iv (a:Int)),(104,AV.dp [sv t.sch.name,ZC t.sch.cols,iv t.next,ZW t.rows]),(105,AV.agg [sv t.sch.name,ZC t.sch.cols,iv t.next,ZW t.rows]),(106,iv 0),(107,iv 0),(108,AV.bl false),(110,AV.tup [AV.agg [sv x.sch.name,ZC x.sch.cols,iv x.next,ZW x.rows],iv g]),(111,tsl m),(112,iv (a:Int)),(113,AV.dp [sv t.sch.name,ZC t.sch.cols,iv t.next,ZW t.rows]),(114,AV.agg [sv t.sch.name,ZC t.sch.cols,iv t.next,ZW t.rows]),(115,AV.agg [AV.own 6 ins.length,AV.nl,AV.nl]),(116,AV.tup [AV.agg [sv x.sch.name,ZC x.sch.cols,iv x.next,ZW x.rows],iv g]),(117,AV.agg [sv x.sch.name,ZC x.sch.cols,iv x.next,ZW x.rows]),(118,iv g)] [Blk.box [iv ac.kind,sv ac.table,AV.sl (List.map (fun r=>[AV.sl (zad r)]) ac.rows),AV.sl (zah ac.query),ZE ac.sets,AV.sl (zad ac.wh),sv ac.text],Blk.box [iv ac.kind,sv ac.table,AV.sl (List.map (fun r=>[AV.sl (zad r)]) ac.rows),AV.sl (zah ac.query),ZE ac.sets,AV.sl (zad ac.wh),sv ac.text],Blk.box [AV.own 6 ins.length,AV.nl,AV.nl],Blk.box [sv t.sch.name,ZC t.sch.cols],Blk.box [iv ac.kind,sv ac.table,AV.sl (List.map (fun r=>[AV.sl (zad r)]) ac.rows),AV.sl (zah ac.query),ZE ac.sets,AV.sl (zad ac.wh),sv ac.text],Blk.box [sv t.sch.name,ZC t.sch.cols],Blk.row Ty.LValue (List.map vrow ins) true,Blk.box [AV.own 6 ins.length,AV.nl,AV.nl],Blk.row Ty.Table (List.map Tb.cells m) false,Blk.row Ty.int (List.map (fun n=>[iv n]) ps) true,Blk.box [tsl m,AV.sl [],AV.sl [],sv t.sch.name,ZC t.sch.cols,AV.sl (List.map (fun n=>[iv n]) ps),AV.own 12 0],Blk.box [sv t.sch.name,ZC t.sch.cols,iv t.next,ZW t.rows],Blk.row Ty.int [] false,Blk.box [sv x.sch.name,ZC x.sch.cols,iv x.next,ZW x.rows]]]
  cases h2:g != 0
  ·exact ⟨(List.map Tb.cells m).set a [sv x.sch.name,ZC x.sch.cols,iv x.next,ZW x.rows],ps,(↑(0+0+ins.length):Int),0,zhk,(by (try simp only [zsl,xCol,xLit,xBin,xNeg,Ac.cells,Se.cells,Pr.cells,Ch.cells,Rw.cells]);exact wk At.AF ([sqx (m.length=((List.map Tb.cells m).set a [sv x.sch.name,ZC x.sch.cols,iv x.next,ZW x.rows]).length/\True/\0=0/\True/\True/\True)]++(p_2++[sb h2,sqx (OwnAt (List.map Tb.cells m) m.length (a:Int)),sx (.el t.cells) (And.intro (owed (p:=True/\True/\True/\True/\True)) (zdQ Tb.cells (n:=m.length) Zs hx)),sd []])) kr)⟩
  ·exact ⟨[],[],0,g,zhk,wk At.AF (p_2++[sb h2]) kr⟩
 ·exact ⟨List.map Tb.cells m,ps,0,0,zhk,wk At.AF ([sqx (m.length=(List.map Tb.cells m).length/\ps.length=(List.map zaN ps).length/\True/\True/\True/\True)]++(p_1++[sb h1,sc (zbJ ps zby)])) kr⟩
theorem zm3 {p:Prop} (h:p:=by first|assumption|omega|(simp;done)|(simp;omega)):p:=h
structure RwV (t:Tb) (ids gone:List Int):Prop where
 asc:ids.Pairwise fun a b=>a < b
 inn:∀ d∈ids,(get6 d t.rows).2=true/\anyI gone d=false
 len:ids.length<=100000
noncomputable def zrB (t:Tb) (ids gone:List Int) (i:Nat) :Cfg:=zag B.Cg 0 [(1,isl ids),(2,isl gone),(3,.p 0 0),(11,isl ids),(12,iv ((ids.map zaN).length:Nat)),(13,iv (i:Nat))] [.box t.cells]
theorem zj6 (t:Tb) (ids gone:List Int) (hs:zac t.rows) (hvs:∀ r∈t.rows,zac r.vals) (hg:zac gone) (hc:RwV t ids gone) (i:Nat)  (hi:i<=(ids).length) (hI:1<=i):(1<=(ids).length)/\(decide ((((ids).length:Nat):Int) < (((ids.map zaN).length:Nat):Int))=false)/\∀ R,Good E0 B.Cg [] (zrB t ids gone (ids).length ) R->Good E0 B.Cg [] (zrB t ids gone i ) R:=by
 have hk:=hi;revert i;refine zlp ((ids).length) (fun i hlt ih hi hI _=>?_)
 obtain ⟨x,hx,h0,hw⟩:=zlq (l:=ids) ((ids.map zaN).length) hlt (by (have:=hc.len;omega))
 have a1:(!(get6 x t.rows).2)=false:=(by rw [(hc.inn x (List.mem_of_getElem? hx)).1];rfl);have a5:decide ((0:Int) < ((i:Nat):Int))=true:=Zp;have hil:=zbu hx;have hld:=hc.len
 have a4:∀ y,AtI ids (IntKind.i64.wrap (((i:Nat):Int) - 1)) y->decide (x<=y)=false:=fun y hy=>zog (f:=fun z=>z) hc.asc hx hI Zo hy
 have a8:anyI gone x=false:=(hc.inn x (List.mem_of_getElem? hx)).2
 obtain ⟨x1,e1⟩:=zjH (l:=ids) (i:=IntKind.i64.wrap ((i:Int) - (1:Int))) (by exact zom hx hI Zo)
 obtain ⟨qZ,xZ,gZ⟩:=ih Zo Zo Zo;exact ⟨qZ,xZ,fun R hg=>zaa (wkl [sb h0,se (zae (fun n=>[iv n]) hx rfl),sc (zi2 t x zm3 zm3),sg a1,sg a5,si (e:=IntKind.i64.wrap ((i:Int) - 1)) rfl,se (zdb (fun n=>[iv n]) e1 rfl),sg (a4 x1 e1),sc (zbE gone x zm3),sb a8,si hw] [1,2,3,11,12,13] 1 kr (gZ R hg))⟩
theorem zjc (t:Tb) (ids gone:List Int) (hs:zac t.rows) (hvs:∀ r∈t.rows,zac r.vals) (hg:zac gone) (hc:RwV t ids gone):decide (((ids.length:Nat):Int) < (((ids.map zaN).length:Nat):Int))=false/\∀ R,Good E0 B.Cg [] (zrB t ids gone ids.length) R->Good E0 B.Cg [] (zrB t ids gone 0) R:=by
 cases hrw:ids with
 | nil=>exact ⟨by simp,fun R h=>h⟩
 | cons x r =>
  have hx:ids[0]?=some x:=by rw [hrw];rfl
  obtain ⟨_,h1,h2⟩:=zj6 t ids gone hs hvs hg hc 1 (by rw [hrw];simp) (Nat.le_refl 1)
  rw [← hrw]
  refine ⟨h1,fun R h=>?_⟩
  have hgg:=h2 R h
  have h0:decide (((0:Nat):Int) < (((ids.map zaN).length:Nat):Int))=true:=by rw [hrw];simp
  have a1:(!(get6 x t.rows).2)=false:=(by rw [(hc.inn x (List.mem_of_getElem? hx)).1];rfl)
  have a8:anyI gone x=false:=(hc.inn x (List.mem_of_getElem? hx)).2
  refine zaa ?_
  exact wkl [sb h0,se (zae (fun n=>[iv n]) hx rfl),sc (zi2 t x zm3 zm3),sg a1,sb Zf,sc (zbE gone x zm3),sb a8,si (zbB (t:=(↑0:Int)+1) (n:=0+1) Zo Zo)] [1,2,3,11,12,13] 1 kr (hgg)
theorem zsx (t:Tb) (ids gone:List Int) (hs:zac t.rows) (hvs:∀ r∈t.rows,zac r.vals) (hg:zac gone) (hc:RwV t ids gone):∃ (r:Bool),r=true/\zab E0 S.Cg [t.av,isl ids,isl gone] [] (bv r) []:=by
 obtain ⟨q1,g1⟩:=zjc t ids gone Za Za Za Za
 exact ⟨true,Zr,wkc At.Cg [] [1,2,3,11,12,13] 1 kr (g1 _ (zaa (wkr [sb q1] kr)))⟩
theorem zjM (t:Tb) (ids gone:List Int) (hs:zac t.rows) (hvs:∀ r∈t.rows,zac r.vals) (hg:zac gone) (hc:RwV t ids gone):zab E0 S.Cg [t.av,isl ids,isl gone] [] (bv true) []:=by
 obtain ⟨r,rfl,h⟩:=zsx t ids gone hs hvs hg hc
 exact h
theorem zcX {p:Prop} (h:p:=by first|assumption|rfl|exact hc.rwD|exact hc.rwU ‹_›|omega|(simp [zac];done)):p:=h
theorem zdH {p:Prop} (h:p:=by first|assumption|omega|(simp;done)|(simp;omega)):p:=h
theorem zxY {p:Prop} (h:p:=by first|exact fc_u ‹_›|exact fc_i ‹_› ‹_›|exact fc_0 ‹_› ‹_›):p:=h
theorem ChV.rwD {t:Tb} {c:Ch} (h:ChV t c):RwV t c.del []:=⟨h.del,fun d hd=>⟨h.delIn d hd,rfl⟩,h.ld⟩
theorem ChV.rwU {t:Tb} {c:Ch} (h:ChV t c) {ids:List Int} (hi:ids=(c.upd.take c.upd.length).map Pr.id):RwV t ids c.del:=by
 rw [List.take_length] at hi
 subst hi
 refine ⟨List.pairwise_map.2 h.upd,fun d hd=>?_,by rw [List.length_map];exact h.lu⟩
 obtain ⟨p,hp,rfl⟩:=List.mem_map.1 hd
 have:=h.updIn p hp
 exact ⟨by rw [this.1],this.2.1⟩
theorem zhU (l:List V) (hl:zac l):zab E0 S.AX [vsl l,vsl l] [] (bv true) []:=by
 obtain ⟨r,rfl,h⟩:=ze6 l hl
 exact h
noncomputable def L_kvU (t:Tb) (c:Ch) (i:Nat) (ids:List Int):Cfg:=zag B.Ce 0 [(2,.p 0 0),(3,.p 1 0),(5,.own 3 ids.length),(6,.p 2 0),(26,.sl (c.upd.map Pr.cells)),(27,iv ((c.upd.map Pr.cells).length:Nat)),(28,iv (i:Nat))] [.box t.cells,.box c.cells,.box [iv ((t.sch.cols.map Col.cells).length:Nat)],.row Ty.int (ids.map zaN) false]
theorem zjb (t:Tb) (c:Ch) (hl:zac c.upd) (hs:zac t.rows) (hvs:∀ r∈t.rows,zac r.vals) (hvo:∀ p∈c.upd,zac p.old) (hc:ChV t c) (i:Nat) (ids:List Int) (hi:i<=(c.upd).length) (hI:ids=(c.upd.take i).map Pr.id):∃ (ids':List Int),(ids'=(c.upd.take (c.upd).length).map Pr.id)/\(decide ((((c.upd).length:Nat):Int) < (((c.upd.map Pr.cells).length:Nat):Int))=false)/\∀ R,Good E0 B.Ce [] (L_kvU t c (c.upd).length ids') R->Good E0 B.Ce [] (L_kvU t c i ids) R:=by
 have hk:=hi;revert i ids;refine zlp ((c.upd).length) (fun i hlt ih ids hi hI _=>?_)
 obtain ⟨x,hx,h0,hw⟩:=zlq (l:=c.upd) ((c.upd.map Pr.cells).length) hlt
 have hm:=List.mem_of_getElem? hx;have hgt:=zi2 t x.id hs hvs;rw [(hc.updIn x hm).1] at hgt;have he:=zhU x.old (hvo x hm)
 have hn:((((x.nw.map V.cells).length:Nat):Int) != (((t.sch.cols.map Col.cells).length:Nat):Int))=false:=(by have:=(hc.updIn x hm).2.2;simp [this])
 have ho:ids.length<=1000000000:=(by rw [hI,List.length_map,List.length_take];simp only [zac] at hl;omega)
 exact Zih (ih (ids++[x.id]) Zo (by (rw [List.take_add_one,hx,hI,List.map_append];rfl)) Zo) fun R gY=>zaa (wkl [sb h0,se (zae Pr.cells hx rfl),sc hgt,sg Zf,sc he,sg Zf,sb hn,sqA (List.map zaN ids) [[iv x.id]] ids.length 1 8,si hw] [2,3,5,6,26,27,28] 4 kr (zaw 5 3 (List.map zaN ids++[[iv x.id]]) gY (he:=Zcv4) (hm:=Zcv4)))
theorem zsw (t:Tb) (c:Ch) (hv:zab E0 S.B6 [t.av] [] (bv true) []) (hl:zac c.upd) (hd:zac c.del) (hi:zac c.ins) (hs:zac t.rows) (hvs:∀ r∈t.rows,zac r.vals) (hvo:∀ p∈c.upd,zac p.old) (hc:ChV t c) (hw:∀ v∈c.ins,(((v.map V.cells).length:Int) != ((t.sch.cols.map Col.cells).length:Int))=false):∃ (r:Bool),r=true/\zab E0 S.Ce [t.av,c.av] [] (bv r) []:=by
 obtain ⟨ids1,q1,q1_1,g1⟩:=zjb t c zcX zcX zcX zcX zcX 0 ([]) zcX zcX
 exact ⟨!false,Zr,wkcN At.Ce [sc hv,sg Zf,sc (zjM t c.del ([]) zcX zcX zcX zcX),sb Zf] [2,3,5,6,26,27,28] 3 [(.ot 5 Ty.int,4)] kr (g1 _ (zaa (wkr [sb q1_1,skx ((True/\True/\True/\True/\True)/\ids1.length=(List.map zaN ids1).length/\True/\True) [] (zjM t ids1 c.del zcX zcX zcX zcX),sg Zt,sl [2] (ze1 c.ins ((↑(List.map Col.cells t.sch.cols).length:Int)) zcX zcX)] kr)))⟩
theorem znO (t:Tb) (c:Ch) (ht:TabV t) (hc:ChV t c) (hvo:∀ p∈c.upd,zac p.old):zab E0 S.Ce [t.av,c.av] [] (bv true) []:=by
 have h1:=hc.ld;have h2:=hc.lu;have h3:=hc.li
 obtain ⟨r,rfl,h⟩:=zsw t c (znT t ht) (by simp only [zac];omega) (by simp only [zac];omega) (by simp only [zac];omega) ht.shr ht.vals hvo hc (fun v hv=>by simp [hc.ins v hv])
 exact h
noncomputable def zwk (t:Tb) (c:Ch) (i:Nat) :Cfg:=zag B.Bi 0 [(2,.p 0 0),(3,.p 1 0),(12,.sl (c.upd.map Pr.cells)),(13,iv ((c.upd.map Pr.cells).length:Nat)),(14,iv (i:Nat))] [.box t.cells,.box c.cells]
theorem zj5 (t:Tb) (c:Ch) (hl:zac c.upd) (hs:zac t.sch.cols) (hg:∀ p∈c.upd,∀ v∈p.nw,v.Good) (i:Nat)  (hi:i<=(c.upd).length) (hI:zbr t.sch c.upd=zbr t.sch (c.upd.drop i)):((zbr t.sch c.upd=zbr t.sch (c.upd.drop (c.upd).length))/\(decide ((((c.upd).length:Nat):Int) < (((c.upd.map Pr.cells).length:Nat):Int))=false)/\∀ R,Good E0 B.Bi [] (zwk t c (c.upd).length ) R->Good E0 B.Bi [] (zwk t c i ) R)\/(∃ (r:Int),(r≠0/\r=zbr t.sch c.upd)/\Good E0 B.Bi [] (zwk t c i ) (Shut 0 fun rZ hZ=>rZ=(iv r)/\hZ=[])):=by
 have hk:=hi;revert i;refine zlp ((c.upd).length) (fun i hlt ih hi hI _=>?_)
 obtain ⟨x,hx,h0,hw⟩:=zlq (l:=c.upd) ((c.upd.map Pr.cells).length) hlt
 have hgx:=hg x (List.mem_of_getElem? hx)
 let p_1:List St:=[sb h0,se (zae Pr.cells hx rfl),sc (zh0 t.sch x.nw zdH zdH)]
 cases h1:fit5 t.sch x.nw != 0
 ·exact zie2 (ih Zo (by (rw [hI,zam hx];simp only [zbr, *,cond_false])) Zo) fun R gY=>zaa (wkl (p_1++[sb h1,si hw]) [2,3,12,13,14] 2 kr gY)
 ·exact .inr ⟨fit5 t.sch x.nw,(by (refine ⟨by simpa using ‹(fit5 _ _ != 0)=true›,?_⟩;rw [hI,zam hx];simp only [zbr, *,cond_true])),zaa (wkr (p_1++[sb h1]) kr)⟩
noncomputable def zwj (t:Tb) (c:Ch) (i:Nat) :Cfg:=zag B.Bi 1 [(2,.p 0 0),(28,.sl (c.ins.map vrow)),(29,iv ((c.ins.map vrow).length:Nat)),(30,iv (i:Nat))] [.box t.cells,.box c.cells]
theorem zj4 (t:Tb) (c:Ch) (hl:zac c.ins) (hs:zac t.sch.cols) (hg:∀ p∈c.ins,∀ v∈p,v.Good) (i:Nat)  (hi:i<=(c.ins).length) (hI:zbS t.sch c.ins=zbS t.sch (c.ins.drop i)):((zbS t.sch c.ins=zbS t.sch (c.ins.drop (c.ins).length))/\(decide ((((c.ins).length:Nat):Int) < (((c.ins.map vrow).length:Nat):Int))=false)/\∀ R,Good E0 B.Bi [] (zwj t c (c.ins).length ) R->Good E0 B.Bi [] (zwj t c i ) R)\/(∃ (r:Int),(r≠0/\r=zbS t.sch c.ins)/\Good E0 B.Bi [] (zwj t c i ) (Shut 0 fun rZ hZ=>rZ=(iv r)/\hZ=[])):=by
 have hk:=hi;revert i;refine zlp ((c.ins).length) (fun i hlt ih hi hI _=>?_)
 obtain ⟨x,hx,h0,hw⟩:=zlq (l:=c.ins) ((c.ins.map vrow).length) hlt
 have hgx:=hg x (List.mem_of_getElem? hx)
 let p_1:List St:=[sb h0,se (zae vrow hx rfl),sc (zh0 t.sch x zdH zdH)]
 cases h1:fit5 t.sch x != 0
 ·exact zie2 (ih Zo (by (rw [hI,zam hx];simp only [zbS, *,cond_false])) Zo) fun R gY=>zaa (wkl (p_1++[sb h1,si hw]) [2,28,29,30] 2 kr gY)
 ·exact .inr ⟨fit5 t.sch x,(by (refine ⟨by simpa using ‹(fit5 _ _ != 0)=true›,?_⟩;rw [hI,zam hx];simp only [zbS, *,cond_true])),zaa (wkr (p_1++[sb h1]) kr)⟩
def zbA (s:Sch) (c:Ch):Int:=bif zbr s c.upd != 0 then zbr s c.upd else zbS s c.ins
theorem fc_u {s:Sch} {c:Ch} {r:Int} (h:r≠0/\r=zbr s c.upd):r=zbA s c:=by
 have h1:(zbr s c.upd != 0)=true:=by rw [← h.2];simpa using h.1
 unfold zbA;rw [h1];exact h.2
theorem fc_z {s:Sch} {c:Ch} (h:zbr s c.upd=zbr s (c.upd.drop c.upd.length)):(zbr s c.upd != 0)=false:=by
 rw [h,List.drop_length];rfl
theorem fc_i {s:Sch} {c:Ch} {r:Int} (h:zbr s c.upd=zbr s (c.upd.drop c.upd.length)) (h2:r≠0/\r=zbS s c.ins):r=zbA s c:=by
 unfold zbA;rw [fc_z h];exact h2.2
theorem fc_0 {s:Sch} {c:Ch} (h:zbr s c.upd=zbr s (c.upd.drop c.upd.length)) (h2:zbS s c.ins=zbS s (c.ins.drop c.ins.length)):(0:Int)=zbA s c:=by
 unfold zbA;rw [fc_z h,h2,List.drop_length];rfl
theorem zuh (t:Tb) (c:Ch) (hl:zac c.upd) (hi:zac c.ins) (hs:zac t.sch.cols) (hg:∀ p∈c.upd,∀ v∈p.nw,v.Good) (hgi:∀ p∈c.ins,∀ v∈p,v.Good):∃ (r:Int),r=zbA t.sch c/\zab E0 S.Bi [t.av,c.av] [] (iv r) []:=by
 rcases zj5 t c zdH zdH zdH 0 zdH zdH with ⟨q1,q1_1,g1⟩|⟨r1_0,p1_0,g1⟩
 ·rcases zj4 t c zdH zdH zdH 0 zdH zdH with ⟨q2,q2_1,g2⟩|⟨r2_0,p2_0,g2⟩
  ·exact ⟨0,zxY,wkc At.Bi [] [2,3,12,13,14] 2 kr (g1 _ (zaa (wkl [sb q1_1] [2,28,29,30] 2 kr (g2 _ (zaa (wkr [sb q2_1] kr))))))⟩
  ·exact ⟨r2_0,zxY,wkc At.Bi [] [2,3,12,13,14] 2 kr (g1 _ (zaa (wkl [sb q1_1] [2,28,29,30] 2 kr g2)))⟩
 ·exact ⟨r1_0,zxY,wkc At.Bi [] [2,3,12,13,14] 2 kr (g1)⟩
theorem zp7 (t:Tb) (c:Ch) (hl:zac c.upd) (hi:zac c.ins) (hs:zac t.sch.cols) (hg:∀ p∈c.upd,∀ v∈p.nw,v.Good) (hgi:∀ p∈c.ins,∀ v∈p,v.Good):zab E0 S.Bi [t.av,c.av] [] (iv (zbA t.sch c)) []:=by
 obtain ⟨r,rfl,h⟩:=zuh t c hl hi hs hg hgi
 exact h
def updF (t:Tb) (c:Ch) (i:Nat):List Pr:=c.upd.filter fun p=>(t.rows.take i).all fun y=>decide (y.id < p.id)
theorem updF_0 (t:Tb) (c:Ch):updF t c 0=c.upd:=by
 unfold updF;rw [List.take_zero];exact List.filter_eq_self.2 fun _ _=>rfl
theorem zqY {t:Tb} {c:Ch} {i:Nat} {x:Rw} (hx:t.rows[i]?=some x):updF t c (i+1)=(updF t c i).filter fun p=>decide (x.id < p.id):=by
 unfold updF
 rw [List.filter_filter]
 refine List.filter_congr fun p _=>?_
 rw [List.take_add_one,hx,List.all_append]
 simp [Bool.and_comm]
theorem zvt {n:Int}:∀ {l:List Rw},(get6 n l).2=true->∃ r∈l,r.id=n
 | [],h=>by simp [get6] at h
 | r::l,h=>by
  unfold get6 at h
  cases hr:r.id==n
  ·rw [hr] at h
   obtain ⟨y,hy,e⟩:=zvt (l:=l) h
   exact ⟨y,List.mem_cons_of_mem _ hy,e⟩
  ·exact ⟨r,by simp,by simpa using hr⟩
theorem zn3 {t:Tb} {c:Ch} {i:Nat} {p:Pr} (h:p∈updF t c i):p∈c.upd:=(List.mem_filter.1 h).1
theorem zvV {t:Tb} {c:Ch} (hc:ChV t c) (ha:t.rows.Pairwise fun a b=>a.id < b.id) {i:Nat} {x:Rw} (hx:t.rows[i]?=some x) {p:Pr} (hp:p∈updF t c i):x.id<=p.id:=by
 obtain ⟨h1,h2⟩:=List.mem_filter.1 hp
 obtain ⟨r,hr,e⟩:=zvt (n:=p.id) (l:=t.rows) (by rw [(hc.updIn p h1).1])
 obtain ⟨j,hj⟩:=List.getElem?_of_mem hr
 obtain ⟨a1,a2⟩:=List.getElem?_eq_some_iff.1 hx
 obtain ⟨b1,b2⟩:=List.getElem?_eq_some_iff.1 hj
 by_cases hlt:j < i
 ·have:=List.all_eq_true.1 h2 r (List.mem_iff_getElem?.2 ⟨j,by rw [List.getElem?_take_of_lt hlt];exact hj⟩)
  simp only [decide_eq_true_eq] at this;omega
 ·rcases Nat.lt_or_eq_of_le (Nat.le_of_not_lt hlt) with h|h
  ·have:=List.pairwise_iff_getElem.1 ha i j a1 b1 h
   rw [a2,b2] at this;omega
  ·subst h
   rw [hx] at hj;cases hj;omega
theorem zCb {t:Tb} {c:Ch} (ha:t.rows.Pairwise fun a b=>a.id < b.id) {i:Nat} {x:Rw} (hx:t.rows[i]?=some x) {p:Pr} (hp:p∈c.upd) (e:p.id=x.id):p∈updF t c i:=by
 refine List.mem_filter.2 ⟨hp,List.all_eq_true.2 fun y hy=>?_⟩
 obtain ⟨j,hj⟩:=List.mem_iff_getElem?.1 hy
 have hji:j < i:=by
  have:=(List.getElem?_eq_some_iff.1 hj).1;simp at this;omega
 rw [List.getElem?_take_of_lt hji] at hj
 obtain ⟨a1,a2⟩:=List.getElem?_eq_some_iff.1 hx
 obtain ⟨b1,b2⟩:=List.getElem?_eq_some_iff.1 hj
 have:=List.pairwise_iff_getElem.1 ha j i b1 a1 hji
 rw [a2,b2] at this
 simp only [decide_eq_true_eq];omega
theorem zvW {t:Tb} {c:Ch} (hc:ChV t c) (i:Nat):(updF t c i).Pairwise fun a b=>a.id < b.id:=hc.upd.filter _
theorem zqX {t:Tb} {c:Ch} (hc:ChV t c) (ha:t.rows.Pairwise fun a b=>a.id < b.id) {i:Nat} {x:Rw} (hx:t.rows[i]?=some x) (h:∀ p∈updF t c i,p.id≠x.id):updF t c (i+1)=updF t c i:=by
 rw [zqY hx]
 refine List.filter_eq_self.2 fun p hp=>?_
 have:=zvV hc ha hx hp
 have:=h p hp
 simp only [decide_eq_true_eq];omega
theorem zzB {t:Tb} {c:Ch} (hc:ChV t c) {i:Nat} {x:Rw} (hx:t.rows[i]?=some x) {p:Pr} {r:List Pr} (h:updF t c i=p::r) (e:p.id=x.id):updF t c (i+1)=r:=by
 have hp:=zvW hc i
 rw [zqY hx,h,List.filter_cons]
 rw [h,List.pairwise_cons] at hp
 have h1:decide (x.id < p.id)=false:=by simp;omega
 rw [h1]
 refine List.filter_eq_self.2 fun q hq=>?_
 have:=hp.1 q hq
 simp only [decide_eq_true_eq];omega
theorem zqx {n:Int}:∀ {l:List Pr},(∀ p∈l,p.id≠n)->fnd7 n l=([],false)
 | [],_=>rfl
 | p::r,h=>by
  have h1:(p.id==n)=false:=by simpa using h p Zs
  simp only [fnd7,h1,cond_false]
  exact zqx fun q hq=>h q (by simp [hq])
theorem zqy {n:Int} {p:Pr} (e:p.id=n):∀ {l:List Pr},l.Pairwise (fun a b=>a.id < b.id)->p∈l->fnd7 n l=(p.nw,true)
 | q::r,hp,hm=>by
  rw [List.pairwise_cons] at hp
  simp only [List.mem_cons] at hm
  rcases hm with rfl|hm
  ·simp [fnd7,e]
  ·have:=hp.1 p hm
   have h1:(q.id==n)=false:=by rw [beq_eq_false_iff_ne];omega
   simp only [fnd7,h1,cond_false]
   exact zqy e hp.2 hm
structure KaI (t:Tb) (c:Ch) (i:Nat) (up:List Pr) (rs:List Rw):Prop where
 up:up=updF t c i
 len:rs.length<=i
 rs:rs=midR c (t.rows.take i)
section
variable {t : Tb} {c : Ch} {i : Nat} {up : List Pr} {rs : List Rw} {x : Rw}
theorem KaI.zero (t:Tb) (c:Ch):KaI t c 0 c.upd []:=⟨(updF_0 t c).symm,by simp,rfl⟩
theorem KaI.no (hI:KaI t c i up rs) (hc:ChV t c) (ha:t.rows.Pairwise fun a b=>a.id < b.id) (hx:t.rows[i]?=some x) (h:up=[]\/∃ p,up[0]?=some p/\(p.id==x.id)=false):∀ p∈updF t c i,p.id≠x.id:=by
 have hp:=zvW hc i
 rw [← hI.up] at hp ⊢
 rcases h with rfl|⟨p,h1,h2⟩
 ·simp
 ·cases hu:up with
  | nil=>simp
  | cons q r =>
   rw [hu] at h1 hp
   simp only [List.getElem?_cons_zero,Option.some.injEq] at h1
   subst h1
   rw [List.pairwise_cons] at hp
   have h3:q.id≠x.id:=by simpa using h2
   have h4:=zvV hc ha hx (p:=q) (by rw [← hI.up,hu];simp)
   intro p hp'
   simp only [List.mem_cons] at hp'
   rcases hp' with rfl|hp'
   ·exact h3
   ·have:=hp.1 p hp';omega
theorem KaI.del (hI:KaI t c i up rs) (hc:ChV t c) (ha:t.rows.Pairwise fun a b=>a.id < b.id) (hx:t.rows[i]?=some x) (h:anyI c.del x.id=true):KaI t c (i+1) up rs:=by
 have hn:∀ p∈updF t c i,p.id≠x.id:=fun p hp e=>by
  have:=(hc.updIn p (zn3 hp)).2.1
  rw [e,h] at this;cases this
 have hm:=mid_0 ⟨hI.len,hI.rs⟩ hx h
 exact ⟨by rw [zqX hc ha hx hn];exact hI.up,hm.1,hm.2⟩
theorem KaI.keep (hI:KaI t c i up rs) (hc:ChV t c) (ha:t.rows.Pairwise fun a b=>a.id < b.id) (hx:t.rows[i]?=some x) (hd:anyI c.del x.id=false) (h:up=[]\/∃ p,up[0]?=some p/\(p.id==x.id)=false):KaI t c (i+1) up (rs++[⟨x.id,x.vals⟩]):=by
 have hn:=hI.no hc ha hx h
 have hf:fnd7 x.id c.upd=([],false):=zqx fun p hp e=>hn p (zCb ha hx hp e) e
 have hm:=zxx (v:=x.vals) ⟨hI.len,hI.rs⟩ hx hd (by rw [hf];rfl)
 exact ⟨by rw [zqX hc ha hx hn];exact hI.up,hm.1,hm.2⟩
theorem KaI.upd (hI:KaI t c i up rs) (hc:ChV t c) (hx:t.rows[i]?=some x) (hd:anyI c.del x.id=false) {p:Pr} (h1:up[0]?=some p) (h2:(p.id==x.id)=true):KaI t c (i+1) (up.drop 1) (rs++[⟨x.id,p.nw⟩]):=by
 have e:p.id=x.id:=by simpa using h2
 cases hu:up with
 | nil=>rw [hu] at h1;simp at h1
 | cons q r =>
  rw [hu] at h1
  simp only [List.getElem?_cons_zero,Option.some.injEq] at h1
  subst h1
  have hu2:updF t c i=q::r:=by rw [← hI.up,hu]
  have hf:=zqy e hc.upd (zn3 (by rw [hu2];simp))
  have hm:=zxx (v:=q.nw) ⟨hI.len,hI.rs⟩ hx hd (by rw [hf];rfl)
  exact ⟨by rw [zzB hc hx hu2 e];rfl,hm.1,hm.2⟩
end
theorem zpz {p:Prop} (h:p:=by first|exact apx_f ‹_›|exact apx_l1 hks hli ‹_› ‹_›|exact apx_l2 hn ‹_› ‹_›|exact apx_d ‹_› (noLim hks hli hn ‹_› ‹_›) ‹_› ‹_› ‹_›|exact apx_0 ‹_› (noLim hks hli hn ‹_› ‹_›) ‹_› ‹_› ‹_› (nxt_eq hli hn)):p:=h
theorem zeG {p:Prop} (h:p:=by first|assumption|rfl|exact KaI.zero t c|exact kaJ_0 ‹_›|exact zvy ‹_› hm hli|omega):p:=h
theorem zsd {p:Prop} (h:p:=by first|exact hI.del hks.v hks.asc hx ‹_›|exact hI.keep hks.v hks.asc hx ‹_› (.inl (upd_hd ‹_›))|exact hI.keep2 hks.v hks.asc hx ‹_› ‹_› ‹_› ‹_›|exact hI.upd2 hks.v hx ‹_› ‹_› ‹_› ‹_›):p:=h
theorem zpA {p:Prop} (h:p:=by first|assumption|exact hup.1|exact hup.2|exact hI.nwS hks ‹_›|exact zCc ‹_›|omega):p:=h
theorem upd_hd {up:List Pr} (h:decide ((0:Int) < (((up.map Pr.cells).length:Nat):Int))=false):up=[]:=by
 cases up with
 | nil=>rfl
 | cons a r=>simp at h
theorem zCc {up:List Pr} (h:decide ((0:Int) < (((up.map Pr.cells).length:Nat):Int))=true):0 < up.length:=by simpa using h
theorem bif_t {d b r:Bool} (h:d=true) (h2:(bif d then b else false)=r):b=r:=by rw [h] at h2;exact h2
theorem KaI.upd2 {t:Tb} {c:Ch} {i:Nat} {up:List Pr} {rs:List Rw} {x:Rw} (hI:KaI t c i up rs) (hc:ChV t c) (hx:t.rows[i]?=some x) (hd:anyI c.del x.id=false) {p:Pr} (h1:up[0]?=some p) (h0:decide ((0:Int) < (((up.map Pr.cells).length:Nat):Int))=true) (h2:(bif decide ((0:Int) < (((up.map Pr.cells).length:Nat):Int)) then p.id==x.id else false)=true):KaI t c (i+1) (List.drop 1 (List.take (up.map Pr.cells).length up)) (rs++[⟨x.id,p.nw⟩]):=by
 rw [List.length_map,List.take_length];exact hI.upd hc hx hd h1 (bif_t h0 h2)
theorem KaI.keep2 {t:Tb} {c:Ch} {i:Nat} {up:List Pr} {rs:List Rw} {x:Rw} (hI:KaI t c i up rs) (hc:ChV t c) (ha:t.rows.Pairwise fun a b=>a.id < b.id) (hx:t.rows[i]?=some x) (hd:anyI c.del x.id=false) {p:Pr} (h1:up[0]?=some p) (h0:decide ((0:Int) < (((up.map Pr.cells).length:Nat):Int))=true) (h2:(bif decide ((0:Int) < (((up.map Pr.cells).length:Nat):Int)) then p.id==x.id else false)=false):KaI t c (i+1) up (rs++[⟨x.id,x.vals⟩]):=hI.keep hc ha hx hd (.inr ⟨_,h1,bif_t h0 h2⟩)
structure KaS (t:Tb) (c:Ch):Prop where
 v:ChV t c
 asc:t.rows.Pairwise fun a b=>a.id < b.id
 lr:t.rows.length<=100000
 vs:∀ r∈t.rows,zac r.vals
 nw:∀ p∈c.upd,zac p.nw
theorem KaI.sh {t:Tb} {c:Ch} {i:Nat} {up:List Pr} {rs:List Rw} (hI:KaI t c i up rs) (hs:KaS t c):zac up/\zac c.del:=by
 have h1:=hs.v.lu
 have h2:=hs.v.ld
 have h3:up.length<=c.upd.length:=by rw [hI.up];exact List.length_filter_le _ _
 exact ⟨by simp only [zac];omega,by simp only [zac];omega⟩
theorem KaI.nwS {t:Tb} {c:Ch} {i:Nat} {up:List Pr} {rs:List Rw} (hI:KaI t c i up rs) (hs:KaS t c) {p:Pr} (h:up[0]?=some p):zac p.nw:=hs.nw p (zn3 (by rw [← hI.up];exact List.mem_of_getElem? h))
noncomputable def L_kaV (t:Tb) (c:Ch) (nx:Int) (i:Nat) (up:List Pr) (rs:List Rw):Cfg:=zag B.AV 0 [(2,.p 0 0),(3,.p 1 0),(4,.p 2 0),(7,.p 3 0),(8,.sl (up.map Pr.cells)),(66,.sl (t.rows.map Rw.cells)),(67,iv ((t.rows.map Rw.cells).length:Nat)),(68,iv (i:Nat))] [.box t.cells,.box c.cells,.box [sv ⟨#[]⟩,.nl,iv 0,.nl],.box [sv t.sch.name,.own 4 t.sch.cols.length,iv nx,.own 5 rs.length],.row Ty.Column (t.sch.cols.map Col.cells) false,.row Ty.Row (rs.map Rw.cells) false]
theorem zja (t:Tb) (c:Ch) (nx:Int) (hks:KaS t c) (i:Nat) (up:List Pr) (rs:List Rw) (hi:i<=(t.rows).length) (hI:KaI t c i up rs):∃ (up':List Pr) (rs':List Rw),(KaI t c (t.rows).length up' rs')/\(decide ((((t.rows).length:Nat):Int) < (((t.rows.map Rw.cells).length:Nat):Int))=false)/\∀ R,Good E0 B.AV [] (L_kaV t c nx (t.rows).length up' rs') R->Good E0 B.AV [] (L_kaV t c nx i up rs) R:=by
 have hk:=hi;revert i up rs;refine zlp ((t.rows).length) (fun i hlt ih up rs hi hI _=>?_)
 obtain ⟨x,hx,h0,hw⟩:=zlq (l:=t.rows) ((t.rows.map Rw.cells).length) hlt (by (have:=hks.lr;omega))
 have hvx:=hks.vs x (List.mem_of_getElem? hx);have hup:=hI.sh hks;have hol:rs.length<=1000000000:=(by have:=hI.len;have:=hks.lr;omega)
 let p_1:List St:=[sb h0,se (zae Rw.cells hx rfl),sc (zbE c.del x.id zpA)]
 cases h1:anyI c.del x.id
 ·cases h2:decide (0 < (↑(List.map Pr.cells up).length:Int))
  ·obtain ⟨upZ,rsZ,qZ,xZ,gZ⟩:=ih up (rs++[x]) Zo zsd Zo;exact ⟨upZ,rsZ,qZ,xZ,fun R hg=>zaa (wkl (p_1++[sb h1,sd [(4,[sb h2]),(5,[sb h2]),(6,[sb h2]),(7,[sb h2]),(8,[sb h2]),(9,[sb h2]),(10,[sb h2]),(11,[sb h2])],sd [(5,[sc (zaS x.vals zpA)]),(7,[sqx (True/\x.vals.length=(List.map V.cells x.vals).length/\True)]),(8,[sqA (List.map Rw.cells rs) [[iv x.id,vsl x.vals]] rs.length 2 32])],si hw]) [2,3,4,7,8,66,67,68] 6 kr (zaA rfl (show ([Blk.box [sv t.sch.name,ZC t.sch.cols,iv t.next,ZW t.rows],Blk.box [AV.sl (List.map vrow c.ins),AV.sl (List.map (fun n=>[iv n]) c.del),AV.sl (List.map Pr.cells c.upd)],Blk.box [sv Zs0,AV.nl,iv 0,AV.nl],Blk.box [sv t.sch.name,AV.own 4 t.sch.cols.length,iv nx,AV.own 5 (List.map Rw.cells rs++[[iv x.id,vsl x.vals]]).length],Blk.row Ty.Column (List.map Col.cells t.sch.cols) false,Blk.row Ty.Row (List.map Rw.cells rs++[[iv x.id,vsl x.vals]]) false]:Heap)=_ by first|rfl|(simp [Rw.cells,Tb.cells,Ch.cells,Pr.cells,za8,List.take_of_length_le];done)) (gZ R hg)))⟩
  ·obtain ⟨x3,e3⟩:=za4 (l:=up) (i:=0) zpA
   let p_2:List St:=p_1++[sb h1,sd [(4,[sg h2]),(5,[so h2 (se (zae Pr.cells e3 rfl))]),(6,[sg h2]),(7,[sg h2]),(8,[sg h2]),(9,[sg h2]),(10,[sg h2])]]
   cases h4:bif decide (0 < (↑(List.map Pr.cells up).length:Int)) then x3.id==x.id else false
   ·obtain ⟨upZ,rsZ,qZ,xZ,gZ⟩:=ih up (rs++[x]) Zo zsd Zo;exact ⟨upZ,rsZ,qZ,xZ,fun R hg=>zaa (wkl (p_2++[sb h4,sd [(5,[sc (zaS x.vals zpA)]),(7,[sqx (True/\x.vals.length=(List.map V.cells x.vals).length/\True)]),(8,[sqA (List.map Rw.cells rs) [[iv x.id,vsl x.vals]] rs.length 2 32])],si hw]) [2,3,4,7,8,66,67,68] 6 kr (zaA rfl (show ([Blk.box [sv t.sch.name,ZC t.sch.cols,iv t.next,ZW t.rows],Blk.box [AV.sl (List.map vrow c.ins),AV.sl (List.map (fun n=>[iv n]) c.del),AV.sl (List.map Pr.cells c.upd)],Blk.box [sv Zs0,AV.nl,iv 0,AV.nl],Blk.box [sv t.sch.name,AV.own 4 t.sch.cols.length,iv nx,AV.own 5 (List.map Rw.cells rs++[[iv x.id,vsl x.vals]]).length],Blk.row Ty.Column (List.map Col.cells t.sch.cols) false,Blk.row Ty.Row (List.map Rw.cells rs++[[iv x.id,vsl x.vals]]) false]:Heap)=_ by first|rfl|(simp [Rw.cells,Tb.cells,Ch.cells,Pr.cells,za8,List.take_of_length_le];done)) (gZ R hg)))⟩
   ·obtain ⟨upZ,rsZ,qZ,xZ,gZ⟩:=ih (List.drop 1 (List.take (List.map Pr.cells up).length up)) (rs++[Rw.mk x.id x3.nw]) Zo zsd Zo;exact ⟨upZ,rsZ,qZ,xZ,fun R hg=>zaa (wkl (p_2++[sb h4,sd [(1,[se (zae Pr.cells e3 rfl)]),(5,[sqx (SubAt (List.map Pr.cells up) 1 (↑(List.map Pr.cells up).length:Int) 3)])],sd [(5,[sc (zaS x3.nw zpA)]),(7,[sqx (True/\x3.nw.length=(List.map V.cells x3.nw).length/\True)]),(8,[sqA (List.map Rw.cells rs) [[iv x.id,vsl x3.nw]] rs.length 2 32])],si hw]) [2,3,4,7,8,66,67,68] 6 kr (zaA (show ([(2,AV.p 0 0),(3,AV.p 1 0),(4,AV.p 2 0),(7,AV.p 3 0),(8,AV.sl (List.drop (Int.toNat 1) (List.take (↑(List.map Pr.cells up).length:Int).toNat (List.map Pr.cells up)))),(66,ZW t.rows),(67,iv (↑(List.map Rw.cells t.rows).length:Int)),(68,iv (↑(i+1):Int))]:TS)=_ by first|rfl|(simp [Rw.cells,Tb.cells,Ch.cells,Pr.cells,za8,List.take_of_length_le];done)) (show ([Blk.box [sv t.sch.name,ZC t.sch.cols,iv t.next,ZW t.rows],Blk.box [AV.sl (List.map vrow c.ins),AV.sl (List.map (fun n=>[iv n]) c.del),AV.sl (List.map Pr.cells c.upd)],Blk.box [sv Zs0,AV.nl,iv 0,AV.nl],Blk.box [sv t.sch.name,AV.own 4 t.sch.cols.length,iv nx,AV.own 5 (List.map Rw.cells rs++[[iv x.id,vsl x3.nw]]).length],Blk.row Ty.Column (List.map Col.cells t.sch.cols) false,Blk.row Ty.Row (List.map Rw.cells rs++[[iv x.id,vsl x3.nw]]) false]:Heap)=_ by first|rfl|(simp [Rw.cells,Tb.cells,Ch.cells,Pr.cells,za8,List.take_of_length_le];done)) (gZ R hg)))⟩
 ·obtain ⟨upZ,rsZ,qZ,xZ,gZ⟩:=ih up rs Zo zsd Zo;exact ⟨upZ,rsZ,qZ,xZ,fun R hg=>zaa (wkl (p_1++[sb h1,si hw]) [2,3,4,7,8,66,67,68] 6 kr (gZ R hg))⟩
def zcm (t:Tb) (c:Ch):Prop:=100 < (t.rows.length:Int) - (c.del.length:Int)+(c.ins.length:Int)\/2147483648 - t.next < (c.ins.length:Int)
structure ApX (t:Tb) (c:Ch) (x:Tb) (g:Int):Prop where
 fit:zbA t.sch c≠0->g=zbA t.sch c
 lim:zbA t.sch c=0->zcm t c->g=10
 dup:zbA t.sch c=0->¬ zcm t c->¬ (zcS t c).Nodup->g=9
 ok:zbA t.sch c=0->¬ zcm t c->(zcS t c).Nodup->g=0/\x=apT t c
def KaJ (t:Tb) (c:Ch) (i:Nat) (rs:List Rw):Prop:=rs=midR c t.rows++insN t.next (c.ins.take i)
theorem kaJ_0 {t:Tb} {c:Ch} {up:List Pr} {rs:List Rw} (h:KaI t c t.rows.length up rs):KaJ t c 0 rs:=by
 have h1:=h.rs
 rw [List.take_length] at h1
 unfold KaJ;rw [h1];simp [insN]
theorem zvy {t:Tb} {c:Ch} {rs:List Rw} {i:Nat} (h:KaJ t c i rs) (hm:(midR c t.rows).length<=100000) (hl:c.ins.length<=100000):zac rs:=by
 unfold KaJ at h
 rw [h];simp only [zac];rw [List.length_append,zhO,List.length_take];omega
theorem ztn {t:Tb} {c:Ch} {i:Nat} {rs:List Rw} {x:List V} {z:Int} (hI:KaJ t c i rs) (hx:c.ins[i]?=some x) (hz:z=t.next+(i:Int)):KaJ t c (i+1) (rs++[⟨z,x⟩]):=by
 unfold KaJ at *
 have hl:(c.ins.take i).length=i:=by have:=(List.getElem?_eq_some_iff.1 hx).1;simp;omega
 rw [hI,List.take_add_one,hx,List.append_assoc,hz]
 simp only [Option.toList_some]
 rw [znL,hl]
noncomputable def L_kaJ (t:Tb) (c:Ch) (nx:Int) (i:Nat) (rs:List Rw):Cfg:=zag B.AV 1 [(2,.p 0 0),(4,.p 2 0),(7,.p 3 0),(109,.sl (c.ins.map vrow)),(110,iv ((c.ins.map vrow).length:Nat)),(111,iv (i:Nat))] [.box t.cells,.box c.cells,.box [sv ⟨#[]⟩,.nl,iv 0,.nl],.box [sv t.sch.name,.own 4 t.sch.cols.length,iv nx,.own 5 rs.length],.row Ty.Column (t.sch.cols.map Col.cells) false,.row Ty.Row (rs.map Rw.cells) false]
theorem zi9 (t:Tb) (c:Ch) (nx:Int) (hl:c.ins.length<=100000) (hn:1<=t.next/\t.next<=2147483648) (hvi:∀ r∈c.ins,zac r) (hm:(midR c t.rows).length<=100000) (i:Nat) (rs:List Rw) (hi:i<=(c.ins).length) (hI:KaJ t c i rs):∃ (rs':List Rw),(KaJ t c (c.ins).length rs')/\(decide ((((c.ins).length:Nat):Int) < (((c.ins.map vrow).length:Nat):Int))=false)/\∀ R,Good E0 B.AV [] (L_kaJ t c nx (c.ins).length rs') R->Good E0 B.AV [] (L_kaJ t c nx i rs) R:=by
 have hk:=hi;revert i rs;refine zlp ((c.ins).length) (fun i hlt ih rs hi hI _=>?_)
 obtain ⟨x,hx,h0,hw⟩:=zlq (l:=c.ins) ((c.ins.map vrow).length) hlt Zo
 have hvx:=hvi x (List.mem_of_getElem? hx);have hil:=zbu hx;have hw1:IntKind.i64.wrap (t.next+((i:Nat):Int))=t.next+((i:Nat):Int):=(by rw [IntKind.wrap_i64];omega)
 have hol:rs.length<=1000000000:=(by have:=zvy hI hm hl;exact this)
 exact Zih (ih (rs++[Rw.mk (t.next+(i:Int)) x]) Zo (by first|exact ztn hI hx rfl|exact ztn hI hx hw1) Zo) fun R gY=>zaa (wkl [sb h0,se (zae vrow hx rfl),sd [(5,[si hw1]),(7,[sc (zaS x (by first|assumption|omega|(simp;done)|(simp;omega)))]),(9,[sqx (True/\x.length=(List.map V.cells x).length/\True)]),(10,[sqA (List.map Rw.cells rs) [[iv (t.next+(i:Int)),vsl x]] rs.length 2 32])],si hw] [2,4,7,109,110,111] 6 kr (zaA rfl (show ([Blk.box [sv t.sch.name,ZC t.sch.cols,iv t.next,ZW t.rows],Blk.box [AV.sl (List.map vrow c.ins),AV.sl (List.map (fun n=>[iv n]) c.del),AV.sl (List.map Pr.cells c.upd)],Blk.box [sv Zs0,AV.nl,iv 0,AV.nl],Blk.box [sv t.sch.name,AV.own 4 t.sch.cols.length,iv nx,AV.own 5 (List.map Rw.cells rs++[[iv (t.next+(i:Int)),vsl x]]).length],Blk.row Ty.Column (List.map Col.cells t.sch.cols) false,Blk.row Ty.Row (List.map Rw.cells rs++[[iv (t.next+(i:Int)),vsl x]]) false]:Heap)=_ by first|rfl|(simp [Rw.cells,Tb.cells,Ch.cells,Pr.cells,za8,List.take_of_length_le];done)) gY))
section
variable {t x : Tb} {c : Ch} {g nx : Int} {rs : List Rw} {b : Bool}
theorem apx_f (h:(zbA t.sch c != 0)=true):ApX t c x (zbA t.sch c):=by
 have h1:zbA t.sch c≠0:=by simpa using h
 exact ⟨fun _=>rfl,fun e=>absurd e h1,fun e=>absurd e h1,fun e=>absurd e h1⟩
theorem zwF (h:(zbA t.sch c != 0)=false):zbA t.sch c=0:=by simpa using h
theorem zrI (h0:(zbA t.sch c != 0)=false) (hl:zcm t c):ApX t c x 10 :=
 ⟨fun e=>absurd (zwF h0) e,fun _ _=>rfl,fun _ e=>absurd hl e,fun _ e=>absurd hl e⟩
theorem lim_1 (hr:t.rows.length<=100000) (hd:c.del.length<=100000) (hi:c.ins.length<=100000):IntKind.i64.wrap (IntKind.i64.wrap (((t.rows.map Rw.cells).length:Int) - ((c.del.map fun n=>[iv n]).length:Int))+((c.ins.map vrow).length:Int))=(t.rows.length:Int) - (c.del.length:Int)+(c.ins.length:Int):=by
 simp only [List.length_map,IntKind.wrap_i64];omega
theorem lim_2 (hn:1<=t.next/\t.next<=2147483648):IntKind.i64.wrap (2147483648 - t.next)=2147483648 - t.next:=by
 rw [IntKind.wrap_i64];omega
theorem apx_d (h0:(zbA t.sch c != 0)=false) (hn:¬ zcm t c) (hI:KaJ t c c.ins.length rs) (hb:b=false↔(za0 (idxF (fun z=>z.key) t.sch.cols 0) rs).Nodup) (h:b=true):ApX t c x 9:=by
 unfold KaJ at hI
 rw [List.take_length] at hI
 have h3:¬ (zcS t c).Nodup:=fun e=>by
  unfold zcS at e;rw [← hI] at e
  have:=hb.2 e
  rw [h] at this;cases this
 exact ⟨fun e=>absurd (zwF h0) e,fun _ e=>absurd e hn,fun _ _ _=>rfl,fun _ _ e=>absurd e h3⟩
theorem apx_0 (h0:(zbA t.sch c != 0)=false) (hn:¬ zcm t c) (hI:KaJ t c c.ins.length rs) (hb:b=false↔(za0 (idxF (fun z=>z.key) t.sch.cols 0) rs).Nodup) (h:b=false) (hx:nx=t.next+(c.ins.length:Int)):ApX t c ⟨t.sch,nx,rs⟩ 0:=by
 unfold KaJ at hI
 rw [List.take_length] at hI
 have h3:(zcS t c).Nodup:=by unfold zcS;rw [← hI];exact hb.1 h
 exact ⟨fun e=>absurd (zwF h0) e,fun _ e=>absurd e hn,fun _ _ e=>absurd h3 e,fun _ _ _=>⟨rfl,by unfold apT;rw [hx,hI]⟩⟩
theorem apx_l1 (hks:KaS t c) (hi:c.ins.length<=100000) (h0:(zbA t.sch c != 0)=false) (h:decide ((100:Int) < IntKind.i64.wrap (IntKind.i64.wrap (((t.rows.map Rw.cells).length:Int) - ((c.del.map fun n=>[iv n]).length:Int))+((c.ins.map vrow).length:Int)))=true):ApX t c x 10:=by
 refine zrI h0 (.inl ?_)
 rw [lim_1 hks.lr hks.v.ld hi] at h;simpa using h
theorem apx_l2 (hn:1<=t.next/\t.next<=2147483648) (h0:(zbA t.sch c != 0)=false) (h:decide (IntKind.i64.wrap (2147483648 - t.next) < ((c.ins.map vrow).length:Int))=true):ApX t c x 10:=by
 refine zrI h0 (.inr ?_)
 rw [lim_2 hn,List.length_map] at h;simpa using h
theorem noLim (hks:KaS t c) (hi:c.ins.length<=100000) (hn:1<=t.next/\t.next<=2147483648) (h:decide ((100:Int) < IntKind.i64.wrap (IntKind.i64.wrap (((t.rows.map Rw.cells).length:Int) - ((c.del.map fun n=>[iv n]).length:Int))+((c.ins.map vrow).length:Int)))=false) (h2:decide (IntKind.i64.wrap (2147483648 - t.next) < ((c.ins.map vrow).length:Int))=false):¬ zcm t c:=by
 rw [lim_1 hks.lr hks.v.ld hi,decide_eq_false_iff_not] at h
 rw [lim_2 hn,List.length_map,decide_eq_false_iff_not] at h2
 unfold zcm;omega
theorem nxt_eq (hi:c.ins.length<=100000) (hn:1<=t.next/\t.next<=2147483648):IntKind.i64.wrap (t.next+((c.ins.map vrow).length:Int))=t.next+(c.ins.length:Int):=by
 rw [List.length_map,IntKind.wrap_i64];omega
end
theorem zq8 (t:Tb) (c:Ch) (hks:KaS t c) (hv:zab E0 S.Ce [t.av,c.av] [] (bv true) []) (hf:zab E0 S.Bi [t.av,c.av] [] (iv (zbA t.sch c)) []) (hli:c.ins.length<=100000) (hvi:∀ r∈c.ins,zac r) (hsc:zac t.sch.cols) (hn:1<=t.next/\t.next<=2147483648) (hm:(midR c t.rows).length<=100000):∃ (x:Tb) (g:Int),ApX t c x g/\zab E0 S.AV [t.av,c.av] [] (.tup [x.av,iv g]) []:=by
 let p_1:List St:=[sc hv,sb Zf,sc hf]
 cases h1:zbA t.sch c != 0
 ·let p_2:List St:=p_1++[sb h1,si (e:=IntKind.i64.wrap ((↑(List.map Rw.cells t.rows).length:Int) - (↑(List.map (fun n=>[iv n]) c.del).length:Int))) rfl,si (e:=IntKind.i64.wrap (IntKind.i64.wrap ((↑(List.map Rw.cells t.rows).length:Int) - (↑(List.map (fun n=>[iv n]) c.del).length:Int))+(↑(List.map vrow c.ins).length:Int))) rfl]
  cases h2:decide (100 < IntKind.i64.wrap (IntKind.i64.wrap ((↑(List.map Rw.cells t.rows).length:Int) - (↑(List.map (fun n=>[iv n]) c.del).length:Int))+(↑(List.map vrow c.ins).length:Int)))
  ·let p_3:List St:=p_2++[sg h2,si (e:=IntKind.i64.wrap (2147483648 - t.next)) rfl]
   cases h3:decide (IntKind.i64.wrap (2147483648 - t.next) < (↑(List.map vrow c.ins).length:Int))
   ·obtain ⟨up4,rs4,q4,q4_1,g4⟩:=zja t c (IntKind.i64.wrap (t.next+(↑(List.map vrow c.ins).length:Int))) zeG 0 c.upd ([]) zeG zeG
    obtain ⟨rs5,q5,q5_1,g5⟩:=zi9 t c (IntKind.i64.wrap (t.next+(↑(List.map vrow c.ins).length:Int))) zeG zeG zeG zeG 0 rs4 zeG zeG
    obtain ⟨b6,q6,c6⟩:=(zg0 (Tb.mk t.sch (IntKind.i64.wrap (t.next+(↑(List.map vrow c.ins).length:Int))) rs5) zeG zeG)
    let p_4:List St:=p_3++[sb h3,si (e:=IntKind.i64.wrap (t.next+(↑(List.map vrow c.ins).length:Int))) rfl,sc (zc6 t.sch.cols zeG)]
    rcases (Bool.eq_false_or_eq_true b6).symm with h7|h7
    ·exact ⟨Tb.mk t.sch (IntKind.i64.wrap (t.next+(↑(List.map vrow c.ins).length:Int))) rs5,0,zpz,wkcN At.AV p_4 [2,3,4,7,8,66,67,68] 5 [(.ob 3 3 Ty.Row,6)] kr (g4 _ (zaa (wkl [sb q4_1] [2,4,7,109,110,111] 6 kr (g5 _ (zaa (wkr [sqx ((True/\t.sch.cols.length=(List.map Col.cells t.sch.cols).length/\True/\rs5.length=(List.map Rw.cells rs5).length/\True)/\True/\True),sb q5_1,skx ((True/\t.sch.cols.length=(List.map Col.cells t.sch.cols).length/\True/\rs5.length=(List.map Rw.cells rs5).length/\True)/\True) [] c6,sb h7] kr))))))⟩
    ·exact ⟨Tb.mk (Sch.mk Zs0 []) 0 [],9,zpz,wkcN At.AV p_4 [2,3,4,7,8,66,67,68] 5 [(.ob 3 3 Ty.Row,6)] kr (g4 _ (zaa (wkl [sb q4_1] [2,4,7,109,110,111] 6 kr (g5 _ (zaa (wkr [sb q5_1,skx ((True/\t.sch.cols.length=(List.map Col.cells t.sch.cols).length/\True/\rs5.length=(List.map Rw.cells rs5).length/\True)/\True) [] c6,sb h7] kr))))))⟩
   ·exact ⟨Tb.mk (Sch.mk Zs0 []) 0 [],10,zpz,wk At.AV (p_3++[sb h3]) kr⟩
  ·exact ⟨Tb.mk (Sch.mk Zs0 []) 0 [],10,zpz,wk At.AV (p_2++[sb h2]) kr⟩
 ·exact ⟨Tb.mk (Sch.mk Zs0 []) 0 [],zbA t.sch c,zpz,wk At.AV (p_1++[sb h1]) kr⟩
theorem zbF {p:Prop} (h:p:=by first|assumption|rfl|exact ⟨Nat.zero_le _,rfl⟩|exact apI_0 ‹_›|exact zA8 ‹_› hm hl5|omega):p:=h
theorem zm2 {p:Prop} (h:p:=by first|exact ay_u ‹_›|exact ay_i ‹_› ‹_›|exact ay_l1 hlm ‹_› ‹_› ‹_› hl5 hr5 ‹_›|exact ay_l2 hlm ‹_› ‹_› hn ‹_›|exact apx_d (ay_z ‹_› ‹_›) (ay_no hlm ‹_› hl5 hr5 hn ‹_› ‹_›) (ay_k ‹_›) ‹_› ‹_›|exact apx_0 (ay_z ‹_› ‹_›) (ay_no hlm ‹_› hl5 hr5 hn ‹_› ‹_›) (ay_k ‹_›) ‹_› ‹_› (ay_x ‹_›)):p:=h
def limR (t:Tb) (c:Ch):Prop:=100 < (midR c t.rows).length+c.ins.length\/2147483648 - t.next < (c.ins.length:Int)
section
variable {t x : Tb} {c : Ch} {g nx : Int} {rs rs' : List Rw} {b : Bool}
abbrev FuE (t:Tb) (c:Ch):Prop:=zbr t.sch c.upd=zbr t.sch (c.upd.drop c.upd.length)
abbrev FiE (t:Tb) (c:Ch):Prop:=zbS t.sch c.ins=zbS t.sch (c.ins.drop c.ins.length)
theorem ay_e (h:g≠0) (e:g=zbA t.sch c):ApX t c x g:=⟨fun _=>e,fun z=>absurd (e.trans z) h,fun z=>absurd (e.trans z) h,fun z=>absurd (e.trans z) h⟩
theorem ay_u (h:g≠0/\g=zbr t.sch c.upd):ApX t c x g:=ay_e h.1 (fc_u h)
theorem ay_i (h1:FuE t c) (h:g≠0/\g=zbS t.sch c.ins):ApX t c x g:=ay_e h.1 (fc_i h1 h)
theorem ay_z (h1:FuE t c) (h2:FiE t c):(zbA t.sch c != 0)=false:=by rw [← fc_0 h1 h2];rfl
theorem ay_l1 (hlm:zcm t c↔limR t c) (h1:FuE t c) (h2:FiE t c) (hr:rs.length<=t.rows.length/\rs=midR c (t.rows.take t.rows.length)) (hl:c.ins.length<=100000) (hl2:t.rows.length<=100000) (h:decide ((100:Int) < IntKind.i64.wrap ((rs.length:Int)+((c.ins.map vrow).length:Int)))=true):ApX t c x 10:=by
 refine zrI (ay_z h1 h2) (hlm.2 (.inl ?_))
 rw [List.take_length] at hr
 simp only [decide_eq_true_eq,List.length_map,IntKind.wrap_i64] at h
 rw [← hr.2];omega
theorem ay_l2 (hlm:zcm t c↔limR t c) (h1:FuE t c) (h2:FiE t c) (hn:1<=t.next/\t.next<=2147483648) (h:decide (IntKind.i64.wrap (2147483648 - t.next) < ((c.ins.map vrow).length:Int))=true):ApX t c x 10:=by
 refine zrI (ay_z h1 h2) (hlm.2 (.inr ?_))
 simp only [decide_eq_true_eq,List.length_map,IntKind.wrap_i64] at h
 omega
theorem ay_no (hlm:zcm t c↔limR t c) (hr:rs.length<=t.rows.length/\rs=midR c (t.rows.take t.rows.length)) (hl:c.ins.length<=100000) (hl2:t.rows.length<=100000) (hn:1<=t.next/\t.next<=2147483648) (ha:decide ((100:Int) < IntKind.i64.wrap ((rs.length:Int)+((c.ins.map vrow).length:Int)))=false) (hc:decide (IntKind.i64.wrap (2147483648 - t.next) < ((c.ins.map vrow).length:Int))=false):¬ zcm t c:=fun e=>by
 rw [List.take_length] at hr
 simp only [decide_eq_false_iff_not,List.length_map,IntKind.wrap_i64] at ha hc
 have h:=hlm.1 e
 unfold limR at h
 rw [← hr.2] at h;omega
theorem ay_k (hI:ApI t c c.ins.length nx rs'):KaJ t c c.ins.length rs':=hI.2
theorem ay_x (hI:ApI t c c.ins.length nx rs'):nx=t.next+(c.ins.length:Int):=hI.1
end
theorem zrg (t:Tb) (c:Ch) (hlm:zcm t c↔limR t c) (hl:zac c.upd) (hli:zac c.ins) (hl5:c.ins.length<=100000) (hd:zac c.del) (hs:zac t.sch.cols) (hg:∀ p∈c.upd,∀ v∈p.nw,v.Good) (hgi:∀ p∈c.ins,∀ v∈p,v.Good) (hvi:∀ r∈c.ins,zac r) (hrs:zac t.rows) (hr5:t.rows.length<=100000) (hm:(midR c t.rows).length<=100000) (hvs:∀ r∈t.rows,zac r.vals) (hfs:∀ n,zac (fnd7 n c.upd).1) (hn:1<=t.next/\t.next<=2147483648) (hv:zab E0 S.AT [t.av,c.av] [] (bv true) []):∃ (x:Tb) (g:Int),ApX t c x g/\zab E0 S.AA [t.av,c.av] [] (.tup [x.av,iv g]) []:=by
 rcases zjs t c zbF zbF zbF 0 zbF zbF with ⟨q1,q1_1,g1⟩|⟨r1_0,r1_1,p1_0,g1⟩
 ·rcases zjp t c zbF zbF zbF 0 zbF zbF with ⟨q2,q2_1,g2⟩|⟨r2_0,r2_1,p2_0,g2⟩
  ·obtain ⟨rs3,q3,q3_1,g3⟩:=zjr t c zbF zbF zbF zbF zbF 0 ([]) zbF zbF
   let p_1:List St:=[sb q2_1,sdm [(1,[sc (zuN t zbF zbF zbF)]),(2,[sqx (some 55=some 55)])] 0 [(2,AV.p 0 0),(3,AV.p 1 0),(4,AV.p 2 0),(12,AV.p 3 0),(43,AV.sl (List.map vrow c.ins)),(44,iv (↑(List.map vrow c.ins).length:Int)),(45,iv (c.1.length:Int)),(46,AV.bl false),(58,AV.agg [sv t.sch.name,ZC t.sch.cols,iv t.next,ZW t.rows]),(59,AV.agg [sv t.sch.name,ZC t.sch.cols,iv t.next,ZW t.rows]),(60,AV.agg [sv t.sch.name,ZC t.sch.cols]),(61,AV.p 0 2),(62,iv t.next),(63,AV.agg [sv t.sch.name,ZC t.sch.cols,iv t.next,AV.nl])] [Blk.box [sv t.sch.name,ZC t.sch.cols,iv t.next,ZW t.rows],Blk.box [AV.sl (List.map vrow c.ins),AV.sl (List.map (fun n=>[iv n]) c.del),AV.sl (List.map Pr.cells c.upd)],Blk.box [sv Zs0,AV.nl,iv 0,AV.nl],Blk.box [sv t.sch.name,ZC t.sch.cols,iv t.next,AV.nl]]]
   let p_2:List St:=[sb q3_1,sqx (rs3.length=(List.map Rw.cells rs3).length),si (e:=IntKind.i64.wrap ((rs3.length:Int)+(↑(List.map vrow c.ins).length:Int))) rfl]
   cases h4:decide (100 < IntKind.i64.wrap ((rs3.length:Int)+(↑(List.map vrow c.ins).length:Int)))
   ·let p_3:List St:=p_2++[sg h4,si (e:=IntKind.i64.wrap (2147483648 - t.next)) rfl]
    cases h5:decide (IntKind.i64.wrap (2147483648 - t.next) < (↑(List.map vrow c.ins).length:Int))
    ·obtain ⟨nx6,rs6,q6,q6_1,g6⟩:=zjq t c zbF zbF zbF zbF 0 t.next rs3 zbF zbF
     obtain ⟨b7,q7,c7⟩:=(zif (Tb.mk t.sch nx6 rs6) zbF zbF)
     let p_4:List St:=[sb q2_1,skx ((True/\True/\True/\rs6.length=(List.map Rw.cells rs6).length/\True)/\True) [] c7]
     rcases (Bool.eq_false_or_eq_true b7).symm with h8|h8
     ·exact ⟨Tb.mk t.sch nx6 rs6,0,zm2,wkc At.AA [sc hv,sb Zf] [2,3,4,26,27,28] 3 kr (g1 _ (zaa (wkl [sb q1_1] [2,3,4,43,44,45] 3 kr (g2 _ (zaa (wklN p_1 [2,3,4,12,65,66,67] 4 [(.ob 3 3 Ty.Row,5)] kr (g3 _ (zaa (wkl (p_3++[sb h5]) [4,12,118,119,120] 5 kr (g6 _ (zaa (wkr ([sqx ((True/\True/\True/\rs6.length=(List.map Rw.cells rs6).length/\True)/\True/\True)]++(p_4++[sb h8])) kr))))))))))))⟩
     ·exact ⟨Tb.mk (Sch.mk Zs0 []) 0 [],9,zm2,wkc At.AA [sc hv,sb Zf] [2,3,4,26,27,28] 3 kr (g1 _ (zaa (wkl [sb q1_1] [2,3,4,43,44,45] 3 kr (g2 _ (zaa (wklN p_1 [2,3,4,12,65,66,67] 4 [(.ob 3 3 Ty.Row,5)] kr (g3 _ (zaa (wkl (p_3++[sb h5]) [4,12,118,119,120] 5 kr (g6 _ (zaa (wkr (p_4++[sb h8]) kr))))))))))))⟩
    ·exact ⟨Tb.mk (Sch.mk Zs0 []) 0 [],10,zm2,wkc At.AA [sc hv,sb Zf] [2,3,4,26,27,28] 3 kr (g1 _ (zaa (wkl [sb q1_1] [2,3,4,43,44,45] 3 kr (g2 _ (zaa (wklN p_1 [2,3,4,12,65,66,67] 4 [(.ob 3 3 Ty.Row,5)] kr (g3 _ (zaa (wkr (p_3++[sb h5]) kr)))))))))⟩
   ·exact ⟨Tb.mk (Sch.mk Zs0 []) 0 [],10,zm2,wkc At.AA [sc hv,sb Zf] [2,3,4,26,27,28] 3 kr (g1 _ (zaa (wkl [sb q1_1] [2,3,4,43,44,45] 3 kr (g2 _ (zaa (wklN p_1 [2,3,4,12,65,66,67] 4 [(.ob 3 3 Ty.Row,5)] kr (g3 _ (zaa (wkr (p_2++[sb h4]) kr)))))))))⟩
  ·exact ⟨r2_0,r2_1,zm2,wkc At.AA [sc hv,sb Zf] [2,3,4,26,27,28] 3 kr (g1 _ (zaa (wkl [sb q1_1] [2,3,4,43,44,45] 3 kr g2)))⟩
 ·exact ⟨r1_0,r1_1,zm2,wkc At.AA [sc hv,sb Zf] [2,3,4,26,27,28] 3 kr (g1)⟩
noncomputable def L_eqR (l:List Int) (i:Nat) :Cfg:=zag B.Bf 0 [(0,isl l),(1,isl l),(12,iv ((l.map zaN).length:Nat)),(13,iv (i:Nat))] []
theorem zf7 (l:List Int) (hl:Room l) (i:Nat)  (hi:i<=(l).length) (hI:True):(True)/\(decide ((((l).length:Nat):Int) < (((l.map zaN).length:Nat):Int))=false)/\∀ R,Good E0 B.Bf [] (L_eqR l (l).length ) R->Good E0 B.Bf [] (L_eqR l i ) R:=by
 have hk:=hi;revert i hI;refine zlp ((l).length) (fun i hlt ih hi hI _=>?_)
 obtain ⟨x,hx,h0,hw⟩:=zlq (l:=l) ((l.map zaN).length) hlt (by (simp only [Room] at hl;omega))
 cases h1:x != x
 ·obtain ⟨qZ,xZ,gZ⟩:=ih Zo (by first|trivial|assumption|(simp;done)|omega|(simp;omega)|(simp at *;omega)) Zo;exact ⟨qZ,xZ,fun R hg=>zaa (wkl [sb h0,sd [(2,[se (zae (fun n=>[iv n]) hx rfl)]),(6,[se (zae (fun n=>[iv n]) hx rfl)])],sb h1,si hw] [0,1,12,13] 0 kr (gZ R hg))⟩
 ·exact False.elim (by simp at *)
theorem zz3 (l:List Int) (hl:Room l):∃ (r:Bool),r=true/\zab E0 S.Bf [isl l,isl l] [] (bv r) []:=by
 cases h1:(↑(List.map (fun n=>[iv n]) l).length:Int) != (↑(List.map (fun n=>[iv n]) l).length:Int)
 ·obtain ⟨q2,q2_1,g2⟩:=zf7 l (by first|assumption|omega|(simp;done)|(simp;omega)) 0 (by first|assumption|omega|(simp;done)|(simp;omega)) (by first|assumption|omega|(simp;done)|(simp;omega))
  exact ⟨true,(by first|rfl|(exfalso;simp at *;done)),wkc At.Bf [sb h1] [0,1,12,13] 0 kr (g2 _ (zaa (wkr [sb q2_1] kr)))⟩
 ·exact ⟨false,(by first|rfl|(exfalso;simp at *;done)),wk At.Bf [sb h1] kr⟩
theorem zhW (a b:List Int) (hab:a=b) (hl:Room b):zab E0 S.Bf [isl a,isl b] [] (bv true) []:=by
 subst hab
 obtain ⟨r,rfl,h⟩:=zz3 a hl
 exact h
def asgS (a:Ac):List Str:=bif a.kind==2 then a.sets.map Se.col else []
noncomputable def L_asp (a:Ac) (i:Nat) (out:List Str):Cfg:=zag B.A9 0 [(3,.own 1 out.length),(10,.sl (a.sets.map Se.cells)),(11,iv ((a.sets.map Se.cells).length:Nat)),(12,iv (i:Nat))] [.box a.cells,.row Ty.string (out.map fun s=>[sv s]) false]
theorem Zcv10 {p:Prop} (h:p:=by first|rfl|(simp;done)|(simp [X.cells,Qy.cells,V.cells,Col.cells,Rw.cells,Tb.cells,Fr.cells,Sch.cells,Tp.cells,Pl.cells,xCol,xLit,xBin,xNeg,Ac.cells,Se.cells,Tg.cells];done)):p:=h
theorem zid (a:Ac) (hl:a.sets.length<=1000) (i:Nat) (out:List Str) (hi:i<=(a.sets).length) (hI:out=(a.sets.take i).map Se.col):∃ (out':List Str),(out'=(a.sets.take (a.sets).length).map Se.col)/\(decide ((((a.sets).length:Nat):Int) < (((a.sets.map Se.cells).length:Nat):Int))=false)/\∀ R,Good E0 B.A9 [] (L_asp a (a.sets).length out') R->Good E0 B.A9 [] (L_asp a i out) R:=by
 have hk:=hi;revert i out;refine zlp ((a.sets).length) (fun i hlt ih out hi hI _=>?_)
 obtain ⟨x,hx,h0,hw⟩:=zlq (l:=a.sets) ((a.sets.map Se.cells).length) hlt
 have ho:out.length<=1000:=(by rw [hI,List.length_map,List.length_take];omega)
 exact Zih (ih (out++[x.col]) Zo (by (rw [List.take_add_one,hx,List.map_append,hI];rfl)) Zo) fun R gY=>zaa (wkl [sb h0,se (zae Se.cells hx rfl),sqA (List.map (fun s=>[sv s]) out) [[sv x.col]] out.length 1 16,si hw] [3,10,11,12] 2 kr (zaw 3 1 (List.map (fun s=>[sv s]) out++[[sv x.col]]) gY (he:=Zcv10) (hm:=Zcv10)))
theorem c_asg (a:Ac) (hl:a.sets.length<=1000):∃ (r:List Str),r=asgS a/\zab E0 S.A9 [a.av] [] (ssl r) []:=by
 cases h1:a.kind != 2
 ·obtain ⟨out2,q2,q2_1,g2⟩:=zid a (by first|assumption|omega|(simp;done)|(simp;omega)) 0 ([]) (by first|assumption|omega|(simp;done)|(simp;omega)) (by first|assumption|omega|(simp;done)|(simp;omega))
  exact ⟨out2,(by (simp only [bne,Bool.not_eq_true',Bool.not_eq_false'] at *;simp only [asgS, *,cond_true,cond_false,List.take_length])),wkcN At.A9 [sb h1] [3,10,11,12] 1 [(.ot 3 Ty.string,2)] kr (g2 _ (zaa (wkr [sqx (out2.length=(List.map (fun s=>[sv s]) out2).length),sb q2_1] kr)))⟩
 ·exact ⟨[],(by (simp only [bne,Bool.not_eq_true',Bool.not_eq_false'] at *;simp only [asgS, *,cond_true,cond_false,List.take_length])),wk At.A9 [sb h1] kr⟩
theorem zp4 (a:Ac) (hl:a.sets.length<=1000):zab E0 S.A9 [a.av] [] (ssl (asgS a)) []:=by
 obtain ⟨r,rfl,h⟩:=c_asg a hl
 exact h
theorem zqk {tr:Rw->Bool × Int} {ag:Rw->List V × Int}:∀ (l:List Rw) (u:List Pr),(tchU tr ag l u).2=0->∀ r∈l,(tr r).2=0
 | [],_,_,_,h=>by cases h
 | r::l,u,h,x,hx=>by
  simp only [tchU] at h
  cases h1:(tr r).2 != 0 <;> rw [h1] at h
  ·rcases List.mem_cons.1 hx with rfl|hx
   ·simpa using h1
   ·cases h2:(tr r).1 <;> rw [h2] at h
    ·exact zqk l _ h x hx
    ·cases h3:(ag r).2 != 0 <;> rw [h3] at h
     ·exact zqk l _ h x hx
     ·simp only [Bool.not_true,cond_true,cond_false] at h;rw [h] at h3;simp at h3
  ·simp only [cond_true] at h;rw [h] at h1;simp at h1
theorem zn2 {tr:Rw->Bool × Int} {ag:Rw->List V × Int}:∀ (l:List Rw) (u:List Pr),((tchU tr ag l u).2 != 0)=true->(tchU tr ag l u).1=ch0
 | [],_,h=>by simp [tchU] at h
 | r::l,u,h=>by
  simp only [tchU] at h ⊢
  cases h1:(tr r).2 != 0 <;> rw [h1] at h
  ·cases h2:!(tr r).1 <;> rw [h2] at h
   ·cases h3:(ag r).2 != 0 <;> rw [h3] at h
    ·exact zn2 l _ h
    ·rfl
   ·exact zn2 l _ h
  ·rfl
theorem zn1 {tr:Rw->Bool × Int}:∀ (l:List Rw) (u:List Int),((tchD tr l u).2 != 0)=true->(tchD tr l u).1=ch0
 | [],_,h=>by simp [tchD] at h
 | r::l,u,h=>by
  simp only [tchD] at h ⊢
  cases h1:(tr r).2 != 0 <;> rw [h1] at h
  ·cases h2:!(tr r).1 <;> rw [h2] at h
   ·exact zn1 l _ h
   ·exact zn1 l _ h
  ·rfl
theorem zAn {f:X->V × Int} {g:Qy->List (List V) × Int} {s:Sch} {a:Ac} (h:((insB f g s a).2 != 0)=true):(insB f g s a).1=[]:=by
 unfold insB at h ⊢
 cases h1:(insL f s.cols.length a.rows []).2 != 0
 ·rw [h1] at h;simp only [cond_false] at h ⊢;exact znM _ _ h
 ·rfl
theorem zz8 {n:Nat} {a:Ac} {frs:List Fr} {tb:List Tb} {t:Tb} (h:((chgT n a frs tb t).2 != 0)=true):(chgT n a frs tb t).1=ch0:=by
 unfold chgT at h ⊢
 cases h1:a.kind==1 <;> rw [h1] at h
 ·cases h3:a.kind==3 <;> rw [h3] at h
  ·exact zn2 _ _ h
  ·exact zn1 _ _ h
 ·have h2:(zdD (fun x=>eval n x frs tb) (fun q=>zbm n q frs tb) t.sch a).1=⟨[],[],[]⟩:=by
   unfold zdD;rw [zAn h]
  exact h2
theorem ztt {c:Ch} (hd:c.del=[]):∀ l:List Rw,(midR c l).length=l.length
 | []=>rfl
 | q::l=>by
  have ih:=ztt hd l
  unfold midR at ih ⊢
  have h:anyI c.del q.id=false:=by rw [hd];exact zlv _
  rw [List.filterMap_cons]
  have h2:∃ x,midS c q=some x:=by unfold midS;rw [h];exact ⟨_,rfl⟩
  obtain ⟨x,hx⟩:=h2
  rw [hx,List.length_cons,List.length_cons,ih]
section
variable {a : Ac} {t : Tb} {c : Ch}
theorem zBF (ht:TabV t) (hc:CandG a t c):zcm t c↔limR t c:=by
 have h1:=ht.l100
 have h2:=ht.max
 simp only [decide_eq_false_iff_not] at h2
 have h3:(midR c t.rows).length<=t.rows.length:=List.length_filterMap_le _ _
 unfold zcm limR
 by_cases hi:c.ins=[]
 ·rw [hi];simp only [List.length_nil];omega
 ·have hk:=hc.ki hi
  have hd:c.del=[]:=by
   by_cases hd:c.del=[]
   ·exact hd
   ·have:=hc.kd hd;omega
  rw [ztt hd,hd];simp only [List.length_nil];omega
theorem zxA (hc:CandG a t c) (hs:t.sch.cols.length<=1000):∀ p∈c.upd,zac p.old/\zac p.nw:=fun p hp=>by
 have h1:=(hc.ku p hp).len
 have h2:=(hc.g.v.updIn p hp).2.2
 simp only [zac];omega
theorem prAp (ht:TabV t) (hc:CandG a t c) (hs:t.sch.cols.length<=1000):∃ (x:Tb) (g:Int),ApX t c x g/\zab E0 S.AV [t.av,c.av] [] (.tup [x.av,iv g]) []:=by
 have h1:=ht.l100
 have h2:=ht.max
 have h3:=ht.rows.pos
 have h4:(midR c t.rows).length<=t.rows.length:=List.length_filterMap_le _ _
 have li:=hc.li
 have lu:=hc.lu
 have hS:=zxA hc hs
 simp only [decide_eq_false_iff_not] at h2
 exact zq8 t c ⟨hc.g.v,ht.rows.asc,by omega,ht.vals,fun p hp=>(hS p hp).2⟩ (znO t c ht hc.g.v fun p hp=>(hS p hp).1) (zp7 t c (by simp only [zac];omega) (by simp only [zac];omega) ht.sch.short hc.g.u hc.g.i) Zo (fun r hr=>by have:=hc.g.v.ins r hr;simp only [zac];omega) ht.sch.short ⟨h3,by omega⟩ Zo
theorem rfAp (ht:TabV t) (hc:CandG a t c) (hs:t.sch.cols.length<=1000):∃ (x:Tb) (g:Int),ApX t c x g/\zab E0 S.AA [t.av,c.av] [] (.tup [x.av,iv g]) []:=by
 have h1:=ht.l100
 have h2:=ht.max
 have h3:=ht.rows.pos
 have h4:(midR c t.rows).length<=t.rows.length:=List.length_filterMap_le _ _
 have li:=hc.li
 have lu:=hc.lu
 have ld:=hc.ld
 have hsh:=ht.sch.short
 simp only [decide_eq_false_iff_not] at h2
 exact zrg t c (zBF ht hc) (by simp only [zac];omega) (by simp only [zac];omega) Zo (by simp only [zac];omega) hsh hc.g.u hc.g.i (fun r hr=>by have:=hc.g.v.ins r hr;simp only [zac];omega) ht.shr Zo Zo ht.vals (zuy (fun p hp=>(hc.g.v.updIn p hp).2.2) hsh) ⟨h3,by omega⟩ (zoT t c ht hc.g.v)
theorem zsm {x y:Tb} {g h:Int} (h1:ApX t c x g) (h2:ApX t c y h):g=h/\(g=0->x=y):=by
 by_cases hf:zbA t.sch c=0
 ·by_cases hl:zcm t c
  ·rw [h1.lim hf hl,h2.lim hf hl];exact ⟨rfl,fun e=>by cases e⟩
  ·by_cases hn:(zcS t c).Nodup
   ·obtain ⟨a1,a2⟩:=h1.ok hf hl hn
    obtain ⟨b1,b2⟩:=h2.ok hf hl hn
    exact ⟨a1.trans b1.symm,fun _=>a2.trans b2.symm⟩
   ·rw [h1.dup hf hl hn,h2.dup hf hl hn];exact ⟨rfl,fun e=>by cases e⟩
 ·have e1:=h1.fit hf
  have e2:=h2.fit hf
  exact ⟨e1.trans e2.symm,fun e=>absurd (e1.symm.trans e) hf⟩
end
abbrev nK (c:Ch):Nat:=c.ins.length+c.del.length+c.upd.length
structure RunT (m:List Tb) (a:Nat) (x:Tb) (g:Int) (ps:List Int) (k:Nat) (m2:List Tb) (lf:List Int) (n e:Int):Prop where
 z:k=0->m2=m/\lf=ps/\n=0/\e=0
 bad:k≠0->g≠0->e=g
 ok:k≠0->g=0->m2=m.set a x/\lf=ps/\n=((k:Nat):Int)/\e=0
theorem RunO.tabs {m:List Tb} {a:Nat} {x:Tb} {g:Int} {ps:List Int} {k:Nat} {r:List (List AV)} {lf:List Int} {n e:Int} (h:RunO m a x g ps k r lf n e):∃ m2:List Tb,r=m2.map Tb.cells/\RunT m a x g ps k m2 lf n e:=by
 by_cases hk:k=0
 ·obtain ⟨h1,h2⟩:=h.z hk
  exact ⟨m,h1,⟨fun _=>⟨rfl,h2⟩,fun z=>absurd hk z,fun z=>absurd hk z⟩⟩
 ·by_cases hg:g=0
  ·obtain ⟨h1,h2⟩:=h.ok hk hg
   exact ⟨m.set a x,by rw [h1,List.map_set],⟨fun z=>absurd z hk,fun _ z=>absurd hg z,fun _ _=>⟨rfl,h2⟩⟩⟩
  ·obtain ⟨h1,h2⟩:=h.bad hk hg
   exact ⟨[],by rw [h1];rfl,⟨fun z=>absurd z hk,fun _ _=>h2,fun _ z=>absurd z hg⟩⟩
structure AoQ (M:Nat) (m:List Tb) (a:Ac) (t:Tb) (j:Nat) (ps:List Int) (m2:List Tb) (lf:List Int) (n e:Int):Prop where
 err:(zaq M a [] m).2≠0->e=(zaq M a [] m).2
 ok:(zaq M a [] m).2=0->∃ (x:Tb) (g:Int),ApX t (zaq M a [] m).1 x g/\RunT m j x g ps (nK (zaq M a [] m).1) m2 lf n e
abbrev RunC (m:List Tb) (a:Ac) (ps:List Int) (m2:List Tb) (lf:List Int) (n e:Int):Prop:=zab E0 S.AF [tsl m,.sl [],.sl [],a.av,.sl [],.sl [],isl ps] [] (.tup [tsl m2,isl lf,.sl [],iv n,iv e]) []
section
variable {M : Nat} {m : List Tb} {a : Ac} {t : Tb} {j : Nat} {ps : List Int}
theorem HomeC.asg (hc:HomeC M m a t j):zab E0 S.A9 [a.av] [] (ssl (asgS a)) []:=by
 have:=hc.din.ac.sets
 exact zp4 a (by simp only [Few] at this;omega)
theorem HomeC.al (hc:HomeC M m a t j):j < m.length:=(List.getElem?_eq_some_iff.1 hc.at_).1
theorem runE (hc:HomeC M m a t j) (h0:((zaq M a [] m).2 != 0)=true):∃ m2 lf n e,AoQ M m a t j ps m2 lf n e/\RunC m a ps m2 lf n e:=by
 have hmm:m++[]=m:=List.append_nil m
 have hch:(zaq M a [] m).1=ch0:=by rw [hc.ceq] at h0 ⊢;exact zz8 h0
 have hpr:=hc.pr
 rw [hch] at hpr
 obtain ⟨r,lf,n,f,⟨rfl,rfl⟩,h⟩:=zyx m a j (zaq M a [] m).2 ps hc.ml hc.find Zs (by rw [hmm];exact hpr) h0
 exact ⟨[],lf,n,_,⟨fun _=>rfl,fun z=>by rw [z] at h0;simp at h0⟩,h⟩
theorem runD (hc:HomeC M m a t j) (hp:Room ps) (h0:(zaq M a [] m).2=0) (h1:(a.kind==1)=false) (h3:(a.kind==3)=true):∃ m2 lf n e,AoQ M m a t j ps m2 lf n e/\RunC m a ps m2 lf n e:=by
 have hmm:m++[]=m:=List.append_nil m
 have hcg:=hc.ok h0
 obtain ⟨x,g,hx,hA⟩:=prAp hc.tv hcg hc.cols
 have hd:∃ del,(zaq M a [] m).1=⟨[],del,[]⟩:=by
  have e:=hc.ceq
  rw [e] at h0 ⊢
  unfold chgT at h0 ⊢
  rw [h1,h3] at h0 ⊢
  exact ⟨_,zm6 _ _ h0⟩
 obtain ⟨del,hd⟩:=hd
 have hpr:=hc.pr
 have ld:=hcg.ld
 rw [hd] at hpr hA ld
 rw [h0] at hpr
 simp only at ld
 obtain ⟨r,lf,n,e,hq,h⟩:=zyw m a t x j del g (asgS a) ps hc.ml hc.at_ hc.al hc.find Zs (by rw [hmm];exact hpr) (by rw [List.length_map,IntKind.wrap_i64];simp only [List.length_nil];omega) (by rw [IntKind.wrap_i64];simp only [List.length_nil];omega) hc.shs hc.asg hc.tv.shr (by simp only [zac];omega) hp hA
 obtain ⟨m2,rfl,hr⟩:=hq.tabs
 refine ⟨m2,lf,n,e,⟨fun z=>absurd h0 z,fun _=>⟨x,g,hx,?_⟩⟩,h⟩
 rw [hd]
 show RunT m j x g ps (0+del.length+0) m2 lf n e
 rw [Nat.zero_add];exact hr
theorem HomeC.ixn (hc:HomeC M m a t j):decide (idxF (fun t=>zan t a.table) m 0 < 0)=false:=by rw [hc.ix];simp
theorem runU (hc:HomeC M m a t j) (hp:Room ps) (h0:(zaq M a [] m).2=0) (h1:(a.kind==1)=false) (h3:(a.kind==3)=false):∃ m2 lf n e,AoQ M m a t j ps m2 lf n e/\RunC m a ps m2 lf n e:=by
 have hmm:m++[]=m:=List.append_nil m
 have hcg:=hc.ok h0
 have hin:=hc.din
 obtain ⟨x,g,hx,hA⟩:=prAp hc.tv hcg hc.cols
 let F:Rw->X->V × Int:=fun r x=>eval M x (zat [] t.sch r.vals) m
 have e:=hc.ceq
 have hch:chgT M a [] m t=tchU (fun r=>zaU (F r) a.wh) (agR F t a) t.rows []:=by
  unfold chgT;rw [h1,h3];rfl
 rw [hch] at e
 have h0':(tchU (fun r=>zaU (F r) a.wh) (agR F t a) t.rows []).2=0:=by rw [← e];exact h0
 obtain ⟨k1,k2⟩:=zm7 _ _ h0'
 have k3:=zqk _ _ h0'
 have hd:(zaq M a [] m).1=⟨[],[],updQ (fun r=>zaU (F r) a.wh) (agR F t a) t.rows⟩:=by rw [e];exact k1
 have hT:∀ r∈(tabC m a.table).rows,Pure S.AD [xsl a.wh,fsl (zat [] t.sch r.vals),tsl m] (.tup [bv (zaU (F r) a.wh).1,iv 0]):=fun r hr=>by
  rw [hc.tab] at hr
  have hi:=hin.ins hc.mem hr
  have h:=zoo (f:=F r) (wh:=a.wh) (frs:=zat [] t.sch r.vals) (tb:=m) (fun x hx=>zdx M x _ m (hin.ac.w x hx) hi.1 hi.2 hin.to hin.tg) (fun x hx=>zbH M x _ m (hin.ac.w x hx) hi.2 hin.tg)
  have h4:=k3 r hr
  rw [show (zaU (F r) a.wh).2=0 from h4] at h
  exact h
 have hG:∀ r∈(tabC m a.table).rows,(!(zaU (F r) a.wh).1)=false->Pure S.Bw [a.av,t.sch.av,vsl r.vals,fsl (zat [] t.sch r.vals),tsl m] (.tup [vsl (agR F t a r).1,iv 0]):=fun r hr hb=>by
  rw [hc.tab] at hr
  have hi:=hin.ins hc.mem hr
  have h:=zjL (F r) a t.sch r.vals (zat [] t.sch r.vals) m (hc.tv.vals r hr) hc.tv.sch.short (zaM hin.ac.sets) fun x hx=>zdx M x.ex _ m (hin.ac.set x hx) hi.1 hi.2 hin.to hin.tg
  have h5:asgn (F r) a t.sch r.vals (zat [] t.sch r.vals) m=agR F t a r:=by unfold asgn;rw [znA]
  have h6:=k2 r (List.mem_filter.2 ⟨hr,by simpa using hb⟩)
  rw [h5,h6] at h
  exact h
 have hsh:=hc.shs (tabC m a.table) (by rw [hc.tab];exact hc.mem)
 obtain ⟨upd,hu,hC⟩:=zwK (fun r=>zaU (F r) a.wh) (agR F t a) a t.sch [] m h1 h3 hin.to.len (by simp [zac]) hc.tg (znD m a hin.to.len) hc.ixn hsh.2.1 hsh.2.2 hT hG
 rw [hc.tab] at hu
 rw [← hu] at hd
 have lu:=hcg.lu
 have hS:=zxA hcg hc.cols
 rw [hd] at hA lu hS
 simp only at lu
 obtain ⟨r,lf,n,e2,hq,h⟩:=zyz m a t x j upd g (asgS a) ps hc.ml hc.at_ hc.al hc.find Zs (by rw [hmm];exact hC) (by rw [IntKind.wrap_i64];omega) (by rw [IntKind.wrap_i64];omega) hc.shs hc.asg hc.tv.shr (by simp only [zac];omega) hS hp hA
 obtain ⟨m2,rfl,hr⟩:=hq.tabs
 refine ⟨m2,lf,n,e2,⟨fun z=>absurd h0 z,fun _=>⟨x,g,hx,?_⟩⟩,h⟩
 rw [hd]
 show RunT m j x g ps (0+0+upd.length) m2 lf n e2
 have e9:0+0+upd.length=upd.length:=by omega
 rw [e9];exact hr
theorem runI (hc:HomeC M m a t j) (hp:Room ps) (h0:(zaq M a [] m).2=0) (h1:(a.kind==1)=true):∃ m2 lf n e,AoQ M m a t j ps m2 lf n e/\RunC m a ps m2 lf n e:=by
 have hmm:m++[]=m:=List.append_nil m
 have hcg:=hc.ok h0
 have hin:=hc.din
 obtain ⟨x,g,hx,hA⟩:=prAp hc.tv hcg hc.cols
 let f:X->V × Int:=fun x=>eval M x [] m
 let q:Qy->List (List V) × Int:=fun q=>zbm M q [] m
 have e:=hc.ceq
 have hch:chgT M a [] m t=zdD f q t.sch a:=by unfold chgT;rw [h1];rfl
 rw [hch] at e
 have h0':(insB f q t.sch a).2=0:=by
  have h9:=h0
  rw [e] at h9;exact h9
 have hd:(zaq M a [] m).1=⟨(insB f q t.sch a).1,[],[]⟩:=by rw [e];rfl
 have hrw:=hin.ac.rows
 have hqu:=hin.ac.query
 obtain ⟨out,ho,hI⟩:=zop a t.sch [] m f q h0' hc.tv.sch.short (by simp only [Few] at hrw;omega) (fun r hr=>⟨zaM (hin.ac.row r hr).1,fun x hx=>zdx M x [] m ((hin.ac.row r hr).2 x hx) hin.fo.less hin.fg hin.to hin.tg⟩) hqu fun z hz =>
  ⟨Nat.le_trans (zlF (n:=M) (q:=z) (frs:=[]) hin.to) Zd,zoq ⟨(hin.ac.qs z hz).items,(hin.ac.qs z hz).hi,(hin.ac.qs z hz).hw⟩ hin.fo hin.to hin.fg hin.tg hin.tv⟩
 obtain ⟨o2,ho2,hC⟩:=zwJ a t.sch [] m out h1 hc.tg hI
 rw [ho2] at hC
 rw [← ho] at hd
 have li:=hcg.li
 have hS:∀ p∈(zaq M a [] m).1.ins,zac p:=fun p hp=>by
  have h2:=hcg.g.v.ins p hp
  have h3:=hc.cols
  simp only [zac];omega
 rw [hd] at hA li hS
 simp only at li
 obtain ⟨r,lf,n,e2,hq,h⟩:=zyy m a t x j out g (asgS a) ps hc.ml hc.at_ hc.al hc.find Zs (by rw [hmm];exact hC) hc.shs hc.asg hc.tv.shr Zo hS hp hA
 obtain ⟨m2,rfl,hr⟩:=hq.tabs
 refine ⟨m2,lf,n,e2,⟨fun z=>absurd h0 z,fun _=>⟨x,g,hx,?_⟩⟩,h⟩
 rw [hd]
 show RunT m j x g ps (out.length+0+0) m2 lf n e2
 have e9:out.length+0+0=0+0+out.length:=by omega
 rw [e9];exact hr
theorem zvv (hc:HomeC M m a t j) (hp:Room ps):∃ m2 lf n e,AoQ M m a t j ps m2 lf n e/\RunC m a ps m2 lf n e:=by
 cases h0:(zaq M a [] m).2 != 0
 ·have h0:(zaq M a [] m).2=0:=by simpa using h0
  cases h1:a.kind==1
  ·cases h3:a.kind==3
   ·exact runU hc hp h0 h1 h3
   ·exact runD hc hp h0 h1 h3
  ·exact runI hc hp h0 h1
 ·exact runE hc h0
end
theorem zxa {t:Tb} (ht:TabV t):(za0 (idxF (fun z=>z.key) t.sch.cols 0) t.rows).Nodup:=by
 rw [ht.key];exact zhd _ ht.rows.keys
theorem znW:∀ l:List Rw,midR ⟨[],[],[]⟩ l=l
 | []=>rfl
 | q::l=>by
  have ih:=znW l
  unfold midR at ih ⊢
  have h:midS ⟨[],[],[]⟩ q=some q:=by
   unfold midS
   rw [show anyI (Ch.mk [] [] []).del q.id=false from zlv _]
   rfl
  rw [List.filterMap_cons,h,ih]
theorem zsk {t x:Tb} {c:Ch} {g:Int} (ht:TabV t) (hk:nK c=0) (h:ApX t c x g):g=0/\x=t:=by
 obtain ⟨ins,del,upd⟩:=c
 have h1:ins=[]:=List.length_eq_zero_iff.1 (by simp only [nK] at hk;omega)
 have h2:del=[]:=List.length_eq_zero_iff.1 (by simp only [nK] at hk;omega)
 have h3:upd=[]:=List.length_eq_zero_iff.1 (by simp only [nK] at hk;omega)
 subst h1
 subst h2
 subst h3
 have e1:=ht.l100
 have e2:=ht.max
 simp only [decide_eq_false_iff_not] at e2
 have hl:¬ zcm t ⟨[],[],[]⟩:=by
  unfold zcm
  simp only [List.length_nil];omega
 have hn:(zcS t ⟨[],[],[]⟩).Nodup:=by
  unfold zcS
  rw [znW]
  simpa [insN] using zxa ht
 obtain ⟨q1,q2⟩:=h.ok rfl hl hn
 refine ⟨q1,?_⟩
 rw [q2]
 unfold apT
 rw [znW]
 simp [insN]
def AoS (m:List Tb) (a:Ac) (ps:List Int) (m2:List Tb) (lf:List Int) (n e:Int):Prop:=∃ t j,HomeC 5 m a t j/\AoQ 5 m a t j ps m2 lf n e
abbrev nLo (c:Ch):Int:=IntKind.i64.wrap (IntKind.i64.wrap ((((c.ins.map vrow).length:Nat):Int)+(((c.del.map fun n=>[iv n]).length:Nat):Int))+(((c.upd.map Pr.cells).length:Nat):Int))
section
variable {m m2 : List Tb} {a : Ac} {ps lf : List Int} {n e : Int} {w : Tb} {g : Int}
theorem aoS_of (hm:StoreV 5 m) (h:ActT zaj 5 [] a) (hp:Room ps):∃ m2 lf n e,AoS m a ps m2 lf n e/\RunC m a ps m2 lf n e:=by
 obtain ⟨t,j,hc⟩:=zxk hm Zd Zd h
 obtain ⟨m2,lf,n,e,h1,h2⟩:=zvv hc hp
 exact ⟨m2,lf,n,e,⟨t,j,hc,h1⟩,h2⟩
theorem AoS.err (q:AoS m a ps m2 lf n e) (h:((zaq 5 a [] m).2 != 0)=true) (h2:(e==(zaq 5 a [] m).2)=false):False:=by
 obtain ⟨t,j,_,hq⟩:=q
 rw [hq.err (by simpa using h)] at h2;simp at h2
theorem AoS.bad (q:AoS m a ps m2 lf n e) (h:((zaq 5 a [] m).2 != 0)=false) (hw:ApX (tabC m a.table) (zaq 5 a [] m).1 w g) (hg:(g != 0)=true) (h2:(e==g)=false):False:=by
 obtain ⟨t,j,hc,hq⟩:=q
 obtain ⟨x,g2,hx,hr⟩:=hq.ok (by simpa using h)
 rw [hc.tab] at hw
 obtain ⟨e1,_⟩:=zsm hw hx
 have hg0:g≠0:=by simpa using hg
 by_cases hk:nK (zaq 5 a [] m).1=0
 ·exact hg0 (zsk hc.tv hk hw).1
 ·rw [hr.bad hk (by rw [← e1];exact hg0),← e1] at h2;simp at h2
structure AoZ (m:List Tb) (a:Ac) (ps:List Int) (m2:List Tb) (lf:List Int) (n e:Int) (w:Tb):Prop where
 e0:e=0
 lf:lf=ps
 n:n=nLo (zaq 5 a [] m).1
 len:m2.length=m.length
 ne:∀ (i:Nat) (x y:Tb),m[i]?=some x->m2[i]?=some y->((i:Nat):Int)≠idxF (fun t=>zan t a.table) m 0->y=x
 at_:∀ (i:Nat) (y:Tb),m2[i]?=some y->((i:Nat):Int)=idxF (fun t=>zan t a.table) m 0->y=w
 wv:zac w.sch.cols/\zac w.rows/\∀ r∈w.rows,zac r.vals
theorem AoS.good (q:AoS m a ps m2 lf n e) (h:((zaq 5 a [] m).2 != 0)=false) (hw:ApX (tabC m a.table) (zaq 5 a [] m).1 w g) (hg:(g != 0)=false) (hv:zac w.sch.cols/\zac w.rows/\∀ r∈w.rows,zac r.vals):AoZ m a ps m2 lf n e w:=by
 obtain ⟨t,j,hc,hq⟩:=q
 have h0:(zaq 5 a [] m).2=0:=by simpa using h
 obtain ⟨x,g2,hx,hr⟩:=hq.ok h0
 rw [hc.tab] at hw
 obtain ⟨e1,e2⟩:=zsm hw hx
 have hg0:g=0:=by simpa using hg
 have hwx:=e2 hg0
 have hcg:=hc.ok h0
 have li:=hcg.li
 have ld:=hcg.ld
 have lu:=hcg.lu
 have hn:nLo (zaq 5 a [] m).1=((nK (zaq 5 a [] m).1:Nat):Int):=by
  simp only [nLo,nK,List.length_map,IntKind.wrap_i64];omega
 by_cases hk:nK (zaq 5 a [] m).1=0
 ·obtain ⟨r1,r2,r3,r4⟩:=hr.z hk
  have hwt:=(zsk hc.tv hk hw).2
  subst r1
  refine ⟨r4,r2,by rw [hn,hk,r3];rfl,rfl,fun i x y hx hy _=>by rw [hx] at hy;exact (Option.some.inj hy).symm,fun i y hy hi=>?_,hv⟩
  rw [hc.ix] at hi
  have hij:i=j:=by omega
  rw [hij,hc.at_] at hy
  rw [hwt];exact (Option.some.inj hy).symm
 ·obtain ⟨r1,r2,r3,r4⟩:=hr.ok hk (by rw [← e1];exact hg0)
  subst r1
  refine ⟨r4,r2,by rw [hn,r3],by simp,fun i x y hx hy hi=>?_,fun i y hy hi=>?_,hv⟩
  ·rw [hc.ix] at hi
   rw [List.getElem?_set_ne Zo,hx] at hy
   exact (Option.some.inj hy).symm
  ·rw [hc.ix] at hi
   have hij:i=j:=by omega
   rw [hij,List.getElem?_set_self hc.al] at hy
   rw [hwx];exact (Option.some.inj hy).symm
theorem zA9 {t x:Tb} {c:Ch} (h:ApX t c x 0):x=apT t c:=by
 by_cases hf:zbA t.sch c=0
 ·by_cases hl:zcm t c
  ·have:=h.lim hf hl;cases this
  ·by_cases hn:(zcS t c).Nodup
   ·exact (h.ok hf hl hn).2
   ·have:=h.dup hf hl hn;cases this
 ·exact absurd (h.fit hf).symm hf
abbrev ShT (w:Tb):Prop:=zac w.sch.cols/\zac w.rows/\∀ r∈w.rows,zac r.vals
theorem apT_sh {t:Tb} {c:Ch} (ht:TabV t) (hc:CandG a t c) (hs:t.sch.cols.length<=1000):ShT (apT t c):=by
 have h1:=ht.l100
 have h2:=hc.li
 have h3:(midR c t.rows).length<=t.rows.length:=List.length_filterMap_le _ _
 have hS:=zxA hc hs
 refine ⟨ht.sch.short,?_,fun r hr=>?_⟩
 ·show (midR c t.rows++insN t.next c.ins).length<=_
  rw [List.length_append,zhO];omega
 ·rcases List.mem_append.1 hr with hr|hr
  ·obtain ⟨q,hq,_,_,e⟩:=zAv hr
   rcases e with e|⟨p,hp,_,e⟩
   ·rw [e];exact ht.vals q hq
   ·rw [e];exact (hS p hp).2
  ·have h4:=hc.g.v.ins _ (ztb hr).2.2
   simp only [zac];omega
theorem zn7 (m:List Tb) (a:Ac) (hm:StoreV 5 m) (h:ActT zaj 5 [] a) (h0:((zaq 5 a [] m).2 != 0)=false):∃ (w:Tb) (g:Int),(ApX (tabC m a.table) (zaq 5 a [] m).1 w g/\((g != 0)=false->ShT w))/\zab E0 S.AA [(tabC m a.table).av,(zaq 5 a [] m).1.av] [] (.tup [w.av,iv g]) []:=by
 obtain ⟨t,j,hc⟩:=zxk hm Zd Zd h
 have hcg:=hc.ok (by simpa using h0)
 obtain ⟨w,g,h1,h2⟩:=rfAp hc.tv hcg hc.cols
 rw [hc.tab]
 refine ⟨w,g,⟨h1,fun hg=>?_⟩,h2⟩
 have hg0:g=0:=by simpa using hg
 subst hg0
 rw [zA9 h1]
 exact apT_sh hc.tv hcg hc.cols
theorem ziX (m:List Tb) (a:Ac) (hm:StoreV 5 m) (h:ActT zaj 5 [] a):zab E0 S.AN [a.av,.sl [],tsl m] [] (.tup [(zaq 5 a [] m).1.av,iv (zaq 5 a [] m).2]) []:=by
 exact homeRf hm Zd Zd h
theorem zlo (m:List Tb) (a:Ac) (ps:List Int) (hm:StoreV 5 m) (h:ActT zaj 5 [] a) (hp:Room ps):∃ (m2:List Tb) (lf:List Int) (n e:Int),AoS m a ps m2 lf n e/\zab E0 S.AF [tsl m,.sl [],.sl [],a.av,.sl [],.sl [],isl ps] [] (.tup [tsl m2,isl lf,.sl [],iv n,iv e]) []:=aoS_of hm h hp
theorem ao_ix (hm:StoreV 5 m) (h:ActT zaj 5 [] a):decide (idxF (fun t=>zan t a.table) m 0 < 0)=false:=by
 obtain ⟨t,j,hc⟩:=zxk hm Zd Zd h
 exact hc.ixn
theorem ziw (t:Tp):∃ (r:Ac) (t':Tp),ActT zaj 5 [] r/\zab E0 S.Ap [.p 0 0,(Pl.mk [] zaj).av,iv 2] [.box t.cells] r.av [.box t'.cells] :=
 zjx t ⟨[],zaj⟩ 2 5 3 (zyX 4 Zo) (zyX 3 Zo) zeI ⟨by omega⟩ zco (zpO 3 Zo)
theorem zjy (t:Tp) (n:Int) (hn:n=5):∃ (m:List Tb) (t':Tp),StoreV 5 m/\zab E0 S.BB [.p 0 0,iv n] [.box t.cells] (tsl m) [.box t'.cells]:=by
 subst hn
 exact zkg t 5 zeI Zd
end
def oNul:V:=⟨0,0,⟨#[]⟩⟩
def za7:V:=⟨1,5,⟨#[]⟩⟩
def oTb:Tb:=⟨zeo,1,[]⟩
def oTb2:Tb:=⟨zeo,2,[⟨1,[za7,oNul]⟩]⟩
abbrev oAc:Ac:=Ac.mk 1 ⟨#[108,111,103]⟩ [[xNum 5,xLit oNul]] [] [] [] ⟨#[]⟩
theorem oLog:zeo∈zaj:=by simp [zaj,zeo]
theorem zxz:TabV oTb:=⟨zd9 oLog,by decide,RowsV.nil Zd,by decide,zy5 oLog⟩
theorem oOne {P:Tb->Prop} (h:P oTb):∀ x∈[oTb],P x:=fun x hx=>by
 simp only [List.mem_singleton] at hx
 subst hx;exact h
theorem oDin:DmlIn 3 oAc [] [oTb]:=by
 refine ⟨⟨by simp,fun l hl=>?_,by simp,fun q hq=>by simp at hq,by simp,fun s hs=>by simp at hs,by simp,fun x hx=>by simp at hx⟩,by simp,⟨by simp,fun f hf=>by simp at hf,fun f hf=>by simp at hf⟩,fun f hf=>by simp at hf,⟨by decide,oOne zxz.sch.short,oOne (P:=fun x=>x.rows.length<=1000) Zd,oOne (P:=fun x=>∀ r∈x.rows,∀ v∈r.vals,v.small) (fun r hr=>by cases hr)⟩,⟨oOne (P:=fun x=>∀ r∈x.rows,∀ v∈r.vals,v.Good) (fun r hr=>by cases hr),oOne (P:=fun x=>x.rows.length<=1000) Zd⟩,oOne (P:=fun x=>∀ r∈x.rows,zac r.vals) (fun r hr=>by cases hr)⟩
 simp only [List.mem_singleton] at hl
 subst hl
 refine ⟨by simp,fun x hx=>?_⟩
 simp only [List.mem_cons,List.not_mem_nil,or_false] at hx
 rcases hx with rfl|rfl
 ·exact zql (zbI Zd)
 ·exact zql zaH
abbrev oCh:Ch:=⟨[[za7,oNul]],[],[]⟩
theorem zrP:zaq 3 oAc [] [oTb]=(oCh,0):=by kernel_rfl
theorem oHome:HomeC 3 [oTb] oAc oTb 0:=by
 have hin:=oDin
 have hci:CandIn 3 oAc [] [oTb]:=⟨hin.ac,hin.fo,hin.fg,hin.to,hin.tg,hin.tv⟩
 have hact:actB (vX 3) oAc=true:=by kernel_rfl
 have hch:chgT 3 oAc [] [oTb] oTb=(oCh,0):=by kernel_rfl
 have htg:=hin.target
 have h2:tgt oAc (actB (vX 3) oAc) [oTb]=(zeo,0):=by kernel_rfl
 rw [h2] at htg
 refine ⟨oOne zxz,by decide,by kernel_rfl,rfl,by kernel_rfl,hin,zyq hin,fun h0=>?_,by rw [zrP,hch],htg⟩
 have h3:=zvl hci Zs Zs Zs zxz (by rw [hch])
 rw [zrP]
 rw [hch] at h3;exact h3
theorem zio:zab E0 S.AF [tsl [oTb],.sl [],.sl [],oAc.av,.sl [],.sl [],.sl []] [] (.tup [tsl [oTb2],.sl [],.sl [],iv 1,iv 0]) []:=by
 obtain ⟨m2,lf,n,e,hq,h⟩:=zvv oHome (ps:=[]) Zs
 obtain ⟨x,g,hx,hr⟩:=hq.ok (by rw [zrP])
 rw [zrP] at hx hr
 have hl:¬ zcm oTb oCh:=by
  unfold zcm
  simp [oTb]
 have hn:(zcS oTb oCh).Nodup:=by
  rw [show zcS oTb oCh=[] by kernel_rfl]
  exact List.nodup_nil
 obtain ⟨g0,hx2⟩:=hx.ok kr hl hn
 obtain ⟨r1,r2,r3,r4⟩:=hr.ok Zs g0
 rw [r1,r2,r3,r4,hx2,show apT oTb oCh=oTb2 by kernel_rfl] at h
 exact h
theorem zpQ  :∃ (r:Bool),r=true/\zab E0 S.C2 [] [] (bv r) []:=by
 exact ⟨bif bif bif bif bif (0:Int)==(0:Int) then (1:Int)==(1:Int) else false then (↑[[sv oTb2.sch.name,AV.sl [[sv (ByteArray.mk #[(110:UInt8)]),iv (1:Int),bv false,bv false],[sv (ByteArray.mk #[(115:UInt8)]),iv (3:Int),bv false,bv false]],iv oTb2.next,AV.sl [[iv (1:Int),AV.sl [[iv za7.kind,iv za7.int,sv za7.text],[iv oNul.kind,iv oNul.int,sv oNul.text]]]]]].length:Int)==(1:Int) else false then (↑[[iv (1:Int),AV.sl [[iv za7.kind,iv za7.int,sv za7.text],[iv oNul.kind,iv oNul.int,sv oNul.text]]]].length:Int)==(1:Int) else false then za7.kind==(zbZ (5:Int)).kind&&(za7.int==(zbZ (5:Int)).int&&(za7.text==(zbZ (5:Int)).text&&true)) else false then oTb2.next==(2:Int) else false,Zr,(by (try simp only [zsl,xCol,xLit,xBin,xNeg,Ac.cells,Se.cells,Pr.cells,Ch.cells,Rw.cells]);exact wk At.C2 [sc zlj,sc (znU 5),sc (zaO (V.mk 0 0 Zs0)),sc zio,sd [(3,[sg Zt]),(4,[sg Zt]),(7,[sg Zt]),(8,[sg Zt]),(9,[sg Zt]),(12,[sg Zt]),(13,[so Zt (se (xs:=[[sv oTb2.sch.name,AV.sl [[sv Zsn,iv 1,bv false,bv false],[sv (ByteArray.mk #[115]),iv 3,bv false,bv false]],iv oTb2.next,AV.sl [[iv 1,AV.sl [[iv za7.kind,iv za7.int,sv za7.text],[iv oNul.kind,iv oNul.int,sv oNul.text]]]]]]) (i:=0) (c:=[sv oTb2.sch.name,AV.sl [[sv Zsn,iv 1,bv false,bv false],[sv (ByteArray.mk #[115]),iv 3,bv false,bv false]],iv oTb2.next,AV.sl [[iv 1,AV.sl [[iv za7.kind,iv za7.int,sv za7.text],[iv oNul.kind,iv oNul.int,sv oNul.text]]]]]) (n:=4) ⟨by decide,rfl,rfl⟩)]),(14,[sg Zt]),(15,[sg Zt]),(16,[sg Zt]),(17,[sg Zt]),(20,[sg Zt]),(21,[so Zt (se (xs:=[[sv oTb2.sch.name,AV.sl [[sv Zsn,iv 1,bv false,bv false],[sv (ByteArray.mk #[115]),iv 3,bv false,bv false]],iv oTb2.next,AV.sl [[iv 1,AV.sl [[iv za7.kind,iv za7.int,sv za7.text],[iv oNul.kind,iv oNul.int,sv oNul.text]]]]]]) (i:=0) (c:=[sv oTb2.sch.name,AV.sl [[sv Zsn,iv 1,bv false,bv false],[sv (ByteArray.mk #[115]),iv 3,bv false,bv false]],iv oTb2.next,AV.sl [[iv 1,AV.sl [[iv za7.kind,iv za7.int,sv za7.text],[iv oNul.kind,iv oNul.int,sv oNul.text]]]]]) (n:=4) ⟨by decide,rfl,rfl⟩)]),(22,[sg Zt]),(23,[sg Zt]),(24,[so Zt (se (el_one (iv 1) (AV.sl [[iv za7.kind,iv za7.int,sv za7.text],[iv oNul.kind,iv oNul.int,sv oNul.text]])))]),(25,[sg Zt]),(26,[sg Zt]),(27,[so Zt (se (xs:=[[iv za7.kind,iv za7.int,sv za7.text],[iv oNul.kind,iv oNul.int,sv oNul.text]]) (i:=0) (c:=[iv za7.kind,iv za7.int,sv za7.text]) (n:=3) ⟨by decide,rfl,rfl⟩)]),(28,[sg Zt]),(29,[so Zt (sc (zbT 5))]),(30,[so Zt (sq za3)]),(33,[sg Zt]),(34,[so Zt (se (xs:=[[sv oTb2.sch.name,AV.sl [[sv Zsn,iv 1,bv false,bv false],[sv (ByteArray.mk #[115]),iv 3,bv false,bv false]],iv oTb2.next,AV.sl [[iv 1,AV.sl [[iv za7.kind,iv za7.int,sv za7.text],[iv oNul.kind,iv oNul.int,sv oNul.text]]]]]]) (i:=0) (c:=[sv oTb2.sch.name,AV.sl [[sv Zsn,iv 1,bv false,bv false],[sv (ByteArray.mk #[115]),iv 3,bv false,bv false]],iv oTb2.next,AV.sl [[iv 1,AV.sl [[iv za7.kind,iv za7.int,sv za7.text],[iv oNul.kind,iv oNul.int,sv oNul.text]]]]]) (n:=4) ⟨by decide,rfl,rfl⟩)]),(35,[sg Zt]),(36,[sg Zt]),(37,[sg Zt])]] kr)⟩
theorem zp8:zab E0 S.C2 [] [] (bv true) []:=by
 obtain ⟨r,rfl,h⟩:=zpQ
 exact h
theorem zkS {p:Prop} (h:p:=by first|assumption|omega|(simp;done)|(simp;omega)):p:=h
theorem sQ3_2 {p:Prop} (h:p:=by first|trivial|assumption|(simp;done)|omega|(simp;omega)|(simp at *;omega)):p:=h
theorem zx1:StructEq E0.P Ty.Column [.str,.int .i64,.bool,.bool] :=
 zzu E0ok (fs:=E0.P.fieldsOf Ty.Column) kr kr kr kr
theorem zhV (l:List V) (hl:zac l):zab E0 S.AX [vsl l,vsl l] [] (bv true) []:=by
 obtain ⟨r,rfl,h⟩:=ze6 l hl
 exact h
noncomputable def L_eqC (l:List Col) (i:Nat) :Cfg:=zag B.Be 0 [(0,.sl (l.map Col.cells)),(1,.sl (l.map Col.cells)),(12,iv ((l.map Col.cells).length:Nat)),(13,iv (i:Nat))] []
theorem ze3 (l:List Col) (hl:zac l) (i:Nat)  (hi:i<=(l).length) (hI:True):(True)/\(decide ((((l).length:Nat):Int) < (((l.map Col.cells).length:Nat):Int))=false)/\∀ R,Good E0 B.Be [] (L_eqC l (l).length ) R->Good E0 B.Be [] (L_eqC l i ) R:=by
 have hk:=hi;revert i hI;refine zlp ((l).length) (fun i hlt ih hi hI _=>?_)
 obtain ⟨x,hx,h0,hw⟩:=zlq (l:=l) ((l.map Col.cells).length) hlt
 cases h1:!(x.name==x.name&&(x.type==x.type&&(x.notNull==x.notNull&&(x.key==x.key&&true))))
 ·obtain ⟨qZ,xZ,gZ⟩:=ih Zo sQ3_2 Zo;exact ⟨qZ,xZ,fun R hg=>zaa (wkl [sb h0,sd [(2,[se (zae Col.cells hx rfl)]),(6,[se (zae Col.cells hx rfl)]),(8,[sq zx1])],sb h1,si hw] [0,1,12,13] 0 kr (gZ R hg))⟩
 ·exact False.elim (by simp at *)
theorem zjC (l:List Col) (hl:zac l) (hz:((((l.map Col.cells).length:Nat):Int) != (((l.map Col.cells).length:Nat):Int))=false):∃ (r:Bool),r=true/\zab E0 S.Be [.sl (l.map Col.cells),.sl (l.map Col.cells)] [] (bv r) []:=by
 obtain ⟨q1,q1_1,g1⟩:=ze3 l zkS 0 zkS zkS
 exact ⟨true,Zr,wkc At.Be [sb hz] [0,1,12,13] 0 kr (g1 _ (zaa (wkr [sb q1_1] kr)))⟩
theorem zhb (l:List Col) (hl:zac l):zab E0 S.Be [.sl (l.map Col.cells),.sl (l.map Col.cells)] [] (bv true) []:=by
 obtain ⟨r,rfl,h⟩:=zjC l hl Zs
 exact h
theorem zyp (x:Rw) (hA0:(x.id==x.id)=true) (hs:zac x.vals):∃ (r:Bool),r=true/\zab E0 S.Bn [.agg x.cells,.agg x.cells] [] (bv r) []:=by
 exact ⟨true,Zr,wk At.Bn [sg hA0,sc (zhV x.vals Za)] kr⟩
theorem zoW (x:Rw) (hs:zac x.vals):zab E0 S.Bn [.agg x.cells,.agg x.cells] [] (bv true) []:=by
 obtain ⟨r,rfl,h⟩:=zyp x Zs hs
 exact h
noncomputable def L_smW (l:List Rw) (i:Nat) :Cfg:=zag B.Al 0 [(1,.sl (l.map Rw.cells)),(2,.fn S.Bn []),(15,.sl (l.map Rw.cells)),(16,iv ((l.map Rw.cells).length:Nat)),(17,iv (i:Nat))] []
theorem zb4 (l:List Rw) (hl:zac l) (hf:∀ x∈l,zab E0 S.Bn [(.agg x.cells),(.agg x.cells)] [] (bv true) []) (i:Nat)  (hi:i<=(l).length) (hI:True):(True)/\(decide ((((l).length:Nat):Int) < (((l.map Rw.cells).length:Nat):Int))=false)/\∀ R,Good E0 B.Al [] (L_smW l (l).length ) R->Good E0 B.Al [] (L_smW l i ) R:=by
 have hk:=hi;revert i hI;refine zlp ((l).length) (fun i hlt ih hi hI _=>?_)
 obtain ⟨x,hx,h0,hw⟩:=zlq (l:=l) ((l.map Rw.cells).length) hlt
 have hfx:=hf x (List.mem_of_getElem? hx)
 obtain ⟨qZ,xZ,gZ⟩:=ih Zo sQ3_2 Zo;exact ⟨qZ,xZ,fun R hg=>zaa (wkl [sb h0,se (zae Rw.cells hx rfl),se (zae Rw.cells hx rfl),sc hfx,sb Zf,si hw] [1,2,15,16,17] 0 kr (gZ R hg))⟩
theorem zcw (l:List Rw) (hl:zac l) (hf:∀ x∈l,zab E0 S.Bn [(.agg x.cells),(.agg x.cells)] [] (bv true) []) (hz:((((l.map Rw.cells).length:Nat):Int) != (((l.map Rw.cells).length:Nat):Int))=false):∃ (r:Bool),r=true/\zab E0 S.Al [.sl (l.map Rw.cells),.sl (l.map Rw.cells),.fn S.Bn []] [] (bv r) []:=by
 obtain ⟨q1,q1_1,g1⟩:=zb4 l zkS zkS 0 zkS zkS
 exact ⟨true,Zr,wkc At.Al [sb hz] [1,2,15,16,17] 0 kr (g1 _ (zaa (wkr [sb q1_1] kr)))⟩
theorem zcx (l:List Rw) (hl:zac l) (hf:∀ x∈l,zab E0 S.Bn [(.agg x.cells),(.agg x.cells)] [] (bv true) []):zab E0 S.Al [.sl (l.map Rw.cells),.sl (l.map Rw.cells),.fn S.Bn []] [] (bv true) []:=by
 obtain ⟨r,rfl,h⟩:=zcw l hl hf Zs
 exact h
theorem zss (x:Sch) (hA0:(x.name.toList==x.name.toList)=true) (hs:zac x.cols):∃ (r:Bool),r=true/\zab E0 S.CS [x.av,x.av] [] (bv r) []:=by
 exact ⟨true,Zr,wk At.CS [sg hA0,sc (zhb x.cols Za)] kr⟩
theorem zlX (x:Sch) (hs:zac x.cols):zab E0 S.CS [x.av,x.av] [] (bv true) []:=by
 obtain ⟨r,rfl,h⟩:=zss x Zs hs
 exact h
theorem zue (x:Tb) (hA0:(x.next==x.next)=true) (hs:zac x.sch.cols) (hr:zac x.rows) (hf:∀ y∈x.rows,zab E0 S.Bn [.agg y.cells,.agg y.cells] [] (bv true) []):∃ (r:Bool),r=true/\zab E0 S.BH [.agg x.cells,.agg x.cells] [] (bv r) []:=by
 exact ⟨true,Zr,wk At.BH [sc (zlX x.sch Za),sg Zt,sg hA0,sc (zcx x.rows Za Za)] kr⟩
theorem zgZ (x:Tb) (hs:zac x.sch.cols) (hr:zac x.rows) (hv:∀ r∈x.rows,zac r.vals):zab E0 S.BH [.agg x.cells,.agg x.cells] [] (bv true) []:=by
 obtain ⟨r,rfl,h⟩:=zue x Zs hs hr fun y hy=>zoW y (hv y hy)
 exact h
theorem zcv {p:Prop} (h:p:=by first|assumption|rfl|exact ao_ix ‹_› ‹_›|exact ao_sh ‹_›|exact AoS.x ‹_› ‹_› ‹_› ‹_›|exact (AoS.z ‹_› ‹_› ‹_› ‹_›).lf|exact zls ‹_›|omega|(simp;done)):p:=h
theorem ziP {p:Prop} (h:p:=by first|rfl|exact (AoS.err ‹_› ‹_› ‹_›).elim|exact (AoS.n1 ‹_› ‹_› ‹_› ‹_› ‹_›).elim|exact (AoS.n2 ‹_› ‹_› ‹_› ‹_› ‹_›).elim|exact (AoS.n3 ‹_› ‹_› ‹_› ‹_› ‹_›).elim|exact (AoS.n4 ‹_› ‹_› ‹_› ‹_› ‹_›).elim):p:=h
theorem zsb {p:Prop} (h:p:=by first|trivial|assumption|(simp;done)|omega|(simp;omega)|(simp at *;omega)):p:=h
theorem zsc {p:Prop} (h:p:=by first|assumption|omega|(simp;done)|(simp;omega)):p:=h
def homeP :Pl :=
 Pl.mk [] zaj
theorem ztm  (hs:zac zaj):zab E0 S.DH [] [] homeP.av []:=by
 exact wk At.DH [sc zfg] kr
abbrev ixA (m:List Tb) (a:Ac):Int:=idxF (fun t=>zan t a.table) m 0
theorem AoZ.s1 {m m2:List Tb} {a:Ac} {ps lf:List Int} {n e:Int} {w x y:Tb} {i:Nat} (hz:AoZ m a ps m2 lf n e w) (hv:∀ t∈m,ShT t) (hx:m[i]?=some x) (hy:m2[i]?=some y) (h:(((i:Nat):Int) != ixA m a)=true):zab E0 S.BH [.agg y.cells,.agg x.cells] [] (bv true) []:=by
 have e:=hz.ne i x y hx hy (by simpa using h)
 subst e
 obtain ⟨h1,h2,h3⟩:=hv y (List.mem_of_getElem? hx)
 exact zgZ y h1 h2 h3
theorem AoZ.s2 {m m2:List Tb} {a:Ac} {ps lf:List Int} {n e:Int} {w y:Tb} {i:Nat} (hz:AoZ m a ps m2 lf n e w) (hy:m2[i]?=some y) (h:(((i:Nat):Int)==ixA m a)=true):zab E0 S.BH [.agg y.cells,.agg w.cells] [] (bv true) []:=by
 have e:=hz.at_ i y hy (by simpa using h)
 subst e
 obtain ⟨h1,h2,h3⟩:=hz.wv
 exact zgZ y h1 h2 h3
theorem ao_sh {m:List Tb} (hm:StoreV 5 m):∀ t∈m,ShT t:=fun x hx=>by
 have h:=hm.tabV Zd hx
 exact ⟨h.sch.short,h.shr,h.vals⟩
def AoX (m:List Tb) (a:Ac) (m2:List Tb) (w:Tb):Prop:=∃ ps lf n e,AoZ m a ps m2 lf n e w
section
variable {m m2 : List Tb} {a : Ac} {ps lf : List Int} {n e g : Int} {w : Tb}
abbrev ApW (m:List Tb) (a:Ac) (w:Tb) (g:Int):Prop:=ApX (tabC m a.table) (zaq 5 a [] m).1 w g/\((g != 0)=false->ShT w)
theorem AoS.z (q:AoS m a ps m2 lf n e) (h:((zaq 5 a [] m).2 != 0)=false) (hw:ApW m a w g) (hg:(g != 0)=false):AoZ m a ps m2 lf n e w:=q.good h hw.1 hg (hw.2 hg)
theorem AoS.x (q:AoS m a ps m2 lf n e) (h:((zaq 5 a [] m).2 != 0)=false) (hw:ApW m a w g) (hg:(g != 0)=false):AoX m a m2 w:=⟨_,_,_,_,q.z h hw hg⟩
theorem AoS.n1 (q:AoS m a ps m2 lf n e) (h:((zaq 5 a [] m).2 != 0)=false) (hw:ApW m a w g) (hg:(g != 0)=false) (h8:(e != 0)=true):False:=by
 rw [(q.z h hw hg).e0] at h8;simp at h8
theorem AoS.n2 (q:AoS m a ps m2 lf n e) (h:((zaq 5 a [] m).2 != 0)=false) (hw:ApW m a w g) (hg:(g != 0)=false) (h9:((((m2.map Tb.cells).length:Nat):Int) != (((m.map Tb.cells).length:Nat):Int))=true):False:=by
 rw [List.length_map,List.length_map,(q.z h hw hg).len] at h9;simp at h9
theorem AoS.n3 (q:AoS m a ps m2 lf n e) (h:((zaq 5 a [] m).2 != 0)=false) (hw:ApW m a w g) (hg:(g != 0)=false) (h9:(n != nLo (zaq 5 a [] m).1)=true):False:=by
 rw [(q.z h hw hg).n] at h9;simp at h9
theorem AoS.n4 (q:AoS m a ps m2 lf n e) (h:((zaq 5 a [] m).2 != 0)=false) (hw:ApW m a w g) (hg:(g != 0)=true) (h2:(e==g)=false):False:=q.bad h hw.1 hg h2
end
noncomputable def L_aoL (u:Tp) (m m2:List Tb) (a:Ac) (w:Tb) (i:Nat) :Cfg:=zag B.Ar 0 [(6,tsl m),(8,tsl m2),(15,iv (idxF (fun t=>zan t a.table) m 0)),(16,.p 3 0),(107,iv ((m.map Tb.cells).length:Nat)),(108,iv (i:Nat))] [.box u.cells,.box a.cells,.box (zaq 5 a [] m).1.cells,.box w.cells]
theorem zer (u:Tp) (m m2:List Tb) (a:Ac) (w:Tb) (hz:AoX m a m2 w) (hv:∀ t∈m,ShT t) (hlm:zac m) (i:Nat)  (hi:i<=(m).length) (hI:True):(True)/\(decide ((((m).length:Nat):Int) < (((m.map Tb.cells).length:Nat):Int))=false)/\∀ R,Good E0 B.Ar [] (L_aoL u m m2 a w (m).length ) R->Good E0 B.Ar [] (L_aoL u m m2 a w i ) R:=by
 have hk:=hi;revert i hI;refine zlp ((m).length) (fun i hlt ih hi hI _=>?_)
 obtain ⟨x,hx,h0,hw⟩:=zlq (l:=m) ((m.map Tb.cells).length) hlt
 obtain ⟨ps,lf,n,e,hZ⟩:=hz
 obtain ⟨y,hy⟩:=za4 (l:=m2) (i:=i) (by have:=zbu hx;have:=hZ.len;omega)
 have hS1:(((i:Nat):Int) != idxF (fun t=>zan t a.table) m 0)=true->zab E0 S.BH [.agg y.cells,.agg x.cells] [] (bv true) []:=hZ.s1 hv hx hy
 have hS2:(((i:Nat):Int)==idxF (fun t=>zan t a.table) m 0)=true->zab E0 S.BH [.agg y.cells,.agg w.cells] [] (bv true) []:=hZ.s2 hy
 have f1:(bif (((i:Nat):Int) != idxF (fun t=>zan t a.table) m 0) then !true else false)=false:=by cases ((i:Nat):Int) != idxF (fun t=>zan t a.table) m 0 <;> rfl
 have f2:(bif (((i:Nat):Int)==idxF (fun t=>zan t a.table) m 0) then !true else false)=false:=by cases ((i:Nat):Int)==idxF (fun t=>zan t a.table) m 0 <;> rfl
 have f3:(bif (bif (((i:Nat):Int) != idxF (fun t=>zan t a.table) m 0) then !true else false) then true else bif (((i:Nat):Int)==idxF (fun t=>zan t a.table) m 0) then !true else false)=false:=by rw [f1];exact f2
 cases h1:(i:Int) != idxF (fun t=>zan t a.table) m 0
 ·cases h2:(i:Int)==idxF (fun t=>zan t a.table) m 0
  ·obtain ⟨qZ,xZ,gZ⟩:=ih Zo zsb Zo;exact ⟨qZ,xZ,fun R hg=>zaa (wkl [sb h0,sd [(4,[sb h1]),(5,[sb h1]),(6,[sb h1]),(7,[sb h1]),(8,[sb h1]),(9,[sb h1]),(10,[sb h1]),(11,[sb h1]),(12,[sb h1]),(13,[sb h1]),(14,[sb h1]),(20,[sb h2]),(21,[sb h2]),(22,[sb h2]),(23,[sb h2]),(24,[sb h2]),(25,[sb h2]),(26,[sb h2]),(27,[sb h2])],si hw] [6,8,15,16,107,108] 4 kr (gZ R hg))⟩
  ·obtain ⟨qZ,xZ,gZ⟩:=ih Zo zsb Zo;exact ⟨qZ,xZ,fun R hg=>zaa (wkl [sb h0,sd [(4,[sb h1]),(5,[sb h1]),(6,[sb h1]),(7,[sb h1]),(8,[sb h1]),(9,[sb h1]),(10,[sb h1]),(11,[sb h1]),(12,[sb h1]),(13,[sb h1]),(14,[sb h1]),(20,[sg h2]),(21,[sg h2]),(22,[so h2 (se (zae Tb.cells hy rfl))]),(23,[sg h2]),(24,[sg h2]),(25,[so h2 (sc (hS2 zsc))]),(26,[sg h2])],sb f2,si hw] [6,8,15,16,107,108] 4 kr (gZ R hg))⟩
 ·cases h3:(i:Int)==idxF (fun t=>zan t a.table) m 0
  ·cases h4:bif bif (i:Int) != idxF (fun t=>zan t a.table) m 0 then !true else false then true else false
   ·obtain ⟨qZ,xZ,gZ⟩:=ih Zo zsb Zo;exact ⟨qZ,xZ,fun R hg=>zaa (wkl [sb h0,sd [(4,[sg h1]),(5,[sg h1]),(6,[so h1 (se (zae Tb.cells hy rfl))]),(7,[sg h1]),(8,[sg h1]),(9,[sg h1]),(10,[so h1 (se (zae Tb.cells hx rfl))]),(11,[sg h1]),(12,[so h1 (sc (hS1 zsc))]),(13,[sg h1]),(16,[sg f1]),(17,[sg f1]),(18,[sg f1]),(19,[sg f1]),(20,[sb h3]),(21,[sb h3]),(22,[sb h3]),(23,[sb h3]),(24,[sb h3]),(25,[sb h3]),(26,[sb h3]),(27,[so f1 (sb h3)])],sb h4,si hw] [6,8,15,16,107,108] 4 kr (gZ R hg))⟩
   ·exact False.elim (by simp_all)
  ·obtain ⟨qZ,xZ,gZ⟩:=ih Zo zsb Zo;exact ⟨qZ,xZ,fun R hg=>zaa (wkl [sb h0,sd [(4,[sg h1]),(5,[sg h1]),(6,[so h1 (se (zae Tb.cells hy rfl))]),(7,[sg h1]),(8,[sg h1]),(9,[sg h1]),(10,[so h1 (se (zae Tb.cells hx rfl))]),(11,[sg h1]),(12,[so h1 (sc (hS1 zsc))]),(13,[sg h1]),(16,[sg f1]),(17,[sg f1]),(18,[sg f1]),(19,[sg f1]),(20,[sg h3]),(21,[sg h3]),(22,[so h3 (se (zae Tb.cells hy rfl))]),(23,[sg h3]),(24,[sg h3]),(25,[so h3 (sc (hS2 zsc))]),(26,[sg h3]),(27,[sg f1])],sb f3,si hw] [6,8,15,16,107,108] 4 kr (gZ R hg))⟩
theorem zwM (l ps:List Int) (hsh:zac zaj) (hp:Room ps) (hkn:zab E0 S.C2 [] [] (bv true) []) (hfi:∀ (m:List Tb) (a:Ac),StoreV 5 m->ActT zaj 5 [] a->zab E0 S.B5 [tsl m,sv a.table] [] (iv (idxF (fun t=>zan t a.table) m 0)) []):∃ (b:Bool),b=true/\zab E0 S.Ar [isl l,isl ps] [] (bv b) []:=by
 obtain ⟨t1,c1⟩:=(zva l)
 obtain ⟨m2,t2,q2,c2⟩:=(zjy t1 5 zcv)
 obtain ⟨r3,t3,q3,c3⟩:=(ziw t2)
 obtain ⟨m24,lf4,n4,e4,q4,c4⟩:=(zlo m2 r3 ps zcv zcv zcv)
 let p_1:List St:=[sc c1,sl [0] c2,sc (ztm zcv),sl [0] c3,sc c4,sc (ziX m2 r3 zcv zcv)]
 cases h5:(zaq 5 r3 [] m2).snd != 0
 ·obtain ⟨w6,g6,q6,c6⟩:=(zn7 m2 r3 zcv zcv zcv)
  let p_2:List St:=p_1++[sb h5,sc (hfi m2 r3 zcv zcv),sdm [(2,[se (zmG m2 r3.table zcv)]),(5,[sc c6])] 0 [(0,AV.sl (List.map (fun n=>[iv n]) l)),(1,AV.sl (List.map (fun n=>[iv n]) ps)),(4,AV.bl false),(5,AV.p 0 0),(6,tsl m2),(7,AV.p 1 0),(8,tsl m24),(9,AV.sl (List.map (fun n=>[iv n]) lf4)),(10,AV.sl []),(11,iv n4),(12,iv e4),(13,AV.p 2 0),(14,iv (zaq 5 r3 [] m2).snd),(15,iv (idxF (fun t=>zan t r3.table) m2 0)),(16,AV.p 3 0),(17,iv g6),(19,AV.sl (List.map (fun n=>[iv n]) l)),(20,AV.p 0 0),(21,AV.p 0 0),(22,tsl m2),(23,AV.p 0 0),(24,AV.agg [AV.sl [],AV.sl [[sv Zsl,AV.sl [[sv Zsn,iv 1,bv false,bv false],[sv (ByteArray.mk #[115]),iv 3,bv false,bv false]]],[sv (ByteArray.mk #[116]),AV.sl [[sv Zsi,iv 1,bv true,bv true],[sv Zsn,iv 1,bv false,bv false],[sv (ByteArray.mk #[98]),iv 2,bv false,bv false],[sv (ByteArray.mk #[115]),iv 3,bv false,bv false]]],[sv Zsu,AV.sl [[sv Zsi,iv 1,bv true,bv true],[sv Zsn,iv 1,bv true,bv false],[sv (ByteArray.mk #[109]),iv 1,bv false,bv false]]]]]),(25,AV.agg [iv r3.kind,sv r3.table,AV.sl (List.map (fun r=>[AV.sl (zad r)]) r3.rows),AV.sl (zah r3.query),ZE r3.sets,AV.sl (zad r3.wh),sv r3.text]),(26,AV.tup [tsl m24,AV.sl (List.map (fun n=>[iv n]) lf4),AV.sl [],iv n4,iv e4]),(27,tsl m2),(28,AV.agg [iv r3.kind,sv r3.table,AV.sl (List.map (fun r=>[AV.sl (zad r)]) r3.rows),AV.sl (zah r3.query),ZE r3.sets,AV.sl (zad r3.wh),sv r3.text]),(29,AV.sl (List.map (fun n=>[iv n]) ps)),(30,AV.tup [tsl m24,AV.sl (List.map (fun n=>[iv n]) lf4),AV.sl [],iv n4,iv e4]),(31,tsl m24),(32,AV.sl (List.map (fun n=>[iv n]) lf4)),(33,AV.sl []),(34,iv n4),(35,iv e4),(36,AV.tup [AV.agg [AV.sl (List.map vrow (zaq 5 r3 [] m2).fst.ins),AV.sl (List.map (fun n=>[iv n]) (zaq 5 r3 [] m2).fst.del),AV.sl (List.map Pr.cells (zaq 5 r3 [] m2).fst.upd)],iv (zaq 5 r3 [] m2).snd]),(37,AV.agg [iv r3.kind,sv r3.table,AV.sl (List.map (fun r=>[AV.sl (zad r)]) r3.rows),AV.sl (zah r3.query),ZE r3.sets,AV.sl (zad r3.wh),sv r3.text]),(38,tsl m2),(39,AV.tup [AV.agg [AV.sl (List.map vrow (zaq 5 r3 [] m2).fst.ins),AV.sl (List.map (fun n=>[iv n]) (zaq 5 r3 [] m2).fst.del),AV.sl (List.map Pr.cells (zaq 5 r3 [] m2).fst.upd)],iv (zaq 5 r3 [] m2).snd]),(40,AV.agg [AV.sl (List.map vrow (zaq 5 r3 [] m2).fst.ins),AV.sl (List.map (fun n=>[iv n]) (zaq 5 r3 [] m2).fst.del),AV.sl (List.map Pr.cells (zaq 5 r3 [] m2).fst.upd)]),(41,iv (zaq 5 r3 [] m2).snd),(42,iv (zaq 5 r3 [] m2).snd),(43,AV.bl false),(50,tsl m2),(51,AV.p 1 1),(52,sv r3.table),(53,iv (idxF (fun t=>zan t r3.table) m2 0)),(54,AV.tup [AV.agg [sv w6.sch.name,ZC w6.sch.cols,iv w6.next,ZW w6.rows],iv g6]),(55,tsl m2),(56,iv (idxF (fun t=>zan t r3.table) m2 0)),(57,AV.dp [sv (tabC m2 r3.table).sch.name,AV.sl (List.map Col.cells (tabC m2 r3.table).sch.cols),iv (tabC m2 r3.table).next,AV.sl (List.map Rw.cells (tabC m2 r3.table).rows)]),(58,AV.agg [sv (tabC m2 r3.table).sch.name,AV.sl (List.map Col.cells (tabC m2 r3.table).sch.cols),iv (tabC m2 r3.table).next,AV.sl (List.map Rw.cells (tabC m2 r3.table).rows)]),(59,AV.agg [AV.sl (List.map vrow (zaq 5 r3 [] m2).fst.ins),AV.sl (List.map (fun n=>[iv n]) (zaq 5 r3 [] m2).fst.del),AV.sl (List.map Pr.cells (zaq 5 r3 [] m2).fst.upd)]),(60,AV.tup [AV.agg [sv w6.sch.name,ZC w6.sch.cols,iv w6.next,ZW w6.rows],iv g6]),(61,AV.agg [sv w6.sch.name,ZC w6.sch.cols,iv w6.next,ZW w6.rows]),(62,iv g6)] [Blk.box [AV.sl (List.map (fun n=>[iv n]) t3.l),iv (t3.pos:Int)],Blk.box [iv r3.kind,sv r3.table,AV.sl (List.map (fun r=>[AV.sl (zad r)]) r3.rows),AV.sl (zah r3.query),ZE r3.sets,AV.sl (zad r3.wh),sv r3.text],Blk.box [AV.sl (List.map vrow (zaq 5 r3 [] m2).fst.ins),AV.sl (List.map (fun n=>[iv n]) (zaq 5 r3 [] m2).fst.del),AV.sl (List.map Pr.cells (zaq 5 r3 [] m2).fst.upd)],Blk.box [sv w6.sch.name,ZC w6.sch.cols,iv w6.next,ZW w6.rows]]]
  cases h7:g6 != 0
  ·cases h8:e4 != 0
   ·cases h9:(↑(List.map Tb.cells m24).length:Int) != (↑(List.map Tb.cells m2).length:Int)
    ·let p_3:List St:=p_2++[sb h7,sg h8,sg h9,sg Zf,sc (zhW lf4 ps zcv zcv),sg Zf,si (e:=IntKind.i64.wrap ((↑(List.map vrow (zaq 5 r3 [] m2).fst.ins).length:Int)+(↑(List.map (fun n=>[iv n]) (zaq 5 r3 [] m2).fst.del).length:Int))) rfl,si (e:=IntKind.i64.wrap (IntKind.i64.wrap ((↑(List.map vrow (zaq 5 r3 [] m2).fst.ins).length:Int)+(↑(List.map (fun n=>[iv n]) (zaq 5 r3 [] m2).fst.del).length:Int))+(↑(List.map Pr.cells (zaq 5 r3 [] m2).fst.upd).length:Int))) rfl]
     cases h10:n4 != IntKind.i64.wrap (IntKind.i64.wrap ((↑(List.map vrow (zaq 5 r3 [] m2).fst.ins).length:Int)+(↑(List.map (fun n=>[iv n]) (zaq 5 r3 [] m2).fst.del).length:Int))+(↑(List.map Pr.cells (zaq 5 r3 [] m2).fst.upd).length:Int))
     ·obtain ⟨q11,q11_1,g11⟩:=zer t3 m2 m24 r3 w6 zcv zcv zcv 0 zcv zcv
      exact ⟨true,ziP,wkc At.Ar (p_3++[sb h10]) [6,8,15,16,107,108] 4 kr (g11 _ (zaa (wkr [sb q11_1,sc hkn] kr)))⟩
     ·exact ⟨false,ziP,wk At.Ar (p_3++[sb h10]) kr⟩
    ·exact ⟨false,ziP,wk At.Ar (p_2++[sb h7,sg h8,sb h9]) kr⟩
   ·exact ⟨false,ziP,wk At.Ar (p_2++[sb h7,sb h8]) kr⟩
  ·cases h12:e4==g6
   ·exact ⟨false,ziP,wk At.Ar (p_2++[sb h7,sb h12]) kr⟩
   ·exact ⟨true,ziP,wk At.Ar (p_2++[sb h7,so h12 (sc hkn)]) kr⟩
 ·cases h13:e4==(zaq 5 r3 [] m2).snd
  ·exact ⟨false,ziP,wk At.Ar (p_1++[sb h5,sb h13]) kr⟩
  ·exact ⟨true,ziP,wk At.Ar (p_1++[sb h5,so h13 (sc hkn)]) kr⟩
theorem zuc (l ps:List Int) (hp:Room ps):zab E0 S.Ar [isl l,isl ps] [] (bv true) []:=by
 obtain ⟨b,rfl,h⟩:=zwM l ps zeI hp zp8 fun m a hm _=>zuP m a.table (zls hm)
 exact h
end Go.AM
namespace Go.AM
open Go.RowKit
abbrev old (W:World):Addr->Prop:=fun a=>a.block < W.heap.size
theorem zvk {W:World} {a:Addr} {v:Value} (h:W.cell? a=some v):a.block < W.heap.size:=by
 unfold World.cell? at h
 cases hb:W.heap[a.block]? with
 | none=>rw [hb] at h;cases h
 | some o=>exact (Array.getElem?_eq_some_iff.1 hb).1
theorem relD_strs {W:World} {g:Nat} (l:List Str) (h:∀ (j:Nat) (s:Str),l[j]?=some s->W.cell? ⟨g,j,none⟩=some (.string s)):RelD W (old W) (.dp (l.map sv)) (.pointer (some ⟨g,0,none⟩)):=by
 refine .dp _ g 0 (fun j=>.string (l.getD j ⟨#[]⟩)) (fun j x hx=>?_) (fun j x hx=>?_)
 ·simp only [List.getElem?_map,Option.map_eq_some_iff] at hx
  obtain ⟨s,hs,rfl⟩:=hx
  have hc:=h j s hs
  rw [Nat.zero_add]
  refine ⟨zvk hc,?_,rfl⟩
  rw [hc,List.getD_eq_getElem?_getD,hs];rfl
 ·simp only [List.getElem?_map,Option.map_eq_some_iff] at hx
  obtain ⟨s,hs,rfl⟩:=hx
  have:l.getD j ⟨#[]⟩=s:=by rw [List.getD_eq_getElem?_getD,hs];rfl
  simp only [this]
  exact .v _ rfl
theorem zzY {s:ByteArray} {l:List UInt8} (h:s.data.toList=l):s=zfk l:=by
 cases s with
 | mk d=>simp only [zfk];congr;rw [← h]
theorem laid_strs {P:Program} {W:World} {n:String} {g:Nat} {t e:TypeId} {k:Nat} {l:List (List UInt8)} (hr:Lib.VarReads P W n (.agg (l.map fun b=>.lit (.string b)))) (hg:P.globalNamed n=some g) (hty:(P.globals[g]?).map (·.type)=some t)
  (ht:P.underlying t=some (.array k e)) (he:P.underlying e=some .string) (hc:P.cellsOf e=1) (hk:l.length=k):∀ (j:Nat) (s:Str),(l.map zfk)[j]?=some s->W.cell? ⟨g,j,none⟩=some (.string s):=by
 intro j s hs
 obtain ⟨g',t',cs,fuel,p,h1,h2,h3,h4⟩:=hr
 obtain rfl:g'=g:=Option.some.inj (h1.symm.trans hg)
 obtain rfl:t'=t:=Option.some.inj (h2.symm.trans hty)
 simp only [List.getElem?_map,Option.map_eq_some_iff] at hs
 obtain ⟨b,hb,rfl⟩:=hs
 have hj:=zbu hb
 obtain ⟨f',d,q,hd,hq⟩:=Lib.array_elem ht h4 j Zo
 simp only [List.getElem?_map,hb,Option.map_some,Option.some.injEq] at hd
 subst hd
 obtain ⟨s,e1,e2,_⟩:=DataW.trod_string he hq
 rw [World.var?_cell h1 h3]
 rw [hc,Nat.mul_one] at e1
 have e3:cs.toList[j]?=some (.string s):=by
  have:=congrArg (·[0]?) e1
  simpa [List.getElem?_take,List.getElem?_drop] using this
 have e4:s=zfk b:=zzY (by simp only [Prod.mk.injEq,DataW.lit.injEq,Lit.string.injEq] at e2;exact e2.1.symm)
 rw [← e4]
 simpa using e3
theorem relV_ints {W:World} {a:Addr} {len cap:Nat} {zs:List Int} (h1:len<=cap) (h2:cap<=maxLen) (h3:zs.length=cap) (hc:∀ i,i < zs.length->W.cell? (a.add i)=some (.int .i64 (zs.getD i 0))) :
  RelV E0.T [] [] W (old W) (isl (zs.take len)) (.slice (some a) len cap):=by
 have hlen:((zs.take len).map fun n=>[iv n]).length=len:=by simp;omega
 have key:=RelD.sl (w:=W) (S:=old W) ((zs.take len).map fun n=>[iv n]) (some a) cap a.block a.off 1 (fun k=>.int .i64 (zs.getD k 0)) ?_ (by rw [hlen];exact h1) h2 (fun i c hi=>?_) (fun i j c x hi hj=>?_) (fun i j c x hi hj=>?_)
 ·rw [hlen] at key
  exact .d _ _ key
 ·intro hne
  have hz:0 < zs.length:=by
   rcases Nat.eq_zero_or_pos zs.length with h|h
   ·exact absurd (by simp [List.eq_nil_of_length_eq_zero h]) hne
   ·exact h
  have h0:=hc 0 hz
  have:a.spot=none:=by
   simp only [Addr.add,if_pos] at h0
   unfold World.cell? at h0
   split at h0
   ·cases hs:a.spot with
    | none=>rfl
    | some x=>rw [hs] at h0;simp at h0
   ·cases h0
  cases a
  simp only at this
  subst this
  rfl
 ·simp only [List.getElem?_map,Option.map_eq_some_iff] at hi
  obtain ⟨n,_,rfl⟩:=hi
  rfl
 ·simp only [List.getElem?_map,Option.map_eq_some_iff] at hi
  obtain ⟨n,hn,rfl⟩:=hi
  have hi2:=zbu hn
  simp only [List.length_take] at hi2
  have hj0:j=0:=by
   cases j with
   | zero=>rfl
   | succ j=>simp at hj
  subst hj0
  have h0:=hc i Zo
  have e:a.add i=⟨a.block,a.off+(i * 1+0),none⟩:=by
   unfold Addr.add
   split
   ·rename_i hi0
    subst hi0
    have:a.spot=none:=by
     simp only [Addr.add,if_pos] at h0
     unfold World.cell? at h0
     split at h0
     ·cases hs:a.spot with
      | none=>rfl
      | some x=>rw [hs] at h0;simp at h0
     ·cases h0
    cases a
    simp only at this
    subst this
    rfl
   ·simp
  rw [e] at h0
  refine ⟨zvk h0,?_,rfl⟩
  rw [h0];simp
 ·simp only [List.getElem?_map,Option.map_eq_some_iff] at hi
  obtain ⟨n,hn,rfl⟩:=hi
  have hj0:j=0:=by
   cases j with
   | zero=>rfl
   | succ j=>simp at hj
  subst hj0
  simp only [List.getElem?_cons_zero,Option.some.injEq] at hj
  subst hj
  have:zs.getD (i * 1+0) 0=n:=by
   rw [List.getElem?_take] at hn
   split at hn
   ·simp only [Nat.mul_one,Nat.add_zero,List.getD_eq_getElem?_getD,hn];rfl
   ·cases hn
  simp only [this]
  exact .v _ rfl
theorem relV_nil {W:World}:RelV E0.T [] [] W (old W) (isl []) (.slice none 0 0) :=
 .d _ _ (RelD.sl [] none 0 0 0 1 (fun _=>.int .i64 0) (fun h=>absurd rfl h) (Nat.le_refl _) Zd (fun i c h=>by simp at h) (fun i j c x h=>by simp at h) (fun i j c x h=>by simp at h))
theorem oneCell_ok {P:Program} {w:World} {r:Reach} {b:Nat} {u:TypeId} {y:Value} (h:Cell.okWide P w r b u y):y.oneCell'=true:=by
 have h2:∀ y,Cell.ok P w r b u y->y.oneCell'=true:=by
  intro y h
  unfold Cell.ok at h
  split at h <;> first|rfl|exact h.elim
 unfold Cell.okWide at h
 split at h <;> first|rfl|exact h2 _ h
theorem calls_of {f:FuncId} {args:List AV} {b:Bool} (h:zab E0 f args [] (bv b) []) (hgo:GoFn E0.P f) {W:World} {vs:List Value} (hglob:∀ g cs,globs g=some cs->RelD W (old W) (.dp cs) (.pointer (some ⟨g,0,none⟩))) (hargs:PW (RelV E0.T [] [] W (old W)) args vs) :
  Calls E0.P f vs.toArray W fun e W'=>e=.returned (.bool b)/\Below W.heap.size W W':=by
 have hrel:Rel E0 [] [] (old W) W:=⟨rfl,fun b cs hb=>by simp at hb,fun b e xs sh hb=>by simp at hb,fun b es hb=>by simp at hb,fun b b' k k' g hb=>by simp at hb,fun b k g hb=>by simp at hb,fun a ha=>ha,fun b k g a hb=>by simp at hb,hglob⟩
 obtain ⟨fn,hf1,hf2,hf3⟩:=hgo
 have hp:∀ e W',Post E0 [] [] (old W) W (fun r' h''=>r'=bv b/\h''=[]) e W'->e=.returned (.bool b)/\Below W.heap.size W W':=by
  rintro e W' ⟨r,h',β',S',y,rfl,⟨rfl,rfl⟩,_,ex,rv⟩
  refine ⟨?_,ex.os,ex.tape,ex.output,ex.size,fun k hk=>ex.keep k hk fun b' k' hb=>by simp at hb⟩
  rw [rv.v_inv]
 rcases h [] (old W) W vs hrel hargs with ⟨_,hc⟩|⟨y,w',hrun,_⟩
 ·exact hc.mono hp
 ·exfalso
  simp only [callFunc,Sem.run_bind,Sem.run_pure,Result.andThen_ok,run_program,hf1,hf2,hf3,Bool.false_eq_true,if_false] at hrun
  cases hrun
end Go.AM
