/-
  Contracts of the program's functions, part 6.
-/
import Derived.Test.YtdofdnfkldbooaaGreatDoorFpF
set_option maxRecDepth 100000
set_option maxHeartbeats 40000000
set_option linter.unusedSimpArgs false
set_option linter.unusedVariables false
namespace Go.AM
theorem zg5 {p:Prop} (h:p:=by first|assumption|omega|exact hI.push ‹_› (lt2 ‹_› ‹_›) ‹_› ‹_›|exact hI.push ‹_› (lt2 ‹_› ‹_›) ‹_› (zy6 ‹_› ‹_› Zo Zo Zo hM)|(simp;done)):p:=h
theorem zp4 {p:Prop} (h:p:=by first|exact zfO hI hx ‹_›|exact zx1 hI hx ‹_› ‹_› hM|exact zx2 hI hx ‹_› (by have hq:=hI.1;simp only [List.length_append,List.length_cons,List.length_nil,zdR];rw [IntKind.wrap_i64];omega) Zo Zo hM):p:=h
theorem zlV {p:Prop} (h:p:=by first|assumption|exact zzd hk hsm hI (by first|exact hI.some0 ‹_›|exact hI.some1 hf ‹_›) Zs (by first|exact xt0|exact xt1 ‹_›)):p:=h
theorem znW {p:Prop} (h:p:=by first|assumption|omega|(simp;done)|(simp;omega)):p:=h
theorem zsF {p:Prop} (h:p:=by first|assumption|omega|exact zq2|(simp;done)):p:=h
abbrev zsW (k:Int) (n:Str):List AV:=[iv k,sv n,.nl,.nl,.nl,.nl,sv ⟨#[]⟩]
theorem zy4 {n:Nat} (h:n<=1000):(IntKind.i64.wrap (((n+1:Nat):Int) - 1)).toNat=n:=by
 rw [IntKind.wrap_i64];omega
theorem ztm (xs:List X) (c:List AV) (h:xs.length<=1000):OwnEl (zad xs++[c]) (zad xs++[c]).length (IntKind.i64.wrap ((((zad xs++[c]).length:Nat):Int) - 1)).toNat c:=by
 have h1:(zad xs++[c]).length=xs.length+1:=by simp
 refine ⟨rfl,?_⟩
 rw [h1,zy4 h]
 simp
theorem modOkT {a n:Nat} (h:0 < n):0<=((a:Nat):Int).tmod ((n:Nat):Int)/\((a:Nat):Int).tmod ((n:Nat):Int) < ((n:Nat):Int) :=
 ⟨Int.tmod_nonneg _ Zo,Int.tmod_lt_of_pos _ Zo⟩
theorem zvs {n:Nat} {p:Pl} {s:Sch} (h:p.OkN (n+1)) (hs:Few s.cols):(plIn p s).OkN n:=by
 refine ⟨by have:=h.frs;simp [plIn];omega,fun f hf=>?_,h.ne,h.few,h.tcols⟩
 simp only [plIn,List.mem_append,List.mem_singleton] at hf
 rcases hf with hf|rfl
 ·exact h.cols f hf
 ·exact hs
theorem zAc {w:Str} (h:TabN w):Pos ((((zaj w).cols.map Col.cells).length:Nat):Int):=by
 have h1:=(zbO h).few
 have h2:=List.length_pos_iff.2 (zbO h).ne
 simp only [Few] at h1
 rw [List.length_map]
 exact ⟨by omega,by omega⟩
section
variable {tbs : List Sch} {M : Nat} {frs : List Fr} {cols : List Col} {i n : Nat} {its : List X} {c : Col} {e e0 : X}
theorem zx2 (h:zdI tbs M frs cols i its) (hx:cols[i]?=some c) (ht:(c.type==1)=true) (hn:n=i) {a:Int} (h1:-9223372036854775808 < a) (h2:a<=9223372036854775807) (hM:Deep M):zdI tbs M frs cols (i+1) ((its++[e0]).set n (xNum a)):=by
 have e1:(its++[e0]).set n (xNum a)=its++[xNum a]:=by
  rw [List.set_append_right _ _ (by have:=h.1;omega),hn,h.1];simp
 rw [e1]
 exact zfO h hx (by rw [show c.type=1 by simpa using ht];exact (zqv (n:=0) h1 h2).le (Nat.le_trans Zo hM.ge))
theorem zx1 (h:zdI tbs M frs cols i its) (hx:cols[i]?=some c) (ht:(c.type==1)=false) {v:V} (hv:v.kind=zb7 c.type/\v.Good) (hM:Deep M):zdI tbs M frs cols (i+1) (its++[xLit v]) :=
 zfO h hx ((zqY (n:=0) ht hv).le (Nat.le_trans Zo hM.ge))
end
noncomputable def L_ctC (t0:Tp) (p pi:Pl) (s:Sch) (kd:Int) (rows:List (List X)) (kq:Nat) (d:Int) (M k:Nat) (i:Nat) (u:Tp) (xs:List X):Cfg:=zan B.At 1 [(0,.p 0 0),(2,iv d),(4,.p 1 0),(6,.p 2 0),(7,.p 3 0),(8,.p 4 0),(9,.p 5 0),(10,iv (kq:Nat)),(11,.own 7 xs.length),(52,.sl (s.cols.map Col.cells)),(53,iv ((s.cols.map Col.cells).length:Nat)),(54,iv (i:Nat))] [.box u.cells,.box p.cells,.box (zsW 0 ⟨#[]⟩),.box s.cells,.box pi.cells,.box [iv kd,sv s.name,.own 6 rows.length,.nl,.nl,.nl,sv ⟨#[]⟩],.row Ty.LExpr (rows.map zaA) false,.row Ty.Expr (zad xs) false]
theorem Zcv11 {p:Prop} (h:p:=by first|rfl|(simp;done)|(simp [zbj,List.map_set,Tp.cells,X.cells,Pl.cells,Sch.cells,xCol,xLit,xBin,xNeg];done)):p:=h
theorem zgq (t0:Tp) (p pi:Pl) (s:Sch) (kd:Int) (rows:List (List X)) (kq:Nat) (d:Int) (M k:Nat) (hp:p.OkN k) (hs:Few s.cols) (hM:Deep M) (hE:∀ (t:Tp) (p:Pl) (w:Int),p.OkN k->∃ (e:X) (t':Tp),XT p.tbs M p.frs w e/\zab E0 S.Ac [.p 0 0,p.av,iv w,iv d] [.box t.cells] e.av [.box t'.cells]) (i:Nat) (u:Tp) (xs:List X) (hi:i<=(s.cols).length) (hI:zdI p.tbs M p.frs s.cols i xs):∃ (u':Tp) (xs':List X),(zdI p.tbs M p.frs s.cols (s.cols).length xs')/\(decide ((((s.cols).length:Nat):Int) < (((s.cols.map Col.cells).length:Nat):Int))=false)/\∀ R,Good E0 B.At [.box t0.cells] (L_ctC t0 p pi s kd rows kq d M k (s.cols).length u' xs') R->Good E0 B.At [.box t0.cells] (L_ctC t0 p pi s kd rows kq d M k i u xs) R:=by
 have hk:=hi;revert i u xs;refine zlp ((s.cols).length) (fun i hlt ih u xs hi hI _=>?_)
 obtain ⟨x,hx,h0,hw⟩:=zlq (l:=s.cols) ((s.cols.map Col.cells).length) hlt
 have hil:xs.length<=1000:=by have:=hI.1;simp only [Few] at hs;omega
 have hwx:IntKind.i64.wrap ((xs.length:Nat):Int)=((xs.length:Nat):Int):=by rw [IntKind.wrap_i64];omega
 let p_1:List St:=[sb h0,se (zai Col.cells hx rfl)]
 cases h1:x.key
 ·obtain ⟨b2,t2,c2⟩:=(zam u 3 znW)
  rcases (Bool.eq_false_or_eq_true b2).symm with h3|h3
  ·obtain ⟨e4,t4,q4,c4⟩:=(hE t2 p x.type znW)
   obtain ⟨uZ,xsZ,qZ,xZ,gZ⟩:=ih t4 (xs++[e4]) Zo zp4 Zo;exact ⟨uZ,xsZ,qZ,xZ,fun R hg=>zaa (wkl (p_1++[sg h1,sl [0] c2,sb h3,sl [0] c4,sqA (zad xs) [e4.cells] xs.length 10 136,si hw]) [0,2,4,6,7,8,9,10,11,52,53,54] 8 kr (zaE 11 7 (zad xs++[e4.cells]) (gZ R hg) (he:=Zcv11) (hm:=Zcv11)))⟩
  ·obtain ⟨v5,t5,q5,c5⟩:=(za5 t2 x.type)
   let p_2:List St:=p_1++[sg h1,sl [0] c2,sb h3,sl [0] c5,sc (zaT v5),sqA (zad xs) [[iv (xLit v5).kind,iv (xLit v5).op,bv (xLit v5).not,iv (xLit v5).val.kind,iv (xLit v5).val.int,sv (xLit v5).val.text,sv (xLit v5).table,sv (xLit v5).name,AV.sl (zad []),AV.sl (zal [])]] xs.length 10 136]
   cases h6:x.type==1
   ·obtain ⟨uZ,xsZ,qZ,xZ,gZ⟩:=ih t5 (xs++[xLit v5]) Zo zp4 Zo;exact ⟨uZ,xsZ,qZ,xZ,fun R hg=>zaa (wkl (p_2++[sb h6,si hw]) [0,2,4,6,7,8,9,10,11,52,53,54] 8 kr (zaE 11 7 (zad xs++[(xLit v5).cells]) (gZ R hg) (he:=Zcv11) (hm:=Zcv11)))⟩
   ·obtain ⟨a7,t7,q7,c7⟩:=(zaW t5)
    obtain ⟨uZ,xsZ,qZ,xZ,gZ⟩:=ih t7 ((xs++[xLit v5]).set (IntKind.i64.wrap ((↑(zad xs++[(xLit v5).cells]).length:Int) - 1)).toNat (xNum a7)) Zo zp4 Zo;exact ⟨uZ,xsZ,qZ,xZ,fun R hg=>zaa (wkl (p_2++[sb h6,sqx ((zad xs++[(xLit v5).cells]).length=(zad xs++[(xLit v5).cells]).length),si (e:=IntKind.i64.wrap ((↑(zad xs++[(xLit v5).cells]).length:Int) - 1)) rfl,sl [0] c7,sc (za2 a7 znW),sqx (OwnAt (zad xs++[(xLit v5).cells]) (zad xs++[(xLit v5).cells]).length (IntKind.i64.wrap ((↑(zad xs++[(xLit v5).cells]).length:Int) - 1))),sx (.el ((xLit v5).cells)) (And.intro (owed (p:=True/\True/\True/\True/\True/\True/\True/\True/\True/\True/\True)) (ztm xs ((xLit v5).cells) znW)),si hw]) [0,2,4,6,7,8,9,10,11,52,53,54] 8 kr (zaR (show ([(0,AV.p 0 0),(2,iv d),(4,AV.p 1 0),(6,AV.p 2 0),(7,AV.p 3 0),(8,AV.p 4 0),(9,AV.p 5 0),(10,iv (kq:Int)),(11,AV.own 7 (zad xs++[(xLit v5).cells]).length),(52,ZC s.cols),(53,iv (↑(List.map Col.cells s.cols).length:Int)),(54,iv (↑(i+1):Int))]:TS)=_ from Zcv11) (show ([Blk.box [AV.sl (List.map (fun n=>[iv n]) t7.l),iv (t7.pos:Int)],Blk.box [fsl p.frs,ZS p.tbs],Blk.box [iv 0,sv Zs0,AV.nl,AV.nl,AV.nl,AV.nl,sv Zs0],Blk.box s.cells,Blk.box [fsl pi.frs,ZS pi.tbs],Blk.box [iv kd,sv s.name,AV.own 6 rows.length,AV.nl,AV.nl,AV.nl,sv Zs0],Blk.row Ty.LExpr (List.map zaA rows) false,Blk.row Ty.Expr ((zad xs++[(xLit v5).cells]).set (IntKind.i64.wrap ((↑(zad xs++[(xLit v5).cells]).length:Int) - 1)).toNat (xNum a7).cells) false]:Heap)=_ from Zcv11) (gZ R hg)))⟩
 ·obtain ⟨v8,t8,q8,c8⟩:=(za5 u x.type)
  let p_3:List St:=p_1++[sb h1,sl [0] c8,sc (zaT v8),sqA (zad xs) [[iv (xLit v8).kind,iv (xLit v8).op,bv (xLit v8).not,iv (xLit v8).val.kind,iv (xLit v8).val.int,sv (xLit v8).val.text,sv (xLit v8).table,sv (xLit v8).name,AV.sl (zad []),AV.sl (zal [])]] xs.length 10 136]
  cases h9:x.type==1
  ·obtain ⟨uZ,xsZ,qZ,xZ,gZ⟩:=ih t8 (xs++[xLit v8]) Zo zp4 Zo;exact ⟨uZ,xsZ,qZ,xZ,fun R hg=>zaa (wkl (p_3++[sb h9,si hw]) [0,2,4,6,7,8,9,10,11,52,53,54] 8 kr (zaE 11 7 (zad xs++[(xLit v8).cells]) (gZ R hg) (he:=Zcv11) (hm:=Zcv11)))⟩
  ·obtain ⟨a10,t10,q10,c10⟩:=(zaW t8)
   obtain ⟨uZ,xsZ,qZ,xZ,gZ⟩:=ih t10 ((xs++[xLit v8]).set (IntKind.i64.wrap ((↑(zad xs++[(xLit v8).cells]).length:Int) - 1)).toNat (xNum a10)) Zo zp4 Zo;exact ⟨uZ,xsZ,qZ,xZ,fun R hg=>zaa (wkl (p_3++[sb h9,sqx ((zad xs++[(xLit v8).cells]).length=(zad xs++[(xLit v8).cells]).length),si (e:=IntKind.i64.wrap ((↑(zad xs++[(xLit v8).cells]).length:Int) - 1)) rfl,sl [0] c10,sc (za2 a10 znW),sqx (OwnAt (zad xs++[(xLit v8).cells]) (zad xs++[(xLit v8).cells]).length (IntKind.i64.wrap ((↑(zad xs++[(xLit v8).cells]).length:Int) - 1))),sx (.el ((xLit v8).cells)) (And.intro (owed (p:=True/\True/\True/\True/\True/\True/\True/\True/\True/\True/\True)) (ztm xs ((xLit v8).cells) znW)),si hw]) [0,2,4,6,7,8,9,10,11,52,53,54] 8 kr (zaR (show ([(0,AV.p 0 0),(2,iv d),(4,AV.p 1 0),(6,AV.p 2 0),(7,AV.p 3 0),(8,AV.p 4 0),(9,AV.p 5 0),(10,iv (kq:Int)),(11,AV.own 7 (zad xs++[(xLit v8).cells]).length),(52,ZC s.cols),(53,iv (↑(List.map Col.cells s.cols).length:Int)),(54,iv (↑(i+1):Int))]:TS)=_ from Zcv11) (show ([Blk.box [AV.sl (List.map (fun n=>[iv n]) t10.l),iv (t10.pos:Int)],Blk.box [fsl p.frs,ZS p.tbs],Blk.box [iv 0,sv Zs0,AV.nl,AV.nl,AV.nl,AV.nl,sv Zs0],Blk.box s.cells,Blk.box [fsl pi.frs,ZS pi.tbs],Blk.box [iv kd,sv s.name,AV.own 6 rows.length,AV.nl,AV.nl,AV.nl,sv Zs0],Blk.row Ty.LExpr (List.map zaA rows) false,Blk.row Ty.Expr ((zad xs++[(xLit v8).cells]).set (IntKind.i64.wrap ((↑(zad xs++[(xLit v8).cells]).length:Int) - 1)).toNat (xNum a10).cells) false]:Heap)=_ from Zcv11) (gZ R hg)))⟩
def zlr (tbs:List Sch) (M:Nat) (frs:List Fr) (s:Sch) (rows:List (List X)):Prop:=∀ r∈rows,zdI tbs M frs s.cols s.cols.length r
theorem zw1 {tbs:List Sch} {M:Nat} {frs:List Fr} {s:Sch} {rows:List (List X)} {k:Nat} {xs:List X} (h:rows.length+(k+1)<=3/\1<=rows.length+(k+1)/\zlr tbs M frs s rows) (hx:zdI tbs M frs s.cols s.cols.length xs) :
  (rows++[xs]).length+k<=3/\1<=(rows++[xs]).length+k/\zlr tbs M frs s (rows++[xs]) :=
 ⟨by have:=h.1;simp;omega,by simp;omega,fun r hr=>by
  simp only [List.mem_append,List.mem_singleton] at hr
  rcases hr with hr|rfl
  ·exact h.2.2 r hr
  ·exact hx⟩
noncomputable def L_ctR (t0:Tp) (p pi:Pl) (s:Sch) (kd:Int) (d:Int) (M kk2:Nat) (k:Nat) (u:Tp) (rows:List (List X)):Cfg:=zan B.At 0 [(0,.p 0 0),(2,iv d),(4,.p 1 0),(6,.p 2 0),(7,.p 3 0),(8,.p 4 0),(9,.p 5 0),(10,iv (k:Nat))] [.box u.cells,.box p.cells,.box (zsW 0 ⟨#[]⟩),.box s.cells,.box pi.cells,.box [iv kd,sv s.name,.own 6 rows.length,.nl,.nl,.nl,sv ⟨#[]⟩],.row Ty.LExpr (rows.map zaA) false]
theorem zgr (t0:Tp) (p pi:Pl) (s:Sch) (kd:Int) (d:Int) (M kk2:Nat) (hE:∀ (t:Tp) (p:Pl) (w:Int),p.OkN kk2->∃ (e:X) (t':Tp),XT p.tbs M p.frs w e/\zab E0 S.Ac [.p 0 0,p.av,iv w,iv d] [.box t.cells] e.av [.box t'.cells]) (hp:p.OkN kk2) (hs:SchOk s) (hM:Deep M) (k:Nat) (u:Tp) (rows:List (List X)) (hi:k<=1000000000) (hI:rows.length+k<=3/\1<=rows.length+k/\zlr p.tbs M p.frs s rows):∃ (u':Tp) (rows':List (List X)),(rows'.length+0<=3/\1<=rows'.length+0/\zlr p.tbs M p.frs s rows')/\(decide ((0:Int) < ((0:Nat):Int))=false)/\∀ R,Good E0 B.At [.box t0.cells] (L_ctR t0 p pi s kd d M kk2 0 u' rows') R->Good E0 B.At [.box t0.cells] (L_ctR t0 p pi s kd d M kk2 k u rows) R:=by
 induction k generalizing u rows with
 | zero=>exact ⟨u,rows,hI,by decide,fun R hg=>hg⟩
 | succ k ih =>
  have h0:decide ((0:Int) < (((k+1):Nat):Int))=true:=by first|(simp;done)|(simp;omega)
  have hw:IntKind.i64.wrap (((k+1:Nat):Int) - 1)=((k:Nat):Int):=zka k Zo
  have hss:=hs.few;have hrl:rows.length<=3:=by omega
  obtain ⟨u1,xs1,q1,q1_1,g1⟩:=zgq t0 p pi s kd rows (k+1) d M kk2 hp zsF hM zsF 0 u ([]) zsF zsF
  obtain ⟨uZ,rowsZ,qZ,xZ,gZ⟩:=ih u1 (rows++[xs1]) Zo (by exact zw1 hI ‹_›);exact ⟨uZ,rowsZ,qZ,xZ,fun R hg=>zaa (wklN [sb h0] [0,2,4,6,7,8,9,10,11,52,53,54] 7 [(.ot 11 Ty.Expr,8)] kr (g1 _ (zaa (wkl [sb q1_1,sqx (xs1.length=(zad xs1).length/\True),sqA (List.map zaA rows) [[AV.sl (zad xs1)]] rows.length 1 24,si hw] [0,2,4,6,7,8,9,10] 7 kr (zaR rfl (show ([Blk.box [AV.sl (List.map (fun n=>[iv n]) u1.l),iv (u1.pos:Int)],Blk.box [fsl p.frs,ZS p.tbs],Blk.box [iv 0,sv Zs0,AV.nl,AV.nl,AV.nl,AV.nl,sv Zs0],Blk.box s.cells,Blk.box [fsl pi.frs,ZS pi.tbs],Blk.box [iv kd,sv s.name,AV.own 6 (List.map zaA rows++[[AV.sl (zad xs1)]]).length,AV.nl,AV.nl,AV.nl,sv Zs0],Blk.row Ty.LExpr (List.map zaA rows++[[AV.sl (zad xs1)]]) false]:Heap)=_ from Zcv1) (gZ R hg))))))⟩
noncomputable def zwb (d:Int) (p pi:Pl) (s:Sch) (kd:Int) (first i:Nat) (u:Tp) (sets:List Se):Cfg:=zan B.At 2 [(0,.p 0 0),(2,iv d),(6,.p 2 0),(7,.p 3 0),(8,.p 4 0),(9,.p 5 0),(14,iv (first:Nat)),(15,iv (i:Nat))] [.box u.cells,.box p.cells,.box (zsW 0 ⟨#[]⟩),.box s.cells,.box pi.cells,.box [iv kd,sv s.name,.nl,.nl,.own 6 sets.length,.nl,sv ⟨#[]⟩],.row Ty.Set (sets.map Se.cells) false]
structure SetsT (tbs:List Sch) (M:Nat) (frs:List Fr) (s:Sch) (first i:Nat) (sets:List Se):Prop where
 len:sets.length=i
 at_:∀ (j:Nat) (x:Se),sets[j]?=some x->∃ c:Col,s.cols[(first+j) % s.cols.length]?=some c/\x.col=c.name/\XT tbs M (frIn frs s) c.type x.ex
 two:i<=2
 lim:i<=s.cols.length
inductive ActT (tbs:List Sch) (M:Nat) (frs:List Fr):Ac->Prop
 | rows {s:Sch} {rows:List (List X)}:s∈zao->1<=rows.length->rows.length<=3->zlr tbs M frs s rows->ActT tbs M frs (Ac.mk 1 s.name rows [] [] [] ⟨#[]⟩)
 | copy {s:Sch} {q:Qy}:s∈zao->QyT tbs M frs s q->ActT tbs M frs (Ac.mk 1 s.name [] [q] [] [] ⟨#[]⟩)
 | upd {s:Sch} {first i:Nat} {sets:List Se} {wh:List X}:s∈zao->1<=i->SetsT tbs M frs s first i sets->wh.length<=1->(∀ x∈wh,XT tbs M (frIn frs s) 2 x)->ActT tbs M frs (Ac.mk 2 s.name [] [] sets wh ⟨#[]⟩)
 | del {s:Sch} {wh:List X}:s∈zao->wh.length<=1->(∀ x∈wh,XT tbs M (frIn frs s) 2 x)->ActT tbs M frs (Ac.mk 3 s.name [] [] [] wh ⟨#[]⟩)
section
variable {tbs : List Sch} {M : Nat} {frs : List Fr} {s : Sch} {first i : Nat} {sets : List Se} {e : X} {cc : Col} {z : Int}
theorem SetsT.push (h:SetsT tbs M frs s first i sets) (hi:decide ((i:Int) < (((s.cols.map Col.cells).length:Nat):Int))=true) (h2:i < 2) (hc:AtI s.cols (((first+i:Nat):Int).tmod (((s.cols.map Col.cells).length:Nat):Int)) cc) (he:XT tbs M (frIn frs s) cc.type e):SetsT tbs M frs s first (i+1) (sets++[⟨cc.name,e⟩]):=by
 simp only [decide_eq_true_eq,List.length_map] at hi
 refine ⟨by simp [h.len],fun j x hj=>?_,by omega,by omega⟩
 by_cases hk:j < sets.length
 ·rw [List.getElem?_append_left hk] at hj
  exact h.at_ j x hj
 ·have h3:=zfM hj
  have h4:=h.len
  simp only [List.length_append,List.length_cons,List.length_nil] at h3
  have:j=i:=by omega
  subst this
  rw [List.getElem?_append_right Zo,show j - sets.length=0 by omega] at hj
  simp only [List.getElem?_cons_zero,Option.some.injEq] at hj
  subst hj
  refine ⟨cc,?_,rfl,he⟩
  have h5:=hc.2
  rw [List.length_map] at h5
  have h6:(((first+j:Nat):Int).tmod ((s.cols.length:Nat):Int)).toNat=(first+j) % s.cols.length:=by
   rw [← Int.ofNat_tmod];exact Int.toNat_natCast _
  rwa [h6] at h5
theorem zy6 {k:Nat} {a:Int} (ht:(cc.type==1)=true) (hc:AtI s.cols z cc) (hk:9<=(k:Int)/\(k:Int)<=13) (h1:-9223372036854775808 < a) (h2:a<=9223372036854775807) (hM:Deep M):XT tbs M (frIn frs s) cc.type (xA 5 (k:Int) false [xCol ⟨#[]⟩ cc.name,xNum a]):=by
 have e1:cc.type=1:=by simpa using ht
 rw [e1]
 refine (zoZ (n:=2) rfl hk (.col ⟨frs.length,⟨s.name,false,s.cols,[]⟩,cc,⟨#[]⟩,?_,List.mem_of_getElem? hc.2,e1,rfl,.inr ⟨rfl,rfl,by simp⟩⟩) (zqv h1 h2)).le hM.ge
 simp
theorem SetsT.some0 (h:SetsT tbs M frs s first i sets) {a:Nat} (hi:decide ((i:Int) < ((1+a:Nat):Int))=false):1<=i:=by simp only [decide_eq_false_iff_not] at hi;omega
theorem SetsT.some1 (h:SetsT tbs M frs s first i sets) (hf:first < s.cols.length) (hi:decide ((i:Int) < (((s.cols.map Col.cells).length:Nat):Int))=false):1<=i:=by simp only [decide_eq_false_iff_not,List.length_map] at hi;omega
theorem zzd {kd:Int} {wh:List X} (hk:kd=2) (hs:s∈zao) (hI:SetsT tbs M frs s first i sets) (h1:1<=i) (hw:wh.length<=1) (hx:∀ x∈wh,XT tbs M (frIn frs s) 2 x):ActT tbs M frs (Ac.mk kd s.name [] [] sets wh ⟨#[]⟩):=by
 subst hk;exact .upd hs h1 hI hw hx
theorem lt2 {i a:Nat} (h:decide ((i:Int) < ((1+a:Nat):Int))=true) (ha:(a:Int) < 2):i < 2:=by simp only [decide_eq_true_eq] at h;omega
end
theorem zws (d:Int) (M k:Nat) (t0:Tp) (p pi:Pl) (s:Sch) (kd:Int) (first i:Nat) (u:Tp) (sets:List Se) (hsm:s∈zao) (hs:Few s.cols) (hss:zac s.cols) (hpi:pi.OkN k) (hpf:pi=plIn p s) (hM:Deep M) (hE:∀ (t:Tp) (w:Int),∃ (e:X) (t':Tp),XT p.tbs M (frIn p.frs s) w e/\zab E0 S.Ac [.p 0 0,pi.av,iv w,iv d] [.box t.cells] e.av [.box t'.cells]) (hk:kd=2) (hf:first < s.cols.length) (hf2:s.cols.length<=1000) (hI:SetsT p.tbs M p.frs s first i sets) (hi2:i<=2) (hsl:sets.length<=2) (ihl:∀ (u':Tp) (sets':List Se),SetsT p.tbs M p.frs s first (i+1) sets'->∃ (r:Ac) (t':Tp),ActT p.tbs M p.frs r/\Good E0 B.At [.box t0.cells] (zwb d p pi s kd first (i+1) u' sets') (Shut 1 fun rZ hZ=>rZ=r.av/\hZ=[.box t'.cells])):∃ (r:Ac) (t':Tp),ActT p.tbs M p.frs r/\Good E0 B.At [.box t0.cells] (ziU (zwb d p pi s kd first i u sets)) (Shut 1 fun rZ hZ=>rZ=(r.av)/\hZ=[.box t'.cells]):=by
  obtain ⟨a1,t1,q1,c1⟩:=(zag u 2 zg5)
  cases h2:decide ((i:Int) < (↑(1+a1):Int))
  ·obtain ⟨b3,t3,c3⟩:=(zam t1 4 zg5)
   cases h4:!b3
   ·exact ⟨Ac.mk kd s.name [] [] sets [] Zs0,t3,zlV,wkr [sqx (True/\True/\True/\True/\sets.length=(List.map Se.cells sets).length/\True/\True/\True),sl [0] c1,si (zaU (t:=1+(a1:Int)) (n:=1+a1) Zo Zo),sb h2,sl [0] c3,sb h4] kr⟩
   ·obtain ⟨e5,t5,q5,c5⟩:=(hE t3 2)
    exact ⟨Ac.mk kd s.name [] [] sets [e5] Zs0,t5,zlV,wkrS (y:=AV.agg [iv kd,sv s.name,AV.sl [],AV.sl [],ZE sets,AV.sl [e5.cells],sv Zs0]) (H:=[Blk.box [AV.sl (List.map (fun n=>[iv n]) t5.l),iv (t5.pos:Int)]]) [sqx (True/\True/\True/\True/\sets.length=(List.map Se.cells sets).length/\True/\True/\True),sl [0] c1,si (zaU (t:=1+(a1:Int)) (n:=1+a1) Zo Zo),sb h2,sl [0] c3,sb h4,sl [0] c5] kr ⟨Zcv1,Zcv1⟩⟩
  ·cases h6:decide ((i:Int) < (↑(List.map Col.cells s.cols).length:Int))
   ·obtain ⟨b7,t7,c7⟩:=(zam t1 4 zg5)
    cases h8:!b7
    ·exact ⟨Ac.mk kd s.name [] [] sets [] Zs0,t7,zlV,wkr [sqx (True/\True/\True/\True/\sets.length=(List.map Se.cells sets).length/\True/\True/\True),sl [0] c1,si (zaU (t:=1+(a1:Int)) (n:=1+a1) Zo Zo),sg h2,sb h6,sl [0] c7,sb h8] kr⟩
    ·obtain ⟨e9,t9,q9,c9⟩:=(hE t7 2)
     exact ⟨Ac.mk kd s.name [] [] sets [e9] Zs0,t9,zlV,wkrS (y:=AV.agg [iv kd,sv s.name,AV.sl [],AV.sl [],ZE sets,AV.sl [e9.cells],sv Zs0]) (H:=[Blk.box [AV.sl (List.map (fun n=>[iv n]) t9.l),iv (t9.pos:Int)]]) [sqx (True/\True/\True/\True/\sets.length=(List.map Se.cells sets).length/\True/\True/\True),sl [0] c1,si (zaU (t:=1+(a1:Int)) (n:=1+a1) Zo Zo),sg h2,sb h6,sl [0] c7,sb h8,sl [0] c9] kr ⟨Zcv1,Zcv1⟩⟩
   ·obtain ⟨x10,e10⟩:=zkM (l:=s.cols) (i:=(↑(first+i):Int).tmod (↑(List.map Col.cells s.cols).length:Int)) (by (rw [List.length_map];exact modOkT Zo))
    obtain ⟨e11,t11,q11,c11⟩:=(hE t1 x10.type)
    cases h12:x10.type==1
    ·obtain ⟨r13_0,r13_1,p13_0,g13⟩:=ihl t11 (sets++[Se.mk x10.name e11]) zg5
     exact ⟨r13_0,r13_1,zlV,wkl [sl [0] c1,si (zaU (t:=1+(a1:Int)) (n:=1+a1) Zo Zo),sg h2,sb h6,sd [(4,[si (zaU (t:=(first:Int)+(i:Int)) (n:=first+i) Zo Zo)]),(8,[sx (.i ((↑(first+i):Int).tmod (↑(List.map Col.cells s.cols).length:Int))) (show (↑(List.map Col.cells s.cols).length:Int)≠(0:Int)/\((↑(first+i):Int).tmod (↑(List.map Col.cells s.cols).length:Int):Int)=(↑(first+i):Int).tmod (↑(List.map Col.cells s.cols).length:Int) from ⟨(by rw [List.length_map];omega),rfl⟩)]),(9,[se (zdH Col.cells e10 rfl)])],sdm [(7,[sl [0] c11])] 0 [(0,AV.p 0 0),(2,iv d),(6,AV.p 2 0),(7,AV.p 3 0),(8,AV.p 4 0),(9,AV.p 5 0),(14,iv (first:Int)),(15,iv (i:Int)),(16,AV.p 7 0),(17,AV.p 8 0),(107,iv (i:Int)),(108,AV.p 0 0),(109,iv (a1:Int)),(110,iv (↑(1+a1):Int)),(111,bv (decide ((i:Int) < (↑(1+a1):Int)))),(112,AV.bl true),(113,iv (i:Int)),(114,AV.p 3 1),(115,ZC s.cols),(116,iv (↑(List.map Col.cells s.cols).length:Int)),(117,bv (decide ((i:Int) < (↑(List.map Col.cells s.cols).length:Int)))),(118,AV.bl true),(121,AV.p 3 1),(122,ZC s.cols),(123,iv (first:Int)),(124,iv (i:Int)),(125,iv (↑(first+i):Int)),(126,AV.p 3 1),(127,ZC s.cols),(128,iv (↑(List.map Col.cells s.cols).length:Int)),(129,iv ((↑(first+i):Int).tmod (↑(List.map Col.cells s.cols).length:Int))),(130,AV.dp x10.cells),(131,AV.agg x10.cells),(132,AV.p 7 0),(133,sv x10.name),(134,AV.p 0 0),(135,AV.agg [fsl pi.frs,ZS pi.tbs]),(136,AV.p 7 1),(137,iv x10.type),(138,iv d),(139,AV.agg e11.cells),(140,AV.agg (sv x10.name::e11.cells))] [Blk.box [AV.sl (List.map (fun n=>[iv n]) t11.l),iv (t11.pos:Int)],Blk.box [fsl p.frs,ZS p.tbs],Blk.box [iv 0,sv Zs0,AV.nl,AV.nl,AV.nl,AV.nl,sv Zs0],Blk.box s.cells,Blk.box [fsl pi.frs,ZS pi.tbs],Blk.box [iv kd,sv s.name,AV.nl,AV.nl,AV.own 6 sets.length,AV.nl,sv Zs0],Blk.row Ty.Set (List.map Se.cells sets) false,Blk.box x10.cells,Blk.box (sv x10.name::e11.cells)],sb h12,sqA (List.map Se.cells sets) [(sv x10.name::e11.cells)] sets.length 11 152,si (zaU (t:=(i:Int)+1) (n:=i+1) Zo Zo)] [0,2,6,7,8,9,14,15] 7 kr (zaR rfl (show ([Blk.box [AV.sl (List.map (fun n=>[iv n]) t11.l),iv (t11.pos:Int)],Blk.box [fsl p.frs,ZS p.tbs],Blk.box [iv 0,sv Zs0,AV.nl,AV.nl,AV.nl,AV.nl,sv Zs0],Blk.box s.cells,Blk.box [fsl pi.frs,ZS pi.tbs],Blk.box [iv kd,sv s.name,AV.nl,AV.nl,AV.own 6 (List.map Se.cells sets++[(sv x10.name::e11.cells)]).length,AV.nl,sv Zs0],Blk.row Ty.Set (List.map Se.cells sets++[(sv x10.name::e11.cells)]) false]:Heap)=_ from Zcv1) g13)⟩
    ·obtain ⟨b14,t14,c14⟩:=(zam t11 2 zg5)
     rcases (Bool.eq_false_or_eq_true b14).symm with h15|h15
     ·obtain ⟨r16_0,r16_1,p16_0,g16⟩:=ihl t14 (sets++[Se.mk x10.name e11]) zg5
      exact ⟨r16_0,r16_1,zlV,wkl [sl [0] c1,si (zaU (t:=1+(a1:Int)) (n:=1+a1) Zo Zo),sg h2,sb h6,sd [(4,[si (zaU (t:=(first:Int)+(i:Int)) (n:=first+i) Zo Zo)]),(8,[sx (.i ((↑(first+i):Int).tmod (↑(List.map Col.cells s.cols).length:Int))) (show (↑(List.map Col.cells s.cols).length:Int)≠(0:Int)/\((↑(first+i):Int).tmod (↑(List.map Col.cells s.cols).length:Int):Int)=(↑(first+i):Int).tmod (↑(List.map Col.cells s.cols).length:Int) from ⟨(by rw [List.length_map];omega),rfl⟩)]),(9,[se (zdH Col.cells e10 rfl)])],sdm [(7,[sl [0] c11])] 0 [(0,AV.p 0 0),(2,iv d),(6,AV.p 2 0),(7,AV.p 3 0),(8,AV.p 4 0),(9,AV.p 5 0),(14,iv (first:Int)),(15,iv (i:Int)),(16,AV.p 7 0),(17,AV.p 8 0),(107,iv (i:Int)),(108,AV.p 0 0),(109,iv (a1:Int)),(110,iv (↑(1+a1):Int)),(111,bv (decide ((i:Int) < (↑(1+a1):Int)))),(112,AV.bl true),(113,iv (i:Int)),(114,AV.p 3 1),(115,ZC s.cols),(116,iv (↑(List.map Col.cells s.cols).length:Int)),(117,bv (decide ((i:Int) < (↑(List.map Col.cells s.cols).length:Int)))),(118,AV.bl true),(121,AV.p 3 1),(122,ZC s.cols),(123,iv (first:Int)),(124,iv (i:Int)),(125,iv (↑(first+i):Int)),(126,AV.p 3 1),(127,ZC s.cols),(128,iv (↑(List.map Col.cells s.cols).length:Int)),(129,iv ((↑(first+i):Int).tmod (↑(List.map Col.cells s.cols).length:Int))),(130,AV.dp x10.cells),(131,AV.agg x10.cells),(132,AV.p 7 0),(133,sv x10.name),(134,AV.p 0 0),(135,AV.agg [fsl pi.frs,ZS pi.tbs]),(136,AV.p 7 1),(137,iv x10.type),(138,iv d),(139,AV.agg e11.cells),(140,AV.agg (sv x10.name::e11.cells))] [Blk.box [AV.sl (List.map (fun n=>[iv n]) t11.l),iv (t11.pos:Int)],Blk.box [fsl p.frs,ZS p.tbs],Blk.box [iv 0,sv Zs0,AV.nl,AV.nl,AV.nl,AV.nl,sv Zs0],Blk.box s.cells,Blk.box [fsl pi.frs,ZS pi.tbs],Blk.box [iv kd,sv s.name,AV.nl,AV.nl,AV.own 6 sets.length,AV.nl,sv Zs0],Blk.row Ty.Set (List.map Se.cells sets) false,Blk.box x10.cells,Blk.box (sv x10.name::e11.cells)],sg h12,sl [0] c14,sb h15,sqA (List.map Se.cells sets) [(sv x10.name::e11.cells)] sets.length 11 152,si (zaU (t:=(i:Int)+1) (n:=i+1) Zo Zo)] [0,2,6,7,8,9,14,15] 7 kr (zaR rfl (show ([Blk.box [AV.sl (List.map (fun n=>[iv n]) t14.l),iv (t14.pos:Int)],Blk.box [fsl p.frs,ZS p.tbs],Blk.box [iv 0,sv Zs0,AV.nl,AV.nl,AV.nl,AV.nl,sv Zs0],Blk.box s.cells,Blk.box [fsl pi.frs,ZS pi.tbs],Blk.box [iv kd,sv s.name,AV.nl,AV.nl,AV.own 6 (List.map Se.cells sets++[(sv x10.name::e11.cells)]).length,AV.nl,sv Zs0],Blk.row Ty.Set (List.map Se.cells sets++[(sv x10.name::e11.cells)]) false]:Heap)=_ from Zcv1) g16)⟩
     ·obtain ⟨a17,t17,q17,c17⟩:=(zag t14 2 zg5)
      obtain ⟨a18,t18,q18,c18⟩:=(zag t17 4 zg5)
      obtain ⟨r19_0,r19_1,p19_0,g19⟩:=ihl t18 (sets++[Se.mk x10.name (xBin (↑(9+a17):Int) (xCol Zs0 x10.name) (xNum (a18:Int)))]) zg5
      exact ⟨r19_0,r19_1,zlV,wkl [sl [0] c1,si (zaU (t:=1+(a1:Int)) (n:=1+a1) Zo Zo),sg h2,sb h6,sd [(4,[si (zaU (t:=(first:Int)+(i:Int)) (n:=first+i) Zo Zo)]),(8,[sx (.i ((↑(first+i):Int).tmod (↑(List.map Col.cells s.cols).length:Int))) (show (↑(List.map Col.cells s.cols).length:Int)≠(0:Int)/\((↑(first+i):Int).tmod (↑(List.map Col.cells s.cols).length:Int):Int)=(↑(first+i):Int).tmod (↑(List.map Col.cells s.cols).length:Int) from ⟨(by rw [List.length_map];omega),rfl⟩)]),(9,[se (zdH Col.cells e10 rfl)])],sdm [(7,[sl [0] c11])] 0 [(0,AV.p 0 0),(2,iv d),(6,AV.p 2 0),(7,AV.p 3 0),(8,AV.p 4 0),(9,AV.p 5 0),(14,iv (first:Int)),(15,iv (i:Int)),(16,AV.p 7 0),(17,AV.p 8 0),(107,iv (i:Int)),(108,AV.p 0 0),(109,iv (a1:Int)),(110,iv (↑(1+a1):Int)),(111,bv (decide ((i:Int) < (↑(1+a1):Int)))),(112,AV.bl true),(113,iv (i:Int)),(114,AV.p 3 1),(115,ZC s.cols),(116,iv (↑(List.map Col.cells s.cols).length:Int)),(117,bv (decide ((i:Int) < (↑(List.map Col.cells s.cols).length:Int)))),(118,AV.bl true),(121,AV.p 3 1),(122,ZC s.cols),(123,iv (first:Int)),(124,iv (i:Int)),(125,iv (↑(first+i):Int)),(126,AV.p 3 1),(127,ZC s.cols),(128,iv (↑(List.map Col.cells s.cols).length:Int)),(129,iv ((↑(first+i):Int).tmod (↑(List.map Col.cells s.cols).length:Int))),(130,AV.dp x10.cells),(131,AV.agg x10.cells),(132,AV.p 7 0),(133,sv x10.name),(134,AV.p 0 0),(135,AV.agg [fsl pi.frs,ZS pi.tbs]),(136,AV.p 7 1),(137,iv x10.type),(138,iv d),(139,AV.agg e11.cells),(140,AV.agg (sv x10.name::e11.cells))] [Blk.box [AV.sl (List.map (fun n=>[iv n]) t11.l),iv (t11.pos:Int)],Blk.box [fsl p.frs,ZS p.tbs],Blk.box [iv 0,sv Zs0,AV.nl,AV.nl,AV.nl,AV.nl,sv Zs0],Blk.box s.cells,Blk.box [fsl pi.frs,ZS pi.tbs],Blk.box [iv kd,sv s.name,AV.nl,AV.nl,AV.own 6 sets.length,AV.nl,sv Zs0],Blk.row Ty.Set (List.map Se.cells sets) false,Blk.box x10.cells,Blk.box (sv x10.name::e11.cells)],sg h12,sl [0] c14,sb h15,sd [(1,[sl [0] c17]),(2,[si (zaU (t:=9+(a17:Int)) (n:=9+a17) Zo Zo)]),(5,[sc (zaO Zs0 x10.name)]),(7,[sl [0] c18]),(8,[sc (za2 ((a18:Int)) zg5)]),(9,[sc (zaC ((↑(9+a17):Int)) (xCol Zs0 x10.name) (xNum (a18:Int)))])],sqA (List.map Se.cells sets) [(sv x10.name::(xBin (↑(9+a17):Int) (xCol Zs0 x10.name) (xNum (a18:Int))).cells)] sets.length 11 152,si (zaU (t:=(i:Int)+1) (n:=i+1) Zo Zo)] [0,2,6,7,8,9,14,15] 7 kr (zaR rfl (show ([Blk.box [AV.sl (List.map (fun n=>[iv n]) t18.l),iv (t18.pos:Int)],Blk.box [fsl p.frs,ZS p.tbs],Blk.box [iv 0,sv Zs0,AV.nl,AV.nl,AV.nl,AV.nl,sv Zs0],Blk.box s.cells,Blk.box [fsl pi.frs,ZS pi.tbs],Blk.box [iv kd,sv s.name,AV.nl,AV.nl,AV.own 6 (List.map Se.cells sets++[(sv x10.name::(xBin (↑(9+a17):Int) (xCol Zs0 x10.name) (xNum (a18:Int))).cells)]).length,AV.nl,sv Zs0],Blk.row Ty.Set (List.map Se.cells sets++[(sv x10.name::(xBin (↑(9+a17):Int) (xCol Zs0 x10.name) (xNum (a18:Int))).cells)]) false]:Heap)=_ from Zcv1) g19)⟩
theorem zcb {p:Prop} (h:p:=by first|assumption|omega|exact (zbO ‹_›).few|exact zbO ‹_›|exact zew ‹_›|exact zA3 ‹_›|exact hp.short|exact zvs hp (zbO ‹_›).few|exact fun t w'=>hE t (plIn p _) w' (zvs hp (zbO ‹_›).few)|exact zAc ‹_›|exact zyN|rfl|exact eq_of_beq ‹_›|exact ⟨by simp only [List.length_nil];omega,by simp only [List.length_nil];omega,by simp [zlr]⟩|(simp only [List.length_map] at *;omega)|(simp;done)):p:=h
theorem zp5 {p:Prop} (h:p:=by first|assumption|exact zxB ‹_› ‹_› ‹_›|exact zxA ‹_› ‹_› ‹_›|exact zzc ‹_› ‹_› ‹_› Zs (by first|exact xt0|exact xt1 ‹_›) Zo):p:=h
theorem zgs (d:Int) (M k:Nat) (t0:Tp) (p pi:Pl) (s:Sch) (kd:Int) (first i:Nat) (u:Tp) (sets:List Se) (hsm:s∈zao) (hs:Few s.cols) (hpi:pi.OkN k) (hpf:pi=plIn p s) (hM:Deep M) (hE:∀ (t:Tp) (w:Int),∃ (e:X) (t':Tp),XT p.tbs M (frIn p.frs s) w e/\zab E0 S.Ac [.p 0 0,pi.av,iv w,iv d] [.box t.cells] e.av [.box t'.cells]) (hk:kd=2) (hf:first < s.cols.length) (hI:SetsT p.tbs M p.frs s first i sets) :
  ∃ (r:Ac) (t':Tp),ActT p.tbs M p.frs r/\Good E0 B.At [.box t0.cells] (zwb d p pi s kd first i u sets) (Shut 1 fun rZ hZ=>rZ=r.av/\hZ=[.box t'.cells]):=by
 obtain ⟨q,hq⟩:∃ q,i+q=3:=⟨3 - i,by have:=hI.two;omega⟩
 induction q generalizing i u sets with
 | zero=>have:=hI.two;omega
 | succ q ih =>
  obtain ⟨r,t',hr,hg⟩:=zws d M k t0 p pi s kd first i u sets hsm hs (zaD hs) hpi hpf hM hE hk hf hs hI hI.two (by have:=hI.len;have:=hI.two;omega) fun u' sets' h'=>ih (i+1) u' sets' h' Zo
  exact ⟨r,t',hr,zaa hg⟩
theorem zew {w:Str} (h:TabN w):zaj w∈zao:=by
 rcases h with rfl|rfl|rfl
 ·rw [zld];simp [zao,schT]
 ·rw [zle];simp [zao,schU]
 ·rw [zj7];simp [zao,zlc]
theorem zyN {tbs:List Sch} {M:Nat} {frs:List Fr} {s:Sch} {first:Nat}:SetsT tbs M frs s first 0 []:=⟨rfl,fun j x h=>by simp at h,by omega,by omega⟩
theorem zA3 {w:Str} (h:TabN w):∀ c∈(zaj w).cols,c.key=true->c.type=1:=by
 have h0:∀ s∈zao,∀ c∈s.cols,c.key=true->c.type=1:=by simp [zao]
 exact h0 _ (zew h)
section
variable {tbs : List Sch} {M : Nat} {frs : List Fr} {w : Str} {kd : Int}
theorem zxB {rows:List (List X)} (hw:TabN w) (hk:(kd==1)=true) (h:rows.length+0<=3/\1<=rows.length+0/\zlr tbs M frs (zaj w) rows):ActT tbs M frs (Ac.mk kd (zaj w).name rows [] [] [] ⟨#[]⟩):=by
 rw [show kd=1 by simpa using hk];exact .rows (zew hw) Zo Zo h.2.2
theorem zxA {q:Qy} (hw:TabN w) (hk:(kd==1)=true) (h:QyT tbs M frs (zaj w) q):ActT tbs M frs (Ac.mk kd (zaj w).name [] [q] [] [] ⟨#[]⟩):=by
 rw [show kd=1 by simpa using hk];exact .copy (zew hw) h
theorem zzc {wh:List X} (hw:TabN w) (h1:(kd==1)=false) (h2:(kd==2)=false) (h:wh.length<=1) (hx:∀ x∈wh,XT tbs M (frIn frs (zaj w)) 2 x) (hr:1<=kd/\kd<=3):ActT tbs M frs (Ac.mk kd (zaj w).name [] [] [] wh ⟨#[]⟩):=by
 have e1:kd≠1:=by simpa using h1
 have e2:kd≠2:=by simpa using h2
 rw [show kd=3 by omega];exact .del (zew hw) h hx
end
theorem zkx (t:Tp) (p:Pl) (d:Int) (M k:Nat) (hp:p.OkN (k+1)) (hpk:p.OkN k) (hsh:zac zao) (hM:Deep M) (hcol:∀ (t:Tp) (p:Pl) (w:Int),Few p.frs->(∀ f∈p.frs,Few f.cols)->∃ (x:X) (ok:Bool) (t':Tp),(ok=true->ColT p.frs w x)/\zab E0 S.AB [.p 0 0,p.av,iv w] [.box t.cells] (.tup [x.av,bv ok]) [.box t'.cells]) (hE:∀ (t:Tp) (p:Pl) (w:Int),p.OkN k->∃ (e:X) (t':Tp),XT p.tbs M p.frs w e/\zab E0 S.Ac [.p 0 0,p.av,iv w,iv d] [.box t.cells] e.av [.box t'.cells]):∃ (r:Ac) (t':Tp),ActT p.tbs M p.frs r/\zab E0 S.At [.p 0 0,p.av,iv d] [.box t.cells] r.av [.box t'.cells]:=by
 obtain ⟨w1,t1,q1,c1⟩:=(zcM t)
 obtain ⟨a2,t2,q2,c2⟩:=(zag t1 3 zcb)
 let p_1:List St:=[sl [0] c1,sc (zbY w1 zcb),sc (zbX p (zaj w1) zcb),sdm [(1,[sl [0] c2]),(2,[si (zaU (t:=1+(a2:Int)) (n:=1+a2) Zo Zo)])] 0 [(0,AV.p 0 0),(1,AV.agg [fsl p.frs,ZS p.tbs]),(2,iv d),(4,AV.p 1 0),(6,AV.p 2 0),(7,AV.p 3 0),(8,AV.p 4 0),(9,AV.p 5 0),(18,AV.p 0 0),(19,sv w1),(20,AV.agg [sv (zaj w1).name,AV.sl (List.map Col.cells (zaj w1).cols)]),(21,AV.agg [fsl p.frs,ZS p.tbs]),(22,AV.agg [sv (zaj w1).name,AV.sl (List.map Col.cells (zaj w1).cols)]),(23,AV.agg [AV.sl (List.map Fr.cells (plIn p (zaj w1)).frs),AV.sl (List.map Sch.cells (plIn p (zaj w1)).tbs)]),(24,AV.p 0 0),(25,iv (a2:Int)),(26,iv (↑(1+a2):Int)),(27,AV.p 3 0),(28,sv (zaj w1).name),(29,AV.agg [iv (↑(1+a2):Int),sv (zaj w1).name,AV.nl,AV.nl,AV.nl,AV.nl,sv Zs0])] [Blk.box [AV.sl (List.map (fun n=>[iv n]) t2.l),iv (t2.pos:Int)],Blk.box [fsl p.frs,ZS p.tbs],Blk.box [iv 0,sv Zs0,AV.nl,AV.nl,AV.nl,AV.nl,sv Zs0],Blk.box [sv (zaj w1).name,AV.sl (List.map Col.cells (zaj w1).cols)],Blk.box [AV.sl (List.map Fr.cells (plIn p (zaj w1)).frs),AV.sl (List.map Sch.cells (plIn p (zaj w1)).tbs)],Blk.box [iv (↑(1+a2):Int),sv (zaj w1).name,AV.nl,AV.nl,AV.nl,AV.nl,sv Zs0]]]
 cases h3:(↑(1+a2):Int)==1
 ·cases h4:(↑(1+a2):Int)==2
  ·obtain ⟨b5,t5,c5⟩:=(zam t2 4 zcb)
   cases h6:!b5
   ·exact ⟨Ac.mk (↑(1+a2):Int) (zaj w1).name [] [] [] [] Zs0,t5,zp5,wk At.At (p_1++[sb h3,sb h4,sl [0] c5,sb h6]) kr⟩
   ·obtain ⟨e7,t7,q7,c7⟩:=(hE t5 (plIn p (zaj w1)) 2 zcb)
    exact ⟨Ac.mk (↑(1+a2):Int) (zaj w1).name [] [] [] [e7] Zs0,t7,zp5,(by (try simp only [Ac.av,Ac.cells,zaM,zaQ,zaN,zaS]);exact wk At.At (p_1++[sb h3,sb h4,sl [0] c5,sb h6,sl [0] c7]) kr)⟩
  ·obtain ⟨a8,t8,q8,c8⟩:=(zag t2 ((↑(List.map Col.cells (zaj w1).cols).length:Int)) zcb)
   obtain ⟨r9_0,r9_1,p9_0,g9⟩:=zgs d M k t p (plIn p (zaj w1)) (zaj w1) ((↑(1+a2):Int)) a8 0 t8 ([]) zcb zcb zcb zcb hM zcb zcb zcb zcb
   exact ⟨r9_0,r9_1,zp5,wkcN At.At (p_1++[sb h3,sb h4,sl [0] c8]) [0,2,6,7,8,9,14,15] 6 [(.ob 5 4 Ty.Set,7)] kr (g9)⟩
 ·obtain ⟨b10,t10,c10⟩:=(zam t2 4 zcb)
  rcases (Bool.eq_false_or_eq_true b10).symm with h11|h11
  ·obtain ⟨a12,t12,q12,c12⟩:=(zag t10 3 zcb)
   obtain ⟨u13,rows13,q13,q13_1,g13⟩:=zgr t p (plIn p (zaj w1)) (zaj w1) ((↑(1+a2):Int)) d M k hE zcb zcb zcb (1+a12) t12 ([]) zcb zcb
   exact ⟨Ac.mk (↑(1+a2):Int) (zaj w1).name rows13 [] [] [] Zs0,u13,zp5,wkcN At.At (p_1++[sb h3,sl [0] c10,sb h11,sl [0] c12,si (zaU (t:=1+(a12:Int)) (n:=1+a12) Zo Zo)]) [0,2,4,6,7,8,9,10] 6 [(.ob 5 2 Ty.LExpr,7)] kr (g13 _ (zaa (wkr [sqx (True/\True/\rows13.length=(List.map zaA rows13).length/\True/\True/\True/\True/\True),sb Zf] kr)))⟩
  ·obtain ⟨qy14,t14,q14,c14⟩:=(zkz t10 p (zaj w1) d M k hp zcb zcb hM zcb zcb)
   exact ⟨Ac.mk (↑(1+a2):Int) (zaj w1).name [] [qy14] [] [] Zs0,t14,zp5,(by (try simp only [Ac.av,Ac.cells,zaM,zaQ,zaN,zaS]);exact wk At.At (p_1++[sb h3,sl [0] c10,sb h11,sl [0] c14]) kr)⟩
theorem zj5 {p:Prop} (h:p:=by first|assumption|omega|(simp;done)):p:=h
theorem znZ {p:Prop} (h:p:=by simp only [trS, *,cond_true,cond_false] <;> rfl):p:=h
theorem zsK {p:Prop} (h:p:=by first|assumption|omega|(simp;done)|(simp;omega)):p:=h
abbrev sIns:Str:=⟨#[73,78,83,69,82,84,69,68]⟩
abbrev sDel:Str:=⟨#[68,69,76,69,84,69,68]⟩
def trS (t:Tg) (s:Sch):List Tb:=bif t.before then [] else bif t.each then [] else bif t.event==1 then [trTb sIns s] else bif t.event==3 then [trTb sDel s] else bif t.event==2 then [trTb sDel s,trTb sIns s] else []
theorem c_tr17 (t:Tg) (s:Sch) (h:zac s.cols):∃ (r:List Tb),r=trS t s/\zab E0 S.As [t.av,s.av,.agg [sv ⟨#[]⟩,.sl [],.sl [],.sl []]] [] (tsl r) []:=by
 cases h1:t.before
 ·cases h2:t.each
  ·obtain ⟨q3,g3⟩:=zdu t (s)
   cases h4:t.event==1
   ·cases h5:t.event==3
    ·let p_1:List St:=[sb Zf,sb h4,sb h5]
     cases h6:t.event==2
     ·exact ⟨[],znZ,wkc At.As [sg h1,sb h2] [3,4,5,7,8,18,19,20] 3 kr (g3 _ (zaa (wkr (p_1++[sb h6]) kr)))⟩
     ·exact ⟨[trTb ZsD s,trTb ZsI s],znZ,wkc At.As [sg h1,sb h2] [3,4,5,7,8,18,19,20] 3 kr (g3 _ (zaa (wkrS (y:=AV.sl [[sv (trTb ZsD s).sch.name,AV.sl (List.map Col.cells (trTb ZsD s).sch.cols),iv (trTb ZsD s).next,AV.sl []],[sv (trTb ZsI s).sch.name,AV.sl (List.map Col.cells (trTb ZsI s).sch.cols),iv (trTb ZsI s).next,AV.sl []]]) (H:=[]) (p_1++[sb h6,sd [(2,[sc (zbD ZsD s zsK)]),(5,[sc (zbD ZsI s zsK)])]]) kr ⟨Zcv1,Zcv1⟩)))⟩
    ·exact ⟨[trTb ZsD s],znZ,wkc At.As [sg h1,sb h2] [3,4,5,7,8,18,19,20] 3 kr (g3 _ (zaa (wkrS (y:=AV.sl [[sv (trTb ZsD s).sch.name,AV.sl (List.map Col.cells (trTb ZsD s).sch.cols),iv (trTb ZsD s).next,AV.sl []]]) (H:=[]) [sb Zf,sb h4,sb h5,sc (zbD ZsD s zsK)] kr ⟨Zcv1,Zcv1⟩)))⟩
   ·exact ⟨[trTb ZsI s],znZ,wkc At.As [sg h1,sb h2] [3,4,5,7,8,18,19,20] 3 kr (g3 _ (zaa (wkrS (y:=AV.sl [[sv (trTb ZsI s).sch.name,AV.sl (List.map Col.cells (trTb ZsI s).sch.cols),iv (trTb ZsI s).next,AV.sl []]]) (H:=[]) [sb Zf,sb h4,sc (zbD ZsI s zsK)] kr ⟨Zcv1,Zcv1⟩)))⟩
  ·exact ⟨[],znZ,wk At.As [sg h1,sb h2] kr⟩
 ·exact ⟨[],znZ,wk At.As [sb h1] kr⟩
theorem zd3 (t:Tg) (s:Sch) (h:zac s.cols):zab E0 S.As [t.av,s.av,.agg [sv ⟨#[]⟩,.sl [],.sl [],.sl []]] [] (tsl (trS t s)) []:=by
 obtain ⟨r,rfl,h⟩:=c_tr17 t s h
 exact h
theorem zij (t:Tg) (s:Sch):(trS t s).length<=2:=by
 unfold trS
 cases t.before <;> cases t.each <;> cases t.event==1 <;> cases t.event==3 <;> cases t.event==2 <;> simp
theorem zvL {t:Tg} {s:Sch} {x:Tb} (h:x∈trS t s):x=trTb sIns s\/x=trTb sDel s:=by
 have h0:∀ b e a1 a3 a2:Bool,x∈(bif b then [] else bif e then [] else bif a1 then [trTb sIns s] else bif a3 then [trTb sDel s] else bif a2 then [trTb sDel s,trTb sIns s] else [])->x=trTb sIns s\/x=trTb sDel s:=by
  intro b e a1 a3 a2 h
  cases b <;> cases e <;> cases a1 <;> cases a3 <;> cases a2 <;> simp only [cond_true,cond_false,List.not_mem_nil,List.mem_cons,or_false] at h
  all_goals (first|exact Or.symm h|exact .inl h|exact .inr h)
 exact h0 _ _ _ _ _ h
theorem zvK {t:Tg} {s:Sch} (hs:Few s.cols):∀ x∈trS t s,Few x.sch.cols:=fun x hx=>by
 rcases zvL hx with rfl|rfl <;> simpa [trTb,Few] using hs
def plOf (g:Tg):Pl:=⟨zaJ g (zaj g.table) [] [],zao++(trS g (zaj g.table)).map Tb.sch⟩
theorem zBf {g:Tg} (hs:Few (zaj g.table).cols):(plOf g).OkN 4:=by
 refine ⟨by have:=(frFew g hs [] []).1;simp only [plOf];omega,(frFew g hs [] []).2,fun h0=>?_,?_,fun x hx=>?_⟩
 ·simp [plOf,zao] at h0
 ·have:=zij g (zaj g.table);simp [plOf,Few,zao];omega
 ·simp only [plOf,List.mem_append,List.mem_map] at hx
  rcases hx with hx|⟨y,hy,rfl⟩
  ·exact (zfo hx).few
  ·exact zvK hs y hy
theorem zAb {g:Tg} (h:g.before=true):(plOf g).tbs=zao:=by simp [plOf,trS,h]
noncomputable def L_plT (g:Tg) (s:Sch) (frs:List Fr) (tr:List Tb) (i:Nat) (ss:List Sch):Cfg:=zan B.Cb 0 [(2,.p 1 0),(4,.p 4 0),(18,tsl tr),(19,iv ((tr.map Tb.cells).length:Nat)),(20,iv (i:Nat))] [.box g.cells,.box [.nl,.nl],.box s.cells,.row Ty.Schema (ss.map Sch.cells) false,.box [fsl frs,.own 3 ss.length]]
theorem zjI (g:Tg) (s:Sch) (frs:List Fr) (tr:List Tb) (hl:tr.length<=2) (i:Nat) (ss:List Sch) (hi:i<=(tr).length) (hI:ss=zao++(tr.take i).map Tb.sch):∃ (ss':List Sch),(ss'=zao++(tr.take (tr).length).map Tb.sch)/\(decide ((((tr).length:Nat):Int) < (((tr.map Tb.cells).length:Nat):Int))=false)/\∀ R,Good E0 B.Cb [] (L_plT g s frs tr (tr).length ss') R->Good E0 B.Cb [] (L_plT g s frs tr i ss) R:=by
 have hk:=hi;revert i ss;refine zlp ((tr).length) (fun i hlt ih ss hi hI _=>?_)
 obtain ⟨x,hx,h0,hw⟩:=zlq (l:=tr) ((tr.map Tb.cells).length) hlt
 have hsl:ss.length<=5:=(by rw [hI];simp [zao];omega)
 exact Zih (ih (ss++[x.sch]) Zo (by (rw [List.take_add_one,hx,hI];simp)) Zo) fun R gY=>zaa (wkl [sb h0,se (zai Tb.cells hx rfl),sqA (List.map Sch.cells ss) [x.sch.cells] ss.length 2 40,si hw] [2,4,18,19,20] 5 kr (zaR rfl (show ([Blk.box g.cells,Blk.box [AV.nl,AV.nl],Blk.box s.cells,Blk.row Ty.Schema (List.map Sch.cells ss++[x.sch.cells]) false,Blk.box [fsl frs,AV.own 3 (List.map Sch.cells ss++[x.sch.cells]).length]]:Heap)=_ from Zcv1) gY))
theorem zqC (g:Tg) (hsh:zac zao) (hfw:Few (zaj g.table).cols) (hs:zac (zaj g.table).cols) (htl:(trS g (zaj g.table)).length<=2) (hS:zab E0 S.AG [] [] (.own 0 3) [.row Ty.Schema (zao.map Sch.cells) false]):∃ (p:Pl),p=plOf g/\zab E0 S.Cb [g.av] [] p.av []:=by
 obtain ⟨ss1,q1,q1_1,g1⟩:=zjI g (zaj g.table) (zaJ g (zaj g.table) [] []) (trS g (zaj g.table)) zj5 0 zao zj5 zj5
 exact ⟨Pl.mk (zaJ g (zaj g.table) [] []) ss1,(by (rw [List.take_length] at *;subst_vars;rfl)),wkc At.Cb [sc (zbY g.table zj5),sc (zdz g (zaj g.table) ([]) ([]) zj5 zj5 zj5),sc hS,sc (zd3 g (zaj g.table) zj5)] [2,4,18,19,20] 5 kr (g1 _ (zaa (wkr [sqx (True/\ss1.length=(List.map Sch.cells ss1).length/\True),sb q1_1] kr)))⟩
theorem zqB (g:Tg) (h:TabN g.table):zab E0 S.Cb [g.av] [] (plOf g).av []:=by
 obtain ⟨p,rfl,h⟩:=zqC g zhG (zbO h).few (zaD (zbO h).few) (zij _ _) zod
 exact h
structure PlB (bf:Bool) (p:Pl):Prop where
 ok:p.OkN 4
 bef:bf=true->p.tbs=zao
theorem zbl (g:Tg) (h:TabN g.table):∃ p:Pl,PlB g.before p/\zab E0 S.Cb [g.av] [] p.av [] :=
 ⟨plOf g,⟨zBf (zbO h).few,zAb⟩,zqB g h⟩
theorem zht {p:Prop} (h:p:=by first|exact trS_b ‹_›|exact trS_e ‹_› ‹_›|exact trS_e1 ‹_› ‹_› ‹_›|exact trS_e3 ‹_› ‹_› ‹_›|exact trS_e2 ‹_› ‹_› ‹_›|exact trS_e0 ‹_› ‹_› ‹_› ‹_› ‹_›|exact ev_31 ‹_› ‹_›):p:=h
theorem zdD {p:Prop} (h:p:=by first|assumption|omega|(simp;done)|(simp;omega)):p:=h
noncomputable def L_tre (nm:Str) (s:Sch) (i:Nat) (out:List Col):Cfg:=zan B.Bs 0 [(2,.sl []),(6,.p 1 0),(7,.p 2 0),(16,.sl (s.cols.map Col.cells)),(17,iv ((s.cols.map Col.cells).length:Nat)),(18,iv (i:Nat))] [.box s.cells,.box [sv ⟨#[]⟩,.nl,iv 0,.nl],.box [sv nm,.own 3 out.length,iv 1,.sl []],.row Ty.Column (out.map Col.cells) false]
theorem Zcv10 {p:Prop} (h:p:=by first|rfl|(simp;done)|(simp [X.cells,Qy.cells,V.cells,Col.cells,Rw.cells,Tb.cells,Fr.cells,Sch.cells,Tp.cells,Pl.cells,Acc.cells,Ac.cells,Se.cells,Tg.cells,Rk.cells,Pr.cells,Ch.cells,Rw.cells,Dl.cells];done)):p:=h
theorem zgh (nm:Str) (s:Sch) (hs:zac s.cols) (i:Nat) (out:List Col) (hi:i<=(s.cols).length) (hI:out=(s.cols.take i).map Col.tr):∃ (out':List Col),(out'=(s.cols.take (s.cols).length).map Col.tr)/\(decide ((((s.cols).length:Nat):Int) < (((s.cols.map Col.cells).length:Nat):Int))=false)/\∀ R,Good E0 B.Bs [] (L_tre nm s (s.cols).length out') R->Good E0 B.Bs [] (L_tre nm s i out) R:=by
 have hk:=hi;revert i out;refine zlp ((s.cols).length) (fun i hlt ih out hi hI _=>?_)
 obtain ⟨x,hx,h0,hw⟩:=zlq (l:=s.cols) ((s.cols.map Col.cells).length) hlt
 have ho:out.length<=1000000000:=(by rw [hI,List.length_map,List.length_take];simp only [zac] at hs;omega)
 exact Zih (ih (out++[Col.mk x.name x.type false false]) Zo (by (rw [List.take_add_one,hx,List.map_append,hI];rfl)) Zo) fun R gY=>zaa (wkl [sb h0,se (zai Col.cells hx rfl),sqA (List.map Col.cells out) [[sv x.name,iv x.type,bv false,bv false]] out.length 4 32,si hw] [2,6,7,16,17,18] 4 kr (zaR rfl (show ([Blk.box s.cells,Blk.box [sv Zs0,AV.nl,iv 0,AV.nl],Blk.box [sv nm,AV.own 3 (List.map Col.cells out++[[sv x.name,iv x.type,bv false,bv false]]).length,iv 1,AV.sl []],Blk.row Ty.Column (List.map Col.cells out++[[sv x.name,iv x.type,bv false,bv false]]) false]:Heap)=_ from Zcv10) gY))
theorem zrD (nm:Str) (s:Sch) (hs:zac s.cols):∃ (r:Tb),r=trTb nm s/\zab E0 S.Bs [sv nm,s.av,.sl []] [] r.av []:=by
 obtain ⟨out1,q1,q1_1,g1⟩:=zgh nm s Za 0 ([]) Za Za
 exact ⟨Tb.mk (Sch.mk nm out1) 1 [],(by (rw [List.take_length] at *;subst_vars;rfl)),wkcN At.Bs [] [2,6,7,16,17,18] 3 [(.ob 2 1 Ty.Column,4)] kr (g1 _ (zaa (wkr [sqx (True/\out1.length=(List.map Col.cells out1).length/\True/\True/\True),sb q1_1,sb Zf] kr)))⟩
theorem zbs (nm:Str) (s:Sch) (hs:zac s.cols):zab E0 S.Bs [sv nm,s.av,.sl []] [] (trTb nm s).av []:=by
 obtain ⟨r,rfl,h⟩:=zrD nm s hs
 exact h
theorem zbM:zab E0 S.De [.sl []] [] (.sl []) []:=by
 have h:=zmr [] (by simp [zac]) Zs
 exact wk At.De [sc h] kr
noncomputable def L_dlP (l:List Pr) (i:Nat) (out:List Pr):Cfg:=zan B.Bc 0 [(1,.fn S.Cw []),(5,.own 0 out.length),(8,.sl ((l).map Pr.cells)),(9,iv (((l).map Pr.cells).length:Nat)),(10,iv (i:Nat))] [.row Ty.Pair ((out).map Pr.cells) false]
theorem zge (l:List Pr) (hl:zac l) (hf:∀ x∈l,zab E0 S.Cw [.agg x.cells] [] (.agg x.cells) []) (i:Nat) (out:List Pr) (hi:i<=(l).length) (hI:out=l.take i):∃ (out':List Pr),(out'=l.take (l).length)/\(decide ((((l).length:Nat):Int) < ((((l).map Pr.cells).length:Nat):Int))=false)/\∀ R,Good E0 B.Bc [] (L_dlP l (l).length out') R->Good E0 B.Bc [] (L_dlP l i out) R:=by
 have hk:=hi;revert i out;refine zlp ((l).length) (fun i hlt ih out hi hI _=>?_)
 obtain ⟨x,hx,h0,hw⟩:=zlq (l:=l) (((l).map Pr.cells).length) hlt
 have hfx:=hf x (List.mem_of_getElem? hx)
 have ho:out.length<=1000000000:=by rw [hI,List.length_take];simp only [zac] at hl;omega
 exact Zih (ih (out++[x]) Zo (by rw [List.take_add_one,hx,hI];rfl) Zo) fun R gY=>zaa (wkl [sb h0,se (zai Pr.cells hx rfl),sc hfx,sqA (List.map Pr.cells out) [[iv x.id,vsl x.old,vsl x.nw]] out.length 3 56,si hw] [1,5,8,9,10] 1 kr (zaE 5 0 (List.map Pr.cells out++[[iv x.id,vsl x.old,vsl x.nw]]) gY (he:=Zcv10) (hm:=Zcv10)))
theorem zly (l:List Pr) (hl:zac l) (hf:∀ x∈l,zab E0 S.Cw [.agg x.cells] [] (.agg x.cells) []):∃ (r:List Pr),r=l/\zab E0 S.Bc [.sl ((l).map Pr.cells),.fn S.Cw []] [] (.sl ((r).map Pr.cells)) []:=by
 obtain ⟨out1,q1,q1_1,g1⟩:=zge l Za Za 0 ([]) Za Za
 exact ⟨out1,(by first|assumption|(rw [List.take_length] at *;assumption)),wkcN At.Bc [] [1,5,8,9,10] 0 [(.ot 5 Ty.Pair,1)] kr (g1 _ (zaa (wkr [sqx (out1.length=(List.map Pr.cells out1).length),sb q1_1] kr)))⟩
theorem zlI (l:List Pr) (hl:zac l) (hf:∀ x∈l,zab E0 S.Cw [.agg x.cells] [] (.agg x.cells) []):zab E0 S.Bc [.sl ((l).map Pr.cells),.fn S.Cw []] [] (.sl ((l).map Pr.cells)) []:=by
 obtain ⟨r,rfl,h⟩:=zly l hl hf
 exact h
theorem zjd:zab E0 S.Bc [.sl [],.fn S.Cw []] [] (.sl []) []:=zlI [] (by simp [zac]) Zs
theorem zpy:zab E0 S.C9 [.sl []] [] (.sl []) []:=wk At.C9 [sc zjd] kr
section
variable {t : Tg} {s : Sch}
theorem trS_b (hb:t.before=true):[]=trS t s:=by simp [trS,hb]
theorem trS_e (hb:t.before=false) (he:t.each=true):[]=trS t s:=by simp [trS,hb,he]
theorem trS_e1 (hb:t.before=false) (he:t.each=false) (h:(t.event==1)=true):[trTb sIns s]=trS t s:=by simp only [trS,hb,he,h,cond_true,cond_false]
theorem trS_e3 (hb:t.before=false) (he:t.each=false) (h:(t.event==3)=true):[trTb sDel s]=trS t s:=by
 have e:=eq_of_beq h
 simp [trS,hb,he,e]
theorem trS_e2 (hb:t.before=false) (he:t.each=false) (h:(t.event==2)=true):[trTb sDel s,trTb sIns s]=trS t s:=by
 have e:=eq_of_beq h
 simp [trS,hb,he,e]
theorem trS_e0 (hb:t.before=false) (he:t.each=false) (h2:(t.event==2)=false) (h3:(t.event==3)=false) (h1:(t.event==1)=false):[]=trS t s:=by simp only [trS,hb,he,h1,h2,h3,cond_false]
theorem ev_31 {p:Prop} (h:(t.event==3)=true) (h':(t.event==1)=true):p:=by
 have e:=eq_of_beq h;have e':=eq_of_beq h';omega
end
noncomputable def L_ttU (t:Tg) (s:Sch):Cfg:=zan B.Az 0 [(3,.p 0 0),(4,.p 1 0),(7,.nl),(8,.nl),(29,.sl []),(30,iv 0),(31,iv 0)] [.box t.cells,.box s.cells,.box [sv ⟨#[]⟩,.sl [],.sl [],.sl []]]
theorem zfI (t:Tg) (s:Sch):True/\∀ R,Good E0 B.Az [] (L_ttU t s) R->Good E0 B.Az [] (L_ttU t s) R:=⟨trivial,fun _ h=>h⟩
theorem zxR (t:Tg) (s:Sch) (hs:zac s.cols):∃ (r:List Tb),(r=trS t s)/\zab E0 S.Az [t.av,s.av,.agg [sv ⟨#[]⟩,.sl [],.sl [],.sl []]] [] (tsl r) []:=by
 let p_1:List St:=[sqx (2=2),sb Zf]
 cases h1:t.before
 ·cases h2:t.each
  ·cases h3:t.event==2
   ·cases h4:t.event==3
    ·cases h5:t.event==1
     ·exact ⟨[],zht,wk At.Az [sg h1,sb h2,sd [(2,[sc zbM]),(5,[sc zbM])],sb h3,sg h3,sb h4,sg h5,sb h3] kr⟩
     ·exact ⟨[trTb ZsI s],zht,(by (try simp only [zsl,Acc.cells,Ac.cells,Se.cells,Tg.cells,Rk.cells,Pr.cells,Ch.cells,Rw.cells,Dl.cells]);exact wk At.Az [sqx (1=1),sg h1,sb h2,sd [(2,[sc zbM]),(5,[sc zbM])],sb h3,sg h3,sb h4,sb h5,sc (zbs ZsI s zdD),sqx (AllLen [[sv (trTb ZsI s).sch.name,AV.sl (List.map Col.cells (trTb ZsI s).sch.cols),iv (trTb ZsI s).next,AV.sl []]] 4/\Nat.le 72 140737488355328)] kr)⟩
    ·cases h6:t.event==1
     ·exact ⟨[trTb ZsD s],zht,(by (try simp only [zsl,Acc.cells,Ac.cells,Se.cells,Tg.cells,Rk.cells,Pr.cells,Ch.cells,Rw.cells,Dl.cells]);exact wk At.Az [sqx (1=1),sg h1,sb h2,sd [(2,[sc zbM]),(5,[sc zbM])],sb h3,sg h3,sb h4,sc (zbs ZsD s zdD),sqx (AllLen [[sv (trTb ZsD s).sch.name,AV.sl (List.map Col.cells (trTb ZsD s).sch.cols),iv (trTb ZsD s).next,AV.sl []]] 4/\Nat.le 72 140737488355328),sg h6,sb h3] kr)⟩
     ·exact ⟨[trTb ZsD s,trTb ZsI s],zht,(by (try simp only [zsl,Acc.cells,Ac.cells,Se.cells,Tg.cells,Rk.cells,Pr.cells,Ch.cells,Rw.cells,Dl.cells]);exact wk At.Az [sqx (2=2),sg h1,sb h2,sd [(2,[sc zbM]),(5,[sc zbM])],sb h3,sg h3,sb h4,sc (zbs ZsD s zdD),sqx (AllLen [[sv (trTb ZsD s).sch.name,AV.sl (List.map Col.cells (trTb ZsD s).sch.cols),iv (trTb ZsD s).next,AV.sl []]] 4/\Nat.le 72 140737488355328),sb h6,sc (zbs ZsI s zdD),sqx (AllLen [[sv (trTb ZsI s).sch.name,AV.sl (List.map Col.cells (trTb ZsI s).sch.cols),iv (trTb ZsI s).next,AV.sl []]] 4/\1=1/\Nat.le 144 140737488355328)] kr)⟩
   ·obtain ⟨q7,g7⟩:=zfI t (s)
    let p_2:List St:=[sg h1,sb h2,sd [(2,[sc zbM]),(5,[sc zbM])],sb h3,sc zpy]
    let p_3:List St:=p_1++[sb h3,sc (zbs ZsD s zdD),sqx (AllLen [[sv (trTb ZsD s).sch.name,AV.sl (List.map Col.cells (trTb ZsD s).sch.cols),iv (trTb ZsD s).next,AV.sl []]] 4/\Nat.le 72 140737488355328)]
    cases h8:t.event==1
    ·exact ⟨[trTb ZsD s,trTb ZsI s],zht,wkc At.Az p_2 [3,4,7,8,29,30,31] 3 kr (g7 _ (zaa (wkrS (y:=AV.sl [[sv (trTb ZsD s).sch.name,AV.sl (List.map Col.cells (trTb ZsD s).sch.cols),iv (trTb ZsD s).next,AV.sl []],[sv (trTb ZsI s).sch.name,AV.sl (List.map Col.cells (trTb ZsI s).sch.cols),iv (trTb ZsI s).next,AV.sl []]]) (H:=[]) (p_3++[sg h8,sb h3,sc (zbs ZsI s zdD),sqx (AllLen [[sv (trTb ZsI s).sch.name,AV.sl (List.map Col.cells (trTb ZsI s).sch.cols),iv (trTb ZsI s).next,AV.sl []]] 4/\1=1/\Nat.le 144 140737488355328)]) kr ⟨Zcv10,Zcv10⟩)))⟩
    ·exact ⟨[trTb ZsD s,trTb ZsI s],zht,wkc At.Az p_2 [3,4,7,8,29,30,31] 3 kr (g7 _ (zaa (wkrS (y:=AV.sl [[sv (trTb ZsD s).sch.name,AV.sl (List.map Col.cells (trTb ZsD s).sch.cols),iv (trTb ZsD s).next,AV.sl []],[sv (trTb ZsI s).sch.name,AV.sl (List.map Col.cells (trTb ZsI s).sch.cols),iv (trTb ZsI s).next,AV.sl []]]) (H:=[]) (p_3++[sb h8,sc (zbs ZsI s zdD),sqx (AllLen [[sv (trTb ZsI s).sch.name,AV.sl (List.map Col.cells (trTb ZsI s).sch.cols),iv (trTb ZsI s).next,AV.sl []]] 4/\1=1/\Nat.le 144 140737488355328)]) kr ⟨Zcv10,Zcv10⟩)))⟩
  ·exact ⟨[],zht,wk At.Az [sg h1,sb h2] kr⟩
 ·exact ⟨[],zht,wk At.Az [sb h1] kr⟩
theorem ziF (t:Tg) (s:Sch) (hs:zac s.cols):zab E0 S.Az [t.av,s.av,.agg [sv ⟨#[]⟩,.sl [],.sl [],.sl []]] [] (tsl (trS t s)) []:=by
 obtain ⟨r,rfl,h⟩:=zxR t s hs
 exact h
def zax (t:Tg) (m:List Tb):List Tb:=m++trS t (zaf m t.table).1
theorem zxK (t:Tg) (m:List Tb) (hm:zac m) (hc:∀ x∈m,zac x.sch.cols) (hs:zac (zaf m t.table).1.cols) (hl:m.length<=1000) (hl2:(trS t (zaf m t.table).1).length<=1000):∃ (f:List Fr) (o:List Tb),(f=zbZ t (zaf m t.table).1 [] []/\o=zax t m)/\zab E0 S.CO [t.av,tsl m] [] (.tup [fsl f,tsl o]) []:=by
 exact ⟨zbZ t (zaf m t.table).fst [] [],m++trS t (zaf m t.table).fst,Zj,wk At.CO [sc (zgL m t.table zdD zdD),sd [(2,[sc (zgw t ((zaf m t.table).fst) zdD)]),(7,[sc (ziF t ((zaf m t.table).fst) zdD)]),(9,[sc (ziD m (trS t (zaf m t.table).fst) zdD zdD)])]] kr⟩
theorem ztM {m:List Tb} (h:FpC m) (n:Str):zac (knS m n).1.cols:=by
 unfold knS
 cases ByteArray.toList n==ZsI.toList
 ·cases ByteArray.toList n==ZsD.toList
  ·exact h.src n
  ·simp [zac]
 ·simp [zac]
structure BfLi (n:Nat) (t:Tg):Prop where
 li:TgLi n t
 sets:(zbb t).length<=3
theorem BfLi.used {n:Nat} {t:Tg} (h:BfLi n t):(zb0 t).length<=4:=by
 have h1:=h.li.whl
 have h2:=h.sets
 rw [zb0,List.length_append,List.length_map];omega
theorem BfLi.usx {n:Nat} {t:Tg} (h:BfLi n t):∀ e∈zb0 t,XOk n e:=fun e he=>by
 rcases List.mem_append.1 he with he|he
 ·exact h.li.wh e he
 ·obtain ⟨s,hs,rfl⟩:=List.mem_map.1 he
  obtain ⟨a,ha,hs⟩:=List.mem_flatMap.1 hs
  unfold setQ at hs
  cases hk:a.kind==5
  ·rw [hk] at hs;cases hs
  ·rw [hk] at hs;exact (h.li.act a ha).set s hs
theorem zno {n:Nat} (hn:n<=990) {s:Sch} (hs:zac s.cols) (t:Tg):FrB n (zbZ t s [] []):=by
 have h0:∀ a b c d e:Bool,∀ fr:List Fr,fr=(bif !a then [] else bif b then bif c then [Fr.mk ZsO true s.cols [],Fr.mk ZsN true s.cols []] else [Fr.mk ZsO true s.cols [],Fr.mk ZsN true s.cols []] else bif d then bif c then [Fr.mk ZsO true s.cols [],Fr.mk ZsN true s.cols []] else [Fr.mk ZsO true s.cols []] else bif c then [Fr.mk ZsN true s.cols []] else [])->fr.length<=2/\∀ f∈fr,zac f.cols:=by
  intro a b c d e fr h
  subst h
  cases a <;> cases b <;> cases c <;> cases d <;> simp [hs]
 obtain ⟨h1,h2⟩:=h0 t.each (t.event==2) (t.event==1) (t.event==3) true (zbZ t s [] []) rfl
 exact ⟨by omega,h2⟩
theorem zAB {m:List Tb} (ht:FpC m) {n:Nat} (hn:n<=6) {t:Tg} (h:BfLi n t) (kind:Int) {s:Sch} (hsc:zac s.cols):AddC m S.Ar [.p 0 0,t.av,iv kind,s.av] (befP m n t kind s):=fun ks hs=>by
 have hul:zac (zb0 t):=by have:=h.used;simp only [zac];omega
 have hux:∀ e∈zb0 t,XSh n e:=fun e he=>(h.usx e he).sh
 obtain ⟨r,rfl,hc⟩:=zzy m ks t kind s n hn hs hsc h.li h.li.acts h.li.sets h.li.whl hul hux (zlU hn h.li).2 (zdq ht n _ _ hul hux (zno Zo hsc t))
 exact hc
def actP (m:List Tb) (n:Nat) (a:Ac) (fr:List Fr) (b:List Tg):List Acc :=
 actG a (fun r=>zas m n r fr) (a.query.flatMap fun q=>accQ m (zas m n) q fr++zcY m q) (a.sets.flatMap fun x=>asgP m n a.table (knS m a.table).1 x (zar fr (knS m a.table).1 []) b) (zas m n a.wh (zar fr (knS m a.table).1 [])) (b.flatMap fun t=>befP m n t a.kind (knS m a.table).1)
theorem zvd {m:List Tb} (ht:FpC m) {n:Nat} (hn:n<=6) {a:Ac} (ha:AcLi n a) {fr:List Fr} (hf:FrB (n+1) fr) {b:List Tg} (hb:∀ t∈b,BfLi n t) (hbl:zac b):AddC m S.Ad [.p 0 0,a.av,fsl fr,.sl (b.map Tg.cells)] (actP m n a fr b):=fun ks hs=>by
 have hk:=ztM ht a.table
 have hw:=hf.ins hk
 have hsh:=ha.sh
 obtain ⟨r,rfl,hc⟩:=zxJ m ks a fr b (fun r=>zas m n r fr) (fun q=>accQ m (zas m n) q fr) (fun x=>asgP m n a.table (knS m a.table).1 x (zar fr (knS m a.table).1 []) b) (fun t=>befP m n t a.kind (knS m a.table).1) (zas m n a.wh (zar fr (knS m a.table).1 [])) ht hs ht.short ht.cols hk hf.short
  (fun r hr=>zdq ht n r fr (hsh.row r hr).1 (hsh.row r hr).2 hf.less) hsh.rows (fun q hq=>zye ht n q fr (hsh.qs q hq) hf) (fun q hq ks hs=>zhD m ks q ht (ztM ht _) hs) hsh.query
  (fun x hx ks hs=>by
   obtain ⟨r,rfl,hc⟩:=zxL m ks a.table (knS m a.table).1 x (zar fr (knS m a.table).1 []) b n hn ht hs hk hbl (fun t h=>(hb t h).li) (zdq ht n [x.ex] _ (by simp [zac]) (by intro e he;simp only [List.mem_singleton] at he;subst he;exact hsh.set x hx) hw)
   exact hc) hsh.sets (fun t h=>zAB ht hn (hb t h) _ hk) hbl (zdq ht n a.wh _ hsh.wh hsh.w hw)
 exact hc
theorem znH:∀ (n:Nat) (l:List X),(∀ e∈l,XOk n e)->(flX n l).length<=l.length * nb n
 | 0,l,h=>by simp [flX]
 | n+1,l,h=>by
  refine zaz (C:=nb (n+1)) fun e he=>?_
  obtain ⟨_,hl,ha,hs⟩:=h e he
  have h1:=znH n e.args ha
  have h2:(e.sub.flatMap fun q=>flX n q.items++flX n q.wh).length<=e.sub.length * (9 * nb n):=zaz fun q hq=>by
   have h3:=znH n q.items (hs q hq).2.1
   have h4:=znH n q.wh (hs q hq).2.2
   have h5:=Nat.mul_le_mul_right (nb n) (hs q hq).1.1
   have h6:=Nat.mul_le_mul_right (nb n) (hs q hq).1.2
   rw [List.length_append];omega
  have h7:=Nat.mul_le_mul_right (nb n) hl.1
  have h8:=Nat.mul_le_mul_right (9 * nb n) hl.2
  simp only [List.length_cons,List.length_append,nb]
  omega
theorem zzk (m:List Tb) {n:Nat} (hn:n<=6) {t:Tg} (h:BfLi n t) (kind:Int) (s:Sch):(befP m n t kind s).length<=3700000:=by
 have h1:=zcs m n (zb0 t) (zbZ t s [] []) h.usx
 have h2:=znH n (zb0 t) h.usx
 have h3:=zaz (l:=flX n (zb0 t)) (f:=vcE m s) (C:=1) fun e _=>by
  unfold vcE
  cases (e.kind==2&&(e.table.toList==ZsO.toList || e.table.toList==ZsN.toList)&&decide (0<=idxF (fun c=>colC c e.name) s.cols 0)) <;> simp
 have h4:=zaz (l:=(rowP n t).2) (f:=befC s) (C:=1) fun c _=>by
  unfold befC;cases decide (0<=idxF (fun k=>colC k c) s.cols 0) <;> simp
 have h5:(rowP n t).2.length<=3:=by
  have h6:=zoS ((zbb t).map Se.col)
  have h7:=h.sets
  rw [List.length_map] at h6
  unfold rowP
  cases !t.before <;> cases !t.each <;> simp only [cond_true,cond_false,List.length_nil] <;> omega
 have h6:=zhM hn
 have h7:=zsw hn
 have k1:=Nat.mul_le_mul_right (ab n) h.used
 have k2:=Nat.mul_le_mul_right (nb n) h.used
 unfold befP
 cases kind==1 <;> cases kind != 2 <;> simp only [cond_true,cond_false,List.length_append,List.length_nil] <;> omega
theorem zsX (m:List Tb) {n:Nat} {q:Qy} (frs:List Fr) (hi:q.items.length<=8) (hw:q.wh.length<=1) (hxi:∀ x∈q.items,XOk n x) (hxw:∀ x∈q.wh,XOk n x):(accQ m (zas m n) q frs).length<=1+9 * ab n:=by
 have h3:=zcs m n q.items (zar frs (zaf m q.frm).1 []) hxi
 have h4:=zcs m n q.wh (zar frs (zaf m q.frm).1 []) hxw
 have h5:=Nat.mul_le_mul_right (ab n) hi
 have h6:=Nat.mul_le_mul_right (ab n) hw
 unfold accQ
 cases !(zaf m q.frm).2
 ·cases (knS m q.frm).2 <;> simp only [cond_true,cond_false,List.length_append,List.length_cons,List.length_nil] <;> omega
 ·simp
structure FpL (m:List Tb):Prop where
 len:m.length<=990
 cols:∀ x∈m,Few x.sch.cols
theorem FpL.col {m:List Tb} (h:FpL m):FpC m:=⟨by have:=h.len;simp only [zac];omega,fun x hx=>zaD (h.cols x hx)⟩
theorem zc1 (tb:List Tb) (n:Str) (h:∀ x∈tb,Few x.sch.cols):Few (zaf tb n).1.cols:=by
 have h0:∀ (l:List Tb) (i:Nat),(∀ x∈l,Few x.sch.cols)->Few (zbS tb n l i).1.cols:=fun l=>by
  induction l with
  | nil=>intro i _;simp [zbS,Few]
  | cons a r ih =>
   intro i h
   unfold zbS
   cases ByteArray.toList a.sch.name==ByteArray.toList n
   ·exact ih _ fun x hx=>h x (by simp [hx])
   ·exact h a Zs
 exact h0 tb 0 h
theorem FpL.kn {m:List Tb} (h:FpL m) (n:Str):Few (knS m n).1.cols:=by
 unfold knS
 cases ByteArray.toList n==ZsI.toList
 ·cases ByteArray.toList n==ZsD.toList
  ·exact zc1 m n h.cols
  ·simp [Few]
 ·simp [Few]
theorem zzh (m:List Tb) {n:Nat} (tb:Str) (s:Sch) {x:Se} (fr:List Fr) (b:List Tg) (hx:XOk n x.ex):(asgP m n tb s x fr b).length<=1+ab n:=by
 have h1:=zde m fr hx
 unfold asgP
 cases decide (idxF (fun k=>colC k x.col) s.cols 0 < 0) <;> cases (zbC x tb).2 <;> cases !zmM n x.col b <;> cases !(zg0 s x.col).key <;> simp only [cond_true,cond_false,List.length_cons,List.length_nil] <;> omega
theorem zsY {m:List Tb} (hm:FpL m) {n:Nat} (hn:n<=6) {a:Ac} (ha:AcLi n a) (fr:List Fr) {b:List Tg} (hb:∀ t∈b,BfLi n t) (hbl:b.length<=16):(actP m n a fr b).length<=80000000:=by
 have h1:=zaz (l:=a.rows) (f:=fun r=>zas m n r fr) (C:=4 * ab n) fun r hr=>Nat.le_trans (zcs m n r fr (ha.row r hr).2) (Nat.mul_le_mul_right _ (ha.row r hr).1)
 have h2:=zaz (l:=a.query) (f:=fun q=>accQ m (zas m n) q fr++zcY m q) (C:=1+9 * ab n+1000) fun q hq=>by
  have g1:=zsX m fr (ha.qs q hq).1.1 (ha.qs q hq).1.2 (ha.qs q hq).2.1 (ha.qs q hq).2.2
  have g2:(zcY m q).length<=1000:=by
   have:=hm.kn q.frm
   simp only [Few] at this
   unfold zcY;cases q.star <;> simp [this]
  rw [List.length_append];omega
 have h3:=zaz (l:=a.sets) (f:=fun x=>asgP m n a.table (knS m a.table).1 x (zar fr (knS m a.table).1 []) b) (C:=1+ab n) fun x hx=>zzh m _ _ _ b (ha.set x hx)
 have h4:=zcs m n a.wh (zar fr (knS m a.table).1 []) ha.w
 have h5:=zaz (l:=b) (f:=fun t=>befP m n t a.kind (knS m a.table).1) (C:=3700000) fun t ht=>zzk m hn (hb t ht) _ _
 have h6:=zhM hn
 have k1:=Nat.mul_le_mul_right (4 * ab n) ha.rows
 have k2:=Nat.mul_le_mul_right (1+9 * ab n+1000) ha.query
 have k3:=Nat.mul_le_mul_right (1+ab n) ha.sets
 have k4:=Nat.mul_le_mul_right (ab n) ha.wh
 have k5:=Nat.mul_le_mul_right 3700000 hbl
 unfold actP actG
 cases a.kind==1 <;> cases a.kind==3 <;> cases a.kind==2 <;> simp only [cond_true,cond_false,List.length_append,List.length_cons,List.length_nil] <;> omega
theorem zni {p:Prop} (h:p:=by first|assumption|omega|(simp;done)|(simp;omega)):p:=h
structure TsLi (n:Nat) (ts:List Tg):Prop where
 len:ts.length<=8
 sh:∀ t∈ts,TgSh n t
 bf:∀ t∈ts,t.before=true->BfLi n t
theorem zio {a:Ac} {ts:List Tg} {t:Tg} (h:t∈appB a ts):t∈ts/\t.before=true/\t.table=a.table/\t.event=a.kind:=by
 have h0:∀ e,t∈ts.filter (appl a.table a.kind (asgS a) e)->t∈ts/\t.before=true/\t.table=a.table/\t.event=a.kind:=fun e h=>by
  obtain ⟨h1,h2⟩:=List.mem_filter.1 h
  unfold appl at h2
  cases hb:t.before
  ·simp [hb] at h2
  ·cases ht:(!t.table.toList==a.table.toList)
   ·cases he:(t.event != a.kind)
    ·exact ⟨h1,rfl,zfB (by simpa using ht),by simpa using he⟩
    ·simp [hb,ht,he] at h2
   ·simp [hb,ht] at h2
 unfold appB at h
 cases hk:decide (a.kind < 1)
 ·cases hk2:decide (3 < a.kind)
  ·simp only [hk,hk2,cond_false,List.mem_append] at h
   exact h.elim (h0 _) (h0 _)
  ·simp [hk,hk2] at h
 ·simp [hk] at h
theorem zgA {a:Ac} {ts:List Tg} (h:ts.length<=8):(appB a ts).length<=16:=by
 have h1:=List.length_filter_le (appl a.table a.kind (asgS a) true) ts
 have h2:=List.length_filter_le (appl a.table a.kind (asgS a) false) ts
 unfold appB
 cases decide (a.kind < 1) <;> cases decide (3 < a.kind) <;> simp only [cond_true,cond_false,List.length_append,List.length_nil] <;> omega
theorem TsLi.app {n:Nat} {ts:List Tg} (h:TsLi n ts) (a:Ac):∀ t∈appB a ts,BfLi n t:=fun t ht=>h.bf t (zio ht).1 (zio ht).2.1
abbrev frOf (t:Tg) (m:List Tb):List Fr:=zbZ t (zaf m t.table).1 [] []
theorem zii {m:List Tb} (h:FpL m) (hl:m.length<=900) (t:Tg):FpL (zax t m):=by
 refine ⟨by have:=zij t (zaf m t.table).1;rw [zax,List.length_append];omega,fun x hx=>?_⟩
 rcases List.mem_append.1 hx with hx|hx
 ·exact h.cols x hx
 ·exact zvK (zc1 m t.table h.cols) x hx
theorem zjS (t:Tg) (m:List Tb) (hm:FpL m) (hl:m.length<=900):zab E0 S.CO [t.av,tsl m] [] (.tup [fsl (frOf t m),tsl (zax t m)]) []:=by
 obtain ⟨f,o,⟨rfl,rfl⟩,h⟩:=zxK t m hm.col.short hm.col.cols (hm.col.src _) Zo (by have:=zij t (zaf m t.table).1;omega)
 exact h
theorem FrB.le {n:Nat} {frs:List Fr} (h:FrB 7 frs) (hn:n<=6):FrB (n+1) frs:=⟨by have:=h.len;omega,h.cols⟩
theorem zmW {m:List Tb} (hm:FpL m) (t:Tg):FrB 7 (frOf t m):=zno Zo (zaD (zc1 m t.table hm.cols)) t
def accA (n:Nat) (t:Tg) (a:Ac) (ts:List Tg) (m:List Tb):List Acc:=actP (zax t m) n a (frOf t m) (appB a ts)
theorem zuB (t:Tg) (a:Ac) (ts:List Tg) (m:List Tb) (n:Nat) (hm:FpL m) (hml:m.length<=900) (hap:zab E0 S.AV [a.av,.sl (ts.map Tg.cells)] [] (.sl ((appB a ts).map Tg.cells)) []) (hac:∀ ks,AccS ks->zab E0 S.Ad [.p 0 0,a.av,fsl (frOf t m),.sl ((appB a ts).map Tg.cells)] [.box [tsl (zax t m),.mp 1],.mp (ks.map itA)] (.tup []) [.box [tsl (zax t m),.mp 1],.mp ((zae ks (accA n t a ts m)).map itA)]) (hs0:AccS []) (hs1:AccS (zae [] (accA n t a ts m))) (hl:(zae [] (accA n t a ts m)).length<=1000000000):∃ (r:List Acc),r=zae [] (accA n t a ts m)/\zab E0 S.Cp [t.av,a.av,.sl (ts.map Tg.cells),tsl m] [] (.sl (r.map Acc.cells)) []:=by
 exact ⟨zae [] (accA n t a ts m),Zr,wk At.Cp [sc (zjS t m zni zni),sc (zfV (zax t m)),sd [(5,[sc hap]),(6,[sl [3,2] (hac ([]) zni)])],sl [3,2] (zdU (tsl (zax t m)) (zae [] (accA n t a ts m)) zni zni)] kr⟩
theorem zm1 (t:Tg) (a:Ac) (ts:List Tg) (m:List Tb) (n:Nat) (hn:n<=6) (hm:FpL m) (hml:m.length<=900) (ha:AcLi n a) (hts:TsLi n ts):zab E0 S.Cp [t.av,a.av,.sl (ts.map Tg.cells),tsl m] [] (.sl ((zae [] (accA n t a ts m)).map Acc.cells)) []:=by
 have hM:=zii hm hml t
 have h1:=zsY hM hn ha (frOf t m) (hts.app a) (zgA hts.len)
 have h2:=za4 (accA n t a ts m) []
 obtain ⟨r,rfl,h⟩:=zuB t a ts m n hm hml (ze3 a ts n (by have:=hts.len;omega) (by have:=ha.sets;omega) hts.sh)
  (zvd hM.col hn ha ((zmW hm t).le hn) (hts.app a) (by have:=zgA (a:=a) hts.len;simp only [zac];omega)) zbQ (zha _) (by simp only [accA,List.length_nil] at *;omega)
 exact h
theorem ziQ {p:Prop} (h:p:=by first|assumption|(subst_vars;assumption)|(simp;done)):p:=h
noncomputable def zr6 (t:Tg) (ts:List Tg) (M:List Tb) (fr:List Fr) (k0:List Acc) (f:Ac->List Acc) (ap:Ac->List Tg) (i:Nat) (ks:List Acc):Cfg:=zan B.Bg 0 [(1,.sl (ts.map Tg.cells)),(7,fsl fr),(9,.p 2 0),(28,.sl (t.acts.map Ac.cells)),(29,iv ((t.acts.map Ac.cells).length:Nat)),(30,iv (i:Nat))] [.box t.cells,.mp (ks.map itA),.box [tsl M,.mp 1]]
theorem ziX (t:Tg) (ts:List Tg) (M:List Tb) (fr:List Fr) (k0:List Acc) (f:Ac->List Acc) (ap:Ac->List Tg) (hap:∀ a∈t.acts,zab E0 S.AV [a.av,.sl (ts.map Tg.cells)] [] (.sl ((ap a).map Tg.cells)) []) (hac:∀ a∈t.acts,AddC M S.Ad [.p 0 0,a.av,fsl fr,.sl ((ap a).map Tg.cells)] (f a)) (hk0:AccS k0) (hl:zac t.acts) (i:Nat) (ks:List Acc) (hi:i<=(t.acts).length) (hI:ks=zae k0 ((t.acts.take i).flatMap f)):∃ (ks':List Acc),(ks'=zae k0 ((t.acts.take (t.acts).length).flatMap f))/\(decide ((((t.acts).length:Nat):Int) < (((t.acts.map Ac.cells).length:Nat):Int))=false)/\∀ R,Good E0 B.Bg [] (zr6 t ts M fr k0 f ap (t.acts).length ks') R->Good E0 B.Bg [] (zr6 t ts M fr k0 f ap i ks) R:=by
 have hk:=hi;revert i ks;refine zlp ((t.acts).length) (fun i hlt ih ks hi hI _=>?_)
 obtain ⟨x,hx,h0,hw⟩:=zlq (l:=t.acts) ((t.acts.map Ac.cells).length) hlt
 have hks:=zmI hI hk0;have hfx:=hac x (List.mem_of_getElem? hx);have hax:=hap x (List.mem_of_getElem? hx)
 exact Zih (ih (zae ks (f x)) Zo (by exact zgy hI hx rfl) Zo) fun R gY=>zaa (wkl [sb h0,se (zai Ac.cells hx rfl),sd [(5,[sc hax]),(6,[sl [2,1] (hfx ks (by first|assumption|omega|(simp;done)|(simp;omega)))])],si hw] [1,7,9,28,29,30] 3 kr gY)
theorem zjg (t:Tg) (ts:List Tg) (M:List Tb) (fr:List Fr) (f:Ac->List Acc) (ap:Ac->List Tg) (hap:∀ a∈t.acts,zab E0 S.AV [a.av,.sl (ts.map Tg.cells)] [] (.sl ((ap a).map Tg.cells)) []) (hac:∀ a∈t.acts,AddC M S.Ad [.p 0 0,a.av,fsl fr,.sl ((ap a).map Tg.cells)] (f a)) (hl:zac t.acts) (ks:List Acc) (hks:AccS ks):∃ (ks':List Acc),ks'=zae ks (t.acts.flatMap f)/\decide (((t.acts.length:Nat):Int) < (((t.acts.map Ac.cells).length:Nat):Int))=false/\∀ R,Good E0 B.Bg [] (zr6 t ts M fr ks f ap t.acts.length ks') R->Good E0 B.Bg [] (zr6 t ts M fr ks f ap 0 ks) R:=by
 obtain ⟨k',h1,h2,h3⟩:=ziX t ts M fr ks f ap hap hac hks hl 0 ks Zo (by simp [zae])
 exact ⟨k',by rw [h1,List.take_length],h2,h3⟩
theorem zzu (t:Tg) (ts:List Tg) (m:List Tb) (f:Ac->List Acc) (ap:Ac->List Tg) (w:List Acc) (hm:FpL m) (hml:m.length<=900) (hap:∀ a∈t.acts,zab E0 S.AV [a.av,.sl (ts.map Tg.cells)] [] (.sl ((ap a).map Tg.cells)) []) (hac:∀ a∈t.acts,AddC (zax t m) S.Ad [.p 0 0,a.av,fsl (frOf t m),.sl ((ap a).map Tg.cells)] (f a)) (hal:zac t.acts) (hw:∀ ks,AccS ks->zab E0 S.Ak [.p 0 0,xsl t.when_,fsl (frOf t m)] [.box [tsl (zax t m),.mp 1],.mp (ks.map itA)] (.tup []) [.box [tsl (zax t m),.mp 1],.mp ((zae ks w).map itA)]) (hs0:AccS []) (hs1:AccS (zae [] w)) (hs2:AccS (zae (zae [] w) (t.acts.flatMap f))) (hlen:(zae (zae [] w) (t.acts.flatMap f)).length<=1000000000):∃ (r:List Acc),(r=bif t.before then [] else zae (zae [] w) (t.acts.flatMap f))/\zab E0 S.Bg [t.av,.sl (ts.map Tg.cells),tsl m] [] (.sl (r.map Acc.cells)) []:=by
 cases h1:t.before
 ·obtain ⟨ks2,q2,q2_1,g2⟩:=zjg t ts (zax t m) (frOf t m) f ap hap hac ziQ (zae [] w) ziQ
  exact ⟨ks2,(by (simp only [*,cond_true,cond_false];first|done|rfl)),wkc At.Bg [sb h1,sc (zjS t m ziQ ziQ),sc (zfV (zax t m)),sl [2,1] (hw ([]) ziQ)] [1,7,9,28,29,30] 3 kr (g2 _ (zaa (wkr [sb q2_1,sl [2,1] (zdU (tsl (zax t m)) ks2 ziQ ziQ)] kr)))⟩
 ·exact ⟨[],(by (simp only [*,cond_true,cond_false];first|done|rfl)),wk At.Bg [sb h1] kr⟩
def ofA (n:Nat) (t:Tg) (ts:List Tg) (m:List Tb):List Acc:=bif t.before then [] else zas (zax t m) n t.when_ (frOf t m)++t.acts.flatMap fun a=>accA n t a ts m
theorem zvw {n:Nat} (hn:n<=6) {t:Tg} {ts:List Tg} {m:List Tb} (hm:FpL m) (hml:m.length<=900) (ht:TgLi n t) (hts:TsLi n ts):(zas (zax t m) n t.when_ (frOf t m)++t.acts.flatMap fun a=>accA n t a ts m).length<=250000000:=by
 have hM:=zii hm hml t
 have h1:=zcs (zax t m) n t.when_ (frOf t m) ht.wh
 have h2:=zaz (l:=t.acts) (f:=fun a=>accA n t a ts m) (C:=80000000) fun a ha=>zsY hM hn (ht.act a ha) (frOf t m) (hts.app a) (zgA hts.len)
 have h3:=zhM hn
 have k1:=Nat.mul_le_mul_right (ab n) ht.whl
 have k2:=Nat.mul_le_mul_right 80000000 ht.acts
 rw [List.length_append]
 omega
theorem zhK (t:Tg) (ts:List Tg) (m:List Tb) (n:Nat) (hn:n<=6) (hm:FpL m) (hml:m.length<=900) (ht:TgLi n t) (hts:TsLi n ts):zab E0 S.Bg [t.av,.sl (ts.map Tg.cells),tsl m] [] (.sl ((zae [] (ofA n t ts m)).map Acc.cells)) []:=by
 have hM:=zii hm hml t
 have h1:=zvw hn hm hml ht hts
 have h2:=za4 (zas (zax t m) n t.when_ (frOf t m)++t.acts.flatMap fun a=>accA n t a ts m) []
 rw [zaP] at h2
 have hs1:=zha (zas (zax t m) n t.when_ (frOf t m))
 obtain ⟨r,hr,h⟩:=zzu t ts m (fun a=>accA n t a ts m) (fun a=>appB a ts) (zas (zax t m) n t.when_ (frOf t m)) hm hml
  (fun a ha=>ze3 a ts n (by have:=hts.len;omega) (by have:=ht.sets a ha;omega) hts.sh)
  (fun a ha=>zvd hM.col hn (ht.act a ha) ((zmW hm t).le hn) (hts.app a) (by have:=zgA (a:=a) hts.len;simp only [zac];omega))
  (by have:=ht.acts;simp only [zac];omega) (zdq hM.col n t.when_ _ (by have:=ht.whl;simp only [zac];omega) (fun e he=>(ht.wh e he).sh) ((zmW hm t).le hn).less) zbQ hs1 (hs1.all _) (by simp only [List.length_nil] at h2;omega)
 have e:r=zae [] (ofA n t ts m):=by
  rw [hr]
  unfold ofA
  cases t.before
  ·simp only [cond_false,zaP]
  ·rfl
 rw [e] at h
 exact h
theorem zt7 {p:Prop} (h:p:=by first|exact (zcF hx (vE_no1 ‹_›)).symm|exact (zcF hx (vE_no2 ‹_›)).symm|exact (zcF hx (vE_no3 ‹_›)).symm):p:=h
theorem zk6 {p:Prop} (h:p:=by first|assumption|omega|(simp;done)|(simp;omega)):p:=h
theorem zp6 {p:Prop} (h:p:=by first|assumption|(rw [List.take_length] at *;exact Eq.symm ‹_›)):p:=h
def VeC (g:FuncId) (l:List X) (b:Bool):Prop:=zab E0 S.Ai [.fn g [],xsl l] [] (bv b) []
def VqC (g:FuncId) (l:List Qy) (b:Bool):Prop:=zab E0 S.Aj [.fn g [],.sl (zal l)] [] (bv b) []
def vE (p fa fq:X->Bool) (e:X):Bool:=p e&&(fa e&&fq e)
def vQ (fi fw:Qy->Bool) (q:Qy):Bool:=fi q&&fw q
theorem zcF {α:Type} {f:α->Bool} {l:List α} {i:Nat} {x:α} (hx:l[i]?=some x) (h:f x=false):l.all f=false:=by
 rw [List.all_eq_false]
 exact ⟨x,List.mem_of_getElem? hx,by simp [h]⟩
theorem zfL {α:Type} {f:α->Bool} {l:List α} {i:Nat} {x:α} (hx:l[i]?=some x) (h:f x=true) (hI:(l.take i).all f=true):(l.take (i+1)).all f=true:=by
 rw [List.take_add_one,hx,List.all_append,hI];simp [h]
theorem vE_yes {p fa fq:X->Bool} {x:X} (h1:(!p x)=false) (h2:(!fa x)=false) (h3:(!fq x)=false):vE p fa fq x=true:=by
 unfold vE;cases hp:p x <;> cases hfa:fa x <;> cases hfq:fq x <;> simp_all
theorem vE_no1 {p fa fq:X->Bool} {x:X} (h1:(!p x)=true):vE p fa fq x=false:=by
 unfold vE;cases hp:p x <;> simp_all
theorem vE_no2 {p fa fq:X->Bool} {x:X} (h1:(!fa x)=true):vE p fa fq x=false:=by
 unfold vE;cases hp:p x <;> cases hfa:fa x <;> simp_all
theorem vE_no3 {p fa fq:X->Bool} {x:X} (h1:(!fq x)=true):vE p fa fq x=false:=by
 unfold vE;cases hp:p x <;> cases hfa:fa x <;> cases hfq:fq x <;> simp_all
theorem vQ_yes {fi fw:Qy->Bool} {x:Qy} (h2:(!fi x)=false) (h3:(!fw x)=false):vQ fi fw x=true:=by
 unfold vQ;cases hfa:fi x <;> cases hfq:fw x <;> simp_all
theorem zyW {fi fw:Qy->Bool} {x:Qy} (h1:(!fi x)=true):vQ fi fw x=false:=by
 unfold vQ;cases hfa:fi x <;> simp_all
theorem zyX {fi fw:Qy->Bool} {x:Qy} (h1:(!fw x)=true):vQ fi fw x=false:=by
 unfold vQ;cases hfa:fi x <;> cases hfq:fw x <;> simp_all
noncomputable def L_ve (g:FuncId) (p fa fq:X->Bool) (l:List X) (i:Nat) :Cfg:=zan B.Ai 0 [(0,.fn g []),(7,xsl l),(8,iv ((zad l).length:Nat)),(9,iv (i:Nat))] []
theorem zfq (g:FuncId) (p fa fq:X->Bool) (l:List X) (hl:zac l) (hv:∀ e∈l,zab E0 g [e.av] [] (bv (p e)) []) (ha:∀ e∈l,VeC g e.args (fa e)) (hq:∀ e∈l,VqC g e.sub (fq e)) (i:Nat)  (hi:i<=(l).length) (hI:(l.take i).all (vE p fa fq)=true):(((l.take (l).length).all (vE p fa fq)=true)/\(decide ((((l).length:Nat):Int) < (((zad l).length:Nat):Int))=false)/\∀ R,Good E0 B.Ai [] (L_ve g p fa fq l (l).length ) R->Good E0 B.Ai [] (L_ve g p fa fq l i ) R)\/(∃ (r:Bool),(r=l.all (vE p fa fq))/\Good E0 B.Ai [] (L_ve g p fa fq l i ) (Shut 0 fun rZ hZ=>rZ=(bv r)/\hZ=[])):=by
 have hk:=hi;revert i;refine zlp ((l).length) (fun i hlt ih hi hI _=>?_)
 obtain ⟨x,hx,h0,hw⟩:=zlq (l:=l) ((zad l).length) hlt
 have hvx:=hv x (List.mem_of_getElem? hx);have hax:=ha x (List.mem_of_getElem? hx);have hqx:=hq x (List.mem_of_getElem? hx)
 cases h1:!p x
 ·let p_1:List St:=[sb h0,se (zak hx),sc hvx,sg h1,sc hax]
  cases h2:!fa x
  ·cases h3:!fq x
   ·exact zie2 (ih Zo (by exact zfL hx (vE_yes ‹_› ‹_› ‹_›) hI) Zo) fun R gY=>zaa (wkl (p_1++[sg h2,sc hqx,sb h3,si hw]) [0,7,8,9] 0 kr gY)
   ·exact .inr ⟨false,zt7,zaa (wkr (p_1++[sg h2,sc hqx,sb h3]) kr)⟩
  ·exact .inr ⟨false,zt7,zaa (wkr (p_1++[sb h2]) kr)⟩
 ·exact .inr ⟨false,zt7,zaa (wkr [sb h0,se (zak hx),sc hvx,sb h1] kr)⟩
theorem c_ve (g:FuncId) (p fa fq:X->Bool) (l:List X) (hl:zac l) (hv:∀ e∈l,zab E0 g [e.av] [] (bv (p e)) []) (ha:∀ e∈l,VeC g e.args (fa e)) (hq:∀ e∈l,VqC g e.sub (fq e)):∃ (r:Bool),r=l.all (vE p fa fq)/\zab E0 S.Ai [.fn g [],xsl l] [] (bv r) []:=by
 rcases zfq g p fa fq l zk6 hv ha hq 0 zk6 zk6 with ⟨q1,q1_1,g1⟩|⟨r1_0,p1_0,g1⟩
 ·exact ⟨true,zp6,wkc At.Ai [] [0,7,8,9] 0 kr (g1 _ (zaa (wkr [sb q1_1] kr)))⟩
 ·exact ⟨r1_0,zp6,wkc At.Ai [] [0,7,8,9] 0 kr (g1)⟩
noncomputable def L_vq (g:FuncId) (fi fw:Qy->Bool) (l:List Qy) (i:Nat) :Cfg:=zan B.Aj 0 [(0,.fn g []),(7,.sl (zal l)),(8,iv ((zal l).length:Nat)),(9,iv (i:Nat))] []
theorem ze0 (g:FuncId) (fi fw:Qy->Bool) (l:List Qy) (hl:zac l) (ha:∀ e∈l,VeC g e.items (fi e)) (hq:∀ e∈l,VeC g e.wh (fw e)) (i:Nat)  (hi:i<=(l).length) (hI:(l.take i).all (vQ fi fw)=true):(((l.take (l).length).all (vQ fi fw)=true)/\(decide ((((l).length:Nat):Int) < (((zal l).length:Nat):Int))=false)/\∀ R,Good E0 B.Aj [] (L_vq g fi fw l (l).length ) R->Good E0 B.Aj [] (L_vq g fi fw l i ) R)\/(∃ (r:Bool),(r=l.all (vQ fi fw))/\Good E0 B.Aj [] (L_vq g fi fw l i ) (Shut 0 fun rZ hZ=>rZ=(bv r)/\hZ=[])):=by
 have hk:=hi;revert i;refine zlp ((l).length) (fun i hlt ih hi hI _=>?_)
 obtain ⟨x,hx,h0,hw⟩:=zlq (l:=l) ((zal l).length) hlt
 have hax:=ha x (List.mem_of_getElem? hx);have hqx:=hq x (List.mem_of_getElem? hx)
 cases h1:!fi x
 ·let p_1:List St:=[sb h0,se (zba hx),sc hax,sg h1,sc hqx]
  cases h2:!fw x
  ·exact zie2 (ih Zo (by exact zfL hx (vQ_yes ‹_› ‹_›) hI) Zo) fun R gY=>zaa (wkl (p_1++[sb h2,si hw]) [0,7,8,9] 0 kr gY)
  ·exact .inr ⟨false,(by first|exact (zcF hx (zyW ‹_›)).symm|exact (zcF hx (zyX ‹_›)).symm),zaa (wkr (p_1++[sb h2]) kr)⟩
 ·exact .inr ⟨false,(by first|exact (zcF hx (zyW ‹_›)).symm|exact (zcF hx (zyX ‹_›)).symm),zaa (wkr [sb h0,se (zba hx),sc hax,sb h1] kr)⟩
theorem c_vq (g:FuncId) (fi fw:Qy->Bool) (l:List Qy) (hl:zac l) (ha:∀ e∈l,VeC g e.items (fi e)) (hq:∀ e∈l,VeC g e.wh (fw e)):∃ (r:Bool),r=l.all (vQ fi fw)/\zab E0 S.Aj [.fn g [],.sl (zal l)] [] (bv r) []:=by
 rcases ze0 g fi fw l zk6 ha hq 0 zk6 zk6 with ⟨q1,q1_1,g1⟩|⟨r1_0,p1_0,g1⟩
 ·exact ⟨true,zp6,wkc At.Aj [] [0,7,8,9] 0 kr (g1 _ (zaa (wkr [sb q1_1] kr)))⟩
 ·exact ⟨r1_0,zp6,wkc At.Aj [] [0,7,8,9] 0 kr (g1)⟩
def visP (p:X->Bool):Nat->List X->Bool
 | 0,_=>true
 | n+1,l=>l.all (vE p (fun e=>visP p n e.args) (fun e=>e.sub.all (vQ (fun q=>visP p n q.items) (fun q=>visP p n q.wh))))
theorem zdo {g:FuncId} {p:X->Bool} (hv:∀ e,zab E0 g [X.av e] [] (bv (p e)) []):∀ (n:Nat) (l:List X),zac l->(∀ e∈l,XSh n e)->VeC g l (visP p n l)
 | 0,l,hl,hx=>by
  have:l=[]:=by
   cases l with
   | nil=>rfl
   | cons a r=>exact (hx a Zs).elim
  subst this
  obtain ⟨r,hr,h⟩:=c_ve g p p p [] hl Zs Zs Zs
  have e:r=visP p 0 []:=by rw [hr];rfl
  rw [← e];exact h
 | n+1,l,hl,hx=>by
  obtain ⟨r,hr,h⟩:=c_ve g p (fun e=>visP p n e.args) (fun e=>e.sub.all (vQ (fun q=>visP p n q.items) (fun q=>visP p n q.wh))) l hl (fun e _=>hv e)
   (fun e he=>zdo hv n e.args (hx e he).1.1 (hx e he).2.1)
   (fun e he=>by
    obtain ⟨r,hr,h⟩:=c_vq g (fun q=>visP p n q.items) (fun q=>visP p n q.wh) e.sub (hx e he).1.2
     (fun q hq=>zdo hv n q.items ((hx e he).2.2 q hq).1.1 ((hx e he).2.2 q hq).2.1) (fun q hq=>zdo hv n q.wh ((hx e he).2.2 q hq).1.2 ((hx e he).2.2 q hq).2.2)
    rw [← hr];exact h)
  have e:r=visP p (n+1) l:=by rw [hr];rfl
  rw [← e];exact h
theorem zqe {p:Prop} (h:p:=by first|exact ur_1 ‹_›|exact ur_2 ‹_›|(rw [List.take_length] at *;exact ur_3 ‹_› ‹_› (by first|assumption|rfl))|(rw [List.take_length] at *;exact ur_4 ‹_› ‹_› (by first|assumption|rfl))):p:=h
theorem zev {p:Prop} (h:p:=by first|assumption|omega|(simp;done)|(simp;omega)):p:=h
def pUq (e:X):Bool :=
 bif e.kind != 2 then
  true
 else
  bif !ByteArray.toList e.table==ZsO.toList then
   !ByteArray.toList e.table==(ByteArray.mk #[(78:UInt8),(69:UInt8),(87:UInt8)]).toList
  else
   false
theorem ze2 (e:X) :zab E0 S.AH [e.av] [] (bv (pUq e)) []:=by
 unfold pUq
 cases h1:e.kind != 2
 ·cases h2:!ByteArray.toList e.table==ZsO.toList
  ·exact wk At.AH [sg h1,sb h2] kr
  ·exact wk At.AH [sg h1,sg h2] kr
 ·exact wk At.AH [sb h1] kr
theorem zxT (g:FuncId) (l:List X) (b:Bool) (hv:zab E0 S.Ai [.fn g [],xsl l] [] (bv b) []):∃ (r:Bool),r=b/\zab E0 S.A5 [xsl l,.fn g []] [] (bv r) []:=by
 exact ⟨b,Zr,wk At.A5 [sc hv] kr⟩
theorem zkk (n:Nat) (l:List X) (hl:zac l) (hx:∀ e∈l,XSh n e):zab E0 S.A5 [xsl l,.fn S.AH []] [] (bv (visP pUq n l)) []:=by
 obtain ⟨r,rfl,h⟩:=zxT _ l _ (zdo ze2 n l hl hx)
 exact h
noncomputable def zwd (g:FuncId) (a:Ac) (p:List X->Bool) (i:Nat) :Cfg:=zan B.Ah 0 [(0,.fn g []),(3,.p 0 0),(10,.sl (a.rows.map zaA)),(11,iv ((a.rows.map zaA).length:Nat)),(12,iv (i:Nat))] [.box a.cells]
theorem zeW (g:FuncId) (a:Ac) (p:List X->Bool) (hp:∀ r∈a.rows,VeC g r (p r)) (hl:zac a.rows) (i:Nat)  (hi:i<=(a.rows).length) (hI:(a.rows.take i).all p=true):(((a.rows.take (a.rows).length).all p=true)/\(decide ((((a.rows).length:Nat):Int) < (((a.rows.map zaA).length:Nat):Int))=false)/\∀ R,Good E0 B.Ah [] (zwd g a p (a.rows).length ) R->Good E0 B.Ah [] (zwd g a p i ) R)\/(∃ (r:Bool),(r=false/\a.rows.all p=false)/\Good E0 B.Ah [] (zwd g a p i ) (Shut 0 fun rZ hZ=>rZ=(bv r)/\hZ=[])):=by
 have hk:=hi;revert i;refine zlp ((a.rows).length) (fun i hlt ih hi hI _=>?_)
 obtain ⟨x,hx,h0,hw⟩:=zlq (l:=a.rows) ((a.rows.map zaA).length) hlt
 have hpx:=hp x (List.mem_of_getElem? hx)
 let p_1:List St:=[sb h0,se (zai zaA hx rfl),sc hpx]
 cases h1:!p x
 ·exact zie2 (ih Zo (by exact zfL hx (by simpa using (by assumption:(!p x)=false)) hI) Zo) fun R gY=>zaa (wkl (p_1++[sb h1,si hw]) [0,3,10,11,12] 1 kr gY)
 ·exact .inr ⟨false,(by exact ⟨rfl,zcF hx (by simpa using (by assumption:(!p x)=true))⟩),zaa (wkr (p_1++[sb h1]) kr)⟩
noncomputable def zwe (g:FuncId) (a:Ac) (q:Se->Bool) (i:Nat) :Cfg:=zan B.Ah 1 [(0,.fn g []),(3,.p 0 0),(22,.sl (a.sets.map Se.cells)),(23,iv ((a.sets.map Se.cells).length:Nat)),(24,iv (i:Nat))] [.box a.cells]
theorem zeX (g:FuncId) (a:Ac) (q:Se->Bool) (hq:∀ s∈a.sets,VeC g [s.ex] (q s)) (hl:zac a.sets) (i:Nat)  (hi:i<=(a.sets).length) (hI:(a.sets.take i).all q=true):(((a.sets.take (a.sets).length).all q=true)/\(decide ((((a.sets).length:Nat):Int) < (((a.sets.map Se.cells).length:Nat):Int))=false)/\∀ R,Good E0 B.Ah [] (zwe g a q (a.sets).length ) R->Good E0 B.Ah [] (zwe g a q i ) R)\/(∃ (r:Bool),(r=false/\a.sets.all q=false)/\Good E0 B.Ah [] (zwe g a q i ) (Shut 0 fun rZ hZ=>rZ=(bv r)/\hZ=[])):=by
 have hk:=hi;revert i;refine zlp ((a.sets).length) (fun i hlt ih hi hI _=>?_)
 obtain ⟨x,hx,h0,hw⟩:=zlq (l:=a.sets) ((a.sets.map Se.cells).length) hlt
 have hqx:=hq x (List.mem_of_getElem? hx)
 let p_1:List St:=[sb h0,se (zai Se.cells hx rfl),sc (conv (args:=[AV.fn g [],AV.sl [[iv x.ex.kind,iv x.ex.op,bv x.ex.not,iv x.ex.val.kind,iv x.ex.val.int,sv x.ex.val.text,sv x.ex.table,sv x.ex.name,AV.sl (zad x.ex.args),AV.sl (zal x.ex.sub)]]]) (hl:=[]) hqx (by first|(simp;done)|(simp [X.cells];done)) (by first|(simp;done)|(simp [X.cells];done)))]
 cases h1:!q x
 ·exact zie2 (ih Zo (by exact zfL hx (by simpa using (by assumption:(!q x)=false)) hI) Zo) fun R gY=>zaa (wkl (p_1++[sb h1,si hw]) [0,3,22,23,24] 1 kr gY)
 ·exact .inr ⟨false,(by exact ⟨rfl,zcF hx (by simpa using (by assumption:(!q x)=true))⟩),zaa (wkr (p_1++[sb h1]) kr)⟩
def zl4 (a b c d:Bool):Bool:=a&&(b&&(c&&d))
theorem ur_1 {a b c d r:Bool} (h:r=false/\a=false):r=zl4 a b c d:=by rw [h.1,h.2];rfl
theorem ur_2 {a b c d r:Bool} (h:r=false/\b=false):r=zl4 a b c d:=by rw [h.1,h.2];cases a <;> rfl
theorem ur_3 {a:Ac} {p:List X->Bool} {q:Se->Bool} {c d:Bool} (h1:a.rows.all p=true) (h2:a.sets.all q=true) (h3:c=true):d=zl4 (a.rows.all p) (a.sets.all q) c d:=by rw [h1,h2,h3];rfl
theorem ur_4 {a:Ac} {p:List X->Bool} {q:Se->Bool} {c d:Bool} (h1:a.rows.all p=true) (h2:a.sets.all q=true) (h3:c=false):false=zl4 (a.rows.all p) (a.sets.all q) c d:=by rw [h1,h2,h3];rfl
theorem zAH (g:FuncId) (a:Ac) (p:List X->Bool) (q:Se->Bool) (c d:Bool) (hp:∀ r∈a.rows,VeC g r (p r)) (hq:∀ s∈a.sets,VeC g [s.ex] (q s)) (hlr:zac a.rows) (hls:zac a.sets) (hqu:zab E0 S.Aj [.fn g [],.sl (zal a.query)] [] (bv c) []) (hw:zab E0 S.Ai [.fn g [],xsl a.wh] [] (bv d) []):∃ (r:Bool),(r=zl4 (a.rows.all p) (a.sets.all q) c d)/\zab E0 S.Ah [.fn g [],a.av] [] (bv r) []:=by
 rcases zeW g a p hp zev 0 zev zev with ⟨q1,q1_1,g1⟩|⟨r1_0,p1_0,g1⟩
 ·rcases zeX g a q hq zev 0 zev zev with ⟨q2,q2_1,g2⟩|⟨r2_0,p2_0,g2⟩
  ·rcases (Bool.eq_false_or_eq_true c).symm with h3|h3
   ·exact ⟨false,zqe,wkc At.Ah [] [0,3,10,11,12] 1 kr (g1 _ (zaa (wkl [sb q1_1] [0,3,22,23,24] 1 kr (g2 _ (zaa (wkr [sb q2_1,sc hqu,sb h3] kr))))))⟩
   ·exact ⟨d,zqe,wkc At.Ah [] [0,3,10,11,12] 1 kr (g1 _ (zaa (wkl [sb q1_1] [0,3,22,23,24] 1 kr (g2 _ (zaa (wkr [sb q2_1,sc hqu,sg h3,sc hw] kr))))))⟩
  ·exact ⟨r2_0,zqe,wkc At.Ah [] [0,3,10,11,12] 1 kr (g1 _ (zaa (wkl [sb q1_1] [0,3,22,23,24] 1 kr g2)))⟩
 ·exact ⟨r1_0,zqe,wkc At.Ah [] [0,3,10,11,12] 1 kr (g1)⟩
def zgc (p:X->Bool) (n:Nat) (a:Ac):Bool:=zl4 (a.rows.all fun r=>visP p n r) (a.sets.all fun s=>visP p n [s.ex]) (a.query.all (vQ (fun q=>visP p n q.items) (fun q=>visP p n q.wh))) (visP p n a.wh)
theorem zxo {g:FuncId} {p:X->Bool} (hv:∀ e,zab E0 g [X.av e] [] (bv (p e)) []) (n:Nat) (a:Ac) (h:AcSh n a):zab E0 S.Ah [.fn g [],a.av] [] (bv (zgc p n a)) []:=by
 obtain ⟨c,hc,hcc⟩:=c_vq g (fun q=>visP p n q.items) (fun q=>visP p n q.wh) a.query h.query (fun q hq=>zdo hv n q.items (h.qs q hq).items (h.qs q hq).hi) (fun q hq=>zdo hv n q.wh (h.qs q hq).wh (h.qs q hq).hw)
 obtain ⟨r,rfl,hr⟩:=zAH g a (fun r=>visP p n r) (fun s=>visP p n [s.ex]) c (visP p n a.wh) (fun r hr=>zdo hv n r (h.row r hr).1 (h.row r hr).2) (fun s hs=>zdo hv n [s.ex] (by simp [zac]) (by intro e he;simp only [List.mem_singleton] at he;subst he;exact h.set s hs)) h.rows h.sets hcc (zdo hv n a.wh h.wh h.w)
 rw [hc] at hr
 exact hr
theorem zxS (g:FuncId) (a:Ac) (b:Bool) (hv:zab E0 S.Ah [.fn g [],a.av] [] (bv b) []):∃ (r:Bool),r=b/\zab E0 S.Cj [a.av,.fn g []] [] (bv r) []:=by
 exact ⟨b,Zr,wk At.Cj [sc hv] kr⟩
theorem zmy (n:Nat) (a:Ac) (h:AcSh n a):zab E0 S.Cj [a.av,.fn S.AH []] [] (bv (zgc pUq n a)) []:=by
 obtain ⟨r,rfl,h⟩:=zxS _ a _ (zxo ze2 n a h)
 exact h
theorem zAI (a:Ac) (n:Nat) (hn:AcSh n a):∃ (r:Bool),r=!zgc pUq n a/\zab E0 S.BP [a.av,.p 0 0] [.box [.fn S.AH []]] (bv r) [.box [.fn S.AH []]]:=by
 exact ⟨!zgc pUq n a,Zr,wk At.BP [sc (zmy n a hn)] kr⟩
noncomputable def zv0 (g:FuncId) (p:Ac->Bool) (u:FuncId) (l:List Ac) (i:Nat) :Cfg:=zan B.AM 0 [(0,.sl (l.map Ac.cells)),(1,.fn g [.p 0 0]),(7,iv ((l.map Ac.cells).length:Nat)),(8,iv (i:Nat))] [.box [.fn u []]]
theorem zeI (g:FuncId) (p:Ac->Bool) (u:FuncId) (l:List Ac) (hl:zac l) (hp:∀ t∈l,zab E0 g [t.av,.p 0 0] [.box [.fn u []]] (bv (p t)) [.box [.fn u []]]) (i:Nat)  (hi:i<=(l).length) (hI:(l.take i).any p=false):(((l.take (l).length).any p=false)/\(decide ((((l).length:Nat):Int) < (((l.map Ac.cells).length:Nat):Int))=false)/\∀ R,Good E0 B.AM [.box [.fn u []]] (zv0 g p u l (l).length ) R->Good E0 B.AM [.box [.fn u []]] (zv0 g p u l i ) R)\/(∃ (r:Int),(decide (0<=r)=l.any p)/\Good E0 B.AM [.box [.fn u []]] (zv0 g p u l i ) (Shut 1 fun rZ hZ=>rZ=(iv r)/\hZ=[.box [.fn u []]])):=by
 have hk:=hi;revert i;refine zlp ((l).length) (fun i hlt ih hi hI _=>?_)
 obtain ⟨x,hx,h0,hw⟩:=zlq (l:=l) ((l.map Ac.cells).length) hlt
 have hpx:=hp x (List.mem_of_getElem? hx)
 let p_1:List St:=[sb h0,se (zai Ac.cells hx rfl),sl [0] hpx]
 cases h1:p x
 ·exact zie2 (ih Zo (by (rw [List.take_add_one,hx,List.any_append,hI];simp [*])) Zo) fun R gY=>zaa (wkl (p_1++[sb h1,si hw]) [0,1,7,8] 1 kr gY)
 ·exact .inr ⟨(i:Int),(by (rw [show (l.any p)=true from List.any_eq_true.2 ⟨x,List.mem_of_getElem? hx,by assumption⟩];simp)),zaa (wkr (p_1++[sb h1]) kr)⟩
theorem c_ixAG (g:FuncId) (p:Ac->Bool) (u:FuncId) (l:List Ac) (hl:zac l) (hp:∀ t∈l,zab E0 g [t.av,.p 0 0] [.box [.fn u []]] (bv (p t)) [.box [.fn u []]]):∃ (r:Int),(decide (0<=r)=l.any p)/\zab E0 S.AM [.sl (l.map Ac.cells),.fn g [.p 0 0]] [.box [.fn u []]] (iv r) [.box [.fn u []]]:=by
 rcases zeI g p u l zev hp 0 zev zev with ⟨q1,q1_1,g1⟩|⟨r1_0,p1_0,g1⟩
 ·exact ⟨-1,(by first|assumption|(rw [List.take_length] at *;rw [(by assumption:l.any p=false)];rfl)),wkc At.AM [] [0,1,7,8] 1 kr (g1 _ (zaa (wkr [sb q1_1] kr)))⟩
 ·exact ⟨r1_0,(by first|assumption|(rw [List.take_length] at *;rw [(by assumption:l.any p=false)];rfl)),wkc At.AM [] [0,1,7,8] 1 kr (g1)⟩
theorem c_cfAG (g:FuncId) (b:Bool) (u:FuncId) (l:List Ac) (hi:∃ r:Int,decide (0<=r)=b/\zab E0 S.AM [.sl (l.map Ac.cells),.fn g [.p 0 0]] [.box [.fn u []]] (iv r) [.box [.fn u []]]):∃ (r:Bool),r=b/\zab E0 S.B7 [.sl (l.map Ac.cells),.fn g [.p 0 0]] [.box [.fn u []]] (bv r) [.box [.fn u []]]:=by
 obtain ⟨r1,q1,c1⟩:=hi
 exact ⟨decide ((0:Int)<=r1),‹_›,wk At.B7 [sl [0] c1] kr⟩
theorem zfm (n:Nat) (l:List Ac) (hl:zac l) (ht:∀ a∈l,AcSh n a):zab E0 S.B7 [.sl (l.map Ac.cells),.fn S.BP [.p 0 0]] [.box [.fn S.AH []]] (bv (l.any fun a=>!zgc pUq n a)) [.box [.fn S.AH []]]:=by
 have hi:=c_ixAG S.BP (fun a=>!zgc pUq n a) S.AH l hl fun a h=>by
  obtain ⟨r,rfl,hc⟩:=zAI a n (ht a h)
  exact hc
 obtain ⟨r,rfl,h⟩:=c_cfAG S.BP _ S.AH l hi
 exact h
def zgb (n:Nat) (t:Tg):Bool:=bif !visP pUq n t.when_ then true else t.acts.any fun a=>!zgc pUq n a
theorem zzw (t:Tg) (n:Nat) (hw:zac t.when_) (hwx:∀ e∈t.when_,XSh n e) (hl:zac t.acts) (hac:∀ a∈t.acts,AcSh n a):∃ (r:Bool),r=zgb n t/\zab E0 S.BT [t.av] [] (bv r) []:=by
 let p_1:List St:=[sc (zkk n t.when_ zev hwx)]
 cases h1:!visP pUq n t.when_
 ·exact ⟨t.acts.any fun a=>!zgc pUq n a,(by (simp only [zgb, *,cond_true,cond_false])),wk At.BT (p_1++[sg h1,sl [1] (zfm n t.acts zev hac)]) kr⟩
 ·exact ⟨true,(by (simp only [zgb, *,cond_true,cond_false])),wk At.BT (p_1++[sb h1]) kr⟩
theorem zgv (t:Tg) (n:Nat) (h:TgLi n t):zab E0 S.BT [t.av] [] (bv (zgb n t)) []:=by
 obtain ⟨r,rfl,hc⟩:=zzw t n (by have:=h.whl;simp only [zac];omega) (fun e he=>(h.wh e he).sh) (by have:=h.acts;simp only [zac];omega) (fun a ha=>(h.act a ha).sh)
 exact hc
theorem zj3 {p:Prop} (h:p:=by first|assumption|exact FmI.start hI.eq.symm hI.len|omega|(simp;done)):p:=h
theorem zsG {p:Prop} (h:p:=by first|assumption|exact FmI.start rfl Zs|omega|(simp;done)):p:=h
theorem zsH {p:Prop} (h:p:=by first|assumption|exact FmI.start rfl hw|omega|(simp;done)):p:=h
theorem zsI {p:Prop} (h:p:=by first|omega|(simp only [zac,Few] at *;omega)):p:=h
theorem FmI.up2 {α β γ:Type} {l:List α} {g:α->List γ} {h:α->γ->List β} {pre out out':List β} {B i:Nat} {y:α} (hI:FmI l (fun a=>(g a).flatMap (h a)) pre out B 2 i) (hx:l[i]?=some y) (hn:(g y).length<=2) (hi:FmI (g y) (h y) (pre++(l.take i).flatMap fun a=>(g a).flatMap (h a)) out' (B+i * 2) 1 (g y).length):FmI l (fun a=>(g a).flatMap (h a)) pre out' B 2 (i+1) :=
 ⟨by rw [hi.all,List.take_add_one,hx,List.flatMap_append];simp,by have:=hi.len;omega⟩
def exEY (_:Ac) (x:Se):List X:=[x.ex]
def exAY (a:Ac):List X:=a.sets.flatMap (exEY a)
def stEY (a:Ac) (x:Se):List Str:=bif a.kind==5 then [x.col] else []
def wrY (a:Ac):List Str:=a.sets.flatMap (stEY a)
theorem zun {a:Ac} {pre out:List Str} {B i:Nat} {x:Se} (h:FmI a.sets (stEY a) pre out B 1 i) (hx:a.sets[i]?=some x) (hk:(a.kind==5)=true):FmI a.sets (stEY a) pre (out++[x.col]) B 1 (i+1):=by
 have:=h.step hx (by unfold stEY;cases a.kind==5 <;> simp)
 rwa [show stEY a x=[x.col] by simp [stEY,hk]] at this
theorem zum {a:Ac} {pre out:List Str} {B i:Nat} {x:Se} (h:FmI a.sets (stEY a) pre out B 1 i) (hx:a.sets[i]?=some x) (hk:(a.kind==5)=false):FmI a.sets (stEY a) pre out B 1 (i+1):=by
 have:=h.step hx (by unfold stEY;cases a.kind==5 <;> simp)
 rwa [show stEY a x=[] by simp [stEY,hk],List.append_nil] at this
noncomputable def zxu (t:Tg) (io:Nat) (a:Ac) (i:Nat) (out:List X):Cfg:=zan B.BO 1 [(3,.own 1 out.length),(12,.sl (t.acts.map Ac.cells)),(13,iv ((t.acts.map Ac.cells).length:Nat)),(14,iv (io:Nat)),(19,.sl (a.sets.map Se.cells)),(20,iv ((a.sets.map Se.cells).length:Nat)),(21,iv (i:Nat))] [.box t.cells,.row Ty.Expr (zad out) false]
theorem zi7 (t:Tg) (io:Nat) (a:Ac) (hio:io<=2) (hs:a.sets.length<=2) (i:Nat) (out:List X) (hi:i<=(a.sets).length) (hI:FmI a.sets (exEY a) (t.when_++(t.acts.take io).flatMap exAY) out (1+io * 2) 1 i):∃ (out':List X),(FmI a.sets (exEY a) (t.when_++(t.acts.take io).flatMap exAY) out' (1+io * 2) 1 (a.sets).length)/\(decide ((((a.sets).length:Nat):Int) < (((a.sets.map Se.cells).length:Nat):Int))=false)/\∀ R,Good E0 B.BO [] (zxu t io a (a.sets).length out') R->Good E0 B.BO [] (zxu t io a i out) R:=by
 have hk:=hi;revert i out;refine zlp ((a.sets).length) (fun i hlt ih out hi hI _=>?_)
 obtain ⟨x,hx,h0,hw⟩:=zlq (l:=a.sets) ((a.sets.map Se.cells).length) hlt zsI
 have hol:out.length<=1000000:=by have:=hI.len;omega
 exact Zih (ih (out++[x.ex]) Zo (by first|exact hI.step (f:=exEY a) hx (by simp [exEY])|exact hI.step hx (Nat.le_refl _)) Zo) fun R gY=>zaa (wkl [sb h0,se (zai Se.cells hx rfl),sqA (zad out) [x.ex.cells] out.length 10 136,si hw] [3,12,13,14,19,20,21] 2 kr (zaE 3 1 (zad out++[x.ex.cells]) gY (he:=Zcv8) (hm:=Zcv8)))
noncomputable def zxy (t:Tg) (io:Nat) (a:Ac) (i:Nat) (out:List Str):Cfg:=zan B.Ca 1 [(3,.own 1 out.length),(5,.p 2 0),(9,.sl (t.acts.map Ac.cells)),(10,iv ((t.acts.map Ac.cells).length:Nat)),(11,iv (io:Nat)),(16,.sl (a.sets.map Se.cells)),(17,iv ((a.sets.map Se.cells).length:Nat)),(18,iv (i:Nat))] [.box t.cells,.row Ty.string (out.map fun s=>[sv s]) false,.box a.cells]
theorem zkv (t:Tg) (io:Nat) (a:Ac) (hio:io<=2) (hs:a.sets.length<=2) (i:Nat) (out:List Str) (hi:i<=(a.sets).length) (hI:FmI a.sets (stEY a) ([]++(t.acts.take io).flatMap wrY) out (0+io * 2) 1 i):∃ (out':List Str),(FmI a.sets (stEY a) ([]++(t.acts.take io).flatMap wrY) out' (0+io * 2) 1 (a.sets).length)/\(decide ((((a.sets).length:Nat):Int) < (((a.sets.map Se.cells).length:Nat):Int))=false)/\∀ R,Good E0 B.Ca [] (zxy t io a (a.sets).length out') R->Good E0 B.Ca [] (zxy t io a i out) R:=by
 have hk:=hi;revert i out;refine zlp ((a.sets).length) (fun i hlt ih out hi hI _=>?_)
 obtain ⟨x,hx,h0,hw⟩:=zlq (l:=a.sets) ((a.sets.map Se.cells).length) hlt zsI
 have hol:out.length<=1000000:=by have:=hI.len;omega
 let p_1:List St:=[sb h0,se (zai Se.cells hx rfl)]
 cases h1:a.kind==5
 ·exact Zih (ih out Zo (by first|exact zun hI hx ‹_›|exact zum hI hx ‹_›) Zo) fun R gY=>zaa (wkl (p_1++[sb h1,si hw]) [3,5,9,10,11,16,17,18] 3 kr gY)
 ·exact Zih (ih (out++[x.col]) Zo (by first|exact zun hI hx ‹_›|exact zum hI hx ‹_›) Zo) fun R gY=>zaa (wkl (p_1++[sb h1,sqA (List.map (fun s=>[sv s]) out) [[sv x.col]] out.length 1 16,si hw]) [3,5,9,10,11,16,17,18] 3 kr (zaE 3 1 (List.map (fun s=>[sv s]) out++[[sv x.col]]) gY (he:=Zcv8) (hm:=Zcv8)))
noncomputable def zxt (t:Tg) (i:Nat) (out:List X):Cfg:=zan B.BO 0 [(3,.own 1 out.length),(12,.sl (t.acts.map Ac.cells)),(13,iv ((t.acts.map Ac.cells).length:Nat)),(14,iv (i:Nat))] [.box t.cells,.row Ty.Expr (zad out) false]
theorem zi6 (t:Tg) (ha:t.acts.length<=3) (hs:∀ a∈t.acts,a.sets.length<=2) (i:Nat) (out:List X) (hi:i<=(t.acts).length) (hI:FmI t.acts exAY t.when_ out 1 2 i):∃ (out':List X),(FmI t.acts exAY t.when_ out' 1 2 (t.acts).length)/\(decide ((((t.acts).length:Nat):Int) < (((t.acts.map Ac.cells).length:Nat):Int))=false)/\∀ R,Good E0 B.BO [] (zxt t (t.acts).length out') R->Good E0 B.BO [] (zxt t i out) R:=by
 have hk:=hi;revert i out;refine zlp ((t.acts).length) (fun i hlt ih out hi hI _=>?_)
 obtain ⟨x,hx,h0,hw⟩:=zlq (l:=t.acts) ((t.acts.map Ac.cells).length) hlt zsI
 have hsx:=hs x (List.mem_of_getElem? hx);have hi9:i<=2:=by omega
 obtain ⟨out1,q1,q1_1,g1⟩:=zi7 t i x zj3 zj3 0 out zj3 zj3
 exact Zih (ih out1 Zo (by exact FmI.up2 hI hx hsx ‹_›) Zo) fun R gY=>zaa (wkl [sb h0,se (zai Ac.cells hx rfl)] [3,12,13,14,19,20,21] 2 kr (g1 _ (zaa (wkl [sb q1_1,si hw] [3,12,13,14] 2 kr gY))))
noncomputable def zxx (t:Tg) (i:Nat) (out:List Str):Cfg:=zan B.Ca 0 [(3,.own 1 out.length),(9,.sl (t.acts.map Ac.cells)),(10,iv ((t.acts.map Ac.cells).length:Nat)),(11,iv (i:Nat))] [.box t.cells,.row Ty.string (out.map fun s=>[sv s]) false]
theorem zku (t:Tg) (ha:t.acts.length<=3) (hs:∀ a∈t.acts,a.sets.length<=2) (i:Nat) (out:List Str) (hi:i<=(t.acts).length) (hI:FmI t.acts wrY [] out 0 2 i):∃ (out':List Str),(FmI t.acts wrY [] out' 0 2 (t.acts).length)/\(decide ((((t.acts).length:Nat):Int) < (((t.acts.map Ac.cells).length:Nat):Int))=false)/\∀ R,Good E0 B.Ca [] (zxx t (t.acts).length out') R->Good E0 B.Ca [] (zxx t i out) R:=by
 have hk:=hi;revert i out;refine zlp ((t.acts).length) (fun i hlt ih out hi hI _=>?_)
 obtain ⟨x,hx,h0,hw⟩:=zlq (l:=t.acts) ((t.acts.map Ac.cells).length) hlt zsI
 have hsx:=hs x (List.mem_of_getElem? hx);have hi9:i<=2:=by omega
 obtain ⟨out1,q1,q1_1,g1⟩:=zkv t i x zj3 zj3 0 out zj3 zj3
 exact Zih (ih out1 Zo (by exact FmI.up2 hI hx hsx ‹_›) Zo) fun R gY=>zaa (wkl [sb h0,se (zai Ac.cells hx rfl)] [3,5,9,10,11,16,17,18] 3 kr (g1 _ (zaa (wkl [sb q1_1,si hw] [3,9,10,11] 2 kr gY))))
theorem zzt (t:Tg) (hw:t.when_.length<=1) (ha:t.acts.length<=3) (hs:∀ a∈t.acts,a.sets.length<=2):∃ (r:List X),r=t.when_++t.acts.flatMap exAY/\zab E0 S.BO [t.av] [] (xsl r) []:=by
 obtain ⟨out1,q1,q1_1,g1⟩:=zi6 t zsH zsH 0 t.when_ zsH zsH
 exact ⟨out1,(by exact FmI.all ‹_›),wkc At.BO [sqx (AllLen (zad t.when_) 10/\((zad t.when_).length * 136).le 140737488355328)] [3,12,13,14] 2 kr (zaR (show ([(3,AV.own 1 (zad t.when_).length),(12,ZA t.acts),(13,iv (↑(List.map Ac.cells t.acts).length:Int)),(14,iv 0)]:TS)=_ from Zcv8) rfl (g1 _ (zaa (wkr [sqx (out1.length=(zad out1).length),sb q1_1] kr))))⟩
theorem c_setY (t:Tg) (ha:t.acts.length<=3) (hs:∀ a∈t.acts,a.sets.length<=2):∃ (r:List Str),r=t.acts.flatMap wrY/\zab E0 S.Ca [t.av] [] (ssl r) []:=by
 obtain ⟨out1,q1,q1_1,g1⟩:=zku t zsG zsG 0 ([]) zsG zsG
 exact ⟨out1,(by exact FmI.all ‹_›),wkcN At.Ca [] [3,9,10,11] 1 [(.ot 3 Ty.string,2)] kr (g1 _ (zaa (wkr [sqx (out1.length=(List.map (fun s=>[sv s]) out1).length),sb q1_1] kr)))⟩
theorem wrY_eq (t:Tg):t.acts.flatMap wrY=(zbb t).map Se.col:=by
 unfold zbb
 rw [List.map_flatMap]
 congr 1
 funext a
 unfold wrY stEY setQ
 cases a.kind==5
 ·simp
 ·simp only [cond_true]
  induction a.sets with
  | nil=>rfl
  | cons x r ih=>simp [List.flatMap_cons,ih]
theorem zgJ (t:Tg) (ha:t.acts.length<=3) (hs:∀ a∈t.acts,a.sets.length<=2):zab E0 S.Ca [t.av] [] (ssl ((zbb t).map Se.col)) []:=by
 obtain ⟨r,rfl,h⟩:=c_setY t ha hs
 rw [wrY_eq] at h
 exact h
theorem zAT (a:Ac):exAY a=a.sets.map Se.ex:=by
 unfold exAY exEY
 induction a.sets with
 | nil=>rfl
 | cons x r ih=>simp [List.flatMap_cons,ih]
def zbp (t:Tg):List X:=t.when_++t.acts.flatMap fun a=>a.sets.map Se.ex
theorem ziB (t:Tg) (hw:t.when_.length<=1) (ha:t.acts.length<=3) (hs:∀ a∈t.acts,a.sets.length<=2):zab E0 S.BO [t.av] [] (xsl (zbp t)) []:=by
 obtain ⟨r,rfl,h⟩:=zzt t hw ha hs
 rw [show exAY=_ from funext zAT] at h
 exact h
theorem zg7 {p:Prop} (h:p:=by first|assumption|exact FmI.start rfl Zs|exact zAf ‹_› he|omega|(simp;done)):p:=h
theorem zw8 {p:Prop} (h:p:=by first|exact rowR_0 ‹_›|exact rowR_1 ‹_› ‹_›|exact zAg ‹_› ‹_› ‹_›):p:=h
abbrev qNEW:Str:=⟨#[78,69,87]⟩
abbrev qOLD:Str:=⟨#[79,76,68]⟩
noncomputable def zxv (t:Tg) (es:List X) (n:Nat) (i:Nat) (out:List Str):Cfg:=zan B.B9 0 [(1,.p 0 0),(4,.own 1 out.length),(16,.sl (zad es)),(17,iv ((zad es).length:Nat)),(18,iv (i:Nat))] [.box t.cells,.row Ty.string (out.map fun s=>[sv s]) false]
theorem zks (t:Tg) (es:List X) (n:Nat) (he:es.length<=7) (hr:∀ x∈es,NamC qNEW (zaq qNEW n) x) (i:Nat) (out:List Str) (hi:i<=(es).length) (hI:FmI es (zaq qNEW n) [] out 0 4000000 i):∃ (out':List Str),(FmI es (zaq qNEW n) [] out' 0 4000000 (es).length)/\(decide ((((es).length:Nat):Int) < (((zad es).length:Nat):Int))=false)/\∀ R,Good E0 B.B9 [] (zxv t es n (es).length out') R->Good E0 B.B9 [] (zxv t es n i out) R:=by
 have hk:=hi;revert i out;refine zlp ((es).length) (fun i hlt ih out hi hI _=>?_)
 obtain ⟨x,hx,h0,hw⟩:=zlq (l:=es) ((zad es).length) hlt
 have hfx:=(hr x (List.mem_of_getElem? hx)).1
 have hfl:=(hr x (List.mem_of_getElem? hx)).2
 have hol:=hI.room (n:=7) (k:=4000000) Zo Zo hfl
 exact Zih (ih (out++zaq qNEW n x) Zo (by exact hI.step hx hfl) Zo) fun R gY=>zaa (wkl [sb h0,se (zak hx),sc hfx,sqx (AllLen (List.map (fun s=>[sv s]) (zaq qNEW n x)) 1/\out.length=(List.map (fun s=>[sv s]) out).length/\(((List.map (fun s=>[sv s]) out).length+(List.map (fun s=>[sv s]) (zaq qNEW n x)).length) * 16).le 140737488355328),si hw] [1,4,16,17,18] 2 kr (zaE 4 1 (List.map (fun s=>[sv s]) out++List.map (fun s=>[sv s]) (zaq qNEW n x)) gY (he:=Zcv8) (hm:=Zcv8)))
theorem zAf {es:List X} {f:X->List Str} {out:List Str} (h:FmI es f [] out 0 4000000 es.length) (he:es.length<=7):zac out:=by have:=h.len;simp only [zac];omega
def rowR (n:Nat) (t:Tg):List Str × List Str:=bif !t.before then ([],[]) else bif !t.each then ([],[]) else (srtS ((zbp t).flatMap (zaq qNEW n)),srtS ((zbb t).map Se.col))
theorem zAg {t:Tg} {n:Nat} {out:List Str} (h1:(!t.before)=false) (h2:(!t.each)=false) (ho:FmI (zbp t) (zaq qNEW n) [] out 0 4000000 (zbp t).length):srtS out=(rowR n t).1/\srtS ((zbb t).map Se.col)=(rowR n t).2:=by
 have:=ho.all
 rw [List.nil_append] at this
 rw [this]
 simp only [rowR,h1,h2,cond_false]
 exact ⟨trivial,trivial⟩
theorem rowR_0 {t:Tg} {n:Nat} (h1:(!t.before)=true):[]=(rowR n t).1/\[]=(rowR n t).2:=by simp only [rowR,h1,cond_true];exact ⟨trivial,trivial⟩
theorem rowR_1 {t:Tg} {n:Nat} (h1:(!t.before)=false) (h2:(!t.each)=true):[]=(rowR n t).1/\[]=(rowR n t).2:=by simp only [rowR,h1,h2,cond_true,cond_false];exact ⟨trivial,trivial⟩
theorem c_RowY (t:Tg) (n:Nat) (hw:t.when_.length<=1) (ha:t.acts.length<=3) (hs:∀ a∈t.acts,a.sets.length<=2) (he:(zbp t).length<=7) (hr:∀ x∈zbp t,NamC qNEW (zaq qNEW n) x) (hss:zac ((zbb t).map Se.col)):∃ (a b:List Str),(a=(rowR n t).1/\b=(rowR n t).2)/\zab E0 S.B9 [t.av] [] (.tup [ssl a,ssl b]) []:=by
 cases h1:!t.before
 ·cases h2:!t.each
  ·obtain ⟨out3,q3,q3_1,g3⟩:=zks t (zbp t) n zg7 hr 0 ([]) zg7 zg7
   exact ⟨srtS out3,srtS (List.map Se.col (zbb t)),zw8,wkcN At.B9 [sg h1,sb h2,sc (ziB t zg7 zg7 zg7)] [1,4,16,17,18] 1 [(.ot 4 Ty.string,2)] kr (g3 _ (zaa (wkr [sb q3_1,sd [(1,[skx (out3.length=(List.map (fun s=>[sv s]) out3).length/\True) [] (zkU out3 zg7)]),(3,[sc (zgJ t zg7 zg7)]),(4,[sc (zkU (List.map Se.col (zbb t)) zg7)])]] kr)))⟩
  ·exact ⟨[],[],zw8,wk At.B9 [sg h1,sb h2] kr⟩
 ·exact ⟨[],[],zw8,wk At.B9 [sb h1] kr⟩
def xOf (q:Qy):X:=X.mk 0 0 false ⟨0,0,⟨#[]⟩⟩ ⟨#[]⟩ ⟨#[]⟩ [] [q]
def zb5 (a:Ac):List X:=a.wh++a.rows.flatMap (fun r=>r)++a.query.map xOf++a.sets.map Se.ex
noncomputable def L_xar (a:Ac) (i:Nat) (out:List X):Cfg:=zan B.AX 0 [(1,.p 0 0),(3,.own 1 out.length),(14,.sl (a.rows.map zaA)),(15,iv ((a.rows.map zaA).length:Nat)),(16,iv (i:Nat))] [.box a.cells,.row Ty.Expr (zad out) false]
theorem zjw (a:Ac) (hr:a.rows.length<=3) (hrl:∀ r∈a.rows,r.length<=4) (hw:a.wh.length<=1) (i:Nat) (out:List X) (hi:i<=(a.rows).length) (hI:FmI a.rows (fun r=>r) a.wh out 1 4 i):∃ (out':List X),(FmI a.rows (fun r=>r) a.wh out' 1 4 (a.rows).length)/\(decide ((((a.rows).length:Nat):Int) < (((a.rows.map zaA).length:Nat):Int))=false)/\∀ R,Good E0 B.AX [] (L_xar a (a.rows).length out') R->Good E0 B.AX [] (L_xar a i out) R:=by
 have hk:=hi;revert i out;refine zlp ((a.rows).length) (fun i hlt ih out hi hI _=>?_)
 obtain ⟨x,hx,h0,hw⟩:=zlq (l:=a.rows) ((a.rows.map zaA).length) hlt
 have hxl:=hrl x (List.mem_of_getElem? hx);have ho:out.length<=13:=(by have:=hI.len;omega)
 exact Zih (ih (out++x) Zo (by exact hI.step hx hxl) Zo) fun R gY=>zaa (wkl [sb h0,se (zai zaA hx rfl),sqx (AllLen (zad x) 10/\out.length=(zad out).length/\(((zad out).length+(zad x).length) * 136).le 140737488355328),si hw] [1,3,14,15,16] 2 kr (zaE 3 1 (zad out++zad x) gY (he:=Zcv8) (hm:=Zcv8)))
theorem zAn {l:List Qy} {pre out o2:List X} {i:Nat} {x:Qy} (h:out=pre++(l.take i).map xOf) (hx:l[i]?=some x) (ho:o2=out++[xOf x]):o2=pre++(l.take (i+1)).map xOf:=by
 rw [ho,h,List.take_add_one,hx];simp
noncomputable def zsi (a:Ac) (pre:List X) (i:Nat) (out:List X):Cfg:=zan B.AX 1 [(1,.p 0 0),(3,.own 1 out.length),(25,.sl (zal a.query)),(26,iv ((zal a.query).length:Nat)),(27,iv (i:Nat))] [.box a.cells,.row Ty.Expr (zad out) false]
theorem zjv (a:Ac) (pre:List X) (hq:a.query.length<=1) (hp:pre.length<=13) (i:Nat) (out:List X) (hi:i<=(a.query).length) (hI:out=pre++(a.query.take i).map xOf):∃ (out':List X),(out'=pre++(a.query.take (a.query).length).map xOf)/\(decide ((((a.query).length:Nat):Int) < (((zal a.query).length:Nat):Int))=false)/\∀ R,Good E0 B.AX [] (zsi a pre (a.query).length out') R->Good E0 B.AX [] (zsi a pre i out) R:=by
 have hk:=hi;revert i out;refine zlp ((a.query).length) (fun i hlt ih out hi hI _=>?_)
 obtain ⟨x,hx,h0,hw⟩:=zlq (l:=a.query) ((zal a.query).length) hlt
 have ho:out.length<=14:=(by rw [hI,List.length_append,List.length_map,List.length_take];omega)
 exact Zih (ih (out++[X.mk 0 0 false (V.mk 0 0 Zs0) Zs0 Zs0 [] [x]]) Zo (by exact zAn hI hx rfl) Zo) fun R gY=>zaa (wkl [sb h0,se (zba hx),sqA (zad out) [[iv 0,iv 0,bv false,iv 0,iv 0,sv Zs0,sv Zs0,sv Zs0,AV.sl [],AV.sl [x.cells]]] out.length 10 136,si hw] [1,3,25,26,27] 2 kr (zaE 3 1 (zad out++[[iv 0,iv 0,bv false,iv 0,iv 0,sv Zs0,sv Zs0,sv Zs0,AV.sl [],AV.sl [x.cells]]]) gY (he:=Zcv8) (hm:=Zcv8)))
theorem zhZ {p:Prop} (h:p:=by first|assumption|exact FmI.start rfl hw|exact xa_len ‹_› hr|exact zBB ‹_› hr hq ‹_›|omega|(simp;done)):p:=h
theorem zkn (a:Ac) (hq:a.query.length<=1) (out:List X) (hp:out.length<=13):∃ out':List X,out'=out++a.query.map xOf/\decide (((a.query.length:Nat):Int) < (((zal a.query).length:Nat):Int))=false/\∀ R,Good E0 B.AX [] (zsi a out a.query.length out') R->Good E0 B.AX [] (zsi a out 0 out) R:=by
 obtain ⟨k',h1,h2,h3⟩:=zjv a out hq hp 0 out Zo Zs
 exact ⟨k',by rw [h1,List.take_length],h2,h3⟩
theorem zAo {l:List Se} {pre out o2:List X} {i:Nat} {x:Se} (h:out=pre++(l.take i).map Se.ex) (hx:l[i]?=some x) (ho:o2=out++[x.ex]):o2=pre++(l.take (i+1)).map Se.ex:=by
 rw [ho,h,List.take_add_one,hx];simp
noncomputable def zsj (a:Ac) (pre:List X) (i:Nat) (out:List X):Cfg:=zan B.AX 2 [(3,.own 1 out.length),(39,.sl (a.sets.map Se.cells)),(40,iv ((a.sets.map Se.cells).length:Nat)),(41,iv (i:Nat))] [.box a.cells,.row Ty.Expr (zad out) false]
theorem zjx (a:Ac) (pre:List X) (hs:a.sets.length<=2) (hp:pre.length<=14) (i:Nat) (out:List X) (hi:i<=(a.sets).length) (hI:out=pre++(a.sets.take i).map Se.ex):∃ (out':List X),(out'=pre++(a.sets.take (a.sets).length).map Se.ex)/\(decide ((((a.sets).length:Nat):Int) < (((a.sets.map Se.cells).length:Nat):Int))=false)/\∀ R,Good E0 B.AX [] (zsj a pre (a.sets).length out') R->Good E0 B.AX [] (zsj a pre i out) R:=by
 have hk:=hi;revert i out;refine zlp ((a.sets).length) (fun i hlt ih out hi hI _=>?_)
 obtain ⟨x,hx,h0,hw⟩:=zlq (l:=a.sets) ((a.sets.map Se.cells).length) hlt
 have ho:out.length<=16:=(by rw [hI,List.length_append,List.length_map,List.length_take];omega)
 exact Zih (ih (out++[x.ex]) Zo (by exact zAo hI hx rfl) Zo) fun R gY=>zaa (wkl [sb h0,se (zai Se.cells hx rfl),sqA (zad out) [x.ex.cells] out.length 10 136,si hw] [3,39,40,41] 2 kr (zaE 3 1 (zad out++[x.ex.cells]) gY (he:=Zcv8) (hm:=Zcv8)))
theorem zko (a:Ac) (hs:a.sets.length<=2) (out:List X) (hp:out.length<=14):∃ out':List X,out'=out++a.sets.map Se.ex/\decide (((a.sets.length:Nat):Int) < (((a.sets.map Se.cells).length:Nat):Int))=false/\∀ R,Good E0 B.AX [] (zsj a out a.sets.length out') R->Good E0 B.AX [] (zsj a out 0 out) R:=by
 obtain ⟨k',h1,h2,h3⟩:=zjx a out hs hp 0 out Zo Zs
 exact ⟨k',by rw [h1,List.take_length],h2,h3⟩
theorem xa_len {a:Ac} {out:List X} (h:FmI a.rows (fun r=>r) a.wh out 1 4 a.rows.length) (hr:a.rows.length<=3):out.length<=13:=by have:=h.len;omega
theorem zBB {a:Ac} {out o2:List X} (h:FmI a.rows (fun r=>r) a.wh out 1 4 a.rows.length) (hr:a.rows.length<=3) (hq:a.query.length<=1) (ho:o2=out++a.query.map xOf):o2.length<=14:=by
 have:=h.len
 rw [ho,List.length_append,List.length_map];omega
theorem xa_end {a:Ac} {o1 o2 o3:List X} (h:FmI a.rows (fun r=>r) a.wh o1 1 4 a.rows.length) (h2:o2=o1++a.query.map xOf) (h3:o3=o2++a.sets.map Se.ex):o3=zb5 a:=by
 rw [h3,h2,h.all];rfl
theorem zzp (a:Ac) (hr:a.rows.length<=3) (hrl:∀ r∈a.rows,r.length<=4) (hq:a.query.length<=1) (hs:a.sets.length<=2) (hw:a.wh.length<=1):∃ (r:List X),r=zb5 a/\zab E0 S.AX [a.av] [] (xsl r) []:=by
 obtain ⟨out1,q1,q1_1,g1⟩:=zjw a zhZ zhZ zhZ 0 a.wh zhZ zhZ
 obtain ⟨out2,q2,q2_1,g2⟩:=zkn a zhZ out1 zhZ
 obtain ⟨out3,q3,q3_1,g3⟩:=zko a zhZ out2 zhZ
 exact ⟨out3,(by exact xa_end ‹_› ‹_› ‹_›),wkc At.AX [sqx (AllLen (zad a.wh) 10/\((zad a.wh).length * 136).le 140737488355328)] [1,3,14,15,16] 2 kr (zaR (show ([(1,AV.p 0 0),(3,AV.own 1 (zad a.wh).length),(14,AV.sl (List.map (fun r=>[AV.sl (zad r)]) a.rows)),(15,iv (↑(List.map (fun r=>[AV.sl (zad r)]) a.rows).length:Int)),(16,iv 0)]:TS)=_ from Zcv8) rfl (g1 _ (zaa (wkl [sb q1_1] [1,3,25,26,27] 2 kr (g2 _ (zaa (wkl [sb q2_1] [3,39,40,41] 2 kr (g3 _ (zaa (wkr [sqx (out3.length=(zad out3).length),sb q3_1] kr))))))))))⟩
theorem zrN (n:Nat) (a:Ac) (h:AcLi n a):zab E0 S.AX [a.av] [] (xsl (zb5 a)) []:=by
 obtain ⟨r,rfl,hc⟩:=zzp a h.rows (fun r hr=>(h.row r hr).1) h.query h.sets h.wh
 exact hc
theorem zwE {n:Nat} {a:Ac} (h:AcLi n a):(zb5 a).length<=16:=by
 have h1:=zaz (l:=a.rows) (f:=fun r=>r) (C:=4) fun r hr=>(h.row r hr).1
 have h2:=h.rows
 have h3:=h.query
 have h4:=h.sets
 have h5:=h.wh
 simp only [zb5,List.length_append,List.length_map]
 omega
noncomputable def L_urA (t:Tg) (n:Nat) (i:Nat) (out:List X):Cfg:=zan B.A0 0 [(3,.own 1 out.length),(12,.sl (t.acts.map Ac.cells)),(13,iv ((t.acts.map Ac.cells).length:Nat)),(14,iv (i:Nat))] [.box t.cells,.row Ty.Expr (zad out) false]
theorem zib (t:Tg) (n:Nat) (ha:∀ a∈t.acts,AcLi n a) (hal:t.acts.length<=3) (hw:t.when_.length<=1) (i:Nat) (out:List X) (hi:i<=(t.acts).length) (hI:FmI t.acts zb5 t.when_ out 1 16 i):∃ (out':List X),(FmI t.acts zb5 t.when_ out' 1 16 (t.acts).length)/\(decide ((((t.acts).length:Nat):Int) < (((t.acts.map Ac.cells).length:Nat):Int))=false)/\∀ R,Good E0 B.A0 [] (L_urA t n (t.acts).length out') R->Good E0 B.A0 [] (L_urA t n i out) R:=by
 have hk:=hi;revert i out;refine zlp ((t.acts).length) (fun i hlt ih out hi hI _=>?_)
 obtain ⟨x,hx,h0,hw⟩:=zlq (l:=t.acts) ((t.acts.map Ac.cells).length) hlt
 have hax:=ha x (List.mem_of_getElem? hx);have hol:out.length<=1000:=(by have:=hI.len;omega);have hxl:=zwE hax
 exact Zih (ih (out++zb5 x) Zo (by exact hI.step hx hxl) Zo) fun R gY=>zaa (wkl [sb h0,se (zai Ac.cells hx rfl),sc (zrN n x hax),sqx (AllLen (zad (zb5 x)) 10/\out.length=(zad out).length/\(((zad out).length+(zad (zb5 x)).length) * 136).le 140737488355328),si hw] [3,12,13,14] 2 kr (zaE 3 1 (zad out++zad (zb5 x)) gY (he:=Zcv8) (hm:=Zcv8)))
theorem zh0 {p:Prop} (h:p:=by first|assumption|exact FmI.start rfl hw|exact ur_len ‹_› hal|exact zyV (p:=fun x=>NamC qOLD (zaq qOLD (n+1)) x) ‹_› hro|exact zyV (p:=fun x=>NamC qNEW (zaq qNEW (n+1)) x) ‹_› hrn|omega|(simp;done)):p:=h
theorem zj4 {p:Prop} (h:p:=by first|assumption|exact zbQ|exact ⟨rfl,by simp⟩|(simp;omega)|omega|(simp;done)):p:=h
theorem zsJ {p:Prop} (h:p:=by first|exact star_1 ‹_›|exact star_2 ‹_› ‹_›|exact star_3 ‹_› ‹_› ‹_›|exact star_4 ‹_› ‹_› ‹_› ‹_›):p:=h
def nmQ (n:Nat) (x:X):Bool:=decide (0 < (zaq qOLD n x).length+(zaq qNEW n x).length)
theorem zys {n:Nat} {x:X} {b:Bool} (hlo:(zaq qOLD n x).length<=4000000) (hln:(zaq qNEW n x).length<=4000000) (h:decide ((0:Int) < IntKind.i64.wrap ((((zaq qOLD n x).map fun s=>[sv s]).length:Int)+(((zaq qNEW n x).map fun s=>[sv s]).length:Int)))=b):nmQ n x=b:=by
 rw [← h,List.length_map,List.length_map,show IntKind.i64.wrap (((zaq qOLD n x).length:Int)+((zaq qNEW n x).length:Int))=(((zaq qOLD n x).length+(zaq qNEW n x).length:Nat):Int) by rw [IntKind.wrap_i64];omega]
 unfold nmQ;congr 1;simp only [eq_iff_iff];omega
structure FixN (n:Nat):Prop where
 ok:True
noncomputable def zwc (t:Tg) (es:List X) (n:Nat) (i:Nat) :Cfg:=zan B.A0 1 [(23,.own 1 es.length),(24,iv ((zad es).length:Nat)),(25,iv (i:Nat))] [.box t.cells,.row Ty.Expr (zad es) false]
theorem zic (t:Tg) (es:List X) (n:Nat) (hfix:FixN n) (hl:es.length<=49) (hro:∀ x∈es,NamC qOLD (zaq qOLD n) x) (hrn:∀ x∈es,NamC qNEW (zaq qNEW n) x) (i:Nat)  (hi:i<=(es).length) (hI:(es.take i).any (nmQ n)=false):(((es.take (es).length).any (nmQ n)=false)/\(decide ((((es).length:Nat):Int) < (((zad es).length:Nat):Int))=false)/\∀ R,Good E0 B.A0 [] (zwc t es n (es).length ) R->Good E0 B.A0 [] (zwc t es n i ) R)\/(∃ (r:Bool),(r=true/\es.any (nmQ n)=true)/\Good E0 B.A0 [] (zwc t es n i ) (Shut 0 fun rZ hZ=>rZ=(bv r)/\hZ=[])):=by
 have hk:=hi;revert i;refine zlp ((es).length) (fun i hlt ih hi hI _=>?_)
 obtain ⟨x,hx,h0,hw⟩:=zlq (l:=es) ((zad es).length) hlt
 have hfo:=(hro x (List.mem_of_getElem? hx)).1;have hlo:=(hro x (List.mem_of_getElem? hx)).2;have hfn:=(hrn x (List.mem_of_getElem? hx)).1;have hln:=(hrn x (List.mem_of_getElem? hx)).2
 let p_1:List St:=[sb h0,sqx (OwnAt (zad es) es.length (i:Int)),sx (.el x.cells) (zvy (n:=es.length) Zs hx),sd [(1,[sc hfo]),(4,[sc hfn]),(6,[si (e:=IntKind.i64.wrap ((↑(List.map (fun s=>[sv s]) (zaq qOLD n x)).length:Int)+(↑(List.map (fun s=>[sv s]) (zaq qNEW n x)).length:Int))) rfl])]]
 cases h1:decide (0 < IntKind.i64.wrap ((↑(List.map (fun s=>[sv s]) (zaq qOLD n x)).length:Int)+(↑(List.map (fun s=>[sv s]) (zaq qNEW n x)).length:Int)))
 ·exact zie2 (ih Zo (by (rw [List.take_add_one,hx,List.any_append,hI];simp only [Option.toList_some,List.any_cons,List.any_nil,Bool.or_false,Bool.false_or];exact zys hlo hln ‹_›)) Zo) fun R gY=>zaa (wkl (p_1++[sb h1,si hw]) [23,24,25] 2 kr gY)
 ·exact .inr ⟨true,(by exact ⟨rfl,List.any_eq_true.2 ⟨x,List.mem_of_getElem? hx,zys hlo hln ‹_›⟩⟩),zaa (wkr (p_1++[sb h1]) kr)⟩
def zdS (t:Tg):List X:=t.when_++t.acts.flatMap zb5
theorem ur_len {t:Tg} {out:List X} (h:FmI t.acts zb5 t.when_ out 1 16 t.acts.length) (ha:t.acts.length<=3):out.length<=49:=by have:=h.len;omega
theorem zyV {t:Tg} {out:List X} {p:X->Prop} (h:FmI t.acts zb5 t.when_ out 1 16 t.acts.length) (hp:∀ x∈zdS t,p x):∀ x∈out,p x:=by
 rw [h.all];exact hp
theorem zvN {t:Tg} {n:Nat} {out:List X} {r:Bool} (h:FmI t.acts zb5 t.when_ out 1 16 t.acts.length) (hr:r=true/\out.any (nmQ n)=true):r=(zdS t).any (nmQ n):=by
 rw [hr.1,show zdS t=out from h.all.symm,hr.2]
theorem zvM {t:Tg} {n:Nat} {out:List X} (h:FmI t.acts zb5 t.when_ out 1 16 t.acts.length) (hr:(out.take out.length).any (nmQ n)=false):false=(zdS t).any (nmQ n):=by
 rw [List.take_length] at hr;rw [show zdS t=out from h.all.symm,hr]
theorem zAD (t:Tg) (n:Nat) (hfix:FixN (n+1)) (ha:∀ a∈t.acts,AcLi n a) (hal:t.acts.length<=3) (hw:t.when_.length<=1) (hro:∀ x∈zdS t,NamC qOLD (zaq qOLD (n+1)) x) (hrn:∀ x∈zdS t,NamC qNEW (zaq qNEW (n+1)) x):∃ (r:Bool),r=(zdS t).any (nmQ (n+1))/\zab E0 S.A0 [t.av] [] (bv r) []:=by
 obtain ⟨out1,q1,q1_1,g1⟩:=zib t n ha zh0 zh0 0 t.when_ zh0 zh0
 let p_1:List St:=[sqx (AllLen (zad t.when_) 10/\((zad t.when_).length * 136).le 140737488355328)]
 let p_2:List St:=[sb q1_1,sqx (out1.length=(zad out1).length)]
 rcases zic t out1 (n+1) hfix zh0 zh0 zh0 0 zh0 zh0 with ⟨q2,q2_1,g2⟩|⟨r2_0,p2_0,g2⟩
 ·exact ⟨false,(by first|exact zvN ‹_› ‹_›|exact zvM ‹_› ‹_›),wkc At.A0 p_1 [3,12,13,14] 2 kr (zaR (show ([(3,AV.own 1 (zad t.when_).length),(12,ZA t.acts),(13,iv (↑(List.map Ac.cells t.acts).length:Int)),(14,iv 0)]:TS)=_ from Zcv8) rfl (g1 _ (zaa (wkl p_2 [23,24,25] 2 kr (zaR (show ([(23,AV.own 1 out1.length),(24,iv (out1.length:Int)),(25,iv 0)]:TS)=_ from Zcv8) rfl (g2 _ (zaa (wkr [sb q2_1] kr))))))))⟩
 ·exact ⟨r2_0,(by first|exact zvN ‹_› ‹_›|exact zvM ‹_› ‹_›),wkc At.A0 p_1 [3,12,13,14] 2 kr (zaR (show ([(3,AV.own 1 (zad t.when_).length),(12,ZA t.acts),(13,iv (↑(List.map Ac.cells t.acts).length:Int)),(14,iv 0)]:TS)=_ from Zcv8) rfl (g1 _ (zaa (wkl p_2 [23,24,25] 2 kr (zaR (show ([(23,AV.own 1 out1.length),(24,iv (out1.length:Int)),(25,iv 0)]:TS)=_ from Zcv8) rfl g2)))))⟩
noncomputable def L_stR (q:Qy) (s:Sch) (i:Nat) (out:List Acc):Cfg:=zan B.Bx 0 [(2,.p 0 0),(7,.sl (out.map Acc.cells)),(32,.sl (s.cols.map Col.cells)),(33,iv ((s.cols.map Col.cells).length:Nat)),(34,iv (i:Nat))] [.box q.cells,.box s.cells]
theorem zkw (q:Qy) (s:Sch) (hB:s.cols.length<=1000) (hl:zac s.cols) (i:Nat) (out:List Acc) (hi:i<=(s.cols).length) (hI:out=zae [] ((s.cols.take i).map fun c=>⟨q.frm,c.name,1⟩)/\out.length<=i):∃ (out':List Acc),(out'=zae [] ((s.cols.take (s.cols).length).map fun c=>⟨q.frm,c.name,1⟩)/\out'.length<=(s.cols).length)/\(decide ((((s.cols).length:Nat):Int) < (((s.cols.map Col.cells).length:Nat):Int))=false)/\∀ R,Good E0 B.Bx [] (L_stR q s (s.cols).length out') R->Good E0 B.Bx [] (L_stR q s i out) R:=by
 have hk:=hi;revert i out;refine zlp ((s.cols).length) (fun i hlt ih out hi hI _=>?_)
 obtain ⟨x,hx,h0,hw⟩:=zlq (l:=s.cols) ((s.cols.map Col.cells).length) hlt
 have hso:AccS out:=hI.1 ▸ zbQ.all _
 have ho:out.length<=300000000:=(by have:=hI.2;omega)
 exact Zih (ih (addK out (Acc.mk q.frm x.name 1)) Zo (by (refine ⟨by rw [hI.1,List.take_add_one,hx,Option.toList_some,List.map_append,List.map_cons,List.map_nil,zhO],?_⟩;have h8:=zlu out ⟨q.frm,x.name,1⟩;have h9:=hI.2;omega)) Zo) fun R gY=>zaa (wkl [sb h0,se (zai Col.cells hx rfl),sc (zbN out (Acc.mk q.frm x.name 1) (by first|assumption|omega|(simp;done)|(simp;omega)) (by first|assumption|omega|(simp;done)|(simp;omega))),si hw] [2,7,32,33,34] 2 kr gY)
def zcZ (m:List Tb) (q:Qy):List Acc:=bif !(zaf m q.frm).2 then [] else bif !q.star then [] else bif !(knS m q.frm).2 then [] else (zaf m q.frm).1.cols.map fun c=>⟨q.frm,c.name,1⟩
theorem star_1 {m:List Tb} {q:Qy} (h1:(!(zaf m q.frm).2)=true):[]=zae [] (zcZ m q):=by simp only [zcZ,h1,cond_true];rfl
theorem star_2 {m:List Tb} {q:Qy} (h1:(!(zaf m q.frm).2)=false) (h2:(!q.star)=true):[]=zae [] (zcZ m q):=by simp only [zcZ,h1,h2,cond_true,cond_false];rfl
theorem star_3 {m:List Tb} {q:Qy} (h1:(!(zaf m q.frm).2)=false) (h2:(!q.star)=false) (h3:(!(knS m q.frm).2)=true):[]=zae [] (zcZ m q):=by simp only [zcZ,h1,h2,h3,cond_true,cond_false];rfl
theorem star_4 {m:List Tb} {q:Qy} {r:List Acc} {k:Nat} (h1:(!(zaf m q.frm).2)=false) (h2:(!q.star)=false) (h3:(!(knS m q.frm).2)=false) (h:(r=zae [] (((zaf m q.frm).1.cols.take (zaf m q.frm).1.cols.length).map fun c=>⟨q.frm,c.name,1⟩))/\r.length<=k):r=zae [] (zcZ m q):=by
 rw [h.1,List.take_length]
 simp only [zcZ,h1,h2,h3,cond_false]
theorem zAG (m:List Tb) (q:Qy) (hm:zac m) (hc:∀ x∈m,zac x.sch.cols) (hl:(zaf m q.frm).1.cols.length<=1000) (hls:zac (zaf m q.frm).1.cols):∃ (r:List Acc),r=zae [] (zcZ m q)/\zab E0 S.Bx [q.av,tsl m] [] (.sl (r.map Acc.cells)) []:=by
 let p_1:List St:=[sc (zbe m q.frm zj4 zj4)]
 cases h1:!(zaf m q.frm).snd
 ·cases h2:!q.star
  ·let p_2:List St:=p_1++[sg h1,sg h2,sc (zgK m q.frm zj4 zj4)]
   cases h3:!(knS m q.frm).snd
   ·obtain ⟨out4,q4,q4_1,g4⟩:=zkw q ((zaf m q.frm).fst) zj4 zj4 0 ([]) zj4 zj4
    exact ⟨out4,zsJ,wkcN At.Bx (p_2++[sb h3,sqx True]) [2,7,32,33,34] 2 [(.fz 7,2)] kr (g4 _ (zaa (wkr [sb q4_1] kr)))⟩
   ·exact ⟨[],zsJ,wk At.Bx (p_2++[sb h3]) kr⟩
  ·exact ⟨[],zsJ,wk At.Bx (p_1++[sg h1,sb h2]) kr⟩
 ·exact ⟨[],zsJ,wk At.Bx (p_1++[sb h1]) kr⟩
theorem zk7 {p:Prop} (h:p:=by subst_vars;first|exact asR_y (m:=m) (n:=n) (tb:=tb) (s:=s) (x:=x) (fr:=fr) (b:=b) (by first|exact sq_1 ‹_›|exact sq_2 ‹_›|exact sq_3 ‹_›) ‹_›|exact asR_n (m:=m) (n:=n) (tb:=tb) (s:=s) (x:=x) (fr:=fr) (b:=b) (by first|exact sq_1 ‹_›|exact sq_2 ‹_›|exact sq_3 ‹_›) ‹_›):p:=h
theorem zch {p:Prop} (h:p:=by first|assumption|omega|(simp;done)|(simp;omega)):p:=h
def zhW (s:Sch):Col:=(s.cols.find? fun k=>k.key).getD zwn
theorem zzL (s:Sch) (h:decide ((0:Int)<=idxF (fun k=>k.key) s.cols 0)=true):ElAt (s.cols.map Col.cells) (idxF (fun k=>k.key) s.cols 0) (zhW s).cells 4:=by
 simp only [decide_eq_true_eq] at h
 rcases zkO (fun k=>k.key) s.cols 0 with ⟨h2,_⟩|⟨j,y,h2,h3,h4⟩
 ·omega
 ·have e:zhW s=y:=by unfold zhW;rw [h4];rfl
  rw [e,h2]
  have:((0+j:Nat):Int)=(j:Int):=by omega
  rw [this]
  exact zai Col.cells h3 rfl
def setR (c:Str) (b:List Tg):Bool:=b.any fun t=>hasR ((zbb t).map Se.col) c
theorem zny {l:List Tg} {c:Str} {y0 y y2 h r:Bool} {i:Nat} {x:Tg} (hI:y=(y0&&!setR c (l.take i))) (hx:l[i]?=some x) (hr:r=hasR ((zbb x).map Se.col) c) (hh:r=h) (ho:y2=bif h then false else y):y2=(y0&&!setR c (l.take (i+1))):=by
 subst hh;subst hr
 rw [ho,hI,List.take_add_one,hx]
 simp only [setR,Option.toList_some,List.any_append,List.any_cons,List.any_nil,Bool.or_false]
 cases hasR ((zbb x).map Se.col) c <;> cases y0 <;> simp
noncomputable def zr3 (x0:Se) (tb:Str) (s:Sch) (b:List Tg) (fr:List Fr) (m:List Tb) (md:Int) (y0:Bool) (i:Nat) (y:Bool):Cfg:=zan B.Ay 0 [(1,sv tb),(4,fsl fr),(5,tsl m),(6,.p 0 0),(14,iv md),(15,bv y),(42,.sl (b.map Tg.cells)),(43,iv ((b.map Tg.cells).length:Nat)),(44,iv (i:Nat))] [.box x0.cells,.box s.cells]
theorem zgS (x0:Se) (tb:Str) (s:Sch) (b:List Tg) (fr:List Fr) (m:List Tb) (md:Int) (y0:Bool) (hb:∀ t∈b,t.acts.length<=3/\∀ a∈t.acts,a.sets.length<=2) (hbs:∀ t∈b,zac ((zbb t).map Se.col)) (hl:zac b) (i:Nat) (y:Bool) (hi:i<=(b).length) (hI:y=(y0&&!setR x0.col (b.take i))):∃ (y':Bool),(y'=(y0&&!setR x0.col (b.take (b).length)))/\(decide ((((b).length:Nat):Int) < (((b.map Tg.cells).length:Nat):Int))=false)/\∀ R,Good E0 B.Ay [] (zr3 x0 tb s b fr m md y0 (b).length y') R->Good E0 B.Ay [] (zr3 x0 tb s b fr m md y0 i y) R:=by
 have hk:=hi;revert i y;refine zlp ((b).length) (fun i hlt ih y hi hI _=>?_)
 obtain ⟨x,hx,h0,hw⟩:=zlq (l:=b) ((b.map Tg.cells).length) hlt
 have hb1:=(hb x (List.mem_of_getElem? hx)).1;have hb2:=(hb x (List.mem_of_getElem? hx)).2;have hb3:=hbs x (List.mem_of_getElem? hx)
 obtain ⟨r1,q1,c1⟩:=(zop (List.map Se.col (zbb x)) x0.col zch)
 let p_1:List St:=[sb h0,se (zai Tg.cells hx rfl),sd [(1,[sc (zgJ x zch zch)]),(4,[sc c1])]]
 rcases (Bool.eq_false_or_eq_true r1).symm with h2|h2
 ·exact Zih (ih y Zo (by first|exact zny (h:=true) hI hx ‹_› ‹_› rfl|exact zny (h:=false) hI hx ‹_› ‹_› rfl) Zo) fun R gY=>zaa (wkl (p_1++[sb h2,si hw]) [1,4,5,6,14,15,42,43,44] 2 kr gY)
 ·exact Zih (ih false Zo (by first|exact zny (h:=true) hI hx ‹_› ‹_› rfl|exact zny (h:=false) hI hx ‹_› ‹_› rfl) Zo) fun R gY=>zaa (wklN (p_1++[sb h2,si hw]) [1,4,5,6,14,15,42,43,44] 2 [(.bl 15,2)] kr gY)
theorem zcL (x0:Se) (tb:Str) (s:Sch) (b:List Tg) (fr:List Fr) (m:List Tb) (md:Int) (y0:Bool) (hb:∀ t∈b,t.acts.length<=3/\∀ a∈t.acts,a.sets.length<=2) (hbs:∀ t∈b,zac ((zbb t).map Se.col)) (hl:zac b):∃ (y':Bool),y'=(y0&&!setR x0.col b)/\decide (((b.length:Nat):Int) < (((b.map Tg.cells).length:Nat):Int))=false/\∀ R,Good E0 B.Ay [] (zr3 x0 tb s b fr m md y0 b.length y') R->Good E0 B.Ay [] (zr3 x0 tb s b fr m md y0 0 y0) R:=by
 obtain ⟨k',h1,h2,h3⟩:=zgS x0 tb s b fr m md y0 hb hbs hl 0 y0 Zo (by simp [setR])
 exact ⟨k',by rw [h1,List.take_length],h2,h3⟩
def zf9 (tb:Str) (s:Sch) (x:Se):Bool:=bif (bif decide ((0:Int)<=idxF (fun k=>k.key) s.cols 0) then (zhW s).name.toList==x.col.toList else false) then false else (zbC x tb).2
def asgR (m:List Tb) (n:Nat) (tb:Str) (s:Sch) (x:Se) (fr:List Fr) (b:List Tg):List Acc:=bif zf9 tb s x&&!setR x.col b then [⟨tb,x.col,(zbC x tb).1⟩] else zas m n [x.ex] fr++[⟨tb,x.col,2⟩]
section
variable {m : List Tb} {n : Nat} {tb : Str} {s : Sch} {x : Se} {fr : List Fr} {b : List Tg} {y : Bool} {y0 : Bool}
theorem asR_y (h0:zf9 tb s x=y0) (h:(y0&&!setR x.col b)=true):[⟨tb,x.col,(zbC x tb).1⟩]=zae [] (asgR m n tb s x fr b):=by
 unfold asgR;rw [h0,h];rfl
theorem asR_n (h0:zf9 tb s x=y0) (h:(y0&&!setR x.col b)=false):addK (zae [] (zas m n [x.ex] fr)) ⟨tb,x.col,2⟩=zae [] (asgR m n tb s x fr b):=by
 unfold asgR;rw [h0,h,cond_false,zhO]
theorem sq_1 (h1:decide ((0:Int)<=idxF (fun k=>k.key) s.cols 0)=false):zf9 tb s x=(zbC x tb).2:=by simp only [zf9,h1,cond_false]
theorem sq_2 (h1:(bif decide ((0:Int)<=idxF (fun k=>k.key) s.cols 0) then (zhW s).name.toList==x.col.toList else false)=false):zf9 tb s x=(zbC x tb).2:=by simp only [zf9,h1,cond_false]
theorem sq_3 (h1:(bif decide ((0:Int)<=idxF (fun k=>k.key) s.cols 0) then (zhW s).name.toList==x.col.toList else false)=true):zf9 tb s x=false:=by simp only [zf9,h1,cond_true]
end
theorem zzr (m:List Tb) (n:Nat) (tb:Str) (s:Sch) (x:Se) (fr:List Fr) (b:List Tg) (hsc:zac s.cols) (hb:∀ t∈b,t.acts.length<=3/\∀ a∈t.acts,a.sets.length<=2) (hbs:∀ t∈b,zac ((zbb t).map Se.col)) (hl:zac b) (hex:zab E0 S.AW [x.ex.av,fsl fr,tsl m] [] (.sl ((zae [] (zas m n [x.ex] fr)).map Acc.cells)) []) (hs:AccS (zae [] (zas m n [x.ex] fr))) (hB:(zae [] (zas m n [x.ex] fr)).length<=300000000):∃ (r:List Acc),r=zae [] (asgR m n tb s x fr b)/\zab E0 S.Ay [.agg x.cells,sv tb,s.av,.sl (b.map Tg.cells),fsl fr,tsl m] [] (.sl (r.map Acc.cells)) []:=by
 let p_1:List St:=[sc (zoI s zch),sc (ztH x.col x.ex tb)]
 cases h1:decide (0<=idxF (fun c=>c.key) s.cols 0)
 ·obtain ⟨y2,q2,q2_1,g2⟩:=zcL x tb s b fr m ((zbC x tb).fst) ((zbC x tb).snd) zch zch zch
  let p_2:List St:=p_1++[sd [(3,[sb h1]),(4,[sb h1]),(5,[sb h1]),(6,[sb h1]),(7,[sb h1]),(8,[sb h1]),(9,[sb h1]),(10,[sb h1]),(11,[sb h1]),(12,[sb h1])]]
  rcases (Bool.eq_false_or_eq_true y2).symm with h3|h3
  ·exact ⟨addK (zae [] (zas m n [x.ex] fr)) (Acc.mk tb x.col 2),zk7,wkc At.Ay p_2 [1,4,5,6,14,15,42,43,44] 2 kr (g2 _ (zaa (wkrS (y:=ZK (addK (zae [] (zas m n [x.ex] fr)) (Acc.mk tb x.col 2))) (H:=[]) [sb q2_1,sb h3,sd [(4,[sc hex]),(9,[sc (zbN (zae [] (zas m n [x.ex] fr)) (Acc.mk tb x.col 2) zch zch)])]] kr ⟨Zcv8,Zcv8⟩)))⟩
  ·exact ⟨[Acc.mk tb x.col (zbC x tb).fst],zk7,wkc At.Ay p_2 [1,4,5,6,14,15,42,43,44] 2 kr (g2 _ (zaa (wkrS (y:=AV.sl [[sv tb,sv x.col,iv (zbC x tb).fst]]) (H:=[]) [sb q2_1,sb h3] kr ⟨Zcv8,Zcv8⟩)))⟩
 ·let p_3:List St:=p_1++[sd [(3,[sg h1]),(4,[sg h1]),(5,[sg h1]),(6,[so h1 (se (zzL s zch))]),(7,[sg h1]),(8,[sg h1]),(9,[sg h1]),(10,[sg h1]),(11,[sg h1])]]
  cases h4:bif decide (0<=idxF (fun c=>c.key) s.cols 0) then ByteArray.toList (zhW s).name==ByteArray.toList x.col else false
  ·obtain ⟨y5,q5,q5_1,g5⟩:=zcL x tb s b fr m ((zbC x tb).fst) ((zbC x tb).snd) zch zch zch
   rcases (Bool.eq_false_or_eq_true y5).symm with h6|h6
   ·exact ⟨addK (zae [] (zas m n [x.ex] fr)) (Acc.mk tb x.col 2),zk7,wkc At.Ay (p_3++[sb h4]) [1,4,5,6,14,15,42,43,44] 2 kr (g5 _ (zaa (wkrS (y:=ZK (addK (zae [] (zas m n [x.ex] fr)) (Acc.mk tb x.col 2))) (H:=[]) [sb q5_1,sb h6,sd [(4,[sc hex]),(9,[sc (zbN (zae [] (zas m n [x.ex] fr)) (Acc.mk tb x.col 2) zch zch)])]] kr ⟨Zcv8,Zcv8⟩)))⟩
   ·exact ⟨[Acc.mk tb x.col (zbC x tb).fst],zk7,wkc At.Ay (p_3++[sb h4]) [1,4,5,6,14,15,42,43,44] 2 kr (g5 _ (zaa (wkrS (y:=AV.sl [[sv tb,sv x.col,iv (zbC x tb).fst]]) (H:=[]) [sb q5_1,sb h6] kr ⟨Zcv8,Zcv8⟩)))⟩
  ·obtain ⟨y7,q7,q7_1,g7⟩:=zcL x tb s b fr m ((zbC x tb).fst) false zch zch zch
   rcases (Bool.eq_false_or_eq_true y7).symm with h8|h8
   ·exact ⟨addK (zae [] (zas m n [x.ex] fr)) (Acc.mk tb x.col 2),zk7,wkcN At.Ay (p_3++[sb h4]) [1,4,5,6,14,15,42,43,44] 2 [(.bl 15,2)] kr (g7 _ (zaa (wkrS (y:=ZK (addK (zae [] (zas m n [x.ex] fr)) (Acc.mk tb x.col 2))) (H:=[]) [sb q7_1,sb h8,sd [(4,[sc hex]),(9,[sc (zbN (zae [] (zas m n [x.ex] fr)) (Acc.mk tb x.col 2) zch zch)])]] kr ⟨Zcv8,Zcv8⟩)))⟩
   ·exact ⟨[Acc.mk tb x.col (zbC x tb).fst],zk7,wkcN At.Ay (p_3++[sb h4]) [1,4,5,6,14,15,42,43,44] 2 [(.bl 15,2)] kr (g7 _ (zaa (wkrS (y:=AV.sl [[sv tb,sv x.col,iv (zbC x tb).fst]]) (H:=[]) [sb q7_1,sb h8] kr ⟨Zcv8,Zcv8⟩)))⟩
theorem zcz {p:Prop} (h:p:=by first|assumption|exact FmI.start (zyy ‹_›) Zs|exact FmI.start (zyz ‹_› ‹_›) Zs|exact FmI.start (zyA ‹_› ‹_›) Zs|exact FmI.second ‹_› ha|omega|(simp;done)):p:=h
theorem zuE (e:X) (q:Str) (f:X->List Str) (ha:Thin 3 e.args) (hr:∀ x∈e.args,NamC q f x) (hu:Thin 1 e.sub) (hq:∀ y∈e.sub,(Thin 8 y.items/\Thin 1 y.wh)/\(∀ x∈y.items,NamC q f x)/\∀ x∈y.wh,NamC q f x):∃ (r:List Str),r=preQ e q f++e.sub.flatMap (subN f)/\zab E0 S.AL [e.av,sv q] [] (.own 1 r.length) [.box e.cells,.row Ty.string (r.map fun s=>[sv s]) false]:=by
 cases h1:e.kind==2
 ·obtain ⟨out2,q2,q2_1,g2⟩:=zbE e q f zcz hr 0 ([]) zcz zcz
  obtain ⟨out3,q3,q3_1,g3⟩:=zbF e q f zcz hq 0 out2 zcz zcz
  exact ⟨out3,(by exact FmI.third ‹_› hu),zsR At.AL [sb h1] [1,2,5,27,28,29] 1 [(.ot 5 Ty.string,2)] kr (g2 _ (zaa (wkl [sb q2_1] [1,5,40,41,42] 2 kr (g3 _ (zaa (wkrK [sb q3_1] kr))))))⟩
 ·cases h4:ByteArray.toList e.table==ByteArray.toList q
  ·obtain ⟨out5,q5,q5_1,g5⟩:=zbE e q f zcz hr 0 ([]) zcz zcz
   obtain ⟨out6,q6,q6_1,g6⟩:=zbF e q f zcz hq 0 out5 zcz zcz
   exact ⟨out6,(by exact FmI.third ‹_› hu),zsR At.AL [sg h1,sb h4] [1,2,5,27,28,29] 1 [(.ot 5 Ty.string,2)] kr (g5 _ (zaa (wkl [sb q5_1] [1,5,40,41,42] 2 kr (g6 _ (zaa (wkrK [sb q6_1] kr))))))⟩
  ·obtain ⟨out7,q7,q7_1,g7⟩:=zbE e q f zcz hr 0 ([e.name]) zcz zcz
   obtain ⟨out8,q8,q8_1,g8⟩:=zbF e q f zcz hq 0 out7 zcz zcz
   exact ⟨out8,(by exact FmI.third ‹_› hu),wkcK At.AL [sg h1,sb h4,sqx (AllLen [[sv e.name]] 1/\Nat.le 16 140737488355328)] [1,2,5,27,28,29] 2 kr (g7 _ (zaa (wkl [sb q7_1] [1,5,40,41,42] 2 kr (g8 _ (zaa (wkrK [sb q8_1] kr))))))⟩
theorem zyr:∀ (n:Nat) (e:X) (q:Str),n<=7->XOk n e->zab E0 S.AL [e.av,sv q] [] (.own 1 (zaq q n e).length) [.box e.cells,.row Ty.string ((zaq q n e).map fun s=>[sv s]) false]
 | 0,_,_,_,h=>h.elim
 | n+1,e,q,hn,h=>by
  obtain ⟨_,hl,ha,hs⟩:=h
  obtain ⟨r,hr,hc⟩:=zuE e q (zaq q n) hl.1 (fun x hx=>namC n x q Zo (ha x hx)) hl.2 fun y hy=>⟨(hs y hy).1,fun x hx=>namC n x q Zo ((hs y hy).2.1 x hx),fun x hx=>namC n x q Zo ((hs y hy).2.2 x hx)⟩
  have:r=zaq q (n+1) e:=by
   rw [hr]
   simp only [zaq,preQ,preN,zvI,List.append_assoc]
  rw [← this]
  exact hc
def hcA (s:Sch) (tb:Str) (c:Str):List Acc:=bif decide ((0:Int)<=idxF (fun k=>colC k c) s.cols 0) then [⟨tb,c,1⟩] else []
theorem zvp (s:Sch) (tb c:Str):(hcA s tb c).length<=1:=by unfold hcA;cases decide ((0:Int)<=idxF (fun k=>colC k c) s.cols 0) <;> simp
theorem znL {l:List Str} {s:Sch} {tb:Str} {k0 out o2:List Acc} {i:Nat} {x:Str} (hI:out=zae k0 ((l.take i).flatMap (hcA s tb))/\out.length<=k0.length+i) (hx:l[i]?=some x) {d:Bool} (hd:decide ((0:Int)<=idxF (fun k=>colC k x) s.cols 0)=d) (ho:o2=bif d then addK out ⟨tb,x,1⟩ else out):o2=zae k0 ((l.take (i+1)).flatMap (hcA s tb))/\o2.length<=k0.length+(i+1):=by
 subst hd
 have h1:o2=zae out (hcA s tb x):=by
  rw [ho];unfold hcA
  cases decide ((0:Int)<=idxF (fun k=>colC k x) s.cols 0) <;> rfl
 refine ⟨?_,?_⟩
 ·rw [h1,hI.1,← zaP,List.take_add_one,hx];simp
 ·have h2:=za4 (hcA s tb x) out
  have h3:=zvp s tb x
  have h4:=hI.2
  rw [h1];omega
noncomputable def zr4 (m:List Tb) (t:Tg) (a:Ac) (s:Sch) (fr:List Fr) (es:List X) (io:Nat) (e:X) (cs:List Str) (k0:List Acc) (i:Nat) (out:List Acc):Cfg:=zan B.AF 1 [(3,tsl m),(4,.p 0 0),(5,.p 1 0),(6,.p 2 0),(9,.sl (out.map Acc.cells)),(10,fsl fr),(21,xsl es),(22,iv ((zad es).length:Nat)),(23,iv (io:Nat)),(40,.own 5 cs.length),(41,iv ((cs.map fun s=>[sv s]).length:Nat)),(42,iv (i:Nat))] [.box t.cells,.box a.cells,.box s.cells,.box e.cells,.box e.cells,.row Ty.string (cs.map fun s=>[sv s]) false]
theorem zi8 (m:List Tb) (t:Tg) (a:Ac) (s:Sch) (fr:List Fr) (es:List X) (io:Nat) (e:X) (cs:List Str) (k0:List Acc) (hks:AccS k0) (hB:k0.length+cs.length<=300000000) (hsc:zac s.cols) (hcl:cs.length<=100000000) (i:Nat) (out:List Acc) (hi:i<=(cs).length) (hI:out=zae k0 ((cs.take i).flatMap (hcA s a.table))/\out.length<=k0.length+i):∃ (out':List Acc),(out'=zae k0 ((cs.take (cs).length).flatMap (hcA s a.table))/\out'.length<=k0.length+(cs).length)/\(decide ((((cs).length:Nat):Int) < (((cs.map fun s=>[sv s]).length:Nat):Int))=false)/\∀ R,Good E0 B.AF [] (zr4 m t a s fr es io e cs k0 (cs).length out') R->Good E0 B.AF [] (zr4 m t a s fr es io e cs k0 i out) R:=by
 have hk:=hi;revert i out;refine zlp ((cs).length) (fun i hlt ih out hi hI _=>?_)
 obtain ⟨x,hx,h0,hw⟩:=zlq (l:=cs) ((cs.map fun s=>[sv s]).length) hlt
 have hso:AccS out:=hI.1 ▸ hks.all _
 have hro:out.length<=300000000:=(by have:=hI.2;omega)
 let p_1:List St:=[sb h0,sqx (OwnAt (List.map (fun s=>[sv s]) cs) cs.length (i:Int)),sx (.el ([sv x])) (zjX (fun s=>[sv s]) (n:=cs.length) Zs hx),sc (zuQ s x (by first|assumption|omega|(simp;done)|(simp;omega)))]
 cases h1:decide (0<=idxF (fun c=>colC c x) s.cols 0)
 ·exact Zih (ih out Zo (by first|exact znL (d:=true) hI hx ‹_› rfl|exact znL (d:=false) hI hx ‹_› rfl) Zo) fun R gY=>zaa (wkl (p_1++[sb h1,si hw]) [3,4,5,6,9,10,21,22,23,40,41,42] 6 kr gY)
 ·exact Zih (ih (addK out (Acc.mk a.table x 1)) Zo (by first|exact znL (d:=true) hI hx ‹_› rfl|exact znL (d:=false) hI hx ‹_› rfl) Zo) fun R gY=>zaa (wkl (p_1++[sb h1,sc (zbN out (Acc.mk a.table x 1) (by first|assumption|omega|(simp;done)|(simp;omega)) (by first|assumption|omega|(simp;done)|(simp;omega))),si hw]) [3,4,5,6,9,10,21,22,23,40,41,42] 6 kr gY)
theorem zk8 {p:Prop} (h:p:=by first|assumption|omega|(simp;done)|(simp;omega)):p:=h
theorem zjE (m:List Tb) (t:Tg) (a:Ac) (s:Sch) (fr:List Fr) (es:List X) (io:Nat) (e:X) (cs:List Str) (hsc:zac s.cols) (hcl:cs.length<=100000000) (ks:List Acc) (hks:AccS ks) (hB:ks.length+cs.length<=300000000):∃ ks':List Acc,ks'=zae ks (cs.flatMap (hcA s a.table))/\decide (((cs.length:Nat):Int) < (((cs.map fun s=>[sv s]).length:Nat):Int))=false/\∀ R,Good E0 B.AF [] (zr4 m t a s fr es io e cs ks cs.length ks') R->Good E0 B.AF [] (zr4 m t a s fr es io e cs ks 0 ks) R:=by
 obtain ⟨k',h1,h2,h3⟩:=zi8 m t a s fr es io e cs ks hks hB hsc hcl 0 ks Zo ⟨by simp [zae],by omega⟩
 exact ⟨k',by rw [h1.1,List.take_length],h2,h3⟩
def hdE (m:List Tb) (n:Nat) (s:Sch) (tb:Str) (fr:List Fr) (k1:Bool) (e:X):List Acc:=zas m n [e] fr++bif k1 then [] else (zaq qOLD n e++zaq qNEW n e).flatMap (hcA s tb)
theorem ztA {α:Type} {l:List α} {f:α->List Acc} {out:List Acc} {i:Nat} (hI:out=zae [] ((l.take i).flatMap f)):AccS out:=hI ▸ zbQ.all _
theorem znM {m:List Tb} {n:Nat} {s:Sch} {tb:Str} {fr:List Fr} {k1:Bool} {e:X} (hn:n<=6) (h:XOk n e):(zas m n [e] fr).length<=600000/\(zaq qOLD n e++zaq qNEW n e).length<=600000/\(hdE m n s tb fr k1 e).length<=1200000:=by
 have h1:=zde m fr h
 have h2:=zhM hn
 have h3:=zeq qOLD n e h
 have h4:=zeq qNEW n e h
 have h5:=zsw hn
 have h6:(zaq qOLD n e++zaq qNEW n e).length<=600000:=by rw [List.length_append];omega
 have h7:=zaz (l:=zaq qOLD n e++zaq qNEW n e) (f:=hcA s tb) (C:=1) fun c _=>zvp s tb c
 refine ⟨by omega,h6,?_⟩
 unfold hdE
 cases k1 <;> simp only [cond_true,cond_false,List.length_append,List.length_nil] at * <;> omega
theorem zAY {m:List Tb} {n:Nat} {s:Sch} {tb:Str} {fr:List Fr} {k1:Bool} {es:List X} {out:List Acc} {i:Nat} {x:X} (hn:n<=6) (hI:out=zae [] ((es.take i).flatMap (hdE m n s tb fr k1))) (hx:es[i]?=some x) (he:∀ x∈es,XOk n x) (hl:es.length<=7):out.length<=10000000:=by
 have h0:=zfM hx
 have h1:=zsV hI (C:=1200000) (fun x hx=>(znM hn (he x hx)).2.2) Zo
 have h2:=Nat.mul_le_mul_right 1200000 (show i<=7 by omega)
 simp only [List.length_nil] at h1
 omega
theorem zvq {m:List Tb} {n:Nat} {s:Sch} {tb:Str} {fr:List Fr} {k1:Bool} {es:List X} {out o1 o2:List Acc} {i:Nat} {x:X} (hI:out=zae [] ((es.take i).flatMap (hdE m n s tb fr k1))) (hx:es[i]?=some x) (h1:o1=zae out (zae [] (zas m n [x] fr))) (h2:o2=zae o1 (bif k1 then [] else (zaq qOLD n x++zaq qNEW n x).flatMap (hcA s tb))):o2=zae [] ((es.take (i+1)).flatMap (hdE m n s tb fr k1)):=by
 rw [h2,h1,zhP (ztA hI),← zaP,hI,← zaP,List.take_add_one,hx]
 simp [hdE]
theorem hd_s1 {m:List Tb} {n:Nat} {s:Sch} {tb:Str} {fr:List Fr} {k1 b:Bool} {es:List X} {out:List Acc} {i:Nat} {x:X} (hI:out=zae [] ((es.take i).flatMap (hdE m n s tb fr k1))) (hx:es[i]?=some x) (hk:b=k1) (hb:b=true):zae out (zae [] (zas m n [x] fr))=zae [] ((es.take (i+1)).flatMap (hdE m n s tb fr k1)) :=
 zvq hI hx rfl (by rw [← hk,hb];rfl)
theorem hd_s2 {m:List Tb} {n:Nat} {s:Sch} {tb:Str} {fr:List Fr} {k1 b:Bool} {es:List X} {out o2:List Acc} {i:Nat} {x:X} (hI:out=zae [] ((es.take i).flatMap (hdE m n s tb fr k1))) (hx:es[i]?=some x) (hk:b=k1) (hb:b=false) (h2:o2=zae (zae out (zae [] (zas m n [x] fr))) ((zaq qOLD n x++zaq qNEW n x).flatMap (hcA s tb))):o2=zae [] ((es.take (i+1)).flatMap (hdE m n s tb fr k1)) :=
 zvq hI hx rfl (by rw [h2,← hk,hb];rfl)
noncomputable def L_hdO (m:List Tb) (n:Nat) (t:Tg) (a:Ac) (s:Sch) (fr:List Fr) (es:List X) (k1:Bool) (i:Nat) (out:List Acc):Cfg:=zan B.AF 0 [(3,tsl m),(4,.p 0 0),(5,.p 1 0),(6,.p 2 0),(9,.sl (out.map Acc.cells)),(10,fsl fr),(21,xsl es),(22,iv ((zad es).length:Nat)),(23,iv (i:Nat))] [.box t.cells,.box a.cells,.box s.cells]
theorem Zcv12 {p:Prop} (h:p:=by first|rfl|(simp;done)|(simp [Tg.cells,Ac.cells,Sch.cells,X.cells];done)):p:=h
theorem zi9 (m:List Tb) (n:Nat) (t:Tg) (a:Ac) (s:Sch) (fr:List Fr) (es:List X) (k1:Bool) (hk1:(a.kind==1)=k1) (hn:n<=6) (he:∀ x∈es,XOk n x) (hl:es.length<=7) (hsc:zac s.cols) (hr:∀ x∈es,RxC m x fr (zas m n [x] fr)) (i:Nat) (out:List Acc) (hi:i<=(es).length) (hI:out=zae [] ((es.take i).flatMap (hdE m n s a.table fr k1))):∃ (out':List Acc),(out'=zae [] ((es.take (es).length).flatMap (hdE m n s a.table fr k1)))/\(decide ((((es).length:Nat):Int) < (((zad es).length:Nat):Int))=false)/\∀ R,Good E0 B.AF [] (L_hdO m n t a s fr es k1 (es).length out') R->Good E0 B.AF [] (L_hdO m n t a s fr es k1 i out) R:=by
 have hk:=hi;revert i out;refine zlp ((es).length) (fun i hlt ih out hi hI _=>?_)
 obtain ⟨x,hx,h0,hw⟩:=zlq (l:=es) ((zad es).length) hlt
 have hx9:=he x (List.mem_of_getElem? hx);have hso:=ztA hI;have hso2:AccS (zae out (zae [] (zas m n [x] fr))):=hso.all _;have hl9:=zAY hn hI hx he hl;have hq9:=znM (m:=m) (s:=s) (tb:=a.table) (fr:=fr) (k1:=k1) hn hx9;have hz1:=za4 (zas m n [x] fr) [];have hz2:=za4 (zae [] (zas m n [x] fr)) out;have hro:out.length+(zae [] (zas m n [x] fr)).length<=300000000:=(by simp only [List.length_nil] at hz1;omega);have hro2:(zae out (zae [] (zas m n [x] fr))).length+(zaq qOLD n x++zaq qNEW n x).length<=300000000:=(by simp only [List.length_nil] at hz1;omega);have hcl:(zaq qOLD n x++zaq qNEW n x).length<=100000000:=Zo;have hfx:=hr x (List.mem_of_getElem? hx);have hno:=zyr n x qOLD Zo hx9;have hnn:=(namC n x qNEW Zo hx9).1;have hz3:=hq9.2.1;have hlo:(zaq qOLD n x).length<=600000:=(by rw [List.length_append] at hz3;omega);have hln:(zaq qNEW n x).length<=600000:=(by rw [List.length_append] at hz3;omega)
 let p_1:List St:=[sb h0,se (zak hx),sc hfx,sc (zbz out (zae [] (zas m n [x] fr)) zk8 zk8)]
 cases h1:a.kind==1
 ·obtain ⟨ks2,q2,q2_1,g2⟩:=zjE m t a s fr es i x (zaq qOLD n x++zaq qNEW n x) zk8 zk8 (zae out (zae [] (zas m n [x] fr))) zk8 zk8
  exact Zih (ih ks2 Zo (by first|exact hd_s1 hI hx hk1 ‹_›|exact hd_s2 hI hx hk1 ‹_› ‹_›) Zo) fun R gY=>zaa (wkl (p_1++[sb h1,sd [(1,[sc hno]),(3,[sc hnn]),(4,[sqx (AllLen (List.map (fun s=>[sv s]) (zaq qNEW n x)) 1/\(zaq qOLD n x).length=(List.map (fun s=>[sv s]) (zaq qOLD n x)).length/\(((List.map (fun s=>[sv s]) (zaq qOLD n x)).length+(List.map (fun s=>[sv s]) (zaq qNEW n x)).length) * 16).le 140737488355328)]),(5,[sqx ((List.map (fun s=>[sv s]) (zaq qOLD n x)++List.map (fun s=>[sv s]) (zaq qNEW n x)).length=(List.map (fun s=>[sv s]) (zaq qOLD n x)++List.map (fun s=>[sv s]) (zaq qNEW n x)).length)])]]) [3,4,5,6,9,10,21,22,23,40,41,42] 6 kr (zaR (show ([(3,tsl m),(4,AV.p 0 0),(5,AV.p 1 0),(6,AV.p 2 0),(9,ZK (zae out (zae [] (zas m n [x] fr)))),(10,fsl fr),(21,AV.sl (zad es)),(22,iv (↑(zad es).length:Int)),(23,iv (i:Int)),(40,AV.own 5 (List.map (fun s=>[sv s]) (zaq qOLD n x)++List.map (fun s=>[sv s]) (zaq qNEW n x)).length),(41,iv (↑(List.map (fun s=>[sv s]) (zaq qOLD n x)++List.map (fun s=>[sv s]) (zaq qNEW n x)).length:Int)),(42,iv 0)]:TS)=_ from Zcv12) (show ([Blk.box t.cells,Blk.box [iv a.kind,sv a.table,AV.sl (List.map (fun r=>[AV.sl (zad r)]) a.rows),AV.sl (zal a.query),ZE a.sets,AV.sl (zad a.wh),sv a.text],Blk.box s.cells,Blk.box x.cells,Blk.box x.cells,Blk.row Ty.string (List.map (fun s=>[sv s]) (zaq qOLD n x)++List.map (fun s=>[sv s]) (zaq qNEW n x)) false]:Heap)=_ from Zcv12) (g2 _ (zaa (wkl [sb q2_1,si hw] [3,4,5,6,9,10,21,22,23] 3 kr gY)))))
 ·exact Zih (ih (zae out (zae [] (zas m n [x] fr))) Zo (by first|exact hd_s1 hI hx hk1 ‹_›|exact hd_s2 hI hx hk1 ‹_› ‹_›) Zo) fun R gY=>zaa (wkl (p_1++[sb h1,si hw]) [3,4,5,6,9,10,21,22,23] 3 kr gY)
theorem zcJ {p:Prop} (h:p:=by first|assumption|exact ztA ‹_›|exact zAZ hn ‹_› he hl|rfl|omega|(simp [zae];done)|(simp [zac];done)):p:=h
theorem zp8 {p:Prop} (h:p:=by first|assumption|exact Eq.trans (Eq.symm hk2) ‹_›):p:=h
theorem zA0 {l:List Str} {tb:Str} {k0 out:List Acc} {i:Nat} {x:Str} (hI:(out=zae k0 ((l.take i).map fun c=>⟨tb,c,2⟩))/\out.length<=k0.length+i) (hx:l[i]?=some x):(addK out ⟨tb,x,2⟩=zae k0 ((l.take (i+1)).map fun c=>⟨tb,c,2⟩))/\(addK out ⟨tb,x,2⟩).length<=k0.length+(i+1):=by
 have h1:=zlu out ⟨tb,x,2⟩
 have h2:=hI.2
 refine ⟨?_,by omega⟩
 rw [hI.1,List.take_add_one,hx,Option.toList_some,List.map_append,List.map_cons,List.map_nil,zhO]
noncomputable def zr5 (t:Tg) (a:Ac) (l:List Str) (k0:List Acc) (i:Nat) (out:List Acc):Cfg:=zan B.AF 2 [(5,.p 1 0),(9,.sl (out.map Acc.cells)),(62,ssl l),(63,iv ((l.map fun s=>[sv s]).length:Nat)),(64,iv (i:Nat))] [.box t.cells,.box a.cells]
theorem zja (t:Tg) (a:Ac) (l:List Str) (k0:List Acc) (hks:AccS k0) (hB:k0.length<=200000000) (hl:l.length<=6) (i:Nat) (out:List Acc) (hi:i<=(l).length) (hI:(out=zae k0 ((l.take i).map fun c=>⟨a.table,c,2⟩))/\out.length<=k0.length+i):∃ (out':List Acc),((out'=zae k0 ((l.take (l).length).map fun c=>⟨a.table,c,2⟩))/\out'.length<=k0.length+(l).length)/\(decide ((((l).length:Nat):Int) < (((l.map fun s=>[sv s]).length:Nat):Int))=false)/\∀ R,Good E0 B.AF [] (zr5 t a l k0 (l).length out') R->Good E0 B.AF [] (zr5 t a l k0 i out) R:=by
 have hk:=hi;revert i out;refine zlp ((l).length) (fun i hlt ih out hi hI _=>?_)
 obtain ⟨x,hx,h0,hw⟩:=zlq (l:=l) ((l.map fun s=>[sv s]).length) hlt
 have hso:AccS out:=hI.1 ▸ hks.all _
 have hro:out.length<=300000000:=(by have:=hI.2;omega)
 exact Zih (ih (addK out (Acc.mk a.table x 2)) Zo (by exact zA0 hI hx) Zo) fun R gY=>zaa (wkl [sb h0,se (zai (fun s=>[sv s]) hx rfl),sc (zbN out (Acc.mk a.table x 2) (by first|assumption|omega|(simp;done)|(simp;omega)) (by first|assumption|omega|(simp;done)|(simp;omega))),si hw] [5,9,62,63,64] 2 kr gY)
theorem zjF (t:Tg) (a:Ac) (l:List Str) (hl:l.length<=6) (ks:List Acc) (hks:AccS ks) (hB:ks.length<=200000000):∃ ks':List Acc,(ks'=zae ks (l.map fun c=>⟨a.table,c,2⟩))/\decide (((l.length:Nat):Int) < (((l.map fun s=>[sv s]).length:Nat):Int))=false/\∀ R,Good E0 B.AF [] (zr5 t a l ks l.length ks') R->Good E0 B.AF [] (zr5 t a l ks 0 ks) R:=by
 obtain ⟨k',h1,h2,h3⟩:=zja t a l ks hks hB hl 0 ks Zo ⟨by simp [zae],by omega⟩
 exact ⟨k',by rw [h1.1,List.take_length],h2,h3⟩
def hidR (m:List Tb) (n:Nat) (t:Tg) (a:Ac) (s:Sch):List Acc:=(zbp t).flatMap (hdE m n s a.table (zaJ t s [] []) (a.kind==1))++bif a.kind==2 then ((zbb t).map Se.col).map (fun c=>⟨a.table,c,2⟩) else []
theorem zAZ {m:List Tb} {n:Nat} {s:Sch} {tb:Str} {fr:List Fr} {k1:Bool} {es:List X} {out:List Acc} (hn:n<=6) (hI:out=zae [] ((es.take es.length).flatMap (hdE m n s tb fr k1))) (he:∀ x∈es,XOk n x) (hl:es.length<=7):out.length<=200000000:=by
 have h1:=zsV hI (C:=1200000) (fun x hx=>(znM hn (he x hx)).2.2) (Nat.le_refl _)
 have h2:=Nat.mul_le_mul_right 1200000 hl
 simp only [List.length_nil] at h1
 omega
theorem hid_1 {m:List Tb} {n:Nat} {t:Tg} {a:Ac} {s:Sch} {out:List Acc} {k1 b:Bool} (hk1:(a.kind==1)=k1) (h2:(a.kind==2)=b) (hb:b=false) (hI:out=zae [] (((zbp t).take (zbp t).length).flatMap (hdE m n s a.table (zaJ t s [] []) k1))):out=zae [] (hidR m n t a s):=by
 rw [hI,List.take_length,hidR,hk1,h2,hb,cond_false,List.append_nil]
theorem hid_2 {m:List Tb} {n:Nat} {t:Tg} {a:Ac} {s:Sch} {out o2:List Acc} {k1 b:Bool} (hk1:(a.kind==1)=k1) (h2:(a.kind==2)=b) (hb:b=true) (hI:out=zae [] (((zbp t).take (zbp t).length).flatMap (hdE m n s a.table (zaJ t s [] []) k1))) (ho:o2=zae out (((zbb t).map Se.col).map fun c=>⟨a.table,c,2⟩)):o2=zae [] (hidR m n t a s):=by
 rw [ho,hI,List.take_length,hidR,hk1,h2,hb,cond_true,zaP]
theorem c_hidR (m:List Tb) (n:Nat) (t:Tg) (a:Ac) (s:Sch) (k1 b2:Bool) (hk1:(a.kind==1)=k1) (hk2:(a.kind==2)=b2) (hn:n<=6) (he:∀ x∈zbp t,XOk n x) (hl:(zbp t).length<=7) (hsc:zac s.cols) (hr:∀ x∈zbp t,RxC m x (zaJ t s [] []) (zas m n [x] (zaJ t s [] []))) (hw:t.when_.length<=1) (ha:t.acts.length<=3) (hs:∀ a∈t.acts,a.sets.length<=2) (hsl:((zbb t).map Se.col).length<=6):∃ (r:List Acc),r=zae [] (hidR m n t a s)/\zab E0 S.AF [t.av,a.av,s.av,tsl m] [] (.sl (r.map Acc.cells)) []:=by
 obtain ⟨out1,q1,q1_1,g1⟩:=zi9 m n t a s (zaJ t s [] []) (zbp t) k1 hk1 hn zcJ zcJ zcJ zcJ 0 ([]) zcJ zcJ
 let p_1:List St:=[sc (zdz t s ([]) ([]) zcJ zcJ zcJ),sc (ziB t zcJ zcJ zcJ),sqx True]
 cases h2:a.kind==2
 ·exact ⟨out1,(by first|exact hid_1 hk1 hk2 zp8 ‹_›|exact hid_2 hk1 hk2 zp8 ‹_› ‹_›),wkcN At.AF p_1 [3,4,5,6,9,10,21,22,23] 3 [(.fz 9,3)] kr (g1 _ (zaa (wkr [sb q1_1,sb h2] kr)))⟩
 ·obtain ⟨ks3,q3,q3_1,g3⟩:=zjF t a (List.map Se.col (zbb t)) zcJ out1 zcJ zcJ
  exact ⟨ks3,(by first|exact hid_1 hk1 hk2 zp8 ‹_›|exact hid_2 hk1 hk2 zp8 ‹_› ‹_›),wkcN At.AF p_1 [3,4,5,6,9,10,21,22,23] 3 [(.fz 9,3)] kr (g1 _ (zaa (wkl [sb q1_1,sb h2,sc (zgJ t zcJ zcJ)] [5,9,62,63,64] 2 kr (g3 _ (zaa (wkr [sb q3_1] kr))))))⟩
theorem zc4 {p:Prop} (h:p:=by first|assumption|omega|(simp;done)):p:=h
theorem zk9 {p:Prop} (h:p:=by first|omega|(simp only [zac,Few] at *;omega)):p:=h
section
variable {α : Type} {l : List α} {f : α -> List Acc} {k0 k1 k2 k3 out : List Acc} {N i : Nat} {x : α}
theorem zqx (hI:out=zae k0 ((l.take i).flatMap f)) (hx:l[i]?=some x) (hB:k0.length+(l.flatMap f).length<=N):out.length+(f x).length<=N:=by
 have h1:l=l.take (i+1)++l.drop (i+1):=(List.take_append_drop _ _).symm
 have h2:(l.flatMap f).length=((l.take (i+1)).flatMap f).length+((l.drop (i+1)).flatMap f).length:=by
  conv=>lhs;rw [h1]
  rw [List.flatMap_append,List.length_append]
 have h3:((l.take (i+1)).flatMap f).length=((l.take i).flatMap f).length+(f x).length:=by
  rw [List.take_add_one,hx];simp
 have h4:=za4 ((l.take i).flatMap f) k0
 rw [hI]
 omega
theorem zgx (hI:out=zae k0 ((l.take i).flatMap f)) (hx:l[i]?=some x) (hB:k0.length+(l.flatMap f).length<=N):out.length+(zae [] (f x)).length<=N:=by
 have h1:=zqx hI hx hB
 have h2:=za4 (f x) []
 simp only [List.length_nil] at h2
 omega
end
noncomputable def zrU (t:Tg) (a:Ac) (own s:Sch) (ts:List Tg) (m M:List Tb) (fr inn:List Fr) (io:Nat) (r:List X) (f:X->List Acc) (k0:List Acc) (i:Nat) (out:List Acc):Cfg:=zan B.Am 1 [(2,.sl (ts.map Tg.cells)),(3,tsl m),(5,.p 1 0),(11,fsl fr),(12,tsl M),(13,.p 3 0),(15,fsl inn),(16,.sl (out.map Acc.cells)),(66,.sl (a.rows.map zaA)),(67,iv ((a.rows.map zaA).length:Nat)),(68,iv (io:Nat)),(72,xsl r),(73,iv ((zad r).length:Nat)),(74,iv (i:Nat))] [.box t.cells,.box a.cells,.box own.cells,.box s.cells]
theorem zi1 (t:Tg) (a:Ac) (own s:Sch) (ts:List Tg) (m M:List Tb) (fr inn:List Fr) (io:Nat) (r:List X) (f:X->List Acc) (k0:List Acc) (hf:∀ x∈r,RxC M x fr (f x)) (hl:zac r) (hks:AccS k0) (hB:k0.length+((r).flatMap f).length<=300000000) (i:Nat) (out:List Acc) (hi:i<=(r).length) (hI:out=zae k0 (((r).take i).flatMap f)):∃ (out':List Acc),(out'=zae k0 (((r).take (r).length).flatMap f))/\(decide ((((r).length:Nat):Int) < (((zad r).length:Nat):Int))=false)/\∀ R,Good E0 B.Am [] (zrU t a own s ts m M fr inn io r f k0 (r).length out') R->Good E0 B.Am [] (zrU t a own s ts m M fr inn io r f k0 i out) R:=by
 have hk:=hi;revert i out;refine zlp ((r).length) (fun i hlt ih out hi hI _=>?_)
 obtain ⟨x,hx,h0,hw⟩:=zlq (l:=r) ((zad r).length) hlt zk9
 have hso:=zel hks hI;have hro:=zgx hI hx hB;have hfx:=hf x (List.mem_of_getElem? hx)
 exact Zih (ih (zae out (zae [] (f x))) Zo (by exact zeB hks hI hx) Zo) fun R gY=>zaa (wkl [sb h0,se (zak hx),sc hfx,sc (zbz out (zae [] (f x)) zc4 zc4),si hw] [2,3,5,11,12,13,15,16,66,67,68,72,73,74] 4 kr gY)
theorem zjC (t:Tg) (a:Ac) (own s:Sch) (ts:List Tg) (m M:List Tb) (fr inn:List Fr) (io:Nat) (r:List X) (f:X->List Acc) (hf:∀ x∈r,RxC M x fr (f x)) (hl:zac r) (ks:List Acc) (hks:AccS ks) (hB:ks.length+((r).flatMap f).length<=300000000):∃ ks':List Acc,ks'=zae ks ((r).flatMap f)/\decide ((((r).length:Nat):Int) < (((zad r).length:Nat):Int))=false/\∀ R,Good E0 B.Am [] (zrU t a own s ts m M fr inn io r f ks (r).length ks') R->Good E0 B.Am [] (zrU t a own s ts m M fr inn io r f ks 0 ks) R:=by
 obtain ⟨k',h1,h2,h3⟩:=zi1 t a own s ts m M fr inn io r f ks hf hl hks hB 0 ks Zo (by simp [zae])
 exact ⟨k',by rw [h1,List.take_length],h2,h3⟩
noncomputable def zrT (t:Tg) (a:Ac) (own s:Sch) (ts:List Tg) (m M:List Tb) (fr inn:List Fr) (f:X->List Acc) (k0:List Acc) (i:Nat) (out:List Acc):Cfg:=zan B.Am 0 [(2,.sl (ts.map Tg.cells)),(3,tsl m),(5,.p 1 0),(11,fsl fr),(12,tsl M),(13,.p 3 0),(15,fsl inn),(16,.sl (out.map Acc.cells)),(66,.sl (a.rows.map zaA)),(67,iv ((a.rows.map zaA).length:Nat)),(68,iv (i:Nat))] [.box t.cells,.box a.cells,.box own.cells,.box s.cells]
theorem zi0 (t:Tg) (a:Ac) (own s:Sch) (ts:List Tg) (m M:List Tb) (fr inn:List Fr) (f:X->List Acc) (k0:List Acc) (hf:∀ r∈a.rows,∀ x∈r,RxC M x fr (f x)) (hrl:∀ r∈a.rows,zac r) (hl:zac a.rows) (hks:AccS k0) (hB:k0.length+((a.rows).flatMap (fun r=>r.flatMap f)).length<=300000000) (i:Nat) (out:List Acc) (hi:i<=(a.rows).length) (hI:out=zae k0 (((a.rows).take i).flatMap (fun r=>r.flatMap f))):∃ (out':List Acc),(out'=zae k0 (((a.rows).take (a.rows).length).flatMap (fun r=>r.flatMap f)))/\(decide ((((a.rows).length:Nat):Int) < (((a.rows.map zaA).length:Nat):Int))=false)/\∀ R,Good E0 B.Am [] (zrT t a own s ts m M fr inn f k0 (a.rows).length out') R->Good E0 B.Am [] (zrT t a own s ts m M fr inn f k0 i out) R:=by
 have hk:=hi;revert i out;refine zlp ((a.rows).length) (fun i hlt ih out hi hI _=>?_)
 obtain ⟨x,hx,h0,hw⟩:=zlq (l:=a.rows) ((a.rows.map zaA).length) hlt zk9
 have hso:=zel hks hI;have hro:out.length+(x.flatMap f).length<=300000000:=zqx (f:=fun r:List X=>r.flatMap f) hI hx hB;have hrx:=hrl x (List.mem_of_getElem? hx);have hfx:=hf x (List.mem_of_getElem? hx)
 obtain ⟨ks1,q1,q1_1,g1⟩:=zjC t a own s ts m M fr inn i x f hfx zc4 out zc4 zc4
 exact Zih (ih ks1 Zo (by exact zgy (f:=fun r:List X=>r.flatMap f) hI hx ‹_›) Zo) fun R gY=>zaa (wkl [sb h0,se (zai zaA hx rfl)] [2,3,5,11,12,13,15,16,66,67,68,72,73,74] 4 kr (g1 _ (zaa (wkl [sb q1_1,si hw] [2,3,5,11,12,13,15,16,66,67,68] 4 kr gY))))
theorem zjB (t:Tg) (a:Ac) (own s:Sch) (ts:List Tg) (m M:List Tb) (fr inn:List Fr) (f:X->List Acc) (hf:∀ r∈a.rows,∀ x∈r,RxC M x fr (f x)) (hrl:∀ r∈a.rows,zac r) (hl:zac a.rows) (ks:List Acc) (hks:AccS ks) (hB:ks.length+((a.rows).flatMap (fun r=>r.flatMap f)).length<=300000000):∃ ks':List Acc,ks'=zae ks ((a.rows).flatMap (fun r=>r.flatMap f))/\decide ((((a.rows).length:Nat):Int) < (((a.rows.map zaA).length:Nat):Int))=false/\∀ R,Good E0 B.Am [] (zrT t a own s ts m M fr inn f ks (a.rows).length ks') R->Good E0 B.Am [] (zrT t a own s ts m M fr inn f ks 0 ks) R:=by
 obtain ⟨k',h1,h2,h3⟩:=zi0 t a own s ts m M fr inn f ks hf hrl hl hks hB 0 ks Zo (by simp [zae])
 exact ⟨k',by rw [h1,List.take_length],h2,h3⟩
noncomputable def zrV (t:Tg) (a:Ac) (own s:Sch) (ts:List Tg) (m M:List Tb) (fr inn:List Fr) (g:Qy->List Acc) (h:Qy->List Acc) (k0:List Acc) (i:Nat) (out:List Acc):Cfg:=zan B.Am 2 [(2,.sl (ts.map Tg.cells)),(3,tsl m),(5,.p 1 0),(11,fsl fr),(12,tsl M),(13,.p 3 0),(15,fsl inn),(16,.sl (out.map Acc.cells)),(87,.sl (zal a.query)),(88,iv ((zal a.query).length:Nat)),(89,iv (i:Nat))] [.box t.cells,.box a.cells,.box own.cells,.box s.cells]
theorem zi2 (t:Tg) (a:Ac) (own s:Sch) (ts:List Tg) (m M:List Tb) (fr inn:List Fr) (g:Qy->List Acc) (h:Qy->List Acc) (k0:List Acc) (hg:∀ q∈a.query,RqC M q fr (g q)) (hh:∀ q∈a.query,zab E0 S.Bx [q.av,tsl M] [] (.sl ((zae [] (h q)).map Acc.cells)) []) (hl:zac a.query) (hks:AccS k0) (hB:k0.length+((a.query).flatMap (fun q=>g q++h q)).length<=300000000) (i:Nat) (out:List Acc) (hi:i<=(a.query).length) (hI:out=zae k0 (((a.query).take i).flatMap (fun q=>g q++h q))):∃ (out':List Acc),(out'=zae k0 (((a.query).take (a.query).length).flatMap (fun q=>g q++h q)))/\(decide ((((a.query).length:Nat):Int) < (((zal a.query).length:Nat):Int))=false)/\∀ R,Good E0 B.Am [] (zrV t a own s ts m M fr inn g h k0 (a.query).length out') R->Good E0 B.Am [] (zrV t a own s ts m M fr inn g h k0 i out) R:=by
 have hk:=hi;revert i out;refine zlp ((a.query).length) (fun i hlt ih out hi hI _=>?_)
 obtain ⟨x,hx,h0,hw⟩:=zlq (l:=a.query) ((zal a.query).length) hlt zk9
 have hso:=zel hks hI;have hso2:AccS (zae out (zae [] (g x))):=hso.all _;have hz0:out.length+(g x++h x).length<=300000000:=zqx (f:=fun q=>g q++h q) hI hx hB;have hz1:=za4 (g x) [];have hz2:=za4 (h x) [];have hz3:=za4 (zae [] (g x)) out;have hro:out.length+(zae [] (g x)).length<=300000000:=(by rw [List.length_append] at hz0;simp only [List.length_nil] at hz1;omega);have hro2:(zae out (zae [] (g x))).length+(zae [] (h x)).length<=300000000:=(by rw [List.length_append] at hz0;simp only [List.length_nil] at hz1 hz2;omega);have hfx:=hg x (List.mem_of_getElem? hx);have hhx:=hh x (List.mem_of_getElem? hx)
 exact Zih (ih (zae (zae out (zae [] (g x))) (zae [] (h x))) Zo (by exact zgy (f:=fun q=>g q++h q) hI hx (by rw [zhP hso,zhP (hso.all _),zaP])) Zo) fun R gY=>zaa (wkl [sb h0,se (zba hx),sd [(4,[sc hfx]),(5,[sc (zbz out (zae [] (g x)) zc4 zc4)]),(8,[sc hhx]),(9,[sc (zbz (zae out (zae [] (g x))) (zae [] (h x)) zc4 zc4)])],si hw] [2,3,5,11,12,13,15,16,87,88,89] 4 kr gY)
theorem zjD (t:Tg) (a:Ac) (own s:Sch) (ts:List Tg) (m M:List Tb) (fr inn:List Fr) (g:Qy->List Acc) (h:Qy->List Acc) (hg:∀ q∈a.query,RqC M q fr (g q)) (hh:∀ q∈a.query,zab E0 S.Bx [q.av,tsl M] [] (.sl ((zae [] (h q)).map Acc.cells)) []) (hl:zac a.query) (ks:List Acc) (hks:AccS ks) (hB:ks.length+((a.query).flatMap (fun q=>g q++h q)).length<=300000000):∃ ks':List Acc,ks'=zae ks ((a.query).flatMap (fun q=>g q++h q))/\decide ((((a.query).length:Nat):Int) < (((zal a.query).length:Nat):Int))=false/\∀ R,Good E0 B.Am [] (zrV t a own s ts m M fr inn g h ks (a.query).length ks') R->Good E0 B.Am [] (zrV t a own s ts m M fr inn g h ks 0 ks) R:=by
 obtain ⟨k',h1,h2,h3⟩:=zi2 t a own s ts m M fr inn g h ks hg hh hl hks hB 0 ks Zo (by simp [zae])
 exact ⟨k',by rw [h1,List.take_length],h2,h3⟩
noncomputable def zrW (t:Tg) (a:Ac) (own s:Sch) (ts:List Tg) (m M:List Tb) (inn:List Fr) (f:X->List Acc) (k0:List Acc) (i:Nat) (out:List Acc):Cfg:=zan B.Am 3 [(2,.sl (ts.map Tg.cells)),(3,tsl m),(5,.p 1 0),(12,tsl M),(13,.p 3 0),(15,fsl inn),(16,.sl (out.map Acc.cells)),(121,xsl a.wh),(122,iv ((zad a.wh).length:Nat)),(123,iv (i:Nat))] [.box t.cells,.box a.cells,.box own.cells,.box s.cells]
theorem zi3 (t:Tg) (a:Ac) (own s:Sch) (ts:List Tg) (m M:List Tb) (inn:List Fr) (f:X->List Acc) (k0:List Acc) (hf:∀ x∈a.wh,RxC M x inn (f x)) (hl:zac a.wh) (hks:AccS k0) (hB:k0.length+((a.wh).flatMap f).length<=300000000) (i:Nat) (out:List Acc) (hi:i<=(a.wh).length) (hI:out=zae k0 (((a.wh).take i).flatMap f)):∃ (out':List Acc),(out'=zae k0 (((a.wh).take (a.wh).length).flatMap f))/\(decide ((((a.wh).length:Nat):Int) < (((zad a.wh).length:Nat):Int))=false)/\∀ R,Good E0 B.Am [] (zrW t a own s ts m M inn f k0 (a.wh).length out') R->Good E0 B.Am [] (zrW t a own s ts m M inn f k0 i out) R:=by
 have hk:=hi;revert i out;refine zlp ((a.wh).length) (fun i hlt ih out hi hI _=>?_)
 obtain ⟨x,hx,h0,hw⟩:=zlq (l:=a.wh) ((zad a.wh).length) hlt zk9
 have hso:=zel hks hI;have hro:=zgx hI hx hB;have hfx:=hf x (List.mem_of_getElem? hx)
 exact Zih (ih (zae out (zae [] (f x))) Zo (by exact zeB hks hI hx) Zo) fun R gY=>zaa (wkl [sb h0,se (zak hx),sc hfx,sc (zbz out (zae [] (f x)) zc4 zc4),si hw] [2,3,5,12,13,15,16,121,122,123] 4 kr gY)
theorem zeQ (t:Tg) (a:Ac) (own s:Sch) (ts:List Tg) (m M:List Tb) (inn:List Fr) (f:X->List Acc) (hf:∀ x∈a.wh,RxC M x inn (f x)) (hl:zac a.wh) (ks:List Acc) (hks:AccS ks) (hB:ks.length+((a.wh).flatMap f).length<=300000000):∃ ks':List Acc,ks'=zae ks ((a.wh).flatMap f)/\decide ((((a.wh).length:Nat):Int) < (((zad a.wh).length:Nat):Int))=false/\∀ R,Good E0 B.Am [] (zrW t a own s ts m M inn f ks (a.wh).length ks') R->Good E0 B.Am [] (zrW t a own s ts m M inn f ks 0 ks) R:=by
 obtain ⟨k',h1,h2,h3⟩:=zi3 t a own s ts m M inn f ks hf hl hks hB 0 ks Zo (by simp [zae])
 exact ⟨k',by rw [h1,List.take_length],h2,h3⟩
noncomputable def zrX (t:Tg) (a:Ac) (own s:Sch) (m M:List Tb) (inn:List Fr) (b:List Tg) (f:Se->List Acc) (k0:List Acc) (i:Nat) (out:List Acc):Cfg:=zan B.Am 4 [(3,tsl m),(5,.p 1 0),(12,tsl M),(13,.p 3 0),(15,fsl inn),(16,.sl (out.map Acc.cells)),(25,.sl (b.map Tg.cells)),(138,.sl (a.sets.map Se.cells)),(139,iv ((a.sets.map Se.cells).length:Nat)),(140,iv (i:Nat))] [.box t.cells,.box a.cells,.box own.cells,.box s.cells]
theorem zi4 (t:Tg) (a:Ac) (own s:Sch) (m M:List Tb) (inn:List Fr) (b:List Tg) (f:Se->List Acc) (k0:List Acc) (hf:∀ x∈a.sets,zab E0 S.Ay [.agg x.cells,sv a.table,s.av,.sl (b.map Tg.cells),fsl inn,tsl M] [] (.sl ((zae [] (f x)).map Acc.cells)) []) (hl:zac a.sets) (hks:AccS k0) (hB:k0.length+((a.sets).flatMap f).length<=300000000) (i:Nat) (out:List Acc) (hi:i<=(a.sets).length) (hI:out=zae k0 (((a.sets).take i).flatMap f)):∃ (out':List Acc),(out'=zae k0 (((a.sets).take (a.sets).length).flatMap f))/\(decide ((((a.sets).length:Nat):Int) < (((a.sets.map Se.cells).length:Nat):Int))=false)/\∀ R,Good E0 B.Am [] (zrX t a own s m M inn b f k0 (a.sets).length out') R->Good E0 B.Am [] (zrX t a own s m M inn b f k0 i out) R:=by
 have hk:=hi;revert i out;refine zlp ((a.sets).length) (fun i hlt ih out hi hI _=>?_)
 obtain ⟨x,hx,h0,hw⟩:=zlq (l:=a.sets) ((a.sets.map Se.cells).length) hlt zk9
 have hso:=zel hks hI;have hro:=zgx hI hx hB;have hfx:=hf x (List.mem_of_getElem? hx)
 exact Zih (ih (zae out (zae [] (f x))) Zo (by exact zeB hks hI hx) Zo) fun R gY=>zaa (wkl [sb h0,se (zai Se.cells hx rfl),sc hfx,sc (zbz out (zae [] (f x)) zc4 zc4),si hw] [3,5,12,13,15,16,25,138,139,140] 4 kr gY)
theorem zc9 (t:Tg) (a:Ac) (own s:Sch) (m M:List Tb) (inn:List Fr) (b:List Tg) (f:Se->List Acc) (hf:∀ x∈a.sets,zab E0 S.Ay [.agg x.cells,sv a.table,s.av,.sl (b.map Tg.cells),fsl inn,tsl M] [] (.sl ((zae [] (f x)).map Acc.cells)) []) (hl:zac a.sets) (ks:List Acc) (hks:AccS ks) (hB:ks.length+((a.sets).flatMap f).length<=300000000):∃ ks':List Acc,ks'=zae ks ((a.sets).flatMap f)/\decide ((((a.sets).length:Nat):Int) < (((a.sets.map Se.cells).length:Nat):Int))=false/\∀ R,Good E0 B.Am [] (zrX t a own s m M inn b f ks (a.sets).length ks') R->Good E0 B.Am [] (zrX t a own s m M inn b f ks 0 ks) R:=by
 obtain ⟨k',h1,h2,h3⟩:=zi4 t a own s m M inn b f ks hf hl hks hB 0 ks Zo (by simp [zae])
 exact ⟨k',by rw [h1,List.take_length],h2,h3⟩
noncomputable def zrY (t:Tg) (a:Ac) (own s:Sch) (m:List Tb) (b:List Tg) (f:Tg->List Acc) (k0:List Acc) (i:Nat) (out:List Acc):Cfg:=zan B.Am 5 [(3,tsl m),(5,.p 1 0),(13,.p 3 0),(16,.sl (out.map Acc.cells)),(155,.sl (b.map Tg.cells)),(156,iv ((b.map Tg.cells).length:Nat)),(157,iv (i:Nat))] [.box t.cells,.box a.cells,.box own.cells,.box s.cells]
theorem zi5 (t:Tg) (a:Ac) (own s:Sch) (m:List Tb) (b:List Tg) (f:Tg->List Acc) (k0:List Acc) (hf:∀ x∈b,zab E0 S.AF [x.av,a.av,s.av,tsl m] [] (.sl ((zae [] (f x)).map Acc.cells)) []) (hl:zac b) (hks:AccS k0) (hB:k0.length+((b).flatMap f).length<=300000000) (i:Nat) (out:List Acc) (hi:i<=(b).length) (hI:out=zae k0 (((b).take i).flatMap f)):∃ (out':List Acc),(out'=zae k0 (((b).take (b).length).flatMap f))/\(decide ((((b).length:Nat):Int) < (((b.map Tg.cells).length:Nat):Int))=false)/\∀ R,Good E0 B.Am [] (zrY t a own s m b f k0 (b).length out') R->Good E0 B.Am [] (zrY t a own s m b f k0 i out) R:=by
 have hk:=hi;revert i out;refine zlp ((b).length) (fun i hlt ih out hi hI _=>?_)
 obtain ⟨x,hx,h0,hw⟩:=zlq (l:=b) ((b.map Tg.cells).length) hlt zk9
 have hso:=zel hks hI;have hro:=zgx hI hx hB;have hfx:=hf x (List.mem_of_getElem? hx)
 exact Zih (ih (zae out (zae [] (f x))) Zo (by exact zeB hks hI hx) Zo) fun R gY=>zaa (wkl [sb h0,se (zai Tg.cells hx rfl),sc hfx,sc (zbz out (zae [] (f x)) zc4 zc4),si hw] [3,5,13,16,155,156,157] 4 kr gY)
theorem zda (t:Tg) (a:Ac) (own s:Sch) (m:List Tb) (b:List Tg) (f:Tg->List Acc) (hf:∀ x∈b,zab E0 S.AF [x.av,a.av,s.av,tsl m] [] (.sl ((zae [] (f x)).map Acc.cells)) []) (hl:zac b) (ks:List Acc) (hks:AccS ks) (hB:ks.length+((b).flatMap f).length<=300000000):∃ ks':List Acc,ks'=zae ks ((b).flatMap f)/\decide ((((b).length:Nat):Int) < (((b.map Tg.cells).length:Nat):Int))=false/\∀ R,Good E0 B.Am [] (zrY t a own s m b f ks (b).length ks') R->Good E0 B.Am [] (zrY t a own s m b f ks 0 ks) R:=by
 obtain ⟨k',h1,h2,h3⟩:=zi5 t a own s m b f ks hf hl hks hB 0 ks Zo (by simp [zae])
 exact ⟨k',by rw [h1,List.take_length],h2,h3⟩
theorem zaH {p:Prop} (h:p:=by first|assumption|((repeat (first|assumption|exact zbQ|exact accS1 _|exact accS2 _ _|refine srN ‹_› ?_));done)|exact rn0 (by first|exact zsm _|exact Nat.le_of_ble_eq_true rfl|exact zpd _ _|exact zsn _ _) Zo|exact rn3 ‹_› ‹_› ‹_› (by first|exact zsm _|exact Nat.le_of_ble_eq_true rfl|exact zpd _ _|exact zsn _ _) Zo|exact rn2 ‹_› ‹_› (by first|exact zsm _|exact Nat.le_of_ble_eq_true rfl|exact zpd _ _|exact zsn _ _) Zo|exact rn1 ‹_› (by first|exact zsm _|exact Nat.le_of_ble_eq_true rfl|exact zpd _ _|exact zsn _ _) Zo|omega|(simp [addK];done)):p:=h
theorem zp9 {p:Prop} (h:p:=by first|exact ah_1 ‹_› ‹_› ‹_› ‹_› ‹_›|exact ah_3 ‹_› ‹_› ‹_› ‹_› ‹_›|exact ah_2 ‹_› ‹_› ‹_› ‹_› ‹_› ‹_›|exact ah_0 ‹_› ‹_› ‹_›):p:=h
section
variable {k0 k1 k2 k3 k4 : List Acc} {N : Nat}
theorem zsm (a:Acc):(addK [] a).length<=2:=Nat.le_trans (zpc a) Zo
theorem zpd (a b:Acc):(addK (addK [] a) b).length<=2:=by have:=zpc a;have:=zlu (addK [] a) b;omega
theorem rn0 {B:Nat} (h0:k0.length<=2) (hB:2+B<=N):k0.length+B<=N:=by omega
theorem rn1 {A:List Acc} {B:Nat} (h:k1=zae k0 A) (h0:k0.length<=2) (hB:2+A.length+B<=N):k1.length+B<=N:=by
 have e1:=za4 A k0
 rw [h];omega
theorem rn2 {A A1:List Acc} {B:Nat} (h:k2=zae k1 A) (h1:k1=zae k0 A1) (h0:k0.length<=2) (hB:2+A1.length+A.length+B<=N):k2.length+B<=N:=by
 have e1:=za4 A k1
 have e2:=za4 A1 k0
 rw [← h1] at e2
 rw [← h] at e1
 omega
theorem rn3 {A A1 A2:List Acc} {B:Nat} (h:k3=zae k2 A) (h2:k2=zae k1 A2) (h1:k1=zae k0 A1) (h0:k0.length<=2) (hB:2+A1.length+A2.length+A.length+B<=N):k3.length+B<=N:=by
 have e0:=za4 A k2
 have e1:=za4 A2 k1
 have e2:=za4 A1 k0
 rw [← h1] at e2
 rw [← h2] at e1
 rw [← h] at e0
 omega
theorem accS1 (a:Acc):AccS [a]:=zbQ.ins a
theorem accS2 (a b:Acc):AccS (addK [a] b):=(zbQ.ins a).ins b
theorem zsn (a b:Acc):(addK [a] b).length<=2:=zpd a b
theorem srN {A:List Acc} (h:k1=zae k0 A) (h0:AccS k0):AccS k1:=h ▸ h0.all _
end
def actH (a:Ac) (rows qs wh se bf:List Acc):List Acc :=
 bif a.kind==1 then ⟨a.table,⟨#[]⟩,6⟩::(rows++qs++se++bf) else bif a.kind==3 then ⟨a.table,⟨#[]⟩,5⟩::⟨a.table,⟨#[]⟩,7⟩::(wh++se++bf) else bif a.kind==2 then ⟨a.table,⟨#[]⟩,5⟩::(wh++se++bf) else []
section
variable {a : Ac} {rows qs wh se bf k1 k2 k3 k4 : List Acc}
theorem ah_1 (h:(a.kind==1)=true) (h1:k1=zae (addK [] ⟨a.table,⟨#[]⟩,6⟩) rows) (h2:k2=zae k1 qs) (h3:k3=zae k2 se) (h4:k4=zae k3 bf):k4=zae [] (actH a rows qs wh se bf):=by
 rw [actH,h,cond_true,h4,h3,h2,h1,zdY];simp only [zaP,List.append_assoc]
theorem ah_3 (h:(a.kind==1)=false) (h':(a.kind==3)=true) (h1:k1=zae (addK (addK [] ⟨a.table,⟨#[]⟩,5⟩) ⟨a.table,⟨#[]⟩,7⟩) wh) (h3:k3=zae k1 se) (h4:k4=zae k3 bf):k4=zae [] (actH a rows qs wh se bf):=by
 rw [actH,h,h',cond_true,cond_false,h4,h3,h1,zdY];simp only [zaP,List.append_assoc,zdY]
theorem ah_2 (h:(a.kind==1)=false) (h'':(a.kind==3)=false) (h':(a.kind==2)=true) (h1:k1=zae (addK [] ⟨a.table,⟨#[]⟩,5⟩) wh) (h3:k3=zae k1 se) (h4:k4=zae k3 bf):k4=zae [] (actH a rows qs wh se bf):=by
 rw [actH,h,h',h'',cond_true,cond_false,cond_false,h4,h3,h1,zdY];simp only [zaP,List.append_assoc,zdY]
theorem ah_0 (h:(a.kind==1)=false) (h'':(a.kind==3)=false) (h':(a.kind==2)=false):[]=zae [] (actH a rows qs wh se bf):=by
 rw [actH,h,h',h'',cond_false,cond_false,cond_false];rfl
end
theorem zzq (m:List Tb) (t:Tg) (a:Ac) (ts:List Tg) (f:X->List Acc) (g h:Qy->List Acc) (w:X->List Acc) (v:Se->List Acc) (j:Tg->List Acc) (hm:zac m) (hc:∀ x∈m,zac x.sch.cols) (hso:zac (zaf m t.table).1.cols) (hst:zac (trS t (zaf m t.table).1)) (hsf:zac (zaJ t (zaf m t.table).1 [] [])) (hz:zac ([]:List V)) (hk:1<=a.kind) (hts:ts.length<=1000) (hsl:a.sets.length<=1000) (hof:∀ t∈ts,zac t.of) (hf:∀ r∈a.rows,∀ x∈r,RxC (m++trS t (zaf m t.table).1) x (zaJ t (zaf m t.table).1 [] []) (f x)) (hrl:∀ r∈a.rows,zac r) (hlr:zac a.rows) (hg:∀ q∈a.query,RqC (m++trS t (zaf m t.table).1) q (zaJ t (zaf m t.table).1 [] []) (g q)) (hh:∀ q∈a.query,zab E0 S.Bx [q.av,tsl (m++trS t (zaf m t.table).1)] [] (.sl ((zae [] (h q)).map Acc.cells)) []) (hlq:zac a.query) (hw:∀ x∈a.wh,RxC (m++trS t (zaf m t.table).1) x (zar (zaJ t (zaf m t.table).1 [] []) (zaf m a.table).1 []) (w x)) (hlw:zac a.wh) (hv:∀ x∈a.sets,zab E0 S.Ay [.agg x.cells,sv a.table,(zaf m a.table).1.av,.sl ((appB a ts).map Tg.cells),fsl (zar (zaJ t (zaf m t.table).1 [] []) (zaf m a.table).1 []),tsl (m++trS t (zaf m t.table).1)] [] (.sl ((zae [] (v x)).map Acc.cells)) []) (hls:zac a.sets) (hj:∀ x∈appB a ts,zab E0 S.AF [x.av,a.av,(zaf m a.table).1.av,tsl m] [] (.sl ((zae [] (j x)).map Acc.cells)) []) (hlb:zac (appB a ts)) (hB1:2+(a.rows.flatMap fun r=>r.flatMap f).length+(a.query.flatMap fun q=>g q++h q).length+(a.sets.flatMap v).length+((appB a ts).flatMap j).length<=300000000) (hB2:2+(a.wh.flatMap w).length+(a.sets.flatMap v).length+((appB a ts).flatMap j).length<=300000000):∃ (r:List Acc),r=zae [] (actH a (a.rows.flatMap fun r=>r.flatMap f) (a.query.flatMap fun q=>g q++h q) (a.wh.flatMap w) (a.sets.flatMap v) ((appB a ts).flatMap j))/\zab E0 S.Am [t.av,a.av,.sl (ts.map Tg.cells),tsl m] [] (.sl (r.map Acc.cells)) []:=by
 let p_1:List St:=[sc (zbe m t.table zaH zaH),sc (zdz t ((zaf m t.table).fst) ([]) ([]) zaH zaH zaH),sc (zd3 t ((zaf m t.table).fst) zaH),sc (zki m (trS t (zaf m t.table).fst) zaH zaH),sc (zbe m a.table zaH zaH),sc (zc2 (zaJ t (zaf m t.table).fst [] []) ((zaf m a.table).fst) ([]) zaH)]
 cases h1:a.kind==1
 ·cases h2:a.kind==3
  ·cases h3:a.kind==2
   ·exact ⟨[],zp9,wk At.Am (p_1++[sb h1,sb h2,sb h3]) kr⟩
   ·obtain ⟨ks4,q4,q4_1,g4⟩:=zeQ t a ((zaf m t.table).fst) ((zaf m a.table).fst) ts m (m++trS t (zaf m t.table).fst) (zar (zaJ t (zaf m t.table).fst [] []) (zaf m a.table).fst []) w hw zaH ([Acc.mk a.table Zs0 5]) zaH zaH
    obtain ⟨ks5,q5,q5_1,g5⟩:=zc9 t a ((zaf m t.table).fst) ((zaf m a.table).fst) m (m++trS t (zaf m t.table).fst) (zar (zaJ t (zaf m t.table).fst [] []) (zaf m a.table).fst []) (appB a ts) v hv zaH ks4 zaH zaH
    obtain ⟨ks6,q6,q6_1,g6⟩:=zda t a ((zaf m t.table).fst) ((zaf m a.table).fst) m (appB a ts) j hj zaH ks5 zaH zaH
    exact ⟨ks6,zp9,wkc At.Am (p_1++[sb h1,sb h2,sb h3,sc (zbN ([]) (Acc.mk a.table Zs0 5) zaH zaH),sb h2]) [2,3,5,12,13,15,16,121,122,123] 4 kr (g4 _ (zaa (wkl [sb q4_1,sc (zfW a ts zaH zaH zaH zaH)] [3,5,12,13,15,16,25,138,139,140] 4 kr (g5 _ (zaa (wkl [sb q5_1] [3,5,13,16,155,156,157] 4 kr (g6 _ (zaa (wkr [sb q6_1] kr)))))))))⟩
  ·obtain ⟨ks7,q7,q7_1,g7⟩:=zeQ t a ((zaf m t.table).fst) ((zaf m a.table).fst) ts m (m++trS t (zaf m t.table).fst) (zar (zaJ t (zaf m t.table).fst [] []) (zaf m a.table).fst []) w hw zaH (addK [Acc.mk a.table Zs0 5] (Acc.mk a.table Zs0 7)) zaH zaH
   obtain ⟨ks8,q8,q8_1,g8⟩:=zc9 t a ((zaf m t.table).fst) ((zaf m a.table).fst) m (m++trS t (zaf m t.table).fst) (zar (zaJ t (zaf m t.table).fst [] []) (zaf m a.table).fst []) (appB a ts) v hv zaH ks7 zaH zaH
   obtain ⟨ks9,q9,q9_1,g9⟩:=zda t a ((zaf m t.table).fst) ((zaf m a.table).fst) m (appB a ts) j hj zaH ks8 zaH zaH
   exact ⟨ks9,zp9,wkc At.Am (p_1++[sb h1,sb h2,sc (zbN ([]) (Acc.mk a.table Zs0 5) zaH zaH),sb h2,sc (zbN ([Acc.mk a.table Zs0 5]) (Acc.mk a.table Zs0 7) zaH zaH)]) [2,3,5,12,13,15,16,121,122,123] 4 kr (g7 _ (zaa (wkl [sb q7_1,sc (zfW a ts zaH zaH zaH zaH)] [3,5,12,13,15,16,25,138,139,140] 4 kr (g8 _ (zaa (wkl [sb q8_1] [3,5,13,16,155,156,157] 4 kr (g9 _ (zaa (wkr [sb q9_1] kr)))))))))⟩
 ·obtain ⟨ks10,q10,q10_1,g10⟩:=zjB t a ((zaf m t.table).fst) ((zaf m a.table).fst) ts m (m++trS t (zaf m t.table).fst) (zaJ t (zaf m t.table).fst [] []) (zar (zaJ t (zaf m t.table).fst [] []) (zaf m a.table).fst []) f hf zaH zaH ([Acc.mk a.table Zs0 6]) zaH zaH
  obtain ⟨ks11,q11,q11_1,g11⟩:=zjD t a ((zaf m t.table).fst) ((zaf m a.table).fst) ts m (m++trS t (zaf m t.table).fst) (zaJ t (zaf m t.table).fst [] []) (zar (zaJ t (zaf m t.table).fst [] []) (zaf m a.table).fst []) g h hg hh zaH ks10 zaH zaH
  obtain ⟨ks12,q12,q12_1,g12⟩:=zc9 t a ((zaf m t.table).fst) ((zaf m a.table).fst) m (m++trS t (zaf m t.table).fst) (zar (zaJ t (zaf m t.table).fst [] []) (zaf m a.table).fst []) (appB a ts) v hv zaH ks11 zaH zaH
  obtain ⟨ks13,q13,q13_1,g13⟩:=zda t a ((zaf m t.table).fst) ((zaf m a.table).fst) m (appB a ts) j hj zaH ks12 zaH zaH
  exact ⟨ks13,zp9,wkc At.Am (p_1++[sb h1,sc (zbN ([]) (Acc.mk a.table Zs0 6) zaH zaH)]) [2,3,5,11,12,13,15,16,66,67,68] 4 kr (g10 _ (zaa (wkl [sb q10_1] [2,3,5,11,12,13,15,16,87,88,89] 4 kr (g11 _ (zaa (wkl [sb q11_1,sc (zfW a ts zaH zaH zaH zaH)] [3,5,12,13,15,16,25,138,139,140] 4 kr (g12 _ (zaa (wkl [sb q12_1] [3,5,13,16,155,156,157] 4 kr (g13 _ (zaa (wkr [sb q13_1] kr))))))))))))⟩
theorem zcT (t:Tg) (s:Sch):zaJ t s [] []=zbZ t s [] []:=by
 have e:zdO []=[]:=rfl
 unfold zaJ zbZ
 rw [e]
 cases t.each <;> cases t.event==2 <;> cases t.event==3 <;> cases t.event==1 <;> rfl
theorem zlE {n:Nat} {t:Tg} (h:TgLi n t):(zbp t).length<=7:=by
 have h1:=h.whl
 have h2:=zaz (l:=t.acts) (f:=fun a=>a.sets.map Se.ex) (C:=2) fun a ha=>by rw [List.length_map];exact h.sets a ha
 have h3:=Nat.mul_le_mul_right 2 h.acts
 rw [zbp,List.length_append];omega
theorem zjN {n:Nat} {t:Tg} (h:TgLi n t):∀ x∈zbp t,XOk n x:=fun x hx=>by
 rcases List.mem_append.1 hx with hx|hx
 ·exact h.wh x hx
 ·obtain ⟨a,ha,hx⟩:=List.mem_flatMap.1 hx
  obtain ⟨s,hs,rfl⟩:=List.mem_map.1 hx
  exact (h.act a ha).set s hs
theorem FrB.mono {n k:Nat} {frs:List Fr} (h:FrB n frs) (hn:k<=n):FrB k frs:=⟨by have:=h.len;omega,h.cols⟩
theorem zqM (m:List Tb) (n:Nat) (t:Tg) (a:Ac) (s:Sch) (hn:n<=6) (hm:FpC m) (ht:BfLi n t) (hs:zac s.cols):zab E0 S.AF [t.av,a.av,s.av,tsl m] [] (.sl ((zae [] (hidR m n t a s)).map Acc.cells)) []:=by
 have hf:FrB 7 (zaJ t s [] []):=by rw [zcT];exact zno Zo hs t
 obtain ⟨r,rfl,h⟩:=c_hidR m n t a s _ _ rfl rfl hn (zjN ht.li) (zlE ht.li) hs (fun x hx=>zho hm n x _ hn (zjN ht.li x hx) (hf.mono Zo)) ht.li.whl ht.li.acts ht.li.sets (by have:=ht.sets;rw [List.length_map];omega)
 exact h
theorem ztB (m:List Tb) {n:Nat} (hn:n<=6) {t:Tg} (h:BfLi n t) (a:Ac) (s:Sch):(hidR m n t a s).length<=8500000:=by
 have h1:=zaz (l:=zbp t) (f:=hdE m n s a.table (zaJ t s [] []) (a.kind==1)) (C:=1200000) fun x hx=>(znM hn (zjN h.li x hx)).2.2
 have h2:=Nat.mul_le_mul_right 1200000 (zlE h.li)
 have h3:=h.sets
 unfold hidR
 cases a.kind==2 <;> simp only [cond_true,cond_false,List.length_append,List.length_nil,List.length_map] <;> omega
def accR (n:Nat) (t:Tg) (a:Ac) (ts:List Tg) (m:List Tb):List Acc :=
 actH a (a.rows.flatMap fun r=>r.flatMap fun x=>zas (zax t m) n [x] (frOf t m))
  (a.query.flatMap fun q=>accQ (zax t m) (zas (zax t m) n) q (frOf t m)++zcZ (zax t m) q)
  (a.wh.flatMap fun x=>zas (zax t m) n [x] (zar (frOf t m) (zaf m a.table).1 []))
  (a.sets.flatMap fun x=>asgR (zax t m) n a.table (zaf m a.table).1 x (zar (frOf t m) (zaf m a.table).1 []) (appB a ts))
  ((appB a ts).flatMap fun x=>hidR m n x a (zaf m a.table).1)
theorem zyQ {m:List Tb} (hm:FpL m) (q:Qy):(zcZ m q).length<=1000:=by
 have:=zc1 m q.frm hm.cols
 simp only [Few] at this
 unfold zcZ
 cases !(zaf m q.frm).2 <;> cases !q.star <;> cases !(knS m q.frm).2 <;> simp [this]
theorem zzi (m:List Tb) {n:Nat} (tb:Str) (s:Sch) {x:Se} (fr:List Fr) (b:List Tg) (hx:XOk n x.ex):(asgR m n tb s x fr b).length<=1+ab n:=by
 have h1:=zde m fr hx
 unfold asgR
 cases zf9 tb s x&&!setR x.col b <;> simp only [cond_true,cond_false,List.length_append,List.length_cons,List.length_nil] <;> omega
theorem zpM {m:List Tb} (hm:FpL m) (hml:m.length<=900) {n:Nat} (hn:n<=6) (t:Tg) {a:Ac} (ha:AcLi n a) {ts:List Tg} (hts:TsLi n ts) (s:Sch) (fr inn:List Fr) :
  (a.rows.flatMap fun r=>r.flatMap fun x=>zas (zax t m) n [x] fr).length<=8000000/\(a.query.flatMap fun q=>accQ (zax t m) (zas (zax t m) n) q fr++zcZ (zax t m) q).length<=6000000/\(a.wh.flatMap fun x=>zas (zax t m) n [x] inn).length<=600000/\(a.sets.flatMap fun x=>asgR (zax t m) n a.table s x inn (appB a ts)).length<=2000000/\((appB a ts).flatMap fun x=>hidR m n x a s).length<=140000000:=by
 have h0:=zhM hn
 have h1:=zaz (l:=a.rows) (f:=fun r=>r.flatMap fun x=>zas (zax t m) n [x] fr) (C:=4 * ab n) fun r hr=>Nat.le_trans (zaz (C:=ab n) fun x hx=>zde _ _ ((ha.row r hr).2 x hx)) (Nat.mul_le_mul_right _ (ha.row r hr).1)
 have h2:=zaz (l:=a.query) (f:=fun q=>accQ (zax t m) (zas (zax t m) n) q fr++zcZ (zax t m) q) (C:=1+9 * ab n+1000) fun q hq=>by
  have g1:=zsX (zax t m) fr (ha.qs q hq).1.1 (ha.qs q hq).1.2 (ha.qs q hq).2.1 (ha.qs q hq).2.2
  have g2:=zyQ (zii hm hml t) q
  rw [List.length_append];omega
 have h3:=zaz (l:=a.wh) (f:=fun x=>zas (zax t m) n [x] inn) (C:=ab n) fun x hx=>zde _ _ (ha.w x hx)
 have h4:=zaz (l:=a.sets) (f:=fun x=>asgR (zax t m) n a.table s x inn (appB a ts)) (C:=1+ab n) fun x hx=>zzi _ _ _ _ _ (ha.set x hx)
 have h5:=zaz (l:=appB a ts) (f:=fun x=>hidR m n x a s) (C:=8500000) fun x hx=>ztB m hn (hts.app a x hx) a s
 have k1:=Nat.mul_le_mul_right (4 * ab n) ha.rows
 have k2:=Nat.mul_le_mul_right (1+9 * ab n+1000) ha.query
 have k3:=Nat.mul_le_mul_right (ab n) ha.wh
 have k4:=Nat.mul_le_mul_right (1+ab n) ha.sets
 have k5:=Nat.mul_le_mul_right 8500000 (zgA (a:=a) hts.len)
 refine ⟨?_,?_,?_,?_,?_⟩ <;> omega
theorem zkT (t:Tg) (a:Ac) (ts:List Tg) (m:List Tb) (n:Nat) (hn:n<=6) (hm:FpL m) (hml:m.length<=900) (ha:AcLi n a) (hk:1<=a.kind) (hts:TsLi n ts):zab E0 S.Am [t.av,a.av,.sl (ts.map Tg.cells),tsl m] [] (.sl ((zae [] (accR n t a ts m)).map Acc.cells)) []:=by
 have hM:=zii hm hml t
 have hso:=zc1 m t.table hm.cols
 have hsa:=zc1 m a.table hm.cols
 have hF:=zmW hm t
 have hI:FrB 6 (zar (frOf t m) (zaf m a.table).1 []):=hF.ins (zaD hsa)
 have hsh:=ha.sh
 have hP:=zpM hm hml hn t ha hts (zaf m a.table).1 (frOf t m) (zar (frOf t m) (zaf m a.table).1 [])
 have hlb:zac (appB a ts):=by have:=zgA (a:=a) hts.len;simp only [zac];omega
 have hstar:∀ q∈a.query,zab E0 S.Bx [q.av,tsl (zax t m)] [] (.sl ((zae [] (zcZ (zax t m) q)).map Acc.cells)) []:=fun q hq=>by
  have hf:=zc1 (zax t m) q.frm hM.cols
  obtain ⟨r,rfl,h⟩:=zAG (zax t m) q hM.col.short hM.col.cols (by simp only [Few] at hf;exact hf) (zaD hf)
  exact h
 have hasg:∀ x∈a.sets,zab E0 S.Ay [.agg x.cells,sv a.table,(zaf m a.table).1.av,.sl ((appB a ts).map Tg.cells),fsl (zar (frOf t m) (zaf m a.table).1 []),tsl (zax t m)] [] (.sl ((zae [] (asgR (zax t m) n a.table (zaf m a.table).1 x (zar (frOf t m) (zaf m a.table).1 []) (appB a ts))).map Acc.cells)) []:=fun x hx=>by
  have e1:=zde (zax t m) (zar (frOf t m) (zaf m a.table).1 []) (ha.set x hx)
  have e2:=za4 (zas (zax t m) n [x.ex] (zar (frOf t m) (zaf m a.table).1 [])) []
  have e3:=zhM hn
  obtain ⟨r,rfl,h⟩:=zzr (zax t m) n a.table (zaf m a.table).1 x (zar (frOf t m) (zaf m a.table).1 []) (appB a ts) (zaD hsa) (fun b hb=>⟨(hts.app a b hb).li.acts,(hts.app a b hb).li.sets⟩) (fun b hb=>by have:=(hts.app a b hb).sets;simp only [zac,List.length_map];omega) hlb (zho hM.col n x.ex _ hn (ha.set x hx) (hI.mono hn)) (zha _) (by simp only [List.length_nil] at e2;omega)
  exact h
 obtain ⟨r,rfl,h⟩:=zzq m t a ts (fun x=>zas (zax t m) n [x] (frOf t m)) (fun q=>accQ (zax t m) (zas (zax t m) n) q (frOf t m)) (fun q=>zcZ (zax t m) q) (fun x=>zas (zax t m) n [x] (zar (frOf t m) (zaf m a.table).1 [])) (fun x=>asgR (zax t m) n a.table (zaf m a.table).1 x (zar (frOf t m) (zaf m a.table).1 []) (appB a ts)) (fun x=>hidR m n x a (zaf m a.table).1) hm.col.short hm.col.cols (zaD hso) (by have:=zij t (zaf m t.table).1;simp only [zac];omega) (by rw [zcT];exact hF.short) (by simp [zac]) hk (by have:=hts.len;omega) (by have:=ha.sets;omega) (fun t ht=>(hts.sh t ht).of)
  (fun r hr x hx=>by rw [zcT];exact zho hM.col n x _ hn ((ha.row r hr).2 x hx) (hF.mono Zo)) (fun r hr=>(hsh.row r hr).1) hsh.rows
  (fun q hq=>by rw [zcT];exact rq_all hM.col n q _ hn (ha.qs q hq).1.1 (ha.qs q hq).1.2 (ha.qs q hq).2.1 (ha.qs q hq).2.2 (hF.mono Zo)) hstar hsh.query
  (fun x hx=>by rw [zcT];exact zho hM.col n x _ hn (ha.w x hx) (hI.mono hn)) hsh.wh
  (fun x hx=>by rw [zcT];exact hasg x hx) hsh.sets
  (fun x hx=>zqM m n x a _ hn hm.col (hts.app a x hx) (zaD hsa)) hlb Zo Zo
 exact h
theorem zdm {p:Prop} (h:p:=by first|assumption|((repeat (first|assumption|exact zbQ|refine srN ‹_› ?_));done)|exact rn1 ‹_› (Nat.zero_le _) Zo|(simp only [List.length_nil];omega)|(simp;done)):p:=h
theorem ztp {α:Type} {p q:α->Bool}:∀ {l:List α},(∀ x,p x=true->q x=false)->(l.filter p).length+(l.filter q).length<=l.length
 | [],_=>by simp
 | x::l,h=>by
  have:=ztp (l:=l) h
  have:=h x
  cases hp:p x <;> cases hq:q x <;> simp_all <;> omega
theorem zq0 {tb:Str} {ev:Int} {asg:List Str} {e:Bool} {t:Tg} (h:appl tb ev asg e t=true):t.each=e:=by
 unfold appl at h
 cases hb:t.before <;> cases ht:t.table.toList==tb.toList <;> cases he:t.event != ev <;> cases hc:t.each <;> cases e <;> simp [hb,ht,he,hc] at h ⊢
theorem zxD {a:Ac} {ts:List Tg} (h:ts.length<=8):(appB a ts).length<=8:=by
 have h1:=ztp (p:=appl a.table a.kind (asgS a) true) (q:=appl a.table a.kind (asgS a) false) (l:=ts) fun t ht=>by
  cases hq:appl a.table a.kind (asgS a) false t
  ·rfl
  ·exact absurd ((zq0 ht).symm.trans (zq0 hq)) Zd
 unfold appB
 cases decide (a.kind < 1) <;> cases decide (3 < a.kind) <;> simp only [cond_true,cond_false,List.length_append,List.length_nil] <;> omega
theorem zqZ {n:Nat} (hn:n<=6) {t:Tg} {a:Ac} {ts:List Tg} {m:List Tb} (hm:FpL m) (hml:m.length<=900) (ha:AcLi n a) (hts:TsLi n ts):(accR n t a ts m).length<=90000000:=by
 have hP:=zpM hm hml hn t ha hts (zaf m a.table).1 (frOf t m) (zar (frOf t m) (zaf m a.table).1 [])
 have h5:=zaz (l:=appB a ts) (f:=fun x=>hidR m n x a (zaf m a.table).1) (C:=8500000) fun x hx=>ztB m hn (hts.app a x hx) a _
 have k5:=Nat.mul_le_mul_right 8500000 (zxD (a:=a) hts.len)
 unfold accR actH
 cases a.kind==1 <;> cases a.kind==3 <;> cases a.kind==2 <;> simp only [cond_true,cond_false,List.length_append,List.length_cons,List.length_nil] <;> omega
noncomputable def L_ow (t:Tg) (own:Sch) (ts:List Tg) (m M:List Tb) (fr:List Fr) (f:X->List Acc) (k0:List Acc) (i:Nat) (out:List Acc):Cfg:=zan B.BC 0 [(1,.sl (ts.map Tg.cells)),(2,tsl m),(3,.p 0 0),(9,fsl fr),(10,tsl M),(11,.sl (out.map Acc.cells)),(35,xsl t.when_),(36,iv ((zad t.when_).length:Nat)),(37,iv (i:Nat))] [.box t.cells,.box own.cells]
theorem zmF (t:Tg) (own:Sch) (ts:List Tg) (m M:List Tb) (fr:List Fr) (f:X->List Acc) (k0:List Acc) (hf:∀ x∈t.when_,RxC M x fr (f x)) (hl:zac t.when_) (hks:AccS k0) (hB:k0.length+(t.when_.flatMap f).length<=300000000) (i:Nat) (out:List Acc) (hi:i<=(t.when_).length) (hI:out=zae k0 ((t.when_.take i).flatMap f)):∃ (out':List Acc),(out'=zae k0 ((t.when_.take (t.when_).length).flatMap f))/\(decide ((((t.when_).length:Nat):Int) < (((zad t.when_).length:Nat):Int))=false)/\∀ R,Good E0 B.BC [] (L_ow t own ts m M fr f k0 (t.when_).length out') R->Good E0 B.BC [] (L_ow t own ts m M fr f k0 i out) R:=by
 have hk:=hi;revert i out;refine zlp ((t.when_).length) (fun i hlt ih out hi hI _=>?_)
 obtain ⟨x,hx,h0,hw⟩:=zlq (l:=t.when_) ((zad t.when_).length) hlt
 have hso:=zel hks hI;have hro:=zgx hI hx hB;have hfx:=hf x (List.mem_of_getElem? hx)
 exact Zih (ih (zae out (zae [] (f x))) Zo (by exact zeB hks hI hx) Zo) fun R gY=>zaa (wkl [sb h0,se (zak hx),sc hfx,sc (zbz out (zae [] (f x)) (by first|assumption|omega|(simp;done)) (by first|assumption|omega|(simp;done))),si hw] [1,2,3,9,10,11,35,36,37] 2 kr gY)
theorem zmC (t:Tg) (own:Sch) (ts:List Tg) (m M:List Tb) (fr:List Fr) (f:X->List Acc) (hf:∀ x∈t.when_,RxC M x fr (f x)) (hl:zac t.when_) (ks:List Acc) (hks:AccS ks) (hB:ks.length+(t.when_.flatMap f).length<=300000000):∃ ks':List Acc,ks'=zae ks (t.when_.flatMap f)/\decide (((t.when_.length:Nat):Int) < (((zad t.when_).length:Nat):Int))=false/\∀ R,Good E0 B.BC [] (L_ow t own ts m M fr f ks t.when_.length ks') R->Good E0 B.BC [] (L_ow t own ts m M fr f ks 0 ks) R:=by
 obtain ⟨k',h1,h2,h3⟩:=zmF t own ts m M fr f ks hf hl hks hB 0 ks Zo (by simp [zae])
 exact ⟨k',by rw [h1,List.take_length],h2,h3⟩
noncomputable def L_oa (t:Tg) (own:Sch) (ts:List Tg) (m:List Tb) (f:Ac->List Acc) (k0:List Acc) (i:Nat) (out:List Acc):Cfg:=zan B.BC 1 [(1,.sl (ts.map Tg.cells)),(2,tsl m),(3,.p 0 0),(11,.sl (out.map Acc.cells)),(49,.sl (t.acts.map Ac.cells)),(50,iv ((t.acts.map Ac.cells).length:Nat)),(51,iv (i:Nat))] [.box t.cells,.box own.cells]
theorem zmE (t:Tg) (own:Sch) (ts:List Tg) (m:List Tb) (f:Ac->List Acc) (k0:List Acc) (hf:∀ a∈t.acts,zab E0 S.Am [t.av,a.av,.sl (ts.map Tg.cells),tsl m] [] (.sl ((zae [] (f a)).map Acc.cells)) []) (hl:zac t.acts) (hks:AccS k0) (hB:k0.length+(t.acts.flatMap f).length<=300000000) (i:Nat) (out:List Acc) (hi:i<=(t.acts).length) (hI:out=zae k0 ((t.acts.take i).flatMap f)):∃ (out':List Acc),(out'=zae k0 ((t.acts.take (t.acts).length).flatMap f))/\(decide ((((t.acts).length:Nat):Int) < (((t.acts.map Ac.cells).length:Nat):Int))=false)/\∀ R,Good E0 B.BC [] (L_oa t own ts m f k0 (t.acts).length out') R->Good E0 B.BC [] (L_oa t own ts m f k0 i out) R:=by
 have hk:=hi;revert i out;refine zlp ((t.acts).length) (fun i hlt ih out hi hI _=>?_)
 obtain ⟨x,hx,h0,hw⟩:=zlq (l:=t.acts) ((t.acts.map Ac.cells).length) hlt
 have hso:=zel hks hI;have hro:=zgx hI hx hB;have hfx:=hf x (List.mem_of_getElem? hx)
 exact Zih (ih (zae out (zae [] (f x))) Zo (by exact zeB hks hI hx) Zo) fun R gY=>zaa (wkl [sb h0,se (zai Ac.cells hx rfl),sc hfx,sc (zbz out (zae [] (f x)) (by first|assumption|omega|(simp;done)) (by first|assumption|omega|(simp;done))),si hw] [1,2,3,11,49,50,51] 2 kr gY)
theorem zmD (t:Tg) (own:Sch) (ts:List Tg) (m:List Tb) (f:Ac->List Acc) (hf:∀ a∈t.acts,zab E0 S.Am [t.av,a.av,.sl (ts.map Tg.cells),tsl m] [] (.sl ((zae [] (f a)).map Acc.cells)) []) (hl:zac t.acts) (ks:List Acc) (hks:AccS ks) (hB:ks.length+(t.acts.flatMap f).length<=300000000):∃ ks':List Acc,ks'=zae ks (t.acts.flatMap f)/\decide (((t.acts.length:Nat):Int) < (((t.acts.map Ac.cells).length:Nat):Int))=false/\∀ R,Good E0 B.BC [] (L_oa t own ts m f ks t.acts.length ks') R->Good E0 B.BC [] (L_oa t own ts m f ks 0 ks) R:=by
 obtain ⟨k',h1,h2,h3⟩:=zmE t own ts m f ks hf hl hks hB 0 ks Zo (by simp [zae])
 exact ⟨k',by rw [h1,List.take_length],h2,h3⟩
theorem of_y {b:Bool} {w f k1 k2:List Acc} (hb:b=false) (h1:k1=zae [] w) (h2:k2=zae k1 f):k2=zae [] (bif b then [] else w++f):=by
 rw [hb,cond_false,h2,h1,zaP]
theorem of_n {b:Bool} {w:List Acc} (hb:b=true):[]=zae [] (bif b then [] else w):=by rw [hb];rfl
theorem c_OfR (t:Tg) (ts:List Tg) (m:List Tb) (w:X->List Acc) (f:Ac->List Acc) (hm:zac m) (hc:∀ x∈m,zac x.sch.cols) (hso:zac (zaf m t.table).1.cols) (hst:zac (trS t (zaf m t.table).1)) (hsf:zac (zaJ t (zaf m t.table).1 [] [])) (hz:zac ([]:List V)) (hw:∀ x∈t.when_,RxC (m++trS t (zaf m t.table).1) x (zaJ t (zaf m t.table).1 [] []) (w x)) (hlw:zac t.when_) (hf:∀ a∈t.acts,zab E0 S.Am [t.av,a.av,.sl (ts.map Tg.cells),tsl m] [] (.sl ((zae [] (f a)).map Acc.cells)) []) (hla:zac t.acts) (hB:2+(t.when_.flatMap w).length+(t.acts.flatMap f).length<=300000000):∃ (r:List Acc),r=zae [] (bif t.before then [] else t.when_.flatMap w++t.acts.flatMap f)/\zab E0 S.BC [t.av,.sl (ts.map Tg.cells),tsl m] [] (.sl (r.map Acc.cells)) []:=by
 cases h1:t.before
 ·obtain ⟨ks2,q2,q2_1,g2⟩:=zmC t ((zaf m t.table).fst) ts m (m++trS t (zaf m t.table).fst) (zaJ t (zaf m t.table).fst [] []) w hw zdm ([]) zdm zdm
  obtain ⟨ks3,q3,q3_1,g3⟩:=zmD t ((zaf m t.table).fst) ts m f hf zdm ks2 zdm zdm
  exact ⟨ks3,(by first|exact of_y rfl ‹_› ‹_›|exact of_n rfl),wkcN At.BC [sb h1,sc (zbe m t.table zdm zdm),sc (zdz t ((zaf m t.table).fst) ([]) ([]) zdm zdm zdm),sc (zd3 t ((zaf m t.table).fst) zdm),sc (zki m (trS t (zaf m t.table).fst) zdm zdm),sqx True] [1,2,3,9,10,11,35,36,37] 2 [(.fz 11,2)] kr (g2 _ (zaa (wkl [sb q2_1] [1,2,3,11,49,50,51] 2 kr (g3 _ (zaa (wkr [sb q3_1] kr))))))⟩
 ·exact ⟨[],(by first|exact of_y rfl ‹_› ‹_›|exact of_n rfl),wk At.BC [sb h1] kr⟩
theorem zwO (t:Tg) (ts:List Tg) (m:List Tb) (n:Nat) (hn:n<=6) (hm:FpL m) (hml:m.length<=900) (ht:TgLi n t) (hk:∀ a∈t.acts,1<=a.kind) (hts:TsLi n ts):zab E0 S.BC [t.av,.sl (ts.map Tg.cells),tsl m] [] (.sl ((zae [] (bif t.before then [] else (t.when_.flatMap fun x=>zas (zax t m) n [x] (frOf t m))++t.acts.flatMap fun a=>accR n t a ts m)).map Acc.cells)) []:=by
 have hM:=zii hm hml t
 have hso:=zc1 m t.table hm.cols
 have hF:=zmW hm t
 have h0:=zhM hn
 have h1:=zaz (l:=t.when_) (f:=fun x=>zas (zax t m) n [x] (frOf t m)) (C:=ab n) fun x hx=>zde _ _ (ht.wh x hx)
 have h2:=zaz (l:=t.acts) (f:=fun a=>accR n t a ts m) (C:=90000000) fun a ha=>zqZ hn hm hml (ht.act a ha) hts
 have k1:=Nat.mul_le_mul_right (ab n) ht.whl
 have k2:=Nat.mul_le_mul_right 90000000 ht.acts
 obtain ⟨r,rfl,h⟩:=c_OfR t ts m (fun x=>zas (zax t m) n [x] (frOf t m)) (fun a=>accR n t a ts m) hm.col.short hm.col.cols (zaD hso) (by have:=zij t (zaf m t.table).1;simp only [zac];omega) (by rw [zcT];exact hF.short) (by simp [zac])
  (fun x hx=>by rw [zcT];exact zho hM.col n x _ hn (ht.wh x hx) (hF.mono Zo)) (by have:=ht.whl;simp only [zac];omega)
  (fun a ha=>zkT t a ts m n hn hm hml (ht.act a ha) (hk a ha) hts) (by have:=ht.acts;simp only [zac];omega) Zo
 exact h
theorem xOf_ok {n:Nat} {q:Qy} (h:(q.items.length<=8/\q.wh.length<=1)/\(∀ x∈q.items,XOk n x)/\∀ x∈q.wh,XOk n x):XOk (n+1) (xOf q):=by
 refine ⟨zb3,⟨by simp [xOf,Thin],by simp [xOf,Thin]⟩,fun x hx=>by simp [xOf] at hx,fun q' hq=>?_⟩
 simp only [xOf,X.sub_mk,List.mem_singleton] at hq
 subst hq
 exact ⟨⟨h.1.1,h.1.2⟩,h.2⟩
theorem zyc {n:Nat} {a:Ac} (h:AcLi n a):∀ x∈zb5 a,XOk (n+1) x:=fun x hx=>by
 unfold zb5 at hx
 simp only [List.mem_append,List.mem_flatMap,List.mem_map] at hx
 rcases hx with ((hx|⟨r,hr,hx⟩)|⟨q,hq,rfl⟩)|⟨s,hs,rfl⟩
 ·exact (h.w x hx).mono
 ·exact ((h.row r hr).2 x hx).mono
 ·exact xOf_ok (h.qs q hq)
 ·exact (h.set s hs).mono
theorem zq5 {n:Nat} {t:Tg} (h:TgLi n t):∀ x∈zdS t,XOk (n+1) x:=fun x hx=>by
 rcases List.mem_append.1 hx with hx|hx
 ·exact (h.wh x hx).mono
 ·obtain ⟨a,ha,hx⟩:=List.mem_flatMap.1 hx
  exact zyc (h.act a ha) x hx
theorem zpD (t:Tg) (n:Nat) (hn:n<=6) (h:TgLi n t):zab E0 S.A0 [t.av] [] (bv ((zdS t).any (nmQ (n+1)))) []:=by
 obtain ⟨r,rfl,hc⟩:=zAD t n ⟨trivial⟩ h.act h.acts h.whl (fun x hx=>namC (n+1) x qOLD Zo (zq5 h x hx)) (fun x hx=>namC (n+1) x qNEW Zo (zq5 h x hx))
 exact hc
theorem zu4 {n:Nat} {t:Tg} (h:TgLi n t):zac ((zbb t).map Se.col):=by
 have h1:=zaz (l:=t.acts) (f:=setQ) (C:=2) fun a ha=>zoO (h.sets a ha)
 have h2:=Nat.mul_le_mul_right 2 h.acts
 rw [zac,List.length_map,zbb];omega
theorem zuP (t:Tg) (n:Nat) (hn:n<=6) (h:TgLi n t):zab E0 S.B9 [t.av] [] (.tup [ssl (rowR n t).1,ssl (rowR n t).2]) []:=by
 obtain ⟨a,b,⟨rfl,rfl⟩,hc⟩:=c_RowY t n h.whl h.acts h.sets (zlE h) (fun x hx=>namC n x qNEW Zo (zjN h x hx)) (zu4 h)
 exact hc
end Go.AM
