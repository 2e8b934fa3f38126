/-
  Contracts of the program's functions, part 4.
-/
import Derived.Test.YtbieommhhfacmaaGreatCcD
import Derived.Carry
import Derived.ChangeSame
import Derived.Lib.LaidU8
import Derived.FnData
import Derived.ChangeArms
set_option linter.unusedSimpArgs false
set_option linter.unusedVariables false
namespace Go.AM
set_option maxRecDepth 100000
set_option maxHeartbeats 1000000
set_option linter.unusedSimpArgs false
set_option linter.unusedVariables false
theorem zos (m:List Tb) (wh:List X) (N:Nat) (ht:FpT m) (hw:ActW wh) (hT:TgSh N (tgW wh)) (hf:FrB 3 (frW m wh)) (hs0:AccS []) (hs1:AccS (zbP m wh (frW m wh) [])) (hl:(zbP m wh (frW m wh) []).length≤1000000000):∃ (r:List Acc),r=zbP m wh (frW m wh) []∧zaa E0 S.footprint_Of [(tgW wh).av,.sl ([tgW wh].map Tg.cells),tsl m] [] (.own 3 r.length) [.box (tgW wh).cells,.mp (r.map itA),.box [tsl m,.mp 1],.row Ty.Access (r.map Acc.cells) false]:=by
 obtain ⟨q1,g1⟩:=zct m ((acW wh).wh) ([]) (0)
 obtain ⟨q2,g2⟩:=zct m ((acW (acW wh).wh).wh) (zbP m (acW (acW wh).wh).wh [Fr.mk (ByteArray.mk #[79,76,68]) true (zag m (ByteArray.mk #[116])).fst.cols [],Fr.mk (ByteArray.mk #[78,69,87]) true (zag m (ByteArray.mk #[116])).fst.cols []] []) (0+1)
 exact ⟨zbP m (acW (acW wh).wh).wh [Fr.mk (ByteArray.mk #[79,76,68]) true (zag m (ByteArray.mk #[116])).fst.cols [],Fr.mk (ByteArray.mk #[78,69,87]) true (zag m (ByteArray.mk #[116])).fst.cols []] [],(by rfl),wkcK At.footprint_Of [sb (rfl:false=false),sc (ziL (tgW wh) m (by first|assumption|rfl) (by first|assumption|rfl)),sc (zf6 m),sl [2,1] (zdF m ([]) ([Fr.mk (ByteArray.mk #[79,76,68]) true (zag m (tgW wh).table).fst.cols [],Fr.mk (ByteArray.mk #[78,69,87]) true (zag m (tgW wh).table).fst.cols []]) (by first|assumption|rfl) (by first|assumption|rfl) (by first|assumption|rfl))] [1,7,9,28,29,30] 3 kr (g1 _ (zab (wkl [sb (rfl:true=true),se (xs:=[[iv (acW (acW wh).wh).kind,sv (acW (acW wh).wh).table,AV.sl [],AV.sl (zae []),AV.sl [[sv (ByteArray.mk #[109]),iv (xCol (ByteArray.mk #[78,69,87]) sNn).kind,iv (xCol (ByteArray.mk #[78,69,87]) sNn).op,bv (xCol (ByteArray.mk #[78,69,87]) sNn).not,iv (xCol (ByteArray.mk #[78,69,87]) sNn).val.kind,iv (xCol (ByteArray.mk #[78,69,87]) sNn).val.int,sv (xCol (ByteArray.mk #[78,69,87]) sNn).val.text,sv (xCol (ByteArray.mk #[78,69,87]) sNn).table,sv (xCol (ByteArray.mk #[78,69,87]) sNn).name,AV.sl (zad []),AV.sl (zae [])]],AV.sl (zad (acW (acW wh).wh).wh),sv (acW (acW wh).wh).text]]) (i:=0) (c:=[iv (acW (acW wh).wh).kind,sv (acW (acW wh).wh).table,AV.sl [],AV.sl (zae []),AV.sl [[sv (ByteArray.mk #[109]),iv (xCol (ByteArray.mk #[78,69,87]) sNn).kind,iv (xCol (ByteArray.mk #[78,69,87]) sNn).op,bv (xCol (ByteArray.mk #[78,69,87]) sNn).not,iv (xCol (ByteArray.mk #[78,69,87]) sNn).val.kind,iv (xCol (ByteArray.mk #[78,69,87]) sNn).val.int,sv (xCol (ByteArray.mk #[78,69,87]) sNn).val.text,sv (xCol (ByteArray.mk #[78,69,87]) sNn).table,sv (xCol (ByteArray.mk #[78,69,87]) sNn).name,AV.sl (zad []),AV.sl (zae [])]],AV.sl (zad (acW (acW wh).wh).wh),sv (acW (acW wh).wh).text]) (n:=7) ⟨by decide,rfl,rfl⟩,sd [(5,[sc (zeE ((acW (acW wh).wh).wh) ((acW (acW wh).wh).wh) N hT)]),(6,[sl [2,1] (zdt m ([]) ((acW (acW wh).wh).wh) ([Fr.mk (ByteArray.mk #[79,76,68]) true (zag m (ByteArray.mk #[116])).fst.cols [],Fr.mk (ByteArray.mk #[78,69,87]) true (zag m (ByteArray.mk #[116])).fst.cols []]) (by first|assumption|rfl) (by first|assumption|rfl) (by first|assumption|rfl) (by first|assumption|rfl))])],si (zaL (t:=(↑0:Int)+1) (n:=0+1) (by omega) (by omega))] [1,7,9,28,29,30] 3 kr (g2 _ (zab (wkrSK (y:=AV.own 3 (zbP m (acW (acW wh).wh).wh [Fr.mk (ByteArray.mk #[79,76,68]) true (zag m (ByteArray.mk #[116])).fst.cols [],Fr.mk (ByteArray.mk #[78,69,87]) true (zag m (ByteArray.mk #[116])).fst.cols []] []).length) (H:=[Blk.box [sv (tgW (acW (acW wh).wh).wh).name,sv (tgW (acW (acW wh).wh).wh).table,bv (tgW (acW (acW wh).wh).wh).before,iv (tgW (acW (acW wh).wh).wh).event,AV.sl [],bv (tgW (acW (acW wh).wh).wh).each,AV.sl [],AV.sl [],AV.sl [],AV.sl (zad []),AV.sl [[iv (acW (acW (acW wh).wh).wh).kind,sv (acW (acW (acW wh).wh).wh).table,AV.sl [],AV.sl (zae []),AV.sl [[sv (ByteArray.mk #[109]),iv (xCol (ByteArray.mk #[78,69,87]) sNn).kind,iv (xCol (ByteArray.mk #[78,69,87]) sNn).op,bv (xCol (ByteArray.mk #[78,69,87]) sNn).not,iv (xCol (ByteArray.mk #[78,69,87]) sNn).val.kind,iv (xCol (ByteArray.mk #[78,69,87]) sNn).val.int,sv (xCol (ByteArray.mk #[78,69,87]) sNn).val.text,sv (xCol (ByteArray.mk #[78,69,87]) sNn).table,sv (xCol (ByteArray.mk #[78,69,87]) sNn).name,AV.sl (zad []),AV.sl (zae [])]],AV.sl (zad (acW (acW (acW wh).wh).wh).wh),sv (acW (acW (acW wh).wh).wh).text]]],Blk.mp (List.map itA (zbP m (acW (acW wh).wh).wh [Fr.mk (ByteArray.mk #[79,76,68]) true (zag m (ByteArray.mk #[116])).fst.cols [],Fr.mk (ByteArray.mk #[78,69,87]) true (zag m (ByteArray.mk #[116])).fst.cols []] [])),Blk.box [AV.sl (List.map Tb.cells m),AV.mp 1],Blk.row Ty.Access (List.map Acc.cells (zbP m (acW (acW wh).wh).wh [Fr.mk (ByteArray.mk #[79,76,68]) true (zag m (ByteArray.mk #[116])).fst.cols [],Fr.mk (ByteArray.mk #[78,69,87]) true (zag m (ByteArray.mk #[116])).fst.cols []] [])) false]) [sb (rfl:false=false),sl [2,1] (zdr (AV.sl (List.map Tb.cells m)) (zbP m (acW (acW wh).wh).wh [Fr.mk (ByteArray.mk #[79,76,68]) true (zag m (ByteArray.mk #[116])).fst.cols [],Fr.mk (ByteArray.mk #[78,69,87]) true (zag m (ByteArray.mk #[116])).fst.cols []] []) (by first|assumption|rfl) (by first|assumption|rfl))] kr ⟨by first|rfl|(simp;done)|(simp [X.cells,Qy.cells,V.cells,Col.cells,Rw.cells,Tb.cells,Fr.cells,Sch.cells,Tp.cells,Pl.cells,Acc.cells,Ac.cells,Se.cells];done),by first|rfl|(simp;done)|(simp [X.cells,Qy.cells,V.cells,Col.cells,Rw.cells,Tb.cells,Fr.cells,Sch.cells,Tp.cells,Pl.cells,Acc.cells,Ac.cells,Se.cells];done)⟩))))))⟩
theorem zew (wh:List X) (hw:ActW wh) (r:List Acc) (hr:zbP zar wh (frW zar wh) []=r) (hl:r.length≤1000000000):zaa E0 S.footprint_Of [(tgW wh).av,.sl ([tgW wh].map Tg.cells),tsl zar] [] (.own 3 r.length) [.box (tgW wh).cells,.mp (r.map itA),.box [tsl zar,.mp 1],.row Ty.Access (r.map Acc.cells) false]:=by
 obtain ⟨q,rfl,h⟩:=zos zar wh 2 zc9 hw (zj2 hw) (frB_W wh) AccS.nil (znJ AccS.nil) (by rw [hr];exact hl)
 rw [hr] at h
 exact h
theorem zgX:zaa E0 S.footprint_Of [(tgW [exW]).av,.sl ([tgW [exW]].map Tg.cells),tsl zar] [] (.own 3 3) [.box (tgW [exW]).cells,.mp ([zai,aKey,aCol].map itA),.box [tsl zar,.mp 1],.row Ty.Access ([zai,aKey,aCol].map Acc.cells) false] :=
 zew [exW] zg5 _ fp_x (by simp)
theorem zg2:zaa E0 S.footprint_Of [(tgW []).av,.sl ([tgW []].map Tg.cells),tsl zar] [] (.own 3 2) [.box (tgW []).cells,.mp ([zai,aCol].map itA),.box [tsl zar,.mp 1],.row Ty.Access ([zai,aCol].map Acc.cells) false] :=
 zew [] zj0 _ fp_y (by simp)
def zf4 (a:Acc) (own:List Str):Bool :=
 bif !ByteArray.toList a.col==(ByteArray.mk #[]).toList then
  hasS own a.tab
 else
  false
theorem zbB (a:Acc) (own:List Str) (hl:zac own):zaa E0 S.commute_After_c1 [a.av,.p 0 0] [.box [ssl own]] (bv (zf4 a own)) [.box [ssl own]]:=by
 unfold zf4
 cases h1:!ByteArray.toList a.col==(ByteArray.mk #[]).toList
 ·exact wk At.commute_After_c1 [sb h1] kr
 ·exact wk At.commute_After_c1 [sg h1,sc (zbO own a.tab (by first|assumption|omega|(simp;done)|(simp;omega)))] kr
def zeg (a b:Acc):Bool :=
 bif !ByteArray.toList a.tab==ByteArray.toList b.tab then
  false
 else
  bif !ByteArray.toList a.col==(ByteArray.mk #[]).toList then
   bif a.mode==b.mode then
    bif a.mode==1 then
     bif ByteArray.toList a.col==ByteArray.toList b.col then
      !true
     else
      false
    else
     bif a.mode==3 then
      bif ByteArray.toList a.col==ByteArray.toList b.col then
       !true
      else
       false
     else
      bif ByteArray.toList a.col==ByteArray.toList b.col then
       !a.mode==(4:Int)
      else
       false
   else
    bif ByteArray.toList a.col==ByteArray.toList b.col then
     !false
    else
     false
  else
   bif !ByteArray.toList b.col==(ByteArray.mk #[]).toList then
    bif a.mode==b.mode then
     bif a.mode==1 then
      bif ByteArray.toList a.col==ByteArray.toList b.col then
       !true
      else
       false
     else
      bif a.mode==3 then
       bif ByteArray.toList a.col==ByteArray.toList b.col then
        !true
       else
        false
      else
       bif ByteArray.toList a.col==ByteArray.toList b.col then
        !a.mode==(4:Int)
       else
        false
    else
     bif ByteArray.toList a.col==ByteArray.toList b.col then
      !false
     else
      false
   else
    bif a.mode==6 then
     bif b.mode==5 then
      true
     else
      b.mode==(7:Int)
    else
     bif a.mode==7 then
      bif b.mode==5 then
       true
      else
       bif b.mode==6 then
        true
       else
        b.mode==(7:Int)
     else
      bif a.mode==5 then
       bif b.mode==6 then
        true
       else
        b.mode==(7:Int)
      else
       false
theorem zil (a b:Acc) :zaa E0 S.commute_clash [a.av,b.av] [] (bv (zeg a b)) []:=by
 unfold zeg
 cases h1:!ByteArray.toList a.tab==ByteArray.toList b.tab
 ·cases h2:!ByteArray.toList a.col==(ByteArray.mk #[]).toList
  ·cases h3:!ByteArray.toList b.col==(ByteArray.mk #[]).toList
   ·cases h4:a.mode==6
    ·cases h5:a.mode==7
     ·cases h6:a.mode==5
      ·exact wk At.commute_clash [sb h1,sg h2,sb h3,sb h4,sb h5,sb h6] kr
      ·let p_1:List St:=[sb h1,sg h2,sb h3,sb h4,sb h5,sg h6]
       cases h7:b.mode==6
       ·exact wk At.commute_clash (p_1++[sg h7]) kr
       ·exact wk At.commute_clash (p_1++[sb h7]) kr
     ·cases h8:b.mode==5
      ·let p_2:List St:=[sb h1,sg h2,sb h3,sb h4,sb h5,sg h8]
       cases h9:b.mode==6
       ·exact wk At.commute_clash (p_2++[sg h9]) kr
       ·exact wk At.commute_clash (p_2++[sb h9]) kr
      ·exact wk At.commute_clash [sb h1,sg h2,sb h3,sb h4,sb h5,sb h8] kr
    ·cases h10:b.mode==5
     ·exact wk At.commute_clash [sb h1,sg h2,sb h3,sb h4,sg h10] kr
     ·exact wk At.commute_clash [sb h1,sg h2,sb h3,sb h4,sb h10] kr
   ·cases h11:a.mode==b.mode
    ·cases h12:ByteArray.toList a.col==ByteArray.toList b.col
     ·exact wk At.commute_clash [sb h1,sg h2,sb h3,sb h11,sb h12] kr
     ·exact wk At.commute_clash [sb h1,sg h2,sb h3,sb h11,sg h12] kr
    ·cases h13:a.mode==1
     ·cases h14:a.mode==3
      ·let p_3:List St:=[sb h1,sg h2,sb h3,sg h11,sg h13,sg h14]
       cases h15:ByteArray.toList a.col==ByteArray.toList b.col
       ·exact wk At.commute_clash (p_3++[sb h15]) kr
       ·exact wk At.commute_clash (p_3++[sg h15]) kr
      ·let p_4:List St:=[sb h1,sg h2,sb h3,sg h11,sg h13,sb h14]
       cases h16:ByteArray.toList a.col==ByteArray.toList b.col
       ·exact wk At.commute_clash (p_4++[sb h16]) kr
       ·exact wk At.commute_clash (p_4++[sg h16]) kr
     ·cases h17:ByteArray.toList a.col==ByteArray.toList b.col
      ·exact wk At.commute_clash [sb h1,sg h2,sb h3,sg h11,sb h13,sb h17] kr
      ·exact wk At.commute_clash [sb h1,sg h2,sb h3,sg h11,sb h13,sg h17] kr
  ·cases h18:a.mode==b.mode
   ·cases h19:ByteArray.toList a.col==ByteArray.toList b.col
    ·exact wk At.commute_clash [sb h1,sb h2,sb h18,sb h19] kr
    ·exact wk At.commute_clash [sb h1,sb h2,sb h18,sg h19] kr
   ·cases h20:a.mode==1
    ·cases h21:a.mode==3
     ·cases h22:ByteArray.toList a.col==ByteArray.toList b.col
      ·exact wk At.commute_clash [sb h1,sb h2,sg h18,sg h20,sg h21,sb h22] kr
      ·exact wk At.commute_clash [sb h1,sb h2,sg h18,sg h20,sg h21,sg h22] kr
     ·cases h23:ByteArray.toList a.col==ByteArray.toList b.col
      ·exact wk At.commute_clash [sb h1,sb h2,sg h18,sg h20,sb h21,sb h23] kr
      ·exact wk At.commute_clash [sb h1,sb h2,sg h18,sg h20,sb h21,sg h23] kr
    ·cases h24:ByteArray.toList a.col==ByteArray.toList b.col
     ·exact wk At.commute_clash [sb h1,sb h2,sg h18,sb h20,sb h24] kr
     ·exact wk At.commute_clash [sb h1,sb h2,sg h18,sb h20,sg h24] kr
 ·exact wk At.commute_clash [sb h1] kr
def zbU (a b:Acc):Bool :=
 zeg a b
theorem zg1 (a b:Acc) :zaa E0 S.commute_Clash_c1 [b.av,.p 0 0] [.box a.cells] (bv (zbU a b)) [.box a.cells]:=by
 exact wk At.commute_Clash_c1 [sc (zil a b)] kr
end Go.AM
namespace Go.AM
set_option maxRecDepth 100000
set_option maxHeartbeats 1000000
set_option linter.unusedSimpArgs false
set_option linter.unusedVariables false
theorem zfa {p:Prop} (h:p:=by first|assumption|omega|(simp;done)|(simp;omega)):p:=h
noncomputable def L_clIx (a:Acc) (l:List Acc) (i:Nat) :Cfg:=zaq B.slices_IndexFunc_Access 0 [(0,.sl (l.map Acc.cells)),(1,.fn S.commute_Clash_c1 [.p 0 0]),(7,iv ((l.map Acc.cells).length:Nat)),(8,iv (i:Nat))] [.box a.cells]
def clIx (a:Acc) (l:List Acc):List (Acc)→Nat→Int
 | [],i =>
  -1
 | x::r,i =>
  bif zbU a x then
   (i:Int)
  else
   clIx a l r (i+1)
theorem zll (a:Acc) (l:List Acc) (hl:zac l):∀ (kk i:Nat),i+kk=(l).length→Good E0 B.slices_IndexFunc_Access [.box a.cells] (L_clIx a l i ) (Shut 1 fun r h=>r=(iv (clIx a l ((l).drop i) i ))∧h=[.box a.cells]):=by
 intro kk
 induction kk with
 | zero =>
  intro i  hi
  have h0:decide (((i:Nat):Int) < (((l.map Acc.cells).length:Nat):Int))=false:=by simp;omega
  have e0:(l).drop i=[]:=List.drop_of_length_le (by omega)
  rw [e0]
  simp only [clIx]
  refine zab ?_
  exact wkr [sb h0] kr
 | succ kk ih =>
  intro i  hi
  obtain ⟨x,hx⟩:=zbc (l:=l) (i:=i) (by omega)
  have h0:decide (((i:Nat):Int) < (((l.map Acc.cells).length:Nat):Int))=true:=by simp;omega
  have hw:=zaA i (by first|omega|(simp only [zac,Few] at *;omega))
  rw [zde hx]
  simp only [clIx]
  refine zab ?_
  let p_1:List St:=[sb h0,se (zao Acc.cells hx rfl),sl [0] (zg1 a x)]
  cases h1:zbU a x
  ·exact wkl (p_1++[sb h1,si hw]) [0,1,7,8] 1 kr (ih (i+1) (by omega) )
  ·exact wkr (p_1++[sb h1]) kr
def zhq (a:Acc) (l:List Acc):Int :=
 clIx a l l (0)
theorem zeG (a:Acc) (l:List Acc) (hl:zac l):zaa E0 S.slices_IndexFunc_Access [.sl (l.map Acc.cells),.fn S.commute_Clash_c1 [.p 0 0]] [.box a.cells] (iv (zhq a l)) [.box a.cells]:=by
 unfold zhq
 exact wkc At.slices_IndexFunc_Access [] [0,1,7,8] 1 kr (zll a l hl l.length 0 (by simp))
def zfi (a:Acc) (l:List Acc):Bool :=
 decide ((0:Int)≤zhq a l)
theorem zcb (a:Acc) (l:List Acc) (hl:zac l):zaa E0 S.slices_ContainsFunc_Access [.sl (l.map Acc.cells),.fn S.commute_Clash_c1 [.p 0 0]] [.box a.cells] (bv (zfi a l)) [.box a.cells]:=by
 exact wk At.slices_ContainsFunc_Access [sl [0] (zeG a l zfa)] kr
theorem zkq (a:Acc) (l:List Acc):∀ (r:List Acc) (i:Nat),decide ((0:Int)≤clIx a l r i)=r.any (zbU a)
 | [],i=>rfl
 | x::r,i=>by
  have ih:=zkq a l r (i+1)
  unfold clIx
  cases h:zbU a x
  ·simp only [cond_false,ih,List.any_cons,h,Bool.false_or]
  ·simp [h]
theorem zor (a:Acc) (l:List Acc):zfi a l=l.any (zbU a):=by
 unfold zfi zhq
 exact zkq a l l 0
theorem zkQ {α:Type} {f:α→Bool} {l:List α} {i:Nat} {x:α} (hx:l[i]?=some x) (h:f x=false) (hI:(l.take i).any f=false):(l.take (i+1)).any f=false:=by
 rw [List.take_add_one,hx,List.any_append,hI];simp [h]
theorem ziY {α:Type} {f:α→Bool} {l:List α} {i:Nat} {x:α} (hx:l[i]?=some x) (h:f x=true):true=l.any f:=by
 rw [eq_comm,List.any_eq_true]
 exact ⟨x,List.mem_of_getElem? hx,h⟩
noncomputable def L_cl (l q:List Acc) (i:Nat) :Cfg:=zaq B.commute_Clash 0 [(1,.sl (q.map Acc.cells)),(7,.sl (l.map Acc.cells)),(8,iv ((l.map Acc.cells).length:Nat)),(9,iv (i:Nat))] []
theorem zeW (l q:List Acc) (hl:zac l) (hq:zac q) (i:Nat)  (hi:i≤(l).length) (hI:(l.take i).any (fun a=>zfi a q)=false):(((l.take (l).length).any (fun a=>zfi a q)=false)∧(decide ((((l).length:Nat):Int) < (((l.map Acc.cells).length:Nat):Int))=false)∧∀ R,Good E0 B.commute_Clash [] (L_cl l q (l).length ) R→Good E0 B.commute_Clash [] (L_cl l q i ) R)∨(∃ (r:Bool),(r=l.any fun a=>zfi a q)∧Good E0 B.commute_Clash [] (L_cl l q i ) (Shut 0 fun rZ hZ=>rZ=(bv r)∧hZ=[])):=by
 obtain ⟨kk,hk⟩:∃ kk,i+kk=(l).length:=⟨(l).length - i,by omega⟩
 induction kk generalizing i  with
 | zero =>
  have e0:i=(l).length:=by omega
  subst e0
  exact .inl ⟨hI,by simp,fun R hg=>hg⟩
 | succ kk ih =>
  obtain ⟨x,hx⟩:=zbc (l:=l) (i:=i) (by omega)
  have h0:decide (((i:Nat):Int) < (((l.map Acc.cells).length:Nat):Int))=true:=by simp;omega
  have hw:IntKind.i64.wrap (((i:Nat):Int)+1)=((i+1:Nat):Int):=zaA i (by first|omega|(simp only [zac,Few] at *;omega))
  let p_1:List St:=[sb h0,se (zao Acc.cells hx rfl),sl [0] (zcb x q zfa)]
  cases h1:zfi x q
  ·exact (ih (i+1) (by omega) (by exact zkQ hx (by assumption) hI) (by omega)).elim (fun ⟨qZ,xZ,gZ⟩=>.inl ⟨qZ,xZ,fun R hg=>zab (wkl (p_1++[sb h1,si hw]) [1,7,8,9] 0 kr (gZ R hg))⟩) (fun ⟨rY,pZ,gZ⟩=>.inr ⟨rY,pZ,zab (wkl [sb h0,se (zao Acc.cells hx rfl),sl [0] (zcb x q zfa),sb h1,si hw] [1,7,8,9] 0 kr gZ)⟩)
  ·exact .inr ⟨true,(by exact ziY hx (by assumption)),zab (wkr (p_1++[sb h1]) kr)⟩
theorem zpc (l q:List Acc) (hl:zac l) (hq:zac q):∃ (r:Bool),(r=l.any fun a=>zfi a q)∧zaa E0 S.commute_Clash [.sl (l.map Acc.cells),.sl (q.map Acc.cells)] [] (bv r) []:=by
 rcases zeW l q zfa zfa 0 zfa zfa with ⟨q1,q1_1,g1⟩|⟨r1_0,p1_0,g1⟩
 ·exact ⟨false,(by first|assumption|(rw [List.take_length] at *;exact Eq.symm (by assumption))),wkc At.commute_Clash [] [1,7,8,9] 0 kr (g1 _ (zab (wkr [sb q1_1] kr)))⟩
 ·exact ⟨r1_0,(by first|assumption|(rw [List.take_length] at *;exact Eq.symm (by assumption))),wkc At.commute_Clash [] [1,7,8,9] 0 kr (g1)⟩
theorem zdL (l q:List Acc) (hl:zac l) (hq:zac q):zaa E0 S.commute_Clash [.sl (l.map Acc.cells),.sl (q.map Acc.cells)] [] (bv (l.any fun a=>q.any (zbU a))) []:=by
 obtain ⟨r,hr,h⟩:=zpc l q hl hq
 rw [show (l.any fun a=>q.any (zbU a))=r from by rw [hr];simp only [zor]]
 exact h
def zf2 (a b:Int):Bool :=
 bif a==6 then
  bif b==5 then
   true
  else
   b==(7:Int)
 else
  bif a==7 then
   bif b==5 then
    true
   else
    bif b==6 then
     true
    else
     b==(7:Int)
  else
   false
theorem zg0 (a b:Int) :zaa E0 S.ref29_rows [iv a,iv b] [] (bv (zf2 a b)) []:=by
 unfold zf2
 cases h1:a==6
 ·cases h2:a==7
  ·exact wk At.ref29_rows [sb h1,sb h2] kr
  ·cases h3:b==5
   ·cases h4:b==6
    ·exact wk At.ref29_rows [sb h1,sb h2,sg h3,sg h4] kr
    ·exact wk At.ref29_rows [sb h1,sb h2,sg h3,sb h4] kr
   ·exact wk At.ref29_rows [sb h1,sb h2,sb h3] kr
 ·cases h5:b==5
  ·exact wk At.ref29_rows [sb h1,sg h5] kr
  ·exact wk At.ref29_rows [sb h1,sb h5] kr
def zaN (a b:Acc):Bool :=
 bif !ByteArray.toList a.tab==ByteArray.toList b.tab then
  false
 else
  bif ByteArray.toList a.col==(ByteArray.mk #[]).toList then
   bif ByteArray.toList b.col==(ByteArray.mk #[]).toList then
    bif zf2 a.mode b.mode then
     true
    else
     zf2 b.mode a.mode
   else
    bif a.mode==b.mode then
     bif a.mode==1 then
      bif ByteArray.toList a.col==ByteArray.toList b.col then
       !true
      else
       false
     else
      bif a.mode==3 then
       bif ByteArray.toList a.col==ByteArray.toList b.col then
        !true
       else
        false
      else
       bif ByteArray.toList a.col==ByteArray.toList b.col then
        !a.mode==(4:Int)
       else
        false
    else
     bif ByteArray.toList a.col==ByteArray.toList b.col then
      !false
     else
      false
  else
   bif a.mode==b.mode then
    bif a.mode==1 then
     bif ByteArray.toList a.col==ByteArray.toList b.col then
      !true
     else
      false
    else
     bif a.mode==3 then
      bif ByteArray.toList a.col==ByteArray.toList b.col then
       !true
      else
       false
     else
      bif ByteArray.toList a.col==ByteArray.toList b.col then
       !a.mode==(4:Int)
      else
       false
   else
    bif ByteArray.toList a.col==ByteArray.toList b.col then
     !false
    else
     false
theorem zfs (a b:Acc) :zaa E0 S.ref29_clashes [a.av,b.av] [] (bv (zaN a b)) []:=by
 unfold zaN
 cases h1:!ByteArray.toList a.tab==ByteArray.toList b.tab
 ·cases h2:ByteArray.toList a.col==(ByteArray.mk #[]).toList
  ·cases h3:a.mode==b.mode
   ·cases h4:ByteArray.toList a.col==ByteArray.toList b.col
    ·exact wk At.ref29_clashes [sb h1,sb h2,sb h3,sb h4] kr
    ·exact wk At.ref29_clashes [sb h1,sb h2,sb h3,sg h4] kr
   ·cases h5:a.mode==1
    ·cases h6:a.mode==3
     ·cases h7:ByteArray.toList a.col==ByteArray.toList b.col
      ·exact wk At.ref29_clashes [sb h1,sb h2,sg h3,sg h5,sg h6,sb h7] kr
      ·exact wk At.ref29_clashes [sb h1,sb h2,sg h3,sg h5,sg h6,sg h7] kr
     ·cases h8:ByteArray.toList a.col==ByteArray.toList b.col
      ·exact wk At.ref29_clashes [sb h1,sb h2,sg h3,sg h5,sb h6,sb h8] kr
      ·exact wk At.ref29_clashes [sb h1,sb h2,sg h3,sg h5,sb h6,sg h8] kr
    ·cases h9:ByteArray.toList a.col==ByteArray.toList b.col
     ·exact wk At.ref29_clashes [sb h1,sb h2,sg h3,sb h5,sb h9] kr
     ·exact wk At.ref29_clashes [sb h1,sb h2,sg h3,sb h5,sg h9] kr
  ·cases h10:ByteArray.toList b.col==(ByteArray.mk #[]).toList
   ·cases h11:a.mode==b.mode
    ·cases h12:ByteArray.toList a.col==ByteArray.toList b.col
     ·exact wk At.ref29_clashes [sb h1,sg h2,sb h10,sb h11,sb h12] kr
     ·exact wk At.ref29_clashes [sb h1,sg h2,sb h10,sb h11,sg h12] kr
    ·cases h13:a.mode==1
     ·cases h14:a.mode==3
      ·let p_1:List St:=[sb h1,sg h2,sb h10,sg h11,sg h13,sg h14]
       cases h15:ByteArray.toList a.col==ByteArray.toList b.col
       ·exact wk At.ref29_clashes (p_1++[sb h15]) kr
       ·exact wk At.ref29_clashes (p_1++[sg h15]) kr
      ·let p_2:List St:=[sb h1,sg h2,sb h10,sg h11,sg h13,sb h14]
       cases h16:ByteArray.toList a.col==ByteArray.toList b.col
       ·exact wk At.ref29_clashes (p_2++[sb h16]) kr
       ·exact wk At.ref29_clashes (p_2++[sg h16]) kr
     ·cases h17:ByteArray.toList a.col==ByteArray.toList b.col
      ·exact wk At.ref29_clashes [sb h1,sg h2,sb h10,sg h11,sb h13,sb h17] kr
      ·exact wk At.ref29_clashes [sb h1,sg h2,sb h10,sg h11,sb h13,sg h17] kr
   ·let p_3:List St:=[sb h1,sg h2,sb h10,sc (zg0 a.mode b.mode)]
    cases h18:zf2 a.mode b.mode
    ·exact wk At.ref29_clashes (p_3++[sg h18,sc (zg0 b.mode a.mode)]) kr
    ·exact wk At.ref29_clashes (p_3++[sb h18]) kr
 ·exact wk At.ref29_clashes [sb h1] kr
end Go.AM
namespace Go.AM
set_option maxRecDepth 100000
set_option maxHeartbeats 1000000
set_option linter.unusedSimpArgs false
set_option linter.unusedVariables false
theorem zen {p:Prop} (h:p:=by first|assumption|omega|(simp;done)|(simp;omega)):p:=h
theorem zo8 {l q:List Acc} {i:Nat} {x:Acc} {r:Bool} (hx:l[i]?=some x) (h:q.any (zaN x)=true∧r=true):r=l.any fun a=>q.any (zaN a):=by
 rw [h.2];exact ziY (f:=fun a=>q.any (zaN a)) hx h.1
theorem clo_no {l q:List Acc} {i:Nat} {x:Acc} (hx:l[i]?=some x) (h:(q.take q.length).any (zaN x)=false) (hI:(l.take i).any (fun a=>q.any (zaN a))=false):(l.take (i+1)).any (fun a=>q.any (zaN a))=false:=by
 rw [List.take_length] at h
 exact zkQ (f:=fun a=>q.any (zaN a)) hx h hI
noncomputable def zl8 (l q:List Acc) (a:Acc) (io:Nat) (i:Nat) :Cfg:=zaq B.ref29_Clash 1 [(1,.sl (q.map Acc.cells)),(6,.p 0 0),(9,.sl (l.map Acc.cells)),(10,iv ((l.map Acc.cells).length:Nat)),(11,iv (io:Nat)),(15,.sl (q.map Acc.cells)),(16,iv ((q.map Acc.cells).length:Nat)),(17,iv (i:Nat))] [.box a.cells]
theorem zfh (l q:List Acc) (a:Acc) (io:Nat) (hl:zac l) (hq:zac q) (i:Nat)  (hi:i≤(q).length) (hI:(q.take i).any (zaN a)=false):(((q.take (q).length).any (zaN a)=false)∧(decide ((((q).length:Nat):Int) < (((q.map Acc.cells).length:Nat):Int))=false)∧∀ R,Good E0 B.ref29_Clash [] (zl8 l q a io (q).length ) R→Good E0 B.ref29_Clash [] (zl8 l q a io i ) R)∨(∃ (r:Bool),(q.any (zaN a)=true∧r=true)∧Good E0 B.ref29_Clash [] (zl8 l q a io i ) (Shut 0 fun rZ hZ=>rZ=(bv r)∧hZ=[])):=by
 obtain ⟨kk,hk⟩:∃ kk,i+kk=(q).length:=⟨(q).length - i,by omega⟩
 induction kk generalizing i  with
 | zero =>
  have e0:i=(q).length:=by omega
  subst e0
  exact .inl ⟨hI,by simp,fun R hg=>hg⟩
 | succ kk ih =>
  obtain ⟨x,hx⟩:=zbc (l:=q) (i:=i) (by omega)
  have h0:decide (((i:Nat):Int) < (((q.map Acc.cells).length:Nat):Int))=true:=by simp;omega
  have hw:IntKind.i64.wrap (((i:Nat):Int)+1)=((i+1:Nat):Int):=zaA i (by first|omega|(simp only [zac,Few] at *;omega))
  let p_1:List St:=[sb h0,se (zao Acc.cells hx rfl),sc (zfs a x)]
  cases h1:zaN a x
  ·exact (ih (i+1) (by omega) (by exact zkQ hx (by assumption) hI) (by omega)).elim (fun ⟨qZ,xZ,gZ⟩=>.inl ⟨qZ,xZ,fun R hg=>zab (wkl (p_1++[sb h1,si hw]) [1,6,9,10,11,15,16,17] 1 kr (gZ R hg))⟩) (fun ⟨rY,pZ,gZ⟩=>.inr ⟨rY,pZ,zab (wkl [sb h0,se (zao Acc.cells hx rfl),sc (zfs a x),sb h1,si hw] [1,6,9,10,11,15,16,17] 1 kr gZ)⟩)
  ·exact .inr ⟨true,(by exact ⟨(ziY hx (by assumption)).symm,rfl⟩),zab (wkr (p_1++[sb h1]) kr)⟩
noncomputable def zlV (l q:List Acc) (i:Nat) :Cfg:=zaq B.ref29_Clash 0 [(1,.sl (q.map Acc.cells)),(9,.sl (l.map Acc.cells)),(10,iv ((l.map Acc.cells).length:Nat)),(11,iv (i:Nat))] []
theorem zfg (l q:List Acc) (hl:zac l) (hq:zac q) (i:Nat)  (hi:i≤(l).length) (hI:(l.take i).any (fun a=>q.any (zaN a))=false):(((l.take (l).length).any (fun a=>q.any (zaN a))=false)∧(decide ((((l).length:Nat):Int) < (((l.map Acc.cells).length:Nat):Int))=false)∧∀ R,Good E0 B.ref29_Clash [] (zlV l q (l).length ) R→Good E0 B.ref29_Clash [] (zlV l q i ) R)∨(∃ (r:Bool),(r=l.any fun a=>q.any (zaN a))∧Good E0 B.ref29_Clash [] (zlV l q i ) (Shut 0 fun rZ hZ=>rZ=(bv r)∧hZ=[])):=by
 obtain ⟨kk,hk⟩:∃ kk,i+kk=(l).length:=⟨(l).length - i,by omega⟩
 induction kk generalizing i  with
 | zero =>
  have e0:i=(l).length:=by omega
  subst e0
  exact .inl ⟨hI,by simp,fun R hg=>hg⟩
 | succ kk ih =>
  obtain ⟨x,hx⟩:=zbc (l:=l) (i:=i) (by omega)
  have h0:decide (((i:Nat):Int) < (((l.map Acc.cells).length:Nat):Int))=true:=by simp;omega
  have hw:IntKind.i64.wrap (((i:Nat):Int)+1)=((i+1:Nat):Int):=zaA i (by first|omega|(simp only [zac,Few] at *;omega))
  let p_1:List St:=[sb h0,se (zao Acc.cells hx rfl)]
  rcases zfh l q x i zen zen 0 zen zen with ⟨q1,q1_1,g1⟩|⟨r1_0,p1_0,g1⟩
  ·exact (ih (i+1) (by omega) (by exact clo_no hx (by assumption) hI) (by omega)).elim (fun ⟨qZ,xZ,gZ⟩=>.inl ⟨qZ,xZ,fun R hg=>zab (wkl p_1 [1,6,9,10,11,15,16,17] 1 kr (g1 _ (zab (wkl [sb q1_1,si hw] [1,9,10,11] 0 kr (gZ R hg)))))⟩) (fun ⟨rY,pZ,gZ⟩=>.inr ⟨rY,pZ,zab (wkl [sb h0,se (zao Acc.cells hx rfl)] [1,6,9,10,11,15,16,17] 1 kr (g1 _ (zab (wkl [sb q1_1,si hw] [1,9,10,11] 0 kr gZ))))⟩)
  ·exact .inr ⟨r1_0,(by exact zo8 hx (by assumption)),zab (wkl p_1 [1,6,9,10,11,15,16,17] 1 kr g1)⟩
theorem znk (l q:List Acc) (hl:zac l) (hq:zac q):∃ (r:Bool),(r=l.any fun a=>q.any (zaN a))∧zaa E0 S.ref29_Clash [.sl (l.map Acc.cells),.sl (q.map Acc.cells)] [] (bv r) []:=by
 rcases zfg l q zen zen 0 zen zen with ⟨q1,q1_1,g1⟩|⟨r1_0,p1_0,g1⟩
 ·exact ⟨false,(by first|assumption|(rw [List.take_length] at *;exact Eq.symm (by assumption))),wkc At.ref29_Clash [] [1,9,10,11] 0 kr (g1 _ (zab (wkr [sb q1_1] kr)))⟩
 ·exact ⟨r1_0,(by first|assumption|(rw [List.take_length] at *;exact Eq.symm (by assumption))),wkc At.ref29_Clash [] [1,9,10,11] 0 kr (g1)⟩
theorem zjJ (l q:List Acc) (hl:zac l) (hq:zac q):zaa E0 S.ref29_Clash [.sl (l.map Acc.cells),.sl (q.map Acc.cells)] [] (bv (l.any fun a=>q.any (zaN a))) []:=by
 obtain ⟨r,rfl,h⟩:=znk l q hl hq
 exact h
end Go.AM
namespace Go.AM
set_option maxHeartbeats 4000000
theorem zjT (m:Int):m=5∨m=6∨m=7∨((m==5)=false∧(m==6)=false∧(m==7)=false):=by
 by_cases h5:m=5
 ·exact .inl h5
 ·by_cases h6:m=6
  ·exact .inr (.inl h6)
  ·by_cases h7:m=7
   ·exact .inr (.inr (.inl h7))
   ·exact .inr (.inr (.inr ⟨by simpa using h5,by simpa using h6,by simpa using h7⟩))
theorem zog (a b:Acc):zeg a b=zaN a b:=by
 unfold zeg zaN zf2
 generalize (ByteArray.toList a.tab==ByteArray.toList b.tab)=t
 generalize (ByteArray.toList a.col==(ByteArray.mk #[]).toList)=ca
 generalize (ByteArray.toList b.col==(ByteArray.mk #[]).toList)=cb
 generalize (ByteArray.toList a.col==ByteArray.toList b.col)=cc
 generalize a.mode=m
 generalize b.mode=n
 cases t
 ·rfl
 ·cases ca <;> cases cb <;> cases cc <;> simp only [Bool.not_true,Bool.not_false,cond_true,cond_false]
  all_goals
   rcases zjT m with rfl|rfl|rfl|⟨m5,m6,m7⟩ <;> rcases zjT n with rfl|rfl|rfl|⟨n5,n6,n7⟩ <;> first|rfl|(simp only [*];rfl)|(simp only [*];simp)|simp_all
theorem zjq (x y:Str):(ByteArray.toList x==ByteArray.toList y)=(ByteArray.toList y==ByteArray.toList x):=by
 rw [Bool.eq_iff_iff];simp only [beq_iff_eq];exact eq_comm
theorem eqF (m n:Int):m=n∨(m==n)=false∧(n==m)=false:=by
 rcases Decidable.em (m=n) with h|h
 ·exact .inl h
 ·exact .inr ⟨by simpa using h,by simpa using fun e=>h (Eq.symm e)⟩
theorem zmn (a b:Acc):zeg a b=zeg b a:=by
 unfold zeg
 rw [zjq b.tab a.tab,zjq b.col a.col]
 generalize (ByteArray.toList a.tab==ByteArray.toList b.tab)=t
 generalize (ByteArray.toList a.col==(ByteArray.mk #[]).toList)=ca
 generalize (ByteArray.toList b.col==(ByteArray.mk #[]).toList)=cb
 generalize (ByteArray.toList a.col==ByteArray.toList b.col)=cc
 generalize a.mode=m
 generalize b.mode=n
 cases t
 ·rfl
 ·cases ca <;> cases cb <;> cases cc <;> simp only [Bool.not_true,Bool.not_false,cond_true,cond_false]
  all_goals
   first
    | (rcases eqF m n with rfl|⟨h1,h2⟩;(next=>(first|rfl|(simp;done)));(next=>(first|(simp only [h1,h2,cond_false];done)|(simp [h1,h2];done))))
    | (rcases zjT m with rfl|rfl|rfl|⟨m5,m6,m7⟩ <;> rcases zjT n with rfl|rfl|rfl|⟨n5,n6,n7⟩ <;> first|rfl|(simp only [m5,m6,m7,n5,n6,n7,cond_false,cond_true,Bool.and_false,Bool.false_and,Bool.or_false];done)|(simp only [m5,m6,m7,n5,n6,n7];rfl)|(simp only [*];rfl)|(simp only [*];simp)|simp_all)
theorem zou {α:Type} {f:α→α→Bool} (hf:∀ a b,f a b=f b a) (l q:List α):(l.any fun a=>q.any (f a))=(q.any fun b=>l.any (f b)):=by
 rw [Bool.eq_iff_iff]
 simp only [List.any_eq_true]
 constructor
 ·rintro ⟨a,ha,b,hb,h⟩;exact ⟨b,hb,a,ha,by rw [hf];exact h⟩
 ·rintro ⟨b,hb,a,ha,h⟩;exact ⟨a,ha,b,hb,by rw [hf];exact h⟩
def za8 (l q:List Acc):Bool:=l.any fun a=>q.any (zbU a)
theorem zlU (l q:List Acc):(l.any fun a=>q.any (zaN a))=za8 l q:=by
 unfold za8
 have e:zaN=zbU:=by funext a b;exact (zog a b).symm
 rw [e]
theorem zlg (l q:List Acc):za8 l q=za8 q l:=zou (fun a b=>zmn a b) l q
theorem zmB (l:List Acc):za8 l []=false:=by simp [za8]
end Go.AM
namespace Go.AM
set_option maxRecDepth 100000
set_option maxHeartbeats 1000000
set_option linter.unusedSimpArgs false
set_option linter.unusedVariables false
theorem dr_0:zaa E0 S.commute_After_c1 [zai.av,.p 0 0] [.box [ssl [sUu]]] (bv false) [.box [ssl [sUu]]]:=by
 have h:=zbB zai [sUu] (by simp [zac])
 rw [show zf4 zai [sUu]=false from by kernel_rfl] at h
 exact h
theorem dr_1:zaa E0 S.commute_After_c1 [aKey.av,.p 0 0] [.box [ssl [sUu]]] (bv true) [.box [ssl [sUu]]]:=by
 have h:=zbB aKey [sUu] (by simp [zac])
 rw [show zf4 aKey [sUu]=true from by kernel_rfl] at h
 exact h
theorem dr_2:zaa E0 S.commute_After_c1 [aCol.av,.p 0 0] [.box [ssl [sUu]]] (bv true) [.box [ssl [sUu]]]:=by
 have h:=zbB aCol [sUu] (by simp [zac])
 rw [show zf4 aCol [sUu]=true from by kernel_rfl] at h
 exact h
theorem oe_0:OwnEl [zai.cells,aKey.cells,aCol.cells] 3 0 zai.cells:=⟨by simp,rfl⟩
theorem oe_1:OwnEl [zai.cells,aKey.cells,aCol.cells] 3 (0+1) aKey.cells:=⟨by simp,rfl⟩
theorem oe_2b:OwnEl [zai.cells,aKey.cells,aCol.cells] 3 2 aCol.cells:=⟨by simp,rfl⟩
noncomputable def L_dfI (i:Nat):Cfg:=zaq B.slices_IndexFunc_Access 0 [(0,.own 0 3),(1,.fn S.commute_After_c1 [.p 1 0]),(7,iv 3),(8,iv (i:Nat))] [.row Ty.Access [zai.cells,aKey.cells,aCol.cells] false,.box [ssl [sUu]]]
theorem zbE (i:Nat):True∧∀ R,Good E0 B.slices_IndexFunc_Access [.row Ty.Access [zai.cells,aKey.cells,aCol.cells] false,.box [ssl [sUu]]] (L_dfI i) R→Good E0 B.slices_IndexFunc_Access [.row Ty.Access [zai.cells,aKey.cells,aCol.cells] false,.box [ssl [sUu]]] (L_dfI i) R:=⟨trivial,fun _ h=>h⟩
theorem c_dfIx  (d0:zaa E0 S.commute_After_c1 [zai.av,.p 0 0] [.box [ssl [sUu]]] (bv false) [.box [ssl [sUu]]]) (d1:zaa E0 S.commute_After_c1 [aKey.av,.p 0 0] [.box [ssl [sUu]]] (bv true) [.box [ssl [sUu]]]) (e0:OwnEl [zai.cells,aKey.cells,aCol.cells] 3 0 zai.cells) (e1:OwnEl [zai.cells,aKey.cells,aCol.cells] 3 (0+1) aKey.cells):∃ (r:Int),r=1∧zaa E0 S.slices_IndexFunc_Access [.own 0 3,.fn S.commute_After_c1 [.p 1 0]] [.row Ty.Access [zai.cells,aKey.cells,aCol.cells] false,.box [ssl [sUu]]] (iv r) [.row Ty.Access [zai.cells,aKey.cells,aCol.cells] false,.box [ssl [sUu]]]:=by
 obtain ⟨q1,g1⟩:=zbE (0)
 obtain ⟨q2,g2⟩:=zbE (0+1)
 exact ⟨(↑(0+1):Int),(by rfl),wkc At.slices_IndexFunc_Access [sqx (3=3)] [0,1,7,8] 2 kr (g1 _ (zab (wkl [sb (rfl:true=true),sqx (OwnAt [[sv zai.tab,sv zai.col,iv zai.mode],[sv aKey.tab,sv aKey.col,iv aKey.mode],[sv aCol.tab,sv aCol.col,iv aCol.mode]] 3 (↑0:Int)),sx (.el zai.cells) e0,sl [1] d0,sb (rfl:false=false),si (zaL (t:=(↑0:Int)+1) (n:=0+1) (by omega) (by omega))] [0,1,7,8] 2 kr (g2 _ (zab (wkr [sb (rfl:true=true),sqx (OwnAt [[sv zai.tab,sv zai.col,iv zai.mode],[sv aKey.tab,sv aKey.col,iv aKey.mode],[sv aCol.tab,sv aCol.col,iv aCol.mode]] 3 (↑(0+1):Int)),sx (.el aKey.cells) e1,sl [1] d1,sb (rfl:true=true)] kr))))))⟩
theorem zdY:zaa E0 S.slices_IndexFunc_Access [.own 0 3,.fn S.commute_After_c1 [.p 1 0]] [.row Ty.Access [zai.cells,aKey.cells,aCol.cells] false,.box [ssl [sUu]]] (iv 1) [.row Ty.Access [zai.cells,aKey.cells,aCol.cells] false,.box [ssl [sUu]]]:=by
 obtain ⟨r,rfl,h⟩:=c_dfIx dr_0 dr_1 oe_0 oe_1
 exact h
noncomputable def L_dfD (j:Nat):Cfg:=zaq B.slices_DeleteFunc_Access 0 [(0,.own 0 3),(1,.fn S.commute_After_c1 [.p 1 0]),(5,iv 1),(6,iv (j:Nat))] [.row Ty.Access [zai.cells,aKey.cells,aCol.cells] false,.box [ssl [sUu]]]
theorem zbz (j:Nat):True∧∀ R,Good E0 B.slices_DeleteFunc_Access [.row Ty.Access [zai.cells,aKey.cells,aCol.cells] false,.box [ssl [sUu]]] (L_dfD j) R→Good E0 B.slices_DeleteFunc_Access [.row Ty.Access [zai.cells,aKey.cells,aCol.cells] false,.box [ssl [sUu]]] (L_dfD j) R:=⟨trivial,fun _ h=>h⟩
theorem c_dfD  (d2:zaa E0 S.commute_After_c1 [aCol.av,.p 0 0] [.box [ssl [sUu]]] (bv true) [.box [ssl [sUu]]]) (e2:OwnEl [zai.cells,aKey.cells,aCol.cells] 3 2 aCol.cells) (e3:OwnEl [zai.cells,aKey.cells,aCol.cells] 3 (1+1) aCol.cells):∃ (n:Nat),n=1∧zaa E0 S.slices_DeleteFunc_Access [.own 0 3,.fn S.commute_After_c1 [.p 1 0]] [.row Ty.Access [zai.cells,aKey.cells,aCol.cells] false,.box [ssl [sUu]]] (.os 0 3 0 n) [.row Ty.Access [zai.cells,[sv ⟨#[]⟩,sv ⟨#[]⟩,iv 0],[sv ⟨#[]⟩,sv ⟨#[]⟩,iv 0]] false,.box [ssl [sUu]]]:=by
 obtain ⟨q1,g1⟩:=zbz (1+1)
 obtain ⟨q2,g2⟩:=zbz (1+1+1)
 exact ⟨1,(by rfl),wkcK At.slices_DeleteFunc_Access [sl [0,1] zdY,sb (rfl:false=false),si (zaL (t:=1+1) (n:=1+1) (by omega) (by omega))] [0,1,5,6] 2 kr (g1 _ (zab (wkl [sqx (3=3),sb (rfl:true=true),sqx (OwnAt [[sv zai.tab,sv zai.col,iv zai.mode],[sv aKey.tab,sv aKey.col,iv aKey.mode],[sv aCol.tab,sv aCol.col,iv aCol.mode]] 3 (↑(1+1):Int)),sx (.el aCol.cells) e2,sl [1] d2,sb (rfl:false=false),si (zaL (t:=(↑(1+1):Int)+1) (n:=1+1+1) (by omega) (by omega))] [0,1,5,6] 2 kr (g2 _ (zab (wkrK [sqx (3=3),sb (rfl:false=false),sqx (OwnCut [[sv zai.tab,sv zai.col,iv zai.mode],[sv aKey.tab,sv aKey.col,iv aKey.mode],[sv aCol.tab,sv aCol.col,iv aCol.mode]] 3 0 1 (↑3:Int)),sqx (3=3),sqx (OwnCut [[sv zai.tab,sv zai.col,iv zai.mode],[sv (ByteArray.mk #[]),sv (ByteArray.mk #[]),iv 0],[sv (ByteArray.mk #[]),sv (ByteArray.mk #[]),iv 0]] 3 0 0 1)] kr))))))⟩
theorem zdS:zaa E0 S.slices_DeleteFunc_Access [.own 0 3,.fn S.commute_After_c1 [.p 1 0]] [.row Ty.Access [zai.cells,aKey.cells,aCol.cells] false,.box [ssl [sUu]]] (.os 0 3 0 1) [.row Ty.Access [zai.cells,[sv ⟨#[]⟩,sv ⟨#[]⟩,iv 0],[sv ⟨#[]⟩,sv ⟨#[]⟩,iv 0]] false,.box [ssl [sUu]]]:=by
 obtain ⟨n,rfl,h⟩:=c_dfD dr_2 oe_2b oe_2b
 exact h
end Go.AM
namespace Go.AM
set_option maxRecDepth 100000
set_option maxHeartbeats 1000000
set_option linter.unusedSimpArgs false
set_option linter.unusedVariables false
theorem dn_0:zaa E0 S.commute_After_c1 [zai.av,.p 0 0] [.box [.sl []]] (bv false) [.box [.sl []]]:=by
 have h:=zbB zai [] (by simp [zac])
 rw [show zf4 zai []=false from by kernel_rfl] at h
 exact h
theorem dn_1:zaa E0 S.commute_After_c1 [aCol.av,.p 0 0] [.box [.sl []]] (bv false) [.box [.sl []]]:=by
 have h:=zbB aCol [] (by simp [zac])
 rw [show zf4 aCol []=false from by kernel_rfl] at h
 exact h
theorem of_0:OwnEl [zai.cells,aCol.cells] 2 0 zai.cells:=⟨by simp,rfl⟩
theorem of_1:OwnEl [zai.cells,aCol.cells] 2 (0+1) aCol.cells:=⟨by simp,rfl⟩
noncomputable def L_dgI (i:Nat):Cfg:=zaq B.slices_IndexFunc_Access 0 [(0,.own 0 2),(1,.fn S.commute_After_c1 [.p 1 0]),(7,iv 2),(8,iv (i:Nat))] [.row Ty.Access [zai.cells,aCol.cells] false,.box [.sl []]]
theorem zaV (i:Nat):True∧∀ R,Good E0 B.slices_IndexFunc_Access [.row Ty.Access [zai.cells,aCol.cells] false,.box [.sl []]] (L_dgI i) R→Good E0 B.slices_IndexFunc_Access [.row Ty.Access [zai.cells,aCol.cells] false,.box [.sl []]] (L_dgI i) R:=⟨trivial,fun _ h=>h⟩
theorem c_dgIx  (d0:zaa E0 S.commute_After_c1 [zai.av,.p 0 0] [.box [.sl []]] (bv false) [.box [.sl []]]) (d1:zaa E0 S.commute_After_c1 [aCol.av,.p 0 0] [.box [.sl []]] (bv false) [.box [.sl []]]) (e0:OwnEl [zai.cells,aCol.cells] 2 0 zai.cells) (e1:OwnEl [zai.cells,aCol.cells] 2 (0+1) aCol.cells):∃ (r:Int),r=-1∧zaa E0 S.slices_IndexFunc_Access [.own 0 2,.fn S.commute_After_c1 [.p 1 0]] [.row Ty.Access [zai.cells,aCol.cells] false,.box [.sl []]] (iv r) [.row Ty.Access [zai.cells,aCol.cells] false,.box [.sl []]]:=by
 obtain ⟨q1,g1⟩:=zaV (0)
 obtain ⟨q2,g2⟩:=zaV (0+1)
 obtain ⟨q3,g3⟩:=zaV (0+1+1)
 exact ⟨-1,(by rfl),wkc At.slices_IndexFunc_Access [sqx (2=2)] [0,1,7,8] 2 kr (g1 _ (zab (wkl [sb (rfl:true=true),sqx (OwnAt [[sv zai.tab,sv zai.col,iv zai.mode],[sv aCol.tab,sv aCol.col,iv aCol.mode]] 2 (↑0:Int)),sx (.el zai.cells) e0,sl [1] d0,sb (rfl:false=false),si (zaL (t:=(↑0:Int)+1) (n:=0+1) (by omega) (by omega))] [0,1,7,8] 2 kr (g2 _ (zab (wkl [sb (rfl:true=true),sqx (OwnAt [[sv zai.tab,sv zai.col,iv zai.mode],[sv aCol.tab,sv aCol.col,iv aCol.mode]] 2 (↑(0+1):Int)),sx (.el aCol.cells) e1,sl [1] d1,sb (rfl:false=false),si (zaL (t:=(↑(0+1):Int)+1) (n:=0+1+1) (by omega) (by omega))] [0,1,7,8] 2 kr (g3 _ (zab (wkr [sb (rfl:false=false)] kr)))))))))⟩
theorem zdT:zaa E0 S.slices_IndexFunc_Access [.own 0 2,.fn S.commute_After_c1 [.p 1 0]] [.row Ty.Access [zai.cells,aCol.cells] false,.box [.sl []]] (iv (-1)) [.row Ty.Access [zai.cells,aCol.cells] false,.box [.sl []]]:=by
 obtain ⟨r,rfl,h⟩:=c_dgIx dn_0 dn_1 of_0 of_1
 exact h
theorem c_dgD  :∃ (n:Nat),n=2∧zaa E0 S.slices_DeleteFunc_Access [.own 0 2,.fn S.commute_After_c1 [.p 1 0]] [.row Ty.Access [zai.cells,aCol.cells] false,.box [.sl []]] (.own 0 n) [.row Ty.Access [zai.cells,aCol.cells] false,.box [.sl []]]:=by
 exact ⟨2,(by rfl),wkK At.slices_DeleteFunc_Access [sl [0,1] zdT,sb (rfl:true=true)] kr⟩
theorem zdQ:zaa E0 S.slices_DeleteFunc_Access [.own 0 2,.fn S.commute_After_c1 [.p 1 0]] [.row Ty.Access [zai.cells,aCol.cells] false,.box [.sl []]] (.own 0 2) [.row Ty.Access [zai.cells,aCol.cells] false,.box [.sl []]]:=by
 obtain ⟨n,rfl,h⟩:=c_dgD
 exact h
theorem zcn (ts:List Tg) (wh:List X):zaa E0 S.commute_keyed [(tgW wh).av,.sl (ts.map Tg.cells),tsl zar,sv zjR] [] (bv false) []:=by
 obtain ⟨r,rfl,h⟩:=zo6 wh ts
 exact h
theorem zjQ (tb:Str):VeR tb [exW] true:=zox tb 3 _ _ _ _
theorem zgR:zaa E0 S.commute_Keyed [(tgW [exW]).av,.sl ([tgW [exW]].map Tg.cells),tsl zar] [] (ssl [sUu]) []:=by
 have hT:=zj2 zg5
 obtain ⟨r,rfl,ht⟩:=zlW [exW] [tgW [exW]] (zbX sT1 [exW] 2 hT (zjQ sT1))
 obtain ⟨r,rfl,hu⟩:=c_kdU [tgW [exW]] (zbX sUu [exW] 2 hT (zjQ sUu)) (ziT [exW] 2 hT)
 obtain ⟨r,rfl,h⟩:=znm [exW] [tgW [exW]] (zcn _ _) ht hu
 exact h
theorem zgF:zaa E0 S.commute_Keyed [(tgW [exW]).av,.sl [],tsl zar] [] (ssl [sUu]) []:=by
 obtain ⟨r,rfl,ht⟩:=zlW [exW] [] (zeo sT1 [exW] (zjQ sT1))
 obtain ⟨r,rfl,hu⟩:=c_kdU [] (zeo sUu [exW] (zjQ sUu)) (zjc [exW])
 obtain ⟨r,rfl,h⟩:=znm [exW] [] (zcn _ _) ht hu
 exact h
theorem zgC:zaa E0 S.commute_Keyed [(tgW []).av,.sl ([tgW []].map Tg.cells),tsl zar] [] (ssl []) []:=by
 have hT:=zj2 zj0
 obtain ⟨r,rfl,ht⟩:=zlW [] [tgW []] (zbX sT1 [] 2 hT (zhv sT1))
 obtain ⟨r,rfl,hu⟩:=c_kdUn [tgW []] (zbX sUu [] 2 hT (zhv sUu))
 obtain ⟨r,rfl,h⟩:=c_KydN [] [tgW []] (zcn _ _) ht hu
 exact h
end Go.AM
namespace Go.AM
set_option maxRecDepth 100000
set_option maxHeartbeats 1000000
set_option linter.unusedSimpArgs false
set_option linter.unusedVariables false
theorem zc0 (wh:List X) (hw:ActW wh):zaa E0 S.footprint_UsesRow [(tgW wh).av] [] (bv true) []:=by
 obtain ⟨r,rfl,h⟩:=zoG wh hw
 exact h
theorem zgY:zaa E0 S.commute_Clash [.sl [zai.cells],.sl [zai.cells]] [] (bv false) []:=by
 have h:=zdL [zai] [zai] (by simp [zac]) (by simp [zac])
 rw [show ([zai].any fun a=>[zai].any (zbU a))=false from by kernel_rfl] at h
 exact h
theorem zgW:zaa E0 S.commute_Clash [.sl [zai.cells,aCol.cells],.sl [zai.cells,aCol.cells]] [] (bv true) []:=by
 have h:=zdL [zai,aCol] [zai,aCol] (by simp [zac]) (by simp [zac])
 rw [show ([zai,aCol].any fun a=>[zai,aCol].any (zbU a))=true from by kernel_rfl] at h
 exact h
theorem zha:zaa E0 S.commute_After [.sl ([tgW [exW]].map Tg.cells),tsl zar,iv 0,iv 0] [] (bv true) []:=by
 let ex:St:=se (zao (l:=[tgW [exW]]) (i:=0) Tg.cells (x:=tgW [exW]) rfl rfl)
 let rs:List St:=[sg (rfl:false=false),sb (rfl:false=false),sb (rfl:false=false),sg (rfl:false=false),sc (zc0 [exW] zg5),sb (rfl:false=false),sc zgR,sc zgX,sl [6,2] zdS,skx (3=3∧3=3∧True) [] zgY]
 exact wkDs At.commute_After [sg (rfl:false=false),sg (rfl:false=false),sg (rfl:false=false),sb (rfl:false=false)] 200 (zgj [(2,[ex]),(6,[ex])]) [[ex,ex],[ex,ex]] rs kr
theorem zgO:zaa E0 S.commute_After [.sl ([tgW []].map Tg.cells),tsl zar,iv 0,iv 0] [] (bv false) []:=by
 let ex:St:=se (zao (l:=[tgW []]) (i:=0) Tg.cells (x:=tgW []) rfl rfl)
 let rs:List St:=[sg (rfl:false=false),sb (rfl:false=false),sb (rfl:false=false),sg (rfl:false=false),sc (zc0 [] zj0),sb (rfl:false=false),sc zgC,sc zg2,sl [6,2] zdQ,skx (2=2∧2=2∧True) [] zgW]
 exact wkDs At.commute_After [sg (rfl:false=false),sg (rfl:false=false),sg (rfl:false=false),sb (rfl:false=false)] 200 (zgj [(2,[ex]),(6,[ex])]) [[ex,ex],[ex,ex]] rs kr
end Go.AM
namespace Go.AM
set_option maxRecDepth 100000
set_option maxHeartbeats 1000000
set_option linter.unusedSimpArgs false
set_option linter.unusedVariables false
theorem zfK:zaa E0 S.law29_writes [sv ⟨#[78,69,87]⟩] [] (tgW [exW]).av [] :=
 wk At.law29_writes [sc (zfB (ByteArray.mk #[78,69,87]) (ByteArray.mk #[110])),sc (zfB (ByteArray.mk #[117]) (ByteArray.mk #[105,100])),sc (zfB zeF (ByteArray.mk #[105,100])),sc (zlu 3 (xCol (ByteArray.mk #[117]) (ByteArray.mk #[105,100])) (xCol zeF (ByteArray.mk #[105,100])))] kr
noncomputable def L_tbs (l:List Sch) (i:Nat) (out:List Tb):Cfg:=zaq B.law29_tables 0 [(1,.own 0 out.length),(4,.sl (l.map Sch.cells)),(5,iv ((l.map Sch.cells).length:Nat)),(6,iv (i:Nat))] [.row Ty.Table (out.map Tb.cells) false]
theorem zeX (l:List Sch) (hl:l.length≤1000) (i:Nat) (out:List Tb) (hi:i≤(l).length) (hI:out=(l.take i).map (fun s=>Tb.mk s 1 [])):∃ (out':List Tb),(out'=(l.take (l).length).map (fun s=>Tb.mk s 1 []))∧(decide ((((l).length:Nat):Int) < (((l.map Sch.cells).length:Nat):Int))=false)∧∀ R,Good E0 B.law29_tables [] (L_tbs l (l).length out') R→Good E0 B.law29_tables [] (L_tbs l i out) R:=by
 obtain ⟨kk,hk⟩:∃ kk,i+kk=(l).length:=⟨(l).length - i,by omega⟩
 induction kk generalizing i out with
 | zero =>
  have e0:i=(l).length:=by omega
  subst e0
  exact ⟨out,hI,by simp,fun R hg=>hg⟩
 | succ kk ih =>
  obtain ⟨x,hx⟩:=zbc (l:=l) (i:=i) (by omega)
  have h0:decide (((i:Nat):Int) < (((l.map Sch.cells).length:Nat):Int))=true:=by simp;omega
  have hw:IntKind.i64.wrap (((i:Nat):Int)+1)=((i+1:Nat):Int):=zaA i (by first|omega|(simp only [zac,Few] at *;omega))
  have ho:out.length≤1000:=(by rw [hI,List.length_map,List.length_take];omega)
  obtain ⟨outZ,qZ,xZ,gZ⟩:=ih (i+1) (out++[Tb.mk x 1 []]) (by omega) (by (rw [List.take_add_one,hx,List.map_append,hI];rfl)) (by omega);exact ⟨outZ,qZ,xZ,fun R hg=>zab (wkl [sb h0,se (zao Sch.cells hx rfl),sqx (AllLen [[sv x.name,AV.sl (List.map Col.cells x.cols),iv 1,AV.sl []]] 4∧out.length=(List.map Tb.cells out).length∧(((List.map Tb.cells out).length+[[sv x.name,AV.sl (List.map Col.cells x.cols),iv 1,AV.sl []]].length) * 72).le 140737488355328),si hw] [1,4,5,6] 1 kr (za7 (show ([(1,AV.own 0 (List.map Tb.cells out++[[sv x.name,AV.sl (List.map Col.cells x.cols),iv 1,AV.sl []]]).length),(4,AV.sl (List.map Sch.cells l)),(5,iv (↑(List.map Sch.cells l).length:Int)),(6,iv (↑(i+1):Int))]:TS)=_ by first|rfl|(simp;done)|(simp [X.cells,Qy.cells,V.cells,Col.cells,Rw.cells,Tb.cells,Fr.cells,Sch.cells,Tp.cells,Pl.cells,Acc.cells,Ac.cells,Se.cells];done)) (show ([Blk.row Ty.Table (List.map Tb.cells out++[[sv x.name,AV.sl (List.map Col.cells x.cols),iv 1,AV.sl []]]) false]:Heap)=_ by first|rfl|(simp;done)|(simp [X.cells,Qy.cells,V.cells,Col.cells,Rw.cells,Tb.cells,Fr.cells,Sch.cells,Tp.cells,Pl.cells,Acc.cells,Ac.cells,Se.cells];done)) (gZ R hg)))⟩
theorem znS  (hsl:zbp.length≤1000):∃ (r:List Tb),r=(zbp.take zbp.length).map (fun s=>Tb.mk s 1 [])∧zaa E0 S.law29_tables [] [] (tsl r) []:=by
 obtain ⟨out1,q1,q1_1,g1⟩:=zeX zbp (by first|assumption|(simp;done)|omega|rfl) 0 ([]) (by first|assumption|(simp;done)|omega|rfl) (by first|assumption|(simp;done)|omega|rfl)
 exact ⟨out1,(by assumption),wkcN At.law29_tables [sc zin] [1,4,5,6] 0 [(.ot 1 Ty.Table,1)] kr (g1 _ (zab (wkr [sqx (out1.length=(List.map Tb.cells out1).length),sb (rfl:false=false)] kr)))⟩
theorem zd3:zaa E0 S.law29_tables [] [] (tsl zar) []:=by
 obtain ⟨r,rfl,h⟩:=znS (by decide +kernel)
 have e:((zbp.take zbp.length).map (fun s=>Tb.mk s 1 []))=zar:=by kernel_rfl
 rw [e] at h
 exact h
end Go.AM
namespace Go.AM
set_option maxRecDepth 100000
set_option maxHeartbeats 4000000
set_option linter.unusedSimpArgs false
set_option linter.unusedVariables false
def knTl:Code→Code
 | .seq _ b=>b
 | c=>c
def knHd:Code→Code
 | .seq a _=>a
 | c=>c
def knOps:Code→List Oper
 | .region _ ops _=>ops.toList
 | _=>[]
noncomputable def zk5:Code:=knTl (knTl (B.law29_known.body.getD .skip))
noncomputable def zmZ (k:Nat):List It:=[.ops (knOps (knHd zk5)) ((knOps (knHd zk5)).drop k),.code (knTl zk5)]
noncomputable def knC1:Cfg:=⟨B.law29_known.ntmps,zmZ 4,[(1,.p 0 0),(2,.p 1 0),(8,(acW [exW]).av)],[.box (tgW [exW]).cells,.box (tgW [exW]).cells]⟩
noncomputable def knC2:Cfg:=⟨B.law29_known.ntmps,zmZ 5,[(9,.own 2 1),(1,.p 0 0),(2,.p 1 0)],[.box (tgW [exW]).cells,.box (tgW [exW]).cells,.row Ty.Action [(acW [exW]).cells] false]⟩
theorem oe_act:OwnEl [(acW [exW]).cells] 1 0 (acW [exW]).cells:=⟨by simp,rfl⟩
noncomputable def L_eqs (i:Nat):Cfg:=zaq B.slices_Equal_string 0 [(0,.sl [[sv sUu]]),(1,.sl [[sv sUu]]),(12,iv 1),(13,iv (i:Nat))] []
theorem zbS (i:Nat):True∧∀ R,Good E0 B.slices_Equal_string [] (L_eqs i) R→Good E0 B.slices_Equal_string [] (L_eqs i) R:=⟨trivial,fun _ h=>h⟩
theorem c_eqU  :∃ (r:Bool),r=true∧zaa E0 S.slices_Equal_string [ssl [sUu],ssl [sUu]] [] (bv r) []:=by
 obtain ⟨q1,g1⟩:=zbS (0)
 obtain ⟨q2,g2⟩:=zbS (0+1)
 exact ⟨true,(by rfl),wkc At.slices_Equal_string [sb (rfl:false=false)] [0,1,12,13] 0 kr (g1 _ (zab (wkl [sb (rfl:true=true),sd [(2,[se (xs:=[[sv sUu]]) (i:=0) (c:=[sv sUu]) (n:=1) ⟨by decide,rfl,rfl⟩]),(6,[se (xs:=[[sv sUu]]) (i:=0) (c:=[sv sUu]) (n:=1) ⟨by decide,rfl,rfl⟩])],sb (rfl:false=false),si (zaL (t:=(↑0:Int)+1) (n:=0+1) (by omega) (by omega))] [0,1,12,13] 0 kr (g2 _ (zab (wkr [sb (rfl:false=false)] kr))))))⟩
theorem c_knE (e0:OwnEl [(acW [exW]).cells] 1 0 (acW [exW]).cells) (kq:zaa E0 S.slices_Equal_string [ssl [sUu],ssl [sUu]] [] (bv true) []):∃ (r:Bool),r=true∧Good E0 B.law29_known [] knC2 (Shut 0 fun rZ hZ=>rZ=(bv r)∧hZ=[]):=by
  exact ⟨bif bif true then !false else false then true else false,(by rfl),wkr [sqx (OwnAt [[iv (acW [exW]).kind,sv (acW [exW]).table,AV.sl [],AV.sl (zae []),AV.sl [[sv (ByteArray.mk #[109]),iv (xCol (ByteArray.mk #[78,69,87]) sNn).kind,iv (xCol (ByteArray.mk #[78,69,87]) sNn).op,bv (xCol (ByteArray.mk #[78,69,87]) sNn).not,iv (xCol (ByteArray.mk #[78,69,87]) sNn).val.kind,iv (xCol (ByteArray.mk #[78,69,87]) sNn).val.int,sv (xCol (ByteArray.mk #[78,69,87]) sNn).val.text,sv (xCol (ByteArray.mk #[78,69,87]) sNn).table,sv (xCol (ByteArray.mk #[78,69,87]) sNn).name,AV.sl (zad []),AV.sl (zae [])]],AV.sl (zad [exW]),sv (acW [exW]).text]] 1 0),sx (.el ((acW [exW]).cells)) (And.intro (owed (p:=True∧True)) e0),sdp [(2,[sc zd3]),(3,[sc zha]),(5,[sg (rfl:true=true)]),(6,[so (rfl:true=true) (sqx (True∧True∧True∧True∧True∧True∧True∧True∧True∧True∧1=1∧True))]),(7,[so (rfl:true=true) (sc zd3)]),(8,[so (rfl:true=true) (sc zgO)]),(9,[sg (rfl:true=true)]),(12,[sg (rfl:true=true)]),(15,[sg (rfl:true=true)]),(13,[so (rfl:true=true) (sc zd3)]),(14,[so (rfl:true=true) (sc zgF)]),(16,[so (rfl:true=true) (sc kq)])] [[2,3,5,7,6,8,9,12,15,13,14,16]] [(0,bv (bif bif true then !false else false then true else false)),(1,AV.p 0 0),(2,AV.p 1 0),(9,AV.own 2 1),(10,AV.p 1 10),(11,AV.p 1 10),(12,AV.own 2 1),(13,AV.ep 2 1 0 0),(14,AV.ep 2 1 0 5),(15,AV.agg [sv (tgW [exW]).name,sv (tgW [exW]).table,bv (tgW [exW]).before,iv (tgW [exW]).event,AV.sl [],bv (tgW [exW]).each,AV.sl [],AV.sl [],AV.sl [],AV.sl (zad []),AV.sl [[iv (acW [exW]).kind,sv (acW [exW]).table,AV.sl [],AV.sl (zae []),AV.sl [[sv (ByteArray.mk #[109]),iv (xCol (ByteArray.mk #[78,69,87]) sNn).kind,iv (xCol (ByteArray.mk #[78,69,87]) sNn).op,bv (xCol (ByteArray.mk #[78,69,87]) sNn).not,iv (xCol (ByteArray.mk #[78,69,87]) sNn).val.kind,iv (xCol (ByteArray.mk #[78,69,87]) sNn).val.int,sv (xCol (ByteArray.mk #[78,69,87]) sNn).val.text,sv (xCol (ByteArray.mk #[78,69,87]) sNn).table,sv (xCol (ByteArray.mk #[78,69,87]) sNn).name,AV.sl (zad []),AV.sl (zae [])]],AV.sl (zad [exW]),sv (acW [exW]).text]]]),(16,AV.sl [[sv (tgW [exW]).name,sv (tgW [exW]).table,bv (tgW [exW]).before,iv (tgW [exW]).event,AV.sl [],bv (tgW [exW]).each,AV.sl [],AV.sl [],AV.sl [],AV.sl (zad []),AV.sl [[iv (acW [exW]).kind,sv (acW [exW]).table,AV.sl [],AV.sl (zae []),AV.sl [[sv (ByteArray.mk #[109]),iv (xCol (ByteArray.mk #[78,69,87]) sNn).kind,iv (xCol (ByteArray.mk #[78,69,87]) sNn).op,bv (xCol (ByteArray.mk #[78,69,87]) sNn).not,iv (xCol (ByteArray.mk #[78,69,87]) sNn).val.kind,iv (xCol (ByteArray.mk #[78,69,87]) sNn).val.int,sv (xCol (ByteArray.mk #[78,69,87]) sNn).val.text,sv (xCol (ByteArray.mk #[78,69,87]) sNn).table,sv (xCol (ByteArray.mk #[78,69,87]) sNn).name,AV.sl (zad []),AV.sl (zae [])]],AV.sl (zad [exW]),sv (acW [exW]).text]]]]),(17,AV.sl (List.map Tb.cells zar)),(18,bv true),(19,bv true),(20,AV.agg [sv (tgW [exW]).name,sv (tgW [exW]).table,bv (tgW [exW]).before,iv (tgW [exW]).event,AV.sl [],bv (tgW [exW]).each,AV.sl [],AV.sl [],AV.sl [],AV.sl (zad []),AV.own 2 1]),(21,AV.sl [[sv (tgW [exW]).name,sv (tgW [exW]).table,bv (tgW [exW]).before,iv (tgW [exW]).event,AV.sl [],bv (tgW [exW]).each,AV.sl [],AV.sl [],AV.sl [],AV.sl (zad []),AV.sl [[iv (acW [exW]).kind,sv (acW [exW]).table,AV.sl [],AV.sl (zae []),AV.sl [[sv (ByteArray.mk #[109]),iv (xCol (ByteArray.mk #[78,69,87]) sNn).kind,iv (xCol (ByteArray.mk #[78,69,87]) sNn).op,bv (xCol (ByteArray.mk #[78,69,87]) sNn).not,iv (xCol (ByteArray.mk #[78,69,87]) sNn).val.kind,iv (xCol (ByteArray.mk #[78,69,87]) sNn).val.int,sv (xCol (ByteArray.mk #[78,69,87]) sNn).val.text,sv (xCol (ByteArray.mk #[78,69,87]) sNn).table,sv (xCol (ByteArray.mk #[78,69,87]) sNn).name,AV.sl (zad []),AV.sl (zae [])]],AV.sl [],sv (acW [exW]).text]]]]),(22,AV.sl (List.map Tb.cells zar)),(23,bv false),(24,bv !false),(25,bv (bif true then !false else false)),(26,bv (bif true then !false else false)),(27,AV.agg [sv (tgW [exW]).name,sv (tgW [exW]).table,bv (tgW [exW]).before,iv (tgW [exW]).event,AV.sl [],bv (tgW [exW]).each,AV.sl [],AV.sl [],AV.sl [],AV.sl (zad []),AV.sl [[iv (acW [exW]).kind,sv (acW [exW]).table,AV.sl [],AV.sl (zae []),AV.sl [[sv (ByteArray.mk #[109]),iv (xCol (ByteArray.mk #[78,69,87]) sNn).kind,iv (xCol (ByteArray.mk #[78,69,87]) sNn).op,bv (xCol (ByteArray.mk #[78,69,87]) sNn).not,iv (xCol (ByteArray.mk #[78,69,87]) sNn).val.kind,iv (xCol (ByteArray.mk #[78,69,87]) sNn).val.int,sv (xCol (ByteArray.mk #[78,69,87]) sNn).val.text,sv (xCol (ByteArray.mk #[78,69,87]) sNn).table,sv (xCol (ByteArray.mk #[78,69,87]) sNn).name,AV.sl (zad []),AV.sl (zae [])]],AV.sl (zad [exW]),sv (acW [exW]).text]]]),(28,AV.sl (List.map Tb.cells zar)),(29,AV.sl [[sv sUu]]),(30,AV.sl [[sv (ByteArray.mk #[117])]]),(31,bv true),(32,bv (bif bif true then !false else false then true else false))] [Blk.box [sv (tgW [exW]).name,sv (tgW [exW]).table,bv (tgW [exW]).before,iv (tgW [exW]).event,AV.sl [],bv (tgW [exW]).each,AV.sl [],AV.sl [],AV.sl [],AV.sl (zad []),AV.sl [[iv (acW [exW]).kind,sv (acW [exW]).table,AV.sl [],AV.sl (zae []),AV.sl [[sv (ByteArray.mk #[109]),iv (xCol (ByteArray.mk #[78,69,87]) sNn).kind,iv (xCol (ByteArray.mk #[78,69,87]) sNn).op,bv (xCol (ByteArray.mk #[78,69,87]) sNn).not,iv (xCol (ByteArray.mk #[78,69,87]) sNn).val.kind,iv (xCol (ByteArray.mk #[78,69,87]) sNn).val.int,sv (xCol (ByteArray.mk #[78,69,87]) sNn).val.text,sv (xCol (ByteArray.mk #[78,69,87]) sNn).table,sv (xCol (ByteArray.mk #[78,69,87]) sNn).name,AV.sl (zad []),AV.sl (zae [])]],AV.sl (zad [exW]),sv (acW [exW]).text]]],Blk.box [sv (tgW [exW]).name,sv (tgW [exW]).table,bv (tgW [exW]).before,iv (tgW [exW]).event,AV.sl [],bv (tgW [exW]).each,AV.sl [],AV.sl [],AV.sl [],AV.sl (zad []),AV.own 2 1],Blk.row Ty.Action [[iv (acW [exW]).kind,sv (acW [exW]).table,AV.sl [],AV.sl (zae []),AV.sl [[sv (ByteArray.mk #[109]),iv (xCol (ByteArray.mk #[78,69,87]) sNn).kind,iv (xCol (ByteArray.mk #[78,69,87]) sNn).op,bv (xCol (ByteArray.mk #[78,69,87]) sNn).not,iv (xCol (ByteArray.mk #[78,69,87]) sNn).val.kind,iv (xCol (ByteArray.mk #[78,69,87]) sNn).val.int,sv (xCol (ByteArray.mk #[78,69,87]) sNn).val.text,sv (xCol (ByteArray.mk #[78,69,87]) sNn).table,sv (xCol (ByteArray.mk #[78,69,87]) sNn).name,AV.sl (zad []),AV.sl (zae [])]],AV.sl [],sv (acW [exW]).text]] true]] kr⟩
theorem k_eqU:zaa E0 S.slices_Equal_string [ssl [sUu],ssl [sUu]] [] (bv true) []:=by
 obtain ⟨r,rfl,h⟩:=c_eqU
 exact h
theorem kn_1:zl4 E0 knC1=some (Ty.Action,1,(acW [exW]).cells):=by kernel_rfl
theorem kn_2:frzB knC1.h (acW [exW]).cells=none:=by kernel_rfl
theorem kn_3:zaI (acW [exW]).cells=[]:=by kernel_rfl
theorem kn_4:zbJ (E0.T Ty.Action).size 1 (frzL knC1.h (acW [exW]).cells)=[(acW [exW]).cells]:=by kernel_rfl
noncomputable def knC15:Cfg:=zht knC1 Ty.Action 1 [(acW [exW]).cells]
theorem kn_cut:upto (mk E0) [9,1,2] 3 0 knC15 (orcs [])=(zaB [],knC2):=by kernel_rfl
theorem zeu:zaa E0 S.law29_known [] [] (bv true) []:=by
 obtain ⟨r,rfl,hE⟩:=c_knE oe_act k_eqU
 refine zb4 (zax At.law29_known rfl kr (by show 0≤_;decide) (zci E0ok mix0 19 [sc zfK,sc zfK,se (zao (l:=[acW [exW]]) (i:=0) Ac.cells (x:=acW [exW]) rfl rfl)] [1,2,8] 2 (c':=knC1) rfl kr (zon E0ok kn_1 (by decide) kn_2 kn_3 ?_)))
 rw [kn_4]
 exact zci E0ok mix0 0 [] [9,1,2] 3 rfl kn_cut hE
end Go.AM
namespace Go.AM
set_option maxRecDepth 100000
set_option maxHeartbeats 4000000
set_option linter.unusedSimpArgs false
set_option linter.unusedVariables false
theorem zgP {p:Prop} (h:p:=by first|assumption|omega|(simp;done)|(simp;omega)):p:=h
noncomputable def L_acs (t0:Tp) (k:Nat) (u:Tp) (l:List Acc):Cfg:=zaq B.law29_accesses 0 [(0,.p 0 0),(3,.own 1 l.length),(4,iv (k:Nat))] [.box u.cells,.row Ty.Access (l.map Acc.cells) false]
theorem zet (t0:Tp)  (k:Nat) (u:Tp) (l:List Acc) (hi:k≤1000000000) (hI:l.length+k≤3):∃ (u':Tp) (l':List Acc),(l'.length+0≤3)∧(decide ((0:Int) < ((0:Nat):Int))=false)∧∀ R,Good E0 B.law29_accesses [.box t0.cells] (L_acs t0 0 u' l') R→Good E0 B.law29_accesses [.box t0.cells] (L_acs t0 k u l) R:=by
 induction k generalizing u l with
 | zero=>exact ⟨u,l,hI,by decide,fun R hg=>hg⟩
 | succ k ih =>
  have h0:decide ((0:Int) < (((k+1):Nat):Int))=true:=by first|(simp;done)|(simp;omega)
  have hw:IntKind.i64.wrap (((k+1:Nat):Int) - 1)=((k:Nat):Int):=zjw k (by omega)
  have hll:l.length≤3:=by omega
  obtain ⟨a1,t1,q1,c1⟩:=(zb7 u 2 zgP)
  obtain ⟨a2,t2,q2,c2⟩:=(zb7 t1 7 zgP)
  let p_1:List St:=[sb h0,sdm [(2,[sl [0] c1]),(3,[se (el_tu a1 zgP)]),(6,[sl [0] c2]),(7,[si (zaL (t:=1+(a2:Int)) (n:=1+a2) (by omega) (by omega))])] 1 [(0,AV.p 0 0),(3,AV.own 1 l.length),(4,iv (↑(k+1):Int)),(5,AV.p 2 0),(8,iv (↑(k+1):Int)),(9,AV.bl true),(12,AV.sl [[sv (ByteArray.mk #[116])],[sv (ByteArray.mk #[117])]]),(13,AV.p 0 0),(14,iv (a1:Int)),(15,AV.dp [sv (tuAt a1)]),(16,sv (tuAt a1)),(17,AV.p 0 0),(18,iv (a2:Int)),(19,iv (↑(1+a2):Int)),(20,AV.agg [sv (tuAt a1),sv (ByteArray.mk #[]),iv (↑(1+a2):Int)])] [Blk.box [AV.sl (List.map (fun n=>[iv n]) t2.l),iv (t2.pos:Int)],Blk.row Ty.Access (List.map Acc.cells l) false,Blk.box [sv (tuAt a1),sv (ByteArray.mk #[]),iv (↑(1+a2):Int)]]]
  cases h3:decide ((↑(1+a2):Int)≤4)
  ·obtain ⟨uZ,lZ,qZ,xZ,gZ⟩:=ih t2 (l++[Acc.mk (tuAt a1) (ByteArray.mk #[]) (↑(1+a2):Int)]) (by omega) (by first|trivial|assumption|(simp;done)|omega|(simp;omega)|(simp at *;omega));exact ⟨uZ,lZ,qZ,xZ,fun R hg=>zab (wkl (p_1++[sb h3,sqx (AllLen [[sv (tuAt a1),sv (ByteArray.mk #[]),iv (↑(1+a2):Int)]] 3∧l.length=(List.map Acc.cells l).length∧(((List.map Acc.cells l).length+[[sv (tuAt a1),sv (ByteArray.mk #[]),iv (↑(1+a2):Int)]].length) * 40).le 140737488355328),si hw]) [0,3,4] 2 kr (za7 (show ([(0,AV.p 0 0),(3,AV.own 1 (List.map Acc.cells l++[[sv (tuAt a1),sv (ByteArray.mk #[]),iv (↑(1+a2):Int)]]).length),(4,iv (k:Int))]:TS)=_ by first|rfl|(simp;done)|(simp [X.cells,Qy.cells,V.cells,Col.cells,Rw.cells,Tb.cells,Fr.cells,Sch.cells,Tp.cells,Pl.cells,Acc.cells];done)) (show ([Blk.box [AV.sl (List.map (fun n=>[iv n]) t2.l),iv (t2.pos:Int)],Blk.row Ty.Access (List.map Acc.cells l++[[sv (tuAt a1),sv (ByteArray.mk #[]),iv (↑(1+a2):Int)]]) false]:Heap)=_ by first|rfl|(simp;done)|(simp [X.cells,Qy.cells,V.cells,Col.cells,Rw.cells,Tb.cells,Fr.cells,Sch.cells,Tp.cells,Pl.cells,Acc.cells];done)) (gZ R hg)))⟩
  ·obtain ⟨a4,t4,q4,c4⟩:=(zb7 t2 2 zgP)
   obtain ⟨uZ,lZ,qZ,xZ,gZ⟩:=ih t4 (l++[Acc.mk (tuAt a1) (nmAt a4) (↑(1+a2):Int)]) (by omega) (by first|trivial|assumption|(simp;done)|omega|(simp;omega)|(simp at *;omega));exact ⟨uZ,lZ,qZ,xZ,fun R hg=>zab (wkl (p_1++[sb h3,sl [0] c4,se (el_nm a4 zgP),sqx (AllLen [[sv (tuAt a1),sv (nmAt a4),iv (↑(1+a2):Int)]] 3∧l.length=(List.map Acc.cells l).length∧(((List.map Acc.cells l).length+[[sv (tuAt a1),sv (nmAt a4),iv (↑(1+a2):Int)]].length) * 40).le 140737488355328),si hw]) [0,3,4] 2 kr (za7 (show ([(0,AV.p 0 0),(3,AV.own 1 (List.map Acc.cells l++[[sv (tuAt a1),sv (nmAt a4),iv (↑(1+a2):Int)]]).length),(4,iv (k:Int))]:TS)=_ by first|rfl|(simp;done)|(simp [X.cells,Qy.cells,V.cells,Col.cells,Rw.cells,Tb.cells,Fr.cells,Sch.cells,Tp.cells,Pl.cells,Acc.cells];done)) (show ([Blk.box [AV.sl (List.map (fun n=>[iv n]) t4.l),iv (t4.pos:Int)],Blk.row Ty.Access (List.map Acc.cells l++[[sv (tuAt a1),sv (nmAt a4),iv (↑(1+a2):Int)]]) false]:Heap)=_ by first|rfl|(simp;done)|(simp [X.cells,Qy.cells,V.cells,Col.cells,Rw.cells,Tb.cells,Fr.cells,Sch.cells,Tp.cells,Pl.cells,Acc.cells];done)) (gZ R hg)))⟩
theorem ze6 (t:Tp) :∃ (l:List Acc) (t':Tp),l.length≤3∧zaa E0 S.law29_accesses [.p 0 0] [.box t.cells] (.sl (l.map Acc.cells)) [.box t'.cells]:=by
 obtain ⟨a1,t1,q1,c1⟩:=(zb7 t 4 (by first|assumption|(simp;done)|omega|(simp;omega)))
 obtain ⟨u2,l2,q2,q2_1,g2⟩:=zet t a1 t1 ([]) (by first|assumption|(simp;done)|omega|(simp;omega)) (by first|assumption|(simp;done)|omega|(simp;omega))
 exact ⟨l2,u2,(by omega),wkcN At.law29_accesses [sl [0] c1] [0,3,4] 1 [(.ot 3 Ty.Access,2)] kr (g2 _ (zab (wkr [sqx (l2.length=(List.map Acc.cells l2).length),sb (rfl:false=false)] kr)))⟩
end Go.AM
namespace Go.AM
set_option maxRecDepth 100000
set_option maxHeartbeats 4000000
set_option linter.unusedSimpArgs false
set_option linter.unusedVariables false
theorem zbD {p:Prop} (h:p:=by first|assumption|exact sh30 (by assumption)|exact sh3 (by assumption)):p:=h
theorem zeT {p:Prop} (h:p:=by first|rfl|exact (zoM _ _ (by assumption)).elim|exact (zoV _ _ (by assumption)).elim):p:=h
theorem zba (l q:List Acc) (hl:zac l) (hq:zac q):zaa E0 S.commute_Clash [.sl (l.map Acc.cells),.sl (q.map Acc.cells)] [] (bv (za8 l q)) []:=zdL l q hl hq
theorem zc7 (l q:List Acc) (hl:zac l) (hq:zac q):zaa E0 S.ref29_Clash [.sl (l.map Acc.cells),.sl (q.map Acc.cells)] [] (bv (za8 l q)) []:=by
 rw [← zlU];exact zjJ l q hl hq
theorem zhi (l:List Acc) (hl:zac l):zaa E0 S.commute_Clash [.sl (l.map Acc.cells),.sl []] [] (bv false) []:=by
 have h:=zba l [] hl (by simp [zac])
 rw [zmB] at h;exact h
theorem zoM (a b:List Acc) (h:(za8 a b==za8 a b)=false):False:=by simp at h
theorem zoV (a b:List Acc) (h:(za8 a b==za8 b a)=false):False:=by rw [zlg] at h;simp at h
theorem sh30 {l:List Acc} (h:decide (30 < (↑(List.map Acc.cells l).length:Int))=false):zac l:=by simp only [zac];simp at h;omega
theorem sh3 {l:List Acc} (h:l.length≤3):zac l:=by simp only [zac];omega
theorem zlm (l q:List Acc) (v:List Int) :∃ (r:Bool),r=true∧zaa E0 S.law29_CommuteClashes [.sl (l.map Acc.cells),.sl (q.map Acc.cells),isl v] [] (bv r) []:=by
 cases h1:decide (30 < (↑(List.map Acc.cells l).length:Int))
 ·cases h2:decide (30 < (↑(List.map Acc.cells q).length:Int))
  ·obtain ⟨t3,c3⟩:=(zlc v)
   obtain ⟨l4,t4,q4,c4⟩:=(ze6 t3)
   obtain ⟨l5,t5,q5,c5⟩:=(ze6 t4)
   let p_1:List St:=[sg h1,sb h2,sc c3,sl [0] c4,sl [0] c5,sc (zba l q zbD zbD),sc (zc7 l q zbD zbD)]
   cases h6:za8 l q==za8 l q
   ·exact ⟨false,zeT,wk At.law29_CommuteClashes (p_1++[sb h6]) kr⟩
   ·let p_2:List St:=p_1++[sg h6,sc (zba l4 l5 zbD zbD),sc (zc7 l4 l5 zbD zbD)]
    cases h7:za8 l4 l5==za8 l4 l5
    ·exact ⟨false,zeT,wk At.law29_CommuteClashes (p_2++[sb h7]) kr⟩
    ·let p_3:List St:=p_2++[sg h7,sc (zba l4 l5 zbD zbD),sc (zba l5 l4 zbD zbD)]
     cases h8:za8 l4 l5==za8 l5 l4
     ·exact ⟨false,zeT,wk At.law29_CommuteClashes (p_3++[sb h8]) kr⟩
     ·let p_4:List St:=p_3++[sg h8,sc (zba l4 q zbD zbD),sc (zc7 l4 q zbD zbD)]
      cases h9:za8 l4 q==za8 l4 q
      ·exact ⟨false,zeT,wk At.law29_CommuteClashes (p_4++[sb h9]) kr⟩
      ·exact ⟨true,zeT,wk At.law29_CommuteClashes (p_4++[sg h9,sc (zhi l4 zbD),so (rfl:true=true) (sc zeu)]) kr⟩
  ·exact ⟨true,zeT,wk At.law29_CommuteClashes [sg h1,sb h2,sc zeu] kr⟩
 ·exact ⟨true,zeT,wk At.law29_CommuteClashes [sb h1,sc zeu] kr⟩
end Go.AM
namespace Go.AM
open Go.RowKit
set_option linter.unusedSimpArgs false
set_option linter.unusedVariables false
abbrev old (W:World):Addr→Prop:=fun a=>a.block < W.heap.size
theorem zoX {W:World} {a:Addr} {v:Value} (h:W.cell? a=some v):a.block < W.heap.size:=by
 unfold World.cell? at h
 cases hb:W.heap[a.block]? with
 | none=>rw [hb] at h;cases h
 | some o=>exact (Array.getElem?_eq_some_iff.1 hb).1
theorem oneCell_ok {P:Program} {w:World} {r:Reach} {b:Nat} {u:TypeId} {y:Value} (h:Cell.okWide P w r b u y):y.oneCell'=true:=by
 have h2:∀ y,Cell.ok P w r b u y→y.oneCell'=true:=by
  intro y h
  unfold Cell.ok at h
  split at h <;> first|rfl|exact h.elim
 unfold Cell.okWide at h
 split at h <;> first|rfl|exact h2 _ h
theorem calls_of {f:FuncId} {args:List AV} {b:Bool} (h:zaa E0 f args [] (bv b) []) (hgo:GoFn E0.P f) {W:World} {vs:List Value} (hglob:∀ g cs,globs g=some cs→RelD W (old W) (.dp cs) (.pointer (some ⟨g,0,none⟩))) (hargs:PW (RelV E0.T [] [] W (old W)) args vs) :
  Calls E0.P f vs.toArray W fun e W'=>e=.returned (.bool b)∧Below W.heap.size W W':=by
 have hrel:Rel E0 [] [] (old W) W:=⟨rfl,fun b cs hb=>by simp at hb,fun b e xs sh hb=>by simp at hb,fun b es hb=>by simp at hb,fun b b' k k' g hb=>by simp at hb,fun b k g hb=>by simp at hb,fun a ha=>ha,fun b k g a hb=>by simp at hb,hglob⟩
 obtain ⟨fn,hf1,hf2,hf3⟩:=hgo
 have hp:∀ e W',Post E0 [] [] (old W) W (fun r' h''=>r'=bv b∧h''=[]) e W'→e=.returned (.bool b)∧Below W.heap.size W W':=by
  rintro e W' ⟨r,h',β',S',y,rfl,⟨rfl,rfl⟩,_,ex,rv⟩
  refine ⟨?_,ex.os,ex.tape,ex.output,ex.size,fun k hk=>ex.keep k hk fun b' k' hb=>by simp at hb⟩
  rw [rv.v_inv]
 rcases h [] (old W) W vs hrel hargs with ⟨_,hc⟩|⟨y,w',hrun,_⟩
 ·exact hc.mono hp
 ·exfalso
  simp only [callFunc,Sem.run_bind,Sem.run_pure,Result.andThen_ok,run_program,hf1,hf2,hf3,Bool.false_eq_true,if_false] at hrun
  cases hrun
end Go.AM
namespace Go.AM
open Go.RowKit Go.ChangeShapes
set_option linter.unusedSimpArgs false
set_option linter.unusedVariables false
structure RD (W:World) (xs:List AV) (cs:List Value):Prop where
 len:xs.length=cs.length
 at_:∀ (i:Nat) (a:AV) (v:Value),xs[i]?=some a→cs[i]?=some v→v.oneCell'=true∧RelD W (old W) a v
theorem RD.one {W:World} {a:AV} {v:Value} (h1:v.oneCell'=true) (h:RelD W (old W) a v):RD W [a] [v] :=
 ⟨rfl,fun i x y hx hy=>by
  cases i with
  | zero=>cases hx;cases hy;exact ⟨h1,h⟩
  | succ i=>simp at hx⟩
theorem RD.fin {W:World} {cs:List Value} {o:Nat} (h:cs.length=o):RD W [] (cs.drop o):=⟨by simp [h],fun i a v ha=>by simp at ha⟩
theorem RD.app {W:World} {a b:List AV} {cs:List Value} {o l:Nat} (h0:RD W a ((cs.drop o).take l)) (hl:a.length=l) (h1:RD W b (cs.drop (o+l))):RD W (a++b) (cs.drop o):=by
 have e0:=h0.len
 have e1:=h1.len
 simp only [List.length_take,List.length_drop] at e0 e1
 refine ⟨by simp only [List.length_append,List.length_drop];omega,fun i x v hx hv=>?_⟩
 by_cases hi:i < l
 ·rw [List.getElem?_append_left (by omega)] at hx
  exact h0.at_ i x v hx (by rw [List.getElem?_take,if_pos hi];exact hv)
 ·rw [List.getElem?_append_right (by omega)] at hx
  refine h1.at_ (i - a.length) x v hx ?_
  rw [List.getElem?_drop] at hv ⊢
  rw [← hv]
  congr 1
  omega
theorem RD.all {W:World} {a:List AV} {cs:List Value} (h:RD W a (cs.drop 0)):RD W a cs:=by simpa using h
section
variable {H : Type} {enc : TypeId × Value → H}
structure Bulk (bk:DataW H→Nat):Prop where
 len:∀ es sp,es.length≤bk (.slice es sp)
 el:∀ es sp,∀ d∈es,bk d≤bk (.slice es sp)
 part:∀ ps,∀ d∈ps,bk d≤bk (.agg ps)
abbrev zoH:Nat:=1048576
def Rdr (enc:TypeId × Value→H) (bk:DataW H→Nat) (W:World) (n:Nat) (t:TypeId) {T:Type} (cells:T→List AV) (ok:T→Prop):Prop :=
 ∀ (cs:List Value) (x:DataW H × List MemPlace),DataW.trod enc E0.P W 0 (fun _=>true) true n t cs=some x→bk x.1≤zoH→∃ y:T,ok y∧RD W (cells y) cs
variable {bk : DataW H → Nat} {W : World} {n : Nat} {t : TypeId}
theorem Rdr.mono {T:Type} {cells:T→List AV} {ok ok':T→Prop} (h:Rdr enc bk W n t cells ok) (hm:∀ y,ok y→ok' y):Rdr enc bk W n t cells ok':=fun cs x hx hb=>by
 obtain ⟨y,h1,h2⟩:=h cs x hx hb
 exact ⟨y,hm y h1,h2⟩
theorem zhM {α:Type} {Q:Nat→α→Prop}:∀ (len:Nat),(∀ i,i < len→∃ y,Q i y)→∃ l:List α,l.length=len∧∀ i y,l[i]?=some y→Q i y
 | 0,_=>⟨[],rfl,fun i y h=>by simp at h⟩
 | len+1,h=>by
  obtain ⟨l,hl,hq⟩:=zhM len fun i hi=>h i (by omega)
  obtain ⟨y,hy⟩:=h len (by omega)
  refine ⟨l++[y],by simp [hl],fun i z hz=>?_⟩
  by_cases hi:i < l.length
  ·rw [List.getElem?_append_left hi] at hz
   exact hq i z hz
  ·rw [List.getElem?_append_right (by omega)] at hz
   have:i - l.length=0:=by
    cases hk:i - l.length with
    | zero=>rfl
    | succ k=>rw [hk] at hz;simp at hz
   rw [this] at hz
   cases hz
   rw [show i=len by omega]
   exact hy
theorem zoJ {a:Addr} {i:Nat} {v:Value} (h:W.cell? (a.add i)=some v) (hs:i=0):a.spot=none:=by
 subst hs
 simp only [Addr.add,if_pos] at h
 unfold World.cell? at h
 split at h
 ·cases hs:a.spot with
  | none=>rfl
  | some x=>rw [hs] at h;simp at h
 ·cases h
theorem zkE (b o p:Nat):(⟨b,o,none⟩:Addr).add p=⟨b,o+p,none⟩:=by
 unfold Addr.add
 split
 ·rename_i h;subst h;rfl
 ·rfl
theorem zoI {a:Addr} {p q:Nat} (hs:a.spot=none):(a.add p).add q=⟨a.block,a.off+(p+q),none⟩:=by
 obtain ⟨b,o,s⟩:=a
 change s=none at hs
 subst hs
 rw [zkE,zkE,Nat.add_assoc]
theorem zkS {base:Nat} {a:Addr} {sz:Nat} {cs:List Value} (h:W.cells? base a sz=some cs):cs.length=sz∧∀ j v,cs[j]?=some v→W.cell? (a.add j)=some v:=by
 unfold World.cells? at h
 split at h
 ·have h1:=mapM_some_length h
  refine ⟨by simpa using h1,fun j v hj=>?_⟩
  have hj2:j < sz:=by
   have:=(List.getElem?_eq_some_iff.1 hj).1
   simp at h1
   omega
  have:=mapM_some_get h j j (by simp [hj2])
  rw [this,hj]
 ·cases h
end
end Go.AM
namespace Go.AM
open Go.RowKit Go.ChangeShapes
set_option maxRecDepth 100000
set_option linter.unusedSimpArgs false
set_option linter.unusedVariables false
section
variable {H : Type} {enc : TypeId × Value → H} {W : World} {n : Nat} {t : TypeId}
def RdU (enc:TypeId × Value→H) (W:World) (n:Nat) (t:TypeId) {T:Type} (cells:T→List AV) (ok:T→Prop):Prop :=
 ∀ (cs:List Value) (x:DataW H × List MemPlace),DataW.trod enc E0.P W 0 (fun _=>true) true n t cs=some x→∃ y:T,ok y∧RD W (cells y) cs
theorem znd (hu:E0.P.underlying t=some (.int .i64)):RdU enc W n t (fun k:Int=>[iv k]) (fun _=>True):=fun cs x hx=>by
 obtain ⟨k,rfl,_,_⟩:=DataW.trod_int hu hx
 exact ⟨k,trivial,.one rfl (.v _ rfl)⟩
theorem znv (hu:E0.P.underlying t=some (.string)):RdU enc W n t (fun k:Str=>[sv k]) (fun _=>True):=fun cs x hx=>by
 obtain ⟨k,rfl,_⟩:=DataW.trod_string hu hx
 exact ⟨k,trivial,.one rfl (.v _ rfl)⟩
theorem zj4 {e:TypeId} {T:Type} {cells:T→List AV} {ok:T→Prop} {sz:Nat} (hu:E0.P.underlying t=some (.slice e)) (hc:E0.P.cellsOf e=sz) (hz:0 < sz) (hsz:∀ y,(cells y).length=sz) (he:∀ m,m < n→RdU enc W m e cells ok) :
  RdU enc W n t (fun l:List T=>[.sl (l.map cells)]) (fun l=>∀ y∈l,ok y):=fun cs x hx=>by
 rcases DataW.trod_slice hu hx with ⟨rfl,_⟩|⟨a,len,cap,elems,rest,m,rfl,rfl,rfl,_,hl,hm,hlen,hel,_,_⟩
 ·exact ⟨[],by simp,.one rfl (RelD.sl [] none 0 0 0 1 (fun _=>.int .i64 0) (fun h=>absurd rfl h) (Nat.le_refl _) (by decide) (fun i c h=>by simp at h) (fun i j c x h=>by simp at h) (fun i j c x h=>by simp at h))⟩
 ·rw [hc] at hel
  have key:∀ i,i < len→∃ y:T,ok y∧∃ ci,W.cells? 0 (a.add (i * sz)) sz=some ci∧RD W (cells y) ci:=fun i hi=>by
   have h1:=hel i hi
   rw [List.getElem?_eq_getElem (by omega)] at h1
   simp only [Option.bind_eq_some_iff] at h1
   obtain ⟨ci,h2,h3⟩:=h1
   obtain ⟨y,h5,h6⟩:=he m (by omega) ci _ h3
   exact ⟨y,h5,ci,h2,h6⟩
  obtain ⟨l,hll,hq⟩:=zhM len key
  have hcell:∀ (i j:Nat) (y:T) (x:AV),l[i]?=some y→(cells y)[j]?=some x→∃ v,W.cell? ⟨a.block,a.off+(i * sz+j),none⟩=some v∧v.oneCell'=true∧RelD W (old W) x v∧a.spot=none:=fun i j y x hy hxj=>by
   obtain ⟨_,ci,h1,h2⟩:=hq i y hy
   obtain ⟨h3,h4⟩:=zkS h1
   have hjl:j < ci.length:=by
    have:=(List.getElem?_eq_some_iff.1 hxj).1
    rw [← h2.len];exact this
   have h5:=List.getElem?_eq_getElem hjl
   have h6:=h2.at_ j x _ hxj h5
   have h7:=h4 j _ h5
   obtain ⟨_,c0,g1,g2⟩:=hq 0 (l[0]'(by have:=(List.getElem?_eq_some_iff.1 hy).1;omega)) (List.getElem?_eq_getElem _)
   obtain ⟨g3,g4⟩:=zkS g1
   have g5:=g4 0 _ (List.getElem?_eq_getElem (by omega))
   have hs:a.spot=none:=by
    have:(a.add (0 * sz)).spot=none:=zoJ g5 rfl
    simpa [Addr.add] using this
   have e:(a.add (i * sz)).add j=⟨a.block,a.off+(i * sz+j),none⟩:=zoI hs
   rw [e] at h7
   exact ⟨_,h7,h6.1,h6.2,hs⟩
  refine ⟨l,fun y hy=>?_,.one rfl ?_⟩
  ·obtain ⟨i,hi⟩:=List.getElem?_of_mem hy
   exact (hq i y hi).1
  ·have hlm:(l.map cells).length=len:=by rw [List.length_map,hll]
   have:=RelD.sl (w:=W) (S:=old W) (l.map cells) (some a) cap a.block a.off sz (fun k=>(W.cell? ⟨a.block,a.off+k,none⟩).getD (.int .i64 0)) (fun hne=>?_) (by rw [hlm];exact hl) hm (fun i c hi=>?_) (fun i j c x hi hj=>?_) (fun i j c x hi hj=>?_)
   ·rw [hlm] at this
    exact this
   ·cases hlc:l with
    | nil=>rw [hlc] at hne;exact absurd rfl hne
    | cons y r =>
     have h0:l[0]?=some y:=by rw [hlc];rfl
     have hzl:0 < (cells y).length:=by rw [hsz];exact hz
     obtain ⟨_,_,_,_,hs⟩:=hcell 0 0 y _ h0 (List.getElem?_eq_getElem hzl)
     cases a
     simp only at hs
     subst hs
     rfl
   ·simp only [List.getElem?_map,Option.map_eq_some_iff] at hi
    obtain ⟨y,_,rfl⟩:=hi
    exact hsz y
   ·simp only [List.getElem?_map,Option.map_eq_some_iff] at hi
    obtain ⟨y,hy,rfl⟩:=hi
    obtain ⟨v,h1,h2,_,_⟩:=hcell i j y x hy hj
    refine ⟨zoX h1,?_,?_⟩
    ·rw [h1];rfl
    ·rw [h1];exact h2
   ·simp only [List.getElem?_map,Option.map_eq_some_iff] at hi
    obtain ⟨y,hy,rfl⟩:=hi
    obtain ⟨v,h1,_,h3,_⟩:=hcell i j y x hy hj
    rw [h1];exact h3
theorem zi3 {fs:Array Field} {L:List (TypeId × Nat × Nat)} {cs:List Value} {x:DataW H × List MemPlace} (hu:E0.P.underlying t=some (.struct fs)) (hL:fs.toList.map (fun f=>(f.type,f.offset,E0.P.cellsOf f.type))=L)
  (hx:DataW.trod enc E0.P W 0 (fun _=>true) true n t cs=some x) :
  cs.length=E0.P.cellsOf t∧∃ m,n=m+1∧∀ (i:Nat) (ty:TypeId) (o l:Nat),L[i]?=some (ty,o,l)→∃ y:DataW H × List MemPlace,DataW.trod enc E0.P W 0 (fun _=>true) true m ty ((cs.drop o).take l)=some y:=by
 obtain ⟨xs,m,rfl,rfl,hl,hxs,hf⟩:=DataW.trod_struct hu hx
 refine ⟨hl,m,rfl,fun i ty o l hi=>?_⟩
 rw [← hL,List.getElem?_map] at hi
 simp only [Option.map_eq_some_iff,Prod.mk.injEq] at hi
 obtain ⟨f,hf2,rfl,rfl,rfl⟩:=hi
 have hfi:fs[i]?=some f:=by simpa using hf2
 have h1:=hf i f hfi
 have hil:i < xs.length:=by
  rw [hxs]
  exact (Array.getElem?_eq_some_iff.1 hfi).1
 rw [List.getElem?_eq_getElem hil] at h1
 exact ⟨_,h1⟩
theorem znE {n:Nat}:RdU enc W n Ty.Access Acc.cells (fun _=>True):=fun cs x hx=>by
 obtain ⟨hl,m,rfl,hf⟩:=zi3 (fs:=E0.P.fieldsOf Ty.Access) kr (L:=[(9,0,1),(9,1,1),(3,2,1)]) kr hx
 rw [(by kernel_rfl:E0.P.cellsOf Ty.Access=3)] at hl
 obtain ⟨y0,h0⟩:=hf 0 _ _ _ rfl
 obtain ⟨a,_,r0⟩:=znv kr _ _ h0
 obtain ⟨y1,h1⟩:=hf 1 _ _ _ rfl
 obtain ⟨b,_,r1⟩:=znv kr _ _ h1
 obtain ⟨y2,h2⟩:=hf 2 _ _ _ rfl
 obtain ⟨i,_,r2⟩:=znd kr _ _ h2
 exact ⟨⟨a,b,i⟩,trivial,.all (.app r0 rfl (.app r1 rfl (.app r2 rfl (.fin hl))))⟩
theorem rdAccsU {n:Nat}:RdU enc W n Ty.LAccess (fun l:List Acc=>[.sl (l.map Acc.cells)]) (fun l=>∀ t∈l,True) :=
 zj4 (e:=Ty.Access) (sz:=3) kr kr (by decide) (fun _=>rfl) fun k hk=>znE
theorem rdIntsU {n:Nat}:RdU enc W n Ty.Lint (fun l:List Int=>[isl l]) (fun l=>∀ t∈l,True) :=
 zj4 (e:=Ty.int) (sz:=1) kr kr (by decide) (fun _=>rfl) fun _ _=>znd kr
end
end Go.AM
