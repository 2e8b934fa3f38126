/-
  Contracts of the program's functions, part 4.
-/
import Derived.Test.YtgcogmkidchfjaaGreatClD
import Derived.Shelf.Spec.SlicesInsert
import Derived.Lib.AppendZerosOnto
import Derived.Laws.NewBlocks
import Derived.Carry
import Derived.ChangeSame
import Derived.Lib.LaidU8
import Derived.FnData
set_option maxRecDepth 100000
set_option maxHeartbeats 40000000
set_option linter.unusedSimpArgs false
set_option linter.unusedVariables false
namespace Go.AM
abbrev tN (nm:Str):Tb:=T0 ⟨nm,zaA.cols⟩
abbrev scN (nm:Str):Sch:=⟨nm,zaA.cols⟩
abbrev nA:Str:=⟨#[97]⟩
abbrev nB:Str:=⟨#[98]⟩
abbrev nC:Str:=⟨#[99]⟩
abbrev nD:Str:=⟨#[100]⟩
abbrev nE:Str:=⟨#[101]⟩
abbrev nF:Str:=⟨#[102]⟩
abbrev l6:List Tb:=[tN nA,tN nB,tN nC,tN nD,tN nE,tN nF]
noncomputable def L_lmA (n:Int) (l:List Tb) (i:Nat):Cfg:=zaj B.AF 0 [(0,iv n),(3,.p 0 0),(4,iv (i:Nat))] [.box [tsl l,.sl [],.sl []]]
theorem zas (n:Int) (l:List Tb) (i:Nat):True/\∀ R,Good E0 B.AF [] (L_lmA n l i) R->Good E0 B.AF [] (L_lmA n l i) R:=⟨trivial,fun _ h=>h⟩
theorem ca_law (n k:Int) (m m2:List Tb) (nm:Str) (c0:zaa E0 S.Ab [stv [],(scN nA).av] [] (.tup [stv [tN nA],iv 0]) []) (c1:zaa E0 S.Ab [stv [tN nA],(scN nF).av] [] (.tup [stv [tN nA,tN nF],iv 0]) []) (c2:zaa E0 S.Ab [stv [tN nA,tN nF],(scN nE).av] [] (.tup [stv [tN nA,tN nE,tN nF],iv 0]) []) (c3:zaa E0 S.Ab [stv [tN nA,tN nE,tN nF],(scN nD).av] [] (.tup [stv [tN nA,tN nD,tN nE,tN nF],iv 0]) []) (c4:zaa E0 S.Ab [stv [tN nA,tN nD,tN nE,tN nF],(scN nC).av] [] (.tup [stv [tN nA,tN nC,tN nD,tN nE,tN nF],iv 0]) []) (c5:zaa E0 S.Ab [stv [tN nA,tN nC,tN nD,tN nE,tN nF],(scN nB).av] [] (.tup [stv l6,iv 0]) []) (cm:zaa E0 S.B4 [iv n,iv 6] [] (iv k) []) (cl:zaa E0 S.Ab [stv l6,zaA.av] [] (.tup [stv [],iv 10]) []) (cd:zaa E0 S.AI [stv l6,sv (zfD [IntKind.u8.wrap (IntKind.i64.wrap (97+k))])] [] (.tup [stv m,iv 0]) []) (cg:zaa E0 S.Ab [stv m,zaA.av] [] (.tup [stv m2,iv 0]) []) (ck:zaa E0 S.B3 [] [] (bv true) []):∃ (r:Bool),r=true/\zaa E0 S.AF [iv n] [] (bv r) []:=by
 obtain ⟨q1,g1⟩:=zas n ([]) (0)
 obtain ⟨q2,g2⟩:=zas n ([tN nA]) (0+1)
 obtain ⟨q3,g3⟩:=zas n ([tN nA,tN nF]) (0+1+1)
 obtain ⟨q4,g4⟩:=zas n ([tN nA,tN nE,tN nF]) (0+1+1+1)
 obtain ⟨q5,g5⟩:=zas n ([tN nA,tN nD,tN nE,tN nF]) (0+1+1+1+1)
 obtain ⟨q6,g6⟩:=zas n ([tN nA,tN nC,tN nD,tN nE,tN nF]) (0+1+1+1+1+1)
 obtain ⟨q7,g7⟩:=zas n l6 (0+1+1+1+1+1+1)
 exact ⟨true,Zr,wkcN At.AF [] [0,3,4] 1 [(.nl 0 0,1),(.nl 0 1,1),(.nl 0 2,1)] kr (g1 _ (zab (wkl [sb Zt,sc zax,si (zar (t:=(↑0:Int) * 5) (n:=0 * 5) Zo Zo),sx (.i ((↑((0:Nat) * (5:Nat)):Int).tmod (6:Int))) (show (6:Int)≠(0:Int)/\((↑((0:Nat) * (5:Nat)):Int).tmod (6:Int):Int)=(↑((0:Nat) * (5:Nat)):Int).tmod (6:Int) from ⟨(by simp_all),rfl⟩),si (e:=IntKind.i64.wrap (97+(↑(0 * 5):Int).tmod 6)) rfl,si (e:=IntKind.u8.wrap (IntKind.i64.wrap (97+(↑(0 * 5):Int).tmod 6))) rfl,sc c0,sg Zf,si (zar (t:=(↑0:Int)+1) (n:=0+1) Zo Zo),sb Zf,si (zar (t:=(↑0:Int)+1) (n:=0+1) Zo Zo)] [0,3,4] 1 kr (g2 _ (zab (wkl [sb Zt,sc zax,si (zar (t:=(↑(0+1):Int) * 5) (n:=(0+1) * 5) Zo Zo),sx (.i ((↑(((0:Nat)+(1:Nat)) * (5:Nat)):Int).tmod (6:Int))) (show (6:Int)≠(0:Int)/\((↑(((0:Nat)+(1:Nat)) * (5:Nat)):Int).tmod (6:Int):Int)=(↑(((0:Nat)+(1:Nat)) * (5:Nat)):Int).tmod (6:Int) from ⟨(by simp_all),rfl⟩),si (e:=IntKind.i64.wrap (97+(↑((0+1) * 5):Int).tmod 6)) rfl,si (e:=IntKind.u8.wrap (IntKind.i64.wrap (97+(↑((0+1) * 5):Int).tmod 6))) rfl,sc c1,sg Zf,si (zar (t:=(↑(0+1):Int)+1) (n:=0+1+1) Zo Zo),sb Zf,si (zar (t:=(↑(0+1):Int)+1) (n:=0+1+1) Zo Zo)] [0,3,4] 1 kr (g3 _ (zab (wkl [sb Zt,sc zax,si (zar (t:=(↑(0+1+1):Int) * 5) (n:=(0+1+1) * 5) Zo Zo),sx (.i ((↑(((0:Nat)+(1:Nat)+(1:Nat)) * (5:Nat)):Int).tmod (6:Int))) (show (6:Int)≠(0:Int)/\((↑(((0:Nat)+(1:Nat)+(1:Nat)) * (5:Nat)):Int).tmod (6:Int):Int)=(↑(((0:Nat)+(1:Nat)+(1:Nat)) * (5:Nat)):Int).tmod (6:Int) from ⟨(by simp_all),rfl⟩),si (e:=IntKind.i64.wrap (97+(↑((0+1+1) * 5):Int).tmod 6)) rfl,si (e:=IntKind.u8.wrap (IntKind.i64.wrap (97+(↑((0+1+1) * 5):Int).tmod 6))) rfl,sc c2,sg Zf,si (zar (t:=(↑(0+1+1):Int)+1) (n:=0+1+1+1) Zo Zo),sb Zf,si (zar (t:=(↑(0+1+1):Int)+1) (n:=0+1+1+1) Zo Zo)] [0,3,4] 1 kr (g4 _ (zab (wkl [sb Zt,sc zax,si (zar (t:=(↑(0+1+1+1):Int) * 5) (n:=(0+1+1+1) * 5) Zo Zo),sx (.i ((↑(((0:Nat)+(1:Nat)+(1:Nat)+(1:Nat)) * (5:Nat)):Int).tmod (6:Int))) (show (6:Int)≠(0:Int)/\((↑(((0:Nat)+(1:Nat)+(1:Nat)+(1:Nat)) * (5:Nat)):Int).tmod (6:Int):Int)=(↑(((0:Nat)+(1:Nat)+(1:Nat)+(1:Nat)) * (5:Nat)):Int).tmod (6:Int) from ⟨(by simp_all),rfl⟩),si (e:=IntKind.i64.wrap (97+(↑((0+1+1+1) * 5):Int).tmod 6)) rfl,si (e:=IntKind.u8.wrap (IntKind.i64.wrap (97+(↑((0+1+1+1) * 5):Int).tmod 6))) rfl,sc c3,sg Zf,si (zar (t:=(↑(0+1+1+1):Int)+1) (n:=0+1+1+1+1) Zo Zo),sb Zf,si (zar (t:=(↑(0+1+1+1):Int)+1) (n:=0+1+1+1+1) Zo Zo)] [0,3,4] 1 kr (g5 _ (zab (wkl [sb Zt,sc zax,si (zar (t:=(↑(0+1+1+1+1):Int) * 5) (n:=(0+1+1+1+1) * 5) Zo Zo),sx (.i ((↑(((0:Nat)+(1:Nat)+(1:Nat)+(1:Nat)+(1:Nat)) * (5:Nat)):Int).tmod (6:Int))) (show (6:Int)≠(0:Int)/\((↑(((0:Nat)+(1:Nat)+(1:Nat)+(1:Nat)+(1:Nat)) * (5:Nat)):Int).tmod (6:Int):Int)=(↑(((0:Nat)+(1:Nat)+(1:Nat)+(1:Nat)+(1:Nat)) * (5:Nat)):Int).tmod (6:Int) from ⟨(by simp_all),rfl⟩),si (e:=IntKind.i64.wrap (97+(↑((0+1+1+1+1) * 5):Int).tmod 6)) rfl,si (e:=IntKind.u8.wrap (IntKind.i64.wrap (97+(↑((0+1+1+1+1) * 5):Int).tmod 6))) rfl,sc c4,sg Zf,si (zar (t:=(↑(0+1+1+1+1):Int)+1) (n:=0+1+1+1+1+1) Zo Zo),sb Zf,si (zar (t:=(↑(0+1+1+1+1):Int)+1) (n:=0+1+1+1+1+1) Zo Zo)] [0,3,4] 1 kr (g6 _ (zab (wkl [sb Zt,sc zax,si (zar (t:=(↑(0+1+1+1+1+1):Int) * 5) (n:=(0+1+1+1+1+1) * 5) Zo Zo),sx (.i ((↑(((0:Nat)+(1:Nat)+(1:Nat)+(1:Nat)+(1:Nat)+(1:Nat)) * (5:Nat)):Int).tmod (6:Int))) (show (6:Int)≠(0:Int)/\((↑(((0:Nat)+(1:Nat)+(1:Nat)+(1:Nat)+(1:Nat)+(1:Nat)) * (5:Nat)):Int).tmod (6:Int):Int)=(↑(((0:Nat)+(1:Nat)+(1:Nat)+(1:Nat)+(1:Nat)+(1:Nat)) * (5:Nat)):Int).tmod (6:Int) from ⟨(by simp_all),rfl⟩),si (e:=IntKind.i64.wrap (97+(↑((0+1+1+1+1+1) * 5):Int).tmod 6)) rfl,si (e:=IntKind.u8.wrap (IntKind.i64.wrap (97+(↑((0+1+1+1+1+1) * 5):Int).tmod 6))) rfl,sc c5,sg Zf,si (zar (t:=(↑(0+1+1+1+1+1):Int)+1) (n:=0+1+1+1+1+1+1) Zo Zo),sb Zf,si (zar (t:=(↑(0+1+1+1+1+1):Int)+1) (n:=0+1+1+1+1+1+1) Zo Zo)] [0,3,4] 1 kr (g7 _ (zab (wkr [sb Zf,sdm [(1,[sc zax]),(2,[sc cl])] 1 [(0,iv n),(3,AV.p 0 0),(4,iv (↑(0+1+1+1+1+1+1):Int)),(8,AV.p 1 0),(9,iv 10),(14,iv (↑(0+1+1+1+1+1+1):Int)),(15,AV.bl false),(44,AV.tup [AV.agg [AV.sl [],AV.sl [],AV.sl []],iv 10]),(45,AV.agg [tsl l6,AV.sl [],AV.sl []]),(46,AV.agg [sv zaA.name,AV.sl [[sv Zsn,iv 1,bv false,bv false],[sv (ByteArray.mk #[115]),iv 3,bv false,bv false]]]),(47,AV.tup [AV.agg [AV.sl [],AV.sl [],AV.sl []],iv 10]),(48,AV.agg [AV.sl [],AV.sl [],AV.sl []]),(49,iv 10)] [Blk.box [tsl l6,AV.sl [],AV.sl []],Blk.box [AV.sl [],AV.sl [],AV.sl []]],sdm [(2,[sc cm]),(3,[si (e:=IntKind.i64.wrap (97+k)) rfl]),(4,[si (e:=IntKind.u8.wrap (IntKind.i64.wrap (97+k))) rfl]),(7,[sc cd])] 1 [(0,iv n),(3,AV.p 0 0),(4,iv (↑(0+1+1+1+1+1+1):Int)),(8,AV.p 1 0),(9,iv 10),(10,AV.p 2 0),(11,iv 0),(14,iv (↑(0+1+1+1+1+1+1):Int)),(15,AV.bl false),(44,AV.tup [AV.agg [AV.sl [],AV.sl [],AV.sl []],iv 10]),(45,AV.agg [tsl l6,AV.sl [],AV.sl []]),(46,AV.agg [sv zaA.name,AV.sl [[sv Zsn,iv 1,bv false,bv false],[sv (ByteArray.mk #[115]),iv 3,bv false,bv false]]]),(47,AV.tup [AV.agg [AV.sl [],AV.sl [],AV.sl []],iv 10]),(48,AV.agg [AV.sl [],AV.sl [],AV.sl []]),(49,iv 10),(50,AV.tup [AV.agg [tsl m,AV.sl [],AV.sl []],iv 0]),(51,AV.agg [tsl l6,AV.sl [],AV.sl []]),(52,iv n),(53,iv k),(54,iv (IntKind.i64.wrap (97+k))),(55,AV.v (Value.int IntKind.u8 (IntKind.u8.wrap (IntKind.i64.wrap (97+k))))),(56,AV.sl [[AV.v (Value.int IntKind.u8 (IntKind.u8.wrap (IntKind.i64.wrap (97+k))))]]),(57,sv (zfD [IntKind.u8.wrap (IntKind.i64.wrap (97+k))])),(58,AV.tup [AV.agg [tsl m,AV.sl [],AV.sl []],iv 0]),(59,AV.agg [tsl m,AV.sl [],AV.sl []]),(60,iv 0)] [Blk.box [tsl l6,AV.sl [],AV.sl []],Blk.box [AV.sl [],AV.sl [],AV.sl []],Blk.box [tsl m,AV.sl [],AV.sl []]],sdm [(1,[sc zax]),(2,[sc cg])] 1 [(0,iv n),(3,AV.p 0 0),(4,iv (↑(0+1+1+1+1+1+1):Int)),(8,AV.p 1 0),(9,iv 10),(10,AV.p 2 0),(11,iv 0),(12,AV.p 3 0),(13,iv 0),(14,iv (↑(0+1+1+1+1+1+1):Int)),(15,AV.bl false),(44,AV.tup [AV.agg [AV.sl [],AV.sl [],AV.sl []],iv 10]),(45,AV.agg [tsl l6,AV.sl [],AV.sl []]),(46,AV.agg [sv zaA.name,AV.sl [[sv Zsn,iv 1,bv false,bv false],[sv (ByteArray.mk #[115]),iv 3,bv false,bv false]]]),(47,AV.tup [AV.agg [AV.sl [],AV.sl [],AV.sl []],iv 10]),(48,AV.agg [AV.sl [],AV.sl [],AV.sl []]),(49,iv 10),(50,AV.tup [AV.agg [tsl m,AV.sl [],AV.sl []],iv 0]),(51,AV.agg [tsl l6,AV.sl [],AV.sl []]),(52,iv n),(53,iv k),(54,iv (IntKind.i64.wrap (97+k))),(55,AV.v (Value.int IntKind.u8 (IntKind.u8.wrap (IntKind.i64.wrap (97+k))))),(56,AV.sl [[AV.v (Value.int IntKind.u8 (IntKind.u8.wrap (IntKind.i64.wrap (97+k))))]]),(57,sv (zfD [IntKind.u8.wrap (IntKind.i64.wrap (97+k))])),(58,AV.tup [AV.agg [tsl m,AV.sl [],AV.sl []],iv 0]),(59,AV.agg [tsl m,AV.sl [],AV.sl []]),(60,iv 0),(61,AV.tup [AV.agg [tsl m2,AV.sl [],AV.sl []],iv 0]),(62,AV.agg [tsl m,AV.sl [],AV.sl []]),(63,AV.agg [sv zaA.name,AV.sl [[sv Zsn,iv 1,bv false,bv false],[sv (ByteArray.mk #[115]),iv 3,bv false,bv false]]]),(64,AV.tup [AV.agg [tsl m2,AV.sl [],AV.sl []],iv 0]),(65,AV.agg [tsl m2,AV.sl [],AV.sl []]),(66,iv 0)] [Blk.box [tsl l6,AV.sl [],AV.sl []],Blk.box [AV.sl [],AV.sl [],AV.sl []],Blk.box [tsl m,AV.sl [],AV.sl []],Blk.box [tsl m2,AV.sl [],AV.sl []]],sg Zt,sg Zt,so Zt (sc ck)] kr)))))))))))))))))))))⟩
theorem zmN  (d1:zaa E0 S.Ab [stv [],zaA.av] [] (.tup [stv [T0 zaA],iv 0]) []) (d2:zaa E0 S.Ab [stv [T0 zaA],zaA.av] [] (.tup [stv [],iv 4]) []) (d3:zaa E0 S.Az [stv [T0 zaA],tgX.av] [] (.tup [stx [T0 zaA],.agg [iv 0,.sl []]]) []) (d4:zaa E0 S.AI [stx [T0 zaA],sv sLg] [] (.tup [.agg [.sl [],.sl [],.sl []],iv 16]) []) (d5:zaa E0 S.Al [stx [T0 zaA]] [] (bv true) []):∃ (r:Bool),r=true/\zaa E0 S.B3 [] [] (bv r) []:=by
 exact ⟨(↑[[sv tgX.name,sv tgX.table,bv tgX.before,iv tgX.event,AV.sl [],bv tgX.each,AV.sl [],AV.sl [],AV.sl [],AV.sl (zad []),AV.sl [[iv acAb.kind,sv acAb.table,AV.sl [],AV.sl (zag []),AV.sl [],AV.sl (zad []),sv acAb.text]]]].length:Int)==(1:Int),Zr,(by (try simp only [zsl,xCol,xLit,xBin,xNeg,Ac.cells,Se.cells,Pr.cells,Ch.cells,Rw.cells]);exact wk At.B3 [sc zax,sc d1,sdm [(1,[sc zax]),(2,[sc d2])] 1 [(0,AV.bl false),(1,AV.p 0 0),(2,iv 0),(3,AV.p 1 0),(4,iv 4),(9,AV.tup [AV.agg [AV.sl [[sv (T0 zaA).sch.name,AV.sl [[sv Zsn,iv 1,bv false,bv false],[sv (ByteArray.mk #[115]),iv 3,bv false,bv false]],iv (T0 zaA).next,AV.sl []]],AV.sl [],AV.sl []],iv 0]),(10,AV.agg [AV.nl,AV.nl,AV.nl]),(11,AV.agg [sv zaA.name,AV.sl [[sv Zsn,iv 1,bv false,bv false],[sv (ByteArray.mk #[115]),iv 3,bv false,bv false]]]),(12,AV.tup [AV.agg [AV.sl [[sv (T0 zaA).sch.name,AV.sl [[sv Zsn,iv 1,bv false,bv false],[sv (ByteArray.mk #[115]),iv 3,bv false,bv false]],iv (T0 zaA).next,AV.sl []]],AV.sl [],AV.sl []],iv 0]),(13,AV.agg [AV.sl [[sv (T0 zaA).sch.name,AV.sl [[sv Zsn,iv 1,bv false,bv false],[sv (ByteArray.mk #[115]),iv 3,bv false,bv false]],iv (T0 zaA).next,AV.sl []]],AV.sl [],AV.sl []]),(14,iv 0),(15,AV.tup [AV.agg [AV.sl [],AV.sl [],AV.sl []],iv 4]),(16,AV.agg [AV.sl [[sv (T0 zaA).sch.name,AV.sl [[sv Zsn,iv 1,bv false,bv false],[sv (ByteArray.mk #[115]),iv 3,bv false,bv false]],iv (T0 zaA).next,AV.sl []]],AV.sl [],AV.sl []]),(17,AV.agg [sv zaA.name,AV.sl [[sv Zsn,iv 1,bv false,bv false],[sv (ByteArray.mk #[115]),iv 3,bv false,bv false]]]),(18,AV.tup [AV.agg [AV.sl [],AV.sl [],AV.sl []],iv 4]),(19,AV.agg [AV.sl [],AV.sl [],AV.sl []]),(20,iv 4)] [Blk.box [AV.sl [[sv (T0 zaA).sch.name,AV.sl [[sv Zsn,iv 1,bv false,bv false],[sv (ByteArray.mk #[115]),iv 3,bv false,bv false]],iv (T0 zaA).next,AV.sl []]],AV.sl [],AV.sl []],Blk.box [AV.sl [],AV.sl [],AV.sl []]],sc d3,sc d4,sg Zt,sg Zt,sg Zt,sg Zt,sc d5,sg Zt] kr)⟩
theorem schV (nm:Str) (h:zaT nm=true):SchV (scN nm) where
 name:=by rw [h];rfl
 lo:=by kernel_rfl
 hi:=by kernel_rfl
 cols:=by
  intro i x hx
  match i,hx with
  | 0,hx=>cases hx;exact ⟨by kernel_rfl,by kernel_rfl,by kernel_rfl,(fun h=>nomatch h),by kernel_rfl⟩
  | 1,hx=>cases hx;exact ⟨by kernel_rfl,by kernel_rfl,by kernel_rfl,(fun h=>nomatch h),by kernel_rfl⟩
 keys:=by show (0:Nat)<=1;omega
theorem tabV (nm:Str) (h:zaT nm=true):TabV (tN nm) where
 sch:=schV nm h
 len:=by kernel_rfl
 rows:=RowsV.nil (by show (1:Int)<=1;omega)
 max:=by kernel_rfl
 key:=by kernel_rfl
def okNs (ns:List Str):Bool:=decide (ns.length<=6)&&ns.all zaT&&decide (ns.Pairwise fun a b=>Op.bytesLess a.toList b.toList=true)
theorem stV (ns:List Str) (h:okNs ns=true):StV (ns.map tN):=by
 simp only [okNs,Bool.and_eq_true,decide_eq_true_eq,List.all_eq_true] at h
 refine ⟨by rw [List.length_map];exact h.1.1,fun t ht=>?_,?_⟩
 ·obtain ⟨n,hn,rfl⟩:=List.mem_map.1 ht
  exact tabV n (h.1.2 n hn)
 ·rw [List.pairwise_map];exact h.2
theorem noR (ns:List Str) (h:okNs ns=true):NoRows (ns.map tN):=by
 simp only [okNs,Bool.and_eq_true,decide_eq_true_eq,List.all_eq_true] at h
 refine ⟨fun t ht=>?_⟩
 obtain ⟨n,hn,rfl⟩:=List.mem_map.1 ht
 exact ⟨scN n,schV n (h.1.2 n hn),rfl⟩
theorem mk1 (hI:InsM) (ns ms:List Str) (nm:Str) (p:Nat) (hp:p<=ns.length) (hb:BsC (ns.map tN) nm p) (h:okNs ns=true) (h2:okNs ms=true) (hm:(zaO ns p nm)=ms) (hv:zaT nm=true) (hf:idxF (fun t=>zaC t nm) (ns.map tN) 0=-1) (h6:ns.length < 6):zaa E0 S.Ab [stv (ns.map tN),(scN nm).av] [] (.tup [stv (ms.map tN),iv 0]) []:=by
 have e:zaO (ns.map tN) p (T0 (scN nm))=ms.map tN:=by
  rw [← hm];simp [zaO]
 have:=zi1 hI (ns.map tN) (scN nm) p (by rw [List.length_map];exact hp) hb (noR ns h) (schV nm hv) (stV ns h) (by rw [e];exact stV ms h2) hf (by rw [List.length_map];exact h6)
 rw [e] at this
 exact this
theorem zdP (hI:InsM) (a b c d e:Str) (h:okNs [a,b,c,d,e]=true) (h2:okNs [a,b,c,d,e,sLg]=true) (hc:cmpN (tN c) sLg=-1) (he:cmpN (tN e) sLg=-1) (hf:idxF (fun t=>zaC t sLg) [tN a,tN b,tN c,tN d,tN e] 0=-1) :
  zaa E0 S.Ab [stv [tN a,tN b,tN c,tN d,tN e],zaA.av] [] (.tup [stv [tN a,tN b,tN c,tN d,tN e,tN sLg],iv 0]) [] :=
 mk1 hI [a,b,c,d,e] [a,b,c,d,e,sLg] sLg 5 (Nat.le_refl 5) (kb55 (tN a) (tN b) (tN c) (tN d) (tN e) sLg hc he) h h2 rfl Zd hf (by show 5 < 6;omega)
theorem zlH (hI:InsM):zaa E0 S.B3 [] [] (bv true) []:=by
 have h0:okNs []=true:=by kernel_rfl
 have h1:okNs [sLg]=true:=by kernel_rfl
 have d1:=mk1 hI [] [sLg] sLg 0 Zd (kb00 sLg) h0 h1 rfl Zd rfl Zd
 have d2:=zg2 [tN sLg] (scN sLg) 0 (schV sLg Zd) (stV [sLg] h1) kr
 have hc:=zgc (scN sLg) (schV sLg Zd).short rfl
 have d3:=zdx [tN sLg] (stV [sLg] h1) (noR [sLg] h1) hc
 have hf:=zcc [tN sLg] sLg (stV [sLg] h1).short
 rw [show idxF (fun t=>zaC t sLg) [tN sLg] 0=(((0:Nat)):Int) from by kernel_rfl] at hf
 have d4:=zeK [tN sLg] 0 (stV [sLg] h1) hc hf
 have d5:=zdq [tN sLg] (stV [sLg] h1) hc
 obtain ⟨_,rfl,h⟩:=zmN d1 d2 d3 d4 d5
 exact h
theorem law32_true (hI:InsM) (n:Int):zaa E0 S.AF [iv n] [] (bv true) []:=by
 have o0:okNs []=true:=by kernel_rfl
 have o1:okNs [nA]=true:=by kernel_rfl
 have o2:okNs [nA,nF]=true:=by kernel_rfl
 have o3:okNs [nA,nE,nF]=true:=by kernel_rfl
 have o4:okNs [nA,nD,nE,nF]=true:=by kernel_rfl
 have o5:okNs [nA,nC,nD,nE,nF]=true:=by kernel_rfl
 have o6:okNs [nA,nB,nC,nD,nE,nF]=true:=by kernel_rfl
 have c0:=mk1 hI [] [nA] nA 0 Zd (kb00 nA) o0 o1 rfl Zd rfl Zd
 have c1:=mk1 hI [nA] [nA,nF] nF 1 Zd (kb11 (tN nA) nF kr) o1 o2 rfl Zd kr Zd
 have c2:=mk1 hI [nA,nF] [nA,nE,nF] nE 1 Zd (kb21 (tN nA) (tN nF) nE kr kr) o2 o3 rfl Zd kr Zd
 have c3:=mk1 hI [nA,nE,nF] [nA,nD,nE,nF] nD 1 Zd (kb31 (tN nA) (tN nE) (tN nF) nD kr kr) o3 o4 rfl Zd kr Zd
 have c4:=mk1 hI [nA,nD,nE,nF] [nA,nC,nD,nE,nF] nC 1 Zd (kb41 (tN nA) (tN nD) (tN nE) (tN nF) nC kr kr kr) o4 o5 rfl Zd kr Zd
 have c5:=mk1 hI [nA,nC,nD,nE,nF] [nA,nB,nC,nD,nE,nF] nB 1 Zd (kb51 (tN nA) (tN nC) (tN nD) (tN nE) (tN nF) nB kr kr kr) o5 o6 rfl Zd kr Zd
 have v6:StV l6:=stV [nA,nB,nC,nD,nE,nF] o6
 have r6:NoRows l6:=noR [nA,nB,nC,nD,nE,nF] o6
 have cl:=zg3 l6 (scN sLg) (schV sLg Zd) v6 kr rfl
 have ck:=zlH hI
 obtain ⟨m,hm,cm⟩:=zhb n
 have fin:∀ (x y:List Tb),zaa E0 S.AI [stv l6,sv (zfD [IntKind.u8.wrap (IntKind.i64.wrap (97+((m:Nat):Int)))])] [] (.tup [stv x,iv 0]) []->zaa E0 S.Ab [stv x,zaA.av] [] (.tup [stv y,iv 0]) []->zaa E0 S.AF [iv n] [] (bv true) []:=fun x y cd cg=>by
  obtain ⟨_,rfl,h⟩:=ca_law n ((m:Nat):Int) x y nA c0 c1 c2 c3 c4 c5 cm cl cd cg ck
  exact h
 have hm6:m=0\/m=1\/m=2\/m=3\/m=4\/m=5:=by omega
 rcases hm6 with rfl|rfl|rfl|rfl|rfl|rfl
 ·exact fin _ _ (zb2 l6 _ 0 Zd r6 v6 kr) (zdP hI nB nC nD nE nF kr kr kr kr kr)
 ·exact fin _ _ (zb2 l6 _ 1 Zd r6 v6 kr) (zdP hI nA nC nD nE nF kr kr kr kr kr)
 ·exact fin _ _ (zb2 l6 _ 2 Zd r6 v6 kr) (zdP hI nA nB nD nE nF kr kr kr kr kr)
 ·exact fin _ _ (zb2 l6 _ 3 Zd r6 v6 kr) (zdP hI nA nB nC nE nF kr kr kr kr kr)
 ·exact fin _ _ (zb2 l6 _ 4 Zd r6 v6 kr) (zdP hI nA nB nC nD nF kr kr kr kr kr)
 ·exact fin _ _ (zb2 l6 _ 5 Zd r6 v6 kr) (zdP hI nA nB nC nD nE kr kr kr kr kr)
end Go.AM
namespace Go.AM
open Go.Proofs Go.RowKit Go.Lib
theorem zeB {P:Program} (w:World) (dT sT ty elem:TypeId) (b o dLen dCap:Nat) (a:Addr) (sLen sCap:Nat) (cs:List Value) (sz m:Nat)
  (hu:P.underlying dT=some (.slice elem)) (hs:(P.info? elem).map (·.size)=some sz) (hm:m=Nat.min sLen dLen) (hn:cs.length=m * sz)
  (hsrc:∀ j v,cs[j]?=some v->w.cell? (a.add j)=some v) (hc:∀ j,j < cs.length->(w.cell? ⟨b,o+j,none⟩).isSome=true) (hf:∀ j,j < cs.length->w.frozen? ⟨b,o+j,none⟩=false) (h1:∀ v∈cs,v.oneCell'=true) :
  (Builtin.copy_ #[dT,sT] ty #[.slice (some ⟨b,o,none⟩) dLen dCap,.slice (some a) sLen sCap]).run P w=.ok (goInt m) (w.setCells b o cs):=by
 have hl:=run_loadCells_list (P:=P) w a cs hsrc
 have hst:=run_storeCells_cells (P:=P) b o cs 0 w (by simpa using hc) (by simpa using hf) h1
 cases hq:P.info? elem with
 | none=>simp [hq] at hs
 | some i =>
  have hi:i.size=sz:=by simpa [hq] using hs
  simp [Builtin.copy_,run_underlying hu,Builtin.lenOf,Builtin.firstCells,sizeOf,typeInfo,hq,hi,← hm,← hn,hl,hst]
theorem zg8 {P:Program} (w:World) (tS tR e:TypeId) (ht:P.underlying tS=some (.slice e)) (size:Nat) (hz:∀ w,(Go.sizeOf e).run P w=.ok size w)
  (a b:Addr) (la ca lb cb:Nat) (hne:a.block≠b.block) (tA tB:TypeId) (kA kB:Nat)
  (hsa:w.shape? a.block=some (tA,kA)) (hsb:w.shape? b.block=some (tB,kB)) (hkA:kA≠0)
  (hfb:w.frozen? b=false) (hfe:w.frozen? { block:=b.block,off:=kB }=false) :
  (Extern.SlicesOverlaps.overlaps #[tS,tS] #[tR] #[.slice (some a) la ca,.slice (some b) lb cb]).run P w=.ok (.bool false) w:=by
 have hnb:(a.block != b.block)=true:=by simpa using hne
 have hnb':(a.block==b.block)=false:=by simpa using hne
 change Sem.run P (α:=Value) (do
  let some t := (#[tS, tS] : Array TypeId)[0]? | stuck "slices.overlaps: no parameter types"
  let .slice elem ← underlying t | stuck "slices.overlaps: slice type expected"
  let size ← sizeOf elem
  match (some a:Option Addr),(some b:Option Addr) with
  | some a,some b =>
   if la=0\/lb=0\/size=0 then pure (Value.bool false)
   else if a.block != b.block&&(← frozen a)&&(← frozen b) then unsupported .addressObserved
   else do
    if a.block != b.block then do
     noView a;noView b
     if ← mayBeOne a b then return Value.bool ((← choose (.extern "sameAddr.stringBytes" 2)) == 1)
    pure (Value.bool (a.block==b.block&&a.off < b.off+lb * size&&b.off < a.off+la * size))
  | _,_=>pure (Value.bool false)) w=_
 by_cases h0:la=0\/lb=0\/size=0
 ·simp [run_underlying ht,hz,h0]
 ·cases kA with
  | zero=>exact absurd rfl hkA
  | succ kA =>
   cases hfa:w.frozen? a <;> cases hfz:w.frozen? { block:=a.block,off:=kA+1 } <;>
    simp [run_underlying ht,hz,h0,hnb,hnb',frozen,noView,viewAt,mayBeOne,stringish,shape,Sem.run,hsa,hsb,hfa,hfb,hfe,hfz]
end Go.AM
namespace Go.AM
open Go.Proofs Go.RowKit Go.Lib
variable {P : Program}
theorem zm7 (hP:P.funcs[(39:Nat)]?=some Tryz.f39) (mixed:P.follows .mixedOrders=true) (t22:P.underlying (22:Nat)=some (.slice (46:Nat))) (t3:P.underlying (3:Nat)=some (.int .i64)) (t4:P.underlying (4:Nat)=some .bool) (z46:∀ w,(Go.sizeOf (46:Nat)).run P w=.ok 4 w) (b vb vo n c i vc:Nat) (cs vs:List Value) (w:World) (hi:i < n) (hroom:n+1<=c) (hc63:c<=9223372036854775807)
  (hov:∀ lb cb,(callFunc 66 #[.slice (some ⟨vb,vo,none⟩) 1 vc,.slice (some ⟨b,(i+1) * 4,none⟩) lb cb]).run P w=.ok (.value (.bool false)) w)
  (hcp1:∀ ty dc sc,(Builtin.copy_ #[22,22] ty #[.slice (some ⟨b,(i+1) * 4,none⟩) (n - i) dc,.slice (some ⟨b,i * 4,none⟩) (n+1 - i) sc]).run P w.drew=.ok (goInt (n - i:Nat)) (w.drew.setCells b ((i+1) * 4) cs))
  (hcp2:∀ ty dc,(Builtin.copy_ #[22,22] ty #[.slice (some ⟨b,i * 4,none⟩) (n+1 - i) dc,.slice (some ⟨vb,vo,none⟩) 1 vc]).run P (w.drew.setCells b ((i+1) * 4) cs)=.ok (goInt 1) ((w.drew.setCells b ((i+1) * 4) cs).setCells b (i * 4) vs)) :
  Calls P 39 #[.slice (some ⟨b,0,none⟩) n c,.int .i64 i,.slice (some ⟨vb,vo,none⟩) 1 vc] w fun e w' =>
   e=.returned (.slice (some ⟨b,0,none⟩) (n+1) c)/\w'=(w.drew.setCells b ((i+1) * 4) cs).setCells b (i * 4) vs:=by
 have u22:=run_underlying t22
 have u3:=run_underlying t3
 have u4:=run_underlying t4
 have hz2:¬ ((i:Int)=(n:Int)):=by omega
 have hw1:IntKind.i64.wrap ((i:Int)+1)=(i:Int)+1:=by rw [IntKind.wrap_i64];omega
 have hw2:IntKind.i64.wrap ((n:Int)+1)=(n:Int)+1:=by rw [IntKind.wrap_i64];omega
 have hb1:(0:Int)<=(i:Int)+1:=by omega
 have hin:i<=n:=by omega
 have htn:((i:Int)+1).toNat=i+1:=by omega
 have htm:((n:Int)+1).toNat=n+1:=by omega
 have hb2:¬ (c=i+1):=by omega
 have hb3:(i:Int)<=(n:Int)+1:=by omega
 have hb4:¬ (c=i):=by omega
 have hb5:¬ ((c:Int) < (n:Int)+1):=by omega
 go_enter hP,(show Tryz.f39.ntmps=95 from rfl)
 go_wp2_with (simp only [hov])
 go_region_law_o (refine step_copy_runI rfl _ _ (22:Nat) (22:Nat) rfl _ _ (by simp [Act.eval,Act.put]) (by simp [Act.eval,Act.put]) (hcp1 _ _ _) ?_)
 go_wp2_with (at_builtin;refine wpList_copy_runI _ rfl _ _ (22:Nat) (22:Nat) rfl _ _ rfl rfl (hcp2 _ _) ?_)
 go_ret
 exact ⟨rfl,rfl⟩
end Go.AM
namespace Go.AM
open Go.Proofs Go.RowKit Go.Lib
variable {P : Program}
theorem zm6 (hP:P.funcs[(39:Nat)]?=some Tryz.f39) (mixed:P.follows .mixedOrders=true) (t22:P.underlying (22:Nat)=some (.slice (46:Nat))) (t3:P.underlying (3:Nat)=some (.int .i64)) (t4:P.underlying (4:Nat)=some .bool) (z46:∀ w,(Go.sizeOf (46:Nat)).run P w=.ok 4 w)
  (b N vb vo n c i vc G:Nat) (w W1 W2 W3:World) (hi:i < n) (hnc:n<=c) (hroom:c < n+1) (hG:n+1<=G) (hG63:G<=9223372036854775807) (hn6:n<=6)
  (hrz:∀ ty,(Builtin.append_ #[22,3] ty #[.slice (some ⟨b,0,none⟩) i c,.int .i64 ((n:Int)+1 - (i:Int))]).run P w=.ok (.slice (some ⟨N,0,none⟩) (n+1) G) W1)
  (hcpA:∀ ty dc,(Builtin.copy_ #[22,22] ty #[.slice (some ⟨N,i * 4,none⟩) (n+1 - i) dc,.slice (some ⟨vb,vo,none⟩) 1 vc]).run P W1=.ok (goInt 1) W2)
  (hcpB:∀ ty dc sc,(Builtin.copy_ #[22,22] ty #[.slice (some ⟨N,(i+1) * 4,none⟩) (n - i) dc,.slice (some ⟨b,i * 4,none⟩) (n - i) sc]).run P W2.drew=.ok (goInt (n - i:Nat)) W3) :
  Calls P 39 #[.slice (some ⟨b,0,none⟩) n c,.int .i64 i,.slice (some ⟨vb,vo,none⟩) 1 vc] w fun e w' =>
   e=.returned (.slice (some ⟨N,0,none⟩) (n+1) G)/\w'=W3:=by
 have u22:=run_underlying t22
 have u3:=run_underlying t3
 have u4:=run_underlying t4
 have hz2:¬ ((i:Int)=(n:Int)):=by omega
 have hw1:IntKind.i64.wrap ((i:Int)+1)=(i:Int)+1:=by rw [IntKind.wrap_i64];omega
 have hw2:IntKind.i64.wrap ((n:Int)+1)=(n:Int)+1:=by rw [IntKind.wrap_i64];omega
 have hw3:IntKind.i64.wrap ((n:Int)+1 - (i:Int))=(n:Int)+1 - (i:Int):=by rw [IntKind.wrap_i64];omega
 have hb1:(0:Int)<=(i:Int)+1:=by omega
 have hin:i<=n:=by omega
 have htn:((i:Int)+1).toNat=i+1:=by omega
 have hb3:(i:Int)<=(n:Int)+1:=by omega
 have hb4:¬ (c=i):=by omega
 have hb5:(c:Int) < (n:Int)+1:=by omega
 have hb6:(i:Int)<=(c:Int):=by omega
 have hb7:i<=c:=by omega
 have hGi:¬ (G=i):=by omega
 have hGim:¬ (G=i+1):=by omega
 go_enter hP,(show Tryz.f39.ntmps=95 from rfl)
 go_wp2_with (first
  | (at_builtin;refine Lib.wpList_append_run _ rfl _ _ _ _ rfl _ _ rfl rfl _ _ (hrz _) ?_)
  | (at_builtin;refine wpList_copy_runI _ rfl _ _ (22:Nat) (22:Nat) rfl _ _ rfl rfl (hcpA _ _) ?_))
 go_region_law_o (refine step_copy_runI rfl _ _ (22:Nat) (22:Nat) rfl _ _ (by simp [Act.eval,Act.put]) (by simp [Act.eval,Act.put]) (hcpB _ _ _) ?_)
 go_wp2
 go_ret
 exact ⟨rfl,rfl⟩
end Go.AM
namespace Go.AM
open Go.RowKit Go.Lib
theorem zdM {w:World} {g off:Nat} {cs:List Value} {t:TypeId} {vs:List Value} (hg:w.heap[g]?=some (.cells cs.toArray t (0,0))) (hf:off+vs.length<=cs.length) (h1:∀ v∈vs,v.oneCell'=true) :
  Stored w (w.setCells g off vs) g (zaD cs off vs) t:=by
 obtain ⟨w',hr,hs⟩:=zbF (P:=E0.P) vs 0 w g off cs t hg Zo h1
 have h2:=run_storeCells_cells (P:=E0.P) g off vs 0 w (fun j hj=>by
   rw [show off+0+j=off+j by omega]
   simp [World.cell?,hg];omega) (fun j hj=>by simp [World.frozen?,hg]) h1
 rw [hr] at h2
 have h3:w'=w.setCells g (off+0) vs:=by injection h2
 rw [Nat.add_zero] at h3
 rw [← h3]
 simpa using hs
theorem zmz {T:TypeId->TI} {w w':World} {S:Addr->Prop} {e:TypeId} {xs:List (List AV)} {c:List AV} {i g cap:Nat} {F:Array Value} {f v:Nat->Value} {sz:Nat} (hsz:(T e).size=sz) (hi:i < xs.length)
  (hg:w'.heap[g]?=some (.cells F e (0,0))) (h1:xs.length+1<=cap) (h2:cap<=maxLen) (h3:F.size=cap * sz) (hc:c.length=sz) (hx:∀ (k:Nat) (d:List AV),xs[k]?=some d->d.length=sz)
  (hS:∀ a,S a->w'.cell? a=w.cell? a)
  (ho:∀ (k j:Nat) (d:List AV) (x:AV),xs[k]?=some d->d[j]?=some x->RelD w S x (f (k * sz+j))/\(f (k * sz+j)).oneCell'=true)
  (hv:∀ (j:Nat) (x:AV),c[j]?=some x->RelD w S x (v j)/\(v j).oneCell'=true)
  (f1:∀ k j,k < i->j < sz->F[k * sz+j]?=some (f (k * sz+j))) (f2:∀ j,j < sz->F[i * sz+j]?=some (v j)) (f3:∀ k j,i<=k->k < xs.length->j < sz->F[(k+1) * sz+j]?=some (f (k * sz+j))) :
  zbC T w' S e (zaO xs i c) (.row g cap):=by
 have hm:∀ {x:AV} {y:Value},RelD w S x y->RelD w' S x y:=fun h=>h.mono (fun _ h=>h) hS
 have get:∀ (k:Nat) (d:List AV),(zaO xs i c)[k]?=some d->(k < i/\xs[k]?=some d)\/(k=i/\d=c)\/(∃ l,k=l+1/\i<=l/\xs[l]?=some d):=by
  intro k d hd
  have ht:(xs.take i).length=i:=by rw [List.length_take];omega
  rcases Nat.lt_trichotomy k i with h|h|h
  ·left
   refine ⟨h,?_⟩
   rw [zaO,List.getElem?_append_left Zo,List.getElem?_take,if_pos h] at hd
   exact hd
  ·right;left
   subst h
   rw [zaO,List.getElem?_append_right Zo,ht,Nat.sub_self] at hd
   exact ⟨rfl,by simpa using hd.symm⟩
  ·right;right
   obtain ⟨l,rfl⟩:∃ l,k=l+1:=⟨k - 1,by omega⟩
   refine ⟨l,rfl,by omega,?_⟩
   rw [zaO,List.getElem?_append_right Zo,ht,show l+1 - i=(l - i)+1 by omega,List.getElem?_cons_succ,List.getElem?_drop,show i+(l - i)=l by omega] at hd
   exact hd
 refine ⟨F,hg,by rw [zgl Zo];exact h1,by omega,h2,by rw [hsz];exact h3,?_,?_⟩
 ·intro k d hd
  rw [hsz]
  rcases get k d hd with ⟨_,h⟩|⟨_,rfl⟩|⟨l,_,_,h⟩
  ·exact hx k d h
  ·exact hc
  ·exact hx l d h
 ·intro k j d x hd hj
  rw [hsz]
  rcases get k d hd with ⟨h0,h⟩|⟨rfl,rfl⟩|⟨l,rfl,h0,h⟩
  ·have hjl:j < sz:=by rw [← hx k d h];exact (List.getElem?_eq_some_iff.1 hj).1
   exact ⟨_,f1 k j h0 hjl,hm (ho k j d x h hj).1,(ho k j d x h hj).2⟩
  ·have hjl:j < sz:=by rw [← hc];exact (List.getElem?_eq_some_iff.1 hj).1
   exact ⟨_,f2 j hjl,hm (hv j x hj).1,(hv j x hj).2⟩
  ·have hjl:j < sz:=by rw [← hx l d h];exact (List.getElem?_eq_some_iff.1 hj).1
   exact ⟨_,f3 l j h0 (List.getElem?_eq_some_iff.1 h).1 hjl,hm (ho l j d x h hj).1,(ho l j d x h hj).2⟩
end Go.AM
namespace Go.AM
open Go.RowKit Go.Lib
theorem tokT:∃ i d z,TOk E0.P E0.T (46:Nat) i d z:=E0ok.at_ (t:=(46:Nat)) (by
 intro h
 have:(E0.T (46:Nat)).size=4:=by kernel_rfl
 rw [h] at this;cases this)
theorem szT:(E0.T (46:Nat)).size=4:=by kernel_rfl
theorem tt22:E0.P.underlying (22:Nat)=some (.slice (46:Nat)):=by kernel_rfl
theorem tt3:E0.P.underlying (3:Nat)=some (.int .i64):=by kernel_rfl
theorem tt4:E0.P.underlying (4:Nat)=some .bool:=by kernel_rfl
theorem zz46:∀ w,(Go.sizeOf (46:Nat)).run E0.P w=.ok 4 w:=by
 obtain ⟨i,d,z,tok⟩:=tokT
 intro w
 have:=tok.sizeOf w
 rw [szT] at this;exact this
theorem zht:(E0.P.info? (46:Nat)).map (·.size)=some 4:=by
 obtain ⟨i,d,z,tok⟩:=tokT
 rw [tok.info]
 have:=tok.size
 rw [szT] at this
 simp [this]
theorem toIns {w w':World} {β:List Con} {S:Addr->Prop} {xs:List Tb} {i g cap g' cap':Nat} {t:Tb} (r:Rel E0 [.row Ty.Table (xs.map Tb.cells) false] β S w) (hk:β[0]?=some (.row g cap))
  (hrow:zbC E0.T w' S Ty.Table (zaO (xs.map Tb.cells) i t.cells) (.row g' cap')) (hi:i<=xs.length) (hS:∀ a,S a->w'.cell? a=w.cell? a) (hos:w'.os=w.os) (htape:w'.tape=w.tape) (hdrawn:w.drawn<=w'.drawn) (hout:w'.output=w.output) (hsize:w.heap.size<=w'.heap.size)
  (hkeep:∀ k,k < w.heap.size->k≠g->w'.heap[k]?=w.heap[k]?) (hg:g'=g\/w.heap.size<=g') (hg2:g' < w'.heap.size) :
  Post E0 [.row Ty.Table (xs.map Tb.cells) false] β S w (fun r' h'=>r'=.own 0 (xs.length+1)/\h'=[.row Ty.Table ((zaO xs i t).map Tb.cells) false]) (.returned (.slice (some ⟨g',0,none⟩) (xs.length+1) cap')) w':=by
 have em:zaO (xs.map Tb.cells) i t.cells=(zaO xs i t).map Tb.cells:=by simp [zaO]
 rw [em] at hrow
 have hlen:((zaO xs i t).map Tb.cells).length=xs.length+1:=by rw [List.length_map,zgl hi]
 have hSb:∀ a,S a->a.block≠g:=fun a ha e2=>by
  obtain ⟨e1,xs1,h1,_⟩:=r.free 0 _ g a hk rfl ha e2
  cases h1
 have tn:Turn [.row Ty.Table (xs.map Tb.cells) false] β S w 0 (.row Ty.Table ((zaO xs i t).map Tb.cells) false) (.row g cap) (.row g' cap') S w':={
  kb:=hk
  box:=fun cs1 h1=>by cases h1
  row:=fun e1 xs1 sh1 h1=>by
   cases h1
   refine ⟨_,_,rfl,by rw [hlen,List.length_map];omega,fun h=>?_⟩
   rw [hlen,List.length_map] at h;omega
  mp:=fun es h1=>by cases h1
  S_le:=fun _ h=>h
  S_cell:=hS
  S_new:=fun _ h=>.inl h
  S_lt:=fun a ha=>Nat.lt_of_lt_of_le (r.stable a ha) hsize
  os:=hos
  tape:=htape
  drawn:=hdrawn
  output:=hout
  size:=hsize
  keep:=fun k h1 h2=>hkeep k h1 (fun e=>h2 (by rw [e];rfl))
  own:=fun k hk2=>by
   cases hk2
   exact ⟨hg.imp (fun h=>by rw [h];rfl) id,hg2⟩ }
 have e1:=r.turnExt (B:=.row Ty.Table (xs.map Tb.cells) false) rfl tn
 have r1:=r.turn (B:=.row Ty.Table (xs.map Tb.cells) false) rfl tn (fun cs' hcs=>by cases hcs) (fun e2 xs2 sh2 h2=>by
   cases h2
   exact hrow) (fun k a hk2 ha hka=>by
   cases hk2
   rcases hg with h|h
   ·exact absurd (hka.trans h) (hSb a ha)
   ·have:=r.stable a ha
    omega)
 refine ⟨_,_,_,_,_,rfl,⟨rfl,rfl⟩,r1,e1,.own 0 _ _ Ty.Table ((zaO xs i t).map Tb.cells) false rfl (by rw [hlen];exact Nat.le_refl _) (fun _=>?_) rfl⟩
 rw [zaB hk]
 rfl
end Go.AM
namespace Go.AM
open Go.RowKit Go.Lib
structure InsIn (w:World) (S:Addr->Prop) (xs:List Tb) (t:Tb) (g cap:Nat) (cs:List Value) (g2 o2:Nat) (fv:Nat->Value):Prop where
 heap:w.heap[g]?=some (.cells cs.toArray (46:Nat) (0,0))
 len:xs.length<=cap
 max:cap<=maxLen
 size:cs.length=cap * 4
 row:∀ (k j:Nat) (d:List AV) (x:AV),(xs.map Tb.cells)[k]?=some d->d[j]?=some x->∃ y,cs[k * 4+j]?=some y/\RelD w S x y/\y.oneCell'=true
 at_:∀ j,j < 4->w.cell? ⟨g2,o2+j,none⟩=some (fv j)
 el:∀ (j:Nat) (x:AV),t.cells[j]?=some x->RelD w S x (fv j)/\(fv j).oneCell'=true
 ne:g2≠g
 apart:∀ a,S a->a.block≠g
theorem InsIn.one {w:World} {S:Addr->Prop} {xs:List Tb} {t:Tb} {g cap:Nat} {cs:List Value} {g2 o2:Nat} {fv:Nat->Value} (h:InsIn w S xs t g cap cs g2 o2 fv) {k:Nat} (hk:k < xs.length * 4):∃ y,cs[k]?=some y/\y.oneCell'=true:=by
 have h1:k / 4 < (xs.map Tb.cells).length:=by rw [List.length_map];omega
 have h2:((xs.map Tb.cells)[k / 4]).length=4:=by rw [List.getElem_map];rfl
 obtain ⟨y,y1,_,y3⟩:=h.row (k / 4) (k % 4) _ _ (List.getElem?_eq_getElem h1) (List.getElem?_eq_getElem Zo)
 exact ⟨y,by rw [← y1];congr 1;omega,y3⟩
abbrev cutA (cs:List Value) (i n:Nat):List Value:=(cs.drop (i * 4)).take ((n - i) * 4)
abbrev cutV (fv:Nat->Value):List Value:=(List.range 4).map fv
theorem InsIn.lenA {w:World} {S:Addr->Prop} {xs:List Tb} {t:Tb} {g cap:Nat} {cs:List Value} {g2 o2:Nat} {fv:Nat->Value} (h:InsIn w S xs t g cap cs g2 o2 fv) {i:Nat} (hi:i < xs.length):(cutA cs i xs.length).length=(xs.length - i) * 4:=by
 have:=h.size;have:=h.len
 simp only [cutA,List.length_take,List.length_drop];omega
theorem zdW {cs:List Value} {i n j:Nat} (hj:j < (n - i) * 4):(cutA cs i n)[j]?=cs[i * 4+j]?:=by
 rw [cutA,List.getElem?_take,if_pos hj,List.getElem?_drop]
theorem InsIn.oneA {w:World} {S:Addr->Prop} {xs:List Tb} {t:Tb} {g cap:Nat} {cs:List Value} {g2 o2:Nat} {fv:Nat->Value} (h:InsIn w S xs t g cap cs g2 o2 fv) {i:Nat} (hi:i < xs.length):∀ v∈cutA cs i xs.length,v.oneCell'=true:=by
 intro v hv
 obtain ⟨j,hj⟩:=List.getElem?_of_mem hv
 have hjl:j < (xs.length - i) * 4:=by rw [← h.lenA hi];exact (List.getElem?_eq_some_iff.1 hj).1
 rw [zdW hjl] at hj
 obtain ⟨y,y1,y2⟩:=h.one (k:=i * 4+j) Zo
 rw [hj] at y1;cases y1;exact y2
theorem InsIn.oneV {w:World} {S:Addr->Prop} {xs:List Tb} {t:Tb} {g cap:Nat} {cs:List Value} {g2 o2:Nat} {fv:Nat->Value} (h:InsIn w S xs t g cap cs g2 o2 fv):∀ v∈cutV fv,v.oneCell'=true:=by
 intro v hv
 simp only [cutV,List.mem_map,List.mem_range] at hv
 obtain ⟨j,hj,rfl⟩:=hv
 have hl:t.cells.length=4:=rfl
 exact (h.el j _ (List.getElem?_eq_getElem Zo)).2
theorem zfk {fv:Nat->Value} {j:Nat} (hj:j < 4):(cutV fv)[j]?=some (fv j):=by
 simp [cutV,hj]
end Go.AM
namespace Go.AM
open Go.RowKit Go.Lib
theorem f66:E0.P.funcs[(66:Nat)]?=some Proofs.Tryz.f66:=Proofs.Tryz.func66
theorem ov66 (w:World) (a b:Addr) (la ca lb cb:Nat) (hne:a.block≠b.block) (tA tB:TypeId) (kA kB:Nat)
  (hsa:w.shape? a.block=some (tA,kA)) (hsb:w.shape? b.block=some (tB,kB)) (hkA:kA≠0) (hfb:w.frozen? b=false) (hfe:w.frozen? { block:=b.block,off:=kB }=false) :
  (callFunc (66:Nat) #[.slice (some a) la ca,.slice (some b) lb cb]).run E0.P w=.ok (.value (.bool false)) w:=by
 rw [run_callFunc_extern f66 Zd Zr kr (e:=Extern.SlicesOverlaps.overlaps #[(22:Nat),(22:Nat)] #[(4:Nat)]) kr,
  zg8 w (22:Nat) (4:Nat) (46:Nat) tt22 4 zz46 a b la ca lb cb hne tA tB kA kB hsa hsb hkA hfb hfe]
 rfl
theorem zkh {w:World} {a:Addr} {v:Value} (h:w.cell? a=some v):∃ t k,w.shape? a.block=some (t,k)/\k≠0:=by
 unfold World.cell? at h
 unfold World.shape?
 split at h
 ·rename_i c e _ hb
  refine ⟨e,c.size,rfl,fun h0=>?_⟩
  have hn:c[a.off]?=none:=Array.getElem?_eq_none Zo
  rw [hn] at h
  simp at h
 ·cases h
theorem zi0 {β:List Con} {S:Addr->Prop} {w:World} {xs:List Tb} {t:Tb} {g cap g2 o2 i vc:Nat} {cs:List Value} {fv:Nat->Value} (h:InsIn w S xs t g cap cs g2 o2 fv)
  (r:Rel E0 [.row Ty.Table (xs.map Tb.cells) false] β S w) (hk:β[0]?=some (.row g cap)) (hi:i < xs.length) (h6:xs.length<=6) (hroom:xs.length+1<=cap) :
  Calls E0.P (39:Nat) #[.slice (some ⟨g,0,none⟩) xs.length cap,.int .i64 i,.slice (some ⟨g2,o2,none⟩) 1 vc] w
   (Post E0 [.row Ty.Table (xs.map Tb.cells) false] β S w (fun r' h'=>r'=.own 0 (xs.length+1)/\h'=[.row Ty.Table ((zaO xs i t).map Tb.cells) false])):=by
 have hA:=h.lenA hi
 have hsz:=h.size
 have hmx:=h.max
 have hV:(cutV fv).length=4:=by simp [cutV]
 have q0:w.drew.heap[g]?=some (.cells cs.toArray (46:Nat) (0,0)):=h.heap
 have s1:=zdM (w:=w.drew) (off:=(i+1) * 4) q0 (by rw [hA];omega) (h.oneA hi)
 obtain ⟨W1,e1⟩:∃ W1,W1=w.drew.setCells g ((i+1) * 4) (cutA cs i xs.length):=⟨_,rfl⟩
 rw [← e1] at s1
 have hl1:(zaD cs ((i+1) * 4) (cutA cs i xs.length)).length=cs.length:=za7 _ _ _ (by rw [hA];omega)
 have s2:=zdM (w:=W1) (off:=i * 4) s1.heap (by rw [hl1,hV];omega) h.oneV
 have hl2:(zaD (zaD cs ((i+1) * 4) (cutA cs i xs.length)) (i * 4) (cutV fv)).length=cs.length:=by rw [za7 _ _ _ (by rw [hl1,hV];omega),hl1]
 obtain ⟨tA,kA,hsa,hkA⟩:=zkh (h.at_ 0 Zo)
 have hc:=zm7 (P:=E0.P) Proofs.Tryz.func39 mix0 tt22 tt3 tt4 zz46 g g2 o2 xs.length cap i vc (cutA cs i xs.length) (cutV fv) w hi hroom (by unfold maxLen at hmx;omega)
  (fun lb cb=>ov66 w ⟨g2,o2,none⟩ ⟨g,(i+1) * 4,none⟩ 1 vc lb cb h.ne tA (46:Nat) kA cs.length hsa (by simp [World.shape?,h.heap]) hkA (by simp [World.frozen?,h.heap]) (by simp [World.frozen?,h.heap]))
  (fun ty dc sc=>zeB w.drew (22:Nat) (22:Nat) ty (46:Nat) g ((i+1) * 4) (xs.length - i) dc ⟨g,i * 4,none⟩ (xs.length+1 - i) sc (cutA cs i xs.length) 4 (xs.length - i) tt22 zht (by simp only [Nat.min_def];split <;> omega) hA
   (fun j v hj=>by
    have hjl:j < (xs.length - i) * 4:=by rw [← hA];exact (List.getElem?_eq_some_iff.1 hj).1
    rw [zdW hjl] at hj
    rw [zaW]
    simp [World.cell?,q0,hj])
   (fun j hj=>by rw [hA] at hj;simp [World.cell?,q0];omega) (fun j hj=>by simp [World.frozen?,q0]) (h.oneA hi))
  (fun ty dc=>by
   rw [← e1]
   exact zeB W1 (22:Nat) (22:Nat) ty (46:Nat) g (i * 4) (xs.length+1 - i) dc ⟨g2,o2,none⟩ 1 vc (cutV fv) 4 1 tt22 zht (by simp only [Nat.min_def];split <;> omega) hV
    (fun j v hj=>by
     have hjl:j < 4:=by rw [← hV];exact (List.getElem?_eq_some_iff.1 hj).1
     rw [zfk hjl] at hj
     cases hj
     rw [zaW,World.cell?_of_block (s1.keep g2 h.ne)]
     exact h.at_ j hjl)
    (fun j hj=>by rw [hV] at hj;simp [World.cell?,s1.heap,hl1];omega) (fun j hj=>by simp [World.frozen?,s1.heap]) h.oneV)
 rw [← e1] at hc
 refine Calls.mono (P:=E0.P) hc ?_
 rintro e w' ⟨rfl,rfl⟩
 have hgl:g < w.heap.size:=r.lt 0 _ g hk rfl
 have hkp:∀ k,k≠g->(W1.setCells g (i * 4) (cutV fv)).heap[k]?=w.heap[k]?:=fun k hk2=>(s2.keep k hk2).trans (s1.keep k hk2)
 have hws:(W1.setCells g (i * 4) (cutV fv)).heap.size=w.heap.size:=s2.size.trans s1.size
 have hS:∀ a,S a->(W1.setCells g (i * 4) (cutV fv)).cell? a=w.cell? a:=fun a ha=>World.cell?_of_block (hkp a.block (h.apart a ha))
 have hF:=fun k=>za8 (cs:=zaD cs ((i+1) * 4) (cutA cs i xs.length)) (off:=i * 4) (vs:=cutV fv) (by rw [hl1,hV];omega) k
 have hF1:=fun k=>za8 (cs:=cs) (off:=(i+1) * 4) (vs:=cutA cs i xs.length) (by rw [hA];omega) k
 refine toIns r hk (zmz (e:=Ty.Table) (w:=w) (f:=fun k=>(cs[k]?).getD undef) (v:=fv) szT (by rw [List.length_map];exact hi) s2.heap (by rw [List.length_map];exact hroom) hmx (by simp only [List.size_toArray];rw [hl2,hsz]) rfl (fun k d hd=>by
   obtain ⟨x,_,rfl⟩:=List.mem_map.1 (List.mem_of_getElem? hd)
   rfl) hS (fun k j d x hd hj=>by
   obtain ⟨y,y1,y2,y3⟩:=h.row k j d x hd hj
   simp only [y1,Option.getD_some]
   exact ⟨y2,y3⟩) h.el ?_ ?_ ?_) (Nat.le_of_lt hi) hS (s2.os.trans s1.os) (s2.tape.trans s1.tape) (Nat.le_trans (Nat.le_succ _) (Nat.le_trans s1.drawn s2.drawn)) (s2.output.trans s1.output) (by rw [hws];exact Nat.le_refl _) (fun k _ hk2=>hkp k hk2) (.inl rfl) (by rw [hws];exact hgl)
 ·intro k j hki hj
  have hkl:k * 4+j < xs.length * 4:=by omega
  obtain ⟨y,y1,_⟩:=h.one hkl
  rw [List.getElem?_toArray,hF,if_pos Zo,hF1,if_pos Zo,y1];rfl
 ·intro j hj
  rw [List.getElem?_toArray,hF,if_neg Zo,if_pos (by rw [hV];omega),show i * 4+j - i * 4=j by omega,zfk hj]
 ·intro k j hik hkn hj
  rw [List.length_map] at hkn
  obtain ⟨y,y1,_⟩:=h.one (k:=k * 4+j) Zo
  rw [List.getElem?_toArray,hF,if_neg Zo,if_neg (by rw [hV];omega),hF1,if_neg Zo,if_pos (by rw [hA];omega),zdW Zo,show i * 4+((k+1) * 4+j - (i+1) * 4)=k * 4+j by omega,y1];rfl
end Go.AM
namespace Go.AM
open Go.RowKit Go.Lib
theorem ziZ {β:List Con} {S:Addr->Prop} {w:World} {xs:List Tb} {t:Tb} {g cap g2 o2 i vc:Nat} {cs:List Value} {fv:Nat->Value} (h:InsIn w S xs t g cap cs g2 o2 fv)
  (r:Rel E0 [.row Ty.Table (xs.map Tb.cells) false] β S w) (hk:β[0]?=some (.row g cap)) (hi:i < xs.length) (h6:xs.length<=6) (hroom:cap < xs.length+1) :
  Calls E0.P (39:Nat) #[.slice (some ⟨g,0,none⟩) xs.length cap,.int .i64 i,.slice (some ⟨g2,o2,none⟩) 1 vc] w
   (Post E0 [.row Ty.Table (xs.map Tb.cells) false] β S w (fun r' h'=>r'=.own 0 (xs.length+1)/\h'=[.row Ty.Table ((zaO xs i t).map Tb.cells) false])):=by
 have hA:=h.lenA hi
 have hsz:=h.size
 have hln:=h.len
 have hV:(cutV fv).length=4:=by simp [cutV]
 have hgl:g < w.heap.size:=r.lt 0 _ g hk rfl
 have q0:w.drew.heap[g]?=some (.cells cs.toArray (46:Nat) (0,0)):=h.heap
 obtain ⟨ii,d,z,tok⟩:=tokT
 have his:ii.size=4:=by rw [tok.size,szT]
 have hby:ii.bytes<=1000:=by rw [tok.bytes];exact Nat.le_of_ble_eq_true kr
 have hzl:z.cells.size=4:=by
  have:=(zbS (T:=E0.T) (h:=([]:Heap)) (β:=[]) (w:=w) (S:=S) _ _ tok.zok).1
  rw [Array.length_toList] at this
  rw [← this,tok.zlen,szT]
 have holdl:(cs.take (i * 4)).length=i * 4:=by rw [List.length_take];omega
 have hold:(Builtin.firstCells ii.size i (.slice (some ⟨g,0,none⟩) i cap)).run E0.P w.drew=.ok (cs.take (i * 4)).toArray w.drew :=
  run_firstCells_some (P:=E0.P) (w:=w.drew) ii.size i ⟨g,0,none⟩ i cap (cs.take (i * 4)) (by rw [holdl,his]) (fun j v hj=>by
   rw [List.getElem?_take] at hj
   split at hj
   ·rw [zaW];simp [World.cell?,q0,hj]
   ·cases hj)
 have hm:xs.length+1<=maxLen:=by unfold maxLen;omega
 obtain ⟨G,hG⟩:∃ G,G=grownCap w (xs.length+1) cap (46:Nat):=⟨_,rfl⟩
 have hG1:xs.length+1<=G:=by rw [hG];exact grownCap_ge w _ _ _
 have hG2:G<=maxLen:=by rw [hG];exact grownCap_le_maxLen w _ _ _ hm
 obtain ⟨ROW,hROW⟩:∃ ROW:Array Value,ROW=(cs.take (i * 4)).toArray++Builtin.zeroCells z.cells (xs.length+1 - i)++Builtin.zeroCells z.cells (G - (xs.length+1)):=⟨_,rfl⟩
 have hRl:ROW.toList.length=G * 4:=by
  rw [hROW,Array.length_toList]
  simp only [Array.size_append,List.size_toArray,size_zeroCells,hzl,holdl]
  omega
 have hR0:∀ k,k < i * 4->ROW.toList[k]?=cs[k]?:=fun k hk2=>by
  rw [Array.getElem?_toList,hROW,Array.append_assoc,Array.getElem?_append_left (by simpa [holdl] using hk2),List.getElem?_toArray,List.getElem?_take,if_pos hk2]
 have hrz:∀ ty,(Builtin.append_ #[(22:Nat),(3:Nat)] ty #[.slice (some ⟨g,0,none⟩) i cap,.int .i64 ((xs.length:Int)+1 - (i:Int))]).run E0.P w=.ok (.slice (some ⟨w.heap.size,0,none⟩) (xs.length+1) G) (w.drew.alloc (.cells ROW (46:Nat))):=fun ty=>by
  have hb:(xs.length+1 - i) * ii.bytes<=7 * 1000:=Nat.mul_le_mul Zo hby
  have hb2:(i+(xs.length+1 - i)) * ii.bytes<=7 * 1000:=Nat.mul_le_mul Zo hby
  have:=run_append_grow_zeros w (22:Nat) (3:Nat) ty (46:Nat) ii z .i64 .i64 tt22 tt3 tok.info tok.zero (some ⟨g,0,none⟩) i cap (cs.take (i * 4)) hold (xs.length+1 - i) Zo Zo Zo Zo Zo (growslice_fits Zo Zo)
  rw [show i+(xs.length+1 - i)=xs.length+1 by omega,← hG,← hROW] at this
  rw [show ((xs.length:Int)+1 - (i:Int))=((xs.length+1 - i:Nat):Int) by omega]
  exact this
 obtain ⟨W1,e1⟩:∃ W1,W1=w.drew.alloc (.cells ROW (46:Nat)):=⟨_,rfl⟩
 rw [← e1] at hrz
 obtain ⟨N,hN⟩:∃ N,N=w.heap.size:=⟨_,rfl⟩
 rw [← hN] at hrz
 have w1N:W1.heap[N]?=some (.cells ROW.toList.toArray (46:Nat) (0,0)):=by rw [e1,hN];exact heap_alloc_new w.drew _
 have w1k:∀ k,k < w.heap.size->W1.heap[k]?=w.heap[k]?:=fun k hk2=>by
  rw [e1]
  show (w.heap.push _)[k]?=_
  rw [Array.getElem?_push,if_neg Zo]
 have w1s:W1.heap.size=w.heap.size+1:=by rw [e1];show (w.heap.push _).size=_;simp
 have s1:=zdM (w:=W1) (off:=i * 4) w1N (by rw [hRl,hV];omega) h.oneV
 have hl1:(zaD ROW.toList (i * 4) (cutV fv)).length=G * 4:=by rw [za7 _ _ _ (by rw [hRl,hV];omega),hRl]
 obtain ⟨W2,e2⟩:∃ W2,W2=W1.setCells N (i * 4) (cutV fv):=⟨_,rfl⟩
 rw [← e2] at s1
 have s1d:W2.drew.heap[N]?=some (.cells (zaD ROW.toList (i * 4) (cutV fv)).toArray (46:Nat) (0,0)):=s1.heap
 have s2:=zdM (w:=W2.drew) (off:=(i+1) * 4) s1d (by rw [hl1,hA];omega) (h.oneA hi)
 have hl2:(zaD (zaD ROW.toList (i * 4) (cutV fv)) ((i+1) * 4) (cutA cs i xs.length)).length=G * 4:=by rw [za7 _ _ _ (by rw [hl1,hA];omega),hl1]
 have hlt2:g2 < w.heap.size:=by
  obtain ⟨_,_,hs,_⟩:=zkh (h.at_ 0 Zo)
  unfold World.shape? at hs
  split at hs
  ·rename_i hb;exact (Array.getElem?_eq_some_iff.1 hb).1
  ·cases hs
 have hkp2:∀ k,k < w.heap.size->W2.heap[k]?=w.heap[k]?:=fun k hk2=>(s1.keep k Zo).trans (w1k k hk2)
 have hc:=zm6 (P:=E0.P) Proofs.Tryz.func39 mix0 tt22 tt3 tt4 zz46 g N g2 o2 xs.length cap i vc G w W1 W2 (W2.drew.setCells N ((i+1) * 4) (cutA cs i xs.length)) hi hln hroom hG1 (by unfold maxLen at hG2;omega) h6 hrz
  (fun ty dc=>by
   rw [e2]
   exact zeB W1 (22:Nat) (22:Nat) ty (46:Nat) N (i * 4) (xs.length+1 - i) dc ⟨g2,o2,none⟩ 1 vc (cutV fv) 4 1 tt22 zht (by simp only [Nat.min_def];split <;> omega) hV
    (fun j v hj=>by
     have hjl:j < 4:=by rw [← hV];exact (List.getElem?_eq_some_iff.1 hj).1
     rw [zfk hjl] at hj
     cases hj
     rw [zaW,World.cell?_of_block (w1k g2 hlt2)]
     exact h.at_ j hjl)
    (fun j hj=>by rw [hV] at hj;simp only [Array.length_toList] at hRl;simp [World.cell?,w1N];omega) (fun j hj=>by simp [World.frozen?,w1N]) h.oneV)
  (fun ty dc sc=>zeB W2.drew (22:Nat) (22:Nat) ty (46:Nat) N ((i+1) * 4) (xs.length - i) dc ⟨g,i * 4,none⟩ (xs.length - i) sc (cutA cs i xs.length) 4 (xs.length - i) tt22 zht (by simp only [Nat.min_def];split <;> omega) hA
   (fun j v hj=>by
    have hjl:j < (xs.length - i) * 4:=by rw [← hA];exact (List.getElem?_eq_some_iff.1 hj).1
    rw [zdW hjl] at hj
    have hg2:W2.drew.heap[g]?=some (.cells cs.toArray (46:Nat) (0,0)):=(hkp2 g hgl).trans h.heap
    rw [zaW]
    simp [World.cell?,hg2,hj])
   (fun j hj=>by rw [hA] at hj;simp [World.cell?,s1d,hl1];omega) (fun j hj=>by simp [World.frozen?,s1d]) (h.oneA hi))
 refine Calls.mono (P:=E0.P) hc ?_
 rintro e w' ⟨rfl,rfl⟩
 have hkp:∀ k,k < w.heap.size->(W2.drew.setCells N ((i+1) * 4) (cutA cs i xs.length)).heap[k]?=w.heap[k]?:=fun k hk2=>(s2.keep k Zo).trans (hkp2 k hk2)
 have hws:(W2.drew.setCells N ((i+1) * 4) (cutA cs i xs.length)).heap.size=w.heap.size+1:=s2.size.trans (s1.size.trans w1s)
 have hS:∀ a,S a->(W2.drew.setCells N ((i+1) * 4) (cutA cs i xs.length)).cell? a=w.cell? a:=fun a ha=>World.cell?_of_block (hkp a.block (r.stable a ha))
 have hF:=fun k=>za8 (cs:=zaD ROW.toList (i * 4) (cutV fv)) (off:=(i+1) * 4) (vs:=cutA cs i xs.length) (by rw [hl1,hA];omega) k
 have hF1:=fun k=>za8 (cs:=ROW.toList) (off:=i * 4) (vs:=cutV fv) (by rw [hRl,hV];omega) k
 refine toIns r hk (zmz (e:=Ty.Table) (w:=w) (f:=fun k=>(cs[k]?).getD undef) (v:=fv) szT (by rw [List.length_map];exact hi) s2.heap (by rw [List.length_map];exact hG1) hG2 (by simp only [List.size_toArray];rw [hl2]) rfl (fun k d hd=>by
   obtain ⟨x,_,rfl⟩:=List.mem_map.1 (List.mem_of_getElem? hd)
   rfl) hS (fun k j d x hd hj=>by
   obtain ⟨y,y1,y2,y3⟩:=h.row k j d x hd hj
   simp only [y1,Option.getD_some]
   exact ⟨y2,y3⟩) h.el ?_ ?_ ?_) (Nat.le_of_lt hi) hS (s2.os.trans (s1.os.trans (by rw [e1];rfl))) (s2.tape.trans (s1.tape.trans (by rw [e1];rfl))) (Nat.le_trans (Nat.le_trans (Nat.le_trans (Nat.le_succ _) (Nat.le_of_eq (by rw [e1];rfl))) s1.drawn) (Nat.le_trans (Nat.le_succ _) s2.drawn)) (s2.output.trans (s1.output.trans (by rw [e1];rfl))) (by rw [hws];omega) (fun k hk2 _=>hkp k hk2) (.inr Zo) (by rw [hws];omega)
 ·intro k j hki hj
  obtain ⟨y,y1,_⟩:=h.one (k:=k * 4+j) Zo
  rw [List.getElem?_toArray,hF,if_pos Zo,hF1,if_pos Zo,hR0 _ Zo,y1];rfl
 ·intro j hj
  rw [List.getElem?_toArray,hF,if_pos Zo,hF1,if_neg Zo,if_pos (by rw [hV];omega),show i * 4+j - i * 4=j by omega,zfk hj]
 ·intro k j hik hkn hj
  rw [List.length_map] at hkn
  obtain ⟨y,y1,_⟩:=h.one (k:=k * 4+j) Zo
  rw [List.getElem?_toArray,hF,if_neg Zo,if_pos (by rw [hA];omega),zdW Zo,show i * 4+((k+1) * 4+j - (i+1) * 4)=k * 4+j by omega,y1];rfl
end Go.AM
namespace Go.AM
open Go.RowKit Go.Lib
theorem insM:InsM:=by
 intro xs i t hi h6
 intro β S w vs r hp
 obtain ⟨hl,hv⟩:=hp
 match vs,hl,hv with
 | [v0,v1,v2],_,hv =>
  have h0:=hv 0 _ v0 rfl rfl
  have h1:=hv 1 _ v1 rfl rfl
  have h2:=hv 2 _ v2 rfl rfl
  obtain rfl:v1=.int .i64 (i:Int):=by
   cases h1 with
   | d _ _ h=>cases h with|v _ _=>rfl
  refine .inl ⟨⟨_,At.A3,by kernel_rfl,by kernel_rfl⟩,?_⟩
  obtain ⟨k,hk,hrow⟩:=r.row 0 Ty.Table (xs.map Tb.cells) false rfl
  cases h0 with
  | d _ _ h=>cases h
  | own _ _ _ e xs2 sh2 hb hn hy _ =>
  cases hb
  have hcur:=hy Zs
  rw [hk] at hcur
  cases k with
  | mp _=>exact hrow.elim
  | box _=>exact hrow.elim
  | nil a =>
   have hx:xs.map Tb.cells=[]:=hrow
   have:xs=[]:=List.map_eq_nil_iff.1 hx
   subst this
   simp at hi
  | row g cap =>
  simp only [Option.bind_some,Con.cur,Option.some.injEq] at hcur
  subst hcur
  obtain ⟨cs,q1,q2,q3,q4,q5,q6,q7⟩:=hrow
  have hap:∀ a,S a->a.block≠g:=fun a ha e2=>by
   obtain ⟨e1,xs1,hh,_⟩:=r.free 0 _ g a hk rfl ha e2
   cases hh
  rw [List.length_map] at q2
  rw [show (E0.T Ty.Table).size=4 from szT] at q5 q7
  cases h2 with
  | d _ _ hd =>
  cases hd with
  | sl _ a cap2 g2 o2 size f p1 p2 p3 p4 p5 p6 =>
  have hs4:size=4:=by rw [← p4 0 t.cells rfl];rfl
  subst hs4
  have ha:a=some ⟨g2,o2,none⟩:=p1 Zs
  subst ha
  have hp5:∀ j,j < 4->S ⟨g2,o2+j,none⟩/\w.cell? ⟨g2,o2+j,none⟩=some (f j)/\(f j).oneCell'=true:=fun j hj=>by
   have hj2:j < t.cells.length:=hj
   have:=p5 0 j t.cells _ rfl (List.getElem?_eq_getElem hj2)
   rwa [Nat.zero_mul,Nat.zero_add] at this
  have hin:InsIn w S xs t g cap cs.toList g2 o2 f:={
   heap:=by simpa using q1
   len:=q2
   max:=q4
   size:=by simpa using q5
   row:=fun k j d x hd hj=>by
    obtain ⟨y,y1,y2,y3⟩:=q7 k j d x hd hj
    exact ⟨y,by simpa using y1,y2,y3⟩
   at_:=fun j hj=>(hp5 j hj).2.1
   el:=fun j x hj=>by
    have h6':=p6 0 j t.cells x rfl hj
    rw [Nat.zero_mul,Nat.zero_add] at h6'
    have hj2:j < 4:=(List.getElem?_eq_some_iff.1 hj).1
    exact ⟨h6',(hp5 j hj2).2.2⟩
   ne:=hap _ (hp5 0 Zo).1
   apart:=hap }
  rcases Nat.lt_or_ge cap (xs.length+1) with hc|hc
  ·exact ziZ hin r hk hi h6 hc
  ·exact zi0 hin r hk hi h6 hc
end Go.AM
namespace Go.AM
open Go.RowKit
abbrev old (W:World):Addr->Prop:=fun a=>a.block < W.heap.size
theorem calls_of {f:FuncId} {args:List AV} {b:Bool} (h:zaa E0 f args [] (bv b) []) (hgo:GoFn E0.P f) {W:World} {vs:List Value} (hglob:∀ g cs,globs g=some cs->RelD W (old W) (.dp cs) (.pointer (some ⟨g,0,none⟩))) (hargs:PW (RelV E0.T [] [] W (old W)) args vs) :
  Calls E0.P f vs.toArray W fun e W'=>e=.returned (.bool b)/\Below W.heap.size W W':=by
 have hrel:Rel E0 [] [] (old W) W:=⟨rfl,fun b cs hb=>by simp at hb,fun b e xs sh hb=>by simp at hb,fun b es hb=>by simp at hb,fun b b' k k' g hb=>by simp at hb,fun b k g hb=>by simp at hb,fun a ha=>ha,fun b k g a hb=>by simp at hb,hglob⟩
 obtain ⟨fn,hf1,hf2,hf3⟩:=hgo
 have hp:∀ e W',Post E0 [] [] (old W) W (fun r' h''=>r'=bv b/\h''=[]) e W'->e=.returned (.bool b)/\Below W.heap.size W W':=by
  rintro e W' ⟨r,h',β',S',y,rfl,⟨rfl,rfl⟩,_,ex,rv⟩
  refine ⟨?_,ex.os,ex.tape,ex.output,ex.size,fun k hk=>ex.keep k hk fun b' k' hb=>by simp at hb⟩
  rw [rv.v_inv]
 rcases h [] (old W) W vs hrel hargs with ⟨_,hc⟩|⟨y,w',hrun,_⟩
 ·exact hc.mono hp
 ·exfalso
  simp only [callFunc,Sem.run_bind,Sem.run_pure,Result.andThen_ok,run_program,hf1,hf2,hf3,Bool.false_eq_true,if_false] at hrun
  cases hrun
end Go.AM
