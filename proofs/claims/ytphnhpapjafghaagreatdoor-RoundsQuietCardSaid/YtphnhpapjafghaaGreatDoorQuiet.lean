/-
  RoundsQuiet: whatever the numbers handed in, the call returns true, and its arguments read as they did. Condition: the listed variables hold what the program's text lays; each slice takes at most 2^47 - 4096 bytes (the form's own reach).
-/
import Derived.Test.YtphnhpapjafghaaGreatDoorRqH
import Derived.Test.YtphnhpapjafghaaGreatDoorCards
import Derived.Test.YtphnhpapjafghaaGreatDoorTie
import Derived.WalkKit
import Derived.ProofKit
import Derived.OpenShut
import Derived.SizedLaws
import Derived.Deep.DeepHandedRow
import Derived.Lay
set_option linter.unusedSimpArgs false
set_option linter.unusedVariables false
namespace Go.Proofs.YtphnhpapjafghaaGreatDoor
open Go.ChangeShapes Go.WideShapes Go.ChangeAt Go.RowKit
set_option maxRecDepth 100000
set_option maxHeartbeats 1000000
section
variable {H : Type} {enc : TypeId × Value → H} {P : Program}
theorem postBelow {f:Func} {s:ChangeSpec} {apart fresh handsOn again:Bool} {W W':World} {args:Array Value} {v:Value} {ds gs:List (DataW H)} {before pa pv:List MemPlace}
  (hW:DataW.Whole enc P f.params.toList s.vars apart W args.toList ds gs before)
  (hres:∀ (b:Nat) (sp:Nat→Bool) (hd:Bool),DataW.TrodAll enc P W' b sp hd f.resultTypes.toList (v.resultList f.resultTypes.size) (s.fn H (ds++gs)).results [])
  (hargs:∀ sp:Nat→Bool,(∀ p∈before,sp p.block=true)→DataW.TrodAll enc P W' 0 sp true f.params.toList args.toList (s.fn H (ds++gs)).args pa)
  (hvars:∀ sp:Nat→Bool,(∀ p∈before,sp p.block=true)→DataW.TrodVars enc P W' sp s.vars (s.fn H (ds++gs)).vars pv)
  (hps:before=pa++pv) (hb:Below W.heap.size W W')
  (hok:∀ (j:Nat) (t:TypeId) (r:Value),f.resultTypes[j]?=some t→(v.resultList f.resultTypes.size)[j]?=some r→Value.okWide P W' .any 0 t r) :
  s.post enc P f apart fresh handsOn again W args v W':=by
 have hlt:∀ p∈before,p.block < W.heap.size:=fun p hp=>hW.lt p hp
 have hold:∀ p∈before,(fun b=>decide (b < W.heap.size)) p.block=true:=fun p hp=>by simpa using hlt p hp
 refine ⟨ds,gs,before,[],pa,pv,hW,hres _ _ _,hargs _ hold,hvars _ hold,World.keptBut_mono (fun p hp=>⟨hp,?_⟩) (hb.frame (·∈before)),fun _=>?_⟩
 ·rw [hps,List.mem_append] at hp
  exact Or.inr hp
 ·obtain ⟨_,_,_,_,_,hz,hn⟩:=hW
  refine ⟨hok,_,_,([]++pa)++pv,⟨[]++pa,pv,trodAll_append (hargs _ (fun _ _=>rfl)) (hres _ _ _),hvars _ (fun _ _=>rfl),rfl,?_,?_⟩,?_⟩
  ·intro b off hp
   have hin:MemPlace.cell b off∈before:=by rw [hps];simpa using hp
   rw [hb.frozen (hlt _ hin)]
   exact hz b off hin
  ·intro ha
   have:=hn ha
   rw [hps] at this
   simpa using this
  ·intro p hp _
   rw [hps]
   simpa using hp
end
theorem own:ownKnob Tryz.prog.godebug=none:=by kernel_rfl
theorem gWords : Tryz.prog.globalNamed "triggerstore/triggerstoreworld.words" = some AM.S.DN := by kernel_rfl
theorem gTrig : Tryz.prog.globalNamed "triggerstore/triggerstoreworld.triggerNames" = some AM.S.Dz := by kernel_rfl
theorem laidOut:laidOutB Tryz.prog=true:=by kernel_rfl
theorem globsOf {W : World} (h0 : Lib.VarReads Tryz.prog W "triggerstore/triggerstoreworld.words" Rows.laid_triggerstore_triggerstoreworld_words) (h1 : Lib.VarReads Tryz.prog W "triggerstore/triggerstoreworld.triggerNames" Rows.laid_triggerstore_triggerstoreworld_triggerNames) :
  ∀ g cs,AM.globs g=some cs→AM.RelD W (AM.old W) (.dp cs) (.pointer (some ⟨g,0,none⟩)):=by
 intro g cs hg
 unfold AM.globs at hg
 split at hg
 ·rename_i hb
  obtain rfl:=Nat.eq_of_beq_eq_true hb
  cases hg
  refine AM.relD_strs AM.zeR (AM.laid_strs (l:=[[],[97],[98],[105,116,39,115],[90,32,122],[126]]) h0 gWords (t:=239) (e:=9) (k:=6) (by kernel_rfl) (by kernel_rfl) (by kernel_rfl) (by kernel_rfl) rfl)
 ·split at hg
  ·rename_i hb
   obtain rfl:=Nat.eq_of_beq_eq_true hb
   cases hg
   refine AM.relD_strs AM.za8 (AM.laid_strs (l:=[[97,97],[98,98],[99,99],[100,100],[101,101],[102,102],[103,103],[104,104]]) h1 gTrig (t:=57) (e:=9) (k:=8) (by kernel_rfl) (by kernel_rfl) (by kernel_rfl) (by kernel_rfl) rfl)
  ·cases hg
theorem cells_one {v:Value} (h:v.oneCell'=true):v.cells=#[v]:=by cases v <;> first|rfl|cases h
theorem intsArg {H:Type} {enc:TypeId × Value→H} {W:World} {base:Nat} {v:Value} {d:DataW H} {p:List MemPlace} (hval:Value.okWide Tryz.prog W .any base 22 v) (h:DataW.Trod enc Tryz.prog W 0 (fun _=>true) true 22 v d p) :
  ∃ l:List Int,AM.RelV AM.E0.T [] [] W (AM.old W) (AM.isl l) v∧(l=[]∨∃ elems spare,d=.slice elems spare∧elems.length=l.length):=by
 have hu:Tryz.prog.underlying 22=some (.slice 3):=by kernel_rfl
 have ho:v.oneCell'=true:=by
  unfold Value.okWide at hval
  rw [hu] at hval
  exact AM.oneCell_ok hval
 obtain ⟨fuel,hf⟩:=h
 rw [cells_one ho] at hf
 rcases open_ints hu (by kernel_rfl:Tryz.prog.underlying 3=some (.int .i64)) (by kernel_rfl:Tryz.prog.cellsOf 3=1) hf with ⟨h1,_⟩|⟨a,len,cap,zs,h1,_,h2,h3,h4,hd,h5,_⟩
 ·have:v=.slice none 0 0:=by simpa using h1
  subst this
  exact ⟨[],AM.relV_nil,.inl rfl⟩
 ·have:v=.slice (some a) len cap:=by simpa using h1
  subst this
  simp only [if_pos] at h4
  exact ⟨zs.take len,AM.relV_ints h2 h3 h4 h5,.inr ⟨_,_,(Prod.mk.inj hd).1,by simp [lits]⟩⟩
theorem reachOf {H:Type} {ts:List TypeId} {ds:List (DataW H)} (hS:(DataW.weightsEach Tryz.prog ts ds).all (·≤reachBytes)=true) {j:Nat} {d:DataW H} {l:List Int} (ht:ts[j]?=some 22) (hd:ds[j]?=some d) (h:l=[]∨∃ elems spare,d=.slice elems spare∧elems.length=l.length):AM.Room l:=by
 rcases h with rfl|⟨elems,spare,rfl,hl⟩
 ·simp [AM.Room]
 ·have h1:=sized_slice hS ht hd (by kernel_rfl:Tryz.prog.underlying 22=some (.slice 3))
  rw [(by kernel_rfl:Tryz.prog.bytesOf 3=8)] at h1
  have h2:=reachBytes_lt
  simp only [AM.Room]
  omega
theorem contractL (H:Type) (enc:TypeId × Value→H) (W:World) (base:Nat) (args:Array Value) (ds gs:List (DataW H)) (before:List MemPlace)
  (hval:∀ (j:Nat) t v,Tryz.f5.params[j]?=some t→args[j]?=some v→Value.okWide Tryz.prog W .any base t v)
  (hW:DataW.Whole enc Tryz.prog Tryz.f5.params.toList Rows.roundsQuietSpec.vars false W args.toList ds gs before)
  (hS:(DataW.weightsEach Tryz.prog (Tryz.f5.params.toList++(OpenSpec.ofChange Rows.roundsQuietSpec).bare.plain.varTypes Tryz.prog) (ds++gs)).all (·≤reachBytes)=true) (hL:laidMetH Tryz.prog Rows.roundsQuietRow.laid W) :
  Calls Tryz.prog 5 args W fun e W'=>∃ v,e=.returned v∧Rows.roundsQuietSpec.post enc Tryz.prog Tryz.f5 false true false false W args v W':=by
 have hW':=hW
 have hL':laidMet Tryz.prog Rows.roundsQuietRow.laid W:=hL
 obtain ⟨p,q,hA0,hV,rfl,hfz,hnd⟩:=hW
 have hA:DataW.TrodAll enc Tryz.prog W 0 (fun _=>true) true Tryz.f5.params.toList args.toList ds p:=hA0
 rw [Tryz.params5] at hA hval hS
 obtain ⟨v0,vs0,d0,ds0,p0,q0,hargs,rfl,rfl,h0,r0⟩:=trodAll_cons hA
 obtain ⟨rfl,rfl,rfl⟩:=trodAll_nil r0
 obtain rfl:args=#[v0]:=by cases args;simp_all
 obtain ⟨rfl,rfl⟩:=trodVars_none hV
 clear hA0 hA
 have hlt:∀ x∈(p0++[])++[],x.block < W.heap.size:=fun x hx=>hW'.lt x hx
 obtain ⟨l0,hl0,hb0⟩:=intsArg (hval 0 22 v0 rfl rfl) h0
 have hc:=AM.zzQ l0
 have walk:=AM.calls_of hc ⟨Tryz.f5,Tryz.func5,by kernel_rfl,by kernel_rfl⟩ (W:=W) (globsOf (Lib.laidMet.reads hL' (.tail _ (.head _))) (Lib.laidMet.reads hL' (.head _))) (vs:=[v0]) (.cons hl0 .nil)
 refine Calls.mono (P:=Tryz.prog) (f:=5) walk fun e W' ⟨he,hb⟩=>?_
 subst he
 refine ⟨_,rfl,postBelow (pa:=p0++[]) (pv:=[]) hW' (fun _ _ _=>trodAll_cons_mk (shut_bool Tryz.underlying4 _) trodAll_mk0) (fun sp hsp=>?_) (fun _ _=>rfl) rfl hb (ok_one (by kernel_rfl) rfl (okWide_bool_mk Tryz.underlying4 _))⟩
 exact (trodAll_cons_mk (WideElems.Trod_stays laidOut (by kernel_rfl) (of_decide_eq_true (by kernel_rfl)) h0 (fun x hx=>hb.same (hlt x (by simp [hx]))) (fun x hx=>hsp x (by simp [hx]))) trodAll_mk0)
def wArgs:Array Value:=#[.slice none 0 0]
noncomputable def wWorld (os:Os):World:=World.laidAll Tryz.prog os Rows.roundsQuietRow.laid
theorem wReads (os:Os) {H:Type} (enc:TypeId × Value→H):∃ places,DataW.whole enc Tryz.prog ((wWorld os).forCall (fun _ _=>0) ⟨#[],wArgs,[]⟩).memory Tryz.f5.params.toList Rows.roundsQuietSpec.vars false wArgs.toList 8 =
  some ([.nil],[],places) :=
 ⟨[],by kernel_rfl⟩
theorem wLaid (os:Os):laidMetH Tryz.prog Rows.roundsQuietRow.laid ((wWorld os).forCall (fun _ _=>0) ⟨#[],wArgs,[]⟩).memory :=
 laidMet_laidAll wArgs (by kernel_rfl) (by kernel_rfl)
theorem liftedL (os:Os) (started:os.Started) (H:Type) (enc:TypeId × Value→H) (F:Stop.Interp) :
  ReturnsInHanded {} Tryz.checked os 5 .any ((OpenSpec.ofChange Rows.roundsQuietSpec).preRow enc Tryz.prog Tryz.f5 Rows.roundsQuietRow.domain false Rows.roundsQuietRow.laid) (((OpenSpec.ofChange Rows.roundsQuietSpec).at F).post enc Tryz.prog Tryz.f5 false true false false):=by
 obtain ⟨places,hx⟩:=wReads os enc
 refine returnsInHanded_of_row (C:=Tryz.checked) (s:=OpenSpec.ofChange Rows.roundsQuietSpec) own started (by kernel_rfl) Tryz.func5
  (witness_row_at (enc:=enc) (C:=Tryz.checked) false (wWorld os) wArgs (World.laidAll_os _ _ _) (by kernel_rfl) (by kernel_rfl) (by kernel_rfl)
   (OpenSpec.preRow_of_cond 8 hx (by kernel_rfl) (fun k hk=>by cases hk) (by kernel_rfl) (wLaid os))) ?_
 intro W base args ds gs before hval hW _ _ hS hL _ _
 exact contractL H enc W base args ds gs before hval hW hS hL
/- The row's facts about the program, each by itself (together they take more than 10 GB in a great program). -/
theorem jf1:(Rows.roundsQuietRow.inPlace==Tryz.pinned.checked.prog.inPlace 5)=true:=by kernel_rfl
theorem jf2:(Rows.roundsQuietRow.unfollowed==Tryz.pinned.checked.prog.unfollowed 5)=true:=by kernel_rfl
theorem jf3:(Rows.roundsQuietRow.recurses==Tryz.pinned.checked.prog.recurses 5)=true:=by kernel_rfl
theorem jf4:(Rows.roundsQuietRow.named==Tryz.pinned.checked.prog.varsNamed 5)=true:=by kernel_rfl
theorem jf:joinedFacts Tryz.pinned.checked.prog 5 Tryz.f5 (OpenSpec.ofChange Rows.roundsQuietSpec).bare Rows.roundsQuietRow=true:=by
 unfold joinedFacts
 rw [jf1,jf2,jf3,jf4]
 kernel_rfl
theorem saidL:Rows.RoundsQuietSaid :=
 OpenClaim.holds_of_cond 5 Tryz.f5 rfl rfl rfl rfl rfl rfl rfl ⟨rfl,rfl,rfl,rfl,rfl⟩ rfl rfl rfl rfl rfl (by kernel_rfl) Tryz.func5 jf
  (of_decide_eq_true (by kernel_rfl)) (by unfold Func.isWrapper;first|(rw [if_pos (by decide +kernel)];kernel_rfl)|(rw [if_neg (by decide +kernel)];exact ⟨rfl,rfl⟩))
  (fun os started H enc _ F=>by rw [OpenClaim.pre_eq_preRow];exact liftedL os started H enc F)
theorem plainL (f : FuncId) (fn : Func) (hf : Tryz.pinned.checked.prog.funcNamed "triggerstore/triggerstorelaw24.RoundsQuiet" = some f) (hfn : Tryz.pinned.checked.prog.funcs[f]? = some fn) :
  false=Tryz.pinned.checked.prog.looks []∧∀ (j:Nat) t,fn.params[j]?=some t→Tryz.pinned.checked.prog.wantsStandIn t=false:=by
 obtain rfl : f = 5 := Option.some.inj ((show Tryz.prog.funcNamed "triggerstore/triggerstorelaw24.RoundsQuiet" = some 5 by kernel_rfl).symm.trans hf) |>.symm
 obtain rfl:fn=Tryz.f5:=(Option.some.inj (Tryz.func5.symm.trans hfn)).symm
 refine ⟨by kernel_rfl,fun j t ht=>?_⟩
 rw [Tryz.params5] at ht
 obtain rfl:t=22:=by simpa using Array.mem_of_getElem? ht
 exact (show Tryz.prog.wantsStandIn 22=false by kernel_rfl)
theorem roundsQuiet_holds:Rows.RoundsQuietCardSaid :=
 Claim7.holds_tied_plain_at .later [] _ _ _ _ saidL (fun _ h=>by cases h) (by kernel_rfl) (fun _ h=>by cases h) roundsQuiet_row_tie rfl ⟨rfl,rfl⟩ (by kernel_rfl) rfl plainL (by kernel_rfl)
#print axioms roundsQuiet_holds
end Go.Proofs.YtphnhpapjafghaaGreatDoor
