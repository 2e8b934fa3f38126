/-
  BeforeApplies, where what is read is of bulk at most 1048576: the call returns true, and its arguments read as they did. Condition: the listed variables hold what the program's text lays.
-/
import Derived.Test.YtenlehhclknogaaGreatDoorApF
import Derived.Test.YtenlehhclknogaaGreatDoorCards
import Derived.Test.YtenlehhclknogaaGreatDoorTie
import Derived.WalkKit
import Derived.ProofKit
import Derived.OpenShut
import Derived.Deep.DeepHandedRow
import Derived.Lay
set_option linter.unusedSimpArgs false
set_option linter.unusedVariables false
namespace Go.Proofs.YtenlehhclknogaaGreatDoor
open Go.ChangeShapes Go.WideShapes Go.ChangeAt Go.RowKit
set_option maxRecDepth 100000
set_option maxHeartbeats 1000000
section
variable {H : Type} {enc : TypeId × Value → H} {P : Program}
theorem postBelow {f:Func} {s:ChangeSpec} {apart fresh handsOn again:Bool} {W W':World} {args:Array Value} {v:Value} {ds gs:List (DataW H)} {before pa pv:List MemPlace}
  (hW:DataW.Whole enc P f.params.toList s.vars apart W args.toList ds gs before)
  (hres:∀ (b:Nat) (sp:Nat→Bool) (hd:Bool),DataW.TrodAll enc P W' b sp hd f.resultTypes.toList (v.resultList f.resultTypes.size) (s.fn H (ds++gs)).results [])
  (hargs:∀ sp:Nat→Bool,(∀ p∈before,sp p.block=true)→DataW.TrodAll enc P W' 0 sp true f.params.toList args.toList (s.fn H (ds++gs)).args pa)
  (hvars:∀ sp:Nat→Bool,(∀ p∈before,sp p.block=true)→DataW.TrodVars enc P W' sp s.vars (s.fn H (ds++gs)).vars pv)
  (hps:before=pa++pv) (hb:Below W.heap.size W W')
  (hok:∀ (j:Nat) (t:TypeId) (r:Value),f.resultTypes[j]?=some t→(v.resultList f.resultTypes.size)[j]?=some r→Value.okWide P W' .any 0 t r) :
  s.post enc P f apart fresh handsOn again W args v W':=by
 have hlt:∀ p∈before,p.block < W.heap.size:=fun p hp=>hW.lt p hp
 have hold:∀ p∈before,(fun b=>decide (b < W.heap.size)) p.block=true:=fun p hp=>by simpa using hlt p hp
 refine ⟨ds,gs,before,[],pa,pv,hW,hres _ _ _,hargs _ hold,hvars _ hold,World.keptBut_mono (fun p hp=>⟨hp,?_⟩) (hb.frame (·∈before)),fun _=>?_⟩
 ·rw [hps,List.mem_append] at hp
  exact Or.inr hp
 ·obtain ⟨_,_,_,_,_,hz,hn⟩:=hW
  refine ⟨hok,_,_,([]++pa)++pv,⟨[]++pa,pv,trodAll_append (hargs _ (fun _ _=>rfl)) (hres _ _ _),hvars _ (fun _ _=>rfl),rfl,?_,?_⟩,?_⟩
  ·intro b off hp
   have hin:MemPlace.cell b off∈before:=by rw [hps];simpa using hp
   rw [hb.frozen (hlt _ hin)]
   exact hz b off hin
  ·intro ha
   have:=hn ha
   rw [hps] at this
   simpa using this
  ·intro p hp _
   rw [hps]
   simpa using hp
end
theorem own:ownKnob Tryz.prog.godebug=none:=by kernel_rfl
theorem gWords : Tryz.prog.globalNamed "triggerstore/triggerstoreworld.words" = some AM.S.g_world_words := by kernel_rfl
theorem gNames : Tryz.prog.globalNamed "triggerstore/triggerstoreworld.names" = some AM.S.g_world_names := by kernel_rfl
theorem gTrig : Tryz.prog.globalNamed "triggerstore/triggerstoreworld.triggerNames" = some AM.S.g_world_triggerNames := by kernel_rfl
theorem laidOut:laidOutB Tryz.prog=true:=by kernel_rfl
theorem globsOf {W : World} (h1 : Lib.VarReads Tryz.prog W "triggerstore/triggerstoreworld.words" Rows.laid_triggerstore_triggerstoreworld_words) (h2 : Lib.VarReads Tryz.prog W "triggerstore/triggerstoreworld.names" Rows.laid_triggerstore_triggerstoreworld_names) (h3 : Lib.VarReads Tryz.prog W "triggerstore/triggerstoreworld.triggerNames" Rows.laid_triggerstore_triggerstoreworld_triggerNames) :
  ∀ g cs,AM.globs g=some cs→AM.RelD W (AM.old W) (.dp cs) (.pointer (some ⟨g,0,none⟩)):=by
 intro g cs hg
 unfold AM.globs at hg
 split at hg
 ·rename_i hb
  obtain rfl:=Nat.eq_of_beq_eq_true hb
  cases hg
  refine AM.relD_strs AM.zd8 (AM.laid_strs (l:=[[],[97],[98],[105,116,39,115],[90,32,122],[126]]) h1 gWords (t:=175) (e:=9) (k:=6) (by kernel_rfl) (by kernel_rfl) (by kernel_rfl) (by kernel_rfl) rfl)
 ·split at hg
  ·rename_i hb
   obtain rfl:=Nat.eq_of_beq_eq_true hb
   cases hg
   refine AM.relD_strs AM.zlN (AM.laid_strs (l:=[[105,100],[110],[109],[98],[115],[120],[97,49,95],[97,98,99,100,101,102,103,104,105,106,107,108]]) h2 gNames (t:=111) (e:=9) (k:=8) (by kernel_rfl) (by kernel_rfl) (by kernel_rfl) (by kernel_rfl) rfl)
  ·split at hg
   ·rename_i hb
    obtain rfl:=Nat.eq_of_beq_eq_true hb
    cases hg
    refine AM.relD_strs AM.zbd (AM.laid_strs (l:=[[97,97],[98,98],[99,99],[100,100],[101,101],[102,102],[103,103],[104,104]]) h3 gTrig (t:=111) (e:=9) (k:=8) (by kernel_rfl) (by kernel_rfl) (by kernel_rfl) (by kernel_rfl) rfl)
   ·cases hg
theorem cells_one {v:Value} (h:v.oneCell'=true):v.cells=#[v]:=by cases v <;> first|rfl|cases h
theorem bulk_len {H:Type}:∀ l:List (DataW H),l.length≤Rows.uptoBulkAll l
 | []=>by simp [Rows.uptoBulkAll]
 | x::r=>by
  have h1:=bulk_len r
  have h2:1≤Rows.uptoBulk x:=by cases x <;> first|(simp [Rows.uptoBulk];done)|(rename_i l;cases l <;> simp [Rows.uptoBulk])
  simp only [Rows.uptoBulkAll,List.length_cons]
  omega
theorem bulk_part {H:Type} {d:DataW H}:∀ {l:List (DataW H)},d∈l→Rows.uptoBulk d≤Rows.uptoBulkAll l
 | x::r,h=>by
  simp only [Rows.uptoBulkAll]
  rcases List.mem_cons.1 h with rfl|h
  ·omega
  ·have:=bulk_part h;omega
theorem bulkOk {H:Type}:AM.Bulk (Rows.uptoBulk (H:=H)) :=
 ⟨fun es sp=>by have:=bulk_len es;simp only [Rows.uptoBulk];omega,fun es sp d hd=>by have:=bulk_part hd;simp only [Rows.uptoBulk];omega,fun ps d hd=>by have:=bulk_part hd;simp only [Rows.uptoBulk];omega⟩
theorem bulk_in {H:Type} {ds gs:List (DataW H)} (hk:Rows.uptoSmall H (ds++gs)=true) {d:DataW H} (hd:d∈ds):Rows.uptoBulk d≤AM.zdI:=by
 have h1:Rows.uptoBulkAll (ds++gs)≤1048576:=of_decide_eq_true hk
 have h2:=bulk_part (l:=ds++gs) (List.mem_append_left _ hd)
 exact Nat.le_trans h2 h1
theorem argRead {H:Type} {enc:TypeId × Value→H} {W:World} {t:TypeId} {v:Value} {d:DataW H} {p:List MemPlace} {T:Type} {cells:T→List AM.AV} {ok:Nat→T→Prop} (ho:v.oneCell'=true) (hr:∀ n,AM.Rdr enc Rows.uptoBulk W n t cells (ok n)) (h:DataW.Trod enc Tryz.prog W 0 (fun _=>true) true t v d p) (hb:Rows.uptoBulk d≤AM.zdI) :
  ∃ n y,ok n y∧AM.RD W (cells y) [v]:=by
 obtain ⟨fuel,hf⟩:=h
 rw [cells_one ho] at hf
 obtain ⟨y,h1,h2⟩:=hr fuel [v] _ hf hb
 exact ⟨fuel,y,h1,h2⟩
theorem oneOf {W:World} {base:Nat} {t:TypeId} {v:Value} (hval:Value.okWide Tryz.prog W .any base t v) (hk:(match Tryz.prog.underlying t with|some (.struct _)|some (.array _ _)=>false|_=>true)=true):v.oneCell'=true:=by
 unfold Value.okWide at hval
 split at hval
 ·rename_i h;rw [h] at hk;cases hk
 ·rename_i h;rw [h] at hk;cases hk
 ·exact AM.oneCell_ok hval
theorem contractL (H:Type) (enc:TypeId × Value→H) (W:World) (base:Nat) (args:Array Value) (ds gs:List (DataW H)) (before:List MemPlace)
  (hval:∀ (j:Nat) t v,Tryz.f5.params[j]?=some t→args[j]?=some v→Value.okWide Tryz.prog W .any base t v)
  (hW:DataW.Whole enc Tryz.prog Tryz.f5.params.toList Rows.beforeAppliesSpec.vars false W args.toList ds gs before)
  (hk:Rows.uptoSmall H (ds++gs)=true) (hL:laidMetH Tryz.prog Rows.beforeAppliesRow.laid W) :
  Calls Tryz.prog 5 args W fun e W'=>∃ v,e=.returned v∧Rows.beforeAppliesSpec.post enc Tryz.prog Tryz.f5 false true false false W args v W':=by
 have hW':=hW
 have hL':laidMet Tryz.prog Rows.beforeAppliesRow.laid W:=hL
 obtain ⟨p,q,hA0,hV,rfl,hfz,hnd⟩:=hW
 have hA:DataW.TrodAll enc Tryz.prog W 0 (fun _=>true) true Tryz.f5.params.toList args.toList ds p:=hA0
 rw [Tryz.params5] at hA hval
 obtain ⟨v0,vs0,d0,ds0,p0,q0,hargs,rfl,rfl,h0,r0⟩:=trodAll_cons hA
 obtain ⟨v1,vs1,d1,ds1,p1,q1,rfl,rfl,rfl,h1,r1⟩:=trodAll_cons r0
 obtain ⟨v2,vs2,d2,ds2,p2,q2,rfl,rfl,rfl,h2,r2⟩:=trodAll_cons r1
 obtain ⟨v3,vs3,d3,ds3,p3,q3,rfl,rfl,rfl,h3,r3⟩:=trodAll_cons r2
 obtain ⟨v4,vs4,d4,ds4,p4,q4,rfl,rfl,rfl,h4,r4⟩:=trodAll_cons r3
 obtain ⟨v5,vs5,d5,ds5,p5,q5,rfl,rfl,rfl,h5,r5⟩:=trodAll_cons r4
 obtain ⟨rfl,rfl,rfl⟩:=trodAll_nil r5
 obtain rfl:args=#[v0,v1,v2,v3,v4,v5]:=by cases args;simp_all
 obtain ⟨rfl,rfl⟩:=trodVars_none hV
 clear hA0 hA
 have hlt:∀ x∈(p0++(p1++(p2++(p3++(p4++(p5++[]))))))++[],x.block < W.heap.size:=fun x hx=>hW'.lt x hx
 obtain ⟨N,raw,g0,l0⟩:=argRead (oneOf (hval 0 30 v0 rfl rfl) (by kernel_rfl)) (fun n=>AM.rdTriggers bulkOk) h0 (bulk_in hk (by simp))
 obtain ⟨_,tb,_,l1⟩:=argRead (oneOf (hval 1 9 v1 rfl rfl) (by kernel_rfl)) (fun n=>AM.zdA (by kernel_rfl)) h1 (bulk_in hk (by simp))
 obtain ⟨_,ev,_,l2⟩:=argRead (oneOf (hval 2 3 v2 rfl rfl) (by kernel_rfl)) (fun n=>AM.zgB (by kernel_rfl)) h2 (bulk_in hk (by simp))
 obtain ⟨_,asg,g3,l3⟩:=argRead (oneOf (hval 3 35 v3 rfl rfl) (by kernel_rfl)) (fun n=>AM.rdStrs bulkOk) h3 (bulk_in hk (by simp))
 obtain ⟨_,each,_,l4⟩:=argRead (oneOf (hval 4 4 v4 rfl rfl) (by kernel_rfl)) (fun n=>AM.zlJ (by kernel_rfl)) h4 (bulk_in hk (by simp))
 obtain ⟨_,tape,_,l5⟩:=argRead (oneOf (hval 5 22 v5 rfl rfl) (by kernel_rfl)) (fun n=>AM.rdInts bulkOk) h5 (bulk_in hk (by simp))
 have e0:=(l0.at_ 0 _ _ rfl rfl).2
 have e1:=(l1.at_ 0 _ _ rfl rfl).2
 have e2:=(l2.at_ 0 _ _ rfl rfl).2
 have e3:=(l3.at_ 0 _ _ rfl rfl).2
 have e4:=(l4.at_ 0 _ _ rfl rfl).2
 have e5:=(l5.at_ 0 _ _ rfl rfl).2
 obtain ⟨r,hr,hc⟩:=AM.zoU N raw tb ev asg each tape AM.zeh (AM.zcY g0.1) g0.2 (AM.zcY g3.1)
 subst hr
 have walk:=AM.calls_of hc ⟨Tryz.f5,Tryz.func5,by kernel_rfl,by kernel_rfl⟩ (W:=W) (globsOf (Lib.laidMet.reads hL' (.tail _ (.head _))) (Lib.laidMet.reads hL' (.tail _ (.tail _ (.head _)))) (Lib.laidMet.reads hL' (.head _))) (vs:=[v0,v1,v2,v3,v4,v5]) (.cons (.d _ _ e0) (.cons (.d _ _ e1) (.cons (.d _ _ e2) (.cons (.d _ _ e3) (.cons (.d _ _ e4) (.cons (.d _ _ e5) .nil))))))
 refine Calls.mono (P:=Tryz.prog) (f:=5) walk fun e W' ⟨he,hb⟩=>?_
 subst he
 refine ⟨_,rfl,postBelow (pa:=p0++(p1++(p2++(p3++(p4++(p5++[])))))) (pv:=[]) hW' (fun _ _ _=>trodAll_cons_mk (shut_bool Tryz.underlying4 _) trodAll_mk0) (fun sp hsp=>?_) (fun _ _=>rfl) rfl hb (ok_one (by kernel_rfl) rfl (okWide_bool_mk Tryz.underlying4 _))⟩
 exact (trodAll_cons_mk (WideElems.Trod_stays laidOut (by kernel_rfl) (of_decide_eq_true (by kernel_rfl)) h0 (fun x hx=>hb.same (hlt x (by simp [hx]))) (fun x hx=>hsp x (by simp [hx]))) (trodAll_cons_mk (WideElems.Trod_stays laidOut (by kernel_rfl) (of_decide_eq_true (by kernel_rfl)) h1 (fun x hx=>hb.same (hlt x (by simp [hx]))) (fun x hx=>hsp x (by simp [hx]))) (trodAll_cons_mk (WideElems.Trod_stays laidOut (by kernel_rfl) (of_decide_eq_true (by kernel_rfl)) h2 (fun x hx=>hb.same (hlt x (by simp [hx]))) (fun x hx=>hsp x (by simp [hx]))) (trodAll_cons_mk (WideElems.Trod_stays laidOut (by kernel_rfl) (of_decide_eq_true (by kernel_rfl)) h3 (fun x hx=>hb.same (hlt x (by simp [hx]))) (fun x hx=>hsp x (by simp [hx]))) (trodAll_cons_mk (WideElems.Trod_stays laidOut (by kernel_rfl) (of_decide_eq_true (by kernel_rfl)) h4 (fun x hx=>hb.same (hlt x (by simp [hx]))) (fun x hx=>hsp x (by simp [hx]))) (trodAll_cons_mk (WideElems.Trod_stays laidOut (by kernel_rfl) (of_decide_eq_true (by kernel_rfl)) h5 (fun x hx=>hb.same (hlt x (by simp [hx]))) (fun x hx=>hsp x (by simp [hx]))) trodAll_mk0))))))
def wArgs:Array Value:=#[.slice none 0 0,.string .empty,.int .i64 0,.slice none 0 0,.bool false,.slice none 0 0]
noncomputable def wWorld (os:Os):World:=World.laidAll Tryz.prog os Rows.beforeAppliesRow.laid
theorem wReads (os:Os) {H:Type} (enc:TypeId × Value→H):∃ places,DataW.whole enc Tryz.prog ((wWorld os).forCall (fun _ _=>0) ⟨#[],wArgs,[]⟩).memory Tryz.f5.params.toList Rows.beforeAppliesSpec.vars false wArgs.toList 8 =
  some ([.nil,.lit (.string []),.lit (.int .i64 0),.nil,.lit (.bool false),.nil],[],places) :=
 ⟨[],by kernel_rfl⟩
theorem wLaid (os:Os):laidMetH Tryz.prog Rows.beforeAppliesRow.laid ((wWorld os).forCall (fun _ _=>0) ⟨#[],wArgs,[]⟩).memory :=
 laidMet_laidAll wArgs (by kernel_rfl) (by kernel_rfl)
theorem liftedL (os:Os) (started:os.Started) (H:Type) (enc:TypeId × Value→H) (F:Stop.Interp) :
  ReturnsInHanded {} Tryz.checked os 5 .any ((Rows.OpenSpec.upto Rows.beforeAppliesSpec).preRow enc Tryz.prog Tryz.f5 Rows.beforeAppliesUptoRow.domain false Rows.beforeAppliesUptoRow.laid) (((Rows.OpenSpec.upto Rows.beforeAppliesSpec).at F).post enc Tryz.prog Tryz.f5 false true false false):=by
 obtain ⟨places,hx⟩:=wReads os enc
 refine returnsInHanded_of_row (C:=Tryz.checked) (s:=Rows.OpenSpec.upto Rows.beforeAppliesSpec) own started (by kernel_rfl) Tryz.func5
  (witness_row_at (enc:=enc) (C:=Tryz.checked) false (wWorld os) wArgs (World.laidAll_os _ _ _) (by kernel_rfl) (by kernel_rfl) (by kernel_rfl)
   (OpenSpec.preRow_of_cond 8 hx (by kernel_rfl) (fun k hk=>by cases hk;kernel_rfl) (by kernel_rfl) (wLaid os))) ?_
 intro W base args ds gs before hval hW _ hcond _ hL _ _
 exact contractL H enc W base args ds gs before hval hW (hcond _ rfl) hL
theorem saidL:Rows.BeforeAppliesUptoSaid :=
 OpenClaim.holds_of_cond 5 Tryz.f5 rfl rfl rfl rfl rfl rfl rfl ⟨rfl,rfl,rfl,rfl,rfl⟩ rfl rfl rfl rfl rfl (by kernel_rfl) Tryz.func5 (by kernel_rfl)
  (of_decide_eq_true (by kernel_rfl)) (by unfold Func.isWrapper;first|(rw [if_pos (by decide +kernel)];kernel_rfl)|(rw [if_neg (by decide +kernel)];exact ⟨rfl,rfl⟩))
  (fun os started H enc _ F=>by rw [OpenClaim.pre_eq_preRow];exact liftedL os started H enc F)
theorem plainL (f : FuncId) (fn : Func) (hf : Tryz.pinned.checked.prog.funcNamed "triggerstore/triggerstorelaw20.BeforeApplies" = some f) (hfn : Tryz.pinned.checked.prog.funcs[f]? = some fn) :
  false=Tryz.pinned.checked.prog.looks []∧∀ (j:Nat) t,fn.params[j]?=some t→Tryz.pinned.checked.prog.wantsStandIn t=false:=by
 obtain rfl : f = 5 := Option.some.inj ((show Tryz.prog.funcNamed "triggerstore/triggerstorelaw20.BeforeApplies" = some 5 by kernel_rfl).symm.trans hf) |>.symm
 obtain rfl:fn=Tryz.f5:=(Option.some.inj (Tryz.func5.symm.trans hfn)).symm
 refine ⟨by kernel_rfl,fun j t ht=>?_⟩
 rw [Tryz.params5] at ht
 have hm:=Array.mem_of_getElem? ht
 simp only [List.mem_toArray,List.mem_cons,List.not_mem_nil,or_false] at hm
 rcases hm with rfl|rfl|rfl|rfl|rfl|rfl
 ·exact (show Tryz.prog.wantsStandIn 30=false by kernel_rfl)
 ·exact (show Tryz.prog.wantsStandIn 9=false by kernel_rfl)
 ·exact (show Tryz.prog.wantsStandIn 3=false by kernel_rfl)
 ·exact (show Tryz.prog.wantsStandIn 35=false by kernel_rfl)
 ·exact (show Tryz.prog.wantsStandIn 4=false by kernel_rfl)
 ·exact (show Tryz.prog.wantsStandIn 22=false by kernel_rfl)
theorem beforeApplies_holds:Rows.BeforeAppliesUptoCardSaid :=
 Claim7.holds_tied_plain_at .later [] _ _ _ _ saidL (fun _ h=>by cases h) (by kernel_rfl) (fun _ h=>by cases h) beforeAppliesUpto_row_tie rfl ⟨rfl,rfl⟩ (by kernel_rfl) rfl plainL (by kernel_rfl)
#print axioms beforeApplies_holds
end Go.Proofs.YtenlehhclknogaaGreatDoor
