/-
  CommuteClashes: whatever the accesses and the numbers handed in, the call returns true, and all read as they did. No condition.
-/
import Derived.Test.YtbieommhhfacmaaGreatCcE
import Derived.Test.YtbieommhhfacmaaGreatRows
import Derived.WalkKit
import Derived.ProofKit
import Derived.OpenShut
import Derived.Deep.DeepHandedRow
set_option linter.unusedSimpArgs false
set_option linter.unusedVariables false
namespace Go.Proofs.YtbieommhhfacmaaGreat
open Go.ChangeShapes Go.WideShapes Go.ChangeAt Go.RowKit
set_option maxRecDepth 100000
set_option maxHeartbeats 1000000
section
variable {H : Type} {enc : TypeId × Value → H} {P : Program}
theorem postBelow {f:Func} {s:ChangeSpec} {apart fresh handsOn again:Bool} {W W':World} {args:Array Value} {v:Value} {ds gs:List (DataW H)} {before pa pv:List MemPlace}
  (hW:DataW.Whole enc P f.params.toList s.vars apart W args.toList ds gs before)
  (hres:∀ (b:Nat) (sp:Nat→Bool) (hd:Bool),DataW.TrodAll enc P W' b sp hd f.resultTypes.toList (v.resultList f.resultTypes.size) (s.fn H (ds++gs)).results [])
  (hargs:∀ sp:Nat→Bool,(∀ p∈before,sp p.block=true)→DataW.TrodAll enc P W' 0 sp true f.params.toList args.toList (s.fn H (ds++gs)).args pa)
  (hvars:∀ sp:Nat→Bool,(∀ p∈before,sp p.block=true)→DataW.TrodVars enc P W' sp s.vars (s.fn H (ds++gs)).vars pv)
  (hps:before=pa++pv) (hb:Below W.heap.size W W')
  (hok:∀ (j:Nat) (t:TypeId) (r:Value),f.resultTypes[j]?=some t→(v.resultList f.resultTypes.size)[j]?=some r→Value.okWide P W' .any 0 t r) :
  s.post enc P f apart fresh handsOn again W args v W':=by
 have hlt:∀ p∈before,p.block < W.heap.size:=fun p hp=>hW.lt p hp
 have hold:∀ p∈before,(fun b=>decide (b < W.heap.size)) p.block=true:=fun p hp=>by simpa using hlt p hp
 refine ⟨ds,gs,before,[],pa,pv,hW,hres _ _ _,hargs _ hold,hvars _ hold,World.keptBut_mono (fun p hp=>⟨hp,?_⟩) (hb.frame (·∈before)),fun _=>?_⟩
 ·rw [hps,List.mem_append] at hp
  exact Or.inr hp
 ·obtain ⟨_,_,_,_,_,hz,hn⟩:=hW
  refine ⟨hok,_,_,([]++pa)++pv,⟨[]++pa,pv,trodAll_append (hargs _ (fun _ _=>rfl)) (hres _ _ _),hvars _ (fun _ _=>rfl),rfl,?_,?_⟩,?_⟩
  ·intro b off hp
   have hin:MemPlace.cell b off∈before:=by rw [hps];simpa using hp
   rw [hb.frozen (hlt _ hin)]
   exact hz b off hin
  ·intro ha
   have:=hn ha
   rw [hps] at this
   simpa using this
  ·intro p hp _
   rw [hps]
   simpa using hp
end
theorem own:ownKnob Tryz.prog.godebug=none:=by kernel_rfl
theorem laidOut:laidOutB Tryz.prog=true:=by kernel_rfl
theorem cells_one {v:Value} (h:v.oneCell'=true):v.cells=#[v]:=by cases v <;> first|rfl|cases h
theorem argRead {H:Type} {enc:TypeId × Value→H} {W:World} {t:TypeId} {v:Value} {d:DataW H} {p:List MemPlace} {T:Type} {cells:T→List AM.AV} {ok:T→Prop} (ho:v.oneCell'=true) (hr:∀ n,AM.RdU enc W n t cells ok) (h:DataW.Trod enc Tryz.prog W 0 (fun _=>true) true t v d p) :
  ∃ y,ok y∧AM.RD W (cells y) [v]:=by
 obtain ⟨fuel,hf⟩:=h
 rw [cells_one ho] at hf
 obtain ⟨y,h1,h2⟩:=hr fuel [v] _ hf
 exact ⟨y,h1,h2⟩
theorem oneOf {W:World} {base:Nat} {t:TypeId} {v:Value} (hval:Value.okWide Tryz.prog W .any base t v) (hk:(match Tryz.prog.underlying t with|some (.struct _)|some (.array _ _)=>false|_=>true)=true):v.oneCell'=true:=by
 unfold Value.okWide at hval
 split at hval
 ·rename_i h;rw [h] at hk;cases hk
 ·rename_i h;rw [h] at hk;cases hk
 ·exact AM.oneCell_ok hval
theorem lifted (os:Os) (started:os.Started) (H:Type) (enc:TypeId × Value→H) :
  ReturnsInHanded {} Tryz.checked os 3 .any (Rows.commuteClashesSpec.pre6 enc Tryz.prog Tryz.f3 Rows.commuteClashesRow.domain false) (Rows.commuteClashesSpec.post enc Tryz.prog Tryz.f3 false true false false):=by
 refine returnsInHanded_of_change (C:=Tryz.checked) own started (by kernel_rfl) Tryz.func3
  (ChangeSpec.witness6 (enc:=enc) (C:=Tryz.checked) false ⟨#[],#[.slice none 0 0,.slice none 0 0,.slice none 0 0],[]⟩ 8 (by kernel_rfl) (by kernel_rfl) (by kernel_rfl) (by kernel_rfl)) ?_
 intro W base args ds gs before hval0 hW hcnd _
 have hval:∀ (j:Nat) t v,Tryz.f3.params[j]?=some t→args[j]?=some v→Value.okWide Tryz.prog W .any base t v:=hval0
 have hW':=hW
 obtain ⟨p,q,hA0,hV,rfl,hfz,hnd⟩:=hW
 have hA:DataW.TrodAll enc Tryz.prog W 0 (fun _=>true) true Tryz.f3.params.toList args.toList ds p:=hA0
 rw [Tryz.params3] at hA hval
 obtain ⟨v0,vs0,d0,ds0,p0,q0,hargs,rfl,rfl,h0,r0⟩:=trodAll_cons hA
 obtain ⟨v1,vs1,d1,ds1,p1,q1,rfl,rfl,rfl,h1,r1⟩:=trodAll_cons r0
 obtain ⟨v2,vs2,d2,ds2,p2,q2,rfl,rfl,rfl,h2,r2⟩:=trodAll_cons r1
 obtain ⟨rfl,rfl,rfl⟩:=trodAll_nil r2
 obtain rfl:args=#[v0,v1,v2]:=by cases args;simp_all
 obtain ⟨rfl,rfl⟩:=trodVars_none hV
 clear hA0 hA hval0
 have hlt:∀ x∈(p0++(p1++(p2++[])))++[],x.block < W.heap.size:=fun x hx=>hW'.lt x hx
 obtain ⟨l,_,l0⟩:=argRead (oneOf (hval 0 22 v0 rfl rfl) (by kernel_rfl)) (fun n=>AM.rdAccsU) h0
 obtain ⟨q,_,l1⟩:=argRead (oneOf (hval 1 22 v1 rfl rfl) (by kernel_rfl)) (fun n=>AM.rdAccsU) h1
 obtain ⟨tape,_,l2⟩:=argRead (oneOf (hval 2 23 v2 rfl rfl) (by kernel_rfl)) (fun n=>AM.rdIntsU) h2
 have e0:=(l0.at_ 0 _ _ rfl rfl).2
 have e1:=(l1.at_ 0 _ _ rfl rfl).2
 have e2:=(l2.at_ 0 _ _ rfl rfl).2
 obtain ⟨r,hr,hc⟩:=AM.zlm l q tape
 subst hr
 have walk:=AM.calls_of hc ⟨Tryz.f3,Tryz.func3,by kernel_rfl,by kernel_rfl⟩ (W:=W) (fun g cs h=>by cases h) (vs:=[v0,v1,v2]) (.cons (.d _ _ e0) (.cons (.d _ _ e1) (.cons (.d _ _ e2) .nil)))
 refine Calls.mono (P:=Tryz.prog) (f:=3) walk fun e W' ⟨he,hb⟩=>?_
 subst he
 refine ⟨_,rfl,postBelow (pa:=p0++(p1++(p2++[]))) (pv:=[]) hW' (fun _ _ _=>trodAll_cons_mk (shut_bool Tryz.underlying4 _) trodAll_mk0) (fun sp hsp=>?_) (fun _ _=>rfl) rfl hb (ok_one (by kernel_rfl) rfl (okWide_bool_mk Tryz.underlying4 _))⟩
 exact (trodAll_cons_mk (WideElems.Trod_stays laidOut (by kernel_rfl) (of_decide_eq_true (by kernel_rfl)) h0 (fun x hx=>hb.same (hlt x (by simp [hx]))) (fun x hx=>hsp x (by simp [hx]))) (trodAll_cons_mk (WideElems.Trod_stays laidOut (by kernel_rfl) (of_decide_eq_true (by kernel_rfl)) h1 (fun x hx=>hb.same (hlt x (by simp [hx]))) (fun x hx=>hsp x (by simp [hx]))) (trodAll_cons_mk (WideElems.Trod_stays laidOut (by kernel_rfl) (of_decide_eq_true (by kernel_rfl)) h2 (fun x hx=>hb.same (hlt x (by simp [hx]))) (fun x hx=>hsp x (by simp [hx]))) trodAll_mk0)))
theorem commuteClashes_holds:Rows.CommuteClashesSaid :=
 OpenClaim.holds_of_wide 3 Tryz.f3 rfl rfl rfl rfl rfl rfl rfl ⟨rfl,rfl,rfl,rfl,rfl⟩ rfl rfl rfl rfl rfl (by kernel_rfl) Tryz.func3 (by kernel_rfl)
  (of_decide_eq_true (by kernel_rfl)) (by unfold Func.isWrapper;first|(rw [if_pos (by decide +kernel)];kernel_rfl)|(rw [if_neg (by decide +kernel)];exact ⟨rfl,rfl⟩))
  (fun os started H enc _=>lifted os started H enc)
#print axioms commuteClashes_holds
end Go.Proofs.YtbieommhhfacmaaGreat
