/-
  Contracts of the program's functions, part 6.
-/
import Derived.Test.YtoanpmnofigncaaGreatDoorAbF
import Derived.Laws.MathBits
set_option maxRecDepth 100000
set_option maxHeartbeats 40000000
set_option linter.unusedSimpArgs false
set_option linter.unusedVariables false
namespace Go.AM
theorem zpn {p:Prop} (h:p:=by first|assumption|omega|(simp;done)|(simp;omega)):p:=h
abbrev cc2 (tb:List Tb):List (List AV):=[[tsl tb],[.sl []]]
theorem zoC (a b:List AV) (h:b.length=1):ElAt [a,b] ((0+1:Nat):Int) b 1:=⟨by decide,rfl,h⟩
noncomputable def L_cz (tb:List Tb) (i:Nat) (sz:Int):Cfg:=zaj B.Al 0 [(0,.sl (cc2 tb)),(3,iv sz),(9,.sl (cc2 tb)),(10,iv ((cc2 tb).length:Nat)),(11,iv (i:Nat))] []
theorem zcj (tb:List Tb) (i:Nat) (sz:Int):True/\∀ R,Good E0 B.Al [] (L_cz tb i sz) R->Good E0 B.Al [] (L_cz tb i sz) R:=⟨trivial,fun _ h=>h⟩
noncomputable def L_cb (tb:List Tb) (i:Nat) (xs:List Tb):Cfg:=zaj B.Al 1 [(6,.own 0 xs.length),(25,.sl (cc2 tb)),(26,iv ((cc2 tb).length:Nat)),(27,iv (i:Nat))] [.row Ty.Table (xs.map Tb.cells) false]
theorem zci (tb:List Tb) (i:Nat) (xs:List Tb):True/\∀ R,Good E0 B.Al [] (L_cb tb i xs) R->Good E0 B.Al [] (L_cb tb i xs) R:=⟨trivial,fun _ h=>h⟩
theorem zzx (tb:List Tb) (hl:tb.length<=1000) (w1:IntKind.i64.wrap (0+((tb.map Tb.cells).length:Int))=(tb.length:Int)) (w2:IntKind.i64.wrap ((tb.length:Int)+(([]:List (List AV)).length:Int))=(tb.length:Int)) (w3:decide ((tb.length:Int) < 0)=false):∃ (r:List Tb),r=tb/\zaa E0 S.Al [.sl (cc2 tb)] [] (tsl r) []:=by
 obtain ⟨q1,g1⟩:=zcj tb 0 (0)
 obtain ⟨q2,g2⟩:=zcj tb (0+1) ((tb.length:Int))
 obtain ⟨q3,g3⟩:=zcj tb (0+1+1) ((tb.length:Int))
 obtain ⟨q4,g4⟩:=zci tb 0 ([])
 obtain ⟨q5,g5⟩:=zci tb (0+1) ([]++tb)
 obtain ⟨q6,g6⟩:=zci tb (0+1+1) ([]++tb++[])
 exact ⟨[]++tb++[],(by (simp;done)),wkc At.Al [] [0,3,9,10,11] 0 kr (g1 _ (zab (wkl [sb Zt,se (xs:=[[tsl tb],[AV.sl []]]) (i:=0) (c:=[tsl tb]) (n:=1) ⟨by decide,rfl,rfl⟩,si w1,sb Zf,si (zbz (t:=(↑0:Int)+1) (n:=0+1) Zo Zo)] [0,3,9,10,11] 0 kr (g2 _ (zab (wkl [sb Zt,se (zoC ([tsl tb]) ([AV.sl []]) Za),si w2,sb Zf,si (zbz (t:=(↑(0+1):Int)+1) (n:=0+1+1) Zo Zo)] [0,3,9,10,11] 0 kr (g3 _ (zab (wkl [sb Zf,sln [] (zfY tb.length Za)] [6,25,26,27] 1 kr (g4 _ (zab (wkl [sb Zt,se (xs:=[[tsl tb],[AV.sl []]]) (i:=0) (c:=[tsl tb]) (n:=1) ⟨by decide,rfl,rfl⟩,sqx (AllLen (List.map Tb.cells tb) 4/\0=0/\((([]:List (List AV)).length+(List.map Tb.cells tb).length) * 72).le 140737488355328),si (zbz (t:=(↑0:Int)+1) (n:=0+1) Zo Zo)] [6,25,26,27] 1 kr (zaF (show ([(6,AV.own 0 ([]++List.map Tb.cells tb).length),(25,AV.sl [[tsl tb],[AV.sl []]]),(26,iv (↑[[tsl tb],[AV.sl []]].length:Int)),(27,iv (↑(0+1):Int))]:TS)=_ from Zcv5) rfl (g5 _ (zab (wkl [sb Zt,se (zoC ([tsl tb]) ([AV.sl []]) Za),sqx (AllLen [] 4/\([]++tb).length=(List.map Tb.cells ([]++tb)).length/\(((List.map Tb.cells ([]++tb)).length+([]:List (List AV)).length) * 72).le 140737488355328),si (zbz (t:=(↑(0+1):Int)+1) (n:=0+1+1) Zo Zo)] [6,25,26,27] 1 kr (zao 6 0 (List.map Tb.cells ([]++tb)++[]) (g6 _ (zab (wkr [sqx (([]++tb++[]).length=(List.map Tb.cells ([]++tb++[])).length),sb Zf] kr))) (he:=Zcv5) (hm:=Zcv5))))))))))))))))))⟩
theorem zjW (tb:List Tb) (hl:tb.length<=1000):zaa E0 S.Al [.sl (cc2 tb)] [] (tsl tb) []:=by
 obtain ⟨r,rfl,h⟩:=zzx tb hl (by rw [List.length_map,IntKind.wrap_i64];omega) (by rw [IntKind.wrap_i64];simp;omega) Zs
 exact h
theorem zzy (t:Tb) (n:Str) :∃ (r:Bool),r=zaw t n/\zaa E0 S.Ci [.agg t.cells,.p 0 0] [.box [sv n]] (bv r) [.box [sv n]]:=by
 exact ⟨ByteArray.toList t.sch.name==ByteArray.toList n,Zr,wk At.Ci [] kr⟩
theorem zoP (t:Tb) (n:Str):zaa E0 S.Ci [.agg t.cells,.p 0 0] [.box [sv n]] (bv (zaw t n)) [.box [sv n]]:=by
 obtain ⟨r,rfl,h⟩:=zzy t n
 exact h
noncomputable def zvI (l:List Tb) (n:Str) (i:Nat) :Cfg:=zaj B.Ag 0 [(0,.sl (l.map Tb.cells)),(1,.fn S.Ci [.p 0 0]),(7,iv ((l.map Tb.cells).length:Nat)),(8,iv (i:Nat))] [.box [sv n]]
theorem zej (l:List Tb) (n:Str) (hl:zac l) (i:Nat)  (hi:i<=(l).length) (hI:idxF (fun t=>zaw t n) l 0=idxF (fun t=>zaw t n) (l.drop i) i):((idxF (fun t=>zaw t n) l 0=idxF (fun t=>zaw t n) (l.drop (l).length) (l).length)/\(decide ((((l).length:Nat):Int) < (((l.map Tb.cells).length:Nat):Int))=false)/\∀ R,Good E0 B.Ag [.box [sv n]] (zvI l n (l).length ) R->Good E0 B.Ag [.box [sv n]] (zvI l n i ) R)\/(∃ (r:Int),r=idxF (fun t=>zaw t n) l 0/\Good E0 B.Ag [.box [sv n]] (zvI l n i ) (Shut 1 fun rZ hZ=>rZ=(iv r)/\hZ=[.box [sv n]])):=by
 have hk:=hi;revert i;refine zlp ((l).length) (fun i hlt ih hi hI _=>?_)
 obtain ⟨x,hx,h0,hw⟩:=zlq (l:=l) ((l.map Tb.cells).length) hlt
 let p_1:List St:=[sb h0,se (zaf Tb.cells hx rfl),sl [0] (zoP x n)]
 cases h1:zaw x n
 ·exact zie2 (ih Zo (by exact zm2 hI hx ‹_›) Zo) fun R gY=>zab (wkl (p_1++[sb h1,si hw]) [0,1,7,8] 1 kr gY)
 ·exact .inr ⟨(i:Int),(by exact zoH hI hx ‹_›),zab (wkr (p_1++[sb h1]) kr)⟩
theorem c_ixF (l:List Tb) (n:Str) (hl:zac l):∃ (r:Int),r=idxF (fun t=>zaw t n) l 0/\zaa E0 S.Ag [.sl (l.map Tb.cells),.fn S.Ci [.p 0 0]] [.box [sv n]] (iv r) [.box [sv n]]:=by
 rcases zej l n Za 0 Za Za with ⟨q1,q1_1,g1⟩|⟨r1_0,p1_0,g1⟩
 ·exact ⟨-1,(by first|assumption|exact zgH ‹_›),wkc At.Ag [] [0,1,7,8] 1 kr (g1 _ (zab (wkr [sb q1_1] kr)))⟩
 ·exact ⟨r1_0,(by first|assumption|exact zgH ‹_›),wkc At.Ag [] [0,1,7,8] 1 kr (g1)⟩
theorem zsm (tb:List Tb) (n:Str) (hx:∃ r:Int,r=idxF (fun t=>zaw t n) tb 0/\zaa E0 S.Ag [tsl tb,.fn S.Ci [.p 0 0]] [.box [sv n]] (iv r) [.box [sv n]]):∃ (r:Int),r=idxF (fun t=>zaw t n) tb 0/\zaa E0 S.Ck [tsl tb,sv n] [] (iv r) []:=by
 obtain ⟨r1,q1,c1⟩:=hx
 exact ⟨r1,‹_›,wk At.Ck [sl [0] c1] kr⟩
theorem zma (tb:List Tb) (n:Str) (hl:zac tb):zaa E0 S.Ck [tsl tb,sv n] [] (iv (idxF (fun t=>zaw t n) tb 0)) []:=by
 obtain ⟨r,rfl,h⟩:=zsm tb n (c_ixF tb n hl)
 exact h
theorem zwc (x:Rw) (hsv:zac x.vals):∃ (r:Rw),r=x/\zaa E0 S.Cr [.agg x.cells] [] (.agg r.cells) []:=by
 exact ⟨x,Zr,wk At.Cr [sqx (True/\x.vals.length=(List.map V.cells x.vals).length/\True),sd [(4,[sc (za1 x.vals zpn)])]] kr⟩
theorem zwO (x:Rw) (h:zac x.vals):zaa E0 S.Cr [.agg x.cells] [] (.agg x.cells) []:=by
 obtain ⟨r,rfl,h⟩:=zwc x h
 exact h
noncomputable def L_dlR (l:List Rw) (i:Nat) (out:List Rw):Cfg:=zaj B.Bt 0 [(1,.fn S.Cr []),(5,.own 0 out.length),(8,.sl ((l).map Rw.cells)),(9,iv (((l).map Rw.cells).length:Nat)),(10,iv (i:Nat))] [.row Ty.Row ((out).map Rw.cells) false]
theorem zfO (l:List Rw) (hl:zac l) (hf:∀ x∈l,zaa E0 S.Cr [.agg x.cells] [] (.agg x.cells) []) (i:Nat) (out:List Rw) (hi:i<=(l).length) (hI:out=l.take i):∃ (out':List Rw),(out'=l.take (l).length)/\(decide ((((l).length:Nat):Int) < ((((l).map Rw.cells).length:Nat):Int))=false)/\∀ R,Good E0 B.Bt [] (L_dlR l (l).length out') R->Good E0 B.Bt [] (L_dlR l i out) R:=by
 have hk:=hi;revert i out;refine zlp ((l).length) (fun i hlt ih out hi hI _=>?_)
 obtain ⟨x,hx,h0,hw⟩:=zlq (l:=l) (((l).map Rw.cells).length) hlt
 have hfx:=hf x (List.mem_of_getElem? hx)
 have ho:out.length<=1000000000:=by rw [hI,List.length_take];simp only [zac] at hl;omega
 exact Zih (ih (out++[x]) Zo (by rw [List.take_add_one,hx,hI];rfl) Zo) fun R gY=>zab (wkl [sb h0,se (zaf Rw.cells hx rfl),sc hfx,sqA (List.map Rw.cells out) [[iv x.id,vsl x.vals]] out.length 2 32,si hw] [1,5,8,9,10] 1 kr (zao 5 0 (List.map Rw.cells out++[[iv x.id,vsl x.vals]]) gY (he:=Zcv5) (hm:=Zcv5)))
theorem zlh (l:List Rw) (hl:zac l) (hf:∀ x∈l,zaa E0 S.Cr [.agg x.cells] [] (.agg x.cells) []):∃ (r:List Rw),r=l/\zaa E0 S.Bt [.sl ((l).map Rw.cells),.fn S.Cr []] [] (.sl ((r).map Rw.cells)) []:=by
 obtain ⟨out1,q1,q1_1,g1⟩:=zfO l Za Za 0 ([]) Za Za
 exact ⟨out1,(by first|assumption|(rw [List.take_length] at *;assumption)),wkcN At.Bt [] [1,5,8,9,10] 0 [(.ot 5 Ty.Row,1)] kr (g1 _ (zab (wkr [sqx (out1.length=(List.map Rw.cells out1).length),sb q1_1] kr)))⟩
theorem zll (l:List Rw) (hl:zac l) (hf:∀ x∈l,zaa E0 S.Cr [.agg x.cells] [] (.agg x.cells) []):zaa E0 S.Bt [.sl ((l).map Rw.cells),.fn S.Cr []] [] (.sl ((l).map Rw.cells)) []:=by
 obtain ⟨r,rfl,h⟩:=zlh l hl hf
 exact h
theorem zqS (x:Sch) (hsv:zac x.cols):∃ (r:Sch),r=x/\zaa E0 S.Ds [x.av] [] r.av []:=by
 exact ⟨x,Zr,wk At.Ds [sqx (True/\x.cols.length=(List.map Col.cells x.cols).length/\True),sc (zaX x.cols zpn)] kr⟩
theorem zq9 (x:Sch) (h:zac x.cols):zaa E0 S.Ds [x.av] [] x.av []:=by
 obtain ⟨r,rfl,h⟩:=zqS x h
 exact h
theorem zr9 (t:Tb) (hc:zac t.sch.cols) (hr:zac t.rows) (hf:∀ x∈t.rows,zaa E0 S.Cr [.agg x.cells] [] (.agg x.cells) []):∃ (r:Tb),r=t/\zaa E0 S.B0 [.agg t.cells] [] (.agg r.cells) []:=by
 exact ⟨t,Zr,wk At.B0 [sd [(2,[sc (zq9 t.sch zpn)]),(7,[sc (zll t.rows zpn zpn)])]] kr⟩
theorem zsW (t:Tb) (hc:zac t.sch.cols) (hr:zac t.rows) (hv:∀ r∈t.rows,zac r.vals):zaa E0 S.B0 [.agg t.cells] [] (.agg t.cells) []:=by
 obtain ⟨r,rfl,h⟩:=zr9 t hc hr (fun x hx=>zwO x (hv x hx))
 exact h
abbrev wv (v:Int):AV:=.agg [iv (v / 18446744073709551616),uv (v % 18446744073709551616)]
abbrev W128 (v:Int):Prop:=-170141183460469231731687303715884105728<=v/\v < 170141183460469231731687303715884105728
theorem zlS (a:Int):a.fdiv ((2:Int) ^ min (Int.toNat (63:Int)) IntKind.i64.bits)=a / 9223372036854775808:=by
 have e:(2:Int) ^ min (Int.toNat (63:Int)) IntKind.i64.bits=9223372036854775808:=by decide
 rw [e,Int.fdiv_eq_ediv_of_nonneg _ Zd]
def sat (v:Int):Int × Bool:=if -9223372036854775808<=v/\v<=9223372036854775807 then (v,true) else (0,false)
theorem zy1 {v n:Int} {ok:Bool} (h:if -9223372036854775808<=v/\v<=9223372036854775807 then n=v/\ok=true else n=0/\ok=false):(n,ok)=sat v:=by
 unfold sat;split at h <;> rename_i hc <;> simp only [hc,h.1,h.2,if_true,if_false] <;> simp [h.1,h.2]
theorem zxW (a:Int) (ha:I64 a):∃ (h l:Int),(h=a / 18446744073709551616/\l=a % 18446744073709551616)/\zaa E0 S.DN [iv a] [] (.agg [iv h,uv l]) []:=by
 exact ⟨a.fdiv (2 ^ min (Int.toNat 63) IntKind.i64.bits),IntKind.u64.wrap a,(by exact ⟨by rw [zlS];simp only [I64] at ha;omega,by rw [zfC]⟩),wk At.DN [sx (.i (a.fdiv ((2:Int) ^ min (Int.toNat (63:Int)) IntKind.i64.bits))) (show (0:Int)<=(63:Int)/\(a.fdiv ((2:Int) ^ min (Int.toNat (63:Int)) IntKind.i64.bits):Int)=a.fdiv ((2:Int) ^ min (Int.toNat (63:Int)) IntKind.i64.bits) from ⟨(by simp_all),rfl⟩),si (e:=IntKind.u64.wrap a) rfl] kr⟩
theorem zgL (a:Int) (ha:I64 a):zaa E0 S.DN [iv a] [] (wv a) []:=by
 obtain ⟨_,_,⟨rfl,rfl⟩,h⟩:=zxW a ha
 exact h
theorem ztX (v w:Int) (hr:W128 (v+w)) (hv:W128 v) (hw:W128 w) (hv0:0<=v % 18446744073709551616) (hw0:0<=w % 18446744073709551616):∃ (h l:Int),(h=(v+w) / 18446744073709551616/\l=(v+w) % 18446744073709551616)/\zaa E0 S.C9 [wv v,wv w] [] (.agg [iv h,uv l]) []:=by
 exact ⟨IntKind.i64.wrap (IntKind.i64.wrap (v / 18446744073709551616+w / 18446744073709551616)+IntKind.i64.wrap (zcc (v % 18446744073709551616) (w % 18446744073709551616) 0).snd),(zcc (v % 18446744073709551616) (w % 18446744073709551616) 0).fst,(by exact ⟨by simp only [IntKind.wrap_i64,zcc,W128] at *;omega,by simp only [zcc];omega⟩),wk At.C9 [sc (zei (v % 18446744073709551616) (w % 18446744073709551616) 0 Zb Zb Zb),si (e:=IntKind.i64.wrap (v / 18446744073709551616+w / 18446744073709551616)) rfl,si (e:=IntKind.i64.wrap (zcc (v % 18446744073709551616) (w % 18446744073709551616) 0).snd) rfl,si (e:=IntKind.i64.wrap (IntKind.i64.wrap (v / 18446744073709551616+w / 18446744073709551616)+IntKind.i64.wrap (zcc (v % 18446744073709551616) (w % 18446744073709551616) 0).snd)) rfl] kr⟩
theorem zgp (v w:Int) (hr:W128 (v+w)) (hv:W128 v) (hw:W128 w):zaa E0 S.C9 [wv v,wv w] [] (wv (v+w)) []:=by
 obtain ⟨_,_,⟨rfl,rfl⟩,h⟩:=ztX v w hr hv hw Zo Zo
 exact h
theorem zq1 (v:Int) (hv:W128 v):∃ (n:Int) (ok:Bool),(n,ok)=sat v/\zaa E0 S.CS [wv v] [] (.tup [iv n,bv ok]) []:=by
 let p_1:List St:=[si (e:=IntKind.i64.wrap (v % 18446744073709551616)) rfl,sx (.i ((IntKind.i64.wrap (v % (18446744073709551616:Int))).fdiv ((2:Int) ^ min (Int.toNat (63:Int)) IntKind.i64.bits))) (show (0:Int)<=(63:Int)/\((IntKind.i64.wrap (v % (18446744073709551616:Int))).fdiv ((2:Int) ^ min (Int.toNat (63:Int)) IntKind.i64.bits):Int)=(IntKind.i64.wrap (v % (18446744073709551616:Int))).fdiv ((2:Int) ^ min (Int.toNat (63:Int)) IntKind.i64.bits) from ⟨(by simp_all),rfl⟩)]
 cases h1:(IntKind.i64.wrap (v % 18446744073709551616)).fdiv (2 ^ min (Int.toNat 63) IntKind.i64.bits) != v / 18446744073709551616
 ·exact ⟨IntKind.i64.wrap (v % 18446744073709551616),true,(by (refine zy1 ?_;simp only [zlS,IntKind.wrap_i64,W128,bne_iff_ne,ne_eq,bne_eq_false_iff_eq] at *;split <;> simp <;> omega)),wk At.CS (p_1++[sb h1]) kr⟩
 ·exact ⟨0,false,(by (refine zy1 ?_;simp only [zlS,IntKind.wrap_i64,W128,bne_iff_ne,ne_eq,bne_eq_false_iff_eq] at *;split <;> simp <;> omega)),wk At.CS (p_1++[sb h1]) kr⟩
theorem zcp (v:Int) (hv:W128 v):zaa E0 S.CS [wv v] [] (.tup [iv (sat v).1,bv (sat v).2]) []:=by
 obtain ⟨n,ok,e,h⟩:=zq1 v hv
 rw [← e];exact h
theorem zeb {p:Prop} (h:p:=by first|assumption|(simp only [I64,W127,W128] at *;omega)):p:=h
theorem zpa {p:Prop} (h:p:=by first|assumption|exact u_div ha ‹_›|exact (u_divn ha ‹_›).w):p:=h
theorem zpb {p:Prop} (h:p:=by first|assumption|exact u_mod ha ‹_›|exact (u_modn ha ‹_›).w):p:=h
theorem zxc {p:Prop} (h:p:=by first|exact div_q0 ‹_›|exact div_q1 ha hb ‹_› ‹_›|exact div_q2 ha hb ‹_› ‹_›):p:=h
theorem zkP {p:Prop} (h:p:=by first|assumption|exact hp.w|exact hn.w):p:=h
theorem zxd {p:Prop} (h:p:=by first|exact mod_q0 ‹_›|exact mod_q1 ‹_› ‹_›|exact mod_q2 ‹_› ‹_›):p:=h
theorem zAB {a b:Int} (ha:I64 a) (hb:I64 b):aAdd a b=sat (a+b):=by
 simp only [aAdd,sat,Bool.cond_eq_ite,decide_eq_true_eq,IntKind.wrap_i64,I64] at *
 repeat' split
 all_goals first|rfl|omega|(simp only [Prod.mk.injEq,and_true];omega)
theorem mulInR {a b:Int} (ha:I64 a) (hb:I64 b) (h0:a≠0) (h1:b≠0) (h2:¬(a=-9223372036854775808/\b=-1)) (h3:¬(b=-9223372036854775808/\a=-1)):(IntKind.i64.wrap ((IntKind.i64.wrap (a * b)).tdiv b)=a↔I64 (a * b)):=by
 constructor
 ·intro h
  generalize hp:IntKind.i64.wrap (a * b)=p at h
  have hpr:I64 p:=by rw [← hp,IntKind.wrap_i64];simp only [I64];omega
  have hk:∃ k,a * b=p+k * 18446744073709551616:=⟨(a * b - p) / 18446744073709551616,by rw [← hp,IntKind.wrap_i64];omega⟩
  obtain ⟨k,hk⟩:=hk
  have hd:=Int.tmod_add_mul_tdiv p b
  have hm:=Int.natAbs_tmod p b
  have hm2:=Nat.mod_lt p.natAbs (show 0 < b.natAbs by omega)
  have hq:p.tdiv b=a:=by
   have hn:(p.tdiv b).natAbs=p.natAbs / b.natAbs:=Int.natAbs_tdiv p b
   have hle:=Nat.div_le_self p.natAbs b.natAbs
   rw [IntKind.wrap_i64] at h
   simp only [I64] at *
   by_cases hc:p.tdiv b=9223372036854775808
   ·exfalso
    have h4:a=-9223372036854775808:=by rw [hc] at h;omega
    have h5:p=-9223372036854775808:=by
     have:p.natAbs<=9223372036854775808:=by omega
     omega
    have h6:b.natAbs=1:=by
     have h7:p.natAbs / b.natAbs=9223372036854775808:=by rw [← hn,hc];rfl
     have h8:b.natAbs < 2:=by
      rcases Nat.lt_or_ge b.natAbs 2 with h|h
      ·exact h
      ·have:=Nat.div_le_div_left (a:=p.natAbs) h Zo;omega
     omega
    have h9:b=1\/b=-1:=by omega
    rcases h9 with h9|h9
    ·rw [h9,h5] at hc;revert hc;decide
    ·exact h2 ⟨h4,h9⟩
   ·omega
  rw [hq] at hd
  have:b * a=a * b:=Int.mul_comm b a
  simp only [I64] at *
  omega
 ·intro h
  have e:IntKind.i64.wrap (a * b)=a * b:=by rw [IntKind.wrap_i64];simp only [I64] at h;omega
  rw [e,Int.mul_tdiv_cancel _ h1,IntKind.wrap_i64]
  simp only [I64] at ha;omega
theorem zAF {a b:Int} (ha:I64 a) (hb:I64 b):aSub a b=sat (a - b):=by
 simp only [aSub,sat,Bool.cond_eq_ite,decide_eq_true_eq,IntKind.wrap_i64,I64] at *
 repeat' split
 all_goals first|rfl|omega|(simp only [Prod.mk.injEq,and_true];omega)
theorem zAE {a b:Int} (ha:I64 a) (hb:I64 b):aMul a b=sat (a * b):=by
 by_cases h0:a=0
 ·subst h0;simp [aMul,sat]
 by_cases h1:b=0
 ·subst h1;simp [aMul,sat,h0]
 by_cases h2:a=-9223372036854775808/\b=-1
 ·obtain ⟨rfl,rfl⟩:=h2;decide
 by_cases h3:b=-9223372036854775808/\a=-1
 ·obtain ⟨rfl,rfl⟩:=h3;decide
 have hm:=mulInR ha hb h0 h1 h2 h3
 have hw:I64 (a * b)->IntKind.i64.wrap (a * b)=a * b:=fun h=>by rw [IntKind.wrap_i64];simp only [I64] at h;omega
 have key:(bif IntKind.i64.wrap ((IntKind.i64.wrap (a * b)).tdiv b) != a then ((0:Int),false) else (IntKind.i64.wrap (a * b),true))=sat (a * b):=by
  by_cases h:I64 (a * b)
  ·rw [show sat (a * b)=(a * b,true) from if_pos h]
   have e1:=hm.2 h
   have e2:=hw h
   have e3:(IntKind.i64.wrap ((IntKind.i64.wrap (a * b)).tdiv b) != a)=false:=by rw [e1];simp
   rw [e3,e2];rfl
  ·rw [show sat (a * b)=(0,false) from if_neg h]
   have e3:(IntKind.i64.wrap ((IntKind.i64.wrap (a * b)).tdiv b) != a)=true:=by simpa using fun e=>h (hm.1 e)
   rw [e3];rfl
 rw [← key]
 unfold aMul
 simp only [Bool.cond_eq_ite,beq_iff_eq,h0,h1,if_false]
 split
 ·split
  ·exact absurd ⟨by assumption,by assumption⟩ h2
  ·split
   ·split
    ·exact absurd ⟨by assumption,by assumption⟩ h3
    ·rfl
   ·rfl
 ·split
  ·split
   ·exact absurd ⟨by assumption,by assumption⟩ h3
   ·rfl
  ·rfl
theorem zAC {a b:Int} (ha:I64 a) (hb:I64 b) (h0:b≠0):aDiv a b=sat (a.tdiv b):=by
 by_cases h2:a=-9223372036854775808/\b=-1
 ·obtain ⟨rfl,rfl⟩:=h2;decide
 have hn:(a.tdiv b).natAbs=a.natAbs / b.natAbs:=Int.natAbs_tdiv a b
 have hle:=Nat.div_le_self a.natAbs b.natAbs
 have hr:I64 (a.tdiv b):=by
  simp only [I64] at *
  by_cases hc:a.tdiv b=9223372036854775808
  ·exfalso
   have h5:a=-9223372036854775808:=by omega
   have h6:b.natAbs=1:=by
    have h7:a.natAbs / b.natAbs=9223372036854775808:=by rw [← hn,hc];rfl
    have h8:b.natAbs < 2:=by
     rcases Nat.lt_or_ge b.natAbs 2 with h|h
     ·exact h
     ·have:=Nat.div_le_div_left (a:=a.natAbs) h Zo;omega
    omega
   have h9:b=1\/b=-1:=by omega
   rcases h9 with h9|h9
   ·rw [h9,h5] at hc;revert hc;decide
   ·exact h2 ⟨h5,h9⟩
  ·omega
 have hw:IntKind.i64.wrap (a.tdiv b)=a.tdiv b:=by rw [IntKind.wrap_i64];simp only [I64] at hr;omega
 rw [show sat (a.tdiv b)=(a.tdiv b,true) from if_pos hr]
 unfold aDiv
 simp only [Bool.cond_eq_ite,beq_iff_eq,h0,if_false,hw]
 split
 ·split
  ·exact absurd ⟨by assumption,by assumption⟩ h2
  ·rfl
 ·rfl
theorem zAD {a b:Int} (ha:I64 a) (hb:I64 b) (h0:b≠0):aMod a b=sat (a.tmod b):=by
 have hm:=Int.natAbs_tmod a b
 have hl:=Nat.mod_le a.natAbs b.natAbs
 have hr:I64 (a.tmod b):=by
  have h2:a < 0->a.tmod b<=0:=fun h=>by
   have h3:=Int.tmod_nonneg b (show 0<=-a by omega)
   rw [Int.neg_tmod] at h3;omega
  simp only [I64] at *;omega
 rw [show sat (a.tmod b)=(a.tmod b,true) from if_pos hr]
 unfold aMod
 simp only [Bool.cond_eq_ite,beq_iff_eq,h0,if_false]
 split
 ·rename_i h
  subst h
  rw [Int.tmod_neg,Int.tmod_one]
 ·rfl
theorem fdiv32 (a:Int):a.fdiv ((2:Int) ^ min (Int.toNat (32:Int)) IntKind.u64.bits)=a / 4294967296:=by
 have e:(2:Int) ^ min (Int.toNat (32:Int)) IntKind.u64.bits=4294967296:=by decide
 rw [e,Int.fdiv_eq_ediv_of_nonneg _ Zd]
theorem and32 (z:Int):IntKind.u64.wrap (((BitVec.ofInt IntKind.u64.bits z &&& BitVec.ofInt IntKind.u64.bits 4294967295).toNat:Nat):Int)=z % 4294967296:=by
 have h:=and_low32 (z % 18446744073709551616) Zo Zo
 have e:BitVec.ofInt IntKind.u64.bits (z % 18446744073709551616)=BitVec.ofInt IntKind.u64.bits z:=by
  apply BitVec.eq_of_toNat_eq
  simp only [BitVec.toNat_ofInt,IntKind.bits]
  omega
 have h2:IntKind.u64.wrap (((BitVec.ofInt IntKind.u64.bits (z % 18446744073709551616) &&& BitVec.ofInt IntKind.u64.bits 4294967295).toNat:Nat):Int)=z % 18446744073709551616 % 4294967296:=h
 rw [e] at h2
 rw [h2];omega
theorem zAO (x y:Int) (hx:U64 x) (hy:U64 y):∃ (h l:Int),(h=x * y / 18446744073709551616/\l=x * y % 18446744073709551616)/\zaa E0 S.C2 [uv x,uv y] [] (.tup [uv h,uv l]) []:=by
 exact ⟨IntKind.u64.wrap (IntKind.u64.wrap (IntKind.u64.wrap (x.fdiv (2 ^ min (Int.toNat 32) IntKind.u64.bits) * y.fdiv (2 ^ min (Int.toNat 32) IntKind.u64.bits))+(IntKind.u64.wrap (IntKind.u64.wrap (x.fdiv (2 ^ min (Int.toNat 32) IntKind.u64.bits) * IntKind.u64.wrap (↑(BitVec.ofInt IntKind.u64.bits y &&& BitVec.ofInt IntKind.u64.bits 4294967295).toNat:Int))+(IntKind.u64.wrap (IntKind.u64.wrap (↑(BitVec.ofInt IntKind.u64.bits x &&& BitVec.ofInt IntKind.u64.bits 4294967295).toNat:Int) * IntKind.u64.wrap (↑(BitVec.ofInt IntKind.u64.bits y &&& BitVec.ofInt IntKind.u64.bits 4294967295).toNat:Int))).fdiv (2 ^ min (Int.toNat 32) IntKind.u64.bits))).fdiv (2 ^ min (Int.toNat 32) IntKind.u64.bits))+(IntKind.u64.wrap (IntKind.u64.wrap (↑(BitVec.ofInt IntKind.u64.bits (IntKind.u64.wrap (IntKind.u64.wrap (x.fdiv (2 ^ min (Int.toNat 32) IntKind.u64.bits) * IntKind.u64.wrap (↑(BitVec.ofInt IntKind.u64.bits y &&& BitVec.ofInt IntKind.u64.bits 4294967295).toNat:Int))+(IntKind.u64.wrap (IntKind.u64.wrap (↑(BitVec.ofInt IntKind.u64.bits x &&& BitVec.ofInt IntKind.u64.bits 4294967295).toNat:Int) * IntKind.u64.wrap (↑(BitVec.ofInt IntKind.u64.bits y &&& BitVec.ofInt IntKind.u64.bits 4294967295).toNat:Int))).fdiv (2 ^ min (Int.toNat 32) IntKind.u64.bits))) &&& BitVec.ofInt IntKind.u64.bits 4294967295).toNat:Int)+IntKind.u64.wrap (IntKind.u64.wrap (↑(BitVec.ofInt IntKind.u64.bits x &&& BitVec.ofInt IntKind.u64.bits 4294967295).toNat:Int) * y.fdiv (2 ^ min (Int.toNat 32) IntKind.u64.bits)))).fdiv (2 ^ min (Int.toNat 32) IntKind.u64.bits)),IntKind.u64.wrap (x * y),(by exact ⟨by simp only [and32,fdiv32];simp only [zfC];exact mul64_arith x y hx.1 hx.2 hy.1 hy.2,by rw [zfC]⟩),wk At.C2 [si (e:=IntKind.u64.wrap (↑(BitVec.ofInt IntKind.u64.bits x &&& BitVec.ofInt IntKind.u64.bits 4294967295).toNat:Int)) rfl,sx (.i (x.fdiv ((2:Int) ^ min (Int.toNat (32:Int)) IntKind.u64.bits))) (show (0:Int)<=(32:Int)/\(x.fdiv ((2:Int) ^ min (Int.toNat (32:Int)) IntKind.u64.bits):Int)=x.fdiv ((2:Int) ^ min (Int.toNat (32:Int)) IntKind.u64.bits) from ⟨(by simp_all),rfl⟩),si (e:=IntKind.u64.wrap (↑(BitVec.ofInt IntKind.u64.bits y &&& BitVec.ofInt IntKind.u64.bits 4294967295).toNat:Int)) rfl,sx (.i (y.fdiv ((2:Int) ^ min (Int.toNat (32:Int)) IntKind.u64.bits))) (show (0:Int)<=(32:Int)/\(y.fdiv ((2:Int) ^ min (Int.toNat (32:Int)) IntKind.u64.bits):Int)=y.fdiv ((2:Int) ^ min (Int.toNat (32:Int)) IntKind.u64.bits) from ⟨(by simp_all),rfl⟩),si (e:=IntKind.u64.wrap (IntKind.u64.wrap (↑(BitVec.ofInt IntKind.u64.bits x &&& BitVec.ofInt IntKind.u64.bits 4294967295).toNat:Int) * IntKind.u64.wrap (↑(BitVec.ofInt IntKind.u64.bits y &&& BitVec.ofInt IntKind.u64.bits 4294967295).toNat:Int))) rfl,si (e:=IntKind.u64.wrap (x.fdiv (2 ^ min (Int.toNat 32) IntKind.u64.bits) * IntKind.u64.wrap (↑(BitVec.ofInt IntKind.u64.bits y &&& BitVec.ofInt IntKind.u64.bits 4294967295).toNat:Int))) rfl,sx (.i ((IntKind.u64.wrap (IntKind.u64.wrap (↑(BitVec.ofInt IntKind.u64.bits x &&& BitVec.ofInt IntKind.u64.bits (4294967295:Int)).toNat:Int) * IntKind.u64.wrap (↑(BitVec.ofInt IntKind.u64.bits y &&& BitVec.ofInt IntKind.u64.bits (4294967295:Int)).toNat:Int))).fdiv ((2:Int) ^ min (Int.toNat (32:Int)) IntKind.u64.bits))) (show (0:Int)<=(32:Int)/\((IntKind.u64.wrap (IntKind.u64.wrap (↑(BitVec.ofInt IntKind.u64.bits x &&& BitVec.ofInt IntKind.u64.bits (4294967295:Int)).toNat:Int) * IntKind.u64.wrap (↑(BitVec.ofInt IntKind.u64.bits y &&& BitVec.ofInt IntKind.u64.bits (4294967295:Int)).toNat:Int))).fdiv ((2:Int) ^ min (Int.toNat (32:Int)) IntKind.u64.bits):Int)=(IntKind.u64.wrap (IntKind.u64.wrap (↑(BitVec.ofInt IntKind.u64.bits x &&& BitVec.ofInt IntKind.u64.bits (4294967295:Int)).toNat:Int) * IntKind.u64.wrap (↑(BitVec.ofInt IntKind.u64.bits y &&& BitVec.ofInt IntKind.u64.bits (4294967295:Int)).toNat:Int))).fdiv ((2:Int) ^ min (Int.toNat (32:Int)) IntKind.u64.bits) from ⟨(by simp_all),rfl⟩),si (e:=IntKind.u64.wrap (IntKind.u64.wrap (x.fdiv (2 ^ min (Int.toNat 32) IntKind.u64.bits) * IntKind.u64.wrap (↑(BitVec.ofInt IntKind.u64.bits y &&& BitVec.ofInt IntKind.u64.bits 4294967295).toNat:Int))+(IntKind.u64.wrap (IntKind.u64.wrap (↑(BitVec.ofInt IntKind.u64.bits x &&& BitVec.ofInt IntKind.u64.bits 4294967295).toNat:Int) * IntKind.u64.wrap (↑(BitVec.ofInt IntKind.u64.bits y &&& BitVec.ofInt IntKind.u64.bits 4294967295).toNat:Int))).fdiv (2 ^ min (Int.toNat 32) IntKind.u64.bits))) rfl,si (e:=IntKind.u64.wrap (↑(BitVec.ofInt IntKind.u64.bits (IntKind.u64.wrap (IntKind.u64.wrap (x.fdiv (2 ^ min (Int.toNat 32) IntKind.u64.bits) * IntKind.u64.wrap (↑(BitVec.ofInt IntKind.u64.bits y &&& BitVec.ofInt IntKind.u64.bits 4294967295).toNat:Int))+(IntKind.u64.wrap (IntKind.u64.wrap (↑(BitVec.ofInt IntKind.u64.bits x &&& BitVec.ofInt IntKind.u64.bits 4294967295).toNat:Int) * IntKind.u64.wrap (↑(BitVec.ofInt IntKind.u64.bits y &&& BitVec.ofInt IntKind.u64.bits 4294967295).toNat:Int))).fdiv (2 ^ min (Int.toNat 32) IntKind.u64.bits))) &&& BitVec.ofInt IntKind.u64.bits 4294967295).toNat:Int)) rfl,sx (.i ((IntKind.u64.wrap (IntKind.u64.wrap (x.fdiv ((2:Int) ^ min (Int.toNat (32:Int)) IntKind.u64.bits) * IntKind.u64.wrap (↑(BitVec.ofInt IntKind.u64.bits y &&& BitVec.ofInt IntKind.u64.bits (4294967295:Int)).toNat:Int))+(IntKind.u64.wrap (IntKind.u64.wrap (↑(BitVec.ofInt IntKind.u64.bits x &&& BitVec.ofInt IntKind.u64.bits (4294967295:Int)).toNat:Int) * IntKind.u64.wrap (↑(BitVec.ofInt IntKind.u64.bits y &&& BitVec.ofInt IntKind.u64.bits (4294967295:Int)).toNat:Int))).fdiv ((2:Int) ^ min (Int.toNat (32:Int)) IntKind.u64.bits))).fdiv ((2:Int) ^ min (Int.toNat (32:Int)) IntKind.u64.bits))) (show (0:Int)<=(32:Int)/\((IntKind.u64.wrap (IntKind.u64.wrap (x.fdiv ((2:Int) ^ min (Int.toNat (32:Int)) IntKind.u64.bits) * IntKind.u64.wrap (↑(BitVec.ofInt IntKind.u64.bits y &&& BitVec.ofInt IntKind.u64.bits (4294967295:Int)).toNat:Int))+(IntKind.u64.wrap (IntKind.u64.wrap (↑(BitVec.ofInt IntKind.u64.bits x &&& BitVec.ofInt IntKind.u64.bits (4294967295:Int)).toNat:Int) * IntKind.u64.wrap (↑(BitVec.ofInt IntKind.u64.bits y &&& BitVec.ofInt IntKind.u64.bits (4294967295:Int)).toNat:Int))).fdiv ((2:Int) ^ min (Int.toNat (32:Int)) IntKind.u64.bits))).fdiv ((2:Int) ^ min (Int.toNat (32:Int)) IntKind.u64.bits):Int)=(IntKind.u64.wrap (IntKind.u64.wrap (x.fdiv ((2:Int) ^ min (Int.toNat (32:Int)) IntKind.u64.bits) * IntKind.u64.wrap (↑(BitVec.ofInt IntKind.u64.bits y &&& BitVec.ofInt IntKind.u64.bits (4294967295:Int)).toNat:Int))+(IntKind.u64.wrap (IntKind.u64.wrap (↑(BitVec.ofInt IntKind.u64.bits x &&& BitVec.ofInt IntKind.u64.bits (4294967295:Int)).toNat:Int) * IntKind.u64.wrap (↑(BitVec.ofInt IntKind.u64.bits y &&& BitVec.ofInt IntKind.u64.bits (4294967295:Int)).toNat:Int))).fdiv ((2:Int) ^ min (Int.toNat (32:Int)) IntKind.u64.bits))).fdiv ((2:Int) ^ min (Int.toNat (32:Int)) IntKind.u64.bits) from ⟨(by simp_all),rfl⟩),si (e:=IntKind.u64.wrap (IntKind.u64.wrap (↑(BitVec.ofInt IntKind.u64.bits x &&& BitVec.ofInt IntKind.u64.bits 4294967295).toNat:Int) * y.fdiv (2 ^ min (Int.toNat 32) IntKind.u64.bits))) rfl,si (e:=IntKind.u64.wrap (IntKind.u64.wrap (↑(BitVec.ofInt IntKind.u64.bits (IntKind.u64.wrap (IntKind.u64.wrap (x.fdiv (2 ^ min (Int.toNat 32) IntKind.u64.bits) * IntKind.u64.wrap (↑(BitVec.ofInt IntKind.u64.bits y &&& BitVec.ofInt IntKind.u64.bits 4294967295).toNat:Int))+(IntKind.u64.wrap (IntKind.u64.wrap (↑(BitVec.ofInt IntKind.u64.bits x &&& BitVec.ofInt IntKind.u64.bits 4294967295).toNat:Int) * IntKind.u64.wrap (↑(BitVec.ofInt IntKind.u64.bits y &&& BitVec.ofInt IntKind.u64.bits 4294967295).toNat:Int))).fdiv (2 ^ min (Int.toNat 32) IntKind.u64.bits))) &&& BitVec.ofInt IntKind.u64.bits 4294967295).toNat:Int)+IntKind.u64.wrap (IntKind.u64.wrap (↑(BitVec.ofInt IntKind.u64.bits x &&& BitVec.ofInt IntKind.u64.bits 4294967295).toNat:Int) * y.fdiv (2 ^ min (Int.toNat 32) IntKind.u64.bits)))) rfl,si (e:=IntKind.u64.wrap (x.fdiv (2 ^ min (Int.toNat 32) IntKind.u64.bits) * y.fdiv (2 ^ min (Int.toNat 32) IntKind.u64.bits))) rfl,si (e:=IntKind.u64.wrap (IntKind.u64.wrap (x.fdiv (2 ^ min (Int.toNat 32) IntKind.u64.bits) * y.fdiv (2 ^ min (Int.toNat 32) IntKind.u64.bits))+(IntKind.u64.wrap (IntKind.u64.wrap (x.fdiv (2 ^ min (Int.toNat 32) IntKind.u64.bits) * IntKind.u64.wrap (↑(BitVec.ofInt IntKind.u64.bits y &&& BitVec.ofInt IntKind.u64.bits 4294967295).toNat:Int))+(IntKind.u64.wrap (IntKind.u64.wrap (↑(BitVec.ofInt IntKind.u64.bits x &&& BitVec.ofInt IntKind.u64.bits 4294967295).toNat:Int) * IntKind.u64.wrap (↑(BitVec.ofInt IntKind.u64.bits y &&& BitVec.ofInt IntKind.u64.bits 4294967295).toNat:Int))).fdiv (2 ^ min (Int.toNat 32) IntKind.u64.bits))).fdiv (2 ^ min (Int.toNat 32) IntKind.u64.bits))) rfl,sx (.i ((IntKind.u64.wrap (IntKind.u64.wrap (↑(BitVec.ofInt IntKind.u64.bits (IntKind.u64.wrap (IntKind.u64.wrap (x.fdiv ((2:Int) ^ min (Int.toNat (32:Int)) IntKind.u64.bits) * IntKind.u64.wrap (↑(BitVec.ofInt IntKind.u64.bits y &&& BitVec.ofInt IntKind.u64.bits (4294967295:Int)).toNat:Int))+(IntKind.u64.wrap (IntKind.u64.wrap (↑(BitVec.ofInt IntKind.u64.bits x &&& BitVec.ofInt IntKind.u64.bits (4294967295:Int)).toNat:Int) * IntKind.u64.wrap (↑(BitVec.ofInt IntKind.u64.bits y &&& BitVec.ofInt IntKind.u64.bits (4294967295:Int)).toNat:Int))).fdiv ((2:Int) ^ min (Int.toNat (32:Int)) IntKind.u64.bits))) &&& BitVec.ofInt IntKind.u64.bits (4294967295:Int)).toNat:Int)+IntKind.u64.wrap (IntKind.u64.wrap (↑(BitVec.ofInt IntKind.u64.bits x &&& BitVec.ofInt IntKind.u64.bits (4294967295:Int)).toNat:Int) * y.fdiv ((2:Int) ^ min (Int.toNat (32:Int)) IntKind.u64.bits)))).fdiv ((2:Int) ^ min (Int.toNat (32:Int)) IntKind.u64.bits))) (show (0:Int)<=(32:Int)/\((IntKind.u64.wrap (IntKind.u64.wrap (↑(BitVec.ofInt IntKind.u64.bits (IntKind.u64.wrap (IntKind.u64.wrap (x.fdiv ((2:Int) ^ min (Int.toNat (32:Int)) IntKind.u64.bits) * IntKind.u64.wrap (↑(BitVec.ofInt IntKind.u64.bits y &&& BitVec.ofInt IntKind.u64.bits (4294967295:Int)).toNat:Int))+(IntKind.u64.wrap (IntKind.u64.wrap (↑(BitVec.ofInt IntKind.u64.bits x &&& BitVec.ofInt IntKind.u64.bits (4294967295:Int)).toNat:Int) * IntKind.u64.wrap (↑(BitVec.ofInt IntKind.u64.bits y &&& BitVec.ofInt IntKind.u64.bits (4294967295:Int)).toNat:Int))).fdiv ((2:Int) ^ min (Int.toNat (32:Int)) IntKind.u64.bits))) &&& BitVec.ofInt IntKind.u64.bits (4294967295:Int)).toNat:Int)+IntKind.u64.wrap (IntKind.u64.wrap (↑(BitVec.ofInt IntKind.u64.bits x &&& BitVec.ofInt IntKind.u64.bits (4294967295:Int)).toNat:Int) * y.fdiv ((2:Int) ^ min (Int.toNat (32:Int)) IntKind.u64.bits)))).fdiv ((2:Int) ^ min (Int.toNat (32:Int)) IntKind.u64.bits):Int)=(IntKind.u64.wrap (IntKind.u64.wrap (↑(BitVec.ofInt IntKind.u64.bits (IntKind.u64.wrap (IntKind.u64.wrap (x.fdiv ((2:Int) ^ min (Int.toNat (32:Int)) IntKind.u64.bits) * IntKind.u64.wrap (↑(BitVec.ofInt IntKind.u64.bits y &&& BitVec.ofInt IntKind.u64.bits (4294967295:Int)).toNat:Int))+(IntKind.u64.wrap (IntKind.u64.wrap (↑(BitVec.ofInt IntKind.u64.bits x &&& BitVec.ofInt IntKind.u64.bits (4294967295:Int)).toNat:Int) * IntKind.u64.wrap (↑(BitVec.ofInt IntKind.u64.bits y &&& BitVec.ofInt IntKind.u64.bits (4294967295:Int)).toNat:Int))).fdiv ((2:Int) ^ min (Int.toNat (32:Int)) IntKind.u64.bits))) &&& BitVec.ofInt IntKind.u64.bits (4294967295:Int)).toNat:Int)+IntKind.u64.wrap (IntKind.u64.wrap (↑(BitVec.ofInt IntKind.u64.bits x &&& BitVec.ofInt IntKind.u64.bits (4294967295:Int)).toNat:Int) * y.fdiv ((2:Int) ^ min (Int.toNat (32:Int)) IntKind.u64.bits)))).fdiv ((2:Int) ^ min (Int.toNat (32:Int)) IntKind.u64.bits) from ⟨(by simp_all),rfl⟩),si (e:=IntKind.u64.wrap (IntKind.u64.wrap (IntKind.u64.wrap (x.fdiv (2 ^ min (Int.toNat 32) IntKind.u64.bits) * y.fdiv (2 ^ min (Int.toNat 32) IntKind.u64.bits))+(IntKind.u64.wrap (IntKind.u64.wrap (x.fdiv (2 ^ min (Int.toNat 32) IntKind.u64.bits) * IntKind.u64.wrap (↑(BitVec.ofInt IntKind.u64.bits y &&& BitVec.ofInt IntKind.u64.bits 4294967295).toNat:Int))+(IntKind.u64.wrap (IntKind.u64.wrap (↑(BitVec.ofInt IntKind.u64.bits x &&& BitVec.ofInt IntKind.u64.bits 4294967295).toNat:Int) * IntKind.u64.wrap (↑(BitVec.ofInt IntKind.u64.bits y &&& BitVec.ofInt IntKind.u64.bits 4294967295).toNat:Int))).fdiv (2 ^ min (Int.toNat 32) IntKind.u64.bits))).fdiv (2 ^ min (Int.toNat 32) IntKind.u64.bits))+(IntKind.u64.wrap (IntKind.u64.wrap (↑(BitVec.ofInt IntKind.u64.bits (IntKind.u64.wrap (IntKind.u64.wrap (x.fdiv (2 ^ min (Int.toNat 32) IntKind.u64.bits) * IntKind.u64.wrap (↑(BitVec.ofInt IntKind.u64.bits y &&& BitVec.ofInt IntKind.u64.bits 4294967295).toNat:Int))+(IntKind.u64.wrap (IntKind.u64.wrap (↑(BitVec.ofInt IntKind.u64.bits x &&& BitVec.ofInt IntKind.u64.bits 4294967295).toNat:Int) * IntKind.u64.wrap (↑(BitVec.ofInt IntKind.u64.bits y &&& BitVec.ofInt IntKind.u64.bits 4294967295).toNat:Int))).fdiv (2 ^ min (Int.toNat 32) IntKind.u64.bits))) &&& BitVec.ofInt IntKind.u64.bits 4294967295).toNat:Int)+IntKind.u64.wrap (IntKind.u64.wrap (↑(BitVec.ofInt IntKind.u64.bits x &&& BitVec.ofInt IntKind.u64.bits 4294967295).toNat:Int) * y.fdiv (2 ^ min (Int.toNat 32) IntKind.u64.bits)))).fdiv (2 ^ min (Int.toNat 32) IntKind.u64.bits))) rfl,si (e:=IntKind.u64.wrap (x * y)) rfl] kr⟩
theorem zno (x y:Int) (hx:U64 x) (hy:U64 y):zaa E0 S.C2 [uv x,uv y] [] (.tup [uv (x * y / 18446744073709551616),uv (x * y % 18446744073709551616)]) []:=by
 obtain ⟨_,_,⟨rfl,rfl⟩,h⟩:=zAO x y hx hy
 exact h
theorem ztY (a:Int) (ha:I64 a):∃ (n:Int),n=(a.natAbs:Int)/\zaa E0 S.Dp [iv a] [] (uv n) []:=by
 cases h1:decide (a < 0)
 ·exact ⟨IntKind.u64.wrap a,(by (simp only [zfC,I64,decide_eq_true_eq,decide_eq_false_iff_not] at *;omega)),wk At.Dp [sb h1,si (e:=IntKind.u64.wrap a) rfl] kr⟩
 ·exact ⟨IntKind.u64.wrap (-IntKind.u64.wrap a),(by (simp only [zfC,I64,decide_eq_true_eq,decide_eq_false_iff_not] at *;omega)),wk At.Dp [sb h1,si (e:=IntKind.u64.wrap a) rfl,si (e:=IntKind.u64.wrap (-IntKind.u64.wrap a)) rfl] kr⟩
theorem zdD (a:Int) (ha:I64 a):zaa E0 S.Dp [iv a] [] (uv (a.natAbs:Int)) []:=by
 obtain ⟨_,rfl,h⟩:=ztY a ha
 exact h
theorem xorI (a:Int) (h:I64 a):IntKind.i64.wrap (((BitVec.ofInt IntKind.i64.bits (if IntKind.i64.signed=true then -1 else IntKind.i64.max) ^^^ BitVec.ofInt IntKind.i64.bits a).toNat:Nat):Int)=-1 - a:=by
 have e:BitVec.ofInt IntKind.i64.bits (if IntKind.i64.signed=true then -1 else IntKind.i64.max)=BitVec.allOnes IntKind.i64.bits:=by decide
 have hb:IntKind.i64.bits=64:=rfl
 rw [e,BitVec.allOnes_xor,BitVec.toNat_not,BitVec.toNat_ofInt,hb,IntKind.wrap_i64]
 simp only [I64] at h
 omega
theorem xorU (a:Int) (h:U64 a):IntKind.u64.wrap (((BitVec.ofInt IntKind.u64.bits (if IntKind.u64.signed=true then -1 else IntKind.u64.max) ^^^ BitVec.ofInt IntKind.u64.bits a).toNat:Nat):Int)=18446744073709551615 - a:=by
 have e:BitVec.ofInt IntKind.u64.bits (if IntKind.u64.signed=true then -1 else IntKind.u64.max)=BitVec.allOnes IntKind.u64.bits:=by decide
 have hb:IntKind.u64.bits=64:=rfl
 rw [e,BitVec.allOnes_xor,BitVec.toNat_not,BitVec.toNat_ofInt,hb,zfC]
 simp only [U64] at h
 omega
abbrev W127 (v:Int):Prop:=-170141183460469231731687303715884105728 < v/\v < 170141183460469231731687303715884105728
theorem W127.w {v:Int} (h:W127 v):W128 v:=⟨by have:=h.1;omega,h.2⟩
theorem hiW {v:Int} (hv:W127 v):I64 (v / 18446744073709551616):=by
 obtain ⟨h1,h2⟩:=hv
 exact ⟨by omega,by omega⟩
theorem loW (v:Int):U64 (v % 18446744073709551616):=⟨by omega,by omega⟩
theorem znX (v:Int) (hv:W127 v):zaa E0 S.C9 [.agg [iv (IntKind.i64.wrap (((BitVec.ofInt IntKind.i64.bits (if IntKind.i64.signed=true then -1 else IntKind.i64.max) ^^^ BitVec.ofInt IntKind.i64.bits (v / 18446744073709551616)).toNat:Nat):Int)),uv (IntKind.u64.wrap (((BitVec.ofInt IntKind.u64.bits (if IntKind.u64.signed=true then -1 else IntKind.u64.max) ^^^ BitVec.ofInt IntKind.u64.bits (v % 18446744073709551616)).toNat:Nat):Int))],.agg [iv 0,uv 1]] [] (.agg [iv ((-v) / 18446744073709551616),uv ((-v) % 18446744073709551616)]) []:=by
 have g1:W128 (-1 - v):=by obtain ⟨h1,h2⟩:=hv;constructor <;> omega
 have g2:W128 (-1 - v+1):=by obtain ⟨h1,h2⟩:=hv;constructor <;> omega
 have h:=zgp (-1 - v) 1 g2 g1 Zd
 rw [xorI _ (hiW hv),xorU _ (loW v)]
 have e1:-1 - v / 18446744073709551616=(-1 - v) / 18446744073709551616:=by omega
 have e2:18446744073709551615 - v % 18446744073709551616=(-1 - v) % 18446744073709551616:=by omega
 rw [e1,e2]
 have e3:-1 - v+1=-v:=by omega
 rw [e3] at h
 exact h
theorem zsi (v:Int) (hv:W127 v):∃ (h l:Int),(h=(-v) / 18446744073709551616/\l=(-v) % 18446744073709551616)/\zaa E0 S.Dd [wv v] [] (.agg [iv h,uv l]) []:=by
 exact ⟨-v / 18446744073709551616,-v % 18446744073709551616,Zj,wk At.Dd [si (e:=IntKind.i64.wrap (↑(BitVec.ofInt IntKind.i64.bits (if IntKind.i64.signed=true then -1 else IntKind.i64.max) ^^^ BitVec.ofInt IntKind.i64.bits (v / 18446744073709551616)).toNat:Int)) rfl,si (e:=IntKind.u64.wrap (↑(BitVec.ofInt IntKind.u64.bits (if IntKind.u64.signed=true then -1 else IntKind.u64.max) ^^^ BitVec.ofInt IntKind.u64.bits (v % 18446744073709551616)).toNat:Int)) rfl,sc (znX v (by first|assumption|omega|(simp;done)|(simp;omega)))] kr⟩
theorem zhW (v:Int) (hv:W127 v):zaa E0 S.Dd [wv v] [] (wv (-v)) []:=by
 obtain ⟨_,_,⟨rfl,rfl⟩,h⟩:=zsi v hv
 exact h
theorem lo_w {q:Int} (h:U64 q):AV.agg [iv 0,uv q]=wv q:=by
 have e1:q / 18446744073709551616=0:=by simp only [U64] at h;omega
 have e2:q % 18446744073709551616=q:=by simp only [U64] at h;omega
 unfold wv;rw [e1,e2]
theorem zhX (q:Int) (h:U64 q):zaa E0 S.Dd [.agg [iv 0,uv q]] [] (wv (-q)) []:=by
 rw [lo_w h];exact zhW q (by simp only [U64,W127] at *;omega)
theorem zg6 (q:Int) (h:U64 q):zaa E0 S.CS [.agg [iv 0,uv q]] [] (.tup [iv (sat q).1,bv (sat q).2]) []:=by
 rw [lo_w h];exact zcp q (by simp only [U64,W128] at *;omega)
theorem zwi (a b:Int) (ha:I64 a) (hb:I64 b):∃ (n:Int) (ok:Bool),(n,ok)=sat (a+b)/\zaa E0 S.DK [iv a,iv b] [] (.tup [iv n,bv ok]) []:=by
 exact ⟨(sat (a+b)).fst,(sat (a+b)).snd,Zr,wk At.DK [sc (zgL a zeb),sc (zgL b zeb),sc (zgp a b zeb zeb zeb),sc (zcp (a+b) zeb)] kr⟩
theorem zoo (a b:Int) (ha:I64 a) (hb:I64 b):∃ (n:Int) (ok:Bool),(n,ok)=sat (a+-b)/\zaa E0 S.Da [iv a,iv b] [] (.tup [iv n,bv ok]) []:=by
 exact ⟨(sat (a+-b)).fst,(sat (a+-b)).snd,Zr,wk At.Da [sc (zgL a zeb),sc (zgL b zeb),sc (zhW b zeb),sc (zgp a (-b) zeb zeb zeb),sc (zcp (a+-b) zeb)] kr⟩
theorem nab {a:Int} (h:I64 a):0<=(a.natAbs:Int)/\(a.natAbs:Int)<=9223372036854775808:=by simp only [I64] at h;omega
theorem nabP {a b:Int} (ha:I64 a) (hb:I64 b):0<=(a.natAbs:Int) * (b.natAbs:Int)/\(a.natAbs:Int) * (b.natAbs:Int)<=85070591730234615865843651857942052864:=by
 have h1:=nab ha
 have h2:=nab hb
 refine ⟨Int.mul_nonneg h1.1 h2.1,?_⟩
 have:=Int.mul_le_mul h1.2 h2.2 h2.1 Zd
 exact this
theorem mulS {a b:Int} (h:(!decide (a < 0)==decide (b < 0))=true):-((a.natAbs:Int) * (b.natAbs:Int))=a * b:=by
 by_cases h1:a < 0 <;> by_cases h2:b < 0 <;> simp only [h1,h2,decide_true,decide_false] at h
 ·cases h
 ·have e1:(a.natAbs:Int)=-a:=by omega
  have e2:(b.natAbs:Int)=b:=by omega
  rw [e1,e2,Int.neg_mul,Int.neg_neg]
 ·have e1:(a.natAbs:Int)=a:=by omega
  have e2:(b.natAbs:Int)=-b:=by omega
  rw [e1,e2,Int.mul_neg,Int.neg_neg]
 ·cases h
theorem mulS0 {a b:Int} (h:(!decide (a < 0)==decide (b < 0))=false):(a.natAbs:Int) * (b.natAbs:Int)=a * b:=by
 by_cases h1:a < 0 <;> by_cases h2:b < 0 <;> simp only [h1,h2,decide_true,decide_false] at h
 ·have e1:(a.natAbs:Int)=-a:=by omega
  have e2:(b.natAbs:Int)=-b:=by omega
  rw [e1,e2,Int.neg_mul_neg]
 ·cases h
 ·cases h
 ·have e1:(a.natAbs:Int)=a:=by omega
  have e2:(b.natAbs:Int)=b:=by omega
  rw [e1,e2]
theorem mulQ {a b:Int} (h:(!decide (a < 0)==decide (b < 0))=true):((sat (-((a.natAbs:Int) * (b.natAbs:Int)))).fst,(sat (-((a.natAbs:Int) * (b.natAbs:Int)))).snd)=sat (a * b):=by rw [mulS h]
theorem mulQ0 {a b:Int} (h:(!decide (a < 0)==decide (b < 0))=false):((sat ((a.natAbs:Int) * (b.natAbs:Int))).fst,(sat ((a.natAbs:Int) * (b.natAbs:Int))).snd)=sat (a * b):=by rw [mulS0 h]
theorem zon (a b:Int) (ha:I64 a) (hb:I64 b) (hw:IntKind.i64.wrap ((a.natAbs:Int) * (b.natAbs:Int) / 18446744073709551616)=(a.natAbs:Int) * (b.natAbs:Int) / 18446744073709551616) (hu:U64 (a.natAbs:Int)) (hv:U64 (b.natAbs:Int)) (hp:W127 ((a.natAbs:Int) * (b.natAbs:Int))) (hn:W127 (-((a.natAbs:Int) * (b.natAbs:Int)))):∃ (n:Int) (ok:Bool),(n,ok)=sat (a * b)/\zaa E0 S.CT [iv a,iv b] [] (.tup [iv n,bv ok]) []:=by
 let p_1:List St:=[sc (zdD a zkP),sc (zdD b zkP),sc (zno ((a.natAbs:Int)) ((b.natAbs:Int)) zkP zkP),si hw]
 cases h1:!decide (a < 0)==decide (b < 0)
 ·exact ⟨(sat ((a.natAbs:Int) * (b.natAbs:Int))).fst,(sat ((a.natAbs:Int) * (b.natAbs:Int))).snd,(by first|exact mulQ ‹_›|exact mulQ0 ‹_›),wk At.CT (p_1++[sb h1,sc (zcp ((a.natAbs:Int) * (b.natAbs:Int)) zkP)]) kr⟩
 ·exact ⟨(sat (-((a.natAbs:Int) * (b.natAbs:Int)))).fst,(sat (-((a.natAbs:Int) * (b.natAbs:Int)))).snd,(by first|exact mulQ ‹_›|exact mulQ0 ‹_›),wk At.CT (p_1++[sb h1,sc (zhW ((a.natAbs:Int) * (b.natAbs:Int)) zkP),sc (zcp (-((a.natAbs:Int) * (b.natAbs:Int))) zkP)]) kr⟩
theorem tdU {a b:Int} (ha:I64 a):0<=(a.natAbs:Int).tdiv (b.natAbs:Int)/\(a.natAbs:Int).tdiv (b.natAbs:Int)<=9223372036854775808/\IntKind.u64.wrap ((a.natAbs:Int).tdiv (b.natAbs:Int))=(a.natAbs:Int).tdiv (b.natAbs:Int):=by
 have h:=nab ha
 have e:(a.natAbs:Int).tdiv (b.natAbs:Int)=((a.natAbs / b.natAbs:Nat):Int):=by
  rw [Int.tdiv_eq_ediv_of_nonneg h.1,Int.natCast_ediv]
 have h3:=Nat.div_le_self a.natAbs b.natAbs
 rw [e,zfC]
 generalize a.natAbs / b.natAbs=q at h3
 generalize a.natAbs=p at h h3
 omega
theorem tmU {a b:Int} (ha:I64 a):0<=(a.natAbs:Int).tmod (b.natAbs:Int)/\(a.natAbs:Int).tmod (b.natAbs:Int)<=9223372036854775808:=by
 have h:=nab ha
 have e:(a.natAbs:Int).tmod (b.natAbs:Int)=((a.natAbs % b.natAbs:Nat):Int):=by
  rw [Int.tmod_eq_emod_of_nonneg h.1,Int.natCast_emod]
 have h3:=Nat.mod_le a.natAbs b.natAbs
 rw [e]
 generalize a.natAbs % b.natAbs=q at h3
 generalize a.natAbs=p at h h3
 omega
theorem u_div {a b:Int} (ha:I64 a) (h:(b==0)=false):U64 (IntKind.u64.wrap ((a.natAbs:Int).tdiv (b.natAbs:Int))):=by
 have:=tdU (b:=b) ha;rw [this.2.2];unfold U64;omega
theorem u_divn {a b:Int} (ha:I64 a) (h:(b==0)=false):W127 (-IntKind.u64.wrap ((a.natAbs:Int).tdiv (b.natAbs:Int))):=by
 have:=tdU (b:=b) ha;rw [this.2.2];unfold W127;omega
theorem u_mod {a b:Int} (ha:I64 a) (h:(b==0)=false):U64 ((a.natAbs:Int).tmod (b.natAbs:Int)):=by
 have:=tmU (b:=b) ha;unfold U64;omega
theorem u_modn {a b:Int} (ha:I64 a) (h:(b==0)=false):W127 (-(a.natAbs:Int).tmod (b.natAbs:Int)):=by
 have:=tmU (b:=b) ha;unfold W127;omega
theorem div_q0 {a b:Int} (h:(b==0)=true):((0:Int),false)=if b=0 then (0,false) else sat (a.tdiv b):=by rw [if_pos (eq_of_beq h)]
theorem mod_q0 {a b:Int} (h:(b==0)=true):((0:Int),false)=if b=0 then (0,false) else sat (a.tmod b):=by rw [if_pos (eq_of_beq h)]
theorem sgn_eq {a b:Int} (h:(!decide (a < 0)==decide (b < 0))=false):(a < 0/\b < 0)\/(¬a < 0/\¬b < 0):=by
 by_cases h1:a < 0 <;> by_cases h2:b < 0 <;> simp [h1,h2] at h ⊢
theorem sgn_ne {a b:Int} (h:(!decide (a < 0)==decide (b < 0))=true):(a < 0/\¬b < 0)\/(¬a < 0/\b < 0):=by
 by_cases h1:a < 0 <;> by_cases h2:b < 0 <;> simp [h1,h2] at h ⊢
theorem div_q1 {a b:Int} (ha:I64 a) (hb:I64 b) (h:(b==0)=false) (h2:(!decide (a < 0)==decide (b < 0))=false):((sat (IntKind.u64.wrap ((a.natAbs:Int).tdiv (b.natAbs:Int)))).fst,(sat (IntKind.u64.wrap ((a.natAbs:Int).tdiv (b.natAbs:Int)))).snd)=if b=0 then (0,false) else sat (a.tdiv b):=by
 rw [if_neg (by simpa using h),(tdU ha).2.2]
 rcases sgn_eq h2 with ⟨h3,h4⟩|⟨h3,h4⟩
 ·have e1:(a.natAbs:Int)=-a:=by omega
  have e2:(b.natAbs:Int)=-b:=by omega
  rw [e1,e2,Int.neg_tdiv_neg]
 ·have e1:(a.natAbs:Int)=a:=by omega
  have e2:(b.natAbs:Int)=b:=by omega
  rw [e1,e2]
theorem div_q2 {a b:Int} (ha:I64 a) (hb:I64 b) (h:(b==0)=false) (h2:(!decide (a < 0)==decide (b < 0))=true):((sat (-IntKind.u64.wrap ((a.natAbs:Int).tdiv (b.natAbs:Int)))).fst,(sat (-IntKind.u64.wrap ((a.natAbs:Int).tdiv (b.natAbs:Int)))).snd)=if b=0 then (0,false) else sat (a.tdiv b):=by
 rw [if_neg (by simpa using h),(tdU ha).2.2]
 rcases sgn_ne h2 with ⟨h3,h4⟩|⟨h3,h4⟩
 ·have e1:(a.natAbs:Int)=-a:=by omega
  have e2:(b.natAbs:Int)=b:=by omega
  rw [e1,e2,Int.neg_tdiv,Int.neg_neg]
 ·have e1:(a.natAbs:Int)=a:=by omega
  have e2:(b.natAbs:Int)=-b:=by omega
  rw [e1,e2,Int.tdiv_neg,Int.neg_neg]
theorem ztL (a b:Int):a.tmod (b.natAbs:Int)=a.tmod b:=by
 rcases Int.natAbs_eq b with h|h
 ·rw [← h]
 ·rw [h,Int.tmod_neg];congr 1;omega
theorem mod_q1 {a b:Int} (h:(b==0)=false) (h2:decide (a < 0)=false):((sat ((a.natAbs:Int).tmod (b.natAbs:Int))).fst,(sat ((a.natAbs:Int).tmod (b.natAbs:Int))).snd)=if b=0 then (0,false) else sat (a.tmod b):=by
 rw [if_neg (by simpa using h),ztL]
 have e1:(a.natAbs:Int)=a:=by simp at h2;omega
 rw [e1]
theorem mod_q2 {a b:Int} (h:(b==0)=false) (h2:decide (a < 0)=true):((sat (-(a.natAbs:Int).tmod (b.natAbs:Int))).fst,(sat (-(a.natAbs:Int).tmod (b.natAbs:Int))).snd)=if b=0 then (0,false) else sat (a.tmod b):=by
 rw [if_neg (by simpa using h),ztL]
 have e1:(a.natAbs:Int)=-a:=by simp at h2;omega
 rw [e1,Int.neg_tmod,Int.neg_neg]
theorem zqZ (a b:Int) (ha:I64 a) (hb:I64 b) (hu:U64 (a.natAbs:Int)) (hv:U64 (b.natAbs:Int)):∃ (n:Int) (ok:Bool),((n,ok)=if b=0 then (0,false) else sat (a.tdiv b))/\zaa E0 S.CQ [iv a,iv b] [] (.tup [iv n,bv ok]) []:=by
 cases h1:b==0
 ·let p_1:List St:=[sb h1,sc (zdD a zpa),sc (zdD b zpa),sx (.i (IntKind.u64.wrap ((a.natAbs:Int).tdiv (b.natAbs:Int)))) (show (b.natAbs:Int)≠(0:Int)/\(IntKind.u64.wrap ((a.natAbs:Int).tdiv (b.natAbs:Int)):Int)=IntKind.u64.wrap ((a.natAbs:Int).tdiv (b.natAbs:Int)) from ⟨(by simp_all),rfl⟩)]
  cases h2:!decide (a < 0)==decide (b < 0)
  ·exact ⟨(sat (IntKind.u64.wrap ((a.natAbs:Int).tdiv (b.natAbs:Int)))).fst,(sat (IntKind.u64.wrap ((a.natAbs:Int).tdiv (b.natAbs:Int)))).snd,zxc,wk At.CQ (p_1++[sb h2,sc (zg6 (IntKind.u64.wrap ((a.natAbs:Int).tdiv (b.natAbs:Int))) zpa)]) kr⟩
  ·exact ⟨(sat (-IntKind.u64.wrap ((a.natAbs:Int).tdiv (b.natAbs:Int)))).fst,(sat (-IntKind.u64.wrap ((a.natAbs:Int).tdiv (b.natAbs:Int)))).snd,zxc,wk At.CQ (p_1++[sb h2,sc (zhX (IntKind.u64.wrap ((a.natAbs:Int).tdiv (b.natAbs:Int))) zpa),sc (zcp (-IntKind.u64.wrap ((a.natAbs:Int).tdiv (b.natAbs:Int))) zpa)]) kr⟩
 ·exact ⟨0,false,zxc,wk At.CQ [sb h1] kr⟩
theorem zq0 (a b:Int) (ha:I64 a) (hb:I64 b) (hu:U64 (a.natAbs:Int)) (hv:U64 (b.natAbs:Int)):∃ (n:Int) (ok:Bool),((n,ok)=if b=0 then (0,false) else sat (a.tmod b))/\zaa E0 S.CR [iv a,iv b] [] (.tup [iv n,bv ok]) []:=by
 cases h1:b==0
 ·let p_1:List St:=[sb h1,sc (zdD a zpb),sc (zdD b zpb),sx (.i ((a.natAbs:Int).tmod (b.natAbs:Int))) (show (b.natAbs:Int)≠(0:Int)/\((a.natAbs:Int).tmod (b.natAbs:Int):Int)=(a.natAbs:Int).tmod (b.natAbs:Int) from ⟨(by simp_all),rfl⟩)]
  cases h2:decide (a < 0)
  ·exact ⟨(sat ((a.natAbs:Int).tmod (b.natAbs:Int))).fst,(sat ((a.natAbs:Int).tmod (b.natAbs:Int))).snd,zxd,wk At.CR (p_1++[sb h2,sc (zg6 ((a.natAbs:Int).tmod (b.natAbs:Int)) zpb)]) kr⟩
  ·exact ⟨(sat (-(a.natAbs:Int).tmod (b.natAbs:Int))).fst,(sat (-(a.natAbs:Int).tmod (b.natAbs:Int))).snd,zxd,wk At.CR (p_1++[sb h2,sc (zhX ((a.natAbs:Int).tmod (b.natAbs:Int)) zpb),sc (zcp (-(a.natAbs:Int).tmod (b.natAbs:Int)) zpb)]) kr⟩
 ·exact ⟨0,false,zxd,wk At.CR [sb h1] kr⟩
theorem zcb {p:Prop} (h:p:=by (rw [zzc ho];unfold arS;simp only [*,cond_true,cond_false,Bool.true_and,Bool.false_and,Bool.and_false,Bool.and_true];first|done|rfl)):p:=h
theorem zkQ {p:Prop} (h:p:=by first|(unfold land zeG;simp only [*,cond_true,cond_false];done)|(unfold land zeG;have q:=‹(bif _ then true else _)=_›;simp only [*,cond_true,cond_false] at q;simp only [*,cond_true,cond_false];done)):p:=h
theorem zkR {p:Prop} (h:p:=by first|(unfold lor;simp only [*,cond_true,cond_false];done)|(rw [orL hg hgb ‹_› ‹_›];simp only [*,cond_true,cond_false,Bool.or_true,Bool.true_or,Bool.or_false];first|done|rfl)):p:=h
theorem zds {p:Prop} (h:p:=by first|assumption|omega|(simp;done)|(simp;omega)):p:=h
theorem zhq {p:Prop} (h:p:=by (unfold vCmp zov;simp only [*,← zqB,cond_true,cond_false])):p:=h
theorem cb_eq:∀ a b:List UInt8,Lib.compareBytes a b=if Op.bytesLess a b then -1 else if !(Op.bytesLess a b || a==b) then 1 else 0
 | [],[]=>by simp [Lib.compareBytes,Op.bytesLess]
 | [],_::_=>by simp [Lib.compareBytes,Op.bytesLess]
 | _::_,[]=>by simp [Lib.compareBytes,Op.bytesLess]
 | x::a,y::b=>by
  have ih:=cb_eq a b
  unfold Lib.compareBytes Op.bytesLess
  by_cases h1:x < y
  ·simp [h1]
  ·by_cases h2:y < x
   ·have h3:x≠y:=fun e=>by subst e;exact h1 h2
    simp [h1,h2,h3]
   ·have h3:x=y:=UInt8.le_antisymm (UInt8.not_lt.1 h2) (UInt8.not_lt.1 h1)
    subst h3
    simp [ih]
theorem zqd (a b:Str):cmpB a b=cmpS a b:=by
 unfold cmpB cmpS ltS eqS
 rw [← zdj,← zdj];exact cb_eq _ _
theorem zqB (a b:V):rCmp a b=cmpV a b:=by
 rw [zj2]
 rw [zqd]
 show _=if cmpI a.kind b.kind=0 then (if cmpI a.int b.int=0 then (if cmpS a.text b.text=0 then 0 else cmpS a.text b.text) else cmpI a.int b.int) else cmpI a.kind b.kind
 split
 ·split
  ·split
   ·assumption
   ·rfl
  ·rfl
 ·rfl
theorem zmi {v:V} (h:zaE v=true):zbn v=(v.kind==2 || v.kind==0):=by
 unfold zbn;rw [h];cases v.kind==2 <;> simp
theorem zyh {t:Str} (h:(ByteArray.toList t==Zs0.toList)=true):t=⟨#[]⟩:=by
 have h2:=eq_of_beq h
 rw [zdj,zdj] at h2
 exact ByteArray.ext (Array.toList_inj.1 h2)
theorem lv3 {v:V} (h:zaE v=true) (hl:zbn v=true):v=⟨0,0,⟨#[]⟩⟩\/v=⟨2,0,⟨#[]⟩⟩\/v=⟨2,1,⟨#[]⟩⟩:=by
 obtain ⟨k,n,t⟩:=v
 rw [zmi h] at hl
 have hk:k=2\/k=0:=by simpa using hl
 unfold zaE at h
 rcases hk with rfl|rfl
 ·have h':(bif n==0 then ByteArray.toList t==Zs0.toList else bif n==1 then ByteArray.toList t==Zs0.toList else false)=true:=h
  cases h0:n==0
  ·cases h1:n==1
   ·rw [h0,h1] at h';cases h'
   ·rw [h0,h1] at h'
    have:=eq_of_beq h1
    subst this
    exact .inr (.inr (by rw [zyh h']))
  ·rw [h0] at h'
   have:=eq_of_beq h0
   subst this
   exact .inr (.inl (by rw [zyh h']))
 ·have h':((0:Int)==0&&(n==0&&(t==ByteArray.mk #[]&&true)))=true:=h
  simp only [Bool.and_eq_true,beq_self_eq_true,true_and,and_true] at h'
  have:=eq_of_beq h'.1
  subst this
  exact .inl (by rw [zrq h'.2])
theorem lor_eq {a b:V} (ha:zaE a=true) (hb:zaE b=true) (la:zbn a=true) (lb:zbn b=true):lor a b=bif zoG a || zoG b then (⟨2,1,⟨#[]⟩⟩,true) else bif a.kind==0 || b.kind==0 then (⟨0,0,⟨#[]⟩⟩,true) else (⟨2,0,⟨#[]⟩⟩,true):=by
 rcases lv3 ha la with rfl|rfl|rfl <;> rcases lv3 hb lb with rfl|rfl|rfl <;> kernel_rfl
theorem zsh (v:V) (hg:zaE v=true) (hv:zaa E0 S.AU [v.av] [] (bv true) []):∃ (r:Bool),r=zbn v/\zaa E0 S.Db [v.av] [] (bv r) []:=by
 cases h1:v.kind==2
 ·exact ⟨v.kind==(0:Int),(by (rw [zmi hg];simp only [*,Bool.true_or,Bool.false_or])),wk At.Db [sc hv,sg Zt,sg h1] kr⟩
 ·exact ⟨true,(by (rw [zmi hg];simp only [*,Bool.true_or,Bool.false_or])),wk At.Db [sc hv,sg Zt,sb h1] kr⟩
theorem zdh (v:V) (hg:v.Good):zaa E0 S.Db [v.av] [] (bv (zbn v)) []:=by
 obtain ⟨_,rfl,h⟩:=zsh v hg.valid (ziL v hg.valid)
 exact h
theorem zwh (a:V) (hg:a.Good):∃ (r:V) (ok:Bool),(r,ok)=lnot a/\zaa E0 S.Dh [a.av] [] (.tup [r.av,bv ok]) []:=by
 let p_1:List St:=[sc (zdh a zds)]
 cases h1:!zbn a
 ·cases h2:a.kind==0
  ·exact ⟨V.mk (2:Int) (if (a.int==(0:Int))=true then (1:Int) else (0:Int)) Zs0,true,(by (unfold lnot;simp only [*,cond_true,cond_false])),wk At.Dh (p_1++[sb h1,sb h2,sc (zaT (a.int==0))]) kr⟩
  ·exact ⟨a,true,(by (unfold lnot;simp only [*,cond_true,cond_false])),wk At.Dh (p_1++[sb h1,sb h2]) kr⟩
 ·exact ⟨V.mk 0 0 Zs0,false,(by (unfold lnot;simp only [*,cond_true,cond_false])),wk At.Dh (p_1++[sb h1]) kr⟩
def rIsT (a:V):Bool :=
 a.kind==(2:Int)&&((a.int==if true=true then (1:Int) else (0:Int))&&(a.text==ByteArray.mk #[]&&true))
theorem zeF (a:V) :zaa E0 S.DI [a.av] [] (bv (rIsT a)) []:=by
 exact wk At.DI [sd [(1,[sc (zaT true)]),(2,[sq zaW])]] kr
theorem zwU (a:V) (hg:a.Good):zaa E0 S.Dh [a.av] [] (.tup [(lnot a).1.av,bv (lnot a).2]) []:=by
 obtain ⟨r,ok,e,h⟩:=zwh a hg
 rw [← e];exact h
theorem orL {a b:V} (hg:a.Good) (hgb:b.Good) (h1:(!zbn a)=false) (h2:(!zbn b)=false):lor a b=bif rIsT a || rIsT b then (⟨2,1,⟨#[]⟩⟩,true) else bif a.kind==0 || b.kind==0 then (⟨0,0,⟨#[]⟩⟩,true) else (⟨2,0,⟨#[]⟩⟩,true) :=
 lor_eq hg.valid hgb.valid (by simpa using h1) (by simpa using h2)
theorem zwg (a b:V) (hg:a.Good) (hgb:b.Good):∃ (r:V) (ok:Bool),(r,ok)=land a b/\zaa E0 S.Cy [a.av,b.av] [] (.tup [r.av,bv ok]) []:=by
 let p_1:List St:=[sc (zdh a zds)]
 cases h1:!zbn a
 ·let p_2:List St:=p_1++[sg h1,sc (zdh b zds)]
  cases h2:!zbn b
  ·cases h3:a.kind==2&&((a.int==if false=true then 1 else 0)&&(a.text==ByteArray.mk #[]&&true))
   ·let p_3:List St:=p_2++[sb h2,sd [(1,[sc (zaT false)]),(2,[sq zaW]),(4,[sg h3]),(5,[so h3 (sc (zaT false))]),(6,[so h3 (sq zaW)])]]
    cases h4:bif a.kind==2&&((a.int==if false=true then 1 else 0)&&(a.text==ByteArray.mk #[]&&true)) then true else b.kind==2&&((b.int==if false=true then 1 else 0)&&(b.text==ByteArray.mk #[]&&true))
    ·cases h5:a.kind==0
     ·cases h6:b.kind==0
      ·exact ⟨V.mk 2 (if true=true then 1 else 0) Zs0,true,zkQ,wk At.Cy (p_3++[sb h4,sg h5,sb h6,sc (zaT true)]) kr⟩
      ·exact ⟨V.mk 0 0 Zs0,true,zkQ,wk At.Cy (p_3++[sb h4,sg h5,sb h6]) kr⟩
     ·exact ⟨V.mk 0 0 Zs0,true,zkQ,wk At.Cy (p_3++[sb h4,sb h5]) kr⟩
    ·exact ⟨V.mk 2 (if false=true then 1 else 0) Zs0,true,zkQ,wk At.Cy (p_3++[sb h4,sc (zaT false)]) kr⟩
   ·exact ⟨V.mk 2 (if false=true then 1 else 0) Zs0,true,zkQ,wk At.Cy (p_2++[sb h2,sd [(1,[sc (zaT false)]),(2,[sq zaW]),(4,[sb h3]),(5,[sb h3]),(6,[sb h3]),(7,[sb h3])],sc (zaT false)]) kr⟩
  ·exact ⟨V.mk 0 0 Zs0,false,zkQ,wk At.Cy (p_2++[sb h2]) kr⟩
 ·exact ⟨V.mk 0 0 Zs0,false,zkQ,wk At.Cy (p_1++[sb h1]) kr⟩
theorem zxV (a b:V) (hg:a.Good) (hgb:b.Good):∃ (r:V) (ok:Bool),(r,ok)=lor a b/\zaa E0 S.CL [a.av,b.av] [] (.tup [r.av,bv ok]) []:=by
 let p_1:List St:=[sc (zdh a zds)]
 cases h1:!zbn a
 ·let p_2:List St:=p_1++[sg h1,sc (zdh b zds)]
  cases h2:!zbn b
  ·cases h3:rIsT a
   ·let p_3:List St:=p_2++[sb h2,sc (zeF a),sg h3,sc (zeF b)]
    cases h4:rIsT b
    ·cases h5:a.kind==0
     ·cases h6:b.kind==0
      ·exact ⟨V.mk 2 (if false=true then 1 else 0) Zs0,true,zkR,wk At.CL (p_3++[sb h4,sg h5,sb h6,sc (zaT false)]) kr⟩
      ·exact ⟨V.mk 0 0 Zs0,true,zkR,wk At.CL (p_3++[sb h4,sg h5,sb h6]) kr⟩
     ·exact ⟨V.mk 0 0 Zs0,true,zkR,wk At.CL (p_3++[sb h4,sb h5]) kr⟩
    ·exact ⟨V.mk 2 (if true=true then 1 else 0) Zs0,true,zkR,wk At.CL (p_3++[sb h4,sc (zaT true)]) kr⟩
   ·exact ⟨V.mk 2 (if true=true then 1 else 0) Zs0,true,zkR,wk At.CL (p_2++[sb h2,sc (zeF a),sb h3,sc (zaT true)]) kr⟩
  ·exact ⟨V.mk 0 0 Zs0,false,zkR,wk At.CL (p_2++[sb h2]) kr⟩
 ·exact ⟨V.mk 0 0 Zs0,false,zkR,wk At.CL (p_1++[sb h1]) kr⟩
theorem zoM (a b:V) (hg:a.Good) (hgb:b.Good):zaa E0 S.Cy [a.av,b.av] [] (.tup [(land a b).1.av,bv (land a b).2]) []:=by
 obtain ⟨r,ok,e,h⟩:=zwg a b hg hgb
 rw [← e];exact h
theorem zyy (a b:V) (hg:a.Good) (hgb:b.Good):zaa E0 S.CL [a.av,b.av] [] (.tup [(lor a b).1.av,bv (lor a b).2]) []:=by
 obtain ⟨r,ok,e,h⟩:=zxV a b hg hgb
 rw [← e];exact h
theorem zwV (a b:Int) (ha:I64 a) (hb:I64 b):zaa E0 S.DK [iv a,iv b] [] (.tup [iv (aAdd a b).1,bv (aAdd a b).2]) []:=by
 obtain ⟨n,ok,e,h⟩:=zwi a b ha hb
 rw [zAB ha hb,← e];exact h
theorem zoO (a b:Int) (ha:I64 a) (hb:I64 b):zaa E0 S.Da [iv a,iv b] [] (.tup [iv (aSub a b).1,bv (aSub a b).2]) []:=by
 obtain ⟨n,ok,e,h⟩:=zoo a b ha hb
 rw [zAF ha hb,Int.sub_eq_add_neg,← e];exact h
theorem zoN (a b:Int) (ha:I64 a) (hb:I64 b):zaa E0 S.CT [iv a,iv b] [] (.tup [iv (aMul a b).1,bv (aMul a b).2]) []:=by
 have h1:=nab ha
 have h2:=nab hb
 have hp:=nabP ha hb
 obtain ⟨n,ok,e,h⟩:=zon a b ha hb (by rw [IntKind.wrap_i64];generalize (a.natAbs:Int) * (b.natAbs:Int)=p at hp ⊢;omega) ⟨h1.1,by omega⟩ ⟨h2.1,by omega⟩ ⟨by omega,by omega⟩ ⟨by omega,by omega⟩
 rw [zAE ha hb,← e];exact h
theorem zrc (a b:Int) (ha:I64 a) (hb:I64 b):zaa E0 S.CQ [iv a,iv b] [] (.tup [iv (aDiv a b).1,bv (aDiv a b).2]) []:=by
 have h1:=nab ha
 have h2:=nab hb
 obtain ⟨n,ok,e,h⟩:=zqZ a b ha hb ⟨h1.1,by omega⟩ ⟨h2.1,by omega⟩
 have e2:aDiv a b=if b=0 then (0,false) else sat (a.tdiv b):=by
  split
  ·rename_i hz;subst hz;rfl
  ·exact zAC ha hb ‹_›
 rw [e2,← e];exact h
theorem zrd (a b:Int) (ha:I64 a) (hb:I64 b):zaa E0 S.CR [iv a,iv b] [] (.tup [iv (aMod a b).1,bv (aMod a b).2]) []:=by
 have h1:=nab ha
 have h2:=nab hb
 obtain ⟨n,ok,e,h⟩:=zq0 a b ha hb ⟨h1.1,by omega⟩ ⟨h2.1,by omega⟩
 have e2:aMod a b=if b=0 then (0,false) else sat (a.tmod b):=by
  split
  ·rename_i hz;subst hz;rfl
  ·exact zAD ha hb ‹_›
 rw [e2,← e];exact h
theorem zol (op:Int) (a b:V) (hg:a.Good) (hgb:b.Good) (ho:3<=op/\op<=8):∃ (r:V) (e:Int),(r,e)=vCmp op a b/\zaa E0 S.Bd [iv op,a.av,b.av] [] (.tup [r.av,iv e]) []:=by
 cases h1:a.kind==0
 ·cases h2:b.kind==0
  ·cases h3:a.kind != b.kind
   ·let p_1:List St:=[sg h1,sb h2,sb h3,sc (zjU a b)]
    cases h4:op==3
    ·cases h5:op==4
     ·cases h6:op==5
      ·cases h7:op==6
       ·cases h8:op==7
        ·exact ⟨V.mk (2:Int) (if decide ((0:Int)<=rCmp a b)=true then (1:Int) else (0:Int)) Zs0,0,zhq,wk At.Bd (p_1++[sb h4,sb h5,sb h6,sb h7,sb h8,sc (zaT (decide (0<=rCmp a b)))]) kr⟩
        ·exact ⟨V.mk (2:Int) (if decide ((0:Int) < rCmp a b)=true then (1:Int) else (0:Int)) Zs0,0,zhq,wk At.Bd (p_1++[sb h4,sb h5,sb h6,sb h7,sb h8,sc (zaT (decide (0 < rCmp a b)))]) kr⟩
       ·exact ⟨V.mk (2:Int) (if decide (rCmp a b<=(0:Int))=true then (1:Int) else (0:Int)) Zs0,0,zhq,wk At.Bd (p_1++[sb h4,sb h5,sb h6,sb h7,sc (zaT (decide (rCmp a b<=0)))]) kr⟩
      ·exact ⟨V.mk (2:Int) (if decide (rCmp a b < (0:Int))=true then (1:Int) else (0:Int)) Zs0,0,zhq,wk At.Bd (p_1++[sb h4,sb h5,sb h6,sc (zaT (decide (rCmp a b < 0)))]) kr⟩
     ·exact ⟨V.mk (2:Int) (if (rCmp a b != (0:Int))=true then (1:Int) else (0:Int)) Zs0,0,zhq,wk At.Bd (p_1++[sb h4,sb h5,sc (zaT (rCmp a b != 0))]) kr⟩
    ·exact ⟨V.mk (2:Int) (if (rCmp a b==(0:Int))=true then (1:Int) else (0:Int)) Zs0,0,zhq,wk At.Bd (p_1++[sb h4,sc (zaT (rCmp a b==0))]) kr⟩
   ·exact ⟨V.mk 0 0 Zs0,5,zhq,wk At.Bd [sg h1,sb h2,sb h3] kr⟩
  ·exact ⟨V.mk 0 0 Zs0,0,zhq,wk At.Bd [sg h1,sb h2] kr⟩
 ·exact ⟨V.mk 0 0 Zs0,0,zhq,wk At.Bd [sb h1] kr⟩
def arS (op a b:Int):Int × Bool:=bif op==9 then aAdd a b else bif op==10 then aSub a b else bif op==11 then aMul a b else bif op==12 then aDiv a b else aMod a b
theorem zzc {op:Int} {a b:V} (ho:9<=op/\op<=13):zcu op a b=bif a.kind==0 then (⟨0,0,⟨#[]⟩⟩,0) else bif b.kind==0 then (⟨0,0,⟨#[]⟩⟩,0) else bif a.kind != 1 then (⟨0,0,⟨#[]⟩⟩,5) else bif b.kind != 1 then (⟨0,0,⟨#[]⟩⟩,5) else bif (arS op a.int b.int).2 then (⟨1,(arS op a.int b.int).1,⟨#[]⟩⟩,0) else bif b.int==0&&decide (12<=op) then (⟨0,0,⟨#[]⟩⟩,7) else (⟨0,0,⟨#[]⟩⟩,6):=by
 have h:op=9\/op=10\/op=11\/op=12\/op=13:=by omega
 unfold zcu
 cases a.kind==0
 ·cases b.kind==0
  ·cases a.kind != 1
   ·cases b.kind != 1
    ·simp only [cond_false]
     rcases h with rfl|rfl|rfl|rfl|rfl
     ·show (bif !(aAdd a.int b.int).2 then _ else _)=bif (aAdd a.int b.int).2 then _ else bif b.int==0&&false then _ else _
      cases (aAdd a.int b.int).2 <;> cases b.int==0 <;> rfl
     ·show (bif !(aSub a.int b.int).2 then _ else _)=bif (aSub a.int b.int).2 then _ else bif b.int==0&&false then _ else _
      cases (aSub a.int b.int).2 <;> cases b.int==0 <;> rfl
     ·show (bif !(aMul a.int b.int).2 then _ else _)=bif (aMul a.int b.int).2 then _ else bif b.int==0&&false then _ else _
      cases (aMul a.int b.int).2 <;> cases b.int==0 <;> rfl
     ·show (bif b.int==0 then _ else bif !(aDiv a.int b.int).2 then _ else _)=bif (aDiv a.int b.int).2 then _ else bif b.int==0&&true then _ else _
      cases h0:b.int==0
      ·cases (aDiv a.int b.int).2 <;> rfl
      ·rw [show aDiv a.int b.int=(0,false) by unfold aDiv;rw [h0];rfl];rfl
     ·show (bif b.int==0 then _ else bif !(aMod a.int b.int).2 then _ else _)=bif (aMod a.int b.int).2 then _ else bif b.int==0&&true then _ else _
      cases h0:b.int==0
      ·cases (aMod a.int b.int).2 <;> rfl
      ·rw [show aMod a.int b.int=(0,false) by unfold aMod;rw [h0];rfl];rfl
    ·rfl
   ·rfl
  ·rfl
 ·rfl
theorem zpH (op:Int) (a b:V) (ha:a.Good) (hb:b.Good) (ho:9<=op/\op<=13) (ia:I64 a.int) (ib:I64 b.int):∃ (r:V) (e:Int),(r,e)=zcu op a b/\zaa E0 S.Ap [iv op,a.av,b.av] [] (.tup [r.av,iv e]) []:=by
 cases h1:a.kind==0
 ·cases h2:b.kind==0
  ·cases h3:a.kind != 1
   ·cases h4:b.kind != 1
    ·cases h5:op==9
     ·cases h6:op==10
      ·let p_1:List St:=[sg h1,sb h2,sg h3,sb h4,sb h5,sb h6]
       cases h7:op==11
       ·cases h8:op==12
        ·let p_2:List St:=p_1++[sb h7,sb h8,sc (zrd a.int b.int zds zds)]
         cases h9:(aMod a.int b.int).snd
         ·cases h10:b.int==0
          ·exact ⟨V.mk 0 0 Zs0,6,zcb,wk At.Ap (p_2++[sb h9,sb h10]) kr⟩
          ·cases h11:decide (12<=op)
           ·exact ⟨V.mk 0 0 Zs0,6,zcb,wk At.Ap (p_2++[sb h9,sg h10,sb h11]) kr⟩
           ·exact ⟨V.mk 0 0 Zs0,7,zcb,wk At.Ap (p_2++[sb h9,sg h10,sb h11]) kr⟩
         ·exact ⟨zb7 (aMod a.int b.int).fst,0,zcb,wk At.Ap (p_2++[sb h9,sc (zbZ ((aMod a.int b.int).fst))]) kr⟩
        ·let p_3:List St:=p_1++[sb h7,sb h8,sc (zrc a.int b.int zds zds)]
         cases h12:(aDiv a.int b.int).snd
         ·cases h13:b.int==0
          ·exact ⟨V.mk 0 0 Zs0,6,zcb,wk At.Ap (p_3++[sb h12,sb h13]) kr⟩
          ·cases h14:decide (12<=op)
           ·exact ⟨V.mk 0 0 Zs0,6,zcb,wk At.Ap (p_3++[sb h12,sg h13,sb h14]) kr⟩
           ·exact ⟨V.mk 0 0 Zs0,7,zcb,wk At.Ap (p_3++[sb h12,sg h13,sb h14]) kr⟩
         ·exact ⟨zb7 (aDiv a.int b.int).fst,0,zcb,wk At.Ap (p_3++[sb h12,sc (zbZ ((aDiv a.int b.int).fst))]) kr⟩
       ·let p_4:List St:=p_1++[sb h7,sc (zoN a.int b.int zds zds)]
        cases h15:(aMul a.int b.int).snd
        ·cases h16:b.int==0
         ·exact ⟨V.mk 0 0 Zs0,6,zcb,wk At.Ap (p_4++[sb h15,sb h16]) kr⟩
         ·cases h17:decide (12<=op)
          ·exact ⟨V.mk 0 0 Zs0,6,zcb,wk At.Ap (p_4++[sb h15,sg h16,sb h17]) kr⟩
          ·exact ⟨V.mk 0 0 Zs0,7,zcb,wk At.Ap (p_4++[sb h15,sg h16,sb h17]) kr⟩
        ·exact ⟨zb7 (aMul a.int b.int).fst,0,zcb,wk At.Ap (p_4++[sb h15,sc (zbZ ((aMul a.int b.int).fst))]) kr⟩
      ·let p_5:List St:=[sg h1,sb h2,sg h3,sb h4,sb h5,sb h6,sc (zoO a.int b.int zds zds)]
       cases h18:(aSub a.int b.int).snd
       ·cases h19:b.int==0
        ·exact ⟨V.mk 0 0 Zs0,6,zcb,wk At.Ap (p_5++[sb h18,sb h19]) kr⟩
        ·cases h20:decide (12<=op)
         ·exact ⟨V.mk 0 0 Zs0,6,zcb,wk At.Ap (p_5++[sb h18,sg h19,sb h20]) kr⟩
         ·exact ⟨V.mk 0 0 Zs0,7,zcb,wk At.Ap (p_5++[sb h18,sg h19,sb h20]) kr⟩
       ·exact ⟨zb7 (aSub a.int b.int).fst,0,zcb,wk At.Ap (p_5++[sb h18,sc (zbZ ((aSub a.int b.int).fst))]) kr⟩
     ·let p_6:List St:=[sg h1,sb h2,sg h3,sb h4,sb h5,sc (zwV a.int b.int zds zds)]
      cases h21:(aAdd a.int b.int).snd
      ·cases h22:b.int==0
       ·exact ⟨V.mk 0 0 Zs0,6,zcb,wk At.Ap (p_6++[sb h21,sb h22]) kr⟩
       ·cases h23:decide (12<=op)
        ·exact ⟨V.mk 0 0 Zs0,6,zcb,wk At.Ap (p_6++[sb h21,sg h22,sb h23]) kr⟩
        ·exact ⟨V.mk 0 0 Zs0,7,zcb,wk At.Ap (p_6++[sb h21,sg h22,sb h23]) kr⟩
      ·exact ⟨zb7 (aAdd a.int b.int).fst,0,zcb,wk At.Ap (p_6++[sb h21,sc (zbZ ((aAdd a.int b.int).fst))]) kr⟩
    ·exact ⟨V.mk 0 0 Zs0,5,zcb,wk At.Ap [sg h1,sb h2,sg h3,sb h4] kr⟩
   ·exact ⟨V.mk 0 0 Zs0,5,zcb,wk At.Ap [sg h1,sb h2,sb h3] kr⟩
  ·exact ⟨V.mk 0 0 Zs0,0,zcb,wk At.Ap [sg h1,sb h2] kr⟩
 ·exact ⟨V.mk 0 0 Zs0,0,zcb,wk At.Ap [sb h1] kr⟩
def r15t (v:V) (ok:Bool):V × Int :=
 bif !ok then
  (V.mk 0 0 Zs0,5)
 else
  (v,0)
theorem zeE (v:V) (ok:Bool) :zaa E0 S.Du [v.av,bv ok] [] (.tup [(r15t v ok).1.av,iv (r15t v ok).2]) []:=by
 unfold r15t
 cases h1:!ok
 ·exact wk At.Du [sb h1] kr
 ·exact wk At.Du [sb h1] kr
theorem zgs {p:Prop} (h:p:=by first|assumption|rfl|omega|exact fs2_0 _ _|exact zBl ‹_›|exact fs_sh ‹_› hl|exact fs_i ‹_› hgi):p:=h
theorem zrK {p:Prop} (h:p:=by first|exact fq0 ‹_›|exact fq1 ‹_› ‹_› ‹_› ‹_›|exact fq2 ‹_› ‹_› ‹_› ‹_›|exact fq3 hk ‹_› ‹_› ‹_›):p:=h
theorem zrL {p:Prop} (h:p:=by first|(unfold ziP;rw [show (op==2)=false by rw [eq_of_beq ‹(op==1)=true›];rfl];simp only [*,cond_true,cond_false];first|done|rfl)|(unfold ziP;simp only [*,cond_true,cond_false];first|done|rfl)):p:=h
theorem ziV {p:Prop} (h:p:=by first|assumption|exact zqK _ _ _|exact ⟨by decide,by decide⟩|omega):p:=h
theorem zkS {p:Prop} (h:p:=by (rw [hI,zap hx];simp only [zcY,← zqB, *];first|done|rfl)):p:=h
theorem zgt {p:Prop} (h:p:=by first|assumption|omega|(simp at *;omega)):p:=h
theorem zxe {p:Prop} (h:p:=by (unfold zm7 zeS;simp only [*,cond_true,cond_false];first|done|rfl)):p:=h
theorem zxf {p:Prop} (h:p:=by first|assumption|exact zyq|omega|exact ⟨by decide,by decide⟩):p:=h
theorem zfj (op:Int) (a b:V) (hg:a.Good) (hgb:b.Good) (ho:3<=op/\op<=8):zaa E0 S.Bd [iv op,a.av,b.av] [] (.tup [(vCmp op a b).1.av,iv (vCmp op a b).2]) []:=by
 obtain ⟨r,ok,e,h⟩:=zol op a b hg hgb ho
 rw [← e];exact h
theorem zjT (op:Int) (a b:V) (ha:a.Good) (hb:b.Good) (ho:9<=op/\op<=13):zaa E0 S.Ap [iv op,a.av,b.av] [] (.tup [(zcu op a b).1.av,iv (zcu op a b).2]) []:=by
 obtain ⟨r,ok,e,h⟩:=zpH op a b ha hb ho ha.i64 hb.i64
 rw [← e];exact h
theorem zyq:V.Good (zb7 0):=zbG ⟨by decide,by decide⟩
theorem ziy (op:Int) (nt:Bool) (a:V) (val:V) (tn nm:Str) (xs:List X) (qs:List Qy) :∃ (r:V) (e:Int),(r,e)=zkG op nt a/\zaa E0 S.AK [X.av (.mk 6 op nt val tn nm xs qs),vsl [a]] [] (.tup [r.av,iv e]) []:=by
 exact ⟨V.mk (2:Int) (if (!(a.kind==(0:Int))==nt)=true then (1:Int) else (0:Int)) Zs0,0,Zr,wk At.AK [sb Zf,sb Zt,sd [(1,[se (xs:=[[iv a.kind,iv a.int,sv a.text]]) (i:=0) (c:=[iv a.kind,iv a.int,sv a.text]) (n:=3) ⟨by decide,rfl,rfl⟩]),(8,[sc (zaT (!(a.kind==0)==nt))])]] kr⟩
theorem zla (op:Int) (nt:Bool) (a:V) (val:V) (tn nm:Str) (xs:List X) (qs:List Qy) (ha:a.Good):∃ (r:V) (e:Int),(r,e)=zrB op nt a/\zaa E0 S.AK [X.av (.mk 3 op nt val tn nm xs qs),vsl [a]] [] (.tup [r.av,iv e]) []:=by
 exact ⟨(r15t (lnot a).fst (lnot a).snd).fst,(r15t (lnot a).fst (lnot a).snd).snd,Zr,wk At.AK [sb Zt,se (xs:=[[iv a.kind,iv a.int,sv a.text]]) (i:=0) (c:=[iv a.kind,iv a.int,sv a.text]) (n:=3) ⟨by decide,rfl,rfl⟩,sc (zwU a (by first|assumption|omega|(simp;done)|(simp;omega))),sc (zeE ((lnot a).fst) ((lnot a).snd))] kr⟩
theorem zk9 (op:Int) (nt:Bool) (a:V) (val:V) (tn nm:Str) (xs:List X) (qs:List Qy) (ha:a.Good):∃ (r:V) (e:Int),(r,e)=zrA op nt a/\zaa E0 S.AK [X.av (.mk 4 op nt val tn nm xs qs),vsl [a]] [] (.tup [r.av,iv e]) []:=by
 exact ⟨(zcu 10 (zb7 0) a).fst,(zcu 10 (zb7 0) a).snd,Zr,wk At.AK [sb Zf,sb Zf,sb Zt,sd [(2,[se (xs:=[[iv a.kind,iv a.int,sv a.text]]) (i:=0) (c:=[iv a.kind,iv a.int,sv a.text]) (n:=3) ⟨by decide,rfl,rfl⟩]),(0,[sc (zbZ 0)]),(4,[sc (zjT 10 (zb7 0) a zxf zxf zxf)])]] kr⟩
theorem zk7 (op:Int) (nt:Bool) (a b c:V) (val:V) (tn nm:Str) (xs:List X) (qs:List Qy) (ha:a.Good) (hb:b.Good) (hc:c.Good):∃ (r:V) (e:Int),(r,e)=zm7 op nt a b c/\zaa E0 S.AK [X.av (.mk 7 op nt val tn nm xs qs),vsl [a,b,c]] [] (.tup [r.av,iv e]) []:=by
 let p_1:List St:=[sb Zf,sb Zf,sb Zf,sb Zt,sdm [(1,[se (xs:=[[iv a.kind,iv a.int,sv a.text],[iv b.kind,iv b.int,sv b.text],[iv c.kind,iv c.int,sv c.text]]) (i:=1) (c:=[iv b.kind,iv b.int,sv b.text]) (n:=3) ⟨by decide,rfl,rfl⟩]),(4,[se (xs:=[[iv a.kind,iv a.int,sv a.text],[iv b.kind,iv b.int,sv b.text],[iv c.kind,iv c.int,sv c.text]]) (i:=0) (c:=[iv a.kind,iv a.int,sv a.text]) (n:=3) ⟨by decide,rfl,rfl⟩]),(6,[sc (zfj 6 b a ziV ziV ziV)])] 0 [(0,AV.agg [iv 7,iv op,bv nt,iv val.kind,iv val.int,sv val.text,sv tn,sv nm,AV.sl (zad xs),AV.sl (zag qs)]),(1,AV.sl [[iv a.kind,iv a.int,sv a.text],[iv b.kind,iv b.int,sv b.text],[iv c.kind,iv c.int,sv c.text]]),(2,AV.p 0 0),(4,AV.p 1 0),(5,iv 0),(6,AV.p 2 0),(7,iv (vCmp 6 b a).snd),(9,AV.p 0 0),(10,iv 7),(11,AV.bl false),(12,bv (7==3)),(22,AV.bl false),(23,bv (7==6)),(33,AV.bl false),(34,bv (7==4)),(42,AV.bl true),(43,bv (7==7)),(44,AV.tup [AV.agg [iv (vCmp 6 b a).fst.kind,iv (vCmp 6 b a).fst.int,sv (vCmp 6 b a).fst.text],iv (vCmp 6 b a).snd]),(45,AV.sl [[iv a.kind,iv a.int,sv a.text],[iv b.kind,iv b.int,sv b.text],[iv c.kind,iv c.int,sv c.text]]),(46,AV.dp [iv b.kind,iv b.int,sv b.text]),(47,AV.agg [iv b.kind,iv b.int,sv b.text]),(48,AV.sl [[iv a.kind,iv a.int,sv a.text],[iv b.kind,iv b.int,sv b.text],[iv c.kind,iv c.int,sv c.text]]),(49,AV.dp [iv a.kind,iv a.int,sv a.text]),(50,AV.agg [iv a.kind,iv a.int,sv a.text]),(51,AV.tup [AV.agg [iv (vCmp 6 b a).fst.kind,iv (vCmp 6 b a).fst.int,sv (vCmp 6 b a).fst.text],iv (vCmp 6 b a).snd]),(52,AV.agg [iv (vCmp 6 b a).fst.kind,iv (vCmp 6 b a).fst.int,sv (vCmp 6 b a).fst.text]),(53,iv (vCmp 6 b a).snd)] [Blk.box [iv 7,iv op,bv nt,iv val.kind,iv val.int,sv val.text,sv tn,sv nm,AV.sl (zad xs),AV.sl (zag qs)],Blk.box [iv 0,iv 0,sv Zs0],Blk.box [iv (vCmp 6 b a).fst.kind,iv (vCmp 6 b a).fst.int,sv (vCmp 6 b a).fst.text]]]
 cases h1:(vCmp 6 b a).snd != 0
 ·let p_2:List St:=p_1++[sb h1,sdm [(1,[se (xs:=[[iv a.kind,iv a.int,sv a.text],[iv b.kind,iv b.int,sv b.text],[iv c.kind,iv c.int,sv c.text]]) (i:=0) (c:=[iv a.kind,iv a.int,sv a.text]) (n:=3) ⟨by decide,rfl,rfl⟩]),(4,[se (xs:=[[iv a.kind,iv a.int,sv a.text],[iv b.kind,iv b.int,sv b.text],[iv c.kind,iv c.int,sv c.text]]) (i:=2) (c:=[iv c.kind,iv c.int,sv c.text]) (n:=3) ⟨by decide,rfl,rfl⟩]),(6,[sc (zfj 6 a c ziV ziV ziV)])] 0 [(0,AV.agg [iv 7,iv op,bv nt,iv val.kind,iv val.int,sv val.text,sv tn,sv nm,AV.sl (zad xs),AV.sl (zag qs)]),(1,AV.sl [[iv a.kind,iv a.int,sv a.text],[iv b.kind,iv b.int,sv b.text],[iv c.kind,iv c.int,sv c.text]]),(2,AV.p 0 0),(4,AV.p 1 0),(5,iv 0),(6,AV.p 2 0),(7,iv (vCmp 6 a c).snd),(8,AV.p 3 0),(9,AV.p 0 0),(10,iv 7),(11,AV.bl false),(12,bv (7==3)),(22,AV.bl false),(23,bv (7==6)),(33,AV.bl false),(34,bv (7==4)),(42,AV.bl true),(43,bv (7==7)),(44,AV.tup [AV.agg [iv (vCmp 6 b a).fst.kind,iv (vCmp 6 b a).fst.int,sv (vCmp 6 b a).fst.text],iv (vCmp 6 b a).snd]),(45,AV.sl [[iv a.kind,iv a.int,sv a.text],[iv b.kind,iv b.int,sv b.text],[iv c.kind,iv c.int,sv c.text]]),(46,AV.dp [iv b.kind,iv b.int,sv b.text]),(47,AV.agg [iv b.kind,iv b.int,sv b.text]),(48,AV.sl [[iv a.kind,iv a.int,sv a.text],[iv b.kind,iv b.int,sv b.text],[iv c.kind,iv c.int,sv c.text]]),(49,AV.dp [iv a.kind,iv a.int,sv a.text]),(50,AV.agg [iv a.kind,iv a.int,sv a.text]),(51,AV.tup [AV.agg [iv (vCmp 6 b a).fst.kind,iv (vCmp 6 b a).fst.int,sv (vCmp 6 b a).fst.text],iv (vCmp 6 b a).snd]),(52,AV.agg [iv (vCmp 6 b a).fst.kind,iv (vCmp 6 b a).fst.int,sv (vCmp 6 b a).fst.text]),(53,iv (vCmp 6 b a).snd),(54,iv (vCmp 6 b a).snd),(55,AV.bl false),(58,AV.tup [AV.agg [iv (vCmp 6 a c).fst.kind,iv (vCmp 6 a c).fst.int,sv (vCmp 6 a c).fst.text],iv (vCmp 6 a c).snd]),(59,AV.sl [[iv a.kind,iv a.int,sv a.text],[iv b.kind,iv b.int,sv b.text],[iv c.kind,iv c.int,sv c.text]]),(60,AV.dp [iv a.kind,iv a.int,sv a.text]),(61,AV.agg [iv a.kind,iv a.int,sv a.text]),(62,AV.sl [[iv a.kind,iv a.int,sv a.text],[iv b.kind,iv b.int,sv b.text],[iv c.kind,iv c.int,sv c.text]]),(63,AV.dp [iv c.kind,iv c.int,sv c.text]),(64,AV.agg [iv c.kind,iv c.int,sv c.text]),(65,AV.tup [AV.agg [iv (vCmp 6 a c).fst.kind,iv (vCmp 6 a c).fst.int,sv (vCmp 6 a c).fst.text],iv (vCmp 6 a c).snd]),(66,AV.agg [iv (vCmp 6 a c).fst.kind,iv (vCmp 6 a c).fst.int,sv (vCmp 6 a c).fst.text]),(67,iv (vCmp 6 a c).snd)] [Blk.box [iv 7,iv op,bv nt,iv val.kind,iv val.int,sv val.text,sv tn,sv nm,AV.sl (zad xs),AV.sl (zag qs)],Blk.box [iv 0,iv 0,sv Zs0],Blk.box [iv (vCmp 6 b a).fst.kind,iv (vCmp 6 b a).fst.int,sv (vCmp 6 b a).fst.text],Blk.box [iv (vCmp 6 a c).fst.kind,iv (vCmp 6 a c).fst.int,sv (vCmp 6 a c).fst.text]]]
  cases h2:(vCmp 6 a c).snd != 0
  ·exact ⟨(r15t (land (vCmp 6 b a).fst (vCmp 6 a c).fst).fst (land (vCmp 6 b a).fst (vCmp 6 a c).fst).snd).fst,(r15t (land (vCmp 6 b a).fst (vCmp 6 a c).fst).fst (land (vCmp 6 b a).fst (vCmp 6 a c).fst).snd).snd,zxe,wk At.AK (p_2++[sb h2,sc (zoM ((vCmp 6 b a).fst) ((vCmp 6 a c).fst) ziV ziV),sc (zeE ((land (vCmp 6 b a).fst (vCmp 6 a c).fst).fst) ((land (vCmp 6 b a).fst (vCmp 6 a c).fst).snd))]) kr⟩
  ·exact ⟨V.mk 0 0 Zs0,(vCmp 6 a c).snd,zxe,wk At.AK (p_2++[sb h2]) kr⟩
 ·exact ⟨V.mk 0 0 Zs0,(vCmp 6 b a).snd,zxe,wk At.AK (p_1++[sb h1]) kr⟩
theorem zk8 (op:Int) (nt:Bool) (a b:V) (val:V) (tn nm:Str) (xs:List X) (qs:List Qy) (ha:a.Good) (hb:b.Good) (ho:1<=op/\op<=13):∃ (r:V) (e:Int),(r,e)=ziP op nt a b/\zaa E0 S.AK [X.av (.mk 5 op nt val tn nm xs qs),vsl [a,b]] [] (.tup [r.av,iv e]) []:=by
 let p_1:List St:=[sb Zf,sb Zf,sb Zf,sb Zf]
 cases h1:op==1
 ·cases h2:op==2
  ·cases h3:decide (op<=8)
   ·exact ⟨(zcu op a b).fst,(zcu op a b).snd,zrL,wk At.AK (p_1++[sb h1,sb h2,sb h3,sd [(3,[se (xs:=[[iv a.kind,iv a.int,sv a.text],[iv b.kind,iv b.int,sv b.text]]) (i:=0) (c:=[iv a.kind,iv a.int,sv a.text]) (n:=3) ⟨by decide,rfl,rfl⟩]),(6,[se (xs:=[[iv a.kind,iv a.int,sv a.text],[iv b.kind,iv b.int,sv b.text]]) (i:=1) (c:=[iv b.kind,iv b.int,sv b.text]) (n:=3) ⟨by decide,rfl,rfl⟩]),(8,[sc (zjT op a b zgt zgt zgt)])]]) kr⟩
   ·exact ⟨(vCmp op a b).fst,(vCmp op a b).snd,zrL,wk At.AK (p_1++[sb h1,sb h2,sb h3,sd [(3,[se (xs:=[[iv a.kind,iv a.int,sv a.text],[iv b.kind,iv b.int,sv b.text]]) (i:=0) (c:=[iv a.kind,iv a.int,sv a.text]) (n:=3) ⟨by decide,rfl,rfl⟩]),(6,[se (xs:=[[iv a.kind,iv a.int,sv a.text],[iv b.kind,iv b.int,sv b.text]]) (i:=1) (c:=[iv b.kind,iv b.int,sv b.text]) (n:=3) ⟨by decide,rfl,rfl⟩]),(8,[sc (zfj op a b zgt zgt zgt)])]]) kr⟩
  ·exact ⟨(r15t (land a b).fst (land a b).snd).fst,(r15t (land a b).fst (land a b).snd).snd,zrL,wk At.AK (p_1++[sb h1,sb h2,sd [(1,[se (xs:=[[iv a.kind,iv a.int,sv a.text],[iv b.kind,iv b.int,sv b.text]]) (i:=0) (c:=[iv a.kind,iv a.int,sv a.text]) (n:=3) ⟨by decide,rfl,rfl⟩]),(4,[se (xs:=[[iv a.kind,iv a.int,sv a.text],[iv b.kind,iv b.int,sv b.text]]) (i:=1) (c:=[iv b.kind,iv b.int,sv b.text]) (n:=3) ⟨by decide,rfl,rfl⟩]),(6,[sc (zoM a b zgt zgt)]),(9,[sc (zeE ((land a b).fst) ((land a b).snd))])]]) kr⟩
 ·exact ⟨(r15t (lor a b).fst (lor a b).snd).fst,(r15t (lor a b).fst (lor a b).snd).snd,zrL,wk At.AK (p_1++[sb h1,sd [(1,[se (xs:=[[iv a.kind,iv a.int,sv a.text],[iv b.kind,iv b.int,sv b.text]]) (i:=0) (c:=[iv a.kind,iv a.int,sv a.text]) (n:=3) ⟨by decide,rfl,rfl⟩]),(4,[se (xs:=[[iv a.kind,iv a.int,sv a.text],[iv b.kind,iv b.int,sv b.text]]) (i:=1) (c:=[iv b.kind,iv b.int,sv b.text]) (n:=3) ⟨by decide,rfl,rfl⟩]),(6,[sc (zyy a b zgt zgt)]),(9,[sc (zeE ((lor a b).fst) ((lor a b).snd))])]]) kr⟩
theorem zxU {e:X} (h:OpKind e) (l:List V) (hl:l.length=e.args.length) (hg:∀ v∈l,v.Good):Pure S.AK [e.av,vsl l] (.tup [(eOp e l).1.av,iv (eOp e l).2]):=by
 obtain ⟨hs,hk⟩:=h.cases
 cases e with
 | mk k o nt val tn nm xs qs =>
  simp only [X.sub_mk,X.kind_mk,X.op_mk,X.args_mk] at hs hk hl
  subst hs
  match l,hl,hg with
  | [],hl,_=>simp at hl;omega
  | [a],hl,hg =>
   have ha:=hg a Zs
   simp only [List.length_cons,List.length_nil] at hl
   have:k=3\/k=4\/k=6:=by omega
   rcases this with rfl|rfl|rfl
   ·obtain ⟨r,c,e,h⟩:=zla o nt a val tn nm xs [] ha
    have e2:(r,c)=eOp (.mk 3 o nt val tn nm xs []) [a]:=e
    rw [← e2];exact h
   ·obtain ⟨r,c,e,h⟩:=zk9 o nt a val tn nm xs [] ha
    have e2:(r,c)=eOp (.mk 4 o nt val tn nm xs []) [a]:=e
    rw [← e2];exact h
   ·obtain ⟨r,c,e,h⟩:=ziy o nt a val tn nm xs []
    have e2:(r,c)=eOp (.mk 6 o nt val tn nm xs []) [a]:=e
    rw [← e2];exact h
  | [a,b],hl,hg =>
   simp only [List.length_cons,List.length_nil] at hl
   obtain ⟨rfl,ho⟩:k=5/\1<=o/\o<=13:=by omega
   obtain ⟨r,c,e,h⟩:=zk8 o nt a b val tn nm xs [] (hg a Zs) (hg b Zs) ho
   have e2:(r,c)=eOp (.mk 5 o nt val tn nm xs []) [a,b]:=e
   rw [← e2];exact h
  | [a,b,c],hl,hg =>
   simp only [List.length_cons,List.length_nil] at hl
   obtain rfl:k=7:=by omega
   obtain ⟨r,x,e,h⟩:=zk7 o nt a b c val tn nm xs [] (hg a Zs) (hg b Zs) (hg c Zs)
   have e2:(r,x)=eOp (.mk 7 o nt val tn nm xs []) [a,b,c]:=e
   rw [← e2];exact h
  | a::b::c::d::r,hl,_=>simp only [List.length_cons] at hl;omega
theorem zy0 {v:Int} (h:-9223372036854775808<=v/\v<=9223372036854775807):sat v=(v,true):=if_pos h
theorem zve {v:Int} (h:¬(-9223372036854775808<=v/\v<=9223372036854775807)):sat v=(0,false):=if_neg h
theorem zvp:∀ (l:List Int),(∀ x∈l,I64 x)->-9223372036854775808 * (l.length:Int)<=l.sum/\l.sum<=9223372036854775807 * (l.length:Int)
 | [],_=>by simp
 | x::r,h=>by
  have h1:=zvp r fun y hy=>h y (by simp [hy])
  have h2:=h x Zs
  simp only [I64] at h2
  simp only [List.sum_cons,List.length_cons]
  omega
theorem ztJ (l0:List Int):∀ (l:List Int) (i:Nat) (hi lo S:Int),hi=(S / 18446744073709551616) % 18446744073709551616->lo=S % 18446744073709551616->W128 (S+l.sum)->(∀ x∈l,I64 x)->sumL l0 l i hi lo=sat (S+l.sum)
 | [],i,hi,lo,S,h1,h2,hw,_=>by
  simp only [sumL,List.sum_nil,Int.add_zero] at hw ⊢
  obtain ⟨w1,w2⟩:=hw
  have hS:S=S / 18446744073709551616 * 18446744073709551616+S % 18446744073709551616:=by omega
  have hL:0<=S % 18446744073709551616/\S % 18446744073709551616 < 18446744073709551616:=by omega
  generalize S / 18446744073709551616=H at h1 hS
  generalize S % 18446744073709551616=L at h2 hS hL
  rw [h1,h2,hS]
  rw [hS] at w1 w2
  simp only [zlS,zfC,IntKind.wrap_i64,Bool.cond_eq_ite,bne_iff_ne,ne_eq]
  by_cases hc:L < 9223372036854775808
  ·have e:(L+9223372036854775808) % 18446744073709551616 - 9223372036854775808=L:=by omega
   have e2:L / 9223372036854775808=0:=by omega
   rw [e,e2]
   by_cases h0:H=0
   ·subst h0
    rw [zy0 ⟨by omega,by omega⟩];simp
   ·rw [zve Zo,if_pos Zo]
  ·have e:(L+9223372036854775808) % 18446744073709551616 - 9223372036854775808=L - 18446744073709551616:=by omega
   have e2:(L - 18446744073709551616) / 9223372036854775808=-1:=by omega
   rw [e,e2]
   by_cases h0:H=-1
   ·subst h0
    rw [zy0 ⟨by omega,by omega⟩,if_neg Zd]
    simp only [Prod.mk.injEq,and_true];omega
   ·rw [zve Zo,if_pos Zo]
 | x::r,i,hi,lo,S,h1,h2,hw,hg=>by
  simp only [sumL,List.sum_cons] at hw ⊢
  have hx:=hg x Zs
  have e:S+(x+r.sum)=S+x+r.sum:=by omega
  rw [e] at hw ⊢
  refine ztJ l0 r _ _ _ (S+x) ?_ ?_ hw fun y hy=>hg y (by simp [hy])
  ·simp only [zcc,zfC,zlS]
   subst h1 h2
   simp only [I64] at hx
   have hq:x / 9223372036854775808=x / 18446744073709551616:=by omega
   have hc:(S % 18446744073709551616+x % 18446744073709551616+0) / 18446744073709551616=(S+x) / 18446744073709551616 - S / 18446744073709551616 - x / 18446744073709551616:=by omega
   rw [hq,hc]
   generalize (S+x) / 18446744073709551616=A
   generalize S / 18446744073709551616=B
   generalize x / 18446744073709551616=C
   omega
  ·simp only [zcc,zfC]
   subst h2
   omega
theorem zxw {l:List Int} (hl:zac l) (hg:∀ x∈l,I64 x):W128 l.sum:=by
 have h:=zvp l hg
 simp only [zac] at hl
 exact ⟨by omega,by omega⟩
theorem zAG {l:List Int} (hl:zac l) (hg:∀ x∈l,I64 x):aSum l=sat l.sum:=by
 have h:=ztJ l l 0 0 0 0 rfl rfl (by rw [Int.zero_add];exact zxw hl hg) hg
 rw [Int.zero_add] at h
 exact h
theorem sum_t {l:List Int} (i:Nat) (hl:zac l) (hg:∀ x∈l,I64 x):W128 (l.take i).sum :=
 zxw (by simp only [zac,List.length_take] at *;omega) fun x hx=>hg x (List.mem_of_mem_take hx)
theorem sum_p {l:List Int} {i:Nat} {hh ll x:Int} (hl:zac l) (hg:∀ x∈l,I64 x) (h:hh=(l.take i).sum / 18446744073709551616/\ll=(l.take i).sum % 18446744073709551616) (hx:l[i]?=some x):zaa E0 S.C9 [.agg [iv hh,uv ll],wv x] [] (wv (l.take (i+1)).sum) []:=by
 have h1:=sum_t i hl hg
 have h2:=sum_t (i+1) hl hg
 have hgx:=hg x (List.mem_of_getElem? hx)
 have e:(l.take (i+1)).sum=(l.take i).sum+x:=by rw [List.take_add_one,hx];simp
 rw [e] at h2 ⊢
 rw [h.1,h.2]
 exact zgp _ _ h2 h1 (by simp only [I64] at hgx;exact ⟨by omega,by omega⟩)
noncomputable def zrn (l:List Int) (i:Nat) (hh ll:Int):Cfg:=zaj B.CA 0 [(4,.p 0 0),(7,isl l),(8,iv ((l.map zbw).length:Nat)),(9,iv (i:Nat))] [.box [iv hh,uv ll]]
theorem zlb (l:List Int) (hl:zac l) (hg:∀ x∈l,I64 x) (i:Nat) (hh ll:Int) (hi:i<=(l).length) (hI:(hh=(l.take i).sum / 18446744073709551616/\ll=(l.take i).sum % 18446744073709551616)):∃ (hh' ll':Int),((hh'=(l.take (l).length).sum / 18446744073709551616/\ll'=(l.take (l).length).sum % 18446744073709551616))/\(decide ((((l).length:Nat):Int) < (((l.map zbw).length:Nat):Int))=false)/\∀ R,Good E0 B.CA [] (zrn l (l).length hh' ll') R->Good E0 B.CA [] (zrn l i hh ll) R:=by
 have hk:=hi;revert i hh ll;refine zlp ((l).length) (fun i hlt ih hh ll hi hI _=>?_)
 obtain ⟨x,hx,h0,hw⟩:=zlq (l:=l) ((l.map zbw).length) hlt
 have hgx:=hg x (List.mem_of_getElem? hx);have hpx:=sum_p hl hg hI hx
 obtain ⟨hhZ,llZ,qZ,xZ,gZ⟩:=ih ((List.take (i+1) l).sum / 18446744073709551616) ((List.take (i+1) l).sum % 18446744073709551616) Zo Zj Zo;exact ⟨hhZ,llZ,qZ,xZ,fun R hg=>zab (wkl [sb h0,se (zaf (fun n=>[iv n]) hx rfl),sd [(2,[sc (zgL x (by first|assumption|omega|(simp;done)|(simp;omega)))]),(3,[sc hpx])],si hw] [4,7,8,9] 1 kr (gZ R hg))⟩
theorem zlA (l:List Int) (hl:zac l) (hg:∀ x∈l,I64 x):∃ (s:Int),(s=l.sum/\W128 s)/\decide (((l.length:Nat):Int) < (((l.map zbw).length:Nat):Int))=false/\∀ R,Good E0 B.CA [] (zrn l l.length (s / 18446744073709551616) (s % 18446744073709551616)) R->Good E0 B.CA [] (zrn l 0 0 0) R:=by
 obtain ⟨hh,ll,⟨h1,h2⟩,h3,h4⟩:=zlb l hl hg 0 0 0 Zo ⟨rfl,rfl⟩
 rw [List.take_length] at h1 h2
 exact ⟨l.sum,⟨rfl,zxw hl hg⟩,h3,by rw [← h1,← h2];exact h4⟩
theorem zwj (l:List Int) (hl:zac l) (hg:∀ x∈l,I64 x):∃ (n:Int) (ok:Bool),(n,ok)=sat l.sum/\zaa E0 S.CA [isl l] [] (.tup [iv n,bv ok]) []:=by
 obtain ⟨s1,q1,q1_1,g1⟩:=zlA l (by first|assumption|rfl|exact (‹_/\W128 _›).2|omega) (by first|assumption|rfl|exact (‹_/\W128 _›).2|omega)
 exact ⟨(sat s1).fst,(sat s1).snd,(by (have q:=(‹_=List.sum _/\W128 _›).1;rw [← q])),wkc At.CA [] [4,7,8,9] 1 kr (g1 _ (zab (wkr [sb q1_1,sc (zcp s1 (by first|assumption|rfl|exact (‹_/\W128 _›).2|omega))] kr)))⟩
theorem zwW (l:List Int) (hl:zac l) (hg:∀ x∈l,I64 x):zaa E0 S.CA [isl l] [] (.tup [iv (aSum l).1,bv (aSum l).2]) []:=by
 obtain ⟨n,ok,e,h⟩:=zwj l hl hg
 rw [zAG hl hg,← e];exact h
noncomputable def L_fs1 (its:List V) (i:Nat) (l:List Int):Cfg:=zaj B.Bq 0 [(4,.p 0 0),(6,.own 1 l.length),(21,vsl its),(22,iv ((its.map V.cells).length:Nat)),(23,iv (i:Nat))] [.box [iv 0,iv 0,sv ⟨#[]⟩],.row Ty.int64 (l.map fun n=>[iv n]) false]
theorem zjx (its:List V) (hl:zac its) (i:Nat) (l:List Int) (hi:i<=(its).length) (hI:l=(its.take i).map V.int):∃ (l':List Int),(l'=(its.take (its).length).map V.int)/\(decide ((((its).length:Nat):Int) < (((its.map V.cells).length:Nat):Int))=false)/\∀ R,Good E0 B.Bq [] (L_fs1 its (its).length l') R->Good E0 B.Bq [] (L_fs1 its i l) R:=by
 have hk:=hi;revert i l;refine zlp ((its).length) (fun i hlt ih l hi hI _=>?_)
 obtain ⟨x,hx,h0,hw⟩:=zlq (l:=its) ((its.map V.cells).length) hlt
 have ho:l.length<=1000000000:=(by rw [hI,List.length_map,List.length_take];simp only [zac] at hl;omega)
 exact Zih (ih (l++[x.int]) Zo (by (rw [List.take_add_one,hx,List.map_append,hI];rfl)) Zo) fun R gY=>zab (wkl [sb h0,se (zaf V.cells hx rfl),sqA (List.map (fun n=>[iv n]) l) [[iv x.int]] l.length 1 8,si hw] [4,6,21,22,23] 2 kr (zao 6 1 (List.map (fun n=>[iv n]) l++[[iv x.int]]) gY (he:=Zcv4) (hm:=Zcv4)))
def zcY (k:Int):List V->V->V
 | [],m=>m
 | x::r,m=>zcY k r (bif (k==11&&decide (cmpV x m < 0)) || (k==12&&decide (0 < cmpV x m)) then x else m)
noncomputable def L_fs2 (k:Int) (its:List V) (i:Nat) (m:V):Cfg:=zaj B.Bq 1 [(0,iv k),(4,.p 0 0),(11,.p 1 0),(46,vsl its),(47,iv ((its.map V.cells).length:Nat)),(48,iv (i:Nat))] [.box [iv 0,iv 0,sv ⟨#[]⟩],.box m.cells]
theorem zjy (k:Int) (its:List V) (hl:zac its) (i:Nat) (m:V) (hi:i<=(its).length) (hI:zcY k its (its.headD V.null)=zcY k (its.drop i) m):∃ (m':V),(zcY k its (its.headD V.null)=zcY k (its.drop (its).length) m')/\(decide ((((its).length:Nat):Int) < (((its.map V.cells).length:Nat):Int))=false)/\∀ R,Good E0 B.Bq [] (L_fs2 k its (its).length m') R->Good E0 B.Bq [] (L_fs2 k its i m) R:=by
 have hk:=hi;revert i m;refine zlp ((its).length) (fun i hlt ih m hi hI _=>?_)
 obtain ⟨x,hx,h0,hw⟩:=zlq (l:=its) ((its.map V.cells).length) hlt
 let p_1:List St:=[sb h0,se (zaf V.cells hx rfl),sc (zjU x m)]
 cases h1:k==11
 ·cases h2:k==12
  ·exact Zih (ih m Zo zkS Zo) fun R gY=>zab (wkl (p_1++[sb h1,sb h2,si hw]) [0,4,11,46,47,48] 2 kr gY)
  ·cases h3:decide (0 < rCmp x m)
   ·exact Zih (ih m Zo zkS Zo) fun R gY=>zab (wkl (p_1++[sb h1,sg h2,sb h3,si hw]) [0,4,11,46,47,48] 2 kr gY)
   ·exact Zih (ih x Zo zkS Zo) fun R gY=>zab (wkl (p_1++[sb h1,sg h2,sb h3,si hw]) [0,4,11,46,47,48] 2 kr gY)
 ·cases h4:decide (rCmp x m < 0)
  ·cases h5:k==12
   ·exact Zih (ih m Zo zkS Zo) fun R gY=>zab (wkl (p_1++[sg h1,sg h4,sb h5,si hw]) [0,4,11,46,47,48] 2 kr gY)
   ·cases h6:decide (0 < rCmp x m)
    ·exact Zih (ih m Zo zkS Zo) fun R gY=>zab (wkl (p_1++[sg h1,sg h4,sg h5,sb h6,si hw]) [0,4,11,46,47,48] 2 kr gY)
    ·exact Zih (ih x Zo zkS Zo) fun R gY=>zab (wkl (p_1++[sg h1,sg h4,sg h5,sb h6,si hw]) [0,4,11,46,47,48] 2 kr gY)
  ·exact Zih (ih x Zo zkS Zo) fun R gY=>zab (wkl (p_1++[sg h1,sb h4,si hw]) [0,4,11,46,47,48] 2 kr gY)
theorem zx5 (a:V):cmpV a a=0:=by
 have h1:∀ n:Int,cmpI n n=0:=fun n=>by simp [cmpI]
 have h2:cmpS a.text a.text=0:=by
  have h:=(zuU).zero a.text a.text
  rw [← h.2 rfl]
  exact (zqd _ _).symm
 simp [cmpV,orI,h1,h2]
theorem zpD (l0:List V):∀ (l:List V) (i:Nat) (m:V),zcY 11 l m=minL l0 l i m
 | [],_,_=>rfl
 | x::r,i,m=>by
  show zcY 11 r (bif ((11:Int)==11&&decide (cmpV x m < 0)) || ((11:Int)==12&&decide (0 < cmpV x m)) then x else m)=bif decide (cmpV x m < 0) then minL l0 r (i+1) x else minL l0 r (i+1) m
  cases decide (cmpV x m < 0)
  ·exact zpD l0 r (i+1) m
  ·exact zpD l0 r (i+1) x
theorem zpC (l0:List V):∀ (l:List V) (i:Nat) (m:V),zcY 12 l m=maxL l0 l i m
 | [],_,_=>rfl
 | x::r,i,m=>by
  show zcY 12 r (bif ((12:Int)==11&&decide (cmpV x m < 0)) || ((12:Int)==12&&decide (0 < cmpV x m)) then x else m)=bif decide (0 < cmpV x m) then maxL l0 r (i+1) x else maxL l0 r (i+1) m
  cases decide (0 < cmpV x m)
  ·exact zpC l0 r (i+1) m
  ·exact zpC l0 r (i+1) x
theorem zxQ (k:Int) (x:V) (r:List V):zcY k (x::r) x=zcY k r x:=by
 simp only [zcY,zx5]
 cases k==11 <;> cases k==12 <;> rfl
def zdo (k:Int) (its:List V):V × Int:=bif ((its.length:Nat):Int)==0 then (V.null,0) else bif k==10 then eSum its else bif k==11 then (minV its,0) else (maxV its,0)
theorem fs2_0 (k:Int) (its:List V):zcY k its (its.headD V.null)=zcY k (its.drop 0) (zaz its 0):=by
 cases its <;> rfl
theorem zBl {its:List V} (h:(((its.map V.cells).length:Int)==0)=false):0 < (its.length:Int):=by
 cases its with
 | nil=>simp at h
 | cons x r=>simp only [List.length_cons];omega
theorem fs_sh {its:List V} {l:List Int} (h:l=(its.take its.length).map V.int) (hl:zac its):zac l:=by
 rw [h,List.take_length];simpa [zac] using hl
theorem fs_i {its:List V} {l:List Int} (h:l=(its.take its.length).map V.int) (hg:∀ x∈its.map V.int,I64 x):∀ x∈l,I64 x:=by
 rw [h,List.take_length];exact hg
theorem fq0 {k:Int} {its:List V} (h:(((its.map V.cells).length:Int)==0)=true):(V.mk 0 0 Zs0,0)=zdo k its:=by
 unfold zdo;rw [List.length_map] at h;rw [h];rfl
theorem fld0 {k:Int} {its:List V} (h:(((its.map V.cells).length:Int)==0)=false):zdo k its=bif k==10 then eSum its else bif k==11 then (minV its,0) else (maxV its,0):=by
 unfold zdo;rw [List.length_map] at h;rw [h];rfl
theorem fq1 {k:Int} {its:List V} {l:List Int} (h:(((its.map V.cells).length:Int)==0)=false) (h2:(k==10)=true) (hI:l=(its.take its.length).map V.int) (h5:(!(aSum l).snd)=false):(zb7 (aSum l).fst,0)=zdo k its:=by
 rw [List.take_length] at hI
 rw [fld0 h,h2,zpM,← hI,h5];rfl
theorem fq2 {k:Int} {its:List V} {l:List Int} (h:(((its.map V.cells).length:Int)==0)=false) (h2:(k==10)=true) (hI:l=(its.take its.length).map V.int) (h5:(!(aSum l).snd)=true):(V.mk 0 0 Zs0,6)=zdo k its:=by
 rw [List.take_length] at hI
 rw [fld0 h,h2,zpM,← hI,h5];rfl
theorem fq3 {k:Int} {its:List V} {m:V} (hk:k=10\/k=11\/k=12) (h:(((its.map V.cells).length:Int)==0)=false) (h2:(k==10)=false) (hI:zcY k its (its.headD V.null)=zcY k (its.drop its.length) m):(m,0)=zdo k its:=by
 rw [List.drop_length] at hI
 rw [fld0 h,h2]
 have hm:m=zcY k its (its.headD V.null):=hI.symm
 cases its with
 | nil=>simp at h
 | cons x r =>
  rw [show (x::r).headD V.null=x from rfl,zxQ] at hm
  rw [hm]
  rcases hk with rfl|rfl|rfl
  ·cases h2
  ·rw [zpD (x::r) r 1 x];rfl
  ·rw [zpC (x::r) r 1 x];rfl
theorem zsf (k:Int) (its:List V) (hl:zac its) (hg:∀ x∈its,x.Good) (hk:k=10\/k=11\/k=12) (hgi:∀ x∈its.map V.int,I64 x):∃ (r:V) (e:Int),(r,e)=zdo k its/\zaa E0 S.Bq [iv k,vsl its] [] (.tup [r.av,iv e]) []:=by
 cases h1:(↑(List.map V.cells its).length:Int)==0
 ·cases h2:k==10
  ·obtain ⟨m3,q3,q3_1,g3⟩:=zjy k its zgs 0 (zaz its 0) zgs zgs
   exact ⟨m3,0,zrK,wkc At.Bq [sb h1,sb h2,se (zeo its 0 zgs zgs)] [0,4,11,46,47,48] 2 kr (g3 _ (zab (wkr [sb q3_1] kr)))⟩
  ·obtain ⟨l4,q4,q4_1,g4⟩:=zjx its zgs 0 ([]) zgs zgs
   let p_1:List St:=[sb q4_1,skx (l4.length=(List.map (fun n=>[iv n]) l4).length/\True) [] (zwW l4 zgs zgs)]
   cases h5:!(aSum l4).snd
   ·exact ⟨zb7 (aSum l4).fst,0,zrK,wkcN At.Bq [sb h1,sb h2] [4,6,21,22,23] 1 [(.ot 6 Ty.int64,2)] kr (g4 _ (zab (wkr (p_1++[sb h5,sc (zbZ ((aSum l4).fst))]) kr)))⟩
   ·exact ⟨V.mk 0 0 Zs0,6,zrK,wkcN At.Bq [sb h1,sb h2] [4,6,21,22,23] 1 [(.ot 6 Ty.int64,2)] kr (g4 _ (zab (wkr (p_1++[sb h5]) kr)))⟩
 ·exact ⟨V.mk 0 0 Zs0,0,zrK,wk At.Bq [sb h1] kr⟩
theorem zs1 (k:Int) (its:List V) (hl:zac its) (hg:∀ x∈its,x.Good) (hk:k=10\/k=11\/k=12):zaa E0 S.Bq [iv k,vsl its] [] (.tup [(zdo k its).1.av,iv (zdo k its).2]) []:=by
 obtain ⟨r,c,e,h⟩:=zsf k its hl hg hk fun x hx=>by
  obtain ⟨v,hv,rfl⟩:=List.mem_map.1 hx
  exact (hg v hv).i64
 rw [← e];exact h
theorem zdJ {p:Prop} (h:p:=by first|assumption|exact hfo.short|exact hfo.cols|exact hfo.wrap|exact zBD ‹_›|exact zyU ‹_›|exact zr2 ‹_›|exact opK hs ‹_› ‹_› ‹_›|exact evI0|exact EvI.len ‹_›|exact EvI.good ‹_›|omega):p:=h
theorem zkT {p:Prop} (h:p:=by (unfold val0;simp only [*,cond_true,cond_false];first|done|rfl|exact (EvI.fin ‹_›).symm)):p:=h
theorem zia (e:X):zcQ e=zcd e:=by
 cases h:zcd e
 ·cases h2:zcQ e
  ·rfl
  ·rw [ztC h2] at h;cases h
 ·obtain ⟨k,op,nt,val,tn,nm,xs,qs⟩:=e
  cases qs with
  | nil =>
   have hc:=zdv (show zeV k op xs=true from h)
   show zfB k op xs=true
   rcases hc with ⟨hk|hk,h1⟩|⟨hk|hk|hk,h1⟩|⟨hk,h1,h2,h3⟩|⟨hk,h1⟩ <;> subst hk <;> simp [zfB,h1] <;> omega
  | cons q r =>
   obtain ⟨st,it,fm,wh⟩:=q
   obtain ⟨h1,h2,h3,h4⟩:=zeC Zs (show zeW k op xs (Qy.mk st it fm wh::r) it wh=true from h)
   show zd3 k op xs (Qy.mk st it fm wh::r) st it wh=true
   have h2':r=[]:=by cases r <;> simp_all
   subst h2'
   rcases h4 with ⟨hk|hk,h5⟩|⟨hk|hk|hk,h5⟩ <;> subst hk <;> simp [zd3,h1,h5] <;> omega
def zbg (tb:List Tb) (n:Str):List Rw:=match zaK tb n with|some t=>t.rows|none=>[]
theorem zw8 {tb:List Tb} {n:Str} {i:Nat} {x:Tb} {z:List Rw} (h:z=zbg (tb.drop i) n) (hx:tb[i]?=some x) (hn:(x.sch.name.toList==n.toList)=false):z=zbg (tb.drop (i+1)) n:=by
 rw [h,zap hx];unfold zbg zaK;rw [List.find?_cons]
 have:zaw x n=false:=hn
 rw [this]
theorem zyX {tb:List Tb} {n:Str} {i:Nat} {x:Tb} {z:List Rw} (h:z=zbg (tb.drop i) n) (hx:tb[i]?=some x) (hn:(x.sch.name.toList==n.toList)=true):x.rows=z:=by
 rw [h,zap hx];unfold zbg zaK;rw [List.find?_cons]
 have:zaw x n=true:=hn
 rw [this]
noncomputable def zvT (tb:List Tb) (n:Str) (i:Nat) :Cfg:=zaj B.Ca 0 [(1,sv n),(8,tsl tb),(9,iv ((tb.map Tb.cells).length:Nat)),(10,iv (i:Nat))] []
theorem zjz (tb:List Tb) (n:Str) (hl:zac tb) (i:Nat)  (hi:i<=(tb).length) (hI:zbg tb n=zbg (tb.drop i) n):((zbg tb n=zbg (tb.drop (tb).length) n)/\(decide ((((tb).length:Nat):Int) < (((tb.map Tb.cells).length:Nat):Int))=false)/\∀ R,Good E0 B.Ca [] (zvT tb n (tb).length ) R->Good E0 B.Ca [] (zvT tb n i ) R)\/(∃ (r:List Rw) (b:Bool),r=zbg tb n/\Good E0 B.Ca [] (zvT tb n i ) (Shut 0 fun rZ hZ=>rZ=(.tup [.sl (r.map Rw.cells),bv b])/\hZ=[])):=by
 have hk:=hi;revert i;refine zlp ((tb).length) (fun i hlt ih hi hI _=>?_)
 obtain ⟨x,hx,h0,hw⟩:=zlq (l:=tb) ((tb.map Tb.cells).length) hlt
 let p_1:List St:=[sb h0,se (zaf Tb.cells hx rfl)]
 cases h1:ByteArray.toList x.sch.name==ByteArray.toList n
 ·exact (ih Zo (by exact zw8 hI hx ‹_›) Zo).elim (fun ⟨qZ,xZ,gZ⟩=>.inl ⟨qZ,xZ,fun R hg=>zab (wkl (p_1++[sb h1,si hw]) [1,8,9,10] 0 kr (gZ R hg))⟩) (fun ⟨rY,bY,pZ,gZ⟩=>.inr ⟨rY,bY,pZ,zab (wkl [sb h0,se (zaf Tb.cells hx rfl),sb h1,si hw] [1,8,9,10] 0 kr gZ)⟩)
 ·exact .inr ⟨x.rows,true,(by exact zyX hI hx ‹_›),zab (wkr (p_1++[sb h1]) kr)⟩
theorem zsg (tb:List Tb) (n:Str) (hl:zac tb):∃ (r:List Rw) (b:Bool),r=zbg tb n/\zaa E0 S.Ca [tsl tb,sv n] [] (.tup [.sl (r.map Rw.cells),bv b]) []:=by
 rcases zjz tb n Za 0 Za Za with ⟨q1,q1_1,g1⟩|⟨r1_0,r1_1,p1_0,g1⟩
 ·exact ⟨[],false,(by first|assumption|(rw [‹zbg _ _=zbg _ _›,List.drop_length];rfl)),wkc At.Ca [] [1,8,9,10] 0 kr (g1 _ (zab (wkr [sb q1_1] kr)))⟩
 ·exact ⟨r1_0,r1_1,(by first|assumption|(rw [‹zbg _ _=zbg _ _›,List.drop_length];rfl)),wkc At.Ca [] [1,8,9,10] 0 kr (g1)⟩
theorem zmH (tb:List Tb) (n:Str) (hl:zac tb):∃ (b:Bool),zaa E0 S.Ca [tsl tb,sv n] [] (.tup [.sl ((zbg tb n).map Rw.cells),bv b]) []:=by
 obtain ⟨_,b,rfl,h⟩:=zsg tb n hl
 exact ⟨b,h⟩
theorem zzJ {f:X->V × Int} {op:List V->V × Int} {e:X} {frs:List Fr} {tb:List Tb} {l:List X} {i:Nat} {out:List V} {x:X} {z:V × Int} (h:z=evL f op e frs tb (l.drop i) i out) (hx:l[i]?=some x) (h1:((f x).2 != 0)=false):z=evL f op e frs tb (l.drop (i+1)) (i+1) (out++[(f x).1]):=by
 rw [h,zap hx];simp only [evL,h1,cond_false]
theorem zA2 {f:X->V × Int} {op:List V->V × Int} {e:X} {frs:List Fr} {tb:List Tb} {l:List X} {i:Nat} {out:List V} {x:X} {z:V × Int} (h:z=evL f op e frs tb (l.drop i) i out) (hx:l[i]?=some x) (h1:((f x).2 != 0)=true):(V.mk 0 0 Zs0,(f x).2)=z:=by
 rw [h,zap hx];simp only [evL,h1,cond_true]
structure EvI (f:X->V × Int) (op:List V->V × Int) (e:X) (frs:List Fr) (tb:List Tb) (i:Nat) (out:List V):Prop where
 eq:evL f op e frs tb e.args 0 []=evL f op e frs tb (e.args.drop i) i out
 len:out.length=i
 good:∀ v∈out,v.Good
theorem EvI.step {f:X->V × Int} {op:List V->V × Int} {e:X} {frs:List Fr} {tb:List Tb} {i:Nat} {out:List V} {x:X} (h:EvI f op e frs tb i out) (hx:e.args[i]?=some x) (h1:((f x).2 != 0)=false) (hg:(f x).1.Good):EvI f op e frs tb (i+1) (out++[(f x).1]) :=
 ⟨zzJ h.eq hx h1,by simp [h.len],fun v hv=>(List.mem_append.1 hv).elim (h.good v) fun h=>by simp only [List.mem_singleton] at h;exact h ▸ hg⟩
noncomputable def zvV (f:X->V × Int) (e:X) (frs:List Fr) (tb:List Tb) (i:Nat) (out:List V):Cfg:=zaj B.An 0 [(1,fsl frs),(2,tsl tb),(3,.p 0 0),(6,.p 1 0),(11,.own 2 out.length),(69,xsl e.args),(70,iv ((zad e.args).length:Nat)),(71,iv (i:Nat))] [.box e.cells,.box [iv 0,iv 0,sv ⟨#[]⟩],.row Ty.Value (out.map V.cells) false]
theorem Zcv10 {p:Prop} (h:p:=by first|rfl|(simp;done)|(simp [X.cells,Qy.cells,V.cells,Col.cells,Rw.cells,Tb.cells,Fr.cells,Sch.cells,Tp.cells,Pl.cells,xCol,xLit,xBin,xNeg,Rw.cells,zbw];done)):p:=h
theorem zix (f:X->V × Int) (e:X) (frs:List Fr) (tb:List Tb) (hl:Few e.args) (hf:∀ x∈e.args,Pure S.An [x.av,fsl frs,tsl tb] (.tup [(f x).1.av,iv (f x).2])) (hfg:∀ x∈e.args,(f x).1.Good) (i:Nat) (out:List V) (hi:i<=(e.args).length) (hI:EvI f (eOp e) e frs tb i out):(∃ (out':List V),(EvI f (eOp e) e frs tb (e.args).length out')/\(decide ((((e.args).length:Nat):Int) < (((zad e.args).length:Nat):Int))=false)/\∀ R,Good E0 B.An [] (zvV f e frs tb (e.args).length out') R->Good E0 B.An [] (zvV f e frs tb i out) R)\/(∃ (r:V) (c:Int),(r,c)=evL f (eOp e) e frs tb e.args 0 []/\Good E0 B.An [] (zvV f e frs tb i out) (Shut 0 fun rZ hZ=>rZ=(.tup [V.av r,iv c])/\hZ=[])):=by
 have hk:=hi;revert i out;refine zlp ((e.args).length) (fun i hlt ih out hi hI _=>?_)
 obtain ⟨x,hx,h0,hw⟩:=zlq (l:=e.args) ((zad e.args).length) hlt
 have hfx:=hf x (List.mem_of_getElem? hx);have hgx:=hfg x (List.mem_of_getElem? hx);have hlen:out.length<=1000:=(by have:=zbY hx;have:=hI.len;simp only [Few] at hl;omega)
 cases h1:(f x).snd != 0
 ·exact (ih (out++[(f x).fst]) Zo (by exact hI.step hx ‹_› hgx) Zo).elim (fun ⟨outZ,qZ,xZ,gZ⟩=>.inl ⟨outZ,qZ,xZ,fun R hg=>zab (wkl [sb h0,se (zbr hx),sc hfx,sb h1,sqA (List.map V.cells out) [[iv (f x).fst.kind,iv (f x).fst.int,sv (f x).fst.text]] out.length 3 32,si hw] [1,2,3,6,11,69,70,71] 3 kr (zao 11 2 (List.map V.cells out++[[iv (f x).fst.kind,iv (f x).fst.int,sv (f x).fst.text]]) (gZ R hg) (he:=Zcv10) (hm:=Zcv10)))⟩) (fun ⟨rY,cY,pZ,gZ⟩=>.inr ⟨rY,cY,pZ,zab (wkl [sb h0,se (zbr hx),sc hfx,sb h1,sqA (List.map V.cells out) [[iv (f x).fst.kind,iv (f x).fst.int,sv (f x).fst.text]] out.length 3 32,si hw] [1,2,3,6,11,69,70,71] 3 kr (zao 11 2 (List.map V.cells out++[[iv (f x).fst.kind,iv (f x).fst.int,sv (f x).fst.text]]) gZ (he:=Zcv10) (hm:=Zcv10)))⟩)
 ·exact .inr ⟨V.mk 0 0 Zs0,(f x).snd,(by exact zA2 hI.eq hx ‹_›),zab (wkr [sb h0,se (zbr hx),sc hfx,sb h1] kr)⟩
theorem zyU {frs:List Fr} {q n:Str} (h:(!(zaM frs q n).2.2)=false):(zaM frs q n).2.2=true:=by simpa using h
theorem zBD {frs:List Fr} {q n:Str} (h:(!(zaM frs q n).2.2)=false):decide ((zaM frs q n).2.1 < 0)=false:=by
 obtain ⟨i,j,e,_⟩:=zjm (zyU h)
 rw [e];simp
def val0 (f:X->V × Int) (op:List V->V × Int) (e:X) (frs:List Fr) (tb:List Tb):V × Int :=
 bif !zcQ e then (V.null,17)
 else bif e.kind==1 then (e.val,0)
 else bif e.kind==2 then
  (bif !(zaM frs e.table e.name).2.2 then (V.null,3)
  else bif decide ((((rFr frs e.table e.name).vals.map V.cells).length:Int)<=(zaM frs e.table e.name).2.1) then (V.null,17)
  else (zaz (rFr frs e.table e.name).vals (zaM frs e.table e.name).2.1,0))
 else evL f op e frs tb e.args 0 []
theorem opK {e:X} (hn:e.sub=[]) (h:(!zcQ e)=false) (h1:(e.kind==1)=false) (h2:(e.kind==2)=false):OpKind e:=by
 have hf:zcd e=true:=by rw [← zia];simpa using h
 refine ⟨hf,by simpa using h1,by simpa using h2,fun h8=>?_⟩
 unfold zcd at hf
 rw [hn] at hf
 have:=zdv hf
 omega
theorem EvI.fin {f:X->V × Int} {op:List V->V × Int} {e:X} {frs:List Fr} {tb:List Tb} {out:List V} (h:EvI f op e frs tb e.args.length out):evL f op e frs tb e.args 0 []=op out:=by
 rw [h.eq,List.drop_length];rfl
theorem evI0 {f:X->V × Int} {op:List V->V × Int} {e:X} {frs:List Fr} {tb:List Tb}:EvI f op e frs tb 0 []:=⟨rfl,rfl,fun v hv=>by cases hv⟩
theorem zn5 (f:X->V × Int) (e:X) (frs:List Fr) (tb:List Tb) (n:Nat) (hfo:FsOk n frs) (hs:e.sub=[]) (hn:decide ((0:Int) < (((zag e.sub).length:Nat):Int))=false) (hl:Few e.args) (hf:∀ x∈e.args,Pure S.An [x.av,fsl frs,tsl tb] (.tup [(f x).1.av,iv (f x).2])) (hfg:∀ x∈e.args,(f x).1.Good) (hop:OpKind e->∀ l:List V,l.length=e.args.length->(∀ v∈l,v.Good)->Pure S.AK [e.av,vsl l] (.tup [(eOp e l).1.av,iv (eOp e l).2])):∃ (r:V) (c:Int),(r,c)=val0 f (eOp e) e frs tb/\zaa E0 S.An [e.av,fsl frs,tsl tb] [] (.tup [r.av,iv c]) []:=by
 cases h1:!zcQ e
 ·cases h2:e.kind==1
  ·let p_1:List St:=[sc (zc1 e),sb h1,sb h2]
   cases h3:e.kind==2
   ·rcases zix f e frs tb zdJ hf zdJ 0 ([]) zdJ zdJ with ⟨out4,q4,q4_1,g4⟩|⟨r4_0,r4_1,p4_0,g4⟩
    ·exact ⟨(eOp e out4).fst,(eOp e out4).snd,zkT,wkcN At.An (p_1++[sb h3,sb hn]) [1,2,3,6,11,69,70,71] 2 [(.ot 11 Ty.Value,3)] kr (g4 _ (zab (wkr [sb q4_1,skx ((True/\True/\True/\True/\True/\True/\True/\True/\True/\True/\True)/\out4.length=(List.map V.cells out4).length/\True) [] (hop zdJ out4 zdJ zdJ)] kr)))⟩
    ·exact ⟨r4_0,r4_1,zkT,wkcN At.An (p_1++[sb h3,sb hn]) [1,2,3,6,11,69,70,71] 2 [(.ot 11 Ty.Value,3)] kr (g4)⟩
   ·let p_2:List St:=p_1++[sb h3,sc (zoL frs e.table e.name zdJ zdJ zdJ)]
    cases h5:!(zaM frs e.table e.name).snd.snd
    ·let p_3:List St:=p_2++[sb h5,se (zsx frs e.table e.name zdJ)]
     cases h6:decide ((↑(List.map V.cells (rFr frs e.table e.name).vals).length:Int)<=(zaM frs e.table e.name).snd.fst)
     ·exact ⟨zaz (rFr frs e.table e.name).vals (zaM frs e.table e.name).snd.fst,0,zkT,wk At.An (p_3++[sb h6,se (zsx frs e.table e.name zdJ),se (zeo ((rFr frs e.table e.name).vals) ((zaM frs e.table e.name).snd.fst) zdJ zdJ)]) kr⟩
     ·exact ⟨V.mk 0 0 Zs0,17,zkT,wk At.An (p_3++[sb h6]) kr⟩
    ·exact ⟨V.mk 0 0 Zs0,3,zkT,wk At.An (p_2++[sb h5]) kr⟩
  ·exact ⟨e.val,0,zkT,wk At.An [sc (zc1 e),sb h1,sb h2] kr⟩
 ·exact ⟨V.mk 0 0 Zs0,17,zkT,wk At.An [sc (zc1 e),sb h1] kr⟩
theorem zn6 (agg:V × Int) (e:X) (frs:List Fr) (tb:List Tb) (hk1:(!zcQ e)=false->(e.kind==1)=false) (hk2:(!zcQ e)=false->(e.kind==2)=false) (hn:decide ((0:Int) < (((zag e.sub).length:Nat):Int))=true) (hagg:(!zcQ e)=false->Pure S.AC [e.av,fsl frs,tsl tb] (.tup [agg.1.av,iv agg.2])):∃ (r:V) (c:Int),((r,c)=bif !zcQ e then (V.null,17) else agg)/\zaa E0 S.An [e.av,fsl frs,tsl tb] [] (.tup [r.av,iv c]) []:=by
 cases h1:!zcQ e
 ·exact ⟨agg.fst,agg.snd,(by (simp only [*,cond_true,cond_false];first|done|rfl)),wk At.An [sc (zc1 e),sb h1,sb (hk1 h1),sb (hk2 h1),sb hn,sc (hagg (by first|assumption|(simp_all;done)))] kr⟩
 ·exact ⟨V.mk 0 0 Zs0,17,(by (simp only [*,cond_true,cond_false];first|done|rfl)),wk At.An [sc (zc1 e),sb h1] kr⟩
theorem zfy {p:Prop} (h:p:=by first|assumption|exact se0|exact se_sh ‹_› hrw|exact se_g ‹_› hgd|exact k1012 hk ‹_› ‹_›|omega):p:=h
theorem zpc {p:Prop} (h:p:=by first|exact av0 ‹_›|exact avb ‹_› ‹_›|exact av8 ‹_› ‹_› ‹_›|exact av9 ‹_› ‹_› ‹_› ‹_›|exact avf ‹_› ‹_› ‹_› ‹_›):p:=h
theorem zrM {p:Prop} (h:p:=by first|exact hI.skip hx ‹_› ‹_›|exact hI.push hx ‹_› ‹_› (.inl ‹_›)|exact hI.push hx ‹_› ‹_› (.inr ‹_›)):p:=h
theorem zxg {p:Prop} (h:p:=by first|(have e0:(f x).2=0:=(by simpa using ‹((f x).snd != 0)=false›);unfold zhO;rw [e0];simp only [*,cond_true,cond_false];rfl)|(have e0:((f x).2==0)=false:=(by simpa using ‹((f x).snd != 0)=true›);unfold zhO;rw [e0];rfl)):p:=h
theorem znc {p:Prop} (h:p:=by first|assumption|exact ri0|omega):p:=h
abbrev NulC (r:V) (c z:Int):Prop:=r=V.null/\c≠0/\z=c
structure RiI (f:X->V × Int) (k:Int) (l:List X) (its0:List V) (i:Nat) (its:List V):Prop where
 eq:rowI f k l its0=rowI f k (l.drop i) its
 len:its.length<=its0.length+i
section
variable {f : X -> V × Int} {k : Int} {l : List X} {its0 its : List V} {i : Nat} {x : X}
theorem RiI.skip (h:RiI f k l its0 i its) (hx:l[i]?=some x) (h1:((f x).2 != 0)=false) (h2:((f x).1.kind != 0)=false):RiI f k l its0 (i+1) its:=by
 refine ⟨?_,by have:=h.len;omega⟩
 have h3:((f x).1.kind==0)=true:=by simpa using h2
 rw [h.eq,zap hx];simp only [rowI,h1,h3,cond_true,cond_false]
theorem RiI.push (h:RiI f k l its0 i its) (hx:l[i]?=some x) (h1:((f x).2 != 0)=false) (h2:((f x).1.kind != 0)=true) (h4:(k==10)=false\/((f x).1.kind != 1)=false):RiI f k l its0 (i+1) (its++[(f x).1]):=by
 refine ⟨?_,by have:=h.len;simp;omega⟩
 have h3:((f x).1.kind==0)=false:=by simpa using h2
 have h5:(k==10&&(f x).1.kind != 1)=false:=by rcases h4 with h4|h4 <;> rw [h4] <;> simp
 rw [h.eq,zap hx];simp only [rowI,h1,h3,h5,cond_false]
theorem RiI.bad (h:RiI f k l its0 i its) (hx:l[i]?=some x) (h1:((f x).2 != 0)=true):NulC (V.mk 0 0 Zs0) (f x).2 (rowI f k l its0).1:=by
 refine ⟨rfl,by simpa using h1,?_⟩
 rw [h.eq,zap hx];simp only [rowI,h1,cond_true]
theorem RiI.bad5 (h:RiI f k l its0 i its) (hx:l[i]?=some x) (h1:((f x).2 != 0)=false) (h2:((f x).1.kind != 0)=true) (h4:(k==10)=true) (h5:((f x).1.kind != 1)=true):NulC (V.mk 0 0 Zs0) 5 (rowI f k l its0).1:=by
 refine ⟨rfl,by decide,?_⟩
 have h3:((f x).1.kind==0)=false:=by simpa using h2
 rw [h.eq,zap hx];simp only [rowI,h1,h3,h4,h5,Bool.and_self,cond_true,cond_false]
theorem RiI.fin (h:RiI f k l its0 l.length its):rowI f k l its0=(0,its):=by
 rw [h.eq,List.drop_length];rfl
end
noncomputable def zvA (f:X->V × Int) (e:X) (q:Qy) (s:Sch) (frs inn:List Fr) (tb:List Tb) (rows:List Rw) (io n:Nat) (its0:List V) (i:Nat) (its:List V):Cfg:=zaj B.AC 1 [(1,fsl frs),(2,tsl tb),(3,.p 0 0),(6,.p 1 0),(8,.p 2 0),(9,.p 3 0),(13,iv (n:Nat)),(14,.own 4 its.length),(17,fsl inn),(45,.sl (rows.map Rw.cells)),(46,iv ((rows.map Rw.cells).length:Nat)),(47,iv (io:Nat)),(73,xsl q.items),(74,iv ((zad q.items).length:Nat)),(75,iv (i:Nat))] [.box e.cells,.box [iv 0,iv 0,sv ⟨#[]⟩],.box q.cells,.box s.cells,.row Ty.Value (its.map V.cells) false]
theorem Zcv11 {p:Prop} (h:p:=by first|rfl|(simp;done)|(simp [X.cells,Qy.cells,V.cells,Col.cells,Rw.cells,Tb.cells,Fr.cells,Sch.cells,Tp.cells,Pl.cells,xCol,xLit,xBin,xNeg,Rw.cells];done)):p:=h
theorem zgR (f:X->V × Int) (e:X) (q:Qy) (s:Sch) (frs inn:List Fr) (tb:List Tb) (rows:List Rw) (io n:Nat) (its0:List V) (hl:q.items.length<=1000) (hi0:its0.length<=2000000) (hf:∀ x∈q.items,Pure S.An [x.av,fsl inn,tsl tb] (.tup [(f x).1.av,iv (f x).2])) (i:Nat) (its:List V) (hi:i<=(q.items).length) (hI:RiI f e.kind q.items its0 i its):(∃ (its':List V),(RiI f e.kind q.items its0 (q.items).length its')/\(decide ((((q.items).length:Nat):Int) < (((zad q.items).length:Nat):Int))=false)/\∀ R,Good E0 B.AC [] (zvA f e q s frs inn tb rows io n its0 (q.items).length its') R->Good E0 B.AC [] (zvA f e q s frs inn tb rows io n its0 i its) R)\/(∃ (r:V) (c:Int),NulC r c (rowI f e.kind q.items its0).1/\Good E0 B.AC [] (zvA f e q s frs inn tb rows io n its0 i its) (Shut 0 fun rZ hZ=>rZ=(.tup [V.av r,iv c])/\hZ=[])):=by
 have hk:=hi;revert i its;refine zlp ((q.items).length) (fun i hlt ih its hi hI _=>?_)
 obtain ⟨x,hx,h0,hw⟩:=zlq (l:=q.items) ((zad q.items).length) hlt
 have hfx:=hf x (List.mem_of_getElem? hx);have ho:its.length<=1000000000:=(by have:=hI.len;have:=zbY hx;omega)
 cases h1:(f x).snd != 0
 ·let p_1:List St:=[sb h0,se (zbr hx),sc hfx,sb h1]
  let p_2:List St:=[sb h0,se (zbr hx),sc hfx,sb h1]
  cases h2:e.kind==10
  ·cases h3:(f x).fst.kind != 0
   ·exact (ih its Zo zrM Zo).elim (fun ⟨itsZ,qZ,xZ,gZ⟩=>.inl ⟨itsZ,qZ,xZ,fun R hg=>zab (wkl (p_1++[sb h2,sb h3,si hw]) [1,2,3,6,8,9,13,14,17,45,46,47,73,74,75] 5 kr (gZ R hg))⟩) (fun ⟨rY,cY,pZ,gZ⟩=>.inr ⟨rY,cY,pZ,zab (wkl (p_2++[sb h2,sb h3,si hw]) [1,2,3,6,8,9,13,14,17,45,46,47,73,74,75] 5 kr gZ)⟩)
   ·exact (ih (its++[(f x).fst]) Zo zrM Zo).elim (fun ⟨itsZ,qZ,xZ,gZ⟩=>.inl ⟨itsZ,qZ,xZ,fun R hg=>zab (wkl (p_1++[sb h2,sb h3,sqA (List.map V.cells its) [[iv (f x).fst.kind,iv (f x).fst.int,sv (f x).fst.text]] its.length 3 32,si hw]) [1,2,3,6,8,9,13,14,17,45,46,47,73,74,75] 5 kr (zao 14 4 (List.map V.cells its++[[iv (f x).fst.kind,iv (f x).fst.int,sv (f x).fst.text]]) (gZ R hg) (he:=Zcv11) (hm:=Zcv11)))⟩) (fun ⟨rY,cY,pZ,gZ⟩=>.inr ⟨rY,cY,pZ,zab (wkl (p_2++[sb h2,sb h3,sqA (List.map V.cells its) [[iv (f x).fst.kind,iv (f x).fst.int,sv (f x).fst.text]] its.length 3 32,si hw]) [1,2,3,6,8,9,13,14,17,45,46,47,73,74,75] 5 kr (zao 14 4 (List.map V.cells its++[[iv (f x).fst.kind,iv (f x).fst.int,sv (f x).fst.text]]) gZ (he:=Zcv11) (hm:=Zcv11)))⟩)
  ·cases h4:(f x).fst.kind != 0
   ·exact (ih its Zo zrM Zo).elim (fun ⟨itsZ,qZ,xZ,gZ⟩=>.inl ⟨itsZ,qZ,xZ,fun R hg=>zab (wkl (p_1++[sg h2,sb h4,sb h4,si hw]) [1,2,3,6,8,9,13,14,17,45,46,47,73,74,75] 5 kr (gZ R hg))⟩) (fun ⟨rY,cY,pZ,gZ⟩=>.inr ⟨rY,cY,pZ,zab (wkl (p_2++[sg h2,sb h4,sb h4,si hw]) [1,2,3,6,8,9,13,14,17,45,46,47,73,74,75] 5 kr gZ)⟩)
   ·cases h5:(f x).fst.kind != 1
    ·exact (ih (its++[(f x).fst]) Zo zrM Zo).elim (fun ⟨itsZ,qZ,xZ,gZ⟩=>.inl ⟨itsZ,qZ,xZ,fun R hg=>zab (wkl (p_1++[sg h2,sg h4,sb h5,sb h4,sqA (List.map V.cells its) [[iv (f x).fst.kind,iv (f x).fst.int,sv (f x).fst.text]] its.length 3 32,si hw]) [1,2,3,6,8,9,13,14,17,45,46,47,73,74,75] 5 kr (zao 14 4 (List.map V.cells its++[[iv (f x).fst.kind,iv (f x).fst.int,sv (f x).fst.text]]) (gZ R hg) (he:=Zcv11) (hm:=Zcv11)))⟩) (fun ⟨rY,cY,pZ,gZ⟩=>.inr ⟨rY,cY,pZ,zab (wkl (p_2++[sg h2,sg h4,sb h5,sb h4,sqA (List.map V.cells its) [[iv (f x).fst.kind,iv (f x).fst.int,sv (f x).fst.text]] its.length 3 32,si hw]) [1,2,3,6,8,9,13,14,17,45,46,47,73,74,75] 5 kr (zao 14 4 (List.map V.cells its++[[iv (f x).fst.kind,iv (f x).fst.int,sv (f x).fst.text]]) gZ (he:=Zcv11) (hm:=Zcv11)))⟩)
    ·exact .inr ⟨V.mk 0 0 Zs0,5,(by first|exact hI.bad hx ‹_›|exact hI.bad5 hx ‹_› ‹_› ‹_› ‹_›),zab (wkr (p_1++[sg h2,sg h4,sb h5]) kr)⟩
 ·exact .inr ⟨V.mk 0 0 Zs0,(f x).snd,(by first|exact hI.bad hx ‹_›|exact hI.bad5 hx ‹_› ‹_› ‹_› ‹_›),zab (wkr [sb h0,se (zbr hx),sc hfx,sb h1] kr)⟩
theorem ri0 {f:X->V × Int} {k:Int} {l:List X} {its:List V}:RiI f k l its 0 its:=⟨rfl,by omega⟩
structure SeI (tr:Rw->Bool × Int) (F:Rw->X->V × Int) (k:Int) (items:List X) (rows:List Rw) (i n:Nat) (its:List V):Prop where
 eq:selR tr (fun r its=>rowI (F r) k items its) rows 0 []=selR tr (fun r its=>rowI (F r) k items its) (rows.drop i) n its
 num:n<=i
 len:its.length<=1000 * i
section
variable {tr : Rw -> Bool × Int} {F : Rw -> X -> V × Int} {k : Int} {items : List X} {rows : List Rw} {i n : Nat} {its its2 : List V} {x : Rw} {r : V} {c : Int}
theorem SeI.skip (h:SeI tr F k items rows i n its) (hx:rows[i]?=some x) (h1:((tr x).2 != 0)=false) (h2:(!(tr x).1)=true):SeI tr F k items rows (i+1) n its:=by
 refine ⟨?_,by have:=h.num;omega,by have:=h.len;omega⟩
 have h3:(tr x).1=false:=by simpa using h2
 rw [h.eq,zap hx];simp only [selR,h1,h3,cond_false]
theorem SeI.go (h:SeI tr F k items rows i n its) (hx:rows[i]?=some x) (h1:((tr x).2 != 0)=false) (h2:(!(tr x).1)=false) (hr:RiI (F x) k items its items.length its2) (hl:items.length<=1000):SeI tr F k items rows (i+1) (n+1) its2:=by
 refine ⟨?_,by have:=h.num;omega,by have:=h.len;have:=hr.len;omega⟩
 have h3:(tr x).1=true:=by simpa using h2
 have h4:((0:Int) != 0)=false:=rfl
 rw [h.eq,zap hx];simp only [selR,h1,h3,hr.fin,h4,cond_true,cond_false]
theorem SeI.bad (h:SeI tr F k items rows i n its) (hx:rows[i]?=some x) (h1:((tr x).2 != 0)=true):NulC (V.mk 0 0 Zs0) (tr x).2 (selR tr (fun r its=>rowI (F r) k items its) rows 0 []).1:=by
 refine ⟨rfl,by simpa using h1,?_⟩
 rw [h.eq,zap hx];simp only [selR,h1,cond_true]
theorem SeI.bad2 (h:SeI tr F k items rows i n its) (hx:rows[i]?=some x) (h1:((tr x).2 != 0)=false) (h2:(!(tr x).1)=false) (hc:NulC r c (rowI (F x) k items its).1):NulC r c (selR tr (fun r its=>rowI (F r) k items its) rows 0 []).1:=by
 refine ⟨hc.1,hc.2.1,?_⟩
 have h3:(tr x).1=true:=by simpa using h2
 have h4:(c != 0)=true:=by simpa using hc.2.1
 rw [h.eq,zap hx];simp only [selR,h1,h3,hc.2.2,h4,cond_true,cond_false]
end
noncomputable def zvB (tr:Rw->Bool × Int) (F:Rw->X->V × Int) (e:X) (q:Qy) (s:Sch) (frs:List Fr) (tb:List Tb) (rows:List Rw) (i:Nat) (n:Nat) (its:List V):Cfg:=zaj B.AC 0 [(1,fsl frs),(2,tsl tb),(3,.p 0 0),(6,.p 1 0),(8,.p 2 0),(9,.p 3 0),(13,iv (n:Nat)),(14,.own 4 its.length),(45,.sl (rows.map Rw.cells)),(46,iv ((rows.map Rw.cells).length:Nat)),(47,iv (i:Nat))] [.box e.cells,.box [iv 0,iv 0,sv ⟨#[]⟩],.box q.cells,.box s.cells,.row Ty.Value (its.map V.cells) false]
theorem zgS (tr:Rw->Bool × Int) (F:Rw->X->V × Int) (e:X) (q:Qy) (s:Sch) (frs:List Fr) (tb:List Tb) (rows:List Rw) (hl:q.items.length<=1000) (hrw:rows.length<=1000) (hfr:zac frs) (hT:∀ r∈rows,Pure S.A5 [xsl q.wh,fsl (zax frs s r.vals),tsl tb] (.tup [bv (tr r).1,iv (tr r).2])) (hF:∀ r∈rows,∀ x∈q.items,Pure S.An [x.av,fsl (zax frs s r.vals),tsl tb] (.tup [(F r x).1.av,iv (F r x).2])) (i:Nat) (n:Nat) (its:List V) (hi:i<=(rows).length) (hI:SeI tr F e.kind q.items rows i n its):(∃ (n':Nat) (its':List V),(SeI tr F e.kind q.items rows (rows).length n' its')/\(decide ((((rows).length:Nat):Int) < (((rows.map Rw.cells).length:Nat):Int))=false)/\∀ R,Good E0 B.AC [] (zvB tr F e q s frs tb rows (rows).length n' its') R->Good E0 B.AC [] (zvB tr F e q s frs tb rows i n its) R)\/(∃ (r:V) (c:Int),NulC r c (selR tr (fun r its=>rowI (F r) e.kind q.items its) rows 0 []).1/\Good E0 B.AC [] (zvB tr F e q s frs tb rows i n its) (Shut 0 fun rZ hZ=>rZ=(.tup [V.av r,iv c])/\hZ=[])):=by
 have hk:=hi;revert i n its;refine zlp ((rows).length) (fun i hlt ih n its hi hI _=>?_)
 obtain ⟨x,hx,h0,hw⟩:=zlq (l:=rows) ((rows.map Rw.cells).length) hlt
 have hTx:=hT x (List.mem_of_getElem? hx);have hFx:=hF x (List.mem_of_getElem? hx);have hil:=zbY hx;have hi2:its.length<=2000000:=(by have:=hI.len;omega);have hwn:=zaJ n (by have:=hI.num;omega)
 let p_1:List St:=[sb h0,se (zaf Rw.cells hx rfl),sc (zbk frs s x.vals znc),sc hTx]
 cases h1:(tr x).snd != 0
 ·cases h2:!(tr x).fst
  ·rcases zgR (F x) e q s frs (zax frs s x.vals) tb rows i (n+1) its znc hi2 hFx 0 its znc znc with ⟨its3,q3,q3_1,g3⟩|⟨r3_0,r3_1,p3_0,g3⟩
   ·exact (ih (n+1) its3 Zo (by first|exact hI.skip hx ‹_› ‹_›|exact hI.go hx ‹_› ‹_› ‹_› hl) Zo).elim (fun ⟨nZ,itsZ,qZ,xZ,gZ⟩=>.inl ⟨nZ,itsZ,qZ,xZ,fun R hg=>zab (wkl (p_1++[sb h1,sb h2,si hwn]) [1,2,3,6,8,9,13,14,17,45,46,47,73,74,75] 5 kr (g3 _ (zab (wkl [sb q3_1,si hw] [1,2,3,6,8,9,13,14,45,46,47] 5 kr (gZ R hg)))))⟩) (fun ⟨rY,cY,pZ,gZ⟩=>.inr ⟨rY,cY,pZ,zab (wkl [sb h0,se (zaf Rw.cells hx rfl),sc (zbk frs s x.vals znc),sc hTx,sb h1,sb h2,si hwn] [1,2,3,6,8,9,13,14,17,45,46,47,73,74,75] 5 kr (g3 _ (zab (wkl [sb q3_1,si hw] [1,2,3,6,8,9,13,14,45,46,47] 5 kr gZ))))⟩)
   ·exact .inr ⟨r3_0,r3_1,(by first|exact hI.bad hx ‹_›|exact hI.bad2 hx ‹_› ‹_› ‹_›),zab (wkl (p_1++[sb h1,sb h2,si hwn]) [1,2,3,6,8,9,13,14,17,45,46,47,73,74,75] 5 kr g3)⟩
  ·exact (ih n its Zo (by first|exact hI.skip hx ‹_› ‹_›|exact hI.go hx ‹_› ‹_› ‹_› hl) Zo).elim (fun ⟨nZ,itsZ,qZ,xZ,gZ⟩=>.inl ⟨nZ,itsZ,qZ,xZ,fun R hg=>zab (wkl (p_1++[sb h1,sb h2,si hw]) [1,2,3,6,8,9,13,14,45,46,47] 5 kr (gZ R hg))⟩) (fun ⟨rY,cY,pZ,gZ⟩=>.inr ⟨rY,cY,pZ,zab (wkl [sb h0,se (zaf Rw.cells hx rfl),sc (zbk frs s x.vals znc),sc hTx,sb h1,sb h2,si hw] [1,2,3,6,8,9,13,14,45,46,47] 5 kr gZ)⟩)
 ·exact .inr ⟨V.mk 0 0 Zs0,(tr x).snd,(by first|exact hI.bad hx ‹_›|exact hI.bad2 hx ‹_› ‹_› ‹_›),zab (wkr (p_1++[sb h1]) kr)⟩
section
variable {tr : Rw -> Bool × Int} {F : Rw -> X -> V × Int} {items : List X} {rows : List Rw} {n : Nat} {its : List V} {e : X} {r : V} {c : Int} {b : Bool}
theorem SeI.fin {k:Int} (h:SeI tr F k items rows rows.length n its):selR tr (fun r its=>rowI (F r) k items its) rows 0 []=(0,n,its):=by
 rw [h.eq,List.drop_length];rfl
def aggV (b:Bool) (tr:Rw->Bool × Int) (F:Rw->X->V × Int) (items:List X) (rows:List Rw) (e:X):V × Int:=bif !b then (V.null,3) else eAgg (selR tr (fun r its=>rowI (F r) e.kind items its) rows 0 []) e
theorem av0 (h:(!b)=true):(V.mk 0 0 Zs0,3)=aggV b tr F items rows e:=by unfold aggV;rw [h];rfl
theorem avb (h:(!b)=false) (hc:NulC r c (selR tr (fun r its=>rowI (F r) e.kind items its) rows 0 []).1):(r,c)=aggV b tr F items rows e:=by
 have h4:(c != 0)=true:=by simpa using hc.2.1
 unfold aggV eAgg;rw [h,hc.2.2,h4,hc.1];rfl
theorem av8 (h:(!b)=false) (hs:SeI tr F e.kind items rows rows.length n its) (hk:(e.kind==8)=true):(V.mk 2 (if decide ((0:Int) < ((n:Nat):Int))=true then 1 else 0) Zs0,0)=aggV b tr F items rows e:=by
 unfold aggV eAgg;rw [h,hs.fin,hk];rfl
theorem av9 (h:(!b)=false) (hs:SeI tr F e.kind items rows rows.length n its) (h8:(e.kind==8)=false) (hk:(e.kind==9)=true):(zb7 ((n:Nat):Int),0)=aggV b tr F items rows e:=by
 unfold aggV eAgg;rw [h,hs.fin,h8,hk];rfl
theorem avf (h:(!b)=false) (hs:SeI tr F e.kind items rows rows.length n its) (h8:(e.kind==8)=false) (h9:(e.kind==9)=false):((zdo e.kind its).1,(zdo e.kind its).2)=aggV b tr F items rows e:=by
 unfold aggV eAgg zdo;rw [h,hs.fin,h8,h9];rfl
theorem k1012 (hk:8<=e.kind/\e.kind<=12) (h8:(e.kind==8)=false) (h9:(e.kind==9)=false):e.kind=10\/e.kind=11\/e.kind=12:=by
 simp only [beq_eq_false_iff_ne,ne_eq] at h8 h9
 omega
theorem se0 {k:Int}:SeI tr F k items rows 0 0 []:=⟨rfl,by omega,by simp⟩
theorem se_sh {k:Int} (hs:SeI tr F k items rows rows.length n its) (h:rows.length<=1000):zac its:=by
 have:=hs.len;simp only [zac];omega
theorem se_g {k:Int} (hs:SeI tr F k items rows rows.length n its) (h:∀ v∈(selR tr (fun r its=>rowI (F r) k items its) rows 0 []).2.2,v.Good):∀ v∈its,v.Good:=by
 rw [hs.fin] at h;exact h
end
theorem znk (tr:Rw->Bool × Int) (F:Rw->X->V × Int) (e:X) (q:Qy) (frs:List Fr) (tb:List Tb) (hq:e.sub[0]?=some q) (hl:q.items.length<=1000) (htb:zac tb) (htc:∀ x∈tb,zac x.sch.cols) (hrw:(zbg tb q.frm).length<=1000) (hfr:zac frs) (hk:8<=e.kind/\e.kind<=12) (hT:∀ r∈zbg tb q.frm,Pure S.A5 [xsl q.wh,fsl (zax frs (zaN tb q.frm).1 r.vals),tsl tb] (.tup [bv (tr r).1,iv (tr r).2])) (hF:∀ r∈zbg tb q.frm,∀ x∈q.items,Pure S.An [x.av,fsl (zax frs (zaN tb q.frm).1 r.vals),tsl tb] (.tup [(F r x).1.av,iv (F r x).2])) (hgd:∀ v∈(selR tr (fun r its=>rowI (F r) e.kind q.items its) (zbg tb q.frm) 0 []).2.2,v.Good):∃ (r:V) (c:Int),(r,c)=aggV (zaN tb q.frm).2 tr F q.items (zbg tb q.frm) e/\zaa E0 S.AC [e.av,fsl frs,tsl tb] [] (.tup [r.av,iv c]) []:=by
 let p_1:List St:=[se (zaC hq),sc (zjS tb q.frm zfy zfy)]
 cases h1:!(zaN tb q.frm).snd
 ·obtain ⟨b2,c2⟩:=(zmH tb q.frm zfy)
  rcases zgS tr F e q ((zaN tb q.frm).fst) frs tb (zbg tb q.frm) zfy zfy zfy hT hF 0 0 ([]) zfy zfy with ⟨n3,its3,q3,q3_1,g3⟩|⟨r3_0,r3_1,p3_0,g3⟩
  ·cases h4:e.kind==8
   ·cases h5:e.kind==9
    ·exact ⟨(zdo e.kind its3).fst,(zdo e.kind its3).snd,zpc,wkcN At.AC (p_1++[sb h1,sc c2]) [1,2,3,6,8,9,13,14,45,46,47] 4 [(.ot 14 Ty.Value,5)] kr (g3 _ (zab (wkr [sb q3_1,sb h4,sb h5,skx (True/\its3.length=(List.map V.cells its3).length/\True) [] (zs1 e.kind its3 zfy zfy zfy)] kr)))⟩
    ·exact ⟨zb7 (n3:Int),0,zpc,wkcN At.AC (p_1++[sb h1,sc c2]) [1,2,3,6,8,9,13,14,45,46,47] 4 [(.ot 14 Ty.Value,5)] kr (g3 _ (zab (wkr [sb q3_1,sb h4,sb h5,sc (zbZ ((n3:Int)))] kr)))⟩
   ·exact ⟨V.mk (2:Int) (if decide ((0:Int) < (n3:Int))=true then (1:Int) else (0:Int)) Zs0,0,zpc,wkcN At.AC (p_1++[sb h1,sc c2]) [1,2,3,6,8,9,13,14,45,46,47] 4 [(.ot 14 Ty.Value,5)] kr (g3 _ (zab (wkr [sb q3_1,sb h4,sc (zaT (decide (0 < (n3:Int))))] kr)))⟩
  ·exact ⟨r3_0,r3_1,zpc,wkcN At.AC (p_1++[sb h1,sc c2]) [1,2,3,6,8,9,13,14,45,46,47] 4 [(.ot 14 Ty.Value,5)] kr (g3)⟩
 ·exact ⟨V.mk 0 0 Zs0,3,zpc,wk At.AC (p_1++[sb h1]) kr⟩
theorem zpz (f:X->V × Int) (x:X) (r:List X) (frs:List Fr) (tb:List Tb) (hf:Pure S.An [x.av,fsl frs,tsl tb] (.tup [(f x).1.av,iv (f x).2])) (hg:(f x).1.Good):∃ (b:Bool) (e:Int),(b,e)=zhO f x/\zaa E0 S.A5 [xsl (x::r),fsl frs,tsl tb] [] (.tup [bv b,iv e]) []:=by
 let p_1:List St:=[sb Zf,se (zbr (l:=x::r) (i:=0) (x:=x) rfl),sc hf]
 cases h1:(f x).snd != 0
 ·let p_2:List St:=p_1++[sb h1,sc (zdh ((f x).fst) (by first|assumption|omega|(simp;done)|(simp;omega)))]
  cases h2:!zbn (f x).fst
  ·exact ⟨rIsT (f x).fst,0,zxg,wk At.A5 (p_2++[sb h2,sc (zeF ((f x).fst))]) kr⟩
  ·exact ⟨false,5,zxg,wk At.A5 (p_2++[sb h2]) kr⟩
 ·exact ⟨false,(f x).snd,zxg,wk At.A5 (p_1++[sb h1]) kr⟩
theorem zpy (frs:List Fr) (tb:List Tb) :∃ (b:Bool) (e:Int),(b,e)=zoA/\zaa E0 S.A5 [xsl [],fsl frs,tsl tb] [] (.tup [bv b,iv e]) []:=by
 exact ⟨true,0,Zr,wk At.A5 [sb Zt] kr⟩
theorem zxh {p:Prop} (h:p:=by first|exact hI.skip hx ‹_› ‹_›|exact hI.star hx ‹_› ‹_› ‹_›|exact hI.go hx ‹_› ‹_› ‹_› ‹_›):p:=h
theorem zgu {p:Prop} (h:p:=by first|assumption|exact ir0|omega):p:=h
theorem zhr {p:Prop} (h:p:=by first|assumption|exact sr0|omega):p:=h
theorem zxi {p:Prop} (h:p:=by first|exact rv0 ‹_›|exact rvb ‹_› ‹_›|exact rvf ‹_› ‹_›):p:=h
structure IrI (f:X->V × Int) (l:List X) (i:Nat) (row:List V):Prop where
 eq:zbd f l=bif (zbd f (l.drop i)).1 != 0 then ((zbd f (l.drop i)).1,[]) else (0,row++(zbd f (l.drop i)).2)
 len:row.length<=i
section
variable {f : X -> V × Int} {l : List X} {i : Nat} {row : List V} {x : X}
theorem ir0:IrI f l 0 []:=by
 refine ⟨?_,by simp⟩
 rw [List.drop_zero,List.nil_append]
 cases h:(zbd f l).1 != 0
 ·have:(zbd f l).1=0:=by simpa using h
  rw [cond_false,← this]
 ·rw [cond_true]
  cases l with
  | nil=>simp [zbd] at h
  | cons x r =>
   simp only [zbd] at h ⊢
   cases h1:(f x).2 != 0
   ·cases h2:(zbd f r).1 != 0
    ·simp only [h1,h2,cond_false] at h;cases h
    ·rfl
   ·rfl
theorem IrI.step (h:IrI f l i row) (hx:l[i]?=some x) (h1:((f x).2 != 0)=false):IrI f l (i+1) (row++[(f x).1]):=by
 refine ⟨?_,by have:=h.len;simp;omega⟩
 rw [h.eq,zap hx]
 simp only [zbd,h1,cond_false]
 cases h2:(zbd f (l.drop (i+1))).1 != 0
 ·simp
 ·simp only [cond_true,h2]
theorem IrI.bad (h:IrI f l i row) (hx:l[i]?=some x) (h1:((f x).2 != 0)=true):(f x).2≠0/\(zbd f l).1=(f x).2:=by
 refine ⟨by simpa using h1,?_⟩
 rw [h.eq,zap hx]
 simp only [zbd,h1,cond_true]
theorem IrI.fin (h:IrI f l l.length row):zbd f l=(0,row):=by
 rw [h.eq,List.drop_length];simp [zbd]
end
noncomputable def zvX (f:X->V × Int) (q:Qy) (s:Sch) (frs inn:List Fr) (tb:List Tb) (rows:List Rw) (io:Nat) (out:List (List V)) (i:Nat) (row:List V):Cfg:=zaj B.Ba 1 [(1,fsl frs),(2,tsl tb),(3,.p 0 0),(8,.p 1 0),(12,.own 2 out.length),(15,fsl inn),(18,.own 3 row.length),(39,.sl (rows.map Rw.cells)),(40,iv ((rows.map Rw.cells).length:Nat)),(41,iv (io:Nat)),(70,xsl q.items),(71,iv ((zad q.items).length:Nat)),(72,iv (i:Nat))] [.box q.cells,.box s.cells,.row Ty.LValue (out.map vrow) false,.row Ty.Value (row.map V.cells) false]
theorem zjv (f:X->V × Int) (q:Qy) (s:Sch) (frs inn:List Fr) (tb:List Tb) (rows:List Rw) (io:Nat) (out:List (List V)) (hl:q.items.length<=1000) (hf:∀ x∈q.items,Pure S.An [x.av,fsl inn,tsl tb] (.tup [(f x).1.av,iv (f x).2])) (i:Nat) (row:List V) (hi:i<=(q.items).length) (hI:IrI f q.items i row):(∃ (row':List V),(IrI f q.items (q.items).length row')/\(decide ((((q.items).length:Nat):Int) < (((zad q.items).length:Nat):Int))=false)/\∀ R,Good E0 B.Ba [] (zvX f q s frs inn tb rows io out (q.items).length row') R->Good E0 B.Ba [] (zvX f q s frs inn tb rows io out i row) R)\/(∃ (r:List (List V)) (c:Int),(r=[]/\c≠0/\(zbd f q.items).1=c)/\Good E0 B.Ba [] (zvX f q s frs inn tb rows io out i row) (Shut 0 fun rZ hZ=>rZ=(.tup [.sl (r.map vrow),iv c])/\hZ=[])):=by
 have hk:=hi;revert i row;refine zlp ((q.items).length) (fun i hlt ih row hi hI _=>?_)
 obtain ⟨x,hx,h0,hw⟩:=zlq (l:=q.items) ((zad q.items).length) hlt
 have hfx:=hf x (List.mem_of_getElem? hx);have ho:row.length<=1000000000:=(by have:=hI.len;have:=zbY hx;omega)
 cases h1:(f x).snd != 0
 ·exact (ih (row++[(f x).fst]) Zo (by exact hI.step hx ‹_›) Zo).elim (fun ⟨rowZ,qZ,xZ,gZ⟩=>.inl ⟨rowZ,qZ,xZ,fun R hg=>zab (wkl [sb h0,se (zbr hx),sc hfx,sb h1,sqA (List.map V.cells row) [[iv (f x).fst.kind,iv (f x).fst.int,sv (f x).fst.text]] row.length 3 32,si hw] [1,2,3,8,12,15,18,39,40,41,70,71,72] 4 kr (zao 18 3 (List.map V.cells row++[[iv (f x).fst.kind,iv (f x).fst.int,sv (f x).fst.text]]) (gZ R hg) (he:=Zcv11) (hm:=Zcv11)))⟩) (fun ⟨rY,cY,pZ,gZ⟩=>.inr ⟨rY,cY,pZ,zab (wkl [sb h0,se (zbr hx),sc hfx,sb h1,sqA (List.map V.cells row) [[iv (f x).fst.kind,iv (f x).fst.int,sv (f x).fst.text]] row.length 3 32,si hw] [1,2,3,8,12,15,18,39,40,41,70,71,72] 4 kr (zao 18 3 (List.map V.cells row++[[iv (f x).fst.kind,iv (f x).fst.int,sv (f x).fst.text]]) gZ (he:=Zcv11) (hm:=Zcv11)))⟩)
 ·exact .inr ⟨[],(f x).snd,(by exact ⟨rfl,hI.bad hx ‹_›⟩),zab (wkr [sb h0,se (zbr hx),sc hfx,sb h1] kr)⟩
structure SrI (tr:Rw->Bool × Int) (F:Rw->X->V × Int) (q:Qy) (rows:List Rw) (i:Nat) (out:List (List V)):Prop where
 eq:za8 tr (fun r=>rowV (F r) q r) rows []=za8 tr (fun r=>rowV (F r) q r) (rows.drop i) out
 len:out.length<=i
section
variable {tr : Rw -> Bool × Int} {F : Rw -> X -> V × Int} {q : Qy} {rows : List Rw} {i : Nat} {out : List (List V)} {x : Rw} {row : List V} {r : List (List V)} {c : Int} {b : Bool}
theorem sr0:SrI tr F q rows 0 []:=⟨rfl,by simp⟩
theorem SrI.skip (h:SrI tr F q rows i out) (hx:rows[i]?=some x) (h1:((tr x).2 != 0)=false) (h2:(!(tr x).1)=true):SrI tr F q rows (i+1) out:=by
 refine ⟨?_,by have:=h.len;omega⟩
 have h3:(tr x).1=false:=by simpa using h2
 rw [h.eq,zap hx];simp only [za8,h1,h3,cond_false]
theorem SrI.star (h:SrI tr F q rows i out) (hx:rows[i]?=some x) (h1:((tr x).2 != 0)=false) (h2:(!(tr x).1)=false) (hq:(!q.star)=false):SrI tr F q rows (i+1) (out++[x.vals]):=by
 refine ⟨?_,by have:=h.len;simp;omega⟩
 have h3:(tr x).1=true:=by simpa using h2
 have h4:q.star=true:=by simpa using hq
 have h5:((0:Int) != 0)=false:=rfl
 rw [h.eq,zap hx];simp only [za8,rowV,h1,h3,h4,h5,cond_true,cond_false]
theorem SrI.go (h:SrI tr F q rows i out) (hx:rows[i]?=some x) (h1:((tr x).2 != 0)=false) (h2:(!(tr x).1)=false) (hq:(!q.star)=true) (hr:IrI (F x) q.items q.items.length row):SrI tr F q rows (i+1) (out++[row]):=by
 refine ⟨?_,by have:=h.len;simp;omega⟩
 have h3:(tr x).1=true:=by simpa using h2
 have h4:q.star=false:=by simpa using hq
 have h5:((0:Int) != 0)=false:=rfl
 rw [h.eq,zap hx];simp only [za8,rowV,h1,h3,h4,h5,hr.fin,cond_true,cond_false]
theorem SrI.bad (h:SrI tr F q rows i out) (hx:rows[i]?=some x) (h1:((tr x).2 != 0)=true):([]:List (List V))=[]/\(tr x).2≠0/\(za8 tr (fun r=>rowV (F r) q r) rows []).1=(tr x).2:=by
 refine ⟨rfl,by simpa using h1,?_⟩
 rw [h.eq,zap hx];simp only [za8,h1,cond_true]
theorem SrI.bad2 (h:SrI tr F q rows i out) (hx:rows[i]?=some x) (h1:((tr x).2 != 0)=false) (h2:(!(tr x).1)=false) (hq:(!q.star)=true) (hc:r=[]/\c≠0/\(zbd (F x) q.items).1=c):r=[]/\c≠0/\(za8 tr (fun r=>rowV (F r) q r) rows []).1=c:=by
 refine ⟨hc.1,hc.2.1,?_⟩
 have h3:(tr x).1=true:=by simpa using h2
 have h4:q.star=false:=by simpa using hq
 have h5:(c != 0)=true:=by simpa using hc.2.1
 rw [h.eq,zap hx];simp only [za8,rowV,h1,h3,h4,hc.2.2,h5,cond_true,cond_false]
theorem SrI.fin (h:SrI tr F q rows rows.length out):za8 tr (fun r=>rowV (F r) q r) rows []=(0,out):=by
 rw [h.eq,List.drop_length];rfl
def ziR (b:Bool) (tr:Rw->Bool × Int) (F:Rw->X->V × Int) (q:Qy) (rows:List Rw):List (List V) × Int:=bif !b then ([],3) else zey (za8 tr (fun r=>rowV (F r) q r) rows [])
theorem rv0 (h:(!b)=true):(([]:List (List V)),3)=ziR b tr F q rows:=by unfold ziR;rw [h];rfl
theorem rvb (h:(!b)=false) (hc:r=[]/\c≠0/\(za8 tr (fun r=>rowV (F r) q r) rows []).1=c):(r,c)=ziR b tr F q rows:=by
 have h4:(c != 0)=true:=by simpa using hc.2.1
 unfold ziR zey;rw [h,hc.2.2,h4,hc.1];rfl
theorem rvf (h:(!b)=false) (hs:SrI tr F q rows rows.length out):(out,0)=ziR b tr F q rows:=by
 unfold ziR zey;rw [h,hs.fin];rfl
end
noncomputable def zvY (tr:Rw->Bool × Int) (F:Rw->X->V × Int) (q:Qy) (s:Sch) (frs:List Fr) (tb:List Tb) (rows:List Rw) (i:Nat) (out:List (List V)):Cfg:=zaj B.Ba 0 [(1,fsl frs),(2,tsl tb),(3,.p 0 0),(8,.p 1 0),(12,.own 2 out.length),(39,.sl (rows.map Rw.cells)),(40,iv ((rows.map Rw.cells).length:Nat)),(41,iv (i:Nat))] [.box q.cells,.box s.cells,.row Ty.LValue (out.map vrow) false]
theorem zjw (tr:Rw->Bool × Int) (F:Rw->X->V × Int) (q:Qy) (s:Sch) (frs:List Fr) (tb:List Tb) (rows:List Rw) (hl:q.items.length<=1000) (hrw:rows.length<=1000) (hfr:zac frs) (hv:∀ r∈rows,zac r.vals) (hT:∀ r∈rows,Pure S.A5 [xsl q.wh,fsl (zax frs s r.vals),tsl tb] (.tup [bv (tr r).1,iv (tr r).2])) (hF:∀ r∈rows,∀ x∈q.items,Pure S.An [x.av,fsl (zax frs s r.vals),tsl tb] (.tup [(F r x).1.av,iv (F r x).2])) (i:Nat) (out:List (List V)) (hi:i<=(rows).length) (hI:SrI tr F q rows i out):(∃ (out':List (List V)),(SrI tr F q rows (rows).length out')/\(decide ((((rows).length:Nat):Int) < (((rows.map Rw.cells).length:Nat):Int))=false)/\∀ R,Good E0 B.Ba [] (zvY tr F q s frs tb rows (rows).length out') R->Good E0 B.Ba [] (zvY tr F q s frs tb rows i out) R)\/(∃ (r:List (List V)) (c:Int),(r=[]/\c≠0/\(za8 tr (fun r=>rowV (F r) q r) rows []).1=c)/\Good E0 B.Ba [] (zvY tr F q s frs tb rows i out) (Shut 0 fun rZ hZ=>rZ=(.tup [.sl (r.map vrow),iv c])/\hZ=[])):=by
 have hk:=hi;revert i out;refine zlp ((rows).length) (fun i hlt ih out hi hI _=>?_)
 obtain ⟨x,hx,h0,hw⟩:=zlq (l:=rows) ((rows.map Rw.cells).length) hlt
 have hTx:=hT x (List.mem_of_getElem? hx);have hFx:=hF x (List.mem_of_getElem? hx);have hvx:=hv x (List.mem_of_getElem? hx);have hil:=zbY hx;have ho:out.length<=1000000000:=(by have:=hI.len;omega)
 let p_1:List St:=[sb h0,se (zaf Rw.cells hx rfl),sc (zbk frs s x.vals zgu),sc hTx]
 cases h1:(tr x).snd != 0
 ·cases h2:!(tr x).fst
  ·let p_2:List St:=p_1++[sb h1,sb h2,sc (zjb x.vals zgu)]
   cases h3:!q.star
   ·exact (ih (out++[zdg x.vals]) Zo zxh Zo).elim (fun ⟨outZ,qZ,xZ,gZ⟩=>.inl ⟨outZ,qZ,xZ,fun R hg=>zab (wkl (p_2++[sb h3,sqA (List.map vrow out) [[vsl (zdg x.vals)]] out.length 1 24,si hw]) [1,2,3,8,12,39,40,41] 3 kr (zao 12 2 (List.map vrow out++[[vsl (zdg x.vals)]]) (gZ R hg) (he:=by first|rfl|(simp only [List.map_append,List.map_cons,List.map_nil,List.length_append,List.length_map,List.length_cons,List.length_nil,zdg] <;> rfl)) (hm:=by first|rfl|(simp only [List.map_append,List.map_cons,List.map_nil,List.length_append,List.length_map,List.length_cons,List.length_nil,zdg] <;> rfl))))⟩) (fun ⟨rY,cY,pZ,gZ⟩=>.inr ⟨rY,cY,pZ,zab (wkl [sb h0,se (zaf Rw.cells hx rfl),sc (zbk frs s x.vals zgu),sc hTx,sb h1,sb h2,sc (zjb x.vals zgu),sb h3,sqA (List.map vrow out) [[vsl (zdg x.vals)]] out.length 1 24,si hw] [1,2,3,8,12,39,40,41] 3 kr (zao 12 2 (List.map vrow out++[[vsl (zdg x.vals)]]) gZ (he:=by first|rfl|(simp only [List.map_append,List.map_cons,List.map_nil,List.length_append,List.length_map,List.length_cons,List.length_nil,zdg] <;> rfl)) (hm:=by first|rfl|(simp only [List.map_append,List.map_cons,List.map_nil,List.length_append,List.length_map,List.length_cons,List.length_nil,zdg] <;> rfl))))⟩)
   ·rcases zjv (F x) q s frs (zax frs s x.vals) tb rows i out zgu hFx 0 ([]) zgu zgu with ⟨row4,q4,q4_1,g4⟩|⟨r4_0,r4_1,p4_0,g4⟩
    ·exact (ih (out++[row4]) Zo zxh Zo).elim (fun ⟨outZ,qZ,xZ,gZ⟩=>.inl ⟨outZ,qZ,xZ,fun R hg=>zab (wklN (p_2++[sb h3]) [1,2,3,8,12,15,18,39,40,41,70,71,72] 3 [(.ot 18 Ty.Value,4)] kr (g4 _ (zab (wkl [sb q4_1,sqx (row4.length=(List.map V.cells row4).length/\True),sqA (List.map vrow out) [[vsl row4]] out.length 1 24,si hw] [1,2,3,8,12,39,40,41] 3 kr (zao 12 2 (List.map vrow out++[[vsl row4]]) (gZ R hg) (he:=by first|rfl|(simp only [List.map_append,List.map_cons,List.map_nil,List.length_append,List.length_map,List.length_cons,List.length_nil,zdg] <;> rfl)) (hm:=by first|rfl|(simp only [List.map_append,List.map_cons,List.map_nil,List.length_append,List.length_map,List.length_cons,List.length_nil,zdg] <;> rfl)))))))⟩) (fun ⟨rY,cY,pZ,gZ⟩=>.inr ⟨rY,cY,pZ,zab (wklN [sb h0,se (zaf Rw.cells hx rfl),sc (zbk frs s x.vals zgu),sc hTx,sb h1,sb h2,sc (zjb x.vals zgu),sb h3] [1,2,3,8,12,15,18,39,40,41,70,71,72] 3 [(.ot 18 Ty.Value,4)] kr (g4 _ (zab (wkl [sb q4_1,sqx (row4.length=(List.map V.cells row4).length/\True),sqA (List.map vrow out) [[vsl row4]] out.length 1 24,si hw] [1,2,3,8,12,39,40,41] 3 kr (zao 12 2 (List.map vrow out++[[vsl row4]]) gZ (he:=by first|rfl|(simp only [List.map_append,List.map_cons,List.map_nil,List.length_append,List.length_map,List.length_cons,List.length_nil,zdg] <;> rfl)) (hm:=by first|rfl|(simp only [List.map_append,List.map_cons,List.map_nil,List.length_append,List.length_map,List.length_cons,List.length_nil,zdg] <;> rfl)))))))⟩)
    ·exact .inr ⟨r4_0,r4_1,(by first|exact hI.bad hx ‹_›|exact hI.bad2 hx ‹_› ‹_› ‹_› ‹_›),zab (wklN (p_2++[sb h3]) [1,2,3,8,12,15,18,39,40,41,70,71,72] 3 [(.ot 18 Ty.Value,4)] kr g4)⟩
  ·exact (ih out Zo zxh Zo).elim (fun ⟨outZ,qZ,xZ,gZ⟩=>.inl ⟨outZ,qZ,xZ,fun R hg=>zab (wkl (p_1++[sb h1,sb h2,si hw]) [1,2,3,8,12,39,40,41] 3 kr (gZ R hg))⟩) (fun ⟨rY,cY,pZ,gZ⟩=>.inr ⟨rY,cY,pZ,zab (wkl [sb h0,se (zaf Rw.cells hx rfl),sc (zbk frs s x.vals zgu),sc hTx,sb h1,sb h2,si hw] [1,2,3,8,12,39,40,41] 3 kr gZ)⟩)
 ·exact .inr ⟨[],(tr x).snd,(by first|exact hI.bad hx ‹_›|exact hI.bad2 hx ‹_› ‹_› ‹_› ‹_›),zab (wkr (p_1++[sb h1]) kr)⟩
theorem zse (tr:Rw->Bool × Int) (F:Rw->X->V × Int) (q:Qy) (frs:List Fr) (tb:List Tb) (hl:q.items.length<=1000) (htb:zac tb) (htc:∀ x∈tb,zac x.sch.cols) (hrw:(zbg tb q.frm).length<=1000) (hfr:zac frs) (hv:∀ r∈zbg tb q.frm,zac r.vals) (hT:∀ r∈zbg tb q.frm,Pure S.A5 [xsl q.wh,fsl (zax frs (zaN tb q.frm).1 r.vals),tsl tb] (.tup [bv (tr r).1,iv (tr r).2])) (hF:∀ r∈zbg tb q.frm,∀ x∈q.items,Pure S.An [x.av,fsl (zax frs (zaN tb q.frm).1 r.vals),tsl tb] (.tup [(F r x).1.av,iv (F r x).2])):∃ (r:List (List V)) (c:Int),(r,c)=ziR (zaN tb q.frm).2 tr F q (zbg tb q.frm)/\zaa E0 S.Ba [q.av,fsl frs,tsl tb] [] (.tup [.sl (r.map vrow),iv c]) []:=by
 let p_1:List St:=[sc (zjS tb q.frm zhr zhr)]
 cases h1:!(zaN tb q.frm).snd
 ·obtain ⟨b2,c2⟩:=(zmH tb q.frm zhr)
  rcases zjw tr F q ((zaN tb q.frm).fst) frs tb (zbg tb q.frm) zhr zhr zhr zhr hT hF 0 ([]) zhr zhr with ⟨out3,q3,q3_1,g3⟩|⟨r3_0,r3_1,p3_0,g3⟩
  ·exact ⟨out3,0,zxi,wkcN At.Ba (p_1++[sb h1,sc c2]) [1,2,3,8,12,39,40,41] 2 [(.ot 12 Ty.LValue,3)] kr (g3 _ (zab (wkr [sqx (out3.length=(List.map vrow out3).length/\True/\True),sb q3_1] kr)))⟩
  ·exact ⟨r3_0,r3_1,zxi,wkcN At.Ba (p_1++[sb h1,sc c2]) [1,2,3,8,12,39,40,41] 2 [(.ot 12 Ty.LValue,3)] kr (g3)⟩
 ·exact ⟨[],3,zxi,wk At.Ba (p_1++[sb h1]) kr⟩
theorem zBQ {f:X->V × Int} {e:X} {frs:List Fr} {tb:List Tb} (agg:V × Int) (hs:e.sub=[]):val0 f (eOp e) e frs tb=valF f (eOp e) agg e frs tb:=by
 unfold val0 valF
 rw [zia,zjn]
 cases hf:zcd e
 ·rfl
 ·simp only [Bool.not_true,cond_false]
  cases h1:e.kind==1
  ·cases h2:e.kind==2
   ·have hk:¬(8<=e.kind/\e.kind<=12):=by
     intro h8
     unfold zcd at hf
     rw [hs] at hf
     have:=zdv hf
     omega
    have e8:(e.kind==8)=false:=by simp;omega
    have e9:(e.kind==9)=false:=by simp;omega
    have e10:(e.kind==10)=false:=by simp;omega
    have e11:(e.kind==11)=false:=by simp;omega
    have e12:(e.kind==12)=false:=by simp;omega
    simp only [e8,e9,e10,e11,e12,cond_false]
   ·rfl
  ·rfl
theorem zhn {tb:List Tb} {n:Str} {t:Tb} (h:zaK tb n=some t):zbg tb n=t.rows/\zaN tb n=(t.sch,true):=by
 rw [zc6];unfold zbg;rw [h];exact ⟨rfl,rfl⟩
theorem zhm {tb:List Tb} {n:Str} (h:zaK tb n=none):zbg tb n=[]/\(zaN tb n).2=false:=by
 rw [zc6];unfold zbg;rw [h];exact ⟨rfl,rfl⟩
abbrev rIn (frs:List Fr) (tb:List Tb) (n:Str) (r:Rw):List Fr:=zax frs (zaN tb n).1 r.vals
theorem zAH {F:List Fr->X->V × Int} {e:X} {q:Qy} {r:List Qy} {frs:List Fr} {tb:List Tb} (hs:e.sub=q::r):aggV (zaN tb q.frm).2 (fun w=>zba (F (rIn frs tb q.frm w)) q.wh) (fun w=>F (rIn frs tb q.frm w)) q.items (zbg tb q.frm) e=zeA F e frs tb:=by
 unfold zeA aggV
 rw [hs]
 simp only
 cases hf:zaK tb q.frm with
 | none =>
  rw [(zhm hf).2];rfl
 | some t =>
  obtain ⟨h1,h2⟩:=zhn hf
  simp only [h1,h2,rIn,Bool.not_true,cond_false]
  rfl
theorem znN {f:X->V × Int} {wh:List X} {frs:List Fr} {tb:List Tb} (hf:∀ x∈wh,Pure S.An [x.av,fsl frs,tsl tb] (.tup [(f x).1.av,iv (f x).2])) (hg:∀ x∈wh,(f x).1.Good):Pure S.A5 [xsl wh,fsl frs,tsl tb] (.tup [bv (zba f wh).1,iv (zba f wh).2]):=by
 cases wh with
 | nil =>
  obtain ⟨b,c,e,h⟩:=zpy frs tb
  have e2:(b,c)=zba f []:=e
  rw [← e2];exact h
 | cons x r =>
  obtain ⟨b,c,e,h⟩:=zpz f x r frs tb (hf x Zs) (hg x Zs)
  have e2:(b,c)=zba f (x::r):=e
  rw [← e2];exact h
theorem ztn {tb:List Tb} {n:Str} {r:Rw} (h:r∈zbg tb n):∃ t,zaK tb n=some t/\t∈tb/\r∈t.rows/\(zaN tb n).1=t.sch:=by
 cases hf:zaK tb n with
 | none=>rw [(zhm hf).1] at h;cases h
 | some t =>
  obtain ⟨h1,h2⟩:=zhn hf
  rw [h1] at h
  exact ⟨t,rfl,zcR hf,h,by rw [h2]⟩
theorem ztm {tb:List Tb} (ht:TbOk tb) (n:Str):(zbg tb n).length<=1000:=by
 cases hf:zaK tb n with
 | none=>rw [(zhm hf).1];simp
 | some t=>rw [(zhn hf).1];exact ht.rows t (zcR hf)
theorem zdZ {n:Nat} {frs:List Fr} {tb:List Tb} {nm:Str} {r:Rw} (hf:FsOk (n+1) frs) (hg:FsG frs) (ht:TbOk tb) (htg:TbG tb) (hr:r∈zbg tb nm):FsOk n (rIn frs tb nm r)/\FsG (rIn frs tb nm r):=by
 obtain ⟨t,_,hm,hr,hs⟩:=ztn hr
 unfold rIn;rw [hs]
 exact ⟨hf.eins (t:=t) (ht.cols t hm) (htg.vals t hm r hr),hg.ins (t:=t) (htg.vals t hm r hr)⟩
theorem zAK {n:Nat} {e:X} {q:Qy} {r:List Qy} {frs:List Fr} {tb:List Tb} (he:XOk (n+1) e) (hs:e.sub=q::r) (hk:8<=e.kind/\e.kind<=12) (hf:FsOk (n+1) frs) (hg:FsG frs) (ht:TbOk tb) (htg:TbG tb)
  (hV:∀ w x,XOk n x->FsOk n w->FsG w->Pure S.An [x.av,fsl w,tsl tb] (.tup [(eval n x w tb).1.av,iv (eval n x w tb).2])):Pure S.AC [e.av,fsl frs,tsl tb] (.tup [(zeA (fun w x=>eval n x w tb) e frs tb).1.av,iv (zeA (fun w x=>eval n x w tb) e frs tb).2]):=by
 obtain ⟨_,_,_,hsub⟩:=id he
 obtain ⟨h1,h2,h3⟩:=hsub q (by rw [hs];simp)
 obtain ⟨v,c,ev,h⟩:=znk (fun w=>zba (fun x=>eval n x (rIn frs tb q.frm w) tb) q.wh) (fun w x=>eval n x (rIn frs tb q.frm w) tb) e q frs tb (by rw [hs];rfl) (by have:=h1.1;simp only [Thin] at this;omega) ht.len ht.cols (ztm ht _) hf.short hk
  (fun w hw=>znN (fun x hx=>hV _ x (h3 x hx) (zdZ hf hg ht htg hw).1 (zdZ hf hg ht htg hw).2) fun x hx=>zbA n x _ tb (h3 x hx) (zdZ hf hg ht htg hw).2 htg)
  (fun w hw x hx=>hV _ x (h2 x hx) (zdZ hf hg ht htg hw).1 (zdZ hf hg ht htg hw).2)
  (zkZ _ _ _ _ _ (fun w hw its hi=>zkK _ _ _ _ (fun x hx=>zbA n x _ tb (h2 x hx) (zdZ hf hg ht htg hw).2 htg) hi) (fun v hv=>by cases hv))
 have ea:=zAH (F:=fun w x=>eval n x w tb) (frs:=frs) (tb:=tb) hs
 rw [← ea,← ev];exact h
theorem zdP:∀ (n:Nat) (e:X) (frs:List Fr) (tb:List Tb),XOk n e->FsOk n frs->FsG frs->TbOk tb->TbG tb->Pure S.An [e.av,fsl frs,tsl tb] (.tup [(eval n e frs tb).1.av,iv (eval n e frs tb).2])
 | 0,e,frs,tb,h,_,_,_,_=>h.elim
 | n+1,e,frs,tb,h,hf,hg,ht,htg=>by
  obtain ⟨_,h2,h3,h4⟩:=id h
  cases hs:e.sub with
  | nil =>
   obtain ⟨v,c,ev,hc⟩:=zn5 (fun x=>eval n x frs tb) e frs tb (n+1) hf hs (by rw [hs];rfl) h2.1.few (fun x hx=>zdP n x frs tb (h3 x hx) hf.less hg ht htg) (fun x hx=>zbA n x frs tb (h3 x hx) hg htg) fun ho l hl hl2=>zxU ho l hl hl2
   have e2:(v,c)=eval (n+1) e frs tb:=by rw [ev,zBQ _ hs];rfl
   rw [← e2];exact hc
  | cons q r =>
   have hfk:(!zcQ e)=false->8<=e.kind/\e.kind<=12:=fun h=>by
    have hfm:zcd e=true:=by rw [← zia];simpa using h
    unfold zcd at hfm
    rw [hs] at hfm
    have:=(zeC Zs hfm).2.2.2
    omega
   obtain ⟨v,c,ev,hc⟩:=zn6 (zeA (fun w x=>eval n x w tb) e frs tb) e frs tb (fun h=>by have:=hfk h;simp;omega) (fun h=>by have:=hfk h;simp;omega) (by rw [hs];first|(simp;done)|(simp;omega)) fun hsh =>
    zAK h hs (hfk hsh) hf hg ht htg fun w x hx hw hwg=>zdP n x w tb hx hw hwg ht htg
   have e2:(v,c)=eval (n+1) e frs tb:=by
    rw [ev]
    show _=valF _ _ _ _ _ _
    cases hsh:zcQ e
    ·unfold valF
     rw [zia] at hsh
     rw [hsh];rfl
    ·have h8:=hfk (by rw [hsh];rfl)
     rw [zAr (by rw [← zia];exact hsh) h8.1 h8.2];rfl
   rw [← e2];exact hc
theorem zzt {n:Nat} {q:Qy} {frs:List Fr} {tb:List Tb} (hq:QOk n q) (hfo:FsOk (n+1) frs) (hto:TbOk tb) (hfg:FsG frs) (htg:TbG tb) (hv:∀ x∈tb,∀ r∈x.rows,zac r.vals) :
  Pure S.Ba [q.av,fsl frs,tsl tb] (.tup [.sl ((zbL n q frs tb).1.map vrow),iv (zbL n q frs tb).2]):=by
 obtain ⟨v,c,ev,h⟩:=zse (fun w=>zba (fun x=>eval n x (rIn frs tb q.frm w) tb) q.wh) (fun w x=>eval n x (rIn frs tb q.frm w) tb) q frs tb (by have:=hq.few;simp only [Few] at this;omega) hto.len hto.cols (ztm hto _) hfo.short
  (fun r hr=>by obtain ⟨t,_,hm,hr,_⟩:=ztn hr;exact hv t hm r hr)
  (fun w hw=>znN (fun x hx=>zdP n x _ tb (hq.wh x hx) (zdZ hfo hfg hto htg hw).1 (zdZ hfo hfg hto htg hw).2 hto htg) fun x hx=>zbA n x _ tb (hq.wh x hx) (zdZ hfo hfg hto htg hw).2 htg)
  (fun w hw x hx=>zdP n x _ tb (hq.items x hx) (zdZ hfo hfg hto htg hw).1 (zdZ hfo hfg hto htg hw).2 hto htg)
 have e2:(v,c)=zbL n q frs tb:=by
  rw [ev]
  unfold zbL ziR
  cases hf:zaK tb q.frm with
  | none=>rw [(zhm hf).2];rfl
  | some t =>
   obtain ⟨h1,h2⟩:=zhn hf
   simp only [h1,h2,rIn,Bool.not_true,cond_false]
   rfl
 rw [← e2];exact h
theorem zxj {p:Prop} (h:p:=by first|assumption|(have q1:=‹decide (idxF _ _ _ < (0:Int))=false›;have q2:=‹decide (_<=idxF _ _ _)=false›;simp only [decide_eq_false_iff_not,Int.not_lt,Int.not_le,List.length_map] at q1 q2;omega)):p:=h
theorem zxk {p:Prop} (h:p:=by first|exact hI.bad3 hx ‹_›|exact hI.badv hx ‹_› ‹_›|exact hI.bad17 hx ‹_› ‹_› ‹_›):p:=h
theorem ziW {p:Prop} (h:p:=by first|assumption|exact as0|omega):p:=h
theorem ziX {p:Prop} (h:p:=by first|assumption|exact tu0|omega):p:=h
def asgR (f:X->V × Int) (s:Sch):List Se->List V->List V × Int
 | [],v=>(v,0)
 | x::r,v=>bif decide (idxF (fun c=>colC c x.col) s.cols 0 < 0) then ([],3) else bif (f x.ex).2 != 0 then ([],(f x.ex).2) else bif decide ((v.length:Int)<=idxF (fun c=>colC c x.col) s.cols 0) then ([],17) else asgR f s r (v.set (idxF (fun c=>colC c x.col) s.cols 0).toNat (f x.ex).1)
def tchU (tr:Rw->Bool × Int) (ag:Rw->List V × Int):List Rw->List Pr->Ch × Int
 | [],u=>(⟨[],[],u⟩,0)
 | r::l,u=>bif (tr r).2 != 0 then (ch0,(tr r).2) else bif !(tr r).1 then tchU tr ag l u else bif (ag r).2 != 0 then (ch0,(ag r).2) else tchU tr ag l (u++[⟨r.id,r.vals,(ag r).1⟩])
structure TuI (tr:Rw->Bool × Int) (ag:Rw->List V × Int) (rows:List Rw) (i:Nat) (u:List Pr):Prop where
 eq:tchU tr ag rows []=tchU tr ag (rows.drop i) u
 len:u.length<=i
theorem zyR {nw:List V} {k:Int} (h1:decide (k < 0)=false) (h3:decide ((nw.length:Int)<=k)=false):OwnAt (nw.map V.cells) nw.length k:=by
 simp only [decide_eq_false_iff_not,Int.not_lt,Int.not_le] at h1 h3
 exact ⟨by simp,h1,by omega⟩
structure AsI (f:X->V × Int) (s:Sch) (sets:List Se) (v0:List V) (i:Nat) (nw:List V):Prop where
 eq:asgR f s sets v0=asgR f s (sets.drop i) nw
 len:nw.length=v0.length
section
variable {f : X -> V × Int} {s : Sch} {sets : List Se} {v0 nw : List V} {i : Nat} {x : Se} {c : Int}
theorem as0:AsI f s sets v0 0 v0:=⟨rfl,rfl⟩
theorem AsI.go (h:AsI f s sets v0 i nw) (hx:sets[i]?=some x) (h1:decide (idxF (fun c=>colC c x.col) s.cols 0 < 0)=false) (h2:((f x.ex).2 != 0)=false) (h3:decide ((nw.length:Int)<=idxF (fun c=>colC c x.col) s.cols 0)=false):AsI f s sets v0 (i+1) (nw.set (idxF (fun c=>colC c x.col) s.cols 0).toNat (f x.ex).1):=by
 refine ⟨?_,by rw [List.length_set];exact h.len⟩
 rw [h.eq,zap hx];simp only [asgR,h1,h2,h3,cond_false]
theorem AsI.bad3 (h:AsI f s sets v0 i nw) (hx:sets[i]?=some x) (h1:decide (idxF (fun c=>colC c x.col) s.cols 0 < 0)=true):ch0=ch0/\(3:Int)≠0/\(asgR f s sets v0).2=3:=by
 refine ⟨rfl,by decide,?_⟩
 rw [h.eq,zap hx];simp only [asgR,h1,cond_true]
theorem AsI.badv (h:AsI f s sets v0 i nw) (hx:sets[i]?=some x) (h1:decide (idxF (fun c=>colC c x.col) s.cols 0 < 0)=false) (h2:((f x.ex).2 != 0)=true):ch0=ch0/\(f x.ex).2≠0/\(asgR f s sets v0).2=(f x.ex).2:=by
 refine ⟨rfl,by simpa using h2,?_⟩
 rw [h.eq,zap hx];simp only [asgR,h1,h2,cond_true,cond_false]
theorem AsI.bad17 (h:AsI f s sets v0 i nw) (hx:sets[i]?=some x) (h1:decide (idxF (fun c=>colC c x.col) s.cols 0 < 0)=false) (h2:((f x.ex).2 != 0)=false) (h3:decide ((nw.length:Int)<=idxF (fun c=>colC c x.col) s.cols 0)=true):ch0=ch0/\(17:Int)≠0/\(asgR f s sets v0).2=17:=by
 refine ⟨rfl,by decide,?_⟩
 rw [h.eq,zap hx];simp only [asgR,h1,h2,h3,cond_true,cond_false]
theorem AsI.fin (h:AsI f s sets v0 sets.length nw):asgR f s sets v0=(nw,0):=by
 rw [h.eq,List.drop_length];rfl
end
theorem zsk (l:List V) (hl:zac l):∃ (n:Nat),n=l.length/\zaa E0 S.C7 [vsl l] [] (.own 0 n) [.row Ty.Value (l.map V.cells) false]:=by
 exact ⟨(List.map V.cells l).length,Zs,wkK At.C7 [sqx (AllLen (List.map V.cells l) 3/\((List.map V.cells l).length * 32).le 140737488355328)] kr⟩
noncomputable def zvZ (f:X->V × Int) (a:Ac) (t:Tb) (frs inn:List Fr) (tb:List Tb) (io:Nat) (y:Rw) (u:List Pr) (i:Nat) (nw:List V):Cfg:=zaj B.Ay 1 [(2,fsl frs),(3,tsl tb),(4,.p 0 0),(5,.p 1 0),(8,.p 2 0),(10,.p 3 0),(12,.p 5 0),(13,fsl inn),(16,.own 6 nw.length),(23,.sl (t.rows.map Rw.cells)),(24,iv ((t.rows.map Rw.cells).length:Nat)),(25,iv (io:Nat)),(63,.sl (a.sets.map Se.cells)),(64,iv ((a.sets.map Se.cells).length:Nat)),(65,iv (i:Nat))] [.box a.cells,.box t.cells,.box [.nl,.nl,.nl],.box [.nl,.nl,.own 4 u.length],.row Ty.Pair (u.map Pr.cells) false,.box y.cells,.row Ty.Value (nw.map V.cells) false]
theorem zhz (f:X->V × Int) (a:Ac) (t:Tb) (frs inn:List Fr) (tb:List Tb) (io:Nat) (y:Rw) (u:List Pr) (hcl:zac t.sch.cols) (hl:zac a.sets) (hvy:zac y.vals) (hf:∀ x∈a.sets,Pure S.An [x.ex.av,fsl inn,tsl tb] (.tup [(f x.ex).1.av,iv (f x.ex).2])) (i:Nat) (nw:List V) (hi:i<=(a.sets).length) (hI:AsI f t.sch a.sets y.vals i nw):(∃ (nw':List V),(AsI f t.sch a.sets y.vals (a.sets).length nw')/\(decide ((((a.sets).length:Nat):Int) < (((a.sets.map Se.cells).length:Nat):Int))=false)/\∀ R,Good E0 B.Ay [] (zvZ f a t frs inn tb io y u (a.sets).length nw') R->Good E0 B.Ay [] (zvZ f a t frs inn tb io y u i nw) R)\/(∃ (r:Ch) (c:Int),(r=ch0/\c≠0/\(asgR f t.sch a.sets y.vals).2=c)/\Good E0 B.Ay [] (zvZ f a t frs inn tb io y u i nw) (Shut 0 fun rZ hZ=>rZ=(.tup [Ch.av r,iv c])/\hZ=[])):=by
 have hk:=hi;revert i nw;refine zlp ((a.sets).length) (fun i hlt ih nw hi hI _=>?_)
 obtain ⟨x,hx,h0,hw⟩:=zlq (l:=a.sets) ((a.sets.map Se.cells).length) hlt
 have hfx:=hf x (List.mem_of_getElem? hx);have hnl:zac nw:=(by have:=hI.len;simp only [zac] at *;omega)
 let p_1:List St:=[sb h0,se (zaf Se.cells hx rfl),sc (znE t.sch x.col zxj)]
 cases h1:decide (idxF (fun c=>colC c x.col) t.sch.cols 0 < 0)
 ·cases h2:(f x.ex).snd != 0
  ·let p_2:List St:=p_1++[sb h1,sc hfx,sb h2,sqx (nw.length=(List.map V.cells nw).length)]
   cases h3:decide ((nw.length:Int)<=idxF (fun c=>colC c x.col) t.sch.cols 0)
   ·obtain ⟨x4,e4⟩:=zaY (l:=nw) (i:=(idxF (fun c=>colC c x.col) t.sch.cols 0).toNat) zxj
    exact (ih (nw.set (idxF (fun c=>colC c x.col) t.sch.cols 0).toNat (f x.ex).fst) Zo (by exact hI.go hx ‹_› ‹_› ‹_›) Zo).elim (fun ⟨nwZ,qZ,xZ,gZ⟩=>.inl ⟨nwZ,qZ,xZ,fun R hg=>zab (wkl (p_2++[sb h3,sq (zyR h1 h3),sx (.el x4.cells) (And.intro (owed (p:=True/\True/\True/\True)) (ze3 V.cells (n:=nw.length) Zs e4)),si hw]) [2,3,4,5,8,10,12,13,16,23,24,25,63,64,65] 7 kr (zaF (show ([(2,fsl frs),(3,tsl tb),(4,AV.p 0 0),(5,AV.p 1 0),(8,AV.p 2 0),(10,AV.p 3 0),(12,AV.p 5 0),(13,fsl inn),(16,AV.own 6 nw.length),(23,ZW t.rows),(24,iv (↑(List.map Rw.cells t.rows).length:Int)),(25,iv (io:Int)),(63,ZE a.sets),(64,iv (↑(List.map Se.cells a.sets).length:Int)),(65,iv (↑(i+1):Int))]:TS)=_ from Zcv5) (show ([Blk.box [iv a.kind,sv a.table,AV.sl (List.map (fun r=>[AV.sl (zad r)]) a.rows),AV.sl (zag a.query),ZE a.sets,AV.sl (zad a.wh),sv a.text],Blk.box [sv t.sch.name,ZC t.sch.cols,iv t.next,ZW t.rows],Blk.box [AV.nl,AV.nl,AV.nl],Blk.box [AV.nl,AV.nl,AV.own 4 u.length],Blk.row Ty.Pair (List.map Pr.cells u) false,Blk.box [iv y.id,vsl y.vals],Blk.row Ty.Value ((List.map V.cells nw).set (idxF (fun c=>colC c x.col) t.sch.cols 0).toNat [iv (f x.ex).fst.kind,iv (f x.ex).fst.int,sv (f x.ex).fst.text]) false]:Heap)=_ from Zcv5) (gZ R hg)))⟩) (fun ⟨rY,cY,pZ,gZ⟩=>.inr ⟨rY,cY,pZ,zab (wkl [sb h0,se (zaf Se.cells hx rfl),sc (znE t.sch x.col zxj),sb h1,sc hfx,sb h2,sqx (nw.length=(List.map V.cells nw).length),sb h3,sq (zyR h1 h3),sx (.el x4.cells) (And.intro (owed (p:=True/\True/\True/\True)) (ze3 V.cells (n:=nw.length) Zs e4)),si hw] [2,3,4,5,8,10,12,13,16,23,24,25,63,64,65] 7 kr (zaF (show ([(2,fsl frs),(3,tsl tb),(4,AV.p 0 0),(5,AV.p 1 0),(8,AV.p 2 0),(10,AV.p 3 0),(12,AV.p 5 0),(13,fsl inn),(16,AV.own 6 nw.length),(23,ZW t.rows),(24,iv (↑(List.map Rw.cells t.rows).length:Int)),(25,iv (io:Int)),(63,ZE a.sets),(64,iv (↑(List.map Se.cells a.sets).length:Int)),(65,iv (↑(i+1):Int))]:TS)=_ from Zcv5) (show ([Blk.box [iv a.kind,sv a.table,AV.sl (List.map (fun r=>[AV.sl (zad r)]) a.rows),AV.sl (zag a.query),ZE a.sets,AV.sl (zad a.wh),sv a.text],Blk.box [sv t.sch.name,ZC t.sch.cols,iv t.next,ZW t.rows],Blk.box [AV.nl,AV.nl,AV.nl],Blk.box [AV.nl,AV.nl,AV.own 4 u.length],Blk.row Ty.Pair (List.map Pr.cells u) false,Blk.box [iv y.id,vsl y.vals],Blk.row Ty.Value ((List.map V.cells nw).set (idxF (fun c=>colC c x.col) t.sch.cols 0).toNat [iv (f x.ex).fst.kind,iv (f x.ex).fst.int,sv (f x.ex).fst.text]) false]:Heap)=_ from Zcv5) gZ))⟩)
   ·exact .inr ⟨Ch.mk [] [] [],17,zxk,zab (wkr (p_2++[sb h3]) kr)⟩
  ·exact .inr ⟨Ch.mk [] [] [],(f x.ex).snd,zxk,zab (wkr (p_1++[sb h1,sc hfx,sb h2]) kr)⟩
 ·exact .inr ⟨Ch.mk [] [] [],3,zxk,zab (wkr (p_1++[sb h1]) kr)⟩
section
variable {tr : Rw -> Bool × Int} {ag : Rw -> List V × Int} {rows : List Rw} {i : Nat} {u : List Pr} {x : Rw} {nw : List V} {r : Ch} {c : Int}
theorem tu0:TuI tr ag rows 0 []:=⟨rfl,by simp⟩
theorem TuI.skip (h:TuI tr ag rows i u) (hx:rows[i]?=some x) (h1:((tr x).2 != 0)=false) (h2:(!(tr x).1)=true):TuI tr ag rows (i+1) u:=by
 refine ⟨?_,by have:=h.len;omega⟩
 rw [h.eq,zap hx];simp only [tchU,h1,h2,cond_true,cond_false]
theorem TuI.go (h:TuI tr ag rows i u) (hx:rows[i]?=some x) (h1:((tr x).2 != 0)=false) (h2:(!(tr x).1)=false) (ha:ag x=(nw,0)):TuI tr ag rows (i+1) (u++[⟨x.id,x.vals,nw⟩]):=by
 refine ⟨?_,by have:=h.len;simp;omega⟩
 have h5:((0:Int) != 0)=false:=rfl
 rw [h.eq,zap hx];simp only [tchU,h1,h2,ha,h5,cond_false]
theorem TuI.bad (h:TuI tr ag rows i u) (hx:rows[i]?=some x) (h1:((tr x).2 != 0)=true):(ch0,(tr x).2)=tchU tr ag rows []:=by
 rw [h.eq,zap hx];simp only [tchU,h1,cond_true]
theorem TuI.bad2 (h:TuI tr ag rows i u) (hx:rows[i]?=some x) (h1:((tr x).2 != 0)=false) (h2:(!(tr x).1)=false) (hc:r=ch0/\c≠0/\(ag x).2=c):(r,c)=tchU tr ag rows []:=by
 have h5:(c != 0)=true:=by simpa using hc.2.1
 rw [h.eq,zap hx,hc.1];simp only [tchU,h1,h2,hc.2.2,h5,cond_true,cond_false]
theorem TuI.fin (h:TuI tr ag rows rows.length u):(Ch.mk [] [] u,0)=tchU tr ag rows []:=by
 rw [h.eq,List.drop_length];rfl
end
abbrev agR (F:Rw->X->V × Int) (t:Tb) (a:Ac) (r:Rw):List V × Int:=asgR (F r) t.sch a.sets r.vals
theorem copyO (l:List V) (hl:zac l):zaa E0 S.C7 [vsl l] [] (.own 0 l.length) [.row Ty.Value (l.map V.cells) false]:=by
 obtain ⟨n,rfl,h⟩:=zsk l hl
 exact h
noncomputable def zv1 (tr:Rw->Bool × Int) (F:Rw->X->V × Int) (a:Ac) (t:Tb) (frs:List Fr) (tb:List Tb) (i:Nat) (u:List Pr):Cfg:=zaj B.Ay 0 [(2,fsl frs),(3,tsl tb),(4,.p 0 0),(5,.p 1 0),(8,.p 2 0),(10,.p 3 0),(23,.sl (t.rows.map Rw.cells)),(24,iv ((t.rows.map Rw.cells).length:Nat)),(25,iv (i:Nat))] [.box a.cells,.box t.cells,.box [.nl,.nl,.nl],.box [.nl,.nl,.own 4 u.length],.row Ty.Pair (u.map Pr.cells) false]
theorem zhB (tr:Rw->Bool × Int) (F:Rw->X->V × Int) (a:Ac) (t:Tb) (frs:List Fr) (tb:List Tb) (hkd:(a.kind==3)=false) (hrw:t.rows.length<=1000) (hfr:zac frs) (hcl:zac t.sch.cols) (hsl:zac a.sets) (hv:∀ r∈t.rows,zac r.vals) (hT:∀ r∈t.rows,Pure S.A5 [xsl a.wh,fsl (zax frs t.sch r.vals),tsl tb] (.tup [bv (tr r).1,iv (tr r).2])) (hF:∀ r∈t.rows,∀ x∈a.sets,Pure S.An [x.ex.av,fsl (zax frs t.sch r.vals),tsl tb] (.tup [(F r x.ex).1.av,iv (F r x.ex).2])) (i:Nat) (u:List Pr) (hi:i<=(t.rows).length) (hI:TuI tr (agR F t a) t.rows i u):(∃ (u':List Pr),(TuI tr (agR F t a) t.rows (t.rows).length u')/\(decide ((((t.rows).length:Nat):Int) < (((t.rows.map Rw.cells).length:Nat):Int))=false)/\∀ R,Good E0 B.Ay [] (zv1 tr F a t frs tb (t.rows).length u') R->Good E0 B.Ay [] (zv1 tr F a t frs tb i u) R)\/(∃ (r:Ch) (c:Int),(r,c)=tchU tr (agR F t a) t.rows []/\Good E0 B.Ay [] (zv1 tr F a t frs tb i u) (Shut 0 fun rZ hZ=>rZ=(.tup [Ch.av r,iv c])/\hZ=[])):=by
 have hk:=hi;revert i u;refine zlp ((t.rows).length) (fun i hlt ih u hi hI _=>?_)
 obtain ⟨x,hx,h0,hw⟩:=zlq (l:=t.rows) ((t.rows.map Rw.cells).length) hlt
 have hTx:=hT x (List.mem_of_getElem? hx);have hFx:=hF x (List.mem_of_getElem? hx);have hvx:=hv x (List.mem_of_getElem? hx);have hcp:=copyO x.vals hvx;have ho:u.length<=1000000000:=(by have:=hI.len;have:=zbY hx;omega)
 let p_1:List St:=[sb h0,se (zaf Rw.cells hx rfl),sc (zbk frs t.sch x.vals ziW),sc hTx]
 cases h1:(tr x).snd != 0
 ·cases h2:!(tr x).fst
  ·rcases zhz (F x) a t frs (zax frs t.sch x.vals) tb i x u ziW ziW ziW hFx 0 x.vals ziW ziW with ⟨nw3,q3,q3_1,g3⟩|⟨r3_0,r3_1,p3_0,g3⟩
   ·exact (ih (u++[Pr.mk x.id x.vals nw3]) Zo (by first|exact hI.skip hx ‹_› ‹_›|exact hI.go hx ‹_› ‹_› (AsI.fin ‹_›)) Zo).elim (fun ⟨uZ,qZ,xZ,gZ⟩=>.inl ⟨uZ,qZ,xZ,fun R hg=>zab (wkl (p_1++[sb h1,sb h2,sb hkd,sc hcp]) [2,3,4,5,8,10,12,13,16,23,24,25,63,64,65] 7 kr (g3 _ (zab (wkl [sb q3_1,sd [(6,[sc hcp]),(9,[sqx (True/\x.vals.length=(List.map V.cells x.vals).length/\nw3.length=(List.map V.cells nw3).length/\True)]),(10,[sqA (List.map Pr.cells u) [[iv x.id,vsl x.vals,vsl nw3]] u.length 3 56])],si hw] [2,3,4,5,8,10,23,24,25] 5 kr (zaF rfl (show ([Blk.box [iv a.kind,sv a.table,AV.sl (List.map (fun r=>[AV.sl (zad r)]) a.rows),AV.sl (zag a.query),ZE a.sets,AV.sl (zad a.wh),sv a.text],Blk.box [sv t.sch.name,ZC t.sch.cols,iv t.next,ZW t.rows],Blk.box [AV.nl,AV.nl,AV.nl],Blk.box [AV.nl,AV.nl,AV.own 4 (List.map Pr.cells u++[[iv x.id,vsl x.vals,vsl nw3]]).length],Blk.row Ty.Pair (List.map Pr.cells u++[[iv x.id,vsl x.vals,vsl nw3]]) false]:Heap)=_ from Zcv5) (gZ R hg))))))⟩) (fun ⟨rY,cY,pZ,gZ⟩=>.inr ⟨rY,cY,pZ,zab (wkl [sb h0,se (zaf Rw.cells hx rfl),sc (zbk frs t.sch x.vals ziW),sc hTx,sb h1,sb h2,sb hkd,sc hcp] [2,3,4,5,8,10,12,13,16,23,24,25,63,64,65] 7 kr (g3 _ (zab (wkl [sb q3_1,sd [(6,[sc hcp]),(9,[sqx (True/\x.vals.length=(List.map V.cells x.vals).length/\nw3.length=(List.map V.cells nw3).length/\True)]),(10,[sqA (List.map Pr.cells u) [[iv x.id,vsl x.vals,vsl nw3]] u.length 3 56])],si hw] [2,3,4,5,8,10,23,24,25] 5 kr (zaF rfl (show ([Blk.box [iv a.kind,sv a.table,AV.sl (List.map (fun r=>[AV.sl (zad r)]) a.rows),AV.sl (zag a.query),ZE a.sets,AV.sl (zad a.wh),sv a.text],Blk.box [sv t.sch.name,ZC t.sch.cols,iv t.next,ZW t.rows],Blk.box [AV.nl,AV.nl,AV.nl],Blk.box [AV.nl,AV.nl,AV.own 4 (List.map Pr.cells u++[[iv x.id,vsl x.vals,vsl nw3]]).length],Blk.row Ty.Pair (List.map Pr.cells u++[[iv x.id,vsl x.vals,vsl nw3]]) false]:Heap)=_ from Zcv5) gZ)))))⟩)
   ·exact .inr ⟨r3_0,r3_1,(by first|exact hI.bad hx ‹_›|exact hI.bad2 hx ‹_› ‹_› ‹_›),zab (wkl (p_1++[sb h1,sb h2,sb hkd,sc hcp]) [2,3,4,5,8,10,12,13,16,23,24,25,63,64,65] 7 kr g3)⟩
  ·exact (ih u Zo (by first|exact hI.skip hx ‹_› ‹_›|exact hI.go hx ‹_› ‹_› (AsI.fin ‹_›)) Zo).elim (fun ⟨uZ,qZ,xZ,gZ⟩=>.inl ⟨uZ,qZ,xZ,fun R hg=>zab (wkl (p_1++[sb h1,sb h2,si hw]) [2,3,4,5,8,10,23,24,25] 5 kr (gZ R hg))⟩) (fun ⟨rY,cY,pZ,gZ⟩=>.inr ⟨rY,cY,pZ,zab (wkl [sb h0,se (zaf Rw.cells hx rfl),sc (zbk frs t.sch x.vals ziW),sc hTx,sb h1,sb h2,si hw] [2,3,4,5,8,10,23,24,25] 5 kr gZ)⟩)
 ·exact .inr ⟨Ch.mk [] [] [],(tr x).snd,(by first|exact hI.bad hx ‹_›|exact hI.bad2 hx ‹_› ‹_› ‹_›),zab (wkr (p_1++[sb h1]) kr)⟩
theorem zmJ (tr:Rw->Bool × Int) (F:Rw->X->V × Int) (a:Ac) (t:Tb) (frs:List Fr) (tb:List Tb) (hkd:(a.kind==3)=false) (hrw:t.rows.length<=1000) (hfr:zac frs) (hcl:zac t.sch.cols) (hsl:zac a.sets) (hv:∀ r∈t.rows,zac r.vals) (hT:∀ r∈t.rows,Pure S.A5 [xsl a.wh,fsl (zax frs t.sch r.vals),tsl tb] (.tup [bv (tr r).1,iv (tr r).2])) (hF:∀ r∈t.rows,∀ x∈a.sets,Pure S.An [x.ex.av,fsl (zax frs t.sch r.vals),tsl tb] (.tup [(F r x.ex).1.av,iv (F r x.ex).2])):∃ (r:Ch) (c:Int),(r,c)=tchU tr (agR F t a) t.rows []/\zaa E0 S.Ay [a.av,t.av,fsl frs,tsl tb] [] (.tup [r.av,iv c]) []:=by
 rcases zhB tr F a t frs tb ziX ziX ziX ziX ziX ziX hT hF 0 ([]) ziX ziX with ⟨u1,q1,q1_1,g1⟩|⟨r1_0,r1_1,p1_0,g1⟩
 ·exact ⟨Ch.mk [] [] u1,0,(by first|assumption|exact TuI.fin ‹_›),wkcN At.Ay [] [2,3,4,5,8,10,23,24,25] 4 [(.ob 3 2 Ty.Pair,5)] kr (g1 _ (zab (wkr [sqx ((True/\True/\u1.length=(List.map Pr.cells u1).length/\True)/\True/\True),sb q1_1] kr)))⟩
 ·exact ⟨r1_0,r1_1,(by first|assumption|exact TuI.fin ‹_›),wkcN At.Ay [] [2,3,4,5,8,10,23,24,25] 4 [(.ob 3 2 Ty.Pair,5)] kr (g1)⟩
theorem zmr {p:Prop} (h:p:=by first|assumption|exact td0|omega):p:=h
def tchD (tr:Rw->Bool × Int):List Rw->List Int->Ch × Int
 | [],d=>(⟨[],d,[]⟩,0)
 | r::l,d=>bif (tr r).2 != 0 then (ch0,(tr r).2) else bif !(tr r).1 then tchD tr l d else tchD tr l (d++[r.id])
structure TdI (tr:Rw->Bool × Int) (rows:List Rw) (i:Nat) (d:List Int):Prop where
 eq:tchD tr rows []=tchD tr (rows.drop i) d
 len:d.length<=i
section
variable {tr : Rw -> Bool × Int} {rows : List Rw} {i : Nat} {d : List Int} {x : Rw}
theorem td0:TdI tr rows 0 []:=⟨rfl,by simp⟩
theorem TdI.skip (h:TdI tr rows i d) (hx:rows[i]?=some x) (h1:((tr x).2 != 0)=false) (h2:(!(tr x).1)=true):TdI tr rows (i+1) d:=by
 refine ⟨?_,by have:=h.len;omega⟩
 rw [h.eq,zap hx];simp only [tchD,h1,h2,cond_true,cond_false]
theorem TdI.go (h:TdI tr rows i d) (hx:rows[i]?=some x) (h1:((tr x).2 != 0)=false) (h2:(!(tr x).1)=false):TdI tr rows (i+1) (d++[x.id]):=by
 refine ⟨?_,by have:=h.len;simp;omega⟩
 rw [h.eq,zap hx];simp only [tchD,h1,h2,cond_false]
theorem TdI.bad (h:TdI tr rows i d) (hx:rows[i]?=some x) (h1:((tr x).2 != 0)=true):(ch0,(tr x).2)=tchD tr rows []:=by
 rw [h.eq,zap hx];simp only [tchD,h1,cond_true]
theorem TdI.fin (h:TdI tr rows rows.length d):(Ch.mk [] d [],0)=tchD tr rows []:=by
 rw [h.eq,List.drop_length];rfl
end
noncomputable def zv0 (tr:Rw->Bool × Int) (a:Ac) (t:Tb) (frs:List Fr) (tb:List Tb) (i:Nat) (d:List Int):Cfg:=zaj B.Ay 0 [(2,fsl frs),(3,tsl tb),(4,.p 0 0),(5,.p 1 0),(8,.p 2 0),(10,.p 3 0),(23,.sl (t.rows.map Rw.cells)),(24,iv ((t.rows.map Rw.cells).length:Nat)),(25,iv (i:Nat))] [.box a.cells,.box t.cells,.box [.nl,.nl,.nl],.box [.nl,.own 4 d.length,.nl],.row Ty.int (d.map fun n=>[iv n]) false]
theorem zhA (tr:Rw->Bool × Int) (a:Ac) (t:Tb) (frs:List Fr) (tb:List Tb) (hkd:(a.kind==3)=true) (hrw:t.rows.length<=1000) (hfr:zac frs) (hT:∀ r∈t.rows,Pure S.A5 [xsl a.wh,fsl (zax frs t.sch r.vals),tsl tb] (.tup [bv (tr r).1,iv (tr r).2])) (i:Nat) (d:List Int) (hi:i<=(t.rows).length) (hI:TdI tr t.rows i d):(∃ (d':List Int),(TdI tr t.rows (t.rows).length d')/\(decide ((((t.rows).length:Nat):Int) < (((t.rows.map Rw.cells).length:Nat):Int))=false)/\∀ R,Good E0 B.Ay [] (zv0 tr a t frs tb (t.rows).length d') R->Good E0 B.Ay [] (zv0 tr a t frs tb i d) R)\/(∃ (r:Ch) (c:Int),(r,c)=tchD tr t.rows []/\Good E0 B.Ay [] (zv0 tr a t frs tb i d) (Shut 0 fun rZ hZ=>rZ=(.tup [Ch.av r,iv c])/\hZ=[])):=by
 have hk:=hi;revert i d;refine zlp ((t.rows).length) (fun i hlt ih d hi hI _=>?_)
 obtain ⟨x,hx,h0,hw⟩:=zlq (l:=t.rows) ((t.rows.map Rw.cells).length) hlt
 have hTx:=hT x (List.mem_of_getElem? hx);have ho:d.length<=1000000000:=(by have:=hI.len;have:=zbY hx;omega)
 let p_1:List St:=[sb h0,se (zaf Rw.cells hx rfl),sc (zbk frs t.sch x.vals (by first|assumption|omega|(simp;done)|(simp;omega))),sc hTx]
 let p_2:List St:=[sb h0,se (zaf Rw.cells hx rfl),sc (zbk frs t.sch x.vals (by first|assumption|omega|(simp;done)|(simp;omega))),sc hTx]
 cases h1:(tr x).snd != 0
 ·cases h2:!(tr x).fst
  ·exact (ih (d++[x.id]) Zo (by first|exact hI.skip hx ‹_› ‹_›|exact hI.go hx ‹_› ‹_›) Zo).elim (fun ⟨dZ,qZ,xZ,gZ⟩=>.inl ⟨dZ,qZ,xZ,fun R hg=>zab (wkl (p_1++[sb h1,sb h2,sb hkd,sqA (List.map (fun n=>[iv n]) d) [[iv x.id]] d.length 1 8,si hw]) [2,3,4,5,8,10,23,24,25] 5 kr (zaF rfl (show ([Blk.box [iv a.kind,sv a.table,AV.sl (List.map (fun r=>[AV.sl (zad r)]) a.rows),AV.sl (zag a.query),ZE a.sets,AV.sl (zad a.wh),sv a.text],Blk.box [sv t.sch.name,ZC t.sch.cols,iv t.next,ZW t.rows],Blk.box [AV.nl,AV.nl,AV.nl],Blk.box [AV.nl,AV.own 4 (List.map (fun n=>[iv n]) d++[[iv x.id]]).length,AV.nl],Blk.row Ty.int (List.map (fun n=>[iv n]) d++[[iv x.id]]) false]:Heap)=_ from Zcv5) (gZ R hg)))⟩) (fun ⟨rY,cY,pZ,gZ⟩=>.inr ⟨rY,cY,pZ,zab (wkl (p_2++[sb h1,sb h2,sb hkd,sqA (List.map (fun n=>[iv n]) d) [[iv x.id]] d.length 1 8,si hw]) [2,3,4,5,8,10,23,24,25] 5 kr (zaF rfl (show ([Blk.box [iv a.kind,sv a.table,AV.sl (List.map (fun r=>[AV.sl (zad r)]) a.rows),AV.sl (zag a.query),ZE a.sets,AV.sl (zad a.wh),sv a.text],Blk.box [sv t.sch.name,ZC t.sch.cols,iv t.next,ZW t.rows],Blk.box [AV.nl,AV.nl,AV.nl],Blk.box [AV.nl,AV.own 4 (List.map (fun n=>[iv n]) d++[[iv x.id]]).length,AV.nl],Blk.row Ty.int (List.map (fun n=>[iv n]) d++[[iv x.id]]) false]:Heap)=_ from Zcv5) gZ))⟩)
  ·exact (ih d Zo (by first|exact hI.skip hx ‹_› ‹_›|exact hI.go hx ‹_› ‹_›) Zo).elim (fun ⟨dZ,qZ,xZ,gZ⟩=>.inl ⟨dZ,qZ,xZ,fun R hg=>zab (wkl (p_1++[sb h1,sb h2,si hw]) [2,3,4,5,8,10,23,24,25] 5 kr (gZ R hg))⟩) (fun ⟨rY,cY,pZ,gZ⟩=>.inr ⟨rY,cY,pZ,zab (wkl (p_2++[sb h1,sb h2,si hw]) [2,3,4,5,8,10,23,24,25] 5 kr gZ)⟩)
 ·exact .inr ⟨Ch.mk [] [] [],(tr x).snd,(by exact hI.bad hx ‹_›),zab (wkr (p_1++[sb h1]) kr)⟩
theorem zmI (tr:Rw->Bool × Int) (a:Ac) (t:Tb) (frs:List Fr) (tb:List Tb) (hkd:(a.kind==3)=true) (hrw:t.rows.length<=1000) (hfr:zac frs) (hT:∀ r∈t.rows,Pure S.A5 [xsl a.wh,fsl (zax frs t.sch r.vals),tsl tb] (.tup [bv (tr r).1,iv (tr r).2])):∃ (r:Ch) (c:Int),(r,c)=tchD tr t.rows []/\zaa E0 S.Ay [a.av,t.av,fsl frs,tsl tb] [] (.tup [r.av,iv c]) []:=by
 rcases zhA tr a t frs tb zmr zmr zmr hT 0 ([]) zmr zmr with ⟨d1,q1,q1_1,g1⟩|⟨r1_0,r1_1,p1_0,g1⟩
 ·exact ⟨Ch.mk [] d1 [],0,(by first|assumption|exact TdI.fin ‹_›),wkcN At.Ay [] [2,3,4,5,8,10,23,24,25] 4 [(.ob 3 1 Ty.int,5)] kr (g1 _ (zab (wkr [sqx ((True/\d1.length=(List.map (fun n=>[iv n]) d1).length/\True/\True)/\True/\True),sb q1_1] kr)))⟩
 ·exact ⟨r1_0,r1_1,(by first|assumption|exact TdI.fin ‹_›),wkcN At.Ay [] [2,3,4,5,8,10,23,24,25] 4 [(.ob 3 1 Ty.int,5)] kr (g1)⟩
theorem zj7 {p:Prop} (h:p:=by first|assumption|(simp only [zac] at *;omega)|exact ⟨Nat.le_refl _,rfl⟩|exact inq0 ‹_› hr|(simp;done)):p:=h
theorem ztr {p:Prop} (h:p:=by first|exact zzY ‹_› ‹_›|exact zBc ‹_› ‹_›|exact zBb ‹_›):p:=h
theorem zts {p:Prop} (h:p:=by first|exact cq0 ‹_›|exact cqe ‹_› ‹_›|exact cqn ‹_› ‹_›):p:=h
theorem zmq {p:Prop} (h:p:=by first|omega|(simp only [zac,Few] at *;omega)):p:=h
abbrev PEr (f:X->V × Int) (x:X) (frs:List Fr) (tb:List Tb):Prop:=Pure S.An [x.av,fsl frs,tsl tb] (.tup [(f x).1.av,iv (f x).2])
abbrev PRr (g:Qy->List (List V) × Int) (q:Qy) (frs:List Fr) (tb:List Tb):Prop:=Pure S.Ba [q.av,fsl frs,tsl tb] (.tup [.sl ((g q).1.map vrow),iv (g q).2])
noncomputable def zvO (a:Ac) (t:Tb) (frs:List Fr) (tb:List Tb) (f:X->V × Int) (io:Nat) (y:List X) (out:List (List V)) (i:Nat) (row:List V):Cfg:=zaj B.As 1 [(2,fsl frs),(3,tsl tb),(4,.p 0 0),(8,.p 2 0),(10,.p 3 0),(11,iv ((t.sch.cols.map Col.cells).length:Nat)),(14,.own 5 row.length),(30,.sl (a.rows.map zau)),(31,iv ((a.rows.map zau).length:Nat)),(32,iv (io:Nat)),(41,xsl y),(42,iv ((zad y).length:Nat)),(43,iv (i:Nat))] [.box a.cells,.box t.cells,.box [.nl,.nl,.nl],.box [.own 4 out.length,.nl,.nl],.row Ty.LValue (out.map vrow) false,.row Ty.Value (row.map V.cells) false]
theorem zhw (a:Ac) (t:Tb) (frs:List Fr) (tb:List Tb) (f:X->V × Int) (io:Nat) (y:List X) (out:List (List V)) (hy:zac y) (hf:∀ x∈y,PEr f x frs tb) (i:Nat) (row:List V) (hi:i<=(y).length) (hI:row.length<=i/\zbq f y []=zbq f (y.drop i) row):(∃ (row':List V),(row'.length<=(y).length/\zbq f y []=zbq f (y.drop (y).length) row')/\(decide ((((y).length:Nat):Int) < (((zad y).length:Nat):Int))=false)/\∀ R,Good E0 B.As [] (zvO a t frs tb f io y out (y).length row') R->Good E0 B.As [] (zvO a t frs tb f io y out i row) R)\/(∃ (r:Ch) (c:Int),(r=ch0/\c≠0/\zbq f y []=([],c))/\Good E0 B.As [] (zvO a t frs tb f io y out i row) (Shut 0 fun rZ hZ=>rZ=(.tup [Ch.av r,iv c])/\hZ=[])):=by
 have hk:=hi;revert i row;refine zlp ((y).length) (fun i hlt ih row hi hI _=>?_)
 obtain ⟨x,hx,h0,hw⟩:=zlq (l:=y) ((zad y).length) hlt zmq
 have hx1:=hf x (List.mem_of_getElem? hx);have hrl:row.length<=1000000000:=by have:=hI.1;simp only [zac] at hy;omega
 cases h1:(f x).snd != 0
 ·exact (ih (row++[(f x).fst]) Zo (by exact ⟨by have:=hI.1;simp;omega,zqN hI.2 hx ‹_›⟩) Zo).elim (fun ⟨rowZ,qZ,xZ,gZ⟩=>.inl ⟨rowZ,qZ,xZ,fun R hg=>zab (wkl [sb h0,se (zbr hx),sc hx1,sb h1,sqA (List.map V.cells row) [[iv (f x).fst.kind,iv (f x).fst.int,sv (f x).fst.text]] row.length 3 32,si hw] [2,3,4,8,10,11,14,30,31,32,41,42,43] 6 kr (zao 14 5 (List.map V.cells row++[[iv (f x).fst.kind,iv (f x).fst.int,sv (f x).fst.text]]) (gZ R hg) (he:=Zcv5) (hm:=Zcv5)))⟩) (fun ⟨rY,cY,pZ,gZ⟩=>.inr ⟨rY,cY,pZ,zab (wkl [sb h0,se (zbr hx),sc hx1,sb h1,sqA (List.map V.cells row) [[iv (f x).fst.kind,iv (f x).fst.int,sv (f x).fst.text]] row.length 3 32,si hw] [2,3,4,8,10,11,14,30,31,32,41,42,43] 6 kr (zao 14 5 (List.map V.cells row++[[iv (f x).fst.kind,iv (f x).fst.int,sv (f x).fst.text]]) gZ (he:=Zcv5) (hm:=Zcv5)))⟩)
 ·exact .inr ⟨Ch.mk [] [] [],(f x).snd,(by exact ⟨rfl,ztM hI.2 hx ‹_›⟩),zab (wkr [sb h0,se (zbr hx),sc hx1,sb h1] kr)⟩
theorem zyH {x:List X} {n:Nat} {c:List Col} (h:((((zad x).length:Nat):Int) != (((c.map Col.cells).length:Nat):Int))=true):x.length≠c.length:=by
 simp only [bne_iff_ne,ne_eq,zbP,List.length_map] at h;omega
theorem zs8 {x:List X} {c:List Col} (h:((((zad x).length:Nat):Int) != (((c.map Col.cells).length:Nat):Int))=false):x.length=c.length:=by
 simp only [bne_eq_false_iff_eq,zbP,List.length_map] at h;omega
noncomputable def zvQ (a:Ac) (t:Tb) (frs:List Fr) (tb:List Tb) (f:X->V × Int) (i:Nat) (out:List (List V)):Cfg:=zaj B.As 0 [(2,fsl frs),(3,tsl tb),(4,.p 0 0),(8,.p 2 0),(10,.p 3 0),(11,iv ((t.sch.cols.map Col.cells).length:Nat)),(30,.sl (a.rows.map zau)),(31,iv ((a.rows.map zau).length:Nat)),(32,iv (i:Nat))] [.box a.cells,.box t.cells,.box [.nl,.nl,.nl],.box [.own 4 out.length,.nl,.nl],.row Ty.LValue (out.map vrow) false]
theorem zhy (a:Ac) (t:Tb) (frs:List Fr) (tb:List Tb) (f:X->V × Int) (hr:zac a.rows) (hf:∀ r∈a.rows,zac r/\∀ x∈r,PEr f x frs tb) (i:Nat) (out:List (List V)) (hi:i<=(a.rows).length) (hI:out.length<=i/\insL f t.sch.cols.length a.rows []=insL f t.sch.cols.length (a.rows.drop i) out):(∃ (out':List (List V)),(out'.length<=(a.rows).length/\insL f t.sch.cols.length a.rows []=insL f t.sch.cols.length (a.rows.drop (a.rows).length) out')/\(decide ((((a.rows).length:Nat):Int) < (((a.rows.map zau).length:Nat):Int))=false)/\∀ R,Good E0 B.As [] (zvQ a t frs tb f (a.rows).length out') R->Good E0 B.As [] (zvQ a t frs tb f i out) R)\/(∃ (r:Ch) (c:Int),(r=ch0/\c≠0/\insL f t.sch.cols.length a.rows []=([],c))/\Good E0 B.As [] (zvQ a t frs tb f i out) (Shut 0 fun rZ hZ=>rZ=(.tup [Ch.av r,iv c])/\hZ=[])):=by
 have hk:=hi;revert i out;refine zlp ((a.rows).length) (fun i hlt ih out hi hI _=>?_)
 obtain ⟨x,hx,h0,hw⟩:=zlq (l:=a.rows) ((a.rows.map zau).length) hlt zmq
 have hx1:=(hf x (List.mem_of_getElem? hx)).1;have hx2:=(hf x (List.mem_of_getElem? hx)).2;have hol:out.length<=1000000000:=by have:=hI.1;simp only [zac] at hr;omega
 let p_1:List St:=[sb h0,se (zaf zau hx rfl)]
 cases h1:(↑(zad x).length:Int) != (↑(List.map Col.cells t.sch.cols).length:Int)
 ·rcases zhw a t frs tb f i x out (by first|assumption|exact ⟨by simp,rfl⟩|omega) hx2 0 ([]) (by first|assumption|exact ⟨by simp,rfl⟩|omega) (by first|assumption|exact ⟨by simp,rfl⟩|omega) with ⟨row2,q2,q2_1,g2⟩|⟨r2_0,r2_1,p2_0,g2⟩
  ·exact (ih (out++[row2]) Zo (by exact ⟨by have:=hI.1;simp;omega,zsU hI.2 hx (zs8 ‹_›) (ztN (And.right ‹_<=_/\zbq f x []=_›))⟩) Zo).elim (fun ⟨outZ,qZ,xZ,gZ⟩=>.inl ⟨outZ,qZ,xZ,fun R hg=>zab (wklN (p_1++[sb h1]) [2,3,4,8,10,11,14,30,31,32,41,42,43] 5 [(.ot 14 Ty.Value,6)] kr (g2 _ (zab (wkl [sb q2_1,sqx (row2.length=(List.map V.cells row2).length/\True),sqA (List.map vrow out) [[vsl row2]] out.length 1 24,si hw] [2,3,4,8,10,11,30,31,32] 5 kr (zaF rfl (show ([Blk.box [iv a.kind,sv a.table,AV.sl (List.map (fun r=>[AV.sl (zad r)]) a.rows),AV.sl (zag a.query),ZE a.sets,AV.sl (zad a.wh),sv a.text],Blk.box [sv t.sch.name,ZC t.sch.cols,iv t.next,ZW t.rows],Blk.box [AV.nl,AV.nl,AV.nl],Blk.box [AV.own 4 (List.map vrow out++[[vsl row2]]).length,AV.nl,AV.nl],Blk.row Ty.LValue (List.map vrow out++[[vsl row2]]) false]:Heap)=_ from Zcv5) (gZ R hg))))))⟩) (fun ⟨rY,cY,pZ,gZ⟩=>.inr ⟨rY,cY,pZ,zab (wklN [sb h0,se (zaf zau hx rfl),sb h1] [2,3,4,8,10,11,14,30,31,32,41,42,43] 5 [(.ot 14 Ty.Value,6)] kr (g2 _ (zab (wkl [sb q2_1,sqx (row2.length=(List.map V.cells row2).length/\True),sqA (List.map vrow out) [[vsl row2]] out.length 1 24,si hw] [2,3,4,8,10,11,30,31,32] 5 kr (zaF rfl (show ([Blk.box [iv a.kind,sv a.table,AV.sl (List.map (fun r=>[AV.sl (zad r)]) a.rows),AV.sl (zag a.query),ZE a.sets,AV.sl (zad a.wh),sv a.text],Blk.box [sv t.sch.name,ZC t.sch.cols,iv t.next,ZW t.rows],Blk.box [AV.nl,AV.nl,AV.nl],Blk.box [AV.own 4 (List.map vrow out++[[vsl row2]]).length,AV.nl,AV.nl],Blk.row Ty.LValue (List.map vrow out++[[vsl row2]]) false]:Heap)=_ from Zcv5) gZ)))))⟩)
  ·exact .inr ⟨r2_0,r2_1,(by first|exact ⟨rfl,by decide,zm1 hI.2 hx (zyH (n:=0) ‹_›)⟩|exact ⟨(And.left ‹_=ch0/\_≠(0:Int)/\_›),(And.right ‹_=ch0/\_≠(0:Int)/\_›).1,zm0 hI.2 hx (zs8 ‹_›) (And.right ‹_=ch0/\_≠(0:Int)/\_›).2 (And.right ‹_=ch0/\_≠(0:Int)/\_›).1⟩),zab (wklN (p_1++[sb h1]) [2,3,4,8,10,11,14,30,31,32,41,42,43] 5 [(.ot 14 Ty.Value,6)] kr g2)⟩
 ·exact .inr ⟨Ch.mk [] [] [],5,(by first|exact ⟨rfl,by decide,zm1 hI.2 hx (zyH (n:=0) ‹_›)⟩|exact ⟨(And.left ‹_=ch0/\_≠(0:Int)/\_›),(And.right ‹_=ch0/\_≠(0:Int)/\_›).1,zm0 hI.2 hx (zs8 ‹_›) (And.right ‹_=ch0/\_≠(0:Int)/\_›).2 (And.right ‹_=ch0/\_≠(0:Int)/\_›).1⟩),zab (wkr (p_1++[sb h1]) kr)⟩
theorem zz7 {s:Sch} {l:List (List V)} {i:Nat} {x:List V} (h:(l.take i).all (okW s)=true) (hx:l[i]?=some x) (h1:((((x.map V.cells).length:Nat):Int) != (((s.cols.map Col.cells).length:Nat):Int))=false):(l.take (i+1)).all (okW s)=true :=
 zf0 h hx (by unfold okW wid;rw [h1];rfl)
theorem zBq {s:Sch} {l:List (List V)} {i:Nat} {x:List V} (hx:l[i]?=some x) (h1:((((x.map V.cells).length:Nat):Int) != (((s.cols.map Col.cells).length:Nat):Int))=true):(!l.all (okW s))=true:=by
 rw [zhM hx (show okW s x=false by unfold okW wid;rw [h1];rfl)];rfl
theorem zBr {s:Sch} {l:List (List V)} (h:(l.take l.length).all (okW s)=true):(!l.all (okW s))=false:=by
 rw [List.take_length] at h;rw [h];rfl
noncomputable def zvN (a:Ac) (t:Tb) (frs:List Fr) (tb:List Tb) (io:Nat) (l:List (List V)) (out:List (List V)) (i:Nat) :Cfg:=zaj B.As 3 [(2,fsl frs),(3,tsl tb),(8,.p 2 0),(10,.p 3 0),(11,iv ((t.sch.cols.map Col.cells).length:Nat)),(21,.sl (l.map vrow)),(71,.sl (zag a.query)),(72,iv ((zag a.query).length:Nat)),(73,iv (io:Nat)),(88,.sl (l.map vrow)),(89,iv ((l.map vrow).length:Nat)),(90,iv (i:Nat))] [.box a.cells,.box t.cells,.box [.nl,.nl,.nl],.box [.own 4 out.length,.nl,.nl],.row Ty.LValue (out.map vrow) false]
theorem zhv (a:Ac) (t:Tb) (frs:List Fr) (tb:List Tb) (io:Nat) (l:List (List V)) (out:List (List V)) (hl:zac l) (i:Nat)  (hi:i<=(l).length) (hI:(l.take i).all (okW t.sch)=true):(((l.take (l).length).all (okW t.sch)=true)/\(decide ((((l).length:Nat):Int) < (((l.map vrow).length:Nat):Int))=false)/\∀ R,Good E0 B.As [] (zvN a t frs tb io l out (l).length ) R->Good E0 B.As [] (zvN a t frs tb io l out i ) R)\/(∃ (r:Ch) (c:Int),(r=ch0/\c=5/\(!l.all (okW t.sch))=true)/\Good E0 B.As [] (zvN a t frs tb io l out i ) (Shut 0 fun rZ hZ=>rZ=(.tup [Ch.av r,iv c])/\hZ=[])):=by
 have hk:=hi;revert i;refine zlp ((l).length) (fun i hlt ih hi hI _=>?_)
 obtain ⟨x,hx,h0,hw⟩:=zlq (l:=l) ((l.map vrow).length) hlt zmq
 let p_1:List St:=[sb h0,se (zaf vrow hx rfl)]
 cases h1:(↑(List.map V.cells x).length:Int) != (↑(List.map Col.cells t.sch.cols).length:Int)
 ·exact (ih Zo (by exact zz7 hI hx ‹_›) Zo).elim (fun ⟨qZ,xZ,gZ⟩=>.inl ⟨qZ,xZ,fun R hg=>zab (wkl (p_1++[sb h1,si hw]) [2,3,8,10,11,21,71,72,73,88,89,90] 5 kr (gZ R hg))⟩) (fun ⟨rY,cY,pZ,gZ⟩=>.inr ⟨rY,cY,pZ,zab (wkl [sb h0,se (zaf vrow hx rfl),sb h1,si hw] [2,3,8,10,11,21,71,72,73,88,89,90] 5 kr gZ)⟩)
 ·exact .inr ⟨Ch.mk [] [] [],5,(by exact ⟨rfl,rfl,zBq hx ‹_›⟩),zab (wkr (p_1++[sb h1]) kr)⟩
theorem zqs {g:Qy->List (List V) × Int} {s:Sch} {l:List Qy} {i:Nat} {x:Qy} {acc a0:List (List V)} {r:Ch} {c:Int} (h:insQ g s l a0=insQ g s (l.drop i) acc) (hx:l[i]?=some x) (h1:((g x).2 != 0)=false) (hc:r=ch0/\c=5/\(!(g x).1.all (okW s))=true):r=ch0/\c≠0/\insQ g s l a0=([],c):=by
 have:=znU h hx h1 hc.2.2
 exact ⟨hc.1,by omega,by rw [this.2,hc.2.1]⟩
noncomputable def zvP (a:Ac) (t:Tb) (frs:List Fr) (tb:List Tb) (f:X->V × Int) (g:Qy->List (List V) × Int) (i:Nat) (out:List (List V)):Cfg:=zaj B.As 2 [(2,fsl frs),(3,tsl tb),(8,.p 2 0),(10,.p 3 0),(11,iv ((t.sch.cols.map Col.cells).length:Nat)),(71,.sl (zag a.query)),(72,iv ((zag a.query).length:Nat)),(73,iv (i:Nat))] [.box a.cells,.box t.cells,.box [.nl,.nl,.nl],.box [.own 4 out.length,.nl,.nl],.row Ty.LValue (out.map vrow) false]
theorem zhx (a:Ac) (t:Tb) (frs:List Fr) (tb:List Tb) (f:X->V × Int) (g:Qy->List (List V) × Int) (hf:∀ r∈a.rows,zac r/\∀ x∈r,PEr f x frs tb) (hq:a.query.length<=1000) (hg:∀ q∈a.query,(g q).1.length<=100000/\PRr g q frs tb) (i:Nat) (out:List (List V)) (hi:i<=(a.query).length) (hI:out.length<=bndQ i/\insQ g t.sch a.query (insA f t.sch a)=insQ g t.sch (a.query.drop i) out):(∃ (out':List (List V)),(out'.length<=bndQ (a.query).length/\insQ g t.sch a.query (insA f t.sch a)=insQ g t.sch (a.query.drop (a.query).length) out')/\(decide ((((a.query).length:Nat):Int) < (((zag a.query).length:Nat):Int))=false)/\∀ R,Good E0 B.As [] (zvP a t frs tb f g (a.query).length out') R->Good E0 B.As [] (zvP a t frs tb f g i out) R)\/(∃ (r:Ch) (c:Int),(r=ch0/\c≠0/\insQ g t.sch a.query (insA f t.sch a)=([],c))/\Good E0 B.As [] (zvP a t frs tb f g i out) (Shut 0 fun rZ hZ=>rZ=(.tup [Ch.av r,iv c])/\hZ=[])):=by
 have hk:=hi;revert i out;refine zlp ((a.query).length) (fun i hlt ih out hi hI _=>?_)
 obtain ⟨x,hx,h0,hw⟩:=zlq (l:=a.query) ((zag a.query).length) hlt zmq
 have hx0:=(hg x (List.mem_of_getElem? hx)).1;have hx1:zac (g x).1:=(by simp only [zac];omega);have hx2:=(hg x (List.mem_of_getElem? hx)).2;have hil:i < a.query.length:=(List.getElem?_eq_some_iff.1 hx).1;have hol:out.length+(g x).1.length<=1000000000:=zuS hI.1 hx0 Zo
 cases h1:(g x).snd != 0
 ·let p_1:List St:=[sb h0,se (zaC hx),sc hx2,sb h1]
  rcases zhv a t frs tb i ((g x).fst) out Za 0 Za Za with ⟨q2,q2_1,g2⟩|⟨r2_0,r2_1,p2_0,g2⟩
  ·exact (ih (out++(g x).fst) Zo (by exact ⟨by rw [List.length_append];exact zqb hI.1 (hg x (List.mem_of_getElem? hx)).1,zqr hI.2 hx ‹_› (zBr ‹_›)⟩) Zo).elim (fun ⟨outZ,qZ,xZ,gZ⟩=>.inl ⟨outZ,qZ,xZ,fun R hg=>zab (wkl p_1 [2,3,8,10,11,21,71,72,73,88,89,90] 5 kr (g2 _ (zab (wkl [sb q2_1,sqx (AllLen (List.map vrow (g x).fst) 1/\out.length=(List.map vrow out).length/\(((List.map vrow out).length+(List.map vrow (g x).fst).length) * 24).le 140737488355328),si hw] [2,3,8,10,11,71,72,73] 5 kr (zaF rfl (show ([Blk.box [iv a.kind,sv a.table,AV.sl (List.map (fun r=>[AV.sl (zad r)]) a.rows),AV.sl (zag a.query),ZE a.sets,AV.sl (zad a.wh),sv a.text],Blk.box [sv t.sch.name,ZC t.sch.cols,iv t.next,ZW t.rows],Blk.box [AV.nl,AV.nl,AV.nl],Blk.box [AV.own 4 (List.map vrow out++List.map vrow (g x).fst).length,AV.nl,AV.nl],Blk.row Ty.LValue (List.map vrow out++List.map vrow (g x).fst) false]:Heap)=_ from Zcv5) (gZ R hg))))))⟩) (fun ⟨rY,cY,pZ,gZ⟩=>.inr ⟨rY,cY,pZ,zab (wkl [sb h0,se (zaC hx),sc hx2,sb h1] [2,3,8,10,11,21,71,72,73,88,89,90] 5 kr (g2 _ (zab (wkl [sb q2_1,sqx (AllLen (List.map vrow (g x).fst) 1/\out.length=(List.map vrow out).length/\(((List.map vrow out).length+(List.map vrow (g x).fst).length) * 24).le 140737488355328),si hw] [2,3,8,10,11,71,72,73] 5 kr (zaF rfl (show ([Blk.box [iv a.kind,sv a.table,AV.sl (List.map (fun r=>[AV.sl (zad r)]) a.rows),AV.sl (zag a.query),ZE a.sets,AV.sl (zad a.wh),sv a.text],Blk.box [sv t.sch.name,ZC t.sch.cols,iv t.next,ZW t.rows],Blk.box [AV.nl,AV.nl,AV.nl],Blk.box [AV.own 4 (List.map vrow out++List.map vrow (g x).fst).length,AV.nl,AV.nl],Blk.row Ty.LValue (List.map vrow out++List.map vrow (g x).fst) false]:Heap)=_ from Zcv5) gZ)))))⟩)
  ·exact .inr ⟨r2_0,r2_1,(by first|exact ⟨rfl,zky hI.2 hx ‹_›⟩|exact zqs hI.2 hx ‹_› ‹_›),zab (wkl p_1 [2,3,8,10,11,21,71,72,73,88,89,90] 5 kr g2)⟩
 ·exact .inr ⟨Ch.mk [] [] [],(g x).snd,(by first|exact ⟨rfl,zky hI.2 hx ‹_›⟩|exact zqs hI.2 hx ‹_› ‹_›),zab (wkr [sb h0,se (zaC hx),sc hx2,sb h1] kr)⟩
section
variable {f : X -> V × Int} {g : Qy -> List (List V) × Int} {s : Sch} {a : Ac} {out1 out2 : List (List V)} {r : Ch} {c : Int}
def zfh (f:X->V × Int) (g:Qy->List (List V) × Int) (s:Sch) (a:Ac):Ch × Int:=(⟨(insB f g s a).1,[],[]⟩,(insB f g s a).2)
theorem zzY (q1:out1.length<=a.rows.length/\insL f s.cols.length a.rows []=insL f s.cols.length (a.rows.drop a.rows.length) out1) (q2:out2.length<=bndQ a.query.length/\insQ g s a.query (insA f s a)=insQ g s (a.query.drop a.query.length) out2):(Ch.mk out2 [] [],0)=zfh f g s a:=by
 have h:=zu6 q1 q2
 unfold zfh;rw [← h]
theorem zBc (q1:out1.length<=a.rows.length/\insL f s.cols.length a.rows []=insL f s.cols.length (a.rows.drop a.rows.length) out1) (h:r=ch0/\c≠0/\insQ g s a.query (insA f s a)=([],c)):(r,c)=zfh f g s a:=by
 have h2:=zyu (r:=[]) q1 ⟨rfl,h.2⟩
 unfold zfh;rw [← h2,h.1]
theorem zBb (h:r=ch0/\c≠0/\insL f s.cols.length a.rows []=([],c)):(r,c)=zfh f g s a:=by
 have h2:=zyt (g:=g) (r:=[]) ⟨rfl,h.2⟩
 unfold zfh;rw [← h2,h.1]
end
theorem zom (a:Ac) (t:Tb) (frs:List Fr) (tb:List Tb) (f:X->V × Int) (g:Qy->List (List V) × Int) (hr:a.rows.length<=1000000) (hf:∀ r∈a.rows,zac r/\∀ x∈r,PEr f x frs tb) (hq:a.query.length<=1000) (hg:∀ q∈a.query,(g q).1.length<=100000/\PRr g q frs tb):∃ (r:Ch) (c:Int),(r,c)=zfh f g t.sch a/\zaa E0 S.As [a.av,t.av,fsl frs,tsl tb] [] (.tup [r.av,iv c]) []:=by
 rcases zhy a t frs tb f zj7 hf 0 ([]) zj7 zj7 with ⟨out1,q1,q1_1,g1⟩|⟨r1_0,r1_1,p1_0,g1⟩
 ·rcases zhx a t frs tb f g hf zj7 hg 0 out1 zj7 zj7 with ⟨out2,q2,q2_1,g2⟩|⟨r2_0,r2_1,p2_0,g2⟩
  ·exact ⟨Ch.mk out2 [] [],0,ztr,wkcN At.As [] [2,3,4,8,10,11,30,31,32] 4 [(.ob 3 0 Ty.LValue,5)] kr (g1 _ (zab (wkl [sb q1_1] [2,3,8,10,11,71,72,73] 5 kr (g2 _ (zab (wkr [sqx ((out2.length=(List.map vrow out2).length/\True/\True/\True)/\True/\True),sb q2_1] kr))))))⟩
  ·exact ⟨r2_0,r2_1,ztr,wkcN At.As [] [2,3,4,8,10,11,30,31,32] 4 [(.ob 3 0 Ty.LValue,5)] kr (g1 _ (zab (wkl [sb q1_1] [2,3,8,10,11,71,72,73] 5 kr g2)))⟩
 ·exact ⟨r1_0,r1_1,ztr,wkcN At.As [] [2,3,4,8,10,11,30,31,32] 4 [(.ob 3 0 Ty.LValue,5)] kr (g1)⟩
def chgT (n:Nat) (a:Ac) (frs:List Fr) (tb:List Tb) (t:Tb):Ch × Int :=
 bif a.kind==1 then zfh (fun x=>eval n x frs tb) (fun q=>zbL n q frs tb) t.sch a
 else bif a.kind==3 then tchD (fun r=>zba (fun x=>eval n x (zax frs t.sch r.vals) tb) a.wh) t.rows []
 else tchU (fun r=>zba (fun x=>eval n x (zax frs t.sch r.vals) tb) a.wh) (agR (fun r x=>eval n x (zax frs t.sch r.vals) tb) t a) t.rows []
def zgm (b:Bool) (G:Tb->Ch × Int) (tb:List Tb) (n:Str):Ch × Int:=bif !b then (ch0,17) else match zaK tb n with|none=>(ch0,3)|some t=>G t
def ziE (b:Bool) (n:Nat) (a:Ac) (frs:List Fr) (tb:List Tb):Ch × Int:=zgm b (chgT n a frs tb) tb a.table
theorem zwC {tb:List Tb} {n:Str} {i:Nat} {x:Tb} {z:Option Tb} (h:z=zaK (tb.drop i) n) (hx:tb[i]?=some x) (hn:(!(x.sch.name.toList==n.toList))=true):z=zaK (tb.drop (i+1)) n:=by
 have hc:zaw x n=false:=by
  have h2:(x.sch.name.toList==n.toList)=false:=by simpa using hn
  exact h2
 rw [h,zap hx];unfold zaK;rw [List.find?_cons,hc]
theorem zqk {tb:List Tb} {n:Str} {i:Nat} {x:Tb} {z:Option Tb} (h:z=zaK (tb.drop i) n) (hx:tb[i]?=some x) (hn:(!(x.sch.name.toList==n.toList))=false):z=some x:=by
 have hc:zaw x n=true:=by
  have h2:(x.sch.name.toList==n.toList)=true:=by simpa using hn
  exact h2
 rw [h,zap hx];unfold zaK;rw [List.find?_cons,hc]
noncomputable def zvC (G:Tb->Ch × Int) (a:Ac) (frs:List Fr) (tb:List Tb) (i:Nat) :Cfg:=zaj B.AL 0 [(1,fsl frs),(2,tsl tb),(3,.p 0 0),(6,.p 1 0),(14,tsl tb),(15,iv ((tb.map Tb.cells).length:Nat)),(16,iv (i:Nat))] [.box a.cells,.box [.nl,.nl,.nl]]
theorem zgf (G:Tb->Ch × Int) (a:Ac) (frs:List Fr) (tb:List Tb) (hl:zac tb) (hins:(a.kind==1)=true->∀ t∈tb,Pure S.As [a.av,t.av,fsl frs,tsl tb] (.tup [(G t).1.av,iv (G t).2])) (htch:(a.kind==1)=false->∀ t∈tb,Pure S.Ay [a.av,t.av,fsl frs,tsl tb] (.tup [(G t).1.av,iv (G t).2])) (i:Nat)  (hi:i<=(tb).length) (hI:zaK tb a.table=zaK (tb.drop i) a.table):((zaK tb a.table=zaK (tb.drop (tb).length) a.table)/\(decide ((((tb).length:Nat):Int) < (((tb.map Tb.cells).length:Nat):Int))=false)/\∀ R,Good E0 B.AL [] (zvC G a frs tb (tb).length ) R->Good E0 B.AL [] (zvC G a frs tb i ) R)\/(∃ (r:Ch) (c:Int),(∃ t,zaK tb a.table=some t/\(r,c)=G t)/\Good E0 B.AL [] (zvC G a frs tb i ) (Shut 0 fun rZ hZ=>rZ=(.tup [Ch.av r,iv c])/\hZ=[])):=by
 have hk:=hi;revert i;refine zlp ((tb).length) (fun i hlt ih hi hI _=>?_)
 obtain ⟨x,hx,h0,hw⟩:=zlq (l:=tb) ((tb.map Tb.cells).length) hlt zmq
 have hi1:=fun h=>hins h x (List.mem_of_getElem? hx);have ht1:=fun h=>htch h x (List.mem_of_getElem? hx)
 let p_1:List St:=[sb h0,se (zaf Tb.cells hx rfl)]
 cases h1:!ByteArray.toList x.sch.name==ByteArray.toList a.table
 ·cases h2:a.kind==1
  ·exact .inr ⟨(G x).fst,(G x).snd,(by exact ⟨x,zqk hI hx ‹_›,rfl⟩),zab (wkr (p_1++[sb h1,sb h2,sc (ht1 (by first|assumption|omega|(simp;done)|(simp;omega)))]) kr)⟩
  ·exact .inr ⟨(G x).fst,(G x).snd,(by exact ⟨x,zqk hI hx ‹_›,rfl⟩),zab (wkr (p_1++[sb h1,sb h2,sc (hi1 (by first|assumption|omega|(simp;done)|(simp;omega)))]) kr)⟩
 ·exact (ih Zo (by exact zwC hI hx ‹_›) Zo).elim (fun ⟨qZ,xZ,gZ⟩=>.inl ⟨qZ,xZ,fun R hg=>zab (wkl (p_1++[sb h1,si hw]) [1,2,3,6,14,15,16] 2 kr (gZ R hg))⟩) (fun ⟨rY,cY,pZ,gZ⟩=>.inr ⟨rY,cY,pZ,zab (wkl [sb h0,se (zaf Tb.cells hx rfl),sb h1,si hw] [1,2,3,6,14,15,16] 2 kr gZ)⟩)
theorem cq0 {b:Bool} {G:Tb->Ch × Int} {tb:List Tb} {n:Str} (h:(!b)=true):(Ch.mk [] [] [],17)=zgm b G tb n:=by unfold zgm;rw [h];rfl
theorem cqe {b:Bool} {G:Tb->Ch × Int} {tb:List Tb} {n:Str} {r:Ch} {c:Int} (h:(!b)=false) (hr:∃ t,zaK tb n=some t/\(r,c)=G t):(r,c)=zgm b G tb n:=by
 obtain ⟨t,h1,h2⟩:=hr
 unfold zgm;rw [h,h1,h2];rfl
theorem cqn {b:Bool} {G:Tb->Ch × Int} {tb:List Tb} {n:Str} (h:(!b)=false) (hr:zaK tb n=zaK (tb.drop tb.length) n):(Ch.mk [] [] [],3)=zgm b G tb n:=by
 unfold zgm;rw [h,hr,List.drop_length];rfl
theorem zlH (G:Tb->Ch × Int) (b:Bool) (a:Ac) (frs:List Fr) (tb:List Tb) (hl:zac tb) (hso:zaa E0 S.CN [a.av] [] (bv b) []) (hins:(a.kind==1)=true->∀ t∈tb,Pure S.As [a.av,t.av,fsl frs,tsl tb] (.tup [(G t).1.av,iv (G t).2])) (htch:(a.kind==1)=false->∀ t∈tb,Pure S.Ay [a.av,t.av,fsl frs,tsl tb] (.tup [(G t).1.av,iv (G t).2])):∃ (r:Ch) (c:Int),(r,c)=zgm b G tb a.table/\zaa E0 S.AL [a.av,fsl frs,tsl tb] [] (.tup [r.av,iv c]) []:=by
 cases h1:!b
 ·rcases zgf G a frs tb Za hins Za 0 Za Za with ⟨q2,q2_1,g2⟩|⟨r2_0,r2_1,p2_0,g2⟩
  ·exact ⟨Ch.mk [] [] [],3,zts,wkc At.AL [sc hso,sb h1] [1,2,3,6,14,15,16] 2 kr (g2 _ (zab (wkr [sb q2_1] kr)))⟩
  ·exact ⟨r2_0,r2_1,zts,wkc At.AL [sc hso,sb h1] [1,2,3,6,14,15,16] 2 kr (g2)⟩
 ·exact ⟨Ch.mk [] [] [],17,zts,wk At.AL [sc hso,sb h1] kr⟩
structure CandIn (n:Nat) (a:Ac) (frs:List Fr) (tb:List Tb):Prop where
 ac:AcOk n a
 fo:FsOk (n+1) frs
 fg:FsG frs
 to:TbOk tb
 tg:TbG tb
 tv:∀ x∈tb,∀ r∈x.rows,zac r.vals
section
variable {n : Nat} {a : Ac} {frs : List Fr} {tb : List Tb}
theorem CandIn.ins (h:CandIn n a frs tb) {t:Tb} (ht:t∈tb) {r:Rw} (hr:r∈t.rows):FsOk n (zax frs t.sch r.vals)/\FsG (zax frs t.sch r.vals) :=
 ⟨h.fo.eins (t:=t) (h.to.cols t ht) (h.tg.vals t ht r hr),h.fg.ins (t:=t) (h.tg.vals t ht r hr)⟩
theorem zt3 (s:Int × List (List V)):(zey s).1.length<=s.2.length:=by
 unfold zey;cases s.1 != 0 <;> simp
theorem zgZ {tr:Rw->Bool × Int} {rv:Rw->Int × List V}:∀ (l:List Rw) (out:List (List V)),(za8 tr rv l out).2.length<=out.length+l.length
 | [],out=>by simp [za8]
 | r::l,out=>by
  have h1:=zgZ (tr:=tr) (rv:=rv) l out
  have h2:=zgZ (tr:=tr) (rv:=rv) l (out++[(rv r).2])
  simp only [za8]
  cases (tr r).2 != 0 <;> cases (tr r).1 <;> cases (rv r).1 != 0 <;> simp at * <;> omega
theorem zjL {n:Nat} {q:Qy} {frs:List Fr} {tb:List Tb} (h:TbOk tb):(zbL n q frs tb).1.length<=1000:=by
 unfold zbL
 cases hf:zaK tb q.frm with
 | none=>simp
 | some t =>
  have h1:=h.rows t (zcR hf)
  have h2:=zt3 (za8 (fun r=>zba (fun x=>eval n x (zar frs t r.vals) tb) q.wh) (fun r=>rowV (fun x=>eval n x (zar frs t r.vals) tb) q r) t.rows [])
  have h3:=zgZ (tr:=fun r=>zba (fun x=>eval n x (zar frs t r.vals) tb) q.wh) (rv:=fun r=>rowV (fun x=>eval n x (zar frs t r.vals) tb) q r) t.rows []
  simp only [List.length_nil] at h3
  simp only;omega
theorem zzu (h:CandIn n a frs tb) {b:Bool} (hb:zaa E0 S.CN [a.av] [] (bv b) []):Pure S.AL [a.av,fsl frs,tsl tb] (.tup [(ziE b n a frs tb).1.av,iv (ziE b n a frs tb).2]):=by
 have hT:∀ t∈tb,∀ r∈t.rows,Pure S.A5 [xsl a.wh,fsl (zax frs t.sch r.vals),tsl tb] (.tup [bv (zba (fun x=>eval n x (zax frs t.sch r.vals) tb) a.wh).1,iv (zba (fun x=>eval n x (zax frs t.sch r.vals) tb) a.wh).2]):=fun t ht r hr =>
  znN (fun x hx=>zdP n x _ tb (h.ac.w x hx) (h.ins ht hr).1 (h.ins ht hr).2 h.to h.tg) fun x hx=>zbA n x _ tb (h.ac.w x hx) (h.ins ht hr).2 h.tg
 obtain ⟨r,c,e,hc⟩:=zlH (chgT n a frs tb) b a frs tb h.to.len hb
  (fun hk t ht=>by
   have hr:=h.ac.rows
   have hq:=h.ac.query
   obtain ⟨r,c,e,hc⟩:=zom a t frs tb (fun x=>eval n x frs tb) (fun q=>zbL n q frs tb) (by simp only [Few] at hr;omega) (fun r hr=>⟨zaQ (h.ac.row r hr).1,fun x hx=>zdP n x frs tb ((h.ac.row r hr).2 x hx) h.fo.less h.fg h.to h.tg⟩) hq fun q hq =>
    ⟨by have:=zjL (n:=n) (q:=q) (frs:=frs) h.to;omega,zzt ⟨(h.ac.qs q hq).items,(h.ac.qs q hq).hi,(h.ac.qs q hq).hw⟩ h.fo h.to h.fg h.tg h.tv⟩
   have e2:(r,c)=chgT n a frs tb t:=by unfold chgT;rw [hk];exact e
   rw [← e2];exact hc)
  (fun hk t ht=>by
   cases h3:a.kind==3
   ·obtain ⟨r,c,e,hc⟩:=zmJ (fun r=>zba (fun x=>eval n x (zax frs t.sch r.vals) tb) a.wh) (fun r x=>eval n x (zax frs t.sch r.vals) tb) a t frs tb h3 (h.to.rows t ht) h.fo.short (h.to.cols t ht) (zaQ h.ac.sets) (h.tv t ht) (hT t ht) fun r hr x hx=>zdP n x.ex _ tb (h.ac.set x hx) (h.ins ht hr).1 (h.ins ht hr).2 h.to h.tg
    have e2:(r,c)=chgT n a frs tb t:=by unfold chgT;rw [hk,h3];exact e
    rw [← e2];exact hc
   ·obtain ⟨r,c,e,hc⟩:=zmI (fun r=>zba (fun x=>eval n x (zax frs t.sch r.vals) tb) a.wh) a t frs tb h3 (h.to.rows t ht) h.fo.short (hT t ht)
    have e2:(r,c)=chgT n a frs tb t:=by unfold chgT;rw [hk,h3];exact e
    rw [← e2];exact hc)
 have e2:(r,c)=ziE b n a frs tb:=e
 rw [← e2];exact hc
end
theorem zso {tr:Rw->Bool × Int} {a:Ac} {s:Sch} {frs:List Fr} {tb:List Tb} {t:Tb}:∀ (l:List Rw) (i:Nat) (d:List Int),cndD tr a s frs tb t l i d=tchD tr l d
 | [],i,d=>rfl
 | r::l,i,d=>by
  simp only [cndD,tchD,zso l]
theorem zr1 {f:X->V × Int} {a:Ac} {s:Sch} {frs:List Fr} {tb:List Tb}:∀ (l:List Se) (i:Nat) (v:List V),asgL f a s frs tb l i v=asgR f s l v
 | [],i,v=>rfl
 | x::l,i,v=>by
  simp only [asgL,asgR,zr1 l]
theorem zsp {tr:Rw->Bool × Int} {ag:Rw->List V × Int} {a:Ac} {s:Sch} {frs:List Fr} {tb:List Tb} {t:Tb}:∀ (l:List Rw) (i:Nat) (u:List Pr),cndU tr ag a s frs tb t l i u=tchU tr ag l u
 | [],i,u=>rfl
 | r::l,i,u=>by
  simp only [cndU,tchU,zsp l]
theorem zsT {g:Qy->List (List V) × Int} {s:Sch}:∀ (l:List Qy) (acc:List (List V)),((insQ g s l acc).2 != 0)=true->(insQ g s l acc).1=[]
 | [],acc,h=>by simp [insQ] at h
 | q::l,acc,h=>by
  simp only [insQ] at h ⊢
  cases h1:(g q).2 != 0
  ·rw [h1] at h
   cases h2:!(g q).1.all (okW s)
   ·rw [h2] at h
    simp only [cond_false] at h ⊢
    exact zsT l _ h
   ·rfl
  ·rfl
theorem zx1 {f:X->V × Int} {g:Qy->List (List V) × Int} {s:Sch} {a:Ac}:zmO (insB f g s a) a=zfh f g s a:=by
 unfold zmO zfh
 cases h:(insB f g s a).2 != 0
 ·rw [cond_false,show (insB f g s a).2=0 by simpa using h]
 ·have e:(insB f g s a).1=[]:=by
   unfold insB at h ⊢
   cases h1:(insL f s.cols.length a.rows []).2 != 0
   ·rw [h1] at h;simp only [cond_false] at h ⊢;exact zsT _ _ h
   ·rfl
  rw [cond_true,e]
theorem zux (n:Nat) (a:Ac) (frs:List Fr) (tb:List Tb):zaZ n a frs tb=ziE (actB (vX n) a) n a frs tb:=by
 unfold zaZ ziE zgm
 cases hb:actB (vX n) a
 ·rfl
 ·have e:tgt a true tb=bif !(zaN tb a.table).2 then (⟨⟨#[]⟩,[]⟩,3) else ((zaN tb a.table).1,0):=rfl
  rw [e,zc6]
  cases hf:zaK tb a.table with
  | none=>rfl
  | some t =>
   have ht:tabC tb a.table=t:=by unfold tabC;rw [hf];rfl
   simp only [ht,Bool.not_true,cond_false]
   show (bif (0:Int) != 0 then _ else _)=_
   rw [show ((0:Int) != 0)=false from rfl,cond_false]
   unfold chgT
   cases h1:a.kind==1
   ·cases h3:a.kind==3
    ·simp only [cond_false]
     unfold zot
     rw [zsp,ht]
     have:(fun r=>cAg n a frs t.sch tb r)=agR (fun r x=>eval n x (zax frs t.sch r.vals) tb) t a:=by
      funext r
      show asgn _ a t.sch r.vals _ tb=asgR _ t.sch a.sets r.vals
      unfold asgn
      rw [zr1]
     have e2:cAg n a frs t.sch tb=agR (fun r x=>eval n x (zax frs t.sch r.vals) tb) t a:=this
     rw [e2];rfl
    ·simp only [cond_false,cond_true]
     unfold zos
     rw [zso,ht];rfl
   ·simp only [cond_true]
    exact zx1
noncomputable def L_dlT (l:List Tb) (i:Nat) (out:List Tb):Cfg:=zaj B.Bg 0 [(1,.fn S.B0 []),(5,.own 0 out.length),(8,.sl (l.map Tb.cells)),(9,iv ((l.map Tb.cells).length:Nat)),(10,iv (i:Nat))] [.row Ty.Table (out.map Tb.cells) false]
theorem zfa (l:List Tb) (hl:zac l) (hf:∀ x∈l,zaa E0 S.B0 [.agg x.cells] [] (.agg x.cells) []) (i:Nat) (out:List Tb) (hi:i<=(l).length) (hI:out=l.take i):∃ (out':List Tb),(out'=l.take (l).length)/\(decide ((((l).length:Nat):Int) < (((l.map Tb.cells).length:Nat):Int))=false)/\∀ R,Good E0 B.Bg [] (L_dlT l (l).length out') R->Good E0 B.Bg [] (L_dlT l i out) R:=by
 have hk:=hi;revert i out;refine zlp ((l).length) (fun i hlt ih out hi hI _=>?_)
 obtain ⟨x,hx,h0,hw⟩:=zlq (l:=l) ((l.map Tb.cells).length) hlt
 have hfx:=hf x (List.mem_of_getElem? hx)
 have ho:out.length<=1000000000:=by rw [hI,List.length_take];simp only [zac] at hl;omega
 exact Zih (ih (out++[x]) Zo (by rw [List.take_add_one,hx,hI];rfl) Zo) fun R gY=>zab (wkl [sb h0,se (zaf Tb.cells hx rfl),sc hfx,sqA (List.map Tb.cells out) [[sv x.sch.name,ZC x.sch.cols,iv x.next,ZW x.rows]] out.length 4 72,si hw] [1,5,8,9,10] 1 kr (zao 5 0 (List.map Tb.cells out++[[sv x.sch.name,ZC x.sch.cols,iv x.next,ZW x.rows]]) gY (he:=Zcv5) (hm:=Zcv5)))
theorem zqU (l:List Tb) (hl:zac l) (hf:∀ x∈l,zaa E0 S.B0 [.agg x.cells] [] (.agg x.cells) []):∃ (r:List Tb),r=l.take l.length/\zaa E0 S.Bg [.sl (l.map Tb.cells),.fn S.B0 []] [] (.own 0 r.length) [.row Ty.Table (r.map Tb.cells) false]:=by
 obtain ⟨out1,q1,q1_1,g1⟩:=zfa l Za Za 0 ([]) Za Za
 exact ⟨out1,(by first|assumption|trivial|(simp;done)|omega|(simp;omega)|(simp at *;omega)),wkcNK At.Bg [] [1,5,8,9,10] 0 [(.ot 5 Ty.Table,1)] kr (g1 _ (zab (wkrK [sb q1_1] kr)))⟩
theorem zgX (l:List Tb) (hl:zac l) (hf:∀ x∈l,zaa E0 S.B0 [.agg x.cells] [] (.agg x.cells) []):zaa E0 S.Bg [.sl (l.map Tb.cells),.fn S.B0 []] [] (.own 0 l.length) [.row Ty.Table (l.map Tb.cells) false]:=by
 obtain ⟨r,hr,h⟩:=zqU l hl hf
 rw [List.take_length] at hr;subst hr;exact h
theorem zqT (l:List Tb) (hl:zac l) (hf:∀ x∈l,zaa E0 S.B0 [.agg x.cells] [] (.agg x.cells) []):∃ (r:List Tb),r=l/\zaa E0 S.Dr [tsl l] [] (.own 0 r.length) [.row Ty.Table (r.map Tb.cells) false]:=by
 exact ⟨l,Zr,wkK At.Dr [sc (zgX l (by first|assumption|omega|(simp;done)|(simp;omega)) (by first|assumption|omega|(simp;done)|(simp;omega)))] kr⟩
theorem zdT (l:List Tb) (hl:zac l) (hc:∀ t∈l,zac t.sch.cols/\zac t.rows/\∀ r∈t.rows,zac r.vals):zaa E0 S.Dr [tsl l] [] (.own 0 l.length) [.row Ty.Table (l.map Tb.cells) false]:=by
 obtain ⟨r,rfl,h⟩:=zqT l hl fun x hx=>zsW x (hc x hx).1 (hc x hx).2.1 (hc x hx).2.2
 exact h
noncomputable def L_bs (tb:List Tb) (i:Nat):Cfg:=zaj B.Av 0 [(1,tsl tb),(11,.sl []),(12,iv (([]:List (List AV)).length:Nat)),(13,iv (i:Nat))] []
theorem zgO (tb:List Tb) (i:Nat):True/\∀ R,Good E0 B.Av [] (L_bs tb i) R->Good E0 B.Av [] (L_bs tb i) R:=⟨trivial,fun _ h=>h⟩
theorem zqQ (tb:List Tb) :∃ (r:Int),r=0/\zaa E0 S.Av [.sl [],tsl tb] [] (iv r) []:=by
 obtain ⟨q1,g1⟩:=zgO tb (0)
 exact ⟨0,Zr,wkc At.Av [] [1,11,12,13] 0 kr (g1 _ (zab (wkr [sb Zf] kr)))⟩
theorem zeZ (tb:List Tb):zaa E0 S.Av [.sl [],tsl tb] [] (iv 0) []:=by
 obtain ⟨r,rfl,h⟩:=zqQ tb
 exact h
theorem ztT (nm:Str) (rows:List (List X)) :∃ (r:List Str),r=[]/\zaa E0 S.Bc [(zay nm rows).av] [] (ssl r) []:=by
 exact ⟨[],Zr,wk At.Bc [sb Zt] kr⟩
theorem zln (nm:Str) (rows:List (List X)):zaa E0 S.Bc [(zay nm rows).av] [] (.sl []) []:=by
 obtain ⟨r,rfl,h⟩:=ztT nm rows
 exact h
theorem zkd (nm:Str) (rows:List (List X)) (s:Sch) (frs:List Fr) (tb:List Tb) (f:X->V × Int) (hv:zaa E0 S.BZ [(zay nm rows).av,tsl tb] [] (.tup [s.av,iv 0]) []) (hs:zac s.cols) (hr:zac rows) (hf:∀ r∈rows,zac r/\∀ x∈r,PEv f x frs tb) (hf0:∀ r∈rows,∀ x∈r,((f x).2 != 0)=false) (hfl:∀ r∈rows,(((zad r).length:Int) != ((s.cols.map Col.cells).length:Int))=false):∃ (out:List (List V)),out=evR f (rows.take rows.length)/\zaa E0 S.Ak [(zay nm rows).av,fsl frs,tsl tb] [] (.tup [.agg [.own 5 out.length,.nl,.nl],iv 0]) [.box (zay nm rows).cells,.box [.own 5 out.length,.nl,.nl],.box s.cells,.box (zay nm rows).cells,.box s.cells,.row Ty.LValue (out.map vrow) false]:=by
 obtain ⟨out1,q1,c1⟩:=(zlz ((zay nm rows).table) ((zay nm rows).rows) s frs tb f Za Za hf Za Za)
 exact ⟨out1,‹_›,wkK At.Ak [sc hv,sb Zf,sb Zt,sc c1,sb Zf] kr⟩
theorem zpo {p:Prop} (h:p:=by first|assumption|omega|(simp;done)|(simp;omega)):p:=h
abbrev runB (m:List Tb) (trig:List (List AV)) (s:Sch) (p c:AV):List AV:=[tsl m,.sl trig,.sl [],sv s.name,.sl (s.cols.map Col.cells),p,c]
theorem zxX (m:List Tb) (trig:List (List AV)) (s:Sch) (l g:List V) (hR:zaa E0 S.AE [.sl trig,.sl [],s.av,.sl [],vsl l,tsl m,.sl []] [] (.tup [vsl g,.sl [],.sl [],iv 0]) []):∃ (r:List V) (e:Int),(r=g/\e=0)/\zaa E0 S.A4 [.p 0 0,.sl [],vsl l] [.box (runB m trig s (.own 1 0) .nl),.row Ty.int [] false] (.tup [vsl r,iv e]) [.box (runB m trig s (.sl []) (.own 2 0)),.row Ty.int [] true,.row Ty.int [] false]:=by
 exact ⟨g,0,Zj,wkK At.A4 [sd [(22,[skx (True/\True/\(True/\True/\True)/\True/\True/\True/\0=0/\True) [] hR])],sb Zf,sqx (AllLen [] 1/\Nat.le 0 140737488355328)] kr⟩
theorem zjh (m:List Tb) (trig:List (List AV)) (s:Sch) (l g:List V) (hR:zaa E0 S.AE [.sl trig,.sl [],s.av,.sl [],vsl l,tsl m,.sl []] [] (.tup [vsl g,.sl [],.sl [],iv 0]) []):zaa E0 S.A4 [.p 0 0,.sl [],vsl l] [.box (runB m trig s (.own 1 0) .nl),.row Ty.int [] false] (.tup [vsl g,iv 0]) [.box (runB m trig s (.sl []) (.own 2 0)),.row Ty.int [] true,.row Ty.int [] false]:=by
 obtain ⟨r,e,⟨rfl,rfl⟩,h⟩:=zxX m trig s l g hR
 exact h
theorem zxY (m:List Tb) (trig:List (List AV)) (s:Sch) (l g:List V) (hR:zaa E0 S.AE [.sl trig,.sl [],s.av,.sl [],vsl l,tsl m,.sl []] [] (.tup [vsl g,.sl [],.sl [],iv 0]) []):∃ (r:List V) (e:Int),(r=g/\e=0)/\zaa E0 S.A4 [.p 0 0,.sl [],vsl l] [.box (runB m trig s (.sl []) (.own 1 0)),.row Ty.int [] false] (.tup [vsl r,iv e]) [.box (runB m trig s (.sl []) (.own 1 0)),.row Ty.int [] false]:=by
 exact ⟨g,0,Zj,wk At.A4 [sd [(22,[sc hR])],sb Zf,sqx (AllLen [] 1/\0=0/\Nat.le 0 140737488355328)] kr⟩
theorem zji (m:List Tb) (trig:List (List AV)) (s:Sch) (l g:List V) (hR:zaa E0 S.AE [.sl trig,.sl [],s.av,.sl [],vsl l,tsl m,.sl []] [] (.tup [vsl g,.sl [],.sl [],iv 0]) []):zaa E0 S.A4 [.p 0 0,.sl [],vsl l] [.box (runB m trig s (.sl []) (.own 1 0)),.row Ty.int [] false] (.tup [vsl g,iv 0]) [.box (runB m trig s (.sl []) (.own 1 0)),.row Ty.int [] false]:=by
 obtain ⟨r,e,⟨rfl,rfl⟩,h⟩:=zxY m trig s l g hR
 exact h
abbrev rrH (m:List Tb) (trig:List (List AV)) (s:Sch) (ins:List (List V)):Heap:=[.box (runB m trig s (.own 1 0) .nl),.row Ty.int [] false,.box [.own 3 ins.length,.nl,.nl],.row Ty.LValue (ins.map vrow) false]
noncomputable def L_rr0 (m:List Tb) (trig:List (List AV)) (s:Sch) (t:Tb) (ins:List (List V)) (i:Nat) :Cfg:=zaj B.Ad 0 [(0,.p 0 0),(1,.p 2 0),(20,.sl (t.rows.map Rw.cells)),(21,iv ((t.rows.map Rw.cells).length:Nat)),(22,iv (i:Nat))] (rrH m trig s ins++[.box t.cells])
theorem zfH (m:List Tb) (trig:List (List AV)) (s:Sch) (t:Tb) (ins:List (List V)) (hr:zac t.rows) (i:Nat)  (hi:i<=(t.rows).length) (hI:True):(True)/\(decide ((((t.rows).length:Nat):Int) < (((t.rows.map Rw.cells).length:Nat):Int))=false)/\∀ R,Good E0 B.Ad (rrH m trig s ins) (L_rr0 m trig s t ins (t.rows).length ) R->Good E0 B.Ad (rrH m trig s ins) (L_rr0 m trig s t ins i ) R:=by
 have hk:=hi;revert i hI;refine zlp ((t.rows).length) (fun i hlt ih hi hI _=>?_)
 obtain ⟨x,hx,h0,hw⟩:=zlq (l:=t.rows) ((t.rows.map Rw.cells).length) hlt
 obtain ⟨qZ,xZ,gZ⟩:=ih Zo (by first|trivial|assumption|(simp;done)|omega|(simp;omega)|(simp at *;omega)) Zo;exact ⟨qZ,xZ,fun R hg=>zab (wkl [sb h0,se (zaf Rw.cells hx rfl),sd [(6,[sc (zdU x.id)])],sb Zf,si hw] [0,1,20,21,22] 5 kr (gZ R hg))⟩
noncomputable def L_rr1 (m:List Tb) (trig:List (List AV)) (s:Sch) (t:Tb) (ins:List (List V)) (i:Nat):Cfg:=zaj B.Ad 1 [(0,.p 0 0),(1,.p 2 0),(47,.nl),(48,iv 0),(49,iv (i:Nat))] (rrH m trig s ins++[.box t.cells])
theorem zfI (m:List Tb) (trig:List (List AV)) (s:Sch) (t:Tb) (ins:List (List V)) (i:Nat):True/\∀ R,Good E0 B.Ad (rrH m trig s ins) (L_rr1 m trig s t ins i) R->Good E0 B.Ad (rrH m trig s ins) (L_rr1 m trig s t ins i) R:=⟨trivial,fun _ h=>h⟩
abbrev outG (g:List V->List V) (ins:List (List V)) (i:Nat):List (List V):=(ins.take i).map g++ins.drop i
theorem zAg (g:List V->List V) (ins:List (List V)) (i:Nat):(outG g ins i).length=ins.length:=by
 simp only [outG,List.length_append,List.length_map,List.length_take,List.length_drop];omega
theorem zBx {g:List V->List V} {ins:List (List V)} {i:Nat} {x:List V} (hx:ins[i]?=some x):(outG g ins i)[i]?=some x:=by
 have hi:=(List.getElem?_eq_some_iff.1 hx).1
 have hl:((ins.take i).map g).length=i:=by simp;omega
 rw [outG,List.getElem?_append_right Zo,hl,Nat.sub_self,List.getElem?_drop];simpa using hx
theorem ztf {g:List V->List V} {ins:List (List V)} {i:Nat} {x:List V} (hx:ins[i]?=some x):(outG g ins i).set i (g x)=outG g ins (i+1):=by
 have hi:=(List.getElem?_eq_some_iff.1 hx).1
 have hl:((ins.take i).map g).length=i:=by simp;omega
 rw [outG,List.set_append_right _ _ Zo,hl,Nat.sub_self,zap hx,List.set_cons_zero,outG,List.take_add_one,hx,List.map_append,List.append_assoc]
 rfl
noncomputable def zvU (m:List Tb) (trig:List (List AV)) (s:Sch) (t:Tb) (ins:List (List V)) (g:List V->List V) (i:Nat) (out:List (List V)):Cfg:=zaj B.Ad 2 [(0,.p 0 0),(1,.p 2 0),(78,.own 3 ins.length),(79,iv (ins.length:Nat)),(80,iv (i:Nat))] [.box (runB m trig s (.sl []) (.own 5 0)),.row Ty.int [] true,.box [.own 3 ins.length,.nl,.nl],.row Ty.LValue (out.map vrow) false,.box t.cells,.row Ty.int [] false]
theorem zfJ (m:List Tb) (trig:List (List AV)) (s:Sch) (t:Tb) (ins:List (List V)) (g:List V->List V) (hl:zac ins) (hR:∀ l∈ins,zaa E0 S.AE [.sl trig,.sl [],s.av,.sl [],vsl l,tsl m,.sl []] [] (.tup [vsl (g l),.sl [],.sl [],iv 0]) []) (i:Nat) (out:List (List V)) (hi:i<=(ins.length)) (hI:out=outG g ins i):∃ (out':List (List V)),(out'=outG g ins ins.length)/\(decide ((((ins.length):Nat):Int) < (((ins.length):Nat):Int))=false)/\∀ R,Good E0 B.Ad (rrH m trig s ins) (zvU m trig s t ins g ins.length out') R->Good E0 B.Ad (rrH m trig s ins) (zvU m trig s t ins g i out) R:=by
 have hk:=hi;revert i out;refine zlp ins.length (fun i hlt ih out hi hI _=>?_)
 have h0:decide (((i:Nat):Int) < (((ins.length):Nat):Int))=true:=by simp;omega
 have hw:IntKind.i64.wrap (((i:Nat):Int)+1)=((i+1:Nat):Int):=zaJ i (by (simp only [zac] at hl;omega))
 obtain ⟨x,hx⟩:=zaY (l:=ins) (i:=i) Zo
 have hxR:=hR x (List.mem_of_getElem? hx)
 have hol:(out.map vrow).length=ins.length:=by rw [List.length_map,hI,zAg]
 have he:OwnEl (out.map vrow) ins.length i (vrow x):=⟨hol.symm,by rw [List.getElem?_map,hI,zBx hx];rfl⟩
 have ho:OwnAt (out.map vrow) ins.length ((i:Nat):Int):=⟨hol.symm,by omega,by omega⟩
 exact Zih (ih (out.set i (g x)) Zo (by (rw [hI];exact ztf hx)) Zo) fun R gY=>zab (wkl [sb h0,sqx (OwnAt (List.map vrow out) ins.length (i:Int)),sx (.el (vrow x)) he,sl [0,5] (zji m trig s x (g x) hxR),sb Zf,sqx (OwnAt (List.map vrow out) ins.length (i:Int)),sx (.el (vrow x)) (And.intro (owed (p:=True/\True)) he),si hw] [0,1,78,79,80] 6 kr (zaF rfl (show ([Blk.box [tsl m,AV.sl trig,AV.sl [],sv s.name,ZC s.cols,AV.sl [],AV.own 5 0],Blk.row Ty.int [] true,Blk.box [AV.own 3 ins.length,AV.nl,AV.nl],Blk.row Ty.LValue ((List.map vrow out).set i [vsl (g x)]) false,Blk.box [sv t.sch.name,ZC t.sch.cols,iv t.next,ZW t.rows],Blk.row Ty.int [] false]:Heap)=_ from Zcv5) gY))
noncomputable def L_rr20 (m:List Tb) (trig:List (List AV)) (s:Sch) (t:Tb) (ins:List (List V)):Cfg:=zaj B.Ad 2 [(0,.p 0 0),(1,.p 2 0),(78,.own 3 ins.length),(79,iv (ins.length:Nat)),(80,iv 0)] (rrH m trig s ins++[.box t.cells])
theorem zfb (m:List Tb) (trig:List (List AV)) (s:Sch) (t:Tb) (ins:List (List V)) (g:List V->List V) (hl:zac ins) (hne:ins≠[]) (hR:∀ l∈ins,zaa E0 S.AE [.sl trig,.sl [],s.av,.sl [],vsl l,tsl m,.sl []] [] (.tup [vsl (g l),.sl [],.sl [],iv 0]) []):decide (((ins.length:Nat):Int) < ((ins.length:Nat):Int))=false/\∀ R,Good E0 B.Ad (rrH m trig s ins) (zvU m trig s t ins g ins.length (ins.map g)) R->Good E0 B.Ad (rrH m trig s ins) (L_rr20 m trig s t ins) R:=by
 have hx0:∃ x,ins[0]?=some x:=zaY (by cases ins with|nil=>exact absurd rfl hne|cons _ _=>simp)
 obtain ⟨x,hx⟩:=hx0
 have hil:=(List.getElem?_eq_some_iff.1 hx).1
 obtain ⟨out,hout,h1,h2⟩:=zfJ m trig s t ins g hl hR 1 (outG g ins 1) Zo rfl
 have hout2:out=ins.map g:=by rw [hout,outG,List.take_length,List.drop_length,List.append_nil]
 subst hout2
 refine ⟨by simp,fun R h=>?_⟩
 have hg:=h2 R h
 have h0:decide ((0:Int) < ((ins.length:Nat):Int))=true:=by simp;omega
 have hxR:=hR x (List.mem_of_getElem? hx)
 have he:OwnEl (ins.map vrow) ins.length 0 (vrow x):=⟨by simp,by rw [List.getElem?_map,hx];rfl⟩
 have ho:OwnAt (ins.map vrow) ins.length (0:Int):=⟨by simp,by omega,by omega⟩
 have hset:ins.set 0 (g x)=outG g ins 1:=by have:=ztf (g:=g) hx;rwa [show outG g ins 0=ins by simp [outG]] at this
 rw [← hset] at hg
 refine zab ?_
 exact wkl [sb h0,sqx (OwnAt (List.map vrow ins) ins.length 0),sx (.el (vrow x)) he,sl [0,1] (zjh m trig s x (g x) hxR),sb Zf,sqx (OwnAt (List.map vrow ins) ins.length 0),sx (.el (vrow x)) (And.intro (owed (p:=True/\True)) he),si (zbz (t:=0+1) (n:=0+1) Zo Zo)] [0,1,78,79,80] 6 kr (zaF rfl (show ([Blk.box [tsl m,AV.sl trig,AV.sl [],sv s.name,ZC s.cols,AV.sl [],AV.own 5 0],Blk.row Ty.int [] true,Blk.box [AV.own 3 ins.length,AV.nl,AV.nl],Blk.row Ty.LValue ((List.map vrow ins).set 0 [vsl (g x)]) false,Blk.box [sv t.sch.name,ZC t.sch.cols,iv t.next,ZW t.rows],Blk.row Ty.int [] false]:Heap)=_ from Zcv5) hg)
theorem zxZ (m:List Tb) (trig:List (List AV)) (s:Sch) (t:Tb) (ins:List (List V)) (g:List V->List V) (hr:zac t.rows) (hl:zac ins) (hne:ins≠[]) (hR:∀ l∈ins,zaa E0 S.AE [.sl trig,.sl [],s.av,.sl [],vsl l,tsl m,.sl []] [] (.tup [vsl (g l),.sl [],.sl [],iv 0]) []):∃ (r:Int),r=0/\zaa E0 S.Ad [.p 0 0,.p 2 0,t.av] (rrH m trig s ins) (iv r) [.box (runB m trig s (.sl []) (.own 5 0)),.row Ty.int [] true,.box [.own 3 ins.length,.nl,.nl],.row Ty.LValue ((ins.map g).map vrow) false,.box t.cells,.row Ty.int [] false]:=by
 obtain ⟨q1,q1_1,g1⟩:=zfH m trig s t ins zpo 0 zpo zpo
 obtain ⟨q2,g2⟩:=zfI m trig s t ins (0)
 obtain ⟨q3,g3⟩:=zfb m trig s t ins g zpo zpo hR
 exact ⟨0,Zr,wkcK At.Ad [] [0,1,20,21,22] 5 kr (g1 _ (zab (wkl [sb q1_1] [0,1,47,48,49] 5 kr (g2 _ (zab (wkl [sb Zf,sqx (ins.length=(List.map vrow ins).length)] [0,1,78,79,80] 5 kr (g3 _ (zab (wkrK [sb q3] kr)))))))))⟩
end Go.AM
