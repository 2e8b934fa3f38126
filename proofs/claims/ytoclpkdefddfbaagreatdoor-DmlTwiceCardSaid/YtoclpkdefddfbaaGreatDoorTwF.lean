/-
  Contracts of the program's functions, part 5.
-/
import Derived.Test.YtoclpkdefddfbaaGreatDoorTwE
import Derived.Carry
import Derived.ChangeSame
import Derived.Lib.LaidU8
import Derived.FnData
set_option linter.unusedSimpArgs false
set_option linter.unusedVariables false
namespace Go.AM
set_option maxRecDepth 100000
set_option maxHeartbeats 1000000
set_option linter.unusedSimpArgs false
set_option linter.unusedVariables false
theorem zkx:∀ {l:List UInt8} {i:Nat} {c:UInt8},zf6 l=true→l[i]?=some c→okB c.toNat=true
 | [],i,c,_,h=>by simp at h
 | a::l,0,c,h,hx=>by simp at hx;subst hx;simp only [zf6,Bool.and_eq_true] at h;exact h.1
 | a::l,i+1,c,h,hx=>by simp only [zf6,Bool.and_eq_true] at h;exact zkx h.2 (by simpa using hx)
theorem zsu {v:V} {c:UInt8} {i:Nat} (h:zdf v.text=true) (hx:v.text.data.toList[i]?=some c) (h1:decide (((c.toNat:Nat):Int) < 32)=true):False:=by
 simp only [zdf,Bool.and_eq_true] at h
 have:=zkx h.1 hx
 simp [okB] at this h1;omega
theorem zr9 {v:V} {c:UInt8} {i:Nat} (h:zdf v.text=true) (hx:v.text.data.toList[i]?=some c) (h1:decide ((126:Int) < ((c.toNat:Nat):Int))=true):False:=by
 simp only [zdf,Bool.and_eq_true] at h
 have:=zkx h.1 hx
 simp [okB] at this h1;omega
noncomputable def L_rvG (v:V) (i:Nat) :Cfg:=zap B.ref1_Valid 0 [(1,.p 0 0),(3,iv (i:Nat))] [.box [iv v.kind,iv v.int,sv v.text]]
theorem zgE (v:V) (hp:zdf v.text=true) (hs:decide ((64:Int) < ((v.text.size:Nat):Int))=false) (i:Nat)  (hi:i≤(v.text.size)) (hI:True):(True)∧(decide ((((v.text.size):Nat):Int) < (((v.text.size):Nat):Int))=false)∧∀ R,Good E0 B.ref1_Valid [] (L_rvG v v.text.size ) R→Good E0 B.ref1_Valid [] (L_rvG v i ) R:=by
 obtain ⟨kk,hk⟩:∃ kk,i+kk=(v.text.size):=⟨(v.text.size) - i,by omega⟩
 induction kk generalizing i  hI with
 | zero =>
  have e0:i=(v.text.size):=by omega
  subst e0
  exact ⟨hI,by simp,fun R hg=>hg⟩
 | succ kk ih =>
  have h0:decide (((i:Nat):Int) < (((v.text.size):Nat):Int))=true:=by simp;omega
  have hw:IntKind.i64.wrap (((i:Nat):Int)+1)=((i+1:Nat):Int):=zal i (by (simp only [decide_eq_false_iff_not] at hs;omega))
  obtain ⟨c1,b1⟩:=zlc (s:=v.text) (i:=(i:Int)) (by first|omega|(simp only [decide_eq_false_iff_not,decide_eq_true_eq] at *;omega))
  cases h2:decide ((c1.toNat:Int) < 32)
  ·cases h3:decide (126 < (c1.toNat:Int))
   ·obtain ⟨qZ,xZ,gZ⟩:=ih (i+1) (by omega) (by first|trivial|assumption|(simp;done)|omega|(simp;omega)|(simp at *;omega)) (by omega);exact ⟨qZ,xZ,fun R hg=>zaa (wkl [sb h0,sy b1,sg h2,sy b1,sb h3,si hw] [1,3] 1 kr (gZ R hg))⟩
   ·exact False.elim (by first|exact zsu hp (zjo (by assumption)) (by assumption)|exact zr9 hp (zjo (by assumption)) (by assumption))
  ·exact False.elim (by first|exact zsu hp (zjo (by assumption)) (by assumption)|exact zr9 hp (zjo (by assumption)) (by assumption))
theorem zf9 {v:V} (hv:zaI v=true) (h0:(v.kind==0)=false) (h1:(v.kind==1)=false) (h2:(v.kind==2)=false):zdf v.text=true:=by
 unfold zaI at hv;rw [h0,h1,h2] at hv
 cases h3:v.kind==3 <;> rw [h3] at hv
 ·simp at hv
 ·cases h4:v.int==0 <;> rw [h4] at hv
  ·simp at hv
  ·exact hv
theorem zdC {v:V} (hv:zaI v=true) (h0:(v.kind==0)=true):(ByteArray.toList v.text==(ByteArray.mk #[]).toList)=true:=by
 unfold zaI at hv;rw [h0] at hv
 simp only [cond_true,Bool.and_true,Bool.true_and,Bool.and_eq_true] at hv
 rw [zqT hv.2];exact beq_self_eq_true _
theorem zdw {v:V} (hv:zaI v=true) (h0:(v.kind==0)=true) (h1:(v.int==0)=false):False:=by
 unfold zaI at hv;rw [h0,h1] at hv
 simp at hv
theorem zb1 {v:V} (hv:zaI v=true) (h0:(v.kind==0)=false) (h1:(v.kind==1)=false) (h2:(v.kind==2)=false) (h:decide ((64:Int) < ((v.text.size:Nat):Int))=true):False:=by
 have hp:=zf9 hv h0 h1 h2
 simp only [zdf,Bool.and_eq_true,decide_eq_true_eq] at hp h
 have:=hp.2
 omega
theorem zcy {v:V} (hv:zaI v=true) (h0:(v.kind==0)=false) (h1:(v.kind==1)=false) (h2:(v.kind==2)=false) (h:(v.int != 0)=true):False:=by
 unfold zaI at hv;rw [h0,h1,h2] at hv
 have h5:(v.int==0)=false:=by simpa using h
 rw [h5] at hv;simp at hv
theorem zmQ (v:V) (hv:zaI v=true):∃ (r:Bool),r=true∧zab E0 S.ref1_Valid [v.av] [] (bv r) []:=by
 cases h1:v.kind==0
 ·cases h2:v.kind==1
  ·cases h3:v.kind==2
   ·cases h4:v.kind==3
    ·exact ⟨false,(by first|rfl|exact zdC hv (by assumption)|exact (zdw hv (by assumption) (by assumption)).elim|exact (zb1 hv (by assumption) (by assumption) (by assumption) (by assumption)).elim|exact (zcy hv (by assumption) (by assumption) (by assumption) (by assumption)).elim|(exfalso;unfold zaI at hv;simp only [*] at hv;simp at hv;done)|(unfold zaI at hv;simp only [*] at hv;simpa using hv)),wk At.ref1_Valid [sb h1,sb h2,sb h3,sb h4] kr⟩
    ·cases h5:v.int != 0
     ·cases h6:decide (64 < (↑(ByteArray.size v.text):Int))
      ·obtain ⟨q7,q7_1,g7⟩:=zgE v (by first|assumption|omega|exact zf9 hv (by assumption) (by assumption) (by assumption)|trivial) (by first|assumption|omega|exact zf9 hv (by assumption) (by assumption) (by assumption)|trivial) 0 (by first|assumption|omega|exact zf9 hv (by assumption) (by assumption) (by assumption)|trivial) (by first|assumption|omega|exact zf9 hv (by assumption) (by assumption) (by assumption)|trivial)
       exact ⟨true,(by first|rfl|exact zdC hv (by assumption)|exact (zdw hv (by assumption) (by assumption)).elim|exact (zb1 hv (by assumption) (by assumption) (by assumption) (by assumption)).elim|exact (zcy hv (by assumption) (by assumption) (by assumption) (by assumption)).elim|(exfalso;unfold zaI at hv;simp only [*] at hv;simp at hv;done)|(unfold zaI at hv;simp only [*] at hv;simpa using hv)),wkc At.ref1_Valid [sb h1,sb h2,sb h3,sb h4,sg h5,sb h6] [1,3] 1 kr (g7 _ (zaa (wkr [sb q7_1] kr)))⟩
      ·exact ⟨false,(by first|rfl|exact zdC hv (by assumption)|exact (zdw hv (by assumption) (by assumption)).elim|exact (zb1 hv (by assumption) (by assumption) (by assumption) (by assumption)).elim|exact (zcy hv (by assumption) (by assumption) (by assumption) (by assumption)).elim|(exfalso;unfold zaI at hv;simp only [*] at hv;simp at hv;done)|(unfold zaI at hv;simp only [*] at hv;simpa using hv)),wk At.ref1_Valid [sb h1,sb h2,sb h3,sb h4,sg h5,sb h6] kr⟩
     ·exact ⟨false,(by first|rfl|exact zdC hv (by assumption)|exact (zdw hv (by assumption) (by assumption)).elim|exact (zb1 hv (by assumption) (by assumption) (by assumption) (by assumption)).elim|exact (zcy hv (by assumption) (by assumption) (by assumption) (by assumption)).elim|(exfalso;unfold zaI at hv;simp only [*] at hv;simp at hv;done)|(unfold zaI at hv;simp only [*] at hv;simpa using hv)),wk At.ref1_Valid [sb h1,sb h2,sb h3,sb h4,sb h5] kr⟩
   ·cases h8:v.int==0
    ·cases h9:v.int==1
     ·exact ⟨false,(by first|rfl|exact zdC hv (by assumption)|exact (zdw hv (by assumption) (by assumption)).elim|exact (zb1 hv (by assumption) (by assumption) (by assumption) (by assumption)).elim|exact (zcy hv (by assumption) (by assumption) (by assumption) (by assumption)).elim|(exfalso;unfold zaI at hv;simp only [*] at hv;simp at hv;done)|(unfold zaI at hv;simp only [*] at hv;simpa using hv)),wk At.ref1_Valid [sb h1,sb h2,sb h3,sg h8,sb h9] kr⟩
     ·exact ⟨ByteArray.toList v.text==(ByteArray.mk #[]).toList,(by first|rfl|exact zdC hv (by assumption)|exact (zdw hv (by assumption) (by assumption)).elim|exact (zb1 hv (by assumption) (by assumption) (by assumption) (by assumption)).elim|exact (zcy hv (by assumption) (by assumption) (by assumption) (by assumption)).elim|(exfalso;unfold zaI at hv;simp only [*] at hv;simp at hv;done)|(unfold zaI at hv;simp only [*] at hv;simpa using hv)),wk At.ref1_Valid [sb h1,sb h2,sb h3,sg h8,sg h9] kr⟩
    ·exact ⟨ByteArray.toList v.text==(ByteArray.mk #[]).toList,(by first|rfl|exact zdC hv (by assumption)|exact (zdw hv (by assumption) (by assumption)).elim|exact (zb1 hv (by assumption) (by assumption) (by assumption) (by assumption)).elim|exact (zcy hv (by assumption) (by assumption) (by assumption) (by assumption)).elim|(exfalso;unfold zaI at hv;simp only [*] at hv;simp at hv;done)|(unfold zaI at hv;simp only [*] at hv;simpa using hv)),wk At.ref1_Valid [sb h1,sb h2,sb h3,sb h8] kr⟩
  ·exact ⟨ByteArray.toList v.text==(ByteArray.mk #[]).toList,(by first|rfl|exact zdC hv (by assumption)|exact (zdw hv (by assumption) (by assumption)).elim|exact (zb1 hv (by assumption) (by assumption) (by assumption) (by assumption)).elim|exact (zcy hv (by assumption) (by assumption) (by assumption) (by assumption)).elim|(exfalso;unfold zaI at hv;simp only [*] at hv;simp at hv;done)|(unfold zaI at hv;simp only [*] at hv;simpa using hv)),wk At.ref1_Valid [sb h1,sb h2] kr⟩
 ·cases h10:v.int==0
  ·exact ⟨false,(by first|rfl|exact zdC hv (by assumption)|exact (zdw hv (by assumption) (by assumption)).elim|exact (zb1 hv (by assumption) (by assumption) (by assumption) (by assumption)).elim|exact (zcy hv (by assumption) (by assumption) (by assumption) (by assumption)).elim|(exfalso;unfold zaI at hv;simp only [*] at hv;simp at hv;done)|(unfold zaI at hv;simp only [*] at hv;simpa using hv)),wk At.ref1_Valid [sb h1,sb h10] kr⟩
  ·exact ⟨ByteArray.toList v.text==(ByteArray.mk #[]).toList,(by first|rfl|exact zdC hv (by assumption)|exact (zdw hv (by assumption) (by assumption)).elim|exact (zb1 hv (by assumption) (by assumption) (by assumption) (by assumption)).elim|exact (zcy hv (by assumption) (by assumption) (by assumption) (by assumption)).elim|(exfalso;unfold zaI at hv;simp only [*] at hv;simp at hv;done)|(unfold zaI at hv;simp only [*] at hv;simpa using hv)),wk At.ref1_Valid [sb h1,sg h10] kr⟩
theorem zkN (v:V) (hv:zaI v=true):zab E0 S.ref1_Valid [v.av] [] (bv true) []:=by
 obtain ⟨r,rfl,h⟩:=zmQ v hv
 exact h
def fit4 (c:Col) (v:V):Int :=
 bif v.kind==0 then
  bif c.notNull then
   8
  else
   0
 else
  bif v.kind != c.type then
   5
  else
   0
theorem zkd (c:Col) (v:V) (hv:zab E0 S.ref1_Valid [v.av] [] (bv true) []):zab E0 S.ref4_Fits [.agg c.cells,v.av] [] (iv (fit4 c v)) []:=by
 unfold fit4
 cases h1:v.kind==0
 ·let p_1:List St:=[sc hv,sb (rfl:false=false),sb h1]
  cases h2:v.kind != c.type
  ·exact wk At.ref4_Fits (p_1++[sb h2]) kr
  ·exact wk At.ref4_Fits (p_1++[sb h2]) kr
 ·let p_2:List St:=[sc hv,sb (rfl:false=false),sb h1]
  cases h3:c.notNull
  ·exact wk At.ref4_Fits (p_2++[sb h3]) kr
  ·exact wk At.ref4_Fits (p_2++[sb h3]) kr
def fitL:List Col→List V→Int
 | c::cs,v::vs=>bif fit4 c v != 0 then fit4 c v else fitL cs vs
 | _,_=>0
def fit5 (s:Sch) (l:List V):Int:=bif l.length != s.cols.length then 17 else fitL s.cols l
theorem zrY {cs:List Col} {vs:List V} {i:Nat} {c:Col} {v:V} {z:Int} (h:z=fitL (cs.drop i) (vs.drop i)) (hc:cs[i]?=some c) (hv:vs[i]?=some v) (h0:(fit4 c v != 0)=false):z=fitL (cs.drop (i+1)) (vs.drop (i+1)):=by
 rw [zaH hc,zaH hv] at h;rw [h];simp only [fitL,h0,cond_false]
theorem ztw {cs:List Col} {vs:List V} {i:Nat} {c:Col} {v:V} {z:Int} (h:z=fitL (cs.drop i) (vs.drop i)) (hc:cs[i]?=some c) (hv:vs[i]?=some v) (h0:(fit4 c v != 0)=true):fit4 c v=z:=by
 rw [zaH hc,zaH hv] at h;rw [h];simp only [fitL,h0,cond_true]
theorem zkw {cs:List Col} {vs:List V} {n:Nat} {z:Int} (h:z=fitL (cs.drop n) (vs.drop n)) (hn:n=cs.length):0=z:=by
 rw [h,hn,List.drop_length];rfl
noncomputable def L_f5 (s:Sch) (l:List V) (i:Nat) :Cfg:=zap B.ref5_Fits 0 [(1,vsl l),(15,.sl (s.cols.map Col.cells)),(16,iv ((s.cols.map Col.cells).length:Nat)),(17,iv (i:Nat))] [.box s.cells]
theorem zh2 (s:Sch) (l:List V) (hs:zad s.cols) (hll:l.length=s.cols.length) (hg:∀ v∈l,v.Good) (i:Nat)  (hi:i≤(s.cols).length) (hI:fitL s.cols l=fitL (s.cols.drop i) (l.drop i)):((fitL s.cols l=fitL (s.cols.drop (s.cols).length) (l.drop (s.cols).length))∧(decide ((((s.cols).length:Nat):Int) < (((s.cols.map Col.cells).length:Nat):Int))=false)∧∀ R,Good E0 B.ref5_Fits [] (L_f5 s l (s.cols).length ) R→Good E0 B.ref5_Fits [] (L_f5 s l i ) R)∨(∃ (r:Int),r=fitL s.cols l∧Good E0 B.ref5_Fits [] (L_f5 s l i ) (Shut 0 fun rZ hZ=>rZ=(iv r)∧hZ=[])):=by
 obtain ⟨kk,hk⟩:∃ kk,i+kk=(s.cols).length:=⟨(s.cols).length - i,by omega⟩
 induction kk generalizing i  with
 | zero =>
  have e0:i=(s.cols).length:=by omega
  subst e0
  exact .inl ⟨hI,by simp,fun R hg=>hg⟩
 | succ kk ih =>
  obtain ⟨x,hx⟩:=zaw (l:=s.cols) (i:=i) (by omega)
  have h0:decide (((i:Nat):Int) < (((s.cols.map Col.cells).length:Nat):Int))=true:=by simp;omega
  have hw:IntKind.i64.wrap (((i:Nat):Int)+1)=((i+1:Nat):Int):=zal i (by first|omega|(simp only [zad,Few] at *;omega))
  obtain ⟨y,hy⟩:=zaw (l:=l) (i:=i) (by have:=zc3 hx;omega);have hyv:=zkN y (hg y (List.mem_of_getElem? hy)).valid
  let p_1:List St:=[sb h0,se (zaf Col.cells hx rfl),sd [(3,[se (zaf V.cells hy rfl)]),(5,[sc (zkd x y (by first|assumption|omega|(simp;done)|(simp;omega)))])]]
  cases h1:fit4 x y != 0
  ·exact (ih (i+1) (by omega) (by exact zrY hI hx hy (by assumption)) (by omega)).elim (fun ⟨qZ,xZ,gZ⟩=>.inl ⟨qZ,xZ,fun R hg=>zaa (wkl (p_1++[sb h1,si hw]) [1,15,16,17] 1 kr (gZ R hg))⟩) (fun ⟨rY,pZ,gZ⟩=>.inr ⟨rY,pZ,zaa (wkl [sb h0,se (zaf Col.cells hx rfl),sd [(3,[se (zaf V.cells hy rfl)]),(5,[sc (zkd x y (by first|assumption|omega|(simp;done)|(simp;omega)))])],sb h1,si hw] [1,15,16,17] 1 kr gZ)⟩)
  ·exact .inr ⟨fit4 x y,(by exact ztw hI hx hy (by assumption)),zaa (wkr (p_1++[sb h1]) kr)⟩
theorem zpD (s:Sch) (l:List V) (hs:zad s.cols) (hg:∀ v∈l,v.Good):∃ (r:Int),r=fit5 s l∧zab E0 S.ref5_Fits [s.av,vsl l] [] (iv r) []:=by
 cases h1:(↑(List.map V.cells l).length:Int) != (↑(List.map Col.cells s.cols).length:Int)
 ·rcases zh2 s l (by first|assumption|rfl|omega|(simp only [List.length_map] at *;simp at *;omega)) (by first|assumption|rfl|omega|(simp only [List.length_map] at *;simp at *;omega)) (by first|assumption|rfl|omega|(simp only [List.length_map] at *;simp at *;omega)) 0 (by first|assumption|rfl|omega|(simp only [List.length_map] at *;simp at *;omega)) (by first|assumption|rfl|omega|(simp only [List.length_map] at *;simp at *;omega)) with ⟨q2,q2_1,g2⟩|⟨r2_0,p2_0,g2⟩
  ·exact ⟨0,(by first|(unfold fit5;rw [show (l.length != s.cols.length)=false by simp at *;omega];first|assumption|exact zkw (by assumption) rfl)|(unfold fit5;rw [show (l.length != s.cols.length)=true by simp at *;omega];rfl)),wkc At.ref5_Fits [sb h1] [1,15,16,17] 1 kr (g2 _ (zaa (wkr [sb q2_1] kr)))⟩
  ·exact ⟨r2_0,(by first|(unfold fit5;rw [show (l.length != s.cols.length)=false by simp at *;omega];first|assumption|exact zkw (by assumption) rfl)|(unfold fit5;rw [show (l.length != s.cols.length)=true by simp at *;omega];rfl)),wkc At.ref5_Fits [sb h1] [1,15,16,17] 1 kr (g2)⟩
 ·exact ⟨17,(by first|(unfold fit5;rw [show (l.length != s.cols.length)=false by simp at *;omega];first|assumption|exact zkw (by assumption) rfl)|(unfold fit5;rw [show (l.length != s.cols.length)=true by simp at *;omega];rfl)),wk At.ref5_Fits [sb h1] kr⟩
theorem zdB (s:Sch) (l:List V) (hs:zad s.cols) (hg:∀ v∈l,v.Good):zab E0 S.ref5_Fits [s.av,vsl l] [] (iv (fit5 s l)) []:=by
 obtain ⟨r,rfl,h⟩:=zpD s l hs hg
 exact h
noncomputable def zqD (s:Sch) (i:Nat) :Cfg:=zap B.ref4_KeyColumn 0 [(6,.sl (s.cols.map Col.cells)),(7,iv ((s.cols.map Col.cells).length:Nat)),(8,iv (i:Nat))] [.box s.cells]
theorem ze9 (s:Sch) (hs:zad s.cols) (i:Nat)  (hi:i≤(s.cols).length) (hI:idxF (fun c=>c.key) s.cols 0=idxF (fun c=>c.key) (s.cols.drop i) i):((idxF (fun c=>c.key) s.cols 0=idxF (fun c=>c.key) (s.cols.drop (s.cols).length) (s.cols).length)∧(decide ((((s.cols).length:Nat):Int) < (((s.cols.map Col.cells).length:Nat):Int))=false)∧∀ R,Good E0 B.ref4_KeyColumn [] (zqD s (s.cols).length ) R→Good E0 B.ref4_KeyColumn [] (zqD s i ) R)∨(∃ (r:Int),r=idxF (fun c=>c.key) s.cols 0∧Good E0 B.ref4_KeyColumn [] (zqD s i ) (Shut 0 fun rZ hZ=>rZ=(iv r)∧hZ=[])):=by
 obtain ⟨kk,hk⟩:∃ kk,i+kk=(s.cols).length:=⟨(s.cols).length - i,by omega⟩
 induction kk generalizing i  with
 | zero =>
  have e0:i=(s.cols).length:=by omega
  subst e0
  exact .inl ⟨hI,by simp,fun R hg=>hg⟩
 | succ kk ih =>
  obtain ⟨x,hx⟩:=zaw (l:=s.cols) (i:=i) (by omega)
  have h0:decide (((i:Nat):Int) < (((s.cols.map Col.cells).length:Nat):Int))=true:=by simp;omega
  have hw:IntKind.i64.wrap (((i:Nat):Int)+1)=((i+1:Nat):Int):=zal i (by first|omega|(simp only [zad,Few] at *;omega))
  let p_1:List St:=[sb h0,se (zaf Col.cells hx rfl)]
  cases h1:x.key
  ·exact (ih (i+1) (by omega) (by exact zlQ hI hx (by assumption)) (by omega)).elim (fun ⟨qZ,xZ,gZ⟩=>.inl ⟨qZ,xZ,fun R hg=>zaa (wkl (p_1++[sb h1,si hw]) [6,7,8] 1 kr (gZ R hg))⟩) (fun ⟨rY,pZ,gZ⟩=>.inr ⟨rY,pZ,zaa (wkl [sb h0,se (zaf Col.cells hx rfl),sb h1,si hw] [6,7,8] 1 kr gZ)⟩)
  ·exact .inr ⟨(i:Int),(by exact zoG hI hx (by assumption)),zaa (wkr (p_1++[sb h1]) kr)⟩
theorem zkA (s:Sch) (hs:zad s.cols):∃ (r:Int),r=idxF (fun c=>c.key) s.cols 0∧zab E0 S.ref4_KeyColumn [s.av] [] (iv r) []:=by
 rcases ze9 s (by first|assumption|rfl|omega) 0 (by first|assumption|rfl|omega) (by first|assumption|rfl|omega) with ⟨q1,q1_1,g1⟩|⟨r1_0,p1_0,g1⟩
 ·exact ⟨-1,(by first|assumption|exact zhl (by assumption)),wkc At.ref4_KeyColumn [] [6,7,8] 1 kr (g1 _ (zaa (wkr [sb q1_1] kr)))⟩
 ·exact ⟨r1_0,(by first|assumption|exact zhl (by assumption)),wkc At.ref4_KeyColumn [] [6,7,8] 1 kr (g1)⟩
theorem zkq (s:Sch) (hs:zad s.cols):zab E0 S.ref4_KeyColumn [s.av] [] (iv (idxF (fun c=>c.key) s.cols 0)) []:=by
 obtain ⟨r,rfl,h⟩:=zkA s hs
 exact h
noncomputable def L_h7 (l:List Int) (n:Int) (i:Nat) :Cfg:=zap B.ref7_has 0 [(1,iv n),(7,isl l),(8,iv ((l.map zbN).length:Nat)),(9,iv (i:Nat))] []
theorem zim (l:List Int) (n:Int) (hl:zad l) (i:Nat)  (hi:i≤(l).length) (hI:l.any (fun x=>x==n)=(l.drop i).any (fun x=>x==n)):((l.any (fun x=>x==n)=(l.drop (l).length).any (fun x=>x==n))∧(decide ((((l).length:Nat):Int) < (((l.map zbN).length:Nat):Int))=false)∧∀ R,Good E0 B.ref7_has [] (L_h7 l n (l).length ) R→Good E0 B.ref7_has [] (L_h7 l n i ) R)∨(∃ (r:Bool),r=l.any (fun x=>x==n)∧Good E0 B.ref7_has [] (L_h7 l n i ) (Shut 0 fun rZ hZ=>rZ=(bv r)∧hZ=[])):=by
 obtain ⟨kk,hk⟩:∃ kk,i+kk=(l).length:=⟨(l).length - i,by omega⟩
 induction kk generalizing i  with
 | zero =>
  have e0:i=(l).length:=by omega
  subst e0
  exact .inl ⟨hI,by simp,fun R hg=>hg⟩
 | succ kk ih =>
  obtain ⟨x,hx⟩:=zaw (l:=l) (i:=i) (by omega)
  have h0:decide (((i:Nat):Int) < (((l.map zbN).length:Nat):Int))=true:=by simp;omega
  have hw:IntKind.i64.wrap (((i:Nat):Int)+1)=((i+1:Nat):Int):=zal i (by first|omega|(simp only [zad,Few] at *;omega))
  let p_1:List St:=[sb h0,se (zaf (fun n=>[iv n]) hx rfl)]
  cases h1:x==n
  ·exact (ih (i+1) (by omega) (by (rw [hI,zaH hx];simp only [List.any_cons, *,Bool.false_or])) (by omega)).elim (fun ⟨qZ,xZ,gZ⟩=>.inl ⟨qZ,xZ,fun R hg=>zaa (wkl (p_1++[sb h1,si hw]) [1,7,8,9] 0 kr (gZ R hg))⟩) (fun ⟨rY,pZ,gZ⟩=>.inr ⟨rY,pZ,zaa (wkl [sb h0,se (zaf (fun n=>[iv n]) hx rfl),sb h1,si hw] [1,7,8,9] 0 kr gZ)⟩)
  ·exact .inr ⟨true,(by (rw [hI,zaH hx];simp only [List.any_cons, *,Bool.true_or])),zaa (wkr (p_1++[sb h1]) kr)⟩
theorem zqn (l:List Int) (n:Int) (hl:zad l):∃ (r:Bool),r=l.any (fun x=>x==n)∧zab E0 S.ref7_has [isl l,iv n] [] (bv r) []:=by
 rcases zim l n (by first|assumption|rfl|omega) 0 (by first|assumption|rfl|omega) (by first|assumption|rfl|omega) with ⟨q1,q1_1,g1⟩|⟨r1_0,p1_0,g1⟩
 ·exact ⟨false,(by first|assumption|(rw [‹List.any _ _=List.any _ _›,List.drop_length];rfl)),wkc At.ref7_has [] [1,7,8,9] 0 kr (g1 _ (zaa (wkr [sb q1_1] kr)))⟩
 ·exact ⟨r1_0,(by first|assumption|(rw [‹List.any _ _=List.any _ _›,List.drop_length];rfl)),wkc At.ref7_has [] [1,7,8,9] 0 kr (g1)⟩
theorem zru (l:List Int) (n:Int) (hl:zad l):zab E0 S.ref7_has [isl l,iv n] [] (bv (l.any (fun x=>x==n))) []:=by
 obtain ⟨r,rfl,h⟩:=zqn l n hl
 exact h
def fnd7 (n:Int):List Pr→List V × Bool
 | []=>([],false)
 | p::r=>bif p.id==n then (p.nw,true) else fnd7 n r
noncomputable def L_f7 (l:List Pr) (n:Int) (i:Nat) :Cfg:=zap B.ref7_find 0 [(1,iv n),(8,.sl (l.map Pr.cells)),(9,iv ((l.map Pr.cells).length:Nat)),(10,iv (i:Nat))] []
theorem zhC (l:List Pr) (n:Int) (hl:zad l) (i:Nat)  (hi:i≤(l).length) (hI:fnd7 n l=fnd7 n (l.drop i)):((fnd7 n l=fnd7 n (l.drop (l).length))∧(decide ((((l).length:Nat):Int) < (((l.map Pr.cells).length:Nat):Int))=false)∧∀ R,Good E0 B.ref7_find [] (L_f7 l n (l).length ) R→Good E0 B.ref7_find [] (L_f7 l n i ) R)∨(∃ (v:List V) (r:Bool),(v,r)=fnd7 n l∧Good E0 B.ref7_find [] (L_f7 l n i ) (Shut 0 fun rZ hZ=>rZ=(.tup [vsl v,bv r])∧hZ=[])):=by
 obtain ⟨kk,hk⟩:∃ kk,i+kk=(l).length:=⟨(l).length - i,by omega⟩
 induction kk generalizing i  with
 | zero =>
  have e0:i=(l).length:=by omega
  subst e0
  exact .inl ⟨hI,by simp,fun R hg=>hg⟩
 | succ kk ih =>
  obtain ⟨x,hx⟩:=zaw (l:=l) (i:=i) (by omega)
  have h0:decide (((i:Nat):Int) < (((l.map Pr.cells).length:Nat):Int))=true:=by simp;omega
  have hw:IntKind.i64.wrap (((i:Nat):Int)+1)=((i+1:Nat):Int):=zal i (by first|omega|(simp only [zad,Few] at *;omega))
  let p_1:List St:=[sb h0,se (zaf Pr.cells hx rfl)]
  cases h1:x.id==n
  ·exact (ih (i+1) (by omega) (by (rw [hI,zaH hx];simp only [fnd7, *,cond_false])) (by omega)).elim (fun ⟨qZ,xZ,gZ⟩=>.inl ⟨qZ,xZ,fun R hg=>zaa (wkl (p_1++[sb h1,si hw]) [1,8,9,10] 0 kr (gZ R hg))⟩) (fun ⟨vY,rY,pZ,gZ⟩=>.inr ⟨vY,rY,pZ,zaa (wkl [sb h0,se (zaf Pr.cells hx rfl),sb h1,si hw] [1,8,9,10] 0 kr gZ)⟩)
  ·exact .inr ⟨x.nw,true,(by (rw [hI,zaH hx];simp only [fnd7, *,cond_true])),zaa (wkr (p_1++[sb h1]) kr)⟩
theorem zoU (l:List Pr) (n:Int) (hl:zad l):∃ (v:List V) (r:Bool),(v,r)=fnd7 n l∧zab E0 S.ref7_find [.sl (l.map Pr.cells),iv n] [] (.tup [vsl v,bv r]) []:=by
 rcases zhC l n (by first|assumption|rfl|omega) 0 (by first|assumption|rfl|omega) (by first|assumption|rfl|omega) with ⟨q1,q1_1,g1⟩|⟨r1_0,r1_1,p1_0,g1⟩
 ·exact ⟨[],false,(by first|assumption|(rw [‹fnd7 _ _=fnd7 _ _›,List.drop_length];rfl)),wkc At.ref7_find [] [1,8,9,10] 0 kr (g1 _ (zaa (wkr [sb q1_1] kr)))⟩
 ·exact ⟨r1_0,r1_1,(by first|assumption|(rw [‹fnd7 _ _=fnd7 _ _›,List.drop_length];rfl)),wkc At.ref7_find [] [1,8,9,10] 0 kr (g1)⟩
theorem zpt (l:List Pr) (n:Int) (hl:zad l):zab E0 S.ref7_find [.sl (l.map Pr.cells),iv n] [] (.tup [vsl (fnd7 n l).1,bv (fnd7 n l).2]) []:=by
 obtain ⟨v,r,h,h2⟩:=zoU l n hl
 rw [← h];exact h2
end Go.AM
namespace Go.AM
set_option maxRecDepth 100000
set_option maxHeartbeats 1000000
set_option linter.unusedSimpArgs false
set_option linter.unusedVariables false
abbrev itI (n:Int):AV × AV:=(iv n,bv true)
abbrev anyI (ks:List Int) (n:Int):Bool:=ks.any fun x=>x==n
theorem zgs (n m:Int):zcg (iv n) (iv m) (n==m):=⟨false,[.int .i64 n],[.int .i64 m],rfl,rfl,by simp [za8,zcK]⟩
theorem zeu {ks:List Int} {n:Int}:anyI ks n=true↔n∈ks:=by
 simp [anyI]
theorem ztN {ks:List Int} {n:Int} (h:anyI ks n=false):n ∉ ks:=fun hm=>by rw [zeu.2 hm] at h;cases h
theorem zpY (ks:List Int) (n:Int) (h:anyI ks n=false):PutAt (ks.map itI) (iv n) (bv true) ((ks++[n]).map itI):=by
 refine .new (fun p hp=>?_) ?_
 ·obtain ⟨m,hm,rfl⟩:=List.mem_map.1 hp
  have h1:=zgs n m
  rwa [show (n==m)=false by simp;rintro rfl;exact ztN h hm] at h1
 ·rw [List.map_append];exact List.perm_append_comm
theorem lookI (ks:List Int) (n:Int):LookAt (ks.map itI) (iv n) (bif anyI ks n then some (bv true) else none) where
 all:=fun p hp=>by obtain ⟨m,hm,rfl⟩:=List.mem_map.1 hp;exact ⟨_,zgs n m⟩
 at_:=fun p hp h=>by
  obtain ⟨m,hm,rfl⟩:=List.mem_map.1 hp
  have h1:(n==m)=true:=zcg.det (zgs n m) h
  have h2:n=m:=by simpa using h1
  have:n∈ks:=h2 ▸ hm
  rw [zeu.2 this];rfl
 some_:=fun x hx=>by
  cases h:anyI ks n
  ·rw [h] at hx;cases hx
  ·have hm:=zeu.1 h
   refine ⟨itI n,List.mem_map.2 ⟨n,hm,rfl⟩,?_⟩
   have:=zgs n n;rwa [beq_self_eq_true] at this
theorem ztl (ks:List Int) (n:Int):LookV (ks.map itI) (iv n) (.bl false) (bv (anyI ks n)) :=
 ⟨_,lookI ks n,by cases anyI ks n <;> first|exact .inr rfl|exact .inl rfl⟩
/- values -/
abbrev itV (v:V):AV × AV:=(v.av,bv true)
def eqV (a b:V):Bool:=a.kind==b.kind&&(a.int==b.int&&(a.text==b.text&&true))
theorem zjs {a b:V}:eqV a b=true↔a=b:=by
 obtain ⟨k,i,t⟩:=a;obtain ⟨k',i',t'⟩:=b
 constructor
 ·intro h
  simp only [eqV,Bool.and_eq_true,Bool.and_true,beq_iff_eq] at h
  obtain ⟨rfl,rfl,h⟩:=h
  rw [zqT h]
 ·intro h;cases h;simp [eqV,zpH]
abbrev anyV (ks:List V) (n:V):Bool:=ks.any fun x=>eqV n x
theorem zjJ (n m:V):zcg n.av m.av (eqV n m):=⟨true,[.int .i64 n.kind,.int .i64 n.int,.string n.text],[.int .i64 m.kind,.int .i64 m.int,.string m.text],rfl,rfl,by simp [za8,zcK,eqV]⟩
theorem zhP {ks:List V} {n:V}:anyV ks n=true↔n∈ks:=by
 simp only [anyV,List.any_eq_true,zjs]
 constructor
 ·rintro ⟨x,hx,rfl⟩;exact hx
 ·intro h;exact ⟨n,h,rfl⟩
theorem zp7 {ks:List V} {n:V} (h:anyV ks n=false):n ∉ ks:=fun hm=>by rw [zhP.2 hm] at h;cases h
theorem zqc (ks:List V) (n:V) (h:anyV ks n=false):PutAt (ks.map itV) n.av (bv true) ((ks++[n]).map itV):=by
 refine .new (fun p hp=>?_) ?_
 ·obtain ⟨m,hm,rfl⟩:=List.mem_map.1 hp
  have h1:=zjJ n m
  have h2:eqV n m=false:=by
   cases he:eqV n m
   ·rfl
   ·exact absurd (zjs.1 he ▸ hm) (zp7 h)
  rwa [h2] at h1
 ·rw [List.map_append];exact List.perm_append_comm
theorem lookV (ks:List V) (n:V):LookAt (ks.map itV) n.av (bif anyV ks n then some (bv true) else none) where
 all:=fun p hp=>by obtain ⟨m,hm,rfl⟩:=List.mem_map.1 hp;exact ⟨_,zjJ n m⟩
 at_:=fun p hp h=>by
  obtain ⟨m,hm,rfl⟩:=List.mem_map.1 hp
  have h1:eqV n m=true:=zcg.det (zjJ n m) h
  have:n∈ks:=zjs.1 h1 ▸ hm
  rw [zhP.2 this];rfl
 some_:=fun x hx=>by
  cases h:anyV ks n
  ·rw [h] at hx;cases hx
  ·have hm:=zhP.1 h
   refine ⟨itV n,List.mem_map.2 ⟨n,hm,rfl⟩,?_⟩
   have:=zjJ n n;rwa [zjs.2 rfl] at this
theorem zkI (ks:List V) (n:V):LookV (ks.map itV) n.av (.bl false) (bv (anyV ks n)) :=
 ⟨_,lookV ks n,by cases anyV ks n <;> first|exact .inr rfl|exact .inl rfl⟩
def zc5 (kc:Int) (r:Rw):Option V:=bif decide (0≤kc)&&decide (kc < ((r.vals.map V.cells).length:Int)) then some (zaB r.vals kc) else none
def zbh (kc:Int) (l:List Rw):List V:=l.filterMap (zc5 kc)
theorem ziC {kc:Int} {l:List Rw} {i:Nat} {x:Rw} (hx:l[i]?=some x):zbh kc (l.take (i+1))=zbh kc (l.take i)++(zc5 kc x).toList:=by
 unfold zbh
 rw [List.take_add_one,hx,List.filterMap_append]
 cases h:zc5 kc x <;> simp [h]
theorem zfA {kc:Int} {l:List Rw} {i:Nat} {x:Rw} {ks:List V} (hI:ks=zbh kc (l.take i)∧ks.Nodup) (hx:l[i]?=some x) (h:zc5 kc x=none):ks=zbh kc (l.take (i+1))∧ks.Nodup:=by
 rw [ziC hx,h];simpa using hI
theorem zoH {kc:Int} {l:List Rw} {i:Nat} {x:Rw} {ks:List V} {v:V} (hI:ks=zbh kc (l.take i)∧ks.Nodup) (hx:l[i]?=some x) (h:zc5 kc x=some v) (hn:anyV ks v=false):ks++[v]=zbh kc (l.take (i+1))∧(ks++[v]).Nodup:=by
 rw [ziC hx,h]
 refine ⟨by rw [hI.1];rfl,?_⟩
 rw [List.nodup_append]
 exact ⟨hI.2,by simp,fun a ha b hb=>by simp only [List.mem_singleton] at hb;subst hb;rintro rfl;exact zp7 hn ha⟩
theorem du_dup {kc:Int} {l:List Rw} {i:Nat} {x:Rw} {ks:List V} {v:V} (hI:ks=zbh kc (l.take i)∧ks.Nodup) (hx:l[i]?=some x) (h:zc5 kc x=some v) (hn:anyV ks v=true):¬ (zbh kc l).Nodup:=by
 intro hd
 have h1:zbh kc l=zbh kc (l.take (i+1))++zbh kc (l.drop (i+1)):=by unfold zbh;rw [← List.filterMap_append,List.take_append_drop]
 rw [h1,ziC hx,h] at hd
 have h2:=(List.nodup_append.1 hd).1
 have h3:=(List.nodup_append.1 h2).2.2 v (by rw [← hI.1];exact zhP.1 hn) v (by simp)
 exact h3 rfl
theorem zl4 {kc:Int} {x:Rw} (h:decide ((0:Int)≤kc)=false):zc5 kc x=none:=by simp only [zc5,h,Bool.false_and,cond_false]
theorem zlH {kc:Int} {x:Rw} (h:decide (kc < ((x.vals.map V.cells).length:Int))=false):zc5 kc x=none:=by simp only [zc5,h,Bool.and_false,cond_false]
theorem zjx {kc:Int} {x:Rw} (h:decide ((0:Int)≤kc)=true) (h2:decide (kc < ((x.vals.map V.cells).length:Int))=true):zc5 kc x=some (zaB x.vals kc):=by simp only [zc5,h,h2,Bool.and_self,cond_true]
noncomputable def L_du (t:Tb) (kc:Int) (i:Nat) (ks:List V):Cfg:=zap B.ref6_Duplicate 0 [(3,iv kc),(4,.mp 1),(12,.sl (t.rows.map Rw.cells)),(13,iv ((t.rows.map Rw.cells).length:Nat)),(14,iv (i:Nat))] [.box t.cells,.mp (ks.map itV)]
theorem zfq (t:Tb) (kc:Int) (hs:zad t.rows) (i:Nat) (ks:List V) (hi:i≤(t.rows).length) (hI:ks=zbh kc (t.rows.take i)∧ks.Nodup):(∃ (ks':List V),(ks'=zbh kc (t.rows.take (t.rows).length)∧ks'.Nodup)∧(decide ((((t.rows).length:Nat):Int) < (((t.rows.map Rw.cells).length:Nat):Int))=false)∧∀ R,Good E0 B.ref6_Duplicate [] (L_du t kc (t.rows).length ks') R→Good E0 B.ref6_Duplicate [] (L_du t kc i ks) R)∨(∃ (r:Bool),(r=true∧¬ (zbh kc t.rows).Nodup)∧Good E0 B.ref6_Duplicate [] (L_du t kc i ks) (Shut 0 fun rZ hZ=>rZ=(bv r)∧hZ=[])):=by
 obtain ⟨kk,hk⟩:∃ kk,i+kk=(t.rows).length:=⟨(t.rows).length - i,by omega⟩
 induction kk generalizing i ks with
 | zero =>
  have e0:i=(t.rows).length:=by omega
  subst e0
  exact .inl ⟨ks,hI,by simp,fun R hg=>hg⟩
 | succ kk ih =>
  obtain ⟨x,hx⟩:=zaw (l:=t.rows) (i:=i) (by omega)
  have h0:decide (((i:Nat):Int) < (((t.rows.map Rw.cells).length:Nat):Int))=true:=by simp;omega
  have hw:IntKind.i64.wrap (((i:Nat):Int)+1)=((i+1:Nat):Int):=zal i (by first|omega|(simp only [zad,Few] at *;omega))
  cases h1:decide (0≤kc)
  ·exact (ih (i+1) ks (by omega) (by first|exact zfA hI hx (zl4 (by assumption))|exact zfA hI hx (zlH (by assumption))|exact zoH hI hx (zjx (by assumption) (by assumption)) (by assumption)) (by omega)).elim (fun ⟨ksZ,qZ,xZ,gZ⟩=>.inl ⟨ksZ,qZ,xZ,fun R hg=>zaa (wkl [sb h0,se (zaf Rw.cells hx rfl),sb h1,si hw] [3,4,12,13,14] 2 kr (gZ R hg))⟩) (fun ⟨rY,pZ,gZ⟩=>.inr ⟨rY,pZ,zaa (wkl [sb h0,se (zaf Rw.cells hx rfl),sb h1,si hw] [3,4,12,13,14] 2 kr gZ)⟩)
  ·cases h2:decide (kc < (↑(List.map V.cells x.vals).length:Int))
   ·exact (ih (i+1) ks (by omega) (by first|exact zfA hI hx (zl4 (by assumption))|exact zfA hI hx (zlH (by assumption))|exact zoH hI hx (zjx (by assumption) (by assumption)) (by assumption)) (by omega)).elim (fun ⟨ksZ,qZ,xZ,gZ⟩=>.inl ⟨ksZ,qZ,xZ,fun R hg=>zaa (wkl [sb h0,se (zaf Rw.cells hx rfl),sg h1,sb h2,si hw] [3,4,12,13,14] 2 kr (gZ R hg))⟩) (fun ⟨rY,pZ,gZ⟩=>.inr ⟨rY,pZ,zaa (wkl [sb h0,se (zaf Rw.cells hx rfl),sg h1,sb h2,si hw] [3,4,12,13,14] 2 kr gZ)⟩)
   ·cases h3:anyV ks (zaB x.vals kc)
    ·exact (ih (i+1) (ks++[zaB x.vals kc]) (by omega) (by first|exact zfA hI hx (zl4 (by assumption))|exact zfA hI hx (zlH (by assumption))|exact zoH hI hx (zjx (by assumption) (by assumption)) (by assumption)) (by omega)).elim (fun ⟨ksZ,qZ,xZ,gZ⟩=>.inl ⟨ksZ,qZ,xZ,fun R hg=>zaa (wkl [sb h0,se (zaf Rw.cells hx rfl),sg h1,sb h2,se (zdv x.vals kc (by first|assumption|omega|(simp only [decide_eq_false_iff_not,decide_eq_true_eq,List.length_map] at *;omega)|(simp;done)) (by first|assumption|omega|(simp only [decide_eq_false_iff_not,decide_eq_true_eq,List.length_map] at *;omega)|(simp;done))),sx (.el [bv (anyV ks (zaB x.vals kc))]) (And.intro (zcZ ((zaB x.vals kc).kind) ((zaB x.vals kc).int) ((zaB x.vals kc).text)) (zkI ks (zaB x.vals kc))),sb h3,se (zdv x.vals kc (by first|assumption|omega|(simp only [decide_eq_false_iff_not,decide_eq_true_eq,List.length_map] at *;omega)|(simp;done)) (by first|assumption|omega|(simp only [decide_eq_false_iff_not,decide_eq_true_eq,List.length_map] at *;omega)|(simp;done))),sx (.call [] .un [.mp (List.map itV (ks++[zaB x.vals kc]))]) (And.intro (zcZ ((zaB x.vals kc).kind) ((zaB x.vals kc).int) ((zaB x.vals kc).text)) (zqc ks (zaB x.vals kc) (by first|assumption|omega|(simp only [decide_eq_false_iff_not,decide_eq_true_eq,List.length_map] at *;omega)|(simp;done)))),si hw] [3,4,12,13,14] 2 kr (gZ R hg))⟩) (fun ⟨rY,pZ,gZ⟩=>.inr ⟨rY,pZ,zaa (wkl [sb h0,se (zaf Rw.cells hx rfl),sg h1,sb h2,se (zdv x.vals kc (by first|assumption|omega|(simp only [decide_eq_false_iff_not,decide_eq_true_eq,List.length_map] at *;omega)|(simp;done)) (by first|assumption|omega|(simp only [decide_eq_false_iff_not,decide_eq_true_eq,List.length_map] at *;omega)|(simp;done))),sx (.el [bv (anyV ks (zaB x.vals kc))]) (And.intro (zcZ ((zaB x.vals kc).kind) ((zaB x.vals kc).int) ((zaB x.vals kc).text)) (zkI ks (zaB x.vals kc))),sb h3,se (zdv x.vals kc (by first|assumption|omega|(simp only [decide_eq_false_iff_not,decide_eq_true_eq,List.length_map] at *;omega)|(simp;done)) (by first|assumption|omega|(simp only [decide_eq_false_iff_not,decide_eq_true_eq,List.length_map] at *;omega)|(simp;done))),sx (.call [] .un [.mp (List.map itV (ks++[zaB x.vals kc]))]) (And.intro (zcZ ((zaB x.vals kc).kind) ((zaB x.vals kc).int) ((zaB x.vals kc).text)) (zqc ks (zaB x.vals kc) (by first|assumption|omega|(simp only [decide_eq_false_iff_not,decide_eq_true_eq,List.length_map] at *;omega)|(simp;done)))),si hw] [3,4,12,13,14] 2 kr gZ)⟩)
    ·exact .inr ⟨true,(by exact ⟨rfl,du_dup hI hx (zjx (by assumption) (by assumption)) (by assumption)⟩),zaa (wkr [sb h0,se (zaf Rw.cells hx rfl),sg h1,sb h2,se (zdv x.vals kc (by first|assumption|omega|(simp only [decide_eq_false_iff_not,decide_eq_true_eq,List.length_map] at *;omega)|(simp;done)) (by first|assumption|omega|(simp only [decide_eq_false_iff_not,decide_eq_true_eq,List.length_map] at *;omega)|(simp;done))),sx (.el [bv (anyV ks (zaB x.vals kc))]) (And.intro (zcZ ((zaB x.vals kc).kind) ((zaB x.vals kc).int) ((zaB x.vals kc).text)) (zkI ks (zaB x.vals kc))),sb h3] kr)⟩
theorem zfZ (t:Tb) (hs:zad t.sch.cols) (hr:zad t.rows):∃ (b:Bool),(b=false↔(zbh (idxF (fun c=>c.key) t.sch.cols 0) t.rows).Nodup)∧zab E0 S.ref6_Duplicate [t.av] [] (bv b) []:=by
 let p_1:List St:=[sc (zkq t.sch (by first|assumption|omega|exact ⟨rfl,by simp⟩|(simp;done)))]
 rcases zfq t (idxF (fun c=>c.key) t.sch.cols 0) (by first|assumption|omega|exact ⟨rfl,by simp⟩|(simp;done)) 0 ([]) (by first|assumption|omega|exact ⟨rfl,by simp⟩|(simp;done)) (by first|assumption|omega|exact ⟨rfl,by simp⟩|(simp;done)) with ⟨ks1,q1,q1_1,g1⟩|⟨r1_0,p1_0,g1⟩
 ·exact ⟨false,(by first|(have hq1:=‹_=zbh _ _∧List.Nodup _›;rw [List.take_length] at hq1;exact ⟨fun _=>hq1.1 ▸ hq1.2,fun _=>rfl⟩)|(have hq1:=‹_=true∧¬ List.Nodup _›;rw [hq1.1];exact ⟨fun h=>(by cases h),fun h=>absurd h hq1.2⟩)),wkc At.ref6_Duplicate p_1 [3,4,12,13,14] 2 kr (g1 _ (zaa (wkr [sb q1_1] kr)))⟩
 ·exact ⟨r1_0,(by first|(have hq1:=‹_=zbh _ _∧List.Nodup _›;rw [List.take_length] at hq1;exact ⟨fun _=>hq1.1 ▸ hq1.2,fun _=>rfl⟩)|(have hq1:=‹_=true∧¬ List.Nodup _›;rw [hq1.1];exact ⟨fun h=>(by cases h),fun h=>absurd h hq1.2⟩)),wkc At.ref6_Duplicate p_1 [3,4,12,13,14] 2 kr (g1)⟩
end Go.AM
namespace Go.AM
set_option maxRecDepth 100000
set_option maxHeartbeats 1000000
set_option linter.unusedSimpArgs false
set_option linter.unusedVariables false
noncomputable def zql (s:Sch) (n:Str) (i:Nat) :Cfg:=zap B.ref4_Find 0 [(1,sv n),(8,.sl (s.cols.map Col.cells)),(9,iv ((s.cols.map Col.cells).length:Nat)),(10,iv (i:Nat))] [.box s.cells]
theorem zhn (s:Sch) (n:Str) (h:zad s.cols) (i:Nat)  (hi:i≤(s.cols).length) (hI:idxF (fun c=>colC c n) s.cols 0=idxF (fun c=>colC c n) (s.cols.drop i) i):((idxF (fun c=>colC c n) s.cols 0=idxF (fun c=>colC c n) (s.cols.drop (s.cols).length) (s.cols).length)∧(decide ((((s.cols).length:Nat):Int) < (((s.cols.map Col.cells).length:Nat):Int))=false)∧∀ R,Good E0 B.ref4_Find [] (zql s n (s.cols).length ) R→Good E0 B.ref4_Find [] (zql s n i ) R)∨(∃ (r:Int),r=idxF (fun c=>colC c n) s.cols 0∧Good E0 B.ref4_Find [] (zql s n i ) (Shut 0 fun rZ hZ=>rZ=(iv r)∧hZ=[])):=by
 obtain ⟨kk,hk⟩:∃ kk,i+kk=(s.cols).length:=⟨(s.cols).length - i,by omega⟩
 induction kk generalizing i  with
 | zero =>
  have e0:i=(s.cols).length:=by omega
  subst e0
  exact .inl ⟨hI,by simp,fun R hg=>hg⟩
 | succ kk ih =>
  obtain ⟨x,hx⟩:=zaw (l:=s.cols) (i:=i) (by omega)
  have h0:decide (((i:Nat):Int) < (((s.cols.map Col.cells).length:Nat):Int))=true:=by simp;omega
  have hw:IntKind.i64.wrap (((i:Nat):Int)+1)=((i+1:Nat):Int):=zal i (by first|omega|(simp only [zad,Few] at *;omega))
  let p_1:List St:=[sb h0,se (zaf Col.cells hx rfl)]
  cases h1:ByteArray.toList x.name==ByteArray.toList n
  ·exact (ih (i+1) (by omega) (by exact zlQ hI hx (by assumption)) (by omega)).elim (fun ⟨qZ,xZ,gZ⟩=>.inl ⟨qZ,xZ,fun R hg=>zaa (wkl (p_1++[sb h1,si hw]) [1,8,9,10] 1 kr (gZ R hg))⟩) (fun ⟨rY,pZ,gZ⟩=>.inr ⟨rY,pZ,zaa (wkl [sb h0,se (zaf Col.cells hx rfl),sb h1,si hw] [1,8,9,10] 1 kr gZ)⟩)
  ·exact .inr ⟨(i:Int),(by exact zoG hI hx (by assumption)),zaa (wkr (p_1++[sb h1]) kr)⟩
theorem zoY (s:Sch) (n:Str) (hs:zad s.cols):∃ (r:Int),r=idxF (fun c=>colC c n) s.cols 0∧zab E0 S.ref4_Find [s.av,sv n] [] (iv r) []:=by
 rcases zhn s n (by first|assumption|rfl|omega) 0 (by first|assumption|rfl|omega) (by first|assumption|rfl|omega) with ⟨q1,q1_1,g1⟩|⟨r1_0,p1_0,g1⟩
 ·exact ⟨-1,(by first|assumption|exact zhl (by assumption)),wkc At.ref4_Find [] [1,8,9,10] 1 kr (g1 _ (zaa (wkr [sb q1_1] kr)))⟩
 ·exact ⟨r1_0,(by first|assumption|exact zhl (by assumption)),wkc At.ref4_Find [] [1,8,9,10] 1 kr (g1)⟩
theorem zj8 (s:Sch) (n:Str) (hs:zad s.cols):zab E0 S.ref4_Find [s.av,sv n] [] (iv (idxF (fun c=>colC c n) s.cols 0)) []:=by
 obtain ⟨r,rfl,h⟩:=zoY s n hs
 exact h
structure ColV (s:Sch) (i:Nat) (x:Col):Prop where
 name:(!zaS x.name)=false
 lo:decide (x.type < 1)=false
 hi:decide ((3:Int) < x.type)=false
 key:x.key=true→x.notNull=true
 at_:(idxF (fun c=>colC c x.name) s.cols 0 != ((i:Nat):Int))=false
structure SchV (s:Sch):Prop where
 name:(!zaS s.name)=false
 lo:decide (((s.cols.map Col.cells).length:Int) < 1)=false
 hi:decide ((6:Int) < ((s.cols.map Col.cells).length:Int))=false
 cols:∀ i x,s.cols[i]?=some x→ColV s i x
 keys:s.cols.countP (fun c=>c.key)≤1
theorem SchV.short {s:Sch} (h:SchV s):zad s.cols:=by have:=h.hi;simp only [List.length_map,decide_eq_false_iff_not] at this;simp only [zad];omega
theorem zmj {l:List Col} {i k:Nat} {x:Col} (h:k=(l.take i).countP (fun c=>c.key)) (hx:l[i]?=some x) (hk:x.key=true):k+1=(l.take (i+1)).countP (fun c=>c.key):=by
 rw [List.take_add_one,hx,List.countP_append,h];simp [hk]
theorem zmu {l:List Col} {i k:Nat} {x:Col} (h:k=(l.take i).countP (fun c=>c.key)) (hx:l[i]?=some x) (hk:x.key=false):k=(l.take (i+1)).countP (fun c=>c.key):=by
 rw [List.take_add_one,hx,List.countP_append,h];simp [hk]
noncomputable def L_sv4 (s:Sch) (i:Nat) (keys:Nat):Cfg:=zap B.ref4_Valid 0 [(1,.p 0 0),(3,iv (keys:Nat)),(23,.sl (s.cols.map Col.cells)),(24,iv ((s.cols.map Col.cells).length:Nat)),(25,iv (i:Nat))] [.box s.cells]
theorem zgJ (s:Sch) (hs:zad s.cols) (hv:SchV s) (i:Nat) (keys:Nat) (hi:i≤(s.cols).length) (hI:keys=(s.cols.take i).countP (fun c=>c.key)):∃ (keys':Nat),(keys'=(s.cols.take (s.cols).length).countP (fun c=>c.key))∧(decide ((((s.cols).length:Nat):Int) < (((s.cols.map Col.cells).length:Nat):Int))=false)∧∀ R,Good E0 B.ref4_Valid [] (L_sv4 s (s.cols).length keys') R→Good E0 B.ref4_Valid [] (L_sv4 s i keys) R:=by
 obtain ⟨kk,hk⟩:∃ kk,i+kk=(s.cols).length:=⟨(s.cols).length - i,by omega⟩
 induction kk generalizing i keys with
 | zero =>
  have e0:i=(s.cols).length:=by omega
  subst e0
  exact ⟨keys,hI,by simp,fun R hg=>hg⟩
 | succ kk ih =>
  obtain ⟨x,hx⟩:=zaw (l:=s.cols) (i:=i) (by omega)
  have h0:decide (((i:Nat):Int) < (((s.cols.map Col.cells).length:Nat):Int))=true:=by simp;omega
  have hw:IntKind.i64.wrap (((i:Nat):Int)+1)=((i+1:Nat):Int):=zal i (by first|omega|(simp only [zad,Few] at *;omega))
  obtain ⟨a1,a2,a3,a4,a5⟩:=hv.cols i x hx;have hkl:keys≤1000:=(by have h1:=List.countP_le_length (p:=fun c:Col=>c.key) (l:=s.cols.take i);have h2:=hv.hi;simp only [List.length_map,decide_eq_false_iff_not] at h2;rw [← hI,List.length_take] at h1;omega)
  let p_1:List St:=[sb h0,se (zaf Col.cells hx rfl),sc (zen x.name),sg a1,sg a2,sg a3]
  cases h1:x.key
  ·obtain ⟨keysZ,qZ,xZ,gZ⟩:=ih (i+1) keys (by omega) (by first|exact zmj hI hx (by assumption)|exact zmu hI hx (by assumption)) (by omega);exact ⟨keysZ,qZ,xZ,fun R hg=>zaa (wkl (p_1++[sb h1,sc (zj8 s x.name (by first|assumption|omega|(simp;done)|(simp;omega))),sb a5,sb h1,si hw]) [1,3,23,24,25] 1 kr (gZ R hg))⟩
  ·cases h2:!x.notNull
   ·obtain ⟨keysZ,qZ,xZ,gZ⟩:=ih (i+1) (keys+1) (by omega) (by first|exact zmj hI hx (by assumption)|exact zmu hI hx (by assumption)) (by omega);exact ⟨keysZ,qZ,xZ,fun R hg=>zaa (wkl (p_1++[sg h1,sg h2,sc (zj8 s x.name (by first|assumption|omega|(simp;done)|(simp;omega))),sb a5,sb h1,si (zjO (t:=(keys:Int)+1) (n:=keys+1) (by omega) (by omega)),si hw]) [1,3,23,24,25] 1 kr (gZ R hg))⟩
   ·exact False.elim (by simp_all)
theorem zmR (s:Sch) (hs:zad s.cols) (hv:SchV s) (n1:(!zaS s.name)=false) (n2:decide (((s.cols.map Col.cells).length:Int) < 1)=false) (n3:decide ((6:Int) < ((s.cols.map Col.cells).length:Int))=false):∃ (r:Bool),r=true∧zab E0 S.ref4_Valid [s.av] [] (bv r) []:=by
 obtain ⟨keys1,q1,q1_1,g1⟩:=zgJ s (by first|assumption|rfl|omega) (by first|assumption|rfl|omega) 0 0 (by first|assumption|rfl|omega) (by first|assumption|rfl|omega)
 exact ⟨decide ((keys1:Int)≤(1:Int)),(by first|rfl|(rw [List.take_length] at *;have hkz:=hv.keys;simp;omega)),wkc At.ref4_Valid [sc (zen s.name),sg n1,sg n2,sb n3] [1,3,23,24,25] 1 kr (g1 _ (zaa (wkr [sb q1_1] kr)))⟩
theorem zla (s:Sch) (hv:SchV s):zab E0 S.ref4_Valid [s.av] [] (bv true) []:=by
 obtain ⟨r,rfl,h⟩:=zmR s hv.short hv hv.name hv.lo hv.hi
 exact h
end Go.AM
namespace Go.AM
set_option maxRecDepth 100000
set_option maxHeartbeats 1000000
set_option linter.unusedSimpArgs false
set_option linter.unusedVariables false
def get6 (n:Int):List Rw→List V × Bool
 | []=>([],false)
 | r::l=>bif r.id==n then (r.vals,true) else get6 n l
noncomputable def L_ge (t:Tb) (n:Int) (i:Nat) :Cfg:=zap B.ref6_Get 0 [(1,iv n),(9,.sl (t.rows.map Rw.cells)),(10,iv ((t.rows.map Rw.cells).length:Nat)),(11,iv (i:Nat))] [.box t.cells]
theorem zif (t:Tb) (n:Int) (hl:zad t.rows) (hv:∀ r∈t.rows,zad r.vals) (i:Nat)  (hi:i≤(t.rows).length) (hI:get6 n t.rows=get6 n (t.rows.drop i)):((get6 n t.rows=get6 n (t.rows.drop (t.rows).length))∧(decide ((((t.rows).length:Nat):Int) < (((t.rows.map Rw.cells).length:Nat):Int))=false)∧∀ R,Good E0 B.ref6_Get [] (L_ge t n (t.rows).length ) R→Good E0 B.ref6_Get [] (L_ge t n i ) R)∨(∃ (v:List V) (r:Bool),(v,r)=get6 n t.rows∧Good E0 B.ref6_Get [] (L_ge t n i ) (Shut 0 fun rZ hZ=>rZ=(.tup [vsl v,bv r])∧hZ=[])):=by
 obtain ⟨kk,hk⟩:∃ kk,i+kk=(t.rows).length:=⟨(t.rows).length - i,by omega⟩
 induction kk generalizing i  with
 | zero =>
  have e0:i=(t.rows).length:=by omega
  subst e0
  exact .inl ⟨hI,by simp,fun R hg=>hg⟩
 | succ kk ih =>
  obtain ⟨x,hx⟩:=zaw (l:=t.rows) (i:=i) (by omega)
  have h0:decide (((i:Nat):Int) < (((t.rows.map Rw.cells).length:Nat):Int))=true:=by simp;omega
  have hw:IntKind.i64.wrap (((i:Nat):Int)+1)=((i+1:Nat):Int):=zal i (by first|omega|(simp only [zad,Few] at *;omega))
  have hvx:=hv x (List.mem_of_getElem? hx)
  let p_1:List St:=[sb h0,se (zaf Rw.cells hx rfl)]
  cases h1:x.id==n
  ·exact (ih (i+1) (by omega) (by (rw [hI,zaH hx];simp only [get6, *,cond_false])) (by omega)).elim (fun ⟨qZ,xZ,gZ⟩=>.inl ⟨qZ,xZ,fun R hg=>zaa (wkl (p_1++[sb h1,si hw]) [1,9,10,11] 1 kr (gZ R hg))⟩) (fun ⟨vY,rY,pZ,gZ⟩=>.inr ⟨vY,rY,pZ,zaa (wkl [sb h0,se (zaf Rw.cells hx rfl),sb h1,si hw] [1,9,10,11] 1 kr gZ)⟩)
  ·exact .inr ⟨zbF x.vals,true,(by (rw [hI,zaH hx];simp only [get6, *,cond_true];try rfl)),zaa (wkr (p_1++[sb h1,sc (zdE x.vals (by first|assumption|omega|(simp;done)|(simp;omega)))]) kr)⟩
theorem zqQ (t:Tb) (n:Int) (hl:zad t.rows) (hv:∀ r∈t.rows,zad r.vals):∃ (v:List V) (r:Bool),(v,r)=get6 n t.rows∧zab E0 S.ref6_Get [t.av,iv n] [] (.tup [vsl v,bv r]) []:=by
 rcases zif t n (by first|assumption|rfl|omega) (by first|assumption|rfl|omega) 0 (by first|assumption|rfl|omega) (by first|assumption|rfl|omega) with ⟨q1,q1_1,g1⟩|⟨r1_0,r1_1,p1_0,g1⟩
 ·exact ⟨[],false,(by first|assumption|(rw [‹get6 _ _=get6 _ _›,List.drop_length];rfl)),wkc At.ref6_Get [] [1,9,10,11] 1 kr (g1 _ (zaa (wkr [sb q1_1] kr)))⟩
 ·exact ⟨r1_0,r1_1,(by first|assumption|(rw [‹get6 _ _=get6 _ _›,List.drop_length];rfl)),wkc At.ref6_Get [] [1,9,10,11] 1 kr (g1)⟩
theorem zhO (t:Tb) (n:Int) (hl:zad t.rows) (hv:∀ r∈t.rows,zad r.vals):zab E0 S.ref6_Get [t.av,iv n] [] (.tup [vsl (get6 n t.rows).1,bv (get6 n t.rows).2]) []:=by
 obtain ⟨v,r,h,h2⟩:=zqQ t n hl hv
 rw [← h];exact h2
noncomputable def L_cp6 (t:Tb) (i:Nat) (rs:List Rw):Cfg:=zap B.ref6_Copy 0 [(1,.p 0 0),(2,.p 1 0),(3,.own 3 rs.length),(13,.sl (t.rows.map Rw.cells)),(14,iv ((t.rows.map Rw.cells).length:Nat)),(15,iv (i:Nat))] [.box [sv t.sch.name,.own 2 (t.sch.cols.map Col.cells).length,iv t.next,.sl (t.rows.map Rw.cells)],.box [sv ⟨#[]⟩,.nl,iv 0,.nl],.row Ty.Column (t.sch.cols.map Col.cells) false,.row Ty.Row (rs.map Rw.cells) false]
theorem zhx (t:Tb) (hl:zad t.rows) (hv:∀ r∈t.rows,zad r.vals) (i:Nat) (rs:List Rw) (hi:i≤(t.rows).length) (hI:rs=t.rows.take i):∃ (rs':List Rw),(rs'=t.rows.take (t.rows).length)∧(decide ((((t.rows).length:Nat):Int) < (((t.rows.map Rw.cells).length:Nat):Int))=false)∧∀ R,Good E0 B.ref6_Copy [] (L_cp6 t (t.rows).length rs') R→Good E0 B.ref6_Copy [] (L_cp6 t i rs) R:=by
 obtain ⟨kk,hk⟩:∃ kk,i+kk=(t.rows).length:=⟨(t.rows).length - i,by omega⟩
 induction kk generalizing i rs with
 | zero =>
  have e0:i=(t.rows).length:=by omega
  subst e0
  exact ⟨rs,hI,by simp,fun R hg=>hg⟩
 | succ kk ih =>
  obtain ⟨x,hx⟩:=zaw (l:=t.rows) (i:=i) (by omega)
  have h0:decide (((i:Nat):Int) < (((t.rows.map Rw.cells).length:Nat):Int))=true:=by simp;omega
  have hw:IntKind.i64.wrap (((i:Nat):Int)+1)=((i+1:Nat):Int):=zal i (by first|omega|(simp only [zad,Few] at *;omega))
  have hvx:=hv x (List.mem_of_getElem? hx);have hol:rs.length≤1000000000:=(by rw [hI,List.length_take];simp only [zad] at hl;omega)
  obtain ⟨rsZ,qZ,xZ,gZ⟩:=ih (i+1) (rs++[x]) (by omega) (by (rw [List.take_add_one,hx,← hI];rfl)) (by omega);exact ⟨rsZ,qZ,xZ,fun R hg=>zaa (wkl [sb h0,se (zaf Rw.cells hx rfl),sd [(5,[sc (zdE x.vals (by first|assumption|omega|(simp;done)|(simp;omega)))]),(8,[sqx (AllLen [[iv x.id,AV.sl (List.map V.cells (zbF x.vals))]] 2∧rs.length=(List.map Rw.cells rs).length∧(((List.map Rw.cells rs).length+[[iv x.id,AV.sl (List.map V.cells (zbF x.vals))]].length) * 32).le 140737488355328)])],si hw] [1,2,3,13,14,15] 4 kr (zay (show ([(1,AV.p 0 0),(2,AV.p 1 0),(3,AV.own 3 (List.map Rw.cells rs++[[iv x.id,AV.sl (List.map V.cells (zbF x.vals))]]).length),(13,AV.sl (List.map Rw.cells t.rows)),(14,iv (↑(List.map Rw.cells t.rows).length:Int)),(15,iv (↑(i+1):Int))]:TS)=_ by first|rfl|(simp [Rw.cells,zbF];done)) (show ([Blk.box [sv t.sch.name,AV.own 2 (List.map Col.cells t.sch.cols).length,iv t.next,AV.sl (List.map Rw.cells t.rows)],Blk.box [sv (ByteArray.mk #[]),AV.nl,iv 0,AV.nl],Blk.row Ty.Column (List.map Col.cells t.sch.cols) false,Blk.row Ty.Row (List.map Rw.cells rs++[[iv x.id,AV.sl (List.map V.cells (zbF x.vals))]]) false]:Heap)=_ by first|rfl|(simp [Rw.cells,zbF];done)) (gZ R hg)))⟩
theorem zpv (t:Tb) (hl:zad t.rows) (hc:zad t.sch.cols) (hv:∀ r∈t.rows,zad r.vals):∃ (r:Tb),r=t∧zab E0 S.ref6_Copy [t.av] [] r.av []:=by
 obtain ⟨rs1,q1,q1_1,g1⟩:=zhx t (by first|assumption|rfl|omega) (by first|assumption|rfl|omega) 0 ([]) (by first|assumption|rfl|omega) (by first|assumption|rfl|omega)
 exact ⟨Tb.mk t.sch t.next rs1,(by (rw [List.take_length] at *;subst_vars;rfl)),wkcN At.ref6_Copy [sqx (AllLen (List.map Col.cells t.sch.cols) 4∧((List.map Col.cells t.sch.cols).length * 32).le 140737488355328)] [1,2,3,13,14,15] 3 [(.ot 3 Ty.Row,4)] kr (g1 _ (zaa (wkr [sqx (True∧(List.map Col.cells t.sch.cols).length=(List.map Col.cells t.sch.cols).length∧True∧rs1.length=(List.map Rw.cells rs1).length∧True),sb q1_1] kr)))⟩
theorem zpr (t:Tb) (hl:zad t.rows) (hc:zad t.sch.cols) (hv:∀ r∈t.rows,zad r.vals):zab E0 S.ref6_Copy [t.av] [] t.av []:=by
 obtain ⟨r,rfl,h⟩:=zpv t hl hc hv
 exact h
end Go.AM
namespace Go.AM
set_option maxRecDepth 100000
set_option maxHeartbeats 1000000
set_option linter.unusedSimpArgs false
set_option linter.unusedVariables false
structure TabV (t:Tb):Prop where
 sch:SchV t.sch
 len:decide ((100:Int) < ((t.rows.map Rw.cells).length:Int))=false
 rows:RowsV t.sch t.next t.rows
 max:decide ((2147483648:Int) < t.next)=false
 key:idxF (fun c=>c.key) t.sch.cols 0=keyC t.sch
theorem TabV.shr {t:Tb} (h:TabV t):zad t.rows:=by have:=h.len;simp only [List.length_map,decide_eq_false_iff_not] at this;simp only [zad];omega
theorem TabV.vals {t:Tb} (h:TabV t):∀ r∈t.rows,zad r.vals:=fun r hr=>by
 have h1:=(h.rows.fit r hr).len
 have h2:=h.sch.short
 have h3:r.vals.length=t.sch.cols.length:=h1
 simp only [zad] at *;omega
theorem zuu {c:Col} {v:V} (h:ValOk c v) (hc:zeE c):fit4 c v=0:=by
 unfold fit4
 cases h0:v.kind==0
 ·have hk:v.kind=c.type:=h.kind.resolve_left (by simpa using h0)
  simp [hk]
 ·have h1:v.kind=0:=by simpa using h0
  cases hn:c.notNull
  ·rfl
  ·have:=h.nn hn;simp only [zeE] at hc;omega
theorem zpP:∀ (cs:List Col) (vs:List V),(∀ c∈cs,zeE c)→(∀ (k:Nat) (c:Col) (v:V),cs[k]?=some c→vs[k]?=some v→ValOk c v)→fitL cs vs=0
 | [],_,_,_=>by unfold fitL;rfl
 | _::_,[],_,_=>rfl
 | c::cs,v::vs,hc,h=>by
  have h0:=zuu (h 0 c v rfl rfl) (hc c (by simp))
  simp only [fitL,h0,bne_self_eq_false,cond_false]
  exact zpP cs vs (fun c h=>hc c (by simp [h])) fun k c v h1 h2=>h (k+1) c v (by simpa using h1) (by simpa using h2)
theorem SchV.cok {s:Sch} (h:SchV s):∀ c∈s.cols,zeE c:=fun c hc=>by
 obtain ⟨i,hi⟩:=List.getElem?_of_mem hc
 have h1:=(h.cols i c hi).lo
 have h2:=(h.cols i c hi).hi
 simp only [decide_eq_false_iff_not] at h1 h2
 simp only [zeE];omega
theorem zpO {s:Sch} {vs:List V} (hs:SchV s) (h:zcB s.cols vs):fit5 s vs=0:=by
 unfold fit5
 rw [show (vs.length != s.cols.length)=false by have:=h.len;simpa using this]
 exact zpP _ _ hs.cok h.at_
theorem znB {cols:List Col} {vals:List V} (h:zcB cols vals):∀ v∈vals,v.Good:=PrefOk.good h
structure RowF (t:Tb) (x:Rw):Prop where
 lo:decide (x.id < 1)=false
 hi:decide (t.next≤x.id)=false
 fit:zab E0 S.ref5_Fits [t.sch.av,vsl x.vals] [] (iv 0) []
theorem TabV.rowF {t:Tb} (h:TabV t) {x:Rw} (hx:x∈t.rows):RowF t x:=by
 have h1:=h.rows.ids x hx
 refine ⟨by simp;omega,by simp;omega,?_⟩
 have h2:=zdB t.sch x.vals h.sch.short (znB (h.rows.fit x hx))
 rwa [zpO h.sch (h.rows.fit x hx)] at h2
theorem znN {α:Type} {f:α→Int} {l:List α} (h:l.Pairwise fun a b=>f a < f b) {i:Nat} {x y:α} (hx:l[i]?=some x) (h1:1≤i) (hl:i≤1000000000) (hy:AtI l (IntKind.i64.wrap (((i:Nat):Int) - 1)) y):decide (f x≤f y)=false:=by
 have e:IntKind.i64.wrap (((i:Nat):Int) - 1)=((i - 1:Nat):Int):=by rw [IntKind.wrap_i64];omega
 rw [e] at hy
 have h2:l[i - 1]?=some y:=by simpa using hy.2
 obtain ⟨a1,a2⟩:=List.getElem?_eq_some_iff.1 hx
 obtain ⟨b1,b2⟩:=List.getElem?_eq_some_iff.1 h2
 have:=List.pairwise_iff_getElem.1 h (i - 1) i b1 a1 (by omega)
 rw [a2,b2] at this
 rw [decide_eq_false_iff_not];omega
theorem znW {α:Type} {l:List α} {i:Nat} {x:α} (hx:l[i]?=some x) (h1:1≤i) (hl:i≤1000000000):0≤IntKind.i64.wrap (((i:Nat):Int) - 1)∧IntKind.i64.wrap (((i:Nat):Int) - 1) < ((l.length:Nat):Int):=by
 have:=(List.getElem?_eq_some_iff.1 hx).1
 rw [IntKind.wrap_i64];omega
noncomputable def L_v6 (t:Tb) (i:Nat) :Cfg:=zap B.ref6_Valid 0 [(1,.p 0 0),(26,.sl (t.rows.map Rw.cells)),(27,iv ((t.rows.map Rw.cells).length:Nat)),(28,iv (i:Nat))] [.box t.cells]
theorem zg2 (t:Tb) (ht:TabV t) (hs:zad t.sch.cols) (hr:zad t.rows) (i:Nat)  (hi:i≤(t.rows).length) (hI:1≤i):(1≤(t.rows).length)∧(decide ((((t.rows).length:Nat):Int) < (((t.rows.map Rw.cells).length:Nat):Int))=false)∧∀ R,Good E0 B.ref6_Valid [] (L_v6 t (t.rows).length ) R→Good E0 B.ref6_Valid [] (L_v6 t i ) R:=by
 obtain ⟨kk,hk⟩:∃ kk,i+kk=(t.rows).length:=⟨(t.rows).length - i,by omega⟩
 induction kk generalizing i  with
 | zero =>
  have e0:i=(t.rows).length:=by omega
  subst e0
  exact ⟨hI,by simp,fun R hg=>hg⟩
 | succ kk ih =>
  obtain ⟨x,hx⟩:=zaw (l:=t.rows) (i:=i) (by omega)
  have h0:decide (((i:Nat):Int) < (((t.rows.map Rw.cells).length:Nat):Int))=true:=by simp;omega
  have hw:IntKind.i64.wrap (((i:Nat):Int)+1)=((i+1:Nat):Int):=zal i (by first|omega|(simp only [zad,Few] at *;omega))
  obtain ⟨a1,a2,a3⟩:=ht.rowF (List.mem_of_getElem? hx);have a5:decide ((0:Int) < ((i:Nat):Int))=true:=(by simp;omega);have hil:=zc3 hx
  have a6:(bif decide (x.id < 1) then true else decide (t.next≤x.id))=false:=(by rw [a1,a2];rfl)
  have a4:∀ y,AtI t.rows (IntKind.i64.wrap (((i:Nat):Int) - 1)) y→(bif (bif decide (x.id < 1) then true else decide (t.next≤x.id)) then true else bif decide ((0:Int) < ((i:Nat):Int)) then decide (x.id≤y.id) else false)=false:=fun y hy=>(by rw [a6,a5,znN ht.rows.asc hx hI (by simp only [zad] at hr;omega) hy];rfl)
  have a7:∀ y,AtI t.rows (IntKind.i64.wrap (((i:Nat):Int) - 1)) y→(bif (bif (bif decide (x.id < 1) then true else decide (t.next≤x.id)) then true else bif decide ((0:Int) < ((i:Nat):Int)) then decide (x.id≤y.id) else false) then true else ((0:Int) != 0))=false:=fun y hy=>(by rw [a4 y hy];rfl)
  obtain ⟨x1,e1⟩:=ziw (l:=t.rows) (i:=IntKind.i64.wrap ((i:Int) - (1:Int))) (by exact znW hx hI (by simp only [zad] at hr;omega))
  obtain ⟨qZ,xZ,gZ⟩:=ih (i+1) (by omega) (by omega) (by omega);exact ⟨qZ,xZ,fun R hg=>zaa (wkl [sb h0,se (zaf Rw.cells hx rfl),sd [(4,[sg a1]),(5,[sg a1]),(6,[sg a1]),(7,[sg a1]),(8,[sg a1]),(11,[sg a6]),(12,[sg a6]),(13,[sg a6]),(14,[sg a5]),(15,[sg a5]),(16,[sg a5]),(17,[so a5 (si (e:=IntKind.i64.wrap ((i:Int) - 1)) rfl)]),(18,[so a5 (se (zdb Rw.cells e1 rfl))]),(19,[sg a5]),(20,[sg a5]),(21,[sg a5]),(22,[sg a5]),(23,[sg a5]),(24,[sg a6]),(27,[sg (a4 x1 e1)]),(28,[sg (a4 x1 e1)]),(29,[sg (a4 x1 e1)]),(30,[sg (a4 x1 e1)]),(31,[so (a4 x1 e1) (sc a3)]),(32,[sg (a4 x1 e1)])],sb (a7 x1 e1),si hw] [1,26,27,28] 1 kr (gZ R hg))⟩
theorem zgM (t:Tb) (ht:TabV t) (hs:zad t.sch.cols) (hr:zad t.rows):decide (((t.rows.length:Nat):Int) < (((t.rows.map Rw.cells).length:Nat):Int))=false∧∀ R,Good E0 B.ref6_Valid [] (L_v6 t t.rows.length) R→Good E0 B.ref6_Valid [] (L_v6 t 0) R:=by
 cases hrw:t.rows with
 | nil=>exact ⟨by simp,fun R h=>h⟩
 | cons x r =>
  have hx:t.rows[0]?=some x:=by rw [hrw];rfl
  obtain ⟨_,h1,h2⟩:=zg2 t ht hs hr 1 (by rw [hrw];simp) (Nat.le_refl 1)
  rw [← hrw]
  refine ⟨h1,fun R h=>?_⟩
  have hg:=h2 R h
  have h0:decide (((0:Nat):Int) < (((t.rows.map Rw.cells).length:Nat):Int))=true:=by rw [hrw];simp
  obtain ⟨a1,a2,a3⟩:=ht.rowF (List.mem_of_getElem? hx)
  have a6:(bif decide (x.id < 1) then true else decide (t.next≤x.id))=false:=(by rw [a1,a2];rfl)
  have a7:(bif (bif decide (x.id < 1) then true else decide (t.next≤x.id)) then true else false)=false:=(by rw [a6];rfl)
  have a8:(bif (bif (bif decide (x.id < 1) then true else decide (t.next≤x.id)) then true else false) then true else ((0:Int) != 0))=false:=(by rw [a7];rfl)
  refine zaa ?_
  exact wkl [sb h0,se (zaf Rw.cells hx rfl),sd [(4,[sg a1]),(5,[sg a1]),(6,[sg a1]),(7,[sg a1]),(8,[sg a1]),(11,[sg a6]),(12,[sg a6]),(13,[sg a6]),(14,[sb (rfl:false=false)]),(15,[sb (rfl:false=false)]),(16,[sb (rfl:false=false)]),(17,[sb (rfl:false=false)]),(18,[sb (rfl:false=false)]),(19,[sb (rfl:false=false)]),(20,[sb (rfl:false=false)]),(21,[sb (rfl:false=false)]),(22,[sb (rfl:false=false)]),(23,[sb (rfl:false=false)]),(24,[so a6 (sb (rfl:false=false))]),(27,[sg a7]),(28,[sg a7]),(29,[sg a7]),(30,[sg a7]),(31,[so a7 (sc a3)]),(32,[sg a7])],sb a8,si (zjO (t:=(↑0:Int)+1) (n:=0+1) (by omega) (by omega))] [1,26,27,28] 1 kr (hg)
theorem zmS (t:Tb) (ht:TabV t) (hs:zad t.sch.cols) (hr:zad t.rows) (hv:zab E0 S.ref4_Valid [t.sch.av] [] (bv true) []) (h1a:decide ((100:Int) < ((t.rows.map Rw.cells).length:Int))=false) (h2a:decide (t.next < 1)=false) (h3a:decide ((2147483648:Int) < t.next)=false) (hd:zab E0 S.ref6_Duplicate [t.av] [] (bv false) []):∃ (b:Bool),b=true∧zab E0 S.ref6_Valid [t.av] [] (bv b) []:=by
 obtain ⟨q1,g1⟩:=zgM t (by first|assumption|omega|(simp;done)|(simp;omega)) (by first|assumption|omega|(simp;done)|(simp;omega)) (by first|assumption|omega|(simp;done)|(simp;omega))
 exact ⟨!false,(by rfl),wkc At.ref6_Valid [sc hv,sg (rfl:false=false),sg h1a,sg h2a,sb h3a] [1,26,27,28] 1 kr (g1 _ (zaa (wkr [sb q1,sc hd] kr)))⟩
theorem zft {kc:Int}:∀ (l:List Rw),(0≤kc→l.Pairwise fun a b=>zaB a.vals kc≠zaB b.vals kc)→(zbh kc l).Nodup
 | [],_=>by simp [zbh]
 | r::l,h=>by
  have ih:=zft l fun hk=>(List.pairwise_cons.1 (h hk)).2
  unfold zbh at ih ⊢
  rw [List.filterMap_cons]
  cases hr:zc5 kc r with
  | none=>exact ih
  | some v =>
   refine List.nodup_cons.2 ⟨fun hm=>?_,ih⟩
   obtain ⟨q,hq,hv⟩:=List.mem_filterMap.1 hm
   unfold zc5 at hr hv
   by_cases hk:0≤kc
   ·cases c1:decide (kc < ((r.vals.map V.cells).length:Int)) <;> rw [c1] at hr
    ·simp at hr
    ·cases c2:decide (kc < ((q.vals.map V.cells).length:Int)) <;> rw [c2] at hv
     ·simp at hv
     ·simp only [hk,decide_true,Bool.and_self,cond_true,Option.some.injEq] at hr hv
      exact (List.pairwise_cons.1 (h hk)).1 q hq (hr.trans hv.symm)
   ·simp [hk] at hr
theorem TabV.dup {t:Tb} (h:TabV t):zab E0 S.ref6_Duplicate [t.av] [] (bv false) []:=by
 obtain ⟨b,hb,hc⟩:=zfZ t h.sch.short h.shr
 have h1:b=false:=hb.2 (by rw [h.key];exact zft _ h.rows.keys)
 rw [h1] at hc;exact hc
theorem zlG (t:Tb) (ht:TabV t):zab E0 S.ref6_Valid [t.av] [] (bv true) []:=by
 have hp:=ht.rows.pos
 obtain ⟨r,rfl,h⟩:=zmS t ht ht.sch.short ht.shr (zla _ ht.sch) ht.len (by simp;omega) ht.max ht.dup
 exact h
end Go.AM
namespace Go.AM
set_option maxRecDepth 100000
set_option maxHeartbeats 1000000
set_option linter.unusedSimpArgs false
set_option linter.unusedVariables false
structure CmpOk {α:Type} (c:α→α→Int):Prop where
 zero:∀ a b,c a b=0↔a=b
 anti:∀ a b,c a b < 0↔0 < c b a
 trans:∀ {a b d},c a b < 0→c b d < 0→c a d < 0
def lexC {α:Type} (c:α→α→Int):List α→List α→Int
 | [],[]=>0
 | [],_::_=>-1
 | _::_,[]=>1
 | a::x,b::y=>if c a b=0 then lexC c x y else c a b
theorem zmp {α:Type} {c:α→α→Int} (h:CmpOk c):∀ a b,lexC c a b=0↔a=b
 | [],[]=>by simp [lexC]
 | [],_::_=>by simp [lexC]
 | _::_,[]=>by simp [lexC]
 | a::x,b::y=>by
  have ih:=zmp h x y
  have hz:=h.zero a b
  simp only [lexC,List.cons.injEq]
  split
  ·rename_i e;simp [ih,hz.1 e]
  ·rename_i e;exact ⟨fun k=>absurd k e,fun k=>absurd (hz.2 k.1) e⟩
theorem zmo {α:Type} {c:α→α→Int} (h:CmpOk c):∀ a b,lexC c a b < 0↔0 < lexC c b a
 | [],[]=>by simp [lexC]
 | [],_::_=>by simp [lexC]
 | _::_,[]=>by simp [lexC]
 | a::x,b::y=>by
  have ih:=zmo h x y
  have hz:=h.zero a b
  have hz2:=h.zero b a
  have ha:=h.anti a b
  simp only [lexC]
  by_cases e:a=b
  ·rw [if_pos (hz.2 e),if_pos (hz2.2 e.symm)];exact ih
  ·rw [if_neg (fun k=>e (hz.1 k)),if_neg (fun k=>e (hz2.1 k).symm)];exact ha
theorem zlb {α:Type} {c:α→α→Int} (h:CmpOk c):∀ {a b d},lexC c a b < 0→lexC c b d < 0→lexC c a d < 0
 | x,y,[],_,h2=>by cases y <;> simp [lexC] at h2
 | x,[],e::z,h1,_=>by cases x <;> simp [lexC] at h1
 | [],b::y,e::z,_,_=>by simp [lexC]
 | a::x,b::y,e::z,h1,h2=>by
  simp only [lexC] at h1 h2 ⊢
  by_cases e1:a=b
  ·subst e1
   rw [if_pos ((h.zero a a).2 rfl)] at h1
   by_cases e2:a=e
   ·subst e2
    rw [if_pos ((h.zero a a).2 rfl)] at h2 ⊢
    exact zlb h h1 h2
   ·rw [if_neg (fun k=>e2 ((h.zero _ _).1 k))] at h2 ⊢
    exact h2
  ·rw [if_neg (fun k=>e1 ((h.zero _ _).1 k))] at h1
   by_cases e2:b=e
   ·subst e2
    rw [if_neg (fun k=>e1 ((h.zero _ _).1 k))]
    exact h1
   ·rw [if_neg (fun k=>e2 ((h.zero _ _).1 k))] at h2
    have h3:=h.trans h1 h2
    rw [if_neg (by omega)]
    exact h3
theorem CmpOk.lex {α:Type} {c:α→α→Int} (h:CmpOk c):CmpOk (lexC c):=⟨zmp h,zmo h,zlb h⟩
def zne (a b:UInt8):Int:=if a < b then -1 else if b < a then 1 else 0
theorem zth:CmpOk zne:=by
 refine ⟨fun a b=>?_,fun a b=>?_,fun {a b d} h1 h2=>?_⟩
 all_goals simp only [zne,UInt8.lt_iff_toNat_lt,← UInt8.toNat_inj] at *
 all_goals repeat' split
 all_goals (try omega)
 all_goals (repeat' split at h1)
 all_goals (try omega)
 all_goals (repeat' split at h2)
 all_goals omega
theorem zcM:∀ a b,Lib.compareBytes a b=lexC zne a b
 | [],[]=>rfl
 | [],_::_=>rfl
 | _::_,[]=>rfl
 | a::x,b::y=>by
  have ih:=zcM x y
  simp only [Lib.compareBytes,lexC,zne,ih]
  by_cases h1:a < b
  ·simp [h1]
  ·by_cases h2:b < a
   ·simp [h1,h2]
   ·simp [h1,h2]
theorem zt3:CmpOk cmpI:=by
 refine ⟨fun a b=>?_,fun a b=>?_,fun {a b d} h1 h2=>?_⟩
 all_goals simp only [cmpI] at *
 all_goals repeat' split
 all_goals (try omega)
 all_goals (repeat' split at h1)
 all_goals (try omega)
 all_goals (repeat' split at h2)
 all_goals omega
theorem ztT:CmpOk cmpB:=by
 have h:=zth.lex
 refine ⟨fun a b=>?_,fun a b=>?_,fun {a b d} h1 h2=>?_⟩
 ·simp only [cmpB,zcM,h.zero]
  constructor
  ·intro e;cases a;cases b;simp at e;rw [e]
  ·intro e;rw [e]
 ·simp only [cmpB,zcM];exact h.anti _ _
 ·simp only [cmpB,zcM] at *;exact h.trans h1 h2
theorem zjB (a b:V):rCmp a b=if cmpI a.kind b.kind=0 then (if cmpI a.int b.int=0 then cmpB a.text b.text else cmpI a.int b.int) else cmpI a.kind b.kind:=by
 unfold rCmp zqC zrb
 rcases Int.lt_trichotomy a.kind b.kind with h1|h1|h1
 ·have e:(a.kind != b.kind)=true:=by simp;omega
  rw [zjG h1];simp [h1,e]
 ·rw [zjw h1]
  rcases Int.lt_trichotomy a.int b.int with h2|h2|h2
  ·have e:(a.int != b.int)=true:=by simp;omega
   rw [zjG h2];simp [h1,h2,e]
  ·rw [zjw h2];simp [h1,h2]
  ·have e:(a.int != b.int)=true:=by simp;omega
   have e2:¬ a.int < b.int:=by omega
   rw [zjI h2];simp [h1,e,e2]
 ·have e:(a.kind != b.kind)=true:=by simp;omega
  have e2:¬ a.kind < b.kind:=by omega
  rw [zjI h1];simp [e,e2]
theorem zt0:CmpOk rCmp:=by
 have hi:=zt3
 have hb:=ztT
 refine ⟨fun a b=>?_,fun a b=>?_,fun {a b d} h1 h2=>?_⟩
 ·rw [zjB]
  have z1:=hi.zero a.kind b.kind
  have z2:=hi.zero a.int b.int
  have z3:=hb.zero a.text b.text
  constructor
  ·intro h
   split at h
   ·split at h
    ·cases a;cases b;simp_all
    ·omega
   ·omega
  ·rintro rfl
   simp [(hi.zero _ _).2 rfl,(hb.zero _ _).2 rfl]
 ·rw [zjB,zjB]
  have z1:=hi.zero a.kind b.kind
  have z1':=hi.zero b.kind a.kind
  have z2:=hi.zero a.int b.int
  have z2':=hi.zero b.int a.int
  by_cases e1:a.kind=b.kind
  ·rw [if_pos (z1.2 e1),if_pos (z1'.2 e1.symm)]
   by_cases e2:a.int=b.int
   ·rw [if_pos (z2.2 e2),if_pos (z2'.2 e2.symm)];exact hb.anti _ _
   ·rw [if_neg (fun k=>e2 (z2.1 k)),if_neg (fun k=>e2 (z2'.1 k).symm)];exact hi.anti _ _
  ·rw [if_neg (fun k=>e1 (z1.1 k)),if_neg (fun k=>e1 (z1'.1 k).symm)];exact hi.anti _ _
 ·have key:∀ x y:V,rCmp x y < 0↔x.kind < y.kind∨(x.kind=y.kind∧(x.int < y.int∨(x.int=y.int∧cmpB x.text y.text < 0))):=by
   intro x y
   rw [zjB]
   rcases Int.lt_trichotomy x.kind y.kind with h1|h1|h1
   ·rw [zjG h1];simp [h1]
   ·rw [zjw h1]
    rcases Int.lt_trichotomy x.int y.int with h2|h2|h2
    ·rw [zjG h2];simp [h1,h2]
    ·rw [zjw h2];simp [h1,h2]
    ·have e:¬ x.int < y.int:=by omega
     have e2:x.int≠y.int:=by omega
     rw [zjI h2];simp [h1,e,e2]
   ·have e:¬ x.kind < y.kind:=by omega
    have e2:x.kind≠y.kind:=by omega
    rw [zjI h1];simp [e,e2]
  rw [key] at h1 h2 ⊢
  rcases h1 with h1|⟨e1,h1|⟨f1,h1⟩⟩ <;> rcases h2 with h2|⟨e2,h2|⟨f2,h2⟩⟩
  all_goals first|(left;omega)|(right;refine ⟨by omega,?_⟩;first|(left;omega)|(right;exact ⟨by omega,hb.trans h1 h2⟩))
theorem zmr (a b:List V):∀ (l:List V) (i:Nat),i≤b.length→a.length=i+l.length→zeP a b l i=lexC rCmp l (b.drop i)
 | [],i,hi,ha=>by
  simp only [zeP,List.length_map]
  simp at ha
  by_cases h:i=b.length
  ·have e1:b.drop i=[]:=List.drop_of_length_le (by omega)
   have e2:¬ ((a.length:Nat):Int) < (b.length:Nat):=by omega
   have e3:¬ ((b.length:Nat):Int) < (a.length:Nat):=by omega
   rw [e1];simp only [lexC,e2,e3,decide_false,cond_false]
  ·have e2:((a.length:Nat):Int) < (b.length:Nat):=by omega
   cases hd:b.drop i with
   | nil=>have:=congrArg List.length hd;simp at this;omega
   | cons y s=>simp only [lexC,e2,decide_true,cond_true]
 | x::r,i,hi,ha=>by
  simp only [zeP,List.length_map]
  by_cases h:i < b.length
  ·have e2:((i:Nat):Int) < (b.length:Nat):=by omega
   have hv:zaB b ((i:Nat):Int)=b[i]:=by simp [zaB,h]
   rw [List.drop_eq_getElem_cons h]
   have ih:=zmr a b r (i+1) (by omega) (by simp at ha;omega)
   simp only [e2,decide_true,cond_true,hv,ih,lexC]
   by_cases hz:rCmp x b[i]=0
   ·simp [hz]
   ·have hb:(rCmp x b[i] != 0)=true:=by simpa using hz
    simp [hz,hb]
  ·have e2:¬ ((i:Nat):Int) < (b.length:Nat):=by omega
   have e1:b.drop i=[]:=List.drop_of_length_le (by omega)
   have f1:¬ ((a.length:Nat):Int) < (b.length:Nat):=by simp at ha;omega
   have f2:((b.length:Nat):Int) < (a.length:Nat):=by simp at ha;omega
   rw [e1]
   simp only [e2,f1,f2,decide_false,decide_true,cond_false,cond_true,lexC]
theorem ztu (a b:List V):zeB a b=lexC rCmp a b:=zmr a b a 0 (by omega) (by omega)
theorem zko:CmpOk zeB:=by
 have:zeB=lexC rCmp:=funext fun a=>funext fun b=>ztu a b
 rw [this];exact zt0.lex
/- ### sorting -/
abbrev LeR (x y:List V):Prop:=¬ 0 < zeB x y
theorem zuj (x y:List V):LeR x y↔zeB x y < 0∨x=y:=by
 have h:=zko.zero x y
 unfold LeR
 constructor
 ·intro h1
  by_cases h2:zeB x y=0
  ·exact .inr (h.1 h2)
  ·exact .inl (by omega)
 ·rintro (h1|h1)
  ·omega
  ·rw [h.2 h1];omega
theorem LeR.trans {x y z:List V} (h1:LeR x y) (h2:LeR y z):LeR x z:=by
 rw [zuj] at *
 rcases h1 with h1|rfl
 ·rcases h2 with h2|rfl
  ·exact .inl (zko.trans h1 h2)
  ·exact .inl h1
 ·exact h2
end Go.AM
namespace Go.AM
set_option maxRecDepth 100000
set_option maxHeartbeats 4000000
set_option linter.unusedSimpArgs false
set_option linter.unusedVariables false
structure ChV (t:Tb) (c:Ch):Prop where
 del:c.del.Pairwise fun a b=>a < b
 delIn:∀ d∈c.del,(get6 d t.rows).2=true
 upd:c.upd.Pairwise fun a b=>a.id < b.id
 updIn:∀ p∈c.upd,get6 p.id t.rows=(p.old,true)∧anyI c.del p.id=false∧p.nw.length=t.sch.cols.length
 ins:∀ r∈c.ins,r.length=t.sch.cols.length
 ld:c.del.length≤100000
 lu:c.upd.length≤100000
 li:c.ins.length≤100000
theorem znq {l:List Int} (h:l.Pairwise fun a b=>a < b) {i:Nat} {x:Int} (hx:l[i]?=some x):anyI (l.take i) x=false:=by
 cases ha:anyI (l.take i) x
 ·rfl
 ·exfalso
  have hm:=zeu.1 ha
  obtain ⟨j,hj⟩:=List.getElem?_of_mem hm
  have hj1:j < i:=by
   have:=(List.getElem?_eq_some_iff.1 hj).1;simp at this;omega
  rw [List.getElem?_take_of_lt hj1] at hj
  obtain ⟨a1,a2⟩:=List.getElem?_eq_some_iff.1 hx
  obtain ⟨b1,b2⟩:=List.getElem?_eq_some_iff.1 hj
  have:=List.pairwise_iff_getElem.1 h j i b1 a1 hj1
  rw [a2,b2] at this;omega
noncomputable def L_vd (t:Tb) (c:Ch) (i:Nat) (ks:List Int):Cfg:=zap B.ref7_Valid 0 [(2,.p 0 0),(3,.p 1 0),(5,iv ((t.sch.cols.map Col.cells).length:Nat)),(6,.mp 2),(26,isl c.del),(27,iv ((c.del.map zbN).length:Nat)),(28,iv (i:Nat))] [.box t.cells,.box c.cells,.mp (ks.map itI)]
theorem zg3 (t:Tb) (c:Ch) (hs:zad t.rows) (hvs:∀ r∈t.rows,zad r.vals) (hc:ChV t c) (i:Nat) (ks:List Int) (hi:i≤(c.del).length) (hI:1≤i∧ks=c.del.take i):∃ (ks':List Int),(1≤(c.del).length∧ks'=c.del.take (c.del).length)∧(decide ((((c.del).length:Nat):Int) < (((c.del.map zbN).length:Nat):Int))=false)∧∀ R,Good E0 B.ref7_Valid [] (L_vd t c (c.del).length ks') R→Good E0 B.ref7_Valid [] (L_vd t c i ks) R:=by
 obtain ⟨kk,hk⟩:∃ kk,i+kk=(c.del).length:=⟨(c.del).length - i,by omega⟩
 induction kk generalizing i ks with
 | zero =>
  have e0:i=(c.del).length:=by omega
  subst e0
  exact ⟨ks,hI,by simp,fun R hg=>hg⟩
 | succ kk ih =>
  obtain ⟨x,hx⟩:=zaw (l:=c.del) (i:=i) (by omega)
  have h0:decide (((i:Nat):Int) < (((c.del.map zbN).length:Nat):Int))=true:=by simp;omega
  have hw:IntKind.i64.wrap (((i:Nat):Int)+1)=((i+1:Nat):Int):=zal i (by (have:=hc.ld;omega))
  have a1:(!(get6 x t.rows).2)=false:=(by rw [hc.delIn x (List.mem_of_getElem? hx)];rfl);have a5:decide ((0:Int) < ((i:Nat):Int))=true:=(by simp;omega);have hil:=zc3 hx;have hld:=hc.ld
  have a4:∀ y,AtI c.del (IntKind.i64.wrap (((i:Nat):Int) - 1)) y→decide (x≤y)=false:=fun y hy=>znN (f:=fun z=>z) hc.del hx hI.1 (by omega) hy
  have a8:anyI ks x=false:=(by rw [hI.2];exact znq hc.del hx)
  obtain ⟨x1,e1⟩:=ziw (l:=c.del) (i:=IntKind.i64.wrap ((i:Int) - (1:Int))) (by exact znW hx hI.1 (by omega))
  obtain ⟨ksZ,qZ,xZ,gZ⟩:=ih (i+1) (ks++[x]) (by omega) (by exact ⟨by omega,by rw [List.take_add_one,hx,← hI.2];rfl⟩) (by omega);exact ⟨ksZ,qZ,xZ,fun R hg=>zaa (wkl [sb h0,se (zaf (fun n=>[iv n]) hx rfl),sc (zhO t x (by first|assumption|omega|(simp;done)|(simp;omega)) (by first|assumption|omega|(simp;done)|(simp;omega))),sg a1,sg a5,si (e:=IntKind.i64.wrap ((i:Int) - 1)) rfl,se (zdb (fun n=>[iv n]) e1 rfl),sb (a4 x1 e1),sx (.call [] .un [.mp (List.map itI (ks++[x]))]) (And.intro (zbb x) (zpY ks x (by first|assumption|omega|(simp;done)|(simp;omega)))),si hw] [2,3,5,6,26,27,28] 3 kr (gZ R hg))⟩
theorem zgA (t:Tb) (c:Ch) (hs:zad t.rows) (hvs:∀ r∈t.rows,zad r.vals) (hc:ChV t c):decide (((c.del.length:Nat):Int) < (((c.del.map zbN).length:Nat):Int))=false∧∀ R,Good E0 B.ref7_Valid [] (L_vd t c c.del.length c.del) R→Good E0 B.ref7_Valid [] (L_vd t c 0 []) R:=by
 cases hrw:c.del with
 | nil=>exact ⟨by simp,fun R h=>h⟩
 | cons x r =>
  have hx:c.del[0]?=some x:=by rw [hrw];rfl
  obtain ⟨ks,⟨_,hks⟩,h1,h2⟩:=zg3 t c hs hvs hc 1 [x] (by rw [hrw];simp) ⟨Nat.le_refl 1,by rw [hrw];rfl⟩
  rw [← hrw]
  refine ⟨h1,fun R h=>?_⟩
  rw [List.take_length] at hks
  subst hks
  have hg:=h2 R h
  have h0:decide (((0:Nat):Int) < (((c.del.map zbN).length:Nat):Int))=true:=by rw [hrw];simp
  have a1:(!(get6 x t.rows).2)=false:=(by rw [hc.delIn x (List.mem_of_getElem? hx)];rfl)
  have a8:anyI [] x=false:=rfl
  refine zaa ?_
  exact wkl [sb h0,se (zaf (fun n=>[iv n]) hx rfl),sc (zhO t x (by first|assumption|omega|(simp;done)|(simp;omega)) (by first|assumption|omega|(simp;done)|(simp;omega))),sg a1,sb (rfl:false=false),sx (.call [] .un [.mp (List.map itI ([]++[x]))]) (And.intro (zbb x) (zpY ([]) x (by first|assumption|omega|(simp;done)|(simp;omega)))),si (zjO (t:=(↑0:Int)+1) (n:=0+1) (by omega) (by omega))] [2,3,5,6,26,27,28] 3 kr (hg)
theorem zrk (a:List V):(zeB a a != 0)=false:=by
 rw [(zko.zero a a).2 rfl];rfl
structure UpF (t:Tb) (c:Ch) (x:Pr):Prop where
 get:zab E0 S.ref6_Get [t.av,iv x.id] [] (.tup [vsl x.old,bv true]) []
 cmp:zab E0 S.ref1_CompareRows [vsl x.old,vsl x.old] [] (iv 0) []
 look:LookV (c.del.map itI) (iv x.id) (.bl false) (bv false)
 len:(((x.nw.map V.cells).length:Int) != ((t.sch.cols.map Col.cells).length:Int))=false
theorem ChV.upF {t:Tb} {c:Ch} (hc:ChV t c) (hs:zad t.rows) (hvs:∀ r∈t.rows,zad r.vals) {x:Pr} (hx:x∈c.upd) (hso:zad x.old):UpF t c x:=by
 obtain ⟨b1,b2,b3⟩:=hc.updIn x hx
 refine ⟨?_,?_,?_,by simp [b3]⟩
 ·have h:=zhO t x.id hs hvs;rwa [b1] at h
 ·have h:=ziy x.old x.old hso hso
  have e:zeB x.old x.old=0:=by simpa using zrk x.old
  rwa [e] at h
 ·have h:=ztl c.del x.id;rwa [b2] at h
noncomputable def L_vu (t:Tb) (c:Ch) (i:Nat) :Cfg:=zap B.ref7_Valid 1 [(2,.p 0 0),(3,.p 1 0),(5,iv ((t.sch.cols.map Col.cells).length:Nat)),(6,.mp 2),(59,.sl (c.upd.map Pr.cells)),(60,iv ((c.upd.map Pr.cells).length:Nat)),(61,iv (i:Nat))] [.box t.cells,.box c.cells,.mp (c.del.map itI)]
theorem zhi (t:Tb) (c:Ch) (hs:zad t.rows) (hvs:∀ r∈t.rows,zad r.vals) (hc:ChV t c) (hso:∀ p∈c.upd,zad p.old) (i:Nat)  (hi:i≤(c.upd).length) (hI:1≤i):(1≤(c.upd).length)∧(decide ((((c.upd).length:Nat):Int) < (((c.upd.map Pr.cells).length:Nat):Int))=false)∧∀ R,Good E0 B.ref7_Valid [] (L_vu t c (c.upd).length ) R→Good E0 B.ref7_Valid [] (L_vu t c i ) R:=by
 obtain ⟨kk,hk⟩:∃ kk,i+kk=(c.upd).length:=⟨(c.upd).length - i,by omega⟩
 induction kk generalizing i  with
 | zero =>
  have e0:i=(c.upd).length:=by omega
  subst e0
  exact ⟨hI,by simp,fun R hg=>hg⟩
 | succ kk ih =>
  obtain ⟨x,hx⟩:=zaw (l:=c.upd) (i:=i) (by omega)
  have h0:decide (((i:Nat):Int) < (((c.upd.map Pr.cells).length:Nat):Int))=true:=by simp;omega
  have hw:IntKind.i64.wrap (((i:Nat):Int)+1)=((i+1:Nat):Int):=zal i (by (have:=hc.lu;omega))
  obtain ⟨f1,f2,f3,a7⟩:=hc.upF hs hvs (List.mem_of_getElem? hx) (hso x (List.mem_of_getElem? hx));have hil:=zc3 hx;have hlu:=hc.lu;have a5:decide ((0:Int) < ((i:Nat):Int))=true:=(by simp;omega)
  have a4:∀ y,AtI c.upd (IntKind.i64.wrap (((i:Nat):Int) - 1)) y→decide (x.id≤y.id)=false:=fun y hy=>znN (f:=fun z=>z.id) hc.upd hx hI (by omega) hy
  have a6:∀ y,AtI c.upd (IntKind.i64.wrap (((i:Nat):Int) - 1)) y→(bif decide ((0:Int) < ((i:Nat):Int)) then decide (x.id≤y.id) else false)=false:=fun y hy=>(by rw [a5,a4 y hy];rfl)
  have d3:∀ y,AtI c.upd (IntKind.i64.wrap (((i:Nat):Int) - 1)) y→(bif (bif decide ((0:Int) < ((i:Nat):Int)) then decide (x.id≤y.id) else false) then true else ((0:Int) != 0))=false:=fun y hy=>(by rw [a6 y hy];rfl)
  have d4:∀ y,AtI c.upd (IntKind.i64.wrap (((i:Nat):Int) - 1)) y→(bif (bif (bif decide ((0:Int) < ((i:Nat):Int)) then decide (x.id≤y.id) else false) then true else ((0:Int) != 0)) then true else ((x.nw.map V.cells).length:Int) != ((t.sch.cols.map Col.cells).length:Int))=false:=fun y hy=>(by rw [d3 y hy,a7];rfl)
  obtain ⟨x1,e1⟩:=ziw (l:=c.upd) (i:=IntKind.i64.wrap ((i:Int) - (1:Int))) (by exact znW hx hI (by omega))
  obtain ⟨qZ,xZ,gZ⟩:=ih (i+1) (by omega) (by omega) (by omega);exact ⟨qZ,xZ,fun R hg=>zaa (wkl [sb h0,se (zaf Pr.cells hx rfl),sc f1,sd [(3,[sg (rfl:false=false)]),(4,[sg (rfl:false=false)]),(5,[sg (rfl:false=false)]),(6,[so (rfl:false=false) (sx (.el [bv false]) (And.intro (zbb x.id) f3))]),(9,[sg (rfl:false=false)]),(10,[sg (rfl:false=false)]),(11,[sg (rfl:false=false)]),(12,[sg a5]),(13,[sg a5]),(14,[sg a5]),(15,[so a5 (si (e:=IntKind.i64.wrap ((i:Int) - 1)) rfl)]),(16,[so a5 (se (zdb Pr.cells e1 rfl))]),(17,[sg a5]),(18,[sg a5]),(19,[sg a5]),(20,[sg a5]),(21,[sg a5]),(22,[sg (rfl:false=false)]),(25,[sg (a6 x1 e1)]),(26,[sg (a6 x1 e1)]),(27,[sg (a6 x1 e1)]),(28,[so (a6 x1 e1) (sc f2)]),(29,[sg (a6 x1 e1)]),(32,[sg (d3 x1 e1)]),(33,[sg (d3 x1 e1)]),(34,[sg (d3 x1 e1)]),(35,[sg (d3 x1 e1)]),(36,[sg (d3 x1 e1)])],sb (d4 x1 e1),si hw] [2,3,5,6,59,60,61] 3 kr (gZ R hg))⟩
theorem zgQ (t:Tb) (c:Ch) (hs:zad t.rows) (hvs:∀ r∈t.rows,zad r.vals) (hc:ChV t c) (hso:∀ p∈c.upd,zad p.old):decide (((c.upd.length:Nat):Int) < (((c.upd.map Pr.cells).length:Nat):Int))=false∧∀ R,Good E0 B.ref7_Valid [] (L_vu t c c.upd.length) R→Good E0 B.ref7_Valid [] (L_vu t c 0) R:=by
 cases hrw:c.upd with
 | nil=>exact ⟨by simp,fun R h=>h⟩
 | cons x r =>
  have hx:c.upd[0]?=some x:=by rw [hrw];rfl
  obtain ⟨_,h1,h2⟩:=zhi t c hs hvs hc hso 1 (by rw [hrw];simp) (Nat.le_refl 1)
  rw [← hrw]
  refine ⟨h1,fun R h=>?_⟩
  have hg:=h2 R h
  have h0:decide (((0:Nat):Int) < (((c.upd.map Pr.cells).length:Nat):Int))=true:=by rw [hrw];simp
  obtain ⟨f1,f2,f3,a7⟩:=hc.upF hs hvs (List.mem_of_getElem? hx) (hso x (List.mem_of_getElem? hx))
  refine zaa ?_
  exact wkl [sb h0,se (zaf Pr.cells hx rfl),sc f1,sd [(3,[sg (rfl:false=false)]),(4,[sg (rfl:false=false)]),(5,[sg (rfl:false=false)]),(6,[so (rfl:false=false) (sx (.el [bv false]) (And.intro (zbb x.id) f3))]),(9,[sg (rfl:false=false)]),(10,[sg (rfl:false=false)]),(11,[sg (rfl:false=false)]),(12,[sb (rfl:false=false)]),(13,[sb (rfl:false=false)]),(14,[sb (rfl:false=false)]),(15,[sb (rfl:false=false)]),(16,[sb (rfl:false=false)]),(17,[sb (rfl:false=false)]),(18,[sb (rfl:false=false)]),(19,[sb (rfl:false=false)]),(20,[sb (rfl:false=false)]),(21,[sb (rfl:false=false)]),(22,[so (rfl:false=false) (sb (rfl:false=false))]),(25,[sg (rfl:false=false)]),(26,[sg (rfl:false=false)]),(27,[sg (rfl:false=false)]),(28,[so (rfl:false=false) (sc f2)]),(29,[sg (rfl:false=false)]),(32,[sg (rfl:false=false)]),(33,[sg (rfl:false=false)]),(34,[sg (rfl:false=false)]),(35,[sg (rfl:false=false)]),(36,[sg (rfl:false=false)])],sb a7,si (zjO (t:=(↑0:Int)+1) (n:=0+1) (by omega) (by omega))] [2,3,5,6,59,60,61] 3 kr (hg)
noncomputable def L_vi7 (t:Tb) (c:Ch) (i:Nat) :Cfg:=zap B.ref7_Valid 2 [(5,iv ((t.sch.cols.map Col.cells).length:Nat)),(113,.sl (c.ins.map vrow)),(114,iv ((c.ins.map vrow).length:Nat)),(115,iv (i:Nat))] [.box t.cells,.box c.cells,.mp (c.del.map itI)]
theorem zgy (t:Tb) (c:Ch) (hl:zad c.ins) (hc:∀ r∈c.ins,r.length=t.sch.cols.length) (i:Nat)  (hi:i≤(c.ins).length) (hI:True):(True)∧(decide ((((c.ins).length:Nat):Int) < (((c.ins.map vrow).length:Nat):Int))=false)∧∀ R,Good E0 B.ref7_Valid [] (L_vi7 t c (c.ins).length ) R→Good E0 B.ref7_Valid [] (L_vi7 t c i ) R:=by
 obtain ⟨kk,hk⟩:∃ kk,i+kk=(c.ins).length:=⟨(c.ins).length - i,by omega⟩
 induction kk generalizing i  hI with
 | zero =>
  have e0:i=(c.ins).length:=by omega
  subst e0
  exact ⟨hI,by simp,fun R hg=>hg⟩
 | succ kk ih =>
  obtain ⟨x,hx⟩:=zaw (l:=c.ins) (i:=i) (by omega)
  have h0:decide (((i:Nat):Int) < (((c.ins.map vrow).length:Nat):Int))=true:=by simp;omega
  have hw:IntKind.i64.wrap (((i:Nat):Int)+1)=((i+1:Nat):Int):=zal i (by first|omega|(simp only [zad,Few] at *;omega))
  have a7:(((x.map V.cells).length:Int) != ((t.sch.cols.map Col.cells).length:Int))=false:=(by simp [hc x (List.mem_of_getElem? hx)])
  obtain ⟨qZ,xZ,gZ⟩:=ih (i+1) (by omega) (by first|trivial|assumption|(simp;done)|omega|(simp;omega)|(simp at *;omega)) (by omega);exact ⟨qZ,xZ,fun R hg=>zaa (wkl [sb h0,se (zaf vrow hx rfl),sb a7,si hw] [5,113,114,115] 3 kr (gZ R hg))⟩
theorem zmM (t:Tb) (c:Ch) (hs:zad t.rows) (hvs:∀ r∈t.rows,zad r.vals) (hc:ChV t c) (hso:∀ p∈c.upd,zad p.old) (hli:zad c.ins) (hin:∀ r∈c.ins,r.length=t.sch.cols.length) (hv:zab E0 S.ref6_Valid [t.av] [] (bv true) []):∃ (b:Bool),b=true∧zab E0 S.ref7_Valid [t.av,c.av] [] (bv b) []:=by
 obtain ⟨q1,g1⟩:=zgA t c (by first|assumption|omega|(simp;done)|(simp;omega)) (by first|assumption|omega|(simp;done)|(simp;omega)) (by first|assumption|omega|(simp;done)|(simp;omega))
 obtain ⟨q2,g2⟩:=zgQ t c (by first|assumption|omega|(simp;done)|(simp;omega)) (by first|assumption|omega|(simp;done)|(simp;omega)) (by first|assumption|omega|(simp;done)|(simp;omega)) (by first|assumption|omega|(simp;done)|(simp;omega))
 obtain ⟨q3,q3_1,g3⟩:=zgy t c (by first|assumption|omega|(simp;done)|(simp;omega)) (by first|assumption|omega|(simp;done)|(simp;omega)) 0 (by first|assumption|omega|(simp;done)|(simp;omega)) (by first|assumption|omega|(simp;done)|(simp;omega))
 exact ⟨true,(by rfl),wkc At.ref7_Valid [sc hv,sb (rfl:false=false)] [2,3,5,6,26,27,28] 3 kr (g1 _ (zaa (wkl [sb q1] [2,3,5,6,59,60,61] 3 kr (g2 _ (zaa (wkl [sb q2] [5,113,114,115] 3 kr (g3 _ (zaa (wkr [sb q3_1] kr)))))))))⟩
theorem zmv {n:Int}:∀ (l:List Rw),(get6 n l).2=true→∃ r∈l,r.id=n∧(get6 n l).1=r.vals
 | [],h=>by cases h
 | r::l,h=>by
  unfold get6 at h ⊢
  cases h1:r.id==n
  ·rw [h1] at h
   obtain ⟨q,hq,h2⟩:=zmv l h
   exact ⟨q,by simp [hq],h2⟩
  ·exact ⟨r,by simp,by simpa using h1,rfl⟩
theorem zk3 (t:Tb) (c:Ch) (ht:TabV t) (hc:ChV t c):zab E0 S.ref7_Valid [t.av,c.av] [] (bv true) []:=by
 have hso:∀ p∈c.upd,zad p.old:=fun p hp=>by
  have h1:=(hc.updIn p hp).1
  obtain ⟨r,hr,_,h2⟩:=zmv (n:=p.id) t.rows (by rw [h1])
  rw [h1] at h2
  have h3:p.old=r.vals:=h2
  rw [h3];exact ht.vals r hr
 obtain ⟨b,rfl,h⟩:=zmM t c ht.shr ht.vals hc hso (by have:=hc.li;simp only [zad];omega) hc.ins (zlG t ht)
 exact h
end Go.AM
namespace Go.AM
set_option maxRecDepth 100000
set_option maxHeartbeats 400000
set_option linter.unusedSimpArgs false
set_option linter.unusedVariables false
def zce (s:Sch):List Pr→Int
 | []=>0
 | p::r=>bif fit5 s p.nw != 0 then fit5 s p.nw else zce s r
def zcu (s:Sch):List (List V)→Int
 | []=>0
 | p::r=>bif fit5 s p != 0 then fit5 s p else zcu s r
noncomputable def zqr (t:Tb) (c:Ch) (i:Nat) :Cfg:=zap B.ref7_Apply 0 [(2,.p 0 0),(3,.p 1 0),(4,.p 2 0),(26,.sl (c.upd.map Pr.cells)),(27,iv ((c.upd.map Pr.cells).length:Nat)),(28,iv (i:Nat))] [.box t.cells,.box c.cells,.box [sv ⟨#[]⟩,.nl,iv 0,.nl]]
theorem zgP (t:Tb) (c:Ch) (hl:zad c.upd) (hs:zad t.sch.cols) (hg:∀ p∈c.upd,∀ v∈p.nw,v.Good) (i:Nat)  (hi:i≤(c.upd).length) (hI:zce t.sch c.upd=zce t.sch (c.upd.drop i)):((zce t.sch c.upd=zce t.sch (c.upd.drop (c.upd).length))∧(decide ((((c.upd).length:Nat):Int) < (((c.upd.map Pr.cells).length:Nat):Int))=false)∧∀ R,Good E0 B.ref7_Apply [] (zqr t c (c.upd).length ) R→Good E0 B.ref7_Apply [] (zqr t c i ) R)∨(∃ (x':Tb) (r:Int),(r≠0∧r=zce t.sch c.upd)∧Good E0 B.ref7_Apply [] (zqr t c i ) (Shut 0 fun rZ hZ=>rZ=(.tup [Tb.av x',iv r])∧hZ=[])):=by
 obtain ⟨kk,hk⟩:∃ kk,i+kk=(c.upd).length:=⟨(c.upd).length - i,by omega⟩
 induction kk generalizing i  with
 | zero =>
  have e0:i=(c.upd).length:=by omega
  subst e0
  exact .inl ⟨hI,by simp,fun R hg=>hg⟩
 | succ kk ih =>
  obtain ⟨x,hx⟩:=zaw (l:=c.upd) (i:=i) (by omega)
  have h0:decide (((i:Nat):Int) < (((c.upd.map Pr.cells).length:Nat):Int))=true:=by simp;omega
  have hw:IntKind.i64.wrap (((i:Nat):Int)+1)=((i+1:Nat):Int):=zal i (by first|omega|(simp only [zad,Few] at *;omega))
  have hgx:=hg x (List.mem_of_getElem? hx)
  let p_1:List St:=[sb h0,se (zaf Pr.cells hx rfl),sc (zdB t.sch x.nw (by first|assumption|omega|(simp;done)|(simp;omega)) (by first|assumption|omega|(simp;done)|(simp;omega)))]
  cases h1:fit5 t.sch x.nw != 0
  ·exact (ih (i+1) (by omega) (by (rw [hI,zaH hx];simp only [zce, *,cond_false])) (by omega)).elim (fun ⟨qZ,xZ,gZ⟩=>.inl ⟨qZ,xZ,fun R hg=>zaa (wkl (p_1++[sb h1,si hw]) [2,3,4,26,27,28] 3 kr (gZ R hg))⟩) (fun ⟨x'Y,rY,pZ,gZ⟩=>.inr ⟨x'Y,rY,pZ,zaa (wkl [sb h0,se (zaf Pr.cells hx rfl),sc (zdB t.sch x.nw (by first|assumption|omega|(simp;done)|(simp;omega)) (by first|assumption|omega|(simp;done)|(simp;omega))),sb h1,si hw] [2,3,4,26,27,28] 3 kr gZ)⟩)
  ·exact .inr ⟨Tb.mk (Sch.mk (ByteArray.mk #[]) []) 0 [],fit5 t.sch x.nw,(by (refine ⟨by simpa using ‹(fit5 _ _ != 0)=true›,?_⟩;rw [hI,zaH hx];simp only [zce, *,cond_true])),zaa (wkr (p_1++[sb h1]) kr)⟩
noncomputable def zrf (t:Tb) (c:Ch) (i:Nat) :Cfg:=zap B.ref7_Apply 1 [(2,.p 0 0),(3,.p 1 0),(4,.p 2 0),(43,.sl (c.ins.map vrow)),(44,iv ((c.ins.map vrow).length:Nat)),(45,iv (i:Nat))] [.box t.cells,.box c.cells,.box [sv ⟨#[]⟩,.nl,iv 0,.nl]]
theorem zgx (t:Tb) (c:Ch) (hl:zad c.ins) (hs:zad t.sch.cols) (hg:∀ p∈c.ins,∀ v∈p,v.Good) (i:Nat)  (hi:i≤(c.ins).length) (hI:zcu t.sch c.ins=zcu t.sch (c.ins.drop i)):((zcu t.sch c.ins=zcu t.sch (c.ins.drop (c.ins).length))∧(decide ((((c.ins).length:Nat):Int) < (((c.ins.map vrow).length:Nat):Int))=false)∧∀ R,Good E0 B.ref7_Apply [] (zrf t c (c.ins).length ) R→Good E0 B.ref7_Apply [] (zrf t c i ) R)∨(∃ (x':Tb) (r:Int),(r≠0∧r=zcu t.sch c.ins)∧Good E0 B.ref7_Apply [] (zrf t c i ) (Shut 0 fun rZ hZ=>rZ=(.tup [Tb.av x',iv r])∧hZ=[])):=by
 obtain ⟨kk,hk⟩:∃ kk,i+kk=(c.ins).length:=⟨(c.ins).length - i,by omega⟩
 induction kk generalizing i  with
 | zero =>
  have e0:i=(c.ins).length:=by omega
  subst e0
  exact .inl ⟨hI,by simp,fun R hg=>hg⟩
 | succ kk ih =>
  obtain ⟨x,hx⟩:=zaw (l:=c.ins) (i:=i) (by omega)
  have h0:decide (((i:Nat):Int) < (((c.ins.map vrow).length:Nat):Int))=true:=by simp;omega
  have hw:IntKind.i64.wrap (((i:Nat):Int)+1)=((i+1:Nat):Int):=zal i (by first|omega|(simp only [zad,Few] at *;omega))
  have hgx:=hg x (List.mem_of_getElem? hx)
  let p_1:List St:=[sb h0,se (zaf vrow hx rfl),sc (zdB t.sch x (by first|assumption|omega|(simp;done)|(simp;omega)) (by first|assumption|omega|(simp;done)|(simp;omega)))]
  cases h1:fit5 t.sch x != 0
  ·exact (ih (i+1) (by omega) (by (rw [hI,zaH hx];simp only [zcu, *,cond_false])) (by omega)).elim (fun ⟨qZ,xZ,gZ⟩=>.inl ⟨qZ,xZ,fun R hg=>zaa (wkl (p_1++[sb h1,si hw]) [2,3,4,43,44,45] 3 kr (gZ R hg))⟩) (fun ⟨x'Y,rY,pZ,gZ⟩=>.inr ⟨x'Y,rY,pZ,zaa (wkl [sb h0,se (zaf vrow hx rfl),sc (zdB t.sch x (by first|assumption|omega|(simp;done)|(simp;omega)) (by first|assumption|omega|(simp;done)|(simp;omega))),sb h1,si hw] [2,3,4,43,44,45] 3 kr gZ)⟩)
  ·exact .inr ⟨Tb.mk (Sch.mk (ByteArray.mk #[]) []) 0 [],fit5 t.sch x,(by (refine ⟨by simpa using ‹(fit5 _ _ != 0)=true›,?_⟩;rw [hI,zaH hx];simp only [zcu, *,cond_true])),zaa (wkr (p_1++[sb h1]) kr)⟩
def midS (c:Ch) (r:Rw):Option Rw:=bif anyI c.del r.id then none else some ⟨r.id,bif (fnd7 r.id c.upd).2 then (fnd7 r.id c.upd).1 else r.vals⟩
def midR (c:Ch) (l:List Rw):List Rw:=l.filterMap (midS c)
theorem zp8 {c:Ch} {l:List Rw} {i:Nat} {x:Rw} (hx:l[i]?=some x):midR c (l.take (i+1))=midR c (l.take i)++(midS c x).toList:=by
 unfold midR
 rw [List.take_add_one,hx,List.filterMap_append]
 cases h:midS c x <;> simp [h]
theorem zrw {c:Ch} {l:List Rw} {i:Nat} {x:Rw} {rs:List Rw} (hI:rs.length≤i∧rs=midR c (l.take i)) (hx:l[i]?=some x) (h:anyI c.del x.id=true):rs.length≤i+1∧rs=midR c (l.take (i+1)):=by
 rw [zp8 hx,midS,h];exact ⟨by omega,by simpa using hI.2⟩
theorem zqW {c:Ch} {l:List Rw} {i:Nat} {x:Rw} {rs:List Rw} {v:List V} (hI:rs.length≤i∧rs=midR c (l.take i)) (hx:l[i]?=some x) (h:anyI c.del x.id=false) (hv:v=bif (fnd7 x.id c.upd).2 then (fnd7 x.id c.upd).1 else x.vals):(rs++[Rw.mk x.id v]).length≤i+1∧rs++[⟨x.id,v⟩]=midR c (l.take (i+1)):=by
 rw [zp8 hx,midS,h,← hI.2,hv];exact ⟨by simp;omega,by simp⟩
noncomputable def L_apR (t:Tb) (c:Ch) (i:Nat) (rs:List Rw):Cfg:=zap B.ref7_Apply 2 [(2,.p 0 0),(3,.p 1 0),(4,.p 2 0),(12,.p 3 0),(65,.sl (t.rows.map Rw.cells)),(66,iv ((t.rows.map Rw.cells).length:Nat)),(67,iv (i:Nat))] [.box t.cells,.box c.cells,.box [sv ⟨#[]⟩,.nl,iv 0,.nl],.box [sv t.sch.name,.sl (t.sch.cols.map Col.cells),iv t.next,.own 4 rs.length],.row Ty.Row (rs.map Rw.cells) false]
theorem zgN (t:Tb) (c:Ch) (hl:zad c.upd) (hd:zad c.del) (hrs:zad t.rows) (hvs:∀ r∈t.rows,zad r.vals) (hfs:∀ n,zad (fnd7 n c.upd).1) (i:Nat) (rs:List Rw) (hi:i≤(t.rows).length) (hI:rs.length≤i∧rs=midR c (t.rows.take i)):∃ (rs':List Rw),(rs'.length≤(t.rows).length∧rs'=midR c (t.rows.take (t.rows).length))∧(decide ((((t.rows).length:Nat):Int) < (((t.rows.map Rw.cells).length:Nat):Int))=false)∧∀ R,Good E0 B.ref7_Apply [] (L_apR t c (t.rows).length rs') R→Good E0 B.ref7_Apply [] (L_apR t c i rs) R:=by
 obtain ⟨kk,hk⟩:∃ kk,i+kk=(t.rows).length:=⟨(t.rows).length - i,by omega⟩
 induction kk generalizing i rs with
 | zero =>
  have e0:i=(t.rows).length:=by omega
  subst e0
  exact ⟨rs,hI,by simp,fun R hg=>hg⟩
 | succ kk ih =>
  obtain ⟨x,hx⟩:=zaw (l:=t.rows) (i:=i) (by omega)
  have h0:decide (((i:Nat):Int) < (((t.rows.map Rw.cells).length:Nat):Int))=true:=by simp;omega
  have hw:IntKind.i64.wrap (((i:Nat):Int)+1)=((i+1:Nat):Int):=zal i (by first|omega|(simp only [zad,Few] at *;omega))
  have hvx:=hvs x (List.mem_of_getElem? hx);have hfx:=hfs x.id;have hol:rs.length≤1000000000:=(by have:=hI.1;simp only [zad] at hrs;omega)
  let p_1:List St:=[sb h0,se (zaf Rw.cells hx rfl),sc (zru c.del x.id (by first|assumption|omega|(simp;done)|(simp;omega)))]
  cases h1:c.del.any fun x_1=>x_1==x.id
  ·let p_2:List St:=p_1++[sb h1,sc (zpt c.upd x.id (by first|assumption|omega|(simp;done)|(simp;omega)))]
   cases h2:(fnd7 x.id c.upd).snd
   ·obtain ⟨rsZ,qZ,xZ,gZ⟩:=ih (i+1) (rs++[x]) (by omega) (by first|exact zrw hI hx (by assumption)|exact zqW hI hx (by assumption) (by simp only [*];rfl)) (by omega);exact ⟨rsZ,qZ,xZ,fun R hg=>zaa (wkl (p_2++[sb h2,sd [(5,[sc (zdE x.vals (by first|assumption|omega|(simp;done)|(simp;omega)))]),(8,[sqx (AllLen [[iv x.id,AV.sl (List.map V.cells (zbF x.vals))]] 2∧rs.length=(List.map Rw.cells rs).length∧(((List.map Rw.cells rs).length+[[iv x.id,AV.sl (List.map V.cells (zbF x.vals))]].length) * 32).le 140737488355328)])],si hw]) [2,3,4,12,65,66,67] 5 kr (zay rfl (show ([Blk.box [sv t.sch.name,AV.sl (List.map Col.cells t.sch.cols),iv t.next,AV.sl (List.map Rw.cells t.rows)],Blk.box [AV.sl (List.map vrow c.ins),AV.sl (List.map (fun n=>[iv n]) c.del),AV.sl (List.map Pr.cells c.upd)],Blk.box [sv (ByteArray.mk #[]),AV.nl,iv 0,AV.nl],Blk.box [sv t.sch.name,AV.sl (List.map Col.cells t.sch.cols),iv t.next,AV.own 4 (List.map Rw.cells rs++[[iv x.id,AV.sl (List.map V.cells (zbF x.vals))]]).length],Blk.row Ty.Row (List.map Rw.cells rs++[[iv x.id,AV.sl (List.map V.cells (zbF x.vals))]]) false]:Heap)=_ by first|rfl|(simp [Rw.cells,Tb.cells,Ch.cells,Pr.cells,zbF];done)) (gZ R hg)))⟩
   ·obtain ⟨rsZ,qZ,xZ,gZ⟩:=ih (i+1) (rs++[Rw.mk x.id (zbF (fnd7 x.id c.upd).fst)]) (by omega) (by first|exact zrw hI hx (by assumption)|exact zqW hI hx (by assumption) (by simp only [*];rfl)) (by omega);exact ⟨rsZ,qZ,xZ,fun R hg=>zaa (wkl (p_2++[sb h2,sd [(5,[sc (zdE ((fnd7 x.id c.upd).fst) (by first|assumption|omega|(simp;done)|(simp;omega)))]),(8,[sqx (AllLen [[iv x.id,AV.sl (List.map V.cells (zbF (fnd7 x.id c.upd).fst))]] 2∧rs.length=(List.map Rw.cells rs).length∧(((List.map Rw.cells rs).length+[[iv x.id,AV.sl (List.map V.cells (zbF (fnd7 x.id c.upd).fst))]].length) * 32).le 140737488355328)])],si hw]) [2,3,4,12,65,66,67] 5 kr (zay rfl (show ([Blk.box [sv t.sch.name,AV.sl (List.map Col.cells t.sch.cols),iv t.next,AV.sl (List.map Rw.cells t.rows)],Blk.box [AV.sl (List.map vrow c.ins),AV.sl (List.map (fun n=>[iv n]) c.del),AV.sl (List.map Pr.cells c.upd)],Blk.box [sv (ByteArray.mk #[]),AV.nl,iv 0,AV.nl],Blk.box [sv t.sch.name,AV.sl (List.map Col.cells t.sch.cols),iv t.next,AV.own 4 (List.map Rw.cells rs++[[iv x.id,AV.sl (List.map V.cells (zbF (fnd7 x.id c.upd).fst))]]).length],Blk.row Ty.Row (List.map Rw.cells rs++[[iv x.id,AV.sl (List.map V.cells (zbF (fnd7 x.id c.upd).fst))]]) false]:Heap)=_ by first|rfl|(simp [Rw.cells,Tb.cells,Ch.cells,Pr.cells,zbF];done)) (gZ R hg)))⟩
  ·obtain ⟨rsZ,qZ,xZ,gZ⟩:=ih (i+1) rs (by omega) (by first|exact zrw hI hx (by assumption)|exact zqW hI hx (by assumption) (by simp only [*];rfl)) (by omega);exact ⟨rsZ,qZ,xZ,fun R hg=>zaa (wkl (p_1++[sb h1,si hw]) [2,3,4,12,65,66,67] 5 kr (gZ R hg))⟩
def insN:Int→List (List V)→List Rw
 | _,[]=>[]
 | n,v::r=>⟨n,v⟩::insN (n+1) r
theorem znt:∀ (l:List (List V)) (n:Int) (v:List V),insN n (l++[v])=insN n l++[⟨n+(l.length:Int),v⟩]
 | [],n,v=>by simp [insN]
 | x::l,n,v=>by
  have:=znt l (n+1) v
  simp only [List.cons_append,insN,this,List.length_cons]
  have e:n+1+(l.length:Int)=n+((l.length+1:Nat):Int):=by omega
  rw [e]
theorem zkC:∀ (l:List (List V)) (n:Int),(insN n l).length=l.length
 | [],_=>rfl
 | _::l,n=>by simp [insN,zkC l]
def ApI (t:Tb) (c:Ch) (i:Nat) (nx:Int) (rs:List Rw):Prop:=nx=t.next+(i:Int)∧rs=midR c t.rows++insN t.next (c.ins.take i)
theorem zby {t:Tb} {c:Ch} {rs:List Rw} (h:rs.length≤t.rows.length∧rs=midR c (t.rows.take t.rows.length)):ApI t c 0 t.next rs:=by
 refine ⟨by omega,?_⟩
 rw [h.2,List.take_length];simp [insN]
theorem za3 {t:Tb} {c:Ch} {nx:Int} {rs:List Rw} {i:Nat} (h:ApI t c i nx rs) (hm:(midR c t.rows).length≤100000) (hl:c.ins.length≤100000):zad rs:=by
 rw [h.2];simp only [zad];rw [List.length_append,zkC,List.length_take];omega
theorem zsP {t:Tb} {c:Ch} {i:Nat} {nx:Int} {rs:List Rw} {x:List V} (hI:ApI t c i nx rs) (hx:c.ins[i]?=some x):ApI t c (i+1) (nx+1) (rs++[⟨nx,x⟩]):=by
 obtain ⟨rfl,rfl⟩:=hI
 have hl:(c.ins.take i).length=i:=by have:=(List.getElem?_eq_some_iff.1 hx).1;simp;omega
 refine ⟨by omega,?_⟩
 rw [List.take_add_one,hx,List.append_assoc]
 simp only [Option.toList_some]
 rw [znt,hl]
noncomputable def L_apN (t:Tb) (c:Ch) (i:Nat) (nx:Int) (rs:List Rw):Cfg:=zap B.ref7_Apply 3 [(4,.p 2 0),(12,.p 3 0),(118,.sl (c.ins.map vrow)),(119,iv ((c.ins.map vrow).length:Nat)),(120,iv (i:Nat))] [.box t.cells,.box c.cells,.box [sv ⟨#[]⟩,.nl,iv 0,.nl],.box [sv t.sch.name,.sl (t.sch.cols.map Col.cells),iv nx,.own 4 rs.length],.row Ty.Row (rs.map Rw.cells) false]
theorem zgL (t:Tb) (c:Ch) (hl:c.ins.length≤100000) (hn:1≤t.next∧t.next≤2147483648) (hvs:∀ r∈c.ins,zad r) (hm:(midR c t.rows).length≤100000) (i:Nat) (nx:Int) (rs:List Rw) (hi:i≤(c.ins).length) (hI:ApI t c i nx rs):∃ (nx':Int) (rs':List Rw),(ApI t c (c.ins).length nx' rs')∧(decide ((((c.ins).length:Nat):Int) < (((c.ins.map vrow).length:Nat):Int))=false)∧∀ R,Good E0 B.ref7_Apply [] (L_apN t c (c.ins).length nx' rs') R→Good E0 B.ref7_Apply [] (L_apN t c i nx rs) R:=by
 obtain ⟨kk,hk⟩:∃ kk,i+kk=(c.ins).length:=⟨(c.ins).length - i,by omega⟩
 induction kk generalizing i nx rs with
 | zero =>
  have e0:i=(c.ins).length:=by omega
  subst e0
  exact ⟨nx,rs,hI,by simp,fun R hg=>hg⟩
 | succ kk ih =>
  obtain ⟨x,hx⟩:=zaw (l:=c.ins) (i:=i) (by omega)
  have h0:decide (((i:Nat):Int) < (((c.ins.map vrow).length:Nat):Int))=true:=by simp;omega
  have hw:IntKind.i64.wrap (((i:Nat):Int)+1)=((i+1:Nat):Int):=zal i (by omega)
  have hvx:=hvs x (List.mem_of_getElem? hx);have hw1:IntKind.i64.wrap (nx+1)=nx+1:=(by rw [hI.1,IntKind.wrap_i64];omega)
  have hol:rs.length≤1000000000:=by rw [hI.2,List.length_append,zkC,List.length_take];omega
  obtain ⟨nxZ,rsZ,qZ,xZ,gZ⟩:=ih (i+1) (nx+1) (rs++[Rw.mk nx (zbF x)]) (by omega) (by exact zsP hI hx) (by omega);exact ⟨nxZ,rsZ,qZ,xZ,fun R hg=>zaa (wkl [sb h0,se (zaf vrow hx rfl),sd [(5,[sc (zdE x (by first|assumption|omega|(simp;done)|(simp;omega)))]),(8,[sqx (AllLen [[iv nx,AV.sl (List.map V.cells (zbF x))]] 2∧rs.length=(List.map Rw.cells rs).length∧(((List.map Rw.cells rs).length+[[iv nx,AV.sl (List.map V.cells (zbF x))]].length) * 32).le 140737488355328)])],si hw1,si hw] [4,12,118,119,120] 5 kr (zay rfl (show ([Blk.box [sv t.sch.name,AV.sl (List.map Col.cells t.sch.cols),iv t.next,AV.sl (List.map Rw.cells t.rows)],Blk.box [AV.sl (List.map vrow c.ins),AV.sl (List.map (fun n=>[iv n]) c.del),AV.sl (List.map Pr.cells c.upd)],Blk.box [sv (ByteArray.mk #[]),AV.nl,iv 0,AV.nl],Blk.box [sv t.sch.name,AV.sl (List.map Col.cells t.sch.cols),iv (nx+1),AV.own 4 (List.map Rw.cells rs++[[iv nx,AV.sl (List.map V.cells (zbF x))]]).length],Blk.row Ty.Row (List.map Rw.cells rs++[[iv nx,AV.sl (List.map V.cells (zbF x))]]) false]:Heap)=_ by first|rfl|(simp [Rw.cells,Tb.cells,Ch.cells,Pr.cells,zbF];done)) (gZ R hg)))⟩
def apT (t:Tb) (c:Ch):Tb:=⟨t.sch,t.next+(c.ins.length:Int),midR c t.rows++insN t.next c.ins⟩
abbrev zhm (t:Tb) (c:Ch):List V:=zbh (idxF (fun z=>z.key) t.sch.cols 0) (midR c t.rows++insN t.next c.ins)
structure ApQ (t:Tb) (c:Ch) (x:Tb) (g:Int):Prop where
 ok:g=0→x=apT t c∧zce t.sch c.upd=0∧zcu t.sch c.ins=0∧(zhm t c).Nodup
 err:g=0∨g=9∨g=10∨g=zce t.sch c.upd∨g=zcu t.sch c.ins
 good:zce t.sch c.upd=0→zcu t.sch c.ins=0→(midR c t.rows).length+c.ins.length≤100→(c.ins.length:Int)≤2147483648 - t.next→(zhm t c).Nodup→g=0
section
variable {t x : Tb} {c : Ch} {g nx : Int} {rs rs' : List Rw} {b : Bool}
theorem fu0 (h:zce t.sch c.upd=zce t.sch (c.upd.drop c.upd.length)):zce t.sch c.upd=0:=by rw [h,List.drop_length];rfl
theorem fi0 (h:zcu t.sch c.ins=zcu t.sch (c.ins.drop c.ins.length)):zcu t.sch c.ins=0:=by rw [h,List.drop_length];rfl
theorem zjD (h:g≠0∧g=zce t.sch c.upd):ApQ t c x g:=⟨fun e=>absurd e h.1,.inr (.inr (.inr (.inl h.2))),fun e=>absurd (h.2.trans e) h.1⟩
theorem zjH (h:g≠0∧g=zcu t.sch c.ins):ApQ t c x g:=⟨fun e=>absurd e h.1,.inr (.inr (.inr (.inr h.2))),fun _ e=>absurd (h.2.trans e) h.1⟩
theorem zgW (hr:rs.length≤t.rows.length∧rs=midR c (t.rows.take t.rows.length)) (hl:c.ins.length≤100000) (hl2:t.rows.length≤100000) (h:decide ((100:Int) < IntKind.i64.wrap ((rs.length:Int)+((c.ins.map vrow).length:Int)))=true):ApQ t c x 10:=by
 refine ⟨fun e=>by omega,.inr (.inr (.inl rfl)),fun _ _ e=>?_⟩
 rw [List.take_length] at hr
 simp only [decide_eq_true_eq,List.length_map,IntKind.wrap_i64] at h
 rw [← hr.2] at e;omega
theorem zhj (hn:1≤t.next∧t.next≤2147483648) (h:decide (IntKind.i64.wrap (2147483648 - t.next) < ((c.ins.map vrow).length:Int))=true):ApQ t c x 10:=by
 refine ⟨fun e=>by omega,.inr (.inr (.inl rfl)),fun _ _ _ e=>?_⟩
 simp only [decide_eq_true_eq,List.length_map,IntKind.wrap_i64] at h
 omega
theorem zju (hI:ApI t c c.ins.length nx rs') (hb:b=false↔(zbh (idxF (fun z=>z.key) t.sch.cols 0) rs').Nodup) (h:b=true):ApQ t c x 9:=by
 refine ⟨fun e=>by omega,.inr (.inl rfl),fun _ _ _ _ e=>?_⟩
 have e2:=hI.2
 rw [List.take_length] at e2
 unfold zhm at e;rw [← e2] at e
 rw [h] at hb;exact absurd (hb.2 e) (by simp)
theorem zjN (h1:zce t.sch c.upd=zce t.sch (c.upd.drop c.upd.length)) (h2:zcu t.sch c.ins=zcu t.sch (c.ins.drop c.ins.length)) (hI:ApI t c c.ins.length nx rs') (hb:b=false↔(zbh (idxF (fun z=>z.key) t.sch.cols 0) rs').Nodup) (h:b=false):ApQ t c ⟨t.sch,nx,rs'⟩ 0:=by
 obtain ⟨e1,e2⟩:=hI
 rw [List.take_length] at e2
 refine ⟨fun _=>⟨by unfold apT;rw [e1,e2],fu0 h1,fi0 h2,?_⟩,.inl rfl,fun _ _ _ _ _=>rfl⟩
 unfold zhm;rw [← e2];exact hb.1 h
end
theorem znm (t:Tb) (c:Ch) (hl:zad c.upd) (hli:zad c.ins) (hl5:c.ins.length≤100000) (hd:zad c.del) (hs:zad t.sch.cols) (hg:∀ p∈c.upd,∀ v∈p.nw,v.Good) (hgi:∀ p∈c.ins,∀ v∈p,v.Good) (hvi:∀ r∈c.ins,zad r) (hrs:zad t.rows) (hr5:t.rows.length≤100000) (hm:(midR c t.rows).length≤100000) (hvs:∀ r∈t.rows,zad r.vals) (hfs:∀ n,zad (fnd7 n c.upd).1) (hn:1≤t.next∧t.next≤2147483648) (hv:zab E0 S.ref7_Valid [t.av,c.av] [] (bv true) []):∃ (x:Tb) (g:Int),ApQ t c x g∧zab E0 S.ref7_Apply [t.av,c.av] [] (.tup [x.av,iv g]) []:=by
 rcases zgP t c (by first|assumption|rfl|exact ⟨Nat.zero_le _,rfl⟩|exact zby (by assumption)|exact za3 (by assumption) hm hl5|omega) (by first|assumption|rfl|exact ⟨Nat.zero_le _,rfl⟩|exact zby (by assumption)|exact za3 (by assumption) hm hl5|omega) (by first|assumption|rfl|exact ⟨Nat.zero_le _,rfl⟩|exact zby (by assumption)|exact za3 (by assumption) hm hl5|omega) 0 (by first|assumption|rfl|exact ⟨Nat.zero_le _,rfl⟩|exact zby (by assumption)|exact za3 (by assumption) hm hl5|omega) (by first|assumption|rfl|exact ⟨Nat.zero_le _,rfl⟩|exact zby (by assumption)|exact za3 (by assumption) hm hl5|omega) with ⟨q1,q1_1,g1⟩|⟨r1_0,r1_1,p1_0,g1⟩
 ·rcases zgx t c (by first|assumption|rfl|exact ⟨Nat.zero_le _,rfl⟩|exact zby (by assumption)|exact za3 (by assumption) hm hl5|omega) (by first|assumption|rfl|exact ⟨Nat.zero_le _,rfl⟩|exact zby (by assumption)|exact za3 (by assumption) hm hl5|omega) (by first|assumption|rfl|exact ⟨Nat.zero_le _,rfl⟩|exact zby (by assumption)|exact za3 (by assumption) hm hl5|omega) 0 (by first|assumption|rfl|exact ⟨Nat.zero_le _,rfl⟩|exact zby (by assumption)|exact za3 (by assumption) hm hl5|omega) (by first|assumption|rfl|exact ⟨Nat.zero_le _,rfl⟩|exact zby (by assumption)|exact za3 (by assumption) hm hl5|omega) with ⟨q2,q2_1,g2⟩|⟨r2_0,r2_1,p2_0,g2⟩
  ·obtain ⟨rs3,q3,q3_1,g3⟩:=zgN t c (by first|assumption|rfl|exact ⟨Nat.zero_le _,rfl⟩|exact zby (by assumption)|exact za3 (by assumption) hm hl5|omega) (by first|assumption|rfl|exact ⟨Nat.zero_le _,rfl⟩|exact zby (by assumption)|exact za3 (by assumption) hm hl5|omega) (by first|assumption|rfl|exact ⟨Nat.zero_le _,rfl⟩|exact zby (by assumption)|exact za3 (by assumption) hm hl5|omega) (by first|assumption|rfl|exact ⟨Nat.zero_le _,rfl⟩|exact zby (by assumption)|exact za3 (by assumption) hm hl5|omega) (by first|assumption|rfl|exact ⟨Nat.zero_le _,rfl⟩|exact zby (by assumption)|exact za3 (by assumption) hm hl5|omega) 0 ([]) (by first|assumption|rfl|exact ⟨Nat.zero_le _,rfl⟩|exact zby (by assumption)|exact za3 (by assumption) hm hl5|omega) (by first|assumption|rfl|exact ⟨Nat.zero_le _,rfl⟩|exact zby (by assumption)|exact za3 (by assumption) hm hl5|omega)
   let p_1:List St:=[sb q2_1,sdm [(1,[sc (zpr t (by first|assumption|rfl|exact ⟨Nat.zero_le _,rfl⟩|exact zby (by assumption)|exact za3 (by assumption) hm hl5|omega) (by first|assumption|rfl|exact ⟨Nat.zero_le _,rfl⟩|exact zby (by assumption)|exact za3 (by assumption) hm hl5|omega) (by first|assumption|rfl|exact ⟨Nat.zero_le _,rfl⟩|exact zby (by assumption)|exact za3 (by assumption) hm hl5|omega))]),(2,[sqx (some 50=some 50)])] 0 [(2,AV.p 0 0),(3,AV.p 1 0),(4,AV.p 2 0),(12,AV.p 3 0),(43,AV.sl (List.map vrow c.ins)),(44,iv (↑(List.map vrow c.ins).length:Int)),(45,iv (c.1.length:Int)),(46,AV.bl false),(58,AV.agg [sv t.sch.name,AV.sl (List.map Col.cells t.sch.cols),iv t.next,AV.sl (List.map Rw.cells t.rows)]),(59,AV.agg [sv t.sch.name,AV.sl (List.map Col.cells t.sch.cols),iv t.next,AV.sl (List.map Rw.cells t.rows)]),(60,AV.agg [sv t.sch.name,AV.sl (List.map Col.cells t.sch.cols)]),(61,AV.p 0 2),(62,iv t.next),(63,AV.agg [sv t.sch.name,AV.sl (List.map Col.cells t.sch.cols),iv t.next,AV.nl])] [Blk.box [sv t.sch.name,AV.sl (List.map Col.cells t.sch.cols),iv t.next,AV.sl (List.map Rw.cells t.rows)],Blk.box [AV.sl (List.map vrow c.ins),AV.sl (List.map (fun n=>[iv n]) c.del),AV.sl (List.map Pr.cells c.upd)],Blk.box [sv (ByteArray.mk #[]),AV.nl,iv 0,AV.nl],Blk.box [sv t.sch.name,AV.sl (List.map Col.cells t.sch.cols),iv t.next,AV.nl]]]
   let p_2:List St:=[sb q3_1,sqx (rs3.length=(List.map Rw.cells rs3).length),si (e:=IntKind.i64.wrap ((rs3.length:Int)+(↑(List.map vrow c.ins).length:Int))) rfl]
   cases h4:decide (100 < IntKind.i64.wrap ((rs3.length:Int)+(↑(List.map vrow c.ins).length:Int)))
   ·let p_3:List St:=p_2++[sg h4,si (e:=IntKind.i64.wrap (2147483648 - t.next)) rfl]
    cases h5:decide (IntKind.i64.wrap (2147483648 - t.next) < (↑(List.map vrow c.ins).length:Int))
    ·obtain ⟨nx6,rs6,q6,q6_1,g6⟩:=zgL t c (by first|assumption|rfl|exact ⟨Nat.zero_le _,rfl⟩|exact zby (by assumption)|exact za3 (by assumption) hm hl5|omega) (by first|assumption|rfl|exact ⟨Nat.zero_le _,rfl⟩|exact zby (by assumption)|exact za3 (by assumption) hm hl5|omega) (by first|assumption|rfl|exact ⟨Nat.zero_le _,rfl⟩|exact zby (by assumption)|exact za3 (by assumption) hm hl5|omega) (by first|assumption|rfl|exact ⟨Nat.zero_le _,rfl⟩|exact zby (by assumption)|exact za3 (by assumption) hm hl5|omega) 0 t.next rs3 (by first|assumption|rfl|exact ⟨Nat.zero_le _,rfl⟩|exact zby (by assumption)|exact za3 (by assumption) hm hl5|omega) (by first|assumption|rfl|exact ⟨Nat.zero_le _,rfl⟩|exact zby (by assumption)|exact za3 (by assumption) hm hl5|omega)
     obtain ⟨b7,q7,c7⟩:=(zfZ (Tb.mk t.sch nx6 rs6) (by first|assumption|rfl|exact ⟨Nat.zero_le _,rfl⟩|exact zby (by assumption)|exact za3 (by assumption) hm hl5|omega) (by first|assumption|rfl|exact ⟨Nat.zero_le _,rfl⟩|exact zby (by assumption)|exact za3 (by assumption) hm hl5|omega))
     rcases (Bool.eq_false_or_eq_true b7).symm with h8|h8
     ·exact ⟨Tb.mk t.sch nx6 rs6,0,(by first|exact zjD (by assumption)|exact zjH (by assumption)|exact zgW (by assumption) hl5 hr5 (by assumption)|exact zhj hn (by assumption)|exact zju (by assumption) (by assumption) (by assumption)|exact zjN (by assumption) (by assumption) (by assumption) (by assumption) (by assumption)),wkc At.ref7_Apply [sc hv,sb (rfl:false=false)] [2,3,4,26,27,28] 3 kr (g1 _ (zaa (wkl [sb q1_1] [2,3,4,43,44,45] 3 kr (g2 _ (zaa (wklN p_1 [2,3,4,12,65,66,67] 4 [(.ob 3 3 Ty.Row,5)] kr (g3 _ (zaa (wkl (p_3++[sb h5]) [4,12,118,119,120] 5 kr (g6 _ (zaa (wkr [sqx ((True∧True∧True∧rs6.length=(List.map Rw.cells rs6).length∧True)∧True∧True),sb q2_1,skx ((True∧True∧True∧rs6.length=(List.map Rw.cells rs6).length∧True)∧True) [] c7,sb h8] kr))))))))))))⟩
     ·exact ⟨Tb.mk (Sch.mk (ByteArray.mk #[]) []) 0 [],9,(by first|exact zjD (by assumption)|exact zjH (by assumption)|exact zgW (by assumption) hl5 hr5 (by assumption)|exact zhj hn (by assumption)|exact zju (by assumption) (by assumption) (by assumption)|exact zjN (by assumption) (by assumption) (by assumption) (by assumption) (by assumption)),wkc At.ref7_Apply [sc hv,sb (rfl:false=false)] [2,3,4,26,27,28] 3 kr (g1 _ (zaa (wkl [sb q1_1] [2,3,4,43,44,45] 3 kr (g2 _ (zaa (wklN p_1 [2,3,4,12,65,66,67] 4 [(.ob 3 3 Ty.Row,5)] kr (g3 _ (zaa (wkl (p_3++[sb h5]) [4,12,118,119,120] 5 kr (g6 _ (zaa (wkr [sb q2_1,skx ((True∧True∧True∧rs6.length=(List.map Rw.cells rs6).length∧True)∧True) [] c7,sb h8] kr))))))))))))⟩
    ·exact ⟨Tb.mk (Sch.mk (ByteArray.mk #[]) []) 0 [],10,(by first|exact zjD (by assumption)|exact zjH (by assumption)|exact zgW (by assumption) hl5 hr5 (by assumption)|exact zhj hn (by assumption)|exact zju (by assumption) (by assumption) (by assumption)|exact zjN (by assumption) (by assumption) (by assumption) (by assumption) (by assumption)),wkc At.ref7_Apply [sc hv,sb (rfl:false=false)] [2,3,4,26,27,28] 3 kr (g1 _ (zaa (wkl [sb q1_1] [2,3,4,43,44,45] 3 kr (g2 _ (zaa (wklN p_1 [2,3,4,12,65,66,67] 4 [(.ob 3 3 Ty.Row,5)] kr (g3 _ (zaa (wkr (p_3++[sb h5]) kr)))))))))⟩
   ·exact ⟨Tb.mk (Sch.mk (ByteArray.mk #[]) []) 0 [],10,(by first|exact zjD (by assumption)|exact zjH (by assumption)|exact zgW (by assumption) hl5 hr5 (by assumption)|exact zhj hn (by assumption)|exact zju (by assumption) (by assumption) (by assumption)|exact zjN (by assumption) (by assumption) (by assumption) (by assumption) (by assumption)),wkc At.ref7_Apply [sc hv,sb (rfl:false=false)] [2,3,4,26,27,28] 3 kr (g1 _ (zaa (wkl [sb q1_1] [2,3,4,43,44,45] 3 kr (g2 _ (zaa (wklN p_1 [2,3,4,12,65,66,67] 4 [(.ob 3 3 Ty.Row,5)] kr (g3 _ (zaa (wkr (p_2++[sb h4]) kr)))))))))⟩
  ·exact ⟨r2_0,r2_1,(by first|exact zjD (by assumption)|exact zjH (by assumption)|exact zgW (by assumption) hl5 hr5 (by assumption)|exact zhj hn (by assumption)|exact zju (by assumption) (by assumption) (by assumption)|exact zjN (by assumption) (by assumption) (by assumption) (by assumption) (by assumption)),wkc At.ref7_Apply [sc hv,sb (rfl:false=false)] [2,3,4,26,27,28] 3 kr (g1 _ (zaa (wkl [sb q1_1] [2,3,4,43,44,45] 3 kr g2)))⟩
 ·exact ⟨r1_0,r1_1,(by first|exact zjD (by assumption)|exact zjH (by assumption)|exact zgW (by assumption) hl5 hr5 (by assumption)|exact zhj hn (by assumption)|exact zju (by assumption) (by assumption) (by assumption)|exact zjN (by assumption) (by assumption) (by assumption) (by assumption) (by assumption)),wkc At.ref7_Apply [sc hv,sb (rfl:false=false)] [2,3,4,26,27,28] 3 kr (g1)⟩
end Go.AM
namespace Go.AM
set_option maxRecDepth 100000
set_option maxHeartbeats 400000
set_option linter.unusedSimpArgs false
set_option linter.unusedVariables false
theorem zqL {c:Ch} {k:Nat} (h:∀ p∈c.upd,p.nw.length=k) (hk:k≤1000000000) (n:Int):zad (fnd7 n c.upd).1:=by
 have:∀ l:List Pr,(∀ p∈l,p.nw.length=k)→zad (fnd7 n l).1:=fun l=>by
  induction l with
  | nil=>intro _;simp [fnd7]
  | cons p r ih =>
   intro h
   unfold fnd7
   cases p.id==n
   ·exact ih fun q hq=>h q (by simp [hq])
   ·have:=h p (by simp);simp only [zad,cond_true];omega
 exact this _ h
theorem zp1 (t:Tb) (c:Ch) (ht:TabV t) (hc:ChV t c) (hg:∀ p∈c.upd,∀ v∈p.nw,v.Good) (hgi:∀ p∈c.ins,∀ v∈p,v.Good):∃ (x:Tb) (g:Int),ApQ t c x g∧zab E0 S.ref7_Apply [t.av,c.av] [] (.tup [x.av,iv g]) []:=by
 have hl:=ht.len
 simp only [List.length_map,decide_eq_false_iff_not] at hl
 have hm:(midR c t.rows).length≤t.rows.length:=List.length_filterMap_le _ _
 have h1:=hc.lu;have h2:=hc.li;have h3:=hc.ld
 have h4:=ht.rows.pos
 have h5:=ht.max
 have h6:=ht.sch.short
 simp only [decide_eq_false_iff_not] at h5
 exact znm t c (by simp only [zad];omega) (by simp only [zad];omega) h2 (by simp only [zad];omega) h6 hg hgi (fun r hr=>by have:=hc.ins r hr;simp only [zad] at *;omega) ht.shr (by omega) (by omega) ht.vals (zqL (fun p hp=>(hc.updIn p hp).2.2) h6) ⟨h4,by omega⟩ (zk3 t c ht hc)
theorem zfI (a b:List V) (hab:a=b) (hl:zad a):zab E0 S.slices_Equal_Value [vsl a,vsl b] [] (bv true) []:=by
 subst hab
 obtain ⟨r,h1,h⟩:=zea a hl
 rw [h1] at h;exact h
abbrev acbD (w:Str) (e:X):List AV:=[iv 3,sv w,.nl,.nl,.nl,.sl [e.cells],sv ⟨#[]⟩]
abbrev acbU (w:Str) (v e:X):List AV:=[iv 2,sv w,.nl,.nl,.sl [Se.cells ⟨sN,v⟩],.sl [e.cells],sv ⟨#[]⟩]
abbrev twAs (w:Str) (v e:X):List (List AV):=[[iv 3,sv w,.sl [],.sl [],.sl [],.sl [e.cells],sv ⟨#[]⟩],[iv 2,sv w,.sl [],.sl [],.sl [Se.cells ⟨sN,v⟩],.sl [e.cells],sv ⟨#[]⟩]]
noncomputable def L_tw (m:List Tb) (w:Str) (e v:X) (u:Tp) (i:Nat):Cfg:=zap B.law16_DmlTwice 0 [(4,tsl m),(6,iv (idxF (fun t=>zan t w) m 0)),(55,.sl (twAs w v e)),(56,iv ((twAs w v e).length:Nat)),(57,iv (i:Nat))] [.box u.cells,.box [.sl [[sv w,bv false,.sl ((zaO w).cols.map Col.cells),.sl []]],.nl],.box (acbD w e),.box (acbU w v e)]
theorem zcf (m:List Tb) (w:Str) (e v:X) (u:Tp) (i:Nat):True∧∀ R,Good E0 B.law16_DmlTwice [] (L_tw m w e v u i) R→Good E0 B.law16_DmlTwice [] (L_tw m w e v u i) R:=⟨trivial,fun _ h=>h⟩
abbrev tab1 (m:List Tb) (w:Str) (c:Ch):List Tb:=m.set (idxF (fun t=>zan t w) m 0).toNat (apT (tabC m w) c)
def twC (m:List Tb) (a:Ac):Ch × Int:=zcd 6 a [] m
def twD (m:List Tb) (w:Str) (a:Ac):Ch × Int:=zcd 6 a [] (tab1 m w (twC m a).1)
structure TwD (m:List Tb) (w:Str) (e:X):Prop where
 c:Pure S.dml_Candidates [(acD w e).av,fsl [],tsl m] (.tup [(twC m (acD w e)).1.av,iv (twC m (acD w e)).2])
 a:((twC m (acD w e)).2 != 0)=false→Pure S.ref7_Apply [(tabC m w).av,(twC m (acD w e)).1.av] (.tup [(apT (tabC m w) (twC m (acD w e)).1).av,iv 0])
 d:((twC m (acD w e)).2 != 0)=false→Pure S.dml_Candidates [(acD w e).av,fsl [],tsl (tab1 m w (twC m (acD w e)).1)] (.tup [Ch.av ⟨[],[],[]⟩,iv 0])
 l:((twC m (acD w e)).2 != 0)=false→((((apT (tabC m w) (twC m (acD w e)).1).rows.map Rw.cells).length:Int) != IntKind.i64.wrap ((((tabC m w).rows.map Rw.cells).length:Int) - (((twC m (acD w e)).1.del.map zbN).length:Int)))=false
 tab:decide (idxF (fun t=>zan t w) m 0 < 0)=false
 short:zad m
structure TwU (m:List Tb) (w:Str) (v e:X):Prop where
 c:Pure S.dml_Candidates [(acU w sN v e).av,fsl [],tsl m] (.tup [(twC m (acU w sN v e)).1.av,iv (twC m (acU w sN v e)).2])
 a:((twC m (acU w sN v e)).2 != 0)=false→Pure S.ref7_Apply [(tabC m w).av,(twC m (acU w sN v e)).1.av] (.tup [(apT (tabC m w) (twC m (acU w sN v e)).1).av,iv 0])
 d:((twC m (acU w sN v e)).2 != 0)=false→Pure S.dml_Candidates [(acU w sN v e).av,fsl [],tsl (tab1 m w (twC m (acU w sN v e)).1)] (.tup [(twD m w (acU w sN v e)).1.av,iv (twD m w (acU w sN v e)).2])
 u:((twC m (acU w sN v e)).2 != 0)=false→((twD m w (acU w sN v e)).2==0)=true→∀ p∈(twD m w (acU w sN v e)).1.upd,p.old=p.nw
 lu:((twC m (acU w sN v e)).2 != 0)=false→∀ p∈(twD m w (acU w sN v e)).1.upd,zad p.old
 ul:((twC m (acU w sN v e)).2 != 0)=false→zad (twD m w (acU w sN v e)).1.upd
theorem zg8 (m:List Tb) (w:Str) (e:X) (h:TwD m w e):zab E0 S.dml_Candidates [(acD w e).av,fsl [],tsl m] [] (.tup [(twC m (acD w e)).1.av,iv (twC m (acD w e)).2]) []:=h.c
theorem zgU (m:List Tb) (w:Str) (v e:X) (h:TwU m w v e):zab E0 S.dml_Candidates [(acU w sN v e).av,fsl [],tsl m] [] (.tup [(twC m (acU w sN v e)).1.av,iv (twC m (acU w sN v e)).2]) []:=h.c
theorem zgZ (m:List Tb) (w:Str) (e:X) (h:TwD m w e) (h0:((twC m (acD w e)).2 != 0)=false):zab E0 S.dml_Candidates [(acD w e).av,fsl [],.sl ((m.map Tb.cells).set (idxF (fun t=>zan t w) m 0).toNat (Tb.cells (apT (tabC m w) (twC m (acD w e)).1)))] [] (.tup [Ch.av ⟨[],[],[]⟩,iv 0]) []:=by
 have h1:=h.d h0
 unfold tab1 at h1;rwa [tsl,List.map_set] at h1
theorem zhh (m:List Tb) (w:Str) (v e:X) (h:TwU m w v e) (h0:((twC m (acU w sN v e)).2 != 0)=false):zab E0 S.dml_Candidates [(acU w sN v e).av,fsl [],.sl ((m.map Tb.cells).set (idxF (fun t=>zan t w) m 0).toNat (Tb.cells (apT (tabC m w) (twC m (acU w sN v e)).1)))] [] (.tup [(twD m w (acU w sN v e)).1.av,iv (twD m w (acU w sN v e)).2]) []:=by
 have h1:=h.d h0
 unfold tab1 at h1;rwa [tsl,List.map_set] at h1
theorem zjT (m:List Tb) (w:Str) (e:X) (h:TwD m w e) (h0:((twC m (acD w e)).2 != 0)=false):zab E0 S.ref7_Apply [(tabC m w).av,(twC m (acD w e)).1.av] [] (.tup [(apT (tabC m w) (twC m (acD w e)).1).av,iv 0]) []:=h.a h0
theorem zj0 (m:List Tb) (w:Str) (v e:X) (h:TwU m w v e) (h0:((twC m (acU w sN v e)).2 != 0)=false):zab E0 S.ref7_Apply [(tabC m w).av,(twC m (acU w sN v e)).1.av] [] (.tup [(apT (tabC m w) (twC m (acU w sN v e)).1).av,iv 0]) []:=h.a h0
theorem zsv (l:List Tb) (hl:zad l):Good E0 B.slices_Clone_Table [] (zcD (zjP B.slices_Clone_Table [.sl (l.map Tb.cells)] [] 0) false) (fun r h=>r=.own 0 l.length∧h=[.row Ty.Table (l.map Tb.cells) false]) :=
 zeQ E0ok mix0 3000 (y:=AV.own 0 (List.map Tb.cells l).length) (H:=[Blk.row Ty.Table (List.map Tb.cells l) false]) [sb (rfl:false=false),sqx (AllLen (List.map Tb.cells l) 4∧((List.map Tb.cells l).length * 72).le 140737488355328)] kr (⟨by simp,rfl⟩)
theorem zss:Good E0 B.slices_Clone_Table [] (zcD (zjP B.slices_Clone_Table [.sl []] [] 0) true) (fun r h=>r=.nl∧h=[]) :=
 zeQ E0ok mix0 3000 (y:=AV.nl) (H:=[]) [sb (rfl:true=true)] kr (⟨rfl,rfl⟩)
theorem zek (l:List Tb) (hl:zad l):zab E0 S.slices_Clone_Table [.sl (l.map Tb.cells)] [] (.own 0 l.length) [.row Ty.Table (l.map Tb.cells) false]:=by
 refine zbt At.slices_Clone_Table rfl kr (Nat.le_of_ble_eq_true kr) (zdc E0ok mix0 3000 [] (List.range 40) 0 (c':=zjP B.slices_Clone_Table [.sl (l.map Tb.cells)] [] 0) kr kr (zhF E0ok (xs:=l.map Tb.cells) (e:=true) kr fun b hb=>?_))
 cases b with
 | false=>exact zsv l hl
 | true =>
  cases l with
  | nil=>exact zeN Ty.Table zss ⟨rfl,rfl⟩
  | cons x r=>exact absurd (hb (by simp)) (by simp)
noncomputable def L_twI (m:List Tb) (w:Str) (e v:X) (u:Tp) (io:Nat) (ca:Ac) (c d:Ch) (x2:Tb) (m2:List Tb) (sh:Bool) (h:Int) (i:Nat) :Cfg:=zap B.law16_DmlTwice 1 [(4,tsl m),(6,iv (idxF (fun t=>zan t w) m 0)),(19,iv h),(55,.sl (twAs w v e)),(56,iv ((twAs w v e).length:Nat)),(57,iv (io:Nat)),(123,.sl (d.upd.map Pr.cells)),(124,iv ((d.upd.map Pr.cells).length:Nat)),(125,iv (i:Nat))] [.box u.cells,.box [.sl [[sv w,bv false,.sl ((zaO w).cols.map Col.cells),.sl []]],.nl],.box (acbD w e),.box (acbU w v e),.box ca.cells,.box c.cells,.box x2.cells,.row Ty.Table (m2.map Tb.cells) sh,.box d.cells]
theorem zcR (m:List Tb) (w:Str) (e v:X) (u:Tp) (io:Nat) (ca:Ac) (c d:Ch) (x2:Tb) (m2:List Tb) (sh:Bool) (h:Int) (hh:(h==0)=true→∀ p∈d.upd,p.old=p.nw) (hso:(h==0)=true→∀ p∈d.upd,zad p.old) (hl:zad d.upd) (i:Nat)  (hi:i≤(d.upd).length) (hI:True):(True)∧(decide ((((d.upd).length:Nat):Int) < (((d.upd.map Pr.cells).length:Nat):Int))=false)∧∀ R,Good E0 B.law16_DmlTwice [] (L_twI m w e v u io ca c d x2 m2 sh h (d.upd).length ) R→Good E0 B.law16_DmlTwice [] (L_twI m w e v u io ca c d x2 m2 sh h i ) R:=by
 obtain ⟨kk,hk⟩:∃ kk,i+kk=(d.upd).length:=⟨(d.upd).length - i,by omega⟩
 induction kk generalizing i  hI with
 | zero =>
  have e0:i=(d.upd).length:=by omega
  subst e0
  exact ⟨hI,by simp,fun R hg=>hg⟩
 | succ kk ih =>
  obtain ⟨x,hx⟩:=zaw (l:=d.upd) (i:=i) (by omega)
  have h0:decide (((i:Nat):Int) < (((d.upd.map Pr.cells).length:Nat):Int))=true:=by simp;omega
  have hw:IntKind.i64.wrap (((i:Nat):Int)+1)=((i+1:Nat):Int):=zal i (by first|omega|(simp only [zad,Few] at *;omega))
  have f1:(h==0)=true→x.old=x.nw:=(fun hz=>hh hz x (List.mem_of_getElem? hx));have f2:(h==0)=true→zad x.old:=(fun hz=>hso hz x (List.mem_of_getElem? hx))
  let p_1:List St:=[sb h0,se (zaf Pr.cells hx rfl)]
  cases h1:h==0
  ·obtain ⟨qZ,xZ,gZ⟩:=ih (i+1) (by omega) (by first|trivial|assumption|(simp;done)|omega|(simp;omega)|(simp at *;omega)) (by omega);exact ⟨qZ,xZ,fun R hg=>zaa (wkl (p_1++[sb h1,si hw]) [4,6,19,55,56,57,123,124,125] 9 kr (gZ R hg))⟩
  ·obtain ⟨qZ,xZ,gZ⟩:=ih (i+1) (by omega) (by first|trivial|assumption|(simp;done)|omega|(simp;omega)|(simp at *;omega)) (by omega);exact ⟨qZ,xZ,fun R hg=>zaa (wkl (p_1++[sg h1,sc (zfI x.old x.nw (by first|assumption|exact f1 (by assumption)|exact f2 (by assumption)) (by first|assumption|exact f1 (by assumption)|exact f2 (by assumption))),sb (rfl:false=false),si hw]) [4,6,19,55,56,57,123,124,125] 9 kr (gZ R hg))⟩
end Go.AM
namespace Go.AM
set_option maxRecDepth 100000
set_option maxHeartbeats 1000000
set_option linter.unusedSimpArgs false
set_option linter.unusedVariables false
theorem zaR {α:Type} {p:α→Bool} {l:List α} (h:decide (idxF p l 0 < 0)=false):(idxF p l 0).toNat < l.length:=by
 have:=znz h;omega
theorem zkT {m:List Tb} {w:Str} {e:X} (h:TwD m w e) (h0:((twC m (acD w e)).2 != 0)=false) (hz:(bif (3:Int)==3 then (bif (bif (0:Int) != 0 then true else decide ((0:Int) < (([]:List (List AV)).length:Int))) then true else ((((apT (tabC m w) (twC m (acD w e)).1).rows.map Rw.cells).length:Int) != IntKind.i64.wrap ((((tabC m w).rows.map Rw.cells).length:Int) - (((twC m (acD w e)).1.del.map zbN).length:Int)))) else false)=true):False:=by
 rw [h.l h0] at hz;exact absurd hz (by decide)
theorem zlE (tb:List Tb) (n:Str) (hs:StoreV 6 tb) (hn:TabN n):∃ (_z:Unit),(0≤idxF (fun t=>zan t n) tb 0∧idxF (fun t=>zan t n) tb 0 < ((tb.length:Nat):Int))∧zab E0 S.ref9_Find [tsl tb,sv n] [] (iv (idxF (fun t=>zan t n) tb 0)) [] :=
 ⟨(),znz (zda hs hn).1,zo0 tb n (ziY hs)⟩
theorem el_snd (a b:List AV) (h:b.length=7):ElAt [a,b] ((0+1:Nat):Int) b 7:=⟨by decide,rfl,h⟩
theorem zkt (l:List Int) (hsh:zad zau) (hkn:zab E0 S.law16_known [] [] (bv true) []) (hD:∀ m w e,StoreV 6 m→TabN w→XFl 5 e→TwD m w e) (hU:∀ m w (a:Int) e,StoreV 6 m→TabN w→XFl 5 e→(-3≤a∧a≤12)→TwU m w (xNum a) e) (hE:∀ (t:Tp) (w:Str),∃ (e:X) (t':Tp),XFl 5 e∧zab E0 S.world_Tape_Expr [.p 0 0,(Pl.mk [⟨w,false,(zaO w).cols,[]⟩] []).av,iv 2,iv 3] [.box t.cells] e.av [.box t'.cells]):∃ (b:Bool),b=true∧zab E0 S.law16_DmlTwice [isl l] [] (bv b) []:=by
 obtain ⟨t1,c1⟩:=(zo4 l)
 obtain ⟨r2,t2,q2,c2⟩:=(zgT t1 6 (by first|assumption|rfl|exact (hD _ _ _ (by assumption) (by assumption) (by assumption))|exact (hU _ _ _ _ (by assumption) (by assumption) (by assumption) (by assumption))|exact (hD _ _ _ (by assumption) (by assumption) (by assumption)).short|exact (hD _ _ _ (by assumption) (by assumption) (by assumption)).tab|exact zaR (hD _ _ _ (by assumption) (by assumption) (by assumption)).tab|exact (hU _ _ _ _ (by assumption) (by assumption) (by assumption) (by assumption)).u (by assumption)|exact fun _=>(hU _ _ _ _ (by assumption) (by assumption) (by assumption) (by assumption)).lu (by assumption)|exact (hU _ _ _ _ (by assumption) (by assumption) (by assumption) (by assumption)).ul (by assumption)|exact (fun _ p hp=>absurd hp (by simp))|omega|(simp;done)) (by first|assumption|rfl|exact (hD _ _ _ (by assumption) (by assumption) (by assumption))|exact (hU _ _ _ _ (by assumption) (by assumption) (by assumption) (by assumption))|exact (hD _ _ _ (by assumption) (by assumption) (by assumption)).short|exact (hD _ _ _ (by assumption) (by assumption) (by assumption)).tab|exact zaR (hD _ _ _ (by assumption) (by assumption) (by assumption)).tab|exact (hU _ _ _ _ (by assumption) (by assumption) (by assumption) (by assumption)).u (by assumption)|exact fun _=>(hU _ _ _ _ (by assumption) (by assumption) (by assumption) (by assumption)).lu (by assumption)|exact (hU _ _ _ _ (by assumption) (by assumption) (by assumption) (by assumption)).ul (by assumption)|exact (fun _ p hp=>absurd hp (by simp))|omega|(simp;done)))
 obtain ⟨w3,t3,q3,c3⟩:=(ziP t2)
 obtain ⟨_z4,q4,c4⟩:=(zlE r2 w3 (by first|assumption|rfl|exact (hD _ _ _ (by assumption) (by assumption) (by assumption))|exact (hU _ _ _ _ (by assumption) (by assumption) (by assumption) (by assumption))|exact (hD _ _ _ (by assumption) (by assumption) (by assumption)).short|exact (hD _ _ _ (by assumption) (by assumption) (by assumption)).tab|exact zaR (hD _ _ _ (by assumption) (by assumption) (by assumption)).tab|exact (hU _ _ _ _ (by assumption) (by assumption) (by assumption) (by assumption)).u (by assumption)|exact fun _=>(hU _ _ _ _ (by assumption) (by assumption) (by assumption) (by assumption)).lu (by assumption)|exact (hU _ _ _ _ (by assumption) (by assumption) (by assumption) (by assumption)).ul (by assumption)|exact (fun _ p hp=>absurd hp (by simp))|omega|(simp;done)) (by first|assumption|rfl|exact (hD _ _ _ (by assumption) (by assumption) (by assumption))|exact (hU _ _ _ _ (by assumption) (by assumption) (by assumption) (by assumption))|exact (hD _ _ _ (by assumption) (by assumption) (by assumption)).short|exact (hD _ _ _ (by assumption) (by assumption) (by assumption)).tab|exact zaR (hD _ _ _ (by assumption) (by assumption) (by assumption)).tab|exact (hU _ _ _ _ (by assumption) (by assumption) (by assumption) (by assumption)).u (by assumption)|exact fun _=>(hU _ _ _ _ (by assumption) (by assumption) (by assumption) (by assumption)).lu (by assumption)|exact (hU _ _ _ _ (by assumption) (by assumption) (by assumption) (by assumption)).ul (by assumption)|exact (fun _ p hp=>absurd hp (by simp))|omega|(simp;done)))
 obtain ⟨e5,t5,q5,c5⟩:=(hE t3 w3)
 obtain ⟨a6,t6,q6,c6⟩:=(za5 t5)
 obtain ⟨q7,g7⟩:=zcf r2 w3 e5 (xNum a6) t6 (0)
 let p_1:List St:=[sc c1,sl [0] c2,sl [0] c3,sc c4,sc (zho w3 (by first|assumption|rfl|exact (hD _ _ _ (by assumption) (by assumption) (by assumption))|exact (hU _ _ _ _ (by assumption) (by assumption) (by assumption) (by assumption))|exact (hD _ _ _ (by assumption) (by assumption) (by assumption)).short|exact (hD _ _ _ (by assumption) (by assumption) (by assumption)).tab|exact zaR (hD _ _ _ (by assumption) (by assumption) (by assumption)).tab|exact (hU _ _ _ _ (by assumption) (by assumption) (by assumption) (by assumption)).u (by assumption)|exact fun _=>(hU _ _ _ _ (by assumption) (by assumption) (by assumption) (by assumption)).lu (by assumption)|exact (hU _ _ _ _ (by assumption) (by assumption) (by assumption) (by assumption)).ul (by assumption)|exact (fun _ p hp=>absurd hp (by simp))|omega|(simp;done))),sqx (some 48=some 48),sl [0] c5,sl [0] c6,sc (zb3 a6 (by first|assumption|rfl|exact (hD _ _ _ (by assumption) (by assumption) (by assumption))|exact (hU _ _ _ _ (by assumption) (by assumption) (by assumption) (by assumption))|exact (hD _ _ _ (by assumption) (by assumption) (by assumption)).short|exact (hD _ _ _ (by assumption) (by assumption) (by assumption)).tab|exact zaR (hD _ _ _ (by assumption) (by assumption) (by assumption)).tab|exact (hU _ _ _ _ (by assumption) (by assumption) (by assumption) (by assumption)).u (by assumption)|exact fun _=>(hU _ _ _ _ (by assumption) (by assumption) (by assumption) (by assumption)).lu (by assumption)|exact (hU _ _ _ _ (by assumption) (by assumption) (by assumption) (by assumption)).ul (by assumption)|exact (fun _ p hp=>absurd hp (by simp))|omega|(simp;done)))]
 let p_2:List St:=[sb (rfl:true=true),se (xs:=[[iv 3,sv w3,AV.sl [],AV.sl [],AV.sl [],AV.sl [[iv e5.kind,iv e5.op,bv e5.not,iv e5.val.kind,iv e5.val.int,sv e5.val.text,sv e5.table,sv e5.name,AV.sl (zac e5.args),AV.sl (zag e5.sub)]],sv (ByteArray.mk #[])],[iv 2,sv w3,AV.sl [],AV.sl [],AV.sl [[sv sN,iv (xNum a6).kind,iv (xNum a6).op,bv (xNum a6).not,iv (xNum a6).val.kind,iv (xNum a6).val.int,sv (xNum a6).val.text,sv (xNum a6).table,sv (xNum a6).name,AV.sl (zac (xNum a6).args),AV.sl (zag (xNum a6).sub)]],AV.sl [[iv e5.kind,iv e5.op,bv e5.not,iv e5.val.kind,iv e5.val.int,sv e5.val.text,sv e5.table,sv e5.name,AV.sl (zac e5.args),AV.sl (zag e5.sub)]],sv (ByteArray.mk #[])]]) (i:=0) (c:=[iv 3,sv w3,AV.sl [],AV.sl [],AV.sl [],AV.sl [[iv e5.kind,iv e5.op,bv e5.not,iv e5.val.kind,iv e5.val.int,sv e5.val.text,sv e5.table,sv e5.name,AV.sl (zac e5.args),AV.sl (zag e5.sub)]],sv (ByteArray.mk #[])]) (n:=7) ⟨by decide,rfl,rfl⟩,sc (conv (args:=[AV.agg [iv 3,sv w3,AV.sl [],AV.sl [],AV.sl [],AV.sl [[iv e5.kind,iv e5.op,bv e5.not,iv e5.val.kind,iv e5.val.int,sv e5.val.text,sv e5.table,sv e5.name,AV.sl (zac e5.args),AV.sl (zag e5.sub)]],sv (ByteArray.mk #[])],AV.sl [],AV.sl (List.map Tb.cells r2)]) (hl:=[]) (zg8 r2 w3 e5 (by first|assumption|rfl|exact (hD _ _ _ (by assumption) (by assumption) (by assumption))|exact (hU _ _ _ _ (by assumption) (by assumption) (by assumption) (by assumption))|exact (hD _ _ _ (by assumption) (by assumption) (by assumption)).short|exact (hD _ _ _ (by assumption) (by assumption) (by assumption)).tab|exact zaR (hD _ _ _ (by assumption) (by assumption) (by assumption)).tab|exact (hU _ _ _ _ (by assumption) (by assumption) (by assumption) (by assumption)).u (by assumption)|exact fun _=>(hU _ _ _ _ (by assumption) (by assumption) (by assumption) (by assumption)).lu (by assumption)|exact (hU _ _ _ _ (by assumption) (by assumption) (by assumption) (by assumption)).ul (by assumption)|exact (fun _ p hp=>absurd hp (by simp))|omega|(simp;done))) (by first|rfl|(simp [Ac.cells,Se.cells,Tb.cells];done)|(simp [Ac.cells,Se.cells];first|rfl|exact ⟨rfl,rfl⟩|exact ⟨rfl,rfl,rfl⟩|exact ⟨⟨rfl,rfl⟩,rfl⟩)) (by first|rfl|(simp [Ac.cells,Se.cells,Tb.cells];done)|(simp [Ac.cells,Se.cells];first|rfl|exact ⟨rfl,rfl⟩|exact ⟨rfl,rfl,rfl⟩|exact ⟨⟨rfl,rfl⟩,rfl⟩)))]
 let p_3:List St:=[sb (rfl:false=false),si (zjO (t:=(↑0:Int)+1) (n:=0+1) (by omega) (by omega))]
 let p_4:List St:=[sb (rfl:true=true),se (el_snd ([iv 3,sv w3,AV.sl [],AV.sl [],AV.sl [],AV.sl [[iv e5.kind,iv e5.op,bv e5.not,iv e5.val.kind,iv e5.val.int,sv e5.val.text,sv e5.table,sv e5.name,AV.sl (zac e5.args),AV.sl (zag e5.sub)]],sv (ByteArray.mk #[])]) ([iv 2,sv w3,AV.sl [],AV.sl [],AV.sl [[sv sN,iv (xNum a6).kind,iv (xNum a6).op,bv (xNum a6).not,iv (xNum a6).val.kind,iv (xNum a6).val.int,sv (xNum a6).val.text,sv (xNum a6).table,sv (xNum a6).name,AV.sl (zac (xNum a6).args),AV.sl (zag (xNum a6).sub)]],AV.sl [[iv e5.kind,iv e5.op,bv e5.not,iv e5.val.kind,iv e5.val.int,sv e5.val.text,sv e5.table,sv e5.name,AV.sl (zac e5.args),AV.sl (zag e5.sub)]],sv (ByteArray.mk #[])]) (by first|assumption|rfl|exact (hD _ _ _ (by assumption) (by assumption) (by assumption))|exact (hU _ _ _ _ (by assumption) (by assumption) (by assumption) (by assumption))|exact (hD _ _ _ (by assumption) (by assumption) (by assumption)).short|exact (hD _ _ _ (by assumption) (by assumption) (by assumption)).tab|exact zaR (hD _ _ _ (by assumption) (by assumption) (by assumption)).tab|exact (hU _ _ _ _ (by assumption) (by assumption) (by assumption) (by assumption)).u (by assumption)|exact fun _=>(hU _ _ _ _ (by assumption) (by assumption) (by assumption) (by assumption)).lu (by assumption)|exact (hU _ _ _ _ (by assumption) (by assumption) (by assumption) (by assumption)).ul (by assumption)|exact (fun _ p hp=>absurd hp (by simp))|omega|(simp;done))),sc (conv (args:=[AV.agg [iv 2,sv w3,AV.sl [],AV.sl [],AV.sl [[sv sN,iv (xNum a6).kind,iv (xNum a6).op,bv (xNum a6).not,iv (xNum a6).val.kind,iv (xNum a6).val.int,sv (xNum a6).val.text,sv (xNum a6).table,sv (xNum a6).name,AV.sl (zac (xNum a6).args),AV.sl (zag (xNum a6).sub)]],AV.sl [[iv e5.kind,iv e5.op,bv e5.not,iv e5.val.kind,iv e5.val.int,sv e5.val.text,sv e5.table,sv e5.name,AV.sl (zac e5.args),AV.sl (zag e5.sub)]],sv (ByteArray.mk #[])],AV.sl [],AV.sl (List.map Tb.cells r2)]) (hl:=[]) (zgU r2 w3 (xNum a6) e5 (by first|assumption|rfl|exact (hD _ _ _ (by assumption) (by assumption) (by assumption))|exact (hU _ _ _ _ (by assumption) (by assumption) (by assumption) (by assumption))|exact (hD _ _ _ (by assumption) (by assumption) (by assumption)).short|exact (hD _ _ _ (by assumption) (by assumption) (by assumption)).tab|exact zaR (hD _ _ _ (by assumption) (by assumption) (by assumption)).tab|exact (hU _ _ _ _ (by assumption) (by assumption) (by assumption) (by assumption)).u (by assumption)|exact fun _=>(hU _ _ _ _ (by assumption) (by assumption) (by assumption) (by assumption)).lu (by assumption)|exact (hU _ _ _ _ (by assumption) (by assumption) (by assumption) (by assumption)).ul (by assumption)|exact (fun _ p hp=>absurd hp (by simp))|omega|(simp;done))) (by first|rfl|(simp [Ac.cells,Se.cells,Tb.cells];done)|(simp [Ac.cells,Se.cells];first|rfl|exact ⟨rfl,rfl⟩|exact ⟨rfl,rfl,rfl⟩|exact ⟨⟨rfl,rfl⟩,rfl⟩)) (by first|rfl|(simp [Ac.cells,Se.cells,Tb.cells];done)|(simp [Ac.cells,Se.cells];first|rfl|exact ⟨rfl,rfl⟩|exact ⟨rfl,rfl,rfl⟩|exact ⟨⟨rfl,rfl⟩,rfl⟩)))]
 cases h8:(twC r2 (acD w3 e5)).snd != 0
 ·obtain ⟨x9,e9⟩:=zaw (l:=r2) (i:=(idxF (fun t=>zan t w3) r2 0).toNat) (by first|assumption|rfl|exact (hD _ _ _ (by assumption) (by assumption) (by assumption))|exact (hU _ _ _ _ (by assumption) (by assumption) (by assumption) (by assumption))|exact (hD _ _ _ (by assumption) (by assumption) (by assumption)).short|exact (hD _ _ _ (by assumption) (by assumption) (by assumption)).tab|exact zaR (hD _ _ _ (by assumption) (by assumption) (by assumption)).tab|exact (hU _ _ _ _ (by assumption) (by assumption) (by assumption) (by assumption)).u (by assumption)|exact fun _=>(hU _ _ _ _ (by assumption) (by assumption) (by assumption) (by assumption)).lu (by assumption)|exact (hU _ _ _ _ (by assumption) (by assumption) (by assumption) (by assumption)).ul (by assumption)|exact (fun _ p hp=>absurd hp (by simp))|omega|(simp;done))
  let p_5:List St:=p_2++[sb h8,sdm [(2,[se (zhk r2 w3 (by first|assumption|rfl|exact (hD _ _ _ (by assumption) (by assumption) (by assumption))|exact (hU _ _ _ _ (by assumption) (by assumption) (by assumption) (by assumption))|exact (hD _ _ _ (by assumption) (by assumption) (by assumption)).short|exact (hD _ _ _ (by assumption) (by assumption) (by assumption)).tab|exact zaR (hD _ _ _ (by assumption) (by assumption) (by assumption)).tab|exact (hU _ _ _ _ (by assumption) (by assumption) (by assumption) (by assumption)).u (by assumption)|exact fun _=>(hU _ _ _ _ (by assumption) (by assumption) (by assumption) (by assumption)).lu (by assumption)|exact (hU _ _ _ _ (by assumption) (by assumption) (by assumption) (by assumption)).ul (by assumption)|exact (fun _ p hp=>absurd hp (by simp))|omega|(simp;done)))]),(5,[sc (zjT r2 w3 e5 (by first|assumption|rfl|exact (hD _ _ _ (by assumption) (by assumption) (by assumption))|exact (hU _ _ _ _ (by assumption) (by assumption) (by assumption) (by assumption))|exact (hD _ _ _ (by assumption) (by assumption) (by assumption)).short|exact (hD _ _ _ (by assumption) (by assumption) (by assumption)).tab|exact zaR (hD _ _ _ (by assumption) (by assumption) (by assumption)).tab|exact (hU _ _ _ _ (by assumption) (by assumption) (by assumption) (by assumption)).u (by assumption)|exact fun _=>(hU _ _ _ _ (by assumption) (by assumption) (by assumption) (by assumption)).lu (by assumption)|exact (hU _ _ _ _ (by assumption) (by assumption) (by assumption) (by assumption)).ul (by assumption)|exact (fun _ p hp=>absurd hp (by simp))|omega|(simp;done)) (by first|assumption|rfl|exact (hD _ _ _ (by assumption) (by assumption) (by assumption))|exact (hU _ _ _ _ (by assumption) (by assumption) (by assumption) (by assumption))|exact (hD _ _ _ (by assumption) (by assumption) (by assumption)).short|exact (hD _ _ _ (by assumption) (by assumption) (by assumption)).tab|exact zaR (hD _ _ _ (by assumption) (by assumption) (by assumption)).tab|exact (hU _ _ _ _ (by assumption) (by assumption) (by assumption) (by assumption)).u (by assumption)|exact fun _=>(hU _ _ _ _ (by assumption) (by assumption) (by assumption) (by assumption)).lu (by assumption)|exact (hU _ _ _ _ (by assumption) (by assumption) (by assumption) (by assumption)).ul (by assumption)|exact (fun _ p hp=>absurd hp (by simp))|omega|(simp;done)))])] 0 [(4,AV.sl (List.map Tb.cells r2)),(6,iv (idxF (fun t=>zan t w3) r2 0)),(12,AV.p 4 0),(13,AV.p 5 0),(14,iv (twC r2 (acD w3 e5)).snd),(15,AV.p 6 0),(16,iv 0),(55,AV.sl [[iv 3,sv w3,AV.sl [],AV.sl [],AV.sl [],AV.sl [[iv e5.kind,iv e5.op,bv e5.not,iv e5.val.kind,iv e5.val.int,sv e5.val.text,sv e5.table,sv e5.name,AV.sl (zac e5.args),AV.sl (zag e5.sub)]],sv (ByteArray.mk #[])],[iv 2,sv w3,AV.sl [],AV.sl [],AV.sl [[sv sN,iv (xNum a6).kind,iv (xNum a6).op,bv (xNum a6).not,iv (xNum a6).val.kind,iv (xNum a6).val.int,sv (xNum a6).val.text,sv (xNum a6).table,sv (xNum a6).name,AV.sl (zac (xNum a6).args),AV.sl (zag (xNum a6).sub)]],AV.sl [[iv e5.kind,iv e5.op,bv e5.not,iv e5.val.kind,iv e5.val.int,sv e5.val.text,sv e5.table,sv e5.name,AV.sl (zac e5.args),AV.sl (zag e5.sub)]],sv (ByteArray.mk #[])]]),(56,iv (↑[[iv 3,sv w3,AV.sl [],AV.sl [],AV.sl [],AV.sl [[iv e5.kind,iv e5.op,bv e5.not,iv e5.val.kind,iv e5.val.int,sv e5.val.text,sv e5.table,sv e5.name,AV.sl (zac e5.args),AV.sl (zag e5.sub)]],sv (ByteArray.mk #[])],[iv 2,sv w3,AV.sl [],AV.sl [],AV.sl [[sv sN,iv (xNum a6).kind,iv (xNum a6).op,bv (xNum a6).not,iv (xNum a6).val.kind,iv (xNum a6).val.int,sv (xNum a6).val.text,sv (xNum a6).table,sv (xNum a6).name,AV.sl (zac (xNum a6).args),AV.sl (zag (xNum a6).sub)]],AV.sl [[iv e5.kind,iv e5.op,bv e5.not,iv e5.val.kind,iv e5.val.int,sv e5.val.text,sv e5.table,sv e5.name,AV.sl (zac e5.args),AV.sl (zag e5.sub)]],sv (ByteArray.mk #[])]].length:Int)),(57,iv (↑0:Int)),(58,AV.bl true),(59,AV.dp [iv 3,sv w3,AV.sl [],AV.sl [],AV.sl [],AV.sl [[iv e5.kind,iv e5.op,bv e5.not,iv e5.val.kind,iv e5.val.int,sv e5.val.text,sv e5.table,sv e5.name,AV.sl (zac e5.args),AV.sl (zag e5.sub)]],sv (ByteArray.mk #[])]),(60,AV.agg [iv 3,sv w3,AV.sl [],AV.sl [],AV.sl [],AV.sl [[iv e5.kind,iv e5.op,bv e5.not,iv e5.val.kind,iv e5.val.int,sv e5.val.text,sv e5.table,sv e5.name,AV.sl (zac e5.args),AV.sl (zag e5.sub)]],sv (ByteArray.mk #[])]),(61,AV.tup [AV.agg [AV.sl (List.map vrow (twC r2 (acD w3 e5)).fst.ins),AV.sl (List.map (fun n=>[iv n]) (twC r2 (acD w3 e5)).fst.del),AV.sl (List.map Pr.cells (twC r2 (acD w3 e5)).fst.upd)],iv (twC r2 (acD w3 e5)).snd]),(62,AV.agg [iv 3,sv w3,AV.sl [],AV.sl [],AV.sl [],AV.sl [[iv e5.kind,iv e5.op,bv e5.not,iv e5.val.kind,iv e5.val.int,sv e5.val.text,sv e5.table,sv e5.name,AV.sl (zac e5.args),AV.sl (zag e5.sub)]],sv (ByteArray.mk #[])]),(63,AV.sl (List.map Tb.cells r2)),(64,AV.tup [AV.agg [AV.sl (List.map vrow (twC r2 (acD w3 e5)).fst.ins),AV.sl (List.map (fun n=>[iv n]) (twC r2 (acD w3 e5)).fst.del),AV.sl (List.map Pr.cells (twC r2 (acD w3 e5)).fst.upd)],iv (twC r2 (acD w3 e5)).snd]),(65,AV.agg [AV.sl (List.map vrow (twC r2 (acD w3 e5)).fst.ins),AV.sl (List.map (fun n=>[iv n]) (twC r2 (acD w3 e5)).fst.del),AV.sl (List.map Pr.cells (twC r2 (acD w3 e5)).fst.upd)]),(66,iv (twC r2 (acD w3 e5)).snd),(67,iv (twC r2 (acD w3 e5)).snd),(68,AV.bl false),(70,AV.tup [AV.agg [sv (apT (tabC r2 w3) (twC r2 (acD w3 e5)).fst).sch.name,AV.sl (List.map Col.cells (apT (tabC r2 w3) (twC r2 (acD w3 e5)).fst).sch.cols),iv (apT (tabC r2 w3) (twC r2 (acD w3 e5)).fst).next,AV.sl (List.map Rw.cells (apT (tabC r2 w3) (twC r2 (acD w3 e5)).fst).rows)],iv 0]),(71,AV.sl (List.map Tb.cells r2)),(72,iv (idxF (fun t=>zan t w3) r2 0)),(73,AV.dp [sv (tabC r2 w3).sch.name,AV.sl (List.map Col.cells (tabC r2 w3).sch.cols),iv (tabC r2 w3).next,AV.sl (List.map Rw.cells (tabC r2 w3).rows)]),(74,AV.agg [sv (tabC r2 w3).sch.name,AV.sl (List.map Col.cells (tabC r2 w3).sch.cols),iv (tabC r2 w3).next,AV.sl (List.map Rw.cells (tabC r2 w3).rows)]),(75,AV.agg [AV.sl (List.map vrow (twC r2 (acD w3 e5)).fst.ins),AV.sl (List.map (fun n=>[iv n]) (twC r2 (acD w3 e5)).fst.del),AV.sl (List.map Pr.cells (twC r2 (acD w3 e5)).fst.upd)]),(76,AV.tup [AV.agg [sv (apT (tabC r2 w3) (twC r2 (acD w3 e5)).fst).sch.name,AV.sl (List.map Col.cells (apT (tabC r2 w3) (twC r2 (acD w3 e5)).fst).sch.cols),iv (apT (tabC r2 w3) (twC r2 (acD w3 e5)).fst).next,AV.sl (List.map Rw.cells (apT (tabC r2 w3) (twC r2 (acD w3 e5)).fst).rows)],iv 0]),(77,AV.agg [sv (apT (tabC r2 w3) (twC r2 (acD w3 e5)).fst).sch.name,AV.sl (List.map Col.cells (apT (tabC r2 w3) (twC r2 (acD w3 e5)).fst).sch.cols),iv (apT (tabC r2 w3) (twC r2 (acD w3 e5)).fst).next,AV.sl (List.map Rw.cells (apT (tabC r2 w3) (twC r2 (acD w3 e5)).fst).rows)]),(78,iv 0)] [Blk.box t6.cells,Blk.box [AV.sl [[sv w3,bv false,AV.sl (List.map Col.cells (zaO w3).cols),AV.sl []]],AV.nl],Blk.box [iv 3,sv w3,AV.nl,AV.nl,AV.nl,AV.sl [[iv e5.kind,iv e5.op,bv e5.not,iv e5.val.kind,iv e5.val.int,sv e5.val.text,sv e5.table,sv e5.name,AV.sl (zac e5.args),AV.sl (zag e5.sub)]],sv (ByteArray.mk #[])],Blk.box [iv 2,sv w3,AV.nl,AV.nl,AV.sl [[sv sN,iv (xNum a6).kind,iv (xNum a6).op,bv (xNum a6).not,iv (xNum a6).val.kind,iv (xNum a6).val.int,sv (xNum a6).val.text,sv (xNum a6).table,sv (xNum a6).name,AV.sl (zac (xNum a6).args),AV.sl (zag (xNum a6).sub)]],AV.sl [[iv e5.kind,iv e5.op,bv e5.not,iv e5.val.kind,iv e5.val.int,sv e5.val.text,sv e5.table,sv e5.name,AV.sl (zac e5.args),AV.sl (zag e5.sub)]],sv (ByteArray.mk #[])],Blk.box [iv 3,sv w3,AV.sl [],AV.sl [],AV.sl [],AV.sl [[iv e5.kind,iv e5.op,bv e5.not,iv e5.val.kind,iv e5.val.int,sv e5.val.text,sv e5.table,sv e5.name,AV.sl (zac e5.args),AV.sl (zag e5.sub)]],sv (ByteArray.mk #[])],Blk.box [AV.sl (List.map vrow (twC r2 (acD w3 e5)).fst.ins),AV.sl (List.map (fun n=>[iv n]) (twC r2 (acD w3 e5)).fst.del),AV.sl (List.map Pr.cells (twC r2 (acD w3 e5)).fst.upd)],Blk.box [sv (apT (tabC r2 w3) (twC r2 (acD w3 e5)).fst).sch.name,AV.sl (List.map Col.cells (apT (tabC r2 w3) (twC r2 (acD w3 e5)).fst).sch.cols),iv (apT (tabC r2 w3) (twC r2 (acD w3 e5)).fst).next,AV.sl (List.map Rw.cells (apT (tabC r2 w3) (twC r2 (acD w3 e5)).fst).rows)]],sb (rfl:false=false),sc (zek r2 (by first|assumption|rfl|exact (hD _ _ _ (by assumption) (by assumption) (by assumption))|exact (hU _ _ _ _ (by assumption) (by assumption) (by assumption) (by assumption))|exact (hD _ _ _ (by assumption) (by assumption) (by assumption)).short|exact (hD _ _ _ (by assumption) (by assumption) (by assumption)).tab|exact zaR (hD _ _ _ (by assumption) (by assumption) (by assumption)).tab|exact (hU _ _ _ _ (by assumption) (by assumption) (by assumption) (by assumption)).u (by assumption)|exact fun _=>(hU _ _ _ _ (by assumption) (by assumption) (by assumption) (by assumption)).lu (by assumption)|exact (hU _ _ _ _ (by assumption) (by assumption) (by assumption) (by assumption)).ul (by assumption)|exact (fun _ p hp=>absurd hp (by simp))|omega|(simp;done))),sqx (OwnAt (List.map Tb.cells r2) r2.length (idxF (fun t=>zan t w3) r2 0)),sx (.el x9.cells) (And.intro (owed (p:=True∧True∧True∧True∧True)) (zgl Tb.cells (n:=r2.length) (by simp) e9)),skx ((True∧True∧True∧True∧True∧True∧True∧True)∧True∧r2.length=((List.map Tb.cells r2).set (idxF (fun t=>zan t w3) r2 0).toNat [sv (apT (tabC r2 w3) (twC r2 (acD w3 e5)).fst).sch.name,AV.sl (List.map Col.cells (apT (tabC r2 w3) (twC r2 (acD w3 e5)).fst).sch.cols),iv (apT (tabC r2 w3) (twC r2 (acD w3 e5)).fst).next,AV.sl (List.map Rw.cells (apT (tabC r2 w3) (twC r2 (acD w3 e5)).fst).rows)]).length∧True) [] (conv (args:=[AV.agg [iv 3,sv w3,AV.sl [],AV.sl [],AV.sl [],AV.sl [[iv e5.kind,iv e5.op,bv e5.not,iv e5.val.kind,iv e5.val.int,sv e5.val.text,sv e5.table,sv e5.name,AV.sl (zac e5.args),AV.sl (zag e5.sub)]],sv (ByteArray.mk #[])],AV.sl [],AV.sl ((List.map Tb.cells r2).set (idxF (fun t=>zan t w3) r2 0).toNat [sv (apT (tabC r2 w3) (twC r2 (acD w3 e5)).fst).sch.name,AV.sl (List.map Col.cells (apT (tabC r2 w3) (twC r2 (acD w3 e5)).fst).sch.cols),iv (apT (tabC r2 w3) (twC r2 (acD w3 e5)).fst).next,AV.sl (List.map Rw.cells (apT (tabC r2 w3) (twC r2 (acD w3 e5)).fst).rows)])]) (hl:=[]) (zgZ r2 w3 e5 (by first|assumption|rfl|exact (hD _ _ _ (by assumption) (by assumption) (by assumption))|exact (hU _ _ _ _ (by assumption) (by assumption) (by assumption) (by assumption))|exact (hD _ _ _ (by assumption) (by assumption) (by assumption)).short|exact (hD _ _ _ (by assumption) (by assumption) (by assumption)).tab|exact zaR (hD _ _ _ (by assumption) (by assumption) (by assumption)).tab|exact (hU _ _ _ _ (by assumption) (by assumption) (by assumption) (by assumption)).u (by assumption)|exact fun _=>(hU _ _ _ _ (by assumption) (by assumption) (by assumption) (by assumption)).lu (by assumption)|exact (hU _ _ _ _ (by assumption) (by assumption) (by assumption) (by assumption)).ul (by assumption)|exact (fun _ p hp=>absurd hp (by simp))|omega|(simp;done)) (by first|assumption|rfl|exact (hD _ _ _ (by assumption) (by assumption) (by assumption))|exact (hU _ _ _ _ (by assumption) (by assumption) (by assumption) (by assumption))|exact (hD _ _ _ (by assumption) (by assumption) (by assumption)).short|exact (hD _ _ _ (by assumption) (by assumption) (by assumption)).tab|exact zaR (hD _ _ _ (by assumption) (by assumption) (by assumption)).tab|exact (hU _ _ _ _ (by assumption) (by assumption) (by assumption) (by assumption)).u (by assumption)|exact fun _=>(hU _ _ _ _ (by assumption) (by assumption) (by assumption) (by assumption)).lu (by assumption)|exact (hU _ _ _ _ (by assumption) (by assumption) (by assumption) (by assumption)).ul (by assumption)|exact (fun _ p hp=>absurd hp (by simp))|omega|(simp;done))) (by first|rfl|(simp [Ac.cells,Se.cells,Tb.cells];done)|(simp [Ac.cells,Se.cells];first|rfl|exact ⟨rfl,rfl⟩|exact ⟨rfl,rfl,rfl⟩|exact ⟨⟨rfl,rfl⟩,rfl⟩)) (by first|rfl|(simp [Ac.cells,Se.cells,Tb.cells];done)|(simp [Ac.cells,Se.cells];first|rfl|exact ⟨rfl,rfl⟩|exact ⟨rfl,rfl,rfl⟩|exact ⟨⟨rfl,rfl⟩,rfl⟩))),sd [(4,[sg (rfl:true=true)]),(5,[sg (rfl:true=true)]),(6,[sg (rfl:true=true)]),(7,[sg (rfl:false=false)]),(8,[sg (rfl:false=false)]),(9,[sg (rfl:false=false)]),(10,[sg (rfl:false=false)]),(11,[sg (rfl:true=true)]),(12,[sg (rfl:true=true)]),(13,[sg (rfl:false=false)]),(14,[sg (rfl:false=false)]),(15,[sg (rfl:false=false)]),(16,[sg (rfl:false=false)]),(17,[sg (rfl:false=false)]),(18,[so (rfl:false=false) (se (zhk r2 w3 (by first|assumption|rfl|exact (hD _ _ _ (by assumption) (by assumption) (by assumption))|exact (hU _ _ _ _ (by assumption) (by assumption) (by assumption) (by assumption))|exact (hD _ _ _ (by assumption) (by assumption) (by assumption)).short|exact (hD _ _ _ (by assumption) (by assumption) (by assumption)).tab|exact zaR (hD _ _ _ (by assumption) (by assumption) (by assumption)).tab|exact (hU _ _ _ _ (by assumption) (by assumption) (by assumption) (by assumption)).u (by assumption)|exact fun _=>(hU _ _ _ _ (by assumption) (by assumption) (by assumption) (by assumption)).lu (by assumption)|exact (hU _ _ _ _ (by assumption) (by assumption) (by assumption) (by assumption)).ul (by assumption)|exact (fun _ p hp=>absurd hp (by simp))|omega|(simp;done))))]),(19,[sg (rfl:false=false)]),(20,[sg (rfl:false=false)]),(21,[sg (rfl:false=false)]),(22,[sg (rfl:false=false)]),(23,[sg (rfl:false=false)]),(24,[sg (rfl:false=false)]),(25,[so (rfl:false=false) (si (e:=IntKind.i64.wrap ((↑(List.map Rw.cells (tabC r2 w3).rows).length:Int) - (↑(List.map (fun n=>[iv n]) (twC r2 (acD w3 e5)).fst.del).length:Int))) rfl)]),(26,[sg (rfl:false=false)]),(27,[sg (rfl:true=true)])]]
  cases h10:bif 3==3 then bif bif 0 != 0 then true else decide (0 < (↑[].length:Int)) then true else (↑(List.map Rw.cells (apT (tabC r2 w3) (twC r2 (acD w3 e5)).fst).rows).length:Int) != IntKind.i64.wrap ((↑(List.map Rw.cells (tabC r2 w3).rows).length:Int) - (↑(List.map (fun n=>[iv n]) (twC r2 (acD w3 e5)).fst.del).length:Int)) else false
  ·obtain ⟨q11,q11_1,g11⟩:=zcR r2 w3 e5 (xNum a6) t6 0 (Ac.mk 3 w3 [] [] [] [e5] (ByteArray.mk #[])) ((twC r2 (acD w3 e5)).fst) (Ch.mk [] [] []) (apT (tabC r2 w3) (twC r2 (acD w3 e5)).fst) (r2.set (idxF (fun t=>zan t w3) r2 0).toNat (apT (tabC r2 w3) (twC r2 (acD w3 e5)).fst)) true 0 (by first|assumption|rfl|exact (hD _ _ _ (by assumption) (by assumption) (by assumption))|exact (hU _ _ _ _ (by assumption) (by assumption) (by assumption) (by assumption))|exact (hD _ _ _ (by assumption) (by assumption) (by assumption)).short|exact (hD _ _ _ (by assumption) (by assumption) (by assumption)).tab|exact zaR (hD _ _ _ (by assumption) (by assumption) (by assumption)).tab|exact (hU _ _ _ _ (by assumption) (by assumption) (by assumption) (by assumption)).u (by assumption)|exact fun _=>(hU _ _ _ _ (by assumption) (by assumption) (by assumption) (by assumption)).lu (by assumption)|exact (hU _ _ _ _ (by assumption) (by assumption) (by assumption) (by assumption)).ul (by assumption)|exact (fun _ p hp=>absurd hp (by simp))|omega|(simp;done)) (by first|assumption|rfl|exact (hD _ _ _ (by assumption) (by assumption) (by assumption))|exact (hU _ _ _ _ (by assumption) (by assumption) (by assumption) (by assumption))|exact (hD _ _ _ (by assumption) (by assumption) (by assumption)).short|exact (hD _ _ _ (by assumption) (by assumption) (by assumption)).tab|exact zaR (hD _ _ _ (by assumption) (by assumption) (by assumption)).tab|exact (hU _ _ _ _ (by assumption) (by assumption) (by assumption) (by assumption)).u (by assumption)|exact fun _=>(hU _ _ _ _ (by assumption) (by assumption) (by assumption) (by assumption)).lu (by assumption)|exact (hU _ _ _ _ (by assumption) (by assumption) (by assumption) (by assumption)).ul (by assumption)|exact (fun _ p hp=>absurd hp (by simp))|omega|(simp;done)) (by first|assumption|rfl|exact (hD _ _ _ (by assumption) (by assumption) (by assumption))|exact (hU _ _ _ _ (by assumption) (by assumption) (by assumption) (by assumption))|exact (hD _ _ _ (by assumption) (by assumption) (by assumption)).short|exact (hD _ _ _ (by assumption) (by assumption) (by assumption)).tab|exact zaR (hD _ _ _ (by assumption) (by assumption) (by assumption)).tab|exact (hU _ _ _ _ (by assumption) (by assumption) (by assumption) (by assumption)).u (by assumption)|exact fun _=>(hU _ _ _ _ (by assumption) (by assumption) (by assumption) (by assumption)).lu (by assumption)|exact (hU _ _ _ _ (by assumption) (by assumption) (by assumption) (by assumption)).ul (by assumption)|exact (fun _ p hp=>absurd hp (by simp))|omega|(simp;done)) 0 (by first|assumption|rfl|exact (hD _ _ _ (by assumption) (by assumption) (by assumption))|exact (hU _ _ _ _ (by assumption) (by assumption) (by assumption) (by assumption))|exact (hD _ _ _ (by assumption) (by assumption) (by assumption)).short|exact (hD _ _ _ (by assumption) (by assumption) (by assumption)).tab|exact zaR (hD _ _ _ (by assumption) (by assumption) (by assumption)).tab|exact (hU _ _ _ _ (by assumption) (by assumption) (by assumption) (by assumption)).u (by assumption)|exact fun _=>(hU _ _ _ _ (by assumption) (by assumption) (by assumption) (by assumption)).lu (by assumption)|exact (hU _ _ _ _ (by assumption) (by assumption) (by assumption) (by assumption)).ul (by assumption)|exact (fun _ p hp=>absurd hp (by simp))|omega|(simp;done)) (by first|assumption|rfl|exact (hD _ _ _ (by assumption) (by assumption) (by assumption))|exact (hU _ _ _ _ (by assumption) (by assumption) (by assumption) (by assumption))|exact (hD _ _ _ (by assumption) (by assumption) (by assumption)).short|exact (hD _ _ _ (by assumption) (by assumption) (by assumption)).tab|exact zaR (hD _ _ _ (by assumption) (by assumption) (by assumption)).tab|exact (hU _ _ _ _ (by assumption) (by assumption) (by assumption) (by assumption)).u (by assumption)|exact fun _=>(hU _ _ _ _ (by assumption) (by assumption) (by assumption) (by assumption)).lu (by assumption)|exact (hU _ _ _ _ (by assumption) (by assumption) (by assumption) (by assumption)).ul (by assumption)|exact (fun _ p hp=>absurd hp (by simp))|omega|(simp;done))
   obtain ⟨q12,g12⟩:=zcf r2 w3 e5 (xNum a6) t6 (0+1)
   cases h13:(twC r2 (acU w3 sN (xNum a6) e5)).snd != 0
   ·obtain ⟨q14,q14_1,g14⟩:=zcR r2 w3 e5 (xNum a6) t6 (0+1) (Ac.mk 2 w3 [] [] [Se.mk sN (xNum a6)] [e5] (ByteArray.mk #[])) ((twC r2 (acU w3 sN (xNum a6) e5)).fst) ((twD r2 w3 (acU w3 sN (xNum a6) e5)).fst) (apT (tabC r2 w3) (twC r2 (acU w3 sN (xNum a6) e5)).fst) (r2.set (idxF (fun t=>zan t w3) r2 0).toNat (apT (tabC r2 w3) (twC r2 (acU w3 sN (xNum a6) e5)).fst)) true ((twD r2 w3 (acU w3 sN (xNum a6) e5)).snd) (by first|assumption|rfl|exact (hD _ _ _ (by assumption) (by assumption) (by assumption))|exact (hU _ _ _ _ (by assumption) (by assumption) (by assumption) (by assumption))|exact (hD _ _ _ (by assumption) (by assumption) (by assumption)).short|exact (hD _ _ _ (by assumption) (by assumption) (by assumption)).tab|exact zaR (hD _ _ _ (by assumption) (by assumption) (by assumption)).tab|exact (hU _ _ _ _ (by assumption) (by assumption) (by assumption) (by assumption)).u (by assumption)|exact fun _=>(hU _ _ _ _ (by assumption) (by assumption) (by assumption) (by assumption)).lu (by assumption)|exact (hU _ _ _ _ (by assumption) (by assumption) (by assumption) (by assumption)).ul (by assumption)|exact (fun _ p hp=>absurd hp (by simp))|omega|(simp;done)) (by first|assumption|rfl|exact (hD _ _ _ (by assumption) (by assumption) (by assumption))|exact (hU _ _ _ _ (by assumption) (by assumption) (by assumption) (by assumption))|exact (hD _ _ _ (by assumption) (by assumption) (by assumption)).short|exact (hD _ _ _ (by assumption) (by assumption) (by assumption)).tab|exact zaR (hD _ _ _ (by assumption) (by assumption) (by assumption)).tab|exact (hU _ _ _ _ (by assumption) (by assumption) (by assumption) (by assumption)).u (by assumption)|exact fun _=>(hU _ _ _ _ (by assumption) (by assumption) (by assumption) (by assumption)).lu (by assumption)|exact (hU _ _ _ _ (by assumption) (by assumption) (by assumption) (by assumption)).ul (by assumption)|exact (fun _ p hp=>absurd hp (by simp))|omega|(simp;done)) (by first|assumption|rfl|exact (hD _ _ _ (by assumption) (by assumption) (by assumption))|exact (hU _ _ _ _ (by assumption) (by assumption) (by assumption) (by assumption))|exact (hD _ _ _ (by assumption) (by assumption) (by assumption)).short|exact (hD _ _ _ (by assumption) (by assumption) (by assumption)).tab|exact zaR (hD _ _ _ (by assumption) (by assumption) (by assumption)).tab|exact (hU _ _ _ _ (by assumption) (by assumption) (by assumption) (by assumption)).u (by assumption)|exact fun _=>(hU _ _ _ _ (by assumption) (by assumption) (by assumption) (by assumption)).lu (by assumption)|exact (hU _ _ _ _ (by assumption) (by assumption) (by assumption) (by assumption)).ul (by assumption)|exact (fun _ p hp=>absurd hp (by simp))|omega|(simp;done)) 0 (by first|assumption|rfl|exact (hD _ _ _ (by assumption) (by assumption) (by assumption))|exact (hU _ _ _ _ (by assumption) (by assumption) (by assumption) (by assumption))|exact (hD _ _ _ (by assumption) (by assumption) (by assumption)).short|exact (hD _ _ _ (by assumption) (by assumption) (by assumption)).tab|exact zaR (hD _ _ _ (by assumption) (by assumption) (by assumption)).tab|exact (hU _ _ _ _ (by assumption) (by assumption) (by assumption) (by assumption)).u (by assumption)|exact fun _=>(hU _ _ _ _ (by assumption) (by assumption) (by assumption) (by assumption)).lu (by assumption)|exact (hU _ _ _ _ (by assumption) (by assumption) (by assumption) (by assumption)).ul (by assumption)|exact (fun _ p hp=>absurd hp (by simp))|omega|(simp;done)) (by first|assumption|rfl|exact (hD _ _ _ (by assumption) (by assumption) (by assumption))|exact (hU _ _ _ _ (by assumption) (by assumption) (by assumption) (by assumption))|exact (hD _ _ _ (by assumption) (by assumption) (by assumption)).short|exact (hD _ _ _ (by assumption) (by assumption) (by assumption)).tab|exact zaR (hD _ _ _ (by assumption) (by assumption) (by assumption)).tab|exact (hU _ _ _ _ (by assumption) (by assumption) (by assumption) (by assumption)).u (by assumption)|exact fun _=>(hU _ _ _ _ (by assumption) (by assumption) (by assumption) (by assumption)).lu (by assumption)|exact (hU _ _ _ _ (by assumption) (by assumption) (by assumption) (by assumption)).ul (by assumption)|exact (fun _ p hp=>absurd hp (by simp))|omega|(simp;done))
    obtain ⟨q15,g15⟩:=zcf r2 w3 e5 (xNum a6) t6 (0+1+1)
    exact ⟨true,(by first|rfl|exact (zkT (hD _ _ _ (by assumption) (by assumption) (by assumption)) (by assumption) (by assumption)).elim),wkc At.law16_DmlTwice p_1 [4,6,55,56,57] 4 kr (g7 _ (zaa (wkl (p_5++[sb h10]) [4,6,19,55,56,57,123,124,125] 9 kr (zay rfl (show ([Blk.box [AV.sl (List.map (fun n=>[iv n]) t6.l),iv (t6.pos:Int)],Blk.box [AV.sl [[sv w3,bv false,AV.sl (List.map Col.cells (zaO w3).cols),AV.sl []]],AV.nl],Blk.box [iv 3,sv w3,AV.nl,AV.nl,AV.nl,AV.sl [[iv e5.kind,iv e5.op,bv e5.not,iv e5.val.kind,iv e5.val.int,sv e5.val.text,sv e5.table,sv e5.name,AV.sl (zac e5.args),AV.sl (zag e5.sub)]],sv (ByteArray.mk #[])],Blk.box [iv 2,sv w3,AV.nl,AV.nl,AV.sl [[sv sN,iv (xNum a6).kind,iv (xNum a6).op,bv (xNum a6).not,iv (xNum a6).val.kind,iv (xNum a6).val.int,sv (xNum a6).val.text,sv (xNum a6).table,sv (xNum a6).name,AV.sl (zac (xNum a6).args),AV.sl (zag (xNum a6).sub)]],AV.sl [[iv e5.kind,iv e5.op,bv e5.not,iv e5.val.kind,iv e5.val.int,sv e5.val.text,sv e5.table,sv e5.name,AV.sl (zac e5.args),AV.sl (zag e5.sub)]],sv (ByteArray.mk #[])],Blk.box [iv 3,sv w3,AV.sl [],AV.sl [],AV.sl [],AV.sl [[iv e5.kind,iv e5.op,bv e5.not,iv e5.val.kind,iv e5.val.int,sv e5.val.text,sv e5.table,sv e5.name,AV.sl (zac e5.args),AV.sl (zag e5.sub)]],sv (ByteArray.mk #[])],Blk.box [AV.sl (List.map vrow (twC r2 (acD w3 e5)).fst.ins),AV.sl (List.map (fun n=>[iv n]) (twC r2 (acD w3 e5)).fst.del),AV.sl (List.map Pr.cells (twC r2 (acD w3 e5)).fst.upd)],Blk.box [sv (apT (tabC r2 w3) (twC r2 (acD w3 e5)).fst).sch.name,AV.sl (List.map Col.cells (apT (tabC r2 w3) (twC r2 (acD w3 e5)).fst).sch.cols),iv (apT (tabC r2 w3) (twC r2 (acD w3 e5)).fst).next,AV.sl (List.map Rw.cells (apT (tabC r2 w3) (twC r2 (acD w3 e5)).fst).rows)],Blk.row Ty.Table ((List.map Tb.cells r2).set (idxF (fun t=>zan t w3) r2 0).toNat [sv (apT (tabC r2 w3) (twC r2 (acD w3 e5)).fst).sch.name,AV.sl (List.map Col.cells (apT (tabC r2 w3) (twC r2 (acD w3 e5)).fst).sch.cols),iv (apT (tabC r2 w3) (twC r2 (acD w3 e5)).fst).next,AV.sl (List.map Rw.cells (apT (tabC r2 w3) (twC r2 (acD w3 e5)).fst).rows)]) true,Blk.box [AV.sl [],AV.sl [],AV.sl []]]:Heap)=_ by first|rfl|(simp;done)|(simp [X.cells,Qy.cells,V.cells,Col.cells,Rw.cells,Tb.cells,Fr.cells,Sch.cells,Tp.cells,Pl.cells,xCol,xLit,xBin,xNeg,Ac.cells,Se.cells,Pr.cells,Ch.cells,Rw.cells];done)) (g11 _ (zaa (wkl p_3 [4,6,55,56,57] 4 kr (g12 _ (zaa (wkl (p_4++[sb h13,sdm [(2,[se (zhk r2 w3 (by first|assumption|rfl|exact (hD _ _ _ (by assumption) (by assumption) (by assumption))|exact (hU _ _ _ _ (by assumption) (by assumption) (by assumption) (by assumption))|exact (hD _ _ _ (by assumption) (by assumption) (by assumption)).short|exact (hD _ _ _ (by assumption) (by assumption) (by assumption)).tab|exact zaR (hD _ _ _ (by assumption) (by assumption) (by assumption)).tab|exact (hU _ _ _ _ (by assumption) (by assumption) (by assumption) (by assumption)).u (by assumption)|exact fun _=>(hU _ _ _ _ (by assumption) (by assumption) (by assumption) (by assumption)).lu (by assumption)|exact (hU _ _ _ _ (by assumption) (by assumption) (by assumption) (by assumption)).ul (by assumption)|exact (fun _ p hp=>absurd hp (by simp))|omega|(simp;done)))]),(5,[sc (zj0 r2 w3 (xNum a6) e5 (by first|assumption|rfl|exact (hD _ _ _ (by assumption) (by assumption) (by assumption))|exact (hU _ _ _ _ (by assumption) (by assumption) (by assumption) (by assumption))|exact (hD _ _ _ (by assumption) (by assumption) (by assumption)).short|exact (hD _ _ _ (by assumption) (by assumption) (by assumption)).tab|exact zaR (hD _ _ _ (by assumption) (by assumption) (by assumption)).tab|exact (hU _ _ _ _ (by assumption) (by assumption) (by assumption) (by assumption)).u (by assumption)|exact fun _=>(hU _ _ _ _ (by assumption) (by assumption) (by assumption) (by assumption)).lu (by assumption)|exact (hU _ _ _ _ (by assumption) (by assumption) (by assumption) (by assumption)).ul (by assumption)|exact (fun _ p hp=>absurd hp (by simp))|omega|(simp;done)) (by first|assumption|rfl|exact (hD _ _ _ (by assumption) (by assumption) (by assumption))|exact (hU _ _ _ _ (by assumption) (by assumption) (by assumption) (by assumption))|exact (hD _ _ _ (by assumption) (by assumption) (by assumption)).short|exact (hD _ _ _ (by assumption) (by assumption) (by assumption)).tab|exact zaR (hD _ _ _ (by assumption) (by assumption) (by assumption)).tab|exact (hU _ _ _ _ (by assumption) (by assumption) (by assumption) (by assumption)).u (by assumption)|exact fun _=>(hU _ _ _ _ (by assumption) (by assumption) (by assumption) (by assumption)).lu (by assumption)|exact (hU _ _ _ _ (by assumption) (by assumption) (by assumption) (by assumption)).ul (by assumption)|exact (fun _ p hp=>absurd hp (by simp))|omega|(simp;done)))])] 0 [(4,AV.sl (List.map Tb.cells r2)),(6,iv (idxF (fun t=>zan t w3) r2 0)),(12,AV.p 4 0),(13,AV.p 5 0),(14,iv (twC r2 (acU w3 sN (xNum a6) e5)).snd),(15,AV.p 6 0),(16,iv 0),(55,AV.sl [[iv 3,sv w3,AV.sl [],AV.sl [],AV.sl [],AV.sl [[iv e5.kind,iv e5.op,bv e5.not,iv e5.val.kind,iv e5.val.int,sv e5.val.text,sv e5.table,sv e5.name,AV.sl (zac e5.args),AV.sl (zag e5.sub)]],sv (ByteArray.mk #[])],[iv 2,sv w3,AV.sl [],AV.sl [],AV.sl [[sv sN,iv (xNum a6).kind,iv (xNum a6).op,bv (xNum a6).not,iv (xNum a6).val.kind,iv (xNum a6).val.int,sv (xNum a6).val.text,sv (xNum a6).table,sv (xNum a6).name,AV.sl (zac (xNum a6).args),AV.sl (zag (xNum a6).sub)]],AV.sl [[iv e5.kind,iv e5.op,bv e5.not,iv e5.val.kind,iv e5.val.int,sv e5.val.text,sv e5.table,sv e5.name,AV.sl (zac e5.args),AV.sl (zag e5.sub)]],sv (ByteArray.mk #[])]]),(56,iv (↑[[iv 3,sv w3,AV.sl [],AV.sl [],AV.sl [],AV.sl [[iv e5.kind,iv e5.op,bv e5.not,iv e5.val.kind,iv e5.val.int,sv e5.val.text,sv e5.table,sv e5.name,AV.sl (zac e5.args),AV.sl (zag e5.sub)]],sv (ByteArray.mk #[])],[iv 2,sv w3,AV.sl [],AV.sl [],AV.sl [[sv sN,iv (xNum a6).kind,iv (xNum a6).op,bv (xNum a6).not,iv (xNum a6).val.kind,iv (xNum a6).val.int,sv (xNum a6).val.text,sv (xNum a6).table,sv (xNum a6).name,AV.sl (zac (xNum a6).args),AV.sl (zag (xNum a6).sub)]],AV.sl [[iv e5.kind,iv e5.op,bv e5.not,iv e5.val.kind,iv e5.val.int,sv e5.val.text,sv e5.table,sv e5.name,AV.sl (zac e5.args),AV.sl (zag e5.sub)]],sv (ByteArray.mk #[])]].length:Int)),(57,iv (↑(0+1):Int)),(58,AV.bl true),(59,AV.dp [iv 2,sv w3,AV.sl [],AV.sl [],AV.sl [[sv sN,iv (xNum a6).kind,iv (xNum a6).op,bv (xNum a6).not,iv (xNum a6).val.kind,iv (xNum a6).val.int,sv (xNum a6).val.text,sv (xNum a6).table,sv (xNum a6).name,AV.sl (zac (xNum a6).args),AV.sl (zag (xNum a6).sub)]],AV.sl [[iv e5.kind,iv e5.op,bv e5.not,iv e5.val.kind,iv e5.val.int,sv e5.val.text,sv e5.table,sv e5.name,AV.sl (zac e5.args),AV.sl (zag e5.sub)]],sv (ByteArray.mk #[])]),(60,AV.agg [iv 2,sv w3,AV.sl [],AV.sl [],AV.sl [[sv sN,iv (xNum a6).kind,iv (xNum a6).op,bv (xNum a6).not,iv (xNum a6).val.kind,iv (xNum a6).val.int,sv (xNum a6).val.text,sv (xNum a6).table,sv (xNum a6).name,AV.sl (zac (xNum a6).args),AV.sl (zag (xNum a6).sub)]],AV.sl [[iv e5.kind,iv e5.op,bv e5.not,iv e5.val.kind,iv e5.val.int,sv e5.val.text,sv e5.table,sv e5.name,AV.sl (zac e5.args),AV.sl (zag e5.sub)]],sv (ByteArray.mk #[])]),(61,AV.tup [AV.agg [AV.sl (List.map vrow (twC r2 (acU w3 sN (xNum a6) e5)).fst.ins),AV.sl (List.map (fun n=>[iv n]) (twC r2 (acU w3 sN (xNum a6) e5)).fst.del),AV.sl (List.map Pr.cells (twC r2 (acU w3 sN (xNum a6) e5)).fst.upd)],iv (twC r2 (acU w3 sN (xNum a6) e5)).snd]),(62,AV.agg [iv 2,sv w3,AV.sl [],AV.sl [],AV.sl [[sv sN,iv (xNum a6).kind,iv (xNum a6).op,bv (xNum a6).not,iv (xNum a6).val.kind,iv (xNum a6).val.int,sv (xNum a6).val.text,sv (xNum a6).table,sv (xNum a6).name,AV.sl (zac (xNum a6).args),AV.sl (zag (xNum a6).sub)]],AV.sl [[iv e5.kind,iv e5.op,bv e5.not,iv e5.val.kind,iv e5.val.int,sv e5.val.text,sv e5.table,sv e5.name,AV.sl (zac e5.args),AV.sl (zag e5.sub)]],sv (ByteArray.mk #[])]),(63,AV.sl (List.map Tb.cells r2)),(64,AV.tup [AV.agg [AV.sl (List.map vrow (twC r2 (acU w3 sN (xNum a6) e5)).fst.ins),AV.sl (List.map (fun n=>[iv n]) (twC r2 (acU w3 sN (xNum a6) e5)).fst.del),AV.sl (List.map Pr.cells (twC r2 (acU w3 sN (xNum a6) e5)).fst.upd)],iv (twC r2 (acU w3 sN (xNum a6) e5)).snd]),(65,AV.agg [AV.sl (List.map vrow (twC r2 (acU w3 sN (xNum a6) e5)).fst.ins),AV.sl (List.map (fun n=>[iv n]) (twC r2 (acU w3 sN (xNum a6) e5)).fst.del),AV.sl (List.map Pr.cells (twC r2 (acU w3 sN (xNum a6) e5)).fst.upd)]),(66,iv (twC r2 (acU w3 sN (xNum a6) e5)).snd),(67,iv (twC r2 (acU w3 sN (xNum a6) e5)).snd),(68,AV.bl false),(70,AV.tup [AV.agg [sv (apT (tabC r2 w3) (twC r2 (acU w3 sN (xNum a6) e5)).fst).sch.name,AV.sl (List.map Col.cells (apT (tabC r2 w3) (twC r2 (acU w3 sN (xNum a6) e5)).fst).sch.cols),iv (apT (tabC r2 w3) (twC r2 (acU w3 sN (xNum a6) e5)).fst).next,AV.sl (List.map Rw.cells (apT (tabC r2 w3) (twC r2 (acU w3 sN (xNum a6) e5)).fst).rows)],iv 0]),(71,AV.sl (List.map Tb.cells r2)),(72,iv (idxF (fun t=>zan t w3) r2 0)),(73,AV.dp [sv (tabC r2 w3).sch.name,AV.sl (List.map Col.cells (tabC r2 w3).sch.cols),iv (tabC r2 w3).next,AV.sl (List.map Rw.cells (tabC r2 w3).rows)]),(74,AV.agg [sv (tabC r2 w3).sch.name,AV.sl (List.map Col.cells (tabC r2 w3).sch.cols),iv (tabC r2 w3).next,AV.sl (List.map Rw.cells (tabC r2 w3).rows)]),(75,AV.agg [AV.sl (List.map vrow (twC r2 (acU w3 sN (xNum a6) e5)).fst.ins),AV.sl (List.map (fun n=>[iv n]) (twC r2 (acU w3 sN (xNum a6) e5)).fst.del),AV.sl (List.map Pr.cells (twC r2 (acU w3 sN (xNum a6) e5)).fst.upd)]),(76,AV.tup [AV.agg [sv (apT (tabC r2 w3) (twC r2 (acU w3 sN (xNum a6) e5)).fst).sch.name,AV.sl (List.map Col.cells (apT (tabC r2 w3) (twC r2 (acU w3 sN (xNum a6) e5)).fst).sch.cols),iv (apT (tabC r2 w3) (twC r2 (acU w3 sN (xNum a6) e5)).fst).next,AV.sl (List.map Rw.cells (apT (tabC r2 w3) (twC r2 (acU w3 sN (xNum a6) e5)).fst).rows)],iv 0]),(77,AV.agg [sv (apT (tabC r2 w3) (twC r2 (acU w3 sN (xNum a6) e5)).fst).sch.name,AV.sl (List.map Col.cells (apT (tabC r2 w3) (twC r2 (acU w3 sN (xNum a6) e5)).fst).sch.cols),iv (apT (tabC r2 w3) (twC r2 (acU w3 sN (xNum a6) e5)).fst).next,AV.sl (List.map Rw.cells (apT (tabC r2 w3) (twC r2 (acU w3 sN (xNum a6) e5)).fst).rows)]),(78,iv 0)] [Blk.box t6.cells,Blk.box [AV.sl [[sv w3,bv false,AV.sl (List.map Col.cells (zaO w3).cols),AV.sl []]],AV.nl],Blk.box [iv 3,sv w3,AV.nl,AV.nl,AV.nl,AV.sl [[iv e5.kind,iv e5.op,bv e5.not,iv e5.val.kind,iv e5.val.int,sv e5.val.text,sv e5.table,sv e5.name,AV.sl (zac e5.args),AV.sl (zag e5.sub)]],sv (ByteArray.mk #[])],Blk.box [iv 2,sv w3,AV.nl,AV.nl,AV.sl [[sv sN,iv (xNum a6).kind,iv (xNum a6).op,bv (xNum a6).not,iv (xNum a6).val.kind,iv (xNum a6).val.int,sv (xNum a6).val.text,sv (xNum a6).table,sv (xNum a6).name,AV.sl (zac (xNum a6).args),AV.sl (zag (xNum a6).sub)]],AV.sl [[iv e5.kind,iv e5.op,bv e5.not,iv e5.val.kind,iv e5.val.int,sv e5.val.text,sv e5.table,sv e5.name,AV.sl (zac e5.args),AV.sl (zag e5.sub)]],sv (ByteArray.mk #[])],Blk.box [iv 2,sv w3,AV.sl [],AV.sl [],AV.sl [[sv sN,iv (xNum a6).kind,iv (xNum a6).op,bv (xNum a6).not,iv (xNum a6).val.kind,iv (xNum a6).val.int,sv (xNum a6).val.text,sv (xNum a6).table,sv (xNum a6).name,AV.sl (zac (xNum a6).args),AV.sl (zag (xNum a6).sub)]],AV.sl [[iv e5.kind,iv e5.op,bv e5.not,iv e5.val.kind,iv e5.val.int,sv e5.val.text,sv e5.table,sv e5.name,AV.sl (zac e5.args),AV.sl (zag e5.sub)]],sv (ByteArray.mk #[])],Blk.box [AV.sl (List.map vrow (twC r2 (acU w3 sN (xNum a6) e5)).fst.ins),AV.sl (List.map (fun n=>[iv n]) (twC r2 (acU w3 sN (xNum a6) e5)).fst.del),AV.sl (List.map Pr.cells (twC r2 (acU w3 sN (xNum a6) e5)).fst.upd)],Blk.box [sv (apT (tabC r2 w3) (twC r2 (acU w3 sN (xNum a6) e5)).fst).sch.name,AV.sl (List.map Col.cells (apT (tabC r2 w3) (twC r2 (acU w3 sN (xNum a6) e5)).fst).sch.cols),iv (apT (tabC r2 w3) (twC r2 (acU w3 sN (xNum a6) e5)).fst).next,AV.sl (List.map Rw.cells (apT (tabC r2 w3) (twC r2 (acU w3 sN (xNum a6) e5)).fst).rows)]],sb (rfl:false=false),sc (zek r2 (by first|assumption|rfl|exact (hD _ _ _ (by assumption) (by assumption) (by assumption))|exact (hU _ _ _ _ (by assumption) (by assumption) (by assumption) (by assumption))|exact (hD _ _ _ (by assumption) (by assumption) (by assumption)).short|exact (hD _ _ _ (by assumption) (by assumption) (by assumption)).tab|exact zaR (hD _ _ _ (by assumption) (by assumption) (by assumption)).tab|exact (hU _ _ _ _ (by assumption) (by assumption) (by assumption) (by assumption)).u (by assumption)|exact fun _=>(hU _ _ _ _ (by assumption) (by assumption) (by assumption) (by assumption)).lu (by assumption)|exact (hU _ _ _ _ (by assumption) (by assumption) (by assumption) (by assumption)).ul (by assumption)|exact (fun _ p hp=>absurd hp (by simp))|omega|(simp;done))),sqx (OwnAt (List.map Tb.cells r2) r2.length (idxF (fun t=>zan t w3) r2 0)),sx (.el x9.cells) (And.intro (owed (p:=True∧True∧True∧True∧True)) (zgl Tb.cells (n:=r2.length) (by simp) e9)),skx ((True∧True∧True∧True∧True∧True∧True∧True)∧True∧r2.length=((List.map Tb.cells r2).set (idxF (fun t=>zan t w3) r2 0).toNat [sv (apT (tabC r2 w3) (twC r2 (acU w3 sN (xNum a6) e5)).fst).sch.name,AV.sl (List.map Col.cells (apT (tabC r2 w3) (twC r2 (acU w3 sN (xNum a6) e5)).fst).sch.cols),iv (apT (tabC r2 w3) (twC r2 (acU w3 sN (xNum a6) e5)).fst).next,AV.sl (List.map Rw.cells (apT (tabC r2 w3) (twC r2 (acU w3 sN (xNum a6) e5)).fst).rows)]).length∧True) [] (conv (args:=[AV.agg [iv 2,sv w3,AV.sl [],AV.sl [],AV.sl [[sv sN,iv (xNum a6).kind,iv (xNum a6).op,bv (xNum a6).not,iv (xNum a6).val.kind,iv (xNum a6).val.int,sv (xNum a6).val.text,sv (xNum a6).table,sv (xNum a6).name,AV.sl (zac (xNum a6).args),AV.sl (zag (xNum a6).sub)]],AV.sl [[iv e5.kind,iv e5.op,bv e5.not,iv e5.val.kind,iv e5.val.int,sv e5.val.text,sv e5.table,sv e5.name,AV.sl (zac e5.args),AV.sl (zag e5.sub)]],sv (ByteArray.mk #[])],AV.sl [],AV.sl ((List.map Tb.cells r2).set (idxF (fun t=>zan t w3) r2 0).toNat [sv (apT (tabC r2 w3) (twC r2 (acU w3 sN (xNum a6) e5)).fst).sch.name,AV.sl (List.map Col.cells (apT (tabC r2 w3) (twC r2 (acU w3 sN (xNum a6) e5)).fst).sch.cols),iv (apT (tabC r2 w3) (twC r2 (acU w3 sN (xNum a6) e5)).fst).next,AV.sl (List.map Rw.cells (apT (tabC r2 w3) (twC r2 (acU w3 sN (xNum a6) e5)).fst).rows)])]) (hl:=[]) (zhh r2 w3 (xNum a6) e5 (by first|assumption|rfl|exact (hD _ _ _ (by assumption) (by assumption) (by assumption))|exact (hU _ _ _ _ (by assumption) (by assumption) (by assumption) (by assumption))|exact (hD _ _ _ (by assumption) (by assumption) (by assumption)).short|exact (hD _ _ _ (by assumption) (by assumption) (by assumption)).tab|exact zaR (hD _ _ _ (by assumption) (by assumption) (by assumption)).tab|exact (hU _ _ _ _ (by assumption) (by assumption) (by assumption) (by assumption)).u (by assumption)|exact fun _=>(hU _ _ _ _ (by assumption) (by assumption) (by assumption) (by assumption)).lu (by assumption)|exact (hU _ _ _ _ (by assumption) (by assumption) (by assumption) (by assumption)).ul (by assumption)|exact (fun _ p hp=>absurd hp (by simp))|omega|(simp;done)) (by first|assumption|rfl|exact (hD _ _ _ (by assumption) (by assumption) (by assumption))|exact (hU _ _ _ _ (by assumption) (by assumption) (by assumption) (by assumption))|exact (hD _ _ _ (by assumption) (by assumption) (by assumption)).short|exact (hD _ _ _ (by assumption) (by assumption) (by assumption)).tab|exact zaR (hD _ _ _ (by assumption) (by assumption) (by assumption)).tab|exact (hU _ _ _ _ (by assumption) (by assumption) (by assumption) (by assumption)).u (by assumption)|exact fun _=>(hU _ _ _ _ (by assumption) (by assumption) (by assumption) (by assumption)).lu (by assumption)|exact (hU _ _ _ _ (by assumption) (by assumption) (by assumption) (by assumption)).ul (by assumption)|exact (fun _ p hp=>absurd hp (by simp))|omega|(simp;done))) (by first|rfl|(simp [Ac.cells,Se.cells,Tb.cells];done)|(simp [Ac.cells,Se.cells];first|rfl|exact ⟨rfl,rfl⟩|exact ⟨rfl,rfl,rfl⟩|exact ⟨⟨rfl,rfl⟩,rfl⟩)) (by first|rfl|(simp [Ac.cells,Se.cells,Tb.cells];done)|(simp [Ac.cells,Se.cells];first|rfl|exact ⟨rfl,rfl⟩|exact ⟨rfl,rfl,rfl⟩|exact ⟨⟨rfl,rfl⟩,rfl⟩))),sd [(4,[sb (rfl:false=false)]),(5,[sb (rfl:false=false)]),(6,[sb (rfl:false=false)]),(11,[sb (rfl:false=false)]),(12,[sb (rfl:false=false)]),(27,[sb (rfl:false=false)]),(28,[sb (rfl:false=false)])]]) [4,6,19,55,56,57,123,124,125] 9 kr (zay rfl (show ([Blk.box [AV.sl (List.map (fun n=>[iv n]) t6.l),iv (t6.pos:Int)],Blk.box [AV.sl [[sv w3,bv false,AV.sl (List.map Col.cells (zaO w3).cols),AV.sl []]],AV.nl],Blk.box [iv 3,sv w3,AV.nl,AV.nl,AV.nl,AV.sl [[iv e5.kind,iv e5.op,bv e5.not,iv e5.val.kind,iv e5.val.int,sv e5.val.text,sv e5.table,sv e5.name,AV.sl (zac e5.args),AV.sl (zag e5.sub)]],sv (ByteArray.mk #[])],Blk.box [iv 2,sv w3,AV.nl,AV.nl,AV.sl [[sv sN,iv (xNum a6).kind,iv (xNum a6).op,bv (xNum a6).not,iv (xNum a6).val.kind,iv (xNum a6).val.int,sv (xNum a6).val.text,sv (xNum a6).table,sv (xNum a6).name,AV.sl (zac (xNum a6).args),AV.sl (zag (xNum a6).sub)]],AV.sl [[iv e5.kind,iv e5.op,bv e5.not,iv e5.val.kind,iv e5.val.int,sv e5.val.text,sv e5.table,sv e5.name,AV.sl (zac e5.args),AV.sl (zag e5.sub)]],sv (ByteArray.mk #[])],Blk.box [iv 2,sv w3,AV.sl [],AV.sl [],AV.sl [[sv sN,iv (xNum a6).kind,iv (xNum a6).op,bv (xNum a6).not,iv (xNum a6).val.kind,iv (xNum a6).val.int,sv (xNum a6).val.text,sv (xNum a6).table,sv (xNum a6).name,AV.sl (zac (xNum a6).args),AV.sl (zag (xNum a6).sub)]],AV.sl [[iv e5.kind,iv e5.op,bv e5.not,iv e5.val.kind,iv e5.val.int,sv e5.val.text,sv e5.table,sv e5.name,AV.sl (zac e5.args),AV.sl (zag e5.sub)]],sv (ByteArray.mk #[])],Blk.box [AV.sl (List.map vrow (twC r2 (acU w3 sN (xNum a6) e5)).fst.ins),AV.sl (List.map (fun n=>[iv n]) (twC r2 (acU w3 sN (xNum a6) e5)).fst.del),AV.sl (List.map Pr.cells (twC r2 (acU w3 sN (xNum a6) e5)).fst.upd)],Blk.box [sv (apT (tabC r2 w3) (twC r2 (acU w3 sN (xNum a6) e5)).fst).sch.name,AV.sl (List.map Col.cells (apT (tabC r2 w3) (twC r2 (acU w3 sN (xNum a6) e5)).fst).sch.cols),iv (apT (tabC r2 w3) (twC r2 (acU w3 sN (xNum a6) e5)).fst).next,AV.sl (List.map Rw.cells (apT (tabC r2 w3) (twC r2 (acU w3 sN (xNum a6) e5)).fst).rows)],Blk.row Ty.Table ((List.map Tb.cells r2).set (idxF (fun t=>zan t w3) r2 0).toNat [sv (apT (tabC r2 w3) (twC r2 (acU w3 sN (xNum a6) e5)).fst).sch.name,AV.sl (List.map Col.cells (apT (tabC r2 w3) (twC r2 (acU w3 sN (xNum a6) e5)).fst).sch.cols),iv (apT (tabC r2 w3) (twC r2 (acU w3 sN (xNum a6) e5)).fst).next,AV.sl (List.map Rw.cells (apT (tabC r2 w3) (twC r2 (acU w3 sN (xNum a6) e5)).fst).rows)]) true,Blk.box [AV.sl (List.map vrow (twD r2 w3 (acU w3 sN (xNum a6) e5)).fst.ins),AV.sl (List.map (fun n=>[iv n]) (twD r2 w3 (acU w3 sN (xNum a6) e5)).fst.del),AV.sl (List.map Pr.cells (twD r2 w3 (acU w3 sN (xNum a6) e5)).fst.upd)]]:Heap)=_ by first|rfl|(simp;done)|(simp [X.cells,Qy.cells,V.cells,Col.cells,Rw.cells,Tb.cells,Fr.cells,Sch.cells,Tp.cells,Pl.cells,xCol,xLit,xBin,xNeg,Ac.cells,Se.cells,Pr.cells,Ch.cells,Rw.cells];done)) (g14 _ (zaa (wkl [sb q14_1,si (zjO (t:=(↑(0+1):Int)+1) (n:=0+1+1) (by omega) (by omega))] [4,6,55,56,57] 4 kr (g15 _ (zaa (wkr [sb (rfl:false=false),sc hkn] kr)))))))))))))))))⟩
   ·exact ⟨true,(by first|rfl|exact (zkT (hD _ _ _ (by assumption) (by assumption) (by assumption)) (by assumption) (by assumption)).elim),wkc At.law16_DmlTwice p_1 [4,6,55,56,57] 4 kr (g7 _ (zaa (wkl (p_5++[sb h10]) [4,6,19,55,56,57,123,124,125] 9 kr (zay rfl (show ([Blk.box [AV.sl (List.map (fun n=>[iv n]) t6.l),iv (t6.pos:Int)],Blk.box [AV.sl [[sv w3,bv false,AV.sl (List.map Col.cells (zaO w3).cols),AV.sl []]],AV.nl],Blk.box [iv 3,sv w3,AV.nl,AV.nl,AV.nl,AV.sl [[iv e5.kind,iv e5.op,bv e5.not,iv e5.val.kind,iv e5.val.int,sv e5.val.text,sv e5.table,sv e5.name,AV.sl (zac e5.args),AV.sl (zag e5.sub)]],sv (ByteArray.mk #[])],Blk.box [iv 2,sv w3,AV.nl,AV.nl,AV.sl [[sv sN,iv (xNum a6).kind,iv (xNum a6).op,bv (xNum a6).not,iv (xNum a6).val.kind,iv (xNum a6).val.int,sv (xNum a6).val.text,sv (xNum a6).table,sv (xNum a6).name,AV.sl (zac (xNum a6).args),AV.sl (zag (xNum a6).sub)]],AV.sl [[iv e5.kind,iv e5.op,bv e5.not,iv e5.val.kind,iv e5.val.int,sv e5.val.text,sv e5.table,sv e5.name,AV.sl (zac e5.args),AV.sl (zag e5.sub)]],sv (ByteArray.mk #[])],Blk.box [iv 3,sv w3,AV.sl [],AV.sl [],AV.sl [],AV.sl [[iv e5.kind,iv e5.op,bv e5.not,iv e5.val.kind,iv e5.val.int,sv e5.val.text,sv e5.table,sv e5.name,AV.sl (zac e5.args),AV.sl (zag e5.sub)]],sv (ByteArray.mk #[])],Blk.box [AV.sl (List.map vrow (twC r2 (acD w3 e5)).fst.ins),AV.sl (List.map (fun n=>[iv n]) (twC r2 (acD w3 e5)).fst.del),AV.sl (List.map Pr.cells (twC r2 (acD w3 e5)).fst.upd)],Blk.box [sv (apT (tabC r2 w3) (twC r2 (acD w3 e5)).fst).sch.name,AV.sl (List.map Col.cells (apT (tabC r2 w3) (twC r2 (acD w3 e5)).fst).sch.cols),iv (apT (tabC r2 w3) (twC r2 (acD w3 e5)).fst).next,AV.sl (List.map Rw.cells (apT (tabC r2 w3) (twC r2 (acD w3 e5)).fst).rows)],Blk.row Ty.Table ((List.map Tb.cells r2).set (idxF (fun t=>zan t w3) r2 0).toNat [sv (apT (tabC r2 w3) (twC r2 (acD w3 e5)).fst).sch.name,AV.sl (List.map Col.cells (apT (tabC r2 w3) (twC r2 (acD w3 e5)).fst).sch.cols),iv (apT (tabC r2 w3) (twC r2 (acD w3 e5)).fst).next,AV.sl (List.map Rw.cells (apT (tabC r2 w3) (twC r2 (acD w3 e5)).fst).rows)]) true,Blk.box [AV.sl [],AV.sl [],AV.sl []]]:Heap)=_ by first|rfl|(simp;done)|(simp [X.cells,Qy.cells,V.cells,Col.cells,Rw.cells,Tb.cells,Fr.cells,Sch.cells,Tp.cells,Pl.cells,xCol,xLit,xBin,xNeg,Ac.cells,Se.cells,Pr.cells,Ch.cells,Rw.cells];done)) (g11 _ (zaa (wkl p_3 [4,6,55,56,57] 4 kr (g12 _ (zaa (wkr (p_4++[sb h13,sc hkn]) kr))))))))))⟩
  ·exact ⟨false,(by first|rfl|exact (zkT (hD _ _ _ (by assumption) (by assumption) (by assumption)) (by assumption) (by assumption)).elim),wkc At.law16_DmlTwice p_1 [4,6,55,56,57] 4 kr (g7 _ (zaa (wkr (p_5++[sb h10]) kr)))⟩
 ·exact ⟨true,(by first|rfl|exact (zkT (hD _ _ _ (by assumption) (by assumption) (by assumption)) (by assumption) (by assumption)).elim),wkc At.law16_DmlTwice p_1 [4,6,55,56,57] 4 kr (g7 _ (zaa (wkr (p_2++[sb h8,sc hkn]) kr)))⟩
end Go.AM
namespace Go.AM
set_option maxRecDepth 100000
set_option maxHeartbeats 1000000
set_option linter.unusedSimpArgs false
set_option linter.unusedVariables false
theorem zsj {f g:X→V × Int} {op:List V→V × Int} {e:X} {frs:List Fr} {a b:List Tb}:∀ (l:List X) (i:Nat) (out:List V),(∀ x∈l,f x=g x)→evL f op e frs a l i out=evL g op e frs b l i out
 | [],i,out,_=>by unfold evL;rfl
 | x::r,i,out,h=>by
  unfold evL
  rw [h x (by simp),zsj r (i+1) (out++[(g x).1]) fun y hy=>h y (by simp [hy])]
theorem zpX {a b:List Tb}:∀ (n:Nat) (k:Nat) (e:X) (frs:List Fr),XFl k e→eval n e frs a=eval n e frs b
 | 0,_,_,_,_=>rfl
 | n+1,0,_,_,h=>h.elim
 | n+1,k+1,e,frs,⟨_,_,hs,ha⟩=>by
  have hA:zeM (fun w x=>eval n x w a) e frs a=zeM (fun w x=>eval n x w b) e frs b:=by unfold zeM;rw [hs]
  show valF _ _ _ e frs a=valF _ _ _ e frs b
  rw [hA]
  unfold valF
  rw [zsj (a:=a) (b:=b) e.args 0 [] fun x hx=>zpX n k x frs (ha x hx)]
theorem zdn {s:Sch} {i:Nat} {x:Col} (h:(zaS x.name&&decide (1≤x.type)&&decide (x.type≤3)&&(!x.key || x.notNull)&&(idxF (fun c=>colC c x.name) s.cols 0==((i:Nat):Int)))=true):ColV s i x:=by
 simp only [Bool.and_eq_true,decide_eq_true_eq,beq_iff_eq,Bool.or_eq_true,Bool.not_eq_true'] at h
 obtain ⟨⟨⟨⟨h1,h2⟩,h3⟩,h4⟩,h5⟩:=h
 refine ⟨by rw [h1];rfl,by simp;omega,by simp;omega,fun hk=>?_,by simp [h5]⟩
 rcases h4 with h4|h4
 ·rw [hk] at h4;cases h4
 ·exact h4
theorem zt4 {s:Sch} (hs:s∈zau):SchV s:=by
 simp only [zau,List.mem_cons,List.not_mem_nil,or_false] at hs
 rcases hs with rfl|rfl|rfl
 ·refine ⟨by kernel_rfl,by kernel_rfl,by kernel_rfl,fun i x hx=>?_,by decide⟩
  match i,hx with
  | 0,hx=>cases hx;exact zdn kr
  | 1,hx=>cases hx;exact zdn kr
  | i+2,hx=>simp at hx
 ·refine ⟨by kernel_rfl,by kernel_rfl,by kernel_rfl,fun i x hx=>?_,by decide⟩
  match i,hx with
  | 0,hx=>cases hx;exact zdn kr
  | 1,hx=>cases hx;exact zdn kr
  | 2,hx=>cases hx;exact zdn kr
  | 3,hx=>cases hx;exact zdn kr
  | i+4,hx=>simp at hx
 ·refine ⟨by kernel_rfl,by kernel_rfl,by kernel_rfl,fun i x hx=>?_,by decide⟩
  match i,hx with
  | 0,hx=>cases hx;exact zdn kr
  | 1,hx=>cases hx;exact zdn kr
  | 2,hx=>cases hx;exact zdn kr
  | i+3,hx=>simp at hx
theorem key_of {s:Sch} (hs:s∈zau):idxF (fun c=>c.key) s.cols 0=keyC s:=by
 simp only [zau,List.mem_cons,List.not_mem_nil,or_false] at hs
 rcases hs with rfl|rfl|rfl <;> kernel_rfl
theorem StoreV.tabV {n:Int} {m:List Tb} (h:StoreV n m) (hn:n≤100) {t:Tb} (ht:t∈m):TabV t:=by
 have hs:t.sch∈zau:=by rw [← h.schs];exact List.mem_map_of_mem ht
 have h1:=h.len t ht
 have h2:=h.next t ht
 exact ⟨zt4 hs,by simp;omega,h.rows t ht,by simp;omega,key_of hs⟩
theorem StoreV.set {n:Int} {m:List Tb} (h:StoreV n m) {i:Nat} {t u:Tb} (hi:m[i]?=some t) (hs:u.sch=t.sch) (hr:RowsV u.sch u.next u.rows) (hx:u.next≤3000) (hl:(u.rows.length:Int)≤n):StoreV n (m.set i u):=by
 have hm:∀ x∈m.set i u,x∈m∨x=u:=fun x hx=>List.mem_or_eq_of_mem_set hx
 refine ⟨?_,fun x hx=>?_,fun x hx=>?_,fun x hx=>?_⟩
 ·rw [List.map_set,hs]
  have:(m.map Tb.sch).set i t.sch=m.map Tb.sch:=by
   obtain ⟨hl,e⟩:=List.getElem?_eq_some_iff.1 hi
   have e2:t.sch=(m.map Tb.sch)[i]'(by simpa using hl):=by simp [e]
   rw [e2];exact List.set_getElem_self _
  rw [this];exact h.schs
 ·rcases hm x hx with h1|rfl
  ·exact h.rows x h1
  ·exact hr
 ·rcases hm x hx with h1|rfl
  ·exact h.next x h1
  ·assumption
 ·rcases hm x hx with h1|rfl
  ·exact h.len x h1
  ·exact hl
end Go.AM
namespace Go.AM
set_option maxRecDepth 100000
set_option maxHeartbeats 1000000
set_option linter.unusedSimpArgs false
set_option linter.unusedVariables false
theorem znO {α:Type} {p:α→Bool} {u:α} (hu:p u=true):∀ (l:List α) (k j:Nat),idxF p l k=((k+j:Nat):Int)→(l.set j u).find? p=some u
 | [],k,j,h=>by simp only [idxF] at h;omega
 | x::l,k,j,h=>by
  simp only [idxF] at h
  cases hp:p x <;> rw [hp] at h <;> simp only [cond_true,cond_false] at h
  ·match j,h with
   | 0,h =>
    exfalso
    rcases zcC p l (k+1) with ⟨h1,_⟩|⟨q,y,h1,_,_⟩ <;> omega
   | j+1,h =>
    have:=znO hu l (k+1) j (by rw [h];congr 1;omega)
    simp only [List.set_cons_succ,List.find?_cons,hp,this]
  ·have hj:j=0:=by omega
   subst hj
   simp [List.find?_cons,hu]
theorem zoM {m:List Tb} {w:Str} (h:decide (idxF (fun t=>zan t w) m 0 < 0)=false):m[(idxF (fun t=>zan t w) m 0).toNat]?=some (tabC m w)∧zan (tabC m w) w=true:=by
 simp only [decide_eq_false_iff_not] at h
 rcases zcC (fun t=>zan t w) m 0 with ⟨h1,_⟩|⟨q,y,h1,h2,h3⟩
 ·omega
 ·have e:tabC m w=y:=by unfold tabC zbB;rw [h3];rfl
  rw [h1,e]
  have e2:(((0+q:Nat):Int)).toNat=q:=by omega
  rw [e2]
  exact ⟨h2,(List.find?_some (p:=fun t=>zan t w) h3 :)⟩
theorem zqb {m:List Tb} {w:Str} {u:Tb} (h:decide (idxF (fun t=>zan t w) m 0 < 0)=false) (hs:u.sch=(tabC m w).sch):tabC (m.set (idxF (fun t=>zan t w) m 0).toNat u) w=u:=by
 have h1:=(zoM h).2
 have hu:zan u w=true:=by unfold zan at h1 ⊢;rw [hs];exact h1
 simp only [decide_eq_false_iff_not] at h
 have h2:=znO (p:=fun t=>zan t w) hu m 0 (idxF (fun t=>zan t w) m 0).toNat (by omega)
 unfold tabC zbB;rw [h2];rfl
theorem RowsV.sub {s:Sch} {next:Int} {l k:List Rw} (h:RowsV s next l) (hk:k.Sublist l):RowsV s next k :=
 ⟨fun r hr=>h.fit r (hk.subset hr),h.asc.sublist hk,fun r hr=>h.ids r (hk.subset hr),fun h0=>(h.keys h0).sublist hk,h.pos⟩
theorem ztX {c:Ch} (hc:c.upd=[]) (l:List Rw):midR c l=l.filter fun r=>!anyI c.del r.id:=by
 unfold midR
 induction l with
 | nil=>rfl
 | cons r l ih =>
  rw [List.filterMap_cons,List.filter_cons,ih]
  unfold midS
  rw [hc]
  cases anyI c.del r.id <;> rfl
theorem zt9 {l:List Rw} {r:Rw} (hr:r∈l):(get6 r.id l).2=true:=by
 induction l with
 | nil=>cases hr
 | cons q l ih =>
  unfold get6
  cases h:q.id==r.id
  ·rcases List.mem_cons.1 hr with rfl|hr
   ·simp at h
   ·exact ih hr
  ·rfl
theorem zsN {kc:Int} {l k:List Rw} (h:k.Sublist l):(zbh kc k).Sublist (zbh kc l):=h.filterMap _
theorem zqy {t:Tb} (ht:TabV t):(zbh (idxF (fun z=>z.key) t.sch.cols 0) t.rows).Nodup:=by
 rw [ht.key];exact zft _ ht.rows.keys
theorem ziI {t:Tb} (ht:TabV t) {p:Rw→Bool}:∃ c:Ch,c=⟨[],(t.rows.filter p).map Rw.id,[]⟩∧ChV t c∧(apT t c).rows=t.rows.filter (fun r=>!p r)∧(apT t c).sch=t.sch∧(apT t c).next=t.next∧Pure S.ref7_Apply [t.av,c.av] (.tup [(apT t c).av,iv 0]):=by
 refine ⟨_,rfl,?_⟩
 have hl:=ht.len
 simp only [List.length_map,decide_eq_false_iff_not] at hl
 have hc:ChV t ⟨[],(t.rows.filter p).map Rw.id,[]⟩:=by
  refine ⟨?_,?_,.nil,fun _ h=>(by cases h),fun _ h=>(by cases h),?_,by simp,by simp⟩
  ·rw [List.pairwise_map];exact ht.rows.asc.sublist List.filter_sublist
  ·intro d hd
   obtain ⟨r,hr,rfl⟩:=List.mem_map.1 hd
   exact zt9 (List.mem_filter.1 hr).1
  ·have:=List.length_filter_le p t.rows;simp only [List.length_map];omega
 have hrow:midR ⟨[],(t.rows.filter p).map Rw.id,[]⟩ t.rows=t.rows.filter (fun r=>!p r):=by
  rw [ztX rfl]
  apply List.filter_congr
  intro r hr
  congr 1
  cases hp:p r
  ·cases ha:anyI ((t.rows.filter p).map Rw.id) r.id
   ·rfl
   ·exfalso
    obtain ⟨q,hq,he⟩:=List.mem_map.1 (zeu.1 ha)
    obtain ⟨hq1,hq2⟩:=List.mem_filter.1 hq
    have:q=r:=by
     obtain ⟨i,hi⟩:=List.getElem?_of_mem hq1
     obtain ⟨j,hj⟩:=List.getElem?_of_mem hr
     obtain ⟨a1,a2⟩:=List.getElem?_eq_some_iff.1 hi
     obtain ⟨b1,b2⟩:=List.getElem?_eq_some_iff.1 hj
     rcases Nat.lt_trichotomy i j with h|h|h
     ·have:=List.pairwise_iff_getElem.1 ht.rows.asc i j a1 b1 h;rw [a2,b2] at this;omega
     ·subst h;rw [a2] at b2;exact b2
     ·have:=List.pairwise_iff_getElem.1 ht.rows.asc j i b1 a1 h;rw [a2,b2] at this;omega
    subst this;rw [hp] at hq2;cases hq2
  ·exact zeu.2 (List.mem_map.2 ⟨r,List.mem_filter.2 ⟨hr,hp⟩,rfl⟩)
 obtain ⟨x,g,hq,hcall⟩:=zp1 t _ ht hc (fun _ h=>by cases h) (fun _ h=>by cases h)
 have hml:(t.rows.filter fun r=>!p r).length≤t.rows.length:=List.length_filter_le _ _
 have hg:g=0:=by
  have hp:=ht.rows.pos
  have h5:=ht.max
  simp only [decide_eq_false_iff_not] at h5
  refine hq.good rfl rfl ?_ ?_ ?_
  ·rw [hrow];simp only [List.length_nil];omega
  ·simp only [List.length_nil];omega
  ·unfold zhm;rw [hrow];simp only [insN,List.append_nil]
   exact (zqy ht).sublist (zsN List.filter_sublist)
 obtain ⟨hx,_⟩:=hq.ok hg
 rw [hg,hx] at hcall
 refine ⟨hc,?_,rfl,by simp [apT],hcall⟩
 unfold apT;simp only [insN,List.append_nil];exact hrow
theorem zl8 {tr:Rw→Bool × Int} {a:Ac} {s:Sch} {frs:List Fr} {tb:List Tb} {t:Tb}:∀ (l:List Rw) (i:Nat) (del:List Int),(∀ r∈l,tr r=(false,0))→cndD tr a s frs tb t l i del=(⟨[],del,[]⟩,0)
 | [],i,del,_=>by unfold cndD;rfl
 | x::r,i,del,h=>by
  unfold cndD
  rw [h x (by simp)]
  exact zl8 r (i+1) del fun y hy=>h y (by simp [hy])
theorem zmh {tr:Rw→Bool × Int} {a:Ac} {s:Sch} {frs:List Fr} {tb:List Tb} {t:Tb}:∀ (l:List Rw) (i:Nat) (del:List Int),(cndD tr a s frs tb t l i del).1.ins=[]∧(cndD tr a s frs tb t l i del).1.upd=[]
 | [],i,del=>by unfold cndD;exact ⟨rfl,rfl⟩
 | x::r,i,del=>by
  unfold cndD
  cases (tr x).2 != 0 <;> cases (tr x).1 <;> first|exact ⟨rfl,rfl⟩|exact zmh r (i+1) _
theorem zrJ {k:Nat} {w:Str} {e:X} {frs:List Fr} {s:Sch} {a b:List Tb} (he:XFl 5 e) (r:Rw):cTr k (acD w e) frs s a r=cTr k (acD w e) frs s b r:=by
 show zfH _ e=zfH _ e
 unfold zfH evI
 simp only [zpX (a:=a) (b:=b) k 5 e _ he]
theorem zqk {m:List Tb} {w:Str} {e:X} (hm:StoreV 6 m) (hw:TabN w) (h:((twC m (acD w e)).2 != 0)=false):vX 6 e=true∧(∀ r∈(tabC m w).rows,(cTr 6 (acD w e) [] (tabC m w).sch m r).2=0)∧(twC m (acD w e)).1=⟨[],((tabC m w).rows.filter fun r=>(cTr 6 (acD w e) [] (tabC m w).sch m r).1).map Rw.id,[]⟩:=by
 obtain ⟨t1,t2,t3,t4⟩:=zda hm hw
 have h:(twC m (acD w e)).2=0:=by simpa using h
 unfold twC at h ⊢
 rw [zsl t4 hw] at h ⊢
 cases hv:vX 6 e
 ·rw [hv] at h;cases h
 ·rw [hv] at h
  simp only [cond_true] at h ⊢
  unfold zhZ at h ⊢
  obtain ⟨a1,a2⟩:=zjg _ _ _ h
  obtain ⟨b1,b2⟩:=zmh (tr:=cTr 6 (acD w e) [] (tabC m w).sch m) (a:=acD w e) (s:=(tabC m w).sch) (frs:=[]) (tb:=m) (t:=tabC m w) (tabC m w).rows 0 []
  refine ⟨trivial,a1,?_⟩
  generalize (cndD (cTr 6 (acD w e) [] (tabC m w).sch m) (acD w e) (tabC m w).sch [] m (tabC m w) (tabC m w).rows 0 []).1=c at *
  obtain ⟨ci,cd,cu⟩:=c
  simp only [List.nil_append] at a2 b1 b2
  subst b1 b2 a2;rfl
theorem twD_of (m:List Tb) (w:Str) (e:X) (hm:StoreV 6 m) (hw:TabN w) (he:XFl 5 e):TwD m w e:=by
 obtain ⟨t1,t2,t3,t4⟩:=zda hm hw
 have ht:=hm.tabV (by decide) t2
 have h6:=hm.len _ t2
 have hd:∀ {m':List Tb},StoreV 6 m'→Pure S.dml_Candidates [(acD w e).av,fsl [],tsl m'] (.tup [(zcd 6 (acD w e) [] m').1.av,iv (zcd 6 (acD w e) [] m').2]):=fun hm' =>
  zoJ (zoB hm' (by decide) (by decide) (acD_ok he.ok.mono) (show (1:Int)≤3∧(3:Int)≤3 by omega))
 refine ⟨hd hm,fun h=>?_,fun h=>?_,fun h=>?_,t1,ziY hm⟩
 ·obtain ⟨hv,hc,hf⟩:=zqk hm hw h
  rw [hf]
  obtain ⟨c,rfl,_,_,_,_,hcall⟩:=ziI ht (p:=fun r=>(cTr 6 (acD w e) [] (tabC m w).sch m r).1)
  exact hcall
 ·obtain ⟨hv,hc,hf⟩:=zqk hm hw h
  rw [hf]
  obtain ⟨c,rfl,_,hrows,hsch,hnext,_⟩:=ziI ht (p:=fun r=>(cTr 6 (acD w e) [] (tabC m w).sch m r).1)
  have hsub:(apT (tabC m w) ⟨[],((tabC m w).rows.filter fun r=>(cTr 6 (acD w e) [] (tabC m w).sch m r).1).map Rw.id,[]⟩).rows.Sublist (tabC m w).rows:=by rw [hrows];exact List.filter_sublist
  have hm1:StoreV 6 (tab1 m w ⟨[],((tabC m w).rows.filter fun r=>(cTr 6 (acD w e) [] (tabC m w).sch m r).1).map Rw.id,[]⟩) :=
   hm.set (zoM t1).1 hsch (by rw [hsch,hnext];exact (hm.rows _ t2).sub hsub) (by rw [hnext];exact hm.next _ t2) (by have:=hsub.length_le;omega)
  have htab:=zqb t1 hsch
  have h1:=hd hm1
  obtain ⟨_,_,_,t4'⟩:=zda hm1 hw
  rw [zsl t4' hw,hv] at h1
  simp only [cond_true] at h1
  unfold zhZ tab1 at h1
  rw [htab,hsch,zl8] at h1
  ·exact h1
  ·intro r hr
   rw [hrows] at hr
   obtain ⟨r1,r2⟩:=List.mem_filter.1 hr
   rw [zrJ (b:=m) he]
   exact Prod.ext (by simpa using r2) (hc r r1)
 ·obtain ⟨hv,hc,hf⟩:=zqk hm hw h
  rw [hf]
  obtain ⟨c,rfl,_,hrows,_,_,_⟩:=ziI ht (p:=fun r=>(cTr 6 (acD w e) [] (tabC m w).sch m r).1)
  rw [hrows]
  have hlen:((tabC m w).rows.filter fun r=>(cTr 6 (acD w e) [] (tabC m w).sch m r).1).length+((tabC m w).rows.filter fun r=>!(cTr 6 (acD w e) [] (tabC m w).sch m r).1).length=(tabC m w).rows.length:=by
   have:=List.length_eq_countP_add_countP (fun r=>(cTr 6 (acD w e) [] (tabC m w).sch m r).1) (l:=(tabC m w).rows)
   rw [List.countP_eq_length_filter,List.countP_eq_length_filter] at this
   simp only [Bool.not_eq_true,Bool.decide_eq_false] at this
   omega
  simp only [List.length_map,bne_eq_false_iff_eq,IntKind.wrap_i64]
  omega
end Go.AM
namespace Go.AM
set_option maxRecDepth 100000
set_option maxHeartbeats 1000000
set_option linter.unusedSimpArgs false
set_option linter.unusedVariables false
theorem zkg {a:Int} (h:-3≤a∧a≤12) {P:Int→Prop} (p:P (-3)∧P (-2)∧P (-1)∧P 0∧P 1∧P 2∧P 3∧P 4∧P 5∧P 6∧P 7∧P 8∧P 9∧P 10∧P 11∧P 12):P a:=by
 obtain ⟨p1,p2,p3,p4,p5,p6,p7,p8,p9,p10,p11,p12,p13,p14,p15,p16⟩:=p
 have:a=-3∨a=-2∨a=-1∨a=0∨a=1∨a=2∨a=3∨a=4∨a=5∨a=6∨a=7∨a=8∨a=9∨a=10∨a=11∨a=12:=by omega
 rcases this with rfl|rfl|rfl|rfl|rfl|rfl|rfl|rfl|rfl|rfl|rfl|rfl|rfl|rfl|rfl|rfl <;> assumption
theorem zs6 {a:Int} (h:-3≤a∧a≤12) (frs:List Fr) (tb:List Tb):eval 6 (xNum a) frs tb=(vN a,0) :=
 zkg (P:=fun a=>eval 6 (xNum a) frs tb=(vN a,0)) h ⟨by kernel_rfl,by kernel_rfl,by kernel_rfl,by kernel_rfl,by kernel_rfl,by kernel_rfl,by kernel_rfl,by kernel_rfl,by kernel_rfl,by kernel_rfl,by kernel_rfl,by kernel_rfl,by kernel_rfl,by kernel_rfl,by kernel_rfl,by kernel_rfl⟩
theorem zjj {a:Int} (h:-3≤a∧a≤12):vX 6 (xNum a)=true :=
 zkg (P:=fun a=>vX 6 (xNum a)=true) h ⟨by kernel_rfl,by kernel_rfl,by kernel_rfl,by kernel_rfl,by kernel_rfl,by kernel_rfl,by kernel_rfl,by kernel_rfl,by kernel_rfl,by kernel_rfl,by kernel_rfl,by kernel_rfl,by kernel_rfl,by kernel_rfl,by kernel_rfl,by kernel_rfl⟩
theorem actU {f:X→Bool} {w:Str} {v x:X} (hw:TabN w) (hv:f v=true):actB f (acU w sN v x)=f x:=by
 have:actB f (acU w sN v x)=bif (bif (f v&&true) then true else false) then (f x&&true) else false:=by rcases hw with rfl|rfl|rfl <;> kernel_rfl
 rw [this,hv];simp
theorem ziQ {tr:Rw→Bool × Int} {ag:Rw→List V × Int} {a:Ac} {s:Sch} {frs:List Fr} {tb:List Tb} {t:Tb} {f:Rw→List V}:∀ (l:List Rw) (i:Nat) (upd:List Pr),(∀ r∈l,ag r=(f r,0))→(cndU tr ag a s frs tb t l i upd).2=0→(∀ r∈l,(tr r).2=0)∧(cndU tr ag a s frs tb t l i upd).1=⟨[],[],upd++(l.filter fun r=>(tr r).1).map fun r=>⟨r.id,r.vals,f r⟩⟩
 | [],i,upd,_,h=>by unfold cndU;simp
 | x::r,i,upd,hf,h=>by
  have hx:=hf x (by simp)
  have hr:∀ y∈r,ag y=(f y,0):=fun y hy=>hf y (by simp [hy])
  unfold cndU at h ⊢
  rw [hx] at h ⊢
  cases h1:(tr x).2 != 0
  ·rw [h1] at h
   have h2:(tr x).2=0:=by simpa using h1
   cases h3:(tr x).1
   ·rw [h3] at h
    obtain ⟨a1,a2⟩:=ziQ r (i+1) upd hr h
    simp only [Bool.not_false,cond_false,cond_true]
    refine ⟨fun y hy=>?_,by rw [a2];simp [h3]⟩
    rcases List.mem_cons.1 hy with rfl|hy
    ·exact h2
    ·exact a1 y hy
   ·rw [h3] at h
    simp only [Bool.not_true,cond_false,bne_self_eq_false] at h ⊢
    obtain ⟨a1,a2⟩:=ziQ r (i+1) (upd++[⟨x.id,x.vals,f x⟩]) hr h
    refine ⟨fun y hy=>?_,by rw [a2];simp [h3]⟩
    rcases List.mem_cons.1 hy with rfl|hy
    ·exact h2
    ·exact a1 y hy
  ·rw [h1] at h;simp at h;simp [h] at h1
def setR (p:Rw→Bool) (K:Nat) (v:V) (r:Rw):Rw:=bif p r then ⟨r.id,r.vals.set K v⟩ else r
theorem zlS {p:Rw→Bool} {K:Nat} {v:V} (r:Rw):(setR p K v r).id=r.id:=by unfold setR;cases p r <;> rfl
theorem zpL {p:Rw→Bool} {K:Nat} {v:V} {k:Int} (hk:k.toNat≠K) (r:Rw):zaB (setR p K v r).vals k=zaB r.vals k:=by
 unfold setR
 cases p r
 ·rfl
 ·simp only [cond_true,zaB,List.getD_eq_getElem?_getD,List.getElem?_set_ne (Ne.symm hk)]
theorem zmE {cols:List Col} {vals:List V} {K:Nat} {v:V} (h:zcB cols vals) (hv:∀ c,cols[K]?=some c→ValOk c v):zcB cols (vals.set K v):=by
 refine ⟨by simpa using h.len,fun k c u hc hu=>?_⟩
 by_cases hk:K=k
 ·subst hk
  rw [List.getElem?_set_self'] at hu
  cases hq:vals[K]? with
  | none=>rw [hq] at hu;simp at hu
  | some q=>rw [hq] at hu;simp at hu;subst hu;exact hv c hc
 ·rw [List.getElem?_set_ne hk] at hu;exact h.at_ k c u hc hu
theorem zmw {s:Sch} {next:Int} {l:List Rw} {p:Rw→Bool} {K:Nat} {v:V} (h:RowsV s next l) (hv:∀ c,s.cols[K]?=some c→ValOk c v) (hk:0≤keyC s→(keyC s).toNat≠K):RowsV s next (l.map (setR p K v)):=by
 refine ⟨fun r hr=>?_,?_,fun r hr=>?_,fun h0=>?_,h.pos⟩
 ·obtain ⟨q,hq,rfl⟩:=List.mem_map.1 hr
  unfold setR
  cases p q
  ·exact h.fit q hq
  ·exact zmE (h.fit q hq) hv
 ·rw [List.pairwise_map];exact h.asc.imp fun hab=>by rw [zlS,zlS];exact hab
 ·obtain ⟨q,hq,rfl⟩:=List.mem_map.1 hr
  rw [zlS];exact h.ids q hq
 ·rw [List.pairwise_map];exact (h.keys h0).imp fun hab=>by rw [zpL (hk h0),zpL (hk h0)];exact hab
theorem zsT {l:List Rw} (ha:l.Pairwise fun a b=>a.id < b.id) {r:Rw} (hr:r∈l):get6 r.id l=(r.vals,true):=by
 induction l with
 | nil=>cases hr
 | cons q l ih =>
  obtain ⟨h1,h2⟩:=List.pairwise_cons.1 ha
  unfold get6
  rcases List.mem_cons.1 hr with rfl|hr
  ·simp
  ·have:=h1 r hr
   have hne:(q.id==r.id)=false:=by simp;omega
   rw [hne];exact ih h2 hr
theorem zs1 {g:Rw→List V} {p:Rw→Bool} {l:List Rw} (ha:l.Pairwise fun a b=>a.id < b.id) {r:Rw} (hr:r∈l):fnd7 r.id ((l.filter p).map fun q=>⟨q.id,q.vals,g q⟩)=bif p r then (g r,true) else ([],false):=by
 induction l with
 | nil=>cases hr
 | cons q l ih =>
  obtain ⟨h1,h2⟩:=List.pairwise_cons.1 ha
  have hno:∀ (k:List Rw),(∀ z∈k,q.id < z.id)→fnd7 q.id (k.map fun z=>⟨z.id,z.vals,g z⟩)=([],false):=fun k=>by
   induction k with
   | nil=>intro _;rfl
   | cons z k ihk =>
    intro hz
    have:=hz z (by simp)
    have hne:(z.id==q.id)=false:=by simp;omega
    simp only [List.map_cons,fnd7,hne,cond_false]
    exact ihk fun y hy=>hz y (by simp [hy])
  rw [List.filter_cons]
  rcases List.mem_cons.1 hr with rfl|hr
  ·cases hp:p r
   ·simp only [Bool.false_eq_true,if_false,cond_false]
    exact hno _ fun z hz=>h1 z (List.mem_filter.1 hz).1
   ·simp only [if_true,List.map_cons,fnd7,beq_self_eq_true,cond_true]
  ·have:=h1 r hr
   have hne:(q.id==r.id)=false:=by simp;omega
   cases hp:p q
   ·simp only [Bool.false_eq_true,if_false];exact ih h2 hr
   ·simp only [if_true,List.map_cons,fnd7,hne,cond_false];exact ih h2 hr
theorem znL {s:Sch}:∀ (l:List Pr),(∀ p∈l,fit5 s p.nw=0)→zce s l=0
 | [],_=>rfl
 | p::r,h=>by
  unfold zce
  rw [h p (by simp)]
  exact znL r fun q hq=>h q (by simp [hq])
theorem zr7 {α β:Type} {f:α→Option β} {g:α→β}:∀ l:List α,(∀ x∈l,f x=some (g x))→l.filterMap f=l.map g
 | [],_=>rfl
 | x::l,h=>by
  rw [List.filterMap_cons,h x (by simp),List.map_cons,zr7 l fun y hy=>h y (by simp [hy])]
theorem zso {t:Tb} (ht:TabV t) {p:Rw→Bool} {K:Nat} {v:V} (hg:v.Good) (hv:∀ c,t.sch.cols[K]?=some c→ValOk c v) (hk:0≤keyC t.sch→(keyC t.sch).toNat≠K):∃ c:Ch,c=⟨[],[],(t.rows.filter p).map fun r=>⟨r.id,r.vals,r.vals.set K v⟩⟩∧apT t c=⟨t.sch,t.next,t.rows.map (setR p K v)⟩∧Pure S.ref7_Apply [t.av,c.av] (.tup [(apT t c).av,iv 0]):=by
 refine ⟨_,rfl,?_⟩
 have hl:=ht.len
 simp only [List.length_map,decide_eq_false_iff_not] at hl
 have hmem:∀ q∈((t.rows.filter p).map fun r=>(⟨r.id,r.vals,r.vals.set K v⟩:Pr)),∃ r∈t.rows,q=⟨r.id,r.vals,r.vals.set K v⟩:=fun q hq=>by
  obtain ⟨r,hr,rfl⟩:=List.mem_map.1 hq
  exact ⟨r,(List.mem_filter.1 hr).1,rfl⟩
 have hc:ChV t ⟨[],[],(t.rows.filter p).map fun r=>⟨r.id,r.vals,r.vals.set K v⟩⟩:=by
  refine ⟨.nil,fun _ h=>(by cases h),?_,fun q hq=>?_,fun _ h=>(by cases h),by simp,?_,by simp⟩
  ·rw [List.pairwise_map];exact ht.rows.asc.sublist List.filter_sublist
  ·obtain ⟨r,hr,rfl⟩:=hmem q hq
   exact ⟨zsT ht.rows.asc hr,rfl,by simpa using (ht.rows.fit r hr).len⟩
  ·have:=List.length_filter_le p t.rows;simp only [List.length_map];omega
 have hrow:midR ⟨[],[],(t.rows.filter p).map fun r=>⟨r.id,r.vals,r.vals.set K v⟩⟩ t.rows=t.rows.map (setR p K v):=by
  unfold midR
  refine zr7 _ fun r hr=>?_
  unfold midS
  rw [zs1 ht.rows.asc hr]
  unfold setR
  cases p r <;> rfl
 obtain ⟨x,g,hq,hcall⟩:=zp1 t _ ht hc (fun q hq=>by
  obtain ⟨r,hr,rfl⟩:=hmem q hq
  intro u hu
  rcases List.mem_or_eq_of_mem_set hu with h|rfl
  ·exact znB (ht.rows.fit r hr) u h
  ·exact hg) (fun _ h=>by cases h)
 have hgz:g=0:=by
  have hp:=ht.rows.pos
  have h5:=ht.max
  simp only [decide_eq_false_iff_not] at h5
  refine hq.good (znL _ fun q hq=>?_) rfl ?_ ?_ ?_
  ·obtain ⟨r,hr,rfl⟩:=hmem q hq
   exact zpO ht.sch (zmE (ht.rows.fit r hr) hv)
  ·rw [hrow];simp only [List.length_nil,List.length_map];omega
  ·simp only [List.length_nil];omega
  ·unfold zhm;rw [hrow];simp only [insN,List.append_nil]
   rw [ht.key]
   exact zft _ (zmw ht.rows hv hk).keys
 obtain ⟨hx,_⟩:=hq.ok hgz
 rw [hgz,hx] at hcall
 refine ⟨?_,hcall⟩
 unfold apT;rw [hrow];simp [insN]
def colN (w:Str):Nat:=(idxF (fun c=>colC c sN) (zaO w).cols 0).toNat
theorem zug {w:Str} (hw:TabN w) {a:Int} (ha:-3≤a∧a≤12):(∀ c,(zaO w).cols[colN w]?=some c→ValOk c (vN a))∧(0≤keyC (zaO w)→(keyC (zaO w)).toNat≠colN w):=by
 have hgood:V.Good (vN a):=zbn ⟨by omega,by omega⟩
 have key:∀ {k:Nat} {kc:Int} {o:Option Col},colN w=k→keyC (zaO w)=kc→(zaO w).cols[k]?=o→(∀ c,o=some c→c.type=1)→(0≤kc→kc.toNat≠k)→(∀ c,(zaO w).cols[colN w]?=some c→ValOk c (vN a))∧(0≤keyC (zaO w)→(keyC (zaO w)).toNat≠colN w):=fun h1 h2 h3 h4 h5=>by
  rw [h1,h2]
  refine ⟨fun c hc=>?_,h5⟩
  rw [h3] at hc
  have h6:=h4 c hc
  exact ⟨hgood,.inr h6.symm,fun _=>h6.symm⟩
 rcases hw with rfl|rfl|rfl
 ·exact key (k:=1) (kc:=0) (o:=some ⟨⟨#[110]⟩,1,false,false⟩) kr kr kr (fun c hc=>by cases hc;rfl) (by decide)
 ·exact key (k:=1) (kc:=0) (o:=some ⟨⟨#[110]⟩,1,true,false⟩) kr kr kr (fun c hc=>by cases hc;rfl) (by decide)
 ·exact key (k:=0) (kc:=-1) (o:=some ⟨⟨#[110]⟩,1,false,false⟩) kr kr kr (fun c hc=>by cases hc;rfl) (by decide)
theorem zmY {m:List Tb} {w:Str} {e:X} {a:Int} (hm:StoreV 6 m) (hw:TabN w) (ha:-3≤a∧a≤12) {c:Ch × Int} (hc:c=zcd 6 (acU w sN (xNum a) e) [] m) (h:c.2=0):vX 6 e=true∧(∀ r∈(tabC m w).rows,(cTr 6 (acD w e) [] (tabC m w).sch m r).2=0)∧c.1=⟨[],[],((tabC m w).rows.filter fun r=>(cTr 6 (acD w e) [] (tabC m w).sch m r).1).map fun r=>⟨r.id,r.vals,r.vals.set (colN w) (vN a)⟩⟩:=by
 subst hc
 obtain ⟨t1,t2,t3,t4⟩:=zda hm hw
 rw [zrM t4 (actU hw (zjj ha))] at h ⊢
 cases hv:vX 6 e
 ·rw [hv] at h;cases h
 ·rw [hv] at h
  simp only [cond_true] at h ⊢
  unfold zhJ at h ⊢
  have hag:∀ r∈(tabC m w).rows,cAg 6 (acU w sN (xNum a) e) [] (tabC m w).sch m r=(r.vals.set (colN w) (vN a),0):=fun r hr=>by
   have hl:=((hm.rows _ t2).fit r hr).len
   unfold cAg
   rw [t3] at hl ⊢
   exact asg1 hw (zs6 ha _ _) hl
  obtain ⟨a1,a2⟩:=ziQ (f:=fun r=>r.vals.set (colN w) (vN a)) _ _ _ hag h
  exact ⟨trivial,a1,a2⟩
theorem zkJ {tr:Rw→Bool × Int} {ag:Rw→List V × Int} {a:Ac} {s:Sch} {frs:List Fr} {tb:List Tb} {t:Tb}:∀ (l:List Rw) (i:Nat) (upd:List Pr),(cndU tr ag a s frs tb t l i upd).1.upd.length≤upd.length+l.length
 | [],i,upd=>by unfold cndU;simp
 | x::r,i,upd=>by
  have h1:=zkJ (tr:=tr) (ag:=ag) (a:=a) (s:=s) (frs:=frs) (tb:=tb) (t:=t) r (i+1) upd
  have h2:=zkJ (tr:=tr) (ag:=ag) (a:=a) (s:=s) (frs:=frs) (tb:=tb) (t:=t) r (i+1) (upd++[⟨x.id,x.vals,(ag x).1⟩])
  unfold cndU
  cases (tr x).2 != 0 <;> cases (tr x).1 <;> cases (ag x).2 != 0 <;> simp at * <;> omega
theorem zkr {tr:Rw→Bool × Int} {ag:Rw→List V × Int} {a:Ac} {s:Sch} {frs:List Fr} {tb:List Tb} {t:Tb}:∀ (l:List Rw) (i:Nat) (upd:List Pr),∀ q∈(cndU tr ag a s frs tb t l i upd).1.upd,q∈upd∨∃ r∈l,q.old=r.vals
 | [],i,upd,q,h=>by unfold cndU at h;exact .inl h
 | x::r,i,upd,q,h=>by
  unfold cndU at h
  cases h1:(tr x).2 != 0 <;> rw [h1] at h
  ·cases h2:(tr x).1 <;> rw [h2] at h
   ·rcases zkr r (i+1) upd q h with h3|⟨z,hz,h3⟩
    ·exact .inl h3
    ·exact .inr ⟨z,by simp [hz],h3⟩
   ·simp only [Bool.not_true,cond_false] at h
    cases h4:(ag x).2 != 0 <;> rw [h4] at h
    ·rcases zkr r (i+1) _ q h with h3|⟨z,hz,h3⟩
     ·rcases List.mem_append.1 h3 with h3|h3
      ·exact .inl h3
      ·simp only [List.mem_singleton] at h3;subst h3;exact .inr ⟨x,by simp,rfl⟩
     ·exact .inr ⟨z,by simp [hz],h3⟩
    ·simp at h
  ·simp at h
theorem zpR {w:Str} {v e:X} {m:List Tb} (hm:StoreV 6 m) (hw:TabN w) (ha:actB (vX 6) (acU w sN v e)=vX 6 e):(∀ q∈(zcd 6 (acU w sN v e) [] m).1.upd,zad q.old)∧zad (zcd 6 (acU w sN v e) [] m).1.upd:=by
 obtain ⟨t1,t2,t3,t4⟩:=zda hm hw
 rw [zrM t4 ha]
 cases vX 6 e
 ·exact ⟨fun q hq=>by simp [zh1] at hq,by simp [zh1]⟩
 ·simp only [cond_true]
  unfold zhJ
  refine ⟨fun q hq=>?_,?_⟩
  ·rcases zkr _ _ _ q hq with h|⟨r,hr,h⟩
   ·cases h
   ·rw [h];exact hm.short (by decide) _ t2 r hr
  ·have h1:=zkJ (tr:=cTr 6 (acU w sN v e) [] (tabC m w).sch m) (ag:=cAg 6 (acU w sN v e) [] (tabC m w).sch m) (a:=acU w sN v e) (s:=(tabC m w).sch) (frs:=[]) (tb:=m) (t:=tabC m w) (tabC m w).rows 0 []
   have h2:=hm.len _ t2
   simp only [List.length_nil] at h1
   simp only [zad];omega
theorem twU_of (m:List Tb) (w:Str) (a:Int) (e:X) (hm:StoreV 6 m) (hw:TabN w) (he:XFl 5 e) (ha:-3≤a∧a≤12):TwU m w (xNum a) e:=by
 obtain ⟨t1,t2,t3,t4⟩:=zda hm hw
 have ht:=hm.tabV (by decide) t2
 have hgood:V.Good (vN a):=zbn ⟨by omega,by omega⟩
 obtain ⟨k1,k2⟩:=zug hw ha
 have hxn:XOk 6 (xNum a):=zt8 (by omega) (by omega)
 have hd:∀ {m':List Tb},StoreV 6 m'→Pure S.dml_Candidates [(acU w sN (xNum a) e).av,fsl [],tsl m'] (.tup [(zcd 6 (acU w sN (xNum a) e) [] m').1.av,iv (zcd 6 (acU w sN (xNum a) e) [] m').2]):=fun hm' =>
  zoJ (zoB hm' (by decide) (by decide) (acU_ok hxn he.ok.mono) (show (1:Int)≤2∧(2:Int)≤3 by omega))
 have hap:∀ p:Rw→Bool,∃ c:Ch,c=⟨[],[],((tabC m w).rows.filter p).map fun r=>⟨r.id,r.vals,r.vals.set (colN w) (vN a)⟩⟩∧apT (tabC m w) c=⟨(tabC m w).sch,(tabC m w).next,(tabC m w).rows.map (setR p (colN w) (vN a))⟩∧Pure S.ref7_Apply [(tabC m w).av,c.av] (.tup [(apT (tabC m w) c).av,iv 0]):=fun p =>
  zso ht hgood (by rw [t3];exact k1) (by rw [t3];exact k2)
 have hst:∀ p:Rw→Bool,StoreV 6 (m.set (idxF (fun t=>zan t w) m 0).toNat ⟨(tabC m w).sch,(tabC m w).next,(tabC m w).rows.map (setR p (colN w) (vN a))⟩):=fun p =>
  hm.set (zoM t1).1 rfl (zmw (hm.rows _ t2) (by rw [t3];exact k1) (by rw [t3];exact k2)) (show (tabC m w).next≤3000 from hm.next _ t2) (by simpa using hm.len _ t2)
 have hcode:((twC m (acU w sN (xNum a) e)).2 != 0)=false→(twC m (acU w sN (xNum a) e)).2=0:=fun h=>by simpa using h
 have hm1:((twC m (acU w sN (xNum a) e)).2 != 0)=false→StoreV 6 (tab1 m w (twC m (acU w sN (xNum a) e)).1):=fun h=>by
  obtain ⟨hv,hc,hf⟩:=zmY hm hw ha rfl (hcode h)
  obtain ⟨c,hceq,hrows,_⟩:=hap (fun r=>(cTr 6 (acD w e) [] (tabC m w).sch m r).1)
  have:(twC m (acU w sN (xNum a) e)).1=c:=by rw [hceq];exact hf
  rw [this];unfold tab1;rw [hrows];exact hst _
 refine ⟨hd hm,fun h=>?_,fun h=>hd (hm1 h),fun h h2=>?_,fun h p hp=>?_,?_⟩
 ·obtain ⟨hv,hc,hf⟩:=zmY hm hw ha rfl (hcode h)
  obtain ⟨c,hceq,_,hcall⟩:=hap (fun r=>(cTr 6 (acD w e) [] (tabC m w).sch m r).1)
  have:(twC m (acU w sN (xNum a) e)).1=c:=by rw [hceq];exact hf
  rw [this];exact hcall
 ·obtain ⟨hv,hc,hf⟩:=zmY hm hw ha rfl (hcode h)
  obtain ⟨c,hceq,hrows,_⟩:=hap (fun r=>(cTr 6 (acD w e) [] (tabC m w).sch m r).1)
  have hce:(twC m (acU w sN (xNum a) e)).1=c:=by rw [hceq];exact hf
  have hs1:=hm1 h
  have htab:tabC (tab1 m w (twC m (acU w sN (xNum a) e)).1) w=⟨(tabC m w).sch,(tabC m w).next,(tabC m w).rows.map (setR (fun r=>(cTr 6 (acD w e) [] (tabC m w).sch m r).1) (colN w) (vN a))⟩:=by
   unfold tab1;rw [hce,hrows];exact zqb t1 rfl
  obtain ⟨_,_,hf2⟩:=zmY hs1 hw ha rfl (show (twD m w (acU w sN (xNum a) e)).2=0 by simpa using h2)
  intro p hp
  unfold twD at hp
  rw [hf2,htab] at hp
  obtain ⟨r1,hr1,rfl⟩:=List.mem_map.1 hp
  obtain ⟨hr2,hr3⟩:=List.mem_filter.1 hr1
  obtain ⟨r,hr,rfl⟩:=List.mem_map.1 hr2
  simp only
  cases hp0:(cTr 6 (acD w e) [] (tabC m w).sch m r).1
  ·exfalso
   have e1:setR (fun r=>(cTr 6 (acD w e) [] (tabC m w).sch m r).1) (colN w) (vN a) r=r:=by unfold setR;simp only [hp0,cond_false]
   rw [e1,zrJ (b:=m) he,hp0] at hr3
   cases hr3
  ·have e1:(setR (fun r=>(cTr 6 (acD w e) [] (tabC m w).sch m r).1) (colN w) (vN a) r).vals=r.vals.set (colN w) (vN a):=by unfold setR;simp only [hp0,cond_true]
   rw [e1,List.set_set]
 ·exact (zpR (hm1 h) hw (actU hw (zjj ha))).1 p hp
 ·exact fun h=>(zpR (hm1 h) hw (actU hw (zjj ha))).2
theorem ztx (l:List Int):zab E0 S.law16_DmlTwice [isl l] [] (bv true) []:=by
 obtain ⟨b,rfl,h⟩:=zkt l zh9 zmO twD_of twU_of (fun t w=>zhg t [⟨w,false,(zaO w).cols,[]⟩] 2 (by simp) (fun f hf=>by simp only [List.mem_singleton] at hf;subst hf;exact zqK w))
 exact h
end Go.AM
namespace Go.AM
open Go.RowKit
set_option linter.unusedSimpArgs false
set_option linter.unusedVariables false
abbrev old (W:World):Addr→Prop:=fun a=>a.block < W.heap.size
theorem zpF {W:World} {a:Addr} {v:Value} (h:W.cell? a=some v):a.block < W.heap.size:=by
 unfold World.cell? at h
 cases hb:W.heap[a.block]? with
 | none=>rw [hb] at h;cases h
 | some o=>exact (Array.getElem?_eq_some_iff.1 hb).1
theorem relD_strs {W:World} {g:Nat} (l:List Str) (h:∀ (j:Nat) (s:Str),l[j]?=some s→W.cell? ⟨g,j,none⟩=some (.string s)):RelD W (old W) (.dp (l.map sv)) (.pointer (some ⟨g,0,none⟩)):=by
 refine .dp _ g 0 (fun j=>.string (l.getD j ⟨#[]⟩)) (fun j x hx=>?_) (fun j x hx=>?_)
 ·simp only [List.getElem?_map,Option.map_eq_some_iff] at hx
  obtain ⟨s,hs,rfl⟩:=hx
  have hc:=h j s hs
  rw [Nat.zero_add]
  refine ⟨zpF hc,?_,rfl⟩
  rw [hc,List.getD_eq_getElem?_getD,hs];rfl
 ·simp only [List.getElem?_map,Option.map_eq_some_iff] at hx
  obtain ⟨s,hs,rfl⟩:=hx
  have:l.getD j ⟨#[]⟩=s:=by rw [List.getD_eq_getElem?_getD,hs];rfl
  simp only [this]
  exact .v _ rfl
theorem ztp {s:ByteArray} {l:List UInt8} (h:s.data.toList=l):s=zd3 l:=by
 cases s with
 | mk d=>simp only [zd3];congr;rw [← h]
theorem laid_strs {P:Program} {W:World} {n:String} {g:Nat} {t e:TypeId} {k:Nat} {l:List (List UInt8)} (hr:Lib.VarReads P W n (.agg (l.map fun b=>.lit (.string b)))) (hg:P.globalNamed n=some g) (hty:(P.globals[g]?).map (·.type)=some t)
  (ht:P.underlying t=some (.array k e)) (he:P.underlying e=some .string) (hc:P.cellsOf e=1) (hk:l.length=k):∀ (j:Nat) (s:Str),(l.map zd3)[j]?=some s→W.cell? ⟨g,j,none⟩=some (.string s):=by
 intro j s hs
 obtain ⟨g',t',cs,fuel,p,h1,h2,h3,h4⟩:=hr
 obtain rfl:g'=g:=Option.some.inj (h1.symm.trans hg)
 obtain rfl:t'=t:=Option.some.inj (h2.symm.trans hty)
 simp only [List.getElem?_map,Option.map_eq_some_iff] at hs
 obtain ⟨b,hb,rfl⟩:=hs
 have hj:=zc3 hb
 obtain ⟨f',d,q,hd,hq⟩:=Lib.array_elem ht h4 j (by omega)
 simp only [List.getElem?_map,hb,Option.map_some,Option.some.injEq] at hd
 subst hd
 obtain ⟨s,e1,e2,_⟩:=DataW.trod_string he hq
 rw [World.var?_cell h1 h3]
 rw [hc,Nat.mul_one] at e1
 have e3:cs.toList[j]?=some (.string s):=by
  have:=congrArg (·[0]?) e1
  simpa [List.getElem?_take,List.getElem?_drop] using this
 have e4:s=zd3 b:=ztp (by simp only [Prod.mk.injEq,DataW.lit.injEq,Lit.string.injEq] at e2;exact e2.1.symm)
 rw [← e4]
 simpa using e3
theorem relV_ints {W:World} {a:Addr} {len cap:Nat} {zs:List Int} (h1:len≤cap) (h2:cap≤maxLen) (h3:zs.length=cap) (hc:∀ i,i < zs.length→W.cell? (a.add i)=some (.int .i64 (zs.getD i 0))) :
  RelV E0.T [] [] W (old W) (isl (zs.take len)) (.slice (some a) len cap):=by
 have hlen:((zs.take len).map fun n=>[iv n]).length=len:=by simp;omega
 have key:=RelD.sl (w:=W) (S:=old W) ((zs.take len).map fun n=>[iv n]) (some a) cap a.block a.off 1 (fun k=>.int .i64 (zs.getD k 0)) ?_ (by rw [hlen];exact h1) h2 (fun i c hi=>?_) (fun i j c x hi hj=>?_) (fun i j c x hi hj=>?_)
 ·rw [hlen] at key
  exact .d _ _ key
 ·intro hne
  have hz:0 < zs.length:=by
   rcases Nat.eq_zero_or_pos zs.length with h|h
   ·exact absurd (by simp [List.eq_nil_of_length_eq_zero h]) hne
   ·exact h
  have h0:=hc 0 hz
  have:a.spot=none:=by
   simp only [Addr.add,if_pos] at h0
   unfold World.cell? at h0
   split at h0
   ·cases hs:a.spot with
    | none=>rfl
    | some x=>rw [hs] at h0;simp at h0
   ·cases h0
  cases a
  simp only at this
  subst this
  rfl
 ·simp only [List.getElem?_map,Option.map_eq_some_iff] at hi
  obtain ⟨n,_,rfl⟩:=hi
  rfl
 ·simp only [List.getElem?_map,Option.map_eq_some_iff] at hi
  obtain ⟨n,hn,rfl⟩:=hi
  have hi2:=zc3 hn
  simp only [List.length_take] at hi2
  have hj0:j=0:=by
   cases j with
   | zero=>rfl
   | succ j=>simp at hj
  subst hj0
  have h0:=hc i (by omega)
  have e:a.add i=⟨a.block,a.off+(i * 1+0),none⟩:=by
   unfold Addr.add
   split
   ·rename_i hi0
    subst hi0
    have:a.spot=none:=by
     simp only [Addr.add,if_pos] at h0
     unfold World.cell? at h0
     split at h0
     ·cases hs:a.spot with
      | none=>rfl
      | some x=>rw [hs] at h0;simp at h0
     ·cases h0
    cases a
    simp only at this
    subst this
    rfl
   ·simp
  rw [e] at h0
  refine ⟨zpF h0,?_,rfl⟩
  rw [h0];simp
 ·simp only [List.getElem?_map,Option.map_eq_some_iff] at hi
  obtain ⟨n,hn,rfl⟩:=hi
  have hj0:j=0:=by
   cases j with
   | zero=>rfl
   | succ j=>simp at hj
  subst hj0
  simp only [List.getElem?_cons_zero,Option.some.injEq] at hj
  subst hj
  have:zs.getD (i * 1+0) 0=n:=by
   rw [List.getElem?_take] at hn
   split at hn
   ·simp only [Nat.mul_one,Nat.add_zero,List.getD_eq_getElem?_getD,hn];rfl
   ·cases hn
  simp only [this]
  exact .v _ rfl
theorem relV_nil {W:World}:RelV E0.T [] [] W (old W) (isl []) (.slice none 0 0) :=
 .d _ _ (RelD.sl [] none 0 0 0 1 (fun _=>.int .i64 0) (fun h=>absurd rfl h) (Nat.le_refl _) (by decide) (fun i c h=>by simp at h) (fun i j c x h=>by simp at h) (fun i j c x h=>by simp at h))
theorem oneCell_ok {P:Program} {w:World} {r:Reach} {b:Nat} {u:TypeId} {y:Value} (h:Cell.okWide P w r b u y):y.oneCell'=true:=by
 have h2:∀ y,Cell.ok P w r b u y→y.oneCell'=true:=by
  intro y h
  unfold Cell.ok at h
  split at h <;> first|rfl|exact h.elim
 unfold Cell.okWide at h
 split at h <;> first|rfl|exact h2 _ h
theorem calls_of {f:FuncId} {args:List AV} {b:Bool} (h:zab E0 f args [] (bv b) []) (hgo:GoFn E0.P f) {W:World} {vs:List Value} (hglob:∀ g cs,globs g=some cs→RelD W (old W) (.dp cs) (.pointer (some ⟨g,0,none⟩))) (hargs:PW (RelV E0.T [] [] W (old W)) args vs) :
  Calls E0.P f vs.toArray W fun e W'=>e=.returned (.bool b)∧Below W.heap.size W W':=by
 have hrel:Rel E0 [] [] (old W) W:=⟨rfl,fun b cs hb=>by simp at hb,fun b e xs sh hb=>by simp at hb,fun b es hb=>by simp at hb,fun b b' k k' g hb=>by simp at hb,fun b k g hb=>by simp at hb,fun a ha=>ha,fun b k g a hb=>by simp at hb,hglob⟩
 obtain ⟨fn,hf1,hf2,hf3⟩:=hgo
 have hp:∀ e W',Post E0 [] [] (old W) W (fun r' h''=>r'=bv b∧h''=[]) e W'→e=.returned (.bool b)∧Below W.heap.size W W':=by
  rintro e W' ⟨r,h',β',S',y,rfl,⟨rfl,rfl⟩,_,ex,rv⟩
  refine ⟨?_,ex.os,ex.tape,ex.output,ex.size,fun k hk=>ex.keep k hk fun b' k' hb=>by simp at hb⟩
  rw [rv.v_inv]
 rcases h [] (old W) W vs hrel hargs with ⟨_,hc⟩|⟨y,w',hrun,_⟩
 ·exact hc.mono hp
 ·exfalso
  simp only [callFunc,Sem.run_bind,Sem.run_pure,Result.andThen_ok,run_program,hf1,hf2,hf3,Bool.false_eq_true,if_false] at hrun
  cases hrun
end Go.AM
