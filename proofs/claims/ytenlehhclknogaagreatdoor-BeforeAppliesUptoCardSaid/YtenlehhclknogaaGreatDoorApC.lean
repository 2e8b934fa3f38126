/-
  Contracts of the program's functions, part 2.
-/
import Derived.Test.YtenlehhclknogaaGreatDoorApB
set_option linter.unusedSimpArgs false
set_option linter.unusedVariables false
namespace Go.AM
set_option maxRecDepth 100000
set_option linter.unusedSimpArgs false
set_option linter.unusedVariables false
theorem ze6 {p:Prop} (h:p:=by first|assumption|omega|(simp;done)|(simp;omega)):p:=h
theorem ziF {p:Prop} (h:p:=by first|assumption|exact zqK _ _ (by decide)|exact zqf _ _ _):p:=h
theorem zhm {p:Prop} (h:p:=by first|assumption|exact zof _ _):p:=h
theorem zkf {p:Prop} (h:p:=by first|assumption|exact zqK _ _ (by simp_all;omega)):p:=h
abbrev V.small (v:V):Prop:=v.text.size < 9223372036854775807
theorem zil:(⟨#[]⟩:Str).size < 9223372036854775807:=by decide
def zdE (v:V):Bool :=
 bif v.kind==(0:Int) then
  v.kind==(0:Int)&&(v.int==(0:Int)&&(v.text==ByteArray.mk #[]&&true))
 else
  bif v.kind==(1:Int) then
   ByteArray.toList v.text==(ByteArray.mk #[]).toList
  else
   bif v.kind==(2:Int) then
    bif v.int==(0:Int) then
     ByteArray.toList v.text==(ByteArray.mk #[]).toList
    else
     bif v.int==(1:Int) then
      ByteArray.toList v.text==(ByteArray.mk #[]).toList
     else
      false
   else
    bif v.kind==(3:Int) then
     bif v.int==(0:Int) then
      zlw v.text
     else
      false
    else
     false
theorem zf9 (v:V) (hv:v.small):zac E0 S.value_Valid [v.av] [] (bv (zdE v)) []:=by
 cases h1:v.kind==(0:Int)
 ·cases h2:v.kind==(1:Int)
  ·cases h3:v.kind==(2:Int)
   ·cases h4:v.kind==(3:Int)
    ·exact walk E0ok mix0 At.value_Valid rfl kr kr 3000 (y:=AV.v (Value.bool false)) [sb h1,sb h2,sb h3,sb h4] kr (by simp only [zdE,cond_true,cond_false,h1,h2,h3,h4] <;> rfl)
    ·cases h5:v.int==(0:Int)
     ·exact walk E0ok mix0 At.value_Valid rfl kr kr 3000 (y:=AV.v (Value.bool false)) [sb h1,sb h2,sb h3,sb h4,sb h5] kr (by simp only [zdE,cond_true,cond_false,h1,h2,h3,h4,h5] <;> rfl)
     ·exact walk E0ok mix0 At.value_Valid rfl kr kr 3000 (y:=AV.v (Value.bool (zlw v.text))) [sb h1,sb h2,sb h3,sb h4,sg h5,sc (zmB v.text (by first|assumption|(simp;done)|omega|(simp;omega)))] kr (by simp only [zdE,cond_true,cond_false,h1,h2,h3,h4,h5] <;> rfl)
   ·cases h6:v.int==(0:Int)
    ·cases h7:v.int==(1:Int)
     ·exact walk E0ok mix0 At.value_Valid rfl kr kr 3000 (y:=AV.v (Value.bool false)) [sb h1,sb h2,sb h3,sg h6,sb h7] kr (by simp only [zdE,cond_true,cond_false,h1,h2,h3,h6,h7] <;> rfl)
     ·exact walk E0ok mix0 At.value_Valid rfl kr kr 3000 (y:=AV.v (Value.bool (ByteArray.toList v.text==(ByteArray.mk #[]).toList))) [sb h1,sb h2,sb h3,sg h6,sg h7] kr (by simp only [zdE,cond_true,cond_false,h1,h2,h3,h6,h7] <;> rfl)
    ·exact walk E0ok mix0 At.value_Valid rfl kr kr 3000 (y:=AV.v (Value.bool (ByteArray.toList v.text==(ByteArray.mk #[]).toList))) [sb h1,sb h2,sb h3,sb h6] kr (by simp only [zdE,cond_true,cond_false,h1,h2,h3,h6] <;> rfl)
  ·exact walk E0ok mix0 At.value_Valid rfl kr kr 3000 (y:=AV.v (Value.bool (ByteArray.toList v.text==(ByteArray.mk #[]).toList))) [sb h1,sb h2] kr (by simp only [zdE,cond_true,cond_false,h1,h2] <;> rfl)
 ·exact walk E0ok mix0 At.value_Valid rfl kr kr 3000 (y:=AV.v (Value.bool (v.kind==(0:Int)&&(v.int==(0:Int)&&(v.text==ByteArray.mk #[]&&true))))) [sb h1,sq zaP] kr (by simp only [zdE,cond_true,cond_false,h1] <;> rfl)
def zc4 (v:V):Bool :=
 bif zdE v then
  bif v.kind==2 then
   true
  else
   v.kind==(0:Int)
 else
  false
theorem zbe (v:V) (hv:v.small):zac E0 S.logic_Valid [v.av] [] (bv (zc4 v)) []:=by
 unfold zc4
 cases h1:zdE v
 ·exact wk At.logic_Valid [sc (zf9 v ze6),sb h1] kr
 ·cases h2:v.kind==2
  ·exact wk At.logic_Valid [sc (zf9 v ze6),sg h1,sg h2] kr
  ·exact wk At.logic_Valid [sc (zf9 v ze6),sg h1,sb h2] kr
def lnot (v:V):V × Bool :=
 bif !zc4 v then
  (V.mk 0 0 (ByteArray.mk #[]),false)
 else
  bif v.kind==0 then
   (v,true)
  else
   (V.mk (2:Int) (if (v.int==(0:Int))=true then (1:Int) else (0:Int)) (ByteArray.mk #[]),true)
theorem zfE (v:V) (hv:v.small):zac E0 S.logic_Not [v.av] [] (.tup [(lnot v).1.av,bv (lnot v).2]) []:=by
 unfold lnot
 cases h1:!zc4 v
 ·cases h2:v.kind==0
  ·exact wk At.logic_Not [sc (zbe v ze6),sb h1,sb h2,sc (zbz (v.int==0))] kr
  ·exact wk At.logic_Not [sc (zbe v ze6),sb h1,sb h2] kr
 ·exact wk At.logic_Not [sc (zbe v ze6),sb h1] kr
def zfA (a b:V):V :=
 bif a.kind==2&&((a.int==if false=true then 1 else 0)&&(a.text==ByteArray.mk #[]&&true)) then
  V.mk 2 (if false=true then 1 else 0) (ByteArray.mk #[])
 else
  bif b.kind==2&&((b.int==if false=true then 1 else 0)&&(b.text==ByteArray.mk #[]&&true)) then
   V.mk 2 (if false=true then 1 else 0) (ByteArray.mk #[])
  else
   bif a.kind==0 then
    V.mk 0 0 (ByteArray.mk #[])
   else
    bif b.kind==0 then
     V.mk 0 0 (ByteArray.mk #[])
    else
     V.mk 2 (if true=true then 1 else 0) (ByteArray.mk #[])
theorem zkL (a b:V) :zac E0 S.logic_and [a.av,b.av] [] ((zfA a b).av) []:=by
 unfold zfA
 cases h1:a.kind==2&&((a.int==if false=true then 1 else 0)&&(a.text==ByteArray.mk #[]&&true))
 ·cases h2:b.kind==2&&((b.int==if false=true then 1 else 0)&&(b.text==ByteArray.mk #[]&&true))
  ·cases h3:a.kind==0
   ·cases h4:b.kind==0
    ·exact wk At.logic_and [sc (zbz false),sq zaP,sg h1,sq zaP,sb h2,sg h3,sb h4,sc (zbz true)] kr
    ·exact wk At.logic_and [sc (zbz false),sq zaP,sg h1,sq zaP,sb h2,sg h3,sb h4] kr
   ·exact wk At.logic_and [sc (zbz false),sq zaP,sg h1,sq zaP,sb h2,sb h3] kr
  ·exact wk At.logic_and [sc (zbz false),sq zaP,sg h1,sq zaP,sb h2] kr
 ·exact wk At.logic_and [sc (zbz false),sq zaP,sb h1] kr
def land (a b:V):V × Bool :=
 bif !zc4 a then
  (V.mk 0 0 (ByteArray.mk #[]),false)
 else
  bif !zc4 b then
   (V.mk 0 0 (ByteArray.mk #[]),false)
  else
   (zfA a b,true)
theorem zkJ (a b:V) (ha:a.small) (hb:b.small):zac E0 S.logic_And [a.av,b.av] [] (.tup [(land a b).1.av,bv (land a b).2]) []:=by
 unfold land
 cases h1:!zc4 a
 ·cases h2:!zc4 b
  ·exact wk At.logic_And [sc (zbe a ze6),sg h1,sc (zbe b ze6),sb h2,sc (zkL a b)] kr
  ·exact wk At.logic_And [sc (zbe a ze6),sg h1,sc (zbe b ze6),sb h2] kr
 ·exact wk At.logic_And [sc (zbe a ze6),sb h1] kr
theorem zp1 (c:Bool) {a b:V} (ha:a.small) (hb:b.small):(bif c then a else b).small:=by cases c <;> assumption
theorem zom (c:Bool) {α:Type} {a b:V × α} (ha:a.1.small) (hb:b.1.small):(bif c then a else b).1.small:=by cases c <;> assumption
theorem zof (a b:V):(zfA a b).small:=by
 unfold zfA;repeat' (first|apply zp1|exact zil)
def lor (a b:V):V × Bool :=
 bif !zc4 a then
  (V.mk 0 0 (ByteArray.mk #[]),false)
 else
  bif !zc4 b then
   (V.mk 0 0 (ByteArray.mk #[]),false)
  else
   ((lnot (zfA (lnot a).fst (lnot b).fst)).fst,(lnot (zfA (lnot a).fst (lnot b).fst)).snd)
theorem zqb (a b:V) (ha:a.small) (hb:b.small):zac E0 S.logic_Or [a.av,b.av] [] (.tup [(lor a b).1.av,bv (lor a b).2]) []:=by
 unfold lor
 cases h1:!zc4 a
 ·cases h2:!zc4 b
  ·exact wk At.logic_Or [sc (zbe a zhm),sg h1,sc (zbe b zhm),sb h2,sc (zfE a zhm),sc (zfE b zhm),sc (zkL ((lnot a).fst) ((lnot b).fst)),sc (zfE (zfA (lnot a).fst (lnot b).fst) zhm)] kr
  ·exact wk At.logic_Or [sc (zbe a zhm),sg h1,sc (zbe b zhm),sb h2] kr
 ·exact wk At.logic_Or [sc (zbe a zhm),sb h1] kr
def zq3 (a:V):Bool :=
 a.kind==(2:Int)&&((a.int==if true=true then (1:Int) else (0:Int))&&(a.text==ByteArray.mk #[]&&true))
theorem zl0 (a:V) :zac E0 S.logic_IsTrue [a.av] [] (bv (zq3 a)) []:=by
 exact wk At.logic_IsTrue [sd [(1,[sc (zbz true)]),(2,[sq zaP])]] kr
def aAdd (a b:Int):Int × Bool :=
 bif decide (0 < b) then
  bif decide (IntKind.i64.wrap (9223372036854775807 - b) < a) then
   (0,false)
  else
   bif decide (b < 0) then
    bif decide (a < IntKind.i64.wrap (-9223372036854775808 - b)) then
     (0,false)
    else
     (IntKind.i64.wrap (a+b),true)
   else
    (IntKind.i64.wrap (a+b),true)
 else
  bif decide (b < 0) then
   bif decide (a < IntKind.i64.wrap (-9223372036854775808 - b)) then
    (0,false)
   else
    (IntKind.i64.wrap (a+b),true)
  else
   (IntKind.i64.wrap (a+b),true)
theorem zdM (a b:Int) :zac E0 S.arith_Add [iv a,iv b] [] (.tup [iv (aAdd a b).1,bv (aAdd a b).2]) []:=by
 unfold aAdd
 cases h1:decide (0 < b)
 ·cases h2:decide (b < 0)
  ·exact wk At.arith_Add [sb h1,sb h2,si (e:=IntKind.i64.wrap (a+b)) rfl] kr
  ·cases h3:decide (a < IntKind.i64.wrap (-9223372036854775808 - b))
   ·exact wk At.arith_Add [sb h1,sg h2,si (e:=IntKind.i64.wrap (-9223372036854775808 - b)) rfl,sb h3,si (e:=IntKind.i64.wrap (a+b)) rfl] kr
   ·exact wk At.arith_Add [sb h1,sg h2,si (e:=IntKind.i64.wrap (-9223372036854775808 - b)) rfl,sb h3] kr
 ·cases h4:decide (IntKind.i64.wrap (9223372036854775807 - b) < a)
  ·cases h5:decide (b < 0)
   ·exact wk At.arith_Add [sg h1,si (e:=IntKind.i64.wrap (9223372036854775807 - b)) rfl,sg h4,sb h5,si (e:=IntKind.i64.wrap (a+b)) rfl] kr
   ·cases h6:decide (a < IntKind.i64.wrap (-9223372036854775808 - b))
    ·exact wk At.arith_Add [sg h1,si (e:=IntKind.i64.wrap (9223372036854775807 - b)) rfl,sg h4,sg h5,si (e:=IntKind.i64.wrap (-9223372036854775808 - b)) rfl,sb h6,si (e:=IntKind.i64.wrap (a+b)) rfl] kr
    ·exact wk At.arith_Add [sg h1,si (e:=IntKind.i64.wrap (9223372036854775807 - b)) rfl,sg h4,sg h5,si (e:=IntKind.i64.wrap (-9223372036854775808 - b)) rfl,sb h6] kr
  ·exact wk At.arith_Add [sg h1,si (e:=IntKind.i64.wrap (9223372036854775807 - b)) rfl,sb h4] kr
def aSub (a b:Int):Int × Bool :=
 bif decide (b < 0) then
  bif decide (IntKind.i64.wrap (9223372036854775807+b) < a) then
   (0,false)
  else
   bif decide (0 < b) then
    bif decide (a < IntKind.i64.wrap (-9223372036854775808+b)) then
     (0,false)
    else
     (IntKind.i64.wrap (a - b),true)
   else
    (IntKind.i64.wrap (a - b),true)
 else
  bif decide (0 < b) then
   bif decide (a < IntKind.i64.wrap (-9223372036854775808+b)) then
    (0,false)
   else
    (IntKind.i64.wrap (a - b),true)
  else
   (IntKind.i64.wrap (a - b),true)
theorem zcy (a b:Int) :zac E0 S.arith_Subtract [iv a,iv b] [] (.tup [iv (aSub a b).1,bv (aSub a b).2]) []:=by
 unfold aSub
 cases h1:decide (b < 0)
 ·cases h2:decide (0 < b)
  ·exact wk At.arith_Subtract [sb h1,sb h2,si (e:=IntKind.i64.wrap (a - b)) rfl] kr
  ·cases h3:decide (a < IntKind.i64.wrap (-9223372036854775808+b))
   ·exact wk At.arith_Subtract [sb h1,sg h2,si (e:=IntKind.i64.wrap (-9223372036854775808+b)) rfl,sb h3,si (e:=IntKind.i64.wrap (a - b)) rfl] kr
   ·exact wk At.arith_Subtract [sb h1,sg h2,si (e:=IntKind.i64.wrap (-9223372036854775808+b)) rfl,sb h3] kr
 ·cases h4:decide (IntKind.i64.wrap (9223372036854775807+b) < a)
  ·cases h5:decide (0 < b)
   ·exact wk At.arith_Subtract [sg h1,si (e:=IntKind.i64.wrap (9223372036854775807+b)) rfl,sg h4,sb h5,si (e:=IntKind.i64.wrap (a - b)) rfl] kr
   ·cases h6:decide (a < IntKind.i64.wrap (-9223372036854775808+b))
    ·exact wk At.arith_Subtract [sg h1,si (e:=IntKind.i64.wrap (9223372036854775807+b)) rfl,sg h4,sg h5,si (e:=IntKind.i64.wrap (-9223372036854775808+b)) rfl,sb h6,si (e:=IntKind.i64.wrap (a - b)) rfl] kr
    ·exact wk At.arith_Subtract [sg h1,si (e:=IntKind.i64.wrap (9223372036854775807+b)) rfl,sg h4,sg h5,si (e:=IntKind.i64.wrap (-9223372036854775808+b)) rfl,sb h6] kr
  ·exact wk At.arith_Subtract [sg h1,si (e:=IntKind.i64.wrap (9223372036854775807+b)) rfl,sb h4] kr
def aMul (a b:Int):Int × Bool :=
 bif a==0 then
  (0,true)
 else
  bif b==0 then
   (0,true)
  else
   bif a==-9223372036854775808 then
    bif b==-1 then
     (0,false)
    else
     bif b==-9223372036854775808 then
      bif a==-1 then
       (0,false)
      else
       bif IntKind.i64.wrap ((IntKind.i64.wrap (a * b)).tdiv b) != a then
        (0,false)
       else
        (IntKind.i64.wrap (a * b),true)
     else
      bif IntKind.i64.wrap ((IntKind.i64.wrap (a * b)).tdiv b) != a then
       (0,false)
      else
       (IntKind.i64.wrap (a * b),true)
   else
    bif b==-9223372036854775808 then
     bif a==-1 then
      (0,false)
     else
      bif IntKind.i64.wrap ((IntKind.i64.wrap (a * b)).tdiv b) != a then
       (0,false)
      else
       (IntKind.i64.wrap (a * b),true)
    else
     bif IntKind.i64.wrap ((IntKind.i64.wrap (a * b)).tdiv b) != a then
      (0,false)
     else
      (IntKind.i64.wrap (a * b),true)
theorem zcA (a b:Int) :zac E0 S.arith_Multiply [iv a,iv b] [] (.tup [iv (aMul a b).1,bv (aMul a b).2]) []:=by
 unfold aMul
 cases h1:a==0
 ·cases h2:b==0
  ·cases h3:a==-9223372036854775808
   ·cases h4:b==-9223372036854775808
    ·cases h5:IntKind.i64.wrap ((IntKind.i64.wrap (a * b)).tdiv b) != a
     ·exact wk At.arith_Multiply [sg h1,sb h2,sb h3,sb h4,si (e:=IntKind.i64.wrap (a * b)) rfl,sx (.i (IntKind.i64.wrap ((IntKind.i64.wrap (a * b)).tdiv b))) (show b≠(0:Int)∧(IntKind.i64.wrap ((IntKind.i64.wrap (a * b)).tdiv b):Int)=IntKind.i64.wrap ((IntKind.i64.wrap (a * b)).tdiv b) from ⟨(by simp_all),rfl⟩),sb h5] kr
     ·exact wk At.arith_Multiply [sg h1,sb h2,sb h3,sb h4,si (e:=IntKind.i64.wrap (a * b)) rfl,sx (.i (IntKind.i64.wrap ((IntKind.i64.wrap (a * b)).tdiv b))) (show b≠(0:Int)∧(IntKind.i64.wrap ((IntKind.i64.wrap (a * b)).tdiv b):Int)=IntKind.i64.wrap ((IntKind.i64.wrap (a * b)).tdiv b) from ⟨(by simp_all),rfl⟩),sb h5] kr
    ·cases h6:a==-1
     ·cases h7:IntKind.i64.wrap ((IntKind.i64.wrap (a * b)).tdiv b) != a
      ·exact wk At.arith_Multiply [sg h1,sb h2,sb h3,sg h4,sb h6,si (e:=IntKind.i64.wrap (a * b)) rfl,sx (.i (IntKind.i64.wrap ((IntKind.i64.wrap (a * b)).tdiv b))) (show b≠(0:Int)∧(IntKind.i64.wrap ((IntKind.i64.wrap (a * b)).tdiv b):Int)=IntKind.i64.wrap ((IntKind.i64.wrap (a * b)).tdiv b) from ⟨(by simp_all),rfl⟩),sb h7] kr
      ·exact wk At.arith_Multiply [sg h1,sb h2,sb h3,sg h4,sb h6,si (e:=IntKind.i64.wrap (a * b)) rfl,sx (.i (IntKind.i64.wrap ((IntKind.i64.wrap (a * b)).tdiv b))) (show b≠(0:Int)∧(IntKind.i64.wrap ((IntKind.i64.wrap (a * b)).tdiv b):Int)=IntKind.i64.wrap ((IntKind.i64.wrap (a * b)).tdiv b) from ⟨(by simp_all),rfl⟩),sb h7] kr
     ·exact wk At.arith_Multiply [sg h1,sb h2,sb h3,sg h4,sb h6] kr
   ·cases h8:b==-1
    ·cases h9:b==-9223372036854775808
     ·cases h10:IntKind.i64.wrap ((IntKind.i64.wrap (a * b)).tdiv b) != a
      ·exact wk At.arith_Multiply [sg h1,sb h2,sg h3,sg h8,sb h9,si (e:=IntKind.i64.wrap (a * b)) rfl,sx (.i (IntKind.i64.wrap ((IntKind.i64.wrap (a * b)).tdiv b))) (show b≠(0:Int)∧(IntKind.i64.wrap ((IntKind.i64.wrap (a * b)).tdiv b):Int)=IntKind.i64.wrap ((IntKind.i64.wrap (a * b)).tdiv b) from ⟨(by simp_all),rfl⟩),sb h10] kr
      ·exact wk At.arith_Multiply [sg h1,sb h2,sg h3,sg h8,sb h9,si (e:=IntKind.i64.wrap (a * b)) rfl,sx (.i (IntKind.i64.wrap ((IntKind.i64.wrap (a * b)).tdiv b))) (show b≠(0:Int)∧(IntKind.i64.wrap ((IntKind.i64.wrap (a * b)).tdiv b):Int)=IntKind.i64.wrap ((IntKind.i64.wrap (a * b)).tdiv b) from ⟨(by simp_all),rfl⟩),sb h10] kr
     ·cases h11:a==-1
      ·cases h12:IntKind.i64.wrap ((IntKind.i64.wrap (a * b)).tdiv b) != a
       ·exact wk At.arith_Multiply [sg h1,sb h2,sg h3,sg h8,sg h9,sb h11,si (e:=IntKind.i64.wrap (a * b)) rfl,sx (.i (IntKind.i64.wrap ((IntKind.i64.wrap (a * b)).tdiv b))) (show b≠(0:Int)∧(IntKind.i64.wrap ((IntKind.i64.wrap (a * b)).tdiv b):Int)=IntKind.i64.wrap ((IntKind.i64.wrap (a * b)).tdiv b) from ⟨(by simp_all),rfl⟩),sb h12] kr
       ·exact wk At.arith_Multiply [sg h1,sb h2,sg h3,sg h8,sg h9,sb h11,si (e:=IntKind.i64.wrap (a * b)) rfl,sx (.i (IntKind.i64.wrap ((IntKind.i64.wrap (a * b)).tdiv b))) (show b≠(0:Int)∧(IntKind.i64.wrap ((IntKind.i64.wrap (a * b)).tdiv b):Int)=IntKind.i64.wrap ((IntKind.i64.wrap (a * b)).tdiv b) from ⟨(by simp_all),rfl⟩),sb h12] kr
      ·exact wk At.arith_Multiply [sg h1,sb h2,sg h3,sg h8,sg h9,sb h11] kr
    ·exact wk At.arith_Multiply [sg h1,sb h2,sg h3,sb h8] kr
  ·exact wk At.arith_Multiply [sg h1,sb h2] kr
 ·exact wk At.arith_Multiply [sb h1] kr
def aDiv (a b:Int):Int × Bool :=
 bif b==0 then
  (0,false)
 else
  bif a==-9223372036854775808 then
   bif b==-1 then
    (0,false)
   else
    (IntKind.i64.wrap (a.tdiv b),true)
  else
   (IntKind.i64.wrap (a.tdiv b),true)
theorem zhR (a b:Int) :zac E0 S.arith_Divide [iv a,iv b] [] (.tup [iv (aDiv a b).1,bv (aDiv a b).2]) []:=by
 unfold aDiv
 cases h1:b==0
 ·cases h2:a==-9223372036854775808
  ·exact wk At.arith_Divide [sg h1,sb h2,sx (.i (IntKind.i64.wrap (a.tdiv b))) (show b≠(0:Int)∧(IntKind.i64.wrap (a.tdiv b):Int)=IntKind.i64.wrap (a.tdiv b) from ⟨(by simp_all),rfl⟩)] kr
  ·cases h3:b==-1
   ·exact wk At.arith_Divide [sg h1,sg h2,sb h3,sx (.i (IntKind.i64.wrap (a.tdiv b))) (show b≠(0:Int)∧(IntKind.i64.wrap (a.tdiv b):Int)=IntKind.i64.wrap (a.tdiv b) from ⟨(by simp_all),rfl⟩)] kr
   ·exact wk At.arith_Divide [sg h1,sg h2,sb h3] kr
 ·exact wk At.arith_Divide [sb h1] kr
def aMod (a b:Int):Int × Bool :=
 bif b==0 then
  (0,false)
 else
  bif b==-1 then
   (0,true)
  else
   (a.tmod b,true)
theorem zif (a b:Int) :zac E0 S.arith_Modulo [iv a,iv b] [] (.tup [iv (aMod a b).1,bv (aMod a b).2]) []:=by
 unfold aMod
 cases h1:b==0
 ·cases h2:b==-1
  ·exact wk At.arith_Modulo [sb h1,sb h2,sx (.i (a.tmod b)) (show b≠(0:Int)∧(a.tmod b:Int)=a.tmod b from ⟨(by simp_all),rfl⟩)] kr
  ·exact wk At.arith_Modulo [sb h1,sb h2] kr
 ·exact wk At.arith_Modulo [sb h1] kr
def zdp (v:V) (ok:Bool):V × Int :=
 bif !ok then
  (V.mk 0 0 (ByteArray.mk #[]),5)
 else
  (v,0)
theorem zdD (v:V) (ok:Bool) :zac E0 S.evaluate_truth [v.av,bv ok] [] (.tup [(zdp v ok).1.av,iv (zdp v ok).2]) []:=by
 unfold zdp
 cases h1:!ok
 ·exact wk At.evaluate_truth [sb h1] kr
 ·exact wk At.evaluate_truth [sb h1] kr
def zm8 (op c:Int):Bool:=bif op==3 then c==0 else bif op==4 then c != 0 else bif op==5 then decide (c < 0) else bif op==6 then decide (c≤0) else bif op==7 then decide (0 < c) else decide (0≤c)
abbrev CmpArr (op c:Int):Prop:=ArrAt [.bl false,.bl false,.bl false,bv (c==0),bv (c != 0),bv (decide (c < 0)),bv (decide (c≤0)),bv (decide (0 < c)),bv (decide (0≤c))] op 9 [bv (zm8 op c)] 1
theorem zqK (op c:Int) (ho:3≤op∧op≤8):CmpArr op c:=by
 have h:op=3∨op=4∨op=5∨op=6∨op=7∨op=8:=by omega
 rcases h with rfl|rfl|rfl|rfl|rfl|rfl <;> exact ⟨by decide,by decide,rfl,rfl⟩
def vCmp (op:Int) (a b:V):V × Int :=
 bif a.kind==0 then
  (V.mk 0 0 (ByteArray.mk #[]),0)
 else
  bif b.kind==0 then
   (V.mk 0 0 (ByteArray.mk #[]),0)
  else
   bif a.kind != b.kind then
    (V.mk 0 0 (ByteArray.mk #[]),5)
   else
    (V.mk 2 (if zm8 op (cmpV a b)=true then 1 else 0) (ByteArray.mk #[]),0)
theorem zbI (op:Int) (a b:V) (he:ArrAt [.bl false,.bl false,.bl false,bv (cmpV a b==0),bv (cmpV a b != 0),bv (decide (cmpV a b < 0)),bv (decide (cmpV a b≤0)),bv (decide (0 < cmpV a b)),bv (decide (0≤cmpV a b))] op 9 [bv (zm8 op (cmpV a b))] 1):zac E0 S.evaluate_comparison [iv op,a.av,b.av] [] (.tup [(vCmp op a b).1.av,iv (vCmp op a b).2]) []:=by
 unfold vCmp
 cases h1:a.kind==0
 ·cases h2:b.kind==0
  ·cases h3:a.kind != b.kind
   ·exact wk At.evaluate_comparison [sc (zai a),sg h1,sc (zai b),sb h2,sb h3,sc (zc7 a b),sa he,sc (zbz (zm8 op (cmpV a b)))] kr
   ·exact wk At.evaluate_comparison [sc (zai a),sg h1,sc (zai b),sb h2,sb h3] kr
  ·exact wk At.evaluate_comparison [sc (zai a),sg h1,sc (zai b),sb h2] kr
 ·exact wk At.evaluate_comparison [sc (zai a),sb h1] kr
def zeT (op:Int) (a b:V):V × Int :=
 bif a.kind==0 then
  (V.mk 0 0 (ByteArray.mk #[]),0)
 else
  bif b.kind==0 then
   (V.mk 0 0 (ByteArray.mk #[]),0)
  else
   bif a.kind != 1 then
    (V.mk 0 0 (ByteArray.mk #[]),5)
   else
    bif b.kind != 1 then
     (V.mk 0 0 (ByteArray.mk #[]),5)
    else
     bif op==12 then
      bif b.int==0 then
       (V.mk 0 0 (ByteArray.mk #[]),7)
      else
       bif op==9 then
        bif !(aAdd a.int b.int).snd then
         (V.mk 0 0 (ByteArray.mk #[]),6)
        else
         (V.mk 1 (aAdd a.int b.int).fst (ByteArray.mk #[]),0)
       else
        bif op==10 then
         bif !(aSub a.int b.int).snd then
          (V.mk 0 0 (ByteArray.mk #[]),6)
         else
          (V.mk 1 (aSub a.int b.int).fst (ByteArray.mk #[]),0)
        else
         bif op==11 then
          bif !(aMul a.int b.int).snd then
           (V.mk 0 0 (ByteArray.mk #[]),6)
          else
           (V.mk 1 (aMul a.int b.int).fst (ByteArray.mk #[]),0)
         else
          bif !(aDiv a.int b.int).snd then
           (V.mk 0 0 (ByteArray.mk #[]),6)
          else
           (V.mk 1 (aDiv a.int b.int).fst (ByteArray.mk #[]),0)
     else
      bif op==13 then
       bif b.int==0 then
        (V.mk 0 0 (ByteArray.mk #[]),7)
       else
        bif op==9 then
         bif !(aAdd a.int b.int).snd then
          (V.mk 0 0 (ByteArray.mk #[]),6)
         else
          (V.mk 1 (aAdd a.int b.int).fst (ByteArray.mk #[]),0)
        else
         bif op==10 then
          bif !(aSub a.int b.int).snd then
           (V.mk 0 0 (ByteArray.mk #[]),6)
          else
           (V.mk 1 (aSub a.int b.int).fst (ByteArray.mk #[]),0)
         else
          bif op==11 then
           bif !(aMul a.int b.int).snd then
            (V.mk 0 0 (ByteArray.mk #[]),6)
           else
            (V.mk 1 (aMul a.int b.int).fst (ByteArray.mk #[]),0)
          else
           bif !(aMod a.int b.int).snd then
            (V.mk 0 0 (ByteArray.mk #[]),6)
           else
            (V.mk 1 (aMod a.int b.int).fst (ByteArray.mk #[]),0)
      else
       bif op==9 then
        bif !(aAdd a.int b.int).snd then
         (V.mk 0 0 (ByteArray.mk #[]),6)
        else
         (V.mk 1 (aAdd a.int b.int).fst (ByteArray.mk #[]),0)
       else
        bif op==10 then
         bif !(aSub a.int b.int).snd then
          (V.mk 0 0 (ByteArray.mk #[]),6)
         else
          (V.mk 1 (aSub a.int b.int).fst (ByteArray.mk #[]),0)
        else
         bif op==11 then
          bif !(aMul a.int b.int).snd then
           (V.mk 0 0 (ByteArray.mk #[]),6)
          else
           (V.mk 1 (aMul a.int b.int).fst (ByteArray.mk #[]),0)
         else
          (V.mk 0 0 (ByteArray.mk #[]),6)
theorem zex (op:Int) (a b:V) :zac E0 S.evaluate_arithmetic [iv op,a.av,b.av] [] (.tup [(zeT op a b).1.av,iv (zeT op a b).2]) []:=by
 unfold zeT
 cases h1:a.kind==0
 ·cases h2:b.kind==0
  ·cases h3:a.kind != 1
   ·cases h4:b.kind != 1
    ·cases h5:op==12
     ·cases h6:op==13
      ·cases h7:op==9
       ·cases h8:op==10
        ·cases h9:op==11
         ·exact wk At.evaluate_arithmetic [sc (zai a),sg h1,sc (zai b),sb h2,sg h3,sb h4,sg h5,sb h6,sb h7,sb h8,sb h9,sb h5,sb h6] kr
         ·cases h10:!(aMul a.int b.int).snd
          ·exact wk At.evaluate_arithmetic [sc (zai a),sg h1,sc (zai b),sb h2,sg h3,sb h4,sg h5,sb h6,sb h7,sb h8,sb h9,sc (zcA a.int b.int),sb h10,sc (zbc ((aMul a.int b.int).fst))] kr
          ·exact wk At.evaluate_arithmetic [sc (zai a),sg h1,sc (zai b),sb h2,sg h3,sb h4,sg h5,sb h6,sb h7,sb h8,sb h9,sc (zcA a.int b.int),sb h10] kr
        ·cases h11:!(aSub a.int b.int).snd
         ·exact wk At.evaluate_arithmetic [sc (zai a),sg h1,sc (zai b),sb h2,sg h3,sb h4,sg h5,sb h6,sb h7,sb h8,sc (zcy a.int b.int),sb h11,sc (zbc ((aSub a.int b.int).fst))] kr
         ·exact wk At.evaluate_arithmetic [sc (zai a),sg h1,sc (zai b),sb h2,sg h3,sb h4,sg h5,sb h6,sb h7,sb h8,sc (zcy a.int b.int),sb h11] kr
       ·cases h12:!(aAdd a.int b.int).snd
        ·exact wk At.evaluate_arithmetic [sc (zai a),sg h1,sc (zai b),sb h2,sg h3,sb h4,sg h5,sb h6,sb h7,sc (zdM a.int b.int),sb h12,sc (zbc ((aAdd a.int b.int).fst))] kr
        ·exact wk At.evaluate_arithmetic [sc (zai a),sg h1,sc (zai b),sb h2,sg h3,sb h4,sg h5,sb h6,sb h7,sc (zdM a.int b.int),sb h12] kr
      ·cases h13:b.int==0
       ·cases h14:op==9
        ·cases h15:op==10
         ·cases h16:op==11
          ·cases h17:!(aMod a.int b.int).snd
           ·exact wk At.evaluate_arithmetic [sc (zai a),sg h1,sc (zai b),sb h2,sg h3,sb h4,sg h5,sg h6,sb h13,sb h14,sb h15,sb h16,sb h5,sb h6,sc (zif a.int b.int),sb h17,sc (zbc ((aMod a.int b.int).fst))] kr
           ·exact wk At.evaluate_arithmetic [sc (zai a),sg h1,sc (zai b),sb h2,sg h3,sb h4,sg h5,sg h6,sb h13,sb h14,sb h15,sb h16,sb h5,sb h6,sc (zif a.int b.int),sb h17] kr
          ·cases h18:!(aMul a.int b.int).snd
           ·exact wk At.evaluate_arithmetic [sc (zai a),sg h1,sc (zai b),sb h2,sg h3,sb h4,sg h5,sg h6,sb h13,sb h14,sb h15,sb h16,sc (zcA a.int b.int),sb h18,sc (zbc ((aMul a.int b.int).fst))] kr
           ·exact wk At.evaluate_arithmetic [sc (zai a),sg h1,sc (zai b),sb h2,sg h3,sb h4,sg h5,sg h6,sb h13,sb h14,sb h15,sb h16,sc (zcA a.int b.int),sb h18] kr
         ·cases h19:!(aSub a.int b.int).snd
          ·exact wk At.evaluate_arithmetic [sc (zai a),sg h1,sc (zai b),sb h2,sg h3,sb h4,sg h5,sg h6,sb h13,sb h14,sb h15,sc (zcy a.int b.int),sb h19,sc (zbc ((aSub a.int b.int).fst))] kr
          ·exact wk At.evaluate_arithmetic [sc (zai a),sg h1,sc (zai b),sb h2,sg h3,sb h4,sg h5,sg h6,sb h13,sb h14,sb h15,sc (zcy a.int b.int),sb h19] kr
        ·cases h20:!(aAdd a.int b.int).snd
         ·exact wk At.evaluate_arithmetic [sc (zai a),sg h1,sc (zai b),sb h2,sg h3,sb h4,sg h5,sg h6,sb h13,sb h14,sc (zdM a.int b.int),sb h20,sc (zbc ((aAdd a.int b.int).fst))] kr
         ·exact wk At.evaluate_arithmetic [sc (zai a),sg h1,sc (zai b),sb h2,sg h3,sb h4,sg h5,sg h6,sb h13,sb h14,sc (zdM a.int b.int),sb h20] kr
       ·exact wk At.evaluate_arithmetic [sc (zai a),sg h1,sc (zai b),sb h2,sg h3,sb h4,sg h5,sg h6,sb h13] kr
     ·cases h21:b.int==0
      ·cases h22:op==9
       ·cases h23:op==10
        ·cases h24:op==11
         ·cases h25:!(aDiv a.int b.int).snd
          ·exact wk At.evaluate_arithmetic [sc (zai a),sg h1,sc (zai b),sb h2,sg h3,sb h4,sb h5,sb h21,sb h22,sb h23,sb h24,sb h5,sc (zhR a.int b.int),sb h25,sc (zbc ((aDiv a.int b.int).fst))] kr
          ·exact wk At.evaluate_arithmetic [sc (zai a),sg h1,sc (zai b),sb h2,sg h3,sb h4,sb h5,sb h21,sb h22,sb h23,sb h24,sb h5,sc (zhR a.int b.int),sb h25] kr
         ·cases h26:!(aMul a.int b.int).snd
          ·exact wk At.evaluate_arithmetic [sc (zai a),sg h1,sc (zai b),sb h2,sg h3,sb h4,sb h5,sb h21,sb h22,sb h23,sb h24,sc (zcA a.int b.int),sb h26,sc (zbc ((aMul a.int b.int).fst))] kr
          ·exact wk At.evaluate_arithmetic [sc (zai a),sg h1,sc (zai b),sb h2,sg h3,sb h4,sb h5,sb h21,sb h22,sb h23,sb h24,sc (zcA a.int b.int),sb h26] kr
        ·cases h27:!(aSub a.int b.int).snd
         ·exact wk At.evaluate_arithmetic [sc (zai a),sg h1,sc (zai b),sb h2,sg h3,sb h4,sb h5,sb h21,sb h22,sb h23,sc (zcy a.int b.int),sb h27,sc (zbc ((aSub a.int b.int).fst))] kr
         ·exact wk At.evaluate_arithmetic [sc (zai a),sg h1,sc (zai b),sb h2,sg h3,sb h4,sb h5,sb h21,sb h22,sb h23,sc (zcy a.int b.int),sb h27] kr
       ·cases h28:!(aAdd a.int b.int).snd
        ·exact wk At.evaluate_arithmetic [sc (zai a),sg h1,sc (zai b),sb h2,sg h3,sb h4,sb h5,sb h21,sb h22,sc (zdM a.int b.int),sb h28,sc (zbc ((aAdd a.int b.int).fst))] kr
        ·exact wk At.evaluate_arithmetic [sc (zai a),sg h1,sc (zai b),sb h2,sg h3,sb h4,sb h5,sb h21,sb h22,sc (zdM a.int b.int),sb h28] kr
      ·exact wk At.evaluate_arithmetic [sc (zai a),sg h1,sc (zai b),sb h2,sg h3,sb h4,sb h5,sb h21] kr
    ·exact wk At.evaluate_arithmetic [sc (zai a),sg h1,sc (zai b),sb h2,sg h3,sb h4] kr
   ·exact wk At.evaluate_arithmetic [sc (zai a),sg h1,sc (zai b),sb h2,sb h3] kr
  ·exact wk At.evaluate_arithmetic [sc (zai a),sg h1,sc (zai b),sb h2] kr
 ·exact wk At.evaluate_arithmetic [sc (zai a),sb h1] kr
theorem zqf (op:Int) (a b:V):(vCmp op a b).1.small:=by
 unfold vCmp;repeat' (first|apply zom|exact zil)
def zfx (x y z:V):V × Int :=
 bif (vCmp 6 y x).snd != 0 then
  (V.mk 0 0 (ByteArray.mk #[]),(vCmp 6 y x).snd)
 else
  bif (vCmp 6 x z).snd != 0 then
   (V.mk 0 0 (ByteArray.mk #[]),(vCmp 6 x z).snd)
  else
   ((zdp (land (vCmp 6 y x).fst (vCmp 6 x z).fst).fst (land (vCmp 6 y x).fst (vCmp 6 x z).fst).snd).fst,(zdp (land (vCmp 6 y x).fst (vCmp 6 x z).fst).fst (land (vCmp 6 y x).fst (vCmp 6 x z).fst).snd).snd)
theorem zkb (x y z:V) :zac E0 S.evaluate_between [vsl [x,y,z]] [] (.tup [(zfx x y z).1.av,iv (zfx x y z).2]) []:=by
 unfold zfx
 cases h1:(vCmp 6 y x).snd != 0
 ·cases h2:(vCmp 6 x z).snd != 0
  ·exact wk At.evaluate_between [sdm [(1,[se (xs:=[[iv x.kind,iv x.int,sv x.text],[iv y.kind,iv y.int,sv y.text],[iv z.kind,iv z.int,sv z.text]]) (i:=1) (c:=[iv y.kind,iv y.int,sv y.text]) (n:=3) ⟨by decide,rfl,rfl⟩]),(4,[se (xs:=[[iv x.kind,iv x.int,sv x.text],[iv y.kind,iv y.int,sv y.text],[iv z.kind,iv z.int,sv z.text]]) (i:=0) (c:=[iv x.kind,iv x.int,sv x.text]) (n:=3) ⟨by decide,rfl,rfl⟩]),(6,[sc (zbI 6 y x ziF)])] 0 [(0,AV.sl [[iv x.kind,iv x.int,sv x.text],[iv y.kind,iv y.int,sv y.text],[iv z.kind,iv z.int,sv z.text]]),(2,AV.p 0 0),(3,iv 0),(4,AV.p 1 0),(5,iv (vCmp 6 y x).snd),(7,AV.tup [AV.agg [iv (vCmp 6 y x).fst.kind,iv (vCmp 6 y x).fst.int,sv (vCmp 6 y x).fst.text],iv (vCmp 6 y x).snd]),(8,AV.sl [[iv x.kind,iv x.int,sv x.text],[iv y.kind,iv y.int,sv y.text],[iv z.kind,iv z.int,sv z.text]]),(9,AV.dp [iv y.kind,iv y.int,sv y.text]),(10,AV.agg [iv y.kind,iv y.int,sv y.text]),(11,AV.sl [[iv x.kind,iv x.int,sv x.text],[iv y.kind,iv y.int,sv y.text],[iv z.kind,iv z.int,sv z.text]]),(12,AV.dp [iv x.kind,iv x.int,sv x.text]),(13,AV.agg [iv x.kind,iv x.int,sv x.text]),(14,AV.tup [AV.agg [iv (vCmp 6 y x).fst.kind,iv (vCmp 6 y x).fst.int,sv (vCmp 6 y x).fst.text],iv (vCmp 6 y x).snd]),(15,AV.agg [iv (vCmp 6 y x).fst.kind,iv (vCmp 6 y x).fst.int,sv (vCmp 6 y x).fst.text]),(16,iv (vCmp 6 y x).snd)] [Blk.box [iv 0,iv 0,sv (ByteArray.mk #[])],Blk.box [iv (vCmp 6 y x).fst.kind,iv (vCmp 6 y x).fst.int,sv (vCmp 6 y x).fst.text]],sb h1,sdm [(1,[se (xs:=[[iv x.kind,iv x.int,sv x.text],[iv y.kind,iv y.int,sv y.text],[iv z.kind,iv z.int,sv z.text]]) (i:=0) (c:=[iv x.kind,iv x.int,sv x.text]) (n:=3) ⟨by decide,rfl,rfl⟩]),(4,[se (xs:=[[iv x.kind,iv x.int,sv x.text],[iv y.kind,iv y.int,sv y.text],[iv z.kind,iv z.int,sv z.text]]) (i:=2) (c:=[iv z.kind,iv z.int,sv z.text]) (n:=3) ⟨by decide,rfl,rfl⟩]),(6,[sc (zbI 6 x z ziF)])] 0 [(0,AV.sl [[iv x.kind,iv x.int,sv x.text],[iv y.kind,iv y.int,sv y.text],[iv z.kind,iv z.int,sv z.text]]),(2,AV.p 0 0),(3,iv 0),(4,AV.p 1 0),(5,iv (vCmp 6 x z).snd),(6,AV.p 2 0),(7,AV.tup [AV.agg [iv (vCmp 6 y x).fst.kind,iv (vCmp 6 y x).fst.int,sv (vCmp 6 y x).fst.text],iv (vCmp 6 y x).snd]),(8,AV.sl [[iv x.kind,iv x.int,sv x.text],[iv y.kind,iv y.int,sv y.text],[iv z.kind,iv z.int,sv z.text]]),(9,AV.dp [iv y.kind,iv y.int,sv y.text]),(10,AV.agg [iv y.kind,iv y.int,sv y.text]),(11,AV.sl [[iv x.kind,iv x.int,sv x.text],[iv y.kind,iv y.int,sv y.text],[iv z.kind,iv z.int,sv z.text]]),(12,AV.dp [iv x.kind,iv x.int,sv x.text]),(13,AV.agg [iv x.kind,iv x.int,sv x.text]),(14,AV.tup [AV.agg [iv (vCmp 6 y x).fst.kind,iv (vCmp 6 y x).fst.int,sv (vCmp 6 y x).fst.text],iv (vCmp 6 y x).snd]),(15,AV.agg [iv (vCmp 6 y x).fst.kind,iv (vCmp 6 y x).fst.int,sv (vCmp 6 y x).fst.text]),(16,iv (vCmp 6 y x).snd),(17,iv (vCmp 6 y x).snd),(18,AV.bl false),(21,AV.tup [AV.agg [iv (vCmp 6 x z).fst.kind,iv (vCmp 6 x z).fst.int,sv (vCmp 6 x z).fst.text],iv (vCmp 6 x z).snd]),(22,AV.sl [[iv x.kind,iv x.int,sv x.text],[iv y.kind,iv y.int,sv y.text],[iv z.kind,iv z.int,sv z.text]]),(23,AV.dp [iv x.kind,iv x.int,sv x.text]),(24,AV.agg [iv x.kind,iv x.int,sv x.text]),(25,AV.sl [[iv x.kind,iv x.int,sv x.text],[iv y.kind,iv y.int,sv y.text],[iv z.kind,iv z.int,sv z.text]]),(26,AV.dp [iv z.kind,iv z.int,sv z.text]),(27,AV.agg [iv z.kind,iv z.int,sv z.text]),(28,AV.tup [AV.agg [iv (vCmp 6 x z).fst.kind,iv (vCmp 6 x z).fst.int,sv (vCmp 6 x z).fst.text],iv (vCmp 6 x z).snd]),(29,AV.agg [iv (vCmp 6 x z).fst.kind,iv (vCmp 6 x z).fst.int,sv (vCmp 6 x z).fst.text]),(30,iv (vCmp 6 x z).snd)] [Blk.box [iv 0,iv 0,sv (ByteArray.mk #[])],Blk.box [iv (vCmp 6 y x).fst.kind,iv (vCmp 6 y x).fst.int,sv (vCmp 6 y x).fst.text],Blk.box [iv (vCmp 6 x z).fst.kind,iv (vCmp 6 x z).fst.int,sv (vCmp 6 x z).fst.text]],sb h2,sc (zkJ ((vCmp 6 y x).fst) ((vCmp 6 x z).fst) ziF ziF),sc (zdD ((land (vCmp 6 y x).fst (vCmp 6 x z).fst).fst) ((land (vCmp 6 y x).fst (vCmp 6 x z).fst).snd))] kr
  ·exact wk At.evaluate_between [sdm [(1,[se (xs:=[[iv x.kind,iv x.int,sv x.text],[iv y.kind,iv y.int,sv y.text],[iv z.kind,iv z.int,sv z.text]]) (i:=1) (c:=[iv y.kind,iv y.int,sv y.text]) (n:=3) ⟨by decide,rfl,rfl⟩]),(4,[se (xs:=[[iv x.kind,iv x.int,sv x.text],[iv y.kind,iv y.int,sv y.text],[iv z.kind,iv z.int,sv z.text]]) (i:=0) (c:=[iv x.kind,iv x.int,sv x.text]) (n:=3) ⟨by decide,rfl,rfl⟩]),(6,[sc (zbI 6 y x ziF)])] 0 [(0,AV.sl [[iv x.kind,iv x.int,sv x.text],[iv y.kind,iv y.int,sv y.text],[iv z.kind,iv z.int,sv z.text]]),(2,AV.p 0 0),(3,iv 0),(4,AV.p 1 0),(5,iv (vCmp 6 y x).snd),(7,AV.tup [AV.agg [iv (vCmp 6 y x).fst.kind,iv (vCmp 6 y x).fst.int,sv (vCmp 6 y x).fst.text],iv (vCmp 6 y x).snd]),(8,AV.sl [[iv x.kind,iv x.int,sv x.text],[iv y.kind,iv y.int,sv y.text],[iv z.kind,iv z.int,sv z.text]]),(9,AV.dp [iv y.kind,iv y.int,sv y.text]),(10,AV.agg [iv y.kind,iv y.int,sv y.text]),(11,AV.sl [[iv x.kind,iv x.int,sv x.text],[iv y.kind,iv y.int,sv y.text],[iv z.kind,iv z.int,sv z.text]]),(12,AV.dp [iv x.kind,iv x.int,sv x.text]),(13,AV.agg [iv x.kind,iv x.int,sv x.text]),(14,AV.tup [AV.agg [iv (vCmp 6 y x).fst.kind,iv (vCmp 6 y x).fst.int,sv (vCmp 6 y x).fst.text],iv (vCmp 6 y x).snd]),(15,AV.agg [iv (vCmp 6 y x).fst.kind,iv (vCmp 6 y x).fst.int,sv (vCmp 6 y x).fst.text]),(16,iv (vCmp 6 y x).snd)] [Blk.box [iv 0,iv 0,sv (ByteArray.mk #[])],Blk.box [iv (vCmp 6 y x).fst.kind,iv (vCmp 6 y x).fst.int,sv (vCmp 6 y x).fst.text]],sb h1,sdm [(1,[se (xs:=[[iv x.kind,iv x.int,sv x.text],[iv y.kind,iv y.int,sv y.text],[iv z.kind,iv z.int,sv z.text]]) (i:=0) (c:=[iv x.kind,iv x.int,sv x.text]) (n:=3) ⟨by decide,rfl,rfl⟩]),(4,[se (xs:=[[iv x.kind,iv x.int,sv x.text],[iv y.kind,iv y.int,sv y.text],[iv z.kind,iv z.int,sv z.text]]) (i:=2) (c:=[iv z.kind,iv z.int,sv z.text]) (n:=3) ⟨by decide,rfl,rfl⟩]),(6,[sc (zbI 6 x z ziF)])] 0 [(0,AV.sl [[iv x.kind,iv x.int,sv x.text],[iv y.kind,iv y.int,sv y.text],[iv z.kind,iv z.int,sv z.text]]),(2,AV.p 0 0),(3,iv 0),(4,AV.p 1 0),(5,iv (vCmp 6 x z).snd),(6,AV.p 2 0),(7,AV.tup [AV.agg [iv (vCmp 6 y x).fst.kind,iv (vCmp 6 y x).fst.int,sv (vCmp 6 y x).fst.text],iv (vCmp 6 y x).snd]),(8,AV.sl [[iv x.kind,iv x.int,sv x.text],[iv y.kind,iv y.int,sv y.text],[iv z.kind,iv z.int,sv z.text]]),(9,AV.dp [iv y.kind,iv y.int,sv y.text]),(10,AV.agg [iv y.kind,iv y.int,sv y.text]),(11,AV.sl [[iv x.kind,iv x.int,sv x.text],[iv y.kind,iv y.int,sv y.text],[iv z.kind,iv z.int,sv z.text]]),(12,AV.dp [iv x.kind,iv x.int,sv x.text]),(13,AV.agg [iv x.kind,iv x.int,sv x.text]),(14,AV.tup [AV.agg [iv (vCmp 6 y x).fst.kind,iv (vCmp 6 y x).fst.int,sv (vCmp 6 y x).fst.text],iv (vCmp 6 y x).snd]),(15,AV.agg [iv (vCmp 6 y x).fst.kind,iv (vCmp 6 y x).fst.int,sv (vCmp 6 y x).fst.text]),(16,iv (vCmp 6 y x).snd),(17,iv (vCmp 6 y x).snd),(18,AV.bl false),(21,AV.tup [AV.agg [iv (vCmp 6 x z).fst.kind,iv (vCmp 6 x z).fst.int,sv (vCmp 6 x z).fst.text],iv (vCmp 6 x z).snd]),(22,AV.sl [[iv x.kind,iv x.int,sv x.text],[iv y.kind,iv y.int,sv y.text],[iv z.kind,iv z.int,sv z.text]]),(23,AV.dp [iv x.kind,iv x.int,sv x.text]),(24,AV.agg [iv x.kind,iv x.int,sv x.text]),(25,AV.sl [[iv x.kind,iv x.int,sv x.text],[iv y.kind,iv y.int,sv y.text],[iv z.kind,iv z.int,sv z.text]]),(26,AV.dp [iv z.kind,iv z.int,sv z.text]),(27,AV.agg [iv z.kind,iv z.int,sv z.text]),(28,AV.tup [AV.agg [iv (vCmp 6 x z).fst.kind,iv (vCmp 6 x z).fst.int,sv (vCmp 6 x z).fst.text],iv (vCmp 6 x z).snd]),(29,AV.agg [iv (vCmp 6 x z).fst.kind,iv (vCmp 6 x z).fst.int,sv (vCmp 6 x z).fst.text]),(30,iv (vCmp 6 x z).snd)] [Blk.box [iv 0,iv 0,sv (ByteArray.mk #[])],Blk.box [iv (vCmp 6 y x).fst.kind,iv (vCmp 6 y x).fst.int,sv (vCmp 6 y x).fst.text],Blk.box [iv (vCmp 6 x z).fst.kind,iv (vCmp 6 x z).fst.int,sv (vCmp 6 x z).fst.text]],sb h2] kr
 ·exact wk At.evaluate_between [sdm [(1,[se (xs:=[[iv x.kind,iv x.int,sv x.text],[iv y.kind,iv y.int,sv y.text],[iv z.kind,iv z.int,sv z.text]]) (i:=1) (c:=[iv y.kind,iv y.int,sv y.text]) (n:=3) ⟨by decide,rfl,rfl⟩]),(4,[se (xs:=[[iv x.kind,iv x.int,sv x.text],[iv y.kind,iv y.int,sv y.text],[iv z.kind,iv z.int,sv z.text]]) (i:=0) (c:=[iv x.kind,iv x.int,sv x.text]) (n:=3) ⟨by decide,rfl,rfl⟩]),(6,[sc (zbI 6 y x ziF)])] 0 [(0,AV.sl [[iv x.kind,iv x.int,sv x.text],[iv y.kind,iv y.int,sv y.text],[iv z.kind,iv z.int,sv z.text]]),(2,AV.p 0 0),(3,iv 0),(4,AV.p 1 0),(5,iv (vCmp 6 y x).snd),(7,AV.tup [AV.agg [iv (vCmp 6 y x).fst.kind,iv (vCmp 6 y x).fst.int,sv (vCmp 6 y x).fst.text],iv (vCmp 6 y x).snd]),(8,AV.sl [[iv x.kind,iv x.int,sv x.text],[iv y.kind,iv y.int,sv y.text],[iv z.kind,iv z.int,sv z.text]]),(9,AV.dp [iv y.kind,iv y.int,sv y.text]),(10,AV.agg [iv y.kind,iv y.int,sv y.text]),(11,AV.sl [[iv x.kind,iv x.int,sv x.text],[iv y.kind,iv y.int,sv y.text],[iv z.kind,iv z.int,sv z.text]]),(12,AV.dp [iv x.kind,iv x.int,sv x.text]),(13,AV.agg [iv x.kind,iv x.int,sv x.text]),(14,AV.tup [AV.agg [iv (vCmp 6 y x).fst.kind,iv (vCmp 6 y x).fst.int,sv (vCmp 6 y x).fst.text],iv (vCmp 6 y x).snd]),(15,AV.agg [iv (vCmp 6 y x).fst.kind,iv (vCmp 6 y x).fst.int,sv (vCmp 6 y x).fst.text]),(16,iv (vCmp 6 y x).snd)] [Blk.box [iv 0,iv 0,sv (ByteArray.mk #[])],Blk.box [iv (vCmp 6 y x).fst.kind,iv (vCmp 6 y x).fst.int,sv (vCmp 6 y x).fst.text]],sb h1] kr
def zkY (op:Int) (nt:Bool) (a:V):V × Int :=
 (V.mk (2:Int) (if (!(a.kind==(0:Int))==nt)=true then (1:Int) else (0:Int)) (ByteArray.mk #[]),0)
theorem zfo (op:Int) (nt:Bool) (a:V) (val:V) (tn nm:Str) (xs:List X) (qs:List Qy) :zac E0 S.evaluate_operation [X.av (.mk 6 op nt val tn nm xs qs),vsl [a]] [] (.tup [(zkY op nt a).1.av,iv (zkY op nt a).2]) []:=by
 exact wk At.evaluate_operation [sb (rfl:true=true),sd [(1,[se (xs:=[[iv a.kind,iv a.int,sv a.text]]) (i:=0) (c:=[iv a.kind,iv a.int,sv a.text]) (n:=3) ⟨by decide,rfl,rfl⟩]),(3,[sc (zai a)]),(7,[sc (zbz (!(a.kind==0)==nt))])]] kr
def zp3 (op:Int) (nt:Bool) (a:V):V × Int :=
 ((zdp (lnot a).fst (lnot a).snd).fst,(zdp (lnot a).fst (lnot a).snd).snd)
theorem zgf (op:Int) (nt:Bool) (a:V) (val:V) (tn nm:Str) (xs:List X) (qs:List Qy) (ha:a.small):zac E0 S.evaluate_operation [X.av (.mk 3 op nt val tn nm xs qs),vsl [a]] [] (.tup [(zp3 op nt a).1.av,iv (zp3 op nt a).2]) []:=by
 exact wk At.evaluate_operation [sb (rfl:false=false),sb (rfl:true=true),se (xs:=[[iv a.kind,iv a.int,sv a.text]]) (i:=0) (c:=[iv a.kind,iv a.int,sv a.text]) (n:=3) ⟨by decide,rfl,rfl⟩,sc (zfE a zkf),sc (zdD ((lnot a).fst) ((lnot a).snd))] kr
def zpe (op:Int) (nt:Bool) (a:V):V × Int :=
 ((zeT 10 (V.mk 1 0 (ByteArray.mk #[])) a).fst,(zeT 10 (V.mk 1 0 (ByteArray.mk #[])) a).snd)
theorem zgi (op:Int) (nt:Bool) (a:V) (val:V) (tn nm:Str) (xs:List X) (qs:List Qy) :zac E0 S.evaluate_operation [X.av (.mk 4 op nt val tn nm xs qs),vsl [a]] [] (.tup [(zpe op nt a).1.av,iv (zpe op nt a).2]) []:=by
 exact wk At.evaluate_operation [sb (rfl:false=false),sb (rfl:false=false),sb (rfl:false=false),sb (rfl:true=true),sd [(2,[se (xs:=[[iv a.kind,iv a.int,sv a.text]]) (i:=0) (c:=[iv a.kind,iv a.int,sv a.text]) (n:=3) ⟨by decide,rfl,rfl⟩]),(0,[sc (zbc 0)]),(4,[sc (zex 10 (V.mk 1 0 (ByteArray.mk #[])) a)])]] kr
def zmM (op:Int) (nt:Bool) (a b c:V):V × Int :=
 ((zfx a b c).fst,(zfx a b c).snd)
theorem zgk (op:Int) (nt:Bool) (a b c:V) (val:V) (tn nm:Str) (xs:List X) (qs:List Qy) :zac E0 S.evaluate_operation [X.av (.mk 7 op nt val tn nm xs qs),vsl [a,b,c]] [] (.tup [(zmM op nt a b c).1.av,iv (zmM op nt a b c).2]) []:=by
 exact wk At.evaluate_operation [sb (rfl:false=false),sb (rfl:false=false),sb (rfl:true=true),sc (zkb a b c)] kr
def zlr (op:Int) (nt:Bool) (a b:V):V × Int :=
 bif op==2 then
  ((zdp (land a b).fst (land a b).snd).fst,(zdp (land a b).fst (land a b).snd).snd)
 else
  bif op==1 then
   ((zdp (lor a b).fst (lor a b).snd).fst,(zdp (lor a b).fst (lor a b).snd).snd)
  else
   bif decide (op≤8) then
    ((vCmp op a b).fst,(vCmp op a b).snd)
   else
    ((zeT op a b).fst,(zeT op a b).snd)
theorem zgv (op:Int) (nt:Bool) (a b:V) (val:V) (tn nm:Str) (xs:List X) (qs:List Qy) (ha:a.small) (hb:b.small) (ho:1≤op∧op≤13):zac E0 S.evaluate_operation [X.av (.mk 5 op nt val tn nm xs qs),vsl [a,b]] [] (.tup [(zlr op nt a b).1.av,iv (zlr op nt a b).2]) []:=by
 unfold zlr
 cases h1:op==2
 ·cases h2:op==1
  ·cases h3:decide (op≤8)
   ·exact wk At.evaluate_operation [sb (rfl:false=false),sb (rfl:false=false),sb (rfl:false=false),sb (rfl:false=false),sb h1,sb h2,sb h3,sd [(3,[se (xs:=[[iv a.kind,iv a.int,sv a.text],[iv b.kind,iv b.int,sv b.text]]) (i:=0) (c:=[iv a.kind,iv a.int,sv a.text]) (n:=3) ⟨by decide,rfl,rfl⟩]),(6,[se (xs:=[[iv a.kind,iv a.int,sv a.text],[iv b.kind,iv b.int,sv b.text]]) (i:=1) (c:=[iv b.kind,iv b.int,sv b.text]) (n:=3) ⟨by decide,rfl,rfl⟩]),(8,[sc (zex op a b)])]] kr
   ·exact wk At.evaluate_operation [sb (rfl:false=false),sb (rfl:false=false),sb (rfl:false=false),sb (rfl:false=false),sb h1,sb h2,sb h3,sd [(3,[se (xs:=[[iv a.kind,iv a.int,sv a.text],[iv b.kind,iv b.int,sv b.text]]) (i:=0) (c:=[iv a.kind,iv a.int,sv a.text]) (n:=3) ⟨by decide,rfl,rfl⟩]),(6,[se (xs:=[[iv a.kind,iv a.int,sv a.text],[iv b.kind,iv b.int,sv b.text]]) (i:=1) (c:=[iv b.kind,iv b.int,sv b.text]) (n:=3) ⟨by decide,rfl,rfl⟩]),(8,[sc (zbI op a b zkf)])]] kr
  ·exact wk At.evaluate_operation [sb (rfl:false=false),sb (rfl:false=false),sb (rfl:false=false),sb (rfl:false=false),sb h1,sb h2,sd [(1,[se (xs:=[[iv a.kind,iv a.int,sv a.text],[iv b.kind,iv b.int,sv b.text]]) (i:=0) (c:=[iv a.kind,iv a.int,sv a.text]) (n:=3) ⟨by decide,rfl,rfl⟩]),(4,[se (xs:=[[iv a.kind,iv a.int,sv a.text],[iv b.kind,iv b.int,sv b.text]]) (i:=1) (c:=[iv b.kind,iv b.int,sv b.text]) (n:=3) ⟨by decide,rfl,rfl⟩]),(6,[sc (zqb a b zkf zkf)]),(9,[sc (zdD ((lor a b).fst) ((lor a b).snd))])]] kr
 ·exact wk At.evaluate_operation [sb (rfl:false=false),sb (rfl:false=false),sb (rfl:false=false),sb (rfl:false=false),sb h1,sd [(1,[se (xs:=[[iv a.kind,iv a.int,sv a.text],[iv b.kind,iv b.int,sv b.text]]) (i:=0) (c:=[iv a.kind,iv a.int,sv a.text]) (n:=3) ⟨by decide,rfl,rfl⟩]),(4,[se (xs:=[[iv a.kind,iv a.int,sv a.text],[iv b.kind,iv b.int,sv b.text]]) (i:=1) (c:=[iv b.kind,iv b.int,sv b.text]) (n:=3) ⟨by decide,rfl,rfl⟩]),(6,[sc (zkJ a b zkf zkf)]),(9,[sc (zdD ((land a b).fst) ((land a b).snd))])]] kr
end Go.AM
namespace Go.AM
set_option maxRecDepth 100000
set_option linter.unusedSimpArgs false
set_option linter.unusedVariables false
abbrev zad {α:Type} (l:List α):Prop:=l.length≤1000000000
def idxF {α:Type} (p:α→Bool):List α→Nat→Int
 | [],_=>-1
 | x::r,i=>bif p x then (i:Int) else idxF p r (i+1)
theorem zmc {α:Type} (p:α→Bool):∀ (l:List α) (i:Nat),(idxF p l i=-1∧l.find? p=none)∨∃ (j:Nat) (x:α),idxF p l i=((i+j:Nat):Int)∧l[j]?=some x∧l.find? p=some x
 | [],i=>.inl ⟨rfl,rfl⟩
 | x::r,i=>by
  cases hp:p x
  ·rcases zmc p r (i+1) with ⟨h1,h2⟩|⟨j,y,h1,h2,h3⟩
   ·exact .inl ⟨by simp [idxF,hp,h1],by simp [hp,h2]⟩
   ·exact .inr ⟨j+1,y,by simp only [idxF,hp,cond_false,h1];omega,by simpa using h2,by simp [hp,h3]⟩
  ·exact .inr ⟨0,x,by simp [idxF,hp],by simp,by simp [hp]⟩
def ziP (t:Tb) (n:Str):Bool :=
 ByteArray.toList t.sch.name==ByteArray.toList n
theorem zfX (t:Tb) (n:Str) :zac E0 S.evaluate_find_c1 [t.av,.p 0 0] [.box [sv n]] (bv (ziP t n)) [.box [sv n]]:=by
 exact walkH E0ok mix0 At.evaluate_find_c1 rfl kr kr 3000 (y:=AV.v (Value.bool (ByteArray.toList t.sch.name==ByteArray.toList n))) (H:=[Blk.box [AV.v (Value.string n)]]) [] kr (⟨rfl,rfl⟩)
def colC (t:Col) (n:Str):Bool :=
 ByteArray.toList t.name==ByteArray.toList n
theorem zgV (t:Col) (n:Str) :zac E0 S.schema_Find_c1 [.agg t.cells,.p 0 0] [.box [sv n]] (bv (colC t n)) [.box [sv n]]:=by
 exact walkH E0ok mix0 At.schema_Find_c1 rfl kr kr 3000 (y:=AV.v (Value.bool (ByteArray.toList t.name==ByteArray.toList n))) (H:=[Blk.box [AV.v (Value.string n)]]) [] kr (⟨rfl,rfl⟩)
noncomputable def zpA (tb:List Tb) (n:Str) (i:Nat):Cfg:=zat B.slices_IndexFunc_Table 0 [(0,.sl (tb.map Tb.cells)),(1,.fn S.evaluate_find_c1 [.p 0 0]),(7,iv ((tb.map Tb.cells).length:Nat)),(8,iv (i:Nat))] [.box [sv n]]
theorem zps (tb:List Tb) (n:Str) (hl:zad tb):∀ (k i:Nat),i+k=tb.length→Good E0 B.slices_IndexFunc_Table [.box [sv n]] (zpA tb n i) (Shut 1 fun r h=>r=iv (idxF (fun t=>ziP t n) (tb.drop i) i)∧h=[.box [sv n]]):=by
 intro k
 induction k with
 | zero =>
  intro i hi
  refine zaa ?_
  have h0:decide ((i:Int) < (((tb.map Tb.cells).length:Nat):Int))=false:=by simp;omega
  have e0:tb.drop i=[]:=List.drop_of_length_le (by omega)
  rw [e0]
  exact zhl E0ok mix0 3000 (y:=AV.v (Value.int IntKind.i64 (-1:Int))) (H:=[Blk.box [AV.v (Value.string n)]]) [sb h0] kr (⟨rfl,rfl⟩)
 | succ k ih =>
  intro i hi
  have ih:=ih (i+1) (by omega)
  obtain ⟨x,hx⟩:=zax (l:=tb) (i:=i) (by omega)
  have h0:decide ((i:Int) < (((tb.map Tb.cells).length:Nat):Int))=true:=by simp;omega
  have hw:=zao i (by omega)
  rw [zbD hx]
  simp only [idxF]
  refine zaa ?_
  cases h1:ziP x n
  ·exact zc5 E0ok mix0 3000 (c':=zpA tb n (i+(1:Nat))) [sb h0,se (zah Tb.cells hx rfl),sl [(0:Nat)] (zfX x n),sb h1,si hw] [0,1,7,8] 1 kr kr (by simpa only [cond_true,cond_false,h1] using ih)
  ·exact zhl E0ok mix0 3000 (y:=AV.v (Value.int IntKind.i64 (i:Int))) (H:=[Blk.box [AV.v (Value.string n)]]) [sb h0,se (zah Tb.cells hx rfl),sl [(0:Nat)] (zfX x n),sb h1] kr (⟨by simp only [cond_true,cond_false,h1],rfl⟩)
theorem zdY (tb:List Tb) (n:Str) (hl:zad tb):zac E0 S.slices_IndexFunc_Table [.sl (tb.map Tb.cells),.fn S.evaluate_find_c1 [.p 0 0]] [.box [sv n]] (iv (idxF (fun t=>ziP t n) tb 0)) [.box [sv n]]:=by
 exact ziC E0ok mix0 At.slices_IndexFunc_Table rfl kr kr 3000 (c':=zpA tb n (0:Nat)) [] [0,1,7,8] 1 kr kr (by simpa using zps tb n hl tb.length 0 (by simp))
noncomputable def zqa (tb:List Col) (n:Str) (i:Nat):Cfg:=zat B.slices_IndexFunc_Column 0 [(0,.sl (tb.map Col.cells)),(1,.fn S.schema_Find_c1 [.p 0 0]),(7,iv ((tb.map Col.cells).length:Nat)),(8,iv (i:Nat))] [.box [sv n]]
theorem zpp (tb:List Col) (n:Str) (hl:zad tb):∀ (k i:Nat),i+k=tb.length→Good E0 B.slices_IndexFunc_Column [.box [sv n]] (zqa tb n i) (Shut 1 fun r h=>r=iv (idxF (fun t=>colC t n) (tb.drop i) i)∧h=[.box [sv n]]):=by
 intro k
 induction k with
 | zero =>
  intro i hi
  refine zaa ?_
  have h0:decide ((i:Int) < (((tb.map Col.cells).length:Nat):Int))=false:=by simp;omega
  have e0:tb.drop i=[]:=List.drop_of_length_le (by omega)
  rw [e0]
  exact zhl E0ok mix0 3000 (y:=AV.v (Value.int IntKind.i64 (-1:Int))) (H:=[Blk.box [AV.v (Value.string n)]]) [sb h0] kr (⟨rfl,rfl⟩)
 | succ k ih =>
  intro i hi
  have ih:=ih (i+1) (by omega)
  obtain ⟨x,hx⟩:=zax (l:=tb) (i:=i) (by omega)
  have h0:decide ((i:Int) < (((tb.map Col.cells).length:Nat):Int))=true:=by simp;omega
  have hw:=zao i (by omega)
  rw [zbD hx]
  simp only [idxF]
  refine zaa ?_
  cases h1:colC x n
  ·exact zc5 E0ok mix0 3000 (c':=zqa tb n (i+(1:Nat))) [sb h0,se (zah Col.cells hx rfl),sl [(0:Nat)] (zgV x n),sb h1,si hw] [0,1,7,8] 1 kr kr (by simpa only [cond_true,cond_false,h1] using ih)
  ·exact zhl E0ok mix0 3000 (y:=AV.v (Value.int IntKind.i64 (i:Int))) (H:=[Blk.box [AV.v (Value.string n)]]) [sb h0,se (zah Col.cells hx rfl),sl [(0:Nat)] (zgV x n),sb h1] kr (⟨by simp only [cond_true,cond_false,h1],rfl⟩)
theorem zge (tb:List Col) (n:Str) (hl:zad tb):zac E0 S.slices_IndexFunc_Column [.sl (tb.map Col.cells),.fn S.schema_Find_c1 [.p 0 0]] [.box [sv n]] (iv (idxF (fun t=>colC t n) tb 0)) [.box [sv n]]:=by
 exact ziC E0ok mix0 At.slices_IndexFunc_Column rfl kr kr 3000 (c':=zqa tb n (0:Nat)) [] [0,1,7,8] 1 kr kr (by simpa using zpp tb n hl tb.length 0 (by simp))
def zgs (tb:List Tb) (n:Str):Option Tb:=tb.find? fun t=>ziP t n
theorem zjW (tb:List Tb) (n:Str) (hl:zad tb) (t:Tb) (h:zgs tb n=some t):Pure S.evaluate_find [tsl tb,sv n] (.tup [t.av,bv true]):=by
 have hk:=zdY tb n hl
 rcases zmc (fun t=>ziP t n) tb 0 with ⟨_,h2⟩|⟨j,y,h1,hx,h3⟩
 ·rw [zgs,h2] at h;cases h
 rw [zgs,h3] at h
 cases h
 rw [Nat.zero_add] at h1
 rw [h1] at hk
 have h4:decide (((j:Nat):Int) < 0)=false:=by simp
 exact walk E0ok mix0 At.evaluate_find rfl kr kr 3000 (y:=AV.tup [AV.agg [AV.v (Value.string t.sch.name),AV.sl (List.map Col.cells t.sch.cols),AV.v (Value.int IntKind.i64 t.next),AV.sl (List.map Rw.cells t.rows)],AV.v (Value.bool true)]) [sl [(0:Nat)] (hk ),sb (rfl:false=false),se (zah Tb.cells hx rfl)] kr (rfl)
def Tb.zero:Tb:=⟨⟨⟨#[]⟩,[]⟩,0,[]⟩
theorem zjD (tb:List Tb) (n:Str) (hl:zad tb) (h:zgs tb n=none):Pure S.evaluate_find [tsl tb,sv n] (.tup [Tb.zero.av,bv false]):=by
 have hk:=zdY tb n hl
 rcases zmc (fun t=>ziP t n) tb 0 with ⟨h1,_⟩|⟨j,y,h1,hx,h3⟩
 ·rw [h1] at hk
  exact walk E0ok mix0 At.evaluate_find rfl kr kr 3000 (y:=AV.tup [AV.agg [AV.v (Value.string (ByteArray.mk #[])),AV.sl [],AV.v (Value.int IntKind.i64 (0:Int)),AV.sl []],AV.v (Value.bool false)]) [sl [(0:Nat)] (hk ),sb (rfl:true=true)] kr (rfl)
 ·rw [zgs,h3] at h;cases h
theorem zcs (s:Sch) (n:Str) (hl:zad s.cols):Pure S.schema_Find [s.av,sv n] (iv (idxF (fun c=>colC c n) s.cols 0)):=by
 exact walk E0ok mix0 At.schema_Find rfl kr kr 3000 (y:=AV.v (Value.int IntKind.i64 (idxF (fun t=>colC t n) s.cols (0:Nat)))) [sl [(1:Nat)] (zge s.cols n (by first|assumption|(simp;done)|omega|(simp;omega)))] kr (rfl)
def zaH (kind op:Int) (xs:List X) (qs:List Qy) (it wh:List X):Bool :=
 bif kind==(1:Int) then
  bif (↑(zab xs).length:Int) != (0:Int) then
   false
  else
   bif (↑(zae qs).length:Int) != (0:Int) then
    false
   else
    true
 else
  bif kind==(2:Int) then
   bif (↑(zab xs).length:Int) != (0:Int) then
    false
   else
    bif (↑(zae qs).length:Int) != (0:Int) then
     false
    else
     true
  else
   bif kind==(3:Int) then
    bif (↑(zab xs).length:Int) != (1:Int) then
     false
    else
     bif (↑(zae qs).length:Int) != (0:Int) then
      false
     else
      true
   else
    bif kind==(4:Int) then
     bif (↑(zab xs).length:Int) != (1:Int) then
      false
     else
      bif (↑(zae qs).length:Int) != (0:Int) then
       false
      else
       true
    else
     bif kind==(6:Int) then
      bif (↑(zab xs).length:Int) != (1:Int) then
       false
      else
       bif (↑(zae qs).length:Int) != (0:Int) then
        false
       else
        true
     else
      bif kind==(5:Int) then
       bif decide (op < (1:Int)) then
        false
       else
        bif decide ((13:Int) < op) then
         false
        else
         bif (↑(zab xs).length:Int) != (2:Int) then
          false
         else
          bif (↑(zae qs).length:Int) != (0:Int) then
           false
          else
           true
      else
       bif kind==(7:Int) then
        bif (↑(zab xs).length:Int) != (3:Int) then
         false
        else
         bif (↑(zae qs).length:Int) != (0:Int) then
          false
         else
          true
       else
        bif kind==(8:Int) then
         bif (↑(zab xs).length:Int) != (0:Int) then
          false
         else
          bif (↑(zae qs).length:Int) != (1:Int) then
           false
          else
           bif (↑(zab it).length:Int)==(0:Int) then
            decide ((↑(zab wh).length:Int)≤(1:Int))
           else
            false
        else
         bif kind==(9:Int) then
          bif (↑(zab xs).length:Int) != (0:Int) then
           false
          else
           bif (↑(zae qs).length:Int) != (1:Int) then
            false
           else
            bif (↑(zab it).length:Int)==(0:Int) then
             decide ((↑(zab wh).length:Int)≤(1:Int))
            else
             false
         else
          bif kind==(10:Int) then
           bif (↑(zab xs).length:Int) != (0:Int) then
            false
           else
            bif (↑(zae qs).length:Int) != (1:Int) then
             false
            else
             bif (↑(zab it).length:Int)==(1:Int) then
              decide ((↑(zab wh).length:Int)≤(1:Int))
             else
              false
          else
           bif kind==(11:Int) then
            bif (↑(zab xs).length:Int) != (0:Int) then
             false
            else
             bif (↑(zae qs).length:Int) != (1:Int) then
              false
             else
              bif (↑(zab it).length:Int)==(1:Int) then
               decide ((↑(zab wh).length:Int)≤(1:Int))
              else
               false
           else
            bif kind==(12:Int) then
             bif (↑(zab xs).length:Int) != (0:Int) then
              false
             else
              bif (↑(zae qs).length:Int) != (1:Int) then
               false
              else
               bif (↑(zab it).length:Int)==(1:Int) then
                decide ((↑(zab wh).length:Int)≤(1:Int))
               else
                false
            else
             false
theorem zkw (kind op:Int) (xs:List X) (qs:List Qy) (it wh:List X) (nt:Bool) (val:V) (tn nm:Str) (st:Bool) (fm:Str) (hq:qs[0]?=some (Qy.mk st it fm wh)):zac E0 S.scope_Formed [X.av (.mk kind op nt val tn nm xs qs)] [] (bv (zaH kind op xs qs it wh)) []:=by
 cases h1:kind==(1:Int)
 ·cases h2:kind==(2:Int)
  ·cases h3:kind==(3:Int)
   ·cases h4:kind==(4:Int)
    ·cases h5:kind==(6:Int)
     ·cases h6:kind==(5:Int)
      ·cases h7:kind==(7:Int)
       ·cases h8:kind==(8:Int)
        ·cases h9:kind==(9:Int)
         ·cases h10:kind==(10:Int)
          ·cases h11:kind==(11:Int)
           ·cases h12:kind==(12:Int)
            ·exact walk E0ok mix0 At.scope_Formed rfl kr kr 3000 (y:=AV.v (Value.bool false)) [sb h1,sb h2,sb h3,sb h4,sb h5,sb h6,sb h7,sb h8,sb h9,sb h10,sb h11,sb h12] kr (by simp only [zaH,cond_true,cond_false,h1,h2,h3,h4,h5,h6,h7,h8,h9,h10,h11,h12] <;> rfl)
            ·cases h13:(↑(zab xs).length:Int) != (0:Int)
             ·cases h14:(↑(zae qs).length:Int) != (1:Int)
              ·cases h15:(↑(zab it).length:Int)==(1:Int)
               ·exact walk E0ok mix0 At.scope_Formed rfl kr kr 3000 (y:=AV.v (Value.bool false)) [sb h1,sb h2,sb h3,sb h4,sb h5,sb h6,sb h7,sb h8,sb h9,sb h10,sb h11,sb h12,sg h13,sb h14,sg (rfl:false=false),se (zaT hq),sb h15] kr (by simp only [zaH,cond_true,cond_false,h1,h2,h3,h4,h5,h6,h7,h8,h9,h10,h11,h12,h13,h14,h15] <;> rfl)
               ·exact walk E0ok mix0 At.scope_Formed rfl kr kr 3000 (y:=AV.v (Value.bool (decide ((↑(zab wh).length:Int)≤(1:Int))))) [sb h1,sb h2,sb h3,sb h4,sb h5,sb h6,sb h7,sb h8,sb h9,sb h10,sb h11,sb h12,sg h13,sb h14,sg (rfl:false=false),se (zaT hq),sg h15,se (zaT hq)] kr (by simp only [zaH,cond_true,cond_false,h1,h2,h3,h4,h5,h6,h7,h8,h9,h10,h11,h12,h13,h14,h15] <;> rfl)
              ·exact walk E0ok mix0 At.scope_Formed rfl kr kr 3000 (y:=AV.v (Value.bool false)) [sb h1,sb h2,sb h3,sb h4,sb h5,sb h6,sb h7,sb h8,sb h9,sb h10,sb h11,sb h12,sg h13,sb h14] kr (by simp only [zaH,cond_true,cond_false,h1,h2,h3,h4,h5,h6,h7,h8,h9,h10,h11,h12,h13,h14] <;> rfl)
             ·exact walk E0ok mix0 At.scope_Formed rfl kr kr 3000 (y:=AV.v (Value.bool false)) [sb h1,sb h2,sb h3,sb h4,sb h5,sb h6,sb h7,sb h8,sb h9,sb h10,sb h11,sb h12,sb h13] kr (by simp only [zaH,cond_true,cond_false,h1,h2,h3,h4,h5,h6,h7,h8,h9,h10,h11,h12,h13] <;> rfl)
           ·cases h16:(↑(zab xs).length:Int) != (0:Int)
            ·cases h17:(↑(zae qs).length:Int) != (1:Int)
             ·cases h18:(↑(zab it).length:Int)==(1:Int)
              ·exact walk E0ok mix0 At.scope_Formed rfl kr kr 3000 (y:=AV.v (Value.bool false)) [sb h1,sb h2,sb h3,sb h4,sb h5,sb h6,sb h7,sb h8,sb h9,sb h10,sb h11,sg h16,sb h17,sg (rfl:false=false),se (zaT hq),sb h18] kr (by simp only [zaH,cond_true,cond_false,h1,h2,h3,h4,h5,h6,h7,h8,h9,h10,h11,h16,h17,h18] <;> rfl)
              ·exact walk E0ok mix0 At.scope_Formed rfl kr kr 3000 (y:=AV.v (Value.bool (decide ((↑(zab wh).length:Int)≤(1:Int))))) [sb h1,sb h2,sb h3,sb h4,sb h5,sb h6,sb h7,sb h8,sb h9,sb h10,sb h11,sg h16,sb h17,sg (rfl:false=false),se (zaT hq),sg h18,se (zaT hq)] kr (by simp only [zaH,cond_true,cond_false,h1,h2,h3,h4,h5,h6,h7,h8,h9,h10,h11,h16,h17,h18] <;> rfl)
             ·exact walk E0ok mix0 At.scope_Formed rfl kr kr 3000 (y:=AV.v (Value.bool false)) [sb h1,sb h2,sb h3,sb h4,sb h5,sb h6,sb h7,sb h8,sb h9,sb h10,sb h11,sg h16,sb h17] kr (by simp only [zaH,cond_true,cond_false,h1,h2,h3,h4,h5,h6,h7,h8,h9,h10,h11,h16,h17] <;> rfl)
            ·exact walk E0ok mix0 At.scope_Formed rfl kr kr 3000 (y:=AV.v (Value.bool false)) [sb h1,sb h2,sb h3,sb h4,sb h5,sb h6,sb h7,sb h8,sb h9,sb h10,sb h11,sb h16] kr (by simp only [zaH,cond_true,cond_false,h1,h2,h3,h4,h5,h6,h7,h8,h9,h10,h11,h16] <;> rfl)
          ·cases h19:(↑(zab xs).length:Int) != (0:Int)
           ·cases h20:(↑(zae qs).length:Int) != (1:Int)
            ·cases h21:(↑(zab it).length:Int)==(1:Int)
             ·exact walk E0ok mix0 At.scope_Formed rfl kr kr 3000 (y:=AV.v (Value.bool false)) [sb h1,sb h2,sb h3,sb h4,sb h5,sb h6,sb h7,sb h8,sb h9,sb h10,sg h19,sb h20,sg (rfl:false=false),se (zaT hq),sb h21] kr (by simp only [zaH,cond_true,cond_false,h1,h2,h3,h4,h5,h6,h7,h8,h9,h10,h19,h20,h21] <;> rfl)
             ·exact walk E0ok mix0 At.scope_Formed rfl kr kr 3000 (y:=AV.v (Value.bool (decide ((↑(zab wh).length:Int)≤(1:Int))))) [sb h1,sb h2,sb h3,sb h4,sb h5,sb h6,sb h7,sb h8,sb h9,sb h10,sg h19,sb h20,sg (rfl:false=false),se (zaT hq),sg h21,se (zaT hq)] kr (by simp only [zaH,cond_true,cond_false,h1,h2,h3,h4,h5,h6,h7,h8,h9,h10,h19,h20,h21] <;> rfl)
            ·exact walk E0ok mix0 At.scope_Formed rfl kr kr 3000 (y:=AV.v (Value.bool false)) [sb h1,sb h2,sb h3,sb h4,sb h5,sb h6,sb h7,sb h8,sb h9,sb h10,sg h19,sb h20] kr (by simp only [zaH,cond_true,cond_false,h1,h2,h3,h4,h5,h6,h7,h8,h9,h10,h19,h20] <;> rfl)
           ·exact walk E0ok mix0 At.scope_Formed rfl kr kr 3000 (y:=AV.v (Value.bool false)) [sb h1,sb h2,sb h3,sb h4,sb h5,sb h6,sb h7,sb h8,sb h9,sb h10,sb h19] kr (by simp only [zaH,cond_true,cond_false,h1,h2,h3,h4,h5,h6,h7,h8,h9,h10,h19] <;> rfl)
         ·cases h22:(↑(zab xs).length:Int) != (0:Int)
          ·cases h23:(↑(zae qs).length:Int) != (1:Int)
           ·cases h24:(↑(zab it).length:Int)==(0:Int)
            ·exact walk E0ok mix0 At.scope_Formed rfl kr kr 3000 (y:=AV.v (Value.bool false)) [sb h1,sb h2,sb h3,sb h4,sb h5,sb h6,sb h7,sb h8,sb h9,sg h22,sb h23,sg (rfl:false=false),se (zaT hq),sb h24] kr (by simp only [zaH,cond_true,cond_false,h1,h2,h3,h4,h5,h6,h7,h8,h9,h22,h23,h24] <;> rfl)
            ·exact walk E0ok mix0 At.scope_Formed rfl kr kr 3000 (y:=AV.v (Value.bool (decide ((↑(zab wh).length:Int)≤(1:Int))))) [sb h1,sb h2,sb h3,sb h4,sb h5,sb h6,sb h7,sb h8,sb h9,sg h22,sb h23,sg (rfl:false=false),se (zaT hq),sg h24,se (zaT hq)] kr (by simp only [zaH,cond_true,cond_false,h1,h2,h3,h4,h5,h6,h7,h8,h9,h22,h23,h24] <;> rfl)
           ·exact walk E0ok mix0 At.scope_Formed rfl kr kr 3000 (y:=AV.v (Value.bool false)) [sb h1,sb h2,sb h3,sb h4,sb h5,sb h6,sb h7,sb h8,sb h9,sg h22,sb h23] kr (by simp only [zaH,cond_true,cond_false,h1,h2,h3,h4,h5,h6,h7,h8,h9,h22,h23] <;> rfl)
          ·exact walk E0ok mix0 At.scope_Formed rfl kr kr 3000 (y:=AV.v (Value.bool false)) [sb h1,sb h2,sb h3,sb h4,sb h5,sb h6,sb h7,sb h8,sb h9,sb h22] kr (by simp only [zaH,cond_true,cond_false,h1,h2,h3,h4,h5,h6,h7,h8,h9,h22] <;> rfl)
        ·cases h25:(↑(zab xs).length:Int) != (0:Int)
         ·cases h26:(↑(zae qs).length:Int) != (1:Int)
          ·cases h27:(↑(zab it).length:Int)==(0:Int)
           ·exact walk E0ok mix0 At.scope_Formed rfl kr kr 3000 (y:=AV.v (Value.bool false)) [sb h1,sb h2,sb h3,sb h4,sb h5,sb h6,sb h7,sb h8,sg h25,sb h26,sg (rfl:false=false),se (zaT hq),sb h27] kr (by simp only [zaH,cond_true,cond_false,h1,h2,h3,h4,h5,h6,h7,h8,h25,h26,h27] <;> rfl)
           ·exact walk E0ok mix0 At.scope_Formed rfl kr kr 3000 (y:=AV.v (Value.bool (decide ((↑(zab wh).length:Int)≤(1:Int))))) [sb h1,sb h2,sb h3,sb h4,sb h5,sb h6,sb h7,sb h8,sg h25,sb h26,sg (rfl:false=false),se (zaT hq),sg h27,se (zaT hq)] kr (by simp only [zaH,cond_true,cond_false,h1,h2,h3,h4,h5,h6,h7,h8,h25,h26,h27] <;> rfl)
          ·exact walk E0ok mix0 At.scope_Formed rfl kr kr 3000 (y:=AV.v (Value.bool false)) [sb h1,sb h2,sb h3,sb h4,sb h5,sb h6,sb h7,sb h8,sg h25,sb h26] kr (by simp only [zaH,cond_true,cond_false,h1,h2,h3,h4,h5,h6,h7,h8,h25,h26] <;> rfl)
         ·exact walk E0ok mix0 At.scope_Formed rfl kr kr 3000 (y:=AV.v (Value.bool false)) [sb h1,sb h2,sb h3,sb h4,sb h5,sb h6,sb h7,sb h8,sb h25] kr (by simp only [zaH,cond_true,cond_false,h1,h2,h3,h4,h5,h6,h7,h8,h25] <;> rfl)
       ·cases h28:(↑(zab xs).length:Int) != (3:Int)
        ·cases h29:(↑(zae qs).length:Int) != (0:Int)
         ·exact walk E0ok mix0 At.scope_Formed rfl kr kr 3000 (y:=AV.v (Value.bool true)) [sb h1,sb h2,sb h3,sb h4,sb h5,sb h6,sb h7,sg h28,sb h29,sb (rfl:true=true)] kr (by simp only [zaH,cond_true,cond_false,h1,h2,h3,h4,h5,h6,h7,h28,h29] <;> rfl)
         ·exact walk E0ok mix0 At.scope_Formed rfl kr kr 3000 (y:=AV.v (Value.bool false)) [sb h1,sb h2,sb h3,sb h4,sb h5,sb h6,sb h7,sg h28,sb h29] kr (by simp only [zaH,cond_true,cond_false,h1,h2,h3,h4,h5,h6,h7,h28,h29] <;> rfl)
        ·exact walk E0ok mix0 At.scope_Formed rfl kr kr 3000 (y:=AV.v (Value.bool false)) [sb h1,sb h2,sb h3,sb h4,sb h5,sb h6,sb h7,sb h28] kr (by simp only [zaH,cond_true,cond_false,h1,h2,h3,h4,h5,h6,h7,h28] <;> rfl)
      ·cases h30:decide (op < (1:Int))
       ·cases h31:decide ((13:Int) < op)
        ·cases h32:(↑(zab xs).length:Int) != (2:Int)
         ·cases h33:(↑(zae qs).length:Int) != (0:Int)
          ·exact walk E0ok mix0 At.scope_Formed rfl kr kr 3000 (y:=AV.v (Value.bool true)) [sb h1,sb h2,sb h3,sb h4,sb h5,sb h6,sg h30,sb h31,sg h32,sb h33,sb (rfl:true=true)] kr (by simp only [zaH,cond_true,cond_false,h1,h2,h3,h4,h5,h6,h30,h31,h32,h33] <;> rfl)
          ·exact walk E0ok mix0 At.scope_Formed rfl kr kr 3000 (y:=AV.v (Value.bool false)) [sb h1,sb h2,sb h3,sb h4,sb h5,sb h6,sg h30,sb h31,sg h32,sb h33] kr (by simp only [zaH,cond_true,cond_false,h1,h2,h3,h4,h5,h6,h30,h31,h32,h33] <;> rfl)
         ·exact walk E0ok mix0 At.scope_Formed rfl kr kr 3000 (y:=AV.v (Value.bool false)) [sb h1,sb h2,sb h3,sb h4,sb h5,sb h6,sg h30,sb h31,sb h32] kr (by simp only [zaH,cond_true,cond_false,h1,h2,h3,h4,h5,h6,h30,h31,h32] <;> rfl)
        ·exact walk E0ok mix0 At.scope_Formed rfl kr kr 3000 (y:=AV.v (Value.bool false)) [sb h1,sb h2,sb h3,sb h4,sb h5,sb h6,sg h30,sb h31] kr (by simp only [zaH,cond_true,cond_false,h1,h2,h3,h4,h5,h6,h30,h31] <;> rfl)
       ·exact walk E0ok mix0 At.scope_Formed rfl kr kr 3000 (y:=AV.v (Value.bool false)) [sb h1,sb h2,sb h3,sb h4,sb h5,sb h6,sb h30] kr (by simp only [zaH,cond_true,cond_false,h1,h2,h3,h4,h5,h6,h30] <;> rfl)
     ·cases h34:(↑(zab xs).length:Int) != (1:Int)
      ·cases h35:(↑(zae qs).length:Int) != (0:Int)
       ·exact walk E0ok mix0 At.scope_Formed rfl kr kr 3000 (y:=AV.v (Value.bool true)) [sb h1,sb h2,sb h3,sb h4,sb h5,sg h34,sb h35,sb (rfl:true=true)] kr (by simp only [zaH,cond_true,cond_false,h1,h2,h3,h4,h5,h34,h35] <;> rfl)
       ·exact walk E0ok mix0 At.scope_Formed rfl kr kr 3000 (y:=AV.v (Value.bool false)) [sb h1,sb h2,sb h3,sb h4,sb h5,sg h34,sb h35] kr (by simp only [zaH,cond_true,cond_false,h1,h2,h3,h4,h5,h34,h35] <;> rfl)
      ·exact walk E0ok mix0 At.scope_Formed rfl kr kr 3000 (y:=AV.v (Value.bool false)) [sb h1,sb h2,sb h3,sb h4,sb h5,sb h34] kr (by simp only [zaH,cond_true,cond_false,h1,h2,h3,h4,h5,h34] <;> rfl)
    ·cases h36:(↑(zab xs).length:Int) != (1:Int)
     ·cases h37:(↑(zae qs).length:Int) != (0:Int)
      ·exact walk E0ok mix0 At.scope_Formed rfl kr kr 3000 (y:=AV.v (Value.bool true)) [sb h1,sb h2,sb h3,sb h4,sg h36,sb h37,sb (rfl:true=true)] kr (by simp only [zaH,cond_true,cond_false,h1,h2,h3,h4,h36,h37] <;> rfl)
      ·exact walk E0ok mix0 At.scope_Formed rfl kr kr 3000 (y:=AV.v (Value.bool false)) [sb h1,sb h2,sb h3,sb h4,sg h36,sb h37] kr (by simp only [zaH,cond_true,cond_false,h1,h2,h3,h4,h36,h37] <;> rfl)
     ·exact walk E0ok mix0 At.scope_Formed rfl kr kr 3000 (y:=AV.v (Value.bool false)) [sb h1,sb h2,sb h3,sb h4,sb h36] kr (by simp only [zaH,cond_true,cond_false,h1,h2,h3,h4,h36] <;> rfl)
   ·cases h38:(↑(zab xs).length:Int) != (1:Int)
    ·cases h39:(↑(zae qs).length:Int) != (0:Int)
     ·exact walk E0ok mix0 At.scope_Formed rfl kr kr 3000 (y:=AV.v (Value.bool true)) [sb h1,sb h2,sb h3,sg h38,sb h39,sb (rfl:true=true)] kr (by simp only [zaH,cond_true,cond_false,h1,h2,h3,h38,h39] <;> rfl)
     ·exact walk E0ok mix0 At.scope_Formed rfl kr kr 3000 (y:=AV.v (Value.bool false)) [sb h1,sb h2,sb h3,sg h38,sb h39] kr (by simp only [zaH,cond_true,cond_false,h1,h2,h3,h38,h39] <;> rfl)
    ·exact walk E0ok mix0 At.scope_Formed rfl kr kr 3000 (y:=AV.v (Value.bool false)) [sb h1,sb h2,sb h3,sb h38] kr (by simp only [zaH,cond_true,cond_false,h1,h2,h3,h38] <;> rfl)
  ·cases h40:(↑(zab xs).length:Int) != (0:Int)
   ·cases h41:(↑(zae qs).length:Int) != (0:Int)
    ·exact walk E0ok mix0 At.scope_Formed rfl kr kr 3000 (y:=AV.v (Value.bool true)) [sb h1,sb h2,sg h40,sb h41,sb (rfl:true=true)] kr (by simp only [zaH,cond_true,cond_false,h1,h2,h40,h41] <;> rfl)
    ·exact walk E0ok mix0 At.scope_Formed rfl kr kr 3000 (y:=AV.v (Value.bool false)) [sb h1,sb h2,sg h40,sb h41] kr (by simp only [zaH,cond_true,cond_false,h1,h2,h40,h41] <;> rfl)
   ·exact walk E0ok mix0 At.scope_Formed rfl kr kr 3000 (y:=AV.v (Value.bool false)) [sb h1,sb h2,sb h40] kr (by simp only [zaH,cond_true,cond_false,h1,h2,h40] <;> rfl)
 ·cases h42:(↑(zab xs).length:Int) != (0:Int)
  ·cases h43:(↑(zae qs).length:Int) != (0:Int)
   ·exact walk E0ok mix0 At.scope_Formed rfl kr kr 3000 (y:=AV.v (Value.bool true)) [sb h1,sg h42,sb h43,sb (rfl:true=true)] kr (by simp only [zaH,cond_true,cond_false,h1,h42,h43] <;> rfl)
   ·exact walk E0ok mix0 At.scope_Formed rfl kr kr 3000 (y:=AV.v (Value.bool false)) [sb h1,sg h42,sb h43] kr (by simp only [zaH,cond_true,cond_false,h1,h42,h43] <;> rfl)
  ·exact walk E0ok mix0 At.scope_Formed rfl kr kr 3000 (y:=AV.v (Value.bool false)) [sb h1,sb h42] kr (by simp only [zaH,cond_true,cond_false,h1,h42] <;> rfl)
def za8 (kind op:Int) (xs:List X):Bool :=
 bif kind==(1:Int) then
  bif (↑(zab xs).length:Int) != (0:Int) then
   false
  else
   true
 else
  bif kind==(2:Int) then
   bif (↑(zab xs).length:Int) != (0:Int) then
    false
   else
    true
  else
   bif kind==(3:Int) then
    bif (↑(zab xs).length:Int) != (1:Int) then
     false
    else
     true
   else
    bif kind==(4:Int) then
     bif (↑(zab xs).length:Int) != (1:Int) then
      false
     else
      true
    else
     bif kind==(6:Int) then
      bif (↑(zab xs).length:Int) != (1:Int) then
       false
      else
       true
     else
      bif kind==(5:Int) then
       bif decide (op < (1:Int)) then
        false
       else
        bif decide ((13:Int) < op) then
         false
        else
         bif (↑(zab xs).length:Int) != (2:Int) then
          false
         else
          true
      else
       bif kind==(7:Int) then
        bif (↑(zab xs).length:Int) != (3:Int) then
         false
        else
         true
       else
        bif kind==(8:Int) then
         bif (↑(zab xs).length:Int) != (0:Int) then
          false
         else
          false
        else
         bif kind==(9:Int) then
          bif (↑(zab xs).length:Int) != (0:Int) then
           false
          else
           false
         else
          bif kind==(10:Int) then
           bif (↑(zab xs).length:Int) != (0:Int) then
            false
           else
            false
          else
           bif kind==(11:Int) then
            bif (↑(zab xs).length:Int) != (0:Int) then
             false
            else
             false
           else
            bif kind==(12:Int) then
             bif (↑(zab xs).length:Int) != (0:Int) then
              false
             else
              false
            else
             false
theorem zkx (kind op:Int) (xs:List X) (nt:Bool) (val:V) (tn nm:Str):zac E0 S.scope_Formed [X.av (.mk kind op nt val tn nm xs [])] [] (bv (za8 kind op xs)) []:=by
 cases h1:kind==(1:Int)
 ·cases h2:kind==(2:Int)
  ·cases h3:kind==(3:Int)
   ·cases h4:kind==(4:Int)
    ·cases h5:kind==(6:Int)
     ·cases h6:kind==(5:Int)
      ·cases h7:kind==(7:Int)
       ·cases h8:kind==(8:Int)
        ·cases h9:kind==(9:Int)
         ·cases h10:kind==(10:Int)
          ·cases h11:kind==(11:Int)
           ·cases h12:kind==(12:Int)
            ·exact walk E0ok mix0 At.scope_Formed rfl kr kr 3000 (y:=AV.v (Value.bool false)) [sb h1,sb h2,sb h3,sb h4,sb h5,sb h6,sb h7,sb h8,sb h9,sb h10,sb h11,sb h12] kr (by simp only [za8,cond_true,cond_false,h1,h2,h3,h4,h5,h6,h7,h8,h9,h10,h11,h12] <;> rfl)
            ·cases h13:(↑(zab xs).length:Int) != (0:Int)
             ·exact walk E0ok mix0 At.scope_Formed rfl kr kr 3000 (y:=AV.v (Value.bool false)) [sb h1,sb h2,sb h3,sb h4,sb h5,sb h6,sb h7,sb h8,sb h9,sb h10,sb h11,sb h12,sg h13,sb (rfl:true=true)] kr (by simp only [za8,cond_true,cond_false,h1,h2,h3,h4,h5,h6,h7,h8,h9,h10,h11,h12,h13] <;> rfl)
             ·exact walk E0ok mix0 At.scope_Formed rfl kr kr 3000 (y:=AV.v (Value.bool false)) [sb h1,sb h2,sb h3,sb h4,sb h5,sb h6,sb h7,sb h8,sb h9,sb h10,sb h11,sb h12,sb h13] kr (by simp only [za8,cond_true,cond_false,h1,h2,h3,h4,h5,h6,h7,h8,h9,h10,h11,h12,h13] <;> rfl)
           ·cases h14:(↑(zab xs).length:Int) != (0:Int)
            ·exact walk E0ok mix0 At.scope_Formed rfl kr kr 3000 (y:=AV.v (Value.bool false)) [sb h1,sb h2,sb h3,sb h4,sb h5,sb h6,sb h7,sb h8,sb h9,sb h10,sb h11,sg h14,sb (rfl:true=true)] kr (by simp only [za8,cond_true,cond_false,h1,h2,h3,h4,h5,h6,h7,h8,h9,h10,h11,h14] <;> rfl)
            ·exact walk E0ok mix0 At.scope_Formed rfl kr kr 3000 (y:=AV.v (Value.bool false)) [sb h1,sb h2,sb h3,sb h4,sb h5,sb h6,sb h7,sb h8,sb h9,sb h10,sb h11,sb h14] kr (by simp only [za8,cond_true,cond_false,h1,h2,h3,h4,h5,h6,h7,h8,h9,h10,h11,h14] <;> rfl)
          ·cases h15:(↑(zab xs).length:Int) != (0:Int)
           ·exact walk E0ok mix0 At.scope_Formed rfl kr kr 3000 (y:=AV.v (Value.bool false)) [sb h1,sb h2,sb h3,sb h4,sb h5,sb h6,sb h7,sb h8,sb h9,sb h10,sg h15,sb (rfl:true=true)] kr (by simp only [za8,cond_true,cond_false,h1,h2,h3,h4,h5,h6,h7,h8,h9,h10,h15] <;> rfl)
           ·exact walk E0ok mix0 At.scope_Formed rfl kr kr 3000 (y:=AV.v (Value.bool false)) [sb h1,sb h2,sb h3,sb h4,sb h5,sb h6,sb h7,sb h8,sb h9,sb h10,sb h15] kr (by simp only [za8,cond_true,cond_false,h1,h2,h3,h4,h5,h6,h7,h8,h9,h10,h15] <;> rfl)
         ·cases h16:(↑(zab xs).length:Int) != (0:Int)
          ·exact walk E0ok mix0 At.scope_Formed rfl kr kr 3000 (y:=AV.v (Value.bool false)) [sb h1,sb h2,sb h3,sb h4,sb h5,sb h6,sb h7,sb h8,sb h9,sg h16,sb (rfl:true=true)] kr (by simp only [za8,cond_true,cond_false,h1,h2,h3,h4,h5,h6,h7,h8,h9,h16] <;> rfl)
          ·exact walk E0ok mix0 At.scope_Formed rfl kr kr 3000 (y:=AV.v (Value.bool false)) [sb h1,sb h2,sb h3,sb h4,sb h5,sb h6,sb h7,sb h8,sb h9,sb h16] kr (by simp only [za8,cond_true,cond_false,h1,h2,h3,h4,h5,h6,h7,h8,h9,h16] <;> rfl)
        ·cases h17:(↑(zab xs).length:Int) != (0:Int)
         ·exact walk E0ok mix0 At.scope_Formed rfl kr kr 3000 (y:=AV.v (Value.bool false)) [sb h1,sb h2,sb h3,sb h4,sb h5,sb h6,sb h7,sb h8,sg h17,sb (rfl:true=true)] kr (by simp only [za8,cond_true,cond_false,h1,h2,h3,h4,h5,h6,h7,h8,h17] <;> rfl)
         ·exact walk E0ok mix0 At.scope_Formed rfl kr kr 3000 (y:=AV.v (Value.bool false)) [sb h1,sb h2,sb h3,sb h4,sb h5,sb h6,sb h7,sb h8,sb h17] kr (by simp only [za8,cond_true,cond_false,h1,h2,h3,h4,h5,h6,h7,h8,h17] <;> rfl)
       ·cases h18:(↑(zab xs).length:Int) != (3:Int)
        ·exact walk E0ok mix0 At.scope_Formed rfl kr kr 3000 (y:=AV.v (Value.bool true)) [sb h1,sb h2,sb h3,sb h4,sb h5,sb h6,sb h7,sg h18,sb (rfl:false=false),sb (rfl:true=true)] kr (by simp only [za8,cond_true,cond_false,h1,h2,h3,h4,h5,h6,h7,h18] <;> rfl)
        ·exact walk E0ok mix0 At.scope_Formed rfl kr kr 3000 (y:=AV.v (Value.bool false)) [sb h1,sb h2,sb h3,sb h4,sb h5,sb h6,sb h7,sb h18] kr (by simp only [za8,cond_true,cond_false,h1,h2,h3,h4,h5,h6,h7,h18] <;> rfl)
      ·cases h19:decide (op < (1:Int))
       ·cases h20:decide ((13:Int) < op)
        ·cases h21:(↑(zab xs).length:Int) != (2:Int)
         ·exact walk E0ok mix0 At.scope_Formed rfl kr kr 3000 (y:=AV.v (Value.bool true)) [sb h1,sb h2,sb h3,sb h4,sb h5,sb h6,sg h19,sb h20,sg h21,sb (rfl:false=false),sb (rfl:true=true)] kr (by simp only [za8,cond_true,cond_false,h1,h2,h3,h4,h5,h6,h19,h20,h21] <;> rfl)
         ·exact walk E0ok mix0 At.scope_Formed rfl kr kr 3000 (y:=AV.v (Value.bool false)) [sb h1,sb h2,sb h3,sb h4,sb h5,sb h6,sg h19,sb h20,sb h21] kr (by simp only [za8,cond_true,cond_false,h1,h2,h3,h4,h5,h6,h19,h20,h21] <;> rfl)
        ·exact walk E0ok mix0 At.scope_Formed rfl kr kr 3000 (y:=AV.v (Value.bool false)) [sb h1,sb h2,sb h3,sb h4,sb h5,sb h6,sg h19,sb h20] kr (by simp only [za8,cond_true,cond_false,h1,h2,h3,h4,h5,h6,h19,h20] <;> rfl)
       ·exact walk E0ok mix0 At.scope_Formed rfl kr kr 3000 (y:=AV.v (Value.bool false)) [sb h1,sb h2,sb h3,sb h4,sb h5,sb h6,sb h19] kr (by simp only [za8,cond_true,cond_false,h1,h2,h3,h4,h5,h6,h19] <;> rfl)
     ·cases h22:(↑(zab xs).length:Int) != (1:Int)
      ·exact walk E0ok mix0 At.scope_Formed rfl kr kr 3000 (y:=AV.v (Value.bool true)) [sb h1,sb h2,sb h3,sb h4,sb h5,sg h22,sb (rfl:false=false),sb (rfl:true=true)] kr (by simp only [za8,cond_true,cond_false,h1,h2,h3,h4,h5,h22] <;> rfl)
      ·exact walk E0ok mix0 At.scope_Formed rfl kr kr 3000 (y:=AV.v (Value.bool false)) [sb h1,sb h2,sb h3,sb h4,sb h5,sb h22] kr (by simp only [za8,cond_true,cond_false,h1,h2,h3,h4,h5,h22] <;> rfl)
    ·cases h23:(↑(zab xs).length:Int) != (1:Int)
     ·exact walk E0ok mix0 At.scope_Formed rfl kr kr 3000 (y:=AV.v (Value.bool true)) [sb h1,sb h2,sb h3,sb h4,sg h23,sb (rfl:false=false),sb (rfl:true=true)] kr (by simp only [za8,cond_true,cond_false,h1,h2,h3,h4,h23] <;> rfl)
     ·exact walk E0ok mix0 At.scope_Formed rfl kr kr 3000 (y:=AV.v (Value.bool false)) [sb h1,sb h2,sb h3,sb h4,sb h23] kr (by simp only [za8,cond_true,cond_false,h1,h2,h3,h4,h23] <;> rfl)
   ·cases h24:(↑(zab xs).length:Int) != (1:Int)
    ·exact walk E0ok mix0 At.scope_Formed rfl kr kr 3000 (y:=AV.v (Value.bool true)) [sb h1,sb h2,sb h3,sg h24,sb (rfl:false=false),sb (rfl:true=true)] kr (by simp only [za8,cond_true,cond_false,h1,h2,h3,h24] <;> rfl)
    ·exact walk E0ok mix0 At.scope_Formed rfl kr kr 3000 (y:=AV.v (Value.bool false)) [sb h1,sb h2,sb h3,sb h24] kr (by simp only [za8,cond_true,cond_false,h1,h2,h3,h24] <;> rfl)
  ·cases h25:(↑(zab xs).length:Int) != (0:Int)
   ·exact walk E0ok mix0 At.scope_Formed rfl kr kr 3000 (y:=AV.v (Value.bool true)) [sb h1,sb h2,sg h25,sb (rfl:false=false),sb (rfl:true=true)] kr (by simp only [za8,cond_true,cond_false,h1,h2,h25] <;> rfl)
   ·exact walk E0ok mix0 At.scope_Formed rfl kr kr 3000 (y:=AV.v (Value.bool false)) [sb h1,sb h2,sb h25] kr (by simp only [za8,cond_true,cond_false,h1,h2,h25] <;> rfl)
 ·cases h26:(↑(zab xs).length:Int) != (0:Int)
  ·exact walk E0ok mix0 At.scope_Formed rfl kr kr 3000 (y:=AV.v (Value.bool true)) [sb h1,sg h26,sb (rfl:false=false),sb (rfl:true=true)] kr (by simp only [za8,cond_true,cond_false,h1,h26] <;> rfl)
  ·exact walk E0ok mix0 At.scope_Formed rfl kr kr 3000 (y:=AV.v (Value.bool false)) [sb h1,sb h26] kr (by simp only [za8,cond_true,cond_false,h1,h26] <;> rfl)
end Go.AM
namespace Go.AM
set_option maxRecDepth 100000
set_option linter.unusedSimpArgs false
set_option linter.unusedVariables false
theorem zd2 {p:Prop} (h:p:=by first|assumption|omega|(simp;done)|(simp;omega)):p:=h
def modI (v n:Int):Int:=bif decide (v.tmod n < 0) then IntKind.i64.wrap (v.tmod n+n) else v.tmod n
theorem zod (v n:Int) (hn:n≠0):Pure S.world_Mod [iv v,iv n] (iv (modI v n)):=by
 unfold modI
 cases h1:decide (v.tmod n < (0:Int))
 ·exact wk At.world_Mod [sx (.i (v.tmod n)) (show ¬n=(0:Int)∧(v.tmod n:Int)=v.tmod n from ⟨hn,rfl⟩),sb h1] kr
 ·exact wk At.world_Mod [sx (.i (v.tmod n)) (show ¬n=(0:Int)∧(v.tmod n:Int)=v.tmod n from ⟨hn,rfl⟩),sb h1,si (e:=IntKind.i64.wrap (v.tmod n+n)) rfl] kr
def Tp.next (t:Tp) (n:Int):Nat × Tp:=match t.l[t.pos]? with
 | some x=>((modI x n).toNat,⟨t.l,t.pos+1,t.ok⟩)
 | none=>(0,t)
theorem zlS (v n:Int) (hn:0 < n) (hv:n≤9223372036854775807):0≤modI v n∧modI v n < n:=by
 unfold modI
 have h1:=Int.tmod_lt_of_pos v hn
 have h2:-n < v.tmod n:=by
  have:=Int.tmod_lt_of_pos (-v) hn
  rw [Int.neg_tmod] at this;omega
 cases h:decide (v.tmod n < 0)
 ·simp at h;simp;omega
 ·simp at h;simp only [cond_true];rw [IntKind.wrap_i64];omega
theorem Tp.next_lt (t:Tp) (n:Int) (hn:0 < n) (hv:n≤9223372036854775807):((t.next n).1:Int) < n:=by
 unfold Tp.next
 split
 ·have:=zlS (by assumption) n hn hv
  simp;omega
 ·simpa using hn
abbrev Pos (n:Int):Prop:=0 < n∧n≤9223372036854775807
theorem zfW (i:Nat) (h:i < 9223372036854775806):IntKind.i64.wrap (((i+1:Nat):Int) - 1)=((i:Nat):Int):=by
 rw [IntKind.wrap_i64];omega
theorem zrW (t:Tp) (n:Int) (hx:t.l.length≤t.pos):zac E0 S.world_Tape_Next [.p 0 0,iv n] [.box t.cells] (iv 0) [.box t.cells]:=by
 have h0:decide ((((t.l.map fun n=>[iv n]).length:Nat):Int)≤((t.pos:Nat):Int))=true:=by simp;omega
 exact wk At.world_Tape_Next [sd [],sb h0] kr
theorem zhQ (t:Tp) (n:Int) (x:Int) (hn:n≠0) (hx:t.l[t.pos]?=some x) (h0:decide ((((t.l.map fun n=>[iv n]).length:Nat):Int)≤((t.pos:Nat):Int))=false) (hw:IntKind.i64.wrap ((t.pos:Int)+1)=((t.pos+1:Nat):Int)) (hw2:IntKind.i64.wrap (((t.pos+1:Nat):Int) - 1)=((t.pos:Nat):Int)):∃ (a:Int),a=modI x n∧zac E0 S.world_Tape_Next [.p 0 0,iv n] [.box t.cells] (iv a) [.box (Tp.cells ⟨t.l,t.pos+1,t.ok⟩)]:=by
 exact ⟨modI x n,by first|assumption|trivial|(simp;done)|omega|(simp;omega)|(simp at *;omega),wk At.world_Tape_Next [sd [],sb h0,si hw,sd [(8,[si hw2]),(9,[se (zah (fun n=>[iv n]) hx rfl)]),(12,[sc (zod x n zd2)])]] kr⟩
theorem c_next (t:Tp) (n:Int) (hn:Pos n):zac E0 S.world_Tape_Next [.p 0 0,iv n] [.box t.cells] (iv ((t.next n).1:Nat)) [.box (t.next n).2.cells]:=by
 unfold Tp.next
 cases hx:t.l[t.pos]? with
 | none=>exact zrW t n (by simpa using hx)
 | some x =>
  have hl:=zhi hx
  have ho:=t.ok
  obtain ⟨a,rfl,hc⟩:=zhQ t n x (by omega) hx (by simp;omega) (zao t.pos (by omega)) (zfW t.pos (by omega))
  have h2:=zlS x n hn.1 hn.2
  simp only
  rw [Int.toNat_of_nonneg h2.1]
  exact hc
theorem zaf (t:Tp) (n:Int) (hn:Pos n):∃ (a:Nat) (t':Tp),(a:Int) < n∧zac E0 S.world_Tape_Next [.p 0 0,iv n] [.box t.cells] (iv a) [.box t'.cells] :=
 ⟨_,_,t.next_lt n hn.1 hn.2,c_next t n hn⟩
abbrev I64 (n:Int):Prop:=-9223372036854775808≤n∧n≤9223372036854775807
theorem zdi (n:Int):I64 (IntKind.i64.wrap n):=by simp only [I64];rw [IntKind.wrap_i64];omega
theorem zaj (t:Tp) (n:Int) (hn:Pos n):∃ (b:Bool) (t':Tp),zac E0 S.world_Tape_Bool [.p 0 0,iv n] [.box t.cells] (bv b) [.box t'.cells]:=by
 obtain ⟨a1,t1,q1,c1⟩:=(zaf t n zd2)
 exact ⟨(a1:Int)==IntKind.i64.wrap (n - 1),t1,wk At.world_Tape_Bool [sl [0] c1,si (e:=IntKind.i64.wrap (n - 1)) rfl] kr⟩
theorem zaX (t:Tp) :∃ (a:Int) (t':Tp),(-3≤a∧a≤12)∧zac E0 S.world_Tape_Small [.p 0 0] [.box t.cells] (iv a) [.box t'.cells]:=by
 obtain ⟨a1,t1,q1,c1⟩:=(zaf t 16 zd2)
 exact ⟨IntKind.i64.wrap ((a1:Int) - 3),t1,by rw [IntKind.wrap_i64];omega,wk At.world_Tape_Small [sl [0] c1,si (e:=IntKind.i64.wrap ((a1:Int) - 3)) rfl] kr⟩
theorem zjs (t:Tp) :∃ (a:Int) (t':Tp),I64 a∧zac E0 S.world_Tape_Number [.p 0 0] [.box t.cells] (iv a) [.box t'.cells]:=by
 obtain ⟨a1,t1,q1,c1⟩:=(zaf t 8 zd2)
 cases h2:(a1:Int)==0
 ·cases h3:(a1:Int)==1
  ·cases h4:(a1:Int)==2
   ·obtain ⟨a5,t5,q5,c5⟩:=(zaf t1 9 zd2)
    exact ⟨(a5:Int),t5,by first|exact zdi _|(simp only [I64];omega),wk At.world_Tape_Number [sl [0] c1,sb h2,sb h3,sb h4,sl [0] c5] kr⟩
   ·obtain ⟨a6,t6,q6,c6⟩:=(zaf t1 9 zd2)
    exact ⟨IntKind.i64.wrap (-(a6:Int)),t6,by first|exact zdi _|(simp only [I64];omega),wk At.world_Tape_Number [sl [0] c1,sb h2,sb h3,sb h4,sl [0] c6,si (e:=IntKind.i64.wrap (-(a6:Int))) rfl] kr⟩
  ·obtain ⟨a7,t7,q7,c7⟩:=(zaf t1 3 zd2)
   exact ⟨IntKind.i64.wrap (-9223372036854775808+(a7:Int)),t7,by first|exact zdi _|(simp only [I64];omega),wk At.world_Tape_Number [sl [0] c1,sb h2,sb h3,sl [0] c7,si (e:=IntKind.i64.wrap (-9223372036854775808+(a7:Int))) rfl] kr⟩
 ·obtain ⟨a8,t8,q8,c8⟩:=(zaf t1 3 zd2)
  exact ⟨IntKind.i64.wrap (9223372036854775807 - (a8:Int)),t8,by first|exact zdi _|(simp only [I64];omega),wk At.world_Tape_Number [sl [0] c1,sb h2,sl [0] c8,si (e:=IntKind.i64.wrap (9223372036854775807 - (a8:Int))) rfl] kr⟩
def zjG (i:Nat):Str:=zd8.getD i ⟨#[]⟩
def zob (i:Nat):Str:=zlN.getD i ⟨#[]⟩
theorem zsr (i:Nat) (h:(i:Int) < 6):ArrAt (zd8.map sv) i 6 [sv (zjG i)] 1:=by
 have h:i=0∨i=1∨i=2∨i=3∨i=4∨i=5:=by omega
 rcases h with rfl|rfl|rfl|rfl|rfl|rfl <;> exact ⟨by decide,by decide,rfl,rfl⟩
theorem zr5 (i:Nat) (h:(i:Int) < 8):ArrAt (zlN.map sv) i 8 [sv (zob i)] 1:=by
 have h:i=0∨i=1∨i=2∨i=3∨i=4∨i=5∨i=6∨i=7:=by omega
 rcases h with rfl|rfl|rfl|rfl|rfl|rfl|rfl|rfl <;> exact ⟨by decide,by decide,rfl,rfl⟩
theorem zrS (i:Nat) (h:(i:Int) < 6):ArrAt (zd8.map sv) i 6 [sv (zjG i)] 1:=zsr i h
theorem zsh (i:Nat) (h:(i:Int) < 8):ArrAt (zlN.map sv) i 8 [sv (zob i)] 1:=zr5 i h
theorem zrV (i:Nat):zjG i∈zd8:=by
 unfold zjG
 rw [List.getD_eq_getElem?_getD]
 cases h:zd8[i]? with
 | none=>simp [zd8,zbN]
 | some x=>exact List.mem_of_getElem? h
theorem zdm (t:Tp) :∃ (w:Str) (t':Tp),w∈zd8∧zac E0 S.world_Tape_Word [.p 0 0] [.box t.cells] (sv w) [.box t'.cells]:=by
 obtain ⟨a1,t1,q1,c1⟩:=(zaf t 6 zd2)
 exact ⟨zjG a1,t1,by exact zrV _,wk At.world_Tape_Word [sl [0] c1,sa (zrS a1 zd2)] kr⟩
theorem zgc (t:Tp) :∃ (w:Str) (t':Tp),zac E0 S.world_Tape_Name [.p 0 0] [.box t.cells] (sv w) [.box t'.cells]:=by
 obtain ⟨a1,t1,q1,c1⟩:=(zaf t 8 zd2)
 exact ⟨zob a1,t1,wk At.world_Tape_Name [sl [0] c1,sa (zsh a1 zd2)] kr⟩
structure V.Good (v:V):Prop where
 valid:zdE v=true
 i64:I64 v.int
 small:v.small
theorem zbt {n:Int} (h:I64 n):V.Good ⟨1,n,⟨#[]⟩⟩:=⟨by kernel_rfl,h,zil⟩
theorem zaW:V.Good ⟨0,0,⟨#[]⟩⟩:=⟨by kernel_rfl,by decide,zil⟩
theorem zet {n:Nat} (h:(n:Int) < 2):V.Good ⟨2,n,⟨#[]⟩⟩:=by
 have:n=0∨n=1:=by omega
 rcases this with rfl|rfl <;> exact ⟨by kernel_rfl,by decide,zil⟩
theorem zhr {w:Str} (h:w∈zd8):V.Good ⟨3,0,w⟩:=by
 simp only [zd8,List.mem_cons,List.not_mem_nil,or_false] at h
 rcases h with rfl|rfl|rfl|rfl|rfl|rfl <;> exact ⟨by kernel_rfl,by decide,by decide⟩
abbrev zcI (k:Int):Int:=if k=1∨k=2∨k=3 then k else 0
theorem za1 (t:Tp) (kind:Int) :∃ (v:V) (t':Tp),(v.kind=zcI kind∧v.Good)∧zac E0 S.world_Tape_Typed [.p 0 0,iv kind] [.box t.cells] v.av [.box t'.cells]:=by
 cases h1:kind==1
 ·cases h2:kind==2
  ·cases h3:kind==3
   ·exact ⟨V.mk 0 0 (ByteArray.mk #[]),t,by first|exact ⟨by simp_all [zcI],zbt (by assumption)⟩|exact ⟨by simp_all [zcI],zet (by assumption)⟩|exact ⟨by simp_all [zcI],zhr (by assumption)⟩|exact ⟨by simp_all [zcI],zaW⟩,wk At.world_Tape_Typed [sb h1,sb h2,sb h3] kr⟩
   ·obtain ⟨w4,t4,q4,c4⟩:=(zdm t)
    exact ⟨V.mk 3 0 w4,t4,by first|exact ⟨by simp_all [zcI],zbt (by assumption)⟩|exact ⟨by simp_all [zcI],zet (by assumption)⟩|exact ⟨by simp_all [zcI],zhr (by assumption)⟩|exact ⟨by simp_all [zcI],zaW⟩,wk At.world_Tape_Typed [sb h1,sb h2,sb h3,sl [0] c4] kr⟩
  ·obtain ⟨a5,t5,q5,c5⟩:=(zaf t 2 zd2)
   exact ⟨V.mk 2 (a5:Int) (ByteArray.mk #[]),t5,by first|exact ⟨by simp_all [zcI],zbt (by assumption)⟩|exact ⟨by simp_all [zcI],zet (by assumption)⟩|exact ⟨by simp_all [zcI],zhr (by assumption)⟩|exact ⟨by simp_all [zcI],zaW⟩,wk At.world_Tape_Typed [sb h1,sb h2,sl [0] c5] kr⟩
 ·obtain ⟨a6,t6,q6,c6⟩:=(zjs t)
  exact ⟨V.mk 1 a6 (ByteArray.mk #[]),t6,by first|exact ⟨by simp_all [zcI],zbt (by assumption)⟩|exact ⟨by simp_all [zcI],zet (by assumption)⟩|exact ⟨by simp_all [zcI],zhr (by assumption)⟩|exact ⟨by simp_all [zcI],zaW⟩,wk At.world_Tape_Typed [sb h1,sl [0] c6] kr⟩
def xLit (v:V):X :=
 X.mk 1 0 false v (ByteArray.mk #[]) (ByteArray.mk #[]) [] []
theorem zaS (v:V) :zac E0 S.world_Lit [v.av] [] ((xLit v).av) []:=by
 exact wk At.world_Lit [] kr
def xCol (t n:Str):X :=
 X.mk 2 0 false (V.mk 0 0 (ByteArray.mk #[])) t n [] []
theorem zaM (t n:Str) :zac E0 S.world_Col [sv t,sv n] [] ((xCol t n).av) []:=by
 exact wk At.world_Col [] kr
def xBin (op:Int) (a b:X):X :=
 X.mk 5 op false (V.mk 0 0 (ByteArray.mk #[])) (ByteArray.mk #[]) (ByteArray.mk #[]) [a,b] []
theorem zaA (op:Int) (a b:X) :zac E0 S.world_Bin [iv op,a.av,b.av] [] ((xBin op a b).av) []:=by
 unfold xBin
 exact (by (try simp only [X.av,Qy.av,xsl,zam,zaq,zan,zar,X.cells,Qy.cells,X.args_mk,X.sub_mk,Qy.items_mk,Qy.wh_mk]);exact wk At.world_Bin [] kr)
end Go.AM
namespace Go.AM
open Go.RowKit
set_option linter.unusedSimpArgs false
set_option linter.unusedVariables false
section
variable {E : Env0}
theorem zrc (ht:zaO E) {fn:Func} {R:AV→Heap→Prop} {h0:Heap} {n:Nat} {ts:TS} {h:Heap} {y:AV} (hv:retV E ts h fn.results.toList=some y) (hR:R y h):Good E fn h0 ⟨n,[],ts,h⟩ R:=by
 intro β0 S0 w0 β S w tmps hb0 hn x0 r rt
 simp only at r rt x0
 have key:∀ v,(results fn tmps).run E.P w=.ok v w→RelV E.T h β w S y v→kont E.P [] (bodyPost E.P fn (Post E h0 β0 S0 w0 R)) .normal ⟨tmps,[]⟩ w:=by
  intro v hrun hrel
  have hpost:bodyPost E.P fn (Post E h0 β0 S0 w0 R) .normal ⟨tmps,[]⟩ w:=⟨rfl,v,hrun,y,h,β,S,v,rfl,hR,r,x0,hrel⟩
  exact hpost
 unfold retV at hv
 cases ha:zgH E ts h fn.results.toList with
 | none=>simp [ha] at hv
 | some ys =>
  obtain ⟨vs,w1,w2⟩:=zj3 ht r rt _ ys ha
  have hrun:(results fn tmps).run E.P w=.ok (if hh:vs.toArray.size=1 then vs.toArray[0] else .tuple vs.toArray) w:=by
   rw [zlj,Array.mapM_eq_mapM_toList]
   simp only [Sem.run_bind,Sem.run_map]
   rw [w1]
   simp only [Result.andThen_ok,Sem.run_pure]
  rw [ha] at hv
  split at hv
  ·rename_i x hx
   cases hx
   cases hv
   have hvl:=w2.1
   match vs,hvl,w2,hrun with
   | [v],_,w2,hrun =>
    refine key v ?_ w2.uncons.1
    rw [hrun]
    simp
   | [],hvl,_,_=>simp at hvl
   | _::_::_,hvl,_,_=>simp at hvl
  ·rename_i xs hne hx
   cases hx
   cases hv
   refine key (.tuple vs.toArray) ?_ (.tup _ _ w2.1 w2.2)
   rw [hrun,dif_neg]
   intro h1
   have hl:ys.length=1:=by rw [w2.1];simpa using h1
   match ys,hl with
   | [a],_=>exact hne a rfl
  ·rename_i hx
   cases hx
end
theorem zmL {E:Env0} {fn:Func} {h0:Heap} {c c':Cfg} {R:AV→Heap→Prop} (b i:Nat) (live:List Nat) (m:Nat) {cs:List AV} (hb:c.h[b]?=some (.box cs)) (hi:cs[i]?=some .nl) (hm:Nat.ble h0.length m=true)
  (he:cut live m ⟨c.n,c.todo,c.ts,c.h.set b (.box (cs.set i (.sl [])))⟩=c') (hg:Good E fn h0 c' R):Good E fn h0 c R:=by
 have hg':=zdZ live m (Nat.le_of_ble_eq_true hm) (he ▸ hg)
 intro β0 S0 w0 β S w tmps hb0 hn x0 r rt
 have x2:=zgl (β:=β) (S:=S) (w:=w) hb (cs.set i (.sl []))
 have r2:=r.setBox hb (cs.set i (.sl [])) (fun g' vs' t' e2 e3 e4 e5=>by
  refine ⟨by simpa using e4,fun j x' y hx hy=>?_⟩
  by_cases hij:i=j
  ·subst hij
   rw [List.getElem?_set_self (List.getElem?_eq_some_iff.1 hi).1] at hx
   cases hx
   have:=e5 i .nl y hi hy
   refine ⟨?_,this.2⟩
   obtain ⟨a,rfl⟩:=zi3 this.1
   exact .d _ _ (.sl [] a 0 0 0 0 (fun _=>undef) (fun hn=>absurd rfl hn) (Nat.le_refl _) (Nat.zero_le _) (by simp) (by simp) (by simp))
  ·rw [List.getElem?_set_ne hij] at hx
   exact e5 j x' y hx hy)
 exact hg' β0 S0 w0 β S w tmps hb0 hn (x0.trans x2) r2 fun t'=>(rt t').ext x2
def finE (E:Env) (fn:Func) (m n:Nat) (c:Cfg) (os:List Orc):Option (List Prop × AV × Heap) :=
 match run E n c os with
 | (q,⟨_,[],ts,h⟩,[])=>match retV E.toEnv0 ts h fn.results.toList with
  | some y=>some ((match frzM y with|[]=>q|_::_=>frzO h y::q),frz h y,((share h (frzM y)).take m).map (zbB (zcS m)))
  | none=>none
 | _=>none
theorem zqW {E:Env0} (ht:zaO E) (hmix:E.P.follows .mixedOrders=true) {fn:Func} {R:AV→Heap→Prop} {h0:Heap} {c:Cfg} (n:Nat) (os:List Orc) {q:List Prop} {y:AV} {H:Heap} {m:Nat}
  (hfin:finE (mk E) fn m n c os=some (q,y,H)) (hq:allP q) (hR:R y H):Good E fn h0 c (Shut m R):=by
 unfold finE at hfin
 split at hfin
 ·rename_i q' n' ts h' hrun
  split at hfin
  ·rename_i y' hret
   simp only [Option.some.injEq,Prod.mk.injEq] at hfin
   obtain ⟨h1,h2,h3⟩:=hfin
   have hqo:allP q'∧frzO h' y':=by
    split at h1
    ·rename_i hm
     subst h1
     exact ⟨hq,zeP y' hm⟩
    ·subst h1
     obtain ⟨a,b⟩:=zka hq
     exact ⟨b,a⟩
   refine zhM ht hmix n c os (by rw [hrun];exact hqo.1) ?_
   rw [hrun]
   exact zrc ht hret ⟨hqo.2,by rw [h2,h3];exact hR⟩
  ·cases hfin
 ·cases hfin
noncomputable def runFE (fn:Func) (args:List AV) (h:Heap) (os:List Orc):Option (List Prop × AV × Heap) :=
 match fn.body, (fn.name == "runtime.NumGoroutine"), Nat.ble args.length fn.ntmps with
 | some c,false,true=>finE (mk E0) fn h.length 3000 ⟨fn.ntmps,[.code c],zcf 0 args,h⟩ os
 | _,_,_=>none
theorem wkE {f:FuncId} {fn:Func} {args:List AV} {h H:Heap} {r:AV} (hf:E0.P.funcs[f]?=some fn) (l:List St) (hfin:runFE fn args h (orcs l)=some (zbK l,r,H)):zac E0 f args h r H:=by
 unfold runFE at hfin
 split at hfin
 ·rename_i c hb hn ha
  exact zea (za7 hf hb hn (Nat.le_of_ble_eq_true ha) (zqW E0ok mix0 3000 (orcs l) hfin (zbq l) ⟨rfl,rfl⟩))
 ·cases hfin
end Go.AM
namespace Go.AM
inductive Ct where
 | fz (t:Nat)
 | os (t:Nat)
 | bl (t:Nat)
 | bx (k q:Nat)
 | nl (k q:Nat)
 | ot (t:Nat) (e:TypeId)
 | ob (k q:Nat) (e:TypeId)
def ctM (live:List Nat) (m:Nat) (x:Ct) (c:Cfg):Option (List Prop × Cfg):=match x with
 | .fz t=>some ([frzO c.h (look c.ts t)],cut live m ⟨c.n,c.todo,(t,frz c.h (look c.ts t))::c.ts,share c.h (frzM (look c.ts t))⟩)
 | .os t=>match look c.ts t with
  | .own b n=>some ([],cut live m ⟨c.n,c.todo,(t,.os b n 0 n)::c.ts,c.h⟩)
  | _=>none
 | .bl t=>match look c.ts t with
  | .bl b=>some ([],cut live m ⟨c.n,c.todo,(t,.v (.bool b))::c.ts,c.h⟩)
  | _=>none
 | .bx k q=>match c.h[k]? with
  | some (.box cs)=>match cs[q]? with
   | some (.bl b)=>some ([],cut live m ⟨c.n,c.todo,c.ts,c.h.set k (.box (cs.set q (.v (.bool b))))⟩)
   | _=>none
  | _=>none
 | .nl k q=>match c.h[k]? with
  | some (.box cs)=>match cs[q]? with
   | some .nl=>some ([],cut live m ⟨c.n,c.todo,c.ts,c.h.set k (.box (cs.set q (.sl [])))⟩)
   | _=>none
  | _=>none
 | .ot t e=>match look c.ts t with
  | .nl=>some ([],cut live m ⟨c.n,c.todo,(t,.own c.h.length 0)::c.ts,c.h++[Blk.row e [] false]⟩)
  | _=>none
 | .ob k q e=>match c.h[k]? with
  | some (.box cs)=>match cs[q]? with
   | some .nl=>some ([],cut live m ⟨c.n,c.todo,c.ts,(c.h++[Blk.row e [] false]).set k (.box (cs.set q (.own c.h.length 0)))⟩)
   | _=>none
  | _=>none
theorem ctM_ok {E:Env0} {fn:Func} {h0:Heap} {c c':Cfg} {R:AV→Heap→Prop} {live:List Nat} {m:Nat} {x:Ct} {q:List Prop} (hm:Nat.ble h0.length m=true) (h:ctM live m x c=some (q,c')) (ho:allP q) (hg:Good E fn h0 c' R):Good E fn h0 c R:=by
 cases x with
 | fz t =>
  cases h
  exact zfH t live m rfl rfl ho hm rfl hg
 | os t =>
  simp only [ctM] at h
  split at h
  ·rename_i b n hl
   cases h
   exact zlo t b n live m hl hm rfl hg
  ·cases h
 | bl t =>
  simp only [ctM] at h
  split at h
  ·rename_i b hl
   cases h
   exact zpx t b live m hl hm rfl hg
  ·cases h
 | bx k q =>
  simp only [ctM] at h
  split at h
  ·rename_i cs hb
   split at h
   ·rename_i b hi
    cases h
    exact zmw k q b live m hb hi hm rfl hg
   ·cases h
  ·cases h
 | nl k q =>
  simp only [ctM] at h
  split at h
  ·rename_i cs hb
   split at h
   ·rename_i hi
    cases h
    exact zmL k q live m hb hi hm rfl hg
   ·cases h
  ·cases h
 | ot t e =>
  simp only [ctM] at h
  split at h
  ·rename_i hl
   cases h
   exact za9 t e live m hl hm rfl hg
  ·cases h
 | ob k q e =>
  simp only [ctM] at h
  split at h
  ·rename_i cs hb
   split at h
   ·rename_i hi
    cases h
    exact zh4 k q e live m hb hi hm rfl hg
   ·cases h
  ·cases h
def cts (live:List Nat) (n0:Nat):List (Ct × Nat)→List Prop→Cfg→Option (List Prop × Cfg)
 | [],q,c=>some (q,c)
 | (x,m)::r,q,c=>match Nat.ble n0 m,ctM live m x c with
  | true,some (q1,c1)=>cts live n0 r (q++q1) c1
  | _,_=>none
theorem zeW:∀ {a b:List Prop},allP (a++b)→allP a∧allP b
 | [],_,h=>⟨trivial,h⟩
 | [_],[],h=>⟨h,trivial⟩
 | [_],_::_,h=>⟨h.1,h.2⟩
 | _::q::r,b,h=>by
  have:=zeW (a:=q::r) (b:=b) h.2
  exact ⟨⟨h.1,this.1⟩,this.2⟩
theorem zkj {live:List Nat} {n0:Nat}:∀ {l:List (Ct × Nat)} {q q':List Prop} {c c':Cfg},cts live n0 l q c=some (q',c')→∃ q2,q'=q++q2
 | [],_,_,_,_,h=>by
  cases h
  exact ⟨[],by simp⟩
 | (x,m)::r,q,q',c,c',h=>by
  simp only [cts] at h
  split at h
  ·rename_i q1 c1 _ _
   obtain ⟨q2,h2⟩:=zkj h
   exact ⟨q1++q2,by rw [h2,List.append_assoc]⟩
  ·cases h
theorem znp {E:Env0} {fn:Func} {h0:Heap} {R:AV→Heap→Prop} {live:List Nat}:∀ {l:List (Ct × Nat)} {q q':List Prop} {c c':Cfg},cts live h0.length l q c=some (q',c')→allP q'→Good E fn h0 c' R→Good E fn h0 c R
 | [],_,_,_,_,h,_,hg=>by
  cases h
  exact hg
 | (x,m)::r,q,q',c,c',h,ho,hg=>by
  simp only [cts] at h
  split at h
  ·rename_i q1 c1 hm hc
   obtain ⟨q2,h2⟩:=zkj h
   have h3:allP q1:=by
    rw [h2] at ho
    exact (zeW (zeW ho).1).2
   exact ctM_ok hm hc h3 (znp h ho hg)
  ·cases h
noncomputable def zq0 (fn:Func) (args:List AV) (h:Heap) (live:List Nat) (m:Nat) (k:List (Ct × Nat)) (os:List Orc):Option (List Prop × Cfg) :=
 match zm7 fn args h live m os with
 | some (q,c)=>cts live h.length k q c
 | none=>none
noncomputable def zqB (h0:Heap) (live:List Nat) (m:Nat) (k:List (Ct × Nat)) (c:Cfg) (os:List Orc):Option (List Prop × Cfg) :=
 match zmZ h0 live m c os with
 | some (q,c)=>cts live h0.length k q c
 | none=>none
theorem zmq {fn:Func} {h0:Heap} {c c':Cfg} {R:AV→Heap→Prop} {live:List Nat} {m:Nat} {os:List Orc} {q:List Prop} (hm:Nat.ble h0.length m=true) (hu:upto (mk E0) live m 3000 c os=(q,c')) (hq:allP q) (hg:Good E0 fn h0 c' R):Good E0 fn h0 c R:=by
 unfold upto at hu
 have h1:(run (mk E0) 3000 c os).1=q:=by
  have:=congrArg Prod.fst hu
  exact this
 have h2:cut live m (run (mk E0) 3000 c os).2.1=c':=congrArg Prod.snd hu
 exact zkm E0ok mix0 3000 os live m hm h1 h2 hq hg
theorem wklN {fn:Func} {R:AV→Heap→Prop} {h0:Heap} {c c':Cfg} (l:List St) (live:List Nat) (m:Nat) (k:List (Ct × Nat)) (hu:zqB h0 live m k c (orcs l)=some (zbK l,c')) (hg:Good E0 fn h0 c' R):Good E0 fn h0 c R:=by
 unfold zqB at hu
 split at hu
 ·rename_i q c1 h1
  unfold zmZ at h1
  split at h1
  ·rename_i hm
   obtain ⟨q2,h2⟩:=zkj hu
   have h3:=zbq l
   have h4:allP q:=by
    rw [h2] at h3
    exact (zeW h3).1
   exact zmq hm (Option.some.inj h1) h4 (znp hu h3 hg)
  ·cases h1
 ·cases hu
theorem wkcN {f:FuncId} {fn:Func} {args:List AV} {h:Heap} {R:AV→Heap→Prop} {c':Cfg} (hf:E0.P.funcs[f]?=some fn) (l:List St) (live:List Nat) (m:Nat) (k:List (Ct × Nat)) (hu:zq0 fn args h live m k (orcs l)=some (zbK l,c'))
  (hg:Good E0 fn h c' (Shut h.length R)):zde E0 f args h R:=by
 unfold zq0 at hu
 split at hu
 ·rename_i q c1 h1
  unfold zm7 at h1
  split at h1
  ·rename_i c hb hn ha hm
   obtain ⟨q2,h2⟩:=zkj hu
   have h3:=zbq l
   have h4:allP q:=by
    rw [h2] at h3
    exact (zeW h3).1
   exact zea (za7 hf hb hn (Nat.le_of_ble_eq_true ha) (zmq hm (Option.some.inj h1) h4 (znp hu h3 hg)))
  ·cases h1
 ·cases hu
end Go.AM
namespace Go.AM
set_option maxRecDepth 100000
set_option linter.unusedSimpArgs false
set_option linter.unusedVariables false
theorem zkp {p:Prop} (h:p:=by first|assumption|omega|(simp;done)|(simp;omega)):p:=h
structure ValOk (c:Col) (v:V):Prop where
 good:v.Good
 kind:v.kind=0∨v.kind=c.type
 nn:c.notNull=true→v.kind=c.type
abbrev ColOk (c:Col):Prop:=c.type=1∨c.type=2∨c.type=3
structure PrefOk (cols:List Col) (n:Nat) (vals:List V):Prop where
 len:vals.length=n
 at_:∀ (k:Nat) (c:Col) (v:V),cols[k]?=some c→vals[k]?=some v→ValOk c v
abbrev zmV (cols:List Col) (vals:List V):Prop:=PrefOk cols cols.length vals
theorem PrefOk.nil (cols:List Col):PrefOk cols 0 []:=⟨rfl,fun k c v _ h=>by simp at h⟩
theorem PrefOk.push {cols:List Col} {n:Nat} {vals:List V} (h:PrefOk cols n vals) {c:Col} (hc:cols[n]?=some c) {v:V} (hv:ValOk c v):PrefOk cols (n+1) (vals++[v]):=by
 refine ⟨by simp [h.len],fun k c' v' h1 h2=>?_⟩
 by_cases hk:k < vals.length
 ·rw [List.getElem?_append_left hk] at h2
  exact h.at_ k c' v' h1 h2
 ·rw [List.getElem?_append_right (by omega)] at h2
  have hl:=h.len
  have:k - vals.length=0:=by
   rcases Nat.eq_zero_or_pos (k - vals.length) with h|h
   ·exact h
   ·rw [List.getElem?_eq_none (by simp;omega)] at h2;cases h2
  rw [this] at h2
  simp only [List.getElem?_cons_zero,Option.some.injEq] at h2
  have:k=n:=by omega
  subst this
  rw [h1] at hc
  cases hc
  exact h2 ▸ hv
def zau :(List Sch) :=
 [Sch.mk (ByteArray.mk #[108,111,103]) [Col.mk (ByteArray.mk #[110]) 1 false false,Col.mk (ByteArray.mk #[115]) 3 false false],Sch.mk (ByteArray.mk #[116]) [Col.mk (ByteArray.mk #[105,100]) 1 true true,Col.mk (ByteArray.mk #[110]) 1 false false,Col.mk (ByteArray.mk #[98]) 2 false false,Col.mk (ByteArray.mk #[115]) 3 false false],Sch.mk (ByteArray.mk #[117]) [Col.mk (ByteArray.mk #[105,100]) 1 true true,Col.mk (ByteArray.mk #[110]) 1 true false,Col.mk (ByteArray.mk #[109]) 1 false false]]
theorem zhw  :zac E0 S.world_Schemas [] [] (.sl (zau.map Sch.cells)) []:=by
 unfold zau
 exact (by (try simp only [X.av,Qy.av,V.av,Tb.av,Sch.av,Pl.av,xsl,fsl,vsl,tsl,List.map_append,List.map_cons,List.map_nil,V.cells,Col.cells,Rw.cells,Tb.cells,Fr.cells,Sch.cells,Pl.cells,zaJ,zam,zaq,zan,zar,X.cells,Qy.cells,X.args_mk,X.sub_mk,Qy.items_mk,Qy.wh_mk]);exact wk At.world_Schemas [] kr)
theorem zeh:zad zau:=by simp [zau]
noncomputable def zqT (n:Str) (i:Nat) :Cfg:=zat B.world_Schema 0 [(0,sv n),(2,.p 0 0),(5,.sl (zau.map Sch.cells)),(6,iv ((zau.map Sch.cells).length:Nat)),(7,iv (i:Nat))] [.box [sv ⟨#[]⟩,.nl]]
def zir (n:Str):List (Sch)→Nat→Sch
 | [],i =>
  Sch.mk (ByteArray.mk #[]) []
 | x::r,i =>
  bif ByteArray.toList x.name==ByteArray.toList n then
   x
  else
   zir n r (i+1)
theorem zl3 (n:Str) (hs:zad zau):∀ (kk i:Nat),i+kk=(zau).length→Good E0 B.world_Schema [] (zqT n i ) (Shut 0 fun r h=>r=((zir n ((zau).drop i) i ).av)∧h=[]):=by
 intro kk
 induction kk with
 | zero =>
  intro i  hi
  have h0:decide (((i:Nat):Int) < (((zau.map Sch.cells).length:Nat):Int))=false:=by simp;omega
  have e0:(zau).drop i=[]:=List.drop_of_length_le (by omega)
  rw [e0]
  simp only [zir]
  refine zaa ?_
  exact wkr [sb h0] kr
 | succ kk ih =>
  intro i  hi
  obtain ⟨x,hx⟩:=zax (l:=zau) (i:=i) (by omega)
  have h0:decide (((i:Nat):Int) < (((zau.map Sch.cells).length:Nat):Int))=true:=by simp;omega
  have hw:=zao i (by first|omega|(simp only [zad,Few] at *;omega))
  rw [zbD hx]
  simp only [zir]
  refine zaa ?_
  let p_1:List St:=[sb h0,se (zah Sch.cells hx rfl)]
  cases h1:ByteArray.toList x.name==ByteArray.toList n
  ·exact wkl (p_1++[sb h1,si hw]) [0,2,5,6,7] 1 kr (ih (i+1) (by omega) )
  ·exact wkr (p_1++[sb h1]) kr
def zak (n:Str):Sch :=
 zir n zau (0)
theorem zbE (n:Str) (hs:zad zau):zac E0 S.world_Schema [sv n] [] ((zak n).av) []:=by
 unfold zak
 exact wkc At.world_Schema [sc zhw] [0,2,5,6,7] 1 kr (zl3 n hs zau.length 0 (by simp))
theorem zqU (n:Int) (h1:decide (n < (0:Int))=false):Pure S.world_Num [iv n] (X.av (xLit ⟨1,n,⟨#[]⟩⟩)):=by
 exact wk At.world_Num [sb h1,sc (zaS (V.mk 1 n ⟨#[]⟩))] kr
def xNeg (a:X):X:=X.mk 4 0 false ⟨0,0,⟨#[]⟩⟩ ⟨#[]⟩ ⟨#[]⟩ [a] []
theorem c_Num1 (n:Int) (h1:decide (n < (0:Int))=true) (h2:-9223372036854775808 < n):Pure S.world_Num [iv n] (X.av (xNeg (xLit ⟨1,IntKind.i64.wrap (-n),⟨#[]⟩⟩))):=by
 have hk:=zqU (IntKind.i64.wrap (-n)) (by rw [IntKind.wrap_i64];simp at *;omega)
 unfold xNeg
 simp only [X.av,xLit,zam,zaq,X.cells,X.args_mk,X.sub_mk]
 exact wk At.world_Num [sb h1,si (e:=IntKind.i64.wrap (-n)) rfl,sc hk] kr
def xNum (n:Int):X:=bif decide (n < 0) then xNeg (xLit ⟨1,IntKind.i64.wrap (-n),⟨#[]⟩⟩) else xLit ⟨1,n,⟨#[]⟩⟩
theorem zaZ (n:Int) (h2:-9223372036854775808 < n):Pure S.world_Num [iv n] (X.av (xNum n)):=by
 unfold xNum
 cases h:decide (n < 0)
 ·exact zqU n h
 ·exact c_Num1 n h h2
def zdO (l:List V):(List V) :=
 l
theorem zdL (l:List V) (hl:zad l):zac E0 S.ref5_Copy [vsl l] [] (vsl (zdO l)) []:=by
 exact wk At.ref5_Copy [sqx ((List.map V.cells l).length=(List.map V.cells l).length),sqx (AllLen (List.map V.cells l) 3∧((List.map V.cells l).length * 32).le 140737488355328)] kr
def zcx (t:Tg) (s:Sch) (a b:List V):(List Fr) :=
 bif t.each then
  bif t.event==2 then
   [Fr.mk (ByteArray.mk #[79,76,68]) true s.cols (zdO a),Fr.mk (ByteArray.mk #[78,69,87]) true s.cols (zdO b)]
  else
   bif t.event==3 then
    bif t.event==1 then
     [Fr.mk (ByteArray.mk #[79,76,68]) true s.cols (zdO a),Fr.mk (ByteArray.mk #[78,69,87]) true s.cols (zdO b)]
    else
     [Fr.mk (ByteArray.mk #[79,76,68]) true s.cols (zdO a)]
   else
    bif t.event==1 then
     [Fr.mk (ByteArray.mk #[78,69,87]) true s.cols (zdO b)]
    else
     []
 else
  []
theorem zic (t:Tg) (s:Sch) (a b:List V) (hs:zad s.cols) (ha:zad a) (hb:zad b):zac E0 S.ref17_Frames [t.av,s.av,vsl a,vsl b] [] (fsl (zcx t s a b)) []:=by
 unfold zcx
 cases h1:t.each
 ·exact wk At.ref17_Frames [sb h1,sb h1] kr
 ·cases h2:t.event==2
  ·cases h3:t.event==3
   ·cases h4:t.event==1
    ·exact wk At.ref17_Frames [sg h1,sg h2,sb h3,sg h1,sg h2,sb h4] kr
    ·exact (by (try simp only [X.av,Qy.av,V.av,Tb.av,Sch.av,Pl.av,xsl,fsl,vsl,tsl,List.map_append,List.map_cons,List.map_nil,V.cells,Col.cells,Rw.cells,Tb.cells,Fr.cells,Sch.cells,Pl.cells,zaJ,zam,zaq,zan,zar,X.cells,Qy.cells,X.args_mk,X.sub_mk,Qy.items_mk,Qy.wh_mk]);exact wk At.ref17_Frames [sqx (1=1),sg h1,sg h2,sb h3,sg h1,sg h2,sb h4,sqx (AllLen (List.map Col.cells s.cols) 4∧((List.map Col.cells s.cols).length * 32).le 140737488355328),sc (zdL b zkp),sqx (True∧True∧(List.map Col.cells s.cols).length=(List.map Col.cells s.cols).length∧True∧True),sqx (AllLen [[sv (ByteArray.mk #[78,69,87]),bv true,AV.sl (List.map Col.cells s.cols),AV.sl (List.map V.cells (zdO b))]] 4∧Nat.le 72 140737488355328)] kr)
   ·cases h5:t.event==1
    ·exact (by (try simp only [X.av,Qy.av,V.av,Tb.av,Sch.av,Pl.av,xsl,fsl,vsl,tsl,List.map_append,List.map_cons,List.map_nil,V.cells,Col.cells,Rw.cells,Tb.cells,Fr.cells,Sch.cells,Pl.cells,zaJ,zam,zaq,zan,zar,X.cells,Qy.cells,X.args_mk,X.sub_mk,Qy.items_mk,Qy.wh_mk]);exact wk At.ref17_Frames [sqx (1=1),sg h1,sg h2,sb h3,sqx (AllLen (List.map Col.cells s.cols) 4∧((List.map Col.cells s.cols).length * 32).le 140737488355328),sc (zdL a zkp),sqx (True∧True∧(List.map Col.cells s.cols).length=(List.map Col.cells s.cols).length∧True∧True),sqx (AllLen [[sv (ByteArray.mk #[79,76,68]),bv true,AV.sl (List.map Col.cells s.cols),AV.sl (List.map V.cells (zdO a))]] 4∧Nat.le 72 140737488355328),sg h1,sg h2,sb h5] kr)
    ·exact (by (try simp only [X.av,Qy.av,V.av,Tb.av,Sch.av,Pl.av,xsl,fsl,vsl,tsl,List.map_append,List.map_cons,List.map_nil,V.cells,Col.cells,Rw.cells,Tb.cells,Fr.cells,Sch.cells,Pl.cells,zaJ,zam,zaq,zan,zar,X.cells,Qy.cells,X.args_mk,X.sub_mk,Qy.items_mk,Qy.wh_mk]);exact wk At.ref17_Frames [sqx (2=2),sg h1,sg h2,sb h3,sqx (AllLen (List.map Col.cells s.cols) 4∧((List.map Col.cells s.cols).length * 32).le 140737488355328),sc (zdL a zkp),sqx (True∧True∧(List.map Col.cells s.cols).length=(List.map Col.cells s.cols).length∧True∧True),sqx (AllLen [[sv (ByteArray.mk #[79,76,68]),bv true,AV.sl (List.map Col.cells s.cols),AV.sl (List.map V.cells (zdO a))]] 4∧Nat.le 72 140737488355328),sg h1,sg h2,sb h5,sqx (AllLen (List.map Col.cells s.cols) 4∧((List.map Col.cells s.cols).length * 32).le 140737488355328),sc (zdL b zkp),sqx (True∧True∧(List.map Col.cells s.cols).length=(List.map Col.cells s.cols).length∧True∧True),sqx (AllLen [[sv (ByteArray.mk #[78,69,87]),bv true,AV.sl (List.map Col.cells s.cols),AV.sl (List.map V.cells (zdO b))]] 4∧1=1∧Nat.le 144 140737488355328)] kr)
  ·exact (by (try simp only [X.av,Qy.av,V.av,Tb.av,Sch.av,Pl.av,xsl,fsl,vsl,tsl,List.map_append,List.map_cons,List.map_nil,V.cells,Col.cells,Rw.cells,Tb.cells,Fr.cells,Sch.cells,Pl.cells,zaJ,zam,zaq,zan,zar,X.cells,Qy.cells,X.args_mk,X.sub_mk,Qy.items_mk,Qy.wh_mk]);exact wk At.ref17_Frames [sqx (2=2),sg h1,sb h2,sqx (AllLen (List.map Col.cells s.cols) 4∧((List.map Col.cells s.cols).length * 32).le 140737488355328),sc (zdL a zkp),sqx (True∧True∧(List.map Col.cells s.cols).length=(List.map Col.cells s.cols).length∧True∧True),sqx (AllLen [[sv (ByteArray.mk #[79,76,68]),bv true,AV.sl (List.map Col.cells s.cols),AV.sl (List.map V.cells (zdO a))]] 4∧Nat.le 72 140737488355328),sg h1,sb h2,sqx (AllLen (List.map Col.cells s.cols) 4∧((List.map Col.cells s.cols).length * 32).le 140737488355328),sc (zdL b zkp),sqx (True∧True∧(List.map Col.cells s.cols).length=(List.map Col.cells s.cols).length∧True∧True),sqx (AllLen [[sv (ByteArray.mk #[78,69,87]),bv true,AV.sl (List.map Col.cells s.cols),AV.sl (List.map V.cells (zdO b))]] 4∧1=1∧Nat.le 144 140737488355328)] kr)
def plIn (p:Pl) (s:Sch):Pl :=
 Pl.mk (p.frs++[Fr.mk s.name false s.cols []]) p.tbs
theorem zbR (p:Pl) (s:Sch) (hp:zad p.frs):zac E0 S.world_Inside [p.av,s.av] [] ((plIn p s).av) []:=by
 unfold plIn
 exact (by (try simp only [X.av,Qy.av,V.av,Tb.av,Sch.av,Pl.av,xsl,fsl,vsl,tsl,List.map_append,List.map_cons,List.map_nil,V.cells,Col.cells,Rw.cells,Tb.cells,Fr.cells,Sch.cells,Pl.cells,zaJ,zam,zaq,zan,zar,X.cells,Qy.cells,X.args_mk,X.sub_mk,Qy.items_mk,Qy.wh_mk]);exact wk At.world_Inside [sqx ((List.map Fr.cells p.frs++[[sv s.name,bv false,AV.sl (List.map Col.cells s.cols),AV.sl []]]).length=(List.map Fr.cells p.frs++[[sv s.name,bv false,AV.sl (List.map Col.cells s.cols),AV.sl []]]).length∧True∧True),sd [(2,[sqx (AllLen (List.map Fr.cells p.frs) 4∧((List.map Fr.cells p.frs).length * 72).le 140737488355328)]),(9,[sqx (AllLen [[sv s.name,bv false,AV.sl (List.map Col.cells s.cols),AV.sl []]] 4∧(List.map Fr.cells p.frs).length=(List.map Fr.cells p.frs).length∧(((List.map Fr.cells p.frs).length+[[sv s.name,bv false,AV.sl (List.map Col.cells s.cols),AV.sl []]].length) * 72).le 140737488355328)])]] kr)
end Go.AM
namespace Go.AM
set_option maxRecDepth 100000
set_option linter.unusedSimpArgs false
set_option linter.unusedVariables false
theorem zmN {p:Prop} (h:p:=by exact ⟨by (try simp only [List.length_append,List.length_cons,List.length_nil]);omega,by first|exact hI.2|exact hI.2.app (zcJ.col _ _)|exact (hI.2.app (zcJ.col _ _)).app (zcJ.col _ _)⟩):p:=h
theorem zko {p:Prop} (h:p:=by first|assumption|exact ⟨by simp,zcJ.nil⟩|exact zsl (by assumption) (by omega)|omega):p:=h
theorem zmS {p:Prop} (h:p:=by first|assumption|(simp;done)|omega|exact ⟨by simp only [Few] at hfx;omega,hI.2⟩):p:=h
theorem sD3_6 {p:Prop} (h:p:=by first|trivial|assumption|(simp;done)|omega|(simp;omega)|(simp at *;omega)):p:=h
theorem sD3_9 {p:Prop} (h:p:=by first|omega|(simp only [zad,Few] at *;omega)):p:=h
abbrev Few {α:Type} (l:List α):Prop:=l.length≤1000
abbrev zX:List AV:=[iv 0,iv 0,.bl false,iv 0,iv 0,sv ⟨#[]⟩,sv ⟨#[]⟩,sv ⟨#[]⟩,.nl,.nl]
def zeG (x:X):Prop:=∃ a b,x=xCol a b
def zcJ (l:List X):Prop:=∀ x∈l,zeG x
theorem zcJ.nil:zcJ []:=fun _ h=>by cases h
theorem zcJ.app {l m:List X} (h:zcJ l) (hm:zcJ m):zcJ (l++m):=fun x hx=>(List.mem_append.1 hx).elim (h x) (hm x)
theorem zcJ.col (a b:Str):zcJ [xCol a b]:=fun x hx=>by simp only [List.mem_singleton] at hx;exact ⟨a,b,hx⟩
theorem zcJ.at {l:List X} (h:zcJ l) {i:Nat} {x:X} (hx:l[i]?=some x):zeG x:=h x (List.mem_of_getElem? hx)
noncomputable def zqq (t0:Tp) (p:Pl) (w:Int) (i:Nat) (l:List X):Cfg:=zat B.world_Tape_column 0 [(0,.p 0 0),(2,iv w),(4,.p 1 0),(6,.p 2 0),(8,.own 3 l.length),(14,fsl p.frs),(15,iv ((p.frs.map Fr.cells).length:Nat)),(16,iv (i:Nat))] [.box t0.cells,.box p.cells,.box zX,.row Ty.Expr (zab l) false]
noncomputable def zqt (t0:Tp) (p:Pl) (w:Int) (io:Nat) (f:Fr) (i:Nat) (l:List X):Cfg:=zat B.world_Tape_column 1 [(0,.p 0 0),(2,iv w),(4,.p 1 0),(6,.p 2 0),(8,.own 3 l.length),(9,iv (io:Nat)),(10,.p 4 0),(14,fsl p.frs),(15,iv ((p.frs.map Fr.cells).length:Nat)),(16,iv (io:Nat)),(22,.sl (f.cols.map Col.cells)),(23,iv ((f.cols.map Col.cells).length:Nat)),(24,iv (i:Nat))] [.box t0.cells,.box p.cells,.box zX,.row Ty.Expr (zab l) false,.box f.cells]
theorem ze3 (t0:Tp) (p:Pl) (w:Int) (io:Nat) (f:Fr) (hl:Few f.cols) (hio:io≤1000) (i:Nat) (l:List X) (hi:i≤(f.cols).length) (hI:l.length+2 * (f.cols.length - i)≤2000 * (io+1)∧zcJ l):∃ (l':List X),(l'.length+2 * (f.cols.length - (f.cols).length)≤2000 * (io+1)∧zcJ l')∧(decide ((((f.cols).length:Nat):Int) < (((f.cols.map Col.cells).length:Nat):Int))=false)∧∀ R,Good E0 B.world_Tape_column [.box t0.cells] (zqt t0 p w io f (f.cols).length l') R→Good E0 B.world_Tape_column [.box t0.cells] (zqt t0 p w io f i l) R:=by
 obtain ⟨kk,hk⟩:∃ kk,i+kk=(f.cols).length:=⟨(f.cols).length - i,by omega⟩
 induction kk generalizing i l with
 | zero =>
  have e0:i=(f.cols).length:=by omega
  subst e0
  exact ⟨l,hI,by simp,fun R hg=>hg⟩
 | succ kk ih =>
  obtain ⟨x,hx⟩:=zax (l:=f.cols) (i:=i) (by omega)
  have h0:decide (((i:Nat):Int) < (((f.cols.map Col.cells).length:Nat):Int))=true:=by simp;omega
  have hw:IntKind.i64.wrap (((i:Nat):Int)+1)=((i+1:Nat):Int):=zao i sD3_9
  have hil:=zhi hx;have hlen:l.length≤2002000:=by omega
  let p_1:List St:=[sb h0,se (zah Col.cells hx rfl)]
  cases h1:x.type != w
  ·let p_2:List St:=p_1++[sb h1,sc (zaM f.name x.name),sqx (AllLen [[iv (xCol f.name x.name).kind,iv (xCol f.name x.name).op,bv (xCol f.name x.name).not,iv (xCol f.name x.name).val.kind,iv (xCol f.name x.name).val.int,sv (xCol f.name x.name).val.text,sv (xCol f.name x.name).table,sv (xCol f.name x.name).name,AV.sl (zab []),AV.sl (zae [])]] 10∧l.length=(zab l).length∧(((zab l).length+[[iv (xCol f.name x.name).kind,iv (xCol f.name x.name).op,bv (xCol f.name x.name).not,iv (xCol f.name x.name).val.kind,iv (xCol f.name x.name).val.int,sv (xCol f.name x.name).val.text,sv (xCol f.name x.name).table,sv (xCol f.name x.name).name,AV.sl (zab []),AV.sl (zae [])]].length) * 136).le 140737488355328)]
   cases h2:!f.strict
   ·obtain ⟨lZ,qZ,xZ,gZ⟩:=ih (i+1) (l++[xCol f.name x.name]) (by omega) zmN (by omega);exact ⟨lZ,qZ,xZ,fun R hg=>zaa (wkl (p_2++[sb h2,si hw]) [0,2,4,6,8,9,10,14,15,16,22,23,24] 5 kr (zav (show ([(0,AV.p 0 0),(2,iv w),(4,AV.p 1 0),(6,AV.p 2 0),(8,AV.own 3 (zab l++[[iv (xCol f.name x.name).kind,iv (xCol f.name x.name).op,bv (xCol f.name x.name).not,iv (xCol f.name x.name).val.kind,iv (xCol f.name x.name).val.int,sv (xCol f.name x.name).val.text,sv (xCol f.name x.name).table,sv (xCol f.name x.name).name,AV.sl (zab []),AV.sl (zae [])]]).length),(9,iv (io:Int)),(10,AV.p 4 0),(14,AV.sl (List.map Fr.cells p.frs)),(15,iv (↑(List.map Fr.cells p.frs).length:Int)),(16,iv (io:Int)),(22,AV.sl (List.map Col.cells f.cols)),(23,iv (↑(List.map Col.cells f.cols).length:Int)),(24,iv (↑(i+1):Int))]:TS)=[(0,AV.p 0 0),(2,iv w),(4,AV.p 1 0),(6,AV.p 2 0),(8,AV.own 3 (l++[xCol f.name x.name]).length),(9,iv (io:Int)),(10,AV.p 4 0),(14,AV.sl (List.map Fr.cells p.frs)),(15,iv (↑(List.map Fr.cells p.frs).length:Int)),(16,iv (io:Int)),(22,AV.sl (List.map Col.cells f.cols)),(23,iv (↑(List.map Col.cells f.cols).length:Int)),(24,iv (↑(i+1):Int))] by first|rfl|(simp;done)|(simp [X.cells,Qy.cells,V.cells,Col.cells,Rw.cells,Tb.cells,Fr.cells,Sch.cells,Tp.cells,Pl.cells,xCol,xLit,xBin,xNeg];done)) (show ([Blk.box [AV.sl (List.map (fun n=>[iv n]) t0.l),iv (t0.pos:Int)],Blk.box [AV.sl (List.map Fr.cells p.frs),AV.sl (List.map Sch.cells p.tbs)],Blk.box [iv 0,iv 0,AV.bl false,iv 0,iv 0,sv (ByteArray.mk #[]),sv (ByteArray.mk #[]),sv (ByteArray.mk #[]),AV.nl,AV.nl],Blk.row Ty.Expr (zab l++[[iv (xCol f.name x.name).kind,iv (xCol f.name x.name).op,bv (xCol f.name x.name).not,iv (xCol f.name x.name).val.kind,iv (xCol f.name x.name).val.int,sv (xCol f.name x.name).val.text,sv (xCol f.name x.name).table,sv (xCol f.name x.name).name,AV.sl (zab []),AV.sl (zae [])]]) false,Blk.box [sv f.name,bv f.strict,AV.sl (List.map Col.cells f.cols),AV.sl (List.map V.cells f.vals)]]:Heap)=[Blk.box t0.cells,Blk.box [AV.sl (List.map Fr.cells p.frs),AV.sl (List.map Sch.cells p.tbs)],Blk.box [iv 0,iv 0,AV.bl false,iv 0,iv 0,sv (ByteArray.mk #[]),sv (ByteArray.mk #[]),sv (ByteArray.mk #[]),AV.nl,AV.nl],Blk.row Ty.Expr (zab (l++[xCol f.name x.name])) false,Blk.box [sv f.name,bv f.strict,AV.sl (List.map Col.cells f.cols),AV.sl (List.map V.cells f.vals)]] by first|rfl|(simp;done)|(simp [X.cells,Qy.cells,V.cells,Col.cells,Rw.cells,Tb.cells,Fr.cells,Sch.cells,Tp.cells,Pl.cells,xCol,xLit,xBin,xNeg];done)) (gZ R hg)))⟩
   ·let p_3:List St:=p_2++[sg h2,si (e:=IntKind.i64.wrap ((↑(List.map Fr.cells p.frs).length:Int) - 1)) rfl]
    cases h3:(io:Int)==IntKind.i64.wrap ((↑(List.map Fr.cells p.frs).length:Int) - 1)
    ·obtain ⟨lZ,qZ,xZ,gZ⟩:=ih (i+1) (l++[xCol f.name x.name]) (by omega) zmN (by omega);exact ⟨lZ,qZ,xZ,fun R hg=>zaa (wkl (p_3++[sb h3,si hw]) [0,2,4,6,8,9,10,14,15,16,22,23,24] 5 kr (zav (show ([(0,AV.p 0 0),(2,iv w),(4,AV.p 1 0),(6,AV.p 2 0),(8,AV.own 3 (zab l++[[iv (xCol f.name x.name).kind,iv (xCol f.name x.name).op,bv (xCol f.name x.name).not,iv (xCol f.name x.name).val.kind,iv (xCol f.name x.name).val.int,sv (xCol f.name x.name).val.text,sv (xCol f.name x.name).table,sv (xCol f.name x.name).name,AV.sl (zab []),AV.sl (zae [])]]).length),(9,iv (io:Int)),(10,AV.p 4 0),(14,AV.sl (List.map Fr.cells p.frs)),(15,iv (↑(List.map Fr.cells p.frs).length:Int)),(16,iv (io:Int)),(22,AV.sl (List.map Col.cells f.cols)),(23,iv (↑(List.map Col.cells f.cols).length:Int)),(24,iv (↑(i+1):Int))]:TS)=[(0,AV.p 0 0),(2,iv w),(4,AV.p 1 0),(6,AV.p 2 0),(8,AV.own 3 (l++[xCol f.name x.name]).length),(9,iv (io:Int)),(10,AV.p 4 0),(14,AV.sl (List.map Fr.cells p.frs)),(15,iv (↑(List.map Fr.cells p.frs).length:Int)),(16,iv (io:Int)),(22,AV.sl (List.map Col.cells f.cols)),(23,iv (↑(List.map Col.cells f.cols).length:Int)),(24,iv (↑(i+1):Int))] by first|rfl|(simp;done)|(simp [X.cells,Qy.cells,V.cells,Col.cells,Rw.cells,Tb.cells,Fr.cells,Sch.cells,Tp.cells,Pl.cells,xCol,xLit,xBin,xNeg];done)) (show ([Blk.box [AV.sl (List.map (fun n=>[iv n]) t0.l),iv (t0.pos:Int)],Blk.box [AV.sl (List.map Fr.cells p.frs),AV.sl (List.map Sch.cells p.tbs)],Blk.box [iv 0,iv 0,AV.bl false,iv 0,iv 0,sv (ByteArray.mk #[]),sv (ByteArray.mk #[]),sv (ByteArray.mk #[]),AV.nl,AV.nl],Blk.row Ty.Expr (zab l++[[iv (xCol f.name x.name).kind,iv (xCol f.name x.name).op,bv (xCol f.name x.name).not,iv (xCol f.name x.name).val.kind,iv (xCol f.name x.name).val.int,sv (xCol f.name x.name).val.text,sv (xCol f.name x.name).table,sv (xCol f.name x.name).name,AV.sl (zab []),AV.sl (zae [])]]) false,Blk.box [sv f.name,bv f.strict,AV.sl (List.map Col.cells f.cols),AV.sl (List.map V.cells f.vals)]]:Heap)=[Blk.box t0.cells,Blk.box [AV.sl (List.map Fr.cells p.frs),AV.sl (List.map Sch.cells p.tbs)],Blk.box [iv 0,iv 0,AV.bl false,iv 0,iv 0,sv (ByteArray.mk #[]),sv (ByteArray.mk #[]),sv (ByteArray.mk #[]),AV.nl,AV.nl],Blk.row Ty.Expr (zab (l++[xCol f.name x.name])) false,Blk.box [sv f.name,bv f.strict,AV.sl (List.map Col.cells f.cols),AV.sl (List.map V.cells f.vals)]] by first|rfl|(simp;done)|(simp [X.cells,Qy.cells,V.cells,Col.cells,Rw.cells,Tb.cells,Fr.cells,Sch.cells,Tp.cells,Pl.cells,xCol,xLit,xBin,xNeg];done)) (gZ R hg)))⟩
    ·obtain ⟨lZ,qZ,xZ,gZ⟩:=ih (i+1) (l++[xCol f.name x.name]++[xCol (ByteArray.mk #[]) x.name]) (by omega) zmN (by omega);exact ⟨lZ,qZ,xZ,fun R hg=>zaa (wkl (p_3++[sb h3,sc (zaM (ByteArray.mk #[]) x.name),sqx (AllLen [[iv (xCol (ByteArray.mk #[]) x.name).kind,iv (xCol (ByteArray.mk #[]) x.name).op,bv (xCol (ByteArray.mk #[]) x.name).not,iv (xCol (ByteArray.mk #[]) x.name).val.kind,iv (xCol (ByteArray.mk #[]) x.name).val.int,sv (xCol (ByteArray.mk #[]) x.name).val.text,sv (xCol (ByteArray.mk #[]) x.name).table,sv (xCol (ByteArray.mk #[]) x.name).name,AV.sl (zab []),AV.sl (zae [])]] 10∧(zab l++[[iv (xCol f.name x.name).kind,iv (xCol f.name x.name).op,bv (xCol f.name x.name).not,iv (xCol f.name x.name).val.kind,iv (xCol f.name x.name).val.int,sv (xCol f.name x.name).val.text,sv (xCol f.name x.name).table,sv (xCol f.name x.name).name,AV.sl (zab []),AV.sl (zae [])]]).length=(zab l++[[iv (xCol f.name x.name).kind,iv (xCol f.name x.name).op,bv (xCol f.name x.name).not,iv (xCol f.name x.name).val.kind,iv (xCol f.name x.name).val.int,sv (xCol f.name x.name).val.text,sv (xCol f.name x.name).table,sv (xCol f.name x.name).name,AV.sl (zab []),AV.sl (zae [])]]).length∧(((zab l++[[iv (xCol f.name x.name).kind,iv (xCol f.name x.name).op,bv (xCol f.name x.name).not,iv (xCol f.name x.name).val.kind,iv (xCol f.name x.name).val.int,sv (xCol f.name x.name).val.text,sv (xCol f.name x.name).table,sv (xCol f.name x.name).name,AV.sl (zab []),AV.sl (zae [])]]).length+[[iv (xCol (ByteArray.mk #[]) x.name).kind,iv (xCol (ByteArray.mk #[]) x.name).op,bv (xCol (ByteArray.mk #[]) x.name).not,iv (xCol (ByteArray.mk #[]) x.name).val.kind,iv (xCol (ByteArray.mk #[]) x.name).val.int,sv (xCol (ByteArray.mk #[]) x.name).val.text,sv (xCol (ByteArray.mk #[]) x.name).table,sv (xCol (ByteArray.mk #[]) x.name).name,AV.sl (zab []),AV.sl (zae [])]].length) * 136).le 140737488355328),si hw]) [0,2,4,6,8,9,10,14,15,16,22,23,24] 5 kr (zav (show ([(0,AV.p 0 0),(2,iv w),(4,AV.p 1 0),(6,AV.p 2 0),(8,AV.own 3 (zab l++[[iv (xCol f.name x.name).kind,iv (xCol f.name x.name).op,bv (xCol f.name x.name).not,iv (xCol f.name x.name).val.kind,iv (xCol f.name x.name).val.int,sv (xCol f.name x.name).val.text,sv (xCol f.name x.name).table,sv (xCol f.name x.name).name,AV.sl (zab []),AV.sl (zae [])]]++[[iv (xCol (ByteArray.mk #[]) x.name).kind,iv (xCol (ByteArray.mk #[]) x.name).op,bv (xCol (ByteArray.mk #[]) x.name).not,iv (xCol (ByteArray.mk #[]) x.name).val.kind,iv (xCol (ByteArray.mk #[]) x.name).val.int,sv (xCol (ByteArray.mk #[]) x.name).val.text,sv (xCol (ByteArray.mk #[]) x.name).table,sv (xCol (ByteArray.mk #[]) x.name).name,AV.sl (zab []),AV.sl (zae [])]]).length),(9,iv (io:Int)),(10,AV.p 4 0),(14,AV.sl (List.map Fr.cells p.frs)),(15,iv (↑(List.map Fr.cells p.frs).length:Int)),(16,iv (io:Int)),(22,AV.sl (List.map Col.cells f.cols)),(23,iv (↑(List.map Col.cells f.cols).length:Int)),(24,iv (↑(i+1):Int))]:TS)=[(0,AV.p 0 0),(2,iv w),(4,AV.p 1 0),(6,AV.p 2 0),(8,AV.own 3 (l++[xCol f.name x.name]++[xCol (ByteArray.mk #[]) x.name]).length),(9,iv (io:Int)),(10,AV.p 4 0),(14,AV.sl (List.map Fr.cells p.frs)),(15,iv (↑(List.map Fr.cells p.frs).length:Int)),(16,iv (io:Int)),(22,AV.sl (List.map Col.cells f.cols)),(23,iv (↑(List.map Col.cells f.cols).length:Int)),(24,iv (↑(i+1):Int))] by first|rfl|(simp;done)|(simp [X.cells,Qy.cells,V.cells,Col.cells,Rw.cells,Tb.cells,Fr.cells,Sch.cells,Tp.cells,Pl.cells,xCol,xLit,xBin,xNeg];done)) (show ([Blk.box [AV.sl (List.map (fun n=>[iv n]) t0.l),iv (t0.pos:Int)],Blk.box [AV.sl (List.map Fr.cells p.frs),AV.sl (List.map Sch.cells p.tbs)],Blk.box [iv 0,iv 0,AV.bl false,iv 0,iv 0,sv (ByteArray.mk #[]),sv (ByteArray.mk #[]),sv (ByteArray.mk #[]),AV.nl,AV.nl],Blk.row Ty.Expr (zab l++[[iv (xCol f.name x.name).kind,iv (xCol f.name x.name).op,bv (xCol f.name x.name).not,iv (xCol f.name x.name).val.kind,iv (xCol f.name x.name).val.int,sv (xCol f.name x.name).val.text,sv (xCol f.name x.name).table,sv (xCol f.name x.name).name,AV.sl (zab []),AV.sl (zae [])]]++[[iv (xCol (ByteArray.mk #[]) x.name).kind,iv (xCol (ByteArray.mk #[]) x.name).op,bv (xCol (ByteArray.mk #[]) x.name).not,iv (xCol (ByteArray.mk #[]) x.name).val.kind,iv (xCol (ByteArray.mk #[]) x.name).val.int,sv (xCol (ByteArray.mk #[]) x.name).val.text,sv (xCol (ByteArray.mk #[]) x.name).table,sv (xCol (ByteArray.mk #[]) x.name).name,AV.sl (zab []),AV.sl (zae [])]]) false,Blk.box [sv f.name,bv f.strict,AV.sl (List.map Col.cells f.cols),AV.sl (List.map V.cells f.vals)]]:Heap)=[Blk.box t0.cells,Blk.box [AV.sl (List.map Fr.cells p.frs),AV.sl (List.map Sch.cells p.tbs)],Blk.box [iv 0,iv 0,AV.bl false,iv 0,iv 0,sv (ByteArray.mk #[]),sv (ByteArray.mk #[]),sv (ByteArray.mk #[]),AV.nl,AV.nl],Blk.row Ty.Expr (zab (l++[xCol f.name x.name]++[xCol (ByteArray.mk #[]) x.name])) false,Blk.box [sv f.name,bv f.strict,AV.sl (List.map Col.cells f.cols),AV.sl (List.map V.cells f.vals)]] by first|rfl|(simp;done)|(simp [X.cells,Qy.cells,V.cells,Col.cells,Rw.cells,Tb.cells,Fr.cells,Sch.cells,Tp.cells,Pl.cells,xCol,xLit,xBin,xNeg];done)) (gZ R hg)))⟩
  ·obtain ⟨lZ,qZ,xZ,gZ⟩:=ih (i+1) l (by omega) zmN (by omega);exact ⟨lZ,qZ,xZ,fun R hg=>zaa (wkl (p_1++[sb h1,si hw]) [0,2,4,6,8,9,10,14,15,16,22,23,24] 5 kr (gZ R hg))⟩
theorem zeV (t0:Tp) (p:Pl) (w:Int) (hf:Few p.frs) (hc:∀ f∈p.frs,Few f.cols) (i:Nat) (l:List X) (hi:i≤(p.frs).length) (hI:l.length≤2000 * i∧zcJ l):∃ (l':List X),(l'.length≤2000 * (p.frs).length∧zcJ l')∧(decide ((((p.frs).length:Nat):Int) < (((p.frs.map Fr.cells).length:Nat):Int))=false)∧∀ R,Good E0 B.world_Tape_column [.box t0.cells] (zqq t0 p w (p.frs).length l') R→Good E0 B.world_Tape_column [.box t0.cells] (zqq t0 p w i l) R:=by
 obtain ⟨kk,hk⟩:∃ kk,i+kk=(p.frs).length:=⟨(p.frs).length - i,by omega⟩
 induction kk generalizing i l with
 | zero =>
  have e0:i=(p.frs).length:=by omega
  subst e0
  exact ⟨l,hI,by simp,fun R hg=>hg⟩
 | succ kk ih =>
  obtain ⟨x,hx⟩:=zax (l:=p.frs) (i:=i) (by omega)
  have h0:decide (((i:Nat):Int) < (((p.frs.map Fr.cells).length:Nat):Int))=true:=by simp;omega
  have hw:IntKind.i64.wrap (((i:Nat):Int)+1)=((i+1:Nat):Int):=zao i sD3_9
  have hfx:=hc x (List.mem_of_getElem? hx);have hix:i≤1000:=by simp only [Few] at hf;omega
  obtain ⟨l1,q1,q1_1,g1⟩:=ze3 t0 p w i x zmS zmS 0 l zmS zmS
  obtain ⟨lZ,qZ,xZ,gZ⟩:=ih (i+1) l1 (by omega) sD3_6 (by omega);exact ⟨lZ,qZ,xZ,fun R hg=>zaa (wkl [sb h0,se (zah Fr.cells hx rfl)] [0,2,4,6,8,9,10,14,15,16,22,23,24] 5 kr (g1 _ (zaa (wkl [sb q1_1,si hw] [0,2,4,6,8,14,15,16] 4 kr (gZ R hg)))))⟩
theorem zsl {n:Nat} (h:(((n:Nat):Int)==0)=false) (hb:n≤1000000000):Pos (n:Int):=by
 have:(n:Int)≠0:=by simpa using h
 exact ⟨by omega,by omega⟩
structure Pl.Ok (p:Pl):Prop where
 frs:Few p.frs
 cols:∀ f∈p.frs,Few f.cols
theorem zbY (t:Tp) (p:Pl) (w:Int) (hf:Few p.frs) (hc:∀ f∈p.frs,Few f.cols):∃ (x:X) (ok:Bool) (t':Tp),(ok=true→zeG x)∧zac E0 S.world_Tape_column [.p 0 0,p.av,iv w] [.box t.cells] (.tup [x.av,bv ok]) [.box t'.cells]:=by
 obtain ⟨l1,q1,q1_1,g1⟩:=zeV t p w zko zko 0 ([]) zko zko
 let p_1:List St:=[sb q1_1,sqx (l1.length=(zab l1).length)]
 cases h2:(l1.length:Int)==0
 ·obtain ⟨a3,t3,q3,c3⟩:=(zaf t ((l1.length:Int)) zko)
  obtain ⟨x4,e4⟩:=zax (l:=l1) (i:=(a3:Int).toNat) zko
  exact ⟨x4,true,t3,(by first|(simp;done)|exact fun _=>(‹_∧zcJ _›).2.at (by assumption)),wkcN At.world_Tape_column [] [0,2,4,6,8,14,15,16] 3 [(.ot 8 Ty.Expr,4)] kr (g1 _ (zaa (wkr (p_1++[sb h2,sqx (l1.length=(zab l1).length),sl [0] c3,sqx (OwnAt (zab l1) l1.length (a3:Int)),sx (.el x4.cells) (zr4 (n:=l1.length) (by simp) e4)]) kr)))⟩
 ·exact ⟨X.mk 0 0 false (V.mk 0 0 (ByteArray.mk #[])) (ByteArray.mk #[]) (ByteArray.mk #[]) [] [],false,t,(by first|(simp;done)|exact fun _=>(‹_∧zcJ _›).2.at (by assumption)),wkcN At.world_Tape_column [] [0,2,4,6,8,14,15,16] 3 [(.ot 8 Ty.Expr,4)] kr (g1 _ (zaa (wkr (p_1++[sb h2]) kr)))⟩
structure TabOk (t:Tb):Prop where
 rows:∀ r∈t.rows,zmV t.sch.cols r.vals
 len:t.rows.length≤1000
structure SchOk (s:Sch):Prop where
 few:Few s.cols
 cols:∀ c∈s.cols,ColOk c
 ne:s.cols≠[]
theorem SchOk.short {s:Sch} (h:SchOk s):zad s.cols:=by have:=h.few;simp only [Few] at this;simp only [zad];omega
def zlD (l:List V) (key:Int):V:=l.getD key.toNat V.null
theorem el_val (l:List V) (key:Int) (hk:decide (key < 0)=false) (h:key < l.length):ElAt (l.map V.cells) key (zlD l key).cells 3:=by
 have h0:0≤key:=by simpa using hk
 refine ⟨h0,?_,rfl⟩
 have:key.toNat < l.length:=by omega
 simp [zlD,List.getD_eq_getElem?_getD,List.getElem?_eq_getElem this]
abbrev zj4 (s:Sch) (rows:List Rw):Prop:=∀ r∈rows,zmV s.cols r.vals
theorem zj4.len {s:Sch} {rows:List Rw} (h:zj4 s rows) {i:Nat} {x:Rw} (hx:rows[i]?=some x):x.vals.length=s.cols.length:=(h x (List.mem_of_getElem? hx)).len
theorem zj4.push {s:Sch} {rows:List Rw} (h:zj4 s rows) {x:Rw} (hx:zmV s.cols x.vals):zj4 s (rows++[x]):=fun r hr=>(List.mem_append.1 hr).elim (h r) fun h=>by simp only [List.mem_singleton] at h;exact h ▸ hx
theorem zgQ {x:Sch} (hx:x∈zau):SchOk x:=by
 simp only [zau,List.mem_cons,List.not_mem_nil,or_false] at hx
 rcases hx with rfl|rfl|rfl <;> exact ⟨by simp,by simp [ColOk],by simp⟩
structure StoreOk (l:List Tb):Prop where
 len:l.length≤1000
 tabs:∀ t∈l,TabOk t∧SchOk t.sch
theorem StoreOk.push {l:List Tb} (h:StoreOk l) (hl:l.length+1≤1000) {t:Tb} (ht:TabOk t) (hs:SchOk t.sch):StoreOk (l++[t]) :=
 ⟨by simp;omega,fun x hx=>(List.mem_append.1 hx).elim (h.tabs x) fun h=>by simp only [List.mem_singleton] at h;exact h ▸ ⟨ht,hs⟩⟩
end Go.AM
namespace Go.AM
set_option maxRecDepth 100000
set_option linter.unusedSimpArgs false
set_option linter.unusedVariables false
theorem zba {p:Prop} (h:p:=by first|assumption|exact zcV (by omega) (by omega)|exact zcW zaW|exact zcW (by assumption:_∧V.Good _).2|exact zey ((by assumption:_=true→zeG _) (by assumption))|exact zp5 (by assumption)|exact zej (by assumption) (by assumption)):p:=h
theorem zdP {p:Prop} (h:p:=by first|exact zcV (by omega) (by omega)|exact zcW zaW|exact zcW (by assumption:_∧V.Good _).2|exact zey ((by assumption:_=true→zeG _) (by assumption))):p:=h
theorem zaN {p:Prop} (h:p:=by first|assumption|(simp;done)|omega):p:=h
theorem zhv {p:Prop} (h:p:=by first|assumption|exact hp.pos|exact hp.short|exact hp.ins (by assumption)|(simp;done)|omega|(simp only [List.length_map] at *;omega)):p:=h
theorem zdR {p:Prop} (h:p:=by first|assumption|omega|(simp;done)|(simp;omega)):p:=h
theorem zlx {p:Prop} (h:p:=by first|exact zp5 (by assumption)|exact zej (by assumption) (by assumption)|exact zpN (by assumption) (by assumption) (by assumption)):p:=h
theorem zm6 {p:Prop} (h:p:=by exact xok_q (by simp) (by first|exact all0|exact all1 (by assumption)) (by first|exact all0|exact all1 (by assumption))):p:=h
abbrev Thin {α:Type} (k:Nat) (l:List α):Prop:=l.length≤k
theorem Thin.few {α:Type} {k:Nat} {l:List α} (h:Thin k l) (hk:k≤1000:=by decide):Few l:=Nat.le_trans h hk
theorem Thin.short {α:Type} {k:Nat} {l:List α} (h:Thin k l) (hk:k≤1000000000:=by decide):zad l:=Nat.le_trans h hk
def XOk:Nat→X→Prop
 | 0,_=>False
 | n+1,e=>e.val.Good∧(Thin 3 e.args∧Thin 1 e.sub)∧(∀ x∈e.args,XOk n x)∧∀ q∈e.sub,(Thin 8 q.items∧Thin 1 q.wh)∧(∀ x∈q.items,XOk n x)∧∀ x∈q.wh,XOk n x
theorem XOk.mono:∀ {n:Nat} {e:X},XOk n e→XOk (n+1) e
 | 0,_,h=>h.elim
 | n+1,e,⟨h1,h2,h3,h4⟩=>⟨h1,h2,fun x hx=>(h3 x hx).mono,fun q hq=>⟨(h4 q hq).1,fun x hx=>((h4 q hq).2.1 x hx).mono,fun x hx=>((h4 q hq).2.2 x hx).mono⟩⟩
theorem XOk.le {n m:Nat} {e:X} (h:XOk n e) (hm:n≤m):XOk m e:=by
 induction hm with
 | refl=>exact h
 | step _ ih=>exact ih.mono
theorem zcW {n:Nat} {v:V} (h:v.Good):XOk (n+1) (xLit v):=⟨h,⟨by simp [xLit],by simp [xLit]⟩,fun x hx=>by simp [xLit] at hx,fun q hq=>by simp [xLit] at hq⟩
theorem zey {n:Nat} {x:X} (h:zeG x):XOk (n+1) x:=by
 obtain ⟨a,b,rfl⟩:=h
 exact ⟨zaW,⟨by simp [xCol],by simp [xCol]⟩,fun x hx=>by simp [xCol] at hx,fun q hq=>by simp [xCol] at hq⟩
theorem zk6 {n:Nat} {k o:Int} {nt:Bool} {l:List X} (hl:Thin 3 l) (h:∀ x∈l,XOk n x):XOk (n+1) (X.mk k o nt ⟨0,0,⟨#[]⟩⟩ ⟨#[]⟩ ⟨#[]⟩ l []) :=
 ⟨zaW,⟨hl,by simp⟩,h,fun q hq=>by simp at hq⟩
theorem zp5 {n:Nat} {k o:Int} {nt:Bool} {a:X} (h:XOk n a):XOk (n+1) (X.mk k o nt ⟨0,0,⟨#[]⟩⟩ ⟨#[]⟩ ⟨#[]⟩ [a] []) :=
 zk6 (by simp) fun x hx=>by simp only [List.mem_singleton] at hx;exact hx ▸ h
theorem zej {n:Nat} {k o:Int} {nt:Bool} {a b:X} (h:XOk n a) (h2:XOk n b):XOk (n+1) (X.mk k o nt ⟨0,0,⟨#[]⟩⟩ ⟨#[]⟩ ⟨#[]⟩ [a,b] []) :=
 zk6 (by simp) fun x hx=>by simp only [List.mem_cons,List.not_mem_nil,or_false] at hx;rcases hx with rfl|rfl <;> assumption
theorem zpN {n:Nat} {k o:Int} {nt:Bool} {a b c:X} (h:XOk n a) (h2:XOk n b) (h3:XOk n c):XOk (n+1) (X.mk k o nt ⟨0,0,⟨#[]⟩⟩ ⟨#[]⟩ ⟨#[]⟩ [a,b,c] []) :=
 zk6 (by simp) fun x hx=>by simp only [List.mem_cons,List.not_mem_nil,or_false] at hx;rcases hx with rfl|rfl|rfl <;> assumption
theorem xok_q {n:Nat} {k:Int} {s:Bool} {i w:List X} {f:Str} (hi:Thin 8 i) (h1:∀ x∈i,XOk n x) (h2:∀ x∈w,XOk n x) (hw:Thin 1 w:=by simp):XOk (n+1) (X.mk k 0 false ⟨0,0,⟨#[]⟩⟩ ⟨#[]⟩ ⟨#[]⟩ [] [Qy.mk s i f w]) :=
 ⟨zaW,⟨by simp,by simp⟩,fun x hx=>by simp at hx,fun q hq=>by
  simp only [X.sub_mk,List.mem_singleton] at hq
  subst hq
  exact ⟨⟨hi,hw⟩,h1,h2⟩⟩
theorem all0 {n:Nat}:∀ x∈([]:List X),XOk n x:=fun x hx=>by cases hx
theorem all1 {n:Nat} {a:X} (h:XOk n a):∀ x∈[a],XOk n x:=fun x hx=>by simp only [List.mem_singleton] at hx;exact hx ▸ h
theorem zcV {n:Nat} {a:Int} (h:-9223372036854775808 < a) (h2:a≤9223372036854775807):XOk (n+2) (xNum a):=by
 unfold xNum
 cases decide (a < 0)
 ·exact zcW (zbt ⟨by omega,by omega⟩)
 ·exact zp5 (zcW (zbt (zdi _)))
structure Pl.OkN (n:Nat) (p:Pl):Prop where
 frs:p.frs.length+n≤1000
 cols:∀ f∈p.frs,Few f.cols
 ne:p.tbs≠[]
 few:Few p.tbs
 tcols:∀ s∈p.tbs,Few s.cols
theorem Pl.OkN.few1 {n:Nat} {p:Pl} (h:p.OkN n):Few p.frs:=by have:=h.frs;simp only [Few];omega
theorem Pl.OkN.short {n:Nat} {p:Pl} (h:p.OkN n):zad p.frs:=by have:=h.frs;simp only [zad];omega
theorem Pl.OkN.less {n:Nat} {p:Pl} (h:p.OkN (n+1)):p.OkN n:=⟨by have:=h.frs;omega,h.cols,h.ne,h.few,h.tcols⟩
theorem Pl.OkN.pos {n:Nat} {p:Pl} (h:p.OkN n):Pos (((p.tbs.map Sch.cells).length:Nat):Int):=by
 have h1:=h.few
 have h2:0 < p.tbs.length:=List.length_pos_iff.2 h.ne
 simp only [Few] at h1
 simp only [Pos,List.length_map];omega
theorem Pl.OkN.ins {n:Nat} {p:Pl} (h:p.OkN (n+1)) {k:Nat} {s:Sch} (hs:p.tbs[k]?=some s):(plIn p s).OkN n:=by
 refine ⟨by have:=h.frs;simp [plIn];omega,fun f hf=>?_,h.ne,h.few,h.tcols⟩
 simp only [plIn,List.mem_append,List.mem_singleton] at hf
 rcases hf with hf|rfl
 ·exact h.cols f hf
 ·exact h.tcols s (List.mem_of_getElem? hs)
abbrev RecE (n m:Nat) (d:Int):Prop:=∀ (t:Tp) (p:Pl) (w:Int),p.OkN n→∃ (e:X) (t':Tp),XOk m e∧zac E0 S.world_Tape_Expr [.p 0 0,p.av,iv w,iv d] [.box t.cells] e.av [.box t'.cells]
theorem zoC (t:Tp) (p:Pl) (n m:Nat) (d:Int) (hp:p.OkN n) (hf:∀ (t:Tp) (p:Pl) (w:Int),p.OkN n→∃ (e:X) (t':Tp),XOk m e∧zac E0 S.world_Tape_Expr [.p 0 0,p.av,iv w,iv (IntKind.i64.wrap (d - 1))] [.box t.cells] e.av [.box t'.cells]):∃ (x:X) (t':Tp),XOk (m+1) x∧zac E0 S.world_Tape_condition [.p 0 0,p.av,iv d] [.box t.cells] x.av [.box t'.cells]:=by
 obtain ⟨a1,t1,q1,c1⟩:=(zaf t 3 zdR)
 obtain ⟨a2,t2,q2,c2⟩:=(zaf t1 6 zdR)
 let p_1:List St:=[sl [0] c1,si (e:=IntKind.i64.wrap (1+(a1:Int))) rfl,sl [0] c2]
 cases h3:(a2:Int)==0
 ·cases h4:(a2:Int)==1
  ·cases h5:(a2:Int)==2
   ·cases h6:(a2:Int)==3
    ·obtain ⟨a7,t7,q7,c7⟩:=(zaf t2 6 zdR)
     obtain ⟨e8,t8,q8,c8⟩:=(hf t7 p (IntKind.i64.wrap (1+(a1:Int))) zdR)
     obtain ⟨e9,t9,q9,c9⟩:=(hf t8 p (IntKind.i64.wrap (1+(a1:Int))) zdR)
     exact ⟨xBin (IntKind.i64.wrap (3+(a7:Int))) e8 e9,t9,zlx,wk At.world_Tape_condition (p_1++[sb h3,sb h4,sb h5,sb h6,sd [(7,[si (e:=IntKind.i64.wrap (d - 1)) rfl]),(13,[si (e:=IntKind.i64.wrap (d - 1)) rfl]),(1,[sl [0] c7]),(2,[si (e:=IntKind.i64.wrap (3+(a7:Int))) rfl]),(8,[sl [0] c8]),(14,[sl [0] c9]),(15,[sc (zaA (IntKind.i64.wrap (3+(a7:Int))) e8 e9)])]]) kr⟩
    ·obtain ⟨e10,t10,q10,c10⟩:=(hf t2 p 1 zdR)
     obtain ⟨e11,t11,q11,c11⟩:=(hf t10 p 1 zdR)
     obtain ⟨e12,t12,q12,c12⟩:=(hf t11 p 1 zdR)
     exact ⟨X.mk 7 0 false (V.mk 0 0 (ByteArray.mk #[])) (ByteArray.mk #[]) (ByteArray.mk #[]) [e10,e11,e12] [],t12,zlx,(by (try simp only [X.av,Qy.av,V.av,Tb.av,Sch.av,Pl.av,xsl,fsl,vsl,tsl,List.map_append,List.map_cons,List.map_nil,V.cells,Col.cells,Rw.cells,Tb.cells,Fr.cells,Sch.cells,Pl.cells,zaJ,zam,zaq,zan,zar,X.cells,Qy.cells,X.args_mk,X.sub_mk,Qy.items_mk,Qy.wh_mk,xCol,xLit,xBin,xNeg]);exact wk At.world_Tape_condition (p_1++[sb h3,sb h4,sb h5,sb h6,sd [(3,[si (e:=IntKind.i64.wrap (d - 1)) rfl]),(8,[si (e:=IntKind.i64.wrap (d - 1)) rfl]),(13,[si (e:=IntKind.i64.wrap (d - 1)) rfl]),(4,[sl [0] c10]),(9,[sl [0] c11]),(14,[sl [0] c12])]]) kr)⟩
   ·obtain ⟨b13,t13,c13⟩:=(zaj t2 2 zdR)
    obtain ⟨e14,t14,q14,c14⟩:=(hf t13 p (IntKind.i64.wrap (1+(a1:Int))) zdR)
    exact ⟨X.mk 6 0 b13 (V.mk 0 0 (ByteArray.mk #[])) (ByteArray.mk #[]) (ByteArray.mk #[]) [e14] [],t14,zlx,(by (try simp only [X.av,Qy.av,V.av,Tb.av,Sch.av,Pl.av,xsl,fsl,vsl,tsl,List.map_append,List.map_cons,List.map_nil,V.cells,Col.cells,Rw.cells,Tb.cells,Fr.cells,Sch.cells,Pl.cells,zaJ,zam,zaq,zan,zar,X.cells,Qy.cells,X.args_mk,X.sub_mk,Qy.items_mk,Qy.wh_mk,xCol,xLit,xBin,xNeg]);exact wk At.world_Tape_condition (p_1++[sb h3,sb h4,sb h5,sd [(6,[si (e:=IntKind.i64.wrap (d - 1)) rfl]),(1,[sl [0] c13]),(7,[sl [0] c14])]]) kr)⟩
  ·obtain ⟨a15,t15,q15,c15⟩:=(zaf t2 2 zdR)
   obtain ⟨e16,t16,q16,c16⟩:=(hf t15 p 2 zdR)
   obtain ⟨e17,t17,q17,c17⟩:=(hf t16 p 2 zdR)
   exact ⟨xBin (IntKind.i64.wrap (1+(a15:Int))) e16 e17,t17,zlx,wk At.world_Tape_condition (p_1++[sb h3,sb h4,sd [(6,[si (e:=IntKind.i64.wrap (d - 1)) rfl]),(11,[si (e:=IntKind.i64.wrap (d - 1)) rfl]),(1,[sl [0] c15]),(2,[si (e:=IntKind.i64.wrap (1+(a15:Int))) rfl]),(7,[sl [0] c16]),(12,[sl [0] c17]),(13,[sc (zaA (IntKind.i64.wrap (1+(a15:Int))) e16 e17)])]]) kr⟩
 ·obtain ⟨e18,t18,q18,c18⟩:=(hf t2 p 2 zdR)
  exact ⟨X.mk 3 0 false (V.mk 0 0 (ByteArray.mk #[])) (ByteArray.mk #[]) (ByteArray.mk #[]) [e18] [],t18,zlx,(by (try simp only [X.av,Qy.av,V.av,Tb.av,Sch.av,Pl.av,xsl,fsl,vsl,tsl,List.map_append,List.map_cons,List.map_nil,V.cells,Col.cells,Rw.cells,Tb.cells,Fr.cells,Sch.cells,Pl.cells,zaJ,zam,zaq,zan,zar,X.cells,Qy.cells,X.args_mk,X.sub_mk,Qy.items_mk,Qy.wh_mk,xCol,xLit,xBin,xNeg]);exact wk At.world_Tape_condition (p_1++[sb h3,si (e:=IntKind.i64.wrap (d - 1)) rfl,sl [0] c18]) kr)⟩
def opAt (k:Nat):Int:=[9,10,11,9,12,13].getD k 0
theorem zf3 (k:Nat) (h:(k:Int) < 6):ElAt [[iv 9],[iv 10],[iv 11],[iv 9],[iv 12],[iv 13]] (k:Int) [iv (opAt k)] 1:=by
 have h:k=0∨k=1∨k=2∨k=3∨k=4∨k=5:=by omega
 rcases h with rfl|rfl|rfl|rfl|rfl|rfl <;> exact ⟨by decide,rfl,rfl⟩
theorem zsA (t:Tp) (p:Pl) (kind:Int) (n m:Nat) (d:Int) (hp:p.OkN (n+1)) (hf1:∀ (t:Tp) (p:Pl) (w:Int),p.OkN n→∃ (e:X) (t':Tp),XOk m e∧zac E0 S.world_Tape_Expr [.p 0 0,p.av,iv w,iv (IntKind.i64.wrap (d - 1))] [.box t.cells] e.av [.box t'.cells]) (hf2:∀ (t:Tp) (p:Pl) (w:Int),p.OkN n→∃ (e:X) (t':Tp),XOk m e∧zac E0 S.world_Tape_Expr [.p 0 0,p.av,iv w,iv (IntKind.i64.wrap (d - 2))] [.box t.cells] e.av [.box t'.cells]):∃ (x:X) (t':Tp),XOk (m+1) x∧zac E0 S.world_Tape_query [.p 0 0,p.av,iv kind,iv d] [.box t.cells] x.av [.box t'.cells]:=by
 obtain ⟨a1,t1,q1,c1⟩:=(zaf t ((↑(List.map Sch.cells p.tbs).length:Int)) zhv)
 obtain ⟨x2,e2⟩:=zax (l:=p.tbs) (i:=a1) zhv
 let p_1:List St:=[sdm [(6,[sl [0] c1]),(7,[se (zah Sch.cells e2 rfl)])] 0 [(0,AV.p 0 0),(1,AV.agg [AV.sl (List.map Fr.cells p.frs),AV.sl (List.map Sch.cells p.tbs)]),(2,iv kind),(3,iv d),(5,AV.p 1 0),(8,AV.p 2 0),(9,AV.p 3 0),(12,AV.p 1 1),(13,AV.sl (List.map Sch.cells p.tbs)),(14,AV.p 0 0),(15,AV.p 1 1),(16,AV.sl (List.map Sch.cells p.tbs)),(17,iv (↑(List.map Sch.cells p.tbs).length:Int)),(18,iv (a1:Int)),(19,AV.dp [sv x2.name,AV.sl (List.map Col.cells x2.cols)]),(20,AV.agg [sv x2.name,AV.sl (List.map Col.cells x2.cols)])] [Blk.box [AV.sl (List.map (fun n=>[iv n]) t1.l),iv (t1.pos:Int)],Blk.box [AV.sl (List.map Fr.cells p.frs),AV.sl (List.map Sch.cells p.tbs)],Blk.box [iv 0,iv 0,AV.bl false,iv 0,iv 0,sv (ByteArray.mk #[]),sv (ByteArray.mk #[]),sv (ByteArray.mk #[]),AV.nl,AV.nl],Blk.box [sv x2.name,AV.sl (List.map Col.cells x2.cols)]],sc (zbR p x2 zhv)]
 cases h3:decide (10≤kind)
 ·obtain ⟨b4,t4,c4⟩:=(zaj t1 3 zhv)
  cases h5:!b4
  ·exact ⟨X.mk kind (0:Int) false (V.mk (0:Int) (0:Int) (ByteArray.mk #[])) (ByteArray.mk #[]) (ByteArray.mk #[]) [] [Qy.mk (kind==(8:Int)) [] x2.name []],t4,zm6,(by (try simp only [X.av,Qy.av,V.av,Tb.av,Sch.av,Pl.av,xsl,fsl,vsl,tsl,List.map_append,List.map_cons,List.map_nil,V.cells,Col.cells,Rw.cells,Tb.cells,Fr.cells,Sch.cells,Pl.cells,zaJ,zam,zaq,zan,zar,X.cells,Qy.cells,X.args_mk,X.sub_mk,Qy.items_mk,Qy.wh_mk,xCol,xLit,xBin,xNeg]);exact wk At.world_Tape_query (p_1++[sb h3,sl [0] c4,sb h5]) kr)⟩
  ·obtain ⟨e6,t6,q6,c6⟩:=(hf1 t4 (plIn p x2) 2 zhv)
   exact ⟨X.mk kind (0:Int) false (V.mk (0:Int) (0:Int) (ByteArray.mk #[])) (ByteArray.mk #[]) (ByteArray.mk #[]) [] [Qy.mk (kind==(8:Int)) [] x2.name [e6]],t6,zm6,(by (try simp only [X.av,Qy.av,V.av,Tb.av,Sch.av,Pl.av,xsl,fsl,vsl,tsl,List.map_append,List.map_cons,List.map_nil,V.cells,Col.cells,Rw.cells,Tb.cells,Fr.cells,Sch.cells,Pl.cells,zaJ,zam,zaq,zan,zar,X.cells,Qy.cells,X.args_mk,X.sub_mk,Qy.items_mk,Qy.wh_mk,xCol,xLit,xBin,xNeg]);exact wk At.world_Tape_query (p_1++[sb h3,sl [0] c4,sb h5,si (e:=IntKind.i64.wrap (d - 1)) rfl,sl [0] c6]) kr)⟩
 ·obtain ⟨e7,t7,q7,c7⟩:=(hf2 t1 (plIn p x2) 1 zhv)
  obtain ⟨b8,t8,c8⟩:=(zaj t7 3 zhv)
  let p_2:List St:=p_1++[sb h3,si (e:=IntKind.i64.wrap (d - 2)) rfl,sl [0] c7,sl [0] c8]
  cases h9:!b8
  ·exact ⟨X.mk kind (0:Int) false (V.mk (0:Int) (0:Int) (ByteArray.mk #[])) (ByteArray.mk #[]) (ByteArray.mk #[]) [] [Qy.mk (kind==(8:Int)) [e7] x2.name []],t8,zm6,(by (try simp only [X.av,Qy.av,V.av,Tb.av,Sch.av,Pl.av,xsl,fsl,vsl,tsl,List.map_append,List.map_cons,List.map_nil,V.cells,Col.cells,Rw.cells,Tb.cells,Fr.cells,Sch.cells,Pl.cells,zaJ,zam,zaq,zan,zar,X.cells,Qy.cells,X.args_mk,X.sub_mk,Qy.items_mk,Qy.wh_mk,xCol,xLit,xBin,xNeg]);exact wk At.world_Tape_query (p_2++[sb h9]) kr)⟩
  ·obtain ⟨e10,t10,q10,c10⟩:=(hf1 t8 (plIn p x2) 2 zhv)
   exact ⟨X.mk kind (0:Int) false (V.mk (0:Int) (0:Int) (ByteArray.mk #[])) (ByteArray.mk #[]) (ByteArray.mk #[]) [] [Qy.mk (kind==(8:Int)) [e7] x2.name [e10]],t10,zm6,(by (try simp only [X.av,Qy.av,V.av,Tb.av,Sch.av,Pl.av,xsl,fsl,vsl,tsl,List.map_append,List.map_cons,List.map_nil,V.cells,Col.cells,Rw.cells,Tb.cells,Fr.cells,Sch.cells,Pl.cells,zaJ,zam,zaq,zan,zar,X.cells,Qy.cells,X.args_mk,X.sub_mk,Qy.items_mk,Qy.wh_mk,xCol,xLit,xBin,xNeg]);exact wk At.world_Tape_query (p_2++[sb h9,si (e:=IntKind.i64.wrap (d - 1)) rfl,sl [0] c10]) kr)⟩
theorem zoT (t:Tp) (p:Pl) (w:Int) (d:Int) (hd:decide (d≤(0:Int))=true) (hd2:decide ((0:Int) < d)=false) (hf:Few p.frs) (hc:∀ f∈p.frs,Few f.cols):∃ (x:X) (t':Tp),XOk 2 x∧zac E0 S.world_Tape_Expr [.p 0 0,p.av,iv w,iv d] [.box t.cells] x.av [.box t'.cells]:=by
 obtain ⟨a1,t1,q1,c1⟩:=(zaf t 6 zaN)
 cases h2:decide (4≤(a1:Int))
 ·obtain ⟨x3,ok3,t3,q3,c3⟩:=(zbY t1 p w zaN zaN)
  rcases (Bool.eq_false_or_eq_true ok3).symm with h4|h4
  ·obtain ⟨b5,t5,c5⟩:=(zaj t3 8 zaN)
   let p_1:List St:=[sl [0] c1,sb h2,sb hd,sl [0] c3,sb h4,sl [0] c5]
   rcases (Bool.eq_false_or_eq_true b5).symm with h6|h6
   ·cases h7:w==1
    ·obtain ⟨v8,t8,q8,c8⟩:=(za1 t5 w)
     exact ⟨xLit v8,t8,zdP,wk At.world_Tape_Expr (p_1++[sb h6,sb h7,sl [0] c8,sc (zaS v8)]) kr⟩
    ·obtain ⟨a9,t9,q9,c9⟩:=(zaX t5)
     exact ⟨xNum a9,t9,zdP,wk At.world_Tape_Expr (p_1++[sb h6,sb h7,sl [0] c9,sc (zaZ a9 zaN)]) kr⟩
   ·exact ⟨xLit (V.mk 0 0 (ByteArray.mk #[])),t5,zdP,wk At.world_Tape_Expr (p_1++[sb h6,sc (zaS (V.mk 0 0 (ByteArray.mk #[])))]) kr⟩
  ·obtain ⟨b10,t10,c10⟩:=(zaj t3 3 zaN)
   let p_2:List St:=[sl [0] c1,sb h2,sb hd,sl [0] c3,sg h4,sl [0] c10]
   cases h11:!b10
   ·obtain ⟨b12,t12,c12⟩:=(zaj t10 8 zaN)
    rcases (Bool.eq_false_or_eq_true b12).symm with h13|h13
    ·cases h14:w==1
     ·obtain ⟨v15,t15,q15,c15⟩:=(za1 t12 w)
      exact ⟨xLit v15,t15,zdP,wk At.world_Tape_Expr (p_2++[sb h11,sl [0] c12,sb h13,sb h14,sl [0] c15,sc (zaS v15)]) kr⟩
     ·obtain ⟨a16,t16,q16,c16⟩:=(zaX t12)
      exact ⟨xNum a16,t16,zdP,wk At.world_Tape_Expr (p_2++[sb h11,sl [0] c12,sb h13,sb h14,sl [0] c16,sc (zaZ a16 zaN)]) kr⟩
    ·exact ⟨xLit (V.mk 0 0 (ByteArray.mk #[])),t12,zdP,wk At.world_Tape_Expr (p_2++[sb h11,sl [0] c12,sb h13,sc (zaS (V.mk 0 0 (ByteArray.mk #[])))]) kr⟩
   ·exact ⟨x3,t10,zdP,wk At.world_Tape_Expr (p_2++[sb h11]) kr⟩
 ·obtain ⟨x17,ok17,t17,q17,c17⟩:=(zbY t1 p w zaN zaN)
  let p_3:List St:=[sl [0] c1,sg h2,sb hd2,sb hd,sl [0] c17]
  rcases (Bool.eq_false_or_eq_true ok17).symm with h18|h18
  ·obtain ⟨b19,t19,c19⟩:=(zaj t17 8 zaN)
   rcases (Bool.eq_false_or_eq_true b19).symm with h20|h20
   ·cases h21:w==1
    ·obtain ⟨v22,t22,q22,c22⟩:=(za1 t19 w)
     exact ⟨xLit v22,t22,zdP,wk At.world_Tape_Expr (p_3++[sb h18,sl [0] c19,sb h20,sb h21,sl [0] c22,sc (zaS v22)]) kr⟩
    ·obtain ⟨a23,t23,q23,c23⟩:=(zaX t19)
     exact ⟨xNum a23,t23,zdP,wk At.world_Tape_Expr (p_3++[sb h18,sl [0] c19,sb h20,sb h21,sl [0] c23,sc (zaZ a23 zaN)]) kr⟩
   ·exact ⟨xLit (V.mk 0 0 (ByteArray.mk #[])),t19,zdP,wk At.world_Tape_Expr (p_3++[sb h18,sl [0] c19,sb h20,sc (zaS (V.mk 0 0 (ByteArray.mk #[])))]) kr⟩
  ·obtain ⟨b24,t24,c24⟩:=(zaj t17 3 zaN)
   cases h25:!b24
   ·obtain ⟨b26,t26,c26⟩:=(zaj t24 8 zaN)
    let p_4:List St:=p_3++[sg h18,sl [0] c24,sb h25,sl [0] c26]
    rcases (Bool.eq_false_or_eq_true b26).symm with h27|h27
    ·cases h28:w==1
     ·obtain ⟨v29,t29,q29,c29⟩:=(za1 t26 w)
      exact ⟨xLit v29,t29,zdP,wk At.world_Tape_Expr (p_4++[sb h27,sb h28,sl [0] c29,sc (zaS v29)]) kr⟩
     ·obtain ⟨a30,t30,q30,c30⟩:=(zaX t26)
      exact ⟨xNum a30,t30,zdP,wk At.world_Tape_Expr (p_4++[sb h27,sb h28,sl [0] c30,sc (zaZ a30 zaN)]) kr⟩
    ·exact ⟨xLit (V.mk 0 0 (ByteArray.mk #[])),t26,zdP,wk At.world_Tape_Expr (p_4++[sb h27,sc (zaS (V.mk 0 0 (ByteArray.mk #[])))]) kr⟩
   ·exact ⟨x17,t24,zdP,wk At.world_Tape_Expr (p_3++[sg h18,sl [0] c24,sb h25]) kr⟩
theorem zrX (t:Tp) (p:Pl) (w:Int) (d:Int) (m:Nat) (hd:decide (d≤(0:Int))=false) (hd2:decide ((0:Int) < d)=true) (hf:Few p.frs) (hc:∀ f∈p.frs,Few f.cols) (hf1:∀ (t:Tp) (w:Int),∃ (e:X) (t':Tp),XOk (m+1) e∧zac E0 S.world_Tape_Expr [.p 0 0,p.av,iv w,iv (IntKind.i64.wrap (d - 1))] [.box t.cells] e.av [.box t'.cells]) (hq:∀ (t:Tp) (k:Int),∃ (e:X) (t':Tp),XOk (m+2) e∧zac E0 S.world_Tape_query [.p 0 0,p.av,iv k,iv d] [.box t.cells] e.av [.box t'.cells]) (hcd:∀ (t:Tp),∃ (e:X) (t':Tp),XOk (m+2) e∧zac E0 S.world_Tape_condition [.p 0 0,p.av,iv d] [.box t.cells] e.av [.box t'.cells]):∃ (x:X) (t':Tp),XOk (m+2) x∧zac E0 S.world_Tape_Expr [.p 0 0,p.av,iv w,iv d] [.box t.cells] x.av [.box t'.cells]:=by
 obtain ⟨a1,t1,q1,c1⟩:=(zaf t 6 zaN)
 cases h2:decide (4≤(a1:Int))
 ·cases h3:decide (3≤(a1:Int))
  ·cases h4:w==1
   ·cases h5:w==2
    ·obtain ⟨v6,t6,q6,c6⟩:=(za1 t1 w)
     exact ⟨xLit v6,t6,zba,wk At.world_Tape_Expr [sl [0] c1,sb h2,sg hd,sb h3,sb h4,sb h5,sb h4,sb h5,sl [0] c6,sc (zaS v6)] kr⟩
    ·let p_1:List St:=[sl [0] c1,sb h2,sg hd,sb h3,sb h4,sg h5]
     cases h7:(a1:Int)==0
     ·obtain ⟨e8,t8,q8,c8⟩:=(hcd t1)
      exact ⟨e8,t8,zba,wk At.world_Tape_Expr (p_1++[sb h7,sb h4,sb h5,sl [0] c8]) kr⟩
     ·cases h9:decide (0 < (↑(List.map Sch.cells p.tbs).length:Int))
      ·obtain ⟨e10,t10,q10,c10⟩:=(hcd t1)
       exact ⟨e10,t10,zba,wk At.world_Tape_Expr (p_1++[sg h7,sb h9,sb h4,sb h5,sl [0] c10]) kr⟩
      ·obtain ⟨b11,t11,c11⟩:=(zaj t1 2 zaN)
       rcases (Bool.eq_false_or_eq_true b11).symm with h12|h12
       ·obtain ⟨e13,t13,q13,c13⟩:=(hcd t11)
        exact ⟨e13,t13,zba,wk At.world_Tape_Expr (p_1++[sg h7,sg h9,sl [0] c11,sb h12,sb h4,sb h5,sl [0] c13]) kr⟩
       ·obtain ⟨e14,t14,q14,c14⟩:=(hq t11 8)
        exact ⟨e14,t14,zba,wk At.world_Tape_Expr (p_1++[sg h7,sg h9,sl [0] c11,sb h12,sl [0] c14]) kr⟩
   ·cases h15:(a1:Int)==0
    ·let p_2:List St:=[sl [0] c1,sb h2,sg hd,sb h3,sg h4,sb h15]
     cases h16:w==2
     ·obtain ⟨b17,t17,c17⟩:=(zaj t1 6 zaN)
      rcases (Bool.eq_false_or_eq_true b17).symm with h18|h18
      ·obtain ⟨a19,t19,q19,c19⟩:=(zaf t17 6 zaN)
       obtain ⟨e20,t20,q20,c20⟩:=(hf1 t19 w)
       obtain ⟨e21,t21,q21,c21⟩:=(hf1 t20 w)
       exact ⟨xBin (opAt a19) e20 e21,t21,zba,wk At.world_Tape_Expr (p_2++[sb h16,sb h4,sl [0] c17,sb h18,sd [(9,[si (e:=IntKind.i64.wrap (d - 1)) rfl]),(15,[si (e:=IntKind.i64.wrap (d - 1)) rfl]),(2,[sl [0] c19]),(3,[se (zf3 a19 zaN)]),(10,[sl [0] c20]),(16,[sl [0] c21]),(17,[sc (zaA (opAt a19) e20 e21)])]]) kr⟩
      ·obtain ⟨e22,t22,q22,c22⟩:=(hf1 t17 w)
       exact ⟨X.mk 4 0 false (V.mk 0 0 (ByteArray.mk #[])) (ByteArray.mk #[]) (ByteArray.mk #[]) [e22] [],t22,zba,(by (try simp only [X.av,Qy.av,V.av,Tb.av,Sch.av,Pl.av,xsl,fsl,vsl,tsl,List.map_append,List.map_cons,List.map_nil,V.cells,Col.cells,Rw.cells,Tb.cells,Fr.cells,Sch.cells,Pl.cells,zaJ,zam,zaq,zan,zar,X.cells,Qy.cells,X.args_mk,X.sub_mk,Qy.items_mk,Qy.wh_mk,xCol,xLit,xBin,xNeg]);exact wk At.world_Tape_Expr (p_2++[sb h16,sb h4,sl [0] c17,sb h18,si (e:=IntKind.i64.wrap (d - 1)) rfl,sl [0] c22]) kr)⟩
     ·obtain ⟨b23,t23,c23⟩:=(zaj t1 6 zaN)
      rcases (Bool.eq_false_or_eq_true b23).symm with h24|h24
      ·obtain ⟨a25,t25,q25,c25⟩:=(zaf t23 6 zaN)
       obtain ⟨e26,t26,q26,c26⟩:=(hf1 t25 w)
       obtain ⟨e27,t27,q27,c27⟩:=(hf1 t26 w)
       exact ⟨xBin (opAt a25) e26 e27,t27,zba,wk At.world_Tape_Expr (p_2++[sg h16,sb h15,sb h4,sl [0] c23,sb h24,sd [(9,[si (e:=IntKind.i64.wrap (d - 1)) rfl]),(15,[si (e:=IntKind.i64.wrap (d - 1)) rfl]),(2,[sl [0] c25]),(3,[se (zf3 a25 zaN)]),(10,[sl [0] c26]),(16,[sl [0] c27]),(17,[sc (zaA (opAt a25) e26 e27)])]]) kr⟩
      ·obtain ⟨e28,t28,q28,c28⟩:=(hf1 t23 w)
       exact ⟨X.mk 4 0 false (V.mk 0 0 (ByteArray.mk #[])) (ByteArray.mk #[]) (ByteArray.mk #[]) [e28] [],t28,zba,(by (try simp only [X.av,Qy.av,V.av,Tb.av,Sch.av,Pl.av,xsl,fsl,vsl,tsl,List.map_append,List.map_cons,List.map_nil,V.cells,Col.cells,Rw.cells,Tb.cells,Fr.cells,Sch.cells,Pl.cells,zaJ,zam,zaq,zan,zar,X.cells,Qy.cells,X.args_mk,X.sub_mk,Qy.items_mk,Qy.wh_mk,xCol,xLit,xBin,xNeg]);exact wk At.world_Tape_Expr (p_2++[sg h16,sb h15,sb h4,sl [0] c23,sb h24,si (e:=IntKind.i64.wrap (d - 1)) rfl,sl [0] c28]) kr)⟩
    ·let p_3:List St:=[sl [0] c1,sb h2,sg hd,sb h3,sg h4,sg h15]
     cases h29:decide (0 < (↑(List.map Sch.cells p.tbs).length:Int))
     ·cases h30:w==2
      ·obtain ⟨b31,t31,c31⟩:=(zaj t1 6 zaN)
       rcases (Bool.eq_false_or_eq_true b31).symm with h32|h32
       ·obtain ⟨a33,t33,q33,c33⟩:=(zaf t31 6 zaN)
        obtain ⟨e34,t34,q34,c34⟩:=(hf1 t33 w)
        obtain ⟨e35,t35,q35,c35⟩:=(hf1 t34 w)
        exact ⟨xBin (opAt a33) e34 e35,t35,zba,wk At.world_Tape_Expr (p_3++[sb h29,sb h30,sb h4,sl [0] c31,sb h32,sd [(9,[si (e:=IntKind.i64.wrap (d - 1)) rfl]),(15,[si (e:=IntKind.i64.wrap (d - 1)) rfl]),(2,[sl [0] c33]),(3,[se (zf3 a33 zaN)]),(10,[sl [0] c34]),(16,[sl [0] c35]),(17,[sc (zaA (opAt a33) e34 e35)])]]) kr⟩
       ·obtain ⟨e36,t36,q36,c36⟩:=(hf1 t31 w)
        exact ⟨X.mk 4 0 false (V.mk 0 0 (ByteArray.mk #[])) (ByteArray.mk #[]) (ByteArray.mk #[]) [e36] [],t36,zba,(by (try simp only [X.av,Qy.av,V.av,Tb.av,Sch.av,Pl.av,xsl,fsl,vsl,tsl,List.map_append,List.map_cons,List.map_nil,V.cells,Col.cells,Rw.cells,Tb.cells,Fr.cells,Sch.cells,Pl.cells,zaJ,zam,zaq,zan,zar,X.cells,Qy.cells,X.args_mk,X.sub_mk,Qy.items_mk,Qy.wh_mk,xCol,xLit,xBin,xNeg]);exact wk At.world_Tape_Expr (p_3++[sb h29,sb h30,sb h4,sl [0] c31,sb h32,si (e:=IntKind.i64.wrap (d - 1)) rfl,sl [0] c36]) kr)⟩
      ·obtain ⟨b37,t37,c37⟩:=(zaj t1 6 zaN)
       let p_4:List St:=p_3++[sb h29,sg h30,sg h15,sb h29,sb h4,sl [0] c37]
       rcases (Bool.eq_false_or_eq_true b37).symm with h38|h38
       ·obtain ⟨a39,t39,q39,c39⟩:=(zaf t37 6 zaN)
        obtain ⟨e40,t40,q40,c40⟩:=(hf1 t39 w)
        obtain ⟨e41,t41,q41,c41⟩:=(hf1 t40 w)
        exact ⟨xBin (opAt a39) e40 e41,t41,zba,wk At.world_Tape_Expr (p_4++[sb h38,sd [(9,[si (e:=IntKind.i64.wrap (d - 1)) rfl]),(15,[si (e:=IntKind.i64.wrap (d - 1)) rfl]),(2,[sl [0] c39]),(3,[se (zf3 a39 zaN)]),(10,[sl [0] c40]),(16,[sl [0] c41]),(17,[sc (zaA (opAt a39) e40 e41)])]]) kr⟩
       ·obtain ⟨e42,t42,q42,c42⟩:=(hf1 t37 w)
        exact ⟨X.mk 4 0 false (V.mk 0 0 (ByteArray.mk #[])) (ByteArray.mk #[]) (ByteArray.mk #[]) [e42] [],t42,zba,(by (try simp only [X.av,Qy.av,V.av,Tb.av,Sch.av,Pl.av,xsl,fsl,vsl,tsl,List.map_append,List.map_cons,List.map_nil,V.cells,Col.cells,Rw.cells,Tb.cells,Fr.cells,Sch.cells,Pl.cells,zaJ,zam,zaq,zan,zar,X.cells,Qy.cells,X.args_mk,X.sub_mk,Qy.items_mk,Qy.wh_mk,xCol,xLit,xBin,xNeg]);exact wk At.world_Tape_Expr (p_4++[sb h38,si (e:=IntKind.i64.wrap (d - 1)) rfl,sl [0] c42]) kr)⟩
     ·obtain ⟨a43,t43,q43,c43⟩:=(zaf t1 4 zaN)
      obtain ⟨e44,t44,q44,c44⟩:=(hq t43 (IntKind.i64.wrap (9+(a43:Int))))
      exact ⟨e44,t44,zba,wk At.world_Tape_Expr (p_3++[sb h29,sd [(3,[sl [0] c43]),(4,[si (e:=IntKind.i64.wrap (9+(a43:Int))) rfl]),(6,[sl [0] c44])]]) kr⟩
  ·obtain ⟨x45,ok45,t45,q45,c45⟩:=(zbY t1 p w zaN zaN)
   let p_5:List St:=[sl [0] c1,sb h2,sg hd,sb h3,sl [0] c45]
   rcases (Bool.eq_false_or_eq_true ok45).symm with h46|h46
   ·obtain ⟨b47,t47,c47⟩:=(zaj t45 8 zaN)
    rcases (Bool.eq_false_or_eq_true b47).symm with h48|h48
    ·cases h49:w==1
     ·obtain ⟨v50,t50,q50,c50⟩:=(za1 t47 w)
      exact ⟨xLit v50,t50,zba,wk At.world_Tape_Expr (p_5++[sb h46,sl [0] c47,sb h48,sb h49,sl [0] c50,sc (zaS v50)]) kr⟩
     ·obtain ⟨a51,t51,q51,c51⟩:=(zaX t47)
      exact ⟨xNum a51,t51,zba,wk At.world_Tape_Expr (p_5++[sb h46,sl [0] c47,sb h48,sb h49,sl [0] c51,sc (zaZ a51 zaN)]) kr⟩
    ·exact ⟨xLit (V.mk 0 0 (ByteArray.mk #[])),t47,zba,wk At.world_Tape_Expr (p_5++[sb h46,sl [0] c47,sb h48,sc (zaS (V.mk 0 0 (ByteArray.mk #[])))]) kr⟩
   ·obtain ⟨b52,t52,c52⟩:=(zaj t45 3 zaN)
    cases h53:!b52
    ·obtain ⟨b54,t54,c54⟩:=(zaj t52 8 zaN)
     let p_6:List St:=p_5++[sg h46,sl [0] c52,sb h53,sl [0] c54]
     rcases (Bool.eq_false_or_eq_true b54).symm with h55|h55
     ·cases h56:w==1
      ·obtain ⟨v57,t57,q57,c57⟩:=(za1 t54 w)
       exact ⟨xLit v57,t57,zba,wk At.world_Tape_Expr (p_6++[sb h55,sb h56,sl [0] c57,sc (zaS v57)]) kr⟩
      ·obtain ⟨a58,t58,q58,c58⟩:=(zaX t54)
       exact ⟨xNum a58,t58,zba,wk At.world_Tape_Expr (p_6++[sb h55,sb h56,sl [0] c58,sc (zaZ a58 zaN)]) kr⟩
     ·exact ⟨xLit (V.mk 0 0 (ByteArray.mk #[])),t54,zba,wk At.world_Tape_Expr (p_6++[sb h55,sc (zaS (V.mk 0 0 (ByteArray.mk #[])))]) kr⟩
    ·exact ⟨x45,t52,zba,wk At.world_Tape_Expr (p_5++[sg h46,sl [0] c52,sb h53]) kr⟩
 ·obtain ⟨a59,t59,q59,c59⟩:=(zaf t1 4 zaN)
  let p_7:List St:=[sl [0] c1,sg h2,sb hd2,sl [0] c59,sg hd]
  cases h60:decide (3≤(a59:Int))
  ·cases h61:w==1
   ·cases h62:w==2
    ·obtain ⟨v63,t63,q63,c63⟩:=(za1 t59 w)
     exact ⟨xLit v63,t63,zba,wk At.world_Tape_Expr (p_7++[sb h60,sb h61,sb h62,sb h61,sb h62,sl [0] c63,sc (zaS v63)]) kr⟩
    ·cases h64:(a59:Int)==0
     ·obtain ⟨e65,t65,q65,c65⟩:=(hcd t59)
      exact ⟨e65,t65,zba,wk At.world_Tape_Expr (p_7++[sb h60,sb h61,sg h62,sb h64,sb h61,sb h62,sl [0] c65]) kr⟩
     ·cases h66:decide (0 < (↑(List.map Sch.cells p.tbs).length:Int))
      ·obtain ⟨e67,t67,q67,c67⟩:=(hcd t59)
       exact ⟨e67,t67,zba,wk At.world_Tape_Expr (p_7++[sb h60,sb h61,sg h62,sg h64,sb h66,sb h61,sb h62,sl [0] c67]) kr⟩
      ·obtain ⟨b68,t68,c68⟩:=(zaj t59 2 zaN)
       let p_8:List St:=p_7++[sb h60,sb h61,sg h62,sg h64,sg h66,sl [0] c68]
       rcases (Bool.eq_false_or_eq_true b68).symm with h69|h69
       ·obtain ⟨e70,t70,q70,c70⟩:=(hcd t68)
        exact ⟨e70,t70,zba,wk At.world_Tape_Expr (p_8++[sb h69,sb h61,sb h62,sl [0] c70]) kr⟩
       ·obtain ⟨e71,t71,q71,c71⟩:=(hq t68 8)
        exact ⟨e71,t71,zba,wk At.world_Tape_Expr (p_8++[sb h69,sl [0] c71]) kr⟩
   ·cases h72:(a59:Int)==0
    ·cases h73:w==2
     ·obtain ⟨b74,t74,c74⟩:=(zaj t59 6 zaN)
      let p_9:List St:=p_7++[sb h60,sg h61,sb h72,sb h73,sb h61,sl [0] c74]
      rcases (Bool.eq_false_or_eq_true b74).symm with h75|h75
      ·obtain ⟨a76,t76,q76,c76⟩:=(zaf t74 6 zaN)
       obtain ⟨e77,t77,q77,c77⟩:=(hf1 t76 w)
       obtain ⟨e78,t78,q78,c78⟩:=(hf1 t77 w)
       exact ⟨xBin (opAt a76) e77 e78,t78,zba,wk At.world_Tape_Expr (p_9++[sb h75,sd [(9,[si (e:=IntKind.i64.wrap (d - 1)) rfl]),(15,[si (e:=IntKind.i64.wrap (d - 1)) rfl]),(2,[sl [0] c76]),(3,[se (zf3 a76 zaN)]),(10,[sl [0] c77]),(16,[sl [0] c78]),(17,[sc (zaA (opAt a76) e77 e78)])]]) kr⟩
      ·obtain ⟨e79,t79,q79,c79⟩:=(hf1 t74 w)
       exact ⟨X.mk 4 0 false (V.mk 0 0 (ByteArray.mk #[])) (ByteArray.mk #[]) (ByteArray.mk #[]) [e79] [],t79,zba,(by (try simp only [X.av,Qy.av,V.av,Tb.av,Sch.av,Pl.av,xsl,fsl,vsl,tsl,List.map_append,List.map_cons,List.map_nil,V.cells,Col.cells,Rw.cells,Tb.cells,Fr.cells,Sch.cells,Pl.cells,zaJ,zam,zaq,zan,zar,X.cells,Qy.cells,X.args_mk,X.sub_mk,Qy.items_mk,Qy.wh_mk,xCol,xLit,xBin,xNeg]);exact wk At.world_Tape_Expr (p_9++[sb h75,si (e:=IntKind.i64.wrap (d - 1)) rfl,sl [0] c79]) kr)⟩
     ·obtain ⟨b80,t80,c80⟩:=(zaj t59 6 zaN)
      let p_10:List St:=p_7++[sb h60,sg h61,sb h72,sg h73,sb h72,sb h61,sl [0] c80]
      rcases (Bool.eq_false_or_eq_true b80).symm with h81|h81
      ·obtain ⟨a82,t82,q82,c82⟩:=(zaf t80 6 zaN)
       obtain ⟨e83,t83,q83,c83⟩:=(hf1 t82 w)
       obtain ⟨e84,t84,q84,c84⟩:=(hf1 t83 w)
       exact ⟨xBin (opAt a82) e83 e84,t84,zba,wk At.world_Tape_Expr (p_10++[sb h81,sd [(9,[si (e:=IntKind.i64.wrap (d - 1)) rfl]),(15,[si (e:=IntKind.i64.wrap (d - 1)) rfl]),(2,[sl [0] c82]),(3,[se (zf3 a82 zaN)]),(10,[sl [0] c83]),(16,[sl [0] c84]),(17,[sc (zaA (opAt a82) e83 e84)])]]) kr⟩
      ·obtain ⟨e85,t85,q85,c85⟩:=(hf1 t80 w)
       exact ⟨X.mk 4 0 false (V.mk 0 0 (ByteArray.mk #[])) (ByteArray.mk #[]) (ByteArray.mk #[]) [e85] [],t85,zba,(by (try simp only [X.av,Qy.av,V.av,Tb.av,Sch.av,Pl.av,xsl,fsl,vsl,tsl,List.map_append,List.map_cons,List.map_nil,V.cells,Col.cells,Rw.cells,Tb.cells,Fr.cells,Sch.cells,Pl.cells,zaJ,zam,zaq,zan,zar,X.cells,Qy.cells,X.args_mk,X.sub_mk,Qy.items_mk,Qy.wh_mk,xCol,xLit,xBin,xNeg]);exact wk At.world_Tape_Expr (p_10++[sb h81,si (e:=IntKind.i64.wrap (d - 1)) rfl,sl [0] c85]) kr)⟩
    ·cases h86:decide (0 < (↑(List.map Sch.cells p.tbs).length:Int))
     ·cases h87:w==2
      ·obtain ⟨b88,t88,c88⟩:=(zaj t59 6 zaN)
       let p_11:List St:=p_7++[sb h60,sg h61,sg h72,sb h86,sb h87,sb h61,sl [0] c88]
       rcases (Bool.eq_false_or_eq_true b88).symm with h89|h89
       ·obtain ⟨a90,t90,q90,c90⟩:=(zaf t88 6 zaN)
        obtain ⟨e91,t91,q91,c91⟩:=(hf1 t90 w)
        obtain ⟨e92,t92,q92,c92⟩:=(hf1 t91 w)
        exact ⟨xBin (opAt a90) e91 e92,t92,zba,wk At.world_Tape_Expr (p_11++[sb h89,sd [(9,[si (e:=IntKind.i64.wrap (d - 1)) rfl]),(15,[si (e:=IntKind.i64.wrap (d - 1)) rfl]),(2,[sl [0] c90]),(3,[se (zf3 a90 zaN)]),(10,[sl [0] c91]),(16,[sl [0] c92]),(17,[sc (zaA (opAt a90) e91 e92)])]]) kr⟩
       ·obtain ⟨e93,t93,q93,c93⟩:=(hf1 t88 w)
        exact ⟨X.mk 4 0 false (V.mk 0 0 (ByteArray.mk #[])) (ByteArray.mk #[]) (ByteArray.mk #[]) [e93] [],t93,zba,(by (try simp only [X.av,Qy.av,V.av,Tb.av,Sch.av,Pl.av,xsl,fsl,vsl,tsl,List.map_append,List.map_cons,List.map_nil,V.cells,Col.cells,Rw.cells,Tb.cells,Fr.cells,Sch.cells,Pl.cells,zaJ,zam,zaq,zan,zar,X.cells,Qy.cells,X.args_mk,X.sub_mk,Qy.items_mk,Qy.wh_mk,xCol,xLit,xBin,xNeg]);exact wk At.world_Tape_Expr (p_11++[sb h89,si (e:=IntKind.i64.wrap (d - 1)) rfl,sl [0] c93]) kr)⟩
      ·obtain ⟨b94,t94,c94⟩:=(zaj t59 6 zaN)
       let p_12:List St:=p_7++[sb h60,sg h61,sg h72,sb h86,sg h87,sg h72,sb h86,sb h61,sl [0] c94]
       rcases (Bool.eq_false_or_eq_true b94).symm with h95|h95
       ·obtain ⟨a96,t96,q96,c96⟩:=(zaf t94 6 zaN)
        obtain ⟨e97,t97,q97,c97⟩:=(hf1 t96 w)
        obtain ⟨e98,t98,q98,c98⟩:=(hf1 t97 w)
        exact ⟨xBin (opAt a96) e97 e98,t98,zba,wk At.world_Tape_Expr (p_12++[sb h95,sd [(9,[si (e:=IntKind.i64.wrap (d - 1)) rfl]),(15,[si (e:=IntKind.i64.wrap (d - 1)) rfl]),(2,[sl [0] c96]),(3,[se (zf3 a96 zaN)]),(10,[sl [0] c97]),(16,[sl [0] c98]),(17,[sc (zaA (opAt a96) e97 e98)])]]) kr⟩
       ·obtain ⟨e99,t99,q99,c99⟩:=(hf1 t94 w)
        exact ⟨X.mk 4 0 false (V.mk 0 0 (ByteArray.mk #[])) (ByteArray.mk #[]) (ByteArray.mk #[]) [e99] [],t99,zba,(by (try simp only [X.av,Qy.av,V.av,Tb.av,Sch.av,Pl.av,xsl,fsl,vsl,tsl,List.map_append,List.map_cons,List.map_nil,V.cells,Col.cells,Rw.cells,Tb.cells,Fr.cells,Sch.cells,Pl.cells,zaJ,zam,zaq,zan,zar,X.cells,Qy.cells,X.args_mk,X.sub_mk,Qy.items_mk,Qy.wh_mk,xCol,xLit,xBin,xNeg]);exact wk At.world_Tape_Expr (p_12++[sb h95,si (e:=IntKind.i64.wrap (d - 1)) rfl,sl [0] c99]) kr)⟩
     ·obtain ⟨a100,t100,q100,c100⟩:=(zaf t59 4 zaN)
      obtain ⟨e101,t101,q101,c101⟩:=(hq t100 (IntKind.i64.wrap (9+(a100:Int))))
      exact ⟨e101,t101,zba,wk At.world_Tape_Expr (p_7++[sb h60,sg h61,sg h72,sb h86,sd [(3,[sl [0] c100]),(4,[si (e:=IntKind.i64.wrap (9+(a100:Int))) rfl]),(6,[sl [0] c101])]]) kr⟩
  ·obtain ⟨x102,ok102,t102,q102,c102⟩:=(zbY t59 p w zaN zaN)
   rcases (Bool.eq_false_or_eq_true ok102).symm with h103|h103
   ·obtain ⟨b104,t104,c104⟩:=(zaj t102 8 zaN)
    let p_13:List St:=p_7++[sb h60,sl [0] c102,sb h103,sl [0] c104]
    rcases (Bool.eq_false_or_eq_true b104).symm with h105|h105
    ·cases h106:w==1
     ·obtain ⟨v107,t107,q107,c107⟩:=(za1 t104 w)
      exact ⟨xLit v107,t107,zba,wk At.world_Tape_Expr (p_13++[sb h105,sb h106,sl [0] c107,sc (zaS v107)]) kr⟩
     ·obtain ⟨a108,t108,q108,c108⟩:=(zaX t104)
      exact ⟨xNum a108,t108,zba,wk At.world_Tape_Expr (p_13++[sb h105,sb h106,sl [0] c108,sc (zaZ a108 zaN)]) kr⟩
    ·exact ⟨xLit (V.mk 0 0 (ByteArray.mk #[])),t104,zba,wk At.world_Tape_Expr (p_13++[sb h105,sc (zaS (V.mk 0 0 (ByteArray.mk #[])))]) kr⟩
   ·obtain ⟨b109,t109,c109⟩:=(zaj t102 3 zaN)
    let p_14:List St:=p_7++[sb h60,sl [0] c102,sg h103,sl [0] c109]
    cases h110:!b109
    ·obtain ⟨b111,t111,c111⟩:=(zaj t109 8 zaN)
     rcases (Bool.eq_false_or_eq_true b111).symm with h112|h112
     ·cases h113:w==1
      ·obtain ⟨v114,t114,q114,c114⟩:=(za1 t111 w)
       exact ⟨xLit v114,t114,zba,wk At.world_Tape_Expr (p_14++[sb h110,sl [0] c111,sb h112,sb h113,sl [0] c114,sc (zaS v114)]) kr⟩
      ·obtain ⟨a115,t115,q115,c115⟩:=(zaX t111)
       exact ⟨xNum a115,t115,zba,wk At.world_Tape_Expr (p_14++[sb h110,sl [0] c111,sb h112,sb h113,sl [0] c115,sc (zaZ a115 zaN)]) kr⟩
     ·exact ⟨xLit (V.mk 0 0 (ByteArray.mk #[])),t111,zba,wk At.world_Tape_Expr (p_14++[sb h110,sl [0] c111,sb h112,sc (zaS (V.mk 0 0 (ByteArray.mk #[])))]) kr⟩
    ·exact ⟨x102,t109,zba,wk At.world_Tape_Expr (p_14++[sb h110]) kr⟩
end Go.AM
namespace Go.AM
set_option maxRecDepth 100000
set_option linter.unusedSimpArgs false
set_option linter.unusedVariables false
abbrev dpt (n:Nat):Int:=(n:Int) - 1
theorem dpt1 (n:Nat) (hn:n≤500):IntKind.i64.wrap (dpt (n+2) - 1)=dpt (n+1):=by rw [IntKind.wrap_i64];simp only [dpt];omega
theorem dpt2 (n:Nat) (hn:n≤500):IntKind.i64.wrap (dpt (n+2) - 2)=dpt n:=by rw [IntKind.wrap_i64];simp only [dpt];omega
theorem zlQ:∀ (n:Nat),n≤500→RecE n (n+2) (dpt n)
 | 0,_,t,p,w,hp=>zoT t p w _ (by decide) (by decide) hp.few1 hp.cols
 | 1,_,t,p,w,hp=>by
  obtain ⟨e,t',h,hc⟩:=zoT t p w (dpt 1) (by decide) (by decide) hp.few1 hp.cols
  exact ⟨e,t',h.mono,hc⟩
 | n+2,hn,t,p,w,hp=>by
  have h1:=zlQ (n+1) (by omega)
  have h2:=zlQ n (by omega)
  have e1:=dpt1 n (by omega)
  have e2:=dpt2 n (by omega)
  have hf1:RecE (n+1) (n+3) (IntKind.i64.wrap (dpt (n+2) - 1)):=by rw [e1];exact h1
  have hf2:RecE (n+1) (n+3) (IntKind.i64.wrap (dpt (n+2) - 2)):=by
   rw [e2]
   intro t p w hp
   obtain ⟨e,t',h,hc⟩:=h2 t p w hp.less
   exact ⟨e,t',h.mono,hc⟩
  exact zrX t p w (dpt (n+2)) (n+2) (by simp only [dpt];simp;omega) (by simp only [dpt];simp;omega) hp.few1 hp.cols (fun t w=>hf1 t p w hp.less)
   (fun t k=>zsA t p k (n+1) (n+3) (dpt (n+2)) hp hf1 hf2) (fun t=>zoC t p (n+1) (n+3) (dpt (n+2)) hp.less hf1)
theorem zaE (t:Tp) (p:Pl) (w:Int) (hp:p.OkN 2):∃ (e:X) (t':Tp),XOk 4 e∧zac E0 S.world_Tape_Expr [.p 0 0,p.av,iv w,iv 1] [.box t.cells] e.av [.box t'.cells]:=zlQ 2 (by omega) t p w hp
theorem zbJ (t:Tp) (p:Pl) (w:Int) (hp:p.OkN 3):∃ (e:X) (t':Tp),XOk 5 e∧zac E0 S.world_Tape_Expr [.p 0 0,p.av,iv w,iv 2] [.box t.cells] e.av [.box t'.cells]:=zlQ 3 (by omega) t p w hp
end Go.AM
namespace Go.AM
set_option maxRecDepth 100000
set_option maxHeartbeats 1000000
set_option linter.unusedSimpArgs false
set_option linter.unusedVariables false
theorem zke {p:Prop} (h:p:=by first|assumption|(simp;done)|(simp;omega)|omega|(simp at *;omega)):p:=h
theorem zmY {p:Prop} (h:p:=by first|assumption|omega|(simp;done)|(simp;omega)):p:=h
theorem zm4 {p:Prop} (h:p:=by first|omega|(simp only [zad,Few] at *;omega)):p:=h
theorem zpi {p:Prop} (h:p:=by have ih:=zeI l 1 1 hl l.length 0 (by simp);exact ih):p:=h
def za5:Fr:=⟨⟨#[]⟩,false,[],[]⟩
theorem zlY {α:Type} {l:List α} {k:Nat} (d:α) (h:k < l.length):l[k]?=some (l.getD k d):=by
 rw [List.getD_eq_getElem?_getD,List.getElem?_eq_getElem h];rfl
noncomputable def L_sres (frs:List Fr) (q n:Str) (k:Nat) :Cfg:=zat B.scope_Resolve 0 [(0,fsl frs),(1,sv q),(2,sv n),(9,iv (pm1 k))] []
def sres (frs:List Fr) (q n:Str):Nat→Int × Int × Bool
 | 0 =>
  (0,0,false)
 | k+1 =>
  bif ByteArray.toList q==(ByteArray.mk #[]).toList then
   bif (frs.getD k za5).strict then
    sres frs q n (k)
   else
    bif decide (0≤idxF (fun c=>colC c n) (Sch.mk (ByteArray.mk #[]) (frs.getD k za5).cols).cols 0) then
     (pm1 (k+1),idxF (fun c=>colC c n) (Sch.mk (ByteArray.mk #[]) (frs.getD k za5).cols).cols 0,true)
    else
     sres frs q n (k)
  else
   bif !ByteArray.toList (frs.getD k za5).name==ByteArray.toList q then
    sres frs q n (k)
   else
    bif decide (0≤idxF (fun c=>colC c n) (Sch.mk (ByteArray.mk #[]) (frs.getD k za5).cols).cols 0) then
     (pm1 (k+1),idxF (fun c=>colC c n) (Sch.mk (ByteArray.mk #[]) (frs.getD k za5).cols).cols 0,true)
    else
     sres frs q n (k)
theorem zoh (frs:List Fr) (q n:Str) (hl:zad frs) (hc:∀ f∈frs,zad f.cols):∀ (k:Nat),k≤1000000000→k≤frs.length→Good E0 B.scope_Resolve [] (L_sres frs q n k ) (Shut 0 fun r h=>r=(.tup [iv (sres frs q n k ).1,iv (sres frs q n k ).2.1,bv (sres frs q n k ).2.2])∧h=[]):=by
 intro k
 induction k with
 | zero =>
  intro  hk hk2
  simp only [sres]
  refine zaa ?_
  exact wkr [sb (rfl:false=false)] kr
 | succ k ih =>
  intro  hk hk2
  have h0:decide ((0:Int)≤((k:Nat):Int))=true:=by simp
  have hw:=zk8 k (by omega)
  have hx:=zlY (l:=frs) (k:=k) za5 (by omega);have hcx:=hc _ (List.mem_of_getElem? hx)
  simp only [sres]
  refine zaa ?_
  cases h1:ByteArray.toList q==(ByteArray.mk #[]).toList
  ·cases h2:!ByteArray.toList (frs.getD k za5).name==ByteArray.toList q
   ·cases h3:decide (0≤idxF (fun c=>colC c n) (Sch.mk (ByteArray.mk #[]) (frs.getD k za5).cols).cols 0)
    ·exact wkl [sb (rfl:true=true),se (zah Fr.cells hx rfl),sb h1,sg (congrArg Bool.not h1),sb h2,sc (zcs (Sch.mk (ByteArray.mk #[]) (frs.getD k za5).cols) n zmY),sb h3,si hw] [0,1,2,9] 0 kr (ih  (by omega) zke)
    ·exact wkr [sb (rfl:true=true),se (zah Fr.cells hx rfl),sb h1,sg (congrArg Bool.not h1),sb h2,sc (zcs (Sch.mk (ByteArray.mk #[]) (frs.getD k za5).cols) n zmY),sb h3] kr
   ·exact wkl [sb (rfl:true=true),se (zah Fr.cells hx rfl),sb h1,sg (congrArg Bool.not h1),sb h2,si hw] [0,1,2,9] 0 kr (ih  (by omega) zke)
  ·cases h4:(frs.getD k za5).strict
   ·cases h5:decide (0≤idxF (fun c=>colC c n) (Sch.mk (ByteArray.mk #[]) (frs.getD k za5).cols).cols 0)
    ·exact wkl [sb (rfl:true=true),se (zah Fr.cells hx rfl),sg h1,sg h4,sb (congrArg Bool.not h1),sc (zcs (Sch.mk (ByteArray.mk #[]) (frs.getD k za5).cols) n zmY),sb h5,si hw] [0,1,2,9] 0 kr (ih  (by omega) zke)
    ·exact wkr [sb (rfl:true=true),se (zah Fr.cells hx rfl),sg h1,sg h4,sb (congrArg Bool.not h1),sc (zcs (Sch.mk (ByteArray.mk #[]) (frs.getD k za5).cols) n zmY),sb h5] kr
   ·exact wkl [sb (rfl:true=true),se (zah Fr.cells hx rfl),sg h1,sb h4,si hw] [0,1,2,9] 0 kr (ih  (by omega) zke)
theorem zrp {α:Type} (f:α→List AV) (l:List α) (h:zad l):IntKind.i64.wrap ((((l.map f).length:Nat):Int) - 1)=pm1 l.length:=by
 rw [List.length_map];exact zk8 _ (by simp only [zad] at h;omega)
def zb6 (frs:List Fr) (q n:Str):Int × Int × Bool :=
 sres frs q n (frs.length)
theorem zeE (frs:List Fr) (q n:Str) (hl:zad frs) (hc:∀ f∈frs,zad f.cols) (hw0:IntKind.i64.wrap ((((frs.map Fr.cells).length:Nat):Int) - 1)=pm1 frs.length):zac E0 S.scope_Resolve [fsl frs,sv q,sv n] [] (.tup [iv (zb6 frs q n).1,iv (zb6 frs q n).2.1,bv (zb6 frs q n).2.2]) []:=by
 unfold zb6
 exact wkc At.scope_Resolve [si hw0] [0,1,2,9] 0 kr (by have ih:=zoh frs q n hl hc frs.length (by simp only [zad] at hl;omega) (Nat.le_refl _);exact ih)
noncomputable def zoZ (frs:List Fr) (q n:Str) (k:Nat):Cfg:=zat B.ref14_Resolve 0 [(0,fsl frs),(1,sv q),(2,sv n),(9,iv (pm1 k))] []
noncomputable def zse (frs:List Fr) (q n:Str) (k:Nat) (f:Fr) (els:Int × Int × Bool) (j:Nat) :Cfg:=zat B.ref14_Resolve 1 [(0,fsl frs),(1,sv q),(2,sv n),(9,iv (pm1 (k+1))),(41,.sl (f.cols.map Col.cells)),(42,iv ((f.cols.map Col.cells).length:Nat)),(43,iv (j:Nat))] []
def zc2 (frs:List Fr) (q n:Str) (k:Nat) (f:Fr) (els:Int × Int × Bool):List (Col)→Nat→Int × Int × Bool
 | [],j =>
  els
 | x::r,j =>
  bif ByteArray.toList x.name==ByteArray.toList n then
   (pm1 (k+1),(j:Int),true)
  else
   zc2 frs q n k f els r (j+1)
theorem zj8 (frs:List Fr) (q n:Str) (k:Nat) (f:Fr) (els:Int × Int × Bool) (hl:zad f.cols) (hwk:IntKind.i64.wrap (((k:Nat):Int) - 1)=pm1 k) (hels:Good E0 B.ref14_Resolve [] (zoZ frs q n k) (Shut 0 fun r h=>r=.tup [iv els.1,iv els.2.1,bv els.2.2]∧h=[])):∀ (kk j:Nat),j+kk=(f.cols).length→Good E0 B.ref14_Resolve [] (zse frs q n k f els j ) (Shut 0 fun r h=>r=(.tup [iv (zc2 frs q n k f els ((f.cols).drop j) j ).1,iv (zc2 frs q n k f els ((f.cols).drop j) j ).2.1,bv (zc2 frs q n k f els ((f.cols).drop j) j ).2.2])∧h=[]):=by
 intro kk
 induction kk with
 | zero =>
  intro j  hi
  have h0:decide (((j:Nat):Int) < (((f.cols.map Col.cells).length:Nat):Int))=false:=by simp;omega
  have e0:(f.cols).drop j=[]:=List.drop_of_length_le (by omega)
  rw [e0]
  simp only [zc2]
  refine zaa ?_
  exact wkl [sb h0,si hwk] [0,1,2,9] 0 kr (hels)
 | succ kk ih =>
  intro j  hi
  obtain ⟨x,hx⟩:=zax (l:=f.cols) (i:=j) (by omega)
  have h0:decide (((j:Nat):Int) < (((f.cols.map Col.cells).length:Nat):Int))=true:=by simp;omega
  have hw:=zao j zm4
  rw [zbD hx]
  simp only [zc2]
  refine zaa ?_
  cases h1:ByteArray.toList x.name==ByteArray.toList n
  ·exact wkl [sb h0,se (zah Col.cells hx rfl),sb h1,si hw] [0,1,2,9,41,42,43] 0 kr (ih (j+1) (by omega) )
  ·exact wkr [sb h0,se (zah Col.cells hx rfl),sb h1] kr
def rres (frs:List Fr) (q n:Str):Nat→Int × Int × Bool
 | 0 =>
  (0,0,false)
 | k+1 =>
  bif ByteArray.toList q==(ByteArray.mk #[]).toList then
   bif (frs.getD k za5).strict then
    rres frs q n (k)
   else
    zc2 frs q n k (frs.getD k za5) (rres frs q n k) (frs.getD k za5).cols 0
  else
   bif !ByteArray.toList (frs.getD k za5).name==ByteArray.toList q then
    rres frs q n (k)
   else
    zc2 frs q n k (frs.getD k za5) (rres frs q n k) (frs.getD k za5).cols 0
theorem zoD (frs:List Fr) (q n:Str) (hl:zad frs) (hc:∀ f∈frs,zad f.cols):∀ (k:Nat),k≤1000000000→k≤frs.length→Good E0 B.ref14_Resolve [] (zoZ frs q n k ) (Shut 0 fun r h=>r=(.tup [iv (rres frs q n k ).1,iv (rres frs q n k ).2.1,bv (rres frs q n k ).2.2])∧h=[]):=by
 intro k
 induction k with
 | zero =>
  intro  hk hk2
  simp only [rres]
  refine zaa ?_
  exact wkr [sb (rfl:false=false)] kr
 | succ k ih =>
  intro  hk hk2
  have h0:decide ((0:Int)≤((k:Nat):Int))=true:=by simp
  have hw:=zk8 k (by omega)
  have hx:=zlY (l:=frs) (k:=k) za5 (by omega);have hcx:=hc _ (List.mem_of_getElem? hx)
  simp only [rres]
  refine zaa ?_
  cases h1:ByteArray.toList q==(ByteArray.mk #[]).toList
  ·cases h2:!ByteArray.toList (frs.getD k za5).name==ByteArray.toList q
   ·exact wkl [sb (rfl:true=true),se (zah Fr.cells hx rfl),sb h1,sg (congrArg Bool.not h1),sb h2] [0,1,2,9,41,42,43] 0 kr (by have ih2:=zj8 frs q n k (frs.getD k za5) (rres frs q n k) hcx hw (ih (by omega) (by omega)) (frs.getD k za5).cols.length 0 (by simp);exact ih2)
   ·exact wkl [sb (rfl:true=true),se (zah Fr.cells hx rfl),sb h1,sg (congrArg Bool.not h1),sb h2,si hw] [0,1,2,9] 0 kr (ih  (by omega) zke)
  ·cases h3:(frs.getD k za5).strict
   ·exact wkl [sb (rfl:true=true),se (zah Fr.cells hx rfl),sg h1,sg h3,sb (congrArg Bool.not h1)] [0,1,2,9,41,42,43] 0 kr (by have ih2:=zj8 frs q n k (frs.getD k za5) (rres frs q n k) hcx hw (ih (by omega) (by omega)) (frs.getD k za5).cols.length 0 (by simp);exact ih2)
   ·exact wkl [sb (rfl:true=true),se (zah Fr.cells hx rfl),sg h1,sb h3,si hw] [0,1,2,9] 0 kr (ih  (by omega) zke)
def zbg (frs:List Fr) (q n:Str):Int × Int × Bool :=
 rres frs q n (frs.length)
theorem zdQ (frs:List Fr) (q n:Str) (hl:zad frs) (hc:∀ f∈frs,zad f.cols) (hw0:IntKind.i64.wrap ((((frs.map Fr.cells).length:Nat):Int) - 1)=pm1 frs.length):zac E0 S.ref14_Resolve [fsl frs,sv q,sv n] [] (.tup [iv (zbg frs q n).1,iv (zbg frs q n).2.1,bv (zbg frs q n).2.2]) []:=by
 unfold zbg
 exact wkc At.ref14_Resolve [si hw0] [0,1,2,9] 0 kr (by have ih:=zoD frs q n hl hc frs.length (by simp only [zad] at hl;omega) (Nat.le_refl _);exact ih)
noncomputable def zso (tb:List Tb) (n:Str) (i:Nat) :Cfg:=zat B.ref14_Source 0 [(1,sv n),(4,.p 0 0),(9,tsl tb),(10,iv ((tb.map Tb.cells).length:Nat)),(11,iv (i:Nat))] [.box [sv ⟨#[]⟩,.nl]]
def zgn (tb:List Tb) (n:Str):List (Tb)→Nat→Sch × Bool
 | [],i =>
  (Sch.mk (ByteArray.mk #[]) [],false)
 | x::r,i =>
  bif ByteArray.toList x.sch.name==ByteArray.toList n then
   (x.sch,true)
  else
   zgn tb n r (i+1)
theorem znI (tb:List Tb) (n:Str) (hl:zad tb) (hc:∀ x∈tb,zad x.sch.cols):∀ (kk i:Nat),i+kk=(tb).length→Good E0 B.ref14_Source [] (zso tb n i ) (Shut 0 fun r h=>r=(.tup [(zgn tb n ((tb).drop i) i ).1.av,bv (zgn tb n ((tb).drop i) i ).2])∧h=[]):=by
 intro kk
 induction kk with
 | zero =>
  intro i  hi
  have h0:decide (((i:Nat):Int) < (((tb.map Tb.cells).length:Nat):Int))=false:=by simp;omega
  have e0:(tb).drop i=[]:=List.drop_of_length_le (by omega)
  rw [e0]
  simp only [zgn]
  refine zaa ?_
  exact wkr [sb h0] kr
 | succ kk ih =>
  intro i  hi
  obtain ⟨x,hx⟩:=zax (l:=tb) (i:=i) (by omega)
  have h0:decide (((i:Nat):Int) < (((tb.map Tb.cells).length:Nat):Int))=true:=by simp;omega
  have hw:=zao i zm4
  have hcx:=hc x (List.mem_of_getElem? hx)
  rw [zbD hx]
  simp only [zgn]
  refine zaa ?_
  cases h1:ByteArray.toList x.sch.name==ByteArray.toList n
  ·exact wkl [sb h0,se (zah Tb.cells hx rfl),sb h1,si hw] [1,4,9,10,11] 1 kr (ih (i+1) (by omega) )
  ·exact wkr [sqx ((True∧(List.map Col.cells x.sch.cols).length=(List.map Col.cells x.sch.cols).length∧True)∧True∧True),sb h0,se (zah Tb.cells hx rfl),sb h1,sqx (AllLen (List.map Col.cells x.sch.cols) 4∧((List.map Col.cells x.sch.cols).length * 32).le 140737488355328)] kr
def zaL (tb:List Tb) (n:Str):Sch × Bool :=
 zgn tb n tb (0)
theorem zbT (tb:List Tb) (n:Str) (hl:zad tb) (hc:∀ x∈tb,zad x.sch.cols):zac E0 S.ref14_Source [tsl tb,sv n] [] (.tup [(zaL tb n).1.av,bv (zaL tb n).2]) []:=by
 unfold zaL
 exact wkc At.ref14_Source [] [1,4,9,10,11] 1 kr (by have ih:=znI tb n hl hc tb.length 0 (by simp);exact ih)
def zcd (frs:List Fr) (s:Sch) (v:List V):(List Fr) :=
 frs++[Fr.mk s.name false s.cols v]
theorem zfq (frs:List Fr) (s:Sch) (v:List V) (hl:zad frs):zac E0 S.ref14_Inside [fsl frs,s.av,vsl v] [] (fsl (zcd frs s v)) []:=by
 unfold zcd
 exact (by (try simp only [X.av,Qy.av,V.av,Tb.av,Sch.av,Pl.av,xsl,fsl,vsl,tsl,List.map_append,List.map_cons,List.map_nil,V.cells,Col.cells,Rw.cells,Tb.cells,Fr.cells,Sch.cells,Pl.cells,zaJ,zam,zaq,zan,zar,X.cells,Qy.cells,X.args_mk,X.sub_mk,Qy.items_mk,Qy.wh_mk,xCol,xLit,xBin,xNeg]);exact wk At.ref14_Inside [sqx ((List.map Fr.cells frs++[[sv s.name,bv false,AV.sl (List.map Col.cells s.cols),AV.sl (List.map V.cells v)]]).length=(List.map Fr.cells frs++[[sv s.name,bv false,AV.sl (List.map Col.cells s.cols),AV.sl (List.map V.cells v)]]).length),sqx (AllLen (List.map Fr.cells frs) 4∧((List.map Fr.cells frs).length * 72).le 140737488355328),sqx (AllLen [[sv s.name,bv false,AV.sl (List.map Col.cells s.cols),AV.sl (List.map V.cells v)]] 4∧(List.map Fr.cells frs).length=(List.map Fr.cells frs).length∧(((List.map Fr.cells frs).length+[[sv s.name,bv false,AV.sl (List.map Col.cells s.cols),AV.sl (List.map V.cells v)]].length) * 72).le 140737488355328)] kr)
def zgu (t w:Int):Bool :=
 bif t==0 then
  true
 else
  t==w
theorem zb0 (t w:Int) :zac E0 S.ref14_fits [iv t,iv w] [] (bv (zgu t w)) []:=by
 unfold zgu
 cases h1:t==0
 ·exact wk At.ref14_fits [sg h1] kr
 ·exact wk At.ref14_fits [sb h1] kr
noncomputable def zr6 (l:List Int) (want give:Int) (i:Nat) :Cfg:=zat B.ref14_result 1 [(6,iv want),(7,iv give),(54,isl l),(55,iv ((l.map fun n=>[iv n]).length:Nat)),(56,iv (i:Nat))] []
def zeQ (l:List Int) (want give:Int):List (Int)→Nat→Int × Int
 | [],i =>
  (give,0)
 | x::r,i =>
  bif !zgu x want then
   (0,5)
  else
   zeQ l want give r (i+1)
theorem zeI (l:List Int) (want give:Int) (hl:zad l):∀ (kk i:Nat),i+kk=(l).length→Good E0 B.ref14_result [] (zr6 l want give i ) (Shut 0 fun r h=>r=(.tup [iv (zeQ l want give ((l).drop i) i ).1,iv (zeQ l want give ((l).drop i) i ).2])∧h=[]):=by
 intro kk
 induction kk with
 | zero =>
  intro i  hi
  have h0:decide (((i:Nat):Int) < (((l.map fun n=>[iv n]).length:Nat):Int))=false:=by simp;omega
  have e0:(l).drop i=[]:=List.drop_of_length_le (by omega)
  rw [e0]
  simp only [zeQ]
  refine zaa ?_
  exact wkr [sb h0] kr
 | succ kk ih =>
  intro i  hi
  obtain ⟨x,hx⟩:=zax (l:=l) (i:=i) (by omega)
  have h0:decide (((i:Nat):Int) < (((l.map fun n=>[iv n]).length:Nat):Int))=true:=by simp;omega
  have hw:=zao i zm4
  rw [zbD hx]
  simp only [zeQ]
  refine zaa ?_
  cases h1:!zgu x want
  ·exact wkl [sb h0,se (zah (fun n=>[iv n]) hx rfl),sc (zb0 x want),sb h1,si hw] [6,7,54,55,56] 0 kr (ih (i+1) (by omega) )
  ·exact wkr [sb h0,se (zah (fun n=>[iv n]) hx rfl),sc (zb0 x want),sb h1] kr
noncomputable def zrn (l:List Int) (i:Nat) (want:Int):Cfg:=zat B.ref14_result 0 [(1,isl l),(6,iv want),(7,iv 2),(12,isl l),(13,iv ((l.map fun n=>[iv n]).length:Nat)),(14,iv (i:Nat))] []
def zfT (l:List Int):List (Int)→Nat→(Int)→Int × Int
 | [],i,want =>
  zeQ l want 2 l 0
 | x::r,i,want =>
  bif x != 0 then
   zfT l r (i+1) (x)
  else
   zfT l r (i+1) (want)
theorem zjc (l:List Int) (hl:zad l):∀ (kk i:Nat) (want:Int),i+kk=(l).length→Good E0 B.ref14_result [] (zrn l i want) (Shut 0 fun r h=>r=(.tup [iv (zfT l ((l).drop i) i want).1,iv (zfT l ((l).drop i) i want).2])∧h=[]):=by
 intro kk
 induction kk with
 | zero =>
  intro i want hi
  have h0:decide (((i:Nat):Int) < (((l.map fun n=>[iv n]).length:Nat):Int))=false:=by simp;omega
  have e0:(l).drop i=[]:=List.drop_of_length_le (by omega)
  rw [e0]
  simp only [zfT]
  refine zaa ?_
  exact wkl [sb h0] [6,7,54,55,56] 0 kr (zeI l want 2 hl l.length 0 (by simp))
 | succ kk ih =>
  intro i want hi
  obtain ⟨x,hx⟩:=zax (l:=l) (i:=i) (by omega)
  have h0:decide (((i:Nat):Int) < (((l.map fun n=>[iv n]).length:Nat):Int))=true:=by simp;omega
  have hw:=zao i zm4
  rw [zbD hx]
  simp only [zfT]
  refine zaa ?_
  cases h1:x != 0
  ·exact wkl [sb h0,se (zah (fun n=>[iv n]) hx rfl),sb h1,si hw] [1,6,7,12,13,14] 0 kr (ih (i+1) want (by omega) )
  ·exact wkl [sb h0,se (zah (fun n=>[iv n]) hx rfl),sb h1,si hw] [1,6,7,12,13,14] 0 kr (ih (i+1) x (by omega) )
def zh9 (e:X) (l:List Int):Int × Int :=
 bif e.kind==6 then
  (2,0)
 else
  bif e.kind==3 then
   zeQ l 2 2 l 0
  else
   bif e.kind==5 then
    bif decide (e.op≤2) then
     zeQ l 2 2 l 0
    else
     bif e.kind==4 then
      zeQ l 1 1 l 0
     else
      bif decide (9≤e.op) then
       zeQ l 1 1 l 0
      else
       zfT l l 0 (-1)
   else
    bif e.kind==4 then
     zeQ l 1 1 l 0
    else
     zfT l l 0 (-1)
theorem zlZ (e:X) (l:List Int) (hl:zad l):zac E0 S.ref14_result [e.av,isl l] [] (.tup [iv (zh9 e l).1,iv (zh9 e l).2]) []:=by
 unfold zh9
 cases h1:e.kind==6
 ·cases h2:e.kind==3
  ·cases h3:e.kind==5
   ·cases h4:e.kind==4
    ·exact wkc At.ref14_result [sb h1,sg h2,sb h3,sg h4,sb h3] [1,6,7,12,13,14] 0 kr (by have ih:=zjc l hl l.length 0 (-1) (by simp);exact ih)
    ·exact wkc At.ref14_result [sb h1,sg h2,sb h3,sb h4] [6,7,54,55,56] 0 kr zpi
   ·cases h5:decide (e.op≤2)
    ·cases h6:e.kind==4
     ·cases h7:decide (9≤e.op)
      ·exact wkc At.ref14_result [sb h1,sg h2,sg h3,sb h5,sg h6,sg h3,sb h7] [1,6,7,12,13,14] 0 kr (by have ih:=zjc l hl l.length 0 (-1) (by simp);exact ih)
      ·exact wkc At.ref14_result [sb h1,sg h2,sg h3,sb h5,sg h6,sg h3,sb h7] [6,7,54,55,56] 0 kr zpi
     ·exact wkc At.ref14_result [sb h1,sg h2,sg h3,sb h5,sb h6] [6,7,54,55,56] 0 kr zpi
    ·exact wkc At.ref14_result [sb h1,sg h2,sg h3,sb h5] [6,7,54,55,56] 0 kr (by have ih:=zeI l 2 2 hl l.length 0 (by simp);exact ih)
  ·exact wkc At.ref14_result [sb h1,sb h2] [6,7,54,55,56] 0 kr (by have ih:=zeI l 2 2 hl l.length 0 (by simp);exact ih)
 ·exact wk At.ref14_result [sb h1] kr
end Go.AM
namespace Go.AM
set_option maxRecDepth 100000
set_option maxHeartbeats 1000000
set_option linter.unusedSimpArgs false
set_option linter.unusedVariables false
def znU (kind op:Int) (xs:List X) (qs:List Qy) (st:Bool) (it wh:List X):Bool :=
 bif kind==1 then
  bif (↑(zab xs).length:Int)==0 then
   (↑(zae qs).length:Int)==0
  else
   false
 else
  bif kind==2 then
   bif (↑(zab xs).length:Int)==0 then
    (↑(zae qs).length:Int)==0
   else
    false
  else
   bif kind==3 then
    bif (↑(zab xs).length:Int)==1 then
     (↑(zae qs).length:Int)==0
    else
     false
   else
    bif kind==4 then
     bif (↑(zab xs).length:Int)==1 then
      (↑(zae qs).length:Int)==0
     else
      false
    else
     bif kind==6 then
      bif (↑(zab xs).length:Int)==1 then
       (↑(zae qs).length:Int)==0
      else
       false
     else
      bif kind==5 then
       bif decide (op < 1) then
        false
       else
        bif decide (13 < op) then
         false
        else
         bif (↑(zab xs).length:Int)==2 then
          (↑(zae qs).length:Int)==0
         else
          false
      else
       bif kind==7 then
        bif (↑(zab xs).length:Int)==3 then
         (↑(zae qs).length:Int)==0
        else
         false
       else
        bif kind==8 then
         bif (↑(zab xs).length:Int)==0 then
          bif (↑(zae qs).length:Int)==1 then
           bif (↑(zab it).length:Int)==0 then
            decide ((↑(zab wh).length:Int)≤1)
           else
            false
          else
           false
         else
          false
        else
         bif kind==9 then
          bif (↑(zab xs).length:Int)==0 then
           bif (↑(zae qs).length:Int)==1 then
            bif (↑(zab it).length:Int)==0 then
             decide ((↑(zab wh).length:Int)≤1)
            else
             false
           else
            false
          else
           false
         else
          bif kind==10 then
           bif (↑(zab xs).length:Int)==0 then
            bif (↑(zae qs).length:Int)==1 then
             bif (↑(zab it).length:Int)==1 then
              decide ((↑(zab wh).length:Int)≤1)
             else
              false
            else
             false
           else
            false
          else
           bif kind==11 then
            bif (↑(zab xs).length:Int)==0 then
             bif (↑(zae qs).length:Int)==1 then
              bif (↑(zab it).length:Int)==1 then
               decide ((↑(zab wh).length:Int)≤1)
              else
               false
             else
              false
            else
             false
           else
            bif kind==12 then
             bif (↑(zab xs).length:Int)==0 then
              bif (↑(zae qs).length:Int)==1 then
               bif (↑(zab it).length:Int)==1 then
                decide ((↑(zab wh).length:Int)≤1)
               else
                false
              else
               false
             else
              false
            else
             false
theorem zk0 (kind op:Int) (xs:List X) (qs:List Qy) (st:Bool) (it wh:List X) (nt:Bool) (val:V) (tn nm:Str) (fm:Str) (hq:qs[0]?=some (Qy.mk st it fm wh)):zac E0 S.ref11_Shape [X.av (.mk kind op nt val tn nm xs qs)] [] (bv (znU kind op xs qs st it wh)) []:=by
 unfold znU
 cases h1:kind==1
 ·cases h2:kind==2
  ·cases h3:kind==3
   ·cases h4:kind==4
    ·cases h5:kind==6
     ·cases h6:kind==5
      ·cases h7:kind==7
       ·cases h8:kind==8
        ·cases h9:kind==9
         ·cases h10:kind==10
          ·cases h11:kind==11
           ·cases h12:kind==12
            ·exact wk At.ref11_Shape [sb h1,sb h2,sb h3,sb h4,sb h5,sb h6,sb h7,sb h8,sb h9,sb h10,sb h11,sb h12] kr
            ·cases h13:(↑(zab xs).length:Int)==0
             ·exact wk At.ref11_Shape [sb h1,sb h2,sb h3,sb h4,sb h5,sb h6,sb h7,sb h8,sb h9,sb h10,sb h11,sb h12,sb (rfl:false=false),sb h13] kr
             ·cases h14:(↑(zae qs).length:Int)==1
              ·exact wk At.ref11_Shape [sb h1,sb h2,sb h3,sb h4,sb h5,sb h6,sb h7,sb h8,sb h9,sb h10,sb h11,sb h12,sb (rfl:false=false),sg h13,sb h14] kr
              ·cases h15:(↑(zab it).length:Int)==1
               ·exact wk At.ref11_Shape [sb h1,sb h2,sb h3,sb h4,sb h5,sb h6,sb h7,sb h8,sb h9,sb h10,sb h11,sb h12,sb (rfl:false=false),sg h13,sg h14,se (zaT hq),sb h15] kr
               ·exact wk At.ref11_Shape [sb h1,sb h2,sb h3,sb h4,sb h5,sb h6,sb h7,sb h8,sb h9,sb h10,sb h11,sb h12,sb (rfl:false=false),sg h13,sg h14,se (zaT hq),sg h15,se (zaT hq)] kr
           ·cases h16:(↑(zab xs).length:Int)==0
            ·exact wk At.ref11_Shape [sb h1,sb h2,sb h3,sb h4,sb h5,sb h6,sb h7,sb h8,sb h9,sb h10,sb h11,sb (rfl:false=false),sb h16] kr
            ·cases h17:(↑(zae qs).length:Int)==1
             ·exact wk At.ref11_Shape [sb h1,sb h2,sb h3,sb h4,sb h5,sb h6,sb h7,sb h8,sb h9,sb h10,sb h11,sb (rfl:false=false),sg h16,sb h17] kr
             ·cases h18:(↑(zab it).length:Int)==1
              ·exact wk At.ref11_Shape [sb h1,sb h2,sb h3,sb h4,sb h5,sb h6,sb h7,sb h8,sb h9,sb h10,sb h11,sb (rfl:false=false),sg h16,sg h17,se (zaT hq),sb h18] kr
              ·exact wk At.ref11_Shape [sb h1,sb h2,sb h3,sb h4,sb h5,sb h6,sb h7,sb h8,sb h9,sb h10,sb h11,sb (rfl:false=false),sg h16,sg h17,se (zaT hq),sg h18,se (zaT hq)] kr
          ·cases h19:(↑(zab xs).length:Int)==0
           ·exact wk At.ref11_Shape [sb h1,sb h2,sb h3,sb h4,sb h5,sb h6,sb h7,sb h8,sb h9,sb h10,sb (rfl:false=false),sb h19] kr
           ·cases h20:(↑(zae qs).length:Int)==1
            ·exact wk At.ref11_Shape [sb h1,sb h2,sb h3,sb h4,sb h5,sb h6,sb h7,sb h8,sb h9,sb h10,sb (rfl:false=false),sg h19,sb h20] kr
            ·cases h21:(↑(zab it).length:Int)==1
             ·exact wk At.ref11_Shape [sb h1,sb h2,sb h3,sb h4,sb h5,sb h6,sb h7,sb h8,sb h9,sb h10,sb (rfl:false=false),sg h19,sg h20,se (zaT hq),sb h21] kr
             ·exact wk At.ref11_Shape [sb h1,sb h2,sb h3,sb h4,sb h5,sb h6,sb h7,sb h8,sb h9,sb h10,sb (rfl:false=false),sg h19,sg h20,se (zaT hq),sg h21,se (zaT hq)] kr
         ·cases h22:(↑(zab xs).length:Int)==0
          ·exact wk At.ref11_Shape [sb h1,sb h2,sb h3,sb h4,sb h5,sb h6,sb h7,sb h8,sb h9,sb (rfl:false=false),sb h22] kr
          ·cases h23:(↑(zae qs).length:Int)==1
           ·exact wk At.ref11_Shape [sb h1,sb h2,sb h3,sb h4,sb h5,sb h6,sb h7,sb h8,sb h9,sb (rfl:false=false),sg h22,sb h23] kr
           ·cases h24:(↑(zab it).length:Int)==0
            ·exact wk At.ref11_Shape [sb h1,sb h2,sb h3,sb h4,sb h5,sb h6,sb h7,sb h8,sb h9,sb (rfl:false=false),sg h22,sg h23,se (zaT hq),sb h24] kr
            ·exact wk At.ref11_Shape [sb h1,sb h2,sb h3,sb h4,sb h5,sb h6,sb h7,sb h8,sb h9,sb (rfl:false=false),sg h22,sg h23,se (zaT hq),sg h24,se (zaT hq)] kr
        ·cases h25:(↑(zab xs).length:Int)==0
         ·exact wk At.ref11_Shape [sb h1,sb h2,sb h3,sb h4,sb h5,sb h6,sb h7,sb h8,sb (rfl:false=false),sb h25] kr
         ·cases h26:(↑(zae qs).length:Int)==1
          ·exact wk At.ref11_Shape [sb h1,sb h2,sb h3,sb h4,sb h5,sb h6,sb h7,sb h8,sb (rfl:false=false),sg h25,sb h26] kr
          ·cases h27:(↑(zab it).length:Int)==0
           ·exact wk At.ref11_Shape [sb h1,sb h2,sb h3,sb h4,sb h5,sb h6,sb h7,sb h8,sb (rfl:false=false),sg h25,sg h26,se (zaT hq),sb h27] kr
           ·exact wk At.ref11_Shape [sb h1,sb h2,sb h3,sb h4,sb h5,sb h6,sb h7,sb h8,sb (rfl:false=false),sg h25,sg h26,se (zaT hq),sg h27,se (zaT hq)] kr
       ·cases h28:(↑(zab xs).length:Int)==3
        ·exact wk At.ref11_Shape [sb h1,sb h2,sb h3,sb h4,sb h5,sb h6,sb h7,sb (rfl:true=true),sb h28] kr
        ·exact wk At.ref11_Shape [sb h1,sb h2,sb h3,sb h4,sb h5,sb h6,sb h7,sb (rfl:true=true),sg h28] kr
      ·cases h29:decide (op < 1)
       ·cases h30:decide (13 < op)
        ·cases h31:(↑(zab xs).length:Int)==2
         ·exact wk At.ref11_Shape [sb h1,sb h2,sb h3,sb h4,sb h5,sb h6,sg h29,sb h30,sb (rfl:true=true),sb h31] kr
         ·exact wk At.ref11_Shape [sb h1,sb h2,sb h3,sb h4,sb h5,sb h6,sg h29,sb h30,sb (rfl:true=true),sg h31] kr
        ·exact wk At.ref11_Shape [sb h1,sb h2,sb h3,sb h4,sb h5,sb h6,sg h29,sb h30] kr
       ·exact wk At.ref11_Shape [sb h1,sb h2,sb h3,sb h4,sb h5,sb h6,sb h29] kr
     ·cases h32:(↑(zab xs).length:Int)==1
      ·exact wk At.ref11_Shape [sb h1,sb h2,sb h3,sb h4,sb h5,sb (rfl:true=true),sb h32] kr
      ·exact wk At.ref11_Shape [sb h1,sb h2,sb h3,sb h4,sb h5,sb (rfl:true=true),sg h32] kr
    ·cases h33:(↑(zab xs).length:Int)==1
     ·exact wk At.ref11_Shape [sb h1,sb h2,sb h3,sb h4,sb (rfl:true=true),sb h33] kr
     ·exact wk At.ref11_Shape [sb h1,sb h2,sb h3,sb h4,sb (rfl:true=true),sg h33] kr
   ·cases h34:(↑(zab xs).length:Int)==1
    ·exact wk At.ref11_Shape [sb h1,sb h2,sb h3,sb (rfl:true=true),sb h34] kr
    ·exact wk At.ref11_Shape [sb h1,sb h2,sb h3,sb (rfl:true=true),sg h34] kr
  ·cases h35:(↑(zab xs).length:Int)==0
   ·exact wk At.ref11_Shape [sb h1,sb h2,sb h35] kr
   ·exact wk At.ref11_Shape [sb h1,sb h2,sg h35] kr
 ·cases h36:(↑(zab xs).length:Int)==0
  ·exact wk At.ref11_Shape [sb h1,sb h36] kr
  ·exact wk At.ref11_Shape [sb h1,sg h36] kr
def zns (kind op:Int) (xs:List X):Bool :=
 bif kind==1 then
  bif (↑(zab xs).length:Int)==0 then
   (↑(zae []).length:Int)==0
  else
   false
 else
  bif kind==2 then
   bif (↑(zab xs).length:Int)==0 then
    (↑(zae []).length:Int)==0
   else
    false
  else
   bif kind==3 then
    bif (↑(zab xs).length:Int)==1 then
     (↑(zae []).length:Int)==0
    else
     false
   else
    bif kind==4 then
     bif (↑(zab xs).length:Int)==1 then
      (↑(zae []).length:Int)==0
     else
      false
    else
     bif kind==6 then
      bif (↑(zab xs).length:Int)==1 then
       (↑(zae []).length:Int)==0
      else
       false
     else
      bif kind==5 then
       bif decide (op < 1) then
        false
       else
        bif decide (13 < op) then
         false
        else
         bif (↑(zab xs).length:Int)==2 then
          (↑(zae []).length:Int)==0
         else
          false
      else
       bif kind==7 then
        bif (↑(zab xs).length:Int)==3 then
         (↑(zae []).length:Int)==0
        else
         false
       else
        bif kind==8 then
         bif (↑(zab xs).length:Int)==0 then
          false
         else
          false
        else
         bif kind==9 then
          bif (↑(zab xs).length:Int)==0 then
           false
          else
           false
         else
          bif kind==10 then
           bif (↑(zab xs).length:Int)==0 then
            false
           else
            false
          else
           bif kind==11 then
            bif (↑(zab xs).length:Int)==0 then
             false
            else
             false
           else
            bif kind==12 then
             bif (↑(zab xs).length:Int)==0 then
              false
             else
              false
            else
             false
theorem zkS (kind op:Int) (xs:List X) (nt:Bool) (val:V) (tn nm:Str):zac E0 S.ref11_Shape [X.av (.mk kind op nt val tn nm xs [])] [] (bv (zns kind op xs)) []:=by
 unfold zns
 cases h1:kind==1
 ·cases h2:kind==2
  ·cases h3:kind==3
   ·cases h4:kind==4
    ·cases h5:kind==6
     ·cases h6:kind==5
      ·cases h7:kind==7
       ·cases h8:kind==8
        ·cases h9:kind==9
         ·cases h10:kind==10
          ·cases h11:kind==11
           ·cases h12:kind==12
            ·exact wk At.ref11_Shape [sb h1,sb h2,sb h3,sb h4,sb h5,sb h6,sb h7,sb h8,sb h9,sb h10,sb h11,sb h12] kr
            ·cases h13:(↑(zab xs).length:Int)==0
             ·exact wk At.ref11_Shape [sb h1,sb h2,sb h3,sb h4,sb h5,sb h6,sb h7,sb h8,sb h9,sb h10,sb h11,sb h12,sb (rfl:false=false),sb h13] kr
             ·exact wk At.ref11_Shape [sb h1,sb h2,sb h3,sb h4,sb h5,sb h6,sb h7,sb h8,sb h9,sb h10,sb h11,sb h12,sb (rfl:false=false),sg h13,sb (rfl:false=false)] kr
           ·cases h14:(↑(zab xs).length:Int)==0
            ·exact wk At.ref11_Shape [sb h1,sb h2,sb h3,sb h4,sb h5,sb h6,sb h7,sb h8,sb h9,sb h10,sb h11,sb (rfl:false=false),sb h14] kr
            ·exact wk At.ref11_Shape [sb h1,sb h2,sb h3,sb h4,sb h5,sb h6,sb h7,sb h8,sb h9,sb h10,sb h11,sb (rfl:false=false),sg h14,sb (rfl:false=false)] kr
          ·cases h15:(↑(zab xs).length:Int)==0
           ·exact wk At.ref11_Shape [sb h1,sb h2,sb h3,sb h4,sb h5,sb h6,sb h7,sb h8,sb h9,sb h10,sb (rfl:false=false),sb h15] kr
           ·exact wk At.ref11_Shape [sb h1,sb h2,sb h3,sb h4,sb h5,sb h6,sb h7,sb h8,sb h9,sb h10,sb (rfl:false=false),sg h15,sb (rfl:false=false)] kr
         ·cases h16:(↑(zab xs).length:Int)==0
          ·exact wk At.ref11_Shape [sb h1,sb h2,sb h3,sb h4,sb h5,sb h6,sb h7,sb h8,sb h9,sb (rfl:false=false),sb h16] kr
          ·exact wk At.ref11_Shape [sb h1,sb h2,sb h3,sb h4,sb h5,sb h6,sb h7,sb h8,sb h9,sb (rfl:false=false),sg h16,sb (rfl:false=false)] kr
        ·cases h17:(↑(zab xs).length:Int)==0
         ·exact wk At.ref11_Shape [sb h1,sb h2,sb h3,sb h4,sb h5,sb h6,sb h7,sb h8,sb (rfl:false=false),sb h17] kr
         ·exact wk At.ref11_Shape [sb h1,sb h2,sb h3,sb h4,sb h5,sb h6,sb h7,sb h8,sb (rfl:false=false),sg h17,sb (rfl:false=false)] kr
       ·cases h18:(↑(zab xs).length:Int)==3
        ·exact wk At.ref11_Shape [sb h1,sb h2,sb h3,sb h4,sb h5,sb h6,sb h7,sb (rfl:true=true),sb h18] kr
        ·exact wk At.ref11_Shape [sb h1,sb h2,sb h3,sb h4,sb h5,sb h6,sb h7,sb (rfl:true=true),sg h18] kr
      ·cases h19:decide (op < 1)
       ·cases h20:decide (13 < op)
        ·cases h21:(↑(zab xs).length:Int)==2
         ·exact wk At.ref11_Shape [sb h1,sb h2,sb h3,sb h4,sb h5,sb h6,sg h19,sb h20,sb (rfl:true=true),sb h21] kr
         ·exact wk At.ref11_Shape [sb h1,sb h2,sb h3,sb h4,sb h5,sb h6,sg h19,sb h20,sb (rfl:true=true),sg h21] kr
        ·exact wk At.ref11_Shape [sb h1,sb h2,sb h3,sb h4,sb h5,sb h6,sg h19,sb h20] kr
       ·exact wk At.ref11_Shape [sb h1,sb h2,sb h3,sb h4,sb h5,sb h6,sb h19] kr
     ·cases h22:(↑(zab xs).length:Int)==1
      ·exact wk At.ref11_Shape [sb h1,sb h2,sb h3,sb h4,sb h5,sb (rfl:true=true),sb h22] kr
      ·exact wk At.ref11_Shape [sb h1,sb h2,sb h3,sb h4,sb h5,sb (rfl:true=true),sg h22] kr
    ·cases h23:(↑(zab xs).length:Int)==1
     ·exact wk At.ref11_Shape [sb h1,sb h2,sb h3,sb h4,sb (rfl:true=true),sb h23] kr
     ·exact wk At.ref11_Shape [sb h1,sb h2,sb h3,sb h4,sb (rfl:true=true),sg h23] kr
   ·cases h24:(↑(zab xs).length:Int)==1
    ·exact wk At.ref11_Shape [sb h1,sb h2,sb h3,sb (rfl:true=true),sb h24] kr
    ·exact wk At.ref11_Shape [sb h1,sb h2,sb h3,sb (rfl:true=true),sg h24] kr
  ·cases h25:(↑(zab xs).length:Int)==0
   ·exact wk At.ref11_Shape [sb h1,sb h2,sb h25] kr
   ·exact wk At.ref11_Shape [sb h1,sb h2,sg h25] kr
 ·cases h26:(↑(zab xs).length:Int)==0
  ·exact wk At.ref11_Shape [sb h1,sb h26] kr
  ·exact wk At.ref11_Shape [sb h1,sg h26] kr
def zkn (e:X):Bool:=match e.sub with
 | []=>zns e.kind e.op e.args
 | q::r=>znU e.kind e.op e.args (q::r) q.star q.items q.wh
theorem zbk (e:X):Pure S.ref11_Shape [e.av] (bv (zkn e)):=by
 cases e with
 | mk kind op nt val tn nm xs qs =>
  cases qs with
  | nil=>exact zkS kind op xs nt val tn nm
  | cons q r=>cases q with
   | mk st it fm wh=>exact zk0 kind op xs _ st it wh nt val tn nm fm rfl
def zfS (e:X):Bool:=match e.sub with
 | []=>za8 e.kind e.op e.args
 | q::r=>zaH e.kind e.op e.args (q::r) q.items q.wh
theorem zbr (e:X):Pure S.scope_Formed [e.av] (bv (zfS e)):=by
 cases e with
 | mk kind op nt val tn nm xs qs =>
  cases qs with
  | nil=>exact zkx kind op xs nt val tn nm
  | cons q r=>cases q with
   | mk st it fm wh=>exact zkw kind op xs _ it wh nt val tn nm st fm rfl
theorem zng (frs:List Fr) (q n:Str) (k:Nat) (f:Fr) (els:Int × Int × Bool):∀ (c:List Col) (j:Nat),(zc2 frs q n k f els c j=els)∨(∃ (i:Nat) (x:Col),zc2 frs q n k f els c j=(((k:Nat):Int),((j+i:Nat):Int),true)∧c[i]?=some x)
 | [],j=>.inl rfl
 | x::r,j=>by
  rcases zng frs q n k f els r (j+1) with h|⟨i,y,h,hy⟩
  ·simp only [zc2,Bool.cond_eq_ite]
   split
   ·exact .inr ⟨0,x,rfl,rfl⟩
   ·exact .inl h
  ·simp only [zc2,Bool.cond_eq_ite]
   split
   ·exact .inr ⟨0,x,rfl,rfl⟩
   ·exact .inr ⟨i+1,y,by rw [h];congr 2;omega,hy⟩
theorem zoS (frs:List Fr) (q n:Str):∀ (k:Nat),k≤frs.length→(rres frs q n k).2.2=true→∃ (i j:Nat) (f:Fr) (c:Col),rres frs q n k=((i:Int),(j:Int),true)∧frs[i]?=some f∧f.cols[j]?=some c
 | 0,_,h=>by simp [rres] at h
 | k+1,hk,h=>by
  have ih:=zoS frs q n k (by omega)
  have hx:=zlY (l:=frs) (k:=k) za5 (by omega)
  have hi:=zng frs q n k (frs.getD k za5) (rres frs q n k) (frs.getD k za5).cols 0
  simp only [rres,Bool.cond_eq_ite] at h ⊢
  have key:(zc2 frs q n k (frs.getD k za5) (rres frs q n k) (frs.getD k za5).cols 0).2.2=true→∃ (i j:Nat) (f:Fr) (c:Col),zc2 frs q n k (frs.getD k za5) (rres frs q n k) (frs.getD k za5).cols 0=((i:Int),(j:Int),true)∧frs[i]?=some f∧f.cols[j]?=some c:=by
   intro h
   rcases hi with e|⟨i,y,e,hy⟩
   ·rw [e] at h ⊢;exact ih h
   ·exact ⟨k,0+i,_,y,e,hx,by simpa using hy⟩
  revert h
  repeat' split
  all_goals first|exact ih|exact key
end Go.AM
namespace Go.AM
set_option maxRecDepth 100000
set_option maxHeartbeats 1000000
set_option linter.unusedSimpArgs false
set_option linter.unusedVariables false
def cNull:Col:=⟨⟨#[]⟩,0,false,false⟩
def rFr (frs:List Fr) (q n:Str):Fr:=frs.getD (zbg frs q n).1.toNat za5
def rCol (frs:List Fr) (q n:Str):Col:=(rFr frs q n).cols.getD (zbg frs q n).2.1.toNat cNull
theorem zhK {frs:List Fr} {q n:Str} (h:(zbg frs q n).2.2=true):∃ (i j:Nat),zbg frs q n=((i:Int),(j:Int),true)∧frs[i]?=some (rFr frs q n)∧(rFr frs q n).cols[j]?=some (rCol frs q n):=by
 have h':=h
 unfold zbg at h'
 obtain ⟨i,j,f,c,e,hf,hc⟩:=zoS frs q n frs.length (Nat.le_refl _) h'
 have e':zbg frs q n=((i:Int),(j:Int),true):=e
 have e1:rFr frs q n=f:=by simp [rFr,e',List.getD_eq_getElem?_getD,hf]
 have e2:rCol frs q n=c:=by simp [rCol,e1,e',List.getD_eq_getElem?_getD,hc]
 exact ⟨i,j,e',by rw [e1];exact hf,by rw [e1,e2];exact hc⟩
theorem zn5 (frs:List Fr) (q n:Str) (h:(zbg frs q n).2.2=true):ElAt (frs.map Fr.cells) (zbg frs q n).1 (rFr frs q n).cells 4:=by
 obtain ⟨i,j,e,h1,h2⟩:=zhK h
 rw [show (zbg frs q n).1=(i:Int) by rw [e]]
 exact zah Fr.cells h1 rfl
theorem zo6 (frs:List Fr) (q n:Str) (h:(zbg frs q n).2.2=true):ElAt ((rFr frs q n).cols.map Col.cells) (zbg frs q n).2.1 (rCol frs q n).cells 4:=by
 obtain ⟨i,j,e,h1,h2⟩:=zhK h
 rw [show (zbg frs q n).2.1=(j:Int) by rw [e]]
 exact zah Col.cells h2 rfl
def znh (f:X→Int × Int) (x:X):Int :=
 bif (f x).snd != 0 then
  (f x).snd
 else
  bif !zgu (f x).fst 2 then
   5
  else
   0
theorem ziw (f:X→Int × Int) (x:X) (r:List X) (frs:List Fr) (tb:List Tb) (hn:((((zab (x::r)).length:Nat):Int)==0)=false) (hf:Pure S.ref14_Type [x.av,fsl frs,tsl tb] (.tup [iv (f x).1,iv (f x).2])):zac E0 S.ref14_Condition [xsl (x::r),fsl frs,tsl tb] [] (iv (znh f x)) []:=by
 unfold znh
 cases h1:(f x).snd != 0
 ·cases h2:!zgu (f x).fst 2
  ·exact wk At.ref14_Condition [sb (rfl:false=false),se (zbo (l:=x::r) (i:=0) (x:=x) rfl),sc hf,sb h1,sc (zb0 ((f x).fst) 2),sb h2] kr
  ·exact wk At.ref14_Condition [sb (rfl:false=false),se (zbo (l:=x::r) (i:=0) (x:=x) rfl),sc hf,sb h1,sc (zb0 ((f x).fst) 2),sb h2] kr
 ·exact wk At.ref14_Condition [sb (rfl:false=false),se (zbo (l:=x::r) (i:=0) (x:=x) rfl),sc hf,sb h1] kr
def zqu :Int :=
 0
theorem zi2  (frs:List Fr) (tb:List Tb):zac E0 S.ref14_Condition [xsl [],fsl frs,tsl tb] [] (iv zqu) []:=by
 exact wk At.ref14_Condition [sb (rfl:true=true)] kr
noncomputable def zhU (f:X→Int × Int) (e:X) (frs:List Fr) (tb:List Tb) (i:Nat) (l:List Int):Cfg:=zat B.ref14_Type 0 [(1,fsl frs),(2,tsl tb),(3,.p 0 0),(11,.own 1 l.length),(60,xsl e.args),(61,iv ((zab e.args).length:Nat)),(62,iv (i:Nat))] [.box e.cells,.row Ty.int (l.map fun n=>[iv n]) false]
def rtyL (f:X→Int × Int) (e:X) (frs:List Fr) (tb:List Tb):List (X)→Nat→(List Int)→Int × Int
 | [],i,l =>
  ((zh9 e l).fst,(zh9 e l).snd)
 | x::r,i,l =>
  bif (f x).snd != 0 then
   (0,(f x).snd)
  else
   rtyL f e frs tb r (i+1) (l++[(f x).fst])
theorem zoI (f:X→Int × Int) (e:X) (frs:List Fr) (tb:List Tb) (hl:zad e.args) (hf:∀ x∈e.args,Pure S.ref14_Type [x.av,fsl frs,tsl tb] (.tup [iv (f x).1,iv (f x).2])):∀ (kk i:Nat) (l:List Int),i+kk=(e.args).length→l.length≤i→Good E0 B.ref14_Type [] (zhU f e frs tb i l) (Shut 0 fun r h=>r=(.tup [iv (rtyL f e frs tb ((e.args).drop i) i l).1,iv (rtyL f e frs tb ((e.args).drop i) i l).2])∧h=[]):=by
 intro kk
 induction kk with
 | zero =>
  intro i l hi ho
  have h0:decide (((i:Nat):Int) < (((zab e.args).length:Nat):Int))=false:=by simp;omega
  have e0:(e.args).drop i=[]:=List.drop_of_length_le (by omega)
  rw [e0]
  simp only [rtyL]
  refine zaa ?_
  exact wkr [sb h0,skx ((True∧True∧True∧True∧True∧True∧True∧True∧True∧True∧True)∧l.length=(List.map (fun n=>[iv n]) l).length∧True) [] (zlZ e l (by first|assumption|(simp only [zad] at *;omega)))] kr
 | succ kk ih =>
  intro i l hi ho
  obtain ⟨x,hx⟩:=zax (l:=e.args) (i:=i) (by omega)
  have h0:decide (((i:Nat):Int) < (((zab e.args).length:Nat):Int))=true:=by simp;omega
  have hw:=zao i (by first|omega|(simp only [zad,Few] at *;omega))
  have hfx:=hf x (List.mem_of_getElem? hx)
  rw [zbD hx]
  simp only [rtyL]
  refine zaa ?_
  cases h1:(f x).snd != 0
  ·exact wkl (c':=(Cfg.mk (zhU f e frs tb (i+1) (l++[(f x).fst])).n (zhU f e frs tb (i+1) (l++[(f x).fst])).todo [(1,AV.sl (List.map Fr.cells frs)),(2,AV.sl (List.map Tb.cells tb)),(3,AV.p 0 0),(11,AV.own 1 (List.map (fun n=>[iv n]) l++[[iv (f x).fst]]).length),(60,AV.sl (zab e.args)),(61,iv (↑(zab e.args).length:Int)),(62,iv (↑(i+1):Int))] [Blk.box [iv e.kind,iv e.op,bv e.not,iv e.val.kind,iv e.val.int,sv e.val.text,sv e.table,sv e.name,AV.sl (zab e.args),AV.sl (zae e.sub)],Blk.row Ty.int (List.map (fun n=>[iv n]) l++[[iv (f x).fst]]) false])) [sb h0,se (zbo hx),sc hfx,sb h1,sqx (AllLen [[iv (f x).fst]] 1∧l.length=(List.map (fun n=>[iv n]) l).length∧(((List.map (fun n=>[iv n]) l).length+[[iv (f x).fst]].length) * 8).le 140737488355328),si hw] [1,2,3,11,60,61,62] 2 kr (zav (show ([(1,AV.sl (List.map Fr.cells frs)),(2,AV.sl (List.map Tb.cells tb)),(3,AV.p 0 0),(11,AV.own 1 (List.map (fun n=>[iv n]) l++[[iv (f x).fst]]).length),(60,AV.sl (zab e.args)),(61,iv (↑(zab e.args).length:Int)),(62,iv (↑(i+1):Int))]:TS)=[(1,AV.sl (List.map Fr.cells frs)),(2,AV.sl (List.map Tb.cells tb)),(3,AV.p 0 0),(11,AV.own 1 (l++[(f x).fst]).length),(60,AV.sl (zab e.args)),(61,iv (↑(zab e.args).length:Int)),(62,iv (↑(i+1):Int))] by first|rfl|(simp;done)|(simp [X.cells,Qy.cells,V.cells,Col.cells,Rw.cells,Tb.cells,Fr.cells,Sch.cells,Tp.cells,Pl.cells,xCol,xLit,xBin,xNeg];done)) (show ([Blk.box [iv e.kind,iv e.op,bv e.not,iv e.val.kind,iv e.val.int,sv e.val.text,sv e.table,sv e.name,AV.sl (zab e.args),AV.sl (zae e.sub)],Blk.row Ty.int (List.map (fun n=>[iv n]) l++[[iv (f x).fst]]) false]:Heap)=[Blk.box [iv e.kind,iv e.op,bv e.not,iv e.val.kind,iv e.val.int,sv e.val.text,sv e.table,sv e.name,AV.sl (zab e.args),AV.sl (zae e.sub)],Blk.row Ty.int (List.map (fun n=>[iv n]) (l++[(f x).fst])) false] by first|rfl|(simp;done)|(simp [X.cells,Qy.cells,V.cells,Col.cells,Rw.cells,Tb.cells,Fr.cells,Sch.cells,Tp.cells,Pl.cells,xCol,xLit,xBin,xNeg];done)) (ih (i+1) (l++[(f x).fst]) (by omega) (by first|assumption|(simp;done)|(simp;omega)|omega|(simp at *;omega))))
  ·exact wkr [sb h0,se (zbo hx),sc hfx,sb h1] kr
noncomputable def L_rtqL (f:X→Int × Int) (cond:Int) (e:X) (q:Qy) (ins:List Fr) (tb:List Tb) (i:Nat) (item:Int):Cfg:=zat B.ref14_typeOfQuery 0 [(2,tsl tb),(3,.p 0 0),(8,.p 1 0),(11,fsl ins),(12,iv item),(35,xsl q.items),(36,iv ((zab q.items).length:Nat)),(37,iv (i:Nat))] [.box e.cells,.box q.cells]
def rtqL (f:X→Int × Int) (cond:Int) (e:X) (q:Qy) (ins:List Fr) (tb:List Tb):List (X)→Nat→(Int)→Int × Int
 | [],i,item =>
  bif cond != 0 then
   (0,cond)
  else
   bif e.kind==10 then
    bif !zgu item 1 then
     (0,5)
    else
     bif e.kind==8 then
      (2,0)
     else
      bif e.kind==11 then
       (item,0)
      else
       bif e.kind==12 then
        (item,0)
       else
        (1,0)
   else
    bif e.kind==8 then
     (2,0)
    else
     bif e.kind==11 then
      (item,0)
     else
      bif e.kind==12 then
       (item,0)
      else
       (1,0)
 | x::r,i,item =>
  bif (f x).snd != 0 then
   (0,(f x).snd)
  else
   rtqL f cond e q ins tb r (i+1) ((f x).fst)
theorem zoe (f:X→Int × Int) (cond:Int) (e:X) (q:Qy) (ins:List Fr) (tb:List Tb) (hl:zad q.items) (hf:∀ x∈q.items,Pure S.ref14_Type [x.av,fsl ins,tsl tb] (.tup [iv (f x).1,iv (f x).2])) (hc:Pure S.ref14_Condition [xsl q.wh,fsl ins,tsl tb] (iv cond)):∀ (kk i:Nat) (item:Int),i+kk=(q.items).length→Good E0 B.ref14_typeOfQuery [] (L_rtqL f cond e q ins tb i item) (Shut 0 fun r h=>r=(.tup [iv (rtqL f cond e q ins tb ((q.items).drop i) i item).1,iv (rtqL f cond e q ins tb ((q.items).drop i) i item).2])∧h=[]):=by
 intro kk
 induction kk with
 | zero =>
  intro i item hi
  have h0:decide (((i:Nat):Int) < (((zab q.items).length:Nat):Int))=false:=by simp;omega
  have e0:(q.items).drop i=[]:=List.drop_of_length_le (by omega)
  rw [e0]
  simp only [rtqL]
  refine zaa ?_
  cases h1:cond != 0
  ·cases h2:e.kind==10
   ·cases h3:e.kind==8
    ·cases h4:e.kind==11
     ·cases h5:e.kind==12
      ·exact wkr [sb h0,sc hc,sb h1,sb h2,sb h3,sb h4,sb h5] kr
      ·exact wkr [sb h0,sc hc,sb h1,sb h2,sb h3,sb h4,sb h5] kr
     ·exact wkr [sb h0,sc hc,sb h1,sb h2,sb h3,sb h4] kr
    ·exact wkr [sb h0,sc hc,sb h1,sb h2,sb h3] kr
   ·cases h6:!zgu item 1
    ·cases h7:e.kind==8
     ·cases h8:e.kind==11
      ·cases h9:e.kind==12
       ·exact wkr [sb h0,sc hc,sb h1,sg h2,sc (zb0 item 1),sb h6,sb h7,sb h8,sb h9] kr
       ·exact wkr [sb h0,sc hc,sb h1,sg h2,sc (zb0 item 1),sb h6,sb h7,sb h8,sb h9] kr
      ·exact wkr [sb h0,sc hc,sb h1,sg h2,sc (zb0 item 1),sb h6,sb h7,sb h8] kr
     ·exact wkr [sb h0,sc hc,sb h1,sg h2,sc (zb0 item 1),sb h6,sb h7] kr
    ·exact wkr [sb h0,sc hc,sb h1,sg h2,sc (zb0 item 1),sb h6] kr
  ·exact wkr [sb h0,sc hc,sb h1] kr
 | succ kk ih =>
  intro i item hi
  obtain ⟨x,hx⟩:=zax (l:=q.items) (i:=i) (by omega)
  have h0:decide (((i:Nat):Int) < (((zab q.items).length:Nat):Int))=true:=by simp;omega
  have hw:=zao i (by first|omega|(simp only [zad,Few] at *;omega))
  have hfx:=hf x (List.mem_of_getElem? hx)
  rw [zbD hx]
  simp only [rtqL]
  refine zaa ?_
  cases h1:(f x).snd != 0
  ·exact wkl [sb h0,se (zbo hx),sc hfx,sb h1,si hw] [2,3,8,11,12,35,36,37] 2 kr (ih (i+1) ((f x).fst) (by omega) )
  ·exact wkr [sb h0,se (zbo hx),sc hfx,sb h1] kr
end Go.AM
namespace Go.AM
set_option maxRecDepth 100000
set_option maxHeartbeats 1000000
set_option linter.unusedSimpArgs false
set_option linter.unusedVariables false
theorem zdl {p:Prop} (h:p:=by first|assumption|exact hfo.short|exact hfo.cols|exact hfo.wrap|(simp_all;done)):p:=h
theorem zlE {p:Prop} (h:p:=by first|assumption|exact hfo.short|exact hto.len|exact hto.cols):p:=h
structure FsOk (n:Nat) (frs:List Fr):Prop where
 len:frs.length+n≤1000000
 cols:∀ f∈frs,zad f.cols
 vals:∀ f∈frs,∀ v∈f.vals,v.small
structure TbOk (tb:List Tb):Prop where
 len:zad tb
 cols:∀ x∈tb,zad x.sch.cols
 rows:∀ x∈tb,x.rows.length≤1000
 vals:∀ x∈tb,∀ r∈x.rows,∀ v∈r.vals,v.small
theorem FsOk.short {n:Nat} {frs:List Fr} (h:FsOk n frs):zad frs:=by have:=h.len;simp only [zad];omega
theorem FsOk.wrap {n:Nat} {frs:List Fr} (h:FsOk n frs):IntKind.i64.wrap ((((frs.map Fr.cells).length:Nat):Int) - 1)=pm1 frs.length:=zrp _ _ h.short
theorem FsOk.less {n:Nat} {frs:List Fr} (h:FsOk (n+1) frs):FsOk n frs:=⟨by have:=h.len;omega,h.cols,h.vals⟩
def rtqF (f:X→Int × Int) (cond:Int) (e:X) (q:Qy) (frs:List Fr) (tb:List Tb):Int × Int :=
 bif !(zaL tb q.frm).snd then
  (0,3)
 else
  rtqL f cond e q (zcd frs (zaL tb q.frm).1 []) tb q.items 0 (1)
theorem zjq (f:X→Int × Int) (cond:Int) (e:X) (q:Qy) (frs:List Fr) (tb:List Tb) (n:Nat) (hq:e.sub[0]?=some q) (hfo:FsOk n frs) (hto:TbOk tb) (hl:zad q.items) (hf:∀ x∈q.items,Pure S.ref14_Type [x.av,fsl (zcd frs (zaL tb q.frm).1 []),tsl tb] (.tup [iv (f x).1,iv (f x).2])) (hc:Pure S.ref14_Condition [xsl q.wh,fsl (zcd frs (zaL tb q.frm).1 []),tsl tb] (iv cond)):zac E0 S.ref14_typeOfQuery [e.av,fsl frs,tsl tb] [] (.tup [iv (rtqF f cond e q frs tb).1,iv (rtqF f cond e q frs tb).2]) []:=by
 unfold rtqF
 cases h1:!(zaL tb q.frm).snd
 ·exact wkc At.ref14_typeOfQuery [se (zaT hq),sc (zbT tb q.frm zlE zlE),sb h1,sc (zfq frs ((zaL tb q.frm).fst) ([]) zlE)] [2,3,8,11,12,35,36,37] 2 kr (by have ih:=zoe f cond e q (zcd frs (zaL tb q.frm).1 []) tb hl hf hc q.items.length 0 1 (by simp);exact ih)
 ·exact wk At.ref14_typeOfQuery [se (zaT hq),sc (zbT tb q.frm zlE zlE),sb h1] kr
def zmT (f:X→Int × Int) (e:X) (frs:List Fr) (tb:List Tb):Int × Int :=
 bif !zkn e then
  (0,17)
 else
  bif e.kind==1 then
   (e.val.kind,0)
  else
   bif e.kind==2 then
    bif !(zbg frs e.table e.name).snd.snd then
     (0,3)
    else
     ((rCol frs e.table e.name).type,0)
   else
    rtyL f e frs tb e.args 0 ([])
theorem zlf (f:X→Int × Int) (e:X) (frs:List Fr) (tb:List Tb) (n:Nat) (hfo:FsOk n frs) (hl:zad e.args) (hn:decide ((0:Int) < (((zae e.sub).length:Nat):Int))=false) (hf:∀ x∈e.args,Pure S.ref14_Type [x.av,fsl frs,tsl tb] (.tup [iv (f x).1,iv (f x).2])):zac E0 S.ref14_Type [e.av,fsl frs,tsl tb] [] (.tup [iv (zmT f e frs tb).1,iv (zmT f e frs tb).2]) []:=by
 unfold zmT
 cases h1:!zkn e
 ·cases h2:e.kind==1
  ·cases h3:e.kind==2
   ·exact wkc At.ref14_Type (c':=(Cfg.mk (zhU f e frs tb 0 []).n (zhU f e frs tb 0 []).todo [(1,AV.sl (List.map Fr.cells frs)),(2,AV.sl (List.map Tb.cells tb)),(3,AV.p 0 0),(11,AV.nl),(60,AV.sl (zab e.args)),(61,iv (↑(zab e.args).length:Int)),(62,iv 0)] [Blk.box [iv e.kind,iv e.op,bv e.not,iv e.val.kind,iv e.val.int,sv e.val.text,sv e.table,sv e.name,AV.sl (zab e.args),AV.sl (zae e.sub)]])) [sc (zbk e),sb h1,sb h2,sb h3,sb hn] [1,2,3,11,60,61,62] 1 kr (za9 (c':=zhU f e frs tb 0 []) 11 Ty.int [1,2,3,11,60,61,62] 2 kr kr kr (by have ih:=zoI f e frs tb hl hf e.args.length 0 ([]) (by simp) (by simp);exact ih))
   ·cases h4:!(zbg frs e.table e.name).snd.snd
    ·exact wk At.ref14_Type [sc (zbk e),sb h1,sb h2,sb h3,sc (zdQ frs e.table e.name zdl zdl zdl),sb h4,se (zn5 frs e.table e.name zdl),se (zo6 frs e.table e.name zdl)] kr
    ·exact wk At.ref14_Type [sc (zbk e),sb h1,sb h2,sb h3,sc (zdQ frs e.table e.name zdl zdl zdl),sb h4] kr
  ·exact wk At.ref14_Type [sc (zbk e),sb h1,sb h2] kr
 ·exact wk At.ref14_Type [sc (zbk e),sb h1] kr
def zm0 (tq:Int × Int) (e:X) (frs:List Fr) (tb:List Tb):Int × Int :=
 bif !zkn e then
  (0,17)
 else
  bif e.kind==1 then
   (e.val.kind,0)
  else
   bif e.kind==2 then
    bif !(zbg frs e.table e.name).snd.snd then
     (0,3)
    else
     ((rCol frs e.table e.name).type,0)
   else
    (tq.fst,tq.snd)
theorem zle (tq:Int × Int) (e:X) (frs:List Fr) (tb:List Tb) (n:Nat) (hfo:FsOk n frs) (hn:decide ((0:Int) < (((zae e.sub).length:Nat):Int))=true) (hq:Pure S.ref14_typeOfQuery [e.av,fsl frs,tsl tb] (.tup [iv tq.1,iv tq.2])):zac E0 S.ref14_Type [e.av,fsl frs,tsl tb] [] (.tup [iv (zm0 tq e frs tb).1,iv (zm0 tq e frs tb).2]) []:=by
 unfold zm0
 cases h1:!zkn e
 ·cases h2:e.kind==1
  ·cases h3:e.kind==2
   ·exact wk At.ref14_Type [sc (zbk e),sb h1,sb h2,sb h3,sb hn,sc hq] kr
   ·cases h4:!(zbg frs e.table e.name).snd.snd
    ·exact wk At.ref14_Type [sc (zbk e),sb h1,sb h2,sb h3,sc (zdQ frs e.table e.name zdl zdl zdl),sb h4,se (zn5 frs e.table e.name zdl),se (zo6 frs e.table e.name zdl)] kr
    ·exact wk At.ref14_Type [sc (zbk e),sb h1,sb h2,sb h3,sc (zdQ frs e.table e.name zdl zdl zdl),sb h4] kr
  ·exact wk At.ref14_Type [sc (zbk e),sb h1,sb h2] kr
 ·exact wk At.ref14_Type [sc (zbk e),sb h1] kr
end Go.AM
namespace Go.AM
set_option maxRecDepth 100000
set_option maxHeartbeats 1000000
set_option linter.unusedSimpArgs false
set_option linter.unusedVariables false
theorem zaK {α:Type} {l:List α} (h:Few l):zad l:=by simp only [Few] at h;simp only [zad];omega
def zqE (f:X→Int × Int):List X→Int
 | []=>zqu
 | x::_=>znh f x
abbrev rIns (frs:List Fr) (tb:List Tb) (q:Qy):List Fr:=zcd frs (zaL tb q.frm).1 []
def zgr:Nat→X→List Fr→List Tb→Int × Int
 | 0,_,_,_=>(0,0)
 | n+1,e,frs,tb=>match e.sub with
  | []=>zmT (fun x=>zgr n x frs tb) e frs tb
  | q::_=>zm0 (rtqF (fun x=>zgr n x (rIns frs tb q) tb) (zqE (fun x=>zgr n x (rIns frs tb q) tb) q.wh) e q frs tb) e frs tb
theorem ze5 (tb:List Tb) (n:Str):∀ (l:List Tb) (i:Nat),(∀ x∈l,zad x.sch.cols)→zad (zgn tb n l i).1.cols
 | [],i,_=>by simp [zgn]
 | x::r,i,h=>by
  simp only [zgn,Bool.cond_eq_ite]
  split
  ·exact h x (by simp)
  ·exact ze5 tb n r _ (fun y hy=>h y (by simp [hy]))
theorem FsOk.ins {n:Nat} {frs:List Fr} (h:FsOk (n+1) frs) {tb:List Tb} (ht:TbOk tb) (q:Qy):FsOk n (rIns frs tb q):=by
 refine ⟨by have:=h.len;simp [zcd];omega,fun f hf=>?_,fun f hf=>?_⟩
 ·simp only [zcd,List.mem_append,List.mem_singleton] at hf
  rcases hf with hf|rfl
  ·exact h.cols f hf
  ·exact ze5 tb q.frm tb 0 ht.cols
 ·simp only [zcd,List.mem_append,List.mem_singleton] at hf
  rcases hf with hf|rfl
  ·exact h.vals f hf
  ·intro v hv;cases hv
theorem zhJ {f:X→Int × Int} {wh:List X} {frs:List Fr} {tb:List Tb} (hf:∀ x∈wh,Pure S.ref14_Type [x.av,fsl frs,tsl tb] (.tup [iv (f x).1,iv (f x).2])):Pure S.ref14_Condition [xsl wh,fsl frs,tsl tb] (iv (zqE f wh)):=by
 cases wh with
 | nil=>exact zi2 frs tb
 | cons x r=>exact ziw f x r frs tb (by first|(simp;done)|(simp;omega)) (hf x (by simp))
theorem zgZ:∀ (n:Nat) (e:X) (frs:List Fr) (tb:List Tb),XOk n e→FsOk n frs→TbOk tb→Pure S.ref14_Type [e.av,fsl frs,tsl tb] (.tup [iv (zgr n e frs tb).1,iv (zgr n e frs tb).2])
 | 0,e,frs,tb,h,_,_=>h.elim
 | n+1,e,frs,tb,h,hf,ht=>by
  obtain ⟨_,ha,hx,hs⟩:=h
  unfold zgr
  cases hsub:e.sub with
  | nil =>
   simp only
   exact zlf (fun x=>zgr n x frs tb) e frs tb (n+1) hf (Thin.short ha.1) (by simp [hsub]) (fun x hx'=>zgZ n x frs tb (hx x hx') hf.less ht)
  | cons q r =>
   simp only
   obtain ⟨h1,h2,h3⟩:=hs q (by simp [hsub])
   refine zle _ e frs tb (n+1) hf (by first|(simp [hsub];done)|(simp [hsub];omega)) ?_
   exact zjq _ _ e q frs tb (n+1) (by simp [hsub]) hf ht (Thin.short h1.1) (fun x hx'=>zgZ n x _ tb (h2 x hx') (hf.ins ht q) ht) (zhJ fun x hx'=>zgZ n x _ tb (h3 x hx') (hf.ins ht q) ht)
end Go.AM
