/-
  Contracts of the program's functions, part 2.
-/
import Derived.Test.YtgnchhjjbpgdcaaPartB
import Derived.Laws.Externs
import Derived.Lib.Bytealg
namespace Go.AM
set_option maxRecDepth 100000
set_option linter.unusedSimpArgs false
set_option linter.unusedVariables false

abbrev V.small (v : V) : Prop := v.text.size < 9223372036854775807
theorem small_e : (⟨#[]⟩ : Str).size < 9223372036854775807 := by decide
def validV (v : V) : Bool :=
  bif v.kind == (0 : Int) then
    v.kind == (0 : Int) && (v.int == (0 : Int) && (v.text == ByteArray.mk #[] && true))
  else
    bif v.kind == (1 : Int) then
      ByteArray.toList v.text == (ByteArray.mk #[]).toList
    else
      bif v.kind == (2 : Int) then
        bif v.int == (0 : Int) then
          ByteArray.toList v.text == (ByteArray.mk #[]).toList
        else
          bif v.int == (1 : Int) then
            ByteArray.toList v.text == (ByteArray.mk #[]).toList
          else
            false
      else
        bif v.kind == (3 : Int) then
          bif v.int == (0 : Int) then
            plainS v.text
          else
            false
        else
          false
theorem k_value_Valid (v : V) (hv : v.small) : ACallsTo E0 S.value_Valid [v.av] [] (bv (validV v)) [] := by
  cases h1 : v.kind == (0 : Int)
  · cases h2 : v.kind == (1 : Int)
    · cases h3 : v.kind == (2 : Int)
      · cases h4 : v.kind == (3 : Int)
        · exact walk E0ok mix0 At.value_Valid rfl (by kernel_rfl) (by kernel_rfl) 3000 (y := AV.v (Value.bool false)) [sb h1, sb h2, sb h3, sb h4] (by kernel_rfl) (by simp only [validV, cond_true, cond_false, h1, h2, h3, h4] <;> rfl)
        · cases h5 : v.int == (0 : Int)
          · exact walk E0ok mix0 At.value_Valid rfl (by kernel_rfl) (by kernel_rfl) 3000 (y := AV.v (Value.bool false)) [sb h1, sb h2, sb h3, sb h4, sb h5] (by kernel_rfl) (by simp only [validV, cond_true, cond_false, h1, h2, h3, h4, h5] <;> rfl)
          · exact walk E0ok mix0 At.value_Valid rfl (by kernel_rfl) (by kernel_rfl) 3000 (y := AV.v (Value.bool (plainS v.text))) [sb h1, sb h2, sb h3, sb h4, sg h5, sc (k_value_plain (v.text) (by first | assumption | (simp; done) | omega | (simp; omega)))] (by kernel_rfl) (by simp only [validV, cond_true, cond_false, h1, h2, h3, h4, h5] <;> rfl)
      · cases h6 : v.int == (0 : Int)
        · cases h7 : v.int == (1 : Int)
          · exact walk E0ok mix0 At.value_Valid rfl (by kernel_rfl) (by kernel_rfl) 3000 (y := AV.v (Value.bool false)) [sb h1, sb h2, sb h3, sg h6, sb h7] (by kernel_rfl) (by simp only [validV, cond_true, cond_false, h1, h2, h3, h6, h7] <;> rfl)
          · exact walk E0ok mix0 At.value_Valid rfl (by kernel_rfl) (by kernel_rfl) 3000 (y := AV.v (Value.bool (ByteArray.toList v.text == (ByteArray.mk #[]).toList))) [sb h1, sb h2, sb h3, sg h6, sg h7] (by kernel_rfl) (by simp only [validV, cond_true, cond_false, h1, h2, h3, h6, h7] <;> rfl)
        · exact walk E0ok mix0 At.value_Valid rfl (by kernel_rfl) (by kernel_rfl) 3000 (y := AV.v (Value.bool (ByteArray.toList v.text == (ByteArray.mk #[]).toList))) [sb h1, sb h2, sb h3, sb h6] (by kernel_rfl) (by simp only [validV, cond_true, cond_false, h1, h2, h3, h6] <;> rfl)
    · exact walk E0ok mix0 At.value_Valid rfl (by kernel_rfl) (by kernel_rfl) 3000 (y := AV.v (Value.bool (ByteArray.toList v.text == (ByteArray.mk #[]).toList))) [sb h1, sb h2] (by kernel_rfl) (by simp only [validV, cond_true, cond_false, h1, h2] <;> rfl)
  · exact walk E0ok mix0 At.value_Valid rfl (by kernel_rfl) (by kernel_rfl) 3000 (y := AV.v (Value.bool (v.kind == (0 : Int) && (v.int == (0 : Int) && (v.text == ByteArray.mk #[] && true))))) [sb h1, sq seq_Value] (by kernel_rfl) (by simp only [validV, cond_true, cond_false, h1] <;> rfl)
def lvalid (v : V) : Bool :=
  bif validV v then
    bif v.kind == 2 then
      true
    else
      v.kind == (0 : Int)
  else
    false
theorem k_logic_Valid (v : V) (hv : v.small) : ACallsTo E0 S.logic_Valid [v.av] [] (bv (lvalid v)) [] := by
  unfold lvalid
  cases h1 : validV v
  · exact wk At.logic_Valid [sc (k_value_Valid (v) (by first | assumption | omega | (simp; done) | (simp; omega))), sb h1] (by kernel_rfl)
  · cases h2 : v.kind == 2
    · exact wk At.logic_Valid [sc (k_value_Valid (v) (by first | assumption | omega | (simp; done) | (simp; omega))), sg h1, sg h2] (by kernel_rfl)
    · exact wk At.logic_Valid [sc (k_value_Valid (v) (by first | assumption | omega | (simp; done) | (simp; omega))), sg h1, sb h2] (by kernel_rfl)
def lnot (v : V) : V × Bool :=
  bif !lvalid v then
    (V.mk 0 0 (ByteArray.mk #[]), false)
  else
    bif v.kind == 0 then
      (v, true)
    else
      (V.mk (2 : Int) (if (v.int == (0 : Int)) = true then (1 : Int) else (0 : Int)) (ByteArray.mk #[]), true)
theorem k_logic_Not (v : V) (hv : v.small) : ACallsTo E0 S.logic_Not [v.av] [] (.tup [(lnot v).1.av, bv (lnot v).2]) [] := by
  unfold lnot
  cases h1 : !lvalid v
  · cases h2 : v.kind == 0
    · exact wk At.logic_Not [sc (k_logic_Valid (v) (by first | assumption | omega | (simp; done) | (simp; omega))), sb h1, sb h2, sc (k_value_Truth (v.int == 0))] (by kernel_rfl)
    · exact wk At.logic_Not [sc (k_logic_Valid (v) (by first | assumption | omega | (simp; done) | (simp; omega))), sb h1, sb h2] (by kernel_rfl)
  · exact wk At.logic_Not [sc (k_logic_Valid (v) (by first | assumption | omega | (simp; done) | (simp; omega))), sb h1] (by kernel_rfl)
def land0 (a b : V) : V :=
  bif a.kind == 2 && ((a.int == if false = true then 1 else 0) && (a.text == ByteArray.mk #[] && true)) then
    V.mk 2 (if false = true then 1 else 0) (ByteArray.mk #[])
  else
    bif b.kind == 2 && ((b.int == if false = true then 1 else 0) && (b.text == ByteArray.mk #[] && true)) then
      V.mk 2 (if false = true then 1 else 0) (ByteArray.mk #[])
    else
      bif a.kind == 0 then
        V.mk 0 0 (ByteArray.mk #[])
      else
        bif b.kind == 0 then
          V.mk 0 0 (ByteArray.mk #[])
        else
          V.mk 2 (if true = true then 1 else 0) (ByteArray.mk #[])
theorem k_logic_and (a b : V)  : ACallsTo E0 S.logic_and [a.av, b.av] [] ((land0 a b).av) [] := by
  unfold land0
  cases h1 : a.kind == 2 && ((a.int == if false = true then 1 else 0) && (a.text == ByteArray.mk #[] && true))
  · cases h2 : b.kind == 2 && ((b.int == if false = true then 1 else 0) && (b.text == ByteArray.mk #[] && true))
    · cases h3 : a.kind == 0
      · cases h4 : b.kind == 0
        · exact wk At.logic_and [sc (k_value_Truth (false)), sq seq_Value, sg h1, sq seq_Value, sb h2, sg h3, sb h4, sc (k_value_Truth (true))] (by kernel_rfl)
        · exact wk At.logic_and [sc (k_value_Truth (false)), sq seq_Value, sg h1, sq seq_Value, sb h2, sg h3, sb h4] (by kernel_rfl)
      · exact wk At.logic_and [sc (k_value_Truth (false)), sq seq_Value, sg h1, sq seq_Value, sb h2, sb h3] (by kernel_rfl)
    · exact wk At.logic_and [sc (k_value_Truth (false)), sq seq_Value, sg h1, sq seq_Value, sb h2] (by kernel_rfl)
  · exact wk At.logic_and [sc (k_value_Truth (false)), sq seq_Value, sb h1] (by kernel_rfl)
def land (a b : V) : V × Bool :=
  bif !lvalid a then
    (V.mk 0 0 (ByteArray.mk #[]), false)
  else
    bif !lvalid b then
      (V.mk 0 0 (ByteArray.mk #[]), false)
    else
      (land0 a b, true)
theorem k_logic_And (a b : V) (ha : a.small) (hb : b.small) : ACallsTo E0 S.logic_And [a.av, b.av] [] (.tup [(land a b).1.av, bv (land a b).2]) [] := by
  unfold land
  cases h1 : !lvalid a
  · cases h2 : !lvalid b
    · exact wk At.logic_And [sc (k_logic_Valid (a) (by first | assumption | omega | (simp; done) | (simp; omega))), sg h1, sc (k_logic_Valid (b) (by first | assumption | omega | (simp; done) | (simp; omega))), sb h2, sc (k_logic_and (a) (b))] (by kernel_rfl)
    · exact wk At.logic_And [sc (k_logic_Valid (a) (by first | assumption | omega | (simp; done) | (simp; omega))), sg h1, sc (k_logic_Valid (b) (by first | assumption | omega | (simp; done) | (simp; omega))), sb h2] (by kernel_rfl)
  · exact wk At.logic_And [sc (k_logic_Valid (a) (by first | assumption | omega | (simp; done) | (simp; omega))), sb h1] (by kernel_rfl)
theorem small_cond (c : Bool) {a b : V} (ha : a.small) (hb : b.small) : (bif c then a else b).small := by cases c <;> assumption
theorem small_cond1 (c : Bool) {α : Type} {a b : V × α} (ha : a.1.small) (hb : b.1.small) : (bif c then a else b).1.small := by cases c <;> assumption
theorem land0_small (a b : V) : (land0 a b).small := by
  unfold land0; repeat' (first | apply small_cond | exact small_e)
def lor (a b : V) : V × Bool :=
  bif !lvalid a then
    (V.mk 0 0 (ByteArray.mk #[]), false)
  else
    bif !lvalid b then
      (V.mk 0 0 (ByteArray.mk #[]), false)
    else
      ((lnot (land0 (lnot a).fst (lnot b).fst)).fst, (lnot (land0 (lnot a).fst (lnot b).fst)).snd)
theorem k_logic_Or (a b : V) (ha : a.small) (hb : b.small) : ACallsTo E0 S.logic_Or [a.av, b.av] [] (.tup [(lor a b).1.av, bv (lor a b).2]) [] := by
  unfold lor
  cases h1 : !lvalid a
  · cases h2 : !lvalid b
    · exact wk At.logic_Or [sc (k_logic_Valid (a) (by first | assumption | exact land0_small _ _)), sg h1, sc (k_logic_Valid (b) (by first | assumption | exact land0_small _ _)), sb h2, sc (k_logic_Not (a) (by first | assumption | exact land0_small _ _)), sc (k_logic_Not (b) (by first | assumption | exact land0_small _ _)), sc (k_logic_and ((lnot a).fst) ((lnot b).fst)), sc (k_logic_Not (land0 (lnot a).fst (lnot b).fst) (by first | assumption | exact land0_small _ _))] (by kernel_rfl)
    · exact wk At.logic_Or [sc (k_logic_Valid (a) (by first | assumption | exact land0_small _ _)), sg h1, sc (k_logic_Valid (b) (by first | assumption | exact land0_small _ _)), sb h2] (by kernel_rfl)
  · exact wk At.logic_Or [sc (k_logic_Valid (a) (by first | assumption | exact land0_small _ _)), sb h1] (by kernel_rfl)
def isTrue (a : V) : Bool :=
  a.kind == (2 : Int) && ((a.int == if true = true then (1 : Int) else (0 : Int)) && (a.text == ByteArray.mk #[] && true))
theorem k_logic_IsTrue (a : V)  : ACallsTo E0 S.logic_IsTrue [a.av] [] (bv (isTrue a)) [] := by
  exact wk At.logic_IsTrue [sd [(1, [sc (k_value_Truth (true))]), (2, [sq seq_Value])]] (by kernel_rfl)
def aAdd (a b : Int) : Int × Bool :=
  bif decide (0 < b) then
    bif decide (IntKind.i64.wrap (9223372036854775807 - b) < a) then
      (0, false)
    else
      bif decide (b < 0) then
        bif decide (a < IntKind.i64.wrap (-9223372036854775808 - b)) then
          (0, false)
        else
          (IntKind.i64.wrap (a + b), true)
      else
        (IntKind.i64.wrap (a + b), true)
  else
    bif decide (b < 0) then
      bif decide (a < IntKind.i64.wrap (-9223372036854775808 - b)) then
        (0, false)
      else
        (IntKind.i64.wrap (a + b), true)
    else
      (IntKind.i64.wrap (a + b), true)
theorem k_arith_Add (a b : Int)  : ACallsTo E0 S.arith_Add [iv a, iv b] [] (.tup [iv (aAdd a b).1, bv (aAdd a b).2]) [] := by
  unfold aAdd
  cases h1 : decide (0 < b)
  · cases h2 : decide (b < 0)
    · exact wk At.arith_Add [sb h1, sb h2, si (e := IntKind.i64.wrap (a + b)) rfl] (by kernel_rfl)
    · cases h3 : decide (a < IntKind.i64.wrap (-9223372036854775808 - b))
      · exact wk At.arith_Add [sb h1, sg h2, si (e := IntKind.i64.wrap (-9223372036854775808 - b)) rfl, sb h3, si (e := IntKind.i64.wrap (a + b)) rfl] (by kernel_rfl)
      · exact wk At.arith_Add [sb h1, sg h2, si (e := IntKind.i64.wrap (-9223372036854775808 - b)) rfl, sb h3] (by kernel_rfl)
  · cases h4 : decide (IntKind.i64.wrap (9223372036854775807 - b) < a)
    · cases h5 : decide (b < 0)
      · exact wk At.arith_Add [sg h1, si (e := IntKind.i64.wrap (9223372036854775807 - b)) rfl, sg h4, sb h5, si (e := IntKind.i64.wrap (a + b)) rfl] (by kernel_rfl)
      · cases h6 : decide (a < IntKind.i64.wrap (-9223372036854775808 - b))
        · exact wk At.arith_Add [sg h1, si (e := IntKind.i64.wrap (9223372036854775807 - b)) rfl, sg h4, sg h5, si (e := IntKind.i64.wrap (-9223372036854775808 - b)) rfl, sb h6, si (e := IntKind.i64.wrap (a + b)) rfl] (by kernel_rfl)
        · exact wk At.arith_Add [sg h1, si (e := IntKind.i64.wrap (9223372036854775807 - b)) rfl, sg h4, sg h5, si (e := IntKind.i64.wrap (-9223372036854775808 - b)) rfl, sb h6] (by kernel_rfl)
    · exact wk At.arith_Add [sg h1, si (e := IntKind.i64.wrap (9223372036854775807 - b)) rfl, sb h4] (by kernel_rfl)
def aSub (a b : Int) : Int × Bool :=
  bif decide (b < 0) then
    bif decide (IntKind.i64.wrap (9223372036854775807 + b) < a) then
      (0, false)
    else
      bif decide (0 < b) then
        bif decide (a < IntKind.i64.wrap (-9223372036854775808 + b)) then
          (0, false)
        else
          (IntKind.i64.wrap (a - b), true)
      else
        (IntKind.i64.wrap (a - b), true)
  else
    bif decide (0 < b) then
      bif decide (a < IntKind.i64.wrap (-9223372036854775808 + b)) then
        (0, false)
      else
        (IntKind.i64.wrap (a - b), true)
    else
      (IntKind.i64.wrap (a - b), true)
theorem k_arith_Subtract (a b : Int)  : ACallsTo E0 S.arith_Subtract [iv a, iv b] [] (.tup [iv (aSub a b).1, bv (aSub a b).2]) [] := by
  unfold aSub
  cases h1 : decide (b < 0)
  · cases h2 : decide (0 < b)
    · exact wk At.arith_Subtract [sb h1, sb h2, si (e := IntKind.i64.wrap (a - b)) rfl] (by kernel_rfl)
    · cases h3 : decide (a < IntKind.i64.wrap (-9223372036854775808 + b))
      · exact wk At.arith_Subtract [sb h1, sg h2, si (e := IntKind.i64.wrap (-9223372036854775808 + b)) rfl, sb h3, si (e := IntKind.i64.wrap (a - b)) rfl] (by kernel_rfl)
      · exact wk At.arith_Subtract [sb h1, sg h2, si (e := IntKind.i64.wrap (-9223372036854775808 + b)) rfl, sb h3] (by kernel_rfl)
  · cases h4 : decide (IntKind.i64.wrap (9223372036854775807 + b) < a)
    · cases h5 : decide (0 < b)
      · exact wk At.arith_Subtract [sg h1, si (e := IntKind.i64.wrap (9223372036854775807 + b)) rfl, sg h4, sb h5, si (e := IntKind.i64.wrap (a - b)) rfl] (by kernel_rfl)
      · cases h6 : decide (a < IntKind.i64.wrap (-9223372036854775808 + b))
        · exact wk At.arith_Subtract [sg h1, si (e := IntKind.i64.wrap (9223372036854775807 + b)) rfl, sg h4, sg h5, si (e := IntKind.i64.wrap (-9223372036854775808 + b)) rfl, sb h6, si (e := IntKind.i64.wrap (a - b)) rfl] (by kernel_rfl)
        · exact wk At.arith_Subtract [sg h1, si (e := IntKind.i64.wrap (9223372036854775807 + b)) rfl, sg h4, sg h5, si (e := IntKind.i64.wrap (-9223372036854775808 + b)) rfl, sb h6] (by kernel_rfl)
    · exact wk At.arith_Subtract [sg h1, si (e := IntKind.i64.wrap (9223372036854775807 + b)) rfl, sb h4] (by kernel_rfl)
def aMul (a b : Int) : Int × Bool :=
  bif a == 0 then
    (0, true)
  else
    bif b == 0 then
      (0, true)
    else
      bif a == -9223372036854775808 then
        bif b == -1 then
          (0, false)
        else
          bif b == -9223372036854775808 then
            bif a == -1 then
              (0, false)
            else
              bif IntKind.i64.wrap ((IntKind.i64.wrap (a * b)).tdiv b) != a then
                (0, false)
              else
                (IntKind.i64.wrap (a * b), true)
          else
            bif IntKind.i64.wrap ((IntKind.i64.wrap (a * b)).tdiv b) != a then
              (0, false)
            else
              (IntKind.i64.wrap (a * b), true)
      else
        bif b == -9223372036854775808 then
          bif a == -1 then
            (0, false)
          else
            bif IntKind.i64.wrap ((IntKind.i64.wrap (a * b)).tdiv b) != a then
              (0, false)
            else
              (IntKind.i64.wrap (a * b), true)
        else
          bif IntKind.i64.wrap ((IntKind.i64.wrap (a * b)).tdiv b) != a then
            (0, false)
          else
            (IntKind.i64.wrap (a * b), true)
theorem k_arith_Multiply (a b : Int)  : ACallsTo E0 S.arith_Multiply [iv a, iv b] [] (.tup [iv (aMul a b).1, bv (aMul a b).2]) [] := by
  unfold aMul
  cases h1 : a == 0
  · cases h2 : b == 0
    · cases h3 : a == -9223372036854775808
      · cases h4 : b == -9223372036854775808
        · cases h5 : IntKind.i64.wrap ((IntKind.i64.wrap (a * b)).tdiv b) != a
          · exact wk At.arith_Multiply [sg h1, sb h2, sb h3, sb h4, si (e := IntKind.i64.wrap (a * b)) rfl, sx (.i (IntKind.i64.wrap ((IntKind.i64.wrap (a * b)).tdiv b))) (show b ≠ (0 : Int) ∧ (IntKind.i64.wrap ((IntKind.i64.wrap (a * b)).tdiv b) : Int) = IntKind.i64.wrap ((IntKind.i64.wrap (a * b)).tdiv b) from ⟨(by simp_all), rfl⟩), sb h5] (by kernel_rfl)
          · exact wk At.arith_Multiply [sg h1, sb h2, sb h3, sb h4, si (e := IntKind.i64.wrap (a * b)) rfl, sx (.i (IntKind.i64.wrap ((IntKind.i64.wrap (a * b)).tdiv b))) (show b ≠ (0 : Int) ∧ (IntKind.i64.wrap ((IntKind.i64.wrap (a * b)).tdiv b) : Int) = IntKind.i64.wrap ((IntKind.i64.wrap (a * b)).tdiv b) from ⟨(by simp_all), rfl⟩), sb h5] (by kernel_rfl)
        · cases h6 : a == -1
          · cases h7 : IntKind.i64.wrap ((IntKind.i64.wrap (a * b)).tdiv b) != a
            · exact wk At.arith_Multiply [sg h1, sb h2, sb h3, sg h4, sb h6, si (e := IntKind.i64.wrap (a * b)) rfl, sx (.i (IntKind.i64.wrap ((IntKind.i64.wrap (a * b)).tdiv b))) (show b ≠ (0 : Int) ∧ (IntKind.i64.wrap ((IntKind.i64.wrap (a * b)).tdiv b) : Int) = IntKind.i64.wrap ((IntKind.i64.wrap (a * b)).tdiv b) from ⟨(by simp_all), rfl⟩), sb h7] (by kernel_rfl)
            · exact wk At.arith_Multiply [sg h1, sb h2, sb h3, sg h4, sb h6, si (e := IntKind.i64.wrap (a * b)) rfl, sx (.i (IntKind.i64.wrap ((IntKind.i64.wrap (a * b)).tdiv b))) (show b ≠ (0 : Int) ∧ (IntKind.i64.wrap ((IntKind.i64.wrap (a * b)).tdiv b) : Int) = IntKind.i64.wrap ((IntKind.i64.wrap (a * b)).tdiv b) from ⟨(by simp_all), rfl⟩), sb h7] (by kernel_rfl)
          · exact wk At.arith_Multiply [sg h1, sb h2, sb h3, sg h4, sb h6] (by kernel_rfl)
      · cases h8 : b == -1
        · cases h9 : b == -9223372036854775808
          · cases h10 : IntKind.i64.wrap ((IntKind.i64.wrap (a * b)).tdiv b) != a
            · exact wk At.arith_Multiply [sg h1, sb h2, sg h3, sg h8, sb h9, si (e := IntKind.i64.wrap (a * b)) rfl, sx (.i (IntKind.i64.wrap ((IntKind.i64.wrap (a * b)).tdiv b))) (show b ≠ (0 : Int) ∧ (IntKind.i64.wrap ((IntKind.i64.wrap (a * b)).tdiv b) : Int) = IntKind.i64.wrap ((IntKind.i64.wrap (a * b)).tdiv b) from ⟨(by simp_all), rfl⟩), sb h10] (by kernel_rfl)
            · exact wk At.arith_Multiply [sg h1, sb h2, sg h3, sg h8, sb h9, si (e := IntKind.i64.wrap (a * b)) rfl, sx (.i (IntKind.i64.wrap ((IntKind.i64.wrap (a * b)).tdiv b))) (show b ≠ (0 : Int) ∧ (IntKind.i64.wrap ((IntKind.i64.wrap (a * b)).tdiv b) : Int) = IntKind.i64.wrap ((IntKind.i64.wrap (a * b)).tdiv b) from ⟨(by simp_all), rfl⟩), sb h10] (by kernel_rfl)
          · cases h11 : a == -1
            · cases h12 : IntKind.i64.wrap ((IntKind.i64.wrap (a * b)).tdiv b) != a
              · exact wk At.arith_Multiply [sg h1, sb h2, sg h3, sg h8, sg h9, sb h11, si (e := IntKind.i64.wrap (a * b)) rfl, sx (.i (IntKind.i64.wrap ((IntKind.i64.wrap (a * b)).tdiv b))) (show b ≠ (0 : Int) ∧ (IntKind.i64.wrap ((IntKind.i64.wrap (a * b)).tdiv b) : Int) = IntKind.i64.wrap ((IntKind.i64.wrap (a * b)).tdiv b) from ⟨(by simp_all), rfl⟩), sb h12] (by kernel_rfl)
              · exact wk At.arith_Multiply [sg h1, sb h2, sg h3, sg h8, sg h9, sb h11, si (e := IntKind.i64.wrap (a * b)) rfl, sx (.i (IntKind.i64.wrap ((IntKind.i64.wrap (a * b)).tdiv b))) (show b ≠ (0 : Int) ∧ (IntKind.i64.wrap ((IntKind.i64.wrap (a * b)).tdiv b) : Int) = IntKind.i64.wrap ((IntKind.i64.wrap (a * b)).tdiv b) from ⟨(by simp_all), rfl⟩), sb h12] (by kernel_rfl)
            · exact wk At.arith_Multiply [sg h1, sb h2, sg h3, sg h8, sg h9, sb h11] (by kernel_rfl)
        · exact wk At.arith_Multiply [sg h1, sb h2, sg h3, sb h8] (by kernel_rfl)
    · exact wk At.arith_Multiply [sg h1, sb h2] (by kernel_rfl)
  · exact wk At.arith_Multiply [sb h1] (by kernel_rfl)
def aDiv (a b : Int) : Int × Bool :=
  bif b == 0 then
    (0, false)
  else
    bif a == -9223372036854775808 then
      bif b == -1 then
        (0, false)
      else
        (IntKind.i64.wrap (a.tdiv b), true)
    else
      (IntKind.i64.wrap (a.tdiv b), true)
theorem k_arith_Divide (a b : Int)  : ACallsTo E0 S.arith_Divide [iv a, iv b] [] (.tup [iv (aDiv a b).1, bv (aDiv a b).2]) [] := by
  unfold aDiv
  cases h1 : b == 0
  · cases h2 : a == -9223372036854775808
    · exact wk At.arith_Divide [sg h1, sb h2, sx (.i (IntKind.i64.wrap (a.tdiv b))) (show b ≠ (0 : Int) ∧ (IntKind.i64.wrap (a.tdiv b) : Int) = IntKind.i64.wrap (a.tdiv b) from ⟨(by simp_all), rfl⟩)] (by kernel_rfl)
    · cases h3 : b == -1
      · exact wk At.arith_Divide [sg h1, sg h2, sb h3, sx (.i (IntKind.i64.wrap (a.tdiv b))) (show b ≠ (0 : Int) ∧ (IntKind.i64.wrap (a.tdiv b) : Int) = IntKind.i64.wrap (a.tdiv b) from ⟨(by simp_all), rfl⟩)] (by kernel_rfl)
      · exact wk At.arith_Divide [sg h1, sg h2, sb h3] (by kernel_rfl)
  · exact wk At.arith_Divide [sb h1] (by kernel_rfl)
def aMod (a b : Int) : Int × Bool :=
  bif b == 0 then
    (0, false)
  else
    bif b == -1 then
      (0, true)
    else
      (a.tmod b, true)
theorem k_arith_Modulo (a b : Int)  : ACallsTo E0 S.arith_Modulo [iv a, iv b] [] (.tup [iv (aMod a b).1, bv (aMod a b).2]) [] := by
  unfold aMod
  cases h1 : b == 0
  · cases h2 : b == -1
    · exact wk At.arith_Modulo [sb h1, sb h2, sx (.i (a.tmod b)) (show b ≠ (0 : Int) ∧ (a.tmod b : Int) = a.tmod b from ⟨(by simp_all), rfl⟩)] (by kernel_rfl)
    · exact wk At.arith_Modulo [sb h1, sb h2] (by kernel_rfl)
  · exact wk At.arith_Modulo [sb h1] (by kernel_rfl)
def vTruth (v : V) (ok : Bool) : V × Int :=
  bif !ok then
    (V.mk 0 0 (ByteArray.mk #[]), 5)
  else
    (v, 0)
theorem k_evaluate_truth (v : V) (ok : Bool)  : ACallsTo E0 S.evaluate_truth [v.av, bv ok] [] (.tup [(vTruth v ok).1.av, iv (vTruth v ok).2]) [] := by
  unfold vTruth
  cases h1 : !ok
  · exact wk At.evaluate_truth [sb h1] (by kernel_rfl)
  · exact wk At.evaluate_truth [sb h1] (by kernel_rfl)
def cmpOp (op c : Int) : Bool := bif op == 3 then c == 0 else bif op == 4 then c != 0 else bif op == 5 then decide (c < 0) else bif op == 6 then decide (c ≤ 0) else bif op == 7 then decide (0 < c) else decide (0 ≤ c)
abbrev CmpArr (op c : Int) : Prop := ArrAt [.bl false, .bl false, .bl false, bv (c == 0), bv (c != 0), bv (decide (c < 0)), bv (decide (c ≤ 0)), bv (decide (0 < c)), bv (decide (0 ≤ c))] op 9 [bv (cmpOp op c)] 1
theorem arrCmp (op c : Int) (ho : 3 ≤ op ∧ op ≤ 8) : CmpArr op c := by
  have h : op = 3 ∨ op = 4 ∨ op = 5 ∨ op = 6 ∨ op = 7 ∨ op = 8 := by omega
  rcases h with rfl | rfl | rfl | rfl | rfl | rfl <;> exact ⟨by decide, by decide, rfl, rfl⟩
def vCmp (op : Int) (a b : V) : V × Int :=
  bif a.kind == 0 then
    (V.mk 0 0 (ByteArray.mk #[]), 0)
  else
    bif b.kind == 0 then
      (V.mk 0 0 (ByteArray.mk #[]), 0)
    else
      bif a.kind != b.kind then
        (V.mk 0 0 (ByteArray.mk #[]), 5)
      else
        (V.mk 2 (if cmpOp op (cmpV a b) = true then 1 else 0) (ByteArray.mk #[]), 0)
theorem k_evaluate_comparison (op : Int) (a b : V) (he : ArrAt [.bl false, .bl false, .bl false, bv (cmpV a b == 0), bv (cmpV a b != 0), bv (decide (cmpV a b < 0)), bv (decide (cmpV a b ≤ 0)), bv (decide (0 < cmpV a b)), bv (decide (0 ≤ cmpV a b))] op 9 [bv (cmpOp op (cmpV a b))] 1) : ACallsTo E0 S.evaluate_comparison [iv op, a.av, b.av] [] (.tup [(vCmp op a b).1.av, iv (vCmp op a b).2]) [] := by
  unfold vCmp
  cases h1 : a.kind == 0
  · cases h2 : b.kind == 0
    · cases h3 : a.kind != b.kind
      · exact wk At.evaluate_comparison [sc (k_evaluate_isNull (a)), sg h1, sc (k_evaluate_isNull (b)), sb h2, sb h3, sc (k_value_Compare (a) (b)), sa he, sc (k_value_Truth (cmpOp op (cmpV a b)))] (by kernel_rfl)
      · exact wk At.evaluate_comparison [sc (k_evaluate_isNull (a)), sg h1, sc (k_evaluate_isNull (b)), sb h2, sb h3] (by kernel_rfl)
    · exact wk At.evaluate_comparison [sc (k_evaluate_isNull (a)), sg h1, sc (k_evaluate_isNull (b)), sb h2] (by kernel_rfl)
  · exact wk At.evaluate_comparison [sc (k_evaluate_isNull (a)), sb h1] (by kernel_rfl)
def vArith (op : Int) (a b : V) : V × Int :=
  bif a.kind == 0 then
    (V.mk 0 0 (ByteArray.mk #[]), 0)
  else
    bif b.kind == 0 then
      (V.mk 0 0 (ByteArray.mk #[]), 0)
    else
      bif a.kind != 1 then
        (V.mk 0 0 (ByteArray.mk #[]), 5)
      else
        bif b.kind != 1 then
          (V.mk 0 0 (ByteArray.mk #[]), 5)
        else
          bif op == 12 then
            bif b.int == 0 then
              (V.mk 0 0 (ByteArray.mk #[]), 7)
            else
              bif op == 9 then
                bif !(aAdd a.int b.int).snd then
                  (V.mk 0 0 (ByteArray.mk #[]), 6)
                else
                  (V.mk 1 (aAdd a.int b.int).fst (ByteArray.mk #[]), 0)
              else
                bif op == 10 then
                  bif !(aSub a.int b.int).snd then
                    (V.mk 0 0 (ByteArray.mk #[]), 6)
                  else
                    (V.mk 1 (aSub a.int b.int).fst (ByteArray.mk #[]), 0)
                else
                  bif op == 11 then
                    bif !(aMul a.int b.int).snd then
                      (V.mk 0 0 (ByteArray.mk #[]), 6)
                    else
                      (V.mk 1 (aMul a.int b.int).fst (ByteArray.mk #[]), 0)
                  else
                    bif !(aDiv a.int b.int).snd then
                      (V.mk 0 0 (ByteArray.mk #[]), 6)
                    else
                      (V.mk 1 (aDiv a.int b.int).fst (ByteArray.mk #[]), 0)
          else
            bif op == 13 then
              bif b.int == 0 then
                (V.mk 0 0 (ByteArray.mk #[]), 7)
              else
                bif op == 9 then
                  bif !(aAdd a.int b.int).snd then
                    (V.mk 0 0 (ByteArray.mk #[]), 6)
                  else
                    (V.mk 1 (aAdd a.int b.int).fst (ByteArray.mk #[]), 0)
                else
                  bif op == 10 then
                    bif !(aSub a.int b.int).snd then
                      (V.mk 0 0 (ByteArray.mk #[]), 6)
                    else
                      (V.mk 1 (aSub a.int b.int).fst (ByteArray.mk #[]), 0)
                  else
                    bif op == 11 then
                      bif !(aMul a.int b.int).snd then
                        (V.mk 0 0 (ByteArray.mk #[]), 6)
                      else
                        (V.mk 1 (aMul a.int b.int).fst (ByteArray.mk #[]), 0)
                    else
                      bif !(aMod a.int b.int).snd then
                        (V.mk 0 0 (ByteArray.mk #[]), 6)
                      else
                        (V.mk 1 (aMod a.int b.int).fst (ByteArray.mk #[]), 0)
            else
              bif op == 9 then
                bif !(aAdd a.int b.int).snd then
                  (V.mk 0 0 (ByteArray.mk #[]), 6)
                else
                  (V.mk 1 (aAdd a.int b.int).fst (ByteArray.mk #[]), 0)
              else
                bif op == 10 then
                  bif !(aSub a.int b.int).snd then
                    (V.mk 0 0 (ByteArray.mk #[]), 6)
                  else
                    (V.mk 1 (aSub a.int b.int).fst (ByteArray.mk #[]), 0)
                else
                  bif op == 11 then
                    bif !(aMul a.int b.int).snd then
                      (V.mk 0 0 (ByteArray.mk #[]), 6)
                    else
                      (V.mk 1 (aMul a.int b.int).fst (ByteArray.mk #[]), 0)
                  else
                    (V.mk 0 0 (ByteArray.mk #[]), 6)
theorem k_evaluate_arithmetic (op : Int) (a b : V)  : ACallsTo E0 S.evaluate_arithmetic [iv op, a.av, b.av] [] (.tup [(vArith op a b).1.av, iv (vArith op a b).2]) [] := by
  unfold vArith
  cases h1 : a.kind == 0
  · cases h2 : b.kind == 0
    · cases h3 : a.kind != 1
      · cases h4 : b.kind != 1
        · cases h5 : op == 12
          · cases h6 : op == 13
            · cases h7 : op == 9
              · cases h8 : op == 10
                · cases h9 : op == 11
                  · exact wk At.evaluate_arithmetic [sc (k_evaluate_isNull (a)), sg h1, sc (k_evaluate_isNull (b)), sb h2, sg h3, sb h4, sg h5, sb h6, sb h7, sb h8, sb h9, sb h5, sb h6] (by kernel_rfl)
                  · cases h10 : !(aMul a.int b.int).snd
                    · exact wk At.evaluate_arithmetic [sc (k_evaluate_isNull (a)), sg h1, sc (k_evaluate_isNull (b)), sb h2, sg h3, sb h4, sg h5, sb h6, sb h7, sb h8, sb h9, sc (k_arith_Multiply (a.int) (b.int)), sb h10, sc (k_value_Number ((aMul a.int b.int).fst))] (by kernel_rfl)
                    · exact wk At.evaluate_arithmetic [sc (k_evaluate_isNull (a)), sg h1, sc (k_evaluate_isNull (b)), sb h2, sg h3, sb h4, sg h5, sb h6, sb h7, sb h8, sb h9, sc (k_arith_Multiply (a.int) (b.int)), sb h10] (by kernel_rfl)
                · cases h11 : !(aSub a.int b.int).snd
                  · exact wk At.evaluate_arithmetic [sc (k_evaluate_isNull (a)), sg h1, sc (k_evaluate_isNull (b)), sb h2, sg h3, sb h4, sg h5, sb h6, sb h7, sb h8, sc (k_arith_Subtract (a.int) (b.int)), sb h11, sc (k_value_Number ((aSub a.int b.int).fst))] (by kernel_rfl)
                  · exact wk At.evaluate_arithmetic [sc (k_evaluate_isNull (a)), sg h1, sc (k_evaluate_isNull (b)), sb h2, sg h3, sb h4, sg h5, sb h6, sb h7, sb h8, sc (k_arith_Subtract (a.int) (b.int)), sb h11] (by kernel_rfl)
              · cases h12 : !(aAdd a.int b.int).snd
                · exact wk At.evaluate_arithmetic [sc (k_evaluate_isNull (a)), sg h1, sc (k_evaluate_isNull (b)), sb h2, sg h3, sb h4, sg h5, sb h6, sb h7, sc (k_arith_Add (a.int) (b.int)), sb h12, sc (k_value_Number ((aAdd a.int b.int).fst))] (by kernel_rfl)
                · exact wk At.evaluate_arithmetic [sc (k_evaluate_isNull (a)), sg h1, sc (k_evaluate_isNull (b)), sb h2, sg h3, sb h4, sg h5, sb h6, sb h7, sc (k_arith_Add (a.int) (b.int)), sb h12] (by kernel_rfl)
            · cases h13 : b.int == 0
              · cases h14 : op == 9
                · cases h15 : op == 10
                  · cases h16 : op == 11
                    · cases h17 : !(aMod a.int b.int).snd
                      · exact wk At.evaluate_arithmetic [sc (k_evaluate_isNull (a)), sg h1, sc (k_evaluate_isNull (b)), sb h2, sg h3, sb h4, sg h5, sg h6, sb h13, sb h14, sb h15, sb h16, sb h5, sb h6, sc (k_arith_Modulo (a.int) (b.int)), sb h17, sc (k_value_Number ((aMod a.int b.int).fst))] (by kernel_rfl)
                      · exact wk At.evaluate_arithmetic [sc (k_evaluate_isNull (a)), sg h1, sc (k_evaluate_isNull (b)), sb h2, sg h3, sb h4, sg h5, sg h6, sb h13, sb h14, sb h15, sb h16, sb h5, sb h6, sc (k_arith_Modulo (a.int) (b.int)), sb h17] (by kernel_rfl)
                    · cases h18 : !(aMul a.int b.int).snd
                      · exact wk At.evaluate_arithmetic [sc (k_evaluate_isNull (a)), sg h1, sc (k_evaluate_isNull (b)), sb h2, sg h3, sb h4, sg h5, sg h6, sb h13, sb h14, sb h15, sb h16, sc (k_arith_Multiply (a.int) (b.int)), sb h18, sc (k_value_Number ((aMul a.int b.int).fst))] (by kernel_rfl)
                      · exact wk At.evaluate_arithmetic [sc (k_evaluate_isNull (a)), sg h1, sc (k_evaluate_isNull (b)), sb h2, sg h3, sb h4, sg h5, sg h6, sb h13, sb h14, sb h15, sb h16, sc (k_arith_Multiply (a.int) (b.int)), sb h18] (by kernel_rfl)
                  · cases h19 : !(aSub a.int b.int).snd
                    · exact wk At.evaluate_arithmetic [sc (k_evaluate_isNull (a)), sg h1, sc (k_evaluate_isNull (b)), sb h2, sg h3, sb h4, sg h5, sg h6, sb h13, sb h14, sb h15, sc (k_arith_Subtract (a.int) (b.int)), sb h19, sc (k_value_Number ((aSub a.int b.int).fst))] (by kernel_rfl)
                    · exact wk At.evaluate_arithmetic [sc (k_evaluate_isNull (a)), sg h1, sc (k_evaluate_isNull (b)), sb h2, sg h3, sb h4, sg h5, sg h6, sb h13, sb h14, sb h15, sc (k_arith_Subtract (a.int) (b.int)), sb h19] (by kernel_rfl)
                · cases h20 : !(aAdd a.int b.int).snd
                  · exact wk At.evaluate_arithmetic [sc (k_evaluate_isNull (a)), sg h1, sc (k_evaluate_isNull (b)), sb h2, sg h3, sb h4, sg h5, sg h6, sb h13, sb h14, sc (k_arith_Add (a.int) (b.int)), sb h20, sc (k_value_Number ((aAdd a.int b.int).fst))] (by kernel_rfl)
                  · exact wk At.evaluate_arithmetic [sc (k_evaluate_isNull (a)), sg h1, sc (k_evaluate_isNull (b)), sb h2, sg h3, sb h4, sg h5, sg h6, sb h13, sb h14, sc (k_arith_Add (a.int) (b.int)), sb h20] (by kernel_rfl)
              · exact wk At.evaluate_arithmetic [sc (k_evaluate_isNull (a)), sg h1, sc (k_evaluate_isNull (b)), sb h2, sg h3, sb h4, sg h5, sg h6, sb h13] (by kernel_rfl)
          · cases h21 : b.int == 0
            · cases h22 : op == 9
              · cases h23 : op == 10
                · cases h24 : op == 11
                  · cases h25 : !(aDiv a.int b.int).snd
                    · exact wk At.evaluate_arithmetic [sc (k_evaluate_isNull (a)), sg h1, sc (k_evaluate_isNull (b)), sb h2, sg h3, sb h4, sb h5, sb h21, sb h22, sb h23, sb h24, sb h5, sc (k_arith_Divide (a.int) (b.int)), sb h25, sc (k_value_Number ((aDiv a.int b.int).fst))] (by kernel_rfl)
                    · exact wk At.evaluate_arithmetic [sc (k_evaluate_isNull (a)), sg h1, sc (k_evaluate_isNull (b)), sb h2, sg h3, sb h4, sb h5, sb h21, sb h22, sb h23, sb h24, sb h5, sc (k_arith_Divide (a.int) (b.int)), sb h25] (by kernel_rfl)
                  · cases h26 : !(aMul a.int b.int).snd
                    · exact wk At.evaluate_arithmetic [sc (k_evaluate_isNull (a)), sg h1, sc (k_evaluate_isNull (b)), sb h2, sg h3, sb h4, sb h5, sb h21, sb h22, sb h23, sb h24, sc (k_arith_Multiply (a.int) (b.int)), sb h26, sc (k_value_Number ((aMul a.int b.int).fst))] (by kernel_rfl)
                    · exact wk At.evaluate_arithmetic [sc (k_evaluate_isNull (a)), sg h1, sc (k_evaluate_isNull (b)), sb h2, sg h3, sb h4, sb h5, sb h21, sb h22, sb h23, sb h24, sc (k_arith_Multiply (a.int) (b.int)), sb h26] (by kernel_rfl)
                · cases h27 : !(aSub a.int b.int).snd
                  · exact wk At.evaluate_arithmetic [sc (k_evaluate_isNull (a)), sg h1, sc (k_evaluate_isNull (b)), sb h2, sg h3, sb h4, sb h5, sb h21, sb h22, sb h23, sc (k_arith_Subtract (a.int) (b.int)), sb h27, sc (k_value_Number ((aSub a.int b.int).fst))] (by kernel_rfl)
                  · exact wk At.evaluate_arithmetic [sc (k_evaluate_isNull (a)), sg h1, sc (k_evaluate_isNull (b)), sb h2, sg h3, sb h4, sb h5, sb h21, sb h22, sb h23, sc (k_arith_Subtract (a.int) (b.int)), sb h27] (by kernel_rfl)
              · cases h28 : !(aAdd a.int b.int).snd
                · exact wk At.evaluate_arithmetic [sc (k_evaluate_isNull (a)), sg h1, sc (k_evaluate_isNull (b)), sb h2, sg h3, sb h4, sb h5, sb h21, sb h22, sc (k_arith_Add (a.int) (b.int)), sb h28, sc (k_value_Number ((aAdd a.int b.int).fst))] (by kernel_rfl)
                · exact wk At.evaluate_arithmetic [sc (k_evaluate_isNull (a)), sg h1, sc (k_evaluate_isNull (b)), sb h2, sg h3, sb h4, sb h5, sb h21, sb h22, sc (k_arith_Add (a.int) (b.int)), sb h28] (by kernel_rfl)
            · exact wk At.evaluate_arithmetic [sc (k_evaluate_isNull (a)), sg h1, sc (k_evaluate_isNull (b)), sb h2, sg h3, sb h4, sb h5, sb h21] (by kernel_rfl)
        · exact wk At.evaluate_arithmetic [sc (k_evaluate_isNull (a)), sg h1, sc (k_evaluate_isNull (b)), sb h2, sg h3, sb h4] (by kernel_rfl)
      · exact wk At.evaluate_arithmetic [sc (k_evaluate_isNull (a)), sg h1, sc (k_evaluate_isNull (b)), sb h2, sb h3] (by kernel_rfl)
    · exact wk At.evaluate_arithmetic [sc (k_evaluate_isNull (a)), sg h1, sc (k_evaluate_isNull (b)), sb h2] (by kernel_rfl)
  · exact wk At.evaluate_arithmetic [sc (k_evaluate_isNull (a)), sb h1] (by kernel_rfl)
theorem vCmp_small (op : Int) (a b : V) : (vCmp op a b).1.small := by
  unfold vCmp; repeat' (first | apply small_cond1 | exact small_e)
def vBetween (x y z : V) : V × Int :=
  bif (vCmp 6 y x).snd != 0 then
    (V.mk 0 0 (ByteArray.mk #[]), (vCmp 6 y x).snd)
  else
    bif (vCmp 6 x z).snd != 0 then
      (V.mk 0 0 (ByteArray.mk #[]), (vCmp 6 x z).snd)
    else
      ((vTruth (land (vCmp 6 y x).fst (vCmp 6 x z).fst).fst (land (vCmp 6 y x).fst (vCmp 6 x z).fst).snd).fst, (vTruth (land (vCmp 6 y x).fst (vCmp 6 x z).fst).fst (land (vCmp 6 y x).fst (vCmp 6 x z).fst).snd).snd)
theorem k_evaluate_between (x y z : V)  : ACallsTo E0 S.evaluate_between [vsl [x, y, z]] [] (.tup [(vBetween x y z).1.av, iv (vBetween x y z).2]) [] := by
  unfold vBetween
  cases h1 : (vCmp 6 y x).snd != 0
  · cases h2 : (vCmp 6 x z).snd != 0
    · exact wk At.evaluate_between [sdm [(1, [se (xs := [[iv x.kind, iv x.int, sv x.text], [iv y.kind, iv y.int, sv y.text], [iv z.kind, iv z.int, sv z.text]]) (i := 1) (c := [iv y.kind, iv y.int, sv y.text]) (n := 3) ⟨by decide, rfl, rfl⟩]), (4, [se (xs := [[iv x.kind, iv x.int, sv x.text], [iv y.kind, iv y.int, sv y.text], [iv z.kind, iv z.int, sv z.text]]) (i := 0) (c := [iv x.kind, iv x.int, sv x.text]) (n := 3) ⟨by decide, rfl, rfl⟩]), (6, [sc (k_evaluate_comparison (6) (y) (x) (by first | assumption | exact arrCmp _ _ (by decide) | exact vCmp_small _ _ _))])] 0 [(0, AV.sl [[iv x.kind, iv x.int, sv x.text], [iv y.kind, iv y.int, sv y.text], [iv z.kind, iv z.int, sv z.text]]), (2, AV.p 0 0), (3, iv 0), (4, AV.p 1 0), (5, iv (vCmp 6 y x).snd), (7, AV.tup [AV.agg [iv (vCmp 6 y x).fst.kind, iv (vCmp 6 y x).fst.int, sv (vCmp 6 y x).fst.text], iv (vCmp 6 y x).snd]), (8, AV.sl [[iv x.kind, iv x.int, sv x.text], [iv y.kind, iv y.int, sv y.text], [iv z.kind, iv z.int, sv z.text]]), (9, AV.dp [iv y.kind, iv y.int, sv y.text]), (10, AV.agg [iv y.kind, iv y.int, sv y.text]), (11, AV.sl [[iv x.kind, iv x.int, sv x.text], [iv y.kind, iv y.int, sv y.text], [iv z.kind, iv z.int, sv z.text]]), (12, AV.dp [iv x.kind, iv x.int, sv x.text]), (13, AV.agg [iv x.kind, iv x.int, sv x.text]), (14, AV.tup [AV.agg [iv (vCmp 6 y x).fst.kind, iv (vCmp 6 y x).fst.int, sv (vCmp 6 y x).fst.text], iv (vCmp 6 y x).snd]), (15, AV.agg [iv (vCmp 6 y x).fst.kind, iv (vCmp 6 y x).fst.int, sv (vCmp 6 y x).fst.text]), (16, iv (vCmp 6 y x).snd)] [Blk.box [iv 0, iv 0, sv (ByteArray.mk #[])], Blk.box [iv (vCmp 6 y x).fst.kind, iv (vCmp 6 y x).fst.int, sv (vCmp 6 y x).fst.text]], sb h1, sdm [(1, [se (xs := [[iv x.kind, iv x.int, sv x.text], [iv y.kind, iv y.int, sv y.text], [iv z.kind, iv z.int, sv z.text]]) (i := 0) (c := [iv x.kind, iv x.int, sv x.text]) (n := 3) ⟨by decide, rfl, rfl⟩]), (4, [se (xs := [[iv x.kind, iv x.int, sv x.text], [iv y.kind, iv y.int, sv y.text], [iv z.kind, iv z.int, sv z.text]]) (i := 2) (c := [iv z.kind, iv z.int, sv z.text]) (n := 3) ⟨by decide, rfl, rfl⟩]), (6, [sc (k_evaluate_comparison (6) (x) (z) (by first | assumption | exact arrCmp _ _ (by decide) | exact vCmp_small _ _ _))])] 0 [(0, AV.sl [[iv x.kind, iv x.int, sv x.text], [iv y.kind, iv y.int, sv y.text], [iv z.kind, iv z.int, sv z.text]]), (2, AV.p 0 0), (3, iv 0), (4, AV.p 1 0), (5, iv (vCmp 6 x z).snd), (6, AV.p 2 0), (7, AV.tup [AV.agg [iv (vCmp 6 y x).fst.kind, iv (vCmp 6 y x).fst.int, sv (vCmp 6 y x).fst.text], iv (vCmp 6 y x).snd]), (8, AV.sl [[iv x.kind, iv x.int, sv x.text], [iv y.kind, iv y.int, sv y.text], [iv z.kind, iv z.int, sv z.text]]), (9, AV.dp [iv y.kind, iv y.int, sv y.text]), (10, AV.agg [iv y.kind, iv y.int, sv y.text]), (11, AV.sl [[iv x.kind, iv x.int, sv x.text], [iv y.kind, iv y.int, sv y.text], [iv z.kind, iv z.int, sv z.text]]), (12, AV.dp [iv x.kind, iv x.int, sv x.text]), (13, AV.agg [iv x.kind, iv x.int, sv x.text]), (14, AV.tup [AV.agg [iv (vCmp 6 y x).fst.kind, iv (vCmp 6 y x).fst.int, sv (vCmp 6 y x).fst.text], iv (vCmp 6 y x).snd]), (15, AV.agg [iv (vCmp 6 y x).fst.kind, iv (vCmp 6 y x).fst.int, sv (vCmp 6 y x).fst.text]), (16, iv (vCmp 6 y x).snd), (17, iv (vCmp 6 y x).snd), (18, AV.bl false), (21, AV.tup [AV.agg [iv (vCmp 6 x z).fst.kind, iv (vCmp 6 x z).fst.int, sv (vCmp 6 x z).fst.text], iv (vCmp 6 x z).snd]), (22, AV.sl [[iv x.kind, iv x.int, sv x.text], [iv y.kind, iv y.int, sv y.text], [iv z.kind, iv z.int, sv z.text]]), (23, AV.dp [iv x.kind, iv x.int, sv x.text]), (24, AV.agg [iv x.kind, iv x.int, sv x.text]), (25, AV.sl [[iv x.kind, iv x.int, sv x.text], [iv y.kind, iv y.int, sv y.text], [iv z.kind, iv z.int, sv z.text]]), (26, AV.dp [iv z.kind, iv z.int, sv z.text]), (27, AV.agg [iv z.kind, iv z.int, sv z.text]), (28, AV.tup [AV.agg [iv (vCmp 6 x z).fst.kind, iv (vCmp 6 x z).fst.int, sv (vCmp 6 x z).fst.text], iv (vCmp 6 x z).snd]), (29, AV.agg [iv (vCmp 6 x z).fst.kind, iv (vCmp 6 x z).fst.int, sv (vCmp 6 x z).fst.text]), (30, iv (vCmp 6 x z).snd)] [Blk.box [iv 0, iv 0, sv (ByteArray.mk #[])], Blk.box [iv (vCmp 6 y x).fst.kind, iv (vCmp 6 y x).fst.int, sv (vCmp 6 y x).fst.text], Blk.box [iv (vCmp 6 x z).fst.kind, iv (vCmp 6 x z).fst.int, sv (vCmp 6 x z).fst.text]], sb h2, sc (k_logic_And ((vCmp 6 y x).fst) ((vCmp 6 x z).fst) (by first | assumption | exact arrCmp _ _ (by decide) | exact vCmp_small _ _ _) (by first | assumption | exact arrCmp _ _ (by decide) | exact vCmp_small _ _ _)), sc (k_evaluate_truth ((land (vCmp 6 y x).fst (vCmp 6 x z).fst).fst) ((land (vCmp 6 y x).fst (vCmp 6 x z).fst).snd))] (by kernel_rfl)
    · exact wk At.evaluate_between [sdm [(1, [se (xs := [[iv x.kind, iv x.int, sv x.text], [iv y.kind, iv y.int, sv y.text], [iv z.kind, iv z.int, sv z.text]]) (i := 1) (c := [iv y.kind, iv y.int, sv y.text]) (n := 3) ⟨by decide, rfl, rfl⟩]), (4, [se (xs := [[iv x.kind, iv x.int, sv x.text], [iv y.kind, iv y.int, sv y.text], [iv z.kind, iv z.int, sv z.text]]) (i := 0) (c := [iv x.kind, iv x.int, sv x.text]) (n := 3) ⟨by decide, rfl, rfl⟩]), (6, [sc (k_evaluate_comparison (6) (y) (x) (by first | assumption | exact arrCmp _ _ (by decide) | exact vCmp_small _ _ _))])] 0 [(0, AV.sl [[iv x.kind, iv x.int, sv x.text], [iv y.kind, iv y.int, sv y.text], [iv z.kind, iv z.int, sv z.text]]), (2, AV.p 0 0), (3, iv 0), (4, AV.p 1 0), (5, iv (vCmp 6 y x).snd), (7, AV.tup [AV.agg [iv (vCmp 6 y x).fst.kind, iv (vCmp 6 y x).fst.int, sv (vCmp 6 y x).fst.text], iv (vCmp 6 y x).snd]), (8, AV.sl [[iv x.kind, iv x.int, sv x.text], [iv y.kind, iv y.int, sv y.text], [iv z.kind, iv z.int, sv z.text]]), (9, AV.dp [iv y.kind, iv y.int, sv y.text]), (10, AV.agg [iv y.kind, iv y.int, sv y.text]), (11, AV.sl [[iv x.kind, iv x.int, sv x.text], [iv y.kind, iv y.int, sv y.text], [iv z.kind, iv z.int, sv z.text]]), (12, AV.dp [iv x.kind, iv x.int, sv x.text]), (13, AV.agg [iv x.kind, iv x.int, sv x.text]), (14, AV.tup [AV.agg [iv (vCmp 6 y x).fst.kind, iv (vCmp 6 y x).fst.int, sv (vCmp 6 y x).fst.text], iv (vCmp 6 y x).snd]), (15, AV.agg [iv (vCmp 6 y x).fst.kind, iv (vCmp 6 y x).fst.int, sv (vCmp 6 y x).fst.text]), (16, iv (vCmp 6 y x).snd)] [Blk.box [iv 0, iv 0, sv (ByteArray.mk #[])], Blk.box [iv (vCmp 6 y x).fst.kind, iv (vCmp 6 y x).fst.int, sv (vCmp 6 y x).fst.text]], sb h1, sdm [(1, [se (xs := [[iv x.kind, iv x.int, sv x.text], [iv y.kind, iv y.int, sv y.text], [iv z.kind, iv z.int, sv z.text]]) (i := 0) (c := [iv x.kind, iv x.int, sv x.text]) (n := 3) ⟨by decide, rfl, rfl⟩]), (4, [se (xs := [[iv x.kind, iv x.int, sv x.text], [iv y.kind, iv y.int, sv y.text], [iv z.kind, iv z.int, sv z.text]]) (i := 2) (c := [iv z.kind, iv z.int, sv z.text]) (n := 3) ⟨by decide, rfl, rfl⟩]), (6, [sc (k_evaluate_comparison (6) (x) (z) (by first | assumption | exact arrCmp _ _ (by decide) | exact vCmp_small _ _ _))])] 0 [(0, AV.sl [[iv x.kind, iv x.int, sv x.text], [iv y.kind, iv y.int, sv y.text], [iv z.kind, iv z.int, sv z.text]]), (2, AV.p 0 0), (3, iv 0), (4, AV.p 1 0), (5, iv (vCmp 6 x z).snd), (6, AV.p 2 0), (7, AV.tup [AV.agg [iv (vCmp 6 y x).fst.kind, iv (vCmp 6 y x).fst.int, sv (vCmp 6 y x).fst.text], iv (vCmp 6 y x).snd]), (8, AV.sl [[iv x.kind, iv x.int, sv x.text], [iv y.kind, iv y.int, sv y.text], [iv z.kind, iv z.int, sv z.text]]), (9, AV.dp [iv y.kind, iv y.int, sv y.text]), (10, AV.agg [iv y.kind, iv y.int, sv y.text]), (11, AV.sl [[iv x.kind, iv x.int, sv x.text], [iv y.kind, iv y.int, sv y.text], [iv z.kind, iv z.int, sv z.text]]), (12, AV.dp [iv x.kind, iv x.int, sv x.text]), (13, AV.agg [iv x.kind, iv x.int, sv x.text]), (14, AV.tup [AV.agg [iv (vCmp 6 y x).fst.kind, iv (vCmp 6 y x).fst.int, sv (vCmp 6 y x).fst.text], iv (vCmp 6 y x).snd]), (15, AV.agg [iv (vCmp 6 y x).fst.kind, iv (vCmp 6 y x).fst.int, sv (vCmp 6 y x).fst.text]), (16, iv (vCmp 6 y x).snd), (17, iv (vCmp 6 y x).snd), (18, AV.bl false), (21, AV.tup [AV.agg [iv (vCmp 6 x z).fst.kind, iv (vCmp 6 x z).fst.int, sv (vCmp 6 x z).fst.text], iv (vCmp 6 x z).snd]), (22, AV.sl [[iv x.kind, iv x.int, sv x.text], [iv y.kind, iv y.int, sv y.text], [iv z.kind, iv z.int, sv z.text]]), (23, AV.dp [iv x.kind, iv x.int, sv x.text]), (24, AV.agg [iv x.kind, iv x.int, sv x.text]), (25, AV.sl [[iv x.kind, iv x.int, sv x.text], [iv y.kind, iv y.int, sv y.text], [iv z.kind, iv z.int, sv z.text]]), (26, AV.dp [iv z.kind, iv z.int, sv z.text]), (27, AV.agg [iv z.kind, iv z.int, sv z.text]), (28, AV.tup [AV.agg [iv (vCmp 6 x z).fst.kind, iv (vCmp 6 x z).fst.int, sv (vCmp 6 x z).fst.text], iv (vCmp 6 x z).snd]), (29, AV.agg [iv (vCmp 6 x z).fst.kind, iv (vCmp 6 x z).fst.int, sv (vCmp 6 x z).fst.text]), (30, iv (vCmp 6 x z).snd)] [Blk.box [iv 0, iv 0, sv (ByteArray.mk #[])], Blk.box [iv (vCmp 6 y x).fst.kind, iv (vCmp 6 y x).fst.int, sv (vCmp 6 y x).fst.text], Blk.box [iv (vCmp 6 x z).fst.kind, iv (vCmp 6 x z).fst.int, sv (vCmp 6 x z).fst.text]], sb h2] (by kernel_rfl)
  · exact wk At.evaluate_between [sdm [(1, [se (xs := [[iv x.kind, iv x.int, sv x.text], [iv y.kind, iv y.int, sv y.text], [iv z.kind, iv z.int, sv z.text]]) (i := 1) (c := [iv y.kind, iv y.int, sv y.text]) (n := 3) ⟨by decide, rfl, rfl⟩]), (4, [se (xs := [[iv x.kind, iv x.int, sv x.text], [iv y.kind, iv y.int, sv y.text], [iv z.kind, iv z.int, sv z.text]]) (i := 0) (c := [iv x.kind, iv x.int, sv x.text]) (n := 3) ⟨by decide, rfl, rfl⟩]), (6, [sc (k_evaluate_comparison (6) (y) (x) (by first | assumption | exact arrCmp _ _ (by decide) | exact vCmp_small _ _ _))])] 0 [(0, AV.sl [[iv x.kind, iv x.int, sv x.text], [iv y.kind, iv y.int, sv y.text], [iv z.kind, iv z.int, sv z.text]]), (2, AV.p 0 0), (3, iv 0), (4, AV.p 1 0), (5, iv (vCmp 6 y x).snd), (7, AV.tup [AV.agg [iv (vCmp 6 y x).fst.kind, iv (vCmp 6 y x).fst.int, sv (vCmp 6 y x).fst.text], iv (vCmp 6 y x).snd]), (8, AV.sl [[iv x.kind, iv x.int, sv x.text], [iv y.kind, iv y.int, sv y.text], [iv z.kind, iv z.int, sv z.text]]), (9, AV.dp [iv y.kind, iv y.int, sv y.text]), (10, AV.agg [iv y.kind, iv y.int, sv y.text]), (11, AV.sl [[iv x.kind, iv x.int, sv x.text], [iv y.kind, iv y.int, sv y.text], [iv z.kind, iv z.int, sv z.text]]), (12, AV.dp [iv x.kind, iv x.int, sv x.text]), (13, AV.agg [iv x.kind, iv x.int, sv x.text]), (14, AV.tup [AV.agg [iv (vCmp 6 y x).fst.kind, iv (vCmp 6 y x).fst.int, sv (vCmp 6 y x).fst.text], iv (vCmp 6 y x).snd]), (15, AV.agg [iv (vCmp 6 y x).fst.kind, iv (vCmp 6 y x).fst.int, sv (vCmp 6 y x).fst.text]), (16, iv (vCmp 6 y x).snd)] [Blk.box [iv 0, iv 0, sv (ByteArray.mk #[])], Blk.box [iv (vCmp 6 y x).fst.kind, iv (vCmp 6 y x).fst.int, sv (vCmp 6 y x).fst.text]], sb h1] (by kernel_rfl)
def opIsNull (op : Int) (nt : Bool) (a : V) : V × Int :=
  (V.mk (2 : Int) (if (!(a.kind == (0 : Int)) == nt) = true then (1 : Int) else (0 : Int)) (ByteArray.mk #[]), 0)
theorem k_evaluate_operation__IsNull (op : Int) (nt : Bool) (a : V) (val : V) (tn nm : Str) (xs : List X) (qs : List Qy)  : ACallsTo E0 S.evaluate_operation [X.av (.mk 6 op nt val tn nm xs qs), vsl [a]] [] (.tup [(opIsNull op nt a).1.av, iv (opIsNull op nt a).2]) [] := by
  exact wk At.evaluate_operation [sb (rfl : true = true), sd [(1, [se (xs := [[iv a.kind, iv a.int, sv a.text]]) (i := 0) (c := [iv a.kind, iv a.int, sv a.text]) (n := 3) ⟨by decide, rfl, rfl⟩]), (3, [sc (k_evaluate_isNull (a))]), (7, [sc (k_value_Truth (!(a.kind == 0) == nt))])]] (by kernel_rfl)
def opNot (op : Int) (nt : Bool) (a : V) : V × Int :=
  ((vTruth (lnot a).fst (lnot a).snd).fst, (vTruth (lnot a).fst (lnot a).snd).snd)
theorem k_evaluate_operation__Not (op : Int) (nt : Bool) (a : V) (val : V) (tn nm : Str) (xs : List X) (qs : List Qy) (ha : a.small) : ACallsTo E0 S.evaluate_operation [X.av (.mk 3 op nt val tn nm xs qs), vsl [a]] [] (.tup [(opNot op nt a).1.av, iv (opNot op nt a).2]) [] := by
  exact wk At.evaluate_operation [sb (rfl : false = false), sb (rfl : true = true), se (xs := [[iv a.kind, iv a.int, sv a.text]]) (i := 0) (c := [iv a.kind, iv a.int, sv a.text]) (n := 3) ⟨by decide, rfl, rfl⟩, sc (k_logic_Not (a) (by first | assumption | exact arrCmp _ _ (by simp_all; omega))), sc (k_evaluate_truth ((lnot a).fst) ((lnot a).snd))] (by kernel_rfl)
def opNeg (op : Int) (nt : Bool) (a : V) : V × Int :=
  ((vArith 10 (V.mk 1 0 (ByteArray.mk #[])) a).fst, (vArith 10 (V.mk 1 0 (ByteArray.mk #[])) a).snd)
theorem k_evaluate_operation__Neg (op : Int) (nt : Bool) (a : V) (val : V) (tn nm : Str) (xs : List X) (qs : List Qy)  : ACallsTo E0 S.evaluate_operation [X.av (.mk 4 op nt val tn nm xs qs), vsl [a]] [] (.tup [(opNeg op nt a).1.av, iv (opNeg op nt a).2]) [] := by
  exact wk At.evaluate_operation [sb (rfl : false = false), sb (rfl : false = false), sb (rfl : false = false), sb (rfl : true = true), sd [(2, [se (xs := [[iv a.kind, iv a.int, sv a.text]]) (i := 0) (c := [iv a.kind, iv a.int, sv a.text]) (n := 3) ⟨by decide, rfl, rfl⟩]), (0, [sc (k_value_Number (0))]), (4, [sc (k_evaluate_arithmetic (10) (V.mk 1 0 (ByteArray.mk #[])) (a))])]] (by kernel_rfl)
def opBet (op : Int) (nt : Bool) (a b c : V) : V × Int :=
  ((vBetween a b c).fst, (vBetween a b c).snd)
theorem k_evaluate_operation__Bet (op : Int) (nt : Bool) (a b c : V) (val : V) (tn nm : Str) (xs : List X) (qs : List Qy)  : ACallsTo E0 S.evaluate_operation [X.av (.mk 7 op nt val tn nm xs qs), vsl [a, b, c]] [] (.tup [(opBet op nt a b c).1.av, iv (opBet op nt a b c).2]) [] := by
  exact wk At.evaluate_operation [sb (rfl : false = false), sb (rfl : false = false), sb (rfl : true = true), sc (k_evaluate_between (a) (b) (c))] (by kernel_rfl)
def opBin (op : Int) (nt : Bool) (a b : V) : V × Int :=
  bif op == 2 then
    ((vTruth (land a b).fst (land a b).snd).fst, (vTruth (land a b).fst (land a b).snd).snd)
  else
    bif op == 1 then
      ((vTruth (lor a b).fst (lor a b).snd).fst, (vTruth (lor a b).fst (lor a b).snd).snd)
    else
      bif decide (op ≤ 8) then
        ((vCmp op a b).fst, (vCmp op a b).snd)
      else
        ((vArith op a b).fst, (vArith op a b).snd)
theorem k_evaluate_operation__Bin (op : Int) (nt : Bool) (a b : V) (val : V) (tn nm : Str) (xs : List X) (qs : List Qy) (ha : a.small) (hb : b.small) (ho : 1 ≤ op ∧ op ≤ 13) : ACallsTo E0 S.evaluate_operation [X.av (.mk 5 op nt val tn nm xs qs), vsl [a, b]] [] (.tup [(opBin op nt a b).1.av, iv (opBin op nt a b).2]) [] := by
  unfold opBin
  cases h1 : op == 2
  · cases h2 : op == 1
    · cases h3 : decide (op ≤ 8)
      · exact wk At.evaluate_operation [sb (rfl : false = false), sb (rfl : false = false), sb (rfl : false = false), sb (rfl : false = false), sb h1, sb h2, sb h3, sd [(3, [se (xs := [[iv a.kind, iv a.int, sv a.text], [iv b.kind, iv b.int, sv b.text]]) (i := 0) (c := [iv a.kind, iv a.int, sv a.text]) (n := 3) ⟨by decide, rfl, rfl⟩]), (6, [se (xs := [[iv a.kind, iv a.int, sv a.text], [iv b.kind, iv b.int, sv b.text]]) (i := 1) (c := [iv b.kind, iv b.int, sv b.text]) (n := 3) ⟨by decide, rfl, rfl⟩]), (8, [sc (k_evaluate_arithmetic (op) (a) (b))])]] (by kernel_rfl)
      · exact wk At.evaluate_operation [sb (rfl : false = false), sb (rfl : false = false), sb (rfl : false = false), sb (rfl : false = false), sb h1, sb h2, sb h3, sd [(3, [se (xs := [[iv a.kind, iv a.int, sv a.text], [iv b.kind, iv b.int, sv b.text]]) (i := 0) (c := [iv a.kind, iv a.int, sv a.text]) (n := 3) ⟨by decide, rfl, rfl⟩]), (6, [se (xs := [[iv a.kind, iv a.int, sv a.text], [iv b.kind, iv b.int, sv b.text]]) (i := 1) (c := [iv b.kind, iv b.int, sv b.text]) (n := 3) ⟨by decide, rfl, rfl⟩]), (8, [sc (k_evaluate_comparison (op) (a) (b) (by first | assumption | exact arrCmp _ _ (by simp_all; omega)))])]] (by kernel_rfl)
    · exact wk At.evaluate_operation [sb (rfl : false = false), sb (rfl : false = false), sb (rfl : false = false), sb (rfl : false = false), sb h1, sb h2, sd [(1, [se (xs := [[iv a.kind, iv a.int, sv a.text], [iv b.kind, iv b.int, sv b.text]]) (i := 0) (c := [iv a.kind, iv a.int, sv a.text]) (n := 3) ⟨by decide, rfl, rfl⟩]), (4, [se (xs := [[iv a.kind, iv a.int, sv a.text], [iv b.kind, iv b.int, sv b.text]]) (i := 1) (c := [iv b.kind, iv b.int, sv b.text]) (n := 3) ⟨by decide, rfl, rfl⟩]), (6, [sc (k_logic_Or (a) (b) (by first | assumption | exact arrCmp _ _ (by simp_all; omega)) (by first | assumption | exact arrCmp _ _ (by simp_all; omega)))]), (9, [sc (k_evaluate_truth ((lor a b).fst) ((lor a b).snd))])]] (by kernel_rfl)
  · exact wk At.evaluate_operation [sb (rfl : false = false), sb (rfl : false = false), sb (rfl : false = false), sb (rfl : false = false), sb h1, sd [(1, [se (xs := [[iv a.kind, iv a.int, sv a.text], [iv b.kind, iv b.int, sv b.text]]) (i := 0) (c := [iv a.kind, iv a.int, sv a.text]) (n := 3) ⟨by decide, rfl, rfl⟩]), (4, [se (xs := [[iv a.kind, iv a.int, sv a.text], [iv b.kind, iv b.int, sv b.text]]) (i := 1) (c := [iv b.kind, iv b.int, sv b.text]) (n := 3) ⟨by decide, rfl, rfl⟩]), (6, [sc (k_logic_And (a) (b) (by first | assumption | exact arrCmp _ _ (by simp_all; omega)) (by first | assumption | exact arrCmp _ _ (by simp_all; omega)))]), (9, [sc (k_evaluate_truth ((land a b).fst) ((land a b).snd))])]] (by kernel_rfl)
end Go.AM

namespace Go.AM
set_option maxRecDepth 100000
set_option linter.unusedSimpArgs false
set_option linter.unusedVariables false

abbrev Short {α : Type} (l : List α) : Prop := l.length ≤ 1000000000
def idxF {α : Type} (p : α → Bool) : List α → Nat → Int
  | [], _ => -1
  | x :: r, i => bif p x then (i : Int) else idxF p r (i + 1)
theorem idxF_at {α : Type} (p : α → Bool) : ∀ (l : List α) (i : Nat), (idxF p l i = -1 ∧ l.find? p = none) ∨ ∃ (j : Nat) (x : α), idxF p l i = ((i + j : Nat) : Int) ∧ l[j]? = some x ∧ l.find? p = some x
  | [], i => .inl ⟨rfl, rfl⟩
  | x :: r, i => by
    cases hp : p x
    · rcases idxF_at p r (i + 1) with ⟨h1, h2⟩ | ⟨j, y, h1, h2, h3⟩
      · exact .inl ⟨by simp [idxF, hp, h1], by simp [hp, h2]⟩
      · exact .inr ⟨j + 1, y, by simp only [idxF, hp, cond_false, h1]; omega, by simpa using h2, by simp [hp, h3]⟩
    · exact .inr ⟨0, x, by simp [idxF, hp], by simp, by simp [hp]⟩

def findC (t : Tb) (n : Str) : Bool :=
  ByteArray.toList t.sch.name == ByteArray.toList n
theorem k_evaluate_find_c1 (t : Tb) (n : Str)  : ACallsTo E0 S.evaluate_find_c1 [t.av, .p 0 0] [.box [sv n]] (bv (findC t n)) [.box [sv n]] := by
  exact walkH E0ok mix0 At.evaluate_find_c1 rfl (by kernel_rfl) (by kernel_rfl) 3000 (y := AV.v (Value.bool (ByteArray.toList t.sch.name == ByteArray.toList n))) (H := [Blk.box [AV.v (Value.string n)]]) [] (by kernel_rfl) (⟨rfl, rfl⟩)
def colC (t : Col) (n : Str) : Bool :=
  ByteArray.toList t.name == ByteArray.toList n
theorem k_schema_Find_c1 (t : Col) (n : Str)  : ACallsTo E0 S.schema_Find_c1 [.agg t.cells, .p 0 0] [.box [sv n]] (bv (colC t n)) [.box [sv n]] := by
  exact walkH E0ok mix0 At.schema_Find_c1 rfl (by kernel_rfl) (by kernel_rfl) 3000 (y := AV.v (Value.bool (ByteArray.toList t.name == ByteArray.toList n))) (H := [Blk.box [AV.v (Value.string n)]]) [] (by kernel_rfl) (⟨rfl, rfl⟩)
noncomputable def L_ixT (tb : List Tb) (n : Str) (i : Nat) : Cfg := loopAt B.slices_IndexFunc_Table 0 [(0, .sl (tb.map Tb.cells)), (1, .fn S.evaluate_find_c1 [.p 0 0]), (7, iv ((tb.map Tb.cells).length : Nat)), (8, iv (i : Nat))] [.box [sv n]]
theorem k_ixT_loop (tb : List Tb) (n : Str) (hl : Short tb) : ∀ (k i : Nat), i + k = tb.length → Good E0 B.slices_IndexFunc_Table [.box [sv n]] (L_ixT tb n i) (Shut 1 fun r h => r = iv (idxF (fun t => findC t n) (tb.drop i) i) ∧ h = [.box [sv n]]) := by
  intro k
  induction k with
  | zero =>
    intro i hi
    refine good_unroll ?_
    have h0 : decide ((i : Int) < (((tb.map Tb.cells).length : Nat) : Int)) = false := by simp; omega
    have e0 : tb.drop i = [] := List.drop_of_length_le (by omega)
    rw [e0]
    exact toRet E0ok mix0 3000 (y := AV.v (Value.int IntKind.i64 (-1 : Int))) (H := [Blk.box [AV.v (Value.string n)]]) [sb h0] (by kernel_rfl) (⟨rfl, rfl⟩)
  | succ k ih =>
    intro i hi
    have ih := ih (i + 1) (by omega)
    obtain ⟨x, hx⟩ := ex_at (l := tb) (i := i) (by omega)
    have h0 : decide ((i : Int) < (((tb.map Tb.cells).length : Nat) : Int)) = true := by simp; omega
    have hw := wrap_nat i (by omega)
    rw [drop_at hx]
    simp only [idxF]
    refine good_unroll ?_
    cases h1 : findC x n
    · exact toLoop E0ok mix0 3000 (c' := L_ixT tb n (i + (1 : Nat))) [sb h0, se (elAt_map (Tb.cells) hx rfl), sl [(0 : Nat)] (k_evaluate_find_c1 (x) (n)), sb h1, si hw] [0, 1, 7, 8] 1 (by kernel_rfl) (by kernel_rfl) (by simpa only [cond_true, cond_false, h1] using ih)
    · exact toRet E0ok mix0 3000 (y := AV.v (Value.int IntKind.i64 (↑i : Int))) (H := [Blk.box [AV.v (Value.string n)]]) [sb h0, se (elAt_map (Tb.cells) hx rfl), sl [(0 : Nat)] (k_evaluate_find_c1 (x) (n)), sb h1] (by kernel_rfl) (⟨by simp only [cond_true, cond_false, h1], rfl⟩)

theorem k_slices_IndexFunc_Table (tb : List Tb) (n : Str) (hl : Short tb) : ACallsTo E0 S.slices_IndexFunc_Table [.sl (tb.map Tb.cells), .fn S.evaluate_find_c1 [.p 0 0]] [.box [sv n]] (iv (idxF (fun t => findC t n) tb 0)) [.box [sv n]] := by
  exact fromCall E0ok mix0 At.slices_IndexFunc_Table rfl (by kernel_rfl) (by kernel_rfl) 3000 (c' := L_ixT tb n (0 : Nat)) [] [0, 1, 7, 8] 1 (by kernel_rfl) (by kernel_rfl) (by simpa using k_ixT_loop tb n hl tb.length 0 (by simp))

noncomputable def L_ixC (tb : List Col) (n : Str) (i : Nat) : Cfg := loopAt B.slices_IndexFunc_Column 0 [(0, .sl (tb.map Col.cells)), (1, .fn S.schema_Find_c1 [.p 0 0]), (7, iv ((tb.map Col.cells).length : Nat)), (8, iv (i : Nat))] [.box [sv n]]
theorem k_ixC_loop (tb : List Col) (n : Str) (hl : Short tb) : ∀ (k i : Nat), i + k = tb.length → Good E0 B.slices_IndexFunc_Column [.box [sv n]] (L_ixC tb n i) (Shut 1 fun r h => r = iv (idxF (fun t => colC t n) (tb.drop i) i) ∧ h = [.box [sv n]]) := by
  intro k
  induction k with
  | zero =>
    intro i hi
    refine good_unroll ?_
    have h0 : decide ((i : Int) < (((tb.map Col.cells).length : Nat) : Int)) = false := by simp; omega
    have e0 : tb.drop i = [] := List.drop_of_length_le (by omega)
    rw [e0]
    exact toRet E0ok mix0 3000 (y := AV.v (Value.int IntKind.i64 (-1 : Int))) (H := [Blk.box [AV.v (Value.string n)]]) [sb h0] (by kernel_rfl) (⟨rfl, rfl⟩)
  | succ k ih =>
    intro i hi
    have ih := ih (i + 1) (by omega)
    obtain ⟨x, hx⟩ := ex_at (l := tb) (i := i) (by omega)
    have h0 : decide ((i : Int) < (((tb.map Col.cells).length : Nat) : Int)) = true := by simp; omega
    have hw := wrap_nat i (by omega)
    rw [drop_at hx]
    simp only [idxF]
    refine good_unroll ?_
    cases h1 : colC x n
    · exact toLoop E0ok mix0 3000 (c' := L_ixC tb n (i + (1 : Nat))) [sb h0, se (elAt_map (Col.cells) hx rfl), sl [(0 : Nat)] (k_schema_Find_c1 (x) (n)), sb h1, si hw] [0, 1, 7, 8] 1 (by kernel_rfl) (by kernel_rfl) (by simpa only [cond_true, cond_false, h1] using ih)
    · exact toRet E0ok mix0 3000 (y := AV.v (Value.int IntKind.i64 (↑i : Int))) (H := [Blk.box [AV.v (Value.string n)]]) [sb h0, se (elAt_map (Col.cells) hx rfl), sl [(0 : Nat)] (k_schema_Find_c1 (x) (n)), sb h1] (by kernel_rfl) (⟨by simp only [cond_true, cond_false, h1], rfl⟩)

theorem k_slices_IndexFunc_Column (tb : List Col) (n : Str) (hl : Short tb) : ACallsTo E0 S.slices_IndexFunc_Column [.sl (tb.map Col.cells), .fn S.schema_Find_c1 [.p 0 0]] [.box [sv n]] (iv (idxF (fun t => colC t n) tb 0)) [.box [sv n]] := by
  exact fromCall E0ok mix0 At.slices_IndexFunc_Column rfl (by kernel_rfl) (by kernel_rfl) 3000 (c' := L_ixC tb n (0 : Nat)) [] [0, 1, 7, 8] 1 (by kernel_rfl) (by kernel_rfl) (by simpa using k_ixC_loop tb n hl tb.length 0 (by simp))

def findS (tb : List Tb) (n : Str) : Option Tb := tb.find? fun t => findC t n
theorem k_evaluate_find__1 (tb : List Tb) (n : Str) (hl : Short tb) (t : Tb) (h : findS tb n = some t) : Pure S.evaluate_find [tsl tb, sv n] (.tup [t.av, bv true]) := by
  have hk := k_slices_IndexFunc_Table tb n hl
  rcases idxF_at (fun t => findC t n) tb 0 with ⟨_, h2⟩ | ⟨j, y, h1, hx, h3⟩
  · rw [findS, h2] at h; cases h
  rw [findS, h3] at h
  cases h
  rw [Nat.zero_add] at h1
  rw [h1] at hk
  have h4 : decide (((j : Nat) : Int) < 0) = false := by simp
  exact walk E0ok mix0 At.evaluate_find rfl (by kernel_rfl) (by kernel_rfl) 3000 (y := AV.tup [AV.agg [AV.v (Value.string t.sch.name), AV.sl (List.map Col.cells t.sch.cols), AV.v (Value.int IntKind.i64 t.next), AV.sl (List.map Rw.cells t.rows)], AV.v (Value.bool true)]) [sl [(0 : Nat)] (hk ), sb (rfl : false = false), se (elAt_map (Tb.cells) hx rfl)] (by kernel_rfl) (rfl)

def Tb.zero : Tb := ⟨⟨⟨#[]⟩, []⟩, 0, []⟩
theorem k_evaluate_find__0 (tb : List Tb) (n : Str) (hl : Short tb) (h : findS tb n = none) : Pure S.evaluate_find [tsl tb, sv n] (.tup [Tb.zero.av, bv false]) := by
  have hk := k_slices_IndexFunc_Table tb n hl
  rcases idxF_at (fun t => findC t n) tb 0 with ⟨h1, _⟩ | ⟨j, y, h1, hx, h3⟩
  · rw [h1] at hk
    exact walk E0ok mix0 At.evaluate_find rfl (by kernel_rfl) (by kernel_rfl) 3000 (y := AV.tup [AV.agg [AV.v (Value.string (ByteArray.mk #[])), AV.sl [], AV.v (Value.int IntKind.i64 (0 : Int)), AV.sl []], AV.v (Value.bool false)]) [sl [(0 : Nat)] (hk ), sb (rfl : true = true)] (by kernel_rfl) (rfl)
  · rw [findS, h3] at h; cases h

theorem k_schema_Find (s : Sch) (n : Str) (hl : Short s.cols) : Pure S.schema_Find [s.av, sv n] (iv (idxF (fun c => colC c n) s.cols 0)) := by
  exact walk E0ok mix0 At.schema_Find rfl (by kernel_rfl) (by kernel_rfl) 3000 (y := AV.v (Value.int IntKind.i64 (idxF (fun t => colC t n) s.cols (0 : Nat)))) [sl [(1 : Nat)] (k_slices_IndexFunc_Column (s.cols) (n) (by first | assumption | (simp; done) | omega | (simp; omega)))] (by kernel_rfl) (rfl)

def formed1 (kind op : Int) (xs : List X) (qs : List Qy) (it wh : List X) : Bool :=
  bif kind == (1 : Int) then
    bif (↑(cellsX xs).length : Int) != (0 : Int) then
      false
    else
      bif (↑(cellsQ qs).length : Int) != (0 : Int) then
        false
      else
        true
  else
    bif kind == (2 : Int) then
      bif (↑(cellsX xs).length : Int) != (0 : Int) then
        false
      else
        bif (↑(cellsQ qs).length : Int) != (0 : Int) then
          false
        else
          true
    else
      bif kind == (3 : Int) then
        bif (↑(cellsX xs).length : Int) != (1 : Int) then
          false
        else
          bif (↑(cellsQ qs).length : Int) != (0 : Int) then
            false
          else
            true
      else
        bif kind == (4 : Int) then
          bif (↑(cellsX xs).length : Int) != (1 : Int) then
            false
          else
            bif (↑(cellsQ qs).length : Int) != (0 : Int) then
              false
            else
              true
        else
          bif kind == (6 : Int) then
            bif (↑(cellsX xs).length : Int) != (1 : Int) then
              false
            else
              bif (↑(cellsQ qs).length : Int) != (0 : Int) then
                false
              else
                true
          else
            bif kind == (5 : Int) then
              bif decide (op < (1 : Int)) then
                false
              else
                bif decide ((13 : Int) < op) then
                  false
                else
                  bif (↑(cellsX xs).length : Int) != (2 : Int) then
                    false
                  else
                    bif (↑(cellsQ qs).length : Int) != (0 : Int) then
                      false
                    else
                      true
            else
              bif kind == (7 : Int) then
                bif (↑(cellsX xs).length : Int) != (3 : Int) then
                  false
                else
                  bif (↑(cellsQ qs).length : Int) != (0 : Int) then
                    false
                  else
                    true
              else
                bif kind == (8 : Int) then
                  bif (↑(cellsX xs).length : Int) != (0 : Int) then
                    false
                  else
                    bif (↑(cellsQ qs).length : Int) != (1 : Int) then
                      false
                    else
                      bif (↑(cellsX it).length : Int) == (0 : Int) then
                        decide ((↑(cellsX wh).length : Int) ≤ (1 : Int))
                      else
                        false
                else
                  bif kind == (9 : Int) then
                    bif (↑(cellsX xs).length : Int) != (0 : Int) then
                      false
                    else
                      bif (↑(cellsQ qs).length : Int) != (1 : Int) then
                        false
                      else
                        bif (↑(cellsX it).length : Int) == (0 : Int) then
                          decide ((↑(cellsX wh).length : Int) ≤ (1 : Int))
                        else
                          false
                  else
                    bif kind == (10 : Int) then
                      bif (↑(cellsX xs).length : Int) != (0 : Int) then
                        false
                      else
                        bif (↑(cellsQ qs).length : Int) != (1 : Int) then
                          false
                        else
                          bif (↑(cellsX it).length : Int) == (1 : Int) then
                            decide ((↑(cellsX wh).length : Int) ≤ (1 : Int))
                          else
                            false
                    else
                      bif kind == (11 : Int) then
                        bif (↑(cellsX xs).length : Int) != (0 : Int) then
                          false
                        else
                          bif (↑(cellsQ qs).length : Int) != (1 : Int) then
                            false
                          else
                            bif (↑(cellsX it).length : Int) == (1 : Int) then
                              decide ((↑(cellsX wh).length : Int) ≤ (1 : Int))
                            else
                              false
                      else
                        bif kind == (12 : Int) then
                          bif (↑(cellsX xs).length : Int) != (0 : Int) then
                            false
                          else
                            bif (↑(cellsQ qs).length : Int) != (1 : Int) then
                              false
                            else
                              bif (↑(cellsX it).length : Int) == (1 : Int) then
                                decide ((↑(cellsX wh).length : Int) ≤ (1 : Int))
                              else
                                false
                        else
                          false
theorem k_scope_Formed__1 (kind op : Int) (xs : List X) (qs : List Qy) (it wh : List X) (nt : Bool) (val : V) (tn nm : Str) (st : Bool) (fm : Str) (hq : qs[0]? = some (Qy.mk st it fm wh)) : ACallsTo E0 S.scope_Formed [X.av (.mk kind op nt val tn nm xs qs)] [] (bv (formed1 kind op xs qs it wh)) [] := by
  cases h1 : kind == (1 : Int)
  · cases h2 : kind == (2 : Int)
    · cases h3 : kind == (3 : Int)
      · cases h4 : kind == (4 : Int)
        · cases h5 : kind == (6 : Int)
          · cases h6 : kind == (5 : Int)
            · cases h7 : kind == (7 : Int)
              · cases h8 : kind == (8 : Int)
                · cases h9 : kind == (9 : Int)
                  · cases h10 : kind == (10 : Int)
                    · cases h11 : kind == (11 : Int)
                      · cases h12 : kind == (12 : Int)
                        · exact walk E0ok mix0 At.scope_Formed rfl (by kernel_rfl) (by kernel_rfl) 3000 (y := AV.v (Value.bool false)) [sb h1, sb h2, sb h3, sb h4, sb h5, sb h6, sb h7, sb h8, sb h9, sb h10, sb h11, sb h12] (by kernel_rfl) (by simp only [formed1, cond_true, cond_false, h1, h2, h3, h4, h5, h6, h7, h8, h9, h10, h11, h12] <;> rfl)
                        · cases h13 : (↑(cellsX xs).length : Int) != (0 : Int)
                          · cases h14 : (↑(cellsQ qs).length : Int) != (1 : Int)
                            · cases h15 : (↑(cellsX it).length : Int) == (1 : Int)
                              · exact walk E0ok mix0 At.scope_Formed rfl (by kernel_rfl) (by kernel_rfl) 3000 (y := AV.v (Value.bool false)) [sb h1, sb h2, sb h3, sb h4, sb h5, sb h6, sb h7, sb h8, sb h9, sb h10, sb h11, sb h12, sg h13, sb h14, sg (rfl : false = false), se (elAt_Q hq), sb h15] (by kernel_rfl) (by simp only [formed1, cond_true, cond_false, h1, h2, h3, h4, h5, h6, h7, h8, h9, h10, h11, h12, h13, h14, h15] <;> rfl)
                              · exact walk E0ok mix0 At.scope_Formed rfl (by kernel_rfl) (by kernel_rfl) 3000 (y := AV.v (Value.bool (decide ((↑(cellsX wh).length : Int) ≤ (1 : Int))))) [sb h1, sb h2, sb h3, sb h4, sb h5, sb h6, sb h7, sb h8, sb h9, sb h10, sb h11, sb h12, sg h13, sb h14, sg (rfl : false = false), se (elAt_Q hq), sg h15, se (elAt_Q hq)] (by kernel_rfl) (by simp only [formed1, cond_true, cond_false, h1, h2, h3, h4, h5, h6, h7, h8, h9, h10, h11, h12, h13, h14, h15] <;> rfl)
                            · exact walk E0ok mix0 At.scope_Formed rfl (by kernel_rfl) (by kernel_rfl) 3000 (y := AV.v (Value.bool false)) [sb h1, sb h2, sb h3, sb h4, sb h5, sb h6, sb h7, sb h8, sb h9, sb h10, sb h11, sb h12, sg h13, sb h14] (by kernel_rfl) (by simp only [formed1, cond_true, cond_false, h1, h2, h3, h4, h5, h6, h7, h8, h9, h10, h11, h12, h13, h14] <;> rfl)
                          · exact walk E0ok mix0 At.scope_Formed rfl (by kernel_rfl) (by kernel_rfl) 3000 (y := AV.v (Value.bool false)) [sb h1, sb h2, sb h3, sb h4, sb h5, sb h6, sb h7, sb h8, sb h9, sb h10, sb h11, sb h12, sb h13] (by kernel_rfl) (by simp only [formed1, cond_true, cond_false, h1, h2, h3, h4, h5, h6, h7, h8, h9, h10, h11, h12, h13] <;> rfl)
                      · cases h16 : (↑(cellsX xs).length : Int) != (0 : Int)
                        · cases h17 : (↑(cellsQ qs).length : Int) != (1 : Int)
                          · cases h18 : (↑(cellsX it).length : Int) == (1 : Int)
                            · exact walk E0ok mix0 At.scope_Formed rfl (by kernel_rfl) (by kernel_rfl) 3000 (y := AV.v (Value.bool false)) [sb h1, sb h2, sb h3, sb h4, sb h5, sb h6, sb h7, sb h8, sb h9, sb h10, sb h11, sg h16, sb h17, sg (rfl : false = false), se (elAt_Q hq), sb h18] (by kernel_rfl) (by simp only [formed1, cond_true, cond_false, h1, h2, h3, h4, h5, h6, h7, h8, h9, h10, h11, h16, h17, h18] <;> rfl)
                            · exact walk E0ok mix0 At.scope_Formed rfl (by kernel_rfl) (by kernel_rfl) 3000 (y := AV.v (Value.bool (decide ((↑(cellsX wh).length : Int) ≤ (1 : Int))))) [sb h1, sb h2, sb h3, sb h4, sb h5, sb h6, sb h7, sb h8, sb h9, sb h10, sb h11, sg h16, sb h17, sg (rfl : false = false), se (elAt_Q hq), sg h18, se (elAt_Q hq)] (by kernel_rfl) (by simp only [formed1, cond_true, cond_false, h1, h2, h3, h4, h5, h6, h7, h8, h9, h10, h11, h16, h17, h18] <;> rfl)
                          · exact walk E0ok mix0 At.scope_Formed rfl (by kernel_rfl) (by kernel_rfl) 3000 (y := AV.v (Value.bool false)) [sb h1, sb h2, sb h3, sb h4, sb h5, sb h6, sb h7, sb h8, sb h9, sb h10, sb h11, sg h16, sb h17] (by kernel_rfl) (by simp only [formed1, cond_true, cond_false, h1, h2, h3, h4, h5, h6, h7, h8, h9, h10, h11, h16, h17] <;> rfl)
                        · exact walk E0ok mix0 At.scope_Formed rfl (by kernel_rfl) (by kernel_rfl) 3000 (y := AV.v (Value.bool false)) [sb h1, sb h2, sb h3, sb h4, sb h5, sb h6, sb h7, sb h8, sb h9, sb h10, sb h11, sb h16] (by kernel_rfl) (by simp only [formed1, cond_true, cond_false, h1, h2, h3, h4, h5, h6, h7, h8, h9, h10, h11, h16] <;> rfl)
                    · cases h19 : (↑(cellsX xs).length : Int) != (0 : Int)
                      · cases h20 : (↑(cellsQ qs).length : Int) != (1 : Int)
                        · cases h21 : (↑(cellsX it).length : Int) == (1 : Int)
                          · exact walk E0ok mix0 At.scope_Formed rfl (by kernel_rfl) (by kernel_rfl) 3000 (y := AV.v (Value.bool false)) [sb h1, sb h2, sb h3, sb h4, sb h5, sb h6, sb h7, sb h8, sb h9, sb h10, sg h19, sb h20, sg (rfl : false = false), se (elAt_Q hq), sb h21] (by kernel_rfl) (by simp only [formed1, cond_true, cond_false, h1, h2, h3, h4, h5, h6, h7, h8, h9, h10, h19, h20, h21] <;> rfl)
                          · exact walk E0ok mix0 At.scope_Formed rfl (by kernel_rfl) (by kernel_rfl) 3000 (y := AV.v (Value.bool (decide ((↑(cellsX wh).length : Int) ≤ (1 : Int))))) [sb h1, sb h2, sb h3, sb h4, sb h5, sb h6, sb h7, sb h8, sb h9, sb h10, sg h19, sb h20, sg (rfl : false = false), se (elAt_Q hq), sg h21, se (elAt_Q hq)] (by kernel_rfl) (by simp only [formed1, cond_true, cond_false, h1, h2, h3, h4, h5, h6, h7, h8, h9, h10, h19, h20, h21] <;> rfl)
                        · exact walk E0ok mix0 At.scope_Formed rfl (by kernel_rfl) (by kernel_rfl) 3000 (y := AV.v (Value.bool false)) [sb h1, sb h2, sb h3, sb h4, sb h5, sb h6, sb h7, sb h8, sb h9, sb h10, sg h19, sb h20] (by kernel_rfl) (by simp only [formed1, cond_true, cond_false, h1, h2, h3, h4, h5, h6, h7, h8, h9, h10, h19, h20] <;> rfl)
                      · exact walk E0ok mix0 At.scope_Formed rfl (by kernel_rfl) (by kernel_rfl) 3000 (y := AV.v (Value.bool false)) [sb h1, sb h2, sb h3, sb h4, sb h5, sb h6, sb h7, sb h8, sb h9, sb h10, sb h19] (by kernel_rfl) (by simp only [formed1, cond_true, cond_false, h1, h2, h3, h4, h5, h6, h7, h8, h9, h10, h19] <;> rfl)
                  · cases h22 : (↑(cellsX xs).length : Int) != (0 : Int)
                    · cases h23 : (↑(cellsQ qs).length : Int) != (1 : Int)
                      · cases h24 : (↑(cellsX it).length : Int) == (0 : Int)
                        · exact walk E0ok mix0 At.scope_Formed rfl (by kernel_rfl) (by kernel_rfl) 3000 (y := AV.v (Value.bool false)) [sb h1, sb h2, sb h3, sb h4, sb h5, sb h6, sb h7, sb h8, sb h9, sg h22, sb h23, sg (rfl : false = false), se (elAt_Q hq), sb h24] (by kernel_rfl) (by simp only [formed1, cond_true, cond_false, h1, h2, h3, h4, h5, h6, h7, h8, h9, h22, h23, h24] <;> rfl)
                        · exact walk E0ok mix0 At.scope_Formed rfl (by kernel_rfl) (by kernel_rfl) 3000 (y := AV.v (Value.bool (decide ((↑(cellsX wh).length : Int) ≤ (1 : Int))))) [sb h1, sb h2, sb h3, sb h4, sb h5, sb h6, sb h7, sb h8, sb h9, sg h22, sb h23, sg (rfl : false = false), se (elAt_Q hq), sg h24, se (elAt_Q hq)] (by kernel_rfl) (by simp only [formed1, cond_true, cond_false, h1, h2, h3, h4, h5, h6, h7, h8, h9, h22, h23, h24] <;> rfl)
                      · exact walk E0ok mix0 At.scope_Formed rfl (by kernel_rfl) (by kernel_rfl) 3000 (y := AV.v (Value.bool false)) [sb h1, sb h2, sb h3, sb h4, sb h5, sb h6, sb h7, sb h8, sb h9, sg h22, sb h23] (by kernel_rfl) (by simp only [formed1, cond_true, cond_false, h1, h2, h3, h4, h5, h6, h7, h8, h9, h22, h23] <;> rfl)
                    · exact walk E0ok mix0 At.scope_Formed rfl (by kernel_rfl) (by kernel_rfl) 3000 (y := AV.v (Value.bool false)) [sb h1, sb h2, sb h3, sb h4, sb h5, sb h6, sb h7, sb h8, sb h9, sb h22] (by kernel_rfl) (by simp only [formed1, cond_true, cond_false, h1, h2, h3, h4, h5, h6, h7, h8, h9, h22] <;> rfl)
                · cases h25 : (↑(cellsX xs).length : Int) != (0 : Int)
                  · cases h26 : (↑(cellsQ qs).length : Int) != (1 : Int)
                    · cases h27 : (↑(cellsX it).length : Int) == (0 : Int)
                      · exact walk E0ok mix0 At.scope_Formed rfl (by kernel_rfl) (by kernel_rfl) 3000 (y := AV.v (Value.bool false)) [sb h1, sb h2, sb h3, sb h4, sb h5, sb h6, sb h7, sb h8, sg h25, sb h26, sg (rfl : false = false), se (elAt_Q hq), sb h27] (by kernel_rfl) (by simp only [formed1, cond_true, cond_false, h1, h2, h3, h4, h5, h6, h7, h8, h25, h26, h27] <;> rfl)
                      · exact walk E0ok mix0 At.scope_Formed rfl (by kernel_rfl) (by kernel_rfl) 3000 (y := AV.v (Value.bool (decide ((↑(cellsX wh).length : Int) ≤ (1 : Int))))) [sb h1, sb h2, sb h3, sb h4, sb h5, sb h6, sb h7, sb h8, sg h25, sb h26, sg (rfl : false = false), se (elAt_Q hq), sg h27, se (elAt_Q hq)] (by kernel_rfl) (by simp only [formed1, cond_true, cond_false, h1, h2, h3, h4, h5, h6, h7, h8, h25, h26, h27] <;> rfl)
                    · exact walk E0ok mix0 At.scope_Formed rfl (by kernel_rfl) (by kernel_rfl) 3000 (y := AV.v (Value.bool false)) [sb h1, sb h2, sb h3, sb h4, sb h5, sb h6, sb h7, sb h8, sg h25, sb h26] (by kernel_rfl) (by simp only [formed1, cond_true, cond_false, h1, h2, h3, h4, h5, h6, h7, h8, h25, h26] <;> rfl)
                  · exact walk E0ok mix0 At.scope_Formed rfl (by kernel_rfl) (by kernel_rfl) 3000 (y := AV.v (Value.bool false)) [sb h1, sb h2, sb h3, sb h4, sb h5, sb h6, sb h7, sb h8, sb h25] (by kernel_rfl) (by simp only [formed1, cond_true, cond_false, h1, h2, h3, h4, h5, h6, h7, h8, h25] <;> rfl)
              · cases h28 : (↑(cellsX xs).length : Int) != (3 : Int)
                · cases h29 : (↑(cellsQ qs).length : Int) != (0 : Int)
                  · exact walk E0ok mix0 At.scope_Formed rfl (by kernel_rfl) (by kernel_rfl) 3000 (y := AV.v (Value.bool true)) [sb h1, sb h2, sb h3, sb h4, sb h5, sb h6, sb h7, sg h28, sb h29, sb (rfl : true = true)] (by kernel_rfl) (by simp only [formed1, cond_true, cond_false, h1, h2, h3, h4, h5, h6, h7, h28, h29] <;> rfl)
                  · exact walk E0ok mix0 At.scope_Formed rfl (by kernel_rfl) (by kernel_rfl) 3000 (y := AV.v (Value.bool false)) [sb h1, sb h2, sb h3, sb h4, sb h5, sb h6, sb h7, sg h28, sb h29] (by kernel_rfl) (by simp only [formed1, cond_true, cond_false, h1, h2, h3, h4, h5, h6, h7, h28, h29] <;> rfl)
                · exact walk E0ok mix0 At.scope_Formed rfl (by kernel_rfl) (by kernel_rfl) 3000 (y := AV.v (Value.bool false)) [sb h1, sb h2, sb h3, sb h4, sb h5, sb h6, sb h7, sb h28] (by kernel_rfl) (by simp only [formed1, cond_true, cond_false, h1, h2, h3, h4, h5, h6, h7, h28] <;> rfl)
            · cases h30 : decide (op < (1 : Int))
              · cases h31 : decide ((13 : Int) < op)
                · cases h32 : (↑(cellsX xs).length : Int) != (2 : Int)
                  · cases h33 : (↑(cellsQ qs).length : Int) != (0 : Int)
                    · exact walk E0ok mix0 At.scope_Formed rfl (by kernel_rfl) (by kernel_rfl) 3000 (y := AV.v (Value.bool true)) [sb h1, sb h2, sb h3, sb h4, sb h5, sb h6, sg h30, sb h31, sg h32, sb h33, sb (rfl : true = true)] (by kernel_rfl) (by simp only [formed1, cond_true, cond_false, h1, h2, h3, h4, h5, h6, h30, h31, h32, h33] <;> rfl)
                    · exact walk E0ok mix0 At.scope_Formed rfl (by kernel_rfl) (by kernel_rfl) 3000 (y := AV.v (Value.bool false)) [sb h1, sb h2, sb h3, sb h4, sb h5, sb h6, sg h30, sb h31, sg h32, sb h33] (by kernel_rfl) (by simp only [formed1, cond_true, cond_false, h1, h2, h3, h4, h5, h6, h30, h31, h32, h33] <;> rfl)
                  · exact walk E0ok mix0 At.scope_Formed rfl (by kernel_rfl) (by kernel_rfl) 3000 (y := AV.v (Value.bool false)) [sb h1, sb h2, sb h3, sb h4, sb h5, sb h6, sg h30, sb h31, sb h32] (by kernel_rfl) (by simp only [formed1, cond_true, cond_false, h1, h2, h3, h4, h5, h6, h30, h31, h32] <;> rfl)
                · exact walk E0ok mix0 At.scope_Formed rfl (by kernel_rfl) (by kernel_rfl) 3000 (y := AV.v (Value.bool false)) [sb h1, sb h2, sb h3, sb h4, sb h5, sb h6, sg h30, sb h31] (by kernel_rfl) (by simp only [formed1, cond_true, cond_false, h1, h2, h3, h4, h5, h6, h30, h31] <;> rfl)
              · exact walk E0ok mix0 At.scope_Formed rfl (by kernel_rfl) (by kernel_rfl) 3000 (y := AV.v (Value.bool false)) [sb h1, sb h2, sb h3, sb h4, sb h5, sb h6, sb h30] (by kernel_rfl) (by simp only [formed1, cond_true, cond_false, h1, h2, h3, h4, h5, h6, h30] <;> rfl)
          · cases h34 : (↑(cellsX xs).length : Int) != (1 : Int)
            · cases h35 : (↑(cellsQ qs).length : Int) != (0 : Int)
              · exact walk E0ok mix0 At.scope_Formed rfl (by kernel_rfl) (by kernel_rfl) 3000 (y := AV.v (Value.bool true)) [sb h1, sb h2, sb h3, sb h4, sb h5, sg h34, sb h35, sb (rfl : true = true)] (by kernel_rfl) (by simp only [formed1, cond_true, cond_false, h1, h2, h3, h4, h5, h34, h35] <;> rfl)
              · exact walk E0ok mix0 At.scope_Formed rfl (by kernel_rfl) (by kernel_rfl) 3000 (y := AV.v (Value.bool false)) [sb h1, sb h2, sb h3, sb h4, sb h5, sg h34, sb h35] (by kernel_rfl) (by simp only [formed1, cond_true, cond_false, h1, h2, h3, h4, h5, h34, h35] <;> rfl)
            · exact walk E0ok mix0 At.scope_Formed rfl (by kernel_rfl) (by kernel_rfl) 3000 (y := AV.v (Value.bool false)) [sb h1, sb h2, sb h3, sb h4, sb h5, sb h34] (by kernel_rfl) (by simp only [formed1, cond_true, cond_false, h1, h2, h3, h4, h5, h34] <;> rfl)
        · cases h36 : (↑(cellsX xs).length : Int) != (1 : Int)
          · cases h37 : (↑(cellsQ qs).length : Int) != (0 : Int)
            · exact walk E0ok mix0 At.scope_Formed rfl (by kernel_rfl) (by kernel_rfl) 3000 (y := AV.v (Value.bool true)) [sb h1, sb h2, sb h3, sb h4, sg h36, sb h37, sb (rfl : true = true)] (by kernel_rfl) (by simp only [formed1, cond_true, cond_false, h1, h2, h3, h4, h36, h37] <;> rfl)
            · exact walk E0ok mix0 At.scope_Formed rfl (by kernel_rfl) (by kernel_rfl) 3000 (y := AV.v (Value.bool false)) [sb h1, sb h2, sb h3, sb h4, sg h36, sb h37] (by kernel_rfl) (by simp only [formed1, cond_true, cond_false, h1, h2, h3, h4, h36, h37] <;> rfl)
          · exact walk E0ok mix0 At.scope_Formed rfl (by kernel_rfl) (by kernel_rfl) 3000 (y := AV.v (Value.bool false)) [sb h1, sb h2, sb h3, sb h4, sb h36] (by kernel_rfl) (by simp only [formed1, cond_true, cond_false, h1, h2, h3, h4, h36] <;> rfl)
      · cases h38 : (↑(cellsX xs).length : Int) != (1 : Int)
        · cases h39 : (↑(cellsQ qs).length : Int) != (0 : Int)
          · exact walk E0ok mix0 At.scope_Formed rfl (by kernel_rfl) (by kernel_rfl) 3000 (y := AV.v (Value.bool true)) [sb h1, sb h2, sb h3, sg h38, sb h39, sb (rfl : true = true)] (by kernel_rfl) (by simp only [formed1, cond_true, cond_false, h1, h2, h3, h38, h39] <;> rfl)
          · exact walk E0ok mix0 At.scope_Formed rfl (by kernel_rfl) (by kernel_rfl) 3000 (y := AV.v (Value.bool false)) [sb h1, sb h2, sb h3, sg h38, sb h39] (by kernel_rfl) (by simp only [formed1, cond_true, cond_false, h1, h2, h3, h38, h39] <;> rfl)
        · exact walk E0ok mix0 At.scope_Formed rfl (by kernel_rfl) (by kernel_rfl) 3000 (y := AV.v (Value.bool false)) [sb h1, sb h2, sb h3, sb h38] (by kernel_rfl) (by simp only [formed1, cond_true, cond_false, h1, h2, h3, h38] <;> rfl)
    · cases h40 : (↑(cellsX xs).length : Int) != (0 : Int)
      · cases h41 : (↑(cellsQ qs).length : Int) != (0 : Int)
        · exact walk E0ok mix0 At.scope_Formed rfl (by kernel_rfl) (by kernel_rfl) 3000 (y := AV.v (Value.bool true)) [sb h1, sb h2, sg h40, sb h41, sb (rfl : true = true)] (by kernel_rfl) (by simp only [formed1, cond_true, cond_false, h1, h2, h40, h41] <;> rfl)
        · exact walk E0ok mix0 At.scope_Formed rfl (by kernel_rfl) (by kernel_rfl) 3000 (y := AV.v (Value.bool false)) [sb h1, sb h2, sg h40, sb h41] (by kernel_rfl) (by simp only [formed1, cond_true, cond_false, h1, h2, h40, h41] <;> rfl)
      · exact walk E0ok mix0 At.scope_Formed rfl (by kernel_rfl) (by kernel_rfl) 3000 (y := AV.v (Value.bool false)) [sb h1, sb h2, sb h40] (by kernel_rfl) (by simp only [formed1, cond_true, cond_false, h1, h2, h40] <;> rfl)
  · cases h42 : (↑(cellsX xs).length : Int) != (0 : Int)
    · cases h43 : (↑(cellsQ qs).length : Int) != (0 : Int)
      · exact walk E0ok mix0 At.scope_Formed rfl (by kernel_rfl) (by kernel_rfl) 3000 (y := AV.v (Value.bool true)) [sb h1, sg h42, sb h43, sb (rfl : true = true)] (by kernel_rfl) (by simp only [formed1, cond_true, cond_false, h1, h42, h43] <;> rfl)
      · exact walk E0ok mix0 At.scope_Formed rfl (by kernel_rfl) (by kernel_rfl) 3000 (y := AV.v (Value.bool false)) [sb h1, sg h42, sb h43] (by kernel_rfl) (by simp only [formed1, cond_true, cond_false, h1, h42, h43] <;> rfl)
    · exact walk E0ok mix0 At.scope_Formed rfl (by kernel_rfl) (by kernel_rfl) 3000 (y := AV.v (Value.bool false)) [sb h1, sb h42] (by kernel_rfl) (by simp only [formed1, cond_true, cond_false, h1, h42] <;> rfl)
def formed0 (kind op : Int) (xs : List X) : Bool :=
  bif kind == (1 : Int) then
    bif (↑(cellsX xs).length : Int) != (0 : Int) then
      false
    else
      true
  else
    bif kind == (2 : Int) then
      bif (↑(cellsX xs).length : Int) != (0 : Int) then
        false
      else
        true
    else
      bif kind == (3 : Int) then
        bif (↑(cellsX xs).length : Int) != (1 : Int) then
          false
        else
          true
      else
        bif kind == (4 : Int) then
          bif (↑(cellsX xs).length : Int) != (1 : Int) then
            false
          else
            true
        else
          bif kind == (6 : Int) then
            bif (↑(cellsX xs).length : Int) != (1 : Int) then
              false
            else
              true
          else
            bif kind == (5 : Int) then
              bif decide (op < (1 : Int)) then
                false
              else
                bif decide ((13 : Int) < op) then
                  false
                else
                  bif (↑(cellsX xs).length : Int) != (2 : Int) then
                    false
                  else
                    true
            else
              bif kind == (7 : Int) then
                bif (↑(cellsX xs).length : Int) != (3 : Int) then
                  false
                else
                  true
              else
                bif kind == (8 : Int) then
                  bif (↑(cellsX xs).length : Int) != (0 : Int) then
                    false
                  else
                    false
                else
                  bif kind == (9 : Int) then
                    bif (↑(cellsX xs).length : Int) != (0 : Int) then
                      false
                    else
                      false
                  else
                    bif kind == (10 : Int) then
                      bif (↑(cellsX xs).length : Int) != (0 : Int) then
                        false
                      else
                        false
                    else
                      bif kind == (11 : Int) then
                        bif (↑(cellsX xs).length : Int) != (0 : Int) then
                          false
                        else
                          false
                      else
                        bif kind == (12 : Int) then
                          bif (↑(cellsX xs).length : Int) != (0 : Int) then
                            false
                          else
                            false
                        else
                          false
theorem k_scope_Formed__0 (kind op : Int) (xs : List X) (nt : Bool) (val : V) (tn nm : Str) : ACallsTo E0 S.scope_Formed [X.av (.mk kind op nt val tn nm xs [])] [] (bv (formed0 kind op xs)) [] := by
  cases h1 : kind == (1 : Int)
  · cases h2 : kind == (2 : Int)
    · cases h3 : kind == (3 : Int)
      · cases h4 : kind == (4 : Int)
        · cases h5 : kind == (6 : Int)
          · cases h6 : kind == (5 : Int)
            · cases h7 : kind == (7 : Int)
              · cases h8 : kind == (8 : Int)
                · cases h9 : kind == (9 : Int)
                  · cases h10 : kind == (10 : Int)
                    · cases h11 : kind == (11 : Int)
                      · cases h12 : kind == (12 : Int)
                        · exact walk E0ok mix0 At.scope_Formed rfl (by kernel_rfl) (by kernel_rfl) 3000 (y := AV.v (Value.bool false)) [sb h1, sb h2, sb h3, sb h4, sb h5, sb h6, sb h7, sb h8, sb h9, sb h10, sb h11, sb h12] (by kernel_rfl) (by simp only [formed0, cond_true, cond_false, h1, h2, h3, h4, h5, h6, h7, h8, h9, h10, h11, h12] <;> rfl)
                        · cases h13 : (↑(cellsX xs).length : Int) != (0 : Int)
                          · exact walk E0ok mix0 At.scope_Formed rfl (by kernel_rfl) (by kernel_rfl) 3000 (y := AV.v (Value.bool false)) [sb h1, sb h2, sb h3, sb h4, sb h5, sb h6, sb h7, sb h8, sb h9, sb h10, sb h11, sb h12, sg h13, sb (rfl : true = true)] (by kernel_rfl) (by simp only [formed0, cond_true, cond_false, h1, h2, h3, h4, h5, h6, h7, h8, h9, h10, h11, h12, h13] <;> rfl)
                          · exact walk E0ok mix0 At.scope_Formed rfl (by kernel_rfl) (by kernel_rfl) 3000 (y := AV.v (Value.bool false)) [sb h1, sb h2, sb h3, sb h4, sb h5, sb h6, sb h7, sb h8, sb h9, sb h10, sb h11, sb h12, sb h13] (by kernel_rfl) (by simp only [formed0, cond_true, cond_false, h1, h2, h3, h4, h5, h6, h7, h8, h9, h10, h11, h12, h13] <;> rfl)
                      · cases h14 : (↑(cellsX xs).length : Int) != (0 : Int)
                        · exact walk E0ok mix0 At.scope_Formed rfl (by kernel_rfl) (by kernel_rfl) 3000 (y := AV.v (Value.bool false)) [sb h1, sb h2, sb h3, sb h4, sb h5, sb h6, sb h7, sb h8, sb h9, sb h10, sb h11, sg h14, sb (rfl : true = true)] (by kernel_rfl) (by simp only [formed0, cond_true, cond_false, h1, h2, h3, h4, h5, h6, h7, h8, h9, h10, h11, h14] <;> rfl)
                        · exact walk E0ok mix0 At.scope_Formed rfl (by kernel_rfl) (by kernel_rfl) 3000 (y := AV.v (Value.bool false)) [sb h1, sb h2, sb h3, sb h4, sb h5, sb h6, sb h7, sb h8, sb h9, sb h10, sb h11, sb h14] (by kernel_rfl) (by simp only [formed0, cond_true, cond_false, h1, h2, h3, h4, h5, h6, h7, h8, h9, h10, h11, h14] <;> rfl)
                    · cases h15 : (↑(cellsX xs).length : Int) != (0 : Int)
                      · exact walk E0ok mix0 At.scope_Formed rfl (by kernel_rfl) (by kernel_rfl) 3000 (y := AV.v (Value.bool false)) [sb h1, sb h2, sb h3, sb h4, sb h5, sb h6, sb h7, sb h8, sb h9, sb h10, sg h15, sb (rfl : true = true)] (by kernel_rfl) (by simp only [formed0, cond_true, cond_false, h1, h2, h3, h4, h5, h6, h7, h8, h9, h10, h15] <;> rfl)
                      · exact walk E0ok mix0 At.scope_Formed rfl (by kernel_rfl) (by kernel_rfl) 3000 (y := AV.v (Value.bool false)) [sb h1, sb h2, sb h3, sb h4, sb h5, sb h6, sb h7, sb h8, sb h9, sb h10, sb h15] (by kernel_rfl) (by simp only [formed0, cond_true, cond_false, h1, h2, h3, h4, h5, h6, h7, h8, h9, h10, h15] <;> rfl)
                  · cases h16 : (↑(cellsX xs).length : Int) != (0 : Int)
                    · exact walk E0ok mix0 At.scope_Formed rfl (by kernel_rfl) (by kernel_rfl) 3000 (y := AV.v (Value.bool false)) [sb h1, sb h2, sb h3, sb h4, sb h5, sb h6, sb h7, sb h8, sb h9, sg h16, sb (rfl : true = true)] (by kernel_rfl) (by simp only [formed0, cond_true, cond_false, h1, h2, h3, h4, h5, h6, h7, h8, h9, h16] <;> rfl)
                    · exact walk E0ok mix0 At.scope_Formed rfl (by kernel_rfl) (by kernel_rfl) 3000 (y := AV.v (Value.bool false)) [sb h1, sb h2, sb h3, sb h4, sb h5, sb h6, sb h7, sb h8, sb h9, sb h16] (by kernel_rfl) (by simp only [formed0, cond_true, cond_false, h1, h2, h3, h4, h5, h6, h7, h8, h9, h16] <;> rfl)
                · cases h17 : (↑(cellsX xs).length : Int) != (0 : Int)
                  · exact walk E0ok mix0 At.scope_Formed rfl (by kernel_rfl) (by kernel_rfl) 3000 (y := AV.v (Value.bool false)) [sb h1, sb h2, sb h3, sb h4, sb h5, sb h6, sb h7, sb h8, sg h17, sb (rfl : true = true)] (by kernel_rfl) (by simp only [formed0, cond_true, cond_false, h1, h2, h3, h4, h5, h6, h7, h8, h17] <;> rfl)
                  · exact walk E0ok mix0 At.scope_Formed rfl (by kernel_rfl) (by kernel_rfl) 3000 (y := AV.v (Value.bool false)) [sb h1, sb h2, sb h3, sb h4, sb h5, sb h6, sb h7, sb h8, sb h17] (by kernel_rfl) (by simp only [formed0, cond_true, cond_false, h1, h2, h3, h4, h5, h6, h7, h8, h17] <;> rfl)
              · cases h18 : (↑(cellsX xs).length : Int) != (3 : Int)
                · exact walk E0ok mix0 At.scope_Formed rfl (by kernel_rfl) (by kernel_rfl) 3000 (y := AV.v (Value.bool true)) [sb h1, sb h2, sb h3, sb h4, sb h5, sb h6, sb h7, sg h18, sb (rfl : false = false), sb (rfl : true = true)] (by kernel_rfl) (by simp only [formed0, cond_true, cond_false, h1, h2, h3, h4, h5, h6, h7, h18] <;> rfl)
                · exact walk E0ok mix0 At.scope_Formed rfl (by kernel_rfl) (by kernel_rfl) 3000 (y := AV.v (Value.bool false)) [sb h1, sb h2, sb h3, sb h4, sb h5, sb h6, sb h7, sb h18] (by kernel_rfl) (by simp only [formed0, cond_true, cond_false, h1, h2, h3, h4, h5, h6, h7, h18] <;> rfl)
            · cases h19 : decide (op < (1 : Int))
              · cases h20 : decide ((13 : Int) < op)
                · cases h21 : (↑(cellsX xs).length : Int) != (2 : Int)
                  · exact walk E0ok mix0 At.scope_Formed rfl (by kernel_rfl) (by kernel_rfl) 3000 (y := AV.v (Value.bool true)) [sb h1, sb h2, sb h3, sb h4, sb h5, sb h6, sg h19, sb h20, sg h21, sb (rfl : false = false), sb (rfl : true = true)] (by kernel_rfl) (by simp only [formed0, cond_true, cond_false, h1, h2, h3, h4, h5, h6, h19, h20, h21] <;> rfl)
                  · exact walk E0ok mix0 At.scope_Formed rfl (by kernel_rfl) (by kernel_rfl) 3000 (y := AV.v (Value.bool false)) [sb h1, sb h2, sb h3, sb h4, sb h5, sb h6, sg h19, sb h20, sb h21] (by kernel_rfl) (by simp only [formed0, cond_true, cond_false, h1, h2, h3, h4, h5, h6, h19, h20, h21] <;> rfl)
                · exact walk E0ok mix0 At.scope_Formed rfl (by kernel_rfl) (by kernel_rfl) 3000 (y := AV.v (Value.bool false)) [sb h1, sb h2, sb h3, sb h4, sb h5, sb h6, sg h19, sb h20] (by kernel_rfl) (by simp only [formed0, cond_true, cond_false, h1, h2, h3, h4, h5, h6, h19, h20] <;> rfl)
              · exact walk E0ok mix0 At.scope_Formed rfl (by kernel_rfl) (by kernel_rfl) 3000 (y := AV.v (Value.bool false)) [sb h1, sb h2, sb h3, sb h4, sb h5, sb h6, sb h19] (by kernel_rfl) (by simp only [formed0, cond_true, cond_false, h1, h2, h3, h4, h5, h6, h19] <;> rfl)
          · cases h22 : (↑(cellsX xs).length : Int) != (1 : Int)
            · exact walk E0ok mix0 At.scope_Formed rfl (by kernel_rfl) (by kernel_rfl) 3000 (y := AV.v (Value.bool true)) [sb h1, sb h2, sb h3, sb h4, sb h5, sg h22, sb (rfl : false = false), sb (rfl : true = true)] (by kernel_rfl) (by simp only [formed0, cond_true, cond_false, h1, h2, h3, h4, h5, h22] <;> rfl)
            · exact walk E0ok mix0 At.scope_Formed rfl (by kernel_rfl) (by kernel_rfl) 3000 (y := AV.v (Value.bool false)) [sb h1, sb h2, sb h3, sb h4, sb h5, sb h22] (by kernel_rfl) (by simp only [formed0, cond_true, cond_false, h1, h2, h3, h4, h5, h22] <;> rfl)
        · cases h23 : (↑(cellsX xs).length : Int) != (1 : Int)
          · exact walk E0ok mix0 At.scope_Formed rfl (by kernel_rfl) (by kernel_rfl) 3000 (y := AV.v (Value.bool true)) [sb h1, sb h2, sb h3, sb h4, sg h23, sb (rfl : false = false), sb (rfl : true = true)] (by kernel_rfl) (by simp only [formed0, cond_true, cond_false, h1, h2, h3, h4, h23] <;> rfl)
          · exact walk E0ok mix0 At.scope_Formed rfl (by kernel_rfl) (by kernel_rfl) 3000 (y := AV.v (Value.bool false)) [sb h1, sb h2, sb h3, sb h4, sb h23] (by kernel_rfl) (by simp only [formed0, cond_true, cond_false, h1, h2, h3, h4, h23] <;> rfl)
      · cases h24 : (↑(cellsX xs).length : Int) != (1 : Int)
        · exact walk E0ok mix0 At.scope_Formed rfl (by kernel_rfl) (by kernel_rfl) 3000 (y := AV.v (Value.bool true)) [sb h1, sb h2, sb h3, sg h24, sb (rfl : false = false), sb (rfl : true = true)] (by kernel_rfl) (by simp only [formed0, cond_true, cond_false, h1, h2, h3, h24] <;> rfl)
        · exact walk E0ok mix0 At.scope_Formed rfl (by kernel_rfl) (by kernel_rfl) 3000 (y := AV.v (Value.bool false)) [sb h1, sb h2, sb h3, sb h24] (by kernel_rfl) (by simp only [formed0, cond_true, cond_false, h1, h2, h3, h24] <;> rfl)
    · cases h25 : (↑(cellsX xs).length : Int) != (0 : Int)
      · exact walk E0ok mix0 At.scope_Formed rfl (by kernel_rfl) (by kernel_rfl) 3000 (y := AV.v (Value.bool true)) [sb h1, sb h2, sg h25, sb (rfl : false = false), sb (rfl : true = true)] (by kernel_rfl) (by simp only [formed0, cond_true, cond_false, h1, h2, h25] <;> rfl)
      · exact walk E0ok mix0 At.scope_Formed rfl (by kernel_rfl) (by kernel_rfl) 3000 (y := AV.v (Value.bool false)) [sb h1, sb h2, sb h25] (by kernel_rfl) (by simp only [formed0, cond_true, cond_false, h1, h2, h25] <;> rfl)
  · cases h26 : (↑(cellsX xs).length : Int) != (0 : Int)
    · exact walk E0ok mix0 At.scope_Formed rfl (by kernel_rfl) (by kernel_rfl) 3000 (y := AV.v (Value.bool true)) [sb h1, sg h26, sb (rfl : false = false), sb (rfl : true = true)] (by kernel_rfl) (by simp only [formed0, cond_true, cond_false, h1, h26] <;> rfl)
    · exact walk E0ok mix0 At.scope_Formed rfl (by kernel_rfl) (by kernel_rfl) 3000 (y := AV.v (Value.bool false)) [sb h1, sb h26] (by kernel_rfl) (by simp only [formed0, cond_true, cond_false, h1, h26] <;> rfl)
end Go.AM

namespace Go.AM
set_option maxRecDepth 100000
set_option linter.unusedSimpArgs false
set_option linter.unusedVariables false

def modI (v n : Int) : Int := bif decide (v.tmod n < 0) then IntKind.i64.wrap (v.tmod n + n) else v.tmod n
theorem k_world_Mod (v n : Int) (hn : n ≠ 0) : Pure S.world_Mod [iv v, iv n] (iv (modI v n)) := by
  unfold modI
  cases h1 : decide (v.tmod n < (0 : Int))
  · exact wk At.world_Mod [sx (.i (v.tmod n)) (show ¬n = (0 : Int) ∧ (v.tmod n : Int) = v.tmod n from ⟨hn, rfl⟩), sb h1] (by kernel_rfl)
  · exact wk At.world_Mod [sx (.i (v.tmod n)) (show ¬n = (0 : Int) ∧ (v.tmod n : Int) = v.tmod n from ⟨hn, rfl⟩), sb h1, si (e := IntKind.i64.wrap (v.tmod n + n)) rfl] (by kernel_rfl)

theorem modI_range (v n : Int) (hn : 0 < n) (hv : n ≤ 9223372036854775807) : 0 ≤ modI v n ∧ modI v n < n := by
  unfold modI
  have h1 := Int.tmod_lt_of_pos v hn
  have h2 : -n < v.tmod n := by
    have := Int.tmod_lt_of_pos (-v) hn
    rw [Int.neg_tmod] at this; omega
  cases h : decide (v.tmod n < 0)
  · simp at h; simp; omega
  · simp at h; simp only [cond_true]; rw [IntKind.wrap_i64]; omega
theorem wrap_sub1 (i : Nat) (h : i < 9223372036854775806) : IntKind.i64.wrap (((i + 1 : Nat) : Int) - 1) = ((i : Nat) : Int) := by
  rw [IntKind.wrap_i64]; omega
/-- Within 64 bits. -/
abbrev I64 (n : Int) : Prop := -9223372036854775808 ≤ n ∧ n ≤ 9223372036854775807
theorem i64_wrap (n : Int) : I64 (IntKind.i64.wrap n) := by simp only [I64]; rw [IntKind.wrap_i64]; omega
/-- A valid value. -/
structure V.Good (v : V) : Prop where
  valid : validV v = true
  i64 : I64 v.int
  small : v.small
theorem good_int {n : Int} (h : I64 n) : V.Good ⟨1, n, ⟨#[]⟩⟩ := ⟨by kernel_rfl, h, small_e⟩
theorem good_null : V.Good ⟨0, 0, ⟨#[]⟩⟩ := ⟨by kernel_rfl, by decide, small_e⟩
theorem good_bool {n : Nat} (h : (n : Int) < 2) : V.Good ⟨2, n, ⟨#[]⟩⟩ := by
  have : n = 0 ∨ n = 1 := by omega
  rcases this with rfl | rfl <;> exact ⟨by kernel_rfl, by decide, small_e⟩
def xLit (v : V) : X :=
  X.mk 1 0 false v (ByteArray.mk #[]) (ByteArray.mk #[]) [] []
theorem k_world_Lit (v : V)  : ACallsTo E0 S.world_Lit [v.av] [] ((xLit v).av) [] := by
  exact wk At.world_Lit [] (by kernel_rfl)
def xCol (t n : Str) : X :=
  X.mk 2 0 false (V.mk 0 0 (ByteArray.mk #[])) t n [] []
theorem k_world_Col (t n : Str)  : ACallsTo E0 S.world_Col [sv t, sv n] [] ((xCol t n).av) [] := by
  exact wk At.world_Col [] (by kernel_rfl)
def xBin (op : Int) (a b : X) : X :=
  X.mk 5 op false (V.mk 0 0 (ByteArray.mk #[])) (ByteArray.mk #[]) (ByteArray.mk #[]) [a, b] []
theorem k_world_Bin (op : Int) (a b : X)  : ACallsTo E0 S.world_Bin [iv op, a.av, b.av] [] ((xBin op a b).av) [] := by
  unfold xBin
  exact (by (try simp only [X.av, Qy.av, xsl, cellsX_cons, cellsX_nil, cellsQ_cons, cellsQ_nil, X.cells, Qy.cells, X.args_mk, X.sub_mk, Qy.items_mk, Qy.wh_mk]); exact wk At.world_Bin [] (by kernel_rfl))
end Go.AM

namespace Go.AM
set_option maxRecDepth 100000
set_option linter.unusedSimpArgs false
set_option linter.unusedVariables false
/-- A valid value that fits a column. -/
structure ValOk (c : Col) (v : V) : Prop where
  good : v.Good
  kind : v.kind = 0 ∨ v.kind = c.type
  nn : c.notNull = true → v.kind = c.type
abbrev ColOk (c : Col) : Prop := c.type = 1 ∨ c.type = 2 ∨ c.type = 3
structure PrefOk (cols : List Col) (n : Nat) (vals : List V) : Prop where
  len : vals.length = n
  at_ : ∀ (k : Nat) (c : Col) (v : V), cols[k]? = some c → vals[k]? = some v → ValOk c v
abbrev RowOk (cols : List Col) (vals : List V) : Prop := PrefOk cols cols.length vals
theorem PrefOk.nil (cols : List Col) : PrefOk cols 0 [] := ⟨rfl, fun k c v _ h => by simp at h⟩
def schemas  : (List Sch) :=
  [Sch.mk (ByteArray.mk #[108, 111, 103]) [Col.mk (ByteArray.mk #[110]) 1 false false, Col.mk (ByteArray.mk #[115]) 3 false false], Sch.mk (ByteArray.mk #[116]) [Col.mk (ByteArray.mk #[105, 100]) 1 true true, Col.mk (ByteArray.mk #[110]) 1 false false, Col.mk (ByteArray.mk #[98]) 2 false false, Col.mk (ByteArray.mk #[115]) 3 false false], Sch.mk (ByteArray.mk #[117]) [Col.mk (ByteArray.mk #[105, 100]) 1 true true, Col.mk (ByteArray.mk #[110]) 1 true false, Col.mk (ByteArray.mk #[109]) 1 false false]]
theorem k_world_Schemas   : ACallsTo E0 S.world_Schemas [] [] (.sl (schemas.map Sch.cells)) [] := by
  unfold schemas
  exact (by (try simp only [X.av, Qy.av, V.av, Tb.av, Sch.av, Pl.av, xsl, fsl, vsl, tsl, List.map_append, List.map_cons, List.map_nil, V.cells, Col.cells, Rw.cells, Tb.cells, Fr.cells, Sch.cells, Pl.cells, cellsX_app, cellsX_cons, cellsX_nil, cellsQ_cons, cellsQ_nil, X.cells, Qy.cells, X.args_mk, X.sub_mk, Qy.items_mk, Qy.wh_mk]); exact wk At.world_Schemas [] (by kernel_rfl))
theorem short_schemas : Short schemas := by simp [schemas]
noncomputable def L_schemaL (n : Str) (i : Nat)  : Cfg := loopAt B.world_Schema 0 [(0, sv n), (2, .p 0 0), (5, .sl (schemas.map Sch.cells)), (6, iv ((schemas.map Sch.cells).length : Nat)), (7, iv (i : Nat))] [.box [sv ⟨#[]⟩, .nl]]
def schemaL (n : Str) : List (Sch) → Nat → Sch
  | [], i =>
    Sch.mk (ByteArray.mk #[]) []
  | x :: r, i =>
    bif ByteArray.toList x.name == ByteArray.toList n then
      x
    else
      schemaL n r (i + 1)
theorem k_schemaL_loop (n : Str) (hs : Short schemas) : ∀ (kk i : Nat), i + kk = (schemas).length → Good E0 B.world_Schema [] (L_schemaL n i ) (Shut 0 fun r h => r = ((schemaL n ((schemas).drop i) i ).av) ∧ h = []) := by
  intro kk
  induction kk with
  | zero =>
    intro i  hi 
    have h0 : decide (((i : Nat) : Int) < (((schemas.map Sch.cells).length : Nat) : Int)) = false := by simp; omega
    have e0 : (schemas).drop i = [] := List.drop_of_length_le (by omega)
    rw [e0]
    simp only [schemaL]
    refine good_unroll ?_
    exact wkr [sb h0] (by kernel_rfl)
  | succ kk ih =>
    intro i  hi 
    obtain ⟨x, hx⟩ := ex_at (l := schemas) (i := i) (by omega)
    have h0 : decide (((i : Nat) : Int) < (((schemas.map Sch.cells).length : Nat) : Int)) = true := by simp; omega
    have hw := wrap_nat i (by first | omega | (simp only [Short, Few] at *; omega))
    rw [drop_at hx]
    simp only [schemaL]
    refine good_unroll ?_
    cases h1 : ByteArray.toList x.name == ByteArray.toList n
    · exact wkl [sb h0, se (elAt_map (Sch.cells) hx rfl), sb h1, si hw] [0, 2, 5, 6, 7] 1 (by kernel_rfl) (ih (i + 1) (by omega) )
    · exact wkr [sb h0, se (elAt_map (Sch.cells) hx rfl), sb h1] (by kernel_rfl)
def schemaOf (n : Str) : Sch :=
  schemaL n schemas (0)
theorem k_world_Schema (n : Str) (hs : Short schemas) : ACallsTo E0 S.world_Schema [sv n] [] ((schemaOf n).av) [] := by
  unfold schemaOf
  exact wkc At.world_Schema [sc k_world_Schemas] [0, 2, 5, 6, 7] 1 (by kernel_rfl) (k_schemaL_loop n hs schemas.length 0 (by simp))
theorem c_Num0 (n : Int) (h1 : decide (n < (0 : Int)) = false) : Pure S.world_Num [iv n] (X.av (xLit ⟨1, n, ⟨#[]⟩⟩)) := by
  exact wk At.world_Num [sb h1, sc (k_world_Lit (V.mk 1 n ⟨#[]⟩))] (by kernel_rfl)
def xNeg (a : X) : X := X.mk 4 0 false ⟨0, 0, ⟨#[]⟩⟩ ⟨#[]⟩ ⟨#[]⟩ [a] []
theorem c_Num1 (n : Int) (h1 : decide (n < (0 : Int)) = true) (h2 : -9223372036854775808 < n) : Pure S.world_Num [iv n] (X.av (xNeg (xLit ⟨1, IntKind.i64.wrap (-n), ⟨#[]⟩⟩))) := by
  have hk := c_Num0 (IntKind.i64.wrap (-n)) (by rw [IntKind.wrap_i64]; simp at *; omega)
  unfold xNeg
  simp only [X.av, xLit, cellsX_cons, cellsX_nil, X.cells, X.args_mk, X.sub_mk]
  exact wk At.world_Num [sb h1, si (e := IntKind.i64.wrap (-n)) rfl, sc hk] (by kernel_rfl)
def xNum (n : Int) : X := bif decide (n < 0) then xNeg (xLit ⟨1, IntKind.i64.wrap (-n), ⟨#[]⟩⟩) else xLit ⟨1, n, ⟨#[]⟩⟩
theorem k_world_Num (n : Int) (h2 : -9223372036854775808 < n) : Pure S.world_Num [iv n] (X.av (xNum n)) := by
  unfold xNum
  cases h : decide (n < 0)
  · exact c_Num0 n h
  · exact c_Num1 n h h2
def plIn (p : Pl) (s : Sch) : Pl :=
  Pl.mk (p.frs ++ [Fr.mk s.name false s.cols []]) p.tbs
end Go.AM

namespace Go.AM
set_option maxRecDepth 100000
set_option linter.unusedSimpArgs false
set_option linter.unusedVariables false
abbrev Few {α : Type} (l : List α) : Prop := l.length ≤ 1000
def IsCol (x : X) : Prop := ∃ a b, x = xCol a b
def ColsX (l : List X) : Prop := ∀ x ∈ l, IsCol x
theorem ColsX.nil : ColsX [] := fun _ h => by cases h
theorem ColsX.col (a b : Str) : ColsX [xCol a b] := fun x hx => by simp only [List.mem_singleton] at hx; exact ⟨a, b, hx⟩
theorem ColsX.at {l : List X} (h : ColsX l) {i : Nat} {x : X} (hx : l[i]? = some x) : IsCol x := h x (List.mem_of_getElem? hx)
structure Pl.Ok (p : Pl) : Prop where
  frs : Few p.frs
  cols : ∀ f ∈ p.frs, Few f.cols
/-- A table whose rows fit its schema. -/
structure TabOk (t : Tb) : Prop where
  rows : ∀ r ∈ t.rows, RowOk t.sch.cols r.vals
  len : t.rows.length ≤ 1000
/-- A schema of the tape's tables. -/
structure SchOk (s : Sch) : Prop where
  few : Few s.cols
  cols : ∀ c ∈ s.cols, ColOk c
  ne : s.cols ≠ []
theorem SchOk.short {s : Sch} (h : SchOk s) : Short s.cols := by have := h.few; simp only [Few] at this; simp only [Short]; omega
def valAt (l : List V) (key : Int) : V := l.getD key.toNat V.null
theorem el_val (l : List V) (key : Int) (hk : decide (key < 0) = false) (h : key < l.length) : ElAt (l.map V.cells) key (valAt l key).cells 3 := by
  have h0 : 0 ≤ key := by simpa using hk
  refine ⟨h0, ?_, rfl⟩
  have : key.toNat < l.length := by omega
  simp [valAt, List.getD_eq_getElem?_getD, List.getElem?_eq_getElem this]
abbrev RowsOk (s : Sch) (rows : List Rw) : Prop := ∀ r ∈ rows, RowOk s.cols r.vals
theorem RowsOk.len {s : Sch} {rows : List Rw} (h : RowsOk s rows) {i : Nat} {x : Rw} (hx : rows[i]? = some x) : x.vals.length = s.cols.length := (h x (List.mem_of_getElem? hx)).len
/-- Valid tables of the three schemas. -/
structure StoreOk (l : List Tb) : Prop where
  len : l.length ≤ 1000
  tabs : ∀ t ∈ l, TabOk t ∧ SchOk t.sch
end Go.AM

namespace Go.AM
set_option maxRecDepth 100000
set_option linter.unusedSimpArgs false
set_option linter.unusedVariables false
/-- An expression of less than n levels, its lists short, its literals valid. -/
def XOk : Nat → X → Prop
  | 0, _ => False
  | n + 1, e => e.val.Good ∧ (Few e.args ∧ Few e.sub) ∧ (∀ x ∈ e.args, XOk n x) ∧ ∀ q ∈ e.sub, (Few q.items ∧ Few q.wh) ∧ (∀ x ∈ q.items, XOk n x) ∧ ∀ x ∈ q.wh, XOk n x
theorem XOk.mono : ∀ {n : Nat} {e : X}, XOk n e → XOk (n + 1) e
  | 0, _, h => h.elim
  | n + 1, e, ⟨h1, h2, h3, h4⟩ => ⟨h1, h2, fun x hx => (h3 x hx).mono, fun q hq => ⟨(h4 q hq).1, fun x hx => ((h4 q hq).2.1 x hx).mono, fun x hx => ((h4 q hq).2.2 x hx).mono⟩⟩
theorem XOk.le {n m : Nat} {e : X} (h : XOk n e) (hm : n ≤ m) : XOk m e := by
  induction hm with
  | refl => exact h
  | step _ ih => exact ih.mono
theorem xok_lit {n : Nat} {v : V} (h : v.Good) : XOk (n + 1) (xLit v) := ⟨h, ⟨by simp [xLit], by simp [xLit]⟩, fun x hx => by simp [xLit] at hx, fun q hq => by simp [xLit] at hq⟩
theorem xok_col {n : Nat} {x : X} (h : IsCol x) : XOk (n + 1) x := by
  obtain ⟨a, b, rfl⟩ := h
  exact ⟨good_null, ⟨by simp [xCol], by simp [xCol]⟩, fun x hx => by simp [xCol] at hx, fun q hq => by simp [xCol] at hq⟩
theorem xok_args {n : Nat} {k o : Int} {nt : Bool} {l : List X} (hl : Few l) (h : ∀ x ∈ l, XOk n x) : XOk (n + 1) (X.mk k o nt ⟨0, 0, ⟨#[]⟩⟩ ⟨#[]⟩ ⟨#[]⟩ l []) :=
  ⟨good_null, ⟨hl, by simp⟩, h, fun q hq => by simp at hq⟩
theorem xok_1 {n : Nat} {k o : Int} {nt : Bool} {a : X} (h : XOk n a) : XOk (n + 1) (X.mk k o nt ⟨0, 0, ⟨#[]⟩⟩ ⟨#[]⟩ ⟨#[]⟩ [a] []) :=
  xok_args (by simp) fun x hx => by simp only [List.mem_singleton] at hx; exact hx ▸ h
theorem xok_2 {n : Nat} {k o : Int} {nt : Bool} {a b : X} (h : XOk n a) (h2 : XOk n b) : XOk (n + 1) (X.mk k o nt ⟨0, 0, ⟨#[]⟩⟩ ⟨#[]⟩ ⟨#[]⟩ [a, b] []) :=
  xok_args (by simp) fun x hx => by simp only [List.mem_cons, List.not_mem_nil, or_false] at hx; rcases hx with rfl | rfl <;> assumption
theorem xok_num {n : Nat} {a : Int} (h : -9223372036854775808 < a) (h2 : a ≤ 9223372036854775807) : XOk (n + 2) (xNum a) := by
  unfold xNum
  cases decide (a < 0)
  · exact xok_lit (good_int ⟨by omega, by omega⟩)
  · exact xok_1 (xok_lit (good_int (i64_wrap _)))
/-- A place with room for n more frames. -/
structure Pl.OkN (n : Nat) (p : Pl) : Prop where
  frs : p.frs.length + n ≤ 1000
  cols : ∀ f ∈ p.frs, Few f.cols
  ne : p.tbs ≠ []
  few : Few p.tbs
  tcols : ∀ s ∈ p.tbs, Few s.cols
theorem Pl.OkN.short {n : Nat} {p : Pl} (h : p.OkN n) : Short p.frs := by have := h.frs; simp only [Short]; omega
theorem Pl.OkN.less {n : Nat} {p : Pl} (h : p.OkN (n + 1)) : p.OkN n := ⟨by have := h.frs; omega, h.cols, h.ne, h.few, h.tcols⟩
theorem Pl.OkN.ins {n : Nat} {p : Pl} (h : p.OkN (n + 1)) {k : Nat} {s : Sch} (hs : p.tbs[k]? = some s) : (plIn p s).OkN n := by
  refine ⟨by have := h.frs; simp [plIn]; omega, fun f hf => ?_, h.ne, h.few, h.tcols⟩
  simp only [plIn, List.mem_append, List.mem_singleton] at hf
  rcases hf with hf | rfl
  · exact h.cols f hf
  · exact h.tcols s (List.mem_of_getElem? hs)
end Go.AM

namespace Go.AM
set_option maxRecDepth 100000
set_option maxHeartbeats 1000000
set_option linter.unusedSimpArgs false
set_option linter.unusedVariables false
def frNull : Fr := ⟨⟨#[]⟩, false, [], []⟩
theorem getD_at {α : Type} {l : List α} {k : Nat} (d : α) (h : k < l.length) : l[k]? = some (l.getD k d) := by
  rw [List.getD_eq_getElem?_getD, List.getElem?_eq_getElem h]; rfl
noncomputable def L_sres (frs : List Fr) (q n : Str) (k : Nat)  : Cfg := loopAt B.scope_Resolve 0 [(0, fsl frs), (1, sv q), (2, sv n), (9, iv (pm1 k))] []
def sres (frs : List Fr) (q n : Str) : Nat → Int × Int × Bool
  | 0 =>
    (0, 0, false)
  | k + 1 =>
    bif ByteArray.toList q == (ByteArray.mk #[]).toList then
      bif (frs.getD k frNull).strict then
        sres frs q n (k)
      else
        bif decide (0 ≤ idxF (fun c => colC c n) (Sch.mk (ByteArray.mk #[]) (frs.getD k frNull).cols).cols 0) then
          (pm1 (k + 1), idxF (fun c => colC c n) (Sch.mk (ByteArray.mk #[]) (frs.getD k frNull).cols).cols 0, true)
        else
          sres frs q n (k)
    else
      bif !ByteArray.toList (frs.getD k frNull).name == ByteArray.toList q then
        sres frs q n (k)
      else
        bif decide (0 ≤ idxF (fun c => colC c n) (Sch.mk (ByteArray.mk #[]) (frs.getD k frNull).cols).cols 0) then
          (pm1 (k + 1), idxF (fun c => colC c n) (Sch.mk (ByteArray.mk #[]) (frs.getD k frNull).cols).cols 0, true)
        else
          sres frs q n (k)
theorem k_sres_loop (frs : List Fr) (q n : Str) (hl : Short frs) (hc : ∀ f ∈ frs, Short f.cols) : ∀ (k : Nat), k ≤ 1000000000 → k ≤ frs.length → Good E0 B.scope_Resolve [] (L_sres frs q n k ) (Shut 0 fun r h => r = (.tup [iv (sres frs q n k ).1, iv (sres frs q n k ).2.1, bv (sres frs q n k ).2.2]) ∧ h = []) := by
  intro k
  induction k with
  | zero =>
    intro  hk hk2
    simp only [sres]
    refine good_unroll ?_
    exact wkr [sb (rfl : false = false)] (by kernel_rfl)
  | succ k ih =>
    intro  hk hk2
    have h0 : decide ((0 : Int) ≤ ((k : Nat) : Int)) = true := by simp
    have hw := wrap_pm1 k (by omega)
    have hx := getD_at (l := frs) (k := k) frNull (by omega); have hcx := hc _ (List.mem_of_getElem? hx)
    simp only [sres]
    refine good_unroll ?_
    cases h1 : ByteArray.toList q == (ByteArray.mk #[]).toList
    · cases h2 : !ByteArray.toList (frs.getD k frNull).name == ByteArray.toList q
      · cases h3 : decide (0 ≤ idxF (fun c => colC c n) (Sch.mk (ByteArray.mk #[]) (frs.getD k frNull).cols).cols 0)
        · exact wkl [sb (rfl : true = true), se (elAt_map (Fr.cells) hx rfl), sb h1, sg (congrArg Bool.not h1), sb h2, sc (k_schema_Find (Sch.mk (ByteArray.mk #[]) (frs.getD k frNull).cols) (n) (by first | assumption | omega | (simp; done) | (simp; omega))), sb h3, si hw] [0, 1, 2, 9] 0 (by kernel_rfl) (ih  (by omega) (by first | assumption | (simp; done) | (simp; omega) | omega | (simp at *; omega)))
        · exact wkr [sb (rfl : true = true), se (elAt_map (Fr.cells) hx rfl), sb h1, sg (congrArg Bool.not h1), sb h2, sc (k_schema_Find (Sch.mk (ByteArray.mk #[]) (frs.getD k frNull).cols) (n) (by first | assumption | omega | (simp; done) | (simp; omega))), sb h3] (by kernel_rfl)
      · exact wkl [sb (rfl : true = true), se (elAt_map (Fr.cells) hx rfl), sb h1, sg (congrArg Bool.not h1), sb h2, si hw] [0, 1, 2, 9] 0 (by kernel_rfl) (ih  (by omega) (by first | assumption | (simp; done) | (simp; omega) | omega | (simp at *; omega)))
    · cases h4 : (frs.getD k frNull).strict
      · cases h5 : decide (0 ≤ idxF (fun c => colC c n) (Sch.mk (ByteArray.mk #[]) (frs.getD k frNull).cols).cols 0)
        · exact wkl [sb (rfl : true = true), se (elAt_map (Fr.cells) hx rfl), sg h1, sg h4, sb (congrArg Bool.not h1), sc (k_schema_Find (Sch.mk (ByteArray.mk #[]) (frs.getD k frNull).cols) (n) (by first | assumption | omega | (simp; done) | (simp; omega))), sb h5, si hw] [0, 1, 2, 9] 0 (by kernel_rfl) (ih  (by omega) (by first | assumption | (simp; done) | (simp; omega) | omega | (simp at *; omega)))
        · exact wkr [sb (rfl : true = true), se (elAt_map (Fr.cells) hx rfl), sg h1, sg h4, sb (congrArg Bool.not h1), sc (k_schema_Find (Sch.mk (ByteArray.mk #[]) (frs.getD k frNull).cols) (n) (by first | assumption | omega | (simp; done) | (simp; omega))), sb h5] (by kernel_rfl)
      · exact wkl [sb (rfl : true = true), se (elAt_map (Fr.cells) hx rfl), sg h1, sb h4, si hw] [0, 1, 2, 9] 0 (by kernel_rfl) (ih  (by omega) (by first | assumption | (simp; done) | (simp; omega) | omega | (simp at *; omega)))
theorem wrap_len {α : Type} (f : α → List AV) (l : List α) (h : Short l) : IntKind.i64.wrap ((((l.map f).length : Nat) : Int) - 1) = pm1 l.length := by
  rw [List.length_map]; exact wrap_pm1 _ (by simp only [Short] at h; omega)
def sResolve (frs : List Fr) (q n : Str) : Int × Int × Bool :=
  sres frs q n (frs.length)
theorem k_scope_Resolve (frs : List Fr) (q n : Str) (hl : Short frs) (hc : ∀ f ∈ frs, Short f.cols) (hw0 : IntKind.i64.wrap ((((frs.map Fr.cells).length : Nat) : Int) - 1) = pm1 frs.length) : ACallsTo E0 S.scope_Resolve [fsl frs, sv q, sv n] [] (.tup [iv (sResolve frs q n).1, iv (sResolve frs q n).2.1, bv (sResolve frs q n).2.2]) [] := by
  unfold sResolve
  exact wkc At.scope_Resolve [si hw0] [0, 1, 2, 9] 0 (by kernel_rfl) (by have ih := k_sres_loop frs q n hl hc frs.length (by simp only [Short] at hl; omega) (Nat.le_refl _); exact ih)
def rresI (frs : List Fr) (q n : Str) (k : Nat) (f : Fr) (els : Int × Int × Bool) : List (Col) → Nat → Int × Int × Bool
  | [], j =>
    els
  | x :: r, j =>
    bif ByteArray.toList x.name == ByteArray.toList n then
      (pm1 (k + 1), (↑j : Int), true)
    else
      rresI frs q n k f els r (j + 1)
def rres (frs : List Fr) (q n : Str) : Nat → Int × Int × Bool
  | 0 =>
    (0, 0, false)
  | k + 1 =>
    bif ByteArray.toList q == (ByteArray.mk #[]).toList then
      bif (frs.getD k frNull).strict then
        rres frs q n (k)
      else
        rresI frs q n k (frs.getD k frNull) (rres frs q n k) (frs.getD k frNull).cols 0
    else
      bif !ByteArray.toList (frs.getD k frNull).name == ByteArray.toList q then
        rres frs q n (k)
      else
        rresI frs q n k (frs.getD k frNull) (rres frs q n k) (frs.getD k frNull).cols 0
def rResolve (frs : List Fr) (q n : Str) : Int × Int × Bool :=
  rres frs q n (frs.length)
def rsrcL (tb : List Tb) (n : Str) : List (Tb) → Nat → Sch × Bool
  | [], i =>
    (Sch.mk (ByteArray.mk #[]) [], false)
  | x :: r, i =>
    bif ByteArray.toList x.sch.name == ByteArray.toList n then
      (x.sch, true)
    else
      rsrcL tb n r (i + 1)
def rSource (tb : List Tb) (n : Str) : Sch × Bool :=
  rsrcL tb n tb (0)
def rInside (frs : List Fr) (s : Sch) (v : List V) : (List Fr) :=
  frs ++ [Fr.mk s.name false s.cols v]
end Go.AM

namespace Go.AM
set_option maxRecDepth 100000
set_option maxHeartbeats 1000000
set_option linter.unusedSimpArgs false
set_option linter.unusedVariables false
def formed (e : X) : Bool := match e.sub with
  | [] => formed0 e.kind e.op e.args
  | q :: r => formed1 e.kind e.op e.args (q :: r) q.items q.wh
theorem k_scope_Formed (e : X) : Pure S.scope_Formed [e.av] (bv (formed e)) := by
  cases e with
  | mk kind op nt val tn nm xs qs =>
    cases qs with
    | nil => exact k_scope_Formed__0 kind op xs nt val tn nm
    | cons q r => cases q with
      | mk st it fm wh => exact k_scope_Formed__1 kind op xs _ it wh nt val tn nm st fm rfl
theorem rresI_ok (frs : List Fr) (q n : Str) (k : Nat) (f : Fr) (els : Int × Int × Bool) : ∀ (c : List Col) (j : Nat), (rresI frs q n k f els c j = els) ∨ (∃ (i : Nat) (x : Col), rresI frs q n k f els c j = (((k : Nat) : Int), ((j + i : Nat) : Int), true) ∧ c[i]? = some x)
  | [], j => .inl rfl
  | x :: r, j => by
    rcases rresI_ok frs q n k f els r (j + 1) with h | ⟨i, y, h, hy⟩
    · simp only [rresI, Bool.cond_eq_ite]
      split
      · exact .inr ⟨0, x, rfl, rfl⟩
      · exact .inl h
    · simp only [rresI, Bool.cond_eq_ite]
      split
      · exact .inr ⟨0, x, rfl, rfl⟩
      · exact .inr ⟨i + 1, y, by rw [h]; congr 2; omega, hy⟩
theorem rres_ok (frs : List Fr) (q n : Str) : ∀ (k : Nat), k ≤ frs.length → (rres frs q n k).2.2 = true → ∃ (i j : Nat) (f : Fr) (c : Col), rres frs q n k = ((i : Int), (j : Int), true) ∧ frs[i]? = some f ∧ f.cols[j]? = some c
  | 0, _, h => by simp [rres] at h
  | k + 1, hk, h => by
    have ih := rres_ok frs q n k (by omega)
    have hx := getD_at (l := frs) (k := k) frNull (by omega)
    have hi := rresI_ok frs q n k (frs.getD k frNull) (rres frs q n k) (frs.getD k frNull).cols 0
    simp only [rres, Bool.cond_eq_ite] at h ⊢
    have key : (rresI frs q n k (frs.getD k frNull) (rres frs q n k) (frs.getD k frNull).cols 0).2.2 = true → ∃ (i j : Nat) (f : Fr) (c : Col), rresI frs q n k (frs.getD k frNull) (rres frs q n k) (frs.getD k frNull).cols 0 = ((i : Int), (j : Int), true) ∧ frs[i]? = some f ∧ f.cols[j]? = some c := by
      intro h
      rcases hi with e | ⟨i, y, e, hy⟩
      · rw [e] at h ⊢; exact ih h
      · exact ⟨k, 0 + i, _, y, e, hx, by simpa using hy⟩
    revert h
    repeat' split
    all_goals first | exact ih | exact key
end Go.AM

namespace Go.AM
set_option maxRecDepth 100000
set_option maxHeartbeats 1000000
set_option linter.unusedSimpArgs false
set_option linter.unusedVariables false
def cNull : Col := ⟨⟨#[]⟩, 0, false, false⟩
def rFr (frs : List Fr) (q n : Str) : Fr := frs.getD (rResolve frs q n).1.toNat frNull
def rCol (frs : List Fr) (q n : Str) : Col := (rFr frs q n).cols.getD (rResolve frs q n).2.1.toNat cNull
theorem rResolve_ok {frs : List Fr} {q n : Str} (h : (rResolve frs q n).2.2 = true) : ∃ (i j : Nat), rResolve frs q n = ((i : Int), (j : Int), true) ∧ frs[i]? = some (rFr frs q n) ∧ (rFr frs q n).cols[j]? = some (rCol frs q n) := by
  have h' := h
  unfold rResolve at h'
  obtain ⟨i, j, f, c, e, hf, hc⟩ := rres_ok frs q n frs.length (Nat.le_refl _) h'
  have e' : rResolve frs q n = ((i : Int), (j : Int), true) := e
  have e1 : rFr frs q n = f := by simp [rFr, e', List.getD_eq_getElem?_getD, hf]
  have e2 : rCol frs q n = c := by simp [rCol, e1, e', List.getD_eq_getElem?_getD, hc]
  exact ⟨i, j, e', by rw [e1]; exact hf, by rw [e1, e2]; exact hc⟩
theorem el_rFr (frs : List Fr) (q n : Str) (h : (rResolve frs q n).2.2 = true) : ElAt (frs.map Fr.cells) (rResolve frs q n).1 (rFr frs q n).cells 4 := by
  obtain ⟨i, j, e, h1, h2⟩ := rResolve_ok h
  rw [show (rResolve frs q n).1 = (i : Int) by rw [e]]
  exact elAt_map Fr.cells h1 rfl
end Go.AM

namespace Go.AM
set_option maxRecDepth 100000
set_option maxHeartbeats 1000000
set_option linter.unusedSimpArgs false
set_option linter.unusedVariables false
/-- Frames with room for n more. -/
structure FsOk (n : Nat) (frs : List Fr) : Prop where
  len : frs.length + n ≤ 1000000
  cols : ∀ f ∈ frs, Short f.cols
  vals : ∀ f ∈ frs, ∀ v ∈ f.vals, v.small
structure TbOk (tb : List Tb) : Prop where
  len : Short tb
  cols : ∀ x ∈ tb, Short x.sch.cols
  rows : ∀ x ∈ tb, x.rows.length ≤ 1000
  vals : ∀ x ∈ tb, ∀ r ∈ x.rows, ∀ v ∈ r.vals, v.small
theorem FsOk.short {n : Nat} {frs : List Fr} (h : FsOk n frs) : Short frs := by have := h.len; simp only [Short]; omega
theorem FsOk.wrap {n : Nat} {frs : List Fr} (h : FsOk n frs) : IntKind.i64.wrap ((((frs.map Fr.cells).length : Nat) : Int) - 1) = pm1 frs.length := wrap_len _ _ h.short
theorem FsOk.less {n : Nat} {frs : List Fr} (h : FsOk (n + 1) frs) : FsOk n frs := ⟨by have := h.len; omega, h.cols, h.vals⟩
end Go.AM

namespace Go.AM
set_option maxRecDepth 100000
set_option maxHeartbeats 1000000
set_option linter.unusedSimpArgs false
set_option linter.unusedVariables false
theorem few_short {α : Type} {l : List α} (h : Few l) : Short l := by simp only [Few] at h; simp only [Short]; omega
abbrev rIns (frs : List Fr) (tb : List Tb) (q : Qy) : List Fr := rInside frs (rSource tb q.frm).1 []
theorem rSource_cols (tb : List Tb) (n : Str) : ∀ (l : List Tb) (i : Nat), (∀ x ∈ l, Short x.sch.cols) → Short (rsrcL tb n l i).1.cols
  | [], i, _ => by simp [rsrcL]
  | x :: r, i, h => by
    simp only [rsrcL, Bool.cond_eq_ite]
    split
    · exact h x (by simp)
    · exact rSource_cols tb n r _ (fun y hy => h y (by simp [hy]))
theorem FsOk.ins {n : Nat} {frs : List Fr} (h : FsOk (n + 1) frs) {tb : List Tb} (ht : TbOk tb) (q : Qy) : FsOk n (rIns frs tb q) := by
  refine ⟨by have := h.len; simp [rInside]; omega, fun f hf => ?_, fun f hf => ?_⟩
  · simp only [rInside, List.mem_append, List.mem_singleton] at hf
    rcases hf with hf | rfl
    · exact h.cols f hf
    · exact rSource_cols tb q.frm tb 0 ht.cols
  · simp only [rInside, List.mem_append, List.mem_singleton] at hf
    rcases hf with hf | rfl
    · exact h.vals f hf
    · intro v hv; cases hv
end Go.AM

namespace Go.AM
set_option maxRecDepth 100000
set_option maxHeartbeats 1000000
set_option linter.unusedSimpArgs false
set_option linter.unusedVariables false
abbrev uv (n : Int) : AV := .v (.int .u64 n)
theorem vs_one {T : TypeId → TI} {h : Heap} {β : List Con} {w : World} {S : Addr → Prop} {x : Value} {l : List AV} {vs : List Value} (hp : PW (RelV T h β w S) (.v x :: l) vs) : ∃ r, vs = x :: r ∧ PW (RelV T h β w S) l r := by
  cases vs with
  | nil => have := hp.1; simp at this
  | cons y r =>
    have h1 := hp.2 0 _ _ rfl rfl
    exact ⟨r, by rw [h1.v_inv], hp.uncons.2⟩
def add64 (a b c : Int) : Int × Int := ((a + b + c) % 18446744073709551616, (a + b + c) / 18446744073709551616)
theorem k_math_bits_Add64 (a b c : Int) (ha : 0 ≤ a) (hb : 0 ≤ b) (hc : 0 ≤ c ∧ c ≤ 1) : ACallsTo E0 S.math_bits_Add64 [uv a, uv b, uv c] [] (.tup [uv (add64 a b c).1, uv (add64 a b c).2]) [] := by
  intro β S w vs r hp
  obtain ⟨v1, rfl, hp1⟩ := vs_one hp
  obtain ⟨v2, rfl, hp2⟩ := vs_one hp1
  obtain ⟨v3, rfl, hp3⟩ := vs_one hp2
  have h0 : v3 = [] := List.eq_nil_of_length_eq_zero (by have := hp3.1; simpa using this.symm)
  subst h0
  refine .inr ⟨.tuple [.int .u64 (add64 a b c).1, .int .u64 (add64 a b c).2].toArray, w, ?_, ?_⟩
  · have h1 := run_callFunc_extern (e := add64Entry) At.math_bits_Add64 (by kernel_rfl) (by kernel_rfl) (by kernel_rfl) (by kernel_rfl) #[.int .u64 a, .int .u64 b, .int .u64 c] w
    rw [run_add64 a b c ha hb hc.1 hc.2] at h1
    exact h1
  · refine ⟨_, _, β, S, _, rfl, ⟨rfl, rfl⟩, r, Ext.refl _ _ _ _, .tup _ _ rfl fun i x y hx hy => ?_⟩
    match i with
    | 0 => cases hx; cases hy; exact relV_int _ _
    | 1 => cases hx; cases hy; exact relV_int _ _
    | i + 2 => cases hx
abbrev U64 (n : Int) : Prop := 0 ≤ n ∧ n < 18446744073709551616
theorem wrapU (n : Int) : IntKind.u64.wrap n = n % 18446744073709551616 := by simp [IntKind.wrap, IntKind.bits, IntKind.signed]
theorem u64_wrap (n : Int) : U64 (IntKind.u64.wrap n) := by rw [wrapU]; simp only [U64]; omega
theorem add64_u (a b c : Int) (ha : U64 a) (hb : U64 b) (hc : 0 ≤ c ∧ c ≤ 1) : U64 (add64 a b c).1 ∧ 0 ≤ (add64 a b c).2 ∧ (add64 a b c).2 ≤ 1 := by
  simp only [U64, add64] at *; omega
noncomputable def L_sumL (l : List Int) (i : Nat) (high low : Int) : Cfg := loopAt B.arith_Sum 0 [(4, uv high), (5, uv low), (11, isl l), (12, iv ((l.map fun n => [iv n]).length : Nat)), (13, iv (i : Nat))] []
def sumL (l : List Int) : List (Int) → Nat → (Int) → (Int) → Int × Bool
  | [], i, high, low =>
    bif high != IntKind.u64.wrap ((IntKind.i64.wrap low).fdiv (2 ^ min (Int.toNat 63) IntKind.i64.bits)) then
      (0, false)
    else
      (IntKind.i64.wrap low, true)
  | x :: r, i, high, low =>
    sumL l r (i + 1) ((add64 high (IntKind.u64.wrap (x.fdiv (2 ^ min (Int.toNat 63) IntKind.i64.bits))) (add64 low (IntKind.u64.wrap x) 0).snd).fst) ((add64 low (IntKind.u64.wrap x) 0).fst)
theorem k_sumL_loop (l : List Int) (hl : Short l) : ∀ (kk i : Nat) (high low : Int), i + kk = (l).length → U64 high → U64 low → Good E0 B.arith_Sum [] (L_sumL l i high low) (Shut 0 fun r h => r = (.tup [iv (sumL l ((l).drop i) i high low).1, bv (sumL l ((l).drop i) i high low).2]) ∧ h = []) := by
  intro kk
  induction kk with
  | zero =>
    intro i high low hi hh hw2
    have h0 : decide (((i : Nat) : Int) < (((l.map fun n => [iv n]).length : Nat) : Int)) = false := by simp; omega
    have e0 : (l).drop i = [] := List.drop_of_length_le (by omega)
    rw [e0]
    simp only [sumL]
    refine good_unroll ?_
    cases h1 : high != IntKind.u64.wrap ((IntKind.i64.wrap low).fdiv (2 ^ min (Int.toNat 63) IntKind.i64.bits))
    · exact wkr [sb h0, si (e := IntKind.i64.wrap low) rfl, sx (.i ((IntKind.i64.wrap low).fdiv ((2 : Int) ^ min (Int.toNat (63 : Int)) IntKind.i64.bits))) (show (0 : Int) ≤ (63 : Int) ∧ ((IntKind.i64.wrap low).fdiv ((2 : Int) ^ min (Int.toNat (63 : Int)) IntKind.i64.bits) : Int) = (IntKind.i64.wrap low).fdiv ((2 : Int) ^ min (Int.toNat (63 : Int)) IntKind.i64.bits) from ⟨(by simp_all), rfl⟩), si (e := IntKind.u64.wrap ((IntKind.i64.wrap low).fdiv (2 ^ min (Int.toNat 63) IntKind.i64.bits))) rfl, sb h1] (by kernel_rfl)
    · exact wkr [sb h0, si (e := IntKind.i64.wrap low) rfl, sx (.i ((IntKind.i64.wrap low).fdiv ((2 : Int) ^ min (Int.toNat (63 : Int)) IntKind.i64.bits))) (show (0 : Int) ≤ (63 : Int) ∧ ((IntKind.i64.wrap low).fdiv ((2 : Int) ^ min (Int.toNat (63 : Int)) IntKind.i64.bits) : Int) = (IntKind.i64.wrap low).fdiv ((2 : Int) ^ min (Int.toNat (63 : Int)) IntKind.i64.bits) from ⟨(by simp_all), rfl⟩), si (e := IntKind.u64.wrap ((IntKind.i64.wrap low).fdiv (2 ^ min (Int.toNat 63) IntKind.i64.bits))) rfl, sb h1] (by kernel_rfl)
  | succ kk ih =>
    intro i high low hi hh hw2
    obtain ⟨x, hx⟩ := ex_at (l := l) (i := i) (by omega)
    have h0 : decide (((i : Nat) : Int) < (((l.map fun n => [iv n]).length : Nat) : Int)) = true := by simp; omega
    have hw := wrap_nat i (by first | omega | (simp only [Short, Few] at *; omega))
    rw [drop_at hx]
    simp only [sumL]
    refine good_unroll ?_
    exact wkl [sb h0, se (elAt_map (fun n => [iv n]) hx rfl), si (e := IntKind.u64.wrap x) rfl, sc (k_math_bits_Add64 (low) (IntKind.u64.wrap x) (0) (by first | assumption | exact hh.1 | exact hw2.1 | exact (u64_wrap _).1 | omega | exact (add64_u _ _ _ (by assumption) (u64_wrap _) (by omega)).2) (by first | assumption | exact hh.1 | exact hw2.1 | exact (u64_wrap _).1 | omega | exact (add64_u _ _ _ (by assumption) (u64_wrap _) (by omega)).2) (by first | assumption | exact hh.1 | exact hw2.1 | exact (u64_wrap _).1 | omega | exact (add64_u _ _ _ (by assumption) (u64_wrap _) (by omega)).2)), sx (.i (x.fdiv ((2 : Int) ^ min (Int.toNat (63 : Int)) IntKind.i64.bits))) (show (0 : Int) ≤ (63 : Int) ∧ (x.fdiv ((2 : Int) ^ min (Int.toNat (63 : Int)) IntKind.i64.bits) : Int) = x.fdiv ((2 : Int) ^ min (Int.toNat (63 : Int)) IntKind.i64.bits) from ⟨(by simp_all), rfl⟩), si (e := IntKind.u64.wrap (x.fdiv (2 ^ min (Int.toNat 63) IntKind.i64.bits))) rfl, sc (k_math_bits_Add64 (high) (IntKind.u64.wrap (x.fdiv (2 ^ min (Int.toNat 63) IntKind.i64.bits))) ((add64 low (IntKind.u64.wrap x) 0).snd) (by first | assumption | exact hh.1 | exact hw2.1 | exact (u64_wrap _).1 | omega | exact (add64_u _ _ _ (by assumption) (u64_wrap _) (by omega)).2) (by first | assumption | exact hh.1 | exact hw2.1 | exact (u64_wrap _).1 | omega | exact (add64_u _ _ _ (by assumption) (u64_wrap _) (by omega)).2) (by first | assumption | exact hh.1 | exact hw2.1 | exact (u64_wrap _).1 | omega | exact (add64_u _ _ _ (by assumption) (u64_wrap _) (by omega)).2)), si hw] [4, 5, 11, 12, 13] 0 (by kernel_rfl) (ih (i + 1) ((add64 high (IntKind.u64.wrap (x.fdiv (2 ^ min (Int.toNat 63) IntKind.i64.bits))) (add64 low (IntKind.u64.wrap x) 0).snd).fst) ((add64 low (IntKind.u64.wrap x) 0).fst) (by omega) (by first | assumption | exact (add64_u _ _ _ (by assumption) (u64_wrap _) (by first | omega | exact (add64_u _ _ _ (by assumption) (u64_wrap _) (by omega)).2)).1) (by first | assumption | exact (add64_u _ _ _ (by assumption) (u64_wrap _) (by first | omega | exact (add64_u _ _ _ (by assumption) (u64_wrap _) (by omega)).2)).1))
def aSum (l : List Int) : Int × Bool :=
  sumL l l 0 (0) (0)
theorem k_arith_Sum (l : List Int) (hl : Short l) : ACallsTo E0 S.arith_Sum [isl l] [] (.tup [iv (aSum l).1, bv (aSum l).2]) [] := by
  unfold aSum
  exact wkc At.arith_Sum [] [4, 5, 11, 12, 13] 0 (by kernel_rfl) (by have ih := k_sumL_loop l hl l.length 0 (0) (0) (by simp) (by simp only [U64]; omega) (by simp only [U64]; omega); exact ih)
noncomputable def L_esumL (its : List V) (i : Nat) (l : List Int) : Cfg := loopAt B.evaluate_sum 0 [(2, .p 0 0), (4, .own 1 l.length), (9, vsl its), (10, iv ((its.map V.cells).length : Nat)), (11, iv (i : Nat))] [.box [iv 0, iv 0, sv ⟨#[]⟩], .row Ty.int64 (l.map fun n => [iv n]) false]
def esumL (its : List V) : List (V) → Nat → (List Int) → V × Int
  | [], i, l =>
    bif !(aSum l).snd then
      (V.mk 0 0 (ByteArray.mk #[]), 6)
    else
      (V.mk 1 (aSum l).fst (ByteArray.mk #[]), 0)
  | x :: r, i, l =>
    esumL its r (i + 1) (l ++ [x.int])
theorem k_esumL_loop (its : List V) (hl : Short its) : ∀ (kk i : Nat) (l : List Int), i + kk = (its).length → l.length ≤ i → Good E0 B.evaluate_sum [] (L_esumL its i l) (Shut 0 fun r h => r = (.tup [(esumL its ((its).drop i) i l).1.av, iv (esumL its ((its).drop i) i l).2]) ∧ h = []) := by
  intro kk
  induction kk with
  | zero =>
    intro i l hi ho
    have h0 : decide (((i : Nat) : Int) < (((its.map V.cells).length : Nat) : Int)) = false := by simp; omega
    have e0 : (its).drop i = [] := List.drop_of_length_le (by omega)
    rw [e0]
    simp only [esumL]
    refine good_unroll ?_
    cases h1 : !(aSum l).snd
    · exact wkr [sb h0, skx (l.length = (List.map (fun n => [iv n]) l).length ∧ True) [] (k_arith_Sum (l) (by first | assumption | (simp only [Short] at *; omega))), sb h1, sc (k_value_Number ((aSum l).fst))] (by kernel_rfl)
    · exact wkr [sb h0, skx (l.length = (List.map (fun n => [iv n]) l).length ∧ True) [] (k_arith_Sum (l) (by first | assumption | (simp only [Short] at *; omega))), sb h1] (by kernel_rfl)
  | succ kk ih =>
    intro i l hi ho
    obtain ⟨x, hx⟩ := ex_at (l := its) (i := i) (by omega)
    have h0 : decide (((i : Nat) : Int) < (((its.map V.cells).length : Nat) : Int)) = true := by simp; omega
    have hw := wrap_nat i (by first | omega | (simp only [Short, Few] at *; omega))
    rw [drop_at hx]
    simp only [esumL]
    refine good_unroll ?_
    exact wkl (c' := (Cfg.mk (L_esumL its (i + 1) (l ++ [x.int])).n (L_esumL its (i + 1) (l ++ [x.int])).todo [(2, AV.p 0 0), (4, AV.own 1 (List.map (fun n => [iv n]) l ++ [[iv x.int]]).length), (9, AV.sl (List.map V.cells its)), (10, iv (↑(List.map V.cells its).length : Int)), (11, iv (↑(i + 1) : Int))] [Blk.box [iv 0, iv 0, sv (ByteArray.mk #[])], Blk.row Ty.int64 (List.map (fun n => [iv n]) l ++ [[iv x.int]]) false])) [sb h0, se (elAt_map (V.cells) hx rfl), sqx (AllLen [[iv x.int]] 1 ∧ l.length = (List.map (fun n => [iv n]) l).length ∧ (((List.map (fun n => [iv n]) l).length + [[iv x.int]].length) * 8).le 140737488355328), si hw] [2, 4, 9, 10, 11] 2 (by kernel_rfl) (good_same (show ([(2, AV.p 0 0), (4, AV.own 1 (List.map (fun n => [iv n]) l ++ [[iv x.int]]).length), (9, AV.sl (List.map V.cells its)), (10, iv (↑(List.map V.cells its).length : Int)), (11, iv (↑(i + 1) : Int))] : TS) = [(2, AV.p 0 0), (4, AV.own 1 (l ++ [x.int]).length), (9, AV.sl (List.map V.cells its)), (10, iv (↑(List.map V.cells its).length : Int)), (11, iv (↑(i + 1) : Int))] by first | rfl | (simp; done) | (simp [X.cells, Qy.cells, V.cells, Col.cells, Rw.cells, Tb.cells, Fr.cells, Sch.cells, Tp.cells, Pl.cells, xCol, xLit, xBin, xNeg]; done)) (show ([Blk.box [iv 0, iv 0, sv (ByteArray.mk #[])], Blk.row Ty.int64 (List.map (fun n => [iv n]) l ++ [[iv x.int]]) false] : Heap) = [Blk.box [iv 0, iv 0, sv (ByteArray.mk #[])], Blk.row Ty.int64 (List.map (fun n => [iv n]) (l ++ [x.int])) false] by first | rfl | (simp; done) | (simp [X.cells, Qy.cells, V.cells, Col.cells, Rw.cells, Tb.cells, Fr.cells, Sch.cells, Tp.cells, Pl.cells, xCol, xLit, xBin, xNeg]; done)) (ih (i + 1) (l ++ [x.int]) (by omega) (by first | assumption | (simp; done) | (simp; omega) | omega | (simp at *; omega))))
def eSum (its : List V) : V × Int :=
  esumL its its 0 ([])
theorem k_evaluate_sum (its : List V) (hl : Short its) : ACallsTo E0 S.evaluate_sum [vsl its] [] (.tup [(eSum its).1.av, iv (eSum its).2]) [] := by
  unfold eSum
  exact wkc At.evaluate_sum (c' := (Cfg.mk (L_esumL its 0 []).n (L_esumL its 0 []).todo [(2, AV.p 0 0), (4, AV.nl), (9, AV.sl (List.map V.cells its)), (10, iv (↑(List.map V.cells its).length : Int)), (11, iv 0)] [Blk.box [iv 0, iv 0, sv (ByteArray.mk #[])]])) [] [2, 4, 9, 10, 11] 1 (by kernel_rfl) (good_ownCut (c' := L_esumL its 0 []) 4 Ty.int64 [2, 4, 9, 10, 11] 2 (by kernel_rfl) (by kernel_rfl) (by kernel_rfl) (by have ih := k_esumL_loop its hl its.length 0 ([]) (by simp) (by simp); exact ih))
end Go.AM

namespace Go.AM
set_option maxRecDepth 100000
set_option maxHeartbeats 1000000
set_option linter.unusedSimpArgs false
set_option linter.unusedVariables false
noncomputable def L_minL (l : List V) (i : Nat) (m : V) : Cfg := loopAt B.slices_MinFunc_Value 0 [(0, vsl l), (1, .fn S.value_Compare []), (4, .p 0 0), (5, .p 1 0), (6, iv (i : Nat))] [.box [iv 0, iv 0, sv ⟨#[]⟩], .box m.cells]
def minL (l : List V) : List (V) → Nat → (V) → V
  | [], i, m =>
    m
  | x :: r, i, m =>
    bif decide (cmpV x m < 0) then
      minL l r (i + 1) (x)
    else
      minL l r (i + 1) (m)
theorem k_minL_loop (l : List V) (hl : Short l) : ∀ (kk i : Nat) (m : V), i + kk = (l).length → Good E0 B.slices_MinFunc_Value [] (L_minL l i m) (Shut 0 fun r h => r = ((minL l ((l).drop i) i m).av) ∧ h = []) := by
  intro kk
  induction kk with
  | zero =>
    intro i m hi 
    have h0 : decide (((i : Nat) : Int) < (((l.map V.cells).length : Nat) : Int)) = false := by simp; omega
    have e0 : (l).drop i = [] := List.drop_of_length_le (by omega)
    rw [e0]
    simp only [minL]
    refine good_unroll ?_
    exact wkr [sb h0] (by kernel_rfl)
  | succ kk ih =>
    intro i m hi 
    obtain ⟨x, hx⟩ := ex_at (l := l) (i := i) (by omega)
    have h0 : decide (((i : Nat) : Int) < (((l.map V.cells).length : Nat) : Int)) = true := by simp; omega
    have hw := wrap_nat i (by first | omega | (simp only [Short, Few] at *; omega))
    rw [drop_at hx]
    simp only [minL]
    refine good_unroll ?_
    cases h1 : decide (cmpV x m < 0)
    · exact wkl [sb h0, sd [(3, [se (elAt_map (V.cells) hx rfl)]), (6, [sc (k_value_Compare (x) (m))])], sb h1, si hw] [0, 1, 4, 5, 6] 2 (by kernel_rfl) (ih (i + 1) (m) (by omega) )
    · exact wkl [sb h0, sd [(3, [se (elAt_map (V.cells) hx rfl)]), (6, [sc (k_value_Compare (x) (m))])], sb h1, se (elAt_map (V.cells) hx rfl), si hw] [0, 1, 4, 5, 6] 2 (by kernel_rfl) (ih (i + 1) (x) (by omega) )
def minV (l : List V) : V :=
  minL l (l.drop 1) 1 (l.headD V.null)
theorem k_slices_MinFunc_Value (l : List V) (hl : Short l) (hy : l[0]? = some (l.headD V.null)) (hn : decide (((((l.map V.cells).length : Nat) : Int)) < 1) = false) : ACallsTo E0 S.slices_MinFunc_Value [vsl l, .fn S.value_Compare []] [] ((minV l).av) [] := by
  unfold minV
  exact wkc At.slices_MinFunc_Value [sb hn, se (elAt_map (V.cells) hy rfl)] [0, 1, 4, 5, 6] 2 (by kernel_rfl) (by have hlt := at_lt hy; have ih := k_minL_loop l hl (l.length - 1) 1 (l.headD V.null) (by omega); exact ih)
noncomputable def L_maxL (l : List V) (i : Nat) (m : V) : Cfg := loopAt B.slices_MaxFunc_Value 0 [(0, vsl l), (1, .fn S.value_Compare []), (4, .p 0 0), (5, .p 1 0), (6, iv (i : Nat))] [.box [iv 0, iv 0, sv ⟨#[]⟩], .box m.cells]
def maxL (l : List V) : List (V) → Nat → (V) → V
  | [], i, m =>
    m
  | x :: r, i, m =>
    bif decide (0 < cmpV x m) then
      maxL l r (i + 1) (x)
    else
      maxL l r (i + 1) (m)
theorem k_maxL_loop (l : List V) (hl : Short l) : ∀ (kk i : Nat) (m : V), i + kk = (l).length → Good E0 B.slices_MaxFunc_Value [] (L_maxL l i m) (Shut 0 fun r h => r = ((maxL l ((l).drop i) i m).av) ∧ h = []) := by
  intro kk
  induction kk with
  | zero =>
    intro i m hi 
    have h0 : decide (((i : Nat) : Int) < (((l.map V.cells).length : Nat) : Int)) = false := by simp; omega
    have e0 : (l).drop i = [] := List.drop_of_length_le (by omega)
    rw [e0]
    simp only [maxL]
    refine good_unroll ?_
    exact wkr [sb h0] (by kernel_rfl)
  | succ kk ih =>
    intro i m hi 
    obtain ⟨x, hx⟩ := ex_at (l := l) (i := i) (by omega)
    have h0 : decide (((i : Nat) : Int) < (((l.map V.cells).length : Nat) : Int)) = true := by simp; omega
    have hw := wrap_nat i (by first | omega | (simp only [Short, Few] at *; omega))
    rw [drop_at hx]
    simp only [maxL]
    refine good_unroll ?_
    cases h1 : decide (0 < cmpV x m)
    · exact wkl [sb h0, sd [(3, [se (elAt_map (V.cells) hx rfl)]), (6, [sc (k_value_Compare (x) (m))])], sb h1, si hw] [0, 1, 4, 5, 6] 2 (by kernel_rfl) (ih (i + 1) (m) (by omega) )
    · exact wkl [sb h0, sd [(3, [se (elAt_map (V.cells) hx rfl)]), (6, [sc (k_value_Compare (x) (m))])], sb h1, se (elAt_map (V.cells) hx rfl), si hw] [0, 1, 4, 5, 6] 2 (by kernel_rfl) (ih (i + 1) (x) (by omega) )
def maxV (l : List V) : V :=
  maxL l (l.drop 1) 1 (l.headD V.null)
theorem k_slices_MaxFunc_Value (l : List V) (hl : Short l) (hy : l[0]? = some (l.headD V.null)) (hn : decide (((((l.map V.cells).length : Nat) : Int)) < 1) = false) : ACallsTo E0 S.slices_MaxFunc_Value [vsl l, .fn S.value_Compare []] [] ((maxV l).av) [] := by
  unfold maxV
  exact wkc At.slices_MaxFunc_Value [sb hn, se (elAt_map (V.cells) hy rfl)] [0, 1, 4, 5, 6] 2 (by kernel_rfl) (by have hlt := at_lt hy; have ih := k_maxL_loop l hl (l.length - 1) 1 (l.headD V.null) (by omega); exact ih)
def eTrue1 (f : X → V × Int) (x : X) : Bool × Int :=
  bif (f x).snd == 0 then
    bif !lvalid (f x).fst then
      (false, 5)
    else
      (isTrue (f x).fst, (f x).snd)
  else
    (false, (f x).snd)
theorem k_evaluate_True__1 (f : X → V × Int) (x : X) (r : List X) (frs : List Fr) (tb : List Tb) (hf : Pure S.evaluate_Value [x.av, fsl frs, tsl tb] (.tup [(f x).1.av, iv (f x).2])) (hs : (f x).1.small) : ACallsTo E0 S.evaluate_True [xsl (x :: r), fsl frs, tsl tb] [] (.tup [bv (eTrue1 f x).1, iv (eTrue1 f x).2]) [] := by
  unfold eTrue1
  cases h1 : (f x).snd == 0
  · exact wk At.evaluate_True [sb (rfl : false = false), se (elAt_X (l := x :: r) (i := 0) (x := x) rfl), sc hf, sb h1, sb h1] (by kernel_rfl)
  · cases h2 : !lvalid (f x).fst
    · exact wk At.evaluate_True [sb (rfl : false = false), se (elAt_X (l := x :: r) (i := 0) (x := x) rfl), sc hf, sg h1, sc (k_logic_Valid ((f x).fst) (by first | assumption | omega | (simp; done) | (simp; omega))), sb h2, sg h1, sc (k_logic_IsTrue ((f x).fst))] (by kernel_rfl)
    · exact wk At.evaluate_True [sb (rfl : false = false), se (elAt_X (l := x :: r) (i := 0) (x := x) rfl), sc hf, sg h1, sc (k_logic_Valid ((f x).fst) (by first | assumption | omega | (simp; done) | (simp; omega))), sb h2, sb (rfl : false = false)] (by kernel_rfl)
def eTrue0  : Bool × Int :=
  (true, 0)
theorem k_evaluate_True__0  (frs : List Fr) (tb : List Tb) : ACallsTo E0 S.evaluate_True [xsl [], fsl frs, tsl tb] [] (.tup [bv eTrue0.1, iv eTrue0.2]) [] := by
  exact wk At.evaluate_True [sb (rfl : true = true)] (by kernel_rfl)
noncomputable def clC (frs : List Fr) : Cfg := (upto (mk E0) (List.range 40) 0 3000 ⟨B.slices_Clone_Frame.ntmps, [.code (B.slices_Clone_Frame.body.getD .skip)], argTS 0 [fsl frs], []⟩ []).2
theorem clone_f (frs : List Fr) (hl : Short frs) : Good E0 B.slices_Clone_Frame [] (nilBack (clC frs) false) (fun r h => r = .own 0 frs.length ∧ h = [.row Ty.Frame (frs.map Fr.cells) false]) := by
  exact toRetK E0ok mix0 3000 (y := AV.own (0 : Nat) (List.map Fr.cells frs).length) (H := [Blk.row Ty.Frame (List.map Fr.cells frs) false]) [sb (rfl : false = false), sq (show AllLen (List.map Fr.cells frs) (4 : Nat) ∧ ((List.map Fr.cells frs).length * (72 : Nat)).le (140737488355328 : Nat) by first | assumption | (simp; done) | (simp; omega) | omega | rfl | (refine ⟨⟨by simp⟩, ?_⟩; first | (simp; done) | (simp; omega) | omega) | (refine ⟨⟨by simp⟩, ?_, ?_⟩ <;> first | (simp; done) | (simp; omega) | omega))] (by kernel_rfl) (⟨by first | rfl | (simp; done), rfl⟩)
theorem clone_t : Good E0 B.slices_Clone_Frame [] (nilBack (clC []) true) (fun r h => r = .nl ∧ h = []) := by
  exact toRetK E0ok mix0 3000 (y := AV.nl) (H := []) [sb (rfl : true = true)] (by kernel_rfl) (⟨rfl, rfl⟩)
end Go.AM

namespace Go.AM
set_option maxRecDepth 100000
set_option maxHeartbeats 1000000
set_option linter.unusedSimpArgs false
set_option linter.unusedVariables false
theorem k_slices_Clone_Frame (frs : List Fr) (hl : Short frs) : ACallsTo E0 S.slices_Clone_Frame [fsl frs] [] (.own 0 frs.length) [.row Ty.Frame (frs.map Fr.cells) false] := by
  refine acalls_of_good At.slices_Clone_Frame rfl (by kernel_rfl) (Nat.le_of_ble_eq_true (by kernel_rfl)) (toLoop E0ok mix0 3000 [] (List.range 40) 0 (c' := clC frs) (by kernel_rfl) (by kernel_rfl) (good_nil E0ok (xs := frs.map Fr.cells) (e := true) (by kernel_rfl) fun b hb => ?_))
  cases b with
  | false => exact clone_f frs hl
  | true =>
    cases frs with
    | nil => exact good_retOwn Ty.Frame clone_t ⟨rfl, rfl⟩
    | cons x r => exact absurd (hb (by simp)) (by simp)
def eInside (frs : List Fr) (t : Tb) (v : List V) : (List Fr) :=
  frs ++ [Fr.mk t.sch.name false t.sch.cols v]
theorem k_evaluate_inside (frs : List Fr) (t : Tb) (v : List V) (hl : Short frs) : ACallsTo E0 S.evaluate_inside [fsl frs, t.av, vsl v] [] (fsl (eInside frs t v)) [] := by
  unfold eInside
  exact (by (try simp only [X.av, Qy.av, V.av, Tb.av, Sch.av, Pl.av, xsl, fsl, vsl, tsl, List.map_append, List.map_cons, List.map_nil, V.cells, Col.cells, Rw.cells, Tb.cells, Fr.cells, Sch.cells, Pl.cells, cellsX_app, cellsX_cons, cellsX_nil, cellsQ_cons, cellsQ_nil, X.cells, Qy.cells, X.args_mk, X.sub_mk, Qy.items_mk, Qy.wh_mk, xCol, xLit, xBin, xNeg]); exact wk At.evaluate_inside [sqx ((List.map Fr.cells frs ++ [[sv t.sch.name, bv false, AV.sl (List.map Col.cells t.sch.cols), AV.sl (List.map V.cells v)]]).length = (List.map Fr.cells frs ++ [[sv t.sch.name, bv false, AV.sl (List.map Col.cells t.sch.cols), AV.sl (List.map V.cells v)]]).length), sd [(1, [sc (k_slices_Clone_Frame (frs) (by first | assumption | omega | (simp; done) | (simp; omega)))]), (11, [sqx (AllLen [[sv t.sch.name, bv false, AV.sl (List.map Col.cells t.sch.cols), AV.sl (List.map V.cells v)]] 4 ∧ frs.length = (List.map Fr.cells frs).length ∧ (((List.map Fr.cells frs).length + [[sv t.sch.name, bv false, AV.sl (List.map Col.cells t.sch.cols), AV.sl (List.map V.cells v)]].length) * 72).le 140737488355328)])]] (by kernel_rfl))
end Go.AM

namespace Go.AM
set_option maxRecDepth 100000
set_option maxHeartbeats 1000000
set_option linter.unusedSimpArgs false
set_option linter.unusedVariables false
/-- The variables that the aggregate's closure shares. -/
abbrev AH (q : Qy) (tb : List Tb) (e : X) (n : Nat) (its : List V) : Heap := [.box [iv (n : Nat)], .box q.cells, .box [tsl tb], .box e.cells, .box [.own 5 its.length], .row Ty.Value (its.map V.cells) false]
noncomputable def L_aggI (f : X → V × Int) (q : Qy) (w : List Fr) (tb : List Tb) (e : X) (n : Nat) (its0 : List V) (i : Nat) (its : List V) : Cfg := loopAt B.evaluate_aggregate_c1 0 [(1, fsl w), (4, .p 2 0), (5, .p 3 0), (6, .p 4 0), (17, xsl q.items), (18, iv ((cellsX q.items).length : Nat)), (19, iv (i : Nat))] (AH q tb e (n + 1) its)
def aggI (f : X → V × Int) (q : Qy) (w : List Fr) (tb : List Tb) (e : X) (n : Nat) (its0 : List V) : List (X) → Nat → (List V) → Int × (List V)
  | [], i, its =>
    (0, its)
  | x :: r, i, its =>
    bif (f x).snd != 0 then
      ((f x).snd, its)
    else
      bif (f x).fst.kind == 0 then
        aggI f q w tb e n its0 r (i + 1) (its)
      else
        bif e.kind == 10 then
          bif (f x).fst.kind != 1 then
            (5, its)
          else
            aggI f q w tb e n its0 r (i + 1) (its ++ [(f x).fst])
        else
          aggI f q w tb e n its0 r (i + 1) (its ++ [(f x).fst])
theorem k_aggI_loop (f : X → V × Int) (q : Qy) (w : List Fr) (tb : List Tb) (e : X) (n : Nat) (its0 : List V) (hl : q.items.length ≤ 1000) (hi0 : its0.length ≤ 2000000) (hf : ∀ x ∈ q.items, Pure S.evaluate_Value [x.av, fsl w, tsl tb] (.tup [(f x).1.av, iv (f x).2])) : ∀ (kk i : Nat) (its : List V), i + kk = (q.items).length → its.length ≤ its0.length + i → Good E0 B.evaluate_aggregate_c1 (AH q tb e n its0) (L_aggI f q w tb e n its0 i its) (Shut 6 fun r h => r = (iv (aggI f q w tb e n its0 ((q.items).drop i) i its).1) ∧ h = (AH q tb e (n + 1) (aggI f q w tb e n its0 ((q.items).drop i) i its).2)) := by
  intro kk
  induction kk with
  | zero =>
    intro i its hi ho
    have h0 : decide (((i : Nat) : Int) < (((cellsX q.items).length : Nat) : Int)) = false := by simp; omega
    have e0 : (q.items).drop i = [] := List.drop_of_length_le (by omega)
    rw [e0]
    simp only [aggI]
    refine good_unroll ?_
    exact wkr [sb h0] (by kernel_rfl)
  | succ kk ih =>
    intro i its hi ho
    obtain ⟨x, hx⟩ := ex_at (l := q.items) (i := i) (by omega)
    have h0 : decide (((i : Nat) : Int) < (((cellsX q.items).length : Nat) : Int)) = true := by simp; omega
    have hw := wrap_nat i (by first | omega | (simp only [Short, Few] at *; omega))
    have hfx := hf x (List.mem_of_getElem? hx)
    rw [drop_at hx]
    simp only [aggI]
    refine good_unroll ?_
    cases h1 : (f x).snd != 0
    · cases h2 : (f x).fst.kind == 0
      · cases h3 : e.kind == 10
        · exact wkl (c' := (Cfg.mk (L_aggI f q w tb e n its0 (i + 1) (its ++ [(f x).fst])).n (L_aggI f q w tb e n its0 (i + 1) (its ++ [(f x).fst])).todo [(1, AV.sl (List.map Fr.cells w)), (4, AV.p 2 0), (5, AV.p 3 0), (6, AV.p 4 0), (17, AV.sl (cellsX q.items)), (18, iv (↑(cellsX q.items).length : Int)), (19, iv (↑(i + 1) : Int))] [Blk.box [iv (↑(n + 1) : Int)], Blk.box [bv q.star, AV.sl (cellsX q.items), sv q.frm, AV.sl (cellsX q.wh)], Blk.box [AV.sl (List.map Tb.cells tb)], Blk.box [iv e.kind, iv e.op, bv e.not, iv e.val.kind, iv e.val.int, sv e.val.text, sv e.table, sv e.name, AV.sl (cellsX e.args), AV.sl (cellsQ e.sub)], Blk.box [AV.own 5 (List.map V.cells its ++ [[iv (f x).fst.kind, iv (f x).fst.int, sv (f x).fst.text]]).length], Blk.row Ty.Value (List.map V.cells its ++ [[iv (f x).fst.kind, iv (f x).fst.int, sv (f x).fst.text]]) false])) [sb h0, se (elAt_X hx), sc hfx, sb h1, sc (k_evaluate_isNull ((f x).fst)), sb h2, sb h3, sqx (AllLen [[iv (f x).fst.kind, iv (f x).fst.int, sv (f x).fst.text]] 3 ∧ its.length = (List.map V.cells its).length ∧ (((List.map V.cells its).length + [[iv (f x).fst.kind, iv (f x).fst.int, sv (f x).fst.text]].length) * 32).le 140737488355328), si hw] [1, 4, 5, 6, 17, 18, 19] 6 (by kernel_rfl) (good_same (show ([(1, AV.sl (List.map Fr.cells w)), (4, AV.p 2 0), (5, AV.p 3 0), (6, AV.p 4 0), (17, AV.sl (cellsX q.items)), (18, iv (↑(cellsX q.items).length : Int)), (19, iv (↑(i + 1) : Int))] : TS) = [(1, AV.sl (List.map Fr.cells w)), (4, AV.p 2 0), (5, AV.p 3 0), (6, AV.p 4 0), (17, AV.sl (cellsX q.items)), (18, iv (↑(cellsX q.items).length : Int)), (19, iv (↑(i + 1) : Int))] by first | rfl | (simp; done) | (simp [X.cells, Qy.cells, V.cells, Col.cells, Rw.cells, Tb.cells, Fr.cells, Sch.cells, Tp.cells, Pl.cells, xCol, xLit, xBin, xNeg]; done)) (show ([Blk.box [iv (↑(n + 1) : Int)], Blk.box [bv q.star, AV.sl (cellsX q.items), sv q.frm, AV.sl (cellsX q.wh)], Blk.box [AV.sl (List.map Tb.cells tb)], Blk.box [iv e.kind, iv e.op, bv e.not, iv e.val.kind, iv e.val.int, sv e.val.text, sv e.table, sv e.name, AV.sl (cellsX e.args), AV.sl (cellsQ e.sub)], Blk.box [AV.own 5 (List.map V.cells its ++ [[iv (f x).fst.kind, iv (f x).fst.int, sv (f x).fst.text]]).length], Blk.row Ty.Value (List.map V.cells its ++ [[iv (f x).fst.kind, iv (f x).fst.int, sv (f x).fst.text]]) false] : Heap) = [Blk.box [iv (↑(n + 1) : Int)], Blk.box [bv q.star, AV.sl (cellsX q.items), sv q.frm, AV.sl (cellsX q.wh)], Blk.box [AV.sl (List.map Tb.cells tb)], Blk.box [iv e.kind, iv e.op, bv e.not, iv e.val.kind, iv e.val.int, sv e.val.text, sv e.table, sv e.name, AV.sl (cellsX e.args), AV.sl (cellsQ e.sub)], Blk.box [AV.own 5 (its ++ [(f x).fst]).length], Blk.row Ty.Value (List.map V.cells (its ++ [(f x).fst])) false] by first | rfl | (simp; done) | (simp [X.cells, Qy.cells, V.cells, Col.cells, Rw.cells, Tb.cells, Fr.cells, Sch.cells, Tp.cells, Pl.cells, xCol, xLit, xBin, xNeg]; done)) (ih (i + 1) (its ++ [(f x).fst]) (by omega) (by first | assumption | (simp; done) | (simp; omega) | omega | (simp at *; omega))))
        · cases h4 : (f x).fst.kind != 1
          · exact wkl (c' := (Cfg.mk (L_aggI f q w tb e n its0 (i + 1) (its ++ [(f x).fst])).n (L_aggI f q w tb e n its0 (i + 1) (its ++ [(f x).fst])).todo [(1, AV.sl (List.map Fr.cells w)), (4, AV.p 2 0), (5, AV.p 3 0), (6, AV.p 4 0), (17, AV.sl (cellsX q.items)), (18, iv (↑(cellsX q.items).length : Int)), (19, iv (↑(i + 1) : Int))] [Blk.box [iv (↑(n + 1) : Int)], Blk.box [bv q.star, AV.sl (cellsX q.items), sv q.frm, AV.sl (cellsX q.wh)], Blk.box [AV.sl (List.map Tb.cells tb)], Blk.box [iv e.kind, iv e.op, bv e.not, iv e.val.kind, iv e.val.int, sv e.val.text, sv e.table, sv e.name, AV.sl (cellsX e.args), AV.sl (cellsQ e.sub)], Blk.box [AV.own 5 (List.map V.cells its ++ [[iv (f x).fst.kind, iv (f x).fst.int, sv (f x).fst.text]]).length], Blk.row Ty.Value (List.map V.cells its ++ [[iv (f x).fst.kind, iv (f x).fst.int, sv (f x).fst.text]]) false])) [sb h0, se (elAt_X hx), sc hfx, sb h1, sc (k_evaluate_isNull ((f x).fst)), sb h2, sg h3, sb h4, sqx (AllLen [[iv (f x).fst.kind, iv (f x).fst.int, sv (f x).fst.text]] 3 ∧ its.length = (List.map V.cells its).length ∧ (((List.map V.cells its).length + [[iv (f x).fst.kind, iv (f x).fst.int, sv (f x).fst.text]].length) * 32).le 140737488355328), si hw] [1, 4, 5, 6, 17, 18, 19] 6 (by kernel_rfl) (good_same (show ([(1, AV.sl (List.map Fr.cells w)), (4, AV.p 2 0), (5, AV.p 3 0), (6, AV.p 4 0), (17, AV.sl (cellsX q.items)), (18, iv (↑(cellsX q.items).length : Int)), (19, iv (↑(i + 1) : Int))] : TS) = [(1, AV.sl (List.map Fr.cells w)), (4, AV.p 2 0), (5, AV.p 3 0), (6, AV.p 4 0), (17, AV.sl (cellsX q.items)), (18, iv (↑(cellsX q.items).length : Int)), (19, iv (↑(i + 1) : Int))] by first | rfl | (simp; done) | (simp [X.cells, Qy.cells, V.cells, Col.cells, Rw.cells, Tb.cells, Fr.cells, Sch.cells, Tp.cells, Pl.cells, xCol, xLit, xBin, xNeg]; done)) (show ([Blk.box [iv (↑(n + 1) : Int)], Blk.box [bv q.star, AV.sl (cellsX q.items), sv q.frm, AV.sl (cellsX q.wh)], Blk.box [AV.sl (List.map Tb.cells tb)], Blk.box [iv e.kind, iv e.op, bv e.not, iv e.val.kind, iv e.val.int, sv e.val.text, sv e.table, sv e.name, AV.sl (cellsX e.args), AV.sl (cellsQ e.sub)], Blk.box [AV.own 5 (List.map V.cells its ++ [[iv (f x).fst.kind, iv (f x).fst.int, sv (f x).fst.text]]).length], Blk.row Ty.Value (List.map V.cells its ++ [[iv (f x).fst.kind, iv (f x).fst.int, sv (f x).fst.text]]) false] : Heap) = [Blk.box [iv (↑(n + 1) : Int)], Blk.box [bv q.star, AV.sl (cellsX q.items), sv q.frm, AV.sl (cellsX q.wh)], Blk.box [AV.sl (List.map Tb.cells tb)], Blk.box [iv e.kind, iv e.op, bv e.not, iv e.val.kind, iv e.val.int, sv e.val.text, sv e.table, sv e.name, AV.sl (cellsX e.args), AV.sl (cellsQ e.sub)], Blk.box [AV.own 5 (its ++ [(f x).fst]).length], Blk.row Ty.Value (List.map V.cells (its ++ [(f x).fst])) false] by first | rfl | (simp; done) | (simp [X.cells, Qy.cells, V.cells, Col.cells, Rw.cells, Tb.cells, Fr.cells, Sch.cells, Tp.cells, Pl.cells, xCol, xLit, xBin, xNeg]; done)) (ih (i + 1) (its ++ [(f x).fst]) (by omega) (by first | assumption | (simp; done) | (simp; omega) | omega | (simp at *; omega))))
          · exact wkr [sb h0, se (elAt_X hx), sc hfx, sb h1, sc (k_evaluate_isNull ((f x).fst)), sb h2, sg h3, sb h4] (by kernel_rfl)
      · exact wkl [sb h0, se (elAt_X hx), sc hfx, sb h1, sc (k_evaluate_isNull ((f x).fst)), sb h2, si hw] [1, 4, 5, 6, 17, 18, 19] 6 (by kernel_rfl) (ih (i + 1) (its) (by omega) (by first | assumption | (simp; done) | (simp; omega) | omega | (simp at *; omega)))
    · exact wkr [sb h0, se (elAt_X hx), sc hfx, sb h1] (by kernel_rfl)
def aggC (f : X → V × Int) (q : Qy) (w : List Fr) (tb : List Tb) (e : X) (n : Nat) (its : List V) : Int × (List V) :=
  aggI f q w tb e n its q.items 0 (its)
theorem k_evaluate_aggregate_c1 (f : X → V × Int) (q : Qy) (w : List Fr) (tb : List Tb) (e : X) (n : Nat) (its : List V) (rw : Rw) (hl : q.items.length ≤ 1000) (hi0 : its.length ≤ 2000000) (hwn : IntKind.i64.wrap (((n : Nat) : Int) + 1) = ((n + 1 : Nat) : Int)) (hf : ∀ x ∈ q.items, Pure S.evaluate_Value [x.av, fsl w, tsl tb] (.tup [(f x).1.av, iv (f x).2])) : ACallsTo E0 S.evaluate_aggregate_c1 [.agg (Rw.cells rw), fsl w, .p 0 0, .p 1 0, .p 2 0, .p 3 0, .p 4 0] (AH q tb e n its) (iv (aggC f q w tb e n its).1) (AH q tb e (n + 1) (aggC f q w tb e n its).2) := by
  unfold aggC
  exact wkc At.evaluate_aggregate_c1 [si hwn] [1, 4, 5, 6, 17, 18, 19] 6 (by kernel_rfl) (by have ih := k_aggI_loop f q w tb e n its hl hi0 hf q.items.length 0 (its) (by simp) (by simp); exact ih)
end Go.AM

namespace Go.AM
set_option maxRecDepth 100000
set_option maxHeartbeats 1000000
set_option linter.unusedSimpArgs false
set_option linter.unusedVariables false
noncomputable def L_selA (tr : Rw → Bool × Int) (g : Rw → List V → Int × List V) (q : Qy) (frs : List Fr) (tb : List Tb) (e : X) (t : Tb) (n0 : Nat) (its0 : List V) (i : Nat) (n : Nat) (its : List V) : Cfg := loopAt B.evaluate_selected 0 [(1, fsl frs), (2, tsl tb), (3, .fn S.evaluate_aggregate_c1 [.p 0 0, .p 1 0, .p 2 0, .p 3 0, .p 4 0]), (4, .p 6 0), (9, .p 7 0), (26, .sl (t.rows.map Rw.cells)), (27, iv ((t.rows.map Rw.cells).length : Nat)), (28, iv (i : Nat))] (AH q tb e n its ++ [.box q.cells, .box t.cells])
def selA (tr : Rw → Bool × Int) (g : Rw → List V → Int × List V) (q : Qy) (frs : List Fr) (tb : List Tb) (e : X) (t : Tb) (n0 : Nat) (its0 : List V) : List (Rw) → Nat → (Nat) → (List V) → Int × Nat × (List V)
  | [], i, n, its =>
    (0, n, its)
  | x :: r, i, n, its =>
    bif (tr x).snd == 0 then
      bif (tr x).fst then
        bif (g x its).fst != 0 then
          ((g x its).fst, n + 1, (g x its).snd)
        else
          selA tr g q frs tb e t n0 its0 r (i + 1) (n + 1) ((g x its).snd)
      else
        bif (tr x).snd != 0 then
          ((tr x).snd, n, its)
        else
          selA tr g q frs tb e t n0 its0 r (i + 1) (n) (its)
    else
      bif (tr x).snd != 0 then
        ((tr x).snd, n, its)
      else
        selA tr g q frs tb e t n0 its0 r (i + 1) (n) (its)
theorem k_selA_loop (tr : Rw → Bool × Int) (g : Rw → List V → Int × List V) (q : Qy) (frs : List Fr) (tb : List Tb) (e : X) (t : Tb) (n0 : Nat) (its0 : List V) (hfr : Short frs) (hrows : t.rows.length ≤ 1000) (hn0 : n0 ≤ 1000) (hi0 : its0.length ≤ 1000) (hgl : ∀ (r : Rw) (its : List V), (g r its).2.length ≤ its.length + 1000) (hT : ∀ r ∈ t.rows, Pure S.evaluate_True [xsl q.wh, fsl (eInside frs t r.vals), tsl tb] (.tup [bv (tr r).1, iv (tr r).2])) (hC : ∀ r ∈ t.rows, ∀ (n : Nat) (its : List V), n ≤ 1000000 → its.length ≤ 2000000 → ACallsTo E0 S.evaluate_aggregate_c1 [.agg (Rw.cells r), fsl (eInside frs t r.vals), .p 0 0, .p 1 0, .p 2 0, .p 3 0, .p 4 0] (AH q tb e n its) (iv (g r its).1) (AH q tb e (n + 1) (g r its).2)) : ∀ (kk i : Nat) (n : Nat) (its : List V), i + kk = (t.rows).length → n ≤ n0 + i → its.length ≤ its0.length + 1000 * i → Good E0 B.evaluate_selected (AH q tb e n0 its0) (L_selA tr g q frs tb e t n0 its0 i n its) (Shut 6 fun r h => r = (iv (selA tr g q frs tb e t n0 its0 ((t.rows).drop i) i n its).1) ∧ h = (AH q tb e (selA tr g q frs tb e t n0 its0 ((t.rows).drop i) i n its).2.1 (selA tr g q frs tb e t n0 its0 ((t.rows).drop i) i n its).2.2)) := by
  intro kk
  induction kk with
  | zero =>
    intro i n its hi hn hi2
    have h0 : decide (((i : Nat) : Int) < (((t.rows.map Rw.cells).length : Nat) : Int)) = false := by simp; omega
    have e0 : (t.rows).drop i = [] := List.drop_of_length_le (by omega)
    rw [e0]
    simp only [selA]
    refine good_unroll ?_
    exact wkr [sb h0] (by kernel_rfl)
  | succ kk ih =>
    intro i n its hi hn hi2
    obtain ⟨x, hx⟩ := ex_at (l := t.rows) (i := i) (by omega)
    have h0 : decide (((i : Nat) : Int) < (((t.rows.map Rw.cells).length : Nat) : Int)) = true := by simp; omega
    have hw := wrap_nat i (by first | omega | (simp only [Short, Few] at *; omega))
    have hTx := hT x (List.mem_of_getElem? hx); have hCx := hC x (List.mem_of_getElem? hx) n its (by omega) (by omega)
    rw [drop_at hx]
    simp only [selA]
    refine good_unroll ?_
    cases h1 : (tr x).snd == 0
    · cases h2 : (tr x).snd != 0
      · exact wkl [sb h0, se (elAt_map (Rw.cells) hx rfl), sc (k_evaluate_inside (frs) (t) (x.vals) (by first | assumption | omega | (simp; done) | (simp; omega))), sc hTx, sb h1, sb h2, si hw] [1, 2, 3, 4, 9, 26, 27, 28] 8 (by kernel_rfl) (ih (i + 1) (n) (its) (by omega) (by first | omega | (have := hgl x its; omega)) (by first | omega | (have := hgl x its; omega)))
      · exact wkr [sb h0, se (elAt_map (Rw.cells) hx rfl), sc (k_evaluate_inside (frs) (t) (x.vals) (by first | assumption | omega | (simp; done) | (simp; omega))), sc hTx, sb h1, sb h2] (by kernel_rfl)
    · cases h3 : (tr x).fst
      · cases h4 : (tr x).snd != 0
        · exact wkl [sb h0, se (elAt_map (Rw.cells) hx rfl), sc (k_evaluate_inside (frs) (t) (x.vals) (by first | assumption | omega | (simp; done) | (simp; omega))), sc hTx, sg h1, sb h3, sb h4, si hw] [1, 2, 3, 4, 9, 26, 27, 28] 8 (by kernel_rfl) (ih (i + 1) (n) (its) (by omega) (by first | omega | (have := hgl x its; omega)) (by first | omega | (have := hgl x its; omega)))
        · exact wkr [sb h0, se (elAt_map (Rw.cells) hx rfl), sc (k_evaluate_inside (frs) (t) (x.vals) (by first | assumption | omega | (simp; done) | (simp; omega))), sc hTx, sg h1, sb h3, sb h4] (by kernel_rfl)
      · cases h5 : (g x its).fst != 0
        · exact wkl [sb h0, se (elAt_map (Rw.cells) hx rfl), sc (k_evaluate_inside (frs) (t) (x.vals) (by first | assumption | omega | (simp; done) | (simp; omega))), sc hTx, sg h1, sb h3, sl [0, 1, 2, 3, 4, 5] hCx, sb h5, si hw] [1, 2, 3, 4, 9, 26, 27, 28] 8 (by kernel_rfl) (ih (i + 1) (n + 1) ((g x its).snd) (by omega) (by first | omega | (have := hgl x its; omega)) (by first | omega | (have := hgl x its; omega)))
        · exact wkr [sb h0, se (elAt_map (Rw.cells) hx rfl), sc (k_evaluate_inside (frs) (t) (x.vals) (by first | assumption | omega | (simp; done) | (simp; omega))), sc hTx, sg h1, sb h3, sl [0, 1, 2, 3, 4, 5] hCx, sb h5] (by kernel_rfl)
end Go.AM

namespace Go.AM
set_option maxRecDepth 100000
set_option maxHeartbeats 1000000
set_option linter.unusedSimpArgs false
set_option linter.unusedVariables false
def eSel1 (tr : Rw → Bool × Int) (g : Rw → List V → Int × List V) (q : Qy) (frs : List Fr) (tb : List Tb) (e : X) (t : Tb) (n0 : Nat) (its0 : List V) : Int × Nat × (List V) :=
  selA tr g q frs tb e t n0 its0 t.rows (0) (n0) (its0)
theorem k_evaluate_selected__1 (tr : Rw → Bool × Int) (g : Rw → List V → Int × List V) (q : Qy) (frs : List Fr) (tb : List Tb) (e : X) (t : Tb) (n0 : Nat) (its0 : List V) (hfind : Pure S.evaluate_find [tsl tb, sv q.frm] (.tup [t.av, bv true])) (hfr : Short frs) (hrows : t.rows.length ≤ 1000) (hn0 : n0 ≤ 1000) (hi0 : its0.length ≤ 1000) (hgl : ∀ (r : Rw) (its : List V), (g r its).2.length ≤ its.length + 1000) (hT : ∀ r ∈ t.rows, Pure S.evaluate_True [xsl q.wh, fsl (eInside frs t r.vals), tsl tb] (.tup [bv (tr r).1, iv (tr r).2])) (hC : ∀ r ∈ t.rows, ∀ (n : Nat) (its : List V), n ≤ 1000000 → its.length ≤ 2000000 → ACallsTo E0 S.evaluate_aggregate_c1 [.agg (Rw.cells r), fsl (eInside frs t r.vals), .p 0 0, .p 1 0, .p 2 0, .p 3 0, .p 4 0] (AH q tb e n its) (iv (g r its).1) (AH q tb e (n + 1) (g r its).2)) : ACallsTo E0 S.evaluate_selected [q.av, fsl frs, tsl tb, .fn S.evaluate_aggregate_c1 [.p 0 0, .p 1 0, .p 2 0, .p 3 0, .p 4 0]] (AH q tb e n0 its0) (iv (eSel1 tr g q frs tb e t n0 its0).1) (AH q tb e (eSel1 tr g q frs tb e t n0 its0).2.1 (eSel1 tr g q frs tb e t n0 its0).2.2) := by
  unfold eSel1
  exact wkc At.evaluate_selected [sc hfind, sb (rfl : false = false)] [1, 2, 3, 4, 9, 26, 27, 28] 8 (by kernel_rfl) (k_selA_loop tr g q frs tb e t n0 its0 hfr hrows hn0 hi0 hgl hT hC t.rows.length 0 n0 its0 (by simp) (by simp) (by simp))
def eSel0 (q : Qy) (frs : List Fr) (tb : List Tb) (e : X) (n0 : Nat) (its0 : List V) : Int × Nat × (List V) :=
  (3, n0, its0)
theorem k_evaluate_selected__0 (q : Qy) (frs : List Fr) (tb : List Tb) (e : X) (n0 : Nat) (its0 : List V) (hfind : Pure S.evaluate_find [tsl tb, sv q.frm] (.tup [Tb.zero.av, bv false])) : ACallsTo E0 S.evaluate_selected [q.av, fsl frs, tsl tb, .fn S.evaluate_aggregate_c1 [.p 0 0, .p 1 0, .p 2 0, .p 3 0, .p 4 0]] (AH q tb e n0 its0) (iv (eSel0 q frs tb e n0 its0).1) (AH q tb e (eSel0 q frs tb e n0 its0).2.1 (eSel0 q frs tb e n0 its0).2.2) := by
  exact wk At.evaluate_selected [sc hfind, sb (rfl : true = true)] (by kernel_rfl)
noncomputable def aggCfg0 (e : X) (q : Qy) (frs : List Fr) (tb : List Tb) : Cfg := (upto (mk E0) (List.range 100) 6 3000 ⟨B.evaluate_aggregate.ntmps, [.code (B.evaluate_aggregate.body.getD .skip)], argTS 0 [e.av, fsl frs, tsl tb], []⟩ [.el q.cells]).2
noncomputable def aggCfg (e : X) (q : Qy) (frs : List Fr) (tb : List Tb) : Cfg := cut (List.range 100) 7 ⟨(aggCfg0 e q frs tb).n, (aggCfg0 e q frs tb).todo, (aggCfg0 e q frs tb).ts, ((aggCfg0 e q frs tb).h ++ [Blk.row Ty.Value [] false]).set 5 (.box (([AV.nl] : List AV).set 0 (.own (aggCfg0 e q frs tb).h.length 0)))⟩
theorem agg_to {e : X} {q : Qy} {frs : List Fr} {tb : List Tb} {R : AV → Heap → Prop} (hq : e.sub[0]? = some q) (hg : Good E0 B.evaluate_aggregate [] (aggCfg e q frs tb) (Shut 0 R)) : ACalls E0 S.evaluate_aggregate [e.av, fsl frs, tsl tb] [] R :=
  wkc (c' := aggCfg0 e q frs tb) At.evaluate_aggregate [se (elAt_Q hq)] (List.range 100) 6 (by kernel_rfl)
    (good_ownBoxCut (cs := [AV.nl]) 5 0 Ty.Value (List.range 100) 7 (by kernel_rfl) (by kernel_rfl) (by kernel_rfl) rfl hg)
theorem head0 {l : List V} (h : (((l.length : Nat) : Int) == 0) = false) : l[0]? = some (l.headD V.null) := by
  cases l with
  | nil => simp at h
  | cons x r => rfl
theorem len1 {l : List V} (h : (((l.length : Nat) : Int) == 0) = false) : decide ((((l.map V.cells).length : Nat) : Int) < 1) = false := by
  cases l with
  | nil => simp at h
  | cons x r => simp; omega
def eAgg (sel : Int × Nat × List V) (e : X) : V × Int :=
  bif sel.1 != 0 then (V.null, sel.1)
  else bif e.kind == 8 then (⟨2, if decide (0 < ((sel.2.1 : Nat) : Int)) then 1 else 0, ⟨#[]⟩⟩, 0)
  else bif e.kind == 9 then (⟨1, (sel.2.1 : Nat), ⟨#[]⟩⟩, 0)
  else bif ((sel.2.2.length : Nat) : Int) == 0 then (V.null, 0)
  else bif e.kind == 10 then eSum sel.2.2
  else bif e.kind == 11 then (minV sel.2.2, 0)
  else (maxV sel.2.2, 0)
theorem c_agg (sel : Int × Nat × List V) (e : X) (q : Qy) (frs : List Fr) (tb : List Tb) (hq : e.sub[0]? = some q) (hlen : Short sel.2.2) (hsel : ACallsTo E0 S.evaluate_selected [q.av, fsl frs, tsl tb, .fn S.evaluate_aggregate_c1 [.p 0 0, .p 1 0, .p 2 0, .p 3 0, .p 4 0]] (AH q tb e 0 []) (iv sel.1) (AH q tb e sel.2.1 sel.2.2)) : ACallsTo E0 S.evaluate_aggregate [e.av, fsl frs, tsl tb] [] (.tup [(eAgg sel e).1.av, iv (eAgg sel e).2]) [] := by
  refine agg_to hq ?_
  unfold eAgg
  cases h1 : sel.fst != 0
  · cases h2 : e.kind == 8
    · cases h3 : e.kind == 9
      · cases h4 : (↑sel.snd.snd.length : Int) == 0
        · cases h5 : e.kind == 10
          · cases h6 : e.kind == 11
            · exact wkr [sl [4, 3, 1, 0, 5, 6] hsel, sb h1, sb h2, sb h3, sqx (sel.snd.snd.length = (List.map V.cells sel.snd.snd).length), sb h4, sb h5, sb h6, skx (sel.snd.snd.length = (List.map V.cells sel.snd.snd).length ∧ True ∧ True) [] (k_slices_MaxFunc_Value (sel.snd.snd) (by first | assumption | exact head0 (by assumption) | exact len1 (by assumption)) (by first | assumption | exact head0 (by assumption) | exact len1 (by assumption)) (by first | assumption | exact head0 (by assumption) | exact len1 (by assumption)))] (by kernel_rfl)
            · exact wkr [sl [4, 3, 1, 0, 5, 6] hsel, sb h1, sb h2, sb h3, sqx (sel.snd.snd.length = (List.map V.cells sel.snd.snd).length), sb h4, sb h5, sb h6, skx (sel.snd.snd.length = (List.map V.cells sel.snd.snd).length ∧ True ∧ True) [] (k_slices_MinFunc_Value (sel.snd.snd) (by first | assumption | exact head0 (by assumption) | exact len1 (by assumption)) (by first | assumption | exact head0 (by assumption) | exact len1 (by assumption)) (by first | assumption | exact head0 (by assumption) | exact len1 (by assumption)))] (by kernel_rfl)
          · exact wkr [sl [4, 3, 1, 0, 5, 6] hsel, sb h1, sb h2, sb h3, sqx (sel.snd.snd.length = (List.map V.cells sel.snd.snd).length), sb h4, sb h5, skx (sel.snd.snd.length = (List.map V.cells sel.snd.snd).length ∧ True) [] (k_evaluate_sum (sel.snd.snd) (by first | assumption | exact head0 (by assumption) | exact len1 (by assumption)))] (by kernel_rfl)
        · exact wkr [sl [4, 3, 1, 0, 5, 6] hsel, sb h1, sb h2, sb h3, sqx (sel.snd.snd.length = (List.map V.cells sel.snd.snd).length), sb h4] (by kernel_rfl)
      · exact wkr [sl [4, 3, 1, 0, 5, 6] hsel, sb h1, sb h2, sb h3, sc (k_value_Number ((↑sel.snd.fst : Int)))] (by kernel_rfl)
    · exact wkr [sl [4, 3, 1, 0, 5, 6] hsel, sb h1, sb h2, sc (k_value_Truth (decide (0 < (↑sel.snd.fst : Int))))] (by kernel_rfl)
  · exact wkr [sl [4, 3, 1, 0, 5, 6] hsel, sb h1] (by kernel_rfl)
end Go.AM

namespace Go.AM
set_option maxRecDepth 100000
set_option maxHeartbeats 1000000
set_option linter.unusedSimpArgs false
set_option linter.unusedVariables false
theorem rresI_eq (frs : List Fr) (q n : Str) (k : Nat) (f : Fr) (els : Int × Int × Bool) : ∀ (c : List Col) (j : Nat), rresI frs q n k f els c j = bif decide (0 ≤ idxF (fun c => colC c n) c j) then (pm1 (k + 1), idxF (fun c => colC c n) c j, true) else els
  | [], j => by simp [rresI, idxF]
  | x :: r, j => by
    rcases Bool.eq_false_or_eq_true (x.name.toList == n.toList) with h | h
    · simp [rresI, idxF, colC, h]
    · have ih := rresI_eq frs q n k f els r (j + 1)
      simp only [colC] at ih
      simp only [rresI, idxF, colC, h, cond_false]
      exact ih
theorem sres_eq (frs : List Fr) (q n : Str) : ∀ k, sres frs q n k = rres frs q n k
  | 0 => rfl
  | k + 1 => by simp only [sres, rres, rresI_eq, sres_eq frs q n k]
theorem sResolve_eq (frs : List Fr) (q n : Str) : sResolve frs q n = rResolve frs q n := sres_eq frs q n _
theorem el_sFr (frs : List Fr) (q n : Str) (h : (!(sResolve frs q n).2.2) = false) : ElAt (frs.map Fr.cells) (sResolve frs q n).1 (rFr frs q n).cells 4 := by
  rw [sResolve_eq] at h ⊢; exact el_rFr frs q n (by simpa using h)
theorem sRes_nn {frs : List Fr} {q n : Str} (h : (!(sResolve frs q n).2.2) = false) : decide ((sResolve frs q n).2.1 < 0) = false := by
  rw [sResolve_eq] at h ⊢
  obtain ⟨i, j, e, _⟩ := rResolve_ok (by simpa using h : (rResolve frs q n).2.2 = true)
  rw [e]; simp
theorem at_lt_of {l : List V} {k : Int} (h : decide ((((l.map V.cells).length : Nat) : Int) ≤ k) = false) : k < l.length := by simp at h; omega
noncomputable def L_evL (f : X → V × Int) (op : List V → V × Int) (e : X) (frs : List Fr) (tb : List Tb) (i : Nat) (out : List V) : Cfg := loopAt B.evaluate_Value 0 [(1, fsl frs), (2, tsl tb), (3, .p 0 0), (6, .p 1 0), (11, .own 2 out.length), (73, xsl e.args), (74, iv ((cellsX e.args).length : Nat)), (75, iv (i : Nat))] [.box e.cells, .box [iv 0, iv 0, sv ⟨#[]⟩], .row Ty.Value (out.map V.cells) false]
def evL (f : X → V × Int) (op : List V → V × Int) (e : X) (frs : List Fr) (tb : List Tb) : List (X) → Nat → (List V) → V × Int
  | [], i, out =>
    ((op out).fst, (op out).snd)
  | x :: r, i, out =>
    bif (f x).snd != 0 then
      (V.mk 0 0 (ByteArray.mk #[]), (f x).snd)
    else
      evL f op e frs tb r (i + 1) (out ++ [(f x).fst])
theorem k_evL_loop (f : X → V × Int) (op : List V → V × Int) (e : X) (frs : List Fr) (tb : List Tb) (hl : Few e.args) (hf : ∀ x ∈ e.args, Pure S.evaluate_Value [x.av, fsl frs, tsl tb] (.tup [(f x).1.av, iv (f x).2])) (hfg : ∀ x ∈ e.args, (f x).1.Good) (hop : ∀ l : List V, l.length = e.args.length → (∀ v ∈ l, v.Good) → Pure S.evaluate_operation [e.av, vsl l] (.tup [(op l).1.av, iv (op l).2])) : ∀ (kk i : Nat) (out : List V), i + kk = (e.args).length → (out.length = i) → (∀ v ∈ out, v.Good) → Good E0 B.evaluate_Value [] (L_evL f op e frs tb i out) (Shut 0 fun r h => r = (.tup [(evL f op e frs tb ((e.args).drop i) i out).1.av, iv (evL f op e frs tb ((e.args).drop i) i out).2]) ∧ h = []) := by
  intro kk
  induction kk with
  | zero =>
    intro i out hi ho hg
    have h0 : decide (((i : Nat) : Int) < (((cellsX e.args).length : Nat) : Int)) = false := by simp; omega
    have e0 : (e.args).drop i = [] := List.drop_of_length_le (by omega)
    rw [e0]
    simp only [evL]
    refine good_unroll ?_
    exact wkr [sb h0, skx ((True ∧ True ∧ True ∧ True ∧ True ∧ True ∧ True ∧ True ∧ True ∧ True ∧ True) ∧ out.length = (List.map V.cells out).length ∧ True) [] (hop (out) (by first | assumption | omega) (by first | assumption | omega))] (by kernel_rfl)
  | succ kk ih =>
    intro i out hi ho hg
    obtain ⟨x, hx⟩ := ex_at (l := e.args) (i := i) (by omega)
    have h0 : decide (((i : Nat) : Int) < (((cellsX e.args).length : Nat) : Int)) = true := by simp; omega
    have hw := wrap_nat i (by first | omega | (simp only [Short, Few] at *; omega))
    have hfx := hf x (List.mem_of_getElem? hx); have hgx := hfg x (List.mem_of_getElem? hx); have hlen : out.length ≤ 1000 := by have := at_lt hx; simp only [Few] at hl; omega
    rw [drop_at hx]
    simp only [evL]
    refine good_unroll ?_
    cases h1 : (f x).snd != 0
    · exact wkl (c' := (Cfg.mk (L_evL f op e frs tb (i + 1) (out ++ [(f x).fst])).n (L_evL f op e frs tb (i + 1) (out ++ [(f x).fst])).todo [(1, AV.sl (List.map Fr.cells frs)), (2, AV.sl (List.map Tb.cells tb)), (3, AV.p 0 0), (6, AV.p 1 0), (11, AV.own 2 (List.map V.cells out ++ [[iv (f x).fst.kind, iv (f x).fst.int, sv (f x).fst.text]]).length), (73, AV.sl (cellsX e.args)), (74, iv (↑(cellsX e.args).length : Int)), (75, iv (↑(i + 1) : Int))] [Blk.box [iv e.kind, iv e.op, bv e.not, iv e.val.kind, iv e.val.int, sv e.val.text, sv e.table, sv e.name, AV.sl (cellsX e.args), AV.sl (cellsQ e.sub)], Blk.box [iv 0, iv 0, sv (ByteArray.mk #[])], Blk.row Ty.Value (List.map V.cells out ++ [[iv (f x).fst.kind, iv (f x).fst.int, sv (f x).fst.text]]) false])) [sb h0, se (elAt_X hx), sc hfx, sb h1, sqx (AllLen [[iv (f x).fst.kind, iv (f x).fst.int, sv (f x).fst.text]] 3 ∧ out.length = (List.map V.cells out).length ∧ (((List.map V.cells out).length + [[iv (f x).fst.kind, iv (f x).fst.int, sv (f x).fst.text]].length) * 32).le 140737488355328), si hw] [1, 2, 3, 6, 11, 73, 74, 75] 3 (by kernel_rfl) (good_same (show ([(1, AV.sl (List.map Fr.cells frs)), (2, AV.sl (List.map Tb.cells tb)), (3, AV.p 0 0), (6, AV.p 1 0), (11, AV.own 2 (List.map V.cells out ++ [[iv (f x).fst.kind, iv (f x).fst.int, sv (f x).fst.text]]).length), (73, AV.sl (cellsX e.args)), (74, iv (↑(cellsX e.args).length : Int)), (75, iv (↑(i + 1) : Int))] : TS) = [(1, AV.sl (List.map Fr.cells frs)), (2, AV.sl (List.map Tb.cells tb)), (3, AV.p 0 0), (6, AV.p 1 0), (11, AV.own 2 (out ++ [(f x).fst]).length), (73, AV.sl (cellsX e.args)), (74, iv (↑(cellsX e.args).length : Int)), (75, iv (↑(i + 1) : Int))] by first | rfl | (simp; done) | (simp [X.cells, Qy.cells, V.cells, Col.cells, Rw.cells, Tb.cells, Fr.cells, Sch.cells, Tp.cells, Pl.cells, xCol, xLit, xBin, xNeg]; done)) (show ([Blk.box [iv e.kind, iv e.op, bv e.not, iv e.val.kind, iv e.val.int, sv e.val.text, sv e.table, sv e.name, AV.sl (cellsX e.args), AV.sl (cellsQ e.sub)], Blk.box [iv 0, iv 0, sv (ByteArray.mk #[])], Blk.row Ty.Value (List.map V.cells out ++ [[iv (f x).fst.kind, iv (f x).fst.int, sv (f x).fst.text]]) false] : Heap) = [Blk.box [iv e.kind, iv e.op, bv e.not, iv e.val.kind, iv e.val.int, sv e.val.text, sv e.table, sv e.name, AV.sl (cellsX e.args), AV.sl (cellsQ e.sub)], Blk.box [iv 0, iv 0, sv (ByteArray.mk #[])], Blk.row Ty.Value (List.map V.cells (out ++ [(f x).fst])) false] by first | rfl | (simp; done) | (simp [X.cells, Qy.cells, V.cells, Col.cells, Rw.cells, Tb.cells, Fr.cells, Sch.cells, Tp.cells, Pl.cells, xCol, xLit, xBin, xNeg]; done)) (ih (i + 1) (out ++ [(f x).fst]) (by omega) (by first | assumption | (simp; omega) | exact fun v hv => (List.mem_append.1 hv).elim (hg v) fun h => by simp only [List.mem_singleton] at h; exact h ▸ hgx) (by first | assumption | (simp; omega) | exact fun v hv => (List.mem_append.1 hv).elim (hg v) fun h => by simp only [List.mem_singleton] at h; exact h ▸ hgx)))
    · exact wkr [sb h0, se (elAt_X hx), sc hfx, sb h1] (by kernel_rfl)
structure OpKind (e : X) : Prop where
  fok : formed e = true
  k1 : e.kind ≠ 1
  k2 : e.kind ≠ 2
  k8 : ¬(8 ≤ e.kind ∧ e.kind ≤ 12)
def valF (f : X → V × Int) (op : List V → V × Int) (agg : V × Int) (e : X) (frs : List Fr) (tb : List Tb) : V × Int :=
  bif !formed e then
    (V.mk 0 0 (ByteArray.mk #[]), 17)
  else
    bif e.kind == 1 then
      (e.val, 0)
    else
      bif e.kind == 2 then
        bif !(sResolve frs e.table e.name).snd.snd then
          (V.mk 0 0 (ByteArray.mk #[]), 3)
        else
          bif decide ((↑(List.map V.cells (rFr frs e.table e.name).vals).length : Int) ≤ (sResolve frs e.table e.name).snd.fst) then
            (V.mk 0 0 (ByteArray.mk #[]), 17)
          else
            (valAt (rFr frs e.table e.name).vals (sResolve frs e.table e.name).snd.fst, 0)
      else
        bif e.kind == 8 then
          (agg.fst, agg.snd)
        else
          bif e.kind == 9 then
            (agg.fst, agg.snd)
          else
            bif e.kind == 10 then
              (agg.fst, agg.snd)
            else
              bif e.kind == 11 then
                (agg.fst, agg.snd)
              else
                bif e.kind == 12 then
                  (agg.fst, agg.snd)
                else
                  evL f op e frs tb e.args 0 ([])
theorem k_evaluate_Value__F (f : X → V × Int) (op : List V → V × Int) (agg : V × Int) (e : X) (frs : List Fr) (tb : List Tb) (n : Nat) (hfo : FsOk n frs) (hl : Few e.args) (hf : ∀ x ∈ e.args, Pure S.evaluate_Value [x.av, fsl frs, tsl tb] (.tup [(f x).1.av, iv (f x).2])) (hfg : ∀ x ∈ e.args, (f x).1.Good) (hop : OpKind e → ∀ l : List V, l.length = e.args.length → (∀ v ∈ l, v.Good) → Pure S.evaluate_operation [e.av, vsl l] (.tup [(op l).1.av, iv (op l).2])) (hagg : formed e = true → 8 ≤ e.kind → e.kind ≤ 12 → Pure S.evaluate_aggregate [e.av, fsl frs, tsl tb] (.tup [agg.1.av, iv agg.2])) : ACallsTo E0 S.evaluate_Value [e.av, fsl frs, tsl tb] [] (.tup [(valF f op agg e frs tb).1.av, iv (valF f op agg e frs tb).2]) [] := by
  unfold valF
  cases h1 : !formed e
  · cases h2 : e.kind == 1
    · cases h3 : e.kind == 2
      · cases h4 : e.kind == 8
        · cases h5 : e.kind == 9
          · cases h6 : e.kind == 10
            · cases h7 : e.kind == 11
              · cases h8 : e.kind == 12
                · exact wkc At.evaluate_Value (c' := (Cfg.mk (L_evL f op e frs tb 0 []).n (L_evL f op e frs tb 0 []).todo [(1, AV.sl (List.map Fr.cells frs)), (2, AV.sl (List.map Tb.cells tb)), (3, AV.p 0 0), (6, AV.p 1 0), (11, AV.nl), (73, AV.sl (cellsX e.args)), (74, iv (↑(cellsX e.args).length : Int)), (75, iv 0)] [Blk.box [iv e.kind, iv e.op, bv e.not, iv e.val.kind, iv e.val.int, sv e.val.text, sv e.table, sv e.name, AV.sl (cellsX e.args), AV.sl (cellsQ e.sub)], Blk.box [iv 0, iv 0, sv (ByteArray.mk #[])]])) [sc (k_scope_Formed (e)), sb h1, sb h2, sb h3, sb h4, sb h5, sb h6, sb h7, sb h8] [1, 2, 3, 6, 11, 73, 74, 75] 2 (by kernel_rfl) (good_ownCut (c' := L_evL f op e frs tb 0 []) 11 Ty.Value [1, 2, 3, 6, 11, 73, 74, 75] 3 (by kernel_rfl) (by kernel_rfl) (by kernel_rfl) (k_evL_loop f op e frs tb hl hf hfg (hop ⟨by simpa using h1, by simpa using h2, by simpa using h3, by simp at *; omega⟩) e.args.length 0 ([]) (by simp) (by simp) (by simp)))
                · exact wk At.evaluate_Value [sc (k_scope_Formed (e)), sb h1, sb h2, sb h3, sb h4, sb h5, sb h6, sb h7, sb h8, sc (hagg (by first | assumption | exact hfo.short | exact hfo.cols | exact hfo.wrap | exact sRes_nn (by assumption) | exact at_lt_of (by assumption) | (simp_all; done) | (simp at *; omega)) (by first | assumption | exact hfo.short | exact hfo.cols | exact hfo.wrap | exact sRes_nn (by assumption) | exact at_lt_of (by assumption) | (simp_all; done) | (simp at *; omega)) (by first | assumption | exact hfo.short | exact hfo.cols | exact hfo.wrap | exact sRes_nn (by assumption) | exact at_lt_of (by assumption) | (simp_all; done) | (simp at *; omega)))] (by kernel_rfl)
              · exact wk At.evaluate_Value [sc (k_scope_Formed (e)), sb h1, sb h2, sb h3, sb h4, sb h5, sb h6, sb h7, sc (hagg (by first | assumption | exact hfo.short | exact hfo.cols | exact hfo.wrap | exact sRes_nn (by assumption) | exact at_lt_of (by assumption) | (simp_all; done) | (simp at *; omega)) (by first | assumption | exact hfo.short | exact hfo.cols | exact hfo.wrap | exact sRes_nn (by assumption) | exact at_lt_of (by assumption) | (simp_all; done) | (simp at *; omega)) (by first | assumption | exact hfo.short | exact hfo.cols | exact hfo.wrap | exact sRes_nn (by assumption) | exact at_lt_of (by assumption) | (simp_all; done) | (simp at *; omega)))] (by kernel_rfl)
            · exact wk At.evaluate_Value [sc (k_scope_Formed (e)), sb h1, sb h2, sb h3, sb h4, sb h5, sb h6, sc (hagg (by first | assumption | exact hfo.short | exact hfo.cols | exact hfo.wrap | exact sRes_nn (by assumption) | exact at_lt_of (by assumption) | (simp_all; done) | (simp at *; omega)) (by first | assumption | exact hfo.short | exact hfo.cols | exact hfo.wrap | exact sRes_nn (by assumption) | exact at_lt_of (by assumption) | (simp_all; done) | (simp at *; omega)) (by first | assumption | exact hfo.short | exact hfo.cols | exact hfo.wrap | exact sRes_nn (by assumption) | exact at_lt_of (by assumption) | (simp_all; done) | (simp at *; omega)))] (by kernel_rfl)
          · exact wk At.evaluate_Value [sc (k_scope_Formed (e)), sb h1, sb h2, sb h3, sb h4, sb h5, sc (hagg (by first | assumption | exact hfo.short | exact hfo.cols | exact hfo.wrap | exact sRes_nn (by assumption) | exact at_lt_of (by assumption) | (simp_all; done) | (simp at *; omega)) (by first | assumption | exact hfo.short | exact hfo.cols | exact hfo.wrap | exact sRes_nn (by assumption) | exact at_lt_of (by assumption) | (simp_all; done) | (simp at *; omega)) (by first | assumption | exact hfo.short | exact hfo.cols | exact hfo.wrap | exact sRes_nn (by assumption) | exact at_lt_of (by assumption) | (simp_all; done) | (simp at *; omega)))] (by kernel_rfl)
        · exact wk At.evaluate_Value [sc (k_scope_Formed (e)), sb h1, sb h2, sb h3, sb h4, sc (hagg (by first | assumption | exact hfo.short | exact hfo.cols | exact hfo.wrap | exact sRes_nn (by assumption) | exact at_lt_of (by assumption) | (simp_all; done) | (simp at *; omega)) (by first | assumption | exact hfo.short | exact hfo.cols | exact hfo.wrap | exact sRes_nn (by assumption) | exact at_lt_of (by assumption) | (simp_all; done) | (simp at *; omega)) (by first | assumption | exact hfo.short | exact hfo.cols | exact hfo.wrap | exact sRes_nn (by assumption) | exact at_lt_of (by assumption) | (simp_all; done) | (simp at *; omega)))] (by kernel_rfl)
      · cases h9 : !(sResolve frs e.table e.name).snd.snd
        · cases h10 : decide ((↑(List.map V.cells (rFr frs e.table e.name).vals).length : Int) ≤ (sResolve frs e.table e.name).snd.fst)
          · exact wk At.evaluate_Value [sc (k_scope_Formed (e)), sb h1, sb h2, sb h3, sc (k_scope_Resolve (frs) (e.table) (e.name) (by first | assumption | exact hfo.short | exact hfo.cols | exact hfo.wrap | exact sRes_nn (by assumption) | exact at_lt_of (by assumption) | (simp_all; done) | (simp at *; omega)) (by first | assumption | exact hfo.short | exact hfo.cols | exact hfo.wrap | exact sRes_nn (by assumption) | exact at_lt_of (by assumption) | (simp_all; done) | (simp at *; omega)) (by first | assumption | exact hfo.short | exact hfo.cols | exact hfo.wrap | exact sRes_nn (by assumption) | exact at_lt_of (by assumption) | (simp_all; done) | (simp at *; omega))), sb h9, se (el_sFr (frs) (e.table) (e.name) (by first | assumption | exact hfo.short | exact hfo.cols | exact hfo.wrap | exact sRes_nn (by assumption) | exact at_lt_of (by assumption) | (simp_all; done) | (simp at *; omega))), sb h10, se (el_sFr (frs) (e.table) (e.name) (by first | assumption | exact hfo.short | exact hfo.cols | exact hfo.wrap | exact sRes_nn (by assumption) | exact at_lt_of (by assumption) | (simp_all; done) | (simp at *; omega))), se (el_val ((rFr frs e.table e.name).vals) ((sResolve frs e.table e.name).snd.fst) (by first | assumption | exact hfo.short | exact hfo.cols | exact hfo.wrap | exact sRes_nn (by assumption) | exact at_lt_of (by assumption) | (simp_all; done) | (simp at *; omega)) (by first | assumption | exact hfo.short | exact hfo.cols | exact hfo.wrap | exact sRes_nn (by assumption) | exact at_lt_of (by assumption) | (simp_all; done) | (simp at *; omega)))] (by kernel_rfl)
          · exact wk At.evaluate_Value [sc (k_scope_Formed (e)), sb h1, sb h2, sb h3, sc (k_scope_Resolve (frs) (e.table) (e.name) (by first | assumption | exact hfo.short | exact hfo.cols | exact hfo.wrap | exact sRes_nn (by assumption) | exact at_lt_of (by assumption) | (simp_all; done) | (simp at *; omega)) (by first | assumption | exact hfo.short | exact hfo.cols | exact hfo.wrap | exact sRes_nn (by assumption) | exact at_lt_of (by assumption) | (simp_all; done) | (simp at *; omega)) (by first | assumption | exact hfo.short | exact hfo.cols | exact hfo.wrap | exact sRes_nn (by assumption) | exact at_lt_of (by assumption) | (simp_all; done) | (simp at *; omega))), sb h9, se (el_sFr (frs) (e.table) (e.name) (by first | assumption | exact hfo.short | exact hfo.cols | exact hfo.wrap | exact sRes_nn (by assumption) | exact at_lt_of (by assumption) | (simp_all; done) | (simp at *; omega))), sb h10] (by kernel_rfl)
        · exact wk At.evaluate_Value [sc (k_scope_Formed (e)), sb h1, sb h2, sb h3, sc (k_scope_Resolve (frs) (e.table) (e.name) (by first | assumption | exact hfo.short | exact hfo.cols | exact hfo.wrap | exact sRes_nn (by assumption) | exact at_lt_of (by assumption) | (simp_all; done) | (simp at *; omega)) (by first | assumption | exact hfo.short | exact hfo.cols | exact hfo.wrap | exact sRes_nn (by assumption) | exact at_lt_of (by assumption) | (simp_all; done) | (simp at *; omega)) (by first | assumption | exact hfo.short | exact hfo.cols | exact hfo.wrap | exact sRes_nn (by assumption) | exact at_lt_of (by assumption) | (simp_all; done) | (simp at *; omega))), sb h9] (by kernel_rfl)
    · exact wk At.evaluate_Value [sc (k_scope_Formed (e)), sb h1, sb h2] (by kernel_rfl)
  · exact wk At.evaluate_Value [sc (k_scope_Formed (e)), sb h1] (by kernel_rfl)
end Go.AM

namespace Go.AM
set_option maxRecDepth 100000
set_option maxHeartbeats 1000000
set_option linter.unusedSimpArgs false
set_option linter.unusedVariables false
theorem formed0_cases {k o : Int} {xs : List X} (h : formed0 k o xs = true) : ((k = 1 ∨ k = 2) ∧ xs.length = 0) ∨ ((k = 3 ∨ k = 4 ∨ k = 6) ∧ xs.length = 1) ∨ (k = 5 ∧ xs.length = 2 ∧ 1 ≤ o ∧ o ≤ 13) ∨ (k = 7 ∧ xs.length = 3) := by
  simp only [formed0, Bool.cond_eq_ite, cellsX_length] at h
  simp at h
  repeat' split at h
  all_goals simp_all
  all_goals omega
theorem formed1_cases {k o : Int} {xs : List X} {qs : List Qy} {it wh : List X} (hq : qs ≠ []) (h : formed1 k o xs qs it wh = true) : xs.length = 0 ∧ qs.length = 1 ∧ wh.length ≤ 1 ∧ (((k = 8 ∨ k = 9) ∧ it.length = 0) ∨ ((k = 10 ∨ k = 11 ∨ k = 12) ∧ it.length = 1)) := by
  simp only [formed1, Bool.cond_eq_ite, cellsX_length, cellsQ_length] at h
  simp [hq] at h
  obtain ⟨h1, h2, h3, h4, h5, h6, h7, h⟩ := h
  repeat' split at h
  all_goals simp_all
  all_goals omega
/-- What an expression with arguments comes to. -/
def eOp (e : X) (l : List V) : V × Int := match l with
  | [a] => if e.kind = 6 then opIsNull e.op e.not a else if e.kind = 3 then opNot e.op e.not a else opNeg e.op e.not a
  | [a, b] => opBin e.op e.not a b
  | [a, b, c] => opBet e.op e.not a b c
  | _ => (V.null, 0)
theorem OpKind.cases {e : X} (h : OpKind e) : e.sub = [] ∧ (((e.kind = 3 ∨ e.kind = 4 ∨ e.kind = 6) ∧ e.args.length = 1) ∨ (e.kind = 5 ∧ e.args.length = 2 ∧ 1 ≤ e.op ∧ e.op ≤ 13) ∨ (e.kind = 7 ∧ e.args.length = 3)) := by
  have hf := h.fok
  have k1 := h.k1
  have k2 := h.k2
  have k8 := h.k8
  unfold formed at hf
  cases hs : e.sub with
  | nil =>
    rw [hs] at hf
    have := formed0_cases hf
    refine ⟨rfl, ?_⟩
    omega
  | cons q r =>
    rw [hs] at hf
    have := (formed1_cases (by simp) hf).2.2.2
    omega
theorem c_operation (e : X) (h : OpKind e) (l : List V) (hl : l.length = e.args.length) (hg : ∀ v ∈ l, v.Good) : Pure S.evaluate_operation [e.av, vsl l] (.tup [(eOp e l).1.av, iv (eOp e l).2]) := by
  obtain ⟨hs, hk⟩ := h.cases
  cases e with
  | mk k o nt val tn nm xs qs =>
    simp only [X.sub_mk, X.kind_mk, X.op_mk, X.args_mk] at hs hk hl
    subst hs
    match l, hl, hg with
    | [], hl, _ => simp at hl; omega
    | [a], hl, hg =>
      have ha := (hg a (by simp)).small
      simp only [List.length_cons, List.length_nil] at hl
      have : k = 3 ∨ k = 4 ∨ k = 6 := by omega
      rcases this with rfl | rfl | rfl
      · exact k_evaluate_operation__Not o nt a val tn nm xs [] ha
      · exact k_evaluate_operation__Neg o nt a val tn nm xs []
      · exact k_evaluate_operation__IsNull o nt a val tn nm xs []
    | [a, b], hl, hg =>
      simp only [List.length_cons, List.length_nil] at hl
      obtain ⟨rfl, ho⟩ : k = 5 ∧ 1 ≤ o ∧ o ≤ 13 := by omega
      exact k_evaluate_operation__Bin o nt a b val tn nm xs [] (hg a (by simp)).small (hg b (by simp)).small ho
    | [a, b, c], hl, hg =>
      simp only [List.length_cons, List.length_nil] at hl
      obtain rfl : k = 7 := by omega
      exact k_evaluate_operation__Bet o nt a b c val tn nm xs []
    | a :: b :: c :: d :: r, hl, _ => simp only [List.length_cons] at hl; omega
/-- The items of a row. -/
def rowI (f : X → V × Int) (k : Int) : List X → List V → Int × List V
  | [], its => (0, its)
  | x :: r, its => bif (f x).2 != 0 then ((f x).2, its) else bif (f x).1.kind == 0 then rowI f k r its else bif k == 10 && (f x).1.kind != 1 then (5, its) else rowI f k r (its ++ [(f x).1])
theorem aggI_eq (f : X → V × Int) (q : Qy) (w : List Fr) (tb : List Tb) (e : X) (n : Nat) (its0 : List V) : ∀ (l : List X) (i : Nat) (its : List V), aggI f q w tb e n its0 l i its = rowI f e.kind l its
  | [], _, _ => rfl
  | x :: r, i, its => by
    simp only [aggI, rowI, aggI_eq f q w tb e n its0 r]
    cases (f x).2 != 0 <;> cases (f x).1.kind == 0 <;> cases e.kind == 10 <;> simp
theorem rowI_len (f : X → V × Int) (k : Int) : ∀ (l : List X) (its : List V), (rowI f k l its).2.length ≤ its.length + l.length
  | [], its => by simp [rowI]
  | x :: r, its => by
    have h1 := rowI_len f k r its
    have h2 := rowI_len f k r (its ++ [(f x).1])
    simp only [List.length_append, List.length_cons, List.length_nil] at h2
    simp only [rowI, Bool.cond_eq_ite, List.length_cons]
    repeat' split
    all_goals (try simp only); omega
theorem rowI_all {P : V → Prop} (f : X → V × Int) (k : Int) : ∀ (l : List X) (its : List V), (∀ x ∈ l, P (f x).1) → (∀ v ∈ its, P v) → ∀ v ∈ (rowI f k l its).2, P v
  | [], its, _, h => h
  | x :: r, its, hx, h => by
    simp only [rowI, Bool.cond_eq_ite]
    have hr : ∀ y ∈ r, P (f y).1 := fun y hy => hx y (by simp [hy])
    repeat' split
    · exact h
    · exact rowI_all f k r its hr h
    · exact h
    · exact rowI_all f k r _ hr fun v hv => (List.mem_append.1 hv).elim (h v) fun hv => by simp only [List.mem_singleton] at hv; exact hv ▸ hx x (by simp)
/-- The rows that are selected, with what is done at each. -/
def selR (tr : Rw → Bool × Int) (g : Rw → List V → Int × List V) : List Rw → Nat → List V → Int × Nat × List V
  | [], n, its => (0, n, its)
  | r :: l, n, its => bif (tr r).2 != 0 then ((tr r).2, n, its) else bif (tr r).1 then (bif (g r its).1 != 0 then ((g r its).1, n + 1, (g r its).2) else selR tr g l (n + 1) (g r its).2) else selR tr g l n its
theorem selA_eq (tr : Rw → Bool × Int) (g : Rw → List V → Int × List V) (q : Qy) (frs : List Fr) (tb : List Tb) (e : X) (t : Tb) (n0 : Nat) (its0 : List V) : ∀ (l : List Rw) (i n : Nat) (its : List V), selA tr g q frs tb e t n0 its0 l i n its = selR tr g l n its
  | [], _, _, _ => rfl
  | r :: l, i, n, its => by
    simp only [selA, selR, selA_eq tr g q frs tb e t n0 its0 l, bne]
    cases (tr r).2 == 0 <;> cases (tr r).1 <;> simp
theorem selR_len (tr : Rw → Bool × Int) (g : Rw → List V → Int × List V) (m : Nat) (hg : ∀ r its, (g r its).2.length ≤ its.length + m) : ∀ (l : List Rw) (n : Nat) (its : List V), (selR tr g l n its).2.2.length ≤ its.length + m * l.length
  | [], n, its => by simp [selR]
  | r :: l, n, its => by
    have h1 := selR_len tr g m hg l n its
    have h2 := selR_len tr g m hg l (n + 1) (g r its).2
    have h3 := hg r its
    simp only [selR, Bool.cond_eq_ite, List.length_cons, Nat.mul_add]
    repeat' split
    all_goals (try simp only); omega
theorem selR_all {P : V → Prop} (tr : Rw → Bool × Int) (g : Rw → List V → Int × List V) : ∀ (l : List Rw) (n : Nat) (its : List V), (∀ r ∈ l, ∀ its, (∀ v ∈ its, P v) → ∀ v ∈ (g r its).2, P v) → (∀ v ∈ its, P v) → ∀ v ∈ (selR tr g l n its).2.2, P v
  | [], n, its, _, h => h
  | r :: l, n, its, hg, h => by
    have hl : ∀ r ∈ l, ∀ its, (∀ v ∈ its, P v) → ∀ v ∈ (g r its).2, P v := fun y hy => hg y (by simp [hy])
    simp only [selR, Bool.cond_eq_ite]
    repeat' split
    · exact h
    · exact hg r (by simp) its h
    · exact selR_all tr g l _ _ hl (hg r (by simp) its h)
    · exact selR_all tr g l _ _ hl h
/-- A condition. -/
def eTrueL (f : X → V × Int) : List X → Bool × Int
  | [] => eTrue0
  | x :: _ => eTrue1 f x
/-- An aggregate; F: values in given frames. -/
def evalA (F : List Fr → X → V × Int) (e : X) (frs : List Fr) (tb : List Tb) : V × Int := match e.sub with
  | [] => (V.null, 0)
  | q :: _ => match findS tb q.frm with
    | none => eAgg (3, 0, []) e
    | some t => eAgg (selR (fun r => eTrueL (F (eInside frs t r.vals)) q.wh) (fun r its => rowI (F (eInside frs t r.vals)) e.kind q.items its) t.rows 0 []) e
/-- The value of an expression. -/
def eval : Nat → X → List Fr → List Tb → V × Int
  | 0, _, _, _ => (V.null, 0)
  | n + 1, e, frs, tb => valF (fun x => eval n x frs tb) (eOp e) (evalA (fun w x => eval n x w tb) e frs tb) e frs tb
/- ### values are valid -/
theorem good01 (c : Bool) : V.Good ⟨2, if c = true then 1 else 0, ⟨#[]⟩⟩ := by
  cases c
  · exact good_bool (n := 0) (by decide)
  · exact good_bool (n := 1) (by decide)
theorem gc1 {α : Type} (c : Bool) {a b : V × α} (ha : a.1.Good) (hb : b.1.Good) : (bif c then a else b).1.Good := by cases c <;> assumption
theorem gc0 (c : Bool) {a b : V} (ha : a.Good) (hb : b.Good) : (bif c then a else b).Good := by cases c <;> assumption
theorem ic1 (c : Bool) {a b : Int × Bool} (ha : I64 a.1) (hb : I64 b.1) : I64 (bif c then a else b).1 := by cases c <;> assumption
theorem vCmp_good (op : Int) (a b : V) : (vCmp op a b).1.Good := by
  unfold vCmp; repeat' (first | apply gc1 | exact good_null | exact good01 _)
theorem land0_good (a b : V) : (land0 a b).Good := by
  unfold land0; repeat' (first | apply gc0 | exact good_null | exact good01 _)
theorem land_good (a b : V) : (land a b).1.Good := by
  unfold land; repeat' (first | apply gc1 | exact good_null | exact land0_good _ _)
theorem lnot_good (a : V) (ha : a.Good) : (lnot a).1.Good := by
  unfold lnot; repeat' (first | apply gc1 | exact good_null | exact ha | exact good01 _)
theorem lor_good (a b : V) : (lor a b).1.Good := by
  unfold lor; repeat' (first | exact lnot_good _ (land0_good _ _) | exact good_null | apply gc1)
theorem vTruth_good (v : V) (ok : Bool) (h : v.Good) : (vTruth v ok).1.Good := by
  unfold vTruth; repeat' (first | apply gc1 | exact good_null | exact h)
theorem aAdd_i (a b : Int) : I64 (aAdd a b).1 := by
  unfold aAdd; repeat' (first | apply ic1 | exact i64_wrap _ | exact ⟨by decide, by decide⟩)
theorem aSub_i (a b : Int) : I64 (aSub a b).1 := by
  unfold aSub; repeat' (first | apply ic1 | exact i64_wrap _ | exact ⟨by decide, by decide⟩)
theorem aMul_i (a b : Int) : I64 (aMul a b).1 := by
  unfold aMul; repeat' (first | apply ic1 | exact i64_wrap _ | exact ⟨by decide, by decide⟩)
theorem aDiv_i (a b : Int) : I64 (aDiv a b).1 := by
  unfold aDiv; repeat' (first | apply ic1 | exact i64_wrap _ | exact ⟨by decide, by decide⟩)
theorem aMod_i (a b : Int) (ha : I64 a) : I64 (aMod a b).1 := by
  have h : I64 (a.tmod b) := by
    have h0 := Int.natAbs_tmod a b
    have h1 := Nat.mod_le a.natAbs b.natAbs
    have h2 : a < 0 → a.tmod b ≤ 0 := fun h => by
      have h3 := Int.tmod_nonneg b (show 0 ≤ -a by omega)
      rw [Int.neg_tmod] at h3; omega
    simp only [I64] at *
    omega
  unfold aMod; repeat' (first | apply ic1 | exact h | exact ⟨by decide, by decide⟩)
theorem vArith_good (op : Int) (a b : V) (ha : a.Good) : (vArith op a b).1.Good := by
  unfold vArith
  repeat' (first | apply gc1 | exact good_null | exact good_int (aAdd_i _ _) | exact good_int (aSub_i _ _) | exact good_int (aMul_i _ _) | exact good_int (aDiv_i _ _) | exact good_int (aMod_i _ _ ha.i64) | exact good_int ⟨by decide, by decide⟩)
theorem eOp_good (e : X) (l : List V) (hg : ∀ v ∈ l, v.Good) : (eOp e l).1.Good := by
  match l, hg with
  | [], _ => exact good_null
  | [a], hg =>
    have ha := hg a (by simp)
    simp only [eOp]
    split
    · exact good01 _
    split
    · exact vTruth_good _ _ (lnot_good _ ha)
    · exact vArith_good _ _ _ (good_int ⟨by decide, by decide⟩)
  | [a, b], hg =>
    have ha := hg a (by simp)
    simp only [eOp, opBin]
    repeat' (first | exact vTruth_good _ _ (land_good _ _) | exact vTruth_good _ _ (lor_good _ _) | exact vCmp_good _ _ _ | exact vArith_good _ _ _ ha | apply gc1)
  | [a, b, c], hg =>
    simp only [eOp, opBet, vBetween]
    repeat' (first | exact good_null | exact vTruth_good _ _ (land_good _ _) | apply gc1)
  | a :: b :: c :: d :: r, _ => exact good_null
theorem minL_all {P : V → Prop} (l0 : List V) : ∀ (l : List V) (i : Nat) (m : V), (∀ v ∈ l, P v) → P m → P (minL l0 l i m)
  | [], _, _, _, h => h
  | x :: r, i, m, hl, h => by
    simp only [minL, Bool.cond_eq_ite]
    split
    · exact minL_all l0 r _ _ (fun v hv => hl v (by simp [hv])) (hl x (by simp))
    · exact minL_all l0 r _ _ (fun v hv => hl v (by simp [hv])) h
theorem maxL_all {P : V → Prop} (l0 : List V) : ∀ (l : List V) (i : Nat) (m : V), (∀ v ∈ l, P v) → P m → P (maxL l0 l i m)
  | [], _, _, _, h => h
  | x :: r, i, m, hl, h => by
    simp only [maxL, Bool.cond_eq_ite]
    split
    · exact maxL_all l0 r _ _ (fun v hv => hl v (by simp [hv])) (hl x (by simp))
    · exact maxL_all l0 r _ _ (fun v hv => hl v (by simp [hv])) h
theorem minV_all {P : V → Prop} {l : List V} (h : ∀ v ∈ l, P v) (h0 : P V.null) : P (minV l) :=
  minL_all l _ _ _ (fun v hv => h v (List.mem_of_mem_drop hv)) (by cases l with | nil => exact h0 | cons x r => exact h x (by simp))
theorem maxV_all {P : V → Prop} {l : List V} (h : ∀ v ∈ l, P v) (h0 : P V.null) : P (maxV l) :=
  maxL_all l _ _ _ (fun v hv => h v (List.mem_of_mem_drop hv)) (by cases l with | nil => exact h0 | cons x r => exact h x (by simp))
theorem sumL_i (l0 : List Int) : ∀ (l : List Int) (i : Nat) (a b : Int), I64 (sumL l0 l i a b).1
  | [], i, a, b => by
    simp only [sumL]
    repeat' (first | apply ic1 | exact i64_wrap _ | exact ⟨by decide, by decide⟩)
  | x :: r, i, a, b => by simp only [sumL]; exact sumL_i l0 r _ _ _
theorem esumL_eq (its : List V) : ∀ (c : List V) (i : Nat) (l : List Int), esumL its c i l = bif !(aSum (l ++ c.map V.int)).2 then (V.null, 6) else (⟨1, (aSum (l ++ c.map V.int)).1, ⟨#[]⟩⟩, 0)
  | [], i, l => by simp [esumL, V.null]
  | x :: r, i, l => by simp only [esumL, List.map_cons]; rw [esumL_eq its r]; simp
theorem eSum_eq (its : List V) : eSum its = bif !(aSum (its.map V.int)).2 then (V.null, 6) else (⟨1, (aSum (its.map V.int)).1, ⟨#[]⟩⟩, 0) := by
  unfold eSum; rw [esumL_eq]; simp
theorem eSum_good (its : List V) : (eSum its).1.Good := by
  rw [eSum_eq]
  exact gc1 _ good_null (good_int (sumL_i _ _ _ _ _))
theorem eAgg_good (sel : Int × Nat × List V) (e : X) (hn : sel.2.1 ≤ 1000000) (h : ∀ v ∈ sel.2.2, v.Good) : (eAgg sel e).1.Good := by
  unfold eAgg
  have hb : V.Good ⟨2, if decide (0 < ((sel.2.1 : Nat) : Int)) then 1 else 0, ⟨#[]⟩⟩ := good01 _
  repeat' (first | exact good_null | exact hb | exact good_int ⟨by omega, by omega⟩ | exact eSum_good _ | exact minV_all h good_null | exact maxV_all h good_null | apply gc1)
theorem selR_n (tr : Rw → Bool × Int) (g : Rw → List V → Int × List V) : ∀ (l : List Rw) (n : Nat) (its : List V), (selR tr g l n its).2.1 ≤ n + l.length
  | [], n, its => by simp [selR]
  | r :: l, n, its => by
    have h1 := selR_n tr g l n its
    have h2 := selR_n tr g l (n + 1) (g r its).2
    simp only [selR, Bool.cond_eq_ite, List.length_cons]
    repeat' split
    all_goals (try simp only); omega
/-- All values of frames are valid; all values of tables. -/
abbrev FsG (frs : List Fr) : Prop := ∀ f ∈ frs, ∀ v ∈ f.vals, v.Good
structure TbG (tb : List Tb) : Prop where
  vals : ∀ x ∈ tb, ∀ r ∈ x.rows, ∀ v ∈ r.vals, v.Good
  rows : ∀ x ∈ tb, x.rows.length ≤ 1000
theorem FsG.ins {frs : List Fr} (h : FsG frs) {t : Tb} {v : List V} (hv : ∀ x ∈ v, x.Good) : FsG (eInside frs t v) := fun f hf => by
  simp only [eInside, List.mem_append, List.mem_singleton] at hf
  rcases hf with hf | rfl
  · exact h f hf
  · exact hv
theorem findS_mem {tb : List Tb} {n : Str} {t : Tb} (h : findS tb n = some t) : t ∈ tb := List.mem_of_find?_eq_some h
theorem evalA_good {F : List Fr → X → V × Int} {n : Nat} {e : X} {frs : List Fr} {tb : List Tb} (he : XOk (n + 1) e) (hf : FsG frs) (ht : TbG tb) (hF : ∀ w x, XOk n x → FsG w → (F w x).1.Good) : (evalA F e frs tb).1.Good := by
  unfold evalA
  split
  · exact good_null
  · rename_i q r hs
    obtain ⟨_, _, _, hsub⟩ := he
    obtain ⟨h1, h2, h3⟩ := hsub q (by rw [hs]; simp)
    split
    · exact eAgg_good _ _ (by simp) (fun v hv => by cases hv)
    · rename_i t hfd
      have htm := findS_mem hfd
      refine eAgg_good _ _ ?_ ?_
      · have := selR_n (fun r => eTrueL (F (eInside frs t r.vals)) q.wh) (fun r its => rowI (F (eInside frs t r.vals)) e.kind q.items its) t.rows 0 []
        have := ht.rows t htm
        omega
      · refine selR_all _ _ _ _ _ (fun r hr its hi => rowI_all _ _ _ _ (fun x hx => hF _ x (h2 x hx) (hf.ins (ht.vals t htm r hr))) hi) (fun v hv => by cases hv)
theorem evL_good (f : X → V × Int) (op : List V → V × Int) (e : X) (frs : List Fr) (tb : List Tb) (hop : ∀ l, (∀ v ∈ l, v.Good) → (op l).1.Good) : ∀ (l : List X) (i : Nat) (out : List V), (∀ x ∈ l, (f x).1.Good) → (∀ v ∈ out, v.Good) → (evL f op e frs tb l i out).1.Good
  | [], i, out, _, h => hop out h
  | x :: r, i, out, hl, h => by
    simp only [evL]
    exact gc1 _ good_null (evL_good f op e frs tb hop r _ _ (fun y hy => hl y (by simp [hy])) fun v hv => (List.mem_append.1 hv).elim (h v) fun h => by simp only [List.mem_singleton] at h; exact h ▸ hl x (by simp))
theorem valAt_all {P : V → Prop} {l : List V} (h : ∀ v ∈ l, P v) (h0 : P V.null) (k : Int) : P (valAt l k) := by
  unfold valAt
  rw [List.getD_eq_getElem?_getD]
  cases hk : l[k.toNat]? with
  | none => exact h0
  | some v => exact h v (List.mem_of_getElem? hk)
theorem rFr_mem (frs : List Fr) (q n : Str) : rFr frs q n ∈ frs ∨ rFr frs q n = frNull := by
  unfold rFr
  rw [List.getD_eq_getElem?_getD]
  cases hk : frs[(rResolve frs q n).1.toNat]? with
  | none => exact .inr rfl
  | some v => exact .inl (List.mem_of_getElem? hk)
theorem eval_good : ∀ (n : Nat) (e : X) (frs : List Fr) (tb : List Tb), XOk n e → FsG frs → TbG tb → (eval n e frs tb).1.Good
  | 0, e, frs, tb, h, _, _ => h.elim
  | n + 1, e, frs, tb, h, hf, ht => by
    have hA := evalA_good (F := fun w x => eval n x w tb) h hf ht (fun w x hx hw => eval_good n x w tb hx hw ht)
    obtain ⟨h1, h2, h3, h4⟩ := h
    have hv : ∀ v ∈ (rFr frs e.table e.name).vals, v.Good := by
      rcases rFr_mem frs e.table e.name with h | h
      · exact hf _ h
      · rw [h]; intro v hv; cases hv
    simp only [eval, valF]
    repeat' (first | exact good_null | exact h1 | exact hA | exact valAt_all hv good_null _ | exact evL_good _ _ _ _ _ (fun l hl => eOp_good e l hl) _ _ _ (fun x hx => eval_good n x frs tb (h3 x hx) hf ht) (fun v hv => by cases hv) | apply gc1)
end Go.AM

namespace Go.AM
set_option maxRecDepth 100000
set_option maxHeartbeats 1000000
set_option linter.unusedSimpArgs false
set_option linter.unusedVariables false
theorem FsOk.eins {n : Nat} {frs : List Fr} (h : FsOk (n + 1) frs) {t : Tb} (hc : Short t.sch.cols) {v : List V} (hv : ∀ x ∈ v, x.Good) : FsOk n (eInside frs t v) := by
  refine ⟨by have := h.len; simp [eInside]; omega, fun f hf => ?_, fun f hf => ?_⟩
  · simp only [eInside, List.mem_append, List.mem_singleton] at hf
    rcases hf with hf | rfl
    · exact h.cols f hf
    · exact hc
  · simp only [eInside, List.mem_append, List.mem_singleton] at hf
    rcases hf with hf | rfl
    · exact h.vals f hf
    · exact fun x hx => (hv x hx).small
theorem c_True {f : X → V × Int} {wh : List X} {frs : List Fr} {tb : List Tb} (hf : ∀ x ∈ wh, Pure S.evaluate_Value [x.av, fsl frs, tsl tb] (.tup [(f x).1.av, iv (f x).2])) (hg : ∀ x ∈ wh, (f x).1.Good) : Pure S.evaluate_True [xsl wh, fsl frs, tsl tb] (.tup [bv (eTrueL f wh).1, iv (eTrueL f wh).2]) := by
  cases wh with
  | nil => exact k_evaluate_True__0 frs tb
  | cons x r => exact k_evaluate_True__1 f x r frs tb (hf x (by simp)) (hg x (by simp)).small
theorem formed_sub {e : X} (h : formed e = true) (h8 : 8 ≤ e.kind) (h12 : e.kind ≤ 12) : ∃ q, e.sub = [q] := by
  unfold formed at h
  cases hs : e.sub with
  | nil => rw [hs] at h; have := formed0_cases h; omega
  | cons q r =>
    rw [hs] at h
    have := (formed1_cases (by simp) h).2.1
    cases r with
    | nil => exact ⟨q, rfl⟩
    | cons x y => simp at this
theorem c_selected {F : List Fr → X → V × Int} {n : Nat} {q : Qy} {frs : List Fr} {tb : List Tb} {e : X} {t : Tb} (hfd : findS tb q.frm = some t) (hfo : FsOk (n + 1) frs) (hto : TbOk tb) (hfg : FsG frs) (htg : TbG tb) (hi : Few q.items)
    (hF : ∀ w, FsOk n w → FsG w → ∀ x, (x ∈ q.items ∨ x ∈ q.wh) → Pure S.evaluate_Value [x.av, fsl w, tsl tb] (.tup [(F w x).1.av, iv (F w x).2]) ∧ (F w x).1.Good) :
    ACallsTo E0 S.evaluate_selected [q.av, fsl frs, tsl tb, .fn S.evaluate_aggregate_c1 [.p 0 0, .p 1 0, .p 2 0, .p 3 0, .p 4 0]] (AH q tb e 0 [])
      (iv (selR (fun r => eTrueL (F (eInside frs t r.vals)) q.wh) (fun r its => rowI (F (eInside frs t r.vals)) e.kind q.items its) t.rows 0 []).1)
      (AH q tb e (selR (fun r => eTrueL (F (eInside frs t r.vals)) q.wh) (fun r its => rowI (F (eInside frs t r.vals)) e.kind q.items its) t.rows 0 []).2.1 (selR (fun r => eTrueL (F (eInside frs t r.vals)) q.wh) (fun r its => rowI (F (eInside frs t r.vals)) e.kind q.items its) t.rows 0 []).2.2) := by
  have htm := findS_mem hfd
  have hin : ∀ r ∈ t.rows, FsOk n (eInside frs t r.vals) ∧ FsG (eInside frs t r.vals) := fun r hr => ⟨hfo.eins (hto.cols t htm) (htg.vals t htm r hr), hfg.ins (htg.vals t htm r hr)⟩
  have h := k_evaluate_selected__1 (fun r => eTrueL (F (eInside frs t r.vals)) q.wh) (fun r its => rowI (F (eInside frs t r.vals)) e.kind q.items its) q frs tb e t 0 [] (k_evaluate_find__1 tb q.frm hto.len t hfd) hfo.short (hto.rows t htm) (by simp) (by simp)
    (fun r its => by have := rowI_len (F (eInside frs t r.vals)) e.kind q.items its; simp only [Few] at hi; omega)
    (fun r hr => c_True (fun x hx => (hF _ (hin r hr).1 (hin r hr).2 x (.inr hx)).1) (fun x hx => (hF _ (hin r hr).1 (hin r hr).2 x (.inr hx)).2))
    (fun r hr n its hn hl => by
      have h := k_evaluate_aggregate_c1 (F (eInside frs t r.vals)) q (eInside frs t r.vals) tb e n its r hi hl (by rw [IntKind.wrap_i64]; omega) (fun x hx => (hF _ (hin r hr).1 (hin r hr).2 x (.inl hx)).1)
      simp only [aggC, aggI_eq] at h
      exact h)
  simp only [eSel1, selA_eq] at h
  exact h
theorem c_aggregate {F : List Fr → X → V × Int} {n : Nat} {e : X} {frs : List Fr} {tb : List Tb} (he : XOk (n + 1) e) (hs : ∃ q, e.sub = [q]) (hfo : FsOk (n + 1) frs) (hto : TbOk tb) (hfg : FsG frs) (htg : TbG tb)
    (hF : ∀ w, FsOk n w → FsG w → ∀ x, XOk n x → Pure S.evaluate_Value [x.av, fsl w, tsl tb] (.tup [(F w x).1.av, iv (F w x).2]) ∧ (F w x).1.Good) : Pure S.evaluate_aggregate [e.av, fsl frs, tsl tb] (.tup [(evalA F e frs tb).1.av, iv (evalA F e frs tb).2]) := by
  obtain ⟨q, hq⟩ := hs
  obtain ⟨_, _, _, h4⟩ := he
  obtain ⟨h5, h6, h7⟩ := h4 q (by rw [hq]; simp)
  have hq0 : e.sub[0]? = some q := by rw [hq]; rfl
  unfold evalA
  rw [hq]
  simp only
  cases hfd : findS tb q.frm with
  | none => exact c_agg (3, 0, []) e q frs tb hq0 (by simp) (k_evaluate_selected__0 q frs tb e 0 [] (k_evaluate_find__0 tb q.frm hto.len hfd))
  | some t =>
    have htm := findS_mem hfd
    refine c_agg _ e q frs tb hq0 ?_ (c_selected hfd hfo hto hfg htg h5.1 fun w hw hg x hx => hF w hw hg x (hx.elim (h6 x) (h7 x)))
    have hl := selR_len (fun r => eTrueL (F (eInside frs t r.vals)) q.wh) (fun r its => rowI (F (eInside frs t r.vals)) e.kind q.items its) 1000 (fun r its => by have := rowI_len (F (eInside frs t r.vals)) e.kind q.items its; simp only [Few] at h5; omega) t.rows 0 []
    have hr := hto.rows t htm
    simp only [Short]
    simp only [List.length_nil] at hl
    have : 1000 * t.rows.length ≤ 1000 * 1000 := Nat.mul_le_mul_left _ hr
    omega
theorem c_Value : ∀ (n : Nat) (e : X) (frs : List Fr) (tb : List Tb), XOk n e → FsOk n frs → FsG frs → TbOk tb → TbG tb → Pure S.evaluate_Value [e.av, fsl frs, tsl tb] (.tup [(eval n e frs tb).1.av, iv (eval n e frs tb).2])
  | 0, e, frs, tb, h, _, _, _, _ => h.elim
  | n + 1, e, frs, tb, h, hf, hg, ht, htg => by
    have hA := @c_aggregate (fun w x => eval n x w tb) n e frs tb h
    obtain ⟨_, h2, h3, _⟩ := id h
    exact k_evaluate_Value__F (fun x => eval n x frs tb) (eOp e) (evalA (fun w x => eval n x w tb) e frs tb) e frs tb (n + 1) hf h2.1 (fun x hx => c_Value n x frs tb (h3 x hx) hf.less hg ht htg) (fun x hx => eval_good n x frs tb (h3 x hx) hg htg)
      (fun ho l hl hl2 => c_operation e ho l hl hl2)
      (fun hfm h8 h12 => hA (formed_sub hfm h8 h12) hf ht hg htg fun w hw hwg x hx => ⟨c_Value n x w tb hx hw hwg ht htg, eval_good n x w tb hx hwg htg⟩)
end Go.AM

namespace Go.AM
set_option maxRecDepth 100000
set_option maxHeartbeats 1000000
set_option linter.unusedSimpArgs false
set_option linter.unusedVariables false
noncomputable def clCV (l : List V) : Cfg := (upto (mk E0) (List.range 40) 0 3000 ⟨B.slices_Clone_Value.ntmps, [.code (B.slices_Clone_Value.body.getD .skip)], argTS 0 [vsl l], []⟩ []).2
theorem cloneV_f (l : List V) (hl : Short l) : Good E0 B.slices_Clone_Value [] (nilBack (clCV l) false) (fun r h => r = .own 0 l.length ∧ h = [.row Ty.Value (l.map V.cells) false]) := by
  exact toRetK E0ok mix0 3000 (y := AV.own 0 (List.map V.cells l).length) (H := [Blk.row Ty.Value (List.map V.cells l) false]) [sb (rfl : false = false), sqx (AllLen (List.map V.cells l) 3 ∧ ((List.map V.cells l).length * 32).le 140737488355328)] (by kernel_rfl) (⟨by simp, rfl⟩)
theorem cloneV_t : Good E0 B.slices_Clone_Value [] (nilBack (clCV []) true) (fun r h => r = .nl ∧ h = []) := by
  exact toRetK E0ok mix0 3000 (y := AV.nl) (H := []) [sb (rfl : true = true)] (by kernel_rfl) (⟨rfl, rfl⟩)
theorem k_slices_Clone_Value (l : List V) (hl : Short l) : ACallsTo E0 S.slices_Clone_Value [vsl l] [] (.own 0 l.length) [.row Ty.Value (l.map V.cells) false] := by
  refine acalls_of_good At.slices_Clone_Value rfl (by kernel_rfl) (Nat.le_of_ble_eq_true (by kernel_rfl)) (toLoop E0ok mix0 3000 [] (List.range 40) 0 (c' := clCV l) (by kernel_rfl) (by kernel_rfl) (good_nil E0ok (xs := l.map V.cells) (e := true) (by kernel_rfl) fun b hb => ?_))
  cases b with
  | false => exact cloneV_f l hl
  | true =>
    cases l with
    | nil => exact good_retOwn Ty.Value cloneV_t ⟨rfl, rfl⟩
    | cons x r => exact absurd (hb (by simp)) (by simp)
end Go.AM

namespace Go.AM
set_option maxRecDepth 100000
set_option maxHeartbeats 1000000
set_option linter.unusedSimpArgs false
set_option linter.unusedVariables false
/-- A query of expressions of less than n levels. -/
structure QOk (n : Nat) (q : Qy) : Prop where
  few : Few q.items
  items : ∀ x ∈ q.items, XOk n x
  wh : ∀ x ∈ q.wh, XOk n x
end Go.AM

namespace Go.AM
set_option maxRecDepth 100000
set_option maxHeartbeats 1000000
set_option linter.unusedSimpArgs false
set_option linter.unusedVariables false
noncomputable def uptoZ (fn : Func) (args : List AV) (h : Heap) (m : Nat) : Cfg := (upto (mk E0) (List.range 40) m 3000 ⟨fn.ntmps, [.code (fn.body.getD .skip)], argTS 0 args, h⟩ []).2
/-- api.Link -/
structure Lk where
  fst : Str
  snd : Str
def Lk.cells (l : Lk) : List AV := [sv l.fst, sv l.snd]
abbrev Lk.av (l : Lk) : AV := .agg l.cells
@[simp] theorem Lk.cells_length (x : Lk) : x.cells.length = 2 := rfl
/-- api.Item -/
structure Im where
  trig : Str
  row : Int
  old : List V
  new : List V
def Im.cells (x : Im) : List AV := [sv x.trig, iv x.row, vsl x.old, vsl x.new]
abbrev Im.av (x : Im) : AV := .agg x.cells
@[simp] theorem Im.cells_length (x : Im) : x.cells.length = 4 := rfl
theorem seq_Link : StructEq E0.P Ty.Link [.str, .str] :=
  seq_of E0ok (fs := E0.P.fieldsOf Ty.Link) (by kernel_rfl) (by kernel_rfl) (by kernel_rfl) (by kernel_rfl)
abbrev icell (n : Int) : List AV := [iv n]
theorem clTrigger_f (l : List (Tg)) (hl : Short l) : Good E0 B.slices_Clone_Trigger [] (nilBack (uptoZ B.slices_Clone_Trigger [.sl (l.map Tg.cells)] [] 0) false) (fun r h => r = .own 0 l.length ∧ h = [.row Ty.Trigger (l.map Tg.cells) false]) :=
  toRetK E0ok mix0 3000 (y := AV.own 0 (List.map Tg.cells l).length) (H := [Blk.row Ty.Trigger (List.map Tg.cells l) false]) [sb (rfl : false = false), sqx (AllLen (List.map Tg.cells l) 11 ∧ ((List.map Tg.cells l).length * 200).le 140737488355328)] (by kernel_rfl) (⟨by simp, rfl⟩)
theorem clTrigger_t : Good E0 B.slices_Clone_Trigger [] (nilBack (uptoZ B.slices_Clone_Trigger [.sl []] [] 0) true) (fun r h => r = .nl ∧ h = []) :=
  toRetK E0ok mix0 3000 (y := AV.nl) (H := []) [sb (rfl : true = true)] (by kernel_rfl) (⟨rfl, rfl⟩)
theorem k_slices_Clone_Trigger (l : List (Tg)) (hl : Short l) : ACallsTo E0 S.slices_Clone_Trigger [.sl (l.map Tg.cells)] [] (.own 0 l.length) [.row Ty.Trigger (l.map Tg.cells) false] := by
  refine acalls_of_good At.slices_Clone_Trigger rfl (by kernel_rfl) (Nat.le_of_ble_eq_true (by kernel_rfl)) (toLoop E0ok mix0 3000 [] (List.range 40) 0 (c' := uptoZ B.slices_Clone_Trigger [.sl (l.map Tg.cells)] [] 0) (by kernel_rfl) (by kernel_rfl) (good_nil E0ok (xs := l.map Tg.cells) (e := true) (by kernel_rfl) fun b hb => ?_))
  cases b with
  | false => exact clTrigger_f l hl
  | true =>
    cases l with
    | nil => exact good_retOwn Ty.Trigger clTrigger_t ⟨rfl, rfl⟩
    | cons x r => exact absurd (hb (by simp)) (by simp)
theorem clint_f (l : List (Int)) (hl : Short l) : Good E0 B.slices_Clone_int [] (nilBack (uptoZ B.slices_Clone_int [.sl (l.map icell)] [] 0) false) (fun r h => r = .own 0 l.length ∧ h = [.row Ty.int (l.map icell) false]) :=
  toRetK E0ok mix0 3000 (y := AV.own 0 (List.map icell l).length) (H := [Blk.row Ty.int (List.map icell l) false]) [sb (rfl : false = false), sqx (AllLen (List.map icell l) 1 ∧ ((List.map icell l).length * 8).le 140737488355328)] (by kernel_rfl) (⟨by simp, rfl⟩)
theorem clint_t : Good E0 B.slices_Clone_int [] (nilBack (uptoZ B.slices_Clone_int [.sl []] [] 0) true) (fun r h => r = .nl ∧ h = []) :=
  toRetK E0ok mix0 3000 (y := AV.nl) (H := []) [sb (rfl : true = true)] (by kernel_rfl) (⟨rfl, rfl⟩)
theorem k_slices_Clone_int (l : List (Int)) (hl : Short l) : ACallsTo E0 S.slices_Clone_int [.sl (l.map icell)] [] (.own 0 l.length) [.row Ty.int (l.map icell) false] := by
  refine acalls_of_good At.slices_Clone_int rfl (by kernel_rfl) (Nat.le_of_ble_eq_true (by kernel_rfl)) (toLoop E0ok mix0 3000 [] (List.range 40) 0 (c' := uptoZ B.slices_Clone_int [.sl (l.map icell)] [] 0) (by kernel_rfl) (by kernel_rfl) (good_nil E0ok (xs := l.map icell) (e := true) (by kernel_rfl) fun b hb => ?_))
  cases b with
  | false => exact clint_f l hl
  | true =>
    cases l with
    | nil => exact good_retOwn Ty.int clint_t ⟨rfl, rfl⟩
    | cons x r => exact absurd (hb (by simp)) (by simp)
theorem clColumn_f (l : List (Col)) (hl : Short l) : Good E0 B.slices_Clone_Column [] (nilBack (uptoZ B.slices_Clone_Column [.sl (l.map Col.cells)] [] 0) false) (fun r h => r = .own 0 l.length ∧ h = [.row Ty.Column (l.map Col.cells) false]) :=
  toRetK E0ok mix0 3000 (y := AV.own 0 (List.map Col.cells l).length) (H := [Blk.row Ty.Column (List.map Col.cells l) false]) [sb (rfl : false = false), sqx (AllLen (List.map Col.cells l) 4 ∧ ((List.map Col.cells l).length * 32).le 140737488355328)] (by kernel_rfl) (⟨by simp, rfl⟩)
theorem clColumn_t : Good E0 B.slices_Clone_Column [] (nilBack (uptoZ B.slices_Clone_Column [.sl []] [] 0) true) (fun r h => r = .nl ∧ h = []) :=
  toRetK E0ok mix0 3000 (y := AV.nl) (H := []) [sb (rfl : true = true)] (by kernel_rfl) (⟨rfl, rfl⟩)
theorem k_slices_Clone_Column (l : List (Col)) (hl : Short l) : ACallsTo E0 S.slices_Clone_Column [.sl (l.map Col.cells)] [] (.own 0 l.length) [.row Ty.Column (l.map Col.cells) false] := by
  refine acalls_of_good At.slices_Clone_Column rfl (by kernel_rfl) (Nat.le_of_ble_eq_true (by kernel_rfl)) (toLoop E0ok mix0 3000 [] (List.range 40) 0 (c' := uptoZ B.slices_Clone_Column [.sl (l.map Col.cells)] [] 0) (by kernel_rfl) (by kernel_rfl) (good_nil E0ok (xs := l.map Col.cells) (e := true) (by kernel_rfl) fun b hb => ?_))
  cases b with
  | false => exact clColumn_f l hl
  | true =>
    cases l with
    | nil => exact good_retOwn Ty.Column clColumn_t ⟨rfl, rfl⟩
    | cons x r => exact absurd (hb (by simp)) (by simp)
noncomputable def L_lkIx (l : List Lk) (v : Lk) (i : Nat)  : Cfg := loopAt B.slices_Index_Link 0 [(0, .sl (l.map Lk.cells)), (3, .p 0 0), (7, iv ((l.map Lk.cells).length : Nat)), (8, iv (i : Nat))] [.box v.cells]
def lkIx (l : List Lk) (v : Lk) : List (Lk) → Nat → Int
  | [], i =>
    -1
  | x :: r, i =>
    bif v.fst == x.fst && (v.snd == x.snd && true) then
      (↑i : Int)
    else
      lkIx l v r (i + 1)
theorem k_lkIx_loop (l : List Lk) (v : Lk) (hl : Short l) : ∀ (kk i : Nat), i + kk = (l).length → Good E0 B.slices_Index_Link [] (L_lkIx l v i ) (Shut 0 fun r h => r = (iv (lkIx l v ((l).drop i) i )) ∧ h = []) := by
  intro kk
  induction kk with
  | zero =>
    intro i  hi 
    have h0 : decide (((i : Nat) : Int) < (((l.map Lk.cells).length : Nat) : Int)) = false := by simp; omega
    have e0 : (l).drop i = [] := List.drop_of_length_le (by omega)
    rw [e0]
    simp only [lkIx]
    refine good_unroll ?_
    exact wkr [sb h0] (by kernel_rfl)
  | succ kk ih =>
    intro i  hi 
    obtain ⟨x, hx⟩ := ex_at (l := l) (i := i) (by omega)
    have h0 : decide (((i : Nat) : Int) < (((l.map Lk.cells).length : Nat) : Int)) = true := by simp; omega
    have hw := wrap_nat i (by first | omega | (simp only [Short, Few] at *; omega))
    rw [drop_at hx]
    simp only [lkIx]
    refine good_unroll ?_
    cases h1 : v.fst == x.fst && (v.snd == x.snd && true)
    · exact wkl [sb h0, sd [(3, [se (elAt_map (Lk.cells) hx rfl)]), (5, [sq seq_Link])], sb h1, si hw] [0, 3, 7, 8] 1 (by kernel_rfl) (ih (i + 1) (by omega) )
    · exact wkr [sb h0, sd [(3, [se (elAt_map (Lk.cells) hx rfl)]), (5, [sq seq_Link])], sb h1] (by kernel_rfl)
def lkIndex (l : List Lk) (v : Lk) : Int :=
  lkIx l v l (0)
theorem k_slices_Index_Link (l : List Lk) (v : Lk) (hl : Short l) : ACallsTo E0 S.slices_Index_Link [.sl (l.map Lk.cells), v.av] [] (iv (lkIndex l v)) [] := by
  unfold lkIndex
  exact wkc At.slices_Index_Link [] [0, 3, 7, 8] 1 (by kernel_rfl) (k_lkIx_loop l v hl l.length 0 (by simp))
def lkHas (l : List Lk) (v : Lk) : Bool :=
  decide ((0 : Int) ≤ lkIndex l v)
theorem k_slices_Contains_Link (l : List Lk) (v : Lk) (hl : Short l) : ACallsTo E0 S.slices_Contains_Link [.sl (l.map Lk.cells), v.av] [] (bv (lkHas l v)) [] := by
  exact wk At.slices_Contains_Link [sc (k_slices_Index_Link (l) (v) (by first | assumption | omega | (simp; done) | (simp; omega)))] (by kernel_rfl)
def oPrec (l : List Lk) (a b : Str) : Bool :=
  lkHas l (Lk.mk a b)
theorem k_order_Precedes (l : List Lk) (a b : Str) (hl : Short l) : ACallsTo E0 S.order_Precedes [.sl (l.map Lk.cells), sv a, sv b] [] (bv (oPrec l a b)) [] := by
  exact wk At.order_Precedes [sc (k_slices_Contains_Link (l) (Lk.mk a b) (by first | assumption | omega | (simp; done) | (simp; omega)))] (by kernel_rfl)
theorem el_ip0 (ps : List Int) (h : ((((ps.map icell).length : Nat) : Int) == 0) = false) : ElAt (ps.map fun n => [iv n]) 0 [iv (ps.headD 0)] 1 := by
  cases ps with
  | nil => simp at h
  | cons p r => exact ⟨by decide, rfl, rfl⟩
def pkC0 (n : Int) (ps : List Int) : Int × (List Int) :=
  (0, ps)
theorem c_pkC0 (n : Int) (ps : List Int) (hl : Short ps) (hA : decide (n < (2 : Int)) = true) : ACallsTo E0 S.pick_Choose [iv n, isl ps] [] (.tup [iv (pkC0 n ps).1, isl (pkC0 n ps).2]) [] := by
  exact wk At.pick_Choose [sqx (True ∧ ps.length = (List.map icell ps).length ∧ True), sb hA, sc (k_slices_Clone_int (ps) (by first | assumption | omega | (simp; done) | (simp; omega)))] (by kernel_rfl)
def pkC1 (n : Int) (ps : List Int) : Int × (List Int) :=
  (0, ps)
theorem c_pkC1 (n : Int) (ps : List Int) (hl : Short ps) (hA : decide (n < (2 : Int)) = false) (hB : ((((ps.map fun n => [iv n]).length : Nat) : Int) == 0) = true) : ACallsTo E0 S.pick_Choose [iv n, isl ps] [] (.tup [iv (pkC1 n ps).1, isl (pkC1 n ps).2]) [] := by
  exact wk At.pick_Choose [sqx (True ∧ ps.length = (List.map icell ps).length ∧ True), sg hA, sb hB, sc (k_slices_Clone_int (ps) (by first | assumption | omega | (simp; done) | (simp; omega)))] (by kernel_rfl)
def pkC2 (n : Int) (ps : List Int) : Int × (List Int) :=
  bif decide ((ps.headD 0).tmod n < 0) then
    (IntKind.i64.wrap ((ps.headD 0).tmod n + n), List.drop 1 (List.take (List.map (fun n => [iv n]) ps).length ps))
  else
    ((ps.headD 0).tmod n, List.drop 1 (List.take (List.map (fun n => [iv n]) ps).length ps))
theorem c_pkC2 (n : Int) (ps : List Int) (hl : Short ps) (hA : decide (n < (2 : Int)) = false) (hB : ((((ps.map fun n => [iv n]).length : Nat) : Int) == 0) = false) (hs : SubAt (ps.map fun n => [iv n]) 1 (((ps.map fun n => [iv n]).length : Nat) : Int) 1) : ACallsTo E0 S.pick_Choose [iv n, isl ps] [] (.tup [iv (pkC2 n ps).1, isl (pkC2 n ps).2]) [] := by
  unfold pkC2
  cases h1 : decide ((ps.headD 0).tmod n < 0)
  · exact (by (try simp only [X.av, Qy.av, V.av, Tb.av, Sch.av, Pl.av, xsl, fsl, vsl, tsl, List.map_append, List.map_cons, List.map_nil, V.cells, Col.cells, Rw.cells, Tb.cells, Fr.cells, Sch.cells, Pl.cells, cellsX_app, cellsX_cons, cellsX_nil, cellsQ_cons, cellsQ_nil, X.cells, Qy.cells, X.args_mk, X.sub_mk, Qy.items_mk, Qy.wh_mk, xCol, xLit, xBin, xNeg]); exact wk At.pick_Choose [sqx (True ∧ (List.drop 1 (List.take (List.map (fun n => [iv n]) ps).length ps)).length = (List.map icell (List.drop 1 (List.take (List.map (fun n => [iv n]) ps).length ps))).length ∧ True), sg hA, sb hB, se (el_ip0 (ps) (by first | assumption | omega | (simp; done) | (simp only [Short, List.length_drop, List.length_take] at *; omega))), sx (.i ((ps.headD (0 : Int)).tmod n)) (show n ≠ (0 : Int) ∧ ((ps.headD (0 : Int)).tmod n : Int) = (ps.headD (0 : Int)).tmod n from ⟨(by simp at hA; omega), rfl⟩), sb h1, sqx (SubAt (List.map (fun n => [iv n]) ps) 1 (↑(List.map (fun n => [iv n]) ps).length : Int) 1), sc (conv (args := [AV.sl (List.drop (Int.toNat 1) (List.take (↑(List.map (fun n => [iv n]) ps).length : Int).toNat (List.map (fun n => [iv n]) ps)))]) (hl := []) (k_slices_Clone_int (List.drop 1 (List.take (List.map (fun n => [iv n]) ps).length ps)) (by first | assumption | omega | (simp; done) | (simp only [Short, List.length_drop, List.length_take] at *; omega))) (by first | rfl | (rw [List.take_of_length_le (by simp)]; simp; done) | (simp; done)) (by first | rfl | (rw [List.take_of_length_le (by simp)]; simp; done) | (simp; done)))] (by kernel_rfl))
  · exact (by (try simp only [X.av, Qy.av, V.av, Tb.av, Sch.av, Pl.av, xsl, fsl, vsl, tsl, List.map_append, List.map_cons, List.map_nil, V.cells, Col.cells, Rw.cells, Tb.cells, Fr.cells, Sch.cells, Pl.cells, cellsX_app, cellsX_cons, cellsX_nil, cellsQ_cons, cellsQ_nil, X.cells, Qy.cells, X.args_mk, X.sub_mk, Qy.items_mk, Qy.wh_mk, xCol, xLit, xBin, xNeg]); exact wk At.pick_Choose [sqx (True ∧ (List.drop 1 (List.take (List.map (fun n => [iv n]) ps).length ps)).length = (List.map icell (List.drop 1 (List.take (List.map (fun n => [iv n]) ps).length ps))).length ∧ True), sg hA, sb hB, se (el_ip0 (ps) (by first | assumption | omega | (simp; done) | (simp only [Short, List.length_drop, List.length_take] at *; omega))), sx (.i ((ps.headD (0 : Int)).tmod n)) (show n ≠ (0 : Int) ∧ ((ps.headD (0 : Int)).tmod n : Int) = (ps.headD (0 : Int)).tmod n from ⟨(by simp at hA; omega), rfl⟩), sb h1, si (e := IntKind.i64.wrap ((ps.headD 0).tmod n + n)) rfl, sqx (SubAt (List.map (fun n => [iv n]) ps) 1 (↑(List.map (fun n => [iv n]) ps).length : Int) 1), sc (conv (args := [AV.sl (List.drop (Int.toNat 1) (List.take (↑(List.map (fun n => [iv n]) ps).length : Int).toNat (List.map (fun n => [iv n]) ps)))]) (hl := []) (k_slices_Clone_int (List.drop 1 (List.take (List.map (fun n => [iv n]) ps).length ps)) (by first | assumption | omega | (simp; done) | (simp only [Short, List.length_drop, List.length_take] at *; omega))) (by first | rfl | (rw [List.take_of_length_le (by simp)]; simp; done) | (simp; done)) (by first | rfl | (rw [List.take_of_length_le (by simp)]; simp; done) | (simp; done)))] (by kernel_rfl))
/-- pick.Choose -/
def pkChoose (n : Int) (ps : List Int) : Int × List Int := bif decide (n < 2) then (0, ps) else match ps with
  | [] => (0, [])
  | p :: r => (bif decide (p.tmod n < 0) then IntKind.i64.wrap (p.tmod n + n) else p.tmod n, r)
theorem k_pick_Choose (n : Int) (ps : List Int) (hl : Short ps) : ACallsTo E0 S.pick_Choose [iv n, isl ps] [] (.tup [iv (pkChoose n ps).1, isl (pkChoose n ps).2]) [] := by
  unfold pkChoose
  cases h1 : decide (n < (2 : Int))
  · cases ps with
    | nil => exact c_pkC1 n [] hl h1 rfl
    | cons p r =>
      have hz : ((((p :: r).length : Nat) : Int) == 0) = false := by simp; omega
      have h := c_pkC2 n (p :: r) hl h1 (by rw [List.length_map]; exact hz) ⟨by decide, by simp; omega, by simp, by simp⟩
      have e : pkC2 n (p :: r) = (bif decide (p.tmod n < 0) then IntKind.i64.wrap (p.tmod n + n) else p.tmod n, r) := by
        unfold pkC2
        simp only [List.headD_cons, List.length_map, hz, h1]
        by_cases hq : p.tmod n < 0 <;> simp [hq]
      rw [e] at h
      exact h
  · exact c_pkC0 n ps hl h1
end Go.AM

namespace Go.AM
set_option maxRecDepth 100000
set_option maxHeartbeats 1000000
set_option linter.unusedSimpArgs false
set_option linter.unusedVariables false
noncomputable def L_elO (its : List Im) (l : List Lk) (i : Nat) (out : List Int) : Cfg := loopAt B.pick_Eligible 0 [(0, .sl (its.map Im.cells)), (1, .sl (l.map Lk.cells)), (5, .own 0 out.length), (10, .sl (its.map Im.cells)), (11, iv ((its.map Im.cells).length : Nat)), (12, iv (i : Nat))] [.row Ty.int (out.map fun n => [iv n]) false]
/-- The item k goes ahead of the item i. -/
def blk (its : List Im) (l : List Lk) (i k : Nat) : Bool := k != i && match its[k]?, its[i]? with
  | some y, some x => oPrec l y.trig x.trig
  | _, _ => false
def freeB (its : List Im) (l : List Lk) (i : Nat) : Bool := (List.range its.length).all fun k => !blk its l i k
theorem blk_at {its : List Im} {l : List Lk} {i k : Nat} {x y : Im} (hx : its[i]? = some x) (hy : its[k]? = some y) : blk its l i k = (((k : Nat) : Int) != ((i : Nat) : Int) && oPrec l y.trig x.trig) := by
  unfold blk
  rw [hx, hy]
  have e : (k != i) = (((k : Nat) : Int) != ((i : Nat) : Int)) := by
    rw [Bool.eq_iff_iff, bne_iff_ne, bne_iff_ne]; omega
  rw [e]
noncomputable def L_elI (its : List Im) (l : List Lk) (io : Nat) (out : List Int) (xo : Im) (i : Nat)  : Cfg := loopAt B.pick_Eligible 1 [(0, .sl (its.map Im.cells)), (1, .sl (l.map Lk.cells)), (5, .own 0 out.length), (6, iv (io : Nat)), (7, .p 1 0), (10, .sl (its.map Im.cells)), (11, iv ((its.map Im.cells).length : Nat)), (12, iv (io : Nat)), (17, .sl (its.map Im.cells)), (18, iv ((its.map Im.cells).length : Nat)), (19, iv (i : Nat))] [.row Ty.int (out.map fun n => [iv n]) false, .box xo.cells]
theorem x_pick_Eligible__elI_loop (its : List Im) (l : List Lk) (io : Nat) (out : List Int) (xo : Im) (hl : Short l) (hxo : its[io]? = some xo) (hn : Short its) (i : Nat)  (hi : i ≤ (its).length) (hI : ∀ k, k < i → blk its l io k = false) : ∃ (i' : Nat) , (∀ k, k < i' → blk its l io k = false) ∧ (decide (((i' : Nat) : Int) < (((its.map Im.cells).length : Nat) : Int)) = true → (((i' : Nat) : Int) != ((io : Nat) : Int)) = true) ∧ (∀ y : Im, its[i']? = some y → decide (((i' : Nat) : Int) < (((its.map Im.cells).length : Nat) : Int)) = true → oPrec l y.trig xo.trig = true) ∧ ∀ R, Good E0 B.pick_Eligible [] (L_elI its l io out xo i' ) R → Good E0 B.pick_Eligible [] (L_elI its l io out xo i ) R := by
  obtain ⟨kk, hk⟩ : ∃ kk, i + kk = (its).length := ⟨(its).length - i, by omega⟩
  induction kk generalizing i  with
  | zero =>
    have e0 : i = (its).length := by omega
    subst e0
    exact ⟨(its).length, hI, by simp, by simp, fun R hg => hg⟩
  | succ kk ih =>
    obtain ⟨x, hx⟩ := ex_at (l := its) (i := i) (by omega)
    have h0 : decide (((i : Nat) : Int) < (((its.map Im.cells).length : Nat) : Int)) = true := by simp; omega
    have hw : IntKind.i64.wrap (((i : Nat) : Int) + 1) = ((i + 1 : Nat) : Int) := wrap_nat i (by first | omega | (simp only [Short, Few] at *; omega))
    have hbe := blk_at (l := l) hxo hx
    cases hb : blk its l io i with
    | true =>
      rw [hb] at hbe
      have hbe := hbe.symm
      simp only [Bool.and_eq_true] at hbe
      exact ⟨i, hI, fun _ => hbe.1, fun y hy _ => (by rw [hx] at hy; cases hy; exact hbe.2), fun R hg => hg⟩
    | false =>
    have hnb : (((i : Nat) : Int) != ((io : Nat) : Int)) = true → oPrec l x.trig xo.trig = false := fun h => by rw [hb, h] at hbe; simpa using hbe.symm
    cases h1 : (↑i : Int) != (↑io : Int)
    · obtain ⟨ixZ, qZ, xaZ, xbZ, gZ⟩ := ih (i + 1) (by omega) (by intro k hk; by_cases hki : k = i; (rw [hki]; exact hb); exact hI k (by omega)) (by omega); exact ⟨ixZ, qZ, xaZ, xbZ, fun R hg => good_unroll (wkl [sb h0, se (elAt_map (Im.cells) hx rfl), sb h1, si hw] [0, 1, 5, 6, 7, 10, 11, 12, 17, 18, 19] 2 (by kernel_rfl) (gZ R hg))⟩
    · obtain ⟨ixZ, qZ, xaZ, xbZ, gZ⟩ := ih (i + 1) (by omega) (by intro k hk; by_cases hki : k = i; (rw [hki]; exact hb); exact hI k (by omega)) (by omega); exact ⟨ixZ, qZ, xaZ, xbZ, fun R hg => good_unroll (wkl [sb h0, se (elAt_map (Im.cells) hx rfl), sg h1, sc (k_order_Precedes (l) (x.trig) (xo.trig) (by first | assumption | omega | (simp; done) | (simp; omega))), sb (hnb h1), si hw] [0, 1, 5, 6, 7, 10, 11, 12, 17, 18, 19] 2 (by kernel_rfl) (gZ R hg))⟩
def eligible (its : List Im) (l : List Lk) (n : Nat) : List Int := ((List.range n).filter (freeB its l)).map fun (k : Nat) => (k : Int)
theorem eligible_len (its : List Im) (l : List Lk) (n : Nat) : (eligible its l n).length ≤ n := by
  unfold eligible
  rw [List.length_map]
  exact Nat.le_trans (List.length_filter_le _ _) (by simp)
theorem eligible_succ (its : List Im) (l : List Lk) (n : Nat) : eligible its l (n + 1) = eligible its l n ++ (bif freeB its l n then [(n : Int)] else []) := by
  unfold eligible
  rw [List.range_succ, List.filter_append, List.map_append]
  simp only [List.filter_cons, List.filter_nil]
  cases freeB its l n <;> rfl
theorem el_free {its : List Im} {l : List Lk} {i : Nat} (h : ∀ k, k < its.length → blk its l i k = false) : freeB its l i = true := by
  unfold freeB
  rw [List.all_eq_true]
  intro k hk
  rw [h k (by simpa using hk)]; rfl
theorem el_blocked {its : List Im} {l : List Lk} {i k : Nat} {x y : Im} (hx : its[i]? = some x) (hy : its[k]? = some y) (h1 : (((k : Nat) : Int) != ((i : Nat) : Int)) = true) (h2 : oPrec l y.trig x.trig = true) : freeB its l i = false := by
  have h : blk its l i k = true := by rw [blk_at hx hy, h1, h2]; rfl
  unfold freeB
  rw [List.all_eq_false]
  exact ⟨k, by simp; exact at_lt hy, by rw [h]; simp⟩
theorem x_pick_Eligible__elO_loop (its : List Im) (l : List Lk) (hl : Short l) (hn : Short its) (i : Nat) (out : List Int) (hi : i ≤ (its).length) (hI : out = eligible its l i) : ∃ (out' : List Int), (out' = eligible its l (its).length) ∧ (decide ((((its).length : Nat) : Int) < (((its.map Im.cells).length : Nat) : Int)) = false) ∧ ∀ R, Good E0 B.pick_Eligible [] (L_elO its l (its).length out') R → Good E0 B.pick_Eligible [] (L_elO its l i out) R := by
  obtain ⟨kk, hk⟩ : ∃ kk, i + kk = (its).length := ⟨(its).length - i, by omega⟩
  induction kk generalizing i out with
  | zero =>
    have e0 : i = (its).length := by omega
    subst e0
    exact ⟨out, hI, by simp, fun R hg => hg⟩
  | succ kk ih =>
    obtain ⟨x, hx⟩ := ex_at (l := its) (i := i) (by omega)
    have h0 : decide (((i : Nat) : Int) < (((its.map Im.cells).length : Nat) : Int)) = true := by simp; omega
    have hw : IntKind.i64.wrap (((i : Nat) : Int) + 1) = ((i + 1 : Nat) : Int) := wrap_nat i (by first | omega | (simp only [Short, Few] at *; omega))
    have hol : out.length ≤ i := by rw [hI]; exact eligible_len its l i
    obtain ⟨i1, q1, q1_1, q1_2, g1⟩ := x_pick_Eligible__elI_loop (its) (l) (i) (out) (x) (by first | assumption | omega | (intro k hk; omega) | (simp; done) | (simp at *; omega)) (by first | assumption | omega | (intro k hk; omega) | (simp; done) | (simp at *; omega)) (by first | assumption | omega | (intro k hk; omega) | (simp; done) | (simp at *; omega)) (0) (by first | assumption | omega | (intro k hk; omega) | (simp; done) | (simp at *; omega)) (by first | assumption | omega | (intro k hk; omega) | (simp; done) | (simp at *; omega))
    cases h2 : decide ((↑i1 : Int) < (↑(List.map Im.cells its).length : Int))
    · obtain ⟨outZ, qZ, xZ, gZ⟩ := ih (i + 1) (out ++ [(↑i : Int)]) (by omega) (by first | (rw [eligible_succ, el_free (fun k hk => q1 k (by simp at h2; omega)), hI]; rfl) | (rw [eligible_succ, el_blocked hx e3 (q1_1 h2) (q1_2 _ e3 h2), hI]; simp)) (by omega); exact ⟨outZ, qZ, xZ, fun R hg => good_unroll (wkl [sb h0, se (elAt_map (Im.cells) hx rfl)] [0, 1, 5, 6, 7, 10, 11, 12, 17, 18, 19] 2 (by kernel_rfl) (g1 _ (good_unroll (wkl (c' := (Cfg.mk (L_elO its l (i + 1) (out ++ [(↑i : Int)])).n (L_elO its l (i + 1) (out ++ [(↑i : Int)])).todo [(0, AV.sl (List.map Im.cells its)), (1, AV.sl (List.map Lk.cells l)), (5, AV.own 0 (List.map (fun n => [iv n]) out ++ [[iv (↑i : Int)]]).length), (10, AV.sl (List.map Im.cells its)), (11, iv (↑(List.map Im.cells its).length : Int)), (12, iv (↑(i + 1) : Int))] [Blk.row Ty.int (List.map (fun n => [iv n]) out ++ [[iv (↑i : Int)]]) false])) [sb h2, sqx (AllLen [[iv (↑i : Int)]] 1 ∧ out.length = (List.map (fun n => [iv n]) out).length ∧ (((List.map (fun n => [iv n]) out).length + [[iv (↑i : Int)]].length) * 8).le 140737488355328), si hw] [0, 1, 5, 10, 11, 12] 1 (by kernel_rfl) (good_same (show ([(0, AV.sl (List.map Im.cells its)), (1, AV.sl (List.map Lk.cells l)), (5, AV.own 0 (List.map (fun n => [iv n]) out ++ [[iv (↑i : Int)]]).length), (10, AV.sl (List.map Im.cells its)), (11, iv (↑(List.map Im.cells its).length : Int)), (12, iv (↑(i + 1) : Int))] : TS) = [(0, AV.sl (List.map Im.cells its)), (1, AV.sl (List.map Lk.cells l)), (5, AV.own 0 (out ++ [(↑i : Int)]).length), (10, AV.sl (List.map Im.cells its)), (11, iv (↑(List.map Im.cells its).length : Int)), (12, iv (↑(i + 1) : Int))] by first | rfl | (simp; done) | (simp [X.cells, Qy.cells, V.cells, Col.cells, Rw.cells, Tb.cells, Fr.cells, Sch.cells, Tp.cells, Pl.cells, xCol, xLit, xBin, xNeg]; done)) (show ([Blk.row Ty.int (List.map (fun n => [iv n]) out ++ [[iv (↑i : Int)]]) false] : Heap) = [Blk.row Ty.int (List.map (fun n => [iv n]) (out ++ [(↑i : Int)])) false] by first | rfl | (simp; done) | (simp [X.cells, Qy.cells, V.cells, Col.cells, Rw.cells, Tb.cells, Fr.cells, Sch.cells, Tp.cells, Pl.cells, xCol, xLit, xBin, xNeg]; done)) (gZ R hg))))))⟩
    · obtain ⟨x3, e3⟩ := ex_at (l := its) (i := i1) (by first | assumption | omega | (intro k hk; omega) | (simp; done) | (simp at *; omega))
      obtain ⟨outZ, qZ, xZ, gZ⟩ := ih (i + 1) (out) (by omega) (by first | (rw [eligible_succ, el_free (fun k hk => q1 k (by simp at h2; omega)), hI]; rfl) | (rw [eligible_succ, el_blocked hx e3 (q1_1 h2) (q1_2 _ e3 h2), hI]; simp)) (by omega); exact ⟨outZ, qZ, xZ, fun R hg => good_unroll (wkl [sb h0, se (elAt_map (Im.cells) hx rfl)] [0, 1, 5, 6, 7, 10, 11, 12, 17, 18, 19] 2 (by kernel_rfl) (g1 _ (good_unroll (wkl [sb h2, se (elAt_map (Im.cells) e3 rfl), sg (q1_1 h2), sc (k_order_Precedes (l) (x3.trig) (x.trig) (by first | assumption | omega | (intro k hk; omega) | (simp; done) | (simp at *; omega))), sb (q1_2 (x3) e3 h2), si hw] [0, 1, 5, 10, 11, 12] 1 (by kernel_rfl) (gZ R hg)))))⟩
theorem c_Eligible (its : List Im) (l : List Lk) (hl : Short l) (hn : Short its) : ∃ (r : List Int), r = eligible its l its.length ∧ ACallsTo E0 S.pick_Eligible [.sl (its.map Im.cells), .sl (l.map Lk.cells)] [] (isl r) [] := by
  obtain ⟨out1, q1, q1_1, g1⟩ := x_pick_Eligible__elO_loop (its) (l) (by first | assumption | rfl | omega) (by first | assumption | rfl | omega) (0) ([]) (by first | assumption | rfl | omega) (by first | assumption | rfl | omega)
  exact ⟨out1, by first | assumption | trivial | (simp; done) | omega | (simp; omega) | (simp at *; omega), wkc At.pick_Eligible (c' := (Cfg.mk (L_elO its l 0 []).n (L_elO its l 0 []).todo [(0, AV.sl (List.map Im.cells its)), (1, AV.sl (List.map Lk.cells l)), (5, AV.nl), (10, AV.sl (List.map Im.cells its)), (11, iv (↑(List.map Im.cells its).length : Int)), (12, iv 0)] [])) [] [0, 1, 5, 10, 11, 12] 0 (by kernel_rfl) (good_ownCut (c' := L_elO its l 0 []) 5 Ty.int [0, 1, 5, 10, 11, 12] 1 (by kernel_rfl) (by kernel_rfl) (by kernel_rfl) (g1 _ (good_unroll (wkr [sqx (out1.length = (List.map (fun n => [iv n]) out1).length), sb q1_1] (by kernel_rfl)))))⟩
theorem k_pick_Eligible (its : List Im) (l : List Lk) (hl : Short l) (hn : Short its) : ACallsTo E0 S.pick_Eligible [.sl (its.map Im.cells), .sl (l.map Lk.cells)] [] (isl (eligible its l its.length)) [] := by
  obtain ⟨r, rfl, h⟩ := c_Eligible its l hl hn
  exact h
/-- The item that is chosen. -/
def chosen (its : List Im) (l : List Lk) (ps : List Int) : Nat := ((List.range its.length).filter (freeB its l)).getD (pkChoose (((((eligible its l its.length).map fun n => [iv n]).length : Nat) : Int)) ps).1.toNat 0
theorem pkChoose_lt (n : Nat) (ps : List Int) (hn : 0 < n) (hs : n ≤ 1000000000) : 0 ≤ (pkChoose n ps).1 ∧ (pkChoose n ps).1 < n := by
  unfold pkChoose
  by_cases h2 : (n : Int) < 2
  · rw [decide_eq_true h2, cond_true]; omega
  · rw [decide_eq_false h2, cond_false]
    cases ps with
    | nil => simp; omega
    | cons p r =>
      have h1 := Int.tmod_lt_of_pos p (show (0 : Int) < n by omega)
      have h3 : -(n : Int) < p.tmod n := by
        have := Int.tmod_lt_of_pos (-p) (show (0 : Int) < n by omega)
        rw [Int.neg_tmod] at this; omega
      by_cases hq : p.tmod n < 0
      · simp only [hq, decide_true, cond_true]
        rw [IntKind.wrap_i64]; omega
      · simp only [hq, decide_false, cond_false]; omega
theorem chosen_lt (its : List Im) (l : List Lk) (ps : List Int) (h : 0 < its.length) : chosen its l ps < its.length := by
  unfold chosen
  rw [List.getD_eq_getElem?_getD]
  cases hx : ((List.range its.length).filter (freeB its l))[(pkChoose (((((eligible its l its.length).map fun n => [iv n]).length : Nat) : Int)) ps).1.toNat]? with
  | none => exact h
  | some x =>
    have := List.mem_of_getElem? hx
    rw [List.mem_filter, List.mem_range] at this
    exact this.1
theorem el_elig (its : List Im) (l : List Lk) (ps : List Int) (hn : Short its) (h : (((((eligible its l its.length).map fun n => [iv n]).length : Nat) : Int) == 0) = false) :
    ElAt ((eligible its l its.length).map fun n => [iv n]) (pkChoose (((((eligible its l its.length).map fun n => [iv n]).length : Nat) : Int)) ps).1 [iv ((chosen its l ps : Nat) : Int)] 1 := by
  have h0 : 0 < (eligible its l its.length).length := by
    rw [List.length_map] at h
    have : ((eligible its l its.length).length : Int) ≠ 0 := by simpa using h
    omega
  have hl := eligible_len its l its.length
  have hp := pkChoose_lt (eligible its l its.length).length ps h0 (by simp only [Short] at hn; omega)
  refine ⟨by rw [List.length_map]; exact hp.1, ?_, rfl⟩
  unfold chosen
  simp only [List.length_map] at *
  have he : eligible its l its.length = ((List.range its.length).filter (freeB its l)).map fun (k : Nat) => (k : Int) := rfl
  have hle : (eligible its l its.length).length = ((List.range its.length).filter (freeB its l)).length := by rw [he, List.length_map]
  rw [List.getElem?_map]
  have hk : (pkChoose ((eligible its l its.length).length : Nat) ps).1.toNat < ((List.range its.length).filter (freeB its l)).length := by rw [← hle]; omega
  generalize (pkChoose ((eligible its l its.length).length : Nat) ps).1.toNat = q at hk
  rw [he, List.getElem?_map, List.getElem?_eq_getElem hk, List.getD_eq_getElem?_getD, List.getElem?_eq_getElem hk]
  rfl
end Go.AM

namespace Go.AM
set_option maxRecDepth 100000
set_option maxHeartbeats 1000000
set_option linter.unusedSimpArgs false
set_option linter.unusedVariables false
theorem c_Delete (xs : List (List AV)) (n k i : Nat) (hn : n = xs.length) (hz : ((((i : Nat) : Int) == ((i + 1 : Nat) : Int))) = false) (hA : OwnCut xs n 0 ((i : Nat) : Int) ((i + 1 : Nat) : Int) ∧ ((i + 1 : Nat) : Int) ≤ ((k - 0 : Nat) : Int) ∧ ((k - 0 : Nat) : Int).toNat ≤ n) (hB : OwnCut xs n 0 0 ((i : Nat) : Int)) (hC : OwnCut xs n 0 ((i + 1 : Nat) : Int) ((k - 0 : Nat) : Int)) (hD : n = xs.length ∧ AllLen (List.drop (((i + 1 : Nat) : Int)).toNat (List.take (((k - 0 : Nat) : Int)).toNat xs)) 11 ∧ n = xs.length ∧ (((i : Nat) : Int).toNat + (List.drop (((i + 1 : Nat) : Int)).toNat (List.take (((k - 0 : Nat) : Int)).toNat xs)).length) ≤ n) (hE : n = (layXs xs i (List.drop (((i + 1 : Nat) : Int)).toNat (List.take (((k - 0 : Nat) : Int)).toNat xs))).length) (hF : OwnCut (layXs xs i (List.drop (((i + 1 : Nat) : Int)).toNat (List.take (((k - 0 : Nat) : Int)).toNat xs))) n 0 ((((((i : Nat) : Int).toNat + (List.drop (((i + 1 : Nat) : Int)).toNat (List.take (((k - 0 : Nat) : Int)).toNat xs)).length) - 0 : Nat)) : Int) ((k - 0 : Nat) : Int)) : ∃ (m : Nat) (ys : List (List AV)), (m = (((i : Nat) : Int).toNat + (List.drop (((i + 1 : Nat) : Int)).toNat (List.take (((k - 0 : Nat) : Int)).toNat xs)).length) ∧ ys = layXs (layXs xs i (List.drop (((i + 1 : Nat) : Int)).toNat (List.take (((k - 0 : Nat) : Int)).toNat xs))) ((((i : Nat) : Int).toNat + (List.drop (((i + 1 : Nat) : Int)).toNat (List.take (((k - 0 : Nat) : Int)).toNat xs)).length) - 0) (List.replicate (((k - 0 : Nat) : Int).toNat - (((((i : Nat) : Int).toNat + (List.drop (((i + 1 : Nat) : Int)).toNat (List.take (((k - 0 : Nat) : Int)).toNat xs)).length) - 0 : Nat) : Int).toNat) (frzL [] (E0.T Ty.Trigger).zero))) ∧ ACallsTo E0 S.slices_Delete_Trigger [.os 0 n 0 k, iv i, iv ((i + 1 : Nat) : Int)] [.row Ty.Trigger xs false] (.os 0 n 0 m) [.row Ty.Trigger ys false] := by
  exact ⟨(↑i : Int).toNat + 0 + (List.drop ((↑(i + 1) : Int).toNat + 0) (List.take ((↑(k - 0) : Int).toNat + 0) xs)).length, layXs (layXs xs i (List.drop ((↑(i + 1) : Int).toNat + 0) (List.take ((↑(k - 0) : Int).toNat + 0) xs))) ((↑i : Int).toNat + 0 + (List.drop ((↑(i + 1) : Int).toNat + 0) (List.take ((↑(k - 0) : Int).toNat + 0) xs)).length - 0) (List.replicate ((↑(k - 0) : Int).toNat + 0 - ((↑((↑i : Int).toNat + 0 + (List.drop ((↑(i + 1) : Int).toNat + 0) (List.take ((↑(k - 0) : Int).toNat + 0) xs)).length - 0) : Int).toNat + 0)) (frzL [] (E0.T Ty.Trigger).zero)), by exact ⟨rfl, rfl⟩, wkK At.slices_Delete_Trigger [sqx (n = xs.length), sqx (OwnCut xs n 0 (↑i : Int) (↑(i + 1) : Int) ∧ ((↑(k - 0) : Int) - (↑(i + 1) : Int)).NonNeg ∧ ((↑(k - 0) : Int).toNat + 0).le n), sb hz, sqx (n = xs.length), sdp [(2, [sqx (OwnCut xs n 0 0 (↑i : Int))]), (5, [sqx (OwnCut xs n 0 (↑(i + 1) : Int) (↑(k - 0) : Int))]), (6, [sqx (n = xs.length ∧ AllLen (List.drop ((↑(i + 1) : Int).toNat + 0) (List.take ((↑(k - 0) : Int).toNat + 0) xs)) 11 ∧ n = xs.length ∧ ((↑i : Int).toNat + 0 + (List.drop ((↑(i + 1) : Int).toNat + 0) (List.take ((↑(k - 0) : Int).toNat + 0) xs)).length).le n)])] [[5, 2, 6]] [(0, AV.os 0 n 0 ((↑i : Int).toNat + 0 + (List.drop ((↑(i + 1) : Int).toNat + 0) (List.take ((↑(k - 0) : Int).toNat + 0) xs)).length)), (1, iv (↑i : Int)), (2, iv (↑(i + 1) : Int)), (6, AV.nl), (7, iv (↑(k - 0) : Int)), (8, AV.os 0 n 0 k), (9, iv (↑i : Int)), (10, iv (↑(i + 1) : Int)), (11, AV.os 0 n 0 k), (12, iv (↑(k - 0) : Int)), (13, AV.un), (14, iv (↑i : Int)), (15, iv (↑(i + 1) : Int)), (16, AV.bl false), (18, AV.os 0 n 0 k), (19, iv (↑(k - 0) : Int)), (20, AV.os 0 n 0 k), (21, iv (↑i : Int)), (22, AV.os 0 n 0 ((↑i : Int).toNat + 0)), (23, AV.os 0 n 0 k), (24, iv (↑(i + 1) : Int)), (25, AV.os 0 n ((↑(i + 1) : Int).toNat + 0) ((↑(k - 0) : Int).toNat + 0)), (26, AV.os 0 n 0 ((↑i : Int).toNat + 0 + (List.drop ((↑(i + 1) : Int).toNat + 0) (List.take ((↑(k - 0) : Int).toNat + 0) xs)).length))] [Blk.row Ty.Trigger (layXs xs i (List.drop ((↑(i + 1) : Int).toNat + 0) (List.take ((↑(k - 0) : Int).toNat + 0) xs))) false], sqx (n = (layXs xs i (List.drop ((↑(i + 1) : Int).toNat + 0) (List.take ((↑(k - 0) : Int).toNat + 0) xs))).length), sqx (OwnCut (layXs xs i (List.drop ((↑(i + 1) : Int).toNat + 0) (List.take ((↑(k - 0) : Int).toNat + 0) xs))) n 0 (↑((↑i : Int).toNat + 0 + (List.drop ((↑(i + 1) : Int).toNat + 0) (List.take ((↑(k - 0) : Int).toNat + 0) xs)).length - 0) : Int) (↑(k - 0) : Int)), sqx (n = (layXs xs i (List.drop ((↑(i + 1) : Int).toNat + 0) (List.take ((↑(k - 0) : Int).toNat + 0) xs))).length)] (by kernel_rfl)⟩
theorem drop_cons_at {α : Type} {l : List α} {i k : Nat} (hi : i < k) (hk : k ≤ l.length) : (l.take k).eraseIdx i = l.take i ++ (l.take k).drop (i + 1) := by
  rw [List.eraseIdx_eq_take_drop_succ, List.take_take, Nat.min_eq_left (by omega)]
/-- slices.Delete of the i-th of the first k elements. -/
theorem x_slices_Delete_Trigger (cur : List Tg) (rest : List (List AV)) (n i : Nat) (hn : n = (cur.map Tg.cells ++ rest).length) (hi : i < cur.length) (hr : ∀ c ∈ rest, c.length = 11) : ∃ (rest' : List (List AV)), (n = ((cur.eraseIdx i).map Tg.cells ++ rest').length ∧ ∀ c ∈ rest', c.length = 11) ∧
    ACallsTo E0 S.slices_Delete_Trigger [.os 0 n 0 cur.length, iv i, iv ((i + 1 : Nat) : Int)] [.row Ty.Trigger (cur.map Tg.cells ++ rest) false] (.os 0 n 0 (cur.eraseIdx i).length) [.row Ty.Trigger ((cur.eraseIdx i).map Tg.cells ++ rest') false] := by
  obtain ⟨k, hk⟩ : ∃ k, k = cur.length := ⟨_, rfl⟩
  obtain ⟨xs, hxs⟩ : ∃ xs, xs = cur.map Tg.cells ++ rest := ⟨_, rfl⟩
  have hxl : ∀ c ∈ xs, c.length = 11 := fun c hc => by
    rw [hxs, List.mem_append, List.mem_map] at hc
    rcases hc with ⟨x, _, rfl⟩ | hc
    · rfl
    · exact hr c hc
  rw [← hxs] at hn
  have hkn : k ≤ n := by rw [hn, hxs, hk]; simp
  have hz : ((((i : Nat) : Int) == ((i + 1 : Nat) : Int))) = false := by rw [beq_eq_false_iff_ne]; omega
  have hc0 := c_Delete xs n k i hn hz
  have e1 : (List.drop (((i + 1 : Nat) : Int)).toNat (List.take (((k - 0 : Nat) : Int)).toNat xs)) = (xs.take k).drop (i + 1) := by simp
  rw [e1] at hc0
  generalize hPe : (xs.take k).drop (i + 1) = P at hc0
  have hPl : P.length = k - (i + 1) := by rw [← hPe]; simp; omega
  rw [← hk] at hi
  have hM : ((i : Nat) : Int).toNat + P.length = k - 1 := by rw [hPl]; simp; omega
  rw [hM] at hc0
  have hlx : (layXs xs i P).length = n := by rw [layXs_length (by rw [hPl]; omega), hn]
  have hPc : ∀ c ∈ P, c.length = 11 := fun c hc => hxl c (by rw [← hPe] at hc; exact List.mem_of_mem_take (List.mem_of_mem_drop hc))
  have hYt : (layXs xs i P).take (k - 1) = (xs.take k).eraseIdx i := by
    rw [drop_cons_at hi (by omega), hPe]
    unfold layXs
    rw [← List.append_assoc, List.take_append_of_le_length (by simp; omega), List.take_of_length_le (by simp; omega)]
  have hYc : ∀ c ∈ layXs xs i P, c.length = 11 := fun c hc => by
    unfold layXs at hc
    simp only [List.mem_append] at hc
    rcases hc with hc | hc | hc
    · exact hxl c (List.mem_of_mem_take hc)
    · exact hPc c hc
    · exact hxl c (List.mem_of_mem_drop hc)
  generalize hYe : layXs xs i P = Y at *
  obtain ⟨m, ys, ⟨hm, hy⟩, hc⟩ := hc0 ⟨⟨hn, by omega, by omega, by simp; omega⟩, by omega, by simp; omega⟩ ⟨hn, by omega, by omega, by simp; omega⟩ ⟨hn, by omega, by omega, by simp; omega⟩ ⟨hn, ⟨hPc⟩, hn, by omega⟩ hlx.symm ⟨hlx.symm, by omega, by omega, by simp; omega⟩
  have hz1 : ((k - 0 : Nat) : Int).toNat - ((k - 1 - 0 : Nat) : Int).toNat = 1 := by simp; omega
  rw [hz1] at hy
  have hyl : ys.length = n := by rw [hy, layXs_length (by simp; omega), hlx]
  have hz11 : (frzL [] (E0.T Ty.Trigger).zero).length = 11 := by rw [frz_length]; kernel_rfl
  have hyc : ∀ c ∈ ys, c.length = 11 := fun c hc => by
    rw [hy] at hc
    unfold layXs at hc
    simp only [List.mem_append, List.mem_replicate] at hc
    rcases hc with hc | hc | hc
    · exact hYc c (List.mem_of_mem_take hc)
    · rw [hc.2]; exact hz11
    · exact hYc c (List.mem_of_mem_drop hc)
  have hyt : ys.take (k - 1) = (cur.eraseIdx i).map Tg.cells := by
    have h1 : ys.take (k - 1) = Y.take (k - 1) := by
      rw [hy]
      unfold layXs
      rw [Nat.sub_zero, List.take_append_of_le_length (by simp; omega), List.take_take, Nat.min_self]
    have e2 : xs.take k = cur.map Tg.cells := by rw [hxs, hk]; exact List.take_left' (by simp)
    rw [h1, hYt, e2, List.eraseIdx_eq_take_drop_succ, List.eraseIdx_eq_take_drop_succ, List.map_append, List.map_take, List.map_drop]
  have hel : (cur.eraseIdx i).length = k - 1 := by rw [List.length_eraseIdx, if_pos (by omega), hk]
  have hyd : ys = (cur.eraseIdx i).map Tg.cells ++ ys.drop (k - 1) := by rw [← hyt, List.take_append_drop]
  refine ⟨ys.drop (k - 1), ⟨by rw [← hyd, hyl], fun c hc => hyc c (List.mem_of_mem_drop hc)⟩, ?_⟩
  rw [← hyd, hel, ← hm, ← hxs, ← hk]
  exact hc
theorem cloValue_f (l : List (V)) (hl : Short l) : Good E0 B.slices_Clone_Value [.row Ty.Value (l.map V.cells) false] (nilBack (uptoZ B.slices_Clone_Value [.own 0 l.length] [.row Ty.Value (l.map V.cells) false] 1) false) (fun r h => r = .own 1 l.length ∧ h = [.row Ty.Value (l.map V.cells) false, .row Ty.Value (l.map V.cells) false]) :=
  toRetK E0ok mix0 3000 (y := AV.own 1 (List.map V.cells l).length) (H := [Blk.row Ty.Value (List.map V.cells l) false, Blk.row Ty.Value (List.map V.cells l) false]) [sb (rfl : false = false), sq (show l.length = (List.map V.cells l).length ∧ AllLen (List.map V.cells l) 3 ∧ ((List.map V.cells l).length * 32).le 140737488355328 from ⟨by simp, ⟨by simp⟩, by simp; omega⟩)] (by kernel_rfl) (⟨by simp, rfl⟩)
theorem cloValue_t : Good E0 B.slices_Clone_Value [.row Ty.Value [] false] (nilBack (uptoZ B.slices_Clone_Value [.own 0 0] [.row Ty.Value [] false] 1) true) (fun r h => r = .nl ∧ h = [.row Ty.Value [] false]) :=
  toRetK E0ok mix0 3000 (y := AV.nl) (H := [.row Ty.Value [] false]) [sb (rfl : true = true)] (by kernel_rfl) (⟨rfl, rfl⟩)
theorem k_slices_Clone_Value__own (l : List (V)) (hl : Short l) : ACallsTo E0 S.slices_Clone_Value [.own 0 l.length] [.row Ty.Value (l.map V.cells) false] (.own 1 l.length) [.row Ty.Value (l.map V.cells) false, .row Ty.Value (l.map V.cells) false] := by
  refine acalls_of_good At.slices_Clone_Value rfl (by kernel_rfl) (Nat.le_of_ble_eq_true (by kernel_rfl)) (toLoop E0ok mix0 3000 [] (List.range 40) 1 (c' := uptoZ B.slices_Clone_Value [.own 0 l.length] [.row Ty.Value (l.map V.cells) false] 1) (by kernel_rfl) (by kernel_rfl) (good_nilO E0ok (xs := l.map V.cells) (n := l.length) (e := true) (by kernel_rfl) (by simp) fun b hb => ?_))
  cases b with
  | false => exact cloValue_f l hl
  | true =>
    cases l with
    | nil => exact good_retOwn Ty.Value cloValue_t ⟨rfl, rfl⟩
    | cons x r => exact absurd (hb (by simp)) (by simp)
def tFrames (t : Tg) (s : Sch) (a b : List V) : (List Fr) :=
  bif !t.each then
    []
  else
    bif t.event == 2 then
      bif t.event == 1 then
        [Fr.mk (ByteArray.mk #[79, 76, 68]) true s.cols a, Fr.mk (ByteArray.mk #[78, 69, 87]) true s.cols b]
      else
        [Fr.mk (ByteArray.mk #[79, 76, 68]) true s.cols a, Fr.mk (ByteArray.mk #[78, 69, 87]) true s.cols b]
    else
      bif t.event == 3 then
        bif t.event == 1 then
          [Fr.mk (ByteArray.mk #[79, 76, 68]) true s.cols a, Fr.mk (ByteArray.mk #[78, 69, 87]) true s.cols b]
        else
          [Fr.mk (ByteArray.mk #[79, 76, 68]) true s.cols a]
      else
        bif t.event == 1 then
          [Fr.mk (ByteArray.mk #[78, 69, 87]) true s.cols b]
        else
          []
theorem k_trigger_Frames__own (t : Tg) (s : Sch) (a b : List V) (hs : Short s.cols) (ha : Short a) (hb : Short b) : ACallsTo E0 S.trigger_Frames [t.av, s.av, vsl a, .own 0 b.length] [.row Ty.Value (b.map V.cells) false] (fsl (tFrames t s a b)) [.row Ty.Value (b.map V.cells) false] := by
  unfold tFrames
  cases h1 : !t.each
  · cases h2 : t.event == 2
    · cases h3 : t.event == 3
      · cases h4 : t.event == 1
        · exact wk At.trigger_Frames [sb h1, sg h2, sb h3, sg h4, sb h2] (by kernel_rfl)
        · exact (by (try simp only [X.av, Qy.av, V.av, Tb.av, Sch.av, Pl.av, xsl, fsl, vsl, tsl, List.map_append, List.map_cons, List.map_nil, V.cells, Col.cells, Rw.cells, Tb.cells, Fr.cells, Sch.cells, Pl.cells, cellsX_app, cellsX_cons, cellsX_nil, cellsQ_cons, cellsQ_nil, X.cells, Qy.cells, X.args_mk, X.sub_mk, Qy.items_mk, Qy.wh_mk, xCol, xLit, xBin, xNeg]); exact wk At.trigger_Frames [sqx (1 = 1), sb h1, sg h2, sb h3, sb h4, sc (k_slices_Clone_Column (s.cols) (by first | assumption | omega | (simp; done) | (simp; omega))), sl [0] (k_slices_Clone_Value__own (b) (by first | assumption | omega | (simp; done) | (simp; omega))), sqx (True ∧ True ∧ s.cols.length = (List.map Col.cells s.cols).length ∧ b.length = (List.map V.cells b).length ∧ True), sqx (AllLen [[sv (ByteArray.mk #[78, 69, 87]), bv true, AV.sl (List.map Col.cells s.cols), AV.sl (List.map V.cells b)]] 4 ∧ Nat.le 72 140737488355328)] (by kernel_rfl))
      · cases h5 : t.event == 1
        · exact (by (try simp only [X.av, Qy.av, V.av, Tb.av, Sch.av, Pl.av, xsl, fsl, vsl, tsl, List.map_append, List.map_cons, List.map_nil, V.cells, Col.cells, Rw.cells, Tb.cells, Fr.cells, Sch.cells, Pl.cells, cellsX_app, cellsX_cons, cellsX_nil, cellsQ_cons, cellsQ_nil, X.cells, Qy.cells, X.args_mk, X.sub_mk, Qy.items_mk, Qy.wh_mk, xCol, xLit, xBin, xNeg]); exact wk At.trigger_Frames [sqx (1 = 1), sb h1, sg h2, sb h3, sc (k_slices_Clone_Column (s.cols) (by first | assumption | omega | (simp; done) | (simp; omega))), sc (k_slices_Clone_Value (a) (by first | assumption | omega | (simp; done) | (simp; omega))), sqx (True ∧ True ∧ s.cols.length = (List.map Col.cells s.cols).length ∧ a.length = (List.map V.cells a).length ∧ True), sqx (AllLen [[sv (ByteArray.mk #[79, 76, 68]), bv true, AV.sl (List.map Col.cells s.cols), AV.sl (List.map V.cells a)]] 4 ∧ Nat.le 72 140737488355328), sg h5, sb h2] (by kernel_rfl))
        · exact (by (try simp only [X.av, Qy.av, V.av, Tb.av, Sch.av, Pl.av, xsl, fsl, vsl, tsl, List.map_append, List.map_cons, List.map_nil, V.cells, Col.cells, Rw.cells, Tb.cells, Fr.cells, Sch.cells, Pl.cells, cellsX_app, cellsX_cons, cellsX_nil, cellsQ_cons, cellsQ_nil, X.cells, Qy.cells, X.args_mk, X.sub_mk, Qy.items_mk, Qy.wh_mk, xCol, xLit, xBin, xNeg]); exact wk At.trigger_Frames [sqx (2 = 2), sb h1, sg h2, sb h3, sc (k_slices_Clone_Column (s.cols) (by first | assumption | omega | (simp; done) | (simp; omega))), sc (k_slices_Clone_Value (a) (by first | assumption | omega | (simp; done) | (simp; omega))), sqx (True ∧ True ∧ s.cols.length = (List.map Col.cells s.cols).length ∧ a.length = (List.map V.cells a).length ∧ True), sqx (AllLen [[sv (ByteArray.mk #[79, 76, 68]), bv true, AV.sl (List.map Col.cells s.cols), AV.sl (List.map V.cells a)]] 4 ∧ Nat.le 72 140737488355328), sb h5, sc (k_slices_Clone_Column (s.cols) (by first | assumption | omega | (simp; done) | (simp; omega))), sl [0] (k_slices_Clone_Value__own (b) (by first | assumption | omega | (simp; done) | (simp; omega))), sqx (True ∧ True ∧ s.cols.length = (List.map Col.cells s.cols).length ∧ b.length = (List.map V.cells b).length ∧ True), sqx (AllLen [[sv (ByteArray.mk #[78, 69, 87]), bv true, AV.sl (List.map Col.cells s.cols), AV.sl (List.map V.cells b)]] 4 ∧ 1 = 1 ∧ Nat.le 144 140737488355328)] (by kernel_rfl))
    · cases h6 : t.event == 1
      · exact (by (try simp only [X.av, Qy.av, V.av, Tb.av, Sch.av, Pl.av, xsl, fsl, vsl, tsl, List.map_append, List.map_cons, List.map_nil, V.cells, Col.cells, Rw.cells, Tb.cells, Fr.cells, Sch.cells, Pl.cells, cellsX_app, cellsX_cons, cellsX_nil, cellsQ_cons, cellsQ_nil, X.cells, Qy.cells, X.args_mk, X.sub_mk, Qy.items_mk, Qy.wh_mk, xCol, xLit, xBin, xNeg]); exact wk At.trigger_Frames [sqx (2 = 2), sb h1, sb h2, sc (k_slices_Clone_Column (s.cols) (by first | assumption | omega | (simp; done) | (simp; omega))), sc (k_slices_Clone_Value (a) (by first | assumption | omega | (simp; done) | (simp; omega))), sqx (True ∧ True ∧ s.cols.length = (List.map Col.cells s.cols).length ∧ a.length = (List.map V.cells a).length ∧ True), sqx (AllLen [[sv (ByteArray.mk #[79, 76, 68]), bv true, AV.sl (List.map Col.cells s.cols), AV.sl (List.map V.cells a)]] 4 ∧ Nat.le 72 140737488355328), sg h6, sb h2, sc (k_slices_Clone_Column (s.cols) (by first | assumption | omega | (simp; done) | (simp; omega))), sl [0] (k_slices_Clone_Value__own (b) (by first | assumption | omega | (simp; done) | (simp; omega))), sqx (True ∧ True ∧ s.cols.length = (List.map Col.cells s.cols).length ∧ b.length = (List.map V.cells b).length ∧ True), sqx (AllLen [[sv (ByteArray.mk #[78, 69, 87]), bv true, AV.sl (List.map Col.cells s.cols), AV.sl (List.map V.cells b)]] 4 ∧ 1 = 1 ∧ Nat.le 144 140737488355328)] (by kernel_rfl))
      · exact (by (try simp only [X.av, Qy.av, V.av, Tb.av, Sch.av, Pl.av, xsl, fsl, vsl, tsl, List.map_append, List.map_cons, List.map_nil, V.cells, Col.cells, Rw.cells, Tb.cells, Fr.cells, Sch.cells, Pl.cells, cellsX_app, cellsX_cons, cellsX_nil, cellsQ_cons, cellsQ_nil, X.cells, Qy.cells, X.args_mk, X.sub_mk, Qy.items_mk, Qy.wh_mk, xCol, xLit, xBin, xNeg]); exact wk At.trigger_Frames [sqx (2 = 2), sb h1, sb h2, sc (k_slices_Clone_Column (s.cols) (by first | assumption | omega | (simp; done) | (simp; omega))), sc (k_slices_Clone_Value (a) (by first | assumption | omega | (simp; done) | (simp; omega))), sqx (True ∧ True ∧ s.cols.length = (List.map Col.cells s.cols).length ∧ a.length = (List.map V.cells a).length ∧ True), sqx (AllLen [[sv (ByteArray.mk #[79, 76, 68]), bv true, AV.sl (List.map Col.cells s.cols), AV.sl (List.map V.cells a)]] 4 ∧ Nat.le 72 140737488355328), sb h6, sc (k_slices_Clone_Column (s.cols) (by first | assumption | omega | (simp; done) | (simp; omega))), sl [0] (k_slices_Clone_Value__own (b) (by first | assumption | omega | (simp; done) | (simp; omega))), sqx (True ∧ True ∧ s.cols.length = (List.map Col.cells s.cols).length ∧ b.length = (List.map V.cells b).length ∧ True), sqx (AllLen [[sv (ByteArray.mk #[78, 69, 87]), bv true, AV.sl (List.map Col.cells s.cols), AV.sl (List.map V.cells b)]] 4 ∧ 1 = 1 ∧ Nat.le 144 140737488355328)] (by kernel_rfl))
  · exact wk At.trigger_Frames [sb h1] (by kernel_rfl)
end Go.AM
