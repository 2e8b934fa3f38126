/-
  Contracts: comparison, values, logic, arithmetic, operations.
-/
import Derived.Test.YtkibinkahpgboaaDoorUBase
import Derived.Test.YtkibinkahpgboaaDoorUAmd
namespace Go.AM
set_option maxRecDepth 100000

def cmpI (a b : Int) : Int := if a < b then -1 else if b < a then 1 else 0
def ltS (a b : Str) : Bool := Op.bytesLess a.toList b.toList
def eqS (a b : Str) : Bool := a.toList == b.toList
def cmpS (a b : Str) : Int := if ltS a b then -1 else if !(ltS a b || eqS a b) then 1 else 0

theorem k_cmp_isNaN_int (n : Int) : Pure S.cmp_isNaN_int [iv n] (bv (n != n)) :=
  pure_of At.cmp_isNaN_int rfl (by kernel_rfl) (by kernel_rfl) 100 [] (q := []) (by kernel_rfl) trivial
theorem k_cmp_isNaN_int64 (n : Int) : Pure S.cmp_isNaN_int64 [iv n] (bv (n != n)) :=
  pure_of At.cmp_isNaN_int64 rfl (by kernel_rfl) (by kernel_rfl) 100 [] (q := []) (by kernel_rfl) trivial
theorem k_cmp_isNaN_string (n : Str) : Pure S.cmp_isNaN_string [sv n] (bv (!(n.toList == n.toList))) :=
  pure_of At.cmp_isNaN_string rfl (by kernel_rfl) (by kernel_rfl) 100 [] (q := []) (by kernel_rfl) trivial

theorem k_cmp_Compare_int (a b : Int) : Pure S.cmp_Compare_int [iv a, iv b] (iv (cmpI a b)) := by
  unfold cmpI
  by_cases h1 : a < b
  · rw [if_pos h1]
    exact pure_of At.cmp_Compare_int rfl (by kernel_rfl) (by kernel_rfl) 200 [.call [] (bv (a != a)) [], .call [] (bv (b != b)) [], .b false, .b false, .b true]
      (q := [Pure S.cmp_isNaN_int [iv a] (bv (a != a)), Pure S.cmp_isNaN_int [iv b] (bv (b != b)), (a != a) = false, (b != b) = false, decide (a < b) = true]) (by kernel_rfl)
      ⟨k_cmp_isNaN_int a, k_cmp_isNaN_int b, by simp, by simp, by simpa [allP] using h1⟩
  · rw [if_neg h1]
    by_cases h2 : b < a
    · rw [if_pos h2]
      exact pure_of At.cmp_Compare_int rfl (by kernel_rfl) (by kernel_rfl) 200 [.call [] (bv (a != a)) [], .call [] (bv (b != b)) [], .b false, .b false, .b false, .b true]
        (q := [Pure S.cmp_isNaN_int [iv a] (bv (a != a)), Pure S.cmp_isNaN_int [iv b] (bv (b != b)), (a != a) = false, (b != b) = false, decide (a < b) = false, decide (b < a) = true]) (by kernel_rfl)
        ⟨k_cmp_isNaN_int a, k_cmp_isNaN_int b, by simp, by simp, by simpa using h1, by simpa [allP] using h2⟩
    · rw [if_neg h2]
      exact pure_of At.cmp_Compare_int rfl (by kernel_rfl) (by kernel_rfl) 200 [.call [] (bv (a != a)) [], .call [] (bv (b != b)) [], .b false, .b false, .b false, .b false]
        (q := [Pure S.cmp_isNaN_int [iv a] (bv (a != a)), Pure S.cmp_isNaN_int [iv b] (bv (b != b)), (a != a) = false, (b != b) = false, decide (a < b) = false, decide (b < a) = false]) (by kernel_rfl)
        ⟨k_cmp_isNaN_int a, k_cmp_isNaN_int b, by simp, by simp, by simpa using h1, by simpa [allP] using h2⟩

theorem k_value_Truth (b : Bool) : Pure S.value_Truth [bv b] (V.av ⟨2, if b then 1 else 0, ⟨#[]⟩⟩) := by
  cases b
  · exact pure_of At.value_Truth rfl (by kernel_rfl) (by kernel_rfl) 100 [.b false] (q := [false = false]) (by kernel_rfl) rfl
  · exact pure_of At.value_Truth rfl (by kernel_rfl) (by kernel_rfl) 100 [.b true] (q := [true = true]) (by kernel_rfl) rfl

theorem k_value_Number (n : Int) : Pure S.value_Number [iv n] (V.av ⟨1, n, ⟨#[]⟩⟩) :=
  pure_of At.value_Number rfl (by kernel_rfl) (by kernel_rfl) 100 [] (q := []) (by kernel_rfl) trivial

theorem k_evaluate_isNull (v : V) : Pure S.evaluate_isNull [v.av] (bv (v.kind == 0)) :=
  pure_of At.evaluate_isNull rfl (by kernel_rfl) (by kernel_rfl) 100 [] (q := []) (by kernel_rfl) trivial

end Go.AM

namespace Go.AM
set_option maxRecDepth 100000

theorem k_cmp_Compare_int64 (a b : Int) : Pure S.cmp_Compare_int64 [iv a, iv b] (iv (cmpI a b)) := by
  unfold cmpI
  by_cases h1 : a < b
  · rw [if_pos h1]
    exact pure_of At.cmp_Compare_int64 rfl (by kernel_rfl) (by kernel_rfl) 1500 ([.call [] (bv (a != a)) [], .call [] (bv (b != b)) [], .b false, .b false, .b true]) (q := [ACallsTo E0 (100 : Nat) [AV.v (Value.int IntKind.i64 a)] [] (AV.v (Value.bool (a != a))) [], ACallsTo E0 (100 : Nat) [AV.v (Value.int IntKind.i64 b)] [] (AV.v (Value.bool (b != b))) [], (a != a) = false, (b != b) = false, decide (a < b) = true]) (by kernel_rfl) ⟨k_cmp_isNaN_int64 a, k_cmp_isNaN_int64 b, by simp, by simp, by simpa [allP] using h1⟩
  · rw [if_neg h1]
    by_cases h2 : b < a
    · rw [if_pos h2]
      exact pure_of At.cmp_Compare_int64 rfl (by kernel_rfl) (by kernel_rfl) 1500 ([.call [] (bv (a != a)) [], .call [] (bv (b != b)) [], .b false, .b false, .b false, .b true]) (q := [ACallsTo E0 (100 : Nat) [AV.v (Value.int IntKind.i64 a)] [] (AV.v (Value.bool (a != a))) [], ACallsTo E0 (100 : Nat) [AV.v (Value.int IntKind.i64 b)] [] (AV.v (Value.bool (b != b))) [], (a != a) = false, (b != b) = false, decide (a < b) = false, decide (b < a) = true]) (by kernel_rfl) ⟨k_cmp_isNaN_int64 a, k_cmp_isNaN_int64 b, by simp, by simp, by simpa using h1, by simpa [allP] using h2⟩
    · rw [if_neg h2]
      exact pure_of At.cmp_Compare_int64 rfl (by kernel_rfl) (by kernel_rfl) 1500 ([.call [] (bv (a != a)) [], .call [] (bv (b != b)) [], .b false, .b false, .b false, .b false]) (q := [ACallsTo E0 (100 : Nat) [AV.v (Value.int IntKind.i64 a)] [] (AV.v (Value.bool (a != a))) [], ACallsTo E0 (100 : Nat) [AV.v (Value.int IntKind.i64 b)] [] (AV.v (Value.bool (b != b))) [], (a != a) = false, (b != b) = false, decide (a < b) = false, decide (b < a) = false]) (by kernel_rfl) ⟨k_cmp_isNaN_int64 a, k_cmp_isNaN_int64 b, by simp, by simp, by simpa using h1, by simpa [allP] using h2⟩

theorem k_cmp_Compare_string (a b : Str) : Pure S.cmp_Compare_string [sv a, sv b] (iv (cmpS a b)) := by
  unfold cmpS ltS eqS
  cases h1 : Op.bytesLess a.toList b.toList
  · rw [if_neg (by simp)]
    cases h2 : (!(Op.bytesLess a.toList b.toList || a.toList == b.toList))
    · rw [h1] at h2
      rw [h2, if_neg (by simp)]
      exact pure_of At.cmp_Compare_string rfl (by kernel_rfl) (by kernel_rfl) 1500 ([.call [] (bv (!(a.toList == a.toList))) [], .call [] (bv (!(b.toList == b.toList))) [], .b false, .b false, .b false, .b false]) (q := [ACallsTo E0 (101 : Nat) [AV.v (Value.string a)] [] (AV.v (Value.bool !ByteArray.toList a == ByteArray.toList a)) [], ACallsTo E0 (101 : Nat) [AV.v (Value.string b)] [] (AV.v (Value.bool !ByteArray.toList b == ByteArray.toList b)) [], (!ByteArray.toList a == ByteArray.toList a) = false, (!ByteArray.toList b == ByteArray.toList b) = false, Op.bytesLess (ByteArray.toList a) (ByteArray.toList b) = false, (!(Op.bytesLess (ByteArray.toList a) (ByteArray.toList b) || ByteArray.toList a == ByteArray.toList b)) = false]) (by kernel_rfl) ⟨k_cmp_isNaN_string a, k_cmp_isNaN_string b, by simp, by simp, h1, by simp only [allP]; rw [h1]; exact h2⟩
    · rw [h1] at h2
      rw [h2, if_pos rfl]
      exact pure_of At.cmp_Compare_string rfl (by kernel_rfl) (by kernel_rfl) 1500 ([.call [] (bv (!(a.toList == a.toList))) [], .call [] (bv (!(b.toList == b.toList))) [], .b false, .b false, .b false, .b true]) (q := [ACallsTo E0 (101 : Nat) [AV.v (Value.string a)] [] (AV.v (Value.bool !ByteArray.toList a == ByteArray.toList a)) [], ACallsTo E0 (101 : Nat) [AV.v (Value.string b)] [] (AV.v (Value.bool !ByteArray.toList b == ByteArray.toList b)) [], (!ByteArray.toList a == ByteArray.toList a) = false, (!ByteArray.toList b == ByteArray.toList b) = false, Op.bytesLess (ByteArray.toList a) (ByteArray.toList b) = false, (!(Op.bytesLess (ByteArray.toList a) (ByteArray.toList b) || ByteArray.toList a == ByteArray.toList b)) = true]) (by kernel_rfl) ⟨k_cmp_isNaN_string a, k_cmp_isNaN_string b, by simp, by simp, h1, by simp only [allP]; rw [h1]; exact h2⟩
  · rw [if_pos rfl]
    exact pure_of At.cmp_Compare_string rfl (by kernel_rfl) (by kernel_rfl) 1500 ([.call [] (bv (!(a.toList == a.toList))) [], .call [] (bv (!(b.toList == b.toList))) [], .b false, .b false, .b true]) (q := [ACallsTo E0 (101 : Nat) [AV.v (Value.string a)] [] (AV.v (Value.bool !ByteArray.toList a == ByteArray.toList a)) [], ACallsTo E0 (101 : Nat) [AV.v (Value.string b)] [] (AV.v (Value.bool !ByteArray.toList b == ByteArray.toList b)) [], (!ByteArray.toList a == ByteArray.toList a) = false, (!ByteArray.toList b == ByteArray.toList b) = false, Op.bytesLess (ByteArray.toList a) (ByteArray.toList b) = true]) (by kernel_rfl) ⟨k_cmp_isNaN_string a, k_cmp_isNaN_string b, by simp, by simp, h1⟩

def orI : List Int → Int
  | [] => 0
  | x :: r => if x = 0 then orI r else x

abbrev isl (l : List Int) : AV := .sl (l.map fun n => [iv n])
noncomputable def L_Or (l : List Int) (i : Nat) : Cfg := loopAt B.cmp_Or_int 0 [(3, iv 0), (6, .sl (l.map fun n => [iv n])), (7, iv ((l.map fun n => [iv n]).length : Nat)), (8, iv (i : Nat))] []

theorem k_Or_loop (l : List Int) (hl : l.length < 9223372036854775807) : ∀ (k i : Nat), i + k = l.length → Good E0 B.cmp_Or_int [] (L_Or l i) (Shut 0 fun r h => r = iv (orI (l.drop i)) ∧ h = []) := by
  intro k
  induction k with
  | zero =>
    intro i hi
    refine good_unroll ?_
    refine good_fin E0ok mix0 1500 ([.b false]) (q := [decide ((↑i : Int) < (↑(List.map (fun n => [iv n]) l).length : Int)) = false]) (y := iv 0) (H := []) (by kernel_rfl) ?_ ⟨?_, rfl⟩
    · simp [allP]; omega
    · rw [List.drop_of_length_le (by omega)]; rfl
  | succ k ih =>
    intro i hi
    obtain ⟨x, hx⟩ := ex_at (l := l) (i := i) (by omega)
    have hlt := at_lt hx
    refine good_unroll ?_
    rw [drop_at hx, orI]
    by_cases h0 : x = 0
    · rw [if_pos h0]
      exact good_to E0ok mix0 1500 ([.b true, .el [iv x], .b false, .i ((i + 1 : Nat) : Int)]) [3, 6, 7, 8] 0 (q := [decide ((↑i : Int) < (↑(List.map (fun n => [iv n]) l).length : Int)) = true, ElAt (List.map (fun n => [iv n]) l) (↑i : Int) [AV.v (Value.int IntKind.i64 x)] (1 : Nat), (x != (0 : Int)) = false, IntKind.i64.wrap ((↑i : Int) + (1 : Int)) = (↑(i + (1 : Nat)) : Int)]) (by kernel_rfl) (by kernel_rfl) (by kernel_rfl) ⟨by simp; omega, elAt_map (fun n => [iv n]) hx rfl, by simp [h0], wrap_nat i (by omega)⟩ (ih (i + 1) (by omega))
    · rw [if_neg h0]
      exact good_fin E0ok mix0 1500 ([.b true, .el [iv x], .b true]) (q := [decide ((↑i : Int) < (↑(List.map (fun n => [iv n]) l).length : Int)) = true, ElAt (List.map (fun n => [iv n]) l) (↑i : Int) [AV.v (Value.int IntKind.i64 x)] (1 : Nat), (x != (0 : Int)) = true]) (y := iv x) (H := []) (by kernel_rfl) ⟨by simp; omega, elAt_map (fun n => [iv n]) hx rfl, by simpa [allP] using h0⟩ ⟨rfl, rfl⟩

theorem k_cmp_Or_int (l : List Int) (hl : l.length < 9223372036854775807) : Pure S.cmp_Or_int [.sl (l.map fun n => [iv n])] (iv (orI l)) :=
  acalls_to E0ok mix0 At.cmp_Or_int rfl (by kernel_rfl) (by kernel_rfl) 1500 ([]) [3, 6, 7, 8] 0 (q := []) (by kernel_rfl) (by kernel_rfl) (by kernel_rfl) trivial (k_Or_loop l hl l.length 0 (by omega))

end Go.AM

namespace Go.AM
set_option maxRecDepth 100000
def cmpV (a b : V) : Int := orI [cmpI a.kind b.kind, cmpI a.int b.int, cmpS a.text b.text]
theorem k_value_Compare (a b : V) : Pure S.value_Compare [a.av, b.av] (iv (cmpV a b)) :=
  walk E0ok mix0 At.value_Compare rfl (by kernel_rfl) (by kernel_rfl) 1500 [sd [(4, [sc (k_cmp_Compare_int a.kind b.kind)]), (9, [sc (k_cmp_Compare_int64 a.int b.int)]), (14, [sc (k_cmp_Compare_string a.text b.text)]), (16, [sc (k_cmp_Or_int [cmpI a.kind b.kind, cmpI a.int b.int, cmpS a.text b.text] (by simp))])]] (by kernel_rfl) rfl
end Go.AM

namespace Go.AM
set_option maxRecDepth 100000

/-- A character of a text. -/
def okB (c : Nat) : Bool := !(decide ((c : Int) < 32)) && !(decide ((126 : Int) < c))
def plainL (l : List UInt8) : Bool := match l with
  | [] => true
  | c :: r => okB c.toNat && plainL r
def plainS (s : Str) : Bool := plainL s.data.toList && decide ((s.size : Int) ≤ 64)
noncomputable def L_plain (s : Str) (i : Nat) : Cfg := loopAt B.value_plain 0 [(0, sv s), (5, iv (s.size : Nat)), (6, iv (i : Nat))] []
theorem k_plain_loop (s : Str) (hl : s.size < 9223372036854775807) : ∀ (k i : Nat), i + k = s.size → Good E0 B.value_plain [] (L_plain s i) (Shut 0 fun r h => r = bv (plainL (s.data.toList.drop i) && decide ((s.size : Int) ≤ 64)) ∧ h = []) := by
  intro k
  induction k with
  | zero =>
    intro i hi
    refine good_unroll ?_
    have h0 : decide ((i : Int) < (s.size : Int)) = false := by simp; omega
    have e0 : s.data.toList.drop i = [] := List.drop_of_length_le (by simp [← hi])
    rw [e0]
    exact toRet E0ok mix0 3000 (y := AV.v (Value.bool (decide ((↑(ByteArray.size s) : Int) ≤ (64 : Int))))) [sb h0] (by kernel_rfl) ⟨rfl, rfl⟩
  | succ k ih =>
    intro i hi
    have ih := ih (i + 1) (by omega)
    have hlt : i < s.size := by omega
    have h0 : decide ((i : Int) < (s.size : Int)) = true := by simp; omega
    have hb : ByteAt s (i : Int) ((s[i].toNat : Nat) : Int) := ⟨by omega, by simp [hlt]⟩
    have hw := wrap_nat i (by omega)
    have e0 : s.data.toList.drop i = s[i] :: s.data.toList.drop (i + 1) := by
      rw [List.drop_eq_getElem_cons (by simpa using hlt)]; rfl
    rw [e0]
    generalize s[i] = c at hb
    simp only [plainL, okB]
    refine good_unroll ?_
    cases h1 : decide ((↑c.toNat : Int) < (32 : Int))
    · cases h2 : decide ((126 : Int) < (↑c.toNat : Int))
      · exact toLoop E0ok mix0 3000 (c' := L_plain s (i + (1 : Nat))) [sb h0, sy hb, sg h1, sy hb, sb h2, si hw] [0, 5, 6] 0 (by kernel_rfl) (by kernel_rfl) (by simpa [h1, h2] using ih)
      · exact toRet E0ok mix0 3000 (y := AV.v (Value.bool false)) [sb h0, sy hb, sg h1, sy hb, sb h2] (by kernel_rfl) ⟨by simp [h1, h2], rfl⟩
    · exact toRet E0ok mix0 3000 (y := AV.v (Value.bool false)) [sb h0, sy hb, sb h1] (by kernel_rfl) ⟨by simp [h1], rfl⟩

theorem k_value_plain (s : Str) (hl : s.size < 9223372036854775807) : Pure S.value_plain [sv s] (bv (plainS s)) := by
  exact fromCall E0ok mix0 At.value_plain rfl (by kernel_rfl) (by kernel_rfl) 3000 (c' := L_plain s (0 : Nat)) [] [0, 5, 6] 0 (by kernel_rfl) (by kernel_rfl) (by simpa [plainS] using k_plain_loop s hl s.size 0 (by simp))

end Go.AM

namespace Go.AM
set_option maxRecDepth 100000
set_option linter.unusedSimpArgs false
set_option linter.unusedVariables false

abbrev V.small (v : V) : Prop := v.text.size < 9223372036854775807
theorem small_e : (⟨#[]⟩ : Str).size < 9223372036854775807 := by decide
def tru (b : Bool) : V := ⟨2, if b then 1 else 0, ⟨#[]⟩⟩
def num (n : Int) : V := ⟨1, n, ⟨#[]⟩⟩
def validV (v : V) : Bool :=
  bif v.kind == (0 : Int) then
    v.kind == (0 : Int) && (v.int == (0 : Int) && (v.text == ByteArray.mk #[] && true))
  else
    bif v.kind == (1 : Int) then
      ByteArray.toList v.text == (ByteArray.mk #[]).toList
    else
      bif v.kind == (2 : Int) then
        bif v.int == (0 : Int) then
          ByteArray.toList v.text == (ByteArray.mk #[]).toList
        else
          bif v.int == (1 : Int) then
            ByteArray.toList v.text == (ByteArray.mk #[]).toList
          else
            false
      else
        bif v.kind == (3 : Int) then
          bif v.int == (0 : Int) then
            plainS v.text
          else
            false
        else
          false
theorem k_value_Valid (v : V) (hv : v.small) : ACallsTo E0 S.value_Valid [v.av] [] (bv (validV v)) [] := by
  cases h1 : v.kind == (0 : Int)
  · cases h2 : v.kind == (1 : Int)
    · cases h3 : v.kind == (2 : Int)
      · cases h4 : v.kind == (3 : Int)
        · exact walk E0ok mix0 At.value_Valid rfl (by kernel_rfl) (by kernel_rfl) 3000 (y := AV.v (Value.bool false)) [sb h1, sb h2, sb h3, sb h4] (by kernel_rfl) (by simp only [validV, cond_true, cond_false, h1, h2, h3, h4] <;> rfl)
        · cases h5 : v.int == (0 : Int)
          · exact walk E0ok mix0 At.value_Valid rfl (by kernel_rfl) (by kernel_rfl) 3000 (y := AV.v (Value.bool false)) [sb h1, sb h2, sb h3, sb h4, sb h5] (by kernel_rfl) (by simp only [validV, cond_true, cond_false, h1, h2, h3, h4, h5] <;> rfl)
          · exact walk E0ok mix0 At.value_Valid rfl (by kernel_rfl) (by kernel_rfl) 3000 (y := AV.v (Value.bool (plainS v.text))) [sb h1, sb h2, sb h3, sb h4, sg h5, sc (k_value_plain (v.text) (by first | assumption | (simp; done) | omega | (simp; omega)))] (by kernel_rfl) (by simp only [validV, cond_true, cond_false, h1, h2, h3, h4, h5] <;> rfl)
      · cases h6 : v.int == (0 : Int)
        · cases h7 : v.int == (1 : Int)
          · exact walk E0ok mix0 At.value_Valid rfl (by kernel_rfl) (by kernel_rfl) 3000 (y := AV.v (Value.bool false)) [sb h1, sb h2, sb h3, sg h6, sb h7] (by kernel_rfl) (by simp only [validV, cond_true, cond_false, h1, h2, h3, h6, h7] <;> rfl)
          · exact walk E0ok mix0 At.value_Valid rfl (by kernel_rfl) (by kernel_rfl) 3000 (y := AV.v (Value.bool (ByteArray.toList v.text == (ByteArray.mk #[]).toList))) [sb h1, sb h2, sb h3, sg h6, sg h7] (by kernel_rfl) (by simp only [validV, cond_true, cond_false, h1, h2, h3, h6, h7] <;> rfl)
        · exact walk E0ok mix0 At.value_Valid rfl (by kernel_rfl) (by kernel_rfl) 3000 (y := AV.v (Value.bool (ByteArray.toList v.text == (ByteArray.mk #[]).toList))) [sb h1, sb h2, sb h3, sb h6] (by kernel_rfl) (by simp only [validV, cond_true, cond_false, h1, h2, h3, h6] <;> rfl)
    · exact walk E0ok mix0 At.value_Valid rfl (by kernel_rfl) (by kernel_rfl) 3000 (y := AV.v (Value.bool (ByteArray.toList v.text == (ByteArray.mk #[]).toList))) [sb h1, sb h2] (by kernel_rfl) (by simp only [validV, cond_true, cond_false, h1, h2] <;> rfl)
  · exact walk E0ok mix0 At.value_Valid rfl (by kernel_rfl) (by kernel_rfl) 3000 (y := AV.v (Value.bool (v.kind == (0 : Int) && (v.int == (0 : Int) && (v.text == ByteArray.mk #[] && true))))) [sb h1, sq seq_Value] (by kernel_rfl) (by simp only [validV, cond_true, cond_false, h1] <;> rfl)
def lvalid (v : V) : Bool :=
  bif validV v then
    bif v.kind == (2 : Int) then
      true
    else
      v.kind == (0 : Int)
  else
    false
theorem k_logic_Valid (v : V) (hv : v.small) : ACallsTo E0 S.logic_Valid [v.av] [] (bv (lvalid v)) [] := by
  cases h1 : validV v
  · exact walk E0ok mix0 At.logic_Valid rfl (by kernel_rfl) (by kernel_rfl) 3000 (y := AV.v (Value.bool false)) [sc (k_value_Valid (v) (by first | assumption | (simp; done) | omega | (simp; omega))), sb h1] (by kernel_rfl) (by simp only [lvalid, cond_true, cond_false, h1] <;> rfl)
  · cases h2 : v.kind == (2 : Int)
    · exact walk E0ok mix0 At.logic_Valid rfl (by kernel_rfl) (by kernel_rfl) 3000 (y := AV.v (Value.bool (v.kind == (0 : Int)))) [sc (k_value_Valid (v) (by first | assumption | (simp; done) | omega | (simp; omega))), sg h1, sg h2] (by kernel_rfl) (by simp only [lvalid, cond_true, cond_false, h1, h2] <;> rfl)
    · exact walk E0ok mix0 At.logic_Valid rfl (by kernel_rfl) (by kernel_rfl) 3000 (y := AV.v (Value.bool true)) [sc (k_value_Valid (v) (by first | assumption | (simp; done) | omega | (simp; omega))), sg h1, sb h2] (by kernel_rfl) (by simp only [lvalid, cond_true, cond_false, h1, h2] <;> rfl)
def lnot (v : V) : V × Bool :=
  bif !lvalid v then
    (V.mk (0 : Int) (0 : Int) (ByteArray.mk #[]), false)
  else
    bif v.kind == (0 : Int) then
      (v, true)
    else
      (V.mk (2 : Int) (if (v.int == (0 : Int)) = true then (1 : Int) else (0 : Int)) (ByteArray.mk #[]), true)
theorem k_logic_Not (v : V) (hv : v.small) : ACallsTo E0 S.logic_Not [v.av] [] (.tup [(lnot v).1.av, bv (lnot v).2]) [] := by
  cases h1 : !lvalid v
  · cases h2 : v.kind == (0 : Int)
    · exact walk E0ok mix0 At.logic_Not rfl (by kernel_rfl) (by kernel_rfl) 3000 (y := AV.tup [AV.agg [AV.v (Value.int IntKind.i64 (V.mk (2 : Int) (if (v.int == (0 : Int)) = true then (1 : Int) else (0 : Int)) (ByteArray.mk #[])).kind), AV.v (Value.int IntKind.i64 (V.mk (2 : Int) (if (v.int == (0 : Int)) = true then (1 : Int) else (0 : Int)) (ByteArray.mk #[])).int), AV.v (Value.string (V.mk (2 : Int) (if (v.int == (0 : Int)) = true then (1 : Int) else (0 : Int)) (ByteArray.mk #[])).text)], AV.v (Value.bool true)]) [sc (k_logic_Valid (v) (by first | assumption | (simp; done) | omega | (simp; omega))), sb h1, sb h2, sc (k_value_Truth (v.int == (0 : Int)))] (by kernel_rfl) (by simp only [lnot, cond_true, cond_false, h1, h2] <;> rfl)
    · exact walk E0ok mix0 At.logic_Not rfl (by kernel_rfl) (by kernel_rfl) 3000 (y := AV.tup [AV.agg [AV.v (Value.int IntKind.i64 v.kind), AV.v (Value.int IntKind.i64 v.int), AV.v (Value.string v.text)], AV.v (Value.bool true)]) [sc (k_logic_Valid (v) (by first | assumption | (simp; done) | omega | (simp; omega))), sb h1, sb h2] (by kernel_rfl) (by simp only [lnot, cond_true, cond_false, h1, h2] <;> rfl)
  · exact walk E0ok mix0 At.logic_Not rfl (by kernel_rfl) (by kernel_rfl) 3000 (y := AV.tup [AV.agg [AV.v (Value.int IntKind.i64 (0 : Int)), AV.v (Value.int IntKind.i64 (0 : Int)), AV.v (Value.string (ByteArray.mk #[]))], AV.v (Value.bool false)]) [sc (k_logic_Valid (v) (by first | assumption | (simp; done) | omega | (simp; omega))), sb h1] (by kernel_rfl) (by simp only [lnot, cond_true, cond_false, h1] <;> rfl)
def land0 (a b : V) : V :=
  bif a.kind == (V.mk (2 : Int) (if false = true then (1 : Int) else (0 : Int)) (ByteArray.mk #[])).kind && (a.int == (V.mk (2 : Int) (if false = true then (1 : Int) else (0 : Int)) (ByteArray.mk #[])).int && (a.text == (V.mk (2 : Int) (if false = true then (1 : Int) else (0 : Int)) (ByteArray.mk #[])).text && true)) then
    V.mk (2 : Int) (if false = true then (1 : Int) else (0 : Int)) (ByteArray.mk #[])
  else
    bif b.kind == (V.mk (2 : Int) (if false = true then (1 : Int) else (0 : Int)) (ByteArray.mk #[])).kind && (b.int == (V.mk (2 : Int) (if false = true then (1 : Int) else (0 : Int)) (ByteArray.mk #[])).int && (b.text == (V.mk (2 : Int) (if false = true then (1 : Int) else (0 : Int)) (ByteArray.mk #[])).text && true)) then
      V.mk (2 : Int) (if false = true then (1 : Int) else (0 : Int)) (ByteArray.mk #[])
    else
      bif a.kind == (0 : Int) then
        V.mk (0 : Int) (0 : Int) (ByteArray.mk #[])
      else
        bif b.kind == (0 : Int) then
          V.mk (0 : Int) (0 : Int) (ByteArray.mk #[])
        else
          V.mk (2 : Int) (if true = true then (1 : Int) else (0 : Int)) (ByteArray.mk #[])
theorem k_logic_and (a b : V)  : ACallsTo E0 S.logic_and [a.av, b.av] [] ((land0 a b).av) [] := by
  cases h1 : a.kind == (V.mk (2 : Int) (if false = true then (1 : Int) else (0 : Int)) (ByteArray.mk #[])).kind && (a.int == (V.mk (2 : Int) (if false = true then (1 : Int) else (0 : Int)) (ByteArray.mk #[])).int && (a.text == (V.mk (2 : Int) (if false = true then (1 : Int) else (0 : Int)) (ByteArray.mk #[])).text && true))
  · cases h2 : b.kind == (V.mk (2 : Int) (if false = true then (1 : Int) else (0 : Int)) (ByteArray.mk #[])).kind && (b.int == (V.mk (2 : Int) (if false = true then (1 : Int) else (0 : Int)) (ByteArray.mk #[])).int && (b.text == (V.mk (2 : Int) (if false = true then (1 : Int) else (0 : Int)) (ByteArray.mk #[])).text && true))
    · cases h3 : a.kind == (0 : Int)
      · cases h4 : b.kind == (0 : Int)
        · exact walk E0ok mix0 At.logic_and rfl (by kernel_rfl) (by kernel_rfl) 3000 (y := AV.agg [AV.v (Value.int IntKind.i64 (V.mk (2 : Int) (if true = true then (1 : Int) else (0 : Int)) (ByteArray.mk #[])).kind), AV.v (Value.int IntKind.i64 (V.mk (2 : Int) (if true = true then (1 : Int) else (0 : Int)) (ByteArray.mk #[])).int), AV.v (Value.string (V.mk (2 : Int) (if true = true then (1 : Int) else (0 : Int)) (ByteArray.mk #[])).text)]) [sc (k_value_Truth (false)), sq seq_Value, sg h1, sq seq_Value, sb h2, sg h3, sb h4, sc (k_value_Truth (true))] (by kernel_rfl) (by simp only [land0, cond_true, cond_false, h1, h2, h3, h4] <;> rfl)
        · exact walk E0ok mix0 At.logic_and rfl (by kernel_rfl) (by kernel_rfl) 3000 (y := AV.agg [AV.v (Value.int IntKind.i64 (0 : Int)), AV.v (Value.int IntKind.i64 (0 : Int)), AV.v (Value.string (ByteArray.mk #[]))]) [sc (k_value_Truth (false)), sq seq_Value, sg h1, sq seq_Value, sb h2, sg h3, sb h4] (by kernel_rfl) (by simp only [land0, cond_true, cond_false, h1, h2, h3, h4] <;> rfl)
      · exact walk E0ok mix0 At.logic_and rfl (by kernel_rfl) (by kernel_rfl) 3000 (y := AV.agg [AV.v (Value.int IntKind.i64 (0 : Int)), AV.v (Value.int IntKind.i64 (0 : Int)), AV.v (Value.string (ByteArray.mk #[]))]) [sc (k_value_Truth (false)), sq seq_Value, sg h1, sq seq_Value, sb h2, sb h3] (by kernel_rfl) (by simp only [land0, cond_true, cond_false, h1, h2, h3] <;> rfl)
    · exact walk E0ok mix0 At.logic_and rfl (by kernel_rfl) (by kernel_rfl) 3000 (y := AV.agg [AV.v (Value.int IntKind.i64 (V.mk (2 : Int) (if false = true then (1 : Int) else (0 : Int)) (ByteArray.mk #[])).kind), AV.v (Value.int IntKind.i64 (V.mk (2 : Int) (if false = true then (1 : Int) else (0 : Int)) (ByteArray.mk #[])).int), AV.v (Value.string (V.mk (2 : Int) (if false = true then (1 : Int) else (0 : Int)) (ByteArray.mk #[])).text)]) [sc (k_value_Truth (false)), sq seq_Value, sg h1, sq seq_Value, sb h2] (by kernel_rfl) (by simp only [land0, cond_true, cond_false, h1, h2] <;> rfl)
  · exact walk E0ok mix0 At.logic_and rfl (by kernel_rfl) (by kernel_rfl) 3000 (y := AV.agg [AV.v (Value.int IntKind.i64 (V.mk (2 : Int) (if false = true then (1 : Int) else (0 : Int)) (ByteArray.mk #[])).kind), AV.v (Value.int IntKind.i64 (V.mk (2 : Int) (if false = true then (1 : Int) else (0 : Int)) (ByteArray.mk #[])).int), AV.v (Value.string (V.mk (2 : Int) (if false = true then (1 : Int) else (0 : Int)) (ByteArray.mk #[])).text)]) [sc (k_value_Truth (false)), sq seq_Value, sb h1] (by kernel_rfl) (by simp only [land0, cond_true, cond_false, h1] <;> rfl)
def land (a b : V) : V × Bool :=
  bif !lvalid a then
    (V.mk (0 : Int) (0 : Int) (ByteArray.mk #[]), false)
  else
    bif !lvalid b then
      (V.mk (0 : Int) (0 : Int) (ByteArray.mk #[]), false)
    else
      (land0 a b, true)
theorem k_logic_And (a b : V) (ha : a.small) (hb : b.small) : ACallsTo E0 S.logic_And [a.av, b.av] [] (.tup [(land a b).1.av, bv (land a b).2]) [] := by
  cases h1 : !lvalid a
  · cases h2 : !lvalid b
    · exact walk E0ok mix0 At.logic_And rfl (by kernel_rfl) (by kernel_rfl) 3000 (y := AV.tup [AV.agg [AV.v (Value.int IntKind.i64 (land0 a b).kind), AV.v (Value.int IntKind.i64 (land0 a b).int), AV.v (Value.string (land0 a b).text)], AV.v (Value.bool true)]) [sc (k_logic_Valid (a) (by first | assumption | (simp; done) | omega | (simp; omega))), sg h1, sc (k_logic_Valid (b) (by first | assumption | (simp; done) | omega | (simp; omega))), sb h2, sc (k_logic_and (a) (b))] (by kernel_rfl) (by simp only [land, cond_true, cond_false, h1, h2] <;> rfl)
    · exact walk E0ok mix0 At.logic_And rfl (by kernel_rfl) (by kernel_rfl) 3000 (y := AV.tup [AV.agg [AV.v (Value.int IntKind.i64 (0 : Int)), AV.v (Value.int IntKind.i64 (0 : Int)), AV.v (Value.string (ByteArray.mk #[]))], AV.v (Value.bool false)]) [sc (k_logic_Valid (a) (by first | assumption | (simp; done) | omega | (simp; omega))), sg h1, sc (k_logic_Valid (b) (by first | assumption | (simp; done) | omega | (simp; omega))), sb h2] (by kernel_rfl) (by simp only [land, cond_true, cond_false, h1, h2] <;> rfl)
  · exact walk E0ok mix0 At.logic_And rfl (by kernel_rfl) (by kernel_rfl) 3000 (y := AV.tup [AV.agg [AV.v (Value.int IntKind.i64 (0 : Int)), AV.v (Value.int IntKind.i64 (0 : Int)), AV.v (Value.string (ByteArray.mk #[]))], AV.v (Value.bool false)]) [sc (k_logic_Valid (a) (by first | assumption | (simp; done) | omega | (simp; omega))), sb h1] (by kernel_rfl) (by simp only [land, cond_true, cond_false, h1] <;> rfl)
theorem small_cond (c : Bool) {a b : V} (ha : a.small) (hb : b.small) : (bif c then a else b).small := by cases c <;> assumption
theorem small_cond1 (c : Bool) {α : Type} {a b : V × α} (ha : a.1.small) (hb : b.1.small) : (bif c then a else b).1.small := by cases c <;> assumption
theorem lnot_small (a : V) (ha : a.small) : (lnot a).1.small := by
  unfold lnot; repeat' (first | apply small_cond1 | exact ha | exact small_e)
theorem land0_small (a b : V) : (land0 a b).small := by
  unfold land0; repeat' (first | apply small_cond | exact small_e)
def lor (a b : V) : V × Bool :=
  bif !lvalid a then
    (V.mk (0 : Int) (0 : Int) (ByteArray.mk #[]), false)
  else
    bif !lvalid b then
      (V.mk (0 : Int) (0 : Int) (ByteArray.mk #[]), false)
    else
      ((lnot (land0 (lnot a).fst (lnot b).fst)).fst, (lnot (land0 (lnot a).fst (lnot b).fst)).snd)
theorem k_logic_Or (a b : V) (ha : a.small) (hb : b.small) : ACallsTo E0 S.logic_Or [a.av, b.av] [] (.tup [(lor a b).1.av, bv (lor a b).2]) [] := by
  cases h1 : !lvalid a
  · cases h2 : !lvalid b
    · exact walk E0ok mix0 At.logic_Or rfl (by kernel_rfl) (by kernel_rfl) 3000 (y := AV.tup [AV.agg [AV.v (Value.int IntKind.i64 (lnot (land0 (lnot a).fst (lnot b).fst)).fst.kind), AV.v (Value.int IntKind.i64 (lnot (land0 (lnot a).fst (lnot b).fst)).fst.int), AV.v (Value.string (lnot (land0 (lnot a).fst (lnot b).fst)).fst.text)], AV.v (Value.bool (lnot (land0 (lnot a).fst (lnot b).fst)).snd)]) [sc (k_logic_Valid (a) (by first | assumption | exact land0_small _ _)), sg h1, sc (k_logic_Valid (b) (by first | assumption | exact land0_small _ _)), sb h2, sc (k_logic_Not (a) (by first | assumption | exact land0_small _ _)), sc (k_logic_Not (b) (by first | assumption | exact land0_small _ _)), sc (k_logic_and ((lnot a).fst) ((lnot b).fst)), sc (k_logic_Not (land0 (lnot a).fst (lnot b).fst) (by first | assumption | exact land0_small _ _))] (by kernel_rfl) (by simp only [lor, cond_true, cond_false, h1, h2] <;> rfl)
    · exact walk E0ok mix0 At.logic_Or rfl (by kernel_rfl) (by kernel_rfl) 3000 (y := AV.tup [AV.agg [AV.v (Value.int IntKind.i64 (0 : Int)), AV.v (Value.int IntKind.i64 (0 : Int)), AV.v (Value.string (ByteArray.mk #[]))], AV.v (Value.bool false)]) [sc (k_logic_Valid (a) (by first | assumption | exact land0_small _ _)), sg h1, sc (k_logic_Valid (b) (by first | assumption | exact land0_small _ _)), sb h2] (by kernel_rfl) (by simp only [lor, cond_true, cond_false, h1, h2] <;> rfl)
  · exact walk E0ok mix0 At.logic_Or rfl (by kernel_rfl) (by kernel_rfl) 3000 (y := AV.tup [AV.agg [AV.v (Value.int IntKind.i64 (0 : Int)), AV.v (Value.int IntKind.i64 (0 : Int)), AV.v (Value.string (ByteArray.mk #[]))], AV.v (Value.bool false)]) [sc (k_logic_Valid (a) (by first | assumption | exact land0_small _ _)), sb h1] (by kernel_rfl) (by simp only [lor, cond_true, cond_false, h1] <;> rfl)
def isTrue (a : V) : Bool :=
  a.kind == (V.mk (2 : Int) (if true = true then (1 : Int) else (0 : Int)) (ByteArray.mk #[])).kind && (a.int == (V.mk (2 : Int) (if true = true then (1 : Int) else (0 : Int)) (ByteArray.mk #[])).int && (a.text == (V.mk (2 : Int) (if true = true then (1 : Int) else (0 : Int)) (ByteArray.mk #[])).text && true))
theorem k_logic_IsTrue (a : V)  : ACallsTo E0 S.logic_IsTrue [a.av] [] (bv (isTrue a)) [] := by
  exact walk E0ok mix0 At.logic_IsTrue rfl (by kernel_rfl) (by kernel_rfl) 3000 (y := AV.v (Value.bool (a.kind == (V.mk (2 : Int) (if true = true then (1 : Int) else (0 : Int)) (ByteArray.mk #[])).kind && (a.int == (V.mk (2 : Int) (if true = true then (1 : Int) else (0 : Int)) (ByteArray.mk #[])).int && (a.text == (V.mk (2 : Int) (if true = true then (1 : Int) else (0 : Int)) (ByteArray.mk #[])).text && true))))) [sd [(1, [sc (k_value_Truth (true))]), (2, [sq seq_Value])]] (by kernel_rfl) (rfl)
def aAdd (a b : Int) : Int × Bool :=
  bif decide ((0 : Int) < b) then
    bif decide (IntKind.i64.wrap ((9223372036854775807 : Int) - b) < a) then
      ((0 : Int), false)
    else
      bif decide (b < (0 : Int)) then
        bif decide (a < IntKind.i64.wrap ((-9223372036854775808 : Int) - b)) then
          ((0 : Int), false)
        else
          (IntKind.i64.wrap (a + b), true)
      else
        (IntKind.i64.wrap (a + b), true)
  else
    bif decide (b < (0 : Int)) then
      bif decide (a < IntKind.i64.wrap ((-9223372036854775808 : Int) - b)) then
        ((0 : Int), false)
      else
        (IntKind.i64.wrap (a + b), true)
    else
      (IntKind.i64.wrap (a + b), true)
theorem k_arith_Add (a b : Int)  : ACallsTo E0 S.arith_Add [iv a, iv b] [] (.tup [iv (aAdd a b).1, bv (aAdd a b).2]) [] := by
  cases h1 : decide ((0 : Int) < b)
  · cases h2 : decide (b < (0 : Int))
    · exact walk E0ok mix0 At.arith_Add rfl (by kernel_rfl) (by kernel_rfl) 3000 (y := AV.tup [AV.v (Value.int IntKind.i64 (IntKind.i64.wrap (a + b))), AV.v (Value.bool true)]) [sb h1, sb h2, si (e := IntKind.i64.wrap (a + b)) rfl] (by kernel_rfl) (by simp only [aAdd, cond_true, cond_false, h1, h2] <;> rfl)
    · cases h3 : decide (a < IntKind.i64.wrap ((-9223372036854775808 : Int) - b))
      · exact walk E0ok mix0 At.arith_Add rfl (by kernel_rfl) (by kernel_rfl) 3000 (y := AV.tup [AV.v (Value.int IntKind.i64 (IntKind.i64.wrap (a + b))), AV.v (Value.bool true)]) [sb h1, sg h2, si (e := IntKind.i64.wrap ((-9223372036854775808 : Int) - b)) rfl, sb h3, si (e := IntKind.i64.wrap (a + b)) rfl] (by kernel_rfl) (by simp only [aAdd, cond_true, cond_false, h1, h2, h3] <;> rfl)
      · exact walk E0ok mix0 At.arith_Add rfl (by kernel_rfl) (by kernel_rfl) 3000 (y := AV.tup [AV.v (Value.int IntKind.i64 (0 : Int)), AV.v (Value.bool false)]) [sb h1, sg h2, si (e := IntKind.i64.wrap ((-9223372036854775808 : Int) - b)) rfl, sb h3] (by kernel_rfl) (by simp only [aAdd, cond_true, cond_false, h1, h2, h3] <;> rfl)
  · cases h4 : decide (IntKind.i64.wrap ((9223372036854775807 : Int) - b) < a)
    · cases h5 : decide (b < (0 : Int))
      · exact walk E0ok mix0 At.arith_Add rfl (by kernel_rfl) (by kernel_rfl) 3000 (y := AV.tup [AV.v (Value.int IntKind.i64 (IntKind.i64.wrap (a + b))), AV.v (Value.bool true)]) [sg h1, si (e := IntKind.i64.wrap ((9223372036854775807 : Int) - b)) rfl, sg h4, sb h5, si (e := IntKind.i64.wrap (a + b)) rfl] (by kernel_rfl) (by simp only [aAdd, cond_true, cond_false, h1, h4, h5] <;> rfl)
      · cases h6 : decide (a < IntKind.i64.wrap ((-9223372036854775808 : Int) - b))
        · exact walk E0ok mix0 At.arith_Add rfl (by kernel_rfl) (by kernel_rfl) 3000 (y := AV.tup [AV.v (Value.int IntKind.i64 (IntKind.i64.wrap (a + b))), AV.v (Value.bool true)]) [sg h1, si (e := IntKind.i64.wrap ((9223372036854775807 : Int) - b)) rfl, sg h4, sg h5, si (e := IntKind.i64.wrap ((-9223372036854775808 : Int) - b)) rfl, sb h6, si (e := IntKind.i64.wrap (a + b)) rfl] (by kernel_rfl) (by simp only [aAdd, cond_true, cond_false, h1, h4, h5, h6] <;> rfl)
        · exact walk E0ok mix0 At.arith_Add rfl (by kernel_rfl) (by kernel_rfl) 3000 (y := AV.tup [AV.v (Value.int IntKind.i64 (0 : Int)), AV.v (Value.bool false)]) [sg h1, si (e := IntKind.i64.wrap ((9223372036854775807 : Int) - b)) rfl, sg h4, sg h5, si (e := IntKind.i64.wrap ((-9223372036854775808 : Int) - b)) rfl, sb h6] (by kernel_rfl) (by simp only [aAdd, cond_true, cond_false, h1, h4, h5, h6] <;> rfl)
    · exact walk E0ok mix0 At.arith_Add rfl (by kernel_rfl) (by kernel_rfl) 3000 (y := AV.tup [AV.v (Value.int IntKind.i64 (0 : Int)), AV.v (Value.bool false)]) [sg h1, si (e := IntKind.i64.wrap ((9223372036854775807 : Int) - b)) rfl, sb h4] (by kernel_rfl) (by simp only [aAdd, cond_true, cond_false, h1, h4] <;> rfl)
def aSub (a b : Int) : Int × Bool :=
  bif decide (b < (0 : Int)) then
    bif decide (IntKind.i64.wrap ((9223372036854775807 : Int) + b) < a) then
      ((0 : Int), false)
    else
      bif decide ((0 : Int) < b) then
        bif decide (a < IntKind.i64.wrap ((-9223372036854775808 : Int) + b)) then
          ((0 : Int), false)
        else
          (IntKind.i64.wrap (a - b), true)
      else
        (IntKind.i64.wrap (a - b), true)
  else
    bif decide ((0 : Int) < b) then
      bif decide (a < IntKind.i64.wrap ((-9223372036854775808 : Int) + b)) then
        ((0 : Int), false)
      else
        (IntKind.i64.wrap (a - b), true)
    else
      (IntKind.i64.wrap (a - b), true)
theorem k_arith_Subtract (a b : Int)  : ACallsTo E0 S.arith_Subtract [iv a, iv b] [] (.tup [iv (aSub a b).1, bv (aSub a b).2]) [] := by
  cases h1 : decide (b < (0 : Int))
  · cases h2 : decide ((0 : Int) < b)
    · exact walk E0ok mix0 At.arith_Subtract rfl (by kernel_rfl) (by kernel_rfl) 3000 (y := AV.tup [AV.v (Value.int IntKind.i64 (IntKind.i64.wrap (a - b))), AV.v (Value.bool true)]) [sb h1, sb h2, si (e := IntKind.i64.wrap (a - b)) rfl] (by kernel_rfl) (by simp only [aSub, cond_true, cond_false, h1, h2] <;> rfl)
    · cases h3 : decide (a < IntKind.i64.wrap ((-9223372036854775808 : Int) + b))
      · exact walk E0ok mix0 At.arith_Subtract rfl (by kernel_rfl) (by kernel_rfl) 3000 (y := AV.tup [AV.v (Value.int IntKind.i64 (IntKind.i64.wrap (a - b))), AV.v (Value.bool true)]) [sb h1, sg h2, si (e := IntKind.i64.wrap ((-9223372036854775808 : Int) + b)) rfl, sb h3, si (e := IntKind.i64.wrap (a - b)) rfl] (by kernel_rfl) (by simp only [aSub, cond_true, cond_false, h1, h2, h3] <;> rfl)
      · exact walk E0ok mix0 At.arith_Subtract rfl (by kernel_rfl) (by kernel_rfl) 3000 (y := AV.tup [AV.v (Value.int IntKind.i64 (0 : Int)), AV.v (Value.bool false)]) [sb h1, sg h2, si (e := IntKind.i64.wrap ((-9223372036854775808 : Int) + b)) rfl, sb h3] (by kernel_rfl) (by simp only [aSub, cond_true, cond_false, h1, h2, h3] <;> rfl)
  · cases h4 : decide (IntKind.i64.wrap ((9223372036854775807 : Int) + b) < a)
    · cases h5 : decide ((0 : Int) < b)
      · exact walk E0ok mix0 At.arith_Subtract rfl (by kernel_rfl) (by kernel_rfl) 3000 (y := AV.tup [AV.v (Value.int IntKind.i64 (IntKind.i64.wrap (a - b))), AV.v (Value.bool true)]) [sg h1, si (e := IntKind.i64.wrap ((9223372036854775807 : Int) + b)) rfl, sg h4, sb h5, si (e := IntKind.i64.wrap (a - b)) rfl] (by kernel_rfl) (by simp only [aSub, cond_true, cond_false, h1, h4, h5] <;> rfl)
      · cases h6 : decide (a < IntKind.i64.wrap ((-9223372036854775808 : Int) + b))
        · exact walk E0ok mix0 At.arith_Subtract rfl (by kernel_rfl) (by kernel_rfl) 3000 (y := AV.tup [AV.v (Value.int IntKind.i64 (IntKind.i64.wrap (a - b))), AV.v (Value.bool true)]) [sg h1, si (e := IntKind.i64.wrap ((9223372036854775807 : Int) + b)) rfl, sg h4, sg h5, si (e := IntKind.i64.wrap ((-9223372036854775808 : Int) + b)) rfl, sb h6, si (e := IntKind.i64.wrap (a - b)) rfl] (by kernel_rfl) (by simp only [aSub, cond_true, cond_false, h1, h4, h5, h6] <;> rfl)
        · exact walk E0ok mix0 At.arith_Subtract rfl (by kernel_rfl) (by kernel_rfl) 3000 (y := AV.tup [AV.v (Value.int IntKind.i64 (0 : Int)), AV.v (Value.bool false)]) [sg h1, si (e := IntKind.i64.wrap ((9223372036854775807 : Int) + b)) rfl, sg h4, sg h5, si (e := IntKind.i64.wrap ((-9223372036854775808 : Int) + b)) rfl, sb h6] (by kernel_rfl) (by simp only [aSub, cond_true, cond_false, h1, h4, h5, h6] <;> rfl)
    · exact walk E0ok mix0 At.arith_Subtract rfl (by kernel_rfl) (by kernel_rfl) 3000 (y := AV.tup [AV.v (Value.int IntKind.i64 (0 : Int)), AV.v (Value.bool false)]) [sg h1, si (e := IntKind.i64.wrap ((9223372036854775807 : Int) + b)) rfl, sb h4] (by kernel_rfl) (by simp only [aSub, cond_true, cond_false, h1, h4] <;> rfl)
def aMul (a b : Int) : Int × Bool :=
  bif a == (0 : Int) then
    ((0 : Int), true)
  else
    bif b == (0 : Int) then
      ((0 : Int), true)
    else
      bif a == (-9223372036854775808 : Int) then
        bif b == (-1 : Int) then
          ((0 : Int), false)
        else
          bif b == (-9223372036854775808 : Int) then
            bif a == (-1 : Int) then
              ((0 : Int), false)
            else
              bif IntKind.i64.wrap ((IntKind.i64.wrap (a * b)).tdiv b) != a then
                ((0 : Int), false)
              else
                (IntKind.i64.wrap (a * b), true)
          else
            bif IntKind.i64.wrap ((IntKind.i64.wrap (a * b)).tdiv b) != a then
              ((0 : Int), false)
            else
              (IntKind.i64.wrap (a * b), true)
      else
        bif b == (-9223372036854775808 : Int) then
          bif a == (-1 : Int) then
            ((0 : Int), false)
          else
            bif IntKind.i64.wrap ((IntKind.i64.wrap (a * b)).tdiv b) != a then
              ((0 : Int), false)
            else
              (IntKind.i64.wrap (a * b), true)
        else
          bif IntKind.i64.wrap ((IntKind.i64.wrap (a * b)).tdiv b) != a then
            ((0 : Int), false)
          else
            (IntKind.i64.wrap (a * b), true)
theorem k_arith_Multiply (a b : Int)  : ACallsTo E0 S.arith_Multiply [iv a, iv b] [] (.tup [iv (aMul a b).1, bv (aMul a b).2]) [] := by
  cases h1 : a == (0 : Int)
  · cases h2 : b == (0 : Int)
    · cases h3 : a == (-9223372036854775808 : Int)
      · cases h4 : b == (-9223372036854775808 : Int)
        · cases h5 : IntKind.i64.wrap ((IntKind.i64.wrap (a * b)).tdiv b) != a
          · exact walk E0ok mix0 At.arith_Multiply rfl (by kernel_rfl) (by kernel_rfl) 3000 (y := AV.tup [AV.v (Value.int IntKind.i64 (IntKind.i64.wrap (a * b))), AV.v (Value.bool true)]) [sg h1, sb h2, sb h3, sb h4, si (e := IntKind.i64.wrap (a * b)) rfl, sx (.i (IntKind.i64.wrap ((IntKind.i64.wrap (a * b)).tdiv b))) (show b ≠ (0 : Int) ∧ (IntKind.i64.wrap ((IntKind.i64.wrap (a * b)).tdiv b) : Int) = IntKind.i64.wrap ((IntKind.i64.wrap (a * b)).tdiv b) from ⟨(by simp_all), rfl⟩), sb h5] (by kernel_rfl) (by simp only [aMul, cond_true, cond_false, h1, h2, h3, h4, h5] <;> rfl)
          · exact walk E0ok mix0 At.arith_Multiply rfl (by kernel_rfl) (by kernel_rfl) 3000 (y := AV.tup [AV.v (Value.int IntKind.i64 (0 : Int)), AV.v (Value.bool false)]) [sg h1, sb h2, sb h3, sb h4, si (e := IntKind.i64.wrap (a * b)) rfl, sx (.i (IntKind.i64.wrap ((IntKind.i64.wrap (a * b)).tdiv b))) (show b ≠ (0 : Int) ∧ (IntKind.i64.wrap ((IntKind.i64.wrap (a * b)).tdiv b) : Int) = IntKind.i64.wrap ((IntKind.i64.wrap (a * b)).tdiv b) from ⟨(by simp_all), rfl⟩), sb h5] (by kernel_rfl) (by simp only [aMul, cond_true, cond_false, h1, h2, h3, h4, h5] <;> rfl)
        · cases h6 : a == (-1 : Int)
          · cases h7 : IntKind.i64.wrap ((IntKind.i64.wrap (a * b)).tdiv b) != a
            · exact walk E0ok mix0 At.arith_Multiply rfl (by kernel_rfl) (by kernel_rfl) 3000 (y := AV.tup [AV.v (Value.int IntKind.i64 (IntKind.i64.wrap (a * b))), AV.v (Value.bool true)]) [sg h1, sb h2, sb h3, sg h4, sb h6, si (e := IntKind.i64.wrap (a * b)) rfl, sx (.i (IntKind.i64.wrap ((IntKind.i64.wrap (a * b)).tdiv b))) (show b ≠ (0 : Int) ∧ (IntKind.i64.wrap ((IntKind.i64.wrap (a * b)).tdiv b) : Int) = IntKind.i64.wrap ((IntKind.i64.wrap (a * b)).tdiv b) from ⟨(by simp_all), rfl⟩), sb h7] (by kernel_rfl) (by simp only [aMul, cond_true, cond_false, h1, h2, h3, h4, h6, h7] <;> rfl)
            · exact walk E0ok mix0 At.arith_Multiply rfl (by kernel_rfl) (by kernel_rfl) 3000 (y := AV.tup [AV.v (Value.int IntKind.i64 (0 : Int)), AV.v (Value.bool false)]) [sg h1, sb h2, sb h3, sg h4, sb h6, si (e := IntKind.i64.wrap (a * b)) rfl, sx (.i (IntKind.i64.wrap ((IntKind.i64.wrap (a * b)).tdiv b))) (show b ≠ (0 : Int) ∧ (IntKind.i64.wrap ((IntKind.i64.wrap (a * b)).tdiv b) : Int) = IntKind.i64.wrap ((IntKind.i64.wrap (a * b)).tdiv b) from ⟨(by simp_all), rfl⟩), sb h7] (by kernel_rfl) (by simp only [aMul, cond_true, cond_false, h1, h2, h3, h4, h6, h7] <;> rfl)
          · exact walk E0ok mix0 At.arith_Multiply rfl (by kernel_rfl) (by kernel_rfl) 3000 (y := AV.tup [AV.v (Value.int IntKind.i64 (0 : Int)), AV.v (Value.bool false)]) [sg h1, sb h2, sb h3, sg h4, sb h6] (by kernel_rfl) (by simp only [aMul, cond_true, cond_false, h1, h2, h3, h4, h6] <;> rfl)
      · cases h8 : b == (-1 : Int)
        · cases h9 : b == (-9223372036854775808 : Int)
          · cases h10 : IntKind.i64.wrap ((IntKind.i64.wrap (a * b)).tdiv b) != a
            · exact walk E0ok mix0 At.arith_Multiply rfl (by kernel_rfl) (by kernel_rfl) 3000 (y := AV.tup [AV.v (Value.int IntKind.i64 (IntKind.i64.wrap (a * b))), AV.v (Value.bool true)]) [sg h1, sb h2, sg h3, sg h8, sb h9, si (e := IntKind.i64.wrap (a * b)) rfl, sx (.i (IntKind.i64.wrap ((IntKind.i64.wrap (a * b)).tdiv b))) (show b ≠ (0 : Int) ∧ (IntKind.i64.wrap ((IntKind.i64.wrap (a * b)).tdiv b) : Int) = IntKind.i64.wrap ((IntKind.i64.wrap (a * b)).tdiv b) from ⟨(by simp_all), rfl⟩), sb h10] (by kernel_rfl) (by simp only [aMul, cond_true, cond_false, h1, h2, h3, h8, h9, h10] <;> rfl)
            · exact walk E0ok mix0 At.arith_Multiply rfl (by kernel_rfl) (by kernel_rfl) 3000 (y := AV.tup [AV.v (Value.int IntKind.i64 (0 : Int)), AV.v (Value.bool false)]) [sg h1, sb h2, sg h3, sg h8, sb h9, si (e := IntKind.i64.wrap (a * b)) rfl, sx (.i (IntKind.i64.wrap ((IntKind.i64.wrap (a * b)).tdiv b))) (show b ≠ (0 : Int) ∧ (IntKind.i64.wrap ((IntKind.i64.wrap (a * b)).tdiv b) : Int) = IntKind.i64.wrap ((IntKind.i64.wrap (a * b)).tdiv b) from ⟨(by simp_all), rfl⟩), sb h10] (by kernel_rfl) (by simp only [aMul, cond_true, cond_false, h1, h2, h3, h8, h9, h10] <;> rfl)
          · cases h11 : a == (-1 : Int)
            · cases h12 : IntKind.i64.wrap ((IntKind.i64.wrap (a * b)).tdiv b) != a
              · exact walk E0ok mix0 At.arith_Multiply rfl (by kernel_rfl) (by kernel_rfl) 3000 (y := AV.tup [AV.v (Value.int IntKind.i64 (IntKind.i64.wrap (a * b))), AV.v (Value.bool true)]) [sg h1, sb h2, sg h3, sg h8, sg h9, sb h11, si (e := IntKind.i64.wrap (a * b)) rfl, sx (.i (IntKind.i64.wrap ((IntKind.i64.wrap (a * b)).tdiv b))) (show b ≠ (0 : Int) ∧ (IntKind.i64.wrap ((IntKind.i64.wrap (a * b)).tdiv b) : Int) = IntKind.i64.wrap ((IntKind.i64.wrap (a * b)).tdiv b) from ⟨(by simp_all), rfl⟩), sb h12] (by kernel_rfl) (by simp only [aMul, cond_true, cond_false, h1, h2, h3, h8, h9, h11, h12] <;> rfl)
              · exact walk E0ok mix0 At.arith_Multiply rfl (by kernel_rfl) (by kernel_rfl) 3000 (y := AV.tup [AV.v (Value.int IntKind.i64 (0 : Int)), AV.v (Value.bool false)]) [sg h1, sb h2, sg h3, sg h8, sg h9, sb h11, si (e := IntKind.i64.wrap (a * b)) rfl, sx (.i (IntKind.i64.wrap ((IntKind.i64.wrap (a * b)).tdiv b))) (show b ≠ (0 : Int) ∧ (IntKind.i64.wrap ((IntKind.i64.wrap (a * b)).tdiv b) : Int) = IntKind.i64.wrap ((IntKind.i64.wrap (a * b)).tdiv b) from ⟨(by simp_all), rfl⟩), sb h12] (by kernel_rfl) (by simp only [aMul, cond_true, cond_false, h1, h2, h3, h8, h9, h11, h12] <;> rfl)
            · exact walk E0ok mix0 At.arith_Multiply rfl (by kernel_rfl) (by kernel_rfl) 3000 (y := AV.tup [AV.v (Value.int IntKind.i64 (0 : Int)), AV.v (Value.bool false)]) [sg h1, sb h2, sg h3, sg h8, sg h9, sb h11] (by kernel_rfl) (by simp only [aMul, cond_true, cond_false, h1, h2, h3, h8, h9, h11] <;> rfl)
        · exact walk E0ok mix0 At.arith_Multiply rfl (by kernel_rfl) (by kernel_rfl) 3000 (y := AV.tup [AV.v (Value.int IntKind.i64 (0 : Int)), AV.v (Value.bool false)]) [sg h1, sb h2, sg h3, sb h8] (by kernel_rfl) (by simp only [aMul, cond_true, cond_false, h1, h2, h3, h8] <;> rfl)
    · exact walk E0ok mix0 At.arith_Multiply rfl (by kernel_rfl) (by kernel_rfl) 3000 (y := AV.tup [AV.v (Value.int IntKind.i64 (0 : Int)), AV.v (Value.bool true)]) [sg h1, sb h2] (by kernel_rfl) (by simp only [aMul, cond_true, cond_false, h1, h2] <;> rfl)
  · exact walk E0ok mix0 At.arith_Multiply rfl (by kernel_rfl) (by kernel_rfl) 3000 (y := AV.tup [AV.v (Value.int IntKind.i64 (0 : Int)), AV.v (Value.bool true)]) [sb h1] (by kernel_rfl) (by simp only [aMul, cond_true, cond_false, h1] <;> rfl)
def aDiv (a b : Int) : Int × Bool :=
  bif b == (0 : Int) then
    ((0 : Int), false)
  else
    bif a == (-9223372036854775808 : Int) then
      bif b == (-1 : Int) then
        ((0 : Int), false)
      else
        (IntKind.i64.wrap (a.tdiv b), true)
    else
      (IntKind.i64.wrap (a.tdiv b), true)
theorem k_arith_Divide (a b : Int)  : ACallsTo E0 S.arith_Divide [iv a, iv b] [] (.tup [iv (aDiv a b).1, bv (aDiv a b).2]) [] := by
  cases h1 : b == (0 : Int)
  · cases h2 : a == (-9223372036854775808 : Int)
    · exact walk E0ok mix0 At.arith_Divide rfl (by kernel_rfl) (by kernel_rfl) 3000 (y := AV.tup [AV.v (Value.int IntKind.i64 (IntKind.i64.wrap (a.tdiv b))), AV.v (Value.bool true)]) [sg h1, sb h2, sx (.i (IntKind.i64.wrap (a.tdiv b))) (show b ≠ (0 : Int) ∧ (IntKind.i64.wrap (a.tdiv b) : Int) = IntKind.i64.wrap (a.tdiv b) from ⟨(by simp_all), rfl⟩)] (by kernel_rfl) (by simp only [aDiv, cond_true, cond_false, h1, h2] <;> rfl)
    · cases h3 : b == (-1 : Int)
      · exact walk E0ok mix0 At.arith_Divide rfl (by kernel_rfl) (by kernel_rfl) 3000 (y := AV.tup [AV.v (Value.int IntKind.i64 (IntKind.i64.wrap (a.tdiv b))), AV.v (Value.bool true)]) [sg h1, sg h2, sb h3, sx (.i (IntKind.i64.wrap (a.tdiv b))) (show b ≠ (0 : Int) ∧ (IntKind.i64.wrap (a.tdiv b) : Int) = IntKind.i64.wrap (a.tdiv b) from ⟨(by simp_all), rfl⟩)] (by kernel_rfl) (by simp only [aDiv, cond_true, cond_false, h1, h2, h3] <;> rfl)
      · exact walk E0ok mix0 At.arith_Divide rfl (by kernel_rfl) (by kernel_rfl) 3000 (y := AV.tup [AV.v (Value.int IntKind.i64 (0 : Int)), AV.v (Value.bool false)]) [sg h1, sg h2, sb h3] (by kernel_rfl) (by simp only [aDiv, cond_true, cond_false, h1, h2, h3] <;> rfl)
  · exact walk E0ok mix0 At.arith_Divide rfl (by kernel_rfl) (by kernel_rfl) 3000 (y := AV.tup [AV.v (Value.int IntKind.i64 (0 : Int)), AV.v (Value.bool false)]) [sb h1] (by kernel_rfl) (by simp only [aDiv, cond_true, cond_false, h1] <;> rfl)
def aMod (a b : Int) : Int × Bool :=
  bif b == (0 : Int) then
    ((0 : Int), false)
  else
    bif b == (-1 : Int) then
      ((0 : Int), true)
    else
      (a.tmod b, true)
theorem k_arith_Modulo (a b : Int)  : ACallsTo E0 S.arith_Modulo [iv a, iv b] [] (.tup [iv (aMod a b).1, bv (aMod a b).2]) [] := by
  cases h1 : b == (0 : Int)
  · cases h2 : b == (-1 : Int)
    · exact walk E0ok mix0 At.arith_Modulo rfl (by kernel_rfl) (by kernel_rfl) 3000 (y := AV.tup [AV.v (Value.int IntKind.i64 (a.tmod b)), AV.v (Value.bool true)]) [sb h1, sb h2, sx (.i (a.tmod b)) (show b ≠ (0 : Int) ∧ (a.tmod b : Int) = a.tmod b from ⟨(by simp_all), rfl⟩)] (by kernel_rfl) (by simp only [aMod, cond_true, cond_false, h1, h2] <;> rfl)
    · exact walk E0ok mix0 At.arith_Modulo rfl (by kernel_rfl) (by kernel_rfl) 3000 (y := AV.tup [AV.v (Value.int IntKind.i64 (0 : Int)), AV.v (Value.bool true)]) [sb h1, sb h2] (by kernel_rfl) (by simp only [aMod, cond_true, cond_false, h1, h2] <;> rfl)
  · exact walk E0ok mix0 At.arith_Modulo rfl (by kernel_rfl) (by kernel_rfl) 3000 (y := AV.tup [AV.v (Value.int IntKind.i64 (0 : Int)), AV.v (Value.bool false)]) [sb h1] (by kernel_rfl) (by simp only [aMod, cond_true, cond_false, h1] <;> rfl)
def vTruth (v : V) (ok : Bool) : V × Int :=
  bif !ok then
    (V.mk (0 : Int) (0 : Int) (ByteArray.mk #[]), (5 : Int))
  else
    (v, (0 : Int))
theorem k_evaluate_truth (v : V) (ok : Bool)  : ACallsTo E0 S.evaluate_truth [v.av, bv ok] [] (.tup [(vTruth v ok).1.av, iv (vTruth v ok).2]) [] := by
  cases h1 : !ok
  · exact walk E0ok mix0 At.evaluate_truth rfl (by kernel_rfl) (by kernel_rfl) 3000 (y := AV.tup [AV.agg [AV.v (Value.int IntKind.i64 v.kind), AV.v (Value.int IntKind.i64 v.int), AV.v (Value.string v.text)], AV.v (Value.int IntKind.i64 (0 : Int))]) [sb h1] (by kernel_rfl) (by simp only [vTruth, cond_true, cond_false, h1] <;> rfl)
  · exact walk E0ok mix0 At.evaluate_truth rfl (by kernel_rfl) (by kernel_rfl) 3000 (y := AV.tup [AV.agg [AV.v (Value.int IntKind.i64 (0 : Int)), AV.v (Value.int IntKind.i64 (0 : Int)), AV.v (Value.string (ByteArray.mk #[]))], AV.v (Value.int IntKind.i64 (5 : Int))]) [sb h1] (by kernel_rfl) (by simp only [vTruth, cond_true, cond_false, h1] <;> rfl)
def cmpOp (op c : Int) : Bool := bif op == 3 then c == 0 else bif op == 4 then c != 0 else bif op == 5 then decide (c < 0) else bif op == 6 then decide (c ≤ 0) else bif op == 7 then decide (0 < c) else decide (0 ≤ c)
abbrev CmpArr (op c : Int) : Prop := ArrAt [.bl false, .bl false, .bl false, bv (c == 0), bv (c != 0), bv (decide (c < 0)), bv (decide (c ≤ 0)), bv (decide (0 < c)), bv (decide (0 ≤ c))] op 9 [bv (cmpOp op c)] 1
theorem arrCmp (op c : Int) (ho : 3 ≤ op ∧ op ≤ 8) : CmpArr op c := by
  have h : op = 3 ∨ op = 4 ∨ op = 5 ∨ op = 6 ∨ op = 7 ∨ op = 8 := by omega
  rcases h with rfl | rfl | rfl | rfl | rfl | rfl <;> exact ⟨by decide, by decide, rfl, rfl⟩
def vCmp (op : Int) (a b : V) : V × Int :=
  bif a.kind == (0 : Int) then
    (V.mk (0 : Int) (0 : Int) (ByteArray.mk #[]), (0 : Int))
  else
    bif b.kind == (0 : Int) then
      (V.mk (0 : Int) (0 : Int) (ByteArray.mk #[]), (0 : Int))
    else
      bif a.kind != b.kind then
        (V.mk (0 : Int) (0 : Int) (ByteArray.mk #[]), (5 : Int))
      else
        (V.mk (2 : Int) (if cmpOp op (cmpV a b) = true then (1 : Int) else (0 : Int)) (ByteArray.mk #[]), (0 : Int))
theorem k_evaluate_comparison (op : Int) (a b : V) (he : ArrAt [.bl false, .bl false, .bl false, bv (cmpV a b == 0), bv (cmpV a b != 0), bv (decide (cmpV a b < 0)), bv (decide (cmpV a b ≤ 0)), bv (decide (0 < cmpV a b)), bv (decide (0 ≤ cmpV a b))] op 9 [bv (cmpOp op (cmpV a b))] 1) : ACallsTo E0 S.evaluate_comparison [iv op, a.av, b.av] [] (.tup [(vCmp op a b).1.av, iv (vCmp op a b).2]) [] := by
  cases h1 : a.kind == (0 : Int)
  · cases h2 : b.kind == (0 : Int)
    · cases h3 : a.kind != b.kind
      · exact walk E0ok mix0 At.evaluate_comparison rfl (by kernel_rfl) (by kernel_rfl) 3000 (y := AV.tup [AV.agg [AV.v (Value.int IntKind.i64 (V.mk (2 : Int) (if cmpOp op (cmpV a b) = true then (1 : Int) else (0 : Int)) (ByteArray.mk #[])).kind), AV.v (Value.int IntKind.i64 (V.mk (2 : Int) (if cmpOp op (cmpV a b) = true then (1 : Int) else (0 : Int)) (ByteArray.mk #[])).int), AV.v (Value.string (V.mk (2 : Int) (if cmpOp op (cmpV a b) = true then (1 : Int) else (0 : Int)) (ByteArray.mk #[])).text)], AV.v (Value.int IntKind.i64 (0 : Int))]) [sc (k_evaluate_isNull (a)), sg h1, sc (k_evaluate_isNull (b)), sb h2, sb h3, sc (k_value_Compare (a) (b)), sa he, sc (k_value_Truth (cmpOp op (cmpV a b)))] (by kernel_rfl) (by simp only [vCmp, cond_true, cond_false, h1, h2, h3] <;> rfl)
      · exact walk E0ok mix0 At.evaluate_comparison rfl (by kernel_rfl) (by kernel_rfl) 3000 (y := AV.tup [AV.agg [AV.v (Value.int IntKind.i64 (0 : Int)), AV.v (Value.int IntKind.i64 (0 : Int)), AV.v (Value.string (ByteArray.mk #[]))], AV.v (Value.int IntKind.i64 (5 : Int))]) [sc (k_evaluate_isNull (a)), sg h1, sc (k_evaluate_isNull (b)), sb h2, sb h3] (by kernel_rfl) (by simp only [vCmp, cond_true, cond_false, h1, h2, h3] <;> rfl)
    · exact walk E0ok mix0 At.evaluate_comparison rfl (by kernel_rfl) (by kernel_rfl) 3000 (y := AV.tup [AV.agg [AV.v (Value.int IntKind.i64 (0 : Int)), AV.v (Value.int IntKind.i64 (0 : Int)), AV.v (Value.string (ByteArray.mk #[]))], AV.v (Value.int IntKind.i64 (0 : Int))]) [sc (k_evaluate_isNull (a)), sg h1, sc (k_evaluate_isNull (b)), sb h2] (by kernel_rfl) (by simp only [vCmp, cond_true, cond_false, h1, h2] <;> rfl)
  · exact walk E0ok mix0 At.evaluate_comparison rfl (by kernel_rfl) (by kernel_rfl) 3000 (y := AV.tup [AV.agg [AV.v (Value.int IntKind.i64 (0 : Int)), AV.v (Value.int IntKind.i64 (0 : Int)), AV.v (Value.string (ByteArray.mk #[]))], AV.v (Value.int IntKind.i64 (0 : Int))]) [sc (k_evaluate_isNull (a)), sb h1] (by kernel_rfl) (by simp only [vCmp, cond_true, cond_false, h1] <;> rfl)
def vArith (op : Int) (a b : V) : V × Int :=
  bif a.kind == (0 : Int) then
    (V.mk (0 : Int) (0 : Int) (ByteArray.mk #[]), (0 : Int))
  else
    bif b.kind == (0 : Int) then
      (V.mk (0 : Int) (0 : Int) (ByteArray.mk #[]), (0 : Int))
    else
      bif a.kind != (1 : Int) then
        (V.mk (0 : Int) (0 : Int) (ByteArray.mk #[]), (5 : Int))
      else
        bif b.kind != (1 : Int) then
          (V.mk (0 : Int) (0 : Int) (ByteArray.mk #[]), (5 : Int))
        else
          bif op == (12 : Int) then
            bif b.int == (0 : Int) then
              (V.mk (0 : Int) (0 : Int) (ByteArray.mk #[]), (7 : Int))
            else
              bif op == (9 : Int) then
                bif !(aAdd a.int b.int).snd then
                  (V.mk (0 : Int) (0 : Int) (ByteArray.mk #[]), (6 : Int))
                else
                  (V.mk (1 : Int) (aAdd a.int b.int).fst (ByteArray.mk #[]), (0 : Int))
              else
                bif op == (10 : Int) then
                  bif !(aSub a.int b.int).snd then
                    (V.mk (0 : Int) (0 : Int) (ByteArray.mk #[]), (6 : Int))
                  else
                    (V.mk (1 : Int) (aSub a.int b.int).fst (ByteArray.mk #[]), (0 : Int))
                else
                  bif op == (11 : Int) then
                    bif !(aMul a.int b.int).snd then
                      (V.mk (0 : Int) (0 : Int) (ByteArray.mk #[]), (6 : Int))
                    else
                      (V.mk (1 : Int) (aMul a.int b.int).fst (ByteArray.mk #[]), (0 : Int))
                  else
                    bif !(aDiv a.int b.int).snd then
                      (V.mk (0 : Int) (0 : Int) (ByteArray.mk #[]), (6 : Int))
                    else
                      (V.mk (1 : Int) (aDiv a.int b.int).fst (ByteArray.mk #[]), (0 : Int))
          else
            bif op == (13 : Int) then
              bif b.int == (0 : Int) then
                (V.mk (0 : Int) (0 : Int) (ByteArray.mk #[]), (7 : Int))
              else
                bif op == (9 : Int) then
                  bif !(aAdd a.int b.int).snd then
                    (V.mk (0 : Int) (0 : Int) (ByteArray.mk #[]), (6 : Int))
                  else
                    (V.mk (1 : Int) (aAdd a.int b.int).fst (ByteArray.mk #[]), (0 : Int))
                else
                  bif op == (10 : Int) then
                    bif !(aSub a.int b.int).snd then
                      (V.mk (0 : Int) (0 : Int) (ByteArray.mk #[]), (6 : Int))
                    else
                      (V.mk (1 : Int) (aSub a.int b.int).fst (ByteArray.mk #[]), (0 : Int))
                  else
                    bif op == (11 : Int) then
                      bif !(aMul a.int b.int).snd then
                        (V.mk (0 : Int) (0 : Int) (ByteArray.mk #[]), (6 : Int))
                      else
                        (V.mk (1 : Int) (aMul a.int b.int).fst (ByteArray.mk #[]), (0 : Int))
                    else
                      bif !(aMod a.int b.int).snd then
                        (V.mk (0 : Int) (0 : Int) (ByteArray.mk #[]), (6 : Int))
                      else
                        (V.mk (1 : Int) (aMod a.int b.int).fst (ByteArray.mk #[]), (0 : Int))
            else
              bif op == (9 : Int) then
                bif !(aAdd a.int b.int).snd then
                  (V.mk (0 : Int) (0 : Int) (ByteArray.mk #[]), (6 : Int))
                else
                  (V.mk (1 : Int) (aAdd a.int b.int).fst (ByteArray.mk #[]), (0 : Int))
              else
                bif op == (10 : Int) then
                  bif !(aSub a.int b.int).snd then
                    (V.mk (0 : Int) (0 : Int) (ByteArray.mk #[]), (6 : Int))
                  else
                    (V.mk (1 : Int) (aSub a.int b.int).fst (ByteArray.mk #[]), (0 : Int))
                else
                  bif op == (11 : Int) then
                    bif !(aMul a.int b.int).snd then
                      (V.mk (0 : Int) (0 : Int) (ByteArray.mk #[]), (6 : Int))
                    else
                      (V.mk (1 : Int) (aMul a.int b.int).fst (ByteArray.mk #[]), (0 : Int))
                  else
                    (V.mk (0 : Int) (0 : Int) (ByteArray.mk #[]), (6 : Int))
theorem k_evaluate_arithmetic (op : Int) (a b : V)  : ACallsTo E0 S.evaluate_arithmetic [iv op, a.av, b.av] [] (.tup [(vArith op a b).1.av, iv (vArith op a b).2]) [] := by
  cases h1 : a.kind == (0 : Int)
  · cases h2 : b.kind == (0 : Int)
    · cases h3 : a.kind != (1 : Int)
      · cases h4 : b.kind != (1 : Int)
        · cases h5 : op == (12 : Int)
          · cases h6 : op == (13 : Int)
            · cases h7 : op == (9 : Int)
              · cases h8 : op == (10 : Int)
                · cases h9 : op == (11 : Int)
                  · exact walk E0ok mix0 At.evaluate_arithmetic rfl (by kernel_rfl) (by kernel_rfl) 3000 (y := AV.tup [AV.agg [AV.v (Value.int IntKind.i64 (0 : Int)), AV.v (Value.int IntKind.i64 (0 : Int)), AV.v (Value.string (ByteArray.mk #[]))], AV.v (Value.int IntKind.i64 (6 : Int))]) [sc (k_evaluate_isNull (a)), sg h1, sc (k_evaluate_isNull (b)), sb h2, sg h3, sb h4, sg h5, sb h6, sb h7, sb h8, sb h9, sb h5, sb h6] (by kernel_rfl) (by simp only [vArith, cond_true, cond_false, h1, h2, h3, h4, h5, h6, h7, h8, h9] <;> rfl)
                  · cases h10 : !(aMul a.int b.int).snd
                    · exact walk E0ok mix0 At.evaluate_arithmetic rfl (by kernel_rfl) (by kernel_rfl) 3000 (y := AV.tup [AV.agg [AV.v (Value.int IntKind.i64 (V.mk (1 : Int) (aMul a.int b.int).fst (ByteArray.mk #[])).kind), AV.v (Value.int IntKind.i64 (V.mk (1 : Int) (aMul a.int b.int).fst (ByteArray.mk #[])).int), AV.v (Value.string (V.mk (1 : Int) (aMul a.int b.int).fst (ByteArray.mk #[])).text)], AV.v (Value.int IntKind.i64 (0 : Int))]) [sc (k_evaluate_isNull (a)), sg h1, sc (k_evaluate_isNull (b)), sb h2, sg h3, sb h4, sg h5, sb h6, sb h7, sb h8, sb h9, sc (k_arith_Multiply (a.int) (b.int)), sb h10, sc (k_value_Number ((aMul a.int b.int).fst))] (by kernel_rfl) (by simp only [vArith, cond_true, cond_false, h1, h2, h3, h4, h5, h6, h7, h8, h9, h10] <;> rfl)
                    · exact walk E0ok mix0 At.evaluate_arithmetic rfl (by kernel_rfl) (by kernel_rfl) 3000 (y := AV.tup [AV.agg [AV.v (Value.int IntKind.i64 (0 : Int)), AV.v (Value.int IntKind.i64 (0 : Int)), AV.v (Value.string (ByteArray.mk #[]))], AV.v (Value.int IntKind.i64 (6 : Int))]) [sc (k_evaluate_isNull (a)), sg h1, sc (k_evaluate_isNull (b)), sb h2, sg h3, sb h4, sg h5, sb h6, sb h7, sb h8, sb h9, sc (k_arith_Multiply (a.int) (b.int)), sb h10] (by kernel_rfl) (by simp only [vArith, cond_true, cond_false, h1, h2, h3, h4, h5, h6, h7, h8, h9, h10] <;> rfl)
                · cases h11 : !(aSub a.int b.int).snd
                  · exact walk E0ok mix0 At.evaluate_arithmetic rfl (by kernel_rfl) (by kernel_rfl) 3000 (y := AV.tup [AV.agg [AV.v (Value.int IntKind.i64 (V.mk (1 : Int) (aSub a.int b.int).fst (ByteArray.mk #[])).kind), AV.v (Value.int IntKind.i64 (V.mk (1 : Int) (aSub a.int b.int).fst (ByteArray.mk #[])).int), AV.v (Value.string (V.mk (1 : Int) (aSub a.int b.int).fst (ByteArray.mk #[])).text)], AV.v (Value.int IntKind.i64 (0 : Int))]) [sc (k_evaluate_isNull (a)), sg h1, sc (k_evaluate_isNull (b)), sb h2, sg h3, sb h4, sg h5, sb h6, sb h7, sb h8, sc (k_arith_Subtract (a.int) (b.int)), sb h11, sc (k_value_Number ((aSub a.int b.int).fst))] (by kernel_rfl) (by simp only [vArith, cond_true, cond_false, h1, h2, h3, h4, h5, h6, h7, h8, h11] <;> rfl)
                  · exact walk E0ok mix0 At.evaluate_arithmetic rfl (by kernel_rfl) (by kernel_rfl) 3000 (y := AV.tup [AV.agg [AV.v (Value.int IntKind.i64 (0 : Int)), AV.v (Value.int IntKind.i64 (0 : Int)), AV.v (Value.string (ByteArray.mk #[]))], AV.v (Value.int IntKind.i64 (6 : Int))]) [sc (k_evaluate_isNull (a)), sg h1, sc (k_evaluate_isNull (b)), sb h2, sg h3, sb h4, sg h5, sb h6, sb h7, sb h8, sc (k_arith_Subtract (a.int) (b.int)), sb h11] (by kernel_rfl) (by simp only [vArith, cond_true, cond_false, h1, h2, h3, h4, h5, h6, h7, h8, h11] <;> rfl)
              · cases h12 : !(aAdd a.int b.int).snd
                · exact walk E0ok mix0 At.evaluate_arithmetic rfl (by kernel_rfl) (by kernel_rfl) 3000 (y := AV.tup [AV.agg [AV.v (Value.int IntKind.i64 (V.mk (1 : Int) (aAdd a.int b.int).fst (ByteArray.mk #[])).kind), AV.v (Value.int IntKind.i64 (V.mk (1 : Int) (aAdd a.int b.int).fst (ByteArray.mk #[])).int), AV.v (Value.string (V.mk (1 : Int) (aAdd a.int b.int).fst (ByteArray.mk #[])).text)], AV.v (Value.int IntKind.i64 (0 : Int))]) [sc (k_evaluate_isNull (a)), sg h1, sc (k_evaluate_isNull (b)), sb h2, sg h3, sb h4, sg h5, sb h6, sb h7, sc (k_arith_Add (a.int) (b.int)), sb h12, sc (k_value_Number ((aAdd a.int b.int).fst))] (by kernel_rfl) (by simp only [vArith, cond_true, cond_false, h1, h2, h3, h4, h5, h6, h7, h12] <;> rfl)
                · exact walk E0ok mix0 At.evaluate_arithmetic rfl (by kernel_rfl) (by kernel_rfl) 3000 (y := AV.tup [AV.agg [AV.v (Value.int IntKind.i64 (0 : Int)), AV.v (Value.int IntKind.i64 (0 : Int)), AV.v (Value.string (ByteArray.mk #[]))], AV.v (Value.int IntKind.i64 (6 : Int))]) [sc (k_evaluate_isNull (a)), sg h1, sc (k_evaluate_isNull (b)), sb h2, sg h3, sb h4, sg h5, sb h6, sb h7, sc (k_arith_Add (a.int) (b.int)), sb h12] (by kernel_rfl) (by simp only [vArith, cond_true, cond_false, h1, h2, h3, h4, h5, h6, h7, h12] <;> rfl)
            · cases h13 : b.int == (0 : Int)
              · cases h14 : op == (9 : Int)
                · cases h15 : op == (10 : Int)
                  · cases h16 : op == (11 : Int)
                    · cases h17 : !(aMod a.int b.int).snd
                      · exact walk E0ok mix0 At.evaluate_arithmetic rfl (by kernel_rfl) (by kernel_rfl) 3000 (y := AV.tup [AV.agg [AV.v (Value.int IntKind.i64 (V.mk (1 : Int) (aMod a.int b.int).fst (ByteArray.mk #[])).kind), AV.v (Value.int IntKind.i64 (V.mk (1 : Int) (aMod a.int b.int).fst (ByteArray.mk #[])).int), AV.v (Value.string (V.mk (1 : Int) (aMod a.int b.int).fst (ByteArray.mk #[])).text)], AV.v (Value.int IntKind.i64 (0 : Int))]) [sc (k_evaluate_isNull (a)), sg h1, sc (k_evaluate_isNull (b)), sb h2, sg h3, sb h4, sg h5, sg h6, sb h13, sb h14, sb h15, sb h16, sb h5, sb h6, sc (k_arith_Modulo (a.int) (b.int)), sb h17, sc (k_value_Number ((aMod a.int b.int).fst))] (by kernel_rfl) (by simp only [vArith, cond_true, cond_false, h1, h2, h3, h4, h5, h6, h13, h14, h15, h16, h17] <;> rfl)
                      · exact walk E0ok mix0 At.evaluate_arithmetic rfl (by kernel_rfl) (by kernel_rfl) 3000 (y := AV.tup [AV.agg [AV.v (Value.int IntKind.i64 (0 : Int)), AV.v (Value.int IntKind.i64 (0 : Int)), AV.v (Value.string (ByteArray.mk #[]))], AV.v (Value.int IntKind.i64 (6 : Int))]) [sc (k_evaluate_isNull (a)), sg h1, sc (k_evaluate_isNull (b)), sb h2, sg h3, sb h4, sg h5, sg h6, sb h13, sb h14, sb h15, sb h16, sb h5, sb h6, sc (k_arith_Modulo (a.int) (b.int)), sb h17] (by kernel_rfl) (by simp only [vArith, cond_true, cond_false, h1, h2, h3, h4, h5, h6, h13, h14, h15, h16, h17] <;> rfl)
                    · cases h18 : !(aMul a.int b.int).snd
                      · exact walk E0ok mix0 At.evaluate_arithmetic rfl (by kernel_rfl) (by kernel_rfl) 3000 (y := AV.tup [AV.agg [AV.v (Value.int IntKind.i64 (V.mk (1 : Int) (aMul a.int b.int).fst (ByteArray.mk #[])).kind), AV.v (Value.int IntKind.i64 (V.mk (1 : Int) (aMul a.int b.int).fst (ByteArray.mk #[])).int), AV.v (Value.string (V.mk (1 : Int) (aMul a.int b.int).fst (ByteArray.mk #[])).text)], AV.v (Value.int IntKind.i64 (0 : Int))]) [sc (k_evaluate_isNull (a)), sg h1, sc (k_evaluate_isNull (b)), sb h2, sg h3, sb h4, sg h5, sg h6, sb h13, sb h14, sb h15, sb h16, sc (k_arith_Multiply (a.int) (b.int)), sb h18, sc (k_value_Number ((aMul a.int b.int).fst))] (by kernel_rfl) (by simp only [vArith, cond_true, cond_false, h1, h2, h3, h4, h5, h6, h13, h14, h15, h16, h18] <;> rfl)
                      · exact walk E0ok mix0 At.evaluate_arithmetic rfl (by kernel_rfl) (by kernel_rfl) 3000 (y := AV.tup [AV.agg [AV.v (Value.int IntKind.i64 (0 : Int)), AV.v (Value.int IntKind.i64 (0 : Int)), AV.v (Value.string (ByteArray.mk #[]))], AV.v (Value.int IntKind.i64 (6 : Int))]) [sc (k_evaluate_isNull (a)), sg h1, sc (k_evaluate_isNull (b)), sb h2, sg h3, sb h4, sg h5, sg h6, sb h13, sb h14, sb h15, sb h16, sc (k_arith_Multiply (a.int) (b.int)), sb h18] (by kernel_rfl) (by simp only [vArith, cond_true, cond_false, h1, h2, h3, h4, h5, h6, h13, h14, h15, h16, h18] <;> rfl)
                  · cases h19 : !(aSub a.int b.int).snd
                    · exact walk E0ok mix0 At.evaluate_arithmetic rfl (by kernel_rfl) (by kernel_rfl) 3000 (y := AV.tup [AV.agg [AV.v (Value.int IntKind.i64 (V.mk (1 : Int) (aSub a.int b.int).fst (ByteArray.mk #[])).kind), AV.v (Value.int IntKind.i64 (V.mk (1 : Int) (aSub a.int b.int).fst (ByteArray.mk #[])).int), AV.v (Value.string (V.mk (1 : Int) (aSub a.int b.int).fst (ByteArray.mk #[])).text)], AV.v (Value.int IntKind.i64 (0 : Int))]) [sc (k_evaluate_isNull (a)), sg h1, sc (k_evaluate_isNull (b)), sb h2, sg h3, sb h4, sg h5, sg h6, sb h13, sb h14, sb h15, sc (k_arith_Subtract (a.int) (b.int)), sb h19, sc (k_value_Number ((aSub a.int b.int).fst))] (by kernel_rfl) (by simp only [vArith, cond_true, cond_false, h1, h2, h3, h4, h5, h6, h13, h14, h15, h19] <;> rfl)
                    · exact walk E0ok mix0 At.evaluate_arithmetic rfl (by kernel_rfl) (by kernel_rfl) 3000 (y := AV.tup [AV.agg [AV.v (Value.int IntKind.i64 (0 : Int)), AV.v (Value.int IntKind.i64 (0 : Int)), AV.v (Value.string (ByteArray.mk #[]))], AV.v (Value.int IntKind.i64 (6 : Int))]) [sc (k_evaluate_isNull (a)), sg h1, sc (k_evaluate_isNull (b)), sb h2, sg h3, sb h4, sg h5, sg h6, sb h13, sb h14, sb h15, sc (k_arith_Subtract (a.int) (b.int)), sb h19] (by kernel_rfl) (by simp only [vArith, cond_true, cond_false, h1, h2, h3, h4, h5, h6, h13, h14, h15, h19] <;> rfl)
                · cases h20 : !(aAdd a.int b.int).snd
                  · exact walk E0ok mix0 At.evaluate_arithmetic rfl (by kernel_rfl) (by kernel_rfl) 3000 (y := AV.tup [AV.agg [AV.v (Value.int IntKind.i64 (V.mk (1 : Int) (aAdd a.int b.int).fst (ByteArray.mk #[])).kind), AV.v (Value.int IntKind.i64 (V.mk (1 : Int) (aAdd a.int b.int).fst (ByteArray.mk #[])).int), AV.v (Value.string (V.mk (1 : Int) (aAdd a.int b.int).fst (ByteArray.mk #[])).text)], AV.v (Value.int IntKind.i64 (0 : Int))]) [sc (k_evaluate_isNull (a)), sg h1, sc (k_evaluate_isNull (b)), sb h2, sg h3, sb h4, sg h5, sg h6, sb h13, sb h14, sc (k_arith_Add (a.int) (b.int)), sb h20, sc (k_value_Number ((aAdd a.int b.int).fst))] (by kernel_rfl) (by simp only [vArith, cond_true, cond_false, h1, h2, h3, h4, h5, h6, h13, h14, h20] <;> rfl)
                  · exact walk E0ok mix0 At.evaluate_arithmetic rfl (by kernel_rfl) (by kernel_rfl) 3000 (y := AV.tup [AV.agg [AV.v (Value.int IntKind.i64 (0 : Int)), AV.v (Value.int IntKind.i64 (0 : Int)), AV.v (Value.string (ByteArray.mk #[]))], AV.v (Value.int IntKind.i64 (6 : Int))]) [sc (k_evaluate_isNull (a)), sg h1, sc (k_evaluate_isNull (b)), sb h2, sg h3, sb h4, sg h5, sg h6, sb h13, sb h14, sc (k_arith_Add (a.int) (b.int)), sb h20] (by kernel_rfl) (by simp only [vArith, cond_true, cond_false, h1, h2, h3, h4, h5, h6, h13, h14, h20] <;> rfl)
              · exact walk E0ok mix0 At.evaluate_arithmetic rfl (by kernel_rfl) (by kernel_rfl) 3000 (y := AV.tup [AV.agg [AV.v (Value.int IntKind.i64 (0 : Int)), AV.v (Value.int IntKind.i64 (0 : Int)), AV.v (Value.string (ByteArray.mk #[]))], AV.v (Value.int IntKind.i64 (7 : Int))]) [sc (k_evaluate_isNull (a)), sg h1, sc (k_evaluate_isNull (b)), sb h2, sg h3, sb h4, sg h5, sg h6, sb h13] (by kernel_rfl) (by simp only [vArith, cond_true, cond_false, h1, h2, h3, h4, h5, h6, h13] <;> rfl)
          · cases h21 : b.int == (0 : Int)
            · cases h22 : op == (9 : Int)
              · cases h23 : op == (10 : Int)
                · cases h24 : op == (11 : Int)
                  · cases h25 : !(aDiv a.int b.int).snd
                    · exact walk E0ok mix0 At.evaluate_arithmetic rfl (by kernel_rfl) (by kernel_rfl) 3000 (y := AV.tup [AV.agg [AV.v (Value.int IntKind.i64 (V.mk (1 : Int) (aDiv a.int b.int).fst (ByteArray.mk #[])).kind), AV.v (Value.int IntKind.i64 (V.mk (1 : Int) (aDiv a.int b.int).fst (ByteArray.mk #[])).int), AV.v (Value.string (V.mk (1 : Int) (aDiv a.int b.int).fst (ByteArray.mk #[])).text)], AV.v (Value.int IntKind.i64 (0 : Int))]) [sc (k_evaluate_isNull (a)), sg h1, sc (k_evaluate_isNull (b)), sb h2, sg h3, sb h4, sb h5, sb h21, sb h22, sb h23, sb h24, sb h5, sc (k_arith_Divide (a.int) (b.int)), sb h25, sc (k_value_Number ((aDiv a.int b.int).fst))] (by kernel_rfl) (by simp only [vArith, cond_true, cond_false, h1, h2, h3, h4, h5, h21, h22, h23, h24, h25] <;> rfl)
                    · exact walk E0ok mix0 At.evaluate_arithmetic rfl (by kernel_rfl) (by kernel_rfl) 3000 (y := AV.tup [AV.agg [AV.v (Value.int IntKind.i64 (0 : Int)), AV.v (Value.int IntKind.i64 (0 : Int)), AV.v (Value.string (ByteArray.mk #[]))], AV.v (Value.int IntKind.i64 (6 : Int))]) [sc (k_evaluate_isNull (a)), sg h1, sc (k_evaluate_isNull (b)), sb h2, sg h3, sb h4, sb h5, sb h21, sb h22, sb h23, sb h24, sb h5, sc (k_arith_Divide (a.int) (b.int)), sb h25] (by kernel_rfl) (by simp only [vArith, cond_true, cond_false, h1, h2, h3, h4, h5, h21, h22, h23, h24, h25] <;> rfl)
                  · cases h26 : !(aMul a.int b.int).snd
                    · exact walk E0ok mix0 At.evaluate_arithmetic rfl (by kernel_rfl) (by kernel_rfl) 3000 (y := AV.tup [AV.agg [AV.v (Value.int IntKind.i64 (V.mk (1 : Int) (aMul a.int b.int).fst (ByteArray.mk #[])).kind), AV.v (Value.int IntKind.i64 (V.mk (1 : Int) (aMul a.int b.int).fst (ByteArray.mk #[])).int), AV.v (Value.string (V.mk (1 : Int) (aMul a.int b.int).fst (ByteArray.mk #[])).text)], AV.v (Value.int IntKind.i64 (0 : Int))]) [sc (k_evaluate_isNull (a)), sg h1, sc (k_evaluate_isNull (b)), sb h2, sg h3, sb h4, sb h5, sb h21, sb h22, sb h23, sb h24, sc (k_arith_Multiply (a.int) (b.int)), sb h26, sc (k_value_Number ((aMul a.int b.int).fst))] (by kernel_rfl) (by simp only [vArith, cond_true, cond_false, h1, h2, h3, h4, h5, h21, h22, h23, h24, h26] <;> rfl)
                    · exact walk E0ok mix0 At.evaluate_arithmetic rfl (by kernel_rfl) (by kernel_rfl) 3000 (y := AV.tup [AV.agg [AV.v (Value.int IntKind.i64 (0 : Int)), AV.v (Value.int IntKind.i64 (0 : Int)), AV.v (Value.string (ByteArray.mk #[]))], AV.v (Value.int IntKind.i64 (6 : Int))]) [sc (k_evaluate_isNull (a)), sg h1, sc (k_evaluate_isNull (b)), sb h2, sg h3, sb h4, sb h5, sb h21, sb h22, sb h23, sb h24, sc (k_arith_Multiply (a.int) (b.int)), sb h26] (by kernel_rfl) (by simp only [vArith, cond_true, cond_false, h1, h2, h3, h4, h5, h21, h22, h23, h24, h26] <;> rfl)
                · cases h27 : !(aSub a.int b.int).snd
                  · exact walk E0ok mix0 At.evaluate_arithmetic rfl (by kernel_rfl) (by kernel_rfl) 3000 (y := AV.tup [AV.agg [AV.v (Value.int IntKind.i64 (V.mk (1 : Int) (aSub a.int b.int).fst (ByteArray.mk #[])).kind), AV.v (Value.int IntKind.i64 (V.mk (1 : Int) (aSub a.int b.int).fst (ByteArray.mk #[])).int), AV.v (Value.string (V.mk (1 : Int) (aSub a.int b.int).fst (ByteArray.mk #[])).text)], AV.v (Value.int IntKind.i64 (0 : Int))]) [sc (k_evaluate_isNull (a)), sg h1, sc (k_evaluate_isNull (b)), sb h2, sg h3, sb h4, sb h5, sb h21, sb h22, sb h23, sc (k_arith_Subtract (a.int) (b.int)), sb h27, sc (k_value_Number ((aSub a.int b.int).fst))] (by kernel_rfl) (by simp only [vArith, cond_true, cond_false, h1, h2, h3, h4, h5, h21, h22, h23, h27] <;> rfl)
                  · exact walk E0ok mix0 At.evaluate_arithmetic rfl (by kernel_rfl) (by kernel_rfl) 3000 (y := AV.tup [AV.agg [AV.v (Value.int IntKind.i64 (0 : Int)), AV.v (Value.int IntKind.i64 (0 : Int)), AV.v (Value.string (ByteArray.mk #[]))], AV.v (Value.int IntKind.i64 (6 : Int))]) [sc (k_evaluate_isNull (a)), sg h1, sc (k_evaluate_isNull (b)), sb h2, sg h3, sb h4, sb h5, sb h21, sb h22, sb h23, sc (k_arith_Subtract (a.int) (b.int)), sb h27] (by kernel_rfl) (by simp only [vArith, cond_true, cond_false, h1, h2, h3, h4, h5, h21, h22, h23, h27] <;> rfl)
              · cases h28 : !(aAdd a.int b.int).snd
                · exact walk E0ok mix0 At.evaluate_arithmetic rfl (by kernel_rfl) (by kernel_rfl) 3000 (y := AV.tup [AV.agg [AV.v (Value.int IntKind.i64 (V.mk (1 : Int) (aAdd a.int b.int).fst (ByteArray.mk #[])).kind), AV.v (Value.int IntKind.i64 (V.mk (1 : Int) (aAdd a.int b.int).fst (ByteArray.mk #[])).int), AV.v (Value.string (V.mk (1 : Int) (aAdd a.int b.int).fst (ByteArray.mk #[])).text)], AV.v (Value.int IntKind.i64 (0 : Int))]) [sc (k_evaluate_isNull (a)), sg h1, sc (k_evaluate_isNull (b)), sb h2, sg h3, sb h4, sb h5, sb h21, sb h22, sc (k_arith_Add (a.int) (b.int)), sb h28, sc (k_value_Number ((aAdd a.int b.int).fst))] (by kernel_rfl) (by simp only [vArith, cond_true, cond_false, h1, h2, h3, h4, h5, h21, h22, h28] <;> rfl)
                · exact walk E0ok mix0 At.evaluate_arithmetic rfl (by kernel_rfl) (by kernel_rfl) 3000 (y := AV.tup [AV.agg [AV.v (Value.int IntKind.i64 (0 : Int)), AV.v (Value.int IntKind.i64 (0 : Int)), AV.v (Value.string (ByteArray.mk #[]))], AV.v (Value.int IntKind.i64 (6 : Int))]) [sc (k_evaluate_isNull (a)), sg h1, sc (k_evaluate_isNull (b)), sb h2, sg h3, sb h4, sb h5, sb h21, sb h22, sc (k_arith_Add (a.int) (b.int)), sb h28] (by kernel_rfl) (by simp only [vArith, cond_true, cond_false, h1, h2, h3, h4, h5, h21, h22, h28] <;> rfl)
            · exact walk E0ok mix0 At.evaluate_arithmetic rfl (by kernel_rfl) (by kernel_rfl) 3000 (y := AV.tup [AV.agg [AV.v (Value.int IntKind.i64 (0 : Int)), AV.v (Value.int IntKind.i64 (0 : Int)), AV.v (Value.string (ByteArray.mk #[]))], AV.v (Value.int IntKind.i64 (7 : Int))]) [sc (k_evaluate_isNull (a)), sg h1, sc (k_evaluate_isNull (b)), sb h2, sg h3, sb h4, sb h5, sb h21] (by kernel_rfl) (by simp only [vArith, cond_true, cond_false, h1, h2, h3, h4, h5, h21] <;> rfl)
        · exact walk E0ok mix0 At.evaluate_arithmetic rfl (by kernel_rfl) (by kernel_rfl) 3000 (y := AV.tup [AV.agg [AV.v (Value.int IntKind.i64 (0 : Int)), AV.v (Value.int IntKind.i64 (0 : Int)), AV.v (Value.string (ByteArray.mk #[]))], AV.v (Value.int IntKind.i64 (5 : Int))]) [sc (k_evaluate_isNull (a)), sg h1, sc (k_evaluate_isNull (b)), sb h2, sg h3, sb h4] (by kernel_rfl) (by simp only [vArith, cond_true, cond_false, h1, h2, h3, h4] <;> rfl)
      · exact walk E0ok mix0 At.evaluate_arithmetic rfl (by kernel_rfl) (by kernel_rfl) 3000 (y := AV.tup [AV.agg [AV.v (Value.int IntKind.i64 (0 : Int)), AV.v (Value.int IntKind.i64 (0 : Int)), AV.v (Value.string (ByteArray.mk #[]))], AV.v (Value.int IntKind.i64 (5 : Int))]) [sc (k_evaluate_isNull (a)), sg h1, sc (k_evaluate_isNull (b)), sb h2, sb h3] (by kernel_rfl) (by simp only [vArith, cond_true, cond_false, h1, h2, h3] <;> rfl)
    · exact walk E0ok mix0 At.evaluate_arithmetic rfl (by kernel_rfl) (by kernel_rfl) 3000 (y := AV.tup [AV.agg [AV.v (Value.int IntKind.i64 (0 : Int)), AV.v (Value.int IntKind.i64 (0 : Int)), AV.v (Value.string (ByteArray.mk #[]))], AV.v (Value.int IntKind.i64 (0 : Int))]) [sc (k_evaluate_isNull (a)), sg h1, sc (k_evaluate_isNull (b)), sb h2] (by kernel_rfl) (by simp only [vArith, cond_true, cond_false, h1, h2] <;> rfl)
  · exact walk E0ok mix0 At.evaluate_arithmetic rfl (by kernel_rfl) (by kernel_rfl) 3000 (y := AV.tup [AV.agg [AV.v (Value.int IntKind.i64 (0 : Int)), AV.v (Value.int IntKind.i64 (0 : Int)), AV.v (Value.string (ByteArray.mk #[]))], AV.v (Value.int IntKind.i64 (0 : Int))]) [sc (k_evaluate_isNull (a)), sb h1] (by kernel_rfl) (by simp only [vArith, cond_true, cond_false, h1] <;> rfl)
theorem vCmp_small (op : Int) (a b : V) : (vCmp op a b).1.small := by
  unfold vCmp; repeat' (first | apply small_cond1 | exact small_e)
theorem vTruth_small (v : V) (hv : v.small) (ok : Bool) : (vTruth v ok).1.small := by
  unfold vTruth; repeat' (first | apply small_cond1 | exact hv | exact small_e)
theorem land_small (a b : V) : (land a b).1.small := by
  unfold land; repeat' (first | apply small_cond1 | exact land0_small _ _ | exact small_e)
theorem lor_small (a b : V) : (lor a b).1.small := by
  unfold lor; repeat' (first | apply small_cond1 | exact land0_small _ _ | exact lnot_small _ (land0_small _ _) | exact small_e)
theorem vArith_small (op : Int) (a b : V) : (vArith op a b).1.small := by
  unfold vArith; repeat' (first | apply small_cond1 | exact small_e)
def vBetween (x y z : V) : V × Int :=
  bif (vCmp (6 : Int) y x).snd != (0 : Int) then
    (V.mk (0 : Int) (0 : Int) (ByteArray.mk #[]), (vCmp (6 : Int) y x).snd)
  else
    bif (vCmp (6 : Int) x z).snd != (0 : Int) then
      (V.mk (0 : Int) (0 : Int) (ByteArray.mk #[]), (vCmp (6 : Int) x z).snd)
    else
      ((vTruth (land (vCmp (6 : Int) y x).fst (vCmp (6 : Int) x z).fst).fst (land (vCmp (6 : Int) y x).fst (vCmp (6 : Int) x z).fst).snd).fst, (vTruth (land (vCmp (6 : Int) y x).fst (vCmp (6 : Int) x z).fst).fst (land (vCmp (6 : Int) y x).fst (vCmp (6 : Int) x z).fst).snd).snd)
theorem k_evaluate_between (x y z : V)  : ACallsTo E0 S.evaluate_between [vsl [x, y, z]] [] (.tup [(vBetween x y z).1.av, iv (vBetween x y z).2]) [] := by
  cases h1 : (vCmp (6 : Int) y x).snd != (0 : Int)
  · cases h2 : (vCmp (6 : Int) x z).snd != (0 : Int)
    · exact walk E0ok mix0 At.evaluate_between rfl (by kernel_rfl) (by kernel_rfl) 3000 (y := AV.tup [AV.agg [AV.v (Value.int IntKind.i64 (vTruth (land (vCmp (6 : Int) y x).fst (vCmp (6 : Int) x z).fst).fst (land (vCmp (6 : Int) y x).fst (vCmp (6 : Int) x z).fst).snd).fst.kind), AV.v (Value.int IntKind.i64 (vTruth (land (vCmp (6 : Int) y x).fst (vCmp (6 : Int) x z).fst).fst (land (vCmp (6 : Int) y x).fst (vCmp (6 : Int) x z).fst).snd).fst.int), AV.v (Value.string (vTruth (land (vCmp (6 : Int) y x).fst (vCmp (6 : Int) x z).fst).fst (land (vCmp (6 : Int) y x).fst (vCmp (6 : Int) x z).fst).snd).fst.text)], AV.v (Value.int IntKind.i64 (vTruth (land (vCmp (6 : Int) y x).fst (vCmp (6 : Int) x z).fst).fst (land (vCmp (6 : Int) y x).fst (vCmp (6 : Int) x z).fst).snd).snd)]) [sdm [(1, [se (xs := [[AV.v (Value.int IntKind.i64 x.kind), AV.v (Value.int IntKind.i64 x.int), AV.v (Value.string x.text)], [AV.v (Value.int IntKind.i64 y.kind), AV.v (Value.int IntKind.i64 y.int), AV.v (Value.string y.text)], [AV.v (Value.int IntKind.i64 z.kind), AV.v (Value.int IntKind.i64 z.int), AV.v (Value.string z.text)]]) (i := 1) (c := [AV.v (Value.int IntKind.i64 y.kind), AV.v (Value.int IntKind.i64 y.int), AV.v (Value.string y.text)]) (n := (3 : Nat)) ⟨by decide, rfl, rfl⟩]), (4, [se (xs := [[AV.v (Value.int IntKind.i64 x.kind), AV.v (Value.int IntKind.i64 x.int), AV.v (Value.string x.text)], [AV.v (Value.int IntKind.i64 y.kind), AV.v (Value.int IntKind.i64 y.int), AV.v (Value.string y.text)], [AV.v (Value.int IntKind.i64 z.kind), AV.v (Value.int IntKind.i64 z.int), AV.v (Value.string z.text)]]) (i := 0) (c := [AV.v (Value.int IntKind.i64 x.kind), AV.v (Value.int IntKind.i64 x.int), AV.v (Value.string x.text)]) (n := (3 : Nat)) ⟨by decide, rfl, rfl⟩]), (6, [sc (k_evaluate_comparison ((6 : Int)) (y) (x) (by first | assumption | exact arrCmp _ _ (by decide) | exact vCmp_small _ _ _))])] 0 [((0 : Nat), AV.sl [[AV.v (Value.int IntKind.i64 x.kind), AV.v (Value.int IntKind.i64 x.int), AV.v (Value.string x.text)], [AV.v (Value.int IntKind.i64 y.kind), AV.v (Value.int IntKind.i64 y.int), AV.v (Value.string y.text)], [AV.v (Value.int IntKind.i64 z.kind), AV.v (Value.int IntKind.i64 z.int), AV.v (Value.string z.text)]]), ((2 : Nat), AV.p (0 : Nat) (0 : Nat)), ((3 : Nat), AV.v (Value.int IntKind.i64 (0 : Int))), ((4 : Nat), AV.p (1 : Nat) (0 : Nat)), ((5 : Nat), AV.v (Value.int IntKind.i64 (vCmp (6 : Int) y x).snd)), ((7 : Nat), AV.tup [AV.agg [AV.v (Value.int IntKind.i64 (vCmp (6 : Int) y x).fst.kind), AV.v (Value.int IntKind.i64 (vCmp (6 : Int) y x).fst.int), AV.v (Value.string (vCmp (6 : Int) y x).fst.text)], AV.v (Value.int IntKind.i64 (vCmp (6 : Int) y x).snd)]), ((8 : Nat), AV.sl [[AV.v (Value.int IntKind.i64 x.kind), AV.v (Value.int IntKind.i64 x.int), AV.v (Value.string x.text)], [AV.v (Value.int IntKind.i64 y.kind), AV.v (Value.int IntKind.i64 y.int), AV.v (Value.string y.text)], [AV.v (Value.int IntKind.i64 z.kind), AV.v (Value.int IntKind.i64 z.int), AV.v (Value.string z.text)]]), ((9 : Nat), AV.dp [AV.v (Value.int IntKind.i64 y.kind), AV.v (Value.int IntKind.i64 y.int), AV.v (Value.string y.text)]), ((10 : Nat), AV.agg [AV.v (Value.int IntKind.i64 y.kind), AV.v (Value.int IntKind.i64 y.int), AV.v (Value.string y.text)]), ((11 : Nat), AV.sl [[AV.v (Value.int IntKind.i64 x.kind), AV.v (Value.int IntKind.i64 x.int), AV.v (Value.string x.text)], [AV.v (Value.int IntKind.i64 y.kind), AV.v (Value.int IntKind.i64 y.int), AV.v (Value.string y.text)], [AV.v (Value.int IntKind.i64 z.kind), AV.v (Value.int IntKind.i64 z.int), AV.v (Value.string z.text)]]), ((12 : Nat), AV.dp [AV.v (Value.int IntKind.i64 x.kind), AV.v (Value.int IntKind.i64 x.int), AV.v (Value.string x.text)]), ((13 : Nat), AV.agg [AV.v (Value.int IntKind.i64 x.kind), AV.v (Value.int IntKind.i64 x.int), AV.v (Value.string x.text)]), ((14 : Nat), AV.tup [AV.agg [AV.v (Value.int IntKind.i64 (vCmp (6 : Int) y x).fst.kind), AV.v (Value.int IntKind.i64 (vCmp (6 : Int) y x).fst.int), AV.v (Value.string (vCmp (6 : Int) y x).fst.text)], AV.v (Value.int IntKind.i64 (vCmp (6 : Int) y x).snd)]), ((15 : Nat), AV.agg [AV.v (Value.int IntKind.i64 (vCmp (6 : Int) y x).fst.kind), AV.v (Value.int IntKind.i64 (vCmp (6 : Int) y x).fst.int), AV.v (Value.string (vCmp (6 : Int) y x).fst.text)]), ((16 : Nat), AV.v (Value.int IntKind.i64 (vCmp (6 : Int) y x).snd))] [Blk.box [AV.v (Value.int IntKind.i64 (0 : Int)), AV.v (Value.int IntKind.i64 (0 : Int)), AV.v (Value.string (ByteArray.mk #[]))], Blk.box [AV.v (Value.int IntKind.i64 (vCmp (6 : Int) y x).fst.kind), AV.v (Value.int IntKind.i64 (vCmp (6 : Int) y x).fst.int), AV.v (Value.string (vCmp (6 : Int) y x).fst.text)]], sb h1, sdm [(1, [se (xs := [[AV.v (Value.int IntKind.i64 x.kind), AV.v (Value.int IntKind.i64 x.int), AV.v (Value.string x.text)], [AV.v (Value.int IntKind.i64 y.kind), AV.v (Value.int IntKind.i64 y.int), AV.v (Value.string y.text)], [AV.v (Value.int IntKind.i64 z.kind), AV.v (Value.int IntKind.i64 z.int), AV.v (Value.string z.text)]]) (i := 0) (c := [AV.v (Value.int IntKind.i64 x.kind), AV.v (Value.int IntKind.i64 x.int), AV.v (Value.string x.text)]) (n := (3 : Nat)) ⟨by decide, rfl, rfl⟩]), (4, [se (xs := [[AV.v (Value.int IntKind.i64 x.kind), AV.v (Value.int IntKind.i64 x.int), AV.v (Value.string x.text)], [AV.v (Value.int IntKind.i64 y.kind), AV.v (Value.int IntKind.i64 y.int), AV.v (Value.string y.text)], [AV.v (Value.int IntKind.i64 z.kind), AV.v (Value.int IntKind.i64 z.int), AV.v (Value.string z.text)]]) (i := 2) (c := [AV.v (Value.int IntKind.i64 z.kind), AV.v (Value.int IntKind.i64 z.int), AV.v (Value.string z.text)]) (n := (3 : Nat)) ⟨by decide, rfl, rfl⟩]), (6, [sc (k_evaluate_comparison ((6 : Int)) (x) (z) (by first | assumption | exact arrCmp _ _ (by decide) | exact vCmp_small _ _ _))])] 0 [((0 : Nat), AV.sl [[AV.v (Value.int IntKind.i64 x.kind), AV.v (Value.int IntKind.i64 x.int), AV.v (Value.string x.text)], [AV.v (Value.int IntKind.i64 y.kind), AV.v (Value.int IntKind.i64 y.int), AV.v (Value.string y.text)], [AV.v (Value.int IntKind.i64 z.kind), AV.v (Value.int IntKind.i64 z.int), AV.v (Value.string z.text)]]), ((2 : Nat), AV.p (0 : Nat) (0 : Nat)), ((3 : Nat), AV.v (Value.int IntKind.i64 (0 : Int))), ((4 : Nat), AV.p (1 : Nat) (0 : Nat)), ((5 : Nat), AV.v (Value.int IntKind.i64 (vCmp (6 : Int) x z).snd)), ((6 : Nat), AV.p (2 : Nat) (0 : Nat)), ((7 : Nat), AV.tup [AV.agg [AV.v (Value.int IntKind.i64 (vCmp (6 : Int) y x).fst.kind), AV.v (Value.int IntKind.i64 (vCmp (6 : Int) y x).fst.int), AV.v (Value.string (vCmp (6 : Int) y x).fst.text)], AV.v (Value.int IntKind.i64 (vCmp (6 : Int) y x).snd)]), ((8 : Nat), AV.sl [[AV.v (Value.int IntKind.i64 x.kind), AV.v (Value.int IntKind.i64 x.int), AV.v (Value.string x.text)], [AV.v (Value.int IntKind.i64 y.kind), AV.v (Value.int IntKind.i64 y.int), AV.v (Value.string y.text)], [AV.v (Value.int IntKind.i64 z.kind), AV.v (Value.int IntKind.i64 z.int), AV.v (Value.string z.text)]]), ((9 : Nat), AV.dp [AV.v (Value.int IntKind.i64 y.kind), AV.v (Value.int IntKind.i64 y.int), AV.v (Value.string y.text)]), ((10 : Nat), AV.agg [AV.v (Value.int IntKind.i64 y.kind), AV.v (Value.int IntKind.i64 y.int), AV.v (Value.string y.text)]), ((11 : Nat), AV.sl [[AV.v (Value.int IntKind.i64 x.kind), AV.v (Value.int IntKind.i64 x.int), AV.v (Value.string x.text)], [AV.v (Value.int IntKind.i64 y.kind), AV.v (Value.int IntKind.i64 y.int), AV.v (Value.string y.text)], [AV.v (Value.int IntKind.i64 z.kind), AV.v (Value.int IntKind.i64 z.int), AV.v (Value.string z.text)]]), ((12 : Nat), AV.dp [AV.v (Value.int IntKind.i64 x.kind), AV.v (Value.int IntKind.i64 x.int), AV.v (Value.string x.text)]), ((13 : Nat), AV.agg [AV.v (Value.int IntKind.i64 x.kind), AV.v (Value.int IntKind.i64 x.int), AV.v (Value.string x.text)]), ((14 : Nat), AV.tup [AV.agg [AV.v (Value.int IntKind.i64 (vCmp (6 : Int) y x).fst.kind), AV.v (Value.int IntKind.i64 (vCmp (6 : Int) y x).fst.int), AV.v (Value.string (vCmp (6 : Int) y x).fst.text)], AV.v (Value.int IntKind.i64 (vCmp (6 : Int) y x).snd)]), ((15 : Nat), AV.agg [AV.v (Value.int IntKind.i64 (vCmp (6 : Int) y x).fst.kind), AV.v (Value.int IntKind.i64 (vCmp (6 : Int) y x).fst.int), AV.v (Value.string (vCmp (6 : Int) y x).fst.text)]), ((16 : Nat), AV.v (Value.int IntKind.i64 (vCmp (6 : Int) y x).snd)), ((17 : Nat), AV.v (Value.int IntKind.i64 (vCmp (6 : Int) y x).snd)), ((18 : Nat), AV.bl false), ((21 : Nat), AV.tup [AV.agg [AV.v (Value.int IntKind.i64 (vCmp (6 : Int) x z).fst.kind), AV.v (Value.int IntKind.i64 (vCmp (6 : Int) x z).fst.int), AV.v (Value.string (vCmp (6 : Int) x z).fst.text)], AV.v (Value.int IntKind.i64 (vCmp (6 : Int) x z).snd)]), ((22 : Nat), AV.sl [[AV.v (Value.int IntKind.i64 x.kind), AV.v (Value.int IntKind.i64 x.int), AV.v (Value.string x.text)], [AV.v (Value.int IntKind.i64 y.kind), AV.v (Value.int IntKind.i64 y.int), AV.v (Value.string y.text)], [AV.v (Value.int IntKind.i64 z.kind), AV.v (Value.int IntKind.i64 z.int), AV.v (Value.string z.text)]]), ((23 : Nat), AV.dp [AV.v (Value.int IntKind.i64 x.kind), AV.v (Value.int IntKind.i64 x.int), AV.v (Value.string x.text)]), ((24 : Nat), AV.agg [AV.v (Value.int IntKind.i64 x.kind), AV.v (Value.int IntKind.i64 x.int), AV.v (Value.string x.text)]), ((25 : Nat), AV.sl [[AV.v (Value.int IntKind.i64 x.kind), AV.v (Value.int IntKind.i64 x.int), AV.v (Value.string x.text)], [AV.v (Value.int IntKind.i64 y.kind), AV.v (Value.int IntKind.i64 y.int), AV.v (Value.string y.text)], [AV.v (Value.int IntKind.i64 z.kind), AV.v (Value.int IntKind.i64 z.int), AV.v (Value.string z.text)]]), ((26 : Nat), AV.dp [AV.v (Value.int IntKind.i64 z.kind), AV.v (Value.int IntKind.i64 z.int), AV.v (Value.string z.text)]), ((27 : Nat), AV.agg [AV.v (Value.int IntKind.i64 z.kind), AV.v (Value.int IntKind.i64 z.int), AV.v (Value.string z.text)]), ((28 : Nat), AV.tup [AV.agg [AV.v (Value.int IntKind.i64 (vCmp (6 : Int) x z).fst.kind), AV.v (Value.int IntKind.i64 (vCmp (6 : Int) x z).fst.int), AV.v (Value.string (vCmp (6 : Int) x z).fst.text)], AV.v (Value.int IntKind.i64 (vCmp (6 : Int) x z).snd)]), ((29 : Nat), AV.agg [AV.v (Value.int IntKind.i64 (vCmp (6 : Int) x z).fst.kind), AV.v (Value.int IntKind.i64 (vCmp (6 : Int) x z).fst.int), AV.v (Value.string (vCmp (6 : Int) x z).fst.text)]), ((30 : Nat), AV.v (Value.int IntKind.i64 (vCmp (6 : Int) x z).snd))] [Blk.box [AV.v (Value.int IntKind.i64 (0 : Int)), AV.v (Value.int IntKind.i64 (0 : Int)), AV.v (Value.string (ByteArray.mk #[]))], Blk.box [AV.v (Value.int IntKind.i64 (vCmp (6 : Int) y x).fst.kind), AV.v (Value.int IntKind.i64 (vCmp (6 : Int) y x).fst.int), AV.v (Value.string (vCmp (6 : Int) y x).fst.text)], Blk.box [AV.v (Value.int IntKind.i64 (vCmp (6 : Int) x z).fst.kind), AV.v (Value.int IntKind.i64 (vCmp (6 : Int) x z).fst.int), AV.v (Value.string (vCmp (6 : Int) x z).fst.text)]], sb h2, sc (k_logic_And ((vCmp (6 : Int) y x).fst) ((vCmp (6 : Int) x z).fst) (by first | assumption | exact arrCmp _ _ (by decide) | exact vCmp_small _ _ _) (by first | assumption | exact arrCmp _ _ (by decide) | exact vCmp_small _ _ _)), sc (k_evaluate_truth ((land (vCmp (6 : Int) y x).fst (vCmp (6 : Int) x z).fst).fst) ((land (vCmp (6 : Int) y x).fst (vCmp (6 : Int) x z).fst).snd))] (by kernel_rfl) (by simp only [vBetween, cond_true, cond_false, h1, h2] <;> rfl)
    · exact walk E0ok mix0 At.evaluate_between rfl (by kernel_rfl) (by kernel_rfl) 3000 (y := AV.tup [AV.agg [AV.v (Value.int IntKind.i64 (0 : Int)), AV.v (Value.int IntKind.i64 (0 : Int)), AV.v (Value.string (ByteArray.mk #[]))], AV.v (Value.int IntKind.i64 (vCmp (6 : Int) x z).snd)]) [sdm [(1, [se (xs := [[AV.v (Value.int IntKind.i64 x.kind), AV.v (Value.int IntKind.i64 x.int), AV.v (Value.string x.text)], [AV.v (Value.int IntKind.i64 y.kind), AV.v (Value.int IntKind.i64 y.int), AV.v (Value.string y.text)], [AV.v (Value.int IntKind.i64 z.kind), AV.v (Value.int IntKind.i64 z.int), AV.v (Value.string z.text)]]) (i := 1) (c := [AV.v (Value.int IntKind.i64 y.kind), AV.v (Value.int IntKind.i64 y.int), AV.v (Value.string y.text)]) (n := (3 : Nat)) ⟨by decide, rfl, rfl⟩]), (4, [se (xs := [[AV.v (Value.int IntKind.i64 x.kind), AV.v (Value.int IntKind.i64 x.int), AV.v (Value.string x.text)], [AV.v (Value.int IntKind.i64 y.kind), AV.v (Value.int IntKind.i64 y.int), AV.v (Value.string y.text)], [AV.v (Value.int IntKind.i64 z.kind), AV.v (Value.int IntKind.i64 z.int), AV.v (Value.string z.text)]]) (i := 0) (c := [AV.v (Value.int IntKind.i64 x.kind), AV.v (Value.int IntKind.i64 x.int), AV.v (Value.string x.text)]) (n := (3 : Nat)) ⟨by decide, rfl, rfl⟩]), (6, [sc (k_evaluate_comparison ((6 : Int)) (y) (x) (by first | assumption | exact arrCmp _ _ (by decide) | exact vCmp_small _ _ _))])] 0 [((0 : Nat), AV.sl [[AV.v (Value.int IntKind.i64 x.kind), AV.v (Value.int IntKind.i64 x.int), AV.v (Value.string x.text)], [AV.v (Value.int IntKind.i64 y.kind), AV.v (Value.int IntKind.i64 y.int), AV.v (Value.string y.text)], [AV.v (Value.int IntKind.i64 z.kind), AV.v (Value.int IntKind.i64 z.int), AV.v (Value.string z.text)]]), ((2 : Nat), AV.p (0 : Nat) (0 : Nat)), ((3 : Nat), AV.v (Value.int IntKind.i64 (0 : Int))), ((4 : Nat), AV.p (1 : Nat) (0 : Nat)), ((5 : Nat), AV.v (Value.int IntKind.i64 (vCmp (6 : Int) y x).snd)), ((7 : Nat), AV.tup [AV.agg [AV.v (Value.int IntKind.i64 (vCmp (6 : Int) y x).fst.kind), AV.v (Value.int IntKind.i64 (vCmp (6 : Int) y x).fst.int), AV.v (Value.string (vCmp (6 : Int) y x).fst.text)], AV.v (Value.int IntKind.i64 (vCmp (6 : Int) y x).snd)]), ((8 : Nat), AV.sl [[AV.v (Value.int IntKind.i64 x.kind), AV.v (Value.int IntKind.i64 x.int), AV.v (Value.string x.text)], [AV.v (Value.int IntKind.i64 y.kind), AV.v (Value.int IntKind.i64 y.int), AV.v (Value.string y.text)], [AV.v (Value.int IntKind.i64 z.kind), AV.v (Value.int IntKind.i64 z.int), AV.v (Value.string z.text)]]), ((9 : Nat), AV.dp [AV.v (Value.int IntKind.i64 y.kind), AV.v (Value.int IntKind.i64 y.int), AV.v (Value.string y.text)]), ((10 : Nat), AV.agg [AV.v (Value.int IntKind.i64 y.kind), AV.v (Value.int IntKind.i64 y.int), AV.v (Value.string y.text)]), ((11 : Nat), AV.sl [[AV.v (Value.int IntKind.i64 x.kind), AV.v (Value.int IntKind.i64 x.int), AV.v (Value.string x.text)], [AV.v (Value.int IntKind.i64 y.kind), AV.v (Value.int IntKind.i64 y.int), AV.v (Value.string y.text)], [AV.v (Value.int IntKind.i64 z.kind), AV.v (Value.int IntKind.i64 z.int), AV.v (Value.string z.text)]]), ((12 : Nat), AV.dp [AV.v (Value.int IntKind.i64 x.kind), AV.v (Value.int IntKind.i64 x.int), AV.v (Value.string x.text)]), ((13 : Nat), AV.agg [AV.v (Value.int IntKind.i64 x.kind), AV.v (Value.int IntKind.i64 x.int), AV.v (Value.string x.text)]), ((14 : Nat), AV.tup [AV.agg [AV.v (Value.int IntKind.i64 (vCmp (6 : Int) y x).fst.kind), AV.v (Value.int IntKind.i64 (vCmp (6 : Int) y x).fst.int), AV.v (Value.string (vCmp (6 : Int) y x).fst.text)], AV.v (Value.int IntKind.i64 (vCmp (6 : Int) y x).snd)]), ((15 : Nat), AV.agg [AV.v (Value.int IntKind.i64 (vCmp (6 : Int) y x).fst.kind), AV.v (Value.int IntKind.i64 (vCmp (6 : Int) y x).fst.int), AV.v (Value.string (vCmp (6 : Int) y x).fst.text)]), ((16 : Nat), AV.v (Value.int IntKind.i64 (vCmp (6 : Int) y x).snd))] [Blk.box [AV.v (Value.int IntKind.i64 (0 : Int)), AV.v (Value.int IntKind.i64 (0 : Int)), AV.v (Value.string (ByteArray.mk #[]))], Blk.box [AV.v (Value.int IntKind.i64 (vCmp (6 : Int) y x).fst.kind), AV.v (Value.int IntKind.i64 (vCmp (6 : Int) y x).fst.int), AV.v (Value.string (vCmp (6 : Int) y x).fst.text)]], sb h1, sdm [(1, [se (xs := [[AV.v (Value.int IntKind.i64 x.kind), AV.v (Value.int IntKind.i64 x.int), AV.v (Value.string x.text)], [AV.v (Value.int IntKind.i64 y.kind), AV.v (Value.int IntKind.i64 y.int), AV.v (Value.string y.text)], [AV.v (Value.int IntKind.i64 z.kind), AV.v (Value.int IntKind.i64 z.int), AV.v (Value.string z.text)]]) (i := 0) (c := [AV.v (Value.int IntKind.i64 x.kind), AV.v (Value.int IntKind.i64 x.int), AV.v (Value.string x.text)]) (n := (3 : Nat)) ⟨by decide, rfl, rfl⟩]), (4, [se (xs := [[AV.v (Value.int IntKind.i64 x.kind), AV.v (Value.int IntKind.i64 x.int), AV.v (Value.string x.text)], [AV.v (Value.int IntKind.i64 y.kind), AV.v (Value.int IntKind.i64 y.int), AV.v (Value.string y.text)], [AV.v (Value.int IntKind.i64 z.kind), AV.v (Value.int IntKind.i64 z.int), AV.v (Value.string z.text)]]) (i := 2) (c := [AV.v (Value.int IntKind.i64 z.kind), AV.v (Value.int IntKind.i64 z.int), AV.v (Value.string z.text)]) (n := (3 : Nat)) ⟨by decide, rfl, rfl⟩]), (6, [sc (k_evaluate_comparison ((6 : Int)) (x) (z) (by first | assumption | exact arrCmp _ _ (by decide) | exact vCmp_small _ _ _))])] 0 [((0 : Nat), AV.sl [[AV.v (Value.int IntKind.i64 x.kind), AV.v (Value.int IntKind.i64 x.int), AV.v (Value.string x.text)], [AV.v (Value.int IntKind.i64 y.kind), AV.v (Value.int IntKind.i64 y.int), AV.v (Value.string y.text)], [AV.v (Value.int IntKind.i64 z.kind), AV.v (Value.int IntKind.i64 z.int), AV.v (Value.string z.text)]]), ((2 : Nat), AV.p (0 : Nat) (0 : Nat)), ((3 : Nat), AV.v (Value.int IntKind.i64 (0 : Int))), ((4 : Nat), AV.p (1 : Nat) (0 : Nat)), ((5 : Nat), AV.v (Value.int IntKind.i64 (vCmp (6 : Int) x z).snd)), ((6 : Nat), AV.p (2 : Nat) (0 : Nat)), ((7 : Nat), AV.tup [AV.agg [AV.v (Value.int IntKind.i64 (vCmp (6 : Int) y x).fst.kind), AV.v (Value.int IntKind.i64 (vCmp (6 : Int) y x).fst.int), AV.v (Value.string (vCmp (6 : Int) y x).fst.text)], AV.v (Value.int IntKind.i64 (vCmp (6 : Int) y x).snd)]), ((8 : Nat), AV.sl [[AV.v (Value.int IntKind.i64 x.kind), AV.v (Value.int IntKind.i64 x.int), AV.v (Value.string x.text)], [AV.v (Value.int IntKind.i64 y.kind), AV.v (Value.int IntKind.i64 y.int), AV.v (Value.string y.text)], [AV.v (Value.int IntKind.i64 z.kind), AV.v (Value.int IntKind.i64 z.int), AV.v (Value.string z.text)]]), ((9 : Nat), AV.dp [AV.v (Value.int IntKind.i64 y.kind), AV.v (Value.int IntKind.i64 y.int), AV.v (Value.string y.text)]), ((10 : Nat), AV.agg [AV.v (Value.int IntKind.i64 y.kind), AV.v (Value.int IntKind.i64 y.int), AV.v (Value.string y.text)]), ((11 : Nat), AV.sl [[AV.v (Value.int IntKind.i64 x.kind), AV.v (Value.int IntKind.i64 x.int), AV.v (Value.string x.text)], [AV.v (Value.int IntKind.i64 y.kind), AV.v (Value.int IntKind.i64 y.int), AV.v (Value.string y.text)], [AV.v (Value.int IntKind.i64 z.kind), AV.v (Value.int IntKind.i64 z.int), AV.v (Value.string z.text)]]), ((12 : Nat), AV.dp [AV.v (Value.int IntKind.i64 x.kind), AV.v (Value.int IntKind.i64 x.int), AV.v (Value.string x.text)]), ((13 : Nat), AV.agg [AV.v (Value.int IntKind.i64 x.kind), AV.v (Value.int IntKind.i64 x.int), AV.v (Value.string x.text)]), ((14 : Nat), AV.tup [AV.agg [AV.v (Value.int IntKind.i64 (vCmp (6 : Int) y x).fst.kind), AV.v (Value.int IntKind.i64 (vCmp (6 : Int) y x).fst.int), AV.v (Value.string (vCmp (6 : Int) y x).fst.text)], AV.v (Value.int IntKind.i64 (vCmp (6 : Int) y x).snd)]), ((15 : Nat), AV.agg [AV.v (Value.int IntKind.i64 (vCmp (6 : Int) y x).fst.kind), AV.v (Value.int IntKind.i64 (vCmp (6 : Int) y x).fst.int), AV.v (Value.string (vCmp (6 : Int) y x).fst.text)]), ((16 : Nat), AV.v (Value.int IntKind.i64 (vCmp (6 : Int) y x).snd)), ((17 : Nat), AV.v (Value.int IntKind.i64 (vCmp (6 : Int) y x).snd)), ((18 : Nat), AV.bl false), ((21 : Nat), AV.tup [AV.agg [AV.v (Value.int IntKind.i64 (vCmp (6 : Int) x z).fst.kind), AV.v (Value.int IntKind.i64 (vCmp (6 : Int) x z).fst.int), AV.v (Value.string (vCmp (6 : Int) x z).fst.text)], AV.v (Value.int IntKind.i64 (vCmp (6 : Int) x z).snd)]), ((22 : Nat), AV.sl [[AV.v (Value.int IntKind.i64 x.kind), AV.v (Value.int IntKind.i64 x.int), AV.v (Value.string x.text)], [AV.v (Value.int IntKind.i64 y.kind), AV.v (Value.int IntKind.i64 y.int), AV.v (Value.string y.text)], [AV.v (Value.int IntKind.i64 z.kind), AV.v (Value.int IntKind.i64 z.int), AV.v (Value.string z.text)]]), ((23 : Nat), AV.dp [AV.v (Value.int IntKind.i64 x.kind), AV.v (Value.int IntKind.i64 x.int), AV.v (Value.string x.text)]), ((24 : Nat), AV.agg [AV.v (Value.int IntKind.i64 x.kind), AV.v (Value.int IntKind.i64 x.int), AV.v (Value.string x.text)]), ((25 : Nat), AV.sl [[AV.v (Value.int IntKind.i64 x.kind), AV.v (Value.int IntKind.i64 x.int), AV.v (Value.string x.text)], [AV.v (Value.int IntKind.i64 y.kind), AV.v (Value.int IntKind.i64 y.int), AV.v (Value.string y.text)], [AV.v (Value.int IntKind.i64 z.kind), AV.v (Value.int IntKind.i64 z.int), AV.v (Value.string z.text)]]), ((26 : Nat), AV.dp [AV.v (Value.int IntKind.i64 z.kind), AV.v (Value.int IntKind.i64 z.int), AV.v (Value.string z.text)]), ((27 : Nat), AV.agg [AV.v (Value.int IntKind.i64 z.kind), AV.v (Value.int IntKind.i64 z.int), AV.v (Value.string z.text)]), ((28 : Nat), AV.tup [AV.agg [AV.v (Value.int IntKind.i64 (vCmp (6 : Int) x z).fst.kind), AV.v (Value.int IntKind.i64 (vCmp (6 : Int) x z).fst.int), AV.v (Value.string (vCmp (6 : Int) x z).fst.text)], AV.v (Value.int IntKind.i64 (vCmp (6 : Int) x z).snd)]), ((29 : Nat), AV.agg [AV.v (Value.int IntKind.i64 (vCmp (6 : Int) x z).fst.kind), AV.v (Value.int IntKind.i64 (vCmp (6 : Int) x z).fst.int), AV.v (Value.string (vCmp (6 : Int) x z).fst.text)]), ((30 : Nat), AV.v (Value.int IntKind.i64 (vCmp (6 : Int) x z).snd))] [Blk.box [AV.v (Value.int IntKind.i64 (0 : Int)), AV.v (Value.int IntKind.i64 (0 : Int)), AV.v (Value.string (ByteArray.mk #[]))], Blk.box [AV.v (Value.int IntKind.i64 (vCmp (6 : Int) y x).fst.kind), AV.v (Value.int IntKind.i64 (vCmp (6 : Int) y x).fst.int), AV.v (Value.string (vCmp (6 : Int) y x).fst.text)], Blk.box [AV.v (Value.int IntKind.i64 (vCmp (6 : Int) x z).fst.kind), AV.v (Value.int IntKind.i64 (vCmp (6 : Int) x z).fst.int), AV.v (Value.string (vCmp (6 : Int) x z).fst.text)]], sb h2] (by kernel_rfl) (by simp only [vBetween, cond_true, cond_false, h1, h2] <;> rfl)
  · exact walk E0ok mix0 At.evaluate_between rfl (by kernel_rfl) (by kernel_rfl) 3000 (y := AV.tup [AV.agg [AV.v (Value.int IntKind.i64 (0 : Int)), AV.v (Value.int IntKind.i64 (0 : Int)), AV.v (Value.string (ByteArray.mk #[]))], AV.v (Value.int IntKind.i64 (vCmp (6 : Int) y x).snd)]) [sdm [(1, [se (xs := [[AV.v (Value.int IntKind.i64 x.kind), AV.v (Value.int IntKind.i64 x.int), AV.v (Value.string x.text)], [AV.v (Value.int IntKind.i64 y.kind), AV.v (Value.int IntKind.i64 y.int), AV.v (Value.string y.text)], [AV.v (Value.int IntKind.i64 z.kind), AV.v (Value.int IntKind.i64 z.int), AV.v (Value.string z.text)]]) (i := 1) (c := [AV.v (Value.int IntKind.i64 y.kind), AV.v (Value.int IntKind.i64 y.int), AV.v (Value.string y.text)]) (n := (3 : Nat)) ⟨by decide, rfl, rfl⟩]), (4, [se (xs := [[AV.v (Value.int IntKind.i64 x.kind), AV.v (Value.int IntKind.i64 x.int), AV.v (Value.string x.text)], [AV.v (Value.int IntKind.i64 y.kind), AV.v (Value.int IntKind.i64 y.int), AV.v (Value.string y.text)], [AV.v (Value.int IntKind.i64 z.kind), AV.v (Value.int IntKind.i64 z.int), AV.v (Value.string z.text)]]) (i := 0) (c := [AV.v (Value.int IntKind.i64 x.kind), AV.v (Value.int IntKind.i64 x.int), AV.v (Value.string x.text)]) (n := (3 : Nat)) ⟨by decide, rfl, rfl⟩]), (6, [sc (k_evaluate_comparison ((6 : Int)) (y) (x) (by first | assumption | exact arrCmp _ _ (by decide) | exact vCmp_small _ _ _))])] 0 [((0 : Nat), AV.sl [[AV.v (Value.int IntKind.i64 x.kind), AV.v (Value.int IntKind.i64 x.int), AV.v (Value.string x.text)], [AV.v (Value.int IntKind.i64 y.kind), AV.v (Value.int IntKind.i64 y.int), AV.v (Value.string y.text)], [AV.v (Value.int IntKind.i64 z.kind), AV.v (Value.int IntKind.i64 z.int), AV.v (Value.string z.text)]]), ((2 : Nat), AV.p (0 : Nat) (0 : Nat)), ((3 : Nat), AV.v (Value.int IntKind.i64 (0 : Int))), ((4 : Nat), AV.p (1 : Nat) (0 : Nat)), ((5 : Nat), AV.v (Value.int IntKind.i64 (vCmp (6 : Int) y x).snd)), ((7 : Nat), AV.tup [AV.agg [AV.v (Value.int IntKind.i64 (vCmp (6 : Int) y x).fst.kind), AV.v (Value.int IntKind.i64 (vCmp (6 : Int) y x).fst.int), AV.v (Value.string (vCmp (6 : Int) y x).fst.text)], AV.v (Value.int IntKind.i64 (vCmp (6 : Int) y x).snd)]), ((8 : Nat), AV.sl [[AV.v (Value.int IntKind.i64 x.kind), AV.v (Value.int IntKind.i64 x.int), AV.v (Value.string x.text)], [AV.v (Value.int IntKind.i64 y.kind), AV.v (Value.int IntKind.i64 y.int), AV.v (Value.string y.text)], [AV.v (Value.int IntKind.i64 z.kind), AV.v (Value.int IntKind.i64 z.int), AV.v (Value.string z.text)]]), ((9 : Nat), AV.dp [AV.v (Value.int IntKind.i64 y.kind), AV.v (Value.int IntKind.i64 y.int), AV.v (Value.string y.text)]), ((10 : Nat), AV.agg [AV.v (Value.int IntKind.i64 y.kind), AV.v (Value.int IntKind.i64 y.int), AV.v (Value.string y.text)]), ((11 : Nat), AV.sl [[AV.v (Value.int IntKind.i64 x.kind), AV.v (Value.int IntKind.i64 x.int), AV.v (Value.string x.text)], [AV.v (Value.int IntKind.i64 y.kind), AV.v (Value.int IntKind.i64 y.int), AV.v (Value.string y.text)], [AV.v (Value.int IntKind.i64 z.kind), AV.v (Value.int IntKind.i64 z.int), AV.v (Value.string z.text)]]), ((12 : Nat), AV.dp [AV.v (Value.int IntKind.i64 x.kind), AV.v (Value.int IntKind.i64 x.int), AV.v (Value.string x.text)]), ((13 : Nat), AV.agg [AV.v (Value.int IntKind.i64 x.kind), AV.v (Value.int IntKind.i64 x.int), AV.v (Value.string x.text)]), ((14 : Nat), AV.tup [AV.agg [AV.v (Value.int IntKind.i64 (vCmp (6 : Int) y x).fst.kind), AV.v (Value.int IntKind.i64 (vCmp (6 : Int) y x).fst.int), AV.v (Value.string (vCmp (6 : Int) y x).fst.text)], AV.v (Value.int IntKind.i64 (vCmp (6 : Int) y x).snd)]), ((15 : Nat), AV.agg [AV.v (Value.int IntKind.i64 (vCmp (6 : Int) y x).fst.kind), AV.v (Value.int IntKind.i64 (vCmp (6 : Int) y x).fst.int), AV.v (Value.string (vCmp (6 : Int) y x).fst.text)]), ((16 : Nat), AV.v (Value.int IntKind.i64 (vCmp (6 : Int) y x).snd))] [Blk.box [AV.v (Value.int IntKind.i64 (0 : Int)), AV.v (Value.int IntKind.i64 (0 : Int)), AV.v (Value.string (ByteArray.mk #[]))], Blk.box [AV.v (Value.int IntKind.i64 (vCmp (6 : Int) y x).fst.kind), AV.v (Value.int IntKind.i64 (vCmp (6 : Int) y x).fst.int), AV.v (Value.string (vCmp (6 : Int) y x).fst.text)]], sb h1] (by kernel_rfl) (by simp only [vBetween, cond_true, cond_false, h1] <;> rfl)
def opIsNull (op : Int) (nt : Bool) (a : V) : V × Int :=
  (V.mk (2 : Int) (if (!(a.kind == (0 : Int)) == nt) = true then (1 : Int) else (0 : Int)) (ByteArray.mk #[]), (0 : Int))
theorem k_evaluate_operation__IsNull (op : Int) (nt : Bool) (a : V) (val : V) (tn nm : Str) (xs : List X) (qs : List Qy)  : ACallsTo E0 S.evaluate_operation [X.av (.mk 6 op nt val tn nm xs qs), vsl [a]] [] (.tup [(opIsNull op nt a).1.av, iv (opIsNull op nt a).2]) [] := by
  exact walk E0ok mix0 At.evaluate_operation rfl (by kernel_rfl) (by kernel_rfl) 3000 (y := AV.tup [AV.agg [AV.v (Value.int IntKind.i64 (V.mk (2 : Int) (if (!(a.kind == (0 : Int)) == nt) = true then (1 : Int) else (0 : Int)) (ByteArray.mk #[])).kind), AV.v (Value.int IntKind.i64 (V.mk (2 : Int) (if (!(a.kind == (0 : Int)) == nt) = true then (1 : Int) else (0 : Int)) (ByteArray.mk #[])).int), AV.v (Value.string (V.mk (2 : Int) (if (!(a.kind == (0 : Int)) == nt) = true then (1 : Int) else (0 : Int)) (ByteArray.mk #[])).text)], AV.v (Value.int IntKind.i64 (0 : Int))]) [sb (show ((6 : Int) == (6 : Int)) = true from rfl), sd [(1, [se (xs := [[AV.v (Value.int IntKind.i64 a.kind), AV.v (Value.int IntKind.i64 a.int), AV.v (Value.string a.text)]]) (i := 0) (c := [AV.v (Value.int IntKind.i64 a.kind), AV.v (Value.int IntKind.i64 a.int), AV.v (Value.string a.text)]) (n := (3 : Nat)) ⟨by decide, rfl, rfl⟩]), (3, [sc (k_evaluate_isNull (a))]), (7, [sc (k_value_Truth (!(a.kind == (0 : Int)) == nt))])]] (by kernel_rfl) (rfl)
def opNot (op : Int) (nt : Bool) (a : V) : V × Int :=
  ((vTruth (lnot a).fst (lnot a).snd).fst, (vTruth (lnot a).fst (lnot a).snd).snd)
theorem k_evaluate_operation__Not (op : Int) (nt : Bool) (a : V) (val : V) (tn nm : Str) (xs : List X) (qs : List Qy) (ha : a.small) : ACallsTo E0 S.evaluate_operation [X.av (.mk 3 op nt val tn nm xs qs), vsl [a]] [] (.tup [(opNot op nt a).1.av, iv (opNot op nt a).2]) [] := by
  exact walk E0ok mix0 At.evaluate_operation rfl (by kernel_rfl) (by kernel_rfl) 3000 (y := AV.tup [AV.agg [AV.v (Value.int IntKind.i64 (vTruth (lnot a).fst (lnot a).snd).fst.kind), AV.v (Value.int IntKind.i64 (vTruth (lnot a).fst (lnot a).snd).fst.int), AV.v (Value.string (vTruth (lnot a).fst (lnot a).snd).fst.text)], AV.v (Value.int IntKind.i64 (vTruth (lnot a).fst (lnot a).snd).snd)]) [sb (show ((3 : Int) == (6 : Int)) = false from rfl), sb (show ((3 : Int) == (3 : Int)) = true from rfl), se (xs := [[AV.v (Value.int IntKind.i64 a.kind), AV.v (Value.int IntKind.i64 a.int), AV.v (Value.string a.text)]]) (i := 0) (c := [AV.v (Value.int IntKind.i64 a.kind), AV.v (Value.int IntKind.i64 a.int), AV.v (Value.string a.text)]) (n := (3 : Nat)) ⟨by decide, rfl, rfl⟩, sc (k_logic_Not (a) (by first | assumption | exact arrCmp _ _ (by simp_all; omega))), sc (k_evaluate_truth ((lnot a).fst) ((lnot a).snd))] (by kernel_rfl) (rfl)
def opNeg (op : Int) (nt : Bool) (a : V) : V × Int :=
  ((vArith (10 : Int) (V.mk (1 : Int) (0 : Int) (ByteArray.mk #[])) a).fst, (vArith (10 : Int) (V.mk (1 : Int) (0 : Int) (ByteArray.mk #[])) a).snd)
theorem k_evaluate_operation__Neg (op : Int) (nt : Bool) (a : V) (val : V) (tn nm : Str) (xs : List X) (qs : List Qy)  : ACallsTo E0 S.evaluate_operation [X.av (.mk 4 op nt val tn nm xs qs), vsl [a]] [] (.tup [(opNeg op nt a).1.av, iv (opNeg op nt a).2]) [] := by
  exact walk E0ok mix0 At.evaluate_operation rfl (by kernel_rfl) (by kernel_rfl) 3000 (y := AV.tup [AV.agg [AV.v (Value.int IntKind.i64 (vArith (10 : Int) (V.mk (1 : Int) (0 : Int) (ByteArray.mk #[])) a).fst.kind), AV.v (Value.int IntKind.i64 (vArith (10 : Int) (V.mk (1 : Int) (0 : Int) (ByteArray.mk #[])) a).fst.int), AV.v (Value.string (vArith (10 : Int) (V.mk (1 : Int) (0 : Int) (ByteArray.mk #[])) a).fst.text)], AV.v (Value.int IntKind.i64 (vArith (10 : Int) (V.mk (1 : Int) (0 : Int) (ByteArray.mk #[])) a).snd)]) [sb (show ((4 : Int) == (6 : Int)) = false from rfl), sb (show ((4 : Int) == (3 : Int)) = false from rfl), sb (show ((4 : Int) == (7 : Int)) = false from rfl), sb (show ((4 : Int) == (4 : Int)) = true from rfl), sd [(2, [se (xs := [[AV.v (Value.int IntKind.i64 a.kind), AV.v (Value.int IntKind.i64 a.int), AV.v (Value.string a.text)]]) (i := 0) (c := [AV.v (Value.int IntKind.i64 a.kind), AV.v (Value.int IntKind.i64 a.int), AV.v (Value.string a.text)]) (n := (3 : Nat)) ⟨by decide, rfl, rfl⟩]), (0, [sc (k_value_Number ((0 : Int)))]), (4, [sc (k_evaluate_arithmetic ((10 : Int)) (V.mk (1 : Int) (0 : Int) (ByteArray.mk #[])) (a))])]] (by kernel_rfl) (rfl)
def opBet (op : Int) (nt : Bool) (a b c : V) : V × Int :=
  ((vBetween a b c).fst, (vBetween a b c).snd)
theorem k_evaluate_operation__Bet (op : Int) (nt : Bool) (a b c : V) (val : V) (tn nm : Str) (xs : List X) (qs : List Qy)  : ACallsTo E0 S.evaluate_operation [X.av (.mk 7 op nt val tn nm xs qs), vsl [a, b, c]] [] (.tup [(opBet op nt a b c).1.av, iv (opBet op nt a b c).2]) [] := by
  exact walk E0ok mix0 At.evaluate_operation rfl (by kernel_rfl) (by kernel_rfl) 3000 (y := AV.tup [AV.agg [AV.v (Value.int IntKind.i64 (vBetween a b c).fst.kind), AV.v (Value.int IntKind.i64 (vBetween a b c).fst.int), AV.v (Value.string (vBetween a b c).fst.text)], AV.v (Value.int IntKind.i64 (vBetween a b c).snd)]) [sb (show ((7 : Int) == (6 : Int)) = false from rfl), sb (show ((7 : Int) == (3 : Int)) = false from rfl), sb (show ((7 : Int) == (7 : Int)) = true from rfl), sc (k_evaluate_between (a) (b) (c))] (by kernel_rfl) (rfl)
def opBin (op : Int) (nt : Bool) (a b : V) : V × Int :=
  bif op == (2 : Int) then
    ((vTruth (land a b).fst (land a b).snd).fst, (vTruth (land a b).fst (land a b).snd).snd)
  else
    bif op == (1 : Int) then
      ((vTruth (lor a b).fst (lor a b).snd).fst, (vTruth (lor a b).fst (lor a b).snd).snd)
    else
      bif decide (op ≤ (8 : Int)) then
        ((vCmp op a b).fst, (vCmp op a b).snd)
      else
        ((vArith op a b).fst, (vArith op a b).snd)
theorem k_evaluate_operation__Bin (op : Int) (nt : Bool) (a b : V) (val : V) (tn nm : Str) (xs : List X) (qs : List Qy) (ha : a.small) (hb : b.small) (ho : 1 ≤ op ∧ op ≤ 13) : ACallsTo E0 S.evaluate_operation [X.av (.mk 5 op nt val tn nm xs qs), vsl [a, b]] [] (.tup [(opBin op nt a b).1.av, iv (opBin op nt a b).2]) [] := by
  cases h1 : op == (2 : Int)
  · cases h2 : op == (1 : Int)
    · cases h3 : decide (op ≤ (8 : Int))
      · exact walk E0ok mix0 At.evaluate_operation rfl (by kernel_rfl) (by kernel_rfl) 3000 (y := AV.tup [AV.agg [AV.v (Value.int IntKind.i64 (vArith op a b).fst.kind), AV.v (Value.int IntKind.i64 (vArith op a b).fst.int), AV.v (Value.string (vArith op a b).fst.text)], AV.v (Value.int IntKind.i64 (vArith op a b).snd)]) [sb (show ((5 : Int) == (6 : Int)) = false from rfl), sb (show ((5 : Int) == (3 : Int)) = false from rfl), sb (show ((5 : Int) == (7 : Int)) = false from rfl), sb (show ((5 : Int) == (4 : Int)) = false from rfl), sb h1, sb h2, sb h3, sd [(3, [se (xs := [[AV.v (Value.int IntKind.i64 a.kind), AV.v (Value.int IntKind.i64 a.int), AV.v (Value.string a.text)], [AV.v (Value.int IntKind.i64 b.kind), AV.v (Value.int IntKind.i64 b.int), AV.v (Value.string b.text)]]) (i := 0) (c := [AV.v (Value.int IntKind.i64 a.kind), AV.v (Value.int IntKind.i64 a.int), AV.v (Value.string a.text)]) (n := (3 : Nat)) ⟨by decide, rfl, rfl⟩]), (6, [se (xs := [[AV.v (Value.int IntKind.i64 a.kind), AV.v (Value.int IntKind.i64 a.int), AV.v (Value.string a.text)], [AV.v (Value.int IntKind.i64 b.kind), AV.v (Value.int IntKind.i64 b.int), AV.v (Value.string b.text)]]) (i := 1) (c := [AV.v (Value.int IntKind.i64 b.kind), AV.v (Value.int IntKind.i64 b.int), AV.v (Value.string b.text)]) (n := (3 : Nat)) ⟨by decide, rfl, rfl⟩]), (8, [sc (k_evaluate_arithmetic (op) (a) (b))])]] (by kernel_rfl) (by simp only [opBin, cond_true, cond_false, h1, h2, h3] <;> rfl)
      · exact walk E0ok mix0 At.evaluate_operation rfl (by kernel_rfl) (by kernel_rfl) 3000 (y := AV.tup [AV.agg [AV.v (Value.int IntKind.i64 (vCmp op a b).fst.kind), AV.v (Value.int IntKind.i64 (vCmp op a b).fst.int), AV.v (Value.string (vCmp op a b).fst.text)], AV.v (Value.int IntKind.i64 (vCmp op a b).snd)]) [sb (show ((5 : Int) == (6 : Int)) = false from rfl), sb (show ((5 : Int) == (3 : Int)) = false from rfl), sb (show ((5 : Int) == (7 : Int)) = false from rfl), sb (show ((5 : Int) == (4 : Int)) = false from rfl), sb h1, sb h2, sb h3, sd [(3, [se (xs := [[AV.v (Value.int IntKind.i64 a.kind), AV.v (Value.int IntKind.i64 a.int), AV.v (Value.string a.text)], [AV.v (Value.int IntKind.i64 b.kind), AV.v (Value.int IntKind.i64 b.int), AV.v (Value.string b.text)]]) (i := 0) (c := [AV.v (Value.int IntKind.i64 a.kind), AV.v (Value.int IntKind.i64 a.int), AV.v (Value.string a.text)]) (n := (3 : Nat)) ⟨by decide, rfl, rfl⟩]), (6, [se (xs := [[AV.v (Value.int IntKind.i64 a.kind), AV.v (Value.int IntKind.i64 a.int), AV.v (Value.string a.text)], [AV.v (Value.int IntKind.i64 b.kind), AV.v (Value.int IntKind.i64 b.int), AV.v (Value.string b.text)]]) (i := 1) (c := [AV.v (Value.int IntKind.i64 b.kind), AV.v (Value.int IntKind.i64 b.int), AV.v (Value.string b.text)]) (n := (3 : Nat)) ⟨by decide, rfl, rfl⟩]), (8, [sc (k_evaluate_comparison (op) (a) (b) (by first | assumption | exact arrCmp _ _ (by simp_all; omega)))])]] (by kernel_rfl) (by simp only [opBin, cond_true, cond_false, h1, h2, h3] <;> rfl)
    · exact walk E0ok mix0 At.evaluate_operation rfl (by kernel_rfl) (by kernel_rfl) 3000 (y := AV.tup [AV.agg [AV.v (Value.int IntKind.i64 (vTruth (lor a b).fst (lor a b).snd).fst.kind), AV.v (Value.int IntKind.i64 (vTruth (lor a b).fst (lor a b).snd).fst.int), AV.v (Value.string (vTruth (lor a b).fst (lor a b).snd).fst.text)], AV.v (Value.int IntKind.i64 (vTruth (lor a b).fst (lor a b).snd).snd)]) [sb (show ((5 : Int) == (6 : Int)) = false from rfl), sb (show ((5 : Int) == (3 : Int)) = false from rfl), sb (show ((5 : Int) == (7 : Int)) = false from rfl), sb (show ((5 : Int) == (4 : Int)) = false from rfl), sb h1, sb h2, sd [(1, [se (xs := [[AV.v (Value.int IntKind.i64 a.kind), AV.v (Value.int IntKind.i64 a.int), AV.v (Value.string a.text)], [AV.v (Value.int IntKind.i64 b.kind), AV.v (Value.int IntKind.i64 b.int), AV.v (Value.string b.text)]]) (i := 0) (c := [AV.v (Value.int IntKind.i64 a.kind), AV.v (Value.int IntKind.i64 a.int), AV.v (Value.string a.text)]) (n := (3 : Nat)) ⟨by decide, rfl, rfl⟩]), (4, [se (xs := [[AV.v (Value.int IntKind.i64 a.kind), AV.v (Value.int IntKind.i64 a.int), AV.v (Value.string a.text)], [AV.v (Value.int IntKind.i64 b.kind), AV.v (Value.int IntKind.i64 b.int), AV.v (Value.string b.text)]]) (i := 1) (c := [AV.v (Value.int IntKind.i64 b.kind), AV.v (Value.int IntKind.i64 b.int), AV.v (Value.string b.text)]) (n := (3 : Nat)) ⟨by decide, rfl, rfl⟩]), (6, [sc (k_logic_Or (a) (b) (by first | assumption | exact arrCmp _ _ (by simp_all; omega)) (by first | assumption | exact arrCmp _ _ (by simp_all; omega)))]), (9, [sc (k_evaluate_truth ((lor a b).fst) ((lor a b).snd))])]] (by kernel_rfl) (by simp only [opBin, cond_true, cond_false, h1, h2] <;> rfl)
  · exact walk E0ok mix0 At.evaluate_operation rfl (by kernel_rfl) (by kernel_rfl) 3000 (y := AV.tup [AV.agg [AV.v (Value.int IntKind.i64 (vTruth (land a b).fst (land a b).snd).fst.kind), AV.v (Value.int IntKind.i64 (vTruth (land a b).fst (land a b).snd).fst.int), AV.v (Value.string (vTruth (land a b).fst (land a b).snd).fst.text)], AV.v (Value.int IntKind.i64 (vTruth (land a b).fst (land a b).snd).snd)]) [sb (show ((5 : Int) == (6 : Int)) = false from rfl), sb (show ((5 : Int) == (3 : Int)) = false from rfl), sb (show ((5 : Int) == (7 : Int)) = false from rfl), sb (show ((5 : Int) == (4 : Int)) = false from rfl), sb h1, sd [(1, [se (xs := [[AV.v (Value.int IntKind.i64 a.kind), AV.v (Value.int IntKind.i64 a.int), AV.v (Value.string a.text)], [AV.v (Value.int IntKind.i64 b.kind), AV.v (Value.int IntKind.i64 b.int), AV.v (Value.string b.text)]]) (i := 0) (c := [AV.v (Value.int IntKind.i64 a.kind), AV.v (Value.int IntKind.i64 a.int), AV.v (Value.string a.text)]) (n := (3 : Nat)) ⟨by decide, rfl, rfl⟩]), (4, [se (xs := [[AV.v (Value.int IntKind.i64 a.kind), AV.v (Value.int IntKind.i64 a.int), AV.v (Value.string a.text)], [AV.v (Value.int IntKind.i64 b.kind), AV.v (Value.int IntKind.i64 b.int), AV.v (Value.string b.text)]]) (i := 1) (c := [AV.v (Value.int IntKind.i64 b.kind), AV.v (Value.int IntKind.i64 b.int), AV.v (Value.string b.text)]) (n := (3 : Nat)) ⟨by decide, rfl, rfl⟩]), (6, [sc (k_logic_And (a) (b) (by first | assumption | exact arrCmp _ _ (by simp_all; omega)) (by first | assumption | exact arrCmp _ _ (by simp_all; omega)))]), (9, [sc (k_evaluate_truth ((land a b).fst) ((land a b).snd))])]] (by kernel_rfl) (by simp only [opBin, cond_true, cond_false, h1] <;> rfl)
end Go.AM
