/-
  Contracts: names, tables, the tape.
-/
import Derived.Test.YtkibinkahpgboaaDoorUCa
import Derived.Test.YtkibinkahpgboaaDoorUBase
namespace Go.AM
set_option maxRecDepth 100000
set_option linter.unusedSimpArgs false
set_option linter.unusedVariables false

abbrev Short {α : Type} (l : List α) : Prop := l.length ≤ 1000000000
def idxF {α : Type} (p : α → Bool) : List α → Nat → Int
  | [], _ => -1
  | x :: r, i => bif p x then (i : Int) else idxF p r (i + 1)
theorem idxF_at {α : Type} (p : α → Bool) : ∀ (l : List α) (i : Nat), (idxF p l i = -1 ∧ l.find? p = none) ∨ ∃ (j : Nat) (x : α), idxF p l i = ((i + j : Nat) : Int) ∧ l[j]? = some x ∧ l.find? p = some x
  | [], i => .inl ⟨rfl, rfl⟩
  | x :: r, i => by
    cases hp : p x
    · rcases idxF_at p r (i + 1) with ⟨h1, h2⟩ | ⟨j, y, h1, h2, h3⟩
      · exact .inl ⟨by simp [idxF, hp, h1], by simp [hp, h2]⟩
      · exact .inr ⟨j + 1, y, by simp only [idxF, hp, cond_false, h1]; omega, by simpa using h2, by simp [hp, h3]⟩
    · exact .inr ⟨0, x, by simp [idxF, hp], by simp, by simp [hp]⟩

def findC (t : Tb) (n : Str) : Bool :=
  ByteArray.toList t.sch.name == ByteArray.toList n
theorem k_evaluate_find_c1 (t : Tb) (n : Str)  : ACallsTo E0 S.evaluate_find_c1 [t.av, .p 0 0] [.box [sv n]] (bv (findC t n)) [.box [sv n]] := by
  exact walkH E0ok mix0 At.evaluate_find_c1 rfl (by kernel_rfl) (by kernel_rfl) 3000 (y := AV.v (Value.bool (ByteArray.toList t.sch.name == ByteArray.toList n))) (H := [Blk.box [AV.v (Value.string n)]]) [] (by kernel_rfl) (⟨rfl, rfl⟩)
def colC (t : Col) (n : Str) : Bool :=
  ByteArray.toList t.name == ByteArray.toList n
theorem k_schema_Find_c1 (t : Col) (n : Str)  : ACallsTo E0 S.schema_Find_c1 [.agg t.cells, .p 0 0] [.box [sv n]] (bv (colC t n)) [.box [sv n]] := by
  exact walkH E0ok mix0 At.schema_Find_c1 rfl (by kernel_rfl) (by kernel_rfl) 3000 (y := AV.v (Value.bool (ByteArray.toList t.name == ByteArray.toList n))) (H := [Blk.box [AV.v (Value.string n)]]) [] (by kernel_rfl) (⟨rfl, rfl⟩)
noncomputable def L_ixT (tb : List Tb) (n : Str) (i : Nat) : Cfg := loopAt B.slices_IndexFunc_Table 0 [(0, .sl (tb.map Tb.cells)), (1, .fn S.evaluate_find_c1 [.p 0 0]), (7, iv ((tb.map Tb.cells).length : Nat)), (8, iv (i : Nat))] [.box [sv n]]
theorem k_ixT_loop (tb : List Tb) (n : Str) (hl : Short tb) : ∀ (k i : Nat), i + k = tb.length → Good E0 B.slices_IndexFunc_Table [.box [sv n]] (L_ixT tb n i) (Shut 1 fun r h => r = iv (idxF (fun t => findC t n) (tb.drop i) i) ∧ h = [.box [sv n]]) := by
  intro k
  induction k with
  | zero =>
    intro i hi
    refine good_unroll ?_
    have h0 : decide ((i : Int) < (((tb.map Tb.cells).length : Nat) : Int)) = false := by simp; omega
    have e0 : tb.drop i = [] := List.drop_of_length_le (by omega)
    rw [e0]
    exact toRet E0ok mix0 3000 (y := AV.v (Value.int IntKind.i64 (-1 : Int))) (H := [Blk.box [AV.v (Value.string n)]]) [sb h0] (by kernel_rfl) (⟨rfl, rfl⟩)
  | succ k ih =>
    intro i hi
    have ih := ih (i + 1) (by omega)
    obtain ⟨x, hx⟩ := ex_at (l := tb) (i := i) (by omega)
    have h0 : decide ((i : Int) < (((tb.map Tb.cells).length : Nat) : Int)) = true := by simp; omega
    have hw := wrap_nat i (by omega)
    rw [drop_at hx]
    simp only [idxF]
    refine good_unroll ?_
    cases h1 : findC x n
    · exact toLoop E0ok mix0 3000 (c' := L_ixT tb n (i + (1 : Nat))) [sb h0, se (elAt_map (Tb.cells) hx rfl), sl [(0 : Nat)] (k_evaluate_find_c1 (x) (n)), sb h1, si hw] [0, 1, 7, 8] 1 (by kernel_rfl) (by kernel_rfl) (by simpa only [cond_true, cond_false, h1] using ih)
    · exact toRet E0ok mix0 3000 (y := AV.v (Value.int IntKind.i64 (↑i : Int))) (H := [Blk.box [AV.v (Value.string n)]]) [sb h0, se (elAt_map (Tb.cells) hx rfl), sl [(0 : Nat)] (k_evaluate_find_c1 (x) (n)), sb h1] (by kernel_rfl) (⟨by simp only [cond_true, cond_false, h1], rfl⟩)

theorem k_slices_IndexFunc_Table (tb : List Tb) (n : Str) (hl : Short tb) : ACallsTo E0 S.slices_IndexFunc_Table [.sl (tb.map Tb.cells), .fn S.evaluate_find_c1 [.p 0 0]] [.box [sv n]] (iv (idxF (fun t => findC t n) tb 0)) [.box [sv n]] := by
  exact fromCall E0ok mix0 At.slices_IndexFunc_Table rfl (by kernel_rfl) (by kernel_rfl) 3000 (c' := L_ixT tb n (0 : Nat)) [] [0, 1, 7, 8] 1 (by kernel_rfl) (by kernel_rfl) (by simpa using k_ixT_loop tb n hl tb.length 0 (by simp))

noncomputable def L_ixC (tb : List Col) (n : Str) (i : Nat) : Cfg := loopAt B.slices_IndexFunc_Column 0 [(0, .sl (tb.map Col.cells)), (1, .fn S.schema_Find_c1 [.p 0 0]), (7, iv ((tb.map Col.cells).length : Nat)), (8, iv (i : Nat))] [.box [sv n]]
theorem k_ixC_loop (tb : List Col) (n : Str) (hl : Short tb) : ∀ (k i : Nat), i + k = tb.length → Good E0 B.slices_IndexFunc_Column [.box [sv n]] (L_ixC tb n i) (Shut 1 fun r h => r = iv (idxF (fun t => colC t n) (tb.drop i) i) ∧ h = [.box [sv n]]) := by
  intro k
  induction k with
  | zero =>
    intro i hi
    refine good_unroll ?_
    have h0 : decide ((i : Int) < (((tb.map Col.cells).length : Nat) : Int)) = false := by simp; omega
    have e0 : tb.drop i = [] := List.drop_of_length_le (by omega)
    rw [e0]
    exact toRet E0ok mix0 3000 (y := AV.v (Value.int IntKind.i64 (-1 : Int))) (H := [Blk.box [AV.v (Value.string n)]]) [sb h0] (by kernel_rfl) (⟨rfl, rfl⟩)
  | succ k ih =>
    intro i hi
    have ih := ih (i + 1) (by omega)
    obtain ⟨x, hx⟩ := ex_at (l := tb) (i := i) (by omega)
    have h0 : decide ((i : Int) < (((tb.map Col.cells).length : Nat) : Int)) = true := by simp; omega
    have hw := wrap_nat i (by omega)
    rw [drop_at hx]
    simp only [idxF]
    refine good_unroll ?_
    cases h1 : colC x n
    · exact toLoop E0ok mix0 3000 (c' := L_ixC tb n (i + (1 : Nat))) [sb h0, se (elAt_map (Col.cells) hx rfl), sl [(0 : Nat)] (k_schema_Find_c1 (x) (n)), sb h1, si hw] [0, 1, 7, 8] 1 (by kernel_rfl) (by kernel_rfl) (by simpa only [cond_true, cond_false, h1] using ih)
    · exact toRet E0ok mix0 3000 (y := AV.v (Value.int IntKind.i64 (↑i : Int))) (H := [Blk.box [AV.v (Value.string n)]]) [sb h0, se (elAt_map (Col.cells) hx rfl), sl [(0 : Nat)] (k_schema_Find_c1 (x) (n)), sb h1] (by kernel_rfl) (⟨by simp only [cond_true, cond_false, h1], rfl⟩)

theorem k_slices_IndexFunc_Column (tb : List Col) (n : Str) (hl : Short tb) : ACallsTo E0 S.slices_IndexFunc_Column [.sl (tb.map Col.cells), .fn S.schema_Find_c1 [.p 0 0]] [.box [sv n]] (iv (idxF (fun t => colC t n) tb 0)) [.box [sv n]] := by
  exact fromCall E0ok mix0 At.slices_IndexFunc_Column rfl (by kernel_rfl) (by kernel_rfl) 3000 (c' := L_ixC tb n (0 : Nat)) [] [0, 1, 7, 8] 1 (by kernel_rfl) (by kernel_rfl) (by simpa using k_ixC_loop tb n hl tb.length 0 (by simp))

def findS (tb : List Tb) (n : Str) : Option Tb := tb.find? fun t => findC t n
theorem k_evaluate_find__1 (tb : List Tb) (n : Str) (hl : Short tb) (t : Tb) (h : findS tb n = some t) : Pure S.evaluate_find [tsl tb, sv n] (.tup [t.av, bv true]) := by
  have hk := k_slices_IndexFunc_Table tb n hl
  rcases idxF_at (fun t => findC t n) tb 0 with ⟨_, h2⟩ | ⟨j, y, h1, hx, h3⟩
  · rw [findS, h2] at h; cases h
  rw [findS, h3] at h
  cases h
  rw [Nat.zero_add] at h1
  rw [h1] at hk
  have h4 : decide (((j : Nat) : Int) < 0) = false := by simp
  exact walk E0ok mix0 At.evaluate_find rfl (by kernel_rfl) (by kernel_rfl) 3000 (y := AV.tup [AV.agg [AV.v (Value.string t.sch.name), AV.sl (List.map Col.cells t.sch.cols), AV.v (Value.int IntKind.i64 t.next), AV.sl (List.map Rw.cells t.rows)], AV.v (Value.bool true)]) [sl [(0 : Nat)] (hk ), sb (rfl : false = false), se (elAt_map (Tb.cells) hx rfl)] (by kernel_rfl) (rfl)

def Tb.zero : Tb := ⟨⟨⟨#[]⟩, []⟩, 0, []⟩
theorem k_evaluate_find__0 (tb : List Tb) (n : Str) (hl : Short tb) (h : findS tb n = none) : Pure S.evaluate_find [tsl tb, sv n] (.tup [Tb.zero.av, bv false]) := by
  have hk := k_slices_IndexFunc_Table tb n hl
  rcases idxF_at (fun t => findC t n) tb 0 with ⟨h1, _⟩ | ⟨j, y, h1, hx, h3⟩
  · rw [h1] at hk
    exact walk E0ok mix0 At.evaluate_find rfl (by kernel_rfl) (by kernel_rfl) 3000 (y := AV.tup [AV.agg [AV.v (Value.string (ByteArray.mk #[])), AV.sl [], AV.v (Value.int IntKind.i64 (0 : Int)), AV.sl []], AV.v (Value.bool false)]) [sl [(0 : Nat)] (hk ), sb (rfl : true = true)] (by kernel_rfl) (rfl)
  · rw [findS, h3] at h; cases h

theorem k_schema_Find (s : Sch) (n : Str) (hl : Short s.cols) : Pure S.schema_Find [s.av, sv n] (iv (idxF (fun c => colC c n) s.cols 0)) := by
  exact walk E0ok mix0 At.schema_Find rfl (by kernel_rfl) (by kernel_rfl) 3000 (y := AV.v (Value.int IntKind.i64 (idxF (fun t => colC t n) s.cols (0 : Nat)))) [sl [(1 : Nat)] (k_slices_IndexFunc_Column (s.cols) (n) (by first | assumption | (simp; done) | omega | (simp; omega)))] (by kernel_rfl) (rfl)

def formed1 (kind op : Int) (xs : List X) (qs : List Qy) (it wh : List X) : Bool :=
  bif kind == (1 : Int) then
    bif (↑(cellsX xs).length : Int) != (0 : Int) then
      false
    else
      bif (↑(cellsQ qs).length : Int) != (0 : Int) then
        false
      else
        true
  else
    bif kind == (2 : Int) then
      bif (↑(cellsX xs).length : Int) != (0 : Int) then
        false
      else
        bif (↑(cellsQ qs).length : Int) != (0 : Int) then
          false
        else
          true
    else
      bif kind == (3 : Int) then
        bif (↑(cellsX xs).length : Int) != (1 : Int) then
          false
        else
          bif (↑(cellsQ qs).length : Int) != (0 : Int) then
            false
          else
            true
      else
        bif kind == (4 : Int) then
          bif (↑(cellsX xs).length : Int) != (1 : Int) then
            false
          else
            bif (↑(cellsQ qs).length : Int) != (0 : Int) then
              false
            else
              true
        else
          bif kind == (6 : Int) then
            bif (↑(cellsX xs).length : Int) != (1 : Int) then
              false
            else
              bif (↑(cellsQ qs).length : Int) != (0 : Int) then
                false
              else
                true
          else
            bif kind == (5 : Int) then
              bif decide (op < (1 : Int)) then
                false
              else
                bif decide ((13 : Int) < op) then
                  false
                else
                  bif (↑(cellsX xs).length : Int) != (2 : Int) then
                    false
                  else
                    bif (↑(cellsQ qs).length : Int) != (0 : Int) then
                      false
                    else
                      true
            else
              bif kind == (7 : Int) then
                bif (↑(cellsX xs).length : Int) != (3 : Int) then
                  false
                else
                  bif (↑(cellsQ qs).length : Int) != (0 : Int) then
                    false
                  else
                    true
              else
                bif kind == (8 : Int) then
                  bif (↑(cellsX xs).length : Int) != (0 : Int) then
                    false
                  else
                    bif (↑(cellsQ qs).length : Int) != (1 : Int) then
                      false
                    else
                      bif (↑(cellsX it).length : Int) == (0 : Int) then
                        decide ((↑(cellsX wh).length : Int) ≤ (1 : Int))
                      else
                        false
                else
                  bif kind == (9 : Int) then
                    bif (↑(cellsX xs).length : Int) != (0 : Int) then
                      false
                    else
                      bif (↑(cellsQ qs).length : Int) != (1 : Int) then
                        false
                      else
                        bif (↑(cellsX it).length : Int) == (0 : Int) then
                          decide ((↑(cellsX wh).length : Int) ≤ (1 : Int))
                        else
                          false
                  else
                    bif kind == (10 : Int) then
                      bif (↑(cellsX xs).length : Int) != (0 : Int) then
                        false
                      else
                        bif (↑(cellsQ qs).length : Int) != (1 : Int) then
                          false
                        else
                          bif (↑(cellsX it).length : Int) == (1 : Int) then
                            decide ((↑(cellsX wh).length : Int) ≤ (1 : Int))
                          else
                            false
                    else
                      bif kind == (11 : Int) then
                        bif (↑(cellsX xs).length : Int) != (0 : Int) then
                          false
                        else
                          bif (↑(cellsQ qs).length : Int) != (1 : Int) then
                            false
                          else
                            bif (↑(cellsX it).length : Int) == (1 : Int) then
                              decide ((↑(cellsX wh).length : Int) ≤ (1 : Int))
                            else
                              false
                      else
                        bif kind == (12 : Int) then
                          bif (↑(cellsX xs).length : Int) != (0 : Int) then
                            false
                          else
                            bif (↑(cellsQ qs).length : Int) != (1 : Int) then
                              false
                            else
                              bif (↑(cellsX it).length : Int) == (1 : Int) then
                                decide ((↑(cellsX wh).length : Int) ≤ (1 : Int))
                              else
                                false
                        else
                          false
theorem k_scope_Formed__1 (kind op : Int) (xs : List X) (qs : List Qy) (it wh : List X) (nt : Bool) (val : V) (tn nm : Str) (st : Bool) (fm : Str) (hq : qs[0]? = some (Qy.mk st it fm wh)) : ACallsTo E0 S.scope_Formed [X.av (.mk kind op nt val tn nm xs qs)] [] (bv (formed1 kind op xs qs it wh)) [] := by
  cases h1 : kind == (1 : Int)
  · cases h2 : kind == (2 : Int)
    · cases h3 : kind == (3 : Int)
      · cases h4 : kind == (4 : Int)
        · cases h5 : kind == (6 : Int)
          · cases h6 : kind == (5 : Int)
            · cases h7 : kind == (7 : Int)
              · cases h8 : kind == (8 : Int)
                · cases h9 : kind == (9 : Int)
                  · cases h10 : kind == (10 : Int)
                    · cases h11 : kind == (11 : Int)
                      · cases h12 : kind == (12 : Int)
                        · exact walk E0ok mix0 At.scope_Formed rfl (by kernel_rfl) (by kernel_rfl) 3000 (y := AV.v (Value.bool false)) [sb h1, sb h2, sb h3, sb h4, sb h5, sb h6, sb h7, sb h8, sb h9, sb h10, sb h11, sb h12] (by kernel_rfl) (by simp only [formed1, cond_true, cond_false, h1, h2, h3, h4, h5, h6, h7, h8, h9, h10, h11, h12] <;> rfl)
                        · cases h13 : (↑(cellsX xs).length : Int) != (0 : Int)
                          · cases h14 : (↑(cellsQ qs).length : Int) != (1 : Int)
                            · cases h15 : (↑(cellsX it).length : Int) == (1 : Int)
                              · exact walk E0ok mix0 At.scope_Formed rfl (by kernel_rfl) (by kernel_rfl) 3000 (y := AV.v (Value.bool false)) [sb h1, sb h2, sb h3, sb h4, sb h5, sb h6, sb h7, sb h8, sb h9, sb h10, sb h11, sb h12, sg h13, sb h14, sg (rfl : false = false), se (elAt_Q hq), sb h15] (by kernel_rfl) (by simp only [formed1, cond_true, cond_false, h1, h2, h3, h4, h5, h6, h7, h8, h9, h10, h11, h12, h13, h14, h15] <;> rfl)
                              · exact walk E0ok mix0 At.scope_Formed rfl (by kernel_rfl) (by kernel_rfl) 3000 (y := AV.v (Value.bool (decide ((↑(cellsX wh).length : Int) ≤ (1 : Int))))) [sb h1, sb h2, sb h3, sb h4, sb h5, sb h6, sb h7, sb h8, sb h9, sb h10, sb h11, sb h12, sg h13, sb h14, sg (rfl : false = false), se (elAt_Q hq), sg h15, se (elAt_Q hq)] (by kernel_rfl) (by simp only [formed1, cond_true, cond_false, h1, h2, h3, h4, h5, h6, h7, h8, h9, h10, h11, h12, h13, h14, h15] <;> rfl)
                            · exact walk E0ok mix0 At.scope_Formed rfl (by kernel_rfl) (by kernel_rfl) 3000 (y := AV.v (Value.bool false)) [sb h1, sb h2, sb h3, sb h4, sb h5, sb h6, sb h7, sb h8, sb h9, sb h10, sb h11, sb h12, sg h13, sb h14] (by kernel_rfl) (by simp only [formed1, cond_true, cond_false, h1, h2, h3, h4, h5, h6, h7, h8, h9, h10, h11, h12, h13, h14] <;> rfl)
                          · exact walk E0ok mix0 At.scope_Formed rfl (by kernel_rfl) (by kernel_rfl) 3000 (y := AV.v (Value.bool false)) [sb h1, sb h2, sb h3, sb h4, sb h5, sb h6, sb h7, sb h8, sb h9, sb h10, sb h11, sb h12, sb h13] (by kernel_rfl) (by simp only [formed1, cond_true, cond_false, h1, h2, h3, h4, h5, h6, h7, h8, h9, h10, h11, h12, h13] <;> rfl)
                      · cases h16 : (↑(cellsX xs).length : Int) != (0 : Int)
                        · cases h17 : (↑(cellsQ qs).length : Int) != (1 : Int)
                          · cases h18 : (↑(cellsX it).length : Int) == (1 : Int)
                            · exact walk E0ok mix0 At.scope_Formed rfl (by kernel_rfl) (by kernel_rfl) 3000 (y := AV.v (Value.bool false)) [sb h1, sb h2, sb h3, sb h4, sb h5, sb h6, sb h7, sb h8, sb h9, sb h10, sb h11, sg h16, sb h17, sg (rfl : false = false), se (elAt_Q hq), sb h18] (by kernel_rfl) (by simp only [formed1, cond_true, cond_false, h1, h2, h3, h4, h5, h6, h7, h8, h9, h10, h11, h16, h17, h18] <;> rfl)
                            · exact walk E0ok mix0 At.scope_Formed rfl (by kernel_rfl) (by kernel_rfl) 3000 (y := AV.v (Value.bool (decide ((↑(cellsX wh).length : Int) ≤ (1 : Int))))) [sb h1, sb h2, sb h3, sb h4, sb h5, sb h6, sb h7, sb h8, sb h9, sb h10, sb h11, sg h16, sb h17, sg (rfl : false = false), se (elAt_Q hq), sg h18, se (elAt_Q hq)] (by kernel_rfl) (by simp only [formed1, cond_true, cond_false, h1, h2, h3, h4, h5, h6, h7, h8, h9, h10, h11, h16, h17, h18] <;> rfl)
                          · exact walk E0ok mix0 At.scope_Formed rfl (by kernel_rfl) (by kernel_rfl) 3000 (y := AV.v (Value.bool false)) [sb h1, sb h2, sb h3, sb h4, sb h5, sb h6, sb h7, sb h8, sb h9, sb h10, sb h11, sg h16, sb h17] (by kernel_rfl) (by simp only [formed1, cond_true, cond_false, h1, h2, h3, h4, h5, h6, h7, h8, h9, h10, h11, h16, h17] <;> rfl)
                        · exact walk E0ok mix0 At.scope_Formed rfl (by kernel_rfl) (by kernel_rfl) 3000 (y := AV.v (Value.bool false)) [sb h1, sb h2, sb h3, sb h4, sb h5, sb h6, sb h7, sb h8, sb h9, sb h10, sb h11, sb h16] (by kernel_rfl) (by simp only [formed1, cond_true, cond_false, h1, h2, h3, h4, h5, h6, h7, h8, h9, h10, h11, h16] <;> rfl)
                    · cases h19 : (↑(cellsX xs).length : Int) != (0 : Int)
                      · cases h20 : (↑(cellsQ qs).length : Int) != (1 : Int)
                        · cases h21 : (↑(cellsX it).length : Int) == (1 : Int)
                          · exact walk E0ok mix0 At.scope_Formed rfl (by kernel_rfl) (by kernel_rfl) 3000 (y := AV.v (Value.bool false)) [sb h1, sb h2, sb h3, sb h4, sb h5, sb h6, sb h7, sb h8, sb h9, sb h10, sg h19, sb h20, sg (rfl : false = false), se (elAt_Q hq), sb h21] (by kernel_rfl) (by simp only [formed1, cond_true, cond_false, h1, h2, h3, h4, h5, h6, h7, h8, h9, h10, h19, h20, h21] <;> rfl)
                          · exact walk E0ok mix0 At.scope_Formed rfl (by kernel_rfl) (by kernel_rfl) 3000 (y := AV.v (Value.bool (decide ((↑(cellsX wh).length : Int) ≤ (1 : Int))))) [sb h1, sb h2, sb h3, sb h4, sb h5, sb h6, sb h7, sb h8, sb h9, sb h10, sg h19, sb h20, sg (rfl : false = false), se (elAt_Q hq), sg h21, se (elAt_Q hq)] (by kernel_rfl) (by simp only [formed1, cond_true, cond_false, h1, h2, h3, h4, h5, h6, h7, h8, h9, h10, h19, h20, h21] <;> rfl)
                        · exact walk E0ok mix0 At.scope_Formed rfl (by kernel_rfl) (by kernel_rfl) 3000 (y := AV.v (Value.bool false)) [sb h1, sb h2, sb h3, sb h4, sb h5, sb h6, sb h7, sb h8, sb h9, sb h10, sg h19, sb h20] (by kernel_rfl) (by simp only [formed1, cond_true, cond_false, h1, h2, h3, h4, h5, h6, h7, h8, h9, h10, h19, h20] <;> rfl)
                      · exact walk E0ok mix0 At.scope_Formed rfl (by kernel_rfl) (by kernel_rfl) 3000 (y := AV.v (Value.bool false)) [sb h1, sb h2, sb h3, sb h4, sb h5, sb h6, sb h7, sb h8, sb h9, sb h10, sb h19] (by kernel_rfl) (by simp only [formed1, cond_true, cond_false, h1, h2, h3, h4, h5, h6, h7, h8, h9, h10, h19] <;> rfl)
                  · cases h22 : (↑(cellsX xs).length : Int) != (0 : Int)
                    · cases h23 : (↑(cellsQ qs).length : Int) != (1 : Int)
                      · cases h24 : (↑(cellsX it).length : Int) == (0 : Int)
                        · exact walk E0ok mix0 At.scope_Formed rfl (by kernel_rfl) (by kernel_rfl) 3000 (y := AV.v (Value.bool false)) [sb h1, sb h2, sb h3, sb h4, sb h5, sb h6, sb h7, sb h8, sb h9, sg h22, sb h23, sg (rfl : false = false), se (elAt_Q hq), sb h24] (by kernel_rfl) (by simp only [formed1, cond_true, cond_false, h1, h2, h3, h4, h5, h6, h7, h8, h9, h22, h23, h24] <;> rfl)
                        · exact walk E0ok mix0 At.scope_Formed rfl (by kernel_rfl) (by kernel_rfl) 3000 (y := AV.v (Value.bool (decide ((↑(cellsX wh).length : Int) ≤ (1 : Int))))) [sb h1, sb h2, sb h3, sb h4, sb h5, sb h6, sb h7, sb h8, sb h9, sg h22, sb h23, sg (rfl : false = false), se (elAt_Q hq), sg h24, se (elAt_Q hq)] (by kernel_rfl) (by simp only [formed1, cond_true, cond_false, h1, h2, h3, h4, h5, h6, h7, h8, h9, h22, h23, h24] <;> rfl)
                      · exact walk E0ok mix0 At.scope_Formed rfl (by kernel_rfl) (by kernel_rfl) 3000 (y := AV.v (Value.bool false)) [sb h1, sb h2, sb h3, sb h4, sb h5, sb h6, sb h7, sb h8, sb h9, sg h22, sb h23] (by kernel_rfl) (by simp only [formed1, cond_true, cond_false, h1, h2, h3, h4, h5, h6, h7, h8, h9, h22, h23] <;> rfl)
                    · exact walk E0ok mix0 At.scope_Formed rfl (by kernel_rfl) (by kernel_rfl) 3000 (y := AV.v (Value.bool false)) [sb h1, sb h2, sb h3, sb h4, sb h5, sb h6, sb h7, sb h8, sb h9, sb h22] (by kernel_rfl) (by simp only [formed1, cond_true, cond_false, h1, h2, h3, h4, h5, h6, h7, h8, h9, h22] <;> rfl)
                · cases h25 : (↑(cellsX xs).length : Int) != (0 : Int)
                  · cases h26 : (↑(cellsQ qs).length : Int) != (1 : Int)
                    · cases h27 : (↑(cellsX it).length : Int) == (0 : Int)
                      · exact walk E0ok mix0 At.scope_Formed rfl (by kernel_rfl) (by kernel_rfl) 3000 (y := AV.v (Value.bool false)) [sb h1, sb h2, sb h3, sb h4, sb h5, sb h6, sb h7, sb h8, sg h25, sb h26, sg (rfl : false = false), se (elAt_Q hq), sb h27] (by kernel_rfl) (by simp only [formed1, cond_true, cond_false, h1, h2, h3, h4, h5, h6, h7, h8, h25, h26, h27] <;> rfl)
                      · exact walk E0ok mix0 At.scope_Formed rfl (by kernel_rfl) (by kernel_rfl) 3000 (y := AV.v (Value.bool (decide ((↑(cellsX wh).length : Int) ≤ (1 : Int))))) [sb h1, sb h2, sb h3, sb h4, sb h5, sb h6, sb h7, sb h8, sg h25, sb h26, sg (rfl : false = false), se (elAt_Q hq), sg h27, se (elAt_Q hq)] (by kernel_rfl) (by simp only [formed1, cond_true, cond_false, h1, h2, h3, h4, h5, h6, h7, h8, h25, h26, h27] <;> rfl)
                    · exact walk E0ok mix0 At.scope_Formed rfl (by kernel_rfl) (by kernel_rfl) 3000 (y := AV.v (Value.bool false)) [sb h1, sb h2, sb h3, sb h4, sb h5, sb h6, sb h7, sb h8, sg h25, sb h26] (by kernel_rfl) (by simp only [formed1, cond_true, cond_false, h1, h2, h3, h4, h5, h6, h7, h8, h25, h26] <;> rfl)
                  · exact walk E0ok mix0 At.scope_Formed rfl (by kernel_rfl) (by kernel_rfl) 3000 (y := AV.v (Value.bool false)) [sb h1, sb h2, sb h3, sb h4, sb h5, sb h6, sb h7, sb h8, sb h25] (by kernel_rfl) (by simp only [formed1, cond_true, cond_false, h1, h2, h3, h4, h5, h6, h7, h8, h25] <;> rfl)
              · cases h28 : (↑(cellsX xs).length : Int) != (3 : Int)
                · cases h29 : (↑(cellsQ qs).length : Int) != (0 : Int)
                  · exact walk E0ok mix0 At.scope_Formed rfl (by kernel_rfl) (by kernel_rfl) 3000 (y := AV.v (Value.bool true)) [sb h1, sb h2, sb h3, sb h4, sb h5, sb h6, sb h7, sg h28, sb h29, sb (rfl : true = true)] (by kernel_rfl) (by simp only [formed1, cond_true, cond_false, h1, h2, h3, h4, h5, h6, h7, h28, h29] <;> rfl)
                  · exact walk E0ok mix0 At.scope_Formed rfl (by kernel_rfl) (by kernel_rfl) 3000 (y := AV.v (Value.bool false)) [sb h1, sb h2, sb h3, sb h4, sb h5, sb h6, sb h7, sg h28, sb h29] (by kernel_rfl) (by simp only [formed1, cond_true, cond_false, h1, h2, h3, h4, h5, h6, h7, h28, h29] <;> rfl)
                · exact walk E0ok mix0 At.scope_Formed rfl (by kernel_rfl) (by kernel_rfl) 3000 (y := AV.v (Value.bool false)) [sb h1, sb h2, sb h3, sb h4, sb h5, sb h6, sb h7, sb h28] (by kernel_rfl) (by simp only [formed1, cond_true, cond_false, h1, h2, h3, h4, h5, h6, h7, h28] <;> rfl)
            · cases h30 : decide (op < (1 : Int))
              · cases h31 : decide ((13 : Int) < op)
                · cases h32 : (↑(cellsX xs).length : Int) != (2 : Int)
                  · cases h33 : (↑(cellsQ qs).length : Int) != (0 : Int)
                    · exact walk E0ok mix0 At.scope_Formed rfl (by kernel_rfl) (by kernel_rfl) 3000 (y := AV.v (Value.bool true)) [sb h1, sb h2, sb h3, sb h4, sb h5, sb h6, sg h30, sb h31, sg h32, sb h33, sb (rfl : true = true)] (by kernel_rfl) (by simp only [formed1, cond_true, cond_false, h1, h2, h3, h4, h5, h6, h30, h31, h32, h33] <;> rfl)
                    · exact walk E0ok mix0 At.scope_Formed rfl (by kernel_rfl) (by kernel_rfl) 3000 (y := AV.v (Value.bool false)) [sb h1, sb h2, sb h3, sb h4, sb h5, sb h6, sg h30, sb h31, sg h32, sb h33] (by kernel_rfl) (by simp only [formed1, cond_true, cond_false, h1, h2, h3, h4, h5, h6, h30, h31, h32, h33] <;> rfl)
                  · exact walk E0ok mix0 At.scope_Formed rfl (by kernel_rfl) (by kernel_rfl) 3000 (y := AV.v (Value.bool false)) [sb h1, sb h2, sb h3, sb h4, sb h5, sb h6, sg h30, sb h31, sb h32] (by kernel_rfl) (by simp only [formed1, cond_true, cond_false, h1, h2, h3, h4, h5, h6, h30, h31, h32] <;> rfl)
                · exact walk E0ok mix0 At.scope_Formed rfl (by kernel_rfl) (by kernel_rfl) 3000 (y := AV.v (Value.bool false)) [sb h1, sb h2, sb h3, sb h4, sb h5, sb h6, sg h30, sb h31] (by kernel_rfl) (by simp only [formed1, cond_true, cond_false, h1, h2, h3, h4, h5, h6, h30, h31] <;> rfl)
              · exact walk E0ok mix0 At.scope_Formed rfl (by kernel_rfl) (by kernel_rfl) 3000 (y := AV.v (Value.bool false)) [sb h1, sb h2, sb h3, sb h4, sb h5, sb h6, sb h30] (by kernel_rfl) (by simp only [formed1, cond_true, cond_false, h1, h2, h3, h4, h5, h6, h30] <;> rfl)
          · cases h34 : (↑(cellsX xs).length : Int) != (1 : Int)
            · cases h35 : (↑(cellsQ qs).length : Int) != (0 : Int)
              · exact walk E0ok mix0 At.scope_Formed rfl (by kernel_rfl) (by kernel_rfl) 3000 (y := AV.v (Value.bool true)) [sb h1, sb h2, sb h3, sb h4, sb h5, sg h34, sb h35, sb (rfl : true = true)] (by kernel_rfl) (by simp only [formed1, cond_true, cond_false, h1, h2, h3, h4, h5, h34, h35] <;> rfl)
              · exact walk E0ok mix0 At.scope_Formed rfl (by kernel_rfl) (by kernel_rfl) 3000 (y := AV.v (Value.bool false)) [sb h1, sb h2, sb h3, sb h4, sb h5, sg h34, sb h35] (by kernel_rfl) (by simp only [formed1, cond_true, cond_false, h1, h2, h3, h4, h5, h34, h35] <;> rfl)
            · exact walk E0ok mix0 At.scope_Formed rfl (by kernel_rfl) (by kernel_rfl) 3000 (y := AV.v (Value.bool false)) [sb h1, sb h2, sb h3, sb h4, sb h5, sb h34] (by kernel_rfl) (by simp only [formed1, cond_true, cond_false, h1, h2, h3, h4, h5, h34] <;> rfl)
        · cases h36 : (↑(cellsX xs).length : Int) != (1 : Int)
          · cases h37 : (↑(cellsQ qs).length : Int) != (0 : Int)
            · exact walk E0ok mix0 At.scope_Formed rfl (by kernel_rfl) (by kernel_rfl) 3000 (y := AV.v (Value.bool true)) [sb h1, sb h2, sb h3, sb h4, sg h36, sb h37, sb (rfl : true = true)] (by kernel_rfl) (by simp only [formed1, cond_true, cond_false, h1, h2, h3, h4, h36, h37] <;> rfl)
            · exact walk E0ok mix0 At.scope_Formed rfl (by kernel_rfl) (by kernel_rfl) 3000 (y := AV.v (Value.bool false)) [sb h1, sb h2, sb h3, sb h4, sg h36, sb h37] (by kernel_rfl) (by simp only [formed1, cond_true, cond_false, h1, h2, h3, h4, h36, h37] <;> rfl)
          · exact walk E0ok mix0 At.scope_Formed rfl (by kernel_rfl) (by kernel_rfl) 3000 (y := AV.v (Value.bool false)) [sb h1, sb h2, sb h3, sb h4, sb h36] (by kernel_rfl) (by simp only [formed1, cond_true, cond_false, h1, h2, h3, h4, h36] <;> rfl)
      · cases h38 : (↑(cellsX xs).length : Int) != (1 : Int)
        · cases h39 : (↑(cellsQ qs).length : Int) != (0 : Int)
          · exact walk E0ok mix0 At.scope_Formed rfl (by kernel_rfl) (by kernel_rfl) 3000 (y := AV.v (Value.bool true)) [sb h1, sb h2, sb h3, sg h38, sb h39, sb (rfl : true = true)] (by kernel_rfl) (by simp only [formed1, cond_true, cond_false, h1, h2, h3, h38, h39] <;> rfl)
          · exact walk E0ok mix0 At.scope_Formed rfl (by kernel_rfl) (by kernel_rfl) 3000 (y := AV.v (Value.bool false)) [sb h1, sb h2, sb h3, sg h38, sb h39] (by kernel_rfl) (by simp only [formed1, cond_true, cond_false, h1, h2, h3, h38, h39] <;> rfl)
        · exact walk E0ok mix0 At.scope_Formed rfl (by kernel_rfl) (by kernel_rfl) 3000 (y := AV.v (Value.bool false)) [sb h1, sb h2, sb h3, sb h38] (by kernel_rfl) (by simp only [formed1, cond_true, cond_false, h1, h2, h3, h38] <;> rfl)
    · cases h40 : (↑(cellsX xs).length : Int) != (0 : Int)
      · cases h41 : (↑(cellsQ qs).length : Int) != (0 : Int)
        · exact walk E0ok mix0 At.scope_Formed rfl (by kernel_rfl) (by kernel_rfl) 3000 (y := AV.v (Value.bool true)) [sb h1, sb h2, sg h40, sb h41, sb (rfl : true = true)] (by kernel_rfl) (by simp only [formed1, cond_true, cond_false, h1, h2, h40, h41] <;> rfl)
        · exact walk E0ok mix0 At.scope_Formed rfl (by kernel_rfl) (by kernel_rfl) 3000 (y := AV.v (Value.bool false)) [sb h1, sb h2, sg h40, sb h41] (by kernel_rfl) (by simp only [formed1, cond_true, cond_false, h1, h2, h40, h41] <;> rfl)
      · exact walk E0ok mix0 At.scope_Formed rfl (by kernel_rfl) (by kernel_rfl) 3000 (y := AV.v (Value.bool false)) [sb h1, sb h2, sb h40] (by kernel_rfl) (by simp only [formed1, cond_true, cond_false, h1, h2, h40] <;> rfl)
  · cases h42 : (↑(cellsX xs).length : Int) != (0 : Int)
    · cases h43 : (↑(cellsQ qs).length : Int) != (0 : Int)
      · exact walk E0ok mix0 At.scope_Formed rfl (by kernel_rfl) (by kernel_rfl) 3000 (y := AV.v (Value.bool true)) [sb h1, sg h42, sb h43, sb (rfl : true = true)] (by kernel_rfl) (by simp only [formed1, cond_true, cond_false, h1, h42, h43] <;> rfl)
      · exact walk E0ok mix0 At.scope_Formed rfl (by kernel_rfl) (by kernel_rfl) 3000 (y := AV.v (Value.bool false)) [sb h1, sg h42, sb h43] (by kernel_rfl) (by simp only [formed1, cond_true, cond_false, h1, h42, h43] <;> rfl)
    · exact walk E0ok mix0 At.scope_Formed rfl (by kernel_rfl) (by kernel_rfl) 3000 (y := AV.v (Value.bool false)) [sb h1, sb h42] (by kernel_rfl) (by simp only [formed1, cond_true, cond_false, h1, h42] <;> rfl)
def formed0 (kind op : Int) (xs : List X) : Bool :=
  bif kind == (1 : Int) then
    bif (↑(cellsX xs).length : Int) != (0 : Int) then
      false
    else
      true
  else
    bif kind == (2 : Int) then
      bif (↑(cellsX xs).length : Int) != (0 : Int) then
        false
      else
        true
    else
      bif kind == (3 : Int) then
        bif (↑(cellsX xs).length : Int) != (1 : Int) then
          false
        else
          true
      else
        bif kind == (4 : Int) then
          bif (↑(cellsX xs).length : Int) != (1 : Int) then
            false
          else
            true
        else
          bif kind == (6 : Int) then
            bif (↑(cellsX xs).length : Int) != (1 : Int) then
              false
            else
              true
          else
            bif kind == (5 : Int) then
              bif decide (op < (1 : Int)) then
                false
              else
                bif decide ((13 : Int) < op) then
                  false
                else
                  bif (↑(cellsX xs).length : Int) != (2 : Int) then
                    false
                  else
                    true
            else
              bif kind == (7 : Int) then
                bif (↑(cellsX xs).length : Int) != (3 : Int) then
                  false
                else
                  true
              else
                bif kind == (8 : Int) then
                  bif (↑(cellsX xs).length : Int) != (0 : Int) then
                    false
                  else
                    false
                else
                  bif kind == (9 : Int) then
                    bif (↑(cellsX xs).length : Int) != (0 : Int) then
                      false
                    else
                      false
                  else
                    bif kind == (10 : Int) then
                      bif (↑(cellsX xs).length : Int) != (0 : Int) then
                        false
                      else
                        false
                    else
                      bif kind == (11 : Int) then
                        bif (↑(cellsX xs).length : Int) != (0 : Int) then
                          false
                        else
                          false
                      else
                        bif kind == (12 : Int) then
                          bif (↑(cellsX xs).length : Int) != (0 : Int) then
                            false
                          else
                            false
                        else
                          false
theorem k_scope_Formed__0 (kind op : Int) (xs : List X) (nt : Bool) (val : V) (tn nm : Str) : ACallsTo E0 S.scope_Formed [X.av (.mk kind op nt val tn nm xs [])] [] (bv (formed0 kind op xs)) [] := by
  cases h1 : kind == (1 : Int)
  · cases h2 : kind == (2 : Int)
    · cases h3 : kind == (3 : Int)
      · cases h4 : kind == (4 : Int)
        · cases h5 : kind == (6 : Int)
          · cases h6 : kind == (5 : Int)
            · cases h7 : kind == (7 : Int)
              · cases h8 : kind == (8 : Int)
                · cases h9 : kind == (9 : Int)
                  · cases h10 : kind == (10 : Int)
                    · cases h11 : kind == (11 : Int)
                      · cases h12 : kind == (12 : Int)
                        · exact walk E0ok mix0 At.scope_Formed rfl (by kernel_rfl) (by kernel_rfl) 3000 (y := AV.v (Value.bool false)) [sb h1, sb h2, sb h3, sb h4, sb h5, sb h6, sb h7, sb h8, sb h9, sb h10, sb h11, sb h12] (by kernel_rfl) (by simp only [formed0, cond_true, cond_false, h1, h2, h3, h4, h5, h6, h7, h8, h9, h10, h11, h12] <;> rfl)
                        · cases h13 : (↑(cellsX xs).length : Int) != (0 : Int)
                          · exact walk E0ok mix0 At.scope_Formed rfl (by kernel_rfl) (by kernel_rfl) 3000 (y := AV.v (Value.bool false)) [sb h1, sb h2, sb h3, sb h4, sb h5, sb h6, sb h7, sb h8, sb h9, sb h10, sb h11, sb h12, sg h13, sb (rfl : true = true)] (by kernel_rfl) (by simp only [formed0, cond_true, cond_false, h1, h2, h3, h4, h5, h6, h7, h8, h9, h10, h11, h12, h13] <;> rfl)
                          · exact walk E0ok mix0 At.scope_Formed rfl (by kernel_rfl) (by kernel_rfl) 3000 (y := AV.v (Value.bool false)) [sb h1, sb h2, sb h3, sb h4, sb h5, sb h6, sb h7, sb h8, sb h9, sb h10, sb h11, sb h12, sb h13] (by kernel_rfl) (by simp only [formed0, cond_true, cond_false, h1, h2, h3, h4, h5, h6, h7, h8, h9, h10, h11, h12, h13] <;> rfl)
                      · cases h14 : (↑(cellsX xs).length : Int) != (0 : Int)
                        · exact walk E0ok mix0 At.scope_Formed rfl (by kernel_rfl) (by kernel_rfl) 3000 (y := AV.v (Value.bool false)) [sb h1, sb h2, sb h3, sb h4, sb h5, sb h6, sb h7, sb h8, sb h9, sb h10, sb h11, sg h14, sb (rfl : true = true)] (by kernel_rfl) (by simp only [formed0, cond_true, cond_false, h1, h2, h3, h4, h5, h6, h7, h8, h9, h10, h11, h14] <;> rfl)
                        · exact walk E0ok mix0 At.scope_Formed rfl (by kernel_rfl) (by kernel_rfl) 3000 (y := AV.v (Value.bool false)) [sb h1, sb h2, sb h3, sb h4, sb h5, sb h6, sb h7, sb h8, sb h9, sb h10, sb h11, sb h14] (by kernel_rfl) (by simp only [formed0, cond_true, cond_false, h1, h2, h3, h4, h5, h6, h7, h8, h9, h10, h11, h14] <;> rfl)
                    · cases h15 : (↑(cellsX xs).length : Int) != (0 : Int)
                      · exact walk E0ok mix0 At.scope_Formed rfl (by kernel_rfl) (by kernel_rfl) 3000 (y := AV.v (Value.bool false)) [sb h1, sb h2, sb h3, sb h4, sb h5, sb h6, sb h7, sb h8, sb h9, sb h10, sg h15, sb (rfl : true = true)] (by kernel_rfl) (by simp only [formed0, cond_true, cond_false, h1, h2, h3, h4, h5, h6, h7, h8, h9, h10, h15] <;> rfl)
                      · exact walk E0ok mix0 At.scope_Formed rfl (by kernel_rfl) (by kernel_rfl) 3000 (y := AV.v (Value.bool false)) [sb h1, sb h2, sb h3, sb h4, sb h5, sb h6, sb h7, sb h8, sb h9, sb h10, sb h15] (by kernel_rfl) (by simp only [formed0, cond_true, cond_false, h1, h2, h3, h4, h5, h6, h7, h8, h9, h10, h15] <;> rfl)
                  · cases h16 : (↑(cellsX xs).length : Int) != (0 : Int)
                    · exact walk E0ok mix0 At.scope_Formed rfl (by kernel_rfl) (by kernel_rfl) 3000 (y := AV.v (Value.bool false)) [sb h1, sb h2, sb h3, sb h4, sb h5, sb h6, sb h7, sb h8, sb h9, sg h16, sb (rfl : true = true)] (by kernel_rfl) (by simp only [formed0, cond_true, cond_false, h1, h2, h3, h4, h5, h6, h7, h8, h9, h16] <;> rfl)
                    · exact walk E0ok mix0 At.scope_Formed rfl (by kernel_rfl) (by kernel_rfl) 3000 (y := AV.v (Value.bool false)) [sb h1, sb h2, sb h3, sb h4, sb h5, sb h6, sb h7, sb h8, sb h9, sb h16] (by kernel_rfl) (by simp only [formed0, cond_true, cond_false, h1, h2, h3, h4, h5, h6, h7, h8, h9, h16] <;> rfl)
                · cases h17 : (↑(cellsX xs).length : Int) != (0 : Int)
                  · exact walk E0ok mix0 At.scope_Formed rfl (by kernel_rfl) (by kernel_rfl) 3000 (y := AV.v (Value.bool false)) [sb h1, sb h2, sb h3, sb h4, sb h5, sb h6, sb h7, sb h8, sg h17, sb (rfl : true = true)] (by kernel_rfl) (by simp only [formed0, cond_true, cond_false, h1, h2, h3, h4, h5, h6, h7, h8, h17] <;> rfl)
                  · exact walk E0ok mix0 At.scope_Formed rfl (by kernel_rfl) (by kernel_rfl) 3000 (y := AV.v (Value.bool false)) [sb h1, sb h2, sb h3, sb h4, sb h5, sb h6, sb h7, sb h8, sb h17] (by kernel_rfl) (by simp only [formed0, cond_true, cond_false, h1, h2, h3, h4, h5, h6, h7, h8, h17] <;> rfl)
              · cases h18 : (↑(cellsX xs).length : Int) != (3 : Int)
                · exact walk E0ok mix0 At.scope_Formed rfl (by kernel_rfl) (by kernel_rfl) 3000 (y := AV.v (Value.bool true)) [sb h1, sb h2, sb h3, sb h4, sb h5, sb h6, sb h7, sg h18, sb (rfl : false = false), sb (rfl : true = true)] (by kernel_rfl) (by simp only [formed0, cond_true, cond_false, h1, h2, h3, h4, h5, h6, h7, h18] <;> rfl)
                · exact walk E0ok mix0 At.scope_Formed rfl (by kernel_rfl) (by kernel_rfl) 3000 (y := AV.v (Value.bool false)) [sb h1, sb h2, sb h3, sb h4, sb h5, sb h6, sb h7, sb h18] (by kernel_rfl) (by simp only [formed0, cond_true, cond_false, h1, h2, h3, h4, h5, h6, h7, h18] <;> rfl)
            · cases h19 : decide (op < (1 : Int))
              · cases h20 : decide ((13 : Int) < op)
                · cases h21 : (↑(cellsX xs).length : Int) != (2 : Int)
                  · exact walk E0ok mix0 At.scope_Formed rfl (by kernel_rfl) (by kernel_rfl) 3000 (y := AV.v (Value.bool true)) [sb h1, sb h2, sb h3, sb h4, sb h5, sb h6, sg h19, sb h20, sg h21, sb (rfl : false = false), sb (rfl : true = true)] (by kernel_rfl) (by simp only [formed0, cond_true, cond_false, h1, h2, h3, h4, h5, h6, h19, h20, h21] <;> rfl)
                  · exact walk E0ok mix0 At.scope_Formed rfl (by kernel_rfl) (by kernel_rfl) 3000 (y := AV.v (Value.bool false)) [sb h1, sb h2, sb h3, sb h4, sb h5, sb h6, sg h19, sb h20, sb h21] (by kernel_rfl) (by simp only [formed0, cond_true, cond_false, h1, h2, h3, h4, h5, h6, h19, h20, h21] <;> rfl)
                · exact walk E0ok mix0 At.scope_Formed rfl (by kernel_rfl) (by kernel_rfl) 3000 (y := AV.v (Value.bool false)) [sb h1, sb h2, sb h3, sb h4, sb h5, sb h6, sg h19, sb h20] (by kernel_rfl) (by simp only [formed0, cond_true, cond_false, h1, h2, h3, h4, h5, h6, h19, h20] <;> rfl)
              · exact walk E0ok mix0 At.scope_Formed rfl (by kernel_rfl) (by kernel_rfl) 3000 (y := AV.v (Value.bool false)) [sb h1, sb h2, sb h3, sb h4, sb h5, sb h6, sb h19] (by kernel_rfl) (by simp only [formed0, cond_true, cond_false, h1, h2, h3, h4, h5, h6, h19] <;> rfl)
          · cases h22 : (↑(cellsX xs).length : Int) != (1 : Int)
            · exact walk E0ok mix0 At.scope_Formed rfl (by kernel_rfl) (by kernel_rfl) 3000 (y := AV.v (Value.bool true)) [sb h1, sb h2, sb h3, sb h4, sb h5, sg h22, sb (rfl : false = false), sb (rfl : true = true)] (by kernel_rfl) (by simp only [formed0, cond_true, cond_false, h1, h2, h3, h4, h5, h22] <;> rfl)
            · exact walk E0ok mix0 At.scope_Formed rfl (by kernel_rfl) (by kernel_rfl) 3000 (y := AV.v (Value.bool false)) [sb h1, sb h2, sb h3, sb h4, sb h5, sb h22] (by kernel_rfl) (by simp only [formed0, cond_true, cond_false, h1, h2, h3, h4, h5, h22] <;> rfl)
        · cases h23 : (↑(cellsX xs).length : Int) != (1 : Int)
          · exact walk E0ok mix0 At.scope_Formed rfl (by kernel_rfl) (by kernel_rfl) 3000 (y := AV.v (Value.bool true)) [sb h1, sb h2, sb h3, sb h4, sg h23, sb (rfl : false = false), sb (rfl : true = true)] (by kernel_rfl) (by simp only [formed0, cond_true, cond_false, h1, h2, h3, h4, h23] <;> rfl)
          · exact walk E0ok mix0 At.scope_Formed rfl (by kernel_rfl) (by kernel_rfl) 3000 (y := AV.v (Value.bool false)) [sb h1, sb h2, sb h3, sb h4, sb h23] (by kernel_rfl) (by simp only [formed0, cond_true, cond_false, h1, h2, h3, h4, h23] <;> rfl)
      · cases h24 : (↑(cellsX xs).length : Int) != (1 : Int)
        · exact walk E0ok mix0 At.scope_Formed rfl (by kernel_rfl) (by kernel_rfl) 3000 (y := AV.v (Value.bool true)) [sb h1, sb h2, sb h3, sg h24, sb (rfl : false = false), sb (rfl : true = true)] (by kernel_rfl) (by simp only [formed0, cond_true, cond_false, h1, h2, h3, h24] <;> rfl)
        · exact walk E0ok mix0 At.scope_Formed rfl (by kernel_rfl) (by kernel_rfl) 3000 (y := AV.v (Value.bool false)) [sb h1, sb h2, sb h3, sb h24] (by kernel_rfl) (by simp only [formed0, cond_true, cond_false, h1, h2, h3, h24] <;> rfl)
    · cases h25 : (↑(cellsX xs).length : Int) != (0 : Int)
      · exact walk E0ok mix0 At.scope_Formed rfl (by kernel_rfl) (by kernel_rfl) 3000 (y := AV.v (Value.bool true)) [sb h1, sb h2, sg h25, sb (rfl : false = false), sb (rfl : true = true)] (by kernel_rfl) (by simp only [formed0, cond_true, cond_false, h1, h2, h25] <;> rfl)
      · exact walk E0ok mix0 At.scope_Formed rfl (by kernel_rfl) (by kernel_rfl) 3000 (y := AV.v (Value.bool false)) [sb h1, sb h2, sb h25] (by kernel_rfl) (by simp only [formed0, cond_true, cond_false, h1, h2, h25] <;> rfl)
  · cases h26 : (↑(cellsX xs).length : Int) != (0 : Int)
    · exact walk E0ok mix0 At.scope_Formed rfl (by kernel_rfl) (by kernel_rfl) 3000 (y := AV.v (Value.bool true)) [sb h1, sg h26, sb (rfl : false = false), sb (rfl : true = true)] (by kernel_rfl) (by simp only [formed0, cond_true, cond_false, h1, h26] <;> rfl)
    · exact walk E0ok mix0 At.scope_Formed rfl (by kernel_rfl) (by kernel_rfl) 3000 (y := AV.v (Value.bool false)) [sb h1, sb h26] (by kernel_rfl) (by simp only [formed0, cond_true, cond_false, h1, h26] <;> rfl)
end Go.AM

namespace Go.AM
set_option maxRecDepth 100000
set_option linter.unusedSimpArgs false
set_option linter.unusedVariables false

def modI (v n : Int) : Int := bif decide (v.tmod n < 0) then IntKind.i64.wrap (v.tmod n + n) else v.tmod n
theorem k_world_Mod (v n : Int) (hn : n ≠ 0) : Pure S.world_Mod [iv v, iv n] (iv (modI v n)) := by
  unfold modI
  cases h1 : decide (v.tmod n < (0 : Int))
  · exact wk At.world_Mod [sx (.i (v.tmod n)) (show ¬n = (0 : Int) ∧ (v.tmod n : Int) = v.tmod n from ⟨hn, rfl⟩), sb h1] (by kernel_rfl)
  · exact wk At.world_Mod [sx (.i (v.tmod n)) (show ¬n = (0 : Int) ∧ (v.tmod n : Int) = v.tmod n from ⟨hn, rfl⟩), sb h1, si (e := IntKind.i64.wrap (v.tmod n + n)) rfl] (by kernel_rfl)

def Tp.next (t : Tp) (n : Int) : Nat × Tp := match t.l[t.pos]? with
  | some x => ((modI x n).toNat, ⟨t.l, t.pos + 1, t.ok⟩)
  | none => (0, t)
theorem modI_range (v n : Int) (hn : 0 < n) (hv : n ≤ 9223372036854775807) : 0 ≤ modI v n ∧ modI v n < n := by
  unfold modI
  have h1 := Int.tmod_lt_of_pos v hn
  have h2 : -n < v.tmod n := by
    have := Int.tmod_lt_of_pos (-v) hn
    rw [Int.neg_tmod] at this; omega
  cases h : decide (v.tmod n < 0)
  · simp at h; simp; omega
  · simp at h; simp only [cond_true]; rw [IntKind.wrap_i64]; omega
theorem Tp.next_lt (t : Tp) (n : Int) (hn : 0 < n) (hv : n ≤ 9223372036854775807) : ((t.next n).1 : Int) < n := by
  unfold Tp.next
  split
  · have := modI_range (by assumption) n hn hv
    simp; omega
  · simpa using hn
abbrev Pos (n : Int) : Prop := 0 < n ∧ n ≤ 9223372036854775807
theorem wrap_sub1 (i : Nat) (h : i < 9223372036854775806) : IntKind.i64.wrap (((i + 1 : Nat) : Int) - 1) = ((i : Nat) : Int) := by
  rw [IntKind.wrap_i64]; omega
theorem c_next0 (t : Tp) (n : Int) (hx : t.l.length ≤ t.pos) : ACallsTo E0 S.world_Tape_Next [.p 0 0, iv n] [.box t.cells] (iv 0) [.box t.cells] := by
  have h0 : decide ((((t.l.map fun n => [iv n]).length : Nat) : Int) ≤ ((t.pos : Nat) : Int)) = true := by simp; omega
  exact wk At.world_Tape_Next [sd [], sb h0] (by kernel_rfl)
theorem x_world_Tape_Next__c1 (t : Tp) (n : Int) (x : Int) (hn : n ≠ 0) (hx : t.l[t.pos]? = some x) (h0 : decide ((((t.l.map fun n => [iv n]).length : Nat) : Int) ≤ ((t.pos : Nat) : Int)) = false) (hw : IntKind.i64.wrap ((t.pos : Int) + 1) = ((t.pos + 1 : Nat) : Int)) (hw2 : IntKind.i64.wrap (((t.pos + 1 : Nat) : Int) - 1) = ((t.pos : Nat) : Int)) : ∃ (a : Int), a = modI x n ∧ ACallsTo E0 S.world_Tape_Next [.p 0 0, iv n] [.box t.cells] (iv a) [.box (Tp.cells ⟨t.l, t.pos + 1, t.ok⟩)] := by
  exact ⟨modI x n, by first | assumption | trivial | (simp; done) | omega | (simp; omega) | (simp at *; omega), wk At.world_Tape_Next [sd [], sb h0, si hw, sd [(8, [si hw2]), (9, [se (elAt_map (fun n => [iv n]) hx rfl)]), (12, [sc (k_world_Mod (x) (n) (by first | assumption | omega | (simp; done) | (simp; omega)))])]] (by kernel_rfl)⟩
theorem c_next (t : Tp) (n : Int) (hn : Pos n) : ACallsTo E0 S.world_Tape_Next [.p 0 0, iv n] [.box t.cells] (iv ((t.next n).1 : Nat)) [.box (t.next n).2.cells] := by
  unfold Tp.next
  cases hx : t.l[t.pos]? with
  | none => exact c_next0 t n (by simpa using hx)
  | some x =>
    have hl := at_lt hx
    have ho := t.ok
    obtain ⟨a, rfl, hc⟩ := x_world_Tape_Next__c1 t n x (by omega) hx (by simp; omega) (wrap_nat t.pos (by omega)) (wrap_sub1 t.pos (by omega))
    have h2 := modI_range x n hn.1 hn.2
    simp only
    rw [Int.toNat_of_nonneg h2.1]
    exact hc
theorem x_world_Tape_Next (t : Tp) (n : Int) (hn : Pos n) : ∃ (a : Nat) (t' : Tp), (a : Int) < n ∧ ACallsTo E0 S.world_Tape_Next [.p 0 0, iv n] [.box t.cells] (iv a) [.box t'.cells] :=
  ⟨_, _, t.next_lt n hn.1 hn.2, c_next t n hn⟩
/-- Within 64 bits. -/
abbrev I64 (n : Int) : Prop := -9223372036854775808 ≤ n ∧ n ≤ 9223372036854775807
theorem i64_wrap (n : Int) : I64 (IntKind.i64.wrap n) := by simp only [I64]; rw [IntKind.wrap_i64]; omega
theorem x_world_Tape_Bool (t : Tp) (n : Int) (hn : Pos n) : ∃ (b : Bool) (t' : Tp), ACallsTo E0 S.world_Tape_Bool [.p 0 0, iv n] [.box t.cells] (bv b) [.box t'.cells] := by
  obtain ⟨a1, t1, q1, c1⟩ := (x_world_Tape_Next (t) (n) (by first | assumption | omega | (simp; done) | (simp; omega)))
  exact ⟨(↑a1 : Int) == IntKind.i64.wrap (n - 1), t1, wk At.world_Tape_Bool [sl [0] c1, si (e := IntKind.i64.wrap (n - 1)) rfl] (by kernel_rfl)⟩
theorem x_world_Tape_Small (t : Tp)  : ∃ (a : Int) (t' : Tp), (-3 ≤ a ∧ a ≤ 12) ∧ ACallsTo E0 S.world_Tape_Small [.p 0 0] [.box t.cells] (iv a) [.box t'.cells] := by
  obtain ⟨a1, t1, q1, c1⟩ := (x_world_Tape_Next (t) (16) (by first | assumption | omega | (simp; done) | (simp; omega)))
  exact ⟨IntKind.i64.wrap ((↑a1 : Int) - 3), t1, by rw [IntKind.wrap_i64]; omega, wk At.world_Tape_Small [sl [0] c1, si (e := IntKind.i64.wrap ((↑a1 : Int) - 3)) rfl] (by kernel_rfl)⟩
theorem x_world_Tape_Number (t : Tp)  : ∃ (a : Int) (t' : Tp), I64 a ∧ ACallsTo E0 S.world_Tape_Number [.p 0 0] [.box t.cells] (iv a) [.box t'.cells] := by
  obtain ⟨a1, t1, q1, c1⟩ := (x_world_Tape_Next (t) (8) (by first | assumption | omega | (simp; done) | (simp; omega)))
  cases h2 : (↑a1 : Int) == 0
  · cases h3 : (↑a1 : Int) == 1
    · cases h4 : (↑a1 : Int) == 2
      · obtain ⟨a5, t5, q5, c5⟩ := (x_world_Tape_Next (t1) (9) (by first | assumption | omega | (simp; done) | (simp; omega)))
        exact ⟨(↑a5 : Int), t5, by first | exact i64_wrap _ | (simp only [I64]; omega), wk At.world_Tape_Number [sl [0] c1, sb h2, sb h3, sb h4, sl [0] c5] (by kernel_rfl)⟩
      · obtain ⟨a6, t6, q6, c6⟩ := (x_world_Tape_Next (t1) (9) (by first | assumption | omega | (simp; done) | (simp; omega)))
        exact ⟨IntKind.i64.wrap (-(↑a6 : Int)), t6, by first | exact i64_wrap _ | (simp only [I64]; omega), wk At.world_Tape_Number [sl [0] c1, sb h2, sb h3, sb h4, sl [0] c6, si (e := IntKind.i64.wrap (-(↑a6 : Int))) rfl] (by kernel_rfl)⟩
    · obtain ⟨a7, t7, q7, c7⟩ := (x_world_Tape_Next (t1) (3) (by first | assumption | omega | (simp; done) | (simp; omega)))
      exact ⟨IntKind.i64.wrap (-9223372036854775808 + (↑a7 : Int)), t7, by first | exact i64_wrap _ | (simp only [I64]; omega), wk At.world_Tape_Number [sl [0] c1, sb h2, sb h3, sl [0] c7, si (e := IntKind.i64.wrap (-9223372036854775808 + (↑a7 : Int))) rfl] (by kernel_rfl)⟩
  · obtain ⟨a8, t8, q8, c8⟩ := (x_world_Tape_Next (t1) (3) (by first | assumption | omega | (simp; done) | (simp; omega)))
    exact ⟨IntKind.i64.wrap (9223372036854775807 - (↑a8 : Int)), t8, by first | exact i64_wrap _ | (simp only [I64]; omega), wk At.world_Tape_Number [sl [0] c1, sb h2, sl [0] c8, si (e := IntKind.i64.wrap (9223372036854775807 - (↑a8 : Int))) rfl] (by kernel_rfl)⟩
def wordAt (i : Nat) : Str := wordsL.getD i ⟨#[]⟩
def nameAt (i : Nat) : Str := namesL.getD i ⟨#[]⟩
theorem arrWord (i : Nat) (h : (i : Int) < 6) : ArrAt (wordsL.map sv) i 6 [sv (wordAt i)] 1 := by
  have h : i = 0 ∨ i = 1 ∨ i = 2 ∨ i = 3 ∨ i = 4 ∨ i = 5 := by omega
  rcases h with rfl | rfl | rfl | rfl | rfl | rfl <;> exact ⟨by decide, by decide, rfl, rfl⟩
theorem arrName (i : Nat) (h : (i : Int) < 8) : ArrAt (namesL.map sv) i 8 [sv (nameAt i)] 1 := by
  have h : i = 0 ∨ i = 1 ∨ i = 2 ∨ i = 3 ∨ i = 4 ∨ i = 5 ∨ i = 6 ∨ i = 7 := by omega
  rcases h with rfl | rfl | rfl | rfl | rfl | rfl | rfl | rfl <;> exact ⟨by decide, by decide, rfl, rfl⟩
theorem el_word (i : Nat) (h : (i : Int) < 6) : ArrAt (wordsL.map sv) i 6 [sv (wordAt i)] 1 := arrWord i h
theorem el_name (i : Nat) (h : (i : Int) < 8) : ArrAt (namesL.map sv) i 8 [sv (nameAt i)] 1 := arrName i h
theorem word_at (i : Nat) : wordAt i ∈ wordsL := by
  unfold wordAt
  rw [List.getD_eq_getElem?_getD]
  cases h : wordsL[i]? with
  | none => simp [wordsL, ofStr]
  | some x => exact List.mem_of_getElem? h
theorem x_world_Tape_Word (t : Tp)  : ∃ (w : Str) (t' : Tp), w ∈ wordsL ∧ ACallsTo E0 S.world_Tape_Word [.p 0 0] [.box t.cells] (sv w) [.box t'.cells] := by
  obtain ⟨a1, t1, q1, c1⟩ := (x_world_Tape_Next (t) (6) (by first | assumption | omega | (simp; done) | (simp; omega)))
  exact ⟨wordAt a1, t1, by exact word_at _, wk At.world_Tape_Word [sl [0] c1, sa (el_word (a1) (by first | assumption | omega | (simp; done) | (simp; omega)))] (by kernel_rfl)⟩
/-- A valid value. -/
structure V.Good (v : V) : Prop where
  valid : validV v = true
  i64 : I64 v.int
  small : v.small
theorem good_int {n : Int} (h : I64 n) : V.Good ⟨1, n, ⟨#[]⟩⟩ := ⟨by kernel_rfl, h, small_e⟩
theorem good_null : V.Good ⟨0, 0, ⟨#[]⟩⟩ := ⟨by kernel_rfl, by decide, small_e⟩
theorem good_bool {n : Nat} (h : (n : Int) < 2) : V.Good ⟨2, n, ⟨#[]⟩⟩ := by
  have : n = 0 ∨ n = 1 := by omega
  rcases this with rfl | rfl <;> exact ⟨by kernel_rfl, by decide, small_e⟩
theorem good_word {w : Str} (h : w ∈ wordsL) : V.Good ⟨3, 0, w⟩ := by
  simp only [wordsL, List.mem_cons, List.not_mem_nil, or_false] at h
  rcases h with rfl | rfl | rfl | rfl | rfl | rfl <;> exact ⟨by kernel_rfl, by decide, by decide⟩
abbrev kindOf (k : Int) : Int := if k = 1 ∨ k = 2 ∨ k = 3 then k else 0
theorem x_world_Tape_Typed (t : Tp) (kind : Int)  : ∃ (v : V) (t' : Tp), (v.kind = kindOf kind ∧ v.Good) ∧ ACallsTo E0 S.world_Tape_Typed [.p 0 0, iv kind] [.box t.cells] (v.av) [.box t'.cells] := by
  cases h1 : kind == 1
  · cases h2 : kind == 2
    · cases h3 : kind == 3
      · exact ⟨V.mk 0 0 (ByteArray.mk #[]), t, by first | exact ⟨by simp_all [kindOf], good_int (by assumption)⟩ | exact ⟨by simp_all [kindOf], good_bool (by assumption)⟩ | exact ⟨by simp_all [kindOf], good_word (by assumption)⟩ | exact ⟨by simp_all [kindOf], good_null⟩, wk At.world_Tape_Typed [sb h1, sb h2, sb h3] (by kernel_rfl)⟩
      · obtain ⟨w4, t4, q4, c4⟩ := (x_world_Tape_Word (t))
        exact ⟨V.mk 3 0 w4, t4, by first | exact ⟨by simp_all [kindOf], good_int (by assumption)⟩ | exact ⟨by simp_all [kindOf], good_bool (by assumption)⟩ | exact ⟨by simp_all [kindOf], good_word (by assumption)⟩ | exact ⟨by simp_all [kindOf], good_null⟩, wk At.world_Tape_Typed [sb h1, sb h2, sb h3, sl [0] c4] (by kernel_rfl)⟩
    · obtain ⟨a5, t5, q5, c5⟩ := (x_world_Tape_Next (t) (2) (by first | assumption | omega | (simp; done) | (simp; omega)))
      exact ⟨V.mk 2 (↑a5 : Int) (ByteArray.mk #[]), t5, by first | exact ⟨by simp_all [kindOf], good_int (by assumption)⟩ | exact ⟨by simp_all [kindOf], good_bool (by assumption)⟩ | exact ⟨by simp_all [kindOf], good_word (by assumption)⟩ | exact ⟨by simp_all [kindOf], good_null⟩, wk At.world_Tape_Typed [sb h1, sb h2, sl [0] c5] (by kernel_rfl)⟩
  · obtain ⟨a6, t6, q6, c6⟩ := (x_world_Tape_Number (t))
    exact ⟨V.mk 1 a6 (ByteArray.mk #[]), t6, by first | exact ⟨by simp_all [kindOf], good_int (by assumption)⟩ | exact ⟨by simp_all [kindOf], good_bool (by assumption)⟩ | exact ⟨by simp_all [kindOf], good_word (by assumption)⟩ | exact ⟨by simp_all [kindOf], good_null⟩, wk At.world_Tape_Typed [sb h1, sl [0] c6] (by kernel_rfl)⟩
theorem x_world_Tape_Value (t : Tp)  : ∃ (v : V) (t' : Tp), v.Good ∧ ACallsTo E0 S.world_Tape_Value [.p 0 0] [.box t.cells] (v.av) [.box t'.cells] := by
  obtain ⟨a1, t1, q1, c1⟩ := (x_world_Tape_Next (t) (4) (by first | assumption | omega | (simp; done) | (simp; omega)))
  obtain ⟨v2, t2, q2, c2⟩ := (x_world_Tape_Typed (t1) ((↑a1 : Int)))
  exact ⟨v2, t2, by exact (by assumption : _ ∧ V.Good _).2, wk At.world_Tape_Value [sl [0] c1, sl [0] c2] (by kernel_rfl)⟩
def xLit (v : V) : X :=
  X.mk 1 0 false v (ByteArray.mk #[]) (ByteArray.mk #[]) [] []
theorem k_world_Lit (v : V)  : ACallsTo E0 S.world_Lit [v.av] [] ((xLit v).av) [] := by
  exact wk At.world_Lit [] (by kernel_rfl)
def xCol (t n : Str) : X :=
  X.mk 2 0 false (V.mk 0 0 (ByteArray.mk #[])) t n [] []
theorem k_world_Col (t n : Str)  : ACallsTo E0 S.world_Col [sv t, sv n] [] ((xCol t n).av) [] := by
  exact wk At.world_Col [] (by kernel_rfl)
def xBin (op : Int) (a b : X) : X :=
  X.mk 5 op false (V.mk 0 0 (ByteArray.mk #[])) (ByteArray.mk #[]) (ByteArray.mk #[]) [a, b] []
theorem k_world_Bin (op : Int) (a b : X)  : ACallsTo E0 S.world_Bin [iv op, a.av, b.av] [] ((xBin op a b).av) [] := by
  unfold xBin
  exact (by (try simp only [X.av, Qy.av, xsl, cellsX_cons, cellsX_nil, cellsQ_cons, cellsQ_nil, X.cells, Qy.cells, X.args_mk, X.sub_mk, Qy.items_mk, Qy.wh_mk]); exact wk At.world_Bin [] (by kernel_rfl))
end Go.AM

namespace Go.AM
set_option maxRecDepth 100000
set_option linter.unusedSimpArgs false
set_option linter.unusedVariables false
/-- A valid value that fits a column. -/
structure ValOk (c : Col) (v : V) : Prop where
  good : v.Good
  kind : v.kind = 0 ∨ v.kind = c.type
  nn : c.notNull = true → v.kind = c.type
abbrev ColOk (c : Col) : Prop := c.type = 1 ∨ c.type = 2 ∨ c.type = 3
structure PrefOk (cols : List Col) (n : Nat) (vals : List V) : Prop where
  len : vals.length = n
  at_ : ∀ (k : Nat) (c : Col) (v : V), cols[k]? = some c → vals[k]? = some v → ValOk c v
abbrev RowOk (cols : List Col) (vals : List V) : Prop := PrefOk cols cols.length vals
theorem PrefOk.nil (cols : List Col) : PrefOk cols 0 [] := ⟨rfl, fun k c v _ h => by simp at h⟩
theorem PrefOk.push {cols : List Col} {n : Nat} {vals : List V} (h : PrefOk cols n vals) {c : Col} (hc : cols[n]? = some c) {v : V} (hv : ValOk c v) : PrefOk cols (n + 1) (vals ++ [v]) := by
  refine ⟨by simp [h.len], fun k c' v' h1 h2 => ?_⟩
  by_cases hk : k < vals.length
  · rw [List.getElem?_append_left hk] at h2
    exact h.at_ k c' v' h1 h2
  · rw [List.getElem?_append_right (by omega)] at h2
    have hl := h.len
    have : k - vals.length = 0 := by
      rcases Nat.eq_zero_or_pos (k - vals.length) with h | h
      · exact h
      · rw [List.getElem?_eq_none (by simp; omega)] at h2; cases h2
    rw [this] at h2
    simp only [List.getElem?_cons_zero, Option.some.injEq] at h2
    have : k = n := by omega
    subst this
    rw [h1] at hc
    cases hc
    exact h2 ▸ hv
theorem valOk_typed {c : Col} {v : V} (ht : ColOk c) (h : v.kind = kindOf c.type ∧ v.Good) : ValOk c v := by
  have : kindOf c.type = c.type := by simp only [kindOf]; exact if_pos ht
  exact ⟨h.2, .inr (h.1.trans this), fun _ => h.1.trans this⟩
theorem good_setInt {v : V} (h : v.Good) (hk : v.kind = 1) {a : Int} (ha : I64 a) : V.Good ⟨v.kind, a, v.text⟩ := by
  refine ⟨?_, ha, h.small⟩
  have := h.valid
  simp only [validV, hk] at this ⊢
  exact this
theorem valOk_small {c : Col} {v : V} {a : Int} (h : v.kind = kindOf c.type ∧ v.Good) (hc : (c.type == (1 : Int)) = true) (ha : -3 ≤ a ∧ a ≤ 12) : ValOk c ⟨v.kind, a, v.text⟩ := by
  have e : c.type = 1 := by simpa using hc
  have : v.kind = 1 := by rw [h.1, e]; rfl
  exact ⟨good_setInt h.2 this ⟨by omega, by omega⟩, .inr (by rw [e]; exact this), fun _ => by rw [e]; exact this⟩
theorem valOk_null {c : Col} (h : (!c.notNull) = true) : ValOk c ⟨0, 0, ⟨#[]⟩⟩ := ⟨good_null, .inl rfl, fun h' => by rw [h'] at h; cases h⟩
noncomputable def L_row (t0 : Tp) (s : Sch) (i : Nat) (t : Tp) (out : List V) : Cfg := loopAt B.world_Tape_Row 0 [(0, .p 0 0), (5, .own 1 out.length), (10, .sl (s.cols.map Col.cells)), (11, iv ((s.cols.map Col.cells).length : Nat)), (12, iv (i : Nat))] [.box t.cells, .row Ty.Value (out.map V.cells) false]
theorem x_world_Tape_Row__row_loop (t0 : Tp) (s : Sch) (hl : Short s.cols) (hc : ∀ c ∈ s.cols, ColOk c) (i : Nat) (t : Tp) (out : List V) (hi : i ≤ (s.cols).length) (hI : PrefOk s.cols i out) : ∃ (t' : Tp) (out' : List V), (PrefOk s.cols (s.cols).length out') ∧ (decide ((((s.cols).length : Nat) : Int) < (((s.cols.map Col.cells).length : Nat) : Int)) = false) ∧ ∀ R, Good E0 B.world_Tape_Row [.box t0.cells] (L_row t0 s (s.cols).length t' out') R → Good E0 B.world_Tape_Row [.box t0.cells] (L_row t0 s i t out) R := by
  obtain ⟨kk, hk⟩ : ∃ kk, i + kk = (s.cols).length := ⟨(s.cols).length - i, by omega⟩
  induction kk generalizing i t out with
  | zero =>
    have e0 : i = (s.cols).length := by omega
    subst e0
    exact ⟨t, out, hI, by simp, fun R hg => hg⟩
  | succ kk ih =>
    obtain ⟨x, hx⟩ := ex_at (l := s.cols) (i := i) (by omega)
    have h0 : decide (((i : Nat) : Int) < (((s.cols.map Col.cells).length : Nat) : Int)) = true := by simp; omega
    have hw : IntKind.i64.wrap (((i : Nat) : Int) + 1) = ((i + 1 : Nat) : Int) := wrap_nat i (by first | omega | (simp only [Short, Few] at *; omega))
    have hlen := hI.len
    obtain ⟨v1, t1, q1, c1⟩ := (x_world_Tape_Typed (t) (x.type))
    cases h2 : x.type == 1
    · cases h3 : !x.notNull
      · obtain ⟨t2, out2, q2, x2, g2⟩ := ih (i + 1) (t1) (out ++ [v1]) (by omega) (by first | exact hI.push hx (valOk_null (by assumption)) | exact hI.push hx (valOk_small (by assumption) (by assumption) (by assumption)) | exact hI.push hx (valOk_typed (hc _ (List.mem_of_getElem? hx)) (by assumption))) (by omega); exact ⟨t2, out2, q2, x2, fun R hg => good_unroll (wkl (c' := (Cfg.mk (L_row t0 s (i + 1) t1 (out ++ [v1])).n (L_row t0 s (i + 1) t1 (out ++ [v1])).todo [(0, AV.p 0 0), (5, AV.own 1 (List.map V.cells out ++ [[iv v1.kind, iv v1.int, sv v1.text]]).length), (10, AV.sl (List.map Col.cells s.cols)), (11, iv (↑(List.map Col.cells s.cols).length : Int)), (12, iv (↑(i + 1) : Int))] [Blk.box [AV.sl (List.map (fun n => [iv n]) t1.l), iv (↑t1.pos : Int)], Blk.row 24 (List.map V.cells out ++ [[iv v1.kind, iv v1.int, sv v1.text]]) false])) [sb h0, se (elAt_map (Col.cells) hx rfl), sl [0] c1, sb h2, sb h3, sqx (AllLen [[iv v1.kind, iv v1.int, sv v1.text]] 3 ∧ out.length = (List.map V.cells out).length ∧ (((List.map V.cells out).length + [[iv v1.kind, iv v1.int, sv v1.text]].length) * 32).le 140737488355328), si hw] [0, 5, 10, 11, 12] 2 (by kernel_rfl) (good_same (show ([(0, AV.p 0 0), (5, AV.own 1 (List.map V.cells out ++ [[iv v1.kind, iv v1.int, sv v1.text]]).length), (10, AV.sl (List.map Col.cells s.cols)), (11, iv (↑(List.map Col.cells s.cols).length : Int)), (12, iv (↑(i + 1) : Int))] : TS) = [(0, AV.p 0 0), (5, AV.own 1 (out ++ [v1]).length), (10, AV.sl (List.map Col.cells s.cols)), (11, iv (↑(List.map Col.cells s.cols).length : Int)), (12, iv (↑(i + 1) : Int))] by first | rfl | (simp; done) | (simp [X.cells, Qy.cells, V.cells, Col.cells, Rw.cells, Tb.cells, Fr.cells, Sch.cells, Tp.cells, Pl.cells]; done)) (show ([Blk.box [AV.sl (List.map (fun n => [iv n]) t1.l), iv (↑t1.pos : Int)], Blk.row 24 (List.map V.cells out ++ [[iv v1.kind, iv v1.int, sv v1.text]]) false] : Heap) = [Blk.box t1.cells, Blk.row 24 (List.map V.cells (out ++ [v1])) false] by first | rfl | (simp; done) | (simp [X.cells, Qy.cells, V.cells, Col.cells, Rw.cells, Tb.cells, Fr.cells, Sch.cells, Tp.cells, Pl.cells]; done)) (g2 R hg)))⟩
      · obtain ⟨b4, t4, c4⟩ := (x_world_Tape_Bool (t1) (5) (by first | assumption | omega | (simp; done) | (simp; omega)))
        rcases (Bool.eq_false_or_eq_true b4).symm with h5 | h5
        · obtain ⟨t2, out2, q2, x2, g2⟩ := ih (i + 1) (t4) (out ++ [v1]) (by omega) (by first | exact hI.push hx (valOk_null (by assumption)) | exact hI.push hx (valOk_small (by assumption) (by assumption) (by assumption)) | exact hI.push hx (valOk_typed (hc _ (List.mem_of_getElem? hx)) (by assumption))) (by omega); exact ⟨t2, out2, q2, x2, fun R hg => good_unroll (wkl (c' := (Cfg.mk (L_row t0 s (i + 1) t4 (out ++ [v1])).n (L_row t0 s (i + 1) t4 (out ++ [v1])).todo [(0, AV.p 0 0), (5, AV.own 1 (List.map V.cells out ++ [[iv v1.kind, iv v1.int, sv v1.text]]).length), (10, AV.sl (List.map Col.cells s.cols)), (11, iv (↑(List.map Col.cells s.cols).length : Int)), (12, iv (↑(i + 1) : Int))] [Blk.box [AV.sl (List.map (fun n => [iv n]) t4.l), iv (↑t4.pos : Int)], Blk.row 24 (List.map V.cells out ++ [[iv v1.kind, iv v1.int, sv v1.text]]) false])) [sb h0, se (elAt_map (Col.cells) hx rfl), sl [0] c1, sb h2, sg h3, sl [0] c4, sb h5, sqx (AllLen [[iv v1.kind, iv v1.int, sv v1.text]] 3 ∧ out.length = (List.map V.cells out).length ∧ (((List.map V.cells out).length + [[iv v1.kind, iv v1.int, sv v1.text]].length) * 32).le 140737488355328), si hw] [0, 5, 10, 11, 12] 2 (by kernel_rfl) (good_same (show ([(0, AV.p 0 0), (5, AV.own 1 (List.map V.cells out ++ [[iv v1.kind, iv v1.int, sv v1.text]]).length), (10, AV.sl (List.map Col.cells s.cols)), (11, iv (↑(List.map Col.cells s.cols).length : Int)), (12, iv (↑(i + 1) : Int))] : TS) = [(0, AV.p 0 0), (5, AV.own 1 (out ++ [v1]).length), (10, AV.sl (List.map Col.cells s.cols)), (11, iv (↑(List.map Col.cells s.cols).length : Int)), (12, iv (↑(i + 1) : Int))] by first | rfl | (simp; done) | (simp [X.cells, Qy.cells, V.cells, Col.cells, Rw.cells, Tb.cells, Fr.cells, Sch.cells, Tp.cells, Pl.cells]; done)) (show ([Blk.box [AV.sl (List.map (fun n => [iv n]) t4.l), iv (↑t4.pos : Int)], Blk.row 24 (List.map V.cells out ++ [[iv v1.kind, iv v1.int, sv v1.text]]) false] : Heap) = [Blk.box t4.cells, Blk.row 24 (List.map V.cells (out ++ [v1])) false] by first | rfl | (simp; done) | (simp [X.cells, Qy.cells, V.cells, Col.cells, Rw.cells, Tb.cells, Fr.cells, Sch.cells, Tp.cells, Pl.cells]; done)) (g2 R hg)))⟩
        · obtain ⟨t2, out2, q2, x2, g2⟩ := ih (i + 1) (t4) (out ++ [V.mk 0 0 (ByteArray.mk #[])]) (by omega) (by first | exact hI.push hx (valOk_null (by assumption)) | exact hI.push hx (valOk_small (by assumption) (by assumption) (by assumption)) | exact hI.push hx (valOk_typed (hc _ (List.mem_of_getElem? hx)) (by assumption))) (by omega); exact ⟨t2, out2, q2, x2, fun R hg => good_unroll (wkl (c' := (Cfg.mk (L_row t0 s (i + 1) t4 (out ++ [V.mk 0 0 (ByteArray.mk #[])])).n (L_row t0 s (i + 1) t4 (out ++ [V.mk 0 0 (ByteArray.mk #[])])).todo [(0, AV.p 0 0), (5, AV.own 1 (List.map V.cells out ++ [[iv 0, iv 0, sv (ByteArray.mk #[])]]).length), (10, AV.sl (List.map Col.cells s.cols)), (11, iv (↑(List.map Col.cells s.cols).length : Int)), (12, iv (↑(i + 1) : Int))] [Blk.box [AV.sl (List.map (fun n => [iv n]) t4.l), iv (↑t4.pos : Int)], Blk.row 24 (List.map V.cells out ++ [[iv 0, iv 0, sv (ByteArray.mk #[])]]) false])) [sb h0, se (elAt_map (Col.cells) hx rfl), sl [0] c1, sb h2, sg h3, sl [0] c4, sb h5, sqx (AllLen [[iv 0, iv 0, sv (ByteArray.mk #[])]] 3 ∧ out.length = (List.map V.cells out).length ∧ (((List.map V.cells out).length + [[iv 0, iv 0, sv (ByteArray.mk #[])]].length) * 32).le 140737488355328), si hw] [0, 5, 10, 11, 12] 2 (by kernel_rfl) (good_same (show ([(0, AV.p 0 0), (5, AV.own 1 (List.map V.cells out ++ [[iv 0, iv 0, sv (ByteArray.mk #[])]]).length), (10, AV.sl (List.map Col.cells s.cols)), (11, iv (↑(List.map Col.cells s.cols).length : Int)), (12, iv (↑(i + 1) : Int))] : TS) = [(0, AV.p 0 0), (5, AV.own 1 (out ++ [V.mk 0 0 (ByteArray.mk #[])]).length), (10, AV.sl (List.map Col.cells s.cols)), (11, iv (↑(List.map Col.cells s.cols).length : Int)), (12, iv (↑(i + 1) : Int))] by first | rfl | (simp; done) | (simp [X.cells, Qy.cells, V.cells, Col.cells, Rw.cells, Tb.cells, Fr.cells, Sch.cells, Tp.cells, Pl.cells]; done)) (show ([Blk.box [AV.sl (List.map (fun n => [iv n]) t4.l), iv (↑t4.pos : Int)], Blk.row 24 (List.map V.cells out ++ [[iv 0, iv 0, sv (ByteArray.mk #[])]]) false] : Heap) = [Blk.box t4.cells, Blk.row 24 (List.map V.cells (out ++ [V.mk 0 0 (ByteArray.mk #[])])) false] by first | rfl | (simp; done) | (simp [X.cells, Qy.cells, V.cells, Col.cells, Rw.cells, Tb.cells, Fr.cells, Sch.cells, Tp.cells, Pl.cells]; done)) (g2 R hg)))⟩
    · obtain ⟨b6, t6, c6⟩ := (x_world_Tape_Bool (t1) (9) (by first | assumption | omega | (simp; done) | (simp; omega)))
      cases h7 : !b6
      · cases h8 : !x.notNull
        · obtain ⟨t2, out2, q2, x2, g2⟩ := ih (i + 1) (t6) (out ++ [v1]) (by omega) (by first | exact hI.push hx (valOk_null (by assumption)) | exact hI.push hx (valOk_small (by assumption) (by assumption) (by assumption)) | exact hI.push hx (valOk_typed (hc _ (List.mem_of_getElem? hx)) (by assumption))) (by omega); exact ⟨t2, out2, q2, x2, fun R hg => good_unroll (wkl (c' := (Cfg.mk (L_row t0 s (i + 1) t6 (out ++ [v1])).n (L_row t0 s (i + 1) t6 (out ++ [v1])).todo [(0, AV.p 0 0), (5, AV.own 1 (List.map V.cells out ++ [[iv v1.kind, iv v1.int, sv v1.text]]).length), (10, AV.sl (List.map Col.cells s.cols)), (11, iv (↑(List.map Col.cells s.cols).length : Int)), (12, iv (↑(i + 1) : Int))] [Blk.box [AV.sl (List.map (fun n => [iv n]) t6.l), iv (↑t6.pos : Int)], Blk.row 24 (List.map V.cells out ++ [[iv v1.kind, iv v1.int, sv v1.text]]) false])) [sb h0, se (elAt_map (Col.cells) hx rfl), sl [0] c1, sg h2, sl [0] c6, sb h7, sb h8, sqx (AllLen [[iv v1.kind, iv v1.int, sv v1.text]] 3 ∧ out.length = (List.map V.cells out).length ∧ (((List.map V.cells out).length + [[iv v1.kind, iv v1.int, sv v1.text]].length) * 32).le 140737488355328), si hw] [0, 5, 10, 11, 12] 2 (by kernel_rfl) (good_same (show ([(0, AV.p 0 0), (5, AV.own 1 (List.map V.cells out ++ [[iv v1.kind, iv v1.int, sv v1.text]]).length), (10, AV.sl (List.map Col.cells s.cols)), (11, iv (↑(List.map Col.cells s.cols).length : Int)), (12, iv (↑(i + 1) : Int))] : TS) = [(0, AV.p 0 0), (5, AV.own 1 (out ++ [v1]).length), (10, AV.sl (List.map Col.cells s.cols)), (11, iv (↑(List.map Col.cells s.cols).length : Int)), (12, iv (↑(i + 1) : Int))] by first | rfl | (simp; done) | (simp [X.cells, Qy.cells, V.cells, Col.cells, Rw.cells, Tb.cells, Fr.cells, Sch.cells, Tp.cells, Pl.cells]; done)) (show ([Blk.box [AV.sl (List.map (fun n => [iv n]) t6.l), iv (↑t6.pos : Int)], Blk.row 24 (List.map V.cells out ++ [[iv v1.kind, iv v1.int, sv v1.text]]) false] : Heap) = [Blk.box t6.cells, Blk.row 24 (List.map V.cells (out ++ [v1])) false] by first | rfl | (simp; done) | (simp [X.cells, Qy.cells, V.cells, Col.cells, Rw.cells, Tb.cells, Fr.cells, Sch.cells, Tp.cells, Pl.cells]; done)) (g2 R hg)))⟩
        · obtain ⟨b9, t9, c9⟩ := (x_world_Tape_Bool (t6) (5) (by first | assumption | omega | (simp; done) | (simp; omega)))
          rcases (Bool.eq_false_or_eq_true b9).symm with h10 | h10
          · obtain ⟨t2, out2, q2, x2, g2⟩ := ih (i + 1) (t9) (out ++ [v1]) (by omega) (by first | exact hI.push hx (valOk_null (by assumption)) | exact hI.push hx (valOk_small (by assumption) (by assumption) (by assumption)) | exact hI.push hx (valOk_typed (hc _ (List.mem_of_getElem? hx)) (by assumption))) (by omega); exact ⟨t2, out2, q2, x2, fun R hg => good_unroll (wkl (c' := (Cfg.mk (L_row t0 s (i + 1) t9 (out ++ [v1])).n (L_row t0 s (i + 1) t9 (out ++ [v1])).todo [(0, AV.p 0 0), (5, AV.own 1 (List.map V.cells out ++ [[iv v1.kind, iv v1.int, sv v1.text]]).length), (10, AV.sl (List.map Col.cells s.cols)), (11, iv (↑(List.map Col.cells s.cols).length : Int)), (12, iv (↑(i + 1) : Int))] [Blk.box [AV.sl (List.map (fun n => [iv n]) t9.l), iv (↑t9.pos : Int)], Blk.row 24 (List.map V.cells out ++ [[iv v1.kind, iv v1.int, sv v1.text]]) false])) [sb h0, se (elAt_map (Col.cells) hx rfl), sl [0] c1, sg h2, sl [0] c6, sb h7, sg h8, sl [0] c9, sb h10, sqx (AllLen [[iv v1.kind, iv v1.int, sv v1.text]] 3 ∧ out.length = (List.map V.cells out).length ∧ (((List.map V.cells out).length + [[iv v1.kind, iv v1.int, sv v1.text]].length) * 32).le 140737488355328), si hw] [0, 5, 10, 11, 12] 2 (by kernel_rfl) (good_same (show ([(0, AV.p 0 0), (5, AV.own 1 (List.map V.cells out ++ [[iv v1.kind, iv v1.int, sv v1.text]]).length), (10, AV.sl (List.map Col.cells s.cols)), (11, iv (↑(List.map Col.cells s.cols).length : Int)), (12, iv (↑(i + 1) : Int))] : TS) = [(0, AV.p 0 0), (5, AV.own 1 (out ++ [v1]).length), (10, AV.sl (List.map Col.cells s.cols)), (11, iv (↑(List.map Col.cells s.cols).length : Int)), (12, iv (↑(i + 1) : Int))] by first | rfl | (simp; done) | (simp [X.cells, Qy.cells, V.cells, Col.cells, Rw.cells, Tb.cells, Fr.cells, Sch.cells, Tp.cells, Pl.cells]; done)) (show ([Blk.box [AV.sl (List.map (fun n => [iv n]) t9.l), iv (↑t9.pos : Int)], Blk.row 24 (List.map V.cells out ++ [[iv v1.kind, iv v1.int, sv v1.text]]) false] : Heap) = [Blk.box t9.cells, Blk.row 24 (List.map V.cells (out ++ [v1])) false] by first | rfl | (simp; done) | (simp [X.cells, Qy.cells, V.cells, Col.cells, Rw.cells, Tb.cells, Fr.cells, Sch.cells, Tp.cells, Pl.cells]; done)) (g2 R hg)))⟩
          · obtain ⟨t2, out2, q2, x2, g2⟩ := ih (i + 1) (t9) (out ++ [V.mk 0 0 (ByteArray.mk #[])]) (by omega) (by first | exact hI.push hx (valOk_null (by assumption)) | exact hI.push hx (valOk_small (by assumption) (by assumption) (by assumption)) | exact hI.push hx (valOk_typed (hc _ (List.mem_of_getElem? hx)) (by assumption))) (by omega); exact ⟨t2, out2, q2, x2, fun R hg => good_unroll (wkl (c' := (Cfg.mk (L_row t0 s (i + 1) t9 (out ++ [V.mk 0 0 (ByteArray.mk #[])])).n (L_row t0 s (i + 1) t9 (out ++ [V.mk 0 0 (ByteArray.mk #[])])).todo [(0, AV.p 0 0), (5, AV.own 1 (List.map V.cells out ++ [[iv 0, iv 0, sv (ByteArray.mk #[])]]).length), (10, AV.sl (List.map Col.cells s.cols)), (11, iv (↑(List.map Col.cells s.cols).length : Int)), (12, iv (↑(i + 1) : Int))] [Blk.box [AV.sl (List.map (fun n => [iv n]) t9.l), iv (↑t9.pos : Int)], Blk.row 24 (List.map V.cells out ++ [[iv 0, iv 0, sv (ByteArray.mk #[])]]) false])) [sb h0, se (elAt_map (Col.cells) hx rfl), sl [0] c1, sg h2, sl [0] c6, sb h7, sg h8, sl [0] c9, sb h10, sqx (AllLen [[iv 0, iv 0, sv (ByteArray.mk #[])]] 3 ∧ out.length = (List.map V.cells out).length ∧ (((List.map V.cells out).length + [[iv 0, iv 0, sv (ByteArray.mk #[])]].length) * 32).le 140737488355328), si hw] [0, 5, 10, 11, 12] 2 (by kernel_rfl) (good_same (show ([(0, AV.p 0 0), (5, AV.own 1 (List.map V.cells out ++ [[iv 0, iv 0, sv (ByteArray.mk #[])]]).length), (10, AV.sl (List.map Col.cells s.cols)), (11, iv (↑(List.map Col.cells s.cols).length : Int)), (12, iv (↑(i + 1) : Int))] : TS) = [(0, AV.p 0 0), (5, AV.own 1 (out ++ [V.mk 0 0 (ByteArray.mk #[])]).length), (10, AV.sl (List.map Col.cells s.cols)), (11, iv (↑(List.map Col.cells s.cols).length : Int)), (12, iv (↑(i + 1) : Int))] by first | rfl | (simp; done) | (simp [X.cells, Qy.cells, V.cells, Col.cells, Rw.cells, Tb.cells, Fr.cells, Sch.cells, Tp.cells, Pl.cells]; done)) (show ([Blk.box [AV.sl (List.map (fun n => [iv n]) t9.l), iv (↑t9.pos : Int)], Blk.row 24 (List.map V.cells out ++ [[iv 0, iv 0, sv (ByteArray.mk #[])]]) false] : Heap) = [Blk.box t9.cells, Blk.row 24 (List.map V.cells (out ++ [V.mk 0 0 (ByteArray.mk #[])])) false] by first | rfl | (simp; done) | (simp [X.cells, Qy.cells, V.cells, Col.cells, Rw.cells, Tb.cells, Fr.cells, Sch.cells, Tp.cells, Pl.cells]; done)) (g2 R hg)))⟩
      · obtain ⟨a11, t11, q11, c11⟩ := (x_world_Tape_Small (t6))
        cases h12 : !x.notNull
        · obtain ⟨t2, out2, q2, x2, g2⟩ := ih (i + 1) (t11) (out ++ [V.mk v1.kind a11 v1.text]) (by omega) (by first | exact hI.push hx (valOk_null (by assumption)) | exact hI.push hx (valOk_small (by assumption) (by assumption) (by assumption)) | exact hI.push hx (valOk_typed (hc _ (List.mem_of_getElem? hx)) (by assumption))) (by omega); exact ⟨t2, out2, q2, x2, fun R hg => good_unroll (wkl (c' := (Cfg.mk (L_row t0 s (i + 1) t11 (out ++ [V.mk v1.kind a11 v1.text])).n (L_row t0 s (i + 1) t11 (out ++ [V.mk v1.kind a11 v1.text])).todo [(0, AV.p 0 0), (5, AV.own 1 (List.map V.cells out ++ [[iv v1.kind, iv a11, sv v1.text]]).length), (10, AV.sl (List.map Col.cells s.cols)), (11, iv (↑(List.map Col.cells s.cols).length : Int)), (12, iv (↑(i + 1) : Int))] [Blk.box [AV.sl (List.map (fun n => [iv n]) t11.l), iv (↑t11.pos : Int)], Blk.row 24 (List.map V.cells out ++ [[iv v1.kind, iv a11, sv v1.text]]) false])) [sb h0, se (elAt_map (Col.cells) hx rfl), sl [0] c1, sg h2, sl [0] c6, sb h7, sl [0] c11, sb h12, sqx (AllLen [[iv v1.kind, iv a11, sv v1.text]] 3 ∧ out.length = (List.map V.cells out).length ∧ (((List.map V.cells out).length + [[iv v1.kind, iv a11, sv v1.text]].length) * 32).le 140737488355328), si hw] [0, 5, 10, 11, 12] 2 (by kernel_rfl) (good_same (show ([(0, AV.p 0 0), (5, AV.own 1 (List.map V.cells out ++ [[iv v1.kind, iv a11, sv v1.text]]).length), (10, AV.sl (List.map Col.cells s.cols)), (11, iv (↑(List.map Col.cells s.cols).length : Int)), (12, iv (↑(i + 1) : Int))] : TS) = [(0, AV.p 0 0), (5, AV.own 1 (out ++ [V.mk v1.kind a11 v1.text]).length), (10, AV.sl (List.map Col.cells s.cols)), (11, iv (↑(List.map Col.cells s.cols).length : Int)), (12, iv (↑(i + 1) : Int))] by first | rfl | (simp; done) | (simp [X.cells, Qy.cells, V.cells, Col.cells, Rw.cells, Tb.cells, Fr.cells, Sch.cells, Tp.cells, Pl.cells]; done)) (show ([Blk.box [AV.sl (List.map (fun n => [iv n]) t11.l), iv (↑t11.pos : Int)], Blk.row 24 (List.map V.cells out ++ [[iv v1.kind, iv a11, sv v1.text]]) false] : Heap) = [Blk.box t11.cells, Blk.row 24 (List.map V.cells (out ++ [V.mk v1.kind a11 v1.text])) false] by first | rfl | (simp; done) | (simp [X.cells, Qy.cells, V.cells, Col.cells, Rw.cells, Tb.cells, Fr.cells, Sch.cells, Tp.cells, Pl.cells]; done)) (g2 R hg)))⟩
        · obtain ⟨b13, t13, c13⟩ := (x_world_Tape_Bool (t11) (5) (by first | assumption | omega | (simp; done) | (simp; omega)))
          rcases (Bool.eq_false_or_eq_true b13).symm with h14 | h14
          · obtain ⟨t2, out2, q2, x2, g2⟩ := ih (i + 1) (t13) (out ++ [V.mk v1.kind a11 v1.text]) (by omega) (by first | exact hI.push hx (valOk_null (by assumption)) | exact hI.push hx (valOk_small (by assumption) (by assumption) (by assumption)) | exact hI.push hx (valOk_typed (hc _ (List.mem_of_getElem? hx)) (by assumption))) (by omega); exact ⟨t2, out2, q2, x2, fun R hg => good_unroll (wkl (c' := (Cfg.mk (L_row t0 s (i + 1) t13 (out ++ [V.mk v1.kind a11 v1.text])).n (L_row t0 s (i + 1) t13 (out ++ [V.mk v1.kind a11 v1.text])).todo [(0, AV.p 0 0), (5, AV.own 1 (List.map V.cells out ++ [[iv v1.kind, iv a11, sv v1.text]]).length), (10, AV.sl (List.map Col.cells s.cols)), (11, iv (↑(List.map Col.cells s.cols).length : Int)), (12, iv (↑(i + 1) : Int))] [Blk.box [AV.sl (List.map (fun n => [iv n]) t13.l), iv (↑t13.pos : Int)], Blk.row 24 (List.map V.cells out ++ [[iv v1.kind, iv a11, sv v1.text]]) false])) [sb h0, se (elAt_map (Col.cells) hx rfl), sl [0] c1, sg h2, sl [0] c6, sb h7, sl [0] c11, sg h12, sl [0] c13, sb h14, sqx (AllLen [[iv v1.kind, iv a11, sv v1.text]] 3 ∧ out.length = (List.map V.cells out).length ∧ (((List.map V.cells out).length + [[iv v1.kind, iv a11, sv v1.text]].length) * 32).le 140737488355328), si hw] [0, 5, 10, 11, 12] 2 (by kernel_rfl) (good_same (show ([(0, AV.p 0 0), (5, AV.own 1 (List.map V.cells out ++ [[iv v1.kind, iv a11, sv v1.text]]).length), (10, AV.sl (List.map Col.cells s.cols)), (11, iv (↑(List.map Col.cells s.cols).length : Int)), (12, iv (↑(i + 1) : Int))] : TS) = [(0, AV.p 0 0), (5, AV.own 1 (out ++ [V.mk v1.kind a11 v1.text]).length), (10, AV.sl (List.map Col.cells s.cols)), (11, iv (↑(List.map Col.cells s.cols).length : Int)), (12, iv (↑(i + 1) : Int))] by first | rfl | (simp; done) | (simp [X.cells, Qy.cells, V.cells, Col.cells, Rw.cells, Tb.cells, Fr.cells, Sch.cells, Tp.cells, Pl.cells]; done)) (show ([Blk.box [AV.sl (List.map (fun n => [iv n]) t13.l), iv (↑t13.pos : Int)], Blk.row 24 (List.map V.cells out ++ [[iv v1.kind, iv a11, sv v1.text]]) false] : Heap) = [Blk.box t13.cells, Blk.row 24 (List.map V.cells (out ++ [V.mk v1.kind a11 v1.text])) false] by first | rfl | (simp; done) | (simp [X.cells, Qy.cells, V.cells, Col.cells, Rw.cells, Tb.cells, Fr.cells, Sch.cells, Tp.cells, Pl.cells]; done)) (g2 R hg)))⟩
          · obtain ⟨t2, out2, q2, x2, g2⟩ := ih (i + 1) (t13) (out ++ [V.mk 0 0 (ByteArray.mk #[])]) (by omega) (by first | exact hI.push hx (valOk_null (by assumption)) | exact hI.push hx (valOk_small (by assumption) (by assumption) (by assumption)) | exact hI.push hx (valOk_typed (hc _ (List.mem_of_getElem? hx)) (by assumption))) (by omega); exact ⟨t2, out2, q2, x2, fun R hg => good_unroll (wkl (c' := (Cfg.mk (L_row t0 s (i + 1) t13 (out ++ [V.mk 0 0 (ByteArray.mk #[])])).n (L_row t0 s (i + 1) t13 (out ++ [V.mk 0 0 (ByteArray.mk #[])])).todo [(0, AV.p 0 0), (5, AV.own 1 (List.map V.cells out ++ [[iv 0, iv 0, sv (ByteArray.mk #[])]]).length), (10, AV.sl (List.map Col.cells s.cols)), (11, iv (↑(List.map Col.cells s.cols).length : Int)), (12, iv (↑(i + 1) : Int))] [Blk.box [AV.sl (List.map (fun n => [iv n]) t13.l), iv (↑t13.pos : Int)], Blk.row 24 (List.map V.cells out ++ [[iv 0, iv 0, sv (ByteArray.mk #[])]]) false])) [sb h0, se (elAt_map (Col.cells) hx rfl), sl [0] c1, sg h2, sl [0] c6, sb h7, sl [0] c11, sg h12, sl [0] c13, sb h14, sqx (AllLen [[iv 0, iv 0, sv (ByteArray.mk #[])]] 3 ∧ out.length = (List.map V.cells out).length ∧ (((List.map V.cells out).length + [[iv 0, iv 0, sv (ByteArray.mk #[])]].length) * 32).le 140737488355328), si hw] [0, 5, 10, 11, 12] 2 (by kernel_rfl) (good_same (show ([(0, AV.p 0 0), (5, AV.own 1 (List.map V.cells out ++ [[iv 0, iv 0, sv (ByteArray.mk #[])]]).length), (10, AV.sl (List.map Col.cells s.cols)), (11, iv (↑(List.map Col.cells s.cols).length : Int)), (12, iv (↑(i + 1) : Int))] : TS) = [(0, AV.p 0 0), (5, AV.own 1 (out ++ [V.mk 0 0 (ByteArray.mk #[])]).length), (10, AV.sl (List.map Col.cells s.cols)), (11, iv (↑(List.map Col.cells s.cols).length : Int)), (12, iv (↑(i + 1) : Int))] by first | rfl | (simp; done) | (simp [X.cells, Qy.cells, V.cells, Col.cells, Rw.cells, Tb.cells, Fr.cells, Sch.cells, Tp.cells, Pl.cells]; done)) (show ([Blk.box [AV.sl (List.map (fun n => [iv n]) t13.l), iv (↑t13.pos : Int)], Blk.row 24 (List.map V.cells out ++ [[iv 0, iv 0, sv (ByteArray.mk #[])]]) false] : Heap) = [Blk.box t13.cells, Blk.row 24 (List.map V.cells (out ++ [V.mk 0 0 (ByteArray.mk #[])])) false] by first | rfl | (simp; done) | (simp [X.cells, Qy.cells, V.cells, Col.cells, Rw.cells, Tb.cells, Fr.cells, Sch.cells, Tp.cells, Pl.cells]; done)) (g2 R hg)))⟩
theorem x_world_Tape_Row (t : Tp) (s : Sch) (hl : Short s.cols) (hc : ∀ c ∈ s.cols, ColOk c) : ∃ (r : List V) (t' : Tp), RowOk s.cols r ∧ ACallsTo E0 S.world_Tape_Row [.p 0 0, s.av] [.box t.cells] (vsl r) [.box t'.cells] := by
  obtain ⟨t1, out1, q1, q1_1, g1⟩ := x_world_Tape_Row__row_loop (t) (s) (by first | assumption | exact PrefOk.nil _ | omega) (by first | assumption | exact PrefOk.nil _ | omega) (0) (t) ([]) (by first | assumption | exact PrefOk.nil _ | omega) (by first | assumption | exact PrefOk.nil _ | omega)
  exact ⟨out1, t1, by first | assumption | trivial | (simp; done) | omega | (simp; omega) | (simp at *; omega), wkc At.world_Tape_Row (c' := (Cfg.mk (L_row t s 0 t []).n (L_row t s 0 t []).todo [(0, AV.p 0 0), (5, AV.nl), (10, AV.sl (List.map Col.cells s.cols)), (11, iv (↑(List.map Col.cells s.cols).length : Int)), (12, iv 0)] [Blk.box [AV.sl (List.map (fun n => [iv n]) t.l), iv (↑t.pos : Int)]])) [] [0, 5, 10, 11, 12] 1 (by kernel_rfl) (good_ownCut (c' := L_row t s 0 t []) 5 Ty.Value [0, 5, 10, 11, 12] 2 (by kernel_rfl) (by kernel_rfl) (by kernel_rfl) (g1 _ (good_unroll (wkr [sqx (out1.length = (List.map V.cells out1).length), sb q1_1] (by kernel_rfl)))))⟩
def schemas  : (List Sch) :=
  [Sch.mk (ByteArray.mk #[108, 111, 103]) [Col.mk (ByteArray.mk #[110]) 1 false false, Col.mk (ByteArray.mk #[115]) 3 false false], Sch.mk (ByteArray.mk #[116]) [Col.mk (ByteArray.mk #[105, 100]) 1 true true, Col.mk (ByteArray.mk #[110]) 1 false false, Col.mk (ByteArray.mk #[98]) 2 false false, Col.mk (ByteArray.mk #[115]) 3 false false], Sch.mk (ByteArray.mk #[117]) [Col.mk (ByteArray.mk #[105, 100]) 1 true true, Col.mk (ByteArray.mk #[110]) 1 true false, Col.mk (ByteArray.mk #[109]) 1 false false]]
theorem k_world_Schemas   : ACallsTo E0 S.world_Schemas [] [] (.sl (schemas.map Sch.cells)) [] := by
  unfold schemas
  exact (by (try simp only [X.av, Qy.av, V.av, Tb.av, Sch.av, Pl.av, xsl, fsl, vsl, tsl, List.map_append, List.map_cons, List.map_nil, V.cells, Col.cells, Rw.cells, Tb.cells, Fr.cells, Sch.cells, Pl.cells, cellsX_app, cellsX_cons, cellsX_nil, cellsQ_cons, cellsQ_nil, X.cells, Qy.cells, X.args_mk, X.sub_mk, Qy.items_mk, Qy.wh_mk]); exact wk At.world_Schemas [] (by kernel_rfl))
theorem short_schemas : Short schemas := by simp [schemas]
noncomputable def L_schemaL (n : Str) (i : Nat)  : Cfg := loopAt B.world_Schema 0 [(0, sv n), (2, .p 0 0), (5, .sl (schemas.map Sch.cells)), (6, iv ((schemas.map Sch.cells).length : Nat)), (7, iv (i : Nat))] [.box [sv ⟨#[]⟩, .nl]]
def schemaL (n : Str) : List (Sch) → Nat → Sch
  | [], i =>
    Sch.mk (ByteArray.mk #[]) []
  | x :: r, i =>
    bif ByteArray.toList x.name == ByteArray.toList n then
      x
    else
      schemaL n r (i + 1)
theorem k_schemaL_loop (n : Str) (hs : Short schemas) : ∀ (kk i : Nat), i + kk = (schemas).length → Good E0 B.world_Schema [] (L_schemaL n i ) (Shut 0 fun r h => r = ((schemaL n ((schemas).drop i) i ).av) ∧ h = []) := by
  intro kk
  induction kk with
  | zero =>
    intro i  hi 
    have h0 : decide (((i : Nat) : Int) < (((schemas.map Sch.cells).length : Nat) : Int)) = false := by simp; omega
    have e0 : (schemas).drop i = [] := List.drop_of_length_le (by omega)
    rw [e0]
    simp only [schemaL]
    refine good_unroll ?_
    exact wkr [sb h0] (by kernel_rfl)
  | succ kk ih =>
    intro i  hi 
    obtain ⟨x, hx⟩ := ex_at (l := schemas) (i := i) (by omega)
    have h0 : decide (((i : Nat) : Int) < (((schemas.map Sch.cells).length : Nat) : Int)) = true := by simp; omega
    have hw := wrap_nat i (by first | omega | (simp only [Short, Few] at *; omega))
    rw [drop_at hx]
    simp only [schemaL]
    refine good_unroll ?_
    cases h1 : ByteArray.toList x.name == ByteArray.toList n
    · exact wkl [sb h0, se (elAt_map (Sch.cells) hx rfl), sb h1, si hw] [0, 2, 5, 6, 7] 1 (by kernel_rfl) (ih (i + 1) (by omega) )
    · exact wkr [sb h0, se (elAt_map (Sch.cells) hx rfl), sb h1] (by kernel_rfl)
def schemaOf (n : Str) : Sch :=
  schemaL n schemas (0)
theorem k_world_Schema (n : Str) (hs : Short schemas) : ACallsTo E0 S.world_Schema [sv n] [] ((schemaOf n).av) [] := by
  unfold schemaOf
  exact wkc At.world_Schema [sc k_world_Schemas] [0, 2, 5, 6, 7] 1 (by kernel_rfl) (k_schemaL_loop n hs schemas.length 0 (by simp))
theorem c_Num0 (n : Int) (h1 : decide (n < (0 : Int)) = false) : Pure S.world_Num [iv n] (X.av (xLit ⟨1, n, ⟨#[]⟩⟩)) := by
  exact wk At.world_Num [sb h1, sc (k_world_Lit (V.mk 1 n ⟨#[]⟩))] (by kernel_rfl)
def xNeg (a : X) : X := X.mk 4 0 false ⟨0, 0, ⟨#[]⟩⟩ ⟨#[]⟩ ⟨#[]⟩ [a] []
theorem c_Num1 (n : Int) (h1 : decide (n < (0 : Int)) = true) (h2 : -9223372036854775808 < n) : Pure S.world_Num [iv n] (X.av (xNeg (xLit ⟨1, IntKind.i64.wrap (-n), ⟨#[]⟩⟩))) := by
  have hk := c_Num0 (IntKind.i64.wrap (-n)) (by rw [IntKind.wrap_i64]; simp at *; omega)
  unfold xNeg
  simp only [X.av, xLit, cellsX_cons, cellsX_nil, X.cells, X.args_mk, X.sub_mk]
  exact wk At.world_Num [sb h1, si (e := IntKind.i64.wrap (-n)) rfl, sc hk] (by kernel_rfl)
def xNum (n : Int) : X := bif decide (n < 0) then xNeg (xLit ⟨1, IntKind.i64.wrap (-n), ⟨#[]⟩⟩) else xLit ⟨1, n, ⟨#[]⟩⟩
theorem k_world_Num (n : Int) (h2 : -9223372036854775808 < n) : Pure S.world_Num [iv n] (X.av (xNum n)) := by
  unfold xNum
  cases h : decide (n < 0)
  · exact c_Num0 n h
  · exact c_Num1 n h h2
def vcopy (l : List V) : (List V) :=
  l
theorem k_ref5_Copy (l : List V) (hl : Short l) : ACallsTo E0 S.ref5_Copy [vsl l] [] (vsl (vcopy l)) [] := by
  exact wk At.ref5_Copy [sqx ((List.map V.cells l).length = (List.map V.cells l).length), sqx (AllLen (List.map V.cells l) 3 ∧ ((List.map V.cells l).length * 32).le 140737488355328)] (by kernel_rfl)
def framesOf (t : Tg) (s : Sch) (a b : List V) : (List Fr) :=
  bif t.each then
    bif t.event == 2 then
      [Fr.mk (ByteArray.mk #[79, 76, 68]) true s.cols (vcopy a), Fr.mk (ByteArray.mk #[78, 69, 87]) true s.cols (vcopy b)]
    else
      bif t.event == 3 then
        bif t.event == 1 then
          [Fr.mk (ByteArray.mk #[79, 76, 68]) true s.cols (vcopy a), Fr.mk (ByteArray.mk #[78, 69, 87]) true s.cols (vcopy b)]
        else
          [Fr.mk (ByteArray.mk #[79, 76, 68]) true s.cols (vcopy a)]
      else
        bif t.event == 1 then
          [Fr.mk (ByteArray.mk #[78, 69, 87]) true s.cols (vcopy b)]
        else
          []
  else
    []
theorem k_ref17_Frames (t : Tg) (s : Sch) (a b : List V) (hs : Short s.cols) (ha : Short a) (hb : Short b) : ACallsTo E0 S.ref17_Frames [t.av, s.av, vsl a, vsl b] [] (fsl (framesOf t s a b)) [] := by
  unfold framesOf
  cases h1 : t.each
  · exact wk At.ref17_Frames [sb h1, sb h1] (by kernel_rfl)
  · cases h2 : t.event == 2
    · cases h3 : t.event == 3
      · cases h4 : t.event == 1
        · exact wk At.ref17_Frames [sg h1, sg h2, sb h3, sg h1, sg h2, sb h4] (by kernel_rfl)
        · exact (by (try simp only [X.av, Qy.av, V.av, Tb.av, Sch.av, Pl.av, xsl, fsl, vsl, tsl, List.map_append, List.map_cons, List.map_nil, V.cells, Col.cells, Rw.cells, Tb.cells, Fr.cells, Sch.cells, Pl.cells, cellsX_app, cellsX_cons, cellsX_nil, cellsQ_cons, cellsQ_nil, X.cells, Qy.cells, X.args_mk, X.sub_mk, Qy.items_mk, Qy.wh_mk]); exact wk At.ref17_Frames [sqx (1 = 1), sg h1, sg h2, sb h3, sg h1, sg h2, sb h4, sqx (AllLen (List.map Col.cells s.cols) 4 ∧ ((List.map Col.cells s.cols).length * 32).le 140737488355328), sc (k_ref5_Copy (b) (by first | assumption | omega | (simp; done) | (simp; omega))), sqx (True ∧ True ∧ (List.map Col.cells s.cols).length = (List.map Col.cells s.cols).length ∧ True ∧ True), sqx (AllLen [[sv (ByteArray.mk #[78, 69, 87]), bv true, AV.sl (List.map Col.cells s.cols), AV.sl (List.map V.cells (vcopy b))]] 4 ∧ Nat.le 72 140737488355328)] (by kernel_rfl))
      · cases h5 : t.event == 1
        · exact (by (try simp only [X.av, Qy.av, V.av, Tb.av, Sch.av, Pl.av, xsl, fsl, vsl, tsl, List.map_append, List.map_cons, List.map_nil, V.cells, Col.cells, Rw.cells, Tb.cells, Fr.cells, Sch.cells, Pl.cells, cellsX_app, cellsX_cons, cellsX_nil, cellsQ_cons, cellsQ_nil, X.cells, Qy.cells, X.args_mk, X.sub_mk, Qy.items_mk, Qy.wh_mk]); exact wk At.ref17_Frames [sqx (1 = 1), sg h1, sg h2, sb h3, sqx (AllLen (List.map Col.cells s.cols) 4 ∧ ((List.map Col.cells s.cols).length * 32).le 140737488355328), sc (k_ref5_Copy (a) (by first | assumption | omega | (simp; done) | (simp; omega))), sqx (True ∧ True ∧ (List.map Col.cells s.cols).length = (List.map Col.cells s.cols).length ∧ True ∧ True), sqx (AllLen [[sv (ByteArray.mk #[79, 76, 68]), bv true, AV.sl (List.map Col.cells s.cols), AV.sl (List.map V.cells (vcopy a))]] 4 ∧ Nat.le 72 140737488355328), sg h1, sg h2, sb h5] (by kernel_rfl))
        · exact (by (try simp only [X.av, Qy.av, V.av, Tb.av, Sch.av, Pl.av, xsl, fsl, vsl, tsl, List.map_append, List.map_cons, List.map_nil, V.cells, Col.cells, Rw.cells, Tb.cells, Fr.cells, Sch.cells, Pl.cells, cellsX_app, cellsX_cons, cellsX_nil, cellsQ_cons, cellsQ_nil, X.cells, Qy.cells, X.args_mk, X.sub_mk, Qy.items_mk, Qy.wh_mk]); exact wk At.ref17_Frames [sqx (2 = 2), sg h1, sg h2, sb h3, sqx (AllLen (List.map Col.cells s.cols) 4 ∧ ((List.map Col.cells s.cols).length * 32).le 140737488355328), sc (k_ref5_Copy (a) (by first | assumption | omega | (simp; done) | (simp; omega))), sqx (True ∧ True ∧ (List.map Col.cells s.cols).length = (List.map Col.cells s.cols).length ∧ True ∧ True), sqx (AllLen [[sv (ByteArray.mk #[79, 76, 68]), bv true, AV.sl (List.map Col.cells s.cols), AV.sl (List.map V.cells (vcopy a))]] 4 ∧ Nat.le 72 140737488355328), sg h1, sg h2, sb h5, sqx (AllLen (List.map Col.cells s.cols) 4 ∧ ((List.map Col.cells s.cols).length * 32).le 140737488355328), sc (k_ref5_Copy (b) (by first | assumption | omega | (simp; done) | (simp; omega))), sqx (True ∧ True ∧ (List.map Col.cells s.cols).length = (List.map Col.cells s.cols).length ∧ True ∧ True), sqx (AllLen [[sv (ByteArray.mk #[78, 69, 87]), bv true, AV.sl (List.map Col.cells s.cols), AV.sl (List.map V.cells (vcopy b))]] 4 ∧ 1 = 1 ∧ Nat.le 144 140737488355328)] (by kernel_rfl))
    · exact (by (try simp only [X.av, Qy.av, V.av, Tb.av, Sch.av, Pl.av, xsl, fsl, vsl, tsl, List.map_append, List.map_cons, List.map_nil, V.cells, Col.cells, Rw.cells, Tb.cells, Fr.cells, Sch.cells, Pl.cells, cellsX_app, cellsX_cons, cellsX_nil, cellsQ_cons, cellsQ_nil, X.cells, Qy.cells, X.args_mk, X.sub_mk, Qy.items_mk, Qy.wh_mk]); exact wk At.ref17_Frames [sqx (2 = 2), sg h1, sb h2, sqx (AllLen (List.map Col.cells s.cols) 4 ∧ ((List.map Col.cells s.cols).length * 32).le 140737488355328), sc (k_ref5_Copy (a) (by first | assumption | omega | (simp; done) | (simp; omega))), sqx (True ∧ True ∧ (List.map Col.cells s.cols).length = (List.map Col.cells s.cols).length ∧ True ∧ True), sqx (AllLen [[sv (ByteArray.mk #[79, 76, 68]), bv true, AV.sl (List.map Col.cells s.cols), AV.sl (List.map V.cells (vcopy a))]] 4 ∧ Nat.le 72 140737488355328), sg h1, sb h2, sqx (AllLen (List.map Col.cells s.cols) 4 ∧ ((List.map Col.cells s.cols).length * 32).le 140737488355328), sc (k_ref5_Copy (b) (by first | assumption | omega | (simp; done) | (simp; omega))), sqx (True ∧ True ∧ (List.map Col.cells s.cols).length = (List.map Col.cells s.cols).length ∧ True ∧ True), sqx (AllLen [[sv (ByteArray.mk #[78, 69, 87]), bv true, AV.sl (List.map Col.cells s.cols), AV.sl (List.map V.cells (vcopy b))]] 4 ∧ 1 = 1 ∧ Nat.le 144 140737488355328)] (by kernel_rfl))
def plIn (p : Pl) (s : Sch) : Pl :=
  Pl.mk (p.frs ++ [Fr.mk s.name false s.cols []]) p.tbs
theorem k_world_Inside (p : Pl) (s : Sch) (hp : Short p.frs) : ACallsTo E0 S.world_Inside [p.av, s.av] [] ((plIn p s).av) [] := by
  unfold plIn
  exact (by (try simp only [X.av, Qy.av, V.av, Tb.av, Sch.av, Pl.av, xsl, fsl, vsl, tsl, List.map_append, List.map_cons, List.map_nil, V.cells, Col.cells, Rw.cells, Tb.cells, Fr.cells, Sch.cells, Pl.cells, cellsX_app, cellsX_cons, cellsX_nil, cellsQ_cons, cellsQ_nil, X.cells, Qy.cells, X.args_mk, X.sub_mk, Qy.items_mk, Qy.wh_mk]); exact wk At.world_Inside [sqx ((List.map Fr.cells p.frs ++ [[sv s.name, bv false, AV.sl (List.map Col.cells s.cols), AV.sl []]]).length = (List.map Fr.cells p.frs ++ [[sv s.name, bv false, AV.sl (List.map Col.cells s.cols), AV.sl []]]).length ∧ True ∧ True), sd [(2, [sqx (AllLen (List.map Fr.cells p.frs) 4 ∧ ((List.map Fr.cells p.frs).length * 72).le 140737488355328)]), (9, [sqx (AllLen [[sv s.name, bv false, AV.sl (List.map Col.cells s.cols), AV.sl []]] 4 ∧ (List.map Fr.cells p.frs).length = (List.map Fr.cells p.frs).length ∧ (((List.map Fr.cells p.frs).length + [[sv s.name, bv false, AV.sl (List.map Col.cells s.cols), AV.sl []]].length) * 72).le 140737488355328)])]] (by kernel_rfl))
end Go.AM
