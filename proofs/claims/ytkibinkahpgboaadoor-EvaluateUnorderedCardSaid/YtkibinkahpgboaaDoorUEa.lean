/-
  Contracts: types of the reference, sums, least and greatest.
-/
import Derived.Test.YtkibinkahpgboaaDoorUDb
import Derived.Laws.Externs
namespace Go.AM
set_option maxRecDepth 100000
set_option maxHeartbeats 1000000
set_option linter.unusedSimpArgs false
set_option linter.unusedVariables false
def cNull : Col := ⟨⟨#[]⟩, 0, false, false⟩
def rFr (frs : List Fr) (q n : Str) : Fr := frs.getD (rResolve frs q n).1.toNat frNull
def rCol (frs : List Fr) (q n : Str) : Col := (rFr frs q n).cols.getD (rResolve frs q n).2.1.toNat cNull
theorem rResolve_ok {frs : List Fr} {q n : Str} (h : (rResolve frs q n).2.2 = true) : ∃ (i j : Nat), rResolve frs q n = ((i : Int), (j : Int), true) ∧ frs[i]? = some (rFr frs q n) ∧ (rFr frs q n).cols[j]? = some (rCol frs q n) := by
  have h' := h
  unfold rResolve at h'
  obtain ⟨i, j, f, c, e, hf, hc⟩ := rres_ok frs q n frs.length (Nat.le_refl _) h'
  have e' : rResolve frs q n = ((i : Int), (j : Int), true) := e
  have e1 : rFr frs q n = f := by simp [rFr, e', List.getD_eq_getElem?_getD, hf]
  have e2 : rCol frs q n = c := by simp [rCol, e1, e', List.getD_eq_getElem?_getD, hc]
  exact ⟨i, j, e', by rw [e1]; exact hf, by rw [e1, e2]; exact hc⟩
theorem el_rFr (frs : List Fr) (q n : Str) (h : (rResolve frs q n).2.2 = true) : ElAt (frs.map Fr.cells) (rResolve frs q n).1 (rFr frs q n).cells 4 := by
  obtain ⟨i, j, e, h1, h2⟩ := rResolve_ok h
  rw [show (rResolve frs q n).1 = (i : Int) by rw [e]]
  exact elAt_map Fr.cells h1 rfl
theorem el_rCol (frs : List Fr) (q n : Str) (h : (rResolve frs q n).2.2 = true) : ElAt ((rFr frs q n).cols.map Col.cells) (rResolve frs q n).2.1 (rCol frs q n).cells 4 := by
  obtain ⟨i, j, e, h1, h2⟩ := rResolve_ok h
  rw [show (rResolve frs q n).2.1 = (j : Int) by rw [e]]
  exact elAt_map Col.cells h2 rfl
def rcond1 (f : X → Int × Int) (x : X) : Int :=
  bif (f x).snd != 0 then
    (f x).snd
  else
    bif !rfits (f x).fst 2 then
      5
    else
      0
theorem k_ref14_Condition__1 (f : X → Int × Int) (x : X) (r : List X) (frs : List Fr) (tb : List Tb) (hn : ((((cellsX (x :: r)).length : Nat) : Int) == 0) = false) (hf : Pure S.ref14_Type [x.av, fsl frs, tsl tb] (.tup [iv (f x).1, iv (f x).2])) : ACallsTo E0 S.ref14_Condition [xsl (x :: r), fsl frs, tsl tb] [] (iv (rcond1 f x)) [] := by
  unfold rcond1
  cases h1 : (f x).snd != 0
  · cases h2 : !rfits (f x).fst 2
    · exact wk At.ref14_Condition [sb (rfl : false = false), se (elAt_X (l := x :: r) (i := 0) (x := x) rfl), sc hf, sb h1, sc (k_ref14_fits ((f x).fst) (2)), sb h2] (by kernel_rfl)
    · exact wk At.ref14_Condition [sb (rfl : false = false), se (elAt_X (l := x :: r) (i := 0) (x := x) rfl), sc hf, sb h1, sc (k_ref14_fits ((f x).fst) (2)), sb h2] (by kernel_rfl)
  · exact wk At.ref14_Condition [sb (rfl : false = false), se (elAt_X (l := x :: r) (i := 0) (x := x) rfl), sc hf, sb h1] (by kernel_rfl)
def rcond0  : Int :=
  0
theorem k_ref14_Condition__0  (frs : List Fr) (tb : List Tb) : ACallsTo E0 S.ref14_Condition [xsl [], fsl frs, tsl tb] [] (iv rcond0) [] := by
  exact wk At.ref14_Condition [sb (rfl : true = true)] (by kernel_rfl)
noncomputable def L_rtyL (f : X → Int × Int) (e : X) (frs : List Fr) (tb : List Tb) (i : Nat) (l : List Int) : Cfg := loopAt B.ref14_Type 0 [(1, fsl frs), (2, tsl tb), (3, .p 0 0), (11, .own 1 l.length), (60, xsl e.args), (61, iv ((cellsX e.args).length : Nat)), (62, iv (i : Nat))] [.box e.cells, .row Ty.int (l.map fun n => [iv n]) false]
def rtyL (f : X → Int × Int) (e : X) (frs : List Fr) (tb : List Tb) : List (X) → Nat → (List Int) → Int × Int
  | [], i, l =>
    ((rresult e l).fst, (rresult e l).snd)
  | x :: r, i, l =>
    bif (f x).snd != 0 then
      (0, (f x).snd)
    else
      rtyL f e frs tb r (i + 1) (l ++ [(f x).fst])
theorem k_rtyL_loop (f : X → Int × Int) (e : X) (frs : List Fr) (tb : List Tb) (hl : Short e.args) (hf : ∀ x ∈ e.args, Pure S.ref14_Type [x.av, fsl frs, tsl tb] (.tup [iv (f x).1, iv (f x).2])) : ∀ (kk i : Nat) (l : List Int), i + kk = (e.args).length → l.length ≤ i → Good E0 B.ref14_Type [] (L_rtyL f e frs tb i l) (Shut 0 fun r h => r = (.tup [iv (rtyL f e frs tb ((e.args).drop i) i l).1, iv (rtyL f e frs tb ((e.args).drop i) i l).2]) ∧ h = []) := by
  intro kk
  induction kk with
  | zero =>
    intro i l hi ho
    have h0 : decide (((i : Nat) : Int) < (((cellsX e.args).length : Nat) : Int)) = false := by simp; omega
    have e0 : (e.args).drop i = [] := List.drop_of_length_le (by omega)
    rw [e0]
    simp only [rtyL]
    refine good_unroll ?_
    exact wkr [sb h0, skx ((True ∧ True ∧ True ∧ True ∧ True ∧ True ∧ True ∧ True ∧ True ∧ True ∧ True) ∧ l.length = (List.map (fun n => [iv n]) l).length ∧ True) [] (k_ref14_result (e) (l) (by first | assumption | (simp only [Short] at *; omega)))] (by kernel_rfl)
  | succ kk ih =>
    intro i l hi ho
    obtain ⟨x, hx⟩ := ex_at (l := e.args) (i := i) (by omega)
    have h0 : decide (((i : Nat) : Int) < (((cellsX e.args).length : Nat) : Int)) = true := by simp; omega
    have hw := wrap_nat i (by first | omega | (simp only [Short, Few] at *; omega))
    have hfx := hf x (List.mem_of_getElem? hx)
    rw [drop_at hx]
    simp only [rtyL]
    refine good_unroll ?_
    cases h1 : (f x).snd != 0
    · exact wkl (c' := (Cfg.mk (L_rtyL f e frs tb (i + 1) (l ++ [(f x).fst])).n (L_rtyL f e frs tb (i + 1) (l ++ [(f x).fst])).todo [(1, AV.sl (List.map Fr.cells frs)), (2, AV.sl (List.map Tb.cells tb)), (3, AV.p 0 0), (11, AV.own 1 (List.map (fun n => [iv n]) l ++ [[iv (f x).fst]]).length), (60, AV.sl (cellsX e.args)), (61, iv (↑(cellsX e.args).length : Int)), (62, iv (↑(i + 1) : Int))] [Blk.box [iv e.kind, iv e.op, bv e.not, iv e.val.kind, iv e.val.int, sv e.val.text, sv e.table, sv e.name, AV.sl (cellsX e.args), AV.sl (cellsQ e.sub)], Blk.row 3 (List.map (fun n => [iv n]) l ++ [[iv (f x).fst]]) false])) [sb h0, se (elAt_X hx), sc hfx, sb h1, sqx (AllLen [[iv (f x).fst]] 1 ∧ l.length = (List.map (fun n => [iv n]) l).length ∧ (((List.map (fun n => [iv n]) l).length + [[iv (f x).fst]].length) * 8).le 140737488355328), si hw] [1, 2, 3, 11, 60, 61, 62] 2 (by kernel_rfl) (good_same (show ([(1, AV.sl (List.map Fr.cells frs)), (2, AV.sl (List.map Tb.cells tb)), (3, AV.p 0 0), (11, AV.own 1 (List.map (fun n => [iv n]) l ++ [[iv (f x).fst]]).length), (60, AV.sl (cellsX e.args)), (61, iv (↑(cellsX e.args).length : Int)), (62, iv (↑(i + 1) : Int))] : TS) = [(1, AV.sl (List.map Fr.cells frs)), (2, AV.sl (List.map Tb.cells tb)), (3, AV.p 0 0), (11, AV.own 1 (l ++ [(f x).fst]).length), (60, AV.sl (cellsX e.args)), (61, iv (↑(cellsX e.args).length : Int)), (62, iv (↑(i + 1) : Int))] by first | rfl | (simp; done) | (simp [X.cells, Qy.cells, V.cells, Col.cells, Rw.cells, Tb.cells, Fr.cells, Sch.cells, Tp.cells, Pl.cells, xCol, xLit, xBin, xNeg]; done)) (show ([Blk.box [iv e.kind, iv e.op, bv e.not, iv e.val.kind, iv e.val.int, sv e.val.text, sv e.table, sv e.name, AV.sl (cellsX e.args), AV.sl (cellsQ e.sub)], Blk.row 3 (List.map (fun n => [iv n]) l ++ [[iv (f x).fst]]) false] : Heap) = [Blk.box [iv e.kind, iv e.op, bv e.not, iv e.val.kind, iv e.val.int, sv e.val.text, sv e.table, sv e.name, AV.sl (cellsX e.args), AV.sl (cellsQ e.sub)], Blk.row 3 (List.map (fun n => [iv n]) (l ++ [(f x).fst])) false] by first | rfl | (simp; done) | (simp [X.cells, Qy.cells, V.cells, Col.cells, Rw.cells, Tb.cells, Fr.cells, Sch.cells, Tp.cells, Pl.cells, xCol, xLit, xBin, xNeg]; done)) (ih (i + 1) (l ++ [(f x).fst]) (by omega) (by first | assumption | (simp; done) | (simp; omega) | omega | (simp at *; omega))))
    · exact wkr [sb h0, se (elAt_X hx), sc hfx, sb h1] (by kernel_rfl)
noncomputable def L_rtqL (f : X → Int × Int) (cond : Int) (e : X) (q : Qy) (ins : List Fr) (tb : List Tb) (i : Nat) (item : Int) : Cfg := loopAt B.ref14_typeOfQuery 0 [(2, tsl tb), (3, .p 0 0), (8, .p 1 0), (11, fsl ins), (12, iv item), (35, xsl q.items), (36, iv ((cellsX q.items).length : Nat)), (37, iv (i : Nat))] [.box e.cells, .box q.cells]
def rtqL (f : X → Int × Int) (cond : Int) (e : X) (q : Qy) (ins : List Fr) (tb : List Tb) : List (X) → Nat → (Int) → Int × Int
  | [], i, item =>
    bif cond != 0 then
      (0, cond)
    else
      bif e.kind == 10 then
        bif !rfits item 1 then
          (0, 5)
        else
          bif e.kind == 8 then
            (2, 0)
          else
            bif e.kind == 11 then
              (item, 0)
            else
              bif e.kind == 12 then
                (item, 0)
              else
                (1, 0)
      else
        bif e.kind == 8 then
          (2, 0)
        else
          bif e.kind == 11 then
            (item, 0)
          else
            bif e.kind == 12 then
              (item, 0)
            else
              (1, 0)
  | x :: r, i, item =>
    bif (f x).snd != 0 then
      (0, (f x).snd)
    else
      rtqL f cond e q ins tb r (i + 1) ((f x).fst)
theorem k_rtqL_loop (f : X → Int × Int) (cond : Int) (e : X) (q : Qy) (ins : List Fr) (tb : List Tb) (hl : Short q.items) (hf : ∀ x ∈ q.items, Pure S.ref14_Type [x.av, fsl ins, tsl tb] (.tup [iv (f x).1, iv (f x).2])) (hc : Pure S.ref14_Condition [xsl q.wh, fsl ins, tsl tb] (iv cond)) : ∀ (kk i : Nat) (item : Int), i + kk = (q.items).length → Good E0 B.ref14_typeOfQuery [] (L_rtqL f cond e q ins tb i item) (Shut 0 fun r h => r = (.tup [iv (rtqL f cond e q ins tb ((q.items).drop i) i item).1, iv (rtqL f cond e q ins tb ((q.items).drop i) i item).2]) ∧ h = []) := by
  intro kk
  induction kk with
  | zero =>
    intro i item hi 
    have h0 : decide (((i : Nat) : Int) < (((cellsX q.items).length : Nat) : Int)) = false := by simp; omega
    have e0 : (q.items).drop i = [] := List.drop_of_length_le (by omega)
    rw [e0]
    simp only [rtqL]
    refine good_unroll ?_
    cases h1 : cond != 0
    · cases h2 : e.kind == 10
      · cases h3 : e.kind == 8
        · cases h4 : e.kind == 11
          · cases h5 : e.kind == 12
            · exact wkr [sb h0, sc hc, sb h1, sb h2, sb h3, sb h4, sb h5] (by kernel_rfl)
            · exact wkr [sb h0, sc hc, sb h1, sb h2, sb h3, sb h4, sb h5] (by kernel_rfl)
          · exact wkr [sb h0, sc hc, sb h1, sb h2, sb h3, sb h4] (by kernel_rfl)
        · exact wkr [sb h0, sc hc, sb h1, sb h2, sb h3] (by kernel_rfl)
      · cases h6 : !rfits item 1
        · cases h7 : e.kind == 8
          · cases h8 : e.kind == 11
            · cases h9 : e.kind == 12
              · exact wkr [sb h0, sc hc, sb h1, sg h2, sc (k_ref14_fits (item) (1)), sb h6, sb h7, sb h8, sb h9] (by kernel_rfl)
              · exact wkr [sb h0, sc hc, sb h1, sg h2, sc (k_ref14_fits (item) (1)), sb h6, sb h7, sb h8, sb h9] (by kernel_rfl)
            · exact wkr [sb h0, sc hc, sb h1, sg h2, sc (k_ref14_fits (item) (1)), sb h6, sb h7, sb h8] (by kernel_rfl)
          · exact wkr [sb h0, sc hc, sb h1, sg h2, sc (k_ref14_fits (item) (1)), sb h6, sb h7] (by kernel_rfl)
        · exact wkr [sb h0, sc hc, sb h1, sg h2, sc (k_ref14_fits (item) (1)), sb h6] (by kernel_rfl)
    · exact wkr [sb h0, sc hc, sb h1] (by kernel_rfl)
  | succ kk ih =>
    intro i item hi 
    obtain ⟨x, hx⟩ := ex_at (l := q.items) (i := i) (by omega)
    have h0 : decide (((i : Nat) : Int) < (((cellsX q.items).length : Nat) : Int)) = true := by simp; omega
    have hw := wrap_nat i (by first | omega | (simp only [Short, Few] at *; omega))
    have hfx := hf x (List.mem_of_getElem? hx)
    rw [drop_at hx]
    simp only [rtqL]
    refine good_unroll ?_
    cases h1 : (f x).snd != 0
    · exact wkl [sb h0, se (elAt_X hx), sc hfx, sb h1, si hw] [2, 3, 8, 11, 12, 35, 36, 37] 2 (by kernel_rfl) (ih (i + 1) ((f x).fst) (by omega) )
    · exact wkr [sb h0, se (elAt_X hx), sc hfx, sb h1] (by kernel_rfl)
end Go.AM

namespace Go.AM
set_option maxRecDepth 100000
set_option maxHeartbeats 1000000
set_option linter.unusedSimpArgs false
set_option linter.unusedVariables false
/-- Frames with room for n more. -/
structure FsOk (n : Nat) (frs : List Fr) : Prop where
  len : frs.length + n ≤ 1000000
  cols : ∀ f ∈ frs, Short f.cols
  vals : ∀ f ∈ frs, ∀ v ∈ f.vals, v.small
structure TbOk (tb : List Tb) : Prop where
  len : Short tb
  cols : ∀ x ∈ tb, Short x.sch.cols
  rows : ∀ x ∈ tb, x.rows.length ≤ 1000
  vals : ∀ x ∈ tb, ∀ r ∈ x.rows, ∀ v ∈ r.vals, v.small
theorem FsOk.short {n : Nat} {frs : List Fr} (h : FsOk n frs) : Short frs := by have := h.len; simp only [Short]; omega
theorem FsOk.wrap {n : Nat} {frs : List Fr} (h : FsOk n frs) : IntKind.i64.wrap ((((frs.map Fr.cells).length : Nat) : Int) - 1) = pm1 frs.length := wrap_len _ _ h.short
theorem FsOk.less {n : Nat} {frs : List Fr} (h : FsOk (n + 1) frs) : FsOk n frs := ⟨by have := h.len; omega, h.cols, h.vals⟩
def rtqF (f : X → Int × Int) (cond : Int) (e : X) (q : Qy) (frs : List Fr) (tb : List Tb) : Int × Int :=
  bif !(rSource tb q.frm).snd then
    (0, 3)
  else
    rtqL f cond e q (rInside frs (rSource tb q.frm).1 []) tb q.items 0 (1)
theorem k_ref14_typeOfQuery (f : X → Int × Int) (cond : Int) (e : X) (q : Qy) (frs : List Fr) (tb : List Tb) (n : Nat) (hq : e.sub[0]? = some q) (hfo : FsOk n frs) (hto : TbOk tb) (hl : Short q.items) (hf : ∀ x ∈ q.items, Pure S.ref14_Type [x.av, fsl (rInside frs (rSource tb q.frm).1 []), tsl tb] (.tup [iv (f x).1, iv (f x).2])) (hc : Pure S.ref14_Condition [xsl q.wh, fsl (rInside frs (rSource tb q.frm).1 []), tsl tb] (iv cond)) : ACallsTo E0 S.ref14_typeOfQuery [e.av, fsl frs, tsl tb] [] (.tup [iv (rtqF f cond e q frs tb).1, iv (rtqF f cond e q frs tb).2]) [] := by
  unfold rtqF
  cases h1 : !(rSource tb q.frm).snd
  · exact wkc At.ref14_typeOfQuery [se (elAt_Q hq), sc (k_ref14_Source (tb) (q.frm) (by first | assumption | exact hfo.short | exact hto.len | exact hto.cols) (by first | assumption | exact hfo.short | exact hto.len | exact hto.cols)), sb h1, sc (k_ref14_Inside (frs) ((rSource tb q.frm).fst) ([]) (by first | assumption | exact hfo.short | exact hto.len | exact hto.cols))] [2, 3, 8, 11, 12, 35, 36, 37] 2 (by kernel_rfl) (by have ih := k_rtqL_loop f cond e q (rInside frs (rSource tb q.frm).1 []) tb hl hf hc q.items.length 0 (1) (by simp); exact ih)
  · exact wk At.ref14_typeOfQuery [se (elAt_Q hq), sc (k_ref14_Source (tb) (q.frm) (by first | assumption | exact hfo.short | exact hto.len | exact hto.cols) (by first | assumption | exact hfo.short | exact hto.len | exact hto.cols)), sb h1] (by kernel_rfl)
def rtyF0 (f : X → Int × Int) (e : X) (frs : List Fr) (tb : List Tb) : Int × Int :=
  bif !shape e then
    (0, 17)
  else
    bif e.kind == 1 then
      (e.val.kind, 0)
    else
      bif e.kind == 2 then
        bif !(rResolve frs e.table e.name).snd.snd then
          (0, 3)
        else
          ((rCol frs e.table e.name).type, 0)
      else
        rtyL f e frs tb e.args 0 ([])
theorem k_ref14_Type__0 (f : X → Int × Int) (e : X) (frs : List Fr) (tb : List Tb) (n : Nat) (hfo : FsOk n frs) (hl : Short e.args) (hn : decide ((0 : Int) < (((cellsQ e.sub).length : Nat) : Int)) = false) (hf : ∀ x ∈ e.args, Pure S.ref14_Type [x.av, fsl frs, tsl tb] (.tup [iv (f x).1, iv (f x).2])) : ACallsTo E0 S.ref14_Type [e.av, fsl frs, tsl tb] [] (.tup [iv (rtyF0 f e frs tb).1, iv (rtyF0 f e frs tb).2]) [] := by
  unfold rtyF0
  cases h1 : !shape e
  · cases h2 : e.kind == 1
    · cases h3 : e.kind == 2
      · exact wkc At.ref14_Type (c' := (Cfg.mk (L_rtyL f e frs tb 0 []).n (L_rtyL f e frs tb 0 []).todo [(1, AV.sl (List.map Fr.cells frs)), (2, AV.sl (List.map Tb.cells tb)), (3, AV.p 0 0), (11, AV.nl), (60, AV.sl (cellsX e.args)), (61, iv (↑(cellsX e.args).length : Int)), (62, iv 0)] [Blk.box [iv e.kind, iv e.op, bv e.not, iv e.val.kind, iv e.val.int, sv e.val.text, sv e.table, sv e.name, AV.sl (cellsX e.args), AV.sl (cellsQ e.sub)]])) [sc (k_ref11_Shape (e)), sb h1, sb h2, sb h3, sb hn] [1, 2, 3, 11, 60, 61, 62] 1 (by kernel_rfl) (good_ownCut (c' := L_rtyL f e frs tb 0 []) 11 Ty.int [1, 2, 3, 11, 60, 61, 62] 2 (by kernel_rfl) (by kernel_rfl) (by kernel_rfl) (by have ih := k_rtyL_loop f e frs tb hl hf e.args.length 0 ([]) (by simp) (by simp); exact ih))
      · cases h4 : !(rResolve frs e.table e.name).snd.snd
        · exact wk At.ref14_Type [sc (k_ref11_Shape (e)), sb h1, sb h2, sb h3, sc (k_ref14_Resolve (frs) (e.table) (e.name) (by first | assumption | exact hfo.short | exact hfo.cols | exact hfo.wrap | (simp_all; done)) (by first | assumption | exact hfo.short | exact hfo.cols | exact hfo.wrap | (simp_all; done)) (by first | assumption | exact hfo.short | exact hfo.cols | exact hfo.wrap | (simp_all; done))), sb h4, se (el_rFr (frs) (e.table) (e.name) (by first | assumption | exact hfo.short | exact hfo.cols | exact hfo.wrap | (simp_all; done))), se (el_rCol (frs) (e.table) (e.name) (by first | assumption | exact hfo.short | exact hfo.cols | exact hfo.wrap | (simp_all; done)))] (by kernel_rfl)
        · exact wk At.ref14_Type [sc (k_ref11_Shape (e)), sb h1, sb h2, sb h3, sc (k_ref14_Resolve (frs) (e.table) (e.name) (by first | assumption | exact hfo.short | exact hfo.cols | exact hfo.wrap | (simp_all; done)) (by first | assumption | exact hfo.short | exact hfo.cols | exact hfo.wrap | (simp_all; done)) (by first | assumption | exact hfo.short | exact hfo.cols | exact hfo.wrap | (simp_all; done))), sb h4] (by kernel_rfl)
    · exact wk At.ref14_Type [sc (k_ref11_Shape (e)), sb h1, sb h2] (by kernel_rfl)
  · exact wk At.ref14_Type [sc (k_ref11_Shape (e)), sb h1] (by kernel_rfl)
def rtyF1 (tq : Int × Int) (e : X) (frs : List Fr) (tb : List Tb) : Int × Int :=
  bif !shape e then
    (0, 17)
  else
    bif e.kind == 1 then
      (e.val.kind, 0)
    else
      bif e.kind == 2 then
        bif !(rResolve frs e.table e.name).snd.snd then
          (0, 3)
        else
          ((rCol frs e.table e.name).type, 0)
      else
        (tq.fst, tq.snd)
theorem k_ref14_Type__1 (tq : Int × Int) (e : X) (frs : List Fr) (tb : List Tb) (n : Nat) (hfo : FsOk n frs) (hn : decide ((0 : Int) < (((cellsQ e.sub).length : Nat) : Int)) = true) (hq : Pure S.ref14_typeOfQuery [e.av, fsl frs, tsl tb] (.tup [iv tq.1, iv tq.2])) : ACallsTo E0 S.ref14_Type [e.av, fsl frs, tsl tb] [] (.tup [iv (rtyF1 tq e frs tb).1, iv (rtyF1 tq e frs tb).2]) [] := by
  unfold rtyF1
  cases h1 : !shape e
  · cases h2 : e.kind == 1
    · cases h3 : e.kind == 2
      · exact wk At.ref14_Type [sc (k_ref11_Shape (e)), sb h1, sb h2, sb h3, sb hn, sc hq] (by kernel_rfl)
      · cases h4 : !(rResolve frs e.table e.name).snd.snd
        · exact wk At.ref14_Type [sc (k_ref11_Shape (e)), sb h1, sb h2, sb h3, sc (k_ref14_Resolve (frs) (e.table) (e.name) (by first | assumption | exact hfo.short | exact hfo.cols | exact hfo.wrap | (simp_all; done)) (by first | assumption | exact hfo.short | exact hfo.cols | exact hfo.wrap | (simp_all; done)) (by first | assumption | exact hfo.short | exact hfo.cols | exact hfo.wrap | (simp_all; done))), sb h4, se (el_rFr (frs) (e.table) (e.name) (by first | assumption | exact hfo.short | exact hfo.cols | exact hfo.wrap | (simp_all; done))), se (el_rCol (frs) (e.table) (e.name) (by first | assumption | exact hfo.short | exact hfo.cols | exact hfo.wrap | (simp_all; done)))] (by kernel_rfl)
        · exact wk At.ref14_Type [sc (k_ref11_Shape (e)), sb h1, sb h2, sb h3, sc (k_ref14_Resolve (frs) (e.table) (e.name) (by first | assumption | exact hfo.short | exact hfo.cols | exact hfo.wrap | (simp_all; done)) (by first | assumption | exact hfo.short | exact hfo.cols | exact hfo.wrap | (simp_all; done)) (by first | assumption | exact hfo.short | exact hfo.cols | exact hfo.wrap | (simp_all; done))), sb h4] (by kernel_rfl)
    · exact wk At.ref14_Type [sc (k_ref11_Shape (e)), sb h1, sb h2] (by kernel_rfl)
  · exact wk At.ref14_Type [sc (k_ref11_Shape (e)), sb h1] (by kernel_rfl)
end Go.AM

namespace Go.AM
set_option maxRecDepth 100000
set_option maxHeartbeats 1000000
set_option linter.unusedSimpArgs false
set_option linter.unusedVariables false
theorem few_short {α : Type} {l : List α} (h : Few l) : Short l := by simp only [Few] at h; simp only [Short]; omega
def rcondv (f : X → Int × Int) : List X → Int
  | [] => rcond0
  | x :: _ => rcond1 f x
abbrev rIns (frs : List Fr) (tb : List Tb) (q : Qy) : List Fr := rInside frs (rSource tb q.frm).1 []
def rtype : Nat → X → List Fr → List Tb → Int × Int
  | 0, _, _, _ => (0, 0)
  | n + 1, e, frs, tb => match e.sub with
    | [] => rtyF0 (fun x => rtype n x frs tb) e frs tb
    | q :: _ => rtyF1 (rtqF (fun x => rtype n x (rIns frs tb q) tb) (rcondv (fun x => rtype n x (rIns frs tb q) tb) q.wh) e q frs tb) e frs tb
theorem rSource_cols (tb : List Tb) (n : Str) : ∀ (l : List Tb) (i : Nat), (∀ x ∈ l, Short x.sch.cols) → Short (rsrcL tb n l i).1.cols
  | [], i, _ => by simp [rsrcL]
  | x :: r, i, h => by
    simp only [rsrcL, Bool.cond_eq_ite]
    split
    · exact h x (by simp)
    · exact rSource_cols tb n r _ (fun y hy => h y (by simp [hy]))
theorem FsOk.ins {n : Nat} {frs : List Fr} (h : FsOk (n + 1) frs) {tb : List Tb} (ht : TbOk tb) (q : Qy) : FsOk n (rIns frs tb q) := by
  refine ⟨by have := h.len; simp [rInside]; omega, fun f hf => ?_, fun f hf => ?_⟩
  · simp only [rInside, List.mem_append, List.mem_singleton] at hf
    rcases hf with hf | rfl
    · exact h.cols f hf
    · exact rSource_cols tb q.frm tb 0 ht.cols
  · simp only [rInside, List.mem_append, List.mem_singleton] at hf
    rcases hf with hf | rfl
    · exact h.vals f hf
    · intro v hv; cases hv
theorem c_Condition {f : X → Int × Int} {wh : List X} {frs : List Fr} {tb : List Tb} (hf : ∀ x ∈ wh, Pure S.ref14_Type [x.av, fsl frs, tsl tb] (.tup [iv (f x).1, iv (f x).2])) : Pure S.ref14_Condition [xsl wh, fsl frs, tsl tb] (iv (rcondv f wh)) := by
  cases wh with
  | nil => exact k_ref14_Condition__0 frs tb
  | cons x r => exact k_ref14_Condition__1 f x r frs tb (by first | (simp; done) | (simp; omega)) (hf x (by simp))
theorem c_Type : ∀ (n : Nat) (e : X) (frs : List Fr) (tb : List Tb), XOk n e → FsOk n frs → TbOk tb → Pure S.ref14_Type [e.av, fsl frs, tsl tb] (.tup [iv (rtype n e frs tb).1, iv (rtype n e frs tb).2])
  | 0, e, frs, tb, h, _, _ => h.elim
  | n + 1, e, frs, tb, h, hf, ht => by
    obtain ⟨_, ha, hx, hs⟩ := h
    unfold rtype
    cases hsub : e.sub with
    | nil =>
      simp only
      exact k_ref14_Type__0 (fun x => rtype n x frs tb) e frs tb (n + 1) hf (few_short ha) (by simp [hsub]) (fun x hx' => c_Type n x frs tb (hx x hx') hf.less ht)
    | cons q r =>
      simp only
      obtain ⟨h1, h2, h3⟩ := hs q (by simp [hsub])
      refine k_ref14_Type__1 _ e frs tb (n + 1) hf (by first | (simp [hsub]; done) | (simp [hsub]; omega)) ?_
      exact k_ref14_typeOfQuery _ _ e q frs tb (n + 1) (by simp [hsub]) hf ht (few_short h1) (fun x hx' => c_Type n x _ tb (h2 x hx') (hf.ins ht q) ht) (c_Condition fun x hx' => c_Type n x _ tb (h3 x hx') (hf.ins ht q) ht)
end Go.AM

namespace Go.AM
set_option maxRecDepth 100000
set_option maxHeartbeats 1000000
set_option linter.unusedSimpArgs false
set_option linter.unusedVariables false
abbrev uv (n : Int) : AV := .v (.int .u64 n)
theorem vs_one {T : TypeId → TI} {h : Heap} {β : List Con} {w : World} {S : Addr → Prop} {x : Value} {l : List AV} {vs : List Value} (hp : PW (RelV T h β w S) (.v x :: l) vs) : ∃ r, vs = x :: r ∧ PW (RelV T h β w S) l r := by
  cases vs with
  | nil => have := hp.1; simp at this
  | cons y r =>
    have h1 := hp.2 0 _ _ rfl rfl
    exact ⟨r, by rw [h1.v_inv], hp.uncons.2⟩
def add64 (a b c : Int) : Int × Int := ((a + b + c) % 18446744073709551616, (a + b + c) / 18446744073709551616)
theorem k_math_bits_Add64 (a b c : Int) (ha : 0 ≤ a) (hb : 0 ≤ b) (hc : 0 ≤ c ∧ c ≤ 1) : ACallsTo E0 S.math_bits_Add64 [uv a, uv b, uv c] [] (.tup [uv (add64 a b c).1, uv (add64 a b c).2]) [] := by
  intro β S w vs r hp
  obtain ⟨v1, rfl, hp1⟩ := vs_one hp
  obtain ⟨v2, rfl, hp2⟩ := vs_one hp1
  obtain ⟨v3, rfl, hp3⟩ := vs_one hp2
  have h0 : v3 = [] := List.eq_nil_of_length_eq_zero (by have := hp3.1; simpa using this.symm)
  subst h0
  refine .inr ⟨.tuple [.int .u64 (add64 a b c).1, .int .u64 (add64 a b c).2].toArray, w, ?_, ?_⟩
  · have h1 := run_callFunc_extern (e := add64Entry) At.math_bits_Add64 (by kernel_rfl) (by kernel_rfl) (by kernel_rfl) (by kernel_rfl) #[.int .u64 a, .int .u64 b, .int .u64 c] w
    rw [run_add64 a b c ha hb hc.1 hc.2] at h1
    exact h1
  · refine ⟨_, _, β, S, _, rfl, ⟨rfl, rfl⟩, r, Ext.refl _ _ _ _, .tup _ _ rfl fun i x y hx hy => ?_⟩
    match i with
    | 0 => cases hx; cases hy; exact relV_int _ _
    | 1 => cases hx; cases hy; exact relV_int _ _
    | i + 2 => cases hx
abbrev U64 (n : Int) : Prop := 0 ≤ n ∧ n < 18446744073709551616
theorem wrapU (n : Int) : IntKind.u64.wrap n = n % 18446744073709551616 := by simp [IntKind.wrap, IntKind.bits, IntKind.signed]
theorem u64_wrap (n : Int) : U64 (IntKind.u64.wrap n) := by rw [wrapU]; simp only [U64]; omega
theorem add64_u (a b c : Int) (ha : U64 a) (hb : U64 b) (hc : 0 ≤ c ∧ c ≤ 1) : U64 (add64 a b c).1 ∧ 0 ≤ (add64 a b c).2 ∧ (add64 a b c).2 ≤ 1 := by
  simp only [U64, add64] at *; omega
noncomputable def L_sumL (l : List Int) (i : Nat) (high low : Int) : Cfg := loopAt B.arith_Sum 0 [(4, uv high), (5, uv low), (11, isl l), (12, iv ((l.map fun n => [iv n]).length : Nat)), (13, iv (i : Nat))] []
def sumL (l : List Int) : List (Int) → Nat → (Int) → (Int) → Int × Bool
  | [], i, high, low =>
    bif high != IntKind.u64.wrap ((IntKind.i64.wrap low).fdiv (2 ^ min (Int.toNat 63) IntKind.i64.bits)) then
      (0, false)
    else
      (IntKind.i64.wrap low, true)
  | x :: r, i, high, low =>
    sumL l r (i + 1) ((add64 high (IntKind.u64.wrap (x.fdiv (2 ^ min (Int.toNat 63) IntKind.i64.bits))) (add64 low (IntKind.u64.wrap x) 0).snd).fst) ((add64 low (IntKind.u64.wrap x) 0).fst)
theorem k_sumL_loop (l : List Int) (hl : Short l) : ∀ (kk i : Nat) (high low : Int), i + kk = (l).length → U64 high → U64 low → Good E0 B.arith_Sum [] (L_sumL l i high low) (Shut 0 fun r h => r = (.tup [iv (sumL l ((l).drop i) i high low).1, bv (sumL l ((l).drop i) i high low).2]) ∧ h = []) := by
  intro kk
  induction kk with
  | zero =>
    intro i high low hi hh hw2
    have h0 : decide (((i : Nat) : Int) < (((l.map fun n => [iv n]).length : Nat) : Int)) = false := by simp; omega
    have e0 : (l).drop i = [] := List.drop_of_length_le (by omega)
    rw [e0]
    simp only [sumL]
    refine good_unroll ?_
    cases h1 : high != IntKind.u64.wrap ((IntKind.i64.wrap low).fdiv (2 ^ min (Int.toNat 63) IntKind.i64.bits))
    · exact wkr [sb h0, si (e := IntKind.i64.wrap low) rfl, sx (.i ((IntKind.i64.wrap low).fdiv ((2 : Int) ^ min (Int.toNat (63 : Int)) IntKind.i64.bits))) (show (0 : Int) ≤ (63 : Int) ∧ ((IntKind.i64.wrap low).fdiv ((2 : Int) ^ min (Int.toNat (63 : Int)) IntKind.i64.bits) : Int) = (IntKind.i64.wrap low).fdiv ((2 : Int) ^ min (Int.toNat (63 : Int)) IntKind.i64.bits) from ⟨(by simp_all), rfl⟩), si (e := IntKind.u64.wrap ((IntKind.i64.wrap low).fdiv (2 ^ min (Int.toNat 63) IntKind.i64.bits))) rfl, sb h1] (by kernel_rfl)
    · exact wkr [sb h0, si (e := IntKind.i64.wrap low) rfl, sx (.i ((IntKind.i64.wrap low).fdiv ((2 : Int) ^ min (Int.toNat (63 : Int)) IntKind.i64.bits))) (show (0 : Int) ≤ (63 : Int) ∧ ((IntKind.i64.wrap low).fdiv ((2 : Int) ^ min (Int.toNat (63 : Int)) IntKind.i64.bits) : Int) = (IntKind.i64.wrap low).fdiv ((2 : Int) ^ min (Int.toNat (63 : Int)) IntKind.i64.bits) from ⟨(by simp_all), rfl⟩), si (e := IntKind.u64.wrap ((IntKind.i64.wrap low).fdiv (2 ^ min (Int.toNat 63) IntKind.i64.bits))) rfl, sb h1] (by kernel_rfl)
  | succ kk ih =>
    intro i high low hi hh hw2
    obtain ⟨x, hx⟩ := ex_at (l := l) (i := i) (by omega)
    have h0 : decide (((i : Nat) : Int) < (((l.map fun n => [iv n]).length : Nat) : Int)) = true := by simp; omega
    have hw := wrap_nat i (by first | omega | (simp only [Short, Few] at *; omega))
    rw [drop_at hx]
    simp only [sumL]
    refine good_unroll ?_
    exact wkl [sb h0, se (elAt_map (fun n => [iv n]) hx rfl), si (e := IntKind.u64.wrap x) rfl, sc (k_math_bits_Add64 (low) (IntKind.u64.wrap x) (0) (by first | assumption | exact hh.1 | exact hw2.1 | exact (u64_wrap _).1 | omega | exact (add64_u _ _ _ (by assumption) (u64_wrap _) (by omega)).2) (by first | assumption | exact hh.1 | exact hw2.1 | exact (u64_wrap _).1 | omega | exact (add64_u _ _ _ (by assumption) (u64_wrap _) (by omega)).2) (by first | assumption | exact hh.1 | exact hw2.1 | exact (u64_wrap _).1 | omega | exact (add64_u _ _ _ (by assumption) (u64_wrap _) (by omega)).2)), sx (.i (x.fdiv ((2 : Int) ^ min (Int.toNat (63 : Int)) IntKind.i64.bits))) (show (0 : Int) ≤ (63 : Int) ∧ (x.fdiv ((2 : Int) ^ min (Int.toNat (63 : Int)) IntKind.i64.bits) : Int) = x.fdiv ((2 : Int) ^ min (Int.toNat (63 : Int)) IntKind.i64.bits) from ⟨(by simp_all), rfl⟩), si (e := IntKind.u64.wrap (x.fdiv (2 ^ min (Int.toNat 63) IntKind.i64.bits))) rfl, sc (k_math_bits_Add64 (high) (IntKind.u64.wrap (x.fdiv (2 ^ min (Int.toNat 63) IntKind.i64.bits))) ((add64 low (IntKind.u64.wrap x) 0).snd) (by first | assumption | exact hh.1 | exact hw2.1 | exact (u64_wrap _).1 | omega | exact (add64_u _ _ _ (by assumption) (u64_wrap _) (by omega)).2) (by first | assumption | exact hh.1 | exact hw2.1 | exact (u64_wrap _).1 | omega | exact (add64_u _ _ _ (by assumption) (u64_wrap _) (by omega)).2) (by first | assumption | exact hh.1 | exact hw2.1 | exact (u64_wrap _).1 | omega | exact (add64_u _ _ _ (by assumption) (u64_wrap _) (by omega)).2)), si hw] [4, 5, 11, 12, 13] 0 (by kernel_rfl) (ih (i + 1) ((add64 high (IntKind.u64.wrap (x.fdiv (2 ^ min (Int.toNat 63) IntKind.i64.bits))) (add64 low (IntKind.u64.wrap x) 0).snd).fst) ((add64 low (IntKind.u64.wrap x) 0).fst) (by omega) (by first | assumption | exact (add64_u _ _ _ (by assumption) (u64_wrap _) (by first | omega | exact (add64_u _ _ _ (by assumption) (u64_wrap _) (by omega)).2)).1) (by first | assumption | exact (add64_u _ _ _ (by assumption) (u64_wrap _) (by first | omega | exact (add64_u _ _ _ (by assumption) (u64_wrap _) (by omega)).2)).1))
def aSum (l : List Int) : Int × Bool :=
  sumL l l 0 (0) (0)
theorem k_arith_Sum (l : List Int) (hl : Short l) : ACallsTo E0 S.arith_Sum [isl l] [] (.tup [iv (aSum l).1, bv (aSum l).2]) [] := by
  unfold aSum
  exact wkc At.arith_Sum [] [4, 5, 11, 12, 13] 0 (by kernel_rfl) (by have ih := k_sumL_loop l hl l.length 0 (0) (0) (by simp) (by simp only [U64]; omega) (by simp only [U64]; omega); exact ih)
noncomputable def L_esumL (its : List V) (i : Nat) (l : List Int) : Cfg := loopAt B.evaluate_sum 0 [(2, .p 0 0), (4, .own 1 l.length), (9, vsl its), (10, iv ((its.map V.cells).length : Nat)), (11, iv (i : Nat))] [.box [iv 0, iv 0, sv ⟨#[]⟩], .row Ty.int64 (l.map fun n => [iv n]) false]
def esumL (its : List V) : List (V) → Nat → (List Int) → V × Int
  | [], i, l =>
    bif !(aSum l).snd then
      (V.mk 0 0 (ByteArray.mk #[]), 6)
    else
      (V.mk 1 (aSum l).fst (ByteArray.mk #[]), 0)
  | x :: r, i, l =>
    esumL its r (i + 1) (l ++ [x.int])
theorem k_esumL_loop (its : List V) (hl : Short its) : ∀ (kk i : Nat) (l : List Int), i + kk = (its).length → l.length ≤ i → Good E0 B.evaluate_sum [] (L_esumL its i l) (Shut 0 fun r h => r = (.tup [(esumL its ((its).drop i) i l).1.av, iv (esumL its ((its).drop i) i l).2]) ∧ h = []) := by
  intro kk
  induction kk with
  | zero =>
    intro i l hi ho
    have h0 : decide (((i : Nat) : Int) < (((its.map V.cells).length : Nat) : Int)) = false := by simp; omega
    have e0 : (its).drop i = [] := List.drop_of_length_le (by omega)
    rw [e0]
    simp only [esumL]
    refine good_unroll ?_
    cases h1 : !(aSum l).snd
    · exact wkr [sb h0, skx (l.length = (List.map (fun n => [iv n]) l).length ∧ True) [] (k_arith_Sum (l) (by first | assumption | (simp only [Short] at *; omega))), sb h1, sc (k_value_Number ((aSum l).fst))] (by kernel_rfl)
    · exact wkr [sb h0, skx (l.length = (List.map (fun n => [iv n]) l).length ∧ True) [] (k_arith_Sum (l) (by first | assumption | (simp only [Short] at *; omega))), sb h1] (by kernel_rfl)
  | succ kk ih =>
    intro i l hi ho
    obtain ⟨x, hx⟩ := ex_at (l := its) (i := i) (by omega)
    have h0 : decide (((i : Nat) : Int) < (((its.map V.cells).length : Nat) : Int)) = true := by simp; omega
    have hw := wrap_nat i (by first | omega | (simp only [Short, Few] at *; omega))
    rw [drop_at hx]
    simp only [esumL]
    refine good_unroll ?_
    exact wkl (c' := (Cfg.mk (L_esumL its (i + 1) (l ++ [x.int])).n (L_esumL its (i + 1) (l ++ [x.int])).todo [(2, AV.p 0 0), (4, AV.own 1 (List.map (fun n => [iv n]) l ++ [[iv x.int]]).length), (9, AV.sl (List.map V.cells its)), (10, iv (↑(List.map V.cells its).length : Int)), (11, iv (↑(i + 1) : Int))] [Blk.box [iv 0, iv 0, sv (ByteArray.mk #[])], Blk.row 2 (List.map (fun n => [iv n]) l ++ [[iv x.int]]) false])) [sb h0, se (elAt_map (V.cells) hx rfl), sqx (AllLen [[iv x.int]] 1 ∧ l.length = (List.map (fun n => [iv n]) l).length ∧ (((List.map (fun n => [iv n]) l).length + [[iv x.int]].length) * 8).le 140737488355328), si hw] [2, 4, 9, 10, 11] 2 (by kernel_rfl) (good_same (show ([(2, AV.p 0 0), (4, AV.own 1 (List.map (fun n => [iv n]) l ++ [[iv x.int]]).length), (9, AV.sl (List.map V.cells its)), (10, iv (↑(List.map V.cells its).length : Int)), (11, iv (↑(i + 1) : Int))] : TS) = [(2, AV.p 0 0), (4, AV.own 1 (l ++ [x.int]).length), (9, AV.sl (List.map V.cells its)), (10, iv (↑(List.map V.cells its).length : Int)), (11, iv (↑(i + 1) : Int))] by first | rfl | (simp; done) | (simp [X.cells, Qy.cells, V.cells, Col.cells, Rw.cells, Tb.cells, Fr.cells, Sch.cells, Tp.cells, Pl.cells, xCol, xLit, xBin, xNeg]; done)) (show ([Blk.box [iv 0, iv 0, sv (ByteArray.mk #[])], Blk.row 2 (List.map (fun n => [iv n]) l ++ [[iv x.int]]) false] : Heap) = [Blk.box [iv 0, iv 0, sv (ByteArray.mk #[])], Blk.row 2 (List.map (fun n => [iv n]) (l ++ [x.int])) false] by first | rfl | (simp; done) | (simp [X.cells, Qy.cells, V.cells, Col.cells, Rw.cells, Tb.cells, Fr.cells, Sch.cells, Tp.cells, Pl.cells, xCol, xLit, xBin, xNeg]; done)) (ih (i + 1) (l ++ [x.int]) (by omega) (by first | assumption | (simp; done) | (simp; omega) | omega | (simp at *; omega))))
def eSum (its : List V) : V × Int :=
  esumL its its 0 ([])
theorem k_evaluate_sum (its : List V) (hl : Short its) : ACallsTo E0 S.evaluate_sum [vsl its] [] (.tup [(eSum its).1.av, iv (eSum its).2]) [] := by
  unfold eSum
  exact wkc At.evaluate_sum (c' := (Cfg.mk (L_esumL its 0 []).n (L_esumL its 0 []).todo [(2, AV.p 0 0), (4, AV.nl), (9, AV.sl (List.map V.cells its)), (10, iv (↑(List.map V.cells its).length : Int)), (11, iv 0)] [Blk.box [iv 0, iv 0, sv (ByteArray.mk #[])]])) [] [2, 4, 9, 10, 11] 1 (by kernel_rfl) (good_ownCut (c' := L_esumL its 0 []) 4 Ty.int64 [2, 4, 9, 10, 11] 2 (by kernel_rfl) (by kernel_rfl) (by kernel_rfl) (by have ih := k_esumL_loop its hl its.length 0 ([]) (by simp) (by simp); exact ih))
end Go.AM

namespace Go.AM
set_option maxRecDepth 100000
set_option maxHeartbeats 1000000
set_option linter.unusedSimpArgs false
set_option linter.unusedVariables false
noncomputable def L_minL (l : List V) (i : Nat) (m : V) : Cfg := loopAt B.slices_MinFunc_Value 0 [(0, vsl l), (1, .fn S.value_Compare []), (4, .p 0 0), (5, .p 1 0), (6, iv (i : Nat))] [.box [iv 0, iv 0, sv ⟨#[]⟩], .box m.cells]
def minL (l : List V) : List (V) → Nat → (V) → V
  | [], i, m =>
    m
  | x :: r, i, m =>
    bif decide (cmpV x m < 0) then
      minL l r (i + 1) (x)
    else
      minL l r (i + 1) (m)
theorem k_minL_loop (l : List V) (hl : Short l) : ∀ (kk i : Nat) (m : V), i + kk = (l).length → Good E0 B.slices_MinFunc_Value [] (L_minL l i m) (Shut 0 fun r h => r = ((minL l ((l).drop i) i m).av) ∧ h = []) := by
  intro kk
  induction kk with
  | zero =>
    intro i m hi 
    have h0 : decide (((i : Nat) : Int) < (((l.map V.cells).length : Nat) : Int)) = false := by simp; omega
    have e0 : (l).drop i = [] := List.drop_of_length_le (by omega)
    rw [e0]
    simp only [minL]
    refine good_unroll ?_
    exact wkr [sb h0] (by kernel_rfl)
  | succ kk ih =>
    intro i m hi 
    obtain ⟨x, hx⟩ := ex_at (l := l) (i := i) (by omega)
    have h0 : decide (((i : Nat) : Int) < (((l.map V.cells).length : Nat) : Int)) = true := by simp; omega
    have hw := wrap_nat i (by first | omega | (simp only [Short, Few] at *; omega))
    rw [drop_at hx]
    simp only [minL]
    refine good_unroll ?_
    cases h1 : decide (cmpV x m < 0)
    · exact wkl [sb h0, sd [(3, [se (elAt_map (V.cells) hx rfl)]), (6, [sc (k_value_Compare (x) (m))])], sb h1, si hw] [0, 1, 4, 5, 6] 2 (by kernel_rfl) (ih (i + 1) (m) (by omega) )
    · exact wkl [sb h0, sd [(3, [se (elAt_map (V.cells) hx rfl)]), (6, [sc (k_value_Compare (x) (m))])], sb h1, se (elAt_map (V.cells) hx rfl), si hw] [0, 1, 4, 5, 6] 2 (by kernel_rfl) (ih (i + 1) (x) (by omega) )
def minV (l : List V) : V :=
  minL l (l.drop 1) 1 (l.headD V.null)
theorem k_slices_MinFunc_Value (l : List V) (hl : Short l) (hy : l[0]? = some (l.headD V.null)) (hn : decide (((((l.map V.cells).length : Nat) : Int)) < 1) = false) : ACallsTo E0 S.slices_MinFunc_Value [vsl l, .fn S.value_Compare []] [] ((minV l).av) [] := by
  unfold minV
  exact wkc At.slices_MinFunc_Value [sb hn, se (elAt_map (V.cells) hy rfl)] [0, 1, 4, 5, 6] 2 (by kernel_rfl) (by have hlt := at_lt hy; have ih := k_minL_loop l hl (l.length - 1) 1 (l.headD V.null) (by omega); exact ih)
noncomputable def L_maxL (l : List V) (i : Nat) (m : V) : Cfg := loopAt B.slices_MaxFunc_Value 0 [(0, vsl l), (1, .fn S.value_Compare []), (4, .p 0 0), (5, .p 1 0), (6, iv (i : Nat))] [.box [iv 0, iv 0, sv ⟨#[]⟩], .box m.cells]
def maxL (l : List V) : List (V) → Nat → (V) → V
  | [], i, m =>
    m
  | x :: r, i, m =>
    bif decide (0 < cmpV x m) then
      maxL l r (i + 1) (x)
    else
      maxL l r (i + 1) (m)
theorem k_maxL_loop (l : List V) (hl : Short l) : ∀ (kk i : Nat) (m : V), i + kk = (l).length → Good E0 B.slices_MaxFunc_Value [] (L_maxL l i m) (Shut 0 fun r h => r = ((maxL l ((l).drop i) i m).av) ∧ h = []) := by
  intro kk
  induction kk with
  | zero =>
    intro i m hi 
    have h0 : decide (((i : Nat) : Int) < (((l.map V.cells).length : Nat) : Int)) = false := by simp; omega
    have e0 : (l).drop i = [] := List.drop_of_length_le (by omega)
    rw [e0]
    simp only [maxL]
    refine good_unroll ?_
    exact wkr [sb h0] (by kernel_rfl)
  | succ kk ih =>
    intro i m hi 
    obtain ⟨x, hx⟩ := ex_at (l := l) (i := i) (by omega)
    have h0 : decide (((i : Nat) : Int) < (((l.map V.cells).length : Nat) : Int)) = true := by simp; omega
    have hw := wrap_nat i (by first | omega | (simp only [Short, Few] at *; omega))
    rw [drop_at hx]
    simp only [maxL]
    refine good_unroll ?_
    cases h1 : decide (0 < cmpV x m)
    · exact wkl [sb h0, sd [(3, [se (elAt_map (V.cells) hx rfl)]), (6, [sc (k_value_Compare (x) (m))])], sb h1, si hw] [0, 1, 4, 5, 6] 2 (by kernel_rfl) (ih (i + 1) (m) (by omega) )
    · exact wkl [sb h0, sd [(3, [se (elAt_map (V.cells) hx rfl)]), (6, [sc (k_value_Compare (x) (m))])], sb h1, se (elAt_map (V.cells) hx rfl), si hw] [0, 1, 4, 5, 6] 2 (by kernel_rfl) (ih (i + 1) (x) (by omega) )
def maxV (l : List V) : V :=
  maxL l (l.drop 1) 1 (l.headD V.null)
theorem k_slices_MaxFunc_Value (l : List V) (hl : Short l) (hy : l[0]? = some (l.headD V.null)) (hn : decide (((((l.map V.cells).length : Nat) : Int)) < 1) = false) : ACallsTo E0 S.slices_MaxFunc_Value [vsl l, .fn S.value_Compare []] [] ((maxV l).av) [] := by
  unfold maxV
  exact wkc At.slices_MaxFunc_Value [sb hn, se (elAt_map (V.cells) hy rfl)] [0, 1, 4, 5, 6] 2 (by kernel_rfl) (by have hlt := at_lt hy; have ih := k_maxL_loop l hl (l.length - 1) 1 (l.headD V.null) (by omega); exact ih)
def eTrue1 (f : X → V × Int) (x : X) : Bool × Int :=
  bif (f x).snd == 0 then
    bif !lvalid (f x).fst then
      (false, 5)
    else
      (isTrue (f x).fst, (f x).snd)
  else
    (false, (f x).snd)
theorem k_evaluate_True__1 (f : X → V × Int) (x : X) (r : List X) (frs : List Fr) (tb : List Tb) (hf : Pure S.evaluate_Value [x.av, fsl frs, tsl tb] (.tup [(f x).1.av, iv (f x).2])) (hs : (f x).1.small) : ACallsTo E0 S.evaluate_True [xsl (x :: r), fsl frs, tsl tb] [] (.tup [bv (eTrue1 f x).1, iv (eTrue1 f x).2]) [] := by
  unfold eTrue1
  cases h1 : (f x).snd == 0
  · exact wk At.evaluate_True [sb (rfl : false = false), se (elAt_X (l := x :: r) (i := 0) (x := x) rfl), sc hf, sb h1, sb h1] (by kernel_rfl)
  · cases h2 : !lvalid (f x).fst
    · exact wk At.evaluate_True [sb (rfl : false = false), se (elAt_X (l := x :: r) (i := 0) (x := x) rfl), sc hf, sg h1, sc (k_logic_Valid ((f x).fst) (by first | assumption | omega | (simp; done) | (simp; omega))), sb h2, sg h1, sc (k_logic_IsTrue ((f x).fst))] (by kernel_rfl)
    · exact wk At.evaluate_True [sb (rfl : false = false), se (elAt_X (l := x :: r) (i := 0) (x := x) rfl), sc hf, sg h1, sc (k_logic_Valid ((f x).fst) (by first | assumption | omega | (simp; done) | (simp; omega))), sb h2, sb (rfl : false = false)] (by kernel_rfl)
def eTrue0  : Bool × Int :=
  (true, 0)
theorem k_evaluate_True__0  (frs : List Fr) (tb : List Tb) : ACallsTo E0 S.evaluate_True [xsl [], fsl frs, tsl tb] [] (.tup [bv eTrue0.1, iv eTrue0.2]) [] := by
  exact wk At.evaluate_True [sb (rfl : true = true)] (by kernel_rfl)
noncomputable def clC (frs : List Fr) : Cfg := (upto (mk E0) (List.range 40) 0 3000 ⟨B.slices_Clone_Frame.ntmps, [.code (B.slices_Clone_Frame.body.getD .skip)], argTS 0 [fsl frs], []⟩ []).2
theorem clone_f (frs : List Fr) (hl : Short frs) : Good E0 B.slices_Clone_Frame [] (nilBack (clC frs) false) (fun r h => r = .own 0 frs.length ∧ h = [.row Ty.Frame (frs.map Fr.cells) false]) := by
  exact toRetK E0ok mix0 3000 (y := AV.own (0 : Nat) (List.map Fr.cells frs).length) (H := [Blk.row (58 : Nat) (List.map Fr.cells frs) false]) [sb (rfl : false = false), sq (show AllLen (List.map Fr.cells frs) (4 : Nat) ∧ ((List.map Fr.cells frs).length * (72 : Nat)).le (140737488355328 : Nat) by first | assumption | (simp; done) | (simp; omega) | omega | rfl | (refine ⟨⟨by simp⟩, ?_⟩; first | (simp; done) | (simp; omega) | omega) | (refine ⟨⟨by simp⟩, ?_, ?_⟩ <;> first | (simp; done) | (simp; omega) | omega))] (by kernel_rfl) (⟨by first | rfl | (simp; done), rfl⟩)
theorem clone_t : Good E0 B.slices_Clone_Frame [] (nilBack (clC []) true) (fun r h => r = .nl ∧ h = []) := by
  exact toRetK E0ok mix0 3000 (y := AV.nl) (H := []) [sb (rfl : true = true)] (by kernel_rfl) (⟨rfl, rfl⟩)
end Go.AM
