/-
  Contracts: the rows of a query.
-/
import Derived.Test.YtkibinkahpgboaaDoorUEc
import Derived.Lib.Bytealg
namespace Go.AM
set_option maxRecDepth 100000
set_option maxHeartbeats 1000000
set_option linter.unusedSimpArgs false
set_option linter.unusedVariables false
theorem wkS {f : FuncId} {fn : Func} {args : List AV} {h H H' : Heap} {r y : AV} (hf : E0.P.funcs[f]? = some fn) (l : List St) (hfin : runF fn args h (orcs l) = some (props l, y, H)) (e : y = r ∧ H = H') : ACallsTo E0 f args h r H' := by
  obtain ⟨rfl, rfl⟩ := e
  exact wk hf l hfin
theorem wkrS {fn : Func} {h0 : Heap} {c : Cfg} {r y : AV} {H H' : Heap} {m : Nat} (l : List St) (hfin : fin (mk E0) fn m 3000 c (orcs l) = some (props l, y, H)) (e : y = r ∧ H = H') : Good E0 fn h0 c (Shut m fun y h => y = r ∧ h = H') := by
  obtain ⟨rfl, rfl⟩ := e
  exact wkr l hfin
noncomputable def clCV (l : List V) : Cfg := (upto (mk E0) (List.range 40) 0 3000 ⟨B.slices_Clone_Value.ntmps, [.code (B.slices_Clone_Value.body.getD .skip)], argTS 0 [vsl l], []⟩ []).2
theorem cloneV_f (l : List V) (hl : Short l) : Good E0 B.slices_Clone_Value [] (nilBack (clCV l) false) (fun r h => r = .own 0 l.length ∧ h = [.row Ty.Value (l.map V.cells) false]) := by
  exact toRetK E0ok mix0 3000 (y := AV.own 0 (List.map V.cells l).length) (H := [Blk.row Ty.Value (List.map V.cells l) false]) [sb (rfl : false = false), sqx (AllLen (List.map V.cells l) 3 ∧ ((List.map V.cells l).length * 32).le 140737488355328)] (by kernel_rfl) (⟨by simp, rfl⟩)
theorem cloneV_t : Good E0 B.slices_Clone_Value [] (nilBack (clCV []) true) (fun r h => r = .nl ∧ h = []) := by
  exact toRetK E0ok mix0 3000 (y := AV.nl) (H := []) [sb (rfl : true = true)] (by kernel_rfl) (⟨rfl, rfl⟩)
theorem k_slices_Clone_Value (l : List V) (hl : Short l) : ACallsTo E0 S.slices_Clone_Value [vsl l] [] (.own 0 l.length) [.row Ty.Value (l.map V.cells) false] := by
  refine acalls_of_good At.slices_Clone_Value rfl (by kernel_rfl) (Nat.le_of_ble_eq_true (by kernel_rfl)) (toLoop E0ok mix0 3000 [] (List.range 40) 0 (c' := clCV l) (by kernel_rfl) (by kernel_rfl) (good_nil E0ok (xs := l.map V.cells) (e := true) (by kernel_rfl) fun b hb => ?_))
  cases b with
  | false => exact cloneV_f l hl
  | true =>
    cases l with
    | nil => exact good_retOwn Ty.Value cloneV_t ⟨rfl, rfl⟩
    | cons x r => exact absurd (hb (by simp)) (by simp)
abbrev vrow (v : List V) : List AV := [vsl v]
/-- The variables that the closure of Rows shares. -/
abbrev RH (q : Qy) (tb : List Tb) (out : List (List V)) : Heap := [.box q.cells, .box [.own 2 out.length], .row Ty.LValue (out.map vrow) false, .box [tsl tb]]
noncomputable def L_rowL (f : X → V × Int) (q : Qy) (w : List Fr) (tb : List Tb) (out : List (List V)) (i : Nat) (row : List V) : Cfg := loopAt B.evaluate_Rows_c1 0 [(1, fsl w), (3, .p 1 0), (4, .p 3 0), (8, .own 4 row.length), (22, xsl q.items), (23, iv ((cellsX q.items).length : Nat)), (24, iv (i : Nat))] (RH q tb out ++ [.row Ty.Value (row.map V.cells) false])
def rowL (f : X → V × Int) (q : Qy) (w : List Fr) (tb : List Tb) (out : List (List V)) : List (X) → Nat → (List V) → Int × (List (List V))
  | [], i, row =>
    (0, out ++ [row])
  | x :: r, i, row =>
    bif (f x).snd != 0 then
      ((f x).snd, out)
    else
      rowL f q w tb out r (i + 1) (row ++ [(f x).fst])
theorem k_rowL_loop (f : X → V × Int) (q : Qy) (w : List Fr) (tb : List Tb) (out : List (List V)) (hl : q.items.length ≤ 1000) (hout : out.length ≤ 2000000) (hf : ∀ x ∈ q.items, Pure S.evaluate_Value [x.av, fsl w, tsl tb] (.tup [(f x).1.av, iv (f x).2])) : ∀ (kk i : Nat) (row : List V), i + kk = (q.items).length → (row.length ≤ i) → Good E0 B.evaluate_Rows_c1 (RH q tb out) (L_rowL f q w tb out i row) (Shut 4 fun r h => r = (iv (rowL f q w tb out ((q.items).drop i) i row).1) ∧ h = (RH q tb (rowL f q w tb out ((q.items).drop i) i row).2)) := by
  intro kk
  induction kk with
  | zero =>
    intro i row hi ho
    have h0 : decide (((i : Nat) : Int) < (((cellsX q.items).length : Nat) : Int)) = false := by simp; omega
    have e0 : (q.items).drop i = [] := List.drop_of_length_le (by omega)
    rw [e0]
    simp only [rowL]
    refine good_unroll ?_
    exact wkrS (y := iv 0) (H := [Blk.box [bv q.star, AV.sl (cellsX q.items), sv q.frm, AV.sl (cellsX q.wh)], Blk.box [AV.own 2 (List.map vrow out ++ [[AV.sl (List.map V.cells row)]]).length], Blk.row 56 (List.map vrow out ++ [[AV.sl (List.map V.cells row)]]) false, Blk.box [AV.sl (List.map Tb.cells tb)]]) [sb h0, sqx (row.length = (List.map V.cells row).length ∧ True), sqx (AllLen [[AV.sl (List.map V.cells row)]] 1 ∧ out.length = (List.map vrow out).length ∧ (((List.map vrow out).length + [[AV.sl (List.map V.cells row)]].length) * 24).le 140737488355328)] (by kernel_rfl) ⟨by first | rfl | (simp; done) | (simp [X.cells, Qy.cells, V.cells, Col.cells, Rw.cells, Tb.cells, Fr.cells, Sch.cells, Tp.cells, Pl.cells, xCol, xLit, xBin, xNeg]; done), by first | rfl | (simp; done) | (simp [X.cells, Qy.cells, V.cells, Col.cells, Rw.cells, Tb.cells, Fr.cells, Sch.cells, Tp.cells, Pl.cells, xCol, xLit, xBin, xNeg]; done)⟩
  | succ kk ih =>
    intro i row hi ho
    obtain ⟨x, hx⟩ := ex_at (l := q.items) (i := i) (by omega)
    have h0 : decide (((i : Nat) : Int) < (((cellsX q.items).length : Nat) : Int)) = true := by simp; omega
    have hw := wrap_nat i (by first | omega | (simp only [Short, Few] at *; omega))
    have hfx := hf x (List.mem_of_getElem? hx); have hrl : row.length ≤ 1000 := by have := at_lt hx; omega
    rw [drop_at hx]
    simp only [rowL]
    refine good_unroll ?_
    cases h1 : (f x).snd != 0
    · exact wkl (c' := (Cfg.mk (L_rowL f q w tb out (i + 1) (row ++ [(f x).fst])).n (L_rowL f q w tb out (i + 1) (row ++ [(f x).fst])).todo [(1, AV.sl (List.map Fr.cells w)), (3, AV.p 1 0), (4, AV.p 3 0), (8, AV.own 4 (List.map V.cells row ++ [[iv (f x).fst.kind, iv (f x).fst.int, sv (f x).fst.text]]).length), (22, AV.sl (cellsX q.items)), (23, iv (↑(cellsX q.items).length : Int)), (24, iv (↑(i + 1) : Int))] [Blk.box [bv q.star, AV.sl (cellsX q.items), sv q.frm, AV.sl (cellsX q.wh)], Blk.box [AV.own 2 out.length], Blk.row 56 (List.map vrow out) false, Blk.box [AV.sl (List.map Tb.cells tb)], Blk.row 24 (List.map V.cells row ++ [[iv (f x).fst.kind, iv (f x).fst.int, sv (f x).fst.text]]) false])) [sb h0, se (elAt_X hx), sc hfx, sb h1, sqx (AllLen [[iv (f x).fst.kind, iv (f x).fst.int, sv (f x).fst.text]] 3 ∧ row.length = (List.map V.cells row).length ∧ (((List.map V.cells row).length + [[iv (f x).fst.kind, iv (f x).fst.int, sv (f x).fst.text]].length) * 32).le 140737488355328), si hw] [1, 3, 4, 8, 22, 23, 24] 5 (by kernel_rfl) (good_same (show ([(1, AV.sl (List.map Fr.cells w)), (3, AV.p 1 0), (4, AV.p 3 0), (8, AV.own 4 (List.map V.cells row ++ [[iv (f x).fst.kind, iv (f x).fst.int, sv (f x).fst.text]]).length), (22, AV.sl (cellsX q.items)), (23, iv (↑(cellsX q.items).length : Int)), (24, iv (↑(i + 1) : Int))] : TS) = [(1, AV.sl (List.map Fr.cells w)), (3, AV.p 1 0), (4, AV.p 3 0), (8, AV.own 4 (row ++ [(f x).fst]).length), (22, AV.sl (cellsX q.items)), (23, iv (↑(cellsX q.items).length : Int)), (24, iv (↑(i + 1) : Int))] by first | rfl | (simp; done) | (simp [X.cells, Qy.cells, V.cells, Col.cells, Rw.cells, Tb.cells, Fr.cells, Sch.cells, Tp.cells, Pl.cells, xCol, xLit, xBin, xNeg]; done)) (show ([Blk.box [bv q.star, AV.sl (cellsX q.items), sv q.frm, AV.sl (cellsX q.wh)], Blk.box [AV.own 2 out.length], Blk.row 56 (List.map vrow out) false, Blk.box [AV.sl (List.map Tb.cells tb)], Blk.row 24 (List.map V.cells row ++ [[iv (f x).fst.kind, iv (f x).fst.int, sv (f x).fst.text]]) false] : Heap) = [Blk.box [bv q.star, AV.sl (cellsX q.items), sv q.frm, AV.sl (cellsX q.wh)], Blk.box [AV.own 2 out.length], Blk.row 56 (List.map vrow out) false, Blk.box [AV.sl (List.map Tb.cells tb)], Blk.row 24 (List.map V.cells (row ++ [(f x).fst])) false] by first | rfl | (simp; done) | (simp [X.cells, Qy.cells, V.cells, Col.cells, Rw.cells, Tb.cells, Fr.cells, Sch.cells, Tp.cells, Pl.cells, xCol, xLit, xBin, xNeg]; done)) (ih (i + 1) (row ++ [(f x).fst]) (by omega) (by first | assumption | (simp; done) | (simp; omega) | omega | (simp at *; omega))))
    · exact wkr [sb h0, se (elAt_X hx), sc hfx, sb h1] (by kernel_rfl)
def rowC (f : X → V × Int) (q : Qy) (w : List Fr) (tb : List Tb) (rw : Rw) (out : List (List V)) : Int × (List (List V)) :=
  bif q.star then
    (0, out ++ [rw.vals])
  else
    rowL f q w tb out q.items 0 ([])
theorem k_evaluate_Rows_c1 (f : X → V × Int) (q : Qy) (w : List Fr) (tb : List Tb) (rw : Rw) (out : List (List V)) (hl : q.items.length ≤ 1000) (hv : Short rw.vals) (hout : out.length ≤ 2000000) (hf : ∀ x ∈ q.items, Pure S.evaluate_Value [x.av, fsl w, tsl tb] (.tup [(f x).1.av, iv (f x).2])) : ACallsTo E0 S.evaluate_Rows_c1 [.agg (Rw.cells rw), fsl w, .p 0 0, .p 1 0, .p 3 0] (RH q tb out) (iv (rowC f q w tb rw out).1) (RH q tb (rowC f q w tb rw out).2) := by
  unfold rowC
  cases h1 : q.star
  · exact wkc At.evaluate_Rows_c1 (c' := (Cfg.mk (L_rowL f q w tb out 0 []).n (L_rowL f q w tb out 0 []).todo [(1, AV.sl (List.map Fr.cells w)), (3, AV.p 1 0), (4, AV.p 3 0), (8, AV.nl), (22, AV.sl (cellsX q.items)), (23, iv (↑(cellsX q.items).length : Int)), (24, iv 0)] [Blk.box [bv q.star, AV.sl (cellsX q.items), sv q.frm, AV.sl (cellsX q.wh)], Blk.box [AV.own 2 out.length], Blk.row 56 (List.map vrow out) false, Blk.box [AV.sl (List.map Tb.cells tb)]])) [sb h1] [1, 3, 4, 8, 22, 23, 24] 4 (by kernel_rfl) (good_ownCut (c' := L_rowL f q w tb out 0 []) 8 Ty.Value [1, 3, 4, 8, 22, 23, 24] 5 (by kernel_rfl) (by kernel_rfl) (by kernel_rfl) (k_rowL_loop f q w tb out hl hout hf q.items.length 0 ([]) (by simp) (by simp)))
  · exact wkS At.evaluate_Rows_c1 (y := iv 0) (H := [Blk.box [bv q.star, AV.sl (cellsX q.items), sv q.frm, AV.sl (cellsX q.wh)], Blk.box [AV.own 2 (List.map vrow out ++ [[AV.sl (List.map V.cells rw.vals)]]).length], Blk.row 56 (List.map vrow out ++ [[AV.sl (List.map V.cells rw.vals)]]) false, Blk.box [AV.sl (List.map Tb.cells tb)]]) [sb h1, sd [(3, [sc (k_slices_Clone_Value (rw.vals) (by first | assumption | omega | (simp; done) | (simp; omega)))]), (4, [sqx (rw.vals.length = (List.map V.cells rw.vals).length ∧ True)]), (5, [sqx (AllLen [[AV.sl (List.map V.cells rw.vals)]] 1 ∧ out.length = (List.map vrow out).length ∧ (((List.map vrow out).length + [[AV.sl (List.map V.cells rw.vals)]].length) * 24).le 140737488355328)])]] (by kernel_rfl) ⟨by first | rfl | (simp; done) | (simp [X.cells, Qy.cells, V.cells, Col.cells, Rw.cells, Tb.cells, Fr.cells, Sch.cells, Tp.cells, Pl.cells, xCol, xLit, xBin, xNeg]; done), by first | rfl | (simp; done) | (simp [X.cells, Qy.cells, V.cells, Col.cells, Rw.cells, Tb.cells, Fr.cells, Sch.cells, Tp.cells, Pl.cells, xCol, xLit, xBin, xNeg]; done)⟩
noncomputable def L_selB (tr : Rw → Bool × Int) (g : Rw → List (List V) → Int × List (List V)) (q : Qy) (frs : List Fr) (tb : List Tb) (t : Tb) (out0 : List (List V)) (i : Nat) (out : List (List V)) : Cfg := loopAt B.evaluate_selected 0 [(1, fsl frs), (2, tsl tb), (3, .fn S.evaluate_Rows_c1 [.p 0 0, .p 1 0, .p 3 0]), (4, .p 4 0), (9, .p 5 0), (26, .sl (t.rows.map Rw.cells)), (27, iv ((t.rows.map Rw.cells).length : Nat)), (28, iv (i : Nat))] (RH q tb out ++ [.box q.cells, .box t.cells])
def selB (tr : Rw → Bool × Int) (g : Rw → List (List V) → Int × List (List V)) (q : Qy) (frs : List Fr) (tb : List Tb) (t : Tb) (out0 : List (List V)) : List (Rw) → Nat → (List (List V)) → Int × (List (List V))
  | [], i, out =>
    (0, out)
  | x :: r, i, out =>
    bif (tr x).snd == 0 then
      bif (tr x).fst then
        bif (g x out).fst != 0 then
          ((g x out).fst, (g x out).snd)
        else
          selB tr g q frs tb t out0 r (i + 1) ((g x out).snd)
      else
        bif (tr x).snd != 0 then
          ((tr x).snd, out)
        else
          selB tr g q frs tb t out0 r (i + 1) (out)
    else
      bif (tr x).snd != 0 then
        ((tr x).snd, out)
      else
        selB tr g q frs tb t out0 r (i + 1) (out)
theorem k_selB_loop (tr : Rw → Bool × Int) (g : Rw → List (List V) → Int × List (List V)) (q : Qy) (frs : List Fr) (tb : List Tb) (t : Tb) (out0 : List (List V)) (hfr : Short frs) (hrows : t.rows.length ≤ 1000) (hi0 : out0.length ≤ 1000) (hgl : ∀ (r : Rw) (out : List (List V)), (g r out).2.length ≤ out.length + 1) (hT : ∀ r ∈ t.rows, Pure S.evaluate_True [xsl q.wh, fsl (eInside frs t r.vals), tsl tb] (.tup [bv (tr r).1, iv (tr r).2])) (hC : ∀ r ∈ t.rows, ∀ (out : List (List V)), out.length ≤ 2000000 → ACallsTo E0 S.evaluate_Rows_c1 [.agg (Rw.cells r), fsl (eInside frs t r.vals), .p 0 0, .p 1 0, .p 3 0] (RH q tb out) (iv (g r out).1) (RH q tb (g r out).2)) : ∀ (kk i : Nat) (out : List (List V)), i + kk = (t.rows).length → (out.length ≤ out0.length + i) → Good E0 B.evaluate_selected (RH q tb out0) (L_selB tr g q frs tb t out0 i out) (Shut 4 fun r h => r = (iv (selB tr g q frs tb t out0 ((t.rows).drop i) i out).1) ∧ h = (RH q tb (selB tr g q frs tb t out0 ((t.rows).drop i) i out).2)) := by
  intro kk
  induction kk with
  | zero =>
    intro i out hi hi2
    have h0 : decide (((i : Nat) : Int) < (((t.rows.map Rw.cells).length : Nat) : Int)) = false := by simp; omega
    have e0 : (t.rows).drop i = [] := List.drop_of_length_le (by omega)
    rw [e0]
    simp only [selB]
    refine good_unroll ?_
    exact wkr [sb h0] (by kernel_rfl)
  | succ kk ih =>
    intro i out hi hi2
    obtain ⟨x, hx⟩ := ex_at (l := t.rows) (i := i) (by omega)
    have h0 : decide (((i : Nat) : Int) < (((t.rows.map Rw.cells).length : Nat) : Int)) = true := by simp; omega
    have hw := wrap_nat i (by first | omega | (simp only [Short, Few] at *; omega))
    have hTx := hT x (List.mem_of_getElem? hx); have hCx := hC x (List.mem_of_getElem? hx) out (by omega)
    rw [drop_at hx]
    simp only [selB]
    refine good_unroll ?_
    cases h1 : (tr x).snd == 0
    · cases h2 : (tr x).snd != 0
      · exact wkl [sb h0, se (elAt_map (Rw.cells) hx rfl), sc (k_evaluate_inside (frs) (t) (x.vals) (by first | assumption | omega | (simp; done) | (simp; omega))), sc hTx, sb h1, sb h2, si hw] [1, 2, 3, 4, 9, 26, 27, 28] 6 (by kernel_rfl) (ih (i + 1) (out) (by omega) (by first | omega | (have := hgl x out; omega)))
      · exact wkr [sb h0, se (elAt_map (Rw.cells) hx rfl), sc (k_evaluate_inside (frs) (t) (x.vals) (by first | assumption | omega | (simp; done) | (simp; omega))), sc hTx, sb h1, sb h2] (by kernel_rfl)
    · cases h3 : (tr x).fst
      · cases h4 : (tr x).snd != 0
        · exact wkl [sb h0, se (elAt_map (Rw.cells) hx rfl), sc (k_evaluate_inside (frs) (t) (x.vals) (by first | assumption | omega | (simp; done) | (simp; omega))), sc hTx, sg h1, sb h3, sb h4, si hw] [1, 2, 3, 4, 9, 26, 27, 28] 6 (by kernel_rfl) (ih (i + 1) (out) (by omega) (by first | omega | (have := hgl x out; omega)))
        · exact wkr [sb h0, se (elAt_map (Rw.cells) hx rfl), sc (k_evaluate_inside (frs) (t) (x.vals) (by first | assumption | omega | (simp; done) | (simp; omega))), sc hTx, sg h1, sb h3, sb h4] (by kernel_rfl)
      · cases h5 : (g x out).fst != 0
        · exact wkl [sb h0, se (elAt_map (Rw.cells) hx rfl), sc (k_evaluate_inside (frs) (t) (x.vals) (by first | assumption | omega | (simp; done) | (simp; omega))), sc hTx, sg h1, sb h3, sl [0, 1, 2, 3] hCx, sb h5, si hw] [1, 2, 3, 4, 9, 26, 27, 28] 6 (by kernel_rfl) (ih (i + 1) ((g x out).snd) (by omega) (by first | omega | (have := hgl x out; omega)))
        · exact wkr [sb h0, se (elAt_map (Rw.cells) hx rfl), sc (k_evaluate_inside (frs) (t) (x.vals) (by first | assumption | omega | (simp; done) | (simp; omega))), sc hTx, sg h1, sb h3, sl [0, 1, 2, 3] hCx, sb h5] (by kernel_rfl)
def eSelB (tr : Rw → Bool × Int) (g : Rw → List (List V) → Int × List (List V)) (q : Qy) (frs : List Fr) (tb : List Tb) (t : Tb) (out0 : List (List V)) : Int × (List (List V)) :=
  selB tr g q frs tb t out0 t.rows (0) (out0)
theorem k_evaluate_selected__b1 (tr : Rw → Bool × Int) (g : Rw → List (List V) → Int × List (List V)) (q : Qy) (frs : List Fr) (tb : List Tb) (t : Tb) (out0 : List (List V)) (hfind : Pure S.evaluate_find [tsl tb, sv q.frm] (.tup [t.av, bv true])) (hfr : Short frs) (hrows : t.rows.length ≤ 1000) (hi0 : out0.length ≤ 1000) (hgl : ∀ (r : Rw) (out : List (List V)), (g r out).2.length ≤ out.length + 1) (hT : ∀ r ∈ t.rows, Pure S.evaluate_True [xsl q.wh, fsl (eInside frs t r.vals), tsl tb] (.tup [bv (tr r).1, iv (tr r).2])) (hC : ∀ r ∈ t.rows, ∀ (out : List (List V)), out.length ≤ 2000000 → ACallsTo E0 S.evaluate_Rows_c1 [.agg (Rw.cells r), fsl (eInside frs t r.vals), .p 0 0, .p 1 0, .p 3 0] (RH q tb out) (iv (g r out).1) (RH q tb (g r out).2)) : ACallsTo E0 S.evaluate_selected [q.av, fsl frs, tsl tb, .fn S.evaluate_Rows_c1 [.p 0 0, .p 1 0, .p 3 0]] (RH q tb out0) (iv (eSelB tr g q frs tb t out0).1) (RH q tb (eSelB tr g q frs tb t out0).2) := by
  unfold eSelB
  exact wkc At.evaluate_selected [sc hfind, sb (rfl : false = false)] [1, 2, 3, 4, 9, 26, 27, 28] 6 (by kernel_rfl) (k_selB_loop tr g q frs tb t out0 hfr hrows hi0 hgl hT hC t.rows.length 0 out0 (by simp) (by simp))
def eSelB0 (q : Qy) (frs : List Fr) (tb : List Tb) (out0 : List (List V)) : Int × (List (List V)) :=
  (3, out0)
theorem k_evaluate_selected__b0 (q : Qy) (frs : List Fr) (tb : List Tb) (out0 : List (List V)) (hfind : Pure S.evaluate_find [tsl tb, sv q.frm] (.tup [Tb.zero.av, bv false])) : ACallsTo E0 S.evaluate_selected [q.av, fsl frs, tsl tb, .fn S.evaluate_Rows_c1 [.p 0 0, .p 1 0, .p 3 0]] (RH q tb out0) (iv (eSelB0 q frs tb out0).1) (RH q tb (eSelB0 q frs tb out0).2) := by
  exact wk At.evaluate_selected [sc hfind, sb (rfl : true = true)] (by kernel_rfl)
noncomputable def rowsCfg0 (q : Qy) (frs : List Fr) (tb : List Tb) : Cfg := (upto (mk E0) (List.range 100) 3 3000 ⟨B.evaluate_Rows.ntmps, [.code (B.evaluate_Rows.body.getD .skip)], argTS 0 [q.av, fsl frs, tsl tb], []⟩ []).2
noncomputable def rowsCfg (q : Qy) (frs : List Fr) (tb : List Tb) : Cfg := cut (List.range 100) 4 ⟨(rowsCfg0 q frs tb).n, (rowsCfg0 q frs tb).todo, (rowsCfg0 q frs tb).ts, ((rowsCfg0 q frs tb).h ++ [Blk.row Ty.LValue [] false]).set 2 (.box (([AV.nl] : List AV).set 0 (.own (rowsCfg0 q frs tb).h.length 0)))⟩
theorem rows_to {q : Qy} {frs : List Fr} {tb : List Tb} {R : AV → Heap → Prop} (hg : Good E0 B.evaluate_Rows [] (rowsCfg q frs tb) (Shut 0 R)) : ACalls E0 S.evaluate_Rows [q.av, fsl frs, tsl tb] [] R :=
  wkc (c' := rowsCfg0 q frs tb) At.evaluate_Rows [] (List.range 100) 3 (by kernel_rfl)
    (good_ownBoxCut (cs := [AV.nl]) 2 0 Ty.LValue (List.range 100) 4 (by kernel_rfl) (by kernel_rfl) (by kernel_rfl) rfl hg)
def eRows (sel : Int × List (List V)) : List (List V) × Int := bif sel.1 != 0 then ([], sel.1) else (sel.2, 0)
theorem c_Rows (sel : Int × List (List V)) (q : Qy) (frs : List Fr) (tb : List Tb) (hsel : ACallsTo E0 S.evaluate_selected [q.av, fsl frs, tsl tb, .fn S.evaluate_Rows_c1 [.p 0 0, .p 1 0, .p 3 0]] (RH q tb []) (iv sel.1) (RH q tb sel.2)) : ACallsTo E0 S.evaluate_Rows [q.av, fsl frs, tsl tb] [] (.tup [.sl ((eRows sel).1.map vrow), iv (eRows sel).2]) [] := by
  refine rows_to ?_
  unfold eRows
  cases h1 : sel.fst != 0
  · exact wkr [sqx (sel.2.length = (List.map vrow sel.snd).length ∧ True ∧ True), sl [0, 2, 3, 1] hsel, sb h1] (by kernel_rfl)
  · exact wkr [sl [0, 2, 3, 1] hsel, sb h1] (by kernel_rfl)
end Go.AM

namespace Go.AM
set_option maxRecDepth 100000
set_option maxHeartbeats 1000000
set_option linter.unusedSimpArgs false
set_option linter.unusedVariables false
/-- The items of a row, all of them. -/
def itemsR (f : X → V × Int) : List X → Int × List V
  | [] => (0, [])
  | x :: r => bif (f x).2 != 0 then ((f x).2, []) else bif (itemsR f r).1 != 0 then ((itemsR f r).1, []) else (0, (f x).1 :: (itemsR f r).2)
theorem rowL_eq (f : X → V × Int) (q : Qy) (w : List Fr) (tb : List Tb) (out : List (List V)) : ∀ (l : List X) (i : Nat) (row : List V), rowL f q w tb out l i row = bif (itemsR f l).1 != 0 then ((itemsR f l).1, out) else (0, out ++ [row ++ (itemsR f l).2])
  | [], i, row => by simp [rowL, itemsR]
  | x :: r, i, row => by
    simp only [rowL, itemsR, rowL_eq f q w tb out r]
    cases h : (f x).2 != 0
    · cases h2 : (itemsR f r).1 != 0
      · simp
      · simp [h2]
    · simp only [cond_true, h]
/-- What a row gives. -/
def rowV (f : X → V × Int) (q : Qy) (r : Rw) : Int × List V := bif q.star then (0, r.vals) else itemsR f q.items
theorem rowC_eq (f : X → V × Int) (q : Qy) (w : List Fr) (tb : List Tb) (r : Rw) (out : List (List V)) : rowC f q w tb r out = bif (rowV f q r).1 != 0 then ((rowV f q r).1, out) else (0, out ++ [(rowV f q r).2]) := by
  unfold rowC rowV
  cases q.star
  · simp only [cond_false, rowL_eq, List.nil_append]
  · rfl
/-- The rows that are selected. -/
def selRows (tr : Rw → Bool × Int) (rv : Rw → Int × List V) : List Rw → List (List V) → Int × List (List V)
  | [], out => (0, out)
  | r :: l, out => bif (tr r).2 != 0 then ((tr r).2, out) else bif (tr r).1 then (bif (rv r).1 != 0 then ((rv r).1, out) else selRows tr rv l (out ++ [(rv r).2])) else selRows tr rv l out
theorem selB_eq (tr : Rw → Bool × Int) (rv : Rw → Int × List V) (q : Qy) (frs : List Fr) (tb : List Tb) (t : Tb) (out0 : List (List V)) : ∀ (l : List Rw) (i : Nat) (out : List (List V)), selB tr (fun r out => bif (rv r).1 != 0 then ((rv r).1, out) else (0, out ++ [(rv r).2])) q frs tb t out0 l i out = selRows tr rv l out
  | [], _, _ => rfl
  | r :: l, i, out => by
    have ih := selB_eq tr rv q frs tb t out0 l
    simp only [selB, selRows, ih]
    have h0 : ((0 : Int) == 0) = true := rfl
    cases h1 : (tr r).2 == 0 <;> cases h2 : (tr r).1 <;> cases h3 : (rv r).1 == 0 <;> simp only [bne, h0, h1, h2, h3, Bool.not_true, Bool.not_false, cond_true, cond_false]
def evalRows (n : Nat) (q : Qy) (frs : List Fr) (tb : List Tb) : List (List V) × Int := match findS tb q.frm with
  | none => ([], 3)
  | some t => eRows (selRows (fun r => eTrueL (fun x => eval n x (eInside frs t r.vals) tb) q.wh) (fun r => rowV (fun x => eval n x (eInside frs t r.vals) tb) q r) t.rows [])
/-- A query of expressions of less than n levels. -/
structure QOk (n : Nat) (q : Qy) : Prop where
  few : Few q.items
  items : ∀ x ∈ q.items, XOk n x
  wh : ∀ x ∈ q.wh, XOk n x
theorem c_evalRows {n : Nat} {q : Qy} {frs : List Fr} {tb : List Tb} (hq : QOk n q) (hfo : FsOk (n + 1) frs) (hto : TbOk tb) (hfg : FsG frs) (htg : TbG tb) (hv : ∀ x ∈ tb, ∀ r ∈ x.rows, Short r.vals) :
    Pure S.evaluate_Rows [q.av, fsl frs, tsl tb] (.tup [.sl ((evalRows n q frs tb).1.map vrow), iv (evalRows n q frs tb).2]) := by
  unfold evalRows
  cases hfd : findS tb q.frm with
  | none => exact c_Rows (3, []) q frs tb (k_evaluate_selected__b0 q frs tb [] (k_evaluate_find__0 tb q.frm hto.len hfd))
  | some t =>
    have htm := findS_mem hfd
    have hin : ∀ r ∈ t.rows, FsOk n (eInside frs t r.vals) ∧ FsG (eInside frs t r.vals) := fun r hr => ⟨hfo.eins (hto.cols t htm) (htg.vals t htm r hr), hfg.ins (htg.vals t htm r hr)⟩
    have h := k_evaluate_selected__b1 (fun r => eTrueL (fun x => eval n x (eInside frs t r.vals) tb) q.wh) (fun r out => bif (rowV (fun x => eval n x (eInside frs t r.vals) tb) q r).1 != 0 then ((rowV (fun x => eval n x (eInside frs t r.vals) tb) q r).1, out) else (0, out ++ [(rowV (fun x => eval n x (eInside frs t r.vals) tb) q r).2])) q frs tb t [] (k_evaluate_find__1 tb q.frm hto.len t hfd) hfo.short (hto.rows t htm) (by simp)
      (fun r out => by cases (rowV (fun x => eval n x (eInside frs t r.vals) tb) q r).1 != 0 <;> simp)
      (fun r hr => c_True (fun x hx => c_Value n x _ tb (hq.wh x hx) (hin r hr).1 (hin r hr).2 hto htg) (fun x hx => eval_good n x _ tb (hq.wh x hx) (hin r hr).2 htg))
      (fun r hr out hl => by
        have h := k_evaluate_Rows_c1 (fun x => eval n x (eInside frs t r.vals) tb) q (eInside frs t r.vals) tb r out hq.few (hv t htm r hr) hl (fun x hx => c_Value n x _ tb (hq.items x hx) (hin r hr).1 (hin r hr).2 hto htg)
        rw [rowC_eq] at h
        exact h)
    simp only [eSelB, selB_eq] at h
    exact c_Rows _ q frs tb h
end Go.AM

namespace Go.AM
set_option maxRecDepth 100000
set_option maxHeartbeats 1000000
set_option linter.unusedSimpArgs false
set_option linter.unusedVariables false
def cmpB (a b : Str) : Int := Lib.compareBytes a.data.toList b.data.toList
theorem k_internal_bytealg_abigen_runtime_cmpstring (a b : Str) : ACallsTo E0 S.internal_bytealg_abigen_runtime_cmpstring [sv a, sv b] [] (iv (cmpB a b)) [] := by
  intro β S w vs r hp
  obtain ⟨v1, rfl, hp1⟩ := vs_one hp
  obtain ⟨v2, rfl, hp2⟩ := vs_one hp1
  have h0 : v2 = [] := List.eq_nil_of_length_eq_zero (by have := hp2.1; simpa using this.symm)
  subst h0
  refine .inr ⟨.int .i64 (cmpB a b), w, ?_, ?_⟩
  · have h1 := run_callFunc_extern (e := Extern.BytealgCompare.compare) At.internal_bytealg_abigen_runtime_cmpstring (by kernel_rfl) (by kernel_rfl) (by kernel_rfl) (by kernel_rfl) #[.string a, .string b] w
    rw [Lib.run_compareString] at h1
    exact h1
  · exact ⟨_, _, β, S, _, rfl, ⟨rfl, rfl⟩, r, Ext.refl _ _ _ _, relV_int _ _⟩
def cmpB2 (a b : Str) : Int :=
  cmpB a b
theorem k_internal_bytealg_CompareString (a b : Str)  : ACallsTo E0 S.internal_bytealg_CompareString [sv a, sv b] [] (iv (cmpB2 a b)) [] := by
  exact wk At.internal_bytealg_CompareString [sc (k_internal_bytealg_abigen_runtime_cmpstring (a) (b))] (by kernel_rfl)
def cmpB3 (a b : Str) : Int :=
  cmpB2 a b
theorem k_strings_Compare (a b : Str)  : ACallsTo E0 S.strings_Compare [sv a, sv b] [] (iv (cmpB3 a b)) [] := by
  exact wk At.strings_Compare [sc (k_internal_bytealg_CompareString (a) (b))] (by kernel_rfl)
def rCmp (a b : V) : Int :=
  bif a.kind != b.kind then
    bif decide (a.kind < b.kind) then
      -1
    else
      1
  else
    bif a.int != b.int then
      bif decide (a.int < b.int) then
        -1
      else
        1
    else
      cmpB3 a.text b.text
theorem k_ref1_Compare (a b : V)  : ACallsTo E0 S.ref1_Compare [a.av, b.av] [] (iv (rCmp a b)) [] := by
  unfold rCmp
  cases h1 : a.kind != b.kind
  · cases h2 : a.int != b.int
    · exact wk At.ref1_Compare [sb h1, sb h2, sc (k_strings_Compare (a.text) (b.text))] (by kernel_rfl)
    · cases h3 : decide (a.int < b.int)
      · exact wk At.ref1_Compare [sb h1, sb h2, sb h3] (by kernel_rfl)
      · exact wk At.ref1_Compare [sb h1, sb h2, sb h3] (by kernel_rfl)
  · cases h4 : decide (a.kind < b.kind)
    · exact wk At.ref1_Compare [sb h1, sb h4] (by kernel_rfl)
    · exact wk At.ref1_Compare [sb h1, sb h4] (by kernel_rfl)
noncomputable def L_rRowsL (a b : List V) (i : Nat)  : Cfg := loopAt B.ref1_CompareRows 0 [(0, vsl a), (1, vsl b), (5, iv (i : Nat))] []
def rRowsL (a b : List V) : List (V) → Nat → Int
  | [], i =>
    bif decide ((↑(List.map V.cells a).length : Int) < (↑(List.map V.cells b).length : Int)) then
      -1
    else
      bif decide ((↑(List.map V.cells b).length : Int) < (↑(List.map V.cells a).length : Int)) then
        1
      else
        0
  | x :: r, i =>
    bif decide ((↑i : Int) < (↑(List.map V.cells b).length : Int)) then
      bif rCmp x (valAt b (↑i : Int)) != 0 then
        rCmp x (valAt b (↑i : Int))
      else
        rRowsL a b r (i + 1)
    else
      bif decide ((↑(List.map V.cells a).length : Int) < (↑(List.map V.cells b).length : Int)) then
        -1
      else
        bif decide ((↑(List.map V.cells b).length : Int) < (↑(List.map V.cells a).length : Int)) then
          1
        else
          0
theorem k_rRowsL_loop (a b : List V) (ha : Short a) (hb : Short b) : ∀ (kk i : Nat), i + kk = (a).length → Good E0 B.ref1_CompareRows [] (L_rRowsL a b i ) (Shut 0 fun r h => r = (iv (rRowsL a b ((a).drop i) i )) ∧ h = []) := by
  intro kk
  induction kk with
  | zero =>
    intro i  hi 
    have h0 : decide (((i : Nat) : Int) < (((a.map V.cells).length : Nat) : Int)) = false := by simp; omega
    have e0 : (a).drop i = [] := List.drop_of_length_le (by omega)
    rw [e0]
    simp only [rRowsL]
    refine good_unroll ?_
    cases h1 : decide ((↑(List.map V.cells a).length : Int) < (↑(List.map V.cells b).length : Int))
    · cases h2 : decide ((↑(List.map V.cells b).length : Int) < (↑(List.map V.cells a).length : Int))
      · exact wkr [sb h0, sb h1, sb h2] (by kernel_rfl)
      · exact wkr [sb h0, sb h1, sb h2] (by kernel_rfl)
    · exact wkr [sb h0, sb h1] (by kernel_rfl)
  | succ kk ih =>
    intro i  hi 
    obtain ⟨x, hx⟩ := ex_at (l := a) (i := i) (by omega)
    have h0 : decide (((i : Nat) : Int) < (((a.map V.cells).length : Nat) : Int)) = true := by simp; omega
    have hw := wrap_nat i (by first | omega | (simp only [Short, Few] at *; omega))
    rw [drop_at hx]
    simp only [rRowsL]
    refine good_unroll ?_
    cases h1 : decide ((↑i : Int) < (↑(List.map V.cells b).length : Int))
    · cases h2 : decide ((↑(List.map V.cells a).length : Int) < (↑(List.map V.cells b).length : Int))
      · cases h3 : decide ((↑(List.map V.cells b).length : Int) < (↑(List.map V.cells a).length : Int))
        · exact wkr [sg h0, sb h1, sb h2, sb h3] (by kernel_rfl)
        · exact wkr [sg h0, sb h1, sb h2, sb h3] (by kernel_rfl)
      · exact wkr [sg h0, sb h1, sb h2] (by kernel_rfl)
    · cases h4 : rCmp x (valAt b (↑i : Int)) != 0
      · exact wkl [sg h0, sb h1, sd [(2, [se (elAt_map (V.cells) hx rfl)]), (6, [se (el_val (b) ((↑i : Int)) (by first | assumption | (simp; done) | (simp at *; omega)) (by first | assumption | (simp; done) | (simp at *; omega)))]), (8, [sc (k_ref1_Compare (x) (valAt b (↑i : Int)))])], sb h4, si hw] [0, 1, 5] 0 (by kernel_rfl) (ih (i + 1) (by omega) )
      · exact wkr [sg h0, sb h1, sd [(2, [se (elAt_map (V.cells) hx rfl)]), (6, [se (el_val (b) ((↑i : Int)) (by first | assumption | (simp; done) | (simp at *; omega)) (by first | assumption | (simp; done) | (simp at *; omega)))]), (8, [sc (k_ref1_Compare (x) (valAt b (↑i : Int)))])], sb h4] (by kernel_rfl)
def rRows (a b : List V) : Int :=
  rRowsL a b a (0)
theorem k_ref1_CompareRows (a b : List V) (ha : Short a) (hb : Short b) : ACallsTo E0 S.ref1_CompareRows [vsl a, vsl b] [] (iv (rRows a b)) [] := by
  unfold rRows
  exact wkc At.ref1_CompareRows [] [0, 1, 5] 0 (by kernel_rfl) (k_rRowsL_loop a b ha hb a.length 0 (by simp))
end Go.AM
