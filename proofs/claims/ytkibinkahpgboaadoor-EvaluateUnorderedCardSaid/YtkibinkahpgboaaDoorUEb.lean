/-
  Contracts: aggregates, values.
-/
import Derived.Test.YtkibinkahpgboaaDoorUEa
namespace Go.AM
set_option maxRecDepth 100000
set_option maxHeartbeats 1000000
set_option linter.unusedSimpArgs false
set_option linter.unusedVariables false
theorem k_slices_Clone_Frame (frs : List Fr) (hl : Short frs) : ACallsTo E0 S.slices_Clone_Frame [fsl frs] [] (.own 0 frs.length) [.row Ty.Frame (frs.map Fr.cells) false] := by
  refine acalls_of_good At.slices_Clone_Frame rfl (by kernel_rfl) (Nat.le_of_ble_eq_true (by kernel_rfl)) (toLoop E0ok mix0 3000 [] (List.range 40) 0 (c' := clC frs) (by kernel_rfl) (by kernel_rfl) (good_nil E0ok (xs := frs.map Fr.cells) (e := true) (by kernel_rfl) fun b hb => ?_))
  cases b with
  | false => exact clone_f frs hl
  | true =>
    cases frs with
    | nil => exact good_retOwn Ty.Frame clone_t ⟨rfl, rfl⟩
    | cons x r => exact absurd (hb (by simp)) (by simp)
def eInside (frs : List Fr) (t : Tb) (v : List V) : (List Fr) :=
  frs ++ [Fr.mk t.sch.name false t.sch.cols v]
theorem k_evaluate_inside (frs : List Fr) (t : Tb) (v : List V) (hl : Short frs) : ACallsTo E0 S.evaluate_inside [fsl frs, t.av, vsl v] [] (fsl (eInside frs t v)) [] := by
  unfold eInside
  exact (by (try simp only [X.av, Qy.av, V.av, Tb.av, Sch.av, Pl.av, xsl, fsl, vsl, tsl, List.map_append, List.map_cons, List.map_nil, V.cells, Col.cells, Rw.cells, Tb.cells, Fr.cells, Sch.cells, Pl.cells, cellsX_app, cellsX_cons, cellsX_nil, cellsQ_cons, cellsQ_nil, X.cells, Qy.cells, X.args_mk, X.sub_mk, Qy.items_mk, Qy.wh_mk, xCol, xLit, xBin, xNeg]); exact wk At.evaluate_inside [sqx ((List.map Fr.cells frs ++ [[sv t.sch.name, bv false, AV.sl (List.map Col.cells t.sch.cols), AV.sl (List.map V.cells v)]]).length = (List.map Fr.cells frs ++ [[sv t.sch.name, bv false, AV.sl (List.map Col.cells t.sch.cols), AV.sl (List.map V.cells v)]]).length), sd [(1, [sc (k_slices_Clone_Frame (frs) (by first | assumption | omega | (simp; done) | (simp; omega)))]), (11, [sqx (AllLen [[sv t.sch.name, bv false, AV.sl (List.map Col.cells t.sch.cols), AV.sl (List.map V.cells v)]] 4 ∧ frs.length = (List.map Fr.cells frs).length ∧ (((List.map Fr.cells frs).length + [[sv t.sch.name, bv false, AV.sl (List.map Col.cells t.sch.cols), AV.sl (List.map V.cells v)]].length) * 72).le 140737488355328)])]] (by kernel_rfl))
end Go.AM

namespace Go.AM
set_option maxRecDepth 100000
set_option maxHeartbeats 1000000
set_option linter.unusedSimpArgs false
set_option linter.unusedVariables false
/-- The variables that the aggregate's closure shares. -/
abbrev AH (q : Qy) (tb : List Tb) (e : X) (n : Nat) (its : List V) : Heap := [.box [iv (n : Nat)], .box q.cells, .box [tsl tb], .box e.cells, .box [.own 5 its.length], .row Ty.Value (its.map V.cells) false]
noncomputable def L_aggI (f : X → V × Int) (q : Qy) (w : List Fr) (tb : List Tb) (e : X) (n : Nat) (its0 : List V) (i : Nat) (its : List V) : Cfg := loopAt B.evaluate_aggregate_c1 0 [(1, fsl w), (4, .p 2 0), (5, .p 3 0), (6, .p 4 0), (17, xsl q.items), (18, iv ((cellsX q.items).length : Nat)), (19, iv (i : Nat))] (AH q tb e (n + 1) its)
def aggI (f : X → V × Int) (q : Qy) (w : List Fr) (tb : List Tb) (e : X) (n : Nat) (its0 : List V) : List (X) → Nat → (List V) → Int × (List V)
  | [], i, its =>
    (0, its)
  | x :: r, i, its =>
    bif (f x).snd != 0 then
      ((f x).snd, its)
    else
      bif (f x).fst.kind == 0 then
        aggI f q w tb e n its0 r (i + 1) (its)
      else
        bif e.kind == 10 then
          bif (f x).fst.kind != 1 then
            (5, its)
          else
            aggI f q w tb e n its0 r (i + 1) (its ++ [(f x).fst])
        else
          aggI f q w tb e n its0 r (i + 1) (its ++ [(f x).fst])
theorem k_aggI_loop (f : X → V × Int) (q : Qy) (w : List Fr) (tb : List Tb) (e : X) (n : Nat) (its0 : List V) (hl : q.items.length ≤ 1000) (hi0 : its0.length ≤ 2000000) (hf : ∀ x ∈ q.items, Pure S.evaluate_Value [x.av, fsl w, tsl tb] (.tup [(f x).1.av, iv (f x).2])) : ∀ (kk i : Nat) (its : List V), i + kk = (q.items).length → its.length ≤ its0.length + i → Good E0 B.evaluate_aggregate_c1 (AH q tb e n its0) (L_aggI f q w tb e n its0 i its) (Shut 6 fun r h => r = (iv (aggI f q w tb e n its0 ((q.items).drop i) i its).1) ∧ h = (AH q tb e (n + 1) (aggI f q w tb e n its0 ((q.items).drop i) i its).2)) := by
  intro kk
  induction kk with
  | zero =>
    intro i its hi ho
    have h0 : decide (((i : Nat) : Int) < (((cellsX q.items).length : Nat) : Int)) = false := by simp; omega
    have e0 : (q.items).drop i = [] := List.drop_of_length_le (by omega)
    rw [e0]
    simp only [aggI]
    refine good_unroll ?_
    exact wkr [sb h0] (by kernel_rfl)
  | succ kk ih =>
    intro i its hi ho
    obtain ⟨x, hx⟩ := ex_at (l := q.items) (i := i) (by omega)
    have h0 : decide (((i : Nat) : Int) < (((cellsX q.items).length : Nat) : Int)) = true := by simp; omega
    have hw := wrap_nat i (by first | omega | (simp only [Short, Few] at *; omega))
    have hfx := hf x (List.mem_of_getElem? hx)
    rw [drop_at hx]
    simp only [aggI]
    refine good_unroll ?_
    cases h1 : (f x).snd != 0
    · cases h2 : (f x).fst.kind == 0
      · cases h3 : e.kind == 10
        · exact wkl (c' := (Cfg.mk (L_aggI f q w tb e n its0 (i + 1) (its ++ [(f x).fst])).n (L_aggI f q w tb e n its0 (i + 1) (its ++ [(f x).fst])).todo [(1, AV.sl (List.map Fr.cells w)), (4, AV.p 2 0), (5, AV.p 3 0), (6, AV.p 4 0), (17, AV.sl (cellsX q.items)), (18, iv (↑(cellsX q.items).length : Int)), (19, iv (↑(i + 1) : Int))] [Blk.box [iv (↑(n + 1) : Int)], Blk.box [bv q.star, AV.sl (cellsX q.items), sv q.frm, AV.sl (cellsX q.wh)], Blk.box [AV.sl (List.map Tb.cells tb)], Blk.box [iv e.kind, iv e.op, bv e.not, iv e.val.kind, iv e.val.int, sv e.val.text, sv e.table, sv e.name, AV.sl (cellsX e.args), AV.sl (cellsQ e.sub)], Blk.box [AV.own 5 (List.map V.cells its ++ [[iv (f x).fst.kind, iv (f x).fst.int, sv (f x).fst.text]]).length], Blk.row 24 (List.map V.cells its ++ [[iv (f x).fst.kind, iv (f x).fst.int, sv (f x).fst.text]]) false])) [sb h0, se (elAt_X hx), sc hfx, sb h1, sc (k_evaluate_isNull ((f x).fst)), sb h2, sb h3, sqx (AllLen [[iv (f x).fst.kind, iv (f x).fst.int, sv (f x).fst.text]] 3 ∧ its.length = (List.map V.cells its).length ∧ (((List.map V.cells its).length + [[iv (f x).fst.kind, iv (f x).fst.int, sv (f x).fst.text]].length) * 32).le 140737488355328), si hw] [1, 4, 5, 6, 17, 18, 19] 6 (by kernel_rfl) (good_same (show ([(1, AV.sl (List.map Fr.cells w)), (4, AV.p 2 0), (5, AV.p 3 0), (6, AV.p 4 0), (17, AV.sl (cellsX q.items)), (18, iv (↑(cellsX q.items).length : Int)), (19, iv (↑(i + 1) : Int))] : TS) = [(1, AV.sl (List.map Fr.cells w)), (4, AV.p 2 0), (5, AV.p 3 0), (6, AV.p 4 0), (17, AV.sl (cellsX q.items)), (18, iv (↑(cellsX q.items).length : Int)), (19, iv (↑(i + 1) : Int))] by first | rfl | (simp; done) | (simp [X.cells, Qy.cells, V.cells, Col.cells, Rw.cells, Tb.cells, Fr.cells, Sch.cells, Tp.cells, Pl.cells, xCol, xLit, xBin, xNeg]; done)) (show ([Blk.box [iv (↑(n + 1) : Int)], Blk.box [bv q.star, AV.sl (cellsX q.items), sv q.frm, AV.sl (cellsX q.wh)], Blk.box [AV.sl (List.map Tb.cells tb)], Blk.box [iv e.kind, iv e.op, bv e.not, iv e.val.kind, iv e.val.int, sv e.val.text, sv e.table, sv e.name, AV.sl (cellsX e.args), AV.sl (cellsQ e.sub)], Blk.box [AV.own 5 (List.map V.cells its ++ [[iv (f x).fst.kind, iv (f x).fst.int, sv (f x).fst.text]]).length], Blk.row 24 (List.map V.cells its ++ [[iv (f x).fst.kind, iv (f x).fst.int, sv (f x).fst.text]]) false] : Heap) = [Blk.box [iv (↑(n + 1) : Int)], Blk.box [bv q.star, AV.sl (cellsX q.items), sv q.frm, AV.sl (cellsX q.wh)], Blk.box [AV.sl (List.map Tb.cells tb)], Blk.box [iv e.kind, iv e.op, bv e.not, iv e.val.kind, iv e.val.int, sv e.val.text, sv e.table, sv e.name, AV.sl (cellsX e.args), AV.sl (cellsQ e.sub)], Blk.box [AV.own 5 (its ++ [(f x).fst]).length], Blk.row 24 (List.map V.cells (its ++ [(f x).fst])) false] by first | rfl | (simp; done) | (simp [X.cells, Qy.cells, V.cells, Col.cells, Rw.cells, Tb.cells, Fr.cells, Sch.cells, Tp.cells, Pl.cells, xCol, xLit, xBin, xNeg]; done)) (ih (i + 1) (its ++ [(f x).fst]) (by omega) (by first | assumption | (simp; done) | (simp; omega) | omega | (simp at *; omega))))
        · cases h4 : (f x).fst.kind != 1
          · exact wkl (c' := (Cfg.mk (L_aggI f q w tb e n its0 (i + 1) (its ++ [(f x).fst])).n (L_aggI f q w tb e n its0 (i + 1) (its ++ [(f x).fst])).todo [(1, AV.sl (List.map Fr.cells w)), (4, AV.p 2 0), (5, AV.p 3 0), (6, AV.p 4 0), (17, AV.sl (cellsX q.items)), (18, iv (↑(cellsX q.items).length : Int)), (19, iv (↑(i + 1) : Int))] [Blk.box [iv (↑(n + 1) : Int)], Blk.box [bv q.star, AV.sl (cellsX q.items), sv q.frm, AV.sl (cellsX q.wh)], Blk.box [AV.sl (List.map Tb.cells tb)], Blk.box [iv e.kind, iv e.op, bv e.not, iv e.val.kind, iv e.val.int, sv e.val.text, sv e.table, sv e.name, AV.sl (cellsX e.args), AV.sl (cellsQ e.sub)], Blk.box [AV.own 5 (List.map V.cells its ++ [[iv (f x).fst.kind, iv (f x).fst.int, sv (f x).fst.text]]).length], Blk.row 24 (List.map V.cells its ++ [[iv (f x).fst.kind, iv (f x).fst.int, sv (f x).fst.text]]) false])) [sb h0, se (elAt_X hx), sc hfx, sb h1, sc (k_evaluate_isNull ((f x).fst)), sb h2, sg h3, sb h4, sqx (AllLen [[iv (f x).fst.kind, iv (f x).fst.int, sv (f x).fst.text]] 3 ∧ its.length = (List.map V.cells its).length ∧ (((List.map V.cells its).length + [[iv (f x).fst.kind, iv (f x).fst.int, sv (f x).fst.text]].length) * 32).le 140737488355328), si hw] [1, 4, 5, 6, 17, 18, 19] 6 (by kernel_rfl) (good_same (show ([(1, AV.sl (List.map Fr.cells w)), (4, AV.p 2 0), (5, AV.p 3 0), (6, AV.p 4 0), (17, AV.sl (cellsX q.items)), (18, iv (↑(cellsX q.items).length : Int)), (19, iv (↑(i + 1) : Int))] : TS) = [(1, AV.sl (List.map Fr.cells w)), (4, AV.p 2 0), (5, AV.p 3 0), (6, AV.p 4 0), (17, AV.sl (cellsX q.items)), (18, iv (↑(cellsX q.items).length : Int)), (19, iv (↑(i + 1) : Int))] by first | rfl | (simp; done) | (simp [X.cells, Qy.cells, V.cells, Col.cells, Rw.cells, Tb.cells, Fr.cells, Sch.cells, Tp.cells, Pl.cells, xCol, xLit, xBin, xNeg]; done)) (show ([Blk.box [iv (↑(n + 1) : Int)], Blk.box [bv q.star, AV.sl (cellsX q.items), sv q.frm, AV.sl (cellsX q.wh)], Blk.box [AV.sl (List.map Tb.cells tb)], Blk.box [iv e.kind, iv e.op, bv e.not, iv e.val.kind, iv e.val.int, sv e.val.text, sv e.table, sv e.name, AV.sl (cellsX e.args), AV.sl (cellsQ e.sub)], Blk.box [AV.own 5 (List.map V.cells its ++ [[iv (f x).fst.kind, iv (f x).fst.int, sv (f x).fst.text]]).length], Blk.row 24 (List.map V.cells its ++ [[iv (f x).fst.kind, iv (f x).fst.int, sv (f x).fst.text]]) false] : Heap) = [Blk.box [iv (↑(n + 1) : Int)], Blk.box [bv q.star, AV.sl (cellsX q.items), sv q.frm, AV.sl (cellsX q.wh)], Blk.box [AV.sl (List.map Tb.cells tb)], Blk.box [iv e.kind, iv e.op, bv e.not, iv e.val.kind, iv e.val.int, sv e.val.text, sv e.table, sv e.name, AV.sl (cellsX e.args), AV.sl (cellsQ e.sub)], Blk.box [AV.own 5 (its ++ [(f x).fst]).length], Blk.row 24 (List.map V.cells (its ++ [(f x).fst])) false] by first | rfl | (simp; done) | (simp [X.cells, Qy.cells, V.cells, Col.cells, Rw.cells, Tb.cells, Fr.cells, Sch.cells, Tp.cells, Pl.cells, xCol, xLit, xBin, xNeg]; done)) (ih (i + 1) (its ++ [(f x).fst]) (by omega) (by first | assumption | (simp; done) | (simp; omega) | omega | (simp at *; omega))))
          · exact wkr [sb h0, se (elAt_X hx), sc hfx, sb h1, sc (k_evaluate_isNull ((f x).fst)), sb h2, sg h3, sb h4] (by kernel_rfl)
      · exact wkl [sb h0, se (elAt_X hx), sc hfx, sb h1, sc (k_evaluate_isNull ((f x).fst)), sb h2, si hw] [1, 4, 5, 6, 17, 18, 19] 6 (by kernel_rfl) (ih (i + 1) (its) (by omega) (by first | assumption | (simp; done) | (simp; omega) | omega | (simp at *; omega)))
    · exact wkr [sb h0, se (elAt_X hx), sc hfx, sb h1] (by kernel_rfl)
def aggC (f : X → V × Int) (q : Qy) (w : List Fr) (tb : List Tb) (e : X) (n : Nat) (its : List V) : Int × (List V) :=
  aggI f q w tb e n its q.items 0 (its)
theorem k_evaluate_aggregate_c1 (f : X → V × Int) (q : Qy) (w : List Fr) (tb : List Tb) (e : X) (n : Nat) (its : List V) (rw : Rw) (hl : q.items.length ≤ 1000) (hi0 : its.length ≤ 2000000) (hwn : IntKind.i64.wrap (((n : Nat) : Int) + 1) = ((n + 1 : Nat) : Int)) (hf : ∀ x ∈ q.items, Pure S.evaluate_Value [x.av, fsl w, tsl tb] (.tup [(f x).1.av, iv (f x).2])) : ACallsTo E0 S.evaluate_aggregate_c1 [.agg (Rw.cells rw), fsl w, .p 0 0, .p 1 0, .p 2 0, .p 3 0, .p 4 0] (AH q tb e n its) (iv (aggC f q w tb e n its).1) (AH q tb e (n + 1) (aggC f q w tb e n its).2) := by
  unfold aggC
  exact wkc At.evaluate_aggregate_c1 [si hwn] [1, 4, 5, 6, 17, 18, 19] 6 (by kernel_rfl) (by have ih := k_aggI_loop f q w tb e n its hl hi0 hf q.items.length 0 (its) (by simp) (by simp); exact ih)
end Go.AM

namespace Go.AM
set_option maxRecDepth 100000
set_option maxHeartbeats 1000000
set_option linter.unusedSimpArgs false
set_option linter.unusedVariables false
noncomputable def L_selA (tr : Rw → Bool × Int) (g : Rw → List V → Int × List V) (q : Qy) (frs : List Fr) (tb : List Tb) (e : X) (t : Tb) (n0 : Nat) (its0 : List V) (i : Nat) (n : Nat) (its : List V) : Cfg := loopAt B.evaluate_selected 0 [(1, fsl frs), (2, tsl tb), (3, .fn S.evaluate_aggregate_c1 [.p 0 0, .p 1 0, .p 2 0, .p 3 0, .p 4 0]), (4, .p 6 0), (9, .p 7 0), (26, .sl (t.rows.map Rw.cells)), (27, iv ((t.rows.map Rw.cells).length : Nat)), (28, iv (i : Nat))] (AH q tb e n its ++ [.box q.cells, .box t.cells])
def selA (tr : Rw → Bool × Int) (g : Rw → List V → Int × List V) (q : Qy) (frs : List Fr) (tb : List Tb) (e : X) (t : Tb) (n0 : Nat) (its0 : List V) : List (Rw) → Nat → (Nat) → (List V) → Int × Nat × (List V)
  | [], i, n, its =>
    (0, n, its)
  | x :: r, i, n, its =>
    bif (tr x).snd == 0 then
      bif (tr x).fst then
        bif (g x its).fst != 0 then
          ((g x its).fst, n + 1, (g x its).snd)
        else
          selA tr g q frs tb e t n0 its0 r (i + 1) (n + 1) ((g x its).snd)
      else
        bif (tr x).snd != 0 then
          ((tr x).snd, n, its)
        else
          selA tr g q frs tb e t n0 its0 r (i + 1) (n) (its)
    else
      bif (tr x).snd != 0 then
        ((tr x).snd, n, its)
      else
        selA tr g q frs tb e t n0 its0 r (i + 1) (n) (its)
theorem k_selA_loop (tr : Rw → Bool × Int) (g : Rw → List V → Int × List V) (q : Qy) (frs : List Fr) (tb : List Tb) (e : X) (t : Tb) (n0 : Nat) (its0 : List V) (hfr : Short frs) (hrows : t.rows.length ≤ 1000) (hn0 : n0 ≤ 1000) (hi0 : its0.length ≤ 1000) (hgl : ∀ (r : Rw) (its : List V), (g r its).2.length ≤ its.length + 1000) (hT : ∀ r ∈ t.rows, Pure S.evaluate_True [xsl q.wh, fsl (eInside frs t r.vals), tsl tb] (.tup [bv (tr r).1, iv (tr r).2])) (hC : ∀ r ∈ t.rows, ∀ (n : Nat) (its : List V), n ≤ 1000000 → its.length ≤ 2000000 → ACallsTo E0 S.evaluate_aggregate_c1 [.agg (Rw.cells r), fsl (eInside frs t r.vals), .p 0 0, .p 1 0, .p 2 0, .p 3 0, .p 4 0] (AH q tb e n its) (iv (g r its).1) (AH q tb e (n + 1) (g r its).2)) : ∀ (kk i : Nat) (n : Nat) (its : List V), i + kk = (t.rows).length → n ≤ n0 + i → its.length ≤ its0.length + 1000 * i → Good E0 B.evaluate_selected (AH q tb e n0 its0) (L_selA tr g q frs tb e t n0 its0 i n its) (Shut 6 fun r h => r = (iv (selA tr g q frs tb e t n0 its0 ((t.rows).drop i) i n its).1) ∧ h = (AH q tb e (selA tr g q frs tb e t n0 its0 ((t.rows).drop i) i n its).2.1 (selA tr g q frs tb e t n0 its0 ((t.rows).drop i) i n its).2.2)) := by
  intro kk
  induction kk with
  | zero =>
    intro i n its hi hn hi2
    have h0 : decide (((i : Nat) : Int) < (((t.rows.map Rw.cells).length : Nat) : Int)) = false := by simp; omega
    have e0 : (t.rows).drop i = [] := List.drop_of_length_le (by omega)
    rw [e0]
    simp only [selA]
    refine good_unroll ?_
    exact wkr [sb h0] (by kernel_rfl)
  | succ kk ih =>
    intro i n its hi hn hi2
    obtain ⟨x, hx⟩ := ex_at (l := t.rows) (i := i) (by omega)
    have h0 : decide (((i : Nat) : Int) < (((t.rows.map Rw.cells).length : Nat) : Int)) = true := by simp; omega
    have hw := wrap_nat i (by first | omega | (simp only [Short, Few] at *; omega))
    have hTx := hT x (List.mem_of_getElem? hx); have hCx := hC x (List.mem_of_getElem? hx) n its (by omega) (by omega)
    rw [drop_at hx]
    simp only [selA]
    refine good_unroll ?_
    cases h1 : (tr x).snd == 0
    · cases h2 : (tr x).snd != 0
      · exact wkl [sb h0, se (elAt_map (Rw.cells) hx rfl), sc (k_evaluate_inside (frs) (t) (x.vals) (by first | assumption | omega | (simp; done) | (simp; omega))), sc hTx, sb h1, sb h2, si hw] [1, 2, 3, 4, 9, 26, 27, 28] 8 (by kernel_rfl) (ih (i + 1) (n) (its) (by omega) (by first | omega | (have := hgl x its; omega)) (by first | omega | (have := hgl x its; omega)))
      · exact wkr [sb h0, se (elAt_map (Rw.cells) hx rfl), sc (k_evaluate_inside (frs) (t) (x.vals) (by first | assumption | omega | (simp; done) | (simp; omega))), sc hTx, sb h1, sb h2] (by kernel_rfl)
    · cases h3 : (tr x).fst
      · cases h4 : (tr x).snd != 0
        · exact wkl [sb h0, se (elAt_map (Rw.cells) hx rfl), sc (k_evaluate_inside (frs) (t) (x.vals) (by first | assumption | omega | (simp; done) | (simp; omega))), sc hTx, sg h1, sb h3, sb h4, si hw] [1, 2, 3, 4, 9, 26, 27, 28] 8 (by kernel_rfl) (ih (i + 1) (n) (its) (by omega) (by first | omega | (have := hgl x its; omega)) (by first | omega | (have := hgl x its; omega)))
        · exact wkr [sb h0, se (elAt_map (Rw.cells) hx rfl), sc (k_evaluate_inside (frs) (t) (x.vals) (by first | assumption | omega | (simp; done) | (simp; omega))), sc hTx, sg h1, sb h3, sb h4] (by kernel_rfl)
      · cases h5 : (g x its).fst != 0
        · exact wkl [sb h0, se (elAt_map (Rw.cells) hx rfl), sc (k_evaluate_inside (frs) (t) (x.vals) (by first | assumption | omega | (simp; done) | (simp; omega))), sc hTx, sg h1, sb h3, sl [0, 1, 2, 3, 4, 5] hCx, sb h5, si hw] [1, 2, 3, 4, 9, 26, 27, 28] 8 (by kernel_rfl) (ih (i + 1) (n + 1) ((g x its).snd) (by omega) (by first | omega | (have := hgl x its; omega)) (by first | omega | (have := hgl x its; omega)))
        · exact wkr [sb h0, se (elAt_map (Rw.cells) hx rfl), sc (k_evaluate_inside (frs) (t) (x.vals) (by first | assumption | omega | (simp; done) | (simp; omega))), sc hTx, sg h1, sb h3, sl [0, 1, 2, 3, 4, 5] hCx, sb h5] (by kernel_rfl)
end Go.AM

namespace Go.AM
set_option maxRecDepth 100000
set_option maxHeartbeats 1000000
set_option linter.unusedSimpArgs false
set_option linter.unusedVariables false
def eSel1 (tr : Rw → Bool × Int) (g : Rw → List V → Int × List V) (q : Qy) (frs : List Fr) (tb : List Tb) (e : X) (t : Tb) (n0 : Nat) (its0 : List V) : Int × Nat × (List V) :=
  selA tr g q frs tb e t n0 its0 t.rows (0) (n0) (its0)
theorem k_evaluate_selected__1 (tr : Rw → Bool × Int) (g : Rw → List V → Int × List V) (q : Qy) (frs : List Fr) (tb : List Tb) (e : X) (t : Tb) (n0 : Nat) (its0 : List V) (hfind : Pure S.evaluate_find [tsl tb, sv q.frm] (.tup [t.av, bv true])) (hfr : Short frs) (hrows : t.rows.length ≤ 1000) (hn0 : n0 ≤ 1000) (hi0 : its0.length ≤ 1000) (hgl : ∀ (r : Rw) (its : List V), (g r its).2.length ≤ its.length + 1000) (hT : ∀ r ∈ t.rows, Pure S.evaluate_True [xsl q.wh, fsl (eInside frs t r.vals), tsl tb] (.tup [bv (tr r).1, iv (tr r).2])) (hC : ∀ r ∈ t.rows, ∀ (n : Nat) (its : List V), n ≤ 1000000 → its.length ≤ 2000000 → ACallsTo E0 S.evaluate_aggregate_c1 [.agg (Rw.cells r), fsl (eInside frs t r.vals), .p 0 0, .p 1 0, .p 2 0, .p 3 0, .p 4 0] (AH q tb e n its) (iv (g r its).1) (AH q tb e (n + 1) (g r its).2)) : ACallsTo E0 S.evaluate_selected [q.av, fsl frs, tsl tb, .fn S.evaluate_aggregate_c1 [.p 0 0, .p 1 0, .p 2 0, .p 3 0, .p 4 0]] (AH q tb e n0 its0) (iv (eSel1 tr g q frs tb e t n0 its0).1) (AH q tb e (eSel1 tr g q frs tb e t n0 its0).2.1 (eSel1 tr g q frs tb e t n0 its0).2.2) := by
  unfold eSel1
  exact wkc At.evaluate_selected [sc hfind, sb (rfl : false = false)] [1, 2, 3, 4, 9, 26, 27, 28] 8 (by kernel_rfl) (k_selA_loop tr g q frs tb e t n0 its0 hfr hrows hn0 hi0 hgl hT hC t.rows.length 0 n0 its0 (by simp) (by simp) (by simp))
def eSel0 (q : Qy) (frs : List Fr) (tb : List Tb) (e : X) (n0 : Nat) (its0 : List V) : Int × Nat × (List V) :=
  (3, n0, its0)
theorem k_evaluate_selected__0 (q : Qy) (frs : List Fr) (tb : List Tb) (e : X) (n0 : Nat) (its0 : List V) (hfind : Pure S.evaluate_find [tsl tb, sv q.frm] (.tup [Tb.zero.av, bv false])) : ACallsTo E0 S.evaluate_selected [q.av, fsl frs, tsl tb, .fn S.evaluate_aggregate_c1 [.p 0 0, .p 1 0, .p 2 0, .p 3 0, .p 4 0]] (AH q tb e n0 its0) (iv (eSel0 q frs tb e n0 its0).1) (AH q tb e (eSel0 q frs tb e n0 its0).2.1 (eSel0 q frs tb e n0 its0).2.2) := by
  exact wk At.evaluate_selected [sc hfind, sb (rfl : true = true)] (by kernel_rfl)
noncomputable def aggCfg0 (e : X) (q : Qy) (frs : List Fr) (tb : List Tb) : Cfg := (upto (mk E0) (List.range 100) 6 3000 ⟨B.evaluate_aggregate.ntmps, [.code (B.evaluate_aggregate.body.getD .skip)], argTS 0 [e.av, fsl frs, tsl tb], []⟩ [.el q.cells]).2
noncomputable def aggCfg (e : X) (q : Qy) (frs : List Fr) (tb : List Tb) : Cfg := cut (List.range 100) 7 ⟨(aggCfg0 e q frs tb).n, (aggCfg0 e q frs tb).todo, (aggCfg0 e q frs tb).ts, ((aggCfg0 e q frs tb).h ++ [Blk.row Ty.Value [] false]).set 5 (.box (([AV.nl] : List AV).set 0 (.own (aggCfg0 e q frs tb).h.length 0)))⟩
theorem agg_to {e : X} {q : Qy} {frs : List Fr} {tb : List Tb} {R : AV → Heap → Prop} (hq : e.sub[0]? = some q) (hg : Good E0 B.evaluate_aggregate [] (aggCfg e q frs tb) (Shut 0 R)) : ACalls E0 S.evaluate_aggregate [e.av, fsl frs, tsl tb] [] R :=
  wkc (c' := aggCfg0 e q frs tb) At.evaluate_aggregate [se (elAt_Q hq)] (List.range 100) 6 (by kernel_rfl)
    (good_ownBoxCut (cs := [AV.nl]) 5 0 Ty.Value (List.range 100) 7 (by kernel_rfl) (by kernel_rfl) (by kernel_rfl) rfl hg)
theorem head0 {l : List V} (h : (((l.length : Nat) : Int) == 0) = false) : l[0]? = some (l.headD V.null) := by
  cases l with
  | nil => simp at h
  | cons x r => rfl
theorem len1 {l : List V} (h : (((l.length : Nat) : Int) == 0) = false) : decide ((((l.map V.cells).length : Nat) : Int) < 1) = false := by
  cases l with
  | nil => simp at h
  | cons x r => simp; omega
def eAgg (sel : Int × Nat × List V) (e : X) : V × Int :=
  bif sel.1 != 0 then (V.null, sel.1)
  else bif e.kind == 8 then (⟨2, if decide (0 < ((sel.2.1 : Nat) : Int)) then 1 else 0, ⟨#[]⟩⟩, 0)
  else bif e.kind == 9 then (⟨1, (sel.2.1 : Nat), ⟨#[]⟩⟩, 0)
  else bif ((sel.2.2.length : Nat) : Int) == 0 then (V.null, 0)
  else bif e.kind == 10 then eSum sel.2.2
  else bif e.kind == 11 then (minV sel.2.2, 0)
  else (maxV sel.2.2, 0)
theorem c_agg (sel : Int × Nat × List V) (e : X) (q : Qy) (frs : List Fr) (tb : List Tb) (hq : e.sub[0]? = some q) (hlen : Short sel.2.2) (hsel : ACallsTo E0 S.evaluate_selected [q.av, fsl frs, tsl tb, .fn S.evaluate_aggregate_c1 [.p 0 0, .p 1 0, .p 2 0, .p 3 0, .p 4 0]] (AH q tb e 0 []) (iv sel.1) (AH q tb e sel.2.1 sel.2.2)) : ACallsTo E0 S.evaluate_aggregate [e.av, fsl frs, tsl tb] [] (.tup [(eAgg sel e).1.av, iv (eAgg sel e).2]) [] := by
  refine agg_to hq ?_
  unfold eAgg
  cases h1 : sel.fst != 0
  · cases h2 : e.kind == 8
    · cases h3 : e.kind == 9
      · cases h4 : (↑sel.snd.snd.length : Int) == 0
        · cases h5 : e.kind == 10
          · cases h6 : e.kind == 11
            · exact wkr [sl [4, 3, 1, 0, 5, 6] hsel, sb h1, sb h2, sb h3, sqx (sel.snd.snd.length = (List.map V.cells sel.snd.snd).length), sb h4, sb h5, sb h6, skx (sel.snd.snd.length = (List.map V.cells sel.snd.snd).length ∧ True ∧ True) [] (k_slices_MaxFunc_Value (sel.snd.snd) (by first | assumption | exact head0 (by assumption) | exact len1 (by assumption)) (by first | assumption | exact head0 (by assumption) | exact len1 (by assumption)) (by first | assumption | exact head0 (by assumption) | exact len1 (by assumption)))] (by kernel_rfl)
            · exact wkr [sl [4, 3, 1, 0, 5, 6] hsel, sb h1, sb h2, sb h3, sqx (sel.snd.snd.length = (List.map V.cells sel.snd.snd).length), sb h4, sb h5, sb h6, skx (sel.snd.snd.length = (List.map V.cells sel.snd.snd).length ∧ True ∧ True) [] (k_slices_MinFunc_Value (sel.snd.snd) (by first | assumption | exact head0 (by assumption) | exact len1 (by assumption)) (by first | assumption | exact head0 (by assumption) | exact len1 (by assumption)) (by first | assumption | exact head0 (by assumption) | exact len1 (by assumption)))] (by kernel_rfl)
          · exact wkr [sl [4, 3, 1, 0, 5, 6] hsel, sb h1, sb h2, sb h3, sqx (sel.snd.snd.length = (List.map V.cells sel.snd.snd).length), sb h4, sb h5, skx (sel.snd.snd.length = (List.map V.cells sel.snd.snd).length ∧ True) [] (k_evaluate_sum (sel.snd.snd) (by first | assumption | exact head0 (by assumption) | exact len1 (by assumption)))] (by kernel_rfl)
        · exact wkr [sl [4, 3, 1, 0, 5, 6] hsel, sb h1, sb h2, sb h3, sqx (sel.snd.snd.length = (List.map V.cells sel.snd.snd).length), sb h4] (by kernel_rfl)
      · exact wkr [sl [4, 3, 1, 0, 5, 6] hsel, sb h1, sb h2, sb h3, sc (k_value_Number ((↑sel.snd.fst : Int)))] (by kernel_rfl)
    · exact wkr [sl [4, 3, 1, 0, 5, 6] hsel, sb h1, sb h2, sc (k_value_Truth (decide (0 < (↑sel.snd.fst : Int))))] (by kernel_rfl)
  · exact wkr [sl [4, 3, 1, 0, 5, 6] hsel, sb h1] (by kernel_rfl)
end Go.AM

namespace Go.AM
set_option maxRecDepth 100000
set_option maxHeartbeats 1000000
set_option linter.unusedSimpArgs false
set_option linter.unusedVariables false
theorem rresI_eq (frs : List Fr) (q n : Str) (k : Nat) (f : Fr) (els : Int × Int × Bool) : ∀ (c : List Col) (j : Nat), rresI frs q n k f els c j = bif decide (0 ≤ idxF (fun c => colC c n) c j) then (pm1 (k + 1), idxF (fun c => colC c n) c j, true) else els
  | [], j => by simp [rresI, idxF]
  | x :: r, j => by
    rcases Bool.eq_false_or_eq_true (x.name.toList == n.toList) with h | h
    · simp [rresI, idxF, colC, h]
    · have ih := rresI_eq frs q n k f els r (j + 1)
      simp only [colC] at ih
      simp only [rresI, idxF, colC, h, cond_false]
      exact ih
theorem sres_eq (frs : List Fr) (q n : Str) : ∀ k, sres frs q n k = rres frs q n k
  | 0 => rfl
  | k + 1 => by simp only [sres, rres, rresI_eq, sres_eq frs q n k]
theorem sResolve_eq (frs : List Fr) (q n : Str) : sResolve frs q n = rResolve frs q n := sres_eq frs q n _
theorem el_sFr (frs : List Fr) (q n : Str) (h : (!(sResolve frs q n).2.2) = false) : ElAt (frs.map Fr.cells) (sResolve frs q n).1 (rFr frs q n).cells 4 := by
  rw [sResolve_eq] at h ⊢; exact el_rFr frs q n (by simpa using h)
theorem sRes_nn {frs : List Fr} {q n : Str} (h : (!(sResolve frs q n).2.2) = false) : decide ((sResolve frs q n).2.1 < 0) = false := by
  rw [sResolve_eq] at h ⊢
  obtain ⟨i, j, e, _⟩ := rResolve_ok (by simpa using h : (rResolve frs q n).2.2 = true)
  rw [e]; simp
theorem at_lt_of {l : List V} {k : Int} (h : decide ((((l.map V.cells).length : Nat) : Int) ≤ k) = false) : k < l.length := by simp at h; omega
noncomputable def L_evL (f : X → V × Int) (op : List V → V × Int) (e : X) (frs : List Fr) (tb : List Tb) (i : Nat) (out : List V) : Cfg := loopAt B.evaluate_Value 0 [(1, fsl frs), (2, tsl tb), (3, .p 0 0), (6, .p 1 0), (11, .own 2 out.length), (73, xsl e.args), (74, iv ((cellsX e.args).length : Nat)), (75, iv (i : Nat))] [.box e.cells, .box [iv 0, iv 0, sv ⟨#[]⟩], .row Ty.Value (out.map V.cells) false]
def evL (f : X → V × Int) (op : List V → V × Int) (e : X) (frs : List Fr) (tb : List Tb) : List (X) → Nat → (List V) → V × Int
  | [], i, out =>
    ((op out).fst, (op out).snd)
  | x :: r, i, out =>
    bif (f x).snd != 0 then
      (V.mk 0 0 (ByteArray.mk #[]), (f x).snd)
    else
      evL f op e frs tb r (i + 1) (out ++ [(f x).fst])
theorem k_evL_loop (f : X → V × Int) (op : List V → V × Int) (e : X) (frs : List Fr) (tb : List Tb) (hl : Few e.args) (hf : ∀ x ∈ e.args, Pure S.evaluate_Value [x.av, fsl frs, tsl tb] (.tup [(f x).1.av, iv (f x).2])) (hfg : ∀ x ∈ e.args, (f x).1.Good) (hop : ∀ l : List V, l.length = e.args.length → (∀ v ∈ l, v.Good) → Pure S.evaluate_operation [e.av, vsl l] (.tup [(op l).1.av, iv (op l).2])) : ∀ (kk i : Nat) (out : List V), i + kk = (e.args).length → (out.length = i) → (∀ v ∈ out, v.Good) → Good E0 B.evaluate_Value [] (L_evL f op e frs tb i out) (Shut 0 fun r h => r = (.tup [(evL f op e frs tb ((e.args).drop i) i out).1.av, iv (evL f op e frs tb ((e.args).drop i) i out).2]) ∧ h = []) := by
  intro kk
  induction kk with
  | zero =>
    intro i out hi ho hg
    have h0 : decide (((i : Nat) : Int) < (((cellsX e.args).length : Nat) : Int)) = false := by simp; omega
    have e0 : (e.args).drop i = [] := List.drop_of_length_le (by omega)
    rw [e0]
    simp only [evL]
    refine good_unroll ?_
    exact wkr [sb h0, skx ((True ∧ True ∧ True ∧ True ∧ True ∧ True ∧ True ∧ True ∧ True ∧ True ∧ True) ∧ out.length = (List.map V.cells out).length ∧ True) [] (hop (out) (by first | assumption | omega) (by first | assumption | omega))] (by kernel_rfl)
  | succ kk ih =>
    intro i out hi ho hg
    obtain ⟨x, hx⟩ := ex_at (l := e.args) (i := i) (by omega)
    have h0 : decide (((i : Nat) : Int) < (((cellsX e.args).length : Nat) : Int)) = true := by simp; omega
    have hw := wrap_nat i (by first | omega | (simp only [Short, Few] at *; omega))
    have hfx := hf x (List.mem_of_getElem? hx); have hgx := hfg x (List.mem_of_getElem? hx); have hlen : out.length ≤ 1000 := by have := at_lt hx; simp only [Few] at hl; omega
    rw [drop_at hx]
    simp only [evL]
    refine good_unroll ?_
    cases h1 : (f x).snd != 0
    · exact wkl (c' := (Cfg.mk (L_evL f op e frs tb (i + 1) (out ++ [(f x).fst])).n (L_evL f op e frs tb (i + 1) (out ++ [(f x).fst])).todo [(1, AV.sl (List.map Fr.cells frs)), (2, AV.sl (List.map Tb.cells tb)), (3, AV.p 0 0), (6, AV.p 1 0), (11, AV.own 2 (List.map V.cells out ++ [[iv (f x).fst.kind, iv (f x).fst.int, sv (f x).fst.text]]).length), (73, AV.sl (cellsX e.args)), (74, iv (↑(cellsX e.args).length : Int)), (75, iv (↑(i + 1) : Int))] [Blk.box [iv e.kind, iv e.op, bv e.not, iv e.val.kind, iv e.val.int, sv e.val.text, sv e.table, sv e.name, AV.sl (cellsX e.args), AV.sl (cellsQ e.sub)], Blk.box [iv 0, iv 0, sv (ByteArray.mk #[])], Blk.row 24 (List.map V.cells out ++ [[iv (f x).fst.kind, iv (f x).fst.int, sv (f x).fst.text]]) false])) [sb h0, se (elAt_X hx), sc hfx, sb h1, sqx (AllLen [[iv (f x).fst.kind, iv (f x).fst.int, sv (f x).fst.text]] 3 ∧ out.length = (List.map V.cells out).length ∧ (((List.map V.cells out).length + [[iv (f x).fst.kind, iv (f x).fst.int, sv (f x).fst.text]].length) * 32).le 140737488355328), si hw] [1, 2, 3, 6, 11, 73, 74, 75] 3 (by kernel_rfl) (good_same (show ([(1, AV.sl (List.map Fr.cells frs)), (2, AV.sl (List.map Tb.cells tb)), (3, AV.p 0 0), (6, AV.p 1 0), (11, AV.own 2 (List.map V.cells out ++ [[iv (f x).fst.kind, iv (f x).fst.int, sv (f x).fst.text]]).length), (73, AV.sl (cellsX e.args)), (74, iv (↑(cellsX e.args).length : Int)), (75, iv (↑(i + 1) : Int))] : TS) = [(1, AV.sl (List.map Fr.cells frs)), (2, AV.sl (List.map Tb.cells tb)), (3, AV.p 0 0), (6, AV.p 1 0), (11, AV.own 2 (out ++ [(f x).fst]).length), (73, AV.sl (cellsX e.args)), (74, iv (↑(cellsX e.args).length : Int)), (75, iv (↑(i + 1) : Int))] by first | rfl | (simp; done) | (simp [X.cells, Qy.cells, V.cells, Col.cells, Rw.cells, Tb.cells, Fr.cells, Sch.cells, Tp.cells, Pl.cells, xCol, xLit, xBin, xNeg]; done)) (show ([Blk.box [iv e.kind, iv e.op, bv e.not, iv e.val.kind, iv e.val.int, sv e.val.text, sv e.table, sv e.name, AV.sl (cellsX e.args), AV.sl (cellsQ e.sub)], Blk.box [iv 0, iv 0, sv (ByteArray.mk #[])], Blk.row 24 (List.map V.cells out ++ [[iv (f x).fst.kind, iv (f x).fst.int, sv (f x).fst.text]]) false] : Heap) = [Blk.box [iv e.kind, iv e.op, bv e.not, iv e.val.kind, iv e.val.int, sv e.val.text, sv e.table, sv e.name, AV.sl (cellsX e.args), AV.sl (cellsQ e.sub)], Blk.box [iv 0, iv 0, sv (ByteArray.mk #[])], Blk.row 24 (List.map V.cells (out ++ [(f x).fst])) false] by first | rfl | (simp; done) | (simp [X.cells, Qy.cells, V.cells, Col.cells, Rw.cells, Tb.cells, Fr.cells, Sch.cells, Tp.cells, Pl.cells, xCol, xLit, xBin, xNeg]; done)) (ih (i + 1) (out ++ [(f x).fst]) (by omega) (by first | assumption | (simp; omega) | exact fun v hv => (List.mem_append.1 hv).elim (hg v) fun h => by simp only [List.mem_singleton] at h; exact h ▸ hgx) (by first | assumption | (simp; omega) | exact fun v hv => (List.mem_append.1 hv).elim (hg v) fun h => by simp only [List.mem_singleton] at h; exact h ▸ hgx)))
    · exact wkr [sb h0, se (elAt_X hx), sc hfx, sb h1] (by kernel_rfl)
structure OpKind (e : X) : Prop where
  fok : formed e = true
  k1 : e.kind ≠ 1
  k2 : e.kind ≠ 2
  k8 : ¬(8 ≤ e.kind ∧ e.kind ≤ 12)
def valF (f : X → V × Int) (op : List V → V × Int) (agg : V × Int) (e : X) (frs : List Fr) (tb : List Tb) : V × Int :=
  bif !formed e then
    (V.mk 0 0 (ByteArray.mk #[]), 17)
  else
    bif e.kind == 1 then
      (e.val, 0)
    else
      bif e.kind == 2 then
        bif !(sResolve frs e.table e.name).snd.snd then
          (V.mk 0 0 (ByteArray.mk #[]), 3)
        else
          bif decide ((↑(List.map V.cells (rFr frs e.table e.name).vals).length : Int) ≤ (sResolve frs e.table e.name).snd.fst) then
            (V.mk 0 0 (ByteArray.mk #[]), 17)
          else
            (valAt (rFr frs e.table e.name).vals (sResolve frs e.table e.name).snd.fst, 0)
      else
        bif e.kind == 8 then
          (agg.fst, agg.snd)
        else
          bif e.kind == 9 then
            (agg.fst, agg.snd)
          else
            bif e.kind == 10 then
              (agg.fst, agg.snd)
            else
              bif e.kind == 11 then
                (agg.fst, agg.snd)
              else
                bif e.kind == 12 then
                  (agg.fst, agg.snd)
                else
                  evL f op e frs tb e.args 0 ([])
theorem k_evaluate_Value__F (f : X → V × Int) (op : List V → V × Int) (agg : V × Int) (e : X) (frs : List Fr) (tb : List Tb) (n : Nat) (hfo : FsOk n frs) (hl : Few e.args) (hf : ∀ x ∈ e.args, Pure S.evaluate_Value [x.av, fsl frs, tsl tb] (.tup [(f x).1.av, iv (f x).2])) (hfg : ∀ x ∈ e.args, (f x).1.Good) (hop : OpKind e → ∀ l : List V, l.length = e.args.length → (∀ v ∈ l, v.Good) → Pure S.evaluate_operation [e.av, vsl l] (.tup [(op l).1.av, iv (op l).2])) (hagg : formed e = true → 8 ≤ e.kind → e.kind ≤ 12 → Pure S.evaluate_aggregate [e.av, fsl frs, tsl tb] (.tup [agg.1.av, iv agg.2])) : ACallsTo E0 S.evaluate_Value [e.av, fsl frs, tsl tb] [] (.tup [(valF f op agg e frs tb).1.av, iv (valF f op agg e frs tb).2]) [] := by
  unfold valF
  cases h1 : !formed e
  · cases h2 : e.kind == 1
    · cases h3 : e.kind == 2
      · cases h4 : e.kind == 8
        · cases h5 : e.kind == 9
          · cases h6 : e.kind == 10
            · cases h7 : e.kind == 11
              · cases h8 : e.kind == 12
                · exact wkc At.evaluate_Value (c' := (Cfg.mk (L_evL f op e frs tb 0 []).n (L_evL f op e frs tb 0 []).todo [(1, AV.sl (List.map Fr.cells frs)), (2, AV.sl (List.map Tb.cells tb)), (3, AV.p 0 0), (6, AV.p 1 0), (11, AV.nl), (73, AV.sl (cellsX e.args)), (74, iv (↑(cellsX e.args).length : Int)), (75, iv 0)] [Blk.box [iv e.kind, iv e.op, bv e.not, iv e.val.kind, iv e.val.int, sv e.val.text, sv e.table, sv e.name, AV.sl (cellsX e.args), AV.sl (cellsQ e.sub)], Blk.box [iv 0, iv 0, sv (ByteArray.mk #[])]])) [sc (k_scope_Formed (e)), sb h1, sb h2, sb h3, sb h4, sb h5, sb h6, sb h7, sb h8] [1, 2, 3, 6, 11, 73, 74, 75] 2 (by kernel_rfl) (good_ownCut (c' := L_evL f op e frs tb 0 []) 11 Ty.Value [1, 2, 3, 6, 11, 73, 74, 75] 3 (by kernel_rfl) (by kernel_rfl) (by kernel_rfl) (k_evL_loop f op e frs tb hl hf hfg (hop ⟨by simpa using h1, by simpa using h2, by simpa using h3, by simp at *; omega⟩) e.args.length 0 ([]) (by simp) (by simp) (by simp)))
                · exact wk At.evaluate_Value [sc (k_scope_Formed (e)), sb h1, sb h2, sb h3, sb h4, sb h5, sb h6, sb h7, sb h8, sc (hagg (by first | assumption | exact hfo.short | exact hfo.cols | exact hfo.wrap | exact sRes_nn (by assumption) | exact at_lt_of (by assumption) | (simp_all; done) | (simp at *; omega)) (by first | assumption | exact hfo.short | exact hfo.cols | exact hfo.wrap | exact sRes_nn (by assumption) | exact at_lt_of (by assumption) | (simp_all; done) | (simp at *; omega)) (by first | assumption | exact hfo.short | exact hfo.cols | exact hfo.wrap | exact sRes_nn (by assumption) | exact at_lt_of (by assumption) | (simp_all; done) | (simp at *; omega)))] (by kernel_rfl)
              · exact wk At.evaluate_Value [sc (k_scope_Formed (e)), sb h1, sb h2, sb h3, sb h4, sb h5, sb h6, sb h7, sc (hagg (by first | assumption | exact hfo.short | exact hfo.cols | exact hfo.wrap | exact sRes_nn (by assumption) | exact at_lt_of (by assumption) | (simp_all; done) | (simp at *; omega)) (by first | assumption | exact hfo.short | exact hfo.cols | exact hfo.wrap | exact sRes_nn (by assumption) | exact at_lt_of (by assumption) | (simp_all; done) | (simp at *; omega)) (by first | assumption | exact hfo.short | exact hfo.cols | exact hfo.wrap | exact sRes_nn (by assumption) | exact at_lt_of (by assumption) | (simp_all; done) | (simp at *; omega)))] (by kernel_rfl)
            · exact wk At.evaluate_Value [sc (k_scope_Formed (e)), sb h1, sb h2, sb h3, sb h4, sb h5, sb h6, sc (hagg (by first | assumption | exact hfo.short | exact hfo.cols | exact hfo.wrap | exact sRes_nn (by assumption) | exact at_lt_of (by assumption) | (simp_all; done) | (simp at *; omega)) (by first | assumption | exact hfo.short | exact hfo.cols | exact hfo.wrap | exact sRes_nn (by assumption) | exact at_lt_of (by assumption) | (simp_all; done) | (simp at *; omega)) (by first | assumption | exact hfo.short | exact hfo.cols | exact hfo.wrap | exact sRes_nn (by assumption) | exact at_lt_of (by assumption) | (simp_all; done) | (simp at *; omega)))] (by kernel_rfl)
          · exact wk At.evaluate_Value [sc (k_scope_Formed (e)), sb h1, sb h2, sb h3, sb h4, sb h5, sc (hagg (by first | assumption | exact hfo.short | exact hfo.cols | exact hfo.wrap | exact sRes_nn (by assumption) | exact at_lt_of (by assumption) | (simp_all; done) | (simp at *; omega)) (by first | assumption | exact hfo.short | exact hfo.cols | exact hfo.wrap | exact sRes_nn (by assumption) | exact at_lt_of (by assumption) | (simp_all; done) | (simp at *; omega)) (by first | assumption | exact hfo.short | exact hfo.cols | exact hfo.wrap | exact sRes_nn (by assumption) | exact at_lt_of (by assumption) | (simp_all; done) | (simp at *; omega)))] (by kernel_rfl)
        · exact wk At.evaluate_Value [sc (k_scope_Formed (e)), sb h1, sb h2, sb h3, sb h4, sc (hagg (by first | assumption | exact hfo.short | exact hfo.cols | exact hfo.wrap | exact sRes_nn (by assumption) | exact at_lt_of (by assumption) | (simp_all; done) | (simp at *; omega)) (by first | assumption | exact hfo.short | exact hfo.cols | exact hfo.wrap | exact sRes_nn (by assumption) | exact at_lt_of (by assumption) | (simp_all; done) | (simp at *; omega)) (by first | assumption | exact hfo.short | exact hfo.cols | exact hfo.wrap | exact sRes_nn (by assumption) | exact at_lt_of (by assumption) | (simp_all; done) | (simp at *; omega)))] (by kernel_rfl)
      · cases h9 : !(sResolve frs e.table e.name).snd.snd
        · cases h10 : decide ((↑(List.map V.cells (rFr frs e.table e.name).vals).length : Int) ≤ (sResolve frs e.table e.name).snd.fst)
          · exact wk At.evaluate_Value [sc (k_scope_Formed (e)), sb h1, sb h2, sb h3, sc (k_scope_Resolve (frs) (e.table) (e.name) (by first | assumption | exact hfo.short | exact hfo.cols | exact hfo.wrap | exact sRes_nn (by assumption) | exact at_lt_of (by assumption) | (simp_all; done) | (simp at *; omega)) (by first | assumption | exact hfo.short | exact hfo.cols | exact hfo.wrap | exact sRes_nn (by assumption) | exact at_lt_of (by assumption) | (simp_all; done) | (simp at *; omega)) (by first | assumption | exact hfo.short | exact hfo.cols | exact hfo.wrap | exact sRes_nn (by assumption) | exact at_lt_of (by assumption) | (simp_all; done) | (simp at *; omega))), sb h9, se (el_sFr (frs) (e.table) (e.name) (by first | assumption | exact hfo.short | exact hfo.cols | exact hfo.wrap | exact sRes_nn (by assumption) | exact at_lt_of (by assumption) | (simp_all; done) | (simp at *; omega))), sb h10, se (el_sFr (frs) (e.table) (e.name) (by first | assumption | exact hfo.short | exact hfo.cols | exact hfo.wrap | exact sRes_nn (by assumption) | exact at_lt_of (by assumption) | (simp_all; done) | (simp at *; omega))), se (el_val ((rFr frs e.table e.name).vals) ((sResolve frs e.table e.name).snd.fst) (by first | assumption | exact hfo.short | exact hfo.cols | exact hfo.wrap | exact sRes_nn (by assumption) | exact at_lt_of (by assumption) | (simp_all; done) | (simp at *; omega)) (by first | assumption | exact hfo.short | exact hfo.cols | exact hfo.wrap | exact sRes_nn (by assumption) | exact at_lt_of (by assumption) | (simp_all; done) | (simp at *; omega)))] (by kernel_rfl)
          · exact wk At.evaluate_Value [sc (k_scope_Formed (e)), sb h1, sb h2, sb h3, sc (k_scope_Resolve (frs) (e.table) (e.name) (by first | assumption | exact hfo.short | exact hfo.cols | exact hfo.wrap | exact sRes_nn (by assumption) | exact at_lt_of (by assumption) | (simp_all; done) | (simp at *; omega)) (by first | assumption | exact hfo.short | exact hfo.cols | exact hfo.wrap | exact sRes_nn (by assumption) | exact at_lt_of (by assumption) | (simp_all; done) | (simp at *; omega)) (by first | assumption | exact hfo.short | exact hfo.cols | exact hfo.wrap | exact sRes_nn (by assumption) | exact at_lt_of (by assumption) | (simp_all; done) | (simp at *; omega))), sb h9, se (el_sFr (frs) (e.table) (e.name) (by first | assumption | exact hfo.short | exact hfo.cols | exact hfo.wrap | exact sRes_nn (by assumption) | exact at_lt_of (by assumption) | (simp_all; done) | (simp at *; omega))), sb h10] (by kernel_rfl)
        · exact wk At.evaluate_Value [sc (k_scope_Formed (e)), sb h1, sb h2, sb h3, sc (k_scope_Resolve (frs) (e.table) (e.name) (by first | assumption | exact hfo.short | exact hfo.cols | exact hfo.wrap | exact sRes_nn (by assumption) | exact at_lt_of (by assumption) | (simp_all; done) | (simp at *; omega)) (by first | assumption | exact hfo.short | exact hfo.cols | exact hfo.wrap | exact sRes_nn (by assumption) | exact at_lt_of (by assumption) | (simp_all; done) | (simp at *; omega)) (by first | assumption | exact hfo.short | exact hfo.cols | exact hfo.wrap | exact sRes_nn (by assumption) | exact at_lt_of (by assumption) | (simp_all; done) | (simp at *; omega))), sb h9] (by kernel_rfl)
    · exact wk At.evaluate_Value [sc (k_scope_Formed (e)), sb h1, sb h2] (by kernel_rfl)
  · exact wk At.evaluate_Value [sc (k_scope_Formed (e)), sb h1] (by kernel_rfl)
end Go.AM
