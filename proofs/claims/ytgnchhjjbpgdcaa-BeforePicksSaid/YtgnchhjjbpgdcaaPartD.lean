/-
  Contracts of the program's functions, part 3.
-/
import Derived.Test.YtgnchhjjbpgdcaaPartC
import Derived.Carry
import Derived.ChangeSame
import Derived.Lib.LaidU8
import Derived.FnData
namespace Go.AM
set_option maxRecDepth 100000
set_option maxHeartbeats 1000000
set_option linter.unusedSimpArgs false
set_option linter.unusedVariables false
/-- before.row: the row on its way, its values a row of the call's own. -/
abbrev RB (s : Sch) (old new : List V) (tb : List Tb) : Heap := [.box [sv s.name, .sl (s.cols.map Col.cells), vsl old, .own 1 new.length, tsl tb], .row Ty.Value (new.map V.cells) false]
def seNull : Se := ⟨⟨#[]⟩, .mk 0 0 false ⟨0, 0, ⟨#[]⟩⟩ ⟨#[]⟩ ⟨#[]⟩ [] []⟩
def Ac.set0 (a : Ac) : Se := a.sets.headD seNull
theorem el_set0 (a : Ac) (h : (((((a.sets.map Se.cells).length : Nat) : Int)) != 1) = false) : ElAt (a.sets.map Se.cells) 0 (Se.cells a.set0) 11 := by
  unfold Ac.set0
  cases hs : a.sets with
  | nil => rw [hs] at h; simp at h
  | cons p r => exact ⟨by decide, rfl, rfl⟩
def rowSet (f : X → V × Int) (a : Ac) (fr : List Fr) (s : Sch) (old new : List V) (tb : List Tb) : Int × (List V) :=
  bif (↑(List.map Se.cells a.sets).length : Int) != 1 then
    (17, new)
  else
    bif decide (idxF (fun c => colC c a.set0.col) s.cols 0 < 0) then
      (3, new)
    else
      bif (f a.set0.ex).snd != 0 then
        ((f a.set0.ex).snd, new)
      else
        bif (↑new.length : Int) != (↑(List.map Col.cells s.cols).length : Int) then
          (17, new)
        else
          (0, new.set (idxF (fun c => colC c a.set0.col) s.cols 0).toNat (f a.set0.ex).fst)
theorem k_before_row_set (f : X → V × Int) (a : Ac) (fr : List Fr) (s : Sch) (old new : List V) (tb : List Tb) (hs : Short s.cols) (hlt : idxF (fun c => colC c a.set0.col) s.cols 0 < (s.cols.length : Int)) (hf : Pure S.evaluate_Value [a.set0.ex.av, fsl fr, tsl tb] (.tup [(f a.set0.ex).1.av, iv (f a.set0.ex).2])) : ACallsTo E0 S.before_row_set [.p 0 0, a.av, fsl fr] (RB s old new tb) (iv (rowSet f a fr s old new tb).1) (RB s old (rowSet f a fr s old new tb).2 tb) := by
  unfold rowSet
  cases h1 : (↑(List.map Se.cells a.sets).length : Int) != 1
  · cases h2 : decide (idxF (fun c => colC c a.set0.col) s.cols 0 < 0)
    · cases h3 : (f a.set0.ex).snd != 0
      · cases h4 : (↑new.length : Int) != (↑(List.map Col.cells s.cols).length : Int)
        · obtain ⟨x5, e5⟩ := ex_at (l := new) (i := (idxF (fun c => colC c a.set0.col) s.cols 0).toNat) (by first | assumption | omega | (simp at h2 h4; omega))
          exact wkS At.before_row_set (y := iv 0) (H := [Blk.box [sv s.name, AV.sl (List.map Col.cells s.cols), AV.sl (List.map V.cells old), AV.own 1 new.length, AV.sl (List.map Tb.cells tb)], Blk.row Ty.Value ((List.map V.cells new).set (idxF (fun c => colC c a.set0.col) s.cols 0).toNat [iv (f a.set0.ex).fst.kind, iv (f a.set0.ex).fst.int, sv (f a.set0.ex).fst.text]) false]) [sb h1, sd [(6, [se (el_set0 (a) (by first | assumption | omega | (simp at h2 h4; omega)))]), (9, [sc (k_schema_Find (s) (a.set0.col) (by first | assumption | omega | (simp at h2 h4; omega)))])], sb h2, sdm [(2, [se (el_set0 (a) (by first | assumption | omega | (simp at h2 h4; omega)))]), (10, [sc hf])] 0 [(0, AV.p 0 0), (1, AV.agg [iv a.kind, sv a.table, AV.sl (List.map (fun r => [AV.sl (cellsX r)]) a.rows), AV.sl (cellsQ a.query), AV.sl (List.map Se.cells a.sets), AV.sl (cellsX a.wh), sv a.text]), (2, AV.sl (List.map Fr.cells fr)), (4, AV.p 2 0), (6, iv 0), (7, iv (idxF (fun c => colC c a.set0.col) s.cols 0)), (8, AV.p 3 0), (9, iv (f a.set0.ex).snd), (10, AV.p 2 4), (11, AV.sl (List.map Se.cells a.sets)), (12, iv (↑(List.map Se.cells a.sets).length : Int)), (13, AV.bl false), (14, AV.p 0 0), (15, AV.p 0 0), (16, AV.p 0 0), (17, AV.agg [sv s.name, AV.sl (List.map Col.cells s.cols)]), (18, AV.p 2 4), (19, AV.sl (List.map Se.cells a.sets)), (20, AV.dp [sv a.set0.col, iv a.set0.ex.kind, iv a.set0.ex.op, bv a.set0.ex.not, iv a.set0.ex.val.kind, iv a.set0.ex.val.int, sv a.set0.ex.val.text, sv a.set0.ex.table, sv a.set0.ex.name, AV.sl (cellsX a.set0.ex.args), AV.sl (cellsQ a.set0.ex.sub)]), (21, AV.dp [sv a.set0.col, iv a.set0.ex.kind, iv a.set0.ex.op, bv a.set0.ex.not, iv a.set0.ex.val.kind, iv a.set0.ex.val.int, sv a.set0.ex.val.text, sv a.set0.ex.table, sv a.set0.ex.name, AV.sl (cellsX a.set0.ex.args), AV.sl (cellsQ a.set0.ex.sub)]), (22, sv a.set0.col), (23, iv (idxF (fun c => colC c a.set0.col) s.cols 0)), (24, iv (idxF (fun c => colC c a.set0.col) s.cols 0)), (25, AV.bl false), (26, AV.tup [AV.agg [iv (f a.set0.ex).fst.kind, iv (f a.set0.ex).fst.int, sv (f a.set0.ex).fst.text], iv (f a.set0.ex).snd]), (27, AV.p 2 4), (28, AV.sl (List.map Se.cells a.sets)), (29, AV.dp [sv a.set0.col, iv a.set0.ex.kind, iv a.set0.ex.op, bv a.set0.ex.not, iv a.set0.ex.val.kind, iv a.set0.ex.val.int, sv a.set0.ex.val.text, sv a.set0.ex.table, sv a.set0.ex.name, AV.sl (cellsX a.set0.ex.args), AV.sl (cellsQ a.set0.ex.sub)]), (30, AV.dp [iv a.set0.ex.kind, iv a.set0.ex.op, bv a.set0.ex.not, iv a.set0.ex.val.kind, iv a.set0.ex.val.int, sv a.set0.ex.val.text, sv a.set0.ex.table, sv a.set0.ex.name, AV.sl (cellsX a.set0.ex.args), AV.sl (cellsQ a.set0.ex.sub)]), (31, AV.agg [iv a.set0.ex.kind, iv a.set0.ex.op, bv a.set0.ex.not, iv a.set0.ex.val.kind, iv a.set0.ex.val.int, sv a.set0.ex.val.text, sv a.set0.ex.table, sv a.set0.ex.name, AV.sl (cellsX a.set0.ex.args), AV.sl (cellsQ a.set0.ex.sub)]), (32, AV.sl (List.map Fr.cells fr)), (33, AV.p 0 0), (34, AV.p 0 0), (35, AV.p 0 4), (36, AV.sl (List.map Tb.cells tb)), (37, AV.tup [AV.agg [iv (f a.set0.ex).fst.kind, iv (f a.set0.ex).fst.int, sv (f a.set0.ex).fst.text], iv (f a.set0.ex).snd]), (38, AV.agg [iv (f a.set0.ex).fst.kind, iv (f a.set0.ex).fst.int, sv (f a.set0.ex).fst.text]), (39, iv (f a.set0.ex).snd)] [Blk.box [sv s.name, AV.sl (List.map Col.cells s.cols), AV.sl (List.map V.cells old), AV.own 1 new.length, AV.sl (List.map Tb.cells tb)], Blk.row Ty.Value (List.map V.cells new) false, Blk.box [iv a.kind, sv a.table, AV.sl (List.map (fun r => [AV.sl (cellsX r)]) a.rows), AV.sl (cellsQ a.query), AV.sl (List.map Se.cells a.sets), AV.sl (cellsX a.wh), sv a.text], Blk.box [iv (f a.set0.ex).fst.kind, iv (f a.set0.ex).fst.int, sv (f a.set0.ex).fst.text]], sb h3, sd [(4, [sqx (new.length = (List.map V.cells new).length)])], sb h4, sd [(6, [sqx (OwnAt (List.map V.cells new) new.length (idxF (fun c => colC c a.set0.col) s.cols 0))]), (7, [sx (.el (x5.cells)) (And.intro (owed (p := True ∧ True ∧ True ∧ True)) (ownEl_map (V.cells) (n := new.length) (by simp) e5))])]] (by kernel_rfl) ⟨by first | rfl | (simp [List.map_set]; done) | (simp [List.map_set]; rfl), by first | rfl | (simp [List.map_set]; done) | (simp [List.map_set]; rfl)⟩
        · exact wk At.before_row_set [sb h1, sd [(6, [se (el_set0 (a) (by first | assumption | omega | (simp at h2 h4; omega)))]), (9, [sc (k_schema_Find (s) (a.set0.col) (by first | assumption | omega | (simp at h2 h4; omega)))])], sb h2, sdm [(2, [se (el_set0 (a) (by first | assumption | omega | (simp at h2 h4; omega)))]), (10, [sc hf])] 0 [(0, AV.p 0 0), (1, AV.agg [iv a.kind, sv a.table, AV.sl (List.map (fun r => [AV.sl (cellsX r)]) a.rows), AV.sl (cellsQ a.query), AV.sl (List.map Se.cells a.sets), AV.sl (cellsX a.wh), sv a.text]), (2, AV.sl (List.map Fr.cells fr)), (4, AV.p 2 0), (6, iv 0), (7, iv (idxF (fun c => colC c a.set0.col) s.cols 0)), (8, AV.p 3 0), (9, iv (f a.set0.ex).snd), (10, AV.p 2 4), (11, AV.sl (List.map Se.cells a.sets)), (12, iv (↑(List.map Se.cells a.sets).length : Int)), (13, AV.bl false), (14, AV.p 0 0), (15, AV.p 0 0), (16, AV.p 0 0), (17, AV.agg [sv s.name, AV.sl (List.map Col.cells s.cols)]), (18, AV.p 2 4), (19, AV.sl (List.map Se.cells a.sets)), (20, AV.dp [sv a.set0.col, iv a.set0.ex.kind, iv a.set0.ex.op, bv a.set0.ex.not, iv a.set0.ex.val.kind, iv a.set0.ex.val.int, sv a.set0.ex.val.text, sv a.set0.ex.table, sv a.set0.ex.name, AV.sl (cellsX a.set0.ex.args), AV.sl (cellsQ a.set0.ex.sub)]), (21, AV.dp [sv a.set0.col, iv a.set0.ex.kind, iv a.set0.ex.op, bv a.set0.ex.not, iv a.set0.ex.val.kind, iv a.set0.ex.val.int, sv a.set0.ex.val.text, sv a.set0.ex.table, sv a.set0.ex.name, AV.sl (cellsX a.set0.ex.args), AV.sl (cellsQ a.set0.ex.sub)]), (22, sv a.set0.col), (23, iv (idxF (fun c => colC c a.set0.col) s.cols 0)), (24, iv (idxF (fun c => colC c a.set0.col) s.cols 0)), (25, AV.bl false), (26, AV.tup [AV.agg [iv (f a.set0.ex).fst.kind, iv (f a.set0.ex).fst.int, sv (f a.set0.ex).fst.text], iv (f a.set0.ex).snd]), (27, AV.p 2 4), (28, AV.sl (List.map Se.cells a.sets)), (29, AV.dp [sv a.set0.col, iv a.set0.ex.kind, iv a.set0.ex.op, bv a.set0.ex.not, iv a.set0.ex.val.kind, iv a.set0.ex.val.int, sv a.set0.ex.val.text, sv a.set0.ex.table, sv a.set0.ex.name, AV.sl (cellsX a.set0.ex.args), AV.sl (cellsQ a.set0.ex.sub)]), (30, AV.dp [iv a.set0.ex.kind, iv a.set0.ex.op, bv a.set0.ex.not, iv a.set0.ex.val.kind, iv a.set0.ex.val.int, sv a.set0.ex.val.text, sv a.set0.ex.table, sv a.set0.ex.name, AV.sl (cellsX a.set0.ex.args), AV.sl (cellsQ a.set0.ex.sub)]), (31, AV.agg [iv a.set0.ex.kind, iv a.set0.ex.op, bv a.set0.ex.not, iv a.set0.ex.val.kind, iv a.set0.ex.val.int, sv a.set0.ex.val.text, sv a.set0.ex.table, sv a.set0.ex.name, AV.sl (cellsX a.set0.ex.args), AV.sl (cellsQ a.set0.ex.sub)]), (32, AV.sl (List.map Fr.cells fr)), (33, AV.p 0 0), (34, AV.p 0 0), (35, AV.p 0 4), (36, AV.sl (List.map Tb.cells tb)), (37, AV.tup [AV.agg [iv (f a.set0.ex).fst.kind, iv (f a.set0.ex).fst.int, sv (f a.set0.ex).fst.text], iv (f a.set0.ex).snd]), (38, AV.agg [iv (f a.set0.ex).fst.kind, iv (f a.set0.ex).fst.int, sv (f a.set0.ex).fst.text]), (39, iv (f a.set0.ex).snd)] [Blk.box [sv s.name, AV.sl (List.map Col.cells s.cols), AV.sl (List.map V.cells old), AV.own 1 new.length, AV.sl (List.map Tb.cells tb)], Blk.row Ty.Value (List.map V.cells new) false, Blk.box [iv a.kind, sv a.table, AV.sl (List.map (fun r => [AV.sl (cellsX r)]) a.rows), AV.sl (cellsQ a.query), AV.sl (List.map Se.cells a.sets), AV.sl (cellsX a.wh), sv a.text], Blk.box [iv (f a.set0.ex).fst.kind, iv (f a.set0.ex).fst.int, sv (f a.set0.ex).fst.text]], sb h3, sd [(4, [sqx (new.length = (List.map V.cells new).length)])], sb h4] (by kernel_rfl)
      · exact wk At.before_row_set [sb h1, sd [(6, [se (el_set0 (a) (by first | assumption | omega | (simp at h2 h4; omega)))]), (9, [sc (k_schema_Find (s) (a.set0.col) (by first | assumption | omega | (simp at h2 h4; omega)))])], sb h2, sdm [(2, [se (el_set0 (a) (by first | assumption | omega | (simp at h2 h4; omega)))]), (10, [sc hf])] 0 [(0, AV.p 0 0), (1, AV.agg [iv a.kind, sv a.table, AV.sl (List.map (fun r => [AV.sl (cellsX r)]) a.rows), AV.sl (cellsQ a.query), AV.sl (List.map Se.cells a.sets), AV.sl (cellsX a.wh), sv a.text]), (2, AV.sl (List.map Fr.cells fr)), (4, AV.p 2 0), (6, iv 0), (7, iv (idxF (fun c => colC c a.set0.col) s.cols 0)), (8, AV.p 3 0), (9, iv (f a.set0.ex).snd), (10, AV.p 2 4), (11, AV.sl (List.map Se.cells a.sets)), (12, iv (↑(List.map Se.cells a.sets).length : Int)), (13, AV.bl false), (14, AV.p 0 0), (15, AV.p 0 0), (16, AV.p 0 0), (17, AV.agg [sv s.name, AV.sl (List.map Col.cells s.cols)]), (18, AV.p 2 4), (19, AV.sl (List.map Se.cells a.sets)), (20, AV.dp [sv a.set0.col, iv a.set0.ex.kind, iv a.set0.ex.op, bv a.set0.ex.not, iv a.set0.ex.val.kind, iv a.set0.ex.val.int, sv a.set0.ex.val.text, sv a.set0.ex.table, sv a.set0.ex.name, AV.sl (cellsX a.set0.ex.args), AV.sl (cellsQ a.set0.ex.sub)]), (21, AV.dp [sv a.set0.col, iv a.set0.ex.kind, iv a.set0.ex.op, bv a.set0.ex.not, iv a.set0.ex.val.kind, iv a.set0.ex.val.int, sv a.set0.ex.val.text, sv a.set0.ex.table, sv a.set0.ex.name, AV.sl (cellsX a.set0.ex.args), AV.sl (cellsQ a.set0.ex.sub)]), (22, sv a.set0.col), (23, iv (idxF (fun c => colC c a.set0.col) s.cols 0)), (24, iv (idxF (fun c => colC c a.set0.col) s.cols 0)), (25, AV.bl false), (26, AV.tup [AV.agg [iv (f a.set0.ex).fst.kind, iv (f a.set0.ex).fst.int, sv (f a.set0.ex).fst.text], iv (f a.set0.ex).snd]), (27, AV.p 2 4), (28, AV.sl (List.map Se.cells a.sets)), (29, AV.dp [sv a.set0.col, iv a.set0.ex.kind, iv a.set0.ex.op, bv a.set0.ex.not, iv a.set0.ex.val.kind, iv a.set0.ex.val.int, sv a.set0.ex.val.text, sv a.set0.ex.table, sv a.set0.ex.name, AV.sl (cellsX a.set0.ex.args), AV.sl (cellsQ a.set0.ex.sub)]), (30, AV.dp [iv a.set0.ex.kind, iv a.set0.ex.op, bv a.set0.ex.not, iv a.set0.ex.val.kind, iv a.set0.ex.val.int, sv a.set0.ex.val.text, sv a.set0.ex.table, sv a.set0.ex.name, AV.sl (cellsX a.set0.ex.args), AV.sl (cellsQ a.set0.ex.sub)]), (31, AV.agg [iv a.set0.ex.kind, iv a.set0.ex.op, bv a.set0.ex.not, iv a.set0.ex.val.kind, iv a.set0.ex.val.int, sv a.set0.ex.val.text, sv a.set0.ex.table, sv a.set0.ex.name, AV.sl (cellsX a.set0.ex.args), AV.sl (cellsQ a.set0.ex.sub)]), (32, AV.sl (List.map Fr.cells fr)), (33, AV.p 0 0), (34, AV.p 0 0), (35, AV.p 0 4), (36, AV.sl (List.map Tb.cells tb)), (37, AV.tup [AV.agg [iv (f a.set0.ex).fst.kind, iv (f a.set0.ex).fst.int, sv (f a.set0.ex).fst.text], iv (f a.set0.ex).snd]), (38, AV.agg [iv (f a.set0.ex).fst.kind, iv (f a.set0.ex).fst.int, sv (f a.set0.ex).fst.text]), (39, iv (f a.set0.ex).snd)] [Blk.box [sv s.name, AV.sl (List.map Col.cells s.cols), AV.sl (List.map V.cells old), AV.own 1 new.length, AV.sl (List.map Tb.cells tb)], Blk.row Ty.Value (List.map V.cells new) false, Blk.box [iv a.kind, sv a.table, AV.sl (List.map (fun r => [AV.sl (cellsX r)]) a.rows), AV.sl (cellsQ a.query), AV.sl (List.map Se.cells a.sets), AV.sl (cellsX a.wh), sv a.text], Blk.box [iv (f a.set0.ex).fst.kind, iv (f a.set0.ex).fst.int, sv (f a.set0.ex).fst.text]], sb h3] (by kernel_rfl)
    · exact wk At.before_row_set [sb h1, sd [(6, [se (el_set0 (a) (by first | assumption | omega | (simp at h2 h4; omega)))]), (9, [sc (k_schema_Find (s) (a.set0.col) (by first | assumption | omega | (simp at h2 h4; omega)))])], sb h2] (by kernel_rfl)
  · exact wk At.before_row_set [sb h1] (by kernel_rfl)
theorem idxF_lt {α : Type} (p : α → Bool) : ∀ (l : List α) (i : Nat), idxF p l i < ((i + l.length : Nat) : Int) ∨ idxF p l i = -1
  | [], i => .inr rfl
  | x :: r, i => by
    simp only [idxF]
    cases p x
    · rcases idxF_lt p r (i + 1) with h | h
      · exact .inl (by simp only [List.length_cons]; simpa [Nat.add_assoc, Nat.add_comm 1] using h)
      · exact .inr h
    · exact .inl (by simp only [List.length_cons, cond_true]; omega)
theorem find_lt (s : Sch) (n : Str) : idxF (fun c => colC c n) s.cols 0 < (s.cols.length : Int) := by
  rcases idxF_lt (fun c => colC c n) s.cols 0 with h | h
  · simpa using h
  · omega
noncomputable def L_fireL (f : List V → X → V × Int) (I : List V → Prop) (t : Tg) (s : Sch) (old : List V) (tb : List Tb) (new0 : List V) (i : Nat) (nw : List V) : Cfg := loopAt B.before_row_fire 0 [(0, .p 0 0), (3, .p 2 0), (42, .sl (t.acts.map Ac.cells)), (43, iv ((t.acts.map Ac.cells).length : Nat)), (44, iv (i : Nat))] (RB s old nw tb ++ [.box t.cells])
def fireL (f : List V → X → V × Int) (I : List V → Prop) (t : Tg) (s : Sch) (old : List V) (tb : List Tb) (new0 : List V) : List (Ac) → Nat → (List V) → Int × (List V)
  | [], i, nw =>
    (0, nw)
  | x :: r, i, nw =>
    bif x.kind == 4 then
      (12, nw)
    else
      bif x.kind == 5 then
        bif (rowSet (f nw) x (tFrames t s old nw) s old nw tb).fst != 0 then
          ((rowSet (f nw) x (tFrames t s old nw) s old nw tb).fst, (rowSet (f nw) x (tFrames t s old nw) s old nw tb).snd)
        else
          fireL f I t s old tb new0 r (i + 1) ((rowSet (f nw) x (tFrames t s old nw) s old nw tb).snd)
      else
        (17, nw)
theorem k_fireL_loop (f : List V → X → V × Int) (I : List V → Prop) (t : Tg) (s : Sch) (old : List V) (tb : List Tb) (new0 : List V) (hs : Short s.cols) (ho : Short old) (hIs : ∀ nw, I nw → Short nw) (hf : ∀ nw, I nw → ∀ a ∈ t.acts, Pure S.evaluate_Value [a.set0.ex.av, fsl (tFrames t s old nw), tsl tb] (.tup [(f nw a.set0.ex).1.av, iv (f nw a.set0.ex).2])) (hI : ∀ nw, I nw → ∀ a ∈ t.acts, I (rowSet (f nw) a (tFrames t s old nw) s old nw tb).2) (hla : Short t.acts) : ∀ (kk i : Nat) (nw : List V), i + kk = (t.acts).length → (I nw) → Good E0 B.before_row_fire (RB s old new0 tb) (L_fireL f I t s old tb new0 i nw) (Shut 2 fun r h => r = (iv (fireL f I t s old tb new0 ((t.acts).drop i) i nw).1) ∧ h = (RB s old (fireL f I t s old tb new0 ((t.acts).drop i) i nw).2 tb)) := by
  intro kk
  induction kk with
  | zero =>
    intro i nw hi hv
    have h0 : decide (((i : Nat) : Int) < (((t.acts.map Ac.cells).length : Nat) : Int)) = false := by simp; omega
    have e0 : (t.acts).drop i = [] := List.drop_of_length_le (by omega)
    rw [e0]
    simp only [fireL]
    refine good_unroll ?_
    exact wkr [sb h0] (by kernel_rfl)
  | succ kk ih =>
    intro i nw hi hv
    obtain ⟨x, hx⟩ := ex_at (l := t.acts) (i := i) (by omega)
    have h0 : decide (((i : Nat) : Int) < (((t.acts.map Ac.cells).length : Nat) : Int)) = true := by simp; omega
    have hw := wrap_nat i (by first | omega | (simp only [Short, Few] at *; omega))
    have hfx := hf nw hv x (List.mem_of_getElem? hx)
    have hns := hIs nw hv
    have hlx := find_lt s x.set0.col
    rw [drop_at hx]
    simp only [fireL]
    refine good_unroll ?_
    cases h1 : x.kind == 4
    · cases h2 : x.kind == 5
      · exact wkr [sb h0, se (elAt_map (Ac.cells) hx rfl), sb h1, sb h2, sb (rfl : true = true)] (by kernel_rfl)
      · cases h3 : (rowSet (f nw) x (tFrames t s old nw) s old nw tb).fst != 0
        · exact wkl [sb h0, se (elAt_map (Ac.cells) hx rfl), sb h1, sb h2, sd [(15, [sl [1] (k_trigger_Frames__own (t) (s) (old) (nw) (by first | assumption | omega | (simp; done) | (simp; omega)) (by first | assumption | omega | (simp; done) | (simp; omega)) (by first | assumption | omega | (simp; done) | (simp; omega)))]), (16, [sl [0, 1] (k_before_row_set (f nw) (x) (tFrames t s old nw) (s) (old) (nw) (tb) (by first | assumption | omega | (simp; done) | (simp; omega)) (by first | assumption | omega | (simp; done) | (simp; omega)) hfx)])], sb h3, si hw] [0, 3, 42, 43, 44] 3 (by kernel_rfl) (ih (i + 1) ((rowSet (f nw) x (tFrames t s old nw) s old nw tb).snd) (by omega) (by first | assumption | exact hI nw hv x (List.mem_of_getElem? hx)))
        · exact wkr [sb h0, se (elAt_map (Ac.cells) hx rfl), sb h1, sb h2, sd [(15, [sl [1] (k_trigger_Frames__own (t) (s) (old) (nw) (by first | assumption | omega | (simp; done) | (simp; omega)) (by first | assumption | omega | (simp; done) | (simp; omega)) (by first | assumption | omega | (simp; done) | (simp; omega)))]), (16, [sl [0, 1] (k_before_row_set (f nw) (x) (tFrames t s old nw) (s) (old) (nw) (tb) (by first | assumption | omega | (simp; done) | (simp; omega)) (by first | assumption | omega | (simp; done) | (simp; omega)) hfx)])], sb h3] (by kernel_rfl)
    · exact wkr [sb h0, se (elAt_map (Ac.cells) hx rfl), sb h1, sb (rfl : true = true)] (by kernel_rfl)
def fire (tr : List V → Bool × Int) (f : List V → X → V × Int) (I : List V → Prop) (t : Tg) (s : Sch) (old nw : List V) (tb : List Tb) : Int × (List V) :=
  bif (tr nw).snd != 0 then
    ((tr nw).snd, nw)
  else
    bif !(tr nw).fst then
      ((tr nw).snd, nw)
    else
      fireL f I t s old tb nw t.acts 0 (nw)
theorem c_fire (tr : List V → Bool × Int) (f : List V → X → V × Int) (I : List V → Prop) (t : Tg) (s : Sch) (old nw : List V) (tb : List Tb) (hs : Short s.cols) (ho : Short old) (hIs : ∀ nw, I nw → Short nw) (hf : ∀ nw, I nw → ∀ a ∈ t.acts, Pure S.evaluate_Value [a.set0.ex.av, fsl (tFrames t s old nw), tsl tb] (.tup [(f nw a.set0.ex).1.av, iv (f nw a.set0.ex).2])) (hI : ∀ nw, I nw → ∀ a ∈ t.acts, I (rowSet (f nw) a (tFrames t s old nw) s old nw tb).2) (hla : Short t.acts) (hT : Pure S.evaluate_True [xsl t.when_, fsl (tFrames t s old nw), tsl tb] (.tup [bv (tr nw).1, iv (tr nw).2])) (hv : I nw) (hns : Short nw) : ACallsTo E0 S.before_row_fire [.p 0 0, t.av] (RB s old nw tb) (iv (fire tr f I t s old nw tb).1) (RB s old (fire tr f I t s old nw tb).2 tb) := by
  unfold fire
  cases h1 : (tr nw).snd != 0
  · cases h2 : !(tr nw).fst
    · exact wkc At.before_row_fire [sd [(15, [sl [1] (k_trigger_Frames__own (t) (s) (old) (nw) (by first | assumption | omega | (simp; done) | (simp; omega)) (by first | assumption | omega | (simp; done) | (simp; omega)) (by first | assumption | omega | (simp; done) | (simp; omega)))]), (20, [sc hT])], sg h1, sb h2] [0, 3, 42, 43, 44] 3 (by kernel_rfl) (k_fireL_loop f I t s old tb nw hs ho hIs hf hI hla t.acts.length 0 (nw) (by simp) hv)
    · exact wk At.before_row_fire [sd [(15, [sl [1] (k_trigger_Frames__own (t) (s) (old) (nw) (by first | assumption | omega | (simp; done) | (simp; omega)) (by first | assumption | omega | (simp; done) | (simp; omega)) (by first | assumption | omega | (simp; done) | (simp; omega)))]), (20, [sc hT])], sg h1, sb h2] (by kernel_rfl)
  · exact wk At.before_row_fire [sd [(15, [sl [1] (k_trigger_Frames__own (t) (s) (old) (nw) (by first | assumption | omega | (simp; done) | (simp; omega)) (by first | assumption | omega | (simp; done) | (simp; omega)) (by first | assumption | omega | (simp; done) | (simp; omega)))]), (20, [sc hT])], sb h1] (by kernel_rfl)
/-- Values of a row on its way. -/
structure NwOk (nw : List V) : Prop where
  len : nw.length ≤ 1000
  good : ∀ v ∈ nw, v.Good
theorem NwOk.short {nw : List V} (h : NwOk nw) : Short nw := by have := h.len; simp only [Short]; omega
theorem tFrames_mem {t : Tg} {s : Sch} {a b : List V} : (tFrames t s a b).length ≤ 2 ∧ ∀ f ∈ tFrames t s a b, f.cols = s.cols ∧ (f.vals = a ∨ f.vals = b) := by
  unfold tFrames
  cases t.each <;> cases t.event == 2 <;> cases t.event == 3 <;> cases t.event == 1 <;> simp
theorem tFrames_ok {t : Tg} {s : Sch} {a b : List V} (hs : Few s.cols) (ha : NwOk a) (hb : NwOk b) (N : Nat) (hN : N ≤ 900000) : FsOk N (tFrames t s a b) ∧ FsG (tFrames t s a b) := by
  obtain ⟨h1, h2⟩ := tFrames_mem (t := t) (s := s) (a := a) (b := b)
  have hv : ∀ f ∈ tFrames t s a b, ∀ v ∈ f.vals, v.Good := fun f hf v hv => by
    rcases (h2 f hf).2 with e | e <;> rw [e] at hv
    · exact ha.good v hv
    · exact hb.good v hv
  exact ⟨⟨by omega, fun f hf => by rw [(h2 f hf).1]; simp only [Few] at hs; simp only [Short]; omega, fun f hf v h => (hv f hf v h).small⟩, hv⟩
theorem bif2 {α β : Type} {P : β → Prop} {c : Bool} {x y : α × β} (hx : P x.2) (hy : P y.2) : P (cond c x y).2 := by cases c <;> assumption
theorem rowSet_ok {f : X → V × Int} {a : Ac} {fr : List Fr} {s : Sch} {old nw : List V} {tb : List Tb} (h : NwOk nw) (hf : (f a.set0.ex).1.Good) : NwOk (rowSet f a fr s old nw tb).2 := by
  have hset : ∀ i, NwOk (nw.set i (f a.set0.ex).1) := fun i => ⟨by rw [List.length_set]; exact h.len, fun v hv => (List.mem_or_eq_of_mem_set hv).elim (h.good v) fun e => e ▸ hf⟩
  unfold rowSet
  repeat' first | exact h | exact hset _ | refine bif2 (P := NwOk) ?_ ?_
/-- A trigger whose expressions have less than n levels. -/
structure TrOk (n : Nat) (t : Tg) : Prop where
  acts : Short t.acts
  sets : ∀ a ∈ t.acts, XOk n a.set0.ex
  when_ : ∀ x ∈ t.when_, XOk n x
def fireS (n : Nat) (t : Tg) (s : Sch) (old nw : List V) (tb : List Tb) : Int × List V :=
  fire (fun nw => eTrueL (fun x => eval n x (tFrames t s old nw) tb) t.when_) (fun nw x => eval n x (tFrames t s old nw) tb) NwOk t s old nw tb
theorem fireL_ok {f : List V → X → V × Int} {t : Tg} {s : Sch} {old : List V} {tb : List Tb} {new0 : List V} (hI : ∀ nw, NwOk nw → ∀ a ∈ t.acts, NwOk (rowSet (f nw) a (tFrames t s old nw) s old nw tb).2) : ∀ (l : List Ac) (i : Nat) (nw : List V), (∀ a ∈ l, a ∈ t.acts) → NwOk nw → NwOk (fireL f NwOk t s old tb new0 l i nw).2
  | [], _, _, _, h => h
  | x :: r, i, nw, hm, h => by
    have h1 := hI nw h x (hm x (by simp))
    have h2 := fun j nw h => fireL_ok (new0 := new0) hI r j nw (fun a ha => hm a (by simp [ha])) h
    unfold fireL
    repeat' first | exact h | exact h1 | exact h2 _ _ h | exact h2 _ _ h1 | refine bif2 (P := NwOk) ?_ ?_
theorem fireS_ok {n : Nat} {t : Tg} {s : Sch} {old nw : List V} {tb : List Tb} (hn : n ≤ 900000) (ht : TrOk n t) (hs : Few s.cols) (ho : NwOk old) (hw : NwOk nw) (htg : TbG tb) : NwOk (fireS n t s old nw tb).2 := by
  unfold fireS fire
  have h := fireL_ok (f := fun nw x => eval n x (tFrames t s old nw) tb) (t := t) (s := s) (old := old) (tb := tb) (new0 := nw) (fun nw h a ha => rowSet_ok h (eval_good n _ _ tb (ht.sets a ha) (tFrames_ok hs ho h n hn).2 htg)) t.acts 0 nw (fun a ha => ha) hw
  repeat' first | exact hw | exact h | refine bif2 (P := NwOk) ?_ ?_
theorem k_before_row_fire (n : Nat) (t : Tg) (s : Sch) (old nw : List V) (tb : List Tb) (hn : n ≤ 900000) (ht : TrOk n t) (hs : Few s.cols) (ho : NwOk old) (hw : NwOk nw) (hto : TbOk tb) (htg : TbG tb) :
    ACallsTo E0 S.before_row_fire [.p 0 0, t.av] (RB s old nw tb) (iv (fireS n t s old nw tb).1) (RB s old (fireS n t s old nw tb).2 tb) := by
  have hss : Short s.cols := by simp only [Few] at hs; simp only [Short]; omega
  have hfr : ∀ nw, NwOk nw → FsOk n (tFrames t s old nw) ∧ FsG (tFrames t s old nw) := fun nw h => tFrames_ok hs ho h n hn
  exact c_fire (fun nw => eTrueL (fun x => eval n x (tFrames t s old nw) tb) t.when_) (fun nw x => eval n x (tFrames t s old nw) tb) NwOk t s old nw tb hss ho.short (fun _ h => h.short)
    (fun nw h a ha => c_Value n _ _ tb (ht.sets a ha) (hfr nw h).1 (hfr nw h).2 hto htg)
    (fun nw h a ha => rowSet_ok h (eval_good n _ _ tb (ht.sets a ha) (hfr nw h).2 htg)) ht.acts
    (c_True (fun x hx => c_Value n x _ tb (ht.when_ x hx) (hfr nw hw).1 (hfr nw hw).2 hto htg) (fun x hx => eval_good n x _ tb (ht.when_ x hx) (hfr nw hw).2 htg)) hw hw.short
end Go.AM

namespace Go.AM
set_option maxRecDepth 100000
set_option maxHeartbeats 1000000
set_option linter.unusedSimpArgs false
set_option linter.unusedVariables false
abbrev RH5 (s : Sch) (old nw : List V) (tb : List Tb) (cur : List Tg) (rest : List (List AV)) (ch : List Int) : Heap := [.box s.cells, .row Ty.Value (nw.map V.cells) false, .box [sv s.name, .sl (s.cols.map Col.cells), vsl old, .own 1 nw.length, tsl tb], .row Ty.Trigger (cur.map Tg.cells ++ rest) false, .row Ty.int (ch.map fun n => [iv n]) false]
noncomputable def L_brow0 (N : Nat) (l : List Lk) (s : Sch) (old : List V) (tb : List Tb) (k : Nat) (cur : List Tg) (rest : List (List AV)) (n : Nat) (nw : List V) (ps ch : List Int) : Cfg := loopAt B.before_Row 0 [(1, .sl (l.map Lk.cells)), (6, isl ps), (18, .p 2 0), (19, .os 3 n 0 cur.length), (20, .own 4 ch.length)] (RH5 s old nw tb cur rest ch)
def imOf (t : Tg) : Im := ⟨t.name, 0, [], []⟩
theorem imOf_next {cur : List Tg} {i : Nat} {x : Tg} {its : List Im} (hx : cur[i]? = some x) (h : its = (cur.take i).map imOf) : its ++ [⟨x.name, 0, [], []⟩] = (cur.take (i + 1)).map imOf := by
  rw [List.take_add_one, hx, List.map_append, h]; rfl
noncomputable def L_items (l : List Lk) (s : Sch) (old : List V) (tb : List Tb) (cur : List Tg) (rest : List (List AV)) (n : Nat) (nw : List V) (ps ch : List Int) (i : Nat) (its : List Im) : Cfg := loopAt B.before_Row 1 [(1, .sl (l.map Lk.cells)), (6, isl ps), (18, .p 2 0), (19, .os 3 n 0 cur.length), (20, .own 4 ch.length), (21, .own 5 its.length), (41, .os 3 n 0 cur.length), (42, iv (cur.length - 0 : Nat)), (43, iv (i : Nat))] (RH5 s old nw tb cur rest ch ++ [.row Ty.Item (its.map Im.cells) false])
theorem c_items (l : List Lk) (s : Sch) (old : List V) (tb : List Tb) (cur : List Tg) (rest : List (List AV)) (n : Nat) (nw : List V) (ps ch : List Int) (hn : n = (cur.map Tg.cells ++ rest).length) (hc : Short cur) (i : Nat) (its : List Im) (hi : i ≤ ((cur.length - 0))) (hI : its = (cur.take i).map imOf) : ∃ (its' : List Im), (its' = (cur.take ((cur.length - 0))).map imOf) ∧ (decide (((((cur.length - 0)) : Nat) : Int) < ((((cur.length - 0)) : Nat) : Int)) = false) ∧ ∀ R, Good E0 B.before_Row [] (L_items l s old tb cur rest n nw ps ch ((cur.length - 0)) its') R → Good E0 B.before_Row [] (L_items l s old tb cur rest n nw ps ch i its) R := by
  obtain ⟨kk, hk⟩ : ∃ kk, i + kk = ((cur.length - 0)) := ⟨((cur.length - 0)) - i, by omega⟩
  induction kk generalizing i its with
  | zero =>
    have e0 : i = ((cur.length - 0)) := by omega
    subst e0
    exact ⟨its, hI, by simp, fun R hg => hg⟩
  | succ kk ih =>
    have h0 : decide (((i : Nat) : Int) < ((((cur.length - 0)) : Nat) : Int)) = true := by simp; omega
    have hw : IntKind.i64.wrap (((i : Nat) : Int) + 1) = ((i + 1 : Nat) : Int) := wrap_nat i (by first | omega | (simp only [Short, Few] at *; omega))
    obtain ⟨x, hx⟩ := ex_at (l := cur) (i := i) (by omega)
    have he : OwnEl (cur.map Tg.cells ++ rest) n i x.cells := ⟨hn, by rw [List.getElem?_append_left (by simp; omega)]; simp [hx]⟩
    have ho : OsEl (cur.map Tg.cells ++ rest) n 0 cur.length ((i : Nat) : Int) := ⟨hn, by omega, by simp; omega⟩
    have hil : its.length ≤ 1000000000 := by rw [hI]; simp; simp only [Short] at hc; omega
    obtain ⟨itsZ, qZ, xZ, gZ⟩ := ih (i + 1) (its ++ [Im.mk x.name 0 [] []]) (by omega) (by exact imOf_next hx hI) (by omega); exact ⟨itsZ, qZ, xZ, fun R hg => good_unroll (wkl (c' := (Cfg.mk (L_items l s old tb cur rest n nw ps ch (i + 1) (its ++ [Im.mk x.name 0 [] []])).n (L_items l s old tb cur rest n nw ps ch (i + 1) (its ++ [Im.mk x.name 0 [] []])).todo [(1, AV.sl (List.map Lk.cells l)), (6, AV.sl (List.map (fun n => [iv n]) ps)), (18, AV.p 2 0), (19, AV.os 3 n 0 cur.length), (20, AV.own 4 ch.length), (21, AV.own 5 (List.map Im.cells its ++ [[sv x.name, iv 0, AV.sl [], AV.sl []]]).length), (41, AV.os 3 n 0 cur.length), (42, iv (↑(cur.length - 0) : Int)), (43, iv (↑(i + 1) : Int))] [Blk.box [sv s.name, AV.sl (List.map Col.cells s.cols)], Blk.row Ty.Value (List.map V.cells nw) false, Blk.box [sv s.name, AV.sl (List.map Col.cells s.cols), AV.sl (List.map V.cells old), AV.own 1 nw.length, AV.sl (List.map Tb.cells tb)], Blk.row Ty.Trigger (List.map Tg.cells cur ++ rest) false, Blk.row Ty.int (List.map (fun n => [iv n]) ch) false, Blk.row Ty.Item (List.map Im.cells its ++ [[sv x.name, iv 0, AV.sl [], AV.sl []]]) false])) [sb h0, sqx (OsEl (List.map Tg.cells cur ++ rest) n 0 cur.length (↑i : Int)), sx (.el (x.cells)) (he), sqx (AllLen [[sv x.name, iv 0, AV.sl [], AV.sl []]] 4 ∧ its.length = (List.map Im.cells its).length ∧ (((List.map Im.cells its).length + [[sv x.name, iv 0, AV.sl [], AV.sl []]].length) * 72).le 140737488355328), si hw] [1, 6, 18, 19, 20, 21, 41, 42, 43] 6 (by kernel_rfl) (good_same (show ([(1, AV.sl (List.map Lk.cells l)), (6, AV.sl (List.map (fun n => [iv n]) ps)), (18, AV.p 2 0), (19, AV.os 3 n 0 cur.length), (20, AV.own 4 ch.length), (21, AV.own 5 (List.map Im.cells its ++ [[sv x.name, iv 0, AV.sl [], AV.sl []]]).length), (41, AV.os 3 n 0 cur.length), (42, iv (↑(cur.length - 0) : Int)), (43, iv (↑(i + 1) : Int))] : TS) = [(1, AV.sl (List.map Lk.cells l)), (6, AV.sl (List.map (fun n => [iv n]) ps)), (18, AV.p 2 0), (19, AV.os 3 n 0 cur.length), (20, AV.own 4 ch.length), (21, AV.own 5 (its ++ [Im.mk x.name 0 [] []]).length), (41, AV.os 3 n 0 cur.length), (42, iv (↑(cur.length - 0) : Int)), (43, iv (↑(i + 1) : Int))] by first | rfl | (simp; done) | (simp [X.cells, Qy.cells, V.cells, Col.cells, Rw.cells, Tb.cells, Fr.cells, Sch.cells, Tp.cells, Pl.cells, xCol, xLit, xBin, xNeg, Im.cells, Lk.cells]; done)) (show ([Blk.box [sv s.name, AV.sl (List.map Col.cells s.cols)], Blk.row Ty.Value (List.map V.cells nw) false, Blk.box [sv s.name, AV.sl (List.map Col.cells s.cols), AV.sl (List.map V.cells old), AV.own 1 nw.length, AV.sl (List.map Tb.cells tb)], Blk.row Ty.Trigger (List.map Tg.cells cur ++ rest) false, Blk.row Ty.int (List.map (fun n => [iv n]) ch) false, Blk.row Ty.Item (List.map Im.cells its ++ [[sv x.name, iv 0, AV.sl [], AV.sl []]]) false] : Heap) = [Blk.box [sv s.name, AV.sl (List.map Col.cells s.cols)], Blk.row Ty.Value (List.map V.cells nw) false, Blk.box [sv s.name, AV.sl (List.map Col.cells s.cols), AV.sl (List.map V.cells old), AV.own 1 nw.length, AV.sl (List.map Tb.cells tb)], Blk.row Ty.Trigger (List.map Tg.cells cur ++ rest) false, Blk.row Ty.int (List.map (fun n => [iv n]) ch) false, Blk.row Ty.Item (List.map Im.cells (its ++ [Im.mk x.name 0 [] []])) false] by first | rfl | (simp; done) | (simp [X.cells, Qy.cells, V.cells, Col.cells, Rw.cells, Tb.cells, Fr.cells, Sch.cells, Tp.cells, Pl.cells, xCol, xLit, xBin, xNeg, Im.cells, Lk.cells]; done)) (gZ R hg)))⟩
theorem x_before_Row__items_loop (l : List Lk) (s : Sch) (old : List V) (tb : List Tb) (cur : List Tg) (rest : List (List AV)) (n : Nat) (nw : List V) (ps ch : List Int) (hn : n = (cur.map Tg.cells ++ rest).length) (hc : Short cur) :
    (decide (((cur.length - 0 : Nat) : Int) < ((cur.length - 0 : Nat) : Int)) = false) ∧ ∀ R, Good E0 B.before_Row [] (L_items l s old tb cur rest n nw ps ch (cur.length - 0) (cur.map imOf)) R → Good E0 B.before_Row [] (L_items l s old tb cur rest n nw ps ch 0 []) R := by
  obtain ⟨its, h1, h2, h3⟩ := c_items l s old tb cur rest n nw ps ch hn hc 0 [] (by omega) (by simp)
  have e : cur.take (cur.length - 0) = cur := List.take_of_length_le (by omega)
  rw [e] at h1
  subst h1
  exact ⟨h2, h3⟩
def tgNull : Tg := ⟨⟨#[]⟩, ⟨#[]⟩, false, 0, [], false, [], [], [], [], []⟩
/-- The place of the trigger that is chosen. -/
abbrev pl (cur : List Tg) (l : List Lk) (ps : List Int) : Nat := chosen (cur.map imOf) l ps
theorem pkChoose_short {n : Int} {ps : List Int} (h : Short ps) : Short (pkChoose n ps).2 := by
  unfold pkChoose
  cases decide (n < 2)
  · cases ps with
    | nil => simp
    | cons p r => simp only [Short, List.length_cons] at h; simp only [cond_false, Short]; omega
  · exact h

def brow (N : Nat) (l : List Lk) (s : Sch) (old : List V) (tb : List Tb) : Nat → (List Tg) → (List V) → (List Int) → (List Int) → (List V) × (List Int) × (List Int) × Int
  | 0, cur, nw, ps, ch =>
    (nw, ps, ch, 0)
  | k + 1, cur, nw, ps, ch =>
    bif (↑(List.map (fun n => [iv n]) (eligible (List.map imOf cur) l (List.map imOf cur).length)).length : Int) == 0 then
      ([], [], [], 17)
    else
      bif decide (1 < (↑(List.map (fun n => [iv n]) (eligible (List.map imOf cur) l (List.map imOf cur).length)).length : Int)) then
        bif (fireS N (cur.getD (pl cur l ps) tgNull) s old nw tb).fst != 0 then
          ([], [], [], (fireS N (cur.getD (pl cur l ps) tgNull) s old nw tb).fst)
        else
          brow N l s old tb k (cur.eraseIdx (chosen (List.map imOf cur) l ps)) ((fireS N (cur.getD (pl cur l ps) tgNull) s old nw tb).snd) ((pkChoose (↑(List.map (fun n => [iv n]) (eligible (List.map imOf cur) l (List.map imOf cur).length)).length : Int) ps).snd) (ch ++ [(↑(List.map (fun n => [iv n]) (eligible (List.map imOf cur) l (List.map imOf cur).length)).length : Int)])
      else
        bif (fireS N (cur.getD (pl cur l ps) tgNull) s old nw tb).fst != 0 then
          ([], [], [], (fireS N (cur.getD (pl cur l ps) tgNull) s old nw tb).fst)
        else
          brow N l s old tb k (cur.eraseIdx (chosen (List.map imOf cur) l ps)) ((fireS N (cur.getD (pl cur l ps) tgNull) s old nw tb).snd) ((pkChoose (↑(List.map (fun n => [iv n]) (eligible (List.map imOf cur) l (List.map imOf cur).length)).length : Int) ps).snd) (ch)
theorem k_brow_loop (N : Nat) (l : List Lk) (s : Sch) (old : List V) (tb : List Tb) (hN : N ≤ 900000) (hl : Short l) (hs : Few s.cols) (ho : NwOk old) (hto : TbOk tb) (htg : TbG tb) : ∀ (k : Nat) (cur : List Tg) (rest : List (List AV)) (n : Nat) (nw : List V) (ps ch : List Int), k ≤ 1000000000 → (cur.length = k) → (n = (cur.map Tg.cells ++ rest).length) → (∀ c ∈ rest, c.length = 11) → (Short cur) → (∀ t ∈ cur, TrOk N t) → (NwOk nw) → (Short ps) → (ch.length + k ≤ 1000000000) → Good E0 B.before_Row [] (L_brow0 N l s old tb k cur rest n nw ps ch) (Shut 0 fun r h => r = (.tup [vsl (brow N l s old tb k cur nw ps ch).1, isl (brow N l s old tb k cur nw ps ch).2.1, isl (brow N l s old tb k cur nw ps ch).2.2.1, iv (brow N l s old tb k cur nw ps ch).2.2.2]) ∧ h = []) := by
  intro k
  induction k with
  | zero =>
    intro cur rest n nw ps ch hk hk0 hn hr hc hT hw0 hp hch
    have hcl : decide ((0 : Int) < ((cur.length - 0 : Nat) : Int)) = false := by rw [decide_eq_false_iff_not]; omega
    simp only [brow]
    refine good_unroll ?_
    exact wkr [sqx (nw.length = (List.map V.cells nw).length ∧ True ∧ ch.length = (List.map (fun n => [iv n]) ch).length ∧ True ∧ True), sqx (n = (List.map Tg.cells cur ++ rest).length), sb hcl] (by kernel_rfl)
  | succ k ih =>
    intro cur rest n nw ps ch hk hk0 hn hr hc hT hw0 hp hch
    have h0 : decide ((0 : Int) < ((k + 1 : Nat) : Int)) = true := by first | (simp; done) | (simp; omega)
    have hw := wrap_sub1 k (by omega)
    have hcl : decide ((0 : Int) < ((cur.length - 0 : Nat) : Int)) = true := by rw [decide_eq_true_iff]; omega
    have hcb : chosen (cur.map imOf) l ps < cur.length := by have := chosen_lt (cur.map imOf) l ps (by simp; omega); simpa using this
    have hso : Short (cur.map imOf) := by simp only [Short, List.length_map] at *; exact hc
    have hos : OsEl (cur.map Tg.cells ++ rest) n 0 cur.length ((pl cur l ps : Nat) : Int) := ⟨hn, by omega, by simp; omega⟩
    have hge : cur[pl cur l ps]? = some (cur.getD (pl cur l ps) tgNull) := by rw [List.getD_eq_getElem?_getD, List.getElem?_eq_getElem hcb]; rfl
    have hoe : OwnEl (cur.map Tg.cells ++ rest) n (pl cur l ps) (cur.getD (pl cur l ps) tgNull).cells := ⟨hn, by rw [List.getElem?_append_left (by rw [List.length_map]; exact hcb), List.getElem?_map, hge]; rfl⟩
    have hTx : TrOk N (cur.getD (pl cur l ps) tgNull) := hT _ (List.mem_of_getElem? hge)
    simp only [brow]
    refine good_unroll ?_
    obtain ⟨q1, g1⟩ := x_before_Row__items_loop (l) (s) (old) (tb) (cur) (rest) (n) (nw) (ps) (ch) (by first | assumption | omega | (simp; done) | (simp; omega)) (by first | assumption | omega | (simp; done) | (simp; omega))
    cases h2 : (↑(List.map (fun n => [iv n]) (eligible (List.map imOf cur) l (List.map imOf cur).length)).length : Int) == 0
    · cases h3 : decide (1 < (↑(List.map (fun n => [iv n]) (eligible (List.map imOf cur) l (List.map imOf cur).length)).length : Int))
      · cases h4 : (fireS N (cur.getD (pl cur l ps) tgNull) s old nw tb).fst != 0
        · obtain ⟨rest5, q5, c5⟩ := (x_slices_Delete_Trigger (cur) (rest) (n) (chosen (List.map imOf cur) l ps) (by first | assumption | omega | (simp; done) | (simp; omega)) (by first | assumption | omega | (simp; done) | (simp; omega)) (by first | assumption | omega | (simp; done) | (simp; omega)))
          exact wkl (c' := (Cfg.mk (L_items l s old tb cur rest n nw ps ch 0 []).n (L_items l s old tb cur rest n nw ps ch 0 []).todo [(1, AV.sl (List.map Lk.cells l)), (6, AV.sl (List.map (fun n => [iv n]) ps)), (18, AV.p 2 0), (19, AV.os 3 n 0 cur.length), (20, AV.own 4 ch.length), (21, AV.nl), (41, AV.os 3 n 0 cur.length), (42, iv (↑(cur.length - 0) : Int)), (43, iv 0)] [Blk.box [sv s.name, AV.sl (List.map Col.cells s.cols)], Blk.row Ty.Value (List.map V.cells nw) false, Blk.box [sv s.name, AV.sl (List.map Col.cells s.cols), AV.sl (List.map V.cells old), AV.own 1 nw.length, AV.sl (List.map Tb.cells tb)], Blk.row Ty.Trigger (List.map Tg.cells cur ++ rest) false, Blk.row Ty.int (List.map (fun n => [iv n]) ch) false])) [sqx (n = (List.map Tg.cells cur ++ rest).length), sb hcl, sqx (n = (List.map Tg.cells cur ++ rest).length)] [1, 6, 18, 19, 20, 21, 41, 42, 43] 5 (by kernel_rfl) (good_ownCut (c' := L_items l s old tb cur rest n nw ps ch 0 []) 21 Ty.Item [1, 6, 18, 19, 20, 21, 41, 42, 43] 6 (by kernel_rfl) (by kernel_rfl) (by kernel_rfl) (g1 _ (good_unroll (wkl [sb q1, skx ((List.map imOf cur).length = (List.map Im.cells (List.map imOf cur)).length ∧ True ∧ True) [] (k_pick_Eligible (List.map imOf cur) (l) (by first | assumption | omega | (simp; done) | (simp; omega)) (by first | assumption | omega | (simp; done) | (simp; omega))), sb h2, sc (k_pick_Choose ((↑(List.map (fun n => [iv n]) (eligible (List.map imOf cur) l (List.map imOf cur).length)).length : Int)) (ps) (by first | assumption | omega | (simp; done) | (simp; omega))), sb h3, se (el_elig (List.map imOf cur) (l) (ps) (by first | assumption | omega | (simp; done) | (simp; omega)) (by first | assumption | omega | (simp; done) | (simp; omega))), sqx (OsEl (List.map Tg.cells cur ++ rest) n 0 cur.length (↑(chosen (List.map imOf cur) l ps) : Int)), sx (.el ((cur.getD (pl cur l ps) tgNull).cells)) (hoe), sl [2, 1] (k_before_row_fire (N) (cur.getD (pl cur l ps) tgNull) (s) (old) (nw) (tb) hN (by first | assumption | omega | (simp; done) | (simp; omega)) (by first | assumption | omega | (simp; done) | (simp; omega)) (by first | assumption | omega | (simp; done) | (simp; omega)) (by first | assumption | omega | (simp; done) | (simp; omega)) (by first | assumption | omega | (simp; done) | (simp; omega)) (by first | assumption | omega | (simp; done) | (simp; omega))), sb h4, si (wrapN (t := (↑(chosen (List.map imOf cur) l ps) : Int) + 1) (n := chosen (List.map imOf cur) l ps + 1) (by omega) (by omega)), sl [3] c5] [1, 6, 18, 19, 20] 5 (by kernel_rfl) (ih (cur.eraseIdx (chosen (List.map imOf cur) l ps)) (rest5) (n) ((fireS N (cur.getD (pl cur l ps) tgNull) s old nw tb).snd) ((pkChoose (↑(List.map (fun n => [iv n]) (eligible (List.map imOf cur) l (List.map imOf cur).length)).length : Int) ps).snd) (ch) (by omega) (by first | assumption | (rw [List.length_eraseIdx, if_pos hcb]; omega) | exact (by assumption : n = _ ∧ _).1 | exact (by assumption : n = _ ∧ _).2 | exact Nat.le_trans (List.length_eraseIdx_le _ _) hc | exact fun t ht => hT t (List.mem_of_mem_eraseIdx ht) | exact fireS_ok hN hTx hs ho hw0 htg | exact pkChoose_short hp | (simp only [List.length_append, List.length_cons, List.length_nil]; omega) | omega) (by first | assumption | (rw [List.length_eraseIdx, if_pos hcb]; omega) | exact (by assumption : n = _ ∧ _).1 | exact (by assumption : n = _ ∧ _).2 | exact Nat.le_trans (List.length_eraseIdx_le _ _) hc | exact fun t ht => hT t (List.mem_of_mem_eraseIdx ht) | exact fireS_ok hN hTx hs ho hw0 htg | exact pkChoose_short hp | (simp only [List.length_append, List.length_cons, List.length_nil]; omega) | omega) (by first | assumption | (rw [List.length_eraseIdx, if_pos hcb]; omega) | exact (by assumption : n = _ ∧ _).1 | exact (by assumption : n = _ ∧ _).2 | exact Nat.le_trans (List.length_eraseIdx_le _ _) hc | exact fun t ht => hT t (List.mem_of_mem_eraseIdx ht) | exact fireS_ok hN hTx hs ho hw0 htg | exact pkChoose_short hp | (simp only [List.length_append, List.length_cons, List.length_nil]; omega) | omega) (by first | assumption | (rw [List.length_eraseIdx, if_pos hcb]; omega) | exact (by assumption : n = _ ∧ _).1 | exact (by assumption : n = _ ∧ _).2 | exact Nat.le_trans (List.length_eraseIdx_le _ _) hc | exact fun t ht => hT t (List.mem_of_mem_eraseIdx ht) | exact fireS_ok hN hTx hs ho hw0 htg | exact pkChoose_short hp | (simp only [List.length_append, List.length_cons, List.length_nil]; omega) | omega) (by first | assumption | (rw [List.length_eraseIdx, if_pos hcb]; omega) | exact (by assumption : n = _ ∧ _).1 | exact (by assumption : n = _ ∧ _).2 | exact Nat.le_trans (List.length_eraseIdx_le _ _) hc | exact fun t ht => hT t (List.mem_of_mem_eraseIdx ht) | exact fireS_ok hN hTx hs ho hw0 htg | exact pkChoose_short hp | (simp only [List.length_append, List.length_cons, List.length_nil]; omega) | omega) (by first | assumption | (rw [List.length_eraseIdx, if_pos hcb]; omega) | exact (by assumption : n = _ ∧ _).1 | exact (by assumption : n = _ ∧ _).2 | exact Nat.le_trans (List.length_eraseIdx_le _ _) hc | exact fun t ht => hT t (List.mem_of_mem_eraseIdx ht) | exact fireS_ok hN hTx hs ho hw0 htg | exact pkChoose_short hp | (simp only [List.length_append, List.length_cons, List.length_nil]; omega) | omega) (by first | assumption | (rw [List.length_eraseIdx, if_pos hcb]; omega) | exact (by assumption : n = _ ∧ _).1 | exact (by assumption : n = _ ∧ _).2 | exact Nat.le_trans (List.length_eraseIdx_le _ _) hc | exact fun t ht => hT t (List.mem_of_mem_eraseIdx ht) | exact fireS_ok hN hTx hs ho hw0 htg | exact pkChoose_short hp | (simp only [List.length_append, List.length_cons, List.length_nil]; omega) | omega) (by first | assumption | (rw [List.length_eraseIdx, if_pos hcb]; omega) | exact (by assumption : n = _ ∧ _).1 | exact (by assumption : n = _ ∧ _).2 | exact Nat.le_trans (List.length_eraseIdx_le _ _) hc | exact fun t ht => hT t (List.mem_of_mem_eraseIdx ht) | exact fireS_ok hN hTx hs ho hw0 htg | exact pkChoose_short hp | (simp only [List.length_append, List.length_cons, List.length_nil]; omega) | omega))))))
        · exact wkl (c' := (Cfg.mk (L_items l s old tb cur rest n nw ps ch 0 []).n (L_items l s old tb cur rest n nw ps ch 0 []).todo [(1, AV.sl (List.map Lk.cells l)), (6, AV.sl (List.map (fun n => [iv n]) ps)), (18, AV.p 2 0), (19, AV.os 3 n 0 cur.length), (20, AV.own 4 ch.length), (21, AV.nl), (41, AV.os 3 n 0 cur.length), (42, iv (↑(cur.length - 0) : Int)), (43, iv 0)] [Blk.box [sv s.name, AV.sl (List.map Col.cells s.cols)], Blk.row Ty.Value (List.map V.cells nw) false, Blk.box [sv s.name, AV.sl (List.map Col.cells s.cols), AV.sl (List.map V.cells old), AV.own 1 nw.length, AV.sl (List.map Tb.cells tb)], Blk.row Ty.Trigger (List.map Tg.cells cur ++ rest) false, Blk.row Ty.int (List.map (fun n => [iv n]) ch) false])) [sqx (n = (List.map Tg.cells cur ++ rest).length), sb hcl, sqx (n = (List.map Tg.cells cur ++ rest).length)] [1, 6, 18, 19, 20, 21, 41, 42, 43] 5 (by kernel_rfl) (good_ownCut (c' := L_items l s old tb cur rest n nw ps ch 0 []) 21 Ty.Item [1, 6, 18, 19, 20, 21, 41, 42, 43] 6 (by kernel_rfl) (by kernel_rfl) (by kernel_rfl) (g1 _ (good_unroll (wkr [sb q1, skx ((List.map imOf cur).length = (List.map Im.cells (List.map imOf cur)).length ∧ True ∧ True) [] (k_pick_Eligible (List.map imOf cur) (l) (by first | assumption | omega | (simp; done) | (simp; omega)) (by first | assumption | omega | (simp; done) | (simp; omega))), sb h2, sc (k_pick_Choose ((↑(List.map (fun n => [iv n]) (eligible (List.map imOf cur) l (List.map imOf cur).length)).length : Int)) (ps) (by first | assumption | omega | (simp; done) | (simp; omega))), sb h3, se (el_elig (List.map imOf cur) (l) (ps) (by first | assumption | omega | (simp; done) | (simp; omega)) (by first | assumption | omega | (simp; done) | (simp; omega))), sqx (OsEl (List.map Tg.cells cur ++ rest) n 0 cur.length (↑(chosen (List.map imOf cur) l ps) : Int)), sx (.el ((cur.getD (pl cur l ps) tgNull).cells)) (hoe), sl [2, 1] (k_before_row_fire (N) (cur.getD (pl cur l ps) tgNull) (s) (old) (nw) (tb) hN (by first | assumption | omega | (simp; done) | (simp; omega)) (by first | assumption | omega | (simp; done) | (simp; omega)) (by first | assumption | omega | (simp; done) | (simp; omega)) (by first | assumption | omega | (simp; done) | (simp; omega)) (by first | assumption | omega | (simp; done) | (simp; omega)) (by first | assumption | omega | (simp; done) | (simp; omega))), sb h4] (by kernel_rfl)))))
      · cases h6 : (fireS N (cur.getD (pl cur l ps) tgNull) s old nw tb).fst != 0
        · obtain ⟨rest7, q7, c7⟩ := (x_slices_Delete_Trigger (cur) (rest) (n) (chosen (List.map imOf cur) l ps) (by first | assumption | omega | (simp; done) | (simp; omega)) (by first | assumption | omega | (simp; done) | (simp; omega)) (by first | assumption | omega | (simp; done) | (simp; omega)))
          exact wkl (c' := (Cfg.mk (L_items l s old tb cur rest n nw ps ch 0 []).n (L_items l s old tb cur rest n nw ps ch 0 []).todo [(1, AV.sl (List.map Lk.cells l)), (6, AV.sl (List.map (fun n => [iv n]) ps)), (18, AV.p 2 0), (19, AV.os 3 n 0 cur.length), (20, AV.own 4 ch.length), (21, AV.nl), (41, AV.os 3 n 0 cur.length), (42, iv (↑(cur.length - 0) : Int)), (43, iv 0)] [Blk.box [sv s.name, AV.sl (List.map Col.cells s.cols)], Blk.row Ty.Value (List.map V.cells nw) false, Blk.box [sv s.name, AV.sl (List.map Col.cells s.cols), AV.sl (List.map V.cells old), AV.own 1 nw.length, AV.sl (List.map Tb.cells tb)], Blk.row Ty.Trigger (List.map Tg.cells cur ++ rest) false, Blk.row Ty.int (List.map (fun n => [iv n]) ch) false])) [sqx (n = (List.map Tg.cells cur ++ rest).length), sb hcl, sqx (n = (List.map Tg.cells cur ++ rest).length)] [1, 6, 18, 19, 20, 21, 41, 42, 43] 5 (by kernel_rfl) (good_ownCut (c' := L_items l s old tb cur rest n nw ps ch 0 []) 21 Ty.Item [1, 6, 18, 19, 20, 21, 41, 42, 43] 6 (by kernel_rfl) (by kernel_rfl) (by kernel_rfl) (g1 _ (good_unroll (wkl (c' := (Cfg.mk (L_brow0 N l s old tb k (cur.eraseIdx (chosen (List.map imOf cur) l ps)) rest7 n (fireS N (cur.getD (pl cur l ps) tgNull) s old nw tb).snd (pkChoose (↑(List.map (fun n => [iv n]) (eligible (List.map imOf cur) l (List.map imOf cur).length)).length : Int) ps).snd (ch ++ [(↑(List.map (fun n => [iv n]) (eligible (List.map imOf cur) l (List.map imOf cur).length)).length : Int)])).n (L_brow0 N l s old tb k (cur.eraseIdx (chosen (List.map imOf cur) l ps)) rest7 n (fireS N (cur.getD (pl cur l ps) tgNull) s old nw tb).snd (pkChoose (↑(List.map (fun n => [iv n]) (eligible (List.map imOf cur) l (List.map imOf cur).length)).length : Int) ps).snd (ch ++ [(↑(List.map (fun n => [iv n]) (eligible (List.map imOf cur) l (List.map imOf cur).length)).length : Int)])).todo [(1, AV.sl (List.map Lk.cells l)), (6, AV.sl (List.map (fun n => [iv n]) (pkChoose (↑(List.map (fun n => [iv n]) (eligible (List.map imOf cur) l (List.map imOf cur).length)).length : Int) ps).snd)), (18, AV.p 2 0), (19, AV.os 3 n 0 (cur.eraseIdx (chosen (List.map imOf cur) l ps)).length), (20, AV.own 4 (List.map (fun n => [iv n]) ch ++ [[iv (↑(List.map (fun n => [iv n]) (eligible (List.map imOf cur) l (List.map imOf cur).length)).length : Int)]]).length)] [Blk.box [sv s.name, AV.sl (List.map Col.cells s.cols)], Blk.row Ty.Value (List.map V.cells (fireS N (cur.getD (pl cur l ps) tgNull) s old nw tb).snd) false, Blk.box [sv s.name, AV.sl (List.map Col.cells s.cols), AV.sl (List.map V.cells old), AV.own 1 (fireS N (cur.getD (pl cur l ps) tgNull) s old nw tb).snd.length, AV.sl (List.map Tb.cells tb)], Blk.row Ty.Trigger (List.map Tg.cells (cur.eraseIdx (chosen (List.map imOf cur) l ps)) ++ rest7) false, Blk.row Ty.int (List.map (fun n => [iv n]) ch ++ [[iv (↑(List.map (fun n => [iv n]) (eligible (List.map imOf cur) l (List.map imOf cur).length)).length : Int)]]) false])) [sb q1, skx ((List.map imOf cur).length = (List.map Im.cells (List.map imOf cur)).length ∧ True ∧ True) [] (k_pick_Eligible (List.map imOf cur) (l) (by first | assumption | omega | (simp; done) | (simp; omega)) (by first | assumption | omega | (simp; done) | (simp; omega))), sb h2, sc (k_pick_Choose ((↑(List.map (fun n => [iv n]) (eligible (List.map imOf cur) l (List.map imOf cur).length)).length : Int)) (ps) (by first | assumption | omega | (simp; done) | (simp; omega))), sb h3, sqx (AllLen [[iv (↑(List.map (fun n => [iv n]) (eligible (List.map imOf cur) l (List.map imOf cur).length)).length : Int)]] 1 ∧ ch.length = (List.map (fun n => [iv n]) ch).length ∧ (((List.map (fun n => [iv n]) ch).length + [[iv (↑(List.map (fun n => [iv n]) (eligible (List.map imOf cur) l (List.map imOf cur).length)).length : Int)]].length) * 8).le 140737488355328), se (el_elig (List.map imOf cur) (l) (ps) (by first | assumption | omega | (simp; done) | (simp; omega)) (by first | assumption | omega | (simp; done) | (simp; omega))), sqx (OsEl (List.map Tg.cells cur ++ rest) n 0 cur.length (↑(chosen (List.map imOf cur) l ps) : Int)), sx (.el ((cur.getD (pl cur l ps) tgNull).cells)) (hoe), sl [2, 1] (k_before_row_fire (N) (cur.getD (pl cur l ps) tgNull) (s) (old) (nw) (tb) hN (by first | assumption | omega | (simp; done) | (simp; omega)) (by first | assumption | omega | (simp; done) | (simp; omega)) (by first | assumption | omega | (simp; done) | (simp; omega)) (by first | assumption | omega | (simp; done) | (simp; omega)) (by first | assumption | omega | (simp; done) | (simp; omega)) (by first | assumption | omega | (simp; done) | (simp; omega))), sb h6, si (wrapN (t := (↑(chosen (List.map imOf cur) l ps) : Int) + 1) (n := chosen (List.map imOf cur) l ps + 1) (by omega) (by omega)), sl [3] c7] [1, 6, 18, 19, 20] 5 (by kernel_rfl) (good_same (show ([(1, AV.sl (List.map Lk.cells l)), (6, AV.sl (List.map (fun n => [iv n]) (pkChoose (↑(List.map (fun n => [iv n]) (eligible (List.map imOf cur) l (List.map imOf cur).length)).length : Int) ps).snd)), (18, AV.p 2 0), (19, AV.os 3 n 0 (cur.eraseIdx (chosen (List.map imOf cur) l ps)).length), (20, AV.own 4 (List.map (fun n => [iv n]) ch ++ [[iv (↑(List.map (fun n => [iv n]) (eligible (List.map imOf cur) l (List.map imOf cur).length)).length : Int)]]).length)] : TS) = [(1, AV.sl (List.map Lk.cells l)), (6, AV.sl (List.map (fun n => [iv n]) (pkChoose (↑(List.map (fun n => [iv n]) (eligible (List.map imOf cur) l (List.map imOf cur).length)).length : Int) ps).snd)), (18, AV.p 2 0), (19, AV.os 3 n 0 (cur.eraseIdx (chosen (List.map imOf cur) l ps)).length), (20, AV.own 4 (ch ++ [(↑(List.map (fun n => [iv n]) (eligible (List.map imOf cur) l (List.map imOf cur).length)).length : Int)]).length)] by first | rfl | (simp; done) | (simp [X.cells, Qy.cells, V.cells, Col.cells, Rw.cells, Tb.cells, Fr.cells, Sch.cells, Tp.cells, Pl.cells, xCol, xLit, xBin, xNeg, Im.cells, Lk.cells]; done)) (show ([Blk.box [sv s.name, AV.sl (List.map Col.cells s.cols)], Blk.row Ty.Value (List.map V.cells (fireS N (cur.getD (pl cur l ps) tgNull) s old nw tb).snd) false, Blk.box [sv s.name, AV.sl (List.map Col.cells s.cols), AV.sl (List.map V.cells old), AV.own 1 (fireS N (cur.getD (pl cur l ps) tgNull) s old nw tb).snd.length, AV.sl (List.map Tb.cells tb)], Blk.row Ty.Trigger (List.map Tg.cells (cur.eraseIdx (chosen (List.map imOf cur) l ps)) ++ rest7) false, Blk.row Ty.int (List.map (fun n => [iv n]) ch ++ [[iv (↑(List.map (fun n => [iv n]) (eligible (List.map imOf cur) l (List.map imOf cur).length)).length : Int)]]) false] : Heap) = [Blk.box [sv s.name, AV.sl (List.map Col.cells s.cols)], Blk.row Ty.Value (List.map V.cells (fireS N (cur.getD (pl cur l ps) tgNull) s old nw tb).snd) false, Blk.box [sv s.name, AV.sl (List.map Col.cells s.cols), AV.sl (List.map V.cells old), AV.own 1 (fireS N (cur.getD (pl cur l ps) tgNull) s old nw tb).snd.length, AV.sl (List.map Tb.cells tb)], Blk.row Ty.Trigger (List.map Tg.cells (cur.eraseIdx (chosen (List.map imOf cur) l ps)) ++ rest7) false, Blk.row Ty.int (List.map (fun n => [iv n]) (ch ++ [(↑(List.map (fun n => [iv n]) (eligible (List.map imOf cur) l (List.map imOf cur).length)).length : Int)])) false] by first | rfl | (simp; done) | (simp [X.cells, Qy.cells, V.cells, Col.cells, Rw.cells, Tb.cells, Fr.cells, Sch.cells, Tp.cells, Pl.cells, xCol, xLit, xBin, xNeg, Im.cells, Lk.cells]; done)) (ih (cur.eraseIdx (chosen (List.map imOf cur) l ps)) (rest7) (n) ((fireS N (cur.getD (pl cur l ps) tgNull) s old nw tb).snd) ((pkChoose (↑(List.map (fun n => [iv n]) (eligible (List.map imOf cur) l (List.map imOf cur).length)).length : Int) ps).snd) (ch ++ [(↑(List.map (fun n => [iv n]) (eligible (List.map imOf cur) l (List.map imOf cur).length)).length : Int)]) (by omega) (by first | assumption | (rw [List.length_eraseIdx, if_pos hcb]; omega) | exact (by assumption : n = _ ∧ _).1 | exact (by assumption : n = _ ∧ _).2 | exact Nat.le_trans (List.length_eraseIdx_le _ _) hc | exact fun t ht => hT t (List.mem_of_mem_eraseIdx ht) | exact fireS_ok hN hTx hs ho hw0 htg | exact pkChoose_short hp | (simp only [List.length_append, List.length_cons, List.length_nil]; omega) | omega) (by first | assumption | (rw [List.length_eraseIdx, if_pos hcb]; omega) | exact (by assumption : n = _ ∧ _).1 | exact (by assumption : n = _ ∧ _).2 | exact Nat.le_trans (List.length_eraseIdx_le _ _) hc | exact fun t ht => hT t (List.mem_of_mem_eraseIdx ht) | exact fireS_ok hN hTx hs ho hw0 htg | exact pkChoose_short hp | (simp only [List.length_append, List.length_cons, List.length_nil]; omega) | omega) (by first | assumption | (rw [List.length_eraseIdx, if_pos hcb]; omega) | exact (by assumption : n = _ ∧ _).1 | exact (by assumption : n = _ ∧ _).2 | exact Nat.le_trans (List.length_eraseIdx_le _ _) hc | exact fun t ht => hT t (List.mem_of_mem_eraseIdx ht) | exact fireS_ok hN hTx hs ho hw0 htg | exact pkChoose_short hp | (simp only [List.length_append, List.length_cons, List.length_nil]; omega) | omega) (by first | assumption | (rw [List.length_eraseIdx, if_pos hcb]; omega) | exact (by assumption : n = _ ∧ _).1 | exact (by assumption : n = _ ∧ _).2 | exact Nat.le_trans (List.length_eraseIdx_le _ _) hc | exact fun t ht => hT t (List.mem_of_mem_eraseIdx ht) | exact fireS_ok hN hTx hs ho hw0 htg | exact pkChoose_short hp | (simp only [List.length_append, List.length_cons, List.length_nil]; omega) | omega) (by first | assumption | (rw [List.length_eraseIdx, if_pos hcb]; omega) | exact (by assumption : n = _ ∧ _).1 | exact (by assumption : n = _ ∧ _).2 | exact Nat.le_trans (List.length_eraseIdx_le _ _) hc | exact fun t ht => hT t (List.mem_of_mem_eraseIdx ht) | exact fireS_ok hN hTx hs ho hw0 htg | exact pkChoose_short hp | (simp only [List.length_append, List.length_cons, List.length_nil]; omega) | omega) (by first | assumption | (rw [List.length_eraseIdx, if_pos hcb]; omega) | exact (by assumption : n = _ ∧ _).1 | exact (by assumption : n = _ ∧ _).2 | exact Nat.le_trans (List.length_eraseIdx_le _ _) hc | exact fun t ht => hT t (List.mem_of_mem_eraseIdx ht) | exact fireS_ok hN hTx hs ho hw0 htg | exact pkChoose_short hp | (simp only [List.length_append, List.length_cons, List.length_nil]; omega) | omega) (by first | assumption | (rw [List.length_eraseIdx, if_pos hcb]; omega) | exact (by assumption : n = _ ∧ _).1 | exact (by assumption : n = _ ∧ _).2 | exact Nat.le_trans (List.length_eraseIdx_le _ _) hc | exact fun t ht => hT t (List.mem_of_mem_eraseIdx ht) | exact fireS_ok hN hTx hs ho hw0 htg | exact pkChoose_short hp | (simp only [List.length_append, List.length_cons, List.length_nil]; omega) | omega) (by first | assumption | (rw [List.length_eraseIdx, if_pos hcb]; omega) | exact (by assumption : n = _ ∧ _).1 | exact (by assumption : n = _ ∧ _).2 | exact Nat.le_trans (List.length_eraseIdx_le _ _) hc | exact fun t ht => hT t (List.mem_of_mem_eraseIdx ht) | exact fireS_ok hN hTx hs ho hw0 htg | exact pkChoose_short hp | (simp only [List.length_append, List.length_cons, List.length_nil]; omega) | omega)))))))
        · exact wkl (c' := (Cfg.mk (L_items l s old tb cur rest n nw ps ch 0 []).n (L_items l s old tb cur rest n nw ps ch 0 []).todo [(1, AV.sl (List.map Lk.cells l)), (6, AV.sl (List.map (fun n => [iv n]) ps)), (18, AV.p 2 0), (19, AV.os 3 n 0 cur.length), (20, AV.own 4 ch.length), (21, AV.nl), (41, AV.os 3 n 0 cur.length), (42, iv (↑(cur.length - 0) : Int)), (43, iv 0)] [Blk.box [sv s.name, AV.sl (List.map Col.cells s.cols)], Blk.row Ty.Value (List.map V.cells nw) false, Blk.box [sv s.name, AV.sl (List.map Col.cells s.cols), AV.sl (List.map V.cells old), AV.own 1 nw.length, AV.sl (List.map Tb.cells tb)], Blk.row Ty.Trigger (List.map Tg.cells cur ++ rest) false, Blk.row Ty.int (List.map (fun n => [iv n]) ch) false])) [sqx (n = (List.map Tg.cells cur ++ rest).length), sb hcl, sqx (n = (List.map Tg.cells cur ++ rest).length)] [1, 6, 18, 19, 20, 21, 41, 42, 43] 5 (by kernel_rfl) (good_ownCut (c' := L_items l s old tb cur rest n nw ps ch 0 []) 21 Ty.Item [1, 6, 18, 19, 20, 21, 41, 42, 43] 6 (by kernel_rfl) (by kernel_rfl) (by kernel_rfl) (g1 _ (good_unroll (wkr [sb q1, skx ((List.map imOf cur).length = (List.map Im.cells (List.map imOf cur)).length ∧ True ∧ True) [] (k_pick_Eligible (List.map imOf cur) (l) (by first | assumption | omega | (simp; done) | (simp; omega)) (by first | assumption | omega | (simp; done) | (simp; omega))), sb h2, sc (k_pick_Choose ((↑(List.map (fun n => [iv n]) (eligible (List.map imOf cur) l (List.map imOf cur).length)).length : Int)) (ps) (by first | assumption | omega | (simp; done) | (simp; omega))), sb h3, sqx (AllLen [[iv (↑(List.map (fun n => [iv n]) (eligible (List.map imOf cur) l (List.map imOf cur).length)).length : Int)]] 1 ∧ ch.length = (List.map (fun n => [iv n]) ch).length ∧ (((List.map (fun n => [iv n]) ch).length + [[iv (↑(List.map (fun n => [iv n]) (eligible (List.map imOf cur) l (List.map imOf cur).length)).length : Int)]].length) * 8).le 140737488355328), se (el_elig (List.map imOf cur) (l) (ps) (by first | assumption | omega | (simp; done) | (simp; omega)) (by first | assumption | omega | (simp; done) | (simp; omega))), sqx (OsEl (List.map Tg.cells cur ++ rest) n 0 cur.length (↑(chosen (List.map imOf cur) l ps) : Int)), sx (.el ((cur.getD (pl cur l ps) tgNull).cells)) (hoe), sl [2, 1] (k_before_row_fire (N) (cur.getD (pl cur l ps) tgNull) (s) (old) (nw) (tb) hN (by first | assumption | omega | (simp; done) | (simp; omega)) (by first | assumption | omega | (simp; done) | (simp; omega)) (by first | assumption | omega | (simp; done) | (simp; omega)) (by first | assumption | omega | (simp; done) | (simp; omega)) (by first | assumption | omega | (simp; done) | (simp; omega)) (by first | assumption | omega | (simp; done) | (simp; omega))), sb h6] (by kernel_rfl)))))
    · exact wkl (c' := (Cfg.mk (L_items l s old tb cur rest n nw ps ch 0 []).n (L_items l s old tb cur rest n nw ps ch 0 []).todo [(1, AV.sl (List.map Lk.cells l)), (6, AV.sl (List.map (fun n => [iv n]) ps)), (18, AV.p 2 0), (19, AV.os 3 n 0 cur.length), (20, AV.own 4 ch.length), (21, AV.nl), (41, AV.os 3 n 0 cur.length), (42, iv (↑(cur.length - 0) : Int)), (43, iv 0)] [Blk.box [sv s.name, AV.sl (List.map Col.cells s.cols)], Blk.row Ty.Value (List.map V.cells nw) false, Blk.box [sv s.name, AV.sl (List.map Col.cells s.cols), AV.sl (List.map V.cells old), AV.own 1 nw.length, AV.sl (List.map Tb.cells tb)], Blk.row Ty.Trigger (List.map Tg.cells cur ++ rest) false, Blk.row Ty.int (List.map (fun n => [iv n]) ch) false])) [sqx (n = (List.map Tg.cells cur ++ rest).length), sb hcl, sqx (n = (List.map Tg.cells cur ++ rest).length)] [1, 6, 18, 19, 20, 21, 41, 42, 43] 5 (by kernel_rfl) (good_ownCut (c' := L_items l s old tb cur rest n nw ps ch 0 []) 21 Ty.Item [1, 6, 18, 19, 20, 21, 41, 42, 43] 6 (by kernel_rfl) (by kernel_rfl) (by kernel_rfl) (g1 _ (good_unroll (wkr [sb q1, skx ((List.map imOf cur).length = (List.map Im.cells (List.map imOf cur)).length ∧ True ∧ True) [] (k_pick_Eligible (List.map imOf cur) (l) (by first | assumption | omega | (simp; done) | (simp; omega)) (by first | assumption | omega | (simp; done) | (simp; omega))), sb h2] (by kernel_rfl)))))
def bRow (N : Nat) (ts : List Tg) (l : List Lk) (s : Sch) (old new : List V) (tb : List Tb) (ps : List Int) : (List V) × (List Int) × (List Int) × Int :=
  brow N l s old tb ts.length (ts) (new) (ps) ([])
theorem k_before_Row (N : Nat) (ts : List Tg) (l : List Lk) (s : Sch) (old new : List V) (tb : List Tb) (ps : List Int) (hN : N ≤ 900000) (hl : Short l) (hs : Few s.cols) (hss : Short s.cols) (ho : NwOk old) (hto : TbOk tb) (htg : TbG tb) (hts : Short ts) (hT : ∀ t ∈ ts, TrOk N t) (hw0 : NwOk new) (hws : Short new) (hp : Short ps) : ACallsTo E0 S.before_Row [.sl (ts.map Tg.cells), .sl (l.map Lk.cells), s.av, vsl old, vsl new, tsl tb, isl ps] [] (.tup [vsl (bRow N ts l s old new tb ps).1, isl (bRow N ts l s old new tb ps).2.1, isl (bRow N ts l s old new tb ps).2.2.1, iv (bRow N ts l s old new tb ps).2.2.2]) [] := by
  unfold bRow
  exact wkc At.before_Row (c' := (Cfg.mk (L_brow0 N l s old tb 0 ts [] ts.length new ps []).n (L_brow0 N l s old tb 0 ts [] ts.length new ps []).todo [(1, AV.sl (List.map Lk.cells l)), (6, AV.own 4 ps.length), (18, AV.p 2 0), (19, AV.own 3 ts.length), (20, AV.nl)] [Blk.box [sv s.name, AV.sl (List.map Col.cells s.cols)], Blk.row Ty.Value (List.map V.cells new) false, Blk.box [sv s.name, AV.sl (List.map Col.cells s.cols), AV.sl (List.map V.cells old), AV.own 1 new.length, AV.sl (List.map Tb.cells tb)], Blk.row Ty.Trigger (List.map Tg.cells ts) false, Blk.row Ty.int (List.map icell ps) false])) [sd [(3, [sc (k_slices_Clone_Value (new) (by first | assumption | omega | (simp; done) | (simp; omega)))])], sc (k_slices_Clone_Trigger (ts) (by first | assumption | omega | (simp; done) | (simp; omega))), sc (k_slices_Clone_int (ps) (by first | assumption | omega | (simp; done) | (simp; omega)))] [1, 6, 18, 19, 20] 5 (by kernel_rfl) (good_frzCut (c' := (Cfg.mk (L_brow0 N l s old tb 0 ts [] ts.length new ps []).n (L_brow0 N l s old tb 0 ts [] ts.length new ps []).todo [(1, AV.sl (List.map Lk.cells l)), (6, AV.sl (List.map icell ps)), (18, AV.p 2 0), (19, AV.own 3 ts.length), (20, AV.nl)] [Blk.box [sv s.name, AV.sl (List.map Col.cells s.cols)], Blk.row Ty.Value (List.map V.cells new) false, Blk.box [sv s.name, AV.sl (List.map Col.cells s.cols), AV.sl (List.map V.cells old), AV.own 1 new.length, AV.sl (List.map Tb.cells tb)], Blk.row Ty.Trigger (List.map Tg.cells ts) false])) (v := AV.own 4 ps.length) (q := ps.length = (List.map icell ps).length) 6 [1, 6, 18, 19, 20] 4 (by kernel_rfl) (by kernel_rfl) owed (by kernel_rfl) (by kernel_rfl) (good_osCut (c' := (Cfg.mk (L_brow0 N l s old tb 0 ts [] ts.length new ps []).n (L_brow0 N l s old tb 0 ts [] ts.length new ps []).todo [(1, AV.sl (List.map Lk.cells l)), (6, AV.sl (List.map icell ps)), (18, AV.p 2 0), (19, AV.os 3 ts.length 0 ts.length), (20, AV.nl)] [Blk.box [sv s.name, AV.sl (List.map Col.cells s.cols)], Blk.row Ty.Value (List.map V.cells new) false, Blk.box [sv s.name, AV.sl (List.map Col.cells s.cols), AV.sl (List.map V.cells old), AV.own 1 new.length, AV.sl (List.map Tb.cells tb)], Blk.row Ty.Trigger (List.map Tg.cells ts) false])) 19 3 (ts.length) [1, 6, 18, 19, 20] 4 (by kernel_rfl) (by kernel_rfl) (by kernel_rfl) (good_ownCut (c' := (Cfg.mk (L_brow0 N l s old tb 0 ts [] ts.length new ps []).n (L_brow0 N l s old tb 0 ts [] ts.length new ps []).todo [(1, AV.sl (List.map Lk.cells l)), (6, AV.sl (List.map icell ps)), (18, AV.p 2 0), (19, AV.os 3 ts.length 0 ts.length), (20, AV.own 4 0)] [Blk.box [sv s.name, AV.sl (List.map Col.cells s.cols)], Blk.row Ty.Value (List.map V.cells new) false, Blk.box [sv s.name, AV.sl (List.map Col.cells s.cols), AV.sl (List.map V.cells old), AV.own 1 new.length, AV.sl (List.map Tb.cells tb)], Blk.row Ty.Trigger (List.map Tg.cells ts) false, Blk.row Ty.int [] false])) 20 Ty.int [1, 6, 18, 19, 20] 5 (by kernel_rfl) (by kernel_rfl) (by kernel_rfl) (good_same (show ([(1, AV.sl (List.map Lk.cells l)), (6, AV.sl (List.map icell ps)), (18, AV.p 2 0), (19, AV.os 3 ts.length 0 ts.length), (20, AV.own 4 0)] : TS) = [(1, AV.sl (List.map Lk.cells l)), (6, AV.sl (List.map (fun n => [iv n]) ps)), (18, AV.p 2 0), (19, AV.os 3 ts.length 0 ts.length), (20, AV.own 4 0)] by first | rfl | (simp; done) | (simp [X.cells, Qy.cells, V.cells, Col.cells, Rw.cells, Tb.cells, Fr.cells, Sch.cells, Tp.cells, Pl.cells, xCol, xLit, xBin, xNeg, Im.cells, Lk.cells]; done)) (show ([Blk.box [sv s.name, AV.sl (List.map Col.cells s.cols)], Blk.row Ty.Value (List.map V.cells new) false, Blk.box [sv s.name, AV.sl (List.map Col.cells s.cols), AV.sl (List.map V.cells old), AV.own 1 new.length, AV.sl (List.map Tb.cells tb)], Blk.row Ty.Trigger (List.map Tg.cells ts) false, Blk.row Ty.int [] false] : Heap) = [Blk.box [sv s.name, AV.sl (List.map Col.cells s.cols)], Blk.row Ty.Value (List.map V.cells new) false, Blk.box [sv s.name, AV.sl (List.map Col.cells s.cols), AV.sl (List.map V.cells old), AV.own 1 new.length, AV.sl (List.map Tb.cells tb)], Blk.row Ty.Trigger (List.map Tg.cells ts ++ []) false, Blk.row Ty.int [] false] by first | rfl | (simp; done) | (simp [X.cells, Qy.cells, V.cells, Col.cells, Rw.cells, Tb.cells, Fr.cells, Sch.cells, Tp.cells, Pl.cells, xCol, xLit, xBin, xNeg, Im.cells, Lk.cells]; done)) (k_brow_loop N l s old tb hN hl hs ho hto htg ts.length (ts) ([]) (ts.length) (new) (ps) ([]) hts rfl (by simp) (by simp) hts hT hw0 hp (by simpa using hts))))))
end Go.AM

namespace Go.AM
set_option maxRecDepth 100000
set_option maxHeartbeats 1000000
set_option linter.unusedSimpArgs false
set_option linter.unusedVariables false
abbrev scell (s : Str) : List AV := [sv s]
theorem clstring_f (l : List (Str)) (hl : Short l) : Good E0 B.slices_Clone_string [] (nilBack (uptoZ B.slices_Clone_string [.sl (l.map scell)] [] 0) false) (fun r h => r = .own 0 l.length ∧ h = [.row Ty.string (l.map scell) false]) :=
  toRetK E0ok mix0 3000 (y := AV.own 0 (List.map scell l).length) (H := [Blk.row Ty.string (List.map scell l) false]) [sb (rfl : false = false), sqx (AllLen (List.map scell l) 1 ∧ ((List.map scell l).length * 16).le 140737488355328)] (by kernel_rfl) (⟨by simp, rfl⟩)
theorem clstring_t : Good E0 B.slices_Clone_string [] (nilBack (uptoZ B.slices_Clone_string [.sl []] [] 0) true) (fun r h => r = .nl ∧ h = []) :=
  toRetK E0ok mix0 3000 (y := AV.nl) (H := []) [sb (rfl : true = true)] (by kernel_rfl) (⟨rfl, rfl⟩)
theorem k_slices_Clone_string (l : List (Str)) (hl : Short l) : ACallsTo E0 S.slices_Clone_string [.sl (l.map scell)] [] (.own 0 l.length) [.row Ty.string (l.map scell) false] := by
  refine acalls_of_good At.slices_Clone_string rfl (by kernel_rfl) (Nat.le_of_ble_eq_true (by kernel_rfl)) (toLoop E0ok mix0 3000 [] (List.range 40) 0 (c' := uptoZ B.slices_Clone_string [.sl (l.map scell)] [] 0) (by kernel_rfl) (by kernel_rfl) (good_nil E0ok (xs := l.map scell) (e := true) (by kernel_rfl) fun b hb => ?_))
  cases b with
  | false => exact clstring_f l hl
  | true =>
    cases l with
    | nil => exact good_retOwn Ty.string clstring_t ⟨rfl, rfl⟩
    | cons x r => exact absurd (hb (by simp)) (by simp)
theorem clRank_f (l : List (Rk)) (hl : Short l) : Good E0 B.slices_Clone_Rank [] (nilBack (uptoZ B.slices_Clone_Rank [.sl (l.map Rk.cells)] [] 0) false) (fun r h => r = .own 0 l.length ∧ h = [.row Ty.Rank (l.map Rk.cells) false]) :=
  toRetK E0ok mix0 3000 (y := AV.own 0 (List.map Rk.cells l).length) (H := [Blk.row Ty.Rank (List.map Rk.cells l) false]) [sb (rfl : false = false), sqx (AllLen (List.map Rk.cells l) 4 ∧ ((List.map Rk.cells l).length * 48).le 140737488355328)] (by kernel_rfl) (⟨by simp, rfl⟩)
theorem clRank_t : Good E0 B.slices_Clone_Rank [] (nilBack (uptoZ B.slices_Clone_Rank [.sl []] [] 0) true) (fun r h => r = .nl ∧ h = []) :=
  toRetK E0ok mix0 3000 (y := AV.nl) (H := []) [sb (rfl : true = true)] (by kernel_rfl) (⟨rfl, rfl⟩)
theorem k_slices_Clone_Rank (l : List (Rk)) (hl : Short l) : ACallsTo E0 S.slices_Clone_Rank [.sl (l.map Rk.cells)] [] (.own 0 l.length) [.row Ty.Rank (l.map Rk.cells) false] := by
  refine acalls_of_good At.slices_Clone_Rank rfl (by kernel_rfl) (Nat.le_of_ble_eq_true (by kernel_rfl)) (toLoop E0ok mix0 3000 [] (List.range 40) 0 (c' := uptoZ B.slices_Clone_Rank [.sl (l.map Rk.cells)] [] 0) (by kernel_rfl) (by kernel_rfl) (good_nil E0ok (xs := l.map Rk.cells) (e := true) (by kernel_rfl) fun b hb => ?_))
  cases b with
  | false => exact clRank_f l hl
  | true =>
    cases l with
    | nil => exact good_retOwn Ty.Rank clRank_t ⟨rfl, rfl⟩
    | cons x r => exact absurd (hb (by simp)) (by simp)
@[simp] theorem cellsQ_app (a b : List Qy) : cellsQ (a ++ b) = cellsQ a ++ cellsQ b := by simp [cellsQ_map]
noncomputable def L_dlX (l : List (X)) (i : Nat) (out : List (X)) : Cfg := loopAt B.deep_list_api_Expr 0 [(1, .fn S.deep_Expr []), (5, .own 0 out.length), (8, .sl (cellsX l)), (9, iv ((cellsX l).length : Nat)), (10, iv (i : Nat))] [.row Ty.Expr (cellsX out) false]
theorem x_deep_list_api_Expr__dlX_loop (l : List (X)) (hl : Short l) (hf : ∀ x ∈ l, ACallsTo E0 S.deep_Expr [x.av] [] (x.av) []) (i : Nat) (out : List (X)) (hi : i ≤ (l).length) (hI : out = l.take i) : ∃ (out' : List (X)), (out' = l.take (l).length) ∧ (decide ((((l).length : Nat) : Int) < (((cellsX l).length : Nat) : Int)) = false) ∧ ∀ R, Good E0 B.deep_list_api_Expr [] (L_dlX l (l).length out') R → Good E0 B.deep_list_api_Expr [] (L_dlX l i out) R := by
  obtain ⟨kk, hk⟩ : ∃ kk, i + kk = (l).length := ⟨(l).length - i, by omega⟩
  induction kk generalizing i out with
  | zero =>
    have e0 : i = (l).length := by omega
    subst e0
    exact ⟨out, hI, by simp, fun R hg => hg⟩
  | succ kk ih =>
    obtain ⟨x, hx⟩ := ex_at (l := l) (i := i) (by omega)
    have h0 : decide (((i : Nat) : Int) < (((cellsX l).length : Nat) : Int)) = true := by simp; omega
    have hw : IntKind.i64.wrap (((i : Nat) : Int) + 1) = ((i + 1 : Nat) : Int) := wrap_nat i (by first | omega | (simp only [Short, Few] at *; omega))
    have hfx := hf x (List.mem_of_getElem? hx)
    have ho : out.length ≤ 1000000000 := by rw [hI, List.length_take]; simp only [Short] at hl; omega
    obtain ⟨outZ, qZ, xZ, gZ⟩ := ih (i + 1) (out ++ [x]) (by omega) (by rw [List.take_add_one, hx, hI]; rfl) (by omega); exact ⟨outZ, qZ, xZ, fun R hg => good_unroll (wkl (c' := (Cfg.mk (L_dlX l (i + 1) (out ++ [x])).n (L_dlX l (i + 1) (out ++ [x])).todo [(1, AV.fn S.deep_Expr []), (5, AV.own 0 (cellsX out ++ [[iv x.kind, iv x.op, bv x.not, iv x.val.kind, iv x.val.int, sv x.val.text, sv x.table, sv x.name, AV.sl (cellsX x.args), AV.sl (cellsQ x.sub)]]).length), (8, AV.sl (cellsX l)), (9, iv (↑(cellsX l).length : Int)), (10, iv (↑(i + 1) : Int))] [Blk.row Ty.Expr (cellsX out ++ [[iv x.kind, iv x.op, bv x.not, iv x.val.kind, iv x.val.int, sv x.val.text, sv x.table, sv x.name, AV.sl (cellsX x.args), AV.sl (cellsQ x.sub)]]) false])) [sb h0, se (elAt_X hx), sc hfx, sqx (AllLen [[iv x.kind, iv x.op, bv x.not, iv x.val.kind, iv x.val.int, sv x.val.text, sv x.table, sv x.name, AV.sl (cellsX x.args), AV.sl (cellsQ x.sub)]] 10 ∧ out.length = (cellsX out).length ∧ (((cellsX out).length + [[iv x.kind, iv x.op, bv x.not, iv x.val.kind, iv x.val.int, sv x.val.text, sv x.table, sv x.name, AV.sl (cellsX x.args), AV.sl (cellsQ x.sub)]].length) * 136).le 140737488355328), si hw] [1, 5, 8, 9, 10] 1 (by kernel_rfl) (good_same (show ([(1, AV.fn S.deep_Expr []), (5, AV.own 0 (cellsX out ++ [[iv x.kind, iv x.op, bv x.not, iv x.val.kind, iv x.val.int, sv x.val.text, sv x.table, sv x.name, AV.sl (cellsX x.args), AV.sl (cellsQ x.sub)]]).length), (8, AV.sl (cellsX l)), (9, iv (↑(cellsX l).length : Int)), (10, iv (↑(i + 1) : Int))] : TS) = [(1, AV.fn S.deep_Expr []), (5, AV.own 0 (out ++ [x]).length), (8, AV.sl (cellsX l)), (9, iv (↑(cellsX l).length : Int)), (10, iv (↑(i + 1) : Int))] by first | rfl | (simp; done) | (simp [X.cells, Qy.cells, V.cells, Col.cells, Rw.cells, Tb.cells, Fr.cells, Sch.cells, Tp.cells, Pl.cells, xCol, xLit, xBin, xNeg, Im.cells, Lk.cells]; done)) (show ([Blk.row Ty.Expr (cellsX out ++ [[iv x.kind, iv x.op, bv x.not, iv x.val.kind, iv x.val.int, sv x.val.text, sv x.table, sv x.name, AV.sl (cellsX x.args), AV.sl (cellsQ x.sub)]]) false] : Heap) = [Blk.row Ty.Expr (cellsX (out ++ [x])) false] by first | rfl | (simp; done) | (simp [X.cells, Qy.cells, V.cells, Col.cells, Rw.cells, Tb.cells, Fr.cells, Sch.cells, Tp.cells, Pl.cells, xCol, xLit, xBin, xNeg, Im.cells, Lk.cells]; done)) (gZ R hg)))⟩
theorem c_deep_list_api_Expr (l : List (X)) (hl : Short l) (hf : ∀ x ∈ l, ACallsTo E0 S.deep_Expr [x.av] [] (x.av) []) : ∃ (r : List (X)), r = l ∧ ACallsTo E0 S.deep_list_api_Expr [.sl (cellsX l), .fn S.deep_Expr []] [] (.sl (cellsX r)) [] := by
  obtain ⟨out1, q1, q1_1, g1⟩ := x_deep_list_api_Expr__dlX_loop (l) (by first | assumption | rfl | omega) (by first | assumption | rfl | omega) (0) ([]) (by first | assumption | rfl | omega) (by first | assumption | rfl | omega)
  exact ⟨out1, by first | assumption | (rw [List.take_length] at *; assumption), wkc At.deep_list_api_Expr (c' := (Cfg.mk (L_dlX l 0 []).n (L_dlX l 0 []).todo [(1, AV.fn S.deep_Expr []), (5, AV.nl), (8, AV.sl (cellsX l)), (9, iv (↑(cellsX l).length : Int)), (10, iv 0)] [])) [] [1, 5, 8, 9, 10] 0 (by kernel_rfl) (good_ownCut (c' := L_dlX l 0 []) 5 Ty.Expr [1, 5, 8, 9, 10] 1 (by kernel_rfl) (by kernel_rfl) (by kernel_rfl) (g1 _ (good_unroll (wkr [sqx (out1.length = (cellsX out1).length), sb q1_1] (by kernel_rfl)))))⟩
theorem k_deep_list_api_Expr (l : List (X)) (hl : Short l) (hf : ∀ x ∈ l, ACallsTo E0 S.deep_Expr [x.av] [] (x.av) []) : ACallsTo E0 S.deep_list_api_Expr [.sl (cellsX l), .fn S.deep_Expr []] [] (.sl (cellsX l)) [] := by
  obtain ⟨r, rfl, h⟩ := c_deep_list_api_Expr l hl hf
  exact h
noncomputable def L_dlQ (l : List (Qy)) (i : Nat) (out : List (Qy)) : Cfg := loopAt B.deep_list_api_Query 0 [(1, .fn S.deep_Query []), (5, .own 0 out.length), (8, .sl (cellsQ l)), (9, iv ((cellsQ l).length : Nat)), (10, iv (i : Nat))] [.row Ty.Query (cellsQ out) false]
theorem x_deep_list_api_Query__dlQ_loop (l : List (Qy)) (hl : Short l) (hf : ∀ x ∈ l, ACallsTo E0 S.deep_Query [x.av] [] (x.av) []) (i : Nat) (out : List (Qy)) (hi : i ≤ (l).length) (hI : out = l.take i) : ∃ (out' : List (Qy)), (out' = l.take (l).length) ∧ (decide ((((l).length : Nat) : Int) < (((cellsQ l).length : Nat) : Int)) = false) ∧ ∀ R, Good E0 B.deep_list_api_Query [] (L_dlQ l (l).length out') R → Good E0 B.deep_list_api_Query [] (L_dlQ l i out) R := by
  obtain ⟨kk, hk⟩ : ∃ kk, i + kk = (l).length := ⟨(l).length - i, by omega⟩
  induction kk generalizing i out with
  | zero =>
    have e0 : i = (l).length := by omega
    subst e0
    exact ⟨out, hI, by simp, fun R hg => hg⟩
  | succ kk ih =>
    obtain ⟨x, hx⟩ := ex_at (l := l) (i := i) (by omega)
    have h0 : decide (((i : Nat) : Int) < (((cellsQ l).length : Nat) : Int)) = true := by simp; omega
    have hw : IntKind.i64.wrap (((i : Nat) : Int) + 1) = ((i + 1 : Nat) : Int) := wrap_nat i (by first | omega | (simp only [Short, Few] at *; omega))
    have hfx := hf x (List.mem_of_getElem? hx)
    have ho : out.length ≤ 1000000000 := by rw [hI, List.length_take]; simp only [Short] at hl; omega
    obtain ⟨outZ, qZ, xZ, gZ⟩ := ih (i + 1) (out ++ [x]) (by omega) (by rw [List.take_add_one, hx, hI]; rfl) (by omega); exact ⟨outZ, qZ, xZ, fun R hg => good_unroll (wkl (c' := (Cfg.mk (L_dlQ l (i + 1) (out ++ [x])).n (L_dlQ l (i + 1) (out ++ [x])).todo [(1, AV.fn S.deep_Query []), (5, AV.own 0 (cellsQ out ++ [[bv x.star, AV.sl (cellsX x.items), sv x.frm, AV.sl (cellsX x.wh)]]).length), (8, AV.sl (cellsQ l)), (9, iv (↑(cellsQ l).length : Int)), (10, iv (↑(i + 1) : Int))] [Blk.row Ty.Query (cellsQ out ++ [[bv x.star, AV.sl (cellsX x.items), sv x.frm, AV.sl (cellsX x.wh)]]) false])) [sb h0, se (elAt_Q hx), sc hfx, sqx (AllLen [[bv x.star, AV.sl (cellsX x.items), sv x.frm, AV.sl (cellsX x.wh)]] 4 ∧ out.length = (cellsQ out).length ∧ (((cellsQ out).length + [[bv x.star, AV.sl (cellsX x.items), sv x.frm, AV.sl (cellsX x.wh)]].length) * 72).le 140737488355328), si hw] [1, 5, 8, 9, 10] 1 (by kernel_rfl) (good_same (show ([(1, AV.fn S.deep_Query []), (5, AV.own 0 (cellsQ out ++ [[bv x.star, AV.sl (cellsX x.items), sv x.frm, AV.sl (cellsX x.wh)]]).length), (8, AV.sl (cellsQ l)), (9, iv (↑(cellsQ l).length : Int)), (10, iv (↑(i + 1) : Int))] : TS) = [(1, AV.fn S.deep_Query []), (5, AV.own 0 (out ++ [x]).length), (8, AV.sl (cellsQ l)), (9, iv (↑(cellsQ l).length : Int)), (10, iv (↑(i + 1) : Int))] by first | rfl | (simp; done) | (simp [X.cells, Qy.cells, V.cells, Col.cells, Rw.cells, Tb.cells, Fr.cells, Sch.cells, Tp.cells, Pl.cells, xCol, xLit, xBin, xNeg, Im.cells, Lk.cells]; done)) (show ([Blk.row Ty.Query (cellsQ out ++ [[bv x.star, AV.sl (cellsX x.items), sv x.frm, AV.sl (cellsX x.wh)]]) false] : Heap) = [Blk.row Ty.Query (cellsQ (out ++ [x])) false] by first | rfl | (simp; done) | (simp [X.cells, Qy.cells, V.cells, Col.cells, Rw.cells, Tb.cells, Fr.cells, Sch.cells, Tp.cells, Pl.cells, xCol, xLit, xBin, xNeg, Im.cells, Lk.cells]; done)) (gZ R hg)))⟩
theorem c_deep_list_api_Query (l : List (Qy)) (hl : Short l) (hf : ∀ x ∈ l, ACallsTo E0 S.deep_Query [x.av] [] (x.av) []) : ∃ (r : List (Qy)), r = l ∧ ACallsTo E0 S.deep_list_api_Query [.sl (cellsQ l), .fn S.deep_Query []] [] (.sl (cellsQ r)) [] := by
  obtain ⟨out1, q1, q1_1, g1⟩ := x_deep_list_api_Query__dlQ_loop (l) (by first | assumption | rfl | omega) (by first | assumption | rfl | omega) (0) ([]) (by first | assumption | rfl | omega) (by first | assumption | rfl | omega)
  exact ⟨out1, by first | assumption | (rw [List.take_length] at *; assumption), wkc At.deep_list_api_Query (c' := (Cfg.mk (L_dlQ l 0 []).n (L_dlQ l 0 []).todo [(1, AV.fn S.deep_Query []), (5, AV.nl), (8, AV.sl (cellsQ l)), (9, iv (↑(cellsQ l).length : Int)), (10, iv 0)] [])) [] [1, 5, 8, 9, 10] 0 (by kernel_rfl) (good_ownCut (c' := L_dlQ l 0 []) 5 Ty.Query [1, 5, 8, 9, 10] 1 (by kernel_rfl) (by kernel_rfl) (by kernel_rfl) (g1 _ (good_unroll (wkr [sqx (out1.length = (cellsQ out1).length), sb q1_1] (by kernel_rfl)))))⟩
theorem k_deep_list_api_Query (l : List (Qy)) (hl : Short l) (hf : ∀ x ∈ l, ACallsTo E0 S.deep_Query [x.av] [] (x.av) []) : ACallsTo E0 S.deep_list_api_Query [.sl (cellsQ l), .fn S.deep_Query []] [] (.sl (cellsQ l)) [] := by
  obtain ⟨r, rfl, h⟩ := c_deep_list_api_Query l hl hf
  exact h
theorem c_deep_Exprs (l : List X) (hl : Short l) (hf : ∀ x ∈ l, ACallsTo E0 S.deep_Expr [x.av] [] x.av []) : ∃ (r : List X), r = l ∧ ACallsTo E0 S.deep_Exprs [xsl l] [] (xsl r) [] := by
  exact ⟨l, by rfl, wk At.deep_Exprs [sc (k_deep_list_api_Expr (l) (by first | assumption | omega | (simp; done) | (simp; omega)) (by first | assumption | omega | (simp; done) | (simp; omega)))] (by kernel_rfl)⟩
theorem k_deep_Exprs (l : List X) (hl : Short l) (hf : ∀ x ∈ l, ACallsTo E0 S.deep_Expr [x.av] [] x.av []) : ACallsTo E0 S.deep_Exprs [xsl l] [] (xsl l) [] := by
  obtain ⟨r, rfl, h⟩ := c_deep_Exprs l hl hf
  exact h
theorem c_deep_Query (q : Qy) (hl : Short q.items) (hl2 : Short q.wh) (hf : ∀ x ∈ q.items, ACallsTo E0 S.deep_Expr [x.av] [] x.av []) (hf2 : ∀ x ∈ q.wh, ACallsTo E0 S.deep_Expr [x.av] [] x.av []) : ∃ (r : Qy), r = q ∧ ACallsTo E0 S.deep_Query [q.av] [] (r.av) [] := by
  exact ⟨q, by rfl, wk At.deep_Query [sd [(2, [sc (k_deep_Exprs (q.items) (by first | assumption | omega | (simp; done) | (simp; omega)) (by first | assumption | omega | (simp; done) | (simp; omega)))]), (5, [sc (k_deep_Exprs (q.wh) (by first | assumption | omega | (simp; done) | (simp; omega)) (by first | assumption | omega | (simp; done) | (simp; omega)))])]] (by kernel_rfl)⟩
theorem c_deep_Expr (e : X) (hl : Short e.args) (hl2 : Short e.sub) (hf : ∀ x ∈ e.args, ACallsTo E0 S.deep_Expr [x.av] [] x.av []) (hf2 : ∀ x ∈ e.sub, ACallsTo E0 S.deep_Query [x.av] [] x.av []) : ∃ (r : X), r = e ∧ ACallsTo E0 S.deep_Expr [e.av] [] (r.av) [] := by
  exact ⟨e, by rfl, wk At.deep_Expr [sd [(2, [sc (k_deep_list_api_Expr (e.args) (by first | assumption | omega | (simp; done) | (simp; omega)) (by first | assumption | omega | (simp; done) | (simp; omega)))]), (5, [sc (k_deep_list_api_Query (e.sub) (by first | assumption | omega | (simp; done) | (simp; omega)) (by first | assumption | omega | (simp; done) | (simp; omega)))])]] (by kernel_rfl)⟩
theorem k_deep_Expr : ∀ (n : Nat) (e : X), XOk n e → ACallsTo E0 S.deep_Expr [e.av] [] e.av []
  | 0, _, h => h.elim
  | n + 1, e, h => by
    obtain ⟨_, h2, h3, h4⟩ := h
    obtain ⟨r, rfl, hr⟩ := c_deep_Expr e (few_short h2.1) (few_short h2.2) (fun x hx => k_deep_Expr n x (h3 x hx)) (fun q hq => by
      obtain ⟨r, rfl, hr⟩ := c_deep_Query q (few_short (h4 q hq).1.1) (few_short (h4 q hq).1.2) (fun x hx => k_deep_Expr n x ((h4 q hq).2.1 x hx)) (fun x hx => k_deep_Expr n x ((h4 q hq).2.2 x hx))
      exact hr)
    exact hr
/-- A query of expressions of less than n levels, its lists short. -/
structure QW (n : Nat) (q : Qy) : Prop where
  items : Few q.items
  wh : Few q.wh
  hi : ∀ x ∈ q.items, XOk n x
  hw : ∀ x ∈ q.wh, XOk n x
theorem k_deep_Query (n : Nat) (q : Qy) (h : QW n q) : ACallsTo E0 S.deep_Query [q.av] [] q.av [] := by
  obtain ⟨r, rfl, hr⟩ := c_deep_Query q (few_short h.items) (few_short h.wh) (fun x hx => k_deep_Expr n x (h.hi x hx)) (fun x hx => k_deep_Expr n x (h.hw x hx))
  exact hr
end Go.AM

namespace Go.AM
set_option maxRecDepth 100000
set_option maxHeartbeats 1000000
set_option linter.unusedSimpArgs false
set_option linter.unusedVariables false
abbrev lcell (r : List X) : List AV := [.sl (cellsX r)]
theorem c_deep_set (s : Se) (hf : ACallsTo E0 S.deep_Expr [s.ex.av] [] s.ex.av []) : ∃ (r : Se), r = s ∧ ACallsTo E0 S.deep_set [.agg s.cells] [] (.agg r.cells) [] := by
  exact ⟨s, by rfl, wk At.deep_set [sd [(4, [sc hf])]] (by kernel_rfl)⟩
theorem k_deep_set (n : Nat) (s : Se) (h : XOk n s.ex) : ACallsTo E0 S.deep_set [.agg s.cells] [] (.agg s.cells) [] := by
  obtain ⟨r, rfl, hr⟩ := c_deep_set s (k_deep_Expr n s.ex h)
  exact hr
noncomputable def L_dlL (l : List (List X)) (i : Nat) (out : List (List X)) : Cfg := loopAt B.deep_list_Lapi_Expr 0 [(1, .fn S.deep_Exprs []), (5, .own 0 out.length), (8, .sl ((l).map lcell)), (9, iv (((l).map lcell).length : Nat)), (10, iv (i : Nat))] [.row Ty.LExpr ((out).map lcell) false]
theorem x_deep_list_Lapi_Expr__dlL_loop (l : List (List X)) (hl : Short l) (hf : ∀ x ∈ l, ACallsTo E0 S.deep_Exprs [xsl x] [] (xsl x) []) (i : Nat) (out : List (List X)) (hi : i ≤ (l).length) (hI : out = l.take i) : ∃ (out' : List (List X)), (out' = l.take (l).length) ∧ (decide ((((l).length : Nat) : Int) < ((((l).map lcell).length : Nat) : Int)) = false) ∧ ∀ R, Good E0 B.deep_list_Lapi_Expr [] (L_dlL l (l).length out') R → Good E0 B.deep_list_Lapi_Expr [] (L_dlL l i out) R := by
  obtain ⟨kk, hk⟩ : ∃ kk, i + kk = (l).length := ⟨(l).length - i, by omega⟩
  induction kk generalizing i out with
  | zero =>
    have e0 : i = (l).length := by omega
    subst e0
    exact ⟨out, hI, by simp, fun R hg => hg⟩
  | succ kk ih =>
    obtain ⟨x, hx⟩ := ex_at (l := l) (i := i) (by omega)
    have h0 : decide (((i : Nat) : Int) < ((((l).map lcell).length : Nat) : Int)) = true := by simp; omega
    have hw : IntKind.i64.wrap (((i : Nat) : Int) + 1) = ((i + 1 : Nat) : Int) := wrap_nat i (by first | omega | (simp only [Short, Few] at *; omega))
    have hfx := hf x (List.mem_of_getElem? hx)
    have ho : out.length ≤ 1000000000 := by rw [hI, List.length_take]; simp only [Short] at hl; omega
    obtain ⟨outZ, qZ, xZ, gZ⟩ := ih (i + 1) (out ++ [x]) (by omega) (by rw [List.take_add_one, hx, hI]; rfl) (by omega); exact ⟨outZ, qZ, xZ, fun R hg => good_unroll (wkl (c' := (Cfg.mk (L_dlL l (i + 1) (out ++ [x])).n (L_dlL l (i + 1) (out ++ [x])).todo [(1, AV.fn S.deep_Exprs []), (5, AV.own 0 (List.map lcell out ++ [[AV.sl (cellsX x)]]).length), (8, AV.sl (List.map lcell l)), (9, iv (↑(List.map lcell l).length : Int)), (10, iv (↑(i + 1) : Int))] [Blk.row Ty.LExpr (List.map lcell out ++ [[AV.sl (cellsX x)]]) false])) [sb h0, se (elAt_map (lcell) hx rfl), sc hfx, sqx (AllLen [[AV.sl (cellsX x)]] 1 ∧ out.length = (List.map lcell out).length ∧ (((List.map lcell out).length + [[AV.sl (cellsX x)]].length) * 24).le 140737488355328), si hw] [1, 5, 8, 9, 10] 1 (by kernel_rfl) (good_same (show ([(1, AV.fn S.deep_Exprs []), (5, AV.own 0 (List.map lcell out ++ [[AV.sl (cellsX x)]]).length), (8, AV.sl (List.map lcell l)), (9, iv (↑(List.map lcell l).length : Int)), (10, iv (↑(i + 1) : Int))] : TS) = [(1, AV.fn S.deep_Exprs []), (5, AV.own 0 (out ++ [x]).length), (8, AV.sl (List.map lcell l)), (9, iv (↑(List.map lcell l).length : Int)), (10, iv (↑(i + 1) : Int))] by first | rfl | (simp; done) | (simp [X.cells, Qy.cells, V.cells, Col.cells, Rw.cells, Tb.cells, Fr.cells, Sch.cells, Tp.cells, Pl.cells, xCol, xLit, xBin, xNeg, Im.cells, Lk.cells, Ac.cells, Se.cells, Tg.cells]; done)) (show ([Blk.row Ty.LExpr (List.map lcell out ++ [[AV.sl (cellsX x)]]) false] : Heap) = [Blk.row Ty.LExpr (List.map lcell (out ++ [x])) false] by first | rfl | (simp; done) | (simp [X.cells, Qy.cells, V.cells, Col.cells, Rw.cells, Tb.cells, Fr.cells, Sch.cells, Tp.cells, Pl.cells, xCol, xLit, xBin, xNeg, Im.cells, Lk.cells, Ac.cells, Se.cells, Tg.cells]; done)) (gZ R hg)))⟩
theorem c_deep_list_Lapi_Expr (l : List (List X)) (hl : Short l) (hf : ∀ x ∈ l, ACallsTo E0 S.deep_Exprs [xsl x] [] (xsl x) []) : ∃ (r : List (List X)), r = l ∧ ACallsTo E0 S.deep_list_Lapi_Expr [.sl ((l).map lcell), .fn S.deep_Exprs []] [] (.sl ((r).map lcell)) [] := by
  obtain ⟨out1, q1, q1_1, g1⟩ := x_deep_list_Lapi_Expr__dlL_loop (l) (by first | assumption | rfl | omega) (by first | assumption | rfl | omega) (0) ([]) (by first | assumption | rfl | omega) (by first | assumption | rfl | omega)
  exact ⟨out1, by first | assumption | (rw [List.take_length] at *; assumption), wkc At.deep_list_Lapi_Expr (c' := (Cfg.mk (L_dlL l 0 []).n (L_dlL l 0 []).todo [(1, AV.fn S.deep_Exprs []), (5, AV.nl), (8, AV.sl (List.map lcell l)), (9, iv (↑(List.map lcell l).length : Int)), (10, iv 0)] [])) [] [1, 5, 8, 9, 10] 0 (by kernel_rfl) (good_ownCut (c' := L_dlL l 0 []) 5 Ty.LExpr [1, 5, 8, 9, 10] 1 (by kernel_rfl) (by kernel_rfl) (by kernel_rfl) (g1 _ (good_unroll (wkr [sqx (out1.length = (List.map lcell out1).length), sb q1_1] (by kernel_rfl)))))⟩
theorem k_deep_list_Lapi_Expr (l : List (List X)) (hl : Short l) (hf : ∀ x ∈ l, ACallsTo E0 S.deep_Exprs [xsl x] [] (xsl x) []) : ACallsTo E0 S.deep_list_Lapi_Expr [.sl ((l).map lcell), .fn S.deep_Exprs []] [] (.sl ((l).map lcell)) [] := by
  obtain ⟨r, rfl, h⟩ := c_deep_list_Lapi_Expr l hl hf
  exact h
noncomputable def L_dlS (l : List (Se)) (i : Nat) (out : List (Se)) : Cfg := loopAt B.deep_list_api_Set 0 [(1, .fn S.deep_set []), (5, .own 0 out.length), (8, .sl ((l).map Se.cells)), (9, iv (((l).map Se.cells).length : Nat)), (10, iv (i : Nat))] [.row Ty.Set ((out).map Se.cells) false]
theorem x_deep_list_api_Set__dlS_loop (l : List (Se)) (hl : Short l) (hf : ∀ x ∈ l, ACallsTo E0 S.deep_set [.agg x.cells] [] (.agg x.cells) []) (i : Nat) (out : List (Se)) (hi : i ≤ (l).length) (hI : out = l.take i) : ∃ (out' : List (Se)), (out' = l.take (l).length) ∧ (decide ((((l).length : Nat) : Int) < ((((l).map Se.cells).length : Nat) : Int)) = false) ∧ ∀ R, Good E0 B.deep_list_api_Set [] (L_dlS l (l).length out') R → Good E0 B.deep_list_api_Set [] (L_dlS l i out) R := by
  obtain ⟨kk, hk⟩ : ∃ kk, i + kk = (l).length := ⟨(l).length - i, by omega⟩
  induction kk generalizing i out with
  | zero =>
    have e0 : i = (l).length := by omega
    subst e0
    exact ⟨out, hI, by simp, fun R hg => hg⟩
  | succ kk ih =>
    obtain ⟨x, hx⟩ := ex_at (l := l) (i := i) (by omega)
    have h0 : decide (((i : Nat) : Int) < ((((l).map Se.cells).length : Nat) : Int)) = true := by simp; omega
    have hw : IntKind.i64.wrap (((i : Nat) : Int) + 1) = ((i + 1 : Nat) : Int) := wrap_nat i (by first | omega | (simp only [Short, Few] at *; omega))
    have hfx := hf x (List.mem_of_getElem? hx)
    have ho : out.length ≤ 1000000000 := by rw [hI, List.length_take]; simp only [Short] at hl; omega
    obtain ⟨outZ, qZ, xZ, gZ⟩ := ih (i + 1) (out ++ [x]) (by omega) (by rw [List.take_add_one, hx, hI]; rfl) (by omega); exact ⟨outZ, qZ, xZ, fun R hg => good_unroll (wkl (c' := (Cfg.mk (L_dlS l (i + 1) (out ++ [x])).n (L_dlS l (i + 1) (out ++ [x])).todo [(1, AV.fn S.deep_set []), (5, AV.own 0 (List.map Se.cells out ++ [[sv x.col, iv x.ex.kind, iv x.ex.op, bv x.ex.not, iv x.ex.val.kind, iv x.ex.val.int, sv x.ex.val.text, sv x.ex.table, sv x.ex.name, AV.sl (cellsX x.ex.args), AV.sl (cellsQ x.ex.sub)]]).length), (8, AV.sl (List.map Se.cells l)), (9, iv (↑(List.map Se.cells l).length : Int)), (10, iv (↑(i + 1) : Int))] [Blk.row Ty.Set (List.map Se.cells out ++ [[sv x.col, iv x.ex.kind, iv x.ex.op, bv x.ex.not, iv x.ex.val.kind, iv x.ex.val.int, sv x.ex.val.text, sv x.ex.table, sv x.ex.name, AV.sl (cellsX x.ex.args), AV.sl (cellsQ x.ex.sub)]]) false])) [sb h0, se (elAt_map (Se.cells) hx rfl), sc hfx, sqx (AllLen [[sv x.col, iv x.ex.kind, iv x.ex.op, bv x.ex.not, iv x.ex.val.kind, iv x.ex.val.int, sv x.ex.val.text, sv x.ex.table, sv x.ex.name, AV.sl (cellsX x.ex.args), AV.sl (cellsQ x.ex.sub)]] 11 ∧ out.length = (List.map Se.cells out).length ∧ (((List.map Se.cells out).length + [[sv x.col, iv x.ex.kind, iv x.ex.op, bv x.ex.not, iv x.ex.val.kind, iv x.ex.val.int, sv x.ex.val.text, sv x.ex.table, sv x.ex.name, AV.sl (cellsX x.ex.args), AV.sl (cellsQ x.ex.sub)]].length) * 152).le 140737488355328), si hw] [1, 5, 8, 9, 10] 1 (by kernel_rfl) (good_same (show ([(1, AV.fn S.deep_set []), (5, AV.own 0 (List.map Se.cells out ++ [[sv x.col, iv x.ex.kind, iv x.ex.op, bv x.ex.not, iv x.ex.val.kind, iv x.ex.val.int, sv x.ex.val.text, sv x.ex.table, sv x.ex.name, AV.sl (cellsX x.ex.args), AV.sl (cellsQ x.ex.sub)]]).length), (8, AV.sl (List.map Se.cells l)), (9, iv (↑(List.map Se.cells l).length : Int)), (10, iv (↑(i + 1) : Int))] : TS) = [(1, AV.fn S.deep_set []), (5, AV.own 0 (out ++ [x]).length), (8, AV.sl (List.map Se.cells l)), (9, iv (↑(List.map Se.cells l).length : Int)), (10, iv (↑(i + 1) : Int))] by first | rfl | (simp; done) | (simp [X.cells, Qy.cells, V.cells, Col.cells, Rw.cells, Tb.cells, Fr.cells, Sch.cells, Tp.cells, Pl.cells, xCol, xLit, xBin, xNeg, Im.cells, Lk.cells, Ac.cells, Se.cells, Tg.cells]; done)) (show ([Blk.row Ty.Set (List.map Se.cells out ++ [[sv x.col, iv x.ex.kind, iv x.ex.op, bv x.ex.not, iv x.ex.val.kind, iv x.ex.val.int, sv x.ex.val.text, sv x.ex.table, sv x.ex.name, AV.sl (cellsX x.ex.args), AV.sl (cellsQ x.ex.sub)]]) false] : Heap) = [Blk.row Ty.Set (List.map Se.cells (out ++ [x])) false] by first | rfl | (simp; done) | (simp [X.cells, Qy.cells, V.cells, Col.cells, Rw.cells, Tb.cells, Fr.cells, Sch.cells, Tp.cells, Pl.cells, xCol, xLit, xBin, xNeg, Im.cells, Lk.cells, Ac.cells, Se.cells, Tg.cells]; done)) (gZ R hg)))⟩
theorem c_deep_list_api_Set (l : List (Se)) (hl : Short l) (hf : ∀ x ∈ l, ACallsTo E0 S.deep_set [.agg x.cells] [] (.agg x.cells) []) : ∃ (r : List (Se)), r = l ∧ ACallsTo E0 S.deep_list_api_Set [.sl ((l).map Se.cells), .fn S.deep_set []] [] (.sl ((r).map Se.cells)) [] := by
  obtain ⟨out1, q1, q1_1, g1⟩ := x_deep_list_api_Set__dlS_loop (l) (by first | assumption | rfl | omega) (by first | assumption | rfl | omega) (0) ([]) (by first | assumption | rfl | omega) (by first | assumption | rfl | omega)
  exact ⟨out1, by first | assumption | (rw [List.take_length] at *; assumption), wkc At.deep_list_api_Set (c' := (Cfg.mk (L_dlS l 0 []).n (L_dlS l 0 []).todo [(1, AV.fn S.deep_set []), (5, AV.nl), (8, AV.sl (List.map Se.cells l)), (9, iv (↑(List.map Se.cells l).length : Int)), (10, iv 0)] [])) [] [1, 5, 8, 9, 10] 0 (by kernel_rfl) (good_ownCut (c' := L_dlS l 0 []) 5 Ty.Set [1, 5, 8, 9, 10] 1 (by kernel_rfl) (by kernel_rfl) (by kernel_rfl) (g1 _ (good_unroll (wkr [sqx (out1.length = (List.map Se.cells out1).length), sb q1_1] (by kernel_rfl)))))⟩
theorem k_deep_list_api_Set (l : List (Se)) (hl : Short l) (hf : ∀ x ∈ l, ACallsTo E0 S.deep_set [.agg x.cells] [] (.agg x.cells) []) : ACallsTo E0 S.deep_list_api_Set [.sl ((l).map Se.cells), .fn S.deep_set []] [] (.sl ((l).map Se.cells)) [] := by
  obtain ⟨r, rfl, h⟩ := c_deep_list_api_Set l hl hf
  exact h
/-- An action of expressions of less than n levels, its lists short. -/
structure AcOk (n : Nat) (a : Ac) : Prop where
  rows : Few a.rows
  row : ∀ r ∈ a.rows, Few r ∧ ∀ x ∈ r, XOk n x
  query : Few a.query
  qs : ∀ q ∈ a.query, QW n q
  sets : Few a.sets
  set : ∀ s ∈ a.sets, XOk n s.ex
  wh : Few a.wh
  w : ∀ x ∈ a.wh, XOk n x
/-- Rows are copied to the same data. -/
def RowsCp (l : List (List X)) : Prop := ∀ x ∈ l, ACallsTo E0 S.deep_Exprs [xsl x] [] (xsl x) []
theorem c_deep_Action (n : Nat) (a : Ac) (h : AcOk n a) (h1 : Short a.rows) (h2 : Short a.query) (h3 : Short a.sets) (h4 : Short a.wh) (hr : RowsCp a.rows) (hq : ∀ x ∈ a.query, ACallsTo E0 S.deep_Query [x.av] [] x.av []) (hs : ∀ x ∈ a.sets, ACallsTo E0 S.deep_set [.agg x.cells] [] (.agg x.cells) []) (hw : ∀ x ∈ a.wh, ACallsTo E0 S.deep_Expr [x.av] [] x.av []) : ∃ (r : Ac), r = a ∧ ACallsTo E0 S.deep_Action [a.av] [] (r.av) [] := by
  exact ⟨a, by rfl, wk At.deep_Action [sd [(2, [sc (k_deep_list_Lapi_Expr (a.rows) (by first | assumption | exact hr) (by first | assumption | exact hr))]), (5, [sc (k_deep_list_api_Query (a.query) (by first | assumption | exact hr) (by first | assumption | exact hr))]), (8, [sc (k_deep_list_api_Set (a.sets) (by first | assumption | exact hr) (by first | assumption | exact hr))]), (11, [sc (k_deep_Exprs (a.wh) (by first | assumption | exact hr) (by first | assumption | exact hr))])]] (by kernel_rfl)⟩
theorem k_deep_Action (n : Nat) (a : Ac) (h : AcOk n a) : ACallsTo E0 S.deep_Action [a.av] [] a.av [] := by
  obtain ⟨r, rfl, hr⟩ := c_deep_Action n a h (few_short h.rows) (few_short h.query) (few_short h.sets) (few_short h.wh)
    (fun x hx => k_deep_Exprs x (few_short (h.row x hx).1) fun y hy => k_deep_Expr n y ((h.row x hx).2 y hy))
    (fun q hq => k_deep_Query n q (h.qs q hq)) (fun s hs => k_deep_set n s (h.set s hs)) (fun x hx => k_deep_Expr n x (h.w x hx))
  exact hr
noncomputable def L_dlA (l : List (Ac)) (i : Nat) (out : List (Ac)) : Cfg := loopAt B.deep_list_api_Action 0 [(1, .fn S.deep_Action []), (5, .own 0 out.length), (8, .sl ((l).map Ac.cells)), (9, iv (((l).map Ac.cells).length : Nat)), (10, iv (i : Nat))] [.row Ty.Action ((out).map Ac.cells) false]
theorem x_deep_list_api_Action__dlA_loop (l : List (Ac)) (hl : Short l) (hf : ∀ x ∈ l, ACallsTo E0 S.deep_Action [.agg x.cells] [] (.agg x.cells) []) (i : Nat) (out : List (Ac)) (hi : i ≤ (l).length) (hI : out = l.take i) : ∃ (out' : List (Ac)), (out' = l.take (l).length) ∧ (decide ((((l).length : Nat) : Int) < ((((l).map Ac.cells).length : Nat) : Int)) = false) ∧ ∀ R, Good E0 B.deep_list_api_Action [] (L_dlA l (l).length out') R → Good E0 B.deep_list_api_Action [] (L_dlA l i out) R := by
  obtain ⟨kk, hk⟩ : ∃ kk, i + kk = (l).length := ⟨(l).length - i, by omega⟩
  induction kk generalizing i out with
  | zero =>
    have e0 : i = (l).length := by omega
    subst e0
    exact ⟨out, hI, by simp, fun R hg => hg⟩
  | succ kk ih =>
    obtain ⟨x, hx⟩ := ex_at (l := l) (i := i) (by omega)
    have h0 : decide (((i : Nat) : Int) < ((((l).map Ac.cells).length : Nat) : Int)) = true := by simp; omega
    have hw : IntKind.i64.wrap (((i : Nat) : Int) + 1) = ((i + 1 : Nat) : Int) := wrap_nat i (by first | omega | (simp only [Short, Few] at *; omega))
    have hfx := hf x (List.mem_of_getElem? hx)
    have ho : out.length ≤ 1000000000 := by rw [hI, List.length_take]; simp only [Short] at hl; omega
    obtain ⟨outZ, qZ, xZ, gZ⟩ := ih (i + 1) (out ++ [x]) (by omega) (by rw [List.take_add_one, hx, hI]; rfl) (by omega); exact ⟨outZ, qZ, xZ, fun R hg => good_unroll (wkl (c' := (Cfg.mk (L_dlA l (i + 1) (out ++ [x])).n (L_dlA l (i + 1) (out ++ [x])).todo [(1, AV.fn S.deep_Action []), (5, AV.own 0 (List.map Ac.cells out ++ [[iv x.kind, sv x.table, AV.sl (List.map (fun r => [AV.sl (cellsX r)]) x.rows), AV.sl (cellsQ x.query), AV.sl (List.map Se.cells x.sets), AV.sl (cellsX x.wh), sv x.text]]).length), (8, AV.sl (List.map Ac.cells l)), (9, iv (↑(List.map Ac.cells l).length : Int)), (10, iv (↑(i + 1) : Int))] [Blk.row Ty.Action (List.map Ac.cells out ++ [[iv x.kind, sv x.table, AV.sl (List.map (fun r => [AV.sl (cellsX r)]) x.rows), AV.sl (cellsQ x.query), AV.sl (List.map Se.cells x.sets), AV.sl (cellsX x.wh), sv x.text]]) false])) [sb h0, se (elAt_map (Ac.cells) hx rfl), sc hfx, sqx (AllLen [[iv x.kind, sv x.table, AV.sl (List.map (fun r => [AV.sl (cellsX r)]) x.rows), AV.sl (cellsQ x.query), AV.sl (List.map Se.cells x.sets), AV.sl (cellsX x.wh), sv x.text]] 7 ∧ out.length = (List.map Ac.cells out).length ∧ (((List.map Ac.cells out).length + [[iv x.kind, sv x.table, AV.sl (List.map (fun r => [AV.sl (cellsX r)]) x.rows), AV.sl (cellsQ x.query), AV.sl (List.map Se.cells x.sets), AV.sl (cellsX x.wh), sv x.text]].length) * 136).le 140737488355328), si hw] [1, 5, 8, 9, 10] 1 (by kernel_rfl) (good_same (show ([(1, AV.fn S.deep_Action []), (5, AV.own 0 (List.map Ac.cells out ++ [[iv x.kind, sv x.table, AV.sl (List.map (fun r => [AV.sl (cellsX r)]) x.rows), AV.sl (cellsQ x.query), AV.sl (List.map Se.cells x.sets), AV.sl (cellsX x.wh), sv x.text]]).length), (8, AV.sl (List.map Ac.cells l)), (9, iv (↑(List.map Ac.cells l).length : Int)), (10, iv (↑(i + 1) : Int))] : TS) = [(1, AV.fn S.deep_Action []), (5, AV.own 0 (out ++ [x]).length), (8, AV.sl (List.map Ac.cells l)), (9, iv (↑(List.map Ac.cells l).length : Int)), (10, iv (↑(i + 1) : Int))] by first | rfl | (simp; done) | (simp [X.cells, Qy.cells, V.cells, Col.cells, Rw.cells, Tb.cells, Fr.cells, Sch.cells, Tp.cells, Pl.cells, xCol, xLit, xBin, xNeg, Im.cells, Lk.cells, Ac.cells, Se.cells, Tg.cells]; done)) (show ([Blk.row Ty.Action (List.map Ac.cells out ++ [[iv x.kind, sv x.table, AV.sl (List.map (fun r => [AV.sl (cellsX r)]) x.rows), AV.sl (cellsQ x.query), AV.sl (List.map Se.cells x.sets), AV.sl (cellsX x.wh), sv x.text]]) false] : Heap) = [Blk.row Ty.Action (List.map Ac.cells (out ++ [x])) false] by first | rfl | (simp; done) | (simp [X.cells, Qy.cells, V.cells, Col.cells, Rw.cells, Tb.cells, Fr.cells, Sch.cells, Tp.cells, Pl.cells, xCol, xLit, xBin, xNeg, Im.cells, Lk.cells, Ac.cells, Se.cells, Tg.cells]; done)) (gZ R hg)))⟩
theorem c_deep_list_api_Action (l : List (Ac)) (hl : Short l) (hf : ∀ x ∈ l, ACallsTo E0 S.deep_Action [.agg x.cells] [] (.agg x.cells) []) : ∃ (r : List (Ac)), r = l ∧ ACallsTo E0 S.deep_list_api_Action [.sl ((l).map Ac.cells), .fn S.deep_Action []] [] (.sl ((r).map Ac.cells)) [] := by
  obtain ⟨out1, q1, q1_1, g1⟩ := x_deep_list_api_Action__dlA_loop (l) (by first | assumption | rfl | omega) (by first | assumption | rfl | omega) (0) ([]) (by first | assumption | rfl | omega) (by first | assumption | rfl | omega)
  exact ⟨out1, by first | assumption | (rw [List.take_length] at *; assumption), wkc At.deep_list_api_Action (c' := (Cfg.mk (L_dlA l 0 []).n (L_dlA l 0 []).todo [(1, AV.fn S.deep_Action []), (5, AV.nl), (8, AV.sl (List.map Ac.cells l)), (9, iv (↑(List.map Ac.cells l).length : Int)), (10, iv 0)] [])) [] [1, 5, 8, 9, 10] 0 (by kernel_rfl) (good_ownCut (c' := L_dlA l 0 []) 5 Ty.Action [1, 5, 8, 9, 10] 1 (by kernel_rfl) (by kernel_rfl) (by kernel_rfl) (g1 _ (good_unroll (wkr [sqx (out1.length = (List.map Ac.cells out1).length), sb q1_1] (by kernel_rfl)))))⟩
theorem k_deep_list_api_Action (l : List (Ac)) (hl : Short l) (hf : ∀ x ∈ l, ACallsTo E0 S.deep_Action [.agg x.cells] [] (.agg x.cells) []) : ACallsTo E0 S.deep_list_api_Action [.sl ((l).map Ac.cells), .fn S.deep_Action []] [] (.sl ((l).map Ac.cells)) [] := by
  obtain ⟨r, rfl, h⟩ := c_deep_list_api_Action l hl hf
  exact h
/-- A trigger of actions with expressions of less than n levels, its lists short. -/
structure TgOk (n : Nat) (t : Tg) : Prop where
  of : Few t.of
  prec : Few t.prec
  foll : Few t.foll
  rank : Few t.rank
  whens : Few t.when_
  when_ : ∀ x ∈ t.when_, XOk n x
  acts : Few t.acts
  act : ∀ a ∈ t.acts, AcOk n a
theorem c_deep_Trigger (n : Nat) (t : Tg) (h1 : Short t.of) (h2 : Short t.prec) (h3 : Short t.foll) (h4 : Short t.rank) (h5 : Short t.when_) (h6 : Short t.acts) (hw : ∀ x ∈ t.when_, ACallsTo E0 S.deep_Expr [x.av] [] x.av []) (ha : ∀ x ∈ t.acts, ACallsTo E0 S.deep_Action [.agg x.cells] [] (.agg x.cells) []) : ∃ (r : Tg), r = t ∧ ACallsTo E0 S.deep_Trigger [t.av] [] (r.av) [] := by
  exact ⟨t, by rfl, wk At.deep_Trigger [sqx (True ∧ True ∧ True ∧ True ∧ t.of.length = (List.map scell t.of).length ∧ True ∧ t.prec.length = (List.map scell t.prec).length ∧ t.foll.length = (List.map scell t.foll).length ∧ t.rank.length = (List.map Rk.cells t.rank).length ∧ True ∧ True ∧ True), sd [(2, [sc (k_slices_Clone_string (t.of) (by first | assumption | omega | (simp; done) | (simp; omega)))]), (5, [sc (k_slices_Clone_string (t.prec) (by first | assumption | omega | (simp; done) | (simp; omega)))]), (8, [sc (k_slices_Clone_string (t.foll) (by first | assumption | omega | (simp; done) | (simp; omega)))]), (11, [sc (k_slices_Clone_Rank (t.rank) (by first | assumption | omega | (simp; done) | (simp; omega)))])], sd [(2, [sc (k_deep_Exprs (t.when_) (by first | assumption | omega | (simp; done) | (simp; omega)) (by first | assumption | omega | (simp; done) | (simp; omega)))]), (5, [sc (k_deep_list_api_Action (t.acts) (by first | assumption | omega | (simp; done) | (simp; omega)) (by first | assumption | omega | (simp; done) | (simp; omega)))])]] (by kernel_rfl)⟩
theorem k_deep_Trigger (n : Nat) (t : Tg) (h : TgOk n t) : ACallsTo E0 S.deep_Trigger [t.av] [] t.av [] := by
  obtain ⟨r, rfl, hr⟩ := c_deep_Trigger n t (few_short h.of) (few_short h.prec) (few_short h.foll) (few_short h.rank) (few_short h.whens) (few_short h.acts)
    (fun x hx => k_deep_Expr n x (h.when_ x hx)) (fun a ha => k_deep_Action n a (h.act a ha))
  exact hr
end Go.AM

namespace Go.AM
set_option maxRecDepth 100000
set_option maxHeartbeats 1000000
set_option linter.unusedSimpArgs false
set_option linter.unusedVariables false
noncomputable def L_stIx (l : List Str) (v : Str) (i : Nat)  : Cfg := loopAt B.slices_Index_string 0 [(0, .sl (l.map scell)), (1, sv v), (7, iv ((l.map scell).length : Nat)), (8, iv (i : Nat))] []
def stIx (l : List Str) (v : Str) : List (Str) → Nat → Int
  | [], i =>
    -1
  | x :: r, i =>
    bif ByteArray.toList v == ByteArray.toList x then
      (↑i : Int)
    else
      stIx l v r (i + 1)
theorem k_stIx_loop (l : List Str) (v : Str) (hl : Short l) : ∀ (kk i : Nat), i + kk = (l).length → Good E0 B.slices_Index_string [] (L_stIx l v i ) (Shut 0 fun r h => r = (iv (stIx l v ((l).drop i) i )) ∧ h = []) := by
  intro kk
  induction kk with
  | zero =>
    intro i  hi 
    have h0 : decide (((i : Nat) : Int) < (((l.map scell).length : Nat) : Int)) = false := by simp; omega
    have e0 : (l).drop i = [] := List.drop_of_length_le (by omega)
    rw [e0]
    simp only [stIx]
    refine good_unroll ?_
    exact wkr [sb h0] (by kernel_rfl)
  | succ kk ih =>
    intro i  hi 
    obtain ⟨x, hx⟩ := ex_at (l := l) (i := i) (by omega)
    have h0 : decide (((i : Nat) : Int) < (((l.map scell).length : Nat) : Int)) = true := by simp; omega
    have hw := wrap_nat i (by first | omega | (simp only [Short, Few] at *; omega))
    rw [drop_at hx]
    simp only [stIx]
    refine good_unroll ?_
    cases h1 : ByteArray.toList v == ByteArray.toList x
    · exact wkl [sb h0, se (elAt_map (scell) hx rfl), sb h1, si hw] [0, 1, 7, 8] 0 (by kernel_rfl) (ih (i + 1) (by omega) )
    · exact wkr [sb h0, se (elAt_map (scell) hx rfl), sb h1] (by kernel_rfl)
def stIndex (l : List Str) (v : Str) : Int :=
  stIx l v l (0)
theorem k_slices_Index_string (l : List Str) (v : Str) (hl : Short l) : ACallsTo E0 S.slices_Index_string [ssl l, sv v] [] (iv (stIndex l v)) [] := by
  unfold stIndex
  exact wkc At.slices_Index_string [] [0, 1, 7, 8] 0 (by kernel_rfl) (k_stIx_loop l v hl l.length 0 (by simp))
def hasS (l : List Str) (v : Str) : Bool :=
  decide ((0 : Int) ≤ stIndex l v)
theorem k_slices_Contains_string (l : List Str) (v : Str) (hl : Short l) : ACallsTo E0 S.slices_Contains_string [ssl l, sv v] [] (bv (hasS l v)) [] := by
  exact wk At.slices_Contains_string [sc (k_slices_Index_string (l) (v) (by first | assumption | omega | (simp; done) | (simp; omega)))] (by kernel_rfl)
def hasC (v : Str) (l : List Str) : Bool :=
  hasS l v
theorem k_before_Applicable_c1 (v : Str) (l : List Str) (hl : Short l) : ACallsTo E0 S.before_Applicable_c1 [sv v, .p 0 0] [.box [ssl l]] (bv (hasC v l)) [.box [ssl l]] := by
  exact wk At.before_Applicable_c1 [sc (k_slices_Contains_string (l) (v) (by first | assumption | omega | (simp; done) | (simp; omega)))] (by kernel_rfl)
noncomputable def L_ofIx (l s : List Str) (i : Nat)  : Cfg := loopAt B.slices_IndexFunc_string 0 [(0, ssl l), (1, .fn S.before_Applicable_c1 [.p 0 0]), (7, iv ((l.map scell).length : Nat)), (8, iv (i : Nat))] [.box [ssl s]]
def ofIx (l s : List Str) : List (Str) → Nat → Int
  | [], i =>
    -1
  | x :: r, i =>
    bif hasC x s then
      (↑i : Int)
    else
      ofIx l s r (i + 1)
theorem k_ofIx_loop (l s : List Str) (hl : Short l) (hs : Short s) : ∀ (kk i : Nat), i + kk = (l).length → Good E0 B.slices_IndexFunc_string [.box [ssl s]] (L_ofIx l s i ) (Shut 1 fun r h => r = (iv (ofIx l s ((l).drop i) i )) ∧ h = [.box [ssl s]]) := by
  intro kk
  induction kk with
  | zero =>
    intro i  hi 
    have h0 : decide (((i : Nat) : Int) < (((l.map scell).length : Nat) : Int)) = false := by simp; omega
    have e0 : (l).drop i = [] := List.drop_of_length_le (by omega)
    rw [e0]
    simp only [ofIx]
    refine good_unroll ?_
    exact wkr [sb h0] (by kernel_rfl)
  | succ kk ih =>
    intro i  hi 
    obtain ⟨x, hx⟩ := ex_at (l := l) (i := i) (by omega)
    have h0 : decide (((i : Nat) : Int) < (((l.map scell).length : Nat) : Int)) = true := by simp; omega
    have hw := wrap_nat i (by first | omega | (simp only [Short, Few] at *; omega))
    rw [drop_at hx]
    simp only [ofIx]
    refine good_unroll ?_
    cases h1 : hasC x s
    · exact wkl [sb h0, se (elAt_map (fun s => [sv s]) hx rfl), sl [0] (k_before_Applicable_c1 (x) (s) (by first | assumption | omega | (simp; done) | (simp; omega))), sb h1, si hw] [0, 1, 7, 8] 1 (by kernel_rfl) (ih (i + 1) (by omega) )
    · exact wkr [sb h0, se (elAt_map (fun s => [sv s]) hx rfl), sl [0] (k_before_Applicable_c1 (x) (s) (by first | assumption | omega | (simp; done) | (simp; omega))), sb h1] (by kernel_rfl)
def ofIndex (l s : List Str) : Int :=
  ofIx l s l (0)
theorem k_slices_IndexFunc_string (l s : List Str) (hl : Short l) (hs : Short s) : ACallsTo E0 S.slices_IndexFunc_string [ssl l, .fn S.before_Applicable_c1 [.p 0 0]] [.box [ssl s]] (iv (ofIndex l s)) [.box [ssl s]] := by
  unfold ofIndex
  exact wkc At.slices_IndexFunc_string [] [0, 1, 7, 8] 1 (by kernel_rfl) (k_ofIx_loop l s hl hs l.length 0 (by simp))
def ofHas (l s : List Str) : Bool :=
  decide ((0 : Int) ≤ ofIndex l s)
theorem k_slices_ContainsFunc_string (l s : List Str) (hl : Short l) (hs : Short s) : ACallsTo E0 S.slices_ContainsFunc_string [ssl l, .fn S.before_Applicable_c1 [.p 0 0]] [.box [ssl s]] (bv (ofHas l s)) [.box [ssl s]] := by
  exact wk At.slices_ContainsFunc_string [sl [0] (k_slices_IndexFunc_string (l) (s) (by first | assumption | omega | (simp; done) | (simp; omega)) (by first | assumption | omega | (simp; done) | (simp; omega)))] (by kernel_rfl)
/-- Does a BEFORE trigger apply? -/
def appl (table : Str) (ev : Int) (asg : List Str) (each : Bool) (t : Tg) : Bool :=
  bif !t.before then false else bif !t.table.toList == table.toList then false else bif t.event != ev then false else bif !t.each == each then false else bif ev != 2 then true else bif (((t.of.map scell).length : Nat) : Int) == 0 then true else ofHas t.of asg
noncomputable def L_apL (N : Nat) (ts : List Tg) (table : Str) (ev : Int) (asg : List Str) (each : Bool) (i : Nat) (out : List Tg) : Cfg := loopAt B.before_Applicable 0 [(1, sv table), (2, iv ev), (4, bv each), (8, .p 0 0), (11, .own 1 out.length), (15, .sl (ts.map Tg.cells)), (16, iv ((ts.map Tg.cells).length : Nat)), (17, iv (i : Nat))] [.box [ssl asg], .row Ty.Trigger (out.map Tg.cells) false]
theorem x_before_Applicable__apL_loop (N : Nat) (ts : List Tg) (table : Str) (ev : Int) (asg : List Str) (each : Bool) (hl : Short ts) (hs : Short asg) (hT : ∀ t ∈ ts, TgOk N t) (i : Nat) (out : List Tg) (hi : i ≤ (ts).length) (hI : out = (ts.take i).filter (appl table ev asg each)) : ∃ (out' : List Tg), (out' = (ts.take (ts).length).filter (appl table ev asg each)) ∧ (decide ((((ts).length : Nat) : Int) < (((ts.map Tg.cells).length : Nat) : Int)) = false) ∧ ∀ R, Good E0 B.before_Applicable [] (L_apL N ts table ev asg each (ts).length out') R → Good E0 B.before_Applicable [] (L_apL N ts table ev asg each i out) R := by
  obtain ⟨kk, hk⟩ : ∃ kk, i + kk = (ts).length := ⟨(ts).length - i, by omega⟩
  induction kk generalizing i out with
  | zero =>
    have e0 : i = (ts).length := by omega
    subst e0
    exact ⟨out, hI, by simp, fun R hg => hg⟩
  | succ kk ih =>
    obtain ⟨x, hx⟩ := ex_at (l := ts) (i := i) (by omega)
    have h0 : decide (((i : Nat) : Int) < (((ts.map Tg.cells).length : Nat) : Int)) = true := by simp; omega
    have hw : IntKind.i64.wrap (((i : Nat) : Int) + 1) = ((i + 1 : Nat) : Int) := wrap_nat i (by first | omega | (simp only [Short, Few] at *; omega))
    have hTx := hT x (List.mem_of_getElem? hx)
    have hof := few_short hTx.of
    have ho : out.length ≤ 1000000000 := by
      rw [hI]; refine Nat.le_trans (List.length_filter_le _ _) ?_; rw [List.length_take]; simp only [Short] at hl; omega
    cases h1 : !x.before
    · cases h2 : !ByteArray.toList x.table == ByteArray.toList table
      · cases h3 : x.event != ev
        · cases h4 : !x.each == each
          · cases h5 : ev != 2
            · cases h6 : (↑(List.map (fun s => [sv s]) x.of).length : Int) == 0
              · cases h7 : ofHas x.of asg
                · obtain ⟨outZ, qZ, xZ, gZ⟩ := ih (i + 1) (out) (by omega) (by rw [List.take_add_one, hx, List.filter_append, ← hI]; clear hI; simp only [Option.toList_some, List.filter_cons, List.filter_nil, appl, cond_true, cond_false, if_true, *] <;> try simp) (by omega); exact ⟨outZ, qZ, xZ, fun R hg => good_unroll (wkl [sb h0, se (elAt_map (Tg.cells) hx rfl), sg h1, sg h2, sg h3, sb h4, sl [0] (k_slices_ContainsFunc_string (x.of) (asg) (by first | assumption | exact hTx | omega) (by first | assumption | exact hTx | omega)), sg h5, sg h6, sb h7, si hw] [1, 2, 4, 8, 11, 15, 16, 17] 2 (by kernel_rfl) (gZ R hg))⟩
                · obtain ⟨outZ, qZ, xZ, gZ⟩ := ih (i + 1) (out ++ [x]) (by omega) (by rw [List.take_add_one, hx, List.filter_append, ← hI]; clear hI; simp only [Option.toList_some, List.filter_cons, List.filter_nil, appl, cond_true, cond_false, if_true, *] <;> try simp) (by omega); exact ⟨outZ, qZ, xZ, fun R hg => good_unroll (wkl (c' := (Cfg.mk (L_apL N ts table ev asg each (i + 1) (out ++ [x])).n (L_apL N ts table ev asg each (i + 1) (out ++ [x])).todo [(1, sv table), (2, iv ev), (4, bv each), (8, AV.p 0 0), (11, AV.own 1 (List.map Tg.cells out ++ [[sv x.name, sv x.table, bv x.before, iv x.event, AV.sl (List.map (fun s => [sv s]) x.of), bv x.each, AV.sl (List.map (fun s => [sv s]) x.prec), AV.sl (List.map (fun s => [sv s]) x.foll), AV.sl (List.map Rk.cells x.rank), AV.sl (cellsX x.when_), AV.sl (List.map Ac.cells x.acts)]]).length), (15, AV.sl (List.map Tg.cells ts)), (16, iv (↑(List.map Tg.cells ts).length : Int)), (17, iv (↑(i + 1) : Int))] [Blk.box [AV.sl (List.map (fun s => [sv s]) asg)], Blk.row Ty.Trigger (List.map Tg.cells out ++ [[sv x.name, sv x.table, bv x.before, iv x.event, AV.sl (List.map (fun s => [sv s]) x.of), bv x.each, AV.sl (List.map (fun s => [sv s]) x.prec), AV.sl (List.map (fun s => [sv s]) x.foll), AV.sl (List.map Rk.cells x.rank), AV.sl (cellsX x.when_), AV.sl (List.map Ac.cells x.acts)]]) false])) [sb h0, se (elAt_map (Tg.cells) hx rfl), sg h1, sg h2, sg h3, sb h4, sl [0] (k_slices_ContainsFunc_string (x.of) (asg) (by first | assumption | exact hTx | omega) (by first | assumption | exact hTx | omega)), sg h5, sg h6, sb h7, sc (k_deep_Trigger (N) (x) hTx), sqx (AllLen [[sv x.name, sv x.table, bv x.before, iv x.event, AV.sl (List.map (fun s => [sv s]) x.of), bv x.each, AV.sl (List.map (fun s => [sv s]) x.prec), AV.sl (List.map (fun s => [sv s]) x.foll), AV.sl (List.map Rk.cells x.rank), AV.sl (cellsX x.when_), AV.sl (List.map Ac.cells x.acts)]] 11 ∧ out.length = (List.map Tg.cells out).length ∧ (((List.map Tg.cells out).length + [[sv x.name, sv x.table, bv x.before, iv x.event, AV.sl (List.map (fun s => [sv s]) x.of), bv x.each, AV.sl (List.map (fun s => [sv s]) x.prec), AV.sl (List.map (fun s => [sv s]) x.foll), AV.sl (List.map Rk.cells x.rank), AV.sl (cellsX x.when_), AV.sl (List.map Ac.cells x.acts)]].length) * 200).le 140737488355328), si hw] [1, 2, 4, 8, 11, 15, 16, 17] 2 (by kernel_rfl) (good_same (show ([(1, sv table), (2, iv ev), (4, bv each), (8, AV.p 0 0), (11, AV.own 1 (List.map Tg.cells out ++ [[sv x.name, sv x.table, bv x.before, iv x.event, AV.sl (List.map (fun s => [sv s]) x.of), bv x.each, AV.sl (List.map (fun s => [sv s]) x.prec), AV.sl (List.map (fun s => [sv s]) x.foll), AV.sl (List.map Rk.cells x.rank), AV.sl (cellsX x.when_), AV.sl (List.map Ac.cells x.acts)]]).length), (15, AV.sl (List.map Tg.cells ts)), (16, iv (↑(List.map Tg.cells ts).length : Int)), (17, iv (↑(i + 1) : Int))] : TS) = [(1, sv table), (2, iv ev), (4, bv each), (8, AV.p 0 0), (11, AV.own 1 (out ++ [x]).length), (15, AV.sl (List.map Tg.cells ts)), (16, iv (↑(List.map Tg.cells ts).length : Int)), (17, iv (↑(i + 1) : Int))] by first | rfl | (simp; done) | (simp [X.cells, Qy.cells, V.cells, Col.cells, Rw.cells, Tb.cells, Fr.cells, Sch.cells, Tp.cells, Pl.cells, xCol, xLit, xBin, xNeg, Tg.cells]; done)) (show ([Blk.box [AV.sl (List.map (fun s => [sv s]) asg)], Blk.row Ty.Trigger (List.map Tg.cells out ++ [[sv x.name, sv x.table, bv x.before, iv x.event, AV.sl (List.map (fun s => [sv s]) x.of), bv x.each, AV.sl (List.map (fun s => [sv s]) x.prec), AV.sl (List.map (fun s => [sv s]) x.foll), AV.sl (List.map Rk.cells x.rank), AV.sl (cellsX x.when_), AV.sl (List.map Ac.cells x.acts)]]) false] : Heap) = [Blk.box [AV.sl (List.map (fun s => [sv s]) asg)], Blk.row Ty.Trigger (List.map Tg.cells (out ++ [x])) false] by first | rfl | (simp; done) | (simp [X.cells, Qy.cells, V.cells, Col.cells, Rw.cells, Tb.cells, Fr.cells, Sch.cells, Tp.cells, Pl.cells, xCol, xLit, xBin, xNeg, Tg.cells]; done)) (gZ R hg)))⟩
              · obtain ⟨outZ, qZ, xZ, gZ⟩ := ih (i + 1) (out ++ [x]) (by omega) (by rw [List.take_add_one, hx, List.filter_append, ← hI]; clear hI; simp only [Option.toList_some, List.filter_cons, List.filter_nil, appl, cond_true, cond_false, if_true, *] <;> try simp) (by omega); exact ⟨outZ, qZ, xZ, fun R hg => good_unroll (wkl (c' := (Cfg.mk (L_apL N ts table ev asg each (i + 1) (out ++ [x])).n (L_apL N ts table ev asg each (i + 1) (out ++ [x])).todo [(1, sv table), (2, iv ev), (4, bv each), (8, AV.p 0 0), (11, AV.own 1 (List.map Tg.cells out ++ [[sv x.name, sv x.table, bv x.before, iv x.event, AV.sl (List.map (fun s => [sv s]) x.of), bv x.each, AV.sl (List.map (fun s => [sv s]) x.prec), AV.sl (List.map (fun s => [sv s]) x.foll), AV.sl (List.map Rk.cells x.rank), AV.sl (cellsX x.when_), AV.sl (List.map Ac.cells x.acts)]]).length), (15, AV.sl (List.map Tg.cells ts)), (16, iv (↑(List.map Tg.cells ts).length : Int)), (17, iv (↑(i + 1) : Int))] [Blk.box [AV.sl (List.map (fun s => [sv s]) asg)], Blk.row Ty.Trigger (List.map Tg.cells out ++ [[sv x.name, sv x.table, bv x.before, iv x.event, AV.sl (List.map (fun s => [sv s]) x.of), bv x.each, AV.sl (List.map (fun s => [sv s]) x.prec), AV.sl (List.map (fun s => [sv s]) x.foll), AV.sl (List.map Rk.cells x.rank), AV.sl (cellsX x.when_), AV.sl (List.map Ac.cells x.acts)]]) false])) [sb h0, se (elAt_map (Tg.cells) hx rfl), sg h1, sg h2, sg h3, sb h4, sl [0] (k_slices_ContainsFunc_string (x.of) (asg) (by first | assumption | exact hTx | omega) (by first | assumption | exact hTx | omega)), sg h5, sb h6, sc (k_deep_Trigger (N) (x) hTx), sqx (AllLen [[sv x.name, sv x.table, bv x.before, iv x.event, AV.sl (List.map (fun s => [sv s]) x.of), bv x.each, AV.sl (List.map (fun s => [sv s]) x.prec), AV.sl (List.map (fun s => [sv s]) x.foll), AV.sl (List.map Rk.cells x.rank), AV.sl (cellsX x.when_), AV.sl (List.map Ac.cells x.acts)]] 11 ∧ out.length = (List.map Tg.cells out).length ∧ (((List.map Tg.cells out).length + [[sv x.name, sv x.table, bv x.before, iv x.event, AV.sl (List.map (fun s => [sv s]) x.of), bv x.each, AV.sl (List.map (fun s => [sv s]) x.prec), AV.sl (List.map (fun s => [sv s]) x.foll), AV.sl (List.map Rk.cells x.rank), AV.sl (cellsX x.when_), AV.sl (List.map Ac.cells x.acts)]].length) * 200).le 140737488355328), si hw] [1, 2, 4, 8, 11, 15, 16, 17] 2 (by kernel_rfl) (good_same (show ([(1, sv table), (2, iv ev), (4, bv each), (8, AV.p 0 0), (11, AV.own 1 (List.map Tg.cells out ++ [[sv x.name, sv x.table, bv x.before, iv x.event, AV.sl (List.map (fun s => [sv s]) x.of), bv x.each, AV.sl (List.map (fun s => [sv s]) x.prec), AV.sl (List.map (fun s => [sv s]) x.foll), AV.sl (List.map Rk.cells x.rank), AV.sl (cellsX x.when_), AV.sl (List.map Ac.cells x.acts)]]).length), (15, AV.sl (List.map Tg.cells ts)), (16, iv (↑(List.map Tg.cells ts).length : Int)), (17, iv (↑(i + 1) : Int))] : TS) = [(1, sv table), (2, iv ev), (4, bv each), (8, AV.p 0 0), (11, AV.own 1 (out ++ [x]).length), (15, AV.sl (List.map Tg.cells ts)), (16, iv (↑(List.map Tg.cells ts).length : Int)), (17, iv (↑(i + 1) : Int))] by first | rfl | (simp; done) | (simp [X.cells, Qy.cells, V.cells, Col.cells, Rw.cells, Tb.cells, Fr.cells, Sch.cells, Tp.cells, Pl.cells, xCol, xLit, xBin, xNeg, Tg.cells]; done)) (show ([Blk.box [AV.sl (List.map (fun s => [sv s]) asg)], Blk.row Ty.Trigger (List.map Tg.cells out ++ [[sv x.name, sv x.table, bv x.before, iv x.event, AV.sl (List.map (fun s => [sv s]) x.of), bv x.each, AV.sl (List.map (fun s => [sv s]) x.prec), AV.sl (List.map (fun s => [sv s]) x.foll), AV.sl (List.map Rk.cells x.rank), AV.sl (cellsX x.when_), AV.sl (List.map Ac.cells x.acts)]]) false] : Heap) = [Blk.box [AV.sl (List.map (fun s => [sv s]) asg)], Blk.row Ty.Trigger (List.map Tg.cells (out ++ [x])) false] by first | rfl | (simp; done) | (simp [X.cells, Qy.cells, V.cells, Col.cells, Rw.cells, Tb.cells, Fr.cells, Sch.cells, Tp.cells, Pl.cells, xCol, xLit, xBin, xNeg, Tg.cells]; done)) (gZ R hg)))⟩
            · obtain ⟨outZ, qZ, xZ, gZ⟩ := ih (i + 1) (out ++ [x]) (by omega) (by rw [List.take_add_one, hx, List.filter_append, ← hI]; clear hI; simp only [Option.toList_some, List.filter_cons, List.filter_nil, appl, cond_true, cond_false, if_true, *] <;> try simp) (by omega); exact ⟨outZ, qZ, xZ, fun R hg => good_unroll (wkl (c' := (Cfg.mk (L_apL N ts table ev asg each (i + 1) (out ++ [x])).n (L_apL N ts table ev asg each (i + 1) (out ++ [x])).todo [(1, sv table), (2, iv ev), (4, bv each), (8, AV.p 0 0), (11, AV.own 1 (List.map Tg.cells out ++ [[sv x.name, sv x.table, bv x.before, iv x.event, AV.sl (List.map (fun s => [sv s]) x.of), bv x.each, AV.sl (List.map (fun s => [sv s]) x.prec), AV.sl (List.map (fun s => [sv s]) x.foll), AV.sl (List.map Rk.cells x.rank), AV.sl (cellsX x.when_), AV.sl (List.map Ac.cells x.acts)]]).length), (15, AV.sl (List.map Tg.cells ts)), (16, iv (↑(List.map Tg.cells ts).length : Int)), (17, iv (↑(i + 1) : Int))] [Blk.box [AV.sl (List.map (fun s => [sv s]) asg)], Blk.row Ty.Trigger (List.map Tg.cells out ++ [[sv x.name, sv x.table, bv x.before, iv x.event, AV.sl (List.map (fun s => [sv s]) x.of), bv x.each, AV.sl (List.map (fun s => [sv s]) x.prec), AV.sl (List.map (fun s => [sv s]) x.foll), AV.sl (List.map Rk.cells x.rank), AV.sl (cellsX x.when_), AV.sl (List.map Ac.cells x.acts)]]) false])) [sb h0, se (elAt_map (Tg.cells) hx rfl), sg h1, sg h2, sg h3, sb h4, sl [0] (k_slices_ContainsFunc_string (x.of) (asg) (by first | assumption | exact hTx | omega) (by first | assumption | exact hTx | omega)), sb h5, sc (k_deep_Trigger (N) (x) hTx), sqx (AllLen [[sv x.name, sv x.table, bv x.before, iv x.event, AV.sl (List.map (fun s => [sv s]) x.of), bv x.each, AV.sl (List.map (fun s => [sv s]) x.prec), AV.sl (List.map (fun s => [sv s]) x.foll), AV.sl (List.map Rk.cells x.rank), AV.sl (cellsX x.when_), AV.sl (List.map Ac.cells x.acts)]] 11 ∧ out.length = (List.map Tg.cells out).length ∧ (((List.map Tg.cells out).length + [[sv x.name, sv x.table, bv x.before, iv x.event, AV.sl (List.map (fun s => [sv s]) x.of), bv x.each, AV.sl (List.map (fun s => [sv s]) x.prec), AV.sl (List.map (fun s => [sv s]) x.foll), AV.sl (List.map Rk.cells x.rank), AV.sl (cellsX x.when_), AV.sl (List.map Ac.cells x.acts)]].length) * 200).le 140737488355328), si hw] [1, 2, 4, 8, 11, 15, 16, 17] 2 (by kernel_rfl) (good_same (show ([(1, sv table), (2, iv ev), (4, bv each), (8, AV.p 0 0), (11, AV.own 1 (List.map Tg.cells out ++ [[sv x.name, sv x.table, bv x.before, iv x.event, AV.sl (List.map (fun s => [sv s]) x.of), bv x.each, AV.sl (List.map (fun s => [sv s]) x.prec), AV.sl (List.map (fun s => [sv s]) x.foll), AV.sl (List.map Rk.cells x.rank), AV.sl (cellsX x.when_), AV.sl (List.map Ac.cells x.acts)]]).length), (15, AV.sl (List.map Tg.cells ts)), (16, iv (↑(List.map Tg.cells ts).length : Int)), (17, iv (↑(i + 1) : Int))] : TS) = [(1, sv table), (2, iv ev), (4, bv each), (8, AV.p 0 0), (11, AV.own 1 (out ++ [x]).length), (15, AV.sl (List.map Tg.cells ts)), (16, iv (↑(List.map Tg.cells ts).length : Int)), (17, iv (↑(i + 1) : Int))] by first | rfl | (simp; done) | (simp [X.cells, Qy.cells, V.cells, Col.cells, Rw.cells, Tb.cells, Fr.cells, Sch.cells, Tp.cells, Pl.cells, xCol, xLit, xBin, xNeg, Tg.cells]; done)) (show ([Blk.box [AV.sl (List.map (fun s => [sv s]) asg)], Blk.row Ty.Trigger (List.map Tg.cells out ++ [[sv x.name, sv x.table, bv x.before, iv x.event, AV.sl (List.map (fun s => [sv s]) x.of), bv x.each, AV.sl (List.map (fun s => [sv s]) x.prec), AV.sl (List.map (fun s => [sv s]) x.foll), AV.sl (List.map Rk.cells x.rank), AV.sl (cellsX x.when_), AV.sl (List.map Ac.cells x.acts)]]) false] : Heap) = [Blk.box [AV.sl (List.map (fun s => [sv s]) asg)], Blk.row Ty.Trigger (List.map Tg.cells (out ++ [x])) false] by first | rfl | (simp; done) | (simp [X.cells, Qy.cells, V.cells, Col.cells, Rw.cells, Tb.cells, Fr.cells, Sch.cells, Tp.cells, Pl.cells, xCol, xLit, xBin, xNeg, Tg.cells]; done)) (gZ R hg)))⟩
          · obtain ⟨outZ, qZ, xZ, gZ⟩ := ih (i + 1) (out) (by omega) (by rw [List.take_add_one, hx, List.filter_append, ← hI]; clear hI; simp only [Option.toList_some, List.filter_cons, List.filter_nil, appl, cond_true, cond_false, if_true, *] <;> try simp) (by omega); exact ⟨outZ, qZ, xZ, fun R hg => good_unroll (wkl [sb h0, se (elAt_map (Tg.cells) hx rfl), sg h1, sg h2, sg h3, sb h4, si hw] [1, 2, 4, 8, 11, 15, 16, 17] 2 (by kernel_rfl) (gZ R hg))⟩
        · obtain ⟨outZ, qZ, xZ, gZ⟩ := ih (i + 1) (out) (by omega) (by rw [List.take_add_one, hx, List.filter_append, ← hI]; clear hI; simp only [Option.toList_some, List.filter_cons, List.filter_nil, appl, cond_true, cond_false, if_true, *] <;> try simp) (by omega); exact ⟨outZ, qZ, xZ, fun R hg => good_unroll (wkl [sb h0, se (elAt_map (Tg.cells) hx rfl), sg h1, sg h2, sb h3, si hw] [1, 2, 4, 8, 11, 15, 16, 17] 2 (by kernel_rfl) (gZ R hg))⟩
      · obtain ⟨outZ, qZ, xZ, gZ⟩ := ih (i + 1) (out) (by omega) (by rw [List.take_add_one, hx, List.filter_append, ← hI]; clear hI; simp only [Option.toList_some, List.filter_cons, List.filter_nil, appl, cond_true, cond_false, if_true, *] <;> try simp) (by omega); exact ⟨outZ, qZ, xZ, fun R hg => good_unroll (wkl [sb h0, se (elAt_map (Tg.cells) hx rfl), sg h1, sb h2, si hw] [1, 2, 4, 8, 11, 15, 16, 17] 2 (by kernel_rfl) (gZ R hg))⟩
    · obtain ⟨outZ, qZ, xZ, gZ⟩ := ih (i + 1) (out) (by omega) (by rw [List.take_add_one, hx, List.filter_append, ← hI]; clear hI; simp only [Option.toList_some, List.filter_cons, List.filter_nil, appl, cond_true, cond_false, if_true, *] <;> try simp) (by omega); exact ⟨outZ, qZ, xZ, fun R hg => good_unroll (wkl [sb h0, se (elAt_map (Tg.cells) hx rfl), sb h1, si hw] [1, 2, 4, 8, 11, 15, 16, 17] 2 (by kernel_rfl) (gZ R hg))⟩
theorem c_before_Applicable (N : Nat) (ts : List Tg) (table : Str) (ev : Int) (asg : List Str) (each : Bool) (hl : Short ts) (hs : Short asg) (hT : ∀ t ∈ ts, TgOk N t) : ∃ (out : List Tg), out = ts.filter (appl table ev asg each) ∧ ACallsTo E0 S.before_Applicable [.sl (ts.map Tg.cells), sv table, iv ev, ssl asg, bv each] [] (.sl (out.map Tg.cells)) [] := by
  obtain ⟨out1, q1, q1_1, g1⟩ := x_before_Applicable__apL_loop (N) (ts) (table) (ev) (asg) (each) (by first | assumption | omega | (simp; done) | (simp; omega)) (by first | assumption | omega | (simp; done) | (simp; omega)) hT (0) ([]) (by first | assumption | omega | (simp; done) | (simp; omega)) (by first | assumption | omega | (simp; done) | (simp; omega))
  exact ⟨out1, by rw [List.take_length] at *; assumption, wkc At.before_Applicable (c' := (Cfg.mk (L_apL N ts table ev asg each 0 []).n (L_apL N ts table ev asg each 0 []).todo [(1, sv table), (2, iv ev), (4, bv each), (8, AV.p 0 0), (11, AV.nl), (15, AV.sl (List.map Tg.cells ts)), (16, iv (↑(List.map Tg.cells ts).length : Int)), (17, iv 0)] [Blk.box [AV.sl (List.map (fun s => [sv s]) asg)]])) [] [1, 2, 4, 8, 11, 15, 16, 17] 1 (by kernel_rfl) (good_ownCut (c' := L_apL N ts table ev asg each 0 []) 11 Ty.Trigger [1, 2, 4, 8, 11, 15, 16, 17] 2 (by kernel_rfl) (by kernel_rfl) (by kernel_rfl) (g1 _ (good_unroll (wkr [sqx (out1.length = (List.map Tg.cells out1).length), sb q1_1] (by kernel_rfl)))))⟩
theorem k_before_Applicable (N : Nat) (ts : List Tg) (table : Str) (ev : Int) (asg : List Str) (each : Bool) (hl : Short ts) (hs : Short asg) (hT : ∀ t ∈ ts, TgOk N t) : ACallsTo E0 S.before_Applicable [.sl (ts.map Tg.cells), sv table, iv ev, ssl asg, bv each] [] (.sl ((ts.filter (appl table ev asg each)).map Tg.cells)) [] := by
  obtain ⟨out, rfl, h⟩ := c_before_Applicable N ts table ev asg each hl hs hT
  exact h
end Go.AM

namespace Go.AM
set_option maxRecDepth 100000
set_option maxHeartbeats 1000000
set_option linter.unusedSimpArgs false
set_option linter.unusedVariables false
/-- Frames whose rows fit their columns. -/
structure FsT (frs : List Fr) : Prop where
  len : frs.length ≤ 900
  rows : ∀ f ∈ frs, RowOk f.cols f.vals
  few : ∀ f ∈ frs, Few f.cols
def rNumber (n : Int) : V :=
  V.mk 1 n (ByteArray.mk #[])
theorem k_ref1_Number (n : Int)  : ACallsTo E0 S.ref1_Number [iv n] [] ((rNumber n).av) [] := by
  exact wk At.ref1_Number [] (by kernel_rfl)
def schLog : Sch := ⟨⟨#[108, 111, 103]⟩, [⟨⟨#[110]⟩, 1, false, false⟩, ⟨⟨#[115]⟩, 3, false, false⟩]⟩
end Go.AM

namespace Go.AM
set_option maxRecDepth 100000
set_option maxHeartbeats 1000000
set_option linter.unusedSimpArgs false
set_option linter.unusedVariables false
/- known -/
@[simp] theorem ba_self (s : Str) : (s == s) = true := by
  cases s with
  | mk d =>
    have h : (d == d) = true := by simp
    exact h
def setA (c : Str) (e : X) : Ac :=
  Ac.mk 5 (ByteArray.mk #[]) [] [] [Se.mk c e] [] (ByteArray.mk #[])
theorem k_law20_set (c : Str) (e : X)  : ACallsTo E0 S.law20_set [sv c, e.av] [] ((setA c e).av) [] := by
  unfold setA
  exact (by (try simp only [X.av, Qy.av, V.av, Tb.av, Sch.av, Pl.av, xsl, fsl, vsl, tsl, List.map_append, List.map_cons, List.map_nil, V.cells, Col.cells, Rw.cells, Tb.cells, Fr.cells, Sch.cells, Pl.cells, cellsX_app, cellsX_cons, cellsX_nil, cellsQ_cons, cellsQ_nil, X.cells, Qy.cells, X.args_mk, X.sub_mk, Qy.items_mk, Qy.wh_mk, xCol, xLit, xBin, xNeg, Im.cells, Lk.cells, Ac.cells, Se.cells, Tg.cells, setA]); exact wk At.law20_set [] (by kernel_rfl))
noncomputable def L_eqV (l : List V) (i : Nat)  : Cfg := loopAt B.slices_Equal_Value 0 [(0, vsl l), (1, vsl l), (12, iv ((l.map V.cells).length : Nat)), (13, iv (i : Nat))] []
theorem x_slices_Equal_Value__eqV_loop (l : List V) (hl : Short l) (i : Nat)  (hi : i ≤ (l).length) (hI : True) : (True) ∧ (decide ((((l).length : Nat) : Int) < (((l.map V.cells).length : Nat) : Int)) = false) ∧ ∀ R, Good E0 B.slices_Equal_Value [] (L_eqV l (l).length ) R → Good E0 B.slices_Equal_Value [] (L_eqV l i ) R := by
  obtain ⟨kk, hk⟩ : ∃ kk, i + kk = (l).length := ⟨(l).length - i, by omega⟩
  induction kk generalizing i  hI with
  | zero =>
    have e0 : i = (l).length := by omega
    subst e0
    exact ⟨hI, by simp, fun R hg => hg⟩
  | succ kk ih =>
    obtain ⟨x, hx⟩ := ex_at (l := l) (i := i) (by omega)
    have h0 : decide (((i : Nat) : Int) < (((l.map V.cells).length : Nat) : Int)) = true := by simp; omega
    have hw : IntKind.i64.wrap (((i : Nat) : Int) + 1) = ((i + 1 : Nat) : Int) := wrap_nat i (by first | omega | (simp only [Short, Few] at *; omega))
    cases h1 : !(x.kind == x.kind && (x.int == x.int && (x.text == x.text && true)))
    · obtain ⟨qZ, xZ, gZ⟩ := ih (i + 1) (by omega) (by first | trivial | assumption | (simp; done) | omega | (simp; omega) | (simp at *; omega)) (by omega); exact ⟨qZ, xZ, fun R hg => good_unroll (wkl [sb h0, sd [(2, [se (elAt_map (V.cells) hx rfl)]), (6, [se (elAt_map (V.cells) hx rfl)]), (8, [sq seq_Value])], sb h1, si hw] [0, 1, 12, 13] 0 (by kernel_rfl) (gZ R hg))⟩
    · exact False.elim (by simp at *)
theorem c_slices_Equal_Value (l : List V) (hl : Short l) : ∃ (r : Bool), r = true ∧ ACallsTo E0 S.slices_Equal_Value [vsl l, vsl l] [] (bv r) [] := by
  cases h1 : (↑(List.map V.cells l).length : Int) != (↑(List.map V.cells l).length : Int)
  · obtain ⟨q2, q2_1, g2⟩ := x_slices_Equal_Value__eqV_loop (l) (by first | assumption | omega | (simp; done) | (simp; omega)) (0) (by first | assumption | omega | (simp; done) | (simp; omega)) (by first | assumption | omega | (simp; done) | (simp; omega))
    exact ⟨true, by first | rfl | (exfalso; simp at *; done), wkc At.slices_Equal_Value [sb h1] [0, 1, 12, 13] 0 (by kernel_rfl) (g2 _ (good_unroll (wkr [sb q2_1] (by kernel_rfl))))⟩
  · exact ⟨false, by first | rfl | (exfalso; simp at *; done), wk At.slices_Equal_Value [sb h1] (by kernel_rfl)⟩
def exK : X := xBin 9 (xCol ⟨#[78, 69, 87]⟩ ⟨#[110]⟩) (xNum 1)
def tgK : Tg := ⟨⟨#[97]⟩, ⟨#[108, 111, 103]⟩, true, 1, [], true, [], [], [], [], [setA ⟨#[110]⟩ exK]⟩
def rowK : List V := [⟨1, 4, ⟨#[]⟩⟩, ⟨0, 0, ⟨#[]⟩⟩]
def newK : List V := [⟨1, 5, ⟨#[]⟩⟩, ⟨0, 0, ⟨#[]⟩⟩]
theorem brow_known : bRow 7 [tgK] [] schLog [] rowK [] [] = (newK, [], [], 0) := by kernel_rfl
theorem appl_known : [tgK].filter (appl ⟨#[108, 111, 103]⟩ 1 [] true) = [tgK] := by kernel_rfl
theorem tgK_ok : TgOk 7 tgK := by
  refine ⟨by simp [tgK], by simp [tgK], by simp [tgK], by simp [tgK], by simp [tgK], by simp [tgK], by simp [tgK], ?_⟩
  simp only [tgK, List.mem_singleton, forall_eq]
  refine ⟨by simp [setA], by simp [setA], by simp [setA], by simp [setA], by simp [setA], ?_, by simp [setA], by simp [setA]⟩
  simp only [setA, List.mem_singleton, forall_eq]
  exact xok_2 (xok_col ⟨_, _, rfl⟩) (xok_num (by omega) (by omega))
theorem TgOk.tr {n : Nat} {t : Tg} (h : TgOk (n + 1) t) : TrOk (n + 1) t := by
  refine ⟨few_short h.acts, fun a ha => ?_, h.when_⟩
  have h1 := (h.act a ha).set
  unfold Ac.set0
  cases hs : a.sets with
  | nil => exact ⟨good_null, ⟨by simp [seNull], by simp [seNull]⟩, fun x hx => by simp [seNull] at hx, fun q hq => by simp [seNull] at hq⟩
  | cons x r => rw [hs] at h1; exact h1 x (by simp)
theorem rowK_ok : NwOk rowK := ⟨by decide, fun v hv => by
  simp only [rowK, List.mem_cons, List.not_mem_nil, or_false] at hv
  rcases hv with rfl | rfl
  · exact good_int (by decide)
  · exact good_null⟩
theorem tbOk_nil : TbOk [] := ⟨by decide, fun _ h => by simp at h, fun _ h => by simp at h, fun _ h => by simp at h⟩
theorem tbG_nil : TbG [] := ⟨fun _ h => by simp at h, fun _ h => by simp at h⟩
theorem k_before_Row__known : ACallsTo E0 S.before_Row [.sl ([tgK].map Tg.cells), .sl [], schLog.av, .sl [], vsl rowK, .sl [], .sl []] [] (.tup [vsl newK, isl [], isl [], iv 0]) [] := by
  have h := k_before_Row 7 [tgK] [] schLog [] rowK [] [] (by decide) (by decide) (by decide) (by decide) ⟨by decide, fun v hv => by simp at hv⟩ tbOk_nil tbG_nil (by decide) (fun t ht => by simp only [List.mem_singleton] at ht; exact ht ▸ tgK_ok.tr) rowK_ok (by decide) (by decide)
  rw [brow_known] at h
  exact h
theorem k_before_Applicable__known : ACallsTo E0 S.before_Applicable [.sl ([tgK].map Tg.cells), sv ⟨#[108, 111, 103]⟩, iv 1, .sl [], bv true] [] (.sl ([tgK].map Tg.cells)) [] := by
  have h := k_before_Applicable 7 [tgK] ⟨#[108, 111, 103]⟩ 1 [] true (by decide) (by decide) (fun t ht => by simp only [List.mem_singleton] at ht; exact ht ▸ tgK_ok)
  rw [appl_known] at h
  exact h
theorem k_slices_Equal_Value__known : ACallsTo E0 S.slices_Equal_Value [vsl newK, vsl newK] [] (bv true) [] := by
  obtain ⟨r, rfl, h⟩ := c_slices_Equal_Value newK (by decide)
  exact h
theorem c_law20_known   : ∃ (r : Bool), r = true ∧ ACallsTo E0 S.law20_known [] [] (bv r) [] := by
  exact ⟨(↑(List.map Tg.cells [tgK]).length : Int) == (1 : Int), by rfl, (by (try simp only [X.av, Qy.av, V.av, Tb.av, Sch.av, Pl.av, xsl, fsl, vsl, tsl, List.map_append, List.map_cons, List.map_nil, V.cells, Col.cells, Rw.cells, Tb.cells, Fr.cells, Sch.cells, Pl.cells, cellsX_app, cellsX_cons, cellsX_nil, cellsQ_cons, cellsQ_nil, X.cells, Qy.cells, X.args_mk, X.sub_mk, Qy.items_mk, Qy.wh_mk, xCol, xLit, xBin, xNeg, Im.cells, Lk.cells, Ac.cells, Se.cells, Tg.cells, setA]); exact wk At.law20_known [sc (k_world_Schema (ByteArray.mk #[108, 111, 103]) (by first | assumption | exact short_schemas | omega)), sc (k_world_Col (ByteArray.mk #[78, 69, 87]) (ByteArray.mk #[110])), sc (k_world_Num (1) (by first | assumption | exact short_schemas | omega)), sc (k_world_Bin (9) (xCol (ByteArray.mk #[78, 69, 87]) (ByteArray.mk #[110])) (xNum 1)), sc (k_law20_set (ByteArray.mk #[110]) (xBin 9 (xCol (ByteArray.mk #[78, 69, 87]) (ByteArray.mk #[110])) (xNum 1))), sd [(3, [sc (k_ref1_Number (4))]), (6, [sc k_before_Row__known])], sg (rfl : true = true), sc (k_ref1_Number (5)), sc k_slices_Equal_Value__known, sg (rfl : true = true), sc k_before_Applicable__known] (by kernel_rfl))⟩
theorem k_law20_known : ACallsTo E0 S.law20_known [] [] (bv true) [] := by
  obtain ⟨r, rfl, h⟩ := c_law20_known
  exact h
end Go.AM

namespace Go.AM
set_option maxRecDepth 100000
set_option maxHeartbeats 1000000
set_option linter.unusedSimpArgs false
set_option linter.unusedVariables false
def tgP (i : Nat) : Tg := ⟨strOf [(97 + i : Nat)], ⟨#[108, 111, 103]⟩, true, 1, [], true, [], [], [], [], [setA ⟨#[110]⟩ (xLit ⟨1, i, ⟨#[]⟩⟩)]⟩
def tsP (n : Nat) : List Tg := (List.range n).map tgP
def vNull : V := ⟨0, 0, ⟨#[]⟩⟩
/-- The number that is set last. -/
def lastN (n : Nat) (first : Int) : Int := bif decide (1 < n) && (modI first n == (n : Int) - 1) then (n : Int) - 2 else (n : Int) - 1
def lastP (n : Nat) (first : Int) : V := bif n == 0 then vNull else ⟨1, lastN n first, ⟨#[]⟩⟩
def leftP (n : Nat) (first : Int) : List Int := bif decide (n ≤ 1) then [first, 0, 0, 0, 0, 0, 0, 0] else List.replicate (8 - (n - 1)) 0
def chsP (n : Nat) : List Int := (List.range (n - 1)).map fun (i : Nat) => (n : Int) - (i : Int)
theorem brow_first {N : Nat} {l : List Lk} {s : Sch} {old : List V} {tb : List Tb} {k : Nat} {cur : List Tg} {nw : List V} {ps qs ch : List Int}
    (h : pkChoose ((((eligible (cur.map imOf) l (cur.map imOf).length).map fun n => [iv n]).length : Nat) : Int) ps = pkChoose ((((eligible (cur.map imOf) l (cur.map imOf).length).map fun n => [iv n]).length : Nat) : Int) qs) :
    brow N l s old tb (k + 1) cur nw ps ch = brow N l s old tb (k + 1) cur nw qs ch := by
  simp only [brow, pl, chosen, h]
theorem pk_eq {n p m : Int} {r : List Int} (h2 : ¬ n < 2) (hm : modI p n = m) (h0 : 0 ≤ m) (hn : m < n) : pkChoose n (p :: r) = pkChoose n (m :: r) := by
  have e : m.tmod n = m := Int.tmod_eq_of_lt h0 hn
  have e2 : decide (m < 0) = false := by rw [decide_eq_false_iff_not]; omega
  unfold pkChoose
  unfold modI at hm
  simp only [decide_eq_false h2, cond_false, e, e2]
  rw [hm]
theorem brow_picks (n : Nat) (hn : n < 6) (first : Int) : bRow 7 (tsP n) [] schLog [] [vNull, vNull] [] [first, 0, 0, 0, 0, 0, 0, 0] = ([lastP n first, vNull], leftP n first, chsP n, 0) := by
  have h : n = 0 ∨ n = 1 ∨ n = 2 ∨ n = 3 ∨ n = 4 ∨ n = 5 := by omega
  rcases h with rfl | rfl | rfl | rfl | rfl | rfl
  · show _ = _
    kernel_rfl
  · show _ = _
    kernel_rfl
  · have hr := modI_range first 2 (by decide) (by decide)
    obtain ⟨m, hm⟩ : ∃ m, modI first 2 = m := ⟨_, rfl⟩
    rw [hm] at hr
    have e : bRow 7 (tsP 2) [] schLog [] [vNull, vNull] [] [first, 0, 0, 0, 0, 0, 0, 0] = bRow 7 (tsP 2) [] schLog [] [vNull, vNull] [] [m, 0, 0, 0, 0, 0, 0, 0] := by
      refine brow_first (k := 1) ?_
      have e : ((((eligible ((tsP 2).map imOf) [] ((tsP 2).map imOf).length).map fun n => [iv n]).length : Nat) : Int) = 2 := by kernel_rfl
      rw [e]
      exact pk_eq (by decide) hm hr.1 hr.2
    rw [e]
    unfold lastP lastN
    have h : m = 0 ∨ m = 1 := by omega
    rw [show ((2 : Nat) : Int) = 2 from rfl, hm]
    rcases h with rfl | rfl <;> (show _ = _; kernel_rfl)
  · have hr := modI_range first 3 (by decide) (by decide)
    obtain ⟨m, hm⟩ : ∃ m, modI first 3 = m := ⟨_, rfl⟩
    rw [hm] at hr
    have e : bRow 7 (tsP 3) [] schLog [] [vNull, vNull] [] [first, 0, 0, 0, 0, 0, 0, 0] = bRow 7 (tsP 3) [] schLog [] [vNull, vNull] [] [m, 0, 0, 0, 0, 0, 0, 0] := by
      refine brow_first (k := 2) ?_
      have e : ((((eligible ((tsP 3).map imOf) [] ((tsP 3).map imOf).length).map fun n => [iv n]).length : Nat) : Int) = 3 := by kernel_rfl
      rw [e]
      exact pk_eq (by decide) hm hr.1 hr.2
    rw [e]
    unfold lastP lastN
    have h : m = 0 ∨ m = 1 ∨ m = 2 := by omega
    rw [show ((3 : Nat) : Int) = 3 from rfl, hm]
    rcases h with rfl | rfl | rfl <;> (show _ = _; kernel_rfl)
  · have hr := modI_range first 4 (by decide) (by decide)
    obtain ⟨m, hm⟩ : ∃ m, modI first 4 = m := ⟨_, rfl⟩
    rw [hm] at hr
    have e : bRow 7 (tsP 4) [] schLog [] [vNull, vNull] [] [first, 0, 0, 0, 0, 0, 0, 0] = bRow 7 (tsP 4) [] schLog [] [vNull, vNull] [] [m, 0, 0, 0, 0, 0, 0, 0] := by
      refine brow_first (k := 3) ?_
      have e : ((((eligible ((tsP 4).map imOf) [] ((tsP 4).map imOf).length).map fun n => [iv n]).length : Nat) : Int) = 4 := by kernel_rfl
      rw [e]
      exact pk_eq (by decide) hm hr.1 hr.2
    rw [e]
    unfold lastP lastN
    have h : m = 0 ∨ m = 1 ∨ m = 2 ∨ m = 3 := by omega
    rw [show ((4 : Nat) : Int) = 4 from rfl, hm]
    rcases h with rfl | rfl | rfl | rfl <;> (show _ = _; kernel_rfl)
  · have hr := modI_range first 5 (by decide) (by decide)
    obtain ⟨m, hm⟩ : ∃ m, modI first 5 = m := ⟨_, rfl⟩
    rw [hm] at hr
    have e : bRow 7 (tsP 5) [] schLog [] [vNull, vNull] [] [first, 0, 0, 0, 0, 0, 0, 0] = bRow 7 (tsP 5) [] schLog [] [vNull, vNull] [] [m, 0, 0, 0, 0, 0, 0, 0] := by
      refine brow_first (k := 4) ?_
      have e : ((((eligible ((tsP 5).map imOf) [] ((tsP 5).map imOf).length).map fun n => [iv n]).length : Nat) : Int) = 5 := by kernel_rfl
      rw [e]
      exact pk_eq (by decide) hm hr.1 hr.2
    rw [e]
    unfold lastP lastN
    have h : m = 0 ∨ m = 1 ∨ m = 2 ∨ m = 3 ∨ m = 4 := by omega
    rw [show ((5 : Nat) : Int) = 5 from rfl, hm]
    rcases h with rfl | rfl | rfl | rfl | rfl <;> (show _ = _; kernel_rfl)
theorem x_world_Mod__six (v : Int) : ∃ m : Nat, m < 6 ∧ ACallsTo E0 S.world_Mod [iv v, iv 6] [] (iv (m : Nat)) [] := by
  have h := modI_range v 6 (by decide) (by decide)
  have k := k_world_Mod v 6 (by decide)
  obtain ⟨m, hm⟩ := Int.eq_ofNat_of_zero_le h.1
  rw [hm] at k h
  exact ⟨m, by omega, k⟩
theorem wrapN8 {t : Int} {n : Nat} (h1 : t = (n : Int)) (h2 : n ≤ 255) : IntKind.u8.wrap t = (n : Int) := by
  rw [h1, IntKind.wrap_u8]; omega
theorem k_world_Num__nat (i : Nat) : ACallsTo E0 S.world_Num [iv (i : Nat)] [] (X.av (xLit ⟨1, i, ⟨#[]⟩⟩)) [] :=
  c_Num0 i (by rw [decide_eq_false_iff_not]; omega)
theorem tsP_succ (i : Nat) : tsP (i + 1) = tsP i ++ [tgP i] := by
  unfold tsP; rw [List.range_succ, List.map_append]; rfl
noncomputable def L_tsL (m : Nat) (first : Int) (i : Nat) (ts : List Tg) : Cfg := loopAt B.law20_BeforePicks 0 [(0, iv (m : Nat)), (1, iv first), (5, .p 0 0), (6, .own 1 ts.length), (7, iv (i : Nat))] [.box [sv schLog.name, .sl (schLog.cols.map Col.cells)], .row Ty.Trigger (ts.map Tg.cells) false]
theorem c_tsL (m : Nat) (first : Int) (hm : m < 6) (i : Nat) (ts : List Tg) (hi : i ≤ (m)) (hI : ts = tsP i) : ∃ (ts' : List Tg), (ts' = tsP (m)) ∧ (decide ((((m) : Nat) : Int) < (((m) : Nat) : Int)) = false) ∧ ∀ R, Good E0 B.law20_BeforePicks [] (L_tsL m first (m) ts') R → Good E0 B.law20_BeforePicks [] (L_tsL m first i ts) R := by
  obtain ⟨kk, hk⟩ : ∃ kk, i + kk = (m) := ⟨(m) - i, by omega⟩
  induction kk generalizing i ts with
  | zero =>
    have e0 : i = (m) := by omega
    subst e0
    exact ⟨ts, hI, by simp, fun R hg => hg⟩
  | succ kk ih =>
    have h0 : decide (((i : Nat) : Int) < (((m) : Nat) : Int)) = true := by simp; omega
    have hw : IntKind.i64.wrap (((i : Nat) : Int) + 1) = ((i + 1 : Nat) : Int) := wrap_nat i (by first | omega | (simp only [Short, Few] at *; omega))
    have hi6 : i < 6 := by omega
    have htl : ts.length ≤ 6 := by rw [hI]; simp [tsP]; omega
    obtain ⟨tsZ, qZ, xZ, gZ⟩ := ih (i + 1) (ts ++ [Tg.mk (strOf [(↑(97 + i) : Int)]) (ByteArray.mk #[108, 111, 103]) true 1 [] true [] [] [] [] [setA (ByteArray.mk #[110]) (xLit (V.mk 1 (↑i : Int) (ByteArray.mk #[])))]]) (by omega) (by rw [tsP_succ, ← hI]; rfl) (by omega); exact ⟨tsZ, qZ, xZ, fun R hg => good_unroll (wkl (c' := (Cfg.mk (L_tsL m first (i + 1) (ts ++ [Tg.mk (strOf [(↑(97 + i) : Int)]) (ByteArray.mk #[108, 111, 103]) true 1 [] true [] [] [] [] [setA (ByteArray.mk #[110]) (xLit (V.mk 1 (↑i : Int) (ByteArray.mk #[])))]])).n (L_tsL m first (i + 1) (ts ++ [Tg.mk (strOf [(↑(97 + i) : Int)]) (ByteArray.mk #[108, 111, 103]) true 1 [] true [] [] [] [] [setA (ByteArray.mk #[110]) (xLit (V.mk 1 (↑i : Int) (ByteArray.mk #[])))]])).todo [(0, iv (↑m : Int)), (1, iv first), (5, AV.p 0 0), (6, AV.own 1 (List.map Tg.cells ts ++ [[sv (strOf [(↑(97 + i) : Int)]), sv (ByteArray.mk #[108, 111, 103]), bv true, iv 1, AV.sl [], bv true, AV.sl [], AV.sl [], AV.sl [], AV.sl [], AV.sl [[iv (setA (ByteArray.mk #[110]) (xLit (V.mk 1 (↑i : Int) (ByteArray.mk #[])))).kind, sv (setA (ByteArray.mk #[110]) (xLit (V.mk 1 (↑i : Int) (ByteArray.mk #[])))).table, AV.sl [], AV.sl (cellsQ []), AV.sl [[sv (ByteArray.mk #[110]), iv (xLit (V.mk 1 (↑i : Int) (ByteArray.mk #[]))).kind, iv (xLit (V.mk 1 (↑i : Int) (ByteArray.mk #[]))).op, bv (xLit (V.mk 1 (↑i : Int) (ByteArray.mk #[]))).not, iv (xLit (V.mk 1 (↑i : Int) (ByteArray.mk #[]))).val.kind, iv (xLit (V.mk 1 (↑i : Int) (ByteArray.mk #[]))).val.int, sv (xLit (V.mk 1 (↑i : Int) (ByteArray.mk #[]))).val.text, sv (xLit (V.mk 1 (↑i : Int) (ByteArray.mk #[]))).table, sv (xLit (V.mk 1 (↑i : Int) (ByteArray.mk #[]))).name, AV.sl (cellsX []), AV.sl (cellsQ [])]], AV.sl (cellsX []), sv (setA (ByteArray.mk #[110]) (xLit (V.mk 1 (↑i : Int) (ByteArray.mk #[])))).text]]]]).length), (7, iv (↑(i + 1) : Int))] [Blk.box [sv schLog.name, AV.sl [[sv (ByteArray.mk #[110]), iv 1, bv false, bv false], [sv (ByteArray.mk #[115]), iv 3, bv false, bv false]]], Blk.row Ty.Trigger (List.map Tg.cells ts ++ [[sv (strOf [(↑(97 + i) : Int)]), sv (ByteArray.mk #[108, 111, 103]), bv true, iv 1, AV.sl [], bv true, AV.sl [], AV.sl [], AV.sl [], AV.sl [], AV.sl [[iv (setA (ByteArray.mk #[110]) (xLit (V.mk 1 (↑i : Int) (ByteArray.mk #[])))).kind, sv (setA (ByteArray.mk #[110]) (xLit (V.mk 1 (↑i : Int) (ByteArray.mk #[])))).table, AV.sl [], AV.sl (cellsQ []), AV.sl [[sv (ByteArray.mk #[110]), iv (xLit (V.mk 1 (↑i : Int) (ByteArray.mk #[]))).kind, iv (xLit (V.mk 1 (↑i : Int) (ByteArray.mk #[]))).op, bv (xLit (V.mk 1 (↑i : Int) (ByteArray.mk #[]))).not, iv (xLit (V.mk 1 (↑i : Int) (ByteArray.mk #[]))).val.kind, iv (xLit (V.mk 1 (↑i : Int) (ByteArray.mk #[]))).val.int, sv (xLit (V.mk 1 (↑i : Int) (ByteArray.mk #[]))).val.text, sv (xLit (V.mk 1 (↑i : Int) (ByteArray.mk #[]))).table, sv (xLit (V.mk 1 (↑i : Int) (ByteArray.mk #[]))).name, AV.sl (cellsX []), AV.sl (cellsQ [])]], AV.sl (cellsX []), sv (setA (ByteArray.mk #[110]) (xLit (V.mk 1 (↑i : Int) (ByteArray.mk #[])))).text]]]]) false])) [sb h0, sd [(2, [si (wrapN (t := 97 + (↑i : Int)) (n := 97 + i) (by omega) (by omega))]), (3, [si (wrapN8 (t := (↑(97 + i) : Int)) (n := 97 + i) (by omega) (by omega))]), (7, [sc (k_world_Num__nat (i))]), (8, [sc (k_law20_set (ByteArray.mk #[110]) (xLit (V.mk 1 (↑i : Int) (ByteArray.mk #[]))))]), (12, [sqx (AllLen [[sv (strOf [(↑(97 + i) : Int)]), sv (ByteArray.mk #[108, 111, 103]), bv true, iv 1, AV.sl [], bv true, AV.sl [], AV.sl [], AV.sl [], AV.sl [], AV.sl [[iv (setA (ByteArray.mk #[110]) (xLit (V.mk 1 (↑i : Int) (ByteArray.mk #[])))).kind, sv (setA (ByteArray.mk #[110]) (xLit (V.mk 1 (↑i : Int) (ByteArray.mk #[])))).table, AV.sl [], AV.sl (cellsQ []), AV.sl [[sv (ByteArray.mk #[110]), iv (xLit (V.mk 1 (↑i : Int) (ByteArray.mk #[]))).kind, iv (xLit (V.mk 1 (↑i : Int) (ByteArray.mk #[]))).op, bv (xLit (V.mk 1 (↑i : Int) (ByteArray.mk #[]))).not, iv (xLit (V.mk 1 (↑i : Int) (ByteArray.mk #[]))).val.kind, iv (xLit (V.mk 1 (↑i : Int) (ByteArray.mk #[]))).val.int, sv (xLit (V.mk 1 (↑i : Int) (ByteArray.mk #[]))).val.text, sv (xLit (V.mk 1 (↑i : Int) (ByteArray.mk #[]))).table, sv (xLit (V.mk 1 (↑i : Int) (ByteArray.mk #[]))).name, AV.sl (cellsX []), AV.sl (cellsQ [])]], AV.sl (cellsX []), sv (setA (ByteArray.mk #[110]) (xLit (V.mk 1 (↑i : Int) (ByteArray.mk #[])))).text]]]] 11 ∧ ts.length = (List.map Tg.cells ts).length ∧ (((List.map Tg.cells ts).length + [[sv (strOf [(↑(97 + i) : Int)]), sv (ByteArray.mk #[108, 111, 103]), bv true, iv 1, AV.sl [], bv true, AV.sl [], AV.sl [], AV.sl [], AV.sl [], AV.sl [[iv (setA (ByteArray.mk #[110]) (xLit (V.mk 1 (↑i : Int) (ByteArray.mk #[])))).kind, sv (setA (ByteArray.mk #[110]) (xLit (V.mk 1 (↑i : Int) (ByteArray.mk #[])))).table, AV.sl [], AV.sl (cellsQ []), AV.sl [[sv (ByteArray.mk #[110]), iv (xLit (V.mk 1 (↑i : Int) (ByteArray.mk #[]))).kind, iv (xLit (V.mk 1 (↑i : Int) (ByteArray.mk #[]))).op, bv (xLit (V.mk 1 (↑i : Int) (ByteArray.mk #[]))).not, iv (xLit (V.mk 1 (↑i : Int) (ByteArray.mk #[]))).val.kind, iv (xLit (V.mk 1 (↑i : Int) (ByteArray.mk #[]))).val.int, sv (xLit (V.mk 1 (↑i : Int) (ByteArray.mk #[]))).val.text, sv (xLit (V.mk 1 (↑i : Int) (ByteArray.mk #[]))).table, sv (xLit (V.mk 1 (↑i : Int) (ByteArray.mk #[]))).name, AV.sl (cellsX []), AV.sl (cellsQ [])]], AV.sl (cellsX []), sv (setA (ByteArray.mk #[110]) (xLit (V.mk 1 (↑i : Int) (ByteArray.mk #[])))).text]]]].length) * 200).le 140737488355328)])], si hw] [0, 1, 5, 6, 7] 2 (by kernel_rfl) (good_same (show ([(0, iv (↑m : Int)), (1, iv first), (5, AV.p 0 0), (6, AV.own 1 (List.map Tg.cells ts ++ [[sv (strOf [(↑(97 + i) : Int)]), sv (ByteArray.mk #[108, 111, 103]), bv true, iv 1, AV.sl [], bv true, AV.sl [], AV.sl [], AV.sl [], AV.sl [], AV.sl [[iv (setA (ByteArray.mk #[110]) (xLit (V.mk 1 (↑i : Int) (ByteArray.mk #[])))).kind, sv (setA (ByteArray.mk #[110]) (xLit (V.mk 1 (↑i : Int) (ByteArray.mk #[])))).table, AV.sl [], AV.sl (cellsQ []), AV.sl [[sv (ByteArray.mk #[110]), iv (xLit (V.mk 1 (↑i : Int) (ByteArray.mk #[]))).kind, iv (xLit (V.mk 1 (↑i : Int) (ByteArray.mk #[]))).op, bv (xLit (V.mk 1 (↑i : Int) (ByteArray.mk #[]))).not, iv (xLit (V.mk 1 (↑i : Int) (ByteArray.mk #[]))).val.kind, iv (xLit (V.mk 1 (↑i : Int) (ByteArray.mk #[]))).val.int, sv (xLit (V.mk 1 (↑i : Int) (ByteArray.mk #[]))).val.text, sv (xLit (V.mk 1 (↑i : Int) (ByteArray.mk #[]))).table, sv (xLit (V.mk 1 (↑i : Int) (ByteArray.mk #[]))).name, AV.sl (cellsX []), AV.sl (cellsQ [])]], AV.sl (cellsX []), sv (setA (ByteArray.mk #[110]) (xLit (V.mk 1 (↑i : Int) (ByteArray.mk #[])))).text]]]]).length), (7, iv (↑(i + 1) : Int))] : TS) = [(0, iv (↑m : Int)), (1, iv first), (5, AV.p 0 0), (6, AV.own 1 (ts ++ [Tg.mk (strOf [(↑(97 + i) : Int)]) (ByteArray.mk #[108, 111, 103]) true 1 [] true [] [] [] [] [setA (ByteArray.mk #[110]) (xLit (V.mk 1 (↑i : Int) (ByteArray.mk #[])))]]).length), (7, iv (↑(i + 1) : Int))] by first | rfl | (simp; done) | (simp [X.cells, Qy.cells, V.cells, Col.cells, Rw.cells, Tb.cells, Fr.cells, Sch.cells, Tp.cells, Pl.cells, xCol, xLit, xBin, xNeg, Im.cells, Lk.cells, Ac.cells, Se.cells, Tg.cells, setA]; done)) (show ([Blk.box [sv schLog.name, AV.sl [[sv (ByteArray.mk #[110]), iv 1, bv false, bv false], [sv (ByteArray.mk #[115]), iv 3, bv false, bv false]]], Blk.row Ty.Trigger (List.map Tg.cells ts ++ [[sv (strOf [(↑(97 + i) : Int)]), sv (ByteArray.mk #[108, 111, 103]), bv true, iv 1, AV.sl [], bv true, AV.sl [], AV.sl [], AV.sl [], AV.sl [], AV.sl [[iv (setA (ByteArray.mk #[110]) (xLit (V.mk 1 (↑i : Int) (ByteArray.mk #[])))).kind, sv (setA (ByteArray.mk #[110]) (xLit (V.mk 1 (↑i : Int) (ByteArray.mk #[])))).table, AV.sl [], AV.sl (cellsQ []), AV.sl [[sv (ByteArray.mk #[110]), iv (xLit (V.mk 1 (↑i : Int) (ByteArray.mk #[]))).kind, iv (xLit (V.mk 1 (↑i : Int) (ByteArray.mk #[]))).op, bv (xLit (V.mk 1 (↑i : Int) (ByteArray.mk #[]))).not, iv (xLit (V.mk 1 (↑i : Int) (ByteArray.mk #[]))).val.kind, iv (xLit (V.mk 1 (↑i : Int) (ByteArray.mk #[]))).val.int, sv (xLit (V.mk 1 (↑i : Int) (ByteArray.mk #[]))).val.text, sv (xLit (V.mk 1 (↑i : Int) (ByteArray.mk #[]))).table, sv (xLit (V.mk 1 (↑i : Int) (ByteArray.mk #[]))).name, AV.sl (cellsX []), AV.sl (cellsQ [])]], AV.sl (cellsX []), sv (setA (ByteArray.mk #[110]) (xLit (V.mk 1 (↑i : Int) (ByteArray.mk #[])))).text]]]]) false] : Heap) = [Blk.box [sv schLog.name, AV.sl [[sv (ByteArray.mk #[110]), iv 1, bv false, bv false], [sv (ByteArray.mk #[115]), iv 3, bv false, bv false]]], Blk.row Ty.Trigger (List.map Tg.cells (ts ++ [Tg.mk (strOf [(↑(97 + i) : Int)]) (ByteArray.mk #[108, 111, 103]) true 1 [] true [] [] [] [] [setA (ByteArray.mk #[110]) (xLit (V.mk 1 (↑i : Int) (ByteArray.mk #[])))]])) false] by first | rfl | (simp; done) | (simp [X.cells, Qy.cells, V.cells, Col.cells, Rw.cells, Tb.cells, Fr.cells, Sch.cells, Tp.cells, Pl.cells, xCol, xLit, xBin, xNeg, Im.cells, Lk.cells, Ac.cells, Se.cells, Tg.cells, setA]; done)) (gZ R hg)))⟩
theorem x_law20_BeforePicks__tsL_loop (m : Nat) (first : Int) (hm : m < 6) :
    (decide (((m : Nat) : Int) < ((m : Nat) : Int)) = false) ∧ ∀ R, Good E0 B.law20_BeforePicks [] (L_tsL m first m (tsP m)) R → Good E0 B.law20_BeforePicks [] (L_tsL m first 0 []) R := by
  obtain ⟨ts, h1, h2, h3⟩ := c_tsL m first hm 0 [] (by omega) rfl
  subst h1
  exact ⟨h2, h3⟩
theorem tgP_ok (i : Nat) (hi : i < 6) : TgOk 7 (tgP i) := by
  refine ⟨by simp [tgP], by simp [tgP], by simp [tgP], by simp [tgP], by simp [tgP], by simp [tgP], by simp [tgP], ?_⟩
  simp only [tgP, List.mem_singleton, forall_eq]
  refine ⟨by simp [setA], by simp [setA], by simp [setA], by simp [setA], by simp [setA], ?_, by simp [setA], by simp [setA]⟩
  simp only [setA, List.mem_singleton, forall_eq]
  exact xok_lit (good_int ⟨by omega, by omega⟩)
theorem nulls_ok : NwOk [vNull, vNull] := ⟨by decide, fun v hv => by
  simp only [List.mem_cons, List.not_mem_nil, or_false] at hv
  rcases hv with rfl | rfl <;> exact good_null⟩
theorem k_before_Row__picks (n : Nat) (hn : n < 6) (first : Int) : ACallsTo E0 S.before_Row [.sl ((tsP n).map Tg.cells), .sl [], schLog.av, .sl [], vsl [vNull, vNull], .sl [], isl [first, 0, 0, 0, 0, 0, 0, 0]] [] (.tup [vsl [lastP n first, vNull], isl (leftP n first), isl (chsP n), iv 0]) [] := by
  have h := k_before_Row 7 (tsP n) [] schLog [] [vNull, vNull] [] [first, 0, 0, 0, 0, 0, 0, 0] (by decide) (by decide) (by decide) (by decide) ⟨by decide, fun v hv => by simp at hv⟩ tbOk_nil tbG_nil (by simp [tsP]; omega)
    (fun t ht => by
      simp only [tsP, List.mem_map, List.mem_range] at ht
      obtain ⟨i, hi, rfl⟩ := ht
      exact (tgP_ok i (by omega)).tr) nulls_ok (by decide) (by simp)
  rw [brow_picks n hn first] at h
  exact h
theorem leftP_len (n : Nat) (hn : n < 6) (first : Int) : (leftP n first).length = 8 - (n - 1) := by
  unfold leftP
  cases h : decide (n ≤ 1)
  · simp
  · rw [decide_eq_true_iff] at h
    simp; omega
theorem chsP_len (n : Nat) : (chsP n).length = n - 1 := by simp [chsP]
theorem chsP_at {m i : Nat} {x : Int} (h : (chsP m)[i]? = some x) : x = (m : Int) - (i : Int) := by
  unfold chsP at h
  rw [List.getElem?_map] at h
  cases hr : (List.range (m - 1))[i]? with
  | none => rw [hr] at h; simp at h
  | some j =>
    rw [hr] at h
    have := List.getElem?_range (n := m - 1) (i := i) (by have := at_lt hr; simpa using this)
    rw [this] at hr
    simp only [Option.some.injEq] at hr
    subst hr
    simpa using h.symm
theorem ne_sub {m i : Nat} {x : Int} (hm : m < 6) (hx : (chsP m)[i]? = some x) (h : (x != IntKind.i64.wrap ((m : Int) - (i : Int))) = true) : False := by
  have h1 := chsP_at hx
  have h2 := at_lt hx
  rw [chsP_len] at h2
  have h3 : IntKind.i64.wrap ((m : Int) - (i : Int)) = (m : Int) - (i : Int) := by rw [IntKind.wrap_i64]; omega
  rw [h3, h1] at h
  simp at h
noncomputable def L_chL (m : Nat) (first : Int) (i : Nat)  : Cfg := loopAt B.law20_BeforePicks 1 [(0, iv (m : Nat)), (1, iv first), (8, vsl [lastP m first, vNull]), (73, isl (chsP m)), (74, iv (((chsP m).map fun n => [iv n]).length : Nat)), (75, iv (i : Nat))] [.box [sv schLog.name, .sl (schLog.cols.map Col.cells)], .row Ty.Trigger ((tsP m).map Tg.cells) true]
theorem x_law20_BeforePicks__chL_loop (m : Nat) (first : Int) (hm : m < 6) (i : Nat)  (hi : i ≤ ((chsP m)).length) (hI : True) : (True) ∧ (decide (((((chsP m)).length : Nat) : Int) < ((((chsP m).map fun n => [iv n]).length : Nat) : Int)) = false) ∧ ∀ R, Good E0 B.law20_BeforePicks [] (L_chL m first ((chsP m)).length ) R → Good E0 B.law20_BeforePicks [] (L_chL m first i ) R := by
  obtain ⟨kk, hk⟩ : ∃ kk, i + kk = ((chsP m)).length := ⟨((chsP m)).length - i, by omega⟩
  induction kk generalizing i  hI with
  | zero =>
    have e0 : i = ((chsP m)).length := by omega
    subst e0
    exact ⟨hI, by simp, fun R hg => hg⟩
  | succ kk ih =>
    obtain ⟨x, hx⟩ := ex_at (l := (chsP m)) (i := i) (by omega)
    have h0 : decide (((i : Nat) : Int) < ((((chsP m).map fun n => [iv n]).length : Nat) : Int)) = true := by simp; omega
    have hw : IntKind.i64.wrap (((i : Nat) : Int) + 1) = ((i + 1 : Nat) : Int) := wrap_nat i (by have := chsP_len m; omega)
    have hcl : (chsP m).length ≤ 6 := by rw [chsP_len]; omega
    cases h1 : x != IntKind.i64.wrap ((↑m : Int) - (↑i : Int))
    · obtain ⟨qZ, xZ, gZ⟩ := ih (i + 1) (by omega) (by first | trivial | assumption | (simp; done) | omega | (simp; omega) | (simp at *; omega)) (by omega); exact ⟨qZ, xZ, fun R hg => good_unroll (wkl [sb h0, se (elAt_map (fun n => [iv n]) hx rfl), si (e := IntKind.i64.wrap ((↑m : Int) - (↑i : Int))) rfl, sb h1, si hw] [0, 1, 8, 73, 74, 75] 2 (by kernel_rfl) (gZ R hg))⟩
    · exact False.elim (ne_sub hm hx (by assumption))
theorem x_law20_BeforePicks (n0 first : Int)  : ∃ (r : Bool), r = true ∧ ACallsTo E0 S.law20_BeforePicks [iv n0, iv first] [] (bv r) [] := by
  obtain ⟨m1, q1, c1⟩ := (x_world_Mod__six (n0))
  obtain ⟨q2, g2⟩ := x_law20_BeforePicks__tsL_loop (m1) (first) (by first | assumption | exact short_schemas | omega | (rw [chsP_len]; omega) | exact ne_of_beq_false (by assumption) | (simp [chsP_len]; omega) | (simp; done) | (exfalso; simp_all; done) | (exfalso; simp_all; omega))
  cases h3 : (↑(List.map (fun n => [iv n]) (leftP m1 first)).length : Int) != IntKind.i64.wrap (8 - if 0 > IntKind.i64.wrap ((↑m1 : Int) - 1) then 0 else IntKind.i64.wrap ((↑m1 : Int) - 1))
  · cases h4 : (↑(List.map (fun n => [iv n]) (chsP m1)).length : Int) != if 0 > IntKind.i64.wrap ((↑m1 : Int) - 1) then 0 else IntKind.i64.wrap ((↑m1 : Int) - 1)
    · obtain ⟨q5, q5_1, g5⟩ := x_law20_BeforePicks__chL_loop (m1) (first) (by first | assumption | exact short_schemas | omega | (rw [chsP_len]; omega) | exact ne_of_beq_false (by assumption) | (simp [chsP_len]; omega) | (simp; done) | (exfalso; simp_all; done) | (exfalso; simp_all; omega)) (0) (by first | assumption | exact short_schemas | omega | (rw [chsP_len]; omega) | exact ne_of_beq_false (by assumption) | (simp [chsP_len]; omega) | (simp; done) | (exfalso; simp_all; done) | (exfalso; simp_all; omega)) (by first | assumption | exact short_schemas | omega | (rw [chsP_len]; omega) | exact ne_of_beq_false (by assumption) | (simp [chsP_len]; omega) | (simp; done) | (exfalso; simp_all; done) | (exfalso; simp_all; omega))
      cases h6 : decide (1 < (↑m1 : Int))
      · cases h7 : (↑m1 : Int) == 0
        · cases h8 : bif (↑m1 : Int) == 0 then true else (lastP m1 first).kind == (rNumber (IntKind.i64.wrap ((↑m1 : Int) - 1))).kind && ((lastP m1 first).int == (rNumber (IntKind.i64.wrap ((↑m1 : Int) - 1))).int && ((lastP m1 first).text == (rNumber (IntKind.i64.wrap ((↑m1 : Int) - 1))).text && true))
          · exact ⟨false, by first
    | rfl
    | (have hc : m1 = 0 ∨ m1 = 1 ∨ m1 = 2 ∨ m1 = 3 ∨ m1 = 4 ∨ m1 = 5 := by omega
       have hl := leftP_len m1 q1 first
       have hk := chsP_len m1
       rcases hc with rfl | rfl | rfl | rfl | rfl | rfl <;> simp_all [lastP, lastN, rNumber, vNull, IntKind.wrap_i64, Bool.cond_eq_ite]), wkc At.law20_BeforePicks (c' := (Cfg.mk (L_tsL m1 first 0 []).n (L_tsL m1 first 0 []).todo [(0, iv (↑m1 : Int)), (1, iv first), (5, AV.p 0 0), (6, AV.nl), (7, iv 0)] [Blk.box [sv (schemaOf (ByteArray.mk #[108, 111, 103])).name, AV.sl [[sv (ByteArray.mk #[110]), iv 1, bv false, bv false], [sv (ByteArray.mk #[115]), iv 3, bv false, bv false]]]])) [sc c1, sc (k_world_Schema (ByteArray.mk #[108, 111, 103]) (by first | assumption | exact short_schemas | omega | (rw [chsP_len]; omega) | exact ne_of_beq_false (by assumption) | (simp [chsP_len]; omega) | (simp; done) | (exfalso; simp_all; done) | (exfalso; simp_all; omega)))] [0, 1, 5, 6, 7] 1 (by kernel_rfl) (good_ownCut (c' := L_tsL m1 first 0 []) 6 Ty.Trigger [0, 1, 5, 6, 7] 2 (by kernel_rfl) (by kernel_rfl) (by kernel_rfl) (g2 _ (good_unroll (wkl [sb q2, skx ((tsP m1).length = (List.map Tg.cells (tsP m1)).length ∧ True ∧ (True ∧ True ∧ True) ∧ True ∧ True ∧ True ∧ True ∧ True) [] (k_before_Row__picks (m1) (by first | assumption | exact short_schemas | omega | (rw [chsP_len]; omega) | exact ne_of_beq_false (by assumption) | (simp [chsP_len]; omega) | (simp; done) | (exfalso; simp_all; done) | (exfalso; simp_all; omega)) (first)), sg (rfl : false = false), sg (rfl : false = false), si (e := IntKind.i64.wrap ((↑m1 : Int) - 1)) rfl, si (e := if 0 > IntKind.i64.wrap ((↑m1 : Int) - 1) then 0 else IntKind.i64.wrap ((↑m1 : Int) - 1)) rfl, si (e := IntKind.i64.wrap (8 - if 0 > IntKind.i64.wrap ((↑m1 : Int) - 1) then 0 else IntKind.i64.wrap ((↑m1 : Int) - 1))) rfl, sg h3, si (e := IntKind.i64.wrap ((↑m1 : Int) - 1)) rfl, si (e := if 0 > IntKind.i64.wrap ((↑m1 : Int) - 1) then 0 else IntKind.i64.wrap ((↑m1 : Int) - 1)) rfl, sb h4] [0, 1, 8, 73, 74, 75] 2 (by kernel_rfl) (g5 _ (good_unroll (wkr [sb q5_1, si (e := IntKind.i64.wrap ((↑m1 : Int) - 1)) rfl, sb h6, sd [(3, [sg h7]), (4, [so h7 (se (xs := [[iv (lastP m1 first).kind, iv (lastP m1 first).int, sv (lastP m1 first).text], [iv vNull.kind, iv vNull.int, sv vNull.text]]) (i := 0) (c := [iv (lastP m1 first).kind, iv (lastP m1 first).int, sv (lastP m1 first).text]) (n := 3) ⟨by decide, rfl, rfl⟩)]), (5, [sg h7]), (6, [sg h7]), (7, [so h7 (sc (k_ref1_Number (IntKind.i64.wrap ((↑m1 : Int) - 1))))]), (8, [so h7 (sq seq_Value)]), (11, [sb h8]), (12, [sb h8])]] (by kernel_rfl))))))))⟩
          · exact ⟨bif bif (↑m1 : Int) == (0 : Int) then true else (lastP m1 first).kind == (rNumber (IntKind.i64.wrap ((↑m1 : Int) - (1 : Int)))).kind && ((lastP m1 first).int == (rNumber (IntKind.i64.wrap ((↑m1 : Int) - (1 : Int)))).int && ((lastP m1 first).text == (rNumber (IntKind.i64.wrap ((↑m1 : Int) - (1 : Int)))).text && true)) then true else false, by first
    | rfl
    | (have hc : m1 = 0 ∨ m1 = 1 ∨ m1 = 2 ∨ m1 = 3 ∨ m1 = 4 ∨ m1 = 5 := by omega
       have hl := leftP_len m1 q1 first
       have hk := chsP_len m1
       rcases hc with rfl | rfl | rfl | rfl | rfl | rfl <;> simp_all [lastP, lastN, rNumber, vNull, IntKind.wrap_i64, Bool.cond_eq_ite]), wkc At.law20_BeforePicks (c' := (Cfg.mk (L_tsL m1 first 0 []).n (L_tsL m1 first 0 []).todo [(0, iv (↑m1 : Int)), (1, iv first), (5, AV.p 0 0), (6, AV.nl), (7, iv 0)] [Blk.box [sv (schemaOf (ByteArray.mk #[108, 111, 103])).name, AV.sl [[sv (ByteArray.mk #[110]), iv 1, bv false, bv false], [sv (ByteArray.mk #[115]), iv 3, bv false, bv false]]]])) [sc c1, sc (k_world_Schema (ByteArray.mk #[108, 111, 103]) (by first | assumption | exact short_schemas | omega | (rw [chsP_len]; omega) | exact ne_of_beq_false (by assumption) | (simp [chsP_len]; omega) | (simp; done) | (exfalso; simp_all; done) | (exfalso; simp_all; omega)))] [0, 1, 5, 6, 7] 1 (by kernel_rfl) (good_ownCut (c' := L_tsL m1 first 0 []) 6 Ty.Trigger [0, 1, 5, 6, 7] 2 (by kernel_rfl) (by kernel_rfl) (by kernel_rfl) (g2 _ (good_unroll (wkl [sb q2, skx ((tsP m1).length = (List.map Tg.cells (tsP m1)).length ∧ True ∧ (True ∧ True ∧ True) ∧ True ∧ True ∧ True ∧ True ∧ True) [] (k_before_Row__picks (m1) (by first | assumption | exact short_schemas | omega | (rw [chsP_len]; omega) | exact ne_of_beq_false (by assumption) | (simp [chsP_len]; omega) | (simp; done) | (exfalso; simp_all; done) | (exfalso; simp_all; omega)) (first)), sg (rfl : false = false), sg (rfl : false = false), si (e := IntKind.i64.wrap ((↑m1 : Int) - 1)) rfl, si (e := if 0 > IntKind.i64.wrap ((↑m1 : Int) - 1) then 0 else IntKind.i64.wrap ((↑m1 : Int) - 1)) rfl, si (e := IntKind.i64.wrap (8 - if 0 > IntKind.i64.wrap ((↑m1 : Int) - 1) then 0 else IntKind.i64.wrap ((↑m1 : Int) - 1))) rfl, sg h3, si (e := IntKind.i64.wrap ((↑m1 : Int) - 1)) rfl, si (e := if 0 > IntKind.i64.wrap ((↑m1 : Int) - 1) then 0 else IntKind.i64.wrap ((↑m1 : Int) - 1)) rfl, sb h4] [0, 1, 8, 73, 74, 75] 2 (by kernel_rfl) (g5 _ (good_unroll (wkr [sb q5_1, si (e := IntKind.i64.wrap ((↑m1 : Int) - 1)) rfl, sb h6, sd [(3, [sg h7]), (4, [so h7 (se (xs := [[iv (lastP m1 first).kind, iv (lastP m1 first).int, sv (lastP m1 first).text], [iv vNull.kind, iv vNull.int, sv vNull.text]]) (i := 0) (c := [iv (lastP m1 first).kind, iv (lastP m1 first).int, sv (lastP m1 first).text]) (n := 3) ⟨by decide, rfl, rfl⟩)]), (5, [sg h7]), (6, [sg h7]), (7, [so h7 (sc (k_ref1_Number (IntKind.i64.wrap ((↑m1 : Int) - 1))))]), (8, [so h7 (sq seq_Value)]), (11, [so h8 (sc k_law20_known)])]] (by kernel_rfl))))))))⟩
        · exact ⟨true, by first
    | rfl
    | (have hc : m1 = 0 ∨ m1 = 1 ∨ m1 = 2 ∨ m1 = 3 ∨ m1 = 4 ∨ m1 = 5 := by omega
       have hl := leftP_len m1 q1 first
       have hk := chsP_len m1
       rcases hc with rfl | rfl | rfl | rfl | rfl | rfl <;> simp_all [lastP, lastN, rNumber, vNull, IntKind.wrap_i64, Bool.cond_eq_ite]), wkc At.law20_BeforePicks (c' := (Cfg.mk (L_tsL m1 first 0 []).n (L_tsL m1 first 0 []).todo [(0, iv (↑m1 : Int)), (1, iv first), (5, AV.p 0 0), (6, AV.nl), (7, iv 0)] [Blk.box [sv (schemaOf (ByteArray.mk #[108, 111, 103])).name, AV.sl [[sv (ByteArray.mk #[110]), iv 1, bv false, bv false], [sv (ByteArray.mk #[115]), iv 3, bv false, bv false]]]])) [sc c1, sc (k_world_Schema (ByteArray.mk #[108, 111, 103]) (by first | assumption | exact short_schemas | omega | (rw [chsP_len]; omega) | exact ne_of_beq_false (by assumption) | (simp [chsP_len]; omega) | (simp; done) | (exfalso; simp_all; done) | (exfalso; simp_all; omega)))] [0, 1, 5, 6, 7] 1 (by kernel_rfl) (good_ownCut (c' := L_tsL m1 first 0 []) 6 Ty.Trigger [0, 1, 5, 6, 7] 2 (by kernel_rfl) (by kernel_rfl) (by kernel_rfl) (g2 _ (good_unroll (wkl [sb q2, skx ((tsP m1).length = (List.map Tg.cells (tsP m1)).length ∧ True ∧ (True ∧ True ∧ True) ∧ True ∧ True ∧ True ∧ True ∧ True) [] (k_before_Row__picks (m1) (by first | assumption | exact short_schemas | omega | (rw [chsP_len]; omega) | exact ne_of_beq_false (by assumption) | (simp [chsP_len]; omega) | (simp; done) | (exfalso; simp_all; done) | (exfalso; simp_all; omega)) (first)), sg (rfl : false = false), sg (rfl : false = false), si (e := IntKind.i64.wrap ((↑m1 : Int) - 1)) rfl, si (e := if 0 > IntKind.i64.wrap ((↑m1 : Int) - 1) then 0 else IntKind.i64.wrap ((↑m1 : Int) - 1)) rfl, si (e := IntKind.i64.wrap (8 - if 0 > IntKind.i64.wrap ((↑m1 : Int) - 1) then 0 else IntKind.i64.wrap ((↑m1 : Int) - 1))) rfl, sg h3, si (e := IntKind.i64.wrap ((↑m1 : Int) - 1)) rfl, si (e := if 0 > IntKind.i64.wrap ((↑m1 : Int) - 1) then 0 else IntKind.i64.wrap ((↑m1 : Int) - 1)) rfl, sb h4] [0, 1, 8, 73, 74, 75] 2 (by kernel_rfl) (g5 _ (good_unroll (wkr [sb q5_1, si (e := IntKind.i64.wrap ((↑m1 : Int) - 1)) rfl, sb h6, sd [(3, [sb h7]), (4, [sb h7]), (5, [sb h7]), (6, [sb h7]), (7, [sb h7]), (8, [sb h7]), (9, [sb h7]), (11, [sc k_law20_known])]] (by kernel_rfl))))))))⟩
      · cases h9 : modI first (↑m1 : Int) == IntKind.i64.wrap ((↑m1 : Int) - 1)
        · cases h10 : (↑m1 : Int) == 0
          · cases h11 : bif (↑m1 : Int) == 0 then true else (lastP m1 first).kind == (rNumber (IntKind.i64.wrap ((↑m1 : Int) - 1))).kind && ((lastP m1 first).int == (rNumber (IntKind.i64.wrap ((↑m1 : Int) - 1))).int && ((lastP m1 first).text == (rNumber (IntKind.i64.wrap ((↑m1 : Int) - 1))).text && true))
            · exact ⟨false, by first
    | rfl
    | (have hc : m1 = 0 ∨ m1 = 1 ∨ m1 = 2 ∨ m1 = 3 ∨ m1 = 4 ∨ m1 = 5 := by omega
       have hl := leftP_len m1 q1 first
       have hk := chsP_len m1
       rcases hc with rfl | rfl | rfl | rfl | rfl | rfl <;> simp_all [lastP, lastN, rNumber, vNull, IntKind.wrap_i64, Bool.cond_eq_ite]), wkc At.law20_BeforePicks (c' := (Cfg.mk (L_tsL m1 first 0 []).n (L_tsL m1 first 0 []).todo [(0, iv (↑m1 : Int)), (1, iv first), (5, AV.p 0 0), (6, AV.nl), (7, iv 0)] [Blk.box [sv (schemaOf (ByteArray.mk #[108, 111, 103])).name, AV.sl [[sv (ByteArray.mk #[110]), iv 1, bv false, bv false], [sv (ByteArray.mk #[115]), iv 3, bv false, bv false]]]])) [sc c1, sc (k_world_Schema (ByteArray.mk #[108, 111, 103]) (by first | assumption | exact short_schemas | omega | (rw [chsP_len]; omega) | exact ne_of_beq_false (by assumption) | (simp [chsP_len]; omega) | (simp; done) | (exfalso; simp_all; done) | (exfalso; simp_all; omega)))] [0, 1, 5, 6, 7] 1 (by kernel_rfl) (good_ownCut (c' := L_tsL m1 first 0 []) 6 Ty.Trigger [0, 1, 5, 6, 7] 2 (by kernel_rfl) (by kernel_rfl) (by kernel_rfl) (g2 _ (good_unroll (wkl [sb q2, skx ((tsP m1).length = (List.map Tg.cells (tsP m1)).length ∧ True ∧ (True ∧ True ∧ True) ∧ True ∧ True ∧ True ∧ True ∧ True) [] (k_before_Row__picks (m1) (by first | assumption | exact short_schemas | omega | (rw [chsP_len]; omega) | exact ne_of_beq_false (by assumption) | (simp [chsP_len]; omega) | (simp; done) | (exfalso; simp_all; done) | (exfalso; simp_all; omega)) (first)), sg (rfl : false = false), sg (rfl : false = false), si (e := IntKind.i64.wrap ((↑m1 : Int) - 1)) rfl, si (e := if 0 > IntKind.i64.wrap ((↑m1 : Int) - 1) then 0 else IntKind.i64.wrap ((↑m1 : Int) - 1)) rfl, si (e := IntKind.i64.wrap (8 - if 0 > IntKind.i64.wrap ((↑m1 : Int) - 1) then 0 else IntKind.i64.wrap ((↑m1 : Int) - 1))) rfl, sg h3, si (e := IntKind.i64.wrap ((↑m1 : Int) - 1)) rfl, si (e := if 0 > IntKind.i64.wrap ((↑m1 : Int) - 1) then 0 else IntKind.i64.wrap ((↑m1 : Int) - 1)) rfl, sb h4] [0, 1, 8, 73, 74, 75] 2 (by kernel_rfl) (g5 _ (good_unroll (wkr [sb q5_1, si (e := IntKind.i64.wrap ((↑m1 : Int) - 1)) rfl, sg h6, sc (k_world_Mod (first) ((↑m1 : Int)) (by first | assumption | exact short_schemas | omega | (rw [chsP_len]; omega) | exact ne_of_beq_false (by assumption) | (simp [chsP_len]; omega) | (simp; done) | (exfalso; simp_all; done) | (exfalso; simp_all; omega))), si (e := IntKind.i64.wrap ((↑m1 : Int) - 1)) rfl, sb h9, sd [(3, [sg h10]), (4, [so h10 (se (xs := [[iv (lastP m1 first).kind, iv (lastP m1 first).int, sv (lastP m1 first).text], [iv vNull.kind, iv vNull.int, sv vNull.text]]) (i := 0) (c := [iv (lastP m1 first).kind, iv (lastP m1 first).int, sv (lastP m1 first).text]) (n := 3) ⟨by decide, rfl, rfl⟩)]), (5, [sg h10]), (6, [sg h10]), (7, [so h10 (sc (k_ref1_Number (IntKind.i64.wrap ((↑m1 : Int) - 1))))]), (8, [so h10 (sq seq_Value)]), (11, [sb h11]), (12, [sb h11])]] (by kernel_rfl))))))))⟩
            · exact ⟨bif bif (↑m1 : Int) == (0 : Int) then true else (lastP m1 first).kind == (rNumber (IntKind.i64.wrap ((↑m1 : Int) - (1 : Int)))).kind && ((lastP m1 first).int == (rNumber (IntKind.i64.wrap ((↑m1 : Int) - (1 : Int)))).int && ((lastP m1 first).text == (rNumber (IntKind.i64.wrap ((↑m1 : Int) - (1 : Int)))).text && true)) then true else false, by first
    | rfl
    | (have hc : m1 = 0 ∨ m1 = 1 ∨ m1 = 2 ∨ m1 = 3 ∨ m1 = 4 ∨ m1 = 5 := by omega
       have hl := leftP_len m1 q1 first
       have hk := chsP_len m1
       rcases hc with rfl | rfl | rfl | rfl | rfl | rfl <;> simp_all [lastP, lastN, rNumber, vNull, IntKind.wrap_i64, Bool.cond_eq_ite]), wkc At.law20_BeforePicks (c' := (Cfg.mk (L_tsL m1 first 0 []).n (L_tsL m1 first 0 []).todo [(0, iv (↑m1 : Int)), (1, iv first), (5, AV.p 0 0), (6, AV.nl), (7, iv 0)] [Blk.box [sv (schemaOf (ByteArray.mk #[108, 111, 103])).name, AV.sl [[sv (ByteArray.mk #[110]), iv 1, bv false, bv false], [sv (ByteArray.mk #[115]), iv 3, bv false, bv false]]]])) [sc c1, sc (k_world_Schema (ByteArray.mk #[108, 111, 103]) (by first | assumption | exact short_schemas | omega | (rw [chsP_len]; omega) | exact ne_of_beq_false (by assumption) | (simp [chsP_len]; omega) | (simp; done) | (exfalso; simp_all; done) | (exfalso; simp_all; omega)))] [0, 1, 5, 6, 7] 1 (by kernel_rfl) (good_ownCut (c' := L_tsL m1 first 0 []) 6 Ty.Trigger [0, 1, 5, 6, 7] 2 (by kernel_rfl) (by kernel_rfl) (by kernel_rfl) (g2 _ (good_unroll (wkl [sb q2, skx ((tsP m1).length = (List.map Tg.cells (tsP m1)).length ∧ True ∧ (True ∧ True ∧ True) ∧ True ∧ True ∧ True ∧ True ∧ True) [] (k_before_Row__picks (m1) (by first | assumption | exact short_schemas | omega | (rw [chsP_len]; omega) | exact ne_of_beq_false (by assumption) | (simp [chsP_len]; omega) | (simp; done) | (exfalso; simp_all; done) | (exfalso; simp_all; omega)) (first)), sg (rfl : false = false), sg (rfl : false = false), si (e := IntKind.i64.wrap ((↑m1 : Int) - 1)) rfl, si (e := if 0 > IntKind.i64.wrap ((↑m1 : Int) - 1) then 0 else IntKind.i64.wrap ((↑m1 : Int) - 1)) rfl, si (e := IntKind.i64.wrap (8 - if 0 > IntKind.i64.wrap ((↑m1 : Int) - 1) then 0 else IntKind.i64.wrap ((↑m1 : Int) - 1))) rfl, sg h3, si (e := IntKind.i64.wrap ((↑m1 : Int) - 1)) rfl, si (e := if 0 > IntKind.i64.wrap ((↑m1 : Int) - 1) then 0 else IntKind.i64.wrap ((↑m1 : Int) - 1)) rfl, sb h4] [0, 1, 8, 73, 74, 75] 2 (by kernel_rfl) (g5 _ (good_unroll (wkr [sb q5_1, si (e := IntKind.i64.wrap ((↑m1 : Int) - 1)) rfl, sg h6, sc (k_world_Mod (first) ((↑m1 : Int)) (by first | assumption | exact short_schemas | omega | (rw [chsP_len]; omega) | exact ne_of_beq_false (by assumption) | (simp [chsP_len]; omega) | (simp; done) | (exfalso; simp_all; done) | (exfalso; simp_all; omega))), si (e := IntKind.i64.wrap ((↑m1 : Int) - 1)) rfl, sb h9, sd [(3, [sg h10]), (4, [so h10 (se (xs := [[iv (lastP m1 first).kind, iv (lastP m1 first).int, sv (lastP m1 first).text], [iv vNull.kind, iv vNull.int, sv vNull.text]]) (i := 0) (c := [iv (lastP m1 first).kind, iv (lastP m1 first).int, sv (lastP m1 first).text]) (n := 3) ⟨by decide, rfl, rfl⟩)]), (5, [sg h10]), (6, [sg h10]), (7, [so h10 (sc (k_ref1_Number (IntKind.i64.wrap ((↑m1 : Int) - 1))))]), (8, [so h10 (sq seq_Value)]), (11, [so h11 (sc k_law20_known)])]] (by kernel_rfl))))))))⟩
          · exact ⟨true, by first
    | rfl
    | (have hc : m1 = 0 ∨ m1 = 1 ∨ m1 = 2 ∨ m1 = 3 ∨ m1 = 4 ∨ m1 = 5 := by omega
       have hl := leftP_len m1 q1 first
       have hk := chsP_len m1
       rcases hc with rfl | rfl | rfl | rfl | rfl | rfl <;> simp_all [lastP, lastN, rNumber, vNull, IntKind.wrap_i64, Bool.cond_eq_ite]), wkc At.law20_BeforePicks (c' := (Cfg.mk (L_tsL m1 first 0 []).n (L_tsL m1 first 0 []).todo [(0, iv (↑m1 : Int)), (1, iv first), (5, AV.p 0 0), (6, AV.nl), (7, iv 0)] [Blk.box [sv (schemaOf (ByteArray.mk #[108, 111, 103])).name, AV.sl [[sv (ByteArray.mk #[110]), iv 1, bv false, bv false], [sv (ByteArray.mk #[115]), iv 3, bv false, bv false]]]])) [sc c1, sc (k_world_Schema (ByteArray.mk #[108, 111, 103]) (by first | assumption | exact short_schemas | omega | (rw [chsP_len]; omega) | exact ne_of_beq_false (by assumption) | (simp [chsP_len]; omega) | (simp; done) | (exfalso; simp_all; done) | (exfalso; simp_all; omega)))] [0, 1, 5, 6, 7] 1 (by kernel_rfl) (good_ownCut (c' := L_tsL m1 first 0 []) 6 Ty.Trigger [0, 1, 5, 6, 7] 2 (by kernel_rfl) (by kernel_rfl) (by kernel_rfl) (g2 _ (good_unroll (wkl [sb q2, skx ((tsP m1).length = (List.map Tg.cells (tsP m1)).length ∧ True ∧ (True ∧ True ∧ True) ∧ True ∧ True ∧ True ∧ True ∧ True) [] (k_before_Row__picks (m1) (by first | assumption | exact short_schemas | omega | (rw [chsP_len]; omega) | exact ne_of_beq_false (by assumption) | (simp [chsP_len]; omega) | (simp; done) | (exfalso; simp_all; done) | (exfalso; simp_all; omega)) (first)), sg (rfl : false = false), sg (rfl : false = false), si (e := IntKind.i64.wrap ((↑m1 : Int) - 1)) rfl, si (e := if 0 > IntKind.i64.wrap ((↑m1 : Int) - 1) then 0 else IntKind.i64.wrap ((↑m1 : Int) - 1)) rfl, si (e := IntKind.i64.wrap (8 - if 0 > IntKind.i64.wrap ((↑m1 : Int) - 1) then 0 else IntKind.i64.wrap ((↑m1 : Int) - 1))) rfl, sg h3, si (e := IntKind.i64.wrap ((↑m1 : Int) - 1)) rfl, si (e := if 0 > IntKind.i64.wrap ((↑m1 : Int) - 1) then 0 else IntKind.i64.wrap ((↑m1 : Int) - 1)) rfl, sb h4] [0, 1, 8, 73, 74, 75] 2 (by kernel_rfl) (g5 _ (good_unroll (wkr [sb q5_1, si (e := IntKind.i64.wrap ((↑m1 : Int) - 1)) rfl, sg h6, sc (k_world_Mod (first) ((↑m1 : Int)) (by first | assumption | exact short_schemas | omega | (rw [chsP_len]; omega) | exact ne_of_beq_false (by assumption) | (simp [chsP_len]; omega) | (simp; done) | (exfalso; simp_all; done) | (exfalso; simp_all; omega))), si (e := IntKind.i64.wrap ((↑m1 : Int) - 1)) rfl, sb h9, sd [(3, [sb h10]), (4, [sb h10]), (5, [sb h10]), (6, [sb h10]), (7, [sb h10]), (8, [sb h10]), (9, [sb h10]), (11, [sc k_law20_known])]] (by kernel_rfl))))))))⟩
        · cases h12 : (↑m1 : Int) == 0
          · cases h13 : bif (↑m1 : Int) == 0 then true else (lastP m1 first).kind == (rNumber (IntKind.i64.wrap ((↑m1 : Int) - 2))).kind && ((lastP m1 first).int == (rNumber (IntKind.i64.wrap ((↑m1 : Int) - 2))).int && ((lastP m1 first).text == (rNumber (IntKind.i64.wrap ((↑m1 : Int) - 2))).text && true))
            · exact ⟨false, by first
    | rfl
    | (have hc : m1 = 0 ∨ m1 = 1 ∨ m1 = 2 ∨ m1 = 3 ∨ m1 = 4 ∨ m1 = 5 := by omega
       have hl := leftP_len m1 q1 first
       have hk := chsP_len m1
       rcases hc with rfl | rfl | rfl | rfl | rfl | rfl <;> simp_all [lastP, lastN, rNumber, vNull, IntKind.wrap_i64, Bool.cond_eq_ite]), wkc At.law20_BeforePicks (c' := (Cfg.mk (L_tsL m1 first 0 []).n (L_tsL m1 first 0 []).todo [(0, iv (↑m1 : Int)), (1, iv first), (5, AV.p 0 0), (6, AV.nl), (7, iv 0)] [Blk.box [sv (schemaOf (ByteArray.mk #[108, 111, 103])).name, AV.sl [[sv (ByteArray.mk #[110]), iv 1, bv false, bv false], [sv (ByteArray.mk #[115]), iv 3, bv false, bv false]]]])) [sc c1, sc (k_world_Schema (ByteArray.mk #[108, 111, 103]) (by first | assumption | exact short_schemas | omega | (rw [chsP_len]; omega) | exact ne_of_beq_false (by assumption) | (simp [chsP_len]; omega) | (simp; done) | (exfalso; simp_all; done) | (exfalso; simp_all; omega)))] [0, 1, 5, 6, 7] 1 (by kernel_rfl) (good_ownCut (c' := L_tsL m1 first 0 []) 6 Ty.Trigger [0, 1, 5, 6, 7] 2 (by kernel_rfl) (by kernel_rfl) (by kernel_rfl) (g2 _ (good_unroll (wkl [sb q2, skx ((tsP m1).length = (List.map Tg.cells (tsP m1)).length ∧ True ∧ (True ∧ True ∧ True) ∧ True ∧ True ∧ True ∧ True ∧ True) [] (k_before_Row__picks (m1) (by first | assumption | exact short_schemas | omega | (rw [chsP_len]; omega) | exact ne_of_beq_false (by assumption) | (simp [chsP_len]; omega) | (simp; done) | (exfalso; simp_all; done) | (exfalso; simp_all; omega)) (first)), sg (rfl : false = false), sg (rfl : false = false), si (e := IntKind.i64.wrap ((↑m1 : Int) - 1)) rfl, si (e := if 0 > IntKind.i64.wrap ((↑m1 : Int) - 1) then 0 else IntKind.i64.wrap ((↑m1 : Int) - 1)) rfl, si (e := IntKind.i64.wrap (8 - if 0 > IntKind.i64.wrap ((↑m1 : Int) - 1) then 0 else IntKind.i64.wrap ((↑m1 : Int) - 1))) rfl, sg h3, si (e := IntKind.i64.wrap ((↑m1 : Int) - 1)) rfl, si (e := if 0 > IntKind.i64.wrap ((↑m1 : Int) - 1) then 0 else IntKind.i64.wrap ((↑m1 : Int) - 1)) rfl, sb h4] [0, 1, 8, 73, 74, 75] 2 (by kernel_rfl) (g5 _ (good_unroll (wkr [sb q5_1, si (e := IntKind.i64.wrap ((↑m1 : Int) - 1)) rfl, sg h6, sc (k_world_Mod (first) ((↑m1 : Int)) (by first | assumption | exact short_schemas | omega | (rw [chsP_len]; omega) | exact ne_of_beq_false (by assumption) | (simp [chsP_len]; omega) | (simp; done) | (exfalso; simp_all; done) | (exfalso; simp_all; omega))), si (e := IntKind.i64.wrap ((↑m1 : Int) - 1)) rfl, sb h9, si (e := IntKind.i64.wrap ((↑m1 : Int) - 2)) rfl, sd [(3, [sg h12]), (4, [so h12 (se (xs := [[iv (lastP m1 first).kind, iv (lastP m1 first).int, sv (lastP m1 first).text], [iv vNull.kind, iv vNull.int, sv vNull.text]]) (i := 0) (c := [iv (lastP m1 first).kind, iv (lastP m1 first).int, sv (lastP m1 first).text]) (n := 3) ⟨by decide, rfl, rfl⟩)]), (5, [sg h12]), (6, [sg h12]), (7, [so h12 (sc (k_ref1_Number (IntKind.i64.wrap ((↑m1 : Int) - 2))))]), (8, [so h12 (sq seq_Value)]), (11, [sb h13]), (12, [sb h13])]] (by kernel_rfl))))))))⟩
            · exact ⟨bif bif (↑m1 : Int) == (0 : Int) then true else (lastP m1 first).kind == (rNumber (IntKind.i64.wrap ((↑m1 : Int) - (2 : Int)))).kind && ((lastP m1 first).int == (rNumber (IntKind.i64.wrap ((↑m1 : Int) - (2 : Int)))).int && ((lastP m1 first).text == (rNumber (IntKind.i64.wrap ((↑m1 : Int) - (2 : Int)))).text && true)) then true else false, by first
    | rfl
    | (have hc : m1 = 0 ∨ m1 = 1 ∨ m1 = 2 ∨ m1 = 3 ∨ m1 = 4 ∨ m1 = 5 := by omega
       have hl := leftP_len m1 q1 first
       have hk := chsP_len m1
       rcases hc with rfl | rfl | rfl | rfl | rfl | rfl <;> simp_all [lastP, lastN, rNumber, vNull, IntKind.wrap_i64, Bool.cond_eq_ite]), wkc At.law20_BeforePicks (c' := (Cfg.mk (L_tsL m1 first 0 []).n (L_tsL m1 first 0 []).todo [(0, iv (↑m1 : Int)), (1, iv first), (5, AV.p 0 0), (6, AV.nl), (7, iv 0)] [Blk.box [sv (schemaOf (ByteArray.mk #[108, 111, 103])).name, AV.sl [[sv (ByteArray.mk #[110]), iv 1, bv false, bv false], [sv (ByteArray.mk #[115]), iv 3, bv false, bv false]]]])) [sc c1, sc (k_world_Schema (ByteArray.mk #[108, 111, 103]) (by first | assumption | exact short_schemas | omega | (rw [chsP_len]; omega) | exact ne_of_beq_false (by assumption) | (simp [chsP_len]; omega) | (simp; done) | (exfalso; simp_all; done) | (exfalso; simp_all; omega)))] [0, 1, 5, 6, 7] 1 (by kernel_rfl) (good_ownCut (c' := L_tsL m1 first 0 []) 6 Ty.Trigger [0, 1, 5, 6, 7] 2 (by kernel_rfl) (by kernel_rfl) (by kernel_rfl) (g2 _ (good_unroll (wkl [sb q2, skx ((tsP m1).length = (List.map Tg.cells (tsP m1)).length ∧ True ∧ (True ∧ True ∧ True) ∧ True ∧ True ∧ True ∧ True ∧ True) [] (k_before_Row__picks (m1) (by first | assumption | exact short_schemas | omega | (rw [chsP_len]; omega) | exact ne_of_beq_false (by assumption) | (simp [chsP_len]; omega) | (simp; done) | (exfalso; simp_all; done) | (exfalso; simp_all; omega)) (first)), sg (rfl : false = false), sg (rfl : false = false), si (e := IntKind.i64.wrap ((↑m1 : Int) - 1)) rfl, si (e := if 0 > IntKind.i64.wrap ((↑m1 : Int) - 1) then 0 else IntKind.i64.wrap ((↑m1 : Int) - 1)) rfl, si (e := IntKind.i64.wrap (8 - if 0 > IntKind.i64.wrap ((↑m1 : Int) - 1) then 0 else IntKind.i64.wrap ((↑m1 : Int) - 1))) rfl, sg h3, si (e := IntKind.i64.wrap ((↑m1 : Int) - 1)) rfl, si (e := if 0 > IntKind.i64.wrap ((↑m1 : Int) - 1) then 0 else IntKind.i64.wrap ((↑m1 : Int) - 1)) rfl, sb h4] [0, 1, 8, 73, 74, 75] 2 (by kernel_rfl) (g5 _ (good_unroll (wkr [sb q5_1, si (e := IntKind.i64.wrap ((↑m1 : Int) - 1)) rfl, sg h6, sc (k_world_Mod (first) ((↑m1 : Int)) (by first | assumption | exact short_schemas | omega | (rw [chsP_len]; omega) | exact ne_of_beq_false (by assumption) | (simp [chsP_len]; omega) | (simp; done) | (exfalso; simp_all; done) | (exfalso; simp_all; omega))), si (e := IntKind.i64.wrap ((↑m1 : Int) - 1)) rfl, sb h9, si (e := IntKind.i64.wrap ((↑m1 : Int) - 2)) rfl, sd [(3, [sg h12]), (4, [so h12 (se (xs := [[iv (lastP m1 first).kind, iv (lastP m1 first).int, sv (lastP m1 first).text], [iv vNull.kind, iv vNull.int, sv vNull.text]]) (i := 0) (c := [iv (lastP m1 first).kind, iv (lastP m1 first).int, sv (lastP m1 first).text]) (n := 3) ⟨by decide, rfl, rfl⟩)]), (5, [sg h12]), (6, [sg h12]), (7, [so h12 (sc (k_ref1_Number (IntKind.i64.wrap ((↑m1 : Int) - 2))))]), (8, [so h12 (sq seq_Value)]), (11, [so h13 (sc k_law20_known)])]] (by kernel_rfl))))))))⟩
          · exact ⟨true, by first
    | rfl
    | (have hc : m1 = 0 ∨ m1 = 1 ∨ m1 = 2 ∨ m1 = 3 ∨ m1 = 4 ∨ m1 = 5 := by omega
       have hl := leftP_len m1 q1 first
       have hk := chsP_len m1
       rcases hc with rfl | rfl | rfl | rfl | rfl | rfl <;> simp_all [lastP, lastN, rNumber, vNull, IntKind.wrap_i64, Bool.cond_eq_ite]), wkc At.law20_BeforePicks (c' := (Cfg.mk (L_tsL m1 first 0 []).n (L_tsL m1 first 0 []).todo [(0, iv (↑m1 : Int)), (1, iv first), (5, AV.p 0 0), (6, AV.nl), (7, iv 0)] [Blk.box [sv (schemaOf (ByteArray.mk #[108, 111, 103])).name, AV.sl [[sv (ByteArray.mk #[110]), iv 1, bv false, bv false], [sv (ByteArray.mk #[115]), iv 3, bv false, bv false]]]])) [sc c1, sc (k_world_Schema (ByteArray.mk #[108, 111, 103]) (by first | assumption | exact short_schemas | omega | (rw [chsP_len]; omega) | exact ne_of_beq_false (by assumption) | (simp [chsP_len]; omega) | (simp; done) | (exfalso; simp_all; done) | (exfalso; simp_all; omega)))] [0, 1, 5, 6, 7] 1 (by kernel_rfl) (good_ownCut (c' := L_tsL m1 first 0 []) 6 Ty.Trigger [0, 1, 5, 6, 7] 2 (by kernel_rfl) (by kernel_rfl) (by kernel_rfl) (g2 _ (good_unroll (wkl [sb q2, skx ((tsP m1).length = (List.map Tg.cells (tsP m1)).length ∧ True ∧ (True ∧ True ∧ True) ∧ True ∧ True ∧ True ∧ True ∧ True) [] (k_before_Row__picks (m1) (by first | assumption | exact short_schemas | omega | (rw [chsP_len]; omega) | exact ne_of_beq_false (by assumption) | (simp [chsP_len]; omega) | (simp; done) | (exfalso; simp_all; done) | (exfalso; simp_all; omega)) (first)), sg (rfl : false = false), sg (rfl : false = false), si (e := IntKind.i64.wrap ((↑m1 : Int) - 1)) rfl, si (e := if 0 > IntKind.i64.wrap ((↑m1 : Int) - 1) then 0 else IntKind.i64.wrap ((↑m1 : Int) - 1)) rfl, si (e := IntKind.i64.wrap (8 - if 0 > IntKind.i64.wrap ((↑m1 : Int) - 1) then 0 else IntKind.i64.wrap ((↑m1 : Int) - 1))) rfl, sg h3, si (e := IntKind.i64.wrap ((↑m1 : Int) - 1)) rfl, si (e := if 0 > IntKind.i64.wrap ((↑m1 : Int) - 1) then 0 else IntKind.i64.wrap ((↑m1 : Int) - 1)) rfl, sb h4] [0, 1, 8, 73, 74, 75] 2 (by kernel_rfl) (g5 _ (good_unroll (wkr [sb q5_1, si (e := IntKind.i64.wrap ((↑m1 : Int) - 1)) rfl, sg h6, sc (k_world_Mod (first) ((↑m1 : Int)) (by first | assumption | exact short_schemas | omega | (rw [chsP_len]; omega) | exact ne_of_beq_false (by assumption) | (simp [chsP_len]; omega) | (simp; done) | (exfalso; simp_all; done) | (exfalso; simp_all; omega))), si (e := IntKind.i64.wrap ((↑m1 : Int) - 1)) rfl, sb h9, si (e := IntKind.i64.wrap ((↑m1 : Int) - 2)) rfl, sd [(3, [sb h12]), (4, [sb h12]), (5, [sb h12]), (6, [sb h12]), (7, [sb h12]), (8, [sb h12]), (9, [sb h12]), (11, [sc k_law20_known])]] (by kernel_rfl))))))))⟩
    · exact ⟨false, by first
    | rfl
    | (have hc : m1 = 0 ∨ m1 = 1 ∨ m1 = 2 ∨ m1 = 3 ∨ m1 = 4 ∨ m1 = 5 := by omega
       have hl := leftP_len m1 q1 first
       have hk := chsP_len m1
       rcases hc with rfl | rfl | rfl | rfl | rfl | rfl <;> simp_all [lastP, lastN, rNumber, vNull, IntKind.wrap_i64, Bool.cond_eq_ite]), wkc At.law20_BeforePicks (c' := (Cfg.mk (L_tsL m1 first 0 []).n (L_tsL m1 first 0 []).todo [(0, iv (↑m1 : Int)), (1, iv first), (5, AV.p 0 0), (6, AV.nl), (7, iv 0)] [Blk.box [sv (schemaOf (ByteArray.mk #[108, 111, 103])).name, AV.sl [[sv (ByteArray.mk #[110]), iv 1, bv false, bv false], [sv (ByteArray.mk #[115]), iv 3, bv false, bv false]]]])) [sc c1, sc (k_world_Schema (ByteArray.mk #[108, 111, 103]) (by first | assumption | exact short_schemas | omega | (rw [chsP_len]; omega) | exact ne_of_beq_false (by assumption) | (simp [chsP_len]; omega) | (simp; done) | (exfalso; simp_all; done) | (exfalso; simp_all; omega)))] [0, 1, 5, 6, 7] 1 (by kernel_rfl) (good_ownCut (c' := L_tsL m1 first 0 []) 6 Ty.Trigger [0, 1, 5, 6, 7] 2 (by kernel_rfl) (by kernel_rfl) (by kernel_rfl) (g2 _ (good_unroll (wkr [sb q2, skx ((tsP m1).length = (List.map Tg.cells (tsP m1)).length ∧ True ∧ (True ∧ True ∧ True) ∧ True ∧ True ∧ True ∧ True ∧ True) [] (k_before_Row__picks (m1) (by first | assumption | exact short_schemas | omega | (rw [chsP_len]; omega) | exact ne_of_beq_false (by assumption) | (simp [chsP_len]; omega) | (simp; done) | (exfalso; simp_all; done) | (exfalso; simp_all; omega)) (first)), sg (rfl : false = false), sg (rfl : false = false), si (e := IntKind.i64.wrap ((↑m1 : Int) - 1)) rfl, si (e := if 0 > IntKind.i64.wrap ((↑m1 : Int) - 1) then 0 else IntKind.i64.wrap ((↑m1 : Int) - 1)) rfl, si (e := IntKind.i64.wrap (8 - if 0 > IntKind.i64.wrap ((↑m1 : Int) - 1) then 0 else IntKind.i64.wrap ((↑m1 : Int) - 1))) rfl, sg h3, si (e := IntKind.i64.wrap ((↑m1 : Int) - 1)) rfl, si (e := if 0 > IntKind.i64.wrap ((↑m1 : Int) - 1) then 0 else IntKind.i64.wrap ((↑m1 : Int) - 1)) rfl, sb h4] (by kernel_rfl)))))⟩
  · exact ⟨false, by first
    | rfl
    | (have hc : m1 = 0 ∨ m1 = 1 ∨ m1 = 2 ∨ m1 = 3 ∨ m1 = 4 ∨ m1 = 5 := by omega
       have hl := leftP_len m1 q1 first
       have hk := chsP_len m1
       rcases hc with rfl | rfl | rfl | rfl | rfl | rfl <;> simp_all [lastP, lastN, rNumber, vNull, IntKind.wrap_i64, Bool.cond_eq_ite]), wkc At.law20_BeforePicks (c' := (Cfg.mk (L_tsL m1 first 0 []).n (L_tsL m1 first 0 []).todo [(0, iv (↑m1 : Int)), (1, iv first), (5, AV.p 0 0), (6, AV.nl), (7, iv 0)] [Blk.box [sv (schemaOf (ByteArray.mk #[108, 111, 103])).name, AV.sl [[sv (ByteArray.mk #[110]), iv 1, bv false, bv false], [sv (ByteArray.mk #[115]), iv 3, bv false, bv false]]]])) [sc c1, sc (k_world_Schema (ByteArray.mk #[108, 111, 103]) (by first | assumption | exact short_schemas | omega | (rw [chsP_len]; omega) | exact ne_of_beq_false (by assumption) | (simp [chsP_len]; omega) | (simp; done) | (exfalso; simp_all; done) | (exfalso; simp_all; omega)))] [0, 1, 5, 6, 7] 1 (by kernel_rfl) (good_ownCut (c' := L_tsL m1 first 0 []) 6 Ty.Trigger [0, 1, 5, 6, 7] 2 (by kernel_rfl) (by kernel_rfl) (by kernel_rfl) (g2 _ (good_unroll (wkr [sb q2, skx ((tsP m1).length = (List.map Tg.cells (tsP m1)).length ∧ True ∧ (True ∧ True ∧ True) ∧ True ∧ True ∧ True ∧ True ∧ True) [] (k_before_Row__picks (m1) (by first | assumption | exact short_schemas | omega | (rw [chsP_len]; omega) | exact ne_of_beq_false (by assumption) | (simp [chsP_len]; omega) | (simp; done) | (exfalso; simp_all; done) | (exfalso; simp_all; omega)) (first)), sg (rfl : false = false), sg (rfl : false = false), si (e := IntKind.i64.wrap ((↑m1 : Int) - 1)) rfl, si (e := if 0 > IntKind.i64.wrap ((↑m1 : Int) - 1) then 0 else IntKind.i64.wrap ((↑m1 : Int) - 1)) rfl, si (e := IntKind.i64.wrap (8 - if 0 > IntKind.i64.wrap ((↑m1 : Int) - 1) then 0 else IntKind.i64.wrap ((↑m1 : Int) - 1))) rfl, sb h3] (by kernel_rfl)))))⟩
end Go.AM

namespace Go.AM
open Go.RowKit
set_option linter.unusedSimpArgs false
set_option linter.unusedVariables false
/-- All that lies in memory. -/
abbrev old (W : World) : Addr → Prop := fun a => a.block < W.heap.size
/-- The call, in any memory. -/
theorem calls_of {f : FuncId} {args : List AV} {b : Bool} (h : ACallsTo E0 f args [] (bv b) []) (hgo : GoFn E0.P f) {W : World} {vs : List Value} (hglob : ∀ g cs, globs g = some cs → RelD W (old W) (.dp cs) (.pointer (some ⟨g, 0, none⟩))) (hargs : PW (RelV E0.T [] [] W (old W)) args vs) :
    Calls E0.P f vs.toArray W fun e W' => e = .returned (.bool b) ∧ Below W.heap.size W W' := by
  have hrel : Rel E0 [] [] (old W) W := ⟨rfl, fun b cs hb => by simp at hb, fun b e xs sh hb => by simp at hb, fun b b' k k' g hb => by simp at hb, fun b k g hb => by simp at hb, fun a ha => ha, fun b k g a hb => by simp at hb, hglob⟩
  obtain ⟨fn, hf1, hf2, hf3⟩ := hgo
  have hp : ∀ e W', Post E0 [] [] (old W) W (fun r' h'' => r' = bv b ∧ h'' = []) e W' → e = .returned (.bool b) ∧ Below W.heap.size W W' := by
    rintro e W' ⟨r, h', β', S', y, rfl, ⟨rfl, rfl⟩, _, ex, rv⟩
    refine ⟨?_, ex.os, ex.tape, ex.output, ex.size, fun k hk => ex.keep k hk fun b' k' hb => by simp at hb⟩
    rw [rv.v_inv]
  rcases h [] (old W) W vs hrel hargs with ⟨_, hc⟩ | ⟨y, w', hrun, _⟩
  · exact hc.mono hp
  · exfalso
    simp only [callFunc, Sem.run_bind, Sem.run_pure, Result.andThen_ok, run_program, hf1, hf2, hf3, Bool.false_eq_true, if_false] at hrun
    cases hrun
end Go.AM
