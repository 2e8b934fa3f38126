/-
  The walk of EvaluateTyped.
-/
import Derived.Test.YtkibinkahpgboaaDoorUEc
namespace Go.AM
set_option maxRecDepth 100000
set_option maxHeartbeats 1000000
set_option linter.unusedSimpArgs false
set_option linter.unusedVariables false
noncomputable def runFK (fn : Func) (args : List AV) (h : Heap) (os : List Orc) : Option (List Prop × AV × Heap) :=
  match fn.body, (fn.name == "runtime.NumGoroutine"), Nat.ble args.length fn.ntmps with
  | some c, false, true => finK (mk E0) fn 3000 ⟨fn.ntmps, [.code c], argTS 0 args, h⟩ os
  | _, _, _ => none
/-- The whole run, the result kept as it stands. -/
theorem wkK {f : FuncId} {fn : Func} {args : List AV} {h H : Heap} {r : AV} (hf : E0.P.funcs[f]? = some fn) (l : List St) (hfin : runFK fn args h (orcs l) = some (props l, r, H)) : ACallsTo E0 f args h r H := by
  unfold runFK at hfin
  split at hfin
  · rename_i c hb hn ha
    exact acalls_finK E0ok mix0 hf hb hn ha 3000 (orcs l) hfin (allP_props l) ⟨rfl, rfl⟩
  · cases hfin
def pickS (l : List (Nat × List St)) (i : Nat) : List St := match l with
  | [] => []
  | (j, s) :: r => match Nat.beq j i with
    | true => s
    | false => pickS r i
def pickL (l : List (Nat × List St)) : List Nat → List St
  | [] => []
  | i :: r => pickS l i ++ pickL l r
def sameO (l : List (Nat × List St)) (ts : TS) (h : Heap) : List (List Nat) → Prop
  | [] => True
  | o :: r => (allP (props (pickL l o)) ∧ ts = ts ∧ h = h) ∧ sameO l ts h r
theorem sameO_ok (l : List (Nat × List St)) (ts : TS) (h : Heap) : ∀ o, sameO l ts h o
  | [] => trivial
  | _ :: r => ⟨⟨allP_props _, rfl, rfl⟩, sameO_ok l ts h r⟩
/-- a region that draws its order, where these further orders come to the same -/
def sdp (l : List (Nat × List St)) (os : List (List Nat)) (ts : TS) (h : Heap) : St := ⟨[.draw (drawO l)], [allP (props (drawP l)) ∧ sameO l ts h os], ⟨allP_props _, sameO_ok l ts h os⟩⟩
theorem tp_take (l : List Int) (h : (l.take 500).length ≤ 500) : Tp.cells ⟨l.take 500, 0, h⟩ = [.sl (((l.map fun n => [iv n]).take 500).drop 0), iv 0] := by simp [Tp.cells, List.map_take]
theorem x_world_New (l : List Int) : ∃ (t : Tp), ACallsTo E0 S.world_New [isl l] [] (.p 0 0) [.box t.cells] := by
  cases h1 : decide ((500 : Int) < (((l.map fun n => [iv n]).length : Nat) : Int))
  · exact ⟨⟨l, 0, by simp at h1; omega⟩, wkK At.world_New [sb h1] (by kernel_rfl)⟩
  · refine ⟨⟨l.take 500, 0, by simp; omega⟩, ?_⟩
    rw [tp_take]
    exact wkK At.world_New [sb h1, sq (show SubAt (l.map fun n => [iv n]) 0 500 1 from ⟨by decide, by decide, by simpa using Int.le_of_lt (by simpa using h1), by simp⟩)] (by kernel_rfl)
/-- Frames whose rows fit their columns. -/
structure FsT (frs : List Fr) : Prop where
  len : frs.length ≤ 900
  rows : ∀ f ∈ frs, RowOk f.cols f.vals
  few : ∀ f ∈ frs, Few f.cols
def schT : Sch := ⟨⟨#[116]⟩, [⟨⟨#[105, 100]⟩, 1, true, true⟩, ⟨⟨#[110]⟩, 1, false, false⟩, ⟨⟨#[98]⟩, 2, false, false⟩, ⟨⟨#[115]⟩, 3, false, false⟩]⟩
theorem schT_eq : schemaOf ⟨#[116]⟩ = schT := by kernel_rfl
theorem schT_ok : SchOk schT := schOk_of (by simp [schemas, schT])
theorem k_world_Schema__t : ACallsTo E0 S.world_Schema [sv ⟨#[116]⟩] [] schT.av [] := by
  have := k_world_Schema ⟨#[116]⟩ short_schemas
  rw [schT_eq] at this; exact this
theorem fsT_of {a b : List V} (ha : RowOk schT.cols a) (hb : RowOk schT.cols b) : FsT [Fr.mk (ByteArray.mk #[79, 76, 68]) true schT.cols (vcopy a), Fr.mk (ByteArray.mk #[78, 69, 87]) true schT.cols (vcopy b)] := by
  refine ⟨by simp, fun f hf => ?_, fun f hf => ?_⟩ <;> (simp only [List.mem_cons, List.not_mem_nil, or_false] at hf; rcases hf with rfl | rfl)
  · exact ha
  · exact hb
  · exact schT_ok.few
  · exact schT_ok.few
theorem row_short {a : List V} (h : RowOk schT.cols a) : Short a := by have := h.len; simp only [Short]; rw [this]; decide
theorem x_law15_frames (t : Tp)  : ∃ (r : List Fr) (t' : Tp), FsT r ∧ ACallsTo E0 S.law15_frames [.p 0 0] [.box t.cells] (fsl r) [.box t'.cells] := by
  obtain ⟨r1, t1, q1, c1⟩ := (x_world_Tape_Row (t) (schT) (by first | assumption | exact schT_ok.short | exact schT_ok.cols | exact row_short (by assumption)) (by first | assumption | exact schT_ok.short | exact schT_ok.cols | exact row_short (by assumption)))
  obtain ⟨r2, t2, q2, c2⟩ := (x_world_Tape_Row (t1) (schT) (by first | assumption | exact schT_ok.short | exact schT_ok.cols | exact row_short (by assumption)) (by first | assumption | exact schT_ok.short | exact schT_ok.cols | exact row_short (by assumption)))
  exact ⟨[Fr.mk (ByteArray.mk #[79, 76, 68]) true schT.cols (vcopy r1), Fr.mk (ByteArray.mk #[78, 69, 87]) true schT.cols (vcopy r2)], t2, by exact fsT_of (by assumption) (by assumption), (by (try simp only [X.av, Qy.av, V.av, Tb.av, Sch.av, Pl.av, xsl, fsl, vsl, tsl, List.map_append, List.map_cons, List.map_nil, V.cells, Col.cells, Rw.cells, Tb.cells, Fr.cells, Sch.cells, Pl.cells, cellsX_app, cellsX_cons, cellsX_nil, cellsQ_cons, cellsQ_nil, X.cells, Qy.cells, X.args_mk, X.sub_mk, Qy.items_mk, Qy.wh_mk, xCol, xLit, xBin, xNeg]); exact wk At.law15_frames [sc k_world_Schema__t, sd [(4, [sl [0] c1]), (7, [sl [0] c2]), (8, [sc (k_ref17_Frames (Tg.mk (ByteArray.mk #[]) (ByteArray.mk #[]) false 2 [] true [] [] [] [] []) (schT) (r1) (r2) (by first | assumption | exact schT_ok.short | exact schT_ok.cols | exact row_short (by assumption)) (by first | assumption | exact schT_ok.short | exact schT_ok.cols | exact row_short (by assumption)) (by first | assumption | exact schT_ok.short | exact schT_ok.cols | exact row_short (by assumption)))])]] (by kernel_rfl))⟩
def rNumber (n : Int) : V :=
  V.mk 1 n (ByteArray.mk #[])
theorem k_ref1_Number (n : Int)  : ACallsTo E0 S.ref1_Number [iv n] [] ((rNumber n).av) [] := by
  exact wk At.ref1_Number [] (by kernel_rfl)
theorem k_ref1_Truth (b : Bool) : ACallsTo E0 S.ref1_Truth [bv b] [] (V.av ⟨2, if b then 1 else 0, ⟨#[]⟩⟩) [] := by
  cases b
  · exact wk At.ref1_Truth [sb (rfl : false = false)] (by kernel_rfl)
  · exact wk At.ref1_Truth [sb (rfl : true = true)] (by kernel_rfl)
def kn : List Int := [9223372036854775807, 1, -1]
def schLog : Sch := ⟨⟨#[108, 111, 103]⟩, [⟨⟨#[110]⟩, 1, false, false⟩, ⟨⟨#[115]⟩, 3, false, false⟩]⟩
theorem schLog_eq : schemaOf ⟨#[108, 111, 103]⟩ = schLog := by kernel_rfl
theorem k_world_Schema__log : ACallsTo E0 S.world_Schema [sv ⟨#[108, 111, 103]⟩] [] schLog.av [] := by
  have := k_world_Schema ⟨#[108, 111, 103]⟩ short_schemas
  rw [schLog_eq] at this; exact this
def knRows : List Rw := [⟨1, [⟨1, 9223372036854775807, ⟨#[]⟩⟩, ⟨0, 0, ⟨#[]⟩⟩]⟩, ⟨2, [⟨1, 1, ⟨#[]⟩⟩, ⟨0, 0, ⟨#[]⟩⟩]⟩, ⟨3, [⟨1, -1, ⟨#[]⟩⟩, ⟨0, 0, ⟨#[]⟩⟩]⟩]
theorem kn_step {i : Nat} {x : Int} {rows : List Rw} (hx : kn[i]? = some x) (h : rows = knRows.take i) : rows ++ [⟨((i + 1 : Nat) : Int), [rNumber x, ⟨0, 0, ⟨#[]⟩⟩]⟩] = knRows.take (i + 1) := by
  have := at_lt hx
  simp only [kn, List.length_cons, List.length_nil] at this
  have h3 : i = 0 ∨ i = 1 ∨ i = 2 := by omega
  subst h
  rcases h3 with rfl | rfl | rfl <;> (simp [kn] at hx; subst hx; rfl)
noncomputable def L_kn  (i : Nat) (rows : List Rw) : Cfg := loopAt B.law15_known 0 [(1, .p 0 0), (10, isl kn), (11, iv ((kn.map fun n => [iv n]).length : Nat)), (12, iv (i : Nat))] [.box [sv schLog.name, .sl (schLog.cols.map Col.cells), iv 4, .own 1 rows.length], .row Ty.Row (rows.map Rw.cells) false]
theorem x_law15_known__kn_loop   (i : Nat) (rows : List Rw) (hi : i ≤ (kn).length) (hI : rows = knRows.take i) : ∃ (rows' : List Rw), (rows' = knRows.take (kn).length) ∧ (decide ((((kn).length : Nat) : Int) < (((kn.map fun n => [iv n]).length : Nat) : Int)) = false) ∧ ∀ R, Good E0 B.law15_known [] (L_kn  (kn).length rows') R → Good E0 B.law15_known [] (L_kn  i rows) R := by
  obtain ⟨kk, hk⟩ : ∃ kk, i + kk = (kn).length := ⟨(kn).length - i, by omega⟩
  induction kk generalizing i rows with
  | zero =>
    have e0 : i = (kn).length := by omega
    subst e0
    exact ⟨rows, hI, by simp, fun R hg => hg⟩
  | succ kk ih =>
    obtain ⟨x, hx⟩ := ex_at (l := kn) (i := i) (by omega)
    have h0 : decide (((i : Nat) : Int) < (((kn.map fun n => [iv n]).length : Nat) : Int)) = true := by simp; omega
    have hw : IntKind.i64.wrap (((i : Nat) : Int) + 1) = ((i + 1 : Nat) : Int) := wrap_nat i (by have := at_lt hx; simp only [kn, List.length_cons, List.length_nil] at this; omega)
    have hrl : rows.length ≤ 3 := by rw [hI, List.length_take]; exact Nat.le_trans (Nat.min_le_right _ _) (by decide)
    obtain ⟨rowsZ, qZ, xZ, gZ⟩ := ih (i + 1) (rows ++ [Rw.mk (↑(i + 1) : Int) [rNumber x, V.mk 0 0 (ByteArray.mk #[])]]) (by omega) (by exact kn_step hx hI) (by omega); exact ⟨rowsZ, qZ, xZ, fun R hg => good_unroll (wkl (c' := (Cfg.mk (L_kn (i + 1) (rows ++ [Rw.mk (↑(i + 1) : Int) [rNumber x, V.mk 0 0 (ByteArray.mk #[])]])).n (L_kn (i + 1) (rows ++ [Rw.mk (↑(i + 1) : Int) [rNumber x, V.mk 0 0 (ByteArray.mk #[])]])).todo [(1, AV.p 0 0), (10, AV.sl (List.map (fun n => [iv n]) kn)), (11, iv (↑(List.map (fun n => [iv n]) kn).length : Int)), (12, iv (↑(i + 1) : Int))] [Blk.box [sv schLog.name, AV.sl [[sv (ByteArray.mk #[110]), iv 1, bv false, bv false], [sv (ByteArray.mk #[115]), iv 3, bv false, bv false]], iv 4, AV.own 1 (List.map Rw.cells rows ++ [[iv (↑(i + 1) : Int), AV.sl [[iv (rNumber x).kind, iv (rNumber x).int, sv (rNumber x).text], [iv 0, iv 0, sv (ByteArray.mk #[])]]]]).length], Blk.row 69 (List.map Rw.cells rows ++ [[iv (↑(i + 1) : Int), AV.sl [[iv (rNumber x).kind, iv (rNumber x).int, sv (rNumber x).text], [iv 0, iv 0, sv (ByteArray.mk #[])]]]]) false])) [sb h0, se (elAt_map (fun n => [iv n]) hx rfl), sd [(3, [si hw]), (5, [sc (k_ref1_Number (x))]), (10, [sqx (AllLen [[iv (↑(i + 1) : Int), AV.sl [[iv (rNumber x).kind, iv (rNumber x).int, sv (rNumber x).text], [iv 0, iv 0, sv (ByteArray.mk #[])]]]] 2 ∧ rows.length = (List.map Rw.cells rows).length ∧ (((List.map Rw.cells rows).length + [[iv (↑(i + 1) : Int), AV.sl [[iv (rNumber x).kind, iv (rNumber x).int, sv (rNumber x).text], [iv 0, iv 0, sv (ByteArray.mk #[])]]]].length) * 32).le 140737488355328)])], si hw] [1, 10, 11, 12] 2 (by kernel_rfl) (good_same (show ([(1, AV.p 0 0), (10, AV.sl (List.map (fun n => [iv n]) kn)), (11, iv (↑(List.map (fun n => [iv n]) kn).length : Int)), (12, iv (↑(i + 1) : Int))] : TS) = [(1, AV.p 0 0), (10, AV.sl (List.map (fun n => [iv n]) kn)), (11, iv (↑(List.map (fun n => [iv n]) kn).length : Int)), (12, iv (↑(i + 1) : Int))] by first | rfl | (simp; done) | (simp [X.cells, Qy.cells, V.cells, Col.cells, Rw.cells, Tb.cells, Fr.cells, Sch.cells, Tp.cells, Pl.cells, xCol, xLit, xBin, xNeg]; done)) (show ([Blk.box [sv schLog.name, AV.sl [[sv (ByteArray.mk #[110]), iv 1, bv false, bv false], [sv (ByteArray.mk #[115]), iv 3, bv false, bv false]], iv 4, AV.own 1 (List.map Rw.cells rows ++ [[iv (↑(i + 1) : Int), AV.sl [[iv (rNumber x).kind, iv (rNumber x).int, sv (rNumber x).text], [iv 0, iv 0, sv (ByteArray.mk #[])]]]]).length], Blk.row 69 (List.map Rw.cells rows ++ [[iv (↑(i + 1) : Int), AV.sl [[iv (rNumber x).kind, iv (rNumber x).int, sv (rNumber x).text], [iv 0, iv 0, sv (ByteArray.mk #[])]]]]) false] : Heap) = [Blk.box [sv schLog.name, AV.sl [[sv (ByteArray.mk #[110]), iv 1, bv false, bv false], [sv (ByteArray.mk #[115]), iv 3, bv false, bv false]], iv 4, AV.own 1 (rows ++ [Rw.mk (↑(i + 1) : Int) [rNumber x, V.mk 0 0 (ByteArray.mk #[])]]).length], Blk.row 69 (List.map Rw.cells (rows ++ [Rw.mk (↑(i + 1) : Int) [rNumber x, V.mk 0 0 (ByteArray.mk #[])]])) false] by first | rfl | (simp; done) | (simp [X.cells, Qy.cells, V.cells, Col.cells, Rw.cells, Tb.cells, Fr.cells, Sch.cells, Tp.cells, Pl.cells, xCol, xLit, xBin, xNeg]; done)) (gZ R hg)))⟩
def knE1 : X := X.mk 10 0 false ⟨0, 0, ⟨#[]⟩⟩ ⟨#[]⟩ ⟨#[]⟩ [] [Qy.mk false [xCol ⟨#[]⟩ ⟨#[110]⟩] ⟨#[108, 111, 103]⟩ []]
def knE2 : X := xBin 2 (xLit ⟨2, 0, ⟨#[]⟩⟩) (xBin 3 (xBin 12 (xLit ⟨1, 1, ⟨#[]⟩⟩) (xLit ⟨1, 0, ⟨#[]⟩⟩)) (xLit ⟨1, 1, ⟨#[]⟩⟩))
theorem c_known  (h1 : ∀ rows : List Rw, rows = knRows.take kn.length → Pure S.evaluate_Value [knE1.av, fsl [], tsl [⟨schLog, 4, rows⟩]] (.tup [V.av ⟨1, 9223372036854775807, ⟨#[]⟩⟩, iv 0])) (h2 : Pure S.evaluate_Value [knE2.av, fsl [], tsl []] (.tup [V.av ⟨0, 0, ⟨#[]⟩⟩, iv 7])) : ∃ (b : Bool), b = true ∧ ACallsTo E0 S.law15_known [] [] (bv b) [] := by
  obtain ⟨rows1, q1, q1_1, g1⟩ := x_law15_known__kn_loop (0) ([]) (by first | assumption | (simp; done) | rfl) (by first | assumption | (simp; done) | rfl)
  exact ⟨bif bif (0 : Int) == (0 : Int) then (1 : Int) == (rNumber (9223372036854775807 : Int)).kind && ((9223372036854775807 : Int) == (rNumber (9223372036854775807 : Int)).int && (ByteArray.mk #[] == (rNumber (9223372036854775807 : Int)).text && true)) else false then (7 : Int) == (7 : Int) else false, by first | assumption | trivial | (simp; done) | omega | (simp; omega) | (simp at *; omega), wkc At.law15_known (c' := (Cfg.mk (L_kn 0 []).n (L_kn 0 []).todo [(1, AV.p 0 0), (10, AV.sl [[iv 9223372036854775807], [iv 1], [iv (-1)]]), (11, iv (↑[[iv 9223372036854775807], [iv 1], [iv (-1)]].length : Int)), (12, iv 0)] [Blk.box [sv schLog.name, AV.sl [[sv (ByteArray.mk #[110]), iv 1, bv false, bv false], [sv (ByteArray.mk #[115]), iv 3, bv false, bv false]], iv 4, AV.nl]])) [sc k_world_Schema__log] [1, 10, 11, 12] 1 (by kernel_rfl) (good_ownBoxCut (c' := L_kn 0 []) (cs := [sv schLog.name, AV.sl [[sv (ByteArray.mk #[110]), iv 1, bv false, bv false], [sv (ByteArray.mk #[115]), iv 3, bv false, bv false]], iv 4, AV.nl]) 0 3 Ty.Row [1, 10, 11, 12] 2 (by kernel_rfl) (by kernel_rfl) (by kernel_rfl) (by kernel_rfl) (g1 _ (good_unroll (wkr [sb (rfl : false = false), sdp [(0, [sc (k_world_Col (ByteArray.mk #[]) (ByteArray.mk #[110]))]), (6, [sqx (True ∧ True ∧ True ∧ rows1.length = (List.map Rw.cells rows1).length ∧ True)]), (7, [sc (h1 (rows1) (by first | assumption | (simp; done) | rfl))])] [[0, 6, 7], [0, 6, 7], [6, 0, 7], [6, 0, 7], [6, 0, 7], [0, 6, 7], [6, 0, 7]] [(1, AV.p 0 0), (4, AV.p 2 0), (5, iv 0), (10, AV.sl (List.map (fun n => [iv n]) kn)), (11, iv (↑(List.map (fun n => [iv n]) kn).length : Int)), (12, iv (↑kn.length : Int)), (13, AV.bl false), (30, AV.tup [AV.agg [iv 1, iv 9223372036854775807, sv (ByteArray.mk #[])], iv 0]), (31, AV.agg [iv (xCol (ByteArray.mk #[]) (ByteArray.mk #[110])).kind, iv (xCol (ByteArray.mk #[]) (ByteArray.mk #[110])).op, bv (xCol (ByteArray.mk #[]) (ByteArray.mk #[110])).not, iv (xCol (ByteArray.mk #[]) (ByteArray.mk #[110])).val.kind, iv (xCol (ByteArray.mk #[]) (ByteArray.mk #[110])).val.int, sv (xCol (ByteArray.mk #[]) (ByteArray.mk #[110])).val.text, sv (xCol (ByteArray.mk #[]) (ByteArray.mk #[110])).table, sv (xCol (ByteArray.mk #[]) (ByteArray.mk #[110])).name, AV.sl (cellsX []), AV.sl (cellsQ [])]), (32, AV.sl [[iv (xCol (ByteArray.mk #[]) (ByteArray.mk #[110])).kind, iv (xCol (ByteArray.mk #[]) (ByteArray.mk #[110])).op, bv (xCol (ByteArray.mk #[]) (ByteArray.mk #[110])).not, iv (xCol (ByteArray.mk #[]) (ByteArray.mk #[110])).val.kind, iv (xCol (ByteArray.mk #[]) (ByteArray.mk #[110])).val.int, sv (xCol (ByteArray.mk #[]) (ByteArray.mk #[110])).val.text, sv (xCol (ByteArray.mk #[]) (ByteArray.mk #[110])).table, sv (xCol (ByteArray.mk #[]) (ByteArray.mk #[110])).name, AV.sl (cellsX []), AV.sl (cellsQ [])]]), (33, AV.agg [AV.bl false, AV.sl [[iv (xCol (ByteArray.mk #[]) (ByteArray.mk #[110])).kind, iv (xCol (ByteArray.mk #[]) (ByteArray.mk #[110])).op, bv (xCol (ByteArray.mk #[]) (ByteArray.mk #[110])).not, iv (xCol (ByteArray.mk #[]) (ByteArray.mk #[110])).val.kind, iv (xCol (ByteArray.mk #[]) (ByteArray.mk #[110])).val.int, sv (xCol (ByteArray.mk #[]) (ByteArray.mk #[110])).val.text, sv (xCol (ByteArray.mk #[]) (ByteArray.mk #[110])).table, sv (xCol (ByteArray.mk #[]) (ByteArray.mk #[110])).name, AV.sl (cellsX []), AV.sl (cellsQ [])]], sv (ByteArray.mk #[108, 111, 103]), AV.nl]), (34, AV.sl [[bv false, AV.sl [[iv (xCol (ByteArray.mk #[]) (ByteArray.mk #[110])).kind, iv (xCol (ByteArray.mk #[]) (ByteArray.mk #[110])).op, bv (xCol (ByteArray.mk #[]) (ByteArray.mk #[110])).not, iv (xCol (ByteArray.mk #[]) (ByteArray.mk #[110])).val.kind, iv (xCol (ByteArray.mk #[]) (ByteArray.mk #[110])).val.int, sv (xCol (ByteArray.mk #[]) (ByteArray.mk #[110])).val.text, sv (xCol (ByteArray.mk #[]) (ByteArray.mk #[110])).table, sv (xCol (ByteArray.mk #[]) (ByteArray.mk #[110])).name, AV.sl (cellsX []), AV.sl (cellsQ [])]], sv (ByteArray.mk #[108, 111, 103]), AV.sl []]]), (35, AV.agg [iv 10, iv 0, AV.bl false, iv 0, iv 0, sv (ByteArray.mk #[]), sv (ByteArray.mk #[]), sv (ByteArray.mk #[]), AV.nl, AV.sl [[bv false, AV.sl [[iv (xCol (ByteArray.mk #[]) (ByteArray.mk #[110])).kind, iv (xCol (ByteArray.mk #[]) (ByteArray.mk #[110])).op, bv (xCol (ByteArray.mk #[]) (ByteArray.mk #[110])).not, iv (xCol (ByteArray.mk #[]) (ByteArray.mk #[110])).val.kind, iv (xCol (ByteArray.mk #[]) (ByteArray.mk #[110])).val.int, sv (xCol (ByteArray.mk #[]) (ByteArray.mk #[110])).val.text, sv (xCol (ByteArray.mk #[]) (ByteArray.mk #[110])).table, sv (xCol (ByteArray.mk #[]) (ByteArray.mk #[110])).name, AV.sl (cellsX []), AV.sl (cellsQ [])]], sv (ByteArray.mk #[108, 111, 103]), AV.sl []]]]), (36, AV.agg [sv schLog.name, AV.sl [[sv (ByteArray.mk #[110]), iv 1, bv false, bv false], [sv (ByteArray.mk #[115]), iv 3, bv false, bv false]], iv 4, AV.own 1 rows1.length]), (37, AV.sl [[sv schLog.name, AV.sl [[sv (ByteArray.mk #[110]), iv 1, bv false, bv false], [sv (ByteArray.mk #[115]), iv 3, bv false, bv false]], iv 4, AV.sl (List.map Rw.cells rows1)]]), (38, AV.tup [AV.agg [iv 1, iv 9223372036854775807, sv (ByteArray.mk #[])], iv 0]), (39, AV.agg [iv 1, iv 9223372036854775807, sv (ByteArray.mk #[])]), (40, iv 0)] [Blk.box [sv schLog.name, AV.sl [[sv (ByteArray.mk #[110]), iv 1, bv false, bv false], [sv (ByteArray.mk #[115]), iv 3, bv false, bv false]], iv 4, AV.own 1 rows1.length], Blk.row 69 (List.map Rw.cells rows1) true, Blk.box [iv 1, iv 9223372036854775807, sv (ByteArray.mk #[])]], sc (k_ref1_Truth (false)), sc (k_world_Lit (V.mk 2 (if false = true then 1 else 0) (ByteArray.mk #[]))), sc (k_world_Num (1) (by first | assumption | (simp; done) | rfl)), sc (k_world_Num (0) (by first | assumption | (simp; done) | rfl)), sc (k_world_Bin (12) (xNum 1) (xNum 0)), sc (k_world_Num (1) (by first | assumption | (simp; done) | rfl)), sc (k_world_Bin (3) (xBin 12 (xNum 1) (xNum 0)) (xNum 1)), sc (k_world_Bin (2) (xLit (V.mk 2 (if false = true then 1 else 0) (ByteArray.mk #[]))) (xBin 3 (xBin 12 (xNum 1) (xNum 0)) (xNum 1))), sc h2, sd [(3, [sg (rfl : true = true)]), (4, [so (rfl : true = true) (sc (k_ref1_Number (9223372036854775807)))]), (5, [so (rfl : true = true) (sq seq_Value)]), (8, [sg (rfl : true = true)]), (9, [sg (rfl : true = true)])]] (by kernel_rfl)))))⟩
end Go.AM

namespace Go.AM
set_option maxRecDepth 100000
set_option maxHeartbeats 1000000
set_option linter.unusedSimpArgs false
set_option linter.unusedVariables false
theorem PrefOk.good {cols : List Col} {vals : List V} (h : RowOk cols vals) : ∀ v ∈ vals, v.Good := fun v hv => by
  obtain ⟨k, hk, hkv⟩ := List.mem_iff_getElem.1 hv
  have hl := h.len
  obtain ⟨c, hc⟩ := ex_at (l := cols) (i := k) (by omega)
  exact (h.at_ k c v hc (by rw [← hkv]; simp)).good
theorem FsT.ok {frs : List Fr} (h : FsT frs) (n : Nat) (hn : n ≤ 900000) : FsOk n frs :=
  ⟨by have := h.len; omega, fun f hf => few_short (h.few f hf), fun f hf v hv => ((h.rows f hf).good v hv).small⟩
theorem FsT.g {frs : List Fr} (h : FsT frs) : FsG frs := fun f hf v hv => (h.rows f hf).good v hv
theorem StoreOk.tbOk {l : List Tb} (h : StoreOk l) : TbOk l :=
  ⟨by have := h.len; simp only [Short]; omega, fun x hx => (h.tabs x hx).2.short, fun x hx => (h.tabs x hx).1.len, fun x hx r hr v hv => (((h.tabs x hx).1.rows r hr).good v hv).small⟩
theorem StoreOk.tbG {l : List Tb} (h : StoreOk l) : TbG l :=
  ⟨fun x hx r hr v hv => ((h.tabs x hx).1.rows r hr).good v hv, fun x hx => (h.tabs x hx).1.len⟩
theorem fsOk_nil (n : Nat) (hn : n ≤ 1000) : FsOk n [] := ⟨by simp; omega, fun f hf => (by cases hf), fun f hf => (by cases hf)⟩
theorem fsG_nil : FsG [] := fun f hf => by cases hf
theorem knRows_good : ∀ r ∈ knRows, ∀ v ∈ r.vals, v.Good := by
  intro r hr v hv
  simp only [knRows, List.mem_cons, List.not_mem_nil, or_false] at hr
  rcases hr with rfl | rfl | rfl <;> simp only [List.mem_cons, List.not_mem_nil, or_false] at hv <;> rcases hv with rfl | rfl
  all_goals first | exact good_null | exact good_int ⟨by decide, by decide⟩
theorem kn1 : eval 2 knE1 [] [⟨schLog, 4, knRows⟩] = (⟨1, 9223372036854775807, ⟨#[]⟩⟩, 0) := by kernel_rfl
theorem kn2 : eval 4 knE2 [] [] = (⟨0, 0, ⟨#[]⟩⟩, 7) := by kernel_rfl
theorem knX1 : XOk 2 knE1 := xok_q (by simp) (all1 (xok_col ⟨_, _, rfl⟩)) all0
theorem knX2 : XOk 4 knE2 := xok_2 (xok_lit (good_bool (n := 0) (by decide))) (xok_2 (xok_2 (xok_lit (good_int ⟨by decide, by decide⟩)) (xok_lit (good_int ⟨by decide, by decide⟩))) (xok_lit (good_int ⟨by decide, by decide⟩)))
theorem k_law15_known : ACallsTo E0 S.law15_known [] [] (bv true) [] := by
  obtain ⟨b, rfl, h⟩ := c_known (fun rows h => by
    have h2 : rows = knRows := h
    subst h2
    have h := c_Value 2 knE1 [] [⟨schLog, 4, knRows⟩] knX1 (fsOk_nil 2 (by decide)) fsG_nil
      ⟨by simp, fun x hx => by simp at hx; subst hx; decide, fun x hx => by simp at hx; subst hx; decide, fun x hx r hr v hv => by simp at hx; subst hx; exact (knRows_good r hr v hv).small⟩
      ⟨fun x hx r hr v hv => by simp at hx; subst hx; exact knRows_good r hr v hv, fun x hx => by simp at hx; subst hx; decide⟩
    rw [kn1] at h
    exact h) (by
    have h := c_Value 4 knE2 [] [] knX2 (fsOk_nil 4 (by decide)) fsG_nil ⟨by simp, fun x hx => (by cases hx), fun x hx => (by cases hx), fun x hx => (by cases hx)⟩ ⟨fun x hx => (by cases hx), fun x hx => (by cases hx)⟩
    rw [kn2] at h
    exact h)
  exact h
end Go.AM
